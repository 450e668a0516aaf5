/- Parts of the proof, in one file. -/
import Derived.Test.YtdhclndplbopgaaGreatKa
open Array renaming length_toList → ybg, getElem?_toList → ycn, getElem?_eq_getElem → yco, getElem?_eq_some_iff → ydc
open Bool renaming and_eq_true → yi
open Go renaming TypeId → yc, Program → yg, Value → yh, Operand → yo
open List renaming length_append → yl, getElem?_eq_some_iff → yq, range → yu, replicate → yy, getElem?_eq_getElem → yab, length_map → yac, append_assoc → yad, length_take → yah, length_cons → yai, map_cons → yaj, mem_singleton → yam, getElem?_map → yan, getElem?_append_left → yao, getElem?_eq_none → yap, getElem?_cons_succ → yaq, getElem?_cons_zero → yau, getElem?_append_right → yax, mem_cons_self → yay, mem_cons_of_mem → yba, eq_nil_of_length_eq_zero → ybl, length_set → ybn, ext_getElem? → ybs, getElem?_set → ybw, take_append_drop → ybx, length_drop → yby, mem_of_getElem? → ycf, mem_of_mem_take → ycj, getElem?_take → ycl, getElem_of_mem → ycw
open Nat renaming le_refl → yj, add_mul → yaz, zero_add → ybe, min_eq_left → ybr, mul_le_mul_right → ycc, eq_zero_or_pos → ycd, add_assoc → yci
open Option renaming bind_eq_some_iff → yf, map_eq_some_iff → yn, map_some → yaa
open Option.some renaming injEq → yp, inj → ybk
open Prod.mk renaming injEq → yz
set_option linter.unusedVariables false
set_option linter.unusedSimpArgs false
section
namespace Go.Ev
theorem ZGq{xs:yL Pl}{i:Nat}{x y:Pl}(hx:xs[i]? =some x)(hs:y.size=x.size):Pl.sizes (xs.set i y)=Pl.sizes xs:=by
 rw[ZhV,ZhV,List.map_set,hs];congr 1;apply ybs;intro j;rw[ybw];split
 ·rename_i h;subst h;have:=(yq.1 hx).1;rw[yan,hx];simp[this]
 ·rfl
theorem Zve{xs:yL Dv}{i:Nat}{x y:Dv}(hx:xs[i]? =some x)(hs:y.size=x.size):Dv.sizes (xs.set i y)=Dv.sizes xs:=by
 rw[ZeJ,ZeJ,List.map_set,hs];congr 1;apply ybs;intro j;rw[ybw];split
 ·rename_i h;subst h;have:=(yq.1 hx).1;rw[yan,hx];simp[this]
 ·rfl
theorem ZhH{α:Type}{xs:yL α}{i:Nat}{x y:α}(hx:xs[i]? =some x):xs.set i y=xs.take i++(y::xs.drop (i+1)):=by
 rw[List.set_eq_take_append_cons_drop,yW (yq.1 hx).1]
theorem Zqb{α:Type}{Q:α->Prop}{xs:yL α}{i:Nat}{y:α}(h:∀x,x∈xs->Q x)(hy:Q y):∀x,x∈xs.set i y->Q x:=by
 intro x hx;rcases List.mem_or_eq_of_mem_set hx with h1|h1
 ·exact h x h1
 ·rw[h1];exact hy
theorem Zne{σ:Sg}:∀{xs:yL Pl}{us:yL yh},repCs σ.w σ.stab xs us->repDs σ (xs.map Dv.p) us
 |[],us,h=>by simpa[repCs,repDs] using h
 |x::xs,us,h=>by
  simp only[repCs] at h;obtain⟨a,b,h1,h2,h3⟩:=h;simp only[yaj,repDs];exact⟨a,b,h1,by simpa[yJ] using h2,Zne h3⟩
theorem ZeK{σ:Sg}:∀(yS:yL Nat)(dd:Dv)(hs hs':yL Hint)(C:yL Prop)(off:Nat)(sub:Dv)(us:yL yh),Xb dd yS hs=some (C,off,sub,hs')->AllP C->yJ σ dd us->
 ∃x y z,us=x++(y++z)/\x.length=off/\yJ σ sub y/\∀new dd' y',Zaq new dd yS hs=some dd'->new.size=sub.size->yJ σ new y'->yJ σ dd' (x++(y'++z))/\dd'.size=dd.size
 |[],dd,hs,hs',C,off,sub,us,h,hc,hr=>by
  simp only[Xb,yp,yz] at h;obtain⟨rfl,rfl,rfl,rfl⟩:=h;refine⟨[],us,[],by simp,rfl,hr,λnew dd' y' hp hs hn=> ?_⟩;simp only[Zaq,yp] at hp;subst hp
  exact⟨by simpa using hn,hs⟩
 |i::yS,dd,hs,hs',C,off,sub,us,h,hc,hr=>by
  cases dd with
  |p q=>
   cases q with
   |agg xs=>
    simp only[Xb] at h;split at h
    ·rename_i x hx;simp only[yn,yz] at h;obtain⟨⟨C1,off1,sub1,hs1⟩,h1,rfl,rfl,rfl,rfl⟩:=h;simp only[yJ,repC] at hr;obtain⟨p1,p2,p3,rfl,h2,h3,_,h6,h7⟩:=Zfq hr hx;obtain⟨q1,q2,q3,rfl,h4,h5,h8⟩:=ZeK yS (.p x) _ _ _ _ _ p2 h1 hc (by simpa[yJ] using h3);refine⟨p1++q1,q2,q3++p3,by simp,by rw[yl,h2,h4],h5,λnew dd' y' hp hs hn=> ?_⟩;simp only[Zaq,hx] at hp;split at hp
     ·rename_i y hy;cases hp;obtain⟨k1,k2⟩:=h8 new _ y' hy hs hn;have k3:y.size=x.size:=by simpa[Dv.size] using k2
      refine⟨?_,by simp only[Dv.size,Pl.size];exact ZGq hx k3⟩;simp only[yJ,repC];rw[ZhH hx];have e:p1++q1++(y'++(q3++p3))=p1++((q1++(y'++q3))++p3):=by simp
      rw[e];refine WH h6 ?_;simp only[repCs];exact⟨_,_,rfl,by simpa[yJ] using k1,h7⟩
     ·rename_i y hy hne;cases hp;obtain⟨k1,k2⟩:=h8 new _ y' hne hs hn;have k3:y.size=x.size:=by simpa[Dv.size] using k2
      have hx':(xs.map Dv.p)[i]? =some (.p x):=by rw[yan,hx];rfl
      refine⟨?_,by
       simp only[Dv.size,Pl.size];rw[Zve hx' k3,ZeJ,ZhV,List.map_map];rfl⟩
      simp only[yJ];rw[ZhH hx'];have e:p1++q1++(y'++(q3++p3))=p1++((q1++(y'++q3))++p3):=by simp
      rw[e, <-List.map_take, <-List.map_drop];refine Zc4 (Zne h6) ?_;simp only[repDs];exact⟨_,_,rfl,k1,Zne h7⟩
     ·cases hp
    ·cases h
   |arr n s xs=>
    simp only[Xb] at h;split at h
    ·rename_i y hs1;simp only[yn,yz] at h;obtain⟨⟨C1,off1,sub1,hs1⟩,h1,rfl,rfl,rfl,rfl⟩:=h;obtain⟨hx,hc⟩:=hc;simp only[yJ,repC] at hr;obtain⟨hl,zV,hr⟩:=hr;obtain⟨p1,p2,p3,rfl,h2,h3,_,h6,h7⟩:=Zfq hr hx;obtain⟨q1,q2,q3,rfl,h4,h5,h8⟩:=ZeK yS (.p y) _ _ _ _ _ p2 h1 hc (by simpa[yJ] using h3);have hi:i < xs.length:=(yq.1 hx).1;refine⟨p1++q1,q2,q3++p3,by simp,by rw[yl,h2,h4,sizes_all (Zcu zV i),yah,ybr (Nat.le_of_lt hi)],h5,λnew dd' y' hp hs hn=> ?_⟩;simp only[Zaq] at hp;split at hp
     ·rename_i z hz;cases hp;obtain⟨k1,k2⟩:=h8 new _ y' hz hs hn;have k3:z.size=y.size:=by simpa[Dv.size] using k2
      have k4:z.size=s:=by rw[k3];exact zV y (ycf hx)
      refine⟨?_,rfl⟩;simp only[yJ,repC];refine⟨by rw[ybn];exact hl,Zqb zV (by rw[Zr9];exact k4), ?_⟩;rw[ZhH hx];have e:p1++q1++(y'++(q3++p3))=p1++((q1++(y'++q3))++p3):=by simp
      rw[e];refine WH h6 ?_;simp only[repCs];exact⟨_,_,rfl,(Zov z).rep _ _ _ (by simpa[yJ] using k1),h7⟩
     ·rename_i z hz hne;cases hp;obtain⟨k1,k2⟩:=h8 new _ y' hne hs hn;have k3:z.size=y.size:=by simpa[Dv.size] using k2
      have k4:z.size=s:=by rw[k3];exact zV y (ycf hx)
      have hx':(xs.map Dv.p)[i]? =some (.p y):=by rw[yan,hx];rfl
      refine⟨?_,rfl⟩;simp only[yJ]
      refine⟨by rw[ybn,yac];exact hl,Zqb (λq hq=>by
       obtain⟨q',hq',rfl⟩:=List.mem_map.1 hq;exact zV q' hq') k4, ?_⟩
      rw[ZhH hx'];have e:p1++q1++(y'++(q3++p3))=p1++((q1++(y'++q3))++p3):=by simp
      rw[e, <-List.map_take, <-List.map_drop];refine Zc4 (Zne h6) ?_;simp only[repDs];exact⟨_,_,rfl,k1,Zne h7⟩
     ·cases hp
    ·cases h
   |_=>simp[Xb] at h
  |agg xs=>
   simp only[Xb] at h;split at h
   ·rename_i x hx;simp only[yn,yz] at h;obtain⟨⟨C1,off1,sub1,hs1⟩,h1,rfl,rfl,rfl,rfl⟩:=h;simp only[yJ] at hr;obtain⟨p1,p2,p3,rfl,h2,h3,_,h6,h7⟩:=ZhT hr hx;obtain⟨q1,q2,q3,rfl,h4,h5,h8⟩:=ZeK yS x _ _ _ _ _ p2 h1 hc h3;refine⟨p1++q1,q2,q3++p3,by simp,by rw[yl,h2,h4],h5,λnew dd' y' hp hs hn=> ?_⟩;simp only[Zaq,hx,yn] at hp;obtain⟨y,hy,rfl⟩:=hp;obtain⟨k1,k2⟩:=h8 new _ y' hy hs hn;refine⟨?_,by simp only[Dv.size];exact Zve hx k2⟩;simp only[yJ];rw[ZhH hx];have e:p1++q1++(y'++(q3++p3))=p1++((q1++(y'++q3))++p3):=by simp
    rw[e];refine Zc4 h6 ?_;simp only[repDs];exact⟨_,_,rfl,k1,h7⟩
   ·cases h
  |arr n s xs=>
   simp only[Xb] at h;split at h
   ·rename_i x hx;simp only[yn,yz] at h;obtain⟨⟨C1,off1,sub1,hs1⟩,h1,rfl,rfl,rfl,rfl⟩:=h;simp only[yJ] at hr;obtain⟨hl,zV,hr⟩:=hr;obtain⟨p1,p2,p3,rfl,h2,h3,_,h6,h7⟩:=ZhT hr hx;obtain⟨q1,q2,q3,rfl,h4,h5,h8⟩:=ZeK yS x _ _ _ _ _ p2 h1 hc h3;have hi:i < xs.length:=(yq.1 hx).1;refine⟨p1++q1,q2,q3++p3,by simp,by rw[yl,h2,h4,dsizes_all (λy hy=>zV y (ycj hy)),yah,ybr (Nat.le_of_lt hi)],h5,λnew dd' y' hp hs hn=> ?_⟩;simp only[Zaq,hx,yn] at hp;obtain⟨y,hy,rfl⟩:=hp;obtain⟨k1,k2⟩:=h8 new _ y' hy hs hn;refine⟨?_,rfl⟩;simp only[yJ];refine⟨by rw[ybn];exact hl,Zqb zV (by rw[k2];exact zV x (ycf hx)), ?_⟩;rw[ZhH hx];have e:p1++q1++(y'++(q3++p3))=p1++((q1++(y'++q3))++p3):=by simp
    rw[e];refine Zc4 h6 ?_;simp only[repDs];exact⟨_,_,rfl,k1,h7⟩
   ·cases h
  |_=>simp[Xb] at h
section
variable{P:yg}{o:Oper}{a:Act}{σ:Sg}{ts:yL Dv}{hs hs':yL Hint}{C:yL Prop}{d:Dv}
theorem Zox{σ':Sg}(hr:(execOp a.eval o).run P σ.w=.ok .skip σ'.w)(to:To σ σ')(ok:Ok σ'):WI P o a σ .junk σ'.H:=by
 intro K Q h;unfold Oper.wp;rw[hr];exact h undef σ' rfl to ok W3
theorem ZxQ{v:Dv}{u:yh}(hr:yK σ v u):yK σ v.meltP u:=by
 unfold Dv.meltP;split
 ·rename_i x h1;exact ZuY h1 hr
 ·exact hr
theorem Zvf{yS:yL Nat}{dd v new:Dv}{u:yh}(h:ZhQ yS dd v=some new)(hr:yK σ v u):yK σ new u:=by
 unfold ZhQ at h;split at h
 ·cases h;exact ZxQ hr
 ·split at h
  ·cases h;exact ZxQ hr
  ·cases h;exact hr
theorem ZA5{x y z y':yL yh}{cs:Array yh}{n:Nat}(h:cs.toList.take n=x++(y++z))(hl:y'.length=y.length)(hn:n<=cs.size):
 (cs.toList.take x.length++y'++cs.toList.drop (x.length+y'.length)).take n=x++(y'++z)/\(cs.toList.take x.length++y'++cs.toList.drop (x.length+y'.length)).length=cs.size:=by
 have hnl:n=x.length+(y.length+z.length):=by
  have:=congrArg List.length h;simp only[yah,ybg,yl] at this;omega
 have e:cs.toList=x++(y++z)++cs.toList.drop n:=by rw[<-h,ybx]
 have e1:cs.toList.take x.length=x:=by rw[e];simp
 have e2:cs.toList.drop (x.length+y'.length)=z++cs.toList.drop n:=by
  have hc:cs.toList=(x++y)++(z++cs.toList.drop n):=by
   have:x++y++(z++cs.toList.drop n)=x++(y++z)++cs.toList.drop n:=by simp
   rw[this];exact e
  have hle:x.length+y'.length=(x++y).length:=by rw[yl,hl]
  rw[hle];have:=congrArg (List.drop (x++y).length) hc;rw[List.drop_left] at this;exact this
 rw[e1,e2];constructor
 ·have:x++y'++(z++cs.toList.drop n)=(x++(y'++z))++cs.toList.drop n:=by simp
  rw[this,hnl];have hle:x.length+(y.length+z.length)=(x++(y'++z)).length:=by simp[hl]
  rw[hle];exact List.take_left
 ·simp only[yl,yby,ybg];omega
theorem ZKt(ok:Ok σ)(yR:RepT σ ts a){t:yc}{x y:yo}{id off:Nat}{yS:yL Nat}{dd sub new dd':Dv}{C1:yL Prop}{off':Nat}(ho:o.op=.store t x y)(hx:ZS P ts 0 x=.ref id off yS)
 (hH:σ.H[id]? =some (.var dd true)) (hg:Xb dd yS hs=some (C1,off',sub,hs')) (hc:AllP C1) (he:off'=off) (hn:ZhQ yS dd (ZS P ts t y)=some new) (hp:Zaq new dd yS hs=some dd')
 (hsol:new.solid=true) (hsz:new.size=sub.size) (ht:P.cellsOf t=new.size) (hi:(P.info? t).isSome=true):WI P o a σ .junk (σ.H.set id (.var dd' true)):=by
 subst he;have hxv:=Zs (P:=P) yR 0 x;have hyv:=Zvf hn (Zs (P:=P) yR t y);rw[hx] at hxv;obtain⟨b,hm,hv,hxv⟩:=Zjj hxv;obtain⟨b',cs,t',h1,h2,h3,h4⟩:=ok.ent id _ _ hH hm;cases h1;obtain⟨p1,p2,p3,h5,h6,h7,h8⟩:=ZeK yS dd hs hs' C1 off' sub _ hg hc h3;have hcells:=ZcL hsol hyv;obtain⟨h9,h10⟩:=h8 new dd' _ hp hsz hcells;have hl1:(a.eval y).cells.toList.length=new.size:=Vu _ _ hcells;have hl2:p2.length=sub.size:=Vu _ _ h7;have hll:(a.eval y).cells.toList.length=p2.length:=by rw[hl1,hl2,hsz]
 obtain⟨k1,k2⟩:=ZA5 h5 hll h4;rw[h6] at k1 k2
 have hnl:off'+(a.eval y).cells.toList.length<=cs.size:=by
  have:=congrArg List.length h5;simp only[yah,ybg,yl] at this;omega
 have hone:∀u,u∈(a.eval y).cells.toList->u.oneCell'=true:=Zow new _ hsol hcells;have hst:=run_storeCells_at P b off' t' (a.eval y).cells.toList 0 cs σ.w h2 (by simpa using hnl) hone;simp only[Nat.add_zero] at hst;let ncs:Array yh:=(cs.toList.take off'++(a.eval y).cells.toList++cs.toList.drop (off'+(a.eval y).cells.toList.length)).toArray;let σ':Sg:={ σ with m:=σ.m.set id (some b),H:=σ.H.set id (.var dd' true),w:=σ.w.setRow b ncs};have zX:σ'.w.heap[b]? =some (.cells ncs t' (0,0)):=setRow_heap σ.w b cs _ t' _ h2;have hoth:∀j,b≠j->σ'.w.heap[j]? =σ.w.heap[j]? :=λj hj=>setRow_other σ.w b j _ (Ne.symm hj)
 obtain⟨to,ok'⟩:=Ve (σ':=σ') (mi:=some b) (mi':=some b) ok hH hm rfl rfl rfl rfl rfl rfl rfl (by simp[σ'])
  (λj hj hne=>hoth j (λhh=>hne (by rw[hh]))) (λb' o v _ hu _=>by cases hu) (λo _ hu=>by cases hu) (.inl rfl) (λ_=>⟨rfl,dd',true,rfl⟩) (λ⟨d,st,h⟩=>by cases h)
  (λs e xs h=>by cases h) (λleaf=>⟨b,ncs,t',rfl,zX,by rw[h10];show yJ σ' dd' (ncs.toList.take dd.size);rw[show ncs.toList.take dd.size=p1++((a.eval y).cells.toList++p3) from k1];exact YY leaf dd' _ h9,by
    rw[h10];show dd.size<=ncs.size;have:ncs.size=cs.size:=k2;omega⟩)
 refine Zox (σ':=σ') ?_ to ok'
 cases hi':P.info? t with
 |none=>simp[hi'] at hi
 |some i=>
  have hs:(a.eval y).cells.size=i.size:=by
   rw[<-ybg,hl1, <-ht];simp[Program.cellsOf,hi']
  simp only[execOp,ho,hxv,Instr.storeAt,Instr.sureAddr,storeVar,sizeOf,typeInfo,Sem.run_bind,run_program,Result.andThen_ok,hi',Sem.run_pure,hs,ne_eq,not_true,if_false,hst];rfl
theorem ZLT(ok:Ok σ)(yR:RepT σ ts a){t e:yc}{x:yo}{lo hi:yO yo}{id off n s:Nat}{yS:yL Nat}{dd:Dv}{st:Bool}{xs:yL Pl}{C1:yL Prop}{off':Nat}{l r:yO Int}
 (ho:o.op=.slice t x lo hi none) (hu:P.underlying t=some (.array n e)) (hx:ZS P ts t x=.ref id off yS) (hl:ZhN P ts lo=some l) (hr:ZhN P ts hi=some r)
 (hH:σ.H[id]? =some (.var dd st)) (hg:Xb dd yS hs=some (C1,off',.p (.arr n s xs),hs')) (hc:AllP C1) (he:off'=off) (hce:P.cellsOf e=s) (hi':(P.info? e).isSome=true) (hm':n<=maxLen)
 (hcut:AllP (XT n l r)):WI P o a σ (.p (.sl (some true) s (Q9 xs l r))) (σ.H.set id (.var dd false)):=by
 have hxv:=Zs (P:=P) yR t x;rw[hx] at hxv;obtain⟨b,hm,hv,hxv⟩:=Zjj hxv;obtain⟨cs,t',p1,p2,p3,h2,h4,h5,h6,h7,h3,h8⟩:=ZqO ok hm hH hg hc he;simp only[yJ,repC] at h7;obtain⟨h9,h10,h11⟩:=h7;subst h9;let σ':Sg:={ σ with m:=σ.m.set id (some b),H:=σ.H.set id (.var dd false)};have hmset:σ'.m[id]? =some (some b):=getElem?_set_eq' hm;have hHset:σ'.H[id]? =some (.var dd false):=getElem?_set_eq' hH
 obtain⟨to,ok'⟩:=Ve (σ':=σ') (mi:=some b) (mi':=some b) ok hH hm rfl rfl rfl rfl rfl rfl rfl (yj _)
  (λ_ _ _=>rfl) (λ_ _ _ _ _ h=>h) (λo _ hu=>rfl) (.inl rfl) (λ_=>⟨rfl,dd,false,rfl⟩) (λ⟨d,st,h⟩=>by cases h)
  (λs e xs h=>by cases h) (λleaf=>⟨b,cs,t',rfl,h2,YY leaf dd _ h3,h4⟩)
 have hcells:VP σ'.w σ'.stab b off p2:=λj u hu=>by
  refine⟨h8 j u hu,.inr (ok.own id b hm),λj' e' g1 g2=> ?_⟩;have:j'=id:=ok'.inj j' id _ g1 hmset;subst this;rw[hHset] at g2;cases g2;rfl
 obtain⟨p,q,hb,k1,k2,rfl,rfl⟩:=Zcw (P:=P) (w:=σ.w) false xs.length xs.length _ _ _ _ (Xc yR hl) (Xc yR hr) hcut (yj _);obtain⟨j1,j2,j3,j4,j5,j6,j7⟩:=Zuu (A:=some ⟨b,off,none⟩) (w:=σ'.w) (S:=σ'.stab) h10 (yj _) hm' (λhA=>by cases hA) (λ_=>⟨b,off,p2,rfl,repCs_mono to.leaf.cells _ _ h11,hcells⟩) k1 k2
 have zW:(Instr.sliceAt t (a.eval x) (lo.map a.eval) (hi.map a.eval) none).run P σ.w=.ok (.slice (some (if xs.length=(l.getD 0).toNat then(⟨b,off,none⟩:Addr) else(⟨b,off,none⟩:Addr).add ((l.getD 0).toNat*s))) ((r.getD (xs.length:Int)).toNat - (l.getD 0).toNat) (xs.length - (l.getD 0).toNat)) σ.w:=by
  rw[hxv];simp[Instr.sliceAt,Instr.sureAddr,run_underlying hu,hb,Yq hi',hce]
 have hrun2:(execOp a.eval o).run P σ.w=.ok (.value (.slice (some (if xs.length=(l.getD 0).toNat then(⟨b,off,none⟩:Addr) else(⟨b,off,none⟩:Addr).add ((l.getD 0).toNat*s))) ((r.getD (xs.length:Int)).toNat - (l.getD 0).toNat) (xs.length - (l.getD 0).toNat))) σ'.w:=by
  show _=Result.ok _ σ.w;simp only[execOp,ho,Option.map_none,Sem.run_bind,zW,Result.andThen_ok,Sem.run_pure]
 refine Yf hrun2 to ok' ?_;rw[Zlm xs l r hcut];have:=Xr (σ:=σ') j1 (by rw[j2];exact j3) j4 (ZeF j5) j6 j7;rw[j2] at this;simpa[apply_ite] using this
end
theorem ZqP:∀{ids:yL Nat},once ids=true->∀(i j id:Nat),ids[i]? =some id->ids[j]? =some id->i=j
 |[],_,i,j,id,h,_=>by simp at h
 |x::r,ho,i,j,id,hi,hj=>by
  simp only[once,yi,Bool.not_eq_true'] at ho;have hx:x ∉ r:=by simpa using ho.1
  cases i with
  |zero=>
   cases j with
   |zero=>rfl
   |succ j=>
    simp only[yau,yp] at hi;simp only[yaq] at hj;subst hi
    exact absurd (ycf hj) hx
  |succ i=>
   cases j with
   |zero=>
    simp only[yau,yp] at hj;simp only[yaq] at hi;subst hj
    exact absurd (ycf hi) hx
   |succ j=>
    simp only[yaq] at hi hj;rw[ZqP ho.2 i j id hi hj]
theorem idxOf?_some{ids:yL Nat}{id j:Nat}(h:ids.idxOf? id=some j):ids[j]? =some id:=by
 induction ids generalizing j with
 |nil=>simp at h
 |cons x r ih=>
  rw[List.idxOf?_cons] at h;split at h
  ·rename_i hx;cases h;have:x=id:=by simpa using hx
   simp[this]
  ·simp only[yn] at h;obtain⟨k,hk,rfl⟩:=h;simpa using ih hk
theorem idxOf?_of{ids:yL Nat}(ho:once ids=true){id j:Nat}(h:ids[j]? =some id):ids.idxOf? id=some j:=by
 cases hi:ids.idxOf? id with
 |none=>
  rw[List.idxOf?_eq_none_iff] at hi
  exact absurd (ycf h) hi
 |some k=>rw[ZqP ho k j id (idxOf?_some hi) h]
theorem Zc6{α:Type}:∀(H:yL α)(ids:yL Nat)(Hb:yL α),ids.length<=Hb.length->(putBack H ids Hb).length=H.length+(Hb.length - ids.length)
 |H,[],Hb,_=>by simp[putBack]
 |H,id::r,[],h=>by simp at h
 |H,id::r,e::Hb,h=>by
  simp only[yai] at h;rw[putBack,Zc6 _ r Hb (by omega),ybn];simp
theorem Zaz{α:Type}:∀(H:yL α)(ids:yL Nat)(Hb:yL α)(i:Nat),ids.length<=Hb.length->i < H.length->i ∉ ids->(putBack H ids Hb)[i]? =H[i]?
 |H,[],Hb,i,_,hi,_=>by simp only[putBack];rw[yao hi]
 |H,id::r,[],i,h,_,_=>by simp at h
 |H,id::r,e::Hb,i,h,hi,hn=>by
  simp only[yai] at h;simp only[List.mem_cons,not_or] at hn;rw[putBack,Zaz _ r Hb i (by omega) (by simpa using hi) hn.2,ybw,yX (Ne.symm hn.1)]
theorem ZhY{α:Type}:∀(H:yL α)(ids:yL Nat)(Hb:yL α)(j id:Nat),once ids=true->ids.length<=Hb.length->(∀i,i∈ids->i < H.length)->ids[j]? =some id->(putBack H ids Hb)[id]? =Hb[j]?
 |H,[],Hb,j,id,_,_,_,h=>by simp at h
 |H,x::r,[],j,id,_,h,_,_=>by simp at h
 |H,x::r,e::Hb,j,id,ho,hl,hlt,h=>by
  simp only[once,yi,Bool.not_eq_true'] at ho;have hx:x ∉ r:=by simpa using ho.1
  simp only[yai] at hl;rw[putBack]
  cases j with
  |zero=>
   simp only[yau,yp] at h;subst h;have hxl:x < H.length:=hlt x (yay ..);rw[Zaz _ r Hb x (by omega) (by simpa using hxl) hx]
   simp[hxl]
  |succ j=>
   simp only[yaq] at h ⊢;exact ZhY _ r Hb j id ho.2 (by omega) (λi hi=>by rw[ybn];exact hlt i (yba _ hi)) h
theorem Zjl{α:Type}:∀(H:yL α)(ids:yL Nat)(Hb:yL α)(j:Nat),ids.length<=Hb.length->ids.length<=j->(putBack H ids Hb)[H.length+(j - ids.length)]? =Hb[j]?
 |H,[],Hb,j,_,_=>by
  simp only[putBack,List.length_nil,Nat.sub_zero];rw[yax (by omega)]
  simp
 |H,id::r,[],j,h,_=>by simp at h
 |H,id::r,e::Hb,j,h,hj=>by
  simp only[yai] at h hj
  cases j with
  |zero=>omega
  |succ j=>
   rw[putBack];have:=Zjl (H.set id e) r Hb j (by omega) (by omega);rw[ybn] at this;simp only[yai,yaq];rw[<-this];congr 1;omega
theorem Za6{H:yL Ent}{all:yL Nat}:∀{ids:yL Nat}{Hin:yL Ent},subEnts H all ids=some Hin->Hin.length=ids.length
 |[],Hin,h=>by simp only[subEnts,yp] at h;subst h;rfl
 |id::r,Hin,h=>by
  simp only[subEnts] at h;split at h
  ·rename_i e es _ h2;cases h;simp[Za6 h2]
  ·cases h
theorem Za7{H:yL Ent}{all:yL Nat}:∀{ids:yL Nat}{Hin:yL Ent}{j id:Nat},subEnts H all ids=some Hin->ids[j]? =some id->
 ∃e e',H[id]? =some e/\Hin[j]? =some e'/\e.rn (toIds all)=some e'
 |[],Hin,j,id,_,hj=>by simp at hj
 |x::r,Hin,j,id,h,hj=>by
  simp only[subEnts] at h;split at h
  ·rename_i e es h1 h2;cases h
   cases j with
   |zero=>
    simp only[yau,yp] at hj;subst hj;simp only[yf] at h1;obtain⟨e0,h3,h4⟩:=h1
    exact⟨e0,e,h3,rfl,h4⟩
   |succ j=>
    simp only[yaq] at hj ⊢;exact Za7 h2 hj
  ·cases h
theorem Zmq{f:Nat->yO Nat}:∀{H Hb:yL Ent},Ent.rns f H=some Hb->Hb.length=H.length
 |[],Hb,h=>by simp only[Ent.rns,yp] at h;subst h;rfl
 |e::H,Hb,h=>by
  simp only[Ent.rns] at h;split at h
  ·rename_i y ys _ h2;cases h;simp[Zmq h2]
  ·cases h
theorem Zjm{f:Nat->yO Nat}:∀{H Hb:yL Ent}{j:Nat}{e:Ent},Ent.rns f H=some Hb->H[j]? =some e->∃e',Hb[j]? =some e'/\e.rn f=some e'
 |[],Hb,j,e,_,he=>by simp at he
 |x::H,Hb,j,e,h,he=>by
  simp only[Ent.rns] at h;split at h
  ·rename_i y ys h1 h2;cases h
   cases j with
   |zero=>
    simp only[yau,yp] at he;subst he
    exact⟨y,rfl,h1⟩
   |succ j=>
    simp only[yaq] at he ⊢;exact Zjm h2 he
  ·cases h
theorem ZEP{f:Nat->yO Nat}{d d':Dv}{s:Nat}(h:d.rn f=some d'):rowN d' s=rowN d s:=by
 cases d with
 |p x=>simp only[Dv.rn,yp] at h;subst h;rfl
 |arr n t xs=>simp only[Dv.rn,yn] at h;obtain⟨ys,_,rfl⟩:=h;rfl
 |elem x=>simp only[Dv.rn,yp] at h;subst h;rfl
 |junk=>simp only[Dv.rn,yp] at h;subst h;rfl
 |_=>simp only[Dv.rn,yn] at h;obtain⟨ys,_,rfl⟩:=h;rfl
theorem Znf{f:Nat->yO Nat}{e e':Ent}{o:Nat}(h:e.rn f=some e'):e'.unlocked o↔e.unlocked o:=by
 cases e with
 |var d st=>
  simp only[Ent.rn,yn] at h;obtain⟨d',_,rfl⟩:=h
  exact Iff.rfl
 |log s t xs=>simp only[Ent.rn,yp] at h;subst h;exact Iff.rfl
 |map t kvs=>simp only[Ent.rn,yp] at h;subst h;exact Iff.rfl
 |row v s st e d=>
  simp only[Ent.rn,yn] at h;obtain⟨d',h,rfl⟩:=h
  simp only[Ent.unlocked,ZEP h]
 |gone=>simp only[Ent.rn,yp] at h;subst h;exact Iff.rfl
theorem Zvg{f:Nat->yO Nat}{σ σ':Sg}(h:Rn f σ σ'){a:yO Nat}{e e':Ent}(he:e.rn f=some e')(hok:entOk σ a e):entOk σ' a e':=by
 cases e with
 |var d st=>
  simp only[Ent.rn,yn] at he;obtain⟨d',hd,rfl⟩:=he;obtain⟨b,cs,t,rfl,h1,h2,h3⟩:=hok;have hs:=(Zg5 d d' hd).1
  exact⟨b,cs,t,rfl,by rw[h.w];exact h1,by rw[hs];exact Zg6 h d d' _ hd h2,by rw[hs];exact h3⟩
 |log s t xs=>
  simp only[Ent.rn,yp] at he;subst he;rcases hok with⟨rfl,h1⟩|⟨b,cur,cap,rfl,h1,h2,h3,h4,h5,h6⟩
  ·exact .inl ⟨rfl,h1⟩
  ·exact .inr ⟨b,cur,cap,rfl,by rw[h.w];exact h1,h2,h3,h4,h5,repCs_mono h.cells xs _ h6⟩
 |map t kvs=>
  simp only[Ent.rn,yp] at he;subst he;obtain⟨b,es,clock,rfl,h1,h2,h3⟩:=hok;refine⟨b,es,clock,rfl,by rw[h.w];exact h1, ?_,h3⟩
  have key:∀(l:yL (Pl×Pl))(es:yL MapEntry),Zjg σ l es->Zjg σ' l es:=by
   intro l
   induction l with
   |nil=>intro es k;cases es <;> exact k
   |cons q r ih=>
    intro es k
    cases es with
    |nil=>exact k
    |cons e es=>exact⟨ZhU h rfl k.1,ZhU h rfl k.2.1,ih es k.2.2⟩
  exact key _ _ h2
 |row v s st e d=>
  simp only[Ent.rn,yn] at he;obtain⟨d',hd,rfl⟩:=he;obtain⟨N,h0,h1⟩:=hok;refine⟨N,by rw[ZEP hd];exact h0, ?_⟩;rcases h1 with h1|⟨b,cur,cap,rfl,h1,h2,h3,h4,h5⟩
  ·exact .inl h1
  ·exact .inr ⟨b,cur,cap,rfl,by rw[h.w];exact h1,h2,h3,h4,Zg6 h d d' _ hd h5⟩
 |gone=>simp only[Ent.rn,yp] at he;subst he;trivial
section
variable{P:yg}{o:Oper}{a:Act}{σ:Sg}{ts:yL Dv}
def callee(σ:Sg)(ids:yL Nat)(Hin:yL Ent):Sg:=
 { F:=σ.stab,B:=λb=>σ.w.heap.size<=b\/∃j:Nat,(ids.map λid=>(σ.m[id]?).getD none)[j]? =some (some b),m:=ids.map λid=>(σ.m[id]?).getD none,H:=Hin,w:=σ.w}
theorem ZA6{ids:yL Nat}{Hin:yL Ent}{j id:Nat}{x:yO Nat}(h:ids[j]? =some id)(hm:σ.m[id]? =some x):(callee σ ids Hin).m[j]? =some x:=by
 show(ids.map λid=>(σ.m[id]?).getD none)[j]? =some x;rw[yan,h];simp[hm]
theorem Vp{ids:yL Nat}{Hin:yL Ent}{j b:Nat}(h:(callee σ ids Hin).m[j]? =some (some b)):∃id,ids[j]? =some id/\σ.m[id]? =some (some b):=by
 have h':(ids.map λid=>(σ.m[id]?).getD none)[j]? =some (some b):=h;rw[yan] at h';obtain⟨id,h1,h2⟩:=yn.1 h';refine⟨id,h1, ?_⟩
 cases hm:σ.m[id]? with
 |none=>rw[hm] at h2;cases h2
 |some x=>rw[hm] at h2;simp at h2;rw[h2]
theorem Zsd(ok:Ok σ){ids:yL Nat}{Hin:yL Ent}(ho:once ids=true)(hin:subEnts σ.H ids ids=some Hin):Rn (toIds ids) σ (callee σ ids Hin) where
 w:=rfl
 stab b o v _ h:=by
  refine⟨.inl h,λj e hj he=> ?_⟩;obtain⟨id,h1,h2⟩:=Vp hj;obtain⟨e0,e',h3,h4,h5⟩:=Za7 hin h1;have he':Hin[j]? =some e:=he;rw[h4] at he';cases he';exact(Znf h5).2 (h.2 id e0 h2 h3)
 m id j hj x hx:=ZA6 (idxOf?_some hj) hx
 H id j hj e he:=by
   obtain⟨e0,e',h3,h4,h5⟩:=Za7 hin (idxOf?_some hj);rw[he] at h3;cases h3;exact⟨e',h4,h5⟩
theorem ZGr(ok:Ok σ){ids:yL Nat}{Hin:yL Ent}(ho:once ids=true)(hin:subEnts σ.H ids ids=some Hin):Ok (callee σ ids Hin) where
 len:=by
  show(ids.map _).length=Hin.length;rw[yac,Za6 hin]
 inj i j b hi hj:=by
  obtain⟨x,h1,h2⟩:=Vp hi;obtain⟨y,h3,h4⟩:=Vp hj;have:=ok.inj x y b h2 h4;subst this;exact ZqP ho i j x h1 h3
 lt i b hi:=by
  obtain⟨x,h1,h2⟩:=Vp hi;exact ok.lt x b h2
 ent i e x he hx:=by
  have he':Hin[i]? =some e:=he;have hi:i < ids.length:=by rw[<-Za6 hin];exact(yq.1 he').1
  obtain⟨e0,e',h3,h4,h5⟩:=Za7 hin (yab hi);rw[he'] at h4;cases h4
  have hm:∃y,σ.m[ids[i]]? =some y:=by
   have:ids[i] < σ.m.length:=by rw[ok.len];exact(yq.1 h3).1
   exact⟨_,yab this⟩
  obtain⟨y,hy⟩:=hm;have:=ZA6 (Hin:=Hin) (yab hi) hy;rw[hx] at this;cases this;exact Zvg (Zsd ok ho hin) h5 (ok.ent _ _ _ h3 hy)
 new b hb:=.inl hb
 own i b hi:=.inr ⟨i,hi⟩
end
end Go.Ev
end
section
namespace Go.Ev
section
variable{P:yg}{o:Oper}{a:Act}{σ:Sg}{ts:yL Dv}
def Zng(σ:Sg)(ids:yL Nat)(Hb:yL Ent)(τ:Sg):Sg:=
 { F:=σ.F,B:=σ.B,m:=putBack σ.m ids τ.m,H:=putBack σ.H ids Hb,w:=τ.w}
theorem ZGs(ok:Ok σ){ids:yL Nat}{Hin Hb:yL Ent}{τ:Sg}(ho:once ids=true)(hin:subEnts σ.H ids ids=some Hin)(to:To (callee σ ids Hin) τ)(okτ:Ok τ)(hle:ids.length<=τ.H.length)
 (hb:Ent.rns (fromIds ids σ.H.length) τ.H=some Hb):
 To σ (Zng σ ids Hb τ)/\Ok (Zng σ ids Hb τ)/\Rn (fromIds ids σ.H.length) τ (Zng σ ids Hb τ):=by
 have hbl:Hb.length=τ.H.length:=Zmq hb;have hml:τ.m.length=τ.H.length:=okτ.len
 have hidl:∀i,i∈ids->i < σ.H.length:=by
  intro i hi;obtain⟨j,hj,rfl⟩:=ycw hi;obtain⟨e0,_,h3,_⟩:=Za7 hin (yab hj);exact(yq.1 h3).1
 have hidm:∀i,i∈ids->i < σ.m.length:=λi hi=>by rw[ok.len];exact hidl i hi
 have mo:∀id,id < σ.H.length->id ∉ ids->(putBack σ.m ids τ.m)[id]? =σ.m[id]? :=λid h1 h2=>Zaz _ _ _ _ (by omega) (by rw[ok.len];exact h1) h2;have Ho:∀id,id < σ.H.length->id ∉ ids->(putBack σ.H ids Hb)[id]? =σ.H[id]? :=λid h1 h2=>Zaz _ _ _ _ (by omega) h1 h2;have ma:∀(j id:Nat),ids[j]? =some id->(putBack σ.m ids τ.m)[id]? =τ.m[j]? :=λj id h=>ZhY _ _ _ _ _ ho (by omega) hidm h;have Ha:∀(j id:Nat),ids[j]? =some id->(putBack σ.H ids Hb)[id]? =Hb[j]? :=λj id h=>ZhY _ _ _ _ _ ho (by omega) hidl h;have mn:∀j,ids.length<=j->(putBack σ.m ids τ.m)[σ.H.length+(j - ids.length)]? =τ.m[j]? :=λj h=>by rw[<-ok.len];exact Zjl _ _ _ _ (by omega) h
 have Hn:∀j,ids.length<=j->(putBack σ.H ids Hb)[σ.H.length+(j - ids.length)]? =Hb[j]? :=λj h=>Zjl _ _ _ _ (by omega) h
 have three:∀id,id < σ.H.length+(τ.H.length - ids.length)->(id < σ.H.length/\id ∉ ids)\/(∃j:Nat,ids[j]? =some id)\/(∃j:Nat,ids.length<=j/\id=σ.H.length+(j - ids.length)):=by
  intro id h;by_cases h1:id < σ.H.length
  ·by_cases h2:id∈ids
   ·obtain⟨j,hj,rfl⟩:=ycw h2;exact .inr (.inl ⟨j,yab hj⟩)
   ·exact .inl ⟨h1,h2⟩
  ·exact .inr (.inr ⟨ids.length+(id - σ.H.length),by omega,by omega⟩)
 have mlen:(putBack σ.m ids τ.m).length=σ.H.length+(τ.H.length - ids.length):=by rw[Zc6 _ _ _ (by omega),ok.len,hml]
 have fromAt:∀(j id:Nat),ids[j]? =some id->fromIds ids σ.H.length j=some id:=λj id h=>by
  have hj:j < ids.length:=(yq.1 h).1;unfold fromIds;rw[yW hj,h]
 have fromNew:∀j,ids.length<=j->fromIds ids σ.H.length j=some (σ.H.length+(j - ids.length)):=λj h=>by
  unfold fromIds;rw[yX (by omega)]
 have back:∀(id b:Nat),(putBack σ.m ids τ.m)[id]? =some (some b)->(id < σ.H.length/\id ∉ ids/\σ.m[id]? =some (some b))\/(∃j:Nat,fromIds ids σ.H.length j=some id/\τ.m[j]? =some (some b)/\(putBack σ.H ids Hb)[id]? =Hb[j]?):=by
  intro id b h;have hlt:id < σ.H.length+(τ.H.length - ids.length):=by rw[<-mlen];exact(yq.1 h).1
  rcases three id hlt with⟨h1,h2⟩|⟨j,h1⟩|⟨j,h1,rfl⟩
  ·exact .inl ⟨h1,h2,by rw[<-mo id h1 h2];exact h⟩
  ·exact .inr ⟨j,fromAt j id h1,by rw[<-ma j id h1];exact h,Ha j id h1⟩
  ·exact .inr ⟨j,fromNew j h1,by rw[<-mn j h1];exact h,Hn j h1⟩
 have keep:∀(id b:Nat),id ∉ ids->σ.m[id]? =some (some b)->τ.w.heap[b]? =σ.w.heap[b]? :=λid b h1 h2=>
  to.block b (ok.lt id b h2) (λj hj=>by
    obtain⟨id',h3,h4⟩:=Vp hj;have:=ok.inj id id' b h2 h4;subst this;exact h1 (ycf h3))
 have mapped:∀(j b:Nat),τ.m[j]? =some (some b)->(∃id,ids[j]? =some id/\σ.m[id]? =some (some b))\/σ.w.heap.size<=b:=by
  intro j b h;rcases to.same j b h with h1|h1
  ·exact .inl (Vp h1)
  ·exact .inr h1
 have stabτ:∀b o v,τ.w.cell? ⟨b,o,none⟩=some v->τ.stab b o->(Zng σ ids Hb τ).stab b o:=by
  intro b o v hcell h;have hB:τ.B=(callee σ ids Hin).B:=to.B;have hF:τ.F=(callee σ ids Hin).F:=to.F
  have hfirst:σ.stab b o\/σ.B b:=by
   rcases h.1 with h1|h1
   ·rw[hF] at h1;exact .inl h1
   ·rw[hB] at h1;rcases h1 with h1|⟨j,hj⟩
    ·exact .inr (ok.new b h1)
    ·obtain⟨id,_,h3⟩:=Vp (σ:=σ) (Hin:=Hin) hj;exact .inr (ok.own id b h3)
  refine⟨?_,λid e hid he=> ?_⟩
  ·rcases hfirst with h1|h1
   ·exact h1.1
   ·exact .inr h1
  ·have hid':(putBack σ.m ids τ.m)[id]? =some (some b):=hid;have he':(putBack σ.H ids Hb)[id]? =some e:=he;rcases back id b hid' with⟨h1,h2,h3⟩|⟨j,h1,h2,h3⟩
   ·rw[Ho id h1 h2] at he';have hbs:=ok.lt id b h3;rcases h.1 with h4|h4
    ·rw[hF] at h4;exact h4.2 id e h3 he'
    ·rw[hB] at h4;rcases h4 with h4|⟨j,hj⟩
     ·omega
     ·obtain⟨id',h5,h6⟩:=Vp (σ:=σ) (Hin:=Hin) hj;have:=ok.inj id id' b h3 h6;subst this;exact absurd (ycf h5) h2
   ·rw[h3] at he';have hj:j < τ.H.length:=by rw[<-hbl];exact(yq.1 he').1
    obtain⟨e',h4,h5⟩:=Zjm hb (yab hj);rw[he'] at h4;cases h4;exact(Znf h5).2 (h.2 j _ h2 (yab hj))
 have rn:Rn (fromIds ids σ.H.length) τ (Zng σ ids Hb τ):=by
  refine⟨rfl,λb o v h1 h2=>stabτ b o v h1 h2,λj id hj x hx=> ?_,λj id hj e he=> ?_⟩
  ·show(putBack σ.m ids τ.m)[id]? =some x;unfold fromIds at hj;split at hj
   ·rw[ma j id hj];exact hx
   ·cases hj;rw[mn j (by omega)];exact hx
  ·obtain⟨e',h4,h5⟩:=Zjm hb he;refine⟨e', ?_,h5⟩;show(putBack σ.H ids Hb)[id]? =some e';unfold fromIds at hj;split at hj
   ·rw[Ha j id hj];exact h4
   ·cases hj;rw[Hn j (by omega)];exact h4
 have crn:=Zsd ok ho hin
 have leaf:Leaf σ (Zng σ ids Hb τ):=by
  refine⟨λb o v h1 h2=> ?_,λid b h1 h2=> ?_,λid s len A c h1=> ?_,λid b h1 h2=> ?_,λid v s st e d h1=> ?_⟩
  ·obtain⟨h3,h4⟩:=to.leaf.cells b o v h1 (crn.stab b o v h1 h2);exact⟨h3,stabτ b o v h3 h4⟩
  ·have hlt:id < σ.H.length:=by rw[<-ok.len];exact(yq.1 h1).1
   by_cases hi:id∈ids
   ·obtain⟨j,hj,rfl⟩:=ycw hi;have hj':=yab hj;have h3:toIds ids ids[j]=some j:=idxOf?_of ho hj';obtain⟨h4,h5⟩:=to.leaf.var j b (crn.m _ _ h3 _ h1) (crn.var h3 h2);exact⟨rn.m _ _ (fromAt j _ hj') _ h4,rn.var (fromAt j _ hj') h5⟩
   ·exact⟨(mo id hlt hi).trans h1,by
     obtain⟨d,st,h2⟩:=h2;exact⟨d,st,(Ho id hlt hi).trans h2⟩⟩
  ·have h1':=h1;obtain⟨e,ys,h2,h3,h4⟩:=h1;have hlt:id < σ.H.length:=(yq.1 h2).1;by_cases hi:id∈ids
   ·obtain⟨j,hj,rfl⟩:=ycw hi;have hj':=yab hj;have h5:toIds ids ids[j]=some j:=idxOf?_of ho hj';exact rn.front (fromAt j _ hj') (to.leaf.front _ _ _ _ _ (crn.front h5 h1'))
   ·refine⟨e,ys,(Ho id hlt hi).trans h2,h3,λhl=> ?_⟩;rcases h4 hl with⟨h5,h6⟩|⟨b,cur,h5,h6,h7,h8⟩
    ·exact .inl ⟨(mo id hlt hi).trans h5,h6⟩
    ·exact .inr ⟨b,cur,(mo id hlt hi).trans h5,h6,(keep id b hi h5).trans h7,h8⟩
  ·have hlt:id < σ.H.length:=by rw[<-ok.len];exact(yq.1 h1).1
   by_cases hi:id∈ids
   ·obtain⟨j,hj,rfl⟩:=ycw hi;have hj':=yab hj;have h3:toIds ids ids[j]=some j:=idxOf?_of ho hj';obtain⟨h4,h5⟩:=to.leaf.map j b (crn.m _ _ h3 _ h1) (crn.map h3 h2);exact⟨rn.m _ _ (fromAt j _ hj') _ h4,rn.map (fromAt j _ hj') h5⟩
   ·exact⟨(mo id hlt hi).trans h1,by
     obtain⟨d,st,h2⟩:=h2;exact⟨d,st,(Ho id hlt hi).trans h2⟩⟩
  ·have hlt:id < σ.H.length:=(yq.1 h1).1;by_cases hi:id∈ids
   ·obtain⟨j,hj,rfl⟩:=ycw hi;have hj':=yab hj;have h3:toIds ids ids[j]=some j:=idxOf?_of ho hj';obtain⟨d1,h4⟩:=crn.row h3 h1;obtain⟨v',st',d',h5,h6,h7⟩:=to.leaf.row _ _ _ _ _ _ h4;obtain⟨d2,h8⟩:=rn.row (fromAt j _ hj') h5;refine⟨v',st',d2,h8,h6,λhv=> ?_⟩;obtain⟨h9,h10⟩:=h7 hv;have hmm:∃x,σ.m[ids[j]]? =some x:=⟨_,yab (by rw[ok.len];exact hlt)⟩;obtain⟨x,hx⟩:=hmm;have hcx:=crn.m _ _ h3 _ hx;refine⟨by rw[hx];exact rn.m _ _ (fromAt j _ hj') _ (by rw[h9];exact hcx),λb cur hb hc=> ?_⟩;rw[hx] at hb;cases hb;exact h10 b cur hcx hc
   ·exact⟨v,st,d,(Ho id hlt hi).trans h1,yj _,λ_=>⟨mo id hlt hi,λb cur hb hc=>⟨cur,(keep id b hi hb).trans hc,rfl⟩⟩⟩
 refine⟨⟨leaf,rfl,rfl,to.os,to.tape,to.output,to.size,λb hb hn=>to.block b hb (λj hj=> ?_),λid b h=> ?_, ?_⟩,⟨?_, ?_, ?_, ?_,λb h=>ok.new b (Nat.le_trans to.size h), ?_⟩,rn⟩
 ·obtain⟨id,_,h3⟩:=Vp (σ:=σ) (Hin:=Hin) hj;exact hn id h3
 ·rcases back id b h with⟨_,_,h3⟩|⟨j,h1,h2,_⟩
  ·exact .inl h3
  ·rcases mapped j b h2 with⟨id',h3,h4⟩|h3
   ·have:=fromAt j id' h3;rw[h1] at this;cases this;exact .inl h4
   ·exact .inr h3
 ·show σ.m.length<=(putBack σ.m ids τ.m).length;rw[mlen,ok.len];omega
 ·show(putBack σ.m ids τ.m).length=(putBack σ.H ids Hb).length;rw[mlen,Zc6 _ _ _ (by omega),hbl]
 ·intro i j b hi hj;rcases back i b hi with⟨h1,h2,h3⟩|⟨k,h1,h2,_⟩ <;> rcases back j b hj with⟨h4,h5,h6⟩|⟨l,h4,h5,_⟩
  ·exact ok.inj i j b h3 h6
  ·have hbs:=ok.lt i b h3;rcases mapped l b h5 with⟨id',h7,h8⟩|h7
   ·have:=ok.inj i id' b h3 h8;subst this;exact absurd (ycf h7) h2
   ·omega
  ·have hbs:=ok.lt j b h6;rcases mapped k b h2 with⟨id',h7,h8⟩|h7
   ·have:=ok.inj j id' b h6 h8;subst this;exact absurd (ycf h7) h5
   ·omega
  ·have:=okτ.inj k l b h2 h5;subst this;rw[h1] at h4;exact ybk h4
 ·intro i b hi;rcases back i b hi with⟨_,_,h3⟩|⟨k,_,h2,_⟩
  ·exact Nat.lt_of_lt_of_le (ok.lt i b h3) to.size
  ·exact okτ.lt k b h2
 ·intro i e x he hx;have he':(putBack σ.H ids Hb)[i]? =some e:=he;have hx':(putBack σ.m ids τ.m)[i]? =some x:=hx;have hlt:i < σ.H.length+(τ.H.length - ids.length):=by rw[<-mlen];exact(yq.1 hx').1
  have viaτ:∀j,fromIds ids σ.H.length j=some i->τ.m[j]? =some x->Hb[j]? =some e->entOk (Zng σ ids Hb τ) x e:=by
   intro j _ h2 h3;have hj:j < τ.H.length:=by rw[<-hbl];exact(yq.1 h3).1
   obtain⟨e',h4,h5⟩:=Zjm hb (yab hj);rw[h3] at h4;cases h4;exact Zvg rn h5 (okτ.ent j _ x (yab hj) h2)
  rcases three i hlt with⟨h1,h2⟩|⟨j,h1⟩|⟨j,h1,rfl⟩
  ·rw[Ho i h1 h2] at he';rw[mo i h1 h2] at hx';exact ZeI leaf (λb hb'=>keep i b h2 (by rw[hx',hb'])) (ok.ent i e x he' hx')
  ·exact viaτ j (fromAt j i h1) (by rw[<-ma j i h1];exact hx') (by rw[<-Ha j i h1];exact he')
  ·exact viaτ j (fromNew j h1) (by rw[<-mn j h1];exact hx') (by rw[<-Hn j h1];exact he')
 ·intro i b hi;rcases back i b hi with⟨_,_,h3⟩|⟨k,_,h2,_⟩
  ·exact ok.own i b h3
  ·rcases mapped k b h2 with⟨id',_,h8⟩|h7
   ·exact ok.own id' b h8
   ·exact ok.new b h7
theorem ZA7{args:yL yo}{tys:yL yc}(yR:RepT σ ts a)(ids:yL Nat)(hl:args.length=tys.length):repVs σ ((args.zip tys).map λq=>(ZS P ts q.2 q.1).argI ids) (args.map a.eval):=by
 induction args generalizing tys with
 |nil=>simp[repVs]
 |cons x args ih=>
  cases tys with
  |nil=>simp at hl
  |cons t tys=>
   simp only[List.zip_cons_cons,yaj,repVs];exact⟨_,_,rfl,ZAW ids (Zs yR t x),ih (by simpa using hl)⟩
theorem ZHJ{cap:yL Dv}{cs:yL yh}(h:repVs σ cap cs):repVs σ (cap.map Dv.arg) cs:=by
 induction cap generalizing cs with
 |nil=>simpa using h
 |cons d cap ih=>
  simp only[repVs] at h;obtain⟨v,vs',rfl,h1,h2⟩:=h;simp only[yaj,repVs];exact⟨v,vs',rfl,ZKo h1,ih h2⟩
theorem ZxR{cap:yL Dv}{cs:yL yh}(ids:yL Nat)(h:repVs σ cap cs):repVs σ (cap.map (Dv.argI ids)) cs:=by
 induction cap generalizing cs with
 |nil=>simpa using h
 |cons d cap ih=>
  simp only[repVs] at h;obtain⟨v,vs',rfl,h1,h2⟩:=h;simp only[yaj,repVs];exact⟨v,vs',rfl,ZAW ids h1,ih h2⟩
theorem ZGt{c:Call}{f:yo}{g:FuncId}{fs cs:Array yh}(w:World)(ho:o.op=.call c)(hc:c.callee=.value f)(hf:a.eval f=.func (.func g) fs cs)(hb:Zp6 P g=true):
 (execOp a.eval o).run P w=.ok (.enter g (fs++c.args.map a.eval++cs)) w:=by
 unfold Zp6 at hb;split at hb
 ·rename_i fn hfn;simp only[yi,Bool.not_eq_true'] at hb;have h1:¬fn.name= "runtime.NumGoroutine" :=by simpa using hb.2
  have h2:fn.body.isNone=false:=by cases hh:fn.body <;> simp[hh] at hb ⊢
  simp only[execOp,ho,resolve,hc,hf,Deferred.ofValue,Sem.run_bind,Sem.run_pure,Result.andThen_ok,invoke,callFunc,run_program,hfn];simp[h1,h2]
 ·cases hb
theorem ZGu(ok:Ok σ){g:FuncId}{ds args':yL Dv}{av:Array yh}{ids:yL Nat}{Hin H' Hb:yL Ent}{r r':Dv}(hx:(execOp a.eval o).run P σ.w=.ok (.enter g av) σ.w)(hav:repVs σ ds av.toList)
 (honce:once ids=true) (hle:ids.length<=H'.length) (zL:Dv.rns (toIds ids) ds=some args')
 (hin:subEnts σ.H ids ids=some Hin) (hr:r.rn (fromIds ids σ.H.length)=some r') (hb:Ent.rns (fromIds ids σ.H.length) H'=some Hb) (hcon:Con P g args' Hin r H'):WI P o a σ r' (putBack σ.H ids Hb):=by
 have hc:=hcon (callee σ ids Hin) _ (ZGr ok honce hin) rfl (repVs_rn (Zsd ok honce hin) _ _ _ zL hav);intro K Q hK;unfold Oper.wp;rw[hx];simp only[Oper.upon];rw[Array.toArray_toList] at hc;refine hc.mono ?_;rintro e w' ⟨v,τ,rfl,rfl,hH,to,okτ,hv⟩;subst hH;obtain⟨to',ok',rn⟩:=ZGs ok honce hin to okτ hle hb;exact hK v (Zng σ ids Hb τ) rfl to' ok' (ZhU rn hr hv)
theorem Zvh(ok:Ok σ)(yR:RepT σ ts a){c:Call}{f:yo}{g:FuncId}{cap args':yL Dv}{ids:yL Nat}{Hin H' Hb:yL Ent}{r r':Dv}(ho:o.op=.call c)(zU:c.callee=.value f)
 (hf:ZS P ts 0 f=.fn g cap) (hbod:Zp6 P (ZmM g)=true) (hsz:c.args.size=c.argTypes.size) (honce:once ids=true) (hle:ids.length<=H'.length) (zL:Dv.rns (toIds ids) (ZhP P ids ts c g cap)=some args')
 (hin:subEnts σ.H ids ids=some Hin) (hr:r.rn (fromIds ids σ.H.length)=some r') (hb:Ent.rns (fromIds ids σ.H.length) H'=some Hb) (hcon:Con P (ZmM g) args' Hin r H'):WI P o a σ r' (putBack σ.H ids Hb):=by
 have hfv:=Zs (P:=P) yR 0 f;rw[hf] at hfv;obtain⟨fs,cs,hfe,h0,hcs⟩:=ZHF hfv
 have hav:repVs σ (ZhP P ids ts c g cap) (fs++c.args.map a.eval++cs).toList:=by
  unfold ZhP;by_cases hg:g < big
  ·rw[yW hg] at h0 ⊢;subst h0;rw[Array.empty_append] at hcs ⊢;rw[Array.toList_append,Array.toList_map];exact Zll (ZA7 yR ids (by simpa using hsz)) (ZxR ids hcs)
  ·rw[yX hg] at h0 ⊢;subst h0;rw[Array.append_empty] at hcs ⊢;rw[Array.toList_append,Array.toList_map];exact Zll (ZxR ids hcs) (ZA7 yR ids (by simpa using hsz))
 exact ZGu ok (ZGt σ.w ho zU hfe hbod) hav honce hle zL hin hr hb hcon
end
end Go.Ev
end
section
namespace Go.Ev
theorem Zvi{w:World}{S:Nat->Nat->Prop}{n s:Nat}{xs:yL Pl}{us:yL yh}(h:repC w S (.arr n s xs) us):xs.length=n/\allSz s xs/\repCs w S xs us:=by
 simpa[repC] using h
theorem Ztg{P:yg}{σ:Sg}{d n:Nat}{e:yc}{s:Nat}(hs:P.cellsOf e=s)(hs0:s≠0)(hi:(P.info? e).isSome=true)(hu:(P.underlying e).isSome=true)
 (ih:∀(x y:Pl)(a b:yh),fitP P n e x->fitP P n e y->yK σ (.p x) a->yK σ (.p y) b->∃r:Bool,(Op.equalIn d e a b).run P σ.w=.ok r σ.w/\(r=true↔x=y))
 {cs cs':Array yh} {m:Nat}:∀(xs ys:yL Pl)(i:Nat)(p p' us vs:yL yh),(∀y,y∈xs->fitP P n e y/\y.size=s/\Vd P e=y.isAgg)->(∀y,y∈ys->fitP P n e y/\y.size=s/\Vd P e=y.isAgg)->
  cs.toList=p++us->cs'.toList=p'++vs->p.length=i*s->p'.length=i*s->repCs σ.w σ.stab xs us->repCs σ.w σ.stab ys vs->xs.length=m->ys.length=m->
  ∃r:Bool,(Op.eqItems d e s cs cs' (List.range' i m)).run P σ.w=.ok r σ.w/\(r=true↔xs=ys)
 |[],ys,i,p,p',us,vs,_,_,_,_,_,_,_,_,h1,h2=>by
  subst h1;have:ys=[]:=ybl h2;subst this
  exact⟨true,by simp[Op.eqItems],by simp⟩
 |x::xs,[],_,_,_,_,_,_,_,_,_,_,_,_,_,h1,h2=>by simp at h1 h2;omega
 |x::xs,y::ys,i,p,p',us,vs,hx,hy,e1,e2,l1,l2,r1,r2,h1,h2=>by
  obtain⟨m',rfl⟩:∃m',m=m'+1:=⟨xs.length,by simpa using h1.symm⟩;simp only[repCs] at r1 r2;obtain⟨u1,u2,rfl,q1,q2⟩:=r1;obtain⟨v1,v2,rfl,q3,q4⟩:=r2;obtain⟨f1,f2,f3⟩:=hx x (yay ..);obtain⟨g1,g2,g3⟩:=hy y (yay ..);obtain⟨a,ha,ra⟩:=Zc5 (P:=P) (σ:=σ) (t:=e) (d:=.p x) e1 (by simpa[yJ] using q1) (by rw[hs];exact f2.symm) hi hu f3 (by show x.size≠0;omega);obtain⟨b,hb,rb⟩:=Zc5 (P:=P) (σ:=σ) (t:=e) (d:=.p y) e2 (by simpa[yJ] using q3) (by rw[hs];exact g2.symm) hi hu g3 (by show y.size≠0;omega);rw[l1] at ha;rw[l2] at hb;obtain⟨r,hr,hiff⟩:=ih x y a b f1 g1 ra rb;have s1:=Vt _ _ q1;have s2:=Vt _ _ q3
  obtain⟨r',hr',hiff'⟩:=Ztg hs hs0 hi hu ih xs ys (i+1) (p++u1) (p'++v1) u2 v2 (λz hz=>hx z (yba _ hz)) (λz hz=>hy z (yba _ hz))
   (by rw[e1,yad]) (by rw[e2,yad]) (by rw[yl,l1,s1,f2,yaz,Nat.one_mul]) (by rw[yl,l2,s2,g2,yaz,Nat.one_mul]) q2 q4 (by simpa using h1) (by simpa using h2)
  rw[List.range'_succ];simp only[Op.eqItems,Sem.run_bind,ha,hb,hr,Result.andThen_ok];cases r
  ·exact⟨false,by simp,by simp;intro e;exact absurd (hiff.2 e) (by simp)⟩
  ·refine⟨r',by simpa using hr', ?_⟩;rw[hiff'];simp[hiff.1 rfl]
theorem ZqQ{P:yg}{σ:Sg}{d:Nat}{R:yc->Pl->Prop}
 (ih:∀(t:yc)(x y:Pl)(a b:yh),R t x->R t y->yK σ (.p x) a->yK σ (.p y) b->∃r:Bool,(Op.equalIn d t a b).run P σ.w=.ok r σ.w/\(r=true↔x=y))
 {cs cs':Array yh}:∀(fs:yL Field)(xs ys:yL Pl)(o:Nat)(p p' us vs:yL yh),Zkv P R fs o xs->Zkv P R fs o ys->
  cs.toList=p++us->cs'.toList=p'++vs->p.length=o->p'.length=o->repCs σ.w σ.stab xs us->repCs σ.w σ.stab ys vs->
  ∃r:Bool,(Op.eqFields d cs cs' fs).run P σ.w=.ok r σ.w/\(r=true↔xs=ys)
 |[],[],[],_,_,_,_,_,_,_,_,_,_,_,_,_=>⟨true,by simp[Op.eqFields],by simp⟩
 |[],_::_,_,_,_,_,_,_,h,_,_,_,_,_,_,_=>by simp[Zkv] at h
 |[],[],_::_,_,_,_,_,_,_,h,_,_,_,_,_,_=>by simp[Zkv] at h
 |_::_,[],_,_,_,_,_,_,h,_,_,_,_,_,_,_=>by simp[Zkv] at h
 |_::_,_::_,[],_,_,_,_,_,_,h,_,_,_,_,_,_=>by simp[Zkv] at h
 |f::fs,x::xs,y::ys,o,p,p',us,vs,hx,hy,e1,e2,l1,l2,r1,r2=>by
  simp only[Zkv] at hx hy;obtain⟨a1,a2,a3,a4,a5,a6,a7,a8,a9⟩:=hx;obtain⟨_,_,b3,_,_,b6,b7,b8,b9⟩:=hy;simp only[repCs] at r1 r2;obtain⟨u1,u2,rfl,q1,q2⟩:=r1;obtain⟨v1,v2,rfl,q3,q4⟩:=r2;obtain⟨a,ha,ra⟩:=Zc5 (P:=P) (σ:=σ) (t:=f.type) (d:=.p x) e1 (by simpa[yJ] using q1) a3 a4 a5 a6 a7;obtain⟨b,hb,rb⟩:=Zc5 (P:=P) (σ:=σ) (t:=f.type) (d:=.p y) e2 (by simpa[yJ] using q3) b3 a4 a5 b6 b7;rw[l1, <-a2] at ha;rw[l2, <-a2] at hb;obtain⟨r,hr,hiff⟩:=ih f.type x y a b a8 b8 ra rb;have s1:=Vt _ _ q1;have s2:=Vt _ _ q3;have hxy:x.size=y.size:=a3.symm.trans b3
  obtain⟨r',hr',hiff'⟩:=ZqQ ih fs xs ys (o+x.size) (p++u1) (p'++v1) u2 v2 a9 (by rw[hxy];exact b9)
   (by rw[e1,yad]) (by rw[e2,yad]) (by rw[yl,l1,s1]) (by rw[yl,l2,s2,hxy]) q2 q4
  simp only[Op.eqFields,a1,ne_eq,not_false_eq_true,if_true,Sem.run_bind,ha,hb,hr,Result.andThen_ok];cases r
  ·exact⟨false,by simp,by simp;intro e;exact absurd (hiff.2 e) (by simp)⟩
  ·refine⟨r',by simpa using hr', ?_⟩;rw[hiff'];simp[hiff.1 rfl]
theorem Znh{P:yg}{σ:Sg}:∀(n:Nat)(t:yc)(x y:Pl)(a b:yh),fitP P n t x->fitP P n t y->yK σ (.p x) a->yK σ (.p y) b->
 ∀d,∃r:Bool,(Op.equalIn (d+n) t a b).run P σ.w=.ok r σ.w/\(r=true↔x=y)
 |0,_,_,_,_,_,h,_,_,_,_=>by simp[fitP] at h
 |n+1,t,x,y,a,b,hx,hy,ra,rb,d=>by
  unfold fitP at hx hy;split at hx
  ·rename_i hu;rw[hu] at hy;split at hy <;> rename_i e1 <;> simp only[reduceCtorEq,yp] at e1
   all_goals first
    |(rw[Xm ra,Xm rb]
      exact⟨_,run_equalIn_bool' σ.w (d+n) t _ _ hu,by simp⟩)
    |exact hy.elim
  ·rename_i k k' z hu;rw[hu] at hy;split at hy <;> rename_i e1 <;> simp only[reduceCtorEq,yp,TypeDesc.int.injEq] at e1
   all_goals first
    |(subst hx;subst hy;subst e1
      rw[Yd ra,Yd rb]
      exact⟨_,run_equalIn_int σ.w (d+n) t _ _ _ _ hu,by simp⟩)
    |exact hy.elim
  ·rename_i m e m' s xs hu;rw[hu] at hy;split at hy <;> rename_i e1 <;> simp only[reduceCtorEq,yp,TypeDesc.array.injEq] at e1
   ·rename_i s2 ys;obtain⟨rfl,rfl⟩:=e1;obtain⟨rfl,h1,h2,h3,h4,h5⟩:=hx;obtain⟨rfl,g1,_,_,_,g5⟩:=hy;obtain rfl:s=s2:=h1.symm.trans g1;rw[Yw (by rfl)] at ra rb;obtain⟨cs,rfl,ra⟩:=ra;obtain⟨cs',rfl,rb⟩:=rb;simp only[yJ] at ra rb;obtain⟨n1,_,ra⟩:=Zvi ra;obtain⟨n2,_,rb⟩:=Zvi rb;obtain⟨i,hi⟩:=Option.isSome_iff_exists.1 h3;obtain⟨r,hr,hiff⟩:=Ztg (P:=P) (σ:=σ) (d:=d+n) (n:=n) (e:=e) (s:=s) h1 h2 h3 h4 (λx y a b hx hy ra rb=>Znh n e x y a b hx hy ra rb d) xs ys 0 [] [] cs.toList cs'.toList h5 g5 rfl rfl (by simp) (by simp) ra rb n1 n2;refine⟨r, ?_,by rw[hiff];simp⟩;rw[show d+(n+1)=(d+n)+1 from rfl,run_equalIn_array σ.w (d+n) cs cs' hu hi,List.range_eq_range',h1]
    exact hr
   all_goals first
    |exact hy.elim
  ·rename_i fs xs hu;rw[hu] at hy;split at hy <;> rename_i e1 <;> simp only[reduceCtorEq,yp,TypeDesc.struct.injEq] at e1
   all_goals first
    |exact hy.elim
    |skip
   rename_i ys;subst e1;obtain⟨h1,h2⟩:=hx;obtain⟨_,g2⟩:=hy;rw[Yw (by rfl)] at ra rb;obtain⟨cs,rfl,ra⟩:=ra;obtain⟨cs',rfl,rb⟩:=rb;simp only[yJ,repC] at ra rb;have hfs:P.fieldsOf t=fs:=by simp[Program.fieldsOf,hu]
   obtain⟨r,hr,hiff⟩:=ZqQ (P:=P) (σ:=σ) (d:=d+n) (R:=fitP P n) (λt x y a b hx hy ra rb=>Znh n t x y a b hx hy ra rb d) fs.toList xs ys 0 [] [] cs.toList cs'.toList h2 g2 rfl rfl rfl rfl ra rb;refine⟨r, ?_,by rw[hiff];simp⟩;rw[show d+(n+1)=(d+n)+1 from rfl,run_equalIn_struct σ.w (d+n) t cs cs' (by rw[hfs];exact hu) h1,hfs]
   exact hr
  ·exact hx.elim
theorem Zse{P:yg}{σ:Sg}{t:yc}{x y:Pl}{a b:yh}(hx:fitP P 20 t x)(hy:fitP P 20 t y)(ra:yK σ (.p x) a)(rb:yK σ (.p y) b){β:Bool}(h:β=true↔x=y):
 (Op.equal t a b).run P σ.w=.ok β σ.w:=by
 obtain⟨r,hr,hiff⟩:=Znh 20 t x y a b hx hy ra rb 9980;have:r=β:=by rw[Bool.eq_iff_iff,hiff,h]
 subst this;exact hr
def Zlq:yh->Bool
 |.bool _|.pointer _|.slice _ _ _|.func _ _ _|.nilFunc=>true
 |_=>false
theorem Zvj{op:BinOp}{t:yc}{x y:yo}{a b:yh}(h:Zlq a=true):eqGuard op t x y a b=pure ():=by
 cases op <;> cases a <;> first|rfl|(simp[Zlq] at h)
theorem Zy7{t:yc}{a b:yh}(h:Zlq a=true):binOp .eql t a b=(do pure (.bool (<-Op.equal t a b))):=by
 cases a <;> first|(simp[Zlq] at h;done)|(cases b <;> rfl)
theorem Zy8{t:yc}{a b:yh}(h:Zlq a=true):binOp .neq t a b=(do pure (.bool (!(<-Op.equal t a b)))):=by
 cases a <;> first|(simp[Zlq] at h;done)|(cases b <;> rfl)
theorem Zar{P:yg}{t:yc}{a b:yh}{r:Bool}{w:World}(h:∀n,(Op.equalIn (n+1) t a b).run P w=.ok r w):(Op.equal t a b).run P w=.ok r w:=h 9999
theorem Zth{P:yg}{t:yc}{x y:Dv}{hs hs':yL Hint}{C:yL Prop}{r:Bool}(h:Zmo P t x y hs=some (C,r,hs'))(hc:AllP C){σ:Sg}{a b:yh}
 (ha:yK σ x a) (hb:yK σ y b):(Op.equal t a b).run P σ.w=.ok r σ.w/\(Zlq a=true\/((∃cs,a=.agg cs)/\(∃cs,b=.agg cs)/\P.eqGuardType P.depth t=false)):=by
 unfold Zmo at h;have step:∀(d:TypeDesc),P.underlying t=some d->(underlying t).run P σ.w=.ok d σ.w:=λd hd=>run_underlying hd σ.w;split at h
 all_goals first
  |(cases h;done)
  |skip
 rotate_right 2
 iterate 2
  ·split at h
   ·split at h
    ·rename_i hg;cases h;obtain⟨c1,c2,c3,_⟩:=hc;refine⟨Zse c1 c2 ha hb c3,.inr ⟨?_, ?_,hg⟩⟩
     ·obtain⟨cs,e,_⟩:=(Yw (by rfl)).1 ha;exact⟨cs,e⟩
     ·obtain⟨cs,e,_⟩:=(Yw (by rfl)).1 hb;exact⟨cs,e⟩
    ·cases h
   ·cases h
 case' h_9=>
  rename_i hu;split at h
  ·cases h;obtain⟨_,A,c,rfl,_,_,_,_,h6⟩:=Vy ha;obtain⟨_,B,c',rfl,_,_,hB,_⟩:=Vy hb;have hB':B=none:=by simpa using hB false rfl
   subst hB';obtain⟨b0,o0,us,rfl,_⟩:=h6 hc.1;exact⟨Zar λn=>by simp[Op.equalIn,step _ hu],.inl rfl⟩
  ·cases h
 case' h_10=>
  rename_i hu;split at h
  ·cases h;obtain⟨_,A,c,rfl,_,_,_,_,h6,_⟩:=ZcK ha;obtain⟨_,B,c',rfl,_,_,hB,_⟩:=Vy hb;have hB':B=none:=by simpa using hB false rfl
   subst hB';obtain⟨b0,o0,us,rfl,_⟩:=h6 hc.1;exact⟨Zar λn=>by simp[Op.equalIn,step _ hu],.inl rfl⟩
  ·cases h
 all_goals
  rename_i hu;cases h;refine(λq:_/\_=>⟨q.1,.inl q.2⟩) ?_
 ·rw[Xm ha,Xm hb];exact⟨Zar λn=>by simp[Op.equalIn,step _ hu],rfl⟩
 ·rw[ZhS hb];rw[Zj (by rfl)] at ha;simp only[yJ,List.cons.injEq,and_true] at ha;obtain⟨b',_,_,rfl⟩:=ha;exact⟨Zar λn=>by simp[Op.equalIn,step _ hu],rfl⟩
 ·rw[ZhS hb];rw[Zj (by rfl)] at ha;simp only[yJ,List.cons.injEq,and_true] at ha;obtain⟨b',o',us,rfl,_⟩:=ha;exact⟨Zar λn=>by simp[Op.equalIn,step _ hu],rfl⟩
 ·rw[ZhS hb];rw[Zj (by rfl)] at ha;simp only[yJ,List.cons.injEq,and_true] at ha;obtain⟨b',o',rfl,_⟩:=ha;exact⟨Zar λn=>by simp[Op.equalIn,step _ hu],rfl⟩
 ·rw[ZhS ha,ZhS hb];exact⟨Zar λn=>by simp[Op.equalIn,step _ hu],rfl⟩
 ·obtain⟨_,A,c,rfl,_,_,hA,_⟩:=Vy ha;obtain⟨_,B,c',rfl,_,_,hB,_⟩:=Vy hb;have hB':B=none:=by simpa using hB false rfl
  subst hB';have hA2:=hA _ rfl;subst hA2;refine⟨?_,rfl⟩;cases A <;> (refine Zar λn=> ?_;simp[Op.equalIn,step _ hu])
 ·obtain⟨_,A,c,rfl,_,_,hA,_⟩:=ZcK ha;obtain⟨_,B,c',rfl,_,_,hB,_⟩:=Vy hb;have hB':B=none:=by simpa using hB false rfl
  subst hB';have hA2:=hA _ rfl;subst hA2;refine⟨?_,rfl⟩;cases A <;> (refine Zar λn=> ?_;simp[Op.equalIn,step _ hu])
 ·rw[Zj (by rfl)] at ha;simp only[yJ,List.cons.injEq,and_true] at ha;obtain⟨bb,cc,aa,_,_,rfl,_⟩:=ha;obtain⟨_,B,c',rfl,_,_,hB,_⟩:=Vy hb;have hB':B=none:=by simpa using hB false rfl
  subst hB';exact⟨Zar λn=>by simp[Op.equalIn,step _ hu],rfl⟩
 ·rw[Zr8 hb];rw[Zj (by rfl)] at ha;simp only[yJ,List.cons.injEq,and_true] at ha;obtain⟨fs,cs,rfl,_⟩:=ha;exact⟨Zar λn=>by simp[Op.equalIn,step _ hu],rfl⟩
 ·rw[Zr8 ha,Zr8 hb];exact⟨Zar λn=>by simp[Op.equalIn,step _ hu],rfl⟩
theorem ZA8{P:yg}{op:BinOp}{t:yc}{x y:Dv}{hs hs':yL Hint}{C:yL Prop}{d:Dv}(h:ZgB P op t x y hs=some (C,d,hs'))(hc:AllP C){σ:Sg}{a b:yh}
 (ha:yK σ x a) (hb:yK σ y b) (ox oy:yo):
 ∃v,(eqGuard op t ox oy a b).run P σ.w=.ok () σ.w/\(binOp op t a b).run P σ.w=.ok v σ.w/\yK σ d v:=by
 unfold ZgB at h;split at h
 ·have ea:=Yd ha;have eb:=Yd hb;subst ea;subst eb;split at h
  ·rename_i ho;obtain⟨v,h1,h2⟩:=Zw9 (P:=P) (yk:= ‹IntKind›) h hc σ;refine⟨v,by rw[eqGuard_at_int];rfl, ?_,h2⟩;cases op <;> first|(simp[ZyY] at ho;done)|exact h1
  ·split at h
   ·rename_i hk;subst hk;obtain⟨v,h1,h2⟩:=ZAX (P:=P) h hc σ t;exact⟨v,by rw[eqGuard_at_int];rfl,h1,h2⟩
   ·cases h
 ·rw[ZhE ha,ZhE hb];split at h
  ·cases h;exact⟨_,rfl,by rw[<-ByteArray.toList_eq, <-ByteArray.toList_eq];rfl,YP _⟩
  ·cases h;exact⟨_,rfl,by rw[<-ByteArray.toList_eq, <-ByteArray.toList_eq];rfl,YP _⟩
  ·cases h
 ·split at h
  ·simp only[yn,yz] at h;obtain⟨⟨C',r,hs''⟩,h1,rfl,rfl,rfl⟩:=h;obtain⟨h2,h3⟩:=Zth h1 hc ha hb;refine⟨.bool r, ?_, ?_,YP _⟩
   ·rcases h3 with h3|⟨⟨cs,rfl⟩,⟨cs',rfl⟩,h3⟩
    ·rw[Zvj h3];rfl
    ·exact run_eqGuard_agg _ _ _ _ _ _ _ h3
   ·rcases h3 with h3|⟨⟨cs,rfl⟩,⟨cs',rfl⟩,h3⟩
    ·rw[Zy7 h3];simp[h2]
    ·rw[show binOp .eql t (.agg cs) (.agg cs')=(do pure (.bool (<-Op.equal t (.agg cs) (.agg cs')))) from rfl];simp[h2]
  ·simp only[yn,yz] at h;obtain⟨⟨C',r,hs''⟩,h1,rfl,rfl,rfl⟩:=h;obtain⟨h2,h3⟩:=Zth h1 hc ha hb;refine⟨.bool (!r), ?_, ?_,YP _⟩
   ·rcases h3 with h3|⟨⟨cs,rfl⟩,⟨cs',rfl⟩,h3⟩
    ·rw[Zvj h3];rfl
    ·exact run_eqGuard_agg _ _ _ _ _ _ _ h3
   ·rcases h3 with h3|⟨⟨cs,rfl⟩,⟨cs',rfl⟩,h3⟩
    ·rw[Zy8 h3];simp[h2]
    ·rw[show binOp .neq t (.agg cs) (.agg cs')=(do pure (.bool (!(<-Op.equal t (.agg cs) (.agg cs'))))) from rfl];simp[h2]
  ·cases h
end Go.Ev
end
section
namespace Go.Ev
section
variable{P:yg}{o:Oper}{a:Act}{σ:Sg}{ts:yL Dv}{hs hs':yL Hint}{C:yL Prop}{d:Dv}
theorem Zti(H:yL Ent):putBack H [] []=H:=by simp[putBack]
theorem Zqc:(toIds []:Nat->yO Nat)=λ_=>none:=by
 funext i;simp[toIds]
mutual
theorem Zcx{f:Nat->yO Nat}:∀(x y:Dv),x.rn (λ_=>none)=some y->x.rn f=some x
 |.p x,_,_=>rfl
 |.elem x,_,_=>rfl
 |.ref _ _ _,_,h=>by simp[Dv.rn] at h
 |.own _ _ _ _,_,h=>by simp[Dv.rn] at h
 |.view _ _ _ _ _ _,_,h=>by simp[Dv.rn] at h
 |.agg xs,_,h=>by
  simp only[Dv.rn,yn] at h ⊢;obtain⟨ys,h1,_⟩:=h
  exact⟨xs,rns_none_id xs ys h1,rfl⟩
 |.arr n s xs,_,h=>by
  simp only[Dv.rn,yn] at h ⊢;obtain⟨ys,h1,_⟩:=h
  exact⟨xs,rns_none_id xs ys h1,rfl⟩
 |.fn g xs,_,h=>by
  simp only[Dv.rn,yn] at h ⊢;obtain⟨ys,h1,_⟩:=h
  exact⟨xs,rns_none_id xs ys h1,rfl⟩
 |.iface t x,_,h=>by
  simp only[Dv.rn,yn] at h ⊢;obtain⟨y,h1,_⟩:=h
  exact⟨x,Zcx x y h1,rfl⟩
 |.tup xs,_,h=>by
  simp only[Dv.rn,yn] at h ⊢;obtain⟨ys,h1,_⟩:=h
  exact⟨xs,rns_none_id xs ys h1,rfl⟩
 |.mp _,_,h=>by simp[Dv.rn] at h
 |.rv _ _ _ _ _,_,h=>by simp[Dv.rn] at h
 |.rref _ _ _ _,_,h=>by simp[Dv.rn] at h
 |.junk,_,_=>rfl
theorem rns_none_id{f:Nat->yO Nat}:∀(x y:yL Dv),Dv.rns (λ_=>none) x=some y->Dv.rns f x=some x
 |[],_,_=>rfl
 |x::xs,_,h=>by
  simp only[Dv.rns] at h;split at h
  ·rename_i y ys h1 h2;simp[Dv.rns,Zcx x y h1,rns_none_id xs ys h2]
  ·cases h
end
theorem ZA9{src dst e:yc}{xs:yL Pl}{b:ByteArray}{nn:yO Bool}{v:yh}(hs:P.underlying src=some (.slice e))(he:P.underlying e=some (.int .u8))(hd:P.underlying dst=some .string)
 (hv:yK σ (.p (.sl nn 1 xs)) v) (hx:xs=b.data.toList.map λx=>.int .u8 (x.toNat:Int)):(convert src dst v).run P σ.w=.ok (.string b) σ.w:=by
 obtain⟨h1,A,c,rfl,h2,h3,h4,h5,h6⟩:=Vy hv;by_cases hne:xs=[]
 ·have hb:b=⟨#[]⟩:=by
   rw[hne] at hx;have:b.data.toList=[]:=List.map_eq_nil_iff.1 hx.symm;apply ByteArray.ext;exact Array.toList_inj.1 this
  subst hb;subst hne
  cases A with
  |none=>exact Go.Lib.run_convert_nil_bytes σ.w src dst e c hs he hd
  |some A=>
   have hz:=run_convert_bytes_string (P:=P) σ.w src dst e (some A) 0 c hs he hd;rw[List.length_nil,hz];simp[Conv.bytesToString,loadCells,loadCellsFrom];rfl
 ·obtain⟨bl,o',us,rfl,h7,h8⟩:=h6 hne;have zY:xs.length=b.size:=by rw[hx];simp
  rw[zY];refine Go.Lib.run_convert_whole (P:=P) σ.w src e dst hs he hd bl o' b (λi hi=> ?_) c;have hi':i < xs.length:=by rw[zY];exact hi
  have hxi:xs[i]? =some (.int .u8 (b[i].toNat:Int)):=by
   rw[hx,yan]
   have:b.data.toList[i]? =some b[i]:=by
    rw[ycn];exact yco (by simpa using hi)
   rw[this];rfl
  obtain⟨uy,h9,h10⟩:=Zu1 h1 h7 h8 hxi;simp only[repC] at h9;subst h9;have:=(h10 0 _ rfl).1;simpa using this
theorem ZEQ{t e:yc}{x:yo}{n s:Nat}{xs:yL Pl}{nn:yO Bool}(ok:Ok σ)(ho:o.op=.sliceToArrayPointer t x)(hu:P.underlying t=some (.array n e))(hv:yK σ (.p (.sl nn s xs)) (a.eval x))(hn:n≠0)(hle:n<=xs.length):
 WI P o a σ (.elem (.arr n s (xs.take n))) σ.H:=by
 obtain⟨h1,A,c,hv,h2,h3,h4,h5,h6⟩:=Vy hv
 have hne:xs≠[]:=by
  rintro rfl;simp at hle;exact hn hle
 obtain⟨bl,o',us,rfl,h7,h8⟩:=h6 hne;have e0:xs=xs.take n++xs.drop n:=(ybx n xs).symm;rw[e0] at h7;obtain⟨u1,u2,rfl,h9,h10⟩:=Wq h7;refine Zl (v:=.pointer (some ⟨bl,o',none⟩)) ok ?_ ?_
 ·have:(Instr.arrayAt t (.slice (some ⟨bl,o',none⟩) xs.length c)).run P σ.w=.ok (.pointer (some ⟨bl,o',none⟩)) σ.w:=by
   simp[Instr.arrayAt,run_underlying hu,show¬xs.length < n by omega]
  simp[execOp,ho,hv,this]
 ·rw[Zj rfl];simp only[yJ];refine⟨bl,o',u1,rfl, ?_,(VP.append h8).1⟩;simp only[repC];exact⟨by rw[yah];omega,Zcu h1 n,h9⟩
theorem ZDi(ok:Ok σ){src dst e:yc}{x:yo}{b:ByteArray}(ho:o.op=.convert src dst x)(hs:P.underlying src=some .string)(hd:P.underlying dst=some (.slice e))(he:P.underlying e=some (.int .u8))
 (hv:a.eval x=.string b) (hb:b.size<=maxLen):WI P o a σ (.p (.sl (some true) 1 (b.data.toList.map λx=>.int .u8 (x.toNat:Int)))) σ.H:=by
 have hg:σ.w.grownBy (Go.Lib.bytesWorld σ.w e b) none:=⟨rfl,rfl,rfl,by rw[Go.Lib.bytesWorld_size];omega,λk hk _=>Go.Lib.bytesWorld_at_old σ.w e b k hk⟩;obtain⟨to,ok'⟩:=Zut ok hg;have zW:=Go.Lib.run_convert_string_bytes (P:=P) σ.w src dst e b hs hd he
 refine Yf (σ':={ σ with w:=Go.Lib.bytesWorld σ.w e b}) (v:=.slice (some ⟨σ.w.heap.size,0,none⟩) b.size (grownCap σ.w b.size 0 e)) (by
  have e1:execOp a.eval o=(do pure (.value (<-convert src dst (.string b)))):=by simp only[execOp,ho,hv]
  rw[e1];generalize Go.Lib.bytesWorld σ.w e b=w1 at zW;generalize grownCap σ.w b.size 0 e=n1 at zW;simp[zW]) to ok' ?_
 have hl:(b.data.toList.map λx=>Pl.int .u8 (x.toNat:Int)).length=b.size:=by rw[yac,ybg];rfl
 have zV:allSz 1 (b.data.toList.map λx=>Pl.int .u8 (x.toNat:Int)):=λy hy=>by
  obtain⟨z,_,rfl⟩:=List.mem_map.1 hy;rfl
 rw[<-hl];refine Xr zV (by rw[hl];exact grownCap_ge ..) (by rw[hl];exact grownCap_le_maxLen _ _ _ _ hb) (ZeF rfl) (λh=>(by cases h)) (λ_=>⟨σ.w.heap.size,0,b.data.toList.map λx=>.int .u8 (x.toNat:Int),rfl, ?_,λj u hu=>⟨?_, ?_⟩⟩)
 ·generalize b.data.toList=l
  induction l with
  |nil=>simp[repCs]
  |cons z l ih=>exact⟨[_],_,rfl,by simp[repC],ih⟩
 ·rw[yan] at hu;obtain⟨z,h1,rfl⟩:=yn.1 hu
  have hj:j < b.size:=by
   have:=(yq.1 h1).1;rw[ybg] at this;exact this
  rw[ybe];have:=Go.Lib.bytesWorld_cell σ.w e b j hj;rw[this,List.getD_eq_getElem?_getD,h1,Option.getD_some]
 ·exact ZA0 ok' (ok.new _ (yj _)) (Zlp ok)
theorem ZGv(ok:Ok σ)(yR:RepT σ ts a)(h:evN P o ts hs=some (C,d,hs'))(hc:AllP C):WI P o a σ d σ.H:=by
 have h0:=h;unfold evN at h;split at h
 ·rename_i x ho
  have main:d=ZS P ts o.type x->WI P o a σ d σ.H:=λe=>by
   subst e;exact Zl (v:=a.eval x) ok (by simp[execOp,ho]) (Zs yR _ _)
  split at h
  ·simp only[yp,yz] at h;exact main h.2.1.symm
  ·cases h
 ·rename_i x ho
  have main:d=ZS P ts o.type x->WI P o a σ d σ.H:=λe=>by
   subst e;exact Zl (v:=a.eval x) ok (by simp[execOp,ho]) (Zs yR _ _)
  split at h
  ·simp only[yp,yz] at h;exact main h.2.1.symm
  ·cases h
 ·rename_i c x y ho;split at h
  ·rename_i t β hs1 hcv;cases h;have hb:=Zs (P:=P) yR 0 c;rw[hcv] at hb;have hb':=Xm hb;have ht:t=β:=hc.1;subst ht;refine Zl (v:=if t then a.eval x else a.eval y) ok (by simp[execOp,ho,hb',asBool]) ?_
   cases t
   ·exact Zs yR _ _
   ·exact Zs yR _ _
  ·cases h
 ·rename_i x ho;split at h
  ·rename_i i f p hx;cases h;have hv:=Zs (P:=P) yR 0 x;rw[hx] at hv;obtain⟨b,h1,h2,h3⟩:=Zjj hv;exact Zl (v:=a.eval x) ok (by simp[execOp,ho,h3]) hv
  ·rename_i i v f p hx;cases h;have hv:=Zs (P:=P) yR 0 x;rw[hx] at hv;obtain⟨b,o',h3,_⟩:=ZqL hv;exact Zl (v:=a.eval x) ok (by simp[execOp,ho,h3]) hv
  ·rename_i y hx;cases h;have hv:=Zs (P:=P) yR 0 x;rw[hx] at hv;obtain⟨b,o',us,h3,_⟩:=Znb hv;exact Zl (v:=a.eval x) ok (by simp[execOp,ho,h3]) hv
  ·rename_i f cap hx;cases h;have hv:=Zs (P:=P) yR 0 x;rw[hx] at hv;obtain⟨fs,cs,h3,_⟩:=ZHF hv;exact Zl (v:=a.eval x) ok (by simp[execOp,ho,h3]) hv
  ·cases h
 ·rename_i op t x y yt ho;obtain⟨v,h1,h2,h3⟩:=ZA8 (P:=P) h hc (Zs yR t x) (Zs yR yt y) x y;exact Zl ok (by simp[execOp,ho,h1,h2]) h3
 ·rename_i t x ho;split at h
  ·rename_i b hx;cases h;have hv:=Zs (P:=P) yR 0 x;rw[hx] at hv;exact Zl (v:=.bool (!b)) ok (by simp[execOp,ho,Xm hv,Op.unary]) (YP _)
  ·cases h
 ·rename_i t x ho;split at h
  ·rename_i k n hx;have hv:=Zs (P:=P) yR 0 x;rw[hx] at hv;exact Zl ok (by simp[execOp,ho,Yd hv,Op.unary,Op.intArith]) (Zfp h hc σ)
  ·cases h
 ·rename_i t x ho;split at h
  ·rename_i k n hx;have hv:=Zs (P:=P) yR 0 x;rw[hx] at hv;split at h
   ·cases h
   ·rename_i hk;cases h;exact Zl ok (by simp[execOp,ho,Yd hv,Op.unary,hk,intBits_xor]) (ZI k _)
  ·cases h
 ·rename_i src dst x ho;split at h
  ·rename_i d1 k k' n hs1 hd1 hx;have hv:=Zs (P:=P) yR src x;rw[hx] at hv;refine Zl ok ?_ (Zfp h hc σ);simp[execOp,ho,Yd hv,convert,run_underlying hs1,run_underlying hd1,Conv.intToInt]
  ·rename_i e nn s xs hs1 hd1 hx;have hv:=Zs (P:=P) yR src x;rw[hx] at hv;split at h
   ·rename_i b hs2 he;split at h
    ·rename_i h1;subst h1;cases h;refine Zl (v:=.string b) ok ?_ (by simp[yK,Dv.isAgg,Pl.isAgg,yJ,repC]);have zW:=ZA9 (P:=P) hs1 he hd1 hv hc.1;simp[execOp,ho,zW]
    ·cases h
   ·cases h
  ·rename_i e id nn s xs hs1 hd1 hx;have hv:=Zs (P:=P) yR src x;rw[hx] at hv;split at h
   ·rename_i b hs2 he;split at h
    ·rename_i h1;subst h1;cases h;refine Zl (v:=.string b) ok ?_ (by simp[yK,Dv.isAgg,Pl.isAgg,yJ,repC]);have zW:=ZA9 (P:=P) hs1 he hd1 (ZbH hv) hc.1;simp[execOp,ho,zW]
    ·cases h
   ·cases h
  ·rename_i e b hs1 hd1 hx;have hv:=Zs (P:=P) yR src x;rw[hx] at hv;split at h
   ·rename_i he;cases h;exact ZDi ok ho hs1 hd1 he (ZhE hv) hc.1
   ·cases h
  ·cases h
 ·rename_i t x ho;have hv:=Zs (P:=P) yR 0 x;split at h
  ·rename_i n e nn s xs hu hx;rw[hx] at hv;split at h
   ·rename_i hn;cases h;exact ZEQ ok ho hu hv (by simpa using hn) hc.1
   ·cases h
  ·rename_i n e id nn s xs hu hx;rw[hx] at hv;split at h
   ·rename_i hn;cases h;exact ZEQ ok ho hu (ZbH hv) (by simpa using hn) hc.1
   ·cases h
  ·cases h
 ·rename_i f first captured ho
  split at h
  ·rename_i hf;cases h;rw[yi,yP] at hf;obtain⟨hf,hlt⟩:=hf;have:first= #[]:=by simpa using hf
   subst this;refine Zl (v:=.func (.func f) #[] (captured.map a.eval)) ok (by simp[execOp,ho,Instr.makeFunc]) ?_;rw[Zj rfl];simp only[yJ];refine⟨#[],captured.map a.eval, ?_,yW hlt,by rw[Array.empty_append,Array.toList_map];exact Zu4 _ _ (λx=>Zs yR 0 x) _⟩;unfold ZmM;rw[yW hlt]
  ·split at h
   ·rename_i hc2;cases h;have:captured= #[]:=by simpa using hc2
    subst this;have hge:¬f+big < big:=Nat.not_lt.2 (Nat.le_add_left big f);refine Zl (v:=.func (.func f) (first.map a.eval) #[]) ok (by simp[execOp,ho,Instr.makeFunc]) ?_
    rw[Zj rfl];simp only[yJ];refine⟨first.map a.eval, #[], ?_,yX hge,by rw[Array.append_empty,Array.toList_map];exact Zu4 _ _ (λx=>Zs yR 0 x) _⟩
    unfold ZmM;rw[yX hge,Nat.add_sub_cancel]
   ·cases h
 ·rename_i t x ho;split at h
  ·cases h
  ·rename_i u hu hne;cases h;obtain⟨h1,h2⟩:=Zs (P:=P) yR t x;refine Zl (v:=.iface t (a.eval x)) ok ?_ ?_
   ·have e:(Instr.makeInterface t (a.eval x)).run P σ.w=.ok (.iface t (a.eval x)) σ.w:=by
     simp only[Instr.makeInterface,Sem.run_bind,run_underlying hne,Result.andThen_ok];rfl
    simp[execOp,ho,e]
   ·rw[Zj rfl];simp only[yJ];exact⟨a.eval x,rfl,h1,h2⟩
  ·cases h
 ·rename_i t x i ho;simp only[yn,yz] at h;obtain⟨d1,h1,rfl,rfl,rfl⟩:=h;obtain⟨u,h2,h3⟩:=Zxa h1 (Zs (P:=P) yR t x);exact Zl ok (by simp[execOp,ho,h2]) h3
 ·rename_i t x i ho;have hv:=Zs (P:=P) yR 0 x;split at h
  ·rename_i fs id off yS hu hx;rw[hx] at hv;split at h
   ·rename_i f hf;split at h
    ·rename_i hk;simp only[yi,yE] at hk;cases h;obtain⟨b,h1,h2,h3⟩:=Zjj hv;refine Zl (v:=.pointer (some ⟨b,off+f.offset,none⟩)) ok ?_ ?_
     ·have hs:=Yq (P:=P) hk.2 σ.w
      have hr:(fieldPlace ⟨b,off,none⟩ f).run P σ.w=.ok ⟨b,off+f.offset,none⟩ σ.w:=by
       unfold fieldPlace;rw[Sem.run_bind,hs];simp only[Result.andThen_ok,hk.1,if_false,Sem.run_pure,Addr.add_mk]
      simp[execOp,ho,h3,Instr.fieldAt,run_underlying hu,hf,Instr.sureAddr,hr]
     ·rw[Zj rfl];simp only[yJ];exact⟨b,h1,h2,rfl⟩
    ·cases h
   ·cases h
  ·rename_i fs id v off yS hu hx;rw[hx] at hv;split at h
   ·rename_i f hf;split at h
    ·rename_i hk;simp only[yi,yE] at hk;cases h;obtain⟨b,o',h3,h4⟩:=ZqL hv;refine Zl (v:=.pointer (some ⟨b,o'+f.offset,none⟩)) ok ?_ (Zy4 (Zsb h4));have hs:=Yq (P:=P) hk.2 σ.w
     have hr:(fieldPlace ⟨b,o',none⟩ f).run P σ.w=.ok ⟨b,o'+f.offset,none⟩ σ.w:=by
      unfold fieldPlace;rw[Sem.run_bind,hs];simp only[Result.andThen_ok,hk.1,if_false,Sem.run_pure,Addr.add_mk]
     simp[execOp,ho,h3,Instr.fieldAt,run_underlying hu,hf,Instr.sureAddr,hr]
    ·cases h
   ·cases h
  ·rename_i fs y hu hx;rw[hx] at hv;split at h
   ·rename_i z hz;cases h;obtain⟨b,off,us,h1,h2,h3⟩:=Znb hv;unfold Zcj at hz;rw[hu] at hz;split at hz
    ·rename_i fs' xs hfs hxs;cases hfs;cases hxs;split at hz
     ·rename_i y' hy;split at hz
      ·rename_i hok;cases hz;unfold Zjh at hok;split at hok
       ·rename_i f hf;simp only[yi,yT,yE] at hok;obtain⟨⟨⟨⟨⟨k1,k2⟩,k3⟩,k4⟩,k5⟩,k6⟩:=hok;simp only[repC] at h2;obtain⟨p1,p2,p3,rfl,e1,e2,_⟩:=Zfq h2 hy;refine Zl (v:=.pointer (some ⟨b,off+f.offset,none⟩)) ok ?_ ?_
        ·have hs:=Yq (P:=P) k3 σ.w
         have hr:(fieldPlace ⟨b,off,none⟩ f).run P σ.w=.ok ⟨b,off+f.offset,none⟩ σ.w:=by
          unfold fieldPlace;rw[Sem.run_bind,hs];simp only[Result.andThen_ok,k2,k6,if_false,Sem.run_pure,Addr.add_mk]
         simp[execOp,ho,h1,Instr.fieldAt,run_underlying hu,hf,Instr.sureAddr,hr]
        ·rw[Zj rfl];simp only[yJ];refine⟨b,_,p2,rfl,e2, ?_⟩;have:=(VP.append (VP.append h3).2).1;rw[e1, <-k1] at this;exact this
       ·cases hok
      ·cases hz
     ·cases hz
    ·rename_i hxs;cases hxs
    ·cases hz
   ·cases h
  ·cases h
 ·rename_i t x ix ho;exact ZA1 ok yR ho h0 hc
 ·rename_i t x ix ho;have hv:=Zs (P:=P) yR t x;have hi:=Zs (P:=P) yR 0 ix;split at h
  ·rename_i n e n' s xs k i hu hx hix;rw[hx] at hv;rw[hix] at hi;split at h
   ·rename_i y hs1;split at h
    ·rename_i hk;simp only[yi,yP,yT,yE] at hk;obtain⟨⟨⟨⟨⟨rfl,k1⟩,k2⟩,k3⟩,k4⟩,k5⟩:=hk;cases h;obtain⟨c1,c2,_⟩:=hc;obtain⟨cs,hcs,hr⟩:=(Yw rfl).1 hv;simp only[yJ,repC] at hr;obtain⟨r1,r2,r3⟩:=hr;obtain⟨p1,p2,p3,ecs,e1,e2,_⟩:=Zfq r3 c2;have hlt:i.toNat < xs.length:=(yq.1 c2).1;have hys:y.size=s:=r2 y (ycf c2)
     have hpl:p1.length=i.toNat*s:=by
      rw[e1,sizes_all (Zcu r2 _),yah,ybr (Nat.le_of_lt hlt)]
     obtain⟨v,h1,h2⟩:=Zc5 (P:=P) (σ:=σ) (t:=e) (d:=.p y) ecs (by simpa[yJ] using e2) (by rw[k1];exact hys.symm) k4 k3 k2 (by show y.size≠0;rw[hys];exact k5);refine Zl ok ?_ h2;have hb:0<=i/\i < (n:Int):=⟨c1,by omega⟩;rw[hpl, <-k1] at h1;simp[execOp,ho,hcs,Yd hi,Instr.index,asIntOf,run_underlying hu,hb,Yq k4,h1]
    ·cases h
   ·cases h
  ·rename_i s k i hu hx hix;rw[hx] at hv;rw[hix] at hi;split at h
   ·rename_i b hs1;cases h;obtain⟨c1,c2,_⟩:=hc;obtain⟨x0,h1,rfl⟩:=yn.1 c2;refine Zl ok (v:=.int .u8 x0.toNat) ?_ (ZI _ _)
    have hg:s[i.toNat]? =some x0:=by
     rw[<-h1];have hlt:i.toNat < s.data.toList.length:=(yq.1 h1).1;have hlt':i.toNat < s.size:=by simpa using hlt
     rw[getElem?_pos s i.toNat hlt',yab hlt];rfl
    simp[execOp,ho,ZhE hv,Yd hi,Instr.index,asIntOf,run_underlying hu,c1,hg]
   ·cases h
  ·cases h
 ·rename_i t x lo hi ho;exact ZKp ok yR ho h0 hc
 ·rename_i t x lo hi mx ho;exact ZHG ok yR ho h0 hc
 ·rename_i x i ho;split at h
  ·rename_i ds hx;simp only[yn,yz] at h;obtain⟨d1,h1,rfl,rfl,rfl⟩:=h;have hv:=Zs (P:=P) yR 0 x;rw[hx,Zj rfl] at hv;simp only[yJ,List.cons.injEq,and_true] at hv;obtain⟨cs,hv,hr⟩:=hv;obtain⟨v,h2,h3⟩:=Zu3 hr h1;have h2':cs[i]? =some v:=by simpa using h2
   exact Zl ok (by simp[execOp,ho,hv,Instr.extract,h2']) h3
  ·cases h
 ·rename_i t x ho;split at h
  ·rename_i y hx;split at h
   ·rename_i hk;simp only[yi,yT,yP] at hk;obtain⟨⟨⟨k1,k2⟩,k3⟩,k4⟩:=hk;cases h;have hv:=Zs (P:=P) yR 0 x;rw[hx] at hv;obtain⟨b,off,us,h1,h2,h3⟩:=Znb hv;obtain⟨v,h4,h5⟩:=Zji (P:=P) (σ:=σ) (d:=.p y) (by simpa[yJ] using h2) (λj u hu=>(h3 j u hu).1) k1 k4 k3 k2;exact Zl ok (by simp[execOp,ho,h1,Instr.loadAt,Instr.sureAddr,h4]) h5
   ·cases h
  ·cases h
 ·rename_i t parts ho;exact ZKq ok yR ho h0
 ·rename_i c ho;split at h
  ·rename_i zU;split at h
   ·rename_i x t zL htys;have hv:=Zs (P:=P) yR t x;split at h
    ·rename_i e nn s xs hu hx;rw[hx] at hv;cases h;obtain⟨_,A,cp,h1,_⟩:=Vy hv;exact Zl ok (ZhX ho zU zL htys (by rw[h1];simp[Builtin.len_,run_underlying hu];rfl)) (ZI _ _)
    ·rename_i e id nn s xs hu hx;rw[hx] at hv;cases h;obtain⟨_,A,cp,h1,_⟩:=ZcK hv;exact Zl ok (ZhX ho zU zL htys (by rw[h1];simp[Builtin.len_,run_underlying hu];rfl)) (ZI _ _)
    ·rename_i e id off yS s lo n hu hx;rw[hx] at hv;cases h;obtain⟨b,cp,aa,_,_,h1,_⟩:=Znc hv;exact Zl ok (ZhX ho zU zL htys (by rw[h1];simp[Builtin.len_,run_underlying hu];rfl)) (ZI _ _)
    ·rename_i e id v s lo n hu hx;rw[hx] at hv;cases h;obtain⟨A,cp,h1,_⟩:=Zln hv;exact Zl ok (ZhX ho zU zL htys (by rw[h1];simp[Builtin.len_,run_underlying hu];rfl)) (ZI _ _)
    ·rename_i dd n e hu;cases h;exact Zl ok (ZhX ho zU zL htys (by simp[Builtin.len_,run_underlying hu];rfl)) (ZI _ _)
    ·rename_i s hu hx;rw[hx] at hv;cases h;exact Zl ok (ZhX ho zU zL htys (by rw[ZhE hv];simp[Builtin.len_,run_underlying hu];rfl)) (ZI _ _)
    ·cases h
   ·cases h
  ·rename_i zU;split at h
   ·rename_i x y t u hs1 zL htys;split at h
    ·rename_i e s hu hx;split at h
     ·rename_i i ys hi hsrc;split at h
      ·rename_i hk;simp only[yi,yE] at hk;cases h;exact Zxb ok yR ho zU zL htys hu hx hi hk.1 hk.2 hsrc hc.1 hc.2.1
      ·cases h
     ·cases h
    ·cases h
   ·cases h
  ·rename_i f zU;split at h
   ·rename_i g cap r hs1 hf;split at h
    ·rename_i hk;simp only[yi,yT] at hk;split at h
     ·rename_i args' r1 zL hr;simp only[yp,yz] at h;obtain⟨rfl,rfl,rfl⟩:=h
      have:=Zvh (P:=P) (ids:=[]) (Hin:=[]) (H':=[]) (Hb:=[]) (r:=r) (r':=r) ok yR ho zU hf hk.1 hk.2 rfl (yj _) (by rw[Zqc];exact zL) rfl
       (Zcx r r1 hr) rfl hc.1
      rwa [Zti] at this
     ·cases h
    ·cases h
   ·cases h
  ·cases h
 ·rename_i t len parts ho;split at h
  ·rename_i hs1;split at h
   ·rename_i e hu;split at h
    ·rename_i i xs hi hl;split at h
     ·rename_i hk;simp only[yi,yE,yP] at hk;cases h;exact Zy3 (Zvd ok yR ho hu hi hk.1.1 hk.1.2 hk.2 hl) (Wk.p (PlWk.sl_nn (by rw[<-Pl.softs_map];exact softs_wk _))) (WkH.refl _)
     ·cases h
    ·cases h
   ·cases h
  ·rename_i hs1;split at h
   ·rename_i e hu;split at h
    ·rename_i i xs hi hl;split at h
     ·rename_i hk;simp only[yi,yE,yP] at hk;cases h;exact Zvd ok yR ho hu hi hk.1.1 hk.1.2 hk.2 hl
     ·cases h
    ·cases h
   ·cases h
  ·cases h
 ·cases h
theorem Zy9(ok:Ok σ){id v v' s lo n N:Nat}{st:Bool}{e:yc}{zs:yL Pl}{u:yh}(hx:yK σ (.rv id v s lo n) u)(hH:σ.H[id]? =some (.row v' s st e (.p (.arr N s zs))))(hv:v'=v)(hle:lo+n<=N):
 ∃A c,u=.slice A n c/\n<=c/\c<=maxLen/\(A=none->c=0)/\allSz s ((zs.drop lo).take n)/\((zs.drop lo).take n).length=n/\∃q,repCs σ.w σ.stab ((zs.drop lo).take n) q/\q.length=n*s/\
  (0 < n->∃b cur cap,A=some ⟨b,lo*s,none⟩/\σ.m[id]? =some (some b)/\σ.w.heap[b]? =some (.cells cur e (0,0))/\cur.size=cap*s/\∀(j:Nat)(u:yh),q[j]? =some u->σ.w.cell? ⟨b,lo*s+j,none⟩=some u):=by
 obtain⟨A,c,rfl,h2,h3,h4,h5,v2,s2,st2,e2,d2,h6,h7,h8⟩:=Zln hx;rw[hH] at h6;cases h6;obtain⟨_,h9⟩:=h8 hv;have hidlt:id < σ.m.length:=by rw[ok.len];exact(yq.1 hH).1
 have hmi:σ.m[id]? =some σ.m[id]:=yab hidlt;obtain⟨N',hN',hent⟩:=ok.ent id _ _ hH hmi;simp only[rowN,if_true,yp] at hN';subst hN';by_cases hn:n=0
 ·subst hn;refine⟨A,c,rfl,h2,h3,h4, ?_,by simp,[],by simp[repCs],by simp,λh=>absurd h (by omega)⟩;simp only[List.take_zero];intro x hx;cases hx
 have hpos:0 < n:=Nat.pos_of_ne_zero hn;rcases h9 with⟨_,_,hz⟩|⟨b,cur,k1,k2,k3,k4⟩
 ·omega
 rw[hmi] at k1;rcases hent with⟨hh,_⟩|⟨b',cur',cap,hh,g2,g4,g5,g6,g7⟩
 ·rw[hh] at k1;cases k1
 rw[hh] at k1;cases k1;rw[k2] at g2;cases g2;simp only[yJ,repC] at g7;obtain⟨hxl,hxs,h7⟩:=g7
 have hsplit:zs=zs.take lo++((zs.drop lo).take n++zs.drop (lo+n)):=by
  have e1:zs.drop (lo+n)=(zs.drop lo).drop n:=by rw[List.drop_drop]
  rw[e1,ybx,ybx]
 rw[hsplit] at h7;obtain⟨q1,q23,e1,r1,r23⟩:=Wq h7;obtain⟨q2,q3,rfl,r2,r3⟩:=Wq r23;have hs1:allSz s (zs.take lo):=λz hz=>hxs z (ycj hz);have hsy:allSz s ((zs.drop lo).take n):=λz hz=>hxs z (List.mem_of_mem_drop (ycj hz));have ly:((zs.drop lo).take n).length=n:=by rw[yah,yby,ybr (by omega)]
 have l1:q1.length=lo*s:=by rw[repCs_size _ _ r1,sizes_all hs1,yah,ybr (by omega)]
 have l2:q2.length=n*s:=by rw[repCs_size _ _ r2,sizes_all hsy,ly]
 refine⟨A,c,rfl,h2,h3,h4,hsy,ly,q2,r2,l2,λ_=>⟨b,cur,cap,k4 (by omega),by rw[hmi,hh],k2,g4,λj u hu=> ?_⟩⟩;rw[cell_of_row σ.w b _ cur e (0,0) k2, <-ycn];have hj:j < q2.length:=(yq.1 hu).1
 have e2:(cur.toList.take (N*s))[lo*s+j]? =some u:=by
  rw[e1,yax (by omega),l1,Nat.add_sub_cancel_left,yao hj];exact hu
 rw[ycl] at e2;split at e2
 ·exact e2
 ·cases e2
theorem Zqd(ok:Ok σ)(yR:RepT σ ts a){s:Nat}{u ut:yc}{y:yo}{ys:yL Pl}{hs1:yL Hint}{C1:yL Prop}(h:Zw6 P s u σ.H hs (ZS P ts ut y)=some (C1,ys,hs1))(hc:AllP C1):
 ZxO P σ s u (a.eval y) ys:=by
 unfold Zw6 at h;split at h
 ·rename_i id off yS s' lo n hd;have hxv:=Zs (P:=P) yR ut y;rw[hd] at hxv;obtain⟨b,cap,A,hm,hv,hve,hcap,hcm,hA⟩:=Znc hxv;split at h
  ·rename_i e dd st hu hH;split at h
   ·rename_i C2 off' N s2 zs hs2 hg;split at h
    ·rename_i hk;simp only[yi,yP] at hk;obtain⟨rfl,rfl⟩:=hk;simp only[yp,yz] at h;obtain⟨rfl,rfl,rfl⟩:=h;obtain⟨c1,rfl,c2,_⟩:=Zp.1 hc;obtain⟨b',cs,t',h1,h2,h3,h4⟩:=ok.ent id _ _ hH hm;cases h1;obtain⟨p1,p2,p3,h5,h6,h7,_⟩:=ZeK yS dd hs hs2 C2 off' (.p (.arr N s2 zs)) _ hg c1 h3;simp only[yJ,repC] at h7;obtain⟨hxl,hxs,h7⟩:=h7
     have hsplit:zs=zs.take lo++((zs.drop lo).take n++zs.drop (lo+n)):=by
      have e1:zs.drop (lo+n)=(zs.drop lo).drop n:=by rw[List.drop_drop]
      rw[e1,ybx,ybx]
     rw[hsplit] at h7;obtain⟨q1,q23,rfl,r1,r23⟩:=Wq h7;obtain⟨q2,q3,rfl,r2,r3⟩:=Wq r23;have hs1:allSz s2 (zs.take lo):=λz hz=>hxs z (ycj hz);have hsy:allSz s2 ((zs.drop lo).take n):=λz hz=>hxs z (List.mem_of_mem_drop (ycj hz));have ly:((zs.drop lo).take n).length=n:=by rw[yah,yby,ybr (by omega)]
     have l1:q1.length=lo*s2:=by rw[repCs_size _ _ r1,sizes_all hs1,yah,ybr (by omega)]
     have l2:q2.length=n*s2:=by rw[repCs_size _ _ r2,sizes_all hsy,ly]
     rw[hve];refine⟨q2,⟨.inl ⟨_,hu⟩,λw'=>by rw[ly];rfl, ?_, ?_,by rw[ly];exact l2⟩,r2,λ_=>hsy⟩
     all_goals
      rw[ly];rcases ycd n with h0|h0
      ·subst h0;have hz:q2=[]:=ybl (by rw[l2];simp);rw[hz];simp[Builtin.firstCells,loadCells,loadCellsFrom]
      ·rw[hA h0];refine run_firstCells_some _ s2 _ ⟨b,off'+lo*s2,none⟩ _ cap q2 l2 (λj v hv=> ?_);rw[Addr.add_mk];have hcell:σ.w.cell? ⟨b,off'+lo*s2+j,none⟩=cs[off'+lo*s2+j]? :=cell_of_row σ.w b _ cs t' (0,0) h2
       first
        |(rw[hcell, <-ycn]
          have h5':cs.toList.take dd.size=(p1++q1)++(q2++(q3++p3)):=by rw[h5];simp
          have hpl:(p1++q1).length=off'+lo*s2:=by rw[yl,h6,l1]
          have hj:j < q2.length:=(yq.1 hv).1
          have e2:(cs.toList.take dd.size)[off'+lo*s2+j]? =some v:=by
           rw[h5',yax (by omega),hpl,Nat.add_sub_cancel_left,yao hj];exact hv
          rw[ycl] at e2;split at e2
          ·exact e2
          ·cases e2)
        |(show σ.w.drew.cell? _=_
          have hcell2:σ.w.drew.cell? ⟨b,off'+lo*s2+j,none⟩=σ.w.cell? ⟨b,off'+lo*s2+j,none⟩:=rfl;rw[hcell2,hcell, <-ycn];have h5':cs.toList.take dd.size=(p1++q1)++(q2++(q3++p3)):=by rw[h5];simp
          have hpl:(p1++q1).length=off'+lo*s2:=by rw[yl,h6,l1]
          have hj:j < q2.length:=(yq.1 hv).1
          have e2:(cs.toList.take dd.size)[off'+lo*s2+j]? =some v:=by
           rw[h5',yax (by omega),hpl,Nat.add_sub_cancel_left,yao hj];exact hv
          rw[ycl] at e2;split at e2
          ·exact e2
          ·cases e2)
    ·cases h
   ·cases h
  ·cases h
 ·rename_i id v s' lo n hd;have hxv:=Zs (P:=P) yR ut y;rw[hd] at hxv;split at h
  ·rename_i e v' s2 st e' N s3 zs hu hH;split at h
   ·rename_i hk;simp only[yi,yP,yT] at hk;obtain⟨⟨⟨rfl,rfl⟩,rfl⟩,hv⟩:=hk;simp only[yp,yz] at h;obtain⟨rfl,rfl,rfl⟩:=h;obtain⟨A,cap,hve,hcap,hcm,hA,hsy,ly,q2,r2,l2,hq⟩:=Zy9 ok hxv hH hv hc.1;rw[hve];refine⟨q2,⟨.inl ⟨_,hu⟩,λw'=>by rw[ly];rfl, ?_, ?_,by rw[ly];exact l2⟩,r2,λ_=>hsy⟩
    all_goals
     rw[ly];rcases ycd n with h0|h0
     ·subst h0;have hz:q2=[]:=ybl (by rw[l2];simp);rw[hz];cases A <;> simp[Builtin.firstCells,loadCells,loadCellsFrom]
     ·obtain⟨b,cur,cp,rfl,_,_,_,hcell⟩:=hq h0;refine run_firstCells_some _ _ _ ⟨b,_,none⟩ _ cap q2 l2 (λj v hv=> ?_);rw[Addr.add_mk];exact hcell j v hv
   ·cases h
  ·cases h
 ·simp only[yn,yz] at h;obtain⟨zs,h1,rfl,rfl,rfl⟩:=h;exact Zjk (P:=P) yR h1
end
end Go.Ev
end
section
namespace Go.Ev
def ZkA:yh->Bool
 |.int _ _=>true
 |.bool _=>true
 |_=>false
mutual
theorem ZhZ{w w':World}{S S':Nat->Nat->Prop}:∀(x:Pl)(us vs:yL yh),x.flat=true->repC w S x us->repC w' S' x vs->us=vs/\∀u,u∈us->ZkA u=true
 |.int _ _,us,vs,_,h,k=>by simp only[repC] at h k;subst h;subst k;exact⟨rfl,λu hu=>by rw[yam.1 hu];rfl⟩
 |.bool _,us,vs,_,h,k=>by simp only[repC] at h k;subst h;subst k;exact⟨rfl,λu hu=>by rw[yam.1 hu];rfl⟩
 |.str _,_,_,h,_,_=>by simp[Pl.flat] at h
 |.ptr0,_,_,h,_,_=>by simp[Pl.flat] at h
 |.fn0,_,_,h,_,_=>by simp[Pl.flat] at h
 |.if0,_,_,h,_,_=>by simp[Pl.flat] at h
 |.map0,_,_,h,_,_=>by simp[Pl.flat] at h
 |.fnv _,_,_,h,_,_=>by simp[Pl.flat] at h
 |.agg xs,us,vs,hf,h,k=>by
  simp only[Pl.flat] at hf;simp only[repC] at h k
  exact flats_cells xs us vs hf h k
 |.arr n s xs,us,vs,hf,h,k=>by
  simp only[Pl.flat] at hf;simp only[repC] at h k
  exact flats_cells xs us vs hf h.2.2 k.2.2
 |.sl _ _ _,_,_,h,_,_=>by simp[Pl.flat] at h
 |.iface _ _,_,_,h,_,_=>by simp[Pl.flat] at h
theorem flats_cells{w w':World}{S S':Nat->Nat->Prop}:∀(xs:yL Pl)(us vs:yL yh),Pl.flats xs=true->repCs w S xs us->repCs w' S' xs vs->us=vs/\∀u,u∈us->ZkA u=true
 |[],us,vs,_,h,k=>by simp only[repCs] at h k;subst h;subst k;exact⟨rfl,λu hu=>by cases hu⟩
 |x::xs,us,vs,hf,h,k=>by
  simp only[Pl.flats,yi] at hf;simp only[repCs] at h k;obtain⟨a,b,rfl,h1,h2⟩:=h;obtain⟨c,d,rfl,k1,k2⟩:=k;obtain⟨rfl,e1⟩:=ZhZ x a c hf.1 h1 k1;obtain⟨rfl,e2⟩:=flats_cells xs b d hf.2 h2 k2;refine⟨rfl,λu hu=> ?_⟩;rcases List.mem_append.1 hu with hu|hu
  ·exact e1 u hu
  ·exact e2 u hu
end
theorem Zvk{σ σ':Sg}{x:Pl}{a b:yh}(hf:x.flat=true)(ha:yK σ (.p x) a)(hb:yK σ' (.p x) b):a=b:=by
 cases hx:x.isAgg with
 |true=>
  obtain⟨cs,rfl,h⟩:=(Yw (d:=.p x) hx).1 ha;obtain⟨ds,rfl,k⟩:=(Yw (d:=.p x) hx).1 hb;simp only[yJ] at h k;obtain⟨e,_⟩:=ZhZ x _ _ hf h k
  rw[show cs=ds from by cases cs;cases ds;simpa using e]
 |false=>
  have h:=(Zj (d:=.p x) hx).1 ha;have k:=(Zj (d:=.p x) hx).1 hb;simp only[yJ] at h k;obtain⟨e,_⟩:=ZhZ x _ _ hf h k;simpa using e
theorem Zvl(n:Nat):∀{u:yh},ZkA u=true->Instr.sameBits n u u=true:=by
 intro u h;cases u <;> first|(cases n <;> simp[Instr.sameBits];done)|(simp[ZkA] at h)
theorem ZGw{σ:Sg}{x:Pl}{a:yh}(hf:x.flat=true)(ha:yK σ (.p x) a):Instr.sameBits 10000 a a=true:=by
 cases hx:x.isAgg with
 |true=>
  obtain⟨cs,rfl,h⟩:=(Yw (d:=.p x) hx).1 ha;simp only[yJ] at h;obtain⟨_,e⟩:=ZhZ x _ _ hf h h;show(cs.size==cs.size&&(cs.toList.zip cs.toList).all λ(x,y)=>Instr.sameBits 9999 x y)=true;simp only[beq_self_eq_true,Bool.true_and,List.all_eq_true];intro p hp
  have key:∀(l:yL yh),(∀u,u∈l->ZkA u=true)->∀p,p∈l.zip l->Instr.sameBits 9999 p.1 p.2=true:=by
   intro l
   induction l with
   |nil=>intro _ p hp;cases hp
   |cons z r ih=>
    intro hz p hp;simp only[List.zip_cons_cons] at hp;rcases List.mem_cons.1 hp with rfl|hp
    ·exact Zvl 9999 (hz z (yay ..))
    ·exact ih (λu hu=>hz u (yba _ hu)) p hp
  exact key _ e p hp
 |false=>
  have h:=(Zj (d:=.p x) hx).1 ha;simp only[yJ] at h;obtain⟨_,e⟩:=ZhZ x _ _ hf h h;exact Zvl 10000 (e a (yam.2 rfl))
theorem ZxS{P:yg}{n:Nat}(ih:∀(t:yc)(x:Pl),fitP P n t x->x.flat=true):∀(fs:yL Field)(o:Nat)(xs:yL Pl),Zkv P (fitP P n) fs o xs->Pl.flats xs=true
 |[],_,[],_=>rfl
 |[],_,_::_,h=>h.elim
 |_::_,_,[],h=>h.elim
 |f::fs,o,y::ys,h=>by
  obtain⟨_,_,_,_,_,_,_,a,b⟩:=h;simp only[Pl.flats,ih _ _ a,ZxS ih fs _ ys b,Bool.and_self]
theorem ZxT:∀{xs:yL Pl},(∀y,y∈xs->y.flat=true)->Pl.flats xs=true
 |[],_=>rfl
 |x::xs,h=>by simp only[Pl.flats,h x (yay ..),ZxT λy hy=>h y (yba _ hy),Bool.and_self]
theorem Zni{P:yg}:∀(n:Nat)(t:yc)(x:Pl),fitP P n t x->x.flat=true
 |0,_,_,h=>by simp[fitP] at h
 |n+1,t,x,h=>by
  unfold fitP at h;split at h
  ·rfl
  ·rfl
  ·obtain⟨_,_,_,_,_,h⟩:=h;simp only[Pl.flat];exact ZxT λy hy=>Zni n _ y (h y hy).1
  ·simp only[Pl.flat];exact ZxS (Zni n) _ _ _ h.2
  ·exact h.elim
theorem Zc7{P:yg}{σ:Sg}{em:Bool}:∀(n:Nat)(t:yc)(x:Pl)(a:yh),fitP P n t x->yK σ (.p x) a->∀d,(Instr.checkKey em (d+n) t a).run P σ.w=.ok () σ.w
 |0,_,_,_,h,_,_=>by simp[fitP] at h
 |n+1,t,x,a,hx,ra,d=>by
  unfold fitP at hx;rw[show d+(n+1)=(d+n)+1 from rfl]
  split at hx
  ·rename_i hu;rw[Xm ra];simp[Instr.checkKey,run_underlying hu]
  ·rename_i k k' z hu;rw[Yd ra];simp[Instr.checkKey,run_underlying hu]
  ·rename_i m e m' s xs hu;obtain⟨rfl,h1,h2,h3,h4,h5⟩:=hx;rw[Yw (by rfl)] at ra;obtain⟨cs,rfl,ra⟩:=ra;simp only[yJ] at ra;obtain⟨n1,ra1,ra2⟩:=Zvi ra;clear ra ra1;subst n1;rw[Instr.checkKey];simp only[Sem.run_bind,run_underlying hu,Result.andThen_ok];simp only[Std.Legacy.Range.forIn_eq_forIn_range',Std.Legacy.Range.size,Nat.sub_zero,Nat.add_one_sub_one,Nat.div_one];obtain⟨i,p,us,hi0,e1,l1,r1⟩:∃(i:Nat)(p us:yL yh),i=0/\cs.toList=p++us/\p.length=i*s/\repCs σ.w σ.stab xs us:=⟨0,[],cs.toList,rfl,rfl,by simp,ra2⟩;rw[<-hi0];clear hi0 ra2 hu
   induction xs generalizing i p us with
   |nil=>simp
   |cons x xs ih=>
    simp only[repCs] at r1;obtain⟨u1,u2,rfl,q1,q2⟩:=r1;obtain⟨f1,f2,f3⟩:=h5 x (yay ..);obtain⟨a,ha,ra⟩:=Zc5 (P:=P) (σ:=σ) (t:=e) (d:=.p x) e1 (by simpa[yJ] using q1) (by rw[h1];exact f2.symm) h3 h4 f3 (by show x.size≠0;omega);rw[l1] at ha;have s1:=Vt _ _ q1;have hk:=Zc7 (em:=em) n e x a f1 ra d;rw[yai,List.range'_succ];simp only[List.forIn_cons,Sem.run_bind,Yq h3,h1,Result.andThen_ok,ha,hk,Sem.run_pure];exact ih (λy hy=>h5 y (yba _ hy)) (i+1) (p++u1) u2 (by rw[e1,yad]) (by rw[yl,l1,s1,f2,yaz,Nat.one_mul]) q2
  ·rename_i fs xs hu;obtain⟨h1,h2⟩:=hx;rw[Yw (by rfl)] at ra;obtain⟨cs,rfl,ra⟩:=ra;simp only[yJ,repC] at ra;rw[Instr.checkKey];simp only[Sem.run_bind,run_underlying hu,Result.andThen_ok];rw[<-Array.forIn_toList];obtain⟨o,p,us,ho,e1,l1,r1⟩:∃(o:Nat)(p us:yL yh),o=0/\cs.toList=p++us/\p.length=o/\repCs σ.w σ.stab xs us:=⟨0,[],cs.toList,rfl,rfl,rfl,ra⟩;rw[<-ho] at h2;clear ho ra hu;generalize fs.toList=L at*
   induction L generalizing xs o p us with
   |nil=>simp
   |cons f L ih=>
    cases xs with
    |nil=>exact h2.elim
    |cons x xs=>
     obtain⟨a1,a2,a3,a4,a5,a6,a7,a8,a9⟩:=h2;simp only[repCs] at r1;obtain⟨u1,u2,rfl,q1,q2⟩:=r1;obtain⟨a,ha,ra⟩:=Zc5 (P:=P) (σ:=σ) (t:=f.type) (d:=.p x) e1 (by simpa[yJ] using q1) a3 a4 a5 a6 a7;rw[l1, <-a2] at ha;have s1:=Vt _ _ q1;have hk:=Zc7 (em:=em) n f.type x a a8 ra d;simp only[List.forIn_cons,a1,ne_eq,not_false_eq_true,if_true,Sem.run_bind,ha,Result.andThen_ok,hk,Sem.run_pure];exact ih xs (o+x.size) (p++u1) u2 (by rw[e1,yad]) (by rw[yl,l1,s1]) q2 a9
  ·exact hx.elim
end Go.Ev
namespace Go.Ev
structure Finder(P:yg)(σ:Sg)(kt:yc)(k:Pl)(F:List MapEntry->Nat->Option (Nat×yh)->Prop):Prop where
 nil:∀i,F [] i none
 eq:∀(e:MapEntry)es i(q:Pl),fitP P 20 kt q->yK σ (.p q) e.key->k=q->F (e::es) i (some (i,e.val))
 ne:∀(e:MapEntry)es i(q:Pl)r,fitP P 20 kt q->yK σ (.p q) e.key->k≠q->F es (i+1) r->F (e::es) i r
theorem Zvm{P:yg}{σ:Sg}{kt:yc}{k:Pl}{a:yh}(hk:fitP P 20 kt k)(ra:yK σ (.p k) a):Finder P σ kt k λes i r=>(Instr.findAsking kt a es i).run P σ.w=.ok r σ.w where
 nil i:=by simp[Instr.findAsking]
 eq e es i q hq rq h:=by
  have:=Zse (β:=true) hk hq ra rq (by simp[h]);simp[Instr.findAsking,this]
 ne e es i q r hq rq h hr:=by
  have:=Zse (β:=false) hk hq ra rq (by simp[h]);simp[Instr.findAsking,this,hr]
theorem Zvn{P:yg}{σ:Sg}{kt:yc}{d:TypeDesc}{k:Pl}{a:yh}(hd:P.underlying kt=some d)(hs:(∃q,d=.int q)\/d=.bool)(hk:fitP P 20 kt k)(ra:yK σ (.p k) a):
 Finder P σ kt k λes i r=>Instr.findNow d a es i=some r where
 nil i:=rfl
 eq e es i q hq rq h:=by
  subst h;have hv:=Zvk (Zni 20 kt k hk) ra rq;unfold fitP at hk;rw[hd] at hk;rcases hs with⟨kk,rfl⟩|rfl
  ·cases k <;> first|exact hk.elim|skip
   subst hk;have e1:=Yd rq;have e2:=Yd ra;simp[Instr.findNow,Instr.sameNow,e1,e2]
  ·cases k <;> first|exact hk.elim|skip
   have e1:=Xm rq;have e2:=Xm ra;simp[Instr.findNow,Instr.sameNow,e1,e2]
 ne e es i q r hq rq h hr:=by
  unfold fitP at hk hq;rw[hd] at hk hq;rcases hs with⟨kk,rfl⟩|rfl
  ·cases k <;> first|exact hk.elim|skip
   cases q <;> first|exact hq.elim|skip
   subst hk;have hq':=hq;simp only at hq';subst hq';have e1:=Yd rq;have e2:=Yd ra;have h':¬(‹Int› :Int)=_:=λhh=>h (by rw[hh]);rw[e2] at hr ⊢;simp only[Instr.findNow,Instr.sameNow,e1,if_true];rw[beq_eq_false_iff_ne.2 (λhh=>h' hh.symm)];exact hr
  ·cases k <;> first|exact hk.elim|skip
   cases q <;> first|exact hq.elim|skip
   have e1:=Xm rq;have e2:=Xm ra;have h':¬(‹Bool› :Bool)=_:=λhh=>h (by rw[hh]);rw[e2] at hr ⊢;simp only[Instr.findNow,Instr.sameNow,e1];rw[beq_eq_false_iff_ne.2 (λhh=>h' hh.symm)];exact hr
theorem Zvo{P:yg}{σ:Sg}{kt:yc}{k:Pl}{F:yL MapEntry->Nat->yO (Nat×yh)->Prop}(hF:Finder P σ kt k F):∀(kvs:yL (Pl×Pl))(es:yL MapEntry)(i:Nat)(r:yO Pl),Zjg σ kvs es->Zpr P kt kvs->Zkw kvs k r->
 (r=none->F es i none)/\∀v,r=some v->∃(j:Nat)(u:yh),F es i (some (j,u))/\yK σ (.p v) u
 |[],[],i,r,_,_,h=>by
  simp only[Zkw] at h;subst h
  exact⟨λ_=>hF.nil i,λv hv=>by cases hv⟩
 |[],_::_,_,_,h,_,_=>h.elim
 |_::_,[],_,_,h,_,_=>h.elim
 |q::l,e::es,i,r,⟨r1,r2,r3⟩,hf,h=>by
  have hq:=hf q (yay ..);simp only[Zkw] at h;rcases h with⟨h1,rfl⟩|⟨h1,h2⟩
  ·exact⟨λh=>(by cases h),λv hv=>⟨i,e.val,hF.eq e es i q.1 hq r1 h1,by cases hv;exact r2⟩⟩
  ·obtain⟨a1,a2⟩:=Zvo hF l es (i+1) r r3 (λz hz=>hf z (yba _ hz)) h2;refine⟨λh=>hF.ne e es i q.1 none hq r1 h1 (a1 h),λv hv=> ?_⟩;obtain⟨j,u,b1,b2⟩:=a2 v hv;exact⟨j,u,hF.ne e es i q.1 _ hq r1 h1 b1,b2⟩
theorem ZBa{P:yg}{σ:Sg}{kt:yc}{k v:Pl}{F:yL MapEntry->Nat->yO (Nat×yh)->Prop}(hF:Finder P σ kt k F):∀(kvs:yL (Pl×Pl))(es:yL MapEntry)(i:Nat)(l:yL (Pl×Pl)),Zjg σ kvs es->Zpr P kt kvs->Zpq kvs k v l->
 (∃(j:Nat)(e:MapEntry),F es i (some (i+j,e.val))/\es[j]? =some e/\yK σ (.p k) e.key/\∀e',yK σ (.p k) e'.key->yK σ (.p v) e'.val->Zjg σ l (es.set j e'))\/
 (F es i none/\∀e',yK σ (.p k) e'.key->yK σ (.p v) e'.val->Zjg σ l (es++[e']))
 |[],[],i,l,_,_,h=>by
  simp only[Zpq] at h;subst h
  exact .inr ⟨hF.nil i,λe' h1 h2=>⟨h1,h2,ytt⟩⟩
 |[],_::_,_,_,h,_,_=>h.elim
 |_::_,[],_,_,h,_,_=>h.elim
 |q::r,e::es,i,l,⟨r1,r2,r3⟩,hf,h=>by
  have hq:=hf q (yay ..);simp only[Zpq] at h;rcases h with⟨h1,rfl⟩|⟨h1,l',rfl,h2⟩
  ·exact .inl ⟨0,e,hF.eq e es i q.1 hq r1 h1,rfl,by rw[h1];exact r1,λe' k1 k2=>⟨k1,k2,r3⟩⟩
  ·rcases ZBa hF r es (i+1) l' r3 (λz hz=>hf z (yba _ hz)) h2 with⟨j,e2,b1,b2,b3,b4⟩|⟨b1,b2⟩
   ·exact .inl ⟨j+1,e2,by have:=hF.ne e es i q.1 _ hq r1 h1 b1;rwa [show i+1+j=i+(j+1) by omega] at this,by simpa using b2,b3,λe' k1 k2=>⟨r1,r2,b4 e' k1 k2⟩⟩
   ·exact .inr ⟨hF.ne e es i q.1 _ hq r1 h1 b1,λe' k1 k2=>⟨r1,r2,b2 e' k1 k2⟩⟩
theorem Zqe{P:yg}{σ:Sg}{kt:yc}{k:Pl}{a:yh}(hkt:Zta P kt=true)(hk:fitP P 20 kt k)(ra:yK σ (.p k) a):
 ∃F,Finder P σ kt k F/\∀es r,F es 0 r->(Instr.findKey kt a es).run P σ.w=.ok r σ.w:=by
 unfold Zta at hkt;split at hkt
 ·rename_i q hu;exact⟨_,Zvn hu (.inl ⟨_,rfl⟩) hk ra,λes r h=>Go.MapKept.run_findKey hu h⟩
 ·rename_i hu;exact⟨_,Zvn hu (.inr rfl) hk ra,λes r h=>Go.MapKept.run_findKey hu h⟩
 ·rename_i n e hu;exact⟨_,Zvm hk ra,λes r h=>by rw[run_findKey_eq σ.w (by rw[hu])];exact h⟩
 ·rename_i fs hu;exact⟨_,Zvm hk ra,λes r h=>by rw[run_findKey_eq σ.w (by rw[hu])];exact h⟩
 ·cases hkt
theorem ZDj{σ:Sg}{id:Nat}{v:yh}(h:yK σ (.mp id) v):∃b,σ.m[id]? =some (some b)/\v=.map (some b):=by
 rw[Zj rfl] at h;simp only[yJ] at h;obtain⟨b,h1,_,h2⟩:=h;exact⟨b,h1,by simpa using h2⟩
theorem ZxU{σ:Sg}:∀(l:yL (Pl×Pl))(es:yL MapEntry),Zjg σ l es->es.length=l.length
 |[],[],_=>rfl
 |[],_::_,h=>h.elim
 |_::_,[],h=>h.elim
 |_::l,_::es,h=>by rw[yai,yai,ZxU l es h.2.2]
theorem ZHK{es:Array MapEntry}{clock:Nat}(h:Zp5 es clock)(j:Nat){f:MapEntry->MapEntry}(hf:∀e,(f e).born=e.born):Zp5 (es.modify j f) clock:=by
 have key:∀(q:Nat)en,(es.modify j f)[q]? =some en->∃en0,es[q]? =some en0/\en.born=en0.born:=by
  intro q en hq;rw[Array.getElem?_modify] at hq;split at hq
  ·obtain⟨e0,h1,h2⟩:=yn.1 hq;exact⟨e0,h1,by rw[<-h2,hf]⟩
  ·exact⟨en,hq,rfl⟩
 refine⟨λq en hq=> ?_,λq q' en en' hq hq' he=> ?_⟩
 ·obtain⟨e0,h1,h2⟩:=key q en hq;rw[h2];exact h.1 q e0 h1
 ·obtain⟨e0,h1,h2⟩:=key q en hq;obtain⟨e1,h3,h4⟩:=key q' en' hq';exact h.2 q q' e0 e1 h1 h3 (by rw[<-h2, <-h4,he])
theorem ZGx{es:Array MapEntry}{clock:Nat}(h:Zp5 es clock){e:MapEntry}(he:e.born=clock):Zp5 (es.push e) (clock+1):=by
 have key:∀(q:Nat)en,(es.push e)[q]? =some en->(es[q]? =some en/\en.born < clock)\/(q=es.size/\en.born=clock):=by
  intro q en hq;rw[Array.getElem?_push] at hq;split at hq
  ·rename_i h0;cases hq;exact .inr ⟨h0,he⟩
  ·exact .inl ⟨hq,h.1 q en hq⟩
 refine⟨λq en hq=> ?_,λq q' en en' hq hq' hb=> ?_⟩
 ·rcases key q en hq with⟨_,h1⟩|⟨_,h1⟩ <;> omega
 ·rcases key q en hq with⟨h1,h2⟩|⟨h1,h2⟩ <;> rcases key q' en' hq' with⟨h3,h4⟩|⟨h3,h4⟩
  ·exact h.2 q q' en en' h1 h3 hb
  ·omega
  ·omega
  ·omega
theorem Zh0{P:yg}{w:World}{b:Nat}{es:Array MapEntry}{clock:Nat}(h:w.heap[b]? =some (.map es clock)):(getObj b).run P w=.ok (.map es clock) w:=Go.MapKept.run_getObj_map h
section
variable{P:yg}{o:Oper}{a:Act}{σ:Sg}{ts:yL Dv}{hs hs':yL Hint}{C:yL Prop}{d:Dv}{H':yL Ent}
theorem ZxV{σ:Sg}{x y:Dv}{u v:yh}(h1:yK σ x u)(h2:yK σ y v):yK σ (.tup [x,y]) (.tuple #[u,v]):=by
 rw[Zj rfl];simp only[yJ];exact⟨#[u,v],rfl,by simp only[repVs];exact⟨u,[v],rfl,h1,v,[],rfl,h2,rfl⟩⟩
theorem ZHL(ok:Ok σ)(yR:RepT σ ts a){t:yc}{x ix:yo}{comma:Bool}(ho:o.op=.lookup t x ix comma)(h:evR P o ts σ.H hs=some (C,d,hs'))(hc:AllP C):WI P o a σ d σ.H:=by
 simp only[evR,ho] at h;have hx:=Zs (P:=P) yR t x;split at h
 ·rename_i kt et id hu hxa;rw[hxa] at hx;obtain⟨b,hm,hv⟩:=ZDj hx;have hix:=Zs (P:=P) yR kt ix;split at h
  ·rename_i k t' kvs v hs1 hk hH;rw[hk] at hix;obtain⟨b',es,clock,h1,h2,h3,h3b⟩:=ok.ent id _ _ hH hm;cases h1;split at h
   ·rename_i hkt;cases h;obtain⟨c1,c2,c3,_⟩:=hc;obtain⟨F,hF,zW⟩:=Zqe (P:=P) hkt c1 hix;obtain⟨_,g2⟩:=Zvo hF kvs es.toList 0 _ h3 c2 c3;obtain⟨j,u,g3,g4⟩:=g2 v rfl;have g5:=zW _ _ g3;have g6:=Zc7 (em:=es.isEmpty) 20 kt k _ c1 hix 9980
    have hrunL:(Instr.lookup t (a.eval x) (a.eval ix) comma).run P σ.w=.ok (if comma then .tuple #[u,.bool true] else u) σ.w:=by
     simp only[Instr.lookup,Sem.run_bind,run_underlying hu,Result.andThen_ok,hv,Zh0 h2,Sem.run_pure,g6,g5]
    refine Zl ok (by simp[execOp,ho,hrunL];rfl) ?_;cases comma
    ·exact g4
    ·exact ZxV g4 (YP _)
   ·cases h
  ·rename_i k t' kvs hs1 hk hH;rw[hk] at hix;obtain⟨b',es,clock,h1,h2,h3,h3b⟩:=ok.ent id _ _ hH hm;cases h1;split at h
   ·rename_i hkt;simp only[yi] at hkt;cases h;obtain⟨c1,c2,c3,_⟩:=hc;obtain⟨F,hF,zW⟩:=Zqe (P:=P) hkt.1 c1 hix;obtain⟨g1,_⟩:=Zvo hF kvs es.toList 0 _ h3 c2 c3;have g5:=zW _ _ (g1 rfl);have g6:=Zc7 (em:=es.isEmpty) 20 kt k _ c1 hix 9980
    obtain⟨hz,hkt2⟩:∃z,(zeroValue et).run P σ.w=.ok z σ.w/\yK σ (Vo P et) z:=by
     have h9:=hkt.2;unfold ZyX at h9;split at h9
     ·rename_i i hi
      cases hzz:i.zero with
      |none=>simp[hzz] at h9
      |some z=>
       refine⟨z,by simp[zeroValue,typeInfo,hi,hzz], ?_⟩;unfold Vo;rw[hi];simp only[hzz];exact ZeH
     ·cases h9
    have hrunL:(Instr.lookup t (a.eval x) (a.eval ix) comma).run P σ.w=.ok (if comma then .tuple #[hz,.bool false] else hz) σ.w:=by
     simp only[Instr.lookup,Sem.run_bind,run_underlying hu,Result.andThen_ok,hv,Zh0 h2,Sem.run_pure,g6,g5,hkt2.1]
    refine Zl ok (by simp[execOp,ho,hrunL];rfl) ?_;cases comma
    ·exact hkt2.2
    ·exact ZxV hkt2.2 (YP _)
   ·cases h
  ·cases h
 ·cases h
theorem ZHM(ok:Ok σ)(yR:RepT σ ts a){c:Call}(ho:o.op=.call c)(zU:c.callee=.builtin .len)(h:evR P o ts σ.H hs=some (C,d,hs'))(hc:AllP C):WI P o a σ d σ.H:=by
 simp only[evR,ho,zU] at h;split at h
 ·rename_i x t zL htys;have hx:=Zs (P:=P) yR t x;split at h
  ·rename_i kt et id hu hxa;rw[hxa] at hx;obtain⟨b,hm,hv⟩:=ZDj hx;split at h
   ·rename_i t' kvs hH;obtain⟨b',es,clock,h1,h2,h3,h3b⟩:=ok.ent id _ _ hH hm;cases h1;cases h;have hl:=ZxU _ _ h3;refine Zl ok (ZhX ho zU zL htys (v:=goInt es.size) (by rw[hv];simp[Builtin.len_,run_underlying hu,Zh0 h2])) ?_;rw[<-ybg,hl];exact ZI _ _
   ·cases h
  ·cases h
 ·cases h
theorem ZGy(ok:Ok σ){t:yc}(ho:o.op=.makeMap t none):WI P o a σ (.mp σ.H.length) (σ.H++[.map t []]):=by
 let σ':Sg:={ σ with m:=σ.m++[some σ.w.heap.size],H:=σ.H++[.map t []],w:=σ.w.alloc (.map #[] 0)};have zX:σ'.w.heap[σ.w.heap.size]? =some (.map #[] 0):=heap_alloc_new σ.w _
 have hmlast:σ'.m[σ.H.length]? =some (some σ.w.heap.size):=by
  show(σ.m++[some σ.w.heap.size])[σ.H.length]? =_;rw[yax (by rw[ok.len];exact yj _),ok.len];simp
 obtain⟨to,ok'⟩:=V7 (σ':=σ') ok rfl rfl rfl rfl (World.grownBy_alloc σ.w (.map #[] 0) none) (.inr ⟨_,rfl,yj _,by simp[σ']⟩)
  (λleaf=>⟨σ.w.heap.size, #[],0,rfl,zX,zT,by simp[Zp5]⟩)
 refine Yf (σ':=σ') (v:=.map (some σ.w.heap.size)) ?_ to ok' ?_
 ·have:(Instr.makeMap t none).run P σ.w=.ok (.map (some σ.w.heap.size)) (σ.w.alloc (.map #[] 0)):=rfl;simp[execOp,ho,this,σ']
 ·rw[Zj rfl];simp only[yJ];exact⟨_,hmlast,⟨t,[],by simp[σ']⟩,rfl⟩
theorem ZxW(ok:Ok σ){id b:Nat}{t:yc}{kvs l:yL (Pl×Pl)}{es es':Array MapEntry}{clock clock':Nat}(hH:σ.H[id]? =some (.map t kvs))(hm:σ.m[id]? =some (some b))(hb:σ.w.heap[b]? =some (.map es clock))
 (hl:Zjg σ l es'.toList) (hbo:Zp5 es' clock'):
 let σ':Sg:={ σ with m:=σ.m.set id (some b),H:=σ.H.set id (.map t l),w:={ σ.w with heap:=σ.w.heap.setIfInBounds b (.map es' clock')}}
 To σ σ'/\Ok σ':=by
 intro σ';obtain⟨g1,g2⟩:=Go.MapKept.heap_set (w:=σ.w) (o':=.map es' clock') hb
 exact Ve (σ':=σ') (mi:=some b) (mi':=some b) ok hH hm rfl rfl rfl rfl rfl rfl rfl (by simp[σ'])
  (λj hj hne=>g2 j (λhh=>hne (by rw[hh]))) (λb' o v hb' hu hc=>by
    cases hb';simp[World.cell?,hb] at hc) (λo _ hu=>by cases hu) (.inl rfl) (λ⟨d,st,h⟩=>by cases h) (λ_=>⟨rfl,t,l,rfl⟩)
  (λs e xs h=>by cases h) (λleaf=>⟨b,es',clock',rfl,g1,Zp8 leaf _ _ hl,hbo⟩)
theorem ZBb(ok:Ok σ)(yR:RepT σ ts a){t kt et:yc}{m k x:yo}{id:Nat}{t':yc}{kk v:Pl}{kvs l:yL (Pl×Pl)}(ho:o.op=.mapUpdate t m k x)(hu:P.underlying t=some (.map kt et))
 (hx:ZS P ts t m=.mp id) (hk:ZS P ts kt k=.p kk) (hv:(ZS P ts et x).flat=some v) (hH:σ.H[id]? =some (.map t' kvs)) (hkt:Zta P kt=true) (c1:fitP P 20 kt kk) (c2:Zpr P kt kvs) (c3:Zpq kvs kk v.soft l):
 WI P o a σ .junk (σ.H.set id (.map t' l)):=by
 have hxv:=Zs (P:=P) yR t m;rw[hx] at hxv;obtain⟨b,hm,hmv⟩:=ZDj hxv;have hkv:=Zs (P:=P) yR kt k;rw[hk] at hkv;have hvv:=(Wk.p (Zov v)).dv (ZuY hv (Zs (P:=P) yR et x));obtain⟨b',es,clock,h1,h2,h3,h3b⟩:=ok.ent id _ _ hH hm;cases h1;obtain⟨F,hF,zW⟩:=Zqe (P:=P) hkt c1 hkv;have g6:=Zc7 (em:=false) 20 kt kk _ c1 hkv 9980;rcases ZBa hF kvs es.toList 0 l h3 c2 c3 with⟨j,e,f1,f2,f3,f4⟩|⟨f1,f2⟩
 ·have g5:=zW _ _ f1;rw[ybe] at g5;have he:es[j]? =some e:=by rw[<-ycn];exact f2
  have hsame:e.key=a.eval k:=Zvk (Zni 20 kt kk c1) f3 hkv
  have hbits:Instr.sameBits 10000 e.key (a.eval k)=true:=by
   rw[hsame];exact ZGw (Zni 20 kt kk c1) hkv
  have hes:(es.modify j λe=>{ e with key:=a.eval k,val:=a.eval x}).toList=es.toList.set j { e with key:=a.eval k,val:=a.eval x}:=by
   apply ybs;intro i;rw[ycn,Array.getElem?_modify,ybw,ycn];by_cases hij:j=i
   ·subst hij;have hlt:j < es.toList.length:=by simpa using(ydc.1 he).1
    simp[he,hlt];exact(ydc.1 he).1
   ·simp[hij]
  obtain⟨to,ok'⟩:=ZxW (es':=es.modify j λe=>{ e with key:=a.eval k,val:=a.eval x}) (clock':=clock) ok hH hm h2 (l:=l) (by rw[hes];exact f4 _ hkv hvv) (ZHK h3b j λe=>rfl);refine Zox ?_ to ok';simp only[execOp,ho,hmv,Instr.mapUpdate,Sem.run_bind,run_underlying hu,Result.andThen_ok,Zh0 h2,g6,g5,Instr.keyThatStays,he,yaa,Option.getD_some,hbits,if_true,Sem.run_pure,Go.MapKept.run_setObj_map _ h2]
 ·have g5:=zW _ _ f1;obtain⟨to,ok'⟩:=ZxW (es':=es.push { key:=a.eval k,val:=a.eval x,born:=clock}) (clock':=clock+1) ok hH hm h2 (l:=l) (by rw[Array.toList_push];exact f2 _ hkv hvv) (ZGx h3b rfl);refine Zox ?_ to ok';simp only[execOp,ho,hmv,Instr.mapUpdate,Sem.run_bind,run_underlying hu,Result.andThen_ok,Zh0 h2,g6,g5,Sem.run_pure,Go.MapKept.run_setObj_map _ h2]
end
end Go.Ev
end
section
namespace Go.Ev
section
variable{P:yg}{o:Oper}{a:Act}{σ:Sg}{ts:yL Dv}{hs hs':yL Hint}{C:yL Prop}{d:Dv}{H':yL Ent}
theorem ZjQ{P:yg}{w:World}{t e:yc}{i:TypeInfo}{z:yh}{n n':Int}(hu:P.underlying t=some (.slice e))(hi:P.info? e=some i)(hz:i.zero=some z)(h0:0<=n)(h1:n<=n')(h2:n'.toNat*i.bytes<=Zw)(h3:n'.toNat<=maxLen):
 ∃cells:Array yh,(Instr.makeSlice t (.int .i64 n) (.int .i64 n')).run P w=.ok (.slice (some ⟨w.heap.size,0,none⟩) n.toNat n'.toNat) (w.alloc (.cells cells e))/\cells.size=n'.toNat*i.size/\
  (i.size=1->∀k,k < n'.toNat->cells[k]? =some (z.cells[k % z.cells.size]!)):=by
 have hw:∀m:Int,0<=m->m.toNat<=maxLen->IntKind.i64.wrap m=m:=λm a b=>by
  refine Zcv ?_;simp[maxLen] at b;simp[Q8,IntKind.min,IntKind.max,IntKind.signed,IntKind.bits];omega
 have hw1:=hw n h0 (by omega);have hw2:=hw n' (by omega) h3
 have hb:¬((281474976710656:Int) < (i.bytes:Int)*n'):=by
  have e:(i.bytes:Int)*n'=((n'.toNat*i.bytes:Nat):Int):=by
   rw[Int.natCast_mul,Int.toNat_of_nonneg (by omega),Int.mul_comm]
  rw[e];simp only[Zw] at h2;omega
 have hr:¬(n'.toNat*i.bytes > roomBytes):=by
  simp only[Zw] at h2;simp only[roomBytes];omega
 by_cases hn:n'.toNat*i.size=0
 ·refine⟨(Array.range (n'.toNat*i.size)).map λ_=>default, ?_,by simp,λe k hk=> ?_⟩
  ·simp[Instr.makeSlice,run_underlying hu,asInt,asIntOf,typeInfo,hi,hw1,hw2,askRoom,hr,sizeOf,hn,newRow,h0,show¬n' < 0 by omega,show¬n < 0 by omega,show¬n' < n by omega,hb]
  ·rw[e,Nat.mul_one] at hn;omega
 ·refine⟨(Array.range (n'.toNat*i.size)).map (z.cells[· % z.cells.size]!), ?_,by simp,λe k hk=> ?_⟩
  ·simp[Instr.makeSlice,run_underlying hu,asInt,asIntOf,typeInfo,hi,hw1,hw2,askRoom,hr,sizeOf,hn,newRow,h0,show¬n' < 0 by omega,show¬n < 0 by omega,show¬n' < n by omega,hb,zeroValue,hz]
  ·simp[e,hk]
theorem ZGz(ok:Ok σ){t e:yc}{l c:yo}{i:TypeInfo}{n n':Int}(yR:RepT σ ts a)(ho:o.op=.makeSlice t l c)(hu:P.underlying t=some (.slice e))(hl:ZS P ts 0 l=.p (.int .i64 n))(hcp:ZS P ts 0 c=.p (.int .i64 n'))
 (hi:P.info? e=some i) (hz:zOk i=true) (hs0:i.size≠0) (h0:n=0) (h1:0<=n') (h2:n'.toNat*i.bytes<=Zw) (h3:n'.toNat<=maxLen):
 WI P o a σ (.own σ.H.length (some true) i.size []) (σ.H++[.log i.size e []]):=by
 subst h0;obtain⟨z,hzz,hzs⟩:=Zfr hz;obtain⟨cells,zW,hcs,_⟩:=ZjQ (w:=σ.w) (t:=t) hu hi hzz (Int.le_refl 0) h1 h2 h3;have hlv:=Yd (hl ▸ Zs (P:=P) yR 0 l);have hcv:=Yd (hcp ▸ Zs (P:=P) yR 0 c);let σ':Sg:={ σ with m:=σ.m++[some σ.w.heap.size],H:=σ.H++[.log i.size e []],w:=σ.w.alloc (.cells cells e)};have zX:σ'.w.heap[σ.w.heap.size]? =some (.cells cells e (0,0)):=heap_alloc_new σ.w _
 have hmlast:σ'.m[σ.H.length]? =some (some σ.w.heap.size):=by
  show(σ.m++[some σ.w.heap.size])[σ.H.length]? =_;rw[yax (by rw[ok.len];exact yj _),ok.len];simp
 obtain⟨to,ok'⟩:=V7 (σ':=σ') ok rfl rfl rfl rfl (World.grownBy_alloc σ.w (.cells cells e) none) (.inr ⟨_,rfl,yj _,by simp[σ']⟩)
  (λleaf=>.inr ⟨σ.w.heap.size,cells,n'.toNat,rfl,zX,hcs,Nat.zero_le _,h3,λ_ hx=>(by cases hx),by simp[repCs]⟩)
 refine Yf (σ':=σ') (v:=.slice (some ⟨σ.w.heap.size,0,none⟩) 0 n'.toNat) ?_ to ok' ?_
 ·have hrun':=zW;simp only[Int.toNat_zero] at hrun';simp[execOp,ho,hlv,hcv,hrun',σ']
 ·rw[Zj rfl];simp only[yJ];refine⟨λ_ hx=>(by cases hx),some ⟨σ.w.heap.size,0,none⟩,n'.toNat,rfl,Nat.zero_le _,h3, ?_,(λh=>by cases h),λh=>absurd rfl h,e,[],by simp[σ'],yj _,λ_=>.inr ?_⟩
  ·simp[Zt5]
  ·exact⟨σ.w.heap.size,cells,hmlast,rfl,zX,hcs⟩
theorem Zmr{w:World}{S:Nat->Nat->Prop}{z:Pl}{v:yh}(h:repC w S z [v]):∀n,repCs w S (yy n z) (yy n v)
 |0=>by simp[repCs]
 |n+1=>by
  rw[List.replicate_succ,List.replicate_succ];simp only[repCs];exact⟨[v],yy n v,rfl,h,Zmr h n⟩
theorem ZDk(ok:Ok σ){t e:yc}{l c:yo}{i:TypeInfo}{z:Pl}{n n':Int}(yR:RepT σ ts a)(ho:o.op=.makeSlice t l c)(hu:P.underlying t=some (.slice e))(hl:ZS P ts 0 l=.p (.int .i64 n))(hcp:ZS P ts 0 c=.p (.int .i64 n'))
 (hi:P.info? e=some i) (hz:zOk i=true) (hs1:i.size=1) (hzp:Vo P e=.p z) (hz1:z.size=1) (hza:z.isAgg=false) (h0:n'=n) (h1:0<=n) (h2:n.toNat*i.bytes<=Zw) (h3:n.toNat<=maxLen):
 WI P o a σ (.view σ.H.length 0 [] 1 0 n.toNat) (σ.H++[.var (.p (.arr n.toNat 1 (yy n.toNat z))) true]):=by
 subst h0;obtain⟨zv,hzz,hzs⟩:=Zfr hz;obtain⟨cells,zW,hcs,hck⟩:=ZjQ (w:=σ.w) (t:=t) hu hi hzz h1 (Int.le_refl n') h2 h3;have hlv:=Yd (hl ▸ Zs (P:=P) yR 0 l);have hcv:=Yd (hcp ▸ Zs (P:=P) yR 0 c)
 have hr:yK σ (Vo P e) zv:=by
  unfold Vo;rw[hi];simp only[hzz];exact ZeH
 rw[hzp] at hr;have hr:=ZcL (d:=.p z) rfl hr
 obtain⟨c0,hc0⟩:∃c0,zv.cells.toList=[c0]:=by
  have h9:zv.cells.toList.length=1:=by rw[ybg,hzs,hs1]
  match hq:zv.cells.toList,h9 with
  |[c0],_=>exact⟨c0,rfl⟩
 rw[hc0] at hr;have hzc:zv.cells= #[c0]:=by rw[<-Array.toArray_toList (xs:=zv.cells),hc0]
 have hcells:cells.toList=yy n'.toNat c0:=by
  apply ybs;intro k;rw[ycn,List.getElem?_replicate];by_cases hk:k < n'.toNat
  ·rw[hck hs1 k hk,yW hk,hzc];simp[Nat.mod_one]
  ·rw[yX hk];refine Array.getElem?_eq_none ?_;rw[hcs,hs1];omega
 let σ':Sg:={ σ with m:=σ.m++[some σ.w.heap.size],H:=σ.H++[.var (.p (.arr n'.toNat 1 (yy n'.toNat z))) true],w:=σ.w.alloc (.cells cells e)};have zX:σ'.w.heap[σ.w.heap.size]? =some (.cells cells e (0,0)):=heap_alloc_new σ.w _
 have hmlast:σ'.m[σ.H.length]? =some (some σ.w.heap.size):=by
  show(σ.m++[some σ.w.heap.size])[σ.H.length]? =_;rw[yax (by rw[ok.len];exact yj _),ok.len];simp
 have hcl:cells.toList.length=n'.toNat:=by rw[hcells];simp
 obtain⟨to,ok'⟩:=V7 (σ':=σ') ok rfl rfl rfl rfl (World.grownBy_alloc σ.w (.cells cells e) none) (.inr ⟨_,rfl,yj _,by simp[σ']⟩)
  (λleaf=>⟨σ.w.heap.size,cells,e,rfl,zX,by
    have hsz:Dv.size (.p (.arr n'.toNat 1 (yy n'.toNat z)))=n'.toNat:=by show n'.toNat*1=_;omega
    rw[hsz,List.take_of_length_le (by omega)];refine YY leaf _ _ ?_;simp only[yJ,repC];refine⟨by simp,λy hy=>by rw[(List.mem_replicate.1 hy).2];exact hz1, ?_⟩;rw[hcells];simp only[yJ] at hr;exact Zmr hr _,by
    have hsz:Dv.size (.p (.arr n'.toNat 1 (yy n'.toNat z)))=n'.toNat:=by show n'.toNat*1=_;omega
    rw[hsz, <-ybg,hcl];exact yj _⟩)
 refine Yf (σ':=σ') (v:=.slice (some ⟨σ.w.heap.size,0,none⟩) n'.toNat n'.toNat) ?_ to ok' ?_
 ·simp[execOp,ho,hlv,hcv,zW,σ']
 ·rw[Zj rfl];simp only[yJ];exact⟨σ.w.heap.size,n'.toNat,_,hmlast,⟨.p (.arr n'.toNat 1 (yy n'.toNat z)),true,by simp[σ']⟩,rfl,yj _,h3,λ_=>by simp⟩
theorem ZER(ok:Ok σ)(yR:RepT σ ts a){t:yc}{x:yo}(ho:∀w,(execOp a.eval o).run P w=.ok (.value (a.eval x)) w)(h:ZhR (ZS P ts t x) σ.H hs=some (C,d,H',hs'))(hc:AllP C):WI P o a σ d H':=by
 have hxv:=Zs (P:=P) yR t x;unfold ZhR at h;split at h
 ·rename_i id off yS s lo n hx;rw[hx] at hxv;obtain⟨b,c,A,hm,hv,hve,hcap,hcm,hA⟩:=Znc hxv;split at h
  ·rename_i dd st hH;split at h
   ·rename_i C1 off' n' s' xs hs1 hg;split at h
    ·rename_i hs0;subst hs0;cases h;obtain⟨c1,c2,c3,_⟩:=Zp.1 hc;obtain⟨cs,t',p1,p2,p3,h2,h4,h5,h6,h7,h3,h8⟩:=ZqO ok hm hH hg c1 c2;simp only[yJ,repC] at h7;obtain⟨h9,h10,h11⟩:=h7;subst h9;let σ':Sg:={ σ with m:=σ.m.set id (some b),H:=σ.H.set id (.var dd false)};have hmset:σ'.m[id]? =some (some b):=getElem?_set_eq' hm;have hHset:σ'.H[id]? =some (.var dd false):=getElem?_set_eq' hH
     obtain⟨to,ok'⟩:=Ve (σ':=σ') (mi:=some b) (mi':=some b) ok hH hm rfl rfl rfl rfl rfl rfl rfl (yj _)
      (λ_ _ _=>rfl) (λ_ _ _ _ _ h=>h) (λo _ hu=>rfl) (.inl rfl) (λ_=>⟨rfl,dd,false,rfl⟩) (λ⟨d,st,h⟩=>by cases h)
      (λs e xs h=>by cases h) (λleaf=>⟨b,cs,t',rfl,h2,YY leaf dd _ h3,h4⟩)
     have hcells:VP σ'.w σ'.stab b off p2:=λj u hu=>by
      refine⟨h8 j u hu,.inr (ok.own id b hm),λj' e' g1 g2=> ?_⟩;have:j'=id:=ok'.inj j' id _ g1 hmset;subst this;rw[hHset] at g2;cases g2;rfl
     have h11':=repCs_mono to.leaf.cells _ _ h11
     have hsplit:xs=xs.take lo++((xs.drop lo).take n++xs.drop (lo+n)):=by
      have e1:xs.drop (lo+n)=(xs.drop lo).drop n:=by rw[List.drop_drop]
      rw[e1,ybx,ybx]
     have zY:((xs.drop lo).take n).length=n:=by rw[yah,yby];omega
     have hsub:allSz s' ((xs.drop lo).take n):=λz hz=>h10 z (List.mem_of_mem_drop (ycj hz));have hr2:=Yf (P:=P) (o:=o) (a:=a) (σ:=σ) (σ':=σ') (v:=a.eval x) (d:=.p (.sl (some true) s' ((xs.drop lo).take n))) (ho σ.w) to ok';refine hr2 ?_;rw[hve]
     have hmk:=Xr (σ:=σ') (nn:=some true) (A:=some A) (c:=c) hsub (by rw[zY];exact hcap) hcm (ZeF rfl) (λh=>by cases h) (λhne=>by
      have hn:0 < n:=by
       rcases ycd n with h0|h0
       ·subst h0;simp at hne
       ·exact h0
      rw[hsplit] at h11';obtain⟨q1,q23,e1,r1,r23⟩:=Wq h11';obtain⟨q2,q3,e2,r2,r3⟩:=Wq r23
      have l1:q1.length=lo*s':=by
       rw[repCs_size _ _ r1,sizes_all (λz hz=>h10 z (ycj hz)),yah,ybr (by omega)]
      refine⟨b,off+lo*s',q2,by rw[hA hn],r2,λj u hu=> ?_⟩
      have hj:p2[lo*s'+j]? =some u:=by
       rw[e1,yax (by omega),l1,Nat.add_sub_cancel_left,e2,yao (yq.1 hu).1];exact hu
      have:=hcells (lo*s'+j) u hj
      rwa [<-yci] at this)
     rw[zY] at hmk;exact hmk
    ·cases h
   ·cases h
  ·cases h
 ·rename_i id v s lo n hx;rw[hx] at hxv;split at h
  ·rename_i v' s' st e N s'' xs hH;split at h
   ·rename_i hk;simp only[yi,yP,yT] at hk;obtain⟨⟨rfl,rfl⟩,hv⟩:=hk;subst hv;cases h;obtain⟨A,c,hve,hcap,hcm,hA,hsy,ly,q,hr,lq,hq⟩:=Zy9 ok hxv hH rfl hc.1;have hidlt:id < σ.m.length:=by rw[ok.len];exact(yq.1 hH).1
    have hmi:σ.m[id]? =some σ.m[id]:=yab hidlt;let σ':Sg:={ σ with m:=σ.m.set id σ.m[id],H:=σ.H.set id (.row v' s'' false e (.p (.arr N s'' xs)))};have hmset:σ'.m[id]? =some σ.m[id]:=getElem?_set_eq' hmi;have hHset:σ'.H[id]? =some (.row v' s'' false e (.p (.arr N s'' xs))):=getElem?_set_eq' hH
    obtain⟨to,ok'⟩:=Ve (σ':=σ') (mi:=σ.m[id]) (mi':=σ.m[id]) ok hH hmi rfl rfl rfl rfl rfl rfl rfl (yj _)
     (λ_ _ _=>rfl) (λ_ _ _ _ _ h=>h) (λo _ hu=>⟨rfl,hu.2⟩) (.inl rfl) (λ⟨d,st,h⟩=>by cases h) (λ⟨d,st,h⟩=>by cases h)
     (λs e xs h=>by cases h) (λleaf=>by
       obtain⟨N',h1,h2⟩:=ok.ent id _ _ hH hmi;refine⟨N',h1, ?_⟩;rcases h2 with h2|⟨b,cur,cap,g1,g2,g3,g4,g5,g6⟩
       ·exact .inl h2
       ·exact .inr ⟨b,cur,cap,g1,g2,g3,g4,g5,YY leaf _ _ g6⟩)
     (λv s st e d h=>by cases h;exact⟨v',false,_,rfl,yj _,λ_=>⟨rfl,λb cur _ hb=>⟨cur,hb,rfl⟩⟩⟩)
    refine Yf (P:=P) (o:=o) (a:=a) (σ:=σ) (σ':=σ') (v:=a.eval x) (d:=.p (.sl none s'' ((xs.drop lo).take n))) (ho σ.w) to ok' ?_;rw[hve]
    have hmk:=Xr (σ:=σ') (nn:=none) (A:=A) (c:=c) hsy (by rw[ly];exact hcap) hcm (YX _) hA (λhne=>by
     have hn:0 < n:=by
      rcases ycd n with h0|h0
      ·subst h0;simp at hne
      ·exact h0
     obtain⟨b,cur,cap,rfl,hm,hb,hcs,hcell⟩:=hq hn;refine⟨b,_,q,rfl,repCs_mono to.leaf.cells _ _ hr,λj u hu=>⟨hcell j u hu,.inr (ok.own id b hm),λj' e' g1 g2=> ?_⟩⟩;have:j'=id:=ok'.inj j' id b g1 (by rw[hmset, <-hmi];exact hm);subst this;rw[hHset] at g2;cases g2;refine⟨rfl,N,yW rfl, ?_⟩;have h1:=(yq.1 hu).1;have h2:(lo+n)*s''<=N*s'':=ycc _ hc.1;rw[lq] at h1;rw[yaz] at h2;omega)
    rw[ly] at hmk;exact hmk
   ·cases h
  ·cases h
 ·cases h
end
end Go.Ev
end
section
namespace Go.Ev
theorem Zsf{σ:Sg}{x y:Dv}(hxy:∀a,yJ σ x a->yJ σ y a):∀(fs:yL Dv)(k:Nat)(us:yL yh),fs[k]? =some x->repDs σ fs us->repDs σ (fs.set k y) us
 |[],_,_,h,_=>by simp at h
 |z::fs,0,us,h,hr=>by
  simp only[yau,yp] at h;subst h;simp only[repDs,List.set_cons_zero] at hr ⊢;obtain⟨a,b,h1,h2,h3⟩:=hr
  exact⟨a,b,h1,hxy a h2,h3⟩
 |z::fs,k+1,us,h,hr=>by
  simp only[yaq] at h;simp only[repDs,List.set_cons_succ] at hr ⊢;obtain⟨a,b,h1,h2,h3⟩:=hr;exact⟨a,b,h1,h2,Zsf hxy fs k b h h3⟩
theorem Znj{fs:yL Dv}{k:Nat}{x y:Dv}(h:fs[k]? =some x)(hs:y.size=x.size):Dv.sizes (fs.set k y)=Dv.sizes fs:=by
 induction fs generalizing k with
 |nil=>simp at h
 |cons z fs ih=>
  cases k with
  |zero=>
   simp only[yau,yp] at h;subst h
   simp only[List.set_cons_zero,Dv.sizes,hs]
  |succ k=>
   simp only[yaq] at h;simp only[List.set_cons_succ,Dv.sizes,ih h]
theorem ZBc:∀(xs:yL Pl),Dv.sizes (xs.map .p)=Pl.sizes xs
 |[]=>rfl
 |x::xs=>by simp only[yaj,Dv.sizes,Pl.sizes,ZBc xs];rfl
theorem Ztj{d d':Dv}{s:Nat}{new:Dv}(h:Ws d [] s new=some d'):d=.p (.sl (some false) s [])/\d'=new:=by
 unfold Ws at h;split at h
 ·split at h
  ·rename_i e;cases h;subst e;exact⟨rfl,rfl⟩
  ·cases h
 ·contradiction
 ·contradiction
 ·cases h
theorem ZqR{d d':Dv}{i:Nat}{r:yL Nat}{s:Nat}{new:Dv}(h:Ws d (i::r) s new=some d'):
 (∃xs x y,d=.p (.agg xs)/\xs[i]? =some x/\Ws (.p x) r s new=some y/\d'=.agg ((xs.map Dv.p).set i y))\/∃xs x y,d=.agg xs/\xs[i]? =some x/\Ws x r s new=some y/\d'=.agg (xs.set i y):=by
 cases d with
 |p q=>
  cases q with
  |agg xs=>
   simp only[Ws] at h
   cases hx:xs[i]? with
   |none=>simp[hx] at h
   |some x=>
    simp only[hx] at h;obtain⟨y,hy,rfl⟩:=yn.1 h
    exact .inl ⟨xs,x,y,rfl,hx,hy,rfl⟩
  |_=>simp[Ws] at h
 |agg xs=>
  simp only[Ws] at h
  cases hx:xs[i]? with
  |none=>simp[hx] at h
  |some x=>
   simp only[hx] at h;obtain⟨y,hy,rfl⟩:=yn.1 h
   exact .inr ⟨xs,x,y,rfl,hx,hy,rfl⟩
 |_=>simp[Ws] at h
theorem Zg7:∀(yS:yL Nat)(d d':Dv)(s:Nat)(new:Dv),new.size=1->Ws d yS s new=some d'->d'.size=d.size
 |[],d,d',s,new,hn,h=>by
  obtain⟨rfl,rfl⟩:=Ztj h;rw[hn]
  rfl
 |i::r,d,d',s,new,hn,h=>by
  rcases ZqR h with⟨xs,x,y,rfl,hx,hy,rfl⟩|⟨xs,x,y,rfl,hx,hy,rfl⟩
  ·have:=Zg7 r (.p x) y s new hn hy;have hx':(xs.map Dv.p)[i]? =some (.p x):=by rw[yan,hx];rfl
   simp only[Dv.size];rw[Znj hx' this,ZBc];rfl
  ·simp only[Dv.size];exact Znj hx (Zg7 r x y s new hn hy)
theorem Zjn{σ:Sg}:∀(yS:yL Nat)(d d':Dv)(s:Nat)(new:Dv),(∀a,yJ σ (.p (.sl (some false) s [])) a->yJ σ new a)->Ws d yS s new=some d'->∀us,yJ σ d us->yJ σ d' us
 |[],d,d',s,new,hn,h,us,hr=>by
  obtain⟨rfl,rfl⟩:=Ztj h
  exact hn us hr
 |i::r,d,d',s,new,hn,h,us,hr=>by
  rcases ZqR h with⟨xs,x,y,rfl,hx,hy,rfl⟩|⟨xs,x,y,rfl,hx,hy,rfl⟩
  ·have hx':(xs.map Dv.p)[i]? =some (.p x):=by rw[yan,hx];rfl
   simp only[yJ,repC] at hr ⊢;exact Zsf (Zjn r (.p x) y s new hn hy) _ i us hx' (Zlk.2 hr)
  ·simp only[yJ] at hr ⊢;exact Zsf (Zjn r x y s new hn hy) _ i us hx hr
theorem ZDl{σ:Sg}(ok:Ok σ){j s:Nat}{e:yc}{d d':Dv}{st:Bool}{yS:yL Nat}(hj:σ.H[j]? =some (.var d st))(hg:Ws d yS s (.own σ.H.length none s [])=some d'):
 ∃σ2:Sg,σ2.H=(σ.H++[Ent.log s e []]).set j (.var d' st)/\σ2.w=σ.w/\To σ σ2/\Ok σ2:=by
 obtain⟨to1,ok1⟩:=V7 (σ':={ σ with m:=σ.m++[none],H:=σ.H++[.log s e []]}) ok rfl rfl rfl rfl (World.grownBy.refl σ.w none) (.inl rfl) (λ_=>.inl ⟨rfl,rfl⟩);have hjl:j < σ.H.length:=(yq.1 hj).1
 obtain⟨mi,hm⟩:∃mi,σ.m[j]? =some mi:=by
  have:j < σ.m.length:=by rw[ok.len];exact hjl
  exact⟨_,yab this⟩
 obtain⟨b,cs,t,rfl,q2,q3,q4⟩:=ok.ent j _ _ hj hm;let σ1:Sg:={ σ with m:=σ.m++[none],H:=σ.H++[.log s e []]};let σ2:Sg:={ σ1 with m:=σ1.m.set j (some b),H:=σ1.H.set j (.var d' st)}
 have hH1:σ1.H[j]? =some (.var d st):=by
  show(σ.H++[Ent.log s e []])[j]? =_;rw[yao hjl];exact hj
 have hm1:σ1.m[j]? =some (some b):=by
  show(σ.m++[none])[j]? =_;rw[yao (by rw[ok.len];exact hjl)];exact hm
 have hsz:=Zg7 yS d d' s _ rfl hg
 obtain⟨to2,ok2⟩:=Ve (σ':=σ2) (mi:=some b) (mi':=some b) ok1 hH1 hm1 rfl rfl rfl rfl rfl rfl rfl (yj _)
  (λ_ _ _=>rfl) (λ_ _ _ _ _ h=>h) (λo _ hu=>hu) (.inl rfl) (λ_=>⟨rfl,_,_,rfl⟩) (λ⟨_,_,hh⟩=>by cases hh) (λ_ _ _ hh=>by cases hh)
  (λleaf=>by
    refine⟨b,cs,t,rfl,q2, ?_,by rw[hsz];exact q4⟩;rw[hsz];refine Zjn yS d d' s _ (λa ha=> ?_) hg _ (YY (to1.leaf.trans leaf) _ _ q3);simp only[yJ,repC] at ha ⊢;obtain⟨_,A,c,rfl,w1,w2,w3,w4,w5⟩:=ha
    have hA:A=none:=by
     have:=w3 false rfl
     cases A with
     |none=>rfl
     |some _=>cases this
    subst hA;have hc:=w4 rfl;subst hc;refine⟨λ_ hx=>(by cases hx),none,0,rfl,yj _,by simp[maxLen],YX _,λ_=>rfl,λh=>absurd rfl h,e,[], ?_,yj _,λ_=>.inl ⟨?_,rfl,rfl⟩⟩
    ·show(σ1.H.set j _)[σ.H.length]? =_;rw[ybw,yX (by omega)];simp[σ1]
    ·show(σ1.m.set j _)[σ.H.length]? =_;rw[ybw,yX (by omega)];show(σ.m++[none])[σ.H.length]? =_;rw[yax (by rw[ok.len];exact yj _),ok.len];simp)
 exact⟨σ2,rfl,rfl,to1.trans to2,ok2⟩
theorem Zlr:∀(hs:yL Hint)(d:Dv)(H0 L:yL Ent){σ:Sg},Ok σ->σ.H=H0++.var d true::L->∃σ2:Sg,σ2.H=H0++.var (Y4 d (H0.length+1+L.length) hs).1 true::(L++(Y4 d (H0.length+1+L.length) hs).2.1)/\σ2.w=σ.w/\To σ σ2/\Ok σ2
 |[],d,H0,L,σ,ok,h=>⟨σ,by simp[Y4,h],rfl,To.refl σ,ok⟩
 |x::hs,d,H0,L,σ,ok,h=>by
  have base:Y4 d (H0.length+1+L.length) (x::hs)=(d,[],x::hs)->∃σ2:Sg,σ2.H=H0++.var (Y4 d (H0.length+1+L.length) (x::hs)).1 true::(L++(Y4 d (H0.length+1+L.length) (x::hs)).2.1)/\σ2.w=σ.w/\To σ σ2/\Ok σ2:=λe=>by
   rw[e];exact⟨σ,by simp[h],rfl,To.refl σ,ok⟩
  cases x with
  |ghost yS s e=>
   cases hg:Ws d yS s (.own (H0.length+1+L.length) none s []) with
   |none=>exact base (by simp[Y4,hg])
   |some d'=>
    have hl:σ.H.length=H0.length+1+L.length:=by rw[h];simp;omega
    obtain⟨σ1,e1,e2,e3,e4⟩:=ZDl (e:=e) ok (j:=H0.length) (s:=s) (d:=d) (d':=d') (st:=true) (yS:=yS) (by rw[h];simp) (by rw[hl];exact hg)
    have e1':σ1.H=H0++.var d' true::(L++[Ent.log s e []]):=by
     rw[e1,h];simp[List.set_append]
    obtain⟨σ2,f1,f2,f3,f4⟩:=Zlr hs d' H0 (L++[Ent.log s e []]) e4 e1';refine⟨σ2, ?_,by rw[f2,e2],e3.trans f3,f4⟩;rw[f1];simp only[Y4,hg,yl,yai,List.length_nil]
    simp[yci]
  |_=>exact base (by simp[Y4])
theorem ZxX{P:yg}{o:Oper}{a:Act}{σ:Sg}{d:Dv}{H1 H2:yL Ent}(h:WI P o a σ d H1)(k:∀σ1:Sg,σ1.H=H1->Ok σ1->∃σ2:Sg,σ2.H=H2/\σ2.w=σ1.w/\To σ1 σ2/\Ok σ2):WI P o a σ d H2:=by
 intro K Q hK;refine h K Q λv σ1 e1 to1 ok1 hd=> ?_;obtain⟨σ2,f1,f2,f3,f4⟩:=k σ1 e1 ok1;rw[<-f2];exact hK v σ2 f1 (to1.trans f3) f4 (Zct f3.leaf hd)
theorem Ztk{P:yg}{o:Oper}{a:Act}{σ:Sg}{d dd:Dv}{H:yL Ent}(h:WI P o a σ d (H++[.var dd true]))(hs:yL Hint):WI P o a σ d (H++.var (Y4 dd (H.length+1) hs).1 true::(Y4 dd (H.length+1) hs).2.1):=by
 refine ZxX h λσ1 e1 ok1=> ?_;obtain⟨σ2,f1,f2,f3,f4⟩:=Zlr hs dd H [] ok1 e1;exact⟨σ2,by simpa using f1,f2,f3,f4⟩
theorem Zza{P:yg}{o:Oper}{a:Act}{σ:Sg}{d dd:Dv}{H:yL Ent}{id:Nat}{x:Ent}(h:WI P o a σ d (H.set id (.var dd true)))(hid:H[id]? =some x)(hs:yL Hint):WI P o a σ d (H.set id (.var (Y4 dd H.length hs).1 true)++(Y4 dd H.length hs).2.1):=by
 have hlt:id < H.length:=(yq.1 hid).1;have e:∀v:Ent,H.set id v=H.take id++v::H.drop (id+1):=λv=>List.set_eq_take_append_cons_drop.trans (yW hlt);refine ZxX h λσ1 e1 ok1=> ?_;rw[e] at e1;obtain⟨σ2,f1,f2,f3,f4⟩:=Zlr hs dd (H.take id) (H.drop (id+1)) ok1 e1;have hl:(H.take id).length+1+(H.drop (id+1)).length=H.length:=by simp;omega
 rw[hl] at f1;refine⟨σ2, ?_,f2,f3,f4⟩;rw[f1,e];simp
end Go.Ev
end
section
namespace Go.Ev
section
variable{P:yg}{o:Oper}{a:Act}{σ:Sg}{ts:yL Dv}{hs hs':yL Hint}{C:yL Prop}{d:Dv}{H':yL Ent}
theorem ZBd(ok:Ok σ)(yR:RepT σ ts a){t:yc}{x y:yo}{id v v' s off:Nat}{yS:yL Nat}{e:yc}{dd sub new dd':Dv}{C1:yL Prop}{off':Nat}(ho:o.op=.store t x y)(hx:ZS P ts 0 x=.rref id v off yS)
 (hH:σ.H[id]? =some (.row v' s true e dd)) (hv:v'=v) (hg:Xb dd yS hs=some (C1,off',sub,hs')) (hc:AllP C1) (he:off'=off) (hn:ZhQ yS dd (ZS P ts t y)=some new) (hp:Zaq new dd yS hs=some dd')
 (hsol:new.solid=true) (hsz:new.size=sub.size) (ht:P.cellsOf t=new.size) (hi:(P.info? t).isSome=true) (hN':rowN dd' s=rowN dd s):WI P o a σ .junk (σ.H.set id (.row v s true e dd')):=by
 subst he;subst hv;have hxv:=Zs (P:=P) yR 0 x;have hyv:=Zvf hn (Zs (P:=P) yR t y);rw[hx] at hxv;obtain⟨b,hxv,hm⟩:=ZA4 hxv hH rfl;obtain⟨N,hN,hent⟩:=ok.ent id _ _ hH hm;rcases hent with⟨h1,_⟩|⟨b',cs,cap,h1,h2,hcs,hle,hcm,h3⟩
 ·cases h1
 cases h1;have hsize:=ZxP hN;rw[<-hsize] at h3;have h4:dd.size<=cs.size:=by rw[hsize,hcs];exact ycc _ hle
 obtain⟨p1,p2,p3,h5,h6,h7,h8⟩:=ZeK yS dd hs hs' C1 off' sub _ hg hc h3;have hcells:=ZcL hsol hyv;obtain⟨h9,h10⟩:=h8 new dd' _ hp hsz hcells;have hl1:(a.eval y).cells.toList.length=new.size:=Vu _ _ hcells;have hl2:p2.length=sub.size:=Vu _ _ h7;have hll:(a.eval y).cells.toList.length=p2.length:=by rw[hl1,hl2,hsz]
 obtain⟨k1,k2⟩:=ZA5 h5 hll h4;rw[h6] at k1 k2
 have hnl:off'+(a.eval y).cells.toList.length<=cs.size:=by
  have:=congrArg List.length h5;simp only[yah,ybg,yl] at this;omega
 have hone:∀u,u∈(a.eval y).cells.toList->u.oneCell'=true:=Zow new _ hsol hcells;have hst:=run_storeCells_at P b off' e (a.eval y).cells.toList 0 cs σ.w h2 (by simpa using hnl) hone;simp only[Nat.add_zero] at hst;let ncs:Array yh:=(cs.toList.take off'++(a.eval y).cells.toList++cs.toList.drop (off'+(a.eval y).cells.toList.length)).toArray;let σ':Sg:={ σ with m:=σ.m.set id (some b),H:=σ.H.set id (.row v' s true e dd'),w:=σ.w.setRow b ncs};have hncs:ncs.size=cs.size:=k2;have zX:σ'.w.heap[b]? =some (.cells ncs e (0,0)):=setRow_heap σ.w b cs _ e _ h2;have hoth:∀j,b≠j->σ'.w.heap[j]? =σ.w.heap[j]? :=λj hj=>setRow_other σ.w b j _ (Ne.symm hj)
 obtain⟨to,ok'⟩:=Ve (σ':=σ') (mi:=some b) (mi':=some b) ok hH hm rfl rfl rfl rfl rfl rfl rfl (by simp[σ'])
  (λj hj hne=>hoth j (λhh=>hne (by rw[hh]))) (λb' o v _ hu _=>by cases hu.1) (λo _ hu=>by cases hu.1) (.inl rfl) (λ⟨d,st,h⟩=>by cases h) (λ⟨d,st,h⟩=>by cases h)
  (λs e xs h=>by cases h) (λleaf=>⟨N,by rw[hN'];exact hN,.inr ⟨b,ncs,cap,rfl,zX,by rw[hncs];exact hcs,hle,hcm,by
    rw[<-hsize];show yJ σ' dd' (ncs.toList.take dd.size);rw[show ncs.toList.take dd.size=p1++((a.eval y).cells.toList++p3) from k1]
    exact YY leaf dd' _ h9⟩⟩)
  (λv s st e2 d h=>by cases h;exact⟨v',true,_,rfl,yj _,λ_=>⟨rfl,λb2 cur hb2 hcur=>by
    cases hb2;rw[h2] at hcur;cases hcur;exact⟨ncs,zX,hncs⟩⟩⟩)
 refine Zox (σ':=σ') ?_ to ok'
 cases hi':P.info? t with
 |none=>simp[hi'] at hi
 |some i=>
  have hs:(a.eval y).cells.size=i.size:=by
   rw[<-ybg,hl1, <-ht];simp[Program.cellsOf,hi']
  simp only[execOp,ho,hxv,Instr.storeAt,Instr.sureAddr,storeVar,sizeOf,typeInfo,Sem.run_bind,run_program,Result.andThen_ok,hi',Sem.run_pure,hs,ne_eq,not_true,if_false,hst];rfl
theorem Zzb(ok:Ok σ){s:Nat}{e:yc}{dd:Dv}{N n cap:Nat}{cells:Array yh}{w':World}{v:yh}(hg:σ.w.grownBy w' none)(zX:w'.heap[σ.w.heap.size]? =some (.cells cells e (0,0)))(hcs:cells.size=cap*s)(hlt:σ.w.heap.size < w'.heap.size)
 (hN:rowN dd s=some N) (hle:N<=cap) (hcm:cap<=maxLen) (hn:n<=N) (hr:yJ σ dd (cells.toList.take (N*s))) (hx:(execOp a.eval o).run P σ.w=.ok (.value (.slice (some ⟨σ.w.heap.size,0,none⟩) n cap)) w'):
 WI P o a σ (.rv σ.H.length 0 s 0 n) (σ.H++[.row 0 s true e dd]):=by
 let σ':Sg:={ σ with m:=σ.m++[some σ.w.heap.size],H:=σ.H++[.row 0 s true e dd],w:=w'}
 have hmlast:σ'.m[σ.H.length]? =some (some σ.w.heap.size):=by
  show(σ.m++[some σ.w.heap.size])[σ.H.length]? =_;rw[yax (by rw[ok.len];exact yj _),ok.len];simp
 obtain⟨to,ok'⟩:=V7 (σ':=σ') ok rfl rfl rfl rfl hg (.inr ⟨_,rfl,yj _,hlt⟩)
  (λleaf=>⟨N,hN,.inr ⟨σ.w.heap.size,cells,cap,rfl,zX,hcs,hle,hcm,YY leaf _ _ hr⟩⟩)
 refine Yf (σ':=σ') hx to ok' ?_;rw[Zj rfl];simp only[yJ];refine⟨_,_,rfl,by omega,hcm,λh=>(by cases h),λ_=>⟨_,_,rfl⟩,0,s,true,e,dd,by simp[σ'],yj _,λ_=>⟨rfl,.inr ⟨σ.w.heap.size,cells,hmlast,zX,by rw[hcs,ybe],λ_=>by simp⟩⟩⟩
theorem ZGA(ok:Ok σ){t e:yc}{l c:yo}{i:TypeInfo}{n n':Int}(yR:RepT σ ts a)(ho:o.op=.makeSlice t l c)(hu:P.underlying t=some (.slice e))(hl:ZS P ts 0 l=.p (.int .i64 n))(hcp:ZS P ts 0 c=.p (.int .i64 n'))
 (hi:P.info? e=some i) (hz:zOk i=true) (h0:n=0) (h1:0<=n') (h2:n'.toNat*i.bytes<=Zw) (h3:n'.toNat<=maxLen):
 WI P o a σ (.rv σ.H.length 0 i.size 0 0) (σ.H++[.row 0 i.size true e (.p (.arr 0 i.size []))]):=by
 subst h0;obtain⟨z,hzz,hzs⟩:=Zfr hz;obtain⟨cells,zW,hcs,_⟩:=ZjQ (w:=σ.w) (t:=t) hu hi hzz (Int.le_refl 0) h1 h2 h3;have hlv:=Yd (hl ▸ Zs (P:=P) yR 0 l);have hcv:=Yd (hcp ▸ Zs (P:=P) yR 0 c);refine Zzb (N:=0) (cap:=n'.toNat) (w':=σ.w.alloc (.cells cells e)) (v:=.bool true) ok (World.grownBy_alloc σ.w (.cells cells e) none) (heap_alloc_new σ.w _) hcs (by simp) (by simp[rowN]) (Nat.zero_le _) h3 (yj _) ?_ ?_
 ·simp[yJ,repC,repCs];intro x hx;cases hx
 ·have hrun':=zW;simp only[Int.toNat_zero] at hrun';simp[execOp,ho,hlv,hcv,hrun']
theorem ZGB(ok:Ok σ)(yR:RepT σ ts a){t e:yc}{i:TypeInfo}{len:Nat}{parts:Array (Nat×yo)}{xs:yL Pl}(ho:o.op=.buildSlice t len parts)(hu:P.underlying t=some (.slice e))
 (hi:P.info? e=some i) (hz:zOk i=true) (hne:i.size≠0) (hsz:len*i.size<=16777216) (hl:V6 P ts e (P.cellsOf e) len parts.toList=some xs):
 WI P o a σ (.rv σ.H.length 0 i.size 0 len) (σ.H++[.row 0 i.size true e (.p (.arr len i.size (xs.map Pl.soft)))]):=by
 obtain⟨cells,zW,hr,zY,zV,hcs⟩:=ZqN (P:=P) yR hu hi hz hsz hl
 have hle:len<=maxLen:=by
  have:=Nat.le_mul_of_pos_right len (Nat.pos_of_ne_zero hne);simp only[maxLen];omega
 refine Zzb (N:=len) (cap:=len) (w':=σ.w.alloc (.cells cells e)) (v:=.bool true) ok (World.grownBy_alloc σ.w (.cells cells e) none) (heap_alloc_new σ.w _) hcs (by simp) (by simp[rowN]) (yj _) hle (yj _) ?_ (Zuv ho zW);rw[<-hcs, <-ybg,List.take_length];simp only[yJ,repC];refine⟨by rw[yac];exact zY,λy hy=> ?_, ?_⟩
 ·obtain⟨x,hx,rfl⟩:=List.mem_map.1 hy;rw[Zr9];exact zV x hx
 ·rw[<-Pl.softs_map];exact(softs_wk xs).rep _ _ _ hr
theorem ZDm(ok:Ok σ)(yR:RepT σ ts a){t e:yc}{i:TypeInfo}{len id v:Nat}{st:Bool}{dd:Dv}{parts:Array (Nat×yo)}{xs:yL Pl}(ho:o.op=.buildSlice t len parts)(hu:P.underlying t=some (.slice e))
 (hi:P.info? e=some i) (hz:zOk i=true) (hne:i.size≠0) (hsz:len*i.size<=16777216) (hl:V6 P ts e (P.cellsOf e) len parts.toList=some xs) (hH:σ.H[id]? =some (.row v i.size st e dd)):
 WI P o a σ (.rv id (v+1) i.size 0 len) (σ.H.set id (.row (v+1) i.size true e (.p (.arr len i.size (xs.map Pl.soft))))):=by
 obtain⟨cells,zW,hr,zY,zV,hcs⟩:=ZqN (P:=P) yR hu hi hz hsz hl
 have hle:len<=maxLen:=by
  have:=Nat.le_mul_of_pos_right len (Nat.pos_of_ne_zero hne);simp only[maxLen];omega
 have hlt:id < σ.m.length:=by rw[ok.len];exact(yq.1 hH).1
 have hm:σ.m[id]? =some σ.m[id]:=yab hlt;let σ':Sg:={ σ with m:=σ.m.set id (some σ.w.heap.size),H:=σ.H.set id (.row (v+1) i.size true e (.p (.arr len i.size (xs.map Pl.soft)))),w:=σ.w.alloc (.cells cells e)};have zX:σ'.w.heap[σ.w.heap.size]? =some (.cells cells e (0,0)):=heap_alloc_new σ.w _;have hg:=World.grownBy_alloc σ.w (.cells cells e) none;have hself:σ'.m[id]? =some (some σ.w.heap.size):=getElem?_set_eq' hm;have hHself:σ'.H[id]? =some (.row (v+1) i.size true e (.p (.arr len i.size (xs.map Pl.soft)))):=getElem?_set_eq' hH
 obtain⟨to,ok'⟩:=Ve (σ':=σ') (mi:=σ.m[id]) (mi':=some σ.w.heap.size) ok hH hm rfl rfl rfl rfl rfl rfl rfl hg.size
  (λj hj _=>hg.block j hj (by simp)) (λb o v hb _ hc=>by
    have hj:=ok.lt id b (by rw[hm,hb]);rw[World.cell?_of_block (w:=σ.w) (hg.block b hj (by simp))];exact hc) (λo he hu=>by
    have hj:=ok.lt id _ (by rw[hm, <-he]);omega) (.inr ⟨_,rfl,yj _,by simp[σ']⟩) (λ⟨d,st,h⟩=>by cases h) (λ⟨d,st,h⟩=>by cases h) (λs e xs h=>by cases h)
  (λleaf=>⟨len,by simp[rowN],.inr ⟨_,cells,len,rfl,zX,hcs,yj _,hle,by
    rw[<-hcs, <-ybg,List.take_length];simp only[yJ,repC];refine⟨by rw[yac];exact zY,λy hy=> ?_, ?_⟩
    ·obtain⟨x,hx,rfl⟩:=List.mem_map.1 hy;rw[Zr9];exact zV x hx
    ·rw[<-Pl.softs_map];exact(softs_wk xs).rep _ _ _ (repCs_mono leaf.cells _ _ hr)⟩⟩)
  (λv' s' st' e' d' h=>by cases h;exact⟨v+1,true,_,rfl,Nat.le_succ _,λhv=>absurd hv (by omega)⟩)
 refine Yf (σ':=σ') (Zuv ho zW) to ok' ?_;rw[Zj rfl];simp only[yJ];refine⟨some ⟨σ.w.heap.size,0,none⟩,len,rfl,yj _,hle,λh=>(by cases h),λ_=>⟨_,_,rfl⟩,v+1,i.size,true,e,_,hHself,yj _,λ_=>⟨rfl,.inr ⟨_,cells,hself,zX,by rw[ybe];exact hcs,λ_=>by rw[Nat.zero_mul]⟩⟩⟩
theorem Zxc(ok:Ok σ)(yR:RepT σ ts a){c:Call}{x y:yo}{t u e:yc}{i:TypeInfo}{ys:yL Pl}(ho:o.op=.call c)(zU:c.callee=.builtin .append)(zL:c.args.toList=[x,y])
 (htys:c.argTypes.toList=[t,u]) (ht:P.underlying t=some (.slice e)) {s:Nat} (hx:ZS P ts t x=.p (.sl (some false) s [])) (hi:P.info? e=some i) (hz:zOk i=true) (hne:i.size≠0)
 (hsrc:ZxO P σ (P.cellsOf e) u (a.eval y) ys) (hb:ys.length*i.bytes<=Zw) (hm:ys.length<=maxLen):
 WI P o a σ (.rv σ.H.length 0 i.size 0 ys.length) (σ.H++[.row 0 i.size true e (.p (.arr ys.length i.size ys))]):=by
 have hxv:=Zs (P:=P) yR t x;rw[hx] at hxv;have hxn:=Zvc hxv;have hce:P.cellsOf e=i.size:=by simp[Program.cellsOf,hi]
 rcases Zck (P:=P) (ty:=o.type) ok yR ht hi hz hne hsrc hb hm with⟨rfl,zW⟩|⟨zZ,yQ,hys,zV,hr,hge,hcm,hcs,zW⟩
 ·let σ':Sg:={ σ with m:=σ.m++[none],H:=σ.H++[.row 0 i.size true e (.p (.arr 0 i.size []))]}
  have hmlast:σ'.m[σ.H.length]? =some none:=by
   show(σ.m++[none])[σ.H.length]? =_;rw[yax (by rw[ok.len];exact yj _),ok.len];simp
  obtain⟨to,ok'⟩:=V7 (σ':=σ') ok rfl rfl rfl rfl (World.grownBy.refl σ.w none) (.inl rfl) (λleaf=>⟨0,by simp[rowN],.inl ⟨rfl,rfl⟩⟩);refine Yf (σ':=σ') (Y5 ho zU zL htys (by rw[hxn];exact zW)) to ok' ?_;rw[Zj rfl];simp only[yJ];refine⟨none,0,rfl,yj _,by simp[maxLen],λ_=>rfl,λh=>(by simp at h),0,i.size,true,e,.p (.arr 0 i.size []),by simp[σ'],yj _,λ_=>⟨rfl,.inl ⟨hmlast,rfl,rfl⟩⟩⟩
 ·have zY:zZ.length=ys.length*i.size:=by rw[repCs_size _ _ hr,sizes_all zV]
  refine Zzb (N:=ys.length) (cap:=grownCap σ.w ys.length 0 e) (w':=σ.w.drew.alloc (.cells (zZ.toArray++yQ) e)) (v:=.bool true) ok (WA σ.w (.cells (zZ.toArray++yQ) e) none) (heap_alloc_new σ.w.drew _) hcs (by simp) (by simp[rowN]) hge hcm (yj _) ?_ (Y5 ho zU zL htys (by rw[hxn];exact zW));rw[<-zY];simp only[Array.toList_append,List.take_left',yJ,repC];exact⟨zT,zV,hr⟩
theorem Znk{w:World}{t u ty e:yc}{i:TypeInfo}{S:yh}{zZ:yL yh}{A:yO Addr}{n c:Nat}(ht:P.underlying t=some (.slice e))(hi:P.info? e=some i)(hS:Src P w u i.size S 0 zZ)(hn:n<=c)(hA:A=none->c=0):
 (Builtin.append_ #[t,u] ty #[.slice A n c,S]).run P w=.ok (.slice A n c) w:=by
 obtain⟨hty,hl,hf,hfd,hc⟩:=hS;have hnews:zZ=[]:=ybl (by rw[hc];simp);subst hnews
 rcases hty with⟨e'',hu⟩|hu <;>
  (cases A with
   |none=>
    have:=hA rfl;have hn0:n=0:=by omega
    subst this;subst hn0
    simp[Builtin.append_,run_underlying ht,run_underlying hu,sizeOf,typeInfo,hi,hl,hf]
   |some A=>
    simp[Builtin.append_,run_underlying ht,run_underlying hu,sizeOf,typeInfo,hi,hl,hf,hn,storeCells])
theorem Zxd(ok:Ok σ)(yR:RepT σ ts a){c:Call}{x y:yo}{t u e:yc}{i:TypeInfo}{id v s lo n:Nat}(ho:o.op=.call c)(zU:c.callee=.builtin .append)(zL:c.args.toList=[x,y])
 (htys:c.argTypes.toList=[t,u]) (ht:P.underlying t=some (.slice e)) (hx:ZS P ts t x=.rv id v s lo n) (hi:P.info? e=some i)
 (hsrc:ZxO P σ (P.cellsOf e) u (a.eval y) []):WI P o a σ (.rv id v s lo n) σ.H:=by
 have hxv:=Zs (P:=P) yR t x;rw[hx] at hxv;have hxv0:=hxv;obtain⟨A,cc,hv,h2,h3,h4,_⟩:=Zln hxv;have hce:P.cellsOf e=i.size:=by simp[Program.cellsOf,hi]
 rw[hce] at hsrc;obtain⟨zZ,hS,_,_⟩:=hsrc;refine Zl (v:=a.eval x) ok (Y5 ho zU zL htys ?_) hxv0;rw[hv];exact Znk (P:=P) (ty:=o.type) ht hi hS h2 h4
theorem ZES{v s N o:Nat}{st:Bool}{e:yc}{xs:yL Pl}(hu:(Ent.row v s st e (.p (.arr N s xs))).unlocked o):st=false/\o < N*s:=by
 obtain⟨h1,N',h2,h3⟩:=hu;rw[show rowN (.p (.arr N s xs)) s=some N from yW rfl] at h2
 cases h2;exact⟨h1,h3⟩
theorem Zvp{v v' s n N m o:Nat}{st:Bool}{e:yc}{xs ys:yL Pl}(hst:st=true\/n=N)(hu:(Ent.row v s st e (.p (.arr N s xs))).unlocked o):(Ent.row v' s st e (.p (.arr (n+m) s ys))).unlocked o:=by
 obtain⟨h1,h2⟩:=ZES hu;refine⟨h1,n+m,yW rfl, ?_⟩;rcases hst with h|h
 ·rw[h] at h1;cases h1
 ·subst h;rw[yaz];omega
theorem Zzc(ok:Ok σ)(yR:RepT σ ts a){c:Call}{x y:yo}{t u e:yc}{i:TypeInfo}{xs ys:yL Pl}{id v n N:Nat}{st:Bool}(hst:st=true\/n=N)(ho:o.op=.call c)(zU:c.callee=.builtin .append)
 (zL:c.args.toList=[x,y]) (htys:c.argTypes.toList=[t,u]) (ht:P.underlying t=some (.slice e)) (hx:ZS P ts t x=.rv id v i.size 0 n) (hi:P.info? e=some i) (hz:zOk i=true) (hne:i.size≠0)
 (hsrc:ZxO P σ i.size u (a.eval y) ys) (hH:σ.H[id]? =some (.row v i.size st e (.p (.arr N i.size xs)))) (hnN:n<=N) (hb:(n+ys.length)*i.bytes<=Zw) (hm:n+ys.length<=maxLen):
 WI P o a σ (.rv id (v+1) i.size 0 (n+ys.length)) (σ.H.set id (.row (v+1) i.size st e (.p (.arr (n+ys.length) i.size (xs.take n++ys))))):=by
 have hxv:=Zs (P:=P) yR t x;rw[hx] at hxv;obtain⟨A0,c0,hv0,_,_,_,hpall,hplen,q,hq,hql,hqc⟩:=Zy9 ok hxv hH rfl (by omega:0+n<=N);simp only[List.drop_zero] at hpall hplen hq;obtain⟨A,cp,hv,h2,h3,h4,h5,v2,s2,st2,e2,d2,h6,h7,h8⟩:=Zln hxv;rw[hv] at hv0;injection hv0 with e1 e2 e3;subst e1;subst e3;rw[hH] at h6;cases h6;obtain⟨_,h9⟩:=h8 rfl;have hsrc2:=hsrc;obtain⟨zZ,hS,hr,zV⟩:=hsrc2;obtain⟨z,hzz,hzs⟩:=Zfr hz;have hidlt:id < σ.m.length:=by rw[ok.len];exact(yq.1 hH).1
 have hmi:σ.m[id]? =some σ.m[id]:=yab hidlt;have hnl:zZ.length=ys.length*i.size:=hS.cells;have hone:∀v,v∈zZ->v.oneCell'=true:=repCs_one _ _ hr;have zY:(xs.take n++ys).length=n+ys.length:=by rw[yl,hplen]
 have hall':allSz i.size (xs.take n++ys):=by
  by_cases hy:ys=[]
  ·subst hy;simpa using hpall
  ·exact ZqJ hpall (zV hy)
 have hrowN:rowN (.p (.arr (n+ys.length) i.size (xs.take n++ys))) i.size=some (n+ys.length):=by simp[rowN]
 have grow:cp < n+ys.length->WI P o a σ (.rv id (v+1) i.size 0 (n+ys.length)) (σ.H.set id (.row (v+1) i.size st e (.p (.arr (n+ys.length) i.size (xs.take n++ys))))):=by
  intro hgr
  have hold:(Builtin.firstCells i.size n (.slice A n cp)).run P σ.w.drew=.ok q.toArray σ.w.drew:=by
   rcases ycd n with h0|h0
   ·subst h0;have:q=[]:=ybl (by rw[hql];simp);subst this;cases A <;> simp[Builtin.firstCells,loadCells,loadCellsFrom]
   ·obtain⟨b,cur,cap,rfl,_,_,_,hcell⟩:=hqc h0;refine run_firstCells_some _ _ _ ⟨b,_,none⟩ _ cp q hql (λj v hv=> ?_);rw[Addr.add_mk];exact hcell j v hv
  have zW:=Znd (P:=P) (ty:=o.type) ht hi hzz hS hold hgr hm hb;have hge:=grownCap_ge σ.w (n+ys.length) cp e;have hcm:=grownCap_le_maxLen σ.w (n+ys.length) cp e hm;let k:Nat:=grownCap σ.w (n+ys.length) cp e;let yQ:Array yh:=Builtin.zeroCells z.cells (k - (n+ys.length));let ncur:Array yh:=q.toArray++zZ.toArray++yQ;let σ':Sg:={ σ with m:=σ.m.set id (some σ.w.heap.size),H:=σ.H.set id (.row (v+1) i.size st e (.p (.arr (n+ys.length) i.size (xs.take n++ys)))),w:=σ.w.drew.alloc (.cells ncur e)}
  have hncs:ncur.size=k*i.size:=by
   simp only[ncur,yQ,Array.size_append,List.size_toArray,size_zeroCells,hzs,hql,hnl, <-yaz];congr 1;omega
  have htk:ncur.toList.take ((n+ys.length)*i.size)=q++zZ:=by
   have e1:(q++zZ).length=(n+ys.length)*i.size:=by rw[yl,hql,hnl,yaz]
   rw[<-e1];have:ncur.toList=(q++zZ)++yQ.toList:=by simp[ncur]
   rw[this];exact List.take_left
  have zX:σ'.w.heap[σ.w.heap.size]? =some (.cells ncur e (0,0)):=heap_alloc_new σ.w.drew _;have hg:=WA σ.w (.cells ncur e) none;have hblk':∀b,b < σ.w.heap.size->σ'.w.heap[b]? =σ.w.heap[b]? :=λb hb=>hg.block b hb (by simp);have hmset:σ'.m[id]? =some (some σ.w.heap.size):=getElem?_set_eq' hmi;have hHset:σ'.H[id]? =some (.row (v+1) i.size st e (.p (.arr (n+ys.length) i.size (xs.take n++ys)))):=getElem?_set_eq' hH
  obtain⟨to,ok'⟩:=Ve (σ':=σ') (mi:=σ.m[id]) (mi':=some σ.w.heap.size) ok hH hmi rfl rfl rfl rfl rfl rfl rfl hg.size
   (λb hb _=>hblk' b hb) (λb' o v hb' _ hcell=>by
     rw[World.cell?_of_block (w:=σ.w) (hblk' b' (Qr hcell))];exact hcell)
   (λo h _=>by
     have:=ok.lt id σ.w.heap.size (by rw[hmi, <-h]);omega) (.inr ⟨_,rfl,yj _,by simp[σ']⟩) (λ⟨d,st,h⟩=>by cases h) (λ⟨d,st,h⟩=>by cases h)
   (λs' e' xs' h=>by cases h)
   (λleaf=>⟨n+ys.length,hrowN,.inr ⟨σ.w.heap.size,ncur,k,rfl,zX,hncs,hge,hcm,by
     rw[htk];simp only[yJ,repC];exact⟨zY,hall',WH (repCs_mono leaf.cells _ _ hq) (repCs_mono leaf.cells _ _ hr)⟩⟩⟩)
   (λv2 s st e d h=>by cases h;exact⟨v+1,_,_,rfl,by omega,λhh=>absurd hh (by omega)⟩)
  refine Yf (σ':=σ') (Y5 ho zU zL htys (by rw[hv];exact zW)) to ok' ?_;rw[Zj rfl];simp only[yJ];exact⟨_,_,rfl,hge,hcm,λh=>(by cases h),λ_=>⟨_,_,rfl⟩,v+1,i.size,st,e,_,hHset,yj _,λ_=>⟨rfl,.inr ⟨σ.w.heap.size,ncur,hmset,zX,by rw[hncs,ybe],λ_=>by simp⟩⟩⟩
 rcases h9 with⟨k1,rfl,k2⟩|⟨b,cur,k1,k3,k4,k5⟩
 ·have hc0:cp=0:=by omega
  subst hc0;have hn0:n=0:=by omega
  subst hn0;rcases ycd ys.length with h0|h0
  ·have hys:ys=[]:=ybl h0;subst hys;have zW:=Znk (P:=P) (ty:=o.type) (A:=none) (n:=0) (c:=0) ht hi hS (yj _) (λ_=>rfl);let σ':Sg:={ σ with m:=σ.m.set id σ.m[id],H:=σ.H.set id (.row (v+1) i.size st e (.p (.arr (0+([]:yL Pl).length) i.size (xs.take 0++[]))))};have hmset:σ'.m[id]? =some σ.m[id]:=getElem?_set_eq' hmi;have hHset:σ'.H[id]? =some (.row (v+1) i.size st e (.p (.arr (0+([]:yL Pl).length) i.size (xs.take 0++[])))):=getElem?_set_eq' hH;have hmn:σ.m[id]=none:=by rw[hmi] at k1;exact ybk k1
   obtain⟨to,ok'⟩:=Ve (σ':=σ') (mi:=σ.m[id]) (mi':=σ.m[id]) ok hH hmi rfl rfl rfl rfl rfl rfl rfl (yj _)
    (λ_ _ _=>rfl) (λ_ _ _ _ _ h=>h) (λo _ hu=>Zvp hst hu) (.inl rfl) (λ⟨d,st,h⟩=>by cases h) (λ⟨d,st,h⟩=>by cases h)
    (λs e xs h=>by cases h) (λleaf=>⟨0,by simp[rowN],.inl ⟨hmn,rfl⟩⟩)
    (λv2 s st e d h=>by cases h;exact⟨v+1,_,_,rfl,by omega,λhh=>absurd hh (by omega)⟩)
   refine Yf (σ':=σ') (Y5 ho zU zL htys (by rw[hv];exact zW)) to ok' ?_;rw[Zj rfl];simp only[yJ];exact⟨none,0,rfl,yj _,by simp[maxLen],λ_=>rfl,λh=>(by simp at h),v+1,i.size,st,e,_,hHset,yj _,λ_=>⟨rfl,.inl ⟨by rw[hmset,hmn],rfl,rfl⟩⟩⟩
  ·exact grow (by omega)
 ·by_cases hroom:n+ys.length<=cp
  ·have hmb:σ.m[id]=some b:=by rw[hmi] at k1;exact ybk k1
   rw[ybe] at k4;rcases ycd cp with hcp0|hcp0
   ·have hn0:n=0:=by omega
    have hy0:ys.length=0:=by omega
    have hys:ys=[]:=ybl hy0;subst hys;have zW:=Znk (P:=P) (ty:=o.type) ht hi hS h2 h4;let σ':Sg:={ σ with m:=σ.m.set id (some b),H:=σ.H.set id (.row (v+1) i.size st e (.p (.arr (n+([]:yL Pl).length) i.size (xs.take n++[]))))};have hmset:σ'.m[id]? =some (some b):=getElem?_set_eq' hmi;have hHset:σ'.H[id]? =some (.row (v+1) i.size st e (.p (.arr (n+([]:yL Pl).length) i.size (xs.take n++[])))):=getElem?_set_eq' hH
    obtain⟨to,ok'⟩:=Ve (σ':=σ') (mi:=some b) (mi':=some b) ok hH k1 rfl rfl rfl rfl rfl rfl rfl (yj _)
     (λ_ _ _=>rfl) (λ_ _ _ _ _ h=>h) (λo _ hu=>Zvp hst hu) (.inl rfl) (λ⟨d,st,h⟩=>by cases h) (λ⟨d,st,h⟩=>by cases h)
     (λs e xs h=>by cases h) (λleaf=>⟨n,by simp[rowN],.inr ⟨b,cur,cp,rfl,k3,k4,h2,h3,by
       subst hn0;simp[yJ,repC,repCs];intro x hx;cases hx⟩⟩)
     (λv2 s st e d h=>by cases h;exact⟨v+1,_,_,rfl,by omega,λhh=>absurd hh (by omega)⟩)
    refine Yf (σ':=σ') (Y5 ho zU zL htys (by rw[hv];exact zW)) to ok' ?_;rw[Zj rfl];simp only[yJ];exact⟨A,cp,rfl,h2,h3,h4,h5,v+1,i.size,st,e,_,hHset,yj _,λ_=>⟨rfl,.inr ⟨b,cur,hmset,k3,by rw[ybe];exact k4,λh=>absurd h (by omega)⟩⟩⟩
   have hA:=k5 hcp0;rw[Nat.zero_mul] at hA;subst hA;have zW:=Ztf (P:=P) (ty:=o.type) ht hi hS hone k3 hroom k4
   have hus:(cur.toList.take (n*i.size)).length=n*i.size:=by
    rw[yah,ybg,k4];exact ybr (ycc _ h2)
   have hqe:cur.toList.take (n*i.size)=q:=by
    rcases ycd n with h0|h0
    ·subst h0;have:q=[]:=ybl (by rw[hql];simp);rw[this];simp
    ·obtain⟨b2,cur2,cap2,hbb,hm2,hb2,hcs2,hcell⟩:=hqc h0
     have hbe:b=b2:=by
      injection hbb with hb';injection hb'
     subst hbe;apply ybs;intro j;rw[ycl];by_cases hj:j < n*i.size
     ·rw[yW hj];have hjq:j < q.length:=by rw[hql];exact hj
      have:=hcell j q[j] (yab hjq);rw[Nat.zero_mul,ybe,cell_of_row σ.w b j cur e (0,0) k3, <-ycn] at this;rw[this,yab hjq]
     ·rw[yX hj,yap (by rw[hql];omega)]
   let ncur:Array yh:=(cur.toList.take (n*i.size)++zZ++cur.toList.drop (n*i.size+zZ.length)).toArray;let σ':Sg:={ σ with m:=σ.m.set id (some b),H:=σ.H.set id (.row (v+1) i.size st e (.p (.arr (n+ys.length) i.size (xs.take n++ys)))),w:=σ.w.setRow b ncur};have hfit:n*i.size+zZ.length<=cur.size:=by rw[hnl,k4, <-yaz];exact ycc _ hroom
   have hncs:ncur.size=cp*i.size:=by
    simp only[ncur,List.size_toArray,yl,yby,ybg,hus];omega
   have zX:σ'.w.heap[b]? =some (.cells ncur e (0,0)):=setRow_heap σ.w b cur _ e _ k3;have hoth:∀j,b≠j->σ'.w.heap[j]? =σ.w.heap[j]? :=λj hj=>setRow_other σ.w b j _ (Ne.symm hj);have hmset:σ'.m[id]? =some (some b):=getElem?_set_eq' hmi;have hHset:σ'.H[id]? =some (.row (v+1) i.size st e (.p (.arr (n+ys.length) i.size (xs.take n++ys)))):=getElem?_set_eq' hH
   have htk:ncur.toList.take ((n+ys.length)*i.size)=q++zZ:=by
    have e1:(cur.toList.take (n*i.size)++zZ).length=(n+ys.length)*i.size:=by rw[yl,hus,hnl,yaz]
    rw[<-e1, <-hqe];exact List.take_left
   obtain⟨to,ok'⟩:=Ve (σ':=σ') (mi:=some b) (mi':=some b) ok hH k1 rfl rfl rfl rfl rfl rfl rfl (by simp[σ'])
    (λj hj hne=>hoth j (λhh=>hne (by rw[hh]))) (λb' o v hb' hu hcell=>by
      cases hb'
      have ho':o < n*i.size:=by
       rcases hst with h|h
       ·rw[h] at hu;cases hu.1
       ·rw[h];exact(ZES hu).2
      rw[cell_of_row σ'.w b o ncur e (0,0) zX];rw[cell_of_row σ.w b o cur e (0,0) k3, <-ycn] at hcell;rw[show ncur[o]? =(cur.toList.take (n*i.size)++zZ++cur.toList.drop (n*i.size+zZ.length))[o]? from by simp[ncur],yad,yao (by rw[hus];exact ho'),ycl,yW ho']
      exact hcell)
    (λo _ hu=>Zvp hst hu) (.inl rfl) (λ⟨d,st,h⟩=>by cases h) (λ⟨d,st,h⟩=>by cases h)
    (λs' e' xs' h=>by cases h)
    (λleaf=>⟨n+ys.length,hrowN,.inr ⟨b,ncur,cp,rfl,zX,hncs,hroom,h3,by
      rw[htk];simp only[yJ,repC];exact⟨zY,hall',WH (repCs_mono leaf.cells _ _ hq) (repCs_mono leaf.cells _ _ hr)⟩⟩⟩)
    (λv2 s st e d h=>by cases h;exact⟨v+1,_,_,rfl,by omega,λhh=>absurd hh (by omega)⟩)
   refine Yf (σ':=σ') (Y5 ho zU zL htys (by rw[hv];exact zW)) to ok' ?_;rw[Zj rfl];simp only[yJ];exact⟨_,_,rfl,hroom,h3,λh=>(by cases h),λ_=>⟨_,_,rfl⟩,v+1,i.size,st,e,_,hHset,yj _,λ_=>⟨rfl,.inr ⟨b,ncur,hmset,zX,by rw[hncs,ybe],λ_=>by simp⟩⟩⟩
  ·exact grow (by omega)
theorem Zvq(ok:Ok σ)(yR:RepT σ ts a){t:yc}{x:yo}{lo hi:yO yo}(ho:o.op=.slice t x lo hi none)(h:evR P o ts σ.H hs=some (C,d,hs'))(hc:AllP C):WI P o a σ d σ.H:=by
 simp only[evR,ho] at h;have hx:=Zs (P:=P) yR t x;split at h
 ·rename_i e id v s l0 n l r hs1 hu hdx hl hr;rw[hdx] at hx;split at h
  ·rename_i v' s' st e' dd hH;split at h
   ·rename_i N hN;split at h
    ·rename_i hk;simp only[yi,yP,yT] at hk;simp only[yE] at hk;obtain⟨⟨⟨⟨k1,k2⟩,k3⟩,k4⟩,k5⟩:=hk;subst k3;subst k4;cases h;obtain⟨c1,c2,c3,_⟩:=hc;obtain⟨A,c,hx,h2,h3,h4,h5,h6⟩:=Zln hx
     have hcap:N<=l0+c/\(0 < c->∃b o',A=some ⟨b,o',none⟩):=by
      obtain⟨v2,s2,st2,e2,d2,g1,g2,g3⟩:=h6;rw[hH] at g1;cases g1;obtain⟨_,g4⟩:=g3 rfl;have hidlt:id < σ.m.length:=by rw[ok.len];exact(yq.1 hH).1
      have hmi:σ.m[id]? =some σ.m[id]:=yab hidlt;obtain⟨N2,q1,q2⟩:=ok.ent id _ _ hH hmi;rw[hN] at q1;cases q1;rcases g4 with⟨g5,rfl,g6⟩|⟨b,cur,g5,g6,g7,g8⟩
      ·rw[hmi] at g5;have g5:=ybk g5;rcases q2 with⟨_,q2⟩|⟨b,cur,cap,q2,_⟩
       ·exact⟨by omega,λh=>absurd h (by omega)⟩
       ·rw[q2] at g5;cases g5
      ·rw[hmi] at g5;have g5:=ybk g5;rcases q2 with⟨q2,_⟩|⟨b2,cur2,cap,q2,q3,q4,q5,q6,_⟩
       ·rw[q2] at g5;cases g5
       ·rw[q2] at g5;cases g5;rw[g6] at q3;cases q3;refine⟨?_,λh=>⟨b,_,g8 h⟩⟩;have:cap*s'=(l0+c)*s':=by rw[<-q4,g7]
        have:=Nat.eq_of_mul_eq_mul_right (Nat.pos_of_ne_zero k5) this;omega
     have hbd:∃p q,(Instr.sliceBounds true n c (lo.map a.eval) (hi.map a.eval) none).run P σ.w=.ok (p,q,c) σ.w/\p=(l.getD 0).toNat/\q=r.toNat/\p<=q/\q<=c:=by
      rcases Xc yR hr with⟨_,q⟩|⟨k2,i2,e2,q2⟩
      ·cases q
      cases q2;have b2:0<=r/\r<=(c:Int):=⟨by omega,by omega⟩;rcases Xc yR hl with⟨e1,q⟩|⟨k1,i1,e1,q1⟩
      ·subst q;refine⟨0,r.toNat, ?_,rfl,rfl,Nat.zero_le _,by omega⟩;rw[e1,e2];simp[Instr.sliceBounds,Instr.sliceBound,asIntOf,b2]
      ·subst q1;simp only[Option.getD_some] at c1 c2;have b1:0<=i1/\i1<=(r.toNat:Int):=⟨c1,by omega⟩;refine⟨i1.toNat,r.toNat, ?_,rfl,rfl,by omega,by omega⟩;rw[e1,e2];simp[Instr.sliceBounds,Instr.sliceBound,asIntOf,b1,b2];omega
     obtain⟨p,q,hb,rfl,rfl,hpq,hqc⟩:=hbd;refine Zl (v:=.slice (if c=(l.getD 0).toNat then A else A.map (·.add ((l.getD 0).toNat*s'))) (r.toNat - (l.getD 0).toNat) (c - (l.getD 0).toNat)) ok ?_ ?_
     ·have zW:(Instr.sliceAt t (a.eval x) (lo.map a.eval) (hi.map a.eval) none).run P σ.w=.ok (.slice (if c=(l.getD 0).toNat then A else A.map (·.add ((l.getD 0).toNat*s'))) (r.toNat - (l.getD 0).toNat) (c - (l.getD 0).toNat)) σ.w:=by
       rw[hx];simp[Instr.sliceAt,Instr.slice,run_underlying hu,hb,Yq k2,k1]
      simp[execOp,ho,zW]
     ·exact ZHE h2 h3 h4 hcap.2 h6 hpq hqc
    ·cases h
   ·cases h
  ·cases h
 ·rename_i n e id off yS l r hs1 hu hdx hl hr;split at h
  ·rename_i dd hH;split at h
   ·rename_i C1 off' n' s xs hs2 hg;split at h
    ·rename_i hk;simp only[yi,yP] at hk;obtain⟨⟨⟨rfl,k2⟩,k3⟩,k4⟩:=hk;cases h;obtain⟨c1,c2⟩:=Zp.1 hc;obtain⟨c1,c3⟩:=Zp.1 c1;have:=ZLT ok yR ho hu hdx hl hr hH hg c1 c3.1 k2 k3 k4 c2
     have e1:σ.H.set id (.var dd false)=σ.H:=by
      obtain⟨h1,h2⟩:=yq.1 hH;rw[<-h2,List.set_getElem_self]
     rw[e1] at this;exact this
    ·cases h
   ·cases h
  ·cases h
 ·cases h
theorem ZGC(ok:Ok σ)(yR:RepT σ ts a)(h:evE P o ts σ.H hs=some (C,d,H',hs'))(hc:AllP C):WI P o a σ d H':=by
 unfold evE at h;split at h
 ·rename_i x ho;have hv:=Zs (P:=P) yR o.type x;split at h
  ·rename_i t' hs1;split at h
   ·split at h
    ·rename_i e s hu hx;rw[hx] at hv;split at h
     ·rename_i i hi;split at h
      ·cases h;obtain⟨to,ok'⟩:=V7 (σ':={ σ with m:=σ.m++[none],H:=σ.H++[.log i.size e []]}) ok rfl rfl rfl rfl (World.grownBy.refl σ.w none) (.inl rfl) (λ_=>.inl ⟨rfl,rfl⟩);refine Yf (σ':={ σ with m:=σ.m++[none],H:=σ.H++[.log i.size e []]}) (v:=.slice none 0 0) (by simp[execOp,ho,Zvc hv]) to ok' ?_;rw[Zj rfl];simp only[yJ];refine⟨λ_ hx=>(by cases hx),none,0,rfl,yj _,by simp[maxLen],YX _,λ_=>rfl,λh=>absurd rfl h,e,[],by simp,yj _,λ_=>.inl ⟨?_,rfl,rfl⟩⟩;rw[yax (by rw[ok.len];exact yj _),ok.len];simp
      ·cases h
     ·cases h
    ·cases h
   ·cases h
  ·rename_i t' hs1;split at h
   ·split at h
    ·rename_i e s hu hx;rw[hx] at hv;split at h
     ·rename_i i hi;split at h
      ·cases h;let σ':Sg:={ σ with m:=σ.m++[none],H:=σ.H++[.row 0 i.size true e (.p (.arr 0 i.size []))]}
       have hmlast:σ'.m[σ.H.length]? =some none:=by
        show(σ.m++[none])[σ.H.length]? =_;rw[yax (by rw[ok.len];exact yj _),ok.len];simp
       obtain⟨to,ok'⟩:=V7 (σ':=σ') ok rfl rfl rfl rfl (World.grownBy.refl σ.w none) (.inl rfl) (λ_=>⟨0,by simp[rowN],.inl ⟨rfl,rfl⟩⟩);refine Yf (σ':=σ') (v:=.slice none 0 0) (by simp[σ',execOp,ho,Zvc hv]) to ok' ?_;rw[Zj rfl];simp only[yJ];exact⟨none,0,rfl,yj _,by simp[maxLen],λ_=>rfl,λh=>absurd h (Nat.lt_irrefl _),0,i.size,true,e,.p (.arr 0 i.size []),by simp[σ'],yj _,λ_=>⟨rfl,.inl ⟨hmlast,rfl,rfl⟩⟩⟩
      ·cases h
     ·cases h
    ·cases h
   ·cases h
  ·rename_i t' hs1;split at h
   ·exact ZER ok yR (by simp[execOp,ho]) h hc
   ·cases h
  ·cases h
 ·rename_i x ho;split at h
  ·rename_i t' hs1;split at h
   ·exact ZER ok yR (by simp[execOp,ho]) h hc
   ·cases h
  ·cases h
 ·rename_i t l c ho;split at h
  ·rename_i e n n' hu hl hcp;split at h
   ·rename_i i hs1 hi;split at h
    ·rename_i hk;simp only[yi,yE] at hk;cases h;exact ZGz ok yR ho hu hl hcp hi hk.1 hk.2 hc.1 hc.2.1 hc.2.2.1 hc.2.2.2.1
    ·cases h
   ·rename_i i hs1 hi;split at h
    ·rename_i hk;simp only[yi,yE] at hk;cases h;exact ZGA ok yR ho hu hl hcp hi hk.1 hc.1 hc.2.1 hc.2.2.1 hc.2.2.2.1
    ·cases h
   ·rename_i i hs1 hi;split at h
    ·rename_i z hz;split at h
     ·rename_i hk;simp only[yi,yP,Bool.not_eq_true'] at hk;cases h;exact ZDk ok yR ho hu hl hcp hi hk.1.1.1 hk.1.1.2 hz hk.1.2 hk.2 hc.1 hc.2.1 hc.2.2.1 hc.2.2.2.1
     ·cases h
    ·cases h
   ·cases h
  ·cases h
 ·rename_i t ho;cases h;exact ZGy ok ho
 ·rename_i t m k x ho;split at h
  ·rename_i kt et id hu hx;split at h
   ·rename_i kk v t' kvs l hs1 hk hv hH;split at h
    ·rename_i hkt;cases h;exact ZBb ok yR ho hu hx hk hv hH hkt hc.1 hc.2.1 hc.2.2.1
    ·cases h
   ·cases h
  ·cases h
 ·rename_i t ho;split at h
  ·rename_i i hi;split at h
   ·split at h
    ·rename_i hk;simp only[yi] at hk;cases h;exact Ztk (ZKr ok ho hi (by obtain⟨z,hz,_⟩:=Zfr hk.1.1;rw[hz];rfl) hk.1.2 hk.2) _
    ·cases h
   ·cases h
  ·cases h
 ·rename_i t x ho;have hv:=Zs (P:=P) yR t x;split at h
  ·split at h
   ·rename_i hk;cases h;refine Ztk (ZN0 ok ho hk ?_) _;unfold ZDf;split
    ·rename_i y hy;exact ZGj hy hv
    ·exact hv
   ·cases h
  ·cases h
 ·rename_i t x y ho;split at h
  ·rename_i id off yS hx;split at h
   ·rename_i dd hH;split at h
    ·rename_i C1 off' sub hs1 hg;split at h
     ·rename_i new hn;split at h
      ·rename_i d' hp;split at h
       ·rename_i hk;simp only[yi,yT] at hk;obtain⟨⟨⟨⟨k1,k2⟩,k3⟩,k4⟩,k5⟩:=hk;split at h
        ·cases h;obtain⟨c1,c2⟩:=Zp.1 hc;exact Zza (ZKt ok yR ho hx hH hg c1 c2.1 hn hp k1 k2 k3 k4) hH _
        ·cases h
       ·cases h
      ·cases h
     ·cases h
    ·cases h
   ·cases h
  ·rename_i id v off yS hx;split at h
   ·rename_i v' s e dd hH;split at h
    ·rename_i C1 off' sub hs1 hg;split at h
     ·rename_i new hn;split at h
      ·rename_i d' hp;split at h
       ·rename_i hk;simp only[yi,yT] at hk;obtain⟨⟨⟨⟨⟨⟨k1,k2⟩,k3⟩,k4⟩,k5⟩,k6⟩,k7⟩:=hk;cases h;obtain⟨c1,c2⟩:=Zp.1 hc;exact ZBd ok yR ho hx hH k6 hg c1 c2.1 hn hp k1 k2 k3 k4 k7
       ·cases h
      ·cases h
     ·cases h
    ·cases h
   ·cases h
  ·cases h
 ·rename_i t len parts ho;split at h
  ·rename_i id hs1;split at h
   ·rename_i e v s st e' dd hu hH;split at h
    ·rename_i i xs hi hl;split at h
     ·rename_i hk;simp only[yi,yE,yP,yT] at hk;obtain⟨⟨hk,rfl⟩,rfl⟩:=hk;cases h;exact ZDm ok yR ho hu hi hk.1.1 hk.1.2 hk.2 hl hH
     ·cases h
    ·cases h
   ·cases h
  ·rename_i hs1;split at h
   ·rename_i e hu;split at h
    ·rename_i i xs hi hl;split at h
     ·rename_i hk;simp only[yi,yE,yP] at hk;cases h;exact ZGB ok yR ho hu hi hk.1.1 hk.1.2 hk.2 hl
     ·cases h
    ·cases h
   ·cases h
  ·rename_i hs1;split at h
   ·rename_i e hu;split at h
    ·rename_i i xs hi hl;split at h
     ·rename_i hk;simp only[yi,yE,yP] at hk;cases h;exact Zy3 (ZGo ok yR ho hu hi hk.1.1 hk.1.2 hk.2 hl) (Wk.own_nn (by rw[<-Pl.softs_map];exact softs_wk _)) (WkH.append (WkH.refl _) (.cons (.log (by rw[<-Pl.softs_map];exact softs_wk _)) .nil))
     ·cases h
    ·cases h
   ·cases h
  ·cases h
 ·rename_i t x lo hi ho;split at h
  ·rename_i n e id off yS l r hu hx hl hr;split at h
   ·rename_i hs1;split at h
    ·rename_i dd st hH;split at h
     ·rename_i C1 off' n' s xs hs2 hg;split at h
      ·rename_i hk;simp only[yi,yP] at hk;obtain⟨⟨⟨rfl,k2⟩,k3⟩,k4⟩:=hk;cases h;obtain⟨c1,c2⟩:=Zp.1 hc;obtain⟨c1,c3⟩:=Zp.1 c1;exact ZLT ok yR ho hu hx hl hr hH hg c1 c3.1 k2 k3 k4 c2
      ·cases h
     ·cases h
    ·cases h
   ·cases h
  ·rename_i e id v s lo' n l r hu hx hl hr;split at h
   ·rename_i hs1;split at h
    ·rename_i v' s' e' N s2 xs hH;split at h
     ·rename_i hk;simp only[yi,yT,yE,yP] at hk;obtain⟨⟨⟨⟨⟨⟨⟨k1,k2⟩,k3⟩,k4⟩,k5⟩,k6⟩,k7⟩,k8⟩:=hk;simp only[yp,yz] at h;obtain⟨rfl,rfl,rfl,rfl⟩:=h;subst k3;subst k4;subst k5;subst k7
      have hR:evR P o ts σ.H (.raw::hs1)=some ([0<=l.getD 0,l.getD 0<=r,0+r.toNat<=N],.rv id v' s2 (0+(l.getD 0).toNat) (r.toNat - (l.getD 0).toNat),hs1):=by
       unfold evR;rw[ho];dsimp only;rw[hu,hx,hl,hr];dsimp only;rw[hH];simp[rowN,k1,k2,k6]
      have:=Zvq ok yR ho hR ⟨by rw[k8];omega,by rw[k8];exact hc.1,by rw[ybe];exact hc.2.1,ytt⟩;rw[k8] at this;exact Zy3 this (Wk.of_eq (by simp)) (WkH.set_at hH (.shr hc.2.1))
     ·cases h
    ·cases h
   ·cases h
  ·cases h
 ·rename_i c ho;split at h
  ·rename_i zU;split at h
   ·rename_i x y t u zL htys;split at h
    ·rename_i e id nn s xs hu hx;split at h
     ·rename_i i C1 ys hs1 s' e' zs hi hsrc hH;split at h
      ·rename_i hk;simp only[yi,yE,yP] at hk;obtain⟨⟨⟨⟨k1,k2⟩,rfl⟩,rfl⟩,k5⟩:=hk;cases h;obtain⟨c1,rfl,c2,c3,_⟩:=Zp.1 hc;exact Zy6 ok yR ho zU zL htys hu hx hi k1 k2 k5 (Zqd ok yR hsrc c1) hH c2 c3
      ·cases h
     ·cases h
    ·rename_i e s hu hx;split at h
     ·rename_i hs1 i ys hi hsrc;split at h
      ·rename_i hk;simp only[yi,yE] at hk;cases h;exact Zy5 ok yR ho zU zL htys hu hx hi hk.1 hk.2 hsrc hc.1 hc.2.1
      ·cases h
     ·rename_i hs1 i ys hi hsrc;split at h
      ·rename_i hk;simp only[yi,yE] at hk;cases h;exact Zxc ok yR ho zU zL htys hu hx hi hk.1 hk.2 (Zjk (P:=P) yR hsrc) hc.1 hc.2.1
      ·cases h
     ·cases h
    ·rename_i e id v s lo n hu hx;split at h
     ·rename_i hs0;split at h
      ·rename_i i C1 ys hs1 hi hsrc;split at h
       ·rename_i hk;cases h;obtain⟨c1,rfl,_⟩:=Zp.1 hc;exact Zxd ok yR ho zU zL htys hu hx hi (Zqd ok yR hsrc c1)
       ·cases h
      ·cases h
     ·rename_i hs0;split at h
      ·rename_i i C1 ys hs1 v' s' st' e' N s'' xs hi hsrc hH;split at h
       ·rename_i hk;simp only[yi,yE,yP,yT] at hk;obtain⟨⟨⟨⟨⟨⟨⟨k1,rfl⟩,rfl⟩,rfl⟩,rfl⟩,k5⟩,rfl⟩,rfl⟩:=hk;cases h;obtain⟨c1,cc⟩:=Zp.1 hc;have c2:=cc.1;have c3:=cc.2.1;have c4:=cc.2.2.1;have c5:=cc.2.2.2.1;exact Zzc ok yR c5 ho zU zL htys hu hx hi k1 k5 (Zqd ok yR hsrc c1) hH c2 c3 c4
       ·cases h
      ·cases h
     ·cases h
    ·cases h
   ·cases h
  ·rename_i f zU;split at h
   ·rename_i g cap r Hc ids hs1 hf;split at h
    ·rename_i hk;simp only[yi,yT,yP] at hk;split at h
     ·rename_i args' Hin r' Hb zL hin hr hb;cases h;exact Zvh ok yR ho zU hf hk.1.1.1 hk.1.1.2 hk.1.2 hk.2 zL hin hr hb hc.1
     ·cases h
    ·cases h
   ·cases h
  ·cases h
 ·cases h
theorem Zvr(ok:Ok σ)(yR:RepT σ ts a)(h:Zkx P o ts σ.H hs=some (C,d,H',hs'))(hc:AllP C):WI P o a σ d H':=by
 unfold Zkx at h;split at h
 ·rename_i C1 d1 hs1 h1;cases h;exact ZGv ok yR h1 hc
 ·split at h
  ·rename_i C1 d1 hs1 h1;cases h;have h2:=h1;unfold evR at h2;split at h2
   ·rename_i t x ho;exact ZMi ok yR ho h1 hc
   ·rename_i t x lo hi ho;exact Zvq ok yR ho h1 hc
   ·rename_i t x ix comma ho;exact ZHL ok yR ho h1 hc
   ·rename_i c ho;split at h2
    ·rename_i zU;exact ZHM ok yR ho zU h1 hc
    ·cases h2
   ·cases h2
  ·exact ZGC ok yR h hc
theorem Znl{σ':Sg}{v:yh}(yR:RepT σ' ts a)(hd:yK σ' d v):RepT σ' (ZmN ts o.dst d) (a.put o.dst v):=by
 unfold ZmN Act.put
 cases o.dst with
 |none=>exact yR
 |some t=>
  refine⟨by simpa using yR.size,λi e hi=> ?_,yR.defers⟩;rw[ybw] at hi;split at hi
  ·rename_i h;subst h;split at hi
   ·rename_i hlt;cases hi;have:t < a.tmps.size:=by rw[yR.size];exact hlt
    simpa[Array.getD,this] using hd
   ·cases hi
  ·rename_i h;have:=yR.at_ i e hi;simpa[Array.getD_eq_getD_getElem?,Array.getElem?_setIfInBounds,h] using this
theorem ZBe{v:yh}{σ':Sg}{dst:yO Tmp}(hc:AllP (Zw7 dst d hs).1)(hd:yK σ' d v):yK σ' (Zw7 dst d hs).2.1 v:=by
 exact hd
theorem Ztl{σ':Sg}:yK σ' (.tup []) undef:=by
 rw[Zj rfl];simp only[yJ];exact⟨#[],rfl,by simp[repVs]⟩
theorem Zsg{ops:Array Oper}(ok:Ok σ)(yR:RepT σ ts a)(h:evG P ops o ts σ.H hs=some (C,d,H',hs'))(hc:AllP C)(K:Act->World->Prop)(Q:Exit->Act->World->Prop)
 (hK:∀v σ',σ'.H=H'->To σ σ'->Ok σ'->RepT σ' (ZmN ts o.dst d) (a.put o.dst v)->K (a.put o.dst v) σ'.w):
 if Region.wanted o (yielded ops a.tmps) then o.wp P a σ.w K Q else K (a.put o.dst undef) σ.w:=by
 unfold evG at h;split at h
 ·rename_i hg;simp only[yn,yz] at h;obtain⟨⟨C1,d1,H1,hs1⟩,h1,rfl,rfl,rfl,rfl⟩:=h;obtain⟨c1,c2⟩:=Zp.1 hc;have hw:Region.wanted o (yielded ops a.tmps)=true:=by simp[Region.wanted,hg]
  rw[yW hw];exact Zvr ok yR h1 c1 K Q λv σ' e1 to ok' hd=>hK v σ' e1 to ok' (Znl (yR.to to.leaf) (ZBe c2 hd))
 ·rename_i j want hg;split at h
  ·rename_i t β hs1 ht
   have hy:yielded ops a.tmps j=some t:=by
    unfold yielded;simp only[yn] at ht;obtain⟨tt,h1,h2⟩:=ht;rw[h1];simp only[Option.bind_some]
    have hlt:tt < ts.length:=by
     rcases Nat.lt_or_ge tt ts.length with h3|h3
     ·exact h3
     ·simp[List.getD,yap h3] at h2
    have h3:=yR.at_ tt (.p (.bool t)) (by
     have:=yab hlt;simp only[List.getD,this,Option.getD_some] at h2;rw[this,h2])
    have h4:=Xm h3;have hlt':tt < a.tmps.size:=by rw[yR.size];exact hlt
    rw[yco hlt'];simp only[Array.getD,hlt',dif_pos] at h4;have h5:a.tmps[tt]=.bool t:=by simpa using h4
    rw[h5]
   split at h
   ·rename_i hb;simp only[yn,yz] at h;obtain⟨⟨C1,d1,H1,hs2⟩,h1,rfl,rfl,rfl,rfl⟩:=h;obtain⟨c0,hc'⟩:=hc;obtain⟨c1,c2⟩:=Zp.1 hc';have hw:Region.wanted o (yielded ops a.tmps)=true:=by simp[Region.wanted,hg,hy,c0,hb]
    rw[yW hw];exact Zvr ok yR h1 c1 K Q λv σ' e1 to ok' hd=>hK v σ' e1 to ok' (Znl (yR.to to.leaf) (ZBe c2 hd))
   ·rename_i hb;cases h;have c0:t=β:=hc.1
    have hw:Region.wanted o (yielded ops a.tmps)=false:=by
     simp only[Region.wanted,hg,hy,c0];cases β <;> cases want <;> simp at hb ⊢
    rw[hw];exact hK undef σ rfl (To.refl σ) ok (Znl yR Ztl)
  ·rename_i hs1 ht;cases h
   have hy:yielded ops a.tmps j=none:=by
    unfold yielded;simp only[yn] at ht;obtain⟨tt,h1,h2⟩:=ht;rw[h1];simp only[Option.bind_some]
    have hlt:tt < ts.length:=by
     rcases Nat.lt_or_ge tt ts.length with h3|h3
     ·exact h3
     ·simp[List.getD,yap h3] at h2
    have h3:=yR.at_ tt (.tup []) (by
     have:=yab hlt;simp only[List.getD,this,Option.getD_some] at h2;rw[this,h2])
    have h4:=h3.2 rfl;simp only[yJ] at h4;obtain⟨cs,h5,h6⟩:=h4;have hlt':tt < a.tmps.size:=by rw[yR.size];exact hlt
    rw[yco hlt'];simp only[Array.getD,hlt',dif_pos] at h5;have h7:a.tmps[tt]=.tuple cs:=by simpa using h5
    rw[h7]
   have hw:Region.wanted o (yielded ops a.tmps)=false:=by
    simp only[Region.wanted,hg,hy];cases want <;> rfl
   rw[hw];exact hK undef σ rfl (To.refl σ) ok (Znl yR Ztl)
  ·cases h
theorem Ztm{ops:Array Oper}(Q:Exit->Act->World->Prop){ts':yL Dv}:∀(l:yL Oper)(k:Nat)(ts:yL Dv)(σ:Sg)(a:Act)(hs hs':yL Hint)(C:yL Prop)(H':yL Ent),
 (∀j,l[j]? =ops[k+j]?)->Ok σ->RepT σ ts a->ZuU P ops l ts σ.H hs=some (C,ts',H',hs')->AllP C->
 (∀a' σ',σ'.H=H'->To σ σ'->Ok σ'->RepT σ' ts' a'->Q .normal a' σ'.w)->wpOps P ops Q (List.range' k l.length) a σ.w
 |[],k,ts,σ,a,hs,hs',C,H',_,ok,yR,h,hc,hQ=>by
  simp only[ZuU,yp,yz] at h;obtain⟨rfl,rfl,rfl,rfl⟩:=h
  exact hQ a σ rfl (To.refl σ) ok yR
 |o::l,k,ts,σ,a,hs,hs',C,H',hl,ok,yR,h,hc,hQ=>by
  simp only[ZuU] at h;split at h
  ·rename_i C1 d1 H1 hs1 h1;split at h
   ·rename_i C2 ts2 H2 hs2 h2;cases h;obtain⟨c1,c2⟩:=Zp.1 hc;have h0:ops[k]? =some o:=by simpa using(hl 0).symm
    simp only[yai,List.range'_succ,wpOps,h0]
    have key:=Zsg (P:=P) (ops:=ops) ok yR h1 c1 (wpOps P ops Q (List.range' (k+1) l.length)) Q (λv σ1 e1 to1 ok1 hrep1=>by
     subst e1
     exact Ztm Q l (k+1) _ σ1 _ hs1 _ C2 _ (λj=>by have:=hl (j+1);simpa[yci,Nat.add_comm 1 j] using this) ok1 hrep1 h2 c2
      (λa' σ' e2 to2 ok2 hrep2=>hQ a' σ' e2 (to1.trans to2) ok2 hrep2))
    by_cases hw:Region.wanted o (yielded ops a.tmps)=true
    ·rw[yW hw] at key ⊢;exact .inl key
    ·rw[yX hw] at key ⊢;exact key
   ·cases h
  ·cases h
end
end Go.Ev
end
section
namespace Go.Ev
section
variable{P:yg}{o:Oper}{ts:yL Dv}{H H' H2:yL Ent}{hs hs':yL Hint}{C:yL Prop}{d:Dv}
theorem ZHN{id:Nat}(h:ZyZ P o ts=some id)(e:rdE (H[id]?)=rdE (H2[id]?)):evR P o ts H2 hs=evR P o ts H hs:=by
 unfold ZyZ at h;unfold evR
 cases ho:o.op with
 |load t a=>
  simp only[ho] at h ⊢
  cases ha:ZS P ts 0 a with
  |ref i off yS=>
   simp only[ha,yp] at h;subst h;simp only
   cases h1:H[i]? with
   |none=>
    rw[h1] at e
    cases h2:H2[i]? with
    |none=>rfl
    |some x=>rw[h2] at e;cases x <;> simp[rdE] at e
   |some y=>
    rw[h1] at e
    cases h2:H2[i]? with
    |none=>rw[h2] at e;cases y <;> simp[rdE] at e
    |some x=>
     rw[h2] at e
     cases x <;> cases y <;> simp_all[rdE]
  |rref i v off yS=>
   simp only[ha,yp] at h;subst h;simp only
   cases h1:H[i]? with
   |none=>
    rw[h1] at e
    cases h2:H2[i]? with
    |none=>rfl
    |some x=>rw[h2] at e;cases x <;> simp[rdE] at e
   |some y=>
    rw[h1] at e
    cases h2:H2[i]? with
    |none=>rw[h2] at e;cases y <;> simp[rdE] at e
    |some x=>
     rw[h2] at e
     cases x <;> cases y <;> simp_all[rdE]
  |_=>simp[ha] at h
 |lookup t x ix ok=>
  simp only[ho] at h ⊢
  cases ha:ZS P ts t x with
  |mp i=>
   simp only[ha,yp] at h;subst h
   have hk:H2[i]? =H[i]? \/((∃d1 s1,H[i]? =some (.var d1 s1))/\∃d2 s2,H2[i]? =some (.var d2 s2))\/((∃v1 s1 t1 e1 d1,H[i]? =some (.row v1 s1 t1 e1 d1))/\∃v1 s1 t1 e1 d1,H2[i]? =some (.row v1 s1 t1 e1 d1)):=by
    cases h1:H[i]? with
    |none=>
     rw[h1] at e
     cases h2:H2[i]? with
     |none=>exact .inl rfl
     |some x=>rw[h2] at e;cases x <;> simp[rdE] at e
    |some y=>
     rw[h1] at e
     cases h2:H2[i]? with
     |none=>rw[h2] at e;cases y <;> simp[rdE] at e
     |some x=>
      rw[h2] at e;cases x <;> cases y <;> simp_all[rdE]
   cases P.underlying t with
   |none=>rfl
   |some u=>
    cases u with
    |map kt et=>
     dsimp only;rcases hk with hk|⟨⟨d1,s1,k1⟩,d2,s2,k2⟩|⟨⟨_,_,_,_,_,k1⟩,_,_,_,_,_,k2⟩
     ·rw[hk]
     ·rw[k1,k2];cases ZS P ts kt ix <;> rfl
     ·rw[k1,k2]
      cases ZS P ts kt ix <;> rfl
    |_=>rfl
  |_=>simp[ha] at h
 |_=>simp[ho] at h
theorem ZGD{H:yL Ent}{x:Ent}{i:Nat}(hi:i < H.length):rdE ((H++[x])[i]?)=rdE (H[i]?):=by
 rw[yao hi]
theorem Zsh{H:yL Ent}{x:Ent}{i id:Nat}(h:¬id=i):rdE ((H.set id x)[i]?)=rdE (H[i]?):=by
 rw[ybw,yX h]
theorem ZET{H:yL Ent}{dd:Dv}{i id:Nat}(hh:∃st,H[id]? =some (.var dd st)):rdE ((H.set id (.var dd false))[i]?)=rdE (H[i]?):=by
 obtain⟨st,h⟩:=hh;by_cases e:id=i
 ·subst e;rw[ybw,yW rfl,yW (yq.1 h).1,h];rfl
 ·exact Zsh e
theorem ZHO{H:yL Ent}{dd:Dv}{v s:Nat}{e:yc}{i id:Nat}(hh:∃st,H[id]? =some (.row v s st e dd)):rdE ((H.set id (.row v s false e dd))[i]?)=rdE (H[i]?):=by
 obtain⟨st,h⟩:=hh;by_cases e:id=i
 ·subst e;rw[ybw,yW rfl,yW (yq.1 h).1,h];rfl
 ·exact Zsh e
theorem Zvs:∀(ids:yL Nat)(H Hb:yL Ent){i:Nat},i < H.length->ids.contains i=false->rdE ((putBack H ids Hb)[i]?)=rdE (H[i]?)
 |[],H,Hb,i,hi,_=>by
  simp only[putBack]
  rw[yao hi]
 |_::_,H,[],i,hi,_=>by simp only[putBack]
 |id::r,H,e::Hb,i,hi,h=>by
  simp only[List.contains_cons,Bool.or_eq_false_iff,beq_eq_false_iff_ne] at h;simp only[putBack];rw[Zvs r (H.set id e) Hb (by simpa using hi) h.2];exact Zsh (λhh=>h.1 hh.symm)
theorem ZHP{dv:Dv}{i:Nat}(h:ZhR dv H hs=some (C,d,H',hs')):rdE (H'[i]?)=rdE (H[i]?):=by
 unfold ZhR at h
 repeat' split at h
 all_goals first
  |(cases h;done)
  |(cases h
    first
     |exact ZET ⟨_,by assumption⟩
     |(rename_i hk
       simp only[yi,yP,yT] at hk;obtain⟨⟨rfl,rfl⟩,rfl⟩:=hk;exact ZHO ⟨_,by assumption⟩))
theorem ZGE{l:yL Nat}{i:Nat}(h:evE P o ts H hs=some (C,d,H',hs'))(ht:Zg4 P o ts hs=some l)(hi:i < H.length)(hl:l.contains i=false):rdE (H'[i]?)=rdE (H[i]?):=by
 unfold evE at h
 repeat' (first|split at h|(dsimp only at h;split at h))
 all_goals first
  |(cases h;done)
  |exact ZHP h
  |(cases h
    first
     |rfl
     |exact ZGD hi
     |(rw[yao hi];done)
     |exact ZET ⟨_,by assumption⟩
     |(rw[yao (by simpa using hi)]
       refine Zsh ?_;rintro rfl;simp_all[Zg4]
       exact hl (by rw[<-ht];simp))
     |(refine Zvs _ _ _ hi ?_
       simp_all[Zg4])
     |(refine Zsh ?_
       simp_all[Zg4]
       done)
     |(refine Zsh ?_
       rintro rfl;simp_all[Zg4];exact hl (by rw[<-ht];simp)))
end
end Go.Ev
end
section
namespace Go.Ev
theorem Zg8(keep:yL Nat):∀(l:yL Dv)(k t:Nat),(ZY keep k l)[t]? =(l[t]?).map λd=>if keep.contains (k+t) then d else .junk
 |[],k,t=>by simp[ZY]
 |d::l,k,0=>by simp[ZY]
 |d::l,k,t+1=>by
  simp only[ZY,yaq];rw[Zg8 keep l (k+1) t];simp[yci,Nat.add_comm 1 t]
theorem Zc8{σ:Sg}{a:Act}{ts:yL Dv}(keep:yL Nat)(h:RepT σ ts a):RepT σ (ZY keep 0 ts) a:=by
 refine⟨?_,λi d hi=> ?_,h.defers⟩
 ·rw[h.size]
  have:∀(l:yL Dv)(k:Nat),(ZY keep k l).length=l.length:=by
   intro l
   induction l with
   |nil=>intro k;rfl
   |cons x l ih=>intro k;simp[ZY,ih]
  exact(this ts 0).symm
 ·rw[Zg8] at hi;obtain⟨d',h1,h2⟩:=yn.1 hi;split at h2
  ·rw[<-h2];exact h.at_ i d' h1
  ·rw[<-h2];exact W3
theorem Zsi(A:yL Nat)(i j:Nat):∀(es:yL Edge)(m:Nat),(es.foldl (λm e=>if Region.binds .any e&&decide (e.on < i) then m|||(1 <<< e.on)|||A.getD e.on 0 else m) m).testBit j=true->
 m.testBit j=true\/∃e,e∈es/\Region.binds .any e=true/\e.on < i/\(e.on=j\/(A.getD e.on 0).testBit j=true)
 |[],m,h=>.inl h
 |e::es,m,h=>by
  simp only[List.foldl_cons] at h;rcases Zsi A i j es _ h with h1|⟨e',h1,h2⟩
  ·split at h1
   ·rename_i hc;simp only[yi,yP] at hc;simp only[Nat.testBit_or,Bool.or_eq_true,Nat.one_shiftLeft,Nat.testBit_two_pow,yP] at h1;rcases h1 with(h1|h1)|h1
    ·exact .inl h1
    ·exact .inr ⟨e,yay ..,hc.1,hc.2,.inl h1⟩
    ·exact .inr ⟨e,yay ..,hc.1,hc.2,.inr h1⟩
   ·exact .inl h1
  ·exact .inr ⟨e',yba _ h1,h2⟩
section
variable{P:yg}{ops:Array Oper}
def ZHQ(ops:Array Oper)(X:Nat->Bool):Prop:=∀i o,ops[i]? =some o->X i=true->∀e,e∈o.after->Region.binds .any e=true->X e.on=true
theorem Zvt{X:Nat->Bool}{A:yL Nat}(hX:ZHQ ops X)(hA:∀i o,ops[i]? =some o->A.getD i 0=Zlj A i o):∀(i:Nat),(∃o,ops[i]? =some o)->X i=true->∀j,(A.getD i 0).testBit j=true->X j=true:=by
 intro i
 induction i using Nat.strongRecOn with
 |_ i ih=>
  rintro⟨o,ho⟩ hi j hj;rw[hA i o ho] at hj;unfold Zlj at hj;rcases Zsi A i j _ _ hj with h|⟨e,h1,h2,h3,h4⟩
  ·simp at h
  ·have he:=hX i o ho hi e (by simpa using h1) h2;rcases h4 with h4|h4
   ·rw[<-h4];exact he
   ·have hlt:e.on < ops.size:=by
     have:=(ydc.1 ho).1;omega
    exact ih e.on h3 ⟨ops[e.on],yco hlt⟩ he j h4
def val(n:Nat)(dst:Nat->yO Tmp)(D:Nat->Dv)(ts0:yL Dv)(X:Nat->Bool)(t:Nat):Dv:=
 match (yu n).find? λj=>X j&&dst j==some t with
 |some j=>D j
 |none=>ts0.getD t .junk
def tsX(n:Nat)(dst:Nat->yO Tmp)(D:Nat->Dv)(ts0:yL Dv)(X:Nat->Bool):yL Dv:=(yu ts0.length).map (val n dst D ts0 X)
variable{n:Nat}{dst:Nat->yO Tmp}{D:Nat->Dv}{ts0:yL Dv}
theorem Zc9(hu:∀i j,i < n->j < n->dst i≠none->dst i=dst j->i=j){X:Nat->Bool}{t j:Nat}(hj:j < n)(hX:X j=true)(hd:dst j=some t):val n dst D ts0 X t=D j:=by
 unfold val
 cases hf:(yu n).find? λj=>X j&&dst j==some t with
 |none=>
  rw[List.find?_eq_none] at hf;have:=hf j (List.mem_range.2 hj)
  simp[hX,hd] at this
 |some i=>
  have h1:=List.find?_some hf;have h2:=List.mem_of_find?_eq_some hf;simp only[yi,yT] at h1;have h3:i < n:=List.mem_range.1 h2;rw[hu i j h3 hj (by rw[h1.2];simp) (by rw[h1.2,hd])]
theorem Zda{X:Nat->Bool}{t:Nat}(h:∀j,j < n->X j=true->dst j≠some t):val n dst D ts0 X t=ts0.getD t .junk:=by
 unfold val
 cases hf:(yu n).find? λj=>X j&&dst j==some t with
 |none=>rfl
 |some i=>
  have h1:=List.find?_some hf;have h2:=List.mem_range.1 (List.mem_of_find?_eq_some hf);simp only[yi,yT] at h1;exact absurd h1.2 (h i h2 h1.1)
theorem Vz{X:Nat->Bool}:(tsX n dst D ts0 X).length=ts0.length:=by simp[tsX]
theorem Ze7{X:Nat->Bool}{t:Nat}(h:t < ts0.length):(tsX n dst D ts0 X)[t]? =some (val n dst D ts0 X t):=by
 simp[tsX,h]
theorem ZxY{X:Nat->Bool}(h:∀j,j < n->X j=false):tsX n dst D ts0 X=ts0:=by
 apply ybs;intro t;by_cases ht:t < ts0.length
 ·rw[Ze7 ht,Zda (λj hj hx=>by rw[h j hj] at hx;cases hx)];simp[List.getD,ht]
 ·rw[yap (by rw[Vz];omega),yap (by omega)]
theorem ZEU(hu:∀i j,i < n->j < n->dst i≠none->dst i=dst j->i=j){X Y:Nat->Bool}{i:Nat}(hi:i < n)(hXi:X i=false)(hY:∀j,j < n->Y j=(X j || decide (j=i))):
 ZmN (tsX n dst D ts0 X) (dst i) (D i)=tsX n dst D ts0 Y:=by
 apply ybs;intro t;by_cases ht:t < ts0.length
 ·rw[Ze7 ht]
  have hother:dst i≠some t->val n dst D ts0 Y t=val n dst D ts0 X t:=by
   intro hne;by_cases hex:∃j,j < n/\X j=true/\dst j=some t
   ·obtain⟨j,h1,h2,h3⟩:=hex;rw[Zc9 hu h1 h2 h3,Zc9 hu h1 (by rw[hY j h1,h2];rfl) h3]
   ·rw[Zda (λj h1 h2 h3=>hex ⟨j,h1,h2,h3⟩),Zda (λj h1 h2 h3=> ?_)];rw[hY j h1] at h2;simp only[Bool.or_eq_true,yP] at h2;rcases h2 with h2|h2
    ·exact hex ⟨j,h1,h2,h3⟩
    ·subst h2;exact hne h3
  unfold ZmN
  cases hd:dst i with
  |none=>
   rw[hother (by rw[hd];simp),Ze7 ht]
  |some t'=>
   rw[ybw];by_cases htt:t'=t
   ·subst htt;rw[yW rfl,yW (by rw[Vz];exact ht),Zc9 hu hi (by rw[hY i hi];simp) hd]
   ·rw[yX htt,Ze7 ht,hother (by rw[hd];simpa using htt)]
 ·have hl:(ZmN (tsX n dst D ts0 X) (dst i) (D i)).length=ts0.length:=by
   unfold ZmN
   cases dst i with
   |none=>rw[Vz]
   |some t'=>rw[ybn,Vz]
  rw[yap (by rw[hl];omega),yap (by rw[Vz];omega)]
theorem ZGF(hu:∀i j,i < n->j < n->dst i≠none->dst i=dst j->i=j){X Y:Nat->Bool}{keep:yL Nat}(h:∀j t,j < n->dst j=some t->t∈keep->X j=Y j):
 ZY keep 0 (tsX n dst D ts0 X)=ZY keep 0 (tsX n dst D ts0 Y):=by
 apply ybs;intro t;rw[Zg8,Zg8];by_cases ht:t < ts0.length
 ·rw[Ze7 ht,Ze7 ht];simp only[yaa,ybe];by_cases hk:t∈keep
  ·have hkc:keep.contains t=true:=by simpa using hk
   rw[hkc];simp only[if_true];congr 1;by_cases hex:∃j,j < n/\X j=true/\dst j=some t
   ·obtain⟨j,h1,h2,h3⟩:=hex;rw[Zc9 hu h1 h2 h3,Zc9 hu h1 (by rw[<-h j t h1 h3 hk];exact h2) h3]
   ·rw[Zda (λj h1 h2 h3=>hex ⟨j,h1,h2,h3⟩),Zda (λj h1 h2 h3=>hex ⟨j,h1,by rw[h j t h1 h3 hk];exact h2,h3⟩)]
  ·have hkc:keep.contains t=false:=by simpa using hk
   rw[hkc];rfl
 ·rw[yap (by rw[Vz];omega),yap (by rw[Vz];omega)]
end
section
variable{P:yg}{ops:Array Oper}
theorem Zzd{o:Oper}{ts:yL Dv}{H H2:yL Ent}{hs:yL Hint}{r:yL Prop×Dv×yL Ent×yL Hint}(h:Zkx P o ts H hs=some r)(hn:(evN P o ts hs).isSome=true):r.2.2.1=H/\Zkx P o ts H2 hs=some (r.1,r.2.1,H2,r.2.2.2):=by
 unfold Zkx at h ⊢
 cases hh:evN P o ts hs with
 |none=>simp[hh] at hn
 |some q=>
  simp only[hh,yp] at h;subst h;exact⟨rfl,rfl⟩
theorem ZHR{o:Oper}{ts:yL Dv}{H:yL Ent}{hs:yL Hint}{r:yL Prop×Dv×yL Ent×yL Hint}(h:Zkx P o ts H hs=some r)(hn:(evN P o ts hs).isSome=false)(hr:(evR P o ts H hs).isSome=true):r.2.2.1=H:=by
 unfold Zkx at h
 cases hh:evN P o ts hs with
 |some q=>simp[hh] at hn
 |none=>
  cases hq:evR P o ts H hs with
  |none=>simp[hq] at hr
  |some q=>
   simp only[hh,hq,yp] at h;subst h;rfl
theorem ZHS{o:Oper}{ts:yL Dv}{H H2:yL Ent}{hs:yL Hint}{C:yL Prop}{d:Dv}{H':yL Ent}{hs':yL Hint}(h:evG P ops o ts H hs=some (C,d,H',hs'))(hc:clsOf P o ts H hs=0):
 H'=H/\evG P ops o ts H2 hs=some (C,d,H2,hs'):=by
 unfold evG at h ⊢;unfold clsOf at hc
 cases hg:o.guard with
 |none=>
  simp only[hg] at h hc ⊢
  have hn:(evN P o ts hs).isSome=true:=by
   cases hh:(evN P o ts hs).isSome with
   |true=>rfl
   |false=>
    rw[hh] at hc;simp only[Bool.false_eq_true,if_false] at hc;split at hc <;> simp at hc
  simp only[yn,yz] at h;obtain⟨⟨C1,d1,H1,hs1⟩,h1,rfl,rfl,rfl,rfl⟩:=h;obtain⟨e1,e2⟩:=Zzd (H2:=H2) h1 hn
  exact⟨e1,by rw[e2];rfl⟩
 |some gw=>
  obtain⟨g,want⟩:=gw;simp only[hg] at h hc ⊢;split at h
  ·rename_i t β hs1 ht;dsimp only at hc;split at h
   ·rename_i hb;rw[yW hb] at hc ⊢
    have hn:(evN P o ts hs1).isSome=true:=by
     cases hh:(evN P o ts hs1).isSome with
     |true=>rfl
     |false=>
      rw[hh] at hc;simp only[Bool.false_eq_true,if_false] at hc;split at hc <;> simp at hc
    simp only[yn,yz] at h;obtain⟨⟨C1,d1,H1,hs2⟩,h1,rfl,rfl,rfl,rfl⟩:=h;obtain⟨e1,e2⟩:=Zzd (H2:=H2) h1 hn;exact⟨e1,by rw[e2];rfl⟩
   ·rename_i hb;rw[yX hb];cases h;exact⟨rfl,rfl⟩
  ·cases h;exact⟨rfl,rfl⟩
  ·cases h
theorem ZHT{o:Oper}{ts:yL Dv}{H:yL Ent}{hs:yL Hint}{C:yL Prop}{d:Dv}{H':yL Ent}{hs':yL Hint}(h:evG P ops o ts H hs=some (C,d,H',hs'))(hc:clsOf P o ts H hs≠2):H'=H:=by
 unfold evG at h;unfold clsOf at hc
 cases hg:o.guard with
 |none=>
  simp only[hg] at h hc;simp only[yn,yz] at h;obtain⟨⟨C1,d1,H1,hs1⟩,h1,rfl,rfl,rfl,rfl⟩:=h
  cases hn:(evN P o ts hs).isSome with
  |true=>exact(Zzd (H2:=[]) h1 hn).1
  |false=>
   cases hr:(evR P o ts H hs).isSome with
   |true=>exact ZHR h1 hn hr
   |false=>simp[hn,hr] at hc
 |some gw=>
  obtain⟨g,want⟩:=gw;simp only[hg] at h hc;split at h
  ·rename_i t β hs1 ht;dsimp only at hc;split at h
   ·rename_i hb;simp only[yW hb] at hc;simp only[yn,yz] at h;obtain⟨⟨C1,d1,H1,hs2⟩,h1,rfl,rfl,rfl,rfl⟩:=h
    cases hn:(evN P o ts hs1).isSome with
    |true=>exact(Zzd (H2:=[]) h1 hn).1
    |false=>
     cases hr:(evR P o ts H hs1).isSome with
     |true=>exact ZHR h1 hn hr
     |false=>simp[hn,hr] at hc
   ·cases h;rfl
  ·cases h;rfl
  ·cases h
theorem ZN1{o:Oper}{ts:yL Dv}{H H2:yL Ent}{hs:yL Hint}{C:yL Prop}{d:Dv}{H':yL Ent}{hs':yL Hint}(h:evG P ops o ts H hs=some (C,d,H',hs'))(hc:clsOf P o ts H hs=1)
 (hr:∀hs,evR P o ts H2 hs=evR P o ts H hs):evG P ops o ts H2 hs=some (C,d,H2,hs'):=by
 unfold clsOf at hc;unfold evG at h ⊢
 cases hg:o.guard with
 |none=>
  simp only[hg] at h hc ⊢
  cases hn:evN P o ts hs with
  |some q=>simp[hn] at hc
  |none=>
   cases hq:evR P o ts H hs with
   |none=>simp[hn,hq] at hc
   |some q=>
    unfold Zkx at h ⊢;rw[hr];simp only[hn,hq,yaa,yp,yz] at h ⊢
    exact⟨h.1,h.2.1,zT,h.2.2.2⟩
 |some gw=>
  obtain⟨g,want⟩:=gw;simp only[hg] at h hc ⊢;split at h
  ·rename_i t β hs1 ht;dsimp only at hc;split at h
   ·rename_i hb;rw[yW hb] at hc ⊢
    cases hn:evN P o ts hs1 with
    |some q=>simp[hn] at hc
    |none=>
     cases hq:evR P o ts H hs1 with
     |none=>simp[hn,hq] at hc
     |some q=>
      unfold Zkx at h ⊢;rw[hr];simp only[hn,hq,yaa,yp,yz] at h ⊢;exact⟨h.1,h.2.1,zT,h.2.2.2⟩
   ·rename_i hb;simp[hb] at hc
  ·simp at hc
  ·cases h
theorem ZGG{o:Oper}{ts:yL Dv}{H:yL Ent}{hs:yL Hint}{C:yL Prop}{d:Dv}{H':yL Ent}{hs':yL Hint}{l:yL Nat}{i:Nat}(h:evG P ops o ts H hs=some (C,d,H',hs'))(hc:clsOf P o ts H hs=2)
 (ht:Zy0 P o ts hs=some l) (hi:i < H.length) (hl:l.contains i=false):rdE (H'[i]?)=rdE (H[i]?):=by
 unfold Zy0 at ht
 cases hg:o.guard with
 |some g=>simp[hg] at ht
 |none=>
  simp only[hg,Option.isNone_none,if_true] at ht;unfold clsOf at hc;unfold evG at h;simp only[hg] at h hc
  cases hn:evN P o ts hs with
  |some q=>simp[hn] at hc
  |none=>
   cases hq:evR P o ts H hs with
   |some q=>simp[hn,hq] at hc
   |none=>
    simp only[yn,yz] at h;obtain⟨⟨C1,d1,H1,hs1⟩,h1,rfl,rfl,rfl,rfl⟩:=h;unfold Zkx at h1;simp only[hn,hq] at h1;exact ZGE h1 ht hi hl
theorem ZBf{o:Oper}{ts:yL Dv}{H H2:yL Ent}{hs:yL Hint}{C:yL Prop}{d:Dv}{H':yL Ent}{hs':yL Hint}(h:evG P ops o ts H hs=some (C,d,H',hs'))(hp:Zli o=true)(hl:H2.length=H.length):
 clsOf P o ts H hs=2/\∃E,H'=H++E/\evG P ops o ts H2 hs=some (C,d,H2++E,hs'):=by
 unfold Zli at hp;rw[yi] at hp;obtain⟨hg,hp⟩:=hp;have hg:o.guard=none:=by simpa using hg
 split at hp
 ·rename_i t ho;have n1:∀hs,evN P o ts hs=none:=λhs=>by unfold evN;rw[ho]
  have n2:∀H hs,evR P o ts H hs=none:=λH hs=>by unfold evR;rw[ho]
  refine⟨?_, ?_⟩
  ·unfold clsOf;rw[hg];simp[n1,n2]
  ·unfold evG at h ⊢;rw[hg] at h ⊢;dsimp only at h ⊢;unfold Zkx at h ⊢;rw[n1,n2] at h;rw[n1,n2];dsimp only at h ⊢;unfold evE at h ⊢;rw[ho] at h ⊢;dsimp only at h ⊢;rw[hl];split at h
   ·split at h
    ·split at h
     ·simp only[yaa,yp,yz] at h;obtain⟨rfl,rfl,rfl,rfl⟩:=h;rename_i hi _ _ hgh hk;refine⟨_,rfl, ?_⟩;rw[yW hk];rfl
     ·cases h
    ·cases h
   ·cases h
 ·cases hp
theorem ZBg:∀{hs:yL Hint}{d:Dv}{n:Nat},(Y4 d n hs).2.1=[]->(Y4 d n hs).1=d
 |[],d,n,_=>by simp[Y4]
 |x::hs,d,n,h=>by
  cases x with
  |ghost yS s e=>
   simp only[Y4] at h ⊢;split
   ·rename_i d' hg;rw[hg] at h;cases h
   ·rfl
  |_=>simp[Y4]
theorem ZHU{σ:Sg}{a:Act}{o:Oper}{ts:yL Dv}{H E:yL Ent}{hs:yL Hint}{C:yL Prop}{d:Dv}{H':yL Ent}{hs':yL Hint}(ok:Ok σ)(yR:RepT σ ts a)(h:evG P ops o ts H hs=some (C,d,H',hs'))(hp:Zli o=true)
 (hl:H'.length=H.length+1) (hσ:σ.H=H++.gone::E) (K:Act->World->Prop) (Q:Exit->Act->World->Prop)
 (hK:∀v σ',σ'.H=H'++E->To σ σ'->Ok σ'->RepT σ' (ZmN ts o.dst d) (a.put o.dst v)->K (a.put o.dst v) σ'.w):
 if Region.wanted o (yielded ops a.tmps) then o.wp P a σ.w K Q else K (a.put o.dst undef) σ.w:=by
 unfold Zli at hp;rw[yi] at hp;obtain⟨hg,hp⟩:=hp;have hg:o.guard=none:=by simpa using hg
 have hw:Region.wanted o (yielded ops a.tmps)=true:=by simp[Region.wanted,hg]
 rw[yW hw];split at hp
 ·rename_i t ho;have n1:∀hs,evN P o ts hs=none:=λhs=>by unfold evN;rw[ho]
  have n2:∀H hs,evR P o ts H hs=none:=λH hs=>by unfold evR;rw[ho]
  unfold evG at h;rw[hg] at h;dsimp only at h;unfold Zkx at h;rw[n1,n2] at h;dsimp only at h;unfold evE at h;rw[ho] at h;dsimp only at h;split at h
  ·rename_i i hi;split at h
   ·split at h
    ·rename_i hk;simp only[yaa,yp,yz] at h;obtain⟨rfl,rfl,rfl,rfl⟩:=h;rw[yl,yai] at hl;have he:(Y4 (Vo P t) (H.length+1) hs).2.1=[]:=ybl (by omega);have hd:=ZBg he;rw[he,hd] at hK;simp only[yi] at hk;obtain⟨z,hzz,_⟩:=Zfr hk.1.1;have hid:σ.H[H.length]? =some .gone:=by rw[hσ,yax (yj _),Nat.sub_self];rfl
     have h1:=ZDh (P:=P) (o:=o) (a:=a) ok hid ho hi (by rw[hzz];rfl) hk.1.2 hk.2;refine h1 K Q λv σ' e1 to ok' hv=>hK v σ' ?_ to ok' (Znl (yR.to to.leaf) hv);rw[e1,hσ,List.set_append_right _ _ (yj _),Nat.sub_self];simp
    ·cases h
   ·cases h
  ·cases h
 ·cases hp
theorem ZKu{σ:Sg}(ok:Ok σ):To σ { σ with m:=σ.m++[none],H:=σ.H++[.gone]}/\Ok { σ with m:=σ.m++[none],H:=σ.H++[.gone]}:=
 V7 (σ':={ σ with m:=σ.m++[none],H:=σ.H++[.gone]}) ok rfl rfl rfl rfl (World.grownBy.refl σ.w none) (.inl rfl) (λ_=>trivial)
mutual
theorem Zoy{f g:Nat->yO Nat}(hfg:∀j k,f j=some k->g j=some k):∀(d d':Dv),d.rn f=some d'->d.rn g=some d'
 |.p x,d',h=>h
 |.elem x,d',h=>h
 |.ref id off yS,d',h=>by
  simp only[Dv.rn,yn] at h ⊢;obtain⟨i,h1,h2⟩:=h
  exact⟨i,hfg _ _ h1,h2⟩
 |.own id nn s xs,d',h=>by
  simp only[Dv.rn,yn] at h ⊢;obtain⟨i,h1,h2⟩:=h
  exact⟨i,hfg _ _ h1,h2⟩
 |.view id off yS s lo n,d',h=>by
  simp only[Dv.rn,yn] at h ⊢;obtain⟨i,h1,h2⟩:=h
  exact⟨i,hfg _ _ h1,h2⟩
 |.mp id,d',h=>by
  simp only[Dv.rn,yn] at h ⊢;obtain⟨i,h1,h2⟩:=h
  exact⟨i,hfg _ _ h1,h2⟩
 |.rv id v s lo n,d',h=>by
  simp only[Dv.rn,yn] at h ⊢;obtain⟨i,h1,h2⟩:=h
  exact⟨i,hfg _ _ h1,h2⟩
 |.rref id v off yS,d',h=>by
  simp only[Dv.rn,yn] at h ⊢;obtain⟨i,h1,h2⟩:=h
  exact⟨i,hfg _ _ h1,h2⟩
 |.agg xs,d',h=>by
  simp only[Dv.rn,yn] at h ⊢;obtain⟨i,h1,h2⟩:=h
  exact⟨i,rns_more hfg xs i h1,h2⟩
 |.arr n s xs,d',h=>by
  simp only[Dv.rn,yn] at h ⊢;obtain⟨i,h1,h2⟩:=h
  exact⟨i,rns_more hfg xs i h1,h2⟩
 |.fn g0 xs,d',h=>by
  simp only[Dv.rn,yn] at h ⊢;obtain⟨i,h1,h2⟩:=h
  exact⟨i,rns_more hfg xs i h1,h2⟩
 |.iface t x,d',h=>by
  simp only[Dv.rn,yn] at h ⊢;obtain⟨i,h1,h2⟩:=h
  exact⟨i,Zoy hfg x i h1,h2⟩
 |.tup xs,d',h=>by
  simp only[Dv.rn,yn] at h ⊢;obtain⟨i,h1,h2⟩:=h
  exact⟨i,rns_more hfg xs i h1,h2⟩
 |.junk,d',h=>h
theorem rns_more{f g:Nat->yO Nat}(hfg:∀j k,f j=some k->g j=some k):∀(d d':yL Dv),Dv.rns f d=some d'->Dv.rns g d=some d'
 |[],d',h=>h
 |x::r,d',h=>by
  simp only[Dv.rns] at h ⊢;split at h
  ·rename_i y ys h1 h2;rw[Zoy hfg x y h1,rns_more hfg r ys h2];exact h
  ·cases h
end
theorem ZHV{f g:Nat->yO Nat}(hfg:∀j k,f j=some k->g j=some k):∀(d d':Ent),d.rn f=some d'->d.rn g=some d'
 |.var d st,d',h=>by
  simp only[Ent.rn,yn] at h ⊢;obtain⟨i,h1,h2⟩:=h
  exact⟨i,Zoy hfg d i h1,h2⟩
 |.row v s st e d,d',h=>by
  simp only[Ent.rn,yn] at h ⊢;obtain⟨i,h1,h2⟩:=h
  exact⟨i,Zoy hfg d i h1,h2⟩
 |.log _ _ _,d',h=>h
 |.map _ _,d',h=>h
 |.gone,d',h=>h
theorem Zsj{f g:Nat->yO Nat}(hfg:∀j k,f j=some k->g j=some k):∀(d d':yL Ent),Ent.rns f d=some d'->Ent.rns g d=some d'
 |[],d',h=>h
 |x::r,d',h=>by
  simp only[Ent.rns] at h ⊢;split at h
  ·rename_i y ys h1 h2;rw[ZHV hfg x y h1,Zsj hfg r ys h2];exact h
  ·cases h
theorem Zoz(ids:yL Nat)(n:Nat):∀j k,ids[j]? =some k->fromIds ids n j=some k:=λj k h=>by
 unfold fromIds;rw[yW (yq.1 h).1];exact h
theorem Zg9{H E:yL Ent}{all:yL Nat}:∀{ids:yL Nat}{Hin:yL Ent},subEnts H all ids=some Hin->subEnts (H++E) all ids=some Hin/\∀id,id∈ids->id < H.length
 |[],Hin,h=>⟨h,λ_ h=>by cases h⟩
 |id::r,Hin,h=>by
  simp only[subEnts] at h ⊢;split at h
  ·rename_i e es h1 h2;obtain⟨k1,k2⟩:=Zg9 (E:=E) h2;obtain⟨e0,h3,h4⟩:=yf.1 h1;have hlt:=(yq.1 h3).1;rw[yao hlt,h1,k1]
   exact⟨h,λi hi=>by
    cases hi with
    |head=>exact hlt
    |tail _ hi=>exact k2 i hi⟩
  ·cases h
theorem Zls{α:Type}{E:yL α}:∀{ids:yL Nat}{H Hb:yL α},Hb.length=ids.length->(∀id,id∈ids->id < H.length)->putBack (H++E) ids Hb=putBack H ids Hb++E/\(putBack H ids Hb).length=H.length
 |[],H,Hb,hl,_=>by
  have:Hb=[]:=ybl (by simpa using hl);subst this
  simp[putBack]
 |id::r,H,[],hl,_=>by simp at hl
 |id::r,H,e::Hb,hl,hi=>by
  simp only[putBack];rw[List.set_append_left _ _ (hi id (yay ..))];obtain⟨h1,h2⟩:=Zls (E:=E) (ids:=r) (H:=H.set id e) (Hb:=Hb) (by simpa using hl) (λi h=>by rw[ybn];exact hi i (yba _ h));exact⟨h1,by rw[h2,ybn]⟩
theorem ZBh{f:Nat->yO Nat}:∀{l l':yL Ent},Ent.rns f l=some l'->l'.length=l.length
 |[],l',h=>by cases h;rfl
 |x::r,l',h=>by
  simp only[Ent.rns] at h;split at h
  ·rename_i y ys h1 h2;cases h;rw[yai,yai,ZBh h2]
  ·cases h
theorem ZKv{o:Oper}{ts:yL Dv}{H:yL Ent}{hs:yL Hint}{C:yL Prop}{d:Dv}{H':yL Ent}{hs':yL Hint}(h:evG P ops o ts H hs=some (C,d,H',hs'))(hp:ZqH o hs=true):
 clsOf P o ts H hs≠1/\H'.length=H.length/\∀E,evG P ops o ts (H++E) hs=some (C,d,H'++E,hs'):=by
 unfold ZqH at hp;rw[yi] at hp;obtain⟨hg,hp⟩:=hp;have hg:o.guard=none:=by simpa using hg
 have key:(∀H hs,evR P o ts H hs=none)->(∀H1,evE P o ts H hs=some (C,d,H1,hs')->H1.length=H.length/\∀E,evE P o ts (H++E) hs=some (C,d,H1++E,hs'))->
  clsOf P o ts H hs≠1/\H'.length=H.length/\∀E,evG P ops o ts (H++E) hs=some (C,d,H'++E,hs'):=by
  intro n2 hE;refine⟨?_, ?_⟩
  ·unfold clsOf;rw[hg];simp only[n2];split <;> simp
  ·unfold evG at h ⊢;rw[hg] at h ⊢;dsimp only at h ⊢;unfold Zkx at h ⊢
   cases hn:evN P o ts hs with
   |some q=>
    rw[hn] at h;simp only[yaa,yp,yz] at h;obtain⟨h1,h2,rfl,h4⟩:=h;refine⟨rfl,λE=> ?_⟩;simp only[yaa,yp,yz]
    exact⟨h1,h2,zT,h4⟩
   |none=>
    rw[hn,n2] at h;dsimp only at h;obtain⟨⟨C1,d1,H1,hs1⟩,h1,h2⟩:=yn.1 h;simp only[Zw7,List.append_nil,yz] at h2;obtain⟨rfl,rfl,rfl,rfl⟩:=h2;obtain⟨k1,k2⟩:=hE H1 h1;refine⟨k1,λE=> ?_⟩;rw[n2];dsimp only;rw[k2 E];simp[Zw7]
 split at hp
 ·rename_i c ho;split at hp
  ·rename_i f hc;split at hp
   ·rename_i r Hn ids hs0;unfold ZNZ at hp;simp only[yi,yT,Option.isSome_iff_exists] at hp;obtain⟨⟨p1,d0,p2⟩,Hb0,p3⟩:=hp;refine key (λH hs=>by unfold evR;rw[ho];dsimp only;rw[hc]) λH1 hE=> ?_;unfold evE at hE;rw[ho] at hE;dsimp only at hE;rw[hc] at hE;dsimp only at hE;split at hE
    ·rename_i g cap r2 H2 ids2 hs2 ha hh;simp only[List.cons.injEq,Hint.call.injEq] at hh;obtain⟨⟨rfl,rfl,rfl⟩,rfl⟩:=hh;split at hE
     ·rename_i hk;split at hE
      ·rename_i args' Hin r' Hb e1 e2 e3 e4;cases hE;rw[Zoy (Zoz ids H.length) _ _ p2] at e3;cases e3;rw[Zsj (Zoz ids H.length) _ _ p3] at e4;cases e4;have hlb:Hb0.length=ids.length:=by rw[ZBh p3,p1]
       refine⟨(Zls (E:=[]) hlb (Zg9 (E:=[]) e2).2).2,λE=> ?_⟩;unfold evE;rw[ho];dsimp only;rw[hc];dsimp only;rw[ha];dsimp only;rw[yW hk,e1,(Zg9 (E:=E) e2).1,Zoy (Zoz ids _) _ _ p2,Zsj (Zoz ids _) _ _ p3];dsimp only;rw[(Zls (E:=E) hlb (Zg9 (E:=[]) e2).2).1]
      ·cases hE
     ·cases hE
    ·cases hE
   ·cases hp
  ·cases hp
 ·cases hp
theorem ZHW{o:Oper}{ts:yL Dv}{H:yL Ent}{hs:yL Hint}:clsOf P o ts H hs<=2:=by
 unfold clsOf
 repeat' split
 all_goals omega
end
end Go.Ev
end
