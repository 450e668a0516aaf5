/- Parts of the proof, in one file. -/
import Derived.Test.YtekdgjajmennjaaGreatKa
open Array renaming length_toList → yas, getElem?_toList → ybr, toArray_toList → ybx, getElem?_eq_getElem → ycj, toList_map → ycm, getElem?_eq_some_iff → ycr
open Bool renaming and_eq_true → yi
open Go renaming TypeId → yb, Program → yg, Value → yh, Operand → yn, FuncId → yu, World → yy
open List renaming getElem?_eq_some_iff → yo, length_append → yr, length_map → yx, replicate → yab, getElem?_eq_getElem → yac, map_cons → yad, length_take → yae, getElem?_map → yaf, getElem?_append_left → yah, length_cons → yai, append_assoc → yak, getElem?_append_right → yam, getElem?_eq_none → yan, mem_singleton → yao, mem_cons_self → yap, getElem?_cons_succ → yar, mem_cons_of_mem → yau, take_length → yay, eq_nil_of_length_eq_zero → yaz, length_set → ybc, ext_getElem? → ybd, take_append_drop → ybf, getElem?_set → ybg, getElem?_cons_zero → ybh, mem_of_getElem? → ybm, mem_of_mem_take → ybn, length_drop → ybq, mem_map → ybu, getElem_of_mem → ycc, getElem?_take → ycd, mem_cons → ycf, length_nil → ych, take_of_length_le → ycn, mem_of_mem_drop → yct
open Nat renaming le_refl → ym, add_mul → yat, min_eq_left → yav, zero_add → yax, lt_or_ge → ybp, eq_zero_or_pos → ybt, mul_le_mul_right → ycb, add_assoc → yce
open Option renaming map_eq_some_iff → yp
open Option.some renaming injEq → yj, inj → ybe
open Prod.mk renaming injEq → yl
set_option linter.unusedVariables false
set_option linter.unusedSimpArgs false
section
namespace Go.Ev
theorem ZFk{xs:List Pl}{i:Nat}{x y:Pl}(hx:xs[i]? =some x)(hs:y.size=x.size):Pl.sizes (xs.set i y)=Pl.sizes xs:=by
 rw[Zdq,Zdq,List.map_set,hs];congr 1;apply ybd;intro j;rw[ybg];split
 ·rename_i h;subst h;have:=(yo.1 hx).1;rw[yaf,hx];simp[this]
 ·rfl
theorem Zss{xs:List Dv}{i:Nat}{x y:Dv}(hx:xs[i]? =some x)(hs:y.size=x.size):Dv.sizes (xs.set i y)=Dv.sizes xs:=by
 rw[ZaF,ZaF,List.map_set,hs];congr 1;apply ybd;intro j;rw[ybg];split
 ·rename_i h;subst h;have:=(yo.1 hx).1;rw[yaf,hx];simp[this]
 ·rfl
theorem ZaG{α:Type}{xs:List α}{i:Nat}{x y:α}(hx:xs[i]? =some x):xs.set i y=xs.take i++(y::xs.drop (i+1)):=by
 rw[List.set_eq_take_append_cons_drop,if_pos (yo.1 hx).1]
theorem ZgQ{α:Type}{Q:α→Prop}{xs:List α}{i:Nat}{y:α}(h:∀x,x∈xs→Q x)(hy:Q y):∀x,x∈xs.set i y→Q x:=by
 intro x hx;rcases List.mem_or_eq_of_mem_set hx with h1|h1
 ·exact h x h1
 ·rw[h1];exact hy
theorem ZiJ{σ:Sg}:∀{xs:List Pl}{us:List yh},repCs σ.w σ.stab xs us→repDs σ (xs.map Dv.p) us
 |[],us,h=>by simpa[repCs,repDs] using h
 |x::xs,us,h=>by
  simp only[repCs] at h;obtain⟨a,b,h1,h2,h3⟩:=h;simp only[yad,repDs];exact⟨a,b,h1,by simpa[repD] using h2,ZiJ h3⟩
theorem Qm{σ:Sg}:∀(path:List Nat)(dd:Dv)(hs hs':List Hint)(C:List Prop)(off:Nat)(sub:Dv)(us:List yh),Z3 dd path hs=some (C,off,sub,hs')→AllP C→repD σ dd us→
 ∃x y z,us=x++(y++z)∧x.length=off∧repD σ sub y∧∀new dd' y',Xi new dd path hs=some dd'→new.size=sub.size→repD σ new y'→repD σ dd' (x++(y'++z))∧dd'.size=dd.size
 |[],dd,hs,hs',C,off,sub,us,h,hc,hr=>by
  simp only[Z3,yj,yl] at h;obtain⟨rfl,rfl,rfl,rfl⟩:=h;refine⟨[],us,[],by simp,rfl,hr,λnew dd' y' hp hs hn=> ?_⟩;simp only[Xi,yj] at hp;subst hp
  exact⟨by simpa using hn,hs⟩
 |i::path,dd,hs,hs',C,off,sub,us,h,hc,hr=>by
  cases dd with
  |p q=>
   cases q with
   |agg xs=>
    simp only[Z3] at h;split at h
    ·rename_i x hx;simp only[yp,yl] at h;obtain⟨⟨C1,off1,sub1,hs1⟩,h1,rfl,rfl,rfl,rfl⟩:=h;simp only[repD,repC] at hr;obtain⟨p1,p2,p3,rfl,h2,h3,_,h6,h7⟩:=QB hr hx;obtain⟨q1,q2,q3,rfl,h4,h5,h8⟩:=Qm path (.p x) _ _ _ _ _ p2 h1 hc (by simpa[repD] using h3);refine⟨p1++q1,q2,q3++p3,by simp,by rw[yr,h2,h4],h5,λnew dd' y' hp hs hn=> ?_⟩;simp only[Xi,hx] at hp;split at hp
     ·rename_i y hy;cases hp;obtain⟨k1,k2⟩:=h8 new _ y' hy hs hn;have k3:y.size=x.size:=by simpa[Dv.size] using k2
      refine⟨?_,by simp only[Dv.size,Pl.size];exact ZFk hx k3⟩;simp only[repD,repC];rw[ZaG hx];have e:p1++q1++(y'++(q3++p3))=p1++((q1++(y'++q3))++p3):=by simp
      rw[e];refine Z4 h6 ?_;simp only[repCs];exact⟨_,_,rfl,by simpa[repD] using k1,h7⟩
     ·rename_i y hy hne;cases hp;obtain⟨k1,k2⟩:=h8 new _ y' hne hs hn;have k3:y.size=x.size:=by simpa[Dv.size] using k2
      have hx':(xs.map Dv.p)[i]? =some (.p x):=by rw[yaf,hx];rfl
      refine⟨?_,by
       simp only[Dv.size,Pl.size];rw[Zss hx' k3,ZaF,Zdq,List.map_map];rfl⟩
      simp only[repD];rw[ZaG hx'];have e:p1++q1++(y'++(q3++p3))=p1++((q1++(y'++q3))++p3):=by simp
      rw[e, ←List.map_take, ←List.map_drop];refine QC (ZiJ h6) ?_;simp only[repDs];exact⟨_,_,rfl,k1,ZiJ h7⟩
     ·cases hp
    ·cases h
   |arr n s xs=>
    simp only[Z3] at h;split at h
    ·rename_i y hs1;simp only[yp,yl] at h;obtain⟨⟨C1,off1,sub1,hs1⟩,h1,rfl,rfl,rfl,rfl⟩:=h;obtain⟨hx,hc⟩:=hc;simp only[repD,repC] at hr;obtain⟨hl,hall,hr⟩:=hr;obtain⟨p1,p2,p3,rfl,h2,h3,_,h6,h7⟩:=QB hr hx;obtain⟨q1,q2,q3,rfl,h4,h5,h8⟩:=Qm path (.p y) _ _ _ _ _ p2 h1 hc (by simpa[repD] using h3);have hi:i < xs.length:=(yo.1 hx).1;refine⟨p1++q1,q2,q3++p3,by simp,by rw[yr,h2,h4,sizes_all (Wg hall i),yae,yav (Nat.le_of_lt hi)],h5,λnew dd' y' hp hs hn=> ?_⟩;simp only[Xi] at hp;split at hp
     ·rename_i z hz;cases hp;obtain⟨k1,k2⟩:=h8 new _ y' hz hs hn;have k3:z.size=y.size:=by simpa[Dv.size] using k2
      have k4:z.size=s:=by rw[k3];exact hall y (ybm hx)
      refine⟨?_,rfl⟩;simp only[repD,repC];refine⟨by rw[ybc];exact hl,ZgQ hall (by rw[ZoO];exact k4), ?_⟩;rw[ZaG hx];have e:p1++q1++(y'++(q3++p3))=p1++((q1++(y'++q3))++p3):=by simp
      rw[e];refine Z4 h6 ?_;simp only[repCs];exact⟨_,_,rfl,(ZeJ z).rep _ _ _ (by simpa[repD] using k1),h7⟩
     ·rename_i z hz hne;cases hp;obtain⟨k1,k2⟩:=h8 new _ y' hne hs hn;have k3:z.size=y.size:=by simpa[Dv.size] using k2
      have k4:z.size=s:=by rw[k3];exact hall y (ybm hx)
      have hx':(xs.map Dv.p)[i]? =some (.p y):=by rw[yaf,hx];rfl
      refine⟨?_,rfl⟩;simp only[repD]
      refine⟨by rw[ybc,yx];exact hl,ZgQ (λq hq=>by
       obtain⟨q',hq',rfl⟩:=ybu.1 hq;exact hall q' hq') k4, ?_⟩
      rw[ZaG hx'];have e:p1++q1++(y'++(q3++p3))=p1++((q1++(y'++q3))++p3):=by simp
      rw[e, ←List.map_take, ←List.map_drop];refine QC (ZiJ h6) ?_;simp only[repDs];exact⟨_,_,rfl,k1,ZiJ h7⟩
     ·cases hp
    ·cases h
   |_=>simp[Z3] at h
  |agg xs=>
   simp only[Z3] at h;split at h
   ·rename_i x hx;simp only[yp,yl] at h;obtain⟨⟨C1,off1,sub1,hs1⟩,h1,rfl,rfl,rfl,rfl⟩:=h;simp only[repD] at hr;obtain⟨p1,p2,p3,rfl,h2,h3,_,h6,h7⟩:=Zdn hr hx;obtain⟨q1,q2,q3,rfl,h4,h5,h8⟩:=Qm path x _ _ _ _ _ p2 h1 hc h3;refine⟨p1++q1,q2,q3++p3,by simp,by rw[yr,h2,h4],h5,λnew dd' y' hp hs hn=> ?_⟩;simp only[Xi,hx,yp] at hp;obtain⟨y,hy,rfl⟩:=hp;obtain⟨k1,k2⟩:=h8 new _ y' hy hs hn;refine⟨?_,by simp only[Dv.size];exact Zss hx k2⟩;simp only[repD];rw[ZaG hx];have e:p1++q1++(y'++(q3++p3))=p1++((q1++(y'++q3))++p3):=by simp
    rw[e];refine QC h6 ?_;simp only[repDs];exact⟨_,_,rfl,k1,h7⟩
   ·cases h
  |arr n s xs=>
   simp only[Z3] at h;split at h
   ·rename_i x hx;simp only[yp,yl] at h;obtain⟨⟨C1,off1,sub1,hs1⟩,h1,rfl,rfl,rfl,rfl⟩:=h;simp only[repD] at hr;obtain⟨hl,hall,hr⟩:=hr;obtain⟨p1,p2,p3,rfl,h2,h3,_,h6,h7⟩:=Zdn hr hx;obtain⟨q1,q2,q3,rfl,h4,h5,h8⟩:=Qm path x _ _ _ _ _ p2 h1 hc h3;have hi:i < xs.length:=(yo.1 hx).1;refine⟨p1++q1,q2,q3++p3,by simp,by rw[yr,h2,h4,dsizes_all (λy hy=>hall y (ybn hy)),yae,yav (Nat.le_of_lt hi)],h5,λnew dd' y' hp hs hn=> ?_⟩;simp only[Xi,hx,yp] at hp;obtain⟨y,hy,rfl⟩:=hp;obtain⟨k1,k2⟩:=h8 new _ y' hy hs hn;refine⟨?_,rfl⟩;simp only[repD];refine⟨by rw[ybc];exact hl,ZgQ hall (by rw[k2];exact hall x (ybm hx)), ?_⟩;rw[ZaG hx];have e:p1++q1++(y'++(q3++p3))=p1++((q1++(y'++q3))++p3):=by simp
    rw[e];refine QC h6 ?_;simp only[repDs];exact⟨_,_,rfl,k1,h7⟩
   ·cases h
  |_=>simp[Z3] at h
section
variable{P:yg}{o:Oper}{a:Act}{σ:Sg}{ts:List Dv}{hs hs':List Hint}{C:List Prop}{d:Dv}
theorem Zdf{σ':Sg}(hr:(execOp a.eval o).run P σ.w=.ok .skip σ'.w)(to:To σ σ')(ok:Ok σ'):Ym P o a σ .junk σ'.H:=by
 intro K Q h;unfold Oper.wp;rw[hr];exact h undef σ' rfl to ok YN
theorem Zwb{v:Dv}{u:yh}(hr:repDV σ v u):repDV σ v.meltP u:=by
 unfold Dv.meltP;split
 ·rename_i x h1;exact ZmS h1 hr
 ·exact hr
theorem Zst{path:List Nat}{dd v new:Dv}{u:yh}(h:ZbW path dd v=some new)(hr:repDV σ v u):repDV σ new u:=by
 unfold ZbW at h;split at h
 ·cases h;exact Zwb hr
 ·split at h
  ·cases h;exact Zwb hr
  ·cases h;exact hr
theorem ZiK{x y z y':List yh}{cs:Array yh}{n:Nat}(h:cs.toList.take n=x++(y++z))(hl:y'.length=y.length)(hn:n≤cs.size):
 (cs.toList.take x.length++y'++cs.toList.drop (x.length+y'.length)).take n=x++(y'++z)∧(cs.toList.take x.length++y'++cs.toList.drop (x.length+y'.length)).length=cs.size:=by
 have hnl:n=x.length+(y.length+z.length):=by
  have:=congrArg List.length h;simp only[yae,yas,yr] at this;omega
 have e:cs.toList=x++(y++z)++cs.toList.drop n:=by rw[←h,ybf]
 have e1:cs.toList.take x.length=x:=by rw[e];simp
 have e2:cs.toList.drop (x.length+y'.length)=z++cs.toList.drop n:=by
  have hc:cs.toList=(x++y)++(z++cs.toList.drop n):=by
   have:x++y++(z++cs.toList.drop n)=x++(y++z)++cs.toList.drop n:=by simp
   rw[this];exact e
  have hle:x.length+y'.length=(x++y).length:=by rw[yr,hl]
  rw[hle];have:=congrArg (List.drop (x++y).length) hc;rw[List.drop_left] at this;exact this
 rw[e1,e2];constructor
 ·have:x++y'++(z++cs.toList.drop n)=(x++(y'++z))++cs.toList.drop n:=by simp
  rw[this,hnl];have hle:x.length+(y.length+z.length)=(x++(y'++z)).length:=by simp[hl]
  rw[hle];exact List.take_left
 ·simp only[yr,ybq,yas];omega
theorem ZJp(ok:Ok σ)(hrep:RepT σ ts a){t:yb}{x y:yn}{id off:Nat}{path:List Nat}{dd sub new dd':Dv}{C1:List Prop}{off':Nat}(ho:o.op=.store t x y)(hx:Zp P ts 0 x=.ref id off path)
 (hH:σ.H[id]? =some (.var dd true)) (hg:Z3 dd path hs=some (C1,off',sub,hs')) (hc:AllP C1) (he:off'=off) (hn:ZbW path dd (Zp P ts t y)=some new) (hp:Xi new dd path hs=some dd')
 (hsol:new.solid=true) (hsz:new.size=sub.size) (ht:P.cellsOf t=new.size) (hi:(P.info? t).isSome=true):Ym P o a σ .junk (σ.H.set id (.var dd' true)):=by
 subst he;have hxv:=Zi (P:=P) hrep 0 x;have hyv:=Zst hn (Zi (P:=P) hrep t y);rw[hx] at hxv;obtain⟨b,hm,hv,hxv⟩:=ZeK hxv;obtain⟨b',cs,t',h1,h2,h3,h4⟩:=ok.ent id _ _ hH hm;cases h1;obtain⟨p1,p2,p3,h5,h6,h7,h8⟩:=Qm path dd hs hs' C1 off' sub _ hg hc h3;have hcells:=X7 hsol hyv;obtain⟨h9,h10⟩:=h8 new dd' _ hp hsz hcells;have hl1:(a.eval y).cells.toList.length=new.size:=YZ _ _ hcells;have hl2:p2.length=sub.size:=YZ _ _ h7;have hll:(a.eval y).cells.toList.length=p2.length:=by rw[hl1,hl2,hsz]
 obtain⟨k1,k2⟩:=ZiK h5 hll h4;rw[h6] at k1 k2
 have hnl:off'+(a.eval y).cells.toList.length≤cs.size:=by
  have:=congrArg List.length h5;simp only[yae,yas,yr] at this;omega
 have hone:∀u,u∈(a.eval y).cells.toList→u.oneCell'=true:=Zkb new _ hsol hcells;have hst:=run_storeCells_at P b off' t' (a.eval y).cells.toList 0 cs σ.w h2 (by simpa using hnl) hone;simp only[Nat.add_zero] at hst;let ncs:Array yh:=(cs.toList.take off'++(a.eval y).cells.toList++cs.toList.drop (off'+(a.eval y).cells.toList.length)).toArray;let σ':Sg:={ σ with m:=σ.m.set id (some b),H:=σ.H.set id (.var dd' true),w:=σ.w.setRow b ncs};have hblk:σ'.w.heap[b]? =some (.cells ncs t' (0,0)):=setRow_heap σ.w b cs _ t' _ h2;have hoth:∀j,b≠j→σ'.w.heap[j]? =σ.w.heap[j]? :=λj hj=>setRow_other σ.w b j _ (Ne.symm hj)
 obtain⟨to,ok'⟩:=Yz (σ':=σ') (mi:=some b) (mi':=some b) ok hH hm rfl rfl rfl rfl rfl rfl rfl (by simp[σ'])
  (λj hj hne=>hoth j (λhh=>hne (by rw[hh]))) (λb' o v _ hu _=>by cases hu) (λo _ hu=>by cases hu) (.inl rfl) (λ_=>⟨rfl,dd',true,rfl⟩) (λ⟨d,st,h⟩=>by cases h)
  (λs e xs h=>by cases h) (λleaf=>⟨b,ncs,t',rfl,hblk,by rw[h10];show repD σ' dd' (ncs.toList.take dd.size);rw[show ncs.toList.take dd.size=p1++((a.eval y).cells.toList++p3) from k1];exact ZO leaf dd' _ h9,by
    rw[h10];show dd.size≤ncs.size;have:ncs.size=cs.size:=k2;omega⟩)
 refine Zdf (σ':=σ') ?_ to ok'
 cases hi':P.info? t with
 |none=>simp[hi'] at hi
 |some i=>
  have hs:(a.eval y).cells.size=i.size:=by
   rw[←yas,hl1, ←ht];simp[Program.cellsOf,hi']
  simp only[execOp,ho,hxv,Instr.storeAt,Instr.sureAddr,storeVar,sizeOf,typeInfo,Sem.run_bind,run_program,Result.andThen_ok,hi',Sem.run_pure,hs,ne_eq,not_true,if_false,hst];rfl
theorem ZKV(ok:Ok σ)(hrep:RepT σ ts a){t e:yb}{x:yn}{lo hi:Option yn}{id off n s:Nat}{path:List Nat}{dd:Dv}{st:Bool}{xs:List Pl}{C1:List Prop}{off':Nat}{l r:Option Int}
 (ho:o.op=.slice t x lo hi none) (hu:P.underlying t=some (.array n e)) (hx:Zp P ts t x=.ref id off path) (hl:ZbC P ts lo=some l) (hr:ZbC P ts hi=some r)
 (hH:σ.H[id]? =some (.var dd st)) (hg:Z3 dd path hs=some (C1,off',.p (.arr n s xs),hs')) (hc:AllP C1) (he:off'=off) (hce:P.cellsOf e=s) (hi':(P.info? e).isSome=true) (hm':n≤maxLen)
 (hcut:AllP (Yt n l r)):Ym P o a σ (.p (.sl (some true) s (We xs l r))) (σ.H.set id (.var dd false)):=by
 have hxv:=Zi (P:=P) hrep t x;rw[hx] at hxv;obtain⟨b,hm,hv,hxv⟩:=ZeK hxv;obtain⟨cs,t',p1,p2,p3,h2,h4,h5,h6,h7,h3,h8⟩:=Zm0 ok hm hH hg hc he;simp only[repD,repC] at h7;obtain⟨h9,h10,h11⟩:=h7;subst h9;let σ':Sg:={ σ with m:=σ.m.set id (some b),H:=σ.H.set id (.var dd false)};have hmset:σ'.m[id]? =some (some b):=getElem?_set_eq' hm;have hHset:σ'.H[id]? =some (.var dd false):=getElem?_set_eq' hH
 obtain⟨to,ok'⟩:=Yz (σ':=σ') (mi:=some b) (mi':=some b) ok hH hm rfl rfl rfl rfl rfl rfl rfl (ym _)
  (λ_ _ _=>rfl) (λ_ _ _ _ _ h=>h) (λo _ hu=>rfl) (.inl rfl) (λ_=>⟨rfl,dd,false,rfl⟩) (λ⟨d,st,h⟩=>by cases h)
  (λs e xs h=>by cases h) (λleaf=>⟨b,cs,t',rfl,h2,ZO leaf dd _ h3,h4⟩)
 have hcells:Xr σ'.w σ'.stab b off p2:=λj u hu=>by
  refine⟨h8 j u hu,.inr (ok.own id b hm),λj' e' g1 g2=> ?_⟩;have:j'=id:=ok'.inj j' id _ g1 hmset;subst this;rw[hHset] at g2;cases g2;rfl
 obtain⟨p,q,hb,k1,k2,rfl,rfl⟩:=V1 (P:=P) (w:=σ.w) false xs.length xs.length _ _ _ _ (Yi hrep hl) (Yi hrep hr) hcut (ym _);obtain⟨j1,j2,j3,j4,j5,j6,j7⟩:=ZrP (A:=some ⟨b,off,none⟩) (w:=σ'.w) (S:=σ'.stab) h10 (ym _) hm' (λhA=>by cases hA) (λ_=>⟨b,off,p2,rfl,repCs_mono to.leaf.cells _ _ h11,hcells⟩) k1 k2
 have hrun:(Instr.sliceAt t (a.eval x) (lo.map a.eval) (hi.map a.eval) none).run P σ.w=.ok (.slice (some (if xs.length=(l.getD 0).toNat then(⟨b,off,none⟩:Addr) else(⟨b,off,none⟩:Addr).add ((l.getD 0).toNat*s))) ((r.getD (xs.length:Int)).toNat - (l.getD 0).toNat) (xs.length - (l.getD 0).toNat)) σ.w:=by
  rw[hxv];simp[Instr.sliceAt,Instr.sureAddr,run_underlying hu,hb,ZQ hi',hce]
 have hrun2:(execOp a.eval o).run P σ.w=.ok (.value (.slice (some (if xs.length=(l.getD 0).toNat then(⟨b,off,none⟩:Addr) else(⟨b,off,none⟩:Addr).add ((l.getD 0).toNat*s))) ((r.getD (xs.length:Int)).toNat - (l.getD 0).toNat) (xs.length - (l.getD 0).toNat))) σ'.w:=by
  show _=Result.ok _ σ.w;simp only[execOp,ho,Option.map_none,Sem.run_bind,hrun,Result.andThen_ok,Sem.run_pure]
 refine ZE hrun2 to ok' ?_;rw[ZgN xs l r hcut];have:=Z7 (σ:=σ') j1 (by rw[j2];exact j3) j4 (Qh j5) j6 j7;rw[j2] at this;simpa[apply_ite] using this
end
theorem ZiL:∀{ids:List Nat},once ids=true→∀(i j id:Nat),ids[i]? =some id→ids[j]? =some id→i=j
 |[],_,i,j,id,h,_=>by simp at h
 |x::r,ho,i,j,id,hi,hj=>by
  simp only[once,yi,Bool.not_eq_true'] at ho;have hx:x ∉ r:=by simpa using ho.1
  cases i with
  |zero=>
   cases j with
   |zero=>rfl
   |succ j=>
    simp only[ybh,yj] at hi;simp only[yar] at hj;subst hi
    exact absurd (ybm hj) hx
  |succ i=>
   cases j with
   |zero=>
    simp only[ybh,yj] at hj;simp only[yar] at hi;subst hj
    exact absurd (ybm hi) hx
   |succ j=>
    simp only[yar] at hi hj;rw[ZiL ho.2 i j id hi hj]
theorem idxOf?_some{ids:List Nat}{id j:Nat}(h:ids.idxOf? id=some j):ids[j]? =some id:=by
 induction ids generalizing j with
 |nil=>simp at h
 |cons x r ih=>
  rw[List.idxOf?_cons] at h;split at h
  ·rename_i hx;cases h;have:x=id:=by simpa using hx
   simp[this]
  ·simp only[yp] at h;obtain⟨k,hk,rfl⟩:=h;simpa using ih hk
theorem idxOf?_of{ids:List Nat}(ho:once ids=true){id j:Nat}(h:ids[j]? =some id):ids.idxOf? id=some j:=by
 cases hi:ids.idxOf? id with
 |none=>
  rw[List.idxOf?_eq_none_iff] at hi
  exact absurd (ybm h) hi
 |some k=>rw[ZiL ho k j id (idxOf?_some hi) h]
theorem QE{α:Type}:∀(H:List α)(ids:List Nat)(Hb:List α),ids.length≤Hb.length→(putBack H ids Hb).length=H.length+(Hb.length - ids.length)
 |H,[],Hb,_=>by simp[putBack]
 |H,id::r,[],h=>by simp at h
 |H,id::r,e::Hb,h=>by
  simp only[yai] at h;rw[putBack,QE _ r Hb (by omega),ybc];simp
theorem WC{α:Type}:∀(H:List α)(ids:List Nat)(Hb:List α)(i:Nat),ids.length≤Hb.length→i < H.length→i ∉ ids→(putBack H ids Hb)[i]? =H[i]?
 |H,[],Hb,i,_,hi,_=>by simp only[putBack];rw[yah hi]
 |H,id::r,[],i,h,_,_=>by simp at h
 |H,id::r,e::Hb,i,h,hi,hn=>by
  simp only[yai] at h;simp only[ycf,not_or] at hn;rw[putBack,WC _ r Hb i (by omega) (by simpa using hi) hn.2,ybg,if_neg (Ne.symm hn.1)]
theorem Zdt{α:Type}:∀(H:List α)(ids:List Nat)(Hb:List α)(j id:Nat),once ids=true→ids.length≤Hb.length→(∀i,i∈ids→i < H.length)→ids[j]? =some id→(putBack H ids Hb)[id]? =Hb[j]?
 |H,[],Hb,j,id,_,_,_,h=>by simp at h
 |H,x::r,[],j,id,_,h,_,_=>by simp at h
 |H,x::r,e::Hb,j,id,ho,hl,hlt,h=>by
  simp only[once,yi,Bool.not_eq_true'] at ho;have hx:x ∉ r:=by simpa using ho.1
  simp only[yai] at hl;rw[putBack]
  cases j with
  |zero=>
   simp only[ybh,yj] at h;subst h;have hxl:x < H.length:=hlt x (yap ..);rw[WC _ r Hb x (by omega) (by simpa using hxl) hx]
   simp[hxl]
  |succ j=>
   simp only[yar] at h ⊢;exact Zdt _ r Hb j id ho.2 (by omega) (λi hi=>by rw[ybc];exact hlt i (yau _ hi)) h
theorem ZeL{α:Type}:∀(H:List α)(ids:List Nat)(Hb:List α)(j:Nat),ids.length≤Hb.length→ids.length≤j→(putBack H ids Hb)[H.length+(j - ids.length)]? =Hb[j]?
 |H,[],Hb,j,_,_=>by
  simp only[putBack,ych,Nat.sub_zero];rw[yam (by omega)]
  simp
 |H,id::r,[],j,h,_=>by simp at h
 |H,id::r,e::Hb,j,h,hj=>by
  simp only[yai] at h hj
  cases j with
  |zero=>omega
  |succ j=>
   rw[putBack];have:=ZeL (H.set id e) r Hb j (by omega) (by omega);rw[ybc] at this;simp only[yai,yar];rw[←this];congr 1;omega
theorem WX{H:List Ent}{all:List Nat}:∀{ids:List Nat}{Hin:List Ent},subEnts H all ids=some Hin→Hin.length=ids.length
 |[],Hin,h=>by simp only[subEnts,yj] at h;subst h;rfl
 |id::r,Hin,h=>by
  simp only[subEnts] at h;split at h
  ·rename_i e es _ h2;cases h;simp[WX h2]
  ·cases h
theorem WY{H:List Ent}{all:List Nat}:∀{ids:List Nat}{Hin:List Ent}{j id:Nat},subEnts H all ids=some Hin→ids[j]? =some id→
 ∃e e',H[id]? =some e∧Hin[j]? =some e'∧e.rn (toIds all)=some e'
 |[],Hin,j,id,_,hj=>by simp at hj
 |x::r,Hin,j,id,h,hj=>by
  simp only[subEnts] at h;split at h
  ·rename_i e es h1 h2;cases h
   cases j with
   |zero=>
    simp only[ybh,yj] at hj;subst hj;simp only[Option.bind_eq_some_iff] at h1;obtain⟨e0,h3,h4⟩:=h1
    exact⟨e0,e,h3,rfl,h4⟩
   |succ j=>
    simp only[yar] at hj ⊢;exact WY h2 hj
  ·cases h
theorem ZhD{f:Nat→Option Nat}:∀{H Hb:List Ent},Ent.rns f H=some Hb→Hb.length=H.length
 |[],Hb,h=>by simp only[Ent.rns,yj] at h;subst h;rfl
 |e::H,Hb,h=>by
  simp only[Ent.rns] at h;split at h
  ·rename_i y ys _ h2;cases h;simp[ZhD h2]
  ·cases h
theorem ZeM{f:Nat→Option Nat}:∀{H Hb:List Ent}{j:Nat}{e:Ent},Ent.rns f H=some Hb→H[j]? =some e→∃e',Hb[j]? =some e'∧e.rn f=some e'
 |[],Hb,j,e,_,he=>by simp at he
 |x::H,Hb,j,e,h,he=>by
  simp only[Ent.rns] at h;split at h
  ·rename_i y ys h1 h2;cases h
   cases j with
   |zero=>
    simp only[ybh,yj] at he;subst he
    exact⟨y,rfl,h1⟩
   |succ j=>
    simp only[yar] at he ⊢;exact ZeM h2 he
  ·cases h
theorem ZDO{f:Nat→Option Nat}{d d':Dv}{s:Nat}(h:d.rn f=some d'):rowN d' s=rowN d s:=by
 cases d with
 |p x=>simp only[Dv.rn,yj] at h;subst h;rfl
 |arr n t xs=>simp only[Dv.rn,yp] at h;obtain⟨ys,_,rfl⟩:=h;rfl
 |elem x=>simp only[Dv.rn,yj] at h;subst h;rfl
 |junk=>simp only[Dv.rn,yj] at h;subst h;rfl
 |_=>simp only[Dv.rn,yp] at h;obtain⟨ys,_,rfl⟩:=h;rfl
theorem ZiM{f:Nat→Option Nat}{e e':Ent}{o:Nat}(h:e.rn f=some e'):e'.unlocked o↔e.unlocked o:=by
 cases e with
 |var d st=>
  simp only[Ent.rn,yp] at h;obtain⟨d',_,rfl⟩:=h
  exact Iff.rfl
 |log s t xs=>simp only[Ent.rn,yj] at h;subst h;exact Iff.rfl
 |map t kvs=>simp only[Ent.rn,yj] at h;subst h;exact Iff.rfl
 |row v s st e d=>
  simp only[Ent.rn,yp] at h;obtain⟨d',h,rfl⟩:=h
  simp only[Ent.unlocked,ZDO h]
 |gone=>simp only[Ent.rn,yj] at h;subst h;exact Iff.rfl
theorem Zsu{f:Nat→Option Nat}{σ σ':Sg}(h:Rn f σ σ'){a:Option Nat}{e e':Ent}(he:e.rn f=some e')(hok:entOk σ a e):entOk σ' a e':=by
 cases e with
 |var d st=>
  simp only[Ent.rn,yp] at he;obtain⟨d',hd,rfl⟩:=he;obtain⟨b,cs,t,rfl,h1,h2,h3⟩:=hok;have hs:=(ZcB d d' hd).1
  exact⟨b,cs,t,rfl,by rw[h.w];exact h1,by rw[hs];exact ZcC h d d' _ hd h2,by rw[hs];exact h3⟩
 |log s t xs=>
  simp only[Ent.rn,yj] at he;subst he;rcases hok with⟨rfl,h1⟩|⟨b,cur,cap,rfl,h1,h2,h3,h4,h5,h6⟩
  ·exact .inl ⟨rfl,h1⟩
  ·exact .inr ⟨b,cur,cap,rfl,by rw[h.w];exact h1,h2,h3,h4,h5,repCs_mono h.cells xs _ h6⟩
 |map t kvs=>
  simp only[Ent.rn,yj] at he;subst he;obtain⟨b,es,clock,rfl,h1,h2,h3⟩:=hok;refine⟨b,es,clock,rfl,by rw[h.w];exact h1, ?_,h3⟩
  have key:∀(l:List (Pl×Pl))(es:List MapEntry),Zar σ l es→Zar σ' l es:=by
   intro l
   induction l with
   |nil=>intro es k;cases es <;> exact k
   |cons q r ih=>
    intro es k
    cases es with
    |nil=>exact k
    |cons e es=>exact⟨Zdo h rfl k.1,Zdo h rfl k.2.1,ih es k.2.2⟩
  obtain⟨l',p,nd,h2⟩:=h2
  exact⟨l',p,nd,key _ _ h2⟩
 |row v s st e d=>
  simp only[Ent.rn,yp] at he;obtain⟨d',hd,rfl⟩:=he;obtain⟨N,h0,h1⟩:=hok;refine⟨N,by rw[ZDO hd];exact h0, ?_⟩;rcases h1 with h1|⟨b,cur,cap,rfl,h1,h2,h3,h4,h5⟩
  ·exact .inl h1
  ·exact .inr ⟨b,cur,cap,rfl,by rw[h.w];exact h1,h2,h3,h4,ZcC h d d' _ hd h5⟩
 |gone=>simp only[Ent.rn,yj] at he;subst he;trivial
section
variable{P:yg}{o:Oper}{a:Act}{σ:Sg}{ts:List Dv}
def callee(σ:Sg)(ids:List Nat)(Hin:List Ent):Sg:=
 { F:=σ.stab,B:=λb=>σ.w.heap.size≤b∨∃j:Nat,(ids.map λid=>(σ.m[id]?).getD none)[j]? =some (some b),m:=ids.map λid=>(σ.m[id]?).getD none,H:=Hin,w:=σ.w}
theorem ZzP{ids:List Nat}{Hin:List Ent}{j id:Nat}{x:Option Nat}(h:ids[j]? =some id)(hm:σ.m[id]? =some x):(callee σ ids Hin).m[j]? =some x:=by
 show(ids.map λid=>(σ.m[id]?).getD none)[j]? =some x;rw[yaf,h];simp[hm]
theorem Xb{ids:List Nat}{Hin:List Ent}{j b:Nat}(h:(callee σ ids Hin).m[j]? =some (some b)):∃id,ids[j]? =some id∧σ.m[id]? =some (some b):=by
 have h':(ids.map λid=>(σ.m[id]?).getD none)[j]? =some (some b):=h;rw[yaf] at h';obtain⟨id,h1,h2⟩:=yp.1 h';refine⟨id,h1, ?_⟩
 cases hm:σ.m[id]? with
 |none=>rw[hm] at h2;cases h2
 |some x=>rw[hm] at h2;simp at h2;rw[h2]
theorem ZoR(ok:Ok σ){ids:List Nat}{Hin:List Ent}(ho:once ids=true)(hin:subEnts σ.H ids ids=some Hin):Rn (toIds ids) σ (callee σ ids Hin) where
 w:=rfl
 stab b o v _ h:=by
  refine⟨.inl h,λj e hj he=> ?_⟩;obtain⟨id,h1,h2⟩:=Xb hj;obtain⟨e0,e',h3,h4,h5⟩:=WY hin h1;have he':Hin[j]? =some e:=he;rw[h4] at he';cases he';exact(ZiM h5).2 (h.2 id e0 h2 h3)
 m id j hj x hx:=ZzP (idxOf?_some hj) hx
 H id j hj e he:=by
   obtain⟨e0,e',h3,h4,h5⟩:=WY hin (idxOf?_some hj);rw[he] at h3;cases h3;exact⟨e',h4,h5⟩
theorem ZFl(ok:Ok σ){ids:List Nat}{Hin:List Ent}(ho:once ids=true)(hin:subEnts σ.H ids ids=some Hin):Ok (callee σ ids Hin) where
 len:=by
  show(ids.map _).length=Hin.length;rw[yx,WX hin]
 inj i j b hi hj:=by
  obtain⟨x,h1,h2⟩:=Xb hi;obtain⟨y,h3,h4⟩:=Xb hj;have:=ok.inj x y b h2 h4;subst this;exact ZiL ho i j x h1 h3
 lt i b hi:=by
  obtain⟨x,h1,h2⟩:=Xb hi;exact ok.lt x b h2
 ent i e x he hx:=by
  have he':Hin[i]? =some e:=he;have hi:i < ids.length:=by rw[←WX hin];exact(yo.1 he').1
  obtain⟨e0,e',h3,h4,h5⟩:=WY hin (yac hi);rw[he'] at h4;cases h4
  have hm:∃y,σ.m[ids[i]]? =some y:=by
   have:ids[i] < σ.m.length:=by rw[ok.len];exact(yo.1 h3).1
   exact⟨_,yac this⟩
  obtain⟨y,hy⟩:=hm;have:=ZzP (Hin:=Hin) (yac hi) hy;rw[hx] at this;cases this;exact Zsu (ZoR ok ho hin) h5 (ok.ent _ _ _ h3 hy)
 new b hb:=.inl hb
 own i b hi:=.inr ⟨i,hi⟩
end
end Go.Ev
end
section
namespace Go.Ev
section
variable{P:yg}{o:Oper}{a:Act}{σ:Sg}{ts:List Dv}
def Zfx(σ:Sg)(ids:List Nat)(Hb:List Ent)(τ:Sg):Sg:=
 { F:=σ.F,B:=σ.B,m:=putBack σ.m ids τ.m,H:=putBack σ.H ids Hb,w:=τ.w}
theorem Zwc(ok:Ok σ){ids:List Nat}{Hin Hb:List Ent}{τ:Sg}(ho:once ids=true)(hin:subEnts σ.H ids ids=some Hin)(to:To (callee σ ids Hin) τ)(okτ:Ok τ)(hle:ids.length≤τ.H.length)
 (hb:Ent.rns (fromIds ids σ.H.length) τ.H=some Hb):
 To σ (Zfx σ ids Hb τ)∧Ok (Zfx σ ids Hb τ)∧Rn (fromIds ids σ.H.length) τ (Zfx σ ids Hb τ):=by
 have hbl:Hb.length=τ.H.length:=ZhD hb;have hml:τ.m.length=τ.H.length:=okτ.len
 have hidl:∀i,i∈ids→i < σ.H.length:=by
  intro i hi;obtain⟨j,hj,rfl⟩:=ycc hi;obtain⟨e0,_,h3,_⟩:=WY hin (yac hj);exact(yo.1 h3).1
 have hidm:∀i,i∈ids→i < σ.m.length:=λi hi=>by rw[ok.len];exact hidl i hi
 have mo:∀id,id < σ.H.length→id ∉ ids→(putBack σ.m ids τ.m)[id]? =σ.m[id]? :=λid h1 h2=>WC _ _ _ _ (by omega) (by rw[ok.len];exact h1) h2;have Ho:∀id,id < σ.H.length→id ∉ ids→(putBack σ.H ids Hb)[id]? =σ.H[id]? :=λid h1 h2=>WC _ _ _ _ (by omega) h1 h2;have ma:∀(j id:Nat),ids[j]? =some id→(putBack σ.m ids τ.m)[id]? =τ.m[j]? :=λj id h=>Zdt _ _ _ _ _ ho (by omega) hidm h;have Ha:∀(j id:Nat),ids[j]? =some id→(putBack σ.H ids Hb)[id]? =Hb[j]? :=λj id h=>Zdt _ _ _ _ _ ho (by omega) hidl h;have mn:∀j,ids.length≤j→(putBack σ.m ids τ.m)[σ.H.length+(j - ids.length)]? =τ.m[j]? :=λj h=>by rw[←ok.len];exact ZeL _ _ _ _ (by omega) h
 have Hn:∀j,ids.length≤j→(putBack σ.H ids Hb)[σ.H.length+(j - ids.length)]? =Hb[j]? :=λj h=>ZeL _ _ _ _ (by omega) h
 have three:∀id,id < σ.H.length+(τ.H.length - ids.length)→(id < σ.H.length∧id ∉ ids)∨(∃j:Nat,ids[j]? =some id)∨(∃j:Nat,ids.length≤j∧id=σ.H.length+(j - ids.length)):=by
  intro id h;by_cases h1:id < σ.H.length
  ·by_cases h2:id∈ids
   ·obtain⟨j,hj,rfl⟩:=ycc h2;exact .inr (.inl ⟨j,yac hj⟩)
   ·exact .inl ⟨h1,h2⟩
  ·exact .inr (.inr ⟨ids.length+(id - σ.H.length),by omega,by omega⟩)
 have mlen:(putBack σ.m ids τ.m).length=σ.H.length+(τ.H.length - ids.length):=by rw[QE _ _ _ (by omega),ok.len,hml]
 have fromAt:∀(j id:Nat),ids[j]? =some id→fromIds ids σ.H.length j=some id:=λj id h=>by
  have hj:j < ids.length:=(yo.1 h).1;unfold fromIds;rw[if_pos hj,h]
 have fromNew:∀j,ids.length≤j→fromIds ids σ.H.length j=some (σ.H.length+(j - ids.length)):=λj h=>by
  unfold fromIds;rw[if_neg (by omega)]
 have back:∀(id b:Nat),(putBack σ.m ids τ.m)[id]? =some (some b)→(id < σ.H.length∧id ∉ ids∧σ.m[id]? =some (some b))∨(∃j:Nat,fromIds ids σ.H.length j=some id∧τ.m[j]? =some (some b)∧(putBack σ.H ids Hb)[id]? =Hb[j]?):=by
  intro id b h;have hlt:id < σ.H.length+(τ.H.length - ids.length):=by rw[←mlen];exact(yo.1 h).1
  rcases three id hlt with⟨h1,h2⟩|⟨j,h1⟩|⟨j,h1,rfl⟩
  ·exact .inl ⟨h1,h2,by rw[←mo id h1 h2];exact h⟩
  ·exact .inr ⟨j,fromAt j id h1,by rw[←ma j id h1];exact h,Ha j id h1⟩
  ·exact .inr ⟨j,fromNew j h1,by rw[←mn j h1];exact h,Hn j h1⟩
 have keep:∀(id b:Nat),id ∉ ids→σ.m[id]? =some (some b)→τ.w.heap[b]? =σ.w.heap[b]? :=λid b h1 h2=>
  to.block b (ok.lt id b h2) (λj hj=>by
    obtain⟨id',h3,h4⟩:=Xb hj;have:=ok.inj id id' b h2 h4;subst this;exact h1 (ybm h3))
 have mapped:∀(j b:Nat),τ.m[j]? =some (some b)→(∃id,ids[j]? =some id∧σ.m[id]? =some (some b))∨σ.w.heap.size≤b:=by
  intro j b h;rcases to.same j b h with h1|h1
  ·exact .inl (Xb h1)
  ·exact .inr h1
 have stabτ:∀b o v,τ.w.cell? ⟨b,o,none⟩=some v→τ.stab b o→(Zfx σ ids Hb τ).stab b o:=by
  intro b o v hcell h;have hB:τ.B=(callee σ ids Hin).B:=to.B;have hF:τ.F=(callee σ ids Hin).F:=to.F
  have hfirst:σ.stab b o∨σ.B b:=by
   rcases h.1 with h1|h1
   ·rw[hF] at h1;exact .inl h1
   ·rw[hB] at h1;rcases h1 with h1|⟨j,hj⟩
    ·exact .inr (ok.new b h1)
    ·obtain⟨id,_,h3⟩:=Xb (σ:=σ) (Hin:=Hin) hj;exact .inr (ok.own id b h3)
  refine⟨?_,λid e hid he=> ?_⟩
  ·rcases hfirst with h1|h1
   ·exact h1.1
   ·exact .inr h1
  ·have hid':(putBack σ.m ids τ.m)[id]? =some (some b):=hid;have he':(putBack σ.H ids Hb)[id]? =some e:=he;rcases back id b hid' with⟨h1,h2,h3⟩|⟨j,h1,h2,h3⟩
   ·rw[Ho id h1 h2] at he';have hbs:=ok.lt id b h3;rcases h.1 with h4|h4
    ·rw[hF] at h4;exact h4.2 id e h3 he'
    ·rw[hB] at h4;rcases h4 with h4|⟨j,hj⟩
     ·omega
     ·obtain⟨id',h5,h6⟩:=Xb (σ:=σ) (Hin:=Hin) hj;have:=ok.inj id id' b h3 h6;subst this;exact absurd (ybm h5) h2
   ·rw[h3] at he';have hj:j < τ.H.length:=by rw[←hbl];exact(yo.1 he').1
    obtain⟨e',h4,h5⟩:=ZeM hb (yac hj);rw[he'] at h4;cases h4;exact(ZiM h5).2 (h.2 j _ h2 (yac hj))
 have rn:Rn (fromIds ids σ.H.length) τ (Zfx σ ids Hb τ):=by
  refine⟨rfl,λb o v h1 h2=>stabτ b o v h1 h2,λj id hj x hx=> ?_,λj id hj e he=> ?_⟩
  ·show(putBack σ.m ids τ.m)[id]? =some x;unfold fromIds at hj;split at hj
   ·rw[ma j id hj];exact hx
   ·cases hj;rw[mn j (by omega)];exact hx
  ·obtain⟨e',h4,h5⟩:=ZeM hb he;refine⟨e', ?_,h5⟩;show(putBack σ.H ids Hb)[id]? =some e';unfold fromIds at hj;split at hj
   ·rw[Ha j id hj];exact h4
   ·cases hj;rw[Hn j (by omega)];exact h4
 have crn:=ZoR ok ho hin
 have leaf:Leaf σ (Zfx σ ids Hb τ):=by
  refine⟨λb o v h1 h2=> ?_,λid b h1 h2=> ?_,λid s len A c h1=> ?_,λid b h1 h2=> ?_,λid v s st e d h1=> ?_⟩
  ·obtain⟨h3,h4⟩:=to.leaf.cells b o v h1 (crn.stab b o v h1 h2);exact⟨h3,stabτ b o v h3 h4⟩
  ·have hlt:id < σ.H.length:=by rw[←ok.len];exact(yo.1 h1).1
   by_cases hi:id∈ids
   ·obtain⟨j,hj,rfl⟩:=ycc hi;have hj':=yac hj;have h3:toIds ids ids[j]=some j:=idxOf?_of ho hj';obtain⟨h4,h5⟩:=to.leaf.var j b (crn.m _ _ h3 _ h1) (crn.var h3 h2);exact⟨rn.m _ _ (fromAt j _ hj') _ h4,rn.var (fromAt j _ hj') h5⟩
   ·exact⟨(mo id hlt hi).trans h1,by
     obtain⟨d,st,h2⟩:=h2;exact⟨d,st,(Ho id hlt hi).trans h2⟩⟩
  ·have h1':=h1;obtain⟨e,ys,h2,h3,h4⟩:=h1;have hlt:id < σ.H.length:=(yo.1 h2).1;by_cases hi:id∈ids
   ·obtain⟨j,hj,rfl⟩:=ycc hi;have hj':=yac hj;have h5:toIds ids ids[j]=some j:=idxOf?_of ho hj';exact rn.front (fromAt j _ hj') (to.leaf.front _ _ _ _ _ (crn.front h5 h1'))
   ·refine⟨e,ys,(Ho id hlt hi).trans h2,h3,λhl=> ?_⟩;rcases h4 hl with⟨h5,h6⟩|⟨b,cur,h5,h6,h7,h8⟩
    ·exact .inl ⟨(mo id hlt hi).trans h5,h6⟩
    ·exact .inr ⟨b,cur,(mo id hlt hi).trans h5,h6,(keep id b hi h5).trans h7,h8⟩
  ·have hlt:id < σ.H.length:=by rw[←ok.len];exact(yo.1 h1).1
   by_cases hi:id∈ids
   ·obtain⟨j,hj,rfl⟩:=ycc hi;have hj':=yac hj;have h3:toIds ids ids[j]=some j:=idxOf?_of ho hj';obtain⟨h4,h5⟩:=to.leaf.map j b (crn.m _ _ h3 _ h1) (crn.map h3 h2);exact⟨rn.m _ _ (fromAt j _ hj') _ h4,rn.map (fromAt j _ hj') h5⟩
   ·exact⟨(mo id hlt hi).trans h1,by
     obtain⟨d,st,h2⟩:=h2;exact⟨d,st,(Ho id hlt hi).trans h2⟩⟩
  ·have hlt:id < σ.H.length:=(yo.1 h1).1;by_cases hi:id∈ids
   ·obtain⟨j,hj,rfl⟩:=ycc hi;have hj':=yac hj;have h3:toIds ids ids[j]=some j:=idxOf?_of ho hj';obtain⟨d1,h4⟩:=crn.row h3 h1;obtain⟨v',st',d',h5,h6,h7⟩:=to.leaf.row _ _ _ _ _ _ h4;obtain⟨d2,h8⟩:=rn.row (fromAt j _ hj') h5;refine⟨v',st',d2,h8,h6,λhv=> ?_⟩;obtain⟨h9,h10⟩:=h7 hv;have hmm:∃x,σ.m[ids[j]]? =some x:=⟨_,yac (by rw[ok.len];exact hlt)⟩;obtain⟨x,hx⟩:=hmm;have hcx:=crn.m _ _ h3 _ hx;refine⟨by rw[hx];exact rn.m _ _ (fromAt j _ hj') _ (by rw[h9];exact hcx),λb cur hb hc=> ?_⟩;rw[hx] at hb;cases hb;exact h10 b cur hcx hc
   ·exact⟨v,st,d,(Ho id hlt hi).trans h1,ym _,λ_=>⟨mo id hlt hi,λb cur hb hc=>⟨cur,(keep id b hi hb).trans hc,rfl⟩⟩⟩
 refine⟨⟨leaf,rfl,rfl,to.os,to.tape,to.output,to.size,λb hb hn=>to.block b hb (λj hj=> ?_),λid b h=> ?_, ?_⟩,⟨?_, ?_, ?_, ?_,λb h=>ok.new b (Nat.le_trans to.size h), ?_⟩,rn⟩
 ·obtain⟨id,_,h3⟩:=Xb (σ:=σ) (Hin:=Hin) hj;exact hn id h3
 ·rcases back id b h with⟨_,_,h3⟩|⟨j,h1,h2,_⟩
  ·exact .inl h3
  ·rcases mapped j b h2 with⟨id',h3,h4⟩|h3
   ·have:=fromAt j id' h3;rw[h1] at this;cases this;exact .inl h4
   ·exact .inr h3
 ·show σ.m.length≤(putBack σ.m ids τ.m).length;rw[mlen,ok.len];omega
 ·show(putBack σ.m ids τ.m).length=(putBack σ.H ids Hb).length;rw[mlen,QE _ _ _ (by omega),hbl]
 ·intro i j b hi hj;rcases back i b hi with⟨h1,h2,h3⟩|⟨k,h1,h2,_⟩ <;> rcases back j b hj with⟨h4,h5,h6⟩|⟨l,h4,h5,_⟩
  ·exact ok.inj i j b h3 h6
  ·have hbs:=ok.lt i b h3;rcases mapped l b h5 with⟨id',h7,h8⟩|h7
   ·have:=ok.inj i id' b h3 h8;subst this;exact absurd (ybm h7) h2
   ·omega
  ·have hbs:=ok.lt j b h6;rcases mapped k b h2 with⟨id',h7,h8⟩|h7
   ·have:=ok.inj j id' b h6 h8;subst this;exact absurd (ybm h7) h5
   ·omega
  ·have:=okτ.inj k l b h2 h5;subst this;rw[h1] at h4;exact ybe h4
 ·intro i b hi;rcases back i b hi with⟨_,_,h3⟩|⟨k,_,h2,_⟩
  ·exact Nat.lt_of_lt_of_le (ok.lt i b h3) to.size
  ·exact okτ.lt k b h2
 ·intro i e x he hx;have he':(putBack σ.H ids Hb)[i]? =some e:=he;have hx':(putBack σ.m ids τ.m)[i]? =some x:=hx;have hlt:i < σ.H.length+(τ.H.length - ids.length):=by rw[←mlen];exact(yo.1 hx').1
  have viaτ:∀j,fromIds ids σ.H.length j=some i→τ.m[j]? =some x→Hb[j]? =some e→entOk (Zfx σ ids Hb τ) x e:=by
   intro j _ h2 h3;have hj:j < τ.H.length:=by rw[←hbl];exact(yo.1 h3).1
   obtain⟨e',h4,h5⟩:=ZeM hb (yac hj);rw[h3] at h4;cases h4;exact Zsu rn h5 (okτ.ent j _ x (yac hj) h2)
  rcases three i hlt with⟨h1,h2⟩|⟨j,h1⟩|⟨j,h1,rfl⟩
  ·rw[Ho i h1 h2] at he';rw[mo i h1 h2] at hx';exact ZaE leaf (λb hb'=>keep i b h2 (by rw[hx',hb'])) (ok.ent i e x he' hx')
  ·exact viaτ j (fromAt j i h1) (by rw[←ma j i h1];exact hx') (by rw[←Ha j i h1];exact he')
  ·exact viaτ j (fromNew j h1) (by rw[←mn j h1];exact hx') (by rw[←Hn j h1];exact he')
 ·intro i b hi;rcases back i b hi with⟨_,_,h3⟩|⟨k,_,h2,_⟩
  ·exact ok.own i b h3
  ·rcases mapped k b h2 with⟨id',_,h8⟩|h7
   ·exact ok.own id' b h8
   ·exact ok.new b h7
theorem ZbF{args:List yn}{tys:List yb}(hrep:RepT σ ts a)(ids:List Nat)(hl:args.length=tys.length):repVs σ ((args.zip tys).map λq=>(Zp P ts q.2 q.1).argI ids) (args.map a.eval):=by
 induction args generalizing tys with
 |nil=>simp[repVs]
 |cons x args ih=>
  cases tys with
  |nil=>simp at hl
  |cons t tys=>
   simp only[List.zip_cons_cons,yad,repVs];exact⟨_,_,rfl,Zsc ids (Zi hrep t x),ih (by simpa using hl)⟩
theorem ZGx{cap:List Dv}{cs:List yh}(h:repVs σ cap cs):repVs σ (cap.map Dv.arg) cs:=by
 induction cap generalizing cs with
 |nil=>simpa using h
 |cons d cap ih=>
  simp only[repVs] at h;obtain⟨v,vs',rfl,h1,h2⟩:=h;simp only[yad,repVs];exact⟨v,vs',rfl,ZJk h1,ih h2⟩
theorem ZaH{cap:List Dv}{cs:List yh}(ids:List Nat)(h:repVs σ cap cs):repVs σ (cap.map (Dv.argI ids)) cs:=by
 induction cap generalizing cs with
 |nil=>simpa using h
 |cons d cap ih=>
  simp only[repVs] at h;obtain⟨v,vs',rfl,h1,h2⟩:=h;simp only[yad,repVs];exact⟨v,vs',rfl,Zsc ids h1,ih h2⟩
theorem ZoS{c:Call}{f:yn}{g:yu}{fs cs:Array yh}(w:yy)(ho:o.op=.call c)(hc:c.callee=.value f)(hf:a.eval f=.func (.func g) fs cs)(hb:VE P g=true):
 (execOp a.eval o).run P w=.ok (.enter g (fs++c.args.map a.eval++cs)) w:=by
 unfold VE at hb;split at hb
 ·rename_i fn hfn;simp only[yi,Bool.not_eq_true'] at hb;have h1:¬fn.name= "runtime.NumGoroutine" :=by simpa using hb.2
  have h2:fn.body.isNone=false:=by cases hh:fn.body <;> simp[hh] at hb ⊢
  simp only[execOp,ho,resolve,hc,hf,Deferred.ofValue,Sem.run_bind,Sem.run_pure,Result.andThen_ok,invoke,callFunc,run_program,hfn];simp[h1,h2]
 ·cases hb
theorem ZGy{fn:Func}(h:fn.name= "internal/bytealg.Compare"):Extern.find fn=some Extern.BytealgCompare.compare:=by
 have e1:Extern.allGenericRows.lookup "internal/bytealg.Compare" =none:=by kernel_rfl
 have e2:Extern.allTypedRows.lookup "internal/bytealg.Compare" =none:=by kernel_rfl
 have e3:Extern.allRows.lookup "internal/bytealg.Compare" =some Extern.BytealgCompare.compare:=by kernel_rfl
 unfold Extern.find;dsimp only;rw[h,e1,e2,e3];rfl
theorem ZGz{c:Call}{f:yn}{g:yu}{cs:Array yh}{v:yh}(w:yy)(ho:o.op=.call c)(hc:c.callee=.value f)(hf:a.eval f=.func (.func g) #[] cs)(hb:ZlJ P g=true)
 (hr:(Extern.BytealgCompare.compare (c.args.map a.eval++cs)).run P w=.ok v w):(execOp a.eval o).run P w=.ok (.value v) w:=by
 unfold ZlJ at hb;rw[yi] at hb
 replace hb:=hb.2
 split at hb
 ·rename_i fn hfn;simp only[yi,beq_iff_eq,Option.isNone_iff_eq_none] at hb;have hcl:=run_callFunc_extern (P:=P) hfn (by rw[hb.1.1];rfl) (by rw[hb.1.2];rfl) hb.2 (ZGy hb.1.1) (c.args.map a.eval++cs) w;rw[hr] at hcl;simp only[execOp,ho,resolve,hc,hf,Deferred.ofValue,Sem.run_bind,Sem.run_pure,Result.andThen_ok,invoke];rw[Array.empty_append];exact hcl
 ·cases hb
theorem ZB6{g:yu}(w:yy)(args:Array yh)(hb:VE P g=true):(callFunc g args).run P w=.ok (.enter g args) w:=by
 unfold VE at hb;split at hb
 ·rename_i fn hfn;simp only[yi,Bool.not_eq_true'] at hb;have h1:¬fn.name= "runtime.NumGoroutine" :=by simpa using hb.2
  have h2:fn.body.isNone=false:=by cases hh:fn.body <;> simp[hh] at hb ⊢
  simp only[callFunc,Sem.run_bind,run_program,Result.andThen_ok,hfn];simp[h1,h2]
 ·cases hb
theorem ZoT(ok:Ok σ){g:yu}{ds args':List Dv}{av:Array yh}{ids:List Nat}{Hin H' Hb:List Ent}{r r':Dv}(hx:(execOp a.eval o).run P σ.w=.ok (.enter g av) σ.w)(hav:repVs σ ds av.toList)
 (honce:once ids=true) (hle:ids.length≤H'.length) (hargs:Dv.rns (toIds ids) ds=some args')
 (hin:subEnts σ.H ids ids=some Hin) (hr:r.rn (fromIds ids σ.H.length)=some r') (hb:Ent.rns (fromIds ids σ.H.length) H'=some Hb) (hcon:Con P g args' Hin r H'):Ym P o a σ r' (putBack σ.H ids Hb):=by
 have hc:=hcon (callee σ ids Hin) _ (ZFl ok honce hin) rfl (repVs_rn (ZoR ok honce hin) _ _ _ hargs hav);intro K Q hK;unfold Oper.wp;rw[hx];simp only[Oper.upon];rw[ybx] at hc;refine hc.mono ?_;rintro e w' ⟨v,τ,rfl,rfl,hH,to,okτ,hv⟩;subst hH;obtain⟨to',ok',rn⟩:=Zwc ok honce hin to okτ hle hb;exact hK v (Zfx σ ids Hb τ) rfl to' ok' (Zdo rn hr hv)
theorem ZJq(hrep:RepT σ ts a){c:Call}{f:yn}{g:yu}{cap:List Dv}(ids:List Nat)(hf:Zp P ts 0 f=.fn g cap)(hsz:c.args.size=c.argTypes.size):
 ∃fs cs,a.eval f=.func (.func (ZaC g)) fs cs∧repVs σ (ZM P ids ts c g cap) (fs++c.args.map a.eval++cs).toList:=by
 have hfv:=Zi (P:=P) hrep 0 f;rw[hf] at hfv;obtain⟨fs,cs,hfe,h0,hcs⟩:=Zsl hfv;refine⟨fs,cs,hfe, ?_⟩;unfold ZM;by_cases hg:g < big
 ·rw[if_pos hg] at h0 ⊢;subst h0;rw[Array.empty_append] at hcs ⊢;rw[Array.toList_append,ycm];exact Xy (ZbF hrep ids (by simpa using hsz)) (ZaH ids hcs)
 ·rw[if_neg hg] at h0 ⊢;subst h0;rw[Array.append_empty] at hcs ⊢;rw[Array.toList_append,ycm];exact Xy (ZaH ids hcs) (ZbF hrep ids (by simpa using hsz))
theorem Zsv(ok:Ok σ)(hrep:RepT σ ts a){c:Call}{f:yn}{g:yu}{cap args':List Dv}{ids:List Nat}{Hin H' Hb:List Ent}{r r':Dv}(ho:o.op=.call c)(hcal:c.callee=.value f)
 (hf:Zp P ts 0 f=.fn g cap) (hbod:VE P (ZaC g)=true) (hsz:c.args.size=c.argTypes.size) (honce:once ids=true) (hle:ids.length≤H'.length) (hargs:Dv.rns (toIds ids) (ZM P ids ts c g cap)=some args')
 (hin:subEnts σ.H ids ids=some Hin) (hr:r.rn (fromIds ids σ.H.length)=some r') (hb:Ent.rns (fromIds ids σ.H.length) H'=some Hb) (hcon:Con P (ZaC g) args' Hin r H'):Ym P o a σ r' (putBack σ.H ids Hb):=by
 have hfv:=Zi (P:=P) hrep 0 f;rw[hf] at hfv;obtain⟨fs,cs,hfe,h0,hcs⟩:=Zsl hfv
 have hav:repVs σ (ZM P ids ts c g cap) (fs++c.args.map a.eval++cs).toList:=by
  unfold ZM;by_cases hg:g < big
  ·rw[if_pos hg] at h0 ⊢;subst h0;rw[Array.empty_append] at hcs ⊢;rw[Array.toList_append,ycm];exact Xy (ZbF hrep ids (by simpa using hsz)) (ZaH ids hcs)
  ·rw[if_neg hg] at h0 ⊢;subst h0;rw[Array.append_empty] at hcs ⊢;rw[Array.toList_append,ycm];exact Xy (ZaH ids hcs) (ZbF hrep ids (by simpa using hsz))
 exact ZoT ok (ZoS σ.w ho hcal hfe hbod) hav honce hle hargs hin hr hb hcon
theorem Zxr(ok:Ok σ)(hrep:RepT σ ts a){c:Call}{recv:yn}{name:String}{t:yb}{x:Dv}{g:yu}{args':List Dv}{ids:List Nat}{Hin H' Hb:List Ent}{r r':Dv}(ho:o.op=.call c)(hcal:c.callee=.invoke recv name)
 (hf:Zp P ts 0 recv=.iface t x) (hbod:VE P g=true) (hsz:c.args.size=c.argTypes.size) (honce:once ids=true) (hle:ids.length≤H'.length) (hargs:Dv.rns (toIds ids) (x.argI ids::ZM P ids ts c 0 [])=some args')
 (hin:subEnts σ.H ids ids=some Hin) (hr:r.rn (fromIds ids σ.H.length)=some r') (hb:Ent.rns (fromIds ids σ.H.length) H'=some Hb) (hm:ZFb P t name g) (hcon:Con P g args' Hin r H'):Ym P o a σ r' (putBack σ.H ids Hb):=by
 have hfv:=Zi (P:=P) hrep 0 recv;rw[hf,Ze rfl] at hfv;simp only[repD] at hfv;obtain⟨v,hv,h1,h2⟩:=hfv;have hv:a.eval recv=.iface t v:=by simpa using hv
 have hxv:repDV σ x v:=⟨h1,h2⟩
 have hav:repVs σ (x.argI ids::ZM P ids ts c 0 []) (#[v]++c.args.map a.eval).toList:=by
  rw[Array.toList_append,ycm];show repVs σ _ (v::c.args.toList.map a.eval);rw[repVs];refine⟨v,_,rfl,Zsc ids hxv, ?_⟩;unfold ZM;rw[if_pos (by decide),List.map_nil,List.append_nil];exact ZbF hrep ids (by simpa using hsz)
 have hx:(execOp a.eval o).run P σ.w=.ok (.enter g (#[v]++c.args.map a.eval)) σ.w:=by
  have e:=hm v (c.args.map a.eval) σ.w;rw[ZB6 σ.w _ hbod] at e;rw[←e];have e1:(#[Value.iface t v]++c.args.map a.eval)[0]? =some (.iface t v):=by simp[Array.getElem?_append]
  have e2:(#[Value.iface t v]++c.args.map a.eval).extract 1 (#[Value.iface t v]++c.args.map a.eval).size=c.args.map a.eval:=by
   apply Array.ext';simp;rw[ycn (by simp)]
  simp only[execOp,ho,resolve,hcal,hv,Sem.run_bind,Sem.run_pure,Result.andThen_ok,invoke,e1,e2]
 exact ZoT ok hx hav honce hle hargs hin hr hb hcon
mutual
theorem Zsw{w w':yy}{S S':Nat→Nat→Prop}:∀(x:Pl)(vs:List yh),x.flat=true→repC w S x vs→repC w' S' x vs
 |.int _ _,_,_,h=>by simpa[repC] using h
 |.bool _,_,_,h=>by simpa[repC] using h
 |.agg xs,vs,hf,h=>by
  simp only[repC] at h ⊢
  exact flats_any xs vs hf h
 |.arr n s xs,vs,hf,h=>by
  simp only[repC] at h ⊢
  exact⟨h.1,h.2.1,flats_any xs vs hf h.2.2⟩
 |.str _,_,hf,_=>by cases hf
 |.ptr0,_,hf,_=>by cases hf
 |.fn0,_,hf,_=>by cases hf
 |.if0,_,hf,_=>by cases hf
 |.map0,_,hf,_=>by cases hf
 |.fnv _,_,hf,_=>by cases hf
 |.sl _ _ _,_,hf,_=>by cases hf
 |.iface _ _,_,hf,_=>by cases hf
theorem flats_any{w w':yy}{S S':Nat→Nat→Prop}:∀(xs:List Pl)(vs:List yh),Pl.flats xs=true→repCs w S xs vs→repCs w' S' xs vs
 |[],_,_,h=>by simpa[repCs] using h
 |x::xs,vs,hf,h=>by
  simp only[Pl.flats,yi] at hf;simp only[repCs] at h ⊢;obtain⟨us,us',h1,h2,h3⟩:=h;exact⟨us,us',h1,Zsw x us hf.1 h2,flats_any xs us' hf.2 h3⟩
end
theorem ZJr{σ σ':Sg}{x:Pl}{v:yh}(hf:x.flat=true)(h:repDV σ (.p x) v):repDV σ' (.p x) v:=by
 obtain⟨h1,h2⟩:=h;refine⟨λq=> ?_,λq=> ?_⟩
 ·obtain⟨cs,e1,e2⟩:=h1 q;refine⟨cs,e1, ?_⟩;simp only[repD] at e2 ⊢;exact Zsw x _ hf e2
 ·have:=h2 q;simp only[repD] at this ⊢;exact Zsw x _ hf this
theorem ZJs(ok:Ok σ):Ok (ZoJ σ) where
 len:=rfl
 inj i j b h:=by simp[ZoJ] at h
 lt i b h:=by simp[ZoJ] at h
 ent i e a h:=by simp[ZoJ] at h
 new b h:=h
 own i b h:=by simp[ZoJ] at h
theorem ZFm(ok:Ok σ)(hrep:RepT σ ts a){c:Call}{f:yn}{g:yu}{cap:List Dv}{ps:List Pl}{r:Pl}(ho:o.op=.call c)(hcal:c.callee=.value f)
 (hf:Zp P ts 0 f=.fn g cap) (hbod:VE P (ZaC g)=true) (hsz:c.args.size=c.argTypes.size) (hflat:r.flat=true) {id:Nat} (hl:Lent id (rdE (σ.H[id]?)) (ZM P [] ts c g cap) ps)
 (hcon:Con P (ZaC g) (ps.map Dv.p) [] (.p r) []):Ym P o a σ (.p r) σ.H:=by
 have hfv:=Zi (P:=P) hrep 0 f;rw[hf] at hfv;obtain⟨fs,cs,hfe,h0,hcs⟩:=Zsl hfv
 have hav:repVs σ (ZM P [] ts c g cap) (fs++c.args.map a.eval++cs).toList:=by
  unfold ZM;by_cases hg:g < big
  ·rw[if_pos hg] at h0 ⊢;subst h0;rw[Array.empty_append] at hcs ⊢;rw[Array.toList_append,ycm];exact Xy (ZbF hrep [] (by simpa using hsz)) (ZaH [] hcs)
  ·rw[if_neg hg] at h0 ⊢;subst h0;rw[Array.append_empty] at hcs ⊢;rw[Array.toList_append,ycm];exact Xy (ZaH [] hcs) (ZbF hrep [] (by simpa using hsz))
 have hc:=hcon (ZoJ σ) _ (ZJs ok) rfl (hl σ _ ok rfl hav);intro K Q hK;unfold Oper.wp;rw[ZoS σ.w ho hcal hfe hbod];simp only[Oper.upon];rw[ybx] at hc;refine hc.mono ?_;rintro e w' ⟨v,τ,rfl,rfl,hH,to,okτ,hv⟩
 have hlt:∀(b o:Nat)(v:yh),σ.w.cell? ⟨b,o,none⟩=some v→b < σ.w.heap.size:=λb o v h=>by
  rcases ybp b σ.w.heap.size with q|q
  ·exact q
  ·simp[World.cell?,Array.getElem?_eq_none q] at h
 have to':To (callee σ [] []) { callee σ [] [] with w:=τ.w}:={
  leaf:=⟨λb o v h1 h2=>⟨(to.leaf.cells b o v h1 ⟨.inl (hlt b o v h1),λid e q=>by simp[ZoJ] at q⟩).1,h2⟩,
   λid b h=>by simp[callee] at h,λid s len A c h=>by obtain⟨e,ys,h1,_⟩:=h;simp[callee] at h1,λid b h=>by simp[callee] at h,λid v s st e d h=>by simp[callee] at h⟩
  F:=rfl
  B:=rfl
  os:=to.os
  tape:=to.tape
  output:=to.output
  size:=to.size
  block:=λb h _=>to.block b h (λid q=>by simp[ZoJ] at q)
  same:=λid b h=>by simp[callee] at h
  len:=ym _}
 have ok':Ok { callee σ [] [] with w:=τ.w}:={
  len:=rfl
  inj:=λi j b h=>by simp[callee] at h
  lt:=λi b h=>by simp[callee] at h
  ent:=λi e a h=>by simp[callee] at h
  new:=λb h=>.inl (Nat.le_trans to.size h)
  own:=λi b h=>by simp[callee] at h}
 obtain⟨to2,ok2,_⟩:=Zwc (ids:=[]) (Hin:=[]) (Hb:=[]) ok rfl rfl to' ok' (ym _) rfl;exact hK v (Zfx σ [] [] { callee σ [] [] with w:=τ.w}) (by simp[Zfx,putBack]) to2 ok2 (ZJr hflat hv)
theorem ZM2(ok:Ok σ)(hrep:RepT σ ts a){c:Call}{f:yn}{hs hs':List Hint}{C:List Prop}{d:Dv}(ho:o.op=.call c)(hcal:c.callee=.value f)(h:evR P o ts σ.H hs=some (C,d,hs'))(hc:AllP C):Ym P o a σ d σ.H:=by
 simp only[evR,ho,hcal] at h;split at h
 ·rename_i g cap ps r hs2 hf;split at h
  ·split at h
   ·rename_i hk;simp only[yi,beq_iff_eq] at hk;simp only[yj,yl] at h;obtain⟨rfl,rfl,rfl⟩:=h;exact ZFm ok hrep ho hcal hf hk.1.1 hk.1.2 hk.2 hc.1 hc.2.1
   ·cases h
  ·cases h
 ·cases h
end
end Go.Ev
end
section
namespace Go.Ev
theorem Zsx{w:yy}{S:Nat→Nat→Prop}{n s:Nat}{xs:List Pl}{us:List yh}(h:repC w S (.arr n s xs) us):xs.length=n∧allSz s xs∧repCs w S xs us:=by
 simpa[repC] using h
theorem Zp1{P:yg}{σ:Sg}{d n:Nat}{e:yb}{s:Nat}(hs:P.cellsOf e=s)(hs0:s≠0)(hi:(P.info? e).isSome=true)(hu:(P.underlying e).isSome=true)
 (ih:∀(x y:Pl)(a b:yh),fitP P n e x→fitP P n e y→repDV σ (.p x) a→repDV σ (.p y) b→∃r:Bool,(Op.equalIn d e a b).run P σ.w=.ok r σ.w∧(r=true↔x=y))
 {cs cs':Array yh} {m:Nat}:∀(xs ys:List Pl)(i:Nat)(p p' us vs:List yh),(∀y,y∈xs→fitP P n e y∧y.size=s∧Y5 P e=y.isAgg)→(∀y,y∈ys→fitP P n e y∧y.size=s∧Y5 P e=y.isAgg)→
  cs.toList=p++us→cs'.toList=p'++vs→p.length=i*s→p'.length=i*s→repCs σ.w σ.stab xs us→repCs σ.w σ.stab ys vs→xs.length=m→ys.length=m→
  ∃r:Bool,(Op.eqItems d e s cs cs' (List.range' i m)).run P σ.w=.ok r σ.w∧(r=true↔xs=ys)
 |[],ys,i,p,p',us,vs,_,_,_,_,_,_,_,_,h1,h2=>by
  subst h1;have:ys=[]:=yaz h2;subst this
  exact⟨true,by simp[Op.eqItems],by simp⟩
 |x::xs,[],_,_,_,_,_,_,_,_,_,_,_,_,_,h1,h2=>by simp at h1 h2;omega
 |x::xs,y::ys,i,p,p',us,vs,hx,hy,e1,e2,l1,l2,r1,r2,h1,h2=>by
  obtain⟨m',rfl⟩:∃m',m=m'+1:=⟨xs.length,by simpa using h1.symm⟩;simp only[repCs] at r1 r2;obtain⟨u1,u2,rfl,q1,q2⟩:=r1;obtain⟨v1,v2,rfl,q3,q4⟩:=r2;obtain⟨f1,f2,f3⟩:=hx x (yap ..);obtain⟨g1,g2,g3⟩:=hy y (yap ..);obtain⟨a,ha,ra⟩:=QD (P:=P) (σ:=σ) (t:=e) (d:=.p x) e1 (by simpa[repD] using q1) (by rw[hs];exact f2.symm) hi hu f3 (by show x.size≠0;omega);obtain⟨b,hb,rb⟩:=QD (P:=P) (σ:=σ) (t:=e) (d:=.p y) e2 (by simpa[repD] using q3) (by rw[hs];exact g2.symm) hi hu g3 (by show y.size≠0;omega);rw[l1] at ha;rw[l2] at hb;obtain⟨r,hr,hiff⟩:=ih x y a b f1 g1 ra rb;have s1:=Xe _ _ q1;have s2:=Xe _ _ q3
  obtain⟨r',hr',hiff'⟩:=Zp1 hs hs0 hi hu ih xs ys (i+1) (p++u1) (p'++v1) u2 v2 (λz hz=>hx z (yau _ hz)) (λz hz=>hy z (yau _ hz))
   (by rw[e1,yak]) (by rw[e2,yak]) (by rw[yr,l1,s1,f2,yat,Nat.one_mul]) (by rw[yr,l2,s2,g2,yat,Nat.one_mul]) q2 q4 (by simpa using h1) (by simpa using h2)
  rw[List.range'_succ];simp only[Op.eqItems,Sem.run_bind,ha,hb,hr,Result.andThen_ok];cases r
  ·exact⟨false,by simp,by simp;intro e;exact absurd (hiff.2 e) (by simp)⟩
  ·refine⟨r',by simpa using hr', ?_⟩;rw[hiff'];simp[hiff.1 rfl]
theorem Zm1{P:yg}{σ:Sg}{d:Nat}{R:yb→Pl→Prop}
 (ih:∀(t:yb)(x y:Pl)(a b:yh),R t x→R t y→repDV σ (.p x) a→repDV σ (.p y) b→∃r:Bool,(Op.equalIn d t a b).run P σ.w=.ok r σ.w∧(r=true↔x=y))
 {cs cs':Array yh}:∀(fs:List Field)(xs ys:List Pl)(o:Nat)(p p' us vs:List yh),ZfY P R fs o xs→ZfY P R fs o ys→
  cs.toList=p++us→cs'.toList=p'++vs→p.length=o→p'.length=o→repCs σ.w σ.stab xs us→repCs σ.w σ.stab ys vs→
  ∃r:Bool,(Op.eqFields d cs cs' fs).run P σ.w=.ok r σ.w∧(r=true↔xs=ys)
 |[],[],[],_,_,_,_,_,_,_,_,_,_,_,_,_=>⟨true,by simp[Op.eqFields],by simp⟩
 |[],_::_,_,_,_,_,_,_,h,_,_,_,_,_,_,_=>by simp[ZfY] at h
 |[],[],_::_,_,_,_,_,_,_,h,_,_,_,_,_,_=>by simp[ZfY] at h
 |_::_,[],_,_,_,_,_,_,h,_,_,_,_,_,_,_=>by simp[ZfY] at h
 |_::_,_::_,[],_,_,_,_,_,_,h,_,_,_,_,_,_=>by simp[ZfY] at h
 |f::fs,x::xs,y::ys,o,p,p',us,vs,hx,hy,e1,e2,l1,l2,r1,r2=>by
  simp only[ZfY] at hx hy;obtain⟨a1,a2,a3,a4,a5,a6,a7,a8,a9⟩:=hx;obtain⟨_,_,b3,_,_,b6,b7,b8,b9⟩:=hy;simp only[repCs] at r1 r2;obtain⟨u1,u2,rfl,q1,q2⟩:=r1;obtain⟨v1,v2,rfl,q3,q4⟩:=r2;obtain⟨a,ha,ra⟩:=QD (P:=P) (σ:=σ) (t:=f.type) (d:=.p x) e1 (by simpa[repD] using q1) a3 a4 a5 a6 a7;obtain⟨b,hb,rb⟩:=QD (P:=P) (σ:=σ) (t:=f.type) (d:=.p y) e2 (by simpa[repD] using q3) b3 a4 a5 b6 b7;rw[l1, ←a2] at ha;rw[l2, ←a2] at hb;obtain⟨r,hr,hiff⟩:=ih f.type x y a b a8 b8 ra rb;have s1:=Xe _ _ q1;have s2:=Xe _ _ q3;have hxy:x.size=y.size:=a3.symm.trans b3
  obtain⟨r',hr',hiff'⟩:=Zm1 ih fs xs ys (o+x.size) (p++u1) (p'++v1) u2 v2 a9 (by rw[hxy];exact b9)
   (by rw[e1,yak]) (by rw[e2,yak]) (by rw[yr,l1,s1]) (by rw[yr,l2,s2,hxy]) q2 q4
  simp only[Op.eqFields,a1,ne_eq,not_false_eq_true,if_true,Sem.run_bind,ha,hb,hr,Result.andThen_ok];cases r
  ·exact⟨false,by simp,by simp;intro e;exact absurd (hiff.2 e) (by simp)⟩
  ·refine⟨r',by simpa using hr', ?_⟩;rw[hiff'];simp[hiff.1 rfl]
theorem ZiN{P:yg}{σ:Sg}:∀(n:Nat)(t:yb)(x y:Pl)(a b:yh),fitP P n t x→fitP P n t y→repDV σ (.p x) a→repDV σ (.p y) b→
 ∀d,∃r:Bool,(Op.equalIn (d+n) t a b).run P σ.w=.ok r σ.w∧(r=true↔x=y)
 |0,_,_,_,_,_,h,_,_,_,_=>by simp[fitP] at h
 |n+1,t,x,y,a,b,hx,hy,ra,rb,d=>by
  unfold fitP at hx hy;split at hx
  ·rename_i hu;rw[hu] at hy;split at hy <;> rename_i e1 <;> simp only[reduceCtorEq,yj] at e1
   all_goals first
    |(rw[Yk ra,Yk rb]
      exact⟨_,run_equalIn_bool' σ.w (d+n) t _ _ hu,by simp⟩)
    |exact hy.elim
  ·rename_i k k' z hu;rw[hu] at hy;split at hy <;> rename_i e1 <;> simp only[reduceCtorEq,yj,TypeDesc.int.injEq] at e1
   all_goals first
    |(subst hx;subst hy;subst e1
      rw[ZD ra,ZD rb]
      exact⟨_,run_equalIn_int σ.w (d+n) t _ _ _ _ hu,by simp⟩)
    |exact hy.elim
  ·rename_i m e m' s xs hu;rw[hu] at hy;split at hy <;> rename_i e1 <;> simp only[reduceCtorEq,yj,TypeDesc.array.injEq] at e1
   ·rename_i s2 ys;obtain⟨rfl,rfl⟩:=e1;obtain⟨rfl,h1,h2,h3,h4,h5⟩:=hx;obtain⟨rfl,g1,_,_,_,g5⟩:=hy;obtain rfl:s=s2:=h1.symm.trans g1;rw[ZZ (by rfl)] at ra rb;obtain⟨cs,rfl,ra⟩:=ra;obtain⟨cs',rfl,rb⟩:=rb;simp only[repD] at ra rb;obtain⟨n1,_,ra⟩:=Zsx ra;obtain⟨n2,_,rb⟩:=Zsx rb;obtain⟨i,hi⟩:=Option.isSome_iff_exists.1 h3;obtain⟨r,hr,hiff⟩:=Zp1 (P:=P) (σ:=σ) (d:=d+n) (n:=n) (e:=e) (s:=s) h1 h2 h3 h4 (λx y a b hx hy ra rb=>ZiN n e x y a b hx hy ra rb d) xs ys 0 [] [] cs.toList cs'.toList h5 g5 rfl rfl (by simp) (by simp) ra rb n1 n2;refine⟨r, ?_,by rw[hiff];simp⟩;rw[show d+(n+1)=(d+n)+1 from rfl,run_equalIn_array σ.w (d+n) cs cs' hu hi,List.range_eq_range',h1]
    exact hr
   all_goals first
    |exact hy.elim
  ·rename_i fs xs hu;rw[hu] at hy;split at hy <;> rename_i e1 <;> simp only[reduceCtorEq,yj,TypeDesc.struct.injEq] at e1
   all_goals first
    |exact hy.elim
    |skip
   rename_i ys;subst e1;obtain⟨h1,h2⟩:=hx;obtain⟨_,g2⟩:=hy;rw[ZZ (by rfl)] at ra rb;obtain⟨cs,rfl,ra⟩:=ra;obtain⟨cs',rfl,rb⟩:=rb;simp only[repD,repC] at ra rb;have hfs:P.fieldsOf t=fs:=by simp[Program.fieldsOf,hu]
   obtain⟨r,hr,hiff⟩:=Zm1 (P:=P) (σ:=σ) (d:=d+n) (R:=fitP P n) (λt x y a b hx hy ra rb=>ZiN n t x y a b hx hy ra rb d) fs.toList xs ys 0 [] [] cs.toList cs'.toList h2 g2 rfl rfl rfl rfl ra rb;refine⟨r, ?_,by rw[hiff];simp⟩;rw[show d+(n+1)=(d+n)+1 from rfl,run_equalIn_struct σ.w (d+n) t cs cs' (by rw[hfs];exact hu) h1,hfs]
   exact hr
  ·exact hx.elim
theorem ZoU{P:yg}{σ:Sg}{t:yb}{x y:Pl}{a b:yh}(hx:fitP P 20 t x)(hy:fitP P 20 t y)(ra:repDV σ (.p x) a)(rb:repDV σ (.p y) b){β:Bool}(h:β=true↔x=y):
 (Op.equal t a b).run P σ.w=.ok β σ.w:=by
 obtain⟨r,hr,hiff⟩:=ZiN 20 t x y a b hx hy ra rb 9980;have:r=β:=by rw[Bool.eq_iff_iff,hiff,h]
 subst this;exact hr
def ZgR:yh→Bool
 |.bool _|.pointer _|.slice _ _ _|.func _ _ _|.nilFunc=>true
 |_=>false
theorem Zsy{op:BinOp}{t:yb}{x y:yn}{a b:yh}(h:ZgR a=true):eqGuard op t x y a b=pure ():=by
 cases op <;> cases a <;> first|rfl|(simp[ZgR] at h)
theorem Zxs{t:yb}{a b:yh}(h:ZgR a=true):binOp .eql t a b=(do pure (.bool (←Op.equal t a b))):=by
 cases a <;> first|(simp[ZgR] at h;done)|(cases b <;> rfl)
theorem Zxt{t:yb}{a b:yh}(h:ZgR a=true):binOp .neq t a b=(do pure (.bool (!(←Op.equal t a b)))):=by
 cases a <;> first|(simp[ZgR] at h;done)|(cases b <;> rfl)
theorem Wu{P:yg}{t:yb}{a b:yh}{r:Bool}{w:yy}(h:∀n,(Op.equalIn (n+1) t a b).run P w=.ok r w):(Op.equal t a b).run P w=.ok r w:=h 9999
theorem Zp2{P:yg}{t:yb}{x y:Dv}{hs hs':List Hint}{C:List Prop}{r:Bool}(h:ZhB P t x y hs=some (C,r,hs'))(hc:AllP C){σ:Sg}{a b:yh}
 (ha:repDV σ x a) (hb:repDV σ y b):(Op.equal t a b).run P σ.w=.ok r σ.w∧(ZgR a=true∨((∃cs,a=.agg cs)∧(∃cs,b=.agg cs)∧P.eqGuardType P.depth t=false)):=by
 unfold ZhB at h;have step:∀(d:TypeDesc),P.underlying t=some d→(underlying t).run P σ.w=.ok d σ.w:=λd hd=>run_underlying hd σ.w;split at h
 all_goals first
  |(cases h;done)
  |skip
 rotate_right 2
 iterate 2
  ·split at h
   ·split at h
    ·rename_i hg;simp only[yj,yl] at h;obtain⟨rfl,rfl,rfl⟩:=h;obtain⟨c1,c2,c3,_⟩:=hc;refine⟨ZoU c1 c2 ha hb c3,.inr ⟨?_, ?_,hg⟩⟩
     ·obtain⟨cs,e,_⟩:=(ZZ (by rfl)).1 ha;exact⟨cs,e⟩
     ·obtain⟨cs,e,_⟩:=(ZZ (by rfl)).1 hb;exact⟨cs,e⟩
    ·cases h
   ·cases h
 case' h_9=>
  rename_i hu;split at h
  ·simp only[yj,yl] at h;obtain⟨rfl,rfl,rfl⟩:=h;obtain⟨_,A,c,rfl,_,_,_,_,h6⟩:=Y9 ha;obtain⟨_,B,c',rfl,_,_,hB,_⟩:=Y9 hb;have hB':B=none:=by simpa using hB false rfl
   subst hB';obtain⟨b0,o0,us,rfl,_⟩:=h6 hc.1;exact⟨Wu λn=>by simp[Op.equalIn,step _ hu],.inl rfl⟩
  ·cases h
 case' h_10=>
  rename_i hu;split at h
  ·simp only[yj,yl] at h;obtain⟨rfl,rfl,rfl⟩:=h;obtain⟨_,A,c,rfl,_,_,_,_,h6,_⟩:=Qj ha;obtain⟨_,B,c',rfl,_,_,hB,_⟩:=Y9 hb;have hB':B=none:=by simpa using hB false rfl
   subst hB';obtain⟨b0,o0,us,rfl,_⟩:=h6 hc.1;exact⟨Wu λn=>by simp[Op.equalIn,step _ hu],.inl rfl⟩
  ·cases h
 all_goals
  rename_i hu;simp only[yj,yl] at h;obtain⟨rfl,rfl,rfl⟩:=h;refine(λq:_∧_=>⟨q.1,.inl q.2⟩) ?_
 ·rw[Yk ha,Yk hb];exact⟨Wu λn=>by simp[Op.equalIn,step _ hu],rfl⟩
 ·rw[Zdm hb];rw[Ze (by rfl)] at ha;simp only[repD,List.cons.injEq,and_true] at ha;obtain⟨b',_,_,rfl⟩:=ha;exact⟨Wu λn=>by simp[Op.equalIn,step _ hu],rfl⟩
 ·rw[Zdm hb];rw[Ze (by rfl)] at ha;simp only[repD,List.cons.injEq,and_true] at ha;obtain⟨b',o',us,rfl,_⟩:=ha;exact⟨Wu λn=>by simp[Op.equalIn,step _ hu],rfl⟩
 ·rw[Zdm hb];rw[Ze (by rfl)] at ha;simp only[repD,List.cons.injEq,and_true] at ha;obtain⟨b',o',rfl,_⟩:=ha;exact⟨Wu λn=>by simp[Op.equalIn,step _ hu],rfl⟩
 ·rw[Zdm ha,Zdm hb];exact⟨Wu λn=>by simp[Op.equalIn,step _ hu],rfl⟩
 ·obtain⟨_,A,c,rfl,_,_,hA,_⟩:=Y9 ha;obtain⟨_,B,c',rfl,_,_,hB,_⟩:=Y9 hb;have hB':B=none:=by simpa using hB false rfl
  subst hB';have hA2:=hA _ rfl;subst hA2;refine⟨?_,rfl⟩;cases A <;> (refine Wu λn=> ?_;simp[Op.equalIn,step _ hu])
 ·obtain⟨_,A,c,rfl,_,_,hA,_⟩:=Qj ha;obtain⟨_,B,c',rfl,_,_,hB,_⟩:=Y9 hb;have hB':B=none:=by simpa using hB false rfl
  subst hB';have hA2:=hA _ rfl;subst hA2;refine⟨?_,rfl⟩;cases A <;> (refine Wu λn=> ?_;simp[Op.equalIn,step _ hu])
 ·rw[Ze (by rfl)] at ha;simp only[repD,List.cons.injEq,and_true] at ha;obtain⟨bb,cc,aa,_,_,rfl,_⟩:=ha;obtain⟨_,B,c',rfl,_,_,hB,_⟩:=Y9 hb;have hB':B=none:=by simpa using hB false rfl
  subst hB';exact⟨Wu λn=>by simp[Op.equalIn,step _ hu],rfl⟩
 ·rw[ZoN hb];rw[Ze (by rfl)] at ha;simp only[repD,List.cons.injEq,and_true] at ha;obtain⟨fs,cs,rfl,_⟩:=ha;exact⟨Wu λn=>by simp[Op.equalIn,step _ hu],rfl⟩
 ·rw[ZoN ha,ZoN hb];exact⟨Wu λn=>by simp[Op.equalIn,step _ hu],rfl⟩
theorem ZzQ{P:yg}{op:BinOp}{t:yb}{x y:Dv}{hs hs':List Hint}{C:List Prop}{d:Dv}(h:Zcf P op t x y hs=some (C,d,hs'))(hc:AllP C){σ:Sg}{a b:yh}
 (ha:repDV σ x a) (hb:repDV σ y b) (ox oy:yn):
 ∃v,(eqGuard op t ox oy a b).run P σ.w=.ok () σ.w∧(binOp op t a b).run P σ.w=.ok v σ.w∧repDV σ d v:=by
 unfold Zcf at h;split at h
 ·have ea:=ZD ha;have eb:=ZD hb;subst ea;subst eb;split at h
  ·rename_i ho;obtain⟨v,h1,h2⟩:=ZuY (P:=P) (yk:= ‹IntKind›) h hc σ;refine⟨v,by rw[eqGuard_at_int];rfl, ?_,h2⟩;cases op <;> first|(simp[Zxk] at ho;done)|exact h1
  ·split at h
   ·rename_i hk;subst hk;obtain⟨v,h1,h2⟩:=ZzJ (P:=P) h hc σ t;exact⟨v,by rw[eqGuard_at_int];rfl,h1,h2⟩
   ·cases h
 ·rw[Zdc ha,Zdc hb];split at h
  ·simp only[yj,yl] at h;obtain⟨rfl,rfl,rfl⟩:=h;exact⟨_,rfl,by rw[←ByteArray.toList_eq, ←ByteArray.toList_eq];rfl,Z6 _⟩
  ·simp only[yj,yl] at h;obtain⟨rfl,rfl,rfl⟩:=h;exact⟨_,rfl,by rw[←ByteArray.toList_eq, ←ByteArray.toList_eq];rfl,Z6 _⟩
  ·cases h
 ·split at h
  ·simp only[yp,yl] at h;obtain⟨⟨C',r,hs''⟩,h1,rfl,rfl,rfl⟩:=h;obtain⟨h2,h3⟩:=Zp2 h1 hc ha hb;refine⟨.bool r, ?_, ?_,Z6 _⟩
   ·rcases h3 with h3|⟨⟨cs,rfl⟩,⟨cs',rfl⟩,h3⟩
    ·rw[Zsy h3];rfl
    ·exact run_eqGuard_agg _ _ _ _ _ _ _ h3
   ·rcases h3 with h3|⟨⟨cs,rfl⟩,⟨cs',rfl⟩,h3⟩
    ·rw[Zxs h3];simp[h2]
    ·rw[show binOp .eql t (.agg cs) (.agg cs')=(do pure (.bool (←Op.equal t (.agg cs) (.agg cs')))) from rfl];simp[h2]
  ·simp only[yp,yl] at h;obtain⟨⟨C',r,hs''⟩,h1,rfl,rfl,rfl⟩:=h;obtain⟨h2,h3⟩:=Zp2 h1 hc ha hb;refine⟨.bool (!r), ?_, ?_,Z6 _⟩
   ·rcases h3 with h3|⟨⟨cs,rfl⟩,⟨cs',rfl⟩,h3⟩
    ·rw[Zsy h3];rfl
    ·exact run_eqGuard_agg _ _ _ _ _ _ _ h3
   ·rcases h3 with h3|⟨⟨cs,rfl⟩,⟨cs',rfl⟩,h3⟩
    ·rw[Zxt h3];simp[h2]
    ·rw[show binOp .neq t (.agg cs) (.agg cs')=(do pure (.bool (!(←Op.equal t (.agg cs) (.agg cs'))))) from rfl];simp[h2]
  ·cases h
end Go.Ev
end
section
namespace Go.Ev
section
variable{P:yg}{o:Oper}{a:Act}{σ:Sg}{ts:List Dv}{hs hs':List Hint}{C:List Prop}{d:Dv}
theorem Zp3(H:List Ent):putBack H [] []=H:=by simp[putBack]
theorem Zdu:(toIds []:Nat→Option Nat)=λ_=>none:=by
 funext i;simp[toIds]
mutual
theorem V3{f:Nat→Option Nat}:∀(x y:Dv),x.rn (λ_=>none)=some y→x.rn f=some x
 |.p x,_,_=>rfl
 |.elem x,_,_=>rfl
 |.ref _ _ _,_,h=>by simp[Dv.rn] at h
 |.own _ _ _ _,_,h=>by simp[Dv.rn] at h
 |.view _ _ _ _ _ _,_,h=>by simp[Dv.rn] at h
 |.agg xs,_,h=>by
  simp only[Dv.rn,yp] at h ⊢;obtain⟨ys,h1,_⟩:=h
  exact⟨xs,rns_none_id xs ys h1,rfl⟩
 |.arr n s xs,_,h=>by
  simp only[Dv.rn,yp] at h ⊢;obtain⟨ys,h1,_⟩:=h
  exact⟨xs,rns_none_id xs ys h1,rfl⟩
 |.fn g xs,_,h=>by
  simp only[Dv.rn,yp] at h ⊢;obtain⟨ys,h1,_⟩:=h
  exact⟨xs,rns_none_id xs ys h1,rfl⟩
 |.iface t x,_,h=>by
  simp only[Dv.rn,yp] at h ⊢;obtain⟨y,h1,_⟩:=h
  exact⟨x,V3 x y h1,rfl⟩
 |.tup xs,_,h=>by
  simp only[Dv.rn,yp] at h ⊢;obtain⟨ys,h1,_⟩:=h
  exact⟨xs,rns_none_id xs ys h1,rfl⟩
 |.mp _,_,h=>by simp[Dv.rn] at h
 |.rv _ _ _ _ _,_,h=>by simp[Dv.rn] at h
 |.rref _ _ _ _,_,h=>by simp[Dv.rn] at h
 |.junk,_,_=>rfl
theorem rns_none_id{f:Nat→Option Nat}:∀(x y:List Dv),Dv.rns (λ_=>none) x=some y→Dv.rns f x=some x
 |[],_,_=>rfl
 |x::xs,_,h=>by
  simp only[Dv.rns] at h;split at h
  ·rename_i y ys h1 h2;simp[Dv.rns,V3 x y h1,rns_none_id xs ys h2]
  ·cases h
end
theorem ZzR{src dst e:yb}{xs:List Pl}{b:ByteArray}{nn:Option Bool}{v:yh}(hs:P.underlying src=some (.slice e))(he:P.underlying e=some (.int .u8))(hd:P.underlying dst=some .string)
 (hv:repDV σ (.p (.sl nn 1 xs)) v) (hx:xs=b.data.toList.map λx=>.int .u8 (x.toNat:Int)):(convert src dst v).run P σ.w=.ok (.string b) σ.w:=by
 obtain⟨h1,A,c,rfl,h2,h3,h4,h5,h6⟩:=Y9 hv;by_cases hne:xs=[]
 ·have hb:b=⟨#[]⟩:=by
   rw[hne] at hx;have:b.data.toList=[]:=List.map_eq_nil_iff.1 hx.symm;apply ByteArray.ext;exact Array.toList_inj.1 this
  subst hb;subst hne
  cases A with
  |none=>exact Go.Lib.run_convert_nil_bytes σ.w src dst e c hs he hd
  |some A=>
   have hz:=run_convert_bytes_string (P:=P) σ.w src dst e (some A) 0 c hs he hd;rw[ych,hz];simp[Conv.bytesToString,loadCells,loadCellsFrom];rfl
 ·obtain⟨bl,o',us,rfl,h7,h8⟩:=h6 hne;have hlen:xs.length=b.size:=by rw[hx];simp
  rw[hlen];refine Go.Lib.run_convert_whole (P:=P) σ.w src e dst hs he hd bl o' b (λi hi=> ?_) c;have hi':i < xs.length:=by rw[hlen];exact hi
  have hxi:xs[i]? =some (.int .u8 (b[i].toNat:Int)):=by
   rw[hx,yaf]
   have:b.data.toList[i]? =some b[i]:=by
    rw[ybr];exact ycj (by simpa using hi)
   rw[this];rfl
  obtain⟨uy,h9,h10⟩:=ZmT h1 h7 h8 hxi;simp only[repC] at h9;subst h9;have:=(h10 0 _ rfl).1;simpa using this
theorem ZDP{t e:yb}{x:yn}{n s:Nat}{xs:List Pl}{nn:Option Bool}(ok:Ok σ)(ho:o.op=.sliceToArrayPointer t x)(hu:P.underlying t=some (.array n e))(hv:repDV σ (.p (.sl nn s xs)) (a.eval x))(hn:n≠0)(hle:n≤xs.length):
 Ym P o a σ (.elem (.arr n s (xs.take n))) σ.H:=by
 obtain⟨h1,A,c,hv,h2,h3,h4,h5,h6⟩:=Y9 hv
 have hne:xs≠[]:=by
  rintro rfl;simp at hle;exact hn hle
 obtain⟨bl,o',us,rfl,h7,h8⟩:=h6 hne;have e0:xs=xs.take n++xs.drop n:=(ybf n xs).symm;rw[e0] at h7;obtain⟨u1,u2,rfl,h9,h10⟩:=Z0 h7;refine Zh (v:=.pointer (some ⟨bl,o',none⟩)) ok ?_ ?_
 ·have:(Instr.arrayAt t (.slice (some ⟨bl,o',none⟩) xs.length c)).run P σ.w=.ok (.pointer (some ⟨bl,o',none⟩)) σ.w:=by
   simp[Instr.arrayAt,run_underlying hu,show¬xs.length < n by omega]
  simp[execOp,ho,hv,this]
 ·rw[Ze rfl];simp only[repD];refine⟨bl,o',u1,rfl, ?_,(Xr.append h8).1⟩;simp only[repC];exact⟨by rw[yae];omega,Wg h1 n,h9⟩
theorem ZzS{xs:List Pl}{b:ByteArray}{nn:Option Bool}{v:yh}(hv:repDV σ (.p (.sl nn 1 xs)) v)(hx:xs=Zdj b):(Extern.Bytes.bytesOf v).run P σ.w=.ok b σ.w:=by
 obtain⟨h1,A,c,rfl,h2,h3,h4,h5,h6⟩:=Y9 hv;have hlen:xs.length=b.size:=by rw[hx,Zdj,yx,yas];rfl
 have hem:xs=[]→b=.empty:=λh0=>by
  apply ByteArray.ext;apply Array.toList_inj.1;rw[h0] at hx;exact List.map_eq_nil_iff.1 hx.symm
 cases A with
 |none=>
  have hxe:xs=[]:=by
   rcases List.eq_nil_or_concat xs with h|⟨l,z,h⟩
   ·exact h
   ·obtain⟨_,_,_,q,_⟩:=h6 (by rw[h];simp);cases q
  rw[hem hxe]
  simp[Extern.Bytes.bytesOf]
 |some A=>
  by_cases hne:xs=[]
  ·rw[hem hne,hne];simp[Extern.Bytes.bytesOf,Extern.Bytes.loadBytes]
  ·obtain⟨bl,o',us,e,h7,h8⟩:=h6 hne;cases e
   have hl:=Go.Lib.run_loadBytesX (P:=P) σ.w (b.data.toList.map λx=>(x.toNat:Int)) ⟨bl,o',none⟩ .empty (λj x hj=>by
    have e:(⟨bl,o',none⟩:Addr).add j=⟨bl,o'+j,none⟩:=by unfold Addr.add;split <;> simp_all
    rw[e]
    have hxj:xs[j]? =some (.int .u8 x):=by
     rw[hx,Zdj,yaf];rw[yaf] at hj;obtain⟨z,h9,rfl⟩:=yp.1 hj;rw[h9];rfl
    obtain⟨uy,h9,h10⟩:=ZmT h1 h7 h8 hxj;simp only[repC] at h9;subst h9;have:=(h10 0 _ rfl).1;simpa using this)
   have e2:(b.data.toList.map λx=>(x.toNat:Int)).length=xs.length:=by rw[hx,Zdj,yx,yx]
   rw[e2] at hl;simp only[Extern.Bytes.bytesOf];rw[hl];congr 1;apply ByteArray.ext
   have e3:Go.Lib.bytesOf (b.data.toList.map λx=>(x.toNat:Int))=b.data.toList:=by
    unfold Go.Lib.bytesOf;rw[List.map_map]
    conv=>rhs;rw[←List.map_id b.data.toList]
    exact List.map_congr_left λz _=>by simp
   rw[e3];show(#[]:Array UInt8)++b.data.toList.toArray=b.data;simp
theorem ZFn(ok:Ok σ)(hrep:RepT σ ts a){c:Call}{f:yn}{g:yu}{n1 n2:Option Bool}{xs ys:List Pl}{x y:ByteArray}(ho:o.op=.call c)(hcal:c.callee=.value f)(hf:Zp P ts 0 f=.fn g [])(hb:ZlJ P g=true)
 (hsz:c.args.size=c.argTypes.size) (hargs:ZM P [] ts c g []=[.p (.sl n1 1 xs),.p (.sl n2 1 ys)]) (hx:xs=Zdj x) (hy:ys=Zdj y):Ym P o a σ (.p (.int .i64 (Go.Lib.compareBytes x.data.toList y.data.toList))) σ.H:=by
 have hfv:=Zi (P:=P) hrep 0 f;rw[hf] at hfv
 have hg:g < big:=by
  unfold ZlJ at hb;rw[yi,decide_eq_true_eq] at hb;exact hb.1
 obtain⟨cs,hfe,hcs⟩:=ZLl hg hfv
 have hav:repVs σ (ZM P [] ts c g []) (c.args.map a.eval++cs).toList:=by
  unfold ZM;rw[if_pos hg,Array.toList_append,ycm];exact Xy (ZbF hrep [] (by simpa using hsz)) (ZaH [] hcs)
 rw[hargs] at hav;simp only[repVs] at hav;obtain⟨u,r1,e1,hu,v,r2,e2,hv,e3⟩:=hav;subst e2;subst e3;have e4:c.args.map a.eval++cs= #[u,v]:=Array.toList_inj.1 e1;refine Zh ok (ZGz σ.w ho hcal hfe hb ?_) (Zs _ _);rw[e4];have h1:=ZzS (P:=P) hu hx;have h2:=ZzS (P:=P) hv hy;change Sem.run P (do pure (goInt (Extern.BytealgCompare.cmp (←Extern.Bytes.bytesOf u) (←Extern.Bytes.bytesOf v)))) σ.w=_
 simp only[Sem.run_bind,h1,h2,Sem.run_pure,Result.andThen];rw[Go.Lib.cmp_eq];rfl
theorem ZB7(ok:Ok σ){src dst e:yb}{x:yn}{b:ByteArray}(ho:o.op=.convert src dst x)(hs:P.underlying src=some .string)(hd:P.underlying dst=some (.slice e))(he:P.underlying e=some (.int .u8))
 (hv:a.eval x=.string b) (hb:b.size≤maxLen):Ym P o a σ (.p (.sl (some true) 1 (b.data.toList.map λx=>.int .u8 (x.toNat:Int)))) σ.H:=by
 have hg:σ.w.grownBy (Go.Lib.bytesWorld σ.w e b) none:=⟨rfl,rfl,rfl,by rw[Go.Lib.bytesWorld_size];omega,λk hk _=>Go.Lib.bytesWorld_at_old σ.w e b k hk⟩;obtain⟨to,ok'⟩:=ZmU ok hg;have hrun:=Go.Lib.run_convert_string_bytes (P:=P) σ.w src dst e b hs hd he
 refine ZE (σ':={ σ with w:=Go.Lib.bytesWorld σ.w e b}) (v:=.slice (some ⟨σ.w.heap.size,0,none⟩) b.size (grownCap σ.w b.size 0 e)) (by
  have e1:execOp a.eval o=(do pure (.value (←convert src dst (.string b)))):=by simp only[execOp,ho,hv]
  rw[e1];generalize Go.Lib.bytesWorld σ.w e b=w1 at hrun;generalize grownCap σ.w b.size 0 e=n1 at hrun;simp[hrun]) to ok' ?_
 have hl:(b.data.toList.map λx=>Pl.int .u8 (x.toNat:Int)).length=b.size:=by rw[yx,yas];rfl
 have hall:allSz 1 (b.data.toList.map λx=>Pl.int .u8 (x.toNat:Int)):=λy hy=>by
  obtain⟨z,_,rfl⟩:=ybu.1 hy;rfl
 rw[←hl];refine Z7 hall (by rw[hl];exact grownCap_ge ..) (by rw[hl];exact grownCap_le_maxLen _ _ _ _ hb) (Qh rfl) (λh=>(by cases h)) (λ_=>⟨σ.w.heap.size,0,b.data.toList.map λx=>.int .u8 (x.toNat:Int),rfl, ?_,λj u hu=>⟨?_, ?_⟩⟩)
 ·generalize b.data.toList=l
  induction l with
  |nil=>simp[repCs]
  |cons z l ih=>exact⟨[_],_,rfl,by simp[repC],ih⟩
 ·rw[yaf] at hu;obtain⟨z,h1,rfl⟩:=yp.1 hu
  have hj:j < b.size:=by
   have:=(yo.1 h1).1;rw[yas] at this;exact this
  rw[yax];have:=Go.Lib.bytesWorld_cell σ.w e b j hj;rw[this,List.getD_eq_getElem?_getD,h1,Option.getD_some]
 ·exact ZzL ok' (ok.new _ (ym _)) (ZcD ok)
theorem ZFo(ok:Ok σ)(hrep:RepT σ ts a)(h:evN P o ts hs=some (C,d,hs'))(hc:AllP C):Ym P o a σ d σ.H:=by
 have h0:=h;unfold evN at h;split at h
 ·rename_i x ho
  have main:d=Zp P ts o.type x→Ym P o a σ d σ.H:=λe=>by
   subst e;exact Zh (v:=a.eval x) ok (by simp[execOp,ho]) (Zi hrep _ _)
  split at h
  ·simp only[yj,yl] at h;exact main h.2.1.symm
  ·cases h
 ·rename_i x ho
  have main:d=Zp P ts o.type x→Ym P o a σ d σ.H:=λe=>by
   subst e;exact Zh (v:=a.eval x) ok (by simp[execOp,ho]) (Zi hrep _ _)
  split at h
  ·simp only[yj,yl] at h;exact main h.2.1.symm
  ·cases h
 ·rename_i c x y ho;split at h
  ·rename_i t β hs1 hcv;simp only[yj,yl] at h;obtain⟨rfl,rfl,rfl⟩:=h;have hb:=Zi (P:=P) hrep 0 c;rw[hcv] at hb;have hb':=Yk hb;have ht:t=β:=hc.1;subst ht;refine Zh (v:=if t then a.eval x else a.eval y) ok (by simp[execOp,ho,hb',asBool]) ?_
   cases t
   ·exact Zi hrep _ _
   ·exact Zi hrep _ _
  ·cases h
 ·rename_i x ho;split at h
  ·rename_i i f p hx;simp only[yj,yl] at h;obtain⟨rfl,rfl,rfl⟩:=h;have hv:=Zi (P:=P) hrep 0 x;rw[hx] at hv;obtain⟨b,h1,h2,h3⟩:=ZeK hv;exact Zh (v:=a.eval x) ok (by simp[execOp,ho,h3]) hv
  ·rename_i i v f p hx;simp only[yj,yl] at h;obtain⟨rfl,rfl,rfl⟩:=h;have hv:=Zi (P:=P) hrep 0 x;rw[hx] at hv;obtain⟨b,o',h3,_⟩:=ZmV hv;exact Zh (v:=a.eval x) ok (by simp[execOp,ho,h3]) hv
  ·rename_i y hx;simp only[yj,yl] at h;obtain⟨rfl,rfl,rfl⟩:=h;have hv:=Zi (P:=P) hrep 0 x;rw[hx] at hv;obtain⟨b,o',us,h3,_⟩:=ZiF hv;exact Zh (v:=a.eval x) ok (by simp[execOp,ho,h3]) hv
  ·rename_i f cap hx;simp only[yj,yl] at h;obtain⟨rfl,rfl,rfl⟩:=h;have hv:=Zi (P:=P) hrep 0 x;rw[hx] at hv;obtain⟨fs,cs,h3,_⟩:=Zsl hv;exact Zh (v:=a.eval x) ok (by simp[execOp,ho,h3]) hv
  ·cases h
 ·rename_i op t x y yt ho;obtain⟨v,h1,h2,h3⟩:=ZzQ (P:=P) h hc (Zi hrep t x) (Zi hrep yt y) x y;exact Zh ok (by simp[execOp,ho,h1,h2]) h3
 ·rename_i t x ho;split at h
  ·rename_i b hx;simp only[yj,yl] at h;obtain⟨rfl,rfl,rfl⟩:=h;have hv:=Zi (P:=P) hrep 0 x;rw[hx] at hv;exact Zh (v:=.bool (!b)) ok (by simp[execOp,ho,Yk hv,Op.unary]) (Z6 _)
  ·cases h
 ·rename_i t x ho;split at h
  ·rename_i k n hx;have hv:=Zi (P:=P) hrep 0 x;rw[hx] at hv;exact Zh ok (by simp[execOp,ho,ZD hv,Op.unary,Op.intArith]) (ZbE h hc σ)
  ·cases h
 ·rename_i t x ho;split at h
  ·rename_i k n hx;have hv:=Zi (P:=P) hrep 0 x;rw[hx] at hv;split at h
   ·cases h
   ·rename_i hk;simp only[yj,yl] at h;obtain⟨rfl,rfl,rfl⟩:=h;exact Zh ok (by simp[execOp,ho,ZD hv,Op.unary,hk,intBits_xor]) (Zs k _)
  ·cases h
 ·rename_i src dst x ho;split at h
  ·rename_i d1 k k' n hs1 hd1 hx;have hv:=Zi (P:=P) hrep src x;rw[hx] at hv;refine Zh ok ?_ (ZbE h hc σ);simp[execOp,ho,ZD hv,convert,run_underlying hs1,run_underlying hd1,Conv.intToInt]
  ·rename_i e nn s xs hs1 hd1 hx;have hv:=Zi (P:=P) hrep src x;rw[hx] at hv;split at h
   ·rename_i b hs2 he;split at h
    ·rename_i h1;subst h1;simp only[yj,yl] at h;obtain⟨rfl,rfl,rfl⟩:=h;refine Zh (v:=.string b) ok ?_ (by simp[repDV,Dv.isAgg,Pl.isAgg,repD,repC]);have hrun:=ZzR (P:=P) hs1 he hd1 hv hc.1;simp[execOp,ho,hrun]
    ·cases h
   ·cases h
  ·rename_i e id nn s xs hs1 hd1 hx;have hv:=Zi (P:=P) hrep src x;rw[hx] at hv;split at h
   ·rename_i b hs2 he;split at h
    ·rename_i h1;subst h1;simp only[yj,yl] at h;obtain⟨rfl,rfl,rfl⟩:=h;refine Zh (v:=.string b) ok ?_ (by simp[repDV,Dv.isAgg,Pl.isAgg,repD,repC]);have hrun:=ZzR (P:=P) hs1 he hd1 (Vn hv) hc.1;simp[execOp,ho,hrun]
    ·cases h
   ·cases h
  ·rename_i e b hs1 hd1 hx;have hv:=Zi (P:=P) hrep src x;rw[hx] at hv;split at h
   ·rename_i he;simp only[yj,yl] at h;obtain⟨rfl,rfl,rfl⟩:=h;exact ZB7 ok ho hs1 hd1 he (Zdc hv) hc.1
   ·cases h
  ·cases h
 ·rename_i t x ho;have hv:=Zi (P:=P) hrep 0 x;split at h
  ·rename_i n e nn s xs hu hx;rw[hx] at hv;split at h
   ·rename_i hn;simp only[yj,yl] at h;obtain⟨rfl,rfl,rfl⟩:=h;exact ZDP ok ho hu hv (by simpa using hn) hc.1
   ·cases h
  ·rename_i n e id nn s xs hu hx;rw[hx] at hv;split at h
   ·rename_i hn;simp only[yj,yl] at h;obtain⟨rfl,rfl,rfl⟩:=h;exact ZDP ok ho hu (Vn hv) (by simpa using hn) hc.1
   ·cases h
  ·cases h
 ·rename_i f first captured ho
  split at h
  ·rename_i hf;simp only[yj,yl] at h;obtain⟨rfl,rfl,rfl⟩:=h;rw[yi,decide_eq_true_eq] at hf;obtain⟨hf,hlt⟩:=hf;have:first= #[]:=by simpa using hf
   subst this;refine Zh (v:=.func (.func f) #[] (captured.map a.eval)) ok (by simp[execOp,ho,Instr.makeFunc]) ?_;rw[Ze rfl];simp only[repD];refine⟨#[],captured.map a.eval, ?_,if_pos hlt,by rw[Array.empty_append,ycm];exact Zsk _ _ (λx=>Zi hrep 0 x) _⟩;unfold ZaC;rw[if_pos hlt]
  ·split at h
   ·rename_i hc2;simp only[yj,yl] at h;obtain⟨rfl,rfl,rfl⟩:=h;have:captured= #[]:=by simpa using hc2
    subst this;have hge:¬f+big < big:=Nat.not_lt.2 (Nat.le_add_left big f);refine Zh (v:=.func (.func f) (first.map a.eval) #[]) ok (by simp[execOp,ho,Instr.makeFunc]) ?_
    rw[Ze rfl];simp only[repD];refine⟨first.map a.eval, #[], ?_,if_neg hge,by rw[Array.append_empty,ycm];exact Zsk _ _ (λx=>Zi hrep 0 x) _⟩
    unfold ZaC;rw[if_neg hge,Nat.add_sub_cancel]
   ·cases h
 ·rename_i t x ho;split at h
  ·cases h
  ·rename_i u hu hne;simp only[yj,yl] at h;obtain⟨rfl,rfl,rfl⟩:=h;obtain⟨h1,h2⟩:=Zi (P:=P) hrep t x;refine Zh (v:=.iface t (a.eval x)) ok ?_ ?_
   ·have e:(Instr.makeInterface t (a.eval x)).run P σ.w=.ok (.iface t (a.eval x)) σ.w:=by
     simp only[Instr.makeInterface,Sem.run_bind,run_underlying hne,Result.andThen_ok];rfl
    simp[execOp,ho,e]
   ·rw[Ze rfl];simp only[repD];exact⟨a.eval x,rfl,h1,h2⟩
  ·cases h
 ·rename_i t x i ho;simp only[yp,yl] at h;obtain⟨d1,h1,rfl,rfl,rfl⟩:=h;obtain⟨u,h2,h3⟩:=ZuZ h1 (Zi (P:=P) hrep t x);exact Zh ok (by simp[execOp,ho,h2]) h3
 ·rename_i t x i ho;have hv:=Zi (P:=P) hrep 0 x;split at h
  ·rename_i fs id off path hu hx;rw[hx] at hv;split at h
   ·rename_i f hf;split at h
    ·rename_i hk;simp only[yi,bne_iff_ne] at hk;simp only[yj,yl] at h;obtain⟨rfl,rfl,rfl⟩:=h;obtain⟨b,h1,h2,h3⟩:=ZeK hv;refine Zh (v:=.pointer (some ⟨b,off+f.offset,none⟩)) ok ?_ ?_
     ·have hs:=ZQ (P:=P) hk.2 σ.w
      have hr:(fieldPlace ⟨b,off,none⟩ f).run P σ.w=.ok ⟨b,off+f.offset,none⟩ σ.w:=by
       unfold fieldPlace;rw[Sem.run_bind,hs];simp only[Result.andThen_ok,hk.1,if_false,Sem.run_pure,Addr.add_mk]
      simp[execOp,ho,h3,Instr.fieldAt,run_underlying hu,hf,Instr.sureAddr,hr]
     ·rw[Ze rfl];simp only[repD];exact⟨b,h1,h2,rfl⟩
    ·cases h
   ·cases h
  ·rename_i fs id v off path hu hx;rw[hx] at hv;split at h
   ·rename_i f hf;split at h
    ·rename_i hk;simp only[yi,bne_iff_ne] at hk;simp only[yj,yl] at h;obtain⟨rfl,rfl,rfl⟩:=h;obtain⟨b,o',h3,h4⟩:=ZmV hv;refine Zh (v:=.pointer (some ⟨b,o'+f.offset,none⟩)) ok ?_ (Zxo (ZoQ h4));have hs:=ZQ (P:=P) hk.2 σ.w
     have hr:(fieldPlace ⟨b,o',none⟩ f).run P σ.w=.ok ⟨b,o'+f.offset,none⟩ σ.w:=by
      unfold fieldPlace;rw[Sem.run_bind,hs];simp only[Result.andThen_ok,hk.1,if_false,Sem.run_pure,Addr.add_mk]
     simp[execOp,ho,h3,Instr.fieldAt,run_underlying hu,hf,Instr.sureAddr,hr]
    ·cases h
   ·cases h
  ·rename_i fs y hu hx;rw[hx] at hv;split at h
   ·rename_i z hz;simp only[yj,yl] at h;obtain⟨rfl,rfl,rfl⟩:=h;obtain⟨b,off,us,h1,h2,h3⟩:=ZiF hv;unfold VU at hz;rw[hu] at hz;split at hz
    ·rename_i fs' xs hfs hxs;cases hfs;cases hxs;split at hz
     ·rename_i y' hy;split at hz
      ·rename_i hok;cases hz;unfold ZeG at hok;split at hok
       ·rename_i f hf;simp only[yi,beq_iff_eq,bne_iff_ne] at hok;obtain⟨⟨⟨⟨⟨k1,k2⟩,k3⟩,k4⟩,k5⟩,k6⟩:=hok;simp only[repC] at h2;obtain⟨p1,p2,p3,rfl,e1,e2,_⟩:=QB h2 hy;refine Zh (v:=.pointer (some ⟨b,off+f.offset,none⟩)) ok ?_ ?_
        ·have hs:=ZQ (P:=P) k3 σ.w
         have hr:(fieldPlace ⟨b,off,none⟩ f).run P σ.w=.ok ⟨b,off+f.offset,none⟩ σ.w:=by
          unfold fieldPlace;rw[Sem.run_bind,hs];simp only[Result.andThen_ok,k2,k6,if_false,Sem.run_pure,Addr.add_mk]
         simp[execOp,ho,h1,Instr.fieldAt,run_underlying hu,hf,Instr.sureAddr,hr]
        ·rw[Ze rfl];simp only[repD];refine⟨b,_,p2,rfl,e2, ?_⟩;have:=(Xr.append (Xr.append h3).2).1;rw[e1, ←k1] at this;exact this
       ·cases hok
      ·cases hz
     ·cases hz
    ·rename_i hxs;cases hxs
    ·cases hz
   ·cases h
  ·cases h
 ·rename_i t x ix ho;exact ZzM ok hrep ho h0 hc
 ·rename_i t x ix ho;have hv:=Zi (P:=P) hrep t x;have hi:=Zi (P:=P) hrep 0 ix;split at h
  ·rename_i n e n' s xs k i hu hx hix;rw[hx] at hv;rw[hix] at hi;split at h
   ·rename_i y hs1;split at h
    ·rename_i hk;simp only[yi,decide_eq_true_eq,beq_iff_eq,bne_iff_ne] at hk;obtain⟨⟨⟨⟨⟨rfl,k1⟩,k2⟩,k3⟩,k4⟩,k5⟩:=hk;simp only[yj,yl] at h;obtain⟨rfl,rfl,rfl⟩:=h;obtain⟨c1,c2,_⟩:=hc;obtain⟨cs,hcs,hr⟩:=(ZZ rfl).1 hv;simp only[repD,repC] at hr;obtain⟨r1,r2,r3⟩:=hr;obtain⟨p1,p2,p3,ecs,e1,e2,_⟩:=QB r3 c2;have hlt:i.toNat < xs.length:=(yo.1 c2).1;have hys:y.size=s:=r2 y (ybm c2)
     have hpl:p1.length=i.toNat*s:=by
      rw[e1,sizes_all (Wg r2 _),yae,yav (Nat.le_of_lt hlt)]
     obtain⟨v,h1,h2⟩:=QD (P:=P) (σ:=σ) (t:=e) (d:=.p y) ecs (by simpa[repD] using e2) (by rw[k1];exact hys.symm) k4 k3 k2 (by show y.size≠0;rw[hys];exact k5);refine Zh ok ?_ h2;have hb:0≤i∧i < (n:Int):=⟨c1,by omega⟩;rw[hpl, ←k1] at h1;simp[execOp,ho,hcs,ZD hi,Instr.index,asIntOf,run_underlying hu,hb,ZQ k4,h1]
    ·cases h
   ·cases h
  ·rename_i s k i hu hx hix;rw[hx] at hv;rw[hix] at hi;split at h
   ·rename_i b hs1;simp only[yj,yl] at h;obtain⟨rfl,rfl,rfl⟩:=h;obtain⟨c1,c2,_⟩:=hc;obtain⟨x0,h1,rfl⟩:=yp.1 c2;refine Zh ok (v:=.int .u8 x0.toNat) ?_ (Zs _ _)
    have hg:s[i.toNat]? =some x0:=by
     rw[←h1];have hlt:i.toNat < s.data.toList.length:=(yo.1 h1).1;have hlt':i.toNat < s.size:=by simpa using hlt
     rw[getElem?_pos s i.toNat hlt',yac hlt];rfl
    simp[execOp,ho,Zdc hv,ZD hi,Instr.index,asIntOf,run_underlying hu,c1,hg]
   ·cases h
  ·cases h
 ·rename_i t x lo hi ho;exact ZJl ok hrep ho h0 hc
 ·rename_i t x lo hi mx ho;exact ZGu ok hrep ho h0 hc
 ·rename_i x i ho;split at h
  ·rename_i ds hx;simp only[yp,yl] at h;obtain⟨d1,h1,rfl,rfl,rfl⟩:=h;have hv:=Zi (P:=P) hrep 0 x;rw[hx,Ze rfl] at hv;simp only[repD,List.cons.injEq,and_true] at hv;obtain⟨cs,hv,hr⟩:=hv;obtain⟨v,h2,h3⟩:=Zsj hr h1;have h2':cs[i]? =some v:=by simpa using h2
   exact Zh ok (by simp[execOp,ho,hv,Instr.extract,h2']) h3
  ·cases h
 ·rename_i t x ho;split at h
  ·rename_i y hx;split at h
   ·rename_i hk;simp only[yi,beq_iff_eq,decide_eq_true_eq] at hk;obtain⟨⟨⟨k1,k2⟩,k3⟩,k4⟩:=hk;simp only[yj,yl] at h;obtain⟨rfl,rfl,rfl⟩:=h;have hv:=Zi (P:=P) hrep 0 x;rw[hx] at hv;obtain⟨b,off,us,h1,h2,h3⟩:=ZiF hv;obtain⟨v,h4,h5⟩:=ZeI (P:=P) (σ:=σ) (d:=.p y) (by simpa[repD] using h2) (λj u hu=>(h3 j u hu).1) k1 k4 k3 k2;exact Zh ok (by simp[execOp,ho,h1,Instr.loadAt,Instr.sureAddr,h4]) h5
   ·cases h
  ·cases h
 ·rename_i t parts ho;exact ZJm ok hrep ho h0
 ·rename_i c ho;split at h
  ·rename_i hcal;split at h
   ·rename_i x t hargs htys;have hv:=Zi (P:=P) hrep t x;split at h
    ·rename_i e nn s xs hu hx;rw[hx] at hv;simp only[yj,yl] at h;obtain⟨rfl,rfl,rfl⟩:=h;obtain⟨_,A,cp,h1,_⟩:=Y9 hv;exact Zh ok (Zds ho hcal hargs htys (by rw[h1];simp[Builtin.len_,run_underlying hu];rfl)) (Zs _ _)
    ·rename_i e id nn s xs hu hx;rw[hx] at hv;simp only[yj,yl] at h;obtain⟨rfl,rfl,rfl⟩:=h;obtain⟨_,A,cp,h1,_⟩:=Qj hv;exact Zh ok (Zds ho hcal hargs htys (by rw[h1];simp[Builtin.len_,run_underlying hu];rfl)) (Zs _ _)
    ·rename_i e id off path s lo n hu hx;rw[hx] at hv;simp only[yj,yl] at h;obtain⟨rfl,rfl,rfl⟩:=h;obtain⟨b,cp,aa,_,_,h1,_⟩:=Zdp hv;exact Zh ok (Zds ho hcal hargs htys (by rw[h1];simp[Builtin.len_,run_underlying hu];rfl)) (Zs _ _)
    ·rename_i e id v s lo n hu hx;rw[hx] at hv;simp only[yj,yl] at h;obtain⟨rfl,rfl,rfl⟩:=h;obtain⟨A,cp,h1,_⟩:=Zfw hv;exact Zh ok (Zds ho hcal hargs htys (by rw[h1];simp[Builtin.len_,run_underlying hu];rfl)) (Zs _ _)
    ·rename_i dd n e hu;simp only[yj,yl] at h;obtain⟨rfl,rfl,rfl⟩:=h;exact Zh ok (Zds ho hcal hargs htys (by simp[Builtin.len_,run_underlying hu];rfl)) (Zs _ _)
    ·rename_i s hu hx;rw[hx] at hv;simp only[yj,yl] at h;obtain⟨rfl,rfl,rfl⟩:=h;exact Zh ok (Zds ho hcal hargs htys (by rw[Zdc hv];simp[Builtin.len_,run_underlying hu];rfl)) (Zs _ _)
    ·cases h
   ·cases h
  ·rename_i hcal;split at h
   ·rename_i x y t u hargs htys;have hv:=Zi (P:=P) hrep t x;have hw:=Zi (P:=P) hrep u y;split at h
    ·rename_i m n hx hy;rw[hx] at hv;rw[hy] at hw;simp only[yj,yl] at h;obtain⟨rfl,rfl,rfl⟩:=h;exact Zh ok (ZGw ho hcal hargs htys (by rw[ZD hv,ZD hw];simp[Builtin.max_,Builtin.max2])) (Zs _ _)
    ·cases h
   ·cases h
  ·rename_i hcal;split at h
   ·rename_i x y t u hs1 hargs htys;split at h
    ·rename_i e s hu hx;split at h
     ·rename_i i ys hi hsrc;split at h
      ·rename_i hk;simp only[yi,bne_iff_ne] at hk;simp only[yj,yl] at h;obtain⟨rfl,rfl,rfl⟩:=h;exact Zu0 ok hrep ho hcal hargs htys hu hx hi hk.1 hk.2 hsrc hc.1 hc.2.1
      ·cases h
     ·cases h
    ·cases h
   ·cases h
  ·rename_i f hcal;split at h
   ·rename_i g cap r hs1 hf;split at h
    ·rename_i hk;simp only[yi,beq_iff_eq] at hk;split at h
     ·rename_i args' r1 hargs hr;simp only[yj,yl] at h;obtain⟨rfl,rfl,rfl⟩:=h
      have:=Zsv (P:=P) (ids:=[]) (Hin:=[]) (H':=[]) (Hb:=[]) (r:=r) (r':=r) ok hrep ho hcal hf hk.1 hk.2 rfl (ym _) (by rw[Zdu];exact hargs) rfl
       (V3 r r1 hr) rfl hc.1
      rwa [Zp3] at this
     ·cases h
    ·cases h
   ·rename_i g x y hs1 hf;split at h
    ·rename_i hk;simp only[yi,beq_iff_eq] at hk;split at h
     ·rename_i n1 s xs n2 s' ys hargs;split at h
      ·rename_i h1;obtain⟨h1,h2⟩:=h1;subst h1;subst h2;simp only[yj,yl] at h;obtain⟨rfl,rfl,rfl⟩:=h;exact ZFn ok hrep ho hcal hf hk.1 hk.2 hargs hc.1 hc.2.1
      ·cases h
     ·cases h
    ·cases h
   ·cases h
  ·cases h
 ·rename_i t len parts ho;split at h
  ·rename_i hs1;split at h
   ·rename_i e hu;split at h
    ·rename_i i xs hi hl;split at h
     ·rename_i hk;simp only[yi,bne_iff_ne,decide_eq_true_eq] at hk;simp only[yj,yl] at h;obtain⟨rfl,rfl,rfl⟩:=h;exact ZrO (Zsr ok hrep ho hu hi hk.1.1 hk.1.2 hk.2 hl) (Wk.p (PlWk.sl_nn (by rw[←Pl.softs_map];exact softs_wk _))) (WkH.refl _)
     ·cases h
    ·cases h
   ·cases h
  ·rename_i hs1;split at h
   ·rename_i e hu;split at h
    ·rename_i i xs hi hl;split at h
     ·rename_i hk;simp only[yi,bne_iff_ne,decide_eq_true_eq] at hk;simp only[yj,yl] at h;obtain⟨rfl,rfl,rfl⟩:=h;exact Zsr ok hrep ho hu hi hk.1.1 hk.1.2 hk.2 hl
     ·cases h
    ·cases h
   ·cases h
  ·cases h
 ·cases h
theorem ZFp{x y:yn}{t u:yb}{c:Call}{w':yy}(ho:o.op=.call c)(hc:c.callee=.builtin .copy)(hargs:c.args.toList=[x,y])(htys:c.argTypes.toList=[t,u]){v:yh}
 (h:(Builtin.copy_ #[t,u] o.type #[a.eval x,a.eval y]).run P σ.w=.ok v w'):(execOp a.eval o).run P σ.w=.ok (.value v) w':=by
 have h1:c.args= #[x,y]:=by rw[←ybx (xs:=c.args),hargs]
 have h2:c.argTypes= #[t,u]:=by rw[←ybx (xs:=c.argTypes),htys]
 simp[execOp,ho,resolve,hc,h1,h2,invoke,builtin,h]
theorem ZrQ(ok:Ok σ){id v v' s lo n N:Nat}{st:Bool}{e:yb}{zs:List Pl}{u:yh}(hx:repDV σ (.rv id v s lo n) u)(hH:σ.H[id]? =some (.row v' s st e (.p (.arr N s zs))))(hv:v'=v)(hle:lo+n≤N):
 ∃A c,u=.slice A n c∧n≤c∧c≤maxLen∧(A=none→c=0)∧allSz s ((zs.drop lo).take n)∧((zs.drop lo).take n).length=n∧∃q,repCs σ.w σ.stab ((zs.drop lo).take n) q∧q.length=n*s∧
  (0 < n→∃b cur cap,A=some ⟨b,lo*s,none⟩∧σ.m[id]? =some (some b)∧σ.w.heap[b]? =some (.cells cur e (0,0))∧cur.size=cap*s∧∀(j:Nat)(u:yh),q[j]? =some u→σ.w.cell? ⟨b,lo*s+j,none⟩=some u):=by
 obtain⟨A,c,rfl,h2,h3,h4,h5,v2,s2,st2,e2,d2,h6,h7,h8⟩:=Zfw hx;rw[hH] at h6;cases h6;obtain⟨_,h9⟩:=h8 hv;have hidlt:id < σ.m.length:=by rw[ok.len];exact(yo.1 hH).1
 have hmi:σ.m[id]? =some σ.m[id]:=yac hidlt;obtain⟨N',hN',hent⟩:=ok.ent id _ _ hH hmi;simp only[rowN,if_true,yj] at hN';subst hN';by_cases hn:n=0
 ·subst hn;refine⟨A,c,rfl,h2,h3,h4, ?_,by simp,[],by simp[repCs],by simp,λh=>absurd h (by omega)⟩;simp only[List.take_zero];intro x hx;cases hx
 have hpos:0 < n:=Nat.pos_of_ne_zero hn;rcases h9 with⟨_,_,hz⟩|⟨b,cur,k1,k2,k3,k4⟩
 ·omega
 rw[hmi] at k1;rcases hent with⟨hh,_⟩|⟨b',cur',cap,hh,g2,g4,g5,g6,g7⟩
 ·rw[hh] at k1;cases k1
 rw[hh] at k1;cases k1;rw[k2] at g2;cases g2;simp only[repD,repC] at g7;obtain⟨hxl,hxs,h7⟩:=g7
 have hsplit:zs=zs.take lo++((zs.drop lo).take n++zs.drop (lo+n)):=by
  have e1:zs.drop (lo+n)=(zs.drop lo).drop n:=by rw[List.drop_drop]
  rw[e1,ybf,ybf]
 rw[hsplit] at h7;obtain⟨q1,q23,e1,r1,r23⟩:=Z0 h7;obtain⟨q2,q3,rfl,r2,r3⟩:=Z0 r23;have hs1:allSz s (zs.take lo):=λz hz=>hxs z (ybn hz);have hsy:allSz s ((zs.drop lo).take n):=λz hz=>hxs z (yct (ybn hz));have ly:((zs.drop lo).take n).length=n:=by rw[yae,ybq,yav (by omega)]
 have l1:q1.length=lo*s:=by rw[repCs_size _ _ r1,sizes_all hs1,yae,yav (by omega)]
 have l2:q2.length=n*s:=by rw[repCs_size _ _ r2,sizes_all hsy,ly]
 refine⟨A,c,rfl,h2,h3,h4,hsy,ly,q2,r2,l2,λ_=>⟨b,cur,cap,k4 (by omega),by rw[hmi,hh],k2,g4,λj u hu=> ?_⟩⟩;rw[cell_of_row σ.w b _ cur e (0,0) k2, ←ybr];have hj:j < q2.length:=(yo.1 hu).1
 have e2:(cur.toList.take (N*s))[lo*s+j]? =some u:=by
  rw[e1,yam (by omega),l1,Nat.add_sub_cancel_left,yah hj];exact hu
 rw[ycd] at e2;split at e2
 ·exact e2
 ·cases e2
theorem ZgS(ok:Ok σ)(hrep:RepT σ ts a){s:Nat}{u ut:yb}{y:yn}{ys:List Pl}{hs1:List Hint}{C1:List Prop}(h:ZoL P s u σ.H hs (Zp P ts ut y)=some (C1,ys,hs1))(hc:AllP C1):
 Zsp P σ s u (a.eval y) ys:=by
 unfold ZoL at h;split at h
 ·rename_i id off path s' lo n hd;have hxv:=Zi (P:=P) hrep ut y;rw[hd] at hxv;obtain⟨b,cap,A,hm,hv,hve,hcap,hcm,hA⟩:=Zdp hxv;split at h
  ·rename_i e dd st hu hH;split at h
   ·rename_i C2 off' N s2 zs hs2 hg;split at h
    ·rename_i hk;simp only[yi,decide_eq_true_eq] at hk;obtain⟨rfl,rfl⟩:=hk;simp only[yj,yl] at h;obtain⟨rfl,rfl,rfl⟩:=h;obtain⟨c1,rfl,c2,_⟩:=Zj.1 hc;obtain⟨b',cs,t',h1,h2,h3,h4⟩:=ok.ent id _ _ hH hm;cases h1;obtain⟨p1,p2,p3,h5,h6,h7,_⟩:=Qm path dd hs hs2 C2 off' (.p (.arr N s2 zs)) _ hg c1 h3;simp only[repD,repC] at h7;obtain⟨hxl,hxs,h7⟩:=h7
     have hsplit:zs=zs.take lo++((zs.drop lo).take n++zs.drop (lo+n)):=by
      have e1:zs.drop (lo+n)=(zs.drop lo).drop n:=by rw[List.drop_drop]
      rw[e1,ybf,ybf]
     rw[hsplit] at h7;obtain⟨q1,q23,rfl,r1,r23⟩:=Z0 h7;obtain⟨q2,q3,rfl,r2,r3⟩:=Z0 r23;have hs1:allSz s2 (zs.take lo):=λz hz=>hxs z (ybn hz);have hsy:allSz s2 ((zs.drop lo).take n):=λz hz=>hxs z (yct (ybn hz));have ly:((zs.drop lo).take n).length=n:=by rw[yae,ybq,yav (by omega)]
     have l1:q1.length=lo*s2:=by rw[repCs_size _ _ r1,sizes_all hs1,yae,yav (by omega)]
     have l2:q2.length=n*s2:=by rw[repCs_size _ _ r2,sizes_all hsy,ly]
     rw[hve];refine⟨q2,⟨.inl ⟨_,hu⟩,λw'=>by rw[ly];rfl, ?_, ?_,by rw[ly];exact l2⟩,r2,λ_=>hsy⟩
     all_goals
      rw[ly];rcases ybt n with h0|h0
      ·subst h0;have hz:q2=[]:=yaz (by rw[l2];simp);rw[hz];simp[Builtin.firstCells,loadCells,loadCellsFrom]
      ·rw[hA h0];refine run_firstCells_some _ s2 _ ⟨b,off'+lo*s2,none⟩ _ cap q2 l2 (λj v hv=> ?_);rw[Addr.add_mk];have hcell:σ.w.cell? ⟨b,off'+lo*s2+j,none⟩=cs[off'+lo*s2+j]? :=cell_of_row σ.w b _ cs t' (0,0) h2
       first
        |(rw[hcell, ←ybr]
          have h5':cs.toList.take dd.size=(p1++q1)++(q2++(q3++p3)):=by rw[h5];simp
          have hpl:(p1++q1).length=off'+lo*s2:=by rw[yr,h6,l1]
          have hj:j < q2.length:=(yo.1 hv).1
          have e2:(cs.toList.take dd.size)[off'+lo*s2+j]? =some v:=by
           rw[h5',yam (by omega),hpl,Nat.add_sub_cancel_left,yah hj];exact hv
          rw[ycd] at e2;split at e2
          ·exact e2
          ·cases e2)
        |(show σ.w.drew.cell? _=_
          have hcell2:σ.w.drew.cell? ⟨b,off'+lo*s2+j,none⟩=σ.w.cell? ⟨b,off'+lo*s2+j,none⟩:=rfl;rw[hcell2,hcell, ←ybr];have h5':cs.toList.take dd.size=(p1++q1)++(q2++(q3++p3)):=by rw[h5];simp
          have hpl:(p1++q1).length=off'+lo*s2:=by rw[yr,h6,l1]
          have hj:j < q2.length:=(yo.1 hv).1
          have e2:(cs.toList.take dd.size)[off'+lo*s2+j]? =some v:=by
           rw[h5',yam (by omega),hpl,Nat.add_sub_cancel_left,yah hj];exact hv
          rw[ycd] at e2;split at e2
          ·exact e2
          ·cases e2)
    ·cases h
   ·cases h
  ·cases h
 ·rename_i id v s' lo n hd;have hxv:=Zi (P:=P) hrep ut y;rw[hd] at hxv;split at h
  ·rename_i e v' s2 st e' N s3 zs hu hH;split at h
   ·rename_i hk;simp only[yi,decide_eq_true_eq,beq_iff_eq] at hk;obtain⟨⟨⟨rfl,rfl⟩,rfl⟩,hv⟩:=hk;simp only[yj,yl] at h;obtain⟨rfl,rfl,rfl⟩:=h;obtain⟨A,cap,hve,hcap,hcm,hA,hsy,ly,q2,r2,l2,hq⟩:=ZrQ ok hxv hH hv hc.1;rw[hve];refine⟨q2,⟨.inl ⟨_,hu⟩,λw'=>by rw[ly];rfl, ?_, ?_,by rw[ly];exact l2⟩,r2,λ_=>hsy⟩
    all_goals
     rw[ly];rcases ybt n with h0|h0
     ·subst h0;have hz:q2=[]:=yaz (by rw[l2];simp);rw[hz];cases A <;> simp[Builtin.firstCells,loadCells,loadCellsFrom]
     ·obtain⟨b,cur,cp,rfl,_,_,_,hcell⟩:=hq h0;refine run_firstCells_some _ _ _ ⟨b,_,none⟩ _ cap q2 l2 (λj v hv=> ?_);rw[Addr.add_mk];exact hcell j v hv
   ·cases h
  ·cases h
 ·simp only[yp,yl] at h;obtain⟨zs,h1,rfl,rfl,rfl⟩:=h;exact Qk (P:=P) hrep h1
theorem ZLo(ok:Ok σ)(hrep:RepT σ ts a){c:Call}{x y:yn}{t u e:yb}{id off s lo n N:Nat}{path:List Nat}{dd dd':Dv}{xs ys:List Pl}{C1:List Prop}{off':Nat}(ho:o.op=.call c)(hcal:c.callee=.builtin .copy)
 (hargs:c.args.toList=[x,y]) (htys:c.argTypes.toList=[t,u]) (ht:P.underlying t=some (.slice e)) (hx:Zp P ts t x=.view id off path s lo n) (hsrc:ZeH P s u (Zp P ts u y)=some ys)
 (hH:σ.H[id]? =some (.var dd true)) (hg:Z3 dd path hs=some (C1,off',.p (.arr N s xs),hs')) (hc:AllP C1) (he:off'=off) (hp:Xi (.p (.arr N s (ZoK xs ys lo))) dd path hs=some dd')
 (hce:P.cellsOf e=s) (hi:(P.info? e).isSome=true) (hm':ys.length≤n) (hn:lo+n≤N):Ym P o a σ (.p (.int .i64 (ys.length:Int))) (σ.H.set id (.var dd' true)):=by
 subst he;have hxv:=Zi (P:=P) hrep t x;rw[hx] at hxv;obtain⟨b,cap,A,hm,hv,hxv,hcap,hcm,hA⟩:=Zdp hxv;obtain⟨news,hS,hnr,hall⟩:=Qk (P:=P) hrep hsrc;obtain⟨b',cs,t',h1,h2,h3,h4⟩:=ok.ent id _ _ hH hm;cases h1;obtain⟨p1,p2,p3,h5,h6,h7,h8⟩:=Qm path dd hs hs' C1 off' (.p (.arr N s xs)) _ hg hc h3;simp only[repD,repC] at h7;obtain⟨hxl,hxs,h7⟩:=h7;have hlo:lo+ys.length≤xs.length:=by omega
 have hsplit:xs=xs.take lo++((xs.drop lo).take ys.length++xs.drop (lo+ys.length)):=by
  have e1:xs.drop (lo+ys.length)=(xs.drop lo).drop ys.length:=by rw[List.drop_drop]
  rw[e1,ybf,ybf]
 rw[hsplit] at h7;obtain⟨q1,q23,rfl,r1,r23⟩:=Z0 h7;obtain⟨q2,q3,rfl,r2,r3⟩:=Z0 r23;have hs1:allSz s (xs.take lo):=λz hz=>hxs z (ybn hz);have hs2:allSz s ((xs.drop lo).take ys.length):=λz hz=>hxs z (yct (ybn hz));have hs3:allSz s (xs.drop (lo+ys.length)):=λz hz=>hxs z (yct hz);have l1:q1.length=lo*s:=by rw[repCs_size _ _ r1,sizes_all hs1,yae,yav (by omega)]
 have l2:q2.length=ys.length*s:=by rw[repCs_size _ _ r2,sizes_all hs2,yae,ybq,yav (by omega)]
 have ln:news.length=ys.length*s:=hS.cells
 have hys:allSz s ys:=by
  by_cases h0:ys=[]
  ·subst h0;intro z hz;cases hz
  ·exact hall h0
 have hcells:repD σ (.p (.arr N s (ZoK xs ys lo))) (q1++(news++q3)):=by
  simp only[repD,repC];refine⟨?_, ?_, ?_⟩
  ·unfold ZoK;simp only[yr,yae,ybq];omega
  ·exact Xx hs1 (Xx hys hs3)
  ·exact Z4 r1 (Z4 hnr r3)
 obtain⟨h9,h10⟩:=h8 _ dd' _ hp rfl hcells;have h5':cs.toList.take dd.size=(p1++q1)++(q2++(q3++p3)):=by rw[h5];simp
 have hll:news.length=q2.length:=by rw[ln,l2]
 obtain⟨k1,k2⟩:=ZiK h5' hll h4;have hpl:(p1++q1).length=off'+lo*s:=by rw[yr,h6,l1]
 rw[hpl] at k1 k2
 have hnl:off'+lo*s+news.length≤cs.size:=by
  have:=congrArg List.length h5';simp only[yae,yas,yr] at this;omega
 have hone:∀v,v∈news→v.oneCell'=true:=repCs_one _ _ hnr;have hst:=run_storeCells_at P b (off'+lo*s) t' news 0 cs σ.w h2 (by simpa using hnl) hone;simp only[Nat.add_zero] at hst;let ncs:Array yh:=(cs.toList.take (off'+lo*s)++news++cs.toList.drop (off'+lo*s+news.length)).toArray
 have hstA:(storeCells A news 0).run P σ.w=.ok () (σ.w.setRow b ncs):=by
  by_cases h0:ys.length=0
  ·have hz:news=[]:=yaz (by rw[ln,h0];simp)
   have e1:ncs=cs:=by
    simp only[ncs,hz,List.append_nil,ych,Nat.add_zero,ybf,ybx]
   rw[e1,setRow_self σ.w b cs t' (0,0) h2,hz];simp[storeCells]
  ·rw[hA (by omega)];exact hst
 let σ':Sg:={ σ with m:=σ.m.set id (some b),H:=σ.H.set id (.var dd' true),w:=σ.w.setRow b ncs};have hblk:σ'.w.heap[b]? =some (.cells ncs t' (0,0)):=setRow_heap σ.w b cs _ t' _ h2;have hoth:∀j,b≠j→σ'.w.heap[j]? =σ.w.heap[j]? :=λj hj=>setRow_other σ.w b j _ (Ne.symm hj)
 obtain⟨to,ok'⟩:=Yz (σ':=σ') (mi:=some b) (mi':=some b) ok hH hm rfl rfl rfl rfl rfl rfl rfl (by simp[σ'])
  (λj hj hne=>hoth j (λhh=>hne (by rw[hh]))) (λb' o v _ hu _=>by cases hu) (λo _ hu=>by cases hu) (.inl rfl) (λ_=>⟨rfl,dd',true,rfl⟩) (λ⟨d,st,h⟩=>by cases h)
  (λs e xs h=>by cases h) (λleaf=>⟨b,ncs,t',rfl,hblk,by rw[h10];show repD σ' dd' (ncs.toList.take dd.size);rw[show ncs.toList.take dd.size=p1++((q1++(news++q3))++p3) from by rw[k1];simp];exact ZO leaf dd' _ h9,by
    rw[h10];show dd.size≤ncs.size;have:ncs.size=cs.size:=k2;omega⟩)
 refine ZE (σ':=σ') (v:=goInt ys.length) (ZFp ho hcal hargs htys ?_) to ok' (by rw[Ze rfl];simp[repD,repC,goInt])
 cases hi':P.info? e with
 |none=>simp[hi'] at hi
 |some i=>
  have hsz:i.size=s:=by rw[←hce];simp[Program.cellsOf,hi']
  have hmin:Nat.min ys.length n=ys.length:=yav hm';rw[hxv];simp[Builtin.copy_,run_underlying ht,hS.len,hmin,sizeOf,typeInfo,hi',hsz,hS.first,hstA,goInt,σ']
end
end Go.Ev
end
section
namespace Go.Ev
def Zf3:yh→Bool
 |.int _ _=>true
 |.bool _=>true
 |_=>false
mutual
theorem Zdv{w w':yy}{S S':Nat→Nat→Prop}:∀(x:Pl)(us vs:List yh),x.flat=true→repC w S x us→repC w' S' x vs→us=vs∧∀u,u∈us→Zf3 u=true
 |.int _ _,us,vs,_,h,k=>by simp only[repC] at h k;subst h;subst k;exact⟨rfl,λu hu=>by rw[yao.1 hu];rfl⟩
 |.bool _,us,vs,_,h,k=>by simp only[repC] at h k;subst h;subst k;exact⟨rfl,λu hu=>by rw[yao.1 hu];rfl⟩
 |.str _,_,_,h,_,_=>by simp[Pl.flat] at h
 |.ptr0,_,_,h,_,_=>by simp[Pl.flat] at h
 |.fn0,_,_,h,_,_=>by simp[Pl.flat] at h
 |.if0,_,_,h,_,_=>by simp[Pl.flat] at h
 |.map0,_,_,h,_,_=>by simp[Pl.flat] at h
 |.fnv _,_,_,h,_,_=>by simp[Pl.flat] at h
 |.agg xs,us,vs,hf,h,k=>by
  simp only[Pl.flat] at hf;simp only[repC] at h k
  exact flats_cells xs us vs hf h k
 |.arr n s xs,us,vs,hf,h,k=>by
  simp only[Pl.flat] at hf;simp only[repC] at h k
  exact flats_cells xs us vs hf h.2.2 k.2.2
 |.sl _ _ _,_,_,h,_,_=>by simp[Pl.flat] at h
 |.iface _ _,_,_,h,_,_=>by simp[Pl.flat] at h
theorem flats_cells{w w':yy}{S S':Nat→Nat→Prop}:∀(xs:List Pl)(us vs:List yh),Pl.flats xs=true→repCs w S xs us→repCs w' S' xs vs→us=vs∧∀u,u∈us→Zf3 u=true
 |[],us,vs,_,h,k=>by simp only[repCs] at h k;subst h;subst k;exact⟨rfl,λu hu=>by cases hu⟩
 |x::xs,us,vs,hf,h,k=>by
  simp only[Pl.flats,yi] at hf;simp only[repCs] at h k;obtain⟨a,b,rfl,h1,h2⟩:=h;obtain⟨c,d,rfl,k1,k2⟩:=k;obtain⟨rfl,e1⟩:=Zdv x a c hf.1 h1 k1;obtain⟨rfl,e2⟩:=flats_cells xs b d hf.2 h2 k2;refine⟨rfl,λu hu=> ?_⟩;rcases List.mem_append.1 hu with hu|hu
  ·exact e1 u hu
  ·exact e2 u hu
end
theorem ZlO{σ σ':Sg}{x:Pl}{a b:yh}(hf:x.flat=true)(ha:repDV σ (.p x) a)(hb:repDV σ' (.p x) b):a=b:=by
 cases hx:x.isAgg with
 |true=>
  obtain⟨cs,rfl,h⟩:=(ZZ (d:=.p x) hx).1 ha;obtain⟨ds,rfl,k⟩:=(ZZ (d:=.p x) hx).1 hb;simp only[repD] at h k;obtain⟨e,_⟩:=Zdv x _ _ hf h k
  rw[show cs=ds from by cases cs;cases ds;simpa using e]
 |false=>
  have h:=(Ze (d:=.p x) hx).1 ha;have k:=(Ze (d:=.p x) hx).1 hb;simp only[repD] at h k;obtain⟨e,_⟩:=Zdv x _ _ hf h k;simpa using e
theorem Zsz(n:Nat):∀{u:yh},Zf3 u=true→Instr.sameBits n u u=true:=by
 intro u h;cases u <;> first|(cases n <;> simp[Instr.sameBits];done)|(simp[Zf3] at h)
theorem Zwd{σ:Sg}{x:Pl}{a:yh}(hf:x.flat=true)(ha:repDV σ (.p x) a):Instr.sameBits 10000 a a=true:=by
 cases hx:x.isAgg with
 |true=>
  obtain⟨cs,rfl,h⟩:=(ZZ (d:=.p x) hx).1 ha;simp only[repD] at h;obtain⟨_,e⟩:=Zdv x _ _ hf h h;show(cs.size==cs.size&&(cs.toList.zip cs.toList).all λ(x,y)=>Instr.sameBits 9999 x y)=true;simp only[beq_self_eq_true,Bool.true_and,List.all_eq_true];intro p hp
  have key:∀(l:List yh),(∀u,u∈l→Zf3 u=true)→∀p,p∈l.zip l→Instr.sameBits 9999 p.1 p.2=true:=by
   intro l
   induction l with
   |nil=>intro _ p hp;cases hp
   |cons z r ih=>
    intro hz p hp;simp only[List.zip_cons_cons] at hp;rcases ycf.1 hp with rfl|hp
    ·exact Zsz 9999 (hz z (yap ..))
    ·exact ih (λu hu=>hz u (yau _ hu)) p hp
  exact key _ e p hp
 |false=>
  have h:=(Ze (d:=.p x) hx).1 ha;simp only[repD] at h;obtain⟨_,e⟩:=Zdv x _ _ hf h h;exact Zsz 10000 (e a (yao.2 rfl))
theorem Zwe{P:yg}{n:Nat}(ih:∀(t:yb)(x:Pl),fitP P n t x→x.flat=true):∀(fs:List Field)(o:Nat)(xs:List Pl),ZfY P (fitP P n) fs o xs→Pl.flats xs=true
 |[],_,[],_=>rfl
 |[],_,_::_,h=>h.elim
 |_::_,_,[],h=>h.elim
 |f::fs,o,y::ys,h=>by
  obtain⟨_,_,_,_,_,_,_,a,b⟩:=h;simp only[Pl.flats,ih _ _ a,Zwe ih fs _ ys b,Bool.and_self]
theorem Zwf:∀{xs:List Pl},(∀y,y∈xs→y.flat=true)→Pl.flats xs=true
 |[],_=>rfl
 |x::xs,h=>by simp only[Pl.flats,h x (yap ..),Zwf λy hy=>h y (yau _ hy),Bool.and_self]
theorem Zdw{P:yg}:∀(n:Nat)(t:yb)(x:Pl),fitP P n t x→x.flat=true
 |0,_,_,h=>by simp[fitP] at h
 |n+1,t,x,h=>by
  unfold fitP at h;split at h
  ·rfl
  ·rfl
  ·obtain⟨_,_,_,_,_,h⟩:=h;simp only[Pl.flat];exact Zwf λy hy=>Zdw n _ y (h y hy).1
  ·simp only[Pl.flat];exact Zwe (Zdw n) _ _ _ h.2
  ·exact h.elim
theorem XA{P:yg}{σ:Sg}{em:Bool}:∀(n:Nat)(t:yb)(x:Pl)(a:yh),fitP P n t x→repDV σ (.p x) a→∀d,(Instr.checkKey em (d+n) t a).run P σ.w=.ok () σ.w
 |0,_,_,_,h,_,_=>by simp[fitP] at h
 |n+1,t,x,a,hx,ra,d=>by
  unfold fitP at hx;rw[show d+(n+1)=(d+n)+1 from rfl]
  split at hx
  ·rename_i hu;rw[Yk ra];simp[Instr.checkKey,run_underlying hu]
  ·rename_i k k' z hu;rw[ZD ra];simp[Instr.checkKey,run_underlying hu]
  ·rename_i m e m' s xs hu;obtain⟨rfl,h1,h2,h3,h4,h5⟩:=hx;rw[ZZ (by rfl)] at ra;obtain⟨cs,rfl,ra⟩:=ra;simp only[repD] at ra;obtain⟨n1,ra1,ra2⟩:=Zsx ra;clear ra ra1;subst n1;rw[Instr.checkKey];simp only[Sem.run_bind,run_underlying hu,Result.andThen_ok];simp only[Std.Legacy.Range.forIn_eq_forIn_range',Std.Legacy.Range.size,Nat.sub_zero,Nat.add_one_sub_one,Nat.div_one];obtain⟨i,p,us,hi0,e1,l1,r1⟩:∃(i:Nat)(p us:List yh),i=0∧cs.toList=p++us∧p.length=i*s∧repCs σ.w σ.stab xs us:=⟨0,[],cs.toList,rfl,rfl,by simp,ra2⟩;rw[←hi0];clear hi0 ra2 hu
   induction xs generalizing i p us with
   |nil=>simp
   |cons x xs ih=>
    simp only[repCs] at r1;obtain⟨u1,u2,rfl,q1,q2⟩:=r1;obtain⟨f1,f2,f3⟩:=h5 x (yap ..);obtain⟨a,ha,ra⟩:=QD (P:=P) (σ:=σ) (t:=e) (d:=.p x) e1 (by simpa[repD] using q1) (by rw[h1];exact f2.symm) h3 h4 f3 (by show x.size≠0;omega);rw[l1] at ha;have s1:=Xe _ _ q1;have hk:=XA (em:=em) n e x a f1 ra d;rw[yai,List.range'_succ];simp only[List.forIn_cons,Sem.run_bind,ZQ h3,h1,Result.andThen_ok,ha,hk,Sem.run_pure];exact ih (λy hy=>h5 y (yau _ hy)) (i+1) (p++u1) u2 (by rw[e1,yak]) (by rw[yr,l1,s1,f2,yat,Nat.one_mul]) q2
  ·rename_i fs xs hu;obtain⟨h1,h2⟩:=hx;rw[ZZ (by rfl)] at ra;obtain⟨cs,rfl,ra⟩:=ra;simp only[repD,repC] at ra;rw[Instr.checkKey];simp only[Sem.run_bind,run_underlying hu,Result.andThen_ok];rw[←Array.forIn_toList];obtain⟨o,p,us,ho,e1,l1,r1⟩:∃(o:Nat)(p us:List yh),o=0∧cs.toList=p++us∧p.length=o∧repCs σ.w σ.stab xs us:=⟨0,[],cs.toList,rfl,rfl,rfl,ra⟩;rw[←ho] at h2;clear ho ra hu;generalize fs.toList=L at*
   induction L generalizing xs o p us with
   |nil=>simp
   |cons f L ih=>
    cases xs with
    |nil=>exact h2.elim
    |cons x xs=>
     obtain⟨a1,a2,a3,a4,a5,a6,a7,a8,a9⟩:=h2;simp only[repCs] at r1;obtain⟨u1,u2,rfl,q1,q2⟩:=r1;obtain⟨a,ha,ra⟩:=QD (P:=P) (σ:=σ) (t:=f.type) (d:=.p x) e1 (by simpa[repD] using q1) a3 a4 a5 a6 a7;rw[l1, ←a2] at ha;have s1:=Xe _ _ q1;have hk:=XA (em:=em) n f.type x a a8 ra d;simp only[List.forIn_cons,a1,ne_eq,not_false_eq_true,if_true,Sem.run_bind,ha,Result.andThen_ok,hk,Sem.run_pure];exact ih xs (o+x.size) (p++u1) u2 (by rw[e1,yak]) (by rw[yr,l1,s1]) q2 a9
  ·exact hx.elim
end Go.Ev
namespace Go.Ev
structure Finder(P:yg)(σ:Sg)(kt:yb)(k:Pl)(F:List MapEntry→Nat→Option (Nat×yh)→Prop):Prop where
 nil:∀i,F [] i none
 eq:∀(e:MapEntry)es i(q:Pl),fitP P 20 kt q→repDV σ (.p q) e.key→k=q→F (e::es) i (some (i,e.val))
 ne:∀(e:MapEntry)es i(q:Pl)r,fitP P 20 kt q→repDV σ (.p q) e.key→k≠q→F es (i+1) r→F (e::es) i r
theorem ZsA{P:yg}{σ:Sg}{kt:yb}{k:Pl}{a:yh}(hk:fitP P 20 kt k)(ra:repDV σ (.p k) a):Finder P σ kt k λes i r=>(Instr.findAsking kt a es i).run P σ.w=.ok r σ.w where
 nil i:=by simp[Instr.findAsking]
 eq e es i q hq rq h:=by
  have:=ZoU (β:=true) hk hq ra rq (by simp[h]);simp[Instr.findAsking,this]
 ne e es i q r hq rq h hr:=by
  have:=ZoU (β:=false) hk hq ra rq (by simp[h]);simp[Instr.findAsking,this,hr]
theorem ZsB{P:yg}{σ:Sg}{kt:yb}{d:TypeDesc}{k:Pl}{a:yh}(hd:P.underlying kt=some d)(hs:(∃q,d=.int q)∨d=.bool)(hk:fitP P 20 kt k)(ra:repDV σ (.p k) a):
 Finder P σ kt k λes i r=>Instr.findNow d a es i=some r where
 nil i:=rfl
 eq e es i q hq rq h:=by
  subst h;have hv:=ZlO (Zdw 20 kt k hk) ra rq;unfold fitP at hk;rw[hd] at hk;rcases hs with⟨kk,rfl⟩|rfl
  ·cases k <;> first|exact hk.elim|skip
   subst hk;have e1:=ZD rq;have e2:=ZD ra;simp[Instr.findNow,Instr.sameNow,e1,e2]
  ·cases k <;> first|exact hk.elim|skip
   have e1:=Yk rq;have e2:=Yk ra;simp[Instr.findNow,Instr.sameNow,e1,e2]
 ne e es i q r hq rq h hr:=by
  unfold fitP at hk hq;rw[hd] at hk hq;rcases hs with⟨kk,rfl⟩|rfl
  ·cases k <;> first|exact hk.elim|skip
   cases q <;> first|exact hq.elim|skip
   subst hk;have hq':=hq;simp only at hq';subst hq';have e1:=ZD rq;have e2:=ZD ra;have h':¬(‹Int› :Int)=_:=λhh=>h (by rw[hh]);rw[e2] at hr ⊢;simp only[Instr.findNow,Instr.sameNow,e1,if_true];rw[beq_eq_false_iff_ne.2 (λhh=>h' hh.symm)];exact hr
  ·cases k <;> first|exact hk.elim|skip
   cases q <;> first|exact hq.elim|skip
   have e1:=Yk rq;have e2:=Yk ra;have h':¬(‹Bool› :Bool)=_:=λhh=>h (by rw[hh]);rw[e2] at hr ⊢;simp only[Instr.findNow,Instr.sameNow,e1];rw[beq_eq_false_iff_ne.2 (λhh=>h' hh.symm)];exact hr
theorem ZzT{P:yg}{σ:Sg}{kt:yb}{k:Pl}{F:List MapEntry→Nat→Option (Nat×yh)→Prop}(hF:Finder P σ kt k F):∀(kvs:List (Pl×Pl))(es:List MapEntry)(i:Nat)(r:Option Pl),Zar σ kvs es→Qi P kt kvs→X6 kvs k r→
 (r=none→F es i none)∧∀v,r=some v→∃(j:Nat)(u:yh),F es i (some (j,u))∧repDV σ (.p v) u
 |[],[],i,r,_,_,h=>by
  simp only[X6] at h;subst h
  exact⟨λ_=>hF.nil i,λv hv=>by cases hv⟩
 |[],_::_,_,_,h,_,_=>h.elim
 |_::_,[],_,_,h,_,_=>h.elim
 |q::l,e::es,i,r,⟨r1,r2,r3⟩,hf,h=>by
  have hq:=hf q (yap ..);simp only[X6] at h;rcases h with⟨h1,rfl⟩|⟨h1,h2⟩
  ·exact⟨λh=>(by cases h),λv hv=>⟨i,e.val,hF.eq e es i q.1 hq r1 h1,by cases hv;exact r2⟩⟩
  ·obtain⟨a1,a2⟩:=ZzT hF l es (i+1) r r3 (λz hz=>hf z (yau _ hz)) h2;refine⟨λh=>hF.ne e es i q.1 none hq r1 h1 (a1 h),λv hv=> ?_⟩;obtain⟨j,u,b1,b2⟩:=a2 v hv;exact⟨j,u,hF.ne e es i q.1 _ hq r1 h1 b1,b2⟩
theorem ZsC{P:yg}{σ:Sg}{kt:yb}{k v:Pl}{F:List MapEntry→Nat→Option (Nat×yh)→Prop}(hF:Finder P σ kt k F):∀(kvs:List (Pl×Pl))(es:List MapEntry)(i:Nat)(l:List (Pl×Pl)),Zar σ kvs es→Qi P kt kvs→VG kvs k v l→
 (∃(j:Nat)(e:MapEntry),F es i (some (i+j,e.val))∧es[j]? =some e∧repDV σ (.p k) e.key∧∀e',repDV σ (.p k) e'.key→repDV σ (.p v) e'.val→Zar σ l (es.set j e'))∨
 (F es i none∧∀e',repDV σ (.p k) e'.key→repDV σ (.p v) e'.val→Zar σ l (es++[e']))
 |[],[],i,l,_,_,h=>by
  simp only[VG] at h;subst h
  exact .inr ⟨hF.nil i,λe' h1 h2=>⟨h1,h2,ytt⟩⟩
 |[],_::_,_,_,h,_,_=>h.elim
 |_::_,[],_,_,h,_,_=>h.elim
 |q::r,e::es,i,l,⟨r1,r2,r3⟩,hf,h=>by
  have hq:=hf q (yap ..);simp only[VG] at h;rcases h with⟨h1,rfl⟩|⟨h1,l',rfl,h2⟩
  ·exact .inl ⟨0,e,hF.eq e es i q.1 hq r1 h1,rfl,by rw[h1];exact r1,λe' k1 k2=>⟨k1,k2,r3⟩⟩
  ·rcases ZsC hF r es (i+1) l' r3 (λz hz=>hf z (yau _ hz)) h2 with⟨j,e2,b1,b2,b3,b4⟩|⟨b1,b2⟩
   ·exact .inl ⟨j+1,e2,by have:=hF.ne e es i q.1 _ hq r1 h1 b1;rwa [show i+1+j=i+(j+1) by omega] at this,by simpa using b2,b3,λe' k1 k2=>⟨r1,r2,b4 e' k1 k2⟩⟩
   ·exact .inr ⟨hF.ne e es i q.1 _ hq r1 h1 b1,λe' k1 k2=>⟨r1,r2,b2 e' k1 k2⟩⟩
theorem ZzU{P:yg}{σ:Sg}{kt:yb}{k:Pl}{F:List MapEntry→Nat→Option (Nat×yh)→Prop}(hF:Finder P σ kt k F):∀(kvs:List (Pl×Pl))(es:List MapEntry)(i:Nat)(l:List (Pl×Pl)),Zar σ kvs es→Qi P kt kvs→ZbB kvs k l→
 (∃(j:Nat)(u:yh),F es i (some (i+j,u))∧j < es.length∧Zar σ l (es.eraseIdx j))∨(F es i none∧Zar σ l es)
 |[],[],i,l,_,_,h=>by
  simp only[ZbB] at h;subst h
  exact .inr ⟨hF.nil i,ytt⟩
 |[],_::_,_,_,h,_,_=>h.elim
 |_::_,[],_,_,h,_,_=>h.elim
 |q::r,e::es,i,l,⟨r1,r2,r3⟩,hf,h=>by
  have hq:=hf q (yap ..);simp only[ZbB] at h;rcases h with⟨h1,rfl⟩|⟨h1,l',rfl,h2⟩
  ·exact .inl ⟨0,e.val,hF.eq e es i q.1 hq r1 h1,by simp,r3⟩
  ·rcases ZzU hF r es (i+1) l' r3 (λz hz=>hf z (yau _ hz)) h2 with⟨j,u,b1,b2,b3⟩|⟨b1,b2⟩
   ·exact .inl ⟨j+1,u,by have:=hF.ne e es i q.1 _ hq r1 h1 b1;rwa [show i+1+j=i+(j+1) by omega] at this,by simpa using b2,⟨r1,r2,b3⟩⟩
   ·exact .inr ⟨hF.ne e es i q.1 _ hq r1 h1 b1,⟨r1,r2,b2⟩⟩
theorem Zwg{σ:Sg}{es:List MapEntry}(h:Zdh σ [] es):Zar σ [] es:=by
 obtain⟨l,p,_,r⟩:=h;rw[List.Perm.eq_nil p] at r;exact r
theorem Zwh{σ:Sg}{q:Pl×Pl}{es:List MapEntry}(h:Zar σ [q] es):Zdh σ [q] es:=⟨_,.refl _,by simp,h⟩
theorem Zwi{k v:Pl}:∀{l:List (Pl×Pl)},X6 l k (some v)→(k,v)∈l
 |[],h=>by simp[X6] at h
 |q::r,h=>by
  simp only[X6] at h;rcases h with⟨rfl,h⟩|⟨_,h⟩
  ·cases h;exact yap ..
  ·exact yau _ (Zwi h)
theorem ZzV{k:Pl}:∀{l:List (Pl×Pl)},X6 l k none→∀q,q∈l→q.1≠k
 |[],_,q,hq=>by cases hq
 |x::r,h,q,hq=>by
  simp only[X6] at h;rcases h with⟨_,h⟩|⟨h1,h⟩
  ·cases h
  ·rcases ycf.1 hq with rfl|hq
   ·exact λe=>h1 e.symm
   ·exact ZzV h q hq
theorem ZzW{k v:Pl}:∀{l:List (Pl×Pl)},(l.map (·.1)).Nodup→(k,v)∈l→X6 l k (some v)
 |[],_,h=>by cases h
 |q::r,nd,h=>by
  simp only[X6];rw[yad,List.nodup_cons] at nd;rcases ycf.1 h with rfl|h
  ·exact .inl ⟨rfl,rfl⟩
  ·refine .inr ⟨λe=>nd.1 ?_,ZzW nd.2 h⟩;rw[←e];exact ybu.2 ⟨_,h,rfl⟩
theorem Zwj{k:Pl}:∀{l:List (Pl×Pl)},(∀q,q∈l→q.1≠k)→X6 l k none
 |[],_=>by simp[X6]
 |q::r,h=>by
  simp only[X6];exact .inr ⟨λe=>h q (yap ..) e.symm,Zwj λx hx=>h x (yau _ hx)⟩
theorem ZB8{k:Pl}{r:Option Pl}{l l':List (Pl×Pl)}(p:l'.Perm l)(nd:(l.map (·.1)).Nodup)(h:X6 l k r):X6 l' k r:=by
 cases r with
 |none=>exact Zwj λq hq=>ZzV h q (p.mem_iff.1 hq)
 |some v=>exact ZzW ((p.map _).nodup_iff.2 nd) (p.mem_iff.2 (Zwi h))
section
open Classical
theorem ZsD{k:Pl}:∀{l:List (Pl×Pl)},(∀q,q∈l→q.1≠k)→(l.filter λq=>decide (q.1≠k))=l:=λh=>List.filter_eq_self.2 λq hq=>decide_eq_true (h q hq)
theorem ZlP{k v:Pl}:∀{l m:List (Pl×Pl)},(l.map (·.1)).Nodup→VG l k v m→m.Perm ((k,v)::l.filter λq=>decide (q.1≠k))
 |[],m,_,h=>by
  simp only[VG] at h;subst h
  exact .refl _
 |q::r,m,nd,h=>by
  rw[yad,List.nodup_cons] at nd;simp only[VG] at h;rcases h with⟨rfl,rfl⟩|⟨h1,l',rfl,h⟩
  ·rw[List.filter_cons_of_neg (by simp),ZsD (λx hx e=>nd.1 (by rw[←e];exact ybu.2 ⟨_,hx,rfl⟩))]
  ·rw[List.filter_cons_of_pos (by simpa using λe:q.1=k=>h1 e.symm)];exact((ZlP nd.2 h).cons q).trans (.swap _ _ _)
theorem ZzX(k v:Pl):∀(l:List (Pl×Pl)),∃m,VG l k v m
 |[]=>⟨_,rfl⟩
 |q::r=>by
  by_cases h:k=q.1
  ·exact⟨_,.inl ⟨h,rfl⟩⟩
  ·obtain⟨m,hm⟩:=ZzX k v r;exact⟨_,.inr ⟨h,m,rfl,hm⟩⟩
theorem ZlQ{k:Pl}:∀{l m:List (Pl×Pl)},(l.map (·.1)).Nodup→ZbB l k m→m=l.filter λq=>decide (q.1≠k)
 |[],m,_,h=>by
  simp only[ZbB] at h;subst h
  rfl
 |q::r,m,nd,h=>by
  rw[yad,List.nodup_cons] at nd;simp only[ZbB] at h;rcases h with⟨rfl,rfl⟩|⟨h1,l',rfl,h⟩
  ·rw[List.filter_cons_of_neg (by simp),ZsD (λx hx e=>nd.1 (by rw[←e];exact ybu.2 ⟨_,hx,rfl⟩))]
  ·rw[List.filter_cons_of_pos (by simpa using λe:q.1=k=>h1 e.symm), ←ZlQ nd.2 h]
theorem ZzY(k:Pl):∀(l:List (Pl×Pl)),∃m,ZbB l k m
 |[]=>⟨_,rfl⟩
 |q::r=>by
  by_cases h:k=q.1
  ·exact⟨_,.inl ⟨h,rfl⟩⟩
  ·obtain⟨m,hm⟩:=ZzY k r;exact⟨_,.inr ⟨h,m,rfl,hm⟩⟩
theorem ZzZ{k:Pl}{l:List (Pl×Pl)}(nd:(l.map (·.1)).Nodup):((l.filter λq=>decide (q.1≠k)).map (·.1)).Nodup:=nd.sublist ((List.filter_sublist (l:=l)).map _)
theorem ZB9{k v:Pl}{l l' m:List (Pl×Pl)}(p:l'.Perm l)(nd:(l.map (·.1)).Nodup)(h:VG l k v m):(m.map (·.1)).Nodup∧∃m',VG l' k v m'∧m'.Perm m:=by
 have nd':=(p.map (·.1)).nodup_iff.2 nd;obtain⟨m',hm⟩:=ZzX k v l';have e:=ZlP nd h;refine⟨(e.map _).nodup_iff.2 ?_,m',hm,(ZlP nd' hm).trans ((List.Perm.cons _ (p.filter _)).trans e.symm)⟩;rw[yad,List.nodup_cons];refine⟨λhk=> ?_,ZzZ nd⟩;obtain⟨q,h1,h2⟩:=ybu.1 hk;have:=(List.mem_filter.1 h1).2;simp at this;exact this h2
theorem ZCa{k:Pl}{l l' m:List (Pl×Pl)}(p:l'.Perm l)(nd:(l.map (·.1)).Nodup)(h:ZbB l k m):(m.map (·.1)).Nodup∧∃m',ZbB l' k m'∧m'.Perm m:=by
 have nd':=(p.map (·.1)).nodup_iff.2 nd;obtain⟨m',hm⟩:=ZzY k l';rw[ZlQ nd h];exact⟨ZzZ nd,m',hm,by rw[ZlQ nd' hm];exact p.filter _⟩
end
theorem ZDQ{P:yg}{σ:Sg}{kt:yb}{k:Pl}{F:List MapEntry→Nat→Option (Nat×yh)→Prop}(hF:Finder P σ kt k F)(kvs:List (Pl×Pl))(es:List MapEntry)(i:Nat)(r:Option Pl)(h:Zdh σ kvs es)(hf:Qi P kt kvs)(hg:X6 kvs k r):
 (r=none→F es i none)∧∀v,r=some v→∃(j:Nat)(u:yh),F es i (some (j,u))∧repDV σ (.p v) u:=by
 obtain⟨l,p,nd,hr⟩:=h;exact ZzT hF l es i r hr (λq hq=>hf q (p.mem_iff.1 hq)) (ZB8 p nd hg)
theorem ZDR{P:yg}{σ:Sg}{kt:yb}{k v:Pl}{F:List MapEntry→Nat→Option (Nat×yh)→Prop}(hF:Finder P σ kt k F)(kvs:List (Pl×Pl))(es:List MapEntry)(i:Nat)(l:List (Pl×Pl))(h:Zdh σ kvs es)(hf:Qi P kt kvs)(hp:VG kvs k v l):
 (∃(j:Nat)(e:MapEntry),F es i (some (i+j,e.val))∧es[j]? =some e∧repDV σ (.p k) e.key∧∀e',repDV σ (.p k) e'.key→repDV σ (.p v) e'.val→Zdh σ l (es.set j e'))∨
 (F es i none∧∀e',repDV σ (.p k) e'.key→repDV σ (.p v) e'.val→Zdh σ l (es++[e'])):=by
 obtain⟨l',p,nd,hr⟩:=h;obtain⟨nd2,m',hm,p2⟩:=ZB9 p nd hp;rcases ZsC hF l' es i m' hr (λq hq=>hf q (p.mem_iff.1 hq)) hm with⟨j,e,a1,a2,a3,a4⟩|⟨a1,a2⟩
 ·exact .inl ⟨j,e,a1,a2,a3,λe' h1 h2=>⟨m',p2,nd2,a4 e' h1 h2⟩⟩
 ·exact .inr ⟨a1,λe' h1 h2=>⟨m',p2,nd2,a2 e' h1 h2⟩⟩
theorem ZJt{P:yg}{σ:Sg}{kt:yb}{k:Pl}{F:List MapEntry→Nat→Option (Nat×yh)→Prop}(hF:Finder P σ kt k F)(kvs:List (Pl×Pl))(es:List MapEntry)(i:Nat)(l:List (Pl×Pl))(h:Zdh σ kvs es)(hf:Qi P kt kvs)(hp:ZbB kvs k l):
 (∃(j:Nat)(u:yh),F es i (some (i+j,u))∧j < es.length∧Zdh σ l (es.eraseIdx j))∨(F es i none∧Zdh σ l es):=by
 obtain⟨l',p,nd,hr⟩:=h;obtain⟨nd2,m',hm,p2⟩:=ZCa p nd hp;rcases ZzU hF l' es i m' hr (λq hq=>hf q (p.mem_iff.1 hq)) hm with⟨j,u,a1,a2,a3⟩|⟨a1,a2⟩
 ·exact .inl ⟨j,u,a1,a2,m',p2,nd2,a3⟩
 ·exact .inr ⟨a1,m',p2,nd2,a2⟩
theorem ZaI{P:yg}{σ:Sg}{kt:yb}{k:Pl}{a:yh}(hkt:ZfZ P kt=true)(hk:fitP P 20 kt k)(ra:repDV σ (.p k) a):
 ∃F,Finder P σ kt k F∧∀es r,F es 0 r→(Instr.findKey kt a es).run P σ.w=.ok r σ.w:=by
 unfold ZfZ at hkt;split at hkt
 ·rename_i q hu;exact⟨_,ZsB hu (.inl ⟨_,rfl⟩) hk ra,λes r h=>Go.MapKept.run_findKey hu h⟩
 ·rename_i hu;exact⟨_,ZsB hu (.inr rfl) hk ra,λes r h=>Go.MapKept.run_findKey hu h⟩
 ·rename_i n e hu;exact⟨_,ZsA hk ra,λes r h=>by rw[run_findKey_eq σ.w (by rw[hu])];exact h⟩
 ·rename_i fs hu;exact⟨_,ZsA hk ra,λes r h=>by rw[run_findKey_eq σ.w (by rw[hu])];exact h⟩
 ·cases hkt
theorem ZlR{σ:Sg}{id:Nat}{v:yh}(h:repDV σ (.mp id) v):∃b,σ.m[id]? =some (some b)∧v=.map (some b):=by
 rw[Ze rfl] at h;simp only[repD] at h;obtain⟨b,h1,_,h2⟩:=h;exact⟨b,h1,by simpa using h2⟩
theorem ZoV{σ:Sg}:∀(l:List (Pl×Pl))(es:List MapEntry),Zar σ l es→es.length=l.length
 |[],[],_=>rfl
 |[],_::_,h=>h.elim
 |_::_,[],h=>h.elim
 |_::l,_::es,h=>by rw[yai,yai,ZoV l es h.2.2]
theorem Zz0{es:Array MapEntry}{clock:Nat}(h:ZgK es clock)(j:Nat){f:MapEntry→MapEntry}(hf:∀e,(f e).born=e.born):ZgK (es.modify j f) clock:=by
 have key:∀(q:Nat)en,(es.modify j f)[q]? =some en→∃en0,es[q]? =some en0∧en.born=en0.born:=by
  intro q en hq;rw[Array.getElem?_modify] at hq;split at hq
  ·obtain⟨e0,h1,h2⟩:=yp.1 hq;exact⟨e0,h1,by rw[←h2,hf]⟩
  ·exact⟨en,hq,rfl⟩
 refine⟨λq en hq=> ?_,λq q' en en' hq hq' he=> ?_⟩
 ·obtain⟨e0,h1,h2⟩:=key q en hq;rw[h2];exact h.1 q e0 h1
 ·obtain⟨e0,h1,h2⟩:=key q en hq;obtain⟨e1,h3,h4⟩:=key q' en' hq';exact h.2 q q' e0 e1 h1 h3 (by rw[←h2, ←h4,he])
theorem Zkd{es:Array MapEntry}{clock:Nat}(h:ZgK es clock){e:MapEntry}(he:e.born=clock):ZgK (es.push e) (clock+1):=by
 have key:∀(q:Nat)en,(es.push e)[q]? =some en→(es[q]? =some en∧en.born < clock)∨(q=es.size∧en.born=clock):=by
  intro q en hq;rw[Array.getElem?_push] at hq;split at hq
  ·rename_i h0;cases hq;exact .inr ⟨h0,he⟩
  ·exact .inl ⟨hq,h.1 q en hq⟩
 refine⟨λq en hq=> ?_,λq q' en en' hq hq' hb=> ?_⟩
 ·rcases key q en hq with⟨_,h1⟩|⟨_,h1⟩ <;> omega
 ·rcases key q en hq with⟨h1,h2⟩|⟨h1,h2⟩ <;> rcases key q' en' hq' with⟨h3,h4⟩|⟨h3,h4⟩
  ·exact h.2 q q' en en' h1 h3 hb
  ·omega
  ·omega
  ·omega
theorem ZCb{es:Array MapEntry}{clock:Nat}(h:ZgK es clock)(j:Nat):ZgK (es.eraseIdxIfInBounds j) clock:=by
 have key:∀(q:Nat)en,(es.eraseIdxIfInBounds j)[q]? =some en→es[if q < j then q else q+1]? =some en:=by
  intro q en hq;rw[←ybr,Array.toList_eraseIdxIfInBounds,List.getElem?_eraseIdx] at hq;rw[←ybr];split at hq <;> rename_i h0
  ·rw[if_pos h0];exact hq
  ·rw[if_neg h0];exact hq
 refine⟨λq en hq=>h.1 _ en (key q en hq),λq q' en en' hq hq' hb=> ?_⟩;have:=h.2 _ _ en en' (key q en hq) (key q' en' hq') hb;split at this <;> split at this <;> omega
theorem Xj{P:yg}{w:yy}{b:Nat}{es:Array MapEntry}{clock:Nat}(h:w.heap[b]? =some (.map es clock)):(getObj b).run P w=.ok (.map es clock) w:=Go.MapKept.run_getObj_map h
section
variable{P:yg}{o:Oper}{a:Act}{σ:Sg}{ts:List Dv}{hs hs':List Hint}{C:List Prop}{d:Dv}{H':List Ent}
theorem Zwk{σ:Sg}{x y:Dv}{u v:yh}(h1:repDV σ x u)(h2:repDV σ y v):repDV σ (.tup [x,y]) (.tuple #[u,v]):=by
 rw[Ze rfl];simp only[repD];exact⟨#[u,v],rfl,by simp only[repVs];exact⟨u,[v],rfl,h1,v,[],rfl,h2,rfl⟩⟩
theorem ZGA(ok:Ok σ)(hrep:RepT σ ts a){t:yb}{x ix:yn}{comma:Bool}(ho:o.op=.lookup t x ix comma)(h:evR P o ts σ.H hs=some (C,d,hs'))(hc:AllP C):Ym P o a σ d σ.H:=by
 simp only[evR,ho] at h;have hx:=Zi (P:=P) hrep t x;split at h
 ·rename_i kt et id hu hxa;rw[hxa] at hx;obtain⟨b,hm,hv⟩:=ZlR hx;have hix:=Zi (P:=P) hrep kt ix;split at h
  ·rename_i k t' kvs v hs1 hk hH;rw[hk] at hix;obtain⟨b',es,clock,h1,h2,h3,h3b⟩:=ok.ent id _ _ hH hm;cases h1;split at h
   ·rename_i hkt;simp only[yj,yl] at h;obtain⟨rfl,rfl,rfl⟩:=h;obtain⟨c1,c2,c3,_⟩:=hc;obtain⟨F,hF,hrun⟩:=ZaI (P:=P) hkt c1 hix;obtain⟨_,g2⟩:=ZDQ hF kvs es.toList 0 _ h3 c2 c3;obtain⟨j,u,g3,g4⟩:=g2 v rfl;have g5:=hrun _ _ g3;have g6:=XA (em:=es.isEmpty) 20 kt k _ c1 hix 9980
    have hrunL:(Instr.lookup t (a.eval x) (a.eval ix) comma).run P σ.w=.ok (if comma then .tuple #[u,.bool true] else u) σ.w:=by
     simp only[Instr.lookup,Sem.run_bind,run_underlying hu,Result.andThen_ok,hv,Xj h2,Sem.run_pure,g6,g5]
    refine Zh ok (by simp[execOp,ho,hrunL];rfl) ?_;cases comma
    ·exact g4
    ·exact Zwk g4 (Z6 _)
   ·cases h
  ·rename_i k t' kvs hs1 hk hH;rw[hk] at hix;obtain⟨b',es,clock,h1,h2,h3,h3b⟩:=ok.ent id _ _ hH hm;cases h1;split at h
   ·rename_i hkt;simp only[yi] at hkt;simp only[yj,yl] at h;obtain⟨rfl,rfl,rfl⟩:=h;obtain⟨c1,c2,c3,_⟩:=hc;obtain⟨F,hF,hrun⟩:=ZaI (P:=P) hkt.1 c1 hix;obtain⟨g1,_⟩:=ZDQ hF kvs es.toList 0 _ h3 c2 c3;have g5:=hrun _ _ (g1 rfl);have g6:=XA (em:=es.isEmpty) 20 kt k _ c1 hix 9980
    obtain⟨hz,hkt2⟩:∃z,(zeroValue et).run P σ.w=.ok z σ.w∧repDV σ (Yr P et) z:=by
     have h9:=hkt.2;unfold Zka at h9;split at h9
     ·rename_i i hi
      cases hzz:i.zero with
      |none=>simp[hzz] at h9
      |some z=>
       refine⟨z,by simp[zeroValue,typeInfo,hi,hzz], ?_⟩;unfold Yr;rw[hi];simp only[hzz];exact Wh
     ·cases h9
    have hrunL:(Instr.lookup t (a.eval x) (a.eval ix) comma).run P σ.w=.ok (if comma then .tuple #[hz,.bool false] else hz) σ.w:=by
     simp only[Instr.lookup,Sem.run_bind,run_underlying hu,Result.andThen_ok,hv,Xj h2,Sem.run_pure,g6,g5,hkt2.1]
    refine Zh ok (by simp[execOp,ho,hrunL];rfl) ?_;cases comma
    ·exact hkt2.2
    ·exact Zwk hkt2.2 (Z6 _)
   ·cases h
  ·cases h
 ·cases h
theorem ZGB(ok:Ok σ)(hrep:RepT σ ts a){c:Call}(ho:o.op=.call c)(hcal:c.callee=.builtin .len)(h:evR P o ts σ.H hs=some (C,d,hs'))(hc:AllP C):Ym P o a σ d σ.H:=by
 simp only[evR,ho,hcal] at h;split at h
 ·rename_i x t hargs htys;have hx:=Zi (P:=P) hrep t x;split at h
  ·rename_i kt et id hu hxa;rw[hxa] at hx;obtain⟨b,hm,hv⟩:=ZlR hx;split at h
   ·rename_i t' kvs hH;obtain⟨b',es,clock,h1,h2,h3,h3b⟩:=ok.ent id _ _ hH hm;cases h1;simp only[yj,yl] at h;obtain⟨rfl,rfl,rfl⟩:=h
    have hl:es.toList.length=kvs.length:=by
     obtain⟨l',p,_,hr⟩:=h3;rw[ZoV _ _ hr,p.length_eq]
    refine Zh ok (Zds ho hcal hargs htys (v:=goInt es.size) (by rw[hv];simp[Builtin.len_,run_underlying hu,Xj h2])) ?_;rw[←yas,hl];exact Zs _ _
   ·cases h
  ·cases h
 ·cases h
theorem ZFq(ok:Ok σ){t:yb}(ho:o.op=.makeMap t none):Ym P o a σ (.mp σ.H.length) (σ.H++[.map t []]):=by
 let σ':Sg:={ σ with m:=σ.m++[some σ.w.heap.size],H:=σ.H++[.map t []],w:=σ.w.alloc (.map #[] 0)};have hblk:σ'.w.heap[σ.w.heap.size]? =some (.map #[] 0):=heap_alloc_new σ.w _
 have hmlast:σ'.m[σ.H.length]? =some (some σ.w.heap.size):=by
  show(σ.m++[some σ.w.heap.size])[σ.H.length]? =_;rw[yam (by rw[ok.len];exact ym _),ok.len];simp
 obtain⟨to,ok'⟩:=Xz (σ':=σ') ok rfl rfl rfl rfl (World.grownBy_alloc σ.w (.map #[] 0) none) (.inr ⟨_,rfl,ym _,by simp[σ']⟩)
  (λleaf=>⟨σ.w.heap.size, #[],0,rfl,hblk,⟨[],.refl _,List.nodup_nil,ytt⟩,by simp[ZgK]⟩)
 refine ZE (σ':=σ') (v:=.map (some σ.w.heap.size)) ?_ to ok' ?_
 ·have:(Instr.makeMap t none).run P σ.w=.ok (.map (some σ.w.heap.size)) (σ.w.alloc (.map #[] 0)):=rfl;simp[execOp,ho,this,σ']
 ·rw[Ze rfl];simp only[repD];exact⟨_,hmlast,⟨t,[],by simp[σ']⟩,rfl⟩
theorem Qn(ok:Ok σ){id b:Nat}{t:yb}{kvs l:List (Pl×Pl)}{es es':Array MapEntry}{clock clock':Nat}(hH:σ.H[id]? =some (.map t kvs))(hm:σ.m[id]? =some (some b))(hb:σ.w.heap[b]? =some (.map es clock))
 (hl:Zdh σ l es'.toList) (hbo:ZgK es' clock'):
 let σ':Sg:={ σ with m:=σ.m.set id (some b),H:=σ.H.set id (.map t l),w:={ σ.w with heap:=σ.w.heap.setIfInBounds b (.map es' clock')}}
 To σ σ'∧Ok σ':=by
 intro σ';obtain⟨g1,g2⟩:=Go.MapKept.heap_set (w:=σ.w) (o':=.map es' clock') hb
 exact Yz (σ':=σ') (mi:=some b) (mi':=some b) ok hH hm rfl rfl rfl rfl rfl rfl rfl (by simp[σ'])
  (λj hj hne=>g2 j (λhh=>hne (by rw[hh]))) (λb' o v hb' hu hc=>by
    cases hb';simp[World.cell?,hb] at hc) (λo _ hu=>by cases hu) (.inl rfl) (λ⟨d,st,h⟩=>by cases h) (λ_=>⟨rfl,t,l,rfl⟩)
  (λs e xs h=>by cases h) (λleaf=>⟨b,es',clock',rfl,g1,Zsh leaf hl,hbo⟩)
theorem Zz1(ok:Ok σ)(hrep:RepT σ ts a){t kt et:yb}{m k x:yn}{id:Nat}{t':yb}{kk v:Pl}{kvs l:List (Pl×Pl)}(ho:o.op=.mapUpdate t m k x)(hu:P.underlying t=some (.map kt et))
 (hx:Zp P ts t m=.mp id) (hk:Zp P ts kt k=.p kk) (hv:(Zp P ts et x).flat=some v) (hH:σ.H[id]? =some (.map t' kvs)) (hkt:ZfZ P kt=true) (c1:fitP P 20 kt kk) (c2:Qi P kt kvs) (c3:VG kvs kk v.soft l):
 Ym P o a σ .junk (σ.H.set id (.map t' l)):=by
 have hxv:=Zi (P:=P) hrep t m;rw[hx] at hxv;obtain⟨b,hm,hmv⟩:=ZlR hxv;have hkv:=Zi (P:=P) hrep kt k;rw[hk] at hkv;have hvv:=(Wk.p (ZeJ v)).dv (ZmS hv (Zi (P:=P) hrep et x));obtain⟨b',es,clock,h1,h2,h3,h3b⟩:=ok.ent id _ _ hH hm;cases h1;obtain⟨F,hF,hrun⟩:=ZaI (P:=P) hkt c1 hkv;have g6:=XA (em:=false) 20 kt kk _ c1 hkv 9980;rcases ZDR hF kvs es.toList 0 l h3 c2 c3 with⟨j,e,f1,f2,f3,f4⟩|⟨f1,f2⟩
 ·have g5:=hrun _ _ f1;rw[yax] at g5;have he:es[j]? =some e:=by rw[←ybr];exact f2
  have hsame:e.key=a.eval k:=ZlO (Zdw 20 kt kk c1) f3 hkv
  have hbits:Instr.sameBits 10000 e.key (a.eval k)=true:=by
   rw[hsame];exact Zwd (Zdw 20 kt kk c1) hkv
  have hes:(es.modify j λe=>{ e with key:=a.eval k,val:=a.eval x}).toList=es.toList.set j { e with key:=a.eval k,val:=a.eval x}:=by
   apply ybd;intro i;rw[ybr,Array.getElem?_modify,ybg,ybr];by_cases hij:j=i
   ·subst hij;have hlt:j < es.toList.length:=by simpa using(ycr.1 he).1
    simp[he,hlt];exact(ycr.1 he).1
   ·simp[hij]
  obtain⟨to,ok'⟩:=Qn (es':=es.modify j λe=>{ e with key:=a.eval k,val:=a.eval x}) (clock':=clock) ok hH hm h2 (l:=l) (by rw[hes];exact f4 _ hkv hvv) (Zz0 h3b j λe=>rfl);refine Zdf ?_ to ok';simp only[execOp,ho,hmv,Instr.mapUpdate,Sem.run_bind,run_underlying hu,Result.andThen_ok,Xj h2,g6,g5,Instr.keyThatStays,he,Option.map_some,Option.getD_some,hbits,if_true,Sem.run_pure,Go.MapKept.run_setObj_map _ h2]
 ·have g5:=hrun _ _ f1;obtain⟨to,ok'⟩:=Qn (es':=es.push { key:=a.eval k,val:=a.eval x,born:=clock}) (clock':=clock+1) ok hH hm h2 (l:=l) (by rw[Array.toList_push];exact f2 _ hkv hvv) (Zkd h3b rfl);refine Zdf ?_ to ok';simp only[execOp,ho,hmv,Instr.mapUpdate,Sem.run_bind,run_underlying hu,Result.andThen_ok,Xj h2,g6,g5,Sem.run_pure,Go.MapKept.run_setObj_map _ h2]
theorem ZGC(ok:Ok σ)(hrep:RepT σ ts a){t kt et:yb}{m k x:yn}{id:Nat}{t':yb}{kk v:Pl}{kvs l:List (Pl×Pl)}(ho:o.op=.insert t m k x)(hu:P.underlying t=some (.map kt et))
 (hx:Zp P ts t m=.mp id) (hk:Zp P ts kt k=.p kk) (hv:(Zp P ts et x).flat=some v) (hH:σ.H[id]? =some (.map t' kvs)) (hkt:ZfZ P kt=true) (c1:fitP P 20 kt kk) (c2:Qi P kt kvs) (c3:VG kvs kk v.soft l):
 Ym P o a σ .junk (σ.H.set id (.map t' l)):=by
 have hxv:=Zi (P:=P) hrep t m;rw[hx] at hxv;obtain⟨b,hm,hmv⟩:=ZlR hxv;have hkv:=Zi (P:=P) hrep kt k;rw[hk] at hkv;have hvv:=(Wk.p (ZeJ v)).dv (ZmS hv (Zi (P:=P) hrep et x));obtain⟨b',es,clock,h1,h2,h3,h3b⟩:=ok.ent id _ _ hH hm;cases h1;obtain⟨F,hF,hrun⟩:=ZaI (P:=P) hkt c1 hkv;have g6:=XA (em:=false) 20 kt kk _ c1 hkv 9980;rcases ZDR hF kvs es.toList 0 l h3 c2 c3 with⟨j,e,f1,f2,f3,f4⟩|⟨f1,f2⟩
 ·have g5:=hrun _ _ f1;rw[yax] at g5;have he:es[j]? =some e:=by rw[←ybr];exact f2
  have hsame:e.key=a.eval k:=ZlO (Zdw 20 kt kk c1) f3 hkv
  have hbits:Instr.sameBits 10000 e.key (a.eval k)=true:=by
   rw[hsame];exact Zwd (Zdw 20 kt kk c1) hkv
  have hes:(es.modify j λe=>{ e with key:=a.eval k,val:=a.eval x}).toList=es.toList.set j { e with key:=a.eval k,val:=a.eval x}:=by
   apply ybd;intro i;rw[ybr,Array.getElem?_modify,ybg,ybr];by_cases hij:j=i
   ·subst hij;have hlt:j < es.toList.length:=by simpa using(ycr.1 he).1
    simp[he,hlt];exact(ycr.1 he).1
   ·simp[hij]
  obtain⟨to,ok'⟩:=Qn (es':=es.modify j λe=>{ e with key:=a.eval k,val:=a.eval x}) (clock':=clock) ok hH hm h2 (l:=l) (by rw[hes];exact f4 _ hkv hvv) (Zz0 h3b j λe=>rfl);refine Zdf ?_ to ok';simp only[execOp,ho,hmv,Instr.mapUpdate,Sem.run_bind,run_underlying hu,Result.andThen_ok,Xj h2,g6,g5,Instr.keyThatStays,he,Option.map_some,Option.getD_some,hbits,if_true,Sem.run_pure,Go.MapKept.run_setObj_map _ h2]
 ·have g5:=hrun _ _ f1;obtain⟨to,ok'⟩:=Qn (es':=es.push { key:=a.eval k,val:=a.eval x,born:=clock}) (clock':=clock+1) ok hH hm h2 (l:=l) (by rw[Array.toList_push];exact f2 _ hkv hvv) (Zkd h3b rfl);refine Zdf ?_ to ok';simp only[execOp,ho,hmv,Instr.mapUpdate,Sem.run_bind,run_underlying hu,Result.andThen_ok,Xj h2,g6,g5,Sem.run_pure,Go.MapKept.run_setObj_map _ h2]
theorem Zp4{x y:yn}{t u:yb}{c:Call}{w':yy}(ho:o.op=.call c)(hc:c.callee=.builtin .delete)(hargs:c.args.toList=[x,y])(htys:c.argTypes.toList=[t,u]){v:yh}
 (h:(Builtin.delete_ #[t,u] o.type #[a.eval x,a.eval y]).run P σ.w=.ok v w'):(execOp a.eval o).run P σ.w=.ok (.value v) w':=by
 have h1:c.args= #[x,y]:=by rw[←ybx (xs:=c.args),hargs]
 have h2:c.argTypes= #[t,u]:=by rw[←ybx (xs:=c.argTypes),htys]
 simp[execOp,ho,resolve,hc,h1,h2,invoke,builtin,h]
theorem ZGD(ok:Ok σ)(hrep:RepT σ ts a){c:Call}{t u kt et:yb}{m k:yn}{id:Nat}{t':yb}{kk:Pl}{kvs l:List (Pl×Pl)}(ho:o.op=.call c)(hcal:c.callee=.builtin .delete)(hargs:c.args.toList=[m,k])(htys:c.argTypes.toList=[t,u])
 (hu:P.underlying t=some (.map kt et)) (hx:Zp P ts t m=.mp id) (hk:Zp P ts u k=.p kk) (hH:σ.H[id]? =some (.map t' kvs)) (hkt:ZfZ P kt=true) (c1:fitP P 20 kt kk) (c2:Qi P kt kvs) (c3:ZbB kvs kk l):
 Ym P o a σ (.tup []) (σ.H.set id (.map t' l)):=by
 have hxv:=Zi (P:=P) hrep t m;rw[hx] at hxv;obtain⟨b,hm,hmv⟩:=ZlR hxv;have hkv:=Zi (P:=P) hrep u k;rw[hk] at hkv;obtain⟨b',es,clock,h1,h2,h3,h3b⟩:=ok.ent id _ _ hH hm;cases h1;obtain⟨F,hF,hrun⟩:=ZaI (P:=P) hkt c1 hkv;have g6:=XA (em:=es.isEmpty) 20 kt kk _ c1 hkv 9980
 have hnil:∀{σ':Sg},repDV σ' (.tup []) (.tuple #[]):=by
  intro σ';rw[Ze rfl];simp only[repD];exact⟨#[],rfl,by simp[repVs]⟩
 rcases ZJt hF kvs es.toList 0 l h3 c2 c3 with⟨j,q,f1,f2,f3⟩|⟨f1,f2⟩
 ·have g5:=hrun _ _ f1;rw[yax] at g5;obtain⟨to,ok'⟩:=Qn (es':=es.eraseIdxIfInBounds j) (clock':=clock) ok hH hm h2 (l:=l) (by rw[Array.toList_eraseIdxIfInBounds];exact f3) (ZCb h3b j);refine ZE (v:=.tuple #[]) (Zp4 ho hcal hargs htys ?_) to ok' hnil;simp[Builtin.delete_,run_underlying hu,hmv,Xj h2,g6,g5,Go.MapKept.run_setObj_map _ h2]
 ·have g5:=hrun _ _ f1;obtain⟨to,ok'⟩:=Qn (es':=es) (clock':=clock) ok hH hm h2 (l:=l) f2 h3b;refine ZE (v:=.tuple #[]) (Zp4 ho hcal hargs htys ?_) to ok' hnil;simp[Builtin.delete_,run_underlying hu,hmv,Xj h2,g6,g5,Go.MapKept.run_setObj_map _ h2]
end
end Go.Ev
end
section
namespace Go.Ev
section
variable{P:yg}{o:Oper}{a:Act}{σ:Sg}{ts:List Dv}{hs hs':List Hint}{C:List Prop}{d:Dv}{H':List Ent}
theorem Zbf{P:yg}{w:yy}{t e:yb}{i:TypeInfo}{z:yh}{n n':Int}(hu:P.underlying t=some (.slice e))(hi:P.info? e=some i)(hz:i.zero=some z)(h0:0≤n)(h1:n≤n')(h2:n'.toNat*i.bytes≤Zo)(h3:n'.toNat≤maxLen):
 ∃cells:Array yh,(Instr.makeSlice t (.int .i64 n) (.int .i64 n')).run P w=.ok (.slice (some ⟨w.heap.size,0,none⟩) n.toNat n'.toNat) (w.alloc (.cells cells e))∧cells.size=n'.toNat*i.size∧
  (i.size=1→∀k,k < n'.toNat→cells[k]? =some (z.cells[k % z.cells.size]!)):=by
 have hw:∀m:Int,0≤m→m.toNat≤maxLen→IntKind.i64.wrap m=m:=λm a b=>by
  refine V0 ?_;simp[maxLen] at b;simp[Wd,IntKind.min,IntKind.max,IntKind.signed,IntKind.bits];omega
 have hw1:=hw n h0 (by omega);have hw2:=hw n' (by omega) h3
 have hb:¬((281474976710656:Int) < (i.bytes:Int)*n'):=by
  have e:(i.bytes:Int)*n'=((n'.toNat*i.bytes:Nat):Int):=by
   rw[Int.natCast_mul,Int.toNat_of_nonneg (by omega),Int.mul_comm]
  rw[e];simp only[Zo] at h2;omega
 have hr:¬(n'.toNat*i.bytes > roomBytes):=by
  simp only[Zo] at h2;simp only[roomBytes];omega
 by_cases hn:n'.toNat*i.size=0
 ·refine⟨(Array.range (n'.toNat*i.size)).map λ_=>default, ?_,by simp,λe k hk=> ?_⟩
  ·simp[Instr.makeSlice,run_underlying hu,asInt,asIntOf,typeInfo,hi,hw1,hw2,askRoom,hr,sizeOf,hn,newRow,h0,show¬n' < 0 by omega,show¬n < 0 by omega,show¬n' < n by omega,hb]
  ·rw[e,Nat.mul_one] at hn;omega
 ·refine⟨(Array.range (n'.toNat*i.size)).map (z.cells[· % z.cells.size]!), ?_,by simp,λe k hk=> ?_⟩
  ·simp[Instr.makeSlice,run_underlying hu,asInt,asIntOf,typeInfo,hi,hw1,hw2,askRoom,hr,sizeOf,hn,newRow,h0,show¬n' < 0 by omega,show¬n < 0 by omega,show¬n' < n by omega,hb,zeroValue,hz]
  ·simp[e,hk]
theorem ZFr(ok:Ok σ){t e:yb}{l c:yn}{i:TypeInfo}{n n':Int}(hrep:RepT σ ts a)(ho:o.op=.makeSlice t l c)(hu:P.underlying t=some (.slice e))(hl:Zp P ts 0 l=.p (.int .i64 n))(hcp:Zp P ts 0 c=.p (.int .i64 n'))
 (hi:P.info? e=some i) (hz:zOk i=true) (hs0:i.size≠0) (h0:n=0) (h1:0≤n') (h2:n'.toNat*i.bytes≤Zo) (h3:n'.toNat≤maxLen):
 Ym P o a σ (.own σ.H.length (some true) i.size []) (σ.H++[.log i.size e []]):=by
 subst h0;obtain⟨z,hzz,hzs⟩:=VH hz;obtain⟨cells,hrun,hcs,_⟩:=Zbf (w:=σ.w) (t:=t) hu hi hzz (Int.le_refl 0) h1 h2 h3;have hlv:=ZD (hl ▸ Zi (P:=P) hrep 0 l);have hcv:=ZD (hcp ▸ Zi (P:=P) hrep 0 c);let σ':Sg:={ σ with m:=σ.m++[some σ.w.heap.size],H:=σ.H++[.log i.size e []],w:=σ.w.alloc (.cells cells e)};have hblk:σ'.w.heap[σ.w.heap.size]? =some (.cells cells e (0,0)):=heap_alloc_new σ.w _
 have hmlast:σ'.m[σ.H.length]? =some (some σ.w.heap.size):=by
  show(σ.m++[some σ.w.heap.size])[σ.H.length]? =_;rw[yam (by rw[ok.len];exact ym _),ok.len];simp
 obtain⟨to,ok'⟩:=Xz (σ':=σ') ok rfl rfl rfl rfl (World.grownBy_alloc σ.w (.cells cells e) none) (.inr ⟨_,rfl,ym _,by simp[σ']⟩)
  (λleaf=>.inr ⟨σ.w.heap.size,cells,n'.toNat,rfl,hblk,hcs,Nat.zero_le _,h3,λ_ hx=>(by cases hx),by simp[repCs]⟩)
 refine ZE (σ':=σ') (v:=.slice (some ⟨σ.w.heap.size,0,none⟩) 0 n'.toNat) ?_ to ok' ?_
 ·have hrun':=hrun;simp only[Int.toNat_zero] at hrun';simp[execOp,ho,hlv,hcv,hrun',σ']
 ·rw[Ze rfl];simp only[repD];refine⟨λ_ hx=>(by cases hx),some ⟨σ.w.heap.size,0,none⟩,n'.toNat,rfl,Nat.zero_le _,h3, ?_,(λh=>by cases h),λh=>absurd rfl h,e,[],by simp[σ'],ym _,λ_=>.inr ?_⟩
  ·simp[Zq2]
  ·exact⟨σ.w.heap.size,cells,hmlast,rfl,hblk,hcs⟩
theorem ZbY{w:yy}{S:Nat→Nat→Prop}{z:Pl}{v:yh}(h:repC w S z [v]):∀n,repCs w S (yab n z) (yab n v)
 |0=>by simp[repCs]
 |n+1=>by
  rw[List.replicate_succ,List.replicate_succ];simp only[repCs];exact⟨[v],yab n v,rfl,h,ZbY h n⟩
theorem ZCc(ok:Ok σ){t e:yb}{l c:yn}{i:TypeInfo}{z:Pl}{n n':Int}(hrep:RepT σ ts a)(ho:o.op=.makeSlice t l c)(hu:P.underlying t=some (.slice e))(hl:Zp P ts 0 l=.p (.int .i64 n))(hcp:Zp P ts 0 c=.p (.int .i64 n'))
 (hi:P.info? e=some i) (hz:zOk i=true) (hs1:i.size=1) (hzp:Yr P e=.p z) (hz1:z.size=1) (hza:z.isAgg=false) (h0:n'=n) (h1:0≤n) (h2:n.toNat*i.bytes≤Zo) (h3:n.toNat≤maxLen):
 Ym P o a σ (.view σ.H.length 0 [] 1 0 n.toNat) (σ.H++[.var (.p (.arr n.toNat 1 (yab n.toNat z))) true]):=by
 subst h0;obtain⟨zv,hzz,hzs⟩:=VH hz;obtain⟨cells,hrun,hcs,hck⟩:=Zbf (w:=σ.w) (t:=t) hu hi hzz h1 (Int.le_refl n') h2 h3;have hlv:=ZD (hl ▸ Zi (P:=P) hrep 0 l);have hcv:=ZD (hcp ▸ Zi (P:=P) hrep 0 c)
 have hr:repDV σ (Yr P e) zv:=by
  unfold Yr;rw[hi];simp only[hzz];exact Wh
 rw[hzp] at hr;have hr:=X7 (d:=.p z) rfl hr
 obtain⟨c0,hc0⟩:∃c0,zv.cells.toList=[c0]:=by
  have h9:zv.cells.toList.length=1:=by rw[yas,hzs,hs1]
  match hq:zv.cells.toList,h9 with
  |[c0],_=>exact⟨c0,rfl⟩
 rw[hc0] at hr;have hzc:zv.cells= #[c0]:=by rw[←ybx (xs:=zv.cells),hc0]
 have hcells:cells.toList=yab n'.toNat c0:=by
  apply ybd;intro k;rw[ybr,List.getElem?_replicate];by_cases hk:k < n'.toNat
  ·rw[hck hs1 k hk,if_pos hk,hzc];simp[Nat.mod_one]
  ·rw[if_neg hk];refine Array.getElem?_eq_none ?_;rw[hcs,hs1];omega
 let σ':Sg:={ σ with m:=σ.m++[some σ.w.heap.size],H:=σ.H++[.var (.p (.arr n'.toNat 1 (yab n'.toNat z))) true],w:=σ.w.alloc (.cells cells e)};have hblk:σ'.w.heap[σ.w.heap.size]? =some (.cells cells e (0,0)):=heap_alloc_new σ.w _
 have hmlast:σ'.m[σ.H.length]? =some (some σ.w.heap.size):=by
  show(σ.m++[some σ.w.heap.size])[σ.H.length]? =_;rw[yam (by rw[ok.len];exact ym _),ok.len];simp
 have hcl:cells.toList.length=n'.toNat:=by rw[hcells];simp
 obtain⟨to,ok'⟩:=Xz (σ':=σ') ok rfl rfl rfl rfl (World.grownBy_alloc σ.w (.cells cells e) none) (.inr ⟨_,rfl,ym _,by simp[σ']⟩)
  (λleaf=>⟨σ.w.heap.size,cells,e,rfl,hblk,by
    have hsz:Dv.size (.p (.arr n'.toNat 1 (yab n'.toNat z)))=n'.toNat:=by show n'.toNat*1=_;omega
    rw[hsz,ycn (by omega)];refine ZO leaf _ _ ?_;simp only[repD,repC];refine⟨by simp,λy hy=>by rw[(List.mem_replicate.1 hy).2];exact hz1, ?_⟩;rw[hcells];simp only[repD] at hr;exact ZbY hr _,by
    have hsz:Dv.size (.p (.arr n'.toNat 1 (yab n'.toNat z)))=n'.toNat:=by show n'.toNat*1=_;omega
    rw[hsz, ←yas,hcl];exact ym _⟩)
 refine ZE (σ':=σ') (v:=.slice (some ⟨σ.w.heap.size,0,none⟩) n'.toNat n'.toNat) ?_ to ok' ?_
 ·simp[execOp,ho,hlv,hcv,hrun,σ']
 ·rw[Ze rfl];simp only[repD];exact⟨σ.w.heap.size,n'.toNat,_,hmlast,⟨.p (.arr n'.toNat 1 (yab n'.toNat z)),true,by simp[σ']⟩,rfl,ym _,h3,λ_=>by simp⟩
theorem ZDS(ok:Ok σ)(hrep:RepT σ ts a){t:yb}{x:yn}(ho:∀w,(execOp a.eval o).run P w=.ok (.value (a.eval x)) w)(h:Zdk (Zp P ts t x) σ.H hs=some (C,d,H',hs'))(hc:AllP C):Ym P o a σ d H':=by
 have hxv:=Zi (P:=P) hrep t x;unfold Zdk at h;split at h
 ·rename_i id off path s lo n hx;rw[hx] at hxv;obtain⟨b,c,A,hm,hv,hve,hcap,hcm,hA⟩:=Zdp hxv;split at h
  ·rename_i dd st hH;split at h
   ·rename_i C1 off' n' s' xs hs1 hg;split at h
    ·rename_i hs0;subst hs0;simp only[yj,yl] at h;obtain⟨rfl,rfl,rfl,rfl⟩:=h;obtain⟨c1,c2,c3,_⟩:=Zj.1 hc;obtain⟨cs,t',p1,p2,p3,h2,h4,h5,h6,h7,h3,h8⟩:=Zm0 ok hm hH hg c1 c2;simp only[repD,repC] at h7;obtain⟨h9,h10,h11⟩:=h7;subst h9;let σ':Sg:={ σ with m:=σ.m.set id (some b),H:=σ.H.set id (.var dd false)};have hmset:σ'.m[id]? =some (some b):=getElem?_set_eq' hm;have hHset:σ'.H[id]? =some (.var dd false):=getElem?_set_eq' hH
     obtain⟨to,ok'⟩:=Yz (σ':=σ') (mi:=some b) (mi':=some b) ok hH hm rfl rfl rfl rfl rfl rfl rfl (ym _)
      (λ_ _ _=>rfl) (λ_ _ _ _ _ h=>h) (λo _ hu=>rfl) (.inl rfl) (λ_=>⟨rfl,dd,false,rfl⟩) (λ⟨d,st,h⟩=>by cases h)
      (λs e xs h=>by cases h) (λleaf=>⟨b,cs,t',rfl,h2,ZO leaf dd _ h3,h4⟩)
     have hcells:Xr σ'.w σ'.stab b off p2:=λj u hu=>by
      refine⟨h8 j u hu,.inr (ok.own id b hm),λj' e' g1 g2=> ?_⟩;have:j'=id:=ok'.inj j' id _ g1 hmset;subst this;rw[hHset] at g2;cases g2;rfl
     have h11':=repCs_mono to.leaf.cells _ _ h11
     have hsplit:xs=xs.take lo++((xs.drop lo).take n++xs.drop (lo+n)):=by
      have e1:xs.drop (lo+n)=(xs.drop lo).drop n:=by rw[List.drop_drop]
      rw[e1,ybf,ybf]
     have hlen:((xs.drop lo).take n).length=n:=by rw[yae,ybq];omega
     have hsub:allSz s' ((xs.drop lo).take n):=λz hz=>h10 z (yct (ybn hz));have hr2:=ZE (P:=P) (o:=o) (a:=a) (σ:=σ) (σ':=σ') (v:=a.eval x) (d:=.p (.sl (some true) s' ((xs.drop lo).take n))) (ho σ.w) to ok';refine hr2 ?_;rw[hve]
     have hmk:=Z7 (σ:=σ') (nn:=some true) (A:=some A) (c:=c) hsub (by rw[hlen];exact hcap) hcm (Qh rfl) (λh=>by cases h) (λhne=>by
      have hn:0 < n:=by
       rcases ybt n with h0|h0
       ·subst h0;simp at hne
       ·exact h0
      rw[hsplit] at h11';obtain⟨q1,q23,e1,r1,r23⟩:=Z0 h11';obtain⟨q2,q3,e2,r2,r3⟩:=Z0 r23
      have l1:q1.length=lo*s':=by
       rw[repCs_size _ _ r1,sizes_all (λz hz=>h10 z (ybn hz)),yae,yav (by omega)]
      refine⟨b,off+lo*s',q2,by rw[hA hn],r2,λj u hu=> ?_⟩
      have hj:p2[lo*s'+j]? =some u:=by
       rw[e1,yam (by omega),l1,Nat.add_sub_cancel_left,e2,yah (yo.1 hu).1];exact hu
      have:=hcells (lo*s'+j) u hj
      rwa [←yce] at this)
     rw[hlen] at hmk;exact hmk
    ·cases h
   ·cases h
  ·cases h
 ·rename_i id v s lo n hx;rw[hx] at hxv;split at h
  ·rename_i v' s' st e N s'' xs hH;split at h
   ·rename_i hk;simp only[yi,decide_eq_true_eq,beq_iff_eq] at hk;obtain⟨⟨rfl,rfl⟩,hv⟩:=hk;subst hv;simp only[yj,yl] at h;obtain⟨rfl,rfl,rfl,rfl⟩:=h;obtain⟨A,c,hve,hcap,hcm,hA,hsy,ly,q,hr,lq,hq⟩:=ZrQ ok hxv hH rfl hc.1;have hidlt:id < σ.m.length:=by rw[ok.len];exact(yo.1 hH).1
    have hmi:σ.m[id]? =some σ.m[id]:=yac hidlt;let σ':Sg:={ σ with m:=σ.m.set id σ.m[id],H:=σ.H.set id (.row v' s'' false e (.p (.arr N s'' xs)))};have hmset:σ'.m[id]? =some σ.m[id]:=getElem?_set_eq' hmi;have hHset:σ'.H[id]? =some (.row v' s'' false e (.p (.arr N s'' xs))):=getElem?_set_eq' hH
    obtain⟨to,ok'⟩:=Yz (σ':=σ') (mi:=σ.m[id]) (mi':=σ.m[id]) ok hH hmi rfl rfl rfl rfl rfl rfl rfl (ym _)
     (λ_ _ _=>rfl) (λ_ _ _ _ _ h=>h) (λo _ hu=>⟨rfl,hu.2⟩) (.inl rfl) (λ⟨d,st,h⟩=>by cases h) (λ⟨d,st,h⟩=>by cases h)
     (λs e xs h=>by cases h) (λleaf=>by
       obtain⟨N',h1,h2⟩:=ok.ent id _ _ hH hmi;refine⟨N',h1, ?_⟩;rcases h2 with h2|⟨b,cur,cap,g1,g2,g3,g4,g5,g6⟩
       ·exact .inl h2
       ·exact .inr ⟨b,cur,cap,g1,g2,g3,g4,g5,ZO leaf _ _ g6⟩)
     (λv s st e d h=>by cases h;exact⟨v',false,_,rfl,ym _,λ_=>⟨rfl,λb cur _ hb=>⟨cur,hb,rfl⟩⟩⟩)
    refine ZE (P:=P) (o:=o) (a:=a) (σ:=σ) (σ':=σ') (v:=a.eval x) (d:=.p (.sl none s'' ((xs.drop lo).take n))) (ho σ.w) to ok' ?_;rw[hve]
    have hmk:=Z7 (σ:=σ') (nn:=none) (A:=A) (c:=c) hsy (by rw[ly];exact hcap) hcm (ZY _) hA (λhne=>by
     have hn:0 < n:=by
      rcases ybt n with h0|h0
      ·subst h0;simp at hne
      ·exact h0
     obtain⟨b,cur,cap,rfl,hm,hb,hcs,hcell⟩:=hq hn;refine⟨b,_,q,rfl,repCs_mono to.leaf.cells _ _ hr,λj u hu=>⟨hcell j u hu,.inr (ok.own id b hm),λj' e' g1 g2=> ?_⟩⟩;have:j'=id:=ok'.inj j' id b g1 (by rw[hmset, ←hmi];exact hm);subst this;rw[hHset] at g2;cases g2;refine⟨rfl,N,if_pos rfl, ?_⟩;have h1:=(yo.1 hu).1;have h2:(lo+n)*s''≤N*s'':=ycb _ hc.1;rw[lq] at h1;rw[yat] at h2;omega)
    rw[ly] at hmk;exact hmk
   ·cases h
  ·cases h
 ·cases h
end
end Go.Ev
end
section
namespace Go.Ev
theorem Zf4{σ:Sg}{x y:Dv}(hxy:∀a,repD σ x a→repD σ y a):∀(fs:List Dv)(k:Nat)(us:List yh),fs[k]? =some x→repDs σ fs us→repDs σ (fs.set k y) us
 |[],_,_,h,_=>by simp at h
 |z::fs,0,us,h,hr=>by
  simp only[ybh,yj] at h;subst h;simp only[repDs,List.set_cons_zero] at hr ⊢;obtain⟨a,b,h1,h2,h3⟩:=hr
  exact⟨a,b,h1,hxy a h2,h3⟩
 |z::fs,k+1,us,h,hr=>by
  simp only[yar] at h;simp only[repDs,List.set_cons_succ] at hr ⊢;obtain⟨a,b,h1,h2,h3⟩:=hr;exact⟨a,b,h1,h2,Zf4 hxy fs k b h h3⟩
theorem ZiO{fs:List Dv}{k:Nat}{x y:Dv}(h:fs[k]? =some x)(hs:y.size=x.size):Dv.sizes (fs.set k y)=Dv.sizes fs:=by
 induction fs generalizing k with
 |nil=>simp at h
 |cons z fs ih=>
  cases k with
  |zero=>
   simp only[ybh,yj] at h;subst h
   simp only[List.set_cons_zero,Dv.sizes,hs]
  |succ k=>
   simp only[yar] at h;simp only[List.set_cons_succ,Dv.sizes,ih h]
theorem Zz2:∀(xs:List Pl),Dv.sizes (xs.map .p)=Pl.sizes xs
 |[]=>rfl
 |x::xs=>by simp only[yad,Dv.sizes,Pl.sizes,Zz2 xs];rfl
theorem Zp5{d d':Dv}{s:Nat}{new:Dv}(h:Yy d [] s new=some d'):d=.p (.sl (some false) s [])∧d'=new:=by
 unfold Yy at h;split at h
 ·split at h
  ·rename_i e;cases h;subst e;exact⟨rfl,rfl⟩
  ·cases h
 ·contradiction
 ·contradiction
 ·cases h
theorem Zm2{d d':Dv}{i:Nat}{r:List Nat}{s:Nat}{new:Dv}(h:Yy d (i::r) s new=some d'):
 (∃xs x y,d=.p (.agg xs)∧xs[i]? =some x∧Yy (.p x) r s new=some y∧d'=.agg ((xs.map Dv.p).set i y))∨∃xs x y,d=.agg xs∧xs[i]? =some x∧Yy x r s new=some y∧d'=.agg (xs.set i y):=by
 cases d with
 |p q=>
  cases q with
  |agg xs=>
   simp only[Yy] at h
   cases hx:xs[i]? with
   |none=>simp[hx] at h
   |some x=>
    simp only[hx] at h;obtain⟨y,hy,rfl⟩:=yp.1 h
    exact .inl ⟨xs,x,y,rfl,hx,hy,rfl⟩
  |_=>simp[Yy] at h
 |agg xs=>
  simp only[Yy] at h
  cases hx:xs[i]? with
  |none=>simp[hx] at h
  |some x=>
   simp only[hx] at h;obtain⟨y,hy,rfl⟩:=yp.1 h
   exact .inr ⟨xs,x,y,rfl,hx,hy,rfl⟩
 |_=>simp[Yy] at h
theorem Vo:∀(path:List Nat)(d d':Dv)(s:Nat)(new:Dv),new.size=1→Yy d path s new=some d'→d'.size=d.size
 |[],d,d',s,new,hn,h=>by
  obtain⟨rfl,rfl⟩:=Zp5 h;rw[hn]
  rfl
 |i::r,d,d',s,new,hn,h=>by
  rcases Zm2 h with⟨xs,x,y,rfl,hx,hy,rfl⟩|⟨xs,x,y,rfl,hx,hy,rfl⟩
  ·have:=Vo r (.p x) y s new hn hy;have hx':(xs.map Dv.p)[i]? =some (.p x):=by rw[yaf,hx];rfl
   simp only[Dv.size];rw[ZiO hx' this,Zz2];rfl
  ·simp only[Dv.size];exact ZiO hx (Vo r x y s new hn hy)
theorem Qo{σ:Sg}:∀(path:List Nat)(d d':Dv)(s:Nat)(new:Dv),(∀a,repD σ (.p (.sl (some false) s [])) a→repD σ new a)→Yy d path s new=some d'→∀us,repD σ d us→repD σ d' us
 |[],d,d',s,new,hn,h,us,hr=>by
  obtain⟨rfl,rfl⟩:=Zp5 h
  exact hn us hr
 |i::r,d,d',s,new,hn,h,us,hr=>by
  rcases Zm2 h with⟨xs,x,y,rfl,hx,hy,rfl⟩|⟨xs,x,y,rfl,hx,hy,rfl⟩
  ·have hx':(xs.map Dv.p)[i]? =some (.p x):=by rw[yaf,hx];rfl
   simp only[repD,repC] at hr ⊢;exact Zf4 (Qo r (.p x) y s new hn hy) _ i us hx' (ZcA.2 hr)
  ·simp only[repD] at hr ⊢;exact Zf4 (Qo r x y s new hn hy) _ i us hx hr
theorem ZCd{σ:Sg}(ok:Ok σ){j s:Nat}{e:yb}{d d':Dv}{st:Bool}{path:List Nat}(hj:σ.H[j]? =some (.var d st))(hg:Yy d path s (.own σ.H.length none s [])=some d'):
 ∃σ2:Sg,σ2.H=(σ.H++[Ent.log s e []]).set j (.var d' st)∧σ2.w=σ.w∧To σ σ2∧Ok σ2:=by
 obtain⟨to1,ok1⟩:=Xz (σ':={ σ with m:=σ.m++[none],H:=σ.H++[.log s e []]}) ok rfl rfl rfl rfl (World.grownBy.refl σ.w none) (.inl rfl) (λ_=>.inl ⟨rfl,rfl⟩);have hjl:j < σ.H.length:=(yo.1 hj).1
 obtain⟨mi,hm⟩:∃mi,σ.m[j]? =some mi:=by
  have:j < σ.m.length:=by rw[ok.len];exact hjl
  exact⟨_,yac this⟩
 obtain⟨b,cs,t,rfl,q2,q3,q4⟩:=ok.ent j _ _ hj hm;let σ1:Sg:={ σ with m:=σ.m++[none],H:=σ.H++[.log s e []]};let σ2:Sg:={ σ1 with m:=σ1.m.set j (some b),H:=σ1.H.set j (.var d' st)}
 have hH1:σ1.H[j]? =some (.var d st):=by
  show(σ.H++[Ent.log s e []])[j]? =_;rw[yah hjl];exact hj
 have hm1:σ1.m[j]? =some (some b):=by
  show(σ.m++[none])[j]? =_;rw[yah (by rw[ok.len];exact hjl)];exact hm
 have hsz:=Vo path d d' s _ rfl hg
 obtain⟨to2,ok2⟩:=Yz (σ':=σ2) (mi:=some b) (mi':=some b) ok1 hH1 hm1 rfl rfl rfl rfl rfl rfl rfl (ym _)
  (λ_ _ _=>rfl) (λ_ _ _ _ _ h=>h) (λo _ hu=>hu) (.inl rfl) (λ_=>⟨rfl,_,_,rfl⟩) (λ⟨_,_,hh⟩=>by cases hh) (λ_ _ _ hh=>by cases hh)
  (λleaf=>by
    refine⟨b,cs,t,rfl,q2, ?_,by rw[hsz];exact q4⟩;rw[hsz];refine Qo path d d' s _ (λa ha=> ?_) hg _ (ZO (to1.leaf.trans leaf) _ _ q3);simp only[repD,repC] at ha ⊢;obtain⟨_,A,c,rfl,w1,w2,w3,w4,w5⟩:=ha
    have hA:A=none:=by
     have:=w3 false rfl
     cases A with
     |none=>rfl
     |some _=>cases this
    subst hA;have hc:=w4 rfl;subst hc;refine⟨λ_ hx=>(by cases hx),none,0,rfl,ym _,by simp[maxLen],ZY _,λ_=>rfl,λh=>absurd rfl h,e,[], ?_,ym _,λ_=>.inl ⟨?_,rfl,rfl⟩⟩
    ·show(σ1.H.set j _)[σ.H.length]? =_;rw[ybg,if_neg (by omega)];simp[σ1]
    ·show(σ1.m.set j _)[σ.H.length]? =_;rw[ybg,if_neg (by omega)];show(σ.m++[none])[σ.H.length]? =_;rw[yam (by rw[ok.len];exact ym _),ok.len];simp)
 exact⟨σ2,rfl,rfl,to1.trans to2,ok2⟩
theorem ZgT:∀(hs:List Hint)(d:Dv)(H0 L:List Ent){σ:Sg},Ok σ→σ.H=H0++.var d true::L→∃σ2:Sg,σ2.H=H0++.var (Ye d (H0.length+1+L.length) hs).1 true::(L++(Ye d (H0.length+1+L.length) hs).2.1)∧σ2.w=σ.w∧To σ σ2∧Ok σ2
 |[],d,H0,L,σ,ok,h=>⟨σ,by simp[Ye,h],rfl,To.refl σ,ok⟩
 |x::hs,d,H0,L,σ,ok,h=>by
  have base:Ye d (H0.length+1+L.length) (x::hs)=(d,[],x::hs)→∃σ2:Sg,σ2.H=H0++.var (Ye d (H0.length+1+L.length) (x::hs)).1 true::(L++(Ye d (H0.length+1+L.length) (x::hs)).2.1)∧σ2.w=σ.w∧To σ σ2∧Ok σ2:=λe=>by
   rw[e];exact⟨σ,by simp[h],rfl,To.refl σ,ok⟩
  cases x with
  |ghost path s e=>
   cases hg:Yy d path s (.own (H0.length+1+L.length) none s []) with
   |none=>exact base (by simp[Ye,hg])
   |some d'=>
    have hl:σ.H.length=H0.length+1+L.length:=by rw[h];simp;omega
    obtain⟨σ1,e1,e2,e3,e4⟩:=ZCd (e:=e) ok (j:=H0.length) (s:=s) (d:=d) (d':=d') (st:=true) (path:=path) (by rw[h];simp) (by rw[hl];exact hg)
    have e1':σ1.H=H0++.var d' true::(L++[Ent.log s e []]):=by
     rw[e1,h];simp[List.set_append]
    obtain⟨σ2,f1,f2,f3,f4⟩:=ZgT hs d' H0 (L++[Ent.log s e []]) e4 e1';refine⟨σ2, ?_,by rw[f2,e2],e3.trans f3,f4⟩;rw[f1];simp only[Ye,hg,yr,yai,ych]
    simp[yce]
  |_=>exact base (by simp[Ye])
theorem Zwl{P:yg}{o:Oper}{a:Act}{σ:Sg}{d:Dv}{H1 H2:List Ent}(h:Ym P o a σ d H1)(k:∀σ1:Sg,σ1.H=H1→Ok σ1→∃σ2:Sg,σ2.H=H2∧σ2.w=σ1.w∧To σ1 σ2∧Ok σ2):Ym P o a σ d H2:=by
 intro K Q hK;refine h K Q λv σ1 e1 to1 ok1 hd=> ?_;obtain⟨σ2,f1,f2,f3,f4⟩:=k σ1 e1 ok1;rw[←f2];exact hK v σ2 f1 (to1.trans f3) f4 (Wc f3.leaf hd)
theorem Zp6{P:yg}{o:Oper}{a:Act}{σ:Sg}{d dd:Dv}{H:List Ent}(h:Ym P o a σ d (H++[.var dd true]))(hs:List Hint):Ym P o a σ d (H++.var (Ye dd (H.length+1) hs).1 true::(Ye dd (H.length+1) hs).2.1):=by
 refine Zwl h λσ1 e1 ok1=> ?_;obtain⟨σ2,f1,f2,f3,f4⟩:=ZgT hs dd H [] ok1 e1;exact⟨σ2,by simpa using f1,f2,f3,f4⟩
theorem Zxu{P:yg}{o:Oper}{a:Act}{σ:Sg}{d dd:Dv}{H:List Ent}{id:Nat}{x:Ent}(h:Ym P o a σ d (H.set id (.var dd true)))(hid:H[id]? =some x)(hs:List Hint):Ym P o a σ d (H.set id (.var (Ye dd H.length hs).1 true)++(Ye dd H.length hs).2.1):=by
 have hlt:id < H.length:=(yo.1 hid).1;have e:∀v:Ent,H.set id v=H.take id++v::H.drop (id+1):=λv=>List.set_eq_take_append_cons_drop.trans (if_pos hlt);refine Zwl h λσ1 e1 ok1=> ?_;rw[e] at e1;obtain⟨σ2,f1,f2,f3,f4⟩:=ZgT hs dd (H.take id) (H.drop (id+1)) ok1 e1;have hl:(H.take id).length+1+(H.drop (id+1)).length=H.length:=by simp;omega
 rw[hl] at f1;refine⟨σ2, ?_,f2,f3,f4⟩;rw[f1,e];simp
end Go.Ev
end
section
namespace Go.Ev
section
variable{P:yg}{o:Oper}{a:Act}{σ:Sg}{ts:List Dv}{hs hs':List Hint}{C:List Prop}{d:Dv}{H':List Ent}
theorem Zz3(ok:Ok σ)(hrep:RepT σ ts a){t:yb}{x y:yn}{id v v' s off:Nat}{path:List Nat}{e:yb}{dd sub new dd':Dv}{C1:List Prop}{off':Nat}(ho:o.op=.store t x y)(hx:Zp P ts 0 x=.rref id v off path)
 (hH:σ.H[id]? =some (.row v' s true e dd)) (hv:v'=v) (hg:Z3 dd path hs=some (C1,off',sub,hs')) (hc:AllP C1) (he:off'=off) (hn:ZbW path dd (Zp P ts t y)=some new) (hp:Xi new dd path hs=some dd')
 (hsol:new.solid=true) (hsz:new.size=sub.size) (ht:P.cellsOf t=new.size) (hi:(P.info? t).isSome=true) (hN':rowN dd' s=rowN dd s):Ym P o a σ .junk (σ.H.set id (.row v s true e dd')):=by
 subst he;subst hv;have hxv:=Zi (P:=P) hrep 0 x;have hyv:=Zst hn (Zi (P:=P) hrep t y);rw[hx] at hxv;obtain⟨b,hxv,hm⟩:=ZzO hxv hH rfl;obtain⟨N,hN,hent⟩:=ok.ent id _ _ hH hm;rcases hent with⟨h1,_⟩|⟨b',cs,cap,h1,h2,hcs,hle,hcm,h3⟩
 ·cases h1
 cases h1;have hsize:=Zwa hN;rw[←hsize] at h3;have h4:dd.size≤cs.size:=by rw[hsize,hcs];exact ycb _ hle
 obtain⟨p1,p2,p3,h5,h6,h7,h8⟩:=Qm path dd hs hs' C1 off' sub _ hg hc h3;have hcells:=X7 hsol hyv;obtain⟨h9,h10⟩:=h8 new dd' _ hp hsz hcells;have hl1:(a.eval y).cells.toList.length=new.size:=YZ _ _ hcells;have hl2:p2.length=sub.size:=YZ _ _ h7;have hll:(a.eval y).cells.toList.length=p2.length:=by rw[hl1,hl2,hsz]
 obtain⟨k1,k2⟩:=ZiK h5 hll h4;rw[h6] at k1 k2
 have hnl:off'+(a.eval y).cells.toList.length≤cs.size:=by
  have:=congrArg List.length h5;simp only[yae,yas,yr] at this;omega
 have hone:∀u,u∈(a.eval y).cells.toList→u.oneCell'=true:=Zkb new _ hsol hcells;have hst:=run_storeCells_at P b off' e (a.eval y).cells.toList 0 cs σ.w h2 (by simpa using hnl) hone;simp only[Nat.add_zero] at hst;let ncs:Array yh:=(cs.toList.take off'++(a.eval y).cells.toList++cs.toList.drop (off'+(a.eval y).cells.toList.length)).toArray;let σ':Sg:={ σ with m:=σ.m.set id (some b),H:=σ.H.set id (.row v' s true e dd'),w:=σ.w.setRow b ncs};have hncs:ncs.size=cs.size:=k2;have hblk:σ'.w.heap[b]? =some (.cells ncs e (0,0)):=setRow_heap σ.w b cs _ e _ h2;have hoth:∀j,b≠j→σ'.w.heap[j]? =σ.w.heap[j]? :=λj hj=>setRow_other σ.w b j _ (Ne.symm hj)
 obtain⟨to,ok'⟩:=Yz (σ':=σ') (mi:=some b) (mi':=some b) ok hH hm rfl rfl rfl rfl rfl rfl rfl (by simp[σ'])
  (λj hj hne=>hoth j (λhh=>hne (by rw[hh]))) (λb' o v _ hu _=>by cases hu.1) (λo _ hu=>by cases hu.1) (.inl rfl) (λ⟨d,st,h⟩=>by cases h) (λ⟨d,st,h⟩=>by cases h)
  (λs e xs h=>by cases h) (λleaf=>⟨N,by rw[hN'];exact hN,.inr ⟨b,ncs,cap,rfl,hblk,by rw[hncs];exact hcs,hle,hcm,by
    rw[←hsize];show repD σ' dd' (ncs.toList.take dd.size);rw[show ncs.toList.take dd.size=p1++((a.eval y).cells.toList++p3) from k1]
    exact ZO leaf dd' _ h9⟩⟩)
  (λv s st e2 d h=>by cases h;exact⟨v',true,_,rfl,ym _,λ_=>⟨rfl,λb2 cur hb2 hcur=>by
    cases hb2;rw[h2] at hcur;cases hcur;exact⟨ncs,hblk,hncs⟩⟩⟩)
 refine Zdf (σ':=σ') ?_ to ok'
 cases hi':P.info? t with
 |none=>simp[hi'] at hi
 |some i=>
  have hs:(a.eval y).cells.size=i.size:=by
   rw[←yas,hl1, ←ht];simp[Program.cellsOf,hi']
  simp only[execOp,ho,hxv,Instr.storeAt,Instr.sureAddr,storeVar,sizeOf,typeInfo,Sem.run_bind,run_program,Result.andThen_ok,hi',Sem.run_pure,hs,ne_eq,not_true,if_false,hst];rfl
theorem Zm3(ok:Ok σ){s:Nat}{e:yb}{dd:Dv}{N n cap:Nat}{cells:Array yh}{w':yy}{v:yh}(hg:σ.w.grownBy w' none)(hblk:w'.heap[σ.w.heap.size]? =some (.cells cells e (0,0)))(hcs:cells.size=cap*s)(hlt:σ.w.heap.size < w'.heap.size)
 (hN:rowN dd s=some N) (hle:N≤cap) (hcm:cap≤maxLen) (hn:n≤N) (hr:repD σ dd (cells.toList.take (N*s))) (hx:(execOp a.eval o).run P σ.w=.ok (.value (.slice (some ⟨σ.w.heap.size,0,none⟩) n cap)) w'):
 Ym P o a σ (.rv σ.H.length 0 s 0 n) (σ.H++[.row 0 s true e dd]):=by
 let σ':Sg:={ σ with m:=σ.m++[some σ.w.heap.size],H:=σ.H++[.row 0 s true e dd],w:=w'}
 have hmlast:σ'.m[σ.H.length]? =some (some σ.w.heap.size):=by
  show(σ.m++[some σ.w.heap.size])[σ.H.length]? =_;rw[yam (by rw[ok.len];exact ym _),ok.len];simp
 obtain⟨to,ok'⟩:=Xz (σ':=σ') ok rfl rfl rfl rfl hg (.inr ⟨_,rfl,ym _,hlt⟩)
  (λleaf=>⟨N,hN,.inr ⟨σ.w.heap.size,cells,cap,rfl,hblk,hcs,hle,hcm,ZO leaf _ _ hr⟩⟩)
 refine ZE (σ':=σ') hx to ok' ?_;rw[Ze rfl];simp only[repD];refine⟨_,_,rfl,by omega,hcm,λh=>(by cases h),λ_=>⟨_,_,rfl⟩,0,s,true,e,dd,by simp[σ'],ym _,λ_=>⟨rfl,.inr ⟨σ.w.heap.size,cells,hmlast,hblk,by rw[hcs,yax],λ_=>by simp⟩⟩⟩
theorem ZFs(ok:Ok σ){t e:yb}{l c:yn}{i:TypeInfo}{n n':Int}(hrep:RepT σ ts a)(ho:o.op=.makeSlice t l c)(hu:P.underlying t=some (.slice e))(hl:Zp P ts 0 l=.p (.int .i64 n))(hcp:Zp P ts 0 c=.p (.int .i64 n'))
 (hi:P.info? e=some i) (hz:zOk i=true) (h0:n=0) (h1:0≤n') (h2:n'.toNat*i.bytes≤Zo) (h3:n'.toNat≤maxLen):
 Ym P o a σ (.rv σ.H.length 0 i.size 0 0) (σ.H++[.row 0 i.size true e (.p (.arr 0 i.size []))]):=by
 subst h0;obtain⟨z,hzz,hzs⟩:=VH hz;obtain⟨cells,hrun,hcs,_⟩:=Zbf (w:=σ.w) (t:=t) hu hi hzz (Int.le_refl 0) h1 h2 h3;have hlv:=ZD (hl ▸ Zi (P:=P) hrep 0 l);have hcv:=ZD (hcp ▸ Zi (P:=P) hrep 0 c);refine Zm3 (N:=0) (cap:=n'.toNat) (w':=σ.w.alloc (.cells cells e)) (v:=.bool true) ok (World.grownBy_alloc σ.w (.cells cells e) none) (heap_alloc_new σ.w _) hcs (by simp) (by simp[rowN]) (Nat.zero_le _) h3 (ym _) ?_ ?_
 ·simp[repD,repC,repCs];intro x hx;cases hx
 ·have hrun':=hrun;simp only[Int.toNat_zero] at hrun';simp[execOp,ho,hlv,hcv,hrun']
theorem ZCe(ok:Ok σ){t e:yb}{l c:yn}{i:TypeInfo}{z:Pl}{n n':Int}(hrep:RepT σ ts a)(ho:o.op=.makeSlice t l c)(hu:P.underlying t=some (.slice e))(hl:Zp P ts 0 l=.p (.int .i64 n))(hcp:Zp P ts 0 c=.p (.int .i64 n'))
 (hi:P.info? e=some i) (hz:zOk i=true) (hs1:i.size=1) (hzp:Yr P e=.p z) (hz1:z.size=1) (hza:z.isAgg=false) (h0:n'=n) (h1:0≤n) (h2:n.toNat*i.bytes≤Zo) (h3:n.toNat≤maxLen):
 Ym P o a σ (.rv σ.H.length 0 1 0 n.toNat) (σ.H++[.row 0 1 true e (.p (.arr n.toNat 1 (yab n.toNat z)))]):=by
 subst h0;obtain⟨zv,hzz,hzs⟩:=VH hz;obtain⟨cells,hrun,hcs,hck⟩:=Zbf (w:=σ.w) (t:=t) hu hi hzz h1 (Int.le_refl n') h2 h3;have hlv:=ZD (hl ▸ Zi (P:=P) hrep 0 l);have hcv:=ZD (hcp ▸ Zi (P:=P) hrep 0 c)
 have hr:repDV σ (Yr P e) zv:=by
  unfold Yr;rw[hi];simp only[hzz];exact Wh
 rw[hzp] at hr;have hr:=X7 (d:=.p z) rfl hr
 obtain⟨c0,hc0⟩:∃c0,zv.cells.toList=[c0]:=by
  have h9:zv.cells.toList.length=1:=by rw[yas,hzs,hs1]
  match hq:zv.cells.toList,h9 with
  |[c0],_=>exact⟨c0,rfl⟩
 rw[hc0] at hr;have hzc:zv.cells= #[c0]:=by rw[←ybx (xs:=zv.cells),hc0]
 have hcells:cells.toList=yab n'.toNat c0:=by
  apply ybd;intro k;rw[ybr,List.getElem?_replicate];by_cases hk:k < n'.toNat
  ·rw[hck hs1 k hk,if_pos hk,hzc];simp[Nat.mod_one]
  ·rw[if_neg hk];refine Array.getElem?_eq_none ?_;rw[hcs,hs1];omega
 have hcl:cells.toList.length=n'.toNat:=by rw[hcells];simp
 refine Zm3 (N:=n'.toNat) (cap:=n'.toNat) (w':=σ.w.alloc (.cells cells e)) (v:=.bool true) ok (World.grownBy_alloc σ.w (.cells cells e) none) (heap_alloc_new σ.w _) (by rw[hcs,hs1]) (by simp) (by simp[rowN]) (ym _) h3 (ym _) ?_ ?_
 ·rw[Nat.mul_one,ycn (by omega),hcells];simp only[repD,repC];refine⟨by simp,λy hy=>by rw[(List.mem_replicate.1 hy).2];exact hz1, ?_⟩;simp only[repD] at hr;exact ZbY hr _
 ·simp[execOp,ho,hlv,hcv,hrun]
theorem ZFt(ok:Ok σ)(hrep:RepT σ ts a){t e:yb}{i:TypeInfo}{len:Nat}{parts:Array (Nat×yn)}{xs:List Pl}(ho:o.op=.buildSlice t len parts)(hu:P.underlying t=some (.slice e))
 (hi:P.info? e=some i) (hz:zOk i=true) (hne:i.size≠0) (hsz:len*i.size≤16777216) (hl:Y8 P ts e (P.cellsOf e) len parts.toList=some xs):
 Ym P o a σ (.rv σ.H.length 0 i.size 0 len) (σ.H++[.row 0 i.size true e (.p (.arr len i.size (xs.map Pl.soft)))]):=by
 obtain⟨cells,hrun,hr,hlen,hall,hcs⟩:=ZmZ (P:=P) hrep hu hi hz hsz hl
 have hle:len≤maxLen:=by
  have:=Nat.le_mul_of_pos_right len (Nat.pos_of_ne_zero hne);simp only[maxLen];omega
 refine Zm3 (N:=len) (cap:=len) (w':=σ.w.alloc (.cells cells e)) (v:=.bool true) ok (World.grownBy_alloc σ.w (.cells cells e) none) (heap_alloc_new σ.w _) hcs (by simp) (by simp[rowN]) (ym _) hle (ym _) ?_ (ZmY ho hrun);rw[←hcs, ←yas,yay];simp only[repD,repC];refine⟨by rw[yx];exact hlen,λy hy=> ?_, ?_⟩
 ·obtain⟨x,hx,rfl⟩:=ybu.1 hy;rw[ZoO];exact hall x hx
 ·rw[←Pl.softs_map];exact(softs_wk xs).rep _ _ _ hr
theorem ZCf(ok:Ok σ)(hrep:RepT σ ts a){t e:yb}{i:TypeInfo}{len id v:Nat}{st:Bool}{dd:Dv}{parts:Array (Nat×yn)}{xs:List Pl}(ho:o.op=.buildSlice t len parts)(hu:P.underlying t=some (.slice e))
 (hi:P.info? e=some i) (hz:zOk i=true) (hne:i.size≠0) (hsz:len*i.size≤16777216) (hl:Y8 P ts e (P.cellsOf e) len parts.toList=some xs) (hH:σ.H[id]? =some (.row v i.size st e dd)):
 Ym P o a σ (.rv id (v+1) i.size 0 len) (σ.H.set id (.row (v+1) i.size true e (.p (.arr len i.size (xs.map Pl.soft))))):=by
 obtain⟨cells,hrun,hr,hlen,hall,hcs⟩:=ZmZ (P:=P) hrep hu hi hz hsz hl
 have hle:len≤maxLen:=by
  have:=Nat.le_mul_of_pos_right len (Nat.pos_of_ne_zero hne);simp only[maxLen];omega
 have hlt:id < σ.m.length:=by rw[ok.len];exact(yo.1 hH).1
 have hm:σ.m[id]? =some σ.m[id]:=yac hlt;let σ':Sg:={ σ with m:=σ.m.set id (some σ.w.heap.size),H:=σ.H.set id (.row (v+1) i.size true e (.p (.arr len i.size (xs.map Pl.soft)))),w:=σ.w.alloc (.cells cells e)};have hblk:σ'.w.heap[σ.w.heap.size]? =some (.cells cells e (0,0)):=heap_alloc_new σ.w _;have hg:=World.grownBy_alloc σ.w (.cells cells e) none;have hself:σ'.m[id]? =some (some σ.w.heap.size):=getElem?_set_eq' hm;have hHself:σ'.H[id]? =some (.row (v+1) i.size true e (.p (.arr len i.size (xs.map Pl.soft)))):=getElem?_set_eq' hH
 obtain⟨to,ok'⟩:=Yz (σ':=σ') (mi:=σ.m[id]) (mi':=some σ.w.heap.size) ok hH hm rfl rfl rfl rfl rfl rfl rfl hg.size
  (λj hj _=>hg.block j hj (by simp)) (λb o v hb _ hc=>by
    have hj:=ok.lt id b (by rw[hm,hb]);rw[World.cell?_of_block (w:=σ.w) (hg.block b hj (by simp))];exact hc) (λo he hu=>by
    have hj:=ok.lt id _ (by rw[hm, ←he]);omega) (.inr ⟨_,rfl,ym _,by simp[σ']⟩) (λ⟨d,st,h⟩=>by cases h) (λ⟨d,st,h⟩=>by cases h) (λs e xs h=>by cases h)
  (λleaf=>⟨len,by simp[rowN],.inr ⟨_,cells,len,rfl,hblk,hcs,ym _,hle,by
    rw[←hcs, ←yas,yay];simp only[repD,repC];refine⟨by rw[yx];exact hlen,λy hy=> ?_, ?_⟩
    ·obtain⟨x,hx,rfl⟩:=ybu.1 hy;rw[ZoO];exact hall x hx
    ·rw[←Pl.softs_map];exact(softs_wk xs).rep _ _ _ (repCs_mono leaf.cells _ _ hr)⟩⟩)
  (λv' s' st' e' d' h=>by cases h;exact⟨v+1,true,_,rfl,Nat.le_succ _,λhv=>absurd hv (by omega)⟩)
 refine ZE (σ':=σ') (ZmY ho hrun) to ok' ?_;rw[Ze rfl];simp only[repD];refine⟨some ⟨σ.w.heap.size,0,none⟩,len,rfl,ym _,hle,λh=>(by cases h),λ_=>⟨_,_,rfl⟩,v+1,i.size,true,e,_,hHself,ym _,λ_=>⟨rfl,.inr ⟨_,cells,hself,hblk,by rw[yax];exact hcs,λ_=>by rw[Nat.zero_mul]⟩⟩⟩
theorem ZCg(ok:Ok σ)(hrep:RepT σ ts a){t e:yb}{i:TypeInfo}{len:Nat}{parts:Array (Nat×yn)}{ds:List Dv}(ho:o.op=.buildSlice t len parts)(hu:P.underlying t=some (.slice e))
 (hi:P.info? e=some i) (hz:zOk i=true) (hne:i.size≠0) (hsz:len*i.size≤16777216) (hl:Zdb P ts e (P.cellsOf e) len parts.toList=some ds):
 Ym P o a σ (.rv σ.H.length 0 i.size 0 len) (σ.H++[.row 0 i.size true e (.arr len i.size ds)]):=by
 have hce:P.cellsOf e=i.size:=by simp[Program.cellsOf,hi]
 rw[hce] at hl
 obtain⟨cells,hrun,hr,hlen,hall⟩:=ZiG (P:=P) (t:=t) (parts:=parts.map λq=>(q.1,a.eval q.2)) (Q:=λcells=>repDs σ ds cells.toList∧ds.length=len∧∀x,x∈ds→x.size=i.size) σ.w hu hi hz hsz (λZ hZ=>by
  obtain⟨cells,k1,k2⟩:=ZB4 (P:=P) hrep hl Z hZ;exact⟨cells,by rw[ycm];exact k1,k2⟩)
 have hrd:repD σ (.arr len i.size ds) cells.toList:=by
  simp only[repD];exact⟨hlen,hall,hr⟩
 have hcs:cells.size=len*i.size:=by rw[←yas];exact YZ _ _ hrd
 have hle:len≤maxLen:=by
  have:=Nat.le_mul_of_pos_right len (Nat.pos_of_ne_zero hne);simp only[maxLen];omega
 refine Zm3 (N:=len) (cap:=len) (w':=σ.w.alloc (.cells cells e)) (v:=.bool true) ok (World.grownBy_alloc σ.w (.cells cells e) none) (heap_alloc_new σ.w _) hcs (by simp) (by simp[rowN]) (ym _) hle (ym _) ?_ (ZmY ho hrun);rw[←hcs, ←yas,yay];exact hrd
theorem Zu1(ok:Ok σ)(hrep:RepT σ ts a){c:Call}{x y:yn}{t u e:yb}{i:TypeInfo}{ys:List Pl}(ho:o.op=.call c)(hcal:c.callee=.builtin .append)(hargs:c.args.toList=[x,y])
 (htys:c.argTypes.toList=[t,u]) (ht:P.underlying t=some (.slice e)) {s:Nat} (hx:Zp P ts t x=.p (.sl (some false) s [])) (hi:P.info? e=some i) (hz:zOk i=true) (hne:i.size≠0)
 (hsrc:Zsp P σ (P.cellsOf e) u (a.eval y) ys) (hb:ys.length*i.bytes≤Zo) (hm:ys.length≤maxLen):
 Ym P o a σ (.rv σ.H.length 0 i.size 0 ys.length) (σ.H++[.row 0 i.size true e (.p (.arr ys.length i.size ys))]):=by
 have hxv:=Zi (P:=P) hrep t x;rw[hx] at hxv;have hxn:=Zp0 hxv;have hce:P.cellsOf e=i.size:=by simp[Program.cellsOf,hi]
 rcases Wt (P:=P) (ty:=o.type) ok hrep ht hi hz hne hsrc hb hm with⟨rfl,hrun⟩|⟨news,rest,hys,hall,hr,hge,hcm,hcs,hrun⟩
 ·let σ':Sg:={ σ with m:=σ.m++[none],H:=σ.H++[.row 0 i.size true e (.p (.arr 0 i.size []))]}
  have hmlast:σ'.m[σ.H.length]? =some none:=by
   show(σ.m++[none])[σ.H.length]? =_;rw[yam (by rw[ok.len];exact ym _),ok.len];simp
  obtain⟨to,ok'⟩:=Xz (σ':=σ') ok rfl rfl rfl rfl (World.grownBy.refl σ.w none) (.inl rfl) (λleaf=>⟨0,by simp[rowN],.inl ⟨rfl,rfl⟩⟩);refine ZE (σ':=σ') (Z1 ho hcal hargs htys (by rw[hxn];exact hrun)) to ok' ?_;rw[Ze rfl];simp only[repD];refine⟨none,0,rfl,ym _,by simp[maxLen],λ_=>rfl,λh=>(by simp at h),0,i.size,true,e,.p (.arr 0 i.size []),by simp[σ'],ym _,λ_=>⟨rfl,.inl ⟨hmlast,rfl,rfl⟩⟩⟩
 ·have hlen:news.length=ys.length*i.size:=by rw[repCs_size _ _ hr,sizes_all hall]
  refine Zm3 (N:=ys.length) (cap:=grownCap σ.w ys.length 0 e) (w':=σ.w.drew.alloc (.cells (news.toArray++rest) e)) (v:=.bool true) ok (Yu σ.w (.cells (news.toArray++rest) e) none) (heap_alloc_new σ.w.drew _) hcs (by simp) (by simp[rowN]) hge hcm (ym _) ?_ (Z1 ho hcal hargs htys (by rw[hxn];exact hrun));rw[←hlen];simp only[Array.toList_append,List.take_left',repD,repC];exact⟨trivial,hall,hr⟩
theorem ZiP{w:yy}{t u ty e:yb}{i:TypeInfo}{S:yh}{news:List yh}{A:Option Addr}{n c:Nat}(ht:P.underlying t=some (.slice e))(hi:P.info? e=some i)(hS:Src P w u i.size S 0 news)(hn:n≤c)(hA:A=none→c=0):
 (Builtin.append_ #[t,u] ty #[.slice A n c,S]).run P w=.ok (.slice A n c) w:=by
 obtain⟨hty,hl,hf,hfd,hc⟩:=hS;have hnews:news=[]:=yaz (by rw[hc];simp);subst hnews
 rcases hty with⟨e'',hu⟩|hu <;>
  (cases A with
   |none=>
    have:=hA rfl;have hn0:n=0:=by omega
    subst this;subst hn0
    simp[Builtin.append_,run_underlying ht,run_underlying hu,sizeOf,typeInfo,hi,hl,hf]
   |some A=>
    simp[Builtin.append_,run_underlying ht,run_underlying hu,sizeOf,typeInfo,hi,hl,hf,hn,storeCells])
theorem Zu2(ok:Ok σ)(hrep:RepT σ ts a){c:Call}{x y:yn}{t u e:yb}{i:TypeInfo}{id v s lo n:Nat}(ho:o.op=.call c)(hcal:c.callee=.builtin .append)(hargs:c.args.toList=[x,y])
 (htys:c.argTypes.toList=[t,u]) (ht:P.underlying t=some (.slice e)) (hx:Zp P ts t x=.rv id v s lo n) (hi:P.info? e=some i)
 (hsrc:Zsp P σ (P.cellsOf e) u (a.eval y) []):Ym P o a σ (.rv id v s lo n) σ.H:=by
 have hxv:=Zi (P:=P) hrep t x;rw[hx] at hxv;have hxv0:=hxv;obtain⟨A,cc,hv,h2,h3,h4,_⟩:=Zfw hxv;have hce:P.cellsOf e=i.size:=by simp[Program.cellsOf,hi]
 rw[hce] at hsrc;obtain⟨news,hS,_,_⟩:=hsrc;refine Zh (v:=a.eval x) ok (Z1 ho hcal hargs htys ?_) hxv0;rw[hv];exact ZiP (P:=P) (ty:=o.type) ht hi hS h2 h4
theorem ZDT{v s N o:Nat}{st:Bool}{e:yb}{xs:List Pl}(hu:(Ent.row v s st e (.p (.arr N s xs))).unlocked o):st=false∧o < N*s:=by
 obtain⟨h1,N',h2,h3⟩:=hu;rw[show rowN (.p (.arr N s xs)) s=some N from if_pos rfl] at h2
 cases h2;exact⟨h1,h3⟩
theorem ZsE{v v' s n N m o:Nat}{st:Bool}{e:yb}{xs ys:List Pl}(hst:st=true∨n=N)(hu:(Ent.row v s st e (.p (.arr N s xs))).unlocked o):(Ent.row v' s st e (.p (.arr (n+m) s ys))).unlocked o:=by
 obtain⟨h1,h2⟩:=ZDT hu;refine⟨h1,n+m,if_pos rfl, ?_⟩;rcases hst with h|h
 ·rw[h] at h1;cases h1
 ·subst h;rw[yat];omega
theorem Zxv(ok:Ok σ)(hrep:RepT σ ts a){c:Call}{x y:yn}{t u e:yb}{i:TypeInfo}{xs ys:List Pl}{id v n N:Nat}{st:Bool}(hst:st=true∨n=N)(ho:o.op=.call c)(hcal:c.callee=.builtin .append)
 (hargs:c.args.toList=[x,y]) (htys:c.argTypes.toList=[t,u]) (ht:P.underlying t=some (.slice e)) (hx:Zp P ts t x=.rv id v i.size 0 n) (hi:P.info? e=some i) (hz:zOk i=true) (hne:i.size≠0)
 (hsrc:Zsp P σ i.size u (a.eval y) ys) (hH:σ.H[id]? =some (.row v i.size st e (.p (.arr N i.size xs)))) (hnN:n≤N) (hb:(n+ys.length)*i.bytes≤Zo) (hm:n+ys.length≤maxLen):
 Ym P o a σ (.rv id (v+1) i.size 0 (n+ys.length)) (σ.H.set id (.row (v+1) i.size st e (.p (.arr (n+ys.length) i.size (xs.take n++ys))))):=by
 have hxv:=Zi (P:=P) hrep t x;rw[hx] at hxv;obtain⟨A0,c0,hv0,_,_,_,hpall,hplen,q,hq,hql,hqc⟩:=ZrQ ok hxv hH rfl (by omega:0+n≤N);simp only[List.drop_zero] at hpall hplen hq;obtain⟨A,cp,hv,h2,h3,h4,h5,v2,s2,st2,e2,d2,h6,h7,h8⟩:=Zfw hxv;rw[hv] at hv0;injection hv0 with e1 e2 e3;subst e1;subst e3;rw[hH] at h6;cases h6;obtain⟨_,h9⟩:=h8 rfl;have hsrc2:=hsrc;obtain⟨news,hS,hr,hall⟩:=hsrc2;obtain⟨z,hzz,hzs⟩:=VH hz;have hidlt:id < σ.m.length:=by rw[ok.len];exact(yo.1 hH).1
 have hmi:σ.m[id]? =some σ.m[id]:=yac hidlt;have hnl:news.length=ys.length*i.size:=hS.cells;have hone:∀v,v∈news→v.oneCell'=true:=repCs_one _ _ hr;have hlen:(xs.take n++ys).length=n+ys.length:=by rw[yr,hplen]
 have hall':allSz i.size (xs.take n++ys):=by
  by_cases hy:ys=[]
  ·subst hy;simpa using hpall
  ·exact Xx hpall (hall hy)
 have hrowN:rowN (.p (.arr (n+ys.length) i.size (xs.take n++ys))) i.size=some (n+ys.length):=by simp[rowN]
 have grow:cp < n+ys.length→Ym P o a σ (.rv id (v+1) i.size 0 (n+ys.length)) (σ.H.set id (.row (v+1) i.size st e (.p (.arr (n+ys.length) i.size (xs.take n++ys))))):=by
  intro hgr
  have hold:(Builtin.firstCells i.size n (.slice A n cp)).run P σ.w.drew=.ok q.toArray σ.w.drew:=by
   rcases ybt n with h0|h0
   ·subst h0;have:q=[]:=yaz (by rw[hql];simp);subst this;cases A <;> simp[Builtin.firstCells,loadCells,loadCellsFrom]
   ·obtain⟨b,cur,cap,rfl,_,_,_,hcell⟩:=hqc h0;refine run_firstCells_some _ _ _ ⟨b,_,none⟩ _ cp q hql (λj v hv=> ?_);rw[Addr.add_mk];exact hcell j v hv
  have hrun:=ZiI (P:=P) (ty:=o.type) ht hi hzz hS hold hgr hm hb;have hge:=grownCap_ge σ.w (n+ys.length) cp e;have hcm:=grownCap_le_maxLen σ.w (n+ys.length) cp e hm;let k:Nat:=grownCap σ.w (n+ys.length) cp e;let rest:Array yh:=Builtin.zeroCells z.cells (k - (n+ys.length));let ncur:Array yh:=q.toArray++news.toArray++rest;let σ':Sg:={ σ with m:=σ.m.set id (some σ.w.heap.size),H:=σ.H.set id (.row (v+1) i.size st e (.p (.arr (n+ys.length) i.size (xs.take n++ys)))),w:=σ.w.drew.alloc (.cells ncur e)}
  have hncs:ncur.size=k*i.size:=by
   simp only[ncur,rest,Array.size_append,List.size_toArray,size_zeroCells,hzs,hql,hnl, ←yat];congr 1;omega
  have htk:ncur.toList.take ((n+ys.length)*i.size)=q++news:=by
   have e1:(q++news).length=(n+ys.length)*i.size:=by rw[yr,hql,hnl,yat]
   rw[←e1];have:ncur.toList=(q++news)++rest.toList:=by simp[ncur]
   rw[this];exact List.take_left
  have hblk:σ'.w.heap[σ.w.heap.size]? =some (.cells ncur e (0,0)):=heap_alloc_new σ.w.drew _;have hg:=Yu σ.w (.cells ncur e) none;have hblk':∀b,b < σ.w.heap.size→σ'.w.heap[b]? =σ.w.heap[b]? :=λb hb=>hg.block b hb (by simp);have hmset:σ'.m[id]? =some (some σ.w.heap.size):=getElem?_set_eq' hmi;have hHset:σ'.H[id]? =some (.row (v+1) i.size st e (.p (.arr (n+ys.length) i.size (xs.take n++ys)))):=getElem?_set_eq' hH
  obtain⟨to,ok'⟩:=Yz (σ':=σ') (mi:=σ.m[id]) (mi':=some σ.w.heap.size) ok hH hmi rfl rfl rfl rfl rfl rfl rfl hg.size
   (λb hb _=>hblk' b hb) (λb' o v hb' _ hcell=>by
     rw[World.cell?_of_block (w:=σ.w) (hblk' b' (XH hcell))];exact hcell)
   (λo h _=>by
     have:=ok.lt id σ.w.heap.size (by rw[hmi, ←h]);omega) (.inr ⟨_,rfl,ym _,by simp[σ']⟩) (λ⟨d,st,h⟩=>by cases h) (λ⟨d,st,h⟩=>by cases h)
   (λs' e' xs' h=>by cases h)
   (λleaf=>⟨n+ys.length,hrowN,.inr ⟨σ.w.heap.size,ncur,k,rfl,hblk,hncs,hge,hcm,by
     rw[htk];simp only[repD,repC];exact⟨hlen,hall',Z4 (repCs_mono leaf.cells _ _ hq) (repCs_mono leaf.cells _ _ hr)⟩⟩⟩)
   (λv2 s st e d h=>by cases h;exact⟨v+1,_,_,rfl,by omega,λhh=>absurd hh (by omega)⟩)
  refine ZE (σ':=σ') (Z1 ho hcal hargs htys (by rw[hv];exact hrun)) to ok' ?_;rw[Ze rfl];simp only[repD];exact⟨_,_,rfl,hge,hcm,λh=>(by cases h),λ_=>⟨_,_,rfl⟩,v+1,i.size,st,e,_,hHset,ym _,λ_=>⟨rfl,.inr ⟨σ.w.heap.size,ncur,hmset,hblk,by rw[hncs,yax],λ_=>by simp⟩⟩⟩
 rcases h9 with⟨k1,rfl,k2⟩|⟨b,cur,k1,k3,k4,k5⟩
 ·have hc0:cp=0:=by omega
  subst hc0;have hn0:n=0:=by omega
  subst hn0;rcases ybt ys.length with h0|h0
  ·have hys:ys=[]:=yaz h0;subst hys;have hrun:=ZiP (P:=P) (ty:=o.type) (A:=none) (n:=0) (c:=0) ht hi hS (ym _) (λ_=>rfl);let σ':Sg:={ σ with m:=σ.m.set id σ.m[id],H:=σ.H.set id (.row (v+1) i.size st e (.p (.arr (0+([]:List Pl).length) i.size (xs.take 0++[]))))};have hmset:σ'.m[id]? =some σ.m[id]:=getElem?_set_eq' hmi;have hHset:σ'.H[id]? =some (.row (v+1) i.size st e (.p (.arr (0+([]:List Pl).length) i.size (xs.take 0++[])))):=getElem?_set_eq' hH;have hmn:σ.m[id]=none:=by rw[hmi] at k1;exact ybe k1
   obtain⟨to,ok'⟩:=Yz (σ':=σ') (mi:=σ.m[id]) (mi':=σ.m[id]) ok hH hmi rfl rfl rfl rfl rfl rfl rfl (ym _)
    (λ_ _ _=>rfl) (λ_ _ _ _ _ h=>h) (λo _ hu=>ZsE hst hu) (.inl rfl) (λ⟨d,st,h⟩=>by cases h) (λ⟨d,st,h⟩=>by cases h)
    (λs e xs h=>by cases h) (λleaf=>⟨0,by simp[rowN],.inl ⟨hmn,rfl⟩⟩)
    (λv2 s st e d h=>by cases h;exact⟨v+1,_,_,rfl,by omega,λhh=>absurd hh (by omega)⟩)
   refine ZE (σ':=σ') (Z1 ho hcal hargs htys (by rw[hv];exact hrun)) to ok' ?_;rw[Ze rfl];simp only[repD];exact⟨none,0,rfl,ym _,by simp[maxLen],λ_=>rfl,λh=>(by simp at h),v+1,i.size,st,e,_,hHset,ym _,λ_=>⟨rfl,.inl ⟨by rw[hmset,hmn],rfl,rfl⟩⟩⟩
  ·exact grow (by omega)
 ·by_cases hroom:n+ys.length≤cp
  ·have hmb:σ.m[id]=some b:=by rw[hmi] at k1;exact ybe k1
   rw[yax] at k4;rcases ybt cp with hcp0|hcp0
   ·have hn0:n=0:=by omega
    have hy0:ys.length=0:=by omega
    have hys:ys=[]:=yaz hy0;subst hys;have hrun:=ZiP (P:=P) (ty:=o.type) ht hi hS h2 h4;let σ':Sg:={ σ with m:=σ.m.set id (some b),H:=σ.H.set id (.row (v+1) i.size st e (.p (.arr (n+([]:List Pl).length) i.size (xs.take n++[]))))};have hmset:σ'.m[id]? =some (some b):=getElem?_set_eq' hmi;have hHset:σ'.H[id]? =some (.row (v+1) i.size st e (.p (.arr (n+([]:List Pl).length) i.size (xs.take n++[])))):=getElem?_set_eq' hH
    obtain⟨to,ok'⟩:=Yz (σ':=σ') (mi:=some b) (mi':=some b) ok hH k1 rfl rfl rfl rfl rfl rfl rfl (ym _)
     (λ_ _ _=>rfl) (λ_ _ _ _ _ h=>h) (λo _ hu=>ZsE hst hu) (.inl rfl) (λ⟨d,st,h⟩=>by cases h) (λ⟨d,st,h⟩=>by cases h)
     (λs e xs h=>by cases h) (λleaf=>⟨n,by simp[rowN],.inr ⟨b,cur,cp,rfl,k3,k4,h2,h3,by
       subst hn0;simp[repD,repC,repCs];intro x hx;cases hx⟩⟩)
     (λv2 s st e d h=>by cases h;exact⟨v+1,_,_,rfl,by omega,λhh=>absurd hh (by omega)⟩)
    refine ZE (σ':=σ') (Z1 ho hcal hargs htys (by rw[hv];exact hrun)) to ok' ?_;rw[Ze rfl];simp only[repD];exact⟨A,cp,rfl,h2,h3,h4,h5,v+1,i.size,st,e,_,hHset,ym _,λ_=>⟨rfl,.inr ⟨b,cur,hmset,k3,by rw[yax];exact k4,λh=>absurd h (by omega)⟩⟩⟩
   have hA:=k5 hcp0;rw[Nat.zero_mul] at hA;subst hA;have hrun:=ZiH (P:=P) (ty:=o.type) ht hi hS hone k3 hroom k4
   have hus:(cur.toList.take (n*i.size)).length=n*i.size:=by
    rw[yae,yas,k4];exact yav (ycb _ h2)
   have hqe:cur.toList.take (n*i.size)=q:=by
    rcases ybt n with h0|h0
    ·subst h0;have:q=[]:=yaz (by rw[hql];simp);rw[this];simp
    ·obtain⟨b2,cur2,cap2,hbb,hm2,hb2,hcs2,hcell⟩:=hqc h0
     have hbe:b=b2:=by
      injection hbb with hb';injection hb'
     subst hbe;apply ybd;intro j;rw[ycd];by_cases hj:j < n*i.size
     ·rw[if_pos hj];have hjq:j < q.length:=by rw[hql];exact hj
      have:=hcell j q[j] (yac hjq);rw[Nat.zero_mul,yax,cell_of_row σ.w b j cur e (0,0) k3, ←ybr] at this;rw[this,yac hjq]
     ·rw[if_neg hj,yan (by rw[hql];omega)]
   let ncur:Array yh:=(cur.toList.take (n*i.size)++news++cur.toList.drop (n*i.size+news.length)).toArray;let σ':Sg:={ σ with m:=σ.m.set id (some b),H:=σ.H.set id (.row (v+1) i.size st e (.p (.arr (n+ys.length) i.size (xs.take n++ys)))),w:=σ.w.setRow b ncur};have hfit:n*i.size+news.length≤cur.size:=by rw[hnl,k4, ←yat];exact ycb _ hroom
   have hncs:ncur.size=cp*i.size:=by
    simp only[ncur,List.size_toArray,yr,ybq,yas,hus];omega
   have hblk:σ'.w.heap[b]? =some (.cells ncur e (0,0)):=setRow_heap σ.w b cur _ e _ k3;have hoth:∀j,b≠j→σ'.w.heap[j]? =σ.w.heap[j]? :=λj hj=>setRow_other σ.w b j _ (Ne.symm hj);have hmset:σ'.m[id]? =some (some b):=getElem?_set_eq' hmi;have hHset:σ'.H[id]? =some (.row (v+1) i.size st e (.p (.arr (n+ys.length) i.size (xs.take n++ys)))):=getElem?_set_eq' hH
   have htk:ncur.toList.take ((n+ys.length)*i.size)=q++news:=by
    have e1:(cur.toList.take (n*i.size)++news).length=(n+ys.length)*i.size:=by rw[yr,hus,hnl,yat]
    rw[←e1, ←hqe];exact List.take_left
   obtain⟨to,ok'⟩:=Yz (σ':=σ') (mi:=some b) (mi':=some b) ok hH k1 rfl rfl rfl rfl rfl rfl rfl (by simp[σ'])
    (λj hj hne=>hoth j (λhh=>hne (by rw[hh]))) (λb' o v hb' hu hcell=>by
      cases hb'
      have ho':o < n*i.size:=by
       rcases hst with h|h
       ·rw[h] at hu;cases hu.1
       ·rw[h];exact(ZDT hu).2
      rw[cell_of_row σ'.w b o ncur e (0,0) hblk];rw[cell_of_row σ.w b o cur e (0,0) k3, ←ybr] at hcell;rw[show ncur[o]? =(cur.toList.take (n*i.size)++news++cur.toList.drop (n*i.size+news.length))[o]? from by simp[ncur],yak,yah (by rw[hus];exact ho'),ycd,if_pos ho']
      exact hcell)
    (λo _ hu=>ZsE hst hu) (.inl rfl) (λ⟨d,st,h⟩=>by cases h) (λ⟨d,st,h⟩=>by cases h)
    (λs' e' xs' h=>by cases h)
    (λleaf=>⟨n+ys.length,hrowN,.inr ⟨b,ncur,cp,rfl,hblk,hncs,hroom,h3,by
      rw[htk];simp only[repD,repC];exact⟨hlen,hall',Z4 (repCs_mono leaf.cells _ _ hq) (repCs_mono leaf.cells _ _ hr)⟩⟩⟩)
    (λv2 s st e d h=>by cases h;exact⟨v+1,_,_,rfl,by omega,λhh=>absurd hh (by omega)⟩)
   refine ZE (σ':=σ') (Z1 ho hcal hargs htys (by rw[hv];exact hrun)) to ok' ?_;rw[Ze rfl];simp only[repD];exact⟨_,_,rfl,hroom,h3,λh=>(by cases h),λ_=>⟨_,_,rfl⟩,v+1,i.size,st,e,_,hHset,ym _,λ_=>⟨rfl,.inr ⟨b,ncur,hmset,hblk,by rw[hncs,yax],λ_=>by simp⟩⟩⟩
  ·exact grow (by omega)
theorem Zu3(ok:Ok σ)(hrep:RepT σ ts a){c:Call}{x y:yn}{t u e:yb}{i:TypeInfo}{xs ys:List Pl}{id v n N:Nat}(ho:o.op=.call c)(hcal:c.callee=.builtin .append)
 (hargs:c.args.toList=[x,y]) (htys:c.argTypes.toList=[t,u]) (ht:P.underlying t=some (.slice e)) (hx:Zp P ts t x=.rv id v i.size 0 n) (hi:P.info? e=some i) (hz:zOk i=true) (hne:i.size≠0)
 (hsrc:Zsp P σ i.size u (a.eval y) ys) (hH:σ.H[id]? =some (.row v i.size true e (.p (.arr N i.size xs)))) (hpos:0 < N) (hroomN:n+ys.length≤N):
 Ym P o a σ (.rv id v i.size 0 (n+ys.length)) (σ.H.set id (.row v i.size true e (.p (.arr N i.size (xs.take n++(ys++xs.drop (n+ys.length))))))):=by
 have hxv:=Zi (P:=P) hrep t x;rw[hx] at hxv;obtain⟨A,cp,hv,h2,h3,h4,h5,v2,s2,st2,e2,d2,h6,h7,h8⟩:=Zfw hxv;rw[hH] at h6;cases h6;obtain⟨_,h9⟩:=h8 rfl;have hsrc2:=hsrc;obtain⟨news,hS,hr,hall⟩:=hsrc2;have hidlt:id < σ.m.length:=by rw[ok.len];exact(yo.1 hH).1
 have hmi:σ.m[id]? =some σ.m[id]:=yac hidlt;have hnl:news.length=ys.length*i.size:=hS.cells;have hone:∀v,v∈news→v.oneCell'=true:=repCs_one _ _ hr;obtain⟨N',hN',hent⟩:=ok.ent id _ _ hH hmi;simp only[rowN,if_true,yj] at hN';subst hN';rcases hent with⟨_,h0⟩|⟨b,cur,cap,hh,g2,g4,g5,g6,g7⟩
 ·omega
 simp only[repD,repC] at g7;obtain⟨hxl,hxs,g7⟩:=g7;rcases h9 with⟨k1,_,_⟩|⟨b',cur',k1,k3,k4,k5⟩
 ·rw[hmi,hh] at k1;cases k1
 rw[hmi,hh] at k1;cases k1;rw[g2] at k3;cases k3;have hm:σ.m[id]? =some (some b):=by rw[hmi,hh]
 rw[yax] at k4;have hcc:cp=cap:=Nat.eq_of_mul_eq_mul_right (Nat.pos_of_ne_zero hne) (k4.symm.trans g4);subst hcc;have hroom:n+ys.length≤cp:=Nat.le_trans hroomN g5;have hA:=k5 (by omega);rw[Nat.zero_mul] at hA;subst hA;have hrun:=ZiH (P:=P) (ty:=o.type) ht hi hS hone g2 hroom k4
 have hsplit:xs=xs.take n++((xs.drop n).take ys.length++xs.drop (n+ys.length)):=by
  have e1:xs.drop (n+ys.length)=(xs.drop n).drop ys.length:=by rw[List.drop_drop]
  rw[e1,ybf,ybf]
 have g7':=g7;rw[hsplit] at g7';obtain⟨q1,q23,e1,r1,r23⟩:=Z0 g7';obtain⟨q2,q3,rfl,r2,r3⟩:=Z0 r23;have hs1:allSz i.size (xs.take n):=Wg hxs n;have hs2:allSz i.size ((xs.drop n).take ys.length):=Wg (ZgM hxs n) _;have ly:((xs.drop n).take ys.length).length=ys.length:=by rw[yae,ybq,yav (by omega)]
 have l1:q1.length=n*i.size:=by rw[repCs_size _ _ r1,sizes_all hs1,yae,yav (by omega)]
 have l2:q2.length=ys.length*i.size:=by rw[repCs_size _ _ r2,sizes_all hs2,ly]
 have hsz:N*i.size≤cur.size:=by rw[g4];exact ycb _ g5
 obtain⟨m1,m2⟩:=ZiK (y':=news) e1 (by rw[hnl,l2]) hsz;rw[l1] at m1 m2;let ncur:Array yh:=(cur.toList.take (n*i.size)++news++cur.toList.drop (n*i.size+news.length)).toArray;let σ':Sg:={ σ with m:=σ.m.set id (some b),H:=σ.H.set id (.row v i.size true e (.p (.arr N i.size (xs.take n++(ys++xs.drop (n+ys.length)))))),w:=σ.w.setRow b ncur};have hncs:ncur.size=cur.size:=m2;have hblk:σ'.w.heap[b]? =some (.cells ncur e (0,0)):=setRow_heap σ.w b cur _ e _ g2;have hoth:∀j,b≠j→σ'.w.heap[j]? =σ.w.heap[j]? :=λj hj=>setRow_other σ.w b j _ (Ne.symm hj);have hmset:σ'.m[id]? =some (some b):=getElem?_set_eq' hm;have hHset:σ'.H[id]? =some (.row v i.size true e (.p (.arr N i.size (xs.take n++(ys++xs.drop (n+ys.length)))))):=getElem?_set_eq' hH
 have hall2:allSz i.size (xs.take n++(ys++xs.drop (n+ys.length))):=by
  by_cases hy:ys=[]
  ·subst hy;exact Xx hs1 (Xx (λz hz=>by cases hz) (ZgM hxs _))
  ·exact Xx hs1 (Xx (hall hy) (ZgM hxs _))
 obtain⟨to,ok'⟩:=Yz (σ':=σ') (mi:=some b) (mi':=some b) ok hH hm rfl rfl rfl rfl rfl rfl rfl (by simp[σ'])
  (λj hj hne=>hoth j (λhh=>hne (by rw[hh]))) (λb' o v _ hu _=>by cases hu.1) (λo _ hu=>by cases hu.1) (.inl rfl) (λ⟨d,st,h⟩=>by cases h) (λ⟨d,st,h⟩=>by cases h)
  (λs e xs h=>by cases h) (λleaf=>⟨N,by simp[rowN],.inr ⟨b,ncur,cp,rfl,hblk,by rw[hncs];exact g4,g5,g6,by
    rw[show ncur.toList.take (N*i.size)=q1++(news++q3) from m1]
    refine ZO leaf _ _ ?_;simp only[repD,repC];refine⟨by rw[yr,yr,yae,ybq];omega,hall2,Z4 r1 (Z4 hr r3)⟩⟩⟩)
  (λv2 s st e2 d h=>by cases h;exact⟨v,true,_,rfl,ym _,λ_=>⟨rfl,λb2 cur2 hb2 hcur=>by
    cases hb2;rw[g2] at hcur;cases hcur;exact⟨ncur,hblk,hncs⟩⟩⟩)
 refine ZE (σ':=σ') (Z1 ho hcal hargs htys (by rw[hv];exact hrun)) to ok' ?_;rw[Ze rfl];simp only[repD];exact⟨_,_,rfl,hroom,h3,λh=>(by cases h),λ_=>⟨_,_,rfl⟩,v,i.size,true,e,_,hHset,ym _,λ_=>⟨rfl,.inr ⟨b,ncur,hmset,hblk,by rw[hncs,yax];exact k4,λ_=>by simp⟩⟩⟩
theorem Zu4(z:Array yh):(Builtin.zeroCells z 1).toList=z.toList:=by
 apply List.ext_getElem
 ·simp[Builtin.zeroCells]
 ·intro i h1 h2;have hi:i < z.size:=by simpa using h2
  simp[Builtin.zeroCells,Nat.mod_eq_of_lt hi,hi]
theorem Zz4(ok:Ok σ)(hrep:RepT σ ts a){c:Call}{x:yn}{t e e':yb}{i:TypeInfo}{z:Pl}{xs:List Pl}{id v lo N:Nat}(ho:o.op=.call c)(hcal:c.callee=.builtin .clear)
 (hargs:c.args.toList=[x]) (htys:c.argTypes.toList=[t]) (ht:P.underlying t=some (.slice e)) (hx:Zp P ts t x=.rv id v i.size lo 1) (hi:P.info? e=some i) (hz:zOk i=true) (hne:i.size≠0) (hzp:Yr P e=.p z) (hzs:z.size=i.size)
 (hH:σ.H[id]? =some (.row v i.size true e' (.p (.arr N i.size xs)))) (hle:lo+1≤N):
 Ym P o a σ (.tup []) (σ.H.set id (.row v i.size true e' (.p (.arr N i.size (xs.set lo z))))):=by
 have hxv:=Zi (P:=P) hrep t x;rw[hx] at hxv;obtain⟨A,cc,hv,h2,h3,h4,hpall,hplen,q,hq,hql,hqc⟩:=ZrQ ok hxv hH rfl hle;obtain⟨b,cur,cap,rfl,hm,hb,hcs,hcell⟩:=hqc (by omega);obtain⟨N',hN',hent⟩:=ok.ent id _ _ hH hm;simp only[rowN,if_true,yj] at hN';subst hN';rcases hent with⟨h,_⟩|⟨b',cur',cap',h,g2,g4,g5,g6,g7⟩
 ·cases h
 cases h;rw[hb] at g2;cases g2;obtain⟨zv,hzz,hzsz⟩:=VH hz
 have hzr:repDV σ (.p z) zv:=by
  rw[←hzp];unfold Yr;rw[hi];simp only[hzz];exact Wh
 have hzc:=X7 (d:=.p z) rfl hzr;simp only[repD] at hzc;have hzone:∀u,u∈zv.cells.toList→u.oneCell'=true:=Zse _ _ hzc;have hzl:zv.cells.toList.length=i.size:=by rw[yas,hzsz]
 simp only[repD,repC] at g7;obtain⟨hxl,hxs,h7⟩:=g7;have hlo:lo < xs.length:=by omega
 have hxi:xs[lo]? =some xs[lo]:=yac hlo;obtain⟨p1,p2,p3,e1,l1,r2,l2,r1,r3⟩:=QB h7 hxi;have l1':p1.length=lo*i.size:=by rw[l1,sizes_all (λz hz=>hxs z (ybn hz)),yae,yav (by omega)]
 have l2':p2.length=i.size:=by rw[l2];exact hxs _ (List.getElem_mem hlo)
 have hsz:N*i.size≤cur.size:=by rw[g4];exact ycb _ g5
 obtain⟨k1,k2⟩:=ZiK (y':=zv.cells.toList) e1 (by rw[hzl,l2']) hsz;rw[l1'] at k1 k2
 have hnl:lo*i.size+zv.cells.toList.length≤cur.size:=by
  rw[hzl, ←Nat.succ_mul];exact Nat.le_trans (ycb _ hle) hsz
 have hst:=run_storeCells_at P b (lo*i.size) e' zv.cells.toList 0 cur σ.w hb (by simpa using hnl) hzone;simp only[Nat.add_zero] at hst;let ncs:Array yh:=(cur.toList.take (lo*i.size)++zv.cells.toList++cur.toList.drop (lo*i.size+zv.cells.toList.length)).toArray;let σ':Sg:={ σ with m:=σ.m.set id (some b),H:=σ.H.set id (.row v i.size true e' (.p (.arr N i.size (xs.set lo z)))),w:=σ.w.setRow b ncs};have hncs:ncs.size=cur.size:=k2;have hblk:σ'.w.heap[b]? =some (.cells ncs e' (0,0)):=setRow_heap σ.w b cur _ e' _ hb;have hoth:∀j,b≠j→σ'.w.heap[j]? =σ.w.heap[j]? :=λj hj=>setRow_other σ.w b j _ (Ne.symm hj)
 obtain⟨to,ok'⟩:=Yz (σ':=σ') (mi:=some b) (mi':=some b) ok hH hm rfl rfl rfl rfl rfl rfl rfl (by simp[σ'])
  (λj hj hne=>hoth j (λhh=>hne (by rw[hh]))) (λb' o v _ hu _=>by cases hu.1) (λo _ hu=>by cases hu.1) (.inl rfl) (λ⟨d,st,h⟩=>by cases h) (λ⟨d,st,h⟩=>by cases h)
  (λs e xs h=>by cases h) (λleaf=>⟨N,by simp[rowN],.inr ⟨b,ncs,cap',rfl,hblk,by rw[hncs];exact g4,g5,g6,by
    rw[show ncs.toList.take (N*i.size)=p1++(zv.cells.toList++p3) from k1]
    refine ZO leaf _ _ ?_;simp only[repD,repC];refine⟨by rw[ybc];exact hxl,ZgQ hxs hzs, ?_⟩;rw[ZaG hxi];refine Z4 r1 ?_;simp only[repCs];exact⟨_,_,rfl,hzc,r3⟩⟩⟩)
  (λv2 s st e2 d h=>by cases h;exact⟨v,true,_,rfl,ym _,λ_=>⟨rfl,λb2 cur2 hb2 hcur=>by
    cases hb2;rw[hb] at hcur;cases hcur;exact⟨ncs,hblk,hncs⟩⟩⟩)
 have h1:c.args= #[x]:=by rw[←ybx (xs:=c.args),hargs]
 have h2':c.argTypes= #[t]:=by rw[←ybx (xs:=c.argTypes),htys]
 have hzv:(zeroValue e).run P σ.w=.ok zv σ.w:=by simp[zeroValue,typeInfo,hi,hzz]
 have hrun:(Builtin.clear_ #[t] o.type #[a.eval x]).run P σ.w=.ok (.tuple #[]) σ'.w:=by
  rw[hv];simp[Builtin.clear_,run_underlying ht,hzv,Zu4,hst,σ',ncs]
 refine ZE (σ':=σ') (v:=.tuple #[]) ?_ to ok' ?_
 ·simp[execOp,ho,resolve,hcal,h1,h2',invoke,builtin,hrun]
 ·rw[Ze rfl];simp only[repD];exact⟨#[],rfl,by simp[repVs]⟩
theorem ZsF(ok:Ok σ)(hrep:RepT σ ts a){t:yb}{x:yn}{lo hi:Option yn}(ho:o.op=.slice t x lo hi none)(h:evR P o ts σ.H hs=some (C,d,hs'))(hc:AllP C):Ym P o a σ d σ.H:=by
 simp only[evR,ho] at h;have hx:=Zi (P:=P) hrep t x;split at h
 ·rename_i e id v s l0 n l r hs1 hu hdx hl hr;rw[hdx] at hx;split at h
  ·rename_i v' s' st e' dd hH;split at h
   ·rename_i N hN;split at h
    ·rename_i hk;simp only[yi,decide_eq_true_eq,beq_iff_eq] at hk;simp only[bne_iff_ne] at hk;obtain⟨⟨⟨⟨k1,k2⟩,k3⟩,k4⟩,k5⟩:=hk;subst k3;subst k4;simp only[yj,yl] at h;obtain⟨rfl,rfl,rfl⟩:=h;obtain⟨c1,c2,c3,_⟩:=hc;obtain⟨A,c,hx,h2,h3,h4,h5,h6⟩:=Zfw hx
     have hcap:N≤l0+c∧(0 < c→∃b o',A=some ⟨b,o',none⟩):=by
      obtain⟨v2,s2,st2,e2,d2,g1,g2,g3⟩:=h6;rw[hH] at g1;cases g1;obtain⟨_,g4⟩:=g3 rfl;have hidlt:id < σ.m.length:=by rw[ok.len];exact(yo.1 hH).1
      have hmi:σ.m[id]? =some σ.m[id]:=yac hidlt;obtain⟨N2,q1,q2⟩:=ok.ent id _ _ hH hmi;rw[hN] at q1;cases q1;rcases g4 with⟨g5,rfl,g6⟩|⟨b,cur,g5,g6,g7,g8⟩
      ·rw[hmi] at g5;have g5:=ybe g5;rcases q2 with⟨_,q2⟩|⟨b,cur,cap,q2,_⟩
       ·exact⟨by omega,λh=>absurd h (by omega)⟩
       ·rw[q2] at g5;cases g5
      ·rw[hmi] at g5;have g5:=ybe g5;rcases q2 with⟨q2,_⟩|⟨b2,cur2,cap,q2,q3,q4,q5,q6,_⟩
       ·rw[q2] at g5;cases g5
       ·rw[q2] at g5;cases g5;rw[g6] at q3;cases q3;refine⟨?_,λh=>⟨b,_,g8 h⟩⟩;have:cap*s'=(l0+c)*s':=by rw[←q4,g7]
        have:=Nat.eq_of_mul_eq_mul_right (Nat.pos_of_ne_zero k5) this;omega
     have hbd:∃p q,(Instr.sliceBounds true n c (lo.map a.eval) (hi.map a.eval) none).run P σ.w=.ok (p,q,c) σ.w∧p=(l.getD 0).toNat∧q=r.toNat∧p≤q∧q≤c:=by
      rcases Yi hrep hr with⟨_,q⟩|⟨k2,i2,e2,q2⟩
      ·cases q
      cases q2;have b2:0≤r∧r≤(c:Int):=⟨by omega,by omega⟩;rcases Yi hrep hl with⟨e1,q⟩|⟨k1,i1,e1,q1⟩
      ·subst q;refine⟨0,r.toNat, ?_,rfl,rfl,Nat.zero_le _,by omega⟩;rw[e1,e2];simp[Instr.sliceBounds,Instr.sliceBound,asIntOf,b2]
      ·subst q1;simp only[Option.getD_some] at c1 c2;have b1:0≤i1∧i1≤(r.toNat:Int):=⟨c1,by omega⟩;refine⟨i1.toNat,r.toNat, ?_,rfl,rfl,by omega,by omega⟩;rw[e1,e2];simp[Instr.sliceBounds,Instr.sliceBound,asIntOf,b1,b2];omega
     obtain⟨p,q,hb,rfl,rfl,hpq,hqc⟩:=hbd;refine Zh (v:=.slice (if c=(l.getD 0).toNat then A else A.map (·.add ((l.getD 0).toNat*s'))) (r.toNat - (l.getD 0).toNat) (c - (l.getD 0).toNat)) ok ?_ ?_
     ·have hrun:(Instr.sliceAt t (a.eval x) (lo.map a.eval) (hi.map a.eval) none).run P σ.w=.ok (.slice (if c=(l.getD 0).toNat then A else A.map (·.add ((l.getD 0).toNat*s'))) (r.toNat - (l.getD 0).toNat) (c - (l.getD 0).toNat)) σ.w:=by
       rw[hx];simp[Instr.sliceAt,Instr.slice,run_underlying hu,hb,ZQ k2,k1]
      simp[execOp,ho,hrun]
     ·exact ZGt h2 h3 h4 hcap.2 h6 hpq hqc
    ·cases h
   ·cases h
  ·cases h
 ·rename_i n e id off path l r hs1 hu hdx hl hr;split at h
  ·rename_i dd hH;split at h
   ·rename_i C1 off' n' s xs hs2 hg;split at h
    ·rename_i hk;simp only[yi,decide_eq_true_eq] at hk;obtain⟨⟨⟨rfl,k2⟩,k3⟩,k4⟩:=hk;simp only[yj,yl] at h;obtain⟨rfl,rfl,rfl⟩:=h;obtain⟨c1,c2⟩:=Zj.1 hc;obtain⟨c1,c3⟩:=Zj.1 c1;have:=ZKV ok hrep ho hu hdx hl hr hH hg c1 c3.1 k2 k3 k4 c2
     have e1:σ.H.set id (.var dd false)=σ.H:=by
      obtain⟨h1,h2⟩:=yo.1 hH;rw[←h2,List.set_getElem_self]
     rw[e1] at this;exact this
    ·cases h
   ·cases h
  ·cases h
 ·cases h
theorem ZFu(ok:Ok σ)(hrep:RepT σ ts a)(h:evE P o ts σ.H hs=some (C,d,H',hs'))(hc:AllP C):Ym P o a σ d H':=by
 unfold evE at h;split at h
 ·rename_i x ho;have hv:=Zi (P:=P) hrep o.type x;split at h
  ·rename_i t' hs1;split at h
   ·split at h
    ·rename_i e s hu hx;rw[hx] at hv;split at h
     ·rename_i i hi;split at h
      ·simp only[yj,yl] at h;obtain⟨rfl,rfl,rfl,rfl⟩:=h;obtain⟨to,ok'⟩:=Xz (σ':={ σ with m:=σ.m++[none],H:=σ.H++[.log i.size e []]}) ok rfl rfl rfl rfl (World.grownBy.refl σ.w none) (.inl rfl) (λ_=>.inl ⟨rfl,rfl⟩);refine ZE (σ':={ σ with m:=σ.m++[none],H:=σ.H++[.log i.size e []]}) (v:=.slice none 0 0) (by simp[execOp,ho,Zp0 hv]) to ok' ?_;rw[Ze rfl];simp only[repD];refine⟨λ_ hx=>(by cases hx),none,0,rfl,ym _,by simp[maxLen],ZY _,λ_=>rfl,λh=>absurd rfl h,e,[],by simp,ym _,λ_=>.inl ⟨?_,rfl,rfl⟩⟩;rw[yam (by rw[ok.len];exact ym _),ok.len];simp
      ·cases h
     ·cases h
    ·cases h
   ·cases h
  ·rename_i t' hs1;split at h
   ·split at h
    ·rename_i e s hu hx;rw[hx] at hv;split at h
     ·rename_i i hi;split at h
      ·simp only[yj,yl] at h;obtain⟨rfl,rfl,rfl,rfl⟩:=h;let σ':Sg:={ σ with m:=σ.m++[none],H:=σ.H++[.row 0 i.size true e (.p (.arr 0 i.size []))]}
       have hmlast:σ'.m[σ.H.length]? =some none:=by
        show(σ.m++[none])[σ.H.length]? =_;rw[yam (by rw[ok.len];exact ym _),ok.len];simp
       obtain⟨to,ok'⟩:=Xz (σ':=σ') ok rfl rfl rfl rfl (World.grownBy.refl σ.w none) (.inl rfl) (λ_=>⟨0,by simp[rowN],.inl ⟨rfl,rfl⟩⟩);refine ZE (σ':=σ') (v:=.slice none 0 0) (by simp[σ',execOp,ho,Zp0 hv]) to ok' ?_;rw[Ze rfl];simp only[repD];exact⟨none,0,rfl,ym _,by simp[maxLen],λ_=>rfl,λh=>absurd h (Nat.lt_irrefl _),0,i.size,true,e,.p (.arr 0 i.size []),by simp[σ'],ym _,λ_=>⟨rfl,.inl ⟨hmlast,rfl,rfl⟩⟩⟩
      ·cases h
     ·cases h
    ·cases h
   ·cases h
  ·rename_i t' hs1;split at h
   ·exact ZDS ok hrep (by simp[execOp,ho]) h hc
   ·cases h
  ·cases h
 ·rename_i x ho;split at h
  ·rename_i t' hs1;split at h
   ·exact ZDS ok hrep (by simp[execOp,ho]) h hc
   ·cases h
  ·cases h
 ·rename_i t l c ho;split at h
  ·rename_i e n n' hu hl hcp;split at h
   ·rename_i i hs1 hi;split at h
    ·rename_i hk;simp only[yi,bne_iff_ne] at hk;simp only[yj,yl] at h;obtain⟨rfl,rfl,rfl,rfl⟩:=h;exact ZFr ok hrep ho hu hl hcp hi hk.1 hk.2 hc.1 hc.2.1 hc.2.2.1 hc.2.2.2.1
    ·cases h
   ·rename_i i hs1 hi;split at h
    ·rename_i hk;simp only[yi,bne_iff_ne] at hk;simp only[yj,yl] at h;obtain⟨rfl,rfl,rfl,rfl⟩:=h;exact ZFs ok hrep ho hu hl hcp hi hk.1 hc.1 hc.2.1 hc.2.2.1 hc.2.2.2.1
    ·cases h
   ·rename_i i hs1 hi;split at h
    ·rename_i z hz;split at h
     ·rename_i hk;simp only[yi,decide_eq_true_eq,Bool.not_eq_true'] at hk;simp only[yj,yl] at h;obtain⟨rfl,rfl,rfl,rfl⟩:=h;exact ZCc ok hrep ho hu hl hcp hi hk.1.1.1 hk.1.1.2 hz hk.1.2 hk.2 hc.1 hc.2.1 hc.2.2.1 hc.2.2.2.1
     ·cases h
    ·cases h
   ·rename_i i hs1 hi;split at h
    ·rename_i z hz;split at h
     ·rename_i hk;simp only[yi,decide_eq_true_eq,Bool.not_eq_true'] at hk;simp only[yj,yl] at h;obtain⟨rfl,rfl,rfl,rfl⟩:=h;exact ZCe ok hrep ho hu hl hcp hi hk.1.1.1 hk.1.1.2 hz hk.1.2 hk.2 hc.1 hc.2.1 hc.2.2.1 hc.2.2.2.1
     ·cases h
    ·cases h
   ·cases h
  ·cases h
 ·rename_i t ho;simp only[yj,yl] at h;obtain⟨rfl,rfl,rfl,rfl⟩:=h;exact ZFq ok ho
 ·rename_i t m k x ho;split at h
  ·rename_i kt et id hu hx;split at h
   ·rename_i kk v t' kvs l hs1 hk hv hH;split at h
    ·rename_i hkt;simp only[yj,yl] at h;obtain⟨rfl,rfl,rfl,rfl⟩:=h;exact Zz1 ok hrep ho hu hx hk hv hH hkt hc.1 hc.2.1 hc.2.2.1
    ·cases h
   ·cases h
  ·cases h
 ·rename_i t m k x ho;split at h
  ·rename_i kt et id hu hx;split at h
   ·rename_i kk v t' kvs l hs1 hk hv hH;split at h
    ·rename_i hkt;simp only[yj,yl] at h;obtain⟨rfl,rfl,rfl,rfl⟩:=h;exact ZGC ok hrep ho hu hx hk hv hH hkt hc.1 hc.2.1 hc.2.2.1
    ·cases h
   ·cases h
  ·cases h
 ·rename_i t ho;split at h
  ·rename_i i hi;split at h
   ·split at h
    ·rename_i hk;simp only[yi] at hk;simp only[yj,yl] at h;obtain⟨rfl,rfl,rfl,rfl⟩:=h;exact Zp6 (ZJn ok ho hi (by obtain⟨z,hz,_⟩:=VH hk.1.1;rw[hz];rfl) hk.1.2 hk.2) _
    ·cases h
   ·cases h
  ·cases h
 ·rename_i t x ho;have hv:=Zi (P:=P) hrep t x;split at h
  ·split at h
   ·rename_i hk;simp only[yj,yl] at h;obtain⟨rfl,rfl,rfl,rfl⟩:=h;refine Zp6 (ZM1 ok ho hk ?_) _;unfold ZB1;split
    ·rename_i y hy;exact ZFd hy hv
    ·exact hv
   ·cases h
  ·cases h
 ·rename_i t x y ho;split at h
  ·rename_i id off path hx;split at h
   ·rename_i dd hH;split at h
    ·rename_i C1 off' sub hs1 hg;split at h
     ·rename_i new hn;split at h
      ·rename_i d' hp;split at h
       ·rename_i hk;simp only[yi,beq_iff_eq] at hk;obtain⟨⟨⟨⟨k1,k2⟩,k3⟩,k4⟩,k5⟩:=hk;split at h
        ·simp only[yj,yl] at h;obtain⟨rfl,rfl,rfl,rfl⟩:=h;obtain⟨c1,c2⟩:=Zj.1 hc;exact Zxu (ZJp ok hrep ho hx hH hg c1 c2.1 hn hp k1 k2 k3 k4) hH _
        ·cases h
       ·cases h
      ·cases h
     ·cases h
    ·cases h
   ·cases h
  ·rename_i id v off path hx;split at h
   ·rename_i v' s e dd hH;split at h
    ·rename_i C1 off' sub hs1 hg;split at h
     ·rename_i new hn;split at h
      ·rename_i d' hp;split at h
       ·rename_i hk;simp only[yi,beq_iff_eq] at hk;obtain⟨⟨⟨⟨⟨⟨k1,k2⟩,k3⟩,k4⟩,k5⟩,k6⟩,k7⟩:=hk;simp only[yj,yl] at h;obtain⟨rfl,rfl,rfl,rfl⟩:=h;obtain⟨c1,c2⟩:=Zj.1 hc;exact Zz3 ok hrep ho hx hH k6 hg c1 c2.1 hn hp k1 k2 k3 k4 k7
       ·cases h
      ·cases h
     ·cases h
    ·cases h
   ·cases h
  ·cases h
 ·rename_i t len parts ho;split at h
  ·rename_i id hs1;split at h
   ·rename_i e v s st e' dd hu hH;split at h
    ·rename_i i xs hi hl;split at h
     ·rename_i hk;simp only[yi,bne_iff_ne,decide_eq_true_eq,beq_iff_eq] at hk;obtain⟨⟨hk,rfl⟩,rfl⟩:=hk;simp only[yj,yl] at h;obtain⟨rfl,rfl,rfl,rfl⟩:=h;exact ZCf ok hrep ho hu hi hk.1.1 hk.1.2 hk.2 hl hH
     ·cases h
    ·cases h
   ·cases h
  ·rename_i hs1;split at h
   ·rename_i e hu;split at h
    ·rename_i i xs hi hl;split at h
     ·rename_i hk;simp only[yi,bne_iff_ne,decide_eq_true_eq] at hk;simp only[yj,yl] at h;obtain⟨rfl,rfl,rfl,rfl⟩:=h;exact ZFt ok hrep ho hu hi hk.1.1 hk.1.2 hk.2 hl
     ·cases h
    ·cases h
   ·cases h
  ·rename_i hs1;split at h
   ·rename_i e hu;split at h
    ·rename_i i xs hi hl;split at h
     ·rename_i hk;simp only[yi,bne_iff_ne,decide_eq_true_eq] at hk;simp only[yj,yl] at h;obtain⟨rfl,rfl,rfl,rfl⟩:=h;exact ZCg ok hrep ho hu hi hk.1.1 hk.1.2 hk.2 hl
     ·cases h
    ·cases h
   ·cases h
  ·rename_i hs1;split at h
   ·rename_i e hu;split at h
    ·rename_i i xs hi hl;split at h
     ·rename_i hk;simp only[yi,bne_iff_ne,decide_eq_true_eq] at hk;simp only[yj,yl] at h;obtain⟨rfl,rfl,rfl,rfl⟩:=h;exact ZrO (ZFi ok hrep ho hu hi hk.1.1 hk.1.2 hk.2 hl) (Wk.own_nn (by rw[←Pl.softs_map];exact softs_wk _)) (WkH.append (WkH.refl _) (.cons (.log (by rw[←Pl.softs_map];exact softs_wk _)) .nil))
     ·cases h
    ·cases h
   ·cases h
  ·cases h
 ·rename_i t x lo hi ho;split at h
  ·rename_i n e id off path l r hu hx hl hr;split at h
   ·rename_i hs1;split at h
    ·rename_i dd st hH;split at h
     ·rename_i C1 off' n' s xs hs2 hg;split at h
      ·rename_i hk;simp only[yi,decide_eq_true_eq] at hk;obtain⟨⟨⟨rfl,k2⟩,k3⟩,k4⟩:=hk;simp only[yj,yl] at h;obtain⟨rfl,rfl,rfl,rfl⟩:=h;obtain⟨c1,c2⟩:=Zj.1 hc;obtain⟨c1,c3⟩:=Zj.1 c1;exact ZKV ok hrep ho hu hx hl hr hH hg c1 c3.1 k2 k3 k4 c2
      ·cases h
     ·cases h
    ·cases h
   ·cases h
  ·rename_i e id v s lo' n l r hu hx hl hr;split at h
   ·rename_i hs1;split at h
    ·rename_i v' s' e' N s2 xs hH;split at h
     ·rename_i hk;simp only[yi,beq_iff_eq,bne_iff_ne,decide_eq_true_eq] at hk;obtain⟨⟨⟨⟨⟨⟨⟨k1,k2⟩,k3⟩,k4⟩,k5⟩,k6⟩,k7⟩,k8⟩:=hk;simp only[yj,yl] at h;obtain⟨rfl,rfl,rfl,rfl⟩:=h;subst k3;subst k4;subst k5;subst k7
      have hR:evR P o ts σ.H (.raw::hs1)=some ([0≤l.getD 0,l.getD 0≤r,0+r.toNat≤N],.rv id v' s2 (0+(l.getD 0).toNat) (r.toNat - (l.getD 0).toNat),hs1):=by
       unfold evR;rw[ho];dsimp only;rw[hu,hx,hl,hr];dsimp only;rw[hH];simp[rowN,k1,k2,k6]
      have:=ZsF ok hrep ho hR ⟨by rw[k8];omega,by rw[k8];exact hc.1,by rw[yax];exact hc.2.1,ytt⟩;rw[k8] at this;exact ZrO this (Wk.of_eq (by simp)) (WkH.set_at hH (.shr hc.2.1))
     ·cases h
    ·cases h
   ·cases h
  ·cases h
 ·rename_i c ho;split at h
  ·rename_i hcal;split at h
   ·rename_i x y t u hargs htys;split at h
    ·rename_i e id nn s xs hu hx;split at h
     ·rename_i i C1 ys hs1 s' e' zs hi hsrc hH;split at h
      ·rename_i hk;simp only[yi,bne_iff_ne,decide_eq_true_eq] at hk;obtain⟨⟨⟨⟨k1,k2⟩,rfl⟩,rfl⟩,k5⟩:=hk;simp only[yj,yl] at h;obtain⟨rfl,rfl,rfl,rfl⟩:=h;obtain⟨c1,rfl,c2,c3,_⟩:=Zj.1 hc;exact Zxq ok hrep ho hcal hargs htys hu hx hi k1 k2 k5 (ZgS ok hrep hsrc c1) hH c2 c3
      ·cases h
     ·cases h
    ·rename_i e s hu hx;split at h
     ·rename_i hs1 i ys hi hsrc;split at h
      ·rename_i hk;simp only[yi,bne_iff_ne] at hk;simp only[yj,yl] at h;obtain⟨rfl,rfl,rfl,rfl⟩:=h;exact Zxp ok hrep ho hcal hargs htys hu hx hi hk.1 hk.2 hsrc hc.1 hc.2.1
      ·cases h
     ·rename_i hs1 i ys hi hsrc;split at h
      ·rename_i hk;simp only[yi,bne_iff_ne] at hk;simp only[yj,yl] at h;obtain⟨rfl,rfl,rfl,rfl⟩:=h;exact Zu1 ok hrep ho hcal hargs htys hu hx hi hk.1 hk.2 (Qk (P:=P) hrep hsrc) hc.1 hc.2.1
      ·cases h
     ·cases h
    ·rename_i e id v s lo n hu hx;split at h
     ·rename_i hs0;split at h
      ·rename_i i C1 ys hs1 hi hsrc;split at h
       ·rename_i hk;simp only[yj,yl] at h;obtain⟨rfl,rfl,rfl,rfl⟩:=h;obtain⟨c1,rfl,_⟩:=Zj.1 hc;exact Zu2 ok hrep ho hcal hargs htys hu hx hi (ZgS ok hrep hsrc c1)
       ·cases h
      ·cases h
     ·rename_i hs0;split at h
      ·rename_i i C1 ys hs1 v' s' st' e' N s'' xs hi hsrc hH;split at h
       ·rename_i hk;simp only[yi,bne_iff_ne,decide_eq_true_eq,beq_iff_eq] at hk;obtain⟨⟨⟨⟨⟨⟨⟨k1,rfl⟩,rfl⟩,rfl⟩,rfl⟩,k5⟩,rfl⟩,rfl⟩:=hk;simp only[yj,yl] at h;obtain⟨rfl,rfl,rfl,rfl⟩:=h;obtain⟨c1,cc⟩:=Zj.1 hc;have c2:=cc.1;have c3:=cc.2.1;have c4:=cc.2.2.1;have c5:=cc.2.2.2.1;exact Zxv ok hrep c5 ho hcal hargs htys hu hx hi k1 k5 (ZgS ok hrep hsrc c1) hH c2 c3 c4
       ·cases h
      ·cases h
     ·rename_i hs0;split at h
      ·rename_i i C1 ys hs1 v' s' e' N s'' xs hi hsrc hH;split at h
       ·rename_i hk;simp only[yi,bne_iff_ne,decide_eq_true_eq,beq_iff_eq] at hk;obtain⟨⟨⟨⟨⟨⟨⟨k1,rfl⟩,rfl⟩,rfl⟩,rfl⟩,k5⟩,rfl⟩,rfl⟩:=hk;simp only[yj,yl] at h;obtain⟨rfl,rfl,rfl,rfl⟩:=h;obtain⟨c1,cc⟩:=Zj.1 hc;exact Zu3 ok hrep ho hcal hargs htys hu hx hi k1 k5 (ZgS ok hrep hsrc c1) hH cc.1 cc.2.1
       ·cases h
      ·cases h
     ·cases h
    ·cases h
   ·cases h
  ·rename_i hcal;split at h
   ·rename_i x t hargs htys;split at h
    ·rename_i e id v s lo n hu hx;split at h
     ·rename_i i z v' s' e' N s'' xs hi hz hH;split at h
      ·rename_i hk;simp only[yi,bne_iff_ne,decide_eq_true_eq,beq_iff_eq] at hk;obtain⟨⟨⟨⟨⟨⟨k1,rfl⟩,rfl⟩,rfl⟩,rfl⟩,k5⟩,k6⟩:=hk;simp only[yj,yl] at h;obtain⟨rfl,rfl,rfl,rfl⟩:=h;obtain⟨rfl,hc1,_⟩:=hc;exact ZrO (Zz4 ok hrep ho hcal hargs htys hu hx hi k1 k5 hz k6 hH hc1) (Wk.refl _) (WkH.set_same _ _ (.row ⟨Wk.p (PlWk.arr_mk (PlsWk.set_same (ZeJ z) _ _)),rfl⟩))
      ·cases h
     ·cases h
    ·cases h
   ·cases h
  ·rename_i hcal;split at h
   ·rename_i x y t u hargs htys;split at h
    ·rename_i kt et id hu hx;split at h
     ·rename_i kk t' kvs l hs1 hk hH;split at h
      ·rename_i hkt;simp only[yj,yl] at h;obtain⟨rfl,rfl,rfl,rfl⟩:=h;exact ZGD ok hrep ho hcal hargs htys hu hx hk hH hkt hc.1 hc.2.1 hc.2.2.1
      ·cases h
     ·cases h
    ·cases h
   ·cases h
  ·rename_i hcal;split at h
   ·rename_i x y t u hargs htys;split at h
    ·rename_i e id off path s lo n hu hx;split at h
     ·rename_i ys dd hsrc hH;split at h
      ·rename_i C1 off' N s' xs hs1 hg;split at h
       ·rename_i dd' hp;split at h
        ·rename_i hk;simp only[yi,decide_eq_true_eq] at hk;obtain⟨⟨rfl,k2⟩,k3⟩:=hk;simp only[yj,yl] at h;obtain⟨rfl,rfl,rfl,rfl⟩:=h;obtain⟨c1,c2⟩:=Zj.1 hc;exact ZLo ok hrep ho hcal hargs htys hu hx hsrc hH hg c1 c2.1 hp k2 k3 c2.2.1 c2.2.2.1
        ·cases h
       ·cases h
      ·cases h
     ·cases h
    ·cases h
   ·cases h
  ·rename_i f hcal;split at h
   ·rename_i g cap r Hc ids hs1 hf;split at h
    ·rename_i hk;simp only[yi,beq_iff_eq,decide_eq_true_eq] at hk;split at h
     ·rename_i args' Hin r' Hb hargs hin hr hb;simp only[yj,yl] at h;obtain⟨rfl,rfl,rfl,rfl⟩:=h;exact Zsv ok hrep ho hcal hf hk.1.1.1 hk.1.1.2 hk.1.2 hk.2 hargs hin hr hb hc.1
     ·cases h
    ·cases h
   ·cases h
  ·rename_i recv name hcal;split at h
   ·rename_i t x g r Hc ids hs1 hf;split at h
    ·rename_i hk;simp only[yi,beq_iff_eq,decide_eq_true_eq] at hk;split at h
     ·rename_i args' Hin r' Hb hargs hin hr hb;simp only[yj,yl] at h;obtain⟨rfl,rfl,rfl,rfl⟩:=h;exact Zxr ok hrep ho hcal hf hk.1.1.1 hk.1.1.2 hk.1.2 hk.2 hargs hin hr hb hc.1 hc.2.1
     ·cases h
    ·cases h
   ·cases h
  ·cases h
 ·cases h
theorem ZsG(ok:Ok σ)(hrep:RepT σ ts a)(h:Zdl P o ts σ.H hs=some (C,d,H',hs'))(hc:AllP C):Ym P o a σ d H':=by
 unfold Zdl at h;split at h
 ·rename_i C1 d1 hs1 h1;simp only[yj,yl] at h;obtain⟨rfl,rfl,rfl,rfl⟩:=h;exact ZFo ok hrep h1 hc
 ·split at h
  ·rename_i C1 d1 hs1 h1;simp only[yj,yl] at h;obtain⟨rfl,rfl,rfl,rfl⟩:=h;have h2:=h1;unfold evR at h2;split at h2
   ·rename_i t x ho;exact ZLn ok hrep ho h1 hc
   ·rename_i t x lo hi ho;exact ZsF ok hrep ho h1 hc
   ·rename_i t x ix comma ho;exact ZGA ok hrep ho h1 hc
   ·rename_i c ho;split at h2
    ·rename_i hcal;exact ZGB ok hrep ho hcal h1 hc
    ·rename_i f hcal;exact ZM2 ok hrep ho hcal h1 hc
    ·cases h2
   ·cases h2
  ·exact ZFu ok hrep h hc
theorem Zdx{σ':Sg}{v:yh}(hrep:RepT σ' ts a)(hd:repDV σ' d v):RepT σ' (Zin ts o.dst d) (a.put o.dst v):=by
 unfold Zin Act.put
 cases o.dst with
 |none=>exact hrep
 |some t=>
  refine⟨by simpa using hrep.size,λi e hi=> ?_,hrep.defers⟩;rw[ybg] at hi;split at hi
  ·rename_i h;subst h;split at hi
   ·rename_i hlt;cases hi;have:t < a.tmps.size:=by rw[hrep.size];exact hlt
    simpa[Array.getD,this] using hd
   ·cases hi
  ·rename_i h;have:=hrep.at_ i e hi;simpa[Array.getD_eq_getD_getElem?,Array.getElem?_setIfInBounds,h] using this
theorem Zz5{v:yh}{σ':Sg}{dst:Option Tmp}(hc:AllP (Zq3 dst d hs).1)(hd:repDV σ' d v):repDV σ' (Zq3 dst d hs).2.1 v:=by
 exact hd
theorem Zp7{σ':Sg}:repDV σ' (.tup []) undef:=by
 rw[Ze rfl];simp only[repD];exact⟨#[],rfl,by simp[repVs]⟩
theorem Zke{ops:Array Oper}(ok:Ok σ)(hrep:RepT σ ts a)(h:evG P ops o ts σ.H hs=some (C,d,H',hs'))(hc:AllP C)(K:Act→yy→Prop)(Q:Exit→Act→yy→Prop)
 (hK:∀v σ',σ'.H=H'→To σ σ'→Ok σ'→RepT σ' (Zin ts o.dst d) (a.put o.dst v)→K (a.put o.dst v) σ'.w):
 if Region.wanted o (yielded ops a.tmps) then o.wp P a σ.w K Q else K (a.put o.dst undef) σ.w:=by
 unfold evG at h;split at h
 ·rename_i hg;simp only[yp,yl] at h;obtain⟨⟨C1,d1,H1,hs1⟩,h1,rfl,rfl,rfl,rfl⟩:=h;obtain⟨c1,c2⟩:=Zj.1 hc;have hw:Region.wanted o (yielded ops a.tmps)=true:=by simp[Region.wanted,hg]
  rw[if_pos hw];exact ZsG ok hrep h1 c1 K Q λv σ' e1 to ok' hd=>hK v σ' e1 to ok' (Zdx (hrep.to to.leaf) (Zz5 c2 hd))
 ·rename_i j want hg;split at h
  ·rename_i t β hs1 ht
   have hy:yielded ops a.tmps j=some t:=by
    unfold yielded;simp only[yp] at ht;obtain⟨tt,h1,h2⟩:=ht;rw[h1];simp only[Option.bind_some]
    have hlt:tt < ts.length:=by
     rcases ybp tt ts.length with h3|h3
     ·exact h3
     ·simp[List.getD,yan h3] at h2
    have h3:=hrep.at_ tt (.p (.bool t)) (by
     have:=yac hlt;simp only[List.getD,this,Option.getD_some] at h2;rw[this,h2])
    have h4:=Yk h3;have hlt':tt < a.tmps.size:=by rw[hrep.size];exact hlt
    rw[ycj hlt'];simp only[Array.getD,hlt',dif_pos] at h4;have h5:a.tmps[tt]=.bool t:=by simpa using h4
    rw[h5]
   split at h
   ·rename_i hb;simp only[yp,yl] at h;obtain⟨⟨C1,d1,H1,hs2⟩,h1,rfl,rfl,rfl,rfl⟩:=h;obtain⟨c0,hc'⟩:=hc;obtain⟨c1,c2⟩:=Zj.1 hc';have hw:Region.wanted o (yielded ops a.tmps)=true:=by simp[Region.wanted,hg,hy,c0,hb]
    rw[if_pos hw];exact ZsG ok hrep h1 c1 K Q λv σ' e1 to ok' hd=>hK v σ' e1 to ok' (Zdx (hrep.to to.leaf) (Zz5 c2 hd))
   ·rename_i hb;simp only[yj,yl] at h;obtain⟨rfl,rfl,rfl,rfl⟩:=h;have c0:t=β:=hc.1
    have hw:Region.wanted o (yielded ops a.tmps)=false:=by
     simp only[Region.wanted,hg,hy,c0];cases β <;> cases want <;> simp at hb ⊢
    rw[hw];exact hK undef σ rfl (To.refl σ) ok (Zdx hrep Zp7)
  ·rename_i hs1 ht;simp only[yj,yl] at h;obtain⟨rfl,rfl,rfl,rfl⟩:=h
   have hy:yielded ops a.tmps j=none:=by
    unfold yielded;simp only[yp] at ht;obtain⟨tt,h1,h2⟩:=ht;rw[h1];simp only[Option.bind_some]
    have hlt:tt < ts.length:=by
     rcases ybp tt ts.length with h3|h3
     ·exact h3
     ·simp[List.getD,yan h3] at h2
    have h3:=hrep.at_ tt (.tup []) (by
     have:=yac hlt;simp only[List.getD,this,Option.getD_some] at h2;rw[this,h2])
    have h4:=h3.2 rfl;simp only[repD] at h4;obtain⟨cs,h5,h6⟩:=h4;have hlt':tt < a.tmps.size:=by rw[hrep.size];exact hlt
    rw[ycj hlt'];simp only[Array.getD,hlt',dif_pos] at h5;have h7:a.tmps[tt]=.tuple cs:=by simpa using h5
    rw[h7]
   have hw:Region.wanted o (yielded ops a.tmps)=false:=by
    simp only[Region.wanted,hg,hy];cases want <;> rfl
   rw[hw];exact hK undef σ rfl (To.refl σ) ok (Zdx hrep Zp7)
  ·cases h
theorem Zp8{ops:Array Oper}(Q:Exit→Act→yy→Prop){ts':List Dv}:∀(l:List Oper)(k:Nat)(ts:List Dv)(σ:Sg)(a:Act)(hs hs':List Hint)(C:List Prop)(H':List Ent),
 (∀j,l[j]? =ops[k+j]?)→Ok σ→RepT σ ts a→ZkX P ops l ts σ.H hs=some (C,ts',H',hs')→AllP C→
 (∀a' σ',σ'.H=H'→To σ σ'→Ok σ'→RepT σ' ts' a'→Q .normal a' σ'.w)→wpOps P ops Q (List.range' k l.length) a σ.w
 |[],k,ts,σ,a,hs,hs',C,H',_,ok,hrep,h,hc,hQ=>by
  simp only[ZkX,yj,yl] at h;obtain⟨rfl,rfl,rfl,rfl⟩:=h
  exact hQ a σ rfl (To.refl σ) ok hrep
 |o::l,k,ts,σ,a,hs,hs',C,H',hl,ok,hrep,h,hc,hQ=>by
  simp only[ZkX] at h;split at h
  ·rename_i C1 d1 H1 hs1 h1;split at h
   ·rename_i C2 ts2 H2 hs2 h2;simp only[yj,yl] at h;obtain⟨rfl,rfl,rfl,rfl⟩:=h;obtain⟨c1,c2⟩:=Zj.1 hc;have h0:ops[k]? =some o:=by simpa using(hl 0).symm
    simp only[yai,List.range'_succ,wpOps,h0]
    have key:=Zke (P:=P) (ops:=ops) ok hrep h1 c1 (wpOps P ops Q (List.range' (k+1) l.length)) Q (λv σ1 e1 to1 ok1 hrep1=>by
     subst e1
     exact Zp8 Q l (k+1) _ σ1 _ hs1 _ C2 _ (λj=>by have:=hl (j+1);simpa[yce,Nat.add_comm 1 j] using this) ok1 hrep1 h2 c2
      (λa' σ' e2 to2 ok2 hrep2=>hQ a' σ' e2 (to1.trans to2) ok2 hrep2))
    by_cases hw:Region.wanted o (yielded ops a.tmps)=true
    ·rw[if_pos hw] at key ⊢;exact .inl key
    ·rw[if_neg hw] at key ⊢;exact key
   ·cases h
  ·cases h
end
end Go.Ev
end
section
namespace Go.Ev
section
variable{P:yg}{o:Oper}{ts:List Dv}{H H' H2:List Ent}{hs hs':List Hint}{C:List Prop}{d:Dv}
theorem ZGE{id:Nat}(h:ZoM P o ts=some id)(hx:exO o=false)(e:rdE (H[id]?)=rdE (H2[id]?)):evR P o ts H2 hs=evR P o ts H hs:=by
 unfold ZoM at h;unfold evR
 cases ho:o.op with
 |load t a=>
  simp only[ho] at h ⊢
  cases ha:Zp P ts 0 a with
  |ref i off path=>
   simp only[ha,yj] at h;subst h;simp only
   cases h1:H[i]? with
   |none=>
    rw[h1] at e
    cases h2:H2[i]? with
    |none=>rfl
    |some x=>rw[h2] at e;cases x <;> simp[rdE] at e
   |some y=>
    rw[h1] at e
    cases h2:H2[i]? with
    |none=>rw[h2] at e;cases y <;> simp[rdE] at e
    |some x=>
     rw[h2] at e
     cases x <;> cases y <;> simp_all[rdE]
  |rref i v off path=>
   simp only[ha,yj] at h;subst h;simp only
   cases h1:H[i]? with
   |none=>
    rw[h1] at e
    cases h2:H2[i]? with
    |none=>rfl
    |some x=>rw[h2] at e;cases x <;> simp[rdE] at e
   |some y=>
    rw[h1] at e
    cases h2:H2[i]? with
    |none=>rw[h2] at e;cases y <;> simp[rdE] at e
    |some x=>
     rw[h2] at e
     cases x <;> cases y <;> simp_all[rdE]
  |_=>simp[ha] at h
 |call c=>
  simp only[ho] at h ⊢
  cases hc:c.callee with
  |value f=>
   simp only[hc] at h ⊢
   cases ha:Zp P ts 0 f with
   |fn g cap=>
    simp only[ha] at h;split
    ·rename_i g' cap' ps r hs2 hh;cases hh;rw[h];dsimp only;rw[e]
    ·rfl
   |_=>simp[ha] at h
  |_=>simp[hc] at h
 |lookup t x ix ok=>
  simp only[ho] at h ⊢
  cases ha:Zp P ts t x with
  |mp i=>
   simp only[ha,yj] at h;subst h
   have hk:H2[i]? =H[i]? ∨((∃d1 s1,H[i]? =some (.var d1 s1))∧∃d2 s2,H2[i]? =some (.var d2 s2))∨((∃v1 s1 t1 e1 d1,H[i]? =some (.row v1 s1 t1 e1 d1))∧∃v1 s1 t1 e1 d1,H2[i]? =some (.row v1 s1 t1 e1 d1)):=by
    cases h1:H[i]? with
    |none=>
     rw[h1] at e
     cases h2:H2[i]? with
     |none=>exact .inl rfl
     |some x=>rw[h2] at e;cases x <;> simp[rdE] at e
    |some y=>
     rw[h1] at e
     cases h2:H2[i]? with
     |none=>rw[h2] at e;cases y <;> simp[rdE] at e
     |some x=>
      rw[h2] at e;cases x <;> cases y <;> simp_all[rdE]
   cases P.underlying t with
   |none=>rfl
   |some u=>
    cases u with
    |map kt et=>
     dsimp only;rcases hk with hk|⟨⟨d1,s1,k1⟩,d2,s2,k2⟩|⟨⟨_,_,_,_,_,k1⟩,_,_,_,_,_,k2⟩
     ·rw[hk]
     ·rw[k1,k2];cases Zp P ts kt ix <;> rfl
     ·rw[k1,k2]
      cases Zp P ts kt ix <;> rfl
    |_=>rfl
  |_=>simp[ha] at h
 |slice t x lo hi mx=>simp[exO,ho] at hx
 |_=>simp[ho] at h
def rqO(o:Oper)(x:Option Ent):Option Ent:=if exO o=true then x else rdE x
theorem ZLp{id:Nat}(h:ZoM P o ts=some id)(e:rqO o (H[id]?)=rqO o (H2[id]?)):evR P o ts H2 hs=evR P o ts H hs:=by
 unfold rqO at e
 cases hx:exO o with
 |false=>
  rw[hx] at e
  exact ZGE h hx (by simpa using e)
 |true=>
  rw[hx,if_pos rfl,if_pos rfl] at e;unfold exO at hx;split at hx
  ·rename_i t x lo hi mx ho;unfold ZoM at h;rw[ho] at h;unfold evR;rw[ho]
   cases mx with
   |some m=>simp at h
   |none=>
    dsimp only at h ⊢;split at h
    ·rename_i i off path ha;cases h;rw[ha]
     cases P.underlying t with
     |none=>rfl
     |some u=>
      cases ZbC P ts lo with
      |none=>cases u <;> rfl
      |some l=>
       cases ZbC P ts hi with
       |none=>cases u <;> rfl
       |some h'=>
        cases hs with
        |nil=>cases u <;> rfl
        |cons hd tl=>cases u <;> cases hd <;> first|rfl|(dsimp only;rw[e])
    ·cases h
  ·cases hx
theorem ZFv{H:List Ent}{x:Ent}{i:Nat}(hi:i < H.length):rdE ((H++[x])[i]?)=rdE (H[i]?):=by
 rw[yah hi]
theorem ZoW{H:List Ent}{x:Ent}{i id:Nat}(h:¬id=i):rdE ((H.set id x)[i]?)=rdE (H[i]?):=by
 rw[ybg,if_neg h]
theorem ZDU{H:List Ent}{dd:Dv}{i id:Nat}(hh:∃st,H[id]? =some (.var dd st)):rdE ((H.set id (.var dd false))[i]?)=rdE (H[i]?):=by
 obtain⟨st,h⟩:=hh;by_cases e:id=i
 ·subst e;rw[ybg,if_pos rfl,if_pos (yo.1 h).1,h];rfl
 ·exact ZoW e
theorem ZGF{H:List Ent}{dd:Dv}{v s:Nat}{e:yb}{i id:Nat}(hh:∃st,H[id]? =some (.row v s st e dd)):rdE ((H.set id (.row v s false e dd))[i]?)=rdE (H[i]?):=by
 obtain⟨st,h⟩:=hh;by_cases e:id=i
 ·subst e;rw[ybg,if_pos rfl,if_pos (yo.1 h).1,h];rfl
 ·exact ZoW e
theorem ZsH:∀(ids:List Nat)(H Hb:List Ent){i:Nat},i < H.length→ids.contains i=false→rdE ((putBack H ids Hb)[i]?)=rdE (H[i]?)
 |[],H,Hb,i,hi,_=>by
  simp only[putBack]
  rw[yah hi]
 |_::_,H,[],i,hi,_=>by simp only[putBack]
 |id::r,H,e::Hb,i,hi,h=>by
  simp only[List.contains_cons,Bool.or_eq_false_iff,beq_eq_false_iff_ne] at h;simp only[putBack];rw[ZsH r (H.set id e) Hb (by simpa using hi) h.2];exact ZoW (λhh=>h.1 hh.symm)
theorem ZGG{dv:Dv}{i:Nat}(h:Zdk dv H hs=some (C,d,H',hs')):rdE (H'[i]?)=rdE (H[i]?):=by
 unfold Zdk at h
 repeat' split at h
 all_goals first
  |(cases h;done)
  |(simp only[yj,yl] at h
    obtain⟨rfl,rfl,rfl,rfl⟩:=h
    first
     |exact ZDU ⟨_,by assumption⟩
     |(rename_i hk
       simp only[yi,decide_eq_true_eq,beq_iff_eq] at hk;obtain⟨⟨rfl,rfl⟩,rfl⟩:=hk;exact ZGF ⟨_,by assumption⟩))
theorem Zwm{l:List Nat}{i:Nat}(h:evE P o ts H hs=some (C,d,H',hs'))(ht:Zbe P o ts hs=some l)(hi:i < H.length)(hl:l.contains i=false):rdE (H'[i]?)=rdE (H[i]?):=by
 unfold evE at h
 repeat' (first|split at h|(dsimp only at h;split at h))
 all_goals first
  |(cases h;done)
  |exact ZGG h
  |(simp only[yj,yl] at h
    obtain⟨rfl,rfl,rfl,rfl⟩:=h
    first
     |rfl
     |exact ZFv hi
     |(rw[yah hi];done)
     |exact ZDU ⟨_,by assumption⟩
     |(rw[yah (by simpa using hi)]
       refine ZoW ?_;rintro rfl;simp_all[Zbe]
       exact hl (by rw[←ht];simp))
     |(refine ZsH _ _ _ hi ?_
       simp_all[Zbe])
     |(refine ZoW ?_
       simp_all[Zbe]
       done)
     |(refine ZoW ?_
       rintro rfl;simp_all[Zbe];exact hl (by rw[←ht];simp)))
end
end Go.Ev
end
