/- Parts of the proof, in one file. -/
import Derived.Test.YtghfiijgklnflaaGreatKa
open Array renaming length_toList → ybo, getElem?_toList → ycd, getElem?_eq_getElem → yce, toArray_toList → ycz, getElem?_eq_some_iff → yda
open Bool renaming and_eq_true → yi
open Go renaming TypeId → yb, Program → yg, Value → yh, Oper → ym, Operand → yn, FuncId → yw, World → yz
open List renaming length_append → yj, getElem?_eq_some_iff → yo, length_take → yv, append_assoc → yx, length_map → yaa, getElem?_eq_getElem → yad, map_cons → yah, getElem?_map → yal, length_set → yan, length_cons → yao, append_nil → yas, getElem?_append_right → yat, getElem?_append_left → yba, getElem?_cons_succ → ybb, mem_singleton → ybc, mem_cons_self → ybd, length_drop → ybf, mem_cons_of_mem → ybh, getElem?_eq_none → ybi, ext_getElem? → ybk, take_append_drop → ybl, eq_nil_of_length_eq_zero → ybn, getElem?_set → ybq, getElem?_cons_zero → ybx, mem_of_getElem? → ybz, mem_map → ycb, getElem?_take → ycc, mem_of_mem_take → ycg, mem_cons → yci, length_nil → yck, getElem_of_mem → ycl, mem_of_mem_drop → ydd
open Nat renaming le_refl → yl, zero_add → yay, add_mul → yaz, min_eq_left → ybg, mul_le_mul_right → ybp, add_zero → ycf, add_assoc → ych, eq_zero_or_pos → yco
open Option renaming map_eq_some_iff → yu, map_some → yaf
open Option.some renaming injEq → yq, inj → ybw
open Prod.mk renaming injEq → yab
set_option linter.unusedVariables false
set_option linter.unusedSimpArgs false
section
namespace Go.Ev
theorem ZCT{xs:yL Pl}{i:Nat}{x y:Pl}(hx:xs[i]? =some x)(hs:y.size=x.size):Pl.sizes (xs.set i y)=Pl.sizes xs:=by
 rw[Zge,Zge,List.map_set,hs];congr 1;apply ybk;intro j;rw[ybq];split
 ·rename_i h;subst h;have:=(yo.1 hx).1;rw[yal,hx];simp[this]
 ·rfl
theorem ZrE{xs:yL Dv}{i:Nat}{x y:Dv}(hx:xs[i]? =some x)(hs:y.size=x.size):Dv.sizes (xs.set i y)=Dv.sizes xs:=by
 rw[ZdB,ZdB,List.map_set,hs];congr 1;apply ybk;intro j;rw[ybq];split
 ·rename_i h;subst h;have:=(yo.1 hx).1;rw[yal,hx];simp[this]
 ·rfl
theorem ZdD{α:Type}{xs:yL α}{i:Nat}{x y:α}(hx:xs[i]? =some x):xs.set i y=xs.take i++(y::xs.drop (i+1)):=by
 rw[List.set_eq_take_append_cons_drop,yW (yo.1 hx).1]
theorem Zjm{α:Type}{Q:α->Prop}{xs:yL α}{i:Nat}{y:α}(h:∀x,x∈xs->Q x)(hy:Q y):∀x,x∈xs.set i y->Q x:=by
 intro x hx;rcases List.mem_or_eq_of_mem_set hx with h1|h1
 ·exact h x h1
 ·rw[h1];exact hy
theorem ZkO{σ:Sg}:∀{xs:yL Pl}{us:yL yh},repCs σ.w σ.stab xs us->repDs σ (xs.map Dv.p) us
 |[],us,h=>by simpa[repCs,repDs] using h
 |x::xs,us,h=>by
  simp only[repCs] at h;obtain⟨a,b,h1,h2,h3⟩:=h;simp only[yah,repDs];exact⟨a,b,h1,by simpa[yG] using h2,ZkO h3⟩
theorem ZbI{σ:Sg}:∀(yM:yL Nat)(dd:Dv)(hs hs':yL Hint)(C:yL Prop)(off:Nat)(sub:Dv)(us:yL yh),YE dd yM hs=some (C,off,sub,hs')->AllP C->yG σ dd us->
 ∃x y z,us=x++(y++z)/\x.length=off/\yG σ sub y/\∀new dd' y',VA new dd yM hs=some dd'->new.size=sub.size->yG σ new y'->yG σ dd' (x++(y'++z))/\dd'.size=dd.size
 |[],dd,hs,hs',C,off,sub,us,h,hc,hr=>by
  simp only[YE,yq,yab] at h;obtain⟨rfl,rfl,rfl,rfl⟩:=h;refine⟨[],us,[],by simp,rfl,hr,λnew dd' y' hp hs hn=> ?_⟩;simp only[VA,yq] at hp;subst hp
  exact⟨by simpa using hn,hs⟩
 |i::yM,dd,hs,hs',C,off,sub,us,h,hc,hr=>by
  cases dd with
  |p q=>
   cases q with
   |agg xs=>
    simp only[YE] at h;split at h
    ·rename_i x hx;simp only[yu,yab] at h;obtain⟨⟨C1,off1,sub1,hs1⟩,h1,rfl,rfl,rfl,rfl⟩:=h;simp only[yG,repC] at hr;obtain⟨p1,p2,p3,rfl,h2,h3,_,h6,h7⟩:=Zb4 hr hx;obtain⟨q1,q2,q3,rfl,h4,h5,h8⟩:=ZbI yM (.p x) _ _ _ _ _ p2 h1 hc (by simpa[yG] using h3);refine⟨p1++q1,q2,q3++p3,by simp,by rw[yj,h2,h4],h5,λnew dd' y' hp hs hn=> ?_⟩;simp only[VA,hx] at hp;split at hp
     ·rename_i y hy;cases hp;obtain⟨k1,k2⟩:=h8 new _ y' hy hs hn;have k3:y.size=x.size:=by simpa[Dv.size] using k2
      refine⟨?_,by simp only[Dv.size,Pl.size];exact ZCT hx k3⟩;simp only[yG,repC];rw[ZdD hx];have e:p1++q1++(y'++(q3++p3))=p1++((q1++(y'++q3))++p3):=by simp
      rw[e];refine Yt h6 ?_;simp only[repCs];exact⟨_,_,rfl,by simpa[yG] using k1,h7⟩
     ·rename_i y hy hne;cases hp;obtain⟨k1,k2⟩:=h8 new _ y' hne hs hn;have k3:y.size=x.size:=by simpa[Dv.size] using k2
      have hx':(xs.map Dv.p)[i]? =some (.p x):=by rw[yal,hx];rfl
      refine⟨?_,by
       simp only[Dv.size,Pl.size];rw[ZrE hx' k3,ZdB,Zge,List.map_map];rfl⟩
      simp only[yG];rw[ZdD hx'];have e:p1++q1++(y'++(q3++p3))=p1++((q1++(y'++q3))++p3):=by simp
      rw[e, <-List.map_take, <-List.map_drop];refine Zb5 (ZkO h6) ?_;simp only[repDs];exact⟨_,_,rfl,k1,ZkO h7⟩
     ·cases hp
    ·cases h
   |arr n s xs=>
    simp only[YE] at h;split at h
    ·rename_i y hs1;simp only[yu,yab] at h;obtain⟨⟨C1,off1,sub1,hs1⟩,h1,rfl,rfl,rfl,rfl⟩:=h;obtain⟨hx,hc⟩:=hc;simp only[yG,repC] at hr;obtain⟨hl,zL,hr⟩:=hr;obtain⟨p1,p2,p3,rfl,h2,h3,_,h6,h7⟩:=Zb4 hr hx;obtain⟨q1,q2,q3,rfl,h4,h5,h8⟩:=ZbI yM (.p y) _ _ _ _ _ p2 h1 hc (by simpa[yG] using h3);have hi:i < xs.length:=(yo.1 hx).1;refine⟨p1++q1,q2,q3++p3,by simp,by rw[yj,h2,h4,sizes_all (Qm zL i),yv,ybg (Nat.le_of_lt hi)],h5,λnew dd' y' hp hs hn=> ?_⟩;simp only[VA] at hp;split at hp
     ·rename_i z hz;cases hp;obtain⟨k1,k2⟩:=h8 new _ y' hz hs hn;have k3:z.size=y.size:=by simpa[Dv.size] using k2
      have k4:z.size=s:=by rw[k3];exact zL y (ybz hx)
      refine⟨?_,rfl⟩;simp only[yG,repC];refine⟨by rw[yan];exact hl,Zjm zL (by rw[Zo0];exact k4), ?_⟩;rw[ZdD hx];have e:p1++q1++(y'++(q3++p3))=p1++((q1++(y'++q3))++p3):=by simp
      rw[e];refine Yt h6 ?_;simp only[repCs];exact⟨_,_,rfl,(Zjj z).rep _ _ _ (by simpa[yG] using k1),h7⟩
     ·rename_i z hz hne;cases hp;obtain⟨k1,k2⟩:=h8 new _ y' hne hs hn;have k3:z.size=y.size:=by simpa[Dv.size] using k2
      have k4:z.size=s:=by rw[k3];exact zL y (ybz hx)
      have hx':(xs.map Dv.p)[i]? =some (.p y):=by rw[yal,hx];rfl
      refine⟨?_,rfl⟩;simp only[yG]
      refine⟨by rw[yan,yaa];exact hl,Zjm (λq hq=>by
       obtain⟨q',hq',rfl⟩:=ycb.1 hq;exact zL q' hq') k4, ?_⟩
      rw[ZdD hx'];have e:p1++q1++(y'++(q3++p3))=p1++((q1++(y'++q3))++p3):=by simp
      rw[e, <-List.map_take, <-List.map_drop];refine Zb5 (ZkO h6) ?_;simp only[repDs];exact⟨_,_,rfl,k1,ZkO h7⟩
     ·cases hp
    ·cases h
   |_=>simp[YE] at h
  |agg xs=>
   simp only[YE] at h;split at h
   ·rename_i x hx;simp only[yu,yab] at h;obtain⟨⟨C1,off1,sub1,hs1⟩,h1,rfl,rfl,rfl,rfl⟩:=h;simp only[yG] at hr;obtain⟨p1,p2,p3,rfl,h2,h3,_,h6,h7⟩:=Zgc hr hx;obtain⟨q1,q2,q3,rfl,h4,h5,h8⟩:=ZbI yM x _ _ _ _ _ p2 h1 hc h3;refine⟨p1++q1,q2,q3++p3,by simp,by rw[yj,h2,h4],h5,λnew dd' y' hp hs hn=> ?_⟩;simp only[VA,hx,yu] at hp;obtain⟨y,hy,rfl⟩:=hp;obtain⟨k1,k2⟩:=h8 new _ y' hy hs hn;refine⟨?_,by simp only[Dv.size];exact ZrE hx k2⟩;simp only[yG];rw[ZdD hx];have e:p1++q1++(y'++(q3++p3))=p1++((q1++(y'++q3))++p3):=by simp
    rw[e];refine Zb5 h6 ?_;simp only[repDs];exact⟨_,_,rfl,k1,h7⟩
   ·cases h
  |arr n s xs=>
   simp only[YE] at h;split at h
   ·rename_i x hx;simp only[yu,yab] at h;obtain⟨⟨C1,off1,sub1,hs1⟩,h1,rfl,rfl,rfl,rfl⟩:=h;simp only[yG] at hr;obtain⟨hl,zL,hr⟩:=hr;obtain⟨p1,p2,p3,rfl,h2,h3,_,h6,h7⟩:=Zgc hr hx;obtain⟨q1,q2,q3,rfl,h4,h5,h8⟩:=ZbI yM x _ _ _ _ _ p2 h1 hc h3;have hi:i < xs.length:=(yo.1 hx).1;refine⟨p1++q1,q2,q3++p3,by simp,by rw[yj,h2,h4,dsizes_all (λy hy=>zL y (ycg hy)),yv,ybg (Nat.le_of_lt hi)],h5,λnew dd' y' hp hs hn=> ?_⟩;simp only[VA,hx,yu] at hp;obtain⟨y,hy,rfl⟩:=hp;obtain⟨k1,k2⟩:=h8 new _ y' hy hs hn;refine⟨?_,rfl⟩;simp only[yG];refine⟨by rw[yan];exact hl,Zjm zL (by rw[k2];exact zL x (ybz hx)), ?_⟩;rw[ZdD hx];have e:p1++q1++(y'++(q3++p3))=p1++((q1++(y'++q3))++p3):=by simp
    rw[e];refine Zb5 h6 ?_;simp only[repDs];exact⟨_,_,rfl,k1,h7⟩
   ·cases h
  |_=>simp[YE] at h
section
variable{P:yg}{o:ym}{a:Act}{σ:Sg}{ts:yL Dv}{hs hs':yL Hint}{C:yL Prop}{d:Dv}
theorem ZlX{σ':Sg}(hr:(execOp a.eval o).run P σ.w=.ok .skip σ'.w)(to:To σ σ')(ok:Ok σ'):Wd P o a σ .junk σ'.H:=by
 intro K Q h;unfold Oper.wp;rw[hr];exact h undef σ' rfl to ok XU
theorem Zun{v:Dv}{u:yh}(hr:yH σ v u):yH σ v.meltP u:=by
 unfold Dv.meltP;split
 ·rename_i x h1;exact Zrk h1 hr
 ·exact hr
theorem ZrF{yM:yL Nat}{dd v new:Dv}{u:yh}(h:Ze3 yM dd v=some new)(hr:yH σ v u):yH σ new u:=by
 unfold Ze3 at h;split at h
 ·cases h;exact Zun hr
 ·split at h
  ·cases h;exact Zun hr
  ·cases h;exact hr
theorem ZkP{x y z y':yL yh}{cs:Array yh}{n:Nat}(h:cs.toList.take n=x++(y++z))(hl:y'.length=y.length)(hn:n<=cs.size):
 (cs.toList.take x.length++y'++cs.toList.drop (x.length+y'.length)).take n=x++(y'++z)/\(cs.toList.take x.length++y'++cs.toList.drop (x.length+y'.length)).length=cs.size:=by
 have hnl:n=x.length+(y.length+z.length):=by
  have:=congrArg List.length h;simp only[yv,ybo,yj] at this;omega
 have e:cs.toList=x++(y++z)++cs.toList.drop n:=by rw[<-h,ybl]
 have e1:cs.toList.take x.length=x:=by rw[e];simp
 have e2:cs.toList.drop (x.length+y'.length)=z++cs.toList.drop n:=by
  have hc:cs.toList=(x++y)++(z++cs.toList.drop n):=by
   have:x++y++(z++cs.toList.drop n)=x++(y++z)++cs.toList.drop n:=by simp
   rw[this];exact e
  have hle:x.length+y'.length=(x++y).length:=by rw[yj,hl]
  rw[hle];have:=congrArg (List.drop (x++y).length) hc;rw[List.drop_left] at this;exact this
 rw[e1,e2];constructor
 ·have:x++y'++(z++cs.toList.drop n)=(x++(y'++z))++cs.toList.drop n:=by simp
  rw[this,hnl];have hle:x.length+(y.length+z.length)=(x++(y'++z)).length:=by simp[hl]
  rw[hle];exact List.take_left
 ·simp only[yj,ybf,ybo];omega
theorem ZHd(ok:Ok σ)(yK:RepT σ ts a){t:yb}{x y:yn}{id off:Nat}{yM:yL Nat}{dd sub new dd':Dv}{C1:yL Prop}{off':Nat}(ho:o.op=.store t x y)(hx:argD P ts 0 x=.ref id off yM)
 (hH:σ.H[id]? =some (.var dd true)) (hg:YE dd yM hs=some (C1,off',sub,hs')) (hc:AllP C1) (he:off'=off) (hn:Ze3 yM dd (argD P ts t y)=some new) (hp:VA new dd yM hs=some dd')
 (hsol:new.solid=true) (hsz:new.size=sub.size) (ht:P.cellsOf t=new.size) (hi:(P.info? t).isSome=true):Wd P o a σ .junk (σ.H.set id (.var dd' true)):=by
 subst he;have hxv:=Zq (P:=P) yK 0 x;have hyv:=ZrF hn (Zq (P:=P) yK t y);rw[hx] at hxv;obtain⟨b,hm,hv,hxv⟩:=Zhq hxv;obtain⟨b',cs,t',h1,h2,h3,h4⟩:=ok.ent id _ _ hH hm;cases h1;obtain⟨p1,p2,p3,h5,h6,h7,h8⟩:=ZbI yM dd hs hs' C1 off' sub _ hg hc h3;have hcells:=ZbG hsol hyv;obtain⟨h9,h10⟩:=h8 new dd' _ hp hsz hcells;have hl1:(a.eval y).cells.toList.length=new.size:=W6 _ _ hcells;have hl2:p2.length=sub.size:=W6 _ _ h7;have hll:(a.eval y).cells.toList.length=p2.length:=by rw[hl1,hl2,hsz]
 obtain⟨k1,k2⟩:=ZkP h5 hll h4;rw[h6] at k1 k2
 have hnl:off'+(a.eval y).cells.toList.length<=cs.size:=by
  have:=congrArg List.length h5;simp only[yv,ybo,yj] at this;omega
 have hone:∀u,u∈(a.eval y).cells.toList->u.oneCell'=true:=ZlW new _ hsol hcells;have hst:=run_storeCells_at P b off' t' (a.eval y).cells.toList 0 cs σ.w h2 (by simpa using hnl) hone;simp only[ycf] at hst;let ncs:Array yh:=(cs.toList.take off'++(a.eval y).cells.toList++cs.toList.drop (off'+(a.eval y).cells.toList.length)).toArray;let σ':Sg:={ σ with m:=σ.m.set id (some b),H:=σ.H.set id (.var dd' true),w:=σ.w.setRow b ncs};have zU:σ'.w.heap[b]? =some (.cells ncs t' (0,0)):=setRow_heap σ.w b cs _ t' _ h2;have hoth:∀j,b≠j->σ'.w.heap[j]? =σ.w.heap[j]? :=λj hj=>setRow_other σ.w b j _ (Ne.symm hj)
 obtain⟨to,ok'⟩:=XR (σ':=σ') (mi:=some b) (mi':=some b) ok hH hm rfl rfl rfl rfl rfl rfl rfl (by simp[σ'])
  (λj hj hne=>hoth j (λhh=>hne (by rw[hh]))) (λb' o v _ hu _=>by cases hu) (λo _ hu=>by cases hu) (.inl rfl) (λ_=>⟨rfl,dd',true,rfl⟩) (λ⟨d,st,h⟩=>by cases h)
  (λs e xs h=>by cases h) (λleaf=>⟨b,ncs,t',rfl,zU,by rw[h10];show yG σ' dd' (ncs.toList.take dd.size);rw[show ncs.toList.take dd.size=p1++((a.eval y).cells.toList++p3) from k1];exact Yk leaf dd' _ h9,by
    rw[h10];show dd.size<=ncs.size;have:ncs.size=cs.size:=k2;omega⟩)
 refine ZlX (σ':=σ') ?_ to ok'
 cases hi':P.info? t with
 |none=>simp[hi'] at hi
 |some i=>
  have hs:(a.eval y).cells.size=i.size:=by
   rw[<-ybo,hl1, <-ht];simp[Program.cellsOf,hi']
  simp only[execOp,ho,hxv,Instr.storeAt,Instr.sureAddr,storeVar,sizeOf,typeInfo,Sem.run_bind,run_program,Result.andThen_ok,hi',Sem.run_pure,hs,ne_eq,not_true,if_false,hst];rfl
theorem ZIA(ok:Ok σ)(yK:RepT σ ts a){t e:yb}{x:yn}{lo hi:yO yn}{id off n s:Nat}{yM:yL Nat}{dd:Dv}{st:Bool}{xs:yL Pl}{C1:yL Prop}{off':Nat}{l r:yO Int}
 (ho:o.op=.slice t x lo hi none) (hu:P.underlying t=some (.array n e)) (hx:argD P ts t x=.ref id off yM) (hl:Zeh P ts lo=some l) (hr:Zeh P ts hi=some r)
 (hH:σ.H[id]? =some (.var dd st)) (hg:YE dd yM hs=some (C1,off',.p (.arr n s xs),hs')) (hc:AllP C1) (he:off'=off) (hce:P.cellsOf e=s) (hi':(P.info? e).isSome=true) (hm':n<=maxLen)
 (hcut:AllP (XF n l r)):Wd P o a σ (.p (.sl (some true) s (Ql xs l r))) (σ.H.set id (.var dd false)):=by
 have hxv:=Zq (P:=P) yK t x;rw[hx] at hxv;obtain⟨b,hm,hv,hxv⟩:=Zhq hxv;obtain⟨cs,t',p1,p2,p3,h2,h4,h5,h6,h7,h3,h8⟩:=ZnK ok hm hH hg hc he;simp only[yG,repC] at h7;obtain⟨h9,h10,h11⟩:=h7;subst h9;let σ':Sg:={ σ with m:=σ.m.set id (some b),H:=σ.H.set id (.var dd false)};have hmset:σ'.m[id]? =some (some b):=getElem?_set_eq' hm;have hHset:σ'.H[id]? =some (.var dd false):=getElem?_set_eq' hH
 obtain⟨to,ok'⟩:=XR (σ':=σ') (mi:=some b) (mi':=some b) ok hH hm rfl rfl rfl rfl rfl rfl rfl (yl _)
  (λ_ _ _=>rfl) (λ_ _ _ _ _ h=>h) (λo _ hu=>rfl) (.inl rfl) (λ_=>⟨rfl,dd,false,rfl⟩) (λ⟨d,st,h⟩=>by cases h)
  (λs e xs h=>by cases h) (λleaf=>⟨b,cs,t',rfl,h2,Yk leaf dd _ h3,h4⟩)
 have hcells:Vt σ'.w σ'.stab b off p2:=λj u hu=>by
  refine⟨h8 j u hu,.inr (ok.own id b hm),λj' e' g1 g2=> ?_⟩;have:j'=id:=ok'.inj j' id _ g1 hmset;subst this;rw[hHset] at g2;cases g2;rfl
 obtain⟨p,q,hb,k1,k2,rfl,rfl⟩:=Zbp (P:=P) (w:=σ.w) false xs.length xs.length _ _ _ _ (Y7 yK hl) (Y7 yK hr) hcut (yl _);obtain⟨j1,j2,j3,j4,j5,j6,j7⟩:=ZqY (A:=some ⟨b,off,none⟩) (w:=σ'.w) (S:=σ'.stab) h10 (yl _) hm' (λhA=>by cases hA) (λ_=>⟨b,off,p2,rfl,repCs_mono to.leaf.cells _ _ h11,hcells⟩) k1 k2
 have zO:(Instr.sliceAt t (a.eval x) (lo.map a.eval) (hi.map a.eval) none).run P σ.w=.ok (.slice (some (if xs.length=(l.getD 0).toNat then(⟨b,off,none⟩:Addr) else(⟨b,off,none⟩:Addr).add ((l.getD 0).toNat*s))) ((r.getD (xs.length:Int)).toNat - (l.getD 0).toNat) (xs.length - (l.getD 0).toNat)) σ.w:=by
  rw[hxv];simp[Instr.sliceAt,Instr.sureAddr,run_underlying hu,hb,Yg hi',hce]
 have hrun2:(execOp a.eval o).run P σ.w=.ok (.value (.slice (some (if xs.length=(l.getD 0).toNat then(⟨b,off,none⟩:Addr) else(⟨b,off,none⟩:Addr).add ((l.getD 0).toNat*s))) ((r.getD (xs.length:Int)).toNat - (l.getD 0).toNat) (xs.length - (l.getD 0).toNat))) σ'.w:=by
  show _=Result.ok _ σ.w;simp only[execOp,ho,Option.map_none,Sem.run_bind,zO,Result.andThen_ok,Sem.run_pure]
 refine ZX hrun2 to ok' ?_;rw[Zjk xs l r hcut];have:=YM (σ:=σ') j1 (by rw[j2];exact j3) j4 (Zdy j5) j6 j7;rw[j2] at this;simpa[apply_ite] using this
end
theorem ZkQ:∀{ids:yL Nat},once ids=true->∀(i j id:Nat),ids[i]? =some id->ids[j]? =some id->i=j
 |[],_,i,j,id,h,_=>by simp at h
 |x::r,ho,i,j,id,hi,hj=>by
  simp only[once,yi,Bool.not_eq_true'] at ho;have hx:x ∉ r:=by simpa using ho.1
  cases i with
  |zero=>
   cases j with
   |zero=>rfl
   |succ j=>
    simp only[ybx,yq] at hi;simp only[ybb] at hj;subst hi
    exact absurd (ybz hj) hx
  |succ i=>
   cases j with
   |zero=>
    simp only[ybx,yq] at hj;simp only[ybb] at hi;subst hj
    exact absurd (ybz hi) hx
   |succ j=>
    simp only[ybb] at hi hj;rw[ZkQ ho.2 i j id hi hj]
theorem idxOf?_some{ids:yL Nat}{id j:Nat}(h:ids.idxOf? id=some j):ids[j]? =some id:=by
 induction ids generalizing j with
 |nil=>simp at h
 |cons x r ih=>
  rw[List.idxOf?_cons] at h;split at h
  ·rename_i hx;cases h;have:x=id:=by simpa using hx
   simp[this]
  ·simp only[yu] at h;obtain⟨k,hk,rfl⟩:=h;simpa using ih hk
theorem idxOf?_of{ids:yL Nat}(ho:once ids=true){id j:Nat}(h:ids[j]? =some id):ids.idxOf? id=some j:=by
 cases hi:ids.idxOf? id with
 |none=>
  rw[List.idxOf?_eq_none_iff] at hi
  exact absurd (ybz h) hi
 |some k=>rw[ZkQ ho k j id (idxOf?_some hi) h]
theorem Zgh{α:Type}:∀(H:yL α)(ids:yL Nat)(Hb:yL α),ids.length<=Hb.length->(putBack H ids Hb).length=H.length+(Hb.length - ids.length)
 |H,[],Hb,_=>by simp[putBack]
 |H,id::r,[],h=>by simp at h
 |H,id::r,e::Hb,h=>by
  simp only[yao] at h;rw[putBack,Zgh _ r Hb (by omega),yan];simp
theorem Zbb{α:Type}:∀(H:yL α)(ids:yL Nat)(Hb:yL α)(i:Nat),ids.length<=Hb.length->i < H.length->i ∉ ids->(putBack H ids Hb)[i]? =H[i]?
 |H,[],Hb,i,_,hi,_=>by simp only[putBack];rw[yba hi]
 |H,id::r,[],i,h,_,_=>by simp at h
 |H,id::r,e::Hb,i,h,hi,hn=>by
  simp only[yao] at h;simp only[yci,not_or] at hn;rw[putBack,Zbb _ r Hb i (by omega) (by simpa using hi) hn.2,ybq,yX (Ne.symm hn.1)]
theorem Zjn{α:Type}:∀(H:yL α)(ids:yL Nat)(Hb:yL α)(j id:Nat),once ids=true->ids.length<=Hb.length->(∀i,i∈ids->i < H.length)->ids[j]? =some id->(putBack H ids Hb)[id]? =Hb[j]?
 |H,[],Hb,j,id,_,_,_,h=>by simp at h
 |H,x::r,[],j,id,_,h,_,_=>by simp at h
 |H,x::r,e::Hb,j,id,ho,hl,hlt,h=>by
  simp only[once,yi,Bool.not_eq_true'] at ho;have hx:x ∉ r:=by simpa using ho.1
  simp only[yao] at hl;rw[putBack]
  cases j with
  |zero=>
   simp only[ybx,yq] at h;subst h;have hxl:x < H.length:=hlt x (ybd ..);rw[Zbb _ r Hb x (by omega) (by simpa using hxl) hx]
   simp[hxl]
  |succ j=>
   simp only[ybb] at h ⊢;exact Zjn _ r Hb j id ho.2 (by omega) (λi hi=>by rw[yan];exact hlt i (ybh _ hi)) h
theorem Zht{α:Type}:∀(H:yL α)(ids:yL Nat)(Hb:yL α)(j:Nat),ids.length<=Hb.length->ids.length<=j->(putBack H ids Hb)[H.length+(j - ids.length)]? =Hb[j]?
 |H,[],Hb,j,_,_=>by
  simp only[putBack,yck,Nat.sub_zero];rw[yat (by omega)]
  simp
 |H,id::r,[],j,h,_=>by simp at h
 |H,id::r,e::Hb,j,h,hj=>by
  simp only[yao] at h hj
  cases j with
  |zero=>omega
  |succ j=>
   rw[putBack];have:=Zht (H.set id e) r Hb j (by omega) (by omega);rw[yan] at this;simp only[yao,ybb];rw[<-this];congr 1;omega
theorem Zad{H:yL Ent}{all:yL Nat}:∀{ids:yL Nat}{Hin:yL Ent},subEnts H all ids=some Hin->Hin.length=ids.length
 |[],Hin,h=>by simp only[subEnts,yq] at h;subst h;rfl
 |id::r,Hin,h=>by
  simp only[subEnts] at h;split at h
  ·rename_i e es _ h2;cases h;simp[Zad h2]
  ·cases h
theorem Zae{H:yL Ent}{all:yL Nat}:∀{ids:yL Nat}{Hin:yL Ent}{j id:Nat},subEnts H all ids=some Hin->ids[j]? =some id->
 ∃e e',H[id]? =some e/\Hin[j]? =some e'/\e.rn (toIds all)=some e'
 |[],Hin,j,id,_,hj=>by simp at hj
 |x::r,Hin,j,id,h,hj=>by
  simp only[subEnts] at h;split at h
  ·rename_i e es h1 h2;cases h
   cases j with
   |zero=>
    simp only[ybx,yq] at hj;subst hj;simp only[Option.bind_eq_some_iff] at h1;obtain⟨e0,h3,h4⟩:=h1
    exact⟨e0,e,h3,rfl,h4⟩
   |succ j=>
    simp only[ybb] at hj ⊢;exact Zae h2 hj
  ·cases h
theorem Zkd{f:Nat->yO Nat}:∀{H Hb:yL Ent},Ent.rns f H=some Hb->Hb.length=H.length
 |[],Hb,h=>by simp only[Ent.rns,yq] at h;subst h;rfl
 |e::H,Hb,h=>by
  simp only[Ent.rns] at h;split at h
  ·rename_i y ys _ h2;cases h;simp[Zkd h2]
  ·cases h
theorem Zhu{f:Nat->yO Nat}:∀{H Hb:yL Ent}{j:Nat}{e:Ent},Ent.rns f H=some Hb->H[j]? =some e->∃e',Hb[j]? =some e'/\e.rn f=some e'
 |[],Hb,j,e,_,he=>by simp at he
 |x::H,Hb,j,e,h,he=>by
  simp only[Ent.rns] at h;split at h
  ·rename_i y ys h1 h2;cases h
   cases j with
   |zero=>
    simp only[ybx,yq] at he;subst he
    exact⟨y,rfl,h1⟩
   |succ j=>
    simp only[ybb] at he ⊢;exact Zhu h2 he
  ·cases h
theorem ZBg{f:Nat->yO Nat}{d d':Dv}{s:Nat}(h:d.rn f=some d'):rowN d' s=rowN d s:=by
 cases d with
 |p x=>simp only[Dv.rn,yq] at h;subst h;rfl
 |arr n t xs=>simp only[Dv.rn,yu] at h;obtain⟨ys,_,rfl⟩:=h;rfl
 |elem x=>simp only[Dv.rn,yq] at h;subst h;rfl
 |junk=>simp only[Dv.rn,yq] at h;subst h;rfl
 |_=>simp only[Dv.rn,yu] at h;obtain⟨ys,_,rfl⟩:=h;rfl
theorem ZkR{f:Nat->yO Nat}{e e':Ent}{o:Nat}(h:e.rn f=some e'):e'.unlocked o↔e.unlocked o:=by
 cases e with
 |var d st=>
  simp only[Ent.rn,yu] at h;obtain⟨d',_,rfl⟩:=h
  exact Iff.rfl
 |log s t xs=>simp only[Ent.rn,yq] at h;subst h;exact Iff.rfl
 |map t kvs=>simp only[Ent.rn,yq] at h;subst h;exact Iff.rfl
 |row v s st e d=>
  simp only[Ent.rn,yu] at h;obtain⟨d',h,rfl⟩:=h
  simp only[Ent.unlocked,ZBg h]
 |gone=>simp only[Ent.rn,yq] at h;subst h;exact Iff.rfl
theorem ZnL{f:Nat->yO Nat}{σ σ':Sg}(h:Rn f σ σ'){a:yO Nat}{e e':Ent}(he:e.rn f=some e')(hok:entOk σ a e):entOk σ' a e':=by
 cases e with
 |var d st=>
  simp only[Ent.rn,yu] at he;obtain⟨d',hd,rfl⟩:=he;obtain⟨b,cs,t,rfl,h1,h2,h3⟩:=hok;have hs:=(ZfC d d' hd).1
  exact⟨b,cs,t,rfl,by rw[h.w];exact h1,by rw[hs];exact ZfD h d d' _ hd h2,by rw[hs];exact h3⟩
 |log s t xs=>
  simp only[Ent.rn,yq] at he;subst he;rcases hok with⟨rfl,h1⟩|⟨b,cur,cap,rfl,h1,h2,h3,h4,h5,h6⟩
  ·exact .inl ⟨rfl,h1⟩
  ·exact .inr ⟨b,cur,cap,rfl,by rw[h.w];exact h1,h2,h3,h4,h5,repCs_mono h.cells xs _ h6⟩
 |map t kvs=>
  simp only[Ent.rn,yq] at he;subst he;obtain⟨b,es,clock,rfl,h1,h2,h3⟩:=hok;refine⟨b,es,clock,rfl,by rw[h.w];exact h1, ?_,h3⟩
  have key:∀(l:yL (Pl×Pl))(es:yL MapEntry),Zef σ l es->Zef σ' l es:=by
   intro l
   induction l with
   |nil=>intro es k;cases es <;> exact k
   |cons q r ih=>
    intro es k
    cases es with
    |nil=>exact k
    |cons e es=>exact⟨Zgd h rfl k.1,Zgd h rfl k.2.1,ih es k.2.2⟩
  obtain⟨l',p,nd,h2⟩:=h2
  exact⟨l',p,nd,key _ _ h2⟩
 |row v s st e d=>
  simp only[Ent.rn,yu] at he;obtain⟨d',hd,rfl⟩:=he;obtain⟨N,h0,h1⟩:=hok;refine⟨N,by rw[ZBg hd];exact h0, ?_⟩;rcases h1 with h1|⟨b,cur,cap,rfl,h1,h2,h3,h4,h5⟩
  ·exact .inl h1
  ·exact .inr ⟨b,cur,cap,rfl,by rw[h.w];exact h1,h2,h3,h4,ZfD h d d' _ hd h5⟩
 |gone=>simp only[Ent.rn,yq] at he;subst he;trivial
section
variable{P:yg}{o:ym}{a:Act}{σ:Sg}{ts:yL Dv}
def callee(σ:Sg)(ids:yL Nat)(Hin:yL Ent):Sg:=
 { F:=σ.stab,B:=λb=>σ.w.heap.size<=b\/∃j:Nat,(ids.map λid=>(σ.m[id]?).getD none)[j]? =some (some b),m:=ids.map λid=>(σ.m[id]?).getD none,H:=Hin,w:=σ.w}
theorem Zxx{ids:yL Nat}{Hin:yL Ent}{j id:Nat}{x:yO Nat}(h:ids[j]? =some id)(hm:σ.m[id]? =some x):(callee σ ids Hin).m[j]? =some x:=by
 show(ids.map λid=>(σ.m[id]?).getD none)[j]? =some x;rw[yal,h];simp[hm]
theorem W3{ids:yL Nat}{Hin:yL Ent}{j b:Nat}(h:(callee σ ids Hin).m[j]? =some (some b)):∃id,ids[j]? =some id/\σ.m[id]? =some (some b):=by
 have h':(ids.map λid=>(σ.m[id]?).getD none)[j]? =some (some b):=h;rw[yal] at h';obtain⟨id,h1,h2⟩:=yu.1 h';refine⟨id,h1, ?_⟩
 cases hm:σ.m[id]? with
 |none=>rw[hm] at h2;cases h2
 |some x=>rw[hm] at h2;simp at h2;rw[h2]
theorem Zo4(ok:Ok σ){ids:yL Nat}{Hin:yL Ent}(ho:once ids=true)(hin:subEnts σ.H ids ids=some Hin):Rn (toIds ids) σ (callee σ ids Hin) where
 w:=rfl
 stab b o v _ h:=by
  refine⟨.inl h,λj e hj he=> ?_⟩;obtain⟨id,h1,h2⟩:=W3 hj;obtain⟨e0,e',h3,h4,h5⟩:=Zae hin h1;have he':Hin[j]? =some e:=he;rw[h4] at he';cases he';exact(ZkR h5).2 (h.2 id e0 h2 h3)
 m id j hj x hx:=Zxx (idxOf?_some hj) hx
 H id j hj e he:=by
   obtain⟨e0,e',h3,h4,h5⟩:=Zae hin (idxOf?_some hj);rw[he] at h3;cases h3;exact⟨e',h4,h5⟩
theorem ZCU(ok:Ok σ){ids:yL Nat}{Hin:yL Ent}(ho:once ids=true)(hin:subEnts σ.H ids ids=some Hin):Ok (callee σ ids Hin) where
 len:=by
  show(ids.map _).length=Hin.length;rw[yaa,Zad hin]
 inj i j b hi hj:=by
  obtain⟨x,h1,h2⟩:=W3 hi;obtain⟨y,h3,h4⟩:=W3 hj;have:=ok.inj x y b h2 h4;subst this;exact ZkQ ho i j x h1 h3
 lt i b hi:=by
  obtain⟨x,h1,h2⟩:=W3 hi;exact ok.lt x b h2
 ent i e x he hx:=by
  have he':Hin[i]? =some e:=he;have hi:i < ids.length:=by rw[<-Zad hin];exact(yo.1 he').1
  obtain⟨e0,e',h3,h4,h5⟩:=Zae hin (yad hi);rw[he'] at h4;cases h4
  have hm:∃y,σ.m[ids[i]]? =some y:=by
   have:ids[i] < σ.m.length:=by rw[ok.len];exact(yo.1 h3).1
   exact⟨_,yad this⟩
  obtain⟨y,hy⟩:=hm;have:=Zxx (Hin:=Hin) (yad hi) hy;rw[hx] at this;cases this;exact ZnL (Zo4 ok ho hin) h5 (ok.ent _ _ _ h3 hy)
 new b hb:=.inl hb
 own i b hi:=.inr ⟨i,hi⟩
end
end Go.Ev
end
section
namespace Go.Ev
section
variable{P:yg}{o:ym}{a:Act}{σ:Sg}{ts:yL Dv}
def ZkS(σ:Sg)(ids:yL Nat)(Hb:yL Ent)(τ:Sg):Sg:=
 { F:=σ.F,B:=σ.B,m:=putBack σ.m ids τ.m,H:=putBack σ.H ids Hb,w:=τ.w}
theorem ZCV(ok:Ok σ){ids:yL Nat}{Hin Hb:yL Ent}{τ:Sg}(ho:once ids=true)(hin:subEnts σ.H ids ids=some Hin)(to:To (callee σ ids Hin) τ)(okτ:Ok τ)(hle:ids.length<=τ.H.length)
 (hb:Ent.rns (fromIds ids σ.H.length) τ.H=some Hb):
 To σ (ZkS σ ids Hb τ)/\Ok (ZkS σ ids Hb τ)/\Rn (fromIds ids σ.H.length) τ (ZkS σ ids Hb τ):=by
 have hbl:Hb.length=τ.H.length:=Zkd hb;have hml:τ.m.length=τ.H.length:=okτ.len
 have hidl:∀i,i∈ids->i < σ.H.length:=by
  intro i hi;obtain⟨j,hj,rfl⟩:=ycl hi;obtain⟨e0,_,h3,_⟩:=Zae hin (yad hj);exact(yo.1 h3).1
 have hidm:∀i,i∈ids->i < σ.m.length:=λi hi=>by rw[ok.len];exact hidl i hi
 have mo:∀id,id < σ.H.length->id ∉ ids->(putBack σ.m ids τ.m)[id]? =σ.m[id]? :=λid h1 h2=>Zbb _ _ _ _ (by omega) (by rw[ok.len];exact h1) h2;have Ho:∀id,id < σ.H.length->id ∉ ids->(putBack σ.H ids Hb)[id]? =σ.H[id]? :=λid h1 h2=>Zbb _ _ _ _ (by omega) h1 h2;have ma:∀(j id:Nat),ids[j]? =some id->(putBack σ.m ids τ.m)[id]? =τ.m[j]? :=λj id h=>Zjn _ _ _ _ _ ho (by omega) hidm h;have Ha:∀(j id:Nat),ids[j]? =some id->(putBack σ.H ids Hb)[id]? =Hb[j]? :=λj id h=>Zjn _ _ _ _ _ ho (by omega) hidl h;have mn:∀j,ids.length<=j->(putBack σ.m ids τ.m)[σ.H.length+(j - ids.length)]? =τ.m[j]? :=λj h=>by rw[<-ok.len];exact Zht _ _ _ _ (by omega) h
 have Hn:∀j,ids.length<=j->(putBack σ.H ids Hb)[σ.H.length+(j - ids.length)]? =Hb[j]? :=λj h=>Zht _ _ _ _ (by omega) h
 have three:∀id,id < σ.H.length+(τ.H.length - ids.length)->(id < σ.H.length/\id ∉ ids)\/(∃j:Nat,ids[j]? =some id)\/(∃j:Nat,ids.length<=j/\id=σ.H.length+(j - ids.length)):=by
  intro id h;by_cases h1:id < σ.H.length
  ·by_cases h2:id∈ids
   ·obtain⟨j,hj,rfl⟩:=ycl h2;exact .inr (.inl ⟨j,yad hj⟩)
   ·exact .inl ⟨h1,h2⟩
  ·exact .inr (.inr ⟨ids.length+(id - σ.H.length),by omega,by omega⟩)
 have mlen:(putBack σ.m ids τ.m).length=σ.H.length+(τ.H.length - ids.length):=by rw[Zgh _ _ _ (by omega),ok.len,hml]
 have fromAt:∀(j id:Nat),ids[j]? =some id->fromIds ids σ.H.length j=some id:=λj id h=>by
  have hj:j < ids.length:=(yo.1 h).1;unfold fromIds;rw[yW hj,h]
 have fromNew:∀j,ids.length<=j->fromIds ids σ.H.length j=some (σ.H.length+(j - ids.length)):=λj h=>by
  unfold fromIds;rw[yX (by omega)]
 have back:∀(id b:Nat),(putBack σ.m ids τ.m)[id]? =some (some b)->(id < σ.H.length/\id ∉ ids/\σ.m[id]? =some (some b))\/(∃j:Nat,fromIds ids σ.H.length j=some id/\τ.m[j]? =some (some b)/\(putBack σ.H ids Hb)[id]? =Hb[j]?):=by
  intro id b h;have hlt:id < σ.H.length+(τ.H.length - ids.length):=by rw[<-mlen];exact(yo.1 h).1
  rcases three id hlt with⟨h1,h2⟩|⟨j,h1⟩|⟨j,h1,rfl⟩
  ·exact .inl ⟨h1,h2,by rw[<-mo id h1 h2];exact h⟩
  ·exact .inr ⟨j,fromAt j id h1,by rw[<-ma j id h1];exact h,Ha j id h1⟩
  ·exact .inr ⟨j,fromNew j h1,by rw[<-mn j h1];exact h,Hn j h1⟩
 have keep:∀(id b:Nat),id ∉ ids->σ.m[id]? =some (some b)->τ.w.heap[b]? =σ.w.heap[b]? :=λid b h1 h2=>
  to.block b (ok.lt id b h2) (λj hj=>by
    obtain⟨id',h3,h4⟩:=W3 hj;have:=ok.inj id id' b h2 h4;subst this;exact h1 (ybz h3))
 have mapped:∀(j b:Nat),τ.m[j]? =some (some b)->(∃id,ids[j]? =some id/\σ.m[id]? =some (some b))\/σ.w.heap.size<=b:=by
  intro j b h;rcases to.same j b h with h1|h1
  ·exact .inl (W3 h1)
  ·exact .inr h1
 have stabτ:∀b o v,τ.w.cell? ⟨b,o,none⟩=some v->τ.stab b o->(ZkS σ ids Hb τ).stab b o:=by
  intro b o v hcell h;have hB:τ.B=(callee σ ids Hin).B:=to.B;have hF:τ.F=(callee σ ids Hin).F:=to.F
  have hfirst:σ.stab b o\/σ.B b:=by
   rcases h.1 with h1|h1
   ·rw[hF] at h1;exact .inl h1
   ·rw[hB] at h1;rcases h1 with h1|⟨j,hj⟩
    ·exact .inr (ok.new b h1)
    ·obtain⟨id,_,h3⟩:=W3 (σ:=σ) (Hin:=Hin) hj;exact .inr (ok.own id b h3)
  refine⟨?_,λid e hid he=> ?_⟩
  ·rcases hfirst with h1|h1
   ·exact h1.1
   ·exact .inr h1
  ·have hid':(putBack σ.m ids τ.m)[id]? =some (some b):=hid;have he':(putBack σ.H ids Hb)[id]? =some e:=he;rcases back id b hid' with⟨h1,h2,h3⟩|⟨j,h1,h2,h3⟩
   ·rw[Ho id h1 h2] at he';have hbs:=ok.lt id b h3;rcases h.1 with h4|h4
    ·rw[hF] at h4;exact h4.2 id e h3 he'
    ·rw[hB] at h4;rcases h4 with h4|⟨j,hj⟩
     ·omega
     ·obtain⟨id',h5,h6⟩:=W3 (σ:=σ) (Hin:=Hin) hj;have:=ok.inj id id' b h3 h6;subst this;exact absurd (ybz h5) h2
   ·rw[h3] at he';have hj:j < τ.H.length:=by rw[<-hbl];exact(yo.1 he').1
    obtain⟨e',h4,h5⟩:=Zhu hb (yad hj);rw[he'] at h4;cases h4;exact(ZkR h5).2 (h.2 j _ h2 (yad hj))
 have rn:Rn (fromIds ids σ.H.length) τ (ZkS σ ids Hb τ):=by
  refine⟨rfl,λb o v h1 h2=>stabτ b o v h1 h2,λj id hj x hx=> ?_,λj id hj e he=> ?_⟩
  ·show(putBack σ.m ids τ.m)[id]? =some x;unfold fromIds at hj;split at hj
   ·rw[ma j id hj];exact hx
   ·cases hj;rw[mn j (by omega)];exact hx
  ·obtain⟨e',h4,h5⟩:=Zhu hb he;refine⟨e', ?_,h5⟩;show(putBack σ.H ids Hb)[id]? =some e';unfold fromIds at hj;split at hj
   ·rw[Ha j id hj];exact h4
   ·cases hj;rw[Hn j (by omega)];exact h4
 have crn:=Zo4 ok ho hin
 have leaf:Leaf σ (ZkS σ ids Hb τ):=by
  refine⟨λb o v h1 h2=> ?_,λid b h1 h2=> ?_,λid s len A c h1=> ?_,λid b h1 h2=> ?_,λid v s st e d h1=> ?_⟩
  ·obtain⟨h3,h4⟩:=to.leaf.cells b o v h1 (crn.stab b o v h1 h2);exact⟨h3,stabτ b o v h3 h4⟩
  ·have hlt:id < σ.H.length:=by rw[<-ok.len];exact(yo.1 h1).1
   by_cases hi:id∈ids
   ·obtain⟨j,hj,rfl⟩:=ycl hi;have hj':=yad hj;have h3:toIds ids ids[j]=some j:=idxOf?_of ho hj';obtain⟨h4,h5⟩:=to.leaf.var j b (crn.m _ _ h3 _ h1) (crn.var h3 h2);exact⟨rn.m _ _ (fromAt j _ hj') _ h4,rn.var (fromAt j _ hj') h5⟩
   ·exact⟨(mo id hlt hi).trans h1,by
     obtain⟨d,st,h2⟩:=h2;exact⟨d,st,(Ho id hlt hi).trans h2⟩⟩
  ·have h1':=h1;obtain⟨e,ys,h2,h3,h4⟩:=h1;have hlt:id < σ.H.length:=(yo.1 h2).1;by_cases hi:id∈ids
   ·obtain⟨j,hj,rfl⟩:=ycl hi;have hj':=yad hj;have h5:toIds ids ids[j]=some j:=idxOf?_of ho hj';exact rn.front (fromAt j _ hj') (to.leaf.front _ _ _ _ _ (crn.front h5 h1'))
   ·refine⟨e,ys,(Ho id hlt hi).trans h2,h3,λhl=> ?_⟩;rcases h4 hl with⟨h5,h6⟩|⟨b,cur,h5,h6,h7,h8⟩
    ·exact .inl ⟨(mo id hlt hi).trans h5,h6⟩
    ·exact .inr ⟨b,cur,(mo id hlt hi).trans h5,h6,(keep id b hi h5).trans h7,h8⟩
  ·have hlt:id < σ.H.length:=by rw[<-ok.len];exact(yo.1 h1).1
   by_cases hi:id∈ids
   ·obtain⟨j,hj,rfl⟩:=ycl hi;have hj':=yad hj;have h3:toIds ids ids[j]=some j:=idxOf?_of ho hj';obtain⟨h4,h5⟩:=to.leaf.map j b (crn.m _ _ h3 _ h1) (crn.map h3 h2);exact⟨rn.m _ _ (fromAt j _ hj') _ h4,rn.map (fromAt j _ hj') h5⟩
   ·exact⟨(mo id hlt hi).trans h1,by
     obtain⟨d,st,h2⟩:=h2;exact⟨d,st,(Ho id hlt hi).trans h2⟩⟩
  ·have hlt:id < σ.H.length:=(yo.1 h1).1;by_cases hi:id∈ids
   ·obtain⟨j,hj,rfl⟩:=ycl hi;have hj':=yad hj;have h3:toIds ids ids[j]=some j:=idxOf?_of ho hj';obtain⟨d1,h4⟩:=crn.row h3 h1;obtain⟨v',st',d',h5,h6,h7⟩:=to.leaf.row _ _ _ _ _ _ h4;obtain⟨d2,h8⟩:=rn.row (fromAt j _ hj') h5;refine⟨v',st',d2,h8,h6,λhv=> ?_⟩;obtain⟨h9,h10⟩:=h7 hv;have hmm:∃x,σ.m[ids[j]]? =some x:=⟨_,yad (by rw[ok.len];exact hlt)⟩;obtain⟨x,hx⟩:=hmm;have hcx:=crn.m _ _ h3 _ hx;refine⟨by rw[hx];exact rn.m _ _ (fromAt j _ hj') _ (by rw[h9];exact hcx),λb cur hb hc=> ?_⟩;rw[hx] at hb;cases hb;exact h10 b cur hcx hc
   ·exact⟨v,st,d,(Ho id hlt hi).trans h1,yl _,λ_=>⟨mo id hlt hi,λb cur hb hc=>⟨cur,(keep id b hi hb).trans hc,rfl⟩⟩⟩
 refine⟨⟨leaf,rfl,rfl,to.os,to.tape,to.output,to.size,λb hb hn=>to.block b hb (λj hj=> ?_),λid b h=> ?_, ?_⟩,⟨?_, ?_, ?_, ?_,λb h=>ok.new b (Nat.le_trans to.size h), ?_⟩,rn⟩
 ·obtain⟨id,_,h3⟩:=W3 (σ:=σ) (Hin:=Hin) hj;exact hn id h3
 ·rcases back id b h with⟨_,_,h3⟩|⟨j,h1,h2,_⟩
  ·exact .inl h3
  ·rcases mapped j b h2 with⟨id',h3,h4⟩|h3
   ·have:=fromAt j id' h3;rw[h1] at this;cases this;exact .inl h4
   ·exact .inr h3
 ·show σ.m.length<=(putBack σ.m ids τ.m).length;rw[mlen,ok.len];omega
 ·show(putBack σ.m ids τ.m).length=(putBack σ.H ids Hb).length;rw[mlen,Zgh _ _ _ (by omega),hbl]
 ·intro i j b hi hj;rcases back i b hi with⟨h1,h2,h3⟩|⟨k,h1,h2,_⟩ <;> rcases back j b hj with⟨h4,h5,h6⟩|⟨l,h4,h5,_⟩
  ·exact ok.inj i j b h3 h6
  ·have hbs:=ok.lt i b h3;rcases mapped l b h5 with⟨id',h7,h8⟩|h7
   ·have:=ok.inj i id' b h3 h8;subst this;exact absurd (ybz h7) h2
   ·omega
  ·have hbs:=ok.lt j b h6;rcases mapped k b h2 with⟨id',h7,h8⟩|h7
   ·have:=ok.inj j id' b h6 h8;subst this;exact absurd (ybz h7) h5
   ·omega
  ·have:=okτ.inj k l b h2 h5;subst this;rw[h1] at h4;exact ybw h4
 ·intro i b hi;rcases back i b hi with⟨_,_,h3⟩|⟨k,_,h2,_⟩
  ·exact Nat.lt_of_lt_of_le (ok.lt i b h3) to.size
  ·exact okτ.lt k b h2
 ·intro i e x he hx;have he':(putBack σ.H ids Hb)[i]? =some e:=he;have hx':(putBack σ.m ids τ.m)[i]? =some x:=hx;have hlt:i < σ.H.length+(τ.H.length - ids.length):=by rw[<-mlen];exact(yo.1 hx').1
  have viaτ:∀j,fromIds ids σ.H.length j=some i->τ.m[j]? =some x->Hb[j]? =some e->entOk (ZkS σ ids Hb τ) x e:=by
   intro j _ h2 h3;have hj:j < τ.H.length:=by rw[<-hbl];exact(yo.1 h3).1
   obtain⟨e',h4,h5⟩:=Zhu hb (yad hj);rw[h3] at h4;cases h4;exact ZnL rn h5 (okτ.ent j _ x (yad hj) h2)
  rcases three i hlt with⟨h1,h2⟩|⟨j,h1⟩|⟨j,h1,rfl⟩
  ·rw[Ho i h1 h2] at he';rw[mo i h1 h2] at hx';exact Zab leaf (λb hb'=>keep i b h2 (by rw[hx',hb'])) (ok.ent i e x he' hx')
  ·exact viaτ j (fromAt j i h1) (by rw[<-ma j i h1];exact hx') (by rw[<-Ha j i h1];exact he')
  ·exact viaτ j (fromNew j h1) (by rw[<-mn j h1];exact hx') (by rw[<-Hn j h1];exact he')
 ·intro i b hi;rcases back i b hi with⟨_,_,h3⟩|⟨k,_,h2,_⟩
  ·exact ok.own i b h3
  ·rcases mapped k b h2 with⟨id',_,h8⟩|h7
   ·exact ok.own id' b h8
   ·exact ok.new b h7
theorem ZkT{args:yL yn}{tys:yL yb}(yK:RepT σ ts a)(ids:yL Nat)(hl:args.length=tys.length):repVs σ ((args.zip tys).map λq=>(argD P ts q.2 q.1).argI ids) (args.map a.eval):=by
 induction args generalizing tys with
 |nil=>simp[repVs]
 |cons x args ih=>
  cases tys with
  |nil=>simp at hl
  |cons t tys=>
   simp only[List.zip_cons_cons,yah,repVs];exact⟨_,_,rfl,Zrl ids (Zq yK t x),ih (by simpa using hl)⟩
theorem ZEo{cap:yL Dv}{cs:yL yh}(h:repVs σ cap cs):repVs σ (cap.map Dv.arg) cs:=by
 induction cap generalizing cs with
 |nil=>simpa using h
 |cons d cap ih=>
  simp only[repVs] at h;obtain⟨v,vs',rfl,h1,h2⟩:=h;simp only[yah,repVs];exact⟨v,vs',rfl,ZG8 h1,ih h2⟩
theorem ZlY{cap:yL Dv}{cs:yL yh}(ids:yL Nat)(h:repVs σ cap cs):repVs σ (cap.map (Dv.argI ids)) cs:=by
 induction cap generalizing cs with
 |nil=>simpa using h
 |cons d cap ih=>
  simp only[repVs] at h;obtain⟨v,vs',rfl,h1,h2⟩:=h;simp only[yah,repVs];exact⟨v,vs',rfl,Zrl ids h1,ih h2⟩
theorem Zuo{c:Call}{f:yn}{g:yw}{fs cs:Array yh}(w:yz)(ho:o.op=.call c)(hc:c.callee=.value f)(hf:a.eval f=.func (.func g) fs cs)(hb:ZdA P g=true):
 (execOp a.eval o).run P w=.ok (.enter g (fs++c.args.map a.eval++cs)) w:=by
 unfold ZdA at hb;split at hb
 ·rename_i fn hfn;simp only[yi,Bool.not_eq_true'] at hb;have h1:¬fn.name= "runtime.NumGoroutine" :=by simpa using hb.2
  have h2:fn.body.isNone=false:=by cases hh:fn.body <;> simp[hh] at hb ⊢
  simp only[execOp,ho,resolve,hc,hf,Deferred.ofValue,Sem.run_bind,Sem.run_pure,Result.andThen_ok,invoke,callFunc,run_program,hfn];simp[h1,h2]
 ·cases hb
theorem ZzJ{g:yw}(w:yz)(args:Array yh)(hb:ZdA P g=true):(callFunc g args).run P w=.ok (.enter g args) w:=by
 unfold ZdA at hb;split at hb
 ·rename_i fn hfn;simp only[yi,Bool.not_eq_true'] at hb;have h1:¬fn.name= "runtime.NumGoroutine" :=by simpa using hb.2
  have h2:fn.body.isNone=false:=by cases hh:fn.body <;> simp[hh] at hb ⊢
  simp only[callFunc,Sem.run_bind,run_program,Result.andThen_ok,hfn];simp[h1,h2]
 ·cases hb
theorem Zo5(ok:Ok σ){g:yw}{ds args':yL Dv}{av:Array yh}{ids:yL Nat}{Hin H' Hb:yL Ent}{r r':Dv}(hx:(execOp a.eval o).run P σ.w=.ok (.enter g av) σ.w)(hav:repVs σ ds av.toList)
 (honce:once ids=true) (hle:ids.length<=H'.length) (yQ:Dv.rns (toIds ids) ds=some args')
 (hin:subEnts σ.H ids ids=some Hin) (hr:r.rn (fromIds ids σ.H.length)=some r') (hb:Ent.rns (fromIds ids σ.H.length) H'=some Hb) (hcon:Con P g args' Hin r H'):Wd P o a σ r' (putBack σ.H ids Hb):=by
 have hc:=hcon (callee σ ids Hin) _ (ZCU ok honce hin) rfl (repVs_rn (Zo4 ok honce hin) _ _ _ yQ hav);intro K Q hK;unfold Oper.wp;rw[hx];simp only[Oper.upon];rw[ycz] at hc;refine hc.mono ?_;rintro e w' ⟨v,τ,rfl,rfl,hH,to,okτ,hv⟩;subst hH;obtain⟨to',ok',rn⟩:=ZCV ok honce hin to okτ hle hb;exact hK v (ZkS σ ids Hb τ) rfl to' ok' (Zgd rn hr hv)
theorem ZHe(yK:RepT σ ts a){c:Call}{f:yn}{g:yw}{cap:yL Dv}(ids:yL Nat)(hf:argD P ts 0 f=.fn g cap)(hsz:c.args.size=c.argTypes.size):
 ∃fs cs,a.eval f=.func (.func (Zjg g)) fs cs/\repVs σ (W7 P ids ts c g cap) (fs++c.args.map a.eval++cs).toList:=by
 have hfv:=Zq (P:=P) yK 0 f;rw[hf] at hfv;obtain⟨fs,cs,hfe,h0,hcs⟩:=ZzH hfv;refine⟨fs,cs,hfe, ?_⟩;unfold W7;by_cases hg:g < big
 ·rw[yW hg] at h0 ⊢;subst h0;rw[Array.empty_append] at hcs ⊢;rw[Array.toList_append,Array.toList_map];exact Zb7 (ZkT yK ids (by simpa using hsz)) (ZlY ids hcs)
 ·rw[yX hg] at h0 ⊢;subst h0;rw[Array.append_empty] at hcs ⊢;rw[Array.toList_append,Array.toList_map];exact Zb7 (ZlY ids hcs) (ZkT yK ids (by simpa using hsz))
theorem ZrG(ok:Ok σ)(yK:RepT σ ts a){c:Call}{f:yn}{g:yw}{cap args':yL Dv}{ids:yL Nat}{Hin H' Hb:yL Ent}{r r':Dv}(ho:o.op=.call c)(yR:c.callee=.value f)
 (hf:argD P ts 0 f=.fn g cap) (hbod:ZdA P (Zjg g)=true) (hsz:c.args.size=c.argTypes.size) (honce:once ids=true) (hle:ids.length<=H'.length) (yQ:Dv.rns (toIds ids) (W7 P ids ts c g cap)=some args')
 (hin:subEnts σ.H ids ids=some Hin) (hr:r.rn (fromIds ids σ.H.length)=some r') (hb:Ent.rns (fromIds ids σ.H.length) H'=some Hb) (hcon:Con P (Zjg g) args' Hin r H'):Wd P o a σ r' (putBack σ.H ids Hb):=by
 have hfv:=Zq (P:=P) yK 0 f;rw[hf] at hfv;obtain⟨fs,cs,hfe,h0,hcs⟩:=ZzH hfv
 have hav:repVs σ (W7 P ids ts c g cap) (fs++c.args.map a.eval++cs).toList:=by
  unfold W7;by_cases hg:g < big
  ·rw[yW hg] at h0 ⊢;subst h0;rw[Array.empty_append] at hcs ⊢;rw[Array.toList_append,Array.toList_map];exact Zb7 (ZkT yK ids (by simpa using hsz)) (ZlY ids hcs)
  ·rw[yX hg] at h0 ⊢;subst h0;rw[Array.append_empty] at hcs ⊢;rw[Array.toList_append,Array.toList_map];exact Zb7 (ZlY ids hcs) (ZkT yK ids (by simpa using hsz))
 exact Zo5 ok (Zuo σ.w ho yR hfe hbod) hav honce hle yQ hin hr hb hcon
theorem ZvL(ok:Ok σ)(yK:RepT σ ts a){c:Call}{recv:yn}{name:String}{t:yb}{x:Dv}{g:yw}{args':yL Dv}{ids:yL Nat}{Hin H' Hb:yL Ent}{r r':Dv}(ho:o.op=.call c)(yR:c.callee=.invoke recv name)
 (hf:argD P ts 0 recv=.iface t x) (hbod:ZdA P g=true) (hsz:c.args.size=c.argTypes.size) (honce:once ids=true) (hle:ids.length<=H'.length) (yQ:Dv.rns (toIds ids) (x.argI ids::W7 P ids ts c 0 [])=some args')
 (hin:subEnts σ.H ids ids=some Hin) (hr:r.rn (fromIds ids σ.H.length)=some r') (hb:Ent.rns (fromIds ids σ.H.length) H'=some Hb) (hm:ZnC P t name g) (hcon:Con P g args' Hin r H'):Wd P o a σ r' (putBack σ.H ids Hb):=by
 have hfv:=Zq (P:=P) yK 0 recv;rw[hf,Zi rfl] at hfv;simp only[yG] at hfv;obtain⟨v,hv,h1,h2⟩:=hfv;have hv:a.eval recv=.iface t v:=by simpa using hv
 have hxv:yH σ x v:=⟨h1,h2⟩
 have hav:repVs σ (x.argI ids::W7 P ids ts c 0 []) (#[v]++c.args.map a.eval).toList:=by
  rw[Array.toList_append,Array.toList_map];show repVs σ _ (v::c.args.toList.map a.eval);rw[repVs];refine⟨v,_,rfl,Zrl ids hxv, ?_⟩;unfold W7;rw[yW (by decide),List.map_nil,yas];exact ZkT yK ids (by simpa using hsz)
 have hx:(execOp a.eval o).run P σ.w=.ok (.enter g (#[v]++c.args.map a.eval)) σ.w:=by
  have e:=hm v (c.args.map a.eval) σ.w;rw[ZzJ σ.w _ hbod] at e;rw[<-e];have e1:(#[Value.iface t v]++c.args.map a.eval)[0]? =some (.iface t v):=by simp[Array.getElem?_append]
  have e2:(#[Value.iface t v]++c.args.map a.eval).extract 1 (#[Value.iface t v]++c.args.map a.eval).size=c.args.map a.eval:=by
   apply Array.ext';simp;rw[List.take_of_length_le (by simp)]
  simp only[execOp,ho,resolve,yR,hv,Sem.run_bind,Sem.run_pure,Result.andThen_ok,invoke,e1,e2]
 exact Zo5 ok hx hav honce hle yQ hin hr hb hcon
end
end Go.Ev
end
section
namespace Go.Ev
theorem ZrH{w:yz}{S:Nat->Nat->Prop}{n s:Nat}{xs:yL Pl}{us:yL yh}(h:repC w S (.arr n s xs) us):xs.length=n/\allSz s xs/\repCs w S xs us:=by
 simpa[repC] using h
theorem ZpT{P:yg}{σ:Sg}{d n:Nat}{e:yb}{s:Nat}(hs:P.cellsOf e=s)(hs0:s≠0)(hi:(P.info? e).isSome=true)(hu:(P.underlying e).isSome=true)
 (ih:∀(x y:Pl)(a b:yh),fitP P n e x->fitP P n e y->yH σ (.p x) a->yH σ (.p y) b->∃r:Bool,(Op.equalIn d e a b).run P σ.w=.ok r σ.w/\(r=true↔x=y))
 {cs cs':Array yh} {m:Nat}:∀(xs ys:yL Pl)(i:Nat)(p p' us vs:yL yh),(∀y,y∈xs->fitP P n e y/\y.size=s/\WT P e=y.isAgg)->(∀y,y∈ys->fitP P n e y/\y.size=s/\WT P e=y.isAgg)->
  cs.toList=p++us->cs'.toList=p'++vs->p.length=i*s->p'.length=i*s->repCs σ.w σ.stab xs us->repCs σ.w σ.stab ys vs->xs.length=m->ys.length=m->
  ∃r:Bool,(Op.eqItems d e s cs cs' (List.range' i m)).run P σ.w=.ok r σ.w/\(r=true↔xs=ys)
 |[],ys,i,p,p',us,vs,_,_,_,_,_,_,_,_,h1,h2=>by
  subst h1;have:ys=[]:=ybn h2;subst this
  exact⟨true,by simp[Op.eqItems],by simp⟩
 |x::xs,[],_,_,_,_,_,_,_,_,_,_,_,_,_,h1,h2=>by simp at h1 h2;omega
 |x::xs,y::ys,i,p,p',us,vs,hx,hy,e1,e2,l1,l2,r1,r2,h1,h2=>by
  obtain⟨m',rfl⟩:∃m',m=m'+1:=⟨xs.length,by simpa using h1.symm⟩;simp only[repCs] at r1 r2;obtain⟨u1,u2,rfl,q1,q2⟩:=r1;obtain⟨v1,v2,rfl,q3,q4⟩:=r2;obtain⟨f1,f2,f3⟩:=hx x (ybd ..);obtain⟨g1,g2,g3⟩:=hy y (ybd ..);obtain⟨a,ha,ra⟩:=Zb6 (P:=P) (σ:=σ) (t:=e) (d:=.p x) e1 (by simpa[yG] using q1) (by rw[hs];exact f2.symm) hi hu f3 (by show x.size≠0;omega);obtain⟨b,hb,rb⟩:=Zb6 (P:=P) (σ:=σ) (t:=e) (d:=.p y) e2 (by simpa[yG] using q3) (by rw[hs];exact g2.symm) hi hu g3 (by show y.size≠0;omega);rw[l1] at ha;rw[l2] at hb;obtain⟨r,hr,hiff⟩:=ih x y a b f1 g1 ra rb;have s1:=W5 _ _ q1;have s2:=W5 _ _ q3
  obtain⟨r',hr',hiff'⟩:=ZpT hs hs0 hi hu ih xs ys (i+1) (p++u1) (p'++v1) u2 v2 (λz hz=>hx z (ybh _ hz)) (λz hz=>hy z (ybh _ hz))
   (by rw[e1,yx]) (by rw[e2,yx]) (by rw[yj,l1,s1,f2,yaz,Nat.one_mul]) (by rw[yj,l2,s2,g2,yaz,Nat.one_mul]) q2 q4 (by simpa using h1) (by simpa using h2)
  rw[List.range'_succ];simp only[Op.eqItems,Sem.run_bind,ha,hb,hr,Result.andThen_ok];cases r
  ·exact⟨false,by simp,by simp;intro e;exact absurd (hiff.2 e) (by simp)⟩
  ·refine⟨r',by simpa using hr', ?_⟩;rw[hiff'];simp[hiff.1 rfl]
theorem ZnM{P:yg}{σ:Sg}{d:Nat}{R:yb->Pl->Prop}
 (ih:∀(t:yb)(x y:Pl)(a b:yh),R t x->R t y->yH σ (.p x) a->yH σ (.p y) b->∃r:Bool,(Op.equalIn d t a b).run P σ.w=.ok r σ.w/\(r=true↔x=y))
 {cs cs':Array yh}:∀(fs:yL Field)(xs ys:yL Pl)(o:Nat)(p p' us vs:yL yh),Zir P R fs o xs->Zir P R fs o ys->
  cs.toList=p++us->cs'.toList=p'++vs->p.length=o->p'.length=o->repCs σ.w σ.stab xs us->repCs σ.w σ.stab ys vs->
  ∃r:Bool,(Op.eqFields d cs cs' fs).run P σ.w=.ok r σ.w/\(r=true↔xs=ys)
 |[],[],[],_,_,_,_,_,_,_,_,_,_,_,_,_=>⟨true,by simp[Op.eqFields],by simp⟩
 |[],_::_,_,_,_,_,_,_,h,_,_,_,_,_,_,_=>by simp[Zir] at h
 |[],[],_::_,_,_,_,_,_,_,h,_,_,_,_,_,_=>by simp[Zir] at h
 |_::_,[],_,_,_,_,_,_,h,_,_,_,_,_,_,_=>by simp[Zir] at h
 |_::_,_::_,[],_,_,_,_,_,_,h,_,_,_,_,_,_=>by simp[Zir] at h
 |f::fs,x::xs,y::ys,o,p,p',us,vs,hx,hy,e1,e2,l1,l2,r1,r2=>by
  simp only[Zir] at hx hy;obtain⟨a1,a2,a3,a4,a5,a6,a7,a8,a9⟩:=hx;obtain⟨_,_,b3,_,_,b6,b7,b8,b9⟩:=hy;simp only[repCs] at r1 r2;obtain⟨u1,u2,rfl,q1,q2⟩:=r1;obtain⟨v1,v2,rfl,q3,q4⟩:=r2;obtain⟨a,ha,ra⟩:=Zb6 (P:=P) (σ:=σ) (t:=f.type) (d:=.p x) e1 (by simpa[yG] using q1) a3 a4 a5 a6 a7;obtain⟨b,hb,rb⟩:=Zb6 (P:=P) (σ:=σ) (t:=f.type) (d:=.p y) e2 (by simpa[yG] using q3) b3 a4 a5 b6 b7;rw[l1, <-a2] at ha;rw[l2, <-a2] at hb;obtain⟨r,hr,hiff⟩:=ih f.type x y a b a8 b8 ra rb;have s1:=W5 _ _ q1;have s2:=W5 _ _ q3;have hxy:x.size=y.size:=a3.symm.trans b3
  obtain⟨r',hr',hiff'⟩:=ZnM ih fs xs ys (o+x.size) (p++u1) (p'++v1) u2 v2 a9 (by rw[hxy];exact b9)
   (by rw[e1,yx]) (by rw[e2,yx]) (by rw[yj,l1,s1]) (by rw[yj,l2,s2,hxy]) q2 q4
  simp only[Op.eqFields,a1,ne_eq,not_false_eq_true,if_true,Sem.run_bind,ha,hb,hr,Result.andThen_ok];cases r
  ·exact⟨false,by simp,by simp;intro e;exact absurd (hiff.2 e) (by simp)⟩
  ·refine⟨r',by simpa using hr', ?_⟩;rw[hiff'];simp[hiff.1 rfl]
theorem ZkU{P:yg}{σ:Sg}:∀(n:Nat)(t:yb)(x y:Pl)(a b:yh),fitP P n t x->fitP P n t y->yH σ (.p x) a->yH σ (.p y) b->
 ∀d,∃r:Bool,(Op.equalIn (d+n) t a b).run P σ.w=.ok r σ.w/\(r=true↔x=y)
 |0,_,_,_,_,_,h,_,_,_,_=>by simp[fitP] at h
 |n+1,t,x,y,a,b,hx,hy,ra,rb,d=>by
  unfold fitP at hx hy;split at hx
  ·rename_i hu;rw[hu] at hy;split at hy <;> rename_i e1 <;> simp only[reduceCtorEq,yq] at e1
   all_goals first
    |(rw[YP ra,YP rb]
      exact⟨_,run_equalIn_bool' σ.w (d+n) t _ _ hu,by simp⟩)
    |exact hy.elim
  ·rename_i k k' z hu;rw[hu] at hy;split at hy <;> rename_i e1 <;> simp only[reduceCtorEq,yq,TypeDesc.int.injEq] at e1
   all_goals first
    |(subst hx;subst hy;subst e1
      rw[Yd ra,Yd rb]
      exact⟨_,run_equalIn_int σ.w (d+n) t _ _ _ _ hu,by simp⟩)
    |exact hy.elim
  ·rename_i m e m' s xs hu;rw[hu] at hy;split at hy <;> rename_i e1 <;> simp only[reduceCtorEq,yq,TypeDesc.array.injEq] at e1
   ·rename_i s2 ys;obtain⟨rfl,rfl⟩:=e1;obtain⟨rfl,h1,h2,h3,h4,h5⟩:=hx;obtain⟨rfl,g1,_,_,_,g5⟩:=hy;obtain rfl:s=s2:=h1.symm.trans g1;rw[Yq (by rfl)] at ra rb;obtain⟨cs,rfl,ra⟩:=ra;obtain⟨cs',rfl,rb⟩:=rb;simp only[yG] at ra rb;obtain⟨n1,_,ra⟩:=ZrH ra;obtain⟨n2,_,rb⟩:=ZrH rb;obtain⟨i,hi⟩:=Option.isSome_iff_exists.1 h3;obtain⟨r,hr,hiff⟩:=ZpT (P:=P) (σ:=σ) (d:=d+n) (n:=n) (e:=e) (s:=s) h1 h2 h3 h4 (λx y a b hx hy ra rb=>ZkU n e x y a b hx hy ra rb d) xs ys 0 [] [] cs.toList cs'.toList h5 g5 rfl rfl (by simp) (by simp) ra rb n1 n2;refine⟨r, ?_,by rw[hiff];simp⟩;rw[show d+(n+1)=(d+n)+1 from rfl,run_equalIn_array σ.w (d+n) cs cs' hu hi,List.range_eq_range',h1]
    exact hr
   all_goals first
    |exact hy.elim
  ·rename_i fs xs hu;rw[hu] at hy;split at hy <;> rename_i e1 <;> simp only[reduceCtorEq,yq,TypeDesc.struct.injEq] at e1
   all_goals first
    |exact hy.elim
    |skip
   rename_i ys;subst e1;obtain⟨h1,h2⟩:=hx;obtain⟨_,g2⟩:=hy;rw[Yq (by rfl)] at ra rb;obtain⟨cs,rfl,ra⟩:=ra;obtain⟨cs',rfl,rb⟩:=rb;simp only[yG,repC] at ra rb;have hfs:P.fieldsOf t=fs:=by simp[Program.fieldsOf,hu]
   obtain⟨r,hr,hiff⟩:=ZnM (P:=P) (σ:=σ) (d:=d+n) (R:=fitP P n) (λt x y a b hx hy ra rb=>ZkU n t x y a b hx hy ra rb d) fs.toList xs ys 0 [] [] cs.toList cs'.toList h2 g2 rfl rfl rfl rfl ra rb;refine⟨r, ?_,by rw[hiff];simp⟩;rw[show d+(n+1)=(d+n)+1 from rfl,run_equalIn_struct σ.w (d+n) t cs cs' (by rw[hfs];exact hu) h1,hfs]
   exact hr
  ·exact hx.elim
theorem Zo6{P:yg}{σ:Sg}{t:yb}{x y:Pl}{a b:yh}(hx:fitP P 20 t x)(hy:fitP P 20 t y)(ra:yH σ (.p x) a)(rb:yH σ (.p y) b){β:Bool}(h:β=true↔x=y):
 (Op.equal t a b).run P σ.w=.ok β σ.w:=by
 obtain⟨r,hr,hiff⟩:=ZkU 20 t x y a b hx hy ra rb 9980;have:r=β:=by rw[Bool.eq_iff_iff,hiff,h]
 subst this;exact hr
def Zjo:yh->Bool
 |.bool _|.pointer _|.slice _ _ _|.func _ _ _|.nilFunc=>true
 |_=>false
theorem ZrI{op:BinOp}{t:yb}{x y:yn}{a b:yh}(h:Zjo a=true):eqGuard op t x y a b=pure ():=by
 cases op <;> cases a <;> first|rfl|(simp[Zjo] at h)
theorem ZvM{t:yb}{a b:yh}(h:Zjo a=true):binOp .eql t a b=(do pure (.bool (<-Op.equal t a b))):=by
 cases a <;> first|(simp[Zjo] at h;done)|(cases b <;> rfl)
theorem ZvN{t:yb}{a b:yh}(h:Zjo a=true):binOp .neq t a b=(do pure (.bool (!(<-Op.equal t a b)))):=by
 cases a <;> first|(simp[Zjo] at h;done)|(cases b <;> rfl)
theorem QJ{P:yg}{t:yb}{a b:yh}{r:Bool}{w:yz}(h:∀n,(Op.equalIn (n+1) t a b).run P w=.ok r w):(Op.equal t a b).run P w=.ok r w:=h 9999
theorem ZpU{P:yg}{t:yb}{x y:Dv}{hs hs':yL Hint}{C:yL Prop}{r:Bool}(h:Zka P t x y hs=some (C,r,hs'))(hc:AllP C){σ:Sg}{a b:yh}
 (ha:yH σ x a) (hb:yH σ y b):(Op.equal t a b).run P σ.w=.ok r σ.w/\(Zjo a=true\/((∃cs,a=.agg cs)/\(∃cs,b=.agg cs)/\P.eqGuardType P.depth t=false)):=by
 unfold Zka at h;have step:∀(d:TypeDesc),P.underlying t=some d->(underlying t).run P σ.w=.ok d σ.w:=λd hd=>run_underlying hd σ.w;split at h
 all_goals first
  |(cases h;done)
  |skip
 rotate_right 2
 iterate 2
  ·split at h
   ·split at h
    ·rename_i hg;cases h;obtain⟨c1,c2,c3,_⟩:=hc;refine⟨Zo6 c1 c2 ha hb c3,.inr ⟨?_, ?_,hg⟩⟩
     ·obtain⟨cs,e,_⟩:=(Yq (by rfl)).1 ha;exact⟨cs,e⟩
     ·obtain⟨cs,e,_⟩:=(Yq (by rfl)).1 hb;exact⟨cs,e⟩
    ·cases h
   ·cases h
 case' h_9=>
  rename_i hu;split at h
  ·cases h;obtain⟨_,A,c,rfl,_,_,_,_,h6⟩:=W8 ha;obtain⟨_,B,c',rfl,_,_,hB,_⟩:=W8 hb;have hB':B=none:=by simpa using hB false rfl
   subst hB';obtain⟨b0,o0,us,rfl,_⟩:=h6 hc.1;exact⟨QJ λn=>by simp[Op.equalIn,step _ hu],.inl rfl⟩
  ·cases h
 case' h_10=>
  rename_i hu;split at h
  ·cases h;obtain⟨_,A,c,rfl,_,_,_,_,h6,_⟩:=ZbF ha;obtain⟨_,B,c',rfl,_,_,hB,_⟩:=W8 hb;have hB':B=none:=by simpa using hB false rfl
   subst hB';obtain⟨b0,o0,us,rfl,_⟩:=h6 hc.1;exact⟨QJ λn=>by simp[Op.equalIn,step _ hu],.inl rfl⟩
  ·cases h
 all_goals
  rename_i hu;cases h;refine(λq:_/\_=>⟨q.1,.inl q.2⟩) ?_
 ·rw[YP ha,YP hb];exact⟨QJ λn=>by simp[Op.equalIn,step _ hu],rfl⟩
 ·rw[Zgb hb];rw[Zi (by rfl)] at ha;simp only[yG,List.cons.injEq,and_true] at ha;obtain⟨b',_,_,rfl⟩:=ha;exact⟨QJ λn=>by simp[Op.equalIn,step _ hu],rfl⟩
 ·rw[Zgb hb];rw[Zi (by rfl)] at ha;simp only[yG,List.cons.injEq,and_true] at ha;obtain⟨b',o',us,rfl,_⟩:=ha;exact⟨QJ λn=>by simp[Op.equalIn,step _ hu],rfl⟩
 ·rw[Zgb hb];rw[Zi (by rfl)] at ha;simp only[yG,List.cons.injEq,and_true] at ha;obtain⟨b',o',rfl,_⟩:=ha;exact⟨QJ λn=>by simp[Op.equalIn,step _ hu],rfl⟩
 ·rw[Zgb ha,Zgb hb];exact⟨QJ λn=>by simp[Op.equalIn,step _ hu],rfl⟩
 ·obtain⟨_,A,c,rfl,_,_,hA,_⟩:=W8 ha;obtain⟨_,B,c',rfl,_,_,hB,_⟩:=W8 hb;have hB':B=none:=by simpa using hB false rfl
  subst hB';have hA2:=hA _ rfl;subst hA2;refine⟨?_,rfl⟩;cases A <;> (refine QJ λn=> ?_;simp[Op.equalIn,step _ hu])
 ·obtain⟨_,A,c,rfl,_,_,hA,_⟩:=ZbF ha;obtain⟨_,B,c',rfl,_,_,hB,_⟩:=W8 hb;have hB':B=none:=by simpa using hB false rfl
  subst hB';have hA2:=hA _ rfl;subst hA2;refine⟨?_,rfl⟩;cases A <;> (refine QJ λn=> ?_;simp[Op.equalIn,step _ hu])
 ·rw[Zi (by rfl)] at ha;simp only[yG,List.cons.injEq,and_true] at ha;obtain⟨bb,cc,aa,_,_,rfl,_⟩:=ha;obtain⟨_,B,c',rfl,_,_,hB,_⟩:=W8 hb;have hB':B=none:=by simpa using hB false rfl
  subst hB';exact⟨QJ λn=>by simp[Op.equalIn,step _ hu],rfl⟩
 ·rw[ZoZ hb];rw[Zi (by rfl)] at ha;simp only[yG,List.cons.injEq,and_true] at ha;obtain⟨fs,cs,rfl,_⟩:=ha;exact⟨QJ λn=>by simp[Op.equalIn,step _ hu],rfl⟩
 ·rw[ZoZ ha,ZoZ hb];exact⟨QJ λn=>by simp[Op.equalIn,step _ hu],rfl⟩
theorem Zxy{P:yg}{op:BinOp}{t:yb}{x y:Dv}{hs hs':yL Hint}{C:yL Prop}{d:Dv}(h:Zfg P op t x y hs=some (C,d,hs'))(hc:AllP C){σ:Sg}{a b:yh}
 (ha:yH σ x a) (hb:yH σ y b) (ox oy:yn):
 ∃v,(eqGuard op t ox oy a b).run P σ.w=.ok () σ.w/\(binOp op t a b).run P σ.w=.ok v σ.w/\yH σ d v:=by
 unfold Zfg at h;split at h
 ·have ea:=Yd ha;have eb:=Yd hb;subst ea;subst eb;split at h
  ·rename_i ho;obtain⟨v,h1,h2⟩:=ZtA (P:=P) (yk:= ‹IntKind›) h hc σ;refine⟨v,by rw[eqGuard_at_int];rfl, ?_,h2⟩;cases op <;> first|(simp[ZvE] at ho;done)|exact h1
  ·split at h
   ·rename_i hk;subst hk;obtain⟨v,h1,h2⟩:=Zxr (P:=P) h hc σ t;exact⟨v,by rw[eqGuard_at_int];rfl,h1,h2⟩
   ·cases h
 ·rw[Zf2 ha,Zf2 hb];split at h
  ·cases h;exact⟨_,rfl,by rw[<-ByteArray.toList_eq, <-ByteArray.toList_eq];rfl,YH _⟩
  ·cases h;exact⟨_,rfl,by rw[<-ByteArray.toList_eq, <-ByteArray.toList_eq];rfl,YH _⟩
  ·cases h
 ·split at h
  ·simp only[yu,yab] at h;obtain⟨⟨C',r,hs''⟩,h1,rfl,rfl,rfl⟩:=h;obtain⟨h2,h3⟩:=ZpU h1 hc ha hb;refine⟨.bool r, ?_, ?_,YH _⟩
   ·rcases h3 with h3|⟨⟨cs,rfl⟩,⟨cs',rfl⟩,h3⟩
    ·rw[ZrI h3];rfl
    ·exact run_eqGuard_agg _ _ _ _ _ _ _ h3
   ·rcases h3 with h3|⟨⟨cs,rfl⟩,⟨cs',rfl⟩,h3⟩
    ·rw[ZvM h3];simp[h2]
    ·rw[show binOp .eql t (.agg cs) (.agg cs')=(do pure (.bool (<-Op.equal t (.agg cs) (.agg cs')))) from rfl];simp[h2]
  ·simp only[yu,yab] at h;obtain⟨⟨C',r,hs''⟩,h1,rfl,rfl,rfl⟩:=h;obtain⟨h2,h3⟩:=ZpU h1 hc ha hb;refine⟨.bool (!r), ?_, ?_,YH _⟩
   ·rcases h3 with h3|⟨⟨cs,rfl⟩,⟨cs',rfl⟩,h3⟩
    ·rw[ZrI h3];rfl
    ·exact run_eqGuard_agg _ _ _ _ _ _ _ h3
   ·rcases h3 with h3|⟨⟨cs,rfl⟩,⟨cs',rfl⟩,h3⟩
    ·rw[ZvN h3];simp[h2]
    ·rw[show binOp .neq t (.agg cs) (.agg cs')=(do pure (.bool (!(<-Op.equal t (.agg cs) (.agg cs'))))) from rfl];simp[h2]
  ·cases h
end Go.Ev
end
section
namespace Go.Ev
section
variable{P:yg}{o:ym}{a:Act}{σ:Sg}{ts:yL Dv}{hs hs':yL Hint}{C:yL Prop}{d:Dv}
theorem ZpV(H:yL Ent):putBack H [] []=H:=by simp[putBack]
theorem Zgi:(toIds []:Nat->yO Nat)=λ_=>none:=by
 funext i;simp[toIds]
mutual
theorem Zgj{f:Nat->yO Nat}:∀(x y:Dv),x.rn (λ_=>none)=some y->x.rn f=some x
 |.p x,_,_=>rfl
 |.elem x,_,_=>rfl
 |.ref _ _ _,_,h=>by simp[Dv.rn] at h
 |.own _ _ _ _,_,h=>by simp[Dv.rn] at h
 |.view _ _ _ _ _ _,_,h=>by simp[Dv.rn] at h
 |.agg xs,_,h=>by
  simp only[Dv.rn,yu] at h ⊢;obtain⟨ys,h1,_⟩:=h
  exact⟨xs,rns_none_id xs ys h1,rfl⟩
 |.arr n s xs,_,h=>by
  simp only[Dv.rn,yu] at h ⊢;obtain⟨ys,h1,_⟩:=h
  exact⟨xs,rns_none_id xs ys h1,rfl⟩
 |.fn g xs,_,h=>by
  simp only[Dv.rn,yu] at h ⊢;obtain⟨ys,h1,_⟩:=h
  exact⟨xs,rns_none_id xs ys h1,rfl⟩
 |.iface t x,_,h=>by
  simp only[Dv.rn,yu] at h ⊢;obtain⟨y,h1,_⟩:=h
  exact⟨x,Zgj x y h1,rfl⟩
 |.tup xs,_,h=>by
  simp only[Dv.rn,yu] at h ⊢;obtain⟨ys,h1,_⟩:=h
  exact⟨xs,rns_none_id xs ys h1,rfl⟩
 |.mp _,_,h=>by simp[Dv.rn] at h
 |.rv _ _ _ _ _,_,h=>by simp[Dv.rn] at h
 |.rref _ _ _ _,_,h=>by simp[Dv.rn] at h
 |.junk,_,_=>rfl
theorem rns_none_id{f:Nat->yO Nat}:∀(x y:yL Dv),Dv.rns (λ_=>none) x=some y->Dv.rns f x=some x
 |[],_,_=>rfl
 |x::xs,_,h=>by
  simp only[Dv.rns] at h;split at h
  ·rename_i y ys h1 h2;simp[Dv.rns,Zgj x y h1,rns_none_id xs ys h2]
  ·cases h
end
theorem Zxz{src dst e:yb}{xs:yL Pl}{b:ByteArray}{nn:yO Bool}{v:yh}(hs:P.underlying src=some (.slice e))(he:P.underlying e=some (.int .u8))(hd:P.underlying dst=some .string)
 (hv:yH σ (.p (.sl nn 1 xs)) v) (hx:xs=b.data.toList.map λx=>.int .u8 (x.toNat:Int)):(convert src dst v).run P σ.w=.ok (.string b) σ.w:=by
 obtain⟨h1,A,c,rfl,h2,h3,h4,h5,h6⟩:=W8 hv;by_cases hne:xs=[]
 ·have hb:b=⟨#[]⟩:=by
   rw[hne] at hx;have:b.data.toList=[]:=List.map_eq_nil_iff.1 hx.symm;apply ByteArray.ext;grind
  subst hb;subst hne
  cases A with
  |none=>exact Go.Lib.run_convert_nil_bytes σ.w src dst e c hs he hd
  |some A=>
   have hz:=run_convert_bytes_string (P:=P) σ.w src dst e (some A) 0 c hs he hd;rw[yck,hz];simp[Conv.bytesToString,loadCells,loadCellsFrom];rfl
 ·obtain⟨bl,o',us,rfl,h7,h8⟩:=h6 hne;have zB:xs.length=b.size:=by rw[hx];simp
  rw[zB];refine Go.Lib.run_convert_whole (P:=P) σ.w src e dst hs he hd bl o' b (λi hi=> ?_) c;have hi':i < xs.length:=by rw[zB];exact hi
  have hxi:xs[i]? =some (.int .u8 (b[i].toNat:Int)):=by
   rw[hx,yal]
   have:b.data.toList[i]? =some b[i]:=by
    rw[ycd];exact yce (by simpa using hi)
   rw[this];rfl
  obtain⟨uy,h9,h10⟩:=Zrp h1 h7 h8 hxi;simp only[repC] at h9;subst h9;have:=(h10 0 _ rfl).1;grind
theorem ZBh{t e:yb}{x:yn}{n s:Nat}{xs:yL Pl}{nn:yO Bool}(ok:Ok σ)(ho:o.op=.sliceToArrayPointer t x)(hu:P.underlying t=some (.array n e))(hv:yH σ (.p (.sl nn s xs)) (a.eval x))(hn:n≠0)(hle:n<=xs.length):
 Wd P o a σ (.elem (.arr n s (xs.take n))) σ.H:=by
 obtain⟨h1,A,c,hv,h2,h3,h4,h5,h6⟩:=W8 hv
 have hne:xs≠[]:=by
  grind
 obtain⟨bl,o',us,rfl,h7,h8⟩:=h6 hne;have e0:xs=xs.take n++xs.drop n:=(ybl n xs).symm;rw[e0] at h7;obtain⟨u1,u2,rfl,h9,h10⟩:=YN h7;refine Zn (v:=.pointer (some ⟨bl,o',none⟩)) ok ?_ ?_
 ·have:(Instr.arrayAt t (.slice (some ⟨bl,o',none⟩) xs.length c)).run P σ.w=.ok (.pointer (some ⟨bl,o',none⟩)) σ.w:=by
   simp[Instr.arrayAt,run_underlying hu,show¬xs.length < n by omega]
  simp[execOp,ho,hv,this]
 ·rw[Zi rfl];simp only[yG];refine⟨bl,o',u1,rfl, ?_,(Vt.append h8).1⟩;simp only[repC];exact⟨by rw[yv];omega,Qm h1 n,h9⟩
theorem ZzK(ok:Ok σ){src dst e:yb}{x:yn}{b:ByteArray}(ho:o.op=.convert src dst x)(hs:P.underlying src=some .string)(hd:P.underlying dst=some (.slice e))(he:P.underlying e=some (.int .u8))
 (hv:a.eval x=.string b) (hb:b.size<=maxLen):Wd P o a σ (.p (.sl (some true) 1 (b.data.toList.map λx=>.int .u8 (x.toNat:Int)))) σ.H:=by
 have hg:σ.w.grownBy (Go.Lib.bytesWorld σ.w e b) none:=⟨rfl,rfl,rfl,by rw[Go.Lib.bytesWorld_size];omega,λk hk _=>Go.Lib.bytesWorld_at_old σ.w e b k hk⟩;obtain⟨to,ok'⟩:=ZnF ok hg;have zO:=Go.Lib.run_convert_string_bytes (P:=P) σ.w src dst e b hs hd he
 refine ZX (σ':={ σ with w:=Go.Lib.bytesWorld σ.w e b}) (v:=.slice (some ⟨σ.w.heap.size,0,none⟩) b.size (grownCap σ.w b.size 0 e)) (by
  have e1:execOp a.eval o=(do pure (.value (<-convert src dst (.string b)))):=by simp only[execOp,ho,hv]
  rw[e1];generalize Go.Lib.bytesWorld σ.w e b=w1 at zO;generalize grownCap σ.w b.size 0 e=n1 at zO;simp[zO]) to ok' ?_
 have hl:(b.data.toList.map λx=>Pl.int .u8 (x.toNat:Int)).length=b.size:=by rw[yaa,ybo];rfl
 have zL:allSz 1 (b.data.toList.map λx=>Pl.int .u8 (x.toNat:Int)):=λy hy=>by
  obtain⟨z,_,rfl⟩:=ycb.1 hy;rfl
 rw[<-hl];refine YM zL (by rw[hl];exact grownCap_ge ..) (by rw[hl];exact grownCap_le_maxLen _ _ _ _ hb) (Zdy rfl) (λh=>(by cases h)) (λ_=>⟨σ.w.heap.size,0,b.data.toList.map λx=>.int .u8 (x.toNat:Int),rfl, ?_,λj u hu=>⟨?_, ?_⟩⟩)
 ·generalize b.data.toList=l
  induction l with
  |nil=>simp[repCs]
  |cons z l ih=>exact⟨[_],_,rfl,by simp[repC],ih⟩
 ·rw[yal] at hu;obtain⟨z,h1,rfl⟩:=yu.1 hu
  have hj:j < b.size:=by
   grind
  rw[yay];have:=Go.Lib.bytesWorld_cell σ.w e b j hj;grind
 ·exact Zxt ok' (ok.new _ (yl _)) (ZfE ok)
theorem ZCW(ok:Ok σ)(yK:RepT σ ts a)(h:evN P o ts hs=some (C,d,hs'))(hc:AllP C):Wd P o a σ d σ.H:=by
 have h0:=h;unfold evN at h;split at h
 ·rename_i x ho
  have main:d=argD P ts o.type x->Wd P o a σ d σ.H:=λe=>by
   subst e;exact Zn (v:=a.eval x) ok (by simp[execOp,ho]) (Zq yK _ _)
  all_goals grind
 ·rename_i x ho
  have main:d=argD P ts o.type x->Wd P o a σ d σ.H:=λe=>by
   subst e;exact Zn (v:=a.eval x) ok (by simp[execOp,ho]) (Zq yK _ _)
  all_goals grind
 ·rename_i c x y ho;split at h
  ·rename_i t β hs1 hcv;cases h;have hb:=Zq (P:=P) yK 0 c;rw[hcv] at hb;have hb':=YP hb;have ht:t=β:=hc.1;subst ht;refine Zn (v:=if t then a.eval x else a.eval y) ok (by simp[execOp,ho,hb',asBool]) ?_
   cases t
   ·exact Zq yK _ _
   ·exact Zq yK _ _
  ·cases h
 ·rename_i x ho;split at h
  ·rename_i i f p hx;cases h;have hv:=Zq (P:=P) yK 0 x;rw[hx] at hv;obtain⟨b,h1,h2,h3⟩:=Zhq hv;exact Zn (v:=a.eval x) ok (by simp[execOp,ho,h3]) hv
  ·rename_i i v f p hx;cases h;have hv:=Zq (P:=P) yK 0 x;rw[hx] at hv;obtain⟨b,o',h3,_⟩:=ZnG hv;exact Zn (v:=a.eval x) ok (by simp[execOp,ho,h3]) hv
  ·rename_i y hx;cases h;have hv:=Zq (P:=P) yK 0 x;rw[hx] at hv;obtain⟨b,o',us,h3,_⟩:=ZkN hv;exact Zn (v:=a.eval x) ok (by simp[execOp,ho,h3]) hv
  ·rename_i f cap hx;cases h;have hv:=Zq (P:=P) yK 0 x;rw[hx] at hv;obtain⟨fs,cs,h3,_⟩:=ZzH hv;exact Zn (v:=a.eval x) ok (by simp[execOp,ho,h3]) hv
  ·cases h
 ·rename_i op t x y yt ho;obtain⟨v,h1,h2,h3⟩:=Zxy (P:=P) h hc (Zq yK t x) (Zq yK yt y) x y;exact Zn ok (by simp[execOp,ho,h1,h2]) h3
 ·rename_i t x ho;split at h
  ·rename_i b hx;cases h;have hv:=Zq (P:=P) yK 0 x;rw[hx] at hv;exact Zn (v:=.bool (!b)) ok (by simp[execOp,ho,YP hv,Op.unary]) (YH _)
  ·cases h
 ·rename_i t x ho;split at h
  ·rename_i k n hx;have hv:=Zq (P:=P) yK 0 x;rw[hx] at hv;exact Zn ok (by simp[execOp,ho,Yd hv,Op.unary,Op.intArith]) (Zei h hc σ)
  ·cases h
 ·rename_i t x ho;split at h
  ·rename_i k n hx;have hv:=Zq (P:=P) yK 0 x;rw[hx] at hv;split at h
   ·cases h
   ·rename_i hk;cases h;exact Zn ok (by simp[execOp,ho,Yd hv,Op.unary,hk,intBits_xor]) (ZG k _)
  ·cases h
 ·rename_i src dst x ho;split at h
  ·rename_i d1 k k' n hs1 hd1 hx;have hv:=Zq (P:=P) yK src x;rw[hx] at hv;refine Zn ok ?_ (Zei h hc σ);simp[execOp,ho,Yd hv,convert,run_underlying hs1,run_underlying hd1,Conv.intToInt]
  ·rename_i e nn s xs hs1 hd1 hx;have hv:=Zq (P:=P) yK src x;rw[hx] at hv;split at h
   ·rename_i b hs2 he;split at h
    ·rename_i h1;subst h1;cases h;refine Zn (v:=.string b) ok ?_ (by simp[yH,Dv.isAgg,Pl.isAgg,yG,repC]);have zO:=Zxz (P:=P) hs1 he hd1 hv hc.1;simp[execOp,ho,zO]
    ·cases h
   ·cases h
  ·rename_i e id nn s xs hs1 hd1 hx;have hv:=Zq (P:=P) yK src x;rw[hx] at hv;split at h
   ·rename_i b hs2 he;split at h
    ·rename_i h1;subst h1;cases h;refine Zn (v:=.string b) ok ?_ (by simp[yH,Dv.isAgg,Pl.isAgg,yG,repC]);have zO:=Zxz (P:=P) hs1 he hd1 (ZaQ hv) hc.1;simp[execOp,ho,zO]
    ·cases h
   ·cases h
  ·rename_i e b hs1 hd1 hx;have hv:=Zq (P:=P) yK src x;rw[hx] at hv;split at h
   ·rename_i he;cases h;exact ZzK ok ho hs1 hd1 he (Zf2 hv) hc.1
   ·cases h
  ·cases h
 ·rename_i t x ho;have hv:=Zq (P:=P) yK 0 x;split at h
  ·rename_i n e nn s xs hu hx;rw[hx] at hv;split at h
   ·rename_i hn;cases h;exact ZBh ok ho hu hv (by simpa using hn) hc.1
   ·cases h
  ·rename_i n e id nn s xs hu hx;rw[hx] at hv;split at h
   ·rename_i hn;cases h;exact ZBh ok ho hu (ZaQ hv) (by simpa using hn) hc.1
   ·cases h
  ·cases h
 ·rename_i f first captured ho
  split at h
  ·rename_i hf;cases h;rw[yi,yP] at hf;obtain⟨hf,hlt⟩:=hf;have:first= #[]:=by simpa using hf
   subst this;refine Zn (v:=.func (.func f) #[] (captured.map a.eval)) ok (by simp[execOp,ho,Instr.makeFunc]) ?_;rw[Zi rfl];simp only[yG];refine⟨#[],captured.map a.eval, ?_,yW hlt,by rw[Array.empty_append,Array.toList_map];exact Zru _ _ (λx=>Zq yK 0 x) _⟩;unfold Zjg;grind
  ·split at h
   ·rename_i hc2;cases h;have:captured= #[]:=by simpa using hc2
    subst this;have hge:¬f+big < big:=Nat.not_lt.2 (Nat.le_add_left big f);refine Zn (v:=.func (.func f) (first.map a.eval) #[]) ok (by simp[execOp,ho,Instr.makeFunc]) ?_
    rw[Zi rfl];simp only[yG];refine⟨first.map a.eval, #[], ?_,yX hge,by rw[Array.append_empty,Array.toList_map];exact Zru _ _ (λx=>Zq yK 0 x) _⟩
    unfold Zjg;rw[yX hge,Nat.add_sub_cancel]
   ·cases h
 ·rename_i t x ho;split at h
  ·cases h
  ·rename_i u hu hne;cases h;obtain⟨h1,h2⟩:=Zq (P:=P) yK t x;refine Zn (v:=.iface t (a.eval x)) ok ?_ ?_
   ·have e:(Instr.makeInterface t (a.eval x)).run P σ.w=.ok (.iface t (a.eval x)) σ.w:=by
     simp only[Instr.makeInterface,Sem.run_bind,run_underlying hne,Result.andThen_ok];rfl
    simp[execOp,ho,e]
   ·rw[Zi rfl];simp only[yG];grind
  ·cases h
 ·rename_i t x i ho;simp only[yu,yab] at h;obtain⟨d1,h1,rfl,rfl,rfl⟩:=h;obtain⟨u,h2,h3⟩:=ZtB h1 (Zq (P:=P) yK t x);exact Zn ok (by simp[execOp,ho,h2]) h3
 ·rename_i t x i ho;have hv:=Zq (P:=P) yK 0 x;split at h
  ·rename_i fs id off yM hu hx;rw[hx] at hv;split at h
   ·rename_i f hf;split at h
    ·rename_i hk;simp only[yi,yE] at hk;cases h;obtain⟨b,h1,h2,h3⟩:=Zhq hv;refine Zn (v:=.pointer (some ⟨b,off+f.offset,none⟩)) ok ?_ ?_
     ·have hs:=Yg (P:=P) hk.2 σ.w
      have hr:(fieldPlace ⟨b,off,none⟩ f).run P σ.w=.ok ⟨b,off+f.offset,none⟩ σ.w:=by
       unfold fieldPlace;rw[Sem.run_bind,hs];simp only[Result.andThen_ok,hk.1,if_false,Sem.run_pure,Addr.add_mk]
      simp[execOp,ho,h3,Instr.fieldAt,run_underlying hu,hf,Instr.sureAddr,hr]
     ·rw[Zi rfl];simp only[yG];grind
    ·cases h
   ·cases h
  ·rename_i fs id v off yM hu hx;rw[hx] at hv;split at h
   ·rename_i f hf;split at h
    ·rename_i hk;simp only[yi,yE] at hk;cases h;obtain⟨b,o',h3,h4⟩:=ZnG hv;refine Zn (v:=.pointer (some ⟨b,o'+f.offset,none⟩)) ok ?_ (ZvI (Zo2 h4));have hs:=Yg (P:=P) hk.2 σ.w
     have hr:(fieldPlace ⟨b,o',none⟩ f).run P σ.w=.ok ⟨b,o'+f.offset,none⟩ σ.w:=by
      unfold fieldPlace;rw[Sem.run_bind,hs];simp only[Result.andThen_ok,hk.1,if_false,Sem.run_pure,Addr.add_mk]
     simp[execOp,ho,h3,Instr.fieldAt,run_underlying hu,hf,Instr.sureAddr,hr]
    ·cases h
   ·cases h
  ·rename_i fs y hu hx;rw[hx] at hv;split at h
   ·rename_i z hz;cases h;obtain⟨b,off,us,h1,h2,h3⟩:=ZkN hv;unfold Zbi at hz;rw[hu] at hz;split at hz
    ·rename_i fs' xs hfs hxs;cases hfs;cases hxs;split at hz
     ·rename_i y' hy;split at hz
      ·rename_i hok;cases hz;unfold Zhn at hok;split at hok
       ·rename_i f hf;simp only[yi,yT,yE] at hok;obtain⟨⟨⟨⟨⟨k1,k2⟩,k3⟩,k4⟩,k5⟩,k6⟩:=hok;simp only[repC] at h2;obtain⟨p1,p2,p3,rfl,e1,e2,_⟩:=Zb4 h2 hy;refine Zn (v:=.pointer (some ⟨b,off+f.offset,none⟩)) ok ?_ ?_
        ·have hs:=Yg (P:=P) k3 σ.w
         have hr:(fieldPlace ⟨b,off,none⟩ f).run P σ.w=.ok ⟨b,off+f.offset,none⟩ σ.w:=by
          unfold fieldPlace;rw[Sem.run_bind,hs];simp only[Result.andThen_ok,k2,k6,if_false,Sem.run_pure,Addr.add_mk]
         simp[execOp,ho,h1,Instr.fieldAt,run_underlying hu,hf,Instr.sureAddr,hr]
        ·rw[Zi rfl];simp only[yG];refine⟨b,_,p2,rfl,e2, ?_⟩;have:=(Vt.append (Vt.append h3).2).1;grind
       ·cases hok
      ·cases hz
     ·cases hz
    all_goals grind
   ·cases h
  ·cases h
 ·rename_i t x ix ho;exact Zxu ok yK ho h0 hc
 ·rename_i t x ix ho;have hv:=Zq (P:=P) yK t x;have hi:=Zq (P:=P) yK 0 ix;split at h
  ·rename_i n e n' s xs k i hu hx hix;rw[hx] at hv;rw[hix] at hi;split at h
   ·rename_i y hs1;split at h
    ·rename_i hk;simp only[yi,yP,yT,yE] at hk;obtain⟨⟨⟨⟨⟨rfl,k1⟩,k2⟩,k3⟩,k4⟩,k5⟩:=hk;cases h;obtain⟨c1,c2,_⟩:=hc;obtain⟨cs,hcs,hr⟩:=(Yq rfl).1 hv;simp only[yG,repC] at hr;obtain⟨r1,r2,r3⟩:=hr;obtain⟨p1,p2,p3,ecs,e1,e2,_⟩:=Zb4 r3 c2;have hlt:i.toNat < xs.length:=(yo.1 c2).1;have hys:y.size=s:=r2 y (ybz c2)
     have hpl:p1.length=i.toNat*s:=by
      rw[e1,sizes_all (Qm r2 _),yv,ybg (Nat.le_of_lt hlt)]
     obtain⟨v,h1,h2⟩:=Zb6 (P:=P) (σ:=σ) (t:=e) (d:=.p y) ecs (by simpa[yG] using e2) (by rw[k1];exact hys.symm) k4 k3 k2 (by show y.size≠0;rw[hys];exact k5);refine Zn ok ?_ h2;have hb:0<=i/\i < (n:Int):=⟨c1,by omega⟩;rw[hpl, <-k1] at h1;simp[execOp,ho,hcs,Yd hi,Instr.index,asIntOf,run_underlying hu,hb,Yg k4,h1]
    ·cases h
   ·cases h
  ·rename_i s k i hu hx hix;rw[hx] at hv;rw[hix] at hi;split at h
   ·rename_i b hs1;cases h;obtain⟨c1,c2,_⟩:=hc;obtain⟨x0,h1,rfl⟩:=yu.1 c2;refine Zn ok (v:=.int .u8 x0.toNat) ?_ (ZG _ _)
    have hg:s[i.toNat]? =some x0:=by
     rw[<-h1];have hlt:i.toNat < s.data.toList.length:=(yo.1 h1).1;have hlt':i.toNat < s.size:=by simpa using hlt
     rw[getElem?_pos s i.toNat hlt',yad hlt];rfl
    simp[execOp,ho,Zf2 hv,Yd hi,Instr.index,asIntOf,run_underlying hu,c1,hg]
   ·cases h
  ·cases h
 ·rename_i t x lo hi ho;exact ZG9 ok yK ho h0 hc
 ·rename_i t x lo hi mx ho;exact ZEl ok yK ho h0 hc
 ·rename_i x i ho;split at h
  ·rename_i ds hx;simp only[yu,yab] at h;obtain⟨d1,h1,rfl,rfl,rfl⟩:=h;have hv:=Zq (P:=P) yK 0 x;rw[hx,Zi rfl] at hv;simp only[yG,List.cons.injEq,and_true] at hv;obtain⟨cs,hv,hr⟩:=hv;obtain⟨v,h2,h3⟩:=Zrt hr h1;have h2':cs[i]? =some v:=by simpa using h2
   exact Zn ok (by simp[execOp,ho,hv,Instr.extract,h2']) h3
  ·cases h
 ·rename_i t x ho;split at h
  ·rename_i y hx;split at h
   ·rename_i hk;simp only[yi,yT,yP] at hk;obtain⟨⟨⟨k1,k2⟩,k3⟩,k4⟩:=hk;cases h;have hv:=Zq (P:=P) yK 0 x;rw[hx] at hv;obtain⟨b,off,us,h1,h2,h3⟩:=ZkN hv;obtain⟨v,h4,h5⟩:=Zhp (P:=P) (σ:=σ) (d:=.p y) (by simpa[yG] using h2) (λj u hu=>(h3 j u hu).1) k1 k4 k3 k2;exact Zn ok (by simp[execOp,ho,h1,Instr.loadAt,Instr.sureAddr,h4]) h5
   ·cases h
  ·cases h
 ·rename_i t parts ho;exact ZHa ok yK ho h0
 ·rename_i c ho;split at h
  ·rename_i yR;split at h
   ·rename_i x t yQ htys;have hv:=Zq (P:=P) yK t x;split at h
    ·rename_i e nn s xs hu hx;rw[hx] at hv;cases h;obtain⟨_,A,cp,h1,_⟩:=W8 hv;exact Zn ok (Zgg ho yR yQ htys (by rw[h1];simp[Builtin.len_,run_underlying hu];rfl)) (ZG _ _)
    ·rename_i e id nn s xs hu hx;rw[hx] at hv;cases h;obtain⟨_,A,cp,h1,_⟩:=ZbF hv;exact Zn ok (Zgg ho yR yQ htys (by rw[h1];simp[Builtin.len_,run_underlying hu];rfl)) (ZG _ _)
    ·rename_i e id off yM s lo n hu hx;rw[hx] at hv;cases h;obtain⟨b,cp,aa,_,_,h1,_⟩:=Zit hv;exact Zn ok (Zgg ho yR yQ htys (by rw[h1];simp[Builtin.len_,run_underlying hu];rfl)) (ZG _ _)
    ·rename_i e id v s lo n hu hx;rw[hx] at hv;cases h;obtain⟨A,cp,h1,_⟩:=ZhX hv;exact Zn ok (Zgg ho yR yQ htys (by rw[h1];simp[Builtin.len_,run_underlying hu];rfl)) (ZG _ _)
    ·rename_i dd n e hu;cases h;exact Zn ok (Zgg ho yR yQ htys (by simp[Builtin.len_,run_underlying hu];rfl)) (ZG _ _)
    ·rename_i s hu hx;rw[hx] at hv;cases h;exact Zn ok (Zgg ho yR yQ htys (by rw[Zf2 hv];simp[Builtin.len_,run_underlying hu];rfl)) (ZG _ _)
    ·cases h
   ·cases h
  ·rename_i yR;split at h
   ·rename_i x y t u hs1 yQ htys;split at h
    ·rename_i e s hu hx;split at h
     ·rename_i i ys hi hsrc;split at h
      ·rename_i hk;simp only[yi,yE] at hk;cases h;exact ZtC ok yK ho yR yQ htys hu hx hi hk.1 hk.2 hsrc hc.1 hc.2.1
      ·cases h
     ·cases h
    ·cases h
   ·cases h
  ·rename_i f yR;split at h
   ·rename_i g cap r hs1 hf;split at h
    ·rename_i hk;simp only[yi,yT] at hk;split at h
     ·rename_i args' r1 yQ hr;simp only[yq,yab] at h;obtain⟨rfl,rfl,rfl⟩:=h
      have:=ZrG (P:=P) (ids:=[]) (Hin:=[]) (H':=[]) (Hb:=[]) (r:=r) (r':=r) ok yK ho yR hf hk.1 hk.2 rfl (yl _) (by rw[Zgi];exact yQ) rfl
       (Zgj r r1 hr) rfl hc.1
      rwa [ZpV] at this
     ·cases h
    ·cases h
   ·cases h
  ·cases h
 ·rename_i t len parts ho;split at h
  ·rename_i hs1;split at h
   ·rename_i e hu;split at h
    ·rename_i i xs hi hl;split at h
     ·rename_i hk;simp only[yi,yE,yP] at hk;cases h;exact ZqX (ZrD ok yK ho hu hi hk.1.1 hk.1.2 hk.2 hl) (Wk.p (PlWk.sl_nn (by rw[<-Pl.softs_map];exact softs_wk _))) (WkH.refl _)
     ·cases h
    ·cases h
   ·cases h
  ·rename_i hs1;split at h
   ·rename_i e hu;split at h
    ·rename_i i xs hi hl;split at h
     ·rename_i hk;simp only[yi,yE,yP] at hk;cases h;exact ZrD ok yK ho hu hi hk.1.1 hk.1.2 hk.2 hl
     ·cases h
    ·cases h
   ·cases h
  ·cases h
 ·cases h
theorem ZCX{x y:yn}{t u:yb}{c:Call}{w':yz}(ho:o.op=.call c)(hc:c.callee=.builtin .copy)(yQ:c.args.toList=[x,y])(htys:c.argTypes.toList=[t,u]){v:yh}
 (h:(Builtin.copy_ #[t,u] o.type #[a.eval x,a.eval y]).run P σ.w=.ok v w'):(execOp a.eval o).run P σ.w=.ok (.value v) w':=by
 have h1:c.args= #[x,y]:=by rw[<-ycz (xs:=c.args),yQ]
 have h2:c.argTypes= #[t,u]:=by rw[<-ycz (xs:=c.argTypes),htys]
 simp[execOp,ho,resolve,hc,h1,h2,invoke,builtin,h]
theorem Zq0(ok:Ok σ){id v v' s lo n N:Nat}{st:Bool}{e:yb}{zs:yL Pl}{u:yh}(hx:yH σ (.rv id v s lo n) u)(hH:σ.H[id]? =some (.row v' s st e (.p (.arr N s zs))))(hv:v'=v)(hle:lo+n<=N):
 ∃A c,u=.slice A n c/\n<=c/\c<=maxLen/\(A=none->c=0)/\allSz s ((zs.drop lo).take n)/\((zs.drop lo).take n).length=n/\∃q,repCs σ.w σ.stab ((zs.drop lo).take n) q/\q.length=n*s/\
  (0 < n->∃b cur cap,A=some ⟨b,lo*s,none⟩/\σ.m[id]? =some (some b)/\σ.w.heap[b]? =some (.cells cur e (0,0))/\cur.size=cap*s/\∀(j:Nat)(u:yh),q[j]? =some u->σ.w.cell? ⟨b,lo*s+j,none⟩=some u):=by
 obtain⟨A,c,rfl,h2,h3,h4,h5,v2,s2,st2,e2,d2,h6,h7,h8⟩:=ZhX hx;rw[hH] at h6;cases h6;obtain⟨_,h9⟩:=h8 hv;have hidlt:id < σ.m.length:=by rw[ok.len];exact(yo.1 hH).1
 have hmi:σ.m[id]? =some σ.m[id]:=yad hidlt;obtain⟨N',hN',hent⟩:=ok.ent id _ _ hH hmi;simp only[rowN,if_true,yq] at hN';subst hN';by_cases hn:n=0
 ·subst hn;refine⟨A,c,rfl,h2,h3,h4, ?_,by simp,[],by simp[repCs],by simp,λh=>absurd h (by omega)⟩;simp only[List.take_zero];intro x hx;cases hx
 have hpos:0 < n:=Nat.pos_of_ne_zero hn;rcases h9 with⟨_,_,hz⟩|⟨b,cur,k1,k2,k3,k4⟩
 ·omega
 rw[hmi] at k1;rcases hent with⟨hh,_⟩|⟨b',cur',cap,hh,g2,g4,g5,g6,g7⟩
 ·rw[hh] at k1;cases k1
 rw[hh] at k1;cases k1;rw[k2] at g2;cases g2;simp only[yG,repC] at g7;obtain⟨hxl,hxs,h7⟩:=g7
 have hsplit:zs=zs.take lo++((zs.drop lo).take n++zs.drop (lo+n)):=by
  have e1:zs.drop (lo+n)=(zs.drop lo).drop n:=by rw[List.drop_drop]
  rw[e1,ybl,ybl]
 rw[hsplit] at h7;obtain⟨q1,q23,e1,r1,r23⟩:=YN h7;obtain⟨q2,q3,rfl,r2,r3⟩:=YN r23;have hs1:allSz s (zs.take lo):=λz hz=>hxs z (ycg hz);have hsy:allSz s ((zs.drop lo).take n):=λz hz=>hxs z (ydd (ycg hz));have ly:((zs.drop lo).take n).length=n:=by rw[yv,ybf,ybg (by omega)]
 have l1:q1.length=lo*s:=by rw[repCs_size _ _ r1,sizes_all hs1,yv,ybg (by omega)]
 have l2:q2.length=n*s:=by rw[repCs_size _ _ r2,sizes_all hsy,ly]
 refine⟨A,c,rfl,h2,h3,h4,hsy,ly,q2,r2,l2,λ_=>⟨b,cur,cap,k4 (by omega),by rw[hmi,hh],k2,g4,λj u hu=> ?_⟩⟩;rw[cell_of_row σ.w b _ cur e (0,0) k2, <-ycd];have hj:j < q2.length:=(yo.1 hu).1
 have e2:(cur.toList.take (N*s))[lo*s+j]? =some u:=by
  rw[e1,yat (by omega),l1,Nat.add_sub_cancel_left,yba hj];exact hu
 rw[ycc] at e2;split at e2
 ·exact e2
 ·cases e2
theorem Zjp(ok:Ok σ)(yK:RepT σ ts a){s:Nat}{u ut:yb}{y:yn}{ys:yL Pl}{hs1:yL Hint}{C1:yL Prop}(h:ZoX P s u σ.H hs (argD P ts ut y)=some (C1,ys,hs1))(hc:AllP C1):
 ZmB P σ s u (a.eval y) ys:=by
 unfold ZoX at h;split at h
 ·rename_i id off yM s' lo n hd;have hxv:=Zq (P:=P) yK ut y;rw[hd] at hxv;obtain⟨b,cap,A,hm,hv,hve,hcap,hcm,hA⟩:=Zit hxv;split at h
  ·rename_i e dd st hu hH;split at h
   ·rename_i C2 off' N s2 zs hs2 hg;split at h
    ·rename_i hk;simp only[yi,yP] at hk;obtain⟨rfl,rfl⟩:=hk;simp only[yq,yab] at h;obtain⟨rfl,rfl,rfl⟩:=h;obtain⟨c1,rfl,c2,_⟩:=Zk.1 hc;obtain⟨b',cs,t',h1,h2,h3,h4⟩:=ok.ent id _ _ hH hm;cases h1;obtain⟨p1,p2,p3,h5,h6,h7,_⟩:=ZbI yM dd hs hs2 C2 off' (.p (.arr N s2 zs)) _ hg c1 h3;simp only[yG,repC] at h7;obtain⟨hxl,hxs,h7⟩:=h7
     have hsplit:zs=zs.take lo++((zs.drop lo).take n++zs.drop (lo+n)):=by
      have e1:zs.drop (lo+n)=(zs.drop lo).drop n:=by rw[List.drop_drop]
      rw[e1,ybl,ybl]
     rw[hsplit] at h7;obtain⟨q1,q23,rfl,r1,r23⟩:=YN h7;obtain⟨q2,q3,rfl,r2,r3⟩:=YN r23;have hs1:allSz s2 (zs.take lo):=λz hz=>hxs z (ycg hz);have hsy:allSz s2 ((zs.drop lo).take n):=λz hz=>hxs z (ydd (ycg hz));have ly:((zs.drop lo).take n).length=n:=by rw[yv,ybf,ybg (by omega)]
     have l1:q1.length=lo*s2:=by rw[repCs_size _ _ r1,sizes_all hs1,yv,ybg (by omega)]
     have l2:q2.length=n*s2:=by rw[repCs_size _ _ r2,sizes_all hsy,ly]
     rw[hve];refine⟨q2,⟨.inl ⟨_,hu⟩,λw'=>by rw[ly];rfl, ?_, ?_,by rw[ly];exact l2⟩,r2,λ_=>hsy⟩
     all_goals
      rw[ly];rcases yco n with h0|h0
      ·subst h0;have hz:q2=[]:=ybn (by rw[l2];simp);rw[hz];simp[Builtin.firstCells,loadCells,loadCellsFrom]
      ·rw[hA h0];refine run_firstCells_some _ s2 _ ⟨b,off'+lo*s2,none⟩ _ cap q2 l2 (λj v hv=> ?_);rw[Addr.add_mk];have hcell:σ.w.cell? ⟨b,off'+lo*s2+j,none⟩=cs[off'+lo*s2+j]? :=cell_of_row σ.w b _ cs t' (0,0) h2
       first
        |(rw[hcell, <-ycd]
          have h5':cs.toList.take dd.size=(p1++q1)++(q2++(q3++p3)):=by rw[h5];simp
          have hpl:(p1++q1).length=off'+lo*s2:=by rw[yj,h6,l1]
          have hj:j < q2.length:=(yo.1 hv).1
          have e2:(cs.toList.take dd.size)[off'+lo*s2+j]? =some v:=by
           rw[h5',yat (by omega),hpl,Nat.add_sub_cancel_left,yba hj];exact hv
          rw[ycc] at e2;split at e2
          ·exact e2
          ·cases e2)
        |(show σ.w.drew.cell? _=_
          have hcell2:σ.w.drew.cell? ⟨b,off'+lo*s2+j,none⟩=σ.w.cell? ⟨b,off'+lo*s2+j,none⟩:=rfl;rw[hcell2,hcell, <-ycd];have h5':cs.toList.take dd.size=(p1++q1)++(q2++(q3++p3)):=by rw[h5];simp
          have hpl:(p1++q1).length=off'+lo*s2:=by rw[yj,h6,l1]
          have hj:j < q2.length:=(yo.1 hv).1
          have e2:(cs.toList.take dd.size)[off'+lo*s2+j]? =some v:=by
           rw[h5',yat (by omega),hpl,Nat.add_sub_cancel_left,yba hj];exact hv
          rw[ycc] at e2;split at e2
          ·exact e2
          ·cases e2)
    ·cases h
   ·cases h
  ·cases h
 ·rename_i id v s' lo n hd;have hxv:=Zq (P:=P) yK ut y;rw[hd] at hxv;split at h
  ·rename_i e v' s2 st e' N s3 zs hu hH;split at h
   ·rename_i hk;simp only[yi,yP,yT] at hk;obtain⟨⟨⟨rfl,rfl⟩,rfl⟩,hv⟩:=hk;simp only[yq,yab] at h;obtain⟨rfl,rfl,rfl⟩:=h;obtain⟨A,cap,hve,hcap,hcm,hA,hsy,ly,q2,r2,l2,hq⟩:=Zq0 ok hxv hH hv hc.1;rw[hve];refine⟨q2,⟨.inl ⟨_,hu⟩,λw'=>by rw[ly];rfl, ?_, ?_,by rw[ly];exact l2⟩,r2,λ_=>hsy⟩
    all_goals
     rw[ly];rcases yco n with h0|h0
     ·subst h0;have hz:q2=[]:=ybn (by rw[l2];simp);rw[hz];cases A <;> simp[Builtin.firstCells,loadCells,loadCellsFrom]
     ·obtain⟨b,cur,cp,rfl,_,_,_,hcell⟩:=hq h0;refine run_firstCells_some _ _ _ ⟨b,_,none⟩ _ cap q2 l2 (λj v hv=> ?_);rw[Addr.add_mk];exact hcell j v hv
   ·cases h
  ·cases h
 ·simp only[yu,yab] at h;obtain⟨zs,h1,rfl,rfl,rfl⟩:=h;exact Zac (P:=P) yK h1
theorem ZIU(ok:Ok σ)(yK:RepT σ ts a){c:Call}{x y:yn}{t u e:yb}{id off s lo n N:Nat}{yM:yL Nat}{dd dd':Dv}{xs ys:yL Pl}{C1:yL Prop}{off':Nat}(ho:o.op=.call c)(yR:c.callee=.builtin .copy)
 (yQ:c.args.toList=[x,y]) (htys:c.argTypes.toList=[t,u]) (ht:P.underlying t=some (.slice e)) (hx:argD P ts t x=.view id off yM s lo n) (hsrc:srcOf P s u (argD P ts u y)=some ys)
 (hH:σ.H[id]? =some (.var dd true)) (hg:YE dd yM hs=some (C1,off',.p (.arr N s xs),hs')) (hc:AllP C1) (he:off'=off) (hp:VA (.p (.arr N s (ZoW xs ys lo))) dd yM hs=some dd')
 (hce:P.cellsOf e=s) (hi:(P.info? e).isSome=true) (hm':ys.length<=n) (hn:lo+n<=N):Wd P o a σ (.p (.int .i64 (ys.length:Int))) (σ.H.set id (.var dd' true)):=by
 subst he;have hxv:=Zq (P:=P) yK t x;rw[hx] at hxv;obtain⟨b,cap,A,hm,hv,hxv,hcap,hcm,hA⟩:=Zit hxv;obtain⟨zV,hS,hnr,zL⟩:=Zac (P:=P) yK hsrc;obtain⟨b',cs,t',h1,h2,h3,h4⟩:=ok.ent id _ _ hH hm;cases h1;obtain⟨p1,p2,p3,h5,h6,h7,h8⟩:=ZbI yM dd hs hs' C1 off' (.p (.arr N s xs)) _ hg hc h3;simp only[yG,repC] at h7;obtain⟨hxl,hxs,h7⟩:=h7;have hlo:lo+ys.length<=xs.length:=by omega
 have hsplit:xs=xs.take lo++((xs.drop lo).take ys.length++xs.drop (lo+ys.length)):=by
  have e1:xs.drop (lo+ys.length)=(xs.drop lo).drop ys.length:=by rw[List.drop_drop]
  rw[e1,ybl,ybl]
 rw[hsplit] at h7;obtain⟨q1,q23,rfl,r1,r23⟩:=YN h7;obtain⟨q2,q3,rfl,r2,r3⟩:=YN r23;have hs1:allSz s (xs.take lo):=λz hz=>hxs z (ycg hz);have hs2:allSz s ((xs.drop lo).take ys.length):=λz hz=>hxs z (ydd (ycg hz));have hs3:allSz s (xs.drop (lo+ys.length)):=λz hz=>hxs z (ydd hz);have l1:q1.length=lo*s:=by rw[repCs_size _ _ r1,sizes_all hs1,yv,ybg (by omega)]
 have l2:q2.length=ys.length*s:=by rw[repCs_size _ _ r2,sizes_all hs2,yv,ybf,ybg (by omega)]
 have ln:zV.length=ys.length*s:=hS.cells
 have hys:allSz s ys:=by
  by_cases h0:ys=[]
  ·subst h0;intro z hz;cases hz
  ·exact zL h0
 have hcells:yG σ (.p (.arr N s (ZoW xs ys lo))) (q1++(zV++q3)):=by
  simp only[yG,repC];refine⟨?_, ?_, ?_⟩
  ·unfold ZoW;simp only[yj,yv,ybf];omega
  ·exact WU hs1 (WU hys hs3)
  ·exact Yt r1 (Yt hnr r3)
 obtain⟨h9,h10⟩:=h8 _ dd' _ hp rfl hcells;have h5':cs.toList.take dd.size=(p1++q1)++(q2++(q3++p3)):=by rw[h5];simp
 have hll:zV.length=q2.length:=by rw[ln,l2]
 obtain⟨k1,k2⟩:=ZkP h5' hll h4;have hpl:(p1++q1).length=off'+lo*s:=by rw[yj,h6,l1]
 rw[hpl] at k1 k2
 have hnl:off'+lo*s+zV.length<=cs.size:=by
  have:=congrArg List.length h5';simp only[yv,ybo,yj] at this;omega
 have hone:∀v,v∈zV->v.oneCell'=true:=repCs_one _ _ hnr;have hst:=run_storeCells_at P b (off'+lo*s) t' zV 0 cs σ.w h2 (by simpa using hnl) hone;simp only[ycf] at hst;let ncs:Array yh:=(cs.toList.take (off'+lo*s)++zV++cs.toList.drop (off'+lo*s+zV.length)).toArray
 have hstA:(storeCells A zV 0).run P σ.w=.ok () (σ.w.setRow b ncs):=by
  by_cases h0:ys.length=0
  ·have hz:zV=[]:=ybn (by rw[ln,h0];simp)
   have e1:ncs=cs:=by
    simp only[ncs,hz,yas,yck,ycf,ybl,ycz]
   rw[e1,setRow_self σ.w b cs t' (0,0) h2,hz];simp[storeCells]
  ·rw[hA (by omega)];exact hst
 let σ':Sg:={ σ with m:=σ.m.set id (some b),H:=σ.H.set id (.var dd' true),w:=σ.w.setRow b ncs};have zU:σ'.w.heap[b]? =some (.cells ncs t' (0,0)):=setRow_heap σ.w b cs _ t' _ h2;have hoth:∀j,b≠j->σ'.w.heap[j]? =σ.w.heap[j]? :=λj hj=>setRow_other σ.w b j _ (Ne.symm hj)
 obtain⟨to,ok'⟩:=XR (σ':=σ') (mi:=some b) (mi':=some b) ok hH hm rfl rfl rfl rfl rfl rfl rfl (by simp[σ'])
  (λj hj hne=>hoth j (λhh=>hne (by rw[hh]))) (λb' o v _ hu _=>by cases hu) (λo _ hu=>by cases hu) (.inl rfl) (λ_=>⟨rfl,dd',true,rfl⟩) (λ⟨d,st,h⟩=>by cases h)
  (λs e xs h=>by cases h) (λleaf=>⟨b,ncs,t',rfl,zU,by rw[h10];show yG σ' dd' (ncs.toList.take dd.size);rw[show ncs.toList.take dd.size=p1++((q1++(zV++q3))++p3) from by rw[k1];simp];exact Yk leaf dd' _ h9,by
    rw[h10];show dd.size<=ncs.size;have:ncs.size=cs.size:=k2;omega⟩)
 refine ZX (σ':=σ') (v:=goInt ys.length) (ZCX ho yR yQ htys ?_) to ok' (by rw[Zi rfl];simp[yG,repC,goInt])
 cases hi':P.info? e with
 |none=>simp[hi'] at hi
 |some i=>
  have hsz:i.size=s:=by rw[<-hce];simp[Program.cellsOf,hi']
  have hmin:Nat.min ys.length n=ys.length:=ybg hm';rw[hxv];simp[Builtin.copy_,run_underlying ht,hS.len,hmin,sizeOf,typeInfo,hi',hsz,hS.first,hstA,goInt,σ']
end
end Go.Ev
end
section
namespace Go.Ev
def Ziu:yh->Bool
 |.int _ _=>true
 |.bool _=>true
 |_=>false
mutual
theorem Zgk{w w':yz}{S S':Nat->Nat->Prop}:∀(x:Pl)(us vs:yL yh),x.flat=true->repC w S x us->repC w' S' x vs->us=vs/\∀u,u∈us->Ziu u=true
 |.int _ _,us,vs,_,h,k=>by simp only[repC] at h k;subst h;subst k;exact⟨rfl,λu hu=>by rw[ybc.1 hu];rfl⟩
 |.bool _,us,vs,_,h,k=>by simp only[repC] at h k;subst h;subst k;exact⟨rfl,λu hu=>by rw[ybc.1 hu];rfl⟩
 |.str _,_,_,h,_,_=>by simp[Pl.flat] at h
 |.ptr0,_,_,h,_,_=>by simp[Pl.flat] at h
 |.fn0,_,_,h,_,_=>by simp[Pl.flat] at h
 |.if0,_,_,h,_,_=>by simp[Pl.flat] at h
 |.map0,_,_,h,_,_=>by simp[Pl.flat] at h
 |.fnv _,_,_,h,_,_=>by simp[Pl.flat] at h
 |.agg xs,us,vs,hf,h,k=>by
  simp only[Pl.flat] at hf;simp only[repC] at h k
  exact flats_cells xs us vs hf h k
 |.arr n s xs,us,vs,hf,h,k=>by
  simp only[Pl.flat] at hf;simp only[repC] at h k
  exact flats_cells xs us vs hf h.2.2 k.2.2
 |.sl _ _ _,_,_,h,_,_=>by simp[Pl.flat] at h
 |.iface _ _,_,_,h,_,_=>by simp[Pl.flat] at h
theorem flats_cells{w w':yz}{S S':Nat->Nat->Prop}:∀(xs:yL Pl)(us vs:yL yh),Pl.flats xs=true->repCs w S xs us->repCs w' S' xs vs->us=vs/\∀u,u∈us->Ziu u=true
 |[],us,vs,_,h,k=>by simp only[repCs] at h k;subst h;subst k;exact⟨rfl,λu hu=>by cases hu⟩
 |x::xs,us,vs,hf,h,k=>by
  simp only[Pl.flats,yi] at hf;simp only[repCs] at h k;obtain⟨a,b,rfl,h1,h2⟩:=h;obtain⟨c,d,rfl,k1,k2⟩:=k;obtain⟨rfl,e1⟩:=Zgk x a c hf.1 h1 k1;obtain⟨rfl,e2⟩:=flats_cells xs b d hf.2 h2 k2;refine⟨rfl,λu hu=> ?_⟩;rcases List.mem_append.1 hu with hu|hu
  ·exact e1 u hu
  ·exact e2 u hu
end
theorem Zm4{σ σ':Sg}{x:Pl}{a b:yh}(hf:x.flat=true)(ha:yH σ (.p x) a)(hb:yH σ' (.p x) b):a=b:=by
 cases hx:x.isAgg with
 |true=>
  obtain⟨cs,rfl,h⟩:=(Yq (d:=.p x) hx).1 ha;obtain⟨ds,rfl,k⟩:=(Yq (d:=.p x) hx).1 hb;simp only[yG] at h k;obtain⟨e,_⟩:=Zgk x _ _ hf h k
  rw[show cs=ds from by cases cs;cases ds;simpa using e]
 |false=>
  have h:=(Zi (d:=.p x) hx).1 ha;have k:=(Zi (d:=.p x) hx).1 hb;simp only[yG] at h k;obtain⟨e,_⟩:=Zgk x _ _ hf h k;simpa using e
theorem ZrJ(n:Nat):∀{u:yh},Ziu u=true->Instr.sameBits n u u=true:=by
 intro u h;cases u <;> first|(cases n <;> simp[Instr.sameBits];done)|(simp[Ziu] at h)
theorem Zup{σ:Sg}{x:Pl}{a:yh}(hf:x.flat=true)(ha:yH σ (.p x) a):Instr.sameBits 10000 a a=true:=by
 cases hx:x.isAgg with
 |true=>
  obtain⟨cs,rfl,h⟩:=(Yq (d:=.p x) hx).1 ha;simp only[yG] at h;obtain⟨_,e⟩:=Zgk x _ _ hf h h;show(cs.size==cs.size&&(cs.toList.zip cs.toList).all λ(x,y)=>Instr.sameBits 9999 x y)=true;simp only[beq_self_eq_true,Bool.true_and,List.all_eq_true];intro p hp
  have key:∀(l:yL yh),(∀u,u∈l->Ziu u=true)->∀p,p∈l.zip l->Instr.sameBits 9999 p.1 p.2=true:=by
   intro l
   induction l with
   |nil=>intro _ p hp;cases hp
   |cons z r ih=>
    intro hz p hp;simp only[List.zip_cons_cons] at hp;rcases yci.1 hp with rfl|hp
    ·exact ZrJ 9999 (hz z (ybd ..))
    ·exact ih (λu hu=>hz u (ybh _ hu)) p hp
  exact key _ e p hp
 |false=>
  have h:=(Zi (d:=.p x) hx).1 ha;simp only[yG] at h;obtain⟨_,e⟩:=Zgk x _ _ hf h h;exact ZrJ 10000 (e a (ybc.2 rfl))
theorem Zuq{P:yg}{n:Nat}(ih:∀(t:yb)(x:Pl),fitP P n t x->x.flat=true):∀(fs:yL Field)(o:Nat)(xs:yL Pl),Zir P (fitP P n) fs o xs->Pl.flats xs=true
 |[],_,[],_=>rfl
 |[],_,_::_,h=>h.elim
 |_::_,_,[],h=>h.elim
 |f::fs,o,y::ys,h=>by
  obtain⟨_,_,_,_,_,_,_,a,b⟩:=h;simp only[Pl.flats,ih _ _ a,Zuq ih fs _ ys b,Bool.and_self]
theorem Zur:∀{xs:yL Pl},(∀y,y∈xs->y.flat=true)->Pl.flats xs=true
 |[],_=>rfl
 |x::xs,h=>by simp only[Pl.flats,h x (ybd ..),Zur λy hy=>h y (ybh _ hy),Bool.and_self]
theorem Zgl{P:yg}:∀(n:Nat)(t:yb)(x:Pl),fitP P n t x->x.flat=true
 |0,_,_,h=>by simp[fitP] at h
 |n+1,t,x,h=>by
  unfold fitP at h;split at h
  ·rfl
  ·rfl
  ·obtain⟨_,_,_,_,_,h⟩:=h;simp only[Pl.flat];exact Zur λy hy=>Zgl n _ y (h y hy).1
  ·simp only[Pl.flat];exact Zuq (Zgl n) _ _ _ h.2
  ·exact h.elim
theorem Qn{P:yg}{σ:Sg}{em:Bool}:∀(n:Nat)(t:yb)(x:Pl)(a:yh),fitP P n t x->yH σ (.p x) a->∀d,(Instr.checkKey em (d+n) t a).run P σ.w=.ok () σ.w
 |0,_,_,_,h,_,_=>by simp[fitP] at h
 |n+1,t,x,a,hx,ra,d=>by
  unfold fitP at hx;rw[show d+(n+1)=(d+n)+1 from rfl]
  split at hx
  ·rename_i hu;rw[YP ra];simp[Instr.checkKey,run_underlying hu]
  ·rename_i k k' z hu;rw[Yd ra];simp[Instr.checkKey,run_underlying hu]
  ·rename_i m e m' s xs hu;obtain⟨rfl,h1,h2,h3,h4,h5⟩:=hx;rw[Yq (by rfl)] at ra;obtain⟨cs,rfl,ra⟩:=ra;simp only[yG] at ra;obtain⟨n1,ra1,ra2⟩:=ZrH ra;clear ra ra1;subst n1;rw[Instr.checkKey];simp only[Sem.run_bind,run_underlying hu,Result.andThen_ok];simp only[Std.Legacy.Range.forIn_eq_forIn_range',Std.Legacy.Range.size,Nat.sub_zero,Nat.add_one_sub_one,Nat.div_one];obtain⟨i,p,us,hi0,e1,l1,r1⟩:∃(i:Nat)(p us:yL yh),i=0/\cs.toList=p++us/\p.length=i*s/\repCs σ.w σ.stab xs us:=⟨0,[],cs.toList,rfl,rfl,by simp,ra2⟩;rw[<-hi0];clear hi0 ra2 hu
   induction xs generalizing i p us with
   |nil=>simp
   |cons x xs ih=>
    simp only[repCs] at r1;obtain⟨u1,u2,rfl,q1,q2⟩:=r1;obtain⟨f1,f2,f3⟩:=h5 x (ybd ..);obtain⟨a,ha,ra⟩:=Zb6 (P:=P) (σ:=σ) (t:=e) (d:=.p x) e1 (by simpa[yG] using q1) (by rw[h1];exact f2.symm) h3 h4 f3 (by show x.size≠0;omega);rw[l1] at ha;have s1:=W5 _ _ q1;have hk:=Qn (em:=em) n e x a f1 ra d;rw[yao,List.range'_succ];simp only[List.forIn_cons,Sem.run_bind,Yg h3,h1,Result.andThen_ok,ha,hk,Sem.run_pure];exact ih (λy hy=>h5 y (ybh _ hy)) (i+1) (p++u1) u2 (by rw[e1,yx]) (by rw[yj,l1,s1,f2,yaz,Nat.one_mul]) q2
  ·rename_i fs xs hu;obtain⟨h1,h2⟩:=hx;rw[Yq (by rfl)] at ra;obtain⟨cs,rfl,ra⟩:=ra;simp only[yG,repC] at ra;rw[Instr.checkKey];simp only[Sem.run_bind,run_underlying hu,Result.andThen_ok];rw[<-Array.forIn_toList];obtain⟨o,p,us,ho,e1,l1,r1⟩:∃(o:Nat)(p us:yL yh),o=0/\cs.toList=p++us/\p.length=o/\repCs σ.w σ.stab xs us:=⟨0,[],cs.toList,rfl,rfl,rfl,ra⟩;rw[<-ho] at h2;clear ho ra hu;generalize fs.toList=L at*
   induction L generalizing xs o p us with
   |nil=>simp
   |cons f L ih=>
    cases xs with
    |nil=>exact h2.elim
    |cons x xs=>
     obtain⟨a1,a2,a3,a4,a5,a6,a7,a8,a9⟩:=h2;simp only[repCs] at r1;obtain⟨u1,u2,rfl,q1,q2⟩:=r1;obtain⟨a,ha,ra⟩:=Zb6 (P:=P) (σ:=σ) (t:=f.type) (d:=.p x) e1 (by simpa[yG] using q1) a3 a4 a5 a6 a7;rw[l1, <-a2] at ha;have s1:=W5 _ _ q1;have hk:=Qn (em:=em) n f.type x a a8 ra d;simp only[List.forIn_cons,a1,ne_eq,not_false_eq_true,if_true,Sem.run_bind,ha,Result.andThen_ok,hk,Sem.run_pure];exact ih xs (o+x.size) (p++u1) u2 (by rw[e1,yx]) (by rw[yj,l1,s1]) q2 a9
  grind
end Go.Ev
namespace Go.Ev
structure Finder(P:yg)(σ:Sg)(kt:yb)(k:Pl)(F:List MapEntry->Nat->Option (Nat×yh)->Prop):Prop where
 nil:∀i,F [] i none
 eq:∀(e:MapEntry)es i(q:Pl),fitP P 20 kt q->yH σ (.p q) e.key->k=q->F (e::es) i (some (i,e.val))
 ne:∀(e:MapEntry)es i(q:Pl)r,fitP P 20 kt q->yH σ (.p q) e.key->k≠q->F es (i+1) r->F (e::es) i r
theorem ZrK{P:yg}{σ:Sg}{kt:yb}{k:Pl}{a:yh}(hk:fitP P 20 kt k)(ra:yH σ (.p k) a):Finder P σ kt k λes i r=>(Instr.findAsking kt a es i).run P σ.w=.ok r σ.w where
 nil i:=by simp[Instr.findAsking]
 eq e es i q hq rq h:=by
  have:=Zo6 (β:=true) hk hq ra rq (by simp[h]);simp[Instr.findAsking,this]
 ne e es i q r hq rq h hr:=by
  have:=Zo6 (β:=false) hk hq ra rq (by simp[h]);simp[Instr.findAsking,this,hr]
theorem ZrL{P:yg}{σ:Sg}{kt:yb}{d:TypeDesc}{k:Pl}{a:yh}(hd:P.underlying kt=some d)(hs:(∃q,d=.int q)\/d=.bool)(hk:fitP P 20 kt k)(ra:yH σ (.p k) a):
 Finder P σ kt k λes i r=>Instr.findNow d a es i=some r where
 nil i:=rfl
 eq e es i q hq rq h:=by
  subst h;have hv:=Zm4 (Zgl 20 kt k hk) ra rq;unfold fitP at hk;rw[hd] at hk;rcases hs with⟨kk,rfl⟩|rfl
  ·cases k <;> first|exact hk.elim|skip
   subst hk;have e1:=Yd rq;have e2:=Yd ra;simp[Instr.findNow,Instr.sameNow,e1,e2]
  ·cases k <;> first|exact hk.elim|skip
   have e1:=YP rq;have e2:=YP ra;simp[Instr.findNow,Instr.sameNow,e1,e2]
 ne e es i q r hq rq h hr:=by
  unfold fitP at hk hq;rw[hd] at hk hq;rcases hs with⟨kk,rfl⟩|rfl
  ·cases k <;> first|exact hk.elim|skip
   cases q <;> first|exact hq.elim|skip
   subst hk;have hq':=hq;simp only at hq';subst hq';have e1:=Yd rq;have e2:=Yd ra;have h':¬(‹Int› :Int)=_:=λhh=>h (by rw[hh]);rw[e2] at hr ⊢;simp only[Instr.findNow,Instr.sameNow,e1,if_true];grind
  ·cases k <;> first|exact hk.elim|skip
   cases q <;> first|exact hq.elim|skip
   have e1:=YP rq;have e2:=YP ra;have h':¬(‹Bool› :Bool)=_:=λhh=>h (by rw[hh]);rw[e2] at hr ⊢;simp only[Instr.findNow,Instr.sameNow,e1];grind
theorem ZxA{P:yg}{σ:Sg}{kt:yb}{k:Pl}{F:yL MapEntry->Nat->yO (Nat×yh)->Prop}(hF:Finder P σ kt k F):∀(kvs:yL (Pl×Pl))(es:yL MapEntry)(i:Nat)(r:yO Pl),Zef σ kvs es->Zj9 P kt kvs->Qg kvs k r->
 (r=none->F es i none)/\∀v,r=some v->∃(j:Nat)(u:yh),F es i (some (j,u))/\yH σ (.p v) u
 |[],[],i,r,_,_,h=>by
  simp only[Qg] at h;subst h
  exact⟨λ_=>hF.nil i,λv hv=>by cases hv⟩
 |[],_::_,_,_,h,_,_=>h.elim
 |_::_,[],_,_,h,_,_=>h.elim
 |q::l,e::es,i,r,⟨r1,r2,r3⟩,hf,h=>by
  have hq:=hf q (ybd ..);simp only[Qg] at h;rcases h with⟨h1,rfl⟩|⟨h1,h2⟩
  ·exact⟨λh=>(by cases h),λv hv=>⟨i,e.val,hF.eq e es i q.1 hq r1 h1,by cases hv;exact r2⟩⟩
  ·obtain⟨a1,a2⟩:=ZxA hF l es (i+1) r r3 (λz hz=>hf z (ybh _ hz)) h2;refine⟨λh=>hF.ne e es i q.1 none hq r1 h1 (a1 h),λv hv=> ?_⟩;obtain⟨j,u,b1,b2⟩:=a2 v hv;exact⟨j,u,hF.ne e es i q.1 _ hq r1 h1 b1,b2⟩
theorem ZrM{P:yg}{σ:Sg}{kt:yb}{k v:Pl}{F:yL MapEntry->Nat->yO (Nat×yh)->Prop}(hF:Finder P σ kt k F):∀(kvs:yL (Pl×Pl))(es:yL MapEntry)(i:Nat)(l:yL (Pl×Pl)),Zef σ kvs es->Zj9 P kt kvs->ZcZ kvs k v l->
 (∃(j:Nat)(e:MapEntry),F es i (some (i+j,e.val))/\es[j]? =some e/\yH σ (.p k) e.key/\∀e',yH σ (.p k) e'.key->yH σ (.p v) e'.val->Zef σ l (es.set j e'))\/
 (F es i none/\∀e',yH σ (.p k) e'.key->yH σ (.p v) e'.val->Zef σ l (es++[e']))
 |[],[],i,l,_,_,h=>by
  simp only[ZcZ] at h;subst h
  exact .inr ⟨hF.nil i,λe' h1 h2=>⟨h1,h2,ytt⟩⟩
 |[],_::_,_,_,h,_,_=>h.elim
 |_::_,[],_,_,h,_,_=>h.elim
 |q::r,e::es,i,l,⟨r1,r2,r3⟩,hf,h=>by
  have hq:=hf q (ybd ..);simp only[ZcZ] at h;rcases h with⟨h1,rfl⟩|⟨h1,l',rfl,h2⟩
  ·exact .inl ⟨0,e,hF.eq e es i q.1 hq r1 h1,rfl,by rw[h1];exact r1,λe' k1 k2=>⟨k1,k2,r3⟩⟩
  ·rcases ZrM hF r es (i+1) l' r3 (λz hz=>hf z (ybh _ hz)) h2 with⟨j,e2,b1,b2,b3,b4⟩|⟨b1,b2⟩
   ·exact .inl ⟨j+1,e2,by have:=hF.ne e es i q.1 _ hq r1 h1 b1;rwa [show i+1+j=i+(j+1) by omega] at this,by simpa using b2,b3,λe' k1 k2=>⟨r1,r2,b4 e' k1 k2⟩⟩
   ·exact .inr ⟨hF.ne e es i q.1 _ hq r1 h1 b1,λe' k1 k2=>⟨r1,r2,b2 e' k1 k2⟩⟩
theorem Zo7{σ:Sg}{es:yL MapEntry}(h:Zj8 σ [] es):Zef σ [] es:=by
 obtain⟨l,p,_,r⟩:=h;simp_all
theorem Zus{σ:Sg}{q:Pl×Pl}{es:yL MapEntry}(h:Zef σ [q] es):Zj8 σ [q] es:=⟨_,.refl _,by simp,h⟩
theorem Zut{k v:Pl}:∀{l:yL (Pl×Pl)},Qg l k (some v)->(k,v)∈l
 |[],h=>by simp[Qg] at h
 |q::r,h=>by
  simp only[Qg] at h;rcases h with⟨rfl,h⟩|⟨_,h⟩
  ·grind
  ·exact ybh _ (Zut h)
theorem ZxB{k:Pl}:∀{l:yL (Pl×Pl)},Qg l k none->∀q,q∈l->q.1≠k
 |[],_,q,hq=>by cases hq
 |x::r,h,q,hq=>by
  simp only[Qg] at h;rcases h with⟨_,h⟩|⟨h1,h⟩
  ·cases h
  ·rcases yci.1 hq with rfl|hq
   ·grind
   ·exact ZxB h q hq
theorem ZxC{k v:Pl}:∀{l:yL (Pl×Pl)},(l.map (·.1)).Nodup->(k,v)∈l->Qg l k (some v)
 |[],_,h=>by cases h
 |q::r,nd,h=>by
  simp only[Qg];rw[yah,List.nodup_cons] at nd;rcases yci.1 h with rfl|h
  ·grind
  ·refine .inr ⟨λe=>nd.1 ?_,ZxC nd.2 h⟩;grind
theorem Zuu{k:Pl}:∀{l:yL (Pl×Pl)},(∀q,q∈l->q.1≠k)->Qg l k none
 |[],_=>by simp[Qg]
 |q::r,h=>by
  simp only[Qg];exact .inr ⟨λe=>h q (ybd ..) e.symm,Zuu λx hx=>h x (ybh _ hx)⟩
theorem ZzL{k:Pl}{r:yO Pl}{l l':yL (Pl×Pl)}(p:l'.Perm l)(nd:(l.map (·.1)).Nodup)(h:Qg l k r):Qg l' k r:=by
 cases r with
 |none=>exact Zuu λq hq=>ZxB h q (p.mem_iff.1 hq)
 |some v=>exact ZxC ((p.map _).nodup_iff.2 nd) (p.mem_iff.2 (Zut h))
section
open Classical
theorem ZzM{k:Pl}:∀{l:yL (Pl×Pl)},(∀q,q∈l->q.1≠k)->(l.filter λq=>decide (q.1≠k))=l:=λh=>List.filter_eq_self.2 λq hq=>yY (h q hq)
theorem Zm5{k v:Pl}:∀{l m:yL (Pl×Pl)},(l.map (·.1)).Nodup->ZcZ l k v m->m.Perm ((k,v)::l.filter λq=>decide (q.1≠k))
 |[],m,_,h=>by
  simp only[ZcZ] at h
  grind
 |q::r,m,nd,h=>by
  rw[yah,List.nodup_cons] at nd;simp only[ZcZ] at h;rcases h with⟨rfl,rfl⟩|⟨h1,l',rfl,h⟩
  ·rw[List.filter_cons_of_neg (by simp),ZzM (λx hx e=>nd.1 (by rw[<-e];exact ycb.2 ⟨_,hx,rfl⟩))]
  ·rw[List.filter_cons_of_pos (by simpa using λe:q.1=k=>h1 e.symm)];exact((Zm5 nd.2 h).cons q).trans (.swap _ _ _)
theorem ZxD(k v:Pl):∀(l:yL (Pl×Pl)),∃m,ZcZ l k v m
 |[]=>⟨_,rfl⟩
 |q::r=>by
  by_cases h:k=q.1
  ·exact⟨_,.inl ⟨h,rfl⟩⟩
  ·obtain⟨m,hm⟩:=ZxD k v r;exact⟨_,.inr ⟨h,m,rfl,hm⟩⟩
theorem ZKB{k:Pl}{l:yL (Pl×Pl)}(nd:(l.map (·.1)).Nodup):((l.filter λq=>decide (q.1≠k)).map (·.1)).Nodup:=nd.sublist ((List.filter_sublist (l:=l)).map _)
theorem ZzN{k v:Pl}{l l' m:yL (Pl×Pl)}(p:l'.Perm l)(nd:(l.map (·.1)).Nodup)(h:ZcZ l k v m):(m.map (·.1)).Nodup/\∃m',ZcZ l' k v m'/\m'.Perm m:=by
 have nd':=(p.map (·.1)).nodup_iff.2 nd;obtain⟨m',hm⟩:=ZxD k v l';have e:=Zm5 nd h;refine⟨(e.map _).nodup_iff.2 ?_,m',hm,(Zm5 nd' hm).trans ((List.Perm.cons _ (p.filter _)).trans e.symm)⟩;grind
end
theorem ZBi{P:yg}{σ:Sg}{kt:yb}{k:Pl}{F:yL MapEntry->Nat->yO (Nat×yh)->Prop}(hF:Finder P σ kt k F)(kvs:yL (Pl×Pl))(es:yL MapEntry)(i:Nat)(r:yO Pl)(h:Zj8 σ kvs es)(hf:Zj9 P kt kvs)(hg:Qg kvs k r):
 (r=none->F es i none)/\∀v,r=some v->∃(j:Nat)(u:yh),F es i (some (j,u))/\yH σ (.p v) u:=by
 obtain⟨l,p,nd,hr⟩:=h;exact ZxA hF l es i r hr (λq hq=>hf q (p.mem_iff.1 hq)) (ZzL p nd hg)
theorem ZHf{P:yg}{σ:Sg}{kt:yb}{k v:Pl}{F:yL MapEntry->Nat->yO (Nat×yh)->Prop}(hF:Finder P σ kt k F)(kvs:yL (Pl×Pl))(es:yL MapEntry)(i:Nat)(l:yL (Pl×Pl))(h:Zj8 σ kvs es)(hf:Zj9 P kt kvs)(hp:ZcZ kvs k v l):
 (∃(j:Nat)(e:MapEntry),F es i (some (i+j,e.val))/\es[j]? =some e/\yH σ (.p k) e.key/\∀e',yH σ (.p k) e'.key->yH σ (.p v) e'.val->Zj8 σ l (es.set j e'))\/
 (F es i none/\∀e',yH σ (.p k) e'.key->yH σ (.p v) e'.val->Zj8 σ l (es++[e'])):=by
 obtain⟨l',p,nd,hr⟩:=h;obtain⟨nd2,m',hm,p2⟩:=ZzN p nd hp;rcases ZrM hF l' es i m' hr (λq hq=>hf q (p.mem_iff.1 hq)) hm with⟨j,e,a1,a2,a3,a4⟩|⟨a1,a2⟩
 ·exact .inl ⟨j,e,a1,a2,a3,λe' h1 h2=>⟨m',p2,nd2,a4 e' h1 h2⟩⟩
 ·exact .inr ⟨a1,λe' h1 h2=>⟨m',p2,nd2,a2 e' h1 h2⟩⟩
theorem Zgm{P:yg}{σ:Sg}{kt:yb}{k:Pl}{a:yh}(hkt:keyTy P kt=true)(hk:fitP P 20 kt k)(ra:yH σ (.p k) a):
 ∃F,Finder P σ kt k F/\∀es r,F es 0 r->(Instr.findKey kt a es).run P σ.w=.ok r σ.w:=by
 unfold keyTy at hkt;split at hkt
 ·rename_i q hu;exact⟨_,ZrL hu (.inl ⟨_,rfl⟩) hk ra,λes r h=>Go.MapKept.run_findKey hu h⟩
 ·rename_i hu;exact⟨_,ZrL hu (.inr rfl) hk ra,λes r h=>Go.MapKept.run_findKey hu h⟩
 ·rename_i n e hu;exact⟨_,ZrK hk ra,λes r h=>by rw[run_findKey_eq σ.w (by rw[hu])];exact h⟩
 ·rename_i fs hu;exact⟨_,ZrK hk ra,λes r h=>by rw[run_findKey_eq σ.w (by rw[hu])];exact h⟩
 ·cases hkt
theorem Zo8{σ:Sg}{id:Nat}{v:yh}(h:yH σ (.mp id) v):∃b,σ.m[id]? =some (some b)/\v=.map (some b):=by
 rw[Zi rfl] at h;simp only[yG] at h;obtain⟨b,h1,_,h2⟩:=h;exact⟨b,h1,by simpa using h2⟩
theorem ZlZ{σ:Sg}:∀(l:yL (Pl×Pl))(es:yL MapEntry),Zef σ l es->es.length=l.length
 |[],[],_=>rfl
 |[],_::_,h=>h.elim
 |_::_,[],h=>h.elim
 |_::l,_::es,h=>by rw[yao,yao,ZlZ l es h.2.2]
theorem ZEp{es:Array MapEntry}{clock:Nat}(h:Zm0 es clock)(j:Nat){f:MapEntry->MapEntry}(hf:∀e,(f e).born=e.born):Zm0 (es.modify j f) clock:=by
 have key:∀(q:Nat)en,(es.modify j f)[q]? =some en->∃en0,es[q]? =some en0/\en.born=en0.born:=by
  intro q en hq;rw[Array.getElem?_modify] at hq;split at hq
  ·obtain⟨e0,h1,h2⟩:=yu.1 hq;exact⟨e0,h1,by rw[<-h2,hf]⟩
  ·exact⟨en,hq,rfl⟩
 refine⟨λq en hq=> ?_,λq q' en en' hq hq' he=> ?_⟩
 ·obtain⟨e0,h1,h2⟩:=key q en hq;rw[h2];exact h.1 q e0 h1
 ·obtain⟨e0,h1,h2⟩:=key q en hq;obtain⟨e1,h3,h4⟩:=key q' en' hq';exact h.2 q q' e0 e1 h1 h3 (by rw[<-h2, <-h4,he])
theorem Zo9{es:Array MapEntry}{clock:Nat}(h:Zm0 es clock){e:MapEntry}(he:e.born=clock):Zm0 (es.push e) (clock+1):=by
 have key:∀(q:Nat)en,(es.push e)[q]? =some en->(es[q]? =some en/\en.born < clock)\/(q=es.size/\en.born=clock):=by
  intro q en hq;rw[Array.getElem?_push] at hq;split at hq
  ·rename_i h0;cases hq;exact .inr ⟨h0,he⟩
  ·exact .inl ⟨hq,h.1 q en hq⟩
 refine⟨λq en hq=> ?_,λq q' en en' hq hq' hb=> ?_⟩
 ·rcases key q en hq with⟨_,h1⟩|⟨_,h1⟩ <;> omega
 ·rcases key q en hq with⟨h1,h2⟩|⟨h1,h2⟩ <;> rcases key q' en' hq' with⟨h3,h4⟩|⟨h3,h4⟩
  ·exact h.2 q q' en en' h1 h3 hb
  ·omega
  ·omega
  ·omega
theorem VU{P:yg}{w:yz}{b:Nat}{es:Array MapEntry}{clock:Nat}(h:w.heap[b]? =some (.map es clock)):(getObj b).run P w=.ok (.map es clock) w:=Go.MapKept.run_getObj_map h
section
variable{P:yg}{o:ym}{a:Act}{σ:Sg}{ts:yL Dv}{hs hs':yL Hint}{C:yL Prop}{d:Dv}{H':yL Ent}
theorem Zuv{σ:Sg}{x y:Dv}{u v:yh}(h1:yH σ x u)(h2:yH σ y v):yH σ (.tup [x,y]) (.tuple #[u,v]):=by
 rw[Zi rfl];simp only[yG];exact⟨#[u,v],rfl,by simp only[repVs];exact⟨u,[v],rfl,h1,v,[],rfl,h2,rfl⟩⟩
theorem ZEq(ok:Ok σ)(yK:RepT σ ts a){t:yb}{x ix:yn}{comma:Bool}(ho:o.op=.lookup t x ix comma)(h:evR P o ts σ.H hs=some (C,d,hs'))(hc:AllP C):Wd P o a σ d σ.H:=by
 simp only[evR,ho] at h;have hx:=Zq (P:=P) yK t x;split at h
 ·rename_i kt et id hu hxa;rw[hxa] at hx;obtain⟨b,hm,hv⟩:=Zo8 hx;have hix:=Zq (P:=P) yK kt ix;split at h
  ·rename_i k t' kvs v hs1 hk hH;rw[hk] at hix;obtain⟨b',es,clock,h1,h2,h3,h3b⟩:=ok.ent id _ _ hH hm;cases h1;split at h
   ·rename_i hkt;cases h;obtain⟨c1,c2,c3,_⟩:=hc;obtain⟨F,hF,zO⟩:=Zgm (P:=P) hkt c1 hix;obtain⟨_,g2⟩:=ZBi hF kvs es.toList 0 _ h3 c2 c3;obtain⟨j,u,g3,g4⟩:=g2 v rfl;have g5:=zO _ _ g3;have g6:=Qn (em:=es.isEmpty) 20 kt k _ c1 hix 9980
    have hrunL:(Instr.lookup t (a.eval x) (a.eval ix) comma).run P σ.w=.ok (if comma then .tuple #[u,.bool true] else u) σ.w:=by
     simp only[Instr.lookup,Sem.run_bind,run_underlying hu,Result.andThen_ok,hv,VU h2,Sem.run_pure,g6,g5]
    refine Zn ok (by simp[execOp,ho,hrunL];rfl) ?_;cases comma
    ·exact g4
    ·exact Zuv g4 (YH _)
   ·cases h
  ·rename_i k t' kvs hs1 hk hH;rw[hk] at hix;obtain⟨b',es,clock,h1,h2,h3,h3b⟩:=ok.ent id _ _ hH hm;cases h1;split at h
   ·rename_i hkt;simp only[yi] at hkt;cases h;obtain⟨c1,c2,c3,_⟩:=hc;obtain⟨F,hF,zO⟩:=Zgm (P:=P) hkt.1 c1 hix;obtain⟨g1,_⟩:=ZBi hF kvs es.toList 0 _ h3 c2 c3;have g5:=zO _ _ (g1 rfl);have g6:=Qn (em:=es.isEmpty) 20 kt k _ c1 hix 9980
    obtain⟨hz,hkt2⟩:∃z,(zeroValue et).run P σ.w=.ok z σ.w/\yH σ (zeroD P et) z:=by
     have h9:=hkt.2;unfold hasZero at h9;split at h9
     ·rename_i i hi
      cases hzz:i.zero with
      |none=>simp[hzz] at h9
      |some z=>
       refine⟨z,by simp[zeroValue,typeInfo,hi,hzz], ?_⟩;unfold zeroD;rw[hi];simp only[hzz];exact Zaa
     ·cases h9
    have hrunL:(Instr.lookup t (a.eval x) (a.eval ix) comma).run P σ.w=.ok (if comma then .tuple #[hz,.bool false] else hz) σ.w:=by
     simp only[Instr.lookup,Sem.run_bind,run_underlying hu,Result.andThen_ok,hv,VU h2,Sem.run_pure,g6,g5,hkt2.1]
    refine Zn ok (by simp[execOp,ho,hrunL];rfl) ?_;cases comma
    ·exact hkt2.2
    ·exact Zuv hkt2.2 (YH _)
   ·cases h
  ·cases h
 ·cases h
theorem ZEr(ok:Ok σ)(yK:RepT σ ts a){c:Call}(ho:o.op=.call c)(yR:c.callee=.builtin .len)(h:evR P o ts σ.H hs=some (C,d,hs'))(hc:AllP C):Wd P o a σ d σ.H:=by
 simp only[evR,ho,yR] at h;split at h
 ·rename_i x t yQ htys;have hx:=Zq (P:=P) yK t x;split at h
  ·rename_i kt et id hu hxa;rw[hxa] at hx;obtain⟨b,hm,hv⟩:=Zo8 hx;split at h
   ·rename_i t' kvs hH;obtain⟨b',es,clock,h1,h2,h3,h3b⟩:=ok.ent id _ _ hH hm;cases h1;cases h
    have hl:es.toList.length=kvs.length:=by
     obtain⟨l',p,_,hr⟩:=h3;rw[ZlZ _ _ hr,p.length_eq]
    refine Zn ok (Zgg ho yR yQ htys (v:=goInt es.size) (by rw[hv];simp[Builtin.len_,run_underlying hu,VU h2])) ?_;rw[<-ybo,hl];exact ZG _ _
   ·cases h
  ·cases h
 ·cases h
theorem ZCY(ok:Ok σ){t:yb}(ho:o.op=.makeMap t none):Wd P o a σ (.mp σ.H.length) (σ.H++[.map t []]):=by
 let σ':Sg:={ σ with m:=σ.m++[some σ.w.heap.size],H:=σ.H++[.map t []],w:=σ.w.alloc (.map #[] 0)};have zU:σ'.w.heap[σ.w.heap.size]? =some (.map #[] 0):=heap_alloc_new σ.w _
 have hmlast:σ'.m[σ.H.length]? =some (some σ.w.heap.size):=by
  show(σ.m++[some σ.w.heap.size])[σ.H.length]? =_;rw[yat (by rw[ok.len];exact yl _),ok.len];simp
 obtain⟨to,ok'⟩:=V0 (σ':=σ') ok rfl rfl rfl rfl (World.grownBy_alloc σ.w (.map #[] 0) none) (.inr ⟨_,rfl,yl _,by simp[σ']⟩)
  (λleaf=>⟨σ.w.heap.size, #[],0,rfl,zU,⟨[],.refl _,List.nodup_nil,ytt⟩,by simp[Zm0]⟩)
 refine ZX (σ':=σ') (v:=.map (some σ.w.heap.size)) ?_ to ok' ?_
 ·have:(Instr.makeMap t none).run P σ.w=.ok (.map (some σ.w.heap.size)) (σ.w.alloc (.map #[] 0)):=rfl;simp[execOp,ho,this,σ']
 ·rw[Zi rfl];simp only[yG];exact⟨_,hmlast,⟨t,[],by simp[σ']⟩,rfl⟩
theorem Zl0(ok:Ok σ){id b:Nat}{t:yb}{kvs l:yL (Pl×Pl)}{es es':Array MapEntry}{clock clock':Nat}(hH:σ.H[id]? =some (.map t kvs))(hm:σ.m[id]? =some (some b))(hb:σ.w.heap[b]? =some (.map es clock))
 (hl:Zj8 σ l es'.toList) (hbo:Zm0 es' clock'):
 let σ':Sg:={ σ with m:=σ.m.set id (some b),H:=σ.H.set id (.map t l),w:={ σ.w with heap:=σ.w.heap.setIfInBounds b (.map es' clock')}}
 To σ σ'/\Ok σ':=by
 intro σ';obtain⟨g1,g2⟩:=Go.MapKept.heap_set (w:=σ.w) (o':=.map es' clock') hb
 exact XR (σ':=σ') (mi:=some b) (mi':=some b) ok hH hm rfl rfl rfl rfl rfl rfl rfl (by simp[σ'])
  (λj hj hne=>g2 j (λhh=>hne (by rw[hh]))) (λb' o v hb' hu hc=>by
    cases hb';simp[World.cell?,hb] at hc) (λo _ hu=>by cases hu) (.inl rfl) (λ⟨d,st,h⟩=>by cases h) (λ_=>⟨rfl,t,l,rfl⟩)
  (λs e xs h=>by cases h) (λleaf=>⟨b,es',clock',rfl,g1,Zrr leaf hl,hbo⟩)
theorem ZxE(ok:Ok σ)(yK:RepT σ ts a){t kt et:yb}{m k x:yn}{id:Nat}{t':yb}{kk v:Pl}{kvs l:yL (Pl×Pl)}(ho:o.op=.mapUpdate t m k x)(hu:P.underlying t=some (.map kt et))
 (hx:argD P ts t m=.mp id) (hk:argD P ts kt k=.p kk) (hv:(argD P ts et x).flat=some v) (hH:σ.H[id]? =some (.map t' kvs)) (hkt:keyTy P kt=true) (c1:fitP P 20 kt kk) (c2:Zj9 P kt kvs) (c3:ZcZ kvs kk v.soft l):
 Wd P o a σ .junk (σ.H.set id (.map t' l)):=by
 have hxv:=Zq (P:=P) yK t m;rw[hx] at hxv;obtain⟨b,hm,hmv⟩:=Zo8 hxv;have hkv:=Zq (P:=P) yK kt k;rw[hk] at hkv;have hvv:=(Wk.p (Zjj v)).dv (Zrk hv (Zq (P:=P) yK et x));obtain⟨b',es,clock,h1,h2,h3,h3b⟩:=ok.ent id _ _ hH hm;cases h1;obtain⟨F,hF,zO⟩:=Zgm (P:=P) hkt c1 hkv;have g6:=Qn (em:=false) 20 kt kk _ c1 hkv 9980;rcases ZHf hF kvs es.toList 0 l h3 c2 c3 with⟨j,e,f1,f2,f3,f4⟩|⟨f1,f2⟩
 ·have g5:=zO _ _ f1;rw[yay] at g5;have he:es[j]? =some e:=by rw[<-ycd];exact f2
  have hsame:e.key=a.eval k:=Zm4 (Zgl 20 kt kk c1) f3 hkv
  have hbits:Instr.sameBits 10000 e.key (a.eval k)=true:=by
   rw[hsame];exact Zup (Zgl 20 kt kk c1) hkv
  have hes:(es.modify j λe=>{ e with key:=a.eval k,val:=a.eval x}).toList=es.toList.set j { e with key:=a.eval k,val:=a.eval x}:=by
   apply ybk;intro i;rw[ycd,Array.getElem?_modify,ybq,ycd];by_cases hij:j=i
   ·subst hij;have hlt:j < es.toList.length:=by simpa using(yda.1 he).1
    simp[he,hlt];exact(yda.1 he).1
   ·simp[hij]
  obtain⟨to,ok'⟩:=Zl0 (es':=es.modify j λe=>{ e with key:=a.eval k,val:=a.eval x}) (clock':=clock) ok hH hm h2 (l:=l) (by rw[hes];exact f4 _ hkv hvv) (ZEp h3b j λe=>rfl);refine ZlX ?_ to ok';simp only[execOp,ho,hmv,Instr.mapUpdate,Sem.run_bind,run_underlying hu,Result.andThen_ok,VU h2,g6,g5,Instr.keyThatStays,he,yaf,Option.getD_some,hbits,if_true,Sem.run_pure,Go.MapKept.run_setObj_map _ h2]
 ·have g5:=zO _ _ f1;obtain⟨to,ok'⟩:=Zl0 (es':=es.push { key:=a.eval k,val:=a.eval x,born:=clock}) (clock':=clock+1) ok hH hm h2 (l:=l) (by rw[Array.toList_push];exact f2 _ hkv hvv) (Zo9 h3b rfl);refine ZlX ?_ to ok';simp only[execOp,ho,hmv,Instr.mapUpdate,Sem.run_bind,run_underlying hu,Result.andThen_ok,VU h2,g6,g5,Sem.run_pure,Go.MapKept.run_setObj_map _ h2]
end
end Go.Ev
end
section
namespace Go.Ev
section
variable{P:yg}{o:ym}{a:Act}{σ:Sg}{ts:yL Dv}{hs hs':yL Hint}{C:yL Prop}{d:Dv}{H':yL Ent}
theorem ZmC{P:yg}{w:yz}{t e:yb}{i:TypeInfo}{z:yh}{n n':Int}(hu:P.underlying t=some (.slice e))(hi:P.info? e=some i)(hz:i.zero=some z)(h0:0<=n)(h1:n<=n')(h2:n'.toNat*i.bytes<=bytesBound)(h3:n'.toNat<=maxLen):
 ∃cells:Array yh,(Instr.makeSlice t (.int .i64 n) (.int .i64 n')).run P w=.ok (.slice (some ⟨w.heap.size,0,none⟩) n.toNat n'.toNat) (w.alloc (.cells cells e))/\cells.size=n'.toNat*i.size/\
  (i.size=1->∀k,k < n'.toNat->cells[k]? =some (z.cells[k % z.cells.size]!)):=by
 have hw:∀m:Int,0<=m->m.toNat<=maxLen->IntKind.i64.wrap m=m:=λm a b=>by
  refine Zbo ?_;simp[maxLen] at b;simp[Qk,IntKind.min,IntKind.max,IntKind.signed,IntKind.bits];omega
 have hw1:=hw n h0 (by omega);have hw2:=hw n' (by omega) h3
 have hb:¬((281474976710656:Int) < (i.bytes:Int)*n'):=by
  have e:(i.bytes:Int)*n'=((n'.toNat*i.bytes:Nat):Int):=by
   rw[Int.natCast_mul,Int.toNat_of_nonneg (by omega),Int.mul_comm]
  rw[e];simp only[bytesBound] at h2;omega
 have hr:¬(n'.toNat*i.bytes > roomBytes):=by
  simp only[bytesBound] at h2;simp only[roomBytes];omega
 by_cases hn:n'.toNat*i.size=0
 ·refine⟨(Array.range (n'.toNat*i.size)).map λ_=>default, ?_,by simp,λe k hk=> ?_⟩
  ·simp[Instr.makeSlice,run_underlying hu,asInt,asIntOf,typeInfo,hi,hw1,hw2,askRoom,hr,sizeOf,hn,newRow,h0,show¬n' < 0 by omega,show¬n < 0 by omega,show¬n' < n by omega,hb]
  ·rw[e,Nat.mul_one] at hn;omega
 ·refine⟨(Array.range (n'.toNat*i.size)).map (z.cells[· % z.cells.size]!), ?_,by simp,λe k hk=> ?_⟩
  ·simp[Instr.makeSlice,run_underlying hu,asInt,asIntOf,typeInfo,hi,hw1,hw2,askRoom,hr,sizeOf,hn,newRow,h0,show¬n' < 0 by omega,show¬n < 0 by omega,show¬n' < n by omega,hb,zeroValue,hz]
  ·simp[e,hk]
theorem ZCZ(ok:Ok σ){t e:yb}{l c:yn}{i:TypeInfo}{n n':Int}(yK:RepT σ ts a)(ho:o.op=.makeSlice t l c)(hu:P.underlying t=some (.slice e))(hl:argD P ts 0 l=.p (.int .i64 n))(hcp:argD P ts 0 c=.p (.int .i64 n'))
 (hi:P.info? e=some i) (hz:zOk i=true) (hs0:i.size≠0) (h0:n=0) (h1:0<=n') (h2:n'.toNat*i.bytes<=bytesBound) (h3:n'.toNat<=maxLen):
 Wd P o a σ (.own σ.H.length (some true) i.size []) (σ.H++[.log i.size e []]):=by
 subst h0;obtain⟨z,hzz,hzs⟩:=Zb8 hz;obtain⟨cells,zO,hcs,_⟩:=ZmC (w:=σ.w) (t:=t) hu hi hzz (Int.le_refl 0) h1 h2 h3;have hlv:=Yd (hl ▸ Zq (P:=P) yK 0 l);have hcv:=Yd (hcp ▸ Zq (P:=P) yK 0 c);let σ':Sg:={ σ with m:=σ.m++[some σ.w.heap.size],H:=σ.H++[.log i.size e []],w:=σ.w.alloc (.cells cells e)};have zU:σ'.w.heap[σ.w.heap.size]? =some (.cells cells e (0,0)):=heap_alloc_new σ.w _
 have hmlast:σ'.m[σ.H.length]? =some (some σ.w.heap.size):=by
  show(σ.m++[some σ.w.heap.size])[σ.H.length]? =_;rw[yat (by rw[ok.len];exact yl _),ok.len];simp
 obtain⟨to,ok'⟩:=V0 (σ':=σ') ok rfl rfl rfl rfl (World.grownBy_alloc σ.w (.cells cells e) none) (.inr ⟨_,rfl,yl _,by simp[σ']⟩)
  (λleaf=>.inr ⟨σ.w.heap.size,cells,n'.toNat,rfl,zU,hcs,Nat.zero_le _,h3,λ_ hx=>(by cases hx),by simp[repCs]⟩)
 refine ZX (σ':=σ') (v:=.slice (some ⟨σ.w.heap.size,0,none⟩) 0 n'.toNat) ?_ to ok' ?_
 ·have hrun':=zO;simp only[Int.toNat_zero] at hrun';simp[execOp,ho,hlv,hcv,hrun',σ']
 ·rw[Zi rfl];simp only[yG];refine⟨λ_ hx=>(by cases hx),some ⟨σ.w.heap.size,0,none⟩,n'.toNat,rfl,Nat.zero_le _,h3, ?_,(λh=>by cases h),λh=>absurd rfl h,e,[],by simp[σ'],yl _,λ_=>.inr ?_⟩
  ·simp[ZqF]
  ·exact⟨σ.w.heap.size,cells,hmlast,rfl,zU,hcs⟩
theorem ZBj(ok:Ok σ)(yK:RepT σ ts a){t:yb}{x:yn}(ho:∀w,(execOp a.eval o).run P w=.ok (.value (a.eval x)) w)(h:Zf9 (argD P ts t x) σ.H hs=some (C,d,H',hs'))(hc:AllP C):Wd P o a σ d H':=by
 have hxv:=Zq (P:=P) yK t x;unfold Zf9 at h;split at h
 ·rename_i id off yM s lo n hx;rw[hx] at hxv;obtain⟨b,c,A,hm,hv,hve,hcap,hcm,hA⟩:=Zit hxv;split at h
  ·rename_i dd st hH;split at h
   ·rename_i C1 off' n' s' xs hs1 hg;split at h
    ·rename_i hs0;subst hs0;cases h;obtain⟨c1,c2,c3,_⟩:=Zk.1 hc;obtain⟨cs,t',p1,p2,p3,h2,h4,h5,h6,h7,h3,h8⟩:=ZnK ok hm hH hg c1 c2;simp only[yG,repC] at h7;obtain⟨h9,h10,h11⟩:=h7;subst h9;let σ':Sg:={ σ with m:=σ.m.set id (some b),H:=σ.H.set id (.var dd false)};have hmset:σ'.m[id]? =some (some b):=getElem?_set_eq' hm;have hHset:σ'.H[id]? =some (.var dd false):=getElem?_set_eq' hH
     obtain⟨to,ok'⟩:=XR (σ':=σ') (mi:=some b) (mi':=some b) ok hH hm rfl rfl rfl rfl rfl rfl rfl (yl _)
      (λ_ _ _=>rfl) (λ_ _ _ _ _ h=>h) (λo _ hu=>rfl) (.inl rfl) (λ_=>⟨rfl,dd,false,rfl⟩) (λ⟨d,st,h⟩=>by cases h)
      (λs e xs h=>by cases h) (λleaf=>⟨b,cs,t',rfl,h2,Yk leaf dd _ h3,h4⟩)
     have hcells:Vt σ'.w σ'.stab b off p2:=λj u hu=>by
      refine⟨h8 j u hu,.inr (ok.own id b hm),λj' e' g1 g2=> ?_⟩;have:j'=id:=ok'.inj j' id _ g1 hmset;subst this;rw[hHset] at g2;cases g2;rfl
     have h11':=repCs_mono to.leaf.cells _ _ h11
     have hsplit:xs=xs.take lo++((xs.drop lo).take n++xs.drop (lo+n)):=by
      have e1:xs.drop (lo+n)=(xs.drop lo).drop n:=by rw[List.drop_drop]
      rw[e1,ybl,ybl]
     have zB:((xs.drop lo).take n).length=n:=by rw[yv,ybf];omega
     have hsub:allSz s' ((xs.drop lo).take n):=λz hz=>h10 z (ydd (ycg hz));have hr2:=ZX (P:=P) (o:=o) (a:=a) (σ:=σ) (σ':=σ') (v:=a.eval x) (d:=.p (.sl (some true) s' ((xs.drop lo).take n))) (ho σ.w) to ok';refine hr2 ?_;rw[hve]
     have hmk:=YM (σ:=σ') (nn:=some true) (A:=some A) (c:=c) hsub (by rw[zB];exact hcap) hcm (Zdy rfl) (λh=>by cases h) (λhne=>by
      have hn:0 < n:=by
       rcases yco n with h0|h0
       ·subst h0;simp at hne
       ·exact h0
      rw[hsplit] at h11';obtain⟨q1,q23,e1,r1,r23⟩:=YN h11';obtain⟨q2,q3,e2,r2,r3⟩:=YN r23
      have l1:q1.length=lo*s':=by
       rw[repCs_size _ _ r1,sizes_all (λz hz=>h10 z (ycg hz)),yv,ybg (by omega)]
      refine⟨b,off+lo*s',q2,by rw[hA hn],r2,λj u hu=> ?_⟩
      have hj:p2[lo*s'+j]? =some u:=by
       rw[e1,yat (by omega),l1,Nat.add_sub_cancel_left,e2,yba (yo.1 hu).1];exact hu
      have:=hcells (lo*s'+j) u hj
      rwa [<-ych] at this)
     rw[zB] at hmk;exact hmk
    ·cases h
   ·cases h
  ·cases h
 ·rename_i id v s lo n hx;rw[hx] at hxv;split at h
  ·rename_i v' s' st e N s'' xs hH;split at h
   ·rename_i hk;simp only[yi,yP,yT] at hk;obtain⟨⟨rfl,rfl⟩,hv⟩:=hk;subst hv;cases h;obtain⟨A,c,hve,hcap,hcm,hA,hsy,ly,q,hr,lq,hq⟩:=Zq0 ok hxv hH rfl hc.1;have hidlt:id < σ.m.length:=by rw[ok.len];exact(yo.1 hH).1
    have hmi:σ.m[id]? =some σ.m[id]:=yad hidlt;let σ':Sg:={ σ with m:=σ.m.set id σ.m[id],H:=σ.H.set id (.row v' s'' false e (.p (.arr N s'' xs)))};have hmset:σ'.m[id]? =some σ.m[id]:=getElem?_set_eq' hmi;have hHset:σ'.H[id]? =some (.row v' s'' false e (.p (.arr N s'' xs))):=getElem?_set_eq' hH
    obtain⟨to,ok'⟩:=XR (σ':=σ') (mi:=σ.m[id]) (mi':=σ.m[id]) ok hH hmi rfl rfl rfl rfl rfl rfl rfl (yl _)
     (λ_ _ _=>rfl) (λ_ _ _ _ _ h=>h) (λo _ hu=>⟨rfl,hu.2⟩) (.inl rfl) (λ⟨d,st,h⟩=>by cases h) (λ⟨d,st,h⟩=>by cases h)
     (λs e xs h=>by cases h) (λleaf=>by
       obtain⟨N',h1,h2⟩:=ok.ent id _ _ hH hmi;refine⟨N',h1, ?_⟩;rcases h2 with h2|⟨b,cur,cap,g1,g2,g3,g4,g5,g6⟩
       ·exact .inl h2
       ·exact .inr ⟨b,cur,cap,g1,g2,g3,g4,g5,Yk leaf _ _ g6⟩)
     (λv s st e d h=>by cases h;exact⟨v',false,_,rfl,yl _,λ_=>⟨rfl,λb cur _ hb=>⟨cur,hb,rfl⟩⟩⟩)
    refine ZX (P:=P) (o:=o) (a:=a) (σ:=σ) (σ':=σ') (v:=a.eval x) (d:=.p (.sl none s'' ((xs.drop lo).take n))) (ho σ.w) to ok' ?_;rw[hve]
    have hmk:=YM (σ:=σ') (nn:=none) (A:=A) (c:=c) hsy (by rw[ly];exact hcap) hcm (Yp _) hA (λhne=>by
     have hn:0 < n:=by
      rcases yco n with h0|h0
      ·subst h0;simp at hne
      ·exact h0
     obtain⟨b,cur,cap,rfl,hm,hb,hcs,hcell⟩:=hq hn;refine⟨b,_,q,rfl,repCs_mono to.leaf.cells _ _ hr,λj u hu=>⟨hcell j u hu,.inr (ok.own id b hm),λj' e' g1 g2=> ?_⟩⟩;have:j'=id:=ok'.inj j' id b g1 (by rw[hmset, <-hmi];exact hm);subst this;rw[hHset] at g2;cases g2;refine⟨rfl,N,yW rfl, ?_⟩;have h1:=(yo.1 hu).1;have h2:(lo+n)*s''<=N*s'':=ybp _ hc.1;rw[lq] at h1;rw[yaz] at h2;omega)
    rw[ly] at hmk;exact hmk
   ·cases h
  ·cases h
 ·cases h
end
end Go.Ev
end
section
namespace Go.Ev
theorem Zl1{σ:Sg}{x y:Dv}(hxy:∀a,yG σ x a->yG σ y a):∀(fs:yL Dv)(k:Nat)(us:yL yh),fs[k]? =some x->repDs σ fs us->repDs σ (fs.set k y) us
 |[],_,_,h,_=>by simp at h
 |z::fs,0,us,h,hr=>by
  simp only[ybx,yq] at h;subst h;simp only[repDs,List.set_cons_zero] at hr ⊢
  grind
 |z::fs,k+1,us,h,hr=>by
  simp only[ybb] at h;simp only[repDs,List.set_cons_succ] at hr ⊢;obtain⟨a,b,h1,h2,h3⟩:=hr;exact⟨a,b,h1,h2,Zl1 hxy fs k b h h3⟩
theorem ZkV{fs:yL Dv}{k:Nat}{x y:Dv}(h:fs[k]? =some x)(hs:y.size=x.size):Dv.sizes (fs.set k y)=Dv.sizes fs:=by
 induction fs generalizing k with
 |nil=>simp at h
 |cons z fs ih=>
  cases k with
  |zero=>
   simp only[ybx,yq] at h;subst h
   simp only[List.set_cons_zero,Dv.sizes,hs]
  |succ k=>
   simp only[ybb] at h;simp only[List.set_cons_succ,Dv.sizes,ih h]
theorem ZxF:∀(xs:yL Pl),Dv.sizes (xs.map .p)=Pl.sizes xs
 |[]=>rfl
 |x::xs=>by simp only[yah,Dv.sizes,Pl.sizes,ZxF xs];rfl
theorem ZpW{d d':Dv}{s:Nat}{new:Dv}(h:We d [] s new=some d'):d=.p (.sl (some false) s [])/\d'=new:=by
 unfold We at h
 all_goals grind
theorem ZnN{d d':Dv}{i:Nat}{r:yL Nat}{s:Nat}{new:Dv}(h:We d (i::r) s new=some d'):
 (∃xs x y,d=.p (.agg xs)/\xs[i]? =some x/\We (.p x) r s new=some y/\d'=.agg ((xs.map Dv.p).set i y))\/∃xs x y,d=.agg xs/\xs[i]? =some x/\We x r s new=some y/\d'=.agg (xs.set i y):=by
 cases d with
 |p q=>
  cases q with
  |agg xs=>
   simp only[We] at h
   cases hx:xs[i]? with
   |none=>simp[hx] at h
   |some x=>
    simp only[hx] at h;obtain⟨y,hy,rfl⟩:=yu.1 h
    exact .inl ⟨xs,x,y,rfl,hx,hy,rfl⟩
  |_=>simp[We] at h
 |agg xs=>
  simp only[We] at h
  cases hx:xs[i]? with
  |none=>simp[hx] at h
  |some x=>
   simp only[hx] at h;obtain⟨y,hy,rfl⟩:=yu.1 h
   exact .inr ⟨xs,x,y,rfl,hx,hy,rfl⟩
 |_=>simp[We] at h
theorem Zb9:∀(yM:yL Nat)(d d':Dv)(s:Nat)(new:Dv),new.size=1->We d yM s new=some d'->d'.size=d.size
 |[],d,d',s,new,hn,h=>by
  obtain⟨rfl,rfl⟩:=ZpW h;rw[hn]
  rfl
 |i::r,d,d',s,new,hn,h=>by
  rcases ZnN h with⟨xs,x,y,rfl,hx,hy,rfl⟩|⟨xs,x,y,rfl,hx,hy,rfl⟩
  ·have:=Zb9 r (.p x) y s new hn hy;have hx':(xs.map Dv.p)[i]? =some (.p x):=by rw[yal,hx];rfl
   simp only[Dv.size];rw[ZkV hx' this,ZxF];rfl
  ·simp only[Dv.size];exact ZkV hx (Zb9 r x y s new hn hy)
theorem Zej{σ:Sg}:∀(yM:yL Nat)(d d':Dv)(s:Nat)(new:Dv),(∀a,yG σ (.p (.sl (some false) s [])) a->yG σ new a)->We d yM s new=some d'->∀us,yG σ d us->yG σ d' us
 |[],d,d',s,new,hn,h,us,hr=>by
  obtain⟨rfl,rfl⟩:=ZpW h
  exact hn us hr
 |i::r,d,d',s,new,hn,h,us,hr=>by
  rcases ZnN h with⟨xs,x,y,rfl,hx,hy,rfl⟩|⟨xs,x,y,rfl,hx,hy,rfl⟩
  ·have hx':(xs.map Dv.p)[i]? =some (.p x):=by rw[yal,hx];rfl
   simp only[yG,repC] at hr ⊢;exact Zl1 (Zej r (.p x) y s new hn hy) _ i us hx' (Zho.2 hr)
  ·simp only[yG] at hr ⊢;exact Zl1 (Zej r x y s new hn hy) _ i us hx hr
theorem ZzO{σ:Sg}(ok:Ok σ){j s:Nat}{e:yb}{d d':Dv}{st:Bool}{yM:yL Nat}(hj:σ.H[j]? =some (.var d st))(hg:We d yM s (.own σ.H.length none s [])=some d'):
 ∃σ2:Sg,σ2.H=(σ.H++[Ent.log s e []]).set j (.var d' st)/\σ2.w=σ.w/\To σ σ2/\Ok σ2:=by
 obtain⟨to1,ok1⟩:=V0 (σ':={ σ with m:=σ.m++[none],H:=σ.H++[.log s e []]}) ok rfl rfl rfl rfl (World.grownBy.refl σ.w none) (.inl rfl) (λ_=>.inl ⟨rfl,rfl⟩);have hjl:j < σ.H.length:=(yo.1 hj).1
 obtain⟨mi,hm⟩:∃mi,σ.m[j]? =some mi:=by
  have:j < σ.m.length:=by rw[ok.len];exact hjl
  simp_all
 obtain⟨b,cs,t,rfl,q2,q3,q4⟩:=ok.ent j _ _ hj hm;let σ1:Sg:={ σ with m:=σ.m++[none],H:=σ.H++[.log s e []]};let σ2:Sg:={ σ1 with m:=σ1.m.set j (some b),H:=σ1.H.set j (.var d' st)}
 have hH1:σ1.H[j]? =some (.var d st):=by
  grind
 have hm1:σ1.m[j]? =some (some b):=by
  grind
 have hsz:=Zb9 yM d d' s _ rfl hg
 obtain⟨to2,ok2⟩:=XR (σ':=σ2) (mi:=some b) (mi':=some b) ok1 hH1 hm1 rfl rfl rfl rfl rfl rfl rfl (yl _)
  (λ_ _ _=>rfl) (λ_ _ _ _ _ h=>h) (λo _ hu=>hu) (.inl rfl) (λ_=>⟨rfl,_,_,rfl⟩) (λ⟨_,_,hh⟩=>by cases hh) (λ_ _ _ hh=>by cases hh)
  (λleaf=>by
    refine⟨b,cs,t,rfl,q2, ?_,by rw[hsz];exact q4⟩;rw[hsz];refine Zej yM d d' s _ (λa ha=> ?_) hg _ (Yk (to1.leaf.trans leaf) _ _ q3);simp only[yG,repC] at ha ⊢;obtain⟨_,A,c,rfl,w1,w2,w3,w4,w5⟩:=ha
    have hA:A=none:=by
     have:=w3 false rfl;simp_all
    subst hA;have hc:=w4 rfl;subst hc;refine⟨λ_ hx=>(by cases hx),none,0,rfl,yl _,by simp[maxLen],Yp _,λ_=>rfl,λh=>absurd rfl h,e,[], ?_,yl _,λ_=>.inl ⟨?_,rfl,rfl⟩⟩
    ·show(σ1.H.set j _)[σ.H.length]? =_;rw[ybq,yX (by omega)];simp[σ1]
    ·show(σ1.m.set j _)[σ.H.length]? =_;rw[ybq,yX (by omega)];show(σ.m++[none])[σ.H.length]? =_;rw[yat (by rw[ok.len];exact yl _),ok.len];simp)
 exact⟨σ2,rfl,rfl,to1.trans to2,ok2⟩
theorem Zjq:∀(hs:yL Hint)(d:Dv)(H0 L:yL Ent){σ:Sg},Ok σ->σ.H=H0++.var d true::L->∃σ2:Sg,σ2.H=H0++.var (YX d (H0.length+1+L.length) hs).1 true::(L++(YX d (H0.length+1+L.length) hs).2.1)/\σ2.w=σ.w/\To σ σ2/\Ok σ2
 |[],d,H0,L,σ,ok,h=>⟨σ,by simp[YX,h],rfl,To.refl σ,ok⟩
 |x::hs,d,H0,L,σ,ok,h=>by
  have base:YX d (H0.length+1+L.length) (x::hs)=(d,[],x::hs)->∃σ2:Sg,σ2.H=H0++.var (YX d (H0.length+1+L.length) (x::hs)).1 true::(L++(YX d (H0.length+1+L.length) (x::hs)).2.1)/\σ2.w=σ.w/\To σ σ2/\Ok σ2:=λe=>by
   rw[e];exact⟨σ,by simp[h],rfl,To.refl σ,ok⟩
  cases x with
  |ghost yM s e=>
   cases hg:We d yM s (.own (H0.length+1+L.length) none s []) with
   |none=>exact base (by simp[YX,hg])
   |some d'=>
    have hl:σ.H.length=H0.length+1+L.length:=by rw[h];simp;omega
    obtain⟨σ1,e1,e2,e3,e4⟩:=ZzO (e:=e) ok (j:=H0.length) (s:=s) (d:=d) (d':=d') (st:=true) (yM:=yM) (by rw[h];simp) (by rw[hl];exact hg)
    have e1':σ1.H=H0++.var d' true::(L++[Ent.log s e []]):=by
     grind
    obtain⟨σ2,f1,f2,f3,f4⟩:=Zjq hs d' H0 (L++[Ent.log s e []]) e4 e1';refine⟨σ2, ?_,by rw[f2,e2],e3.trans f3,f4⟩;rw[f1];simp only[YX,hg,yj,yao,yck]
    simp[ych]
  |_=>exact base (by simp[YX])
theorem Zuw{P:yg}{o:ym}{a:Act}{σ:Sg}{d:Dv}{H1 H2:yL Ent}(h:Wd P o a σ d H1)(k:∀σ1:Sg,σ1.H=H1->Ok σ1->∃σ2:Sg,σ2.H=H2/\σ2.w=σ1.w/\To σ1 σ2/\Ok σ2):Wd P o a σ d H2:=by
 intro K Q hK;refine h K Q λv σ1 e1 to1 ok1 hd=> ?_;obtain⟨σ2,f1,f2,f3,f4⟩:=k σ1 e1 ok1;rw[<-f2];exact hK v σ2 f1 (to1.trans f3) f4 (WK f3.leaf hd)
theorem ZpX{P:yg}{o:ym}{a:Act}{σ:Sg}{d dd:Dv}{H:yL Ent}(h:Wd P o a σ d (H++[.var dd true]))(hs:yL Hint):Wd P o a σ d (H++.var (YX dd (H.length+1) hs).1 true::(YX dd (H.length+1) hs).2.1):=by
 refine Zuw h λσ1 e1 ok1=> ?_;obtain⟨σ2,f1,f2,f3,f4⟩:=Zjq hs dd H [] ok1 e1;grind
theorem ZvO{P:yg}{o:ym}{a:Act}{σ:Sg}{d dd:Dv}{H:yL Ent}{id:Nat}{x:Ent}(h:Wd P o a σ d (H.set id (.var dd true)))(hid:H[id]? =some x)(hs:yL Hint):Wd P o a σ d (H.set id (.var (YX dd H.length hs).1 true)++(YX dd H.length hs).2.1):=by
 have hlt:id < H.length:=(yo.1 hid).1;have e:∀v:Ent,H.set id v=H.take id++v::H.drop (id+1):=λv=>List.set_eq_take_append_cons_drop.trans (yW hlt);refine Zuw h λσ1 e1 ok1=> ?_;rw[e] at e1;obtain⟨σ2,f1,f2,f3,f4⟩:=Zjq hs dd (H.take id) (H.drop (id+1)) ok1 e1;grind
end Go.Ev
end
section
namespace Go.Ev
section
variable{P:yg}{o:ym}{a:Act}{σ:Sg}{ts:yL Dv}{hs hs':yL Hint}{C:yL Prop}{d:Dv}{H':yL Ent}
theorem ZxG(ok:Ok σ)(yK:RepT σ ts a){t:yb}{x y:yn}{id v v' s off:Nat}{yM:yL Nat}{e:yb}{dd sub new dd':Dv}{C1:yL Prop}{off':Nat}(ho:o.op=.store t x y)(hx:argD P ts 0 x=.rref id v off yM)
 (hH:σ.H[id]? =some (.row v' s true e dd)) (hv:v'=v) (hg:YE dd yM hs=some (C1,off',sub,hs')) (hc:AllP C1) (he:off'=off) (hn:Ze3 yM dd (argD P ts t y)=some new) (hp:VA new dd yM hs=some dd')
 (hsol:new.solid=true) (hsz:new.size=sub.size) (ht:P.cellsOf t=new.size) (hi:(P.info? t).isSome=true) (hN':rowN dd' s=rowN dd s):Wd P o a σ .junk (σ.H.set id (.row v s true e dd')):=by
 subst he;subst hv;have hxv:=Zq (P:=P) yK 0 x;have hyv:=ZrF hn (Zq (P:=P) yK t y);rw[hx] at hxv;obtain⟨b,hxv,hm⟩:=Zxw hxv hH rfl;obtain⟨N,hN,hent⟩:=ok.ent id _ _ hH hm;rcases hent with⟨h1,_⟩|⟨b',cs,cap,h1,h2,hcs,hle,hcm,h3⟩
 ·cases h1
 cases h1;have hsize:=Zum hN;rw[<-hsize] at h3;have h4:dd.size<=cs.size:=by rw[hsize,hcs];exact ybp _ hle
 obtain⟨p1,p2,p3,h5,h6,h7,h8⟩:=ZbI yM dd hs hs' C1 off' sub _ hg hc h3;have hcells:=ZbG hsol hyv;obtain⟨h9,h10⟩:=h8 new dd' _ hp hsz hcells;have hl1:(a.eval y).cells.toList.length=new.size:=W6 _ _ hcells;have hl2:p2.length=sub.size:=W6 _ _ h7;have hll:(a.eval y).cells.toList.length=p2.length:=by rw[hl1,hl2,hsz]
 obtain⟨k1,k2⟩:=ZkP h5 hll h4;rw[h6] at k1 k2
 have hnl:off'+(a.eval y).cells.toList.length<=cs.size:=by
  have:=congrArg List.length h5;grind
 have hone:∀u,u∈(a.eval y).cells.toList->u.oneCell'=true:=ZlW new _ hsol hcells;have hst:=run_storeCells_at P b off' e (a.eval y).cells.toList 0 cs σ.w h2 (by simpa using hnl) hone;simp only[ycf] at hst;let ncs:Array yh:=(cs.toList.take off'++(a.eval y).cells.toList++cs.toList.drop (off'+(a.eval y).cells.toList.length)).toArray;let σ':Sg:={ σ with m:=σ.m.set id (some b),H:=σ.H.set id (.row v' s true e dd'),w:=σ.w.setRow b ncs};have hncs:ncs.size=cs.size:=k2;have zU:σ'.w.heap[b]? =some (.cells ncs e (0,0)):=setRow_heap σ.w b cs _ e _ h2;have hoth:∀j,b≠j->σ'.w.heap[j]? =σ.w.heap[j]? :=λj hj=>setRow_other σ.w b j _ (Ne.symm hj)
 obtain⟨to,ok'⟩:=XR (σ':=σ') (mi:=some b) (mi':=some b) ok hH hm rfl rfl rfl rfl rfl rfl rfl (by simp[σ'])
  (λj hj hne=>hoth j (λhh=>hne (by rw[hh]))) (λb' o v _ hu _=>by cases hu.1) (λo _ hu=>by cases hu.1) (.inl rfl) (λ⟨d,st,h⟩=>by cases h) (λ⟨d,st,h⟩=>by cases h)
  (λs e xs h=>by cases h) (λleaf=>⟨N,by rw[hN'];exact hN,.inr ⟨b,ncs,cap,rfl,zU,by rw[hncs];exact hcs,hle,hcm,by
    rw[<-hsize];show yG σ' dd' (ncs.toList.take dd.size);rw[show ncs.toList.take dd.size=p1++((a.eval y).cells.toList++p3) from k1]
    exact Yk leaf dd' _ h9⟩⟩)
  (λv s st e2 d h=>by cases h;exact⟨v',true,_,rfl,yl _,λ_=>⟨rfl,λb2 cur hb2 hcur=>by
    cases hb2;rw[h2] at hcur;cases hcur;exact⟨ncs,zU,hncs⟩⟩⟩)
 refine ZlX (σ':=σ') ?_ to ok'
 cases hi':P.info? t with
 |none=>simp[hi'] at hi
 |some i=>
  have hs:(a.eval y).cells.size=i.size:=by
   rw[<-ybo,hl1, <-ht];simp[Program.cellsOf,hi']
  simp only[execOp,ho,hxv,Instr.storeAt,Instr.sureAddr,storeVar,sizeOf,typeInfo,Sem.run_bind,run_program,Result.andThen_ok,hi',Sem.run_pure,hs,ne_eq,not_true,if_false,hst];rfl
theorem ZvP(ok:Ok σ){s:Nat}{e:yb}{dd:Dv}{N n cap:Nat}{cells:Array yh}{w':yz}{v:yh}(hg:σ.w.grownBy w' none)(zU:w'.heap[σ.w.heap.size]? =some (.cells cells e (0,0)))(hcs:cells.size=cap*s)(hlt:σ.w.heap.size < w'.heap.size)
 (hN:rowN dd s=some N) (hle:N<=cap) (hcm:cap<=maxLen) (hn:n<=N) (hr:yG σ dd (cells.toList.take (N*s))) (hx:(execOp a.eval o).run P σ.w=.ok (.value (.slice (some ⟨σ.w.heap.size,0,none⟩) n cap)) w'):
 Wd P o a σ (.rv σ.H.length 0 s 0 n) (σ.H++[.row 0 s true e dd]):=by
 let σ':Sg:={ σ with m:=σ.m++[some σ.w.heap.size],H:=σ.H++[.row 0 s true e dd],w:=w'}
 have hmlast:σ'.m[σ.H.length]? =some (some σ.w.heap.size):=by
  show(σ.m++[some σ.w.heap.size])[σ.H.length]? =_;rw[yat (by rw[ok.len];exact yl _),ok.len];simp
 obtain⟨to,ok'⟩:=V0 (σ':=σ') ok rfl rfl rfl rfl hg (.inr ⟨_,rfl,yl _,hlt⟩)
  (λleaf=>⟨N,hN,.inr ⟨σ.w.heap.size,cells,cap,rfl,zU,hcs,hle,hcm,Yk leaf _ _ hr⟩⟩)
 refine ZX (σ':=σ') hx to ok' ?_;rw[Zi rfl];simp only[yG];refine⟨_,_,rfl,by omega,hcm,λh=>(by cases h),λ_=>⟨_,_,rfl⟩,0,s,true,e,dd,by simp[σ'],yl _,λ_=>⟨rfl,.inr ⟨σ.w.heap.size,cells,hmlast,zU,by rw[hcs,yay],λ_=>by simp⟩⟩⟩
theorem ZC0(ok:Ok σ){t e:yb}{l c:yn}{i:TypeInfo}{n n':Int}(yK:RepT σ ts a)(ho:o.op=.makeSlice t l c)(hu:P.underlying t=some (.slice e))(hl:argD P ts 0 l=.p (.int .i64 n))(hcp:argD P ts 0 c=.p (.int .i64 n'))
 (hi:P.info? e=some i) (hz:zOk i=true) (h0:n=0) (h1:0<=n') (h2:n'.toNat*i.bytes<=bytesBound) (h3:n'.toNat<=maxLen):
 Wd P o a σ (.rv σ.H.length 0 i.size 0 0) (σ.H++[.row 0 i.size true e (.p (.arr 0 i.size []))]):=by
 subst h0;obtain⟨z,hzz,hzs⟩:=Zb8 hz;obtain⟨cells,zO,hcs,_⟩:=ZmC (w:=σ.w) (t:=t) hu hi hzz (Int.le_refl 0) h1 h2 h3;have hlv:=Yd (hl ▸ Zq (P:=P) yK 0 l);have hcv:=Yd (hcp ▸ Zq (P:=P) yK 0 c);refine ZvP (N:=0) (cap:=n'.toNat) (w':=σ.w.alloc (.cells cells e)) (v:=.bool true) ok (World.grownBy_alloc σ.w (.cells cells e) none) (heap_alloc_new σ.w _) hcs (by simp) (by simp[rowN]) (Nat.zero_le _) h3 (yl _) ?_ ?_
 ·simp[yG,repC,repCs];intro x hx;cases hx
 ·have hrun':=zO;simp only[Int.toNat_zero] at hrun';simp[execOp,ho,hlv,hcv,hrun']
theorem ZC1(ok:Ok σ)(yK:RepT σ ts a){t e:yb}{i:TypeInfo}{len:Nat}{parts:Array (Nat×yn)}{xs:yL Pl}(ho:o.op=.buildSlice t len parts)(hu:P.underlying t=some (.slice e))
 (hi:P.info? e=some i) (hz:zOk i=true) (hne:i.size≠0) (hsz:len*i.size<=16777216) (hl:WL P ts e (P.cellsOf e) len parts.toList=some xs):
 Wd P o a σ (.rv σ.H.length 0 i.size 0 len) (σ.H++[.row 0 i.size true e (.p (.arr len i.size (xs.map Pl.soft)))]):=by
 obtain⟨cells,zO,hr,zB,zL,hcs⟩:=ZnJ (P:=P) yK hu hi hz hsz hl
 have hle:len<=maxLen:=by
  have:=Nat.le_mul_of_pos_right len (Nat.pos_of_ne_zero hne);simp only[maxLen];omega
 refine ZvP (N:=len) (cap:=len) (w':=σ.w.alloc (.cells cells e)) (v:=.bool true) ok (World.grownBy_alloc σ.w (.cells cells e) none) (heap_alloc_new σ.w _) hcs (by simp) (by simp[rowN]) (yl _) hle (yl _) ?_ (ZqZ ho zO);rw[<-hcs, <-ybo,List.take_length];simp only[yG,repC];refine⟨by rw[yaa];exact zB,λy hy=> ?_, ?_⟩
 ·obtain⟨x,hx,rfl⟩:=ycb.1 hy;rw[Zo0];exact zL x hx
 ·rw[<-Pl.softs_map];exact(softs_wk xs).rep _ _ _ hr
theorem ZzP(ok:Ok σ)(yK:RepT σ ts a){t e:yb}{i:TypeInfo}{len id v:Nat}{st:Bool}{dd:Dv}{parts:Array (Nat×yn)}{xs:yL Pl}(ho:o.op=.buildSlice t len parts)(hu:P.underlying t=some (.slice e))
 (hi:P.info? e=some i) (hz:zOk i=true) (hne:i.size≠0) (hsz:len*i.size<=16777216) (hl:WL P ts e (P.cellsOf e) len parts.toList=some xs) (hH:σ.H[id]? =some (.row v i.size st e dd)):
 Wd P o a σ (.rv id (v+1) i.size 0 len) (σ.H.set id (.row (v+1) i.size true e (.p (.arr len i.size (xs.map Pl.soft))))):=by
 obtain⟨cells,zO,hr,zB,zL,hcs⟩:=ZnJ (P:=P) yK hu hi hz hsz hl
 have hle:len<=maxLen:=by
  have:=Nat.le_mul_of_pos_right len (Nat.pos_of_ne_zero hne);simp only[maxLen];omega
 have hlt:id < σ.m.length:=by rw[ok.len];exact(yo.1 hH).1
 have hm:σ.m[id]? =some σ.m[id]:=yad hlt;let σ':Sg:={ σ with m:=σ.m.set id (some σ.w.heap.size),H:=σ.H.set id (.row (v+1) i.size true e (.p (.arr len i.size (xs.map Pl.soft)))),w:=σ.w.alloc (.cells cells e)};have zU:σ'.w.heap[σ.w.heap.size]? =some (.cells cells e (0,0)):=heap_alloc_new σ.w _;have hg:=World.grownBy_alloc σ.w (.cells cells e) none;have hself:σ'.m[id]? =some (some σ.w.heap.size):=getElem?_set_eq' hm;have hHself:σ'.H[id]? =some (.row (v+1) i.size true e (.p (.arr len i.size (xs.map Pl.soft)))):=getElem?_set_eq' hH
 obtain⟨to,ok'⟩:=XR (σ':=σ') (mi:=σ.m[id]) (mi':=some σ.w.heap.size) ok hH hm rfl rfl rfl rfl rfl rfl rfl hg.size
  (λj hj _=>hg.block j hj (by simp)) (λb o v hb _ hc=>by
    have hj:=ok.lt id b (by rw[hm,hb]);rw[World.cell?_of_block (w:=σ.w) (hg.block b hj (by simp))];exact hc) (λo he hu=>by
    have hj:=ok.lt id _ (by rw[hm, <-he]);omega) (.inr ⟨_,rfl,yl _,by simp[σ']⟩) (λ⟨d,st,h⟩=>by cases h) (λ⟨d,st,h⟩=>by cases h) (λs e xs h=>by cases h)
  (λleaf=>⟨len,by simp[rowN],.inr ⟨_,cells,len,rfl,zU,hcs,yl _,hle,by
    rw[<-hcs, <-ybo,List.take_length];simp only[yG,repC];refine⟨by rw[yaa];exact zB,λy hy=> ?_, ?_⟩
    ·obtain⟨x,hx,rfl⟩:=ycb.1 hy;rw[Zo0];exact zL x hx
    ·rw[<-Pl.softs_map];exact(softs_wk xs).rep _ _ _ (repCs_mono leaf.cells _ _ hr)⟩⟩)
  (λv' s' st' e' d' h=>by cases h;exact⟨v+1,true,_,rfl,Nat.le_succ _,λhv=>absurd hv (by omega)⟩)
 refine ZX (σ':=σ') (ZqZ ho zO) to ok' ?_;rw[Zi rfl];simp only[yG];refine⟨some ⟨σ.w.heap.size,0,none⟩,len,rfl,yl _,hle,λh=>(by cases h),λ_=>⟨_,_,rfl⟩,v+1,i.size,true,e,_,hHself,yl _,λ_=>⟨rfl,.inr ⟨_,cells,hself,zU,by rw[yay];exact hcs,λ_=>by rw[Nat.zero_mul]⟩⟩⟩
theorem ZtD(ok:Ok σ)(yK:RepT σ ts a){c:Call}{x y:yn}{t u e:yb}{i:TypeInfo}{ys:yL Pl}(ho:o.op=.call c)(yR:c.callee=.builtin .append)(yQ:c.args.toList=[x,y])
 (htys:c.argTypes.toList=[t,u]) (ht:P.underlying t=some (.slice e)) {s:Nat} (hx:argD P ts t x=.p (.sl (some false) s [])) (hi:P.info? e=some i) (hz:zOk i=true) (hne:i.size≠0)
 (hsrc:ZmB P σ (P.cellsOf e) u (a.eval y) ys) (hb:ys.length*i.bytes<=bytesBound) (hm:ys.length<=maxLen):
 Wd P o a σ (.rv σ.H.length 0 i.size 0 ys.length) (σ.H++[.row 0 i.size true e (.p (.arr ys.length i.size ys))]):=by
 have hxv:=Zq (P:=P) yK t x;rw[hx] at hxv;have hxn:=ZnI hxv;have hce:P.cellsOf e=i.size:=by simp[Program.cellsOf,hi]
 rcases Vy (P:=P) (ty:=o.type) ok yK ht hi hz hne hsrc hb hm with⟨rfl,zO⟩|⟨zV,yJ,hys,zL,hr,hge,hcm,hcs,zO⟩
 ·let σ':Sg:={ σ with m:=σ.m++[none],H:=σ.H++[.row 0 i.size true e (.p (.arr 0 i.size []))]}
  have hmlast:σ'.m[σ.H.length]? =some none:=by
   show(σ.m++[none])[σ.H.length]? =_;rw[yat (by rw[ok.len];exact yl _),ok.len];simp
  obtain⟨to,ok'⟩:=V0 (σ':=σ') ok rfl rfl rfl rfl (World.grownBy.refl σ.w none) (.inl rfl) (λleaf=>⟨0,by simp[rowN],.inl ⟨rfl,rfl⟩⟩);refine ZX (σ':=σ') (Yl ho yR yQ htys (by rw[hxn];exact zO)) to ok' ?_;rw[Zi rfl];simp only[yG];refine⟨none,0,rfl,yl _,by simp[maxLen],λ_=>rfl,λh=>(by simp at h),0,i.size,true,e,.p (.arr 0 i.size []),by simp[σ'],yl _,λ_=>⟨rfl,.inl ⟨hmlast,rfl,rfl⟩⟩⟩
 ·have zB:zV.length=ys.length*i.size:=by rw[repCs_size _ _ hr,sizes_all zL]
  refine ZvP (N:=ys.length) (cap:=grownCap σ.w ys.length 0 e) (w':=σ.w.drew.alloc (.cells (zV.toArray++yJ) e)) (v:=.bool true) ok (Y8 σ.w (.cells (zV.toArray++yJ) e) none) (heap_alloc_new σ.w.drew _) hcs (by simp) (by simp[rowN]) hge hcm (yl _) ?_ (Yl ho yR yQ htys (by rw[hxn];exact zO));rw[<-zB];simp only[Array.toList_append,List.take_left',yG,repC];grind
theorem ZkW{w:yz}{t u ty e:yb}{i:TypeInfo}{S:yh}{zV:yL yh}{A:yO Addr}{n c:Nat}(ht:P.underlying t=some (.slice e))(hi:P.info? e=some i)(hS:Src P w u i.size S 0 zV)(hn:n<=c)(hA:A=none->c=0):
 (Builtin.append_ #[t,u] ty #[.slice A n c,S]).run P w=.ok (.slice A n c) w:=by
 obtain⟨hty,hl,hf,hfd,hc⟩:=hS;have hnews:zV=[]:=ybn (by rw[hc];simp);subst hnews
 rcases hty with⟨e'',hu⟩|hu <;>
  (cases A with
   |none=>
    have:=hA rfl;have hn0:n=0:=by omega
    subst this;subst hn0
    simp[Builtin.append_,run_underlying ht,run_underlying hu,sizeOf,typeInfo,hi,hl,hf]
   |some A=>
    simp[Builtin.append_,run_underlying ht,run_underlying hu,sizeOf,typeInfo,hi,hl,hf,hn,storeCells])
theorem ZtE(ok:Ok σ)(yK:RepT σ ts a){c:Call}{x y:yn}{t u e:yb}{i:TypeInfo}{id v s lo n:Nat}(ho:o.op=.call c)(yR:c.callee=.builtin .append)(yQ:c.args.toList=[x,y])
 (htys:c.argTypes.toList=[t,u]) (ht:P.underlying t=some (.slice e)) (hx:argD P ts t x=.rv id v s lo n) (hi:P.info? e=some i)
 (hsrc:ZmB P σ (P.cellsOf e) u (a.eval y) []):Wd P o a σ (.rv id v s lo n) σ.H:=by
 have hxv:=Zq (P:=P) yK t x;rw[hx] at hxv;have hxv0:=hxv;obtain⟨A,cc,hv,h2,h3,h4,_⟩:=ZhX hxv;have hce:P.cellsOf e=i.size:=by simp[Program.cellsOf,hi]
 rw[hce] at hsrc;obtain⟨zV,hS,_,_⟩:=hsrc;refine Zn (v:=a.eval x) ok (Yl ho yR yQ htys ?_) hxv0;rw[hv];exact ZkW (P:=P) (ty:=o.type) ht hi hS h2 h4
theorem ZBk{v s N o:Nat}{st:Bool}{e:yb}{xs:yL Pl}(hu:(Ent.row v s st e (.p (.arr N s xs))).unlocked o):st=false/\o < N*s:=by
 obtain⟨h1,N',h2,h3⟩:=hu;rw[show rowN (.p (.arr N s xs)) s=some N from yW rfl] at h2
 grind
theorem ZrN{v v' s n N m o:Nat}{st:Bool}{e:yb}{xs ys:yL Pl}(hst:st=true\/n=N)(hu:(Ent.row v s st e (.p (.arr N s xs))).unlocked o):(Ent.row v' s st e (.p (.arr (n+m) s ys))).unlocked o:=by
 obtain⟨h1,h2⟩:=ZBk hu;refine⟨h1,n+m,yW rfl, ?_⟩;rcases hst with h|h
 ·grind
 ·subst h;grind
theorem ZvQ(ok:Ok σ)(yK:RepT σ ts a){c:Call}{x y:yn}{t u e:yb}{i:TypeInfo}{xs ys:yL Pl}{id v n N:Nat}{st:Bool}(hst:st=true\/n=N)(ho:o.op=.call c)(yR:c.callee=.builtin .append)
 (yQ:c.args.toList=[x,y]) (htys:c.argTypes.toList=[t,u]) (ht:P.underlying t=some (.slice e)) (hx:argD P ts t x=.rv id v i.size 0 n) (hi:P.info? e=some i) (hz:zOk i=true) (hne:i.size≠0)
 (hsrc:ZmB P σ i.size u (a.eval y) ys) (hH:σ.H[id]? =some (.row v i.size st e (.p (.arr N i.size xs)))) (hnN:n<=N) (hb:(n+ys.length)*i.bytes<=bytesBound) (hm:n+ys.length<=maxLen):
 Wd P o a σ (.rv id (v+1) i.size 0 (n+ys.length)) (σ.H.set id (.row (v+1) i.size st e (.p (.arr (n+ys.length) i.size (xs.take n++ys))))):=by
 have hxv:=Zq (P:=P) yK t x;rw[hx] at hxv;obtain⟨A0,c0,hv0,_,_,_,hpall,hplen,q,hq,hql,hqc⟩:=Zq0 ok hxv hH rfl (by omega:0+n<=N);simp only[List.drop_zero] at hpall hplen hq;obtain⟨A,cp,hv,h2,h3,h4,h5,v2,s2,st2,e2,d2,h6,h7,h8⟩:=ZhX hxv;rw[hv] at hv0;injection hv0 with e1 e2 e3;subst e1;subst e3;rw[hH] at h6;cases h6;obtain⟨_,h9⟩:=h8 rfl;have hsrc2:=hsrc;obtain⟨zV,hS,hr,zL⟩:=hsrc2;obtain⟨z,hzz,hzs⟩:=Zb8 hz;have hidlt:id < σ.m.length:=by rw[ok.len];exact(yo.1 hH).1
 have hmi:σ.m[id]? =some σ.m[id]:=yad hidlt;have hnl:zV.length=ys.length*i.size:=hS.cells;have hone:∀v,v∈zV->v.oneCell'=true:=repCs_one _ _ hr;have zB:(xs.take n++ys).length=n+ys.length:=by rw[yj,hplen]
 have hall':allSz i.size (xs.take n++ys):=by
  by_cases hy:ys=[]
  ·grind
  ·exact WU hpall (zL hy)
 have hrowN:rowN (.p (.arr (n+ys.length) i.size (xs.take n++ys))) i.size=some (n+ys.length):=by simp[rowN]
 have grow:cp < n+ys.length->Wd P o a σ (.rv id (v+1) i.size 0 (n+ys.length)) (σ.H.set id (.row (v+1) i.size st e (.p (.arr (n+ys.length) i.size (xs.take n++ys))))):=by
  intro hgr
  have hold:(Builtin.firstCells i.size n (.slice A n cp)).run P σ.w.drew=.ok q.toArray σ.w.drew:=by
   rcases yco n with h0|h0
   ·subst h0;have:q=[]:=ybn (by rw[hql];simp);subst this;cases A <;> simp[Builtin.firstCells,loadCells,loadCellsFrom]
   ·obtain⟨b,cur,cap,rfl,_,_,_,hcell⟩:=hqc h0;refine run_firstCells_some _ _ _ ⟨b,_,none⟩ _ cp q hql (λj v hv=> ?_);rw[Addr.add_mk];simp_all
  have zO:=Zhs (P:=P) (ty:=o.type) ht hi hzz hS hold hgr hm hb;have hge:=grownCap_ge σ.w (n+ys.length) cp e;have hcm:=grownCap_le_maxLen σ.w (n+ys.length) cp e hm;let k:Nat:=grownCap σ.w (n+ys.length) cp e;let yJ:Array yh:=Builtin.zeroCells z.cells (k - (n+ys.length));let ncur:Array yh:=q.toArray++zV.toArray++yJ;let σ':Sg:={ σ with m:=σ.m.set id (some σ.w.heap.size),H:=σ.H.set id (.row (v+1) i.size st e (.p (.arr (n+ys.length) i.size (xs.take n++ys)))),w:=σ.w.drew.alloc (.cells ncur e)}
  have hncs:ncur.size=k*i.size:=by
   simp only[ncur,yJ,Array.size_append,List.size_toArray,size_zeroCells,hzs,hql,hnl, <-yaz];congr 1;omega
  have htk:ncur.toList.take ((n+ys.length)*i.size)=q++zV:=by
   have e1:(q++zV).length=(n+ys.length)*i.size:=by rw[yj,hql,hnl,yaz]
   grind
  have zU:σ'.w.heap[σ.w.heap.size]? =some (.cells ncur e (0,0)):=heap_alloc_new σ.w.drew _;have hg:=Y8 σ.w (.cells ncur e) none;have hblk':∀b,b < σ.w.heap.size->σ'.w.heap[b]? =σ.w.heap[b]? :=λb hb=>hg.block b hb (by simp);have hmset:σ'.m[id]? =some (some σ.w.heap.size):=getElem?_set_eq' hmi;have hHset:σ'.H[id]? =some (.row (v+1) i.size st e (.p (.arr (n+ys.length) i.size (xs.take n++ys)))):=getElem?_set_eq' hH
  obtain⟨to,ok'⟩:=XR (σ':=σ') (mi:=σ.m[id]) (mi':=some σ.w.heap.size) ok hH hmi rfl rfl rfl rfl rfl rfl rfl hg.size
   (λb hb _=>hblk' b hb) (λb' o v hb' _ hcell=>by
     rw[World.cell?_of_block (w:=σ.w) (hblk' b' (Wu hcell))];exact hcell)
   (λo h _=>by
     have:=ok.lt id σ.w.heap.size (by rw[hmi, <-h]);omega) (.inr ⟨_,rfl,yl _,by simp[σ']⟩) (λ⟨d,st,h⟩=>by cases h) (λ⟨d,st,h⟩=>by cases h)
   (λs' e' xs' h=>by cases h)
   (λleaf=>⟨n+ys.length,hrowN,.inr ⟨σ.w.heap.size,ncur,k,rfl,zU,hncs,hge,hcm,by
     rw[htk];simp only[yG,repC];exact⟨zB,hall',Yt (repCs_mono leaf.cells _ _ hq) (repCs_mono leaf.cells _ _ hr)⟩⟩⟩)
   (λv2 s st e d h=>by cases h;exact⟨v+1,_,_,rfl,by omega,λhh=>absurd hh (by omega)⟩)
  refine ZX (σ':=σ') (Yl ho yR yQ htys (by rw[hv];exact zO)) to ok' ?_;rw[Zi rfl];simp only[yG];exact⟨_,_,rfl,hge,hcm,λh=>(by cases h),λ_=>⟨_,_,rfl⟩,v+1,i.size,st,e,_,hHset,yl _,λ_=>⟨rfl,.inr ⟨σ.w.heap.size,ncur,hmset,zU,by rw[hncs,yay],λ_=>by simp⟩⟩⟩
 rcases h9 with⟨k1,rfl,k2⟩|⟨b,cur,k1,k3,k4,k5⟩
 ·have hc0:cp=0:=by omega
  subst hc0;have hn0:n=0:=by omega
  subst hn0;rcases yco ys.length with h0|h0
  ·have hys:ys=[]:=ybn h0;subst hys;have zO:=ZkW (P:=P) (ty:=o.type) (A:=none) (n:=0) (c:=0) ht hi hS (yl _) (λ_=>rfl);let σ':Sg:={ σ with m:=σ.m.set id σ.m[id],H:=σ.H.set id (.row (v+1) i.size st e (.p (.arr (0+([]:yL Pl).length) i.size (xs.take 0++[]))))};have hmset:σ'.m[id]? =some σ.m[id]:=getElem?_set_eq' hmi;have hHset:σ'.H[id]? =some (.row (v+1) i.size st e (.p (.arr (0+([]:yL Pl).length) i.size (xs.take 0++[])))):=getElem?_set_eq' hH;have hmn:σ.m[id]=none:=by rw[hmi] at k1;exact ybw k1
   obtain⟨to,ok'⟩:=XR (σ':=σ') (mi:=σ.m[id]) (mi':=σ.m[id]) ok hH hmi rfl rfl rfl rfl rfl rfl rfl (yl _)
    (λ_ _ _=>rfl) (λ_ _ _ _ _ h=>h) (λo _ hu=>ZrN hst hu) (.inl rfl) (λ⟨d,st,h⟩=>by cases h) (λ⟨d,st,h⟩=>by cases h)
    (λs e xs h=>by cases h) (λleaf=>⟨0,by simp[rowN],.inl ⟨hmn,rfl⟩⟩)
    (λv2 s st e d h=>by cases h;exact⟨v+1,_,_,rfl,by omega,λhh=>absurd hh (by omega)⟩)
   refine ZX (σ':=σ') (Yl ho yR yQ htys (by rw[hv];exact zO)) to ok' ?_;rw[Zi rfl];simp only[yG];exact⟨none,0,rfl,yl _,by simp[maxLen],λ_=>rfl,λh=>(by simp at h),v+1,i.size,st,e,_,hHset,yl _,λ_=>⟨rfl,.inl ⟨by rw[hmset,hmn],rfl,rfl⟩⟩⟩
  grind
 ·by_cases hroom:n+ys.length<=cp
  ·have hmb:σ.m[id]=some b:=by rw[hmi] at k1;exact ybw k1
   rw[yay] at k4;rcases yco cp with hcp0|hcp0
   ·have hn0:n=0:=by omega
    have hy0:ys.length=0:=by omega
    have hys:ys=[]:=ybn hy0;subst hys;have zO:=ZkW (P:=P) (ty:=o.type) ht hi hS h2 h4;let σ':Sg:={ σ with m:=σ.m.set id (some b),H:=σ.H.set id (.row (v+1) i.size st e (.p (.arr (n+([]:yL Pl).length) i.size (xs.take n++[]))))};have hmset:σ'.m[id]? =some (some b):=getElem?_set_eq' hmi;have hHset:σ'.H[id]? =some (.row (v+1) i.size st e (.p (.arr (n+([]:yL Pl).length) i.size (xs.take n++[])))):=getElem?_set_eq' hH
    obtain⟨to,ok'⟩:=XR (σ':=σ') (mi:=some b) (mi':=some b) ok hH k1 rfl rfl rfl rfl rfl rfl rfl (yl _)
     (λ_ _ _=>rfl) (λ_ _ _ _ _ h=>h) (λo _ hu=>ZrN hst hu) (.inl rfl) (λ⟨d,st,h⟩=>by cases h) (λ⟨d,st,h⟩=>by cases h)
     (λs e xs h=>by cases h) (λleaf=>⟨n,by simp[rowN],.inr ⟨b,cur,cp,rfl,k3,k4,h2,h3,by
       subst hn0;simp[yG,repC,repCs];intro x hx;cases hx⟩⟩)
     (λv2 s st e d h=>by cases h;exact⟨v+1,_,_,rfl,by omega,λhh=>absurd hh (by omega)⟩)
    refine ZX (σ':=σ') (Yl ho yR yQ htys (by rw[hv];exact zO)) to ok' ?_;rw[Zi rfl];simp only[yG];exact⟨A,cp,rfl,h2,h3,h4,h5,v+1,i.size,st,e,_,hHset,yl _,λ_=>⟨rfl,.inr ⟨b,cur,hmset,k3,by rw[yay];exact k4,λh=>absurd h (by omega)⟩⟩⟩
   have hA:=k5 hcp0;rw[Nat.zero_mul] at hA;subst hA;have zO:=Zhr (P:=P) (ty:=o.type) ht hi hS hone k3 hroom k4
   have hus:(cur.toList.take (n*i.size)).length=n*i.size:=by
    simp_all
   have hqe:cur.toList.take (n*i.size)=q:=by
    rcases yco n with h0|h0
    ·grind
    ·obtain⟨b2,cur2,cap2,hbb,hm2,hb2,hcs2,hcell⟩:=hqc h0
     have hbe:b=b2:=by
      grind
     subst hbe;apply ybk;intro j;rw[ycc];by_cases hj:j < n*i.size
     ·rw[yW hj];have hjq:j < q.length:=by rw[hql];exact hj
      have:=hcell j q[j] (yad hjq);rw[Nat.zero_mul,yay,cell_of_row σ.w b j cur e (0,0) k3, <-ycd] at this;grind
     grind
   let ncur:Array yh:=(cur.toList.take (n*i.size)++zV++cur.toList.drop (n*i.size+zV.length)).toArray;let σ':Sg:={ σ with m:=σ.m.set id (some b),H:=σ.H.set id (.row (v+1) i.size st e (.p (.arr (n+ys.length) i.size (xs.take n++ys)))),w:=σ.w.setRow b ncur};have hfit:n*i.size+zV.length<=cur.size:=by rw[hnl,k4, <-yaz];exact ybp _ hroom
   have hncs:ncur.size=cp*i.size:=by
    grind
   have zU:σ'.w.heap[b]? =some (.cells ncur e (0,0)):=setRow_heap σ.w b cur _ e _ k3;have hoth:∀j,b≠j->σ'.w.heap[j]? =σ.w.heap[j]? :=λj hj=>setRow_other σ.w b j _ (Ne.symm hj);have hmset:σ'.m[id]? =some (some b):=getElem?_set_eq' hmi;have hHset:σ'.H[id]? =some (.row (v+1) i.size st e (.p (.arr (n+ys.length) i.size (xs.take n++ys)))):=getElem?_set_eq' hH
   have htk:ncur.toList.take ((n+ys.length)*i.size)=q++zV:=by
    have e1:(cur.toList.take (n*i.size)++zV).length=(n+ys.length)*i.size:=by rw[yj,hus,hnl,yaz]
    grind
   obtain⟨to,ok'⟩:=XR (σ':=σ') (mi:=some b) (mi':=some b) ok hH k1 rfl rfl rfl rfl rfl rfl rfl (by simp[σ'])
    (λj hj hne=>hoth j (λhh=>hne (by rw[hh]))) (λb' o v hb' hu hcell=>by
      cases hb'
      have ho':o < n*i.size:=by
       rcases hst with h|h
       ·rw[h] at hu;cases hu.1
       ·rw[h];exact(ZBk hu).2
      rw[cell_of_row σ'.w b o ncur e (0,0) zU];rw[cell_of_row σ.w b o cur e (0,0) k3, <-ycd] at hcell;rw[show ncur[o]? =(cur.toList.take (n*i.size)++zV++cur.toList.drop (n*i.size+zV.length))[o]? from by simp[ncur],yx,yba (by rw[hus];exact ho'),ycc,yW ho']
      exact hcell)
    (λo _ hu=>ZrN hst hu) (.inl rfl) (λ⟨d,st,h⟩=>by cases h) (λ⟨d,st,h⟩=>by cases h)
    (λs' e' xs' h=>by cases h)
    (λleaf=>⟨n+ys.length,hrowN,.inr ⟨b,ncur,cp,rfl,zU,hncs,hroom,h3,by
      rw[htk];simp only[yG,repC];exact⟨zB,hall',Yt (repCs_mono leaf.cells _ _ hq) (repCs_mono leaf.cells _ _ hr)⟩⟩⟩)
    (λv2 s st e d h=>by cases h;exact⟨v+1,_,_,rfl,by omega,λhh=>absurd hh (by omega)⟩)
   refine ZX (σ':=σ') (Yl ho yR yQ htys (by rw[hv];exact zO)) to ok' ?_;rw[Zi rfl];simp only[yG];exact⟨_,_,rfl,hroom,h3,λh=>(by cases h),λ_=>⟨_,_,rfl⟩,v+1,i.size,st,e,_,hHset,yl _,λ_=>⟨rfl,.inr ⟨b,ncur,hmset,zU,by rw[hncs,yay],λ_=>by simp⟩⟩⟩
  grind
theorem ZtF(ok:Ok σ)(yK:RepT σ ts a){c:Call}{x y:yn}{t u e:yb}{i:TypeInfo}{xs ys:yL Pl}{id v n N:Nat}(ho:o.op=.call c)(yR:c.callee=.builtin .append)
 (yQ:c.args.toList=[x,y]) (htys:c.argTypes.toList=[t,u]) (ht:P.underlying t=some (.slice e)) (hx:argD P ts t x=.rv id v i.size 0 n) (hi:P.info? e=some i) (hz:zOk i=true) (hne:i.size≠0)
 (hsrc:ZmB P σ i.size u (a.eval y) ys) (hH:σ.H[id]? =some (.row v i.size true e (.p (.arr N i.size xs)))) (hpos:0 < N) (hroomN:n+ys.length<=N):
 Wd P o a σ (.rv id v i.size 0 (n+ys.length)) (σ.H.set id (.row v i.size true e (.p (.arr N i.size (xs.take n++(ys++xs.drop (n+ys.length))))))):=by
 have hxv:=Zq (P:=P) yK t x;rw[hx] at hxv;obtain⟨A,cp,hv,h2,h3,h4,h5,v2,s2,st2,e2,d2,h6,h7,h8⟩:=ZhX hxv;rw[hH] at h6;cases h6;obtain⟨_,h9⟩:=h8 rfl;have hsrc2:=hsrc;obtain⟨zV,hS,hr,zL⟩:=hsrc2;have hidlt:id < σ.m.length:=by rw[ok.len];exact(yo.1 hH).1
 have hmi:σ.m[id]? =some σ.m[id]:=yad hidlt;have hnl:zV.length=ys.length*i.size:=hS.cells;have hone:∀v,v∈zV->v.oneCell'=true:=repCs_one _ _ hr;obtain⟨N',hN',hent⟩:=ok.ent id _ _ hH hmi;simp only[rowN,if_true,yq] at hN';subst hN';rcases hent with⟨_,h0⟩|⟨b,cur,cap,hh,g2,g4,g5,g6,g7⟩
 ·omega
 simp only[yG,repC] at g7;obtain⟨hxl,hxs,g7⟩:=g7;rcases h9 with⟨k1,_,_⟩|⟨b',cur',k1,k3,k4,k5⟩
 ·rw[hmi,hh] at k1;cases k1
 rw[hmi,hh] at k1;cases k1;rw[g2] at k3;cases k3;have hm:σ.m[id]? =some (some b):=by rw[hmi,hh]
 rw[yay] at k4;have hcc:cp=cap:=Nat.eq_of_mul_eq_mul_right (Nat.pos_of_ne_zero hne) (k4.symm.trans g4);subst hcc;have hroom:n+ys.length<=cp:=Nat.le_trans hroomN g5;have hA:=k5 (by omega);rw[Nat.zero_mul] at hA;subst hA;have zO:=Zhr (P:=P) (ty:=o.type) ht hi hS hone g2 hroom k4
 have hsplit:xs=xs.take n++((xs.drop n).take ys.length++xs.drop (n+ys.length)):=by
  have e1:xs.drop (n+ys.length)=(xs.drop n).drop ys.length:=by rw[List.drop_drop]
  rw[e1,ybl,ybl]
 have g7':=g7;rw[hsplit] at g7';obtain⟨q1,q23,e1,r1,r23⟩:=YN g7';obtain⟨q2,q3,rfl,r2,r3⟩:=YN r23;have hs1:allSz i.size (xs.take n):=Qm hxs n;have hs2:allSz i.size ((xs.drop n).take ys.length):=Qm (Zji hxs n) _;have ly:((xs.drop n).take ys.length).length=ys.length:=by rw[yv,ybf,ybg (by omega)]
 have l1:q1.length=n*i.size:=by rw[repCs_size _ _ r1,sizes_all hs1,yv,ybg (by omega)]
 have l2:q2.length=ys.length*i.size:=by rw[repCs_size _ _ r2,sizes_all hs2,ly]
 have hsz:N*i.size<=cur.size:=by rw[g4];exact ybp _ g5
 obtain⟨m1,m2⟩:=ZkP (y':=zV) e1 (by rw[hnl,l2]) hsz;rw[l1] at m1 m2;let ncur:Array yh:=(cur.toList.take (n*i.size)++zV++cur.toList.drop (n*i.size+zV.length)).toArray;let σ':Sg:={ σ with m:=σ.m.set id (some b),H:=σ.H.set id (.row v i.size true e (.p (.arr N i.size (xs.take n++(ys++xs.drop (n+ys.length)))))),w:=σ.w.setRow b ncur};have hncs:ncur.size=cur.size:=m2;have zU:σ'.w.heap[b]? =some (.cells ncur e (0,0)):=setRow_heap σ.w b cur _ e _ g2;have hoth:∀j,b≠j->σ'.w.heap[j]? =σ.w.heap[j]? :=λj hj=>setRow_other σ.w b j _ (Ne.symm hj);have hmset:σ'.m[id]? =some (some b):=getElem?_set_eq' hm;have hHset:σ'.H[id]? =some (.row v i.size true e (.p (.arr N i.size (xs.take n++(ys++xs.drop (n+ys.length)))))):=getElem?_set_eq' hH
 have hall2:allSz i.size (xs.take n++(ys++xs.drop (n+ys.length))):=by
  by_cases hy:ys=[]
  ·subst hy;exact WU hs1 (WU (λz hz=>by cases hz) (Zji hxs _))
  ·exact WU hs1 (WU (zL hy) (Zji hxs _))
 obtain⟨to,ok'⟩:=XR (σ':=σ') (mi:=some b) (mi':=some b) ok hH hm rfl rfl rfl rfl rfl rfl rfl (by simp[σ'])
  (λj hj hne=>hoth j (λhh=>hne (by rw[hh]))) (λb' o v _ hu _=>by cases hu.1) (λo _ hu=>by cases hu.1) (.inl rfl) (λ⟨d,st,h⟩=>by cases h) (λ⟨d,st,h⟩=>by cases h)
  (λs e xs h=>by cases h) (λleaf=>⟨N,by simp[rowN],.inr ⟨b,ncur,cp,rfl,zU,by rw[hncs];exact g4,g5,g6,by
    rw[show ncur.toList.take (N*i.size)=q1++(zV++q3) from m1]
    refine Yk leaf _ _ ?_;simp only[yG,repC];refine⟨by rw[yj,yj,yv,ybf];omega,hall2,Yt r1 (Yt hr r3)⟩⟩⟩)
  (λv2 s st e2 d h=>by cases h;exact⟨v,true,_,rfl,yl _,λ_=>⟨rfl,λb2 cur2 hb2 hcur=>by
    cases hb2;rw[g2] at hcur;cases hcur;exact⟨ncur,zU,hncs⟩⟩⟩)
 refine ZX (σ':=σ') (Yl ho yR yQ htys (by rw[hv];exact zO)) to ok' ?_;rw[Zi rfl];simp only[yG];exact⟨_,_,rfl,hroom,h3,λh=>(by cases h),λ_=>⟨_,_,rfl⟩,v,i.size,true,e,_,hHset,yl _,λ_=>⟨rfl,.inr ⟨b,ncur,hmset,zU,by rw[hncs,yay];exact k4,λ_=>by simp⟩⟩⟩
theorem ZtG(z:Array yh):(Builtin.zeroCells z 1).toList=z.toList:=by
 apply List.ext_getElem
 ·simp[Builtin.zeroCells]
 ·intro i h1 h2;have hi:i < z.size:=by simpa using h2
  simp[Builtin.zeroCells,Nat.mod_eq_of_lt hi,hi]
theorem ZxH(ok:Ok σ)(yK:RepT σ ts a){c:Call}{x:yn}{t e e':yb}{i:TypeInfo}{z:Pl}{xs:yL Pl}{id v lo N:Nat}(ho:o.op=.call c)(yR:c.callee=.builtin .clear)
 (yQ:c.args.toList=[x]) (htys:c.argTypes.toList=[t]) (ht:P.underlying t=some (.slice e)) (hx:argD P ts t x=.rv id v i.size lo 1) (hi:P.info? e=some i) (hz:zOk i=true) (hne:i.size≠0) (hzp:zeroD P e=.p z) (hzs:z.size=i.size)
 (hH:σ.H[id]? =some (.row v i.size true e' (.p (.arr N i.size xs)))) (hle:lo+1<=N):
 Wd P o a σ (.tup []) (σ.H.set id (.row v i.size true e' (.p (.arr N i.size (xs.set lo z))))):=by
 have hxv:=Zq (P:=P) yK t x;rw[hx] at hxv;obtain⟨A,cc,hv,h2,h3,h4,hpall,hplen,q,hq,hql,hqc⟩:=Zq0 ok hxv hH rfl hle;obtain⟨b,cur,cap,rfl,hm,hb,hcs,hcell⟩:=hqc (by omega);obtain⟨N',hN',hent⟩:=ok.ent id _ _ hH hm;simp only[rowN,if_true,yq] at hN';subst hN';rcases hent with⟨h,_⟩|⟨b',cur',cap',h,g2,g4,g5,g6,g7⟩
 ·cases h
 cases h;rw[hb] at g2;cases g2;obtain⟨zv,hzz,hzsz⟩:=Zb8 hz
 have hzr:yH σ (.p z) zv:=by
  rw[<-hzp];unfold zeroD;rw[hi];simp only[hzz];exact Zaa
 have hzc:=ZbG (d:=.p z) rfl hzr;simp only[yG] at hzc;have hzone:∀u,u∈zv.cells.toList->u.oneCell'=true:=Zrn _ _ hzc;have hzl:zv.cells.toList.length=i.size:=by rw[ybo,hzsz]
 simp only[yG,repC] at g7;obtain⟨hxl,hxs,h7⟩:=g7;have hlo:lo < xs.length:=by omega
 have hxi:xs[lo]? =some xs[lo]:=yad hlo;obtain⟨p1,p2,p3,e1,l1,r2,l2,r1,r3⟩:=Zb4 h7 hxi;have l1':p1.length=lo*i.size:=by rw[l1,sizes_all (λz hz=>hxs z (ycg hz)),yv,ybg (by omega)]
 have l2':p2.length=i.size:=by rw[l2];exact hxs _ (List.getElem_mem hlo)
 have hsz:N*i.size<=cur.size:=by rw[g4];exact ybp _ g5
 obtain⟨k1,k2⟩:=ZkP (y':=zv.cells.toList) e1 (by rw[hzl,l2']) hsz;rw[l1'] at k1 k2
 have hnl:lo*i.size+zv.cells.toList.length<=cur.size:=by
  grind
 have hst:=run_storeCells_at P b (lo*i.size) e' zv.cells.toList 0 cur σ.w hb (by simpa using hnl) hzone;simp only[ycf] at hst;let ncs:Array yh:=(cur.toList.take (lo*i.size)++zv.cells.toList++cur.toList.drop (lo*i.size+zv.cells.toList.length)).toArray;let σ':Sg:={ σ with m:=σ.m.set id (some b),H:=σ.H.set id (.row v i.size true e' (.p (.arr N i.size (xs.set lo z)))),w:=σ.w.setRow b ncs};have hncs:ncs.size=cur.size:=k2;have zU:σ'.w.heap[b]? =some (.cells ncs e' (0,0)):=setRow_heap σ.w b cur _ e' _ hb;have hoth:∀j,b≠j->σ'.w.heap[j]? =σ.w.heap[j]? :=λj hj=>setRow_other σ.w b j _ (Ne.symm hj)
 obtain⟨to,ok'⟩:=XR (σ':=σ') (mi:=some b) (mi':=some b) ok hH hm rfl rfl rfl rfl rfl rfl rfl (by simp[σ'])
  (λj hj hne=>hoth j (λhh=>hne (by rw[hh]))) (λb' o v _ hu _=>by cases hu.1) (λo _ hu=>by cases hu.1) (.inl rfl) (λ⟨d,st,h⟩=>by cases h) (λ⟨d,st,h⟩=>by cases h)
  (λs e xs h=>by cases h) (λleaf=>⟨N,by simp[rowN],.inr ⟨b,ncs,cap',rfl,zU,by rw[hncs];exact g4,g5,g6,by
    rw[show ncs.toList.take (N*i.size)=p1++(zv.cells.toList++p3) from k1]
    refine Yk leaf _ _ ?_;simp only[yG,repC];refine⟨by rw[yan];exact hxl,Zjm hxs hzs, ?_⟩;rw[ZdD hxi];refine Yt r1 ?_;simp only[repCs];exact⟨_,_,rfl,hzc,r3⟩⟩⟩)
  (λv2 s st e2 d h=>by cases h;exact⟨v,true,_,rfl,yl _,λ_=>⟨rfl,λb2 cur2 hb2 hcur=>by
    cases hb2;rw[hb] at hcur;cases hcur;exact⟨ncs,zU,hncs⟩⟩⟩)
 have h1:c.args= #[x]:=by rw[<-ycz (xs:=c.args),yQ]
 have h2':c.argTypes= #[t]:=by rw[<-ycz (xs:=c.argTypes),htys]
 have hzv:(zeroValue e).run P σ.w=.ok zv σ.w:=by simp[zeroValue,typeInfo,hi,hzz]
 have zO:(Builtin.clear_ #[t] o.type #[a.eval x]).run P σ.w=.ok (.tuple #[]) σ'.w:=by
  rw[hv];simp[Builtin.clear_,run_underlying ht,hzv,ZtG,hst,σ',ncs]
 refine ZX (σ':=σ') (v:=.tuple #[]) ?_ to ok' ?_
 ·simp[execOp,ho,resolve,yR,h1,h2',invoke,builtin,zO]
 ·rw[Zi rfl];simp only[yG];exact⟨#[],rfl,by simp[repVs]⟩
theorem ZrO(ok:Ok σ)(yK:RepT σ ts a){t:yb}{x:yn}{lo hi:yO yn}(ho:o.op=.slice t x lo hi none)(h:evR P o ts σ.H hs=some (C,d,hs'))(hc:AllP C):Wd P o a σ d σ.H:=by
 simp only[evR,ho] at h;have hx:=Zq (P:=P) yK t x;split at h
 ·rename_i e id v s l0 n l r hs1 hu hdx hl hr;rw[hdx] at hx;split at h
  ·rename_i v' s' st e' dd hH;split at h
   ·rename_i N hN;split at h
    ·rename_i hk;simp only[yi,yP,yT] at hk;simp only[yE] at hk;obtain⟨⟨⟨⟨k1,k2⟩,k3⟩,k4⟩,k5⟩:=hk;subst k3;subst k4;cases h;obtain⟨c1,c2,c3,_⟩:=hc;obtain⟨A,c,hx,h2,h3,h4,h5,h6⟩:=ZhX hx
     have hcap:N<=l0+c/\(0 < c->∃b o',A=some ⟨b,o',none⟩):=by
      obtain⟨v2,s2,st2,e2,d2,g1,g2,g3⟩:=h6;rw[hH] at g1;cases g1;obtain⟨_,g4⟩:=g3 rfl;have hidlt:id < σ.m.length:=by rw[ok.len];exact(yo.1 hH).1
      have hmi:σ.m[id]? =some σ.m[id]:=yad hidlt;obtain⟨N2,q1,q2⟩:=ok.ent id _ _ hH hmi;rw[hN] at q1;cases q1;rcases g4 with⟨g5,rfl,g6⟩|⟨b,cur,g5,g6,g7,g8⟩
      ·all_goals grind
      ·rw[hmi] at g5;have g5:=ybw g5;rcases q2 with⟨q2,_⟩|⟨b2,cur2,cap,q2,q3,q4,q5,q6,_⟩
       ·grind
       ·rw[q2] at g5;cases g5;rw[g6] at q3;cases q3;refine⟨?_,λh=>⟨b,_,g8 h⟩⟩;have:cap*s'=(l0+c)*s':=by rw[<-q4,g7]
        have:=Nat.eq_of_mul_eq_mul_right (Nat.pos_of_ne_zero k5) this;omega
     have hbd:∃p q,(Instr.sliceBounds true n c (lo.map a.eval) (hi.map a.eval) none).run P σ.w=.ok (p,q,c) σ.w/\p=(l.getD 0).toNat/\q=r.toNat/\p<=q/\q<=c:=by
      rcases Y7 yK hr with⟨_,q⟩|⟨k2,i2,e2,q2⟩
      ·cases q
      cases q2;have b2:0<=r/\r<=(c:Int):=⟨by omega,by omega⟩;rcases Y7 yK hl with⟨e1,q⟩|⟨k1,i1,e1,q1⟩
      ·subst q;refine⟨0,r.toNat, ?_,rfl,rfl,Nat.zero_le _,by omega⟩;rw[e1,e2];simp[Instr.sliceBounds,Instr.sliceBound,asIntOf,b2]
      ·subst q1;simp only[Option.getD_some] at c1 c2;have b1:0<=i1/\i1<=(r.toNat:Int):=⟨c1,by omega⟩;refine⟨i1.toNat,r.toNat, ?_,rfl,rfl,by omega,by omega⟩;rw[e1,e2];simp[Instr.sliceBounds,Instr.sliceBound,asIntOf,b1,b2];omega
     obtain⟨p,q,hb,rfl,rfl,hpq,hqc⟩:=hbd;refine Zn (v:=.slice (if c=(l.getD 0).toNat then A else A.map (·.add ((l.getD 0).toNat*s'))) (r.toNat - (l.getD 0).toNat) (c - (l.getD 0).toNat)) ok ?_ ?_
     ·have zO:(Instr.sliceAt t (a.eval x) (lo.map a.eval) (hi.map a.eval) none).run P σ.w=.ok (.slice (if c=(l.getD 0).toNat then A else A.map (·.add ((l.getD 0).toNat*s'))) (r.toNat - (l.getD 0).toNat) (c - (l.getD 0).toNat)) σ.w:=by
       rw[hx];simp[Instr.sliceAt,Instr.slice,run_underlying hu,hb,Yg k2,k1]
      simp[execOp,ho,zO]
     ·exact ZEk h2 h3 h4 hcap.2 h6 hpq hqc
    ·cases h
   ·cases h
  ·cases h
 ·rename_i n e id off yM l r hs1 hu hdx hl hr;split at h
  ·rename_i dd hH;split at h
   ·rename_i C1 off' n' s xs hs2 hg;split at h
    ·rename_i hk;simp only[yi,yP] at hk;obtain⟨⟨⟨rfl,k2⟩,k3⟩,k4⟩:=hk;cases h;obtain⟨c1,c2⟩:=Zk.1 hc;obtain⟨c1,c3⟩:=Zk.1 c1;have:=ZIA ok yK ho hu hdx hl hr hH hg c1 c3.1 k2 k3 k4 c2
     have e1:σ.H.set id (.var dd false)=σ.H:=by
      obtain⟨h1,h2⟩:=yo.1 hH;rw[<-h2,List.set_getElem_self]
     grind
    ·cases h
   ·cases h
  ·cases h
 ·cases h
theorem ZC2(ok:Ok σ)(yK:RepT σ ts a)(h:evE P o ts σ.H hs=some (C,d,H',hs'))(hc:AllP C):Wd P o a σ d H':=by
 unfold evE at h;split at h
 ·rename_i x ho;have hv:=Zq (P:=P) yK o.type x;split at h
  ·rename_i t' hs1;split at h
   ·split at h
    ·rename_i e s hu hx;rw[hx] at hv;split at h
     ·rename_i i hi;split at h
      ·cases h;obtain⟨to,ok'⟩:=V0 (σ':={ σ with m:=σ.m++[none],H:=σ.H++[.log i.size e []]}) ok rfl rfl rfl rfl (World.grownBy.refl σ.w none) (.inl rfl) (λ_=>.inl ⟨rfl,rfl⟩);refine ZX (σ':={ σ with m:=σ.m++[none],H:=σ.H++[.log i.size e []]}) (v:=.slice none 0 0) (by simp[execOp,ho,ZnI hv]) to ok' ?_;rw[Zi rfl];simp only[yG];refine⟨λ_ hx=>(by cases hx),none,0,rfl,yl _,by simp[maxLen],Yp _,λ_=>rfl,λh=>absurd rfl h,e,[],by simp,yl _,λ_=>.inl ⟨?_,rfl,rfl⟩⟩;rw[yat (by rw[ok.len];exact yl _),ok.len];simp
      ·cases h
     ·cases h
    ·cases h
   ·cases h
  ·rename_i t' hs1;split at h
   ·split at h
    ·rename_i e s hu hx;rw[hx] at hv;split at h
     ·rename_i i hi;split at h
      ·cases h;let σ':Sg:={ σ with m:=σ.m++[none],H:=σ.H++[.row 0 i.size true e (.p (.arr 0 i.size []))]}
       have hmlast:σ'.m[σ.H.length]? =some none:=by
        show(σ.m++[none])[σ.H.length]? =_;rw[yat (by rw[ok.len];exact yl _),ok.len];simp
       obtain⟨to,ok'⟩:=V0 (σ':=σ') ok rfl rfl rfl rfl (World.grownBy.refl σ.w none) (.inl rfl) (λ_=>⟨0,by simp[rowN],.inl ⟨rfl,rfl⟩⟩);refine ZX (σ':=σ') (v:=.slice none 0 0) (by simp[σ',execOp,ho,ZnI hv]) to ok' ?_;rw[Zi rfl];simp only[yG];exact⟨none,0,rfl,yl _,by simp[maxLen],λ_=>rfl,λh=>absurd h (Nat.lt_irrefl _),0,i.size,true,e,.p (.arr 0 i.size []),by simp[σ'],yl _,λ_=>⟨rfl,.inl ⟨hmlast,rfl,rfl⟩⟩⟩
      ·cases h
     ·cases h
    ·cases h
   ·cases h
  ·rename_i t' hs1;split at h
   ·exact ZBj ok yK (by simp[execOp,ho]) h hc
   ·cases h
  ·cases h
 ·rename_i x ho;split at h
  ·rename_i t' hs1;split at h
   ·exact ZBj ok yK (by simp[execOp,ho]) h hc
   ·cases h
  ·cases h
 ·rename_i t l c ho;split at h
  ·rename_i e n n' hu hl hcp;split at h
   ·rename_i i hs1 hi;split at h
    ·rename_i hk;simp only[yi,yE] at hk;cases h;exact ZCZ ok yK ho hu hl hcp hi hk.1 hk.2 hc.1 hc.2.1 hc.2.2.1 hc.2.2.2.1
    ·cases h
   ·rename_i i hs1 hi;split at h
    ·rename_i hk;simp only[yi,yE] at hk;cases h;exact ZC0 ok yK ho hu hl hcp hi hk.1 hc.1 hc.2.1 hc.2.2.1 hc.2.2.2.1
    ·cases h
   ·cases h
  ·cases h
 ·rename_i t ho;cases h;exact ZCY ok ho
 ·rename_i t m k x ho;split at h
  ·rename_i kt et id hu hx;split at h
   ·rename_i kk v t' kvs l hs1 hk hv hH;split at h
    ·rename_i hkt;cases h;exact ZxE ok yK ho hu hx hk hv hH hkt hc.1 hc.2.1 hc.2.2.1
    ·cases h
   ·cases h
  ·cases h
 ·rename_i t ho;split at h
  ·rename_i i hi;split at h
   ·split at h
    ·rename_i hk;simp only[yi] at hk;cases h;exact ZpX (ZHb ok ho hi (by obtain⟨z,hz,_⟩:=Zb8 hk.1.1;rw[hz];rfl) hk.1.2 hk.2) _
    ·cases h
   ·cases h
  ·cases h
 ·rename_i t x ho;have hv:=Zq (P:=P) yK t x;split at h
  ·split at h
   ·rename_i hk;cases h;refine ZpX (ZKA ok ho hk ?_) _;unfold ZzF;split
    ·rename_i y hy;exact ZCM hy hv
    ·exact hv
   ·cases h
  ·cases h
 ·rename_i t x y ho;split at h
  ·rename_i id off yM hx;split at h
   ·rename_i dd hH;split at h
    ·rename_i C1 off' sub hs1 hg;split at h
     ·rename_i new hn;split at h
      ·rename_i d' hp;split at h
       ·rename_i hk;simp only[yi,yT] at hk;obtain⟨⟨⟨⟨k1,k2⟩,k3⟩,k4⟩,k5⟩:=hk;split at h
        ·cases h;obtain⟨c1,c2⟩:=Zk.1 hc;exact ZvO (ZHd ok yK ho hx hH hg c1 c2.1 hn hp k1 k2 k3 k4) hH _
        ·cases h
       ·cases h
      ·cases h
     ·cases h
    ·cases h
   ·cases h
  ·rename_i id v off yM hx;split at h
   ·rename_i v' s e dd hH;split at h
    ·rename_i C1 off' sub hs1 hg;split at h
     ·rename_i new hn;split at h
      ·rename_i d' hp;split at h
       ·rename_i hk;simp only[yi,yT] at hk;obtain⟨⟨⟨⟨⟨⟨k1,k2⟩,k3⟩,k4⟩,k5⟩,k6⟩,k7⟩:=hk;cases h;obtain⟨c1,c2⟩:=Zk.1 hc;exact ZxG ok yK ho hx hH k6 hg c1 c2.1 hn hp k1 k2 k3 k4 k7
       ·cases h
      ·cases h
     ·cases h
    ·cases h
   ·cases h
  ·cases h
 ·rename_i t len parts ho;split at h
  ·rename_i id hs1;split at h
   ·rename_i e v s st e' dd hu hH;split at h
    ·rename_i i xs hi hl;split at h
     ·rename_i hk;simp only[yi,yE,yP,yT] at hk;obtain⟨⟨hk,rfl⟩,rfl⟩:=hk;cases h;exact ZzP ok yK ho hu hi hk.1.1 hk.1.2 hk.2 hl hH
     ·cases h
    ·cases h
   ·cases h
  ·rename_i hs1;split at h
   ·rename_i e hu;split at h
    ·rename_i i xs hi hl;split at h
     ·rename_i hk;simp only[yi,yE,yP] at hk;cases h;exact ZC1 ok yK ho hu hi hk.1.1 hk.1.2 hk.2 hl
     ·cases h
    ·cases h
   ·cases h
  ·rename_i hs1;split at h
   ·rename_i e hu;split at h
    ·rename_i i xs hi hl;split at h
     ·rename_i hk;simp only[yi,yE,yP] at hk;cases h;exact ZqX (ZCR ok yK ho hu hi hk.1.1 hk.1.2 hk.2 hl) (Wk.own_nn (by rw[<-Pl.softs_map];exact softs_wk _)) (WkH.append (WkH.refl _) (.cons (.log (by rw[<-Pl.softs_map];exact softs_wk _)) .nil))
     ·cases h
    ·cases h
   ·cases h
  ·cases h
 ·rename_i t x lo hi ho;split at h
  ·rename_i n e id off yM l r hu hx hl hr;split at h
   ·rename_i hs1;split at h
    ·rename_i dd st hH;split at h
     ·rename_i C1 off' n' s xs hs2 hg;split at h
      ·rename_i hk;simp only[yi,yP] at hk;obtain⟨⟨⟨rfl,k2⟩,k3⟩,k4⟩:=hk;cases h;obtain⟨c1,c2⟩:=Zk.1 hc;obtain⟨c1,c3⟩:=Zk.1 c1;exact ZIA ok yK ho hu hx hl hr hH hg c1 c3.1 k2 k3 k4 c2
      ·cases h
     ·cases h
    ·cases h
   ·cases h
  ·rename_i e id v s lo' n l r hu hx hl hr;split at h
   ·rename_i hs1;split at h
    ·rename_i v' s' e' N s2 xs hH;split at h
     ·rename_i hk;simp only[yi,yT,yE,yP] at hk;obtain⟨⟨⟨⟨⟨⟨⟨k1,k2⟩,k3⟩,k4⟩,k5⟩,k6⟩,k7⟩,k8⟩:=hk;simp only[yq,yab] at h;obtain⟨rfl,rfl,rfl,rfl⟩:=h;subst k3;subst k4;subst k5;subst k7
      have hR:evR P o ts σ.H (.raw::hs1)=some ([0<=l.getD 0,l.getD 0<=r,0+r.toNat<=N],.rv id v' s2 (0+(l.getD 0).toNat) (r.toNat - (l.getD 0).toNat),hs1):=by
       unfold evR;rw[ho];dsimp only;rw[hu,hx,hl,hr];dsimp only;rw[hH];simp[rowN,k1,k2,k6]
      have:=ZrO ok yK ho hR ⟨by rw[k8];omega,by rw[k8];exact hc.1,by rw[yay];exact hc.2.1,ytt⟩;rw[k8] at this;exact ZqX this (Wk.of_eq (by simp)) (WkH.set_at hH (.shr hc.2.1))
     ·cases h
    ·cases h
   ·cases h
  ·cases h
 ·rename_i c ho;split at h
  ·rename_i yR;split at h
   ·rename_i x y t u yQ htys;split at h
    ·rename_i e id nn s xs hu hx;split at h
     ·rename_i i C1 ys hs1 s' e' zs hi hsrc hH;split at h
      ·rename_i hk;simp only[yi,yE,yP] at hk;obtain⟨⟨⟨⟨k1,k2⟩,rfl⟩,rfl⟩,k5⟩:=hk;cases h;obtain⟨c1,rfl,c2,c3,_⟩:=Zk.1 hc;exact ZvK ok yK ho yR yQ htys hu hx hi k1 k2 k5 (Zjp ok yK hsrc c1) hH c2 c3
      ·cases h
     ·cases h
    ·rename_i e s hu hx;split at h
     ·rename_i hs1 i ys hi hsrc;split at h
      ·rename_i hk;simp only[yi,yE] at hk;cases h;exact ZvJ ok yK ho yR yQ htys hu hx hi hk.1 hk.2 hsrc hc.1 hc.2.1
      ·cases h
     ·rename_i hs1 i ys hi hsrc;split at h
      ·rename_i hk;simp only[yi,yE] at hk;cases h;exact ZtD ok yK ho yR yQ htys hu hx hi hk.1 hk.2 (Zac (P:=P) yK hsrc) hc.1 hc.2.1
      ·cases h
     ·cases h
    ·rename_i e id v s lo n hu hx;split at h
     ·rename_i hs0;split at h
      ·rename_i i C1 ys hs1 hi hsrc;split at h
       ·rename_i hk;cases h;obtain⟨c1,rfl,_⟩:=Zk.1 hc;exact ZtE ok yK ho yR yQ htys hu hx hi (Zjp ok yK hsrc c1)
       ·cases h
      ·cases h
     ·rename_i hs0;split at h
      ·rename_i i C1 ys hs1 v' s' st' e' N s'' xs hi hsrc hH;split at h
       ·rename_i hk;simp only[yi,yE,yP,yT] at hk;obtain⟨⟨⟨⟨⟨⟨⟨k1,rfl⟩,rfl⟩,rfl⟩,rfl⟩,k5⟩,rfl⟩,rfl⟩:=hk;cases h;obtain⟨c1,cc⟩:=Zk.1 hc;have c2:=cc.1;have c3:=cc.2.1;have c4:=cc.2.2.1;have c5:=cc.2.2.2.1;exact ZvQ ok yK c5 ho yR yQ htys hu hx hi k1 k5 (Zjp ok yK hsrc c1) hH c2 c3 c4
       ·cases h
      ·cases h
     ·rename_i hs0;split at h
      ·rename_i i C1 ys hs1 v' s' e' N s'' xs hi hsrc hH;split at h
       ·rename_i hk;simp only[yi,yE,yP,yT] at hk;obtain⟨⟨⟨⟨⟨⟨⟨k1,rfl⟩,rfl⟩,rfl⟩,rfl⟩,k5⟩,rfl⟩,rfl⟩:=hk;cases h;obtain⟨c1,cc⟩:=Zk.1 hc;exact ZtF ok yK ho yR yQ htys hu hx hi k1 k5 (Zjp ok yK hsrc c1) hH cc.1 cc.2.1
       ·cases h
      ·cases h
     ·cases h
    ·cases h
   ·cases h
  ·rename_i yR;split at h
   ·rename_i x t yQ htys;split at h
    ·rename_i e id v s lo n hu hx;split at h
     ·rename_i i z v' s' e' N s'' xs hi hz hH;split at h
      ·rename_i hk;simp only[yi,yE,yP,yT] at hk;obtain⟨⟨⟨⟨⟨⟨k1,rfl⟩,rfl⟩,rfl⟩,rfl⟩,k5⟩,k6⟩:=hk;cases h;obtain⟨rfl,hc1,_⟩:=hc;exact ZqX (ZxH ok yK ho yR yQ htys hu hx hi k1 k5 hz k6 hH hc1) (Wk.refl _) (WkH.set_same _ _ (.row ⟨Wk.p (PlWk.arr_mk (PlsWk.set_same (Zjj z) _ _)),rfl⟩))
      ·cases h
     ·cases h
    ·cases h
   ·cases h
  ·rename_i yR;split at h
   ·rename_i x y t u yQ htys;split at h
    ·rename_i e id off yM s lo n hu hx;split at h
     ·rename_i ys dd hsrc hH;split at h
      ·rename_i C1 off' N s' xs hs1 hg;split at h
       ·rename_i dd' hp;split at h
        ·rename_i hk;simp only[yi,yP] at hk;obtain⟨⟨rfl,k2⟩,k3⟩:=hk;cases h;obtain⟨c1,c2⟩:=Zk.1 hc;exact ZIU ok yK ho yR yQ htys hu hx hsrc hH hg c1 c2.1 hp k2 k3 c2.2.1 c2.2.2.1
        ·cases h
       ·cases h
      ·cases h
     ·cases h
    ·cases h
   ·cases h
  ·rename_i f yR;split at h
   ·rename_i g cap r Hc ids hs1 hf;split at h
    ·rename_i hk;simp only[yi,yT,yP] at hk;split at h
     ·rename_i args' Hin r' Hb yQ hin hr hb;cases h;exact ZrG ok yK ho yR hf hk.1.1.1 hk.1.1.2 hk.1.2 hk.2 yQ hin hr hb hc.1
     ·cases h
    ·cases h
   ·cases h
  ·rename_i recv name yR;split at h
   ·rename_i t x g r Hc ids hs1 hf;split at h
    ·rename_i hk;simp only[yi,yT,yP] at hk;split at h
     ·rename_i args' Hin r' Hb yQ hin hr hb;cases h;exact ZvL ok yK ho yR hf hk.1.1.1 hk.1.1.2 hk.1.2 hk.2 yQ hin hr hb hc.1 hc.2.1
     ·cases h
    ·cases h
   ·cases h
  ·cases h
 ·cases h
theorem ZrP(ok:Ok σ)(yK:RepT σ ts a)(h:Zga P o ts σ.H hs=some (C,d,H',hs'))(hc:AllP C):Wd P o a σ d H':=by
 unfold Zga at h;split at h
 ·rename_i C1 d1 hs1 h1;cases h;exact ZCW ok yK h1 hc
 ·split at h
  ·rename_i C1 d1 hs1 h1;cases h;have h2:=h1;unfold evR at h2;split at h2
   ·rename_i t x ho;exact ZIT ok yK ho h1 hc
   ·rename_i t x lo hi ho;exact ZrO ok yK ho h1 hc
   ·rename_i t x ix comma ho;exact ZEq ok yK ho h1 hc
   ·rename_i c ho;split at h2
    ·rename_i yR;exact ZEr ok yK ho yR h1 hc
    ·cases h2
   ·cases h2
  ·exact ZC2 ok yK h hc
theorem Zgn{σ':Sg}{v:yh}(yK:RepT σ' ts a)(hd:yH σ' d v):RepT σ' (Zkp ts o.dst d) (a.put o.dst v):=by
 unfold Zkp Act.put
 cases o.dst with
 |none=>exact yK
 |some t=>
  refine⟨by simpa using yK.size,λi e hi=> ?_,yK.defers⟩;rw[ybq] at hi;split at hi
  ·rename_i h;subst h;split at hi
   ·rename_i hlt;cases hi;have:t < a.tmps.size:=by rw[yK.size];exact hlt
    simpa[Array.getD,this] using hd
   ·cases hi
  ·rename_i h;have:=yK.at_ i e hi;simpa[Array.getD_eq_getD_getElem?,Array.getElem?_setIfInBounds,h] using this
theorem ZxI{v:yh}{σ':Sg}{dst:yO Tmp}(hc:AllP (ZqG dst d hs).1)(hd:yH σ' d v):yH σ' (ZqG dst d hs).2.1 v:=by
 exact hd
theorem ZpY{σ':Sg}:yH σ' (.tup []) undef:=by
 rw[Zi rfl];simp only[yG];exact⟨#[],rfl,by simp[repVs]⟩
theorem Ziv{ops:Array ym}(ok:Ok σ)(yK:RepT σ ts a)(h:evG P ops o ts σ.H hs=some (C,d,H',hs'))(hc:AllP C)(K:Act->yz->Prop)(Q:Exit->Act->yz->Prop)
 (hK:∀v σ',σ'.H=H'->To σ σ'->Ok σ'->RepT σ' (Zkp ts o.dst d) (a.put o.dst v)->K (a.put o.dst v) σ'.w):
 if Region.wanted o (yielded ops a.tmps) then o.wp P a σ.w K Q else K (a.put o.dst undef) σ.w:=by
 unfold evG at h;split at h
 ·rename_i hg;simp only[yu,yab] at h;obtain⟨⟨C1,d1,H1,hs1⟩,h1,rfl,rfl,rfl,rfl⟩:=h;obtain⟨c1,c2⟩:=Zk.1 hc;have hw:Region.wanted o (yielded ops a.tmps)=true:=by simp[Region.wanted,hg]
  rw[yW hw];exact ZrP ok yK h1 c1 K Q λv σ' e1 to ok' hd=>hK v σ' e1 to ok' (Zgn (yK.to to.leaf) (ZxI c2 hd))
 ·rename_i j want hg;split at h
  ·rename_i t β hs1 ht
   have hy:yielded ops a.tmps j=some t:=by
    unfold yielded;simp only[yu] at ht;obtain⟨tt,h1,h2⟩:=ht;rw[h1];simp only[Option.bind_some]
    have hlt:tt < ts.length:=by
     all_goals grind
    have h3:=yK.at_ tt (.p (.bool t)) (by
     have:=yad hlt;simp only[List.getD,this,Option.getD_some] at h2;rw[this,h2])
    have h4:=YP h3;have hlt':tt < a.tmps.size:=by rw[yK.size];exact hlt
    simp_all
   split at h
   ·rename_i hb;simp only[yu,yab] at h;obtain⟨⟨C1,d1,H1,hs2⟩,h1,rfl,rfl,rfl,rfl⟩:=h;obtain⟨c0,hc'⟩:=hc;obtain⟨c1,c2⟩:=Zk.1 hc';have hw:Region.wanted o (yielded ops a.tmps)=true:=by simp[Region.wanted,hg,hy,c0,hb]
    rw[yW hw];exact ZrP ok yK h1 c1 K Q λv σ' e1 to ok' hd=>hK v σ' e1 to ok' (Zgn (yK.to to.leaf) (ZxI c2 hd))
   ·rename_i hb;cases h;have c0:t=β:=hc.1
    have hw:Region.wanted o (yielded ops a.tmps)=false:=by
     simp only[Region.wanted,hg,hy,c0];grind
    rw[hw];exact hK undef σ rfl (To.refl σ) ok (Zgn yK ZpY)
  ·rename_i hs1 ht;cases h
   have hy:yielded ops a.tmps j=none:=by
    unfold yielded;simp only[yu] at ht;obtain⟨tt,h1,h2⟩:=ht;rw[h1];simp only[Option.bind_some]
    have hlt:tt < ts.length:=by
     all_goals grind
    have h3:=yK.at_ tt (.tup []) (by
     have:=yad hlt;simp only[List.getD,this,Option.getD_some] at h2;rw[this,h2])
    have h4:=h3.2 rfl;simp only[yG] at h4;obtain⟨cs,h5,h6⟩:=h4;have hlt':tt < a.tmps.size:=by rw[yK.size];exact hlt
    simp_all
   have hw:Region.wanted o (yielded ops a.tmps)=false:=by
    simp only[Region.wanted,hg,hy];grind
   rw[hw];exact hK undef σ rfl (To.refl σ) ok (Zgn yK ZpY)
  ·cases h
theorem ZpZ{ops:Array ym}(Q:Exit->Act->yz->Prop){ts':yL Dv}:∀(l:yL ym)(k:Nat)(ts:yL Dv)(σ:Sg)(a:Act)(hs hs':yL Hint)(C:yL Prop)(H':yL Ent),
 (∀j,l[j]? =ops[k+j]?)->Ok σ->RepT σ ts a->evOps P ops l ts σ.H hs=some (C,ts',H',hs')->AllP C->
 (∀a' σ',σ'.H=H'->To σ σ'->Ok σ'->RepT σ' ts' a'->Q .normal a' σ'.w)->wpOps P ops Q (List.range' k l.length) a σ.w
 |[],k,ts,σ,a,hs,hs',C,H',_,ok,yK,h,hc,hQ=>by
  simp only[evOps,yq,yab] at h;obtain⟨rfl,rfl,rfl,rfl⟩:=h
  exact hQ a σ rfl (To.refl σ) ok yK
 |o::l,k,ts,σ,a,hs,hs',C,H',hl,ok,yK,h,hc,hQ=>by
  simp only[evOps] at h;split at h
  ·rename_i C1 d1 H1 hs1 h1;split at h
   ·rename_i C2 ts2 H2 hs2 h2;cases h;obtain⟨c1,c2⟩:=Zk.1 hc;have h0:ops[k]? =some o:=by simpa using(hl 0).symm
    simp only[yao,List.range'_succ,wpOps,h0]
    have key:=Ziv (P:=P) (ops:=ops) ok yK h1 c1 (wpOps P ops Q (List.range' (k+1) l.length)) Q (λv σ1 e1 to1 ok1 hrep1=>by
     subst e1
     exact ZpZ Q l (k+1) _ σ1 _ hs1 _ C2 _ (λj=>by have:=hl (j+1);simpa[ych,Nat.add_comm 1 j] using this) ok1 hrep1 h2 c2
      (λa' σ' e2 to2 ok2 hrep2=>hQ a' σ' e2 (to1.trans to2) ok2 hrep2))
    all_goals grind
   ·cases h
  ·cases h
end
end Go.Ev
end
section
namespace Go.Ev
section
variable{P:yg}{o:ym}{ts:yL Dv}{H H' H2:yL Ent}{hs hs':yL Hint}{C:yL Prop}{d:Dv}
theorem ZEs{id:Nat}(h:ZoY P o ts=some id)(hx:exO o=false)(e:rdE (H[id]?)=rdE (H2[id]?)):evR P o ts H2 hs=evR P o ts H hs:=by
 unfold ZoY at h;unfold evR
 cases ho:o.op with
 |load t a=>
  simp only[ho] at h ⊢
  cases ha:argD P ts 0 a with
  |ref i off yM=>
   simp only[ha,yq] at h;subst h;simp only
   cases h1:H[i]? with
   |none=>
    rw[h1] at e
    cases h2:H2[i]? with
    |none=>rfl
    |some x=>rw[h2] at e;cases x <;> simp[rdE] at e
   |some y=>
    rw[h1] at e
    cases h2:H2[i]? with
    |none=>rw[h2] at e;cases y <;> simp[rdE] at e
    |some x=>
     rw[h2] at e
     cases x <;> cases y <;> simp_all[rdE]
  |rref i v off yM=>
   simp only[ha,yq] at h;subst h;simp only
   cases h1:H[i]? with
   |none=>
    rw[h1] at e
    cases h2:H2[i]? with
    |none=>rfl
    |some x=>rw[h2] at e;cases x <;> simp[rdE] at e
   |some y=>
    rw[h1] at e
    cases h2:H2[i]? with
    |none=>rw[h2] at e;cases y <;> simp[rdE] at e
    |some x=>
     rw[h2] at e
     cases x <;> cases y <;> simp_all[rdE]
  |_=>simp[ha] at h
 |lookup t x ix ok=>
  simp only[ho] at h ⊢
  cases ha:argD P ts t x with
  |mp i=>
   simp only[ha,yq] at h;subst h
   have hk:H2[i]? =H[i]? \/((∃d1 s1,H[i]? =some (.var d1 s1))/\∃d2 s2,H2[i]? =some (.var d2 s2))\/((∃v1 s1 t1 e1 d1,H[i]? =some (.row v1 s1 t1 e1 d1))/\∃v1 s1 t1 e1 d1,H2[i]? =some (.row v1 s1 t1 e1 d1)):=by
    cases h1:H[i]? with
    |none=>
     rw[h1] at e
     cases h2:H2[i]? with
     |none=>exact .inl rfl
     |some x=>rw[h2] at e;cases x <;> simp[rdE] at e
    |some y=>
     rw[h1] at e
     cases h2:H2[i]? with
     |none=>rw[h2] at e;cases y <;> simp[rdE] at e
     |some x=>
      rw[h2] at e;cases x <;> cases y <;> simp_all[rdE]
   cases P.underlying t with
   |none=>rfl
   |some u=>
    cases u with
    |map kt et=>
     dsimp only;rcases hk with hk|⟨⟨d1,s1,k1⟩,d2,s2,k2⟩|⟨⟨_,_,_,_,_,k1⟩,_,_,_,_,_,k2⟩
     ·rw[hk]
     ·rw[k1,k2];cases argD P ts kt ix <;> rfl
     ·rw[k1,k2]
      cases argD P ts kt ix <;> rfl
    |_=>rfl
  |_=>simp[ha] at h
 |slice t x lo hi mx=>simp[exO,ho] at hx
 |_=>simp[ho] at h
def rqO(o:ym)(x:yO Ent):yO Ent:=if exO o=true then x else rdE x
theorem ZIV{id:Nat}(h:ZoY P o ts=some id)(e:rqO o (H[id]?)=rqO o (H2[id]?)):evR P o ts H2 hs=evR P o ts H hs:=by
 unfold rqO at e
 cases hx:exO o with
 |false=>
  rw[hx] at e
  exact ZEs h hx (by simpa using e)
 |true=>
  rw[hx,yW rfl,yW rfl] at e;unfold exO at hx;split at hx
  ·rename_i t x lo hi mx ho;unfold ZoY at h;rw[ho] at h;unfold evR;rw[ho]
   cases mx with
   |some m=>simp at h
   |none=>
    dsimp only at h ⊢;split at h
    ·rename_i i off yM ha;cases h;rw[ha]
     cases P.underlying t with
     |none=>rfl
     |some u=>
      cases Zeh P ts lo with
      |none=>cases u <;> rfl
      |some l=>
       cases Zeh P ts hi with
       |none=>cases u <;> rfl
       |some h'=>
        cases hs with
        |nil=>cases u <;> rfl
        |cons hd tl=>cases u <;> cases hd <;> first|rfl|(dsimp only;rw[e])
    ·cases h
  ·cases hx
theorem ZC3{H:yL Ent}{x:Ent}{i:Nat}(hi:i < H.length):rdE ((H++[x])[i]?)=rdE (H[i]?):=by
 grind
theorem ZzQ{H:yL Ent}{x:Ent}{i id:Nat}(h:¬id=i):rdE ((H.set id x)[i]?)=rdE (H[i]?):=by
 grind
theorem ZBl{H:yL Ent}{dd:Dv}{i id:Nat}(hh:∃st,H[id]? =some (.var dd st)):rdE ((H.set id (.var dd false))[i]?)=rdE (H[i]?):=by
 obtain⟨st,h⟩:=hh;by_cases e:id=i
 ·subst e;rw[ybq,yW rfl,yW (yo.1 h).1,h];rfl
 grind
theorem ZEt{H:yL Ent}{dd:Dv}{v s:Nat}{e:yb}{i id:Nat}(hh:∃st,H[id]? =some (.row v s st e dd)):rdE ((H.set id (.row v s false e dd))[i]?)=rdE (H[i]?):=by
 obtain⟨st,h⟩:=hh;by_cases e:id=i
 ·subst e;rw[ybq,yW rfl,yW (yo.1 h).1,h];rfl
 grind
theorem ZrQ:∀(ids:yL Nat)(H Hb:yL Ent){i:Nat},i < H.length->ids.contains i=false->rdE ((putBack H ids Hb)[i]?)=rdE (H[i]?)
 |[],H,Hb,i,hi,_=>by
  simp only[putBack]
  grind
 |_::_,H,[],i,hi,_=>by simp only[putBack]
 |id::r,H,e::Hb,i,hi,h=>by
  simp only[List.contains_cons,Bool.or_eq_false_iff,beq_eq_false_iff_ne] at h;simp only[putBack];rw[ZrQ r (H.set id e) Hb (by simpa using hi) h.2];grind
theorem ZEu{dv:Dv}{i:Nat}(h:Zf9 dv H hs=some (C,d,H',hs')):rdE (H'[i]?)=rdE (H[i]?):=by
 unfold Zf9 at h
 repeat' split at h
 all_goals first
  |(cases h;done)
  |(cases h
    first
     |exact ZBl ⟨_,by assumption⟩
     |(rename_i hk
       simp only[yi,yP,yT] at hk;obtain⟨⟨rfl,rfl⟩,rfl⟩:=hk;exact ZEt ⟨_,by assumption⟩))
theorem Zux{l:yL Nat}{i:Nat}(h:evE P o ts H hs=some (C,d,H',hs'))(ht:ZdY P o ts hs=some l)(hi:i < H.length)(hl:l.contains i=false):rdE (H'[i]?)=rdE (H[i]?):=by
 unfold evE at h
 repeat' (first|split at h|(dsimp only at h;split at h))
 all_goals first
  |(cases h;done)
  |exact ZEu h
  |(cases h
    first
     |rfl
     |exact ZC3 hi
     |(rw[yba hi];done)
     |exact ZBl ⟨_,by assumption⟩
     |(rw[yba (by simpa using hi)]
       refine ZzQ ?_;rintro rfl;simp_all[ZdY]
       exact hl (by rw[<-ht];simp))
     |(refine ZrQ _ _ _ hi ?_
       simp_all[ZdY])
     |(refine ZzQ ?_
       simp_all[ZdY]
       done)
     |(refine ZzQ ?_
       rintro rfl;simp_all[ZdY];exact hl (by rw[<-ht];simp)))
end
end Go.Ev
end
section
namespace Go.Ev
theorem ZfF(keep:yL Nat):∀(l:yL Dv)(k t:Nat),(maskFrom keep k l)[t]? =(l[t]?).map λd=>if keep.contains (k+t) then d else .junk
 |[],k,t=>by simp[maskFrom]
 |d::l,k,0=>by simp[maskFrom]
 |d::l,k,t+1=>by
  simp only[maskFrom,ybb];rw[ZfF keep l (k+1) t];grind
theorem Qo{σ:Sg}{a:Act}{ts:yL Dv}(keep:yL Nat)(h:RepT σ ts a):RepT σ (maskFrom keep 0 ts) a:=by
 refine⟨?_,λi d hi=> ?_,h.defers⟩
 ·rw[h.size]
  have:∀(l:yL Dv)(k:Nat),(maskFrom keep k l).length=l.length:=by
   intro l
   induction l with
   |nil=>intro k;rfl
   |cons x l ih=>intro k;simp[maskFrom,ih]
  grind
 ·rw[ZfF] at hi;obtain⟨d',h1,h2⟩:=yu.1 hi;split at h2
  ·rw[<-h2];exact h.at_ i d' h1
  ·rw[<-h2];exact XU
theorem Zpa(A:yL Nat)(i j:Nat):∀(es:yL Edge)(m:Nat),(es.foldl (λm e=>if Region.binds .any e&&decide (e.on < i) then m|||(1 <<< e.on)|||A.getD e.on 0 else m) m).testBit j=true->
 m.testBit j=true\/∃e,e∈es/\Region.binds .any e=true/\e.on < i/\(e.on=j\/(A.getD e.on 0).testBit j=true)
 |[],m,h=>.inl h
 |e::es,m,h=>by
  simp only[List.foldl_cons] at h;rcases Zpa A i j es _ h with h1|⟨e',h1,h2⟩
  ·split at h1
   ·rename_i hc;simp only[yi,yP] at hc;simp only[Nat.testBit_or,Bool.or_eq_true,Nat.one_shiftLeft,Nat.testBit_two_pow,yP] at h1
    all_goals grind
   grind
  grind
section
variable{P:yg}{ops:Array ym}
def ZEv(ops:Array ym)(X:Nat->Bool):Prop:=∀i o,ops[i]? =some o->X i=true->∀e,e∈o.after->Region.binds .any e=true->X e.on=true
theorem ZrR{X:Nat->Bool}{A:yL Nat}(hX:ZEv ops X)(hA:∀i o,ops[i]? =some o->A.getD i 0=Zjh A i o):∀(i:Nat),(∃o,ops[i]? =some o)->X i=true->∀j,(A.getD i 0).testBit j=true->X j=true:=by
 intro i
 induction i using Nat.strongRecOn with
 |_ i ih=>
  rintro⟨o,ho⟩ hi j hj;rw[hA i o ho] at hj;unfold Zjh at hj;rcases Zpa A i j _ _ hj with h|⟨e,h1,h2,h3,h4⟩
  ·simp at h
  ·have he:=hX i o ho hi e (by simpa using h1) h2;rcases h4 with h4|h4
   ·rw[<-h4];exact he
   ·have hlt:e.on < ops.size:=by
     grind
    exact ih e.on h3 ⟨ops[e.on],yce hlt⟩ he j h4
def val(n:Nat)(dst:Nat->yO Tmp)(D:Nat->Dv)(ts0:yL Dv)(X:Nat->Bool)(t:Nat):Dv:=
 match (List.range n).find? λj=>X j&&dst j==some t with
 |some j=>D j
 |none=>ts0.getD t .junk
def tsX(n:Nat)(dst:Nat->yO Tmp)(D:Nat->Dv)(ts0:yL Dv)(X:Nat->Bool):yL Dv:=(List.range ts0.length).map (val n dst D ts0 X)
variable{n:Nat}{dst:Nat->yO Tmp}{D:Nat->Dv}{ts0:yL Dv}
theorem Zca(hu:∀i j,i < n->j < n->dst i≠none->dst i=dst j->i=j){X:Nat->Bool}{t j:Nat}(hj:j < n)(hX:X j=true)(hd:dst j=some t):val n dst D ts0 X t=D j:=by
 unfold val;grind
theorem Zcb{X:Nat->Bool}{t:Nat}(h:∀j,j < n->X j=true->dst j≠some t):val n dst D ts0 X t=ts0.getD t .junk:=by
 unfold val;grind
theorem W9{X:Nat->Bool}:(tsX n dst D ts0 X).length=ts0.length:=by simp[tsX]
theorem ZdZ{X:Nat->Bool}{t:Nat}(h:t < ts0.length):(tsX n dst D ts0 X)[t]? =some (val n dst D ts0 X t):=by
 simp[tsX,h]
theorem Zuy{X:Nat->Bool}(h:∀j,j < n->X j=false):tsX n dst D ts0 X=ts0:=by
 apply ybk;intro t;by_cases ht:t < ts0.length
 ·rw[ZdZ ht,Zcb (λj hj hx=>by rw[h j hj] at hx;cases hx)];grind
 ·rw[ybi (by rw[W9];omega),ybi (by omega)]
theorem ZBm(hu:∀i j,i < n->j < n->dst i≠none->dst i=dst j->i=j){X Y:Nat->Bool}{i:Nat}(hi:i < n)(hXi:X i=false)(hY:∀j,j < n->Y j=(X j || decide (j=i))):
 Zkp (tsX n dst D ts0 X) (dst i) (D i)=tsX n dst D ts0 Y:=by
 apply ybk;intro t;by_cases ht:t < ts0.length
 ·rw[ZdZ ht]
  have hother:dst i≠some t->val n dst D ts0 Y t=val n dst D ts0 X t:=by
   intro hne;by_cases hex:∃j,j < n/\X j=true/\dst j=some t
   ·obtain⟨j,h1,h2,h3⟩:=hex;rw[Zca hu h1 h2 h3,Zca hu h1 (by rw[hY j h1,h2];rfl) h3]
   ·rw[Zcb (λj h1 h2 h3=>hex ⟨j,h1,h2,h3⟩),Zcb (λj h1 h2 h3=> ?_)]
    all_goals grind
  unfold Zkp
  cases hd:dst i with
  |none=>
   rw[hother (by rw[hd];simp),ZdZ ht]
  |some t'=>
   rw[ybq];by_cases htt:t'=t
   ·subst htt;rw[yW rfl,yW (by rw[W9];exact ht),Zca hu hi (by rw[hY i hi];simp) hd]
   ·rw[yX htt,ZdZ ht,hother (by rw[hd];simpa using htt)]
 ·have hl:(Zkp (tsX n dst D ts0 X) (dst i) (D i)).length=ts0.length:=by
   unfold Zkp
   cases dst i with
   |none=>rw[W9]
   |some t'=>rw[yan,W9]
  rw[ybi (by rw[hl];omega),ybi (by rw[W9];omega)]
theorem ZC4(hu:∀i j,i < n->j < n->dst i≠none->dst i=dst j->i=j){X Y:Nat->Bool}{keep:yL Nat}(h:∀j t,j < n->dst j=some t->t∈keep->X j=Y j):
 maskFrom keep 0 (tsX n dst D ts0 X)=maskFrom keep 0 (tsX n dst D ts0 Y):=by
 apply ybk;intro t;rw[ZfF,ZfF];by_cases ht:t < ts0.length
 ·rw[ZdZ ht,ZdZ ht];simp only[yaf,yay];by_cases hk:t∈keep
  ·have hkc:keep.contains t=true:=by simpa using hk
   rw[hkc];simp only[if_true];congr 1;by_cases hex:∃j,j < n/\X j=true/\dst j=some t
   ·obtain⟨j,h1,h2,h3⟩:=hex;rw[Zca hu h1 h2 h3,Zca hu h1 (by rw[<-h j t h1 h3 hk];exact h2) h3]
   ·rw[Zcb (λj h1 h2 h3=>hex ⟨j,h1,h2,h3⟩),Zcb (λj h1 h2 h3=>hex ⟨j,h1,by rw[h j t h1 h3 hk];exact h2,h3⟩)]
  grind
 ·rw[ybi (by rw[W9];omega),ybi (by rw[W9];omega)]
end
section
variable{P:yg}{ops:Array ym}
theorem ZvR{o:ym}{ts:yL Dv}{H H2:yL Ent}{hs:yL Hint}{r:yL Prop×Dv×yL Ent×yL Hint}(h:Zga P o ts H hs=some r)(hn:(evN P o ts hs).isSome=true):r.2.2.1=H/\Zga P o ts H2 hs=some (r.1,r.2.1,H2,r.2.2.2):=by
 unfold Zga at h ⊢;grind
theorem ZEw{o:ym}{ts:yL Dv}{H:yL Ent}{hs:yL Hint}{r:yL Prop×Dv×yL Ent×yL Hint}(h:Zga P o ts H hs=some r)(hn:(evN P o ts hs).isSome=false)(hr:(evR P o ts H hs).isSome=true):r.2.2.1=H:=by
 unfold Zga at h;grind
theorem ZEx{o:ym}{ts:yL Dv}{H H2:yL Ent}{hs:yL Hint}{C:yL Prop}{d:Dv}{H':yL Ent}{hs':yL Hint}(h:evG P ops o ts H hs=some (C,d,H',hs'))(hc:clsOf P o ts H hs=0):
 H'=H/\evG P ops o ts H2 hs=some (C,d,H2,hs'):=by
 unfold evG at h ⊢;unfold clsOf at hc
 cases hg:o.guard with
 |none=>
  simp only[hg] at h hc ⊢
  have hn:(evN P o ts hs).isSome=true:=by
   grind
  simp only[yu,yab] at h;obtain⟨⟨C1,d1,H1,hs1⟩,h1,rfl,rfl,rfl,rfl⟩:=h;obtain⟨e1,e2⟩:=ZvR (H2:=H2) h1 hn
  exact⟨e1,by rw[e2];rfl⟩
 |some gw=>
  obtain⟨g,want⟩:=gw;simp only[hg] at h hc ⊢;split at h
  ·rename_i t β hs1 ht;dsimp only at hc;split at h
   ·rename_i hb;rw[yW hb] at hc ⊢
    have hn:(evN P o ts hs1).isSome=true:=by
     grind
    simp only[yu,yab] at h;obtain⟨⟨C1,d1,H1,hs2⟩,h1,rfl,rfl,rfl,rfl⟩:=h;obtain⟨e1,e2⟩:=ZvR (H2:=H2) h1 hn;exact⟨e1,by rw[e2];rfl⟩
   ·rename_i hb;rw[yX hb];cases h;exact⟨rfl,rfl⟩
  ·cases h;exact⟨rfl,rfl⟩
  ·cases h
theorem ZEy{o:ym}{ts:yL Dv}{H:yL Ent}{hs:yL Hint}{C:yL Prop}{d:Dv}{H':yL Ent}{hs':yL Hint}(h:evG P ops o ts H hs=some (C,d,H',hs'))(hc:clsOf P o ts H hs≠2):H'=H:=by
 unfold evG at h;unfold clsOf at hc
 cases hg:o.guard with
 |none=>
  simp only[hg] at h hc;simp only[yu,yab] at h;obtain⟨⟨C1,d1,H1,hs1⟩,h1,rfl,rfl,rfl,rfl⟩:=h
  cases hn:(evN P o ts hs).isSome with
  |true=>exact(ZvR (H2:=[]) h1 hn).1
  |false=>
   cases hr:(evR P o ts H hs).isSome with
   |true=>exact ZEw h1 hn hr
   |false=>simp[hn,hr] at hc
 |some gw=>
  obtain⟨g,want⟩:=gw;simp only[hg] at h hc;split at h
  ·rename_i t β hs1 ht;dsimp only at hc;split at h
   ·rename_i hb;simp only[yW hb] at hc;simp only[yu,yab] at h;obtain⟨⟨C1,d1,H1,hs2⟩,h1,rfl,rfl,rfl,rfl⟩:=h
    cases hn:(evN P o ts hs1).isSome with
    |true=>exact(ZvR (H2:=[]) h1 hn).1
    |false=>
     cases hr:(evR P o ts H hs1).isSome with
     |true=>exact ZEw h1 hn hr
     |false=>simp[hn,hr] at hc
   ·cases h;rfl
  ·cases h;rfl
  ·cases h
theorem ZKC{o:ym}{ts:yL Dv}{H H2:yL Ent}{hs:yL Hint}{C:yL Prop}{d:Dv}{H':yL Ent}{hs':yL Hint}(h:evG P ops o ts H hs=some (C,d,H',hs'))(hc:clsOf P o ts H hs=1)
 (hr:∀hs,evR P o ts H2 hs=evR P o ts H hs):evG P ops o ts H2 hs=some (C,d,H2,hs'):=by
 unfold clsOf at hc;unfold evG at h ⊢
 cases hg:o.guard with
 |none=>
  simp only[hg] at h hc ⊢
  cases hn:evN P o ts hs with
  |some q=>simp[hn] at hc
  |none=>
   cases hq:evR P o ts H hs with
   |none=>simp[hn,hq] at hc
   |some q=>
    unfold Zga at h ⊢;rw[hr];simp only[hn,hq,yaf,yq,yab] at h ⊢
    exact⟨h.1,h.2.1,zY,h.2.2.2⟩
 |some gw=>
  obtain⟨g,want⟩:=gw;simp only[hg] at h hc ⊢;split at h
  ·rename_i t β hs1 ht;dsimp only at hc;split at h
   ·rename_i hb;rw[yW hb] at hc ⊢
    cases hn:evN P o ts hs1 with
    |some q=>simp[hn] at hc
    |none=>
     cases hq:evR P o ts H hs1 with
     |none=>simp[hn,hq] at hc
     |some q=>
      unfold Zga at h ⊢;rw[hr];simp only[hn,hq,yaf,yq,yab] at h ⊢;exact⟨h.1,h.2.1,zY,h.2.2.2⟩
   ·rename_i hb;simp[hb] at hc
  ·simp at hc
  ·cases h
theorem ZC5{o:ym}{ts:yL Dv}{H:yL Ent}{hs:yL Hint}{C:yL Prop}{d:Dv}{H':yL Ent}{hs':yL Hint}{l:yL Nat}{i:Nat}(h:evG P ops o ts H hs=some (C,d,H',hs'))(hc:clsOf P o ts H hs=2)
 (ht:ZvF P o ts hs=some l) (hi:i < H.length) (hl:l.contains i=false):rdE (H'[i]?)=rdE (H[i]?):=by
 unfold ZvF at ht
 cases hg:o.guard with
 |some g=>simp[hg] at ht
 |none=>
  simp only[hg,Option.isNone_none,if_true] at ht;unfold clsOf at hc;unfold evG at h;simp only[hg] at h hc
  cases hn:evN P o ts hs with
  |some q=>simp[hn] at hc
  |none=>
   cases hq:evR P o ts H hs with
   |some q=>simp[hn,hq] at hc
   |none=>
    simp only[yu,yab] at h;obtain⟨⟨C1,d1,H1,hs1⟩,h1,rfl,rfl,rfl,rfl⟩:=h;unfold Zga at h1;simp only[hn,hq] at h1;exact Zux h1 ht hi hl
theorem ZEz{g:yw}{args:yL Dv}{r:Dv}{e:Ent}(h:Con P g args [] r [e])(hn:∃x,Dv.rns (toIds []) args=some x):Con P g args [.gone] r [e]:=by
 intro σ vs ok hH hv;obtain⟨x,hx⟩:=hn
 have hst:∀(b o:Nat),(σ.F b o\/σ.B b)->σ.stab b o:=λb o q=>⟨q,λid e' _ h2=>by
  rw[hH] at h2
  cases id with
  |zero=>cases h2;trivial
  |succ i=>simp at h2⟩
 have hno:∀(id:Nat)(e':Ent),σ.H[id]? =some e'->e'=.gone:=λid e' h2=>by
  grind
 let σ0:Sg:={ F:=σ.F,B:=σ.B,m:=[],H:=[],w:=σ.w};have ok0:Ok σ0:=⟨rfl,λi j b h=>by simp[σ0] at h,λi b h=>by simp[σ0] at h,λi e a h=>by simp[σ0] at h,ok.new,λi b h=>by simp[σ0] at h⟩;have hz:∀id,toIds [] id=none:=λid=>by simp[toIds]
 have hrn:Rn (toIds []) σ σ0:=⟨rfl,λb o u _ q=>⟨q.1,λid e' q=>by simp[σ0] at q⟩,λid id' q=>(by rw[hz] at q;cases q),λid id' q=>(by rw[hz] at q;cases q)⟩
 have hxe:x=args:=by
  have e1:=hx;rw[Zgi] at e1;have e2:=rns_none_id (f:=toIds []) _ _ e1;grind
 have hv2:repVs σ0 args vs:=by
  have h1:=repVs_rn hrn _ _ _ hx hv;grind
 refine(h σ0 vs ok0 rfl hv2).mono ?_;rintro ex w' ⟨v,τ,rfl,rfl,hτ,to,okτ,hr⟩;have okm:σ.m.length=1:=by rw[ok.len,hH];rfl
 have okm2:τ.m.length=1:=by rw[okτ.len,hτ];rfl
 refine⟨v,τ,rfl,rfl,hτ,⟨⟨λb o u h1 h2=> ?_,λid b h1 h2=> ?_,λid s len A c h1=> ?_,λid b h1 h2=> ?_,λid v s st e d h1=> ?_⟩,to.F,to.B,to.os,to.tape,to.output,to.size,λb h1 _=>to.block b h1 (λid q=>by simp[σ0] at q),λid b h1=> ?_, ?_⟩,okτ,hr⟩
 ·exact to.leaf.cells b o u h1 ⟨h2.1,λid e q=>by simp[σ0] at q⟩
 ·grind
 ·obtain⟨e',ys,h2,_⟩:=h1;grind
 ·grind
 ·grind
 ·rcases to.same id b h1 with q|q
  all_goals grind
 grind
theorem ZxJ{o:ym}{ts:yL Dv}{H H2:yL Ent}{hs:yL Hint}{C:yL Prop}{d:Dv}{H':yL Ent}{hs':yL Hint}(h:evG P ops o ts H hs=some (C,d,H',hs'))(hp:Ze4 o hs H.length=true)(hl:H2.length=H.length):
 clsOf P o ts H hs=2/\∃E,H'=H++E/\evG P ops o ts H2 hs=some (C,d,H2++E,hs'):=by
 unfold Ze4 at hp;rw[yi] at hp;obtain⟨hg,hp⟩:=hp;have hg:o.guard=none:=by simpa using hg
 split at hp
 ·rename_i t ho;have n1:∀hs,evN P o ts hs=none:=λhs=>by unfold evN;rw[ho]
  have n2:∀H hs,evR P o ts H hs=none:=λH hs=>by unfold evR;rw[ho]
  refine⟨?_, ?_⟩
  ·unfold clsOf;grind
  ·unfold evG at h ⊢;rw[hg] at h ⊢;dsimp only at h ⊢;unfold Zga at h ⊢;rw[n1,n2] at h;rw[n1,n2];dsimp only at h ⊢;unfold evE at h ⊢;rw[ho] at h ⊢
   all_goals grind
 ·rename_i c ho;split at hp
  ·rename_i f hc;split at hp
   ·rename_i r Hn ids hs0;rw[yi] at hp;have hids:ids=[]:=by simpa using hp.1
    subst hids;have hp:=hp.2;unfold ZzG at hp;simp only[yi,yT] at hp;have hne:Hn≠[]:=λq=>by rw[q] at hp;simp at hp
    have n1:evN P o ts (.call r Hn []::hs0)=none:=by
     unfold evN;rw[ho];dsimp only;rw[hc];dsimp only
     all_goals grind
    have n2:∀H,evR P o ts H (.call r Hn []::hs0)=none:=λH=>by
     unfold evR;rw[ho];dsimp only;rw[hc]
    refine⟨?_, ?_⟩
    ·unfold clsOf;grind
    ·unfold evG at h ⊢;rw[hg] at h ⊢;dsimp only at h ⊢;unfold Zga at h ⊢;rw[n1,n2] at h;rw[n1,n2];dsimp only at h ⊢;unfold evE at h ⊢;rw[ho] at h ⊢;dsimp only at h ⊢;rw[hc] at h ⊢;dsimp only at h ⊢;rw[hl];split at h
     ·rename_i g cap r2 H2' ids2 hs2 ha hh;simp only[List.cons.injEq,Hint.call.injEq] at hh;obtain⟨⟨rfl,rfl,rfl⟩,rfl⟩:=hh;split at h
      ·rename_i hk;split at h
       ·rename_i args' Hin r' Hb e1 e2 e3 e4;simp only[yaf,yq,yab] at h;obtain⟨rfl,rfl,rfl,rfl⟩:=h;have e5:∀(X:yL Ent),subEnts X [] []=some []:=λX=>rfl;rw[e5] at e2;cases e2;refine⟨Hb,by simp[putBack,ZqG], ?_⟩;rw[yW hk,e1,e5,e3,e4];simp[putBack,ZqG]
       ·cases h
      ·cases h
     ·cases h
   ·cases hp
  ·cases hp
 ·cases hp
theorem ZxK:∀{hs:yL Hint}{d:Dv}{n:Nat},(YX d n hs).2.1=[]->(YX d n hs).1=d
 |[],d,n,_=>by simp[YX]
 |x::hs,d,n,h=>by
  cases x with
  |ghost yM s e=>
   simp only[YX] at h ⊢;split
   ·rename_i d' hg;rw[hg] at h;cases h
   ·rfl
  |_=>simp[YX]
theorem ZHg{σ:Sg}(ok:Ok σ):To σ { σ with m:=σ.m++[none],H:=σ.H++[.gone]}/\Ok { σ with m:=σ.m++[none],H:=σ.H++[.gone]}:=
 V0 (σ':={ σ with m:=σ.m++[none],H:=σ.H++[.gone]}) ok rfl rfl rfl rfl (World.grownBy.refl σ.w none) (.inl rfl) (λ_=>trivial)
mutual
theorem Zd0{f g:Nat->yO Nat}(hfg:∀j k,f j=some k->g j=some k):∀(d d':Dv),d.rn f=some d'->d.rn g=some d'
 |.p x,d',h=>h
 |.elem x,d',h=>h
 |.ref id off yM,d',h=>by
  simp only[Dv.rn,yu] at h ⊢;obtain⟨i,h1,h2⟩:=h
  exact⟨i,hfg _ _ h1,h2⟩
 |.own id nn s xs,d',h=>by
  simp only[Dv.rn,yu] at h ⊢;obtain⟨i,h1,h2⟩:=h
  exact⟨i,hfg _ _ h1,h2⟩
 |.view id off yM s lo n,d',h=>by
  simp only[Dv.rn,yu] at h ⊢;obtain⟨i,h1,h2⟩:=h
  exact⟨i,hfg _ _ h1,h2⟩
 |.mp id,d',h=>by
  simp only[Dv.rn,yu] at h ⊢;obtain⟨i,h1,h2⟩:=h
  exact⟨i,hfg _ _ h1,h2⟩
 |.rv id v s lo n,d',h=>by
  simp only[Dv.rn,yu] at h ⊢;obtain⟨i,h1,h2⟩:=h
  exact⟨i,hfg _ _ h1,h2⟩
 |.rref id v off yM,d',h=>by
  simp only[Dv.rn,yu] at h ⊢;obtain⟨i,h1,h2⟩:=h
  exact⟨i,hfg _ _ h1,h2⟩
 |.agg xs,d',h=>by
  simp only[Dv.rn,yu] at h ⊢;obtain⟨i,h1,h2⟩:=h
  exact⟨i,rns_more hfg xs i h1,h2⟩
 |.arr n s xs,d',h=>by
  simp only[Dv.rn,yu] at h ⊢;obtain⟨i,h1,h2⟩:=h
  exact⟨i,rns_more hfg xs i h1,h2⟩
 |.fn g0 xs,d',h=>by
  simp only[Dv.rn,yu] at h ⊢;obtain⟨i,h1,h2⟩:=h
  exact⟨i,rns_more hfg xs i h1,h2⟩
 |.iface t x,d',h=>by
  simp only[Dv.rn,yu] at h ⊢;obtain⟨i,h1,h2⟩:=h
  exact⟨i,Zd0 hfg x i h1,h2⟩
 |.tup xs,d',h=>by
  simp only[Dv.rn,yu] at h ⊢;obtain⟨i,h1,h2⟩:=h
  exact⟨i,rns_more hfg xs i h1,h2⟩
 |.junk,d',h=>h
theorem rns_more{f g:Nat->yO Nat}(hfg:∀j k,f j=some k->g j=some k):∀(d d':yL Dv),Dv.rns f d=some d'->Dv.rns g d=some d'
 |[],d',h=>h
 |x::r,d',h=>by
  simp only[Dv.rns] at h ⊢;split at h
  ·rename_i y ys h1 h2;rw[Zd0 hfg x y h1,rns_more hfg r ys h2];exact h
  ·cases h
end
theorem ZEA{f g:Nat->yO Nat}(hfg:∀j k,f j=some k->g j=some k):∀(d d':Ent),d.rn f=some d'->d.rn g=some d'
 |.var d st,d',h=>by
  simp only[Ent.rn,yu] at h ⊢;obtain⟨i,h1,h2⟩:=h
  exact⟨i,Zd0 hfg d i h1,h2⟩
 |.row v s st e d,d',h=>by
  simp only[Ent.rn,yu] at h ⊢;obtain⟨i,h1,h2⟩:=h
  exact⟨i,Zd0 hfg d i h1,h2⟩
 |.log _ _ _,d',h=>h
 |.map _ _,d',h=>h
 |.gone,d',h=>h
theorem ZdE{f g:Nat->yO Nat}(hfg:∀j k,f j=some k->g j=some k):∀(d d':yL Ent),Ent.rns f d=some d'->Ent.rns g d=some d'
 |[],d',h=>h
 |x::r,d',h=>by
  simp only[Ent.rns] at h ⊢;split at h
  ·rename_i y ys h1 h2;rw[ZEA hfg x y h1,ZdE hfg r ys h2];exact h
  ·cases h
theorem ZbJ(ids:yL Nat)(n:Nat):∀j k,ids[j]? =some k->fromIds ids n j=some k:=λj k h=>by
 unfold fromIds;grind
theorem Qp{H E:yL Ent}{all:yL Nat}:∀{ids:yL Nat}{Hin:yL Ent},subEnts H all ids=some Hin->subEnts (H++E) all ids=some Hin/\∀id,id∈ids->id < H.length
 |[],Hin,h=>⟨h,λ_ h=>by cases h⟩
 |id::r,Hin,h=>by
  simp only[subEnts] at h ⊢;split at h
  ·rename_i e es h1 h2;obtain⟨k1,k2⟩:=Qp (E:=E) h2;grind
  ·cases h
theorem Zcc{α:Type}{E:yL α}:∀{ids:yL Nat}{H Hb:yL α},Hb.length=ids.length->(∀id,id∈ids->id < H.length)->putBack (H++E) ids Hb=putBack H ids Hb++E/\(putBack H ids Hb).length=H.length
 |[],H,Hb,hl,_=>by
  have:Hb=[]:=ybn (by simpa using hl);subst this
  simp[putBack]
 |id::r,H,[],hl,_=>by simp at hl
 |id::r,H,e::Hb,hl,hi=>by
  simp only[putBack];rw[List.set_append_left _ _ (hi id (ybd ..))];obtain⟨h1,h2⟩:=Zcc (E:=E) (ids:=r) (H:=H.set id e) (Hb:=Hb) (by simpa using hl) (λi h=>by rw[yan];exact hi i (ybh _ h));grind
theorem ZnO{f:Nat->yO Nat}:∀{l l':yL Ent},Ent.rns f l=some l'->l'.length=l.length
 |[],l',h=>by cases h;rfl
 |x::r,l',h=>by
  simp only[Ent.rns] at h;split at h
  ·rename_i y ys h1 h2;cases h;rw[yao,yao,ZnO h2]
  ·cases h
theorem ZHh{o:ym}{ts:yL Dv}{H:yL Ent}{hs:yL Hint}{C:yL Prop}{d:Dv}{H':yL Ent}{hs':yL Hint}(h:evG P ops o ts H hs=some (C,d,H',hs'))(hp:ZnD o hs=true):
 clsOf P o ts H hs≠1/\H'.length=H.length/\∀E,evG P ops o ts (H++E) hs=some (C,d,H'++E,hs'):=by
 unfold ZnD at hp;rw[yi] at hp;obtain⟨hg,hp⟩:=hp;have hg:o.guard=none:=by simpa using hg
 have key:(∀H,evR P o ts H hs=none)->(∀H1,evE P o ts H hs=some (C,d,H1,hs')->H1.length=H.length/\∀E,evE P o ts (H++E) hs=some (C,d,H1++E,hs'))->
  clsOf P o ts H hs≠1/\H'.length=H.length/\∀E,evG P ops o ts (H++E) hs=some (C,d,H'++E,hs'):=by
  intro n2 hE;refine⟨?_, ?_⟩
  ·unfold clsOf;grind
  ·unfold evG at h ⊢;rw[hg] at h ⊢;dsimp only at h ⊢;unfold Zga at h ⊢
   cases hn:evN P o ts hs with
   |some q=>
    rw[hn] at h;simp only[yaf,yq,yab] at h;obtain⟨h1,h2,rfl,h4⟩:=h;refine⟨rfl,λE=> ?_⟩;simp only[yaf,yq,yab]
    exact⟨h1,h2,zY,h4⟩
   |none=>
    rw[hn,n2] at h;dsimp only at h;obtain⟨⟨C1,d1,H1,hs1⟩,h1,h2⟩:=yu.1 h;simp only[ZqG,yas,yab] at h2;obtain⟨rfl,rfl,rfl,rfl⟩:=h2;obtain⟨k1,k2⟩:=hE H1 h1;refine⟨k1,λE=> ?_⟩;rw[n2];dsimp only;rw[k2 E];simp[ZqG]
 split at hp
 ·rename_i c ho;split at hp
  ·rename_i f hc;split at hp
   ·rename_i r Hn ids hs0;unfold ZzG at hp;simp only[yi,yT,Option.isSome_iff_exists] at hp;obtain⟨⟨p1,d0,p2⟩,Hb0,p3⟩:=hp;refine key (λH=>by unfold evR;rw[ho];dsimp only;rw[hc]) λH1 hE=> ?_;unfold evE at hE;rw[ho] at hE;dsimp only at hE;rw[hc] at hE;dsimp only at hE;split at hE
    ·rename_i g cap r2 H2 ids2 hs2 ha hh;simp only[List.cons.injEq,Hint.call.injEq] at hh;obtain⟨⟨rfl,rfl,rfl⟩,rfl⟩:=hh;split at hE
     ·rename_i hk;split at hE
      ·rename_i args' Hin r' Hb e1 e2 e3 e4;cases hE;rw[Zd0 (ZbJ ids H.length) _ _ p2] at e3;cases e3;rw[ZdE (ZbJ ids H.length) _ _ p3] at e4;cases e4;have hlb:Hb0.length=ids.length:=by rw[ZnO p3,p1]
       refine⟨(Zcc (E:=[]) hlb (Qp (E:=[]) e2).2).2,λE=> ?_⟩;unfold evE;rw[ho];dsimp only;rw[hc];dsimp only;rw[ha];dsimp only;rw[yW hk,e1,(Qp (E:=E) e2).1,Zd0 (ZbJ ids _) _ _ p2,ZdE (ZbJ ids _) _ _ p3];dsimp only;rw[(Zcc (E:=E) hlb (Qp (E:=[]) e2).2).1]
      ·cases hE
     ·cases hE
    ·cases hE
   ·cases hp
  ·rename_i rc nm hc;split at hp
   ·rename_i g0 r Hn ids hs0;unfold ZzG at hp;simp only[yi,yT,Option.isSome_iff_exists] at hp;obtain⟨⟨p1,d0,p2⟩,Hb0,p3⟩:=hp;refine key (λH=>by unfold evR;rw[ho];dsimp only;rw[hc]) λH1 hE=> ?_;unfold evE at hE;rw[ho] at hE;dsimp only at hE;rw[hc] at hE;dsimp only at hE;split at hE
    ·rename_i t x g r2 H2 ids2 hs2 ha hh;simp only[List.cons.injEq,Hint.call.injEq,Hint.meth.injEq] at hh;obtain⟨rfl,⟨rfl,rfl,rfl⟩,rfl⟩:=hh;split at hE
     ·rename_i hk;split at hE
      ·rename_i args' Hin r' Hb e1 e2 e3 e4;cases hE;rw[Zd0 (ZbJ ids H.length) _ _ p2] at e3;cases e3;rw[ZdE (ZbJ ids H.length) _ _ p3] at e4;cases e4;have hlb:Hb0.length=ids.length:=by rw[ZnO p3,p1]
       refine⟨(Zcc (E:=[]) hlb (Qp (E:=[]) e2).2).2,λE=> ?_⟩;unfold evE;rw[ho];dsimp only;rw[hc];dsimp only;rw[ha];dsimp only;rw[yW hk,e1,(Qp (E:=E) e2).1,Zd0 (ZbJ ids _) _ _ p2,ZdE (ZbJ ids _) _ _ p3];dsimp only;rw[(Zcc (E:=E) hlb (Qp (E:=[]) e2).2).1]
      ·cases hE
     ·cases hE
    ·cases hE
   ·cases hp
  ·cases hp
 ·cases hp
theorem ZEB{σ:Sg}{a:Act}{o:ym}{ts:yL Dv}{H E:yL Ent}{hs:yL Hint}{C:yL Prop}{d:Dv}{H':yL Ent}{hs':yL Hint}(ok:Ok σ)(yK:RepT σ ts a)(h:evG P ops o ts H hs=some (C,d,H',hs'))(hAC:AllP C)(hp:Ze4 o hs H.length=true)
 (hl:H'.length=H.length+1) (hσ:σ.H=H++.gone::E) (K:Act->yz->Prop) (Q:Exit->Act->yz->Prop)
 (hK:∀v σ',σ'.H=H'++E->To σ σ'->Ok σ'->RepT σ' (Zkp ts o.dst d) (a.put o.dst v)->K (a.put o.dst v) σ'.w):
 if Region.wanted o (yielded ops a.tmps) then o.wp P a σ.w K Q else K (a.put o.dst undef) σ.w:=by
 unfold Ze4 at hp;rw[yi] at hp;obtain⟨hg,hp⟩:=hp;have hg:o.guard=none:=by simpa using hg
 have hw:Region.wanted o (yielded ops a.tmps)=true:=by simp[Region.wanted,hg]
 rw[yW hw];split at hp
 ·rename_i t ho;have n1:∀hs,evN P o ts hs=none:=λhs=>by unfold evN;rw[ho]
  have n2:∀H hs,evR P o ts H hs=none:=λH hs=>by unfold evR;rw[ho]
  unfold evG at h;rw[hg] at h;dsimp only at h;unfold Zga at h;rw[n1,n2] at h;dsimp only at h;unfold evE at h;rw[ho] at h;dsimp only at h;split at h
  ·rename_i i hi;split at h
   ·split at h
    ·rename_i hk;simp only[yaf,yq,yab] at h;obtain⟨rfl,rfl,rfl,rfl⟩:=h;rw[yj,yao] at hl;have he:(YX (zeroD P t) (H.length+1) hs).2.1=[]:=ybn (by omega);have hd:=ZxK he;rw[he,hd] at hK;simp only[yi] at hk;obtain⟨z,hzz,_⟩:=Zb8 hk.1.1;have hid:σ.H[H.length]? =some .gone:=by rw[hσ,yat (yl _),Nat.sub_self];rfl
     have h1:=ZzI (P:=P) (o:=o) (a:=a) ok hid ho hi (by rw[hzz];rfl) hk.1.2 hk.2;refine h1 K Q λv σ' e1 to ok' hv=>hK v σ' ?_ to ok' (Zgn (yK.to to.leaf) hv);grind
    ·cases h
   ·cases h
  ·cases h
 ·rename_i c ho;split at hp
  ·rename_i f hc;split at hp
   ·rename_i r Hn ids hs0;rw[yi] at hp;have hids:ids=[]:=by simpa using hp.1
    subst hids;have hp:=hp.2;unfold ZzG at hp;simp only[yi,yT,Option.isSome_iff_exists] at hp;obtain⟨⟨p1,r0,p2⟩,Hb0,p3⟩:=hp;have hne:Hn≠[]:=λq=>by rw[q] at p1;simp at p1
    obtain⟨e0,rfl⟩:∃e0,Hn=[e0]:=by
     cases Hn with
     |nil=>exact absurd rfl hne
     |cons x q=>cases q with
      |nil=>exact⟨x,rfl⟩
      |cons _ _=>simp at p1
    have n1:evN P o ts (.call r [e0] []::hs0)=none:=by
     unfold evN;rw[ho];dsimp only;rw[hc];dsimp only
     all_goals grind
    have n2:∀H,evR P o ts H (.call r [e0] []::hs0)=none:=λH=>by
     unfold evR;rw[ho];dsimp only;rw[hc]
    unfold evG at h;rw[hg] at h;dsimp only at h;unfold Zga at h;rw[n1,n2] at h;dsimp only at h;unfold evE at h;rw[ho] at h;dsimp only at h;rw[hc] at h;dsimp only at h;split at h
    ·rename_i g cap r2 H2' ids2 hs2 ha hh;simp only[List.cons.injEq,Hint.call.injEq] at hh;obtain⟨⟨rfl,rfl,rfl⟩,rfl⟩:=hh;split at h
     ·rename_i hk;split at h
      ·rename_i args' Hin r' Hb e1 e2 e3 e4;simp only[yaf,yq,yab] at h;obtain⟨rfl,rfl,rfl,rfl⟩:=h;have e5:subEnts H [] []=some []:=rfl;rw[e5] at e2;cases e2;simp only[yi,yT,yP] at hk
       have hm:∀(m:Nat)(j k:Nat),[H.length][j]? =some k->fromIds [] H.length j=some k:=λm j k q=>by
        cases j with
        |zero=>cases q;simp[fromIds]
        |succ j=>simp at q
       have hm2:∀(m:Nat)(j k:Nat),[H.length][j]? =some k->fromIds [H.length] m j=some k:=λm j k q=>by
        cases j with
        |zero=>cases q;simp[fromIds]
        |succ j=>simp at q
       have f1:=Zd0 (hm 0) _ _ p2;rw[f1] at e3;cases e3;have f2:=ZdE (hm 0) _ _ p3;rw[f2] at e4;cases e4;have hlb:Hb0.length=1:=by rw[ZnO p3];rfl
       obtain⟨b0,rfl⟩:∃b0,Hb0=[b0]:=by
        cases Hb0 with
        |nil=>simp at hlb
        |cons x q=>cases q with
         |nil=>exact⟨x,rfl⟩
         |cons _ _=>simp at hlb
       obtain⟨fs,cs,hfe,hav⟩:=ZHe (P:=P) yK (c:=c) [] ha hk.1.1.2;have hid:σ.H[H.length]? =some .gone:=by rw[hσ,yat (yl _),Nat.sub_self];rfl
       have e7:=e1;rw[Zgi] at e7;have e8:=rns_none_id (f:=toIds []) _ _ e7;rw[e1] at e8;cases e8;have e6:=rns_none_id (f:=toIds [H.length]) _ _ e7
       have hin:subEnts σ.H [H.length] [H.length]=some [.gone]:=by
        simp[subEnts,hid,Ent.rn]
       have hx:=Zuo (P:=P) (o:=o) (a:=a) σ.w ho hc hfe hk.1.1.1
       have h1:=Zo5 (P:=P) (o:=o) (a:=a) (ids:=[H.length]) (Hin:=[.gone]) (H':=[e0]) (Hb:=[b0]) ok hx hav rfl (yl _) e6 hin (Zd0 (hm2 σ.H.length) _ _ p2) (ZdE (hm2 σ.H.length) _ _ p3)
        (ZEz hAC.1 ⟨_,e1⟩)
       refine h1 K Q λv σ' e1 to ok' hv=>hK v σ' ?_ to ok' (Zgn (yK.to to.leaf) hv);rw[e1,hσ];simp[putBack,List.set_append_right]
      ·cases h
     ·cases h
    ·cases h
   ·cases hp
  ·cases hp
 ·cases hp
theorem ZEC{o:ym}{ts:yL Dv}{H:yL Ent}{hs:yL Hint}:clsOf P o ts H hs<=2:=by
 unfold clsOf;grind
end
end Go.Ev
end
