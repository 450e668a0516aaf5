/- Parts of the proof, in one file. -/
import Derived.Test.YtghfiijgklnflaaGreatKb
open Array renaming getElem?_eq_getElem → yce, getElem?_eq_some_iff → yda
open Bool renaming and_eq_true → yi, eq_iff_iff → ycq
open Go renaming TypeId → yb, Program → yg, Value → yh, Oper → ym, Operand → yn, FuncId → yw
open List renaming length_append → yj, getElem?_eq_some_iff → yo, range → yp, append_assoc → yx, nil_append → yy, length_map → yaa, replicate → yac, getElem?_eq_getElem → yad, cons_append → yae, map_cons → yah, getElem?_map → yal, getElem?_append_right → yat, map_append → yau, getElem?_append_left → yba, getElem?_cons_succ → ybb, map_map → ybe, getElem?_eq_none → ybi, take_append_drop → ybl, map_set → ybm, eq_nil_of_length_eq_zero → ybn, getElem?_set → ybq, take_of_length_le → ybr, all_eq_true → ybs, getElem?_cons_zero → ybx, map_congr_left → ycs, getElem?_concat_length → yde
open Nat renaming le_refl → yl, mod_eq_of_lt → yap, add_assoc → ych, lt_of_le_of_lt → ydb
open Option renaming bind_eq_some_iff → yf, map_eq_some_iff → yu, map_some → yaf
open Option.some renaming injEq → yq
open Prod.mk renaming injEq → yab
open UInt32 renaming ofNat → ybv, toNat_ofNat' → ycr
open UInt64 renaming ofNat → yai, toNat_ofNat' → yax, toNat_lt → ybu, toNat_inj → yct
open UInt8 renaming ofNat → yav
set_option linter.unusedVariables false
set_option linter.unusedSimpArgs false
section
namespace Go.Ev
def ZtH(ts:yL Dv)(l:yL (yO Tmp×Dv)):yL Dv:=l.foldl (λts q=>Zkp ts q.1 q.2) ts
section
variable{P:yg}{ops:Array ym}
theorem ZxL:∀(l:yL ym)(ts:yL Dv)(H:yL Ent)(hs:yL Hint)(C:yL Prop)(rs:yL Rec)(ts':yL Dv)(H':yL Ent)(hs':yL Hint),evD P ops l ts H hs=some (C,rs,ts',H',hs')->AllP C->
 rs.length=l.length/\ts'=ZtH ts ((l.zip rs).map λq=>(q.1.dst,q.2.d))/\(l=[]->H'=H)/\
 ∀(i:Nat)(o:ym),l[i]? =some o->∃r,rs[i]? =some r/\AllP r.C/\evG P ops o (maskFrom (looks ops o) 0 (ZtH ts (((l.zip rs).take i).map λq=>(q.1.dst,q.2.d)))) r.H r.hs=some (r.C,r.d,r.H',r.hs')/\
  r.cls=clsOf P o (maskFrom (looks ops o) 0 (ZtH ts (((l.zip rs).take i).map λq=>(q.1.dst,q.2.d)))) r.H r.hs/\
  (r.rd=ZEh P o (maskFrom (looks ops o) 0 (ZtH ts (((l.zip rs).take i).map λq=>(q.1.dst,q.2.d))))/\r.tc=ZvF P o (maskFrom (looks ops o) 0 (ZtH ts (((l.zip rs).take i).map λq=>(q.1.dst,q.2.d)))) r.hs/\r.push=Ze4 o r.hs r.H.length/\r.loc=ZnD o r.hs/\r.ex=exO o)/\(i=0->r.H=H)/\(∀r2,rs[i+1]? =some r2->r2.H=r.H')/\(i+1=l.length->H'=r.H')
 |[],ts,H,hs,C,rs,ts',H',hs',h,hc=>by
  simp only[evD,yq,yab] at h;obtain⟨rfl,rfl,rfl,rfl,rfl⟩:=h
  exact⟨rfl,rfl,λ_=>rfl,λi o hi=>by simp at hi⟩
 |o::l,ts,H,hs,C,rs,ts',H',hs',h,hc=>by
  simp only[evD] at h;split at h
  ·rename_i C1 d1 H1 hs1 h1;split at h
   ·rename_i C2 rs2 ts2 H2 hs2 h2;simp only[yq,yab] at h;obtain⟨rfl,rfl,rfl,rfl,rfl⟩:=h;obtain⟨c1,c2⟩:=Zk.1 hc;obtain⟨k1,k2,k3,k4⟩:=ZxL l _ _ _ _ _ _ _ _ h2 c2;refine⟨by simp[k1],by rw[k2];rfl,by simp,λi o' hi=> ?_⟩
    cases i with
    |zero=>
     simp only[ybx,yq] at hi;subst hi;refine⟨_,rfl,c1,h1,rfl,⟨rfl,rfl,rfl,rfl,rfl⟩,λ_=>rfl,λr2 hr2=> ?_,λhl=> ?_⟩
     ·simp only[ybb] at hr2
      cases l with
      |nil=>
       have:rs2=[]:=ybn (by simpa using k1);subst this
       simp at hr2
      |cons o2 l2=>
       obtain⟨r,j1,_,_,_,_,j2,_⟩:=k4 0 o2 rfl;rw[hr2] at j1;cases j1;exact j2 rfl
     ·have:l=[]:=ybn (by simpa using hl.symm)
      exact k3 this
    |succ i=>
     simp only[ybb] at hi;obtain⟨r,j1,j2,j3,j4,j45,j5,j6,j7⟩:=k4 i o' hi;refine⟨r,by simpa using j1,j2,j3,j4,j45,λh0=>by omega,λr2 hr2=>j6 r2 (by simpa using hr2),λhl=>j7 (by simpa using hl)⟩
   ·cases h
  ·cases h
theorem ZC6(ts:yL Dv)(l:yL (yO Tmp×Dv))(q:yO Tmp×Dv):ZtH ts (l++[q])=Zkp (ZtH ts l) q.1 q.2:=by simp[ZtH]
def unl(X:Nat->Bool):Nat->Nat
 |0=>0
 |k+1=>unl X k+(if X k then 0 else 1)
theorem ZBn{X:Nat->Bool}:∀{k:Nat},unl X k=0->∀j,j < k->X j=true
 |0,_,j,h=>by omega
 |k+1,h,j,hj=>by
  simp only[unl] at h;by_cases hk:j=k
  ·grind
  ·exact ZBn (k:=k) (by omega) j (by omega)
theorem ZED{X:Nat->Bool}:∀{k:Nat},unl X k<=k
 |0=>yl _
 |k+1=>by
  have:=ZED (X:=X) (k:=k);simp only[unl];grind
theorem ZxM{X Y:Nat->Bool}:∀{k:Nat},(∀j,j < k->Y j=X j)->unl Y k=unl X k
 |0,_=>rfl
 |k+1,h=>by
  simp only[unl];rw[ZxM (k:=k) (λj hj=>h j (by omega)),h k (by omega)]
theorem ZxN{X Y:Nat->Bool}{i:Nat}(hi:X i=false):∀{k:Nat},i < k->(∀j,j < k->Y j=(X j || decide (j=i)))->unl Y k+1=unl X k
 |0,h,_=>by omega
 |k+1,h,hY=>by
  simp only[unl];by_cases hk:i=k
  ·subst hk
   rw[ZxM (X:=X) (Y:=Y) (λj hj=>by
    rw[hY j (by omega)];have:¬j=i:=by omega
    simp[this]),hY i (by omega),hi]
   simp
  ·have:=ZxN hi (k:=k) (by omega) (λj hj=>hY j (by omega));grind
theorem ZrS:∀(l:yL ym)(i:Nat),Zis l i=true->∀(j:Nat)(o:ym),l[j]? =some o->∀e,e∈o.after->Region.binds .any e=true->e.on < i+j
 |[],i,_,j,o,ho,_,_,_=>by simp at ho
 |o::l,i,h,j,o',ho,e,he,hb=>by
  simp only[Zis,yi,ybs] at h
  cases j with
  |zero=>
   simp only[ybx,yq] at ho;subst ho;have:=h.1 e (by simpa using he)
   simpa[hb] using this
  |succ j=>
   simp only[ybb] at ho;have:=ZrS l (i+1) h.2 j o' ho e he hb;omega
theorem ZnP(keep:yL Nat):∀(l:yL Dv)(k:Nat),(maskFrom keep k l).length=l.length
 |[],k=>rfl
 |x::l,k=>by simp[maskFrom,ZnP keep l]
theorem ZIW{σ:Sg}{a:Act}{ts ms:yL Dv}{dst:yO Tmp}{d:Dv}{v:yh}(hl:ms.length=ts.length)(h1:RepT σ ts a)(h2:RepT σ (Zkp ms dst d) (a.put dst v)):RepT σ (Zkp ts dst d) (a.put dst v):=by
 unfold Zkp Act.put at*
 cases dst with
 |none=>exact h1
 |some t=>
  refine⟨by simpa using h1.size,λi e hi=> ?_,h1.defers⟩;by_cases hit:t=i
  ·subst hit;refine h2.at_ t e ?_;simp only[ybq] at hi ⊢;rw[hl];exact hi
  ·rw[ybq,yX hit] at hi;have:=h1.at_ i e hi;simpa[Array.getD_eq_getD_getElem?,Array.getElem?_setIfInBounds,hit] using this
theorem ZvS{σ:Sg}{a:Act}{ts:yL Dv}{hs hs':yL Hint}{C:yL Prop}{ts':yL Dv}{H':yL Ent}{id:Nat}(ok:Ok σ)(yK:RepT σ ts a)(h:ZvH P ops ts σ.H hs=some (C,ts',H',hs'))(hc:AllP C)
 (Q:Exit->Act->World->Prop) (hQ:∀a' σ',σ'.H=H'->To σ σ'->Ok σ'->RepT σ' ts' a'->Q .normal a' σ'.w):(Code.region id ops true).wp P Q a σ.w:=by
 unfold ZvH at h;split at h
 ·rename_i hm;split at h
  ·rename_i C1 rs ts1 H1 hs1 hev;split at h
   ·rename_i hdr;simp only[yq,yab] at h;obtain⟨rfl,rfl,rfl,rfl⟩:=h;obtain⟨zB,hts',hnil,zX⟩:=ZxL _ _ _ _ _ _ _ _ _ hev hc;let n:=ops.size;let dst:Nat->yO Tmp:=λi=>Zkb ops.toList i;let D:Nat->Dv:=λi=>((rs[i]?).map (·.d)).getD .junk;let cls:Nat->Nat:=λi=>(rs.map (·.cls)).getD i 0;let A:yL Nat:=ZEi ops.toList;have hn:ops.toList.length=n:=by simp[n]
    have hrl:rs.length=n:=by rw[zB,hn]
    unfold ZvG at hdr;simp only[yi] at hdr;obtain⟨⟨⟨⟨⟨_,hback⟩,hanc⟩,huniq⟩,hlook⟩,hcls⟩:=hdr;have hopl:∀(i:Nat),ops.toList[i]? =ops[i]? :=λi=>by simp
    have hA:∀i o,ops[i]? =some o->A.getD i 0=Zjh A i o:=by
     grind
    have hu:∀i j,i < n->j < n->dst i≠none->dst i=dst j->i=j:=by
     intro i j hi hj h1 h2;have:=ybs.1 (ybs.1 huniq i (List.mem_range.2 (by rw[hn];exact hi))) j (List.mem_range.2 (by rw[hn];exact hj))
     all_goals grind
    have hL:∀i o j t,ops[i]? =some o->j < n->dst j=some t->t∈looks ops o->i≠j->(if j < i then(A.getD i 0).testBit j else(A.getD j 0).testBit i)=true:=by
     all_goals grind
    obtain⟨c0,_,hcls⟩:=List.any_eq_true.1 hcls
    have hE0:∀i j,i < n->j < n->cls i≠0->cls j=2->i≠j->(if j < i then(A.getD i 0).testBit j else(A.getD j 0).testBit i)=true\/(cls i=1/\ZkM rs i j=true)\/ZhW rs c0 i j=true:=by
     all_goals grind
    have hTS:∀i,i<=n->ZtH ts (((ops.toList.zip rs).take i).map λq=>(q.1.dst,q.2.d))=tsX n dst D ts (λj=>decide (j < i)):=by
     intro i
     induction i with
     |zero=>
      intro _;rw[Zuy (λj _=>by simp)]
      simp[ZtH]
     |succ i ih=>
      intro hi;have h1:i < ops.toList.length:=by rw[hn];omega
      have h2:i < rs.length:=by rw[hrl];omega
      have hz:(ops.toList.zip rs)[i]? =some (ops.toList[i],rs[i]):=by
       grind
      rw[List.take_add_one,hz];simp only[Option.toList_some,yau,yah,List.map_nil];rw[ZC6,ih (by omega)];have hd:ops.toList[i].dst=dst i:=by show _=Zkb ops.toList i;unfold Zkb;rw[yad h1];rfl
      have hD:rs[i].d=D i:=by simp[D,yad h2]
      rw[hd,hD]
      exact ZBm hu (by omega) (by simp) (λj _=>by
       by_cases hj:j < i <;> by_cases hj2:j=i <;> simp[hj,hj2] <;> omega)
    have hspec':∀(i:Nat)(o:ym),ops[i]? =some o->∃r,rs[i]? =some r/\AllP r.C/\evG P ops o (maskFrom (looks ops o) 0 (tsX n dst D ts (λj=>decide (j < i)))) r.H r.hs=some (r.C,r.d,r.H',r.hs')/\
     r.cls=clsOf P o (maskFrom (looks ops o) 0 (tsX n dst D ts (λj=>decide (j < i)))) r.H r.hs/\
     (r.rd=ZEh P o (maskFrom (looks ops o) 0 (tsX n dst D ts (λj=>decide (j < i))))/\r.tc=ZvF P o (maskFrom (looks ops o) 0 (tsX n dst D ts (λj=>decide (j < i)))) r.hs/\r.push=Ze4 o r.hs r.H.length/\r.loc=ZnD o r.hs/\r.ex=exO o)/\(i=0->r.H=σ.H)/\(∀r2,rs[i+1]? =some r2->r2.H=r.H')/\(i+1=n->H1=r.H'):=by
     grind
    let HH:Nat->yL Ent:=λi=>if i < n then((rs[i]?).map (·.H)).getD [] else H1
    have hHH:∀i r,rs[i]? =some r->HH i=r.H/\HH (i+1)=r.H':=by
     intro i r hr;have hi:i < n:=by rw[<-hrl];exact(yo.1 hr).1
     have hio:ops[i]? =some ops[i]:=yce hi
     all_goals grind
    have hcl:∀i r,rs[i]? =some r->cls i=r.cls:=by
     grind
    have hstay:∀i,i < n->cls i≠2->HH (i+1)=HH i:=by
     intro i hi h2;have hio:ops[i]? =some ops[i]:=yce hi;obtain⟨r,k1,_,k3,k4,_⟩:=hspec' i _ hio;rw[(hHH i r k1).1,(hHH i r k1).2];exact ZEy k3 (by rw[<-k4, <-hcl i r k1];exact h2)
    have hlev:∀(i k:Nat),i+k<=n->(∀e,i<=e->e < i+k->cls e≠2)->HH (i+k)=HH i:=by
     intro i k
     induction k with
     |zero=>intro _ _;rfl
     |succ k ih=>
      intro hk he;rw[<-ych,hstay (i+k) (by omega) (he _ (by omega) (by omega)),ih (by omega) (λe h1 h2=>he e h1 (by omega))]
    let Lev:(Nat->Bool)->Nat->Prop:=λX i=>i<=n/\∀e,e < n->cls e=2->(X e=true↔e < i)
    have hsameLev:∀(X:Nat->Bool)(i k:Nat),Lev X i->Lev X k->HH i=HH k:=by
     have main:∀(X:Nat->Bool)(i k:Nat),i<=k->Lev X i->Lev X k->HH i=HH k:=by
      intro X i k hik h1 h2
      have:=hlev i (k - i) (by have:=h2.1;omega) (λe he1 he2 hce=>by
       have hen:e < n:=by have:=h2.1;omega
       have h3:=(h1.2 e hen hce);have h4:=(h2.2 e hen hce);have:X e=true:=h4.2 (by omega);have:=h3.1 this;omega)
      rw[<-this];congr 1;omega
     intro X i k h1 h2;rcases Nat.le_total i k with h3|h3
     ·exact main X i k h3 h1 h2
     ·exact(main X k i h3 h2 h1).symm
    have hcle:∀i,i < n->cls i<=2:=by
     intro i hi;obtain⟨r,k1,_,k3,k4,_⟩:=hspec' i _ (yce hi);rw[hcl i r k1,k4];exact ZEC
    have hpsh:∀i r,rs[i]? =some r->r.push=true->cls i=2/\∃E,HH (i+1)=HH i++E/\∀o,ops[i]? =some o->∀H2,H2.length=(HH i).length->evG P ops o (maskFrom (looks ops o) 0 (tsX n dst D ts (λj=>decide (j < i)))) H2 r.hs=some (r.C,r.d,H2++E,r.hs'):=by
     intro i r hr hp;have hi:i < n:=by rw[<-hrl];exact(yo.1 hr).1
     have hio:ops[i]? =some ops[i]:=yce hi;obtain⟨r',k1,_,k3,k4,k45,_⟩:=hspec' i _ hio;rw[hr] at k1;cases k1;rw[k45.2.2.1] at hp;obtain⟨q1,E,q2,_⟩:=ZxJ (H2:=r.H) k3 hp rfl;refine⟨by rw[hcl i r hr,k4,q1],E,by rw[(hHH i r hr).1,(hHH i r hr).2,q2],λo ho H2 hl=> ?_⟩;rw[hio] at ho;cases ho;obtain⟨_,E2,q3,q4⟩:=ZxJ (H2:=H2) k3 hp (by rw[hl,(hHH i r hr).1]);rw[q2] at q3;rw[List.append_cancel_left q3];exact q4
    have hlocc:∀i r,rs[i]? =some r->r.loc=true->cls i≠1/\(HH (i+1)).length=(HH i).length/\∀o,ops[i]? =some o->∀E,evG P ops o (maskFrom (looks ops o) 0 (tsX n dst D ts (λj=>decide (j < i)))) (HH i++E) r.hs=some (r.C,r.d,HH (i+1)++E,r.hs'):=by
     intro i r hr hp;have hi:i < n:=by rw[<-hrl];exact(yo.1 hr).1
     have hio:ops[i]? =some ops[i]:=yce hi;obtain⟨r',k1,_,k3,k4,k45,_⟩:=hspec' i _ hio;rw[hr] at k1;cases k1;rw[k45.2.2.2.1] at hp;obtain⟨q1,q2,q3⟩:=ZHh k3 hp;refine⟨by rw[hcl i r hr,k4];exact q1,by rw[(hHH i r hr).1,(hHH i r hr).2,q2],λo ho E=> ?_⟩;rw[hio] at ho;cases ho;rw[(hHH i r hr).1,(hHH i r hr).2];exact q3 E
    let Psh:Nat->Prop:=λi=>∃r,rs[i]? =some r/\r.push=true;let Loc:Nat->Prop:=λi=>∃r,rs[i]? =some r/\r.loc=true;let Pu:Nat->Prop:=λi=>∃r,rs[i]? =some r/\r.push=true/\r.H'.length=r.H.length+1/\∀k q,k < i->rs[k]? =some q->q.H.length<=r.H.length
    have hcomm:∀i j,ZhW rs c0 i j=true->(Loc c0\/Pu c0)/\((i=c0/\c0 < j/\Psh j)\/(j=c0/\c0 < i/\Psh i)):=by
     intro i j h
     have hget:∀(f:Rec->Bool)(k:Nat),((rs[k]?).map f).getD false=true->∃r,rs[k]? =some r/\f r=true:=by
      intro f k hk
      cases hr:rs[k]? with
      |none=>rw[hr] at hk;cases hk
      |some r=>rw[hr] at hk;exact⟨r,rfl,hk⟩
     unfold ZhW at h;simp only[yi,Bool.or_eq_true,yT,yP] at h;obtain⟨h1,h2⟩:=h;refine⟨?_, ?_⟩
     ·obtain⟨r,q1,q2⟩:=hget _ _ h1;unfold cOk at q2;simp only[Bool.or_eq_true,yi,yT,ybs,yP] at q2;rcases q2 with q2|⟨⟨q2,q3⟩,q4⟩
      ·exact .inl ⟨r,q1,q2⟩
      ·refine .inr ⟨r,q1,q2,q3,λk q hk hq=>q4 q ?_⟩;rw[List.mem_iff_getElem?];exact⟨k,by rw[List.getElem?_take,yW hk];exact hq⟩
     rcases h2 with⟨⟨h3,h4⟩,h5⟩|⟨⟨h3,h4⟩,h5⟩
     ·exact .inl ⟨h3,h4,hget _ _ h5⟩
     ·exact .inr ⟨h3,h4,hget _ _ h5⟩
    let CG:yL Ent->Prop:=λG=>(Loc c0/\G=[])\/(Pu c0/\G=[.gone])
    have hGl:∀G,CG G->(HH (c0+1)).length=(HH c0).length+G.length:=by
     rintro G (⟨⟨r,q1,q2⟩,rfl⟩|⟨⟨r,q1,_,q2,_⟩,rfl⟩)
     ·rw[(hlocc c0 r q1 q2).2.1];rfl
     ·rw[(hHH c0 r q1).1,(hHH c0 r q1).2,q2];rfl
    let Hole:(Nat->Bool)->yL Ent->Prop:=λX Hc=>∃lv e0 E G,c0 < n/\CG G/\cls c0=2/\lv<=n/\X c0=false/\(∀e,e < n->cls e=2->(X e=true↔e < lv/\e≠c0))/\(c0 < e0/\e0 < lv/\cls e0=2/\HH e0=HH (c0+1))/\
     (∀e,c0 < e->e < lv->cls e=2->Psh e)/\Hc=HH c0++(G++E)/\HH lv=HH (c0+1)++E
    let Inv:(Nat->Bool)->yL Ent->Prop:=λX Hc=>(∃i,Lev X i/\Hc=HH i)\/Hole X Hc;refine wp_region_any hm ?_
    have walk:∀(yD:Nat)(listed:Array Bool)(a:Act)(σ1:Sg),listed.size=n->unl (λj=>listed.getD j false) n<=yD->ZEv ops (λj=>listed.getD j false)->To σ σ1->Ok σ1->
     RepT σ1 (tsX n dst D ts (λj=>listed.getD j false)) a->Inv (λj=>listed.getD j false) σ1.H->wpAny P .any ops Q yD listed a σ1.w:=by
     intro yD
     induction yD with
     |zero=>
      intro listed a σ1 hsz hun hcl1 to1 ok1 hrep1 hlv;have zL:=ZBn (Nat.le_zero.1 hun);refine⟨?_, ?_⟩
      ·apply List.eq_nil_iff_forall_not_mem.2;intro j hj;obtain⟨h1,o,ho,_⟩:=mem_ready.1 hj;have hjn:j < n:=(yda.1 ho).1;have h2:=zL j hjn;have hjs:j < listed.size:=by omega
       simp only[Array.getD,hjs,dif_pos] at h1 h2;rw[h1] at h2;cases h2
      ·rcases hlv with⟨i,hi,hH⟩|⟨lv,e0,E,G,g1,_,_,_,g2,_⟩
       case inr=>exact absurd ((zL c0 g1).symm.trans g2) (by simp)
       have hln:Lev (λj=>listed.getD j false) n:=⟨yl _,λe he _=>⟨λ_=>he,λ_=>zL e he⟩⟩;refine hQ a σ1 ?_ to1 ok1 ?_
       ·rw[hH,hsameLev _ i n hi hln];simp[HH]
       ·have:ts1=tsX n dst D ts (λj=>listed.getD j false):=by
         have e1:=hTS n (yl _);rw[ybr (by rw[List.length_zip,hn,hrl];simp)] at e1;rw[hts',e1];apply List.ext_getElem?;intro t;by_cases ht:t < ts.length
         ·rw[ZdZ ht,ZdZ ht];congr 1;by_cases hex:∃j,j < n/\dst j=some t
          ·obtain⟨j,h1,h2⟩:=hex;rw[Zca hu h1 (by simpa using h1) h2,Zca hu h1 (zL j h1) h2]
          ·rw[Zcb (λj h1 _ h3=>hex ⟨j,h1,h3⟩),Zcb (λj h1 _ h3=>hex ⟨j,h1,h3⟩)]
         ·rw[ybi (by rw[W9];omega),ybi (by rw[W9];omega)]
        rw[this]
        exact hrep1
     |succ yD ih=>
      intro listed a σ1 hsz hun hcl1 to1 ok1 hrep1 hlv;refine⟨λhr=> ?_,λi hi=> ?_⟩
      ·
       have zL:∀j,j < n->listed.getD j false=true:=by
        intro j
        induction j using Nat.strongRecOn with
        |_ j ihj=>
         intro hj
         cases hx:listed.getD j false with
         |true=>rfl
         |false=>
          have hjs:j < listed.size:=by omega
          have hjo:ops[j]? =some ops[j]:=yce hj
          have:j∈Region.ready .any ops listed:=by
           refine mem_ready.2 ⟨?_,ops[j],hjo,λe he hb=> ?_⟩
           ·simp only[Array.getD,hjs,dif_pos] at hx ⊢;exact hx
           ·have hlt:=ZrS ops.toList 0 hback j ops[j] (by rw[hopl];exact hjo) e he hb;exact ihj e.on (by omega) (by omega)
          rw[hr] at this;cases this
       rcases hlv with⟨i,hi,hH⟩|⟨lv,e0,E,G,g1,_,_,_,g2,_⟩
       case inr=>exact absurd ((zL c0 g1).symm.trans g2) (by simp)
       have hln:Lev (λj=>listed.getD j false) n:=⟨yl _,λe he _=>⟨λ_=>he,λ_=>zL e he⟩⟩;refine hQ a σ1 ?_ to1 ok1 ?_
       ·rw[hH,hsameLev _ i n hi hln];simp[HH]
       ·have:ts1=tsX n dst D ts (λj=>listed.getD j false):=by
         have e1:=hTS n (yl _);rw[ybr (by rw[List.length_zip,hn,hrl];simp)] at e1;rw[hts',e1];apply List.ext_getElem?;intro t;by_cases ht:t < ts.length
         ·rw[ZdZ ht,ZdZ ht];congr 1;by_cases hex:∃j,j < n/\dst j=some t
          ·obtain⟨j,h1,h2⟩:=hex;rw[Zca hu h1 (by simpa using h1) h2,Zca hu h1 (zL j h1) h2]
          ·rw[Zcb (λj h1 _ h3=>hex ⟨j,h1,h3⟩),Zcb (λj h1 _ h3=>hex ⟨j,h1,h3⟩)]
         ·rw[ybi (by rw[W9];omega),ybi (by rw[W9];omega)]
        rw[this];exact hrep1
      ·
       obtain⟨h1,o,ho,hedge⟩:=mem_ready.1 hi;have hin:i < n:=(yda.1 ho).1;have his:i < listed.size:=by omega
       let X:Nat->Bool:=λj=>listed.getD j false
       have hXi:X i=false:=by
        simp only[X,Array.getD,his,dif_pos] at h1 ⊢;exact h1
       have hancL:∀j,(A.getD i 0).testBit j=true->X j=true:=by
        intro j hj;rw[hA i o ho] at hj;unfold Zjh at hj;rcases Zpa A i j _ _ hj with h|⟨e,e1,e2,e3,e4⟩
        ·simp at h
        ·have he:=hedge e (by simpa using e1) e2;rcases e4 with e4|e4
         ·rw[<-e4];exact he
         ·exact ZrR hcl1 hA e.on ⟨ops[e.on],yce (by omega)⟩ he j e4
       have hancR:∀j,j < n->X j=true->(A.getD j 0).testBit i=true->False:=by
        intro j hj hx hb;have:=ZrR hcl1 hA j ⟨ops[j],yce hj⟩ hx i hb;have hXi':(listed.getD i false)=false:=hXi;rw[hXi'] at this;cases this
       obtain⟨r,k1,k2,k3,k4,k45,_,_,_⟩:=hspec' i o ho
       have hmask:maskFrom (looks ops o) 0 (tsX n dst D ts X)=maskFrom (looks ops o) 0 (tsX n dst D ts (λj=>decide (j < i))):=by
        refine ZC4 hu (λj t hj hd ht=> ?_);by_cases hij:i=j
        ·subst hij;rw[hXi];simp
        ·have:=hL i o j t ho hj hd ht hij;split at this
         ·rename_i hlt;rw[hancL j this];simp[hlt]
         ·rename_i hge
          have hxf:X j=false:=by
           cases hx:X j with
           |false=>rfl
           |true=>exact(hancR j hj hx this).elim
          rw[hxf];simp[hge]
       have hXi2:X i=false:=hXi
       have hgetset:∀j,(listed.setIfInBounds i true).getD j false=(X j || decide (j=i)):=by
        intro j;by_cases hji:j=i
        ·subst hji;simp[Array.getD,his]
        ·simp only[X,Array.getD_eq_getD_getElem?,Array.getElem?_setIfInBounds,hji,decide_false,Bool.or_false];rw[yX (λh=>hji h.symm)]
       have hord:∀e,e < n->cls i≠0->cls e=2->i≠e->¬(cls i=1/\ZkM rs i e=true)->¬ZhW rs c0 i e=true->(X e=true↔e < i):=by
        intro e he h0 hce hie hf hcm;rcases hE0 i e hin he h0 hce hie with h3|h3|h3
        ·split at h3
         ·rename_i hlt;exact⟨λ_=>hlt,λ_=>hancL e h3⟩
         ·rename_i hge;exact⟨λhx=>(hancR e he hx h3).elim,λh=>absurd h hge⟩
        ·exact absurd h3 hf
        ·exact absurd h3 hcm
       have hkeep:cls i≠2->Inv (λj=>(listed.setIfInBounds i true).getD j false) σ1.H:=by
        intro h2
        have hX':∀e,cls e=2->((listed.setIfInBounds i true).getD e false=true↔X e=true):=by
         intro e hce
         have hne:¬e=i:=by
          rintro rfl;exact h2 hce
         rw[hgetset e];simp only[hne,decide_false,Bool.or_false]
        rcases hlv with⟨lv,hlv1,hlv2⟩|⟨lv,e0,E,G,g1,g2,g3,g4,g5,g6,g7,g8,g9,g10⟩
        ·exact .inl ⟨lv,⟨hlv1.1,λe he hce=>(hX' e hce).trans (hlv1.2 e he hce)⟩,hlv2⟩
        ·refine .inr ⟨lv,e0,E,G,g1,g2,g3,g4, ?_,λe he hce=>(hX' e hce).trans (g6 e he hce),g7,g8,g9,g10⟩;have:=hX' c0 g3;show(listed.setIfInBounds i true).getD c0 false=false
         cases hx:(listed.setIfInBounds i true).getD c0 false with
         |false=>rfl
         |true=>
          have h9:=this.1 hx;have g5':X c0=false:=g5;rw[g5'] at h9;cases h9
       let SO:yL Ent->Prop:=λH2=>∀K:Act->World->Prop,(∀v σ2,σ2.H=H2->To σ1 σ2->Ok σ2->RepT σ2 (Zkp (maskFrom (looks ops o) 0 (tsX n dst D ts X)) o.dst r.d) (a.put o.dst v)->K (a.put o.dst v) σ2.w)->
        if Region.wanted o (yielded ops a.tmps) then o.wp P a σ1.w K Q else K (a.put o.dst undef) σ1.w
       have soE:∀H2,evG P ops o (maskFrom (looks ops o) 0 (tsX n dst D ts (λj=>decide (j < i)))) σ1.H r.hs=some (r.C,r.d,H2,r.hs')->SO H2:=λH2 h K hK=>by
        rw[<-hmask] at h;exact Ziv (P:=P) (ops:=ops) ok1 (Qo (looks ops o) hrep1) h k2 K Q hK
       have soG:∀G H2,(G=[]\/G=[.gone])->evG P ops o (maskFrom (looks ops o) 0 (tsX n dst D ts (λj=>decide (j < i)))) (σ1.H++G) r.hs=some (r.C,r.d,H2,r.hs')->SO H2:=λG H2 hG h=>by
        rcases hG with rfl|rfl
        ·rw[List.append_nil] at h;exact soE H2 h
        ·intro K hK;rw[<-hmask] at h;obtain⟨t1,o1⟩:=ZHg ok1;exact Ziv (P:=P) (ops:=ops) (σ:={ σ1 with m:=σ1.m++[none],H:=σ1.H++[.gone]}) o1 ((Qo (looks ops o) hrep1).to t1.leaf) h k2 K Q λv σ2 e1 to2 ok2 hr2=>hK v σ2 e1 (t1.trans to2) ok2 hr2
       have hnow:∃H2,SO H2/\Inv (λj=>(listed.setIfInBounds i true).getD j false) H2:=by
        by_cases h0:cls i=0
        ·obtain⟨e1,e2⟩:=ZEx (H2:=σ1.H) k3 (by rw[<-k4, <-hcl i r k1];exact h0);exact⟨σ1.H,soE _ e2,hkeep (by omega)⟩
        by_cases h01:cls i=1
        ·have hkc:clsOf P o (maskFrom (looks ops o) 0 (tsX n dst D ts (λj=>decide (j < i)))) r.H r.hs=1:=by rw[<-k4, <-hcl i r k1];exact h01
         have hnc:∀e,¬ZhW rs c0 i e=true:=by
          intro e hcm;obtain⟨q0,q3|q3⟩:=hcomm i e hcm
          ·obtain⟨rfl,_⟩:=q3;rcases q0 with⟨rc,q1,q2⟩|⟨rc,q1,q2,_⟩
           ·exact(hlocc _ rc q1 q2).1 h01
           ·have:=(hpsh _ rc q1 q2).1;omega
          ·obtain⟨_,_,rp,q4,q5⟩:=q3;have:=(hpsh i rp q4 q5).1;omega
         have hdis:∀e,e < n->cls e=2->¬(X e=true↔e < i)->ZkM rs i e=true:=by
          intro e he hce hx;by_cases hf:ZkM rs i e=true
          ·exact hf
          ·exact absurd (hord e he h0 hce (by rintro rfl;omega) (λh=>hf h.2) (hnc e)) hx
         have hfr:∀k,k < n->ZkM rs i k=true->True/\∃id,r.rd=some id/\id < (HH k).length/\id < (HH i).length/\(cls k=2->rqO o ((HH (k+1))[id]?)=rqO o ((HH k)[id]?)):=by
          intro k hk hf;have hko:ops[k]? =some ops[k]:=yce hk;obtain⟨q,g1,_,g3,g4,g45,_⟩:=hspec' k _ hko;unfold ZkM at hf;rw[k1,g1] at hf;dsimp only at hf;split at hf
          ·rename_i id e1;simp only[yi,yP] at hf;have hrd:=k45.1;rw[e1] at hrd;unfold ZEh at hrd
           ·refine⟨zY,id,e1,by rw[(hHH k q g1).1];exact hf.1.1,by rw[(hHH i r k1).1];exact hf.1.2,λhck=> ?_⟩;rw[(hHH k q g1).1,(hHH k q g1).2];have hf2:=hf.2;rw[k45.2.2.2.2] at hf2;unfold rqO;by_cases hex:exO o=true
            ·rw[yW hex] at hf2;rw[yW hex,yW hex];obtain⟨_,E,p3,_⟩:=hpsh k q g1 hf2;rw[(hHH k q g1).1,(hHH k q g1).2] at p3;rw[p3,yba hf.1.1]
            ·rw[yX hex] at hf2;rw[yX hex,yX hex];rw[Bool.or_eq_true] at hf2;rcases hf2 with hf2|hf2
             ·split at hf2
              ·rename_i l e2;exact ZC5 g3 (by rw[<-g4, <-hcl k q g1];exact hck) (by rw[<-g45.2.1,e2]) hf.1.1 (by simpa using hf2)
              ·cases hf2
             ·exact@of_decide_eq_true _ (Classical.propDecidable _) hf2
          ·cases hf
         have hchain:∀(id k a:Nat),a+k<=n->(∀e,a<=e->e < a+k->cls e=2->rqO o ((HH (e+1))[id]?)=rqO o ((HH e)[id]?))->rqO o ((HH (a+k))[id]?)=rqO o ((HH a)[id]?):=by
          intro id k a
          induction k with
          |zero=>intro _ _;rfl
          |succ k ihk=>
           intro hk he;rw[<-ych, <-ihk (by omega) (λe h1 h2=>he e h1 (by omega))];by_cases h2:cls (a+k)=2
           ·exact he (a+k) (by omega) (by omega) h2
           ·rw[hstay (a+k) (by omega) h2]
         have hreads:∀id,r.rd=some id->ZoY P o (maskFrom (looks ops o) 0 (tsX n dst D ts (λj=>decide (j < i))))=some id:=by
          intro id e1;have hrd:=k45.1;rw[e1] at hrd;exact hrd.symm
         have hfin:True->∀id,r.rd=some id->rqO o ((HH i)[id]?)=rqO o (σ1.H[id]?)->∃H2,SO H2/\Inv (λj=>(listed.setIfInBounds i true).getD j false) H2:=by
          intro hg id e1 e2;rw[(hHH i r k1).1] at e2;exact⟨σ1.H,soE _ (ZKC k3 hkc (λ_=>ZIV (hreads id e1) e2)),hkeep (by omega)⟩
         rcases hlv with⟨lv,hlv1,hlv2⟩|⟨lv,e0,E,G,g1,g2,g3,g4,g5,g6,g7,g8,g9,g10⟩
         ·by_cases hsame:Lev X i
          ·have hHi:σ1.H=r.H:=by
            rw[hlv2,hsameLev X lv i hlv1 hsame,(hHH i r k1).1]
           have hr':r.H'=r.H:=by
            have:=hstay i hin (by omega);rw[(hHH i r k1).1,(hHH i r k1).2] at this;exact this
           refine⟨σ1.H,soE _ (by rw[hHi,k3,hr']),hkeep (by omega)⟩
          ·have hex:∃e,e < n/\cls e=2/\¬(X e=true↔e < i):=by
            refine Classical.byContradiction λhno=>hsame ⟨by omega,λe he hce=> ?_⟩;exact Classical.byContradiction λh=>hno ⟨e,he,hce,h⟩
           obtain⟨e1,he1,hce1,hx1⟩:=hex;obtain⟨hg,id,hid,_⟩:=hfr e1 he1 (hdis e1 he1 hce1 hx1);refine hfin hg id hid ?_;have hln:=hlv1.1
           have hst:∀e,e < n->cls e=2->¬(X e=true↔e < i)->rqO o ((HH (e+1))[id]?)=rqO o ((HH e)[id]?):=by
            intro e he hce hx;obtain⟨_,id',hid',_,_,h5⟩:=hfr e he (hdis e he hce hx);rw[hid] at hid';cases hid';exact h5 hce
           rw[hlv2];rcases Nat.le_total lv i with hle|hle
           ·have:=hchain id (i - lv) lv (by omega) (λe h1 h2 h3=>hst e (by omega) h3 (λhx=>by
             have h4:=(hlv1.2 e (by omega) h3).1 (hx.2 (by omega));omega))
            rw[show lv+(i - lv)=i by omega] at this;exact this
           ·have:=hchain id (lv - i) i (by omega) (λe h1 h2 h3=>hst e (by omega) h3 (λhx=>by
             have h4:=hx.1 ((hlv1.2 e (by omega) h3).2 (by omega));omega))
            rw[show i+(lv - i)=lv by omega] at this;exact this.symm
         ·
          have hic:¬i=c0:=by
           rintro rfl;omega
          obtain⟨ge1,ge2,ge3,ge4⟩:=g7;have hclen:=hGl G g2;have hxe0:X e0=true:=(g6 e0 (by omega) ge3).2 ⟨ge2,by omega⟩;have hxc0:X c0=false:=g5
          have hid:True/\∃id,r.rd=some id/\id < (HH c0).length:=by
           by_cases hlt:c0 < i
           ·obtain⟨hg,id,q1,q2,_⟩:=hfr c0 g1 (hdis c0 g1 g3 (λhx=>by
             rw[hxc0] at hx;have:=hx.2 hlt;cases this))
            exact⟨hg,id,q1,q2⟩
           ·obtain⟨hg,id,q1,q2,q20,_⟩:=hfr e0 (by omega) (hdis e0 (by omega) ge3 (λhx=>by
             have:=hx.1 hxe0;omega))
            refine⟨hg,id,q1, ?_⟩;rcases g2 with⟨_,rfl⟩|⟨⟨rc,p1,_,_,p4⟩,rfl⟩
            ·rw[ge4,hclen] at q2;exact q2
            ·have:=p4 i r (by omega) k1;rw[(hHH i r k1).1] at q20;rw[(hHH c0 rc p1).1];omega
          obtain⟨hg,id,hid,hidl⟩:=hid;refine hfin hg id hid ?_
          have hst:∀e,e < n->cls e=2->¬(X e=true↔e < i)->rqO o ((HH (e+1))[id]?)=rqO o ((HH e)[id]?):=by
           intro e he hce hx;obtain⟨_,id',hid',_,_,h5⟩:=hfr e he (hdis e he hce hx);rw[hid] at hid';cases hid';exact h5 hce
          rw[g9,yba hidl];by_cases hlt:c0 < i
          ·
           have hc1:rqO o ((HH (c0+1))[id]?)=rqO o ((HH c0)[id]?):=hst c0 g1 g3 (λhx=>by
            rw[hxc0] at hx;have:=hx.2 hlt;cases this)
           have hup:∀k,c0+1+k<=lv->id < (HH (c0+1+k)).length/\rqO o ((HH (c0+1+k))[id]?)=rqO o ((HH (c0+1))[id]?):=by
            intro k
            induction k with
            |zero=>intro _;exact⟨by rw[Nat.add_zero,hclen];omega,rfl⟩
            |succ k ihk=>
             intro hk;obtain⟨j1,j2⟩:=ihk (by omega);rw[<-ych];by_cases h2:cls (c0+1+k)=2
             ·obtain⟨rp,p1,p2⟩:=g8 (c0+1+k) (by omega) (by omega) h2;obtain⟨_,E2,p3,_⟩:=hpsh _ rp p1 p2;rw[p3,yba j1];exact⟨by rw[yj];omega,j2⟩
             ·rw[hstay (c0+1+k) (by omega) h2];exact⟨j1,j2⟩
           rcases Nat.le_total i lv with hle|hle
           ·have:=(hup (i - (c0+1)) (by omega)).2;rw[show c0+1+(i - (c0+1))=i by omega] at this;rw[this,hc1]
           ·have h6:=(hup (lv - (c0+1)) (by omega)).2;rw[show c0+1+(lv - (c0+1))=lv by omega] at h6
            have:=hchain id (i - lv) lv (by omega) (λe h1 h2 h3=>hst e (by omega) h3 (λhx=>by
             have h4:=(g6 e (by omega) h3).1 (hx.2 (by omega));omega))
            rw[show lv+(i - lv)=i by omega] at this;rw[this,h6,hc1]
          ·have:=hchain id (c0 - i) i (by omega) (λe h1 h2 h3=>hst e (by omega) h3 (λhx=>by
            have h4:=hx.1 ((g6 e (by omega) h3).2 ⟨by omega,by omega⟩);omega))
           rw[show i+(c0 - i)=c0 by omega] at this;exact this.symm
        have h2:cls i=2:=by
         have:=hcle i hin;omega
        have hord2:∀e,e < n->cls e=2->i≠e->¬ZhW rs c0 i e=true->(X e=true↔e < i):=λe he hce hie hcm=>hord e he h0 hce hie (λh=>h01 h.1) hcm
        have hset:∀e,((listed.setIfInBounds i true).getD e false=true↔(X e=true\/e=i)):=by
         intro e;rw[hgetset e];simp
        by_cases hall2:∀e,e < n->cls e=2->(X e=true↔e < i)
        ·
         have hli:Lev X i:=⟨by omega,hall2⟩
         have hHi:σ1.H=r.H:=by
          rcases hlv with⟨lv,hlv1,hlv2⟩|⟨lv,e0,E,G,g1,g2,g3,g4,g5,g6,g7,g8,g9,g10⟩
          ·rw[hlv2,hsameLev X lv i hlv1 hli,(hHH i r k1).1]
          ·exfalso;obtain⟨ge1,ge2,ge3,ge4⟩:=g7;have q1:=(hall2 e0 (by omega) ge3).1 ((g6 e0 (by omega) ge3).2 ⟨ge2,by omega⟩);have q2:=(hall2 c0 g1 g3).2 (by omega);have g5':X c0=false:=g5;rw[g5'] at q2;cases q2
         rw[<-hHi] at k3;refine⟨r.H',soE _ k3,.inl ⟨i+1,⟨by omega,λe he hce=> ?_⟩,((hHH i r k1).2).symm⟩⟩;refine(hset e).trans ?_;rw[hall2 e he hce];omega
        ·
         have hex:∃e,e < n/\cls e=2/\i≠e/\¬(X e=true↔e < i):=by
          refine Classical.byContradiction λhno=>hall2 λe he hce=> ?_;by_cases hie:i=e
          ·subst hie;rw[hXi2];simp
          ·exact Classical.byContradiction λh=>hno ⟨e,he,hce,hie,h⟩
         obtain⟨e1,he1,hce1,hie1,hx1⟩:=hex;have hcm1:ZhW rs c0 i e1=true:=Classical.byContradiction λh=>hx1 (hord2 e1 he1 hce1 hie1 h);obtain⟨hLP,hcases⟩:=hcomm i e1 hcm1;rcases hcases with⟨hic,hlt1,hpe1⟩|⟨hec,hlt1,hpi⟩
         ·
          subst hic
          have hxe1:X e1=true:=by
           cases hx:X e1 with
           |true=>rfl
           |false=>
            exfalso;apply hx1;rw[hx];exact⟨λh=>(by cases h),λh=>(by omega)⟩
          rcases hlv with⟨lv,hlv1,hlv2⟩|⟨lv,e0,E,G,g1,g2,g3,g4,g5,g6,g7,g8,g9,g10⟩
          ·exfalso;have q1:=(hlv1.2 e1 he1 hce1).1 hxe1;have q2:=(hlv1.2 i hin h2).2 (by omega);have hXi3:X i=false:=hXi;have q2':X i=true:=q2;rw[hXi3] at q2';cases q2'
          ·have hso:SO (HH (i+1)++E):=by
            rcases g2 with⟨⟨rc,hrc,hrcl⟩,rfl⟩|⟨⟨rc,hrc,hrp,hrl,_⟩,rfl⟩
            ·rw[hrc] at k1;cases k1;obtain⟨_,_,hcev⟩:=hlocc i r hrc hrcl;exact soE _ (by rw[g9];exact hcev o ho E)
            ·rw[hrc] at k1;cases k1;intro K hK;have hp:Ze4 o r.hs r.H.length=true:=by rw[<-k45.2.2.1];exact hrp
             rw[<-hmask] at k3;refine ZEB (P:=P) (ops:=ops) (E:=E) ok1 (Qo (looks ops o) hrep1) k3 k2 hp hrl (by rw[g9,(hHH i r hrc).1];rfl) K Q λv σ2 e1 to2 ok2 hr2=>hK v σ2 (by rw[e1,(hHH i r hrc).2]) to2 ok2 hr2
           refine⟨HH (i+1)++E,hso,.inl ⟨lv,⟨g4,λe he hce=> ?_⟩,g10.symm⟩⟩;refine(hset e).trans ?_;have q:=g6 e he hce;obtain⟨ge1,ge2,_⟩:=g7;constructor
           ·rintro(q1|q1)
            ·exact(q.1 q1).1
            ·omega
           ·intro q1;by_cases hei:e=i
            ·exact .inr hei
            ·exact .inl (q.2 ⟨q1,hei⟩)
         ·
          subst hec
          have hxc:X e1=false:=by
           cases hx:X e1 with
           |false=>rfl
           |true=>
            exfalso;apply hx1;rw[hx];exact⟨λ_=>hlt1,λ_=>rfl⟩
          have hoth:∀e,e < n->cls e=2->e≠e1->(X e=true↔e < i):=by
           intro e he hce hne;by_cases hie:i=e
           ·subst hie;rw[hXi2];simp
           ·refine hord2 e he hce hie λhcm=> ?_;obtain⟨_,q|q⟩:=hcomm i e hcm
            ·omega
            ·exact hne q.1
          obtain⟨rp,hrp,hrpp⟩:=hpi;obtain⟨_,Ei,hpE,hpev⟩:=hpsh i rp hrp hrpp
          have hexG:∃G,CG G/\(G=[]\/G=[.gone]):=by
           rcases hLP with h|h
           ·exact⟨[],.inl ⟨h,rfl⟩,.inl rfl⟩
           ·exact⟨[.gone],.inr ⟨h,rfl⟩,.inr rfl⟩
          rw[hrp] at k1;cases k1;rcases hlv with⟨lv,hlv1,hlv2⟩|⟨lv,e0,E,G,g1,g2,g3,g4,g5,g6,g7,g8,g9,g10⟩
          ·have hlc:Lev X e1:=⟨by omega,λe he hce=>by
            by_cases hne:e=e1
            ·subst hne;rw[hxc];simp
            ·rw[hoth e he hce hne];constructor
             ·intro q;have q1:=(hlv1.2 e he hce).1 ((hoth e he hce hne).2 q)
              have q2:¬e1 < lv:=λq3=>by
               have q9:X e1=true:=(hlv1.2 e1 he1 hce1).2 q3;rw[hxc] at q9;cases q9
              omega
             ·intro q;omega⟩
           have hmid:∀e,e1 < e->e < i->cls e≠2:=by
            intro e q1 q2 hce;have q3:=(hoth e (by omega) hce (by omega)).2 q2;have q4:=(hlc.2 e (by omega) hce).1 q3;omega
           have hHi:HH i=HH (e1+1):=by
            have:=hlev (e1+1) (i - (e1+1)) (by omega) (λe q1 q2=>hmid e (by omega) (by omega));rw[show e1+1+(i - (e1+1))=i by omega] at this;exact this
           have hH1:σ1.H=HH e1:=by rw[hlv2,hsameLev X lv e1 hlv1 hlc]
           obtain⟨G,hCG,hG2⟩:=hexG;have hclen:=hGl G hCG
           have hso:SO (HH e1++(G++Ei)):=soG G _ hG2 (by
            rw[<-yx,hH1];exact hpev o ho (HH e1++G) (by rw[hHi,hclen,yj]))
           refine⟨HH e1++(G++Ei),hso,.inr ⟨i+1,i,Ei,G,he1,hCG,hce1,by omega, ?_,λe he hce=> ?_,⟨hlt1,by omega,h2,hHi⟩,λe q1 q2 q3=> ?_,rfl,by rw[hpE,hHi]⟩⟩
           ·show(listed.setIfInBounds i true).getD e1 false=false
            cases hx:(listed.setIfInBounds i true).getD e1 false with
            |false=>rfl
            |true=>
             rcases (hset e1).1 hx with q|q
             ·rw[hxc] at q;cases q
             ·omega
           ·refine(hset e).trans ?_;by_cases hne:e=e1
            ·subst hne;rw[hxc];constructor
             ·rintro(q|q)
              ·cases q
              ·omega
             ·rintro⟨_,q⟩;exact absurd rfl q
            ·rw[hoth e he hce hne];omega
           ·by_cases hei:e=i
            ·subst hei;exact⟨_,hrp,hrpp⟩
            ·exact absurd q3 (hmid e q1 (by omega))
          ·obtain⟨ge1,ge2,ge3,ge4⟩:=g7
           have hlvi:lv<=i:=by
            rcases Nat.lt_or_ge i lv with q|q
            ·exfalso;have:=(g6 i hin h2).2 ⟨q,by omega⟩;have hXi3:X i=false:=hXi;have q2':X i=true:=this;rw[hXi3] at q2';cases q2'
            ·exact q
           have hHi:HH i=HH lv:=by
            have:=hlev lv (i - lv) (by omega) (λe q1 q2 hce=>by
             have q3:=(hoth e (by omega) hce (by omega)).2 (by omega);have q4:=(g6 e (by omega) hce).1 q3;omega)
            rw[show lv+(i - lv)=i by omega] at this;exact this
           have hclen:=hGl G g2;have hso:SO (σ1.H++Ei):=soE _ (hpev o ho σ1.H (by rw[hHi,g10,g9,yj,yj,yj,hclen];omega));refine⟨σ1.H++Ei,hso,.inr ⟨i+1,e0,E++Ei,G,he1,g2,hce1,by omega, ?_,λe he hce=> ?_,⟨ge1,by omega,ge3,ge4⟩,λe q1 q2 q3=> ?_,by rw[g9,yx,yx],by rw[hpE,hHi,g10,yx]⟩⟩
           ·show(listed.setIfInBounds i true).getD e1 false=false
            cases hx:(listed.setIfInBounds i true).getD e1 false with
            |false=>rfl
            |true=>
             rcases (hset e1).1 hx with q|q
             ·rw[hxc] at q;cases q
             ·omega
           ·refine(hset e).trans ?_;by_cases hne:e=e1
            ·subst hne;rw[hxc];constructor
             ·rintro(q|q)
              ·cases q
              ·omega
             ·rintro⟨_,q⟩;exact absurd rfl q
            ·rw[hoth e he hce hne];omega
           ·by_cases hei:e=i
            ·subst hei;exact⟨_,hrp,hrpp⟩
            ·have q4:=(hoth e (by omega) q3 (by omega)).2 (by omega);have q5:=(g6 e (by omega) q3).1 q4;exact g8 e q1 q5.1 q3
       obtain⟨H2,hso2,hinv⟩:=hnow
       have key:=hso2 (wpAny P .any ops Q yD (listed.setIfInBounds i true)) (λv σ2 e1 to2 ok2 hrep2=>by
        have hgetset:∀j,(listed.setIfInBounds i true).getD j false=(X j || decide (j=i)):=by
         intro j;by_cases hji:j=i
         ·subst hji;simp[Array.getD,his]
         ·simp only[X,Array.getD_eq_getD_getElem?,Array.getElem?_setIfInBounds,hji,decide_false,Bool.or_false];rw[yX (λh=>hji h.symm)]
        refine ih _ _ σ2 (by simpa using hsz) ?_ ?_ (to1.trans to2) ok2 ?_ (by rw[e1];exact hinv)
        ·have:=ZxN (Y:=λj=>(listed.setIfInBounds i true).getD j false) hXi hin (λj _=>hgetset j);have hX':unl X n<=yD+1:=hun;omega
        ·intro j o' hj hx e he hb;show(listed.setIfInBounds i true).getD e.on false=true;rw[hgetset];have hx':(listed.setIfInBounds i true).getD j false=true:=hx;rw[hgetset] at hx';by_cases hji:j=i
         ·subst hji;rw[ho] at hj;cases hj;have:X e.on=true:=hedge e he hb;rw[this];rfl
         ·simp only[hji,decide_false,Bool.or_false] at hx';have:X e.on=true:=hcl1 j o' hj hx' e he hb;rw[this];rfl
        ·have hd:o.dst=dst i:=by simp[dst,Zkb,ho]
         have hD:r.d=D i:=by simp[D,k1]
         have hput:=ZBm (ts0:=ts) (D:=D) hu hin hXi (λj(_:j < n)=>hgetset j);rw[<-hput, <-hd, <-hD];exact ZIW (ZnP _ _ _) (hrep1.to to2.leaf) hrep2)
       show wpOp P ops Q i _ a σ1.w;unfold wpOp;rw[ho];by_cases hw:Region.wanted o (yielded ops a.tmps)=true
       ·rw[yW hw] at key;simp only[hw,if_true];exact .inl key
       ·rw[yX hw] at key;simp only[hw];exact key
    have hdr2:σ.w.grownBy { σ.w with drawn:=σ.w.drawn+1} none:=by
     exact⟨rfl,rfl,rfl,yl _,λ_ _ _=>rfl⟩
    obtain⟨to0,ok0⟩:=ZnF ok hdr2
    have hfalse:∀j,(Array.replicate ops.size false).getD j false=false:=by
     intro j;by_cases hj:j < ops.size <;> simp[Array.getD,hj]
    refine walk ops.size (Array.replicate ops.size false) a { σ with w:={ σ.w with drawn:=σ.w.drawn+1}} (by simp[n]) ?_ ?_ to0 ok0 ?_ (.inl ⟨0,⟨Nat.zero_le _,λe _ _=> ?_⟩, ?_⟩)
    ·exact ZED
    ·intro i o _ hx;have hx':(Array.replicate ops.size false).getD i false=true:=hx;rw[hfalse i] at hx';cases hx'
    ·rw[Zuy (λj _=>hfalse j)];exact yK.to to0.leaf
    ·show(Array.replicate ops.size false).getD e false=true↔e < 0;rw[hfalse e];simp
    ·show σ.H=HH 0;by_cases h0:0 < n
     ·obtain⟨r,k1,_,_,_,_,k5,_⟩:=hspec' 0 _ (yce h0);rw[(hHH 0 r k1).1,k5 rfl]
     ·have:ops.toList=[]:=ybn (by omega);simp only[HH,h0,if_false];exact(hnil this).symm
   ·cases h
  ·cases h
 ·cases h
end
end Go.Ev
end
section
namespace Go.Ev
section
variable{P:yg}
theorem Zhv{σ:Sg}{a:Act}:∀{mask:yL Nat}{ts:yL Dv},RepT σ ts a->RepT σ (ZnE ts mask) a
 |[],_,h=>h
 |i::r,ts,h=>by
  refine Zhv (mask:=r) ⟨by simpa using h.size,λj d hj=> ?_,h.defers⟩;rw[ybq] at hj;split at hj
  ·split at hj
   ·cases hj;exact XU
   ·cases hj
  ·exact h.at_ j d hj
theorem Zaf:∀(c:Code)(ts:yL Dv)(H:yL Ent)(hs hs':yL Hint)(C:yL Prop)(ex:Ex)(ts':yL Dv)(H':yL Ent),ev P c ts H hs=some (C,ex,ts',H',hs')->AllP C->Wt P c ts H ex ts' H'
 |.skip,ts,H,hs,hs',C,ex,ts',H',h,hc=>by
  simp only[ev,yq,yab] at h;obtain⟨rfl,rfl,rfl,rfl,rfl⟩:=h
  exact λσ a ok hH yK=>wp_skip ⟨rfl,σ,rfl,hH,To.refl σ,ok,yK⟩
 |.label _,ts,H,hs,hs',C,ex,ts',H',h,hc=>by
  simp only[ev,yq,yab] at h;obtain⟨rfl,rfl,rfl,rfl,rfl⟩:=h
  exact λσ a ok hH yK=>wp_label ⟨rfl,σ,rfl,hH,To.refl σ,ok,yK⟩
 |.region id ops draw,ts,H,hs,hs',C,ex,ts',H',h,hc=>by
  cases draw with
  |true=>
   simp only[ev,if_true] at h;simp only[yu,yab] at h;obtain⟨⟨C1,ts1,H1,hs1⟩,h1,rfl,rfl,rfl,rfl,rfl⟩:=h;intro σ a ok hH yK;subst hH
   exact ZvS ok yK h1 hc _ λa' σ' e1 to ok' hrep'=>⟨rfl,σ',rfl,e1,to,ok',hrep'⟩
  |false=>
   simp only[ev,Bool.false_eq_true,if_false] at h;simp only[yu,yab] at h;obtain⟨⟨C1,ts1,H1,hs1⟩,h1,rfl,rfl,rfl,rfl,rfl⟩:=h;intro σ a ok hH yK;subst hH;refine wp_region ?_
   have:=ZpZ (P:=P) (ops:=ops) (λe a' w'=>e=Ex.normal.to/\∃σ',σ'.w=w'/\σ'.H=H1/\To σ σ'/\Ok σ'/\RepT σ' ts1 a') ops.toList 0 ts σ a hs hs1 C1 H1 (λj=>by simp) ok yK h1 hc
    (λa' σ' e1 to ok' hrep'=>⟨rfl,σ',rfl,e1,to,ok',hrep'⟩)
   rw[List.range_eq_range']
   simpa using this
 |.seq x y,ts,H,hs,hs',C,ex,ts',H',h,hc=>by
  simp only[ev] at h;split at h
  ·rename_i C1 ts1 H1 hs1 h1;split at h
   ·rename_i C2 ex2 ts2 H2 hs2 h2;simp only[yq,yab] at h;obtain⟨rfl,rfl,rfl,rfl,rfl⟩:=h;obtain⟨c1,c2⟩:=Zk.1 hc;have r1:=Zaf x _ _ _ _ _ _ _ _ h1 c1;have r2:=Zaf y _ _ _ _ _ _ _ _ h2 c2;intro σ a ok hH yK;refine wp_seq (wp_mono (r1 σ a ok hH yK) ?_);rintro e a' w' ⟨rfl,σ1,rfl,e1,to1,ok1,hrep1⟩;refine wp_mono (r2 σ1 a' ok1 e1 hrep1) ?_;rintro e a'' w'' ⟨rfl,σ2,rfl,e2,to2,ok2,hrep2⟩;exact⟨rfl,σ2,rfl,e2,to1.trans to2,ok2,hrep2⟩
   ·cases h
  ·rename_i r hne;have r1:=Zaf x _ _ _ _ _ _ _ _ h hc;intro σ a ok hH yK;refine wp_seq (wp_mono (r1 σ a ok hH yK) ?_);rintro e a' w' ⟨rfl,hq⟩
   cases ex with
   |normal=>exact absurd h (hne _ _ _ _)
   |exit id=>exact⟨rfl,hq⟩
   |ret=>exact⟨rfl,hq⟩
 |.cond c x y,ts,H,hs,hs',C,ex,ts',H',h,hc=>by
  simp only[ev] at h;split at h
  ·rename_i t hs1 hcv;simp only[yu,yab] at h;obtain⟨⟨C1,r⟩,h1,rfl,rfl⟩:=h;obtain⟨c0,c1⟩:=hc;have r1:=Zaf x _ _ _ _ _ _ _ _ h1 c1;intro σ a ok hH yK;have hv:=Zq (P:=P) yK 0 c;rw[hcv] at hv;exact wp_cond_true (by rw[YP hv,c0]) (r1 σ a ok hH yK)
  ·rename_i t hs1 hcv;simp only[yu,yab] at h;obtain⟨⟨C1,r⟩,h1,rfl,rfl⟩:=h;obtain⟨c0,c1⟩:=hc;have r1:=Zaf y _ _ _ _ _ _ _ _ h1 c1;intro σ a ok hH yK;have hv:=Zq (P:=P) yK 0 c;rw[hcv] at hv;exact wp_cond_false (by rw[YP hv,c0]) (r1 σ a ok hH yK)
  ·cases h
 |.block id body,ts,H,hs,hs',C,ex,ts',H',h,hc=>by
  simp only[ev] at h;split at h
  ·rename_i C1 id' ts1 H1 hs1 h1;simp only[yq,yab] at h;obtain⟨rfl,rfl,rfl,rfl,rfl⟩:=h;have r1:=Zaf body _ _ _ _ _ _ _ _ h1 hc;intro σ a ok hH yK;refine wp_block (wp_mono (r1 σ a ok hH yK) ?_);rintro e a' w' ⟨rfl,hq⟩;simp only[Ex.to,Exit.inBlock]
   all_goals grind
  ·rename_i r hne;have r1:=Zaf body _ _ _ _ _ _ _ _ h hc;intro σ a ok hH yK;refine wp_block (wp_mono (r1 σ a ok hH yK) ?_);rintro e a' w' ⟨rfl,hq⟩
   cases ex with
   |normal=>exact⟨rfl,hq⟩
   |exit id'=>exact absurd h (hne _ _ _ _ _)
   |ret=>exact⟨rfl,hq⟩
 |.loop body,ts,H,hs,hs',C,ex,ts',H',h,hc=>by
  simp only[ev] at h;split at h
  ·rename_i mask ex1 ts1 H1 hs1;split at h
   ·cases h
   ·simp only[yq,yab] at h;obtain⟨rfl,rfl,rfl,rfl,rfl⟩:=h;exact λσ a ok hH yK=>hc.1 σ a ok hH (Zhv yK)
  ·cases h
 |.scope body,ts,H,hs,hs',C,ex,ts',H',h,hc=>by
  simp only[ev] at h;have r1:=Zaf body _ _ _ _ _ _ _ _ h hc;intro σ a ok hH yK;refine wp_scope_straight (wp_mono (r1 σ a ok hH yK) ?_);rintro e a' w' ⟨rfl,hq⟩
  cases ex <;> exact⟨rfl,hq⟩
 |.exit id,ts,H,hs,hs',C,ex,ts',H',h,hc=>by
  simp only[ev,yq,yab] at h;obtain⟨rfl,rfl,rfl,rfl,rfl⟩:=h
  exact λσ a ok hH yK=>wp_exit ⟨rfl,σ,rfl,hH,To.refl σ,ok,yK⟩
 |.ret,ts,H,hs,hs',C,ex,ts',H',h,hc=>by
  simp only[ev,yq,yab] at h;obtain⟨rfl,rfl,rfl,rfl,rfl⟩:=h
  exact λσ a ok hH yK=>wp_ret ⟨rfl,σ,rfl,hH,To.refl σ,ok,yK⟩
 |.rangeFunc _ _ _ _,ts,H,hs,hs',C,ex,ts',H',h,hc=>by simp[ev] at h
 |.goto _,ts,H,hs,hs',C,ex,ts',H',h,hc=>by simp[ev] at h
 |.refuse _,ts,H,hs,hs',C,ex,ts',H',h,hc=>by simp[ev] at h
def Zuz(P:yg)(body:Code)(ts:yL Dv)(H:yL Ent)(ex:Ex)(ts':yL Dv)(H':yL Ent):Prop:=
 ∀(σ:Sg)(a:Act),Ok σ->σ.H=H->RepT σ ts a->∀(b:Frame)(k:yL Item)(cs:yL Frame),
  ∃e a' w',(e=ex.to/\∃σ',σ'.w=w'/\σ'.H=H'/\To σ σ'/\Ok σ'/\RepT σ' ts' a')/\Arrives P (lone (b.at a (.code body::.inLoop body::k)) cs σ.w) b k cs e a' w'
theorem ZuA{body:Code}{ts ts':yL Dv}{H H':yL Ent}{ex:Ex}(hne:ex≠ .normal)(h:Wt P body ts H ex ts' H'):Zuz P body ts H ex ts' H':=by
 intro σ a ok hH yK b k cs;obtain⟨e,a1,w1,hq,harr⟩:=h σ a ok hH yK b (.inLoop body::k) cs;obtain⟨he,hq'⟩:=hq;subst he;refine⟨ex.to,a1,w1,⟨rfl,hq'⟩, ?_⟩
 cases ex with
 |normal=>exact absurd rfl hne
 |exit id=>exact .pass (x:=.inLoop body) rfl (λ_ _=>.inl (by simp[Ex.to])) harr
 |ret=>exact .pass (x:=.inLoop body) rfl (λ_ _=>.inl (by simp[Ex.to])) harr
theorem ZuB{body:Code}{ts ts1 ts':yL Dv}{H H1 H':yL Ent}{ex:Ex}(mask:yL Nat)(h1:Wt P body ts H .normal ts1 H1)(h2:Zuz P body (ZnE ts1 mask) H1 ex ts' H'):Zuz P body ts H ex ts' H':=by
 intro σ a ok hH yK b k cs;obtain⟨e,a1,w1,⟨rfl,σ1,rfl,e1,to1,ok1,hrep1⟩,harr⟩:=h1 σ a ok hH yK b (.inLoop body::k) cs;obtain⟨e,a2,w2,⟨rfl,σ2,rfl,e2,to2,ok2,hrep2⟩,harr2⟩:=h2 σ1 a1 ok1 e1 (Zhv hrep1) b k cs;exact⟨ex.to,a2,σ2.w,⟨rfl,σ2,rfl,e2,to1.trans to2,ok2,hrep2⟩,.of_steps (Steps.trans harr (.one step_inLoop)) harr2⟩
theorem ZuC{body:Code}{ts ts':yL Dv}{H H':yL Ent}{ex:Ex}(h:Zuz P body ts H ex ts' H'):Wt P (.loop body) ts H ex ts' H':=by
 intro σ a ok hH yK b k cs;obtain⟨e,a1,w1,hq,harr⟩:=h σ a ok hH yK b k cs;exact⟨e,a1,w1,hq,.of_steps (.one step_loop) harr⟩
def Zgo(σ:Sg)(L:yL Nat)(H:yL Ent):Sg:={ F:=σ.F,B:=σ.B,m:=L.map λid=>(σ.m[id]?).getD none,H:=H,w:=σ.w}
theorem ZEE{σ:Sg}{L:yL Nat}{H:yL Ent}{j id:Nat}{x:yO Nat}(h:L[j]? =some id)(hm:σ.m[id]? =some x):(Zgo σ L H).m[j]? =some x:=by
 show(L.map λid=>(σ.m[id]?).getD none)[j]? =some x;grind
theorem ZaR{σ:Sg}{L:yL Nat}{H:yL Ent}{j b:Nat}(h:(Zgo σ L H).m[j]? =some (some b)):∃id,L[j]? =some id/\σ.m[id]? =some (some b):=
 W3 (σ:=σ) (ids:=L) (Hin:=H) h
theorem Zcd{σ:Sg}{L:yL Nat}{H:yL Ent}(hin:subEnts σ.H L L=some H):Rn (toIds L) σ (Zgo σ L H) where
 w:=rfl
 stab b o v _ h:=by
  refine⟨h.1,λj e hj he=> ?_⟩;obtain⟨id,h1,h2⟩:=ZaR hj;obtain⟨e0,e',h3,h4,h5⟩:=Zae hin h1;have he':H[j]? =some e:=he;rw[h4] at he';cases he';exact(ZkR h5).2 (h.2 id e0 h2 h3)
 m id j hj x hx:=ZEE (idxOf?_some hj) hx
 H id j hj e he:=by
   obtain⟨e0,e',h3,h4,h5⟩:=Zae hin (idxOf?_some hj);rw[he] at h3;cases h3;exact⟨e',h4,h5⟩
theorem ZnQ{σ:Sg}(ok:Ok σ){L:yL Nat}{H:yL Ent}(ho:once L=true)(hin:subEnts σ.H L L=some H):Ok (Zgo σ L H) where
 len:=by
  show(L.map _).length=H.length;rw[yaa,Zad hin]
 inj i j b hi hj:=by
  obtain⟨x,h1,h2⟩:=ZaR hi;obtain⟨y,h3,h4⟩:=ZaR hj;have:=ok.inj x y b h2 h4;subst this;exact ZkQ ho i j x h1 h3
 lt i b hi:=by
  obtain⟨x,h1,h2⟩:=ZaR hi;exact ok.lt x b h2
 ent i e x he hx:=by
  have he':H[i]? =some e:=he;have hi:i < L.length:=by rw[<-Zad hin];exact(yo.1 he').1
  obtain⟨e0,e',h3,h4,h5⟩:=Zae hin (yad hi);rw[he'] at h4;cases h4
  have hm:∃y,σ.m[L[i]]? =some y:=by
   have:L[i] < σ.m.length:=by rw[ok.len];exact(yo.1 h3).1
   grind
  obtain⟨y,hy⟩:=hm;have:=ZEE (H:=H) (yad hi) hy;rw[hx] at this;cases this;exact ZnL (Zcd hin) h5 (ok.ent _ _ _ h3 hy)
 new b hb:=ok.new b hb
 own i b hi:=by
  obtain⟨x,h1,h2⟩:=ZaR hi;exact ok.own x b h2
theorem ZvT{σ σ':Sg}(ok:Ok σ)(to:To σ σ'){keep:yL Nat}{H:yL Ent}(ho:once (yp σ.H.length++keep)=true)(hin:subEnts σ'.H (yp σ.H.length++keep) (yp σ.H.length++keep)=some H):
 To σ (Zgo σ' (yp σ.H.length++keep) H):=by
 have hf:∀id,id < σ.H.length->toIds (yp σ.H.length++keep) id=some id:=λid h=>by
  refine idxOf?_of ho ?_;grind
 have rn:=Zcd hin;refine⟨⟨λb o v h1 h2=> ?_,λid b h1 h2=> ?_,λid s len A c h1=> ?_,λid b h1 h2=> ?_,λid v s st e d h1=> ?_⟩,to.F,to.B,to.os,to.tape,to.output,to.size,λb h1 h2=>to.block b h1 h2,λid b h=> ?_, ?_⟩
 ·obtain⟨h3,h4⟩:=to.leaf.cells b o v h1 h2;exact⟨h3,rn.stab b o v h3 h4⟩
 ·have hlt:id < σ.H.length:=by rw[<-ok.len];exact(yo.1 h1).1
  obtain⟨h3,h4⟩:=to.leaf.var id b h1 h2;exact⟨rn.m _ _ (hf id hlt) _ h3,rn.var (hf id hlt) h4⟩
 ·have hlt:id < σ.H.length:=by
   obtain⟨e,ys,h2,_⟩:=h1;grind
  exact rn.front (hf id hlt) (to.leaf.front _ _ _ _ _ h1)
 ·have hlt:id < σ.H.length:=by rw[<-ok.len];exact(yo.1 h1).1
  obtain⟨h3,h4⟩:=to.leaf.map id b h1 h2;exact⟨rn.m _ _ (hf id hlt) _ h3,rn.map (hf id hlt) h4⟩
 ·have hlt:id < σ.H.length:=(yo.1 h1).1;obtain⟨v',st',d',h5,h6,h7⟩:=to.leaf.row _ _ _ _ _ _ h1;obtain⟨d2,h8⟩:=rn.row (hf id hlt) h5;refine⟨v',st',d2,h8,h6,λhv=> ?_⟩;obtain⟨h9,h10⟩:=h7 hv;refine⟨?_,h10⟩;have hmm:∃x,σ.m[id]? =some x:=⟨_,yad (by rw[ok.len];exact hlt)⟩;obtain⟨x,hx⟩:=hmm;rw[hx];exact rn.m _ _ (hf id hlt) _ (by rw[h9];exact hx)
 ·obtain⟨x,h1,h2⟩:=ZaR h;rcases to.same x b h2 with h3|h3
  ·have hlt:x < σ.H.length:=by rw[<-ok.len];exact(yo.1 h3).1
   have:=idxOf?_of ho h1;have h4:=hf x hlt;unfold toIds at h4;grind
  grind
 ·show σ.m.length<=((yp σ.H.length++keep).map _).length;rw[ok.len];simp
def ZxO(tmps:Array yh):ResultVar->Sem yh
 |.tmp t=>pure (tmps.getD t undef)
 |.cell x t=>do loadVar t (<-asAddr (tmps.getD x undef))
theorem ZzR(fn:Func)(tmps:Array yh):results fn tmps=(do let vs <-fn.results.mapM (ZxO tmps);pure (if h:vs.size=1 then vs[0] else .tuple vs)):=by
 unfold results
 have:(λ(rv:ResultVar)=>(match rv with|.tmp t=>pure (tmps.getD t undef)|.cell a t=>do loadVar t (<-asAddr (tmps.getD a undef)):Sem yh))=ZxO tmps:=by
  funext rv;cases rv <;> rfl
 exact congrArg (λf=>(do let vs <-fn.results.mapM f;pure (if h:vs.size=1 then vs[0] else .tuple vs):Sem yh)) this
theorem Zm6{σ:Sg}{a:Act}{ts:yL Dv}(ok:Ok σ)(yK:RepT σ ts a):∀(rs:yL ResultVar)(hs:yL Hint)(C:yL Prop)(ds:yL Dv),Ztz P ts σ.H rs hs=some (C,ds)->AllP C->
 ∃vs,Sem.run P (rs.mapM (ZxO a.tmps)) σ.w=Result.ok vs σ.w/\repVs σ ds vs
 |[],hs,C,ds,h,_=>by
  simp only[Ztz,yq,yab] at h;obtain⟨rfl,rfl⟩:=h
  exact⟨[],by simp,by simp[repVs]⟩
 |.tmp t::r,hs,C,ds,h,hc=>by
  simp only[Ztz,yu,yab] at h;obtain⟨⟨C1,ds1⟩,h1,rfl,rfl⟩:=h;obtain⟨vs,h2,h3⟩:=Zm6 ok yK r hs C1 ds1 h1 hc;have h4:=Zq (P:=P) yK 0 (.tmp t);refine⟨a.tmps.getD t undef::vs, ?_, ?_⟩
  ·simp only[List.mapM_cons,ZxO,Sem.run_bind,Sem.run_pure,Result.andThen_ok,h2]
  ·simp only[repVs]
   exact⟨_,_,rfl,h4,h3⟩
 |.cell x t::r,hs,C,ds,h,hc=>by
  simp only[Ztz] at h;split at h
  ·rename_i id off yM hx;split at h
   ·rename_i dd st hH;split at h
    ·rename_i C1 off' sub hs1 hg;split at h
     ·rename_i hk;simp only[yu,yab] at h;obtain⟨⟨C2,ds1⟩,h1,rfl,rfl⟩:=h;obtain⟨c1,c2⟩:=Zk.1 hc;obtain⟨c1,c3⟩:=Zk.1 c1;obtain⟨vs,h2,h3⟩:=Zm6 ok yK r hs1 C2 ds1 h1 c2;have hv:=Zq (P:=P) yK 0 (.tmp x);simp only[argD,hx] at hv;obtain⟨b,hm,_,hxv⟩:=Zhq hv;unfold okT at hk;simp only[yi,yT] at hk;obtain⟨⟨⟨k1,k2⟩,k3⟩,k4⟩:=hk;obtain⟨cs,t',p1,p2,p3,_,_,_,_,h5,_,h6⟩:=ZnK ok hm hH hg c1 c3.1;obtain⟨v,h7,h8⟩:=Zhp (P:=P) h5 h6 k1 k4 k3 k2;have hxv':a.tmps.getD x undef=.pointer (some ⟨b,off,none⟩):=hxv;refine⟨v::vs, ?_, ?_⟩
      ·have ha:asAddr (a.tmps.getD x undef)=pure ⟨b,off,none⟩:=by rw[hxv'];rfl
       simp only[List.mapM_cons,ZxO,ha,Sem.run_bind,Sem.run_pure,Result.andThen_ok,h7,h2]
      ·simp only[repVs];exact⟨_,_,rfl,h8,h3⟩
     ·cases h
    ·cases h
   ·cases h
  ·cases h
theorem ZuD{σ:Sg}{ds:yL Dv}{vs:yL yh}(h:repVs σ ds vs):yH σ (Zrh ds) (if h:vs.toArray.size=1 then vs.toArray[0] else .tuple vs.toArray):=by
 have hl:=Zo1 h;unfold Zrh;split
 ·rename_i d;simp only[repVs] at h;obtain⟨v,vs',rfl,h1,h2⟩:=h;have:vs'=[]:=h2;subst this;have e:(if h:[v].toArray.size=1 then[v].toArray[0] else Value.tuple [v].toArray)=v:=by simp
  rw[e];exact h1
 ·rename_i hne
  have hn:¬vs.toArray.size=1:=by
   intro hs;have hd:ds.length=1:=by rw[<-hl];simpa using hs
   match ds,hd with
   |[d],_=>exact hne d rfl
  rw[dif_neg hn,Zi rfl];simp only[yG];grind
theorem Zhw{g:yw}{fn:Func}{c:Code}{args ts':yL Dv}{H H1 H':yL Ent}{ex:Ex}{r:Dv}{keep:yL Nat}{hs:yL Hint}{C:yL Prop}(hf:P.funcs[g]? =some fn)(hb:fn.body=some c)
 (hr:Wt P c (args++yac (fn.ntmps - args.length) .junk) H ex ts' H1) (hex:ex=.ret\/ex=.normal) (hfin:fin P fn ts' H1 H.length keep hs=some (C,r,H')) (hc:AllP C):Con P g args H r H':=by
 intro σ vs ok hH hvs;refine calls_of_wp hf hb ?_;have hl:=Zo1 hvs
 have yK:RepT σ (args++yac (fn.ntmps - args.length) .junk) { tmps:=vs.toArray++Array.replicate (fn.ntmps - vs.toArray.size) undef,defers:=[]}:=by
  refine⟨by simp[hl],λi d hi=> ?_,rfl⟩;rcases Nat.lt_or_ge i args.length with h1|h1
  ·rw[yba h1] at hi;obtain⟨v,h2,h3⟩:=Zrt hvs hi
   have h4:(vs.toArray++Array.replicate (fn.ntmps - vs.toArray.size) undef)[i]? =some v:=by
    grind
   simp_all
  ·rw[yat h1] at hi;have:=List.eq_of_mem_replicate (List.mem_of_getElem? hi);rw[this];exact XU
 refine wp_mono (hr σ _ ok hH yK) ?_;rintro e a w' ⟨rfl,σ',rfl,e1,to,ok',hrep'⟩;unfold fin at hfin;split at hfin
 ·rename_i C1 ds hres;dsimp only at hfin
  have main:∀r,(Zrh ds).rn (toIds (yp H.length++keep))=some r\/(Zrh (ds.map Dv.arg)).rn (toIds (yp H.length++keep))=some r->once (yp H.length++keep)=true->
   subEnts H1 (yp H.length++keep) (yp H.length++keep)=some H'->AllP C1->a.defers=[]/\∃v,(results fn a.tmps).run P σ'.w=.ok v σ'.w/\
    ∃v0 σ'',(Ending.returned v)=.returned v0/\σ''.w=σ'.w/\σ''.H=H'/\To σ σ''/\Ok σ''/\yH σ'' r v0:=by
   intro r hrn honce hsub hc1;refine⟨hrep'.defers, ?_⟩;rw[<-e1] at hres hsub;obtain⟨vs',h2,h3⟩:=Zm6 (P:=P) ok' hrep' _ _ _ _ hres hc1
   refine⟨if h:vs'.toArray.size=1 then vs'.toArray[0] else .tuple vs'.toArray, ?_,if h:vs'.toArray.size=1 then vs'.toArray[0] else .tuple vs'.toArray,
    Zgo σ' (yp H.length++keep) H',rfl,rfl,rfl, ?_,ZnQ ok' honce hsub, ?_⟩
   ·rw[ZzR,Sem.run_bind, <-Array.toArray_toList (xs:=fn.results),List.mapM_toArray];simp_all
   ·rw[<-hH] at honce hsub ⊢;exact ZvT ok to honce hsub
   ·rcases hrn with hrn|hrn
    ·exact Zgd (Zcd hsub) hrn (ZuD h3)
    ·refine Zgd (Zcd hsub) hrn (ZuD ?_);exact ZEo h3
  have main':bodyPost P fn (λe w'=>∃v σ'',e=.returned v/\σ''.w=w'/\σ''.H=H'/\To σ σ''/\Ok σ''/\yH σ'' r v) ex.to a σ'.w:=by
   have zL:a.defers=[]/\∃v,(results fn a.tmps).run P σ'.w=.ok v σ'.w/\∃v0 σ'',(Ending.returned v)=.returned v0/\σ''.w=σ'.w/\σ''.H=H'/\To σ σ''/\Ok σ''/\yH σ'' r v0:=by
    split at hfin
    ·rename_i ho hrn hsub;simp only[yq,yab] at hfin;obtain⟨rfl,rfl,rfl⟩:=hfin;exact main _ (.inl hrn) ho hsub hc
    all_goals simp_all
   rcases hex with rfl|rfl
   ·exact zL
   ·exact zL
  exact main'
 ·cases hfin
end
end Go.Ev
end
section
namespace Go.Ev
noncomputable def evF(P:yg)(g:yw)(args:yL Dv)(H:yL Ent)(hs:yL Hint)(keep:yL Nat):yO (yL Prop×Dv×yL Ent):=
 match P.funcs[g]? with
 |some fn=>match fn.body with
  |some c=>match ev P c (args++yac (fn.ntmps - args.length) .junk) H hs with
   |some (C,.ret,ts',H1,hs')=>match fin P fn ts' H1 H.length keep hs' with
    |some (C2,r,H')=>some (C++C2,r,H')
    |none=>none
   |some (C,.normal,ts',H1,hs')=>match fin P fn ts' H1 H.length keep hs' with
    |some (C2,r,H')=>some (C++C2,r,H')
    |none=>none
   |_=>none
  |none=>none
 |none=>none
theorem ZC7{P:yg}{g:yw}{args:yL Dv}{H H':yL Ent}{hs:yL Hint}{keep:yL Nat}{C:yL Prop}{r:Dv}(h:evF P g args H hs keep=some (C,r,H'))(hc:AllP C):Con P g args H r H':=by
 unfold evF at h;split at h
 ·rename_i fn hf;split at h
  ·rename_i c hb;split at h
   ·rename_i C1 ts' H1 hs' hev;split at h
    ·rename_i C2 r1 H2 hfin;simp only[yq,yab] at h;obtain⟨rfl,rfl,rfl⟩:=h;obtain⟨c1,c2⟩:=Zk.1 hc;exact Zhw hf hb (Zaf c _ _ _ _ _ _ _ _ hev c1) (.inl rfl) hfin c2
    ·cases h
   ·rename_i C1 ts' H1 hs' hev;split at h
    ·rename_i C2 r1 H2 hfin;simp only[yq,yab] at h;obtain⟨rfl,rfl,rfl⟩:=h;obtain⟨c1,c2⟩:=Zk.1 hc;exact Zhw hf hb (Zaf c _ _ _ _ _ _ _ _ hev c1) (.inr rfl) hfin c2
    ·cases h
   ·cases h
  ·cases h
 ·cases h
theorem ZrT{P:yg}{c:Code}{ts ts':yL Dv}{H H':yL Ent}{ex:Ex}{hs hs':yL Hint}{C:yL Prop}(h:ev P c ts H hs=some (C,ex,ts',H',hs'))(hc:AllP C):Wt P c ts H ex ts' H':=
 Zaf c _ _ _ _ _ _ _ _ h hc
def ZO:Code->yL Code
 |.seq a b=>ZO a++ZO b
 |.cond _ a b=>ZO a++ZO b
 |.block _ a=>ZO a
 |.scope a=>ZO a
 |.loop a=>.loop a::ZO a
 |_=>[]
def ZEF(P:yg)(g i:Nat):Code:=
 match P.funcs[g]? with
 |some fn=>match fn.body with
  |some c=>(ZO c).getD i .skip
  |none=>.skip
 |none=>.skip
def ZIX:Code->Code
 |.loop a=>a
 |c=>c
def Zbq(P:yg)(g i:Nat):Code:=ZIX (ZEF P g i)
def u8(b:yB):Pl:=.int .u8 (b.toNat:Int)
theorem ZkX{f:Nat->yO Nat}{σ σ':Sg}(h:Rn f σ σ'){ts ts':yL Dv}{a:Act}(e:Dv.rns f ts=some ts')(hr:RepT σ ts a):RepT σ' ts' a:=by
 refine⟨by rw[Zm1 e];exact hr.size, ?_,hr.defers⟩
 have key:∀(xs ys:yL Dv),Dv.rns f xs=some ys->∀(i:Nat)(d:Dv),ys[i]? =some d->∃d0,xs[i]? =some d0/\d0.rn f=some d:=by
  intro xs
  induction xs with
  |nil=>
   intro ys h1 i d h2;simp only[Dv.rns,yq] at h1;subst h1
   simp at h2
  |cons x r ih=>
   intro ys h1 i d h2;simp only[Dv.rns] at h1;split at h1
   ·rename_i y ys' h3 h4;cases h1
    cases i with
    |zero=>simp only[ybx,yq] at h2 ⊢;subst h2;exact⟨x,rfl,h3⟩
    |succ j=>simp only[ybb] at h2 ⊢;exact ih _ h4 j d h2
   ·cases h1
 intro i d hd;obtain⟨d0,h1,h2⟩:=key ts ts' e i d hd;exact Zgd h h2 (hr.at_ i d0 h1)
theorem ZuE{P:yg}{body:Code}{ts ts1 ts2:yL Dv}{H H1 H2:yL Ent}{ex:Ex}(mask keep:yL Nat)(h1:Wt P body ts H ex ts1 H1)
 (ho:once (yp H.length++keep)=true) (hin:subEnts H1 (yp H.length++keep) (yp H.length++keep)=some H2)
 (e:Dv.rns (toIds (yp H.length++keep)) (ZnE ts1 mask)=some ts2):Wt P body ts H ex ts2 H2:=by
 intro σ a ok hH yK;subst hH;refine wp_mono (h1 σ a ok rfl yK) ?_;rintro e' a' w' ⟨rfl,σ1,rfl,e1,to1,ok1,hrep1⟩;subst e1;exact⟨rfl,Zgo σ1 (yp σ.H.length++keep) H2,rfl,rfl,ZvT ok to1 ho hin,ZnQ ok1 ho hin,ZkX (Zcd hin) e (Zhv (mask:=mask) hrep1)⟩
end Go.Ev
namespace Go.Ev
theorem ZHi{P:yg}{g:yw}{args args':yL Dv}{H H0 H':yL Ent}{r:Dv}(h:Con P g args' H0 r H')(ha:WkL args args')(hH:WkH H H0):Con P g args H r H':=by
 intro σ vs ok e hr;subst e;obtain⟨to,ok'⟩:=ZpP ok hH;refine Calls.mono (h { σ with H:=H0} vs ok' rfl (ha.vs ?_)) ?_
 ·have:=to.leaf;clear ok' h;have key:∀(l:yL Dv)(us:yL yh),repVs σ l us->repVs { σ with H:=H0} l us:=λl us q=>repVs_leaf this l us q;exact key _ _ hr
 ·rintro e w' ⟨v,σ',h1,h2,h3,h4,h5,h6⟩;exact⟨v,σ',h1,h2,h3,to.trans h4,h5,h6⟩
theorem ZxP{P:yg}{g:yw}{args:yL Dv}{H H1 H':yL Ent}{r r':Dv}(h:Con P g args H r H1)(hr:Wk r r')(hH:WkH H1 H'):Con P g args H r' H':=by
 intro σ vs ok e hv;refine Calls.mono (h σ vs ok e hv) ?_;rintro e w' ⟨v,σ',h1,h2,h3,h4,h5,h6⟩;subst h3;obtain⟨to,ok'⟩:=ZpP h5 hH;exact⟨v,{ σ' with H:=H'},h1,h2,rfl,h4.trans to,ok',hr.dv (WK to.leaf h6)⟩
theorem ZuF{P:yg}{c:Code}{ts ts1 ts2:yL Dv}{H H1 H2:yL Ent}{ex:Ex}(h:Wt P c ts H ex ts1 H1)(ht:WkL ts1 ts2)(hH:WkH H1 H2):Wt P c ts H ex ts2 H2:=by
 intro σ a ok e hr;refine wp_mono (h σ a ok e hr) ?_;rintro e' a' w' ⟨h1,σ',rfl,h3,h4,h5,h6⟩;subst h3;obtain⟨to,ok'⟩:=ZpP h5 hH;exact⟨h1,{ σ' with H:=H2},rfl,rfl,h4.trans to,ok',ht.repT (h6.to to.leaf)⟩
end Go.Ev
namespace Go.Ev
theorem ZHj{P:yg}{g:yw}{args:yL Dv}{H H1 H':yL Ent}{r r':Dv}(hs:yL Hint)(keep:yL Nat)(C:yL Prop)(h:evF P g args H hs keep=some (C,r,H1))(hc:AllP C)(e:Wk r r')(eH:WkH H1 H'):Con P g args H r' H':=
 ZxP (ZC7 h hc) e eH
theorem ZBo{α β:Type}{f:α->β}(hf:∀a b,f a=f b->a=b):∀{l m:yL α},l.map f=m.map f->l=m
 |[],[],_=>rfl
 |[],_::_,h=>by simp at h
 |_::_,[],h=>by simp at h
 |x::l,y::m,h=>by
  simp only[yah,List.cons.injEq] at h;rw[hf _ _ h.1,ZBo hf h.2]
instance(k:IntKind)(x:Int):Decidable (Qk k x):=by unfold Qk;exact inferInstance
theorem ZnR{P:yg}{R R':yb->Pl->Prop}(h:∀t x,R t x->R' t x):∀(fs:yL Field)(o:Nat)(xs:yL Pl),Zir P R fs o xs->Zir P R' fs o xs
 |[],_,[],_=>trivial
 |[],_,_::_,k=>k.elim
 |_::_,_,[],k=>k.elim
 |f::fs,o,y::ys,k=>by
  obtain⟨a1,a2,a3,a4,a5,a6,a7,a8,a9⟩:=k;exact⟨a1,a2,a3,a4,a5,a6,a7,h _ _ a8,ZnR h fs _ ys a9⟩
theorem Zq1{P:yg}:∀{n:Nat}{t:yb}{x:Pl},fitP P n t x->fitP P (n+1) t x
 |0,t,x,h=>by simp[fitP] at h
 |n+1,t,x,h=>by
  unfold fitP at h ⊢;split at h
  ·trivial
  ·exact h
  ·obtain⟨a1,a2,a3,a4,a5,a6⟩:=h;exact⟨a1,a2,a3,a4,a5,λy hy=>⟨Zq1 (a6 y hy).1,(a6 y hy).2⟩⟩
  ·exact⟨h.1,ZnR (λt x k=>Zq1 k) _ _ _ h.2⟩
  ·exact h.elim
theorem ZBp{P:yg}{g:yw}{s:Nat}{xs:yL Pl}{H H':yL Ent}{r:Dv}{yJ:yL Dv}(h1:Con P g (.p (.sl (some true) s xs)::yJ) H r H')(h2:xs=[]->Con P g (.p (.sl (some false) s [])::yJ) H r H'):
 Con P g (.p (.sl none s xs)::yJ) H r H':=by
 intro σ vs ok e hr;simp only[repVs] at hr;obtain⟨v,vs',rfl,hv,hrest⟩:=hr;obtain⟨k1,A,c,rfl,k2,k3,k4,k5,k6⟩:=W8 hv
 cases hA:A with
 |none=>
  have hx:xs=[]:=by
   cases xs with
   |nil=>rfl
   |cons x r=>obtain⟨b,o,us,hh,_⟩:=k6 (by simp);rw[hA] at hh;cases hh
  subst hx;subst hA;refine h2 rfl σ _ ok e ?_;simp only[repVs]
  exact⟨_,_,rfl,YM k1 k2 k3 (Zrg rfl) k5 (λh=>absurd rfl h),hrest⟩
 |some a=>
  subst hA;refine h1 σ _ ok e ?_;simp only[repVs];exact⟨_,_,rfl,YM k1 k2 k3 (Zdy rfl) k5 k6,hrest⟩
end Go.Ev
namespace Go.Ev
end Go.Ev
namespace Go.Ev
def st(n:Nat)(l:yL (Nat×Dv)):yL Dv:=(yp n).map λi=>(l.lookup i).getD .junk
inductive WkA:List (Nat×Dv)->List (Nat×Dv)->Prop where
 |nil:WkA [] []
 |cons {i:Nat} {d e:Dv} {l m:List (Nat×Dv)} (h:Wk d e) (k:WkA l m):WkA ((i,d)::l) ((i,e)::m)
theorem WkA.look{l m:yL (Nat×Dv)}(h:WkA l m)(i:Nat):Wk ((l.lookup i).getD .junk) ((m.lookup i).getD .junk):=by
 induction h with
 |nil=>exact Wk.refl _
 |cons h k ih=>
  rename_i j d e l m;simp only[List.lookup_cons];split
  ·exact h
  ·exact ih
theorem WkL.st{n:Nat}{l m:yL (Nat×Dv)}(h:WkA l m):WkL (st n l) (st n m):=by
 unfold Go.Ev.st;generalize yp n=r
 induction r with
 |nil=>exact .nil
 |cons i r ih=>exact .cons (h.look i) ih
end Go.Ev
end
section
namespace Go.Ev
section
variable{K V:Type}[DecidableEq K]
def kvl(ek:K->Pl)(ev:V->Pl)(l:yL (K×V)):yL (Pl×Pl):=l.map λq=>(ek q.1,ev q.2)
def Zek:yL (K×V)->K->yO V
 |[],_=>none
 |q::l,k=>if k=q.1 then some q.2 else Zek l k
def Zkq:yL (K×V)->K->V->yL (K×V)
 |[],k,v=>[(k,v)]
 |q::l,k,v=>if k=q.1 then(k,v)::l else q::Zkq l k v
theorem Zm7{ek:K->Pl}{ev:V->Pl}(hi:∀x y,ek x=ek y↔x=y)(k:K):∀l:yL (K×V),Qg (kvl ek ev l) (ek k) ((Zek l k).map ev)
 |[]=>rfl
 |q::l=>by
  show Qg ((ek q.1,ev q.2)::kvl ek ev l) (ek k) _;unfold Qg Zek;by_cases h:k=q.1
  ·left;rw[yW h];exact⟨(hi _ _).2 h,rfl⟩
  ·right;rw[yX h];exact⟨λhh=>h ((hi _ _).1 hh),Zm7 hi k l⟩
theorem ZzS{ek:K->Pl}{ev:V->Pl}(hi:∀x y,ek x=ek y↔x=y){k:K}{l:yL (K×V)}{v:V}(h:Zek l k=some v):Qg (kvl ek ev l) (ek k) (some (ev v)):=by
 have:=Zm7 (ev:=ev) hi k l;rw[h] at this;exact this
theorem ZzT{ek:K->Pl}{ev:V->Pl}(hi:∀x y,ek x=ek y↔x=y){k:K}{l:yL (K×V)}(h:(Zek l k).isSome=false):Qg (kvl ek ev l) (ek k) none:=by
 have:=Zm7 (ev:=ev) hi k l
 cases hm:Zek l k with
 |none=>rw[hm] at this;exact this
 |some v=>rw[hm] at h;cases h
theorem ZrU{ek:K->Pl}{ev:V->Pl}(hi:∀x y,ek x=ek y↔x=y)(k:K)(v:V):∀l:yL (K×V),ZcZ (kvl ek ev l) (ek k) (ev v) (kvl ek ev (Zkq l k v))
 |[]=>rfl
 |q::l=>by
  show ZcZ ((ek q.1,ev q.2)::kvl ek ev l) (ek k) (ev v) _;unfold ZcZ Zkq;by_cases h:k=q.1
  ·left;rw[yW h];exact⟨(hi _ _).2 h,rfl⟩
  ·right;rw[yX h];exact⟨λhh=>h ((hi _ _).1 hh),_,rfl,ZrU hi k v l⟩
end
theorem Zpb{K V:Type}{P:yg}{kt:yb}{ek:K->Pl}{ev:V->Pl}(h:∀x,fitP P 20 kt (ek x))(l:yL (K×V)):Zj9 P kt (kvl ek ev l):=by
 intro q hq;obtain⟨p,_,rfl⟩:=List.mem_map.1 hq;exact h _
end Go.Ev
namespace Go.Ev
theorem ZxQ{P:yg}{g:yw}{s:Nat}{e:yb}{H H':yL Ent}{r:Dv}{yJ:yL Dv}(h:Con P g (.own H.length none s []::yJ) (H++[.log s e []]) r H'):
 Con P g (.p (.sl (some false) s [])::yJ) H r H':=by
 intro σ vs ok eH hr;simp only[repVs] at hr;obtain⟨v,vs',rfl,hv,hrest⟩:=hr;obtain rfl:=ZnI hv;subst eH;obtain⟨to,ok'⟩:=V0 (σ':={ σ with m:=σ.m++[none],H:=σ.H++[.log s e []]}) ok rfl rfl rfl rfl (World.grownBy.refl σ.w none) (.inl rfl) (λ_=>.inl ⟨rfl,rfl⟩);refine(h { σ with m:=σ.m++[none],H:=σ.H++[.log s e []]} (.slice none 0 0::vs') ok' rfl ?_).mono λex w'⟨v,σ',h1,h2,h3,h4,h5,h6⟩=>⟨v,σ',h1,h2,h3,to.trans h4,h5,h6⟩;simp only[repVs];refine⟨_,_,rfl,(Zi (d:=.own σ.H.length none s []) rfl).2 ?_,repVs_leaf to.leaf _ _ hrest⟩;simp only[yG];refine⟨λ_ hx=>(by cases hx),none,0,rfl,yl _,by simp[maxLen],Yp _,λ_=>rfl,λh=>absurd rfl h,e,[],by simp,yl _,λ_=>.inl ⟨?_,rfl,rfl⟩⟩;rw[yat (by rw[ok.len];exact yl _),ok.len];simp
end Go.Ev
namespace Go.Ev
end Go.Ev
end
section
namespace Go.Ev
inductive DeepR(H:List Ent):Dv->Pl->Prop where
 |p (x:Pl):DeepR H (.p x) x
 |own (id:Nat) (nn:Option Bool) (s:Nat) (xs:List Pl):DeepR H (.own id nn s xs) (.sl nn s xs)
 |agg {ds:List Dv} {ys:List Pl} (hl:ds.length=ys.length) (h:∀(i:Nat)(d:Dv)(y:Pl),ds[i]? =some d->ys[i]? =some y->DeepR H d y):DeepR H (.agg ds) (.agg ys)
 |rvp {id v s lo n N:Nat} {e:yb} {xs:List Pl} (hH:H[id]? =some (.row v s false e (.p (.arr N s xs)))) (hle:lo+n<=N):DeepR H (.rv id v s lo n) (.sl none s ((xs.drop lo).take n))
 |rva {id v s lo n N:Nat} {e:yb} {ds:List Dv} {ys:List Pl} (hH:H[id]? =some (.row v s false e (.arr N s ds))) (hle:lo+n<=N) (hl:ds.length=ys.length)
   (h:∀(i:Nat)(d:Dv)(y:Pl),ds[i]? =some d->ys[i]? =some y->DeepR H d y):DeepR H (.rv id v s lo n) (.sl none s ((ys.drop lo).take n))
 |wk {d:Dv} {x y:Pl} (h:DeepR H d x) (k:PlWk x y):DeepR H d y
theorem Zpc{σ:Sg}:∀{ds:yL Dv}{ys:yL Pl}{us:yL yh},ds.length=ys.length->(∀(i:Nat)(d:Dv)(y:Pl),ds[i]? =some d->ys[i]? =some y->∀vs,yG σ d vs->repC σ.w σ.stab y vs)->repDs σ ds us->repCs σ.w σ.stab ys us
 |[],[],us,_,_,h=>by simpa[repDs,repCs] using h
 |[],_::_,_,hl,_,_=>by simp at hl
 |_::_,[],_,hl,_,_=>by simp at hl
 |d::ds,y::ys,us,hl,hk,h=>by
  simp only[repDs] at h;obtain⟨a,b,h1,h2,h3⟩:=h;simp only[repCs];exact⟨a,b,h1,hk 0 d y rfl rfl a h2,Zpc (by simpa using hl) (λi d y h4 h5=>hk (i+1) d y (by simpa using h4) (by simpa using h5)) h3⟩
theorem ZxR{σ:Sg}(ok:Ok σ){id v s lo n N:Nat}{e:yb}{dd:Dv}{xs:yL Pl}{u:yh}(hx:yH σ (.rv id v s lo n) u)(hH:σ.H[id]? =some (.row v s false e dd))(hN:rowN dd s=some N)(hle:lo+n<=N)
 (hd:∀us,yG σ dd us->xs.length=N/\allSz s xs/\repCs σ.w σ.stab xs us):yH σ (.p (.sl none s ((xs.drop lo).take n))) u:=by
 obtain⟨A,c,rfl,h2,h3,h4,h5,v2,s2,st2,e2,d2,h6,h7,h8⟩:=ZhX hx;rw[hH] at h6;cases h6;obtain⟨_,h9⟩:=h8 rfl;have hidlt:id < σ.m.length:=by rw[ok.len];exact(yo.1 hH).1
 have hmi:σ.m[id]? =some σ.m[id]:=yad hidlt;obtain⟨N',hN',hent⟩:=ok.ent id _ _ hH hmi;rw[hN] at hN';cases hN';by_cases hn:n=0
 ·subst hn;have:=YM (σ:=σ) (nn:=none) (s:=s) (xs:=[]) (A:=A) (c:=c) (λ_ hx=>by cases hx) (by simp) h3 (Yp _) h4 (λh=>absurd rfl h);simpa using this
 have hpos:0 < n:=Nat.pos_of_ne_zero hn;rcases h9 with⟨_,_,hz⟩|⟨b,cur,k1,k2,k3,k4⟩
 ·omega
 rw[hmi] at k1;rcases hent with⟨hh,_⟩|⟨b',cur',cap,hh,g2,g4,g5,g6,g7⟩
 ·rw[hh] at k1;cases k1
 rw[hh] at k1;cases k1;rw[k2] at g2;cases g2;obtain⟨hxl,hxs,h7⟩:=hd _ g7
 have hsplit:xs=xs.take lo++((xs.drop lo).take n++xs.drop (lo+n)):=by
  have e1:xs.drop (lo+n)=(xs.drop lo).drop n:=by rw[List.drop_drop]
  rw[e1,ybl,ybl]
 rw[hsplit] at h7;obtain⟨q1,q23,e1,r1,r23⟩:=YN h7;obtain⟨q2,q3,rfl,r2,r3⟩:=YN r23;have hsy:allSz s ((xs.drop lo).take n):=λz hz=>hxs z (List.mem_of_mem_drop (List.mem_of_mem_take hz));have ly:((xs.drop lo).take n).length=n:=by rw[List.length_take,List.length_drop,Nat.min_eq_left (by omega)]
 have l1:q1.length=lo*s:=by rw[repCs_size _ _ r1,sizes_all (λz hz=>hxs z (List.mem_of_mem_take hz)),List.length_take,Nat.min_eq_left (by omega)]
 have hmk:=YM (σ:=σ) (nn:=none) (A:=A) (c:=c) hsy (by rw[ly];exact h2) h3 (Yp _) h4 (λ_=>by
  refine⟨b,lo*s,q2,k4 (by omega),r2,λj u hu=>⟨?_,.inr (ok.own id b (by rw[hmi,hh])),λj' e' g1 g2=> ?_⟩⟩
  ·rw[cell_of_row σ.w b _ cur e (0,0) k2, <-Array.getElem?_toList];have hj:j < q2.length:=(yo.1 hu).1
   have e2:(cur.toList.take (N*s))[lo*s+j]? =some u:=by
    rw[e1,yat (by omega),l1,Nat.add_sub_cancel_left,yba hj];exact hu
   rw[List.getElem?_take] at e2;split at e2
   ·exact e2
   ·cases e2
  ·have:j'=id:=ok.inj j' id b g1 (by rw[hmi,hh]);subst this;rw[hH] at g2;cases g2;refine⟨rfl,N,hN, ?_⟩;have hj:=(yo.1 hu).1;have l2:q2.length=n*s:=by rw[repCs_size _ _ r2,sizes_all hsy,ly]
   have h9:(lo+n)*s<=N*s:=Nat.mul_le_mul_right _ hle;rw[l2] at hj;rw[Nat.add_mul] at h9;omega)
 rw[ly] at hmk;exact hmk
theorem ZEG{σ:Sg}(ok:Ok σ){d:Dv}{x:Pl}(h:DeepR σ.H d x):∀vs,yG σ d vs->repC σ.w σ.stab x vs:=by
 induction h with
 |p x=>intro vs hr;simpa[yG] using hr
 |own id nn s xs=>
  intro vs hr;have hv:∃v,vs=[v]:=by simp only[yG] at hr;obtain⟨_,A,c,rfl,_⟩:=hr;exact⟨_,rfl⟩
  obtain⟨v,rfl⟩:=hv;have:=ZaQ ((Zi (by rfl)).2 hr);rw[Zi (by rfl)] at this
  simpa[yG] using this
 |agg hl h ih=>
  intro vs hr;simp only[yG] at hr;simp only[repC]
  exact Zpc hl ih hr
 |rvp hH hle=>
  intro vs hr;have hv:∃v,vs=[v]:=by simp only[yG] at hr;obtain⟨A,c,rfl,_⟩:=hr;exact⟨_,rfl⟩
  obtain⟨v,rfl⟩:=hv;have:=ZxR ok ((Zi (by rfl)).2 hr) hH (by simp[rowN]) hle (λus h=>by simp only[yG,repC] at h;exact h);rw[Zi (by rfl)] at this
  simpa[yG] using this
 |rva hH hle hl h ih=>
  rename_i id v s lo n N e ds ys;intro vs hr;have hv:∃v,vs=[v]:=by simp only[yG] at hr;obtain⟨A,c,rfl,_⟩:=hr;exact⟨_,rfl⟩
  obtain⟨v,rfl⟩:=hv
  have:=ZxR (xs:=ys) ok ((Zi (by rfl)).2 hr) hH (by simp[rowN]) hle (λus h=>by
   simp only[yG] at h;obtain⟨h1,h2,h3⟩:=h;refine⟨by rw[<-hl];exact h1, ?_,Zpc hl ih h3⟩;intro y hy;obtain⟨i,hi⟩:=List.getElem?_of_mem hy;have hlt:i < ds.length:=by rw[hl];exact(yo.1 hi).1
   have hd:=yad hlt;obtain⟨a,b,c,e1,l1,r2,_⟩:=Zgc h3 hd;have q1:=W5 _ _ (ih i _ y hd hi b r2);have q2:=W6 _ _ r2;rw[<-q1,q2];exact h2 _ (List.mem_of_getElem? hd))
  rw[Zi (by rfl)] at this
  simpa[yG] using this
 |wk h k ih=>intro vs hr;exact k.rep _ _ _ (ih vs hr)
inductive Ty where
 |int (k:IntKind)
 |u8|u32|u64
 |bool
 |str
 |sl (t:Ty)
 |arr (n:Nat) (t:Ty)
 |st (fs:List Ty)
 deriving Inhabited
mutual
def Ty.den:Ty->Type
 |.int _=>Int
 |.u8=>yB
 |.u32=>yV
 |.u64=>yU
 |.bool=>Bool
 |.str=>ByteArray
 |.sl t=>yL (Ty.den t)
 |.arr _ t=>yL (Ty.den t)
 |.st fs=>Ty.dens fs
def Ty.dens:yL Ty->Type
 |[]=>Unit
 |[t]=>Ty.den t
 |t::u::r=>Ty.den t×Ty.dens (u::r)
end
mutual
def Ty.size:Ty->Nat
 |.arr n t=>n*Ty.size t
 |.st fs=>Ty.sizes fs
 |_=>1
def Ty.sizes:yL Ty->Nat
 |[]=>0
 |t::r=>Ty.size t+Ty.sizes r
end
mutual
def Ty.dec:(a b:Ty)->Decidable (a=b)
 |.int k,.int l=>if h:k=l then isTrue (by rw[h]) else isFalse (by intro e;cases e;exact h rfl)
 |.u8,.u8=>isTrue rfl
 |.u32,.u32=>isTrue rfl
 |.u64,.u64=>isTrue rfl
 |.bool,.bool=>isTrue rfl
 |.str,.str=>isTrue rfl
 |.sl t,.sl u=>match Ty.dec t u with
  |isTrue h=>isTrue (by rw[h])
  |isFalse h=>isFalse (by intro e;cases e;exact h rfl)
 |.arr n t,.arr m u=>if k:n=m then match Ty.dec t u with
  |isTrue h=>isTrue (by rw[h,k])
  |isFalse h=>isFalse (by intro e;cases e;exact h rfl) else isFalse (by intro e;cases e;exact k rfl)
 |.st fs,.st gs=>match Ty.decs fs gs with
  |isTrue h=>isTrue (by rw[h])
  |isFalse h=>isFalse (by intro e;cases e;exact h rfl)
 |.int _,.u8=>isFalse nofun
 |.int _,.u32=>isFalse nofun
 |.int _,.u64=>isFalse nofun
 |.int _,.bool=>isFalse nofun
 |.int _,.str=>isFalse nofun
 |.int _,.sl _=>isFalse nofun
 |.int _,.arr _ _=>isFalse nofun
 |.int _,.st _=>isFalse nofun
 |.u8,.int _=>isFalse nofun
 |.u8,.u32=>isFalse nofun
 |.u8,.u64=>isFalse nofun
 |.u8,.bool=>isFalse nofun
 |.u8,.str=>isFalse nofun
 |.u8,.sl _=>isFalse nofun
 |.u8,.arr _ _=>isFalse nofun
 |.u8,.st _=>isFalse nofun
 |.u32,.int _=>isFalse nofun
 |.u32,.u8=>isFalse nofun
 |.u32,.u64=>isFalse nofun
 |.u32,.bool=>isFalse nofun
 |.u32,.str=>isFalse nofun
 |.u32,.sl _=>isFalse nofun
 |.u32,.arr _ _=>isFalse nofun
 |.u32,.st _=>isFalse nofun
 |.u64,.int _=>isFalse nofun
 |.u64,.u8=>isFalse nofun
 |.u64,.u32=>isFalse nofun
 |.u64,.bool=>isFalse nofun
 |.u64,.str=>isFalse nofun
 |.u64,.sl _=>isFalse nofun
 |.u64,.arr _ _=>isFalse nofun
 |.u64,.st _=>isFalse nofun
 |.bool,.int _=>isFalse nofun
 |.bool,.u8=>isFalse nofun
 |.bool,.u32=>isFalse nofun
 |.bool,.u64=>isFalse nofun
 |.bool,.str=>isFalse nofun
 |.bool,.sl _=>isFalse nofun
 |.bool,.arr _ _=>isFalse nofun
 |.bool,.st _=>isFalse nofun
 |.str,.int _=>isFalse nofun
 |.str,.u8=>isFalse nofun
 |.str,.u32=>isFalse nofun
 |.str,.u64=>isFalse nofun
 |.str,.bool=>isFalse nofun
 |.str,.sl _=>isFalse nofun
 |.str,.arr _ _=>isFalse nofun
 |.str,.st _=>isFalse nofun
 |.sl _,.int _=>isFalse nofun
 |.sl _,.u8=>isFalse nofun
 |.sl _,.u32=>isFalse nofun
 |.sl _,.u64=>isFalse nofun
 |.sl _,.bool=>isFalse nofun
 |.sl _,.str=>isFalse nofun
 |.sl _,.arr _ _=>isFalse nofun
 |.sl _,.st _=>isFalse nofun
 |.arr _ _,.int _=>isFalse nofun
 |.arr _ _,.u8=>isFalse nofun
 |.arr _ _,.u32=>isFalse nofun
 |.arr _ _,.u64=>isFalse nofun
 |.arr _ _,.bool=>isFalse nofun
 |.arr _ _,.str=>isFalse nofun
 |.arr _ _,.sl _=>isFalse nofun
 |.arr _ _,.st _=>isFalse nofun
 |.st _,.int _=>isFalse nofun
 |.st _,.u8=>isFalse nofun
 |.st _,.u32=>isFalse nofun
 |.st _,.u64=>isFalse nofun
 |.st _,.bool=>isFalse nofun
 |.st _,.str=>isFalse nofun
 |.st _,.sl _=>isFalse nofun
 |.st _,.arr _ _=>isFalse nofun
def Ty.decs:(a b:yL Ty)->Decidable (a=b)
 |[],[]=>isTrue rfl
 |t::r,u::q=>match Ty.dec t u,Ty.decs r q with
  |isTrue h,isTrue k=>isTrue (by rw[h,k])
  |isFalse h,_=>isFalse (by intro e;cases e;exact h rfl)
  |_,isFalse h=>isFalse (by intro e;cases e;exact h rfl)
 |[],_::_=>isFalse nofun
 |_::_,[]=>isFalse nofun
end
instance:DecidableEq Ty:=Ty.dec
def Ty.cast(t u:Ty)(x:t.den):yO u.den:=
 match Ty.dec t u with
 |isTrue h=>some (h ▸ x)
 |isFalse _=>none
def Ty.castL(t u:Ty)(x:yL t.den):yO (yL u.den):=
 match Ty.dec t u with
 |isTrue h=>some (h ▸ x)
 |isFalse _=>none
theorem QN{t u:Ty}{x:t.den}{y:u.den}(h:Ty.cast t u x=some y):∃e:t=u,y=e ▸ x:=by
 unfold Ty.cast at h;split at h
 all_goals grind
theorem ZR{t u:Ty}{x:yL t.den}{y:yL u.den}(h:Ty.castL t u x=some y):∃e:t=u,y=e ▸ x:=by
 unfold Ty.castL at h;split at h
 all_goals grind
mutual
def Ty.enc:(t:Ty)->t.den->Pl
 |.int k,n=>.int k n
 |.u8,b=>.int .u8 (b.toNat:Int)
 |.u32,b=>.int .u32 (b.toNat:Int)
 |.u64,b=>.int .u64 (b.toNat:Int)
 |.bool,b=>.bool b
 |.str,s=>.str s
 |.sl t,l=>.sl none (Ty.size t) (List.map (Ty.enc t) l)
 |.arr n t,l=>.arr n (Ty.size t) (List.map (Ty.enc t) l)
 |.st fs,x=>.agg (Ty.encs fs x)
def Ty.encs:(fs:yL Ty)->Ty.dens fs->yL Pl
 |[],_=>[]
 |[t],x=>[Ty.enc t x]
 |t::u::r,x=>Ty.enc t x.1::Ty.encs (u::r) x.2
end
mutual
theorem Ziw:∀(t:Ty)(x:t.den),(t.enc x).size=t.size
 |.int _,_=>rfl
 |.u8,_=>rfl
 |.u32,_=>rfl
 |.u64,_=>rfl
 |.bool,_=>rfl
 |.str,_=>rfl
 |.sl _,_=>rfl
 |.arr _ _,_=>rfl
 |.st fs,x=>by rw[Ty.enc,Pl.size,Ty.size];exact encs_sizes fs x
theorem encs_sizes:∀(fs:yL Ty)(x:Ty.dens fs),Pl.sizes (Ty.encs fs x)=Ty.sizes fs
 |[],_=>rfl
 |[t],x=>by simp only[Ty.encs,Pl.sizes,Ty.sizes];rw[Ziw t x]
 |t::u::r,x=>by rw[Ty.encs,Pl.sizes,Ty.sizes,Ziw t x.1,encs_sizes (u::r) x.2]
end
mutual
theorem ZnS:∀(t:Ty)(x:t.den),(t.enc x).soft=t.enc x
 |.int _,_=>rfl
 |.u8,_=>rfl
 |.u32,_=>rfl
 |.u64,_=>rfl
 |.bool,_=>rfl
 |.str,_=>rfl
 |.sl _,_=>rfl
 |.arr n t,x=>by
  have key:∀l:yL t.den,Pl.soft (.arr n t.size (l.map t.enc))=.arr n t.size (l.map t.enc):=by
   intro l;rw[Pl.soft,Pl.softs_map,ybe];congr 1;exact ycs λy _=>ZnS t y
  exact key x
 |.st fs,x=>by rw[Ty.enc,Pl.soft,encs_softs fs x]
theorem encs_softs:∀(fs:yL Ty)(x:Ty.dens fs),Pl.softs (Ty.encs fs x)=Ty.encs fs x
 |[],_=>rfl
 |[t],x=>by simp only[Ty.encs,Pl.softs];rw[ZnS t x]
 |t::u::r,x=>by rw[Ty.encs,Pl.softs,ZnS t x.1,encs_softs (u::r) x.2]
end
theorem Zg{α β:Type}{f:α->β}{o:yO α}{y:β}(h:o.map f=some y):∃x,o=some x/\f x=y:=yu.1 h
def Ty.proj:(fs:yL Ty)->Ty.dens fs->Nat->yO (Σ t:Ty,t.den)
 |[],_,_=>none
 |[t],x,0=>some ⟨t,x⟩
 |[_],_,_+1=>none
 |t::_::_,x,0=>some ⟨t,x.1⟩
 |_::u::r,x,i+1=>Ty.proj (u::r) x.2 i
def Ty.upd:(fs:yL Ty)->Ty.dens fs->Nat->(t:Ty)->t.den->yO (Ty.dens fs)
 |[],_,_,_,_=>none
 |[t],_,0,u,y=>Ty.cast u t y
 |[_],_,_+1,_,_=>none
 |t::v::r,x,0,u,y=>(Ty.cast u t y).map λz=>(z,x.2)
 |_::v::r,x,i+1,u,y=>(Ty.upd (v::r) x.2 i u y).map λz=>(x.1,z)
theorem ZxS:∀(fs:yL Ty)(x:Ty.dens fs)(i:Nat)(q:Σ t:Ty,t.den),Ty.proj fs x i=some q->(Ty.encs fs x)[i]? =some (q.1.enc q.2)
 |[],_,_,_,h=>by cases h
 |[t],x,0,q,h=>by cases h;rfl
 |[_],_,_+1,_,h=>by cases h
 |t::_::_,x,0,q,h=>by cases h;rfl
 |t::u::r,x,i+1,q,h=>by
  rw[Ty.encs,ybb];exact ZxS (u::r) x.2 i q h
theorem ZBq:∀(fs:yL Ty)(x:Ty.dens fs)(i:Nat)(t:Ty)(y:t.den)(z:Ty.dens fs),Ty.upd fs x i t y=some z->Ty.encs fs z=(Ty.encs fs x).set i (t.enc y)
 |[],_,_,_,_,_,h=>by cases h
 |[t],x,0,u,y,z,h=>by
  obtain⟨e,rfl⟩:=QN h;subst e
  rfl
 |[_],_,_+1,_,_,_,h=>by cases h
 |t::v::r,x,0,u,y,z,h=>by
  obtain⟨w,h1,h2⟩:=Zg (α:=t.den) (β:=t.den×Ty.dens (v::r)) h;subst h2;obtain⟨e,rfl⟩:=QN h1;subst e
  rfl
 |t::v::r,x,i+1,u,y,z,h=>by
  obtain⟨w,h1,h2⟩:=Zg (α:=Ty.dens (v::r)) (β:=t.den×Ty.dens (v::r)) h;subst h2;show t.enc x.1::Ty.encs (v::r) w=(t.enc x.1::Ty.encs (v::r) x.2).set (i+1) (u.enc y);rw[List.set_cons_succ,ZBq (v::r) x.2 i u y w h1]
inductive TP where
 |v (t:Ty) (x:t.den)
 |sl (nn:Option Bool) (t:Ty) (xs:List t.den)
 |agg (xs:List TP)
 |arr (n s:Nat) (xs:List TP)
 |sll (nn:Option Bool) (s:Nat) (xs:List TP)
 |ptr0|fn0|if0|map0
 |fnv (f:yw)
 |iface (t:yb) (x:TP)
instance:Inhabited TP:=⟨.ptr0⟩
mutual
def TP.pe:TP->Pl
 |.v t x=>t.enc x
 |.sl nn t xs=>.sl nn t.size (xs.map t.enc)
 |.agg xs=>.agg (TP.pes xs)
 |.arr n s xs=>.arr n s (TP.pes xs)
 |.sll nn s xs=>.sl nn s (TP.pes xs)
 |.ptr0=>.ptr0
 |.fn0=>.fn0
 |.if0=>.if0
 |.map0=>.map0
 |.fnv f=>.fnv f
 |.iface t x=>.iface t (TP.pe x)
def TP.pes:yL TP->yL Pl
 |[]=>[]
 |x::r=>x.pe::TP.pes r
end
theorem ZaS:∀(xs:yL TP),TP.pes xs=xs.map TP.pe
 |[]=>rfl
 |x::r=>by rw[TP.pes,ZaS r];rfl
def Ty.flds:(fs:yL Ty)->Ty.dens fs->yL TP
 |[],_=>[]
 |[t],x=>[.v t x]
 |t::u::r,x=>.v t x.1::Ty.flds (u::r) x.2
theorem Zq2:∀(fs:yL Ty)(x:Ty.dens fs),TP.pes (Ty.flds fs x)=Ty.encs fs x
 |[],_=>rfl
 |[t],x=>rfl
 |t::u::r,x=>by
  show t.enc x.1::TP.pes (Ty.flds (u::r) x.2)=t.enc x.1::Ty.encs (u::r) x.2;rw[Zq2 (u::r) x.2]
def TP.parts:TP->yO (yL TP)
 |.v (.st fs) x=>some (Ty.flds fs x)
 |.agg l=>some l
 |_=>none
theorem ZrV{x:TP}{l:yL TP}(h:x.parts=some l):x.pe=.agg (TP.pes l):=by
 cases x with
 |v t a=>
  cases t with
  |st fs=>
   cases (show some (Ty.flds fs a)=some l from h)
   exact congrArg Pl.agg (Zq2 fs a).symm
  |_=>cases h
 |agg l'=>cases h;rfl
 |_=>cases h
def WE:yL Nat->TP->TP
 |[],x=>match x with
  |.v (.sl t) _=>.sl (some false) t []
  |x=>x
 |i::r,x=>match x.parts with
  |some l=>match l[i]? with
   |some z=>.agg (l.set i (WE r z))
   |none=>x
  |none=>x
inductive Stp where
 |fld (i o:Nat)
 |ix (i s:Nat)
def Stp.i:Stp->Nat
 |.fld i _=>i
 |.ix i _=>i
def Stp.o:Stp->Nat
 |.fld _ o=>o
 |.ix i s=>i*s
def Vu:yL Stp->Nat
 |l=>l.foldl (λn q=>n+q.o) 0
inductive TD where
 |p (x:TP)
 |elem (x:TP)
 |ref (id:Nat) (yM:List Stp)
 |own (id:Nat) (nn:Option Bool) (t:Ty) (c:Option (List t.den))
 |view (id:Nat) (yM:List Stp) (s lo n:Nat)
 |agg (xs:List TD)
 |arr (n s:Nat) (xs:List TD)
 |fn (f:yw) (cap:List TD)
 |iface (t:yb) (x:TD)
 |tup (xs:List TD)
 |mp (id:Nat)
 |rv (id v s lo n:Nat)
 |rref (id v:Nat) (yM:List Stp)
 |rw(id:Nat)
 |rp (id:Nat) (yM:List Stp)
 |junk
instance:Inhabited TD:=⟨.junk⟩
abbrev Lk:=Nat->yO (Σ t:Ty,yL t.den)
def Ym(L:Lk)(id:Nat)(t:Ty):yO (yL t.den)->yL t.den
 |some xs=>xs
 |none=>match L id with
  |some q=>(Ty.castL q.1 t q.2).getD []
  |none=>[]
def ZcX(L:Lk)(id k:Nat):Nat:=(((Ym L id (.sl (.st [])) none)[k]?).getD []).length
mutual
def TD.er(L:Lk):TD->Dv
 |.p x=>.p x.pe
 |.elem x=>.elem x.pe
 |.ref id yM=>.ref id (Vu yM) (yM.map Stp.i)
 |.own id nn t c=>.own id nn t.size ((Ym L id t c).map t.enc)
 |.view id yM s lo n=>.view id (Vu yM) (yM.map Stp.i) s lo n
 |.agg xs=>.agg (TD.ers L xs)
 |.arr n s xs=>.arr n s (TD.ers L xs)
 |.fn f cap=>.fn f (TD.ers L cap)
 |.iface t x=>.iface t (TD.er L x)
 |.tup xs=>.tup (TD.ers L xs)
 |.mp id=>.mp id
 |.rv id v s lo n=>.rv id v s lo n
 |.rref id v yM=>.rref id v (Vu yM) (yM.map Stp.i)
 |.rw id=>.rv id (ZcX L id 0) (ZcX L id 1) 0 (ZcX L id 2)
 |.rp id yM=>.rref id (ZcX L id 0) (Vu yM) (yM.map Stp.i)
 |.junk=>.junk
def TD.ers(L:Lk):yL TD->yL Dv
 |[]=>[]
 |x::r=>x.er L::TD.ers L r
end
theorem ZP{L:Lk}:∀(xs:yL TD),TD.ers L xs=xs.map (TD.er L)
 |[]=>rfl
 |x::r=>by rw[TD.ers,ZP r];rfl
inductive TEnt where
 |var (d:TD) (st:Bool)
 |log (t:Ty) (e:yb) (xs:List t.den)
 |map (tid:yb) (k v:Ty) (l:List (k.den×v.den))
 |row (v s:Nat) (st:Bool) (e:yb) (d:TD)
 |rowT (t:Ty) (v:List Unit) (st:Bool) (e:yb) (xs:List t.den)
 |rowN (t:Ty) (np:List Nat) (v:List Unit) (st:Bool) (e:yb) (pre post:List t.den)
 |rowM (t:Ty) (np:List Nat) (v:List Unit) (st:Bool) (e:yb) (pre:List t.den) (mid:TD) (post:List t.den)
 |gone
instance:Inhabited TEnt:=⟨.gone⟩
def TEnt.er(L:Lk):TEnt->Ent
 |.var d st=>.var (d.er L) st
 |.log t e xs=>.log t.size e (xs.map t.enc)
 |.map tid k v l=>.map tid (kvl k.enc v.enc l)
 |.row v s st e d=>.row v s st e (d.er L)
 |.rowT t v st e xs=>.row v.length t.size st e (.p (.arr xs.length t.size (xs.map t.enc)))
 |.rowN t np v st e pre post=>.row v.length t.size st e (.p (.arr (pre.length+post.length) t.size (pre.map t.enc++post.map λx=>(WE np (.v t x)).pe)))
 |.rowM t np v st e pre mid post=>.row v.length t.size st e (.arr (pre.length+(post.length+1)) t.size ((pre.map λx=>.p (t.enc x))++mid.er L::post.map λx=>.p (WE np (.v t x)).pe))
 |.gone=>.gone
def lkE:yO TEnt->yO (Σ t:Ty,yL t.den)
 |some (.log t _ xs)=>some ⟨t,xs⟩
 |some (.rowT t v _ _ xs)=>some ⟨.sl (.st []),([v,yac t.size (),yac xs.length ()]:yL (yL Unit))⟩
 |some (.rowN t _ v _ _ pre post)=>some ⟨.sl (.st []),([v,yac t.size (),yac (pre.length+post.length) ()]:yL (yL Unit))⟩
 |some (.rowM t _ v _ _ pre _ post)=>some ⟨.sl (.st []),([v,yac t.size (),yac (pre.length+(post.length+1)) ()]:yL (yL Unit))⟩
 |_=>none
def lk(H:yL TEnt):Lk:=λid=>lkE (H[id]?)
def erH(H:yL TEnt):yL Ent:=H.map (TEnt.er (lk H))
theorem Yf{H:yL TEnt}{i:Nat}{e:TEnt}(h:H[i]? =some e):(erH H)[i]? =some (e.er (lk H)):=by rw[erH,yal,h];rfl
theorem QW{L:Lk}{ts:yL TD}{i:Nat}{d:TD}(h:ts[i]? =some d):(TD.ers L ts)[i]? =some (d.er L):=by rw[ZP,yal,h];rfl
theorem Z1(H:yL TEnt):(erH H).length=H.length:=yaa ..
theorem Zce{L:Lk}(H:yL TD):(TD.ers L H).length=H.length:=by rw[ZP];exact yaa ..
def ZmD{α β:Type}:yO α->yO β->yO (α×β)
 |some a,some b=>some (a,b)
 |_,_=>none
theorem ZdF{α β:Type}{a:yO α}{b:yO β}{q:α×β}(h:ZmD a b=some q):a=some q.1/\b=some q.2:=by
 cases a with
 |none=>cases h
 |some x=>cases b with
  |none=>cases h
  |some y=>cases h;exact⟨rfl,rfl⟩
def ZEH(nn:Bool)(t:Ty)(xs:yL t.den):(u:Ty)->yO u.den
 |.sl u=>if nn then Ty.castL t u xs else none
 |_=>none
def ZEI(f:(fs:yL Ty)->yO (Ty.dens fs)):(u:Ty)->yO u.den
 |.st fs=>f fs
 |_=>none
def ZBr(n s:Nat)(f:(t:Ty)->yO (yL t.den)):(u:Ty)->yO u.den
 |.arr m t=>if n=m/\s=t.size then f t else none
 |_=>none
def ZBs:(fs:yL Ty)->yO (Ty.dens fs)
 |[]=>some ()
 |_=>none
def ZrW(f:(t:Ty)->yO t.den)(last:Bool)(g:(fs:yL Ty)->yO (Ty.dens fs)):(fs:yL Ty)->yO (Ty.dens fs)
 |[]=>none
 |[t]=>if last then f t else none
 |t::u::q=>ZmD (f t) (g (u::q))
mutual
def TP.to(ok:yO Bool->Bool):TP->(t:Ty)->yO t.den
 |.v t x=>λu=>Ty.cast t u x
 |.sl nn t xs=>ZEH (ok nn) t xs
 |.agg xs=>ZEI (TP.tos ok xs)
 |.arr n s xs=>ZBr n s (TP.toL ok xs)
 |.sll _ _ _=>λ_=>none
 |.ptr0=>λ_=>none
 |.fn0=>λ_=>none
 |.if0=>λ_=>none
 |.map0=>λ_=>none
 |.fnv _=>λ_=>none
 |.iface _ _=>λ_=>none
def TP.tos(ok:yO Bool->Bool):yL TP->(fs:yL Ty)->yO (Ty.dens fs)
 |[]=>ZBs
 |x::r=>ZrW (TP.to ok x) r.isEmpty (TP.tos ok r)
def TP.toL(ok:yO Bool->Bool):yL TP->(t:Ty)->yO (yL t.den)
 |[]=>λ_=>some []
 |x::r=>λt=>(ZmD (TP.to ok x t) (TP.toL ok r t)).map λq=>q.1::q.2
end
def ZnT:yO Bool->Bool:=λ_=>true
def Zjr:yO Bool->Bool:=Option.isNone
theorem ZvU(n:Nat)(t:Ty)(l:yL t.den):(Ty.arr n t).enc l=.arr n t.size (l.map t.enc):=rfl
theorem ZuG{b:Bool}{nn:yO Bool}{t u:Ty}{xs:yL t.den}{y:u.den}(h:ZEH b t xs u=some y):∃l:yL t.den,b=true/\u.enc y=.sl none t.size (l.map t.enc)/\l=xs:=by
 cases u with
 |sl u=>
  have h':(if b then Ty.castL t u xs else none)=some y:=h
  split at h'
  ·rename_i hb;obtain⟨e,h2⟩:=ZR h';subst e;subst h2;exact⟨y,hb,rfl,rfl⟩
  ·cases h'
 |_=>cases h
theorem ZuH{f:(fs:yL Ty)->yO (Ty.dens fs)}{u:Ty}{y:u.den}(h:ZEI f u=some y):∃(fs:yL Ty)(z:Ty.dens fs),f fs=some z/\u.enc y=.agg (Ty.encs fs z):=by
 cases u with
 |st fs=>exact⟨fs,y,h,rfl⟩
 |_=>cases h
theorem ZrX{n s:Nat}{f:(t:Ty)->yO (yL t.den)}{u:Ty}{y:u.den}(h:ZBr n s f u=some y):∃(t:Ty)(l:yL t.den),f t=some l/\u.enc y=.arr n s (l.map t.enc):=by
 cases u with
 |arr m t=>
  have h':(if n=m/\s=t.size then f t else none)=some y:=h
  split at h'
  ·rename_i e;obtain⟨rfl,rfl⟩:=e;exact⟨t,y,h',rfl⟩
  ·cases h'
 |_=>cases h
theorem ZrY{fs:yL Ty}{y:Ty.dens fs}(h:ZBs fs=some y):Ty.encs fs y=[]:=by
 cases fs with
 |nil=>rfl
 |cons _ _=>cases h
theorem Zp0{f:(t:Ty)->yO t.den}{b:Bool}{g:(fs:yL Ty)->yO (Ty.dens fs)}{fs:yL Ty}{y:Ty.dens fs}(h:ZrW f b g fs=some y):
 ∃(t:Ty)(x:t.den)(l:yL Pl),f t=some x/\Ty.encs fs y=t.enc x::l/\((b=true/\l=[])\/∃(gs:yL Ty)(z:Ty.dens gs),g gs=some z/\l=Ty.encs gs z):=by
 match fs,y,h with
 |[],_,h=>cases h
 |[t],y,h=>
  have h':(if b then f t else none)=some y:=h
  split at h'
  ·rename_i hb;exact⟨t,y,[],h',rfl,.inl ⟨hb,rfl⟩⟩
  ·cases h'
 |t::u::q,y,h=>
  obtain⟨h1,h2⟩:=ZdF (α:=t.den) (β:=Ty.dens (u::q)) h;exact⟨t,y.1,_,h1,rfl,.inr ⟨u::q,y.2,h2,rfl⟩⟩
mutual
theorem Zjs{ok:yO Bool->Bool}:∀(x:TP)(t:Ty)(y:t.den),TP.to ok x t=some y->x.pe.soft=t.enc y
 |.v t x,u,y,h=>by
  obtain⟨e,rfl⟩:=QN (show Ty.cast t u x=some y from h)
  subst e
  exact ZnS t x
 |.sl nn t xs,u,y,h=>by
  obtain⟨l,_,h2,h3⟩:=ZuG (nn:=nn) (show ZEH (ok nn) t xs u=some y from h)
  rw[h2,h3]
  rfl
 |.agg xs,u,y,h=>by
  obtain⟨fs,z,h1,h2⟩:=ZuH (show ZEI (TP.tos ok xs) u=some y from h)
  rw[h2];show Pl.agg (Pl.softs (TP.pes xs))=_
  rw[tos_soft xs fs z h1]
 |.arr n s xs,u,y,h=>by
  obtain⟨t,l,h1,h2⟩:=ZrX (show ZBr n s (TP.toL ok xs) u=some y from h)
  rw[h2];show Pl.arr n s (Pl.softs (TP.pes xs))=_
  rw[toL_soft xs t l h1]
 |.sll _ _ _,_,_,h=>nomatch (show none=some _ from h)
 |.ptr0,_,_,h=>nomatch (show none=some _ from h)
 |.fn0,_,_,h=>nomatch (show none=some _ from h)
 |.if0,_,_,h=>nomatch (show none=some _ from h)
 |.map0,_,_,h=>nomatch (show none=some _ from h)
 |.fnv _,_,_,h=>nomatch (show none=some _ from h)
 |.iface _ _,_,_,h=>nomatch (show none=some _ from h)
theorem tos_soft{ok:yO Bool->Bool}:∀(xs:yL TP)(fs:yL Ty)(y:Ty.dens fs),TP.tos ok xs fs=some y->Pl.softs (TP.pes xs)=Ty.encs fs y
 |[],fs,y,h=>(ZrY (show ZBs fs=some y from h)).symm
 |x::r,fs,y,h=>by
  obtain⟨t,a,l,h1,h2,h3⟩:=Zp0 (show ZrW (TP.to ok x) r.isEmpty (TP.tos ok r) fs=some y from h)
  rw[h2];show x.pe.soft::Pl.softs (TP.pes r)=_;rw[Zjs x t a h1];rcases h3 with⟨h4,rfl⟩|⟨gs,z,h4,rfl⟩
  ·cases r with
   |nil=>rfl
   |cons _ _=>cases h4
  ·rw[tos_soft r gs z h4]
theorem toL_soft{ok:yO Bool->Bool}:∀(xs:yL TP)(t:Ty)(y:yL t.den),TP.toL ok xs t=some y->Pl.softs (TP.pes xs)=y.map t.enc
 |[],_,y,h=>by
  cases (show some []=some y from h)
  rfl
 |x::r,t,y,h=>by
  obtain⟨q,h1,rfl⟩:=Zg (show(ZmD (TP.to ok x t) (TP.toL ok r t)).map (λq=>q.1::q.2)=some y from h)
  obtain⟨h2,h3⟩:=ZdF h1;show x.pe.soft::Pl.softs (TP.pes r)=_;rw[Zjs x t q.1 h2,toL_soft r t q.2 h3,yah]
end
theorem ZEJ{ok:yO Bool->Bool}{x:TP}{t:Ty}{y:t.den}(h:TP.to ok x t=some y):PlWk x.pe (t.enc y):=Zjs x t y h ▸ Zjj x.pe
mutual
theorem ZnU:∀(x:TP)(t:Ty)(y:t.den),TP.to Zjr x t=some y->x.pe=t.enc y
 |.v t x,u,y,h=>by
  obtain⟨e,rfl⟩:=QN (show Ty.cast t u x=some y from h)
  subst e
  rfl
 |.sl nn t xs,u,y,h=>by
  obtain⟨l,h1,h2,h3⟩:=ZuG (nn:=nn) (show ZEH (Zjr nn) t xs u=some y from h)
  rw[h2,h3]
  cases nn with
  |none=>rfl
  |some _=>cases h1
 |.agg xs,u,y,h=>by
  obtain⟨fs,z,h1,h2⟩:=ZuH (show ZEI (TP.tos Zjr xs) u=some y from h)
  rw[h2];show Pl.agg (TP.pes xs)=_
  rw[tos_exact xs fs z h1]
 |.arr n s xs,u,y,h=>by
  obtain⟨t,l,h1,h2⟩:=ZrX (show ZBr n s (TP.toL Zjr xs) u=some y from h)
  rw[h2];show Pl.arr n s (TP.pes xs)=_
  rw[toL_exact xs t l h1]
 |.sll _ _ _,_,_,h=>nomatch (show none=some _ from h)
 |.ptr0,_,_,h=>nomatch (show none=some _ from h)
 |.fn0,_,_,h=>nomatch (show none=some _ from h)
 |.if0,_,_,h=>nomatch (show none=some _ from h)
 |.map0,_,_,h=>nomatch (show none=some _ from h)
 |.fnv _,_,_,h=>nomatch (show none=some _ from h)
 |.iface _ _,_,_,h=>nomatch (show none=some _ from h)
theorem tos_exact:∀(xs:yL TP)(fs:yL Ty)(y:Ty.dens fs),TP.tos Zjr xs fs=some y->TP.pes xs=Ty.encs fs y
 |[],fs,y,h=>(ZrY (show ZBs fs=some y from h)).symm
 |x::r,fs,y,h=>by
  obtain⟨t,a,l,h1,h2,h3⟩:=Zp0 (show ZrW (TP.to Zjr x) r.isEmpty (TP.tos Zjr r) fs=some y from h)
  rw[h2];show x.pe::TP.pes r=_;rw[ZnU x t a h1];rcases h3 with⟨h4,rfl⟩|⟨gs,z,h4,rfl⟩
  ·cases r with
   |nil=>rfl
   |cons _ _=>cases h4
  ·rw[tos_exact r gs z h4]
theorem toL_exact:∀(xs:yL TP)(t:Ty)(y:yL t.den),TP.toL Zjr xs t=some y->TP.pes xs=y.map t.enc
 |[],_,y,h=>by
  cases (show some []=some y from h)
  rfl
 |x::r,t,y,h=>by
  obtain⟨q,h1,rfl⟩:=Zg (show(ZmD (TP.to Zjr x t) (TP.toL Zjr r t)).map (λq=>q.1::q.2)=some y from h)
  obtain⟨h2,h3⟩:=ZdF h1;show x.pe::TP.pes r=_;rw[ZnU x t q.1 h2,toL_exact r t q.2 h3,yah]
end
mutual
def Zkr(P:yg):Nat->yb->yO Ty
 |0,_=>none
 |n+1,t=>match P.underlying t with
  |some (.int .u8)=>some .u8
  |some (.int .u32)=>some .u32
  |some (.int .u64)=>some .u64
  |some (.int k)=>some (.int k)
  |some .bool=>some .bool
  |some .string=>some .str
  |some (.slice e)=>(Zkr P n e).map .sl
  |some (.array m e)=>(Zkr P n e).map (.arr m)
  |some (.struct fs)=>(tysOf P n (fs.toList.map (·.type))).map .st
  |_=>none
def tysOf(P:yg):Nat->yL yb->yO (yL Ty)
 |0,_=>none
 |_+1,[]=>some []
 |n+1,t::r=>match Zkr P n t,tysOf P n r with
  |some a,some b=>some (a::b)
  |_,_=>none
end
def ZIY(k:IntKind)(z:Int):TP:=
 match k with
 |.u8=>.v .u8 (yav z.toNat)
 |.u32=>.v .u32 (ybv z.toNat)
 |.u64=>.v .u64 (yai z.toNat)
 |k=>.v (.int k) z
def inU(k:IntKind)(z:Int):Bool:=
 match k with
 |.u8=>decide (0<=z)&&decide (z < 256)
 |.u32=>decide (0<=z)&&decide (z < 4294967296)
 |.u64=>decide (0<=z)&&decide (z < 18446744073709551616)
 |_=>true
theorem ZHk{k:IntKind}{z:Int}(h:inU k z=true):(ZIY k z).pe=.int k z:=by
 cases k <;> simp only[inU,yi,yP] at h <;> simp only[ZIY,TP.pe,Ty.enc]
 ·simp only[Pl.int.injEq,true_and,UInt8.toNat_ofNat'];omega
 ·simp only[Pl.int.injEq,true_and,ycr];omega
 ·simp only[Pl.int.injEq,true_and,yax];omega
abbrev wi(z:Int):Int:=IntKind.i64.wrap z
def w8(z:Int):yB:=yav (z % 256).toNat
def w32(z:Int):yV:=ybv (z % 4294967296).toNat
def w64(z:Int):yU:=yai (z % 18446744073709551616).toNat
def ZHl(k:IntKind)(z:Int):TP:=
 match k with
 |.u8=>.v .u8 (w8 z)
 |.u32=>.v .u32 (w32 z)
 |.u64=>.v .u64 (w64 z)
 |k=>.v (.int k) (k.wrap z)
theorem ZIZ(z:Int):((w8 z).toNat:Int)=IntKind.u8.wrap z:=by
 simp only[w8,IntKind.wrap,IntKind.signed,IntKind.bits,UInt8.toNat_ofNat'];simp;omega
theorem ZHm(z:Int):((w32 z).toNat:Int)=IntKind.u32.wrap z:=by
 simp only[w32,IntKind.wrap,IntKind.signed,IntKind.bits,ycr];simp;omega
theorem ZHn(z:Int):((w64 z).toNat:Int)=IntKind.u64.wrap z:=by
 simp only[w64,IntKind.wrap,IntKind.signed,IntKind.bits,yax];simp;omega
theorem ZBt(k:IntKind)(z:Int):(ZHl k z).pe=.int k (k.wrap z):=by
 cases k <;> simp only[ZHl,TP.pe,Ty.enc,ZIZ,ZHm,ZHn]
def ZI0:IntKind->Bool
 |.u8=>false
 |.u32=>false
 |.u64=>false
 |_=>true
def ZrZ:TP->yO (IntKind×Int)
 |.v (.int k) n=>if ZI0 k then some (k,n) else none
 |.v .u8 b=>some (.u8,(b.toNat:Int))
 |.v .u32 b=>some (.u32,(b.toNat:Int))
 |.v .u64 b=>some (.u64,(b.toNat:Int))
 |_=>none
theorem ZnV{x:TP}{q:IntKind×Int}(h:ZrZ x=some q):x.pe=.int q.1 q.2/\inU q.1 q.2=true:=by
 unfold ZrZ at h;split at h
 ·rename_i k n;split at h
  ·rename_i hk;cases h;refine⟨rfl, ?_⟩;cases k <;> first|rfl|cases hk
  ·cases h
 ·rename_i b;cases h;exact⟨rfl,by simp only[inU,yi,yP];have:=b.toNat_lt;omega⟩
 ·rename_i b;cases h;exact⟨rfl,by simp only[inU,yi,yP];have:=b.toNat_lt;omega⟩
 ·rename_i b;cases h;exact⟨rfl,by simp only[inU,yi,yP];have:=b.toNat_lt;omega⟩
 ·cases h
def tyD:Nat:=40
def ZHo(P:yg)(t:yb)(l:yL TP):TP:=
 match Zkr P tyD t with
 |some (.st fs)=>match TP.tos Zjr l fs with
  |some x=>.v (.st fs) x
  |none=>.agg l
 |_=>.agg l
theorem ZBu{P:yg}(t:yb)(l:yL TP):(ZHo P t l).pe=.agg (TP.pes l):=by
 unfold ZHo;split
 ·rename_i fs _;split
  ·rename_i x h;show Pl.agg (Ty.encs fs x)=_;rw[tos_exact l fs x h]
  ·rfl
 ·rfl
def ZHp(P:yg)(t:yb)(n s:Nat)(l:yL TP):TP:=
 match Zkr P tyD t with
 |some (.arr _ u)=>if s=u.size then match TP.toL Zjr l u with
  |some x=>.v (.arr n u) x
  |none=>.arr n s l else .arr n s l
 |_=>.arr n s l
theorem ZBv{P:yg}(t:yb)(n s:Nat)(l:yL TP):(ZHp P t n s l).pe=.arr n s (TP.pes l):=by
 unfold ZHp;split
 ·rename_i u _;split
  ·rename_i e;split
   ·rename_i x h;show Pl.arr n u.size (List.map u.enc x)=_;rw[toL_exact l u x h,e]
   ·rfl
  ·rfl
 ·rfl
def ZEK(f:yb->Pl->yO TP):yL yb->yL Pl->yO (yL TP)
 |[],[]=>some []
 |t::r,x::q=>match f t x,ZEK f r q with
  |some a,some b=>some (a::b)
  |_,_=>none
 |_,_=>none
def ZxT(P:yg):Nat->yb->Pl->yO TP
 |0,_,_=>none
 |n+1,t,x=>match x with
  |.int k z=>if inU k z then some (ZIY k z) else none
  |.bool b=>some (.v .bool b)
  |.str b=>some (.v .str b)
  |.ptr0=>some .ptr0
  |.fn0=>some .fn0
  |.if0=>some .if0
  |.map0=>some .map0
  |.sl nn s []=>match P.underlying t with
   |some (.slice e)=>(Zkr P tyD e).bind λT=>if s=T.size then some (.sl nn T []) else none
   |_=>none
  |.agg xs=>match P.underlying t with
   |some (.struct fs)=>(ZEK (ZxT P n) (fs.toList.map (·.type)) xs).map (ZHo P t)
   |_=>none
  |.arr m s xs=>match P.underlying t with
   |some (.array _ e)=>(ZEK (ZxT P n) (yac xs.length e) xs).map (ZHp P t m s)
   |_=>none
  |_=>none
theorem ZvV{f:yb->Pl->yO TP}(h:∀t x y,f t x=some y->y.pe=x):∀(l:yL yb)(xs:yL Pl)(r:yL TP),ZEK f l xs=some r->TP.pes r=xs
 |[],[],r,k=>by cases k;rfl
 |[],_::_,r,k=>by cases k
 |_::_,[],r,k=>by cases k
 |t::l,x::xs,r,k=>by
  simp only[ZEK] at k;split at k
  ·rename_i a b h1 h2;cases k;rw[TP.pes,h t x a h1,ZvV h l xs b h2]
  ·cases k
theorem Zr0{P:yg}:∀(n:Nat)(t:yb)(x:Pl)(y:TP),ZxT P n t x=some y->y.pe=x
 |0,_,_,_,h=>by cases h
 |n+1,t,x,y,h=>by
  unfold ZxT at h;split at h
  ·split at h
   ·rename_i hk;cases h;exact ZHk hk
   ·cases h
  ·cases h;rfl
  ·cases h;rfl
  ·cases h;rfl
  ·cases h;rfl
  ·cases h;rfl
  ·cases h;rfl
  ·split at h
   ·obtain⟨T,h1,h2⟩:=yf.1 h;split at h2
    ·rename_i e;cases h2;rw[TP.pe,e];rfl
    ·cases h2
   ·cases h
  ·split at h
   ·obtain⟨l,h1,rfl⟩:=Zg h;rw[ZBu,ZvV (Zr0 n) _ _ _ h1]
   ·cases h
  ·split at h
   ·obtain⟨l,h1,rfl⟩:=Zg h;rw[ZBv,ZvV (Zr0 n) _ _ _ h1]
   ·cases h
  ·cases h
def ZvW(P:yg)(t:yb)(x:Pl):yO TP:=ZxT P 30 t x
def ZzU(P:yg)(t:yb)(v:yh):yO TD:=
 match ZoV P t v with
 |.p x=>(ZvW P t x).map .p
 |.fn f []=>some (.fn f [])
 |_=>none
def arT(P:yg)(ts:yL TD)(t:yb):yn->yO TD
 |.tmp i=>some (ts.getD i .junk)
 |.const v=>ZzU P t v
 |.global _=>none
 |.func f=>if f < big then some (.fn f []) else none
theorem Zpd{P:yg}{t:yb}{x:Pl}{y:TP}(h:ZvW P t x=some y):y.pe=x:=Zr0 _ _ _ _ h
theorem ZnW{L:Lk}(ts:yL TD)(i:Nat):(TD.ers L ts).getD i .junk=(ts.getD i .junk).er L:=by
 rw[ZP];simp only[List.getD_eq_getElem?_getD,yal];cases ts[i]? <;> rfl
theorem Zv{L:Lk}{P:yg}{ts:yL TD}{t:yb}{x:yn}{d:TD}(h:arT P ts t x=some d):argD P (TD.ers L ts) t x=d.er L:=by
 cases x with
 |tmp i=>cases h;exact ZnW ts i
 |const v=>
  have h':ZzU P t v=some d:=h;show ZoV P t v=d.er L;unfold ZzU at h';split at h'
  ·rename_i x hx;obtain⟨y,h1,rfl⟩:=Zg h';rw[hx,TD.er,Zpd h1]
  ·rename_i f hf;cases h';rw[hf];rfl
  ·cases h'
 |global _=>cases h
 |func f=>
  have h':(if f < big then some (TD.fn f []) else none)=some d:=h
  by_cases hf:f < big
  ·rw[yW hf] at h';cases h';show(if f < big then Dv.fn f [] else .junk)=_
   rw[yW hf];rfl
  ·rw[yX hf] at h';cases h'
structure HI where
 own:List Tmp:=[]
 still:List Tmp:=[]
 row:List Tmp:=[]
 rowt:List Tmp:=[]
 deep:List yb:=[]
 eqs:Bool:=false
 frz:List Tmp:=[]
 ghost:List (Tmp×List (List Nat×Ty×yb)):=[]
 gst:List (Tmp×List (List Nat×Ty×yb)):=[]
 lits:List Tmp:=[]
 rew:List (Tmp×Tmp):=[]
 mkn:List Tmp:=[]
 deriving Inhabited
def GoodN(L:Lk)(P:yg)(o:ym)(ts:yL TD)(d:TD)(hs:yL Hint):Prop:=
 ∃C,AllP C/\∀yJ,evN P o (TD.ers L ts) (hs++yJ)=some (C,d.er L,yJ)
def idx{α:Type}(l:yL α)(i:Int):yO α:=if 0<=i then l[i.toNat]? else none
def inB(i:Int)(n:Nat):Bool:=decide (0<=i)&&decide (i < (n:Int))
def VZ(len:Nat):yO Int->yO Int->Bool
 |none,none=>true
 |none,some h=>decide (0<=h)&&decide (h<=(len:Int))
 |some l,none=>decide (0<=l)&&decide (l<=(len:Int))
 |some l,some h=>decide (0<=l)&&(decide (l<=h)&&decide (h<=(len:Int)))
def lenB(n b:Nat):Bool:=decide (n*b<=bytesBound)&&decide (n<=maxLen)
theorem ZnX{α:Type}{l:yL α}{i:Int}{y:α}(h:idx l i=some y):0<=i/\l[i.toNat]? =some y:=by
 unfold idx at h;split at h
 ·exact⟨by assumption,h⟩
 ·cases h
theorem QX{i:Int}{n:Nat}(h:inB i n=true):0<=i/\i < (n:Int):=by simpa[inB] using h
theorem Zgp{len:Nat}{l h:yO Int}(k:VZ len l h=true):AllP (XF len l h):=by
 cases l <;> cases h <;> simp only[VZ,yi,yP] at k <;> simp only[XF,AllP,and_true]
 ·exact k
 ·exact k
 ·exact k
theorem Zbc{n b:Nat}(h:lenB n b=true):n*b<=bytesBound/\n<=maxLen:=by simpa[lenB] using h
theorem Zc{α:Type}{b:Bool}{k:yO α}{r:α}(h:(if b=true then k else none)=some r):b=true/\k=some r:=by
 cases b
 ·cases h
 ·exact⟨rfl,h⟩
theorem Zhx{α β:Type}(f:α->β)(l:yL α)(a b:yO Int):(Ql l a b).map f=Ql (l.map f) a b:=by
 cases a <;> cases b <;> simp[Ql]
def TP.fld:TP->Nat->yO TP
 |.v (.st fs) x,i=>(Ty.proj fs x i).map λq=>.v q.1 q.2
 |.agg l,i=>l[i]?
 |_,_=>none
theorem ZEL{x y:TP}{i:Nat}(h:x.fld i=some y):∃xs,x.pe=.agg xs/\xs[i]? =some y.pe:=by
 unfold TP.fld at h;split at h
 ·obtain⟨q,h1,rfl⟩:=Zg h;exact⟨_,rfl,ZxS _ _ _ q h1⟩
 ·exact⟨_,rfl,by rw[ZaS,yal,h];rfl⟩
 ·cases h
structure Row where
 nn:Option Bool
 t:Ty
 l:List t.den
def TP.row:TP->yO Row
 |.v (.sl t) l=>some ⟨none,t,l⟩
 |.sl nn t l=>some ⟨nn,t,l⟩
 |_=>none
theorem ZI1{x:TP}{r:Row}(h:x.row=some r):x.pe=.sl r.nn r.t.size (r.l.map r.t.enc):=by
 unfold TP.row at h;split at h
 ·cases h;rfl
 ·cases h;rfl
 ·cases h
structure ARow where
 n:Nat
 t:Ty
 l:List t.den
def TP.arow:TP->yO ARow
 |.v (.arr n t) l=>some ⟨n,t,l⟩
 |_=>none
theorem Zbj{x:TP}{r:ARow}(h:x.arow=some r):x.pe=.arr r.n r.t.size (r.l.map r.t.enc):=by
 unfold TP.arow at h;split at h
 ·cases h;rfl
 ·cases h
def Ty.isAgg:Ty->Bool
 |.arr _ _=>true
 |.st _=>true
 |_=>false
theorem Zl2(t:Ty)(x:t.den):(t.enc x).isAgg=t.isAgg:=by cases t <;> rfl
def TD.row(L:Lk):TD->yO Row
 |.p x=>x.row
 |.own id nn t c=>some ⟨nn,t,Ym L id t c⟩
 |_=>none
theorem Zjt{L:Lk}{x:TD}{r:Row}(h:x.row L=some r):x.er L=.p (.sl r.nn r.t.size (r.l.map r.t.enc))\/∃id,x.er L=.own id r.nn r.t.size (r.l.map r.t.enc):=by
 unfold TD.row at h;split at h
 ·exact .inl (by rw[TD.er,ZI1 h])
 ·cases h;exact .inr ⟨_,rfl⟩
 ·cases h
def TD.plain(L:Lk):TD->yO TP
 |.p x=>some x
 |.own id nn t c=>some (.sl nn t (Ym L id t c))
 |_=>none
theorem ZuI{L:Lk}{x:TD}{y:TP}(h:x.plain L=some y):(x.er L).plain=some y.pe:=by
 unfold TD.plain at h;split at h
 ·cases h;rfl
 ·cases h;rfl
 ·cases h
mutual
def TD.flat(L:Lk):TD->yO TP
 |.p x=>some x
 |.own id nn t c=>some (.sl nn t (Ym L id t c))
 |.agg ds=>(TD.flats L ds).map .agg
 |_=>none
def TD.flats(L:Lk):yL TD->yO (yL TP)
 |[]=>some []
 |d::r=>match d.flat L,TD.flats L r with
  |some x,some xs=>some (x::xs)
  |_,_=>none
end
mutual
theorem Zq3{L:Lk}:∀(d:TD),(d.er L).flat=(d.flat L).map TP.pe
 |.p x=>by rw[TD.er,Dv.flat,TD.flat];rfl
 |.own id nn t c=>by rw[TD.er,Dv.flat,TD.flat];rfl
 |.agg ds=>by
  rw[TD.er,Dv.flat,TD.flat,flats_er ds]
  cases TD.flats L ds <;> rfl
 |.elem _=>rfl
 |.ref _ _=>rfl
 |.view _ _ _ _ _=>rfl
 |.arr _ _ _=>rfl
 |.fn _ _=>rfl
 |.iface _ _=>rfl
 |.tup _=>rfl
 |.mp _=>rfl
 |.rv _ _ _ _ _=>rfl
 |.rref _ _ _=>rfl
 |.rw _=>rfl
 |.rp _ _=>rfl
 |.junk=>rfl
theorem flats_er{L:Lk}:∀(ds:yL TD),Dv.flats (TD.ers L ds)=(TD.flats L ds).map TP.pes
 |[]=>rfl
 |d::r=>by
  rw[TD.ers,Dv.flats,TD.flats,Zq3 d,flats_er r];cases d.flat L <;> cases TD.flats L r <;> rfl
end
theorem Zr1{L:Lk}{x:TD}{y:TP}(h:x.flat L=some y):(x.er L).flat=some y.pe:=by rw[Zq3,h];rfl
mutual
def TD.owns(ids:yL Nat):TD->Bool
 |.own id _ _ _=>ids.contains id
 |.agg ds=>TD.ownss ids ds
 |_=>false
def TD.ownss(ids:yL Nat):yL TD->Bool
 |[]=>false
 |d::r=>d.owns ids || TD.ownss ids r
end
mutual
theorem ZHq{L:Lk}{ids:yL Nat}:∀(d:TD),(d.er L).owns ids=d.owns ids
 |.p x=>rfl
 |.own id nn t c=>rfl
 |.agg ds=>by rw[TD.er,Dv.owns,TD.owns,ownss_er ds]
 |.elem _=>rfl
 |.ref _ _=>rfl
 |.view _ _ _ _ _=>rfl
 |.arr _ _ _=>rfl
 |.fn _ _=>rfl
 |.iface _ _=>rfl
 |.tup _=>rfl
 |.mp _=>rfl
 |.rv _ _ _ _ _=>rfl
 |.rref _ _ _=>rfl
 |.rw _=>rfl
 |.rp _ _=>rfl
 |.junk=>rfl
theorem ownss_er{L:Lk}{ids:yL Nat}:∀(ds:yL TD),Dv.ownss ids (TD.ers L ds)=TD.ownss ids ds
 |[]=>rfl
 |d::r=>by rw[TD.ers,Dv.ownss,TD.ownss,ZHq d,ownss_er r]
end
def TD.melt(L:Lk)(ds:yL TD):TD:=
 match TD.flats L ds with
 |some xs=>.p (.agg xs)
 |none=>.agg ds
theorem ZBw{L:Lk}(ds:yL TD):(TD.melt L ds).er L=Dv.melt (TD.ers L ds):=by
 unfold TD.melt Dv.melt;rw[flats_er];cases TD.flats L ds <;> rfl
section
variable{L:Lk}{P:yg}{o:ym}{ts:yL TD}{O:Type}
def okB(P:yg)(e:yb)(s:Nat):Bool:=decide (P.cellsOf e=s)&&(P.info? e).isSome
def ZzV(L:Lk)(P:yg)(t:yb)(i:Nat)(K:TD->yL Hint->yO O):TD->yO O
 |.p x=>(x.fld i).bind λz=>if(Zbi P t (.p x.pe) i).isSome then K (.p z) [] else none
 |.agg ds=>(ds[i]?).bind λz=>if(Zbi P t (.agg (TD.ers L ds)) i).isSome then K z [] else none
 |_=>none
theorem Zp1{t:yb}{i:Nat}{K:TD->yL Hint->yO O}{x:TD}{out:O}(h:ZzV L P t i K x=some out):∃d,K d []=some out/\Zbi P t (x.er L) i=some (d.er L):=by
 unfold ZzV at h;split at h
 ·rename_i x;obtain⟨z,h1,h2⟩:=yf.1 h;obtain⟨h3,h4⟩:=Zc h2;refine⟨_,h4, ?_⟩;obtain⟨xs,e1,e2⟩:=ZEL h1;rw[TD.er];obtain⟨d,hd⟩:=Option.isSome_iff_exists.1 h3;rw[hd];unfold Zbi at hd;rw[e1] at hd;split at hd
  ·rename_i hx;cases hx;rw[e2] at hd;dsimp only at hd;split at hd
   ·cases hd;rfl
   ·cases hd
  ·rename_i hx;cases hx
  ·cases hd
 ·rename_i ds;obtain⟨z,h1,h2⟩:=yf.1 h;obtain⟨h3,h4⟩:=Zc h2;refine⟨_,h4, ?_⟩;have e2:=QW (L:=L) h1;rw[TD.er];obtain⟨d,hd⟩:=Option.isSome_iff_exists.1 h3;rw[hd];unfold Zbi at hd;split at hd
  ·rename_i hx;cases hx
  ·rename_i hx;cases hx;rw[e2] at hd;dsimp only at hd;split at hd
   ·cases hd;rfl
   ·cases hd
  ·cases hd
 ·cases h
theorem Zbr(l:yL Stp)(q:Stp):Vu (l++[q])=Vu l+q.o:=by simp[Vu]
def Zm8(P:yg)(t:yb)(i:Nat)(K:TD->yL Hint->yO O):TD->yO O
 |.ref id yM=>match P.underlying t with
  |some (.struct fs)=>match fs[i]? with
   |some f=>if P.cellsOf f.type !=0&&(P.info? f.type).isSome then K (.ref id (yM++[.fld i f.offset])) [] else none
   |none=>none
  |_=>none
 |.rref id v yM=>match P.underlying t with
  |some (.struct fs)=>match fs[i]? with
   |some f=>if P.cellsOf f.type !=0&&(P.info? f.type).isSome then K (.rref id v (yM++[.fld i f.offset])) [] else none
   |none=>none
  |_=>none
 |.rp id yM=>match P.underlying t with
  |some (.struct fs)=>match fs[i]? with
   |some f=>if P.cellsOf f.type !=0&&(P.info? f.type).isSome then K (.rp id (yM++[.fld i f.offset])) [] else none
   |none=>none
  |_=>none
 |.elem x=>(x.fld i).bind λz=>if(Zbi P t (.p x.pe) i).isSome then K (.elem z) [] else none
 |_=>none
theorem ZqH{t:yb}{i:Nat}{x:yn}{K:TD->yL Hint->yO O}{xd:TD}{out:O}(ho:o.op=.fieldAddr t x i)(hx:arT P ts 0 x=some xd)(h:Zm8 P t i K xd=some out):∃d hs,K d hs=some out/\GoodN L P o ts d hs:=by
 have hv:=Zv (L:=L) hx;unfold Zm8 at h;split at h
 ·rename_i id yM;split at h
  ·rename_i fs hu;split at h
   ·rename_i f hf;obtain⟨h3,h4⟩:=Zc h;refine⟨_,_,h4,[],zY,λyJ=> ?_⟩;simp only[yy];unfold evN;rw[ho];dsimp only;rw[hu,hv];dsimp only[TD.er];rw[hf];dsimp only;rw[yW h3,yau,Zbr];rfl
   ·cases h
  ·cases h
 ·rename_i id v yM;split at h
  ·rename_i fs hu;split at h
   ·rename_i f hf;obtain⟨h3,h4⟩:=Zc h;refine⟨_,_,h4,[],zY,λyJ=> ?_⟩;simp only[yy];unfold evN;rw[ho];dsimp only;rw[hu,hv];dsimp only[TD.er];rw[hf];dsimp only;rw[yW h3,yau,Zbr];rfl
   ·cases h
  ·cases h
 ·rename_i id yM;split at h
  ·rename_i fs hu;split at h
   ·rename_i f hf;obtain⟨h3,h4⟩:=Zc h;refine⟨_,_,h4,[],zY,λyJ=> ?_⟩;simp only[yy];unfold evN;rw[ho];dsimp only;rw[hu,hv];dsimp only[TD.er];rw[hf];dsimp only;rw[yW h3,yau,Zbr];rfl
   ·cases h
  ·cases h
 ·rename_i x;obtain⟨z,h1,h2⟩:=yf.1 h;obtain⟨h3,h4⟩:=Zc h2;refine⟨_,_,h4,[],zY,λyJ=> ?_⟩;obtain⟨d,hd,he⟩:=Zp1 (L:=L) (P:=P) (t:=t) (i:=i) (K:=λd _=>some d) (x:=.p x) (out:=.p z) (by show(x.fld i).bind _=_;rw[h1];exact yW h3);cases hd;simp only[yy];unfold evN;rw[ho];dsimp only;rw[hv]
  have hu:∃fs,P.underlying t=some (.struct fs):=by
   unfold Zbi at h3;split at h3
   ·exact⟨_,by assumption⟩
   ·exact⟨_,by assumption⟩
   ·cases h3
  obtain⟨fs,hu⟩:=hu;rw[hu];dsimp only[TD.er] at he ⊢;rw[he]
 ·cases h
theorem ZnY{t:Ty}{l:yL t.den}{i:Nat}{y:t.den}(h:l[i]? =some y):(l.map t.enc)[i]? =some (t.enc y):=by rw[yal,h];rfl
def Zm9(L:Lk)(P:yg)(t:yb)(i:Int)(K:TD->yL Hint->yO O)(xd:TD):yO O:=
 match P.underlying t,xd with
 |some (.slice e),.view id yM s lo n=>if okB P e s=true then if inB i n=true then K (.ref id (yM++[.ix (lo+i.toNat) s])) [] else none else none
 |some (.slice e),.rv id v s lo n=>if okB P e s=true then if inB i n=true then K (.rref id v [.ix (lo+i.toNat) s]) [] else none else none
 |some (.slice e),xd=>(xd.row L).bind λr=>if okB P e r.t.size=true then(idx r.l i).bind λy=>K (.elem (.v r.t y)) [.el (r.t.enc y)] else none
 |some (.array n e),.ref id yM=>if(P.info? e).isSome then if inB i n=true then K (.ref id (yM++[.ix i.toNat (P.cellsOf e)])) [] else none else none
 |some (.array n e),.rref id v yM=>if(P.info? e).isSome then if inB i n=true then K (.rref id v (yM++[.ix i.toNat (P.cellsOf e)])) [] else none else none
 |some (.array n e),.rp id yM=>if(P.info? e).isSome then if inB i n=true then K (.rp id (yM++[.ix i.toNat (P.cellsOf e)])) [] else none else none
 |some (.array n e),.elem x=>x.arow.bind λr=>if decide (n=r.n)&&okB P e r.t.size then(idx r.l i).bind λy=>K (.elem (.v r.t y)) [.el (r.t.enc y)] else none
 |_,_=>none
theorem ZHr{e:yb}{s:Nat}(h:okB P e s=true):P.cellsOf e=s/\(P.info? e).isSome=true:=by simpa[okB] using h
theorem ZqI{t:yb}{x ix:yn}{K:TD->yL Hint->yO O}{xd id:TD}{q:IntKind×Int}{ip:TP}{out:O}(ho:o.op=.indexAddr t x ix)(hx:arT P ts t x=some xd)(hi:arT P ts 0 ix=some (.p ip))(hq:ZrZ ip=some q)
 (h:Zm9 L P t q.2 K xd=some out):∃d hs,K d hs=some out/\GoodN L P o ts d hs:=by
 have hv:=Zv (L:=L) hx;have hw:=Zv (L:=L) hi;rw[TD.er,(ZnV hq).1] at hw;unfold Zm9 at h;split at h
 ·rename_i e id yM s lo n hu;obtain⟨h3,h⟩:=Zc h;obtain⟨h4,h⟩:=Zc h;refine⟨_,_,h,[0<=q.2,q.2 < (n:Int)],⟨(QX h4).1,(QX h4).2,ytt⟩,λyJ=> ?_⟩;simp only[yy];unfold evN;rw[ho];dsimp only;rw[hu,hv,hw];dsimp only[TD.er];rw[yW (by simpa[okB] using h3),yau,Zbr];rfl
 ·rename_i e id v s lo n hu;obtain⟨h3,h⟩:=Zc h;obtain⟨h4,h⟩:=Zc h;refine⟨_,_,h,[0<=q.2,q.2 < (n:Int)],⟨(QX h4).1,(QX h4).2,ytt⟩,λyJ=> ?_⟩;simp only[yy];unfold evN;rw[ho];dsimp only;rw[hu,hv,hw];dsimp only[TD.er];rw[yW (by simpa[okB] using h3)];simp[Vu,Stp.o,Stp.i]
 ·rename_i e hu _ _;obtain⟨r,h1,h⟩:=yf.1 h;obtain⟨h3,h⟩:=Zc h;obtain⟨y,h5,h⟩:=yf.1 h;obtain⟨h6,h7⟩:=ZnX h5;refine⟨_,_,h,[0<=q.2,(r.l.map r.t.enc)[q.2.toNat]? =some (r.t.enc y)],⟨h6,ZnY h7,ytt⟩,λyJ=> ?_⟩;unfold evN;rw[ho];dsimp only;rcases Zjt h1 with he|⟨id,he⟩
  ·rw[hu,hv,hw,he];dsimp only;rw[yae,yy];dsimp only;rw[yW (by simpa[okB] using h3)];rfl
  ·rw[hu,hv,hw,he];dsimp only;rw[yae,yy];dsimp only;rw[yW (by simpa[okB] using h3)];rfl
 ·rename_i n e id yM hu;obtain⟨h3,h⟩:=Zc h;obtain⟨h4,h⟩:=Zc h;refine⟨_,_,h,[0<=q.2,q.2 < (n:Int)],⟨(QX h4).1,(QX h4).2,ytt⟩,λyJ=> ?_⟩;simp only[yy];unfold evN;rw[ho];dsimp only;rw[hu,hv,hw];dsimp only[TD.er];rw[yW h3,yau,Zbr];rfl
 ·rename_i n e id v yM hu;obtain⟨h3,h⟩:=Zc h;obtain⟨h4,h⟩:=Zc h;refine⟨_,_,h,[0<=q.2,q.2 < (n:Int)],⟨(QX h4).1,(QX h4).2,ytt⟩,λyJ=> ?_⟩;simp only[yy];unfold evN;rw[ho];dsimp only;rw[hu,hv,hw];dsimp only[TD.er];rw[yW h3,yau,Zbr];rfl
 ·rename_i n e id yM hu;obtain⟨h3,h⟩:=Zc h;obtain⟨h4,h⟩:=Zc h;refine⟨_,_,h,[0<=q.2,q.2 < (n:Int)],⟨(QX h4).1,(QX h4).2,ytt⟩,λyJ=> ?_⟩;simp only[yy];unfold evN;rw[ho];dsimp only;rw[hu,hv,hw];dsimp only[TD.er];rw[yW h3,yau,Zbr];rfl
 ·rename_i n e x hu;obtain⟨r,h1,h⟩:=yf.1 h;obtain⟨h3,h⟩:=Zc h;obtain⟨y,h5,h⟩:=yf.1 h;obtain⟨h6,h7⟩:=ZnX h5;refine⟨_,_,h,[0<=q.2,(r.l.map r.t.enc)[q.2.toNat]? =some (r.t.enc y)],⟨h6,ZnY h7,ytt⟩,λyJ=> ?_⟩;unfold evN;rw[ho];dsimp only;rw[hu,hv,hw,TD.er,Zbj h1];rw[yae,yy];dsimp only;rw[yW (by simpa[okB,and_assoc] using h3)];rfl
 ·cases h
def Zju(s:ByteArray):yL yB:=s.data.toList
def TP.strB:TP->yO ByteArray
 |.v .str s=>some s
 |_=>none
theorem ZBx{x:TP}{s:ByteArray}(h:x.strB=some s):x.pe=.str s:=by
 unfold TP.strB at h;split at h
 ·cases h;rfl
 ·cases h
def TP.boolB:TP->yO Bool
 |.v .bool s=>some s
 |_=>none
theorem ZEM{x:TP}{s:Bool}(h:x.boolB=some s):x.pe=.bool s:=by
 unfold TP.boolB at h;split at h
 ·cases h;rfl
 ·cases h
def ZzW(P:yg)(t:yb)(i:Int)(K:TD->yL Hint->yO O)(x:TP):yO O:=
 match P.underlying t with
 |some (.array n e)=>x.arow.bind λr=>if decide (n=r.n)&&okB P e r.t.size&&(WT P e==r.t.isAgg&&((P.underlying e).isSome&&r.t.size !=0)) then(idx r.l i).bind λy=>K (.p (.v r.t y)) [.el (r.t.enc y)] else none
 |some .string=>x.strB.bind λs=>(idx (Zju s) i).bind λb=>K (.p (.v .u8 b)) [.el (.int .u8 (b.toNat:Int))]
 |_=>none
theorem ZxU{t:yb}{x ix:yn}{K:TD->yL Hint->yO O}{xp:TP}{q:IntKind×Int}{ip:TP}{out:O}(ho:o.op=.index t x ix)(hx:arT P ts t x=some (.p xp))(hi:arT P ts 0 ix=some (.p ip))(hq:ZrZ ip=some q)
 (h:ZzW P t q.2 K xp=some out):∃d hs,K d hs=some out/\GoodN L P o ts d hs:=by
 have hv:=Zv (L:=L) hx;have hw:=Zv (L:=L) hi;rw[TD.er,(ZnV hq).1] at hw;unfold ZzW at h;split at h
 ·rename_i n e hu;obtain⟨r,h1,h⟩:=yf.1 h;obtain⟨h3,h⟩:=Zc h;obtain⟨y,h5,h⟩:=yf.1 h;obtain⟨h6,h7⟩:=ZnX h5;refine⟨_,_,h,[0<=q.2,(r.l.map r.t.enc)[q.2.toNat]? =some (r.t.enc y)],⟨h6,ZnY h7,ytt⟩,λyJ=> ?_⟩;unfold evN;rw[ho];dsimp only;rw[hu,hv,hw,TD.er,Zbj h1];rw[yae,yy];dsimp only;simp only[okB,yi,yP] at h3;rw[yW (by rw[Zl2];simp only[yi,yP];exact⟨⟨⟨⟨⟨h3.1.1,h3.1.2.1⟩,h3.2.1⟩,h3.2.2.1⟩,h3.1.2.2⟩,h3.2.2.2⟩)];rfl
 ·rename_i hu;obtain⟨s,h1,h⟩:=yf.1 h;obtain⟨y,h5,h⟩:=yf.1 h;obtain⟨h6,h7⟩:=ZnX h5;refine⟨_,_,h,[0<=q.2,(s.data.toList[q.2.toNat]?).map (λx:yB=>(x.toNat:Int))=some (y.toNat:Int)],⟨h6,by rw[show s.data.toList=Zju s from rfl,h7];rfl,ytt⟩,λyJ=> ?_⟩
  unfold evN;rw[ho];dsimp only;rw[hu,hv,hw,TD.er,ZBx h1];rfl
 ·cases h
def Zg8(P:yg)(ts:yL TD):yO yn->yO (yO Int)
 |none=>some none
 |some x=>match arT P ts 0 x with
  |some (.p y)=>(ZrZ y).map λq=>some q.2
  |_=>none
theorem Zcf{x:yO yn}{l:yO Int}(h:Zg8 P ts x=some l):Zeh P (TD.ers L ts) x=some l:=by
 cases x with
 |none=>cases h;rfl
 |some x=>
  unfold Zg8 at h;dsimp only at h;split at h
  ·rename_i y hy;obtain⟨q,h1,rfl⟩:=Zg h;unfold Zeh;dsimp only;rw[Zv hy,TD.er,(ZnV h1).1]
  ·cases h
def ZzX(L:Lk)(P:yg)(t:yb)(lo hi:yO Int)(K:TD->yL Hint->yO O)(xd:TD):yO O:=
 match P.underlying t,xd with
 |some (.slice e),.view id yM s l0 n=>if okB P e s=true then if VZ n lo hi=true then K (.view id yM s (l0+(lo.getD 0).toNat) ((hi.getD n).toNat - (lo.getD 0).toNat)) [] else none else none
 |some (.slice e),.rv id v s l0 n=>if okB P e s=true then if VZ n lo hi=true then K (.rv id v s (l0+(lo.getD 0).toNat) ((hi.getD n).toNat - (lo.getD 0).toNat)) [.bare] else none else none
 |some (.slice e),xd=>(xd.row L).bind λr=>if okB P e r.t.size=true then if VZ r.l.length lo hi=true then K (.p (.sl r.nn r.t (Ql r.l lo hi))) [] else none else none
 |some (.array n e),.elem x=>x.arow.bind λr=>if decide (n=r.n)&&okB P e r.t.size&&decide (n<=maxLen) then if VZ n lo hi=true then K (.p (.sl (some true) r.t (Ql r.l lo hi))) [] else none else none
 |some (.array n e),.ref id yM=>if(P.info? e).isSome&&decide (n<=maxLen) then if VZ n lo hi=true then K (.view id yM (P.cellsOf e) (lo.getD 0).toNat ((hi.getD n).toNat - (lo.getD 0).toNat)) [.raw] else none else none
 |_,_=>none
theorem ZxV{t:yb}{x:yn}{lo hi:yO yn}{l h':yO Int}{K:TD->yL Hint->yO O}{xd:TD}{out:O}(ho:o.op=.slice t x lo hi none)(hx:arT P ts t x=some xd)(hl:Zg8 P ts lo=some l)(hh:Zg8 P ts hi=some h')
 (h:ZzX L P t l h' K xd=some out):∃d hs,K d hs=some out/\GoodN L P o ts d hs:=by
 have hv:=Zv (L:=L) hx;have hl:=Zcf (L:=L) hl;have hh:=Zcf (L:=L) hh;unfold ZzX at h;split at h
 ·rename_i e id yM s l0 n hu;obtain⟨h3,h⟩:=Zc h;obtain⟨h4,h⟩:=Zc h;refine⟨_,_,h,XF n l h',Zgp h4,λyJ=> ?_⟩;simp only[yy];unfold evN;rw[ho];dsimp only;rw[hu,hv,hl,hh];dsimp only[TD.er];rw[yW (by simpa[okB] using h3)]
 ·rename_i e id v s l0 n hu;obtain⟨h3,h⟩:=Zc h;obtain⟨h4,h⟩:=Zc h;refine⟨_,_,h,XF n l h',Zgp h4,λyJ=> ?_⟩;unfold evN;rw[ho];dsimp only;rw[hu,hv,hl,hh];dsimp only[TD.er];rw[yae,yy];dsimp only;rw[yW (by simpa[okB] using h3)]
 ·rename_i e hu _ _;obtain⟨r,h1,h⟩:=yf.1 h;obtain⟨h3,h⟩:=Zc h;obtain⟨h4,h⟩:=Zc h;refine⟨_,_,h,XF r.l.length l h',Zgp h4,λyJ=> ?_⟩;simp only[yy];unfold evN;rw[ho];dsimp only;rw[TD.er,TP.pe,Zhx];rcases Zjt h1 with he|⟨id,he⟩
  ·rw[hu,hv,hl,hh,he];dsimp only;rw[yW (by simpa[okB] using h3),yaa]
  ·rw[hu,hv,hl,hh,he];dsimp only;rw[yW (by simpa[okB] using h3),yaa]
 ·rename_i n e x hu;obtain⟨r,h1,h⟩:=yf.1 h;obtain⟨h3,h⟩:=Zc h;obtain⟨h4,h⟩:=Zc h;refine⟨_,_,h,XF n l h',Zgp h4,λyJ=> ?_⟩;simp only[yy];unfold evN;rw[ho];dsimp only;rw[hu,hv,hl,hh,show(TD.elem x).er L=.elem x.pe from rfl,Zbj h1]
  dsimp only;rw[yW (by simpa[okB,and_assoc] using h3),TD.er,TP.pe,Zhx]
 ·rename_i n e id yM hu;obtain⟨h3,h⟩:=Zc h;obtain⟨h4,h⟩:=Zc h;refine⟨_,_,h,XF n l h',Zgp h4,λyJ=> ?_⟩;unfold evN;rw[ho];dsimp only;rw[hu,hv,hl,hh];dsimp only[TD.er];rw[yae,yy];dsimp only;rw[yW (by simpa using h3)]
 ·cases h
end
def ZI2(x:yB)(n:Nat):yB:=yav (x.toNat*2 ^ n)
def ZI3(x:yB)(n:Nat):yB:=yav (x.toNat / 2 ^ n)
theorem ZIB{n:Nat}(h:n < 256):IntKind.u8.wrap (n:Int)=(n:Int):=by
 simp only[IntKind.wrap,IntKind.signed,IntKind.bits];simp;omega
theorem Zl3(z:Int):IntKind.u8.wrap z=z % 256:=by
 simp only[IntKind.wrap,IntKind.signed,IntKind.bits];simp
theorem ZIC(op:BinOp)(x y:yB):bits op .u8 (x.toNat:Int) (y.toNat:Int)=((match op with|.and=>x&&&y|.or=>x|||y|.xor=>x^^^y|_=>x&&& ~~~y).toNat:Int):=by
 have e:∀z:yB,BitVec.ofInt (IntKind.u8.bits) (z.toNat:Int)=z.toBitVec:=λz=>by
  show BitVec.ofInt 8 (z.toNat:Int)=z.toBitVec;apply BitVec.eq_of_toNat_eq;rw[BitVec.ofInt_natCast,BitVec.toNat_ofNat];exact yap (UInt8.toNat_lt z)
 unfold bits;rw[e,e];cases op <;> exact ZIB (UInt8.toNat_lt _)
def op8:BinOp->yB->yB->yO yB
 |.add,x,y=>some (x+y)
 |.sub,x,y=>some (x - y)
 |.mul,x,y=>some (x*y)
 |.and,x,y=>some (x&&&y)
 |.or,x,y=>some (x|||y)
 |.xor,x,y=>some (x^^^y)
 |.andNot,x,y=>some (x&&& ~~~y)
 |_,_,_=>none
theorem ZI4{op:BinOp}{x y z:yB}(h:op8 op x y=some z)(yJ:yL Hint):XC op .u8 (x.toNat:Int) (y.toNat:Int) (.raw::yJ)=some ([],.p (.int .u8 (z.toNat:Int)),yJ):=by
 cases op <;> simp only[op8,yq,reduceCtorEq] at h <;> subst h
 ·simp only[XC,Zeg,Zl3,UInt8.toNat_add];simp
 ·have e:((x.toNat:Int) - (y.toNat:Int)) % 256=((x - y).toNat:Int):=by
   rw[UInt8.toNat_sub];have:=x.toNat_lt;have:=y.toNat_lt;omega
  simp only[XC,Zeg,Zl3,e]
 ·simp only[XC,Zeg,Zl3,UInt8.toNat_mul];simp
 all_goals simp only[XC,ZIC]
def dv8:BinOp->yB->yB->yO yB
 |.quo,x,y=>some (x / y)
 |.rem,x,y=>some (x % y)
 |_,_,_=>none
theorem ZI5{op:BinOp}{x y z:yB}(h:dv8 op x y=some z)(yJ:yL Hint):XC op .u8 (x.toNat:Int) (y.toNat:Int) (.raw::yJ)=some ([(y.toNat:Int)≠0],.p (.int .u8 (z.toNat:Int)),yJ):=by
 cases op <;> simp only[dv8,yq,reduceCtorEq] at h <;> subst h
 ·simp only[XC,UInt8.toNat_div];rw[show(x.toNat:Int).tdiv (y.toNat:Int)=((x.toNat / y.toNat:Nat):Int) from rfl,ZIB (ydb (Nat.div_le_self ..) (UInt8.toNat_lt _))]
 ·simp only[XC,UInt8.toNat_mod];rfl
def ZI6:BinOp->yB->yB->yO Bool
 |.eql,x,y=>some (x==y)
 |.neq,x,y=>some (x !=y)
 |.lss,x,y=>some (decide (x < y))
 |.leq,x,y=>some (decide (x<=y))
 |.gtr,x,y=>some (decide (x > y))
 |.geq,x,y=>some (decide (x >= y))
 |_,_,_=>none
theorem ZHs{op:BinOp}{x y:yB}{b:Bool}(h:ZI6 op x y=some b)(yJ:yL Hint):XC op .u8 (x.toNat:Int) (y.toNat:Int) yJ=some ([],.p (.bool b),yJ):=by
 have eq:((x.toNat:Int)==(y.toNat:Int))=(x==y):=by
  rw[ycq];simp only[yT, <-UInt8.toNat_inj];omega
 have lt:∀a b:yB,decide ((a.toNat:Int) < (b.toNat:Int))=decide (a < b):=λa b=>by
  rw[ycq];simp[UInt8.lt_iff_toNat_lt]
 have le:∀a b:yB,decide ((a.toNat:Int)<=(b.toNat:Int))=decide (a<=b):=λa b=>by
  rw[ycq];simp[UInt8.le_iff_toNat_le]
 cases op <;> simp only[ZI6,yq,reduceCtorEq] at h <;> subst h <;> simp only[XC,GT.gt,GE.ge,lt,le,eq,bne]
theorem ZHt(x:yB)(y:Int)(yJ:yL Hint):Vz .shl .u8 (x.toNat:Int) y (.raw::yJ)=some ([0<=y],.p (.int .u8 ((ZI2 x (min y.toNat 8)).toNat:Int)),yJ):=by
 simp only[Vz,Zl3,ZI2,UInt8.toNat_ofNat'];simp[show IntKind.u8.bits=8 from rfl]
theorem ZHu(x:yB)(y:Int)(yJ:yL Hint):Vz .shr .u8 (x.toNat:Int) y (.raw::yJ)=some ([0<=y],.p (.int .u8 ((ZI3 x (min y.toNat 8)).toNat:Int)),yJ):=by
 simp only[Vz,ZI3,UInt8.toNat_ofNat'];congr 4;rw[show IntKind.u8.bits=8 from rfl]
 have h:x.toNat / 2 ^ min y.toNat 8 < 256:=ydb (Nat.div_le_self ..) (UInt8.toNat_lt _);rw[yap h];rw[show((2:Int) ^ min y.toNat 8)=((2 ^ min y.toNat 8:Nat):Int) by simp,Int.fdiv_eq_ediv_of_nonneg _ (Int.natCast_nonneg _)];rfl
def ZbK(x:yV)(n:Nat):yV:=ybv (x.toNat*2 ^ n)
def Zfh(x:yV)(n:Nat):yV:=ybv (x.toNat / 2 ^ n)
theorem ZEN{n:Nat}(h:n < 4294967296):IntKind.u32.wrap (n:Int)=(n:Int):=by
 simp only[IntKind.wrap,IntKind.signed,IntKind.bits];simp;omega
theorem Zjv(z:Int):IntKind.u32.wrap z=z % 4294967296:=by
 simp only[IntKind.wrap,IntKind.signed,IntKind.bits];simp
theorem ZEO(op:BinOp)(x y:yV):bits op .u32 (x.toNat:Int) (y.toNat:Int)=((match op with|.and=>x&&&y|.or=>x|||y|.xor=>x^^^y|_=>x&&& ~~~y).toNat:Int):=by
 have e:∀z:yV,BitVec.ofInt (IntKind.u32.bits) (z.toNat:Int)=z.toBitVec:=λz=>by
  show BitVec.ofInt 32 (z.toNat:Int)=z.toBitVec;apply BitVec.eq_of_toNat_eq;rw[BitVec.ofInt_natCast,BitVec.toNat_ofNat];exact yap (UInt32.toNat_lt z)
 unfold bits;rw[e,e];cases op <;> exact ZEN (UInt32.toNat_lt _)
def ZI7:BinOp->yV->yV->yO yV
 |.add,x,y=>some (x+y)
 |.sub,x,y=>some (x - y)
 |.mul,x,y=>some (x*y)
 |.and,x,y=>some (x&&&y)
 |.or,x,y=>some (x|||y)
 |.xor,x,y=>some (x^^^y)
 |.andNot,x,y=>some (x&&& ~~~y)
 |_,_,_=>none
theorem ZHv{op:BinOp}{x y z:yV}(h:ZI7 op x y=some z)(yJ:yL Hint):XC op .u32 (x.toNat:Int) (y.toNat:Int) (.raw::yJ)=some ([],.p (.int .u32 (z.toNat:Int)),yJ):=by
 cases op <;> simp only[ZI7,yq,reduceCtorEq] at h <;> subst h
 ·simp only[XC,Zeg,Zjv,UInt32.toNat_add];simp
 ·have e:((x.toNat:Int) - (y.toNat:Int)) % 4294967296=((x - y).toNat:Int):=by
   rw[UInt32.toNat_sub];have:=x.toNat_lt;have:=y.toNat_lt;omega
  simp only[XC,Zeg,Zjv,e]
 ·simp only[XC,Zeg,Zjv,UInt32.toNat_mul];simp
 all_goals simp only[XC,ZEO]
def ZI8:BinOp->yV->yV->yO yV
 |.quo,x,y=>some (x / y)
 |.rem,x,y=>some (x % y)
 |_,_,_=>none
theorem ZHw{op:BinOp}{x y z:yV}(h:ZI8 op x y=some z)(yJ:yL Hint):XC op .u32 (x.toNat:Int) (y.toNat:Int) (.raw::yJ)=some ([(y.toNat:Int)≠0],.p (.int .u32 (z.toNat:Int)),yJ):=by
 cases op <;> simp only[ZI8,yq,reduceCtorEq] at h <;> subst h
 ·simp only[XC,UInt32.toNat_div];rw[show(x.toNat:Int).tdiv (y.toNat:Int)=((x.toNat / y.toNat:Nat):Int) from rfl,ZEN (ydb (Nat.div_le_self ..) (UInt32.toNat_lt _))]
 ·simp only[XC,UInt32.toNat_mod];rfl
def ZEP:BinOp->yV->yV->yO Bool
 |.eql,x,y=>some (x==y)
 |.neq,x,y=>some (x !=y)
 |.lss,x,y=>some (decide (x < y))
 |.leq,x,y=>some (decide (x<=y))
 |.gtr,x,y=>some (decide (x > y))
 |.geq,x,y=>some (decide (x >= y))
 |_,_,_=>none
theorem ZEQ{op:BinOp}{x y:yV}{b:Bool}(h:ZEP op x y=some b)(yJ:yL Hint):XC op .u32 (x.toNat:Int) (y.toNat:Int) yJ=some ([],.p (.bool b),yJ):=by
 have eq:((x.toNat:Int)==(y.toNat:Int))=(x==y):=by
  rw[ycq];simp only[yT, <-UInt32.toNat_inj];omega
 have lt:∀a b:yV,decide ((a.toNat:Int) < (b.toNat:Int))=decide (a < b):=λa b=>by
  rw[ycq];simp[UInt32.lt_iff_toNat_lt]
 have le:∀a b:yV,decide ((a.toNat:Int)<=(b.toNat:Int))=decide (a<=b):=λa b=>by
  rw[ycq];simp[UInt32.le_iff_toNat_le]
 cases op <;> simp only[ZEP,yq,reduceCtorEq] at h <;> subst h <;> simp only[XC,GT.gt,GE.ge,lt,le,eq,bne]
theorem ZER(x:yV)(y:Int)(yJ:yL Hint):Vz .shl .u32 (x.toNat:Int) y (.raw::yJ)=some ([0<=y],.p (.int .u32 ((ZbK x (min y.toNat 32)).toNat:Int)),yJ):=by
 simp only[Vz,Zjv,ZbK,ycr];simp[show IntKind.u32.bits=32 from rfl]
theorem ZES(x:yV)(y:Int)(yJ:yL Hint):Vz .shr .u32 (x.toNat:Int) y (.raw::yJ)=some ([0<=y],.p (.int .u32 ((Zfh x (min y.toNat 32)).toNat:Int)),yJ):=by
 simp only[Vz,Zfh,ycr];congr 4;rw[show IntKind.u32.bits=32 from rfl]
 have h:x.toNat / 2 ^ min y.toNat 32 < 4294967296:=ydb (Nat.div_le_self ..) (UInt32.toNat_lt _);rw[yap h];rw[show((2:Int) ^ min y.toNat 32)=((2 ^ min y.toNat 32:Nat):Int) by simp,Int.fdiv_eq_ediv_of_nonneg _ (Int.natCast_nonneg _)];rfl
def Zag(x:yU)(n:Nat):yU:=yai (x.toNat*2 ^ n)
def ZI(x:yU)(n:Nat):yU:=yai (x.toNat / 2 ^ n)
theorem ZBy{n:Nat}(h:n < 18446744073709551616):IntKind.u64.wrap (n:Int)=(n:Int):=by
 simp only[IntKind.wrap,IntKind.signed,IntKind.bits];simp;omega
theorem Zhy(z:Int):IntKind.u64.wrap z=z % 18446744073709551616:=by
 simp only[IntKind.wrap,IntKind.signed,IntKind.bits];simp
theorem ZET(op:BinOp)(x y:yU):bits op .u64 (x.toNat:Int) (y.toNat:Int)=((match op with|.and=>x&&&y|.or=>x|||y|.xor=>x^^^y|_=>x&&& ~~~y).toNat:Int):=by
 have e:∀z:yU,BitVec.ofInt (IntKind.u64.bits) (z.toNat:Int)=z.toBitVec:=λz=>by
  show BitVec.ofInt 64 (z.toNat:Int)=z.toBitVec;apply BitVec.eq_of_toNat_eq;rw[BitVec.ofInt_natCast,BitVec.toNat_ofNat];exact yap (ybu z)
 unfold bits;rw[e,e];cases op <;> exact ZBy (ybu _)
def ZI9:BinOp->yU->yU->yO yU
 |.add,x,y=>some (x+y)
 |.sub,x,y=>some (x - y)
 |.mul,x,y=>some (x*y)
 |.and,x,y=>some (x&&&y)
 |.or,x,y=>some (x|||y)
 |.xor,x,y=>some (x^^^y)
 |.andNot,x,y=>some (x&&& ~~~y)
 |_,_,_=>none
theorem ZHx{op:BinOp}{x y z:yU}(h:ZI9 op x y=some z)(yJ:yL Hint):XC op .u64 (x.toNat:Int) (y.toNat:Int) (.raw::yJ)=some ([],.p (.int .u64 (z.toNat:Int)),yJ):=by
 cases op <;> simp only[ZI9,yq,reduceCtorEq] at h <;> subst h
 ·simp only[XC,Zeg,Zhy,UInt64.toNat_add];simp
 ·have e:((x.toNat:Int) - (y.toNat:Int)) % 18446744073709551616=((x - y).toNat:Int):=by
   rw[UInt64.toNat_sub];have:=x.toNat_lt;have:=y.toNat_lt;omega
  simp only[XC,Zeg,Zhy,e]
 ·simp only[XC,Zeg,Zhy,UInt64.toNat_mul];simp
 all_goals simp only[XC,ZET]
def ZJa:BinOp->yU->yU->yO yU
 |.quo,x,y=>some (x / y)
 |.rem,x,y=>some (x % y)
 |_,_,_=>none
theorem ZHy{op:BinOp}{x y z:yU}(h:ZJa op x y=some z)(yJ:yL Hint):XC op .u64 (x.toNat:Int) (y.toNat:Int) (.raw::yJ)=some ([(y.toNat:Int)≠0],.p (.int .u64 (z.toNat:Int)),yJ):=by
 cases op <;> simp only[ZJa,yq,reduceCtorEq] at h <;> subst h
 ·simp only[XC,UInt64.toNat_div];rw[show(x.toNat:Int).tdiv (y.toNat:Int)=((x.toNat / y.toNat:Nat):Int) from rfl,ZBy (ydb (Nat.div_le_self ..) (ybu _))]
 ·simp only[XC,UInt64.toNat_mod];rfl
def ZEU:BinOp->yU->yU->yO Bool
 |.eql,x,y=>some (x==y)
 |.neq,x,y=>some (x !=y)
 |.lss,x,y=>some (decide (x < y))
 |.leq,x,y=>some (decide (x<=y))
 |.gtr,x,y=>some (decide (x > y))
 |.geq,x,y=>some (decide (x >= y))
 |_,_,_=>none
theorem ZEV{op:BinOp}{x y:yU}{b:Bool}(h:ZEU op x y=some b)(yJ:yL Hint):XC op .u64 (x.toNat:Int) (y.toNat:Int) yJ=some ([],.p (.bool b),yJ):=by
 have eq:((x.toNat:Int)==(y.toNat:Int))=(x==y):=by
  rw[ycq];simp only[yT, <-yct];omega
 have lt:∀a b:yU,decide ((a.toNat:Int) < (b.toNat:Int))=decide (a < b):=λa b=>by
  rw[ycq];simp[UInt64.lt_iff_toNat_lt]
 have le:∀a b:yU,decide ((a.toNat:Int)<=(b.toNat:Int))=decide (a<=b):=λa b=>by
  rw[ycq];simp[UInt64.le_iff_toNat_le]
 cases op <;> simp only[ZEU,yq,reduceCtorEq] at h <;> subst h <;> simp only[XC,GT.gt,GE.ge,lt,le,eq,bne]
theorem ZEW(x:yU)(y:Int)(yJ:yL Hint):Vz .shl .u64 (x.toNat:Int) y (.raw::yJ)=some ([0<=y],.p (.int .u64 ((Zag x (min y.toNat 64)).toNat:Int)),yJ):=by
 simp only[Vz,Zhy,Zag,yax];simp[show IntKind.u64.bits=64 from rfl]
theorem ZEX(x:yU)(y:Int)(yJ:yL Hint):Vz .shr .u64 (x.toNat:Int) y (.raw::yJ)=some ([0<=y],.p (.int .u64 ((ZI x (min y.toNat 64)).toNat:Int)),yJ):=by
 simp only[Vz,ZI,yax];congr 4;rw[show IntKind.u64.bits=64 from rfl]
 have h:x.toNat / 2 ^ min y.toNat 64 < 18446744073709551616:=ydb (Nat.div_le_self ..) (ybu _);rw[yap h];rw[show((2:Int) ^ min y.toNat 64)=((2 ^ min y.toNat 64:Nat):Int) by simp,Int.fdiv_eq_ediv_of_nonneg _ (Int.natCast_nonneg _)];rfl
inductive Num where
 |u8 (x:UInt8)|u32 (x:UInt32)|u64 (x:UInt64)
 |i (k:IntKind) (x:Int)
def TP.num:TP->yO Num
 |.v (.int k) n=>if ZI0 k then some (.i k n) else none
 |.v .u8 b=>some (.u8 b)
 |.v .u32 b=>some (.u32 b)
 |.v .u64 b=>some (.u64 b)
 |_=>none
def Num.k:Num->IntKind
 |.u8 _=>.u8|.u32 _=>.u32|.u64 _=>.u64|.i k _=>k
def Num.n:Num->Int
 |.u8 x=>(x.toNat:Int)|.u32 x=>(x.toNat:Int)|.u64 x=>(x.toNat:Int)|.i _ x=>x
theorem ZJb{x:TP}{a:Num}(h:x.num=some a):x.pe=.int a.k a.n:=by
 unfold TP.num at h;split at h
 ·split at h
  ·cases h;rfl
  ·cases h
 ·cases h;rfl
 ·cases h;rfl
 ·cases h;rfl
 ·cases h
def TD.num:TD->yO Num
 |.p x=>x.num
 |_=>none
theorem ZfG{L:Lk}{x:TD}{a:Num}(h:x.num=some a):x.er L=.p (.int a.k a.n):=by
 unfold TD.num at h;split at h
 ·rw[TD.er,ZJb h]
 ·cases h
section
variable{L:Lk}{P:yg}{o:ym}{ts:yL TD}{O:Type}
def ZL3:BinOp->Bool
 |.eql|.neq|.lss|.leq|.gtr|.geq=>true
 |_=>false
def ZJc:BinOp->Int->Int->yO Bool
 |.eql,x,y=>some (x==y)
 |.neq,x,y=>some (x !=y)
 |.lss,x,y=>some (decide (x < y))
 |.leq,x,y=>some (decide (x<=y))
 |.gtr,x,y=>some (decide (x > y))
 |.geq,x,y=>some (decide (x >= y))
 |_,_,_=>none
theorem ZHz{op:BinOp}{k:IntKind}{x y:Int}{b:Bool}(h:ZJc op x y=some b)(yJ:yL Hint):XC op k x y yJ=some ([],.p (.bool b),yJ):=by
 cases op <;> simp only[ZJc,yq,reduceCtorEq] at h <;> subst h <;> rfl
def opI(k:IntKind):BinOp->Int->Int->yO Int
 |.add,x,y=>some (k.wrap (x+y))
 |.sub,x,y=>some (k.wrap (x - y))
 |.mul,x,y=>some (k.wrap (x*y))
 |.and,x,y=>some (bits .and k x y)
 |.or,x,y=>some (bits .or k x y)
 |.xor,x,y=>some (bits .xor k x y)
 |.andNot,x,y=>some (bits .andNot k x y)
 |_,_,_=>none
theorem ZJd{op:BinOp}{k:IntKind}{x y z:Int}(h:opI k op x y=some z)(yJ:yL Hint):XC op k x y (.raw::yJ)=some ([],.p (.int k z),yJ):=by
 cases op <;> simp only[opI,yq,reduceCtorEq] at h <;> subst h <;> rfl
def dvI(k:IntKind):BinOp->Int->Int->yO Int
 |.quo,x,y=>some (k.wrap (x.tdiv y))
 |.rem,x,y=>some (x.tmod y)
 |_,_,_=>none
theorem ZJe{op:BinOp}{k:IntKind}{x y z:Int}(h:dvI k op x y=some z)(yJ:yL Hint):XC op k x y (.raw::yJ)=some ([y≠0],.p (.int k z),yJ):=by
 cases op <;> simp only[dvI,yq,reduceCtorEq] at h <;> subst h <;> rfl
def orN(b:yO Bool)(o:yO TP)(d:yO TP)(nz:Bool)(K:TD->yL Hint->yO O):yO O:=
 match b,o,d with
 |some b,_,_=>K (.p (.v .bool b)) []
 |none,some z,_=>K (.p z) [.raw]
 |none,none,some z=>if nz=true then K (.p z) [.raw] else none
 |none,none,none=>none
def ZzY(op:BinOp)(x y:Num)(K:TD->yL Hint->yO O):yO O:=
 match x,y with
 |.u8 a,.u8 b=>orN (ZI6 op a b) ((op8 op a b).map (.v .u8)) ((dv8 op a b).map (.v .u8)) (b !=0) K
 |.u32 a,.u32 b=>orN (ZEP op a b) ((ZI7 op a b).map (.v .u32)) ((ZI8 op a b).map (.v .u32)) (b !=0) K
 |.u64 a,.u64 b=>orN (ZEU op a b) ((ZI9 op a b).map (.v .u64)) ((ZJa op a b).map (.v .u64)) (b !=0) K
 |.i k a,.i l b=>if k=l/\ZI0 k=true then orN (ZJc op a b) ((opI k op a b).map (.v (.int k))) ((dvI k op a b).map (.v (.int k))) (b !=0) K else none
 |_,_=>none
theorem ZnZ{k:IntKind}{op:BinOp}{x y:Int}{b:yO Bool}{o d:yO TP}{nz:Bool}{K:TD->yL Hint->yO O}{out:O}(h:orN b o d nz K=some out)
 (hb:∀c,b=some c->∀yJ,XC op k x y yJ=some ([],.p (.bool c),yJ))
 (ho:∀z,o=some z->∀yJ,XC op k x y (.raw::yJ)=some ([],.p z.pe,yJ))
 (hd:∀z,d=some z->∀yJ,XC op k x y (.raw::yJ)=some ([y≠0],.p z.pe,yJ)) (hz:nz=true->y≠0):
 ∃d hs C,K d hs=some out/\AllP C/\∀yJ,XC op k x y (hs++yJ)=some (C,d.er L,yJ):=by
 unfold orN at h;split at h
 ·exact⟨_,_,[],h,zY,hb _ rfl⟩
 ·exact⟨_,_,[],h,zY,ho _ rfl⟩
 ·obtain⟨h1,h2⟩:=Zc h;exact⟨_,_,[y≠0],h2,⟨hz h1,ytt⟩,hd _ rfl⟩
 ·cases h
theorem ZxW{op:BinOp}{x y:Num}{K:TD->yL Hint->yO O}{out:O}(h:ZzY op x y K=some out):
 x.k=y.k/\∃d hs C,K d hs=some out/\AllP C/\∀yJ,XC op x.k x.n y.n (hs++yJ)=some (C,d.er L,yJ):=by
 unfold ZzY at h;split at h
 ·rename_i a b;refine⟨rfl,ZnZ h (λc hc=>ZHs hc) (λz hz=> ?_) (λz hz=> ?_) (λhz=> ?_)⟩
  ·obtain⟨q,h1,rfl⟩:=Zg hz;exact ZI4 h1
  ·obtain⟨q,h1,rfl⟩:=Zg hz;exact ZI5 h1
  ·simp only[yE,ne_eq] at hz;intro e;exact hz (UInt8.toNat_inj.1 (by simp only[Num.n] at e;show b.toNat=0;omega))
 ·rename_i a b;refine⟨rfl,ZnZ h (λc hc=>ZEQ hc) (λz hz=> ?_) (λz hz=> ?_) (λhz=> ?_)⟩
  ·obtain⟨q,h1,rfl⟩:=Zg hz;exact ZHv h1
  ·obtain⟨q,h1,rfl⟩:=Zg hz;exact ZHw h1
  ·simp only[yE,ne_eq] at hz;intro e;exact hz (UInt32.toNat_inj.1 (by simp only[Num.n] at e;show b.toNat=0;omega))
 ·rename_i a b;refine⟨rfl,ZnZ h (λc hc=>ZEV hc) (λz hz=> ?_) (λz hz=> ?_) (λhz=> ?_)⟩
  ·obtain⟨q,h1,rfl⟩:=Zg hz;exact ZHx h1
  ·obtain⟨q,h1,rfl⟩:=Zg hz;exact ZHy h1
  ·simp only[yE,ne_eq] at hz;intro e;exact hz (yct.1 (by simp only[Num.n] at e;show b.toNat=0;omega))
 ·rename_i k a l b;split at h
  ·rename_i e;obtain⟨rfl,e⟩:=e;refine⟨rfl,ZnZ h (λc hc=>ZHz hc) (λz hz=> ?_) (λz hz=> ?_) (λhz=> ?_)⟩
   ·obtain⟨q,h1,rfl⟩:=Zg hz;exact ZJd h1
   ·obtain⟨q,h1,rfl⟩:=Zg hz;exact ZJe h1
   ·simpa[Num.n] using hz
  ·cases h
 ·cases h
def ZzZ:Num->Bool
 |.i _ n=>decide (0<=n)
 |_=>true
theorem Zz0{x:Num}(h:ZzZ x=true):0<=x.n:=by
 cases x <;> simp only[ZzZ,Num.n,yP] at h ⊢ <;> omega
def shN(op:BinOp)(x y:Num):yO TP:=
 match op,x with
 |.shl,.u8 a=>some (.v .u8 (ZI2 a (min y.n.toNat 8)))
 |.shl,.u32 a=>some (.v .u32 (ZbK a (min y.n.toNat 32)))
 |.shl,.u64 a=>some (.v .u64 (Zag a (min y.n.toNat 64)))
 |.shl,.i k a=>some (.v (.int k) (k.wrap (a*2 ^ min y.n.toNat k.bits)))
 |.shr,.u8 a=>some (.v .u8 (ZI3 a (min y.n.toNat 8)))
 |.shr,.u32 a=>some (.v .u32 (Zfh a (min y.n.toNat 32)))
 |.shr,.u64 a=>some (.v .u64 (ZI a (min y.n.toNat 64)))
 |.shr,.i k a=>some (.v (.int k) (a.fdiv (2 ^ min y.n.toNat k.bits)))
 |_,_=>none
theorem ZJf{op:BinOp}{x y:Num}{z:TP}(h:shN op x y=some z)(yJ:yL Hint):Vz op x.k x.n y.n (.raw::yJ)=some ([0<=y.n],.p z.pe,yJ):=by
 unfold shN at h
 split at h <;> first
  |(cases h;first|exact ZHt .. |exact ZER .. |exact ZEW .. |exact ZHu .. |exact ZES .. |exact ZEX .. |rfl)
  |cases h
mutual
def Ty.flat:Ty->Bool
 |.sl _=>false
 |.str=>false
 |.arr _ t=>Ty.flat t
 |.st fs=>Ty.flats fs
 |_=>true
def Ty.flats:yL Ty->Bool
 |[]=>true
 |t::r=>Ty.flat t&&Ty.flats r
end
mutual
theorem Zn0:∀(t:Ty)(x y:t.den),t.flat=true->t.enc x=t.enc y->x=y
 |.int k,x,y,_,h=>by injection h
 |.u8,x,y,_,h=>by injection h with _ h;exact UInt8.toNat_inj.1 (by omega)
 |.u32,x,y,_,h=>by injection h with _ h;exact UInt32.toNat_inj.1 (by omega)
 |.u64,x,y,_,h=>by injection h with _ h;exact yct.1 (by omega)
 |.bool,x,y,_,h=>by injection h
 |.str,_,_,hf,_=>nomatch hf
 |.sl _,_,_,hf,_=>nomatch hf
 |.arr n t,x,y,hf,h=>by
  injection h with _ _ h
  exact ZBo (λa b e=>Zn0 t a b hf e) h
 |.st fs,x,y,hf,h=>by
  injection h with h;exact encs_inj fs x y hf h
theorem encs_inj:∀(fs:yL Ty)(x y:Ty.dens fs),Ty.flats fs=true->Ty.encs fs x=Ty.encs fs y->x=y
 |[],_,_,_,_=>rfl
 |[t],x,y,hf,h=>by
  simp only[Ty.encs,List.cons.injEq,and_true] at h;simp only[Ty.flats,Bool.and_true] at hf
  exact Zn0 t x y hf h
 |t::u::r,x,y,hf,h=>by
  have h':t.enc x.1::Ty.encs (u::r) x.2=t.enc y.1::Ty.encs (u::r) y.2:=h;have hf':(t.flat&&Ty.flats (u::r))=true:=hf;rw[yi] at hf';injection h' with h1 h2;exact Prod.ext (Zn0 t x.1 y.1 hf'.1 h1) (encs_inj (u::r) x.2 y.2 hf'.2 h2)
end
mutual
def Ty.deq:(t:Ty)->DecidableEq t.den
 |.int _=>inferInstanceAs (DecidableEq Int)
 |.u8=>inferInstanceAs (DecidableEq yB)
 |.u32=>inferInstanceAs (DecidableEq yV)
 |.u64=>inferInstanceAs (DecidableEq yU)
 |.bool=>inferInstanceAs (DecidableEq Bool)
 |.str=>inferInstanceAs (DecidableEq ByteArray)
 |.sl t=>@instDecidableEqList t.den (Ty.deq t)
 |.arr _ t=>@instDecidableEqList t.den (Ty.deq t)
 |.st fs=>Ty.deqs fs
def Ty.deqs:(fs:yL Ty)->DecidableEq (Ty.dens fs)
 |[]=>inferInstanceAs (DecidableEq Unit)
 |[t]=>Ty.deq t
 |t::u::r=>@instDecidableEqProd t.den (Ty.dens (u::r)) (Ty.deq t) (Ty.deqs (u::r))
end
mutual
def ZxX(P:yg):Nat->yb->Ty->Bool
 |0,_,_=>false
 |n+1,t,T=>match P.underlying t,T with
  |some .bool,.bool=>true
  |some (.int .u8),.u8=>true
  |some (.int .u32),.u32=>true
  |some (.int .u64),.u64=>true
  |some (.int k),.int l=>decide (k=l)
  |some (.array m e),.arr m' U=>decide (m'=m)&&(decide (P.cellsOf e=U.size)&&(decide (U.size≠0)&&((P.info? e).isSome&&((P.underlying e).isSome&&(decide (WT P e=U.isAgg)&&ZxX P n e U)))))
  |some (.struct fs),.st Ts=>decide (P.stoodInHeld t=false)&&fitTs P n fs.toList 0 Ts
  |_,_=>false
def fitTs(P:yg):Nat->yL Field->Nat->yL Ty->Bool
 |0,_,_,_=>false
 |_+1,[],_,[]=>true
 |n+1,f::fs,o,T::Ts=>decide (f.name≠ "_")&&(decide (f.offset=o)&&(decide (P.cellsOf f.type=T.size)&&((P.info? f.type).isSome&&((P.underlying f.type).isSome&&(decide (WT P f.type=T.isAgg)&&(decide (T.size≠0)&&(ZxX P n f.type T&&fitTs P n fs (o+T.size) Ts)))))))
 |_+1,_,_,_=>false
end
mutual
theorem Zn1:∀(n:Nat)(t:yb)(T:Ty),ZxX P n t T=true->∀(x:T.den),fitP P n t (T.enc x)
 |0,_,_,h,_=>by simp[ZxX] at h
 |n+1,t,T,h,x=>by
  simp only[ZxX] at h;unfold fitP;split at h
  ·rename_i hu;rw[hu];trivial
  ·rename_i hu;rw[hu];exact rfl
  ·rename_i hu;rw[hu];exact rfl
  ·rename_i hu;rw[hu];exact rfl
  ·rename_i hu;rw[hu];simp only[yP] at h;exact h.symm
  ·rename_i m e m' U hu;simp only[yi,yP] at h;obtain⟨h1,h2,h3,h4,h5,h6,h7⟩:=h;rw[hu];refine⟨h1,h2,h3,h4,h5,λy hy=> ?_⟩;obtain⟨z,_,rfl⟩:=List.mem_map.1 hy;exact⟨Zn1 n e U h7 z,Ziw U z,by rw[Zl2];exact h6⟩
  ·rename_i fs Ts hu;simp only[yi,yP] at h;rw[hu];exact⟨h.1,ZnR (λt x k=>k) _ _ _ (fitTs_ok n fs.toList 0 Ts h.2 x)⟩
  ·cases h
theorem fitTs_ok:∀(n:Nat)(fs:yL Field)(o:Nat)(Ts:yL Ty),fitTs P n fs o Ts=true->∀(x:Ty.dens Ts),Zir P (fitP P n) fs o (Ty.encs Ts x)
 |0,_,_,_,h,_=>by simp[fitTs] at h
 |n+1,[],_,[],_,_=>trivial
 |n+1,[],_,_::_,h,_=>by simp[fitTs] at h
 |n+1,_::_,_,[],h,_=>by simp[fitTs] at h
 |n+1,f::fs,o,T::Ts,h,x=>by
  simp only[fitTs,yi,yP] at h;obtain⟨h1,h2,h3,h4,h5,h6,h7,h8,h9⟩:=h
  have key:∃(a:T.den)(b:Ty.dens Ts),Ty.encs (T::Ts) x=T.enc a::Ty.encs Ts b:=by
   cases Ts with
   |nil=>exact⟨x,(),rfl⟩
   |cons U r=>exact⟨x.1,x.2,rfl⟩
  obtain⟨a,b,e⟩:=key;rw[e];refine⟨h1,h2,by rw[Ziw];exact h3,h4,h5,by rw[Zl2];exact h6,by rw[Ziw];exact h7,Zq1 (Zn1 n f.type T h8 a), ?_⟩;rw[Ziw];exact ZnR (λt x k=>Zq1 k) _ _ _ (fitTs_ok n fs _ Ts h9 b)
end
end
end Go.Ev
end
section
namespace Go.Ev
section
variable{L:Lk}{P:yg}{o:ym}{ts:yL TD}{O:Type}
def ZvX(r:ZzE):yO Bool:=
 match r with
 |some ([],.p (.bool b),[])=>some b
 |_=>none
theorem ZuJ{t:yb}{x y:Dv}{b:Bool}(h:Zka P t x y []=some ([],b,[]))(yJ:yL Hint):Zka P t x y yJ=some ([],b,yJ):=by
 unfold Zka at h ⊢
 split at h <;> first
  |(simp only[yq,yab,and_true,true_and] at h;subst h;rfl)
  |cases h
  |(split at h <;> first|(rename_i e;cases e)|cases h)
theorem ZC8{op:BinOp}{t:yb}{x y:Dv}{b:Bool}(h:ZvX (Zfg P op t x y [])=some b)(yJ:yL Hint):Zfg P op t x y yJ=some ([],.p (.bool b),yJ):=by
 have h':Zfg P op t x y []=some ([],.p (.bool b),[]):=by
  unfold ZvX at h;split at h
  ·rename_i e;cases h;exact e
  ·cases h
 clear h;unfold Zfg at h' ⊢;split at h'
 ·split at h'
  ·cases op <;> simp[Vz] at h'
  ·split at h'
   ·rename_i k a k' b' _ hk;simp only[hk,if_true];rename_i hs;simp only[hs,if_false];cases op <;> simp only[XC,Zeg,yq,yab,Dv.p.injEq,Pl.bool.injEq,and_true,true_and,reduceCtorEq] at h' ⊢ <;> first|exact h'|skip
    all_goals first|(cases h';done)|(cases h';simp;done)|(simp[ZqW] at h';done)
   ·cases h'
 ·cases op <;> simp only[yq,yab,Dv.p.injEq,Pl.bool.injEq,and_true,true_and,reduceCtorEq] at h' ⊢ <;> exact h'
 ·rename_i hx hy;cases op <;> first|cases h'|skip
  ·obtain⟨q,h1,h2⟩:=Zg h';simp only[yab,Dv.p.injEq,Pl.bool.injEq] at h2;obtain⟨q1,q2,q3⟩:=q;obtain⟨rfl,rfl,rfl⟩:=h2;simp only[ZuJ h1 yJ,yaf]
  ·obtain⟨q,h1,h2⟩:=Zg h';simp only[yab,Dv.p.injEq,Pl.bool.injEq] at h2;obtain⟨q1,q2,q3⟩:=q;obtain⟨rfl,rfl,rfl⟩:=h2;simp only[ZuJ h1 yJ,yaf]
def TD.val:TD->yO (Σ t:Ty,t.den)
 |.p (.v t x)=>some ⟨t,x⟩
 |_=>none
theorem ZvY{x:TD}{q:Σ t:Ty,t.den}(h:x.val=some q):x.er L=.p (q.1.enc q.2):=by
 unfold TD.val at h;split at h
 ·cases h;rfl
 ·cases h
def ZJg(P:yg)(t:yb):Bool:=
 match P.underlying t with
 |some (.array _ _)=>true
 |some (.struct _)=>true
 |_=>false
def eqN(P:yg)(op:BinOp)(t:yb)(x y:TD)(K:TD->yL Hint->yO O):yO O:=
 match x.val,y.val with
 |some a,some b=>(Ty.cast b.1 a.1 b.2).bind λz=>
  if ZJg P t&&(a.1.isAgg&&(a.1.flat&&(ZxX P 20 t a.1&&decide (P.eqGuardType P.depth t=false)))) then
   match op with
   |.eql=>K (.p (.v .bool (@decide (a.2=z) (Ty.deq a.1 a.2 z)))) [.b (@decide (a.2=z) (Ty.deq a.1 a.2 z))]
   |.neq=>K (.p (.v .bool (!(@decide (a.2=z) (Ty.deq a.1 a.2 z))))) [.b (@decide (a.2=z) (Ty.deq a.1 a.2 z))]
   |_=>none
  else none
 |_,_=>none
theorem Zn2{t:yb}{a:Σ t:Ty,t.den}{z:a.1.den}(h1:ZJg P t=true)(h2:a.1.isAgg=true)(h3:a.1.flat=true)(h4:ZxX P 20 t a.1=true)(h5:P.eqGuardType P.depth t=false)(yJ:yL Hint):
 ∃C,AllP C/\Zka P t (.p (a.1.enc a.2)) (.p (a.1.enc z)) (.b (@decide (a.2=z) (Ty.deq a.1 a.2 z))::yJ)=some (C,@decide (a.2=z) (Ty.deq a.1 a.2 z),yJ)/\C=[fitP P 20 t (a.1.enc a.2),fitP P 20 t (a.1.enc z),(@decide (a.2=z) (Ty.deq a.1 a.2 z)=true↔a.1.enc a.2=a.1.enc z)]:=by
 have f1:=Zn1 20 t a.1 h4 a.2;have f2:=Zn1 20 t a.1 h4 z
 have f3:(@decide (a.2=z) (Ty.deq a.1 a.2 z)=true↔a.1.enc a.2=a.1.enc z):=by
  rw[@decide_eq_true_iff _ (Ty.deq a.1 a.2 z)];exact⟨λe=>by rw[e],λe=>Zn0 a.1 _ _ h3 e⟩
 refine⟨[fitP P 20 t (a.1.enc a.2),fitP P 20 t (a.1.enc z),(@decide (a.2=z) (Ty.deq a.1 a.2 z)=true↔a.1.enc a.2=a.1.enc z)],⟨f1,f2,f3,ytt⟩, ?_,rfl⟩;generalize @decide (a.2=z) (Ty.deq a.1 a.2 z)=β at f3;generalize a.1.enc a.2=p at f1 f3 ⊢;generalize a.1.enc z=q at f2 f3 ⊢;clear f3;unfold ZJg at h1;unfold fitP at f1 f2;unfold Zka;split at h1
 ·rename_i m e hu;rw[hu] at f1 f2 ⊢;cases p <;> first|exact f1.elim|skip
  cases q <;> first|exact f2.elim|skip
  dsimp only;rw[yW h5]
 ·rename_i m hu;rw[hu] at f1 f2 ⊢;cases p <;> first|exact f1.elim|skip
  cases q <;> first|exact f2.elim|skip
  dsimp only;rw[yW h5]
 ·cases h1
theorem ZuK{t:yb}{x y:Pl}(hx:x.isAgg=true)(op:BinOp)(hs:yL Hint)(h:op=.eql\/op=.neq):Zfg P op t (.p x) (.p y) hs=(Zka P t (.p x) (.p y) hs).map λr=>(r.1,.p (.bool (if op=.eql then r.2.1 else !r.2.1)),r.2.2):=by
 cases x <;> first|cases hx|skip
 all_goals (unfold Zfg;rcases h with rfl|rfl <;> rfl)
theorem ZEY{op:BinOp}{t:yb}{x y:TD}{K:TD->yL Hint->yO O}{out:O}(h:eqN P op t x y K=some out):∃d hs C,K d hs=some out/\AllP C/\∀yJ,Zfg P op t (x.er L) (y.er L) (hs++yJ)=some (C,d.er L,yJ):=by
 unfold eqN at h;split at h
 ·rename_i a b ha hb;obtain⟨z,h1,h⟩:=yf.1 h;obtain⟨h2,h⟩:=Zc h;simp only[yi,yP] at h2;obtain⟨g1,g2,g3,g4,g5⟩:=h2
  have ey:y.er L=.p (a.1.enc z):=by
   obtain⟨e,rfl⟩:=QN h1;rw[ZvY hb];cases a;cases b;cases e;rfl
  have ga:(a.1.enc a.2).isAgg=true:=by rw[Zl2];exact g2
  split at h
  ·obtain⟨C,c1,c2,_⟩:=Zn2 (P:=P) (z:=z) g1 g2 g3 g4 g5 [];refine⟨_,_,[fitP P 20 t (a.1.enc a.2),fitP P 20 t (a.1.enc z),(@decide (a.2=z) (Ty.deq a.1 a.2 z)=true↔a.1.enc a.2=a.1.enc z)],h, ?_,λyJ=> ?_⟩
   ·obtain⟨C,c1,_,rfl⟩:=Zn2 (P:=P) (z:=z) g1 g2 g3 g4 g5 [];exact c1
   ·obtain⟨C,_,c2,rfl⟩:=Zn2 (P:=P) (z:=z) g1 g2 g3 g4 g5 yJ;rw[ZvY ha,ey,ZuK ga _ _ (.inl rfl),yae,yy,c2];rfl
  ·refine⟨_,_,[fitP P 20 t (a.1.enc a.2),fitP P 20 t (a.1.enc z),(@decide (a.2=z) (Ty.deq a.1 a.2 z)=true↔a.1.enc a.2=a.1.enc z)],h, ?_,λyJ=> ?_⟩
   ·obtain⟨C,c1,_,rfl⟩:=Zn2 (P:=P) (z:=z) g1 g2 g3 g4 g5 [];exact c1
   ·obtain⟨C,_,c2,rfl⟩:=Zn2 (P:=P) (z:=z) g1 g2 g3 g4 g5 yJ;rw[ZvY ha,ey,ZuK ga _ _ (.inr rfl),yae,yy,c2];rfl
  ·cases h
 ·cases h
def ZJh(L:Lk)(x y:TD):yO Bool:=
 match y with
 |.p (.sl (some false) _ [])=>match x.row L with
  |some ⟨none,_,l⟩=>some l.isEmpty
  |_=>none
 |_=>none
theorem ZHA{x y:TD}{b:Bool}(h:ZJh L x y=some b):∃s xs s',(x.er L=.p (.sl none s xs)\/∃id,x.er L=.own id none s xs)/\y.er L=.p (.sl (some false) s' [])/\xs.isEmpty=b:=by
 unfold ZJh at h;split at h
 ·split at h
  ·rename_i T q t l hr;cases h;refine⟨t.size,l.map t.enc,T.size, ?_,rfl,by cases l <;> rfl⟩;rcases Zjt hr with h|⟨id,h⟩
   ·exact .inl h
   ·exact .inr ⟨id,h⟩
  ·cases h
 ·cases h
def ZKD(P:yg)(op:BinOp)(t:yb)(b:Bool)(K:TD->yL Hint->yO O):yO O:=
 match P.underlying t with
 |some (.slice _)=>if b=true then none else match op with
  |.eql=>K (.p (.v .bool false)) [.bare]
  |.neq=>K (.p (.v .bool true)) [.bare]
  |_=>none
 |_=>none
def ZJi(L:Lk)(P:yg)(op:BinOp)(t:yb)(x y:TD)(K:TD->yL Hint->yO O):yO O:=
 match x.num,y.num with
 |some a,some b=>if ZvE op then(shN op a b).bind λz=>if ZzZ b=true then K (.p z) [.raw] else none else ZzY op a b K
 |_,_=>match ZvX (Zfg P op t (x.er L) (y.er L) []) with
  |some b=>K (.p (.v .bool b)) []
  |none=>match ZJh L x y with
   |some b=>ZKD P op t b K
   |none=>eqN P op t x y K
theorem ZC9{op:BinOp}{t:yb}{x y:TD}{K:TD->yL Hint->yO O}{out:O}(h:ZJi L P op t x y K=some out):∃d hs C,K d hs=some out/\AllP C/\∀yJ,Zfg P op t (x.er L) (y.er L) (hs++yJ)=some (C,d.er L,yJ):=by
 unfold ZJi at h;split at h
 ·rename_i a b ha hb;rw[ZfG ha,ZfG hb];split at h
  ·rename_i hsh;obtain⟨z,h1,h⟩:=yf.1 h;obtain⟨h2,h⟩:=Zc h;refine⟨_,_,[0<=b.n],h,⟨Zz0 h2,ytt⟩,λyJ=> ?_⟩;unfold Zfg;dsimp only;rw[yW hsh];exact ZJf h1 yJ
  ·rename_i hsh;obtain⟨hk,d,hs,C,h1,h2,h3⟩:=ZxW h;refine⟨d,hs,C,h1,h2,λyJ=> ?_⟩;unfold Zfg;dsimp only;rw[yX hsh,yW hk];exact h3 yJ
 ·split at h
  ·rename_i b hb;exact⟨_,_,[],h,zY,ZC8 hb⟩
  ·split at h
   ·rename_i b hb;obtain⟨s,xs,s',h1,h2,h3⟩:=ZHA hb;unfold ZKD at h;split at h
    ·rename_i e hu;split at h
     ·cases h
     ·rename_i hne;have hxs:xs≠[]:=by rintro rfl;exact hne (by rw[<-h3];rfl)
      split at h
      ·refine⟨_,_,[xs≠[]],h,⟨hxs,ytt⟩,λyJ=> ?_⟩;unfold Zfg;rcases h1 with h1|⟨id,h1⟩ <;> (rw[h1,h2];dsimp only;unfold Zka;rw[hu];rfl)
      ·refine⟨_,_,[xs≠[]],h,⟨hxs,ytt⟩,λyJ=> ?_⟩;unfold Zfg;rcases h1 with h1|⟨id,h1⟩ <;> (rw[h1,h2];dsimp only;unfold Zka;rw[hu];rfl)
      ·cases h
    ·cases h
   ·exact ZEY h
def ZvZ(k:IntKind):Num->yO TP
 |.u8 b=>match k with
  |.u8=>some (.v .u8 b)
  |.u32=>some (.v .u32 (ybv b.toNat))
  |.u64=>some (.v .u64 (yai b.toNat))
  |.i64=>some (.v (.int .i64) (b.toNat:Int))
  |_=>none
 |.u32 b=>match k with
  |.u32=>some (.v .u32 b)
  |.u64=>some (.v .u64 (yai b.toNat))
  |.i64=>some (.v (.int .i64) (b.toNat:Int))
  |_=>none
 |.u64 b=>match k with
  |.u64=>some (.v .u64 b)
  |_=>none
 |.i _ _=>none
theorem Zz1{k:IntKind}{a:Num}{z:TP}(h:ZvZ k a=some z):Qk k a.n/\z.pe=.int k a.n:=by
 unfold ZvZ at h;split at h
 ·rename_i b;have:=b.toNat_lt;split at h <;> first|cases h|skip
  all_goals
   refine⟨?_, ?_⟩
   ·simp only[Qk,IntKind.min,IntKind.max,IntKind.signed,IntKind.bits,Num.n];constructor <;> simp<;> omega
   ·simp only[TP.pe,Ty.enc,Num.n,ycr,yax]
    try (congr 2;omega)
 ·rename_i b;have:=b.toNat_lt;split at h <;> first|cases h|skip
  all_goals
   refine⟨?_, ?_⟩
   ·simp only[Qk,IntKind.min,IntKind.max,IntKind.signed,IntKind.bits,Num.n];constructor <;> simp<;> omega
   ·simp only[TP.pe,Ty.enc,Num.n,ycr,yax]
    try (congr 2;omega)
 ·rename_i b;have:=b.toNat_lt;split at h <;> first|cases h|skip
  refine⟨?_,rfl⟩;simp only[Qk,IntKind.min,IntKind.max,IntKind.signed,IntKind.bits,Num.n];constructor <;> simp<;> omega
 ·cases h
def V1(l:yL yB):ByteArray:=⟨l.toArray⟩
theorem ZxY(l:yL yB):l.map (Ty.enc .u8)=(V1 l).data.toList.map λx=>.int .u8 (x.toNat:Int):=rfl
def ZKE(P:yg)(e:yb)(K:TD->yL Hint->yO O)(r:Row):yO O:=
 (Ty.castL r.t .u8 r.l).bind λl=>match P.underlying e with
   |some (.int .u8)=>K (.p (.v .str (V1 l))) [.el (.str (V1 l))]
   |_=>none
def ZJj:TD->yO ByteArray
 |.p (.v t s)=>match t with
  |.str=>some s
  |_=>none
 |_=>none
theorem ZHB{L:Lk}{x:TD}{b:ByteArray}(h:ZJj x=some b):x.er L=.p (.str b):=by
 unfold ZJj at h;split at h
 ·split at h
  ·cases h;rfl
  ·cases h
 ·cases h
def ZEZ(L:Lk)(P:yg)(src dst:yb)(K:TD->yL Hint->yO O)(x:TD):yO O:=
 match P.underlying src,P.underlying dst with
 |some _,some (.int k)=>x.num.bind λa=>match ZvZ k a with
  |some z=>K (.p z) [.bare]
  |none=>K (.p (ZHl k a.n)) [.raw]
 |some (.slice e),some .string=>(x.row L).bind (ZKE P e K)
 |some .string,some (.slice e)=>(ZJj x).bind λb=>match P.underlying e with
  |some (.int .u8)=>if decide (b.size<=maxLen)=true then K (.p (.sl (some true) .u8 b.data.toList)) [] else none
  |_=>none
 |_,_=>none
theorem Zz2{src dst:yb}{x:yn}{K:TD->yL Hint->yO O}{xd:TD}{out:O}(ho:o.op=.convert src dst x)(hx:arT P ts src x=some xd)(h:ZEZ L P src dst K xd=some out):∃d hs,K d hs=some out/\GoodN L P o ts d hs:=by
 have hv:=Zv (L:=L) hx;unfold ZEZ at h;split at h
 ·rename_i q k hq hk;obtain⟨a,h1,h⟩:=yf.1 h;rw[ZfG h1] at hv;split at h
  ·rename_i z hz;obtain⟨c1,c2⟩:=Zz1 hz;refine⟨_,_,h,[Qk k a.n],⟨c1,ytt⟩,λyJ=> ?_⟩;unfold evN;rw[ho];dsimp only;rw[hq,hk,hv,TD.er,c2];rfl
  ·refine⟨_,_,h,[],zY,λyJ=> ?_⟩;unfold evN;rw[ho];dsimp only;rw[hq,hk,hv,TD.er,ZBt];rfl
 ·rename_i e hq hk;obtain⟨r,h1,h⟩:=yf.1 h;unfold ZKE at h;obtain⟨l,h2,h9⟩:=yf.1 h;split at h9
  ·rename_i he;obtain⟨nn,rt,rl⟩:=r;obtain⟨e1,h2⟩:=ZR h2;dsimp only at e1 h2;subst e1;subst h2;refine⟨_,_,h9,[l.map (Ty.enc .u8)=(V1 l).data.toList.map λx=>.int .u8 (x.toNat:Int)],⟨ZxY l,ytt⟩,λyJ=> ?_⟩;unfold evN;rw[ho];dsimp only;rcases Zjt h1 with e2|⟨id,e2⟩
   ·rw[hq,hk,hv,e2];dsimp only;rw[yae,yy,he];dsimp only;rw[yW (show Ty.u8.size=1 from rfl)]
    rfl
   ·rw[hq,hk,hv,e2];dsimp only;rw[yae,yy,he];dsimp only;rw[yW (show Ty.u8.size=1 from rfl)]
    rfl
  ·cases h9
 ·rename_i e hq hk;obtain⟨b,h1,h⟩:=yf.1 h;split at h
  ·rename_i he;obtain⟨h2,h⟩:=Zc h;refine⟨_,_,h,[b.size<=maxLen],⟨yF h2,ytt⟩,λyJ=> ?_⟩;unfold evN;rw[ho];dsimp only;rw[hq,hk,hv,ZHB h1];dsimp only;rw[he];rfl
  ·cases h
 ·cases h
def Zr2(P:yg)(ts:yL TD)(f:Nat->yb):yL (Nat×yn)->yO (yL (Nat×TD))
 |[]=>some []
 |q::r=>match arT P ts (f q.1) q.2,Zr2 P ts f r with
  |some d,some l=>some ((q.1,d)::l)
  |_,_=>none
theorem Zl4{f:Nat->yb}:∀{parts:yL (Nat×yn)}{l:yL (Nat×TD)},Zr2 P ts f parts=some l->Zdz P (TD.ers L ts) f parts=l.map λq=>(q.1,q.2.er L)
 |[],l,h=>by cases h;rfl
 |q::r,l,h=>by
  simp only[Zr2] at h;split at h
  ·rename_i d l' h1 h2;cases h;have:=Zl4 h2;simp only[Zdz,yah] at this ⊢;rw[this,Zv h1]
  ·cases h
def Zn3(L:Lk):yL TD->yL (Nat×TD)->yO (yL TD)
 |ds,[]=>some ds
 |ds,(i,d)::r=>match ds[i]? with
  |some old=>if(old.er L).size=(d.er L).size then Zn3 L (ds.set i d) r else none
  |none=>none
theorem Zna:∀{l:yL (Nat×TD)}{ds es:yL TD},Zn3 L ds l=some es->Ze2 (TD.ers L ds) (l.map λq=>(q.1,q.2.er L))=some (TD.ers L es)
 |[],ds,es,h=>by cases h;rfl
 |(i,d)::r,ds,es,h=>by
  simp only[Zn3] at h;split at h
  ·rename_i old h1;split at h
   ·rename_i h2;have:=Zna h;simp only[yah,Ze2,ZBd];rw[QW h1];dsimp only;rw[yW h2];rw[show(TD.ers L ds).set i (d.er L)=TD.ers L (ds.set i d) by rw[ZP,ZP,ybm]];exact this
   ·cases h
  ·cases h
def Zr3(P:yg):yL yb->yL Pl->yO (yL TP)
 |[],[]=>some []
 |t::r,z::q=>match ZvW P t z,Zr3 P r q with
  |some a,some b=>some (a::b)
  |_,_=>none
 |_,_=>none
theorem Zpe:∀{l:yL yb}{zs:yL Pl}{r:yL TP},Zr3 P l zs=some r->TP.pes r=zs
 |[],[],r,h=>by cases h;rfl
 |[],_::_,r,h=>by cases h
 |_::_,[],r,h=>by cases h
 |t::l,z::zs,r,h=>by
  simp only[Zr3] at h;split at h
  ·rename_i a b h1 h2;cases h;rw[TP.pes,Zpd h1,Zpe h2]
  ·cases h
def Zhz(L:Lk):yL TD->yO (yL TP)
 |[]=>some []
 |d::r=>match d.plain L,Zhz L r with
  |some a,some b=>some (a::b)
  |_,_=>none
theorem Zr4{x:TD}(h:x.plain L=none):(x.er L).plain=none:=by
 cases x <;> first|rfl|cases h
theorem Znb:∀(ds:yL TD),Zf7 (TD.ers L ds)=(Zhz L ds).map TP.pes
 |[]=>rfl
 |d::r=>by
  simp only[TD.ers,Zf7,Zhz];rw[Znb r]
  cases h:d.plain L with
  |none=>rw[Zr4 h];cases Zhz L r <;> rfl
  |some a=>
   rw[ZuI h];cases Zhz L r <;> rfl
def Zz3(L:Lk)(P:yg)(t:yb)(ds:yL TD):TD:=
 match Zhz L ds with
 |some l=>.p (ZHo P t l)
 |none=>.agg ds
theorem ZDa(t:yb)(ds:yL TD):(Zz3 L P t ds).er L=Zxo (TD.ers L ds):=by
 unfold Zz3 Zxo;rw[Znb]
 cases Zhz L ds with
 |none=>rfl
 |some l=>simp only[TD.er,ZBu,yaf]
theorem ZE0(l:yL TP):TD.ers L (l.map .p)=(TP.pes l).map .p:=by
 rw[ZP,ZaS,ybe,ybe];rfl
def Zz4(L:Lk)(P:yg)(ts:yL TD)(t:yb)(parts:yL (Nat×yn))(K:TD->yL Hint->yO O):yO O:=
 match P.underlying t,zeroD P t with
 |some (.struct fs),.p (.agg zs)=>(Zr3 P (fs.toList.map (·.type)) zs).bind λzt=>(Zr2 P ts (ZkL P t) parts).bind λps=>
  if(Zf8 (ps.map λq=>(q.1,q.2.er L))&&fs.size==zs.length&&(yp zs.length).all λi=>Zhn P fs i (Pl.sizes (zs.take i)) ((zs.getD i default).size) ((zs.getD i default).isAgg))=true then
   (Zn3 L (zt.map .p) ps).bind λds=>K (Zz3 L P t ds) [] else none
 |some (.array _ e),.p (.arr n s zs)=>(Zr3 P (yac zs.length e) zs).bind λzt=>(Zr2 P ts (ZkL P t) parts).bind λps=>
  if(Zf8 (ps.map λq=>(q.1,q.2.er L))&&P.cellsOf e=s&&(P.info? e).isSome)=true then
   (Zn3 L (zt.map .p) ps).bind λds=>match Zhz L ds with
     |some l=>K (.p (ZHp P t n s l)) []
     |none=>K (.arr n s ds) [] else none
 |_,_=>none
theorem ZxZ{t:yb}{parts:Array (Nat×yn)}{K:TD->yL Hint->yO O}{out:O}(ho:o.op=.build t parts)(h:Zz4 L P ts t parts.toList K=some out):∃d hs,K d hs=some out/\GoodN L P o ts d hs:=by
 unfold Zz4 at h;split at h
 ·rename_i fs zs hu hz;obtain⟨zt,h1,h⟩:=yf.1 h;obtain⟨ps,h2,h⟩:=yf.1 h;obtain⟨h3,h⟩:=Zc h;obtain⟨ds,h4,h⟩:=yf.1 h;refine⟨_,_,h,[],zY,λyJ=> ?_⟩;simp only[yy];unfold evN;rw[ho];dsimp only;rw[hu,hz];dsimp only;rw[Zl4 h2,yW h3];have:=Zna h4;rw[ZE0,Zpe h1] at this;rw[this,ZDa];rfl
 ·rename_i m e n s zs hu hz;obtain⟨zt,h1,h⟩:=yf.1 h;obtain⟨ps,h2,h⟩:=yf.1 h;obtain⟨h3,h⟩:=Zc h;obtain⟨ds,h4,h⟩:=yf.1 h;have:=Zna h4;rw[ZE0,Zpe h1] at this;have pl:=Znb (L:=L) ds;split at h
  ·rename_i l hl;refine⟨_,_,h,[],zY,λyJ=> ?_⟩;simp only[yy];unfold evN;rw[ho];dsimp only;rw[hu,hz];dsimp only;rw[Zl4 h2,yW h3,this,Option.bind_some,pl,hl,TD.er,ZBv];rfl
  ·rename_i hl;refine⟨_,_,h,[],zY,λyJ=> ?_⟩;simp only[yy];unfold evN;rw[ho];dsimp only;rw[hu,hz];dsimp only;rw[Zl4 h2,yW h3,this,Option.bind_some,pl,hl];rfl
 ·cases h
def ZHC(L:Lk)(P:yg)(ts:yL TD)(e:yb)(T:Ty):yL (Nat×yn)->yO (yL T.den)
 |[]=>some []
 |q::r=>match (arT P ts e q.2).bind (TD.flat L) with
  |some x=>if x.pe.size=P.cellsOf e then ZmD (TP.to ZnT x T) (ZHC L P ts e T r) |>.map λp=>p.1::p.2 else none
  |none=>none
theorem ZBz{e:yb}{T:Ty}:∀{parts:yL (Nat×yn)}{l:yL T.den},ZHC L P ts e T parts=some l->
 ∃xs,Dv.flats (parts.map λq=>argD P (TD.ers L ts) e q.2)=some xs/\xs.all (λx=>x.size==P.cellsOf e)=true/\xs.map Pl.soft=l.map T.enc
 |[],l,h=>by cases h;exact⟨[],rfl,rfl,rfl⟩
 |q::r,l,h=>by
  simp only[ZHC] at h;split at h
  ·rename_i x hx;obtain⟨d,h1,h2⟩:=yf.1 hx;split at h
   ·rename_i hs;obtain⟨p,h3,rfl⟩:=Zg h;obtain⟨h4,h5⟩:=ZdF h3;obtain⟨xs,e1,e2,e3⟩:=ZBz h5;refine⟨x.pe::xs, ?_, ?_, ?_⟩
    ·simp only[yah,Dv.flats];rw[Zv h1,Zr1 h2,e1]
    ·simp only[List.all_cons,yi,yT];exact⟨hs,e2⟩
    ·rw[yah,Zjs x T _ h4,e3,yah]
   ·cases h
  ·cases h
def ZDb(L:Lk)(P:yg)(ts:yL TD)(t:yb)(len:Nat)(parts:yL (Nat×yn))(K:(T:Ty)->yL T.den->yb->yO O):yO O:=
 match P.underlying t with
 |some (.slice e)=>(Zkr P tyD e).bind λT=>(P.info? e).bind λi=>(ZHC L P ts e T parts).bind λl=>
  if(parts.map (·.1)==yp len)&&(zOk i&&i.size !=0&&decide (len*i.size<=16777216))&&(decide (i.size=T.size)&&decide (P.cellsOf e=i.size)) then K T l e else none
 |_=>none
theorem Zl5{t:yb}{len:Nat}{parts:yL (Nat×yn)}{K:(T:Ty)->yL T.den->yb->yO O}{out:O}(h:ZDb L P ts t len parts K=some out):
 ∃e T l i xs,K T l e=some out/\P.underlying t=some (.slice e)/\P.info? e=some i/\WL P (TD.ers L ts) e (P.cellsOf e) len parts=some xs/\(zOk i&&i.size !=0&&decide (len*i.size<=16777216))=true/\i.size=T.size/\xs.map Pl.soft=l.map T.enc:=by
 unfold ZDb at h;split at h
 ·rename_i e hu;obtain⟨T,h1,h⟩:=yf.1 h;obtain⟨i,h2,h⟩:=yf.1 h;obtain⟨l,h3,h⟩:=yf.1 h;obtain⟨h4,h⟩:=Zc h;simp only[yi,yP] at h4;obtain⟨xs,e1,e2,e3⟩:=ZBz h3;refine⟨e,T,l,i,xs,h,hu,h2, ?_, ?_,h4.2.1,e3⟩
  ·unfold WL;rw[yW h4.1.1,e1];dsimp only;rw[yW e2]
  ·simp only[yi,yP];exact h4.1.2
 ·cases h
def ZJk(L:Lk)(P:yg)(t:yb)(K:TD->yL Hint->yO O)(x:TD):yO O:=
 match P.underlying t with
 |some (.slice _)=>match x with
  |.view _ _ _ _ n=>K (.p (.v (.int .i64) (n:Int))) []
  |.rv _ _ _ _ n=>K (.p (.v (.int .i64) (n:Int))) []
  |x=>(x.row L).bind λr=>K (.p (.v (.int .i64) (r.l.length:Int))) []
 |some (.array n _)=>K (.p (.v (.int .i64) (n:Int))) []
 |some .string=>match x with
  |.p x=>x.strB.bind λs=>K (.p (.v (.int .i64) (s.size:Int))) []
  |_=>none
 |_=>none
theorem ZDc{t:yb}{x:yn}{c:Call}{K:TD->yL Hint->yO O}{xd:TD}{out:O}(ho:o.op=.call c)(hc:c.callee=.builtin .len)(ha:c.args.toList=[x])(ht:c.argTypes.toList=[t])
 (hx:arT P ts t x=some xd) (h:ZJk L P t K xd=some out):∃d hs,K d hs=some out/\GoodN L P o ts d hs:=by
 have hv:=Zv (L:=L) hx;unfold ZJk at h;split at h
 ·rename_i e hu;split at h
  ·refine⟨_,_,h,[],zY,λyJ=> ?_⟩;simp only[yy];unfold evN;rw[ho];dsimp only;rw[hc];dsimp only;rw[ha,ht];dsimp only;rw[hu,hv];rfl
  ·refine⟨_,_,h,[],zY,λyJ=> ?_⟩;simp only[yy];unfold evN;rw[ho];dsimp only;rw[hc];dsimp only;rw[ha,ht];dsimp only;rw[hu,hv];rfl
  ·obtain⟨r,h1,h⟩:=yf.1 h;refine⟨_,_,h,[],zY,λyJ=> ?_⟩;simp only[yy];unfold evN;rw[ho];dsimp only;rw[hc];dsimp only;rw[ha,ht];dsimp only;rcases Zjt h1 with he|⟨id,he⟩
   ·rw[hu,hv,he];dsimp only;rw[yaa];rfl
   ·rw[hu,hv,he];dsimp only;rw[yaa];rfl
 ·rename_i n e hu;refine⟨_,_,h,[],zY,λyJ=> ?_⟩;simp only[yy];unfold evN;rw[ho];dsimp only;rw[hc];dsimp only;rw[ha,ht];dsimp only;rw[hu];rfl
 ·rename_i hu;split at h
  ·obtain⟨s,h1,h⟩:=yf.1 h;refine⟨_,_,h,[],zY,λyJ=> ?_⟩;simp only[yy];unfold evN;rw[ho];dsimp only;rw[hc];dsimp only;rw[ha,ht];dsimp only;rw[hu,hv,TD.er,ZBx h1];rfl
  ·cases h
 ·cases h
def ZtI(L:Lk)(P:yg)(T:Ty)(u:yb)(x:TD):yO (yL T.den):=
 match P.underlying u with
 |some (.slice _)=>(x.row L).bind λr=>Ty.castL r.t T r.l
 |some .string=>match x,T with
  |.p (.v .str s),.u8=>some (Zju s)
  |_,_=>none
 |_=>none
theorem ZhA{T:Ty}{u:yb}{x:TD}{l:yL T.den}(h:ZtI L P T u x=some l):srcOf P T.size u (x.er L)=some (l.map T.enc):=by
 unfold ZtI at h;split at h
 ·rename_i e hu;obtain⟨r,h1,h⟩:=yf.1 h;obtain⟨e,h2⟩:=ZR h;obtain⟨nn,t,l0⟩:=r;dsimp only at e h2 h1;subst e;subst h2;unfold srcOf;rcases Zjt h1 with he|⟨id,he⟩
  ·rw[hu,he];dsimp only;rw[yW (.inl rfl)]
  ·rw[hu,he];dsimp only;rw[yW rfl]
 ·rename_i hu;split at h
  ·rename_i s;cases h;unfold srcOf;rw[hu];rfl
  ·cases h
 ·cases h
def TD.boolT:TD->yO Bool
 |.p x=>x.boolB
 |_=>none
theorem Zix{x:TD}{b:Bool}(h:x.boolT=some b):x.er L=.p (.bool b):=by
 unfold TD.boolT at h;split at h
 ·rw[TD.er,ZEM h]
 ·cases h
def TD.inner:TD->yO TP
 |.p x=>some x
 |_=>none
def ZE1(P:yg)(ts:yL TD):yL yn->yO (yL TD)
 |[]=>some []
 |x::r=>match arT P ts 0 x,ZE1 P ts r with
  |some a,some b=>some (a::b)
  |_,_=>none
theorem Zv0:∀{l:yL yn}{ds:yL TD},ZE1 P ts l=some ds->l.map (argD P (TD.ers L ts) 0)=TD.ers L ds
 |[],ds,h=>by cases h;rfl
 |x::l,ds,h=>by
  simp only[ZE1] at h;split at h
  ·rename_i a b h1 h2;cases h;rw[yah,Zv h1,Zv0 h2];rfl
  ·cases h
def ZID(P:yg)(t:yb)(K:TD->yL Hint->yO O):TD->yO O
 |.elem x=>if decide (P.cellsOf t=x.pe.size)&&(WT P t==x.pe.isAgg&&((P.underlying t).isSome&&(P.info? t).isSome)) then K (.p x) [] else none
 |_=>none
def ZIE(L:Lk)(P:yg)(ts:yL TD)(t u:yb)(x y:yn)(K:TD->yL Hint->yO O):yO O:=
 match P.underlying t,arT P ts t x with
 |some (.slice e),some (.p (.sl (some false) _ []))=>(P.info? e).bind λi=>(Zkr P tyD e).bind λT=>(arT P ts u y).bind λyd=>(ZtI L P T u yd).bind λl=>
  if(zOk i&&i.size !=0)&&(decide (P.cellsOf e=T.size)&&decide (i.size=T.size)) then if lenB l.length i.bytes=true then K (.p (.sl none T l)) [.snap] else none else none
 |_,_=>none
def Zv1(P:yg)(t:yb)(l h m:yO Int)(K:TD->yL Hint->yO O):TD->yO O
 |.rv _ _ _ _ n=>match P.underlying t with
  |some (.slice e)=>l.bind λl=>h.bind λh=>m.bind λm=>if(P.info? e).isSome=true then if(decide (0<=l)&&decide (l<=h)&&decide (h<=m)&&decide (m<=(n:Int)))=true then K .junk [] else none else none
  |_=>none
 |_=>none
theorem Zv2{t:yb}{x mx:yn}{lo hi:yO yn}{l h' m:yO Int}{K:TD->yL Hint->yO O}{xd:TD}{out:O}(ho:o.op=.slice t x lo hi (some mx))(hx:arT P ts t x=some xd)(hl:Zg8 P ts lo=some l)(hh:Zg8 P ts hi=some h')(hm:Zg8 P ts (some mx)=some m)
 (h:Zv1 P t l h' m K xd=some out):∃d hs,K d hs=some out/\GoodN L P o ts d hs:=by
 have hv:=Zv (L:=L) hx;have hl:=Zcf (L:=L) hl;have hh:=Zcf (L:=L) hh;have hm:=Zcf (L:=L) hm;unfold Zv1 at h;split at h
 ·rename_i id v s l0 n;split at h
  ·rename_i e hu;obtain⟨l2,q1,h⟩:=yf.1 h;obtain⟨h2,q2,h⟩:=yf.1 h;obtain⟨m2,q3,h⟩:=yf.1 h;subst q1;subst q2;subst q3;obtain⟨h3,h⟩:=Zc h;obtain⟨h4,h⟩:=Zc h;simp only[yi,yP] at h4;refine⟨_,_,h,[0<=l2,l2<=h2,h2<=m2,m2<=(n:Int)],⟨h4.1.1.1,h4.1.1.2,h4.1.2,h4.2,ytt⟩,λyJ=> ?_⟩;simp only[yy];unfold evN;rw[ho];dsimp only;rw[hu,hv,hl,hh,hm];dsimp only[TD.er];rw[yW h3]
  ·cases h
 ·cases h
def Zv3(P:yg)(t:yb)(K:TD->yL Hint->yO O)(r:Row):yO O:=
 match P.underlying t with
 |some (.array n e)=>if(n !=0)=true then if decide (n<=r.l.length)=true then K (.elem (.v (.arr n r.t) (r.l.take n))) [] else none else none
 |_=>none
theorem Zv4{t:yb}{x:yn}{K:TD->yL Hint->yO O}{xd:TD}{r:Row}{out:O}(ho:o.op=.sliceToArrayPointer t x)(hx:arT P ts 0 x=some xd)(hr:xd.row L=some r)
 (h:Zv3 P t K r=some out):∃d hs,K d hs=some out/\GoodN L P o ts d hs:=by
 have hv:=Zv (L:=L) hx;unfold Zv3 at h;split at h
 ·rename_i n e hu;obtain⟨h3,h⟩:=Zc h;obtain⟨h4,h⟩:=Zc h;have h4:=yF h4;refine⟨_,_,h,[n<=(r.l.map r.t.enc).length],⟨by rw[yaa];exact h4,ytt⟩,λyJ=> ?_⟩;simp only[yy];unfold evN;rw[ho];dsimp only;rcases Zjt hr with e2|⟨id,e2⟩
  ·rw[hu,hv,e2];dsimp only;rw[yW h3, <-List.map_take];rfl
  ·rw[hu,hv,e2];dsimp only;rw[yW h3, <-List.map_take];rfl
 ·cases h
def ZJl:Num->yO TP
 |.u8 b=>some (.v .u8 (255^^^b))
 |.u32 b=>some (.v .u32 (4294967295^^^b))
 |.u64 b=>some (.v .u64 (18446744073709551615^^^b))
 |.i _ _=>none
theorem ZHD{a:Num}{z:TP}(h:ZJl a=some z):a.k.signed=false/\z.pe=.int a.k (bits .xor a.k a.k.max a.n):=by
 unfold ZJl at h;split at h
 ·rename_i b;cases h;exact⟨rfl,congrArg (Pl.int .u8) (ZIC .xor 255 b).symm⟩
 ·rename_i b;cases h;exact⟨rfl,congrArg (Pl.int .u32) (ZEO .xor 4294967295 b).symm⟩
 ·rename_i b;cases h;exact⟨rfl,congrArg (Pl.int .u64) (ZET .xor 18446744073709551615 b).symm⟩
 ·cases h
def opN(L:Lk)(P:yg)(o:ym)(ts:yL TD)(K:TD->yL Hint->yO O):yO O:=
 match o.op with
 |.move x=>(arT P ts o.type x).bind λd=>K d [.raw]
 |.assign x=>(arT P ts o.type x).bind λd=>K d [.raw]
 |.pick c a b=>((arT P ts 0 c).bind TD.boolT).bind λt=>(arT P ts o.type a).bind λda=>(arT P ts o.type b).bind λdb=>if t=true then K da [.b true] else K db [.b false]
 |.nilCheck x=>match arT P ts 0 x with
  |some (.ref id p)=>K (.ref id p) []
  |some (.elem y)=>K (.elem y) []
  |some (.rref id v p)=>K (.rref id v p) []
  |some (.rp id p)=>K (.rp id p) []
  |some (.fn f c)=>K (.fn f c) []
  |_=>none
 |.binOp op t x y yt=>(arT P ts t x).bind λa=>(arT P ts yt y).bind λb=>ZJi L P op t a b K
 |.unOp .not _ x=>((arT P ts 0 x).bind TD.boolT).bind λt=>K (.p (.v .bool (!t))) []
 |.unOp .neg _ x=>((arT P ts 0 x).bind TD.num).bind λa=>K (.p (ZHl a.k (0 - a.n))) [.raw]
 |.unOp .xor _ x=>((arT P ts 0 x).bind TD.num).bind λa=>(ZJl a).bind λz=>K (.p z) []
 |.convert src dst x=>(arT P ts src x).bind (ZEZ L P src dst K)
 |.makeFunc (.func f) first captured=>if(first.isEmpty&&decide (f < big))=true then(ZE1 P ts captured.toList).bind λds=>K (.fn f ds) [] else if captured.isEmpty=true then(ZE1 P ts first.toList).bind λds=>K (.fn (f+big) ds) [] else none
 |.makeInterface t x=>match P.underlying t with
  |some (.interface _)=>none
  |some _=>(arT P ts t x).bind λd=>K (.iface t d) []
  |none=>none
 |.field t x i=>(arT P ts t x).bind (ZzV L P t i K)
 |.fieldAddr t x i=>(arT P ts 0 x).bind (Zm8 P t i K)
 |.indexAddr t x ix=>(arT P ts t x).bind λa=>(arT P ts 0 ix).bind λb=>b.inner.bind λip=>(ZrZ ip).bind λq=>Zm9 L P t q.2 K a
 |.index t x ix=>(arT P ts t x).bind λa=>a.inner.bind λap=>(arT P ts 0 ix).bind λb=>b.inner.bind λip=>(ZrZ ip).bind λq=>ZzW P t q.2 K ap
 |.slice t x lo hi none=>(arT P ts t x).bind λa=>(Zg8 P ts lo).bind λl=>(Zg8 P ts hi).bind λh=>ZzX L P t l h K a
 |.slice t x lo hi (some mx)=>(arT P ts t x).bind λa=>(Zg8 P ts lo).bind λl=>(Zg8 P ts hi).bind λh=>(Zg8 P ts (some mx)).bind λm=>Zv1 P t l h m K a
 |.sliceToArrayPointer t x=>(arT P ts 0 x).bind λa=>(a.row L).bind (Zv3 P t K)
 |.extract x i=>match arT P ts 0 x with
  |some (.tup ds)=>(ds[i]?).bind λd=>K d []
  |_=>none
 |.load t x=>(arT P ts 0 x).bind (ZID P t K)
 |.build t parts=>Zz4 L P ts t parts.toList K
 |.buildSlice t len parts=>ZDb L P ts t len parts.toList λT l _=>K (.p (.sl (some true) T l)) [.snap]
 |.call c=>match c.callee with
  |.builtin .len=>match c.args.toList,c.argTypes.toList with
   |[x],[t]=>(arT P ts t x).bind (ZJk L P t K)
   |_,_=>none
  |.builtin .append=>match c.args.toList,c.argTypes.toList with
   |[x,y],[t,u]=>ZIE L P ts t u x y K
   |_,_=>none
  |_=>none
 |_=>none
theorem XV{x:TD}{y:TP}(h:x.inner=some y):x=.p y:=by
 unfold TD.inner at h;split at h
 ·cases h;rfl
 ·cases h
theorem ZE2{K:TD->yL Hint->yO O}{out:O}(h:opN L P o ts K=some out):∃d hs,K d hs=some out/\GoodN L P o ts d hs:=by
 unfold opN at h;split at h
 ·rename_i x ho;obtain⟨d,h1,h⟩:=yf.1 h;refine⟨_,_,h,[],zY,λyJ=> ?_⟩;unfold evN;rw[ho];dsimp only;rw[Zv h1];rfl
 ·rename_i x ho;obtain⟨d,h1,h⟩:=yf.1 h;refine⟨_,_,h,[],zY,λyJ=> ?_⟩;unfold evN;rw[ho];dsimp only;rw[Zv h1];rfl
 ·rename_i c a b ho;obtain⟨t,h1,h⟩:=yf.1 h;obtain⟨cd,h0,h1⟩:=yf.1 h1;obtain⟨da,h2,h⟩:=yf.1 h;obtain⟨db,h3,h⟩:=yf.1 h;split at h
  ·rename_i ht;refine⟨_,_,h,[t=true],⟨ht,ytt⟩,λyJ=> ?_⟩;unfold evN;rw[ho];dsimp only;rw[Zv h0,Zix h1,Zv h2];rfl
  ·rename_i ht;refine⟨_,_,h,[t=false],⟨by simpa using ht,ytt⟩,λyJ=> ?_⟩;unfold evN;rw[ho];dsimp only;rw[Zv h0,Zix h1,Zv h3];rfl
 ·rename_i x ho;split at h
  all_goals first|cases h;done|skip
  all_goals
   rename_i hx;refine⟨_,_,h,[],zY,λyJ=> ?_⟩;simp only[yy];unfold evN;rw[ho];dsimp only;rw[Zv hx];rfl
 ·rename_i op t x y yt ho;obtain⟨a,h1,h⟩:=yf.1 h;obtain⟨b,h2,h⟩:=yf.1 h;obtain⟨d,hs,C,h3,h4,h5⟩:=ZC9 h;refine⟨d,hs,h3,C,h4,λyJ=> ?_⟩;unfold evN;rw[ho];dsimp only;rw[Zv h1,Zv h2];exact h5 yJ
 ·rename_i t x ho;obtain⟨b,h1,h⟩:=yf.1 h;obtain⟨xd,h0,h1⟩:=yf.1 h1;refine⟨_,_,h,[],zY,λyJ=> ?_⟩;simp only[yy];unfold evN;rw[ho];dsimp only;rw[Zv h0,Zix h1];rfl
 ·rename_i t x ho;obtain⟨a,h1,h⟩:=yf.1 h;obtain⟨xd,h0,h1⟩:=yf.1 h1;refine⟨_,_,h,[],zY,λyJ=> ?_⟩;unfold evN;rw[ho];dsimp only;rw[Zv h0,ZfG h1,TD.er,ZBt];rfl
 ·rename_i t x ho;obtain⟨a,h1,h⟩:=yf.1 h;obtain⟨xd,h0,h1⟩:=yf.1 h1;obtain⟨z,h2,h⟩:=yf.1 h;obtain⟨e1,e2⟩:=ZHD h2;refine⟨_,_,h,[],zY,λyJ=> ?_⟩;unfold evN;rw[ho];dsimp only;rw[Zv h0,ZfG h1,TD.er,e2];dsimp only;rw[e1];rfl
 ·rename_i src dst x ho;obtain⟨a,h1,h⟩:=yf.1 h;exact Zz2 ho h1 h
 ·rename_i f first captured ho
  split at h
  ·rename_i hf;obtain⟨ds,h1,h⟩:=yf.1 h;refine⟨_,_,h,[],zY,λyJ=> ?_⟩;simp only[yy];unfold evN;rw[ho];dsimp only;rw[yW hf,Zv0 h1];rfl
  ·rename_i hf;split at h
   ·rename_i hf2;obtain⟨ds,h1,h⟩:=yf.1 h;refine⟨_,_,h,[],zY,λyJ=> ?_⟩;simp only[yy];unfold evN;rw[ho];dsimp only;rw[yX hf,yW hf2,Zv0 h1];rfl
   ·cases h
 ·rename_i t x ho;split at h
  ·cases h
  ·rename_i u hu hne;obtain⟨d,h1,h⟩:=yf.1 h;refine⟨_,_,h,[],zY,λyJ=> ?_⟩;simp only[yy];unfold evN;rw[ho];dsimp only;rw[Zv h1,hne];split
   ·rename_i ms hh;exact absurd (Option.some.inj hh) (hu ms)
   ·rfl
   ·rename_i hh;cases hh
  ·cases h
 ·rename_i t x i ho;obtain⟨a,h1,h⟩:=yf.1 h;obtain⟨d,h2,h3⟩:=Zp1 h;refine⟨_,_,h2,[],zY,λyJ=> ?_⟩;simp only[yy];unfold evN;rw[ho];dsimp only;rw[Zv h1,h3];rfl
 ·rename_i t x i ho;obtain⟨a,h1,h⟩:=yf.1 h;exact ZqH ho h1 h
 ·rename_i t x ix ho;obtain⟨a,h1,h⟩:=yf.1 h;obtain⟨b,h2,h⟩:=yf.1 h;obtain⟨ip,h3,h⟩:=yf.1 h;obtain⟨q,h4,h⟩:=yf.1 h;rw[XV h3] at h2;exact ZqI (id:=.junk) ho h1 h2 h4 h
 ·rename_i t x ix ho;obtain⟨a,h1,h⟩:=yf.1 h;obtain⟨ap,h5,h⟩:=yf.1 h;obtain⟨b,h2,h⟩:=yf.1 h;obtain⟨ip,h3,h⟩:=yf.1 h;obtain⟨q,h4,h⟩:=yf.1 h;rw[XV h3] at h2;rw[XV h5] at h1;exact ZxU ho h1 h2 h4 h
 ·rename_i t x lo hi ho;obtain⟨a,h1,h⟩:=yf.1 h;obtain⟨l,h2,h⟩:=yf.1 h;obtain⟨r,h3,h⟩:=yf.1 h;exact ZxV ho h1 h2 h3 h
 ·rename_i t x lo hi mx ho;obtain⟨a,h1,h⟩:=yf.1 h;obtain⟨l,h2,h⟩:=yf.1 h;obtain⟨r,h3,h⟩:=yf.1 h;obtain⟨m,h4,h⟩:=yf.1 h;exact Zv2 ho h1 h2 h3 h4 h
 ·rename_i t x ho;obtain⟨a,h1,h⟩:=yf.1 h;obtain⟨r,h2,h⟩:=yf.1 h;exact Zv4 ho h1 h2 h
 ·rename_i x i ho;split at h
  ·rename_i ds hx;obtain⟨d,h1,h⟩:=yf.1 h;refine⟨_,_,h,[],zY,λyJ=> ?_⟩;simp only[yy];unfold evN;rw[ho];dsimp only;rw[Zv hx];dsimp only[TD.er];rw[QW h1];rfl
  ·cases h
 ·rename_i t x ho;obtain⟨a,h1,h⟩:=yf.1 h;unfold ZID at h;split at h
  ·obtain⟨h2,h⟩:=Zc h;refine⟨_,_,h,[],zY,λyJ=> ?_⟩;simp only[yy];unfold evN;rw[ho];dsimp only;rw[Zv h1];dsimp only[TD.er];rw[yW (by simpa[and_assoc] using h2)]
  ·cases h
 ·rename_i t parts ho;exact ZxZ ho h
 ·rename_i t len parts ho;obtain⟨e,T,l,i,xs,h1,hu,hi,hl,hz,hs,hx⟩:=Zl5 h;refine⟨_,_,h1,[],zY,λyJ=> ?_⟩;unfold evN;rw[ho];dsimp only;rw[yae,yy];dsimp only;rw[hu];dsimp only;rw[hi,hl];dsimp only;rw[yW (by simpa using hz),hx,hs];rfl
 ·rename_i c ho;split at h
  ·rename_i hc;split at h
   ·rename_i x t ha ht;obtain⟨a,h1,h⟩:=yf.1 h;exact ZDc ho hc ha ht h1 h
   ·cases h
  ·rename_i hc;split at h
   ·rename_i x y t u ha ht;unfold ZIE at h;split at h
    ·rename_i e T0 hu hx;obtain⟨i,h1,h⟩:=yf.1 h;obtain⟨T,h2,h⟩:=yf.1 h;obtain⟨yd,h3,h⟩:=yf.1 h;obtain⟨l,h4,h⟩:=yf.1 h;obtain⟨h5,h⟩:=Zc h;obtain⟨h6,h⟩:=Zc h;simp only[yi,yP] at h5;obtain⟨g1,g2⟩:=Zbc h6;refine⟨_,_,h,[(l.map T.enc).length*i.bytes<=bytesBound,(l.map T.enc).length<=maxLen],⟨by rw[yaa];exact g1,by rw[yaa];exact g2,ytt⟩,λyJ=> ?_⟩;unfold evN;rw[ho];dsimp only;rw[hc];dsimp only;rw[ha,ht,yae,yy];dsimp only;rw[hu,Zv hx,Zv h3,show(TD.p (TP.sl (some false) T0 [])).er L=Dv.p (.sl (some false) T0.size []) from rfl]
     dsimp only;rw[h1,h5.2.1,ZhA h4];dsimp only;rw[yW (by simpa using h5.1)];rfl
    ·cases h
   ·cases h
  ·cases h
 ·cases h
end
end Go.Ev
end
section
namespace Go.Ev
mutual
theorem Zn4{L M:Lk}(h:∀id t,Ym L id t none=Ym M id t none):∀(d:TD),d.er L=d.er M
 |.p _=>rfl
 |.elem _=>rfl
 |.ref _ _=>rfl
 |.own id nn t c=>by
  cases c with
  |none=>rw[TD.er,TD.er,h]
  |some _=>rfl
 |.view _ _ _ _ _=>rfl
 |.agg xs=>by rw[TD.er,TD.er,ers_cont h xs]
 |.arr _ _ xs=>by rw[TD.er,TD.er,ers_cont h xs]
 |.fn _ xs=>by rw[TD.er,TD.er,ers_cont h xs]
 |.iface _ x=>by rw[TD.er,TD.er,Zn4 h x]
 |.tup xs=>by rw[TD.er,TD.er,ers_cont h xs]
 |.mp _=>rfl
 |.rv _ _ _ _ _=>rfl
 |.rref _ _ _=>rfl
 |.rw _=>by simp only[TD.er,ZcX,h]
 |.rp _ _=>by simp only[TD.er,ZcX,h]
 |.junk=>rfl
theorem ers_cont{L M:Lk}(h:∀id t,Ym L id t none=Ym M id t none):∀(ds:yL TD),TD.ers L ds=TD.ers M ds
 |[]=>rfl
 |x::r=>by rw[TD.ers,TD.ers,Zn4 h x,ers_cont h r]
end
theorem ZE3{L M:Lk}(h:∀id t,Ym L id t none=Ym M id t none)(e:TEnt):e.er L=e.er M:=by
 cases e with
 |var d st=>rw[TEnt.er,TEnt.er,Zn4 h]
 |row v s st e d=>rw[TEnt.er,TEnt.er,Zn4 h]
 |rowM t np v st e pre mid post=>rw[TEnt.er,TEnt.er,Zn4 h]
 |_=>rfl
mutual
def TD.free(n:Nat):TD->Bool
 |.own id _ _ c=>c.isSome || id !=n
 |.rw id=>id !=n
 |.rp id _=>id !=n
 |.agg xs=>TD.frees n xs
 |.arr _ _ xs=>TD.frees n xs
 |.fn _ xs=>TD.frees n xs
 |.iface _ x=>TD.free n x
 |.tup xs=>TD.frees n xs
 |_=>true
def TD.frees(n:Nat):yL TD->Bool
 |[]=>true
 |x::r=>TD.free n x&&TD.frees n r
end
def TEnt.free(n:Nat):TEnt->Bool
 |.var d _=>d.free n
 |.row _ _ _ _ d=>d.free n
 |.rowM _ _ _ _ _ _ d _=>d.free n
 |_=>true
mutual
theorem Zcg{L M:Lk}{n:Nat}(h:∀id t,id≠n->Ym L id t none=Ym M id t none):∀(d:TD),d.free n=true->d.er L=d.er M
 |.p _,_=>rfl
 |.elem _,_=>rfl
 |.ref _ _,_=>rfl
 |.own id nn t c,hf=>by
  cases c with
  |none=>
   have:id≠n:=by simpa[TD.free] using hf
   rw[TD.er,TD.er,h id t this]
  |some _=>rfl
 |.view _ _ _ _ _,_=>rfl
 |.agg xs,hf=>by rw[TD.er,TD.er,ers_free h xs hf]
 |.arr _ _ xs,hf=>by rw[TD.er,TD.er,ers_free h xs hf]
 |.fn _ xs,hf=>by rw[TD.er,TD.er,ers_free h xs hf]
 |.iface _ x,hf=>by rw[TD.er,TD.er,Zcg h x hf]
 |.tup xs,hf=>by rw[TD.er,TD.er,ers_free h xs hf]
 |.mp _,_=>rfl
 |.rv _ _ _ _ _,_=>rfl
 |.rref _ _ _,_=>rfl
 |.rw id,hf=>by
  have:id≠n:=by simpa[TD.free] using hf
  simp only[TD.er,ZcX,h id _ this]
 |.rp id _,hf=>by
  have:id≠n:=by simpa[TD.free] using hf
  simp only[TD.er,ZcX,h id _ this]
 |.junk,_=>rfl
theorem ers_free{L M:Lk}{n:Nat}(h:∀id t,id≠n->Ym L id t none=Ym M id t none):∀(ds:yL TD),TD.frees n ds=true->TD.ers L ds=TD.ers M ds
 |[],_=>rfl
 |x::r,hf=>by
  simp only[TD.frees,yi] at hf;rw[TD.ers,TD.ers,Zcg h x hf.1,ers_free h r hf.2]
end
mutual
def TD.stale(L:Lk)(n:Nat):TD->TD
 |.own id nn t c=>if id=n then .own id nn t (some (Ym L id t c)) else .own id nn t c
 |.agg xs=>.agg (TD.stales L n xs)
 |.arr m s xs=>.arr m s (TD.stales L n xs)
 |.fn f xs=>.fn f (TD.stales L n xs)
 |.iface t x=>.iface t (TD.stale L n x)
 |.tup xs=>.tup (TD.stales L n xs)
 |.p x=>.p x
 |.elem x=>.elem x
 |.ref id yM=>.ref id yM
 |.view id yM s lo n=>.view id yM s lo n
 |.mp id=>.mp id
 |.rv id v s lo n=>.rv id v s lo n
 |.rref id v yM=>.rref id v yM
 |.rw id=>if id=n then .rv id (ZcX L id 0) (ZcX L id 1) 0 (ZcX L id 2) else .rw id
 |.rp id yM=>if id=n then .rref id (ZcX L id 0) yM else .rp id yM
 |.junk=>.junk
def TD.stales(L:Lk)(n:Nat):yL TD->yL TD
 |[]=>[]
 |x::r=>TD.stale L n x::TD.stales L n r
end
def TEnt.stale(L:Lk)(n:Nat):TEnt->TEnt
 |.var d st=>.var (d.stale L n) st
 |.row v s st e d=>.row v s st e (d.stale L n)
 |.rowM t np v st e pre d post=>.rowM t np v st e pre (d.stale L n) post
 |e=>e
mutual
theorem ZkY{L M:Lk}{n:Nat}(h:∀id t,id≠n->Ym L id t none=Ym M id t none):∀(d:TD),(d.stale L n).er M=d.er L
 |.p _=>rfl
 |.elem _=>rfl
 |.ref _ _=>rfl
 |.own id nn t c=>by
  rw[TD.stale];split
  ·rfl
  ·rename_i hn
   cases c with
   |none=>rw[TD.er,TD.er,h id t hn]
   |some _=>rfl
 |.view _ _ _ _ _=>rfl
 |.agg xs=>by rw[TD.stale,TD.er,TD.er,ers_stale h xs]
 |.arr _ _ xs=>by rw[TD.stale,TD.er,TD.er,ers_stale h xs]
 |.fn _ xs=>by rw[TD.stale,TD.er,TD.er,ers_stale h xs]
 |.iface _ x=>by rw[TD.stale,TD.er,TD.er,ZkY h x]
 |.tup xs=>by rw[TD.stale,TD.er,TD.er,ers_stale h xs]
 |.mp _=>rfl
 |.rv _ _ _ _ _=>rfl
 |.rref _ _ _=>rfl
 |.rw id=>by
  rw[TD.stale];split
  ·rfl
  ·rename_i hn
   simp only[TD.er,ZcX,h id _ hn]
 |.rp id _=>by
  rw[TD.stale];split
  ·rfl
  ·rename_i hn
   simp only[TD.er,ZcX,h id _ hn]
 |.junk=>rfl
theorem ers_stale{L M:Lk}{n:Nat}(h:∀id t,id≠n->Ym L id t none=Ym M id t none):∀(ds:yL TD),TD.ers M (TD.stales L n ds)=TD.ers L ds
 |[]=>rfl
 |x::r=>by rw[TD.stales,TD.ers,TD.ers,ZkY h x,ers_stale h r]
end
theorem Ziy{L M:Lk}{n:Nat}(h:∀id t,id≠n->Ym L id t none=Ym M id t none)(e:TEnt):(e.stale L n).er M=e.er L:=by
 cases e with
 |var d st=>rw[TEnt.stale,TEnt.er,TEnt.er,ZkY h]
 |row v s st e d=>rw[TEnt.stale,TEnt.er,TEnt.er,ZkY h]
 |rowM t np v st e pre d post=>rw[TEnt.stale,TEnt.er,TEnt.er,ZkY h]
 |_=>rfl
def TEnt.isLog:TEnt->Bool
 |.log _ _ _=>true
 |.rowT _ _ _ _ _=>true
 |.rowN _ _ _ _ _ _ _=>true
 |.rowM _ _ _ _ _ _ _ _=>true
 |_=>false
theorem Zz5{e:TEnt}(h:e.isLog=false):lkE (some e)=none:=by
 cases e <;> first|rfl|cases h
theorem Zl6{H:yL TEnt}{e:TEnt}(h:e.isLog=false):lk (H++[e])=lk H:=by
 funext id;unfold lk;rcases Nat.lt_trichotomy id H.length with hl|hl|hl
 ·grind
 ·subst hl;rw[yde,Zz5 h,ybi (yl _)];rfl
 grind
theorem Zah{H:yL TEnt}{id:Nat}{e x:TEnt}(hx:H[id]? =some x)(h1:x.isLog=false)(h2:e.isLog=false):lk (H.set id e)=lk H:=by
 funext j;unfold lk;by_cases hj:id=j
 ·subst hj;rw[getElem?_set_eq' hx,hx,Zz5 h1,Zz5 h2]
 grind
theorem ZkZ{H:yL TEnt}{e:TEnt}(h:lk (H++[e])=lk H):erH (H++[e])=erH H++[e.er (lk H)]:=by
 unfold erH;grind
theorem WV{H:yL TEnt}{id:Nat}{e:TEnt}(h:lk (H.set id e)=lk H):erH (H.set id e)=(erH H).set id (e.er (lk H)):=by
 unfold erH;simp_all
theorem Zn5{H:yL TEnt}{T:Ty}{e:yb}(id:Nat)(t:Ty):Ym (lk H) id t none=Ym (lk (H++[.log T e []])) id t none:=by
 unfold Ym lk;dsimp only;rcases Nat.lt_trichotomy id H.length with hl|hl|hl
 ·grind
 ·subst hl;rw[yde,ybi (yl _)];show[]=(Ty.castL T t []).getD []
  cases h:Ty.castL T t [] with
  |none=>rfl
  |some y=>
   obtain⟨e,h2⟩:=ZR h;subst e;subst h2;rfl
 grind
theorem Zv5{H:yL TEnt}{T:Ty}{e:yb}:erH (H++[.log T e []])=erH H++[.log T.size e []]:=by
 unfold erH;rw[yau];congr 1;exact ycs λx _=>(ZE3 (λid t=>Zn5 id t) x).symm
theorem Zch{H:yL TEnt}{e:TEnt}(id:Nat)(t:Ty)(h:id≠H.length):Ym (lk H) id t none=Ym (lk (H++[e])) id t none:=by
 unfold Ym lk
 all_goals grind
theorem ZBA{H:yL TEnt}{T:Ty}{e:yb}{l:yL T.den}(h:H.all (TEnt.free H.length)=true):erH (H++[.log T e l])=erH H++[.log T.size e (l.map T.enc)]:=by
 unfold erH;rw[yau];congr 1;refine ycs λx hx=> ?_
 cases x with
 |var d st=>
  rw[TEnt.er,TEnt.er];congr 1
  exact(Zcg (λid t hn=>Zch id t hn) d (ybs.1 h _ hx)).symm
 |row v s st e d=>
  rw[TEnt.er,TEnt.er];congr 1
  exact(Zcg (λid t hn=>Zch id t hn) d (ybs.1 h _ hx)).symm
 |rowM t np v st e pre d post=>
  rw[TEnt.er,TEnt.er,Zcg (λid t hn=>Zch id t hn) d (ybs.1 h _ hx)]
 |_=>rfl
theorem QO{H:yL TEnt}{n:Nat}{e:TEnt}(L:Lk)(id:Nat)(t:Ty)(h:id≠n):Ym (lk H) id t none=Ym (lk ((H.map (TEnt.stale L n)).set n e)) id t none:=by
 have h1:lk ((H.map (TEnt.stale L n)).set n e) id=lk H id:=by
  unfold lk;rw[getElem?_set_ne' (Ne.symm h),yal]
  cases H[id]? with
  |none=>rfl
  |some x=>cases x <;> rfl
 unfold Ym;rw[h1]
theorem ZE4{H:yL TEnt}{n:Nat}{T:Ty}{e:yb}{l:yL T.den}:erH ((H.map (TEnt.stale (lk H) n)).set n (.log T e l))=(erH H).set n (.log T.size e (l.map T.enc)):=by
 unfold erH;rw[ybm,ybe];congr 1;refine ycs λx hx=> ?_;exact Ziy (λid t hn=>QO (lk H) id t hn) x
def TP.isV:TP->yO (Σ t:Ty,t.den)
 |.v t x=>some ⟨t,x⟩
 |_=>none
def TP.setF:TP->Nat->TP->yO TP
 |.v (.st fs) x,i,z=>match z.isV with
  |some q=>(Ty.upd fs x i q.1 q.2).map (.v (.st fs))
  |none=>some (.agg ((Ty.flds fs x).set i z))
 |.agg l,i,z=>some (.agg (l.set i z))
 |_,_,_=>none
theorem ZHE{x y z:TP}{i:Nat}(h:x.setF i z=some y):∀xs,x.pe=.agg xs->y.pe=.agg (xs.set i z.pe):=by
 cases x with
 |v u a=>
  cases u with
  |st fs=>
   intro xs hx;have hx':Pl.agg (Ty.encs fs a)=.agg xs:=hx;injection hx' with hx';subst hx';simp only[TP.setF] at h;split at h
   ·rename_i q hq;obtain⟨x',h1,rfl⟩:=Zg h
    have hz:z=.v q.1 q.2:=by
     unfold TP.isV at hq
     all_goals grind
    show Pl.agg (Ty.encs fs x')=_;rw[ZBq fs a i q.1 q.2 x' h1,hz];rfl
   ·cases h;show Pl.agg (TP.pes ((Ty.flds fs a).set i z))=_;rw[ZaS,ybm, <-ZaS]
    exact congrArg (λl=>Pl.agg (l.set i z.pe)) (Zq2 fs a)
  |_=>cases h
 |agg l=>
  intro xs hx;cases h;rw[TP.pe] at hx;injection hx with hx;subst hx
  rw[TP.pe,ZaS,ZaS,ybm]
 |_=>cases h
def ZKF(x:Pl)(i o:Nat):Bool:=
 match x with
 |.agg xs=>o==Pl.sizes (xs.take i)
 |_=>false
def ZIF(x:TP)(i:Nat):TD->yO TD
 |.p y=>(x.setF i y).map .p
 |d=>x.parts.map λl=>.agg ((l.map .p).set i d)
def ZIG(a:ARow)(i:Nat):TD->yO TD
 |.p z=>(TP.to ZnT z a.t).map λy'=>.p (.v (.arr a.n a.t) (a.l.set i y'))
 |d=>some (.arr a.n a.t.size ((a.l.map λy=>TD.p (.v a.t y)).set i d))
theorem ZE5{L:Lk}(l:yL TP):TD.ers L (l.map .p)=(TP.pes l).map .p:=by
 rw[ZP,ZaS,ybe,ybe];rfl
abbrev Kg(O:Type):=TD->yL Hint->(TD->yO TD)->yO O
def gpT{O:Type}(L:Lk):yL Stp->TD->Kg O->yO O
 |[],d,K=>K d [] some
 |.fld i o::r,.p x,K=>(x.fld i).bind λz=>if ZKF x.pe i o=true then gpT L r (.p z) λsub hs put=>K sub hs λnew=>(put new).bind λd=>ZIF x i d else none
 |.ix i s::r,.p x,K=>x.arow.bind λa=>if s=a.t.size then(a.l[i]?).bind λy=>gpT L r (.p (.v a.t y)) λsub hs put=>K sub (.el (a.t.enc y)::hs) λnew=>
   (put new).bind λd=>ZIG a i d else none
 |.fld i o::r,.agg ds,K=>(ds[i]?).bind λz=>if o=Dv.sizes ((TD.ers L ds).take i) then gpT L r z λsub hs put=>K sub hs λnew=>(put new).map λy=>.agg (ds.set i y) else none
 |.ix i s::r,.arr n s' ds,K=>(ds[i]?).bind λz=>if s=s' then gpT L r z λsub hs put=>K sub hs λnew=>(put new).map λy=>.arr n s' (ds.set i y) else none
 |_,_,_=>none
def Zb2:yL Stp->Nat
 |[]=>0
 |q::r=>q.o+Zb2 r
theorem WF(l:yL Stp):Vu l=Zb2 l:=by
 have:∀(l:yL Stp)(n:Nat),l.foldl (λn q=>n+q.o) n=n+Zb2 l:=by
  intro l
  induction l with
  |nil=>intro n;rfl
  |cons q r ih=>intro n;rw[List.foldl_cons,ih,Zb2];omega
 rw[Vu,this];omega
theorem Wy{O:Type}{L:Lk}:∀(yM:yL Stp)(d:TD)(K:Kg O)(out:O),gpT L yM d K=some out->
 ∃sub hs put C,K sub hs put=some out/\AllP C/\(∀yJ,YE (d.er L) (yM.map Stp.i) (hs++yJ)=some (C,Zb2 yM,sub.er L,yJ))/\
  ∀new d',put new=some d'->∀yJ,VA (new.er L) (d.er L) (yM.map Stp.i) (hs++yJ)=some (d'.er L)
 |[],d,K,out,h=>⟨d,[],some,[],h,zY,λ_=>rfl,λnew d' h _=>by cases h;rfl⟩
 |q::r,d,K,out,h=>by
  cases q with
  |fld i o=>
   cases d with
   |p x=>
    simp only[gpT] at h;obtain⟨z,h1,h⟩:=yf.1 h;obtain⟨h2,h⟩:=Zc h;obtain⟨sub,hs,put,C,k1,k2,k3,k4⟩:=Wy r (.p z) _ out h;obtain⟨xs,e1,e2⟩:=ZEL h1
    have h3:o=Pl.sizes (xs.take i):=by
     unfold ZKF at h2;grind
    refine⟨sub,hs,_,C,k1,k2,λyJ=> ?_,λnew d' hp yJ=> ?_⟩
    ·rw[TD.er,e1];show YE (.p (.agg xs)) (i::r.map Stp.i) (hs++yJ)=_;unfold YE;rw[e2];dsimp only;have:=k3 yJ;rw[TD.er] at this;rw[this,yaf,Zb2,h3];rfl
    ·obtain⟨d1,p1,hp⟩:=yf.1 hp;have:=k4 new d1 p1 yJ;unfold ZIF at hp;rw[TD.er] at this;rw[TD.er,e1];show VA (new.er L) (.p (.agg xs)) (i::r.map Stp.i) (hs++yJ)=_;unfold VA;rw[e2];dsimp only;rw[this];split at hp
     ·obtain⟨x',p3,rfl⟩:=Zg hp;rw[TD.er,TD.er,ZHE p3 xs e1]
     ·rename_i hne;obtain⟨l,p3,rfl⟩:=Zg hp
      have e3:TP.pes l=xs:=by
       have:=ZrV p3;grind
      rw[TD.er,ZP,ybm, <-ZP,ZE5,e3]
      cases d1 <;> first|rfl|exact absurd rfl (hne _)
   |agg ds=>
    simp only[gpT] at h;obtain⟨z,h1,h⟩:=yf.1 h;split at h
    ·rename_i h2;obtain⟨sub,hs,put,C,k1,k2,k3,k4⟩:=Wy r z _ out h;refine⟨sub,hs,_,C,k1,k2,λyJ=> ?_,λnew d' hp yJ=> ?_⟩
     ·rw[TD.er];show YE (.agg (TD.ers L ds)) (i::r.map Stp.i) (hs++yJ)=_;unfold YE;rw[QW h1];dsimp only;rw[k3 yJ,yaf,Zb2,h2];rfl
     ·obtain⟨y,p1,rfl⟩:=Zg hp;rw[TD.er];show VA (new.er L) (.agg (TD.ers L ds)) (i::r.map Stp.i) (hs++yJ)=_;unfold VA;rw[QW h1];dsimp only;rw[k4 new y p1 yJ,yaf,TD.er,ZP,ZP,ybm]
    ·cases h
   |_=>cases h
  |ix i s=>
   cases d with
   |p x=>
    simp only[gpT] at h;obtain⟨a,h1,h⟩:=yf.1 h;split at h
    ·rename_i hs0;obtain⟨y,h2,h⟩:=yf.1 h;obtain⟨sub,hs,put,C,k1,k2,k3,k4⟩:=Wy r (.p (.v a.t y)) _ out h;refine⟨sub,_,_,((a.l.map a.t.enc)[i]? =some (a.t.enc y))::C,k1,⟨ZnY h2,k2⟩,λyJ=> ?_,λnew d' hp yJ=> ?_⟩
     ·rw[TD.er,Zbj h1];show YE (.p (.arr a.n a.t.size _)) (i::r.map Stp.i) (_::(hs++yJ))=_;unfold YE;dsimp only;have:=k3 yJ;rw[TD.er,TP.pe] at this;rw[this,yaf,Zb2,hs0];rfl
     ·obtain⟨d1,p1,hp⟩:=yf.1 hp;have:=k4 new d1 p1 yJ;unfold ZIG at hp;rw[TD.er,TP.pe] at this;rw[TD.er,Zbj h1];show VA (new.er L) (.p (.arr a.n a.t.size _)) (i::r.map Stp.i) (_::(hs++yJ))=_;unfold VA;dsimp only;rw[this];split at hp
      ·rename_i z;obtain⟨y',p3,rfl⟩:=Zg hp;rw[TD.er];dsimp only;rw[Zjs z a.t y' p3, <-ybm];rfl
      ·rename_i hne;cases hp;rw[TD.er,ZP,ybm,ybe,ybe];cases d1 <;> first|rfl|exact absurd rfl (hne _)
    ·cases h
   |arr n s' ds=>
    simp only[gpT] at h;obtain⟨z,h1,h⟩:=yf.1 h;split at h
    ·rename_i h2;obtain⟨sub,hs,put,C,k1,k2,k3,k4⟩:=Wy r z _ out h;refine⟨sub,hs,_,C,k1,k2,λyJ=> ?_,λnew d' hp yJ=> ?_⟩
     ·rw[TD.er];show YE (.arr n s' (TD.ers L ds)) (i::r.map Stp.i) (hs++yJ)=_;unfold YE;rw[QW h1];dsimp only;rw[k3 yJ,yaf,Zb2, <-h2];rfl
     ·obtain⟨y,p1,rfl⟩:=Zg hp;rw[TD.er];show VA (new.er L) (.arr n s' (TD.ers L ds)) (i::r.map Stp.i) (hs++yJ)=_;unfold VA;rw[QW h1];dsimp only;rw[k4 new y p1 yJ,yaf,TD.er,ZP,ZP,ybm]
    ·cases h
   |_=>cases h
theorem Zc0{H:yL TEnt}{id:Nat}{T:Ty}{v:yL Unit}{st:Bool}{e:yb}{l:yL T.den}(hd:H[id]? =some (.rowT T v st e l)):(TD.rw id).er (lk H)=.rv id v.length T.size 0 l.length/\
 ∀yM,(TD.rp id yM).er (lk H)=.rref id v.length (Vu yM) (yM.map Stp.i):=by
 have h:Ym (lk H) id (.sl (.st [])) none=([v,yac T.size (),yac l.length ()]:yL (yL Unit)):=by
  unfold Ym lk;dsimp only;rw[hd];rfl
 refine⟨?_,λyM=> ?_⟩
 ·rw[TD.er];unfold ZcX;rw[h];show Dv.rv id v.length (yac T.size ()).length 0 (yac l.length ()).length=_;grind
 ·rw[TD.er];unfold ZcX;rw[h];rfl
abbrev Kn(O:Type):=yL TD->TD->yL TEnt->yL Hint->Nat->yO O
def GoodR(P:yg)(o:ym)(ts:yL TD)(H:yL TEnt)(d:TD)(hs:yL Hint):Prop:=
 (∀yJ,evN P o (TD.ers (lk H) ts) (hs++yJ)=none)/\∃C,AllP C/\∀yJ,evR P o (TD.ers (lk H) ts) (erH H) (hs++yJ)=some (C,d.er (lk H),yJ)
def GoodE(P:yg)(o:ym)(ts:yL TD)(H:yL TEnt)(d:TD)(H':yL TEnt)(hs:yL Hint):Prop:=
 (∀yJ,evN P o (TD.ers (lk H) ts) (hs++yJ)=none)/\(∀yJ,evR P o (TD.ers (lk H) ts) (erH H) (hs++yJ)=none)/\
   ∃C,AllP C/\∀yJ,evE P o (TD.ers (lk H) ts) (erH H) (hs++yJ)=some (C,d.er (lk H'),erH H',yJ)
theorem or3{a b c d:Prop}(h:c):a\/b\/c\/d:=.inr (.inr (.inl h))
structure Good(P:yg)(o:ym)(ts all:List TD)(H:List TEnt)(all':List TD)(d:TD)(H':List TEnt)(hs:List Hint)(cls:Nat):Prop where
 same:TD.ers (lk H') all'=TD.ers (lk H) all
 len:all'.length=all.length
 op:(cls=0/\H'=H/\GoodN (lk H) P o ts d hs)\/(cls=1/\H'=H/\GoodR P o ts H d hs)\/(cls=2/\GoodE P o ts H d H' hs)\/(cls=3/\erH H'=erH H/\GoodE P o ts H d H' hs)
section
variable{P:yg}{o:ym}{ts all:yL TD}{H:yL TEnt}{O:Type}{K:Kn O}{out:O}
def Zr5(H:yL TEnt)(id:Nat):yO TD:=
 match H[id]? with
 |some (.var d _)=>some d
 |_=>none
theorem Zgq{id:Nat}{d:TD}(h:Zr5 H id=some d):∃st,H[id]? =some (.var d st)/\(erH H)[id]? =some (.var (d.er (lk H)) st):=by
 unfold Zr5 at h;split at h
 ·rename_i d' st hd;cases h;exact⟨st,hd,Yf hd⟩
 ·cases h
def Zz6(H:yL TEnt)(id v:Nat):yO TD:=
 match H[id]? with
 |some (.row w _ _ _ d)=>if(w==v)=true then some d else none
 |_=>none
theorem Zx0{id v:Nat}{d:TD}(h:Zz6 H id v=some d):∃w s st e,H[id]? =some (.row w s st e d)/\(w==v)=true:=by
 unfold Zz6 at h
 all_goals grind
def ZE6(P:yg)(t:yb)(all:yL TD)(H:yL TEnt)(K:Kn O):TD->yO O
 |.ref id yM=>(Zr5 H id).bind λd=>gpT (lk H) yM d λsub hs _=>if okT P t (sub.er (lk H))=true then K all sub H hs 1 else none
 |.rref id v yM=>(Zz6 H id v).bind λd=>gpT (lk H) yM d λsub hs _=>if okT P t (sub.er (lk H))=true then K all sub H hs 1 else none
 |_=>none
theorem Zz7{t:yb}{x:yn}{xd:TD}(ho:o.op=.load t x)(hx:arT P ts 0 x=some xd)(h:ZE6 P t all H K xd=some out):∃a d H' hs c,K a d H' hs c=some out/\Good P o ts all H a d H' hs c:=by
 have hv:=Zv (L:=lk H) hx;unfold ZE6 at h;split at h
 ·rename_i id yM;obtain⟨d,h1,h⟩:=yf.1 h;obtain⟨st,h2,h3⟩:=Zgq h1;obtain⟨sub,hs,put,C,k1,k2,k3,_⟩:=Wy _ _ _ _ h;obtain⟨k4,k5⟩:=Zc k1;refine⟨_,_,_,_,_,k5,rfl,rfl,.inr (.inl ⟨rfl,rfl,λyJ=> ?_,C++[Zb2 yM=Vu yM],Zk.2 ⟨k2,(WF _).symm,ytt⟩,λyJ=> ?_⟩)⟩
  ·unfold evN;rw[ho];dsimp only;rw[hv];rfl
  ·unfold evR;rw[ho];dsimp only;rw[hv];dsimp only[TD.er];grind
 ·rename_i id v yM;obtain⟨d,h1,h⟩:=yf.1 h;obtain⟨w,s,st,e,h2,h3⟩:=Zx0 h1;obtain⟨sub,hs,put,C,k1,k2,k3,_⟩:=Wy _ _ _ _ h;obtain⟨k4,k5⟩:=Zc k1;refine⟨_,_,_,_,_,k5,rfl,rfl,.inr (.inl ⟨rfl,rfl,λyJ=> ?_,C++[Zb2 yM=Vu yM],Zk.2 ⟨k2,(WF _).symm,ytt⟩,λyJ=> ?_⟩)⟩
  ·unfold evN;rw[ho];dsimp only;rw[hv];rfl
  ·unfold evR;rw[ho];dsimp only;rw[hv];dsimp only[TD.er];rw[Yf h2];dsimp only[TEnt.er];grind
 ·cases h
def Zz8(P:yg)(t:yb)(lo hi:yO Int)(all:yL TD)(H:yL TEnt)(K:Kn O):TD->yO O
 |.rv id v s l0 n=>match P.underlying t,H[id]? with
  |some (.slice e),some (.row w s' _ _ d)=>hi.bind λh=>(rowN (d.er (lk H)) s').bind λN=>if(P.cellsOf e=s&&(P.info? e).isSome&&w==v&&s'==s&&s' !=0)=true then
    if(decide (0<=lo.getD 0)&&decide (lo.getD 0<=h)&&decide (l0+h.toNat<=N))=true then K all (.rv id v s (l0+(lo.getD 0).toNat) (h.toNat - (lo.getD 0).toNat)) H [.raw] 1 else none else none
  |_,_=>none
 |_=>none
theorem Zx1{t:yb}{x:yn}{lo hi:yO yn}{l h':yO Int}{xd:TD}(ho:o.op=.slice t x lo hi none)(hx:arT P ts t x=some xd)(hl:Zg8 P ts lo=some l)(hh:Zg8 P ts hi=some h')(h:Zz8 P t l h' all H K xd=some out):
 ∃a d H' hs c,K a d H' hs c=some out/\Good P o ts all H a d H' hs c:=by
 have hv:=Zv (L:=lk H) hx;have hl:=Zcf (L:=lk H) hl;have hh:=Zcf (L:=lk H) hh;unfold Zz8 at h;split at h
 ·rename_i id v s l0 n;split at h
  ·rename_i e w s' st e' d hu hd;obtain⟨h2,q1,g1⟩:=yf.1 h;obtain⟨N,q2,g2⟩:=yf.1 g1;obtain⟨h3,g3⟩:=Zc g2;obtain⟨h4,g4⟩:=Zc g3;clear h g1 g2 g3;simp only[yi,yP] at h4;subst q1;refine⟨_,_,_,_,_,g4,rfl,rfl,.inr (.inl ⟨rfl,rfl,λyJ=> ?_,[0<=l.getD 0,l.getD 0<=h2,l0+h2.toNat<=N],⟨h4.1.1,h4.1.2,h4.2,ytt⟩,λyJ=> ?_⟩)⟩
   ·unfold evN;rw[ho];dsimp only;rw[hu,hv,hl,hh];rfl
   ·unfold evR;rw[ho];dsimp only;rw[hu,hv,hl,hh];dsimp only[TD.er];rw[yae,yy];dsimp only;rw[Yf hd];dsimp only[TEnt.er];grind
  ·cases h
 ·cases h
def Zk0{α β:Type}(o:yO α)(f:α->yO β)(g:yO β):yO β:=
 match o with
 |some a=>f a
 |none=>g
def ZmE(P:yg)(kt:yb)(k:Ty):Bool:=keyTy P kt&&(k.flat&&ZxX P 20 kt k)
structure MapE where
 tid:yb
 k:Ty
 v:Ty
 l:List (k.den×v.den)
def ZuL(H:yL TEnt)(id:Nat):yO MapE:=
 match H[id]? with
 |some (.map tid k v l)=>some ⟨tid,k,v,l⟩
 |_=>none
theorem Zjw{id:Nat}{m:MapE}(h:ZuL H id=some m):H[id]? =some (.map m.tid m.k m.v m.l)/\(erH H)[id]? =some (.map m.tid (kvl m.k.enc m.v.enc m.l)):=by
 unfold ZuL at h;split at h
 ·rename_i hd;cases h;exact⟨hd,Yf hd⟩
 ·cases h
def ZBB(x:TD)(k:Ty):yO k.den:=x.inner.bind λy=>TP.to Zjr y k
theorem Zr6{L:Lk}{x:TD}{k:Ty}{y:k.den}(h:ZBB x k=some y):x.er L=.p (k.enc y):=by
 obtain⟨p,h1,h2⟩:=yf.1 h;rw[XV h1,TD.er,ZnU p k y h2]
theorem Zq4{kt:yb}{k:Ty}(h:ZmE P kt k=true):∀x y:k.den,k.enc x=k.enc y↔x=y:=by
 simp only[ZmE,yi] at h;exact λx y=>⟨Zn0 k x y h.2.1,λe=>by rw[e]⟩
theorem ZhB{kt:yb}{k:Ty}(h:ZmE P kt k=true):∀x:k.den,fitP P 20 kt (k.enc x):=by
 simp only[ZmE,yi] at h;exact Zn1 20 kt k h.2.2
theorem Zr7{kt:yb}{k:Ty}(h:ZmE P kt k=true):keyTy P kt=true:=by
 simp only[ZmE,yi] at h;exact h.1
def Zx2(P:yg)(t:yb):yO TP:=
 match zeroD P t with
 |.p z=>ZvW P t z
 |_=>none
theorem Zr8{t:yb}{z:TP}(h:Zx2 P t=some z):zeroD P t=.p z.pe:=by
 unfold Zx2 at h;split at h
 ·rename_i y hy;rw[hy,Zpd h]
 ·cases h
def Zz9(ok:Bool)(d:TD)(b:Bool):TD:=if ok then .tup [d,.p (.v .bool b)] else d
def Zv6(P:yg)(t:yb)(all:yL TD)(H:yL TEnt)(ok:Bool)(K:Kn O)(kd:yb->yO TD):TD->yO O
 |.mp id=>match P.underlying t with
  |some (.map kt et)=>(ZuL H id).bind λm=>(kd kt).bind λx=>(ZBB x m.k).bind λkey=>(Zx2 P et).bind λz=>
   if(ZmE P kt m.k&&hasZero P et)=true then
    Zk0 (@Zek m.k.den m.v.den (Ty.deq m.k) m.l key) (λy=>K all (Zz9 ok (.p (.v m.v y)) true) H [.el (m.v.enc y)] 1) (K all (Zz9 ok (.p z) false) H [.raw] 1)
   else none
  |_=>none
 |_=>none
theorem ZuM{L:Lk}{ok:Bool}{d:TD}{b:Bool}:(Zz9 ok d b).er L=if ok then .tup [d.er L,.p (.bool b)] else d.er L:=by
 cases ok <;> rfl
theorem Zv7{t:yb}{x ix:yn}{ok:Bool}{xd:TD}(ho:o.op=.lookup t x ix ok)(hx:arT P ts t x=some xd)(h:Zv6 P t all H ok K (λkt=>arT P ts kt ix) xd=some out):
 ∃a d H' hs c,K a d H' hs c=some out/\Good P o ts all H a d H' hs c:=by
 have hv:=Zv (L:=lk H) hx;unfold Zv6 at h;split at h
 ·rename_i id;split at h
  ·rename_i kt et hu;obtain⟨m,h1,h⟩:=yf.1 h;obtain⟨kd,h2,h⟩:=yf.1 h;obtain⟨key,h3,h⟩:=yf.1 h;obtain⟨z,h4,h⟩:=yf.1 h;obtain⟨h5,h⟩:=Zc h;rw[yi] at h5;obtain⟨e1,e2⟩:=Zjw h1;have hk:=Zv (L:=lk H) h2;rw[Zr6 h3] at hk
   have nN:∀hs,evN P o (TD.ers (lk H) ts) hs=none:=λhs=>by
    unfold evN;rw[ho]
   letI:=Ty.deq m.k
   unfold Zk0 at h;split at h
   ·rename_i y hy
    refine⟨_,_,_,_,_,h,rfl,rfl,.inr (.inl ⟨rfl,rfl,λ_=>nN _,[fitP P 20 kt (m.k.enc key),Zj9 P kt (kvl m.k.enc m.v.enc m.l),Qg (kvl m.k.enc m.v.enc m.l) (m.k.enc key) (some (m.v.enc y))],
     ⟨ZhB h5.1 key,Zpb (ZhB h5.1) _,@ZzS _ _ (Ty.deq m.k) _ _ (Zq4 h5.1) _ _ _ hy,ytt⟩,λyJ=> ?_⟩)⟩
    unfold evR;rw[ho];dsimp only;rw[hu,hv];dsimp only[TD.er];rw[hk,e2]
    try dsimp only
    rw[yae,yy]
    try dsimp only
    rw[yW (Zr7 h5.1),ZuM];rfl
   ·rename_i hy
    refine⟨_,_,_,_,_,h,rfl,rfl,.inr (.inl ⟨rfl,rfl,λ_=>nN _,[fitP P 20 kt (m.k.enc key),Zj9 P kt (kvl m.k.enc m.v.enc m.l),Qg (kvl m.k.enc m.v.enc m.l) (m.k.enc key) none],
     ⟨ZhB h5.1 key,Zpb (ZhB h5.1) _,@ZzT _ _ (Ty.deq m.k) _ _ (Zq4 h5.1) _ _ (by rw[hy];rfl),ytt⟩,λyJ=> ?_⟩)⟩
    unfold evR;rw[ho];dsimp only;rw[hu,hv];dsimp only[TD.er];rw[hk,e2]
    try dsimp only
    rw[yae,yy]
    try dsimp only
    rw[yW (by rw[Zr7 h5.1,h5.2];rfl),ZuM,Zr8 h4];rfl
  ·cases h
 ·cases h
def Zv8(P:yg)(t:yb)(all:yL TD)(H:yL TEnt)(K:Kn O):TD->yO O
 |.mp id=>match P.underlying t with
  |some (.map _ _)=>(ZuL H id).bind λm=>K all (.p (.v (.int .i64) (m.l.length:Int))) H [] 1
  |_=>none
 |_=>none
theorem Zv9{t:yb}{x:yn}{c:Call}{xd:TD}(ho:o.op=.call c)(hc:c.callee=.builtin .len)(ha:c.args.toList=[x])(ht:c.argTypes.toList=[t])(hx:arT P ts t x=some xd)(h:Zv8 P t all H K xd=some out):
 ∃a d H' hs c,K a d H' hs c=some out/\Good P o ts all H a d H' hs c:=by
 have hv:=Zv (L:=lk H) hx;unfold Zv8 at h;split at h
 ·rename_i id;split at h
  ·rename_i kt et hu;obtain⟨m,h1,h⟩:=yf.1 h;obtain⟨e1,e2⟩:=Zjw h1;refine⟨_,_,_,_,_,h,rfl,rfl,.inr (.inl ⟨rfl,rfl,λyJ=> ?_,[],zY,λyJ=> ?_⟩)⟩
   ·unfold evN;grind
   ·unfold evR;rw[ho];dsimp only;rw[hc];dsimp only;rw[ha,ht];dsimp only;rw[hu,hv];dsimp only[TD.er];rw[e2];simp[TP.pe,Ty.enc,kvl]
  ·cases h
 ·cases h
theorem Zl7{e:TEnt}(h:e.isLog=false):TD.ers (lk (H++[e])) all=TD.ers (lk H) all:=by rw[Zl6 h]
theorem Zx3{T:Ty}{e:yb}:TD.ers (lk (H++[.log T e []])) all=TD.ers (lk H) all:=(ers_cont (λid t=>Zn5 id t) all).symm
theorem Ziz{e:TEnt}(h:TD.frees H.length all=true):TD.ers (lk (H++[e])) all=TD.ers (lk H) all:=(ers_free (λid t hn=>Zch id t hn) all h).symm
theorem Zf4{T:Ty}{e:yb}{l:yL T.den}:Ym (lk (H++[.log T e l])) H.length T none=l:=by
 unfold Ym lk;dsimp only;rw[yde];show(Ty.castL T T l).getD []=l;unfold Ty.castL;split
 all_goals grind
def ZAa(P:yg)(t:yb)(dst:Tmp)(all:yL TD)(H:yL TEnt)(K:Kn O):TD->yO O
 |.p (.sl (some false) T [])=>match P.underlying t with
  |some (.slice e)=>(P.info? e).bind λi=>if(zOk i&&i.size !=0&&decide (i.size=T.size))=true then K all (.own H.length none T none) (H++[.log T e []]) [.fresh dst] 2 else none
  |_=>none
 |_=>none
theorem Zx4{x:yn}{dst:Tmp}{xd:TD}(ho:o.op=.assign x)(hd:o.dst=some dst)(hx:arT P ts o.type x=some xd)(h:ZAa P o.type dst all H K xd=some out):
 ∃a d H' hs c,K a d H' hs c=some out/\Good P o ts all H a d H' hs c:=by
 have hv:=Zv (L:=lk H) hx;unfold ZAa at h;split at h
 ·rename_i T;split at h
  ·rename_i e hu;obtain⟨i,h1,h⟩:=yf.1 h;obtain⟨h2,h⟩:=Zc h;simp only[yi,yP] at h2;refine⟨_,_,_,_,_,h,Zx3,rfl,or3 (⟨rfl,λyJ=> ?_,λyJ=> ?_,[],zY,λyJ=> ?_⟩)⟩
   ·unfold evN;rw[ho];rfl
   ·unfold evR;rw[ho]
   ·unfold evE;rw[ho];dsimp only;rw[yae,yy];dsimp only;rw[yW hd,hu,hv,show(TD.p (TP.sl (some false) T [])).er (lk H)=Dv.p (.sl (some false) T.size []) from rfl]
    dsimp only;rw[h1];dsimp only;rw[yW (by simpa using h2.1),Zv5,Z1,TD.er,Zf4,h2.2];rfl
  ·cases h
 ·cases h
def Zr9(P:yg)(t:yb)(all:yL TD)(H:yL TEnt)(K:Kn O):yO O:=
 match P.underlying t with
 |some (.map kt et)=>(Zkr P tyD kt).bind λk=>(Zkr P tyD et).bind λv=>K all (.mp H.length) (H++[.map t k v []]) [] 2
 |_=>none
theorem ZtJ{t:yb}(ho:o.op=.makeMap t none)(h:Zr9 P t all H K=some out):∃a d H' hs c,K a d H' hs c=some out/\Good P o ts all H a d H' hs c:=by
 unfold Zr9 at h;split at h
 ·rename_i kt et hu;obtain⟨k,h1,h⟩:=yf.1 h;obtain⟨v,h2,h⟩:=yf.1 h;refine⟨_,_,_,_,_,h,Zl7 rfl,rfl,or3 (⟨rfl,λyJ=> ?_,λyJ=> ?_,[],zY,λyJ=> ?_⟩)⟩
  ·unfold evN;rw[ho]
  ·unfold evR;rw[ho]
  ·unfold evE;rw[ho];dsimp only;rw[ZkZ (Zl6 rfl),Z1];rfl
 ·cases h
def Zn6(n:Int)(b:Nat):Bool:=decide (0<=n)&&lenB n.toNat b
def Znc(P:yg)(t:yb)(own row:Bool)(n n':Int)(all:yL TD)(H:yL TEnt)(K:Kn O):yO O:=
 match P.underlying t with
 |some (.slice e)=>(P.info? e).bind λi=>(Zkr P tyD e).bind λT=>
  if row then
   if(zOk i&&i.size !=0&&decide (i.size=T.size))=true then if(decide (n=0)&&Zn6 n' i.bytes)=true then K all (.rv H.length 0 i.size 0 0) (H++[.row 0 i.size true e (.p (.v (.arr 0 T) []))]) [.arr] 2 else none else none
  else if own then
   if(zOk i&&i.size !=0&&decide (i.size=T.size))=true then if(decide (n=0)&&Zn6 n' i.bytes)=true then K all (.own H.length (some true) T none) (H++[.log T e []]) [.own] 2 else none else none
  else none
 |_=>none
theorem ZqJ{t:yb}{l c:yn}{n n':Num}{own row:Bool}(ho:o.op=.makeSlice t l c)(hl:(arT P ts 0 l).bind TD.num=some n)(hc:(arT P ts 0 c).bind TD.num=some n')(hk:n.k=.i64)(hk':n'.k=.i64)
 (h:Znc P t own row n.n n'.n all H K=some out):∃a d H' hs c,K a d H' hs c=some out/\Good P o ts all H a d H' hs c:=by
 obtain⟨ld,l1,l2⟩:=yf.1 hl;obtain⟨cd,c1,c2⟩:=yf.1 hc;have hv:=Zv (L:=lk H) l1;have hw:=Zv (L:=lk H) c1;rw[ZfG l2,hk] at hv;rw[ZfG c2,hk'] at hw;unfold Znc at h;have nN:∀hs,evN P o (TD.ers (lk H) ts) hs=none:=λhs=>by unfold evN;rw[ho]
 have nR:∀hs,evR P o (TD.ers (lk H) ts) (erH H) hs=none:=λhs=>by unfold evR;rw[ho]
 split at h
 ·rename_i e hu;obtain⟨i,h1,h⟩:=yf.1 h;obtain⟨T,h2,h⟩:=yf.1 h;split at h
  ·obtain⟨h3,h⟩:=Zc h;obtain⟨h4,h⟩:=Zc h;simp only[yi,yP] at h3;simp only[Zn6,yi,yP] at h4;obtain⟨g1,g2⟩:=Zbc h4.2.2;refine⟨_,_,_,_,_,h,Zl7 rfl,rfl,or3 (⟨rfl,λyJ=>nN _,λyJ=>nR _,[n.n=0,0<=n'.n,n'.n.toNat*i.bytes<=bytesBound,n'.n.toNat<=maxLen],⟨h4.1,h4.2.1,g1,g2,ytt⟩,λyJ=> ?_⟩)⟩;unfold evE;rw[ho];dsimp only;rw[hu,hv,hw];dsimp only;rw[h1,yae,yy];dsimp only;rw[yW (by simpa using h3.1),ZkZ (Zl6 rfl),Z1];simp only[TEnt.er,TD.er,TP.pe,ZvU,h3.2];rfl
  split at h
  ·obtain⟨h3,h⟩:=Zc h;obtain⟨h4,h⟩:=Zc h;simp only[yi,yP] at h3;simp only[Zn6,yi,yP] at h4;obtain⟨g1,g2⟩:=Zbc h4.2.2;refine⟨_,_,_,_,_,h,Zx3,rfl,or3 (⟨rfl,λyJ=>nN _,λyJ=>nR _,[n.n=0,0<=n'.n,n'.n.toNat*i.bytes<=bytesBound,n'.n.toNat<=maxLen],⟨h4.1,h4.2.1,g1,g2,ytt⟩,λyJ=> ?_⟩)⟩;unfold evE;rw[ho];dsimp only;rw[hu,hv,hw];dsimp only;rw[h1,yae,yy];dsimp only;rw[yW (by simpa using h3.1),Zv5,Z1,TD.er,Zf4,h3.2];rfl
  ·cases h
 ·cases h
end
end Go.Ev
end
