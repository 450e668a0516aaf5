/- Parts of the proof, in one file. -/
import Derived.Test.YtmkgbalfkhaflaaGreatKb
open Array renaming getElem?_eq_getElem → ycg, getElem?_eq_some_iff → ycs, getD_eq_getD_getElem? → ycu
open Bool renaming and_eq_true → yg, or_eq_true → ycb, eq_iff_iff → ycd
open List renaming getElem?_eq_some_iff → yj, length_append → yl, range → yp, nil_append → yq, replicate → yr, length_map → yu, cons_append → yv, getElem?_eq_getElem → yw, map_cons → yx, getElem?_map → yac, append_assoc → yae, getElem?_append_left → yah, getElem?_cons_succ → yaj, getElem?_append_right → yak, getElem?_eq_none → yam, map_append → yan, getElem?_cons_zero → yaq, map_map → yau, all_eq_true → yaw, map_set → yaz, eq_nil_of_length_eq_zero → yba, take_append_drop → ybf, getElem?_set → ybj, map_congr_left → ybz, length_replicate → yci, take_of_length_le → ycl
open Nat renaming le_refl → yi, mod_eq_of_lt → yai, add_assoc → ybw, lt_of_le_of_lt → ycm
open Option renaming bind_eq_some_iff → yc, map_eq_some_iff → yo, map_some → yy
open Option.some renaming injEq → yf, inj → ybi
open Prod.mk renaming injEq → yh
open UInt32 renaming ofNat → ybh, toNat_ofNat' → ych
open UInt64 renaming ofNat → yaf, toNat_ofNat' → ybc, toNat_lt → ybg
open UInt8 renaming ofNat → yal
set_option linter.unusedVariables false
set_option linter.unusedSimpArgs false
section
namespace Go.Ev
def ZtV (ts:List Dv) (l:List (Option Tmp×Dv)):List Dv:=l.foldl (fun ts q=>Zh4 ts q.1 q.2) ts
section
variable {P:Program} {ops:Array Oper}
theorem Zyk:∀(l:List Oper) (ts:List Dv) (H:List Ent) (hs:List Hint) (C:List Prop) (rs:List Rec) (ts':List Dv) (H':List Ent) (hs':List Hint),evD P ops l ts H hs=some (C,rs,ts',H',hs')→AllP C→
 rs.length=l.length∧ts'=ZtV ts ((l.zip rs).map fun q=>(q.1.dst,q.2.d))∧(l=[]→H'=H)∧
 ∀(i:Nat) (o:Oper),l[i]? =some o→∃r,rs[i]? =some r∧AllP r.C∧evG P ops o (ZH (XB ops o) 0 (ZtV ts (((l.zip rs).take i).map fun q=>(q.1.dst,q.2.d)))) r.H r.hs=some (r.C,r.d,r.H',r.hs')∧
  r.cls=clsOf P o (ZH (XB ops o) 0 (ZtV ts (((l.zip rs).take i).map fun q=>(q.1.dst,q.2.d)))) r.H r.hs∧
  (r.rd=ZC3 P o (ZH (XB ops o) 0 (ZtV ts (((l.zip rs).take i).map fun q=>(q.1.dst,q.2.d))))∧r.tc=ZvU P o (ZH (XB ops o) 0 (ZtV ts (((l.zip rs).take i).map fun q=>(q.1.dst,q.2.d)))) r.hs∧r.push=Zgu o∧r.loc=Zmp o r.hs)∧(i=0→r.H=H)∧(∀r2,rs[i+1]? =some r2→r2.H=r.H')∧(i+1=l.length→H'=r.H')
 |[],ts,H,hs,C,rs,ts',H',hs',h,hc=>by
  simp only [evD,yf,yh] at h
  obtain ⟨rfl,rfl,rfl,rfl,rfl⟩:=h
  exact ⟨rfl,rfl,fun _=>rfl,fun i o hi=>by simp at hi⟩
 |o::l,ts,H,hs,C,rs,ts',H',hs',h,hc=>by
  simp only [evD] at h
  split at h
  ·rename_i C1 d1 H1 hs1 h1
   split at h
   ·rename_i C2 rs2 ts2 H2 hs2 h2
    simp only [yf,yh] at h
    obtain ⟨rfl,rfl,rfl,rfl,rfl⟩:=h
    obtain ⟨c1,c2⟩:=Zi.1 hc
    obtain ⟨k1,k2,k3,k4⟩:=Zyk l _ _ _ _ _ _ _ _ h2 c2
    refine ⟨by simp [k1],by rw [k2];rfl,by simp,fun i o' hi=> ?_⟩
    cases i with
    |zero=>
     simp only [yaq,yf] at hi
     subst hi
     refine ⟨_,rfl,c1,h1,rfl,⟨rfl,rfl,rfl,rfl⟩,fun _=>rfl,fun r2 hr2=> ?_,fun hl=> ?_⟩
     ·simp only [yaj] at hr2
      cases l with
      |nil=>
       have:rs2=[]:=yba (by simpa using k1)
       subst this
       simp at hr2
      |cons o2 l2=>
       obtain ⟨r,j1,_,_,_,_,j2,_⟩:=k4 0 o2 rfl
       rw [hr2] at j1
       cases j1
       exact j2 rfl
     ·have:l=[]:=yba (by simpa using hl.symm)
      exact k3 this
    |succ i=>
     simp only [yaj] at hi
     obtain ⟨r,j1,j2,j3,j4,j45,j5,j6,j7⟩:=k4 i o' hi
     refine ⟨r,by simpa using j1,j2,j3,j4,j45,fun h0=>by omega,fun r2 hr2=>j6 r2 (by simpa using hr2),fun hl=>j7 (by simpa using hl)⟩
   ·cases h
  ·cases h
theorem ZDs (ts:List Dv) (l:List (Option Tmp×Dv)) (q:Option Tmp×Dv):ZtV ts (l++[q])=Zh4 (ZtV ts l) q.1 q.2:=by simp [ZtV]
def unl (X:Nat→Bool):Nat→Nat
 |0=>0
 |k+1=>unl X k+(if X k then 0 else 1)
theorem ZBM {X:Nat→Bool}:∀{k:Nat},unl X k=0→∀j,j < k→X j=true
 |0,_,j,h=>by omega
 |k+1,h,j,hj=>by
  simp only [unl] at h
  by_cases hk:j=k
  ·subst hk
   cases hx:X j with
   |true=>rfl
   |false=>simp [hx] at h
  ·exact ZBM (k:=k) (by omega) j (by omega)
theorem ZEJ {X:Nat→Bool}:∀{k:Nat},unl X k≤k
 |0=>yi _
 |k+1=>by
  have:=ZEJ (X:=X) (k:=k)
  simp only [unl]
  split <;> omega
theorem Zyl {X Y:Nat→Bool}:∀{k:Nat},(∀j,j < k→Y j=X j)→unl Y k=unl X k
 |0,_=>rfl
 |k+1,h=>by
  simp only [unl]
  rw [Zyl (k:=k) (fun j hj=>h j (by omega)),h k (by omega)]
theorem Zym {X Y:Nat→Bool} {i:Nat} (hi:X i=false):∀{k:Nat},i < k→(∀j,j < k→Y j=(X j || decide (j=i)))→unl Y k+1=unl X k
 |0,h,_=>by omega
 |k+1,h,hY=>by
  simp only [unl]
  by_cases hk:i=k
  ·subst hk
   rw [Zyl (X:=X) (Y:=Y) (fun j hj=>by
    rw [hY j (by omega)]
    have:¬j=i:=by omega
    simp [this]),hY i (by omega),hi]
   simp
  ·have:=Zym hi (k:=k) (by omega) (fun j hj=>hY j (by omega))
   have hne:¬k=i:=fun h=>hk h.symm
   rw [hY k (by omega)]
   simp only [hne,decide_false,Bool.or_false]
   omega
theorem ZrF:∀(l:List Oper) (i:Nat),ZfK l i=true→∀(j:Nat) (o:Oper),l[j]? =some o→∀e,e∈o.after→Region.binds .any e=true→e.on < i+j
 |[],i,_,j,o,ho,_,_,_=>by simp at ho
 |o::l,i,h,j,o',ho,e,he,hb=>by
  simp only [ZfK,yg,yaw] at h
  cases j with
  |zero=>
   simp only [yaq,yf] at ho
   subst ho
   have:=h.1 e (by simpa using he)
   simpa [hb] using this
  |succ j=>
   simp only [yaj] at ho
   have:=ZrF l (i+1) h.2 j o' ho e he hb
   omega
theorem ZmF (keep:List Nat):∀(l:List Dv) (k:Nat),(ZH keep k l).length=l.length
 |[],k=>rfl
 |x::l,k=>by simp [ZH,ZmF keep l]
theorem ZIO {σ:Sg} {a:Act} {ts ms:List Dv} {dst:Option Tmp} {d:Dv} {v:Value} (hl:ms.length=ts.length) (h1:RepT σ ts a) (h2:RepT σ (Zh4 ms dst d) (a.put dst v)):RepT σ (Zh4 ts dst d) (a.put dst v):=by
 unfold Zh4 Act.put at*
 cases dst with
 |none=>exact h1
 |some t=>
  refine ⟨by simpa using h1.size,fun i e hi=> ?_,h1.defers⟩
  by_cases hit:t=i
  ·subst hit
   refine h2.at_ t e ?_
   simp only [ybj] at hi ⊢
   rw [hl]
   exact hi
  ·rw [ybj,if_neg hit] at hi
   have:=h1.at_ i e hi
   simpa [ycu,Array.getElem?_setIfInBounds,hit] using this
theorem Zv6 {σ:Sg} {a:Act} {ts:List Dv} {hs hs':List Hint} {C:List Prop} {ts':List Dv} {H':List Ent} {id:Nat} (ok:Ok σ) (hrep:RepT σ ts a) (h:ZvW P ops ts σ.H hs=some (C,ts',H',hs')) (hc:AllP C)
 (Q:Exit→Act→World→Prop) (hQ:∀a' σ',σ'.H=H'→To σ σ'→Ok σ'→RepT σ' ts' a'→Q .normal a' σ'.w):(Code.region id ops true).wp P Q a σ.w:=by
 unfold ZvW at h
 split at h
 ·rename_i hm
  split at h
  ·rename_i C1 rs ts1 H1 hs1 hev
   split at h
   ·rename_i hdr
    simp only [yf,yh] at h
    obtain ⟨rfl,rfl,rfl,rfl⟩:=h
    obtain ⟨hlen,hts',hnil,hspec⟩:=Zyk _ _ _ _ _ _ _ _ _ hev hc
    let n:=ops.size
    let dst:Nat→Option Tmp:=fun i=>ZfL ops.toList i
    let D:Nat→Dv:=fun i=>((rs[i]?).map (·.d)).getD .junk
    let cls:Nat→Nat:=fun i=>(rs.map (·.cls)).getD i 0
    let A:List Nat:=ZEo ops.toList
    have hn:ops.toList.length=n:=by simp [n]
    have hrl:rs.length=n:=by rw [hlen,hn]
    unfold ZvV at hdr
    simp only [yg] at hdr
    obtain ⟨⟨⟨⟨⟨_,hback⟩,hanc⟩,huniq⟩,hlook⟩,hcls⟩:=hdr
    have hopl:∀(i:Nat),ops.toList[i]? =ops[i]? :=fun i=>by simp
    have hA:∀i o,ops[i]? =some o→A.getD i 0=Zgv A i o:=by
     intro i o ho
     have hi:i < n:=(ycs.1 ho).1
     have:=yaw.1 hanc i (List.mem_range.2 (by rw [hn];exact hi))
     rw [hopl,ho] at this
     simpa using this
    have hu:∀i j,i < n→j < n→dst i≠none→dst i=dst j→i=j:=by
     intro i j hi hj h1 h2
     have:=yaw.1 (yaw.1 huniq i (List.mem_range.2 (by rw [hn];exact hi))) j (List.mem_range.2 (by rw [hn];exact hj))
     simp only [ycb,beq_iff_eq,Bool.not_eq_true',beq_eq_false_iff_ne,ne_eq] at this
     rcases this with (h3|h3)|h3
     ·exact h3
     ·exact absurd h3 h1
     ·exact absurd h2 h3
    have hL:∀i o j t,ops[i]? =some o→j < n→dst j=some t→t∈XB ops o→i≠j→(if j < i then (A.getD i 0).testBit j else (A.getD j 0).testBit i)=true:=by
     intro i o j t ho hj hd ht hne
     have hi:i < n:=(ycs.1 ho).1
     have h1:=yaw.1 hlook i (List.mem_range.2 (by rw [hn];exact hi))
     rw [hopl,ho] at h1
     have h2:=yaw.1 h1 j (List.mem_range.2 (by rw [hn];exact hj))
     have hd':ZfL ops.toList j=some t:=hd
     rw [hd'] at h2
     have hk:(XB ops o).contains t=true:=by simpa using ht
     simp only [hk,ycb,beq_iff_eq,Bool.not_true,Bool.or_false] at h2
     rcases h2 with h2|h2
     ·exact absurd h2 hne
     ·exact h2
    obtain ⟨c0,_,hcls⟩:=List.any_eq_true.1 hcls
    have hE0:∀i j,i < n→j < n→cls i≠0→cls j=2→i≠j→(if j < i then (A.getD i 0).testBit j else (A.getD j 0).testBit i)=true∨(cls i=1∧Zix rs i j=true)∨Zfg rs c0 i j=true:=by
     intro i j hi hj h1 h2 hne
     have h3:=yaw.1 hcls i (List.mem_range.2 (by rw [hn];exact hi))
     simp only [ycb,beq_iff_eq] at h3
     rcases h3 with h3|h3
     ·exact absurd h3 h1
     ·have h4:=yaw.1 h3 j (List.mem_range.2 (by rw [hn];exact hj))
      have h2':(List.map (fun x=>x.cls) rs).getD j 0=2:=h2
      rw [h2'] at h4
      simp only [ycb,yg,beq_iff_eq,beq_self_eq_true,Bool.not_true] at h4
      rcases h4 with ((h4|h4)|h4)|h4
      ·exfalso
       rcases h4 with h4|h4
       ·exact hne h4
       ·cases h4
      ·exact .inl h4
      ·exact .inr (.inl h4)
      ·exact .inr (.inr h4)
    have hTS:∀i,i≤n→ZtV ts (((ops.toList.zip rs).take i).map fun q=>(q.1.dst,q.2.d))=tsX n dst D ts (fun j=>decide (j < i)):=by
     intro i
     induction i with
     |zero=>
      intro _
      rw [ZuX (fun j _=>by simp)]
      simp [ZtV]
     |succ i ih=>
      intro hi
      have h1:i < ops.toList.length:=by rw [hn];omega
      have h2:i < rs.length:=by rw [hrl];omega
      have hz:(ops.toList.zip rs)[i]? =some (ops.toList[i],rs[i]):=by
       rw [List.getElem?_zip_eq_some]
       exact ⟨yw h1,yw h2⟩
      rw [List.take_add_one,hz]
      simp only [Option.toList_some,yan,yx,List.map_nil]
      rw [ZDs,ih (by omega)]
      have hd:ops.toList[i].dst=dst i:=by show _=ZfL ops.toList i;unfold ZfL;rw [yw h1];rfl
      have hD:rs[i].d=D i:=by simp [D,yw h2]
      rw [hd,hD]
      exact ZBL hu (by omega) (by simp) (fun j _=>by
       by_cases hj:j < i <;> by_cases hj2:j=i <;> simp [hj,hj2] <;> omega)
    have hspec':∀(i:Nat) (o:Oper),ops[i]? =some o→∃r,rs[i]? =some r∧AllP r.C∧evG P ops o (ZH (XB ops o) 0 (tsX n dst D ts (fun j=>decide (j < i)))) r.H r.hs=some (r.C,r.d,r.H',r.hs')∧
     r.cls=clsOf P o (ZH (XB ops o) 0 (tsX n dst D ts (fun j=>decide (j < i)))) r.H r.hs∧
     (r.rd=ZC3 P o (ZH (XB ops o) 0 (tsX n dst D ts (fun j=>decide (j < i))))∧r.tc=ZvU P o (ZH (XB ops o) 0 (tsX n dst D ts (fun j=>decide (j < i)))) r.hs∧r.push=Zgu o∧r.loc=Zmp o r.hs)∧(i=0→r.H=σ.H)∧(∀r2,rs[i+1]? =some r2→r2.H=r.H')∧(i+1=n→H1=r.H'):=by
     intro i o ho
     have hi:i < n:=(ycs.1 ho).1
     obtain ⟨r,k1,k2,k3,k4,k45,k5,k6,k7⟩:=hspec i o (by rw [hopl];exact ho)
     rw [hTS i (by omega)] at k3 k4 k45
     exact ⟨r,k1,k2,k3,k4,k45,k5,k6,fun hl=>k7 (by rw [hn];exact hl)⟩
    let HH:Nat→List Ent:=fun i=>if i < n then ((rs[i]?).map (·.H)).getD [] else H1
    have hHH:∀i r,rs[i]? =some r→HH i=r.H∧HH (i+1)=r.H':=by
     intro i r hr
     have hi:i < n:=by rw [←hrl];exact (yj.1 hr).1
     have hio:ops[i]? =some ops[i]:=ycg hi
     obtain ⟨r',k1,_,_,_,_,_,k6,k7⟩:=hspec' i _ hio
     rw [hr] at k1
     cases k1
     refine ⟨by simp [HH,hi,hr], ?_⟩
     by_cases h2:i+1 < n
     ·have h3:i+1 < rs.length:=by rw [hrl];exact h2
      have h4:=yw h3
      simp only [HH,h2,if_true,h4,yy,Option.getD_some]
      exact k6 _ h4
     ·simp only [HH,h2,if_false]
      exact k7 (by omega)
    have hcl:∀i r,rs[i]? =some r→cls i=r.cls:=by
     intro i r hr
     simp [cls,List.getD,hr]
    have hstay:∀i,i < n→cls i≠2→HH (i+1)=HH i:=by
     intro i hi h2
     have hio:ops[i]? =some ops[i]:=ycg hi
     obtain ⟨r,k1,_,k3,k4,_⟩:=hspec' i _ hio
     rw [(hHH i r k1).1,(hHH i r k1).2]
     exact ZEF k3 (by rw [←k4, ←hcl i r k1];exact h2)
    have hlev:∀(i k:Nat),i+k≤n→(∀e,i≤e→e < i+k→cls e≠2)→HH (i+k)=HH i:=by
     intro i k
     induction k with
     |zero=>intro _ _;rfl
     |succ k ih=>
      intro hk he
      rw [←ybw,hstay (i+k) (by omega) (he _ (by omega) (by omega)),ih (by omega) (fun e h1 h2=>he e h1 (by omega))]
    let Lev:(Nat→Bool)→Nat→Prop:=fun X i=>i≤n∧∀e,e < n→cls e=2→(X e=true↔e < i)
    have hsameLev:∀(X:Nat→Bool) (i k:Nat),Lev X i→Lev X k→HH i=HH k:=by
     have main:∀(X:Nat→Bool) (i k:Nat),i≤k→Lev X i→Lev X k→HH i=HH k:=by
      intro X i k hik h1 h2
      have:=hlev i (k - i) (by have:=h2.1;omega) (fun e he1 he2 hce=>by
       have hen:e < n:=by have:=h2.1;omega
       have h3:=(h1.2 e hen hce)
       have h4:=(h2.2 e hen hce)
       have:X e=true:=h4.2 (by omega)
       have:=h3.1 this
       omega)
      rw [←this]
      congr 1
      omega
     intro X i k h1 h2
     rcases Nat.le_total i k with h3|h3
     ·exact main X i k h3 h1 h2
     ·exact (main X k i h3 h2 h1).symm
    have hcle:∀i,i < n→cls i≤2:=by
     intro i hi
     obtain ⟨r,k1,_,k3,k4,_⟩:=hspec' i _ (ycg hi)
     rw [hcl i r k1,k4]
     exact ZEI
    have hpsh:∀i r,rs[i]? =some r→r.push=true→cls i=2∧∃E,HH (i+1)=HH i++E∧∀o,ops[i]? =some o→∀H2,H2.length=(HH i).length→evG P ops o (ZH (XB ops o) 0 (tsX n dst D ts (fun j=>decide (j < i)))) H2 r.hs=some (r.C,r.d,H2++E,r.hs'):=by
     intro i r hr hp
     have hi:i < n:=by rw [←hrl];exact (yj.1 hr).1
     have hio:ops[i]? =some ops[i]:=ycg hi
     obtain ⟨r',k1,_,k3,k4,k45,_⟩:=hspec' i _ hio
     rw [hr] at k1
     cases k1
     rw [k45.2.2.1] at hp
     obtain ⟨q1,E,q2,_⟩:=Zyi (H2:=r.H) k3 hp rfl
     refine ⟨by rw [hcl i r hr,k4,q1],E,by rw [(hHH i r hr).1,(hHH i r hr).2,q2],fun o ho H2 hl=> ?_⟩
     rw [hio] at ho
     cases ho
     obtain ⟨_,E2,q3,q4⟩:=Zyi (H2:=H2) k3 hp (by rw [hl,(hHH i r hr).1])
     rw [q2] at q3
     rw [List.append_cancel_left q3]
     exact q4
    have hlocc:∀i r,rs[i]? =some r→r.loc=true→cls i≠1∧(HH (i+1)).length=(HH i).length∧∀o,ops[i]? =some o→∀E,evG P ops o (ZH (XB ops o) 0 (tsX n dst D ts (fun j=>decide (j < i)))) (HH i++E) r.hs=some (r.C,r.d,HH (i+1)++E,r.hs'):=by
     intro i r hr hp
     have hi:i < n:=by rw [←hrl];exact (yj.1 hr).1
     have hio:ops[i]? =some ops[i]:=ycg hi
     obtain ⟨r',k1,_,k3,k4,k45,_⟩:=hspec' i _ hio
     rw [hr] at k1
     cases k1
     rw [k45.2.2.2] at hp
     obtain ⟨q1,q2,q3⟩:=ZHe k3 hp
     refine ⟨by rw [hcl i r hr,k4];exact q1,by rw [(hHH i r hr).1,(hHH i r hr).2,q2],fun o ho E=> ?_⟩
     rw [hio] at ho
     cases ho
     rw [(hHH i r hr).1,(hHH i r hr).2]
     exact q3 E
    let Psh:Nat→Prop:=fun i=>∃r,rs[i]? =some r∧r.push=true
    let Loc:Nat→Prop:=fun i=>∃r,rs[i]? =some r∧r.loc=true
    let Pu:Nat→Prop:=fun i=>∃r,rs[i]? =some r∧r.push=true∧r.H'.length=r.H.length+1∧∀k q,k < i→rs[k]? =some q→q.H.length≤r.H.length
    have hcomm:∀i j,Zfg rs c0 i j=true→(Loc c0∨Pu c0)∧((i=c0∧c0 < j∧Psh j)∨(j=c0∧c0 < i∧Psh i)):=by
     intro i j h
     have hget:∀(f:Rec→Bool) (k:Nat),((rs[k]?).map f).getD false=true→∃r,rs[k]? =some r∧f r=true:=by
      intro f k hk
      cases hr:rs[k]? with
      |none=>rw [hr] at hk;cases hk
      |some r=>rw [hr] at hk;exact ⟨r,rfl,hk⟩
     unfold Zfg at h
     simp only [yg,ycb,beq_iff_eq,decide_eq_true_eq] at h
     obtain ⟨h1,h2⟩:=h
     refine ⟨?_, ?_⟩
     ·obtain ⟨r,q1,q2⟩:=hget _ _ h1
      unfold cOk at q2
      simp only [ycb,yg,beq_iff_eq,yaw,decide_eq_true_eq] at q2
      rcases q2 with q2|⟨⟨q2,q3⟩,q4⟩
      ·exact .inl ⟨r,q1,q2⟩
      ·refine .inr ⟨r,q1,q2,q3,fun k q hk hq=>q4 q ?_⟩
       rw [List.mem_iff_getElem?]
       exact ⟨k,by rw [List.getElem?_take,if_pos hk];exact hq⟩
     rcases h2 with ⟨⟨h3,h4⟩,h5⟩|⟨⟨h3,h4⟩,h5⟩
     ·exact .inl ⟨h3,h4,hget _ _ h5⟩
     ·exact .inr ⟨h3,h4,hget _ _ h5⟩
    let CG:List Ent→Prop:=fun G=>(Loc c0∧G=[])∨(Pu c0∧G=[.gone])
    have hGl:∀G,CG G→(HH (c0+1)).length=(HH c0).length+G.length:=by
     rintro G (⟨⟨r,q1,q2⟩,rfl⟩|⟨⟨r,q1,_,q2,_⟩,rfl⟩)
     ·rw [(hlocc c0 r q1 q2).2.1]
      rfl
     ·rw [(hHH c0 r q1).1,(hHH c0 r q1).2,q2]
      rfl
    let Hole:(Nat→Bool)→List Ent→Prop:=fun X Hc=>∃lv e0 E G,c0 < n∧CG G∧cls c0=2∧lv≤n∧X c0=false∧(∀e,e < n→cls e=2→(X e=true↔e < lv∧e≠c0))∧(c0 < e0∧e0 < lv∧cls e0=2∧HH e0=HH (c0+1))∧
     (∀e,c0 < e→e < lv→cls e=2→Psh e)∧Hc=HH c0++(G++E)∧HH lv=HH (c0+1)++E
    let Inv:(Nat→Bool)→List Ent→Prop:=fun X Hc=>(∃i,Lev X i∧Hc=HH i)∨Hole X Hc
    refine wp_region_any hm ?_
    have walk:∀(fuel:Nat) (listed:Array Bool) (a:Act) (σ1:Sg),listed.size=n→unl (fun j=>listed.getD j false) n≤fuel→ZEC ops (fun j=>listed.getD j false)→To σ σ1→Ok σ1→
     RepT σ1 (tsX n dst D ts (fun j=>listed.getD j false)) a→Inv (fun j=>listed.getD j false) σ1.H→wpAny P .any ops Q fuel listed a σ1.w:=by
     intro fuel
     induction fuel with
     |zero=>
      intro listed a σ1 hsz hun hcl1 to1 ok1 hrep1 hlv
      have hall:=ZBM (Nat.le_zero.1 hun)
      refine ⟨?_, ?_⟩
      ·apply List.eq_nil_iff_forall_not_mem.2
       intro j hj
       obtain ⟨h1,o,ho,_⟩:=mem_ready.1 hj
       have hjn:j < n:=(ycs.1 ho).1
       have h2:=hall j hjn
       have hjs:j < listed.size:=by omega
       simp only [Array.getD,hjs,dif_pos] at h1 h2
       rw [h1] at h2
       cases h2
      ·rcases hlv with ⟨i,hi,hH⟩|⟨lv,e0,E,G,g1,_,_,_,g2,_⟩
       case inr=>exact absurd ((hall c0 g1).symm.trans g2) (by simp)
       have hln:Lev (fun j=>listed.getD j false) n:=⟨yi _,fun e he _=>⟨fun _=>he,fun _=>hall e he⟩⟩
       refine hQ a σ1 ?_ to1 ok1 ?_
       ·rw [hH,hsameLev _ i n hi hln]
        simp [HH]
       ·have:ts1=tsX n dst D ts (fun j=>listed.getD j false):=by
         have e1:=hTS n (yi _)
         rw [ycl (by rw [List.length_zip,hn,hrl];simp)] at e1
         rw [hts',e1]
         apply List.ext_getElem?
         intro t
         by_cases ht:t < ts.length
         ·rw [Zbl ht,Zbl ht]
          congr 1
          by_cases hex:∃j,j < n∧dst j=some t
          ·obtain ⟨j,h1,h2⟩:=hex
           rw [Q1 hu h1 (by simpa using h1) h2,Q1 hu h1 (hall j h1) h2]
          ·rw [Q2 (fun j h1 _ h3=>hex ⟨j,h1,h3⟩),Q2 (fun j h1 _ h3=>hex ⟨j,h1,h3⟩)]
         ·rw [yam (by rw [XN];omega),yam (by rw [XN];omega)]
        rw [this]
        exact hrep1
     |succ fuel ih=>
      intro listed a σ1 hsz hun hcl1 to1 ok1 hrep1 hlv
      refine ⟨fun hr=> ?_,fun i hi=> ?_⟩
      ·
       have hall:∀j,j < n→listed.getD j false=true:=by
        intro j
        induction j using Nat.strongRecOn with
        |_ j ihj=>
         intro hj
         cases hx:listed.getD j false with
         |true=>rfl
         |false=>
          have hjs:j < listed.size:=by omega
          have hjo:ops[j]? =some ops[j]:=ycg hj
          have:j∈Region.ready .any ops listed:=by
           refine mem_ready.2 ⟨?_,ops[j],hjo,fun e he hb=> ?_⟩
           ·simp only [Array.getD,hjs,dif_pos] at hx ⊢
            exact hx
           ·have hlt:=ZrF ops.toList 0 hback j ops[j] (by rw [hopl];exact hjo) e he hb
            exact ihj e.on (by omega) (by omega)
          rw [hr] at this
          cases this
       rcases hlv with ⟨i,hi,hH⟩|⟨lv,e0,E,G,g1,_,_,_,g2,_⟩
       case inr=>exact absurd ((hall c0 g1).symm.trans g2) (by simp)
       have hln:Lev (fun j=>listed.getD j false) n:=⟨yi _,fun e he _=>⟨fun _=>he,fun _=>hall e he⟩⟩
       refine hQ a σ1 ?_ to1 ok1 ?_
       ·rw [hH,hsameLev _ i n hi hln]
        simp [HH]
       ·have:ts1=tsX n dst D ts (fun j=>listed.getD j false):=by
         have e1:=hTS n (yi _)
         rw [ycl (by rw [List.length_zip,hn,hrl];simp)] at e1
         rw [hts',e1]
         apply List.ext_getElem?
         intro t
         by_cases ht:t < ts.length
         ·rw [Zbl ht,Zbl ht]
          congr 1
          by_cases hex:∃j,j < n∧dst j=some t
          ·obtain ⟨j,h1,h2⟩:=hex
           rw [Q1 hu h1 (by simpa using h1) h2,Q1 hu h1 (hall j h1) h2]
          ·rw [Q2 (fun j h1 _ h3=>hex ⟨j,h1,h3⟩),Q2 (fun j h1 _ h3=>hex ⟨j,h1,h3⟩)]
         ·rw [yam (by rw [XN];omega),yam (by rw [XN];omega)]
        rw [this]
        exact hrep1
      ·
       obtain ⟨h1,o,ho,hedge⟩:=mem_ready.1 hi
       have hin:i < n:=(ycs.1 ho).1
       have his:i < listed.size:=by omega
       let X:Nat→Bool:=fun j=>listed.getD j false
       have hXi:X i=false:=by
        simp only [X,Array.getD,his,dif_pos] at h1 ⊢
        exact h1
       have hancL:∀j,(A.getD i 0).testBit j=true→X j=true:=by
        intro j hj
        rw [hA i o ho] at hj
        unfold Zgv at hj
        rcases Zom A i j _ _ hj with h|⟨e,e1,e2,e3,e4⟩
        ·simp at h
        ·have he:=hedge e (by simpa using e1) e2
         rcases e4 with e4|e4
         ·rw [←e4];exact he
         ·exact ZrD hcl1 hA e.on ⟨ops[e.on],ycg (by omega)⟩ he j e4
       have hancR:∀j,j < n→X j=true→(A.getD j 0).testBit i=true→False:=by
        intro j hj hx hb
        have:=ZrD hcl1 hA j ⟨ops[j],ycg hj⟩ hx i hb
        have hXi':(listed.getD i false)=false:=hXi
        rw [hXi'] at this
        cases this
       obtain ⟨r,k1,k2,k3,k4,k45,_,_,_⟩:=hspec' i o ho
       have hmask:ZH (XB ops o) 0 (tsX n dst D ts X)=ZH (XB ops o) 0 (tsX n dst D ts (fun j=>decide (j < i))):=by
        refine ZDq hu (fun j t hj hd ht=> ?_)
        by_cases hij:i=j
        ·subst hij
         rw [hXi]
         simp
        ·have:=hL i o j t ho hj hd ht hij
         split at this
         ·rename_i hlt
          rw [hancL j this]
          simp [hlt]
         ·rename_i hge
          have hxf:X j=false:=by
           cases hx:X j with
           |false=>rfl
           |true=>exact (hancR j hj hx this).elim
          rw [hxf]
          simp [hge]
       have hXi2:X i=false:=hXi
       have hgetset:∀j,(listed.setIfInBounds i true).getD j false=(X j || decide (j=i)):=by
        intro j
        by_cases hji:j=i
        ·subst hji
         simp [Array.getD,his]
        ·simp only [X,ycu,Array.getElem?_setIfInBounds,hji,decide_false,Bool.or_false]
         rw [if_neg (fun h=>hji h.symm)]
       have hord:∀e,e < n→cls i≠0→cls e=2→i≠e→¬(cls i=1∧Zix rs i e=true)→¬Zfg rs c0 i e=true→(X e=true↔e < i):=by
        intro e he h0 hce hie hf hcm
        rcases hE0 i e hin he h0 hce hie with h3|h3|h3
        ·split at h3
         ·rename_i hlt
          exact ⟨fun _=>hlt,fun _=>hancL e h3⟩
         ·rename_i hge
          exact ⟨fun hx=>(hancR e he hx h3).elim,fun h=>absurd h hge⟩
        ·exact absurd h3 hf
        ·exact absurd h3 hcm
       have hkeep:cls i≠2→Inv (fun j=>(listed.setIfInBounds i true).getD j false) σ1.H:=by
        intro h2
        have hX':∀e,cls e=2→((listed.setIfInBounds i true).getD e false=true↔X e=true):=by
         intro e hce
         have hne:¬e=i:=by
          rintro rfl
          exact h2 hce
         rw [hgetset e]
         simp only [hne,decide_false,Bool.or_false]
        rcases hlv with ⟨lv,hlv1,hlv2⟩|⟨lv,e0,E,G,g1,g2,g3,g4,g5,g6,g7,g8,g9,g10⟩
        ·exact .inl ⟨lv,⟨hlv1.1,fun e he hce=>(hX' e hce).trans (hlv1.2 e he hce)⟩,hlv2⟩
        ·refine .inr ⟨lv,e0,E,G,g1,g2,g3,g4, ?_,fun e he hce=>(hX' e hce).trans (g6 e he hce),g7,g8,g9,g10⟩
         have:=hX' c0 g3
         show (listed.setIfInBounds i true).getD c0 false=false
         cases hx:(listed.setIfInBounds i true).getD c0 false with
         |false=>rfl
         |true=>
          have h9:=this.1 hx
          have g5':X c0=false:=g5
          rw [g5'] at h9
          cases h9
       let SO:List Ent→Prop:=fun H2=>∀K:Act→World→Prop,(∀v σ2,σ2.H=H2→To σ1 σ2→Ok σ2→RepT σ2 (Zh4 (ZH (XB ops o) 0 (tsX n dst D ts X)) o.dst r.d) (a.put o.dst v)→K (a.put o.dst v) σ2.w)→
        if Region.wanted o (yielded ops a.tmps) then o.wp P a σ1.w K Q else K (a.put o.dst undef) σ1.w
       have soE:∀H2,evG P ops o (ZH (XB ops o) 0 (tsX n dst D ts (fun j=>decide (j < i)))) σ1.H r.hs=some (r.C,r.d,H2,r.hs')→SO H2:=fun H2 h K hK=>by
        rw [←hmask] at h
        exact Zkf (P:=P) (ops:=ops) ok1 (Q0 (XB ops o) hrep1) h k2 K Q hK
       have soG:∀G H2,(G=[]∨G=[.gone])→evG P ops o (ZH (XB ops o) 0 (tsX n dst D ts (fun j=>decide (j < i)))) (σ1.H++G) r.hs=some (r.C,r.d,H2,r.hs')→SO H2:=fun G H2 hG h=>by
        rcases hG with rfl|rfl
        ·rw [List.append_nil] at h
         exact soE H2 h
        ·intro K hK
         rw [←hmask] at h
         obtain ⟨t1,o1⟩:=ZHd ok1
         exact Zkf (P:=P) (ops:=ops) (σ:={ σ1 with m:=σ1.m++[none],H:=σ1.H++[.gone]}) o1 ((Q0 (XB ops o) hrep1).to t1.leaf) h k2 K Q fun v σ2 e1 to2 ok2 hr2=>hK v σ2 e1 (t1.trans to2) ok2 hr2
       have hnow:∃H2,SO H2∧Inv (fun j=>(listed.setIfInBounds i true).getD j false) H2:=by
        by_cases h0:cls i=0
        ·obtain ⟨e1,e2⟩:=ZEE (H2:=σ1.H) k3 (by rw [←k4, ←hcl i r k1];exact h0)
         exact ⟨σ1.H,soE _ e2,hkeep (by omega)⟩
        by_cases h01:cls i=1
        ·have hkc:clsOf P o (ZH (XB ops o) 0 (tsX n dst D ts (fun j=>decide (j < i)))) r.H r.hs=1:=by rw [←k4, ←hcl i r k1];exact h01
         have hnc:∀e,¬Zfg rs c0 i e=true:=by
          intro e hcm
          obtain ⟨q0,q3|q3⟩:=hcomm i e hcm
          ·obtain ⟨rfl,_⟩:=q3
           rcases q0 with ⟨rc,q1,q2⟩|⟨rc,q1,q2,_⟩
           ·exact (hlocc _ rc q1 q2).1 h01
           ·have:=(hpsh _ rc q1 q2).1
            omega
          ·obtain ⟨_,_,rp,q4,q5⟩:=q3
           have:=(hpsh i rp q4 q5).1
           omega
         have hdis:∀e,e < n→cls e=2→¬(X e=true↔e < i)→Zix rs i e=true:=by
          intro e he hce hx
          by_cases hf:Zix rs i e=true
          ·exact hf
          ·exact absurd (hord e he h0 hce (by rintro rfl;omega) (fun h=>hf h.2) (hnc e)) hx
         have hfr:∀k,k < n→Zix rs i k=true→o.guard=none∧∃id,r.rd=some id∧id < (HH k).length∧id < (HH i).length∧(cls k=2→rdE ((HH (k+1))[id]?)=rdE ((HH k)[id]?)):=by
          intro k hk hf
          have hko:ops[k]? =some ops[k]:=ycg hk
          obtain ⟨q,g1,_,g3,g4,g45,_⟩:=hspec' k _ hko
          unfold Zix at hf
          rw [k1,g1] at hf
          dsimp only at hf
          split at hf
          ·rename_i id e1
           simp only [yg,ycb,decide_eq_true_eq] at hf
           have hrd:=k45.1
           rw [e1] at hrd
           unfold ZC3 at hrd
           cases hg:o.guard with
           |some g=>simp [hg] at hrd
           |none=>
            refine ⟨rfl,id,e1,by rw [(hHH k q g1).1];exact hf.1.1,by rw [(hHH i r k1).1];exact hf.1.2,fun hck=> ?_⟩
            rw [(hHH k q g1).1,(hHH k q g1).2]
            rcases hf.2 with hf2|hf2
            ·split at hf2
             ·rename_i l e2
              exact ZDr g3 (by rw [←g4, ←hcl k q g1];exact hck) (by rw [←g45.2.1,e2]) hf.1.1 (by simpa using hf2)
             ·cases hf2
            ·exact @of_decide_eq_true _ (Classical.propDecidable _) hf2
          ·cases hf
         have hchain:∀(id k a:Nat),a+k≤n→(∀e,a≤e→e < a+k→cls e=2→rdE ((HH (e+1))[id]?)=rdE ((HH e)[id]?))→rdE ((HH (a+k))[id]?)=rdE ((HH a)[id]?):=by
          intro id k a
          induction k with
          |zero=>intro _ _;rfl
          |succ k ihk=>
           intro hk he
           rw [←ybw, ←ihk (by omega) (fun e h1 h2=>he e h1 (by omega))]
           by_cases h2:cls (a+k)=2
           ·exact he (a+k) (by omega) (by omega) h2
           ·rw [hstay (a+k) (by omega) h2]
         have hreads:∀id,r.rd=some id→o.guard=none→ZvT P o (ZH (XB ops o) 0 (tsX n dst D ts (fun j=>decide (j < i))))=some id:=by
          intro id e1 hg
          have hrd:=k45.1
          rw [e1] at hrd
          unfold ZC3 at hrd
          rw [hg] at hrd
          exact hrd.symm
         have hfin:o.guard=none→∀id,r.rd=some id→rdE ((HH i)[id]?)=rdE (σ1.H[id]?)→∃H2,SO H2∧Inv (fun j=>(listed.setIfInBounds i true).getD j false) H2:=by
          intro hg id e1 e2
          rw [(hHH i r k1).1] at e2
          exact ⟨σ1.H,soE _ (ZKc k3 hg hkc (ZEz (hreads id e1 hg) e2)),hkeep (by omega)⟩
         rcases hlv with ⟨lv,hlv1,hlv2⟩|⟨lv,e0,E,G,g1,g2,g3,g4,g5,g6,g7,g8,g9,g10⟩
         ·by_cases hsame:Lev X i
          ·have hHi:σ1.H=r.H:=by
            rw [hlv2,hsameLev X lv i hlv1 hsame,(hHH i r k1).1]
           have hr':r.H'=r.H:=by
            have:=hstay i hin (by omega)
            rw [(hHH i r k1).1,(hHH i r k1).2] at this
            exact this
           refine ⟨σ1.H,soE _ (by rw [hHi,k3,hr']),hkeep (by omega)⟩
          ·have hex:∃e,e < n∧cls e=2∧¬(X e=true↔e < i):=by
            refine Classical.byContradiction fun hno=>hsame ⟨by omega,fun e he hce=> ?_⟩
            exact Classical.byContradiction fun h=>hno ⟨e,he,hce,h⟩
           obtain ⟨e1,he1,hce1,hx1⟩:=hex
           obtain ⟨hg,id,hid,_⟩:=hfr e1 he1 (hdis e1 he1 hce1 hx1)
           refine hfin hg id hid ?_
           have hln:=hlv1.1
           have hst:∀e,e < n→cls e=2→¬(X e=true↔e < i)→rdE ((HH (e+1))[id]?)=rdE ((HH e)[id]?):=by
            intro e he hce hx
            obtain ⟨_,id',hid',_,_,h5⟩:=hfr e he (hdis e he hce hx)
            rw [hid] at hid'
            cases hid'
            exact h5 hce
           rw [hlv2]
           rcases Nat.le_total lv i with hle|hle
           ·have:=hchain id (i - lv) lv (by omega) (fun e h1 h2 h3=>hst e (by omega) h3 (fun hx=>by
             have h4:=(hlv1.2 e (by omega) h3).1 (hx.2 (by omega))
             omega))
            rw [show lv+(i - lv)=i by omega] at this
            exact this
           ·have:=hchain id (lv - i) i (by omega) (fun e h1 h2 h3=>hst e (by omega) h3 (fun hx=>by
             have h4:=hx.1 ((hlv1.2 e (by omega) h3).2 (by omega))
             omega))
            rw [show i+(lv - i)=lv by omega] at this
            exact this.symm
         ·
          have hic:¬i=c0:=by
           rintro rfl
           omega
          obtain ⟨ge1,ge2,ge3,ge4⟩:=g7
          have hclen:=hGl G g2
          have hxe0:X e0=true:=(g6 e0 (by omega) ge3).2 ⟨ge2,by omega⟩
          have hxc0:X c0=false:=g5
          have hid:o.guard=none∧∃id,r.rd=some id∧id < (HH c0).length:=by
           by_cases hlt:c0 < i
           ·obtain ⟨hg,id,q1,q2,_⟩:=hfr c0 g1 (hdis c0 g1 g3 (fun hx=>by
             rw [hxc0] at hx
             have:=hx.2 hlt
             cases this))
            exact ⟨hg,id,q1,q2⟩
           ·obtain ⟨hg,id,q1,q2,q20,_⟩:=hfr e0 (by omega) (hdis e0 (by omega) ge3 (fun hx=>by
             have:=hx.1 hxe0
             omega))
            refine ⟨hg,id,q1, ?_⟩
            rcases g2 with ⟨_,rfl⟩|⟨⟨rc,p1,_,_,p4⟩,rfl⟩
            ·rw [ge4,hclen] at q2
             exact q2
            ·have:=p4 i r (by omega) k1
             rw [(hHH i r k1).1] at q20
             rw [(hHH c0 rc p1).1]
             omega
          obtain ⟨hg,id,hid,hidl⟩:=hid
          refine hfin hg id hid ?_
          have hst:∀e,e < n→cls e=2→¬(X e=true↔e < i)→rdE ((HH (e+1))[id]?)=rdE ((HH e)[id]?):=by
           intro e he hce hx
           obtain ⟨_,id',hid',_,_,h5⟩:=hfr e he (hdis e he hce hx)
           rw [hid] at hid'
           cases hid'
           exact h5 hce
          rw [g9,yah hidl]
          by_cases hlt:c0 < i
          ·
           have hc1:rdE ((HH (c0+1))[id]?)=rdE ((HH c0)[id]?):=hst c0 g1 g3 (fun hx=>by
            rw [hxc0] at hx
            have:=hx.2 hlt
            cases this)
           have hup:∀k,c0+1+k≤lv→id < (HH (c0+1+k)).length∧rdE ((HH (c0+1+k))[id]?)=rdE ((HH (c0+1))[id]?):=by
            intro k
            induction k with
            |zero=>intro _;exact ⟨by rw [Nat.add_zero,hclen];omega,rfl⟩
            |succ k ihk=>
             intro hk
             obtain ⟨j1,j2⟩:=ihk (by omega)
             rw [←ybw]
             by_cases h2:cls (c0+1+k)=2
             ·obtain ⟨rp,p1,p2⟩:=g8 (c0+1+k) (by omega) (by omega) h2
              obtain ⟨_,E2,p3,_⟩:=hpsh _ rp p1 p2
              rw [p3,yah j1]
              exact ⟨by rw [yl];omega,j2⟩
             ·rw [hstay (c0+1+k) (by omega) h2]
              exact ⟨j1,j2⟩
           rcases Nat.le_total i lv with hle|hle
           ·have:=(hup (i - (c0+1)) (by omega)).2
            rw [show c0+1+(i - (c0+1))=i by omega] at this
            rw [this,hc1]
           ·have h6:=(hup (lv - (c0+1)) (by omega)).2
            rw [show c0+1+(lv - (c0+1))=lv by omega] at h6
            have:=hchain id (i - lv) lv (by omega) (fun e h1 h2 h3=>hst e (by omega) h3 (fun hx=>by
             have h4:=(g6 e (by omega) h3).1 (hx.2 (by omega))
             omega))
            rw [show lv+(i - lv)=i by omega] at this
            rw [this,h6,hc1]
          ·have:=hchain id (c0 - i) i (by omega) (fun e h1 h2 h3=>hst e (by omega) h3 (fun hx=>by
            have h4:=hx.1 ((g6 e (by omega) h3).2 ⟨by omega,by omega⟩)
            omega))
           rw [show i+(c0 - i)=c0 by omega] at this
           exact this.symm
        have h2:cls i=2:=by
         have:=hcle i hin
         omega
        have hord2:∀e,e < n→cls e=2→i≠e→¬Zfg rs c0 i e=true→(X e=true↔e < i):=fun e he hce hie hcm=>hord e he h0 hce hie (fun h=>h01 h.1) hcm
        have hset:∀e,((listed.setIfInBounds i true).getD e false=true↔(X e=true∨e=i)):=by
         intro e
         rw [hgetset e]
         simp
        by_cases hall2:∀e,e < n→cls e=2→(X e=true↔e < i)
        ·
         have hli:Lev X i:=⟨by omega,hall2⟩
         have hHi:σ1.H=r.H:=by
          rcases hlv with ⟨lv,hlv1,hlv2⟩|⟨lv,e0,E,G,g1,g2,g3,g4,g5,g6,g7,g8,g9,g10⟩
          ·rw [hlv2,hsameLev X lv i hlv1 hli,(hHH i r k1).1]
          ·exfalso
           obtain ⟨ge1,ge2,ge3,ge4⟩:=g7
           have q1:=(hall2 e0 (by omega) ge3).1 ((g6 e0 (by omega) ge3).2 ⟨ge2,by omega⟩)
           have q2:=(hall2 c0 g1 g3).2 (by omega)
           have g5':X c0=false:=g5
           rw [g5'] at q2
           cases q2
         rw [←hHi] at k3
         refine ⟨r.H',soE _ k3,.inl ⟨i+1,⟨by omega,fun e he hce=> ?_⟩,((hHH i r k1).2).symm⟩⟩
         refine (hset e).trans ?_
         rw [hall2 e he hce]
         omega
        ·
         have hex:∃e,e < n∧cls e=2∧i≠e∧¬(X e=true↔e < i):=by
          refine Classical.byContradiction fun hno=>hall2 fun e he hce=> ?_
          by_cases hie:i=e
          ·subst hie
           rw [hXi2]
           simp
          ·exact Classical.byContradiction fun h=>hno ⟨e,he,hce,hie,h⟩
         obtain ⟨e1,he1,hce1,hie1,hx1⟩:=hex
         have hcm1:Zfg rs c0 i e1=true:=Classical.byContradiction fun h=>hx1 (hord2 e1 he1 hce1 hie1 h)
         obtain ⟨hLP,hcases⟩:=hcomm i e1 hcm1
         rcases hcases with ⟨hic,hlt1,hpe1⟩|⟨hec,hlt1,hpi⟩
         ·
          subst hic
          have hxe1:X e1=true:=by
           cases hx:X e1 with
           |true=>rfl
           |false=>
            exfalso
            apply hx1
            rw [hx]
            exact ⟨fun h=>(by cases h),fun h=>(by omega)⟩
          rcases hlv with ⟨lv,hlv1,hlv2⟩|⟨lv,e0,E,G,g1,g2,g3,g4,g5,g6,g7,g8,g9,g10⟩
          ·exfalso
           have q1:=(hlv1.2 e1 he1 hce1).1 hxe1
           have q2:=(hlv1.2 i hin h2).2 (by omega)
           have hXi3:X i=false:=hXi
           have q2':X i=true:=q2
           rw [hXi3] at q2'
           cases q2'
          ·have hso:SO (HH (i+1)++E):=by
            rcases g2 with ⟨⟨rc,hrc,hrcl⟩,rfl⟩|⟨⟨rc,hrc,hrp,hrl,_⟩,rfl⟩
            ·rw [hrc] at k1
             cases k1
             obtain ⟨_,_,hcev⟩:=hlocc i r hrc hrcl
             exact soE _ (by rw [g9];exact hcev o ho E)
            ·rw [hrc] at k1
             cases k1
             intro K hK
             have hp:Zgu o=true:=by rw [←k45.2.2.1];exact hrp
             rw [←hmask] at k3
             refine ZEG (P:=P) (ops:=ops) (E:=E) ok1 (Q0 (XB ops o) hrep1) k3 hp hrl (by rw [g9,(hHH i r hrc).1];rfl) K Q fun v σ2 e1 to2 ok2 hr2=>hK v σ2 (by rw [e1,(hHH i r hrc).2]) to2 ok2 hr2
           refine ⟨HH (i+1)++E,hso,.inl ⟨lv,⟨g4,fun e he hce=> ?_⟩,g10.symm⟩⟩
           refine (hset e).trans ?_
           have q:=g6 e he hce
           obtain ⟨ge1,ge2,_⟩:=g7
           constructor
           ·rintro (q1|q1)
            ·exact (q.1 q1).1
            ·omega
           ·intro q1
            by_cases hei:e=i
            ·exact .inr hei
            ·exact .inl (q.2 ⟨q1,hei⟩)
         ·
          subst hec
          have hxc:X e1=false:=by
           cases hx:X e1 with
           |false=>rfl
           |true=>
            exfalso
            apply hx1
            rw [hx]
            exact ⟨fun _=>hlt1,fun _=>rfl⟩
          have hoth:∀e,e < n→cls e=2→e≠e1→(X e=true↔e < i):=by
           intro e he hce hne
           by_cases hie:i=e
           ·subst hie
            rw [hXi2]
            simp
           ·refine hord2 e he hce hie fun hcm=> ?_
            obtain ⟨_,q|q⟩:=hcomm i e hcm
            ·omega
            ·exact hne q.1
          obtain ⟨rp,hrp,hrpp⟩:=hpi
          obtain ⟨_,Ei,hpE,hpev⟩:=hpsh i rp hrp hrpp
          have hexG:∃G,CG G∧(G=[]∨G=[.gone]):=by
           rcases hLP with h|h
           ·exact ⟨[],.inl ⟨h,rfl⟩,.inl rfl⟩
           ·exact ⟨[.gone],.inr ⟨h,rfl⟩,.inr rfl⟩
          rw [hrp] at k1
          cases k1
          rcases hlv with ⟨lv,hlv1,hlv2⟩|⟨lv,e0,E,G,g1,g2,g3,g4,g5,g6,g7,g8,g9,g10⟩
          ·have hlc:Lev X e1:=⟨by omega,fun e he hce=>by
            by_cases hne:e=e1
            ·subst hne
             rw [hxc]
             simp
            ·rw [hoth e he hce hne]
             constructor
             ·intro q
              have q1:=(hlv1.2 e he hce).1 ((hoth e he hce hne).2 q)
              have q2:¬e1 < lv:=fun q3=>by
               have q9:X e1=true:=(hlv1.2 e1 he1 hce1).2 q3
               rw [hxc] at q9
               cases q9
              omega
             ·intro q
              omega⟩
           have hmid:∀e,e1 < e→e < i→cls e≠2:=by
            intro e q1 q2 hce
            have q3:=(hoth e (by omega) hce (by omega)).2 q2
            have q4:=(hlc.2 e (by omega) hce).1 q3
            omega
           have hHi:HH i=HH (e1+1):=by
            have:=hlev (e1+1) (i - (e1+1)) (by omega) (fun e q1 q2=>hmid e (by omega) (by omega))
            rw [show e1+1+(i - (e1+1))=i by omega] at this
            exact this
           have hH1:σ1.H=HH e1:=by rw [hlv2,hsameLev X lv e1 hlv1 hlc]
           obtain ⟨G,hCG,hG2⟩:=hexG
           have hclen:=hGl G hCG
           have hso:SO (HH e1++(G++Ei)):=soG G _ hG2 (by
            rw [←yae,hH1]
            exact hpev o ho (HH e1++G) (by rw [hHi,hclen,yl]))
           refine ⟨HH e1++(G++Ei),hso,.inr ⟨i+1,i,Ei,G,he1,hCG,hce1,by omega, ?_,fun e he hce=> ?_,⟨hlt1,by omega,h2,hHi⟩,fun e q1 q2 q3=> ?_,rfl,by rw [hpE,hHi]⟩⟩
           ·show (listed.setIfInBounds i true).getD e1 false=false
            cases hx:(listed.setIfInBounds i true).getD e1 false with
            |false=>rfl
            |true=>
             rcases (hset e1).1 hx with q|q
             ·rw [hxc] at q
              cases q
             ·omega
           ·refine (hset e).trans ?_
            by_cases hne:e=e1
            ·subst hne
             rw [hxc]
             constructor
             ·rintro (q|q)
              ·cases q
              ·omega
             ·rintro ⟨_,q⟩
              exact absurd rfl q
            ·rw [hoth e he hce hne]
             omega
           ·by_cases hei:e=i
            ·subst hei
             exact ⟨_,hrp,hrpp⟩
            ·exact absurd q3 (hmid e q1 (by omega))
          ·obtain ⟨ge1,ge2,ge3,ge4⟩:=g7
           have hlvi:lv≤i:=by
            rcases Nat.lt_or_ge i lv with q|q
            ·exfalso
             have:=(g6 i hin h2).2 ⟨q,by omega⟩
             have hXi3:X i=false:=hXi
             have q2':X i=true:=this
             rw [hXi3] at q2'
             cases q2'
            ·exact q
           have hHi:HH i=HH lv:=by
            have:=hlev lv (i - lv) (by omega) (fun e q1 q2 hce=>by
             have q3:=(hoth e (by omega) hce (by omega)).2 (by omega)
             have q4:=(g6 e (by omega) hce).1 q3
             omega)
            rw [show lv+(i - lv)=i by omega] at this
            exact this
           have hclen:=hGl G g2
           have hso:SO (σ1.H++Ei):=soE _ (hpev o ho σ1.H (by rw [hHi,g10,g9,yl,yl,yl,hclen];omega))
           refine ⟨σ1.H++Ei,hso,.inr ⟨i+1,e0,E++Ei,G,he1,g2,hce1,by omega, ?_,fun e he hce=> ?_,⟨ge1,by omega,ge3,ge4⟩,fun e q1 q2 q3=> ?_,by rw [g9,yae,yae],by rw [hpE,hHi,g10,yae]⟩⟩
           ·show (listed.setIfInBounds i true).getD e1 false=false
            cases hx:(listed.setIfInBounds i true).getD e1 false with
            |false=>rfl
            |true=>
             rcases (hset e1).1 hx with q|q
             ·rw [hxc] at q
              cases q
             ·omega
           ·refine (hset e).trans ?_
            by_cases hne:e=e1
            ·subst hne
             rw [hxc]
             constructor
             ·rintro (q|q)
              ·cases q
              ·omega
             ·rintro ⟨_,q⟩
              exact absurd rfl q
            ·rw [hoth e he hce hne]
             omega
           ·by_cases hei:e=i
            ·subst hei
             exact ⟨_,hrp,hrpp⟩
            ·have q4:=(hoth e (by omega) q3 (by omega)).2 (by omega)
             have q5:=(g6 e (by omega) q3).1 q4
             exact g8 e q1 q5.1 q3
       obtain ⟨H2,hso2,hinv⟩:=hnow
       have key:=hso2 (wpAny P .any ops Q fuel (listed.setIfInBounds i true)) (fun v σ2 e1 to2 ok2 hrep2=>by
        have hgetset:∀j,(listed.setIfInBounds i true).getD j false=(X j || decide (j=i)):=by
         intro j
         by_cases hji:j=i
         ·subst hji
          simp [Array.getD,his]
         ·simp only [X,ycu,Array.getElem?_setIfInBounds,hji,decide_false,Bool.or_false]
          rw [if_neg (fun h=>hji h.symm)]
        refine ih _ _ σ2 (by simpa using hsz) ?_ ?_ (to1.trans to2) ok2 ?_ (by rw [e1];exact hinv)
        ·have:=Zym (Y:=fun j=>(listed.setIfInBounds i true).getD j false) hXi hin (fun j _=>hgetset j)
         have hX':unl X n≤fuel+1:=hun
         omega
        ·intro j o' hj hx e he hb
         show (listed.setIfInBounds i true).getD e.on false=true
         rw [hgetset]
         have hx':(listed.setIfInBounds i true).getD j false=true:=hx
         rw [hgetset] at hx'
         by_cases hji:j=i
         ·subst hji
          rw [ho] at hj
          cases hj
          have:X e.on=true:=hedge e he hb
          rw [this];rfl
         ·simp only [hji,decide_false,Bool.or_false] at hx'
          have:X e.on=true:=hcl1 j o' hj hx' e he hb
          rw [this];rfl
        ·have hd:o.dst=dst i:=by simp [dst,ZfL,ho]
         have hD:r.d=D i:=by simp [D,k1]
         have hput:=ZBL (ts0:=ts) (D:=D) hu hin hXi (fun j (_:j < n)=>hgetset j)
         rw [←hput, ←hd, ←hD]
         exact ZIO (ZmF _ _ _) (hrep1.to to2.leaf) hrep2)
       show wpOp P ops Q i _ a σ1.w
       unfold wpOp
       rw [ho]
       by_cases hw:Region.wanted o (yielded ops a.tmps)=true
       ·rw [if_pos hw] at key
        simp only [hw,if_true]
        exact .inl key
       ·rw [if_neg hw] at key
        simp only [hw]
        exact key
    have hdr2:σ.w.grownBy { σ.w with drawn:=σ.w.drawn+1} none:=by
     exact ⟨rfl,rfl,rfl,yi _,fun _ _ _=>rfl⟩
    obtain ⟨to0,ok0⟩:=Zms ok hdr2
    have hfalse:∀j,(Array.replicate ops.size false).getD j false=false:=by
     intro j
     by_cases hj:j < ops.size <;> simp [Array.getD,hj]
    refine walk ops.size (Array.replicate ops.size false) a { σ with w:={ σ.w with drawn:=σ.w.drawn+1}} (by simp [n]) ?_ ?_ to0 ok0 ?_ (.inl ⟨0,⟨Nat.zero_le _,fun e _ _=> ?_⟩, ?_⟩)
    ·exact ZEJ
    ·intro i o _ hx
     have hx':(Array.replicate ops.size false).getD i false=true:=hx
     rw [hfalse i] at hx'
     cases hx'
    ·rw [ZuX (fun j _=>hfalse j)]
     exact hrep.to to0.leaf
    ·show (Array.replicate ops.size false).getD e false=true↔e < 0
     rw [hfalse e]
     simp
    ·show σ.H=HH 0
     by_cases h0:0 < n
     ·obtain ⟨r,k1,_,_,_,_,k5,_⟩:=hspec' 0 _ (ycg h0)
      rw [(hHH 0 r k1).1,k5 rfl]
     ·have:ops.toList=[]:=yba (by omega)
      simp only [HH,h0,if_false]
      exact (hnil this).symm
   ·cases h
  ·cases h
 ·cases h
end
end Go.Ev
end
section
namespace Go.Ev
section
variable {P:Program}
theorem ZeM {σ:Sg} {a:Act}:∀{mask:List Nat} {ts:List Dv},RepT σ ts a→RepT σ (Zmq ts mask) a
 |[],_,h=>h
 |i::r,ts,h=>by
  refine ZeM (mask:=r) ⟨by simpa using h.size,fun j d hj=> ?_,h.defers⟩
  rw [ybj] at hj
  split at hj
  ·split at hj
   ·cases hj;exact Xg
   ·cases hj
  ·exact h.at_ j d hj
theorem Q4:∀(c:Code) (ts:List Dv) (H:List Ent) (hs hs':List Hint) (C:List Prop) (ex:Ex) (ts':List Dv) (H':List Ent),ev P c ts H hs=some (C,ex,ts',H',hs')→AllP C→XM P c ts H ex ts' H'
 |.skip,ts,H,hs,hs',C,ex,ts',H',h,hc=>by
  simp only [ev,yf,yh] at h
  obtain ⟨rfl,rfl,rfl,rfl,rfl⟩:=h
  exact fun σ a ok hH hrep=>wp_skip ⟨rfl,σ,rfl,hH,To.refl σ,ok,hrep⟩
 |.label _,ts,H,hs,hs',C,ex,ts',H',h,hc=>by
  simp only [ev,yf,yh] at h
  obtain ⟨rfl,rfl,rfl,rfl,rfl⟩:=h
  exact fun σ a ok hH hrep=>wp_label ⟨rfl,σ,rfl,hH,To.refl σ,ok,hrep⟩
 |.region id ops draw,ts,H,hs,hs',C,ex,ts',H',h,hc=>by
  cases draw with
  |true=>
   simp only [ev,if_true] at h
   simp only [yo,yh] at h
   obtain ⟨⟨C1,ts1,H1,hs1⟩,h1,rfl,rfl,rfl,rfl,rfl⟩:=h
   intro σ a ok hH hrep
   subst hH
   exact Zv6 ok hrep h1 hc _ fun a' σ' e1 to ok' hrep'=>⟨rfl,σ',rfl,e1,to,ok',hrep'⟩
  |false=>
   simp only [ev,Bool.false_eq_true,if_false] at h
   simp only [yo,yh] at h
   obtain ⟨⟨C1,ts1,H1,hs1⟩,h1,rfl,rfl,rfl,rfl,rfl⟩:=h
   intro σ a ok hH hrep
   subst hH
   refine wp_region ?_
   have:=Zpn (P:=P) (ops:=ops) (fun e a' w'=>e=Ex.normal.to∧∃σ',σ'.w=w'∧σ'.H=H1∧To σ σ'∧Ok σ'∧RepT σ' ts1 a') ops.toList 0 ts σ a hs hs1 C1 H1 (fun j=>by simp) ok hrep h1 hc
    (fun a' σ' e1 to ok' hrep'=>⟨rfl,σ',rfl,e1,to,ok',hrep'⟩)
   rw [List.range_eq_range']
   simpa using this
 |.seq x y,ts,H,hs,hs',C,ex,ts',H',h,hc=>by
  simp only [ev] at h
  split at h
  ·rename_i C1 ts1 H1 hs1 h1
   split at h
   ·rename_i C2 ex2 ts2 H2 hs2 h2
    simp only [yf,yh] at h
    obtain ⟨rfl,rfl,rfl,rfl,rfl⟩:=h
    obtain ⟨c1,c2⟩:=Zi.1 hc
    have r1:=Q4 x _ _ _ _ _ _ _ _ h1 c1
    have r2:=Q4 y _ _ _ _ _ _ _ _ h2 c2
    intro σ a ok hH hrep
    refine wp_seq (wp_mono (r1 σ a ok hH hrep) ?_)
    rintro e a' w' ⟨rfl,σ1,rfl,e1,to1,ok1,hrep1⟩
    refine wp_mono (r2 σ1 a' ok1 e1 hrep1) ?_
    rintro e a'' w'' ⟨rfl,σ2,rfl,e2,to2,ok2,hrep2⟩
    exact ⟨rfl,σ2,rfl,e2,to1.trans to2,ok2,hrep2⟩
   ·cases h
  ·rename_i r hne
   have r1:=Q4 x _ _ _ _ _ _ _ _ h hc
   intro σ a ok hH hrep
   refine wp_seq (wp_mono (r1 σ a ok hH hrep) ?_)
   rintro e a' w' ⟨rfl,hq⟩
   cases ex with
   |normal=>exact absurd h (hne _ _ _ _)
   |exit id=>exact ⟨rfl,hq⟩
   |ret=>exact ⟨rfl,hq⟩
 |.cond c x y,ts,H,hs,hs',C,ex,ts',H',h,hc=>by
  simp only [ev] at h
  split at h
  ·rename_i t hs1 hcv
   simp only [yo,yh] at h
   obtain ⟨⟨C1,r⟩,h1,rfl,rfl⟩:=h
   obtain ⟨c0,c1⟩:=hc
   have r1:=Q4 x _ _ _ _ _ _ _ _ h1 c1
   intro σ a ok hH hrep
   have hv:=Zj (P:=P) hrep 0 c
   rw [hcv] at hv
   exact wp_cond_true (by rw [Ym hv,c0]) (r1 σ a ok hH hrep)
  ·rename_i t hs1 hcv
   simp only [yo,yh] at h
   obtain ⟨⟨C1,r⟩,h1,rfl,rfl⟩:=h
   obtain ⟨c0,c1⟩:=hc
   have r1:=Q4 y _ _ _ _ _ _ _ _ h1 c1
   intro σ a ok hH hrep
   have hv:=Zj (P:=P) hrep 0 c
   rw [hcv] at hv
   exact wp_cond_false (by rw [Ym hv,c0]) (r1 σ a ok hH hrep)
  ·cases h
 |.block id body,ts,H,hs,hs',C,ex,ts',H',h,hc=>by
  simp only [ev] at h
  split at h
  ·rename_i C1 id' ts1 H1 hs1 h1
   simp only [yf,yh] at h
   obtain ⟨rfl,rfl,rfl,rfl,rfl⟩:=h
   have r1:=Q4 body _ _ _ _ _ _ _ _ h1 hc
   intro σ a ok hH hrep
   refine wp_block (wp_mono (r1 σ a ok hH hrep) ?_)
   rintro e a' w' ⟨rfl,hq⟩
   simp only [Ex.to,Exit.inBlock]
   split
   ·rename_i he
    exact ⟨rfl,hq⟩
   ·rename_i he
    exact ⟨rfl,hq⟩
  ·rename_i r hne
   have r1:=Q4 body _ _ _ _ _ _ _ _ h hc
   intro σ a ok hH hrep
   refine wp_block (wp_mono (r1 σ a ok hH hrep) ?_)
   rintro e a' w' ⟨rfl,hq⟩
   cases ex with
   |normal=>exact ⟨rfl,hq⟩
   |exit id'=>exact absurd h (hne _ _ _ _ _)
   |ret=>exact ⟨rfl,hq⟩
 |.loop body,ts,H,hs,hs',C,ex,ts',H',h,hc=>by
  simp only [ev] at h
  split at h
  ·rename_i mask ex1 ts1 H1 hs1
   split at h
   ·cases h
   ·simp only [yf,yh] at h
    obtain ⟨rfl,rfl,rfl,rfl,rfl⟩:=h
    exact fun σ a ok hH hrep=>hc.1 σ a ok hH (ZeM hrep)
  ·cases h
 |.scope body,ts,H,hs,hs',C,ex,ts',H',h,hc=>by
  simp only [ev] at h
  have r1:=Q4 body _ _ _ _ _ _ _ _ h hc
  intro σ a ok hH hrep
  refine wp_scope_straight (wp_mono (r1 σ a ok hH hrep) ?_)
  rintro e a' w' ⟨rfl,hq⟩
  cases ex <;> exact ⟨rfl,hq⟩
 |.exit id,ts,H,hs,hs',C,ex,ts',H',h,hc=>by
  simp only [ev,yf,yh] at h
  obtain ⟨rfl,rfl,rfl,rfl,rfl⟩:=h
  exact fun σ a ok hH hrep=>wp_exit ⟨rfl,σ,rfl,hH,To.refl σ,ok,hrep⟩
 |.ret,ts,H,hs,hs',C,ex,ts',H',h,hc=>by
  simp only [ev,yf,yh] at h
  obtain ⟨rfl,rfl,rfl,rfl,rfl⟩:=h
  exact fun σ a ok hH hrep=>wp_ret ⟨rfl,σ,rfl,hH,To.refl σ,ok,hrep⟩
 |.rangeFunc _ _ _ _,ts,H,hs,hs',C,ex,ts',H',h,hc=>by simp [ev] at h
 |.goto _,ts,H,hs,hs',C,ex,ts',H',h,hc=>by simp [ev] at h
 |.refuse _,ts,H,hs,hs',C,ex,ts',H',h,hc=>by simp [ev] at h
def ZuY (P:Program) (body:Code) (ts:List Dv) (H:List Ent) (ex:Ex) (ts':List Dv) (H':List Ent):Prop:=
 ∀(σ:Sg) (a:Act),Ok σ→σ.H=H→RepT σ ts a→∀(b:Frame) (k:List Item) (cs:List Frame),
  ∃e a' w',(e=ex.to∧∃σ',σ'.w=w'∧σ'.H=H'∧To σ σ'∧Ok σ'∧RepT σ' ts' a')∧Arrives P (lone (b.at a (.code body::.inLoop body::k)) cs σ.w) b k cs e a' w'
theorem ZuZ {body:Code} {ts ts':List Dv} {H H':List Ent} {ex:Ex} (hne:ex≠ .normal) (h:XM P body ts H ex ts' H'):ZuY P body ts H ex ts' H':=by
 intro σ a ok hH hrep b k cs
 obtain ⟨e,a1,w1,hq,harr⟩:=h σ a ok hH hrep b (.inLoop body::k) cs
 obtain ⟨he,hq'⟩:=hq
 subst he
 refine ⟨ex.to,a1,w1,⟨rfl,hq'⟩, ?_⟩
 cases ex with
 |normal=>exact absurd rfl hne
 |exit id=>exact .pass (x:=.inLoop body) rfl (fun _ _=>.inl (by simp [Ex.to])) harr
 |ret=>exact .pass (x:=.inLoop body) rfl (fun _ _=>.inl (by simp [Ex.to])) harr
theorem Zu0 {body:Code} {ts ts1 ts':List Dv} {H H1 H':List Ent} {ex:Ex} (mask:List Nat) (h1:XM P body ts H .normal ts1 H1) (h2:ZuY P body (Zmq ts1 mask) H1 ex ts' H'):ZuY P body ts H ex ts' H':=by
 intro σ a ok hH hrep b k cs
 obtain ⟨e,a1,w1,⟨rfl,σ1,rfl,e1,to1,ok1,hrep1⟩,harr⟩:=h1 σ a ok hH hrep b (.inLoop body::k) cs
 obtain ⟨e,a2,w2,⟨rfl,σ2,rfl,e2,to2,ok2,hrep2⟩,harr2⟩:=h2 σ1 a1 ok1 e1 (ZeM hrep1) b k cs
 exact ⟨ex.to,a2,σ2.w,⟨rfl,σ2,rfl,e2,to1.trans to2,ok2,hrep2⟩,.of_steps (Steps.trans harr (.one step_inLoop)) harr2⟩
theorem Zu1 {body:Code} {ts ts':List Dv} {H H':List Ent} {ex:Ex} (h:ZuY P body ts H ex ts' H'):XM P (.loop body) ts H ex ts' H':=by
 intro σ a ok hH hrep b k cs
 obtain ⟨e,a1,w1,hq,harr⟩:=h σ a ok hH hrep b k cs
 exact ⟨e,a1,w1,hq,.of_steps (.one step_loop) harr⟩
def Zk9 (σ:Sg) (L:List Nat) (H:List Ent):Sg:={ F:=σ.F,B:=σ.B,m:=L.map fun id=>(σ.m[id]?).getD none,H:=H,w:=σ.w}
theorem ZEK {σ:Sg} {L:List Nat} {H:List Ent} {j id:Nat} {x:Option Nat} (h:L[j]? =some id) (hm:σ.m[id]? =some x):(Zk9 σ L H).m[j]? =some x:=by
 show (L.map fun id=>(σ.m[id]?).getD none)[j]? =some x
 rw [yac,h]
 simp [hm]
theorem Zdt {σ:Sg} {L:List Nat} {H:List Ent} {j b:Nat} (h:(Zk9 σ L H).m[j]? =some (some b)):∃id,L[j]? =some id∧σ.m[id]? =some (some b):=
 XK (σ:=σ) (ids:=L) (Hin:=H) h
theorem ZgF {σ:Sg} {L:List Nat} {H:List Ent} (hin:subEnts σ.H L L=some H):Rn (toIds L) σ (Zk9 σ L H) where
 w:=rfl
 stab b o v _ h:=by
  refine ⟨h.1,fun j e hj he=> ?_⟩
  obtain ⟨id,h1,h2⟩:=Zdt hj
  obtain ⟨e0,e',h3,h4,h5⟩:=VD hin h1
  have he':H[j]? =some e:=he
  rw [h4] at he'
  cases he'
  exact (ZiC h5).2 (h.2 id e0 h2 h3)
 m id j hj x hx:=ZEK (idxOf?_some hj) hx
 H id j hj e he:=by
   obtain ⟨e0,e',h3,h4,h5⟩:=VD hin (idxOf?_some hj)
   rw [he] at h3
   cases h3
   exact ⟨e',h4,h5⟩
theorem ZqO {σ:Sg} (ok:Ok σ) {L:List Nat} {H:List Ent} (ho:once L=true) (hin:subEnts σ.H L L=some H):Ok (Zk9 σ L H) where
 len:=by
  show (L.map _).length=H.length
  rw [yu,VC hin]
 inj i j b hi hj:=by
  obtain ⟨x,h1,h2⟩:=Zdt hi
  obtain ⟨y,h3,h4⟩:=Zdt hj
  have:=ok.inj x y b h2 h4
  subst this
  exact ZmB ho i j x h1 h3
 lt i b hi:=by
  obtain ⟨x,h1,h2⟩:=Zdt hi
  exact ok.lt x b h2
 ent i e x he hx:=by
  have he':H[i]? =some e:=he
  have hi:i < L.length:=by rw [←VC hin];exact (yj.1 he').1
  obtain ⟨e0,e',h3,h4,h5⟩:=VD hin (yw hi)
  rw [he'] at h4
  cases h4
  have hm:∃y,σ.m[L[i]]? =some y:=by
   have:L[i] < σ.m.length:=by rw [ok.len];exact (yj.1 h3).1
   exact ⟨_,yw this⟩
  obtain ⟨y,hy⟩:=hm
  have:=ZEK (H:=H) (yw hi) hy
  rw [hx] at this
  cases this
  exact Zrp (ZgF hin) h5 (ok.ent _ _ _ h3 hy)
 new b hb:=ok.new b hb
 own i b hi:=by
  obtain ⟨x,h1,h2⟩:=Zdt hi
  exact ok.own x b h2
theorem ZqP {σ σ':Sg} (ok:Ok σ) (to:To σ σ') {keep:List Nat} {H:List Ent} (ho:once (yp σ.H.length++keep)=true) (hin:subEnts σ'.H (yp σ.H.length++keep) (yp σ.H.length++keep)=some H):
 To σ (Zk9 σ' (yp σ.H.length++keep) H):=by
 have hf:∀id,id < σ.H.length→toIds (yp σ.H.length++keep) id=some id:=fun id h=>by
  refine idxOf?_of ho ?_
  rw [yah (by simpa using h),List.getElem?_range h]
 have rn:=ZgF hin
 refine ⟨⟨fun b o v h1 h2=> ?_,fun id b h1 h2=> ?_,fun id s len A c h1=> ?_,fun id b h1 h2=> ?_,fun id v s st e d h1=> ?_⟩,to.F,to.B,to.os,to.tape,to.output,to.size,fun b h1 h2=>to.block b h1 h2,fun id b h=> ?_, ?_⟩
 ·obtain ⟨h3,h4⟩:=to.leaf.cells b o v h1 h2
  exact ⟨h3,rn.stab b o v h3 h4⟩
 ·have hlt:id < σ.H.length:=by rw [←ok.len];exact (yj.1 h1).1
  obtain ⟨h3,h4⟩:=to.leaf.var id b h1 h2
  exact ⟨rn.m _ _ (hf id hlt) _ h3,rn.var (hf id hlt) h4⟩
 ·have hlt:id < σ.H.length:=by
   obtain ⟨e,ys,h2,_⟩:=h1
   exact (yj.1 h2).1
  exact rn.front (hf id hlt) (to.leaf.front _ _ _ _ _ h1)
 ·have hlt:id < σ.H.length:=by rw [←ok.len];exact (yj.1 h1).1
  obtain ⟨h3,h4⟩:=to.leaf.map id b h1 h2
  exact ⟨rn.m _ _ (hf id hlt) _ h3,rn.map (hf id hlt) h4⟩
 ·have hlt:id < σ.H.length:=(yj.1 h1).1
  obtain ⟨v',st',d',h5,h6,h7⟩:=to.leaf.row _ _ _ _ _ _ h1
  obtain ⟨d2,h8⟩:=rn.row (hf id hlt) h5
  refine ⟨v',st',d2,h8,h6,fun hv=> ?_⟩
  obtain ⟨h9,h10⟩:=h7 hv
  refine ⟨?_,h10⟩
  have hmm:∃x,σ.m[id]? =some x:=⟨_,yw (by rw [ok.len];exact hlt)⟩
  obtain ⟨x,hx⟩:=hmm
  rw [hx]
  exact rn.m _ _ (hf id hlt) _ (by rw [h9];exact hx)
 ·obtain ⟨x,h1,h2⟩:=Zdt h
  rcases to.same x b h2 with h3|h3
  ·have hlt:x < σ.H.length:=by rw [←ok.len];exact (yj.1 h3).1
   have:=idxOf?_of ho h1
   have h4:=hf x hlt
   unfold toIds at h4
   rw [this] at h4
   cases h4
   exact .inl h3
  ·exact .inr h3
 ·show σ.m.length≤((yp σ.H.length++keep).map _).length
  rw [ok.len]
  simp
def Zyn (tmps:Array Value):ResultVar→Sem Value
 |.tmp t=>pure (tmps.getD t undef)
 |.cell x t=>do loadVar t (←asAddr (tmps.getD x undef))
theorem ZAi (fn:Func) (tmps:Array Value):results fn tmps=(do let vs ←fn.results.mapM (Zyn tmps);pure (if h:vs.size=1 then vs[0] else .tuple vs)):=by
 unfold results
 have:(fun (rv:ResultVar)=>(match rv with|.tmp t=>pure (tmps.getD t undef)|.cell a t=>do loadVar t (←asAddr (tmps.getD a undef)):Sem Value))=Zyn tmps:=by
  funext rv;cases rv <;> rfl
 exact congrArg (fun f=>(do let vs ←fn.results.mapM f;pure (if h:vs.size=1 then vs[0] else .tuple vs):Sem Value)) this
theorem ZlQ {σ:Sg} {a:Act} {ts:List Dv} (ok:Ok σ) (hrep:RepT σ ts a):∀(rs:List ResultVar) (hs:List Hint) (C:List Prop) (ds:List Dv),ZtO P ts σ.H rs hs=some (C,ds)→AllP C→
 ∃vs,Sem.run P (rs.mapM (Zyn a.tmps)) σ.w=Result.ok vs σ.w∧repVs σ ds vs
 |[],hs,C,ds,h,_=>by
  simp only [ZtO,yf,yh] at h
  obtain ⟨rfl,rfl⟩:=h
  exact ⟨[],by simp,by simp [repVs]⟩
 |.tmp t::r,hs,C,ds,h,hc=>by
  simp only [ZtO,yo,yh] at h
  obtain ⟨⟨C1,ds1⟩,h1,rfl,rfl⟩:=h
  obtain ⟨vs,h2,h3⟩:=ZlQ ok hrep r hs C1 ds1 h1 hc
  have h4:=Zj (P:=P) hrep 0 (.tmp t)
  refine ⟨a.tmps.getD t undef::vs, ?_, ?_⟩
  ·simp only [List.mapM_cons,Zyn,Sem.run_bind,Sem.run_pure,Result.andThen_ok,h2]
  ·simp only [repVs]
   exact ⟨_,_,rfl,h4,h3⟩
 |.cell x t::r,hs,C,ds,h,hc=>by
  simp only [ZtO] at h
  split at h
  ·rename_i id off path hx
   split at h
   ·rename_i dd st hH
    split at h
    ·rename_i C1 off' sub hs1 hg
     split at h
     ·rename_i hk
      simp only [yo,yh] at h
      obtain ⟨⟨C2,ds1⟩,h1,rfl,rfl⟩:=h
      obtain ⟨c1,c2⟩:=Zi.1 hc
      obtain ⟨c1,c3⟩:=Zi.1 c1
      obtain ⟨vs,h2,h3⟩:=ZlQ ok hrep r hs1 C2 ds1 h1 c2
      have hv:=Zj (P:=P) hrep 0 (.tmp x)
      simp only [Zs,hx] at hv
      obtain ⟨b,hm,_,hxv⟩:=ZeI hv
      unfold okT at hk
      simp only [yg,beq_iff_eq] at hk
      obtain ⟨⟨⟨k1,k2⟩,k3⟩,k4⟩:=hk
      obtain ⟨cs,t',p1,p2,p3,_,_,_,_,h5,_,h6⟩:=Zmz ok hm hH hg c1 c3.1
      obtain ⟨v,h7,h8⟩:=ZeH (P:=P) h5 h6 k1 k4 k3 k2
      have hxv':a.tmps.getD x undef=.pointer (some ⟨b,off,none⟩):=hxv
      refine ⟨v::vs, ?_, ?_⟩
      ·have ha:asAddr (a.tmps.getD x undef)=pure ⟨b,off,none⟩:=by rw [hxv'];rfl
       simp only [List.mapM_cons,Zyn,ha,Sem.run_bind,Sem.run_pure,Result.andThen_ok,h7,h2]
      ·simp only [repVs]
       exact ⟨_,_,rfl,h8,h3⟩
     ·cases h
    ·cases h
   ·cases h
  ·cases h
theorem Zu2 {σ:Sg} {ds:List Dv} {vs:List Value} (h:repVs σ ds vs):repDV σ (Zq7 ds) (if h:vs.toArray.size=1 then vs.toArray[0] else .tuple vs.toArray):=by
 have hl:=Zod h
 unfold Zq7
 split
 ·rename_i d
  simp only [repVs] at h
  obtain ⟨v,vs',rfl,h1,h2⟩:=h
  have:vs'=[]:=h2
  subst this
  have e:(if h:[v].toArray.size=1 then [v].toArray[0] else Value.tuple [v].toArray)=v:=by simp
  rw [e]
  exact h1
 ·rename_i hne
  have hn:¬vs.toArray.size=1:=by
   intro hs
   have hd:ds.length=1:=by rw [←hl];simpa using hs
   match ds,hd with
   |[d],_=>exact hne d rfl
  rw [dif_neg hn,Zd rfl]
  simp only [repD]
  exact ⟨_,rfl,by simpa using h⟩
theorem ZiJ {g:FuncId} {fn:Func} {c:Code} {args ts':List Dv} {H H1 H':List Ent} {ex:Ex} {r:Dv} {keep:List Nat} {hs:List Hint} {C:List Prop} (hf:P.funcs[g]? =some fn) (hb:fn.body=some c)
 (hr:XM P c (args++yr (fn.ntmps - args.length) .junk) H ex ts' H1) (hex:ex=.ret∨ex=.normal) (hfin:fin P fn ts' H1 H.length keep hs=some (C,r,H')) (hc:AllP C):Con P g args H r H':=by
 intro σ vs ok hH hvs
 refine calls_of_wp hf hb ?_
 have hl:=Zod hvs
 have hrep:RepT σ (args++yr (fn.ntmps - args.length) .junk) { tmps:=vs.toArray++Array.replicate (fn.ntmps - vs.toArray.size) undef,defers:=[]}:=by
  refine ⟨by simp [hl],fun i d hi=> ?_,rfl⟩
  rcases Nat.lt_or_ge i args.length with h1|h1
  ·rw [yah h1] at hi
   obtain ⟨v,h2,h3⟩:=Zrg hvs hi
   have h4:(vs.toArray++Array.replicate (fn.ntmps - vs.toArray.size) undef)[i]? =some v:=by
    rw [Array.getElem?_append_left (by simpa [hl] using h1)]
    simpa using h2
   rw [ycu,h4]
   exact h3
  ·rw [yak h1] at hi
   have:=List.eq_of_mem_replicate (List.mem_of_getElem? hi)
   rw [this]
   exact Xg
 refine wp_mono (hr σ _ ok hH hrep) ?_
 rintro e a w' ⟨rfl,σ',rfl,e1,to,ok',hrep'⟩
 unfold fin at hfin
 split at hfin
 ·rename_i C1 ds hres
  dsimp only at hfin
  have main:∀r,(Zq7 ds).rn (toIds (yp H.length++keep))=some r∨(Zq7 (ds.map Dv.arg)).rn (toIds (yp H.length++keep))=some r→once (yp H.length++keep)=true→
   subEnts H1 (yp H.length++keep) (yp H.length++keep)=some H'→AllP C1→a.defers=[]∧∃v,(results fn a.tmps).run P σ'.w=.ok v σ'.w∧
    ∃v0 σ'',(Ending.returned v)=.returned v0∧σ''.w=σ'.w∧σ''.H=H'∧To σ σ''∧Ok σ''∧repDV σ'' r v0:=by
   intro r hrn honce hsub hc1
   refine ⟨hrep'.defers, ?_⟩
   rw [←e1] at hres hsub
   obtain ⟨vs',h2,h3⟩:=ZlQ (P:=P) ok' hrep' _ _ _ _ hres hc1
   refine ⟨if h:vs'.toArray.size=1 then vs'.toArray[0] else .tuple vs'.toArray, ?_,if h:vs'.toArray.size=1 then vs'.toArray[0] else .tuple vs'.toArray,
    Zk9 σ' (yp H.length++keep) H',rfl,rfl,rfl, ?_,ZqO ok' honce hsub, ?_⟩
   ·rw [ZAi,Sem.run_bind, ←Array.toArray_toList (xs:=fn.results),List.mapM_toArray]
    simp only [Sem.run_map,h2,Result.andThen_ok,Sem.run_pure]
   ·rw [←hH] at honce hsub ⊢
    exact ZqP ok to honce hsub
   ·rcases hrn with hrn|hrn
    ·exact ZdD (ZgF hsub) hrn (Zu2 h3)
    ·refine ZdD (ZgF hsub) hrn (Zu2 ?_)
     exact ZEt h3
  have main':bodyPost P fn (fun e w'=>∃v σ'',e=.returned v∧σ''.w=w'∧σ''.H=H'∧To σ σ''∧Ok σ''∧repDV σ'' r v) ex.to a σ'.w:=by
   have hall:a.defers=[]∧∃v,(results fn a.tmps).run P σ'.w=.ok v σ'.w∧∃v0 σ'',(Ending.returned v)=.returned v0∧σ''.w=σ'.w∧σ''.H=H'∧To σ σ''∧Ok σ''∧repDV σ'' r v0:=by
    split at hfin
    ·rename_i ho hrn hsub
     simp only [yf,yh] at hfin
     obtain ⟨rfl,rfl,rfl⟩:=hfin
     exact main _ (.inl hrn) ho hsub hc
    ·rename_i ho hrn _ hsub
     simp only [yf,yh] at hfin
     obtain ⟨rfl,rfl,rfl⟩:=hfin
     exact main _ (.inr hrn) ho hsub hc
    ·cases hfin
   rcases hex with rfl|rfl
   ·exact hall
   ·exact hall
  exact main'
 ·cases hfin
end
end Go.Ev
end
section
namespace Go.Ev
theorem ZrG {P:Program} {c:Code} {ts ts':List Dv} {H H':List Ent} {ex:Ex} {hs hs':List Hint} {C:List Prop} (h:ev P c ts H hs=some (C,ex,ts',H',hs')) (hc:AllP C):XM P c ts H ex ts' H':=
 Q4 c _ _ _ _ _ _ _ _ h hc
def ZA:Code→List Code
 |.seq a b=>ZA a++ZA b
 |.cond _ a b=>ZA a++ZA b
 |.block _ a=>ZA a
 |.scope a=>ZA a
 |.loop a=>.loop a::ZA a
 |_=>[]
def ZEL (P:Program) (g i:Nat):Code:=
 match P.funcs[g]? with
 |some fn=>match fn.body with
  |some c=>(ZA c).getD i .skip
  |none=>.skip
 |none=>.skip
def ZIP:Code→Code
 |.loop a=>a
 |c=>c
def Zk (P:Program) (g i:Nat):Code:=ZIP (ZEL P g i)
def u8 (b:UInt8):Pl:=.int .u8 (b.toNat:Int)
end Go.Ev
end
section
namespace Go.Ev
theorem Zyo {f:Nat→Option Nat} {σ σ':Sg} (h:Rn f σ σ') {ts ts':List Dv} {a:Act} (e:Dv.rns f ts=some ts') (hr:RepT σ ts a):RepT σ' ts' a:=by
 refine ⟨by rw [ZlJ e];exact hr.size, ?_,hr.defers⟩
 have key:∀(xs ys:List Dv),Dv.rns f xs=some ys→∀(i:Nat) (d:Dv),ys[i]? =some d→∃d0,xs[i]? =some d0∧d0.rn f=some d:=by
  intro xs
  induction xs with
  |nil=>
   intro ys h1 i d h2
   simp only [Dv.rns,yf] at h1
   subst h1
   simp at h2
  |cons x r ih=>
   intro ys h1 i d h2
   simp only [Dv.rns] at h1
   split at h1
   ·rename_i y ys' h3 h4
    cases h1
    cases i with
    |zero=>simp only [yaq,yf] at h2 ⊢;subst h2;exact ⟨x,rfl,h3⟩
    |succ j=>simp only [yaj] at h2 ⊢;exact ih _ h4 j d h2
   ·cases h1
 intro i d hd
 obtain ⟨d0,h1,h2⟩:=key ts ts' e i d hd
 exact ZdD h h2 (hr.at_ i d0 h1)
theorem ZDt {P:Program} {body:Code} {ts ts1 ts2:List Dv} {H H1 H2:List Ent} {ex:Ex} (mask keep:List Nat) (h1:XM P body ts H ex ts1 H1)
 (ho:once (yp H.length++keep)=true) (hin:subEnts H1 (yp H.length++keep) (yp H.length++keep)=some H2)
 (e:Dv.rns (toIds (yp H.length++keep)) (Zmq ts1 mask)=some ts2):XM P body ts H ex ts2 H2:=by
 intro σ a ok hH hrep
 subst hH
 refine wp_mono (h1 σ a ok rfl hrep) ?_
 rintro e' a' w' ⟨rfl,σ1,rfl,e1,to1,ok1,hrep1⟩
 subst e1
 exact ⟨rfl,Zk9 σ1 (yp σ.H.length++keep) H2,rfl,rfl,ZqP ok to1 ho hin,ZqO ok1 ho hin,Zyo (ZgF hin) e (ZeM (mask:=mask) hrep1)⟩
end Go.Ev
namespace Go.Ev
end Go.Ev
end
section
namespace Go.Ev
theorem ZHf {P:Program} {g:FuncId} {args args':List Dv} {H H0 H':List Ent} {r:Dv} (h:Con P g args' H0 r H') (ha:WkL args args') (hH:WkH H H0):Con P g args H r H':=by
 intro σ vs ok e hr
 subst e
 obtain ⟨to,ok'⟩:=Zmt ok hH
 refine Calls.mono (h { σ with H:=H0} vs ok' rfl (ha.vs ?_)) ?_
 ·have:=to.leaf
  clear ok' h
  have key:∀(l:List Dv) (us:List Value),repVs σ l us→repVs { σ with H:=H0} l us:=fun l us q=>repVs_leaf this l us q
  exact key _ _ hr
 ·rintro e w' ⟨v,σ',h1,h2,h3,h4,h5,h6⟩
  exact ⟨v,σ',h1,h2,h3,to.trans h4,h5,h6⟩
theorem Zyp {P:Program} {g:FuncId} {args:List Dv} {H H1 H':List Ent} {r r':Dv} (h:Con P g args H r H1) (hr:Wk r r') (hH:WkH H1 H'):Con P g args H r' H':=by
 intro σ vs ok e hv
 refine Calls.mono (h σ vs ok e hv) ?_
 rintro e w' ⟨v,σ',h1,h2,h3,h4,h5,h6⟩
 subst h3
 obtain ⟨to,ok'⟩:=Zmt h5 hH
 exact ⟨v,{ σ' with H:=H'},h1,h2,rfl,h4.trans to,ok',hr.dv (WK to.leaf h6)⟩
theorem Zu3 {P:Program} {c:Code} {ts ts1 ts2:List Dv} {H H1 H2:List Ent} {ex:Ex} (h:XM P c ts H ex ts1 H1) (ht:WkL ts1 ts2) (hH:WkH H1 H2):XM P c ts H ex ts2 H2:=by
 intro σ a ok e hr
 refine wp_mono (h σ a ok e hr) ?_
 rintro e' a' w' ⟨h1,σ',rfl,h3,h4,h5,h6⟩
 subst h3
 obtain ⟨to,ok'⟩:=Zmt h5 hH
 exact ⟨h1,{ σ' with H:=H2},rfl,rfl,h4.trans to,ok',ht.repT (h6.to to.leaf)⟩
end Go.Ev
namespace Go.Ev
end Go.Ev
end
section
namespace Go.Ev
theorem ZBN {α β:Type} {f:α→β} (hf:∀a b,f a=f b→a=b):∀{l m:List α},l.map f=m.map f→l=m
 |[],[],_=>rfl
 |[],_::_,h=>by simp at h
 |_::_,[],h=>by simp at h
 |x::l,y::m,h=>by
  simp only [yx,List.cons.injEq] at h
  rw [hf _ _ h.1,ZBN hf h.2]
def b8 (x:Int):UInt8:=yal (x % 256).toNat
instance (k:IntKind) (x:Int):Decidable (WL k x):=by unfold WL;exact inferInstance
theorem ZmG {P:Program} {R R':TypeId→Pl→Prop} (h:∀t x,R t x→R' t x):∀(fs:List Field) (o:Nat) (xs:List Pl),ZfI P R fs o xs→ZfI P R' fs o xs
 |[],_,[],_=>trivial
 |[],_,_::_,k=>k.elim
 |_::_,_,[],k=>k.elim
 |f::fs,o,y::ys,k=>by
  obtain ⟨a1,a2,a3,a4,a5,a6,a7,a8,a9⟩:=k
  exact ⟨a1,a2,a3,a4,a5,a6,a7,h _ _ a8,ZmG h fs _ ys a9⟩
theorem ZqQ {P:Program}:∀{n:Nat} {t:TypeId} {x:Pl},fitP P n t x→fitP P (n+1) t x
 |0,t,x,h=>by simp [fitP] at h
 |n+1,t,x,h=>by
  unfold fitP at h ⊢
  split at h
  ·trivial
  ·exact h
  ·obtain ⟨a1,a2,a3,a4,a5,a6⟩:=h
   exact ⟨a1,a2,a3,a4,a5,fun y hy=>⟨ZqQ (a6 y hy).1,(a6 y hy).2⟩⟩
  ·exact ⟨h.1,ZmG (fun t x k=>ZqQ k) _ _ _ h.2⟩
  ·exact h.elim
theorem ZBO {P:Program} {g:FuncId} {s:Nat} {xs:List Pl} {H H':List Ent} {r:Dv} {rest:List Dv} (h1:Con P g (.p (.sl (some true) s xs)::rest) H r H') (h2:xs=[]→Con P g (.p (.sl (some false) s [])::rest) H r H'):
 Con P g (.p (.sl none s xs)::rest) H r H':=by
 intro σ vs ok e hr
 simp only [repVs] at hr
 obtain ⟨v,vs',rfl,hv,hrest⟩:=hr
 obtain ⟨k1,A,c,rfl,k2,k3,k4,k5,k6⟩:=XC hv
 cases hA:A with
 |none=>
  have hx:xs=[]:=by
   cases xs with
   |nil=>rfl
   |cons x r=>obtain ⟨b,o,us,hh,_⟩:=k6 (by simp);rw [hA] at hh;cases hh
  subst hx
  subst hA
  refine h2 rfl σ _ ok e ?_
  simp only [repVs]
  exact ⟨_,_,rfl,Yf k1 k2 k3 (Zq6 rfl) k5 (fun h=>absurd rfl h),hrest⟩
 |some a=>
  subst hA
  refine h1 σ _ ok e ?_
  simp only [repVs]
  exact ⟨_,_,rfl,Yf k1 k2 k3 (ZaX rfl) k5 k6,hrest⟩
end Go.Ev
namespace Go.Ev
end Go.Ev
namespace Go.Ev
def st (n:Nat) (l:List (Nat×Dv)):List Dv:=(yp n).map fun i=>(l.lookup i).getD .junk
inductive WkA:List (Nat×Dv)→List (Nat×Dv)→Prop where
 |nil:WkA [] []
 |cons {i:Nat} {d e:Dv} {l m:List (Nat×Dv)} (h:Wk d e) (k:WkA l m):WkA ((i,d)::l) ((i,e)::m)
theorem WkA.look {l m:List (Nat×Dv)} (h:WkA l m) (i:Nat):Wk ((l.lookup i).getD .junk) ((m.lookup i).getD .junk):=by
 induction h with
 |nil=>exact Wk.refl _
 |cons h k ih=>
  rename_i j d e l m
  simp only [List.lookup_cons]
  split
  ·exact h
  ·exact ih
theorem WkL.st {n:Nat} {l m:List (Nat×Dv)} (h:WkA l m):WkL (st n l) (st n m):=by
 unfold Go.Ev.st
 generalize yp n=r
 induction r with
 |nil=>exact .nil
 |cons i r ih=>exact .cons (h.look i) ih
end Go.Ev
end
section
namespace Go.Ev
section
variable {K V:Type} [DecidableEq K]
def kvl (ek:K→Pl) (ev:V→Pl) (l:List (K×V)):List (Pl×Pl):=l.map fun q=>(ek q.1,ev q.2)
def Zv7:List (K×V)→K→Option V
 |[],_=>none
 |q::l,k=>if k=q.1 then some q.2 else Zv7 l k
def Zyq:List (K×V)→K→V→List (K×V)
 |[],k,v=>[(k,v)]
 |q::l,k,v=>if k=q.1 then (k,v)::l else q::Zyq l k v
def ZDu:List (K×V)→K→List (K×V)
 |[],_=>[]
 |q::l,k=>if k=q.1 then l else q::ZDu l k
theorem ZlR {ek:K→Pl} {ev:V→Pl} (hi:∀x y,ek x=ek y↔x=y) (k:K):∀l:List (K×V),ZfJ (kvl ek ev l) (ek k) ((Zv7 l k).map ev)
 |[]=>rfl
 |q::l=>by
  show ZfJ ((ek q.1,ev q.2)::kvl ek ev l) (ek k) _
  unfold ZfJ Zv7
  by_cases h:k=q.1
  ·left
   rw [if_pos h]
   exact ⟨(hi _ _).2 h,rfl⟩
  ·right
   rw [if_neg h]
   exact ⟨fun hh=>h ((hi _ _).1 hh),ZlR hi k l⟩
theorem ZAj {ek:K→Pl} {ev:V→Pl} (hi:∀x y,ek x=ek y↔x=y) {k:K} {l:List (K×V)} {v:V} (h:Zv7 l k=some v):ZfJ (kvl ek ev l) (ek k) (some (ev v)):=by
 have:=ZlR (ev:=ev) hi k l
 rw [h] at this
 exact this
theorem ZAk {ek:K→Pl} {ev:V→Pl} (hi:∀x y,ek x=ek y↔x=y) {k:K} {l:List (K×V)} (h:(Zv7 l k).isSome=false):ZfJ (kvl ek ev l) (ek k) none:=by
 have:=ZlR (ev:=ev) hi k l
 cases hm:Zv7 l k with
 |none=>rw [hm] at this;exact this
 |some v=>rw [hm] at h;cases h
theorem ZrH {ek:K→Pl} {ev:V→Pl} (hi:∀x y,ek x=ek y↔x=y) (k:K) (v:V):∀l:List (K×V),Ziu (kvl ek ev l) (ek k) (ev v) (kvl ek ev (Zyq l k v))
 |[]=>rfl
 |q::l=>by
  show Ziu ((ek q.1,ev q.2)::kvl ek ev l) (ek k) (ev v) _
  unfold Ziu Zyq
  by_cases h:k=q.1
  ·left
   rw [if_pos h]
   exact ⟨(hi _ _).2 h,rfl⟩
  ·right
   rw [if_neg h]
   exact ⟨fun hh=>h ((hi _ _).1 hh),_,rfl,ZrH hi k v l⟩
theorem ZrI {ek:K→Pl} {ev:V→Pl} (hi:∀x y,ek x=ek y↔x=y) (k:K):∀l:List (K×V),Zk7 (kvl ek ev l) (ek k) (kvl ek ev (ZDu l k))
 |[]=>rfl
 |q::l=>by
  show Zk7 ((ek q.1,ev q.2)::kvl ek ev l) (ek k) _
  unfold Zk7 ZDu
  by_cases h:k=q.1
  ·left
   rw [if_pos h]
   exact ⟨(hi _ _).2 h,rfl⟩
  ·right
   rw [if_neg h]
   exact ⟨fun hh=>h ((hi _ _).1 hh),_,rfl,ZrI hi k l⟩
end
theorem Zkg {K V:Type} {P:Program} {kt:TypeId} {ek:K→Pl} {ev:V→Pl} (h:∀x,fitP P 20 kt (ek x)) (l:List (K×V)):ZeD P kt (kvl ek ev l):=by
 intro q hq
 obtain ⟨p,_,rfl⟩:=List.mem_map.1 hq
 exact h _
end Go.Ev
namespace Go.Ev
theorem Zyr {P:Program} {g:FuncId} {s:Nat} {e:TypeId} {H H':List Ent} {r:Dv} {rest:List Dv} (h:Con P g (.own H.length none s []::rest) (H++[.log s e []]) r H'):
 Con P g (.p (.sl (some false) s [])::rest) H r H':=by
 intro σ vs ok eH hr
 simp only [repVs] at hr
 obtain ⟨v,vs',rfl,hv,hrest⟩:=hr
 obtain rfl:=Zpf hv
 subst eH
 obtain ⟨to,ok'⟩:=X6 (σ':={ σ with m:=σ.m++[none],H:=σ.H++[.log s e []]}) ok rfl rfl rfl rfl (World.grownBy.refl σ.w none) (.inl rfl) (fun _=>.inl ⟨rfl,rfl⟩)
 refine (h { σ with m:=σ.m++[none],H:=σ.H++[.log s e []]} (.slice none 0 0::vs') ok' rfl ?_).mono fun ex w' ⟨v,σ',h1,h2,h3,h4,h5,h6⟩=>⟨v,σ',h1,h2,h3,to.trans h4,h5,h6⟩
 simp only [repVs]
 refine ⟨_,_,rfl,(Zd (d:=.own σ.H.length none s []) rfl).2 ?_,repVs_leaf to.leaf _ _ hrest⟩
 simp only [repD]
 refine ⟨fun _ hx=>(by cases hx),none,0,rfl,yi _,by simp [maxLen],ZT _,fun _=>rfl,fun h=>absurd rfl h,e,[],by simp,yi _,fun _=>.inl ⟨?_,rfl,rfl⟩⟩
 rw [yak (by rw [ok.len];exact yi _),ok.len]
 simp
end Go.Ev
namespace Go.Ev
end Go.Ev
end
section
namespace Go.Ev
inductive DeepR (H:List Ent):Dv→Pl→Prop where
 |p (x:Pl):DeepR H (.p x) x
 |own (id:Nat) (nn:Option Bool) (s:Nat) (xs:List Pl):DeepR H (.own id nn s xs) (.sl nn s xs)
 |agg {ds:List Dv} {ys:List Pl} (hl:ds.length=ys.length) (h:∀(i:Nat) (d:Dv) (y:Pl),ds[i]? =some d→ys[i]? =some y→DeepR H d y):DeepR H (.agg ds) (.agg ys)
 |rvp {id v s lo n N:Nat} {e:TypeId} {xs:List Pl} (hH:H[id]? =some (.row v s false e (.p (.arr N s xs)))) (hle:lo+n≤N):DeepR H (.rv id v s lo n) (.sl none s ((xs.drop lo).take n))
 |rva {id v s lo n N:Nat} {e:TypeId} {ds:List Dv} {ys:List Pl} (hH:H[id]? =some (.row v s false e (.arr N s ds))) (hle:lo+n≤N) (hl:ds.length=ys.length)
   (h:∀(i:Nat) (d:Dv) (y:Pl),ds[i]? =some d→ys[i]? =some y→DeepR H d y):DeepR H (.rv id v s lo n) (.sl none s ((ys.drop lo).take n))
 |wk {d:Dv} {x y:Pl} (h:DeepR H d x) (k:PlWk x y):DeepR H d y
theorem Zon {σ:Sg}:∀{ds:List Dv} {ys:List Pl} {us:List Value},ds.length=ys.length→(∀(i:Nat) (d:Dv) (y:Pl),ds[i]? =some d→ys[i]? =some y→∀vs,repD σ d vs→repC σ.w σ.stab y vs)→repDs σ ds us→repCs σ.w σ.stab ys us
 |[],[],us,_,_,h=>by simpa [repDs,repCs] using h
 |[],_::_,_,hl,_,_=>by simp at hl
 |_::_,[],_,hl,_,_=>by simp at hl
 |d::ds,y::ys,us,hl,hk,h=>by
  simp only [repDs] at h
  obtain ⟨a,b,h1,h2,h3⟩:=h
  simp only [repCs]
  exact ⟨a,b,h1,hk 0 d y rfl rfl a h2,Zon (by simpa using hl) (fun i d y h4 h5=>hk (i+1) d y (by simpa using h4) (by simpa using h5)) h3⟩
theorem Zys {σ:Sg} (ok:Ok σ) {id v s lo n N:Nat} {e:TypeId} {dd:Dv} {xs:List Pl} {u:Value} (hx:repDV σ (.rv id v s lo n) u) (hH:σ.H[id]? =some (.row v s false e dd)) (hN:rowN dd s=some N) (hle:lo+n≤N)
 (hd:∀us,repD σ dd us→xs.length=N∧allSz s xs∧repCs σ.w σ.stab xs us):repDV σ (.p (.sl none s ((xs.drop lo).take n))) u:=by
 obtain ⟨A,c,rfl,h2,h3,h4,h5,v2,s2,st2,e2,d2,h6,h7,h8⟩:=Zgy hx
 rw [hH] at h6
 cases h6
 obtain ⟨_,h9⟩:=h8 rfl
 have hidlt:id < σ.m.length:=by rw [ok.len];exact (yj.1 hH).1
 have hmi:σ.m[id]? =some σ.m[id]:=yw hidlt
 obtain ⟨N',hN',hent⟩:=ok.ent id _ _ hH hmi
 rw [hN] at hN'
 cases hN'
 by_cases hn:n=0
 ·subst hn
  have:=Yf (σ:=σ) (nn:=none) (s:=s) (xs:=[]) (A:=A) (c:=c) (fun _ hx=>by cases hx) (by simp) h3 (ZT _) h4 (fun h=>absurd rfl h)
  simpa using this
 have hpos:0 < n:=Nat.pos_of_ne_zero hn
 rcases h9 with ⟨_,_,hz⟩|⟨b,cur,k1,k2,k3,k4⟩
 ·omega
 rw [hmi] at k1
 rcases hent with ⟨hh,_⟩|⟨b',cur',cap,hh,g2,g4,g5,g6,g7⟩
 ·rw [hh] at k1;cases k1
 rw [hh] at k1
 cases k1
 rw [k2] at g2
 cases g2
 obtain ⟨hxl,hxs,h7⟩:=hd _ g7
 have hsplit:xs=xs.take lo++((xs.drop lo).take n++xs.drop (lo+n)):=by
  have e1:xs.drop (lo+n)=(xs.drop lo).drop n:=by rw [List.drop_drop]
  rw [e1,ybf,ybf]
 rw [hsplit] at h7
 obtain ⟨q1,q23,e1,r1,r23⟩:=Yg h7
 obtain ⟨q2,q3,rfl,r2,r3⟩:=Yg r23
 have hsy:allSz s ((xs.drop lo).take n):=fun z hz=>hxs z (List.mem_of_mem_drop (List.mem_of_mem_take hz))
 have ly:((xs.drop lo).take n).length=n:=by rw [List.length_take,List.length_drop,Nat.min_eq_left (by omega)]
 have l1:q1.length=lo*s:=by rw [repCs_size _ _ r1,sizes_all (fun z hz=>hxs z (List.mem_of_mem_take hz)),List.length_take,Nat.min_eq_left (by omega)]
 have hmk:=Yf (σ:=σ) (nn:=none) (A:=A) (c:=c) hsy (by rw [ly];exact h2) h3 (ZT _) h4 (fun _=>by
  refine ⟨b,lo*s,q2,k4 (by omega),r2,fun j u hu=>⟨?_,.inr (ok.own id b (by rw [hmi,hh])),fun j' e' g1 g2=> ?_⟩⟩
  ·rw [cell_of_row σ.w b _ cur e (0,0) k2, ←Array.getElem?_toList]
   have hj:j < q2.length:=(yj.1 hu).1
   have e2:(cur.toList.take (N*s))[lo*s+j]? =some u:=by
    rw [e1,yak (by omega),l1,Nat.add_sub_cancel_left,yah hj]
    exact hu
   rw [List.getElem?_take] at e2
   split at e2
   ·exact e2
   ·cases e2
  ·have:j'=id:=ok.inj j' id b g1 (by rw [hmi,hh])
   subst this
   rw [hH] at g2
   cases g2
   refine ⟨rfl,N,hN, ?_⟩
   have hj:=(yj.1 hu).1
   have l2:q2.length=n*s:=by rw [repCs_size _ _ r2,sizes_all hsy,ly]
   have h9:(lo+n)*s≤N*s:=Nat.mul_le_mul_right _ hle
   rw [l2] at hj
   rw [Nat.add_mul] at h9
   omega)
 rw [ly] at hmk
 exact hmk
theorem ZrJ {σ:Sg} (ok:Ok σ) {d:Dv} {x:Pl} (h:DeepR σ.H d x):∀vs,repD σ d vs→repC σ.w σ.stab x vs:=by
 induction h with
 |p x=>intro vs hr;simpa [repD] using hr
 |own id nn s xs=>
  intro vs hr
  have hv:∃v,vs=[v]:=by simp only [repD] at hr;obtain ⟨_,A,c,rfl,_⟩:=hr;exact ⟨_,rfl⟩
  obtain ⟨v,rfl⟩:=hv
  have:=V1 ((Zd (by rfl)).2 hr)
  rw [Zd (by rfl)] at this
  simpa [repD] using this
 |agg hl h ih=>
  intro vs hr
  simp only [repD] at hr
  simp only [repC]
  exact Zon hl ih hr
 |rvp hH hle=>
  intro vs hr
  have hv:∃v,vs=[v]:=by simp only [repD] at hr;obtain ⟨A,c,rfl,_⟩:=hr;exact ⟨_,rfl⟩
  obtain ⟨v,rfl⟩:=hv
  have:=Zys ok ((Zd (by rfl)).2 hr) hH (by simp [rowN]) hle (fun us h=>by simp only [repD,repC] at h;exact h)
  rw [Zd (by rfl)] at this
  simpa [repD] using this
 |rva hH hle hl h ih=>
  rename_i id v s lo n N e ds ys
  intro vs hr
  have hv:∃v,vs=[v]:=by simp only [repD] at hr;obtain ⟨A,c,rfl,_⟩:=hr;exact ⟨_,rfl⟩
  obtain ⟨v,rfl⟩:=hv
  have:=Zys (xs:=ys) ok ((Zd (by rfl)).2 hr) hH (by simp [rowN]) hle (fun us h=>by
   simp only [repD] at h
   obtain ⟨h1,h2,h3⟩:=h
   refine ⟨by rw [←hl];exact h1, ?_,Zon hl ih h3⟩
   intro y hy
   obtain ⟨i,hi⟩:=List.getElem?_of_mem hy
   have hlt:i < ds.length:=by rw [hl];exact (yj.1 hi).1
   have hd:=yw hlt
   obtain ⟨a,b,c,e1,l1,r2,_⟩:=ZdC h3 hd
   have q1:=XL _ _ (ih i _ y hd hi b r2)
   have q2:=Xr _ _ r2
   rw [←q1,q2]
   exact h2 _ (List.mem_of_getElem? hd))
  rw [Zd (by rfl)] at this
  simpa [repD] using this
 |wk h k ih=>intro vs hr;exact k.rep _ _ _ (ih vs hr)
theorem ZHg {σ:Sg} (ok:Ok σ) {d:Dv} {x:Pl} (h:DeepR σ.H d x) {v:Value} (hr:repDV σ d v):repDV σ (.p x) v:=by
 have ha:d.isAgg=x.isAgg:=by
  have key:∀{d:Dv} {x:Pl},DeepR σ.H d x→d.isAgg=x.isAgg:=by
   intro d x h
   induction h with
   |p x=>rfl
   |own=>rfl
   |agg=>rfl
   |rvp=>rfl
   |rva=>rfl
   |wk h k ih=>rw [←k.agg];exact ih
  exact key h
 obtain ⟨h1,h2⟩:=hr
 refine ⟨fun q=> ?_,fun q=> ?_⟩
 ·obtain ⟨cs,e1,e2⟩:=h1 (by rw [ha];exact q)
  exact ⟨cs,e1,by simp only [repD];exact ZrJ ok h _ e2⟩
 ·simp only [repD]
  exact ZrJ ok h _ (h2 (by rw [ha];exact q))
inductive DeepP (H:List Ent):Dv→Dv→Prop where
 |refl (d:Dv):DeepP H d d
 |deep {d:Dv} {x:Pl} (h:DeepR H d x):DeepP H d (.p x)
inductive DeepL (H:List Ent):List Dv→List Dv→Prop where
 |nil:DeepL H [] []
 |cons {d e:Dv} {ds es:List Dv} (h:DeepP H d e) (k:DeepL H ds es):DeepL H (d::ds) (e::es)
theorem Zyt {σ:Sg} (ok:Ok σ) {d e:Dv} (h:DeepP σ.H d e) {v:Value} (hr:repDV σ d v):repDV σ e v:=by
 cases h with
 |refl=>exact hr
 |deep h=>exact ZHg ok h hr
theorem ZEM {σ:Sg} (ok:Ok σ) {ds es:List Dv} (h:DeepL σ.H ds es):∀{vs:List Value},repVs σ ds vs→repVs σ es vs:=by
 induction h with
 |nil=>intro vs h;exact h
 |cons h k ih=>
  intro vs hr
  simp only [repVs] at hr ⊢
  obtain ⟨v,vs',h1,h2,h3⟩:=hr
  exact ⟨v,vs',h1,Zyt ok h h2,ih h3⟩
inductive DeepT (H:List Ent):Dv→Dv→Prop where
 |one {d e:Dv} (h:DeepP H d e):DeepT H d e
 |tup {ds es:List Dv} (h:DeepL H ds es):DeepT H (.tup ds) (.tup es)
theorem ZEN {P:Program} {g:FuncId} {args:List Dv} {H H1 H':List Ent} {r r':Dv} (h:Con P g args H r H1) (hH:WkH H1 H') (hr:DeepT H' r r'):Con P g args H r' H':=by
 intro σ vs ok e hv
 refine Calls.mono (h σ vs ok e hv) ?_
 rintro e w' ⟨v,σ',h1,h2,h3,h4,h5,h6⟩
 subst h3
 obtain ⟨to,ok'⟩:=Zmt h5 hH
 have h7:=WK to.leaf h6
 refine ⟨v,{ σ' with H:=H'},h1,h2,rfl,h4.trans to,ok', ?_⟩
 cases hr with
 |one hr=>exact Zyt ok' hr h7
 |tup hr=>
  rw [Zd rfl] at h7 ⊢
  simp only [repD] at h7 ⊢
  obtain ⟨cs,e1,e2⟩:=h7
  exact ⟨cs,e1,ZEM ok' hr e2⟩
end Go.Ev
end
section
namespace Go.Ev
inductive Ty where
 |int (k:IntKind)
 |u8|u32|u64
 |bool
 |str
 |sl (t:Ty)
 |arr (n:Nat) (t:Ty)
 |st (fs:List Ty)
 deriving Inhabited
mutual
def Ty.den:Ty→Type
 |.int _=>Int
 |.u8=>UInt8
 |.u32=>UInt32
 |.u64=>UInt64
 |.bool=>Bool
 |.str=>ByteArray
 |.sl t=>List (Ty.den t)
 |.arr _ t=>List (Ty.den t)
 |.st fs=>Ty.dens fs
def Ty.dens:List Ty→Type
 |[]=>Unit
 |[t]=>Ty.den t
 |t::u::r=>Ty.den t×Ty.dens (u::r)
end
mutual
def Ty.size:Ty→Nat
 |.arr n t=>n*Ty.size t
 |.st fs=>Ty.sizes fs
 |_=>1
def Ty.sizes:List Ty→Nat
 |[]=>0
 |t::r=>Ty.size t+Ty.sizes r
end
mutual
def Ty.dec:(a b:Ty)→Decidable (a=b)
 |.int k,.int l=>if h:k=l then isTrue (by rw [h]) else isFalse (by intro e;cases e;exact h rfl)
 |.u8,.u8=>isTrue rfl
 |.u32,.u32=>isTrue rfl
 |.u64,.u64=>isTrue rfl
 |.bool,.bool=>isTrue rfl
 |.str,.str=>isTrue rfl
 |.sl t,.sl u=>match Ty.dec t u with
  |isTrue h=>isTrue (by rw [h])
  |isFalse h=>isFalse (by intro e;cases e;exact h rfl)
 |.arr n t,.arr m u=>if k:n=m then match Ty.dec t u with
  |isTrue h=>isTrue (by rw [h,k])
  |isFalse h=>isFalse (by intro e;cases e;exact h rfl) else isFalse (by intro e;cases e;exact k rfl)
 |.st fs,.st gs=>match Ty.decs fs gs with
  |isTrue h=>isTrue (by rw [h])
  |isFalse h=>isFalse (by intro e;cases e;exact h rfl)
 |.int _,.u8=>isFalse nofun
 |.int _,.u32=>isFalse nofun
 |.int _,.u64=>isFalse nofun
 |.int _,.bool=>isFalse nofun
 |.int _,.str=>isFalse nofun
 |.int _,.sl _=>isFalse nofun
 |.int _,.arr _ _=>isFalse nofun
 |.int _,.st _=>isFalse nofun
 |.u8,.int _=>isFalse nofun
 |.u8,.u32=>isFalse nofun
 |.u8,.u64=>isFalse nofun
 |.u8,.bool=>isFalse nofun
 |.u8,.str=>isFalse nofun
 |.u8,.sl _=>isFalse nofun
 |.u8,.arr _ _=>isFalse nofun
 |.u8,.st _=>isFalse nofun
 |.u32,.int _=>isFalse nofun
 |.u32,.u8=>isFalse nofun
 |.u32,.u64=>isFalse nofun
 |.u32,.bool=>isFalse nofun
 |.u32,.str=>isFalse nofun
 |.u32,.sl _=>isFalse nofun
 |.u32,.arr _ _=>isFalse nofun
 |.u32,.st _=>isFalse nofun
 |.u64,.int _=>isFalse nofun
 |.u64,.u8=>isFalse nofun
 |.u64,.u32=>isFalse nofun
 |.u64,.bool=>isFalse nofun
 |.u64,.str=>isFalse nofun
 |.u64,.sl _=>isFalse nofun
 |.u64,.arr _ _=>isFalse nofun
 |.u64,.st _=>isFalse nofun
 |.bool,.int _=>isFalse nofun
 |.bool,.u8=>isFalse nofun
 |.bool,.u32=>isFalse nofun
 |.bool,.u64=>isFalse nofun
 |.bool,.str=>isFalse nofun
 |.bool,.sl _=>isFalse nofun
 |.bool,.arr _ _=>isFalse nofun
 |.bool,.st _=>isFalse nofun
 |.str,.int _=>isFalse nofun
 |.str,.u8=>isFalse nofun
 |.str,.u32=>isFalse nofun
 |.str,.u64=>isFalse nofun
 |.str,.bool=>isFalse nofun
 |.str,.sl _=>isFalse nofun
 |.str,.arr _ _=>isFalse nofun
 |.str,.st _=>isFalse nofun
 |.sl _,.int _=>isFalse nofun
 |.sl _,.u8=>isFalse nofun
 |.sl _,.u32=>isFalse nofun
 |.sl _,.u64=>isFalse nofun
 |.sl _,.bool=>isFalse nofun
 |.sl _,.str=>isFalse nofun
 |.sl _,.arr _ _=>isFalse nofun
 |.sl _,.st _=>isFalse nofun
 |.arr _ _,.int _=>isFalse nofun
 |.arr _ _,.u8=>isFalse nofun
 |.arr _ _,.u32=>isFalse nofun
 |.arr _ _,.u64=>isFalse nofun
 |.arr _ _,.bool=>isFalse nofun
 |.arr _ _,.str=>isFalse nofun
 |.arr _ _,.sl _=>isFalse nofun
 |.arr _ _,.st _=>isFalse nofun
 |.st _,.int _=>isFalse nofun
 |.st _,.u8=>isFalse nofun
 |.st _,.u32=>isFalse nofun
 |.st _,.u64=>isFalse nofun
 |.st _,.bool=>isFalse nofun
 |.st _,.str=>isFalse nofun
 |.st _,.sl _=>isFalse nofun
 |.st _,.arr _ _=>isFalse nofun
def Ty.decs:(a b:List Ty)→Decidable (a=b)
 |[],[]=>isTrue rfl
 |t::r,u::q=>match Ty.dec t u,Ty.decs r q with
  |isTrue h,isTrue k=>isTrue (by rw [h,k])
  |isFalse h,_=>isFalse (by intro e;cases e;exact h rfl)
  |_,isFalse h=>isFalse (by intro e;cases e;exact h rfl)
 |[],_::_=>isFalse nofun
 |_::_,[]=>isFalse nofun
end
instance:DecidableEq Ty:=Ty.dec
def Ty.cast (t u:Ty) (x:t.den):Option u.den:=
 match Ty.dec t u with
 |isTrue h=>some (h ▸ x)
 |isFalse _=>none
def Ty.castL (t u:Ty) (x:List t.den):Option (List u.den):=
 match Ty.dec t u with
 |isTrue h=>some (h ▸ x)
 |isFalse _=>none
theorem Va {t u:Ty} {x:t.den} {y:u.den} (h:Ty.cast t u x=some y):∃e:t=u,y=e ▸ x:=by
 unfold Ty.cast at h
 split at h
 ·rename_i e _
  exact ⟨e,(ybi h).symm⟩
 ·cases h
theorem Zz {t u:Ty} {x:List t.den} {y:List u.den} (h:Ty.castL t u x=some y):∃e:t=u,y=e ▸ x:=by
 unfold Ty.castL at h
 split at h
 ·rename_i e _
  exact ⟨e,(ybi h).symm⟩
 ·cases h
mutual
def Ty.enc:(t:Ty)→t.den→Pl
 |.int k,n=>.int k n
 |.u8,b=>.int .u8 (b.toNat:Int)
 |.u32,b=>.int .u32 (b.toNat:Int)
 |.u64,b=>.int .u64 (b.toNat:Int)
 |.bool,b=>.bool b
 |.str,s=>.str s
 |.sl t,l=>.sl none (Ty.size t) (List.map (Ty.enc t) l)
 |.arr n t,l=>.arr n (Ty.size t) (List.map (Ty.enc t) l)
 |.st fs,x=>.agg (Ty.encs fs x)
def Ty.encs:(fs:List Ty)→Ty.dens fs→List Pl
 |[],_=>[]
 |[t],x=>[Ty.enc t x]
 |t::u::r,x=>Ty.enc t x.1::Ty.encs (u::r) x.2
end
mutual
theorem ZfQ:∀(t:Ty) (x:t.den),(t.enc x).size=t.size
 |.int _,_=>rfl
 |.u8,_=>rfl
 |.u32,_=>rfl
 |.u64,_=>rfl
 |.bool,_=>rfl
 |.str,_=>rfl
 |.sl _,_=>rfl
 |.arr _ _,_=>rfl
 |.st fs,x=>by rw [Ty.enc,Pl.size,Ty.size];exact encs_sizes fs x
theorem encs_sizes:∀(fs:List Ty) (x:Ty.dens fs),Pl.sizes (Ty.encs fs x)=Ty.sizes fs
 |[],_=>rfl
 |[t],x=>by simp only [Ty.encs,Pl.sizes,Ty.sizes];rw [ZfQ t x]
 |t::u::r,x=>by rw [Ty.encs,Pl.sizes,Ty.sizes,ZfQ t x.1,encs_sizes (u::r) x.2]
end
mutual
theorem ZmH:∀(t:Ty) (x:t.den),(t.enc x).soft=t.enc x
 |.int _,_=>rfl
 |.u8,_=>rfl
 |.u32,_=>rfl
 |.u64,_=>rfl
 |.bool,_=>rfl
 |.str,_=>rfl
 |.sl _,_=>rfl
 |.arr n t,x=>by
  have key:∀l:List t.den,Pl.soft (.arr n t.size (l.map t.enc))=.arr n t.size (l.map t.enc):=by
   intro l
   rw [Pl.soft,Pl.softs_map,yau]
   congr 1
   exact ybz fun y _=>ZmH t y
  exact key x
 |.st fs,x=>by rw [Ty.enc,Pl.soft,encs_softs fs x]
theorem encs_softs:∀(fs:List Ty) (x:Ty.dens fs),Pl.softs (Ty.encs fs x)=Ty.encs fs x
 |[],_=>rfl
 |[t],x=>by simp only [Ty.encs,Pl.softs];rw [ZmH t x]
 |t::u::r,x=>by rw [Ty.encs,Pl.softs,ZmH t x.1,encs_softs (u::r) x.2]
end
theorem Zb {α β:Type} {f:α→β} {o:Option α} {y:β} (h:o.map f=some y):∃x,o=some x∧f x=y:=yo.1 h
def Ty.proj:(fs:List Ty)→Ty.dens fs→Nat→Option (Σ t:Ty,t.den)
 |[],_,_=>none
 |[t],x,0=>some ⟨t,x⟩
 |[_],_,_+1=>none
 |t::_::_,x,0=>some ⟨t,x.1⟩
 |_::u::r,x,i+1=>Ty.proj (u::r) x.2 i
def Ty.upd:(fs:List Ty)→Ty.dens fs→Nat→(t:Ty)→t.den→Option (Ty.dens fs)
 |[],_,_,_,_=>none
 |[t],_,0,u,y=>Ty.cast u t y
 |[_],_,_+1,_,_=>none
 |t::v::r,x,0,u,y=>(Ty.cast u t y).map fun z=>(z,x.2)
 |_::v::r,x,i+1,u,y=>(Ty.upd (v::r) x.2 i u y).map fun z=>(x.1,z)
theorem Zyu:∀(fs:List Ty) (x:Ty.dens fs) (i:Nat) (q:Σ t:Ty,t.den),Ty.proj fs x i=some q→(Ty.encs fs x)[i]? =some (q.1.enc q.2)
 |[],_,_,_,h=>by cases h
 |[t],x,0,q,h=>by cases h;rfl
 |[_],_,_+1,_,h=>by cases h
 |t::_::_,x,0,q,h=>by cases h;rfl
 |t::u::r,x,i+1,q,h=>by
  rw [Ty.encs,yaj]
  exact Zyu (u::r) x.2 i q h
theorem ZBP:∀(fs:List Ty) (x:Ty.dens fs) (i:Nat) (t:Ty) (y:t.den) (z:Ty.dens fs),Ty.upd fs x i t y=some z→Ty.encs fs z=(Ty.encs fs x).set i (t.enc y)
 |[],_,_,_,_,_,h=>by cases h
 |[t],x,0,u,y,z,h=>by
  obtain ⟨e,rfl⟩:=Va h
  subst e
  rfl
 |[_],_,_+1,_,_,_,h=>by cases h
 |t::v::r,x,0,u,y,z,h=>by
  obtain ⟨w,h1,h2⟩:=Zb (α:=t.den) (β:=t.den×Ty.dens (v::r)) h
  subst h2
  obtain ⟨e,rfl⟩:=Va h1
  subst e
  rfl
 |t::v::r,x,i+1,u,y,z,h=>by
  obtain ⟨w,h1,h2⟩:=Zb (α:=Ty.dens (v::r)) (β:=t.den×Ty.dens (v::r)) h
  subst h2
  show t.enc x.1::Ty.encs (v::r) w=(t.enc x.1::Ty.encs (v::r) x.2).set (i+1) (u.enc y)
  rw [List.set_cons_succ,ZBP (v::r) x.2 i u y w h1]
inductive TP where
 |v (t:Ty) (x:t.den)
 |sl (nn:Option Bool) (t:Ty) (xs:List t.den)
 |agg (xs:List TP)
 |arr (n s:Nat) (xs:List TP)
 |sll (nn:Option Bool) (s:Nat) (xs:List TP)
 |ptr0|fn0|if0|map0
 |fnv (f:FuncId)
 |iface (t:TypeId) (x:TP)
instance:Inhabited TP:=⟨.ptr0⟩
mutual
def TP.pe:TP→Pl
 |.v t x=>t.enc x
 |.sl nn t xs=>.sl nn t.size (xs.map t.enc)
 |.agg xs=>.agg (TP.pes xs)
 |.arr n s xs=>.arr n s (TP.pes xs)
 |.sll nn s xs=>.sl nn s (TP.pes xs)
 |.ptr0=>.ptr0
 |.fn0=>.fn0
 |.if0=>.if0
 |.map0=>.map0
 |.fnv f=>.fnv f
 |.iface t x=>.iface t (TP.pe x)
def TP.pes:List TP→List Pl
 |[]=>[]
 |x::r=>x.pe::TP.pes r
end
theorem Vj:∀(xs:List TP),TP.pes xs=xs.map TP.pe
 |[]=>rfl
 |x::r=>by rw [TP.pes,Vj r];rfl
def Ty.flds:(fs:List Ty)→Ty.dens fs→List TP
 |[],_=>[]
 |[t],x=>[.v t x]
 |t::u::r,x=>.v t x.1::Ty.flds (u::r) x.2
theorem ZqR:∀(fs:List Ty) (x:Ty.dens fs),TP.pes (Ty.flds fs x)=Ty.encs fs x
 |[],_=>rfl
 |[t],x=>rfl
 |t::u::r,x=>by
  show t.enc x.1::TP.pes (Ty.flds (u::r) x.2)=t.enc x.1::Ty.encs (u::r) x.2
  rw [ZqR (u::r) x.2]
def TP.parts:TP→Option (List TP)
 |.v (.st fs) x=>some (Ty.flds fs x)
 |.agg l=>some l
 |_=>none
theorem Zyv {x:TP} {l:List TP} (h:x.parts=some l):x.pe=.agg (TP.pes l):=by
 cases x with
 |v t a=>
  cases t with
  |st fs=>
   cases (show some (Ty.flds fs a)=some l from h)
   exact congrArg Pl.agg (ZqR fs a).symm
  |_=>cases h
 |agg l'=>cases h;rfl
 |_=>cases h
def Xj:List Nat→TP→TP
 |[],x=>match x with
  |.v (.sl t) _=>.sl (some false) t []
  |x=>x
 |i::r,x=>match x.parts with
  |some l=>match l[i]? with
   |some z=>.agg (l.set i (Xj r z))
   |none=>x
  |none=>x
inductive Stp where
 |fld (i o:Nat)
 |ix (i s:Nat)
def Stp.i:Stp→Nat
 |.fld i _=>i
 |.ix i _=>i
def Stp.o:Stp→Nat
 |.fld _ o=>o
 |.ix i s=>i*s
def XO:List Stp→Nat
 |l=>l.foldl (fun n q=>n+q.o) 0
inductive TD where
 |p (x:TP)
 |elem (x:TP)
 |ref (id:Nat) (path:List Stp)
 |own (id:Nat) (nn:Option Bool) (t:Ty) (c:Option (List t.den))
 |view (id:Nat) (path:List Stp) (s lo n:Nat)
 |agg (xs:List TD)
 |arr (n s:Nat) (xs:List TD)
 |fn (f:FuncId) (cap:List TD)
 |iface (t:TypeId) (x:TD)
 |tup (xs:List TD)
 |mp (id:Nat)
 |rv (id v s lo n:Nat)
 |rref (id v:Nat) (path:List Stp)
 |rw (id:Nat)
 |rp (id:Nat) (path:List Stp)
 |junk
instance:Inhabited TD:=⟨.junk⟩
abbrev Lk:=Nat→Option (Σ t:Ty,List t.den)
def ZR (L:Lk) (id:Nat) (t:Ty):Option (List t.den)→List t.den
 |some xs=>xs
 |none=>match L id with
  |some q=>(Ty.castL q.1 t q.2).getD []
  |none=>[]
def ZaB (L:Lk) (id k:Nat):Nat:=(((ZR L id (.sl (.st [])) none)[k]?).getD []).length
mutual
def TD.er (L:Lk):TD→Dv
 |.p x=>.p x.pe
 |.elem x=>.elem x.pe
 |.ref id path=>.ref id (XO path) (path.map Stp.i)
 |.own id nn t c=>.own id nn t.size ((ZR L id t c).map t.enc)
 |.view id path s lo n=>.view id (XO path) (path.map Stp.i) s lo n
 |.agg xs=>.agg (TD.ers L xs)
 |.arr n s xs=>.arr n s (TD.ers L xs)
 |.fn f cap=>.fn f (TD.ers L cap)
 |.iface t x=>.iface t (TD.er L x)
 |.tup xs=>.tup (TD.ers L xs)
 |.mp id=>.mp id
 |.rv id v s lo n=>.rv id v s lo n
 |.rref id v path=>.rref id v (XO path) (path.map Stp.i)
 |.rw id=>.rv id (ZaB L id 0) (ZaB L id 1) 0 (ZaB L id 2)
 |.rp id path=>.rref id (ZaB L id 0) (XO path) (path.map Stp.i)
 |.junk=>.junk
def TD.ers (L:Lk):List TD→List Dv
 |[]=>[]
 |x::r=>x.er L::TD.ers L r
end
theorem ZB {L:Lk}:∀(xs:List TD),TD.ers L xs=xs.map (TD.er L)
 |[]=>rfl
 |x::r=>by rw [TD.ers,ZB r];rfl
inductive TEnt where
 |var (d:TD) (st:Bool)
 |log (t:Ty) (e:TypeId) (xs:List t.den)
 |map (tid:TypeId) (k v:Ty) (l:List (k.den×v.den))
 |row (v s:Nat) (st:Bool) (e:TypeId) (d:TD)
 |rowT (t:Ty) (v:List Unit) (st:Bool) (e:TypeId) (xs:List t.den)
 |rowN (t:Ty) (np:List Nat) (v:List Unit) (st:Bool) (e:TypeId) (pre post:List t.den)
 |rowM (t:Ty) (np:List Nat) (v:List Unit) (st:Bool) (e:TypeId) (pre:List t.den) (mid:TD) (post:List t.den)
 |gone
instance:Inhabited TEnt:=⟨.gone⟩
def TEnt.er (L:Lk):TEnt→Ent
 |.var d st=>.var (d.er L) st
 |.log t e xs=>.log t.size e (xs.map t.enc)
 |.map tid k v l=>.map tid (kvl k.enc v.enc l)
 |.row v s st e d=>.row v s st e (d.er L)
 |.rowT t v st e xs=>.row v.length t.size st e (.p (.arr xs.length t.size (xs.map t.enc)))
 |.rowN t np v st e pre post=>.row v.length t.size st e (.p (.arr (pre.length+post.length) t.size (pre.map t.enc++post.map fun x=>(Xj np (.v t x)).pe)))
 |.rowM t np v st e pre mid post=>.row v.length t.size st e (.arr (pre.length+(post.length+1)) t.size ((pre.map fun x=>.p (t.enc x))++mid.er L::post.map fun x=>.p (Xj np (.v t x)).pe))
 |.gone=>.gone
def lkE:Option TEnt→Option (Σ t:Ty,List t.den)
 |some (.log t _ xs)=>some ⟨t,xs⟩
 |some (.rowT t v _ _ xs)=>some ⟨.sl (.st []),([v,yr t.size (),yr xs.length ()]:List (List Unit))⟩
 |some (.rowN t _ v _ _ pre post)=>some ⟨.sl (.st []),([v,yr t.size (),yr (pre.length+post.length) ()]:List (List Unit))⟩
 |some (.rowM t _ v _ _ pre _ post)=>some ⟨.sl (.st []),([v,yr t.size (),yr (pre.length+(post.length+1)) ()]:List (List Unit))⟩
 |_=>none
def lk (H:List TEnt):Lk:=fun id=>lkE (H[id]?)
def erH (H:List TEnt):List Ent:=H.map (TEnt.er (lk H))
theorem ZP {H:List TEnt} {i:Nat} {e:TEnt} (h:H[i]? =some e):(erH H)[i]? =some (e.er (lk H)):=by rw [erH,yac,h];rfl
theorem ZeN {L:Lk} {ts:List TD} {i:Nat} {d:TD} (h:ts[i]? =some d):(TD.ers L ts)[i]? =some (d.er L):=by rw [ZB,yac,h];rfl
theorem ZI (H:List TEnt):(erH H).length=H.length:=yu ..
theorem ZgG {L:Lk} (H:List TD):(TD.ers L H).length=H.length:=by rw [ZB];exact yu ..
def Zla {α β:Type}:Option α→Option β→Option (α×β)
 |some a,some b=>some (a,b)
 |_,_=>none
theorem VE {α β:Type} {a:Option α} {b:Option β} {q:α×β} (h:Zla a b=some q):a=some q.1∧b=some q.2:=by
 cases a with
 |none=>cases h
 |some x=>cases b with
  |none=>cases h
  |some y=>cases h;exact ⟨rfl,rfl⟩
def ZEO (nn:Bool) (t:Ty) (xs:List t.den):(u:Ty)→Option u.den
 |.sl u=>if nn then Ty.castL t u xs else none
 |_=>none
def ZEP (f:(fs:List Ty)→Option (Ty.dens fs)):(u:Ty)→Option u.den
 |.st fs=>f fs
 |_=>none
def ZBQ (n s:Nat) (f:(t:Ty)→Option (List t.den)):(u:Ty)→Option u.den
 |.arr m t=>if n=m∧s=t.size then f t else none
 |_=>none
def ZBR:(fs:List Ty)→Option (Ty.dens fs)
 |[]=>some ()
 |_=>none
def ZrK (f:(t:Ty)→Option t.den) (last:Bool) (g:(fs:List Ty)→Option (Ty.dens fs)):(fs:List Ty)→Option (Ty.dens fs)
 |[]=>none
 |[t]=>if last then f t else none
 |t::u::q=>Zla (f t) (g (u::q))
mutual
def TP.to (ok:Option Bool→Bool):TP→(t:Ty)→Option t.den
 |.v t x=>fun u=>Ty.cast t u x
 |.sl nn t xs=>ZEO (ok nn) t xs
 |.agg xs=>ZEP (TP.tos ok xs)
 |.arr n s xs=>ZBQ n s (TP.toL ok xs)
 |.sll _ _ _=>fun _=>none
 |.ptr0=>fun _=>none
 |.fn0=>fun _=>none
 |.if0=>fun _=>none
 |.map0=>fun _=>none
 |.fnv _=>fun _=>none
 |.iface _ _=>fun _=>none
def TP.tos (ok:Option Bool→Bool):List TP→(fs:List Ty)→Option (Ty.dens fs)
 |[]=>ZBR
 |x::r=>ZrK (TP.to ok x) r.isEmpty (TP.tos ok r)
def TP.toL (ok:Option Bool→Bool):List TP→(t:Ty)→Option (List t.den)
 |[]=>fun _=>some []
 |x::r=>fun t=>(Zla (TP.to ok x t) (TP.toL ok r t)).map fun q=>q.1::q.2
end
def ZiK:Option Bool→Bool:=fun _=>true
def ZfR:Option Bool→Bool:=Option.isNone
theorem ZAl (t:Ty) (l:List t.den):(Ty.sl t).enc l=.sl none t.size (l.map t.enc):=rfl
theorem Zv8 (n:Nat) (t:Ty) (l:List t.den):(Ty.arr n t).enc l=.arr n t.size (l.map t.enc):=rfl
theorem Zoo {b:Bool} {nn:Option Bool} {t u:Ty} {xs:List t.den} {y:u.den} (h:ZEO b t xs u=some y):∃l:List t.den,b=true∧u.enc y=.sl none t.size (l.map t.enc)∧l=xs:=by
 cases u with
 |sl u=>
  have h':(if b then Ty.castL t u xs else none)=some y:=h
  split at h'
  ·rename_i hb
   obtain ⟨e,h2⟩:=Zz h'
   subst e
   subst h2
   exact ⟨y,hb,rfl,rfl⟩
  ·cases h'
 |_=>cases h
theorem Zop {f:(fs:List Ty)→Option (Ty.dens fs)} {u:Ty} {y:u.den} (h:ZEP f u=some y):∃(fs:List Ty) (z:Ty.dens fs),f fs=some z∧u.enc y=.agg (Ty.encs fs z):=by
 cases u with
 |st fs=>exact ⟨fs,y,h,rfl⟩
 |_=>cases h
theorem ZrL {n s:Nat} {f:(t:Ty)→Option (List t.den)} {u:Ty} {y:u.den} (h:ZBQ n s f u=some y):∃(t:Ty) (l:List t.den),f t=some l∧u.enc y=.arr n s (l.map t.enc):=by
 cases u with
 |arr m t=>
  have h':(if n=m∧s=t.size then f t else none)=some y:=h
  split at h'
  ·rename_i e
   obtain ⟨rfl,rfl⟩:=e
   exact ⟨t,y,h',rfl⟩
  ·cases h'
 |_=>cases h
theorem ZrM {fs:List Ty} {y:Ty.dens fs} (h:ZBR fs=some y):Ty.encs fs y=[]:=by
 cases fs with
 |nil=>rfl
 |cons _ _=>cases h
theorem Zpo {f:(t:Ty)→Option t.den} {b:Bool} {g:(fs:List Ty)→Option (Ty.dens fs)} {fs:List Ty} {y:Ty.dens fs} (h:ZrK f b g fs=some y):
 ∃(t:Ty) (x:t.den) (l:List Pl),f t=some x∧Ty.encs fs y=t.enc x::l∧((b=true∧l=[])∨∃(gs:List Ty) (z:Ty.dens gs),g gs=some z∧l=Ty.encs gs z):=by
 match fs,y,h with
 |[],_,h=>cases h
 |[t],y,h=>
  have h':(if b then f t else none)=some y:=h
  split at h'
  ·rename_i hb
   exact ⟨t,y,[],h',rfl,.inl ⟨hb,rfl⟩⟩
  ·cases h'
 |t::u::q,y,h=>
  obtain ⟨h1,h2⟩:=VE (α:=t.den) (β:=Ty.dens (u::q)) h
  exact ⟨t,y.1,_,h1,rfl,.inr ⟨u::q,y.2,h2,rfl⟩⟩
mutual
theorem ZeO {ok:Option Bool→Bool}:∀(x:TP) (t:Ty) (y:t.den),TP.to ok x t=some y→x.pe.soft=t.enc y
 |.v t x,u,y,h=>by
  obtain ⟨e,rfl⟩:=Va (show Ty.cast t u x=some y from h)
  subst e
  exact ZmH t x
 |.sl nn t xs,u,y,h=>by
  obtain ⟨l,_,h2,h3⟩:=Zoo (nn:=nn) (show ZEO (ok nn) t xs u=some y from h)
  rw [h2,h3]
  rfl
 |.agg xs,u,y,h=>by
  obtain ⟨fs,z,h1,h2⟩:=Zop (show ZEP (TP.tos ok xs) u=some y from h)
  rw [h2]
  show Pl.agg (Pl.softs (TP.pes xs))=_
  rw [tos_soft xs fs z h1]
 |.arr n s xs,u,y,h=>by
  obtain ⟨t,l,h1,h2⟩:=ZrL (show ZBQ n s (TP.toL ok xs) u=some y from h)
  rw [h2]
  show Pl.arr n s (Pl.softs (TP.pes xs))=_
  rw [toL_soft xs t l h1]
 |.sll _ _ _,_,_,h=>nomatch (show none=some _ from h)
 |.ptr0,_,_,h=>nomatch (show none=some _ from h)
 |.fn0,_,_,h=>nomatch (show none=some _ from h)
 |.if0,_,_,h=>nomatch (show none=some _ from h)
 |.map0,_,_,h=>nomatch (show none=some _ from h)
 |.fnv _,_,_,h=>nomatch (show none=some _ from h)
 |.iface _ _,_,_,h=>nomatch (show none=some _ from h)
theorem tos_soft {ok:Option Bool→Bool}:∀(xs:List TP) (fs:List Ty) (y:Ty.dens fs),TP.tos ok xs fs=some y→Pl.softs (TP.pes xs)=Ty.encs fs y
 |[],fs,y,h=>(ZrM (show ZBR fs=some y from h)).symm
 |x::r,fs,y,h=>by
  obtain ⟨t,a,l,h1,h2,h3⟩:=Zpo (show ZrK (TP.to ok x) r.isEmpty (TP.tos ok r) fs=some y from h)
  rw [h2]
  show x.pe.soft::Pl.softs (TP.pes r)=_
  rw [ZeO x t a h1]
  rcases h3 with ⟨h4,rfl⟩|⟨gs,z,h4,rfl⟩
  ·cases r with
   |nil=>rfl
   |cons _ _=>cases h4
  ·rw [tos_soft r gs z h4]
theorem toL_soft {ok:Option Bool→Bool}:∀(xs:List TP) (t:Ty) (y:List t.den),TP.toL ok xs t=some y→Pl.softs (TP.pes xs)=y.map t.enc
 |[],_,y,h=>by
  cases (show some []=some y from h)
  rfl
 |x::r,t,y,h=>by
  obtain ⟨q,h1,rfl⟩:=Zb (show (Zla (TP.to ok x t) (TP.toL ok r t)).map (fun q=>q.1::q.2)=some y from h)
  obtain ⟨h2,h3⟩:=VE h1
  show x.pe.soft::Pl.softs (TP.pes r)=_
  rw [ZeO x t q.1 h2,toL_soft r t q.2 h3,yx]
end
theorem Zyw {ok:Option Bool→Bool} {x:TP} {t:Ty} {y:t.den} (h:TP.to ok x t=some y):PlWk x.pe (t.enc y):=ZeO x t y h ▸ Zgw x.pe
mutual
theorem ZiL:∀(x:TP) (t:Ty) (y:t.den),TP.to ZfR x t=some y→x.pe=t.enc y
 |.v t x,u,y,h=>by
  obtain ⟨e,rfl⟩:=Va (show Ty.cast t u x=some y from h)
  subst e
  rfl
 |.sl nn t xs,u,y,h=>by
  obtain ⟨l,h1,h2,h3⟩:=Zoo (nn:=nn) (show ZEO (ZfR nn) t xs u=some y from h)
  rw [h2,h3]
  cases nn with
  |none=>rfl
  |some _=>cases h1
 |.agg xs,u,y,h=>by
  obtain ⟨fs,z,h1,h2⟩:=Zop (show ZEP (TP.tos ZfR xs) u=some y from h)
  rw [h2]
  show Pl.agg (TP.pes xs)=_
  rw [tos_exact xs fs z h1]
 |.arr n s xs,u,y,h=>by
  obtain ⟨t,l,h1,h2⟩:=ZrL (show ZBQ n s (TP.toL ZfR xs) u=some y from h)
  rw [h2]
  show Pl.arr n s (TP.pes xs)=_
  rw [toL_exact xs t l h1]
 |.sll _ _ _,_,_,h=>nomatch (show none=some _ from h)
 |.ptr0,_,_,h=>nomatch (show none=some _ from h)
 |.fn0,_,_,h=>nomatch (show none=some _ from h)
 |.if0,_,_,h=>nomatch (show none=some _ from h)
 |.map0,_,_,h=>nomatch (show none=some _ from h)
 |.fnv _,_,_,h=>nomatch (show none=some _ from h)
 |.iface _ _,_,_,h=>nomatch (show none=some _ from h)
theorem tos_exact:∀(xs:List TP) (fs:List Ty) (y:Ty.dens fs),TP.tos ZfR xs fs=some y→TP.pes xs=Ty.encs fs y
 |[],fs,y,h=>(ZrM (show ZBR fs=some y from h)).symm
 |x::r,fs,y,h=>by
  obtain ⟨t,a,l,h1,h2,h3⟩:=Zpo (show ZrK (TP.to ZfR x) r.isEmpty (TP.tos ZfR r) fs=some y from h)
  rw [h2]
  show x.pe::TP.pes r=_
  rw [ZiL x t a h1]
  rcases h3 with ⟨h4,rfl⟩|⟨gs,z,h4,rfl⟩
  ·cases r with
   |nil=>rfl
   |cons _ _=>cases h4
  ·rw [tos_exact r gs z h4]
theorem toL_exact:∀(xs:List TP) (t:Ty) (y:List t.den),TP.toL ZfR xs t=some y→TP.pes xs=y.map t.enc
 |[],_,y,h=>by
  cases (show some []=some y from h)
  rfl
 |x::r,t,y,h=>by
  obtain ⟨q,h1,rfl⟩:=Zb (show (Zla (TP.to ZfR x t) (TP.toL ZfR r t)).map (fun q=>q.1::q.2)=some y from h)
  obtain ⟨h2,h3⟩:=VE h1
  show x.pe::TP.pes r=_
  rw [ZiL x t q.1 h2,toL_exact r t q.2 h3,yx]
end
end Go.Ev
end
section
namespace Go.Ev
mutual
def Zh5 (P:Program):Nat→TypeId→Option Ty
 |0,_=>none
 |n+1,t=>match P.underlying t with
  |some (.int .u8)=>some .u8
  |some (.int .u32)=>some .u32
  |some (.int .u64)=>some .u64
  |some (.int k)=>some (.int k)
  |some .bool=>some .bool
  |some .string=>some .str
  |some (.slice e)=>(Zh5 P n e).map .sl
  |some (.array m e)=>(Zh5 P n e).map (.arr m)
  |some (.struct fs)=>(tysOf P n (fs.toList.map (·.type))).map .st
  |_=>none
def tysOf (P:Program):Nat→List TypeId→Option (List Ty)
 |0,_=>none
 |_+1,[]=>some []
 |n+1,t::r=>match Zh5 P n t,tysOf P n r with
  |some a,some b=>some (a::b)
  |_,_=>none
end
def ZIQ (k:IntKind) (z:Int):TP:=
 match k with
 |.u8=>.v .u8 (yal z.toNat)
 |.u32=>.v .u32 (ybh z.toNat)
 |.u64=>.v .u64 (yaf z.toNat)
 |k=>.v (.int k) z
def inU (k:IntKind) (z:Int):Bool:=
 match k with
 |.u8=>decide (0≤z)&&decide (z < 256)
 |.u32=>decide (0≤z)&&decide (z < 4294967296)
 |.u64=>decide (0≤z)&&decide (z < 18446744073709551616)
 |_=>true
theorem ZHh {k:IntKind} {z:Int} (h:inU k z=true):(ZIQ k z).pe=.int k z:=by
 cases k <;> simp only [inU,yg,decide_eq_true_eq] at h <;> simp only [ZIQ,TP.pe,Ty.enc]
 ·simp only [Pl.int.injEq,true_and,UInt8.toNat_ofNat'];omega
 ·simp only [Pl.int.injEq,true_and,ych];omega
 ·simp only [Pl.int.injEq,true_and,ybc];omega
abbrev wi (z:Int):Int:=IntKind.i64.wrap z
def w8 (z:Int):UInt8:=yal (z % 256).toNat
def w32 (z:Int):UInt32:=ybh (z % 4294967296).toNat
def w64 (z:Int):UInt64:=yaf (z % 18446744073709551616).toNat
def ZHi (k:IntKind) (z:Int):TP:=
 match k with
 |.u8=>.v .u8 (w8 z)
 |.u32=>.v .u32 (w32 z)
 |.u64=>.v .u64 (w64 z)
 |k=>.v (.int k) (k.wrap z)
theorem ZIR (z:Int):((w8 z).toNat:Int)=IntKind.u8.wrap z:=by
 simp only [w8,IntKind.wrap,IntKind.signed,IntKind.bits,UInt8.toNat_ofNat']
 simp
 omega
theorem ZHj (z:Int):((w32 z).toNat:Int)=IntKind.u32.wrap z:=by
 simp only [w32,IntKind.wrap,IntKind.signed,IntKind.bits,ych]
 simp
 omega
theorem ZHk (z:Int):((w64 z).toNat:Int)=IntKind.u64.wrap z:=by
 simp only [w64,IntKind.wrap,IntKind.signed,IntKind.bits,ybc]
 simp
 omega
theorem ZBS (k:IntKind) (z:Int):(ZHi k z).pe=.int k (k.wrap z):=by
 cases k <;> simp only [ZHi,TP.pe,Ty.enc,ZIR,ZHj,ZHk]
def ZIS:IntKind→Bool
 |.u8=>false
 |.u32=>false
 |.u64=>false
 |_=>true
def ZrN:TP→Option (IntKind×Int)
 |.v (.int k) n=>if ZIS k then some (k,n) else none
 |.v .u8 b=>some (.u8,(b.toNat:Int))
 |.v .u32 b=>some (.u32,(b.toNat:Int))
 |.v .u64 b=>some (.u64,(b.toNat:Int))
 |_=>none
theorem ZmI {x:TP} {q:IntKind×Int} (h:ZrN x=some q):x.pe=.int q.1 q.2∧inU q.1 q.2=true:=by
 unfold ZrN at h
 split at h
 ·rename_i k n
  split at h
  ·rename_i hk
   cases h
   refine ⟨rfl, ?_⟩
   cases k <;> first|rfl|cases hk
  ·cases h
 ·rename_i b;cases h
  exact ⟨rfl,by simp only [inU,yg,decide_eq_true_eq];have:=b.toNat_lt;omega⟩
 ·rename_i b;cases h
  exact ⟨rfl,by simp only [inU,yg,decide_eq_true_eq];have:=b.toNat_lt;omega⟩
 ·rename_i b;cases h
  exact ⟨rfl,by simp only [inU,yg,decide_eq_true_eq];have:=b.toNat_lt;omega⟩
 ·cases h
def tyD:Nat:=40
def ZHl (P:Program) (t:TypeId) (l:List TP):TP:=
 match Zh5 P tyD t with
 |some (.st fs)=>match TP.tos ZfR l fs with
  |some x=>.v (.st fs) x
  |none=>.agg l
 |_=>.agg l
theorem ZBT {P:Program} (t:TypeId) (l:List TP):(ZHl P t l).pe=.agg (TP.pes l):=by
 unfold ZHl
 split
 ·rename_i fs _
  split
  ·rename_i x h
   show Pl.agg (Ty.encs fs x)=_
   rw [tos_exact l fs x h]
  ·rfl
 ·rfl
def ZHm (P:Program) (t:TypeId) (n s:Nat) (l:List TP):TP:=
 match Zh5 P tyD t with
 |some (.arr _ u)=>if s=u.size then match TP.toL ZfR l u with
  |some x=>.v (.arr n u) x
  |none=>.arr n s l else .arr n s l
 |_=>.arr n s l
theorem ZBU {P:Program} (t:TypeId) (n s:Nat) (l:List TP):(ZHm P t n s l).pe=.arr n s (TP.pes l):=by
 unfold ZHm
 split
 ·rename_i u _
  split
  ·rename_i e
   split
   ·rename_i x h
    show Pl.arr n u.size (List.map u.enc x)=_
    rw [toL_exact l u x h,e]
   ·rfl
  ·rfl
 ·rfl
def ZEQ (f:TypeId→Pl→Option TP):List TypeId→List Pl→Option (List TP)
 |[],[]=>some []
 |t::r,x::q=>match f t x,ZEQ f r q with
  |some a,some b=>some (a::b)
  |_,_=>none
 |_,_=>none
def Zyx (P:Program):Nat→TypeId→Pl→Option TP
 |0,_,_=>none
 |n+1,t,x=>match x with
  |.int k z=>if inU k z then some (ZIQ k z) else none
  |.bool b=>some (.v .bool b)
  |.str b=>some (.v .str b)
  |.ptr0=>some .ptr0
  |.fn0=>some .fn0
  |.if0=>some .if0
  |.map0=>some .map0
  |.sl nn s []=>match P.underlying t with
   |some (.slice e)=>(Zh5 P tyD e).bind fun T=>if s=T.size then some (.sl nn T []) else none
   |_=>none
  |.agg xs=>match P.underlying t with
   |some (.struct fs)=>(ZEQ (Zyx P n) (fs.toList.map (·.type)) xs).map (ZHl P t)
   |_=>none
  |.arr m s xs=>match P.underlying t with
   |some (.array _ e)=>(ZEQ (Zyx P n) (yr xs.length e) xs).map (ZHm P t m s)
   |_=>none
  |_=>none
theorem Zv9 {f:TypeId→Pl→Option TP} (h:∀t x y,f t x=some y→y.pe=x):∀(l:List TypeId) (xs:List Pl) (r:List TP),ZEQ f l xs=some r→TP.pes r=xs
 |[],[],r,k=>by cases k;rfl
 |[],_::_,r,k=>by cases k
 |_::_,[],r,k=>by cases k
 |t::l,x::xs,r,k=>by
  simp only [ZEQ] at k
  split at k
  ·rename_i a b h1 h2
   cases k
   rw [TP.pes,h t x a h1,Zv9 h l xs b h2]
  ·cases k
theorem ZrO {P:Program}:∀(n:Nat) (t:TypeId) (x:Pl) (y:TP),Zyx P n t x=some y→y.pe=x
 |0,_,_,_,h=>by cases h
 |n+1,t,x,y,h=>by
  unfold Zyx at h
  split at h
  ·split at h
   ·rename_i hk
    cases h
    exact ZHh hk
   ·cases h
  ·cases h;rfl
  ·cases h;rfl
  ·cases h;rfl
  ·cases h;rfl
  ·cases h;rfl
  ·cases h;rfl
  ·split at h
   ·obtain ⟨T,h1,h2⟩:=yc.1 h
    split at h2
    ·rename_i e
     cases h2
     rw [TP.pe,e]
     rfl
    ·cases h2
   ·cases h
  ·split at h
   ·obtain ⟨l,h1,rfl⟩:=Zb h
    rw [ZBT,Zv9 (ZrO n) _ _ _ h1]
   ·cases h
  ·split at h
   ·obtain ⟨l,h1,rfl⟩:=Zb h
    rw [ZBU,Zv9 (ZrO n) _ _ _ h1]
   ·cases h
  ·cases h
def Zwa (P:Program) (t:TypeId) (x:Pl):Option TP:=Zyx P 30 t x
def ZAm (P:Program) (t:TypeId) (v:Value):Option TD:=
 match Zn9 P t v with
 |.p x=>(Zwa P t x).map .p
 |.fn f []=>some (.fn f [])
 |_=>none
def arT (P:Program) (ts:List TD) (t:TypeId):Operand→Option TD
 |.tmp i=>some (ts.getD i .junk)
 |.const v=>ZAm P t v
 |.global _=>none
 |.func f=>if f < big then some (.fn f []) else none
theorem Zoq {P:Program} {t:TypeId} {x:Pl} {y:TP} (h:Zwa P t x=some y):y.pe=x:=ZrO _ _ _ _ h
theorem ZmJ {L:Lk} (ts:List TD) (i:Nat):(TD.ers L ts).getD i .junk=(ts.getD i .junk).er L:=by
 rw [ZB]
 simp only [List.getD_eq_getElem?_getD,yac]
 cases ts[i]? <;> rfl
theorem Zo {L:Lk} {P:Program} {ts:List TD} {t:TypeId} {x:Operand} {d:TD} (h:arT P ts t x=some d):Zs P (TD.ers L ts) t x=d.er L:=by
 cases x with
 |tmp i=>cases h;exact ZmJ ts i
 |const v=>
  have h':ZAm P t v=some d:=h
  show Zn9 P t v=d.er L
  unfold ZAm at h'
  split at h'
  ·rename_i x hx
   obtain ⟨y,h1,rfl⟩:=Zb h'
   rw [hx,TD.er,Zoq h1]
  ·rename_i f hf
   cases h'
   rw [hf]
   rfl
  ·cases h'
 |global _=>cases h
 |func f=>
  have h':(if f < big then some (TD.fn f []) else none)=some d:=h
  by_cases hf:f < big
  ·rw [if_pos hf] at h'
   cases h'
   show (if f < big then Dv.fn f [] else .junk)=_
   rw [if_pos hf]
   rfl
  ·rw [if_neg hf] at h'
   cases h'
end Go.Ev
end
section
namespace Go.Ev
structure HI where
 own:List Tmp:=[]
 still:List Tmp:=[]
 row:List Tmp:=[]
 rowt:List Tmp:=[]
 deep:List TypeId:=[]
 eqs:Bool:=false
 frz:List Tmp:=[]
 ghost:List (Tmp×List (List Nat×Ty×TypeId)):=[]
 gst:List (Tmp×List (List Nat×Ty×TypeId)):=[]
 lits:List Tmp:=[]
 rew:List (Tmp×Tmp):=[]
 deriving Inhabited
def GoodN (L:Lk) (P:Program) (o:Oper) (ts:List TD) (d:TD) (hs:List Hint):Prop:=
 ∃C,AllP C∧∀rest,evN P o (TD.ers L ts) (hs++rest)=some (C,d.er L,rest)
def idx {α:Type} (l:List α) (i:Int):Option α:=if 0≤i then l[i.toNat]? else none
def inB (i:Int) (n:Nat):Bool:=decide (0≤i)&&decide (i < (n:Int))
def QS (len:Nat):Option Int→Option Int→Bool
 |none,none=>true
 |none,some h=>decide (0≤h)&&decide (h≤(len:Int))
 |some l,none=>decide (0≤l)&&decide (l≤(len:Int))
 |some l,some h=>decide (0≤l)&&(decide (l≤h)&&decide (h≤(len:Int)))
def Zyy (n b:Nat):Bool:=decide (n*b≤Zp)&&decide (n≤maxLen)
theorem ZmK {α:Type} {l:List α} {i:Int} {y:α} (h:idx l i=some y):0≤i∧l[i.toNat]? =some y:=by
 unfold idx at h
 split at h
 ·exact ⟨by assumption,h⟩
 ·cases h
theorem Vk {i:Int} {n:Nat} (h:inB i n=true):0≤i∧i < (n:Int):=by simpa [inB] using h
theorem ZdL {len:Nat} {l h:Option Int} (k:QS len l h=true):AllP (YA len l h):=by
 cases l <;> cases h <;> simp only [QS,yg,decide_eq_true_eq] at k <;> simp only [YA,AllP,and_true]
 ·exact k
 ·exact k
 ·exact k
theorem Q5 {n b:Nat} (h:Zyy n b=true):n*b≤Zp∧n≤maxLen:=by simpa [Zyy] using h
theorem Za {α:Type} {b:Bool} {k:Option α} {r:α} (h:(if b=true then k else none)=some r):b=true∧k=some r:=by
 cases b
 ·cases h
 ·exact ⟨rfl,h⟩
theorem ZeP {α β:Type} (f:α→β) (l:List α) (a b:Option Int):(WM l a b).map f=WM (l.map f) a b:=by
 cases a <;> cases b <;> simp [WM]
def TP.fld:TP→Nat→Option TP
 |.v (.st fs) x,i=>(Ty.proj fs x i).map fun q=>.v q.1 q.2
 |.agg l,i=>l[i]?
 |_,_=>none
theorem ZER {x y:TP} {i:Nat} (h:x.fld i=some y):∃xs,x.pe=.agg xs∧xs[i]? =some y.pe:=by
 unfold TP.fld at h
 split at h
 ·obtain ⟨q,h1,rfl⟩:=Zb h
  exact ⟨_,rfl,Zyu _ _ _ q h1⟩
 ·exact ⟨_,rfl,by rw [Vj,yac,h];rfl⟩
 ·cases h
structure Row where
 nn:Option Bool
 t:Ty
 l:List t.den
def TP.row:TP→Option Row
 |.v (.sl t) l=>some ⟨none,t,l⟩
 |.sl nn t l=>some ⟨nn,t,l⟩
 |_=>none
theorem ZIT {x:TP} {r:Row} (h:x.row=some r):x.pe=.sl r.nn r.t.size (r.l.map r.t.enc):=by
 unfold TP.row at h
 split at h
 ·cases h;rfl
 ·cases h;rfl
 ·cases h
structure ARow where
 n:Nat
 t:Ty
 l:List t.den
def TP.arow:TP→Option ARow
 |.v (.arr n t) l=>some ⟨n,t,l⟩
 |_=>none
theorem Vl {x:TP} {r:ARow} (h:x.arow=some r):x.pe=.arr r.n r.t.size (r.l.map r.t.enc):=by
 unfold TP.arow at h
 split at h
 ·cases h;rfl
 ·cases h
def Ty.isAgg:Ty→Bool
 |.arr _ _=>true
 |.st _=>true
 |_=>false
theorem Zkh (t:Ty) (x:t.den):(t.enc x).isAgg=t.isAgg:=by cases t <;> rfl
def TD.row (L:Lk):TD→Option Row
 |.p x=>x.row
 |.own id nn t c=>some ⟨nn,t,ZR L id t c⟩
 |_=>none
theorem ZeQ {L:Lk} {x:TD} {r:Row} (h:x.row L=some r):x.er L=.p (.sl r.nn r.t.size (r.l.map r.t.enc))∨∃id,x.er L=.own id r.nn r.t.size (r.l.map r.t.enc):=by
 unfold TD.row at h
 split at h
 ·exact .inl (by rw [TD.er,ZIT h])
 ·cases h;exact .inr ⟨_,rfl⟩
 ·cases h
def TD.plain (L:Lk):TD→Option TP
 |.p x=>some x
 |.own id nn t c=>some (.sl nn t (ZR L id t c))
 |_=>none
theorem Zu4 {L:Lk} {x:TD} {y:TP} (h:x.plain L=some y):(x.er L).plain=some y.pe:=by
 unfold TD.plain at h
 split at h
 ·cases h;rfl
 ·cases h;rfl
 ·cases h
mutual
def TD.flat (L:Lk):TD→Option TP
 |.p x=>some x
 |.own id nn t c=>some (.sl nn t (ZR L id t c))
 |.agg ds=>(TD.flats L ds).map .agg
 |_=>none
def TD.flats (L:Lk):List TD→Option (List TP)
 |[]=>some []
 |d::r=>match d.flat L,TD.flats L r with
  |some x,some xs=>some (x::xs)
  |_,_=>none
end
mutual
theorem ZqS {L:Lk}:∀(d:TD),(d.er L).flat=(d.flat L).map TP.pe
 |.p x=>by rw [TD.er,Dv.flat,TD.flat];rfl
 |.own id nn t c=>by rw [TD.er,Dv.flat,TD.flat];rfl
 |.agg ds=>by
  rw [TD.er,Dv.flat,TD.flat,flats_er ds]
  cases TD.flats L ds <;> rfl
 |.elem _=>rfl
 |.ref _ _=>rfl
 |.view _ _ _ _ _=>rfl
 |.arr _ _ _=>rfl
 |.fn _ _=>rfl
 |.iface _ _=>rfl
 |.tup _=>rfl
 |.mp _=>rfl
 |.rv _ _ _ _ _=>rfl
 |.rref _ _ _=>rfl
 |.rw _=>rfl
 |.rp _ _=>rfl
 |.junk=>rfl
theorem flats_er {L:Lk}:∀(ds:List TD),Dv.flats (TD.ers L ds)=(TD.flats L ds).map TP.pes
 |[]=>rfl
 |d::r=>by
  rw [TD.ers,Dv.flats,TD.flats,ZqS d,flats_er r]
  cases d.flat L <;> cases TD.flats L r <;> rfl
end
theorem ZrP {L:Lk} {x:TD} {y:TP} (h:x.flat L=some y):(x.er L).flat=some y.pe:=by rw [ZqS,h];rfl
mutual
def TD.owns (ids:List Nat):TD→Bool
 |.own id _ _ _=>ids.contains id
 |.agg ds=>TD.ownss ids ds
 |_=>false
def TD.ownss (ids:List Nat):List TD→Bool
 |[]=>false
 |d::r=>d.owns ids || TD.ownss ids r
end
mutual
theorem ZHn {L:Lk} {ids:List Nat}:∀(d:TD),(d.er L).owns ids=d.owns ids
 |.p x=>rfl
 |.own id nn t c=>rfl
 |.agg ds=>by rw [TD.er,Dv.owns,TD.owns,ownss_er ds]
 |.elem _=>rfl
 |.ref _ _=>rfl
 |.view _ _ _ _ _=>rfl
 |.arr _ _ _=>rfl
 |.fn _ _=>rfl
 |.iface _ _=>rfl
 |.tup _=>rfl
 |.mp _=>rfl
 |.rv _ _ _ _ _=>rfl
 |.rref _ _ _=>rfl
 |.rw _=>rfl
 |.rp _ _=>rfl
 |.junk=>rfl
theorem ownss_er {L:Lk} {ids:List Nat}:∀(ds:List TD),Dv.ownss ids (TD.ers L ds)=TD.ownss ids ds
 |[]=>rfl
 |d::r=>by rw [TD.ers,Dv.ownss,TD.ownss,ZHn d,ownss_er r]
end
def TD.melt (L:Lk) (ds:List TD):TD:=
 match TD.flats L ds with
 |some xs=>.p (.agg xs)
 |none=>.agg ds
theorem ZBV {L:Lk} (ds:List TD):(TD.melt L ds).er L=Dv.melt (TD.ers L ds):=by
 unfold TD.melt Dv.melt
 rw [flats_er]
 cases TD.flats L ds <;> rfl
section
variable {L:Lk} {P:Program} {o:Oper} {ts:List TD} {O:Type}
def okB (P:Program) (e:TypeId) (s:Nat):Bool:=decide (P.cellsOf e=s)&&(P.info? e).isSome
def ZAn (L:Lk) (P:Program) (t:TypeId) (i:Nat) (K:TD→List Hint→Option O):TD→Option O
 |.p x=>(x.fld i).bind fun z=>if (Qn P t (.p x.pe) i).isSome then K (.p z) [] else none
 |.agg ds=>(ds[i]?).bind fun z=>if (Qn P t (.agg (TD.ers L ds)) i).isSome then K z [] else none
 |_=>none
theorem Zpp {t:TypeId} {i:Nat} {K:TD→List Hint→Option O} {x:TD} {out:O} (h:ZAn L P t i K x=some out):∃d,K d []=some out∧Qn P t (x.er L) i=some (d.er L):=by
 unfold ZAn at h
 split at h
 ·rename_i x
  obtain ⟨z,h1,h2⟩:=yc.1 h
  obtain ⟨h3,h4⟩:=Za h2
  refine ⟨_,h4, ?_⟩
  obtain ⟨xs,e1,e2⟩:=ZER h1
  rw [TD.er]
  obtain ⟨d,hd⟩:=Option.isSome_iff_exists.1 h3
  rw [hd]
  unfold Qn at hd
  rw [e1] at hd
  split at hd
  ·rename_i hx
   cases hx
   rw [e2] at hd
   dsimp only at hd
   split at hd
   ·cases hd;rfl
   ·cases hd
  ·rename_i hx;cases hx
  ·cases hd
 ·rename_i ds
  obtain ⟨z,h1,h2⟩:=yc.1 h
  obtain ⟨h3,h4⟩:=Za h2
  refine ⟨_,h4, ?_⟩
  have e2:=ZeN (L:=L) h1
  rw [TD.er]
  obtain ⟨d,hd⟩:=Option.isSome_iff_exists.1 h3
  rw [hd]
  unfold Qn at hd
  split at hd
  ·rename_i hx;cases hx
  ·rename_i hx
   cases hx
   rw [e2] at hd
   dsimp only at hd
   split at hd
   ·cases hd;rfl
   ·cases hd
  ·cases hd
 ·cases h
theorem Qy (l:List Stp) (q:Stp):XO (l++[q])=XO l+q.o:=by simp [XO]
def ZlS (P:Program) (t:TypeId) (i:Nat) (K:TD→List Hint→Option O):TD→Option O
 |.ref id path=>match P.underlying t with
  |some (.struct fs)=>match fs[i]? with
   |some f=>if P.cellsOf f.type !=0&&(P.info? f.type).isSome then K (.ref id (path++[.fld i f.offset])) [] else none
   |none=>none
  |_=>none
 |.rref id v path=>match P.underlying t with
  |some (.struct fs)=>match fs[i]? with
   |some f=>if P.cellsOf f.type !=0&&(P.info? f.type).isSome then K (.rref id v (path++[.fld i f.offset])) [] else none
   |none=>none
  |_=>none
 |.rp id path=>match P.underlying t with
  |some (.struct fs)=>match fs[i]? with
   |some f=>if P.cellsOf f.type !=0&&(P.info? f.type).isSome then K (.rp id (path++[.fld i f.offset])) [] else none
   |none=>none
  |_=>none
 |.elem x=>(x.fld i).bind fun z=>if (Qn P t (.p x.pe) i).isSome then K (.elem z) [] else none
 |_=>none
theorem Zqa {t:TypeId} {i:Nat} {x:Operand} {K:TD→List Hint→Option O} {xd:TD} {out:O} (ho:o.op=.fieldAddr t x i) (hx:arT P ts 0 x=some xd) (h:ZlS P t i K xd=some out):∃d hs,K d hs=some out∧GoodN L P o ts d hs:=by
 have hv:=Zo (L:=L) hx
 unfold ZlS at h
 split at h
 ·rename_i id path
  split at h
  ·rename_i fs hu
   split at h
   ·rename_i f hf
    obtain ⟨h3,h4⟩:=Za h
    refine ⟨_,_,h4,[],trivial,fun rest=> ?_⟩
    simp only [yq]
    unfold evN
    rw [ho]
    dsimp only
    rw [hu,hv]
    dsimp only [TD.er]
    rw [hf]
    dsimp only
    rw [if_pos h3,yan,Qy]
    rfl
   ·cases h
  ·cases h
 ·rename_i id v path
  split at h
  ·rename_i fs hu
   split at h
   ·rename_i f hf
    obtain ⟨h3,h4⟩:=Za h
    refine ⟨_,_,h4,[],trivial,fun rest=> ?_⟩
    simp only [yq]
    unfold evN
    rw [ho]
    dsimp only
    rw [hu,hv]
    dsimp only [TD.er]
    rw [hf]
    dsimp only
    rw [if_pos h3,yan,Qy]
    rfl
   ·cases h
  ·cases h
 ·rename_i id path
  split at h
  ·rename_i fs hu
   split at h
   ·rename_i f hf
    obtain ⟨h3,h4⟩:=Za h
    refine ⟨_,_,h4,[],trivial,fun rest=> ?_⟩
    simp only [yq]
    unfold evN
    rw [ho]
    dsimp only
    rw [hu,hv]
    dsimp only [TD.er]
    rw [hf]
    dsimp only
    rw [if_pos h3,yan,Qy]
    rfl
   ·cases h
  ·cases h
 ·rename_i x
  obtain ⟨z,h1,h2⟩:=yc.1 h
  obtain ⟨h3,h4⟩:=Za h2
  refine ⟨_,_,h4,[],trivial,fun rest=> ?_⟩
  obtain ⟨d,hd,he⟩:=Zpp (L:=L) (P:=P) (t:=t) (i:=i) (K:=fun d _=>some d) (x:=.p x) (out:=.p z) (by show (x.fld i).bind _=_;rw [h1];exact if_pos h3)
  cases hd
  simp only [yq]
  unfold evN
  rw [ho]
  dsimp only
  rw [hv]
  have hu:∃fs,P.underlying t=some (.struct fs):=by
   unfold Qn at h3
   split at h3
   ·exact ⟨_,by assumption⟩
   ·exact ⟨_,by assumption⟩
   ·cases h3
  obtain ⟨fs,hu⟩:=hu
  rw [hu]
  dsimp only [TD.er] at he ⊢
  rw [he]
 ·cases h
theorem ZmL {t:Ty} {l:List t.den} {i:Nat} {y:t.den} (h:l[i]? =some y):(l.map t.enc)[i]? =some (t.enc y):=by rw [yac,h];rfl
def ZlT (L:Lk) (P:Program) (t:TypeId) (i:Int) (K:TD→List Hint→Option O) (xd:TD):Option O:=
 match P.underlying t,xd with
 |some (.slice e),.view id path s lo n=>if okB P e s=true then if inB i n=true then K (.ref id (path++[.ix (lo+i.toNat) s])) [] else none else none
 |some (.slice e),.rv id v s lo n=>if okB P e s=true then if inB i n=true then K (.rref id v [.ix (lo+i.toNat) s]) [] else none else none
 |some (.slice e),xd=>(xd.row L).bind fun r=>if okB P e r.t.size=true then (idx r.l i).bind fun y=>K (.elem (.v r.t y)) [.el (r.t.enc y)] else none
 |some (.array n e),.ref id path=>if (P.info? e).isSome then if inB i n=true then K (.ref id (path++[.ix i.toNat (P.cellsOf e)])) [] else none else none
 |some (.array n e),.rref id v path=>if (P.info? e).isSome then if inB i n=true then K (.rref id v (path++[.ix i.toNat (P.cellsOf e)])) [] else none else none
 |some (.array n e),.rp id path=>if (P.info? e).isSome then if inB i n=true then K (.rp id (path++[.ix i.toNat (P.cellsOf e)])) [] else none else none
 |some (.array n e),.elem x=>x.arow.bind fun r=>if decide (n=r.n)&&okB P e r.t.size then (idx r.l i).bind fun y=>K (.elem (.v r.t y)) [.el (r.t.enc y)] else none
 |_,_=>none
theorem ZHo {e:TypeId} {s:Nat} (h:okB P e s=true):P.cellsOf e=s∧(P.info? e).isSome=true:=by simpa [okB] using h
theorem Zqb {t:TypeId} {x ix:Operand} {K:TD→List Hint→Option O} {xd id:TD} {q:IntKind×Int} {ip:TP} {out:O} (ho:o.op=.indexAddr t x ix) (hx:arT P ts t x=some xd) (hi:arT P ts 0 ix=some (.p ip)) (hq:ZrN ip=some q)
 (h:ZlT L P t q.2 K xd=some out):∃d hs,K d hs=some out∧GoodN L P o ts d hs:=by
 have hv:=Zo (L:=L) hx
 have hw:=Zo (L:=L) hi
 rw [TD.er,(ZmI hq).1] at hw
 unfold ZlT at h
 split at h
 ·rename_i e id path s lo n hu
  obtain ⟨h3,h⟩:=Za h
  obtain ⟨h4,h⟩:=Za h
  refine ⟨_,_,h,[0≤q.2,q.2 < (n:Int)],⟨(Vk h4).1,(Vk h4).2,trivial⟩,fun rest=> ?_⟩
  simp only [yq]
  unfold evN
  rw [ho]
  dsimp only
  rw [hu,hv,hw]
  dsimp only [TD.er]
  rw [if_pos (by simpa [okB] using h3),yan,Qy]
  rfl
 ·rename_i e id v s lo n hu
  obtain ⟨h3,h⟩:=Za h
  obtain ⟨h4,h⟩:=Za h
  refine ⟨_,_,h,[0≤q.2,q.2 < (n:Int)],⟨(Vk h4).1,(Vk h4).2,trivial⟩,fun rest=> ?_⟩
  simp only [yq]
  unfold evN
  rw [ho]
  dsimp only
  rw [hu,hv,hw]
  dsimp only [TD.er]
  rw [if_pos (by simpa [okB] using h3)]
  simp [XO,Stp.o,Stp.i]
 ·rename_i e hu _ _
  obtain ⟨r,h1,h⟩:=yc.1 h
  obtain ⟨h3,h⟩:=Za h
  obtain ⟨y,h5,h⟩:=yc.1 h
  obtain ⟨h6,h7⟩:=ZmK h5
  refine ⟨_,_,h,[0≤q.2,(r.l.map r.t.enc)[q.2.toNat]? =some (r.t.enc y)],⟨h6,ZmL h7,trivial⟩,fun rest=> ?_⟩
  unfold evN
  rw [ho]
  dsimp only
  rcases ZeQ h1 with he|⟨id,he⟩
  ·rw [hu,hv,hw,he]
   dsimp only
   rw [yv,yq]
   dsimp only
   rw [if_pos (by simpa [okB] using h3)]
   rfl
  ·rw [hu,hv,hw,he]
   dsimp only
   rw [yv,yq]
   dsimp only
   rw [if_pos (by simpa [okB] using h3)]
   rfl
 ·rename_i n e id path hu
  obtain ⟨h3,h⟩:=Za h
  obtain ⟨h4,h⟩:=Za h
  refine ⟨_,_,h,[0≤q.2,q.2 < (n:Int)],⟨(Vk h4).1,(Vk h4).2,trivial⟩,fun rest=> ?_⟩
  simp only [yq]
  unfold evN
  rw [ho]
  dsimp only
  rw [hu,hv,hw]
  dsimp only [TD.er]
  rw [if_pos h3,yan,Qy]
  rfl
 ·rename_i n e id v path hu
  obtain ⟨h3,h⟩:=Za h
  obtain ⟨h4,h⟩:=Za h
  refine ⟨_,_,h,[0≤q.2,q.2 < (n:Int)],⟨(Vk h4).1,(Vk h4).2,trivial⟩,fun rest=> ?_⟩
  simp only [yq]
  unfold evN
  rw [ho]
  dsimp only
  rw [hu,hv,hw]
  dsimp only [TD.er]
  rw [if_pos h3,yan,Qy]
  rfl
 ·rename_i n e id path hu
  obtain ⟨h3,h⟩:=Za h
  obtain ⟨h4,h⟩:=Za h
  refine ⟨_,_,h,[0≤q.2,q.2 < (n:Int)],⟨(Vk h4).1,(Vk h4).2,trivial⟩,fun rest=> ?_⟩
  simp only [yq]
  unfold evN
  rw [ho]
  dsimp only
  rw [hu,hv,hw]
  dsimp only [TD.er]
  rw [if_pos h3,yan,Qy]
  rfl
 ·rename_i n e x hu
  obtain ⟨r,h1,h⟩:=yc.1 h
  obtain ⟨h3,h⟩:=Za h
  obtain ⟨y,h5,h⟩:=yc.1 h
  obtain ⟨h6,h7⟩:=ZmK h5
  refine ⟨_,_,h,[0≤q.2,(r.l.map r.t.enc)[q.2.toNat]? =some (r.t.enc y)],⟨h6,ZmL h7,trivial⟩,fun rest=> ?_⟩
  unfold evN
  rw [ho]
  dsimp only
  rw [hu,hv,hw,TD.er,Vl h1]
  rw [yv,yq]
  dsimp only
  rw [if_pos (by simpa [okB,and_assoc] using h3)]
  rfl
 ·cases h
def Zor (s:ByteArray):List UInt8:=s.data.toList
def TP.strB:TP→Option ByteArray
 |.v .str s=>some s
 |_=>none
theorem ZBW {x:TP} {s:ByteArray} (h:x.strB=some s):x.pe=.str s:=by
 unfold TP.strB at h
 split at h
 ·cases h;rfl
 ·cases h
def TP.boolB:TP→Option Bool
 |.v .bool s=>some s
 |_=>none
theorem ZES {x:TP} {s:Bool} (h:x.boolB=some s):x.pe=.bool s:=by
 unfold TP.boolB at h
 split at h
 ·cases h;rfl
 ·cases h
def ZAo (P:Program) (t:TypeId) (i:Int) (K:TD→List Hint→Option O) (x:TP):Option O:=
 match P.underlying t with
 |some (.array n e)=>x.arow.bind fun r=>if decide (n=r.n)&&okB P e r.t.size&&(XG P e==r.t.isAgg&&((P.underlying e).isSome&&r.t.size !=0)) then (idx r.l i).bind fun y=>K (.p (.v r.t y)) [.el (r.t.enc y)] else none
 |some .string=>x.strB.bind fun s=>(idx (Zor s) i).bind fun b=>K (.p (.v .u8 b)) [.el (.int .u8 (b.toNat:Int))]
 |_=>none
theorem Zyz {t:TypeId} {x ix:Operand} {K:TD→List Hint→Option O} {xp:TP} {q:IntKind×Int} {ip:TP} {out:O} (ho:o.op=.index t x ix) (hx:arT P ts t x=some (.p xp)) (hi:arT P ts 0 ix=some (.p ip)) (hq:ZrN ip=some q)
 (h:ZAo P t q.2 K xp=some out):∃d hs,K d hs=some out∧GoodN L P o ts d hs:=by
 have hv:=Zo (L:=L) hx
 have hw:=Zo (L:=L) hi
 rw [TD.er,(ZmI hq).1] at hw
 unfold ZAo at h
 split at h
 ·rename_i n e hu
  obtain ⟨r,h1,h⟩:=yc.1 h
  obtain ⟨h3,h⟩:=Za h
  obtain ⟨y,h5,h⟩:=yc.1 h
  obtain ⟨h6,h7⟩:=ZmK h5
  refine ⟨_,_,h,[0≤q.2,(r.l.map r.t.enc)[q.2.toNat]? =some (r.t.enc y)],⟨h6,ZmL h7,trivial⟩,fun rest=> ?_⟩
  unfold evN
  rw [ho]
  dsimp only
  rw [hu,hv,hw,TD.er,Vl h1]
  rw [yv,yq]
  dsimp only
  simp only [okB,yg,decide_eq_true_eq] at h3
  rw [if_pos (by rw [Zkh];simp only [yg,decide_eq_true_eq];exact ⟨⟨⟨⟨⟨h3.1.1,h3.1.2.1⟩,h3.2.1⟩,h3.2.2.1⟩,h3.1.2.2⟩,h3.2.2.2⟩)]
  rfl
 ·rename_i hu
  obtain ⟨s,h1,h⟩:=yc.1 h
  obtain ⟨y,h5,h⟩:=yc.1 h
  obtain ⟨h6,h7⟩:=ZmK h5
  refine ⟨_,_,h,[0≤q.2,(s.data.toList[q.2.toNat]?).map (fun x:UInt8=>(x.toNat:Int))=some (y.toNat:Int)],⟨h6,by rw [show s.data.toList=Zor s from rfl,h7];rfl,trivial⟩,fun rest=> ?_⟩
  unfold evN
  rw [ho]
  dsimp only
  rw [hu,hv,hw,TD.er,ZBW h1]
  rfl
 ·cases h
def Zex (P:Program) (ts:List TD):Option Operand→Option (Option Int)
 |none=>some none
 |some x=>match arT P ts 0 x with
  |some (.p y)=>(ZrN y).map fun q=>some q.2
  |_=>none
theorem Q6 {x:Option Operand} {l:Option Int} (h:Zex P ts x=some l):Zdy P (TD.ers L ts) x=some l:=by
 cases x with
 |none=>cases h;rfl
 |some x=>
  unfold Zex at h
  dsimp only at h
  split at h
  ·rename_i y hy
   obtain ⟨q,h1,rfl⟩:=Zb h
   unfold Zdy
   dsimp only
   rw [Zo hy,TD.er,(ZmI h1).1]
  ·cases h
def ZAp (L:Lk) (P:Program) (t:TypeId) (lo hi:Option Int) (K:TD→List Hint→Option O) (xd:TD):Option O:=
 match P.underlying t,xd with
 |some (.slice e),.view id path s l0 n=>if okB P e s=true then if QS n lo hi=true then K (.view id path s (l0+(lo.getD 0).toNat) ((hi.getD n).toNat - (lo.getD 0).toNat)) [] else none else none
 |some (.slice e),.rv id v s l0 n=>if okB P e s=true then if QS n lo hi=true then K (.rv id v s (l0+(lo.getD 0).toNat) ((hi.getD n).toNat - (lo.getD 0).toNat)) [.bare] else none else none
 |some (.slice e),xd=>(xd.row L).bind fun r=>if okB P e r.t.size=true then if QS r.l.length lo hi=true then K (.p (.sl r.nn r.t (WM r.l lo hi))) [] else none else none
 |some (.array n e),.elem x=>x.arow.bind fun r=>if decide (n=r.n)&&okB P e r.t.size&&decide (n≤maxLen) then if QS n lo hi=true then K (.p (.sl (some true) r.t (WM r.l lo hi))) [] else none else none
 |some (.array n e),.ref id path=>if (P.info? e).isSome&&decide (n≤maxLen) then if QS n lo hi=true then K (.view id path (P.cellsOf e) (lo.getD 0).toNat ((hi.getD n).toNat - (lo.getD 0).toNat)) [.raw] else none else none
 |_,_=>none
theorem ZyA {t:TypeId} {x:Operand} {lo hi:Option Operand} {l h':Option Int} {K:TD→List Hint→Option O} {xd:TD} {out:O} (ho:o.op=.slice t x lo hi none) (hx:arT P ts t x=some xd) (hl:Zex P ts lo=some l) (hh:Zex P ts hi=some h')
 (h:ZAp L P t l h' K xd=some out):∃d hs,K d hs=some out∧GoodN L P o ts d hs:=by
 have hv:=Zo (L:=L) hx
 have hl:=Q6 (L:=L) hl
 have hh:=Q6 (L:=L) hh
 unfold ZAp at h
 split at h
 ·rename_i e id path s l0 n hu
  obtain ⟨h3,h⟩:=Za h
  obtain ⟨h4,h⟩:=Za h
  refine ⟨_,_,h,YA n l h',ZdL h4,fun rest=> ?_⟩
  simp only [yq]
  unfold evN
  rw [ho]
  dsimp only
  rw [hu,hv,hl,hh]
  dsimp only [TD.er]
  rw [if_pos (by simpa [okB] using h3)]
 ·rename_i e id v s l0 n hu
  obtain ⟨h3,h⟩:=Za h
  obtain ⟨h4,h⟩:=Za h
  refine ⟨_,_,h,YA n l h',ZdL h4,fun rest=> ?_⟩
  unfold evN
  rw [ho]
  dsimp only
  rw [hu,hv,hl,hh]
  dsimp only [TD.er]
  rw [yv,yq]
  dsimp only
  rw [if_pos (by simpa [okB] using h3)]
 ·rename_i e hu _ _
  obtain ⟨r,h1,h⟩:=yc.1 h
  obtain ⟨h3,h⟩:=Za h
  obtain ⟨h4,h⟩:=Za h
  refine ⟨_,_,h,YA r.l.length l h',ZdL h4,fun rest=> ?_⟩
  simp only [yq]
  unfold evN
  rw [ho]
  dsimp only
  rw [TD.er,TP.pe,ZeP]
  rcases ZeQ h1 with he|⟨id,he⟩
  ·rw [hu,hv,hl,hh,he]
   dsimp only
   rw [if_pos (by simpa [okB] using h3),yu]
  ·rw [hu,hv,hl,hh,he]
   dsimp only
   rw [if_pos (by simpa [okB] using h3),yu]
 ·rename_i n e x hu
  obtain ⟨r,h1,h⟩:=yc.1 h
  obtain ⟨h3,h⟩:=Za h
  obtain ⟨h4,h⟩:=Za h
  refine ⟨_,_,h,YA n l h',ZdL h4,fun rest=> ?_⟩
  simp only [yq]
  unfold evN
  rw [ho]
  dsimp only
  rw [hu,hv,hl,hh,show (TD.elem x).er L=.elem x.pe from rfl,Vl h1]
  dsimp only
  rw [if_pos (by simpa [okB,and_assoc] using h3),TD.er,TP.pe,ZeP]
 ·rename_i n e id path hu
  obtain ⟨h3,h⟩:=Za h
  obtain ⟨h4,h⟩:=Za h
  refine ⟨_,_,h,YA n l h',ZdL h4,fun rest=> ?_⟩
  unfold evN
  rw [ho]
  dsimp only
  rw [hu,hv,hl,hh]
  dsimp only [TD.er]
  rw [yv,yq]
  dsimp only
  rw [if_pos (by simpa using h3)]
 ·cases h
end
end Go.Ev
end
section
namespace Go.Ev
def ZIU (x:UInt8) (n:Nat):UInt8:=yal (x.toNat*2 ^ n)
def ZIV (x:UInt8) (n:Nat):UInt8:=yal (x.toNat / 2 ^ n)
theorem ZIt {n:Nat} (h:n < 256):IntKind.u8.wrap (n:Int)=(n:Int):=by
 simp only [IntKind.wrap,IntKind.signed,IntKind.bits];simp;omega
theorem Zki (z:Int):IntKind.u8.wrap z=z % 256:=by
 simp only [IntKind.wrap,IntKind.signed,IntKind.bits];simp
theorem ZIu (op:BinOp) (x y:UInt8):bits op .u8 (x.toNat:Int) (y.toNat:Int)=((match op with|.and=>x&&&y|.or=>x|||y|.xor=>x^^^y|_=>x&&& ~~~y).toNat:Int):=by
 have e:∀z:UInt8,BitVec.ofInt (IntKind.u8.bits) (z.toNat:Int)=z.toBitVec:=fun z=>by
  show BitVec.ofInt 8 (z.toNat:Int)=z.toBitVec
  apply BitVec.eq_of_toNat_eq
  rw [BitVec.ofInt_natCast,BitVec.toNat_ofNat]
  exact yai (UInt8.toNat_lt z)
 unfold bits
 rw [e,e]
 cases op <;> exact ZIt (UInt8.toNat_lt _)
def op8:BinOp→UInt8→UInt8→Option UInt8
 |.add,x,y=>some (x+y)
 |.sub,x,y=>some (x - y)
 |.mul,x,y=>some (x*y)
 |.and,x,y=>some (x&&&y)
 |.or,x,y=>some (x|||y)
 |.xor,x,y=>some (x^^^y)
 |.andNot,x,y=>some (x&&& ~~~y)
 |_,_,_=>none
theorem ZIW {op:BinOp} {x y z:UInt8} (h:op8 op x y=some z) (rest:List Hint):Yw op .u8 (x.toNat:Int) (y.toNat:Int) (.raw::rest)=some ([],.p (.int .u8 (z.toNat:Int)),rest):=by
 cases op <;> simp only [op8,yf,reduceCtorEq] at h <;> subst h
 ·simp only [Yw,ZbF,Zki,UInt8.toNat_add];simp
 ·have e:((x.toNat:Int) - (y.toNat:Int)) % 256=((x - y).toNat:Int):=by
   rw [UInt8.toNat_sub]
   have:=x.toNat_lt;have:=y.toNat_lt
   omega
  simp only [Yw,ZbF,Zki,e]
 ·simp only [Yw,ZbF,Zki,UInt8.toNat_mul];simp
 all_goals simp only [Yw,ZIu]
def dv8:BinOp→UInt8→UInt8→Option UInt8
 |.quo,x,y=>some (x / y)
 |.rem,x,y=>some (x % y)
 |_,_,_=>none
theorem ZIX {op:BinOp} {x y z:UInt8} (h:dv8 op x y=some z) (rest:List Hint):Yw op .u8 (x.toNat:Int) (y.toNat:Int) (.raw::rest)=some ([(y.toNat:Int)≠0],.p (.int .u8 (z.toNat:Int)),rest):=by
 cases op <;> simp only [dv8,yf,reduceCtorEq] at h <;> subst h
 ·simp only [Yw,UInt8.toNat_div]
  rw [show (x.toNat:Int).tdiv (y.toNat:Int)=((x.toNat / y.toNat:Nat):Int) from rfl,ZIt (ycm (Nat.div_le_self ..) (UInt8.toNat_lt _))]
 ·simp only [Yw,UInt8.toNat_mod]
  rfl
def ZIY:BinOp→UInt8→UInt8→Option Bool
 |.eql,x,y=>some (x==y)
 |.neq,x,y=>some (x !=y)
 |.lss,x,y=>some (decide (x < y))
 |.leq,x,y=>some (decide (x≤y))
 |.gtr,x,y=>some (decide (x > y))
 |.geq,x,y=>some (decide (x ≥ y))
 |_,_,_=>none
theorem ZHp {op:BinOp} {x y:UInt8} {b:Bool} (h:ZIY op x y=some b) (rest:List Hint):Yw op .u8 (x.toNat:Int) (y.toNat:Int) rest=some ([],.p (.bool b),rest):=by
 have eq:((x.toNat:Int)==(y.toNat:Int))=(x==y):=by
  rw [ycd];simp only [beq_iff_eq, ←UInt8.toNat_inj];omega
 have lt:∀a b:UInt8,decide ((a.toNat:Int) < (b.toNat:Int))=decide (a < b):=fun a b=>by
  rw [ycd];simp [UInt8.lt_iff_toNat_lt]
 have le:∀a b:UInt8,decide ((a.toNat:Int)≤(b.toNat:Int))=decide (a≤b):=fun a b=>by
  rw [ycd];simp [UInt8.le_iff_toNat_le]
 cases op <;> simp only [ZIY,yf,reduceCtorEq] at h <;> subst h <;> simp only [Yw,GT.gt,GE.ge,lt,le,eq,bne]
theorem ZHq (x:UInt8) (y:Int) (rest:List Hint):X4 .shl .u8 (x.toNat:Int) y (.raw::rest)=some ([0≤y],.p (.int .u8 ((ZIU x (min y.toNat 8)).toNat:Int)),rest):=by
 simp only [X4,Zki,ZIU,UInt8.toNat_ofNat']
 simp [show IntKind.u8.bits=8 from rfl]
theorem ZHr (x:UInt8) (y:Int) (rest:List Hint):X4 .shr .u8 (x.toNat:Int) y (.raw::rest)=some ([0≤y],.p (.int .u8 ((ZIV x (min y.toNat 8)).toNat:Int)),rest):=by
 simp only [X4,ZIV,UInt8.toNat_ofNat']
 congr 4
 rw [show IntKind.u8.bits=8 from rfl]
 have h:x.toNat / 2 ^ min y.toNat 8 < 256:=ycm (Nat.div_le_self ..) (UInt8.toNat_lt _)
 rw [yai h]
 rw [show ((2:Int) ^ min y.toNat 8)=((2 ^ min y.toNat 8:Nat):Int) by simp,Int.fdiv_eq_ediv_of_nonneg _ (Int.natCast_nonneg _)]
 rfl
def QK (x:UInt32) (n:Nat):UInt32:=ybh (x.toNat*2 ^ n)
def ZcD (x:UInt32) (n:Nat):UInt32:=ybh (x.toNat / 2 ^ n)
theorem ZET {n:Nat} (h:n < 4294967296):IntKind.u32.wrap (n:Int)=(n:Int):=by
 simp only [IntKind.wrap,IntKind.signed,IntKind.bits];simp;omega
theorem ZgH (z:Int):IntKind.u32.wrap z=z % 4294967296:=by
 simp only [IntKind.wrap,IntKind.signed,IntKind.bits];simp
theorem ZEU (op:BinOp) (x y:UInt32):bits op .u32 (x.toNat:Int) (y.toNat:Int)=((match op with|.and=>x&&&y|.or=>x|||y|.xor=>x^^^y|_=>x&&& ~~~y).toNat:Int):=by
 have e:∀z:UInt32,BitVec.ofInt (IntKind.u32.bits) (z.toNat:Int)=z.toBitVec:=fun z=>by
  show BitVec.ofInt 32 (z.toNat:Int)=z.toBitVec
  apply BitVec.eq_of_toNat_eq
  rw [BitVec.ofInt_natCast,BitVec.toNat_ofNat]
  exact yai (UInt32.toNat_lt z)
 unfold bits
 rw [e,e]
 cases op <;> exact ZET (UInt32.toNat_lt _)
def ZIZ:BinOp→UInt32→UInt32→Option UInt32
 |.add,x,y=>some (x+y)
 |.sub,x,y=>some (x - y)
 |.mul,x,y=>some (x*y)
 |.and,x,y=>some (x&&&y)
 |.or,x,y=>some (x|||y)
 |.xor,x,y=>some (x^^^y)
 |.andNot,x,y=>some (x&&& ~~~y)
 |_,_,_=>none
theorem ZHs {op:BinOp} {x y z:UInt32} (h:ZIZ op x y=some z) (rest:List Hint):Yw op .u32 (x.toNat:Int) (y.toNat:Int) (.raw::rest)=some ([],.p (.int .u32 (z.toNat:Int)),rest):=by
 cases op <;> simp only [ZIZ,yf,reduceCtorEq] at h <;> subst h
 ·simp only [Yw,ZbF,ZgH,UInt32.toNat_add];simp
 ·have e:((x.toNat:Int) - (y.toNat:Int)) % 4294967296=((x - y).toNat:Int):=by
   rw [UInt32.toNat_sub]
   have:=x.toNat_lt;have:=y.toNat_lt
   omega
  simp only [Yw,ZbF,ZgH,e]
 ·simp only [Yw,ZbF,ZgH,UInt32.toNat_mul];simp
 all_goals simp only [Yw,ZEU]
def ZI0:BinOp→UInt32→UInt32→Option UInt32
 |.quo,x,y=>some (x / y)
 |.rem,x,y=>some (x % y)
 |_,_,_=>none
theorem ZHt {op:BinOp} {x y z:UInt32} (h:ZI0 op x y=some z) (rest:List Hint):Yw op .u32 (x.toNat:Int) (y.toNat:Int) (.raw::rest)=some ([(y.toNat:Int)≠0],.p (.int .u32 (z.toNat:Int)),rest):=by
 cases op <;> simp only [ZI0,yf,reduceCtorEq] at h <;> subst h
 ·simp only [Yw,UInt32.toNat_div]
  rw [show (x.toNat:Int).tdiv (y.toNat:Int)=((x.toNat / y.toNat:Nat):Int) from rfl,ZET (ycm (Nat.div_le_self ..) (UInt32.toNat_lt _))]
 ·simp only [Yw,UInt32.toNat_mod]
  rfl
def ZEV:BinOp→UInt32→UInt32→Option Bool
 |.eql,x,y=>some (x==y)
 |.neq,x,y=>some (x !=y)
 |.lss,x,y=>some (decide (x < y))
 |.leq,x,y=>some (decide (x≤y))
 |.gtr,x,y=>some (decide (x > y))
 |.geq,x,y=>some (decide (x ≥ y))
 |_,_,_=>none
theorem ZEW {op:BinOp} {x y:UInt32} {b:Bool} (h:ZEV op x y=some b) (rest:List Hint):Yw op .u32 (x.toNat:Int) (y.toNat:Int) rest=some ([],.p (.bool b),rest):=by
 have eq:((x.toNat:Int)==(y.toNat:Int))=(x==y):=by
  rw [ycd];simp only [beq_iff_eq, ←UInt32.toNat_inj];omega
 have lt:∀a b:UInt32,decide ((a.toNat:Int) < (b.toNat:Int))=decide (a < b):=fun a b=>by
  rw [ycd];simp [UInt32.lt_iff_toNat_lt]
 have le:∀a b:UInt32,decide ((a.toNat:Int)≤(b.toNat:Int))=decide (a≤b):=fun a b=>by
  rw [ycd];simp [UInt32.le_iff_toNat_le]
 cases op <;> simp only [ZEV,yf,reduceCtorEq] at h <;> subst h <;> simp only [Yw,GT.gt,GE.ge,lt,le,eq,bne]
theorem ZEX (x:UInt32) (y:Int) (rest:List Hint):X4 .shl .u32 (x.toNat:Int) y (.raw::rest)=some ([0≤y],.p (.int .u32 ((QK x (min y.toNat 32)).toNat:Int)),rest):=by
 simp only [X4,ZgH,QK,ych]
 simp [show IntKind.u32.bits=32 from rfl]
theorem ZEY (x:UInt32) (y:Int) (rest:List Hint):X4 .shr .u32 (x.toNat:Int) y (.raw::rest)=some ([0≤y],.p (.int .u32 ((ZcD x (min y.toNat 32)).toNat:Int)),rest):=by
 simp only [X4,ZcD,ych]
 congr 4
 rw [show IntKind.u32.bits=32 from rfl]
 have h:x.toNat / 2 ^ min y.toNat 32 < 4294967296:=ycm (Nat.div_le_self ..) (UInt32.toNat_lt _)
 rw [yai h]
 rw [show ((2:Int) ^ min y.toNat 32)=((2 ^ min y.toNat 32:Nat):Int) by simp,Int.fdiv_eq_ediv_of_nonneg _ (Int.natCast_nonneg _)]
 rfl
def Vm (x:UInt64) (n:Nat):UInt64:=yaf (x.toNat*2 ^ n)
def Zx (x:UInt64) (n:Nat):UInt64:=yaf (x.toNat / 2 ^ n)
theorem ZBX {n:Nat} (h:n < 18446744073709551616):IntKind.u64.wrap (n:Int)=(n:Int):=by
 simp only [IntKind.wrap,IntKind.signed,IntKind.bits];simp;omega
theorem ZeR (z:Int):IntKind.u64.wrap z=z % 18446744073709551616:=by
 simp only [IntKind.wrap,IntKind.signed,IntKind.bits];simp
theorem ZEZ (op:BinOp) (x y:UInt64):bits op .u64 (x.toNat:Int) (y.toNat:Int)=((match op with|.and=>x&&&y|.or=>x|||y|.xor=>x^^^y|_=>x&&& ~~~y).toNat:Int):=by
 have e:∀z:UInt64,BitVec.ofInt (IntKind.u64.bits) (z.toNat:Int)=z.toBitVec:=fun z=>by
  show BitVec.ofInt 64 (z.toNat:Int)=z.toBitVec
  apply BitVec.eq_of_toNat_eq
  rw [BitVec.ofInt_natCast,BitVec.toNat_ofNat]
  exact yai (ybg z)
 unfold bits
 rw [e,e]
 cases op <;> exact ZBX (ybg _)
def ZI1:BinOp→UInt64→UInt64→Option UInt64
 |.add,x,y=>some (x+y)
 |.sub,x,y=>some (x - y)
 |.mul,x,y=>some (x*y)
 |.and,x,y=>some (x&&&y)
 |.or,x,y=>some (x|||y)
 |.xor,x,y=>some (x^^^y)
 |.andNot,x,y=>some (x&&& ~~~y)
 |_,_,_=>none
theorem ZHu {op:BinOp} {x y z:UInt64} (h:ZI1 op x y=some z) (rest:List Hint):Yw op .u64 (x.toNat:Int) (y.toNat:Int) (.raw::rest)=some ([],.p (.int .u64 (z.toNat:Int)),rest):=by
 cases op <;> simp only [ZI1,yf,reduceCtorEq] at h <;> subst h
 ·simp only [Yw,ZbF,ZeR,UInt64.toNat_add];simp
 ·have e:((x.toNat:Int) - (y.toNat:Int)) % 18446744073709551616=((x - y).toNat:Int):=by
   rw [UInt64.toNat_sub]
   have:=x.toNat_lt;have:=y.toNat_lt
   omega
  simp only [Yw,ZbF,ZeR,e]
 ·simp only [Yw,ZbF,ZeR,UInt64.toNat_mul];simp
 all_goals simp only [Yw,ZEZ]
def ZI2:BinOp→UInt64→UInt64→Option UInt64
 |.quo,x,y=>some (x / y)
 |.rem,x,y=>some (x % y)
 |_,_,_=>none
theorem ZHv {op:BinOp} {x y z:UInt64} (h:ZI2 op x y=some z) (rest:List Hint):Yw op .u64 (x.toNat:Int) (y.toNat:Int) (.raw::rest)=some ([(y.toNat:Int)≠0],.p (.int .u64 (z.toNat:Int)),rest):=by
 cases op <;> simp only [ZI2,yf,reduceCtorEq] at h <;> subst h
 ·simp only [Yw,UInt64.toNat_div]
  rw [show (x.toNat:Int).tdiv (y.toNat:Int)=((x.toNat / y.toNat:Nat):Int) from rfl,ZBX (ycm (Nat.div_le_self ..) (ybg _))]
 ·simp only [Yw,UInt64.toNat_mod]
  rfl
def ZE0:BinOp→UInt64→UInt64→Option Bool
 |.eql,x,y=>some (x==y)
 |.neq,x,y=>some (x !=y)
 |.lss,x,y=>some (decide (x < y))
 |.leq,x,y=>some (decide (x≤y))
 |.gtr,x,y=>some (decide (x > y))
 |.geq,x,y=>some (decide (x ≥ y))
 |_,_,_=>none
theorem ZE1 {op:BinOp} {x y:UInt64} {b:Bool} (h:ZE0 op x y=some b) (rest:List Hint):Yw op .u64 (x.toNat:Int) (y.toNat:Int) rest=some ([],.p (.bool b),rest):=by
 have eq:((x.toNat:Int)==(y.toNat:Int))=(x==y):=by
  rw [ycd];simp only [beq_iff_eq, ←UInt64.toNat_inj];omega
 have lt:∀a b:UInt64,decide ((a.toNat:Int) < (b.toNat:Int))=decide (a < b):=fun a b=>by
  rw [ycd];simp [UInt64.lt_iff_toNat_lt]
 have le:∀a b:UInt64,decide ((a.toNat:Int)≤(b.toNat:Int))=decide (a≤b):=fun a b=>by
  rw [ycd];simp [UInt64.le_iff_toNat_le]
 cases op <;> simp only [ZE0,yf,reduceCtorEq] at h <;> subst h <;> simp only [Yw,GT.gt,GE.ge,lt,le,eq,bne]
theorem ZE2 (x:UInt64) (y:Int) (rest:List Hint):X4 .shl .u64 (x.toNat:Int) y (.raw::rest)=some ([0≤y],.p (.int .u64 ((Vm x (min y.toNat 64)).toNat:Int)),rest):=by
 simp only [X4,ZeR,Vm,ybc]
 simp [show IntKind.u64.bits=64 from rfl]
theorem ZE3 (x:UInt64) (y:Int) (rest:List Hint):X4 .shr .u64 (x.toNat:Int) y (.raw::rest)=some ([0≤y],.p (.int .u64 ((Zx x (min y.toNat 64)).toNat:Int)),rest):=by
 simp only [X4,Zx,ybc]
 congr 4
 rw [show IntKind.u64.bits=64 from rfl]
 have h:x.toNat / 2 ^ min y.toNat 64 < 18446744073709551616:=ycm (Nat.div_le_self ..) (ybg _)
 rw [yai h]
 rw [show ((2:Int) ^ min y.toNat 64)=((2 ^ min y.toNat 64:Nat):Int) by simp,Int.fdiv_eq_ediv_of_nonneg _ (Int.natCast_nonneg _)]
 rfl
end Go.Ev
end
section
namespace Go.Ev
inductive Num where
 |u8 (x:UInt8)|u32 (x:UInt32)|u64 (x:UInt64)
 |i (k:IntKind) (x:Int)
def TP.num:TP→Option Num
 |.v (.int k) n=>if ZIS k then some (.i k n) else none
 |.v .u8 b=>some (.u8 b)
 |.v .u32 b=>some (.u32 b)
 |.v .u64 b=>some (.u64 b)
 |_=>none
def Num.k:Num→IntKind
 |.u8 _=>.u8|.u32 _=>.u32|.u64 _=>.u64|.i k _=>k
def Num.n:Num→Int
 |.u8 x=>(x.toNat:Int)|.u32 x=>(x.toNat:Int)|.u64 x=>(x.toNat:Int)|.i _ x=>x
theorem ZI3 {x:TP} {a:Num} (h:x.num=some a):x.pe=.int a.k a.n:=by
 unfold TP.num at h
 split at h
 ·split at h
  ·cases h;rfl
  ·cases h
 ·cases h;rfl
 ·cases h;rfl
 ·cases h;rfl
 ·cases h
def TD.num:TD→Option Num
 |.p x=>x.num
 |_=>none
theorem Zc1 {L:Lk} {x:TD} {a:Num} (h:x.num=some a):x.er L=.p (.int a.k a.n):=by
 unfold TD.num at h
 split at h
 ·rw [TD.er,ZI3 h]
 ·cases h
section
variable {L:Lk} {P:Program} {o:Oper} {ts:List TD} {O:Type}
def ZI4:BinOp→Int→Int→Option Bool
 |.eql,x,y=>some (x==y)
 |.neq,x,y=>some (x !=y)
 |.lss,x,y=>some (decide (x < y))
 |.leq,x,y=>some (decide (x≤y))
 |.gtr,x,y=>some (decide (x > y))
 |.geq,x,y=>some (decide (x ≥ y))
 |_,_,_=>none
theorem ZHw {op:BinOp} {k:IntKind} {x y:Int} {b:Bool} (h:ZI4 op x y=some b) (rest:List Hint):Yw op k x y rest=some ([],.p (.bool b),rest):=by
 cases op <;> simp only [ZI4,yf,reduceCtorEq] at h <;> subst h <;> rfl
def opI (k:IntKind):BinOp→Int→Int→Option Int
 |.add,x,y=>some (k.wrap (x+y))
 |.sub,x,y=>some (k.wrap (x - y))
 |.mul,x,y=>some (k.wrap (x*y))
 |.and,x,y=>some (bits .and k x y)
 |.or,x,y=>some (bits .or k x y)
 |.xor,x,y=>some (bits .xor k x y)
 |.andNot,x,y=>some (bits .andNot k x y)
 |_,_,_=>none
theorem ZI5 {op:BinOp} {k:IntKind} {x y z:Int} (h:opI k op x y=some z) (rest:List Hint):Yw op k x y (.raw::rest)=some ([],.p (.int k z),rest):=by
 cases op <;> simp only [opI,yf,reduceCtorEq] at h <;> subst h <;> rfl
def dvI (k:IntKind):BinOp→Int→Int→Option Int
 |.quo,x,y=>some (k.wrap (x.tdiv y))
 |.rem,x,y=>some (x.tmod y)
 |_,_,_=>none
theorem ZI6 {op:BinOp} {k:IntKind} {x y z:Int} (h:dvI k op x y=some z) (rest:List Hint):Yw op k x y (.raw::rest)=some ([y≠0],.p (.int k z),rest):=by
 cases op <;> simp only [dvI,yf,reduceCtorEq] at h <;> subst h <;> rfl
def orN (b:Option Bool) (o:Option TP) (d:Option TP) (nz:Bool) (K:TD→List Hint→Option O):Option O:=
 match b,o,d with
 |some b,_,_=>K (.p (.v .bool b)) []
 |none,some z,_=>K (.p z) [.raw]
 |none,none,some z=>if nz=true then K (.p z) [.raw] else none
 |none,none,none=>none
def ZAq (op:BinOp) (x y:Num) (K:TD→List Hint→Option O):Option O:=
 match x,y with
 |.u8 a,.u8 b=>orN (ZIY op a b) ((op8 op a b).map (.v .u8)) ((dv8 op a b).map (.v .u8)) (b !=0) K
 |.u32 a,.u32 b=>orN (ZEV op a b) ((ZIZ op a b).map (.v .u32)) ((ZI0 op a b).map (.v .u32)) (b !=0) K
 |.u64 a,.u64 b=>orN (ZE0 op a b) ((ZI1 op a b).map (.v .u64)) ((ZI2 op a b).map (.v .u64)) (b !=0) K
 |.i k a,.i l b=>if k=l∧ZIS k=true then orN (ZI4 op a b) ((opI k op a b).map (.v (.int k))) ((dvI k op a b).map (.v (.int k))) (b !=0) K else none
 |_,_=>none
theorem ZmM {k:IntKind} {op:BinOp} {x y:Int} {b:Option Bool} {o d:Option TP} {nz:Bool} {K:TD→List Hint→Option O} {out:O} (h:orN b o d nz K=some out)
 (hb:∀c,b=some c→∀rest,Yw op k x y rest=some ([],.p (.bool c),rest))
 (ho:∀z,o=some z→∀rest,Yw op k x y (.raw::rest)=some ([],.p z.pe,rest))
 (hd:∀z,d=some z→∀rest,Yw op k x y (.raw::rest)=some ([y≠0],.p z.pe,rest)) (hz:nz=true→y≠0):
 ∃d hs C,K d hs=some out∧AllP C∧∀rest,Yw op k x y (hs++rest)=some (C,d.er L,rest):=by
 unfold orN at h
 split at h
 ·exact ⟨_,_,[],h,trivial,hb _ rfl⟩
 ·exact ⟨_,_,[],h,trivial,ho _ rfl⟩
 ·obtain ⟨h1,h2⟩:=Za h
  exact ⟨_,_,[y≠0],h2,⟨hz h1,trivial⟩,hd _ rfl⟩
 ·cases h
theorem ZyB {op:BinOp} {x y:Num} {K:TD→List Hint→Option O} {out:O} (h:ZAq op x y K=some out):
 x.k=y.k∧∃d hs C,K d hs=some out∧AllP C∧∀rest,Yw op x.k x.n y.n (hs++rest)=some (C,d.er L,rest):=by
 unfold ZAq at h
 split at h
 ·rename_i a b
  refine ⟨rfl,ZmM h (fun c hc=>ZHp hc) (fun z hz=> ?_) (fun z hz=> ?_) (fun hz=> ?_)⟩
  ·obtain ⟨q,h1,rfl⟩:=Zb hz;exact ZIW h1
  ·obtain ⟨q,h1,rfl⟩:=Zb hz;exact ZIX h1
  ·simp only [bne_iff_ne,ne_eq] at hz
   intro e
   exact hz (UInt8.toNat_inj.1 (by simp only [Num.n] at e;show b.toNat=0;omega))
 ·rename_i a b
  refine ⟨rfl,ZmM h (fun c hc=>ZEW hc) (fun z hz=> ?_) (fun z hz=> ?_) (fun hz=> ?_)⟩
  ·obtain ⟨q,h1,rfl⟩:=Zb hz;exact ZHs h1
  ·obtain ⟨q,h1,rfl⟩:=Zb hz;exact ZHt h1
  ·simp only [bne_iff_ne,ne_eq] at hz
   intro e
   exact hz (UInt32.toNat_inj.1 (by simp only [Num.n] at e;show b.toNat=0;omega))
 ·rename_i a b
  refine ⟨rfl,ZmM h (fun c hc=>ZE1 hc) (fun z hz=> ?_) (fun z hz=> ?_) (fun hz=> ?_)⟩
  ·obtain ⟨q,h1,rfl⟩:=Zb hz;exact ZHu h1
  ·obtain ⟨q,h1,rfl⟩:=Zb hz;exact ZHv h1
  ·simp only [bne_iff_ne,ne_eq] at hz
   intro e
   exact hz (UInt64.toNat_inj.1 (by simp only [Num.n] at e;show b.toNat=0;omega))
 ·rename_i k a l b
  split at h
  ·rename_i e
   obtain ⟨rfl,e⟩:=e
   refine ⟨rfl,ZmM h (fun c hc=>ZHw hc) (fun z hz=> ?_) (fun z hz=> ?_) (fun hz=> ?_)⟩
   ·obtain ⟨q,h1,rfl⟩:=Zb hz;exact ZI5 h1
   ·obtain ⟨q,h1,rfl⟩:=Zb hz;exact ZI6 h1
   ·simpa [Num.n] using hz
  ·cases h
 ·cases h
def ZAr:Num→Bool
 |.i _ n=>decide (0≤n)
 |_=>true
theorem ZAs {x:Num} (h:ZAr x=true):0≤x.n:=by
 cases x <;> simp only [ZAr,Num.n,decide_eq_true_eq] at h ⊢ <;> omega
def shN (op:BinOp) (x y:Num):Option TP:=
 match op,x with
 |.shl,.u8 a=>some (.v .u8 (ZIU a (min y.n.toNat 8)))
 |.shl,.u32 a=>some (.v .u32 (QK a (min y.n.toNat 32)))
 |.shl,.u64 a=>some (.v .u64 (Vm a (min y.n.toNat 64)))
 |.shl,.i k a=>some (.v (.int k) (k.wrap (a*2 ^ min y.n.toNat k.bits)))
 |.shr,.u8 a=>some (.v .u8 (ZIV a (min y.n.toNat 8)))
 |.shr,.u32 a=>some (.v .u32 (ZcD a (min y.n.toNat 32)))
 |.shr,.u64 a=>some (.v .u64 (Zx a (min y.n.toNat 64)))
 |.shr,.i k a=>some (.v (.int k) (a.fdiv (2 ^ min y.n.toNat k.bits)))
 |_,_=>none
theorem ZI7 {op:BinOp} {x y:Num} {z:TP} (h:shN op x y=some z) (rest:List Hint):X4 op x.k x.n y.n (.raw::rest)=some ([0≤y.n],.p z.pe,rest):=by
 unfold shN at h
 split at h <;> first
  |(cases h;first|exact ZHq .. |exact ZEX .. |exact ZE2 .. |exact ZHr .. |exact ZEY .. |exact ZE3 .. |rfl)
  |cases h
mutual
def Ty.flat:Ty→Bool
 |.sl _=>false
 |.str=>false
 |.arr _ t=>Ty.flat t
 |.st fs=>Ty.flats fs
 |_=>true
def Ty.flats:List Ty→Bool
 |[]=>true
 |t::r=>Ty.flat t&&Ty.flats r
end
mutual
theorem ZmN:∀(t:Ty) (x y:t.den),t.flat=true→t.enc x=t.enc y→x=y
 |.int k,x,y,_,h=>by injection h
 |.u8,x,y,_,h=>by injection h with _ h;exact UInt8.toNat_inj.1 (by omega)
 |.u32,x,y,_,h=>by injection h with _ h;exact UInt32.toNat_inj.1 (by omega)
 |.u64,x,y,_,h=>by injection h with _ h;exact UInt64.toNat_inj.1 (by omega)
 |.bool,x,y,_,h=>by injection h
 |.str,_,_,hf,_=>nomatch hf
 |.sl _,_,_,hf,_=>nomatch hf
 |.arr n t,x,y,hf,h=>by
  injection h with _ _ h
  exact ZBN (fun a b e=>ZmN t a b hf e) h
 |.st fs,x,y,hf,h=>by
  injection h with h
  exact encs_inj fs x y hf h
theorem encs_inj:∀(fs:List Ty) (x y:Ty.dens fs),Ty.flats fs=true→Ty.encs fs x=Ty.encs fs y→x=y
 |[],_,_,_,_=>rfl
 |[t],x,y,hf,h=>by
  simp only [Ty.encs,List.cons.injEq,and_true] at h
  simp only [Ty.flats,Bool.and_true] at hf
  exact ZmN t x y hf h
 |t::u::r,x,y,hf,h=>by
  have h':t.enc x.1::Ty.encs (u::r) x.2=t.enc y.1::Ty.encs (u::r) y.2:=h
  have hf':(t.flat&&Ty.flats (u::r))=true:=hf
  rw [yg] at hf'
  injection h' with h1 h2
  exact Prod.ext (ZmN t x.1 y.1 hf'.1 h1) (encs_inj (u::r) x.2 y.2 hf'.2 h2)
end
mutual
def Ty.deq:(t:Ty)→DecidableEq t.den
 |.int _=>inferInstanceAs (DecidableEq Int)
 |.u8=>inferInstanceAs (DecidableEq UInt8)
 |.u32=>inferInstanceAs (DecidableEq UInt32)
 |.u64=>inferInstanceAs (DecidableEq UInt64)
 |.bool=>inferInstanceAs (DecidableEq Bool)
 |.str=>inferInstanceAs (DecidableEq ByteArray)
 |.sl t=>@instDecidableEqList t.den (Ty.deq t)
 |.arr _ t=>@instDecidableEqList t.den (Ty.deq t)
 |.st fs=>Ty.deqs fs
def Ty.deqs:(fs:List Ty)→DecidableEq (Ty.dens fs)
 |[]=>inferInstanceAs (DecidableEq Unit)
 |[t]=>Ty.deq t
 |t::u::r=>@instDecidableEqProd t.den (Ty.dens (u::r)) (Ty.deq t) (Ty.deqs (u::r))
end
mutual
def ZyC (P:Program):Nat→TypeId→Ty→Bool
 |0,_,_=>false
 |n+1,t,T=>match P.underlying t,T with
  |some .bool,.bool=>true
  |some (.int .u8),.u8=>true
  |some (.int .u32),.u32=>true
  |some (.int .u64),.u64=>true
  |some (.int k),.int l=>decide (k=l)
  |some (.array m e),.arr m' U=>decide (m'=m)&&(decide (P.cellsOf e=U.size)&&(decide (U.size≠0)&&((P.info? e).isSome&&((P.underlying e).isSome&&(decide (XG P e=U.isAgg)&&ZyC P n e U)))))
  |some (.struct fs),.st Ts=>decide (P.stoodInHeld t=false)&&fitTs P n fs.toList 0 Ts
  |_,_=>false
def fitTs (P:Program):Nat→List Field→Nat→List Ty→Bool
 |0,_,_,_=>false
 |_+1,[],_,[]=>true
 |n+1,f::fs,o,T::Ts=>decide (f.name≠ "_")&&(decide (f.offset=o)&&(decide (P.cellsOf f.type=T.size)&&((P.info? f.type).isSome&&((P.underlying f.type).isSome&&(decide (XG P f.type=T.isAgg)&&(decide (T.size≠0)&&(ZyC P n f.type T&&fitTs P n fs (o+T.size) Ts)))))))
 |_+1,_,_,_=>false
end
mutual
theorem ZmO:∀(n:Nat) (t:TypeId) (T:Ty),ZyC P n t T=true→∀(x:T.den),fitP P n t (T.enc x)
 |0,_,_,h,_=>by simp [ZyC] at h
 |n+1,t,T,h,x=>by
  simp only [ZyC] at h
  unfold fitP
  split at h
  ·rename_i hu;rw [hu];trivial
  ·rename_i hu;rw [hu];exact rfl
  ·rename_i hu;rw [hu];exact rfl
  ·rename_i hu;rw [hu];exact rfl
  ·rename_i hu;rw [hu];simp only [decide_eq_true_eq] at h;exact h.symm
  ·rename_i m e m' U hu
   simp only [yg,decide_eq_true_eq] at h
   obtain ⟨h1,h2,h3,h4,h5,h6,h7⟩:=h
   rw [hu]
   refine ⟨h1,h2,h3,h4,h5,fun y hy=> ?_⟩
   obtain ⟨z,_,rfl⟩:=List.mem_map.1 hy
   exact ⟨ZmO n e U h7 z,ZfQ U z,by rw [Zkh];exact h6⟩
  ·rename_i fs Ts hu
   simp only [yg,decide_eq_true_eq] at h
   rw [hu]
   exact ⟨h.1,ZmG (fun t x k=>k) _ _ _ (fitTs_ok n fs.toList 0 Ts h.2 x)⟩
  ·cases h
theorem fitTs_ok:∀(n:Nat) (fs:List Field) (o:Nat) (Ts:List Ty),fitTs P n fs o Ts=true→∀(x:Ty.dens Ts),ZfI P (fitP P n) fs o (Ty.encs Ts x)
 |0,_,_,_,h,_=>by simp [fitTs] at h
 |n+1,[],_,[],_,_=>trivial
 |n+1,[],_,_::_,h,_=>by simp [fitTs] at h
 |n+1,_::_,_,[],h,_=>by simp [fitTs] at h
 |n+1,f::fs,o,T::Ts,h,x=>by
  simp only [fitTs,yg,decide_eq_true_eq] at h
  obtain ⟨h1,h2,h3,h4,h5,h6,h7,h8,h9⟩:=h
  have key:∃(a:T.den) (b:Ty.dens Ts),Ty.encs (T::Ts) x=T.enc a::Ty.encs Ts b:=by
   cases Ts with
   |nil=>exact ⟨x,(),rfl⟩
   |cons U r=>exact ⟨x.1,x.2,rfl⟩
  obtain ⟨a,b,e⟩:=key
  rw [e]
  refine ⟨h1,h2,by rw [ZfQ];exact h3,h4,h5,by rw [Zkh];exact h6,by rw [ZfQ];exact h7,ZqQ (ZmO n f.type T h8 a), ?_⟩
  rw [ZfQ]
  exact ZmG (fun t x k=>ZqQ k) _ _ _ (fitTs_ok n fs _ Ts h9 b)
end
end
end Go.Ev
end
section
namespace Go.Ev
section
variable {L:Lk} {P:Program} {o:Oper} {ts:List TD} {O:Type}
def Zwb (r:Zz5):Option Bool:=
 match r with
 |some ([],.p (.bool b),[])=>some b
 |_=>none
theorem Zu5 {t:TypeId} {x y:Dv} {b:Bool} (h:Zhx P t x y []=some ([],b,[])) (rest:List Hint):Zhx P t x y rest=some ([],b,rest):=by
 unfold Zhx at h ⊢
 split at h <;> first
  |(simp only [yf,yh,and_true,true_and] at h;subst h;rfl)
  |cases h
  |(split at h <;> first|(rename_i e;cases e)|cases h)
theorem ZDv {op:BinOp} {t:TypeId} {x y:Dv} {b:Bool} (h:Zwb (ZcC P op t x y [])=some b) (rest:List Hint):ZcC P op t x y rest=some ([],.p (.bool b),rest):=by
 have h':ZcC P op t x y []=some ([],.p (.bool b),[]):=by
  unfold Zwb at h
  split at h
  ·rename_i e;cases h;exact e
  ·cases h
 clear h
 unfold ZcC at h' ⊢
 split at h'
 ·split at h'
  ·cases op <;> simp [X4] at h'
  ·split at h'
   ·rename_i k a k' b' _ hk
    simp only [hk,if_true]
    rename_i hs
    simp only [hs,if_false]
    cases op <;> simp only [Yw,ZbF,yf,yh,Dv.p.injEq,Pl.bool.injEq,and_true,true_and,reduceCtorEq] at h' ⊢ <;> first|exact h'|skip
    all_goals first|(cases h';done)|(cases h';simp;done)|(simp [ZqJ] at h';done)
   ·cases h'
 ·cases op <;> simp only [yf,yh,Dv.p.injEq,Pl.bool.injEq,and_true,true_and,reduceCtorEq] at h' ⊢ <;> exact h'
 ·rename_i hx hy
  cases op <;> first|cases h'|skip
  ·obtain ⟨q,h1,h2⟩:=Zb h'
   simp only [yh,Dv.p.injEq,Pl.bool.injEq] at h2
   obtain ⟨q1,q2,q3⟩:=q
   obtain ⟨rfl,rfl,rfl⟩:=h2
   simp only [Zu5 h1 rest,yy]
  ·obtain ⟨q,h1,h2⟩:=Zb h'
   simp only [yh,Dv.p.injEq,Pl.bool.injEq] at h2
   obtain ⟨q1,q2,q3⟩:=q
   obtain ⟨rfl,rfl,rfl⟩:=h2
   simp only [Zu5 h1 rest,yy]
def TD.val:TD→Option (Σ t:Ty,t.den)
 |.p (.v t x)=>some ⟨t,x⟩
 |_=>none
theorem Zwc {x:TD} {q:Σ t:Ty,t.den} (h:x.val=some q):x.er L=.p (q.1.enc q.2):=by
 unfold TD.val at h
 split at h
 ·cases h;rfl
 ·cases h
def ZI8 (P:Program) (t:TypeId):Bool:=
 match P.underlying t with
 |some (.array _ _)=>true
 |some (.struct _)=>true
 |_=>false
def eqN (P:Program) (op:BinOp) (t:TypeId) (x y:TD) (K:TD→List Hint→Option O):Option O:=
 match x.val,y.val with
 |some a,some b=>(Ty.cast b.1 a.1 b.2).bind fun z=>
  if ZI8 P t&&(a.1.isAgg&&(a.1.flat&&(ZyC P 20 t a.1&&decide (P.eqGuardType P.depth t=false)))) then
   match op with
   |.eql=>K (.p (.v .bool (@decide (a.2=z) (Ty.deq a.1 a.2 z)))) [.b (@decide (a.2=z) (Ty.deq a.1 a.2 z))]
   |.neq=>K (.p (.v .bool (!(@decide (a.2=z) (Ty.deq a.1 a.2 z))))) [.b (@decide (a.2=z) (Ty.deq a.1 a.2 z))]
   |_=>none
  else none
 |_,_=>none
theorem ZmP {t:TypeId} {a:Σ t:Ty,t.den} {z:a.1.den} (h1:ZI8 P t=true) (h2:a.1.isAgg=true) (h3:a.1.flat=true) (h4:ZyC P 20 t a.1=true) (h5:P.eqGuardType P.depth t=false) (rest:List Hint):
 ∃C,AllP C∧Zhx P t (.p (a.1.enc a.2)) (.p (a.1.enc z)) (.b (@decide (a.2=z) (Ty.deq a.1 a.2 z))::rest)=some (C,@decide (a.2=z) (Ty.deq a.1 a.2 z),rest)∧C=[fitP P 20 t (a.1.enc a.2),fitP P 20 t (a.1.enc z),(@decide (a.2=z) (Ty.deq a.1 a.2 z)=true↔a.1.enc a.2=a.1.enc z)]:=by
 have f1:=ZmO 20 t a.1 h4 a.2
 have f2:=ZmO 20 t a.1 h4 z
 have f3:(@decide (a.2=z) (Ty.deq a.1 a.2 z)=true↔a.1.enc a.2=a.1.enc z):=by
  rw [@decide_eq_true_iff _ (Ty.deq a.1 a.2 z)]
  exact ⟨fun e=>by rw [e],fun e=>ZmN a.1 _ _ h3 e⟩
 refine ⟨[fitP P 20 t (a.1.enc a.2),fitP P 20 t (a.1.enc z),(@decide (a.2=z) (Ty.deq a.1 a.2 z)=true↔a.1.enc a.2=a.1.enc z)],⟨f1,f2,f3,trivial⟩, ?_,rfl⟩
 generalize @decide (a.2=z) (Ty.deq a.1 a.2 z)=β at f3
 generalize a.1.enc a.2=p at f1 f3 ⊢
 generalize a.1.enc z=q at f2 f3 ⊢
 clear f3
 unfold ZI8 at h1
 unfold fitP at f1 f2
 unfold Zhx
 split at h1
 ·rename_i m e hu
  rw [hu] at f1 f2 ⊢
  cases p <;> first|exact f1.elim|skip
  cases q <;> first|exact f2.elim|skip
  dsimp only
  rw [if_pos h5]
 ·rename_i m hu
  rw [hu] at f1 f2 ⊢
  cases p <;> first|exact f1.elim|skip
  cases q <;> first|exact f2.elim|skip
  dsimp only
  rw [if_pos h5]
 ·cases h1
theorem Zu6 {t:TypeId} {x y:Pl} (hx:x.isAgg=true) (op:BinOp) (hs:List Hint) (h:op=.eql∨op=.neq):ZcC P op t (.p x) (.p y) hs=(Zhx P t (.p x) (.p y) hs).map fun r=>(r.1,.p (.bool (if op=.eql then r.2.1 else !r.2.1)),r.2.2):=by
 cases x <;> first|cases hx|skip
 all_goals (unfold ZcC;rcases h with rfl|rfl <;> rfl)
theorem ZE4 {op:BinOp} {t:TypeId} {x y:TD} {K:TD→List Hint→Option O} {out:O} (h:eqN P op t x y K=some out):∃d hs C,K d hs=some out∧AllP C∧∀rest,ZcC P op t (x.er L) (y.er L) (hs++rest)=some (C,d.er L,rest):=by
 unfold eqN at h
 split at h
 ·rename_i a b ha hb
  obtain ⟨z,h1,h⟩:=yc.1 h
  obtain ⟨h2,h⟩:=Za h
  simp only [yg,decide_eq_true_eq] at h2
  obtain ⟨g1,g2,g3,g4,g5⟩:=h2
  have ey:y.er L=.p (a.1.enc z):=by
   obtain ⟨e,rfl⟩:=Va h1
   rw [Zwc hb]
   cases a;cases b
   cases e
   rfl
  have ga:(a.1.enc a.2).isAgg=true:=by rw [Zkh];exact g2
  split at h
  ·obtain ⟨C,c1,c2,_⟩:=ZmP (P:=P) (z:=z) g1 g2 g3 g4 g5 []
   refine ⟨_,_,[fitP P 20 t (a.1.enc a.2),fitP P 20 t (a.1.enc z),(@decide (a.2=z) (Ty.deq a.1 a.2 z)=true↔a.1.enc a.2=a.1.enc z)],h, ?_,fun rest=> ?_⟩
   ·obtain ⟨C,c1,_,rfl⟩:=ZmP (P:=P) (z:=z) g1 g2 g3 g4 g5 []
    exact c1
   ·obtain ⟨C,_,c2,rfl⟩:=ZmP (P:=P) (z:=z) g1 g2 g3 g4 g5 rest
    rw [Zwc ha,ey,Zu6 ga _ _ (.inl rfl),yv,yq,c2]
    rfl
  ·refine ⟨_,_,[fitP P 20 t (a.1.enc a.2),fitP P 20 t (a.1.enc z),(@decide (a.2=z) (Ty.deq a.1 a.2 z)=true↔a.1.enc a.2=a.1.enc z)],h, ?_,fun rest=> ?_⟩
   ·obtain ⟨C,c1,_,rfl⟩:=ZmP (P:=P) (z:=z) g1 g2 g3 g4 g5 []
    exact c1
   ·obtain ⟨C,_,c2,rfl⟩:=ZmP (P:=P) (z:=z) g1 g2 g3 g4 g5 rest
    rw [Zwc ha,ey,Zu6 ga _ _ (.inr rfl),yv,yq,c2]
    rfl
  ·cases h
 ·cases h
def ZI9 (L:Lk) (x y:TD):Option Bool:=
 match y with
 |.p (.sl (some false) _ [])=>match x.row L with
  |some ⟨none,_,l⟩=>some l.isEmpty
  |_=>none
 |_=>none
theorem ZHx {x y:TD} {b:Bool} (h:ZI9 L x y=some b):∃s xs s',(x.er L=.p (.sl none s xs)∨∃id,x.er L=.own id none s xs)∧y.er L=.p (.sl (some false) s' [])∧xs.isEmpty=b:=by
 unfold ZI9 at h
 split at h
 ·split at h
  ·rename_i T q t l hr
   cases h
   refine ⟨t.size,l.map t.enc,T.size, ?_,rfl,by cases l <;> rfl⟩
   rcases ZeQ hr with h|⟨id,h⟩
   ·exact .inl h
   ·exact .inr ⟨id,h⟩
  ·cases h
 ·cases h
def ZKd (P:Program) (op:BinOp) (t:TypeId) (b:Bool) (K:TD→List Hint→Option O):Option O:=
 match P.underlying t with
 |some (.slice _)=>if b=true then none else match op with
  |.eql=>K (.p (.v .bool false)) [.bare]
  |.neq=>K (.p (.v .bool true)) [.bare]
  |_=>none
 |_=>none
def ZJa (L:Lk) (P:Program) (op:BinOp) (t:TypeId) (x y:TD) (K:TD→List Hint→Option O):Option O:=
 match x.num,y.num with
 |some a,some b=>if ZvS op then (shN op a b).bind fun z=>if ZAr b=true then K (.p z) [.raw] else none else ZAq op a b K
 |_,_=>match Zwb (ZcC P op t (x.er L) (y.er L) []) with
  |some b=>K (.p (.v .bool b)) []
  |none=>match ZI9 L x y with
   |some b=>ZKd P op t b K
   |none=>eqN P op t x y K
theorem ZDw {op:BinOp} {t:TypeId} {x y:TD} {K:TD→List Hint→Option O} {out:O} (h:ZJa L P op t x y K=some out):∃d hs C,K d hs=some out∧AllP C∧∀rest,ZcC P op t (x.er L) (y.er L) (hs++rest)=some (C,d.er L,rest):=by
 unfold ZJa at h
 split at h
 ·rename_i a b ha hb
  rw [Zc1 ha,Zc1 hb]
  split at h
  ·rename_i hsh
   obtain ⟨z,h1,h⟩:=yc.1 h
   obtain ⟨h2,h⟩:=Za h
   refine ⟨_,_,[0≤b.n],h,⟨ZAs h2,trivial⟩,fun rest=> ?_⟩
   unfold ZcC
   dsimp only
   rw [if_pos hsh]
   exact ZI7 h1 rest
  ·rename_i hsh
   obtain ⟨hk,d,hs,C,h1,h2,h3⟩:=ZyB h
   refine ⟨d,hs,C,h1,h2,fun rest=> ?_⟩
   unfold ZcC
   dsimp only
   rw [if_neg hsh,if_pos hk]
   exact h3 rest
 ·split at h
  ·rename_i b hb
   exact ⟨_,_,[],h,trivial,ZDv hb⟩
  ·split at h
   ·rename_i b hb
    obtain ⟨s,xs,s',h1,h2,h3⟩:=ZHx hb
    unfold ZKd at h
    split at h
    ·rename_i e hu
     split at h
     ·cases h
     ·rename_i hne
      have hxs:xs≠[]:=by rintro rfl;exact hne (by rw [←h3];rfl)
      split at h
      ·refine ⟨_,_,[xs≠[]],h,⟨hxs,trivial⟩,fun rest=> ?_⟩
       unfold ZcC
       rcases h1 with h1|⟨id,h1⟩ <;> (rw [h1,h2];dsimp only;unfold Zhx;rw [hu];rfl)
      ·refine ⟨_,_,[xs≠[]],h,⟨hxs,trivial⟩,fun rest=> ?_⟩
       unfold ZcC
       rcases h1 with h1|⟨id,h1⟩ <;> (rw [h1,h2];dsimp only;unfold Zhx;rw [hu];rfl)
      ·cases h
    ·cases h
   ·exact ZE4 h
end
end Go.Ev
end
section
namespace Go.Ev
section
variable {L:Lk} {P:Program} {o:Oper} {ts:List TD} {O:Type}
def Zwd (k:IntKind):Num→Option TP
 |.u8 b=>match k with
  |.u8=>some (.v .u8 b)
  |.u32=>some (.v .u32 (ybh b.toNat))
  |.u64=>some (.v .u64 (yaf b.toNat))
  |.i64=>some (.v (.int .i64) (b.toNat:Int))
  |_=>none
 |.u32 b=>match k with
  |.u32=>some (.v .u32 b)
  |.u64=>some (.v .u64 (yaf b.toNat))
  |.i64=>some (.v (.int .i64) (b.toNat:Int))
  |_=>none
 |.u64 b=>match k with
  |.u64=>some (.v .u64 b)
  |_=>none
 |.i _ _=>none
theorem ZAt {k:IntKind} {a:Num} {z:TP} (h:Zwd k a=some z):WL k a.n∧z.pe=.int k a.n:=by
 unfold Zwd at h
 split at h
 ·rename_i b
  have:=b.toNat_lt
  split at h <;> first|cases h|skip
  all_goals
   refine ⟨?_, ?_⟩
   ·simp only [WL,IntKind.min,IntKind.max,IntKind.signed,IntKind.bits,Num.n];constructor <;> simp <;> omega
   ·simp only [TP.pe,Ty.enc,Num.n,ych,ybc]
    try (congr 2;omega)
 ·rename_i b
  have:=b.toNat_lt
  split at h <;> first|cases h|skip
  all_goals
   refine ⟨?_, ?_⟩
   ·simp only [WL,IntKind.min,IntKind.max,IntKind.signed,IntKind.bits,Num.n];constructor <;> simp <;> omega
   ·simp only [TP.pe,Ty.enc,Num.n,ych,ybc]
    try (congr 2;omega)
 ·rename_i b
  have:=b.toNat_lt
  split at h <;> first|cases h|skip
  refine ⟨?_,rfl⟩
  simp only [WL,IntKind.min,IntKind.max,IntKind.signed,IntKind.bits,Num.n];constructor <;> simp <;> omega
 ·cases h
def WQ (l:List UInt8):ByteArray:=⟨l.toArray⟩
theorem ZyD (l:List UInt8):l.map (Ty.enc .u8)=(WQ l).data.toList.map fun x=>.int .u8 (x.toNat:Int):=rfl
def ZKe (P:Program) (e:TypeId) (K:TD→List Hint→Option O) (r:Row):Option O:=
 (Ty.castL r.t .u8 r.l).bind fun l=>match P.underlying e with
   |some (.int .u8)=>K (.p (.v .str (WQ l))) [.el (.str (WQ l))]
   |_=>none
def ZJb:TD→Option ByteArray
 |.p (.v t s)=>match t with
  |.str=>some s
  |_=>none
 |_=>none
theorem ZHy {L:Lk} {x:TD} {b:ByteArray} (h:ZJb x=some b):x.er L=.p (.str b):=by
 unfold ZJb at h
 split at h
 ·split at h
  ·cases h;rfl
  ·cases h
 ·cases h
def ZE5 (L:Lk) (P:Program) (src dst:TypeId) (K:TD→List Hint→Option O) (x:TD):Option O:=
 match P.underlying src,P.underlying dst with
 |some _,some (.int k)=>x.num.bind fun a=>match Zwd k a with
  |some z=>K (.p z) [.bare]
  |none=>K (.p (ZHi k a.n)) [.raw]
 |some (.slice e),some .string=>(x.row L).bind (ZKe P e K)
 |some .string,some (.slice e)=>(ZJb x).bind fun b=>match P.underlying e with
  |some (.int .u8)=>if decide (b.size≤maxLen)=true then K (.p (.sl (some true) .u8 b.data.toList)) [] else none
  |_=>none
 |_,_=>none
theorem ZAu {src dst:TypeId} {x:Operand} {K:TD→List Hint→Option O} {xd:TD} {out:O} (ho:o.op=.convert src dst x) (hx:arT P ts src x=some xd) (h:ZE5 L P src dst K xd=some out):∃d hs,K d hs=some out∧GoodN L P o ts d hs:=by
 have hv:=Zo (L:=L) hx
 unfold ZE5 at h
 split at h
 ·rename_i q k hq hk
  obtain ⟨a,h1,h⟩:=yc.1 h
  rw [Zc1 h1] at hv
  split at h
  ·rename_i z hz
   obtain ⟨c1,c2⟩:=ZAt hz
   refine ⟨_,_,h,[WL k a.n],⟨c1,trivial⟩,fun rest=> ?_⟩
   unfold evN
   rw [ho]
   dsimp only
   rw [hq,hk,hv,TD.er,c2]
   rfl
  ·refine ⟨_,_,h,[],trivial,fun rest=> ?_⟩
   unfold evN
   rw [ho]
   dsimp only
   rw [hq,hk,hv,TD.er,ZBS]
   rfl
 ·rename_i e hq hk
  obtain ⟨r,h1,h⟩:=yc.1 h
  unfold ZKe at h
  obtain ⟨l,h2,h9⟩:=yc.1 h
  split at h9
  ·rename_i he
   obtain ⟨nn,rt,rl⟩:=r
   obtain ⟨e1,h2⟩:=Zz h2
   dsimp only at e1 h2
   subst e1
   subst h2
   refine ⟨_,_,h9,[l.map (Ty.enc .u8)=(WQ l).data.toList.map fun x=>.int .u8 (x.toNat:Int)],⟨ZyD l,trivial⟩,fun rest=> ?_⟩
   unfold evN
   rw [ho]
   dsimp only
   rcases ZeQ h1 with e2|⟨id,e2⟩
   ·rw [hq,hk,hv,e2]
    dsimp only
    rw [yv,yq,he]
    dsimp only
    rw [if_pos (show Ty.u8.size=1 from rfl)]
    rfl
   ·rw [hq,hk,hv,e2]
    dsimp only
    rw [yv,yq,he]
    dsimp only
    rw [if_pos (show Ty.u8.size=1 from rfl)]
    rfl
  ·cases h9
 ·rename_i e hq hk
  obtain ⟨b,h1,h⟩:=yc.1 h
  split at h
  ·rename_i he
   obtain ⟨h2,h⟩:=Za h
   refine ⟨_,_,h,[b.size≤maxLen],⟨of_decide_eq_true h2,trivial⟩,fun rest=> ?_⟩
   unfold evN
   rw [ho]
   dsimp only
   rw [hq,hk,hv,ZHy h1]
   dsimp only
   rw [he]
   rfl
  ·cases h
 ·cases h
def ZrQ (P:Program) (ts:List TD) (f:Nat→TypeId):List (Nat×Operand)→Option (List (Nat×TD))
 |[]=>some []
 |q::r=>match arT P ts (f q.1) q.2,ZrQ P ts f r with
  |some d,some l=>some ((q.1,d)::l)
  |_,_=>none
theorem Zkj {f:Nat→TypeId}:∀{parts:List (Nat×Operand)} {l:List (Nat×TD)},ZrQ P ts f parts=some l→Qd P (TD.ers L ts) f parts=l.map fun q=>(q.1,q.2.er L)
 |[],l,h=>by cases h;rfl
 |q::r,l,h=>by
  simp only [ZrQ] at h
  split at h
  ·rename_i d l' h1 h2
   cases h
   have:=Zkj h2
   simp only [Qd,yx] at this ⊢
   rw [this,Zo h1]
  ·cases h
def ZmQ (L:Lk):List TD→List (Nat×TD)→Option (List TD)
 |ds,[]=>some ds
 |ds,(i,d)::r=>match ds[i]? with
  |some old=>if (old.er L).size=(d.er L).size then ZmQ L (ds.set i d) r else none
  |none=>none
theorem ZlU:∀{l:List (Nat×TD)} {ds es:List TD},ZmQ L ds l=some es→ZaY (TD.ers L ds) (l.map fun q=>(q.1,q.2.er L))=some (TD.ers L es)
 |[],ds,es,h=>by cases h;rfl
 |(i,d)::r,ds,es,h=>by
  simp only [ZmQ] at h
  split at h
  ·rename_i old h1
   split at h
   ·rename_i h2
    have:=ZlU h
    simp only [yx,ZaY,ZBD]
    rw [ZeN h1]
    dsimp only
    rw [if_pos h2]
    rw [show (TD.ers L ds).set i (d.er L)=TD.ers L (ds.set i d) by rw [ZB,ZB,yaz]]
    exact this
   ·cases h
  ·cases h
def ZrR (P:Program):List TypeId→List Pl→Option (List TP)
 |[],[]=>some []
 |t::r,z::q=>match Zwa P t z,ZrR P r q with
  |some a,some b=>some (a::b)
  |_,_=>none
 |_,_=>none
theorem Zos:∀{l:List TypeId} {zs:List Pl} {r:List TP},ZrR P l zs=some r→TP.pes r=zs
 |[],[],r,h=>by cases h;rfl
 |[],_::_,r,h=>by cases h
 |_::_,[],r,h=>by cases h
 |t::l,z::zs,r,h=>by
  simp only [ZrR] at h
  split at h
  ·rename_i a b h1 h2
   cases h
   rw [TP.pes,Zoq h1,Zos h2]
  ·cases h
def ZeS (L:Lk):List TD→Option (List TP)
 |[]=>some []
 |d::r=>match d.plain L,ZeS L r with
  |some a,some b=>some (a::b)
  |_,_=>none
theorem ZrS {x:TD} (h:x.plain L=none):(x.er L).plain=none:=by
 cases x <;> first|rfl|cases h
theorem ZlV:∀(ds:List TD),Zdx (TD.ers L ds)=(ZeS L ds).map TP.pes
 |[]=>rfl
 |d::r=>by
  simp only [TD.ers,Zdx,ZeS]
  rw [ZlV r]
  cases h:d.plain L with
  |none=>rw [ZrS h];cases ZeS L r <;> rfl
  |some a=>
   rw [Zu4 h]
   cases ZeS L r <;> rfl
def ZAv (L:Lk) (P:Program) (t:TypeId) (ds:List TD):TD:=
 match ZeS L ds with
 |some l=>.p (ZHl P t l)
 |none=>.agg ds
theorem ZDx (t:TypeId) (ds:List TD):(ZAv L P t ds).er L=ZxZ (TD.ers L ds):=by
 unfold ZAv ZxZ
 rw [ZlV]
 cases ZeS L ds with
 |none=>rfl
 |some l=>simp only [TD.er,ZBT,yy]
theorem ZE6 (l:List TP):TD.ers L (l.map .p)=(TP.pes l).map .p:=by
 rw [ZB,Vj,yau,yau]
 rfl
def ZAw (L:Lk) (P:Program) (ts:List TD) (t:TypeId) (parts:List (Nat×Operand)) (K:TD→List Hint→Option O):Option O:=
 match P.underlying t,Y5 P t with
 |some (.struct fs),.p (.agg zs)=>(ZrR P (fs.toList.map (·.type)) zs).bind fun zt=>(ZrQ P ts (Ziw P t) parts).bind fun ps=>
  if (ZbG (ps.map fun q=>(q.1,q.2.er L))&&fs.size==zs.length&&(yp zs.length).all fun i=>ZeE P fs i (Pl.sizes (zs.take i)) ((zs.getD i default).size) ((zs.getD i default).isAgg))=true then
   (ZmQ L (zt.map .p) ps).bind fun ds=>K (ZAv L P t ds) [] else none
 |some (.array _ e),.p (.arr n s zs)=>(ZrR P (yr zs.length e) zs).bind fun zt=>(ZrQ P ts (Ziw P t) parts).bind fun ps=>
  if (ZbG (ps.map fun q=>(q.1,q.2.er L))&&P.cellsOf e=s&&(P.info? e).isSome)=true then
   (ZmQ L (zt.map .p) ps).bind fun ds=>match ZeS L ds with
     |some l=>K (.p (ZHm P t n s l)) []
     |none=>K (.arr n s ds) [] else none
 |_,_=>none
theorem ZyE {t:TypeId} {parts:Array (Nat×Operand)} {K:TD→List Hint→Option O} {out:O} (ho:o.op=.build t parts) (h:ZAw L P ts t parts.toList K=some out):∃d hs,K d hs=some out∧GoodN L P o ts d hs:=by
 unfold ZAw at h
 split at h
 ·rename_i fs zs hu hz
  obtain ⟨zt,h1,h⟩:=yc.1 h
  obtain ⟨ps,h2,h⟩:=yc.1 h
  obtain ⟨h3,h⟩:=Za h
  obtain ⟨ds,h4,h⟩:=yc.1 h
  refine ⟨_,_,h,[],trivial,fun rest=> ?_⟩
  simp only [yq]
  unfold evN
  rw [ho]
  dsimp only
  rw [hu,hz]
  dsimp only
  rw [Zkj h2,if_pos h3]
  have:=ZlU h4
  rw [ZE6,Zos h1] at this
  rw [this,ZDx]
  rfl
 ·rename_i m e n s zs hu hz
  obtain ⟨zt,h1,h⟩:=yc.1 h
  obtain ⟨ps,h2,h⟩:=yc.1 h
  obtain ⟨h3,h⟩:=Za h
  obtain ⟨ds,h4,h⟩:=yc.1 h
  have:=ZlU h4
  rw [ZE6,Zos h1] at this
  have pl:=ZlV (L:=L) ds
  split at h
  ·rename_i l hl
   refine ⟨_,_,h,[],trivial,fun rest=> ?_⟩
   simp only [yq]
   unfold evN
   rw [ho]
   dsimp only
   rw [hu,hz]
   dsimp only
   rw [Zkj h2,if_pos h3,this,Option.bind_some,pl,hl,TD.er,ZBU]
   rfl
  ·rename_i hl
   refine ⟨_,_,h,[],trivial,fun rest=> ?_⟩
   simp only [yq]
   unfold evN
   rw [ho]
   dsimp only
   rw [hu,hz]
   dsimp only
   rw [Zkj h2,if_pos h3,this,Option.bind_some,pl,hl]
   rfl
 ·cases h
def ZHz (L:Lk) (P:Program) (ts:List TD) (e:TypeId) (T:Ty):List (Nat×Operand)→Option (List T.den)
 |[]=>some []
 |q::r=>match (arT P ts e q.2).bind (TD.flat L) with
  |some x=>if x.pe.size=P.cellsOf e then Zla (TP.to ZiK x T) (ZHz L P ts e T r) |>.map fun p=>p.1::p.2 else none
  |none=>none
theorem ZBY {e:TypeId} {T:Ty}:∀{parts:List (Nat×Operand)} {l:List T.den},ZHz L P ts e T parts=some l→
 ∃xs,Dv.flats (parts.map fun q=>Zs P (TD.ers L ts) e q.2)=some xs∧xs.all (fun x=>x.size==P.cellsOf e)=true∧xs.map Pl.soft=l.map T.enc
 |[],l,h=>by cases h;exact ⟨[],rfl,rfl,rfl⟩
 |q::r,l,h=>by
  simp only [ZHz] at h
  split at h
  ·rename_i x hx
   obtain ⟨d,h1,h2⟩:=yc.1 hx
   split at h
   ·rename_i hs
    obtain ⟨p,h3,rfl⟩:=Zb h
    obtain ⟨h4,h5⟩:=VE h3
    obtain ⟨xs,e1,e2,e3⟩:=ZBY h5
    refine ⟨x.pe::xs, ?_, ?_, ?_⟩
    ·simp only [yx,Dv.flats]
     rw [Zo h1,ZrP h2,e1]
    ·simp only [List.all_cons,yg,beq_iff_eq]
     exact ⟨hs,e2⟩
    ·rw [yx,ZeO x T _ h4,e3,yx]
   ·cases h
  ·cases h
def ZAx (L:Lk) (P:Program) (ts:List TD) (t:TypeId) (len:Nat) (parts:List (Nat×Operand)) (K:(T:Ty)→List T.den→TypeId→Option O):Option O:=
 match P.underlying t with
 |some (.slice e)=>(Zh5 P tyD e).bind fun T=>(P.info? e).bind fun i=>(ZHz L P ts e T parts).bind fun l=>
  if (parts.map (·.1)==yp len)&&(zOk i&&i.size !=0&&decide (len*i.size≤16777216))&&(decide (i.size=T.size)&&decide (P.cellsOf e=i.size)) then K T l e else none
 |_=>none
theorem ZfS {t:TypeId} {len:Nat} {parts:List (Nat×Operand)} {K:(T:Ty)→List T.den→TypeId→Option O} {out:O} (h:ZAx L P ts t len parts K=some out):
 ∃e T l i xs,K T l e=some out∧P.underlying t=some (.slice e)∧P.info? e=some i∧XA P (TD.ers L ts) e (P.cellsOf e) len parts=some xs∧(zOk i&&i.size !=0&&decide (len*i.size≤16777216))=true∧i.size=T.size∧xs.map Pl.soft=l.map T.enc:=by
 unfold ZAx at h
 split at h
 ·rename_i e hu
  obtain ⟨T,h1,h⟩:=yc.1 h
  obtain ⟨i,h2,h⟩:=yc.1 h
  obtain ⟨l,h3,h⟩:=yc.1 h
  obtain ⟨h4,h⟩:=Za h
  simp only [yg,decide_eq_true_eq] at h4
  obtain ⟨xs,e1,e2,e3⟩:=ZBY h3
  refine ⟨e,T,l,i,xs,h,hu,h2, ?_, ?_,h4.2.1,e3⟩
  ·unfold XA
   rw [if_pos h4.1.1,e1]
   dsimp only
   rw [if_pos e2]
  ·simp only [yg,decide_eq_true_eq]
   exact h4.1.2
 ·cases h
def ZJc (L:Lk) (P:Program) (t:TypeId) (K:TD→List Hint→Option O) (x:TD):Option O:=
 match P.underlying t with
 |some (.slice _)=>match x with
  |.view _ _ _ _ n=>K (.p (.v (.int .i64) (n:Int))) []
  |.rv _ _ _ _ n=>K (.p (.v (.int .i64) (n:Int))) []
  |x=>(x.row L).bind fun r=>K (.p (.v (.int .i64) (r.l.length:Int))) []
 |some (.array n _)=>K (.p (.v (.int .i64) (n:Int))) []
 |some .string=>match x with
  |.p x=>x.strB.bind fun s=>K (.p (.v (.int .i64) (s.size:Int))) []
  |_=>none
 |_=>none
theorem ZDy {t:TypeId} {x:Operand} {c:Call} {K:TD→List Hint→Option O} {xd:TD} {out:O} (ho:o.op=.call c) (hc:c.callee=.builtin .len) (ha:c.args.toList=[x]) (ht:c.argTypes.toList=[t])
 (hx:arT P ts t x=some xd) (h:ZJc L P t K xd=some out):∃d hs,K d hs=some out∧GoodN L P o ts d hs:=by
 have hv:=Zo (L:=L) hx
 unfold ZJc at h
 split at h
 ·rename_i e hu
  split at h
  ·refine ⟨_,_,h,[],trivial,fun rest=> ?_⟩
   simp only [yq]
   unfold evN
   rw [ho]
   dsimp only
   rw [hc]
   dsimp only
   rw [ha,ht]
   dsimp only
   rw [hu,hv]
   rfl
  ·refine ⟨_,_,h,[],trivial,fun rest=> ?_⟩
   simp only [yq]
   unfold evN
   rw [ho]
   dsimp only
   rw [hc]
   dsimp only
   rw [ha,ht]
   dsimp only
   rw [hu,hv]
   rfl
  ·obtain ⟨r,h1,h⟩:=yc.1 h
   refine ⟨_,_,h,[],trivial,fun rest=> ?_⟩
   simp only [yq]
   unfold evN
   rw [ho]
   dsimp only
   rw [hc]
   dsimp only
   rw [ha,ht]
   dsimp only
   rcases ZeQ h1 with he|⟨id,he⟩
   ·rw [hu,hv,he]
    dsimp only
    rw [yu]
    rfl
   ·rw [hu,hv,he]
    dsimp only
    rw [yu]
    rfl
 ·rename_i n e hu
  refine ⟨_,_,h,[],trivial,fun rest=> ?_⟩
  simp only [yq]
  unfold evN
  rw [ho]
  dsimp only
  rw [hc]
  dsimp only
  rw [ha,ht]
  dsimp only
  rw [hu]
  rfl
 ·rename_i hu
  split at h
  ·obtain ⟨s,h1,h⟩:=yc.1 h
   refine ⟨_,_,h,[],trivial,fun rest=> ?_⟩
   simp only [yq]
   unfold evN
   rw [ho]
   dsimp only
   rw [hc]
   dsimp only
   rw [ha,ht]
   dsimp only
   rw [hu,hv,TD.er,ZBW h1]
   rfl
  ·cases h
 ·cases h
def Zwe (L:Lk) (P:Program) (T:Ty) (u:TypeId) (x:TD):Option (List T.den):=
 match P.underlying u with
 |some (.slice _)=>(x.row L).bind fun r=>Ty.castL r.t T r.l
 |some .string=>match x,T with
  |.p (.v .str s),.u8=>some (Zor s)
  |_,_=>none
 |_=>none
theorem ZgI {T:Ty} {u:TypeId} {x:TD} {l:List T.den} (h:Zwe L P T u x=some l):ZeF P T.size u (x.er L)=some (l.map T.enc):=by
 unfold Zwe at h
 split at h
 ·rename_i e hu
  obtain ⟨r,h1,h⟩:=yc.1 h
  obtain ⟨e,h2⟩:=Zz h
  obtain ⟨nn,t,l0⟩:=r
  dsimp only at e h2 h1
  subst e
  subst h2
  unfold ZeF
  rcases ZeQ h1 with he|⟨id,he⟩
  ·rw [hu,he]
   dsimp only
   rw [if_pos (.inl rfl)]
  ·rw [hu,he]
   dsimp only
   rw [if_pos rfl]
 ·rename_i hu
  split at h
  ·rename_i s
   cases h
   unfold ZeF
   rw [hu]
   rfl
  ·cases h
 ·cases h
end
end Go.Ev
end
section
namespace Go.Ev
section
variable {L:Lk} {P:Program} {o:Oper} {ts:List TD} {O:Type}
def TD.boolT:TD→Option Bool
 |.p x=>x.boolB
 |_=>none
theorem ZfT {x:TD} {b:Bool} (h:x.boolT=some b):x.er L=.p (.bool b):=by
 unfold TD.boolT at h
 split at h
 ·rw [TD.er,ZES h]
 ·cases h
def TD.inner:TD→Option TP
 |.p x=>some x
 |_=>none
def ZE7 (P:Program) (ts:List TD):List Operand→Option (List TD)
 |[]=>some []
 |x::r=>match arT P ts 0 x,ZE7 P ts r with
  |some a,some b=>some (a::b)
  |_,_=>none
theorem Zwf:∀{l:List Operand} {ds:List TD},ZE7 P ts l=some ds→l.map (Zs P (TD.ers L ts) 0)=TD.ers L ds
 |[],ds,h=>by cases h;rfl
 |x::l,ds,h=>by
  simp only [ZE7] at h
  split at h
  ·rename_i a b h1 h2
   cases h
   rw [yx,Zo h1,Zwf h2]
   rfl
  ·cases h
def ZIv (P:Program) (t:TypeId) (K:TD→List Hint→Option O):TD→Option O
 |.elem x=>if decide (P.cellsOf t=x.pe.size)&&(XG P t==x.pe.isAgg&&((P.underlying t).isSome&&(P.info? t).isSome)) then K (.p x) [] else none
 |_=>none
def ZIw (L:Lk) (P:Program) (ts:List TD) (t u:TypeId) (x y:Operand) (K:TD→List Hint→Option O):Option O:=
 match P.underlying t,arT P ts t x with
 |some (.slice e),some (.p (.sl (some false) _ []))=>(P.info? e).bind fun i=>(Zh5 P tyD e).bind fun T=>(arT P ts u y).bind fun yd=>(Zwe L P T u yd).bind fun l=>
  if (zOk i&&i.size !=0)&&(decide (P.cellsOf e=T.size)&&decide (i.size=T.size)) then if Zyy l.length i.bytes=true then K (.p (.sl none T l)) [.snap] else none else none
 |_,_=>none
def Zwg (P:Program) (t:TypeId) (l h m:Option Int) (K:TD→List Hint→Option O):TD→Option O
 |.rv _ _ _ _ n=>match P.underlying t with
  |some (.slice e)=>l.bind fun l=>h.bind fun h=>m.bind fun m=>if (P.info? e).isSome=true then if (decide (0≤l)&&decide (l≤h)&&decide (h≤m)&&decide (m≤(n:Int)))=true then K .junk [] else none else none
  |_=>none
 |_=>none
theorem Zwh {t:TypeId} {x mx:Operand} {lo hi:Option Operand} {l h' m:Option Int} {K:TD→List Hint→Option O} {xd:TD} {out:O} (ho:o.op=.slice t x lo hi (some mx)) (hx:arT P ts t x=some xd) (hl:Zex P ts lo=some l) (hh:Zex P ts hi=some h') (hm:Zex P ts (some mx)=some m)
 (h:Zwg P t l h' m K xd=some out):∃d hs,K d hs=some out∧GoodN L P o ts d hs:=by
 have hv:=Zo (L:=L) hx
 have hl:=Q6 (L:=L) hl
 have hh:=Q6 (L:=L) hh
 have hm:=Q6 (L:=L) hm
 unfold Zwg at h
 split at h
 ·rename_i id v s l0 n
  split at h
  ·rename_i e hu
   obtain ⟨l2,q1,h⟩:=yc.1 h
   obtain ⟨h2,q2,h⟩:=yc.1 h
   obtain ⟨m2,q3,h⟩:=yc.1 h
   subst q1
   subst q2
   subst q3
   obtain ⟨h3,h⟩:=Za h
   obtain ⟨h4,h⟩:=Za h
   simp only [yg,decide_eq_true_eq] at h4
   refine ⟨_,_,h,[0≤l2,l2≤h2,h2≤m2,m2≤(n:Int)],⟨h4.1.1.1,h4.1.1.2,h4.1.2,h4.2,trivial⟩,fun rest=> ?_⟩
   simp only [yq]
   unfold evN
   rw [ho]
   dsimp only
   rw [hu,hv,hl,hh,hm]
   dsimp only [TD.er]
   rw [if_pos h3]
  ·cases h
 ·cases h
def Zwi (P:Program) (t:TypeId) (K:TD→List Hint→Option O) (r:Row):Option O:=
 match P.underlying t with
 |some (.array n e)=>if (n !=0)=true then if decide (n≤r.l.length)=true then K (.elem (.v (.arr n r.t) (r.l.take n))) [] else none else none
 |_=>none
theorem Zwj {t:TypeId} {x:Operand} {K:TD→List Hint→Option O} {xd:TD} {r:Row} {out:O} (ho:o.op=.sliceToArrayPointer t x) (hx:arT P ts 0 x=some xd) (hr:xd.row L=some r)
 (h:Zwi P t K r=some out):∃d hs,K d hs=some out∧GoodN L P o ts d hs:=by
 have hv:=Zo (L:=L) hx
 unfold Zwi at h
 split at h
 ·rename_i n e hu
  obtain ⟨h3,h⟩:=Za h
  obtain ⟨h4,h⟩:=Za h
  have h4:=of_decide_eq_true h4
  refine ⟨_,_,h,[n≤(r.l.map r.t.enc).length],⟨by rw [yu];exact h4,trivial⟩,fun rest=> ?_⟩
  simp only [yq]
  unfold evN
  rw [ho]
  dsimp only
  rcases ZeQ hr with e2|⟨id,e2⟩
  ·rw [hu,hv,e2]
   dsimp only
   rw [if_pos h3, ←List.map_take]
   rfl
  ·rw [hu,hv,e2]
   dsimp only
   rw [if_pos h3, ←List.map_take]
   rfl
 ·cases h
def ZJd (L:Lk) (x:TD):Option (List UInt8):=(x.row L).bind fun r=>Ty.castL r.t .u8 r.l
def ZKf (L:Lk) (K:TD→List Hint→Option O) (a b:TD):Option O:=(ZJd L a).bind fun l=>(ZJd L b).bind fun m=>K (.p (.v (.int .i64) (Go.Lib.compareBytes l m))) [.el (.str (WQ l)),.el (.str (WQ m))]
theorem ZBZ {L:Lk} {x:TD} {l:List UInt8} (h:ZJd L x=some l):∃nn,(x.er L).argI []=.p (.sl nn 1 (Zdz (WQ l))):=by
 obtain ⟨r,h1,h2⟩:=yc.1 h
 obtain ⟨nn,rt,rl⟩:=r
 obtain ⟨e1,h2⟩:=Zz h2
 dsimp only at e1 h2
 subst e1
 subst h2
 rcases ZeQ h1 with e2|⟨id,e2⟩
 ·rw [e2]
  exact ⟨_,rfl⟩
 ·rw [e2]
  exact ⟨_,rfl⟩
def ZJe:Num→Option TP
 |.u8 b=>some (.v .u8 (255^^^b))
 |.u32 b=>some (.v .u32 (4294967295^^^b))
 |.u64 b=>some (.v .u64 (18446744073709551615^^^b))
 |.i _ _=>none
theorem ZHA {a:Num} {z:TP} (h:ZJe a=some z):a.k.signed=false∧z.pe=.int a.k (bits .xor a.k a.k.max a.n):=by
 unfold ZJe at h
 split at h
 ·rename_i b
  cases h
  exact ⟨rfl,congrArg (Pl.int .u8) (ZIu .xor 255 b).symm⟩
 ·rename_i b
  cases h
  exact ⟨rfl,congrArg (Pl.int .u32) (ZEU .xor 4294967295 b).symm⟩
 ·rename_i b
  cases h
  exact ⟨rfl,congrArg (Pl.int .u64) (ZEZ .xor 18446744073709551615 b).symm⟩
 ·cases h
def opN (L:Lk) (P:Program) (o:Oper) (ts:List TD) (K:TD→List Hint→Option O):Option O:=
 match o.op with
 |.move x=>(arT P ts o.type x).bind fun d=>K d [.raw]
 |.assign x=>(arT P ts o.type x).bind fun d=>K d [.raw]
 |.pick c a b=>((arT P ts 0 c).bind TD.boolT).bind fun t=>(arT P ts o.type a).bind fun da=>(arT P ts o.type b).bind fun db=>if t=true then K da [.b true] else K db [.b false]
 |.nilCheck x=>match arT P ts 0 x with
  |some (.ref id p)=>K (.ref id p) []
  |some (.elem y)=>K (.elem y) []
  |some (.rref id v p)=>K (.rref id v p) []
  |some (.rp id p)=>K (.rp id p) []
  |some (.fn f c)=>K (.fn f c) []
  |_=>none
 |.binOp op t x y yt=>(arT P ts t x).bind fun a=>(arT P ts yt y).bind fun b=>ZJa L P op t a b K
 |.unOp .not _ x=>((arT P ts 0 x).bind TD.boolT).bind fun t=>K (.p (.v .bool (!t))) []
 |.unOp .neg _ x=>((arT P ts 0 x).bind TD.num).bind fun a=>K (.p (ZHi a.k (0 - a.n))) [.raw]
 |.unOp .xor _ x=>((arT P ts 0 x).bind TD.num).bind fun a=>(ZJe a).bind fun z=>K (.p z) []
 |.convert src dst x=>(arT P ts src x).bind (ZE5 L P src dst K)
 |.makeFunc (.func f) first captured=>if (first.isEmpty&&decide (f < big))=true then (ZE7 P ts captured.toList).bind fun ds=>K (.fn f ds) [] else if captured.isEmpty=true then (ZE7 P ts first.toList).bind fun ds=>K (.fn (f+big) ds) [] else none
 |.makeInterface t x=>match P.underlying t with
  |some (.interface _)=>none
  |some _=>(arT P ts t x).bind fun d=>K (.iface t d) []
  |none=>none
 |.field t x i=>(arT P ts t x).bind (ZAn L P t i K)
 |.fieldAddr t x i=>(arT P ts 0 x).bind (ZlS P t i K)
 |.indexAddr t x ix=>(arT P ts t x).bind fun a=>(arT P ts 0 ix).bind fun b=>b.inner.bind fun ip=>(ZrN ip).bind fun q=>ZlT L P t q.2 K a
 |.index t x ix=>(arT P ts t x).bind fun a=>a.inner.bind fun ap=>(arT P ts 0 ix).bind fun b=>b.inner.bind fun ip=>(ZrN ip).bind fun q=>ZAo P t q.2 K ap
 |.slice t x lo hi none=>(arT P ts t x).bind fun a=>(Zex P ts lo).bind fun l=>(Zex P ts hi).bind fun h=>ZAp L P t l h K a
 |.slice t x lo hi (some mx)=>(arT P ts t x).bind fun a=>(Zex P ts lo).bind fun l=>(Zex P ts hi).bind fun h=>(Zex P ts (some mx)).bind fun m=>Zwg P t l h m K a
 |.sliceToArrayPointer t x=>(arT P ts 0 x).bind fun a=>(a.row L).bind (Zwi P t K)
 |.extract x i=>match arT P ts 0 x with
  |some (.tup ds)=>(ds[i]?).bind fun d=>K d []
  |_=>none
 |.load t x=>(arT P ts 0 x).bind (ZIv P t K)
 |.build t parts=>ZAw L P ts t parts.toList K
 |.buildSlice t len parts=>ZAx L P ts t len parts.toList fun T l _=>K (.p (.sl (some true) T l)) [.snap]
 |.call c=>match c.callee with
  |.builtin .len=>match c.args.toList,c.argTypes.toList with
   |[x],[t]=>(arT P ts t x).bind (ZJc L P t K)
   |_,_=>none
  |.builtin .append=>match c.args.toList,c.argTypes.toList with
   |[x,y],[t,u]=>ZIw L P ts t u x y K
   |_,_=>none
  |.value f=>match arT P ts 0 f with
   |some (.fn g [])=>if (ZlI P g&&c.args.size==c.argTypes.size)=true then match c.args.toList,c.argTypes.toList with
     |[x,y],[t,u]=>(arT P ts t x).bind fun a=>(arT P ts u y).bind fun b=>ZKf L K a b
     |_,_=>none
    else none
   |_=>none
  |_=>none
 |_=>none
theorem Yx {x:TD} {y:TP} (h:x.inner=some y):x=.p y:=by
 unfold TD.inner at h
 split at h
 ·cases h;rfl
 ·cases h
theorem ZE8 {K:TD→List Hint→Option O} {out:O} (h:opN L P o ts K=some out):∃d hs,K d hs=some out∧GoodN L P o ts d hs:=by
 unfold opN at h
 split at h
 ·rename_i x ho
  obtain ⟨d,h1,h⟩:=yc.1 h
  refine ⟨_,_,h,[],trivial,fun rest=> ?_⟩
  unfold evN
  rw [ho]
  dsimp only
  rw [Zo h1]
  rfl
 ·rename_i x ho
  obtain ⟨d,h1,h⟩:=yc.1 h
  refine ⟨_,_,h,[],trivial,fun rest=> ?_⟩
  unfold evN
  rw [ho]
  dsimp only
  rw [Zo h1]
  rfl
 ·rename_i c a b ho
  obtain ⟨t,h1,h⟩:=yc.1 h
  obtain ⟨cd,h0,h1⟩:=yc.1 h1
  obtain ⟨da,h2,h⟩:=yc.1 h
  obtain ⟨db,h3,h⟩:=yc.1 h
  split at h
  ·rename_i ht
   refine ⟨_,_,h,[t=true],⟨ht,trivial⟩,fun rest=> ?_⟩
   unfold evN
   rw [ho]
   dsimp only
   rw [Zo h0,ZfT h1,Zo h2]
   rfl
  ·rename_i ht
   refine ⟨_,_,h,[t=false],⟨by simpa using ht,trivial⟩,fun rest=> ?_⟩
   unfold evN
   rw [ho]
   dsimp only
   rw [Zo h0,ZfT h1,Zo h3]
   rfl
 ·rename_i x ho
  split at h
  all_goals first|cases h;done|skip
  all_goals
   rename_i hx
   refine ⟨_,_,h,[],trivial,fun rest=> ?_⟩
   simp only [yq]
   unfold evN
   rw [ho]
   dsimp only
   rw [Zo hx]
   rfl
 ·rename_i op t x y yt ho
  obtain ⟨a,h1,h⟩:=yc.1 h
  obtain ⟨b,h2,h⟩:=yc.1 h
  obtain ⟨d,hs,C,h3,h4,h5⟩:=ZDw h
  refine ⟨d,hs,h3,C,h4,fun rest=> ?_⟩
  unfold evN
  rw [ho]
  dsimp only
  rw [Zo h1,Zo h2]
  exact h5 rest
 ·rename_i t x ho
  obtain ⟨b,h1,h⟩:=yc.1 h
  obtain ⟨xd,h0,h1⟩:=yc.1 h1
  refine ⟨_,_,h,[],trivial,fun rest=> ?_⟩
  simp only [yq]
  unfold evN
  rw [ho]
  dsimp only
  rw [Zo h0,ZfT h1]
  rfl
 ·rename_i t x ho
  obtain ⟨a,h1,h⟩:=yc.1 h
  obtain ⟨xd,h0,h1⟩:=yc.1 h1
  refine ⟨_,_,h,[],trivial,fun rest=> ?_⟩
  unfold evN
  rw [ho]
  dsimp only
  rw [Zo h0,Zc1 h1,TD.er,ZBS]
  rfl
 ·rename_i t x ho
  obtain ⟨a,h1,h⟩:=yc.1 h
  obtain ⟨xd,h0,h1⟩:=yc.1 h1
  obtain ⟨z,h2,h⟩:=yc.1 h
  obtain ⟨e1,e2⟩:=ZHA h2
  refine ⟨_,_,h,[],trivial,fun rest=> ?_⟩
  unfold evN
  rw [ho]
  dsimp only
  rw [Zo h0,Zc1 h1,TD.er,e2]
  dsimp only
  rw [e1]
  rfl
 ·rename_i src dst x ho
  obtain ⟨a,h1,h⟩:=yc.1 h
  exact ZAu ho h1 h
 ·rename_i f first captured ho
  split at h
  ·rename_i hf
   obtain ⟨ds,h1,h⟩:=yc.1 h
   refine ⟨_,_,h,[],trivial,fun rest=> ?_⟩
   simp only [yq]
   unfold evN
   rw [ho]
   dsimp only
   rw [if_pos hf,Zwf h1]
   rfl
  ·rename_i hf
   split at h
   ·rename_i hf2
    obtain ⟨ds,h1,h⟩:=yc.1 h
    refine ⟨_,_,h,[],trivial,fun rest=> ?_⟩
    simp only [yq]
    unfold evN
    rw [ho]
    dsimp only
    rw [if_neg hf,if_pos hf2,Zwf h1]
    rfl
   ·cases h
 ·rename_i t x ho
  split at h
  ·cases h
  ·rename_i u hu hne
   obtain ⟨d,h1,h⟩:=yc.1 h
   refine ⟨_,_,h,[],trivial,fun rest=> ?_⟩
   simp only [yq]
   unfold evN
   rw [ho]
   dsimp only
   rw [Zo h1,hne]
   split
   ·rename_i ms hh
    exact absurd (ybi hh) (hu ms)
   ·rfl
   ·rename_i hh;cases hh
  ·cases h
 ·rename_i t x i ho
  obtain ⟨a,h1,h⟩:=yc.1 h
  obtain ⟨d,h2,h3⟩:=Zpp h
  refine ⟨_,_,h2,[],trivial,fun rest=> ?_⟩
  simp only [yq]
  unfold evN
  rw [ho]
  dsimp only
  rw [Zo h1,h3]
  rfl
 ·rename_i t x i ho
  obtain ⟨a,h1,h⟩:=yc.1 h
  exact Zqa ho h1 h
 ·rename_i t x ix ho
  obtain ⟨a,h1,h⟩:=yc.1 h
  obtain ⟨b,h2,h⟩:=yc.1 h
  obtain ⟨ip,h3,h⟩:=yc.1 h
  obtain ⟨q,h4,h⟩:=yc.1 h
  rw [Yx h3] at h2
  exact Zqb (id:=.junk) ho h1 h2 h4 h
 ·rename_i t x ix ho
  obtain ⟨a,h1,h⟩:=yc.1 h
  obtain ⟨ap,h5,h⟩:=yc.1 h
  obtain ⟨b,h2,h⟩:=yc.1 h
  obtain ⟨ip,h3,h⟩:=yc.1 h
  obtain ⟨q,h4,h⟩:=yc.1 h
  rw [Yx h3] at h2
  rw [Yx h5] at h1
  exact Zyz ho h1 h2 h4 h
 ·rename_i t x lo hi ho
  obtain ⟨a,h1,h⟩:=yc.1 h
  obtain ⟨l,h2,h⟩:=yc.1 h
  obtain ⟨r,h3,h⟩:=yc.1 h
  exact ZyA ho h1 h2 h3 h
 ·rename_i t x lo hi mx ho
  obtain ⟨a,h1,h⟩:=yc.1 h
  obtain ⟨l,h2,h⟩:=yc.1 h
  obtain ⟨r,h3,h⟩:=yc.1 h
  obtain ⟨m,h4,h⟩:=yc.1 h
  exact Zwh ho h1 h2 h3 h4 h
 ·rename_i t x ho
  obtain ⟨a,h1,h⟩:=yc.1 h
  obtain ⟨r,h2,h⟩:=yc.1 h
  exact Zwj ho h1 h2 h
 ·rename_i x i ho
  split at h
  ·rename_i ds hx
   obtain ⟨d,h1,h⟩:=yc.1 h
   refine ⟨_,_,h,[],trivial,fun rest=> ?_⟩
   simp only [yq]
   unfold evN
   rw [ho]
   dsimp only
   rw [Zo hx]
   dsimp only [TD.er]
   rw [ZeN h1]
   rfl
  ·cases h
 ·rename_i t x ho
  obtain ⟨a,h1,h⟩:=yc.1 h
  unfold ZIv at h
  split at h
  ·obtain ⟨h2,h⟩:=Za h
   refine ⟨_,_,h,[],trivial,fun rest=> ?_⟩
   simp only [yq]
   unfold evN
   rw [ho]
   dsimp only
   rw [Zo h1]
   dsimp only [TD.er]
   rw [if_pos (by simpa [and_assoc] using h2)]
  ·cases h
 ·rename_i t parts ho
  exact ZyE ho h
 ·rename_i t len parts ho
  obtain ⟨e,T,l,i,xs,h1,hu,hi,hl,hz,hs,hx⟩:=ZfS h
  refine ⟨_,_,h1,[],trivial,fun rest=> ?_⟩
  unfold evN
  rw [ho]
  dsimp only
  rw [yv,yq]
  dsimp only
  rw [hu]
  dsimp only
  rw [hi,hl]
  dsimp only
  rw [if_pos (by simpa using hz),hx,hs]
  rfl
 ·rename_i c ho
  split at h
  ·rename_i hc
   split at h
   ·rename_i x t ha ht
    obtain ⟨a,h1,h⟩:=yc.1 h
    exact ZDy ho hc ha ht h1 h
   ·cases h
  ·rename_i hc
   split at h
   ·rename_i x y t u ha ht
    unfold ZIw at h
    split at h
    ·rename_i e T0 hu hx
     obtain ⟨i,h1,h⟩:=yc.1 h
     obtain ⟨T,h2,h⟩:=yc.1 h
     obtain ⟨yd,h3,h⟩:=yc.1 h
     obtain ⟨l,h4,h⟩:=yc.1 h
     obtain ⟨h5,h⟩:=Za h
     obtain ⟨h6,h⟩:=Za h
     simp only [yg,decide_eq_true_eq] at h5
     obtain ⟨g1,g2⟩:=Q5 h6
     refine ⟨_,_,h,[(l.map T.enc).length*i.bytes≤Zp,(l.map T.enc).length≤maxLen],⟨by rw [yu];exact g1,by rw [yu];exact g2,trivial⟩,fun rest=> ?_⟩
     unfold evN
     rw [ho]
     dsimp only
     rw [hc]
     dsimp only
     rw [ha,ht,yv,yq]
     dsimp only
     rw [hu,Zo hx,Zo h3,show (TD.p (TP.sl (some false) T0 [])).er L=Dv.p (.sl (some false) T0.size []) from rfl]
     dsimp only
     rw [h1,h5.2.1,ZgI h4]
     dsimp only
     rw [if_pos (by simpa using h5.1)]
     rfl
    ·cases h
   ·cases h
  ·rename_i f hc
   split at h
   ·rename_i g hf
    obtain ⟨hk,h⟩:=Za h
    split at h
    ·rename_i x y t u ha ht
     obtain ⟨a,h1,h⟩:=yc.1 h
     obtain ⟨b,h2,h⟩:=yc.1 h
     unfold ZKf at h
     obtain ⟨l,h3,h⟩:=yc.1 h
     obtain ⟨m,h4,h⟩:=yc.1 h
     obtain ⟨n1,e1⟩:=ZBZ h3
     obtain ⟨n2,e2⟩:=ZBZ h4
     refine ⟨_,_,h,[Zdz (WQ l)=Zdz (WQ l),Zdz (WQ m)=Zdz (WQ m)],⟨rfl,rfl,trivial⟩,fun rest=> ?_⟩
     have hg:g < big:=by
      rw [yg] at hk
      have hk2:=hk.1
      unfold ZlI at hk2
      rw [yg,decide_eq_true_eq] at hk2
      exact hk2.1
     have e3:YN P [] (TD.ers L ts) c g []=[.p (.sl n1 1 (Zdz (WQ l))),.p (.sl n2 1 (Zdz (WQ m)))]:=by
      unfold YN
      rw [if_pos hg,ha,ht]
      simp only [List.zip_cons_cons,List.zip_nil_right,yx,List.map_nil,List.append_nil]
      rw [Zo h1,Zo h2,e1,e2]
     unfold evN
     rw [ho]
     dsimp only
     rw [hc]
     dsimp only
     rw [Zo hf,yv,yv,yq,show TD.er L (.fn g [])=Dv.fn g [] from rfl]
     dsimp only
     rw [if_pos hk,e3]
     dsimp only
     rw [if_pos ⟨rfl,rfl⟩]
     rfl
    ·cases h
   ·cases h
  ·cases h
 ·cases h
end
end Go.Ev
end
section
namespace Go.Ev
mutual
theorem ZmR {L M:Lk} (h:∀id t,ZR L id t none=ZR M id t none):∀(d:TD),d.er L=d.er M
 |.p _=>rfl
 |.elem _=>rfl
 |.ref _ _=>rfl
 |.own id nn t c=>by
  cases c with
  |none=>rw [TD.er,TD.er,h]
  |some _=>rfl
 |.view _ _ _ _ _=>rfl
 |.agg xs=>by rw [TD.er,TD.er,ers_cont h xs]
 |.arr _ _ xs=>by rw [TD.er,TD.er,ers_cont h xs]
 |.fn _ xs=>by rw [TD.er,TD.er,ers_cont h xs]
 |.iface _ x=>by rw [TD.er,TD.er,ZmR h x]
 |.tup xs=>by rw [TD.er,TD.er,ers_cont h xs]
 |.mp _=>rfl
 |.rv _ _ _ _ _=>rfl
 |.rref _ _ _=>rfl
 |.rw _=>by simp only [TD.er,ZaB,h]
 |.rp _ _=>by simp only [TD.er,ZaB,h]
 |.junk=>rfl
theorem ers_cont {L M:Lk} (h:∀id t,ZR L id t none=ZR M id t none):∀(ds:List TD),TD.ers L ds=TD.ers M ds
 |[]=>rfl
 |x::r=>by rw [TD.ers,TD.ers,ZmR h x,ers_cont h r]
end
theorem ZE9 {L M:Lk} (h:∀id t,ZR L id t none=ZR M id t none) (e:TEnt):e.er L=e.er M:=by
 cases e with
 |var d st=>rw [TEnt.er,TEnt.er,ZmR h]
 |row v s st e d=>rw [TEnt.er,TEnt.er,ZmR h]
 |rowM t np v st e pre mid post=>rw [TEnt.er,TEnt.er,ZmR h]
 |_=>rfl
mutual
def TD.free (n:Nat):TD→Bool
 |.own id _ _ c=>c.isSome || id !=n
 |.rw id=>id !=n
 |.rp id _=>id !=n
 |.agg xs=>TD.frees n xs
 |.arr _ _ xs=>TD.frees n xs
 |.fn _ xs=>TD.frees n xs
 |.iface _ x=>TD.free n x
 |.tup xs=>TD.frees n xs
 |_=>true
def TD.frees (n:Nat):List TD→Bool
 |[]=>true
 |x::r=>TD.free n x&&TD.frees n r
end
def TEnt.free (n:Nat):TEnt→Bool
 |.var d _=>d.free n
 |.row _ _ _ _ d=>d.free n
 |.rowM _ _ _ _ _ _ d _=>d.free n
 |_=>true
mutual
theorem Zbm {L M:Lk} {n:Nat} (h:∀id t,id≠n→ZR L id t none=ZR M id t none):∀(d:TD),d.free n=true→d.er L=d.er M
 |.p _,_=>rfl
 |.elem _,_=>rfl
 |.ref _ _,_=>rfl
 |.own id nn t c,hf=>by
  cases c with
  |none=>
   have:id≠n:=by simpa [TD.free] using hf
   rw [TD.er,TD.er,h id t this]
  |some _=>rfl
 |.view _ _ _ _ _,_=>rfl
 |.agg xs,hf=>by rw [TD.er,TD.er,ers_free h xs hf]
 |.arr _ _ xs,hf=>by rw [TD.er,TD.er,ers_free h xs hf]
 |.fn _ xs,hf=>by rw [TD.er,TD.er,ers_free h xs hf]
 |.iface _ x,hf=>by rw [TD.er,TD.er,Zbm h x hf]
 |.tup xs,hf=>by rw [TD.er,TD.er,ers_free h xs hf]
 |.mp _,_=>rfl
 |.rv _ _ _ _ _,_=>rfl
 |.rref _ _ _,_=>rfl
 |.rw id,hf=>by
  have:id≠n:=by simpa [TD.free] using hf
  simp only [TD.er,ZaB,h id _ this]
 |.rp id _,hf=>by
  have:id≠n:=by simpa [TD.free] using hf
  simp only [TD.er,ZaB,h id _ this]
 |.junk,_=>rfl
theorem ers_free {L M:Lk} {n:Nat} (h:∀id t,id≠n→ZR L id t none=ZR M id t none):∀(ds:List TD),TD.frees n ds=true→TD.ers L ds=TD.ers M ds
 |[],_=>rfl
 |x::r,hf=>by
  simp only [TD.frees,yg] at hf
  rw [TD.ers,TD.ers,Zbm h x hf.1,ers_free h r hf.2]
end
mutual
def TD.stale (L:Lk) (n:Nat):TD→TD
 |.own id nn t c=>if id=n then .own id nn t (some (ZR L id t c)) else .own id nn t c
 |.agg xs=>.agg (TD.stales L n xs)
 |.arr m s xs=>.arr m s (TD.stales L n xs)
 |.fn f xs=>.fn f (TD.stales L n xs)
 |.iface t x=>.iface t (TD.stale L n x)
 |.tup xs=>.tup (TD.stales L n xs)
 |.p x=>.p x
 |.elem x=>.elem x
 |.ref id path=>.ref id path
 |.view id path s lo n=>.view id path s lo n
 |.mp id=>.mp id
 |.rv id v s lo n=>.rv id v s lo n
 |.rref id v path=>.rref id v path
 |.rw id=>if id=n then .rv id (ZaB L id 0) (ZaB L id 1) 0 (ZaB L id 2) else .rw id
 |.rp id path=>if id=n then .rref id (ZaB L id 0) path else .rp id path
 |.junk=>.junk
def TD.stales (L:Lk) (n:Nat):List TD→List TD
 |[]=>[]
 |x::r=>TD.stale L n x::TD.stales L n r
end
def TEnt.stale (L:Lk) (n:Nat):TEnt→TEnt
 |.var d st=>.var (d.stale L n) st
 |.row v s st e d=>.row v s st e (d.stale L n)
 |.rowM t np v st e pre d post=>.rowM t np v st e pre (d.stale L n) post
 |e=>e
mutual
theorem ZiM {L M:Lk} {n:Nat} (h:∀id t,id≠n→ZR L id t none=ZR M id t none):∀(d:TD),(d.stale L n).er M=d.er L
 |.p _=>rfl
 |.elem _=>rfl
 |.ref _ _=>rfl
 |.own id nn t c=>by
  rw [TD.stale]
  split
  ·rfl
  ·rename_i hn
   cases c with
   |none=>rw [TD.er,TD.er,h id t hn]
   |some _=>rfl
 |.view _ _ _ _ _=>rfl
 |.agg xs=>by rw [TD.stale,TD.er,TD.er,ers_stale h xs]
 |.arr _ _ xs=>by rw [TD.stale,TD.er,TD.er,ers_stale h xs]
 |.fn _ xs=>by rw [TD.stale,TD.er,TD.er,ers_stale h xs]
 |.iface _ x=>by rw [TD.stale,TD.er,TD.er,ZiM h x]
 |.tup xs=>by rw [TD.stale,TD.er,TD.er,ers_stale h xs]
 |.mp _=>rfl
 |.rv _ _ _ _ _=>rfl
 |.rref _ _ _=>rfl
 |.rw id=>by
  rw [TD.stale]
  split
  ·rfl
  ·rename_i hn
   simp only [TD.er,ZaB,h id _ hn]
 |.rp id _=>by
  rw [TD.stale]
  split
  ·rfl
  ·rename_i hn
   simp only [TD.er,ZaB,h id _ hn]
 |.junk=>rfl
theorem ers_stale {L M:Lk} {n:Nat} (h:∀id t,id≠n→ZR L id t none=ZR M id t none):∀(ds:List TD),TD.ers M (TD.stales L n ds)=TD.ers L ds
 |[]=>rfl
 |x::r=>by rw [TD.stales,TD.ers,TD.ers,ZiM h x,ers_stale h r]
end
theorem ZfU {L M:Lk} {n:Nat} (h:∀id t,id≠n→ZR L id t none=ZR M id t none) (e:TEnt):(e.stale L n).er M=e.er L:=by
 cases e with
 |var d st=>rw [TEnt.stale,TEnt.er,TEnt.er,ZiM h]
 |row v s st e d=>rw [TEnt.stale,TEnt.er,TEnt.er,ZiM h]
 |rowM t np v st e pre d post=>rw [TEnt.stale,TEnt.er,TEnt.er,ZiM h]
 |_=>rfl
def TEnt.isLog:TEnt→Bool
 |.log _ _ _=>true
 |.rowT _ _ _ _ _=>true
 |.rowN _ _ _ _ _ _ _=>true
 |.rowM _ _ _ _ _ _ _ _=>true
 |_=>false
theorem ZAy {e:TEnt} (h:e.isLog=false):lkE (some e)=none:=by
 cases e <;> first|rfl|cases h
theorem Zc2 {H:List TEnt} {e:TEnt} (h:e.isLog=false):lk (H++[e])=lk H:=by
 funext id
 unfold lk
 rcases Nat.lt_trichotomy id H.length with hl|hl|hl
 ·rw [yah hl]
 ·subst hl
  rw [List.getElem?_concat_length,ZAy h,yam (yi _)]
  rfl
 ·rw [yam (by simp;omega),yam (by omega)]
theorem WR {H:List TEnt} {id:Nat} {e x:TEnt} (hx:H[id]? =some x) (h1:x.isLog=false) (h2:e.isLog=false):lk (H.set id e)=lk H:=by
 funext j
 unfold lk
 by_cases hj:id=j
 ·subst hj
  rw [getElem?_set_eq' hx,hx,ZAy h1,ZAy h2]
 ·rw [getElem?_set_ne' hj]
theorem ZbJ {H:List TEnt} {e:TEnt} (h:lk (H++[e])=lk H):erH (H++[e])=erH H++[e.er (lk H)]:=by
 unfold erH
 rw [h,yan]
 rfl
theorem Y7 {H:List TEnt} {id:Nat} {e:TEnt} (h:lk (H.set id e)=lk H):erH (H.set id e)=(erH H).set id (e.er (lk H)):=by
 unfold erH
 rw [h,yaz]
theorem ZmS {H:List TEnt} {T:Ty} {e:TypeId} (id:Nat) (t:Ty):ZR (lk H) id t none=ZR (lk (H++[.log T e []])) id t none:=by
 unfold ZR lk
 dsimp only
 rcases Nat.lt_trichotomy id H.length with hl|hl|hl
 ·rw [yah hl]
 ·subst hl
  rw [List.getElem?_concat_length,yam (yi _)]
  show []=(Ty.castL T t []).getD []
  cases h:Ty.castL T t [] with
  |none=>rfl
  |some y=>
   obtain ⟨e,h2⟩:=Zz h
   subst e
   subst h2
   rfl
 ·rw [yam (by omega),yam (by simp;omega)]
theorem Zwk {H:List TEnt} {T:Ty} {e:TypeId}:erH (H++[.log T e []])=erH H++[.log T.size e []]:=by
 unfold erH
 rw [yan]
 congr 1
 exact ybz fun x _=>(ZE9 (fun id t=>ZmS id t) x).symm
theorem Q7 {H:List TEnt} {e:TEnt} (id:Nat) (t:Ty) (h:id≠H.length):ZR (lk H) id t none=ZR (lk (H++[e])) id t none:=by
 unfold ZR lk
 dsimp only
 rcases Nat.lt_or_gt_of_ne h with hl|hl
 ·rw [yah hl]
 ·rw [yam (by omega),yam (by simp;omega)]
theorem ZB0 {H:List TEnt} {T:Ty} {e:TypeId} {l:List T.den} (h:H.all (TEnt.free H.length)=true):erH (H++[.log T e l])=erH H++[.log T.size e (l.map T.enc)]:=by
 unfold erH
 rw [yan]
 congr 1
 refine ybz fun x hx=> ?_
 cases x with
 |var d st=>
  rw [TEnt.er,TEnt.er]
  congr 1
  exact (Zbm (fun id t hn=>Q7 id t hn) d (yaw.1 h _ hx)).symm
 |row v s st e d=>
  rw [TEnt.er,TEnt.er]
  congr 1
  exact (Zbm (fun id t hn=>Q7 id t hn) d (yaw.1 h _ hx)).symm
 |rowM t np v st e pre d post=>
  rw [TEnt.er,TEnt.er,Zbm (fun id t hn=>Q7 id t hn) d (yaw.1 h _ hx)]
 |_=>rfl
theorem Vb {H:List TEnt} {n:Nat} {e:TEnt} (L:Lk) (id:Nat) (t:Ty) (h:id≠n):ZR (lk H) id t none=ZR (lk ((H.map (TEnt.stale L n)).set n e)) id t none:=by
 have h1:lk ((H.map (TEnt.stale L n)).set n e) id=lk H id:=by
  unfold lk
  rw [getElem?_set_ne' (Ne.symm h),yac]
  cases H[id]? with
  |none=>rfl
  |some x=>cases x <;> rfl
 unfold ZR
 rw [h1]
theorem ZFa {H:List TEnt} {n:Nat} {T:Ty} {e:TypeId} {l:List T.den}:erH ((H.map (TEnt.stale (lk H) n)).set n (.log T e l))=(erH H).set n (.log T.size e (l.map T.enc)):=by
 unfold erH
 rw [yaz,yau]
 congr 1
 refine ybz fun x hx=> ?_
 exact ZfU (fun id t hn=>Vb (lk H) id t hn) x
def TP.isV:TP→Option (Σ t:Ty,t.den)
 |.v t x=>some ⟨t,x⟩
 |_=>none
def TP.setF:TP→Nat→TP→Option TP
 |.v (.st fs) x,i,z=>match z.isV with
  |some q=>(Ty.upd fs x i q.1 q.2).map (.v (.st fs))
  |none=>some (.agg ((Ty.flds fs x).set i z))
 |.agg l,i,z=>some (.agg (l.set i z))
 |_,_,_=>none
theorem ZHB {x y z:TP} {i:Nat} (h:x.setF i z=some y):∀xs,x.pe=.agg xs→y.pe=.agg (xs.set i z.pe):=by
 cases x with
 |v u a=>
  cases u with
  |st fs=>
   intro xs hx
   have hx':Pl.agg (Ty.encs fs a)=.agg xs:=hx
   injection hx' with hx'
   subst hx'
   simp only [TP.setF] at h
   split at h
   ·rename_i q hq
    obtain ⟨x',h1,rfl⟩:=Zb h
    have hz:z=.v q.1 q.2:=by
     unfold TP.isV at hq
     split at hq
     ·cases hq;rfl
     ·cases hq
    show Pl.agg (Ty.encs fs x')=_
    rw [ZBP fs a i q.1 q.2 x' h1,hz]
    rfl
   ·cases h
    show Pl.agg (TP.pes ((Ty.flds fs a).set i z))=_
    rw [Vj,yaz, ←Vj]
    exact congrArg (fun l=>Pl.agg (l.set i z.pe)) (ZqR fs a)
  |_=>cases h
 |agg l=>
  intro xs hx
  cases h
  rw [TP.pe] at hx
  injection hx with hx
  subst hx
  rw [TP.pe,Vj,Vj,yaz]
 |_=>cases h
def ZKg (x:Pl) (i o:Nat):Bool:=
 match x with
 |.agg xs=>o==Pl.sizes (xs.take i)
 |_=>false
def ZIx (x:TP) (i:Nat):TD→Option TD
 |.p y=>(x.setF i y).map .p
 |d=>x.parts.map fun l=>.agg ((l.map .p).set i d)
def ZIy (a:ARow) (i:Nat):TD→Option TD
 |.p z=>(TP.to ZiK z a.t).map fun y'=>.p (.v (.arr a.n a.t) (a.l.set i y'))
 |d=>some (.arr a.n a.t.size ((a.l.map fun y=>TD.p (.v a.t y)).set i d))
theorem ZJf {L:Lk} (l:List TP):TD.ers L (l.map .p)=(TP.pes l).map .p:=by
 rw [ZB,Vj,yau,yau]
 rfl
abbrev Kg (O:Type):=TD→List Hint→(TD→Option TD)→Option O
def gpT {O:Type} (L:Lk):List Stp→TD→Kg O→Option O
 |[],d,K=>K d [] some
 |.fld i o::r,.p x,K=>(x.fld i).bind fun z=>if ZKg x.pe i o=true then gpT L r (.p z) fun sub hs put=>K sub hs fun new=>(put new).bind fun d=>ZIx x i d else none
 |.ix i s::r,.p x,K=>x.arow.bind fun a=>if s=a.t.size then (a.l[i]?).bind fun y=>gpT L r (.p (.v a.t y)) fun sub hs put=>K sub (.el (a.t.enc y)::hs) fun new=>
   (put new).bind fun d=>ZIy a i d else none
 |.fld i o::r,.agg ds,K=>(ds[i]?).bind fun z=>if o=Dv.sizes ((TD.ers L ds).take i) then gpT L r z fun sub hs put=>K sub hs fun new=>(put new).map fun y=>.agg (ds.set i y) else none
 |.ix i s::r,.arr n s' ds,K=>(ds[i]?).bind fun z=>if s=s' then gpT L r z fun sub hs put=>K sub hs fun new=>(put new).map fun y=>.arr n s' (ds.set i y) else none
 |_,_,_=>none
def QT:List Stp→Nat
 |[]=>0
 |q::r=>q.o+QT r
theorem Xs (l:List Stp):XO l=QT l:=by
 have:∀(l:List Stp) (n:Nat),l.foldl (fun n q=>n+q.o) n=n+QT l:=by
  intro l
  induction l with
  |nil=>intro n;rfl
  |cons q r ih=>intro n;rw [List.foldl_cons,ih,QT];omega
 rw [XO,this]
 omega
theorem Xn {O:Type} {L:Lk}:∀(path:List Stp) (d:TD) (K:Kg O) (out:O),gpT L path d K=some out→
 ∃sub hs put C,K sub hs put=some out∧AllP C∧(∀rest,Z5 (d.er L) (path.map Stp.i) (hs++rest)=some (C,QT path,sub.er L,rest))∧
  ∀new d',put new=some d'→∀rest,X5 (new.er L) (d.er L) (path.map Stp.i) (hs++rest)=some (d'.er L)
 |[],d,K,out,h=>⟨d,[],some,[],h,trivial,fun _=>rfl,fun new d' h _=>by cases h;rfl⟩
 |q::r,d,K,out,h=>by
  cases q with
  |fld i o=>
   cases d with
   |p x=>
    simp only [gpT] at h
    obtain ⟨z,h1,h⟩:=yc.1 h
    obtain ⟨h2,h⟩:=Za h
    obtain ⟨sub,hs,put,C,k1,k2,k3,k4⟩:=Xn r (.p z) _ out h
    obtain ⟨xs,e1,e2⟩:=ZER h1
    have h3:o=Pl.sizes (xs.take i):=by
     unfold ZKg at h2
     rw [e1] at h2
     simpa using h2
    refine ⟨sub,hs,_,C,k1,k2,fun rest=> ?_,fun new d' hp rest=> ?_⟩
    ·rw [TD.er,e1]
     show Z5 (.p (.agg xs)) (i::r.map Stp.i) (hs++rest)=_
     unfold Z5
     rw [e2]
     dsimp only
     have:=k3 rest
     rw [TD.er] at this
     rw [this,yy,QT,h3]
     rfl
    ·obtain ⟨d1,p1,hp⟩:=yc.1 hp
     have:=k4 new d1 p1 rest
     unfold ZIx at hp
     rw [TD.er] at this
     rw [TD.er,e1]
     show X5 (new.er L) (.p (.agg xs)) (i::r.map Stp.i) (hs++rest)=_
     unfold X5
     rw [e2]
     dsimp only
     rw [this]
     split at hp
     ·obtain ⟨x',p3,rfl⟩:=Zb hp
      rw [TD.er,TD.er,ZHB p3 xs e1]
     ·rename_i hne
      obtain ⟨l,p3,rfl⟩:=Zb hp
      have e3:TP.pes l=xs:=by
       have:=Zyv p3
       rw [e1] at this
       injection this with this
       exact this.symm
      rw [TD.er,ZB,yaz, ←ZB,ZJf,e3]
      cases d1 <;> first|rfl|exact absurd rfl (hne _)
   |agg ds=>
    simp only [gpT] at h
    obtain ⟨z,h1,h⟩:=yc.1 h
    split at h
    ·rename_i h2
     obtain ⟨sub,hs,put,C,k1,k2,k3,k4⟩:=Xn r z _ out h
     refine ⟨sub,hs,_,C,k1,k2,fun rest=> ?_,fun new d' hp rest=> ?_⟩
     ·rw [TD.er]
      show Z5 (.agg (TD.ers L ds)) (i::r.map Stp.i) (hs++rest)=_
      unfold Z5
      rw [ZeN h1]
      dsimp only
      rw [k3 rest,yy,QT,h2]
      rfl
     ·obtain ⟨y,p1,rfl⟩:=Zb hp
      rw [TD.er]
      show X5 (new.er L) (.agg (TD.ers L ds)) (i::r.map Stp.i) (hs++rest)=_
      unfold X5
      rw [ZeN h1]
      dsimp only
      rw [k4 new y p1 rest,yy,TD.er,ZB,ZB,yaz]
    ·cases h
   |_=>cases h
  |ix i s=>
   cases d with
   |p x=>
    simp only [gpT] at h
    obtain ⟨a,h1,h⟩:=yc.1 h
    split at h
    ·rename_i hs0
     obtain ⟨y,h2,h⟩:=yc.1 h
     obtain ⟨sub,hs,put,C,k1,k2,k3,k4⟩:=Xn r (.p (.v a.t y)) _ out h
     refine ⟨sub,_,_,((a.l.map a.t.enc)[i]? =some (a.t.enc y))::C,k1,⟨ZmL h2,k2⟩,fun rest=> ?_,fun new d' hp rest=> ?_⟩
     ·rw [TD.er,Vl h1]
      show Z5 (.p (.arr a.n a.t.size _)) (i::r.map Stp.i) (_::(hs++rest))=_
      unfold Z5
      dsimp only
      have:=k3 rest
      rw [TD.er,TP.pe] at this
      rw [this,yy,QT,hs0]
      rfl
     ·obtain ⟨d1,p1,hp⟩:=yc.1 hp
      have:=k4 new d1 p1 rest
      unfold ZIy at hp
      rw [TD.er,TP.pe] at this
      rw [TD.er,Vl h1]
      show X5 (new.er L) (.p (.arr a.n a.t.size _)) (i::r.map Stp.i) (_::(hs++rest))=_
      unfold X5
      dsimp only
      rw [this]
      split at hp
      ·rename_i z
       obtain ⟨y',p3,rfl⟩:=Zb hp
       rw [TD.er]
       dsimp only
       rw [ZeO z a.t y' p3, ←yaz]
       rfl
      ·rename_i hne
       cases hp
       rw [TD.er,ZB,yaz,yau,yau]
       cases d1 <;> first|rfl|exact absurd rfl (hne _)
    ·cases h
   |arr n s' ds=>
    simp only [gpT] at h
    obtain ⟨z,h1,h⟩:=yc.1 h
    split at h
    ·rename_i h2
     obtain ⟨sub,hs,put,C,k1,k2,k3,k4⟩:=Xn r z _ out h
     refine ⟨sub,hs,_,C,k1,k2,fun rest=> ?_,fun new d' hp rest=> ?_⟩
     ·rw [TD.er]
      show Z5 (.arr n s' (TD.ers L ds)) (i::r.map Stp.i) (hs++rest)=_
      unfold Z5
      rw [ZeN h1]
      dsimp only
      rw [k3 rest,yy,QT, ←h2]
      rfl
     ·obtain ⟨y,p1,rfl⟩:=Zb hp
      rw [TD.er]
      show X5 (new.er L) (.arr n s' (TD.ers L ds)) (i::r.map Stp.i) (hs++rest)=_
      unfold X5
      rw [ZeN h1]
      dsimp only
      rw [k4 new y p1 rest,yy,TD.er,ZB,ZB,yaz]
    ·cases h
   |_=>cases h
theorem ZaE {H:List TEnt} {id:Nat} {T:Ty} {v:List Unit} {st:Bool} {e:TypeId} {l:List T.den} (hd:H[id]? =some (.rowT T v st e l)):(TD.rw id).er (lk H)=.rv id v.length T.size 0 l.length∧
 ∀path,(TD.rp id path).er (lk H)=.rref id v.length (XO path) (path.map Stp.i):=by
 have h:ZR (lk H) id (.sl (.st [])) none=([v,yr T.size (),yr l.length ()]:List (List Unit)):=by
  unfold ZR lk
  dsimp only
  rw [hd]
  rfl
 refine ⟨?_,fun path=> ?_⟩
 ·rw [TD.er]
  unfold ZaB
  rw [h]
  show Dv.rv id v.length (yr T.size ()).length 0 (yr l.length ()).length=_
  rw [yci,yci]
 ·rw [TD.er]
  unfold ZaB
  rw [h]
  rfl
end Go.Ev
end
section
namespace Go.Ev
abbrev Kn (O:Type):=List TD→TD→List TEnt→List Hint→Nat→Option O
def GoodR (P:Program) (o:Oper) (ts:List TD) (H:List TEnt) (d:TD) (hs:List Hint):Prop:=
 (∀rest,evN P o (TD.ers (lk H) ts) (hs++rest)=none)∧∃C,AllP C∧∀rest,evR P o (TD.ers (lk H) ts) (erH H) (hs++rest)=some (C,d.er (lk H),rest)
def GoodE (P:Program) (o:Oper) (ts:List TD) (H:List TEnt) (d:TD) (H':List TEnt) (hs:List Hint):Prop:=
 (∀rest,evN P o (TD.ers (lk H) ts) (hs++rest)=none)∧(∀rest,evR P o (TD.ers (lk H) ts) (erH H) (hs++rest)=none)∧
   ∃C,AllP C∧∀rest,evE P o (TD.ers (lk H) ts) (erH H) (hs++rest)=some (C,d.er (lk H'),erH H',rest)
structure Good (P:Program) (o:Oper) (ts all:List TD) (H:List TEnt) (all':List TD) (d:TD) (H':List TEnt) (hs:List Hint) (cls:Nat):Prop where
 same:TD.ers (lk H') all'=TD.ers (lk H) all
 len:all'.length=all.length
 op:(cls=0∧H'=H∧GoodN (lk H) P o ts d hs)∨(cls=1∧H'=H∧GoodR P o ts H d hs)∨(cls=2∧GoodE P o ts H d H' hs)
section
variable {P:Program} {o:Oper} {ts all:List TD} {H:List TEnt} {O:Type} {K:Kn O} {out:O}
def Zpq (H:List TEnt) (id:Nat):Option TD:=
 match H[id]? with
 |some (.var d _)=>some d
 |_=>none
theorem ZdM {id:Nat} {d:TD} (h:Zpq H id=some d):∃st,H[id]? =some (.var d st)∧(erH H)[id]? =some (.var (d.er (lk H)) st):=by
 unfold Zpq at h
 split at h
 ·rename_i d' st hd
  cases h
  exact ⟨st,hd,ZP hd⟩
 ·cases h
def ZAz (H:List TEnt) (id v:Nat):Option TD:=
 match H[id]? with
 |some (.row w _ _ _ d)=>if (w==v)=true then some d else none
 |_=>none
theorem ZyF {id v:Nat} {d:TD} (h:ZAz H id v=some d):∃w s st e,H[id]? =some (.row w s st e d)∧(w==v)=true:=by
 unfold ZAz at h
 split at h
 ·rename_i w s st e d' hd
  split at h
  ·rename_i hw
   cases h
   exact ⟨w,s,st,e,hd,hw⟩
  ·cases h
 ·cases h
def ZFb (P:Program) (t:TypeId) (all:List TD) (H:List TEnt) (K:Kn O):TD→Option O
 |.ref id path=>(Zpq H id).bind fun d=>gpT (lk H) path d fun sub hs _=>if okT P t (sub.er (lk H))=true then K all sub H hs 1 else none
 |.rref id v path=>(ZAz H id v).bind fun d=>gpT (lk H) path d fun sub hs _=>if okT P t (sub.er (lk H))=true then K all sub H hs 1 else none
 |_=>none
theorem ZAA {t:TypeId} {x:Operand} {xd:TD} (ho:o.op=.load t x) (hx:arT P ts 0 x=some xd) (h:ZFb P t all H K xd=some out):∃a d H' hs c,K a d H' hs c=some out∧Good P o ts all H a d H' hs c:=by
 have hv:=Zo (L:=lk H) hx
 unfold ZFb at h
 split at h
 ·rename_i id path
  obtain ⟨d,h1,h⟩:=yc.1 h
  obtain ⟨st,h2,h3⟩:=ZdM h1
  obtain ⟨sub,hs,put,C,k1,k2,k3,_⟩:=Xn _ _ _ _ h
  obtain ⟨k4,k5⟩:=Za k1
  refine ⟨_,_,_,_,_,k5,rfl,rfl,.inr (.inl ⟨rfl,rfl,fun rest=> ?_,C++[QT path=XO path],Zi.2 ⟨k2,(Xs _).symm,trivial⟩,fun rest=> ?_⟩)⟩
  ·unfold evN
   rw [ho]
   dsimp only
   rw [hv]
   rfl
  ·unfold evR
   rw [ho]
   dsimp only
   rw [hv]
   dsimp only [TD.er]
   rw [h3]
   dsimp only
   rw [k3 rest]
   dsimp only
   rw [if_pos k4]
 ·rename_i id v path
  obtain ⟨d,h1,h⟩:=yc.1 h
  obtain ⟨w,s,st,e,h2,h3⟩:=ZyF h1
  obtain ⟨sub,hs,put,C,k1,k2,k3,_⟩:=Xn _ _ _ _ h
  obtain ⟨k4,k5⟩:=Za k1
  refine ⟨_,_,_,_,_,k5,rfl,rfl,.inr (.inl ⟨rfl,rfl,fun rest=> ?_,C++[QT path=XO path],Zi.2 ⟨k2,(Xs _).symm,trivial⟩,fun rest=> ?_⟩)⟩
  ·unfold evN
   rw [ho]
   dsimp only
   rw [hv]
   rfl
  ·unfold evR
   rw [ho]
   dsimp only
   rw [hv]
   dsimp only [TD.er]
   rw [ZP h2]
   dsimp only [TEnt.er]
   rw [k3 rest]
   dsimp only
   rw [if_pos (by rw [yg];exact ⟨k4,h3⟩)]
 ·cases h
def ZAB (P:Program) (t:TypeId) (lo hi:Option Int) (all:List TD) (H:List TEnt) (K:Kn O):TD→Option O
 |.rv id v s l0 n=>match P.underlying t,H[id]? with
  |some (.slice e),some (.row w s' _ _ d)=>hi.bind fun h=>(rowN (d.er (lk H)) s').bind fun N=>if (P.cellsOf e=s&&(P.info? e).isSome&&w==v&&s'==s&&s' !=0)=true then
    if (decide (0≤lo.getD 0)&&decide (lo.getD 0≤h)&&decide (l0+h.toNat≤N))=true then K all (.rv id v s (l0+(lo.getD 0).toNat) (h.toNat - (lo.getD 0).toNat)) H [.raw] 1 else none else none
  |_,_=>none
 |_=>none
theorem ZyG {t:TypeId} {x:Operand} {lo hi:Option Operand} {l h':Option Int} {xd:TD} (ho:o.op=.slice t x lo hi none) (hx:arT P ts t x=some xd) (hl:Zex P ts lo=some l) (hh:Zex P ts hi=some h') (h:ZAB P t l h' all H K xd=some out):
 ∃a d H' hs c,K a d H' hs c=some out∧Good P o ts all H a d H' hs c:=by
 have hv:=Zo (L:=lk H) hx
 have hl:=Q6 (L:=lk H) hl
 have hh:=Q6 (L:=lk H) hh
 unfold ZAB at h
 split at h
 ·rename_i id v s l0 n
  split at h
  ·rename_i e w s' st e' d hu hd
   obtain ⟨h2,q1,g1⟩:=yc.1 h
   obtain ⟨N,q2,g2⟩:=yc.1 g1
   obtain ⟨h3,g3⟩:=Za g2
   obtain ⟨h4,g4⟩:=Za g3
   clear h g1 g2 g3
   simp only [yg,decide_eq_true_eq] at h4
   subst q1
   refine ⟨_,_,_,_,_,g4,rfl,rfl,.inr (.inl ⟨rfl,rfl,fun rest=> ?_,[0≤l.getD 0,l.getD 0≤h2,l0+h2.toNat≤N],⟨h4.1.1,h4.1.2,h4.2,trivial⟩,fun rest=> ?_⟩)⟩
   ·unfold evN
    rw [ho]
    dsimp only
    rw [hu,hv,hl,hh]
    rfl
   ·unfold evR
    rw [ho]
    dsimp only
    rw [hu,hv,hl,hh]
    dsimp only [TD.er]
    rw [yv,yq]
    dsimp only
    rw [ZP hd]
    dsimp only [TEnt.er]
    rw [q2]
    dsimp only
    rw [if_pos h3]
  ·cases h
 ·cases h
def ZB1 {α β:Type} (o:Option α) (f:α→Option β) (g:Option β):Option β:=
 match o with
 |some a=>f a
 |none=>g
def Zlb (P:Program) (kt:TypeId) (k:Ty):Bool:=Ziv P kt&&(k.flat&&ZyC P 20 kt k)
structure MapE where
 tid:TypeId
 k:Ty
 v:Ty
 l:List (k.den×v.den)
def ZrT (H:List TEnt) (id:Nat):Option MapE:=
 match H[id]? with
 |some (.map tid k v l)=>some ⟨tid,k,v,l⟩
 |_=>none
theorem ZdN {id:Nat} {m:MapE} (h:ZrT H id=some m):H[id]? =some (.map m.tid m.k m.v m.l)∧(erH H)[id]? =some (.map m.tid (kvl m.k.enc m.v.enc m.l)):=by
 unfold ZrT at h
 split at h
 ·rename_i hd
  cases h
  exact ⟨hd,ZP hd⟩
 ·cases h
def ZyH (x:TD) (k:Ty):Option k.den:=x.inner.bind fun y=>TP.to ZfR y k
theorem ZmT {L:Lk} {x:TD} {k:Ty} {y:k.den} (h:ZyH x k=some y):x.er L=.p (k.enc y):=by
 obtain ⟨p,h1,h2⟩:=yc.1 h
 rw [Yx h1,TD.er,ZiL p k y h2]
theorem ZqT {kt:TypeId} {k:Ty} (h:Zlb P kt k=true):∀x y:k.den,k.enc x=k.enc y↔x=y:=by
 simp only [Zlb,yg] at h
 exact fun x y=>⟨ZmN k x y h.2.1,fun e=>by rw [e]⟩
theorem Zc3 {kt:TypeId} {k:Ty} (h:Zlb P kt k=true):∀x:k.den,fitP P 20 kt (k.enc x):=by
 simp only [Zlb,yg] at h
 exact ZmO 20 kt k h.2.2
theorem ZrU {kt:TypeId} {k:Ty} (h:Zlb P kt k=true):Ziv P kt=true:=by
 simp only [Zlb,yg] at h
 exact h.1
def ZrV (P:Program) (t:TypeId):Option TP:=
 match Y5 P t with
 |.p z=>Zwa P t z
 |_=>none
theorem ZiN {t:TypeId} {z:TP} (h:ZrV P t=some z):Y5 P t=.p z.pe:=by
 unfold ZrV at h
 split at h
 ·rename_i y hy
  rw [hy,Zoq h]
 ·cases h
def ZAC (ok:Bool) (d:TD) (b:Bool):TD:=if ok then .tup [d,.p (.v .bool b)] else d
def Zwl (P:Program) (t:TypeId) (all:List TD) (H:List TEnt) (ok:Bool) (K:Kn O) (kd:TypeId→Option TD):TD→Option O
 |.mp id=>match P.underlying t with
  |some (.map kt et)=>(ZrT H id).bind fun m=>(kd kt).bind fun x=>(ZyH x m.k).bind fun key=>(ZrV P et).bind fun z=>
   if (Zlb P kt m.k&&Zka P et)=true then
    ZB1 (@Zv7 m.k.den m.v.den (Ty.deq m.k) m.l key) (fun y=>K all (ZAC ok (.p (.v m.v y)) true) H [.el (m.v.enc y)] 1) (K all (ZAC ok (.p z) false) H [.raw] 1)
   else none
  |_=>none
 |_=>none
theorem Zu7 {L:Lk} {ok:Bool} {d:TD} {b:Bool}:(ZAC ok d b).er L=if ok then .tup [d.er L,.p (.bool b)] else d.er L:=by
 cases ok <;> rfl
theorem Zwm {t:TypeId} {x ix:Operand} {ok:Bool} {xd:TD} (ho:o.op=.lookup t x ix ok) (hx:arT P ts t x=some xd) (h:Zwl P t all H ok K (fun kt=>arT P ts kt ix) xd=some out):
 ∃a d H' hs c,K a d H' hs c=some out∧Good P o ts all H a d H' hs c:=by
 have hv:=Zo (L:=lk H) hx
 unfold Zwl at h
 split at h
 ·rename_i id
  split at h
  ·rename_i kt et hu
   obtain ⟨m,h1,h⟩:=yc.1 h
   obtain ⟨kd,h2,h⟩:=yc.1 h
   obtain ⟨key,h3,h⟩:=yc.1 h
   obtain ⟨z,h4,h⟩:=yc.1 h
   obtain ⟨h5,h⟩:=Za h
   rw [yg] at h5
   obtain ⟨e1,e2⟩:=ZdN h1
   have hk:=Zo (L:=lk H) h2
   rw [ZmT h3] at hk
   have nN:∀hs,evN P o (TD.ers (lk H) ts) hs=none:=fun hs=>by
    unfold evN
    rw [ho]
   letI:=Ty.deq m.k
   unfold ZB1 at h
   split at h
   ·rename_i y hy
    refine ⟨_,_,_,_,_,h,rfl,rfl,.inr (.inl ⟨rfl,rfl,fun _=>nN _,[fitP P 20 kt (m.k.enc key),ZeD P kt (kvl m.k.enc m.v.enc m.l),ZfJ (kvl m.k.enc m.v.enc m.l) (m.k.enc key) (some (m.v.enc y))],
     ⟨Zc3 h5.1 key,Zkg (Zc3 h5.1) _,@ZAj _ _ (Ty.deq m.k) _ _ (ZqT h5.1) _ _ _ hy,trivial⟩,fun rest=> ?_⟩)⟩
    unfold evR
    rw [ho]
    dsimp only
    rw [hu,hv]
    dsimp only [TD.er]
    rw [hk,e2]
    try dsimp only
    rw [yv,yq]
    try dsimp only
    rw [if_pos (ZrU h5.1),Zu7]
    rfl
   ·rename_i hy
    refine ⟨_,_,_,_,_,h,rfl,rfl,.inr (.inl ⟨rfl,rfl,fun _=>nN _,[fitP P 20 kt (m.k.enc key),ZeD P kt (kvl m.k.enc m.v.enc m.l),ZfJ (kvl m.k.enc m.v.enc m.l) (m.k.enc key) none],
     ⟨Zc3 h5.1 key,Zkg (Zc3 h5.1) _,@ZAk _ _ (Ty.deq m.k) _ _ (ZqT h5.1) _ _ (by rw [hy];rfl),trivial⟩,fun rest=> ?_⟩)⟩
    unfold evR
    rw [ho]
    dsimp only
    rw [hu,hv]
    dsimp only [TD.er]
    rw [hk,e2]
    try dsimp only
    rw [yv,yq]
    try dsimp only
    rw [if_pos (by rw [ZrU h5.1,h5.2];rfl),Zu7,ZiN h4]
    rfl
  ·cases h
 ·cases h
def Zwn (P:Program) (t:TypeId) (all:List TD) (H:List TEnt) (K:Kn O):TD→Option O
 |.mp id=>match P.underlying t with
  |some (.map _ _)=>(ZrT H id).bind fun m=>K all (.p (.v (.int .i64) (m.l.length:Int))) H [] 1
  |_=>none
 |_=>none
theorem Zwo {t:TypeId} {x:Operand} {c:Call} {xd:TD} (ho:o.op=.call c) (hc:c.callee=.builtin .len) (ha:c.args.toList=[x]) (ht:c.argTypes.toList=[t]) (hx:arT P ts t x=some xd) (h:Zwn P t all H K xd=some out):
 ∃a d H' hs c,K a d H' hs c=some out∧Good P o ts all H a d H' hs c:=by
 have hv:=Zo (L:=lk H) hx
 unfold Zwn at h
 split at h
 ·rename_i id
  split at h
  ·rename_i kt et hu
   obtain ⟨m,h1,h⟩:=yc.1 h
   obtain ⟨e1,e2⟩:=ZdN h1
   refine ⟨_,_,_,_,_,h,rfl,rfl,.inr (.inl ⟨rfl,rfl,fun rest=> ?_,[],trivial,fun rest=> ?_⟩)⟩
   ·unfold evN
    rw [ho]
    dsimp only
    rw [hc]
    dsimp only
    rw [ha,ht]
    dsimp only
    rw [hu,hv]
   ·unfold evR
    rw [ho]
    dsimp only
    rw [hc]
    dsimp only
    rw [ha,ht]
    dsimp only
    rw [hu,hv]
    dsimp only [TD.er]
    rw [e2]
    simp [TP.pe,Ty.enc,kvl]
  ·cases h
 ·cases h
theorem Za3 {e:TEnt} (h:e.isLog=false):TD.ers (lk (H++[e])) all=TD.ers (lk H) all:=by rw [Zc2 h]
theorem ZyI {T:Ty} {e:TypeId}:TD.ers (lk (H++[.log T e []])) all=TD.ers (lk H) all:=(ers_cont (fun id t=>ZmS id t) all).symm
theorem ZfV {e:TEnt} (h:TD.frees H.length all=true):TD.ers (lk (H++[e])) all=TD.ers (lk H) all:=(ers_free (fun id t hn=>Q7 id t hn) all h).symm
theorem Zdu {T:Ty} {e:TypeId} {l:List T.den}:ZR (lk (H++[.log T e l])) H.length T none=l:=by
 unfold ZR lk
 dsimp only
 rw [List.getElem?_concat_length]
 show (Ty.castL T T l).getD []=l
 unfold Ty.castL
 split
 ·rfl
 ·rename_i h _
  exact absurd rfl h
def ZAD (P:Program) (t:TypeId) (dst:Tmp) (all:List TD) (H:List TEnt) (K:Kn O):TD→Option O
 |.p (.sl (some false) T [])=>match P.underlying t with
  |some (.slice e)=>(P.info? e).bind fun i=>if (zOk i&&i.size !=0&&decide (i.size=T.size))=true then K all (.own H.length none T none) (H++[.log T e []]) [.fresh dst] 2 else none
  |_=>none
 |_=>none
theorem ZyJ {x:Operand} {dst:Tmp} {xd:TD} (ho:o.op=.assign x) (hd:o.dst=some dst) (hx:arT P ts o.type x=some xd) (h:ZAD P o.type dst all H K xd=some out):
 ∃a d H' hs c,K a d H' hs c=some out∧Good P o ts all H a d H' hs c:=by
 have hv:=Zo (L:=lk H) hx
 unfold ZAD at h
 split at h
 ·rename_i T
  split at h
  ·rename_i e hu
   obtain ⟨i,h1,h⟩:=yc.1 h
   obtain ⟨h2,h⟩:=Za h
   simp only [yg,decide_eq_true_eq] at h2
   refine ⟨_,_,_,_,_,h,ZyI,rfl,.inr (.inr ⟨rfl,fun rest=> ?_,fun rest=> ?_,[],trivial,fun rest=> ?_⟩)⟩
   ·unfold evN;rw [ho];rfl
   ·unfold evR;rw [ho]
   ·unfold evE
    rw [ho]
    dsimp only
    rw [yv,yq]
    dsimp only
    rw [if_pos hd,hu,hv,show (TD.p (TP.sl (some false) T [])).er (lk H)=Dv.p (.sl (some false) T.size []) from rfl]
    dsimp only
    rw [h1]
    dsimp only
    rw [if_pos (by simpa using h2.1),Zwk,ZI,TD.er,Zdu,h2.2]
    rfl
  ·cases h
 ·cases h
def ZrW (P:Program) (t:TypeId) (all:List TD) (H:List TEnt) (K:Kn O):Option O:=
 match P.underlying t with
 |some (.map kt et)=>(Zh5 P tyD kt).bind fun k=>(Zh5 P tyD et).bind fun v=>K all (.mp H.length) (H++[.map t k v []]) [] 2
 |_=>none
theorem ZtW {t:TypeId} (ho:o.op=.makeMap t none) (h:ZrW P t all H K=some out):∃a d H' hs c,K a d H' hs c=some out∧Good P o ts all H a d H' hs c:=by
 unfold ZrW at h
 split at h
 ·rename_i kt et hu
  obtain ⟨k,h1,h⟩:=yc.1 h
  obtain ⟨v,h2,h⟩:=yc.1 h
  refine ⟨_,_,_,_,_,h,Za3 rfl,rfl,.inr (.inr ⟨rfl,fun rest=> ?_,fun rest=> ?_,[],trivial,fun rest=> ?_⟩)⟩
  ·unfold evN;rw [ho]
  ·unfold evR;rw [ho]
  ·unfold evE
   rw [ho]
   dsimp only
   rw [ZbJ (Zc2 rfl),ZI]
   rfl
 ·cases h
def Zpr (n:Int) (b:Nat):Bool:=decide (0≤n)&&Zyy n.toNat b
def ZlW (P:Program) (t:TypeId) (own row:Bool) (n n':Int) (all:List TD) (H:List TEnt) (K:Kn O):Option O:=
 match P.underlying t with
 |some (.slice e)=>(P.info? e).bind fun i=>(Zh5 P tyD e).bind fun T=>
  if row then
   if (zOk i&&i.size !=0&&decide (i.size=T.size))=true then if (decide (n=0)&&Zpr n' i.bytes)=true then K all (.rv H.length 0 i.size 0 0) (H++[.row 0 i.size true e (.p (.v (.arr 0 T) []))]) [.arr] 2 else none else none
  else if own then
   if (zOk i&&i.size !=0&&decide (i.size=T.size))=true then if (decide (n=0)&&Zpr n' i.bytes)=true then K all (.own H.length (some true) T none) (H++[.log T e []]) [.own] 2 else none else none
  else (ZrV P e).bind fun z=>(TP.to ZfR z T).bind fun y=>
   if (zOk i&&decide (i.size=1)&&z.pe.size==1&& !z.pe.isAgg&&decide (T.size=1))=true then if (decide (n'=n)&&Zpr n i.bytes)=true then
    K all (.view H.length [] 1 0 n.toNat) (H++[.var (.p (.v (.arr n.toNat T) (yr n.toNat y))) true]) [.raw] 2 else none else none
 |_=>none
theorem Zqc {t:TypeId} {l c:Operand} {n n':Num} {own row:Bool} (ho:o.op=.makeSlice t l c) (hl:(arT P ts 0 l).bind TD.num=some n) (hc:(arT P ts 0 c).bind TD.num=some n') (hk:n.k=.i64) (hk':n'.k=.i64)
 (h:ZlW P t own row n.n n'.n all H K=some out):∃a d H' hs c,K a d H' hs c=some out∧Good P o ts all H a d H' hs c:=by
 obtain ⟨ld,l1,l2⟩:=yc.1 hl
 obtain ⟨cd,c1,c2⟩:=yc.1 hc
 have hv:=Zo (L:=lk H) l1
 have hw:=Zo (L:=lk H) c1
 rw [Zc1 l2,hk] at hv
 rw [Zc1 c2,hk'] at hw
 unfold ZlW at h
 have nN:∀hs,evN P o (TD.ers (lk H) ts) hs=none:=fun hs=>by unfold evN;rw [ho]
 have nR:∀hs,evR P o (TD.ers (lk H) ts) (erH H) hs=none:=fun hs=>by unfold evR;rw [ho]
 split at h
 ·rename_i e hu
  obtain ⟨i,h1,h⟩:=yc.1 h
  obtain ⟨T,h2,h⟩:=yc.1 h
  split at h
  ·obtain ⟨h3,h⟩:=Za h
   obtain ⟨h4,h⟩:=Za h
   simp only [yg,decide_eq_true_eq] at h3
   simp only [Zpr,yg,decide_eq_true_eq] at h4
   obtain ⟨g1,g2⟩:=Q5 h4.2.2
   refine ⟨_,_,_,_,_,h,Za3 rfl,rfl,.inr (.inr ⟨rfl,fun rest=>nN _,fun rest=>nR _,[n.n=0,0≤n'.n,n'.n.toNat*i.bytes≤Zp,n'.n.toNat≤maxLen],⟨h4.1,h4.2.1,g1,g2,trivial⟩,fun rest=> ?_⟩)⟩
   unfold evE
   rw [ho]
   dsimp only
   rw [hu,hv,hw]
   dsimp only
   rw [h1,yv,yq]
   dsimp only
   rw [if_pos (by simpa using h3.1),ZbJ (Zc2 rfl),ZI]
   simp only [TEnt.er,TD.er,TP.pe,Zv8,h3.2]
   rfl
  split at h
  ·obtain ⟨h3,h⟩:=Za h
   obtain ⟨h4,h⟩:=Za h
   simp only [yg,decide_eq_true_eq] at h3
   simp only [Zpr,yg,decide_eq_true_eq] at h4
   obtain ⟨g1,g2⟩:=Q5 h4.2.2
   refine ⟨_,_,_,_,_,h,ZyI,rfl,.inr (.inr ⟨rfl,fun rest=>nN _,fun rest=>nR _,[n.n=0,0≤n'.n,n'.n.toNat*i.bytes≤Zp,n'.n.toNat≤maxLen],⟨h4.1,h4.2.1,g1,g2,trivial⟩,fun rest=> ?_⟩)⟩
   unfold evE
   rw [ho]
   dsimp only
   rw [hu,hv,hw]
   dsimp only
   rw [h1,yv,yq]
   dsimp only
   rw [if_pos (by simpa using h3.1),Zwk,ZI,TD.er,Zdu,h3.2]
   rfl
  ·obtain ⟨z,z1,h⟩:=yc.1 h
   obtain ⟨y,z2,h⟩:=yc.1 h
   obtain ⟨h3,h⟩:=Za h
   obtain ⟨h4,h⟩:=Za h
   simp only [yg,decide_eq_true_eq,beq_iff_eq] at h3
   simp only [Zpr,yg,decide_eq_true_eq] at h4
   obtain ⟨g1,g2⟩:=Q5 h4.2.2
   refine ⟨_,_,_,_,_,h,Za3 rfl,rfl,.inr (.inr ⟨rfl,fun rest=>nN _,fun rest=>nR _,[n'.n=n.n,0≤n.n,n.n.toNat*i.bytes≤Zp,n.n.toNat≤maxLen],⟨h4.1,h4.2.1,g1,g2,trivial⟩,fun rest=> ?_⟩)⟩
   unfold evE
   rw [ho]
   dsimp only
   rw [hu,hv,hw]
   dsimp only
   rw [h1,yv,yq]
   dsimp only
   rw [ZiN z1]
   dsimp only
   rw [if_pos (by simp only [yg,decide_eq_true_eq];exact h3.1),ZbJ (Zc2 rfl),ZI,ZiL z T y z2]
   simp only [TEnt.er,TD.er,TP.pe,XO,List.map_nil,List.foldl_nil]
   congr 5
   show _=[Ent.var (Dv.p (Pl.arr n.n.toNat T.size (List.map T.enc (yr n.n.toNat y)))) true]
   rw [List.map_replicate,h3.2]
 ·cases h
end
end Go.Ev
end
