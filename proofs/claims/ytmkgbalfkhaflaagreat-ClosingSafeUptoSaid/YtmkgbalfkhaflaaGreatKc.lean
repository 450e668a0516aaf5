/- Parts of the proof, in one file. -/
import Derived.Test.YtmkgbalfkhaflaaGreatKb
open Array renaming getElem?_eq_getElem → ycn, getElem?_eq_some_iff → ydb
open Bool renaming and_eq_true → yj, or_eq_true → yce, eq_iff_iff → yck
open Go renaming TypeId → yb, Program → yg, Value → yh, Operand → yo, FuncId → yv
open List renaming length_append → yp, getElem?_eq_some_iff → yr, range → yw, nil_append → yx, replicate → yy, length_map → yz, cons_append → yaa, getElem?_eq_getElem → yac, map_cons → yaf, append_assoc → yaj, getElem?_map → yal, getElem?_append_left → yan, getElem?_eq_none → yao, getElem?_cons_succ → yap, getElem?_cons_zero → yas, getElem?_append_right → yat, map_append → yax, map_map → ybc, all_eq_true → ybd, eq_nil_of_length_eq_zero → ybk, take_append_drop → ybn, map_set → ybo, getElem?_set → ybw, map_congr_left → ycj, length_replicate → ycp, take_of_length_le → ycv
open Nat renaming le_refl → yn, mod_eq_of_lt → yah, add_assoc → ycg, lt_of_le_of_lt → ycu
open Option renaming bind_eq_some_iff → yf, map_eq_some_iff → yq, map_some → yab
open Option.some renaming injEq → yi, inj → ybm
open Prod.mk renaming injEq → yl
open UInt32 renaming ofNat → ybs, toNat_ofNat' → yco
open UInt64 renaming ofNat → yad, toNat_ofNat' → yba, toNat_lt → ybr, toNat_inj → ycf
open UInt8 renaming ofNat → yau
set_option linter.unusedVariables false
set_option linter.unusedSimpArgs false
section
namespace Go.Ev
def ZtJ(ts:List Dv)(l:List (Option Tmp×Dv)):List Dv:=l.foldl (λts q=>Zjw ts q.1 q.2) ts
section
variable{P:yg}{ops:Array Oper}
theorem ZxG:∀(l:List Oper)(ts:List Dv)(H:List Ent)(hs:List Hint)(C:List Prop)(rs:List Rec)(ts':List Dv)(H':List Ent)(hs':List Hint),evD P ops l ts H hs=some (C,rs,ts',H',hs')→AllP C→
 rs.length=l.length∧ts'=ZtJ ts ((l.zip rs).map λq=>(q.1.dst,q.2.d))∧(l=[]→H'=H)∧
 ∀(i:Nat)(o:Oper),l[i]? =some o→∃r,rs[i]? =some r∧AllP r.C∧evG P ops o (ZU (looks ops o) 0 (ZtJ ts (((l.zip rs).take i).map λq=>(q.1.dst,q.2.d)))) r.H r.hs=some (r.C,r.d,r.H',r.hs')∧
  r.cls=clsOf P o (ZU (looks ops o) 0 (ZtJ ts (((l.zip rs).take i).map λq=>(q.1.dst,q.2.d)))) r.H r.hs∧
  (r.rd=ZCp P o (ZU (looks ops o) 0 (ZtJ ts (((l.zip rs).take i).map λq=>(q.1.dst,q.2.d))))∧r.tc=Zvw P o (ZU (looks ops o) 0 (ZtJ ts (((l.zip rs).take i).map λq=>(q.1.dst,q.2.d)))) r.hs∧r.push=Zh7 o∧r.loc=Zna o r.hs)∧(i=0→r.H=H)∧(∀r2,rs[i+1]? =some r2→r2.H=r.H')∧(i+1=l.length→H'=r.H')
 |[],ts,H,hs,C,rs,ts',H',hs',h,hc=>by
  simp only[evD,yi,yl] at h;obtain⟨rfl,rfl,rfl,rfl,rfl⟩:=h
  exact⟨rfl,rfl,λ_=>rfl,λi o hi=>by simp at hi⟩
 |o::l,ts,H,hs,C,rs,ts',H',hs',h,hc=>by
  simp only[evD] at h;split at h
  ·rename_i C1 d1 H1 hs1 h1;split at h
   ·rename_i C2 rs2 ts2 H2 hs2 h2;simp only[yi,yl] at h;obtain⟨rfl,rfl,rfl,rfl,rfl⟩:=h;obtain⟨c1,c2⟩:=Zj.1 hc;obtain⟨k1,k2,k3,k4⟩:=ZxG l _ _ _ _ _ _ _ _ h2 c2;refine⟨by simp[k1],by rw[k2];rfl,by simp,λi o' hi=> ?_⟩
    cases i with
    |zero=>
     simp only[yas,yi] at hi;subst hi;refine⟨_,rfl,c1,h1,rfl,⟨rfl,rfl,rfl,rfl⟩,λ_=>rfl,λr2 hr2=> ?_,λhl=> ?_⟩
     ·simp only[yap] at hr2
      cases l with
      |nil=>
       have:rs2=[]:=ybk (by simpa using k1);subst this
       simp at hr2
      |cons o2 l2=>
       obtain⟨r,j1,_,_,_,_,j2,_⟩:=k4 0 o2 rfl;rw[hr2] at j1;cases j1;exact j2 rfl
     ·have:l=[]:=ybk (by simpa using hl.symm)
      exact k3 this
    |succ i=>
     simp only[yap] at hi;obtain⟨r,j1,j2,j3,j4,j45,j5,j6,j7⟩:=k4 i o' hi;refine⟨r,by simpa using j1,j2,j3,j4,j45,λh0=>by omega,λr2 hr2=>j6 r2 (by simpa using hr2),λhl=>j7 (by simpa using hl)⟩
   ·cases h
  ·cases h
theorem ZCO(ts:List Dv)(l:List (Option Tmp×Dv))(q:Option Tmp×Dv):ZtJ ts (l++[q])=Zjw (ZtJ ts l) q.1 q.2:=by simp[ZtJ]
def unl(X:Nat→Bool):Nat→Nat
 |0=>0
 |k+1=>unl X k+(if X k then 0 else 1)
theorem ZA0{X:Nat→Bool}:∀{k:Nat},unl X k=0→∀j,j < k→X j=true
 |0,_,j,h=>by omega
 |k+1,h,j,hj=>by
  simp only[unl] at h;by_cases hk:j=k
  ·subst hk
   cases hx:X j with
   |true=>rfl
   |false=>simp[hx] at h
  ·exact ZA0 (k:=k) (by omega) j (by omega)
theorem ZD9{X:Nat→Bool}:∀{k:Nat},unl X k≤k
 |0=>yn _
 |k+1=>by
  have:=ZD9 (X:=X) (k:=k);simp only[unl];split <;> omega
theorem ZxH{X Y:Nat→Bool}:∀{k:Nat},(∀j,j < k→Y j=X j)→unl Y k=unl X k
 |0,_=>rfl
 |k+1,h=>by
  simp only[unl];rw[ZxH (k:=k) (λj hj=>h j (by omega)),h k (by omega)]
theorem ZxI{X Y:Nat→Bool}{i:Nat}(hi:X i=false):∀{k:Nat},i < k→(∀j,j < k→Y j=(X j || decide (j=i)))→unl Y k+1=unl X k
 |0,h,_=>by omega
 |k+1,h,hY=>by
  simp only[unl];by_cases hk:i=k
  ·subst hk
   rw[ZxH (X:=X) (Y:=Y) (λj hj=>by
    rw[hY j (by omega)];have:¬j=i:=by omega
    simp[this]),hY i (by omega),hi]
   simp
  ·have:=ZxI hi (k:=k) (by omega) (λj hj=>hY j (by omega));have hne:¬k=i:=λh=>hk h.symm;rw[hY k (by omega)];simp only[hne,decide_false,Bool.or_false];omega
theorem ZrV:∀(l:List Oper)(i:Nat),Zhq l i=true→∀(j:Nat)(o:Oper),l[j]? =some o→∀e,e∈o.after→Region.binds .any e=true→e.on < i+j
 |[],i,_,j,o,ho,_,_,_=>by simp at ho
 |o::l,i,h,j,o',ho,e,he,hb=>by
  simp only[Zhq,yj,ybd] at h
  cases j with
  |zero=>
   simp only[yas,yi] at ho;subst ho;have:=h.1 e (by simpa using he)
   simpa[hb] using this
  |succ j=>
   simp only[yap] at ho;have:=ZrV l (i+1) h.2 j o' ho e he hb;omega
theorem Znp(keep:List Nat):∀(l:List Dv)(k:Nat),(ZU keep k l).length=l.length
 |[],k=>rfl
 |x::l,k=>by simp[ZU,Znp keep l]
theorem ZIl{σ:Sg}{a:Act}{ts ms:List Dv}{dst:Option Tmp}{d:Dv}{v:yh}(hl:ms.length=ts.length)(h1:RepT σ ts a)(h2:RepT σ (Zjw ms dst d) (a.put dst v)):RepT σ (Zjw ts dst d) (a.put dst v):=by
 unfold Zjw Act.put at*
 cases dst with
 |none=>exact h1
 |some t=>
  refine⟨by simpa using h1.size,λi e hi=> ?_,h1.defers⟩;by_cases hit:t=i
  ·subst hit;refine h2.at_ t e ?_;simp only[ybw] at hi ⊢;rw[hl];exact hi
  ·rw[ybw,if_neg hit] at hi;have:=h1.at_ i e hi;simpa[Array.getD_eq_getD_getElem?,Array.getElem?_setIfInBounds,hit] using this
theorem ZvJ{σ:Sg}{a:Act}{ts:List Dv}{hs hs':List Hint}{C:List Prop}{ts':List Dv}{H':List Ent}{id:Nat}(ok:Ok σ)(hrep:RepT σ ts a)(h:Zvy P ops ts σ.H hs=some (C,ts',H',hs'))(hc:AllP C)
 (Q:Exit→Act→World→Prop) (hQ:∀a' σ',σ'.H=H'→To σ σ'→Ok σ'→RepT σ' ts' a'→Q .normal a' σ'.w):(Code.region id ops true).wp P Q a σ.w:=by
 unfold Zvy at h;split at h
 ·rename_i hm;split at h
  ·rename_i C1 rs ts1 H1 hs1 hev;split at h
   ·rename_i hdr;simp only[yi,yl] at h;obtain⟨rfl,rfl,rfl,rfl⟩:=h;obtain⟨hlen,hts',hnil,hspec⟩:=ZxG _ _ _ _ _ _ _ _ _ hev hc;let n:=ops.size;let dst:Nat→Option Tmp:=λi=>Zhr ops.toList i;let D:Nat→Dv:=λi=>((rs[i]?).map (·.d)).getD .junk;let cls:Nat→Nat:=λi=>(rs.map (·.cls)).getD i 0;let A:List Nat:=ZDO ops.toList;have hn:ops.toList.length=n:=by simp[n]
    have hrl:rs.length=n:=by rw[hlen,hn]
    unfold Zvx at hdr;simp only[yj] at hdr;obtain⟨⟨⟨⟨⟨_,hback⟩,hanc⟩,huniq⟩,hlook⟩,hcls⟩:=hdr;have hopl:∀(i:Nat),ops.toList[i]? =ops[i]? :=λi=>by simp
    have hA:∀i o,ops[i]? =some o→A.getD i 0=Zh8 A i o:=by
     intro i o ho;have hi:i < n:=(ydb.1 ho).1;have:=ybd.1 hanc i (List.mem_range.2 (by rw[hn];exact hi));rw[hopl,ho] at this;simpa using this
    have hu:∀i j,i < n→j < n→dst i≠none→dst i=dst j→i=j:=by
     intro i j hi hj h1 h2;have:=ybd.1 (ybd.1 huniq i (List.mem_range.2 (by rw[hn];exact hi))) j (List.mem_range.2 (by rw[hn];exact hj));simp only[yce,beq_iff_eq,Bool.not_eq_true',beq_eq_false_iff_ne,ne_eq] at this;rcases this with(h3|h3)|h3
     ·exact h3
     ·exact absurd h3 h1
     ·exact absurd h2 h3
    have hL:∀i o j t,ops[i]? =some o→j < n→dst j=some t→t∈looks ops o→i≠j→(if j < i then(A.getD i 0).testBit j else(A.getD j 0).testBit i)=true:=by
     intro i o j t ho hj hd ht hne;have hi:i < n:=(ydb.1 ho).1;have h1:=ybd.1 hlook i (List.mem_range.2 (by rw[hn];exact hi));rw[hopl,ho] at h1;have h2:=ybd.1 h1 j (List.mem_range.2 (by rw[hn];exact hj));have hd':Zhr ops.toList j=some t:=hd;rw[hd'] at h2;have hk:(looks ops o).contains t=true:=by simpa using ht
     simp only[hk,yce,beq_iff_eq,Bool.not_true,Bool.or_false] at h2;rcases h2 with h2|h2
     ·exact absurd h2 hne
     ·exact h2
    obtain⟨c0,_,hcls⟩:=List.any_eq_true.1 hcls
    have hE0:∀i j,i < n→j < n→cls i≠0→cls j=2→i≠j→(if j < i then(A.getD i 0).testBit j else(A.getD j 0).testBit i)=true∨(cls i=1∧ZjO rs i j=true)∨ZgW rs c0 i j=true:=by
     intro i j hi hj h1 h2 hne;have h3:=ybd.1 hcls i (List.mem_range.2 (by rw[hn];exact hi));simp only[yce,beq_iff_eq] at h3;rcases h3 with h3|h3
     ·exact absurd h3 h1
     ·have h4:=ybd.1 h3 j (List.mem_range.2 (by rw[hn];exact hj));have h2':(List.map (λx=>x.cls) rs).getD j 0=2:=h2;rw[h2'] at h4;simp only[yce,yj,beq_iff_eq,beq_self_eq_true,Bool.not_true] at h4;rcases h4 with((h4|h4)|h4)|h4
      ·exfalso;rcases h4 with h4|h4
       ·exact hne h4
       ·cases h4
      ·exact .inl h4
      ·exact .inr (.inl h4)
      ·exact .inr (.inr h4)
    have hTS:∀i,i≤n→ZtJ ts (((ops.toList.zip rs).take i).map λq=>(q.1.dst,q.2.d))=tsX n dst D ts (λj=>decide (j < i)):=by
     intro i
     induction i with
     |zero=>
      intro _;rw[Zuv (λj _=>by simp)]
      simp[ZtJ]
     |succ i ih=>
      intro hi;have h1:i < ops.toList.length:=by rw[hn];omega
      have h2:i < rs.length:=by rw[hrl];omega
      have hz:(ops.toList.zip rs)[i]? =some (ops.toList[i],rs[i]):=by
       rw[List.getElem?_zip_eq_some];exact⟨yac h1,yac h2⟩
      rw[List.take_add_one,hz];simp only[Option.toList_some,yax,yaf,List.map_nil];rw[ZCO,ih (by omega)];have hd:ops.toList[i].dst=dst i:=by show _=Zhr ops.toList i;unfold Zhr;rw[yac h1];rfl
      have hD:rs[i].d=D i:=by simp[D,yac h2]
      rw[hd,hD]
      exact ZAZ hu (by omega) (by simp) (λj _=>by
       by_cases hj:j < i <;> by_cases hj2:j=i <;> simp[hj,hj2] <;> omega)
    have hspec':∀(i:Nat)(o:Oper),ops[i]? =some o→∃r,rs[i]? =some r∧AllP r.C∧evG P ops o (ZU (looks ops o) 0 (tsX n dst D ts (λj=>decide (j < i)))) r.H r.hs=some (r.C,r.d,r.H',r.hs')∧
     r.cls=clsOf P o (ZU (looks ops o) 0 (tsX n dst D ts (λj=>decide (j < i)))) r.H r.hs∧
     (r.rd=ZCp P o (ZU (looks ops o) 0 (tsX n dst D ts (λj=>decide (j < i))))∧r.tc=Zvw P o (ZU (looks ops o) 0 (tsX n dst D ts (λj=>decide (j < i)))) r.hs∧r.push=Zh7 o∧r.loc=Zna o r.hs)∧(i=0→r.H=σ.H)∧(∀r2,rs[i+1]? =some r2→r2.H=r.H')∧(i+1=n→H1=r.H'):=by
     intro i o ho;have hi:i < n:=(ydb.1 ho).1;obtain⟨r,k1,k2,k3,k4,k45,k5,k6,k7⟩:=hspec i o (by rw[hopl];exact ho);rw[hTS i (by omega)] at k3 k4 k45;exact⟨r,k1,k2,k3,k4,k45,k5,k6,λhl=>k7 (by rw[hn];exact hl)⟩
    let HH:Nat→List Ent:=λi=>if i < n then((rs[i]?).map (·.H)).getD [] else H1
    have hHH:∀i r,rs[i]? =some r→HH i=r.H∧HH (i+1)=r.H':=by
     intro i r hr;have hi:i < n:=by rw[←hrl];exact(yr.1 hr).1
     have hio:ops[i]? =some ops[i]:=ycn hi;obtain⟨r',k1,_,_,_,_,_,k6,k7⟩:=hspec' i _ hio;rw[hr] at k1;cases k1;refine⟨by simp[HH,hi,hr], ?_⟩;by_cases h2:i+1 < n
     ·have h3:i+1 < rs.length:=by rw[hrl];exact h2
      have h4:=yac h3;simp only[HH,h2,if_true,h4,yab,Option.getD_some];exact k6 _ h4
     ·simp only[HH,h2,if_false];exact k7 (by omega)
    have hcl:∀i r,rs[i]? =some r→cls i=r.cls:=by
     intro i r hr;simp[cls,List.getD,hr]
    have hstay:∀i,i < n→cls i≠2→HH (i+1)=HH i:=by
     intro i hi h2;have hio:ops[i]? =some ops[i]:=ycn hi;obtain⟨r,k1,_,k3,k4,_⟩:=hspec' i _ hio;rw[(hHH i r k1).1,(hHH i r k1).2];exact ZD5 k3 (by rw[←k4, ←hcl i r k1];exact h2)
    have hlev:∀(i k:Nat),i+k≤n→(∀e,i≤e→e < i+k→cls e≠2)→HH (i+k)=HH i:=by
     intro i k
     induction k with
     |zero=>intro _ _;rfl
     |succ k ih=>
      intro hk he;rw[←ycg,hstay (i+k) (by omega) (he _ (by omega) (by omega)),ih (by omega) (λe h1 h2=>he e h1 (by omega))]
    let Lev:(Nat→Bool)→Nat→Prop:=λX i=>i≤n∧∀e,e < n→cls e=2→(X e=true↔e < i)
    have hsameLev:∀(X:Nat→Bool)(i k:Nat),Lev X i→Lev X k→HH i=HH k:=by
     have main:∀(X:Nat→Bool)(i k:Nat),i≤k→Lev X i→Lev X k→HH i=HH k:=by
      intro X i k hik h1 h2
      have:=hlev i (k - i) (by have:=h2.1;omega) (λe he1 he2 hce=>by
       have hen:e < n:=by have:=h2.1;omega
       have h3:=(h1.2 e hen hce);have h4:=(h2.2 e hen hce);have:X e=true:=h4.2 (by omega);have:=h3.1 this;omega)
      rw[←this];congr 1;omega
     intro X i k h1 h2;rcases Nat.le_total i k with h3|h3
     ·exact main X i k h3 h1 h2
     ·exact(main X k i h3 h2 h1).symm
    have hcle:∀i,i < n→cls i≤2:=by
     intro i hi;obtain⟨r,k1,_,k3,k4,_⟩:=hspec' i _ (ycn hi);rw[hcl i r k1,k4];exact ZD8
    have hpsh:∀i r,rs[i]? =some r→r.push=true→cls i=2∧∃E,HH (i+1)=HH i++E∧∀o,ops[i]? =some o→∀H2,H2.length=(HH i).length→evG P ops o (ZU (looks ops o) 0 (tsX n dst D ts (λj=>decide (j < i)))) H2 r.hs=some (r.C,r.d,H2++E,r.hs'):=by
     intro i r hr hp;have hi:i < n:=by rw[←hrl];exact(yr.1 hr).1
     have hio:ops[i]? =some ops[i]:=ycn hi;obtain⟨r',k1,_,k3,k4,k45,_⟩:=hspec' i _ hio;rw[hr] at k1;cases k1;rw[k45.2.2.1] at hp;obtain⟨q1,E,q2,_⟩:=ZxE (H2:=r.H) k3 hp rfl;refine⟨by rw[hcl i r hr,k4,q1],E,by rw[(hHH i r hr).1,(hHH i r hr).2,q2],λo ho H2 hl=> ?_⟩;rw[hio] at ho;cases ho;obtain⟨_,E2,q3,q4⟩:=ZxE (H2:=H2) k3 hp (by rw[hl,(hHH i r hr).1]);rw[q2] at q3;rw[List.append_cancel_left q3];exact q4
    have hlocc:∀i r,rs[i]? =some r→r.loc=true→cls i≠1∧(HH (i+1)).length=(HH i).length∧∀o,ops[i]? =some o→∀E,evG P ops o (ZU (looks ops o) 0 (tsX n dst D ts (λj=>decide (j < i)))) (HH i++E) r.hs=some (r.C,r.d,HH (i+1)++E,r.hs'):=by
     intro i r hr hp;have hi:i < n:=by rw[←hrl];exact(yr.1 hr).1
     have hio:ops[i]? =some ops[i]:=ycn hi;obtain⟨r',k1,_,k3,k4,k45,_⟩:=hspec' i _ hio;rw[hr] at k1;cases k1;rw[k45.2.2.2] at hp;obtain⟨q1,q2,q3⟩:=ZGD k3 hp;refine⟨by rw[hcl i r hr,k4];exact q1,by rw[(hHH i r hr).1,(hHH i r hr).2,q2],λo ho E=> ?_⟩;rw[hio] at ho;cases ho;rw[(hHH i r hr).1,(hHH i r hr).2];exact q3 E
    let Psh:Nat→Prop:=λi=>∃r,rs[i]? =some r∧r.push=true;let Loc:Nat→Prop:=λi=>∃r,rs[i]? =some r∧r.loc=true;let Pu:Nat→Prop:=λi=>∃r,rs[i]? =some r∧r.push=true∧r.H'.length=r.H.length+1∧∀k q,k < i→rs[k]? =some q→q.H.length≤r.H.length
    have hcomm:∀i j,ZgW rs c0 i j=true→(Loc c0∨Pu c0)∧((i=c0∧c0 < j∧Psh j)∨(j=c0∧c0 < i∧Psh i)):=by
     intro i j h
     have hget:∀(f:Rec→Bool)(k:Nat),((rs[k]?).map f).getD false=true→∃r,rs[k]? =some r∧f r=true:=by
      intro f k hk
      cases hr:rs[k]? with
      |none=>rw[hr] at hk;cases hk
      |some r=>rw[hr] at hk;exact⟨r,rfl,hk⟩
     unfold ZgW at h;simp only[yj,yce,beq_iff_eq,decide_eq_true_eq] at h;obtain⟨h1,h2⟩:=h;refine⟨?_, ?_⟩
     ·obtain⟨r,q1,q2⟩:=hget _ _ h1;unfold cOk at q2;simp only[yce,yj,beq_iff_eq,ybd,decide_eq_true_eq] at q2;rcases q2 with q2|⟨⟨q2,q3⟩,q4⟩
      ·exact .inl ⟨r,q1,q2⟩
      ·refine .inr ⟨r,q1,q2,q3,λk q hk hq=>q4 q ?_⟩;rw[List.mem_iff_getElem?];exact⟨k,by rw[List.getElem?_take,if_pos hk];exact hq⟩
     rcases h2 with⟨⟨h3,h4⟩,h5⟩|⟨⟨h3,h4⟩,h5⟩
     ·exact .inl ⟨h3,h4,hget _ _ h5⟩
     ·exact .inr ⟨h3,h4,hget _ _ h5⟩
    let CG:List Ent→Prop:=λG=>(Loc c0∧G=[])∨(Pu c0∧G=[.gone])
    have hGl:∀G,CG G→(HH (c0+1)).length=(HH c0).length+G.length:=by
     rintro G (⟨⟨r,q1,q2⟩,rfl⟩|⟨⟨r,q1,_,q2,_⟩,rfl⟩)
     ·rw[(hlocc c0 r q1 q2).2.1];rfl
     ·rw[(hHH c0 r q1).1,(hHH c0 r q1).2,q2];rfl
    let Hole:(Nat→Bool)→List Ent→Prop:=λX Hc=>∃lv e0 E G,c0 < n∧CG G∧cls c0=2∧lv≤n∧X c0=false∧(∀e,e < n→cls e=2→(X e=true↔e < lv∧e≠c0))∧(c0 < e0∧e0 < lv∧cls e0=2∧HH e0=HH (c0+1))∧
     (∀e,c0 < e→e < lv→cls e=2→Psh e)∧Hc=HH c0++(G++E)∧HH lv=HH (c0+1)++E
    let Inv:(Nat→Bool)→List Ent→Prop:=λX Hc=>(∃i,Lev X i∧Hc=HH i)∨Hole X Hc;refine wp_region_any hm ?_
    have walk:∀(fuel:Nat)(listed:Array Bool)(a:Act)(σ1:Sg),listed.size=n→unl (λj=>listed.getD j false) n≤fuel→ZD2 ops (λj=>listed.getD j false)→To σ σ1→Ok σ1→
     RepT σ1 (tsX n dst D ts (λj=>listed.getD j false)) a→Inv (λj=>listed.getD j false) σ1.H→wpAny P .any ops Q fuel listed a σ1.w:=by
     intro fuel
     induction fuel with
     |zero=>
      intro listed a σ1 hsz hun hcl1 to1 ok1 hrep1 hlv;have hall:=ZA0 (Nat.le_zero.1 hun);refine⟨?_, ?_⟩
      ·apply List.eq_nil_iff_forall_not_mem.2;intro j hj;obtain⟨h1,o,ho,_⟩:=mem_ready.1 hj;have hjn:j < n:=(ydb.1 ho).1;have h2:=hall j hjn;have hjs:j < listed.size:=by omega
       simp only[Array.getD,hjs,dif_pos] at h1 h2;rw[h1] at h2;cases h2
      ·rcases hlv with⟨i,hi,hH⟩|⟨lv,e0,E,G,g1,_,_,_,g2,_⟩
       case inr=>exact absurd ((hall c0 g1).symm.trans g2) (by simp)
       have hln:Lev (λj=>listed.getD j false) n:=⟨yn _,λe he _=>⟨λ_=>he,λ_=>hall e he⟩⟩;refine hQ a σ1 ?_ to1 ok1 ?_
       ·rw[hH,hsameLev _ i n hi hln];simp[HH]
       ·have:ts1=tsX n dst D ts (λj=>listed.getD j false):=by
         have e1:=hTS n (yn _);rw[ycv (by rw[List.length_zip,hn,hrl];simp)] at e1;rw[hts',e1];apply List.ext_getElem?;intro t;by_cases ht:t < ts.length
         ·rw[ZcI ht,ZcI ht];congr 1;by_cases hex:∃j,j < n∧dst j=some t
          ·obtain⟨j,h1,h2⟩:=hex;rw[Za9 hu h1 (by simpa using h1) h2,Za9 hu h1 (hall j h1) h2]
          ·rw[Zba (λj h1 _ h3=>hex ⟨j,h1,h3⟩),Zba (λj h1 _ h3=>hex ⟨j,h1,h3⟩)]
         ·rw[yao (by rw[Wg];omega),yao (by rw[Wg];omega)]
        rw[this]
        exact hrep1
     |succ fuel ih=>
      intro listed a σ1 hsz hun hcl1 to1 ok1 hrep1 hlv;refine⟨λhr=> ?_,λi hi=> ?_⟩
      ·
       have hall:∀j,j < n→listed.getD j false=true:=by
        intro j
        induction j using Nat.strongRecOn with
        |_ j ihj=>
         intro hj
         cases hx:listed.getD j false with
         |true=>rfl
         |false=>
          have hjs:j < listed.size:=by omega
          have hjo:ops[j]? =some ops[j]:=ycn hj
          have:j∈Region.ready .any ops listed:=by
           refine mem_ready.2 ⟨?_,ops[j],hjo,λe he hb=> ?_⟩
           ·simp only[Array.getD,hjs,dif_pos] at hx ⊢;exact hx
           ·have hlt:=ZrV ops.toList 0 hback j ops[j] (by rw[hopl];exact hjo) e he hb;exact ihj e.on (by omega) (by omega)
          rw[hr] at this;cases this
       rcases hlv with⟨i,hi,hH⟩|⟨lv,e0,E,G,g1,_,_,_,g2,_⟩
       case inr=>exact absurd ((hall c0 g1).symm.trans g2) (by simp)
       have hln:Lev (λj=>listed.getD j false) n:=⟨yn _,λe he _=>⟨λ_=>he,λ_=>hall e he⟩⟩;refine hQ a σ1 ?_ to1 ok1 ?_
       ·rw[hH,hsameLev _ i n hi hln];simp[HH]
       ·have:ts1=tsX n dst D ts (λj=>listed.getD j false):=by
         have e1:=hTS n (yn _);rw[ycv (by rw[List.length_zip,hn,hrl];simp)] at e1;rw[hts',e1];apply List.ext_getElem?;intro t;by_cases ht:t < ts.length
         ·rw[ZcI ht,ZcI ht];congr 1;by_cases hex:∃j,j < n∧dst j=some t
          ·obtain⟨j,h1,h2⟩:=hex;rw[Za9 hu h1 (by simpa using h1) h2,Za9 hu h1 (hall j h1) h2]
          ·rw[Zba (λj h1 _ h3=>hex ⟨j,h1,h3⟩),Zba (λj h1 _ h3=>hex ⟨j,h1,h3⟩)]
         ·rw[yao (by rw[Wg];omega),yao (by rw[Wg];omega)]
        rw[this];exact hrep1
      ·
       obtain⟨h1,o,ho,hedge⟩:=mem_ready.1 hi;have hin:i < n:=(ydb.1 ho).1;have his:i < listed.size:=by omega
       let X:Nat→Bool:=λj=>listed.getD j false
       have hXi:X i=false:=by
        simp only[X,Array.getD,his,dif_pos] at h1 ⊢;exact h1
       have hancL:∀j,(A.getD i 0).testBit j=true→X j=true:=by
        intro j hj;rw[hA i o ho] at hj;unfold Zh8 at hj;rcases ZoQ A i j _ _ hj with h|⟨e,e1,e2,e3,e4⟩
        ·simp at h
        ·have he:=hedge e (by simpa using e1) e2;rcases e4 with e4|e4
         ·rw[←e4];exact he
         ·exact ZrT hcl1 hA e.on ⟨ops[e.on],ycn (by omega)⟩ he j e4
       have hancR:∀j,j < n→X j=true→(A.getD j 0).testBit i=true→False:=by
        intro j hj hx hb;have:=ZrT hcl1 hA j ⟨ops[j],ycn hj⟩ hx i hb;have hXi':(listed.getD i false)=false:=hXi;rw[hXi'] at this;cases this
       obtain⟨r,k1,k2,k3,k4,k45,_,_,_⟩:=hspec' i o ho
       have hmask:ZU (looks ops o) 0 (tsX n dst D ts X)=ZU (looks ops o) 0 (tsX n dst D ts (λj=>decide (j < i))):=by
        refine ZCM hu (λj t hj hd ht=> ?_);by_cases hij:i=j
        ·subst hij;rw[hXi];simp
        ·have:=hL i o j t ho hj hd ht hij;split at this
         ·rename_i hlt;rw[hancL j this];simp[hlt]
         ·rename_i hge
          have hxf:X j=false:=by
           cases hx:X j with
           |false=>rfl
           |true=>exact(hancR j hj hx this).elim
          rw[hxf];simp[hge]
       have hXi2:X i=false:=hXi
       have hgetset:∀j,(listed.setIfInBounds i true).getD j false=(X j || decide (j=i)):=by
        intro j;by_cases hji:j=i
        ·subst hji;simp[Array.getD,his]
        ·simp only[X,Array.getD_eq_getD_getElem?,Array.getElem?_setIfInBounds,hji,decide_false,Bool.or_false];rw[if_neg (λh=>hji h.symm)]
       have hord:∀e,e < n→cls i≠0→cls e=2→i≠e→¬(cls i=1∧ZjO rs i e=true)→¬ZgW rs c0 i e=true→(X e=true↔e < i):=by
        intro e he h0 hce hie hf hcm;rcases hE0 i e hin he h0 hce hie with h3|h3|h3
        ·split at h3
         ·rename_i hlt;exact⟨λ_=>hlt,λ_=>hancL e h3⟩
         ·rename_i hge;exact⟨λhx=>(hancR e he hx h3).elim,λh=>absurd h hge⟩
        ·exact absurd h3 hf
        ·exact absurd h3 hcm
       have hkeep:cls i≠2→Inv (λj=>(listed.setIfInBounds i true).getD j false) σ1.H:=by
        intro h2
        have hX':∀e,cls e=2→((listed.setIfInBounds i true).getD e false=true↔X e=true):=by
         intro e hce
         have hne:¬e=i:=by
          rintro rfl;exact h2 hce
         rw[hgetset e];simp only[hne,decide_false,Bool.or_false]
        rcases hlv with⟨lv,hlv1,hlv2⟩|⟨lv,e0,E,G,g1,g2,g3,g4,g5,g6,g7,g8,g9,g10⟩
        ·exact .inl ⟨lv,⟨hlv1.1,λe he hce=>(hX' e hce).trans (hlv1.2 e he hce)⟩,hlv2⟩
        ·refine .inr ⟨lv,e0,E,G,g1,g2,g3,g4, ?_,λe he hce=>(hX' e hce).trans (g6 e he hce),g7,g8,g9,g10⟩;have:=hX' c0 g3;show(listed.setIfInBounds i true).getD c0 false=false
         cases hx:(listed.setIfInBounds i true).getD c0 false with
         |false=>rfl
         |true=>
          have h9:=this.1 hx;have g5':X c0=false:=g5;rw[g5'] at h9;cases h9
       let SO:List Ent→Prop:=λH2=>∀K:Act→World→Prop,(∀v σ2,σ2.H=H2→To σ1 σ2→Ok σ2→RepT σ2 (Zjw (ZU (looks ops o) 0 (tsX n dst D ts X)) o.dst r.d) (a.put o.dst v)→K (a.put o.dst v) σ2.w)→
        if Region.wanted o (yielded ops a.tmps) then o.wp P a σ1.w K Q else K (a.put o.dst undef) σ1.w
       have soE:∀H2,evG P ops o (ZU (looks ops o) 0 (tsX n dst D ts (λj=>decide (j < i)))) σ1.H r.hs=some (r.C,r.d,H2,r.hs')→SO H2:=λH2 h K hK=>by
        rw[←hmask] at h;exact ZoO (P:=P) (ops:=ops) ok1 (Za8 (looks ops o) hrep1) h k2 K Q hK
       have soG:∀G H2,(G=[]∨G=[.gone])→evG P ops o (ZU (looks ops o) 0 (tsX n dst D ts (λj=>decide (j < i)))) (σ1.H++G) r.hs=some (r.C,r.d,H2,r.hs')→SO H2:=λG H2 hG h=>by
        rcases hG with rfl|rfl
        ·rw[List.append_nil] at h;exact soE H2 h
        ·intro K hK;rw[←hmask] at h;obtain⟨t1,o1⟩:=ZGC ok1;exact ZoO (P:=P) (ops:=ops) (σ:={ σ1 with m:=σ1.m++[none],H:=σ1.H++[.gone]}) o1 ((Za8 (looks ops o) hrep1).to t1.leaf) h k2 K Q λv σ2 e1 to2 ok2 hr2=>hK v σ2 e1 (t1.trans to2) ok2 hr2
       have hnow:∃H2,SO H2∧Inv (λj=>(listed.setIfInBounds i true).getD j false) H2:=by
        by_cases h0:cls i=0
        ·obtain⟨e1,e2⟩:=ZD4 (H2:=σ1.H) k3 (by rw[←k4, ←hcl i r k1];exact h0);exact⟨σ1.H,soE _ e2,hkeep (by omega)⟩
        by_cases h01:cls i=1
        ·have hkc:clsOf P o (ZU (looks ops o) 0 (tsX n dst D ts (λj=>decide (j < i)))) r.H r.hs=1:=by rw[←k4, ←hcl i r k1];exact h01
         have hnc:∀e,¬ZgW rs c0 i e=true:=by
          intro e hcm;obtain⟨q0,q3|q3⟩:=hcomm i e hcm
          ·obtain⟨rfl,_⟩:=q3;rcases q0 with⟨rc,q1,q2⟩|⟨rc,q1,q2,_⟩
           ·exact(hlocc _ rc q1 q2).1 h01
           ·have:=(hpsh _ rc q1 q2).1;omega
          ·obtain⟨_,_,rp,q4,q5⟩:=q3;have:=(hpsh i rp q4 q5).1;omega
         have hdis:∀e,e < n→cls e=2→¬(X e=true↔e < i)→ZjO rs i e=true:=by
          intro e he hce hx;by_cases hf:ZjO rs i e=true
          ·exact hf
          ·exact absurd (hord e he h0 hce (by rintro rfl;omega) (λh=>hf h.2) (hnc e)) hx
         have hfr:∀k,k < n→ZjO rs i k=true→o.guard=none∧∃id,r.rd=some id∧id < (HH k).length∧id < (HH i).length∧(cls k=2→rdE ((HH (k+1))[id]?)=rdE ((HH k)[id]?)):=by
          intro k hk hf;have hko:ops[k]? =some ops[k]:=ycn hk;obtain⟨q,g1,_,g3,g4,g45,_⟩:=hspec' k _ hko;unfold ZjO at hf;rw[k1,g1] at hf;dsimp only at hf;split at hf
          ·rename_i id e1;simp only[yj,yce,decide_eq_true_eq] at hf;have hrd:=k45.1;rw[e1] at hrd;unfold ZCp at hrd
           cases hg:o.guard with
           |some g=>simp[hg] at hrd
           |none=>
            refine⟨rfl,id,e1,by rw[(hHH k q g1).1];exact hf.1.1,by rw[(hHH i r k1).1];exact hf.1.2,λhck=> ?_⟩;rw[(hHH k q g1).1,(hHH k q g1).2];rcases hf.2 with hf2|hf2
            ·split at hf2
             ·rename_i l e2;exact ZCN g3 (by rw[←g4, ←hcl k q g1];exact hck) (by rw[←g45.2.1,e2]) hf.1.1 (by simpa using hf2)
             ·cases hf2
            ·exact@of_decide_eq_true _ (Classical.propDecidable _) hf2
          ·cases hf
         have hchain:∀(id k a:Nat),a+k≤n→(∀e,a≤e→e < a+k→cls e=2→rdE ((HH (e+1))[id]?)=rdE ((HH e)[id]?))→rdE ((HH (a+k))[id]?)=rdE ((HH a)[id]?):=by
          intro id k a
          induction k with
          |zero=>intro _ _;rfl
          |succ k ihk=>
           intro hk he;rw[←ycg, ←ihk (by omega) (λe h1 h2=>he e h1 (by omega))];by_cases h2:cls (a+k)=2
           ·exact he (a+k) (by omega) (by omega) h2
           ·rw[hstay (a+k) (by omega) h2]
         have hreads:∀id,r.rd=some id→o.guard=none→Zvv P o (ZU (looks ops o) 0 (tsX n dst D ts (λj=>decide (j < i))))=some id:=by
          intro id e1 hg;have hrd:=k45.1;rw[e1] at hrd;unfold ZCp at hrd;rw[hg] at hrd;exact hrd.symm
         have hfin:o.guard=none→∀id,r.rd=some id→rdE ((HH i)[id]?)=rdE (σ1.H[id]?)→∃H2,SO H2∧Inv (λj=>(listed.setIfInBounds i true).getD j false) H2:=by
          intro hg id e1 e2;rw[(hHH i r k1).1] at e2;exact⟨σ1.H,soE _ (ZJX k3 hg hkc (ZDZ (hreads id e1 hg) e2)),hkeep (by omega)⟩
         rcases hlv with⟨lv,hlv1,hlv2⟩|⟨lv,e0,E,G,g1,g2,g3,g4,g5,g6,g7,g8,g9,g10⟩
         ·by_cases hsame:Lev X i
          ·have hHi:σ1.H=r.H:=by
            rw[hlv2,hsameLev X lv i hlv1 hsame,(hHH i r k1).1]
           have hr':r.H'=r.H:=by
            have:=hstay i hin (by omega);rw[(hHH i r k1).1,(hHH i r k1).2] at this;exact this
           refine⟨σ1.H,soE _ (by rw[hHi,k3,hr']),hkeep (by omega)⟩
          ·have hex:∃e,e < n∧cls e=2∧¬(X e=true↔e < i):=by
            refine Classical.byContradiction λhno=>hsame ⟨by omega,λe he hce=> ?_⟩;exact Classical.byContradiction λh=>hno ⟨e,he,hce,h⟩
           obtain⟨e1,he1,hce1,hx1⟩:=hex;obtain⟨hg,id,hid,_⟩:=hfr e1 he1 (hdis e1 he1 hce1 hx1);refine hfin hg id hid ?_;have hln:=hlv1.1
           have hst:∀e,e < n→cls e=2→¬(X e=true↔e < i)→rdE ((HH (e+1))[id]?)=rdE ((HH e)[id]?):=by
            intro e he hce hx;obtain⟨_,id',hid',_,_,h5⟩:=hfr e he (hdis e he hce hx);rw[hid] at hid';cases hid';exact h5 hce
           rw[hlv2];rcases Nat.le_total lv i with hle|hle
           ·have:=hchain id (i - lv) lv (by omega) (λe h1 h2 h3=>hst e (by omega) h3 (λhx=>by
             have h4:=(hlv1.2 e (by omega) h3).1 (hx.2 (by omega));omega))
            rw[show lv+(i - lv)=i by omega] at this;exact this
           ·have:=hchain id (lv - i) i (by omega) (λe h1 h2 h3=>hst e (by omega) h3 (λhx=>by
             have h4:=hx.1 ((hlv1.2 e (by omega) h3).2 (by omega));omega))
            rw[show i+(lv - i)=lv by omega] at this;exact this.symm
         ·
          have hic:¬i=c0:=by
           rintro rfl;omega
          obtain⟨ge1,ge2,ge3,ge4⟩:=g7;have hclen:=hGl G g2;have hxe0:X e0=true:=(g6 e0 (by omega) ge3).2 ⟨ge2,by omega⟩;have hxc0:X c0=false:=g5
          have hid:o.guard=none∧∃id,r.rd=some id∧id < (HH c0).length:=by
           by_cases hlt:c0 < i
           ·obtain⟨hg,id,q1,q2,_⟩:=hfr c0 g1 (hdis c0 g1 g3 (λhx=>by
             rw[hxc0] at hx;have:=hx.2 hlt;cases this))
            exact⟨hg,id,q1,q2⟩
           ·obtain⟨hg,id,q1,q2,q20,_⟩:=hfr e0 (by omega) (hdis e0 (by omega) ge3 (λhx=>by
             have:=hx.1 hxe0;omega))
            refine⟨hg,id,q1, ?_⟩;rcases g2 with⟨_,rfl⟩|⟨⟨rc,p1,_,_,p4⟩,rfl⟩
            ·rw[ge4,hclen] at q2;exact q2
            ·have:=p4 i r (by omega) k1;rw[(hHH i r k1).1] at q20;rw[(hHH c0 rc p1).1];omega
          obtain⟨hg,id,hid,hidl⟩:=hid;refine hfin hg id hid ?_
          have hst:∀e,e < n→cls e=2→¬(X e=true↔e < i)→rdE ((HH (e+1))[id]?)=rdE ((HH e)[id]?):=by
           intro e he hce hx;obtain⟨_,id',hid',_,_,h5⟩:=hfr e he (hdis e he hce hx);rw[hid] at hid';cases hid';exact h5 hce
          rw[g9,yan hidl];by_cases hlt:c0 < i
          ·
           have hc1:rdE ((HH (c0+1))[id]?)=rdE ((HH c0)[id]?):=hst c0 g1 g3 (λhx=>by
            rw[hxc0] at hx;have:=hx.2 hlt;cases this)
           have hup:∀k,c0+1+k≤lv→id < (HH (c0+1+k)).length∧rdE ((HH (c0+1+k))[id]?)=rdE ((HH (c0+1))[id]?):=by
            intro k
            induction k with
            |zero=>intro _;exact⟨by rw[Nat.add_zero,hclen];omega,rfl⟩
            |succ k ihk=>
             intro hk;obtain⟨j1,j2⟩:=ihk (by omega);rw[←ycg];by_cases h2:cls (c0+1+k)=2
             ·obtain⟨rp,p1,p2⟩:=g8 (c0+1+k) (by omega) (by omega) h2;obtain⟨_,E2,p3,_⟩:=hpsh _ rp p1 p2;rw[p3,yan j1];exact⟨by rw[yp];omega,j2⟩
             ·rw[hstay (c0+1+k) (by omega) h2];exact⟨j1,j2⟩
           rcases Nat.le_total i lv with hle|hle
           ·have:=(hup (i - (c0+1)) (by omega)).2;rw[show c0+1+(i - (c0+1))=i by omega] at this;rw[this,hc1]
           ·have h6:=(hup (lv - (c0+1)) (by omega)).2;rw[show c0+1+(lv - (c0+1))=lv by omega] at h6
            have:=hchain id (i - lv) lv (by omega) (λe h1 h2 h3=>hst e (by omega) h3 (λhx=>by
             have h4:=(g6 e (by omega) h3).1 (hx.2 (by omega));omega))
            rw[show lv+(i - lv)=i by omega] at this;rw[this,h6,hc1]
          ·have:=hchain id (c0 - i) i (by omega) (λe h1 h2 h3=>hst e (by omega) h3 (λhx=>by
            have h4:=hx.1 ((g6 e (by omega) h3).2 ⟨by omega,by omega⟩);omega))
           rw[show i+(c0 - i)=c0 by omega] at this;exact this.symm
        have h2:cls i=2:=by
         have:=hcle i hin;omega
        have hord2:∀e,e < n→cls e=2→i≠e→¬ZgW rs c0 i e=true→(X e=true↔e < i):=λe he hce hie hcm=>hord e he h0 hce hie (λh=>h01 h.1) hcm
        have hset:∀e,((listed.setIfInBounds i true).getD e false=true↔(X e=true∨e=i)):=by
         intro e;rw[hgetset e];simp
        by_cases hall2:∀e,e < n→cls e=2→(X e=true↔e < i)
        ·
         have hli:Lev X i:=⟨by omega,hall2⟩
         have hHi:σ1.H=r.H:=by
          rcases hlv with⟨lv,hlv1,hlv2⟩|⟨lv,e0,E,G,g1,g2,g3,g4,g5,g6,g7,g8,g9,g10⟩
          ·rw[hlv2,hsameLev X lv i hlv1 hli,(hHH i r k1).1]
          ·exfalso;obtain⟨ge1,ge2,ge3,ge4⟩:=g7;have q1:=(hall2 e0 (by omega) ge3).1 ((g6 e0 (by omega) ge3).2 ⟨ge2,by omega⟩);have q2:=(hall2 c0 g1 g3).2 (by omega);have g5':X c0=false:=g5;rw[g5'] at q2;cases q2
         rw[←hHi] at k3;refine⟨r.H',soE _ k3,.inl ⟨i+1,⟨by omega,λe he hce=> ?_⟩,((hHH i r k1).2).symm⟩⟩;refine(hset e).trans ?_;rw[hall2 e he hce];omega
        ·
         have hex:∃e,e < n∧cls e=2∧i≠e∧¬(X e=true↔e < i):=by
          refine Classical.byContradiction λhno=>hall2 λe he hce=> ?_;by_cases hie:i=e
          ·subst hie;rw[hXi2];simp
          ·exact Classical.byContradiction λh=>hno ⟨e,he,hce,hie,h⟩
         obtain⟨e1,he1,hce1,hie1,hx1⟩:=hex;have hcm1:ZgW rs c0 i e1=true:=Classical.byContradiction λh=>hx1 (hord2 e1 he1 hce1 hie1 h);obtain⟨hLP,hcases⟩:=hcomm i e1 hcm1;rcases hcases with⟨hic,hlt1,hpe1⟩|⟨hec,hlt1,hpi⟩
         ·
          subst hic
          have hxe1:X e1=true:=by
           cases hx:X e1 with
           |true=>rfl
           |false=>
            exfalso;apply hx1;rw[hx];exact⟨λh=>(by cases h),λh=>(by omega)⟩
          rcases hlv with⟨lv,hlv1,hlv2⟩|⟨lv,e0,E,G,g1,g2,g3,g4,g5,g6,g7,g8,g9,g10⟩
          ·exfalso;have q1:=(hlv1.2 e1 he1 hce1).1 hxe1;have q2:=(hlv1.2 i hin h2).2 (by omega);have hXi3:X i=false:=hXi;have q2':X i=true:=q2;rw[hXi3] at q2';cases q2'
          ·have hso:SO (HH (i+1)++E):=by
            rcases g2 with⟨⟨rc,hrc,hrcl⟩,rfl⟩|⟨⟨rc,hrc,hrp,hrl,_⟩,rfl⟩
            ·rw[hrc] at k1;cases k1;obtain⟨_,_,hcev⟩:=hlocc i r hrc hrcl;exact soE _ (by rw[g9];exact hcev o ho E)
            ·rw[hrc] at k1;cases k1;intro K hK;have hp:Zh7 o=true:=by rw[←k45.2.2.1];exact hrp
             rw[←hmask] at k3;refine ZD6 (P:=P) (ops:=ops) (E:=E) ok1 (Za8 (looks ops o) hrep1) k3 hp hrl (by rw[g9,(hHH i r hrc).1];rfl) K Q λv σ2 e1 to2 ok2 hr2=>hK v σ2 (by rw[e1,(hHH i r hrc).2]) to2 ok2 hr2
           refine⟨HH (i+1)++E,hso,.inl ⟨lv,⟨g4,λe he hce=> ?_⟩,g10.symm⟩⟩;refine(hset e).trans ?_;have q:=g6 e he hce;obtain⟨ge1,ge2,_⟩:=g7;constructor
           ·rintro(q1|q1)
            ·exact(q.1 q1).1
            ·omega
           ·intro q1;by_cases hei:e=i
            ·exact .inr hei
            ·exact .inl (q.2 ⟨q1,hei⟩)
         ·
          subst hec
          have hxc:X e1=false:=by
           cases hx:X e1 with
           |false=>rfl
           |true=>
            exfalso;apply hx1;rw[hx];exact⟨λ_=>hlt1,λ_=>rfl⟩
          have hoth:∀e,e < n→cls e=2→e≠e1→(X e=true↔e < i):=by
           intro e he hce hne;by_cases hie:i=e
           ·subst hie;rw[hXi2];simp
           ·refine hord2 e he hce hie λhcm=> ?_;obtain⟨_,q|q⟩:=hcomm i e hcm
            ·omega
            ·exact hne q.1
          obtain⟨rp,hrp,hrpp⟩:=hpi;obtain⟨_,Ei,hpE,hpev⟩:=hpsh i rp hrp hrpp
          have hexG:∃G,CG G∧(G=[]∨G=[.gone]):=by
           rcases hLP with h|h
           ·exact⟨[],.inl ⟨h,rfl⟩,.inl rfl⟩
           ·exact⟨[.gone],.inr ⟨h,rfl⟩,.inr rfl⟩
          rw[hrp] at k1;cases k1;rcases hlv with⟨lv,hlv1,hlv2⟩|⟨lv,e0,E,G,g1,g2,g3,g4,g5,g6,g7,g8,g9,g10⟩
          ·have hlc:Lev X e1:=⟨by omega,λe he hce=>by
            by_cases hne:e=e1
            ·subst hne;rw[hxc];simp
            ·rw[hoth e he hce hne];constructor
             ·intro q;have q1:=(hlv1.2 e he hce).1 ((hoth e he hce hne).2 q)
              have q2:¬e1 < lv:=λq3=>by
               have q9:X e1=true:=(hlv1.2 e1 he1 hce1).2 q3;rw[hxc] at q9;cases q9
              omega
             ·intro q;omega⟩
           have hmid:∀e,e1 < e→e < i→cls e≠2:=by
            intro e q1 q2 hce;have q3:=(hoth e (by omega) hce (by omega)).2 q2;have q4:=(hlc.2 e (by omega) hce).1 q3;omega
           have hHi:HH i=HH (e1+1):=by
            have:=hlev (e1+1) (i - (e1+1)) (by omega) (λe q1 q2=>hmid e (by omega) (by omega));rw[show e1+1+(i - (e1+1))=i by omega] at this;exact this
           have hH1:σ1.H=HH e1:=by rw[hlv2,hsameLev X lv e1 hlv1 hlc]
           obtain⟨G,hCG,hG2⟩:=hexG;have hclen:=hGl G hCG
           have hso:SO (HH e1++(G++Ei)):=soG G _ hG2 (by
            rw[←yaj,hH1];exact hpev o ho (HH e1++G) (by rw[hHi,hclen,yp]))
           refine⟨HH e1++(G++Ei),hso,.inr ⟨i+1,i,Ei,G,he1,hCG,hce1,by omega, ?_,λe he hce=> ?_,⟨hlt1,by omega,h2,hHi⟩,λe q1 q2 q3=> ?_,rfl,by rw[hpE,hHi]⟩⟩
           ·show(listed.setIfInBounds i true).getD e1 false=false
            cases hx:(listed.setIfInBounds i true).getD e1 false with
            |false=>rfl
            |true=>
             rcases (hset e1).1 hx with q|q
             ·rw[hxc] at q;cases q
             ·omega
           ·refine(hset e).trans ?_;by_cases hne:e=e1
            ·subst hne;rw[hxc];constructor
             ·rintro(q|q)
              ·cases q
              ·omega
             ·rintro⟨_,q⟩;exact absurd rfl q
            ·rw[hoth e he hce hne];omega
           ·by_cases hei:e=i
            ·subst hei;exact⟨_,hrp,hrpp⟩
            ·exact absurd q3 (hmid e q1 (by omega))
          ·obtain⟨ge1,ge2,ge3,ge4⟩:=g7
           have hlvi:lv≤i:=by
            rcases Nat.lt_or_ge i lv with q|q
            ·exfalso;have:=(g6 i hin h2).2 ⟨q,by omega⟩;have hXi3:X i=false:=hXi;have q2':X i=true:=this;rw[hXi3] at q2';cases q2'
            ·exact q
           have hHi:HH i=HH lv:=by
            have:=hlev lv (i - lv) (by omega) (λe q1 q2 hce=>by
             have q3:=(hoth e (by omega) hce (by omega)).2 (by omega);have q4:=(g6 e (by omega) hce).1 q3;omega)
            rw[show lv+(i - lv)=i by omega] at this;exact this
           have hclen:=hGl G g2;have hso:SO (σ1.H++Ei):=soE _ (hpev o ho σ1.H (by rw[hHi,g10,g9,yp,yp,yp,hclen];omega));refine⟨σ1.H++Ei,hso,.inr ⟨i+1,e0,E++Ei,G,he1,g2,hce1,by omega, ?_,λe he hce=> ?_,⟨ge1,by omega,ge3,ge4⟩,λe q1 q2 q3=> ?_,by rw[g9,yaj,yaj],by rw[hpE,hHi,g10,yaj]⟩⟩
           ·show(listed.setIfInBounds i true).getD e1 false=false
            cases hx:(listed.setIfInBounds i true).getD e1 false with
            |false=>rfl
            |true=>
             rcases (hset e1).1 hx with q|q
             ·rw[hxc] at q;cases q
             ·omega
           ·refine(hset e).trans ?_;by_cases hne:e=e1
            ·subst hne;rw[hxc];constructor
             ·rintro(q|q)
              ·cases q
              ·omega
             ·rintro⟨_,q⟩;exact absurd rfl q
            ·rw[hoth e he hce hne];omega
           ·by_cases hei:e=i
            ·subst hei;exact⟨_,hrp,hrpp⟩
            ·have q4:=(hoth e (by omega) q3 (by omega)).2 (by omega);have q5:=(g6 e (by omega) q3).1 q4;exact g8 e q1 q5.1 q3
       obtain⟨H2,hso2,hinv⟩:=hnow
       have key:=hso2 (wpAny P .any ops Q fuel (listed.setIfInBounds i true)) (λv σ2 e1 to2 ok2 hrep2=>by
        have hgetset:∀j,(listed.setIfInBounds i true).getD j false=(X j || decide (j=i)):=by
         intro j;by_cases hji:j=i
         ·subst hji;simp[Array.getD,his]
         ·simp only[X,Array.getD_eq_getD_getElem?,Array.getElem?_setIfInBounds,hji,decide_false,Bool.or_false];rw[if_neg (λh=>hji h.symm)]
        refine ih _ _ σ2 (by simpa using hsz) ?_ ?_ (to1.trans to2) ok2 ?_ (by rw[e1];exact hinv)
        ·have:=ZxI (Y:=λj=>(listed.setIfInBounds i true).getD j false) hXi hin (λj _=>hgetset j);have hX':unl X n≤fuel+1:=hun;omega
        ·intro j o' hj hx e he hb;show(listed.setIfInBounds i true).getD e.on false=true;rw[hgetset];have hx':(listed.setIfInBounds i true).getD j false=true:=hx;rw[hgetset] at hx';by_cases hji:j=i
         ·subst hji;rw[ho] at hj;cases hj;have:X e.on=true:=hedge e he hb;rw[this];rfl
         ·simp only[hji,decide_false,Bool.or_false] at hx';have:X e.on=true:=hcl1 j o' hj hx' e he hb;rw[this];rfl
        ·have hd:o.dst=dst i:=by simp[dst,Zhr,ho]
         have hD:r.d=D i:=by simp[D,k1]
         have hput:=ZAZ (ts0:=ts) (D:=D) hu hin hXi (λj(_:j < n)=>hgetset j);rw[←hput, ←hd, ←hD];exact ZIl (Znp _ _ _) (hrep1.to to2.leaf) hrep2)
       show wpOp P ops Q i _ a σ1.w;unfold wpOp;rw[ho];by_cases hw:Region.wanted o (yielded ops a.tmps)=true
       ·rw[if_pos hw] at key;simp only[hw,if_true];exact .inl key
       ·rw[if_neg hw] at key;simp only[hw];exact key
    have hdr2:σ.w.grownBy { σ.w with drawn:=σ.w.drawn+1} none:=by
     exact⟨rfl,rfl,rfl,yn _,λ_ _ _=>rfl⟩
    obtain⟨to0,ok0⟩:=ZqY ok hdr2
    have hfalse:∀j,(Array.replicate ops.size false).getD j false=false:=by
     intro j;by_cases hj:j < ops.size <;> simp[Array.getD,hj]
    refine walk ops.size (Array.replicate ops.size false) a { σ with w:={ σ.w with drawn:=σ.w.drawn+1}} (by simp[n]) ?_ ?_ to0 ok0 ?_ (.inl ⟨0,⟨Nat.zero_le _,λe _ _=> ?_⟩, ?_⟩)
    ·exact ZD9
    ·intro i o _ hx;have hx':(Array.replicate ops.size false).getD i false=true:=hx;rw[hfalse i] at hx';cases hx'
    ·rw[Zuv (λj _=>hfalse j)];exact hrep.to to0.leaf
    ·show(Array.replicate ops.size false).getD e false=true↔e < 0;rw[hfalse e];simp
    ·show σ.H=HH 0;by_cases h0:0 < n
     ·obtain⟨r,k1,_,_,_,_,k5,_⟩:=hspec' 0 _ (ycn h0);rw[(hHH 0 r k1).1,k5 rfl]
     ·have:ops.toList=[]:=ybk (by omega);simp only[HH,h0,if_false];exact(hnil this).symm
   ·cases h
  ·cases h
 ·cases h
end
end Go.Ev
end
section
namespace Go.Ev
section
variable{P:yg}
theorem Zgt{σ:Sg}{a:Act}:∀{mask:List Nat}{ts:List Dv},RepT σ ts a→RepT σ (Znb ts mask) a
 |[],_,h=>h
 |i::r,ts,h=>by
  refine Zgt (mask:=r) ⟨by simpa using h.size,λj d hj=> ?_,h.defers⟩;rw[ybw] at hj;split at hj
  ·split at hj
   ·cases hj;exact XY
   ·cases hj
  ·exact h.at_ j d hj
theorem Zbc:∀(c:Code)(ts:List Dv)(H:List Ent)(hs hs':List Hint)(C:List Prop)(ex:Ex)(ts':List Dv)(H':List Ent),ev P c ts H hs=some (C,ex,ts',H',hs')→AllP C→Ww P c ts H ex ts' H'
 |.skip,ts,H,hs,hs',C,ex,ts',H',h,hc=>by
  simp only[ev,yi,yl] at h;obtain⟨rfl,rfl,rfl,rfl,rfl⟩:=h
  exact λσ a ok hH hrep=>wp_skip ⟨rfl,σ,rfl,hH,To.refl σ,ok,hrep⟩
 |.label _,ts,H,hs,hs',C,ex,ts',H',h,hc=>by
  simp only[ev,yi,yl] at h;obtain⟨rfl,rfl,rfl,rfl,rfl⟩:=h
  exact λσ a ok hH hrep=>wp_label ⟨rfl,σ,rfl,hH,To.refl σ,ok,hrep⟩
 |.region id ops draw,ts,H,hs,hs',C,ex,ts',H',h,hc=>by
  cases draw with
  |true=>
   simp only[ev,if_true] at h;simp only[yq,yl] at h;obtain⟨⟨C1,ts1,H1,hs1⟩,h1,rfl,rfl,rfl,rfl,rfl⟩:=h;intro σ a ok hH hrep;subst hH
   exact ZvJ ok hrep h1 hc _ λa' σ' e1 to ok' hrep'=>⟨rfl,σ',rfl,e1,to,ok',hrep'⟩
  |false=>
   simp only[ev,Bool.false_eq_true,if_false] at h;simp only[yq,yl] at h;obtain⟨⟨C1,ts1,H1,hs1⟩,h1,rfl,rfl,rfl,rfl,rfl⟩:=h;intro σ a ok hH hrep;subst hH;refine wp_region ?_
   have:=ZpN (P:=P) (ops:=ops) (λe a' w'=>e=Ex.normal.to∧∃σ',σ'.w=w'∧σ'.H=H1∧To σ σ'∧Ok σ'∧RepT σ' ts1 a') ops.toList 0 ts σ a hs hs1 C1 H1 (λj=>by simp) ok hrep h1 hc
    (λa' σ' e1 to ok' hrep'=>⟨rfl,σ',rfl,e1,to,ok',hrep'⟩)
   rw[List.range_eq_range']
   simpa using this
 |.seq x y,ts,H,hs,hs',C,ex,ts',H',h,hc=>by
  simp only[ev] at h;split at h
  ·rename_i C1 ts1 H1 hs1 h1;split at h
   ·rename_i C2 ex2 ts2 H2 hs2 h2;simp only[yi,yl] at h;obtain⟨rfl,rfl,rfl,rfl,rfl⟩:=h;obtain⟨c1,c2⟩:=Zj.1 hc;have r1:=Zbc x _ _ _ _ _ _ _ _ h1 c1;have r2:=Zbc y _ _ _ _ _ _ _ _ h2 c2;intro σ a ok hH hrep;refine wp_seq (wp_mono (r1 σ a ok hH hrep) ?_);rintro e a' w' ⟨rfl,σ1,rfl,e1,to1,ok1,hrep1⟩;refine wp_mono (r2 σ1 a' ok1 e1 hrep1) ?_;rintro e a'' w'' ⟨rfl,σ2,rfl,e2,to2,ok2,hrep2⟩;exact⟨rfl,σ2,rfl,e2,to1.trans to2,ok2,hrep2⟩
   ·cases h
  ·rename_i r hne;have r1:=Zbc x _ _ _ _ _ _ _ _ h hc;intro σ a ok hH hrep;refine wp_seq (wp_mono (r1 σ a ok hH hrep) ?_);rintro e a' w' ⟨rfl,hq⟩
   cases ex with
   |normal=>exact absurd h (hne _ _ _ _)
   |exit id=>exact⟨rfl,hq⟩
   |ret=>exact⟨rfl,hq⟩
 |.cond c x y,ts,H,hs,hs',C,ex,ts',H',h,hc=>by
  simp only[ev] at h;split at h
  ·rename_i t hs1 hcv;simp only[yq,yl] at h;obtain⟨⟨C1,r⟩,h1,rfl,rfl⟩:=h;obtain⟨c0,c1⟩:=hc;have r1:=Zbc x _ _ _ _ _ _ _ _ h1 c1;intro σ a ok hH hrep;have hv:=Zk (P:=P) hrep 0 c;rw[hcv] at hv;exact wp_cond_true (by rw[YN hv,c0]) (r1 σ a ok hH hrep)
  ·rename_i t hs1 hcv;simp only[yq,yl] at h;obtain⟨⟨C1,r⟩,h1,rfl,rfl⟩:=h;obtain⟨c0,c1⟩:=hc;have r1:=Zbc y _ _ _ _ _ _ _ _ h1 c1;intro σ a ok hH hrep;have hv:=Zk (P:=P) hrep 0 c;rw[hcv] at hv;exact wp_cond_false (by rw[YN hv,c0]) (r1 σ a ok hH hrep)
  ·cases h
 |.block id body,ts,H,hs,hs',C,ex,ts',H',h,hc=>by
  simp only[ev] at h;split at h
  ·rename_i C1 id' ts1 H1 hs1 h1;simp only[yi,yl] at h;obtain⟨rfl,rfl,rfl,rfl,rfl⟩:=h;have r1:=Zbc body _ _ _ _ _ _ _ _ h1 hc;intro σ a ok hH hrep;refine wp_block (wp_mono (r1 σ a ok hH hrep) ?_);rintro e a' w' ⟨rfl,hq⟩;simp only[Ex.to,Exit.inBlock];split
   ·rename_i he;exact⟨rfl,hq⟩
   ·rename_i he;exact⟨rfl,hq⟩
  ·rename_i r hne;have r1:=Zbc body _ _ _ _ _ _ _ _ h hc;intro σ a ok hH hrep;refine wp_block (wp_mono (r1 σ a ok hH hrep) ?_);rintro e a' w' ⟨rfl,hq⟩
   cases ex with
   |normal=>exact⟨rfl,hq⟩
   |exit id'=>exact absurd h (hne _ _ _ _ _)
   |ret=>exact⟨rfl,hq⟩
 |.loop body,ts,H,hs,hs',C,ex,ts',H',h,hc=>by
  simp only[ev] at h;split at h
  ·rename_i mask ex1 ts1 H1 hs1;split at h
   ·cases h
   ·simp only[yi,yl] at h;obtain⟨rfl,rfl,rfl,rfl,rfl⟩:=h;exact λσ a ok hH hrep=>hc.1 σ a ok hH (Zgt hrep)
  ·cases h
 |.scope body,ts,H,hs,hs',C,ex,ts',H',h,hc=>by
  simp only[ev] at h;have r1:=Zbc body _ _ _ _ _ _ _ _ h hc;intro σ a ok hH hrep;refine wp_scope_straight (wp_mono (r1 σ a ok hH hrep) ?_);rintro e a' w' ⟨rfl,hq⟩
  cases ex <;> exact⟨rfl,hq⟩
 |.exit id,ts,H,hs,hs',C,ex,ts',H',h,hc=>by
  simp only[ev,yi,yl] at h;obtain⟨rfl,rfl,rfl,rfl,rfl⟩:=h
  exact λσ a ok hH hrep=>wp_exit ⟨rfl,σ,rfl,hH,To.refl σ,ok,hrep⟩
 |.ret,ts,H,hs,hs',C,ex,ts',H',h,hc=>by
  simp only[ev,yi,yl] at h;obtain⟨rfl,rfl,rfl,rfl,rfl⟩:=h
  exact λσ a ok hH hrep=>wp_ret ⟨rfl,σ,rfl,hH,To.refl σ,ok,hrep⟩
 |.rangeFunc _ _ _ _,ts,H,hs,hs',C,ex,ts',H',h,hc=>by simp[ev] at h
 |.goto _,ts,H,hs,hs',C,ex,ts',H',h,hc=>by simp[ev] at h
 |.refuse _,ts,H,hs,hs',C,ex,ts',H',h,hc=>by simp[ev] at h
def Zuw(P:yg)(body:Code)(ts:List Dv)(H:List Ent)(ex:Ex)(ts':List Dv)(H':List Ent):Prop:=
 ∀(σ:Sg)(a:Act),Ok σ→σ.H=H→RepT σ ts a→∀(b:Frame)(k:List Item)(cs:List Frame),
  ∃e a' w',(e=ex.to∧∃σ',σ'.w=w'∧σ'.H=H'∧To σ σ'∧Ok σ'∧RepT σ' ts' a')∧Arrives P (lone (b.at a (.code body::.inLoop body::k)) cs σ.w) b k cs e a' w'
theorem Zux{body:Code}{ts ts':List Dv}{H H':List Ent}{ex:Ex}(hne:ex≠ .normal)(h:Ww P body ts H ex ts' H'):Zuw P body ts H ex ts' H':=by
 intro σ a ok hH hrep b k cs;obtain⟨e,a1,w1,hq,harr⟩:=h σ a ok hH hrep b (.inLoop body::k) cs;obtain⟨he,hq'⟩:=hq;subst he;refine⟨ex.to,a1,w1,⟨rfl,hq'⟩, ?_⟩
 cases ex with
 |normal=>exact absurd rfl hne
 |exit id=>exact .pass (x:=.inLoop body) rfl (λ_ _=>.inl (by simp[Ex.to])) harr
 |ret=>exact .pass (x:=.inLoop body) rfl (λ_ _=>.inl (by simp[Ex.to])) harr
theorem Zuy{body:Code}{ts ts1 ts':List Dv}{H H1 H':List Ent}{ex:Ex}(mask:List Nat)(h1:Ww P body ts H .normal ts1 H1)(h2:Zuw P body (Znb ts1 mask) H1 ex ts' H'):Zuw P body ts H ex ts' H':=by
 intro σ a ok hH hrep b k cs;obtain⟨e,a1,w1,⟨rfl,σ1,rfl,e1,to1,ok1,hrep1⟩,harr⟩:=h1 σ a ok hH hrep b (.inLoop body::k) cs;obtain⟨e,a2,w2,⟨rfl,σ2,rfl,e2,to2,ok2,hrep2⟩,harr2⟩:=h2 σ1 a1 ok1 e1 (Zgt hrep1) b k cs;exact⟨ex.to,a2,σ2.w,⟨rfl,σ2,rfl,e2,to1.trans to2,ok2,hrep2⟩,.of_steps (Steps.trans harr (.one step_inLoop)) harr2⟩
theorem Zuz{body:Code}{ts ts':List Dv}{H H':List Ent}{ex:Ex}(h:Zuw P body ts H ex ts' H'):Ww P (.loop body) ts H ex ts' H':=by
 intro σ a ok hH hrep b k cs;obtain⟨e,a1,w1,hq,harr⟩:=h σ a ok hH hrep b k cs;exact⟨e,a1,w1,hq,.of_steps (.one step_loop) harr⟩
def Zl0(σ:Sg)(L:List Nat)(H:List Ent):Sg:={ F:=σ.F,B:=σ.B,m:=L.map λid=>(σ.m[id]?).getD none,H:=H,w:=σ.w}
theorem ZEa{σ:Sg}{L:List Nat}{H:List Ent}{j id:Nat}{x:Option Nat}(h:L[j]? =some id)(hm:σ.m[id]? =some x):(Zl0 σ L H).m[j]? =some x:=by
 show(L.map λid=>(σ.m[id]?).getD none)[j]? =some x;rw[yal,h];simp[hm]
theorem Ze5{σ:Sg}{L:List Nat}{H:List Ent}{j b:Nat}(h:(Zl0 σ L H).m[j]? =some (some b)):∃id,L[j]? =some id∧σ.m[id]? =some (some b):=
 Wc (σ:=σ) (ids:=L) (Hin:=H) h
theorem Zik{σ:Sg}{L:List Nat}{H:List Ent}(hin:subEnts σ.H L L=some H):Rn (toIds L) σ (Zl0 σ L H) where
 w:=rfl
 stab b o v _ h:=by
  refine⟨h.1,λj e hj he=> ?_⟩;obtain⟨id,h1,h2⟩:=Ze5 hj;obtain⟨e0,e',h3,h4,h5⟩:=Qn hin h1;have he':H[j]? =some e:=he;rw[h4] at he';cases he';exact(ZjT h5).2 (h.2 id e0 h2 h3)
 m id j hj x hx:=ZEa (idxOf?_some hj) hx
 H id j hj e he:=by
   obtain⟨e0,e',h3,h4,h5⟩:=Qn hin (idxOf?_some hj);rw[he] at h3;cases h3;exact⟨e',h4,h5⟩
theorem Zq3{σ:Sg}(ok:Ok σ){L:List Nat}{H:List Ent}(ho:once L=true)(hin:subEnts σ.H L L=some H):Ok (Zl0 σ L H) where
 len:=by
  show(L.map _).length=H.length;rw[yz,Qm hin]
 inj i j b hi hj:=by
  obtain⟨x,h1,h2⟩:=Ze5 hi;obtain⟨y,h3,h4⟩:=Ze5 hj;have:=ok.inj x y b h2 h4;subst this;exact Znl ho i j x h1 h3
 lt i b hi:=by
  obtain⟨x,h1,h2⟩:=Ze5 hi;exact ok.lt x b h2
 ent i e x he hx:=by
  have he':H[i]? =some e:=he;have hi:i < L.length:=by rw[←Qm hin];exact(yr.1 he').1
  obtain⟨e0,e',h3,h4,h5⟩:=Qn hin (yac hi);rw[he'] at h4;cases h4
  have hm:∃y,σ.m[L[i]]? =some y:=by
   have:L[i] < σ.m.length:=by rw[ok.len];exact(yr.1 h3).1
   exact⟨_,yac this⟩
  obtain⟨y,hy⟩:=hm;have:=ZEa (H:=H) (yac hi) hy;rw[hx] at this;cases this;exact ZrG (Zik hin) h5 (ok.ent _ _ _ h3 hy)
 new b hb:=ok.new b hb
 own i b hi:=by
  obtain⟨x,h1,h2⟩:=Ze5 hi;exact ok.own x b h2
theorem Zq4{σ σ':Sg}(ok:Ok σ)(to:To σ σ'){keep:List Nat}{H:List Ent}(ho:once (yw σ.H.length++keep)=true)(hin:subEnts σ'.H (yw σ.H.length++keep) (yw σ.H.length++keep)=some H):
 To σ (Zl0 σ' (yw σ.H.length++keep) H):=by
 have hf:∀id,id < σ.H.length→toIds (yw σ.H.length++keep) id=some id:=λid h=>by
  refine idxOf?_of ho ?_;rw[yan (by simpa using h),List.getElem?_range h]
 have rn:=Zik hin;refine⟨⟨λb o v h1 h2=> ?_,λid b h1 h2=> ?_,λid s len A c h1=> ?_,λid b h1 h2=> ?_,λid v s st e d h1=> ?_⟩,to.F,to.B,to.os,to.tape,to.output,to.size,λb h1 h2=>to.block b h1 h2,λid b h=> ?_, ?_⟩
 ·obtain⟨h3,h4⟩:=to.leaf.cells b o v h1 h2;exact⟨h3,rn.stab b o v h3 h4⟩
 ·have hlt:id < σ.H.length:=by rw[←ok.len];exact(yr.1 h1).1
  obtain⟨h3,h4⟩:=to.leaf.var id b h1 h2;exact⟨rn.m _ _ (hf id hlt) _ h3,rn.var (hf id hlt) h4⟩
 ·have hlt:id < σ.H.length:=by
   obtain⟨e,ys,h2,_⟩:=h1;exact(yr.1 h2).1
  exact rn.front (hf id hlt) (to.leaf.front _ _ _ _ _ h1)
 ·have hlt:id < σ.H.length:=by rw[←ok.len];exact(yr.1 h1).1
  obtain⟨h3,h4⟩:=to.leaf.map id b h1 h2;exact⟨rn.m _ _ (hf id hlt) _ h3,rn.map (hf id hlt) h4⟩
 ·have hlt:id < σ.H.length:=(yr.1 h1).1;obtain⟨v',st',d',h5,h6,h7⟩:=to.leaf.row _ _ _ _ _ _ h1;obtain⟨d2,h8⟩:=rn.row (hf id hlt) h5;refine⟨v',st',d2,h8,h6,λhv=> ?_⟩;obtain⟨h9,h10⟩:=h7 hv;refine⟨?_,h10⟩;have hmm:∃x,σ.m[id]? =some x:=⟨_,yac (by rw[ok.len];exact hlt)⟩;obtain⟨x,hx⟩:=hmm;rw[hx];exact rn.m _ _ (hf id hlt) _ (by rw[h9];exact hx)
 ·obtain⟨x,h1,h2⟩:=Ze5 h;rcases to.same x b h2 with h3|h3
  ·have hlt:x < σ.H.length:=by rw[←ok.len];exact(yr.1 h3).1
   have:=idxOf?_of ho h1;have h4:=hf x hlt;unfold toIds at h4;rw[this] at h4;cases h4;exact .inl h3
  ·exact .inr h3
 ·show σ.m.length≤((yw σ.H.length++keep).map _).length;rw[ok.len];simp
def ZxJ(tmps:Array yh):ResultVar→Sem yh
 |.tmp t=>pure (tmps.getD t undef)
 |.cell x t=>do loadVar t (←asAddr (tmps.getD x undef))
theorem Zzx(fn:Func)(tmps:Array yh):results fn tmps=(do let vs ←fn.results.mapM (ZxJ tmps);pure (if h:vs.size=1 then vs[0] else .tuple vs)):=by
 unfold results
 have:(λ(rv:ResultVar)=>(match rv with|.tmp t=>pure (tmps.getD t undef)|.cell a t=>do loadVar t (←asAddr (tmps.getD a undef)):Sem yh))=ZxJ tmps:=by
  funext rv;cases rv <;> rfl
 exact congrArg (λf=>(do let vs ←fn.results.mapM f;pure (if h:vs.size=1 then vs[0] else .tuple vs):Sem yh)) this
theorem ZmG{σ:Sg}{a:Act}{ts:List Dv}(ok:Ok σ)(hrep:RepT σ ts a):∀(rs:List ResultVar)(hs:List Hint)(C:List Prop)(ds:List Dv),ZtC P ts σ.H rs hs=some (C,ds)→AllP C→
 ∃vs,Sem.run P (rs.mapM (ZxJ a.tmps)) σ.w=Result.ok vs σ.w∧repVs σ ds vs
 |[],hs,C,ds,h,_=>by
  simp only[ZtC,yi,yl] at h;obtain⟨rfl,rfl⟩:=h
  exact⟨[],by simp,by simp[repVs]⟩
 |.tmp t::r,hs,C,ds,h,hc=>by
  simp only[ZtC,yq,yl] at h;obtain⟨⟨C1,ds1⟩,h1,rfl,rfl⟩:=h;obtain⟨vs,h2,h3⟩:=ZmG ok hrep r hs C1 ds1 h1 hc;have h4:=Zk (P:=P) hrep 0 (.tmp t);refine⟨a.tmps.getD t undef::vs, ?_, ?_⟩
  ·simp only[List.mapM_cons,ZxJ,Sem.run_bind,Sem.run_pure,Result.andThen_ok,h2]
  ·simp only[repVs]
   exact⟨_,_,rfl,h4,h3⟩
 |.cell x t::r,hs,C,ds,h,hc=>by
  simp only[ZtC] at h;split at h
  ·rename_i id off path hx;split at h
   ·rename_i dd st hH;split at h
    ·rename_i C1 off' sub hs1 hg;split at h
     ·rename_i hk;simp only[yq,yl] at h;obtain⟨⟨C2,ds1⟩,h1,rfl,rfl⟩:=h;obtain⟨c1,c2⟩:=Zj.1 hc;obtain⟨c1,c3⟩:=Zj.1 c1;obtain⟨vs,h2,h3⟩:=ZmG ok hrep r hs1 C2 ds1 h1 c2;have hv:=Zk (P:=P) hrep 0 (.tmp x);simp only[Zy,hx] at hv;obtain⟨b,hm,_,hxv⟩:=Zgo hv;unfold okT at hk;simp only[yj,beq_iff_eq] at hk;obtain⟨⟨⟨k1,k2⟩,k3⟩,k4⟩:=hk;obtain⟨cs,t',p1,p2,p3,_,_,_,_,h5,_,h6⟩:=Znj ok hm hH hg c1 c3.1;obtain⟨v,h7,h8⟩:=Zgn (P:=P) h5 h6 k1 k4 k3 k2;have hxv':a.tmps.getD x undef=.pointer (some ⟨b,off,none⟩):=hxv;refine⟨v::vs, ?_, ?_⟩
      ·have ha:asAddr (a.tmps.getD x undef)=pure ⟨b,off,none⟩:=by rw[hxv'];rfl
       simp only[List.mapM_cons,ZxJ,ha,Sem.run_bind,Sem.run_pure,Result.andThen_ok,h7,h2]
      ·simp only[repVs];exact⟨_,_,rfl,h8,h3⟩
     ·cases h
    ·cases h
   ·cases h
  ·cases h
theorem ZuA{σ:Sg}{ds:List Dv}{vs:List yh}(h:repVs σ ds vs):repDV σ (Zro ds) (if h:vs.toArray.size=1 then vs.toArray[0] else .tuple vs.toArray):=by
 have hl:=ZoH h;unfold Zro;split
 ·rename_i d;simp only[repVs] at h;obtain⟨v,vs',rfl,h1,h2⟩:=h;have:vs'=[]:=h2;subst this;have e:(if h:[v].toArray.size=1 then[v].toArray[0] else Value.tuple [v].toArray)=v:=by simp
  rw[e];exact h1
 ·rename_i hne
  have hn:¬vs.toArray.size=1:=by
   intro hs;have hd:ds.length=1:=by rw[←hl];simpa using hs
   match ds,hd with
   |[d],_=>exact hne d rfl
  rw[dif_neg hn,Zd rfl];simp only[repD];exact⟨_,rfl,by simpa using h⟩
theorem Zj0{g:yv}{fn:Func}{c:Code}{args ts':List Dv}{H H1 H':List Ent}{ex:Ex}{r:Dv}{keep:List Nat}{hs:List Hint}{C:List Prop}(hf:P.funcs[g]? =some fn)(hb:fn.body=some c)
 (hr:Ww P c (args++yy (fn.ntmps - args.length) .junk) H ex ts' H1) (hex:ex=.ret∨ex=.normal) (hfin:fin P fn ts' H1 H.length keep hs=some (C,r,H')) (hc:AllP C):Con P g args H r H':=by
 intro σ vs ok hH hvs;refine calls_of_wp hf hb ?_;have hl:=ZoH hvs
 have hrep:RepT σ (args++yy (fn.ntmps - args.length) .junk) { tmps:=vs.toArray++Array.replicate (fn.ntmps - vs.toArray.size) undef,defers:=[]}:=by
  refine⟨by simp[hl],λi d hi=> ?_,rfl⟩;rcases Nat.lt_or_ge i args.length with h1|h1
  ·rw[yan h1] at hi;obtain⟨v,h2,h3⟩:=Zrx hvs hi
   have h4:(vs.toArray++Array.replicate (fn.ntmps - vs.toArray.size) undef)[i]? =some v:=by
    rw[Array.getElem?_append_left (by simpa[hl] using h1)];simpa using h2
   rw[Array.getD_eq_getD_getElem?,h4];exact h3
  ·rw[yat h1] at hi;have:=List.eq_of_mem_replicate (List.mem_of_getElem? hi);rw[this];exact XY
 refine wp_mono (hr σ _ ok hH hrep) ?_;rintro e a w' ⟨rfl,σ',rfl,e1,to,ok',hrep'⟩;unfold fin at hfin;split at hfin
 ·rename_i C1 ds hres;dsimp only at hfin
  have main:∀r,(Zro ds).rn (toIds (yw H.length++keep))=some r∨(Zro (ds.map Dv.arg)).rn (toIds (yw H.length++keep))=some r→once (yw H.length++keep)=true→
   subEnts H1 (yw H.length++keep) (yw H.length++keep)=some H'→AllP C1→a.defers=[]∧∃v,(results fn a.tmps).run P σ'.w=.ok v σ'.w∧
    ∃v0 σ'',(Ending.returned v)=.returned v0∧σ''.w=σ'.w∧σ''.H=H'∧To σ σ''∧Ok σ''∧repDV σ'' r v0:=by
   intro r hrn honce hsub hc1;refine⟨hrep'.defers, ?_⟩;rw[←e1] at hres hsub;obtain⟨vs',h2,h3⟩:=ZmG (P:=P) ok' hrep' _ _ _ _ hres hc1
   refine⟨if h:vs'.toArray.size=1 then vs'.toArray[0] else .tuple vs'.toArray, ?_,if h:vs'.toArray.size=1 then vs'.toArray[0] else .tuple vs'.toArray,
    Zl0 σ' (yw H.length++keep) H',rfl,rfl,rfl, ?_,Zq3 ok' honce hsub, ?_⟩
   ·rw[Zzx,Sem.run_bind, ←Array.toArray_toList (xs:=fn.results),List.mapM_toArray];simp only[Sem.run_map,h2,Result.andThen_ok,Sem.run_pure]
   ·rw[←hH] at honce hsub ⊢;exact Zq4 ok to honce hsub
   ·rcases hrn with hrn|hrn
    ·exact Zff (Zik hsub) hrn (ZuA h3)
    ·refine Zff (Zik hsub) hrn (ZuA ?_);exact ZDT h3
  have main':bodyPost P fn (λe w'=>∃v σ'',e=.returned v∧σ''.w=w'∧σ''.H=H'∧To σ σ''∧Ok σ''∧repDV σ'' r v) ex.to a σ'.w:=by
   have hall:a.defers=[]∧∃v,(results fn a.tmps).run P σ'.w=.ok v σ'.w∧∃v0 σ'',(Ending.returned v)=.returned v0∧σ''.w=σ'.w∧σ''.H=H'∧To σ σ''∧Ok σ''∧repDV σ'' r v0:=by
    split at hfin
    ·rename_i ho hrn hsub;simp only[yi,yl] at hfin;obtain⟨rfl,rfl,rfl⟩:=hfin;exact main _ (.inl hrn) ho hsub hc
    ·rename_i ho hrn _ hsub;simp only[yi,yl] at hfin;obtain⟨rfl,rfl,rfl⟩:=hfin;exact main _ (.inr hrn) ho hsub hc
    ·cases hfin
   rcases hex with rfl|rfl
   ·exact hall
   ·exact hall
  exact main'
 ·cases hfin
end
end Go.Ev
end
section
namespace Go.Ev
theorem ZrW{P:yg}{c:Code}{ts ts':List Dv}{H H':List Ent}{ex:Ex}{hs hs':List Hint}{C:List Prop}(h:ev P c ts H hs=some (C,ex,ts',H',hs'))(hc:AllP C):Ww P c ts H ex ts' H':=
 Zbc c _ _ _ _ _ _ _ _ h hc
def ZB:Code→List Code
 |.seq a b=>ZB a++ZB b
 |.cond _ a b=>ZB a++ZB b
 |.block _ a=>ZB a
 |.scope a=>ZB a
 |.loop a=>.loop a::ZB a
 |_=>[]
def ZEb(P:yg)(g i:Nat):Code:=
 match P.funcs[g]? with
 |some fn=>match fn.body with
  |some c=>(ZB c).getD i .skip
  |none=>.skip
 |none=>.skip
def ZIm:Code→Code
 |.loop a=>a
 |c=>c
def W2(P:yg)(g i:Nat):Code:=ZIm (ZEb P g i)
def u8(b:UInt8):Pl:=.int .u8 (b.toNat:Int)
theorem ZxK{f:Nat→Option Nat}{σ σ':Sg}(h:Rn f σ σ'){ts ts':List Dv}{a:Act}(e:Dv.rns f ts=some ts')(hr:RepT σ ts a):RepT σ' ts' a:=by
 refine⟨by rw[Zmz e];exact hr.size, ?_,hr.defers⟩
 have key:∀(xs ys:List Dv),Dv.rns f xs=some ys→∀(i:Nat)(d:Dv),ys[i]? =some d→∃d0,xs[i]? =some d0∧d0.rn f=some d:=by
  intro xs
  induction xs with
  |nil=>
   intro ys h1 i d h2;simp only[Dv.rns,yi] at h1;subst h1
   simp at h2
  |cons x r ih=>
   intro ys h1 i d h2;simp only[Dv.rns] at h1;split at h1
   ·rename_i y ys' h3 h4;cases h1
    cases i with
    |zero=>simp only[yas,yi] at h2 ⊢;subst h2;exact⟨x,rfl,h3⟩
    |succ j=>simp only[yap] at h2 ⊢;exact ih _ h4 j d h2
   ·cases h1
 intro i d hd;obtain⟨d0,h1,h2⟩:=key ts ts' e i d hd;exact Zff h h2 (hr.at_ i d0 h1)
theorem ZCP{P:yg}{body:Code}{ts ts1 ts2:List Dv}{H H1 H2:List Ent}{ex:Ex}(mask keep:List Nat)(h1:Ww P body ts H ex ts1 H1)
 (ho:once (yw H.length++keep)=true) (hin:subEnts H1 (yw H.length++keep) (yw H.length++keep)=some H2)
 (e:Dv.rns (toIds (yw H.length++keep)) (Znb ts1 mask)=some ts2):Ww P body ts H ex ts2 H2:=by
 intro σ a ok hH hrep;subst hH;refine wp_mono (h1 σ a ok rfl hrep) ?_;rintro e' a' w' ⟨rfl,σ1,rfl,e1,to1,ok1,hrep1⟩;subst e1;exact⟨rfl,Zl0 σ1 (yw σ.H.length++keep) H2,rfl,rfl,Zq4 ok to1 ho hin,Zq3 ok1 ho hin,ZxK (Zik hin) e (Zgt (mask:=mask) hrep1)⟩
end Go.Ev
namespace Go.Ev
theorem ZA1{P:yg}{g:yv}{args args':List Dv}{H H0 H':List Ent}{r:Dv}(h:Con P g args' H0 r H')(ha:WkL args args')(hH:WkH H H0):Con P g args H r H':=by
 intro σ vs ok e hr;subst e;obtain⟨to,ok'⟩:=Znd ok hH;refine Calls.mono (h { σ with H:=H0} vs ok' rfl (ha.vs ?_)) ?_
 ·have:=to.leaf;clear ok' h;have key:∀(l:List Dv)(us:List yh),repVs σ l us→repVs { σ with H:=H0} l us:=λl us q=>repVs_leaf this l us q;exact key _ _ hr
 ·rintro e w' ⟨v,σ',h1,h2,h3,h4,h5,h6⟩;exact⟨v,σ',h1,h2,h3,to.trans h4,h5,h6⟩
theorem ZxL{P:yg}{g:yv}{args:List Dv}{H H1 H':List Ent}{r r':Dv}(h:Con P g args H r H1)(hr:Wk r r')(hH:WkH H1 H'):Con P g args H r' H':=by
 intro σ vs ok e hv;refine Calls.mono (h σ vs ok e hv) ?_;rintro e w' ⟨v,σ',h1,h2,h3,h4,h5,h6⟩;subst h3;obtain⟨to,ok'⟩:=Znd h5 hH;exact⟨v,{ σ' with H:=H'},h1,h2,rfl,h4.trans to,ok',hr.dv (Zat to.leaf h6)⟩
theorem ZuB{P:yg}{c:Code}{ts ts1 ts2:List Dv}{H H1 H2:List Ent}{ex:Ex}(h:Ww P c ts H ex ts1 H1)(ht:WkL ts1 ts2)(hH:WkH H1 H2):Ww P c ts H ex ts2 H2:=by
 intro σ a ok e hr;refine wp_mono (h σ a ok e hr) ?_;rintro e' a' w' ⟨h1,σ',rfl,h3,h4,h5,h6⟩;subst h3;obtain⟨to,ok'⟩:=Znd h5 hH;exact⟨h1,{ σ' with H:=H2},rfl,rfl,h4.trans to,ok',ht.repT (h6.to to.leaf)⟩
end Go.Ev
namespace Go.Ev
theorem ite_some{α:Type}{c:Prop}[Decidable c]{a:Option α}{r:α}(h:(if c then a else none)=some r):c∧a=some r:=by
 by_cases hc:c
 ·rw[if_pos hc] at h;exact⟨hc,h⟩
 ·rw[if_neg hc] at h;cases h
theorem ZA2{α β:Type}{f:α→β}(hf:∀a b,f a=f b→a=b):∀{l m:List α},l.map f=m.map f→l=m
 |[],[],_=>rfl
 |[],_::_,h=>by simp at h
 |_::_,[],h=>by simp at h
 |x::l,y::m,h=>by
  simp only[yaf,List.cons.injEq] at h;rw[hf _ _ h.1,ZA2 hf h.2]
instance(k:IntKind)(x:Int):Decidable (Vz k x):=by unfold Vz;exact inferInstance
theorem Znq{P:yg}{R R':yb→Pl→Prop}(h:∀t x,R t x→R' t x):∀(fs:List Field)(o:Nat)(xs:List Pl),Zho P R fs o xs→Zho P R' fs o xs
 |[],_,[],_=>trivial
 |[],_,_::_,k=>k.elim
 |_::_,_,[],k=>k.elim
 |f::fs,o,y::ys,k=>by
  obtain⟨a1,a2,a3,a4,a5,a6,a7,a8,a9⟩:=k;exact⟨a1,a2,a3,a4,a5,a6,a7,h _ _ a8,Znq h fs _ ys a9⟩
theorem Zq5{P:yg}:∀{n:Nat}{t:yb}{x:Pl},fitP P n t x→fitP P (n+1) t x
 |0,t,x,h=>by simp[fitP] at h
 |n+1,t,x,h=>by
  unfold fitP at h ⊢;split at h
  ·trivial
  ·exact h
  ·obtain⟨a1,a2,a3,a4,a5,a6⟩:=h;exact⟨a1,a2,a3,a4,a5,λy hy=>⟨Zq5 (a6 y hy).1,(a6 y hy).2⟩⟩
  ·exact⟨h.1,Znq (λt x k=>Zq5 k) _ _ _ h.2⟩
  ·exact h.elim
theorem ZA3{P:yg}{g:yv}{s:Nat}{xs:List Pl}{H H':List Ent}{r:Dv}{rest:List Dv}(h1:Con P g (.p (.sl (some true) s xs)::rest) H r H')(h2:xs=[]→Con P g (.p (.sl (some false) s [])::rest) H r H'):
 Con P g (.p (.sl none s xs)::rest) H r H':=by
 intro σ vs ok e hr;simp only[repVs] at hr;obtain⟨v,vs',rfl,hv,hrest⟩:=hr;obtain⟨k1,A,c,rfl,k2,k3,k4,k5,k6⟩:=X3 hv
 cases hA:A with
 |none=>
  have hx:xs=[]:=by
   cases xs with
   |nil=>rfl
   |cons x r=>obtain⟨b,o,us,hh,_⟩:=k6 (by simp);rw[hA] at hh;cases hh
  subst hx;subst hA;refine h2 rfl σ _ ok e ?_;simp only[repVs]
  exact⟨_,_,rfl,YQ k1 k2 k3 (Zrm rfl) k5 (λh=>absurd rfl h),hrest⟩
 |some a=>
  subst hA;refine h1 σ _ ok e ?_;simp only[repVs];exact⟨_,_,rfl,YQ k1 k2 k3 (Zch rfl) k5 k6,hrest⟩
end Go.Ev
namespace Go.Ev
end Go.Ev
namespace Go.Ev
def st(n:Nat)(l:List (Nat×Dv)):List Dv:=(yw n).map λi=>(l.lookup i).getD .junk
inductive WkA:List (Nat×Dv)→List (Nat×Dv)→Prop where
 |nil:WkA [] []
 |cons {i:Nat} {d e:Dv} {l m:List (Nat×Dv)} (h:Wk d e) (k:WkA l m):WkA ((i,d)::l) ((i,e)::m)
theorem WkA.look{l m:List (Nat×Dv)}(h:WkA l m)(i:Nat):Wk ((l.lookup i).getD .junk) ((m.lookup i).getD .junk):=by
 induction h with
 |nil=>exact Wk.refl _
 |cons h k ih=>
  rename_i j d e l m;simp only[List.lookup_cons];split
  ·exact h
  ·exact ih
theorem WkL.st{n:Nat}{l m:List (Nat×Dv)}(h:WkA l m):WkL (st n l) (st n m):=by
 unfold Go.Ev.st;generalize yw n=r
 induction r with
 |nil=>exact .nil
 |cons i r ih=>exact .cons (h.look i) ih
end Go.Ev
end
section
namespace Go.Ev
section
variable{K V:Type}[DecidableEq K]
def kvl(ek:K→Pl)(ev:V→Pl)(l:List (K×V)):List (Pl×Pl):=l.map λq=>(ek q.1,ev q.2)
def ZvK:List (K×V)→K→Option V
 |[],_=>none
 |q::l,k=>if k=q.1 then some q.2 else ZvK l k
def ZxM:List (K×V)→K→V→List (K×V)
 |[],k,v=>[(k,v)]
 |q::l,k,v=>if k=q.1 then(k,v)::l else q::ZxM l k v
def ZCQ:List (K×V)→K→List (K×V)
 |[],_=>[]
 |q::l,k=>if k=q.1 then l else q::ZCQ l k
theorem ZmH{ek:K→Pl}{ev:V→Pl}(hi:∀x y,ek x=ek y↔x=y)(k:K):∀l:List (K×V),Zhp (kvl ek ev l) (ek k) ((ZvK l k).map ev)
 |[]=>rfl
 |q::l=>by
  show Zhp ((ek q.1,ev q.2)::kvl ek ev l) (ek k) _;unfold Zhp ZvK;by_cases h:k=q.1
  ·left;rw[if_pos h];exact⟨(hi _ _).2 h,rfl⟩
  ·right;rw[if_neg h];exact⟨λhh=>h ((hi _ _).1 hh),ZmH hi k l⟩
theorem Zzy{ek:K→Pl}{ev:V→Pl}(hi:∀x y,ek x=ek y↔x=y){k:K}{l:List (K×V)}{v:V}(h:ZvK l k=some v):Zhp (kvl ek ev l) (ek k) (some (ev v)):=by
 have:=ZmH (ev:=ev) hi k l;rw[h] at this;exact this
theorem Zzz{ek:K→Pl}{ev:V→Pl}(hi:∀x y,ek x=ek y↔x=y){k:K}{l:List (K×V)}(h:(ZvK l k).isSome=false):Zhp (kvl ek ev l) (ek k) none:=by
 have:=ZmH (ev:=ev) hi k l
 cases hm:ZvK l k with
 |none=>rw[hm] at this;exact this
 |some v=>rw[hm] at h;cases h
theorem ZrX{ek:K→Pl}{ev:V→Pl}(hi:∀x y,ek x=ek y↔x=y)(k:K)(v:V):∀l:List (K×V),ZlX (kvl ek ev l) (ek k) (ev v) (kvl ek ev (ZxM l k v))
 |[]=>rfl
 |q::l=>by
  show ZlX ((ek q.1,ev q.2)::kvl ek ev l) (ek k) (ev v) _;unfold ZlX ZxM;by_cases h:k=q.1
  ·left;rw[if_pos h];exact⟨(hi _ _).2 h,rfl⟩
  ·right;rw[if_neg h];exact⟨λhh=>h ((hi _ _).1 hh),_,rfl,ZrX hi k v l⟩
theorem ZrY{ek:K→Pl}{ev:V→Pl}(hi:∀x y,ek x=ek y↔x=y)(k:K):∀l:List (K×V),ZlY (kvl ek ev l) (ek k) (kvl ek ev (ZCQ l k))
 |[]=>rfl
 |q::l=>by
  show ZlY ((ek q.1,ev q.2)::kvl ek ev l) (ek k) _;unfold ZlY ZCQ;by_cases h:k=q.1
  ·left;rw[if_pos h];exact⟨(hi _ _).2 h,rfl⟩
  ·right;rw[if_neg h];exact⟨λhh=>h ((hi _ _).1 hh),_,rfl,ZrY hi k l⟩
end
theorem Zlb{K V:Type}{P:yg}{kt:yb}{ek:K→Pl}{ev:V→Pl}(h:∀x,fitP P 20 kt (ek x))(l:List (K×V)):Zgl P kt (kvl ek ev l):=by
 intro q hq;obtain⟨p,_,rfl⟩:=List.mem_map.1 hq;exact h _
end Go.Ev
namespace Go.Ev
theorem ZxN{P:yg}{g:yv}{s:Nat}{e:yb}{H H':List Ent}{r:Dv}{rest:List Dv}(h:Con P g (.own H.length none s []::rest) (H++[.log s e []]) r H'):
 Con P g (.p (.sl (some false) s [])::rest) H r H':=by
 intro σ vs ok eH hr;simp only[repVs] at hr;obtain⟨v,vs',rfl,hv,hrest⟩:=hr;obtain rfl:=ZrC hv;subst eH;obtain⟨to,ok'⟩:=WJ (σ':={ σ with m:=σ.m++[none],H:=σ.H++[.log s e []]}) ok rfl rfl rfl rfl (World.grownBy.refl σ.w none) (.inl rfl) (λ_=>.inl ⟨rfl,rfl⟩);refine(h { σ with m:=σ.m++[none],H:=σ.H++[.log s e []]} (.slice none 0 0::vs') ok' rfl ?_).mono λex w'⟨v,σ',h1,h2,h3,h4,h5,h6⟩=>⟨v,σ',h1,h2,h3,to.trans h4,h5,h6⟩;simp only[repVs];refine⟨_,_,rfl,(Zd (d:=.own σ.H.length none s []) rfl).2 ?_,repVs_leaf to.leaf _ _ hrest⟩;simp only[repD];refine⟨λ_ hx=>(by cases hx),none,0,rfl,yn _,by simp[maxLen],Yx _,λ_=>rfl,λh=>absurd rfl h,e,[],by simp,yn _,λ_=>.inl ⟨?_,rfl,rfl⟩⟩;rw[yat (by rw[ok.len];exact yn _),ok.len];simp
end Go.Ev
namespace Go.Ev
end Go.Ev
end
section
namespace Go.Ev
inductive DeepR(H:List Ent):Dv→Pl→Prop where
 |p (x:Pl):DeepR H (.p x) x
 |own (id:Nat) (nn:Option Bool) (s:Nat) (xs:List Pl):DeepR H (.own id nn s xs) (.sl nn s xs)
 |agg {ds:List Dv} {ys:List Pl} (hl:ds.length=ys.length) (h:∀(i:Nat)(d:Dv)(y:Pl),ds[i]? =some d→ys[i]? =some y→DeepR H d y):DeepR H (.agg ds) (.agg ys)
 |rvp {id v s lo n N:Nat} {e:yb} {xs:List Pl} (hH:H[id]? =some (.row v s false e (.p (.arr N s xs)))) (hle:lo+n≤N):DeepR H (.rv id v s lo n) (.sl none s ((xs.drop lo).take n))
 |rva {id v s lo n N:Nat} {e:yb} {ds:List Dv} {ys:List Pl} (hH:H[id]? =some (.row v s false e (.arr N s ds))) (hle:lo+n≤N) (hl:ds.length=ys.length)
   (h:∀(i:Nat)(d:Dv)(y:Pl),ds[i]? =some d→ys[i]? =some y→DeepR H d y):DeepR H (.rv id v s lo n) (.sl none s ((ys.drop lo).take n))
 |wk {d:Dv} {x y:Pl} (h:DeepR H d x) (k:PlWk x y):DeepR H d y
theorem ZoR{σ:Sg}:∀{ds:List Dv}{ys:List Pl}{us:List yh},ds.length=ys.length→(∀(i:Nat)(d:Dv)(y:Pl),ds[i]? =some d→ys[i]? =some y→∀vs,repD σ d vs→repC σ.w σ.stab y vs)→repDs σ ds us→repCs σ.w σ.stab ys us
 |[],[],us,_,_,h=>by simpa[repDs,repCs] using h
 |[],_::_,_,hl,_,_=>by simp at hl
 |_::_,[],_,hl,_,_=>by simp at hl
 |d::ds,y::ys,us,hl,hk,h=>by
  simp only[repDs] at h;obtain⟨a,b,h1,h2,h3⟩:=h;simp only[repCs];exact⟨a,b,h1,hk 0 d y rfl rfl a h2,ZoR (by simpa using hl) (λi d y h4 h5=>hk (i+1) d y (by simpa using h4) (by simpa using h5)) h3⟩
theorem ZxO{σ:Sg}(ok:Ok σ){id v s lo n N:Nat}{e:yb}{dd:Dv}{xs:List Pl}{u:yh}(hx:repDV σ (.rv id v s lo n) u)(hH:σ.H[id]? =some (.row v s false e dd))(hN:rowN dd s=some N)(hle:lo+n≤N)
 (hd:∀us,repD σ dd us→xs.length=N∧allSz s xs∧repCs σ.w σ.stab xs us):repDV σ (.p (.sl none s ((xs.drop lo).take n))) u:=by
 obtain⟨A,c,rfl,h2,h3,h4,h5,v2,s2,st2,e2,d2,h6,h7,h8⟩:=Zic hx;rw[hH] at h6;cases h6;obtain⟨_,h9⟩:=h8 rfl;have hidlt:id < σ.m.length:=by rw[ok.len];exact(yr.1 hH).1
 have hmi:σ.m[id]? =some σ.m[id]:=yac hidlt;obtain⟨N',hN',hent⟩:=ok.ent id _ _ hH hmi;rw[hN] at hN';cases hN';by_cases hn:n=0
 ·subst hn;have:=YQ (σ:=σ) (nn:=none) (s:=s) (xs:=[]) (A:=A) (c:=c) (λ_ hx=>by cases hx) (by simp) h3 (Yx _) h4 (λh=>absurd rfl h);simpa using this
 have hpos:0 < n:=Nat.pos_of_ne_zero hn;rcases h9 with⟨_,_,hz⟩|⟨b,cur,k1,k2,k3,k4⟩
 ·omega
 rw[hmi] at k1;rcases hent with⟨hh,_⟩|⟨b',cur',cap,hh,g2,g4,g5,g6,g7⟩
 ·rw[hh] at k1;cases k1
 rw[hh] at k1;cases k1;rw[k2] at g2;cases g2;obtain⟨hxl,hxs,h7⟩:=hd _ g7
 have hsplit:xs=xs.take lo++((xs.drop lo).take n++xs.drop (lo+n)):=by
  have e1:xs.drop (lo+n)=(xs.drop lo).drop n:=by rw[List.drop_drop]
  rw[e1,ybn,ybn]
 rw[hsplit] at h7;obtain⟨q1,q23,e1,r1,r23⟩:=YR h7;obtain⟨q2,q3,rfl,r2,r3⟩:=YR r23;have hsy:allSz s ((xs.drop lo).take n):=λz hz=>hxs z (List.mem_of_mem_drop (List.mem_of_mem_take hz));have ly:((xs.drop lo).take n).length=n:=by rw[List.length_take,List.length_drop,Nat.min_eq_left (by omega)]
 have l1:q1.length=lo*s:=by rw[repCs_size _ _ r1,sizes_all (λz hz=>hxs z (List.mem_of_mem_take hz)),List.length_take,Nat.min_eq_left (by omega)]
 have hmk:=YQ (σ:=σ) (nn:=none) (A:=A) (c:=c) hsy (by rw[ly];exact h2) h3 (Yx _) h4 (λ_=>by
  refine⟨b,lo*s,q2,k4 (by omega),r2,λj u hu=>⟨?_,.inr (ok.own id b (by rw[hmi,hh])),λj' e' g1 g2=> ?_⟩⟩
  ·rw[cell_of_row σ.w b _ cur e (0,0) k2, ←Array.getElem?_toList];have hj:j < q2.length:=(yr.1 hu).1
   have e2:(cur.toList.take (N*s))[lo*s+j]? =some u:=by
    rw[e1,yat (by omega),l1,Nat.add_sub_cancel_left,yan hj];exact hu
   rw[List.getElem?_take] at e2;split at e2
   ·exact e2
   ·cases e2
  ·have:j'=id:=ok.inj j' id b g1 (by rw[hmi,hh]);subst this;rw[hH] at g2;cases g2;refine⟨rfl,N,hN, ?_⟩;have hj:=(yr.1 hu).1;have l2:q2.length=n*s:=by rw[repCs_size _ _ r2,sizes_all hsy,ly]
   have h9:(lo+n)*s≤N*s:=Nat.mul_le_mul_right _ hle;rw[l2] at hj;rw[Nat.add_mul] at h9;omega)
 rw[ly] at hmk;exact hmk
theorem ZrZ{σ:Sg}(ok:Ok σ){d:Dv}{x:Pl}(h:DeepR σ.H d x):∀vs,repD σ d vs→repC σ.w σ.stab x vs:=by
 induction h with
 |p x=>intro vs hr;simpa[repD] using hr
 |own id nn s xs=>
  intro vs hr;have hv:∃v,vs=[v]:=by simp only[repD] at hr;obtain⟨_,A,c,rfl,_⟩:=hr;exact⟨_,rfl⟩
  obtain⟨v,rfl⟩:=hv;have:=QL ((Zd (by rfl)).2 hr);rw[Zd (by rfl)] at this
  simpa[repD] using this
 |agg hl h ih=>
  intro vs hr;simp only[repD] at hr;simp only[repC]
  exact ZoR hl ih hr
 |rvp hH hle=>
  intro vs hr;have hv:∃v,vs=[v]:=by simp only[repD] at hr;obtain⟨A,c,rfl,_⟩:=hr;exact⟨_,rfl⟩
  obtain⟨v,rfl⟩:=hv;have:=ZxO ok ((Zd (by rfl)).2 hr) hH (by simp[rowN]) hle (λus h=>by simp only[repD,repC] at h;exact h);rw[Zd (by rfl)] at this
  simpa[repD] using this
 |rva hH hle hl h ih=>
  rename_i id v s lo n N e ds ys;intro vs hr;have hv:∃v,vs=[v]:=by simp only[repD] at hr;obtain⟨A,c,rfl,_⟩:=hr;exact⟨_,rfl⟩
  obtain⟨v,rfl⟩:=hv
  have:=ZxO (xs:=ys) ok ((Zd (by rfl)).2 hr) hH (by simp[rowN]) hle (λus h=>by
   simp only[repD] at h;obtain⟨h1,h2,h3⟩:=h;refine⟨by rw[←hl];exact h1, ?_,ZoR hl ih h3⟩;intro y hy;obtain⟨i,hi⟩:=List.getElem?_of_mem hy;have hlt:i < ds.length:=by rw[hl];exact(yr.1 hi).1
   have hd:=yac hlt;obtain⟨a,b,c,e1,l1,r2,_⟩:=Zfe h3 hd;have q1:=We _ _ (ih i _ y hd hi b r2);have q2:=XT _ _ r2;rw[←q1,q2];exact h2 _ (List.mem_of_getElem? hd))
  rw[Zd (by rfl)] at this
  simpa[repD] using this
 |wk h k ih=>intro vs hr;exact k.rep _ _ _ (ih vs hr)
theorem ZGE{σ:Sg}(ok:Ok σ){d:Dv}{x:Pl}(h:DeepR σ.H d x){v:yh}(hr:repDV σ d v):repDV σ (.p x) v:=by
 have ha:d.isAgg=x.isAgg:=by
  have key:∀{d:Dv}{x:Pl},DeepR σ.H d x→d.isAgg=x.isAgg:=by
   intro d x h
   induction h with
   |p x=>rfl
   |own=>rfl
   |agg=>rfl
   |rvp=>rfl
   |rva=>rfl
   |wk h k ih=>rw[←k.agg];exact ih
  exact key h
 obtain⟨h1,h2⟩:=hr;refine⟨λq=> ?_,λq=> ?_⟩
 ·obtain⟨cs,e1,e2⟩:=h1 (by rw[ha];exact q);exact⟨cs,e1,by simp only[repD];exact ZrZ ok h _ e2⟩
 ·simp only[repD];exact ZrZ ok h _ (h2 (by rw[ha];exact q))
inductive DeepP(H:List Ent):Dv→Dv→Prop where
 |refl (d:Dv):DeepP H d d
 |deep {d:Dv} {x:Pl} (h:DeepR H d x):DeepP H d (.p x)
inductive DeepL(H:List Ent):List Dv→List Dv→Prop where
 |nil:DeepL H [] []
 |cons {d e:Dv} {ds es:List Dv} (h:DeepP H d e) (k:DeepL H ds es):DeepL H (d::ds) (e::es)
theorem ZxP{σ:Sg}(ok:Ok σ){d e:Dv}(h:DeepP σ.H d e){v:yh}(hr:repDV σ d v):repDV σ e v:=by
 cases h with
 |refl=>exact hr
 |deep h=>exact ZGE ok h hr
theorem ZEc{σ:Sg}(ok:Ok σ){ds es:List Dv}(h:DeepL σ.H ds es):∀{vs:List yh},repVs σ ds vs→repVs σ es vs:=by
 induction h with
 |nil=>intro vs h;exact h
 |cons h k ih=>
  intro vs hr;simp only[repVs] at hr ⊢;obtain⟨v,vs',h1,h2,h3⟩:=hr;exact⟨v,vs',h1,ZxP ok h h2,ih h3⟩
inductive DeepT(H:List Ent):Dv→Dv→Prop where
 |one {d e:Dv} (h:DeepP H d e):DeepT H d e
 |tup {ds es:List Dv} (h:DeepL H ds es):DeepT H (.tup ds) (.tup es)
theorem ZEd{P:yg}{g:yv}{args:List Dv}{H H1 H':List Ent}{r r':Dv}(h:Con P g args H r H1)(hH:WkH H1 H')(hr:DeepT H' r r'):Con P g args H r' H':=by
 intro σ vs ok e hv;refine Calls.mono (h σ vs ok e hv) ?_;rintro e w' ⟨v,σ',h1,h2,h3,h4,h5,h6⟩;subst h3;obtain⟨to,ok'⟩:=Znd h5 hH;have h7:=Zat to.leaf h6;refine⟨v,{ σ' with H:=H'},h1,h2,rfl,h4.trans to,ok', ?_⟩
 cases hr with
 |one hr=>exact ZxP ok' hr h7
 |tup hr=>
  rw[Zd rfl] at h7 ⊢;simp only[repD] at h7 ⊢;obtain⟨cs,e1,e2⟩:=h7;exact⟨cs,e1,ZEc ok' hr e2⟩
inductive Ty where
 |int (k:IntKind)
 |u8|u32|u64
 |bool
 |str
 |sl (t:Ty)
 |arr (n:Nat) (t:Ty)
 |st (fs:List Ty)
 deriving Inhabited
mutual
def Ty.den:Ty→Type
 |.int _=>Int
 |.u8=>UInt8
 |.u32=>UInt32
 |.u64=>UInt64
 |.bool=>Bool
 |.str=>ByteArray
 |.sl t=>List (Ty.den t)
 |.arr _ t=>List (Ty.den t)
 |.st fs=>Ty.dens fs
def Ty.dens:List Ty→Type
 |[]=>Unit
 |[t]=>Ty.den t
 |t::u::r=>Ty.den t×Ty.dens (u::r)
end
mutual
def Ty.size:Ty→Nat
 |.arr n t=>n*Ty.size t
 |.st fs=>Ty.sizes fs
 |_=>1
def Ty.sizes:List Ty→Nat
 |[]=>0
 |t::r=>Ty.size t+Ty.sizes r
end
mutual
def Ty.dec:(a b:Ty)→Decidable (a=b)
 |.int k,.int l=>if h:k=l then isTrue (by rw[h]) else isFalse (by intro e;cases e;exact h rfl)
 |.u8,.u8=>isTrue rfl
 |.u32,.u32=>isTrue rfl
 |.u64,.u64=>isTrue rfl
 |.bool,.bool=>isTrue rfl
 |.str,.str=>isTrue rfl
 |.sl t,.sl u=>match Ty.dec t u with
  |isTrue h=>isTrue (by rw[h])
  |isFalse h=>isFalse (by intro e;cases e;exact h rfl)
 |.arr n t,.arr m u=>if k:n=m then match Ty.dec t u with
  |isTrue h=>isTrue (by rw[h,k])
  |isFalse h=>isFalse (by intro e;cases e;exact h rfl) else isFalse (by intro e;cases e;exact k rfl)
 |.st fs,.st gs=>match Ty.decs fs gs with
  |isTrue h=>isTrue (by rw[h])
  |isFalse h=>isFalse (by intro e;cases e;exact h rfl)
 |.int _,.u8=>isFalse nofun
 |.int _,.u32=>isFalse nofun
 |.int _,.u64=>isFalse nofun
 |.int _,.bool=>isFalse nofun
 |.int _,.str=>isFalse nofun
 |.int _,.sl _=>isFalse nofun
 |.int _,.arr _ _=>isFalse nofun
 |.int _,.st _=>isFalse nofun
 |.u8,.int _=>isFalse nofun
 |.u8,.u32=>isFalse nofun
 |.u8,.u64=>isFalse nofun
 |.u8,.bool=>isFalse nofun
 |.u8,.str=>isFalse nofun
 |.u8,.sl _=>isFalse nofun
 |.u8,.arr _ _=>isFalse nofun
 |.u8,.st _=>isFalse nofun
 |.u32,.int _=>isFalse nofun
 |.u32,.u8=>isFalse nofun
 |.u32,.u64=>isFalse nofun
 |.u32,.bool=>isFalse nofun
 |.u32,.str=>isFalse nofun
 |.u32,.sl _=>isFalse nofun
 |.u32,.arr _ _=>isFalse nofun
 |.u32,.st _=>isFalse nofun
 |.u64,.int _=>isFalse nofun
 |.u64,.u8=>isFalse nofun
 |.u64,.u32=>isFalse nofun
 |.u64,.bool=>isFalse nofun
 |.u64,.str=>isFalse nofun
 |.u64,.sl _=>isFalse nofun
 |.u64,.arr _ _=>isFalse nofun
 |.u64,.st _=>isFalse nofun
 |.bool,.int _=>isFalse nofun
 |.bool,.u8=>isFalse nofun
 |.bool,.u32=>isFalse nofun
 |.bool,.u64=>isFalse nofun
 |.bool,.str=>isFalse nofun
 |.bool,.sl _=>isFalse nofun
 |.bool,.arr _ _=>isFalse nofun
 |.bool,.st _=>isFalse nofun
 |.str,.int _=>isFalse nofun
 |.str,.u8=>isFalse nofun
 |.str,.u32=>isFalse nofun
 |.str,.u64=>isFalse nofun
 |.str,.bool=>isFalse nofun
 |.str,.sl _=>isFalse nofun
 |.str,.arr _ _=>isFalse nofun
 |.str,.st _=>isFalse nofun
 |.sl _,.int _=>isFalse nofun
 |.sl _,.u8=>isFalse nofun
 |.sl _,.u32=>isFalse nofun
 |.sl _,.u64=>isFalse nofun
 |.sl _,.bool=>isFalse nofun
 |.sl _,.str=>isFalse nofun
 |.sl _,.arr _ _=>isFalse nofun
 |.sl _,.st _=>isFalse nofun
 |.arr _ _,.int _=>isFalse nofun
 |.arr _ _,.u8=>isFalse nofun
 |.arr _ _,.u32=>isFalse nofun
 |.arr _ _,.u64=>isFalse nofun
 |.arr _ _,.bool=>isFalse nofun
 |.arr _ _,.str=>isFalse nofun
 |.arr _ _,.sl _=>isFalse nofun
 |.arr _ _,.st _=>isFalse nofun
 |.st _,.int _=>isFalse nofun
 |.st _,.u8=>isFalse nofun
 |.st _,.u32=>isFalse nofun
 |.st _,.u64=>isFalse nofun
 |.st _,.bool=>isFalse nofun
 |.st _,.str=>isFalse nofun
 |.st _,.sl _=>isFalse nofun
 |.st _,.arr _ _=>isFalse nofun
def Ty.decs:(a b:List Ty)→Decidable (a=b)
 |[],[]=>isTrue rfl
 |t::r,u::q=>match Ty.dec t u,Ty.decs r q with
  |isTrue h,isTrue k=>isTrue (by rw[h,k])
  |isFalse h,_=>isFalse (by intro e;cases e;exact h rfl)
  |_,isFalse h=>isFalse (by intro e;cases e;exact h rfl)
 |[],_::_=>isFalse nofun
 |_::_,[]=>isFalse nofun
end
instance:DecidableEq Ty:=Ty.dec
def Ty.cast(t u:Ty)(x:t.den):Option u.den:=
 match Ty.dec t u with
 |isTrue h=>some (h ▸ x)
 |isFalse _=>none
def Ty.castL(t u:Ty)(x:List t.den):Option (List u.den):=
 match Ty.dec t u with
 |isTrue h=>some (h ▸ x)
 |isFalse _=>none
theorem ZaR{t u:Ty}{x:t.den}{y:u.den}(h:Ty.cast t u x=some y):∃e:t=u,y=e ▸ x:=by
 unfold Ty.cast at h;split at h
 ·rename_i e _;exact⟨e,(ybm h).symm⟩
 ·cases h
theorem ZE{t u:Ty}{x:List t.den}{y:List u.den}(h:Ty.castL t u x=some y):∃e:t=u,y=e ▸ x:=by
 unfold Ty.castL at h;split at h
 ·rename_i e _;exact⟨e,(ybm h).symm⟩
 ·cases h
mutual
def Ty.enc:(t:Ty)→t.den→Pl
 |.int k,n=>.int k n
 |.u8,b=>.int .u8 (b.toNat:Int)
 |.u32,b=>.int .u32 (b.toNat:Int)
 |.u64,b=>.int .u64 (b.toNat:Int)
 |.bool,b=>.bool b
 |.str,s=>.str s
 |.sl t,l=>.sl none (Ty.size t) (List.map (Ty.enc t) l)
 |.arr n t,l=>.arr n (Ty.size t) (List.map (Ty.enc t) l)
 |.st fs,x=>.agg (Ty.encs fs x)
def Ty.encs:(fs:List Ty)→Ty.dens fs→List Pl
 |[],_=>[]
 |[t],x=>[Ty.enc t x]
 |t::u::r,x=>Ty.enc t x.1::Ty.encs (u::r) x.2
end
mutual
theorem Zhv:∀(t:Ty)(x:t.den),(t.enc x).size=t.size
 |.int _,_=>rfl
 |.u8,_=>rfl
 |.u32,_=>rfl
 |.u64,_=>rfl
 |.bool,_=>rfl
 |.str,_=>rfl
 |.sl _,_=>rfl
 |.arr _ _,_=>rfl
 |.st fs,x=>by rw[Ty.enc,Pl.size,Ty.size];exact encs_sizes fs x
theorem encs_sizes:∀(fs:List Ty)(x:Ty.dens fs),Pl.sizes (Ty.encs fs x)=Ty.sizes fs
 |[],_=>rfl
 |[t],x=>by simp only[Ty.encs,Pl.sizes,Ty.sizes];rw[Zhv t x]
 |t::u::r,x=>by rw[Ty.encs,Pl.sizes,Ty.sizes,Zhv t x.1,encs_sizes (u::r) x.2]
end
mutual
theorem Znr:∀(t:Ty)(x:t.den),(t.enc x).soft=t.enc x
 |.int _,_=>rfl
 |.u8,_=>rfl
 |.u32,_=>rfl
 |.u64,_=>rfl
 |.bool,_=>rfl
 |.str,_=>rfl
 |.sl _,_=>rfl
 |.arr n t,x=>by
  have key:∀l:List t.den,Pl.soft (.arr n t.size (l.map t.enc))=.arr n t.size (l.map t.enc):=by
   intro l;rw[Pl.soft,Pl.softs_map,ybc];congr 1;exact ycj λy _=>Znr t y
  exact key x
 |.st fs,x=>by rw[Ty.enc,Pl.soft,encs_softs fs x]
theorem encs_softs:∀(fs:List Ty)(x:Ty.dens fs),Pl.softs (Ty.encs fs x)=Ty.encs fs x
 |[],_=>rfl
 |[t],x=>by simp only[Ty.encs,Pl.softs];rw[Znr t x]
 |t::u::r,x=>by rw[Ty.encs,Pl.softs,Znr t x.1,encs_softs (u::r) x.2]
end
theorem Zb{α β:Type}{f:α→β}{o:Option α}{y:β}(h:o.map f=some y):∃x,o=some x∧f x=y:=yq.1 h
def Ty.proj:(fs:List Ty)→Ty.dens fs→Nat→Option (Σ t:Ty,t.den)
 |[],_,_=>none
 |[t],x,0=>some ⟨t,x⟩
 |[_],_,_+1=>none
 |t::_::_,x,0=>some ⟨t,x.1⟩
 |_::u::r,x,i+1=>Ty.proj (u::r) x.2 i
def Ty.upd:(fs:List Ty)→Ty.dens fs→Nat→(t:Ty)→t.den→Option (Ty.dens fs)
 |[],_,_,_,_=>none
 |[t],_,0,u,y=>Ty.cast u t y
 |[_],_,_+1,_,_=>none
 |t::v::r,x,0,u,y=>(Ty.cast u t y).map λz=>(z,x.2)
 |_::v::r,x,i+1,u,y=>(Ty.upd (v::r) x.2 i u y).map λz=>(x.1,z)
theorem ZxQ:∀(fs:List Ty)(x:Ty.dens fs)(i:Nat)(q:Σ t:Ty,t.den),Ty.proj fs x i=some q→(Ty.encs fs x)[i]? =some (q.1.enc q.2)
 |[],_,_,_,h=>by cases h
 |[t],x,0,q,h=>by cases h;rfl
 |[_],_,_+1,_,h=>by cases h
 |t::_::_,x,0,q,h=>by cases h;rfl
 |t::u::r,x,i+1,q,h=>by
  rw[Ty.encs,yap];exact ZxQ (u::r) x.2 i q h
theorem ZA4:∀(fs:List Ty)(x:Ty.dens fs)(i:Nat)(t:Ty)(y:t.den)(z:Ty.dens fs),Ty.upd fs x i t y=some z→Ty.encs fs z=(Ty.encs fs x).set i (t.enc y)
 |[],_,_,_,_,_,h=>by cases h
 |[t],x,0,u,y,z,h=>by
  obtain⟨e,rfl⟩:=ZaR h;subst e
  rfl
 |[_],_,_+1,_,_,_,h=>by cases h
 |t::v::r,x,0,u,y,z,h=>by
  obtain⟨w,h1,h2⟩:=Zb (α:=t.den) (β:=t.den×Ty.dens (v::r)) h;subst h2;obtain⟨e,rfl⟩:=ZaR h1;subst e
  rfl
 |t::v::r,x,i+1,u,y,z,h=>by
  obtain⟨w,h1,h2⟩:=Zb (α:=Ty.dens (v::r)) (β:=t.den×Ty.dens (v::r)) h;subst h2;show t.enc x.1::Ty.encs (v::r) w=(t.enc x.1::Ty.encs (v::r) x.2).set (i+1) (u.enc y);rw[List.set_cons_succ,ZA4 (v::r) x.2 i u y w h1]
inductive TP where
 |v (t:Ty) (x:t.den)
 |sl (nn:Option Bool) (t:Ty) (xs:List t.den)
 |agg (xs:List TP)
 |arr (n s:Nat) (xs:List TP)
 |sll (nn:Option Bool) (s:Nat) (xs:List TP)
 |ptr0|fn0|if0|map0
 |fnv (f:yv)
 |iface (t:yb) (x:TP)
instance:Inhabited TP:=⟨.ptr0⟩
mutual
def TP.pe:TP→Pl
 |.v t x=>t.enc x
 |.sl nn t xs=>.sl nn t.size (xs.map t.enc)
 |.agg xs=>.agg (TP.pes xs)
 |.arr n s xs=>.arr n s (TP.pes xs)
 |.sll nn s xs=>.sl nn s (TP.pes xs)
 |.ptr0=>.ptr0
 |.fn0=>.fn0
 |.if0=>.if0
 |.map0=>.map0
 |.fnv f=>.fnv f
 |.iface t x=>.iface t (TP.pe x)
def TP.pes:List TP→List Pl
 |[]=>[]
 |x::r=>x.pe::TP.pes r
end
theorem ZcJ:∀(xs:List TP),TP.pes xs=xs.map TP.pe
 |[]=>rfl
 |x::r=>by rw[TP.pes,ZcJ r];rfl
def Ty.flds:(fs:List Ty)→Ty.dens fs→List TP
 |[],_=>[]
 |[t],x=>[.v t x]
 |t::u::r,x=>.v t x.1::Ty.flds (u::r) x.2
theorem ZvL:∀(fs:List Ty)(x:Ty.dens fs),TP.pes (Ty.flds fs x)=Ty.encs fs x
 |[],_=>rfl
 |[t],x=>rfl
 |t::u::r,x=>by
  show t.enc x.1::TP.pes (Ty.flds (u::r) x.2)=t.enc x.1::Ty.encs (u::r) x.2;rw[ZvL (u::r) x.2]
def TP.parts:TP→Option (List TP)
 |.v (.st fs) x=>some (Ty.flds fs x)
 |.agg l=>some l
 |_=>none
theorem ZxR{x:TP}{l:List TP}(h:x.parts=some l):x.pe=.agg (TP.pes l):=by
 cases x with
 |v t a=>
  cases t with
  |st fs=>
   cases (show some (Ty.flds fs a)=some l from h)
   exact congrArg Pl.agg (ZvL fs a).symm
  |_=>cases h
 |agg l'=>cases h;rfl
 |_=>cases h
def ZuC:List Nat→TP→TP
 |[],x=>match x with
  |.v (.sl t) _=>.sl (some false) t []
  |x=>x
 |i::r,x=>match x.parts with
  |some l=>match l[i]? with
   |some z=>.agg (l.set i (ZuC r z))
   |none=>x
  |none=>x
inductive Stp where
 |fld (i o:Nat)
 |ix (i s:Nat)
def Stp.i:Stp→Nat
 |.fld i _=>i
 |.ix i _=>i
def Stp.o:Stp→Nat
 |.fld _ o=>o
 |.ix i s=>i*s
def W8:List Stp→Nat
 |l=>l.foldl (λn q=>n+q.o) 0
inductive TD where
 |p (x:TP)
 |elem (x:TP)
 |ref (id:Nat) (path:List Stp)
 |own (id:Nat) (nn:Option Bool) (t:Ty) (c:Option (List t.den))
 |view (id:Nat) (path:List Stp) (s lo n:Nat)
 |agg (xs:List TD)
 |arr (n s:Nat) (xs:List TD)
 |fn (f:yv) (cap:List TD)
 |iface (t:yb) (x:TD)
 |tup (xs:List TD)
 |mp (id:Nat)
 |rv (id v s lo n:Nat)
 |rref (id v:Nat) (path:List Stp)
 |rw(id:Nat)
 |rp (id:Nat) (path:List Stp)
 |junk
instance:Inhabited TD:=⟨.junk⟩
abbrev Lk:=Nat→Option (Σ t:Ty,List t.den)
def Ya(L:Lk)(id:Nat)(t:Ty):Option (List t.den)→List t.den
 |some xs=>xs
 |none=>match L id with
  |some q=>(Ty.castL q.1 t q.2).getD []
  |none=>[]
def ZbU(L:Lk)(id k:Nat):Nat:=(((Ya L id (.sl (.st [])) none)[k]?).getD []).length
mutual
def TD.er(L:Lk):TD→Dv
 |.p x=>.p x.pe
 |.elem x=>.elem x.pe
 |.ref id path=>.ref id (W8 path) (path.map Stp.i)
 |.own id nn t c=>.own id nn t.size ((Ya L id t c).map t.enc)
 |.view id path s lo n=>.view id (W8 path) (path.map Stp.i) s lo n
 |.agg xs=>.agg (TD.ers L xs)
 |.arr n s xs=>.arr n s (TD.ers L xs)
 |.fn f cap=>.fn f (TD.ers L cap)
 |.iface t x=>.iface t (TD.er L x)
 |.tup xs=>.tup (TD.ers L xs)
 |.mp id=>.mp id
 |.rv id v s lo n=>.rv id v s lo n
 |.rref id v path=>.rref id v (W8 path) (path.map Stp.i)
 |.rw id=>.rv id (ZbU L id 0) (ZbU L id 1) 0 (ZbU L id 2)
 |.rp id path=>.rref id (ZbU L id 0) (W8 path) (path.map Stp.i)
 |.junk=>.junk
def TD.ers(L:Lk):List TD→List Dv
 |[]=>[]
 |x::r=>x.er L::TD.ers L r
end
theorem ZN{L:Lk}:∀(xs:List TD),TD.ers L xs=xs.map (TD.er L)
 |[]=>rfl
 |x::r=>by rw[TD.ers,ZN r];rfl
inductive TEnt where
 |var (d:TD) (st:Bool)
 |log (t:Ty) (e:yb) (xs:List t.den)
 |map (tid:yb) (k v:Ty) (l:List (k.den×v.den))
 |row (v s:Nat) (st:Bool) (e:yb) (d:TD)
 |rowT (t:Ty) (v:List Unit) (st:Bool) (e:yb) (xs:List t.den)
 |rowN (t:Ty) (np:List Nat) (v:List Unit) (st:Bool) (e:yb) (pre post:List t.den)
 |rowM (t:Ty) (np:List Nat) (v:List Unit) (st:Bool) (e:yb) (pre:List t.den) (mid:TD) (post:List t.den)
 |gone
instance:Inhabited TEnt:=⟨.gone⟩
def TEnt.er(L:Lk):TEnt→Ent
 |.var d st=>.var (d.er L) st
 |.log t e xs=>.log t.size e (xs.map t.enc)
 |.map tid k v l=>.map tid (kvl k.enc v.enc l)
 |.row v s st e d=>.row v s st e (d.er L)
 |.rowT t v st e xs=>.row v.length t.size st e (.p (.arr xs.length t.size (xs.map t.enc)))
 |.rowN t np v st e pre post=>.row v.length t.size st e (.p (.arr (pre.length+post.length) t.size (pre.map t.enc++post.map λx=>(ZuC np (.v t x)).pe)))
 |.rowM t np v st e pre mid post=>.row v.length t.size st e (.arr (pre.length+(post.length+1)) t.size ((pre.map λx=>.p (t.enc x))++mid.er L::post.map λx=>.p (ZuC np (.v t x)).pe))
 |.gone=>.gone
def lkE:Option TEnt→Option (Σ t:Ty,List t.den)
 |some (.log t _ xs)=>some ⟨t,xs⟩
 |some (.rowT t v _ _ xs)=>some ⟨.sl (.st []),([v,yy t.size (),yy xs.length ()]:List (List Unit))⟩
 |some (.rowN t _ v _ _ pre post)=>some ⟨.sl (.st []),([v,yy t.size (),yy (pre.length+post.length) ()]:List (List Unit))⟩
 |some (.rowM t _ v _ _ pre _ post)=>some ⟨.sl (.st []),([v,yy t.size (),yy (pre.length+(post.length+1)) ()]:List (List Unit))⟩
 |_=>none
def lk(H:List TEnt):Lk:=λid=>lkE (H[id]?)
def erH(H:List TEnt):List Ent:=H.map (TEnt.er (lk H))
theorem Yo{H:List TEnt}{i:Nat}{e:TEnt}(h:H[i]? =some e):(erH H)[i]? =some (e.er (lk H)):=by rw[erH,yal,h];rfl
theorem Zgu{L:Lk}{ts:List TD}{i:Nat}{d:TD}(h:ts[i]? =some d):(TD.ers L ts)[i]? =some (d.er L):=by rw[ZN,yal,h];rfl
theorem ZO(H:List TEnt):(erH H).length=H.length:=yz ..
theorem ZvM{L:Lk}(H:List TD):(TD.ers L H).length=H.length:=by rw[ZN];exact yz ..
def Zl1{α β:Type}:Option α→Option β→Option (α×β)
 |some a,some b=>some (a,b)
 |_,_=>none
theorem ZaB{α β:Type}{a:Option α}{b:Option β}{q:α×β}(h:Zl1 a b=some q):a=some q.1∧b=some q.2:=by
 cases a with
 |none=>cases h
 |some x=>cases b with
  |none=>cases h
  |some y=>cases h;exact⟨rfl,rfl⟩
def ZEe(nn:Bool)(t:Ty)(xs:List t.den):(u:Ty)→Option u.den
 |.sl u=>if nn then Ty.castL t u xs else none
 |_=>none
def ZEf(f:(fs:List Ty)→Option (Ty.dens fs)):(u:Ty)→Option u.den
 |.st fs=>f fs
 |_=>none
def ZA5(n s:Nat)(f:(t:Ty)→Option (List t.den)):(u:Ty)→Option u.den
 |.arr m t=>if n=m∧s=t.size then f t else none
 |_=>none
def ZA6:(fs:List Ty)→Option (Ty.dens fs)
 |[]=>some ()
 |_=>none
def ZvN(f:(t:Ty)→Option t.den)(last:Bool)(g:(fs:List Ty)→Option (Ty.dens fs)):(fs:List Ty)→Option (Ty.dens fs)
 |[]=>none
 |[t]=>if last then f t else none
 |t::u::q=>Zl1 (f t) (g (u::q))
mutual
def TP.to(ok:Option Bool→Bool):TP→(t:Ty)→Option t.den
 |.v t x=>λu=>Ty.cast t u x
 |.sl nn t xs=>ZEe (ok nn) t xs
 |.agg xs=>ZEf (TP.tos ok xs)
 |.arr n s xs=>ZA5 n s (TP.toL ok xs)
 |.sll _ _ _=>λ_=>none
 |.ptr0=>λ_=>none
 |.fn0=>λ_=>none
 |.if0=>λ_=>none
 |.map0=>λ_=>none
 |.fnv _=>λ_=>none
 |.iface _ _=>λ_=>none
def TP.tos(ok:Option Bool→Bool):List TP→(fs:List Ty)→Option (Ty.dens fs)
 |[]=>ZA6
 |x::r=>ZvN (TP.to ok x) r.isEmpty (TP.tos ok r)
def TP.toL(ok:Option Bool→Bool):List TP→(t:Ty)→Option (List t.den)
 |[]=>λ_=>some []
 |x::r=>λt=>(Zl1 (TP.to ok x t) (TP.toL ok r t)).map λq=>q.1::q.2
end
def Zj1:Option Bool→Bool:=λ_=>true
def Zns:Option Bool→Bool:=Option.isNone
theorem ZzA(t:Ty)(l:List t.den):(Ty.sl t).enc l=.sl none t.size (l.map t.enc):=rfl
theorem ZvO(n:Nat)(t:Ty)(l:List t.den):(Ty.arr n t).enc l=.arr n t.size (l.map t.enc):=rfl
theorem ZoS{b:Bool}{nn:Option Bool}{t u:Ty}{xs:List t.den}{y:u.den}(h:ZEe b t xs u=some y):∃l:List t.den,b=true∧u.enc y=.sl none t.size (l.map t.enc)∧l=xs:=by
 cases u with
 |sl u=>
  have h':(if b then Ty.castL t u xs else none)=some y:=h
  split at h'
  ·rename_i hb;obtain⟨e,h2⟩:=ZE h';subst e;subst h2;exact⟨y,hb,rfl,rfl⟩
  ·cases h'
 |_=>cases h
theorem ZoT{f:(fs:List Ty)→Option (Ty.dens fs)}{u:Ty}{y:u.den}(h:ZEf f u=some y):∃(fs:List Ty)(z:Ty.dens fs),f fs=some z∧u.enc y=.agg (Ty.encs fs z):=by
 cases u with
 |st fs=>exact⟨fs,y,h,rfl⟩
 |_=>cases h
theorem Zr0{n s:Nat}{f:(t:Ty)→Option (List t.den)}{u:Ty}{y:u.den}(h:ZA5 n s f u=some y):∃(t:Ty)(l:List t.den),f t=some l∧u.enc y=.arr n s (l.map t.enc):=by
 cases u with
 |arr m t=>
  have h':(if n=m∧s=t.size then f t else none)=some y:=h
  split at h'
  ·rename_i e;obtain⟨rfl,rfl⟩:=e;exact⟨t,y,h',rfl⟩
  ·cases h'
 |_=>cases h
theorem Zr1{fs:List Ty}{y:Ty.dens fs}(h:ZA6 fs=some y):Ty.encs fs y=[]:=by
 cases fs with
 |nil=>rfl
 |cons _ _=>cases h
theorem ZpO{f:(t:Ty)→Option t.den}{b:Bool}{g:(fs:List Ty)→Option (Ty.dens fs)}{fs:List Ty}{y:Ty.dens fs}(h:ZvN f b g fs=some y):
 ∃(t:Ty)(x:t.den)(l:List Pl),f t=some x∧Ty.encs fs y=t.enc x::l∧((b=true∧l=[])∨∃(gs:List Ty)(z:Ty.dens gs),g gs=some z∧l=Ty.encs gs z):=by
 match fs,y,h with
 |[],_,h=>cases h
 |[t],y,h=>
  have h':(if b then f t else none)=some y:=h
  split at h'
  ·rename_i hb;exact⟨t,y,[],h',rfl,.inl ⟨hb,rfl⟩⟩
  ·cases h'
 |t::u::q,y,h=>
  obtain⟨h1,h2⟩:=ZaB (α:=t.den) (β:=Ty.dens (u::q)) h;exact⟨t,y.1,_,h1,rfl,.inr ⟨u::q,y.2,h2,rfl⟩⟩
mutual
theorem Zgv{ok:Option Bool→Bool}:∀(x:TP)(t:Ty)(y:t.den),TP.to ok x t=some y→x.pe.soft=t.enc y
 |.v t x,u,y,h=>by
  obtain⟨e,rfl⟩:=ZaR (show Ty.cast t u x=some y from h)
  subst e
  exact Znr t x
 |.sl nn t xs,u,y,h=>by
  obtain⟨l,_,h2,h3⟩:=ZoS (nn:=nn) (show ZEe (ok nn) t xs u=some y from h)
  rw[h2,h3]
  rfl
 |.agg xs,u,y,h=>by
  obtain⟨fs,z,h1,h2⟩:=ZoT (show ZEf (TP.tos ok xs) u=some y from h)
  rw[h2];show Pl.agg (Pl.softs (TP.pes xs))=_
  rw[tos_soft xs fs z h1]
 |.arr n s xs,u,y,h=>by
  obtain⟨t,l,h1,h2⟩:=Zr0 (show ZA5 n s (TP.toL ok xs) u=some y from h)
  rw[h2];show Pl.arr n s (Pl.softs (TP.pes xs))=_
  rw[toL_soft xs t l h1]
 |.sll _ _ _,_,_,h=>nomatch (show none=some _ from h)
 |.ptr0,_,_,h=>nomatch (show none=some _ from h)
 |.fn0,_,_,h=>nomatch (show none=some _ from h)
 |.if0,_,_,h=>nomatch (show none=some _ from h)
 |.map0,_,_,h=>nomatch (show none=some _ from h)
 |.fnv _,_,_,h=>nomatch (show none=some _ from h)
 |.iface _ _,_,_,h=>nomatch (show none=some _ from h)
theorem tos_soft{ok:Option Bool→Bool}:∀(xs:List TP)(fs:List Ty)(y:Ty.dens fs),TP.tos ok xs fs=some y→Pl.softs (TP.pes xs)=Ty.encs fs y
 |[],fs,y,h=>(Zr1 (show ZA6 fs=some y from h)).symm
 |x::r,fs,y,h=>by
  obtain⟨t,a,l,h1,h2,h3⟩:=ZpO (show ZvN (TP.to ok x) r.isEmpty (TP.tos ok r) fs=some y from h)
  rw[h2];show x.pe.soft::Pl.softs (TP.pes r)=_;rw[Zgv x t a h1];rcases h3 with⟨h4,rfl⟩|⟨gs,z,h4,rfl⟩
  ·cases r with
   |nil=>rfl
   |cons _ _=>cases h4
  ·rw[tos_soft r gs z h4]
theorem toL_soft{ok:Option Bool→Bool}:∀(xs:List TP)(t:Ty)(y:List t.den),TP.toL ok xs t=some y→Pl.softs (TP.pes xs)=y.map t.enc
 |[],_,y,h=>by
  cases (show some []=some y from h)
  rfl
 |x::r,t,y,h=>by
  obtain⟨q,h1,rfl⟩:=Zb (show(Zl1 (TP.to ok x t) (TP.toL ok r t)).map (λq=>q.1::q.2)=some y from h)
  obtain⟨h2,h3⟩:=ZaB h1;show x.pe.soft::Pl.softs (TP.pes r)=_;rw[Zgv x t q.1 h2,toL_soft r t q.2 h3,yaf]
end
theorem ZxS{ok:Option Bool→Bool}{x:TP}{t:Ty}{y:t.den}(h:TP.to ok x t=some y):PlWk x.pe (t.enc y):=Zgv x t y h ▸ Zia x.pe
mutual
theorem Znt:∀(x:TP)(t:Ty)(y:t.den),TP.to Zns x t=some y→x.pe=t.enc y
 |.v t x,u,y,h=>by
  obtain⟨e,rfl⟩:=ZaR (show Ty.cast t u x=some y from h)
  subst e
  rfl
 |.sl nn t xs,u,y,h=>by
  obtain⟨l,h1,h2,h3⟩:=ZoS (nn:=nn) (show ZEe (Zns nn) t xs u=some y from h)
  rw[h2,h3]
  cases nn with
  |none=>rfl
  |some _=>cases h1
 |.agg xs,u,y,h=>by
  obtain⟨fs,z,h1,h2⟩:=ZoT (show ZEf (TP.tos Zns xs) u=some y from h)
  rw[h2];show Pl.agg (TP.pes xs)=_
  rw[tos_exact xs fs z h1]
 |.arr n s xs,u,y,h=>by
  obtain⟨t,l,h1,h2⟩:=Zr0 (show ZA5 n s (TP.toL Zns xs) u=some y from h)
  rw[h2];show Pl.arr n s (TP.pes xs)=_
  rw[toL_exact xs t l h1]
 |.sll _ _ _,_,_,h=>nomatch (show none=some _ from h)
 |.ptr0,_,_,h=>nomatch (show none=some _ from h)
 |.fn0,_,_,h=>nomatch (show none=some _ from h)
 |.if0,_,_,h=>nomatch (show none=some _ from h)
 |.map0,_,_,h=>nomatch (show none=some _ from h)
 |.fnv _,_,_,h=>nomatch (show none=some _ from h)
 |.iface _ _,_,_,h=>nomatch (show none=some _ from h)
theorem tos_exact:∀(xs:List TP)(fs:List Ty)(y:Ty.dens fs),TP.tos Zns xs fs=some y→TP.pes xs=Ty.encs fs y
 |[],fs,y,h=>(Zr1 (show ZA6 fs=some y from h)).symm
 |x::r,fs,y,h=>by
  obtain⟨t,a,l,h1,h2,h3⟩:=ZpO (show ZvN (TP.to Zns x) r.isEmpty (TP.tos Zns r) fs=some y from h)
  rw[h2];show x.pe::TP.pes r=_;rw[Znt x t a h1];rcases h3 with⟨h4,rfl⟩|⟨gs,z,h4,rfl⟩
  ·cases r with
   |nil=>rfl
   |cons _ _=>cases h4
  ·rw[tos_exact r gs z h4]
theorem toL_exact:∀(xs:List TP)(t:Ty)(y:List t.den),TP.toL Zns xs t=some y→TP.pes xs=y.map t.enc
 |[],_,y,h=>by
  cases (show some []=some y from h)
  rfl
 |x::r,t,y,h=>by
  obtain⟨q,h1,rfl⟩:=Zb (show(Zl1 (TP.to Zns x t) (TP.toL Zns r t)).map (λq=>q.1::q.2)=some y from h)
  obtain⟨h2,h3⟩:=ZaB h1;show x.pe::TP.pes r=_;rw[Znt x t q.1 h2,toL_exact r t q.2 h3,yaf]
end
mutual
def Zj2(P:yg):Nat→yb→Option Ty
 |0,_=>none
 |n+1,t=>match P.underlying t with
  |some (.int .u8)=>some .u8
  |some (.int .u32)=>some .u32
  |some (.int .u64)=>some .u64
  |some (.int k)=>some (.int k)
  |some .bool=>some .bool
  |some .string=>some .str
  |some (.slice e)=>(Zj2 P n e).map .sl
  |some (.array m e)=>(Zj2 P n e).map (.arr m)
  |some (.struct fs)=>(tysOf P n (fs.toList.map (·.type))).map .st
  |_=>none
def tysOf(P:yg):Nat→List yb→Option (List Ty)
 |0,_=>none
 |_+1,[]=>some []
 |n+1,t::r=>match Zj2 P n t,tysOf P n r with
  |some a,some b=>some (a::b)
  |_,_=>none
end
def ZIn(k:IntKind)(z:Int):TP:=
 match k with
 |.u8=>.v .u8 (yau z.toNat)
 |.u32=>.v .u32 (ybs z.toNat)
 |.u64=>.v .u64 (yad z.toNat)
 |k=>.v (.int k) z
def inU(k:IntKind)(z:Int):Bool:=
 match k with
 |.u8=>decide (0≤z)&&decide (z < 256)
 |.u32=>decide (0≤z)&&decide (z < 4294967296)
 |.u64=>decide (0≤z)&&decide (z < 18446744073709551616)
 |_=>true
theorem ZGF{k:IntKind}{z:Int}(h:inU k z=true):(ZIn k z).pe=.int k z:=by
 cases k <;> simp only[inU,yj,decide_eq_true_eq] at h <;> simp only[ZIn,TP.pe,Ty.enc]
 ·simp only[Pl.int.injEq,true_and,UInt8.toNat_ofNat'];omega
 ·simp only[Pl.int.injEq,true_and,yco];omega
 ·simp only[Pl.int.injEq,true_and,yba];omega
abbrev wi(z:Int):Int:=IntKind.i64.wrap z
def w8(z:Int):UInt8:=yau (z % 256).toNat
def w32(z:Int):UInt32:=ybs (z % 4294967296).toNat
def w64(z:Int):UInt64:=yad (z % 18446744073709551616).toNat
def ZGG(k:IntKind)(z:Int):TP:=
 match k with
 |.u8=>.v .u8 (w8 z)
 |.u32=>.v .u32 (w32 z)
 |.u64=>.v .u64 (w64 z)
 |k=>.v (.int k) (k.wrap z)
theorem ZIo(z:Int):((w8 z).toNat:Int)=IntKind.u8.wrap z:=by
 simp only[w8,IntKind.wrap,IntKind.signed,IntKind.bits,UInt8.toNat_ofNat'];simp;omega
theorem ZGH(z:Int):((w32 z).toNat:Int)=IntKind.u32.wrap z:=by
 simp only[w32,IntKind.wrap,IntKind.signed,IntKind.bits,yco];simp;omega
theorem ZGI(z:Int):((w64 z).toNat:Int)=IntKind.u64.wrap z:=by
 simp only[w64,IntKind.wrap,IntKind.signed,IntKind.bits,yba];simp;omega
theorem ZA7(k:IntKind)(z:Int):(ZGG k z).pe=.int k (k.wrap z):=by
 cases k <;> simp only[ZGG,TP.pe,Ty.enc,ZIo,ZGH,ZGI]
def ZIp:IntKind→Bool
 |.u8=>false
 |.u32=>false
 |.u64=>false
 |_=>true
def ZvP:TP→Option (IntKind×Int)
 |.v (.int k) n=>if ZIp k then some (k,n) else none
 |.v .u8 b=>some (.u8,(b.toNat:Int))
 |.v .u32 b=>some (.u32,(b.toNat:Int))
 |.v .u64 b=>some (.u64,(b.toNat:Int))
 |_=>none
theorem Zq6{x:TP}{q:IntKind×Int}(h:ZvP x=some q):x.pe=.int q.1 q.2∧inU q.1 q.2=true:=by
 unfold ZvP at h;split at h
 ·rename_i k n;split at h
  ·rename_i hk;cases h;refine⟨rfl, ?_⟩;cases k <;> first|rfl|cases hk
  ·cases h
 ·rename_i b;cases h;exact⟨rfl,by simp only[inU,yj,decide_eq_true_eq];have:=b.toNat_lt;omega⟩
 ·rename_i b;cases h;exact⟨rfl,by simp only[inU,yj,decide_eq_true_eq];have:=b.toNat_lt;omega⟩
 ·rename_i b;cases h;exact⟨rfl,by simp only[inU,yj,decide_eq_true_eq];have:=b.toNat_lt;omega⟩
 ·cases h
def tyD:Nat:=40
def ZGJ(P:yg)(t:yb)(l:List TP):TP:=
 match Zj2 P tyD t with
 |some (.st fs)=>match TP.tos Zns l fs with
  |some x=>.v (.st fs) x
  |none=>.agg l
 |_=>.agg l
theorem ZA8{P:yg}(t:yb)(l:List TP):(ZGJ P t l).pe=.agg (TP.pes l):=by
 unfold ZGJ;split
 ·rename_i fs _;split
  ·rename_i x h;show Pl.agg (Ty.encs fs x)=_;rw[tos_exact l fs x h]
  ·rfl
 ·rfl
def ZGK(P:yg)(t:yb)(n s:Nat)(l:List TP):TP:=
 match Zj2 P tyD t with
 |some (.arr _ u)=>if s=u.size then match TP.toL Zns l u with
  |some x=>.v (.arr n u) x
  |none=>.arr n s l else .arr n s l
 |_=>.arr n s l
theorem ZA9{P:yg}(t:yb)(n s:Nat)(l:List TP):(ZGK P t n s l).pe=.arr n s (TP.pes l):=by
 unfold ZGK;split
 ·rename_i u _;split
  ·rename_i e;split
   ·rename_i x h;show Pl.arr n u.size (List.map u.enc x)=_;rw[toL_exact l u x h,e]
   ·rfl
  ·rfl
 ·rfl
def ZEg(f:yb→Pl→Option TP):List yb→List Pl→Option (List TP)
 |[],[]=>some []
 |t::r,x::q=>match f t x,ZEg f r q with
  |some a,some b=>some (a::b)
  |_,_=>none
 |_,_=>none
def ZxT(P:yg):Nat→yb→Pl→Option TP
 |0,_,_=>none
 |n+1,t,x=>match x with
  |.int k z=>if inU k z then some (ZIn k z) else none
  |.bool b=>some (.v .bool b)
  |.str b=>some (.v .str b)
  |.ptr0=>some .ptr0
  |.fn0=>some .fn0
  |.if0=>some .if0
  |.map0=>some .map0
  |.sl nn s []=>match P.underlying t with
   |some (.slice e)=>(Zj2 P tyD e).bind λT=>if s=T.size then some (.sl nn T []) else none
   |_=>none
  |.agg xs=>match P.underlying t with
   |some (.struct fs)=>(ZEg (ZxT P n) (fs.toList.map (·.type)) xs).map (ZGJ P t)
   |_=>none
  |.arr m s xs=>match P.underlying t with
   |some (.array _ e)=>(ZEg (ZxT P n) (yy xs.length e) xs).map (ZGK P t m s)
   |_=>none
  |_=>none
theorem ZvQ{f:yb→Pl→Option TP}(h:∀t x y,f t x=some y→y.pe=x):∀(l:List yb)(xs:List Pl)(r:List TP),ZEg f l xs=some r→TP.pes r=xs
 |[],[],r,k=>by cases k;rfl
 |[],_::_,r,k=>by cases k
 |_::_,[],r,k=>by cases k
 |t::l,x::xs,r,k=>by
  simp only[ZEg] at k;split at k
  ·rename_i a b h1 h2;cases k;rw[TP.pes,h t x a h1,ZvQ h l xs b h2]
  ·cases k
theorem Zr2{P:yg}:∀(n:Nat)(t:yb)(x:Pl)(y:TP),ZxT P n t x=some y→y.pe=x
 |0,_,_,_,h=>by cases h
 |n+1,t,x,y,h=>by
  unfold ZxT at h;split at h
  ·split at h
   ·rename_i hk;cases h;exact ZGF hk
   ·cases h
  ·cases h;rfl
  ·cases h;rfl
  ·cases h;rfl
  ·cases h;rfl
  ·cases h;rfl
  ·cases h;rfl
  ·split at h
   ·obtain⟨T,h1,h2⟩:=yf.1 h;split at h2
    ·rename_i e;cases h2;rw[TP.pe,e];rfl
    ·cases h2
   ·cases h
  ·split at h
   ·obtain⟨l,h1,rfl⟩:=Zb h;rw[ZA8,ZvQ (Zr2 n) _ _ _ h1]
   ·cases h
  ·split at h
   ·obtain⟨l,h1,rfl⟩:=Zb h;rw[ZA9,ZvQ (Zr2 n) _ _ _ h1]
   ·cases h
  ·cases h
def ZvR(P:yg)(t:yb)(x:Pl):Option TP:=ZxT P 30 t x
def ZzB(P:yg)(t:yb)(v:yh):Option TD:=
 match ZoD P t v with
 |.p x=>(ZvR P t x).map .p
 |.fn f []=>some (.fn f [])
 |_=>none
def arT(P:yg)(ts:List TD)(t:yb):yo→Option TD
 |.tmp i=>some (ts.getD i .junk)
 |.const v=>ZzB P t v
 |.global _=>none
 |.func f=>if f < big then some (.fn f []) else none
theorem ZoU{P:yg}{t:yb}{x:Pl}{y:TP}(h:ZvR P t x=some y):y.pe=x:=Zr2 _ _ _ _ h
theorem Znu{L:Lk}(ts:List TD)(i:Nat):(TD.ers L ts).getD i .junk=(ts.getD i .junk).er L:=by
 rw[ZN];simp only[List.getD_eq_getElem?_getD,yal];cases ts[i]? <;> rfl
theorem Zw{L:Lk}{P:yg}{ts:List TD}{t:yb}{x:yo}{d:TD}(h:arT P ts t x=some d):Zy P (TD.ers L ts) t x=d.er L:=by
 cases x with
 |tmp i=>cases h;exact Znu ts i
 |const v=>
  have h':ZzB P t v=some d:=h;show ZoD P t v=d.er L;unfold ZzB at h';split at h'
  ·rename_i x hx;obtain⟨y,h1,rfl⟩:=Zb h';rw[hx,TD.er,ZoU h1]
  ·rename_i f hf;cases h';rw[hf];rfl
  ·cases h'
 |global _=>cases h
 |func f=>
  have h':(if f < big then some (TD.fn f []) else none)=some d:=h
  by_cases hf:f < big
  ·rw[if_pos hf] at h';cases h';show(if f < big then Dv.fn f [] else .junk)=_
   rw[if_pos hf];rfl
  ·rw[if_neg hf] at h';cases h'
structure HI where
 own:List Tmp:=[]
 still:List Tmp:=[]
 row:List Tmp:=[]
 rowt:List Tmp:=[]
 deep:List yb:=[]
 eqs:Bool:=false
 frz:List Tmp:=[]
 ghost:List (Tmp×List (List Nat×Ty×yb)):=[]
 gst:List (Tmp×List (List Nat×Ty×yb)):=[]
 lits:List Tmp:=[]
 rew:List (Tmp×Tmp):=[]
 deriving Inhabited
def GoodN(L:Lk)(P:yg)(o:Oper)(ts:List TD)(d:TD)(hs:List Hint):Prop:=
 ∃C,AllP C∧∀rest,evN P o (TD.ers L ts) (hs++rest)=some (C,d.er L,rest)
def idx{α:Type}(l:List α)(i:Int):Option α:=if 0≤i then l[i.toNat]? else none
def inB(i:Int)(n:Nat):Bool:=decide (0≤i)&&decide (i < (n:Int))
def Za2(len:Nat):Option Int→Option Int→Bool
 |none,none=>true
 |none,some h=>decide (0≤h)&&decide (h≤(len:Int))
 |some l,none=>decide (0≤l)&&decide (l≤(len:Int))
 |some l,some h=>decide (0≤l)&&(decide (l≤h)&&decide (h≤(len:Int)))
def ZzC(n b:Nat):Bool:=decide (n*b≤Zn)&&decide (n≤maxLen)
theorem Znv{α:Type}{l:List α}{i:Int}{y:α}(h:idx l i=some y):0≤i∧l[i.toNat]? =some y:=by
 unfold idx at h;split at h
 ·exact⟨by assumption,h⟩
 ·cases h
theorem Zaj{i:Int}{n:Nat}(h:inB i n=true):0≤i∧i < (n:Int):=by simpa[inB] using h
theorem Zfl{len:Nat}{l h:Option Int}(k:Za2 len l h=true):AllP (Y4 len l h):=by
 cases l <;> cases h <;> simp only[Za2,yj,decide_eq_true_eq] at k <;> simp only[Y4,AllP,and_true]
 ·exact k
 ·exact k
 ·exact k
theorem Zc7{n b:Nat}(h:ZzC n b=true):n*b≤Zn∧n≤maxLen:=by simpa[ZzC] using h
theorem Za{α:Type}{b:Bool}{k:Option α}{r:α}(h:(if b=true then k else none)=some r):b=true∧k=some r:=by
 cases b
 ·cases h
 ·exact⟨rfl,h⟩
theorem Zgw{α β:Type}(f:α→β)(l:List α)(a b:Option Int):(VA l a b).map f=VA (l.map f) a b:=by
 cases a <;> cases b <;> simp[VA]
def TP.fld:TP→Nat→Option TP
 |.v (.st fs) x,i=>(Ty.proj fs x i).map λq=>.v q.1 q.2
 |.agg l,i=>l[i]?
 |_,_=>none
theorem ZEh{x y:TP}{i:Nat}(h:x.fld i=some y):∃xs,x.pe=.agg xs∧xs[i]? =some y.pe:=by
 unfold TP.fld at h;split at h
 ·obtain⟨q,h1,rfl⟩:=Zb h;exact⟨_,rfl,ZxQ _ _ _ q h1⟩
 ·exact⟨_,rfl,by rw[ZcJ,yal,h];rfl⟩
 ·cases h
structure Row where
 nn:Option Bool
 t:Ty
 l:List t.den
def TP.row:TP→Option Row
 |.v (.sl t) l=>some ⟨none,t,l⟩
 |.sl nn t l=>some ⟨nn,t,l⟩
 |_=>none
theorem ZIq{x:TP}{r:Row}(h:x.row=some r):x.pe=.sl r.nn r.t.size (r.l.map r.t.enc):=by
 unfold TP.row at h;split at h
 ·cases h;rfl
 ·cases h;rfl
 ·cases h
structure ARow where
 n:Nat
 t:Ty
 l:List t.den
def TP.arow:TP→Option ARow
 |.v (.arr n t) l=>some ⟨n,t,l⟩
 |_=>none
theorem V2{x:TP}{r:ARow}(h:x.arow=some r):x.pe=.arr r.n r.t.size (r.l.map r.t.enc):=by
 unfold TP.arow at h;split at h
 ·cases h;rfl
 ·cases h
def Ty.isAgg:Ty→Bool
 |.arr _ _=>true
 |.st _=>true
 |_=>false
theorem Zlc(t:Ty)(x:t.den):(t.enc x).isAgg=t.isAgg:=by cases t <;> rfl
def TD.row(L:Lk):TD→Option Row
 |.p x=>x.row
 |.own id nn t c=>some ⟨nn,t,Ya L id t c⟩
 |_=>none
theorem Zgx{L:Lk}{x:TD}{r:Row}(h:x.row L=some r):x.er L=.p (.sl r.nn r.t.size (r.l.map r.t.enc))∨∃id,x.er L=.own id r.nn r.t.size (r.l.map r.t.enc):=by
 unfold TD.row at h;split at h
 ·exact .inl (by rw[TD.er,ZIq h])
 ·cases h;exact .inr ⟨_,rfl⟩
 ·cases h
def TD.plain(L:Lk):TD→Option TP
 |.p x=>some x
 |.own id nn t c=>some (.sl nn t (Ya L id t c))
 |_=>none
theorem ZuD{L:Lk}{x:TD}{y:TP}(h:x.plain L=some y):(x.er L).plain=some y.pe:=by
 unfold TD.plain at h;split at h
 ·cases h;rfl
 ·cases h;rfl
 ·cases h
mutual
def TD.flat(L:Lk):TD→Option TP
 |.p x=>some x
 |.own id nn t c=>some (.sl nn t (Ya L id t c))
 |.agg ds=>(TD.flats L ds).map .agg
 |_=>none
def TD.flats(L:Lk):List TD→Option (List TP)
 |[]=>some []
 |d::r=>match d.flat L,TD.flats L r with
  |some x,some xs=>some (x::xs)
  |_,_=>none
end
mutual
theorem Zq7{L:Lk}:∀(d:TD),(d.er L).flat=(d.flat L).map TP.pe
 |.p x=>by rw[TD.er,Dv.flat,TD.flat];rfl
 |.own id nn t c=>by rw[TD.er,Dv.flat,TD.flat];rfl
 |.agg ds=>by
  rw[TD.er,Dv.flat,TD.flat,flats_er ds]
  cases TD.flats L ds <;> rfl
 |.elem _=>rfl
 |.ref _ _=>rfl
 |.view _ _ _ _ _=>rfl
 |.arr _ _ _=>rfl
 |.fn _ _=>rfl
 |.iface _ _=>rfl
 |.tup _=>rfl
 |.mp _=>rfl
 |.rv _ _ _ _ _=>rfl
 |.rref _ _ _=>rfl
 |.rw _=>rfl
 |.rp _ _=>rfl
 |.junk=>rfl
theorem flats_er{L:Lk}:∀(ds:List TD),Dv.flats (TD.ers L ds)=(TD.flats L ds).map TP.pes
 |[]=>rfl
 |d::r=>by
  rw[TD.ers,Dv.flats,TD.flats,Zq7 d,flats_er r];cases d.flat L <;> cases TD.flats L r <;> rfl
end
theorem ZxU{L:Lk}{x:TD}{y:TP}(h:x.flat L=some y):(x.er L).flat=some y.pe:=by rw[Zq7,h];rfl
mutual
def TD.owns(ids:List Nat):TD→Bool
 |.own id _ _ _=>ids.contains id
 |.agg ds=>TD.ownss ids ds
 |_=>false
def TD.ownss(ids:List Nat):List TD→Bool
 |[]=>false
 |d::r=>d.owns ids || TD.ownss ids r
end
mutual
theorem ZGL{L:Lk}{ids:List Nat}:∀(d:TD),(d.er L).owns ids=d.owns ids
 |.p x=>rfl
 |.own id nn t c=>rfl
 |.agg ds=>by rw[TD.er,Dv.owns,TD.owns,ownss_er ds]
 |.elem _=>rfl
 |.ref _ _=>rfl
 |.view _ _ _ _ _=>rfl
 |.arr _ _ _=>rfl
 |.fn _ _=>rfl
 |.iface _ _=>rfl
 |.tup _=>rfl
 |.mp _=>rfl
 |.rv _ _ _ _ _=>rfl
 |.rref _ _ _=>rfl
 |.rw _=>rfl
 |.rp _ _=>rfl
 |.junk=>rfl
theorem ownss_er{L:Lk}{ids:List Nat}:∀(ds:List TD),Dv.ownss ids (TD.ers L ds)=TD.ownss ids ds
 |[]=>rfl
 |d::r=>by rw[TD.ers,Dv.ownss,TD.ownss,ZGL d,ownss_er r]
end
def TD.melt(L:Lk)(ds:List TD):TD:=
 match TD.flats L ds with
 |some xs=>.p (.agg xs)
 |none=>.agg ds
theorem ZBa{L:Lk}(ds:List TD):(TD.melt L ds).er L=Dv.melt (TD.ers L ds):=by
 unfold TD.melt Dv.melt;rw[flats_er];cases TD.flats L ds <;> rfl
section
variable{L:Lk}{P:yg}{o:Oper}{ts:List TD}{O:Type}
def okB(P:yg)(e:yb)(s:Nat):Bool:=decide (P.cellsOf e=s)&&(P.info? e).isSome
def ZzD(L:Lk)(P:yg)(t:yb)(i:Nat)(K:TD→List Hint→Option O):TD→Option O
 |.p x=>(x.fld i).bind λz=>if(Zah P t (.p x.pe) i).isSome then K (.p z) [] else none
 |.agg ds=>(ds[i]?).bind λz=>if(Zah P t (.agg (TD.ers L ds)) i).isSome then K z [] else none
 |_=>none
theorem ZpP{t:yb}{i:Nat}{K:TD→List Hint→Option O}{x:TD}{out:O}(h:ZzD L P t i K x=some out):∃d,K d []=some out∧Zah P t (x.er L) i=some (d.er L):=by
 unfold ZzD at h;split at h
 ·rename_i x;obtain⟨z,h1,h2⟩:=yf.1 h;obtain⟨h3,h4⟩:=Za h2;refine⟨_,h4, ?_⟩;obtain⟨xs,e1,e2⟩:=ZEh h1;rw[TD.er];obtain⟨d,hd⟩:=Option.isSome_iff_exists.1 h3;rw[hd];unfold Zah at hd;rw[e1] at hd;split at hd
  ·rename_i hx;cases hx;rw[e2] at hd;dsimp only at hd;split at hd
   ·cases hd;rfl
   ·cases hd
  ·rename_i hx;cases hx
  ·cases hd
 ·rename_i ds;obtain⟨z,h1,h2⟩:=yf.1 h;obtain⟨h3,h4⟩:=Za h2;refine⟨_,h4, ?_⟩;have e2:=Zgu (L:=L) h1;rw[TD.er];obtain⟨d,hd⟩:=Option.isSome_iff_exists.1 h3;rw[hd];unfold Zah at hd;split at hd
  ·rename_i hx;cases hx
  ·rename_i hx;cases hx;rw[e2] at hd;dsimp only at hd;split at hd
   ·cases hd;rfl
   ·cases hd
  ·cases hd
 ·cases h
theorem ZaC(l:List Stp)(q:Stp):W8 (l++[q])=W8 l+q.o:=by simp[W8]
def ZmI(P:yg)(t:yb)(i:Nat)(K:TD→List Hint→Option O):TD→Option O
 |.ref id path=>match P.underlying t with
  |some (.struct fs)=>match fs[i]? with
   |some f=>if P.cellsOf f.type !=0&&(P.info? f.type).isSome then K (.ref id (path++[.fld i f.offset])) [] else none
   |none=>none
  |_=>none
 |.rref id v path=>match P.underlying t with
  |some (.struct fs)=>match fs[i]? with
   |some f=>if P.cellsOf f.type !=0&&(P.info? f.type).isSome then K (.rref id v (path++[.fld i f.offset])) [] else none
   |none=>none
  |_=>none
 |.rp id path=>match P.underlying t with
  |some (.struct fs)=>match fs[i]? with
   |some f=>if P.cellsOf f.type !=0&&(P.info? f.type).isSome then K (.rp id (path++[.fld i f.offset])) [] else none
   |none=>none
  |_=>none
 |.elem x=>(x.fld i).bind λz=>if(Zah P t (.p x.pe) i).isSome then K (.elem z) [] else none
 |_=>none
theorem ZqA{t:yb}{i:Nat}{x:yo}{K:TD→List Hint→Option O}{xd:TD}{out:O}(ho:o.op=.fieldAddr t x i)(hx:arT P ts 0 x=some xd)(h:ZmI P t i K xd=some out):∃d hs,K d hs=some out∧GoodN L P o ts d hs:=by
 have hv:=Zw (L:=L) hx;unfold ZmI at h;split at h
 ·rename_i id path;split at h
  ·rename_i fs hu;split at h
   ·rename_i f hf;obtain⟨h3,h4⟩:=Za h;refine⟨_,_,h4,[],trivial,λrest=> ?_⟩;simp only[yx];unfold evN;rw[ho];dsimp only;rw[hu,hv];dsimp only[TD.er];rw[hf];dsimp only;rw[if_pos h3,yax,ZaC];rfl
   ·cases h
  ·cases h
 ·rename_i id v path;split at h
  ·rename_i fs hu;split at h
   ·rename_i f hf;obtain⟨h3,h4⟩:=Za h;refine⟨_,_,h4,[],trivial,λrest=> ?_⟩;simp only[yx];unfold evN;rw[ho];dsimp only;rw[hu,hv];dsimp only[TD.er];rw[hf];dsimp only;rw[if_pos h3,yax,ZaC];rfl
   ·cases h
  ·cases h
 ·rename_i id path;split at h
  ·rename_i fs hu;split at h
   ·rename_i f hf;obtain⟨h3,h4⟩:=Za h;refine⟨_,_,h4,[],trivial,λrest=> ?_⟩;simp only[yx];unfold evN;rw[ho];dsimp only;rw[hu,hv];dsimp only[TD.er];rw[hf];dsimp only;rw[if_pos h3,yax,ZaC];rfl
   ·cases h
  ·cases h
 ·rename_i x;obtain⟨z,h1,h2⟩:=yf.1 h;obtain⟨h3,h4⟩:=Za h2;refine⟨_,_,h4,[],trivial,λrest=> ?_⟩;obtain⟨d,hd,he⟩:=ZpP (L:=L) (P:=P) (t:=t) (i:=i) (K:=λd _=>some d) (x:=.p x) (out:=.p z) (by show(x.fld i).bind _=_;rw[h1];exact if_pos h3);cases hd;simp only[yx];unfold evN;rw[ho];dsimp only;rw[hv]
  have hu:∃fs,P.underlying t=some (.struct fs):=by
   unfold Zah at h3;split at h3
   ·exact⟨_,by assumption⟩
   ·exact⟨_,by assumption⟩
   ·cases h3
  obtain⟨fs,hu⟩:=hu;rw[hu];dsimp only[TD.er] at he ⊢;rw[he]
 ·cases h
theorem Znw{t:Ty}{l:List t.den}{i:Nat}{y:t.den}(h:l[i]? =some y):(l.map t.enc)[i]? =some (t.enc y):=by rw[yal,h];rfl
def ZmJ(L:Lk)(P:yg)(t:yb)(i:Int)(K:TD→List Hint→Option O)(xd:TD):Option O:=
 match P.underlying t,xd with
 |some (.slice e),.view id path s lo n=>if okB P e s=true then if inB i n=true then K (.ref id (path++[.ix (lo+i.toNat) s])) [] else none else none
 |some (.slice e),.rv id v s lo n=>if okB P e s=true then if inB i n=true then K (.rref id v [.ix (lo+i.toNat) s]) [] else none else none
 |some (.slice e),xd=>(xd.row L).bind λr=>if okB P e r.t.size=true then(idx r.l i).bind λy=>K (.elem (.v r.t y)) [.el (r.t.enc y)] else none
 |some (.array n e),.ref id path=>if(P.info? e).isSome then if inB i n=true then K (.ref id (path++[.ix i.toNat (P.cellsOf e)])) [] else none else none
 |some (.array n e),.rref id v path=>if(P.info? e).isSome then if inB i n=true then K (.rref id v (path++[.ix i.toNat (P.cellsOf e)])) [] else none else none
 |some (.array n e),.rp id path=>if(P.info? e).isSome then if inB i n=true then K (.rp id (path++[.ix i.toNat (P.cellsOf e)])) [] else none else none
 |some (.array n e),.elem x=>x.arow.bind λr=>if decide (n=r.n)&&okB P e r.t.size then(idx r.l i).bind λy=>K (.elem (.v r.t y)) [.el (r.t.enc y)] else none
 |_,_=>none
theorem ZGM{e:yb}{s:Nat}(h:okB P e s=true):P.cellsOf e=s∧(P.info? e).isSome=true:=by simpa[okB] using h
theorem ZqB{t:yb}{x ix:yo}{K:TD→List Hint→Option O}{xd id:TD}{q:IntKind×Int}{ip:TP}{out:O}(ho:o.op=.indexAddr t x ix)(hx:arT P ts t x=some xd)(hi:arT P ts 0 ix=some (.p ip))(hq:ZvP ip=some q)
 (h:ZmJ L P t q.2 K xd=some out):∃d hs,K d hs=some out∧GoodN L P o ts d hs:=by
 have hv:=Zw (L:=L) hx;have hw:=Zw (L:=L) hi;rw[TD.er,(Zq6 hq).1] at hw;unfold ZmJ at h;split at h
 ·rename_i e id path s lo n hu;obtain⟨h3,h⟩:=Za h;obtain⟨h4,h⟩:=Za h;refine⟨_,_,h,[0≤q.2,q.2 < (n:Int)],⟨(Zaj h4).1,(Zaj h4).2,ytt⟩,λrest=> ?_⟩;simp only[yx];unfold evN;rw[ho];dsimp only;rw[hu,hv,hw];dsimp only[TD.er];rw[if_pos (by simpa[okB] using h3),yax,ZaC];rfl
 ·rename_i e id v s lo n hu;obtain⟨h3,h⟩:=Za h;obtain⟨h4,h⟩:=Za h;refine⟨_,_,h,[0≤q.2,q.2 < (n:Int)],⟨(Zaj h4).1,(Zaj h4).2,ytt⟩,λrest=> ?_⟩;simp only[yx];unfold evN;rw[ho];dsimp only;rw[hu,hv,hw];dsimp only[TD.er];rw[if_pos (by simpa[okB] using h3)];simp[W8,Stp.o,Stp.i]
 ·rename_i e hu _ _;obtain⟨r,h1,h⟩:=yf.1 h;obtain⟨h3,h⟩:=Za h;obtain⟨y,h5,h⟩:=yf.1 h;obtain⟨h6,h7⟩:=Znv h5;refine⟨_,_,h,[0≤q.2,(r.l.map r.t.enc)[q.2.toNat]? =some (r.t.enc y)],⟨h6,Znw h7,ytt⟩,λrest=> ?_⟩;unfold evN;rw[ho];dsimp only;rcases Zgx h1 with he|⟨id,he⟩
  ·rw[hu,hv,hw,he];dsimp only;rw[yaa,yx];dsimp only;rw[if_pos (by simpa[okB] using h3)];rfl
  ·rw[hu,hv,hw,he];dsimp only;rw[yaa,yx];dsimp only;rw[if_pos (by simpa[okB] using h3)];rfl
 ·rename_i n e id path hu;obtain⟨h3,h⟩:=Za h;obtain⟨h4,h⟩:=Za h;refine⟨_,_,h,[0≤q.2,q.2 < (n:Int)],⟨(Zaj h4).1,(Zaj h4).2,ytt⟩,λrest=> ?_⟩;simp only[yx];unfold evN;rw[ho];dsimp only;rw[hu,hv,hw];dsimp only[TD.er];rw[if_pos h3,yax,ZaC];rfl
 ·rename_i n e id v path hu;obtain⟨h3,h⟩:=Za h;obtain⟨h4,h⟩:=Za h;refine⟨_,_,h,[0≤q.2,q.2 < (n:Int)],⟨(Zaj h4).1,(Zaj h4).2,ytt⟩,λrest=> ?_⟩;simp only[yx];unfold evN;rw[ho];dsimp only;rw[hu,hv,hw];dsimp only[TD.er];rw[if_pos h3,yax,ZaC];rfl
 ·rename_i n e id path hu;obtain⟨h3,h⟩:=Za h;obtain⟨h4,h⟩:=Za h;refine⟨_,_,h,[0≤q.2,q.2 < (n:Int)],⟨(Zaj h4).1,(Zaj h4).2,ytt⟩,λrest=> ?_⟩;simp only[yx];unfold evN;rw[ho];dsimp only;rw[hu,hv,hw];dsimp only[TD.er];rw[if_pos h3,yax,ZaC];rfl
 ·rename_i n e x hu;obtain⟨r,h1,h⟩:=yf.1 h;obtain⟨h3,h⟩:=Za h;obtain⟨y,h5,h⟩:=yf.1 h;obtain⟨h6,h7⟩:=Znv h5;refine⟨_,_,h,[0≤q.2,(r.l.map r.t.enc)[q.2.toNat]? =some (r.t.enc y)],⟨h6,Znw h7,ytt⟩,λrest=> ?_⟩;unfold evN;rw[ho];dsimp only;rw[hu,hv,hw,TD.er,V2 h1];rw[yaa,yx];dsimp only;rw[if_pos (by simpa[okB,and_assoc] using h3)];rfl
 ·cases h
def ZlB(s:ByteArray):List UInt8:=s.data.toList
def TP.strB:TP→Option ByteArray
 |.v .str s=>some s
 |_=>none
theorem ZBb{x:TP}{s:ByteArray}(h:x.strB=some s):x.pe=.str s:=by
 unfold TP.strB at h;split at h
 ·cases h;rfl
 ·cases h
def TP.boolB:TP→Option Bool
 |.v .bool s=>some s
 |_=>none
theorem ZEi{x:TP}{s:Bool}(h:x.boolB=some s):x.pe=.bool s:=by
 unfold TP.boolB at h;split at h
 ·cases h;rfl
 ·cases h
def ZzE(P:yg)(t:yb)(i:Int)(K:TD→List Hint→Option O)(x:TP):Option O:=
 match P.underlying t with
 |some (.array n e)=>x.arow.bind λr=>if decide (n=r.n)&&okB P e r.t.size&&(X7 P e==r.t.isAgg&&((P.underlying e).isSome&&r.t.size !=0)) then(idx r.l i).bind λy=>K (.p (.v r.t y)) [.el (r.t.enc y)] else none
 |some .string=>x.strB.bind λs=>(idx (ZlB s) i).bind λb=>K (.p (.v .u8 b)) [.el (.int .u8 (b.toNat:Int))]
 |_=>none
theorem ZxV{t:yb}{x ix:yo}{K:TD→List Hint→Option O}{xp:TP}{q:IntKind×Int}{ip:TP}{out:O}(ho:o.op=.index t x ix)(hx:arT P ts t x=some (.p xp))(hi:arT P ts 0 ix=some (.p ip))(hq:ZvP ip=some q)
 (h:ZzE P t q.2 K xp=some out):∃d hs,K d hs=some out∧GoodN L P o ts d hs:=by
 have hv:=Zw (L:=L) hx;have hw:=Zw (L:=L) hi;rw[TD.er,(Zq6 hq).1] at hw;unfold ZzE at h;split at h
 ·rename_i n e hu;obtain⟨r,h1,h⟩:=yf.1 h;obtain⟨h3,h⟩:=Za h;obtain⟨y,h5,h⟩:=yf.1 h;obtain⟨h6,h7⟩:=Znv h5;refine⟨_,_,h,[0≤q.2,(r.l.map r.t.enc)[q.2.toNat]? =some (r.t.enc y)],⟨h6,Znw h7,ytt⟩,λrest=> ?_⟩;unfold evN;rw[ho];dsimp only;rw[hu,hv,hw,TD.er,V2 h1];rw[yaa,yx];dsimp only;simp only[okB,yj,decide_eq_true_eq] at h3;rw[if_pos (by rw[Zlc];simp only[yj,decide_eq_true_eq];exact⟨⟨⟨⟨⟨h3.1.1,h3.1.2.1⟩,h3.2.1⟩,h3.2.2.1⟩,h3.1.2.2⟩,h3.2.2.2⟩)];rfl
 ·rename_i hu;obtain⟨s,h1,h⟩:=yf.1 h;obtain⟨y,h5,h⟩:=yf.1 h;obtain⟨h6,h7⟩:=Znv h5;refine⟨_,_,h,[0≤q.2,(s.data.toList[q.2.toNat]?).map (λx:UInt8=>(x.toNat:Int))=some (y.toNat:Int)],⟨h6,by rw[show s.data.toList=ZlB s from rfl,h7];rfl,ytt⟩,λrest=> ?_⟩
  unfold evN;rw[ho];dsimp only;rw[hu,hv,hw,TD.er,ZBb h1];rfl
 ·cases h
def Zge(P:yg)(ts:List TD):Option yo→Option (Option Int)
 |none=>some none
 |some x=>match arT P ts 0 x with
  |some (.p y)=>(ZvP y).map λq=>some q.2
  |_=>none
theorem Zbd{x:Option yo}{l:Option Int}(h:Zge P ts x=some l):Ze9 P (TD.ers L ts) x=some l:=by
 cases x with
 |none=>cases h;rfl
 |some x=>
  unfold Zge at h;dsimp only at h;split at h
  ·rename_i y hy;obtain⟨q,h1,rfl⟩:=Zb h;unfold Ze9;dsimp only;rw[Zw hy,TD.er,(Zq6 h1).1]
  ·cases h
def ZzF(L:Lk)(P:yg)(t:yb)(lo hi:Option Int)(K:TD→List Hint→Option O)(xd:TD):Option O:=
 match P.underlying t,xd with
 |some (.slice e),.view id path s l0 n=>if okB P e s=true then if Za2 n lo hi=true then K (.view id path s (l0+(lo.getD 0).toNat) ((hi.getD n).toNat - (lo.getD 0).toNat)) [] else none else none
 |some (.slice e),.rv id v s l0 n=>if okB P e s=true then if Za2 n lo hi=true then K (.rv id v s (l0+(lo.getD 0).toNat) ((hi.getD n).toNat - (lo.getD 0).toNat)) [.bare] else none else none
 |some (.slice e),xd=>(xd.row L).bind λr=>if okB P e r.t.size=true then if Za2 r.l.length lo hi=true then K (.p (.sl r.nn r.t (VA r.l lo hi))) [] else none else none
 |some (.array n e),.elem x=>x.arow.bind λr=>if decide (n=r.n)&&okB P e r.t.size&&decide (n≤maxLen) then if Za2 n lo hi=true then K (.p (.sl (some true) r.t (VA r.l lo hi))) [] else none else none
 |some (.array n e),.ref id path=>if(P.info? e).isSome&&decide (n≤maxLen) then if Za2 n lo hi=true then K (.view id path (P.cellsOf e) (lo.getD 0).toNat ((hi.getD n).toNat - (lo.getD 0).toNat)) [.raw] else none else none
 |_,_=>none
theorem ZxW{t:yb}{x:yo}{lo hi:Option yo}{l h':Option Int}{K:TD→List Hint→Option O}{xd:TD}{out:O}(ho:o.op=.slice t x lo hi none)(hx:arT P ts t x=some xd)(hl:Zge P ts lo=some l)(hh:Zge P ts hi=some h')
 (h:ZzF L P t l h' K xd=some out):∃d hs,K d hs=some out∧GoodN L P o ts d hs:=by
 have hv:=Zw (L:=L) hx;have hl:=Zbd (L:=L) hl;have hh:=Zbd (L:=L) hh;unfold ZzF at h;split at h
 ·rename_i e id path s l0 n hu;obtain⟨h3,h⟩:=Za h;obtain⟨h4,h⟩:=Za h;refine⟨_,_,h,Y4 n l h',Zfl h4,λrest=> ?_⟩;simp only[yx];unfold evN;rw[ho];dsimp only;rw[hu,hv,hl,hh];dsimp only[TD.er];rw[if_pos (by simpa[okB] using h3)]
 ·rename_i e id v s l0 n hu;obtain⟨h3,h⟩:=Za h;obtain⟨h4,h⟩:=Za h;refine⟨_,_,h,Y4 n l h',Zfl h4,λrest=> ?_⟩;unfold evN;rw[ho];dsimp only;rw[hu,hv,hl,hh];dsimp only[TD.er];rw[yaa,yx];dsimp only;rw[if_pos (by simpa[okB] using h3)]
 ·rename_i e hu _ _;obtain⟨r,h1,h⟩:=yf.1 h;obtain⟨h3,h⟩:=Za h;obtain⟨h4,h⟩:=Za h;refine⟨_,_,h,Y4 r.l.length l h',Zfl h4,λrest=> ?_⟩;simp only[yx];unfold evN;rw[ho];dsimp only;rw[TD.er,TP.pe,Zgw];rcases Zgx h1 with he|⟨id,he⟩
  ·rw[hu,hv,hl,hh,he];dsimp only;rw[if_pos (by simpa[okB] using h3),yz]
  ·rw[hu,hv,hl,hh,he];dsimp only;rw[if_pos (by simpa[okB] using h3),yz]
 ·rename_i n e x hu;obtain⟨r,h1,h⟩:=yf.1 h;obtain⟨h3,h⟩:=Za h;obtain⟨h4,h⟩:=Za h;refine⟨_,_,h,Y4 n l h',Zfl h4,λrest=> ?_⟩;simp only[yx];unfold evN;rw[ho];dsimp only;rw[hu,hv,hl,hh,show(TD.elem x).er L=.elem x.pe from rfl,V2 h1]
  dsimp only;rw[if_pos (by simpa[okB,and_assoc] using h3),TD.er,TP.pe,Zgw]
 ·rename_i n e id path hu;obtain⟨h3,h⟩:=Za h;obtain⟨h4,h⟩:=Za h;refine⟨_,_,h,Y4 n l h',Zfl h4,λrest=> ?_⟩;unfold evN;rw[ho];dsimp only;rw[hu,hv,hl,hh];dsimp only[TD.er];rw[yaa,yx];dsimp only;rw[if_pos (by simpa using h3)]
 ·cases h
end
def ZIr(x:UInt8)(n:Nat):UInt8:=yau (x.toNat*2 ^ n)
def ZIs(x:UInt8)(n:Nat):UInt8:=yau (x.toNat / 2 ^ n)
theorem ZHU{n:Nat}(h:n < 256):IntKind.u8.wrap (n:Int)=(n:Int):=by
 simp only[IntKind.wrap,IntKind.signed,IntKind.bits];simp;omega
theorem Zld(z:Int):IntKind.u8.wrap z=z % 256:=by
 simp only[IntKind.wrap,IntKind.signed,IntKind.bits];simp
theorem ZHV(op:BinOp)(x y:UInt8):bits op .u8 (x.toNat:Int) (y.toNat:Int)=((match op with|.and=>x&&&y|.or=>x|||y|.xor=>x^^^y|_=>x&&& ~~~y).toNat:Int):=by
 have e:∀z:UInt8,BitVec.ofInt (IntKind.u8.bits) (z.toNat:Int)=z.toBitVec:=λz=>by
  show BitVec.ofInt 8 (z.toNat:Int)=z.toBitVec;apply BitVec.eq_of_toNat_eq;rw[BitVec.ofInt_natCast,BitVec.toNat_ofNat];exact yah (UInt8.toNat_lt z)
 unfold bits;rw[e,e];cases op <;> exact ZHU (UInt8.toNat_lt _)
def op8:BinOp→UInt8→UInt8→Option UInt8
 |.add,x,y=>some (x+y)
 |.sub,x,y=>some (x - y)
 |.mul,x,y=>some (x*y)
 |.and,x,y=>some (x&&&y)
 |.or,x,y=>some (x|||y)
 |.xor,x,y=>some (x^^^y)
 |.andNot,x,y=>some (x&&& ~~~y)
 |_,_,_=>none
theorem ZIt{op:BinOp}{x y z:UInt8}(h:op8 op x y=some z)(rest:List Hint):Y2 op .u8 (x.toNat:Int) (y.toNat:Int) (.raw::rest)=some ([],.p (.int .u8 (z.toNat:Int)),rest):=by
 cases op <;> simp only[op8,yi,reduceCtorEq] at h <;> subst h
 ·simp only[Y2,Zc3,Zld,UInt8.toNat_add];simp
 ·have e:((x.toNat:Int) - (y.toNat:Int)) % 256=((x - y).toNat:Int):=by
   rw[UInt8.toNat_sub];have:=x.toNat_lt;have:=y.toNat_lt;omega
  simp only[Y2,Zc3,Zld,e]
 ·simp only[Y2,Zc3,Zld,UInt8.toNat_mul];simp
 all_goals simp only[Y2,ZHV]
def dv8:BinOp→UInt8→UInt8→Option UInt8
 |.quo,x,y=>some (x / y)
 |.rem,x,y=>some (x % y)
 |_,_,_=>none
theorem ZIu{op:BinOp}{x y z:UInt8}(h:dv8 op x y=some z)(rest:List Hint):Y2 op .u8 (x.toNat:Int) (y.toNat:Int) (.raw::rest)=some ([(y.toNat:Int)≠0],.p (.int .u8 (z.toNat:Int)),rest):=by
 cases op <;> simp only[dv8,yi,reduceCtorEq] at h <;> subst h
 ·simp only[Y2,UInt8.toNat_div];rw[show(x.toNat:Int).tdiv (y.toNat:Int)=((x.toNat / y.toNat:Nat):Int) from rfl,ZHU (ycu (Nat.div_le_self ..) (UInt8.toNat_lt _))]
 ·simp only[Y2,UInt8.toNat_mod];rfl
def ZIv:BinOp→UInt8→UInt8→Option Bool
 |.eql,x,y=>some (x==y)
 |.neq,x,y=>some (x !=y)
 |.lss,x,y=>some (decide (x < y))
 |.leq,x,y=>some (decide (x≤y))
 |.gtr,x,y=>some (decide (x > y))
 |.geq,x,y=>some (decide (x ≥ y))
 |_,_,_=>none
theorem ZGN{op:BinOp}{x y:UInt8}{b:Bool}(h:ZIv op x y=some b)(rest:List Hint):Y2 op .u8 (x.toNat:Int) (y.toNat:Int) rest=some ([],.p (.bool b),rest):=by
 have eq:((x.toNat:Int)==(y.toNat:Int))=(x==y):=by
  rw[yck];simp only[beq_iff_eq, ←UInt8.toNat_inj];omega
 have lt:∀a b:UInt8,decide ((a.toNat:Int) < (b.toNat:Int))=decide (a < b):=λa b=>by
  rw[yck];simp[UInt8.lt_iff_toNat_lt]
 have le:∀a b:UInt8,decide ((a.toNat:Int)≤(b.toNat:Int))=decide (a≤b):=λa b=>by
  rw[yck];simp[UInt8.le_iff_toNat_le]
 cases op <;> simp only[ZIv,yi,reduceCtorEq] at h <;> subst h <;> simp only[Y2,GT.gt,GE.ge,lt,le,eq,bne]
theorem ZGO(x:UInt8)(y:Int)(rest:List Hint):WH .shl .u8 (x.toNat:Int) y (.raw::rest)=some ([0≤y],.p (.int .u8 ((ZIr x (min y.toNat 8)).toNat:Int)),rest):=by
 simp only[WH,Zld,ZIr,UInt8.toNat_ofNat'];simp[show IntKind.u8.bits=8 from rfl]
theorem ZGP(x:UInt8)(y:Int)(rest:List Hint):WH .shr .u8 (x.toNat:Int) y (.raw::rest)=some ([0≤y],.p (.int .u8 ((ZIs x (min y.toNat 8)).toNat:Int)),rest):=by
 simp only[WH,ZIs,UInt8.toNat_ofNat'];congr 4;rw[show IntKind.u8.bits=8 from rfl]
 have h:x.toNat / 2 ^ min y.toNat 8 < 256:=ycu (Nat.div_le_self ..) (UInt8.toNat_lt _);rw[yah h];rw[show((2:Int) ^ min y.toNat 8)=((2 ^ min y.toNat 8:Nat):Int) by simp,Int.fdiv_eq_ediv_of_nonneg _ (Int.natCast_nonneg _)];rfl
def ZaS(x:UInt32)(n:Nat):UInt32:=ybs (x.toNat*2 ^ n)
def Zd6(x:UInt32)(n:Nat):UInt32:=ybs (x.toNat / 2 ^ n)
theorem ZEj{n:Nat}(h:n < 4294967296):IntKind.u32.wrap (n:Int)=(n:Int):=by
 simp only[IntKind.wrap,IntKind.signed,IntKind.bits];simp;omega
theorem Zil(z:Int):IntKind.u32.wrap z=z % 4294967296:=by
 simp only[IntKind.wrap,IntKind.signed,IntKind.bits];simp
theorem ZEk(op:BinOp)(x y:UInt32):bits op .u32 (x.toNat:Int) (y.toNat:Int)=((match op with|.and=>x&&&y|.or=>x|||y|.xor=>x^^^y|_=>x&&& ~~~y).toNat:Int):=by
 have e:∀z:UInt32,BitVec.ofInt (IntKind.u32.bits) (z.toNat:Int)=z.toBitVec:=λz=>by
  show BitVec.ofInt 32 (z.toNat:Int)=z.toBitVec;apply BitVec.eq_of_toNat_eq;rw[BitVec.ofInt_natCast,BitVec.toNat_ofNat];exact yah (UInt32.toNat_lt z)
 unfold bits;rw[e,e];cases op <;> exact ZEj (UInt32.toNat_lt _)
def ZIw:BinOp→UInt32→UInt32→Option UInt32
 |.add,x,y=>some (x+y)
 |.sub,x,y=>some (x - y)
 |.mul,x,y=>some (x*y)
 |.and,x,y=>some (x&&&y)
 |.or,x,y=>some (x|||y)
 |.xor,x,y=>some (x^^^y)
 |.andNot,x,y=>some (x&&& ~~~y)
 |_,_,_=>none
theorem ZGQ{op:BinOp}{x y z:UInt32}(h:ZIw op x y=some z)(rest:List Hint):Y2 op .u32 (x.toNat:Int) (y.toNat:Int) (.raw::rest)=some ([],.p (.int .u32 (z.toNat:Int)),rest):=by
 cases op <;> simp only[ZIw,yi,reduceCtorEq] at h <;> subst h
 ·simp only[Y2,Zc3,Zil,UInt32.toNat_add];simp
 ·have e:((x.toNat:Int) - (y.toNat:Int)) % 4294967296=((x - y).toNat:Int):=by
   rw[UInt32.toNat_sub];have:=x.toNat_lt;have:=y.toNat_lt;omega
  simp only[Y2,Zc3,Zil,e]
 ·simp only[Y2,Zc3,Zil,UInt32.toNat_mul];simp
 all_goals simp only[Y2,ZEk]
def ZIx:BinOp→UInt32→UInt32→Option UInt32
 |.quo,x,y=>some (x / y)
 |.rem,x,y=>some (x % y)
 |_,_,_=>none
theorem ZGR{op:BinOp}{x y z:UInt32}(h:ZIx op x y=some z)(rest:List Hint):Y2 op .u32 (x.toNat:Int) (y.toNat:Int) (.raw::rest)=some ([(y.toNat:Int)≠0],.p (.int .u32 (z.toNat:Int)),rest):=by
 cases op <;> simp only[ZIx,yi,reduceCtorEq] at h <;> subst h
 ·simp only[Y2,UInt32.toNat_div];rw[show(x.toNat:Int).tdiv (y.toNat:Int)=((x.toNat / y.toNat:Nat):Int) from rfl,ZEj (ycu (Nat.div_le_self ..) (UInt32.toNat_lt _))]
 ·simp only[Y2,UInt32.toNat_mod];rfl
def ZEl:BinOp→UInt32→UInt32→Option Bool
 |.eql,x,y=>some (x==y)
 |.neq,x,y=>some (x !=y)
 |.lss,x,y=>some (decide (x < y))
 |.leq,x,y=>some (decide (x≤y))
 |.gtr,x,y=>some (decide (x > y))
 |.geq,x,y=>some (decide (x ≥ y))
 |_,_,_=>none
theorem ZEm{op:BinOp}{x y:UInt32}{b:Bool}(h:ZEl op x y=some b)(rest:List Hint):Y2 op .u32 (x.toNat:Int) (y.toNat:Int) rest=some ([],.p (.bool b),rest):=by
 have eq:((x.toNat:Int)==(y.toNat:Int))=(x==y):=by
  rw[yck];simp only[beq_iff_eq, ←UInt32.toNat_inj];omega
 have lt:∀a b:UInt32,decide ((a.toNat:Int) < (b.toNat:Int))=decide (a < b):=λa b=>by
  rw[yck];simp[UInt32.lt_iff_toNat_lt]
 have le:∀a b:UInt32,decide ((a.toNat:Int)≤(b.toNat:Int))=decide (a≤b):=λa b=>by
  rw[yck];simp[UInt32.le_iff_toNat_le]
 cases op <;> simp only[ZEl,yi,reduceCtorEq] at h <;> subst h <;> simp only[Y2,GT.gt,GE.ge,lt,le,eq,bne]
theorem ZEn(x:UInt32)(y:Int)(rest:List Hint):WH .shl .u32 (x.toNat:Int) y (.raw::rest)=some ([0≤y],.p (.int .u32 ((ZaS x (min y.toNat 32)).toNat:Int)),rest):=by
 simp only[WH,Zil,ZaS,yco];simp[show IntKind.u32.bits=32 from rfl]
theorem ZEo(x:UInt32)(y:Int)(rest:List Hint):WH .shr .u32 (x.toNat:Int) y (.raw::rest)=some ([0≤y],.p (.int .u32 ((Zd6 x (min y.toNat 32)).toNat:Int)),rest):=by
 simp only[WH,Zd6,yco];congr 4;rw[show IntKind.u32.bits=32 from rfl]
 have h:x.toNat / 2 ^ min y.toNat 32 < 4294967296:=ycu (Nat.div_le_self ..) (UInt32.toNat_lt _);rw[yah h];rw[show((2:Int) ^ min y.toNat 32)=((2 ^ min y.toNat 32:Nat):Int) by simp,Int.fdiv_eq_ediv_of_nonneg _ (Int.natCast_nonneg _)];rfl
def V3(x:UInt64)(n:Nat):UInt64:=yad (x.toNat*2 ^ n)
def ZG(x:UInt64)(n:Nat):UInt64:=yad (x.toNat / 2 ^ n)
theorem ZBc{n:Nat}(h:n < 18446744073709551616):IntKind.u64.wrap (n:Int)=(n:Int):=by
 simp only[IntKind.wrap,IntKind.signed,IntKind.bits];simp;omega
theorem Zgy(z:Int):IntKind.u64.wrap z=z % 18446744073709551616:=by
 simp only[IntKind.wrap,IntKind.signed,IntKind.bits];simp
theorem ZEp(op:BinOp)(x y:UInt64):bits op .u64 (x.toNat:Int) (y.toNat:Int)=((match op with|.and=>x&&&y|.or=>x|||y|.xor=>x^^^y|_=>x&&& ~~~y).toNat:Int):=by
 have e:∀z:UInt64,BitVec.ofInt (IntKind.u64.bits) (z.toNat:Int)=z.toBitVec:=λz=>by
  show BitVec.ofInt 64 (z.toNat:Int)=z.toBitVec;apply BitVec.eq_of_toNat_eq;rw[BitVec.ofInt_natCast,BitVec.toNat_ofNat];exact yah (ybr z)
 unfold bits;rw[e,e];cases op <;> exact ZBc (ybr _)
def ZIy:BinOp→UInt64→UInt64→Option UInt64
 |.add,x,y=>some (x+y)
 |.sub,x,y=>some (x - y)
 |.mul,x,y=>some (x*y)
 |.and,x,y=>some (x&&&y)
 |.or,x,y=>some (x|||y)
 |.xor,x,y=>some (x^^^y)
 |.andNot,x,y=>some (x&&& ~~~y)
 |_,_,_=>none
theorem ZGS{op:BinOp}{x y z:UInt64}(h:ZIy op x y=some z)(rest:List Hint):Y2 op .u64 (x.toNat:Int) (y.toNat:Int) (.raw::rest)=some ([],.p (.int .u64 (z.toNat:Int)),rest):=by
 cases op <;> simp only[ZIy,yi,reduceCtorEq] at h <;> subst h
 ·simp only[Y2,Zc3,Zgy,UInt64.toNat_add];simp
 ·have e:((x.toNat:Int) - (y.toNat:Int)) % 18446744073709551616=((x - y).toNat:Int):=by
   rw[UInt64.toNat_sub];have:=x.toNat_lt;have:=y.toNat_lt;omega
  simp only[Y2,Zc3,Zgy,e]
 ·simp only[Y2,Zc3,Zgy,UInt64.toNat_mul];simp
 all_goals simp only[Y2,ZEp]
def ZIz:BinOp→UInt64→UInt64→Option UInt64
 |.quo,x,y=>some (x / y)
 |.rem,x,y=>some (x % y)
 |_,_,_=>none
theorem ZGT{op:BinOp}{x y z:UInt64}(h:ZIz op x y=some z)(rest:List Hint):Y2 op .u64 (x.toNat:Int) (y.toNat:Int) (.raw::rest)=some ([(y.toNat:Int)≠0],.p (.int .u64 (z.toNat:Int)),rest):=by
 cases op <;> simp only[ZIz,yi,reduceCtorEq] at h <;> subst h
 ·simp only[Y2,UInt64.toNat_div];rw[show(x.toNat:Int).tdiv (y.toNat:Int)=((x.toNat / y.toNat:Nat):Int) from rfl,ZBc (ycu (Nat.div_le_self ..) (ybr _))]
 ·simp only[Y2,UInt64.toNat_mod];rfl
def ZEq:BinOp→UInt64→UInt64→Option Bool
 |.eql,x,y=>some (x==y)
 |.neq,x,y=>some (x !=y)
 |.lss,x,y=>some (decide (x < y))
 |.leq,x,y=>some (decide (x≤y))
 |.gtr,x,y=>some (decide (x > y))
 |.geq,x,y=>some (decide (x ≥ y))
 |_,_,_=>none
theorem ZEr{op:BinOp}{x y:UInt64}{b:Bool}(h:ZEq op x y=some b)(rest:List Hint):Y2 op .u64 (x.toNat:Int) (y.toNat:Int) rest=some ([],.p (.bool b),rest):=by
 have eq:((x.toNat:Int)==(y.toNat:Int))=(x==y):=by
  rw[yck];simp only[beq_iff_eq, ←ycf];omega
 have lt:∀a b:UInt64,decide ((a.toNat:Int) < (b.toNat:Int))=decide (a < b):=λa b=>by
  rw[yck];simp[UInt64.lt_iff_toNat_lt]
 have le:∀a b:UInt64,decide ((a.toNat:Int)≤(b.toNat:Int))=decide (a≤b):=λa b=>by
  rw[yck];simp[UInt64.le_iff_toNat_le]
 cases op <;> simp only[ZEq,yi,reduceCtorEq] at h <;> subst h <;> simp only[Y2,GT.gt,GE.ge,lt,le,eq,bne]
theorem ZEs(x:UInt64)(y:Int)(rest:List Hint):WH .shl .u64 (x.toNat:Int) y (.raw::rest)=some ([0≤y],.p (.int .u64 ((V3 x (min y.toNat 64)).toNat:Int)),rest):=by
 simp only[WH,Zgy,V3,yba];simp[show IntKind.u64.bits=64 from rfl]
theorem ZEt(x:UInt64)(y:Int)(rest:List Hint):WH .shr .u64 (x.toNat:Int) y (.raw::rest)=some ([0≤y],.p (.int .u64 ((ZG x (min y.toNat 64)).toNat:Int)),rest):=by
 simp only[WH,ZG,yba];congr 4;rw[show IntKind.u64.bits=64 from rfl]
 have h:x.toNat / 2 ^ min y.toNat 64 < 18446744073709551616:=ycu (Nat.div_le_self ..) (ybr _);rw[yah h];rw[show((2:Int) ^ min y.toNat 64)=((2 ^ min y.toNat 64:Nat):Int) by simp,Int.fdiv_eq_ediv_of_nonneg _ (Int.natCast_nonneg _)];rfl
inductive Num where
 |u8 (x:UInt8)|u32 (x:UInt32)|u64 (x:UInt64)
 |i (k:IntKind) (x:Int)
def TP.num:TP→Option Num
 |.v (.int k) n=>if ZIp k then some (.i k n) else none
 |.v .u8 b=>some (.u8 b)
 |.v .u32 b=>some (.u32 b)
 |.v .u64 b=>some (.u64 b)
 |_=>none
def Num.k:Num→IntKind
 |.u8 _=>.u8|.u32 _=>.u32|.u64 _=>.u64|.i k _=>k
def Num.n:Num→Int
 |.u8 x=>(x.toNat:Int)|.u32 x=>(x.toNat:Int)|.u64 x=>(x.toNat:Int)|.i _ x=>x
theorem ZIA{x:TP}{a:Num}(h:x.num=some a):x.pe=.int a.k a.n:=by
 unfold TP.num at h;split at h
 ·split at h
  ·cases h;rfl
  ·cases h
 ·cases h;rfl
 ·cases h;rfl
 ·cases h;rfl
 ·cases h
def TD.num:TD→Option Num
 |.p x=>x.num
 |_=>none
theorem Zey{L:Lk}{x:TD}{a:Num}(h:x.num=some a):x.er L=.p (.int a.k a.n):=by
 unfold TD.num at h;split at h
 ·rw[TD.er,ZIA h]
 ·cases h
section
variable{L:Lk}{P:yg}{o:Oper}{ts:List TD}{O:Type}
def ZLH:BinOp→Bool
 |.eql|.neq|.lss|.leq|.gtr|.geq=>true
 |_=>false
def ZIB:BinOp→Int→Int→Option Bool
 |.eql,x,y=>some (x==y)
 |.neq,x,y=>some (x !=y)
 |.lss,x,y=>some (decide (x < y))
 |.leq,x,y=>some (decide (x≤y))
 |.gtr,x,y=>some (decide (x > y))
 |.geq,x,y=>some (decide (x ≥ y))
 |_,_,_=>none
theorem ZGU{op:BinOp}{k:IntKind}{x y:Int}{b:Bool}(h:ZIB op x y=some b)(rest:List Hint):Y2 op k x y rest=some ([],.p (.bool b),rest):=by
 cases op <;> simp only[ZIB,yi,reduceCtorEq] at h <;> subst h <;> rfl
def opI(k:IntKind):BinOp→Int→Int→Option Int
 |.add,x,y=>some (k.wrap (x+y))
 |.sub,x,y=>some (k.wrap (x - y))
 |.mul,x,y=>some (k.wrap (x*y))
 |.and,x,y=>some (bits .and k x y)
 |.or,x,y=>some (bits .or k x y)
 |.xor,x,y=>some (bits .xor k x y)
 |.andNot,x,y=>some (bits .andNot k x y)
 |_,_,_=>none
theorem ZIC{op:BinOp}{k:IntKind}{x y z:Int}(h:opI k op x y=some z)(rest:List Hint):Y2 op k x y (.raw::rest)=some ([],.p (.int k z),rest):=by
 cases op <;> simp only[opI,yi,reduceCtorEq] at h <;> subst h <;> rfl
def dvI(k:IntKind):BinOp→Int→Int→Option Int
 |.quo,x,y=>some (k.wrap (x.tdiv y))
 |.rem,x,y=>some (x.tmod y)
 |_,_,_=>none
theorem ZID{op:BinOp}{k:IntKind}{x y z:Int}(h:dvI k op x y=some z)(rest:List Hint):Y2 op k x y (.raw::rest)=some ([y≠0],.p (.int k z),rest):=by
 cases op <;> simp only[dvI,yi,reduceCtorEq] at h <;> subst h <;> rfl
def orN(b:Option Bool)(o:Option TP)(d:Option TP)(nz:Bool)(K:TD→List Hint→Option O):Option O:=
 match b,o,d with
 |some b,_,_=>K (.p (.v .bool b)) []
 |none,some z,_=>K (.p z) [.raw]
 |none,none,some z=>if nz=true then K (.p z) [.raw] else none
 |none,none,none=>none
def ZzG(op:BinOp)(x y:Num)(K:TD→List Hint→Option O):Option O:=
 match x,y with
 |.u8 a,.u8 b=>orN (ZIv op a b) ((op8 op a b).map (.v .u8)) ((dv8 op a b).map (.v .u8)) (b !=0) K
 |.u32 a,.u32 b=>orN (ZEl op a b) ((ZIw op a b).map (.v .u32)) ((ZIx op a b).map (.v .u32)) (b !=0) K
 |.u64 a,.u64 b=>orN (ZEq op a b) ((ZIy op a b).map (.v .u64)) ((ZIz op a b).map (.v .u64)) (b !=0) K
 |.i k a,.i l b=>if k=l∧ZIp k=true then orN (ZIB op a b) ((opI k op a b).map (.v (.int k))) ((dvI k op a b).map (.v (.int k))) (b !=0) K else none
 |_,_=>none
theorem Znx{k:IntKind}{op:BinOp}{x y:Int}{b:Option Bool}{o d:Option TP}{nz:Bool}{K:TD→List Hint→Option O}{out:O}(h:orN b o d nz K=some out)
 (hb:∀c,b=some c→∀rest,Y2 op k x y rest=some ([],.p (.bool c),rest))
 (ho:∀z,o=some z→∀rest,Y2 op k x y (.raw::rest)=some ([],.p z.pe,rest))
 (hd:∀z,d=some z→∀rest,Y2 op k x y (.raw::rest)=some ([y≠0],.p z.pe,rest)) (hz:nz=true→y≠0):
 ∃d hs C,K d hs=some out∧AllP C∧∀rest,Y2 op k x y (hs++rest)=some (C,d.er L,rest):=by
 unfold orN at h;split at h
 ·exact⟨_,_,[],h,trivial,hb _ rfl⟩
 ·exact⟨_,_,[],h,trivial,ho _ rfl⟩
 ·obtain⟨h1,h2⟩:=Za h;exact⟨_,_,[y≠0],h2,⟨hz h1,ytt⟩,hd _ rfl⟩
 ·cases h
theorem ZxX{op:BinOp}{x y:Num}{K:TD→List Hint→Option O}{out:O}(h:ZzG op x y K=some out):
 x.k=y.k∧∃d hs C,K d hs=some out∧AllP C∧∀rest,Y2 op x.k x.n y.n (hs++rest)=some (C,d.er L,rest):=by
 unfold ZzG at h;split at h
 ·rename_i a b;refine⟨rfl,Znx h (λc hc=>ZGN hc) (λz hz=> ?_) (λz hz=> ?_) (λhz=> ?_)⟩
  ·obtain⟨q,h1,rfl⟩:=Zb hz;exact ZIt h1
  ·obtain⟨q,h1,rfl⟩:=Zb hz;exact ZIu h1
  ·simp only[bne_iff_ne,ne_eq] at hz;intro e;exact hz (UInt8.toNat_inj.1 (by simp only[Num.n] at e;show b.toNat=0;omega))
 ·rename_i a b;refine⟨rfl,Znx h (λc hc=>ZEm hc) (λz hz=> ?_) (λz hz=> ?_) (λhz=> ?_)⟩
  ·obtain⟨q,h1,rfl⟩:=Zb hz;exact ZGQ h1
  ·obtain⟨q,h1,rfl⟩:=Zb hz;exact ZGR h1
  ·simp only[bne_iff_ne,ne_eq] at hz;intro e;exact hz (UInt32.toNat_inj.1 (by simp only[Num.n] at e;show b.toNat=0;omega))
 ·rename_i a b;refine⟨rfl,Znx h (λc hc=>ZEr hc) (λz hz=> ?_) (λz hz=> ?_) (λhz=> ?_)⟩
  ·obtain⟨q,h1,rfl⟩:=Zb hz;exact ZGS h1
  ·obtain⟨q,h1,rfl⟩:=Zb hz;exact ZGT h1
  ·simp only[bne_iff_ne,ne_eq] at hz;intro e;exact hz (ycf.1 (by simp only[Num.n] at e;show b.toNat=0;omega))
 ·rename_i k a l b;split at h
  ·rename_i e;obtain⟨rfl,e⟩:=e;refine⟨rfl,Znx h (λc hc=>ZGU hc) (λz hz=> ?_) (λz hz=> ?_) (λhz=> ?_)⟩
   ·obtain⟨q,h1,rfl⟩:=Zb hz;exact ZIC h1
   ·obtain⟨q,h1,rfl⟩:=Zb hz;exact ZID h1
   ·simpa[Num.n] using hz
  ·cases h
 ·cases h
def ZzH:Num→Bool
 |.i _ n=>decide (0≤n)
 |_=>true
theorem ZzI{x:Num}(h:ZzH x=true):0≤x.n:=by
 cases x <;> simp only[ZzH,Num.n,decide_eq_true_eq] at h ⊢ <;> omega
def shN(op:BinOp)(x y:Num):Option TP:=
 match op,x with
 |.shl,.u8 a=>some (.v .u8 (ZIr a (min y.n.toNat 8)))
 |.shl,.u32 a=>some (.v .u32 (ZaS a (min y.n.toNat 32)))
 |.shl,.u64 a=>some (.v .u64 (V3 a (min y.n.toNat 64)))
 |.shl,.i k a=>some (.v (.int k) (k.wrap (a*2 ^ min y.n.toNat k.bits)))
 |.shr,.u8 a=>some (.v .u8 (ZIs a (min y.n.toNat 8)))
 |.shr,.u32 a=>some (.v .u32 (Zd6 a (min y.n.toNat 32)))
 |.shr,.u64 a=>some (.v .u64 (ZG a (min y.n.toNat 64)))
 |.shr,.i k a=>some (.v (.int k) (a.fdiv (2 ^ min y.n.toNat k.bits)))
 |_,_=>none
theorem ZIE{op:BinOp}{x y:Num}{z:TP}(h:shN op x y=some z)(rest:List Hint):WH op x.k x.n y.n (.raw::rest)=some ([0≤y.n],.p z.pe,rest):=by
 unfold shN at h
 split at h <;> first
  |(cases h;first|exact ZGO .. |exact ZEn .. |exact ZEs .. |exact ZGP .. |exact ZEo .. |exact ZEt .. |rfl)
  |cases h
mutual
def Ty.flat:Ty→Bool
 |.sl _=>false
 |.str=>false
 |.arr _ t=>Ty.flat t
 |.st fs=>Ty.flats fs
 |_=>true
def Ty.flats:List Ty→Bool
 |[]=>true
 |t::r=>Ty.flat t&&Ty.flats r
end
mutual
theorem Zny:∀(t:Ty)(x y:t.den),t.flat=true→t.enc x=t.enc y→x=y
 |.int k,x,y,_,h=>by injection h
 |.u8,x,y,_,h=>by injection h with _ h;exact UInt8.toNat_inj.1 (by omega)
 |.u32,x,y,_,h=>by injection h with _ h;exact UInt32.toNat_inj.1 (by omega)
 |.u64,x,y,_,h=>by injection h with _ h;exact ycf.1 (by omega)
 |.bool,x,y,_,h=>by injection h
 |.str,_,_,hf,_=>nomatch hf
 |.sl _,_,_,hf,_=>nomatch hf
 |.arr n t,x,y,hf,h=>by
  injection h with _ _ h
  exact ZA2 (λa b e=>Zny t a b hf e) h
 |.st fs,x,y,hf,h=>by
  injection h with h;exact encs_inj fs x y hf h
theorem encs_inj:∀(fs:List Ty)(x y:Ty.dens fs),Ty.flats fs=true→Ty.encs fs x=Ty.encs fs y→x=y
 |[],_,_,_,_=>rfl
 |[t],x,y,hf,h=>by
  simp only[Ty.encs,List.cons.injEq,and_true] at h;simp only[Ty.flats,Bool.and_true] at hf
  exact Zny t x y hf h
 |t::u::r,x,y,hf,h=>by
  have h':t.enc x.1::Ty.encs (u::r) x.2=t.enc y.1::Ty.encs (u::r) y.2:=h;have hf':(t.flat&&Ty.flats (u::r))=true:=hf;rw[yj] at hf';injection h' with h1 h2;exact Prod.ext (Zny t x.1 y.1 hf'.1 h1) (encs_inj (u::r) x.2 y.2 hf'.2 h2)
end
mutual
def Ty.deq:(t:Ty)→DecidableEq t.den
 |.int _=>inferInstanceAs (DecidableEq Int)
 |.u8=>inferInstanceAs (DecidableEq UInt8)
 |.u32=>inferInstanceAs (DecidableEq UInt32)
 |.u64=>inferInstanceAs (DecidableEq UInt64)
 |.bool=>inferInstanceAs (DecidableEq Bool)
 |.str=>inferInstanceAs (DecidableEq ByteArray)
 |.sl t=>@instDecidableEqList t.den (Ty.deq t)
 |.arr _ t=>@instDecidableEqList t.den (Ty.deq t)
 |.st fs=>Ty.deqs fs
def Ty.deqs:(fs:List Ty)→DecidableEq (Ty.dens fs)
 |[]=>inferInstanceAs (DecidableEq Unit)
 |[t]=>Ty.deq t
 |t::u::r=>@instDecidableEqProd t.den (Ty.dens (u::r)) (Ty.deq t) (Ty.deqs (u::r))
end
mutual
def ZxY(P:yg):Nat→yb→Ty→Bool
 |0,_,_=>false
 |n+1,t,T=>match P.underlying t,T with
  |some .bool,.bool=>true
  |some (.int .u8),.u8=>true
  |some (.int .u32),.u32=>true
  |some (.int .u64),.u64=>true
  |some (.int k),.int l=>decide (k=l)
  |some (.array m e),.arr m' U=>decide (m'=m)&&(decide (P.cellsOf e=U.size)&&(decide (U.size≠0)&&((P.info? e).isSome&&((P.underlying e).isSome&&(decide (X7 P e=U.isAgg)&&ZxY P n e U)))))
  |some (.struct fs),.st Ts=>decide (P.stoodInHeld t=false)&&fitTs P n fs.toList 0 Ts
  |_,_=>false
def fitTs(P:yg):Nat→List Field→Nat→List Ty→Bool
 |0,_,_,_=>false
 |_+1,[],_,[]=>true
 |n+1,f::fs,o,T::Ts=>decide (f.name≠ "_")&&(decide (f.offset=o)&&(decide (P.cellsOf f.type=T.size)&&((P.info? f.type).isSome&&((P.underlying f.type).isSome&&(decide (X7 P f.type=T.isAgg)&&(decide (T.size≠0)&&(ZxY P n f.type T&&fitTs P n fs (o+T.size) Ts)))))))
 |_+1,_,_,_=>false
end
mutual
theorem Znz:∀(n:Nat)(t:yb)(T:Ty),ZxY P n t T=true→∀(x:T.den),fitP P n t (T.enc x)
 |0,_,_,h,_=>by simp[ZxY] at h
 |n+1,t,T,h,x=>by
  simp only[ZxY] at h;unfold fitP;split at h
  ·rename_i hu;rw[hu];trivial
  ·rename_i hu;rw[hu];exact rfl
  ·rename_i hu;rw[hu];exact rfl
  ·rename_i hu;rw[hu];exact rfl
  ·rename_i hu;rw[hu];simp only[decide_eq_true_eq] at h;exact h.symm
  ·rename_i m e m' U hu;simp only[yj,decide_eq_true_eq] at h;obtain⟨h1,h2,h3,h4,h5,h6,h7⟩:=h;rw[hu];refine⟨h1,h2,h3,h4,h5,λy hy=> ?_⟩;obtain⟨z,_,rfl⟩:=List.mem_map.1 hy;exact⟨Znz n e U h7 z,Zhv U z,by rw[Zlc];exact h6⟩
  ·rename_i fs Ts hu;simp only[yj,decide_eq_true_eq] at h;rw[hu];exact⟨h.1,Znq (λt x k=>k) _ _ _ (fitTs_ok n fs.toList 0 Ts h.2 x)⟩
  ·cases h
theorem fitTs_ok:∀(n:Nat)(fs:List Field)(o:Nat)(Ts:List Ty),fitTs P n fs o Ts=true→∀(x:Ty.dens Ts),Zho P (fitP P n) fs o (Ty.encs Ts x)
 |0,_,_,_,h,_=>by simp[fitTs] at h
 |n+1,[],_,[],_,_=>trivial
 |n+1,[],_,_::_,h,_=>by simp[fitTs] at h
 |n+1,_::_,_,[],h,_=>by simp[fitTs] at h
 |n+1,f::fs,o,T::Ts,h,x=>by
  simp only[fitTs,yj,decide_eq_true_eq] at h;obtain⟨h1,h2,h3,h4,h5,h6,h7,h8,h9⟩:=h
  have key:∃(a:T.den)(b:Ty.dens Ts),Ty.encs (T::Ts) x=T.enc a::Ty.encs Ts b:=by
   cases Ts with
   |nil=>exact⟨x,(),rfl⟩
   |cons U r=>exact⟨x.1,x.2,rfl⟩
  obtain⟨a,b,e⟩:=key;rw[e];refine⟨h1,h2,by rw[Zhv];exact h3,h4,h5,by rw[Zlc];exact h6,by rw[Zhv];exact h7,Zq5 (Znz n f.type T h8 a), ?_⟩;rw[Zhv];exact Znq (λt x k=>Zq5 k) _ _ _ (fitTs_ok n fs _ Ts h9 b)
end
end
end Go.Ev
end
section
namespace Go.Ev
section
variable{L:Lk}{P:yg}{o:Oper}{ts:List TD}{O:Type}
def ZvS(r:Zzk):Option Bool:=
 match r with
 |some ([],.p (.bool b),[])=>some b
 |_=>none
theorem ZuE{t:yb}{x y:Dv}{b:Bool}(h:Zi6 P t x y []=some ([],b,[]))(rest:List Hint):Zi6 P t x y rest=some ([],b,rest):=by
 unfold Zi6 at h ⊢
 split at h <;> first
  |(simp only[yi,yl,and_true,true_and] at h;subst h;rfl)
  |cases h
  |(split at h <;> first|(rename_i e;cases e)|cases h)
theorem ZCR{op:BinOp}{t:yb}{x y:Dv}{b:Bool}(h:ZvS (Zd5 P op t x y [])=some b)(rest:List Hint):Zd5 P op t x y rest=some ([],.p (.bool b),rest):=by
 have h':Zd5 P op t x y []=some ([],.p (.bool b),[]):=by
  unfold ZvS at h;split at h
  ·rename_i e;cases h;exact e
  ·cases h
 clear h;unfold Zd5 at h' ⊢;split at h'
 ·split at h'
  ·cases op <;> simp[WH] at h'
  ·split at h'
   ·rename_i k a k' b' _ hk;simp only[hk,if_true];rename_i hs;simp only[hs,if_false];cases op <;> simp only[Y2,Zc3,yi,yl,Dv.p.injEq,Pl.bool.injEq,and_true,true_and,reduceCtorEq] at h' ⊢ <;> first|exact h'|skip
    all_goals first|(cases h';done)|(cases h';simp;done)|(simp[ZqX] at h';done)
   ·cases h'
 ·cases op <;> simp only[yi,yl,Dv.p.injEq,Pl.bool.injEq,and_true,true_and,reduceCtorEq] at h' ⊢ <;> exact h'
 ·rename_i hx hy;cases op <;> first|cases h'|skip
  ·obtain⟨q,h1,h2⟩:=Zb h';simp only[yl,Dv.p.injEq,Pl.bool.injEq] at h2;obtain⟨q1,q2,q3⟩:=q;obtain⟨rfl,rfl,rfl⟩:=h2;simp only[ZuE h1 rest,yab]
  ·obtain⟨q,h1,h2⟩:=Zb h';simp only[yl,Dv.p.injEq,Pl.bool.injEq] at h2;obtain⟨q1,q2,q3⟩:=q;obtain⟨rfl,rfl,rfl⟩:=h2;simp only[ZuE h1 rest,yab]
def TD.val:TD→Option (Σ t:Ty,t.den)
 |.p (.v t x)=>some ⟨t,x⟩
 |_=>none
theorem ZvT{x:TD}{q:Σ t:Ty,t.den}(h:x.val=some q):x.er L=.p (q.1.enc q.2):=by
 unfold TD.val at h;split at h
 ·cases h;rfl
 ·cases h
def ZIF(P:yg)(t:yb):Bool:=
 match P.underlying t with
 |some (.array _ _)=>true
 |some (.struct _)=>true
 |_=>false
def eqN(P:yg)(op:BinOp)(t:yb)(x y:TD)(K:TD→List Hint→Option O):Option O:=
 match x.val,y.val with
 |some a,some b=>(Ty.cast b.1 a.1 b.2).bind λz=>
  if ZIF P t&&(a.1.isAgg&&(a.1.flat&&(ZxY P 20 t a.1&&decide (P.eqGuardType P.depth t=false)))) then
   match op with
   |.eql=>K (.p (.v .bool (@decide (a.2=z) (Ty.deq a.1 a.2 z)))) [.b (@decide (a.2=z) (Ty.deq a.1 a.2 z))]
   |.neq=>K (.p (.v .bool (!(@decide (a.2=z) (Ty.deq a.1 a.2 z))))) [.b (@decide (a.2=z) (Ty.deq a.1 a.2 z))]
   |_=>none
  else none
 |_,_=>none
theorem ZnA{t:yb}{a:Σ t:Ty,t.den}{z:a.1.den}(h1:ZIF P t=true)(h2:a.1.isAgg=true)(h3:a.1.flat=true)(h4:ZxY P 20 t a.1=true)(h5:P.eqGuardType P.depth t=false)(rest:List Hint):
 ∃C,AllP C∧Zi6 P t (.p (a.1.enc a.2)) (.p (a.1.enc z)) (.b (@decide (a.2=z) (Ty.deq a.1 a.2 z))::rest)=some (C,@decide (a.2=z) (Ty.deq a.1 a.2 z),rest)∧C=[fitP P 20 t (a.1.enc a.2),fitP P 20 t (a.1.enc z),(@decide (a.2=z) (Ty.deq a.1 a.2 z)=true↔a.1.enc a.2=a.1.enc z)]:=by
 have f1:=Znz 20 t a.1 h4 a.2;have f2:=Znz 20 t a.1 h4 z
 have f3:(@decide (a.2=z) (Ty.deq a.1 a.2 z)=true↔a.1.enc a.2=a.1.enc z):=by
  rw[@decide_eq_true_iff _ (Ty.deq a.1 a.2 z)];exact⟨λe=>by rw[e],λe=>Zny a.1 _ _ h3 e⟩
 refine⟨[fitP P 20 t (a.1.enc a.2),fitP P 20 t (a.1.enc z),(@decide (a.2=z) (Ty.deq a.1 a.2 z)=true↔a.1.enc a.2=a.1.enc z)],⟨f1,f2,f3,ytt⟩, ?_,rfl⟩;generalize @decide (a.2=z) (Ty.deq a.1 a.2 z)=β at f3;generalize a.1.enc a.2=p at f1 f3 ⊢;generalize a.1.enc z=q at f2 f3 ⊢;clear f3;unfold ZIF at h1;unfold fitP at f1 f2;unfold Zi6;split at h1
 ·rename_i m e hu;rw[hu] at f1 f2 ⊢;cases p <;> first|exact f1.elim|skip
  cases q <;> first|exact f2.elim|skip
  dsimp only;rw[if_pos h5]
 ·rename_i m hu;rw[hu] at f1 f2 ⊢;cases p <;> first|exact f1.elim|skip
  cases q <;> first|exact f2.elim|skip
  dsimp only;rw[if_pos h5]
 ·cases h1
theorem ZuF{t:yb}{x y:Pl}(hx:x.isAgg=true)(op:BinOp)(hs:List Hint)(h:op=.eql∨op=.neq):Zd5 P op t (.p x) (.p y) hs=(Zi6 P t (.p x) (.p y) hs).map λr=>(r.1,.p (.bool (if op=.eql then r.2.1 else !r.2.1)),r.2.2):=by
 cases x <;> first|cases hx|skip
 all_goals (unfold Zd5;rcases h with rfl|rfl <;> rfl)
theorem ZEu{op:BinOp}{t:yb}{x y:TD}{K:TD→List Hint→Option O}{out:O}(h:eqN P op t x y K=some out):∃d hs C,K d hs=some out∧AllP C∧∀rest,Zd5 P op t (x.er L) (y.er L) (hs++rest)=some (C,d.er L,rest):=by
 unfold eqN at h;split at h
 ·rename_i a b ha hb;obtain⟨z,h1,h⟩:=yf.1 h;obtain⟨h2,h⟩:=Za h;simp only[yj,decide_eq_true_eq] at h2;obtain⟨g1,g2,g3,g4,g5⟩:=h2
  have ey:y.er L=.p (a.1.enc z):=by
   obtain⟨e,rfl⟩:=ZaR h1;rw[ZvT hb];cases a;cases b;cases e;rfl
  have ga:(a.1.enc a.2).isAgg=true:=by rw[Zlc];exact g2
  split at h
  ·obtain⟨C,c1,c2,_⟩:=ZnA (P:=P) (z:=z) g1 g2 g3 g4 g5 [];refine⟨_,_,[fitP P 20 t (a.1.enc a.2),fitP P 20 t (a.1.enc z),(@decide (a.2=z) (Ty.deq a.1 a.2 z)=true↔a.1.enc a.2=a.1.enc z)],h, ?_,λrest=> ?_⟩
   ·obtain⟨C,c1,_,rfl⟩:=ZnA (P:=P) (z:=z) g1 g2 g3 g4 g5 [];exact c1
   ·obtain⟨C,_,c2,rfl⟩:=ZnA (P:=P) (z:=z) g1 g2 g3 g4 g5 rest;rw[ZvT ha,ey,ZuF ga _ _ (.inl rfl),yaa,yx,c2];rfl
  ·refine⟨_,_,[fitP P 20 t (a.1.enc a.2),fitP P 20 t (a.1.enc z),(@decide (a.2=z) (Ty.deq a.1 a.2 z)=true↔a.1.enc a.2=a.1.enc z)],h, ?_,λrest=> ?_⟩
   ·obtain⟨C,c1,_,rfl⟩:=ZnA (P:=P) (z:=z) g1 g2 g3 g4 g5 [];exact c1
   ·obtain⟨C,_,c2,rfl⟩:=ZnA (P:=P) (z:=z) g1 g2 g3 g4 g5 rest;rw[ZvT ha,ey,ZuF ga _ _ (.inr rfl),yaa,yx,c2];rfl
  ·cases h
 ·cases h
def ZIG(L:Lk)(x y:TD):Option Bool:=
 match y with
 |.p (.sl (some false) _ [])=>match x.row L with
  |some ⟨none,_,l⟩=>some l.isEmpty
  |_=>none
 |_=>none
theorem ZGV{x y:TD}{b:Bool}(h:ZIG L x y=some b):∃s xs s',(x.er L=.p (.sl none s xs)∨∃id,x.er L=.own id none s xs)∧y.er L=.p (.sl (some false) s' [])∧xs.isEmpty=b:=by
 unfold ZIG at h;split at h
 ·split at h
  ·rename_i T q t l hr;cases h;refine⟨t.size,l.map t.enc,T.size, ?_,rfl,by cases l <;> rfl⟩;rcases Zgx hr with h|⟨id,h⟩
   ·exact .inl h
   ·exact .inr ⟨id,h⟩
  ·cases h
 ·cases h
def ZJY(P:yg)(op:BinOp)(t:yb)(b:Bool)(K:TD→List Hint→Option O):Option O:=
 match P.underlying t with
 |some (.slice _)=>if b=true then none else match op with
  |.eql=>K (.p (.v .bool false)) [.bare]
  |.neq=>K (.p (.v .bool true)) [.bare]
  |_=>none
 |_=>none
def ZIH(L:Lk)(P:yg)(op:BinOp)(t:yb)(x y:TD)(K:TD→List Hint→Option O):Option O:=
 match x.num,y.num with
 |some a,some b=>if Zvu op then(shN op a b).bind λz=>if ZzH b=true then K (.p z) [.raw] else none else ZzG op a b K
 |_,_=>match ZvS (Zd5 P op t (x.er L) (y.er L) []) with
  |some b=>K (.p (.v .bool b)) []
  |none=>match ZIG L x y with
   |some b=>ZJY P op t b K
   |none=>eqN P op t x y K
theorem ZCS{op:BinOp}{t:yb}{x y:TD}{K:TD→List Hint→Option O}{out:O}(h:ZIH L P op t x y K=some out):∃d hs C,K d hs=some out∧AllP C∧∀rest,Zd5 P op t (x.er L) (y.er L) (hs++rest)=some (C,d.er L,rest):=by
 unfold ZIH at h;split at h
 ·rename_i a b ha hb;rw[Zey ha,Zey hb];split at h
  ·rename_i hsh;obtain⟨z,h1,h⟩:=yf.1 h;obtain⟨h2,h⟩:=Za h;refine⟨_,_,[0≤b.n],h,⟨ZzI h2,ytt⟩,λrest=> ?_⟩;unfold Zd5;dsimp only;rw[if_pos hsh];exact ZIE h1 rest
  ·rename_i hsh;obtain⟨hk,d,hs,C,h1,h2,h3⟩:=ZxX h;refine⟨d,hs,C,h1,h2,λrest=> ?_⟩;unfold Zd5;dsimp only;rw[if_neg hsh,if_pos hk];exact h3 rest
 ·split at h
  ·rename_i b hb;exact⟨_,_,[],h,trivial,ZCR hb⟩
  ·split at h
   ·rename_i b hb;obtain⟨s,xs,s',h1,h2,h3⟩:=ZGV hb;unfold ZJY at h;split at h
    ·rename_i e hu;split at h
     ·cases h
     ·rename_i hne;have hxs:xs≠[]:=by rintro rfl;exact hne (by rw[←h3];rfl)
      split at h
      ·refine⟨_,_,[xs≠[]],h,⟨hxs,ytt⟩,λrest=> ?_⟩;unfold Zd5;rcases h1 with h1|⟨id,h1⟩ <;> (rw[h1,h2];dsimp only;unfold Zi6;rw[hu];rfl)
      ·refine⟨_,_,[xs≠[]],h,⟨hxs,ytt⟩,λrest=> ?_⟩;unfold Zd5;rcases h1 with h1|⟨id,h1⟩ <;> (rw[h1,h2];dsimp only;unfold Zi6;rw[hu];rfl)
      ·cases h
    ·cases h
   ·exact ZEu h
def ZvU(k:IntKind):Num→Option TP
 |.u8 b=>match k with
  |.u8=>some (.v .u8 b)
  |.u32=>some (.v .u32 (ybs b.toNat))
  |.u64=>some (.v .u64 (yad b.toNat))
  |.i64=>some (.v (.int .i64) (b.toNat:Int))
  |_=>none
 |.u32 b=>match k with
  |.u32=>some (.v .u32 b)
  |.u64=>some (.v .u64 (yad b.toNat))
  |.i64=>some (.v (.int .i64) (b.toNat:Int))
  |_=>none
 |.u64 b=>match k with
  |.u64=>some (.v .u64 b)
  |_=>none
 |.i _ _=>none
theorem ZzJ{k:IntKind}{a:Num}{z:TP}(h:ZvU k a=some z):Vz k a.n∧z.pe=.int k a.n:=by
 unfold ZvU at h;split at h
 ·rename_i b;have:=b.toNat_lt;split at h <;> first|cases h|skip
  all_goals
   refine⟨?_, ?_⟩
   ·simp only[Vz,IntKind.min,IntKind.max,IntKind.signed,IntKind.bits,Num.n];constructor <;> simp<;> omega
   ·simp only[TP.pe,Ty.enc,Num.n,yco,yba]
    try (congr 2;omega)
 ·rename_i b;have:=b.toNat_lt;split at h <;> first|cases h|skip
  all_goals
   refine⟨?_, ?_⟩
   ·simp only[Vz,IntKind.min,IntKind.max,IntKind.signed,IntKind.bits,Num.n];constructor <;> simp<;> omega
   ·simp only[TP.pe,Ty.enc,Num.n,yco,yba]
    try (congr 2;omega)
 ·rename_i b;have:=b.toNat_lt;split at h <;> first|cases h|skip
  refine⟨?_,rfl⟩;simp only[Vz,IntKind.min,IntKind.max,IntKind.signed,IntKind.bits,Num.n];constructor <;> simp<;> omega
 ·cases h
def bytesOf(l:List UInt8):ByteArray:=⟨l.toArray⟩
theorem ZxZ(l:List UInt8):l.map (Ty.enc .u8)=(bytesOf l).data.toList.map λx=>.int .u8 (x.toNat:Int):=rfl
def ZJZ(P:yg)(e:yb)(K:TD→List Hint→Option O)(r:Row):Option O:=
 (Ty.castL r.t .u8 r.l).bind λl=>match P.underlying e with
   |some (.int .u8)=>K (.p (.v .str (bytesOf l))) [.el (.str (bytesOf l))]
   |_=>none
def ZII:TD→Option ByteArray
 |.p (.v t s)=>match t with
  |.str=>some s
  |_=>none
 |_=>none
theorem ZGW{L:Lk}{x:TD}{b:ByteArray}(h:ZII x=some b):x.er L=.p (.str b):=by
 unfold ZII at h;split at h
 ·split at h
  ·cases h;rfl
  ·cases h
 ·cases h
def ZEv(L:Lk)(P:yg)(src dst:yb)(K:TD→List Hint→Option O)(x:TD):Option O:=
 match P.underlying src,P.underlying dst with
 |some _,some (.int k)=>x.num.bind λa=>match ZvU k a with
  |some z=>K (.p z) [.bare]
  |none=>K (.p (ZGG k a.n)) [.raw]
 |some (.slice e),some .string=>(x.row L).bind (ZJZ P e K)
 |some .string,some (.slice e)=>(ZII x).bind λb=>match P.underlying e with
  |some (.int .u8)=>if decide (b.size≤maxLen)=true then K (.p (.sl (some true) .u8 b.data.toList)) [] else none
  |_=>none
 |_,_=>none
theorem ZzK{src dst:yb}{x:yo}{K:TD→List Hint→Option O}{xd:TD}{out:O}(ho:o.op=.convert src dst x)(hx:arT P ts src x=some xd)(h:ZEv L P src dst K xd=some out):∃d hs,K d hs=some out∧GoodN L P o ts d hs:=by
 have hv:=Zw (L:=L) hx;unfold ZEv at h;split at h
 ·rename_i q k hq hk;obtain⟨a,h1,h⟩:=yf.1 h;rw[Zey h1] at hv;split at h
  ·rename_i z hz;obtain⟨c1,c2⟩:=ZzJ hz;refine⟨_,_,h,[Vz k a.n],⟨c1,ytt⟩,λrest=> ?_⟩;unfold evN;rw[ho];dsimp only;rw[hq,hk,hv,TD.er,c2];rfl
  ·refine⟨_,_,h,[],trivial,λrest=> ?_⟩;unfold evN;rw[ho];dsimp only;rw[hq,hk,hv,TD.er,ZA7];rfl
 ·rename_i e hq hk;obtain⟨r,h1,h⟩:=yf.1 h;unfold ZJZ at h;obtain⟨l,h2,h9⟩:=yf.1 h;split at h9
  ·rename_i he;obtain⟨nn,rt,rl⟩:=r;obtain⟨e1,h2⟩:=ZE h2;dsimp only at e1 h2;subst e1;subst h2;refine⟨_,_,h9,[l.map (Ty.enc .u8)=(bytesOf l).data.toList.map λx=>.int .u8 (x.toNat:Int)],⟨ZxZ l,ytt⟩,λrest=> ?_⟩;unfold evN;rw[ho];dsimp only;rcases Zgx h1 with e2|⟨id,e2⟩
   ·rw[hq,hk,hv,e2];dsimp only;rw[yaa,yx,he];dsimp only;rw[if_pos (show Ty.u8.size=1 from rfl)]
    rfl
   ·rw[hq,hk,hv,e2];dsimp only;rw[yaa,yx,he];dsimp only;rw[if_pos (show Ty.u8.size=1 from rfl)]
    rfl
  ·cases h9
 ·rename_i e hq hk;obtain⟨b,h1,h⟩:=yf.1 h;split at h
  ·rename_i he;obtain⟨h2,h⟩:=Za h;refine⟨_,_,h,[b.size≤maxLen],⟨of_decide_eq_true h2,ytt⟩,λrest=> ?_⟩;unfold evN;rw[ho];dsimp only;rw[hq,hk,hv,ZGW h1];dsimp only;rw[he];rfl
  ·cases h
 ·cases h
def Zr3(P:yg)(ts:List TD)(f:Nat→yb):List (Nat×yo)→Option (List (Nat×TD))
 |[]=>some []
 |q::r=>match arT P ts (f q.1) q.2,Zr3 P ts f r with
  |some d,some l=>some ((q.1,d)::l)
  |_,_=>none
theorem Zle{f:Nat→yb}:∀{parts:List (Nat×yo)}{l:List (Nat×TD)},Zr3 P ts f parts=some l→QY P (TD.ers L ts) f parts=l.map λq=>(q.1,q.2.er L)
 |[],l,h=>by cases h;rfl
 |q::r,l,h=>by
  simp only[Zr3] at h;split at h
  ·rename_i d l' h1 h2;cases h;have:=Zle h2;simp only[QY,yaf] at this ⊢;rw[this,Zw h1]
  ·cases h
def ZnB(L:Lk):List TD→List (Nat×TD)→Option (List TD)
 |ds,[]=>some ds
 |ds,(i,d)::r=>match ds[i]? with
  |some old=>if(old.er L).size=(d.er L).size then ZnB L (ds.set i d) r else none
  |none=>none
theorem ZmK:∀{l:List (Nat×TD)}{ds es:List TD},ZnB L ds l=some es→Zci (TD.ers L ds) (l.map λq=>(q.1,q.2.er L))=some (TD.ers L es)
 |[],ds,es,h=>by cases h;rfl
 |(i,d)::r,ds,es,h=>by
  simp only[ZnB] at h;split at h
  ·rename_i old h1;split at h
   ·rename_i h2;have:=ZmK h;simp only[yaf,Zci,ZAR];rw[Zgu h1];dsimp only;rw[if_pos h2];rw[show(TD.ers L ds).set i (d.er L)=TD.ers L (ds.set i d) by rw[ZN,ZN,ybo]];exact this
   ·cases h
  ·cases h
def Zr4(P:yg):List yb→List Pl→Option (List TP)
 |[],[]=>some []
 |t::r,z::q=>match ZvR P t z,Zr4 P r q with
  |some a,some b=>some (a::b)
  |_,_=>none
 |_,_=>none
theorem ZoV:∀{l:List yb}{zs:List Pl}{r:List TP},Zr4 P l zs=some r→TP.pes r=zs
 |[],[],r,h=>by cases h;rfl
 |[],_::_,r,h=>by cases h
 |_::_,[],r,h=>by cases h
 |t::l,z::zs,r,h=>by
  simp only[Zr4] at h;split at h
  ·rename_i a b h1 h2;cases h;rw[TP.pes,ZoU h1,ZoV h2]
  ·cases h
def Zgz(L:Lk):List TD→Option (List TP)
 |[]=>some []
 |d::r=>match d.plain L,Zgz L r with
  |some a,some b=>some (a::b)
  |_,_=>none
theorem Zr5{x:TD}(h:x.plain L=none):(x.er L).plain=none:=by
 cases x <;> first|rfl|cases h
theorem ZmL:∀(ds:List TD),Ze8 (TD.ers L ds)=(Zgz L ds).map TP.pes
 |[]=>rfl
 |d::r=>by
  simp only[TD.ers,Ze8,Zgz];rw[ZmL r]
  cases h:d.plain L with
  |none=>rw[Zr5 h];cases Zgz L r <;> rfl
  |some a=>
   rw[ZuD h];cases Zgz L r <;> rfl
def ZzL(L:Lk)(P:yg)(t:yb)(ds:List TD):TD:=
 match Zgz L ds with
 |some l=>.p (ZGJ P t l)
 |none=>.agg ds
theorem ZCT(t:yb)(ds:List TD):(ZzL L P t ds).er L=Zxj (TD.ers L ds):=by
 unfold ZzL Zxj;rw[ZmL]
 cases Zgz L ds with
 |none=>rfl
 |some l=>simp only[TD.er,ZA8,yab]
theorem ZEw(l:List TP):TD.ers L (l.map .p)=(TP.pes l).map .p:=by
 rw[ZN,ZcJ,ybc,ybc];rfl
def ZzM(L:Lk)(P:yg)(ts:List TD)(t:yb)(parts:List (Nat×yo))(K:TD→List Hint→Option O):Option O:=
 match P.underlying t,XO P t with
 |some (.struct fs),.p (.agg zs)=>(Zr4 P (fs.toList.map (·.type)) zs).bind λzt=>(Zr3 P ts (ZjN P t) parts).bind λps=>
  if(Zc4 (ps.map λq=>(q.1,q.2.er L))&&fs.size==zs.length&&(yw zs.length).all λi=>Zgm P fs i (Pl.sizes (zs.take i)) ((zs.getD i default).size) ((zs.getD i default).isAgg))=true then
   (ZnB L (zt.map .p) ps).bind λds=>K (ZzL L P t ds) [] else none
 |some (.array _ e),.p (.arr n s zs)=>(Zr4 P (yy zs.length e) zs).bind λzt=>(Zr3 P ts (ZjN P t) parts).bind λps=>
  if(Zc4 (ps.map λq=>(q.1,q.2.er L))&&P.cellsOf e=s&&(P.info? e).isSome)=true then
   (ZnB L (zt.map .p) ps).bind λds=>match Zgz L ds with
     |some l=>K (.p (ZGK P t n s l)) []
     |none=>K (.arr n s ds) [] else none
 |_,_=>none
theorem Zx0{t:yb}{parts:Array (Nat×yo)}{K:TD→List Hint→Option O}{out:O}(ho:o.op=.build t parts)(h:ZzM L P ts t parts.toList K=some out):∃d hs,K d hs=some out∧GoodN L P o ts d hs:=by
 unfold ZzM at h;split at h
 ·rename_i fs zs hu hz;obtain⟨zt,h1,h⟩:=yf.1 h;obtain⟨ps,h2,h⟩:=yf.1 h;obtain⟨h3,h⟩:=Za h;obtain⟨ds,h4,h⟩:=yf.1 h;refine⟨_,_,h,[],trivial,λrest=> ?_⟩;simp only[yx];unfold evN;rw[ho];dsimp only;rw[hu,hz];dsimp only;rw[Zle h2,if_pos h3];have:=ZmK h4;rw[ZEw,ZoV h1] at this;rw[this,ZCT];rfl
 ·rename_i m e n s zs hu hz;obtain⟨zt,h1,h⟩:=yf.1 h;obtain⟨ps,h2,h⟩:=yf.1 h;obtain⟨h3,h⟩:=Za h;obtain⟨ds,h4,h⟩:=yf.1 h;have:=ZmK h4;rw[ZEw,ZoV h1] at this;have pl:=ZmL (L:=L) ds;split at h
  ·rename_i l hl;refine⟨_,_,h,[],trivial,λrest=> ?_⟩;simp only[yx];unfold evN;rw[ho];dsimp only;rw[hu,hz];dsimp only;rw[Zle h2,if_pos h3,this,Option.bind_some,pl,hl,TD.er,ZA9];rfl
  ·rename_i hl;refine⟨_,_,h,[],trivial,λrest=> ?_⟩;simp only[yx];unfold evN;rw[ho];dsimp only;rw[hu,hz];dsimp only;rw[Zle h2,if_pos h3,this,Option.bind_some,pl,hl];rfl
 ·cases h
def ZGX(L:Lk)(P:yg)(ts:List TD)(e:yb)(T:Ty):List (Nat×yo)→Option (List T.den)
 |[]=>some []
 |q::r=>match (arT P ts e q.2).bind (TD.flat L) with
  |some x=>if x.pe.size=P.cellsOf e then Zl1 (TP.to Zj1 x T) (ZGX L P ts e T r) |>.map λp=>p.1::p.2 else none
  |none=>none
theorem ZBd{e:yb}{T:Ty}:∀{parts:List (Nat×yo)}{l:List T.den},ZGX L P ts e T parts=some l→
 ∃xs,Dv.flats (parts.map λq=>Zy P (TD.ers L ts) e q.2)=some xs∧xs.all (λx=>x.size==P.cellsOf e)=true∧xs.map Pl.soft=l.map T.enc
 |[],l,h=>by cases h;exact⟨[],rfl,rfl,rfl⟩
 |q::r,l,h=>by
  simp only[ZGX] at h;split at h
  ·rename_i x hx;obtain⟨d,h1,h2⟩:=yf.1 hx;split at h
   ·rename_i hs;obtain⟨p,h3,rfl⟩:=Zb h;obtain⟨h4,h5⟩:=ZaB h3;obtain⟨xs,e1,e2,e3⟩:=ZBd h5;refine⟨x.pe::xs, ?_, ?_, ?_⟩
    ·simp only[yaf,Dv.flats];rw[Zw h1,ZxU h2,e1]
    ·simp only[List.all_cons,yj,beq_iff_eq];exact⟨hs,e2⟩
    ·rw[yaf,Zgv x T _ h4,e3,yaf]
   ·cases h
  ·cases h
def ZzN(L:Lk)(P:yg)(ts:List TD)(t:yb)(len:Nat)(parts:List (Nat×yo))(K:(T:Ty)→List T.den→yb→Option O):Option O:=
 match P.underlying t with
 |some (.slice e)=>(Zj2 P tyD e).bind λT=>(P.info? e).bind λi=>(ZGX L P ts e T parts).bind λl=>
  if(parts.map (·.1)==yw len)&&(zOk i&&i.size !=0&&decide (len*i.size≤16777216))&&(decide (i.size=T.size)&&decide (P.cellsOf e=i.size)) then K T l e else none
 |_=>none
theorem Zhw{t:yb}{len:Nat}{parts:List (Nat×yo)}{K:(T:Ty)→List T.den→yb→Option O}{out:O}(h:ZzN L P ts t len parts K=some out):
 ∃e T l i xs,K T l e=some out∧P.underlying t=some (.slice e)∧P.info? e=some i∧WI P (TD.ers L ts) e (P.cellsOf e) len parts=some xs∧(zOk i&&i.size !=0&&decide (len*i.size≤16777216))=true∧i.size=T.size∧xs.map Pl.soft=l.map T.enc:=by
 unfold ZzN at h;split at h
 ·rename_i e hu;obtain⟨T,h1,h⟩:=yf.1 h;obtain⟨i,h2,h⟩:=yf.1 h;obtain⟨l,h3,h⟩:=yf.1 h;obtain⟨h4,h⟩:=Za h;simp only[yj,decide_eq_true_eq] at h4;obtain⟨xs,e1,e2,e3⟩:=ZBd h3;refine⟨e,T,l,i,xs,h,hu,h2, ?_, ?_,h4.2.1,e3⟩
  ·unfold WI;rw[if_pos h4.1.1,e1];dsimp only;rw[if_pos e2]
  ·simp only[yj,decide_eq_true_eq];exact h4.1.2
 ·cases h
def ZIJ(L:Lk)(P:yg)(t:yb)(K:TD→List Hint→Option O)(x:TD):Option O:=
 match P.underlying t with
 |some (.slice _)=>match x with
  |.view _ _ _ _ n=>K (.p (.v (.int .i64) (n:Int))) []
  |.rv _ _ _ _ n=>K (.p (.v (.int .i64) (n:Int))) []
  |x=>(x.row L).bind λr=>K (.p (.v (.int .i64) (r.l.length:Int))) []
 |some (.array n _)=>K (.p (.v (.int .i64) (n:Int))) []
 |some .string=>match x with
  |.p x=>x.strB.bind λs=>K (.p (.v (.int .i64) (s.size:Int))) []
  |_=>none
 |_=>none
theorem ZCU{t:yb}{x:yo}{c:Call}{K:TD→List Hint→Option O}{xd:TD}{out:O}(ho:o.op=.call c)(hc:c.callee=.builtin .len)(ha:c.args.toList=[x])(ht:c.argTypes.toList=[t])
 (hx:arT P ts t x=some xd) (h:ZIJ L P t K xd=some out):∃d hs,K d hs=some out∧GoodN L P o ts d hs:=by
 have hv:=Zw (L:=L) hx;unfold ZIJ at h;split at h
 ·rename_i e hu;split at h
  ·refine⟨_,_,h,[],trivial,λrest=> ?_⟩;simp only[yx];unfold evN;rw[ho];dsimp only;rw[hc];dsimp only;rw[ha,ht];dsimp only;rw[hu,hv];rfl
  ·refine⟨_,_,h,[],trivial,λrest=> ?_⟩;simp only[yx];unfold evN;rw[ho];dsimp only;rw[hc];dsimp only;rw[ha,ht];dsimp only;rw[hu,hv];rfl
  ·obtain⟨r,h1,h⟩:=yf.1 h;refine⟨_,_,h,[],trivial,λrest=> ?_⟩;simp only[yx];unfold evN;rw[ho];dsimp only;rw[hc];dsimp only;rw[ha,ht];dsimp only;rcases Zgx h1 with he|⟨id,he⟩
   ·rw[hu,hv,he];dsimp only;rw[yz];rfl
   ·rw[hu,hv,he];dsimp only;rw[yz];rfl
 ·rename_i n e hu;refine⟨_,_,h,[],trivial,λrest=> ?_⟩;simp only[yx];unfold evN;rw[ho];dsimp only;rw[hc];dsimp only;rw[ha,ht];dsimp only;rw[hu];rfl
 ·rename_i hu;split at h
  ·obtain⟨s,h1,h⟩:=yf.1 h;refine⟨_,_,h,[],trivial,λrest=> ?_⟩;simp only[yx];unfold evN;rw[ho];dsimp only;rw[hc];dsimp only;rw[ha,ht];dsimp only;rw[hu,hv,TD.er,ZBb h1];rfl
  ·cases h
 ·cases h
def Zx1(L:Lk)(P:yg)(T:Ty)(u:yb)(x:TD):Option (List T.den):=
 match P.underlying u with
 |some (.slice _)=>(x.row L).bind λr=>Ty.castL r.t T r.l
 |some .string=>match x,T with
  |.p (.v .str s),.u8=>some (ZlB s)
  |_,_=>none
 |_=>none
theorem Zlf{T:Ty}{u:yb}{x:TD}{l:List T.den}(h:Zx1 L P T u x=some l):Zi7 P T.size u (x.er L)=some (l.map T.enc):=by
 unfold Zx1 at h;split at h
 ·rename_i e hu;obtain⟨r,h1,h⟩:=yf.1 h;obtain⟨e,h2⟩:=ZE h;obtain⟨nn,t,l0⟩:=r;dsimp only at e h2 h1;subst e;subst h2;unfold Zi7;rcases Zgx h1 with he|⟨id,he⟩
  ·rw[hu,he];dsimp only;rw[if_pos (.inl rfl)]
  ·rw[hu,he];dsimp only;rw[if_pos rfl]
 ·rename_i hu;split at h
  ·rename_i s;cases h;unfold Zi7;rw[hu];rfl
  ·cases h
 ·cases h
def TD.boolT:TD→Option Bool
 |.p x=>x.boolB
 |_=>none
theorem Zhx{x:TD}{b:Bool}(h:x.boolT=some b):x.er L=.p (.bool b):=by
 unfold TD.boolT at h;split at h
 ·rw[TD.er,ZEi h]
 ·cases h
def TD.inner:TD→Option TP
 |.p x=>some x
 |_=>none
def ZEx(P:yg)(ts:List TD):List yo→Option (List TD)
 |[]=>some []
 |x::r=>match arT P ts 0 x,ZEx P ts r with
  |some a,some b=>some (a::b)
  |_,_=>none
theorem ZvV:∀{l:List yo}{ds:List TD},ZEx P ts l=some ds→l.map (Zy P (TD.ers L ts) 0)=TD.ers L ds
 |[],ds,h=>by cases h;rfl
 |x::l,ds,h=>by
  simp only[ZEx] at h;split at h
  ·rename_i a b h1 h2;cases h;rw[yaf,Zw h1,ZvV h2];rfl
  ·cases h
def ZHW(P:yg)(t:yb)(K:TD→List Hint→Option O):TD→Option O
 |.elem x=>if decide (P.cellsOf t=x.pe.size)&&(X7 P t==x.pe.isAgg&&((P.underlying t).isSome&&(P.info? t).isSome)) then K (.p x) [] else none
 |_=>none
def ZHX(L:Lk)(P:yg)(ts:List TD)(t u:yb)(x y:yo)(K:TD→List Hint→Option O):Option O:=
 match P.underlying t,arT P ts t x with
 |some (.slice e),some (.p (.sl (some false) _ []))=>(P.info? e).bind λi=>(Zj2 P tyD e).bind λT=>(arT P ts u y).bind λyd=>(Zx1 L P T u yd).bind λl=>
  if(zOk i&&i.size !=0)&&(decide (P.cellsOf e=T.size)&&decide (i.size=T.size)) then if ZzC l.length i.bytes=true then K (.p (.sl none T l)) [.snap] else none else none
 |_,_=>none
def ZvW(P:yg)(t:yb)(l h m:Option Int)(K:TD→List Hint→Option O):TD→Option O
 |.rv _ _ _ _ n=>match P.underlying t with
  |some (.slice e)=>l.bind λl=>h.bind λh=>m.bind λm=>if(P.info? e).isSome=true then if(decide (0≤l)&&decide (l≤h)&&decide (h≤m)&&decide (m≤(n:Int)))=true then K .junk [] else none else none
  |_=>none
 |_=>none
theorem ZvX{t:yb}{x mx:yo}{lo hi:Option yo}{l h' m:Option Int}{K:TD→List Hint→Option O}{xd:TD}{out:O}(ho:o.op=.slice t x lo hi (some mx))(hx:arT P ts t x=some xd)(hl:Zge P ts lo=some l)(hh:Zge P ts hi=some h')(hm:Zge P ts (some mx)=some m)
 (h:ZvW P t l h' m K xd=some out):∃d hs,K d hs=some out∧GoodN L P o ts d hs:=by
 have hv:=Zw (L:=L) hx;have hl:=Zbd (L:=L) hl;have hh:=Zbd (L:=L) hh;have hm:=Zbd (L:=L) hm;unfold ZvW at h;split at h
 ·rename_i id v s l0 n;split at h
  ·rename_i e hu;obtain⟨l2,q1,h⟩:=yf.1 h;obtain⟨h2,q2,h⟩:=yf.1 h;obtain⟨m2,q3,h⟩:=yf.1 h;subst q1;subst q2;subst q3;obtain⟨h3,h⟩:=Za h;obtain⟨h4,h⟩:=Za h;simp only[yj,decide_eq_true_eq] at h4;refine⟨_,_,h,[0≤l2,l2≤h2,h2≤m2,m2≤(n:Int)],⟨h4.1.1.1,h4.1.1.2,h4.1.2,h4.2,ytt⟩,λrest=> ?_⟩;simp only[yx];unfold evN;rw[ho];dsimp only;rw[hu,hv,hl,hh,hm];dsimp only[TD.er];rw[if_pos h3]
  ·cases h
 ·cases h
def ZvY(P:yg)(t:yb)(K:TD→List Hint→Option O)(r:Row):Option O:=
 match P.underlying t with
 |some (.array n e)=>if(n !=0)=true then if decide (n≤r.l.length)=true then K (.elem (.v (.arr n r.t) (r.l.take n))) [] else none else none
 |_=>none
theorem ZvZ{t:yb}{x:yo}{K:TD→List Hint→Option O}{xd:TD}{r:Row}{out:O}(ho:o.op=.sliceToArrayPointer t x)(hx:arT P ts 0 x=some xd)(hr:xd.row L=some r)
 (h:ZvY P t K r=some out):∃d hs,K d hs=some out∧GoodN L P o ts d hs:=by
 have hv:=Zw (L:=L) hx;unfold ZvY at h;split at h
 ·rename_i n e hu;obtain⟨h3,h⟩:=Za h;obtain⟨h4,h⟩:=Za h;have h4:=of_decide_eq_true h4;refine⟨_,_,h,[n≤(r.l.map r.t.enc).length],⟨by rw[yz];exact h4,ytt⟩,λrest=> ?_⟩;simp only[yx];unfold evN;rw[ho];dsimp only;rcases Zgx hr with e2|⟨id,e2⟩
  ·rw[hu,hv,e2];dsimp only;rw[if_pos h3, ←List.map_take];rfl
  ·rw[hu,hv,e2];dsimp only;rw[if_pos h3, ←List.map_take];rfl
 ·cases h
def ZIK(L:Lk)(x:TD):Option (List UInt8):=(x.row L).bind λr=>Ty.castL r.t .u8 r.l
def ZJ0(L:Lk)(K:TD→List Hint→Option O)(a b:TD):Option O:=(ZIK L a).bind λl=>(ZIK L b).bind λm=>K (.p (.v (.int .i64) (Go.Lib.compareBytes l m))) [.el (.str (bytesOf l)),.el (.str (bytesOf m))]
theorem ZBe{L:Lk}{x:TD}{l:List UInt8}(h:ZIK L x=some l):∃nn,(x.er L).argI []=.p (.sl nn 1 (Zfa (bytesOf l))):=by
 obtain⟨r,h1,h2⟩:=yf.1 h;obtain⟨nn,rt,rl⟩:=r;obtain⟨e1,h2⟩:=ZE h2;dsimp only at e1 h2;subst e1;subst h2;rcases Zgx h1 with e2|⟨id,e2⟩
 ·rw[e2];exact⟨_,rfl⟩
 ·rw[e2];exact⟨_,rfl⟩
def ZIL:Num→Option TP
 |.u8 b=>some (.v .u8 (255^^^b))
 |.u32 b=>some (.v .u32 (4294967295^^^b))
 |.u64 b=>some (.v .u64 (18446744073709551615^^^b))
 |.i _ _=>none
theorem ZGY{a:Num}{z:TP}(h:ZIL a=some z):a.k.signed=false∧z.pe=.int a.k (bits .xor a.k a.k.max a.n):=by
 unfold ZIL at h;split at h
 ·rename_i b;cases h;exact⟨rfl,congrArg (Pl.int .u8) (ZHV .xor 255 b).symm⟩
 ·rename_i b;cases h;exact⟨rfl,congrArg (Pl.int .u32) (ZEk .xor 4294967295 b).symm⟩
 ·rename_i b;cases h;exact⟨rfl,congrArg (Pl.int .u64) (ZEp .xor 18446744073709551615 b).symm⟩
 ·cases h
def opN(L:Lk)(P:yg)(o:Oper)(ts:List TD)(K:TD→List Hint→Option O):Option O:=
 match o.op with
 |.move x=>(arT P ts o.type x).bind λd=>K d [.raw]
 |.assign x=>(arT P ts o.type x).bind λd=>K d [.raw]
 |.pick c a b=>((arT P ts 0 c).bind TD.boolT).bind λt=>(arT P ts o.type a).bind λda=>(arT P ts o.type b).bind λdb=>if t=true then K da [.b true] else K db [.b false]
 |.nilCheck x=>match arT P ts 0 x with
  |some (.ref id p)=>K (.ref id p) []
  |some (.elem y)=>K (.elem y) []
  |some (.rref id v p)=>K (.rref id v p) []
  |some (.rp id p)=>K (.rp id p) []
  |some (.fn f c)=>K (.fn f c) []
  |_=>none
 |.binOp op t x y yt=>(arT P ts t x).bind λa=>(arT P ts yt y).bind λb=>ZIH L P op t a b K
 |.unOp .not _ x=>((arT P ts 0 x).bind TD.boolT).bind λt=>K (.p (.v .bool (!t))) []
 |.unOp .neg _ x=>((arT P ts 0 x).bind TD.num).bind λa=>K (.p (ZGG a.k (0 - a.n))) [.raw]
 |.unOp .xor _ x=>((arT P ts 0 x).bind TD.num).bind λa=>(ZIL a).bind λz=>K (.p z) []
 |.convert src dst x=>(arT P ts src x).bind (ZEv L P src dst K)
 |.makeFunc (.func f) first captured=>if(first.isEmpty&&decide (f < big))=true then(ZEx P ts captured.toList).bind λds=>K (.fn f ds) [] else if captured.isEmpty=true then(ZEx P ts first.toList).bind λds=>K (.fn (f+big) ds) [] else none
 |.makeInterface t x=>match P.underlying t with
  |some (.interface _)=>none
  |some _=>(arT P ts t x).bind λd=>K (.iface t d) []
  |none=>none
 |.field t x i=>(arT P ts t x).bind (ZzD L P t i K)
 |.fieldAddr t x i=>(arT P ts 0 x).bind (ZmI P t i K)
 |.indexAddr t x ix=>(arT P ts t x).bind λa=>(arT P ts 0 ix).bind λb=>b.inner.bind λip=>(ZvP ip).bind λq=>ZmJ L P t q.2 K a
 |.index t x ix=>(arT P ts t x).bind λa=>a.inner.bind λap=>(arT P ts 0 ix).bind λb=>b.inner.bind λip=>(ZvP ip).bind λq=>ZzE P t q.2 K ap
 |.slice t x lo hi none=>(arT P ts t x).bind λa=>(Zge P ts lo).bind λl=>(Zge P ts hi).bind λh=>ZzF L P t l h K a
 |.slice t x lo hi (some mx)=>(arT P ts t x).bind λa=>(Zge P ts lo).bind λl=>(Zge P ts hi).bind λh=>(Zge P ts (some mx)).bind λm=>ZvW P t l h m K a
 |.sliceToArrayPointer t x=>(arT P ts 0 x).bind λa=>(a.row L).bind (ZvY P t K)
 |.extract x i=>match arT P ts 0 x with
  |some (.tup ds)=>(ds[i]?).bind λd=>K d []
  |_=>none
 |.load t x=>(arT P ts 0 x).bind (ZHW P t K)
 |.build t parts=>ZzM L P ts t parts.toList K
 |.buildSlice t len parts=>ZzN L P ts t len parts.toList λT l _=>K (.p (.sl (some true) T l)) [.snap]
 |.call c=>match c.callee with
  |.builtin .len=>match c.args.toList,c.argTypes.toList with
   |[x],[t]=>(arT P ts t x).bind (ZIJ L P t K)
   |_,_=>none
  |.builtin .append=>match c.args.toList,c.argTypes.toList with
   |[x,y],[t,u]=>ZHX L P ts t u x y K
   |_,_=>none
  |.value f=>match arT P ts 0 f with
   |some (.fn g [])=>if(Zmy P g&&c.args.size==c.argTypes.size)=true then match c.args.toList,c.argTypes.toList with
     |[x,y],[t,u]=>(arT P ts t x).bind λa=>(arT P ts u y).bind λb=>ZJ0 L K a b
     |_,_=>none
    else none
   |_=>none
  |_=>none
 |_=>none
theorem Xi{x:TD}{y:TP}(h:x.inner=some y):x=.p y:=by
 unfold TD.inner at h;split at h
 ·cases h;rfl
 ·cases h
theorem ZEy{K:TD→List Hint→Option O}{out:O}(h:opN L P o ts K=some out):∃d hs,K d hs=some out∧GoodN L P o ts d hs:=by
 unfold opN at h;split at h
 ·rename_i x ho;obtain⟨d,h1,h⟩:=yf.1 h;refine⟨_,_,h,[],trivial,λrest=> ?_⟩;unfold evN;rw[ho];dsimp only;rw[Zw h1];rfl
 ·rename_i x ho;obtain⟨d,h1,h⟩:=yf.1 h;refine⟨_,_,h,[],trivial,λrest=> ?_⟩;unfold evN;rw[ho];dsimp only;rw[Zw h1];rfl
 ·rename_i c a b ho;obtain⟨t,h1,h⟩:=yf.1 h;obtain⟨cd,h0,h1⟩:=yf.1 h1;obtain⟨da,h2,h⟩:=yf.1 h;obtain⟨db,h3,h⟩:=yf.1 h;split at h
  ·rename_i ht;refine⟨_,_,h,[t=true],⟨ht,ytt⟩,λrest=> ?_⟩;unfold evN;rw[ho];dsimp only;rw[Zw h0,Zhx h1,Zw h2];rfl
  ·rename_i ht;refine⟨_,_,h,[t=false],⟨by simpa using ht,ytt⟩,λrest=> ?_⟩;unfold evN;rw[ho];dsimp only;rw[Zw h0,Zhx h1,Zw h3];rfl
 ·rename_i x ho;split at h
  all_goals first|cases h;done|skip
  all_goals
   rename_i hx;refine⟨_,_,h,[],trivial,λrest=> ?_⟩;simp only[yx];unfold evN;rw[ho];dsimp only;rw[Zw hx];rfl
 ·rename_i op t x y yt ho;obtain⟨a,h1,h⟩:=yf.1 h;obtain⟨b,h2,h⟩:=yf.1 h;obtain⟨d,hs,C,h3,h4,h5⟩:=ZCS h;refine⟨d,hs,h3,C,h4,λrest=> ?_⟩;unfold evN;rw[ho];dsimp only;rw[Zw h1,Zw h2];exact h5 rest
 ·rename_i t x ho;obtain⟨b,h1,h⟩:=yf.1 h;obtain⟨xd,h0,h1⟩:=yf.1 h1;refine⟨_,_,h,[],trivial,λrest=> ?_⟩;simp only[yx];unfold evN;rw[ho];dsimp only;rw[Zw h0,Zhx h1];rfl
 ·rename_i t x ho;obtain⟨a,h1,h⟩:=yf.1 h;obtain⟨xd,h0,h1⟩:=yf.1 h1;refine⟨_,_,h,[],trivial,λrest=> ?_⟩;unfold evN;rw[ho];dsimp only;rw[Zw h0,Zey h1,TD.er,ZA7];rfl
 ·rename_i t x ho;obtain⟨a,h1,h⟩:=yf.1 h;obtain⟨xd,h0,h1⟩:=yf.1 h1;obtain⟨z,h2,h⟩:=yf.1 h;obtain⟨e1,e2⟩:=ZGY h2;refine⟨_,_,h,[],trivial,λrest=> ?_⟩;unfold evN;rw[ho];dsimp only;rw[Zw h0,Zey h1,TD.er,e2];dsimp only;rw[e1];rfl
 ·rename_i src dst x ho;obtain⟨a,h1,h⟩:=yf.1 h;exact ZzK ho h1 h
 ·rename_i f first captured ho
  split at h
  ·rename_i hf;obtain⟨ds,h1,h⟩:=yf.1 h;refine⟨_,_,h,[],trivial,λrest=> ?_⟩;simp only[yx];unfold evN;rw[ho];dsimp only;rw[if_pos hf,ZvV h1];rfl
  ·rename_i hf;split at h
   ·rename_i hf2;obtain⟨ds,h1,h⟩:=yf.1 h;refine⟨_,_,h,[],trivial,λrest=> ?_⟩;simp only[yx];unfold evN;rw[ho];dsimp only;rw[if_neg hf,if_pos hf2,ZvV h1];rfl
   ·cases h
 ·rename_i t x ho;split at h
  ·cases h
  ·rename_i u hu hne;obtain⟨d,h1,h⟩:=yf.1 h;refine⟨_,_,h,[],trivial,λrest=> ?_⟩;simp only[yx];unfold evN;rw[ho];dsimp only;rw[Zw h1,hne];split
   ·rename_i ms hh;exact absurd (ybm hh) (hu ms)
   ·rfl
   ·rename_i hh;cases hh
  ·cases h
 ·rename_i t x i ho;obtain⟨a,h1,h⟩:=yf.1 h;obtain⟨d,h2,h3⟩:=ZpP h;refine⟨_,_,h2,[],trivial,λrest=> ?_⟩;simp only[yx];unfold evN;rw[ho];dsimp only;rw[Zw h1,h3];rfl
 ·rename_i t x i ho;obtain⟨a,h1,h⟩:=yf.1 h;exact ZqA ho h1 h
 ·rename_i t x ix ho;obtain⟨a,h1,h⟩:=yf.1 h;obtain⟨b,h2,h⟩:=yf.1 h;obtain⟨ip,h3,h⟩:=yf.1 h;obtain⟨q,h4,h⟩:=yf.1 h;rw[Xi h3] at h2;exact ZqB (id:=.junk) ho h1 h2 h4 h
 ·rename_i t x ix ho;obtain⟨a,h1,h⟩:=yf.1 h;obtain⟨ap,h5,h⟩:=yf.1 h;obtain⟨b,h2,h⟩:=yf.1 h;obtain⟨ip,h3,h⟩:=yf.1 h;obtain⟨q,h4,h⟩:=yf.1 h;rw[Xi h3] at h2;rw[Xi h5] at h1;exact ZxV ho h1 h2 h4 h
 ·rename_i t x lo hi ho;obtain⟨a,h1,h⟩:=yf.1 h;obtain⟨l,h2,h⟩:=yf.1 h;obtain⟨r,h3,h⟩:=yf.1 h;exact ZxW ho h1 h2 h3 h
 ·rename_i t x lo hi mx ho;obtain⟨a,h1,h⟩:=yf.1 h;obtain⟨l,h2,h⟩:=yf.1 h;obtain⟨r,h3,h⟩:=yf.1 h;obtain⟨m,h4,h⟩:=yf.1 h;exact ZvX ho h1 h2 h3 h4 h
 ·rename_i t x ho;obtain⟨a,h1,h⟩:=yf.1 h;obtain⟨r,h2,h⟩:=yf.1 h;exact ZvZ ho h1 h2 h
 ·rename_i x i ho;split at h
  ·rename_i ds hx;obtain⟨d,h1,h⟩:=yf.1 h;refine⟨_,_,h,[],trivial,λrest=> ?_⟩;simp only[yx];unfold evN;rw[ho];dsimp only;rw[Zw hx];dsimp only[TD.er];rw[Zgu h1];rfl
  ·cases h
 ·rename_i t x ho;obtain⟨a,h1,h⟩:=yf.1 h;unfold ZHW at h;split at h
  ·obtain⟨h2,h⟩:=Za h;refine⟨_,_,h,[],trivial,λrest=> ?_⟩;simp only[yx];unfold evN;rw[ho];dsimp only;rw[Zw h1];dsimp only[TD.er];rw[if_pos (by simpa[and_assoc] using h2)]
  ·cases h
 ·rename_i t parts ho;exact Zx0 ho h
 ·rename_i t len parts ho;obtain⟨e,T,l,i,xs,h1,hu,hi,hl,hz,hs,hx⟩:=Zhw h;refine⟨_,_,h1,[],trivial,λrest=> ?_⟩;unfold evN;rw[ho];dsimp only;rw[yaa,yx];dsimp only;rw[hu];dsimp only;rw[hi,hl];dsimp only;rw[if_pos (by simpa using hz),hx,hs];rfl
 ·rename_i c ho;split at h
  ·rename_i hc;split at h
   ·rename_i x t ha ht;obtain⟨a,h1,h⟩:=yf.1 h;exact ZCU ho hc ha ht h1 h
   ·cases h
  ·rename_i hc;split at h
   ·rename_i x y t u ha ht;unfold ZHX at h;split at h
    ·rename_i e T0 hu hx;obtain⟨i,h1,h⟩:=yf.1 h;obtain⟨T,h2,h⟩:=yf.1 h;obtain⟨yd,h3,h⟩:=yf.1 h;obtain⟨l,h4,h⟩:=yf.1 h;obtain⟨h5,h⟩:=Za h;obtain⟨h6,h⟩:=Za h;simp only[yj,decide_eq_true_eq] at h5;obtain⟨g1,g2⟩:=Zc7 h6;refine⟨_,_,h,[(l.map T.enc).length*i.bytes≤Zn,(l.map T.enc).length≤maxLen],⟨by rw[yz];exact g1,by rw[yz];exact g2,ytt⟩,λrest=> ?_⟩;unfold evN;rw[ho];dsimp only;rw[hc];dsimp only;rw[ha,ht,yaa,yx];dsimp only;rw[hu,Zw hx,Zw h3,show(TD.p (TP.sl (some false) T0 [])).er L=Dv.p (.sl (some false) T0.size []) from rfl]
     dsimp only;rw[h1,h5.2.1,Zlf h4];dsimp only;rw[if_pos (by simpa using h5.1)];rfl
    ·cases h
   ·cases h
  ·rename_i f hc;split at h
   ·rename_i g hf;obtain⟨hk,h⟩:=Za h;split at h
    ·rename_i x y t u ha ht;obtain⟨a,h1,h⟩:=yf.1 h;obtain⟨b,h2,h⟩:=yf.1 h;unfold ZJ0 at h;obtain⟨l,h3,h⟩:=yf.1 h;obtain⟨m,h4,h⟩:=yf.1 h;obtain⟨n1,e1⟩:=ZBe h3;obtain⟨n2,e2⟩:=ZBe h4;refine⟨_,_,h,[Zfa (bytesOf l)=Zfa (bytesOf l),Zfa (bytesOf m)=Zfa (bytesOf m)],⟨rfl,rfl,ytt⟩,λrest=> ?_⟩
     have hg:g < big:=by
      rw[yj] at hk;have hk2:=hk.1;unfold Zmy at hk2;rw[yj,decide_eq_true_eq] at hk2;exact hk2.1
     have e3:Xh P [] (TD.ers L ts) c g []=[.p (.sl n1 1 (Zfa (bytesOf l))),.p (.sl n2 1 (Zfa (bytesOf m)))]:=by
      unfold Xh;rw[if_pos hg,ha,ht];simp only[List.zip_cons_cons,List.zip_nil_right,yaf,List.map_nil,List.append_nil];rw[Zw h1,Zw h2,e1,e2]
     unfold evN;rw[ho];dsimp only;rw[hc];dsimp only;rw[Zw hf,yaa,yaa,yx,show TD.er L (.fn g [])=Dv.fn g [] from rfl]
     dsimp only;rw[if_pos hk,e3];dsimp only;rw[if_pos ⟨rfl,rfl⟩];rfl
    ·cases h
   ·cases h
  ·cases h
 ·cases h
end
end Go.Ev
end
section
namespace Go.Ev
mutual
theorem ZnC{L M:Lk}(h:∀id t,Ya L id t none=Ya M id t none):∀(d:TD),d.er L=d.er M
 |.p _=>rfl
 |.elem _=>rfl
 |.ref _ _=>rfl
 |.own id nn t c=>by
  cases c with
  |none=>rw[TD.er,TD.er,h]
  |some _=>rfl
 |.view _ _ _ _ _=>rfl
 |.agg xs=>by rw[TD.er,TD.er,ers_cont h xs]
 |.arr _ _ xs=>by rw[TD.er,TD.er,ers_cont h xs]
 |.fn _ xs=>by rw[TD.er,TD.er,ers_cont h xs]
 |.iface _ x=>by rw[TD.er,TD.er,ZnC h x]
 |.tup xs=>by rw[TD.er,TD.er,ers_cont h xs]
 |.mp _=>rfl
 |.rv _ _ _ _ _=>rfl
 |.rref _ _ _=>rfl
 |.rw _=>by simp only[TD.er,ZbU,h]
 |.rp _ _=>by simp only[TD.er,ZbU,h]
 |.junk=>rfl
theorem ers_cont{L M:Lk}(h:∀id t,Ya L id t none=Ya M id t none):∀(ds:List TD),TD.ers L ds=TD.ers M ds
 |[]=>rfl
 |x::r=>by rw[TD.ers,TD.ers,ZnC h x,ers_cont h r]
end
theorem ZEz{L M:Lk}(h:∀id t,Ya L id t none=Ya M id t none)(e:TEnt):e.er L=e.er M:=by
 cases e with
 |var d st=>rw[TEnt.er,TEnt.er,ZnC h]
 |row v s st e d=>rw[TEnt.er,TEnt.er,ZnC h]
 |rowM t np v st e pre mid post=>rw[TEnt.er,TEnt.er,ZnC h]
 |_=>rfl
mutual
def TD.free(n:Nat):TD→Bool
 |.own id _ _ c=>c.isSome || id !=n
 |.rw id=>id !=n
 |.rp id _=>id !=n
 |.agg xs=>TD.frees n xs
 |.arr _ _ xs=>TD.frees n xs
 |.fn _ xs=>TD.frees n xs
 |.iface _ x=>TD.free n x
 |.tup xs=>TD.frees n xs
 |_=>true
def TD.frees(n:Nat):List TD→Bool
 |[]=>true
 |x::r=>TD.free n x&&TD.frees n r
end
def TEnt.free(n:Nat):TEnt→Bool
 |.var d _=>d.free n
 |.row _ _ _ _ d=>d.free n
 |.rowM _ _ _ _ _ _ d _=>d.free n
 |_=>true
mutual
theorem Zez{L M:Lk}{n:Nat}(h:∀id t,id≠n→Ya L id t none=Ya M id t none):∀(d:TD),d.free n=true→d.er L=d.er M
 |.p _,_=>rfl
 |.elem _,_=>rfl
 |.ref _ _,_=>rfl
 |.own id nn t c,hf=>by
  cases c with
  |none=>
   have:id≠n:=by simpa[TD.free] using hf
   rw[TD.er,TD.er,h id t this]
  |some _=>rfl
 |.view _ _ _ _ _,_=>rfl
 |.agg xs,hf=>by rw[TD.er,TD.er,ers_free h xs hf]
 |.arr _ _ xs,hf=>by rw[TD.er,TD.er,ers_free h xs hf]
 |.fn _ xs,hf=>by rw[TD.er,TD.er,ers_free h xs hf]
 |.iface _ x,hf=>by rw[TD.er,TD.er,Zez h x hf]
 |.tup xs,hf=>by rw[TD.er,TD.er,ers_free h xs hf]
 |.mp _,_=>rfl
 |.rv _ _ _ _ _,_=>rfl
 |.rref _ _ _,_=>rfl
 |.rw id,hf=>by
  have:id≠n:=by simpa[TD.free] using hf
  simp only[TD.er,ZbU,h id _ this]
 |.rp id _,hf=>by
  have:id≠n:=by simpa[TD.free] using hf
  simp only[TD.er,ZbU,h id _ this]
 |.junk,_=>rfl
theorem ers_free{L M:Lk}{n:Nat}(h:∀id t,id≠n→Ya L id t none=Ya M id t none):∀(ds:List TD),TD.frees n ds=true→TD.ers L ds=TD.ers M ds
 |[],_=>rfl
 |x::r,hf=>by
  simp only[TD.frees,yj] at hf;rw[TD.ers,TD.ers,Zez h x hf.1,ers_free h r hf.2]
end
mutual
def TD.stale(L:Lk)(n:Nat):TD→TD
 |.own id nn t c=>if id=n then .own id nn t (some (Ya L id t c)) else .own id nn t c
 |.agg xs=>.agg (TD.stales L n xs)
 |.arr m s xs=>.arr m s (TD.stales L n xs)
 |.fn f xs=>.fn f (TD.stales L n xs)
 |.iface t x=>.iface t (TD.stale L n x)
 |.tup xs=>.tup (TD.stales L n xs)
 |.p x=>.p x
 |.elem x=>.elem x
 |.ref id path=>.ref id path
 |.view id path s lo n=>.view id path s lo n
 |.mp id=>.mp id
 |.rv id v s lo n=>.rv id v s lo n
 |.rref id v path=>.rref id v path
 |.rw id=>if id=n then .rv id (ZbU L id 0) (ZbU L id 1) 0 (ZbU L id 2) else .rw id
 |.rp id path=>if id=n then .rref id (ZbU L id 0) path else .rp id path
 |.junk=>.junk
def TD.stales(L:Lk)(n:Nat):List TD→List TD
 |[]=>[]
 |x::r=>TD.stale L n x::TD.stales L n r
end
def TEnt.stale(L:Lk)(n:Nat):TEnt→TEnt
 |.var d st=>.var (d.stale L n) st
 |.row v s st e d=>.row v s st e (d.stale L n)
 |.rowM t np v st e pre d post=>.rowM t np v st e pre (d.stale L n) post
 |e=>e
mutual
theorem Zj3{L M:Lk}{n:Nat}(h:∀id t,id≠n→Ya L id t none=Ya M id t none):∀(d:TD),(d.stale L n).er M=d.er L
 |.p _=>rfl
 |.elem _=>rfl
 |.ref _ _=>rfl
 |.own id nn t c=>by
  rw[TD.stale];split
  ·rfl
  ·rename_i hn
   cases c with
   |none=>rw[TD.er,TD.er,h id t hn]
   |some _=>rfl
 |.view _ _ _ _ _=>rfl
 |.agg xs=>by rw[TD.stale,TD.er,TD.er,ers_stale h xs]
 |.arr _ _ xs=>by rw[TD.stale,TD.er,TD.er,ers_stale h xs]
 |.fn _ xs=>by rw[TD.stale,TD.er,TD.er,ers_stale h xs]
 |.iface _ x=>by rw[TD.stale,TD.er,TD.er,Zj3 h x]
 |.tup xs=>by rw[TD.stale,TD.er,TD.er,ers_stale h xs]
 |.mp _=>rfl
 |.rv _ _ _ _ _=>rfl
 |.rref _ _ _=>rfl
 |.rw id=>by
  rw[TD.stale];split
  ·rfl
  ·rename_i hn
   simp only[TD.er,ZbU,h id _ hn]
 |.rp id _=>by
  rw[TD.stale];split
  ·rfl
  ·rename_i hn
   simp only[TD.er,ZbU,h id _ hn]
 |.junk=>rfl
theorem ers_stale{L M:Lk}{n:Nat}(h:∀id t,id≠n→Ya L id t none=Ya M id t none):∀(ds:List TD),TD.ers M (TD.stales L n ds)=TD.ers L ds
 |[]=>rfl
 |x::r=>by rw[TD.stales,TD.ers,TD.ers,Zj3 h x,ers_stale h r]
end
theorem Zlg{L M:Lk}{n:Nat}(h:∀id t,id≠n→Ya L id t none=Ya M id t none)(e:TEnt):(e.stale L n).er M=e.er L:=by
 cases e with
 |var d st=>rw[TEnt.stale,TEnt.er,TEnt.er,Zj3 h]
 |row v s st e d=>rw[TEnt.stale,TEnt.er,TEnt.er,Zj3 h]
 |rowM t np v st e pre d post=>rw[TEnt.stale,TEnt.er,TEnt.er,Zj3 h]
 |_=>rfl
def TEnt.isLog:TEnt→Bool
 |.log _ _ _=>true
 |.rowT _ _ _ _ _=>true
 |.rowN _ _ _ _ _ _ _=>true
 |.rowM _ _ _ _ _ _ _ _=>true
 |_=>false
theorem ZzO{e:TEnt}(h:e.isLog=false):lkE (some e)=none:=by
 cases e <;> first|rfl|cases h
theorem ZeA{H:List TEnt}{e:TEnt}(h:e.isLog=false):lk (H++[e])=lk H:=by
 funext id;unfold lk;rcases Nat.lt_trichotomy id H.length with hl|hl|hl
 ·rw[yan hl]
 ·subst hl;rw[List.getElem?_concat_length,ZzO h,yao (yn _)];rfl
 ·rw[yao (by simp;omega),yao (by omega)]
theorem Qo{H:List TEnt}{id:Nat}{e x:TEnt}(hx:H[id]? =some x)(h1:x.isLog=false)(h2:e.isLog=false):lk (H.set id e)=lk H:=by
 funext j;unfold lk;by_cases hj:id=j
 ·subst hj;rw[getElem?_set_eq' hx,hx,ZzO h1,ZzO h2]
 ·rw[getElem?_set_ne' hj]
theorem Zc8{H:List TEnt}{e:TEnt}(h:lk (H++[e])=lk H):erH (H++[e])=erH H++[e.er (lk H)]:=by
 unfold erH;rw[h,yax];rfl
theorem Ws{H:List TEnt}{id:Nat}{e:TEnt}(h:lk (H.set id e)=lk H):erH (H.set id e)=(erH H).set id (e.er (lk H)):=by
 unfold erH;rw[h,ybo]
theorem ZnD{H:List TEnt}{T:Ty}{e:yb}(id:Nat)(t:Ty):Ya (lk H) id t none=Ya (lk (H++[.log T e []])) id t none:=by
 unfold Ya lk;dsimp only;rcases Nat.lt_trichotomy id H.length with hl|hl|hl
 ·rw[yan hl]
 ·subst hl;rw[List.getElem?_concat_length,yao (yn _)];show[]=(Ty.castL T t []).getD []
  cases h:Ty.castL T t [] with
  |none=>rfl
  |some y=>
   obtain⟨e,h2⟩:=ZE h;subst e;subst h2;rfl
 ·rw[yao (by omega),yao (by simp;omega)]
theorem Zv0{H:List TEnt}{T:Ty}{e:yb}:erH (H++[.log T e []])=erH H++[.log T.size e []]:=by
 unfold erH;rw[yax];congr 1;exact ycj λx _=>(ZEz (λid t=>ZnD id t) x).symm
theorem Zc9{H:List TEnt}{e:TEnt}(id:Nat)(t:Ty)(h:id≠H.length):Ya (lk H) id t none=Ya (lk (H++[e])) id t none:=by
 unfold Ya lk;dsimp only;rcases Nat.lt_or_gt_of_ne h with hl|hl
 ·rw[yan hl]
 ·rw[yao (by omega),yao (by simp;omega)]
theorem ZBf{H:List TEnt}{T:Ty}{e:yb}{l:List T.den}(h:H.all (TEnt.free H.length)=true):erH (H++[.log T e l])=erH H++[.log T.size e (l.map T.enc)]:=by
 unfold erH;rw[yax];congr 1;refine ycj λx hx=> ?_
 cases x with
 |var d st=>
  rw[TEnt.er,TEnt.er];congr 1
  exact(Zez (λid t hn=>Zc9 id t hn) d (ybd.1 h _ hx)).symm
 |row v s st e d=>
  rw[TEnt.er,TEnt.er];congr 1
  exact(Zez (λid t hn=>Zc9 id t hn) d (ybd.1 h _ hx)).symm
 |rowM t np v st e pre d post=>
  rw[TEnt.er,TEnt.er,Zez (λid t hn=>Zc9 id t hn) d (ybd.1 h _ hx)]
 |_=>rfl
theorem ZaT{H:List TEnt}{n:Nat}{e:TEnt}(L:Lk)(id:Nat)(t:Ty)(h:id≠n):Ya (lk H) id t none=Ya (lk ((H.map (TEnt.stale L n)).set n e)) id t none:=by
 have h1:lk ((H.map (TEnt.stale L n)).set n e) id=lk H id:=by
  unfold lk;rw[getElem?_set_ne' (Ne.symm h),yal]
  cases H[id]? with
  |none=>rfl
  |some x=>cases x <;> rfl
 unfold Ya;rw[h1]
theorem ZEA{H:List TEnt}{n:Nat}{T:Ty}{e:yb}{l:List T.den}:erH ((H.map (TEnt.stale (lk H) n)).set n (.log T e l))=(erH H).set n (.log T.size e (l.map T.enc)):=by
 unfold erH;rw[ybo,ybc];congr 1;refine ycj λx hx=> ?_;exact Zlg (λid t hn=>ZaT (lk H) id t hn) x
def TP.isV:TP→Option (Σ t:Ty,t.den)
 |.v t x=>some ⟨t,x⟩
 |_=>none
def TP.setF:TP→Nat→TP→Option TP
 |.v (.st fs) x,i,z=>match z.isV with
  |some q=>(Ty.upd fs x i q.1 q.2).map (.v (.st fs))
  |none=>some (.agg ((Ty.flds fs x).set i z))
 |.agg l,i,z=>some (.agg (l.set i z))
 |_,_,_=>none
theorem ZGZ{x y z:TP}{i:Nat}(h:x.setF i z=some y):∀xs,x.pe=.agg xs→y.pe=.agg (xs.set i z.pe):=by
 cases x with
 |v u a=>
  cases u with
  |st fs=>
   intro xs hx;have hx':Pl.agg (Ty.encs fs a)=.agg xs:=hx;injection hx' with hx';subst hx';simp only[TP.setF] at h;split at h
   ·rename_i q hq;obtain⟨x',h1,rfl⟩:=Zb h
    have hz:z=.v q.1 q.2:=by
     unfold TP.isV at hq;split at hq
     ·cases hq;rfl
     ·cases hq
    show Pl.agg (Ty.encs fs x')=_;rw[ZA4 fs a i q.1 q.2 x' h1,hz];rfl
   ·cases h;show Pl.agg (TP.pes ((Ty.flds fs a).set i z))=_;rw[ZcJ,ybo, ←ZcJ]
    exact congrArg (λl=>Pl.agg (l.set i z.pe)) (ZvL fs a)
  |_=>cases h
 |agg l=>
  intro xs hx;cases h;rw[TP.pe] at hx;injection hx with hx;subst hx
  rw[TP.pe,ZcJ,ZcJ,ybo]
 |_=>cases h
def ZJ1(x:Pl)(i o:Nat):Bool:=
 match x with
 |.agg xs=>o==Pl.sizes (xs.take i)
 |_=>false
def ZHY(x:TP)(i:Nat):TD→Option TD
 |.p y=>(x.setF i y).map .p
 |d=>x.parts.map λl=>.agg ((l.map .p).set i d)
def ZHZ(a:ARow)(i:Nat):TD→Option TD
 |.p z=>(TP.to Zj1 z a.t).map λy'=>.p (.v (.arr a.n a.t) (a.l.set i y'))
 |d=>some (.arr a.n a.t.size ((a.l.map λy=>TD.p (.v a.t y)).set i d))
theorem ZIM{L:Lk}(l:List TP):TD.ers L (l.map .p)=(TP.pes l).map .p:=by
 rw[ZN,ZcJ,ybc,ybc];rfl
abbrev Kg(O:Type):=TD→List Hint→(TD→Option TD)→Option O
def gpT{O:Type}(L:Lk):List Stp→TD→Kg O→Option O
 |[],d,K=>K d [] some
 |.fld i o::r,.p x,K=>(x.fld i).bind λz=>if ZJ1 x.pe i o=true then gpT L r (.p z) λsub hs put=>K sub hs λnew=>(put new).bind λd=>ZHY x i d else none
 |.ix i s::r,.p x,K=>x.arow.bind λa=>if s=a.t.size then(a.l[i]?).bind λy=>gpT L r (.p (.v a.t y)) λsub hs put=>K sub (.el (a.t.enc y)::hs) λnew=>
   (put new).bind λd=>ZHZ a i d else none
 |.fld i o::r,.agg ds,K=>(ds[i]?).bind λz=>if o=Dv.sizes ((TD.ers L ds).take i) then gpT L r z λsub hs put=>K sub hs λnew=>(put new).map λy=>.agg (ds.set i y) else none
 |.ix i s::r,.arr n s' ds,K=>(ds[i]?).bind λz=>if s=s' then gpT L r z λsub hs put=>K sub hs λnew=>(put new).map λy=>.arr n s' (ds.set i y) else none
 |_,_,_=>none
def ZeB:List Stp→Nat
 |[]=>0
 |q::r=>q.o+ZeB r
theorem WE(l:List Stp):W8 l=ZeB l:=by
 have:∀(l:List Stp)(n:Nat),l.foldl (λn q=>n+q.o) n=n+ZeB l:=by
  intro l
  induction l with
  |nil=>intro n;rfl
  |cons q r ih=>intro n;rw[List.foldl_cons,ih,ZeB];omega
 rw[W8,this];omega
theorem Wh{O:Type}{L:Lk}:∀(path:List Stp)(d:TD)(K:Kg O)(out:O),gpT L path d K=some out→
 ∃sub hs put C,K sub hs put=some out∧AllP C∧(∀rest,Yy (d.er L) (path.map Stp.i) (hs++rest)=some (C,ZeB path,sub.er L,rest))∧
  ∀new d',put new=some d'→∀rest,Vl (new.er L) (d.er L) (path.map Stp.i) (hs++rest)=some (d'.er L)
 |[],d,K,out,h=>⟨d,[],some,[],h,trivial,λ_=>rfl,λnew d' h _=>by cases h;rfl⟩
 |q::r,d,K,out,h=>by
  cases q with
  |fld i o=>
   cases d with
   |p x=>
    simp only[gpT] at h;obtain⟨z,h1,h⟩:=yf.1 h;obtain⟨h2,h⟩:=Za h;obtain⟨sub,hs,put,C,k1,k2,k3,k4⟩:=Wh r (.p z) _ out h;obtain⟨xs,e1,e2⟩:=ZEh h1
    have h3:o=Pl.sizes (xs.take i):=by
     unfold ZJ1 at h2;rw[e1] at h2;simpa using h2
    refine⟨sub,hs,_,C,k1,k2,λrest=> ?_,λnew d' hp rest=> ?_⟩
    ·rw[TD.er,e1];show Yy (.p (.agg xs)) (i::r.map Stp.i) (hs++rest)=_;unfold Yy;rw[e2];dsimp only;have:=k3 rest;rw[TD.er] at this;rw[this,yab,ZeB,h3];rfl
    ·obtain⟨d1,p1,hp⟩:=yf.1 hp;have:=k4 new d1 p1 rest;unfold ZHY at hp;rw[TD.er] at this;rw[TD.er,e1];show Vl (new.er L) (.p (.agg xs)) (i::r.map Stp.i) (hs++rest)=_;unfold Vl;rw[e2];dsimp only;rw[this];split at hp
     ·obtain⟨x',p3,rfl⟩:=Zb hp;rw[TD.er,TD.er,ZGZ p3 xs e1]
     ·rename_i hne;obtain⟨l,p3,rfl⟩:=Zb hp
      have e3:TP.pes l=xs:=by
       have:=ZxR p3;rw[e1] at this;injection this with this;exact this.symm
      rw[TD.er,ZN,ybo, ←ZN,ZIM,e3]
      cases d1 <;> first|rfl|exact absurd rfl (hne _)
   |agg ds=>
    simp only[gpT] at h;obtain⟨z,h1,h⟩:=yf.1 h;split at h
    ·rename_i h2;obtain⟨sub,hs,put,C,k1,k2,k3,k4⟩:=Wh r z _ out h;refine⟨sub,hs,_,C,k1,k2,λrest=> ?_,λnew d' hp rest=> ?_⟩
     ·rw[TD.er];show Yy (.agg (TD.ers L ds)) (i::r.map Stp.i) (hs++rest)=_;unfold Yy;rw[Zgu h1];dsimp only;rw[k3 rest,yab,ZeB,h2];rfl
     ·obtain⟨y,p1,rfl⟩:=Zb hp;rw[TD.er];show Vl (new.er L) (.agg (TD.ers L ds)) (i::r.map Stp.i) (hs++rest)=_;unfold Vl;rw[Zgu h1];dsimp only;rw[k4 new y p1 rest,yab,TD.er,ZN,ZN,ybo]
    ·cases h
   |_=>cases h
  |ix i s=>
   cases d with
   |p x=>
    simp only[gpT] at h;obtain⟨a,h1,h⟩:=yf.1 h;split at h
    ·rename_i hs0;obtain⟨y,h2,h⟩:=yf.1 h;obtain⟨sub,hs,put,C,k1,k2,k3,k4⟩:=Wh r (.p (.v a.t y)) _ out h;refine⟨sub,_,_,((a.l.map a.t.enc)[i]? =some (a.t.enc y))::C,k1,⟨Znw h2,k2⟩,λrest=> ?_,λnew d' hp rest=> ?_⟩
     ·rw[TD.er,V2 h1];show Yy (.p (.arr a.n a.t.size _)) (i::r.map Stp.i) (_::(hs++rest))=_;unfold Yy;dsimp only;have:=k3 rest;rw[TD.er,TP.pe] at this;rw[this,yab,ZeB,hs0];rfl
     ·obtain⟨d1,p1,hp⟩:=yf.1 hp;have:=k4 new d1 p1 rest;unfold ZHZ at hp;rw[TD.er,TP.pe] at this;rw[TD.er,V2 h1];show Vl (new.er L) (.p (.arr a.n a.t.size _)) (i::r.map Stp.i) (_::(hs++rest))=_;unfold Vl;dsimp only;rw[this];split at hp
      ·rename_i z;obtain⟨y',p3,rfl⟩:=Zb hp;rw[TD.er];dsimp only;rw[Zgv z a.t y' p3, ←ybo];rfl
      ·rename_i hne;cases hp;rw[TD.er,ZN,ybo,ybc,ybc];cases d1 <;> first|rfl|exact absurd rfl (hne _)
    ·cases h
   |arr n s' ds=>
    simp only[gpT] at h;obtain⟨z,h1,h⟩:=yf.1 h;split at h
    ·rename_i h2;obtain⟨sub,hs,put,C,k1,k2,k3,k4⟩:=Wh r z _ out h;refine⟨sub,hs,_,C,k1,k2,λrest=> ?_,λnew d' hp rest=> ?_⟩
     ·rw[TD.er];show Yy (.arr n s' (TD.ers L ds)) (i::r.map Stp.i) (hs++rest)=_;unfold Yy;rw[Zgu h1];dsimp only;rw[k3 rest,yab,ZeB, ←h2];rfl
     ·obtain⟨y,p1,rfl⟩:=Zb hp;rw[TD.er];show Vl (new.er L) (.arr n s' (TD.ers L ds)) (i::r.map Stp.i) (hs++rest)=_;unfold Vl;rw[Zgu h1];dsimp only;rw[k4 new y p1 rest,yab,TD.er,ZN,ZN,ybo]
    ·cases h
   |_=>cases h
theorem ZbW{H:List TEnt}{id:Nat}{T:Ty}{v:List Unit}{st:Bool}{e:yb}{l:List T.den}(hd:H[id]? =some (.rowT T v st e l)):(TD.rw id).er (lk H)=.rv id v.length T.size 0 l.length∧
 ∀path,(TD.rp id path).er (lk H)=.rref id v.length (W8 path) (path.map Stp.i):=by
 have h:Ya (lk H) id (.sl (.st [])) none=([v,yy T.size (),yy l.length ()]:List (List Unit)):=by
  unfold Ya lk;dsimp only;rw[hd];rfl
 refine⟨?_,λpath=> ?_⟩
 ·rw[TD.er];unfold ZbU;rw[h];show Dv.rv id v.length (yy T.size ()).length 0 (yy l.length ()).length=_;rw[ycp,ycp]
 ·rw[TD.er];unfold ZbU;rw[h];rfl
abbrev Kn(O:Type):=List TD→TD→List TEnt→List Hint→Nat→Option O
def GoodR(P:yg)(o:Oper)(ts:List TD)(H:List TEnt)(d:TD)(hs:List Hint):Prop:=
 (∀rest,evN P o (TD.ers (lk H) ts) (hs++rest)=none)∧∃C,AllP C∧∀rest,evR P o (TD.ers (lk H) ts) (erH H) (hs++rest)=some (C,d.er (lk H),rest)
def GoodE(P:yg)(o:Oper)(ts:List TD)(H:List TEnt)(d:TD)(H':List TEnt)(hs:List Hint):Prop:=
 (∀rest,evN P o (TD.ers (lk H) ts) (hs++rest)=none)∧(∀rest,evR P o (TD.ers (lk H) ts) (erH H) (hs++rest)=none)∧
   ∃C,AllP C∧∀rest,evE P o (TD.ers (lk H) ts) (erH H) (hs++rest)=some (C,d.er (lk H'),erH H',rest)
theorem or3{a b c d:Prop}(h:c):a∨b∨c∨d:=.inr (.inr (.inl h))
structure Good(P:yg)(o:Oper)(ts all:List TD)(H:List TEnt)(all':List TD)(d:TD)(H':List TEnt)(hs:List Hint)(cls:Nat):Prop where
 same:TD.ers (lk H') all'=TD.ers (lk H) all
 len:all'.length=all.length
 op:(cls=0∧H'=H∧GoodN (lk H) P o ts d hs)∨(cls=1∧H'=H∧GoodR P o ts H d hs)∨(cls=2∧GoodE P o ts H d H' hs)∨(cls=3∧erH H'=erH H∧GoodE P o ts H d H' hs)
section
variable{P:yg}{o:Oper}{ts all:List TD}{H:List TEnt}{O:Type}{K:Kn O}{out:O}
def ZpQ(H:List TEnt)(id:Nat):Option TD:=
 match H[id]? with
 |some (.var d _)=>some d
 |_=>none
theorem Zfm{id:Nat}{d:TD}(h:ZpQ H id=some d):∃st,H[id]? =some (.var d st)∧(erH H)[id]? =some (.var (d.er (lk H)) st):=by
 unfold ZpQ at h;split at h
 ·rename_i d' st hd;cases h;exact⟨st,hd,Yo hd⟩
 ·cases h
def ZzP(H:List TEnt)(id v:Nat):Option TD:=
 match H[id]? with
 |some (.row w _ _ _ d)=>if(w==v)=true then some d else none
 |_=>none
theorem Zx2{id v:Nat}{d:TD}(h:ZzP H id v=some d):∃w s st e,H[id]? =some (.row w s st e d)∧(w==v)=true:=by
 unfold ZzP at h;split at h
 ·rename_i w s st e d' hd;split at h
  ·rename_i hw;cases h;exact⟨w,s,st,e,hd,hw⟩
  ·cases h
 ·cases h
def ZEB(P:yg)(t:yb)(all:List TD)(H:List TEnt)(K:Kn O):TD→Option O
 |.ref id path=>(ZpQ H id).bind λd=>gpT (lk H) path d λsub hs _=>if okT P t (sub.er (lk H))=true then K all sub H hs 1 else none
 |.rref id v path=>(ZzP H id v).bind λd=>gpT (lk H) path d λsub hs _=>if okT P t (sub.er (lk H))=true then K all sub H hs 1 else none
 |_=>none
theorem ZzQ{t:yb}{x:yo}{xd:TD}(ho:o.op=.load t x)(hx:arT P ts 0 x=some xd)(h:ZEB P t all H K xd=some out):∃a d H' hs c,K a d H' hs c=some out∧Good P o ts all H a d H' hs c:=by
 have hv:=Zw (L:=lk H) hx;unfold ZEB at h;split at h
 ·rename_i id path;obtain⟨d,h1,h⟩:=yf.1 h;obtain⟨st,h2,h3⟩:=Zfm h1;obtain⟨sub,hs,put,C,k1,k2,k3,_⟩:=Wh _ _ _ _ h;obtain⟨k4,k5⟩:=Za k1;refine⟨_,_,_,_,_,k5,rfl,rfl,.inr (.inl ⟨rfl,rfl,λrest=> ?_,C++[ZeB path=W8 path],Zj.2 ⟨k2,(WE _).symm,ytt⟩,λrest=> ?_⟩)⟩
  ·unfold evN;rw[ho];dsimp only;rw[hv];rfl
  ·unfold evR;rw[ho];dsimp only;rw[hv];dsimp only[TD.er];rw[h3];dsimp only;rw[k3 rest];dsimp only;rw[if_pos k4]
 ·rename_i id v path;obtain⟨d,h1,h⟩:=yf.1 h;obtain⟨w,s,st,e,h2,h3⟩:=Zx2 h1;obtain⟨sub,hs,put,C,k1,k2,k3,_⟩:=Wh _ _ _ _ h;obtain⟨k4,k5⟩:=Za k1;refine⟨_,_,_,_,_,k5,rfl,rfl,.inr (.inl ⟨rfl,rfl,λrest=> ?_,C++[ZeB path=W8 path],Zj.2 ⟨k2,(WE _).symm,ytt⟩,λrest=> ?_⟩)⟩
  ·unfold evN;rw[ho];dsimp only;rw[hv];rfl
  ·unfold evR;rw[ho];dsimp only;rw[hv];dsimp only[TD.er];rw[Yo h2];dsimp only[TEnt.er];rw[k3 rest];dsimp only;rw[if_pos (by rw[yj];exact⟨k4,h3⟩)]
 ·cases h
def ZzR(P:yg)(t:yb)(lo hi:Option Int)(all:List TD)(H:List TEnt)(K:Kn O):TD→Option O
 |.rv id v s l0 n=>match P.underlying t,H[id]? with
  |some (.slice e),some (.row w s' _ _ d)=>hi.bind λh=>(rowN (d.er (lk H)) s').bind λN=>if(P.cellsOf e=s&&(P.info? e).isSome&&w==v&&s'==s&&s' !=0)=true then
    if(decide (0≤lo.getD 0)&&decide (lo.getD 0≤h)&&decide (l0+h.toNat≤N))=true then K all (.rv id v s (l0+(lo.getD 0).toNat) (h.toNat - (lo.getD 0).toNat)) H [.raw] 1 else none else none
  |_,_=>none
 |_=>none
theorem Zx3{t:yb}{x:yo}{lo hi:Option yo}{l h':Option Int}{xd:TD}(ho:o.op=.slice t x lo hi none)(hx:arT P ts t x=some xd)(hl:Zge P ts lo=some l)(hh:Zge P ts hi=some h')(h:ZzR P t l h' all H K xd=some out):
 ∃a d H' hs c,K a d H' hs c=some out∧Good P o ts all H a d H' hs c:=by
 have hv:=Zw (L:=lk H) hx;have hl:=Zbd (L:=lk H) hl;have hh:=Zbd (L:=lk H) hh;unfold ZzR at h;split at h
 ·rename_i id v s l0 n;split at h
  ·rename_i e w s' st e' d hu hd;obtain⟨h2,q1,g1⟩:=yf.1 h;obtain⟨N,q2,g2⟩:=yf.1 g1;obtain⟨h3,g3⟩:=Za g2;obtain⟨h4,g4⟩:=Za g3;clear h g1 g2 g3;simp only[yj,decide_eq_true_eq] at h4;subst q1;refine⟨_,_,_,_,_,g4,rfl,rfl,.inr (.inl ⟨rfl,rfl,λrest=> ?_,[0≤l.getD 0,l.getD 0≤h2,l0+h2.toNat≤N],⟨h4.1.1,h4.1.2,h4.2,ytt⟩,λrest=> ?_⟩)⟩
   ·unfold evN;rw[ho];dsimp only;rw[hu,hv,hl,hh];rfl
   ·unfold evR;rw[ho];dsimp only;rw[hu,hv,hl,hh];dsimp only[TD.er];rw[yaa,yx];dsimp only;rw[Yo hd];dsimp only[TEnt.er];rw[q2];dsimp only;rw[if_pos h3]
  ·cases h
 ·cases h
def ZBg{α β:Type}(o:Option α)(f:α→Option β)(g:Option β):Option β:=
 match o with
 |some a=>f a
 |none=>g
def ZnE(P:yg)(kt:yb)(k:Ty):Bool:=ZlZ P kt&&(k.flat&&ZxY P 20 kt k)
structure MapE where
 tid:yb
 k:Ty
 v:Ty
 l:List (k.den×v.den)
def ZuG(H:List TEnt)(id:Nat):Option MapE:=
 match H[id]? with
 |some (.map tid k v l)=>some ⟨tid,k,v,l⟩
 |_=>none
theorem Zim{id:Nat}{m:MapE}(h:ZuG H id=some m):H[id]? =some (.map m.tid m.k m.v m.l)∧(erH H)[id]? =some (.map m.tid (kvl m.k.enc m.v.enc m.l)):=by
 unfold ZuG at h;split at h
 ·rename_i hd;cases h;exact⟨hd,Yo hd⟩
 ·cases h
def ZBh(x:TD)(k:Ty):Option k.den:=x.inner.bind λy=>TP.to Zns y k
theorem Zr6{L:Lk}{x:TD}{k:Ty}{y:k.den}(h:ZBh x k=some y):x.er L=.p (k.enc y):=by
 obtain⟨p,h1,h2⟩:=yf.1 h;rw[Xi h1,TD.er,Znt p k y h2]
theorem Zq8{kt:yb}{k:Ty}(h:ZnE P kt k=true):∀x y:k.den,k.enc x=k.enc y↔x=y:=by
 simp only[ZnE,yj] at h;exact λx y=>⟨Zny k x y h.2.1,λe=>by rw[e]⟩
theorem ZgA{kt:yb}{k:Ty}(h:ZnE P kt k=true):∀x:k.den,fitP P 20 kt (k.enc x):=by
 simp only[ZnE,yj] at h;exact Znz 20 kt k h.2.2
theorem Zv1{kt:yb}{k:Ty}(h:ZnE P kt k=true):ZlZ P kt=true:=by
 simp only[ZnE,yj] at h;exact h.1
def ZuH(P:yg)(t:yb):Option TP:=
 match XO P t with
 |.p z=>ZvR P t z
 |_=>none
theorem ZnF{t:yb}{z:TP}(h:ZuH P t=some z):XO P t=.p z.pe:=by
 unfold ZuH at h;split at h
 ·rename_i y hy;rw[hy,ZoU h]
 ·cases h
def ZzS(ok:Bool)(d:TD)(b:Bool):TD:=if ok then .tup [d,.p (.v .bool b)] else d
def Zv2(P:yg)(t:yb)(all:List TD)(H:List TEnt)(ok:Bool)(K:Kn O)(kd:yb→Option TD):TD→Option O
 |.mp id=>match P.underlying t with
  |some (.map kt et)=>(ZuG H id).bind λm=>(kd kt).bind λx=>(ZBh x m.k).bind λkey=>(ZuH P et).bind λz=>
   if(ZnE P kt m.k&&Zvt P et)=true then
    ZBg (@ZvK m.k.den m.v.den (Ty.deq m.k) m.l key) (λy=>K all (ZzS ok (.p (.v m.v y)) true) H [.el (m.v.enc y)] 1) (K all (ZzS ok (.p z) false) H [.raw] 1)
   else none
  |_=>none
 |_=>none
theorem ZuI{L:Lk}{ok:Bool}{d:TD}{b:Bool}:(ZzS ok d b).er L=if ok then .tup [d.er L,.p (.bool b)] else d.er L:=by
 cases ok <;> rfl
theorem Zv3{t:yb}{x ix:yo}{ok:Bool}{xd:TD}(ho:o.op=.lookup t x ix ok)(hx:arT P ts t x=some xd)(h:Zv2 P t all H ok K (λkt=>arT P ts kt ix) xd=some out):
 ∃a d H' hs c,K a d H' hs c=some out∧Good P o ts all H a d H' hs c:=by
 have hv:=Zw (L:=lk H) hx;unfold Zv2 at h;split at h
 ·rename_i id;split at h
  ·rename_i kt et hu;obtain⟨m,h1,h⟩:=yf.1 h;obtain⟨kd,h2,h⟩:=yf.1 h;obtain⟨key,h3,h⟩:=yf.1 h;obtain⟨z,h4,h⟩:=yf.1 h;obtain⟨h5,h⟩:=Za h;rw[yj] at h5;obtain⟨e1,e2⟩:=Zim h1;have hk:=Zw (L:=lk H) h2;rw[Zr6 h3] at hk
   have nN:∀hs,evN P o (TD.ers (lk H) ts) hs=none:=λhs=>by
    unfold evN;rw[ho]
   letI:=Ty.deq m.k
   unfold ZBg at h;split at h
   ·rename_i y hy
    refine⟨_,_,_,_,_,h,rfl,rfl,.inr (.inl ⟨rfl,rfl,λ_=>nN _,[fitP P 20 kt (m.k.enc key),Zgl P kt (kvl m.k.enc m.v.enc m.l),Zhp (kvl m.k.enc m.v.enc m.l) (m.k.enc key) (some (m.v.enc y))],
     ⟨ZgA h5.1 key,Zlb (ZgA h5.1) _,@Zzy _ _ (Ty.deq m.k) _ _ (Zq8 h5.1) _ _ _ hy,ytt⟩,λrest=> ?_⟩)⟩
    unfold evR;rw[ho];dsimp only;rw[hu,hv];dsimp only[TD.er];rw[hk,e2]
    try dsimp only
    rw[yaa,yx]
    try dsimp only
    rw[if_pos (Zv1 h5.1),ZuI];rfl
   ·rename_i hy
    refine⟨_,_,_,_,_,h,rfl,rfl,.inr (.inl ⟨rfl,rfl,λ_=>nN _,[fitP P 20 kt (m.k.enc key),Zgl P kt (kvl m.k.enc m.v.enc m.l),Zhp (kvl m.k.enc m.v.enc m.l) (m.k.enc key) none],
     ⟨ZgA h5.1 key,Zlb (ZgA h5.1) _,@Zzz _ _ (Ty.deq m.k) _ _ (Zq8 h5.1) _ _ (by rw[hy];rfl),ytt⟩,λrest=> ?_⟩)⟩
    unfold evR;rw[ho];dsimp only;rw[hu,hv];dsimp only[TD.er];rw[hk,e2]
    try dsimp only
    rw[yaa,yx]
    try dsimp only
    rw[if_pos (by rw[Zv1 h5.1,h5.2];rfl),ZuI,ZnF h4];rfl
  ·cases h
 ·cases h
def Zv4(P:yg)(t:yb)(all:List TD)(H:List TEnt)(K:Kn O):TD→Option O
 |.mp id=>match P.underlying t with
  |some (.map _ _)=>(ZuG H id).bind λm=>K all (.p (.v (.int .i64) (m.l.length:Int))) H [] 1
  |_=>none
 |_=>none
theorem Zv5{t:yb}{x:yo}{c:Call}{xd:TD}(ho:o.op=.call c)(hc:c.callee=.builtin .len)(ha:c.args.toList=[x])(ht:c.argTypes.toList=[t])(hx:arT P ts t x=some xd)(h:Zv4 P t all H K xd=some out):
 ∃a d H' hs c,K a d H' hs c=some out∧Good P o ts all H a d H' hs c:=by
 have hv:=Zw (L:=lk H) hx;unfold Zv4 at h;split at h
 ·rename_i id;split at h
  ·rename_i kt et hu;obtain⟨m,h1,h⟩:=yf.1 h;obtain⟨e1,e2⟩:=Zim h1;refine⟨_,_,_,_,_,h,rfl,rfl,.inr (.inl ⟨rfl,rfl,λrest=> ?_,[],trivial,λrest=> ?_⟩)⟩
   ·unfold evN;rw[ho];dsimp only;rw[hc];dsimp only;rw[ha,ht];dsimp only;rw[hu,hv]
   ·unfold evR;rw[ho];dsimp only;rw[hc];dsimp only;rw[ha,ht];dsimp only;rw[hu,hv];dsimp only[TD.er];rw[e2];simp[TP.pe,Ty.enc,kvl]
  ·cases h
 ·cases h
theorem Zcn{e:TEnt}(h:e.isLog=false):TD.ers (lk (H++[e])) all=TD.ers (lk H) all:=by rw[ZeA h]
theorem Zx4{T:Ty}{e:yb}:TD.ers (lk (H++[.log T e []])) all=TD.ers (lk H) all:=(ers_cont (λid t=>ZnD id t) all).symm
theorem Zhy{e:TEnt}(h:TD.frees H.length all=true):TD.ers (lk (H++[e])) all=TD.ers (lk H) all:=(ers_free (λid t hn=>Zc9 id t hn) all h).symm
theorem Zhz{T:Ty}{e:yb}{l:List T.den}:Ya (lk (H++[.log T e l])) H.length T none=l:=by
 unfold Ya lk;dsimp only;rw[List.getElem?_concat_length];show(Ty.castL T T l).getD []=l;unfold Ty.castL;split
 ·rfl
 ·rename_i h _;exact absurd rfl h
def ZzT(P:yg)(t:yb)(dst:Tmp)(all:List TD)(H:List TEnt)(K:Kn O):TD→Option O
 |.p (.sl (some false) T [])=>match P.underlying t with
  |some (.slice e)=>(P.info? e).bind λi=>if(zOk i&&i.size !=0&&decide (i.size=T.size))=true then K all (.own H.length none T none) (H++[.log T e []]) [.fresh dst] 2 else none
  |_=>none
 |_=>none
theorem Zx5{x:yo}{dst:Tmp}{xd:TD}(ho:o.op=.assign x)(hd:o.dst=some dst)(hx:arT P ts o.type x=some xd)(h:ZzT P o.type dst all H K xd=some out):
 ∃a d H' hs c,K a d H' hs c=some out∧Good P o ts all H a d H' hs c:=by
 have hv:=Zw (L:=lk H) hx;unfold ZzT at h;split at h
 ·rename_i T;split at h
  ·rename_i e hu;obtain⟨i,h1,h⟩:=yf.1 h;obtain⟨h2,h⟩:=Za h;simp only[yj,decide_eq_true_eq] at h2;refine⟨_,_,_,_,_,h,Zx4,rfl,or3 (⟨rfl,λrest=> ?_,λrest=> ?_,[],trivial,λrest=> ?_⟩)⟩
   ·unfold evN;rw[ho];rfl
   ·unfold evR;rw[ho]
   ·unfold evE;rw[ho];dsimp only;rw[yaa,yx];dsimp only;rw[if_pos hd,hu,hv,show(TD.p (TP.sl (some false) T [])).er (lk H)=Dv.p (.sl (some false) T.size []) from rfl]
    dsimp only;rw[h1];dsimp only;rw[if_pos (by simpa using h2.1),Zv0,ZO,TD.er,Zhz,h2.2];rfl
  ·cases h
 ·cases h
def Zr7(P:yg)(t:yb)(all:List TD)(H:List TEnt)(K:Kn O):Option O:=
 match P.underlying t with
 |some (.map kt et)=>(Zj2 P tyD kt).bind λk=>(Zj2 P tyD et).bind λv=>K all (.mp H.length) (H++[.map t k v []]) [] 2
 |_=>none
theorem ZtK{t:yb}(ho:o.op=.makeMap t none)(h:Zr7 P t all H K=some out):∃a d H' hs c,K a d H' hs c=some out∧Good P o ts all H a d H' hs c:=by
 unfold Zr7 at h;split at h
 ·rename_i kt et hu;obtain⟨k,h1,h⟩:=yf.1 h;obtain⟨v,h2,h⟩:=yf.1 h;refine⟨_,_,_,_,_,h,Zcn rfl,rfl,or3 (⟨rfl,λrest=> ?_,λrest=> ?_,[],trivial,λrest=> ?_⟩)⟩
  ·unfold evN;rw[ho]
  ·unfold evR;rw[ho]
  ·unfold evE;rw[ho];dsimp only;rw[Zc8 (ZeA rfl),ZO];rfl
 ·cases h
def ZpR(n:Int)(b:Nat):Bool:=decide (0≤n)&&ZzC n.toNat b
def ZmM(P:yg)(t:yb)(own row:Bool)(n n':Int)(all:List TD)(H:List TEnt)(K:Kn O):Option O:=
 match P.underlying t with
 |some (.slice e)=>(P.info? e).bind λi=>(Zj2 P tyD e).bind λT=>
  if row then
   if(zOk i&&i.size !=0&&decide (i.size=T.size))=true then if(decide (n=0)&&ZpR n' i.bytes)=true then K all (.rv H.length 0 i.size 0 0) (H++[.row 0 i.size true e (.p (.v (.arr 0 T) []))]) [.arr] 2 else none else none
  else if own then
   if(zOk i&&i.size !=0&&decide (i.size=T.size))=true then if(decide (n=0)&&ZpR n' i.bytes)=true then K all (.own H.length (some true) T none) (H++[.log T e []]) [.own] 2 else none else none
  else(ZuH P e).bind λz=>(TP.to Zns z T).bind λy=>
   if(zOk i&&decide (i.size=1)&&z.pe.size==1&& !z.pe.isAgg&&decide (T.size=1))=true then if(decide (n'=n)&&ZpR n i.bytes)=true then
    K all (.view H.length [] 1 0 n.toNat) (H++[.var (.p (.v (.arr n.toNat T) (yy n.toNat y))) true]) [.raw] 2 else none else none
 |_=>none
theorem ZqC{t:yb}{l c:yo}{n n':Num}{own row:Bool}(ho:o.op=.makeSlice t l c)(hl:(arT P ts 0 l).bind TD.num=some n)(hc:(arT P ts 0 c).bind TD.num=some n')(hk:n.k=.i64)(hk':n'.k=.i64)
 (h:ZmM P t own row n.n n'.n all H K=some out):∃a d H' hs c,K a d H' hs c=some out∧Good P o ts all H a d H' hs c:=by
 obtain⟨ld,l1,l2⟩:=yf.1 hl;obtain⟨cd,c1,c2⟩:=yf.1 hc;have hv:=Zw (L:=lk H) l1;have hw:=Zw (L:=lk H) c1;rw[Zey l2,hk] at hv;rw[Zey c2,hk'] at hw;unfold ZmM at h;have nN:∀hs,evN P o (TD.ers (lk H) ts) hs=none:=λhs=>by unfold evN;rw[ho]
 have nR:∀hs,evR P o (TD.ers (lk H) ts) (erH H) hs=none:=λhs=>by unfold evR;rw[ho]
 split at h
 ·rename_i e hu;obtain⟨i,h1,h⟩:=yf.1 h;obtain⟨T,h2,h⟩:=yf.1 h;split at h
  ·obtain⟨h3,h⟩:=Za h;obtain⟨h4,h⟩:=Za h;simp only[yj,decide_eq_true_eq] at h3;simp only[ZpR,yj,decide_eq_true_eq] at h4;obtain⟨g1,g2⟩:=Zc7 h4.2.2;refine⟨_,_,_,_,_,h,Zcn rfl,rfl,or3 (⟨rfl,λrest=>nN _,λrest=>nR _,[n.n=0,0≤n'.n,n'.n.toNat*i.bytes≤Zn,n'.n.toNat≤maxLen],⟨h4.1,h4.2.1,g1,g2,ytt⟩,λrest=> ?_⟩)⟩;unfold evE;rw[ho];dsimp only;rw[hu,hv,hw];dsimp only;rw[h1,yaa,yx];dsimp only;rw[if_pos (by simpa using h3.1),Zc8 (ZeA rfl),ZO];simp only[TEnt.er,TD.er,TP.pe,ZvO,h3.2];rfl
  split at h
  ·obtain⟨h3,h⟩:=Za h;obtain⟨h4,h⟩:=Za h;simp only[yj,decide_eq_true_eq] at h3;simp only[ZpR,yj,decide_eq_true_eq] at h4;obtain⟨g1,g2⟩:=Zc7 h4.2.2;refine⟨_,_,_,_,_,h,Zx4,rfl,or3 (⟨rfl,λrest=>nN _,λrest=>nR _,[n.n=0,0≤n'.n,n'.n.toNat*i.bytes≤Zn,n'.n.toNat≤maxLen],⟨h4.1,h4.2.1,g1,g2,ytt⟩,λrest=> ?_⟩)⟩;unfold evE;rw[ho];dsimp only;rw[hu,hv,hw];dsimp only;rw[h1,yaa,yx];dsimp only;rw[if_pos (by simpa using h3.1),Zv0,ZO,TD.er,Zhz,h3.2];rfl
  ·obtain⟨z,z1,h⟩:=yf.1 h;obtain⟨y,z2,h⟩:=yf.1 h;obtain⟨h3,h⟩:=Za h;obtain⟨h4,h⟩:=Za h;simp only[yj,decide_eq_true_eq,beq_iff_eq] at h3;simp only[ZpR,yj,decide_eq_true_eq] at h4;obtain⟨g1,g2⟩:=Zc7 h4.2.2;refine⟨_,_,_,_,_,h,Zcn rfl,rfl,or3 (⟨rfl,λrest=>nN _,λrest=>nR _,[n'.n=n.n,0≤n.n,n.n.toNat*i.bytes≤Zn,n.n.toNat≤maxLen],⟨h4.1,h4.2.1,g1,g2,ytt⟩,λrest=> ?_⟩)⟩;unfold evE;rw[ho];dsimp only;rw[hu,hv,hw];dsimp only;rw[h1,yaa,yx];dsimp only;rw[ZnF z1];dsimp only;rw[if_pos (by simp only[yj,decide_eq_true_eq];exact h3.1),Zc8 (ZeA rfl),ZO,Znt z T y z2];simp only[TEnt.er,TD.er,TP.pe,W8,List.map_nil,List.foldl_nil];congr 5;show _=[Ent.var (Dv.p (Pl.arr n.n.toNat T.size (List.map T.enc (yy n.n.toNat y)))) true];rw[List.map_replicate,h3.2]
 ·cases h
end
end Go.Ev
end
