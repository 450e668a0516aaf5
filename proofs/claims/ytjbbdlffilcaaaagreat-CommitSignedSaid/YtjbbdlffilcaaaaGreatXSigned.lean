/- Parts of the proof, in one file. -/
import Derived.Test.YtjbbdlffilcaaaaGreatKg
open Int renaming toNat_natCast → yba
open List renaming length_append → yj, append_assoc → yz, mem_singleton → yae, take_length → yau, mem_cons → yax, not_mem_nil → ybs, getElem?_cons_zero → ybu, mem_map → ybw
open Nat renaming mod_eq_of_lt → yac
open Option renaming bind_some → ya, bind → yao
open UInt64 renaming ofNat → yv, toNat_ofNat' → yav, toNat_inj → yaw
set_option linter.unusedVariables false
set_option linter.unusedSimpArgs false
section
namespace Go.Ev
theorem ite_some {α:Type} {c:Prop} [Decidable c] {a:Option α} {r:α} (h:(if c then a else none)=some r):c∧a=some r:=by
 by_cases hc:c
 ·rw [if_pos hc] at h;exact ⟨hc,h⟩
 ·rw [if_neg hc] at h;cases h
end Go.Ev
namespace Go.Ev
end Go.Ev
namespace Go.Ev
end Go.Ev
end
section
set_option maxRecDepth 4000
namespace Go.Proofs.YtjbbdlffilcaaaaGreat
open Go Go.Ev
theorem B_mod (n:Nat):B (n % ord)=B n:=ZtT 4 n
theorem neg_is (p:UInt64):QK fuel p=some (sc p (ord - 1)):=by
 unfold QK
 rw [Zli,ya,Zlh,ya]
 rfl
theorem of_ord {z:Nat}:(yv (z % ord)).toNat=z % ord:=by
 rw [yav,yac (Nat.lt_trans (Nat.mod_lt _ (by decide)) (by decide))]
theorem ord_lt {z:Nat}:z % ord < ord:=Nat.mod_lt _ (by decide)
theorem fadd_is (a b:UInt64):WC fuel a b=some (yv ((a.toNat+b.toNat) % ord)):=by
 unfold WC Vq VT
 rw [ya,ya,ya]
 congr 1
 have ha:a.toNat % ord < ord:=ord_lt
 have hb:b.toNat % ord < ord:=ord_lt
 rw [←yaw,Zdp,UInt64.toNat_add,Zdp,Zdp,of_ord,yac (a:=a.toNat % ord+b.toNat % ord) (by unfold ord at*;omega), ←Nat.add_mod]
theorem fmul_is (a b:UInt64):Vb fuel a b=some (yv (a.toNat*b.toNat % ord)):=by
 unfold Vb Vq Vr Qw
 rw [ya,ya,ya]
 dsimp only
 unfold X0
 rw [if_pos (by decide),ya,ya,yav,yav,Zdp,Zdp]
 have h:a.toNat % ord*(b.toNat % ord) < 18446744073709551616*18446744073709551616:=Nat.mul_lt_mul'' (Nat.lt_trans ord_lt (by decide)) (Nat.lt_trans ord_lt (by decide))
 have hz:a.toNat % ord*(b.toNat % ord) % ord=a.toNat*b.toNat % ord:=(Nat.mul_mod ..).symm
 generalize a.toNat % ord*(b.toNat % ord)=z at*
 have h2:z / 18446744073709551616 < 18446744073709551616:=(Nat.div_lt_iff_lt_mul (by decide)).2 h
 rw [show (2305843009213688669:UInt64).toNat=ord from rfl]
 have e:z / 18446744073709551616 % 2 ^ 64*18446744073709551616+z % 18446744073709551616 % 2 ^ 64=z:=by omega
 rw [e,hz]
theorem fright_is (a:UInt64):YW fuel a=some (decide (a.toNat < ord)):=by
 unfold YW
 congr 1
end Go.Proofs.YtjbbdlffilcaaaaGreat
end
section
set_option maxRecDepth 4000
namespace Go.Proofs.YtjbbdlffilcaaaaGreat
open Go Go.Ev
theorem sc_B (m n:Nat):sc (B m) n=B (m*n):=by
 rw [←yaw,Zlj,ZaN (Q5 m),Vd,Vd,Nat.pow_mul, ←Nat.pow_mod]
theorem perOf_is {h:List UInt8} (hl:h.length=32):∃k,Xd fuel h=some k∧Key k∧YM fuel h=some (B k.toNat):=by
 obtain ⟨k,h1,h2⟩:=ZbE hl
 refine ⟨k,h1,h2, ?_⟩
 unfold YM
 rw [h1,ya,Xz,ya]
theorem B_ord (z:Nat):B (yv (z % ord)).toNat=B z:=by rw [of_ord,B_mod]
end Go.Proofs.YtjbbdlffilcaaaaGreat
end
section
set_option maxRecDepth 4000
namespace Go.Proofs.YtjbbdlffilcaaaaGreat
open Go Go.Ev
theorem putHash_eq {b h:List UInt8} (hb:b.length≤1000000) (hh:h.length≤1000000):Wr fuel b h=some (b++h):=by
 unfold Wr
 rw [ZoP (by omega),ya]
theorem putBytes_eq {b c:List UInt8} (hb:b.length≤1000000) (hc:c.length≤1000000):X1 fuel b c=some (b++(Xl c.length++c)):=by
 have:=ZP (n:=c.length) (by omega)
 unfold X1
 rw [ZxK (by omega),ya,ZlO (by simp;omega) (by simp),ya]
 simp
def TxWf (t:Tx):Prop:=(∀x,x∈t.1→x.1.1.length=32)∧t.2.2≤9223372036854775807
def InOk (x:In):Prop:=0≤x.1.2∧x.1.2 < 64∧0≤x.2.1∧x.2.1 < 4∧x.2.2.1.length≤12
def OutOk (o:Out):Prop:=0≤o.1∧o.1≤1125899906842624∧Vc o.2∧V1 o.2
def TxOk (t:Tx):Prop:=0 < t.1.length∧t.1.length≤64∧t.2.1.length≤64∧0≤t.2.2∧(∀x,x∈t.1→InOk x)∧∀o,o∈t.2.1→OutOk o
def inF (x:In):List UInt8:=x.1.1++Xl x.1.2.toNat
def outF (o:Out):List UInt8:=Xl o.1.toNat++(Xl (ZgX o.2).length++ZgX o.2)
def plainF (t:Tx):List UInt8:=Xl t.1.length++(cat inF t.1++(Xl t.2.1.length++(cat outF t.2.1++Xl t.2.2.toNat)))
theorem inF_len {x:In} (h:x.1.1.length=32) (k:InOk x):(inF x).length≤41:=by
 have:=ZP (n:=x.1.2.toNat) (by have:=k.2.1;omega)
 unfold inF
 rw [yj]
 omega
theorem outF_len {o:Out} (k:OutOk o):(outF o).length≤551:=by
 have h1:=Zcs k.2.2.1
 have h2:=ZP (n:=o.1.toNat) (by have:=k.2.1;omega)
 have h3:=ZP (n:=(ZgX o.2).length) (by omega)
 unfold outF
 simp only [yj]
 omega
theorem tx_plain {t:Tx} (hw:TxWf t) (h:TxOk t):ZaL fuel t=some (plainF t)∧(plainF t).length≤40000:=by
 obtain ⟨ins,outs,note⟩:=t
 obtain ⟨w2,w3⟩:=hw
 obtain ⟨h1,h2,h3,h4,h5,h6⟩:=h
 dsimp only at w2 w3 h1 h2 h3 h4 h5 h6
 have li:=fun k=>ZbG (f:=inF) (c:=41) (fun x hx=>inF_len (w2 x hx) (h5 x hx)) h2 k
 have lo:=fun k=>ZbG (f:=outF) (c:=551) (fun x hx=>outF_len (h6 x hx)) h3 k
 have li1:=li ins.length
 have lo1:=lo outs.length
 rw [yau] at li1 lo1
 have r1:=ZP (n:=ins.length) (by omega)
 have r2:=ZP (n:=outs.length) (by omega)
 have r3:=ZP (n:=note.toNat) (by omega)
 refine ⟨?_,by unfold plainF;simp only [yj];omega⟩
 unfold ZaL
 dsimp only
 rw [VN (by omega) (by omega) (by simp),ya,List.nil_append,yba]
 rw [show (Xl ins.length,ins,(ins.length:Int),(0:Int),(ins,outs,note))=(fun k:Nat=>(Xl ins.length++cat inF (ins.take k),ins,(ins.length:Int),(k:Int),(ins,outs,note))) 0 by simp [cat],
  ZG (x:=(Xl ins.length++cat inF ins,(ins,outs,note))) ins.length (fun k:Nat=>(Xl ins.length++cat inF (ins.take k),ins,(ins.length:Int),(k:Int),(ins,outs,note))) ?_ ?_ (by omega),ya]
 ·dsimp only
  rw [VN (by omega) (by omega) (by rw [yj];omega),ya,yba]
  generalize hp:Xl ins.length++cat inF ins++Xl outs.length=pre
  have hpl:pre.length≤3000:=by rw [←hp];simp only [yj];omega
  rw [show (pre,outs,(outs.length:Int),(0:Int),(ins,outs,note))=(fun k:Nat=>(pre++cat outF (outs.take k),outs,(outs.length:Int),(k:Int),(ins,outs,note))) 0 by simp [cat],
   ZG (x:=(pre++cat outF outs,(ins,outs,note))) outs.length (fun k:Nat=>(pre++cat outF (outs.take k),outs,(outs.length:Int),(k:Int),(ins,outs,note))) ?_ ?_ (by omega),ya]
  ·dsimp only
   rw [VN h4 w3 (by rw [yj];omega),ya, ←hp]
   unfold plainF
   simp only [yz]
  ·intro k hk
   obtain ⟨e,he,hm⟩:=Zj hk
   have hlk:=lo k
   have hok:=h6 e hm
   have hlo:=hok.2.2.1
   have hll:=Zcs hlo
   have hrl:=ZP (n:=e.1.toNat) (by have:=hok.2.1;omega)
   unfold W6
   dsimp only
   rw [if_pos (ZY hk),Zr he,ya,VN hok.1 (by have:=hok.2.1;omega) (by rw [yj];omega),ya,Zi3 hok.2.2.1 hok.2.2.2,ya,
    putBytes_eq (by simp only [yj];omega) (by omega),ya,Zu (by omega),Zdq he]
   unfold outF
   simp only [yz]
  ·unfold W6
   dsimp only
   rw [if_neg (by rw [ZQ];decide),yau]
 ·intro k hk
  obtain ⟨e,he,hm⟩:=Zj hk
  have hlk:=li k
  have h32:=w2 e hm
  have hok:=h5 e hm
  unfold W5
  dsimp only
  rw [if_pos (ZY hk),Zr he,ya,putHash_eq (by rw [yj];omega) (by omega),ya,VN hok.1 (by have:=hok.2.1;omega) (by simp only [yj];omega),ya,
   Zu (by omega),Zdq he]
  unfold inF
  simp only [yz]
 ·unfold W5
  dsimp only
  rw [if_neg (by rw [ZQ];decide),yau]
def amts (l:List Out):Int:=(l.map (·.1)).sum
theorem amts_take {l:List Out} {k:Nat} {e:Out} (h:l[k]? =some e):amts (l.take (k+1))=amts (l.take k)+e.1:=by
 unfold amts
 rw [QU h,List.map_append,List.sum_append]
 simp
theorem sum_nn:∀{l:List Int},(∀x,x∈l→0≤x)→0≤l.sum
 |[],_=>by simp
 |x::r,h=>by
  have:=sum_nn (l:=r) fun y hy=>h y (List.mem_cons_of_mem _ hy)
  have:=h x (List.mem_cons_self ..)
  rw [List.sum_cons]
  omega
theorem amts_le {l:List Out} (h:∀o,o∈l→OutOk o) (k:Nat):0≤amts (l.take k)∧amts (l.take k)≤amts l:=by
 have h1:∀(l:List Out),(∀o,o∈l→OutOk o)→0≤amts l:=fun l h=>sum_nn fun x hx=>by
  obtain ⟨o,ho,rfl⟩:=ybw.1 hx
  exact (h o ho).1
 refine ⟨h1 _ fun o ho=>h o (List.mem_of_mem_take ho), ?_⟩
 have:=h1 (l.drop k) fun o ho=>h o (List.mem_of_mem_drop ho)
 have e:amts l=amts (l.take k)+amts (l.drop k):=by
  unfold amts
  rw [←List.sum_append, ←List.map_append,List.take_append_drop]
 omega
theorem witness_of {x:In} (h:InOk x):W3 fuel x.2=some true:=by
 obtain ⟨_,_,h1,h2,h3⟩:=h
 unfold W3
 rw [if_pos (decide_eq_true h1),if_pos (decide_eq_true h2),decide_eq_true (by omega)]
theorem tx_right {x:In} {outs:List Out} {note:Int} (h:TxOk ([x],outs,note)) (hs:amts outs≤1125899906842624):Q3 fuel ([x],outs,note)=some true:=by
 obtain ⟨h1,h2,h3,h4,h5,h6⟩:=h
 dsimp only at h3 h4 h5 h6
 have hx:=h5 x (yae.2 rfl)
 unfold Q3
 dsimp only
 rw [if_neg (by simp),if_neg (by simp),if_neg (by rw [decide_eq_true_iff];omega),if_neg (by rw [decide_eq_true_iff];omega)]
 obtain ⟨y,g1,m,rfl⟩:=Z4 (step:=Xx fuel) 1 (fun k s=>∃m,s=([x],(1:Int),(k:Int),([x],outs,note),m)∧(k=0→m=[])) (fun y=>∃m,y=.inr (([x],outs,note),m)) (i:=([x],(([x]:List In).length:Int),(0:Int),([x],outs,note),([]:List (Xs×Bool)))) ⟨_,rfl,fun _=>rfl⟩ (by omega) (by
  rintro k _ hk ⟨m,rfl,hm⟩
  left
  have e:k=0:=by omega
  subst e
  rw [hm rfl]
  unfold Xx
  dsimp only
  have e1:Zr7 ([]:List (Xs×Bool)) x.1=none:=rfl
  rw [if_pos (decide_eq_true (by omega)),Zr (show ([x]:List In)[0]? =some x from rfl),ya,e1]
  unfold Zvi
  dsimp only
  rw [if_neg (by rw [decide_eq_true_iff];have:=hx.1;omega),if_neg (by rw [decide_eq_true_iff];have:=hx.2.1;omega),witness_of hx,ya,if_neg (by decide)]
  exact ⟨_,rfl,_,rfl,fun h=>by omega⟩) (by
  rintro _ ⟨m,rfl,hm⟩
  unfold Xx
  dsimp only
  rw [if_neg (by rw [decide_eq_true_iff];omega)]
  exact ⟨_,rfl,_,rfl⟩)
 rw [g1,ya]
 dsimp only
 rw [show ((0:Int),outs,(outs.length:Int),(0:Int),([x],outs,note),m)=(fun k:Nat=>(amts (outs.take k),outs,(outs.length:Int),(k:Int),([x],outs,note),m)) 0 from rfl,
  ZG (x:=.inr (([x],outs,note),m)) outs.length (fun k:Nat=>(amts (outs.take k),outs,(outs.length:Int),(k:Int),([x],outs,note),m)) ?_ ?_ (by omega),ya]
 ·intro k hk
  obtain ⟨e,he,hm⟩:=Zj hk
  obtain ⟨o1,o2,o3,o4⟩:=h6 e hm
  have hk1:=amts_le h6 k
  have hk2:=amts_le h6 (k+1)
  rw [amts_take he] at hk2
  unfold W4
  dsimp only
  rw [if_pos (ZY hk),Zr he,ya,Zrp hk1.1 o1 (by omega),ya,QM o3 o4,ya,Zu (by omega),amts_take he]
  rfl
 ·unfold W4
  dsimp only
  rw [if_neg (by rw [ZQ];decide)]
noncomputable def named (b:List UInt8):List UInt8:=(Vp fuel ZtI [b]).getD []
theorem tx_id {x:In} {outs:List Out} {note:Int} (hw:TxWf ([x],outs,note)) (h:TxOk ([x],outs,note)) (hs:amts outs≤1125899906842624):QJ fuel ([x],outs,note)=some (named (plainF ([x],outs,note)))∧(named (plainF ([x],outs,note))).length=32:=by
 unfold QJ
 obtain ⟨p1,p2⟩:=tx_plain hw h
 obtain ⟨o,h1,h2⟩:=ZbF (s:=ZtI) (ls:=[plainF ([x],outs,note)]) (by decide) (by simp) (by intro y hy;rw [yae.1 hy];omega)
 rw [tx_right h hs,ya,if_neg (by decide),p1,ya]
 unfold named
 rw [h1,ya]
 exact ⟨rfl,h2⟩
end Go.Proofs.YtjbbdlffilcaaaaGreat
end
section
set_option maxRecDepth 4000
namespace Go.Proofs.YtjbbdlffilcaaaaGreat
open Go Go.Ev
theorem seight_tot (p:UInt64):∃o,Ws fuel p=some o∧o.length=8:=by
 unfold Ws
 obtain ⟨x,h1,h2⟩:=Z4 (step:=Yx fuel) 8 (fun k s=>∃c,s=(p,(8:Int),(k:Int),c)∧c.length=8) (fun x=>x.length=8) (i:=(p,(8:Int),(0:Int),([0,0,0,0,0,0,0,0]:List UInt8))) ⟨_,rfl,rfl⟩ (by omega) (by
  rintro k _ hk ⟨c,rfl,hc⟩
  left
  obtain ⟨e,he,_⟩:=Zj (l:=c) (k:=k) (by omega)
  unfold Yx
  dsimp only
  rw [if_pos (decide_eq_true (by omega)),Zv (z:=8*(k:Int)) (by omega) (by omega),Zv (z:=56 - 8*(k:Int)) (by omega) (by omega),if_pos (decide_eq_true (by omega)),if_pos (ZW (by omega) (by omega)),yba,Nat.zero_add,he,ya,Zu (by omega)]
  exact ⟨_,rfl,_,rfl,by rw [List.length_set];exact hc⟩) (by
  rintro _ ⟨c,rfl,hc⟩
  unfold Yx
  dsimp only
  rw [if_neg (by rw [decide_eq_true_iff];omega)]
  exact ⟨_,rfl,hc⟩)
 rw [h1,ya]
 exact ⟨_,rfl,by simp [h2]⟩
theorem chal_tot (r p:UInt64) {m:List UInt8} (hm:m.length=32):∃k,YX fuel r p m=some k:=by
 unfold YX
 obtain ⟨a,a1,a2⟩:=seight_tot r
 obtain ⟨b,b1,b2⟩:=seight_tot p
 obtain ⟨c,c1,c2⟩:=ZbF (s:=ZCl) (ls:=[a,b,m]) (by decide) (by simp) (by
  intro l hl
  simp only [yax,ybs,or_false] at hl
  rcases hl with rfl|rfl|rfl <;> omega)
 obtain ⟨k,k1,k2⟩:=ZbE c2
 rw [a1,ya,b1,ya,c1,ya,k1,ya]
 exact ⟨_,rfl⟩
theorem tk1:tk 1=1:=ZaN Zm9
theorem sc_one (n:Nat):sc 1 n=1:=by
 rw [←yaw,Zlj,tk1,show (1:UInt64).toNat=1 from rfl,Nat.one_pow]
 rfl
theorem ad_one (p:UInt64) (h:WT p.toNat):ad p 1=p:=by
 rw [←yaw,ZpQ,ZaN h,tk1]
 show p.toNat*1 % mdl=_
 rw [Nat.mul_one,yac h.2.1]
theorem skey_is (k:UInt64):ZaM fuel k=some (decide (Key k)):=by
 unfold ZaM
 rw [fright_is,ya]
 by_cases h:k.toNat < ord
 ·rw [if_pos (decide_eq_true h)]
  congr 1
  by_cases h0:k=0
  ·subst h0
   rw [decide_eq_false (by unfold Key;exact fun h=>absurd h.1 (by decide))]
   rfl
  ·have:0 < k.toNat:=by
    rcases Nat.eq_zero_or_pos k.toNat with h1|h1
    ·exact absurd (yaw.1 h1) h0
    ·exact h1
   rw [decide_eq_true (p:=Key k) ⟨this,h⟩]
   exact bne_iff_ne.2 h0
 ·rw [if_neg (by rw [decide_eq_true_iff];exact h),decide_eq_false (fun hk=>h hk.2)]
theorem sign_ok {k:UInt64} (hk:Key k) {m:List UInt8} (hm:m.length=32):∃s,Y3 fuel k m=some s∧ZN fuel (B k.toNat) m s=some true:=by
 obtain ⟨a,a1,a2⟩:=seight_tot k
 obtain ⟨c,c1,c2⟩:=ZbF (s:=ZCm) (ls:=[a,m]) (by decide) (by simp) (by
  intro l hl
  simp only [yax,ybs,or_false] at hl
  rcases hl with rfl|rfl <;> omega)
 obtain ⟨n,n1,n2⟩:=ZbE c2
 obtain ⟨x,x1⟩:=chal_tot (B n.toNat) (B k.toNat) hm
 refine ⟨(B n.toNat,yv ((n.toNat+(yv (x.toNat*k.toNat % ord)).toNat) % ord)), ?_, ?_⟩
 ·unfold Y3
  rw [skey_is,ya,decide_eq_true hk,if_neg (by decide),a1,ya,c1,ya,n1,ya]
  unfold Zbz
  rw [Xz,ya,ZtU,ad_one _ (Q5 _),ya,Xz,ya,x1,ya,fmul_is,ya,fadd_is,ya]
  rfl
 ·unfold ZN Xy
  have hr:YW fuel (yv ((n.toNat+(yv (x.toNat*k.toNat % ord)).toNat) % ord))=some true:=by
   rw [fright_is,of_ord,decide_eq_true ord_lt]
  dsimp only
  rw [if_neg (by rw [beq_iff_eq];exact ZvO hk),Yc,decide_eq_true (Q5 _),ya,if_neg (by decide),Yc,decide_eq_true (show WT (1:UInt64).toNat from Zm9),ya,if_neg (by decide),Yc,decide_eq_true (Q5 _),ya,if_neg (by decide),hr,ya,if_neg (by decide),x1,ya,ZbD,ya,neg_is,ya,ZnB (by simp),ya,Xz,ya,ya]
  refine congrArg some ?_
  rw [beq_iff_eq,B_ord,of_ord,sc_B, ←yaw,Vd]
  have e1:(tk (sc 1 (ord - 1))).toNat=1:=by
   rw [sc_one,tk1]
   rfl
  unfold ZeA ZeA ZeA ZeA
  rw [ZnA (ZgW _),ZaN (Q5 _),ZaN (Q5 _),e1,Nat.one_mul,Nat.mul_one,Vd,Vd,Nat.mod_mod,Nat.mod_mod, ←Nat.mul_mod, ←Nat.pow_add]
  rw [Nat.mul_comm k.toNat, ←Vd, ←Vd, ←B_mod,Nat.add_mod_mod,B_mod]
theorem ite_some {α:Type} {c:Prop} [Decidable c] {a b:Option α} (h1:∃x,a=some x) (h2:∃x,b=some x):∃x,(if c then a else b)=some x:=by
 split
 ·exact h1
 ·exact h2
theorem verify_tot (p:UInt64) {m:List UInt8} (hm:m.length=32) (s:Sig):∃b,ZN fuel p m s=some b:=by
 obtain ⟨x,x1⟩:=chal_tot s.1 p hm
 have h:∃b,Xy fuel p m 1 s=some b:=by
  unfold Xy
  rw [Yc,Yc,Yc,fright_is,ya,ya,ya,ya,x1,ya,ZbD,ya,neg_is,ya,ZnB (by simp),ya,Xz,ya]
  exact ite_some ⟨_,rfl⟩ (ite_some ⟨_,rfl⟩ (ite_some ⟨_,rfl⟩ (ite_some ⟨_,rfl⟩ (ite_some ⟨_,rfl⟩ ⟨_,rfl⟩))))
 obtain ⟨b,hb⟩:=h
 unfold ZN
 rw [hb,ya]
 exact ⟨_,rfl⟩
theorem open_loop {ks:List UInt64} {l:XP} {w:Zan} {m:List UInt8} {b:YI} (hn:ks.length≤100) (hw:w.2.1.length=ks.length) (hm:m.length=32):
 ∃x,Zd (ZS fuel) fuel (ks,(ks.length:Int),(0:Int),l,w,m,b)=some x∧((∀(i:Nat) p s,ks[i]? =some p→w.2.1[i]? =some s→ZN fuel p m s=some true)→x=.inr (l,w,m,b)):=by
 refine Z4 (step:=ZS fuel) ks.length (fun k q=>q=(ks,(ks.length:Int),(k:Int),l,w,m,b)) _ (i:=(ks,(ks.length:Int),(0:Int),l,w,m,b)) rfl (by omega) ?_ ?_
 ·rintro k _ hk rfl
  obtain ⟨p,hp,_⟩:=Zj hk
  obtain ⟨s,hs,_⟩:=Zj (l:=w.2.1) (k:=k) (by omega)
  obtain ⟨v,hv⟩:=verify_tot p hm s
  unfold ZS
  dsimp only
  rw [if_pos (ZY hk),Zr hp,ya,Zr hs,ya,hv,ya,Zu (by omega)]
  cases v with
  |true=>left;exact ⟨_,rfl,rfl⟩
  |false=>
   right
   refine ⟨_,rfl,fun h=> ?_⟩
   have:=h k p s hp hs
   rw [hv] at this
   cases this
 ·rintro _ rfl
  unfold ZS
  dsimp only
  rw [if_neg (by rw [ZQ];decide)]
  exact ⟨_,rfl,fun _=>rfl⟩
end Go.Proofs.YtjbbdlffilcaaaaGreat
end
section
set_option maxRecDepth 4000
namespace Go.Proofs.YtjbbdlffilcaaaaGreat
open Go Go.Ev
section
variable {p:Corsnedlaw21Play} {A:Int} {k0 k1:Kit} {op own:Int} {s:State} {h0 h1:Int} {per:UInt64} {m:List (Out×Role)}
theorem Cm.good (c:Cm p A k0 k1 op own s h0 h1 per m):∀x,x∈m→Good x∧0≤x.1.1∧x.1.1≤4300000000:=by
 have:=c.ch.hi
 refine c.mem (fun a ha hA=>⟨.inl ⟨.inl rfl,ha⟩,by dsimp only;omega,by dsimp only;omega⟩) (fun b hb hA=>⟨.inl ⟨.inr rfl,hb⟩,by dsimp only;omega,by dsimp only;omega⟩) ⟨.inr (.inl ⟨.inl rfl,rfl⟩),show (0:Int)≤330 by decide,show (330:Int)≤4300000000 by decide⟩ ⟨.inr (.inl ⟨.inr rfl,rfl⟩),show (0:Int)≤330 by decide,show (330:Int)≤4300000000 by decide⟩ ?_
 intro x hx hc h100
 refine ⟨.inr (.inr ⟨?_,h100⟩), ?_, ?_⟩
 ·show (if x.1=own then (5:Int) else 6)=5∨(if x.1=own then (5:Int) else 6)=6
  split
  ·exact .inl rfl
  ·exact .inr rfl
 ·show 0≤x.2.2.1
  omega
 ·show x.2.2.1≤_
  have:=hc.2.2.2.2.1
  omega
theorem Cm.txok (c:Cm p A k0 k1 op own s h0 h1 per m):TxOk (([((z32,0),(0,[],0))]:List In),m.map (·.1),2*s.1+own)∧TxWf (([((z32,0),(0,[],0))]:List In),m.map (·.1),2*s.1+own)∧amts (m.map (·.1))≤1125899906842624:=by
 have h1:=c.good
 have h2:=c.lk
 have h3:=c.len
 have n0:=c.st.n0
 have n1:=c.st.n1
 have ho:=c.o
 refine ⟨⟨by simp,by simp,by simp;omega,by dsimp only;omega, ?_, ?_⟩,⟨?_,by dsimp only;omega⟩, ?_⟩
 ·intro x hx
  rw [yae.1 hx]
  exact ⟨by decide,by decide,by decide,by decide,by simp⟩
 ·intro o ho
  obtain ⟨x,hx,rfl⟩:=ybw.1 ho
  exact ⟨(h1 x hx).2.1,by have:=(h1 x hx).2.2;omega,(h2 x hx).1,(h2 x hx).2⟩
 ·intro x hx
  rw [yae.1 hx]
  rfl
 ·have e:amts (m.map (·.1))=tot (fun x:Out×Role=>x.1.1) m:=by
   unfold amts tot
   rw [List.map_map]
   rfl
  rw [e]
  have:=(ZnE (f:=fun x:Out×Role=>x.1.1) (c:=4300000000) fun x hx=>(h1 x hx).2).2
  omega
end
end Go.Proofs.YtjbbdlffilcaaaaGreat
end
section
set_option maxRecDepth 4000
namespace Go.Proofs.YtjbbdlffilcaaaaGreat
open Go Go.Ev
noncomputable section
def Yz (F:Nat) (a0:Corsnedlaw21Play) (a1:UInt8) (a2:Int):Option (Bool):=
 ((some true)).bind fun o958=>
 (Yf F a0).bind fun o959=>
 (YM F a0.2.2.2.2.2.2.2).bind fun o960=>
 (commit_MakeM F o959.1 o959.2.2 ((a1 % 2).toNat:Int) o960).bind fun o961=>
 (o959.2.1[0]?).bind fun e962=>
 (ZbA F e962 o961.1.1).bind fun o963=>
 (o959.2.1[1]?).bind fun e964=>
 (ZbA F e964 o961.1.1).bind fun o965=>
 (Zey F o961.1.1 o963 o965).bind fun o966=>
 if (o961.2 !=0)=true then
  some false
 else
 if ((o966.1.length:Int)!=1)=true then
  some false
 else
 (Q3 F o966).bind fun o967=>
 if (!o967)=true then
  some false
 else
 (ZcO F o966).bind fun o968=>
 if o958=true then
  (Zap F o959.1).bind fun o969=>
  (idx o966.1 0).bind fun e970=>
  (QJ F o966).bind fun o971=>
  (QL F o969 e970.2 o971 (wi a2) (wi a2)).bind fun o972=>
  if (o972==0)=true then
   (o959.1.2.2.1[0]?).bind fun e973=>
   (QJ F o966).bind fun o974=>
   (ZN F e973.1 o974 o963).bind fun o975=>
   if o975=true then
    (o959.1.2.2.1[1]?).bind fun e976=>
    (QJ F o966).bind fun o977=>
    (ZN F e976.1 o977 o965).bind fun o978=>
    if o978=true then
     (ZcP F o959.1 o959.2.2 ((a1 % 2).toNat:Int) o960 o966).bind fun o979=>
     if o979=true then
      if (o968.1==o959.2.2.1)=true then
       if (o968.2==((a1 % 2).toNat:Int))=true then
        (QJ F o966).bind fun o980=>
        (QJ F o961.1.1).bind fun o981=>
        some (decide (o980=o981))
       else
       some false
      else
      some false
     else
     some false
    else
    some false
   else
   some false
  else
  some false
 else
 some false
def ZdK (F:Nat):Fs Tryz.prog:=⟨5,[.v Zb,.v .u8,.v (.int .u16)],[],[Zb,.u8,(.int .u16)],[⟨.ret,[(0,.v .bool)],[],[.bool]⟩],fun x=>Yz F x.1 x.2.1 x.2.2⟩
def ZeE:Fs Tryz.prog:=ZdK fuel
theorem ZdL:ZeE.Ok:=Zg (fi:={ hi:={ still:=[6,22,31,34,35,36,37,42,44,47,49,52,53,54,65,70,76,77,82,83,84,86,88,96,97,98,99,106,107,108,109,113,114,115,116,117,132,135]},lp:=[]}) (specs:={ l:=[ZvW,XD,Q2,Va,ZmN,ZmP,Znt,Zle,Zh8,ZlN,ZgU,Zho,Zlg]}) (okS ⟨Zt1,Xc,VY,WB,Zlb,Zld,Zqx,Zjr,ZgV,Zh5,Zez,Zlf,Zjs,trivial⟩) trivial (by decide+kernel) (fun x=>by kernel_rfl)
end
end Go.Proofs.YtjbbdlffilcaaaaGreat
end
section
set_option maxRecDepth 4000
namespace Go.Proofs.YtjbbdlffilcaaaaGreat
open Go Go.Ev
theorem set_same {α:Type} {l:List α} {k:Nat} {e:α} (h:l[k]? =some e):l.set k e=l:=by
 apply List.ext_getElem?
 intro j
 by_cases hj:j=k
 ·subst hj
  rw [List.getElem?_set_self (List.getElem?_eq_some_iff.1 h).1,h]
 ·rw [List.getElem?_set_ne (Ne.symm hj)]
theorem ZDQ {x:In} (hx:x.2.2.1.length≤12) {outs:List Out} (h0:0 < outs.length) (h1:outs.length≤64) (ho:∀o,o∈outs→Vc o.2) (note:Int):∃u v,Qf fuel ([x],outs,note)=some (note,u,[x],v,outs):=by
 unfold Qf ZiY ZiX Zhn ZgS
 dsimp only
 have he:¬outs.isEmpty=true:=by
  intro h
  rw [List.isEmpty_iff] at h
  rw [h] at h0
  simp at h0
 rw [if_neg (by simp),if_pos (Ya (by simp) (by simp)),ya,if_neg he,if_pos (Ya (by omega) (by omega)),ya]
 dsimp only
 generalize hz:(([]:List In),([]:List Out),(0:Int))=z
 have l0:Zd (X2 fuel) fuel ((([x]:List In).length:Int),(0:Int),note,z,[()],[x],[()],outs)=some (note,z,[()],[x],[()],outs):=by
  refine ZG 1 (fun k:Nat=>((([x]:List In).length:Int),(k:Int),note,z,[()],[x],[()],outs)) ?_ ?_ (by omega)
  ·intro k hk
   have:k=0:=by omega
   subst this
   have e0:([x]:List In)[(0:Nat)]? =some x:=rfl
   have hs:Zh7 fuel x.2.2.1=some x.2.2.1:=by
    unfold Zh7
    rw [if_pos (Ya (by omega) (by omega))]
   unfold X2
   dsimp only
   rw [if_pos (decide_eq_true (by simp)),if_pos (ZW (by omega) (by simp)),yba,e0,ya,hs,ya,if_pos (ZW (by omega) (by simp)),ya]
   rfl
  ·unfold X2
   dsimp only
   rw [if_neg (by simp)]
 rw [l0,ya]
 dsimp only
 have l1:Zd (X4 fuel) fuel ((outs.length:Int),(0:Int),note,z,[()],[x],[()],outs)=some (note,z,[()],[x],[()],outs):=by
  refine ZG outs.length (fun k:Nat=>((outs.length:Int),(k:Int),note,z,[()],[x],[()],outs)) ?_ ?_ (by omega)
  ·intro k hk
   obtain ⟨o,hok,hom⟩:=Zj hk
   obtain ⟨g1,g2,g3⟩:=ho o hom
   have hbe:¬o.2.isEmpty=true:=by
    intro h
    rw [List.isEmpty_iff] at h
    rw [h] at g1
    simp at g1
   have hbr:Q4 fuel o.2=some ([()],o.2):=by
    unfold Q4 ZbB
    rw [if_neg hbe,if_pos (Ya (by omega) (by omega))]
   unfold X4
   dsimp only
   rw [if_pos (ZY hk),if_pos (ZW (by omega) (by omega)),yba,hok,ya,hbr,ya]
   dsimp only
   have l2:Zd (X3 fuel) fuel ((k:Int),(outs.length:Int),(k:Int),(o.2.length:Int),(0:Int),note,z,[()],[x],[()],outs,[()],o.2)=some ((k:Int),(outs.length:Int),(k:Int),note,z,[()],[x],[()],outs,[()],o.2):=by
    refine ZG o.2.length (fun j:Nat=>((k:Int),(outs.length:Int),(k:Int),(o.2.length:Int),(j:Int),note,z,[()],[x],[()],outs,[()],o.2)) ?_ ?_ (by omega)
    ·intro j hj
     obtain ⟨b,hb,hbm⟩:=Zj hj
     obtain ⟨b1,_⟩:=g3 b hbm
     have hk9:Xv fuel b.1=some b.1:=by
      unfold Xv
      rw [if_pos (Ya (by omega) (by omega))]
     unfold X3
     dsimp only
     rw [if_pos (ZY hj),if_pos (ZW (by omega) (by omega)),yba,hb,ya,hk9,ya,if_pos (ZW (by omega) (by omega)),ya,Zu (by omega),show o.2.set j (b.1,b.2.1,b.2.2.1,b.2.2.2)=o.2 from set_same hb]
    ·unfold X3
     dsimp only
     rw [if_neg (by rw [ZQ];decide)]
   rw [l2,ya]
   dsimp only
   rw [if_pos (ZW (by omega) (by omega)),yba,hok,ya,Zu (by omega),show outs.set k (o.1,o.2)=outs from set_same hok]
  ·unfold X4
   dsimp only
   rw [if_neg (by rw [ZQ];decide)]
 rw [l1,ya]
 exact ⟨_,_,rfl⟩
theorem ZGf {p q:UInt64} (hp:WT p.toNat) (hq:WT q.toNat) {m:List UInt8} (hm:m.length=32) {a b:Sig} (ha:ZN fuel p m a=some true) (hb:ZN fuel q m b=some true) {h:Int} (hh:0≤h):QL fuel [([p,q],0,0,0)] ((0:Int),([a,b]:List Sig),(0:UInt64)) m h h=some 0:=by
 have hl:Vc [([p,q],0,0,0)]∧V1 [([p,q],0,0,0)]:=by
  refine ZlQ (by simp) (by simp) ?_
  intro e he
  rw [yae.1 he]
  refine ⟨⟨by simp,show (0:Int)≤0 by decide,show (0:Int)≤1048576 by decide,show (0:Int)≤0 by decide,show (0:Int)≤1048576 by decide⟩,fun r hr=> ?_,nox⟩
  simp only [yax,ybs,or_false] at hr
  rcases hr with rfl|rfl
  ·exact hp
  ·exact hq
 obtain ⟨z,q1,q2⟩:=open_loop (ks:=[p,q]) (l:=[([p,q],0,0,0)]) (w:=((0:Int),([a,b]:List Sig),(0:UInt64))) (m:=m) (b:=([p,q],0,0,0)) (by simp) (by simp) hm
 have hz:z=.inr ([([p,q],0,0,0)],((0:Int),([a,b]:List Sig),(0:UInt64)),m,([p,q],0,0,0)):=by
  refine q2 ?_
  intro i p' s' h1 h2
  match i,h1,h2 with
  |0,h1,h2=>
   simp only [ybu,Option.some.injEq] at h1 h2
   rw [←h1, ←h2]
   exact ha
  |1,h1,h2=>
   simp only [ybu,List.getElem?_cons_succ,Option.some.injEq] at h1 h2
   rw [←h1, ←h2]
   exact hb
  |i+2,h1,h2=>simp at h1
 unfold QL
 rw [QM hl.1 hl.2,ya,if_neg (by decide)]
 dsimp only
 rw [if_neg (by simp),if_neg (by simp),Zaj (i:=0) (by omega) (show ([([p,q],0,0,0)]:XP)[(0:Int).toNat]? =some ([p,q],0,0,0) from rfl),ya]
 dsimp only
 rw [if_neg (by rw [decide_eq_true_iff];omega),if_neg (by rw [decide_eq_true_iff];omega),if_neg (by simp),if_neg (by simp)]
 show yao (Zd (ZS fuel) fuel ([p,q],(([p,q]:List UInt64).length:Int),(0:Int),[([p,q],0,0,0)],((0:Int),([a,b]:List Sig),(0:UInt64)),m,([p,q],0,0,0))) _=_
 rw [q1,ya,hz]
theorem ZBf {p:Corsnedlaw21Play} (hp:PlayOk p) (sd:UInt8) {h:Int} (hh0:0≤h) (hh1:h≤65535):Yz fuel p sd h=some true:=by
 obtain ⟨A,k0,k1,op,s,h0,h1,e1,e2,e3,e4⟩:=ZoT hp
 obtain ⟨f,f1,f2,f3⟩:=perOf_is hp.per
 have hown:=ZtZ sd
 unfold Yz
 rw [ya,e1,ya,f3,ya]
 dsimp only
 generalize (((sd % 2).toNat:Nat):Int)=own at hown
 obtain ⟨m,cm⟩:=e4 own _ hown (Q5 f.toNat)
 obtain ⟨t1,t2,t3⟩:=cm.txok
 have hlk:=cm.lk
 have hlen:=cm.len
 have hn0:=cm.st.n0
 have hn1:=cm.st.n1
 have hmk:=cm.mkd
 have h4:2≤m.length:=by
  rw [cm.pm.length_eq,Zh9]
  omega
 have hB:(chan A k0 k1 op).2.2.1=[ZC k0,ZC k1]:=rfl
 rw [hmk,ya,Zv (z:=h) (by omega) (by omega)]
 generalize hO:m.map (fun x:Out×Role=>x.1)=outs at*
 have hol:outs.length=m.length:=by rw [←hO,List.length_map]
 have hok:∀o,o∈outs→Vc o.2:=fun o ho=>by
  rw [←hO] at ho
  obtain ⟨x,hx,rfl⟩:=ybw.1 ho
  exact (hlk x hx).1
 obtain ⟨i1,i2⟩:=tx_id t2 t1 t3
 generalize hid:named (plainF (([((z32,0),(0,[],0))]:List In),outs,2*s.1+own))=id at*
 obtain ⟨a,a1,a2⟩:=sign_ok e2.k0.1 i2
 obtain ⟨b,b1,b2⟩:=sign_ok e2.k1.1 i2
 have hsign:∀(k:Kit) (s':Sig),Y3 fuel k.1 id=some s'→ZbA fuel k (([((z32,0),(0,[],0))]:List In),outs,2*s.1+own)=some s':=by
  intro k s' hs
  unfold ZbA
  rw [i1,ya,hs,ya]
 show yao (some k0) _=_
 rw [ya,hsign k0 a a1,ya]
 show yao (some k1) _=_
 rw [ya,hsign k1 b b1,ya]
 have hfull:Zey fuel (([((z32,0),(0,[],0))]:List In),outs,2*s.1+own) a b=some (([((z32,0),(0,[a,b],0))]:List In),outs,2*s.1+own):=by
  obtain ⟨u,v,hc⟩:=ZDQ (x:=((z32,0),(0,[],0))) (by simp) (outs:=outs) (by omega) (by omega) hok (2*s.1+own)
  unfold Zey
  rw [hc,ya]
  dsimp only
  rw [if_pos (by simp),if_pos (ZW (by omega) (by simp))]
  rfl
 have t1':TxOk (([((z32,0),(0,[a,b],0))]:List In),outs,2*s.1+own):=by
  obtain ⟨q1,q2,q3,q4,q5,q6⟩:=t1
  refine ⟨by simp,by simp,q3,q4, ?_,q6⟩
  intro x hx
  rw [yae.1 hx]
  exact ⟨show (0:Int)≤0 by decide,show (0:Int) < 64 by decide,show (0:Int)≤0 by decide,show (0:Int) < 4 by decide,by simp⟩
 have t2':TxWf (([((z32,0),(0,[a,b],0))]:List In),outs,2*s.1+own):=by
  refine ⟨?_,t2.2⟩
  intro x hx
  rw [yae.1 hx]
  rfl
 have j1:=(tx_id t2' t1' t3).1
 have hpl:plainF (([((z32,0),(0,[a,b],0))]:List In),outs,2*s.1+own)=plainF (([((z32,0),(0,[],0))]:List In),outs,2*s.1+own):=rfl
 rw [hpl,hid] at j1
 rw [hfull,ya,if_neg (by simp),if_neg (by simp),tx_right t1' t3,ya,if_neg (by decide)]
 have hw:ZcO fuel (([((z32,0),(0,[a,b],0))]:List In),outs,2*s.1+own)=some (s.1,own):=by
  unfold ZcO
  dsimp only
  have g1:Int.tdiv (2*s.1+own) 2=s.1:=by
   rw [Int.tdiv_eq_ediv_of_nonneg (by omega)]
   omega
  have g2:Int.tmod (2*s.1+own) 2=own:=by
   rw [Int.tmod_eq_emod_of_nonneg (by omega)]
   omega
  rw [if_neg (by rw [decide_eq_true_iff];omega),g1,g2,Zv (by omega) (by omega)]
 have hfund:Zap fuel (chan A k0 k1 op)=some [([B k0.1.toNat,B k1.1.toNat],0,0,0)]:=by
  unfold Zap
  rw [hB]
  show yao (some (ZC k0)) _=_
  rw [ya]
  show yao (some (ZC k1)) _=_
  rw [ya]
  unfold Znz Zh2 Xv
  rw [if_pos (Ya (by simp) (by simp)),ya,ya,ya]
  rfl
 have hopen:=ZGf (Q5 k0.1.toNat) (Q5 k1.1.toNat) i2 a2 b2 hh0
 have hknown:ZcP fuel (chan A k0 k1 op) s own (B f.toNat) (([((z32,0),(0,[a,b],0))]:List In),outs,2*s.1+own)=some true:=by
  unfold ZcP
  rw [hmk,ya,if_pos (by rfl)]
  dsimp only
  rw [i1,ya,j1,ya,decide_eq_true rfl]
 rw [hw,ya,if_pos rfl,hfund,ya,Zaj (i:=0) (by omega) (show ([((z32,0),(0,[a,b],0))]:List In)[(0:Int).toNat]? =some ((z32,0),(0,[a,b],0)) from rfl),ya,j1,ya,hopen,ya,if_pos (by rfl),hB]
 show yao (some (ZC k0)) _=_
 rw [ya,ya,show (ZC k0).1=B k0.1.toNat from rfl,a2,ya,if_pos rfl]
 show yao (some (ZC k1)) _=_
 rw [ya,ya,show (ZC k1).1=B k1.1.toNat from rfl,b2,ya,if_pos rfl,hknown,ya,if_pos rfl,if_pos (beq_self_eq_true _),if_pos (beq_self_eq_true _),ya,i1,ya,decide_eq_true rfl]
end Go.Proofs.YtjbbdlffilcaaaaGreat
end
