/- Parts of the proof, in one file. -/
import Derived.Test.YtjbbdlffilcaaaaGreatKg
open Bool renaming false_eq_true → ycr
open Go.Proofs.Tryz renaming prog → yb
open Int renaming toNat_natCast → yba
open List renaming length_append → yj, getElem?_eq_some_iff → yl, append_assoc → yz, mem_singleton → yae, take_length → yau
open Nat renaming mod_eq_of_lt → yac
open Option renaming bind_some → ya
open UInt64 renaming ofNat → yv, toNat_ofNat' → yav, toNat_inj → yaw
set_option linter.unusedVariables false
set_option linter.unusedSimpArgs false
section
namespace Go.Ev
theorem ite_some {α:Type} {c:Prop} [Decidable c] {a:Option α} {r:α} (h:(if c then a else none)=some r):c∧a=some r:=by
 by_cases hc:c
 ·rw [if_pos hc] at h;exact ⟨hc,h⟩
 ·rw [if_neg hc] at h;cases h
end Go.Ev
namespace Go.Ev
end Go.Ev
namespace Go.Ev
end Go.Ev
end
section
set_option maxRecDepth 4000
namespace Go.Proofs.YtjbbdlffilcaaaaGreat
open Go Go.Ev
noncomputable section
def keys_MixSecretM (F:Nat) (a0:UInt64) (a1:UInt64):Option (UInt64):=
 (Xb F a0).bind fun o885=>
 (Ym F Zzp ([a1,o885]:List UInt64)).bind fun o886=>
 (WC F a0 o886).bind fun o887=>
 some o887
def keys_MixSecret_sF (F:Nat):Fs yb:=⟨29,[.v .u64,.v .u64],[],[.u64,.u64],[⟨.ret,[(0,.v .u64)],[],[.u64]⟩],fun x=>keys_MixSecretM F x.1 x.2⟩
def keys_MixSecret_s:Fs yb:=keys_MixSecret_sF fuel
theorem keys_MixSecret_ok:keys_MixSecret_s.Ok:=Zg (fi:={ hi:={ still:=[4,5,7,9,10]},lp:=[]}) (specs:={ l:=[XT,VW,Zdo]}) (okS ⟨XU,QC,Zex,trivial⟩) trivial (by decide+kernel) (fun x=>by kernel_rfl)
def corsnedlaw21_opensM (F:Nat) (a0:XP) (a1:Int) (a2:UInt64) (a3:UInt64) (a4:(List UInt8)) (a5:Int) (a6:Int):Option (Int):=
 (Y3 F a2 a4).bind fun o888=>
 (QL F a0 (a1,([o888]:List Sig),a3) a4 a5 a6).bind fun o889=>
 some o889
def corsnedlaw21_opens_sF (F:Nat):Fs yb:=⟨31,[.v Yw,.v (.int .i64),.v .u64,.v .u64,.v (.arr 32 .u8),.v (.int .i64),.v (.int .i64)],[],[Yw,(.int .i64),.u64,.u64,(.arr 32 .u8),(.int .i64),(.int .i64)],[⟨.ret,[(0,.v (.int .i64))],[],[(.int .i64)]⟩],fun x=>corsnedlaw21_opensM F x.1 x.2.1 x.2.2.1 x.2.2.2.1 x.2.2.2.2.1 x.2.2.2.2.2.1 x.2.2.2.2.2.2⟩
def corsnedlaw21_opens_s:Fs yb:=corsnedlaw21_opens_sF fuel
theorem corsnedlaw21_opens_ok:corsnedlaw21_opens_s.Ok:=Zg (fi:={ hi:={ still:=[14,15,17,18,22,23,24,25]},lp:=[]}) (specs:={ l:=[ZgR,ZgU]}) (okS ⟨ZiW,Zez,trivial⟩) trivial (by decide+kernel) (fun x=>by kernel_rfl)
def VO (F:Nat) (a0:UInt64) (a1:(List UInt8)):Option (UInt64):=
 (Xb F a0).bind fun o890=>
 (YM F a1).bind fun o891=>
 (Ym F ZvJ ([o890,o891]:List UInt64)).bind fun o892=>
 (Vb F a0 o892).bind fun o893=>
 (Xd F a1).bind fun o894=>
 (Ym F ZvJ ([o891,o890]:List UInt64)).bind fun o895=>
 (Vb F o894 o895).bind fun o896=>
 (WC F o893 o896).bind fun o897=>
 some o897
def Zln (F:Nat):Fs yb:=⟨32,[.v .u64,.v (.arr 32 .u8)],[],[.u64,(.arr 32 .u8)],[⟨.ret,[(0,.v .u64)],[],[.u64]⟩],fun x=>VO F x.1 x.2⟩
def Zd8:Fs yb:=Zln fuel
theorem Zlo:Zd8.Ok:=Zg (fi:={ hi:={ still:=[4,7,9,11,14,15,16,17,18,21,22,23]},lp:=[]}) (specs:={ l:=[XT,Q2,VW,Zla,QY,Zdo]}) (okS ⟨XU,VY,QC,ZoM,Zah,Zex,trivial⟩) trivial (by decide+kernel) (fun x=>by kernel_rfl)
end
end Go.Proofs.YtjbbdlffilcaaaaGreat
end
section
set_option maxRecDepth 4000
namespace Go.Proofs.YtjbbdlffilcaaaaGreat
open Go Go.Ev
theorem B_mod (n:Nat):B (n % ord)=B n:=ZtT 4 n
theorem neg_is (p:UInt64):QK fuel p=some (sc p (ord - 1)):=by
 unfold QK
 rw [Zli,ya,Zlh,ya]
 rfl
theorem of_ord {z:Nat}:(yv (z % ord)).toNat=z % ord:=by
 rw [yav,yac (Nat.lt_trans (Nat.mod_lt _ (by decide)) (by decide))]
theorem ord_lt {z:Nat}:z % ord < ord:=Nat.mod_lt _ (by decide)
theorem fadd_is (a b:UInt64):WC fuel a b=some (yv ((a.toNat+b.toNat) % ord)):=by
 unfold WC Vq VT
 rw [ya,ya,ya]
 congr 1
 have ha:a.toNat % ord < ord:=ord_lt
 have hb:b.toNat % ord < ord:=ord_lt
 rw [←yaw,Zdp,UInt64.toNat_add,Zdp,Zdp,of_ord,yac (a:=a.toNat % ord+b.toNat % ord) (by unfold ord at*;omega), ←Nat.add_mod]
theorem fmul_is (a b:UInt64):Vb fuel a b=some (yv (a.toNat*b.toNat % ord)):=by
 unfold Vb Vq Vr Qw
 rw [ya,ya,ya]
 dsimp only
 unfold X0
 rw [if_pos (by decide),ya,ya,yav,yav,Zdp,Zdp]
 have h:a.toNat % ord*(b.toNat % ord) < 18446744073709551616*18446744073709551616:=Nat.mul_lt_mul'' (Nat.lt_trans ord_lt (by decide)) (Nat.lt_trans ord_lt (by decide))
 have hz:a.toNat % ord*(b.toNat % ord) % ord=a.toNat*b.toNat % ord:=(Nat.mul_mod ..).symm
 generalize a.toNat % ord*(b.toNat % ord)=z at*
 have h2:z / 18446744073709551616 < 18446744073709551616:=(Nat.div_lt_iff_lt_mul (by decide)).2 h
 rw [show (2305843009213688669:UInt64).toNat=ord from rfl]
 have e:z / 18446744073709551616 % 2 ^ 64*18446744073709551616+z % 18446744073709551616 % 2 ^ 64=z:=by omega
 rw [e,hz]
theorem fright_is (a:UInt64):YW fuel a=some (decide (a.toNat < ord)):=by
 unfold YW
 congr 1
end Go.Proofs.YtjbbdlffilcaaaaGreat
end
section
set_option maxRecDepth 4000
namespace Go.Proofs.YtjbbdlffilcaaaaGreat
open Go Go.Ev
theorem ad_B (m n:Nat):ad (B m) (B n)=B (m+n):=by
 rw [←yaw,ZpQ,ZaN (Q5 m),ZaN (Q5 n),Vd,Vd,Vd,Nat.pow_add, ←Nat.mul_mod]
theorem sc_B (m n:Nat):sc (B m) n=B (m*n):=by
 rw [←yaw,Zlj,ZaN (Q5 m),Vd,Vd,Nat.pow_mul, ←Nat.pow_mod]
theorem perOf_is {h:List UInt8} (hl:h.length=32):∃k,Xd fuel h=some k∧Key k∧YM fuel h=some (B k.toNat):=by
 obtain ⟨k,h1,h2⟩:=ZbE hl
 refine ⟨k,h1,h2, ?_⟩
 unfold YM
 rw [h1,ya,Xz,ya]
theorem B_ord (z:Nat):B (yv (z % ord)).toNat=B z:=by rw [of_ord,B_mod]
theorem mixSecret_is (k per:UInt64):∃s,keys_MixSecretM fuel k per=some s∧s.toNat < ord∧B s.toNat=mix (B k.toNat) per:=by
 unfold keys_MixSecretM
 rw [Xz,ya,ZFW,ya,fadd_is,ya]
 refine ⟨_,rfl,by rw [of_ord];exact ord_lt, ?_⟩
 rw [B_ord, ←ad_B]
 rfl
theorem Zq8 (k:UInt64) {h:List UInt8} (hl:h.length=32) {f:UInt64} (hf:Xd fuel h=some f):∃s,VO fuel k h=some s∧s.toNat < ord∧B s.toNat=Zcr (B k.toNat) (B f.toNat):=by
 unfold VO
 obtain ⟨g,g1,g2,g3⟩:=perOf_is hl
 rw [hf] at g1
 cases g1
 rw [Xz,ya,g3,ya,ZCo,ya,fmul_is,ya,hf,ya,ZCo,ya,fmul_is,ya,fadd_is,ya]
 refine ⟨_,rfl,by rw [of_ord];exact ord_lt, ?_⟩
 rw [B_ord, ←ad_B,B_ord,B_ord, ←sc_B, ←sc_B]
 rfl
end Go.Proofs.YtjbbdlffilcaaaaGreat
end
section
set_option maxRecDepth 4000
namespace Go.Proofs.YtjbbdlffilcaaaaGreat
open Go Go.Ev
theorem putHash_eq {b h:List UInt8} (hb:b.length≤1000000) (hh:h.length≤1000000):Wr fuel b h=some (b++h):=by
 unfold Wr
 rw [ZoP (by omega),ya]
theorem putBytes_eq {b c:List UInt8} (hb:b.length≤1000000) (hc:c.length≤1000000):X1 fuel b c=some (b++(Xl c.length++c)):=by
 have:=ZP (n:=c.length) (by omega)
 unfold X1
 rw [ZxK (by omega),ya,ZlO (by simp;omega) (by simp),ya]
 simp
def TxWf (t:Tx):Prop:=(∀x,x∈t.1→x.1.1.length=32)∧t.2.2≤9223372036854775807
def InOk (x:In):Prop:=0≤x.1.2∧x.1.2 < 64∧0≤x.2.1∧x.2.1 < 4∧x.2.2.1.length≤12
def OutOk (o:Out):Prop:=0≤o.1∧o.1≤1125899906842624∧Vc o.2∧V1 o.2
def TxOk (t:Tx):Prop:=0 < t.1.length∧t.1.length≤64∧t.2.1.length≤64∧0≤t.2.2∧(∀x,x∈t.1→InOk x)∧∀o,o∈t.2.1→OutOk o
def inF (x:In):List UInt8:=x.1.1++Xl x.1.2.toNat
def outF (o:Out):List UInt8:=Xl o.1.toNat++(Xl (ZgX o.2).length++ZgX o.2)
def plainF (t:Tx):List UInt8:=Xl t.1.length++(cat inF t.1++(Xl t.2.1.length++(cat outF t.2.1++Xl t.2.2.toNat)))
theorem inF_len {x:In} (h:x.1.1.length=32) (k:InOk x):(inF x).length≤41:=by
 have:=ZP (n:=x.1.2.toNat) (by have:=k.2.1;omega)
 unfold inF
 rw [yj]
 omega
theorem outF_len {o:Out} (k:OutOk o):(outF o).length≤551:=by
 have h1:=Zcs k.2.2.1
 have h2:=ZP (n:=o.1.toNat) (by have:=k.2.1;omega)
 have h3:=ZP (n:=(ZgX o.2).length) (by omega)
 unfold outF
 simp only [yj]
 omega
theorem tx_plain {t:Tx} (hw:TxWf t) (h:TxOk t):ZaL fuel t=some (plainF t)∧(plainF t).length≤40000:=by
 obtain ⟨ins,outs,note⟩:=t
 obtain ⟨w2,w3⟩:=hw
 obtain ⟨h1,h2,h3,h4,h5,h6⟩:=h
 dsimp only at w2 w3 h1 h2 h3 h4 h5 h6
 have li:=fun k=>ZbG (f:=inF) (c:=41) (fun x hx=>inF_len (w2 x hx) (h5 x hx)) h2 k
 have lo:=fun k=>ZbG (f:=outF) (c:=551) (fun x hx=>outF_len (h6 x hx)) h3 k
 have li1:=li ins.length
 have lo1:=lo outs.length
 rw [yau] at li1 lo1
 have r1:=ZP (n:=ins.length) (by omega)
 have r2:=ZP (n:=outs.length) (by omega)
 have r3:=ZP (n:=note.toNat) (by omega)
 refine ⟨?_,by unfold plainF;simp only [yj];omega⟩
 unfold ZaL
 dsimp only
 rw [VN (by omega) (by omega) (by simp),ya,List.nil_append,yba]
 rw [show (Xl ins.length,ins,(ins.length:Int),(0:Int),(ins,outs,note))=(fun k:Nat=>(Xl ins.length++cat inF (ins.take k),ins,(ins.length:Int),(k:Int),(ins,outs,note))) 0 by simp [cat],
  ZG (x:=(Xl ins.length++cat inF ins,(ins,outs,note))) ins.length (fun k:Nat=>(Xl ins.length++cat inF (ins.take k),ins,(ins.length:Int),(k:Int),(ins,outs,note))) ?_ ?_ (by omega),ya]
 ·dsimp only
  rw [VN (by omega) (by omega) (by rw [yj];omega),ya,yba]
  generalize hp:Xl ins.length++cat inF ins++Xl outs.length=pre
  have hpl:pre.length≤3000:=by rw [←hp];simp only [yj];omega
  rw [show (pre,outs,(outs.length:Int),(0:Int),(ins,outs,note))=(fun k:Nat=>(pre++cat outF (outs.take k),outs,(outs.length:Int),(k:Int),(ins,outs,note))) 0 by simp [cat],
   ZG (x:=(pre++cat outF outs,(ins,outs,note))) outs.length (fun k:Nat=>(pre++cat outF (outs.take k),outs,(outs.length:Int),(k:Int),(ins,outs,note))) ?_ ?_ (by omega),ya]
  ·dsimp only
   rw [VN h4 w3 (by rw [yj];omega),ya, ←hp]
   unfold plainF
   simp only [yz]
  ·intro k hk
   obtain ⟨e,he,hm⟩:=Zj hk
   have hlk:=lo k
   have hok:=h6 e hm
   have hlo:=hok.2.2.1
   have hll:=Zcs hlo
   have hrl:=ZP (n:=e.1.toNat) (by have:=hok.2.1;omega)
   unfold W6
   dsimp only
   rw [if_pos (ZY hk),Zr he,ya,VN hok.1 (by have:=hok.2.1;omega) (by rw [yj];omega),ya,Zi3 hok.2.2.1 hok.2.2.2,ya,
    putBytes_eq (by simp only [yj];omega) (by omega),ya,Zu (by omega),Zdq he]
   unfold outF
   simp only [yz]
  ·unfold W6
   dsimp only
   rw [if_neg (by rw [ZQ];decide),yau]
 ·intro k hk
  obtain ⟨e,he,hm⟩:=Zj hk
  have hlk:=li k
  have h32:=w2 e hm
  have hok:=h5 e hm
  unfold W5
  dsimp only
  rw [if_pos (ZY hk),Zr he,ya,putHash_eq (by rw [yj];omega) (by omega),ya,VN hok.1 (by have:=hok.2.1;omega) (by simp only [yj];omega),ya,
   Zu (by omega),Zdq he]
  unfold inF
  simp only [yz]
 ·unfold W5
  dsimp only
  rw [if_neg (by rw [ZQ];decide),yau]
def amts (l:List Out):Int:=(l.map (·.1)).sum
theorem amts_take {l:List Out} {k:Nat} {e:Out} (h:l[k]? =some e):amts (l.take (k+1))=amts (l.take k)+e.1:=by
 unfold amts
 rw [QU h,List.map_append,List.sum_append]
 simp
theorem sum_nn:∀{l:List Int},(∀x,x∈l→0≤x)→0≤l.sum
 |[],_=>by simp
 |x::r,h=>by
  have:=sum_nn (l:=r) fun y hy=>h y (List.mem_cons_of_mem _ hy)
  have:=h x (List.mem_cons_self ..)
  rw [List.sum_cons]
  omega
theorem amts_le {l:List Out} (h:∀o,o∈l→OutOk o) (k:Nat):0≤amts (l.take k)∧amts (l.take k)≤amts l:=by
 have h1:∀(l:List Out),(∀o,o∈l→OutOk o)→0≤amts l:=fun l h=>sum_nn fun x hx=>by
  obtain ⟨o,ho,rfl⟩:=List.mem_map.1 hx
  exact (h o ho).1
 refine ⟨h1 _ fun o ho=>h o (List.mem_of_mem_take ho), ?_⟩
 have:=h1 (l.drop k) fun o ho=>h o (List.mem_of_mem_drop ho)
 have e:amts l=amts (l.take k)+amts (l.drop k):=by
  unfold amts
  rw [←List.sum_append, ←List.map_append,List.take_append_drop]
 omega
theorem witness_of {x:In} (h:InOk x):W3 fuel x.2=some true:=by
 obtain ⟨_,_,h1,h2,h3⟩:=h
 unfold W3
 rw [if_pos (decide_eq_true h1),if_pos (decide_eq_true h2),decide_eq_true (by omega)]
theorem tx_right {x:In} {outs:List Out} {note:Int} (h:TxOk ([x],outs,note)) (hs:amts outs≤1125899906842624):Q3 fuel ([x],outs,note)=some true:=by
 obtain ⟨h1,h2,h3,h4,h5,h6⟩:=h
 dsimp only at h3 h4 h5 h6
 have hx:=h5 x (yae.2 rfl)
 unfold Q3
 dsimp only
 rw [if_neg (by simp),if_neg (by simp),if_neg (by rw [decide_eq_true_iff];omega),if_neg (by rw [decide_eq_true_iff];omega)]
 obtain ⟨y,g1,m,rfl⟩:=Z4 (step:=Xx fuel) 1 (fun k s=>∃m,s=([x],(1:Int),(k:Int),([x],outs,note),m)∧(k=0→m=[])) (fun y=>∃m,y=.inr (([x],outs,note),m)) (i:=([x],(([x]:List In).length:Int),(0:Int),([x],outs,note),([]:List (Xs×Bool)))) ⟨_,rfl,fun _=>rfl⟩ (by omega) (by
  rintro k _ hk ⟨m,rfl,hm⟩
  left
  have e:k=0:=by omega
  subst e
  rw [hm rfl]
  unfold Xx
  dsimp only
  have e1:Zr7 ([]:List (Xs×Bool)) x.1=none:=rfl
  rw [if_pos (decide_eq_true (by omega)),Zr (show ([x]:List In)[0]? =some x from rfl),ya,e1]
  unfold Zvi
  dsimp only
  rw [if_neg (by rw [decide_eq_true_iff];have:=hx.1;omega),if_neg (by rw [decide_eq_true_iff];have:=hx.2.1;omega),witness_of hx,ya,if_neg (by decide)]
  exact ⟨_,rfl,_,rfl,fun h=>by omega⟩) (by
  rintro _ ⟨m,rfl,hm⟩
  unfold Xx
  dsimp only
  rw [if_neg (by rw [decide_eq_true_iff];omega)]
  exact ⟨_,rfl,_,rfl⟩)
 rw [g1,ya]
 dsimp only
 rw [show ((0:Int),outs,(outs.length:Int),(0:Int),([x],outs,note),m)=(fun k:Nat=>(amts (outs.take k),outs,(outs.length:Int),(k:Int),([x],outs,note),m)) 0 from rfl,
  ZG (x:=.inr (([x],outs,note),m)) outs.length (fun k:Nat=>(amts (outs.take k),outs,(outs.length:Int),(k:Int),([x],outs,note),m)) ?_ ?_ (by omega),ya]
 ·intro k hk
  obtain ⟨e,he,hm⟩:=Zj hk
  obtain ⟨o1,o2,o3,o4⟩:=h6 e hm
  have hk1:=amts_le h6 k
  have hk2:=amts_le h6 (k+1)
  rw [amts_take he] at hk2
  unfold W4
  dsimp only
  rw [if_pos (ZY hk),Zr he,ya,Zrp hk1.1 o1 (by omega),ya,QM o3 o4,ya,Zu (by omega),amts_take he]
  rfl
 ·unfold W4
  dsimp only
  rw [if_neg (by rw [ZQ];decide)]
noncomputable def named (b:List UInt8):List UInt8:=(Vp fuel ZtI [b]).getD []
theorem tx_id {x:In} {outs:List Out} {note:Int} (hw:TxWf ([x],outs,note)) (h:TxOk ([x],outs,note)) (hs:amts outs≤1125899906842624):QJ fuel ([x],outs,note)=some (named (plainF ([x],outs,note)))∧(named (plainF ([x],outs,note))).length=32:=by
 unfold QJ
 obtain ⟨p1,p2⟩:=tx_plain hw h
 obtain ⟨o,h1,h2⟩:=ZbF (s:=ZtI) (ls:=[plainF ([x],outs,note)]) (by decide) (by simp) (by intro y hy;rw [yae.1 hy];omega)
 rw [tx_right h hs,ya,if_neg (by decide),p1,ya]
 unfold named
 rw [h1,ya]
 exact ⟨rfl,h2⟩
end Go.Proofs.YtjbbdlffilcaaaaGreat
end
section
set_option maxRecDepth 4000
namespace Go.Proofs.YtjbbdlffilcaaaaGreat
open Go Go.Ev
theorem seight_tot (p:UInt64):∃o,Ws fuel p=some o∧o.length=8:=by
 unfold Ws
 obtain ⟨x,h1,h2⟩:=Z4 (step:=Yx fuel) 8 (fun k s=>∃c,s=(p,(8:Int),(k:Int),c)∧c.length=8) (fun x=>x.length=8) (i:=(p,(8:Int),(0:Int),([0,0,0,0,0,0,0,0]:List UInt8))) ⟨_,rfl,rfl⟩ (by omega) (by
  rintro k _ hk ⟨c,rfl,hc⟩
  left
  obtain ⟨e,he,_⟩:=Zj (l:=c) (k:=k) (by omega)
  unfold Yx
  dsimp only
  rw [if_pos (decide_eq_true (by omega)),Zv (z:=8*(k:Int)) (by omega) (by omega),Zv (z:=56 - 8*(k:Int)) (by omega) (by omega),if_pos (decide_eq_true (by omega)),if_pos (ZW (by omega) (by omega)),yba,Nat.zero_add,he,ya,Zu (by omega)]
  exact ⟨_,rfl,_,rfl,by rw [List.length_set];exact hc⟩) (by
  rintro _ ⟨c,rfl,hc⟩
  unfold Yx
  dsimp only
  rw [if_neg (by rw [decide_eq_true_iff];omega)]
  exact ⟨_,rfl,hc⟩)
 rw [h1,ya]
 exact ⟨_,rfl,by simp [h2]⟩
theorem chal_tot (r p:UInt64) {m:List UInt8} (hm:m.length=32):∃k,YX fuel r p m=some k:=by
 unfold YX
 obtain ⟨a,a1,a2⟩:=seight_tot r
 obtain ⟨b,b1,b2⟩:=seight_tot p
 obtain ⟨c,c1,c2⟩:=ZbF (s:=ZCl) (ls:=[a,b,m]) (by decide) (by simp) (by
  intro l hl
  simp only [List.mem_cons,List.not_mem_nil,or_false] at hl
  rcases hl with rfl|rfl|rfl <;> omega)
 obtain ⟨k,k1,k2⟩:=ZbE c2
 rw [a1,ya,b1,ya,c1,ya,k1,ya]
 exact ⟨_,rfl⟩
theorem tk1:tk 1=1:=ZaN Zm9
theorem sc_one (n:Nat):sc 1 n=1:=by
 rw [←yaw,Zlj,tk1,show (1:UInt64).toNat=1 from rfl,Nat.one_pow]
 rfl
theorem ad_one (p:UInt64) (h:WT p.toNat):ad p 1=p:=by
 rw [←yaw,ZpQ,ZaN h,tk1]
 show p.toNat*1 % mdl=_
 rw [Nat.mul_one,yac h.2.1]
theorem skey_is (k:UInt64):ZaM fuel k=some (decide (Key k)):=by
 unfold ZaM
 rw [fright_is,ya]
 by_cases h:k.toNat < ord
 ·rw [if_pos (decide_eq_true h)]
  congr 1
  by_cases h0:k=0
  ·subst h0
   rw [decide_eq_false (by unfold Key;exact fun h=>absurd h.1 (by decide))]
   rfl
  ·have:0 < k.toNat:=by
    rcases Nat.eq_zero_or_pos k.toNat with h1|h1
    ·exact absurd (yaw.1 h1) h0
    ·exact h1
   rw [decide_eq_true (p:=Key k) ⟨this,h⟩]
   exact bne_iff_ne.2 h0
 ·rw [if_neg (by rw [decide_eq_true_iff];exact h),decide_eq_false (fun hk=>h hk.2)]
theorem sign_ok {k:UInt64} (hk:Key k) {m:List UInt8} (hm:m.length=32):∃s,Y3 fuel k m=some s∧ZN fuel (B k.toNat) m s=some true:=by
 obtain ⟨a,a1,a2⟩:=seight_tot k
 obtain ⟨c,c1,c2⟩:=ZbF (s:=ZCm) (ls:=[a,m]) (by decide) (by simp) (by
  intro l hl
  simp only [List.mem_cons,List.not_mem_nil,or_false] at hl
  rcases hl with rfl|rfl <;> omega)
 obtain ⟨n,n1,n2⟩:=ZbE c2
 obtain ⟨x,x1⟩:=chal_tot (B n.toNat) (B k.toNat) hm
 refine ⟨(B n.toNat,yv ((n.toNat+(yv (x.toNat*k.toNat % ord)).toNat) % ord)), ?_, ?_⟩
 ·unfold Y3
  rw [skey_is,ya,decide_eq_true hk,if_neg (by decide),a1,ya,c1,ya,n1,ya]
  unfold Zbz
  rw [Xz,ya,ZtU,ad_one _ (Q5 _),ya,Xz,ya,x1,ya,fmul_is,ya,fadd_is,ya]
  rfl
 ·unfold ZN Xy
  have hr:YW fuel (yv ((n.toNat+(yv (x.toNat*k.toNat % ord)).toNat) % ord))=some true:=by
   rw [fright_is,of_ord,decide_eq_true ord_lt]
  dsimp only
  rw [if_neg (by rw [beq_iff_eq];exact ZvO hk),Yc,decide_eq_true (Q5 _),ya,if_neg (by decide),Yc,decide_eq_true (show WT (1:UInt64).toNat from Zm9),ya,if_neg (by decide),Yc,decide_eq_true (Q5 _),ya,if_neg (by decide),hr,ya,if_neg (by decide),x1,ya,ZbD,ya,neg_is,ya,ZnB (by simp),ya,Xz,ya,ya]
  refine congrArg some ?_
  rw [beq_iff_eq,B_ord,of_ord,sc_B, ←yaw,Vd]
  have e1:(tk (sc 1 (ord - 1))).toNat=1:=by
   rw [sc_one,tk1]
   rfl
  unfold ZeA ZeA ZeA ZeA
  rw [ZnA (ZgW _),ZaN (Q5 _),ZaN (Q5 _),e1,Nat.one_mul,Nat.mul_one,Vd,Vd,Nat.mod_mod,Nat.mod_mod, ←Nat.mul_mod, ←Nat.pow_add]
  rw [Nat.mul_comm k.toNat, ←Vd, ←Vd, ←B_mod,Nat.add_mod_mod,B_mod]
theorem sign_tot (k:UInt64) {m:List UInt8} (hm:m.length=32):∃s,Y3 fuel k m=some s:=by
 by_cases hk:Key k
 ·obtain ⟨s,h1,_⟩:=sign_ok hk hm
  exact ⟨s,h1⟩
 ·unfold Y3
  rw [skey_is,ya,decide_eq_false hk,if_pos (by decide)]
  exact ⟨_,rfl⟩
theorem ite_some {α:Type} {c:Prop} [Decidable c] {a b:Option α} (h1:∃x,a=some x) (h2:∃x,b=some x):∃x,(if c then a else b)=some x:=by
 split
 ·exact h1
 ·exact h2
theorem verify_tot (p:UInt64) {m:List UInt8} (hm:m.length=32) (s:Sig):∃b,ZN fuel p m s=some b:=by
 obtain ⟨x,x1⟩:=chal_tot s.1 p hm
 have h:∃b,Xy fuel p m 1 s=some b:=by
  unfold Xy
  rw [Yc,Yc,Yc,fright_is,ya,ya,ya,ya,x1,ya,ZbD,ya,neg_is,ya,ZnB (by simp),ya,Xz,ya]
  exact ite_some ⟨_,rfl⟩ (ite_some ⟨_,rfl⟩ (ite_some ⟨_,rfl⟩ (ite_some ⟨_,rfl⟩ (ite_some ⟨_,rfl⟩ ⟨_,rfl⟩))))
 obtain ⟨b,hb⟩:=h
 unfold ZN
 rw [hb,ya]
 exact ⟨_,rfl⟩
theorem open_loop {ks:List UInt64} {l:XP} {w:Zan} {m:List UInt8} {b:YI} (hn:ks.length≤100) (hw:w.2.1.length=ks.length) (hm:m.length=32):
 ∃x,Zd (ZS fuel) fuel (ks,(ks.length:Int),(0:Int),l,w,m,b)=some x∧((∀(i:Nat) p s,ks[i]? =some p→w.2.1[i]? =some s→ZN fuel p m s=some true)→x=.inr (l,w,m,b)):=by
 refine Z4 (step:=ZS fuel) ks.length (fun k q=>q=(ks,(ks.length:Int),(k:Int),l,w,m,b)) _ (i:=(ks,(ks.length:Int),(0:Int),l,w,m,b)) rfl (by omega) ?_ ?_
 ·rintro k _ hk rfl
  obtain ⟨p,hp,_⟩:=Zj hk
  obtain ⟨s,hs,_⟩:=Zj (l:=w.2.1) (k:=k) (by omega)
  obtain ⟨v,hv⟩:=verify_tot p hm s
  unfold ZS
  dsimp only
  rw [if_pos (ZY hk),Zr hp,ya,Zr hs,ya,hv,ya,Zu (by omega)]
  cases v with
  |true=>left;exact ⟨_,rfl,rfl⟩
  |false=>
   right
   refine ⟨_,rfl,fun h=> ?_⟩
   have:=h k p s hp hs
   rw [hv] at this
   cases this
 ·rintro _ rfl
  unfold ZS
  dsimp only
  rw [if_neg (by rw [ZQ];decide)]
  exact ⟨_,rfl,fun _=>rfl⟩
theorem opens_is {l:XP} (hl:Vc l∧V1 l) {br:Nat} {p x:UInt64} {af dl:Int} (hb:l[br]? =some ([p],af,dl,x)) (key sec:UInt64) {m:List UInt8} (hm:m.length=32) (h a:Int):
 ∃z,corsnedlaw21_opensM fuel l (br:Int) key sec m h a=some z∧(Key key→p=B key.toNat→(x=0∨x=B sec.toNat)→z=if h < af∨a < dl then 11 else 0):=by
 have hbl:br < l.length:=(yl.1 hb).1
 obtain ⟨s,hs⟩:=sign_tot key hm
 obtain ⟨q,q1,q2⟩:=open_loop (ks:=[p]) (l:=l) (w:=((br:Int),([s]:List Sig),sec)) (m:=m) (b:=([p],af,dl,x)) (by simp) (by simp) hm
 have h4:=hl.1.2.1
 have hv:Key key→p=B key.toNat→q=.inr (l,((br:Int),([s]:List Sig),sec),m,([p],af,dl,x)):=by
  intro hk hp
  refine q2 ?_
  intro i p' s' h1 h2
  obtain ⟨s2,e1,e2⟩:=sign_ok hk hm
  rw [hs] at e1
  cases e1
  match i,h1,h2 with
  |0,h1,h2=>
   cases h1
   cases h2
   rw [hp]
   exact e2
  |i+1,h1,h2=>simp at h1
 unfold corsnedlaw21_opensM QL
 rw [hs,ya,QM hl.1 hl.2,ya,if_neg (by decide)]
 dsimp only
 rw [if_neg (by rw [decide_eq_true_iff];omega),if_neg (by rw [decide_eq_true_iff];omega),Zr hb,ya]
 dsimp only
 by_cases h1:h < af
 ·rw [if_pos (decide_eq_true h1),ya]
  exact ⟨_,rfl,fun _ _ _=>by rw [if_pos (.inl h1)]⟩
 rw [if_neg (by rw [decide_eq_true_iff];exact h1)]
 by_cases h2:a < dl
 ·rw [if_pos (decide_eq_true h2),ya]
  exact ⟨_,rfl,fun _ _ _=>by rw [if_pos (.inr h2)]⟩
 rw [if_neg (by rw [decide_eq_true_iff];exact h2)]
 have hno:¬(h < af∨a < dl):=by omega
 have q1':Zd (ZS fuel) fuel ([p],(([p]:List UInt64).length:Int),(0:Int),l,((br:Int),([s]:List Sig),sec),m,([p],af,dl,x))=some q:=q1
 by_cases h3:x=0
 ·rw [if_neg (by simp [h3]),if_neg (by simp),q1',ya]
  cases q with
  |inl y=>exact ⟨_,rfl,fun hk hp _=>by have:=hv hk hp;cases this⟩
  |inr y=>exact ⟨_,rfl,fun _ _ _=>by rw [if_neg hno]⟩
 ·rw [if_pos (bne_iff_ne.2 h3),Xz,ya]
  by_cases h5:B sec.toNat=x
  ·rw [if_neg (by simp [h5]),if_neg (by simp),q1',ya]
   cases q with
   |inl y=>exact ⟨_,rfl,fun hk hp _=>by have:=hv hk hp;cases this⟩
   |inr y=>exact ⟨_,rfl,fun _ _ _=>by rw [if_neg hno]⟩
  ·rw [if_pos (bne_iff_ne.2 h5),ya]
   exact ⟨_,rfl,fun _ _ h6=>by
    rcases h6 with h6|h6
    ·exact absurd h6 h3
    ·exact absurd h6.symm h5⟩
end Go.Proofs.YtjbbdlffilcaaaaGreat
end
section
set_option maxRecDepth 4000
namespace Go.Proofs.YtjbbdlffilcaaaaGreat
open Go Go.Ev
section
variable {p:Corsnedlaw21Play} {A:Int} {k0 k1:Kit} {op own:Int} {s:State} {h0 h1:Int} {per:UInt64} {m:List (Out×Role)}
theorem Cm.good (c:Cm p A k0 k1 op own s h0 h1 per m):∀x,x∈m→Good x∧0≤x.1.1∧x.1.1≤4300000000:=by
 have:=c.ch.hi
 refine c.mem (fun a ha hA=>⟨.inl ⟨.inl rfl,ha⟩,by dsimp only;omega,by dsimp only;omega⟩) (fun b hb hA=>⟨.inl ⟨.inr rfl,hb⟩,by dsimp only;omega,by dsimp only;omega⟩) ⟨.inr (.inl ⟨.inl rfl,rfl⟩),show (0:Int)≤330 by decide,show (330:Int)≤4300000000 by decide⟩ ⟨.inr (.inl ⟨.inr rfl,rfl⟩),show (0:Int)≤330 by decide,show (330:Int)≤4300000000 by decide⟩ ?_
 intro x hx hc h100
 refine ⟨.inr (.inr ⟨?_,h100⟩), ?_, ?_⟩
 ·show (if x.1=own then (5:Int) else 6)=5∨(if x.1=own then (5:Int) else 6)=6
  split
  ·exact .inl rfl
  ·exact .inr rfl
 ·show 0≤x.2.2.1
  omega
 ·show x.2.2.1≤_
  have:=hc.2.2.2.2.1
  omega
theorem Cm.txok (c:Cm p A k0 k1 op own s h0 h1 per m):TxOk (([((z32,0),(0,[],0))]:List In),m.map (·.1),2*s.1+own)∧TxWf (([((z32,0),(0,[],0))]:List In),m.map (·.1),2*s.1+own)∧amts (m.map (·.1))≤1125899906842624:=by
 have h1:=c.good
 have h2:=c.lk
 have h3:=c.len
 have n0:=c.st.n0
 have n1:=c.st.n1
 have ho:=c.o
 refine ⟨⟨by simp,by simp,by simp;omega,by dsimp only;omega, ?_, ?_⟩,⟨?_,by dsimp only;omega⟩, ?_⟩
 ·intro x hx
  rw [yae.1 hx]
  exact ⟨by decide,by decide,by decide,by decide,by simp⟩
 ·intro o ho
  obtain ⟨x,hx,rfl⟩:=List.mem_map.1 ho
  exact ⟨(h1 x hx).2.1,by have:=(h1 x hx).2.2;omega,(h2 x hx).1,(h2 x hx).2⟩
 ·intro x hx
  rw [yae.1 hx]
  rfl
 ·have e:amts (m.map (·.1))=tot (fun x:Out×Role=>x.1.1) m:=by
   unfold amts tot
   rw [List.map_map]
   rfl
  rw [e]
  have:=(ZnE (f:=fun x:Out×Role=>x.1.1) (c:=4300000000) fun x hx=>(h1 x hx).2).2
  omega
end
end Go.Proofs.YtjbbdlffilcaaaaGreat
end
section
set_option maxRecDepth 4000
namespace Go.Proofs.YtjbbdlffilcaaaaGreat
open Go Go.Ev
noncomputable section
def Yh (F:Nat) (s:(Int×Int×Bool×Int×Int×UInt64×UInt64×Int×Corsnedlaw21Play×ZO×(List Kit)×State×ZZ×(List UInt8))):Option ((Int×Int×Bool×Int×Int×UInt64×UInt64×Int×Corsnedlaw21Play×ZO×(List Kit)×State×ZZ×(List UInt8))⊕((Bool×Corsnedlaw21Play×ZO×(List Kit)×State×ZZ×(List UInt8))⊕(Bool×Corsnedlaw21Play×ZO×(List Kit)×State×ZZ×(List UInt8)))):=
 let k2:Option ((Int×Int×Bool×Int×Int×UInt64×UInt64×Int×Corsnedlaw21Play×ZO×(List Kit)×State×ZZ×(List UInt8))⊕((Bool×Corsnedlaw21Play×ZO×(List Kit)×State×ZZ×(List UInt8))⊕(Bool×Corsnedlaw21Play×ZO×(List Kit)×State×ZZ×(List UInt8)))):=
  some (.inl (s.1,s.2.1,s.2.2.1,s.2.2.2.1,s.2.2.2.2.1,s.2.2.2.2.2.1,s.2.2.2.2.2.2.1,wi (s.2.2.2.2.2.2.2.1+1),s.2.2.2.2.2.2.2.2.1,s.2.2.2.2.2.2.2.2.2.1,s.2.2.2.2.2.2.2.2.2.2.1,s.2.2.2.2.2.2.2.2.2.2.2.1,s.2.2.2.2.2.2.2.2.2.2.2.2.1,s.2.2.2.2.2.2.2.2.2.2.2.2.2))
 let k1:Option ((Int×Int×Bool×Int×Int×UInt64×UInt64×Int×Corsnedlaw21Play×ZO×(List Kit)×State×ZZ×(List UInt8))⊕((Bool×Corsnedlaw21Play×ZO×(List Kit)×State×ZZ×(List UInt8))⊕(Bool×Corsnedlaw21Play×ZO×(List Kit)×State×ZZ×(List UInt8)))):=
  some (.inr (.inl (false,s.2.2.2.2.2.2.2.2.1,s.2.2.2.2.2.2.2.2.2.1,s.2.2.2.2.2.2.2.2.2.2.1,s.2.2.2.2.2.2.2.2.2.2.2.1,s.2.2.2.2.2.2.2.2.2.2.2.2.1,s.2.2.2.2.2.2.2.2.2.2.2.2.2)))
 let y1042:Bool:=decide (s.2.2.2.2.2.2.2.1 < (s.2.2.2.2.2.2.2.2.2.2.2.2.1.2.length:Int))
 if y1042=true then
  (idx s.2.2.2.2.2.2.2.2.2.2.2.2.1.1.2.1 s.2.2.2.2.2.2.2.1).bind fun e1043=>
  let k0:Option ((Int×Int×Bool×Int×Int×UInt64×UInt64×Int×Corsnedlaw21Play×ZO×(List Kit)×State×ZZ×(List UInt8))⊕((Bool×Corsnedlaw21Play×ZO×(List Kit)×State×ZZ×(List UInt8))⊕(Bool×Corsnedlaw21Play×ZO×(List Kit)×State×ZZ×(List UInt8)))):=
   (idx s.2.2.2.2.2.2.2.2.2.2.2.2.1.2 s.2.2.2.2.2.2.2.1).bind fun e1047=>
   if (e1047.1==1)=true then
    if (s.2.2.2.2.2.2.1 !=0)=true then
     (corsnedlaw21_opensM F e1043.2 (1:Int) s.2.2.2.2.2.2.1 (0:UInt64) s.2.2.2.2.2.2.2.2.2.2.2.2.2 (wi s.1) (wi s.2.1)).bind fun o1048=>
     if (inB s.2.2.2.2.1 2)=true then
      (s.2.2.2.2.2.2.2.2.2.1.2.2.2.1[s.2.2.2.2.1.toNat]?).bind fun e1049=>
      let y1050:Bool:= !((o1048==0)==(decide ((wi s.2.1) ≥ e1049.2.2.1)))
      if y1050=true then
       k1
      else
      if (o1048 !=0)=true then
       if (o1048 !=11)=true then
        k1
       else
       k2
      else
      k2
     else
     none
    else
    k2
   else
   k2
  if (inB s.2.2.2.1 2)=true then
   (s.2.2.2.2.2.2.2.2.2.2.1[s.2.2.2.1.toNat]?).bind fun e1044=>
   (idx s.2.2.2.2.2.2.2.2.2.2.2.2.1.2 s.2.2.2.2.2.2.2.1).bind fun e1045=>
   if (e1045.1==1)=true then
    if (s.2.2.2.2.2.1 !=0)=true then
     (corsnedlaw21_opensM F e1043.2 (0:Int) s.2.2.2.2.2.1 (0:UInt64) s.2.2.2.2.2.2.2.2.2.2.2.2.2 (wi s.1) (wi s.2.1)).bind fun o1046=>
     if (o1046 !=0)=true then
      k1
     else
     k0
    else
    k0
   else
   if (e1045.1==5)=true then
    if (s.2.2.2.2.2.1 !=0)=true then
     (corsnedlaw21_opensM F e1043.2 (0:Int) s.2.2.2.2.2.1 (0:UInt64) s.2.2.2.2.2.2.2.2.2.2.2.2.2 (wi s.1) (wi s.2.1)).bind fun o1055=>
     if (o1055 !=0)=true then
      k1
     else
     k0
    else
    k0
   else
   if (e1045.1==6)=true then
    if (s.2.2.2.2.2.1 !=0)=true then
     (corsnedlaw21_opensM F e1043.2 (0:Int) s.2.2.2.2.2.1 (0:UInt64) s.2.2.2.2.2.2.2.2.2.2.2.2.2 (wi s.1) (wi s.2.1)).bind fun o1064=>
     if (o1064 !=0)=true then
      k1
     else
     k0
    else
    k0
   else
   if (e1045.1==2)=true then
    if (inB s.2.2.2.2.1 2)=true then
     (s.2.2.2.2.2.2.2.2.2.2.1[s.2.2.2.2.1.toNat]?).bind fun e1073=>
     if (e1073.2.1 !=0)=true then
      (corsnedlaw21_opensM F e1043.2 (0:Int) e1073.2.1 (0:UInt64) s.2.2.2.2.2.2.2.2.2.2.2.2.2 (wi s.1) (wi s.2.1)).bind fun o1074=>
      if (o1074 !=0)=true then
       k1
      else
      k0
     else
     k0
    else
    none
   else
   if (e1045.1==4)=true then
    if (inB s.2.2.2.2.1 2)=true then
     (s.2.2.2.2.2.2.2.2.2.2.1[s.2.2.2.2.1.toNat]?).bind fun e1083=>
     if (e1083.1 !=0)=true then
      (corsnedlaw21_opensM F e1043.2 (0:Int) e1083.1 (0:UInt64) s.2.2.2.2.2.2.2.2.2.2.2.2.2 (wi s.1) (wi s.2.1)).bind fun o1084=>
      if (o1084 !=0)=true then
       k1
      else
      k0
     else
     k0
    else
    none
   else
   if (e1044.1 !=0)=true then
    (corsnedlaw21_opensM F e1043.2 (0:Int) e1044.1 (0:UInt64) s.2.2.2.2.2.2.2.2.2.2.2.2.2 (wi s.1) (wi s.2.1)).bind fun o1093=>
    if (o1093 !=0)=true then
     k1
    else
    k0
   else
   k0
  else
  none
 else
 some (.inr (.inr (s.2.2.1,s.2.2.2.2.2.2.2.2.1,s.2.2.2.2.2.2.2.2.2.1,s.2.2.2.2.2.2.2.2.2.2.1,s.2.2.2.2.2.2.2.2.2.2.2.1,s.2.2.2.2.2.2.2.2.2.2.2.2.1,s.2.2.2.2.2.2.2.2.2.2.2.2.2)))
def Qh:Lp:=⟨[(2,.v (.int .u16)),(3,.v (.int .u16)),(9,.v .bool),(10,.ref 1 []),(11,.ref 2 []),(13,.v (.int .i64)),(14,.v (.int .i64)),(16,.ref 4 []),(18,.ref 5 []),(19,.v .u64),(20,.v .u64),(21,.v (.int .i64))],[.var (.v Zb) true,.var (.v Zq) true,.var (.v (.arr 2 XE)) true,.var (.v Ze) true,.var (.v Zy) true,.var (.v (.arr 32 .u8)) true],[(.int .u16),(.int .u16),.bool,(.int .i64),(.int .i64),.u64,.u64,(.int .i64),Zb,Zq,(.arr 2 XE),Ze,Zy,(.arr 32 .u8)],[⟨.ret,[(8,.v .bool)],[.var (.v Zb) true,.var (.v Zq) true,.var (.v (.arr 2 XE)) true,.var (.v Ze) true,.var (.v Zy) true,.var (.v (.arr 32 .u8)) true],[.bool,Zb,Zq,(.arr 2 XE),Ze,Zy,(.arr 32 .u8)]⟩,⟨.exit 0,[(9,.v .bool)],[.var (.v Zb) true,.var (.v Zq) true,.var (.v (.arr 2 XE)) true,.var (.v Ze) true,.var (.v Zy) true,.var (.v (.arr 32 .u8)) true],[.bool,Zb,Zq,(.arr 2 XE),Ze,Zy,(.arr 32 .u8)]⟩],Zd (Yh fuel) fuel⟩
theorem Zcw:Qh.Ok yb (Zp yb 8) (Zo yb 8 0):=Zk (fi:={ hi:={ still:=[8,27,38,41,42,43,44,51,56,58,63,64,110,111,112,114,116,131,132,133,135,137]},lp:=[]}) (specs:={ l:=[corsnedlaw21_opens_s]}) (okS ⟨corsnedlaw21_opens_ok,trivial⟩) trivial (by kernel_rfl) (fun v=>by kernel_rfl)
end
end Go.Proofs.YtjbbdlffilcaaaaGreat
end
section
set_option maxRecDepth 4000
namespace Go.Proofs.YtjbbdlffilcaaaaGreat
open Go Go.Ev
noncomputable section
def YF (F:Nat) (a0:Corsnedlaw21Play) (a1:UInt8) (a2:Int) (a3:Int):Option (Bool):=
 ((some true)).bind fun o1033=>
 (Yf F a0).bind fun o1034=>
 (YM F a0.2.2.2.2.2.2.2).bind fun o1035=>
 (commit_MakeM F o1034.1 o1034.2.2 ((a1 % 2).toNat:Int) o1035).bind fun o1036=>
 if (o1036.2 !=0)=true then
  some false
 else
 (QJ F o1036.1.1).bind fun o1037=>
 if (inB (wi (1 - ((a1 % 2).toNat:Int))) 2)=true then
  (o1034.2.1[(wi (1 - ((a1 % 2).toNat:Int))).toNat]?).bind fun e1038=>
  (VO F e1038.2.2.2.2.1 a0.2.2.2.2.2.2.2).bind fun o1039=>
  if (inB ((a1 % 2).toNat:Int) 2)=true then
   (o1034.2.1[((a1 % 2).toNat:Int).toNat]?).bind fun e1040=>
   (keys_MixSecretM F e1040.2.2.1 o1035).bind fun o1041=>
   (Zd (Yh F) F (a2,a3,o1033,((a1 % 2).toNat:Int),wi (1 - ((a1 % 2).toNat:Int)),o1039,o1041,(0:Int),a0,o1034.1,o1034.2.1,o1034.2.2,o1036.1,o1037)).bind fun o1102=>
   match o1102 with
   |.inl o1103=>
    some o1103.1
   |.inr o1104=>
    some o1104.1
  else
  none
 else
 none
def ZeF (F:Nat):Fs yb:=⟨8,[.v Zb,.v .u8,.v (.int .u16),.v (.int .u16)],[],[Zb,.u8,(.int .u16),(.int .u16)],[⟨.ret,[(0,.v .bool)],[],[.bool]⟩],fun x=>YF F x.1 x.2.1 x.2.2.1 x.2.2.2⟩
def Zgb:Fs yb:=ZeF fuel
theorem ZeG:Zgb.Ok:=Zg (fi:={ hi:={ still:=[8,27,38,41,42,43,44,51,56,58,63,64,110,111,112,114,116,131,132,133,135,137]},lp:=[(0,Qh)]}) (specs:={ l:=[ZvW,XD,Q2,Va,ZlN,Zd8,keys_MixSecret_s]}) (okS ⟨Zt1,Xc,VY,WB,Zh5,Zlo,keys_MixSecret_ok,trivial⟩) ⟨Zcw,trivial⟩ (by decide+kernel) (fun x=>by kernel_rfl)
end
end Go.Proofs.YtjbbdlffilcaaaaGreat
end
section
set_option maxRecDepth 4000
namespace Go.Proofs.YtjbbdlffilcaaaaGreat
open Go Go.Ev
theorem key_of {k:UInt64} (h:k.toNat < ord) (h0:k≠0):Key k:=by
 refine ⟨?_,h⟩
 rcases Nat.eq_zero_or_pos k.toNat with h1|h1
 ·exact absurd (yaw.1 h1) h0
 ·exact h1
def Tk (rv late ko kpP kpF:UInt64) (w h a:Int) (id:List UInt8) (x:Out×Role):Prop:=
 (x.2.1=1∧(rv≠0→corsnedlaw21_opensM fuel x.1.2 0 rv 0 id h a=some 0)∧(late≠0→corsnedlaw21_opensM fuel x.1.2 1 late 0 id h a=some (if a < w then 11 else 0)))∨
 ((x.2.1=5∨x.2.1=6)∧(rv≠0→corsnedlaw21_opensM fuel x.1.2 0 rv 0 id h a=some 0))∨
 (x.2.1=2∧corsnedlaw21_opensM fuel x.1.2 0 kpP 0 id h a=some 0)∨
 (x.2.1=3∧corsnedlaw21_opensM fuel x.1.2 0 ko 0 id h a=some 0)∨
 (x.2.1=4∧corsnedlaw21_opensM fuel x.1.2 0 kpF 0 id h a=some 0)
theorem ZBg {P:Corsnedlaw21Play} {c:ZO} {ks:List Kit} {s:State} {own w h a:Int} {O K:Kit} {rv late:UInt64} {id:List UInt8} {x:Out×Role} (hx:Tk rv late O.1 K.2.1 K.1 w h a id x) {outs:List Out} {ins:List In} {note:Int} {ros:List Role} {k:Nat} (hown:own=0∨own=1)
 (hO:ks[own.toNat]? =some O) (hK:ks[(1 - own).toNat]? =some K) (ht:c.2.2.2.1[(1 - own).toNat]? =some (Tm w)) (h1:outs[k]? =some x.1) (h2:ros[k]? =some x.2) (hh:wi h=h) (ha:wi a=a):
 Yh fuel (h,a,true,own,1 - own,rv,late,(k:Int),P,c,ks,s,((ins,outs,note),ros),id)=some (.inl (h,a,true,own,1 - own,rv,late,wi ((k:Int)+1),P,c,ks,s,((ins,outs,note),ros),id)):=by
 have hk:k < ros.length:=(yl.1 h2).1
 have p1:inB own 2=true:=YC hown
 have p2:inB (1 - own) 2=true:=YC (by omega)
 have hT:(Tm w).2.2.1=w:=rfl
 obtain ⟨⟨n,lk⟩,ro,cd⟩:=x
 unfold Yh
 dsimp only at h1 h2 hx ⊢
 unfold Tk at hx
 dsimp only at hx
 rw [if_pos (ZY hk),Zr h1,Zr h2,hO,hh,ha]
 simp only [ya,p1,p2,if_true]
 rcases hx with ⟨rfl,q1,q2⟩|⟨rfl|rfl,q1⟩|⟨rfl,q1⟩|⟨rfl,q1⟩|⟨rfl,q1⟩
 ·simp only [show ((1:Int)==1)=true from rfl,show ((1:Int)==2)=false from rfl,show ((1:Int)==4)=false from rfl,show ((1:Int)==5)=false from rfl,show ((1:Int)==6)=false from rfl,if_true,ycr,if_false]
  have fin:(if (late !=0)=true then (corsnedlaw21_opensM fuel lk 1 late 0 id h a).bind fun o=>(c.2.2.2.1[(1 - own).toNat]?).bind fun e=>if (!((o==0)==(decide (a ≥ e.2.2.1))))=true then some (.inr (.inl (false,P,c,ks,s,((ins,outs,note),ros),id))) else if (o !=0)=true then (if (o !=11)=true then some (.inr (.inl (false,P,c,ks,s,((ins,outs,note),ros),id))) else some (.inl (h,a,true,own,1 - own,rv,late,wi ((k:Int)+1),P,c,ks,s,((ins,outs,note),ros),id))) else some (.inl (h,a,true,own,1 - own,rv,late,wi ((k:Int)+1),P,c,ks,s,((ins,outs,note),ros),id)) else some (.inl (h,a,true,own,1 - own,rv,late,wi ((k:Int)+1),P,c,ks,s,((ins,outs,note),ros),id)))=some (.inl (h,a,true,own,1 - own,rv,late,wi ((k:Int)+1),P,c,ks,s,((ins,outs,note),ros),id):(Int×Int×Bool×Int×Int×UInt64×UInt64×Int×Corsnedlaw21Play×ZO×(List Kit)×State×ZZ×(List UInt8))⊕((Bool×Corsnedlaw21Play×ZO×(List Kit)×State×ZZ×(List UInt8))⊕(Bool×Corsnedlaw21Play×ZO×(List Kit)×State×ZZ×(List UInt8)))):=by
   by_cases hl:late=0
   ·rw [if_neg (by simp [hl])]
   ·rw [if_pos (bne_iff_ne.2 hl),q2 hl,ya,ht,ya,hT]
    by_cases haw:a < w
    ·rw [if_pos haw,decide_eq_false (show ¬a ≥ w by omega),if_neg (by decide),if_pos (by decide),if_neg (by decide)]
    ·rw [if_neg haw,decide_eq_true (show a ≥ w by omega),if_neg (by decide),if_neg (by decide)]
  by_cases hr:rv=0
  ·rw [if_neg (by simp [hr])]
   exact fin
  ·rw [if_pos (bne_iff_ne.2 hr),q1 hr,ya,if_neg (by decide)]
   exact fin
 ·simp only [show ((5:Int)==1)=false from rfl,show ((5:Int)==2)=false from rfl,show ((5:Int)==4)=false from rfl,show ((5:Int)==5)=true from rfl,show ((5:Int)==6)=false from rfl,if_true,ycr,if_false]
  by_cases hr:rv=0
  ·rw [if_neg (by simp [hr])]
  ·rw [if_pos (bne_iff_ne.2 hr),q1 hr,ya,if_neg (by decide)]
 ·simp only [show ((6:Int)==1)=false from rfl,show ((6:Int)==2)=false from rfl,show ((6:Int)==4)=false from rfl,show ((6:Int)==5)=false from rfl,show ((6:Int)==6)=true from rfl,if_true,ycr,if_false]
  by_cases hr:rv=0
  ·rw [if_neg (by simp [hr])]
  ·rw [if_pos (bne_iff_ne.2 hr),q1 hr,ya,if_neg (by decide)]
 ·simp only [show ((2:Int)==1)=false from rfl,show ((2:Int)==2)=true from rfl,show ((2:Int)==4)=false from rfl,show ((2:Int)==5)=false from rfl,show ((2:Int)==6)=false from rfl,if_true,ycr,if_false]
  rw [hK,ya]
  by_cases hr:K.2.1=0
  ·rw [if_neg (by simp [hr])]
  ·rw [if_pos (bne_iff_ne.2 hr),q1,ya,if_neg (by decide)]
 ·simp only [show ((3:Int)==1)=false from rfl,show ((3:Int)==2)=false from rfl,show ((3:Int)==4)=false from rfl,show ((3:Int)==5)=false from rfl,show ((3:Int)==6)=false from rfl,if_true,ycr,if_false]
  by_cases hr:O.1=0
  ·rw [if_neg (by simp [hr])]
  ·rw [if_pos (bne_iff_ne.2 hr),q1,ya,if_neg (by decide)]
 ·simp only [show ((4:Int)==1)=false from rfl,show ((4:Int)==2)=false from rfl,show ((4:Int)==4)=true from rfl,show ((4:Int)==5)=false from rfl,show ((4:Int)==6)=false from rfl,if_true,ycr,if_false]
  rw [hK,ya]
  by_cases hr:K.1=0
  ·rw [if_neg (by simp [hr])]
  ·rw [if_pos (bne_iff_ne.2 hr),q1,ya,if_neg (by decide)]
theorem kit_get {own:Int} {k0 k1:Kit} (h:own=0∨own=1):([k0,k1]:List Kit)[own.toNat]? =some (kO k0 k1 own)∧([k0,k1]:List Kit)[(1 - own).toNat]? =some (kP k0 k1 own)∧([Tm 5,Tm 6]:List Vs)[(1 - own).toNat]? =some (Tm (wt own)):=by
 rcases h with rfl|rfl <;> exact ⟨rfl,rfl,rfl⟩
theorem ZJ4 {own:Int} {k0 k1:Kit} (h0:KitOk k0) (h1:KitOk k1):KitOk (kO k0 k1 own):=by
 unfold kO
 split <;> assumption
theorem ZJ5 {own:Int} {k0 k1:Kit} (h0:KitOk k0) (h1:KitOk k1):KitOk (kP k0 k1 own):=by
 unfold kP
 split <;> assumption
theorem op_is {l:XP} (hl:Vc l∧V1 l) {br:Nat} {p x:UInt64} {af dl:Int} (hb:l[br]? =some ([p],af,dl,x)) {key sec:UInt64} {m:List UInt8} (hm:m.length=32) (h a:Int) (hk:Key key) (hp:p=B key.toNat) (hx:x=0∨x=B sec.toNat):corsnedlaw21_opensM fuel l (br:Int) key sec m h a=some (if h < af∨a < dl then 11 else 0):=by
 obtain ⟨z,h1,h2⟩:=opens_is hl hb key sec hm h a
 rw [h1,h2 hk hp hx]
theorem ZDR {p:Corsnedlaw21Play} (hp:PlayOk p) (sd:UInt8) {h a:Int} (hh0:0≤h) (hh1:h≤65535) (ha0:0≤a) (ha1:a≤65535):YF fuel p sd h a=some true:=by
 obtain ⟨A,k0,k1,op,s,h0,h1,e1,e2,e3,e4⟩:=ZoT hp
 obtain ⟨f,f1,f2,f3⟩:=perOf_is hp.per
 have hper:=hp.per
 have hown:=ZtZ sd
 unfold YF
 rw [ya,e1,ya,f3,ya]
 dsimp only
 generalize (((sd % 2).toNat:Nat):Int)=own at hown
 obtain ⟨m,cm⟩:=e4 own _ hown (Q5 f.toNat)
 obtain ⟨t1,t2,t3⟩:=cm.txok
 obtain ⟨i1,i2⟩:=tx_id t2 t1 t3
 have hw:=ZCz own
 obtain ⟨g1,g2,g3⟩:=kit_get (k0:=k0) (k1:=k1) hown
 have oO:=ZJ4 (own:=own) e2.k0 e2.k1
 have oP:=ZJ5 (own:=own) e2.k0 e2.k1
 have hT:(chan A k0 k1 op).2.2.2.1=[Tm 5,Tm 6]:=rfl
 rw [cm.mkd,ya,if_neg (by simp)]
 dsimp only
 rw [i1,ya,Zv (z:=1 - own) (by omega) (by omega),if_pos (YC (by omega)),g2,ya]
 obtain ⟨rv,r1,r2,r3⟩:=Zq8 (kP k0 k1 own).2.2.2.2.1 hper f1
 obtain ⟨late,l1,l2,l3⟩:=mixSecret_is (kO k0 k1 own).2.2.1 (B f.toNat)
 rw [r1,ya,if_pos (YC hown),g1,ya,l1,ya]
 generalize hid:named (plainF (([((z32,0),(0,[],0))]:List In),m.map (fun x:Out×Role=>x.1),2*s.1+own))=id at*
 have now:∀z:Int,z=0→some (if h < 0∨a < z then (11:Int) else 0)=some 0:=fun z hz=>by
  rw [if_neg]
  omega
 have lk:=cm.lk
 have all:∀x,x∈m→Tk rv late (kO k0 k1 own).1 (kP k0 k1 own).2.1 (kP k0 k1 own).1 (wt own) h a id x:=by
  refine cm.mem ?_ ?_ ?_ ?_ ?_
  ·intro n _ _
   refine .inl ⟨rfl,fun hr=> ?_,fun hl=> ?_⟩
   ·refine (op_is (l:=ZgZ (kO k0 k1 own) (kP k0 k1 own) (wt own) (B f.toNat)) (Zrt _ _ (by omega) (by omega) _) (br:=0) rfl i2 h a (sec:=0) (key_of r2 hr) r3.symm (.inl rfl)).trans ?_
    exact now 0 rfl
   ·refine (op_is (l:=ZgZ (kO k0 k1 own) (kP k0 k1 own) (wt own) (B f.toNat)) (Zrt _ _ (by omega) (by omega) _) (br:=1) rfl i2 h a (sec:=0) (key_of l2 hl) l3.symm (.inl rfl)).trans ?_
    by_cases haw:a < wt own
    ·rw [if_pos (.inr haw),if_pos haw]
    ·rw [if_neg (by omega),if_neg haw]
  ·intro n _ _
   refine .inr (.inr (.inl ⟨rfl, ?_⟩))
   refine (op_is (l:=ZpT (kP k0 k1 own)) (ZxM _) (br:=0) rfl i2 h a (sec:=0) oP.2.1 rfl (.inl rfl)).trans ?_
   exact now 0 rfl
  ·refine .inr (.inr (.inr (.inl ⟨rfl, ?_⟩)))
   refine (op_is (l:=Zhq (kO k0 k1 own)) (ZdJ _) (br:=0) rfl i2 h a (sec:=0) oO.1 rfl (.inl rfl)).trans ?_
   exact now 0 rfl
  ·refine .inr (.inr (.inr (.inr ⟨rfl, ?_⟩)))
   refine (op_is (l:=Zhq (kP k0 k1 own)) (ZdJ _) (br:=0) rfl i2 h a (sec:=0) oP.1 rfl (.inl rfl)).trans ?_
   exact now 0 rfl
  ·intro c hc hci _
   refine .inr (.inl ⟨?_,fun hr=> ?_⟩)
   ·show (if c.1=own then (5:Int) else 6)=5∨(if c.1=own then (5:Int) else 6)=6
    split
    ·exact .inl rfl
    ·exact .inr rfl
   ·have hb:(ZbH (kO k0 k1 own) (kP k0 k1 own) (wt own) own (B f.toNat) c)[0]? =some ([Zcr (B (kP k0 k1 own).2.2.2.2.1.toNat) (B f.toNat)],0,0,0):=by
     unfold ZbH
     split <;> rfl
    refine (op_is (Zru _ _ (by omega) (by omega) _ hci) (br:=0) hb i2 h a (sec:=0) (key_of r2 hr) r3.symm (.inl rfl)).trans ?_
    exact now 0 rfl
 have hlen:=cm.len
 rw [show (h,a,true,own,1 - own,rv,late,(0:Int),p,chan A k0 k1 op,[k0,k1],s,((([((z32,0),(0,[],0))]:List In),m.map (fun x:Out×Role=>x.1),2*s.1+own),m.map (fun x:Out×Role=>x.2)),id)=(fun k:Nat=>(h,a,true,own,1 - own,rv,late,(k:Int),p,chan A k0 k1 op,[k0,k1],s,((([((z32,0),(0,[],0))]:List In),m.map (fun x:Out×Role=>x.1),2*s.1+own),m.map (fun x:Out×Role=>x.2)),id)) 0 from rfl,
  ZG (x:=.inr (true,p,chan A k0 k1 op,[k0,k1],s,((([((z32,0),(0,[],0))]:List In),m.map (fun x:Out×Role=>x.1),2*s.1+own),m.map (fun x:Out×Role=>x.2)),id)) m.length (fun k:Nat=>(h,a,true,own,1 - own,rv,late,(k:Int),p,chan A k0 k1 op,[k0,k1],s,((([((z32,0),(0,[],0))]:List In),m.map (fun x:Out×Role=>x.1),2*s.1+own),m.map (fun x:Out×Role=>x.2)),id)) ?_ ?_ (by omega),ya]
 ·intro k hk
  obtain ⟨x,hxk,hxm⟩:=Zj hk
  rw [ZBg (x:=x) (all x hxm) hown g1 g2 (by rw [hT];exact g3) (by rw [List.getElem?_map,hxk];rfl) (by rw [List.getElem?_map,hxk];rfl) (Zv (by omega) (by omega)) (Zv (by omega) (by omega)),Zu (by omega)]
 ·unfold Yh
  dsimp only
  rw [List.length_map,if_neg (by rw [ZQ];decide)]
end Go.Proofs.YtjbbdlffilcaaaaGreat
end
