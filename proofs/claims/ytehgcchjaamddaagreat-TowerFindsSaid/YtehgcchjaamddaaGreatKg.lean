/- Parts of the proof, in one file. -/
import Derived.Test.YtehgcchjaamddaaGreatKf
set_option linter.unusedVariables false
set_option linter.unusedSimpArgs false
section
set_option maxRecDepth 4000
namespace Go.Proofs.YtehgcchjaamddaaGreat
open Go Go.Ev
def cat {α:Type} (f:α→List UInt8) (l:List α):List UInt8:=(l.map f).flatten
theorem Zd4 {α:Type} {f:α→List UInt8} {l:List α} {k:Nat} {e:α} (h:l[k]? =some e):cat f (l.take (k+1))=cat f (l.take k)++f e:=by
 unfold cat
 rw [Zai h,List.map_append,List.flatten_append]
 simp
theorem ZnM {α:Type} {f:α→List UInt8} {l:List α} {e:α}:cat f (e::l)=f e++cat f l:=rfl
theorem ZqY {α:Type} {f:α→List UInt8} {c:Nat}:∀{l:List α},(∀x,x∈l→(f x).length≤c)→(cat f l).length≤l.length*c
 |[],_=>by simp [cat]
 |e::l,h=>by
  have h1:=h e (List.mem_cons_self ..)
  have h2:=ZqY (l:=l) fun x hx=>h x (List.mem_cons_of_mem _ hx)
  rw [ZnM,List.length_append,List.length_cons,Nat.succ_mul]
  omega
theorem ZaL {α:Type} {f:α→List UInt8} {c n:Nat} {l:List α} (h:∀x,x∈l→(f x).length≤c) (hn:l.length≤n) (k:Nat):(cat f (l.take k)).length≤n*c:=by
 refine Nat.le_trans (ZqY fun x hx=>h x (List.mem_of_mem_take hx)) (Nat.mul_le_mul_right c ?_)
 rw [List.length_take]
 omega
def ZnN (p:UInt64):List UInt8:=ZgD p.toNat
def brF (b:ZT):List UInt8:=YQ b.1.length++(cat ZnN b.1++(YQ b.2.1.toNat++(YQ b.2.2.1.toNat++ZgD b.2.2.2.toNat)))
def Zfj (l:Xn):List UInt8:=YQ l.length++cat brF l
theorem ZnO {l:List UInt64} (h:l.length≤12) (k:Nat):(cat ZnN (l.take k)).length≤96:=ZaL (c:=8) (fun x _=>Nat.le_of_eq (Yx _)) h k
theorem ZqZ {b:ZT} (h:b.1.length≤12∧0≤b.2.1∧b.2.1≤1048576∧0≤b.2.2.1∧b.2.2.1≤1048576):(brF b).length≤131:=by
 have h1:=ZnO h.1 b.1.length
 rw [List.take_length] at h1
 have h2:=ZG (n:=b.1.length) (by omega)
 have h3:=ZG (n:=b.2.1.toNat) (by omega)
 have h4:=ZG (n:=b.2.2.1.toNat) (by omega)
 have h5:=Yx b.2.2.2.toNat
 unfold brF
 simp only [List.length_append]
 omega
theorem Zd5 {l:Xn} (h:ZnJ l):(Zfj l).length≤533:=by
 have h1:=ZaL (f:=brF) (c:=131) (fun x hx=>ZqZ (h.2.2 x hx)) h.2.1 l.length
 rw [List.take_length] at h1
 have h2:=ZG (n:=l.length) (by have:=h.2.1;omega)
 unfold Zfj
 rw [List.length_append]
 omega
theorem ZwE {c:List UInt8} (hc:c.length≤100000) {bs:List ZT} {n i:Int} {ks:List UInt64} {l:Xn} {e:ZT} (hk:ks.length≤12):
 Zj (W9 fuel) fuel (c,bs,n,i,ks,(ks.length:Int),(0:Int),l,e)=some (c++cat ZnN ks,bs,n,i,l,e):=by
 rw [show (c,bs,n,i,ks,(ks.length:Int),(0:Int),l,e)=(fun k:Nat=>(c++cat ZnN (ks.take k),bs,n,i,ks,(ks.length:Int),(k:Int),l,e)) 0 by simp [cat]]
 refine Xb ks.length (fun k:Nat=>(c++cat ZnN (ks.take k),bs,n,i,ks,(ks.length:Int),(k:Int),l,e)) ?_ ?_ (by omega)
 ·intro k hk2
  obtain ⟨e,he,_⟩:=Zw hk2
  have hl:=ZnO hk k
  unfold W9
  dsimp only
  rw [if_pos (Ys hk2),ZH he,Option.bind_some,Zd2 _ (by rw [List.length_append];omega),Option.bind_some,Zv (by omega),Zd4 he,List.append_assoc]
  rfl
 ·unfold W9
  dsimp only
  rw [if_neg (by rw [ZM];decide),List.take_length]
theorem Zir {l:Xn} (hr:Xe fuel l=some true) (h:ZnJ l):Zay fuel l=some (Zfj l):=by
 unfold Zay
 have h0:=h.2.1
 have h9:=ZG (n:=l.length) (by omega)
 rw [hr,Option.bind_some,if_neg (by decide),Zco (by omega) (by omega) (by simp),Option.bind_some,List.nil_append,Int.toNat_natCast]
 rw [show (YQ l.length,l,(l.length:Int),(0:Int),l)=(fun k:Nat=>(YQ l.length++cat brF (l.take k),l,(l.length:Int),(k:Int),l)) 0 by simp [cat],
  Xb (x:=(Zfj l,l)) l.length (fun k:Nat=>(YQ l.length++cat brF (l.take k),l,(l.length:Int),(k:Int),l)) ?_ ?_ (by omega),Option.bind_some]
 ·intro k hk
  obtain ⟨e,he,hm⟩:=Zw hk
  obtain ⟨e1,e2,e3,e4,e5⟩:=h.2.2 e hm
  have hl:=ZaL (f:=brF) (c:=131) (fun x hx=>ZqZ (h.2.2 x hx)) h.2.1 k
  have hr:=ZG (n:=e.1.length) (by omega)
  have hr2:=ZG (n:=e.2.1.toNat) (by omega)
  have hr3:=ZG (n:=e.2.2.1.toNat) (by omega)
  have hk8:=ZnO e1 e.1.length
  rw [List.take_length] at hk8
  unfold QB
  dsimp only
  rw [if_pos (Ys hk),ZH he,Option.bind_some,Zco (by omega) (by omega) (by rw [List.length_append];omega),Option.bind_some,Int.toNat_natCast,
   ZwE (by simp only [List.length_append];omega) e1,Option.bind_some]
  dsimp only
  rw [Zco e2 (by omega) (by simp only [List.length_append];omega),Option.bind_some,Zco e4 (by omega) (by simp only [List.length_append];omega),Option.bind_some,
   Zd2 _ (by simp only [List.length_append];omega),Option.bind_some,Zv (by omega),Zd4 he]
  unfold brF
  simp only [List.append_assoc]
 ·unfold QB
  dsimp only
  rw [if_neg (by rw [ZM];decide),List.take_length]
  rfl
def inF (x:In):List UInt8:=x.1.1++YQ x.1.2.toNat
def Zis (o:Out):List UInt8:=YQ o.1.toNat++(YQ (Zfj o.2).length++Zfj o.2)
def ZgH (t:Tx):List UInt8:=YQ t.1.length++(cat inF t.1++(YQ t.2.1.length++(cat Zis t.2.1++YQ t.2.2.toNat)))
def Zit (s:Sig):List UInt8:=ZgD s.1.toNat++ZgD s.2.toNat
def ZeV (x:In):List UInt8:=YQ x.2.1.toNat++(YQ x.2.2.1.length++(cat Zit x.2.2.1++ZgD x.2.2.2.toNat))
def txF (t:Tx):List UInt8:=ZgH t++cat ZeV t.1
theorem ZlT {l:Xn} (hw:ZaT l) (hr:Xe fuel l=some true):ZnJ l:=by
 obtain ⟨b,h1,h2⟩:=Ziq hw
 rw [hr] at h1
 cases h1
 exact h2 rfl
theorem Zq0 {x:In} (h:x.1.1.length=32) (k:ZqV x):(inF x).length≤41:=by
 have:=ZG (n:=x.1.2.toNat) (by have:=k.2.1;omega)
 unfold inF
 rw [List.length_append]
 omega
theorem ZnP {o:Out} (h:ZaT o.2) (k:ZnK o):(Zis o).length≤551:=by
 have h1:=Zd5 (ZlT h k.2.2)
 have h2:=ZG (n:=o.1.toNat) (by have:=k.2.1;omega)
 have h3:=ZG (n:=(Zfj o.2).length) (by omega)
 unfold Zis
 simp only [List.length_append]
 omega
theorem ZjQ {l:List Sig} (h:l.length≤12) (k:Nat):(cat Zit (l.take k)).length≤192:=ZaL (c:=16) (fun x _=>by unfold Zit;rw [List.length_append,Yx,Yx];exact Nat.le_refl _) h k
theorem ZjR {x:In} (k:ZqV x):(ZeV x).length≤218:=by
 obtain ⟨_,_,k1,k2,k3⟩:=k
 have h1:=ZjQ k3 x.2.2.1.length
 rw [List.take_length] at h1
 have h2:=ZG (n:=x.2.1.toNat) (by omega)
 have h3:=ZG (n:=x.2.2.1.length) (by omega)
 have h5:=Yx x.2.2.2.toNat
 unfold ZeV
 simp only [List.length_append]
 omega
theorem ZnQ {t:Tx} (hw:ZlA t) (h:ZwD t):ZdR fuel t=some (ZgH t)∧(ZgH t).length≤40000:=by
 obtain ⟨ins,outs,note⟩:=t
 obtain ⟨w1,w2,w3⟩:=hw
 obtain ⟨h1,h2,h3,h4,h5,h6⟩:=h
 dsimp only at w1 w2 w3 h1 h2 h3 h4 h5 h6
 have li:=fun k=>ZaL (f:=inF) (c:=41) (fun x hx=>Zq0 (w2 x hx) (h5 x hx)) h2 k
 have lo:=fun k=>ZaL (f:=Zis) (c:=551) (fun x hx=>ZnP (w1 x hx) (h6 x hx)) h3 k
 have li1:=li ins.length
 have lo1:=lo outs.length
 rw [List.take_length] at li1 lo1
 have r1:=ZG (n:=ins.length) (by omega)
 have r2:=ZG (n:=outs.length) (by omega)
 have r3:=ZG (n:=note.toNat) (by omega)
 refine ⟨?_,by unfold ZgH;simp only [List.length_append];omega⟩
 unfold ZdR
 dsimp only
 rw [Zco (by omega) (by omega) (by simp),Option.bind_some,List.nil_append,Int.toNat_natCast]
 rw [show (YQ ins.length,ins,(ins.length:Int),(0:Int),(ins,outs,note))=(fun k:Nat=>(YQ ins.length++cat inF (ins.take k),ins,(ins.length:Int),(k:Int),(ins,outs,note))) 0 by simp [cat],
  Xb (x:=(YQ ins.length++cat inF ins,(ins,outs,note))) ins.length (fun k:Nat=>(YQ ins.length++cat inF (ins.take k),ins,(ins.length:Int),(k:Int),(ins,outs,note))) ?_ ?_ (by omega),Option.bind_some]
 ·dsimp only
  rw [Zco (by omega) (by omega) (by rw [List.length_append];omega),Option.bind_some,Int.toNat_natCast]
  generalize hp:YQ ins.length++cat inF ins++YQ outs.length=pre
  have hpl:pre.length≤3000:=by rw [←hp];simp only [List.length_append];omega
  rw [show (pre,outs,(outs.length:Int),(0:Int),(ins,outs,note))=(fun k:Nat=>(pre++cat Zis (outs.take k),outs,(outs.length:Int),(k:Int),(ins,outs,note))) 0 by simp [cat],
   Xb (x:=(pre++cat Zis outs,(ins,outs,note))) outs.length (fun k:Nat=>(pre++cat Zis (outs.take k),outs,(outs.length:Int),(k:Int),(ins,outs,note))) ?_ ?_ (by omega),Option.bind_some]
  ·dsimp only
   rw [Zco h4 w3 (by rw [List.length_append];omega),Option.bind_some, ←hp]
   unfold ZgH
   simp only [List.append_assoc]
  ·intro k hk
   obtain ⟨e,he,hm⟩:=Zw hk
   have hlk:=lo k
   have hok:=h6 e hm
   have hlo:=ZlT (w1 e hm) hok.2.2
   have hll:=Zd5 hlo
   have hrl:=ZG (n:=e.1.toNat) (by have:=hok.2.1;omega)
   unfold Zbp
   dsimp only
   rw [if_pos (Ys hk),ZH he,Option.bind_some,Zco hok.1 (by have:=hok.2.1;omega) (by rw [List.length_append];omega),Option.bind_some,Zir hok.2.2 hlo,Option.bind_some,
    ZsB (by simp only [List.length_append];omega) (by omega),Option.bind_some,Zv (by omega),Zd4 he]
   unfold Zis
   simp only [List.append_assoc]
  ·unfold Zbp
   dsimp only
   rw [if_neg (by rw [ZM];decide),List.take_length]
 ·intro k hk
  obtain ⟨e,he,hm⟩:=Zw hk
  have hlk:=li k
  have h32:=w2 e hm
  have hok:=h5 e hm
  unfold Zbo
  dsimp only
  rw [if_pos (Ys hk),ZH he,Option.bind_some,Zt8 (by rw [List.length_append];omega) (by omega),Option.bind_some,Zco hok.1 (by have:=hok.2.1;omega) (by simp only [List.length_append];omega),Option.bind_some,
   Zv (by omega),Zd4 he]
  unfold inF
  simp only [List.append_assoc]
 ·unfold Zbo
  dsimp only
  rw [if_neg (by rw [ZM];decide),List.take_length]
theorem ZyP {t:Tx} (hw:ZlA t) (hr:Yu fuel t=some true) (h:ZwD t):ZdS fuel t=some (txF t):=by
 obtain ⟨hp,hl⟩:=ZnQ hw h
 unfold ZdS
 rw [hr,Option.bind_some,if_neg (by decide),hp,Option.bind_some]
 unfold txF
 generalize ZgH t=pre at hl
 obtain ⟨ins,outs,note⟩:=t
 obtain ⟨h1,h2,h3,h4,h5,h6⟩:=h
 dsimp only at h2 h5 ⊢
 have li:=fun k=>ZaL (f:=ZeV) (c:=218) (fun x hx=>ZjR (h5 x hx)) h2 k
 rw [show (pre,ins,(ins.length:Int),(0:Int),(ins,outs,note))=(fun k:Nat=>(pre++cat ZeV (ins.take k),ins,(ins.length:Int),(k:Int),(ins,outs,note))) 0 by simp [cat],
  Xb (x:=(pre++cat ZeV ins,(ins,outs,note))) ins.length (fun k:Nat=>(pre++cat ZeV (ins.take k),ins,(ins.length:Int),(k:Int),(ins,outs,note))) ?_ ?_ (by omega),Option.bind_some]
 ·intro k hk
  obtain ⟨e,he,hm⟩:=Zw hk
  have hlk:=li k
  obtain ⟨_,_,k1,k2,k3⟩:=h5 e hm
  have r1:=ZG (n:=e.2.1.toNat) (by omega)
  have r2:=ZG (n:=e.2.2.1.length) (by omega)
  unfold Zbr
  dsimp only
  rw [if_pos (Ys hk),ZH he,Option.bind_some,Zco k1 (by omega) (by rw [List.length_append];omega),Option.bind_some,Zco (by omega) (by omega) (by simp only [List.length_append];omega),Option.bind_some,Int.toNat_natCast]
  generalize hq:pre++cat ZeV (ins.take k)++YQ e.2.1.toNat++YQ e.2.2.1.length=q
  have hql:q.length≤60000:=by rw [←hq];simp only [List.length_append];omega
  rw [show (q,ins,(ins.length:Int),(k:Int),e.2.2.1,(e.2.2.1.length:Int),(0:Int),(ins,outs,note),e)=(fun j:Nat=>(q++cat Zit (e.2.2.1.take j),ins,(ins.length:Int),(k:Int),e.2.2.1,(e.2.2.1.length:Int),(j:Int),(ins,outs,note),e)) 0 by simp [cat],
   Xb (x:=(q++cat Zit e.2.2.1,ins,(ins.length:Int),(k:Int),(ins,outs,note),e)) e.2.2.1.length (fun j:Nat=>(q++cat Zit (e.2.2.1.take j),ins,(ins.length:Int),(k:Int),e.2.2.1,(e.2.2.1.length:Int),(j:Int),(ins,outs,note),e)) ?_ ?_ (by omega),Option.bind_some]
  ·have hs:=ZjQ k3 e.2.2.1.length
   rw [List.take_length] at hs
   dsimp only
   rw [Zd2 _ (by rw [List.length_append];omega),Option.bind_some,Zv (by omega),Zd4 he, ←hq]
   unfold ZeV
   simp only [List.append_assoc]
  ·intro j hj
   obtain ⟨f,hf,_⟩:=Zw hj
   have hs:=ZjQ k3 j
   have hu:=Yx f.1.toNat
   unfold Zbq
   dsimp only
   rw [if_pos (Ys hj),ZH hf,Option.bind_some,Zd2 _ (by rw [List.length_append];omega),Option.bind_some,Zd2 _ (by simp only [List.length_append];omega),Option.bind_some,Zv (by omega),Zd4 hf]
   unfold Zit
   simp only [List.append_assoc]
  ·unfold Zbq
   dsimp only
   rw [if_neg (by rw [ZM];decide),List.take_length]
 ·unfold Zbr
  dsimp only
  rw [if_neg (by rw [ZM];decide),List.take_length]
end Go.Proofs.YtehgcchjaamddaaGreat
end
section
set_option maxRecDepth 4000
namespace Go.Proofs.YtehgcchjaamddaaGreat
open Go Go.Ev
theorem ZlU {α:Type} {l:List α} {k:Nat} {e:α} (h:l[k]? =some e):l.drop k=e::l.drop (k+1):=by
 obtain ⟨h1,h2⟩:=List.getElem?_eq_some_iff.1 h
 rw [List.drop_eq_getElem_cons h1,h2]
theorem ZgI {α:Type} {f:α→List UInt8} {l:List α} {k:Nat} {e:α} (h:l[k]? =some e):cat f (l.drop k)=f e++cat f (l.drop (k+1)):=by
 rw [ZlU h,ZnM]
theorem Yt {α:Type} {f:α→List UInt8} {c n:Nat} {l:List α} (h:∀x,x∈l→(f x).length≤c) (hn:l.length≤n) (k:Nat):(cat f (l.drop k)).length≤n*c:=by
 refine Nat.le_trans (ZqY fun x hx=>h x (List.mem_of_mem_drop hx)) (Nat.mul_le_mul_right c ?_)
 rw [List.length_drop]
 omega
theorem ZwF {a b:List UInt8} (h:a.length≤1000000):∃r,Z4 fuel a b=some r:=by
 unfold Z4
 by_cases hl:a.length=b.length
 ·rw [if_neg (by simp [hl])]
  obtain ⟨x,h1,_⟩:=YM (step:=ZF fuel) a.length (fun k s=>s=(a,b,(a.length:Int),(k:Int))) (fun _=>True) (i:=(a,b,(a.length:Int),(0:Int))) rfl (by omega) (by
   rintro k _ hk rfl
   obtain ⟨e,he,_⟩:=Zw hk
   obtain ⟨f,hf,_⟩:=Zw (l:=b) (k:=k) (by omega)
   unfold ZF
   dsimp only
   rw [if_pos (Ys hk),ZH he,Option.bind_some,ZH hf,Option.bind_some,Zv (by omega)]
   split
   ·right;exact ⟨_,rfl,trivial⟩
   ·left;exact ⟨_,rfl,rfl⟩) (by
   rintro _ rfl
   unfold ZF
   dsimp only
   rw [if_neg (by rw [ZM];decide)]
   exact ⟨_,rfl,trivial⟩)
  rw [h1,Option.bind_some]
  cases x with
  |inl y=>exact ⟨_,rfl⟩
  |inr y=>exact ⟨_,rfl⟩
 ·rw [if_pos (by simp;omega)]
  exact ⟨_,rfl⟩
theorem Zub {a:List UInt8} (h:a.length≤1000000):Z4 fuel a a=some true:=by
 unfold Z4
 rw [if_neg (by simp),show (a,a,(a.length:Int),(0:Int))=(fun k:Nat=>(a,a,(a.length:Int),(k:Int))) 0 from rfl,Xb (x:=.inr ()) a.length (fun k:Nat=>(a,a,(a.length:Int),(k:Int))) ?_ ?_ (by omega),Option.bind_some]
 ·intro k hk
  obtain ⟨e,he,_⟩:=Zw hk
  unfold ZF
  dsimp only
  rw [if_pos (Ys hk),ZH he,Option.bind_some,Option.bind_some,Zv (by omega),if_neg (by simp)]
 ·unfold ZF
  dsimp only
  rw [if_neg (by rw [ZM];decide)]
theorem ZyQ {b:List UInt8} {n i m:Int} {l:Xn} {r:Ze} {acc:List ZT} {i1 i2:Int} {u:UInt64} (hm:m≤12) (hr:r.1.length≤1000000):
 ∃r' w,Zj (YL fuel) fuel (b,n,i,m,(0:Int),l,r,acc,i1,i2,u,([]:List UInt64))=some (b,n,i,l,r',acc,i1,i2,u,w)∧r'.1.length≤1000000∧w.length≤12:=by
 obtain ⟨x,h1,r',w,rfl,h2⟩:=YM (step:=YL fuel) m.toNat (fun k s=>∃r' w,s=(b,n,i,m,(k:Int),l,r',acc,i1,i2,u,w)∧r'.1.length≤1000000∧w.length=k) (fun x=>∃r' w,x=(b,n,i,l,r',acc,i1,i2,u,w)∧r'.1.length≤1000000∧w.length≤12)
  (i:=(b,n,i,m,(0:Int),l,r,acc,i1,i2,u,([]:List UInt64))) ⟨r,[],rfl,hr,rfl⟩ (by omega) (by
  rintro k _ hk ⟨r',w,rfl,h1,h2⟩
  left
  have hl:=ZgE r'
  unfold YL
  dsimp only
  rw [if_pos (decide_eq_true (by omega)),Zaj h1,Option.bind_some,if_pos (Yb (by omega) (by omega)),Zv (by omega)]
  exact ⟨_,rfl,_,_,rfl,by omega,by simp [h2]⟩) (by
  rintro _ ⟨r',w,rfl,h1,h2⟩
  unfold YL
  dsimp only
  rw [if_neg (by rw [decide_eq_true_iff];omega)]
  exact ⟨_,rfl,_,_,rfl,h1,by omega⟩)
 exact ⟨r',w,h1,h2⟩
theorem Zon {b:List UInt8} (hb:b.length≤1000000):∃l ok,Q8 fuel b=some (l,ok)∧ZaT l:=by
 unfold Q8
 rw [ZlS hb,Option.bind_some,Wu hb,Option.bind_some]
 have hnl:=Vg (b,false)
 generalize WH (b,false)=q at hnl
 obtain ⟨n,r⟩:=q
 dsimp only at hnl ⊢
 obtain ⟨x,h1,r',acc,rfl,h2,h3⟩:=YM (step:=XT fuel) (min n.toNat 4) (fun k s=>∃r acc,s=(b,n,(k:Int),([]:Xn),r,acc)∧r.1.length≤1000000∧acc.length=k∧∀e,e∈acc→e.1.length≤12) (fun x=>∃r acc,x=(b,([]:Xn),r,acc)∧acc.length≤4∧∀e,e∈acc→e.1.length≤12)
  (i:=(b,n,(0:Int),([]:Xn),r,([]:List ZT))) ⟨r,[],rfl,by omega,rfl,fun e he=>by cases he⟩ (by omega) (by
  rintro k _ hk ⟨r,acc,rfl,h1,h2,h3⟩
  have hl:=Vg r
  unfold XT
  dsimp only
  rw [if_pos (decide_eq_true (by omega)),Wu h1,Option.bind_some,if_neg (by rw [beq_iff_eq];omega)]
  by_cases hk12:(WH r).1 > 12
  ·right
   rw [if_pos (decide_eq_true hk12)]
   exact ⟨_,rfl,_,_,rfl,by omega,h3⟩
  ·left
   rw [if_neg (by rw [decide_eq_true_iff];exact hk12)]
   obtain ⟨r2,w,e1,e2,e3⟩:=ZyQ (b:=b) (n:=n) (i:=(k:Int)) (m:=(WH r).1) (l:=[]) (r:=(WH r).2) (acc:=acc) (i1:=0) (i2:=0) (u:=0) (by omega) (by omega)
   have hl2:=Vg r2
   have hl3:=Vg (WH r2).2
   have hl4:=ZgE (WH (WH r2).2).2
   rw [e1,Option.bind_some]
   dsimp only
   rw [Wu e2,Option.bind_some,Wu (by omega),Option.bind_some,Zaj (by omega),Option.bind_some,if_pos (Yb (by omega) (by omega)),Zv (by omega)]
   refine ⟨_,rfl,_,_,rfl,by omega,by simp [h2],fun e he=> ?_⟩
   rcases List.mem_append.1 he with he|he
   ·exact h3 e he
   ·rw [List.mem_singleton.1 he]
    exact e3) (by
  rintro _ ⟨r,acc,rfl,h1,h2,h3⟩
  unfold XT
  dsimp only
  by_cases hn:((min n.toNat 4:Nat):Int) < n
  ·rw [if_pos (decide_eq_true hn),Wu h1,Option.bind_some,if_pos (by rw [beq_iff_eq];omega)]
   exact ⟨_,rfl,_,_,rfl,by omega,h3⟩
  ·rw [if_neg (by rw [decide_eq_true_iff];exact hn)]
   exact ⟨_,rfl,_,_,rfl,by omega,h3⟩)
 rw [h1,Option.bind_some]
 dsimp only
 have hw:ZaT acc:=⟨by omega,fun e he=>by have:=h3 e he;omega⟩
 have hw0:ZaT ([]:Xn):=⟨by simp,fun e he=>by cases he⟩
 obtain ⟨k,hk1,hk2⟩:=Ziq hw
 rw [hk1,Option.bind_some]
 cases k with
 |false=>exact ⟨_,_,rfl,hw0⟩
 |true=>
  have hlen:=Zd5 (hk2 rfl)
  obtain ⟨z,hz⟩:=ZwF (a:=Zfj acc) (b:=b) (by omega)
  rw [if_neg (by decide),Zir hk1 (hk2 rfl),Option.bind_some,hz,Option.bind_some]
  cases z with
  |false=>exact ⟨_,_,rfl,hw0⟩
  |true=>exact ⟨_,_,rfl,hw⟩
theorem ZwG {b:List UInt8} {n i:Int} {l:Xn} {rest:List UInt8} {acc:List ZT} {i1 i2:Int} {u:UInt64} {ks:List UInt64} (hk:ks.length≤12) (hr:rest.length≤100000):
 Zj (YL fuel) fuel (b,n,i,(ks.length:Int),(0:Int),l,(cat ZnN ks++rest,false),acc,i1,i2,u,([]:List UInt64))=some (b,n,i,l,(rest,false),acc,i1,i2,u,ks):=by
 refine Xb ks.length (fun k:Nat=>(b,n,i,(ks.length:Int),(k:Int),l,(cat ZnN (ks.drop k)++rest,false),acc,i1,i2,u,ks.take k)) ?_ ?_ (by omega)
 ·intro k hk2
  obtain ⟨e,he,_⟩:=Zw hk2
  have hl:=Yt (f:=ZnN) (c:=8) (fun x _=>Nat.le_of_eq (Yx _)) hk k
  unfold YL
  dsimp only
  rw [if_pos (Ys hk2),Zaj (by dsimp only;rw [List.length_append];omega),Option.bind_some,ZgI he,List.append_assoc]
  unfold ZnN
  rw [ZjN,if_pos (Yb (by rw [List.length_take];omega) (by rw [List.length_take];omega)),Zv (by omega),Zai he]
 ·unfold YL
  dsimp only
  rw [if_neg (by rw [ZM];decide),List.drop_length,List.take_length]
  rfl
theorem ZwH {l:Xn} (hr:Xe fuel l=some true) (h:ZnJ l):Q8 fuel (Zfj l)=some (l,true):=by
 have hlen:=Zd5 h
 unfold Q8
 rw [ZlS (by omega),Option.bind_some,Wu (by dsimp only;omega),Option.bind_some]
 have h0:=h.2.1
 have e0:WH (Zfj l,false)=((l.length:Int),(cat brF l,false)):=by
  have:=Zak (z:=(l.length:Int)) (by omega) (by omega) (cat brF l)
  rw [Int.toNat_natCast] at this
  exact this
 have hbl:∀k,(cat brF (l.drop k)).length≤4*131:=Yt (fun x hx=>ZqZ (h.2.2 x hx)) h0
 rw [e0]
 dsimp only
 generalize hb:Zfj l=b at hlen
 rw [show (b,(l.length:Int),(0:Int),([]:Xn),(cat brF l,false),([]:List ZT))=(fun k:Nat=>(b,(l.length:Int),(k:Int),([]:Xn),(cat brF (l.drop k),false),l.take k)) 0 from rfl,
  Xb (x:=(b,([]:Xn),(([]:List UInt8),false),l)) l.length (fun k:Nat=>(b,(l.length:Int),(k:Int),([]:Xn),(cat brF (l.drop k),false),l.take k)) ?_ ?_ (by omega),Option.bind_some]
 ·dsimp only
  rw [hr,Option.bind_some,if_neg (by decide),Zir hr h,Option.bind_some,hb,Zub (by omega),Option.bind_some]
  rfl
 ·intro k hk
  obtain ⟨e,he,hm⟩:=Zw hk
  obtain ⟨e1,e2,e3,e4,e5⟩:=h.2.2 e hm
  have hl:=hbl k
  have hl2:=hbl (k+1)
  have r2:=ZG (n:=e.2.1.toNat) (by omega)
  have r3:=ZG (n:=e.2.2.1.toNat) (by omega)
  have r4:=Yx e.2.2.2.toNat
  have hks:=Yt (f:=ZnN) (c:=8) (l:=e.1) (fun x _=>Nat.le_of_eq (Yx _)) e1 0
  rw [List.drop_zero] at hks
  unfold XT
  dsimp only
  rw [if_pos (Ys hk),Wu (by dsimp only;omega),Option.bind_some,if_neg (by rw [beq_iff_eq];omega),ZgI he]
  unfold brF
  simp only [List.append_assoc]
  have q1:=Zak (z:=(e.1.length:Int)) (by omega) (by omega) (cat ZnN e.1++(YQ e.2.1.toNat++(YQ e.2.2.1.toNat++(ZgD e.2.2.2.toNat++cat brF (l.drop (k+1))))))
  rw [Int.toNat_natCast] at q1
  unfold brF at q1 hl2
  rw [q1]
  dsimp only
  rw [if_neg (by rw [decide_eq_true_iff];omega),ZwG e1 (by simp only [List.length_append];omega),Option.bind_some]
  dsimp only
  rw [Wu (by simp only [List.length_append];omega),Option.bind_some,Zak e2 (by omega)]
  dsimp only
  rw [Wu (by simp only [List.length_append];omega),Option.bind_some,Zak e4 (by omega)]
  dsimp only
  rw [Zaj (by simp only [List.length_append];omega),Option.bind_some,ZjN,if_pos (Yb (by rw [List.length_take];omega) (by rw [List.length_take];omega)),Zv (by omega),Zai he]
 ·unfold XT
  dsimp only
  rw [if_neg (by rw [ZM];decide),List.drop_length,List.take_length]
  rfl
end Go.Proofs.YtehgcchjaamddaaGreat
end
section
set_option maxRecDepth 4000
namespace Go.Proofs.YtehgcchjaamddaaGreat
open Go Go.Ev
def Zd6 (m:Int) (r:Ze):Int×Ze:=(if (WH r).1 > m then -1 else (WH r).1,(WH r).2)
theorem Zg2 {m:Int} {r:Ze} (h:r.1.length≤1000000):Q7 fuel m r=some (Zd6 m r):=by
 unfold Q7 Zd6
 rw [Wu h,Option.bind_some]
 by_cases hk:(WH r).1 > m
 ·rw [if_pos (decide_eq_true hk),if_pos hk]
 ·rw [if_neg (by rw [decide_eq_true_iff];exact hk),if_neg hk]
theorem ZnR {m:Int} (h0:0≤m) (r:Ze):(Zd6 m r).1≤m∧ -1≤(Zd6 m r).1∧(Zd6 m r).2.1.length≤r.1.length:=by
 have h:=Vg r
 unfold Zd6
 dsimp only
 split <;> omega
theorem Zq1 {m z:Int} (h0:0≤z) (h1:z≤m) (hm:m≤1000) (rest:List UInt8):Zd6 m (YQ z.toNat++rest,false)=(z,(rest,false)):=by
 unfold Zd6
 rw [Zak h0 (by omega),if_neg (by omega)]
theorem ZAk {n0 n nt:Int} {T:Tx} {r:Ze} (hn:n≤64) (hr:r.1.length≤1000000):
 ∃v ins r',Zj (XL fuel) fuel (n0,n,(0:Int),T,nt,([]:List Out),([]:List Unit),([]:List In),([]:List In),r)=some (n0,T,nt,([]:List Out),v,([]:List In),ins,r')∧r'.1.length≤1000000∧ins.length≤64∧∀x,x∈ins→x.1.1.length=32:=by
 obtain ⟨x,h1,v,ins,r',rfl,h2⟩:=YM (step:=XL fuel) n.toNat (fun k s=>∃v ins r',s=(n0,n,(k:Int),T,nt,([]:List Out),v,([]:List In),ins,r')∧r'.1.length≤1000000∧ins.length=k∧∀x,x∈ins→x.1.1.length=32)
  (fun x=>∃v ins r',x=(n0,T,nt,([]:List Out),v,([]:List In),ins,r')∧r'.1.length≤1000000∧ins.length≤64∧∀x,x∈ins→x.1.1.length=32) (i:=(n0,n,(0:Int),T,nt,([]:List Out),([]:List Unit),([]:List In),([]:List In),r)) ⟨[],[],r,rfl,hr,rfl,fun x hx=>by cases hx⟩ (by omega) (by
  rintro k _ hk ⟨v,ins,r',rfl,h1,h2,h3⟩
  left
  have hl:=Zwx r'
  have hl2:=Vg (Zli r').2
  unfold XL
  dsimp only
  rw [if_pos (decide_eq_true (by omega)),ZsE h1,Option.bind_some,Wu (by omega),Option.bind_some,if_pos (Yb (by simp;omega) (by simp;omega)),Zv (by omega)]
  refine ⟨_,rfl,_,_,_,rfl,by omega,by simp [h2],fun x hx=> ?_⟩
  rcases List.mem_append.1 hx with hx|hx
  ·exact h3 x hx
  ·rw [List.mem_singleton.1 hx]
   exact hl.1) (by
  rintro _ ⟨v,ins,r',rfl,h1,h2,h3⟩
  unfold XL
  dsimp only
  rw [if_neg (by rw [decide_eq_true_iff];omega)]
  exact ⟨_,rfl,_,_,_,rfl,h1,by omega,h3⟩)
 exact ⟨v,ins,r',h1,h2⟩
theorem ZyR {n0 m0 m nt:Int} {T:Tx} {v:List Unit} {ins:List In} {r:Ze} (hm:m≤64) (hr:r.1.length≤1000000):
 ∃x,Zj (XN fuel) fuel (n0,m0,m,(0:Int),T,nt,([]:List Out),v,([]:List In),ins,r)=some x∧
  ((∃y,x=.inl y)∨∃outs r',x=.inr (n0,m0,T,nt,outs,v,([]:List In),ins,r')∧r'.1.length≤1000000∧outs.length≤64∧∀o,o∈outs→ZaT o.2):=by
 refine YM (step:=XN fuel) m.toNat (fun k s=>∃outs r',s=(n0,m0,m,(k:Int),T,nt,outs,v,([]:List In),ins,r')∧r'.1.length≤1000000∧outs.length=k∧∀o,o∈outs→ZaT o.2) _ ⟨[],r,rfl,hr,rfl,fun x hx=>by cases hx⟩ (by omega) ?_ ?_
 ·rintro k _ hk ⟨outs,r',rfl,h1,h2,h3⟩
  have hl:=Vg r'
  have hl2:=Zt9 (WH r').2
  obtain ⟨l,ok,h4,h5⟩:=Zon (b:=(ZgF (WH r').2).1) (by omega)
  unfold XN
  dsimp only
  rw [if_pos (decide_eq_true (by omega)),Wu h1,Option.bind_some,ZsJ (by omega),Option.bind_some,h4,Option.bind_some]
  cases ok with
  |false=>right;exact ⟨_,rfl,.inl ⟨_,rfl⟩⟩
  |true=>
   left
   rw [if_neg (by simp),if_pos (Yb (by omega) (by omega)),Zv (by omega)]
   refine ⟨_,rfl,_,_,rfl,by omega,by simp [h2],fun o ho=> ?_⟩
   rcases List.mem_append.1 ho with ho|ho
   ·exact h3 o ho
   ·rw [List.mem_singleton.1 ho]
    exact h5
 ·rintro _ ⟨outs,r',rfl,h1,h2,h3⟩
  unfold XN
  dsimp only
  rw [if_neg (by rw [decide_eq_true_iff];omega)]
  exact ⟨_,rfl,.inr ⟨_,_,rfl,h1,by omega,h3⟩⟩
theorem ZyS {n0 m0 i0 len i s nt:Int} {T:Tx} {outs:List Out} {v:List Unit} {pre post:List In} {fr:Yv} {br:Int} {sec:UInt64} {r:Ze} (hs:s≤12) (hi:i0.toNat=pre.length) (hr:r.1.length≤1000000):
 ∃r' w,Zj (XO fuel) fuel (n0,m0,i0,len,i,s,(0:Int),T,nt,outs,v,pre,post,fr,br,sec,r,([]:List Sig))=some (n0,m0,(i0.toNat:Int),len,i,T,nt,outs,v,pre,post,fr,br,sec,r',w)∧r'.1.length≤1000000:=by
 obtain ⟨x,h1,r',w,rfl,h2⟩:=YM (step:=XO fuel) s.toNat (fun k t=>∃j0 r' w,t=(n0,m0,j0,len,i,s,(k:Int),T,nt,outs,v,pre,post,fr,br,sec,r',w)∧j0.toNat=pre.length∧r'.1.length≤1000000∧w.length=k)
  (fun x=>∃r' w,x=(n0,m0,(i0.toNat:Int),len,i,T,nt,outs,v,pre,post,fr,br,sec,r',w)∧r'.1.length≤1000000) (i:=(n0,m0,i0,len,i,s,(0:Int),T,nt,outs,v,pre,post,fr,br,sec,r,([]:List Sig))) ⟨i0,r,[],rfl,hi,hr,rfl⟩ (by omega) (by
  rintro k _ hk ⟨j0,r',w,rfl,h0,h1,h2⟩
  left
  have hl:=ZgE r'
  have hl2:=ZgE (Zwy r').2
  unfold XO
  dsimp only
  rw [if_pos (decide_eq_true (by omega)),if_pos (decide_eq_true h0),Zaj h1,Option.bind_some,Zaj (by omega),Option.bind_some,if_pos (Yb (by omega) (by omega)),Zv (by omega),h0,if_pos (decide_eq_true rfl)]
  exact ⟨_,rfl,((pre.length:Nat):Int),_,_,rfl,by omega,by omega,by simp [h2]⟩) (by
  rintro _ ⟨j0,r',w,rfl,h0,h1,h2⟩
  unfold XO
  dsimp only
  rw [if_neg (by rw [decide_eq_true_iff];omega),h0,hi]
  exact ⟨_,rfl,_,_,rfl,h1⟩)
 exact ⟨r',w,h1,h2⟩
theorem ZyT {n0 m0 nt:Int} {T:Tx} {outs:List Out} {v:List Unit} {ins:List In} {r:Ze} (hn:ins.length≤64) (hw:∀x,x∈ins→x.1.1.length=32) (hr:r.1.length≤1000000):
 ∃x,Zj (XP fuel) fuel (n0,m0,((ins.length:Nat):Int),(0:Int),T,nt,outs,v,([]:List In),ins,r)=some x∧
  ((∃y,x=.inl y)∨∃pre r',x=.inr (n0,m0,T,nt,outs,v,pre,([]:List In),r')∧r'.1.length≤1000000∧∀x,x∈pre→x.1.1.length=32):=by
 refine YM (step:=XP fuel) ins.length (fun k s=>∃pre post r',s=(n0,m0,((ins.length:Nat):Int),(k:Int),T,nt,outs,v,pre,post,r')∧r'.1.length≤1000000∧pre.length=k∧pre.length+post.length=ins.length∧(∀x,x∈pre→x.1.1.length=32)∧∀x,x∈post→x.1.1.length=32) _
  ⟨[],ins,r,rfl,hr,rfl,by simp,(fun x hx=>by cases hx),hw⟩ (by omega) ?_ ?_
 ·rintro k _ hk ⟨pre,post,r',rfl,h1,h2,h3,h4,h5⟩
  cases post with
  |nil=>rw [List.length_nil] at h3;omega
  |cons e post=>
   rw [List.length_cons] at h3
   have hl:=Vg r'
   have hl2:=ZnR (m:=12) (by omega) (WH r').2
   unfold XP
   dsimp only [Zqw]
   rw [if_pos (Ys hk),if_pos (decide_eq_true (by omega)),if_pos (XR (by omega) (by omega)),Wu h1,Option.bind_some,if_pos (decide_eq_true (by omega)),Zg2 (by omega),Option.bind_some]
   by_cases hs:(Zd6 12 (WH r').2).1 < 0
   ·right
    rw [if_pos (decide_eq_true hs)]
    exact ⟨_,rfl,.inl ⟨_,rfl⟩⟩
   left
   obtain ⟨r2,w,e1,e2⟩:=ZyS (n0:=n0) (m0:=m0) (i0:=(((k:Int).toNat:Nat):Int)) (len:=((ins.length:Nat):Int)) (i:=(k:Int)) (s:=(Zd6 12 (WH r').2).1) (nt:=nt) (T:=T) (outs:=outs) (v:=v) (pre:=pre) (post:=post) (fr:=e.1) (br:=(WH r').1) (sec:=e.2.2.2) (r:=(Zd6 12 (WH r').2).2) (by omega) (by omega) (by omega)
   have hl3:=ZgE r2
   rw [if_neg (by rw [decide_eq_true_iff];exact hs),e1,Option.bind_some]
   dsimp only
   rw [Zaj e2,Option.bind_some,if_pos (decide_eq_true (by omega)),Zv (by omega)]
   refine ⟨_,rfl,_,_,_,rfl,by omega,by simp [h2],by simp;omega,fun x hx=> ?_,fun x hx=>h5 x (List.mem_cons_of_mem _ hx)⟩
   rcases List.mem_append.1 hx with hx|hx
   ·exact h4 x hx
   ·rw [List.mem_singleton.1 hx]
    exact h5 e (List.mem_cons_self ..)
 ·rintro _ ⟨pre,post,r',rfl,h1,h2,h3,h4,h5⟩
  cases post with
  |cons e post=>rw [List.length_cons] at h3;omega
  |nil=>
   unfold XP
   dsimp only
   rw [if_neg (by rw [ZM];decide)]
   exact ⟨_,rfl,.inr ⟨_,_,rfl,h1,h4⟩⟩
theorem ZsM {b:List UInt8} (hb:b.length≤1000000):∃t ok,Y4 fuel b=some (t,ok):=by
 unfold Y4
 have hu:=ZnR (m:=64) (by omega) (b,false)
 dsimp only at hu
 rw [ZlS hb,Option.bind_some,Zg2 (by dsimp only;omega),Option.bind_some]
 obtain ⟨v,ins,r1,h1,h2,h3,h4⟩:=ZAk (n0:=(Zd6 64 (b,false)).1) (n:=(Zd6 64 (b,false)).1) (nt:=0) (T:=(([]:List In),([]:List Out),(0:Int))) (r:=(Zd6 64 (b,false)).2) (by omega) (by omega)
 have hu2:=ZnR (m:=64) (by omega) r1
 rw [h1,Option.bind_some]
 dsimp only
 rw [Zg2 h2,Option.bind_some]
 obtain ⟨x,q1,q2⟩:=ZyR (n0:=(Zd6 64 (b,false)).1) (m0:=(Zd6 64 r1).1) (m:=(Zd6 64 r1).1) (nt:=0) (T:=(([]:List In),([]:List Out),(0:Int))) (v:=v) (ins:=ins) (r:=(Zd6 64 r1).2) (by omega) (by omega)
 rw [q1,Option.bind_some]
 rcases q2 with ⟨y,rfl⟩|⟨outs,r2,rfl,q2,q3,q4⟩
 ·exact ⟨_,_,rfl⟩
 dsimp only
 have hn:=Vg r2
 rw [Wu q2,Option.bind_some,List.length_nil,Nat.zero_add]
 obtain ⟨z,p1,p2⟩:=ZyT (n0:=(Zd6 64 (b,false)).1) (m0:=(Zd6 64 r1).1) (nt:=(WH r2).1) (T:=(([]:List In),([]:List Out),(0:Int))) (outs:=outs) (v:=v) (ins:=ins) (r:=(WH r2).2) h3 h4 (by omega)
 rw [p1,Option.bind_some]
 rcases p2 with ⟨y,rfl⟩|⟨pre,r3,rfl,p2,p3⟩
 ·exact ⟨_,_,rfl⟩
 dsimp only
 rw [if_pos (by rfl)]
 unfold VI WN
 obtain ⟨k,hk,_⟩:=ZgG (t:=(pre,outs,(WH r2).1)) ⟨q4,p3,hn.2.1⟩
 rw [Option.bind_some,Option.bind_some,hk,Option.bind_some]
 split
 ·exact ⟨_,_,rfl⟩
 split
 ·exact ⟨_,_,rfl⟩
 split
 ·exact ⟨_,_,rfl⟩
 split
 ·exact ⟨_,_,rfl⟩
 split
 ·exact ⟨_,_,rfl⟩
 exact ⟨_,_,rfl⟩
end Go.Proofs.YtehgcchjaamddaaGreat
end
section
set_option maxRecDepth 4000
namespace Go.Proofs.YtehgcchjaamddaaGreat
open Go Go.Ev
def bare (x:In):In:=(x.1,(0,[],0))
theorem ZyU {n0 nt:Int} {T:Tx} {ins:List In} {rest:List UInt8} (hn:ins.length≤64) (hw:∀x,x∈ins→x.1.1.length=32) (hok:∀x,x∈ins→ZqV x) (hr:rest.length≤100000):
 Zj (XL fuel) fuel (n0,(ins.length:Int),(0:Int),T,nt,([]:List Out),([]:List Unit),([]:List In),([]:List In),(cat inF ins++rest,false))=some (n0,T,nt,([]:List Out),List.replicate ins.length (),([]:List In),ins.map bare,(rest,false)):=by
 refine Xb ins.length (fun k:Nat=>(n0,(ins.length:Int),(k:Int),T,nt,([]:List Out),List.replicate k (),([]:List In),(ins.take k).map bare,(cat inF (ins.drop k)++rest,false))) ?_ ?_ (by omega)
 ·intro k hk
  obtain ⟨e,he,hm⟩:=Zw hk
  have hl:=Yt (f:=inF) (c:=41) (fun x hx=>Zq0 (hw x hx) (hok x hx)) hn k
  have hl2:=Yt (f:=inF) (c:=41) (fun x hx=>Zq0 (hw x hx) (hok x hx)) hn (k+1)
  obtain ⟨k1,k2,_⟩:=hok e hm
  have r1:=ZG (n:=e.1.2.toNat) (by omega)
  have h32:=hw e hm
  unfold XL
  dsimp only
  rw [if_pos (Ys hk),ZsE (by simp only [List.length_append];omega),Option.bind_some,ZgI he]
  unfold inF at hl2 ⊢
  rw [List.append_assoc,List.append_assoc,ZyL h32]
  dsimp only
  rw [Wu (by simp only [List.length_append];omega),Option.bind_some,Zak k1 (by omega),if_pos (Yb (by simp;omega) (by simp;omega)),Zv (by omega),Zai he,List.map_append]
  rfl
 ·unfold XL
  dsimp only
  rw [if_neg (by rw [ZM];decide),List.drop_length,List.take_length]
  rfl
theorem ZwI {n0 m0 nt:Int} {T:Tx} {v:List Unit} {ins:List In} {outs:List Out} {rest:List UInt8} (hn:outs.length≤64) (hw:∀x,x∈outs→ZaT x.2) (hok:∀x,x∈outs→ZnK x) (hr:rest.length≤100000):
 Zj (XN fuel) fuel (n0,m0,(outs.length:Int),(0:Int),T,nt,([]:List Out),v,([]:List In),ins,(cat Zis outs++rest,false))=some (.inr (n0,m0,T,nt,outs,v,([]:List In),ins,(rest,false))):=by
 refine Xb outs.length (fun k:Nat=>(n0,m0,(outs.length:Int),(k:Int),T,nt,outs.take k,v,([]:List In),ins,(cat Zis (outs.drop k)++rest,false))) ?_ ?_ (by omega)
 ·intro k hk
  obtain ⟨e,he,hm⟩:=Zw hk
  have hl:=Yt (f:=Zis) (c:=551) (fun x hx=>ZnP (hw x hx) (hok x hx)) hn k
  have hl2:=Yt (f:=Zis) (c:=551) (fun x hx=>ZnP (hw x hx) (hok x hx)) hn (k+1)
  obtain ⟨k1,k2,k3⟩:=hok e hm
  have hlo:=ZlT (hw e hm) k3
  have hll:=Zd5 hlo
  have r1:=ZG (n:=e.1.toNat) (by omega)
  have r2:=ZG (n:=(Zfj e.2).length) (by omega)
  unfold XN
  dsimp only
  rw [if_pos (Ys hk),Wu (by simp only [List.length_append];omega),Option.bind_some,ZgI he]
  unfold Zis at hl2 ⊢
  simp only [List.append_assoc]
  rw [Zak k1 (by omega)]
  dsimp only
  rw [ZsJ (by simp only [List.length_append];omega),Option.bind_some,ZwA (by omega)]
  dsimp only
  rw [ZwH k3 hlo,Option.bind_some]
  dsimp only
  rw [if_neg (by decide),if_pos (Yb (by rw [List.length_take];omega) (by rw [List.length_take];omega)),Zv (by omega),Zai he]
 ·unfold XN
  dsimp only
  rw [if_neg (by rw [ZM];decide),List.drop_length,List.take_length]
  rfl
theorem ZwJ {n0 m0 len i nt:Int} {T:Tx} {outs:List Out} {v:List Unit} {pre post:List In} {fr:Yv} {br:Int} {sec:UInt64} {l:List Sig} {rest:List UInt8} (hs:l.length≤12) (hr:rest.length≤100000):
 Zj (XO fuel) fuel (n0,m0,((pre.length:Nat):Int),len,i,(l.length:Int),(0:Int),T,nt,outs,v,pre,post,fr,br,sec,(cat Zit l++rest,false),([]:List Sig))=some (n0,m0,((pre.length:Nat):Int),len,i,T,nt,outs,v,pre,post,fr,br,sec,(rest,false),l):=by
 refine Xb l.length (fun k:Nat=>(n0,m0,((pre.length:Nat):Int),len,i,(l.length:Int),(k:Int),T,nt,outs,v,pre,post,fr,br,sec,(cat Zit (l.drop k)++rest,false),l.take k)) ?_ ?_ (by omega)
 ·intro k hk
  obtain ⟨e,he,hm⟩:=Zw hk
  have hsl:∀x,x∈l→(Zit x).length≤16:=fun x _=>by unfold Zit;rw [List.length_append,Yx,Yx];exact Nat.le_refl _
  have hl:=Yt (f:=Zit) (c:=16) hsl hs k
  have hl2:=Yt (f:=Zit) (c:=16) hsl hs (k+1)
  have hu:=Yx e.2.toNat
  unfold XO
  dsimp only
  rw [if_pos (Ys hk),if_pos (decide_eq_true (Int.toNat_natCast _)),Zaj (by simp only [List.length_append];omega),Option.bind_some,ZgI he]
  unfold Zit at hl2 ⊢
  rw [List.append_assoc,List.append_assoc,ZjN]
  dsimp only
  rw [Zaj (by simp only [List.length_append];omega),Option.bind_some,ZjN,if_pos (Yb (by rw [List.length_take];omega) (by rw [List.length_take];omega)),if_pos (decide_eq_true (Int.toNat_natCast _)),Zv (by omega),Zai he,Int.toNat_natCast]
 ·unfold XO
  dsimp only
  rw [if_neg (by rw [ZM];decide),List.drop_length,List.take_length,Int.toNat_natCast]
  rfl
theorem ZwK {n0 m0 nt:Int} {T:Tx} {outs:List Out} {v:List Unit} {ins:List In} (hn:ins.length≤64) (hok:∀x,x∈ins→ZqV x):
 Zj (XP fuel) fuel (n0,m0,((ins.length:Nat):Int),(0:Int),T,nt,outs,v,([]:List In),ins.map bare,(cat ZeV ins,false))=some (.inr (n0,m0,T,nt,outs,v,ins,([]:List In),([],false))):=by
 refine Xb ins.length (fun k:Nat=>(n0,m0,((ins.length:Nat):Int),(k:Int),T,nt,outs,v,ins.take k,(ins.drop k).map bare,(cat ZeV (ins.drop k),false))) ?_ ?_ (by omega)
 ·intro k hk
  obtain ⟨e,he,hm⟩:=Zw hk
  have hl:=Yt (f:=ZeV) (c:=218) (fun x hx=>ZjR (hok x hx)) hn k
  have hl2:=Yt (f:=ZeV) (c:=218) (fun x hx=>ZjR (hok x hx)) hn (k+1)
  obtain ⟨_,_,k1,k2,k3⟩:=hok e hm
  have hs:=ZjQ k3 e.2.2.1.length
  rw [List.take_length] at hs
  have r1:=ZG (n:=e.2.1.toNat) (by omega)
  have r2:=ZG (n:=e.2.2.1.length) (by omega)
  have r3:=Yx e.2.2.2.toNat
  have ht:(ins.take k).length=k:=by rw [List.length_take];omega
  unfold XP
  dsimp only
  rw [if_pos (Ys hk),if_pos (decide_eq_true (by omega)),ZlU he,List.map_cons]
  dsimp only [Zqw]
  rw [if_pos (XR (by omega) (by rw [List.length_map,List.length_drop,ht];omega)),Wu (by rw [←ZlU he];dsimp only;omega),Option.bind_some,if_pos (decide_eq_true (by omega)),ZnM]
  unfold ZeV at hl2 ⊢
  simp only [List.append_assoc]
  rw [Zak k1 (by omega)]
  dsimp only
  rw [Zg2 (by simp only [List.length_append];omega),Option.bind_some]
  have q1:=Zq1 (m:=12) (z:=(e.2.2.1.length:Int)) (by omega) (by omega) (by omega) (cat Zit e.2.2.1++(ZgD e.2.2.2.toNat++cat ZeV (ins.drop (k+1))))
  rw [Int.toNat_natCast] at q1
  unfold ZeV at q1
  rw [q1]
  dsimp only
  rw [if_neg (by rw [decide_eq_true_iff];omega)]
  have e1:(((k:Int).toNat:Nat):Int)=(((ins.take k).length:Nat):Int):=by omega
  rw [e1,ZwJ k3 (by simp only [List.length_append];omega),Option.bind_some]
  dsimp only
  rw [Zaj (by simp only [List.length_append];omega),Option.bind_some,ZjN,if_pos (decide_eq_true (by omega)),Zv (by omega),Zai he]
  rfl
 ·unfold XP
  dsimp only
  rw [if_neg (by rw [ZM];decide),List.drop_length,List.take_length]
  rfl
theorem ZAl {t:Tx} (hw:ZlA t) (h:ZwD t):(txF t).length≤60000:=by
 have h1:=(ZnQ hw h).2
 have h2:=ZaL (f:=ZeV) (c:=218) (fun x hx=>ZjR (h.2.2.2.2.1 x hx)) h.2.1 t.1.length
 rw [List.take_length] at h2
 unfold txF
 rw [List.length_append]
 omega
theorem ZAm {t:Tx} (hw:ZlA t) (hr:Yu fuel t=some true) (h:ZwD t):Y4 fuel (txF t)=some (t,true):=by
 have hlen:=ZAl hw h
 obtain ⟨ins,outs,note⟩:=t
 obtain ⟨w1,w2,w3⟩:=hw
 obtain ⟨h1,h2,h3,h4,h5,h6⟩:=h
 dsimp only at w1 w2 w3 h1 h2 h3 h4 h5 h6
 unfold Y4
 rw [ZlS (by omega),Option.bind_some,Zg2 (by dsimp only;omega),Option.bind_some]
 unfold txF ZgH at hlen ⊢
 simp only [List.append_assoc,List.length_append] at hlen ⊢
 have q1:=Zq1 (m:=64) (z:=(ins.length:Int)) (by omega) (by omega) (by omega) (cat inF ins++(YQ outs.length++(cat Zis outs++(YQ note.toNat++cat ZeV ins))))
 rw [Int.toNat_natCast] at q1
 rw [q1]
 dsimp only
 rw [ZyU h2 w2 h5 (by simp only [List.length_append];omega),Option.bind_some]
 dsimp only
 have q2:=Zq1 (m:=64) (z:=(outs.length:Int)) (by omega) (by omega) (by omega) (cat Zis outs++(YQ note.toNat++cat ZeV ins))
 rw [Int.toNat_natCast] at q2
 rw [Zg2 (by simp only [List.length_append];omega),Option.bind_some,q2]
 dsimp only
 rw [ZwI h3 w1 h6 (by simp only [List.length_append];omega),Option.bind_some]
 dsimp only
 rw [Wu (by simp only [List.length_append];omega),Option.bind_some,Zak h4 w3,List.length_nil,Nat.zero_add,List.length_map]
 dsimp only
 rw [ZwK h2 h5,Option.bind_some]
 dsimp only
 rw [if_pos List.isEmpty_nil,if_neg (by rw [decide_eq_true_iff];omega),if_neg (by rw [decide_eq_true_iff];omega)]
 unfold VI WN
 rw [Option.bind_some,if_neg (by decide),Option.bind_some,if_neg (by decide),hr,Option.bind_some,if_neg (by decide)]
end Go.Proofs.YtehgcchjaamddaaGreat
end
section
set_option maxRecDepth 4000
namespace Go.Proofs.YtehgcchjaamddaaGreat
open Go Go.Ev
theorem ZyV {no:UInt64} {key:List UInt8} (hk:key.length≤50000):∃h,WA fuel no key=some (h,no+1,key)∧h.length=32:=by
 unfold WA
 generalize ([0,0,0,0,0,0,0,0,0,0,0,0,0,0,0,0,0,0,0,0,0,0,0,0,0,0,0,0,0,0,0,0]:List UInt8)=z
 obtain ⟨x,h1,b,rfl,h2⟩:=YM (step:=Xq fuel) 8 (fun k s=>∃b,s=((k:Int),no,key,z,b)∧b.length=8) (fun x=>∃b,x=(no,key,z,b)∧b.length=8) (i:=((0:Int),no,key,z,([0,0,0,0,0,0,0,0]:List UInt8))) ⟨_,rfl,rfl⟩ (by omega) (by
  rintro k _ hk ⟨b,rfl,h2⟩
  left
  obtain ⟨e,he,_⟩:=Zw (l:=b) (k:=k) (by omega)
  unfold Xq
  dsimp only
  rw [if_pos (decide_eq_true (by omega)),Yp (z:=8*(k:Int)) (by omega) (by omega),Yp (z:=56 - 8*(k:Int)) (by omega) (by omega),if_pos (decide_eq_true (by omega)),if_pos (XR (by omega) (by omega)),
   Int.toNat_natCast,he,Option.bind_some,Zv (by omega)]
  exact ⟨_,rfl,_,rfl,by rw [List.length_set];exact h2⟩) (by
  rintro _ ⟨b,rfl,h2⟩
  unfold Xq
  dsimp only
  rw [if_neg (by simp)]
  exact ⟨_,rfl,_,rfl,h2⟩)
 rw [h1,Option.bind_some]
 dsimp only
 obtain ⟨h,h3,h4⟩:=Zg1 (s:=ZyG) (ls:=[key,b]) (by decide) (by simp) (by
  intro l hl
  rcases List.mem_cons.1 hl with rfl|hl
  ·omega
  ·rw [List.mem_singleton.1 hl];omega)
 rw [h3,Option.bind_some]
 exact ⟨h,rfl,h4⟩
theorem ZnS {key:List UInt8} {n:Nat} (hk:key.length≤50000) (hn:n≤65536):∃v s,Y2 fuel key (n:Int)=some (v,s)∧s.length=n:=by
 unfold Y2 ZeE
 have hb:(true&&Ze2 (wi ((n:Int)+32)) 1)=true:=by
  rw [Yp (by omega) (by omega),Bool.true_and]
  unfold Ze2 lenB
  rw [Bool.and_eq_true,Bool.and_eq_true]
  exact ⟨decide_eq_true (by omega),decide_eq_true (by unfold bytesBound;omega),decide_eq_true (by unfold maxLen;omega)⟩
 rw [if_neg (by rw [decide_eq_true_iff];omega),if_neg (by rw [decide_eq_true_iff];omega),if_pos hb,Option.bind_some]
 dsimp only
 obtain ⟨x,h1,k,v,o,no,rfl,h2⟩:=Z3 (step:=Wm fuel) (fun s=>∃v o no,s=((n:Int),key,([]:List Unit),([]:List UInt8),v,o,no,key)∧o.length≤65600) (fun s=>65600 - s.2.2.2.2.2.1.length) (fun x=>∃k v o no,x=((n:Int),key,([]:List Unit),([]:List UInt8),v,o,no,k)∧n≤o.length) (by
  rintro _ ⟨v,o,no,rfl,h2⟩
  unfold Wm
  dsimp only
  by_cases hl:(o.length:Int) < (n:Int)
  ·left
   obtain ⟨h,h3,h4⟩:=ZyV (no:=no) hk
   rw [if_pos (decide_eq_true hl),h3,Option.bind_some]
   dsimp only
   rw [if_pos (Yb (by omega) (by omega))]
   exact ⟨_,rfl,⟨_,_,_,rfl,by rw [List.length_append];omega⟩,by dsimp only;rw [List.length_append];omega⟩
  ·right
   rw [if_neg (by rw [decide_eq_true_iff];exact hl)]
   exact ⟨_,rfl,_,_,_,_,rfl,by omega⟩) ((n:Int),key,([]:List Unit),([]:List UInt8),([]:List Unit),([]:List UInt8),(0:UInt64),key) ⟨_,_,_,rfl,by simp⟩ (by simp)
 rw [h1,Option.bind_some]
 dsimp only
 rw [if_pos (by rw [Bool.and_eq_true];exact ⟨decide_eq_true (by omega),decide_eq_true (by omega)⟩)]
 exact ⟨_,_,rfl,by rw [List.length_take];omega⟩
def ZeW (s b:List UInt8):List UInt8:=List.zipWith (· ^^^ ·) s b
def Zkw (s b:List UInt8) (k:Nat):List UInt8:=(ZeW s b).take k++s.drop k
theorem Zcp {s b:List UInt8} (h:s.length=b.length):(ZeW s b).length=b.length:=by unfold ZeW;rw [List.length_zipWith];omega
theorem ZsN {s b:List UInt8} {k:Nat} {x:UInt8} (h:s.length=b.length) (hx:s[k]? =some x):(Zkw s b k)[k]? =some x:=by
 have hk:=(List.getElem?_eq_some_iff.1 hx).1
 have hl:=Zcp h
 unfold Zkw
 rw [List.getElem?_append_right (by rw [List.length_take];omega),List.length_take,List.getElem?_drop]
 rw [←hx]
 congr 1
 omega
theorem ZsO {s b:List UInt8} {k:Nat} {x y:UInt8} (h:s.length=b.length) (hx:s[k]? =some x) (hy:b[k]? =some y):(Zkw s b k).set k (x^^^y)=Zkw s b (k+1):=by
 have hk:=(List.getElem?_eq_some_iff.1 hx).1
 have hl:=Zcp h
 have hz:(ZeW s b)[k]? =some (x^^^y):=by
  unfold ZeW
  rw [List.getElem?_zipWith,hx,hy]
 unfold Zkw
 rw [Zai hz,List.set_append_right _ _ (by rw [List.length_take];omega),List.length_take,ZlU hx,List.append_assoc]
 congr 1
 rw [show k - min k (ZeW s b).length=0 by omega]
 rfl
theorem ZjS {s b:List UInt8} {k:Nat} (h:s.length=b.length):(Zkw s b k).length=b.length:=by
 have hl:=Zcp h
 unfold Zkw
 rw [List.length_append,List.length_take,List.length_drop]
 omega
theorem ZnT:∀{s b:List UInt8},s.length=b.length→ZeW s (ZeW s b)=b
 |[],[],_=>rfl
 |x::s,y::b,h=>by
  have ih:=ZnT (s:=s) (b:=b) (by simpa using h)
  unfold ZeW at ih ⊢
  rw [List.zipWith_cons_cons,List.zipWith_cons_cons,ih]
  congr 1
  rw [←UInt8.xor_assoc,UInt8.xor_self,UInt8.zero_xor]
theorem Zvr {key b s:List UInt8} {v:List Unit} (h:Y2 fuel key (b.length:Int)=some (v,s)) (hl:s.length=b.length) (hb:b.length≤1000000):ZeH fuel key b=some (ZeW s b):=by
 unfold ZeH
 rw [h,Option.bind_some]
 dsimp only
 rw [show (b,(b.length:Int),(0:Int),key,v,s)=(fun k:Nat=>(b,(b.length:Int),(k:Int),key,v,Zkw s b k)) 0 from rfl,
  Xb (x:=(key,v,ZeW s b)) b.length (fun k:Nat=>(b,(b.length:Int),(k:Int),key,v,Zkw s b k)) ?_ ?_ (by omega),Option.bind_some]
 ·intro k hk
  obtain ⟨y,hy,_⟩:=Zw hk
  obtain ⟨x,hx,_⟩:=Zw (l:=s) (k:=k) (by omega)
  unfold Zaf
  dsimp only
  rw [if_pos (Ys hk),if_pos (XR (by omega) (by rw [ZjS hl];omega)),Int.toNat_natCast,ZsN hl hx,Option.bind_some,ZH hy,Option.bind_some,Option.bind_some,Zv (by omega),ZsO hl hx hy,if_pos (XR (by omega) (by rw [ZjS hl];omega))]
 ·unfold Zaf
  dsimp only
  rw [if_neg (by rw [ZM];decide)]
  unfold Zkw
  rw [List.take_of_length_le (by rw [Zcp hl];exact Nat.le_refl _),List.drop_of_length_le (by omega),List.append_nil]
theorem ZyW {key b s:List UInt8} {v:List Unit} (h:Y2 fuel key (b.length:Int)=some (v,s)) (hl:s.length=b.length) (hb:b.length≤1000000):Zag fuel key b=some (v,ZeW s b):=by
 unfold Zag
 rw [h,Option.bind_some]
 dsimp only
 rw [show (b,(b.length:Int),(0:Int),key,([]:List Unit),([]:List UInt8),v,s)=(fun k:Nat=>(b,(b.length:Int),(k:Int),key,([]:List Unit),([]:List UInt8),v,Zkw s b k)) 0 from rfl,
  Xb (x:=(key,([]:List Unit),([]:List UInt8),v,ZeW s b)) b.length (fun k:Nat=>(b,(b.length:Int),(k:Int),key,([]:List Unit),([]:List UInt8),v,Zkw s b k)) ?_ ?_ (by omega),Option.bind_some]
 ·intro k hk
  obtain ⟨y,hy,_⟩:=Zw hk
  obtain ⟨x,hx,_⟩:=Zw (l:=s) (k:=k) (by omega)
  unfold Vm
  dsimp only
  rw [if_pos (Ys hk),if_pos (XR (by omega) (by rw [ZjS hl];omega)),Int.toNat_natCast,ZsN hl hx,Option.bind_some,ZH hy,Option.bind_some,Option.bind_some,Zv (by omega),ZsO hl hx hy,if_pos (XR (by omega) (by rw [ZjS hl];omega))]
 ·unfold Vm
  dsimp only
  rw [if_neg (by rw [ZM];decide)]
  unfold Zkw
  rw [List.take_of_length_le (by rw [Zcp hl];exact Nat.le_refl _),List.drop_of_length_le (by omega),List.append_nil]
theorem Zlk {key h:List UInt8} (hk:key.length≤50000) (hh:h.length≤50000):∃t,ZdT fuel key h=some t∧t.length=8:=by
 unfold ZdT
 obtain ⟨o,h3,h4⟩:=Zg1 (s:=ZAE) (ls:=[key,h]) (by decide) (by simp) (by
  intro l hl
  rcases List.mem_cons.1 hl with rfl|hl
  ·omega
  ·rw [List.mem_singleton.1 hl];omega)
 rw [h3,Option.bind_some,if_pos (decide_eq_true (by rw [List.length_take];omega))]
 exact ⟨_,rfl,by rw [List.length_take,List.length_take];omega⟩
theorem ZyX {key b:List UInt8} (hk:key.length≤50000) (hb:b.length≤50000):∃x ok,Yc fuel key b=some (x,ok)∧x.length≤50000:=by
 unfold Yc
 rw [Yp (z:=(b.length:Int) - 8) (by omega) (by omega)]
 by_cases h1:(b.length:Int) - 8 < 0
 ·rw [if_pos (decide_eq_true h1)]
  exact ⟨_,_,rfl,by simp⟩
 rw [if_neg (by rw [decide_eq_true_iff];exact h1),if_neg (by rw [decide_eq_true_iff];omega),if_pos (ZeR (by omega) (by omega))]
 obtain ⟨t,ht,_⟩:=Zlk (key:=key) (h:=b.take ((b.length:Int) - 8).toNat) hk (by rw [List.length_take];omega)
 rw [ht,Option.bind_some,if_pos (ZeQ (by omega) (by omega)),if_pos (decide_eq_true (by rw [List.length_drop];omega))]
 dsimp only
 split
 ·exact ⟨_,_,rfl,by simp⟩
 ·have hl:(b.take ((b.length:Int) - 8).toNat).length≤50000:=by rw [List.length_take];omega
  generalize b.take ((b.length:Int) - 8).toNat=h at hl
  obtain ⟨v,s,hs1,hs2⟩:=ZnS (key:=key) (n:=h.length) hk (by omega)
  rw [Zvr hs1 hs2 (by omega),Option.bind_some,if_pos (ZeR (by omega) (by omega))]
  exact ⟨_,_,rfl,by rw [Zcp hs2];exact hl⟩
theorem ZwL {key x:List UInt8} (hk:key.length≤50000) (hx:x.length≤40000):∃b,ZeJ fuel key x=some b∧b.length=x.length+8∧Yc fuel key b=some (x,true):=by
 obtain ⟨v,s,hs1,hs2⟩:=ZnS (key:=key) (n:=x.length) hk (by omega)
 have hl:=Zcp hs2
 obtain ⟨t,ht1,ht2⟩:=Zlk (key:=key) (h:=ZeW s x) hk (by omega)
 have hb:(ZeW s x++t).length=x.length+8:=by rw [List.length_append];omega
 refine ⟨ZeW s x++t, ?_,hb, ?_⟩
 ·unfold ZeJ
  rw [if_neg (by rw [decide_eq_true_iff];omega),ZyW hs1 hs2 (by omega),Option.bind_some]
  dsimp only
  rw [ht1,Option.bind_some,if_pos (Yb (by omega) (by omega))]
 ·have e1:(ZeW s x++t).take x.length=ZeW s x:=by rw [←hl,List.take_left]
  have e2:(ZeW s x++t).drop x.length=t:=by rw [←hl,List.drop_left]
  unfold Yc
  rw [hb,Yp (z:=((x.length+8:Nat):Int) - 8) (by omega) (by omega),show (((x.length+8:Nat):Int) - 8).toNat=x.length by omega]
  rw [if_neg (by rw [decide_eq_true_iff];omega),if_neg (by rw [decide_eq_true_iff];omega),if_pos (ZeR (by omega) (by omega)),e1,e2,ht1,Option.bind_some,if_pos (ZeQ (by omega) (by omega)),if_pos (decide_eq_true (by omega))]
  dsimp only
  rw [List.take_of_length_le (l:=t) (by omega),if_neg (by simp),Zvr (v:=v) (s:=s) (by rw [hl];exact hs1) (by omega) (by omega),Option.bind_some,ZnT hs2,if_pos (ZeR (by omega) (by omega))]
theorem ZsP {id:List UInt8} (h:id.length≤50000):∃o,Xd fuel id=some o:=by
 unfold Xd
 obtain ⟨o,h3,h4⟩:=Zg1 (s:=ZAC) (ls:=[id]) (by decide) (by simp) (by
  intro l hl
  rw [List.mem_singleton.1 hl];omega)
 rw [h3,Option.bind_some,if_pos (decide_eq_true (by rw [List.length_take];omega))]
 exact ⟨_,rfl⟩
theorem Zq2 {id:List UInt8} (h:id.length≤50000):∃o,Y1 fuel id=some o∧o.length=32:=by
 unfold Y1
 obtain ⟨o,h3,h4⟩:=Zg1 (s:=ZAD) (ls:=[id]) (by decide) (by simp) (by
  intro l hl
  rw [List.mem_singleton.1 hl];omega)
 rw [h3,Option.bind_some]
 exact ⟨_,rfl,h4⟩
theorem ZyY {t:Tx} (hw:ZlA t):∃o,Zdm fuel t=some o∧o.length=32:=by
 unfold Zdm
 obtain ⟨b,hb,hb2⟩:=ZgG hw
 rw [hb,Option.bind_some]
 cases b with
 |false=>exact ⟨_,rfl,rfl⟩
 |true=>
  obtain ⟨h1,h2⟩:=ZnQ hw (hb2 rfl)
  obtain ⟨o,h3,h4⟩:=Zg1 (s:=ZAF) (ls:=[ZgH t]) (by decide) (by simp) (by
   intro l hl
   rw [List.mem_singleton.1 hl];omega)
  rw [if_neg (by decide),h1,Option.bind_some,h3,Option.bind_some]
  exact ⟨_,rfl,h4⟩
end Go.Proofs.YtehgcchjaamddaaGreat
end
section
set_option maxRecDepth 4000
namespace Go.Proofs.YtehgcchjaamddaaGreat
open Go Go.Ev
theorem ZjT {I α:Type} {step:I→Option (I⊕(Bool⊕Unit))} (st:Nat→I) (a b:List α) (f:α→α→Option Bool) (hl:a.length=b.length) (hn:b.length < 18446744073709551616)
 (hf:∀e g,e∈a→g∈b→∃r,f e g=some r∧(e=g→r=true))
 (hs:∀k e g,k < b.length→a[k]? =some e→b[k]? =some g→step (st k)=(f e g).bind fun o=>if (!o)=true then some (.inr (.inl false)) else some (.inl (st (k+1)))) (he:step (st b.length)=some (.inr (.inr ()))):
 ∃x,Zj step fuel (st 0)=some x∧((x=.inl false∧a≠b)∨x=.inr ()):=by
 refine YM (step:=step) b.length (fun k s=>s=st k) _ rfl hn ?_ ?_
 ·rintro k _ hk rfl
  obtain ⟨e,hz,hm⟩:=Zw (l:=a) (k:=k) (by omega)
  obtain ⟨g,hg,hm2⟩:=Zw hk
  obtain ⟨r,hr1,hr2⟩:=hf e g hm hm2
  rw [hs k e g hk hz hg,hr1,Option.bind_some]
  cases r with
  |true=>left;exact ⟨_,rfl,rfl⟩
  |false=>
   right
   refine ⟨_,rfl,.inl ⟨rfl,fun h=> ?_⟩⟩
   subst h
   rw [hz] at hg
   cases hg
   have:=hr2 rfl
   cases this
 ·rintro _ rfl
  exact ⟨_,he,.inr rfl⟩
theorem ZwM {a b:List Sig} (h:b.length≤1000000):∃r,Zjw fuel a b=some r∧(a=b→r=true):=by
 unfold Zjw
 by_cases hl:a.length=b.length
 ·rw [if_neg (by simp [hl])]
  obtain ⟨x,h1,h2⟩:=ZjT (step:=Zaz fuel) (fun k:Nat=>(a,b,(a.length:Int),(k:Int))) a b (fun e g=>some (decide (e=g))) hl (by omega) (fun e g _ _=>⟨_,rfl,fun h=>decide_eq_true h⟩) (by
   intro k e g hk he hg
   unfold Zaz
   dsimp only
   rw [if_pos (decide_eq_true (by omega)),ZH he,Option.bind_some,ZH hg,Option.bind_some,Zv (by omega),Option.bind_some]) (by
   unfold Zaz
   dsimp only
   rw [hl,if_neg (by rw [ZM];decide)])
  rw [show ((0:Nat):Int)=0 from rfl] at h1
  rw [h1,Option.bind_some]
  rcases h2 with ⟨rfl,h2⟩|rfl
  ·exact ⟨_,rfl,fun h=>absurd h h2⟩
  ·exact ⟨_,rfl,fun _=>rfl⟩
 ·rw [if_pos (by simp;omega)]
  exact ⟨_,rfl,fun h=>by rw [h] at hl;exact absurd rfl hl⟩
theorem ZwN {a b:List UInt64} (h:b.length≤1000000):∃r,Zah fuel a b=some r∧(a=b→r=true):=by
 unfold Zah
 by_cases hl:a.length=b.length
 ·rw [if_neg (by simp [hl])]
  obtain ⟨x,h1,h2⟩:=ZjT (step:=X3 fuel) (fun k:Nat=>(a,b,(a.length:Int),(k:Int))) a b (fun e g=>some (e==g)) hl (by omega) (fun e g _ _=>⟨_,rfl,fun h=>by rw [h];exact beq_self_eq_true _⟩) (by
   intro k e g hk he hg
   unfold X3
   dsimp only
   rw [if_pos (decide_eq_true (by omega)),ZH he,Option.bind_some,ZH hg,Option.bind_some,Zv (by omega),Option.bind_some]
   rfl) (by
   unfold X3
   dsimp only
   rw [hl,if_neg (by rw [ZM];decide)])
  rw [show ((0:Nat):Int)=0 from rfl] at h1
  rw [h1,Option.bind_some]
  rcases h2 with ⟨rfl,h2⟩|rfl
  ·exact ⟨_,rfl,fun h=>absurd h h2⟩
  ·exact ⟨_,rfl,fun _=>rfl⟩
 ·rw [if_pos (by simp;omega)]
  exact ⟨_,rfl,fun h=>by rw [h] at hl;exact absurd rfl hl⟩
theorem ZAn {a b:In} (h:b.2.2.1.length≤1000000):∃r,Zb8 fuel a b=some r∧(a=b→r=true):=by
 unfold Zb8
 obtain ⟨r,h1,h2⟩:=ZwM (a:=a.2.2.1) h
 rw [h1,Option.bind_some]
 by_cases k1:a.1=b.1
 ·rw [if_pos (decide_eq_true k1)]
  by_cases k2:a.2.1=b.2.1
  ·rw [if_pos (by rw [k2];exact beq_self_eq_true _)]
   by_cases k3:a.2.2.2=b.2.2.2
   ·rw [if_pos (by rw [k3];exact beq_self_eq_true _)]
    exact ⟨_,rfl,fun h=>h2 (by rw [h])⟩
   ·rw [if_neg (by rw [beq_iff_eq];exact k3)]
    exact ⟨_,rfl,fun h=>absurd (by rw [h]) k3⟩
  ·rw [if_neg (by rw [beq_iff_eq];exact k2)]
   exact ⟨_,rfl,fun h=>absurd (by rw [h]) k2⟩
 ·rw [if_neg (by rw [decide_eq_true_iff];exact k1)]
  exact ⟨_,rfl,fun h=>absurd (by rw [h]) k1⟩
theorem ZAo {a b:ZT} (h:b.1.length≤1000000):∃r,Zb9 fuel a b=some r∧(a=b→r=true):=by
 unfold Zb9
 obtain ⟨r,h1,h2⟩:=ZwN (a:=a.1) h
 rw [h1,Option.bind_some]
 by_cases k1:a.2.1=b.2.1
 ·rw [if_pos (by rw [k1];exact beq_self_eq_true _)]
  by_cases k2:a.2.2.1=b.2.2.1
  ·rw [if_pos (by rw [k2];exact beq_self_eq_true _)]
   by_cases k3:a.2.2.2=b.2.2.2
   ·rw [if_pos (by rw [k3];exact beq_self_eq_true _)]
    exact ⟨_,rfl,fun h=>h2 (by rw [h])⟩
   ·rw [if_neg (by rw [beq_iff_eq];exact k3)]
    exact ⟨_,rfl,fun h=>absurd (by rw [h]) k3⟩
  ·rw [if_neg (by rw [beq_iff_eq];exact k2)]
   exact ⟨_,rfl,fun h=>absurd (by rw [h]) k2⟩
 ·rw [if_neg (by rw [beq_iff_eq];exact k1)]
  exact ⟨_,rfl,fun h=>absurd (by rw [h]) k1⟩
theorem ZyZ {a b:List ZT} (h:b.length≤1000000) (hk:∀x,x∈b→x.1.length≤1000000):∃r,ZcZ fuel a b=some r∧(a=b→r=true):=by
 unfold ZcZ
 by_cases hl:a.length=b.length
 ·rw [if_neg (by simp [hl])]
  obtain ⟨x,h1,h2⟩:=ZjT (step:=Va fuel) (fun k:Nat=>(b,a,(a.length:Int),(k:Int))) a b (Zb9 fuel) hl (by omega) (fun e g _ hg=>ZAo (hk g hg)) (by
   intro k e g hk he hg
   unfold Va
   dsimp only
   rw [if_pos (decide_eq_true (by omega)),ZH he,Option.bind_some,ZH hg,Option.bind_some,Zv (by omega)]) (by
   unfold Va
   dsimp only
   rw [hl,if_neg (by rw [ZM];decide)])
  rw [show ((0:Nat):Int)=0 from rfl] at h1
  rw [h1,Option.bind_some]
  rcases h2 with ⟨rfl,h2⟩|rfl
  ·exact ⟨_,rfl,fun h=>absurd h h2⟩
  ·exact ⟨_,rfl,fun _=>rfl⟩
 ·rw [if_pos (by simp;omega)]
  exact ⟨_,rfl,fun h=>by rw [h] at hl;exact absurd rfl hl⟩
theorem Zy0 {a b:Out} (h:b.2.length≤1000000) (hk:∀x,x∈b.2→x.1.length≤1000000):∃r,Zcb fuel a b=some r∧(a=b→r=true):=by
 unfold Zcb
 obtain ⟨r,h1,h2⟩:=ZyZ (a:=a.2) h hk
 rw [h1,Option.bind_some]
 by_cases k1:a.1=b.1
 ·rw [if_pos (by rw [k1];exact beq_self_eq_true _)]
  exact ⟨_,rfl,fun h=>h2 (by rw [h])⟩
 ·rw [if_neg (by rw [beq_iff_eq];exact k1)]
  exact ⟨_,rfl,fun h=>absurd (by rw [h]) k1⟩
theorem Zy1 {a b:List In} (h:b.length≤1000000) (hk:∀x,x∈b→x.2.2.1.length≤1000000):∃r,ZlR fuel a b=some r∧(a=b→r=true):=by
 unfold ZlR
 by_cases hl:a.length=b.length
 ·rw [if_neg (by simp [hl])]
  obtain ⟨x,h1,h2⟩:=ZjT (step:=Zca fuel) (fun k:Nat=>(b,a,(a.length:Int),(k:Int))) a b (Zb8 fuel) hl (by omega) (fun e g _ hg=>ZAn (hk g hg)) (by
   intro k e g hk he hg
   unfold Zca
   dsimp only
   rw [if_pos (decide_eq_true (by omega)),ZH he,Option.bind_some,ZH hg,Option.bind_some,Zv (by omega)]) (by
   unfold Zca
   dsimp only
   rw [hl,if_neg (by rw [ZM];decide)])
  rw [show ((0:Nat):Int)=0 from rfl] at h1
  rw [h1,Option.bind_some]
  rcases h2 with ⟨rfl,h2⟩|rfl
  ·exact ⟨_,rfl,fun h=>absurd h h2⟩
  ·exact ⟨_,rfl,fun _=>rfl⟩
 ·rw [if_pos (by simp;omega)]
  exact ⟨_,rfl,fun h=>by rw [h] at hl;exact absurd rfl hl⟩
theorem ZwO {a b:List Out} (h:b.length≤1000000) (hk:∀o,o∈b→o.2.length≤1000000∧∀x,x∈o.2→x.1.length≤1000000):∃r,ZjB fuel a b=some r∧(a=b→r=true):=by
 unfold ZjB
 by_cases hl:a.length=b.length
 ·rw [if_neg (by simp [hl])]
  obtain ⟨x,h1,h2⟩:=ZjT (step:=ZaA fuel) (fun k:Nat=>(b,a,(a.length:Int),(k:Int))) a b (Zcb fuel) hl (by omega) (fun e g _ hg=>Zy0 (hk g hg).1 (hk g hg).2) (by
   intro k e g hk he hg
   unfold ZaA
   dsimp only
   rw [if_pos (decide_eq_true (by omega)),ZH he,Option.bind_some,ZH hg,Option.bind_some,Zv (by omega)]) (by
   unfold ZaA
   dsimp only
   rw [hl,if_neg (by rw [ZM];decide)])
  rw [show ((0:Nat):Int)=0 from rfl] at h1
  rw [h1,Option.bind_some]
  rcases h2 with ⟨rfl,h2⟩|rfl
  ·exact ⟨_,rfl,fun h=>absurd h h2⟩
  ·exact ⟨_,rfl,fun _=>rfl⟩
 ·rw [if_pos (by simp;omega)]
  exact ⟨_,rfl,fun h=>by rw [h] at hl;exact absurd rfl hl⟩
theorem ZAp {a b:Tx} (hw:ZlA b) (h:ZwD b):∃r,ZjC fuel a b=some r∧(a=b→r=true):=by
 obtain ⟨h1,h2,h3,h4,h5,h6⟩:=h
 unfold ZjC
 by_cases k1:a.2.2=b.2.2
 ·rw [if_pos (by rw [k1];exact beq_self_eq_true _)]
  obtain ⟨r,r1,r2⟩:=Zy1 (a:=a.1) (b:=b.1) (by omega) (fun x hx=>by have:=(h5 x hx).2.2.2.2;omega)
  rw [r1,Option.bind_some]
  obtain ⟨q,q1,q2⟩:=ZwO (a:=a.2.1) (b:=b.2.1) (by omega) (fun o ho=>by
   have hl:=ZlT (hw.1 o ho) (h6 o ho).2.2
   exact ⟨by have:=hl.2.1;omega,fun x hx=>by have:=(hl.2.2 x hx).1;omega⟩)
  rw [q1,Option.bind_some]
  cases r with
  |true=>exact ⟨_,rfl,fun h=>q2 (by rw [h])⟩
  |false=>exact ⟨_,rfl,fun h=>by have:=r2 (by rw [h]);cases this⟩
 ·rw [if_neg (by rw [beq_iff_eq];exact k1)]
  exact ⟨_,rfl,fun h=>absurd (by rw [h]) k1⟩
section
variable {K V:Type} [DecidableEq K]
theorem Zps (m:List (K×V)) (k j:K) (v:V):V6 (ZfH m k v) j=if j=k then some v else V6 m j:=by
 induction m with
 |nil=>simp only [ZfH,V6]
 |cons q m ih=>
  unfold ZfH
  by_cases h:k=q.1
  ·rw [if_pos h]
   by_cases h2:j=k
   ·rw [if_pos h2];simp only [V6,if_pos h2]
   ·rw [if_neg h2];simp only [V6,if_neg h2];rw [if_neg (by rw [←h];exact h2)]
  ·rw [if_neg h]
   unfold V6
   by_cases h2:j=q.1
   ·rw [if_pos h2,if_neg (by rw [h2];exact fun h3=>h h3.symm),if_pos h2]
   ·rw [if_neg h2,ih,if_neg h2]
theorem ZwP (kf:V→K) (l:List V):(∀k L,V6 (Zbf kf l) k=some L→(∀p,p∈L→p∈l)∧L.length≤l.length)∧∀p,p∈l→∃L,V6 (Zbf kf l) (kf p)=some L∧p∈L:=by
 have key:∀n,n≤l.length→(∀k L,V6 (Zbf kf (l.take n)) k=some L→(∀p,p∈L→p∈l.take n)∧L.length≤n)∧∀p,p∈l.take n→∃L,V6 (Zbf kf (l.take n)) (kf p)=some L∧p∈L:=by
  intro n
  induction n with
  |zero=>
   intro _
   rw [List.take_zero]
   exact ⟨fun k L h=>(by cases h),fun p h=>(by cases h)⟩
  |succ n ih=>
   intro hn
   obtain ⟨i1,i2⟩:=ih (by omega)
   obtain ⟨e,he,_⟩:=Zw (l:=l) (k:=n) (by omega)
   rw [Zai he,Zpd]
   unfold Zz9
   constructor
   ·intro k L h
    rw [Zps] at h
    split at h
    ·cases h
     cases hm:V6 (Zbf kf (l.take n)) (kf e) with
     |none=>
      rw [Option.getD_none]
      exact ⟨fun p hp=>List.mem_append_right _ hp,by simp⟩
     |some L0=>
      obtain ⟨j1,j2⟩:=i1 _ _ hm
      rw [Option.getD_some]
      refine ⟨fun p hp=> ?_,by rw [List.length_append,List.length_singleton];omega⟩
      rcases List.mem_append.1 hp with hp|hp
      ·exact List.mem_append_left _ (j1 p hp)
      ·exact List.mem_append_right _ hp
    ·obtain ⟨j1,j2⟩:=i1 _ _ h
     exact ⟨fun p hp=>List.mem_append_left _ (j1 p hp),by omega⟩
   ·intro p hp
    rw [Zps]
    rcases List.mem_append.1 hp with hp|hp
    ·obtain ⟨L,h1,h2⟩:=i2 p hp
     by_cases hk:kf p=kf e
     ·rw [if_pos hk, ←hk,h1]
      exact ⟨_,rfl,List.mem_append_left _ h2⟩
     ·rw [if_neg hk]
      exact ⟨L,h1,h2⟩
    ·rw [List.mem_singleton.1 hp,if_pos rfl]
     exact ⟨_,rfl,List.mem_append_right _ (List.mem_singleton.2 rfl)⟩
 have:=key l.length (Nat.le_refl _)
 rwa [List.take_length] at this
end
theorem Zuc {K V:Type} [i:DecidableEq K] (j:DecidableEq K) (kf:V→K) (l:List V):(∀k L,@V6 K (List V) i (@Zbf K V j kf l) k=some L→(∀p,p∈L→p∈l)∧L.length≤l.length)∧∀p,p∈l→∃L,@V6 K (List V) i (@Zbf K V j kf l) (kf p)=some L∧p∈L:=by
 have:j=i:=Subsingleton.elim _ _
 subst this
 exact ZwP kf l
end Go.Proofs.YtehgcchjaamddaaGreat
end
section
set_option maxRecDepth 4000
namespace Go.Proofs.YtehgcchjaamddaaGreat
open Go Go.Ev Go.Sha
theorem Zy2 {z:Int} {b:List UInt8} (h:b.length≤1000000):∃o,YJ fuel z b=some o∧o.length=b.length+8:=by
 unfold YJ
 obtain ⟨x,h1,h2⟩:=YM (step:=YD fuel) 8 (fun k s=>∃c d,s=(z,56 - 8*(k:Int),c,d)∧c.length=b.length+k) (fun x=>x.1.length=b.length+8) (i:=(z,(56:Int),b,([]:List UInt8))) ⟨b,[],rfl,rfl⟩ (by omega) (by
  rintro k _ hk ⟨c,d,rfl,h2⟩
  left
  unfold YD
  dsimp only
  rw [if_pos (decide_eq_true (by omega)),if_pos (decide_eq_true (by omega)),if_pos (Yb (by omega) (by omega)),Yp (z:=56 - 8*(k:Int) - 8) (by omega) (by omega)]
  exact ⟨_,rfl,_,_,by rw [show (56:Int) - 8*(k:Int) - 8=56 - 8*((k+1:Nat):Int) by omega],by rw [List.length_append,List.length_singleton];omega⟩) (by
  rintro _ ⟨c,d,rfl,h2⟩
  unfold YD
  dsimp only
  rw [if_neg (by rw [decide_eq_true_iff];omega)]
  exact ⟨_,rfl,h2⟩)
 rw [h1,Option.bind_some]
 exact ⟨_,rfl,h2⟩
theorem Zvs {st:List UInt32} {l:List UInt8} (hs:st.length=8) (h:l.length=64):∃o,Xz fuel st l=some o∧o.length=8:=by
 obtain ⟨o,h1,h2⟩:=Zt3 hs h
 refine ⟨o,h1, ?_⟩
 rw [←List.length_map (f:=UInt32.toNat),h2]
 exact ZdJ (by rw [List.length_map];exact hs)
theorem Zy3 {l:List UInt8} (h:l.length≤9223372036854775807):∃o,VO fuel l=some o:=by
 unfold VO
 have hm:Int.tmod (l.length:Int) 64=((l.length % 64:Nat):Int):=rfl
 have hlt:l.length % 64 < 64:=Nat.mod_lt _ (by omega)
 have hle:l.length % 64≤l.length:=Nat.mod_le _ _
 rw [hm,Yp (z:=(l.length:Int) - ((l.length % 64:Nat):Int)) (by omega) (by omega)]
 dsimp only
 rw [if_pos (ZeQ (by omega) (by omega))]
 have hdl:(l.drop ((l.length:Int) - ((l.length % 64:Nat):Int)).toNat).length=l.length % 64:=by
  rw [List.length_drop]
  omega
 generalize l.drop ((l.length:Int) - ((l.length % 64:Nat):Int)).toNat=t at hdl
 have hcl:Zy fuel t=some t:=by
  unfold Zy
  rw [if_pos (Yb (by omega) (by omega))]
 rw [hcl,Option.bind_some,if_pos (Yb (by omega) (by omega))]
 generalize hz:([0,0,0,0,0,0,0,0,0,0,0,0,0,0,0,0,0,0,0,0,0,0,0,0,0,0,0,0,0,0,0,0]:List UInt8)=z
 have hzl:z.length=32:=by rw [←hz];rfl
 obtain ⟨o,h1,c,rfl,p2,p3⟩:=Z3 (step:=WC fuel) (fun s=>∃c,s=(l,z,c)∧c.length≤64+(if c.length≤56 then 0 else 56)) (fun s=>184 - s.2.2.length)
  (fun o=>∃c,o=(l,z,c)∧c.length % 64=56∧c.length≤120) (by
  rintro _ ⟨c,rfl,k4⟩
  unfold WC
  dsimp only
  have hm:Int.tmod (c.length:Int) 64=((c.length % 64:Nat):Int):=rfl
  have hc:c.length≤120:=by split at k4 <;> omega
  rw [hm]
  by_cases hi:c.length % 64=56
  ·right
   rw [if_neg (by simp;omega)]
   exact ⟨_,rfl,_,rfl,hi,by omega⟩
  ·left
   rw [if_pos (by simp;omega),if_pos (Yb (by omega) (by omega))]
   refine ⟨_,rfl,⟨_,rfl, ?_⟩, ?_⟩
   ·rw [List.length_append,List.length_singleton]
    split <;> omega
   ·dsimp only
    rw [List.length_append,List.length_singleton]
    omega) (l,z,t++([128]:List UInt8)) ⟨_,rfl,by rw [List.length_append,List.length_singleton];split <;> omega⟩ (by dsimp only;omega)
 rw [h1,Option.bind_some]
 dsimp only
 obtain ⟨E,hE,hEl⟩:=Zy2 (z:=wi (8*(l.length:Int))) (b:=c) (by omega)
 rw [hE,Option.bind_some]
 obtain ⟨f,hf,hf8⟩:∃f,ZcO fuel=some f∧f.length=8:=⟨_,rfl,rfl⟩
 rw [hf,Option.bind_some]
 obtain ⟨x3,h3,v1,rfl,r1⟩:=Z3 (step:=WD fuel) (fun s=>∃a v,s=(a,z,E,v)∧v.length=8∧a.length≤9223372036854775807) (fun s=>s.1.length) (fun x=>∃v,x=(z,E,v)∧v.length=8) (by
  rintro _ ⟨a,v,rfl,k3,k4⟩
  unfold WD
  dsimp only
  by_cases hi:(a.length:Int) ≥ 64
  ·left
   obtain ⟨m,hm1,hm2⟩:=Zvs (st:=v) (l:=a.take 64) k3 (by rw [List.length_take];omega)
   rw [if_pos (decide_eq_true hi),if_pos (ZeR (by omega) (by omega)),hm1,Option.bind_some,if_pos (ZeQ (by omega) (by omega))]
   exact ⟨_,rfl,⟨_,_,rfl,hm2,by rw [List.length_drop];omega⟩,by dsimp only;rw [List.length_drop];omega⟩
  ·right
   rw [if_neg (by rw [decide_eq_true_iff];exact hi)]
   exact ⟨_,rfl,_,rfl,k3⟩) (l,z,E,f) ⟨_,_,rfl,hf8,h⟩ (by dsimp only;omega)
 rw [h3,Option.bind_some]
 dsimp only
 obtain ⟨x4,h4,v2,rfl,s1⟩:=Z3 (step:=WE fuel) (fun s=>∃a v,s=(a,z,E,v)∧v.length=8∧a.length % 64=0∧a.length≤1000000) (fun s=>s.1.length) (fun x=>∃v,x=(z,E,v)∧v.length=8) (by
  rintro _ ⟨a,v,rfl,k3,k4,k5⟩
  unfold WE
  dsimp only
  by_cases hi:(a.length:Int) > 0
  ·left
   obtain ⟨m,hm1,hm2⟩:=Zvs (st:=v) (l:=a.take 64) k3 (by rw [List.length_take];omega)
   rw [if_pos (decide_eq_true hi),if_pos (ZeR (by omega) (by omega)),hm1,Option.bind_some,if_pos (ZeQ (by omega) (by omega))]
   exact ⟨_,rfl,⟨_,_,rfl,hm2,by rw [List.length_drop];omega,by rw [List.length_drop];omega⟩,by dsimp only;rw [List.length_drop];omega⟩
  ·right
   rw [if_neg (by rw [decide_eq_true_iff];exact hi)]
   exact ⟨_,rfl,_,rfl,k3⟩) (E,z,E,v1) ⟨_,_,rfl,r1,by omega,by omega⟩ (by dsimp only;omega)
 rw [h4,Option.bind_some]
 dsimp only
 obtain ⟨x5,h5,_⟩:=YM (step:=XS fuel) 32 (fun k s=>∃o,s=((k:Int),o,E,v2)∧o.length=32) (fun _=>True) (i:=((0:Int),z,E,v2)) ⟨_,rfl,hzl⟩ (by omega) (by
  rintro k _ hk ⟨o,rfl,k2⟩
  left
  have e1:Int.tdiv (k:Int) 4=((k / 4:Nat):Int):=rfl
  have e2:Int.tmod (k:Int) 4=((k % 4:Nat):Int):=rfl
  unfold XS
  dsimp only
  rw [e1,e2,Yp (z:=((k / 4:Nat):Int)) (by omega) (by omega),Yp (z:=8*((k % 4:Nat):Int)) (by omega) (by omega),Yp (z:=24 - 8*((k % 4:Nat):Int)) (by omega) (by omega)]
  obtain ⟨y,hy,_⟩:=Zw (l:=v2) (k:=k / 4) (by omega)
  obtain ⟨y2,hy2,_⟩:=Zw (l:=o) (k:=k) (by omega)
  rw [if_pos (decide_eq_true (by omega)),if_pos (XR (by omega) (by omega)),Int.toNat_natCast,hy,Option.bind_some,if_pos (decide_eq_true (by omega)),if_pos (XR (by omega) (by omega)),Int.toNat_natCast,hy2,Option.bind_some,Zv (by omega)]
  exact ⟨_,rfl,_,rfl,by rw [List.length_set];exact k2⟩) (by
  rintro _ ⟨o,rfl,k2⟩
  unfold XS
  dsimp only
  rw [if_neg (by simp)]
  exact ⟨_,rfl,trivial⟩)
 rw [h5,Option.bind_some]
 exact ⟨_,rfl⟩
theorem Zvt {l:List UInt8} (h:l.length≤9223372036854775807):∃o,ZJ fuel l=some o:=by
 unfold ZJ
 split
 ·exact ⟨_,rfl⟩
 ·exact Zy3 h
end Go.Proofs.YtehgcchjaamddaaGreat
end
section
set_option maxRecDepth 4000
namespace Go.Proofs.YtehgcchjaamddaaGreat
open Go Go.Ev
theorem ZwQ {a b:List UInt8} (h:a.length≤9223372036854775807):∃r,Wn fuel a b=some r∧(r=true→a=b):=by
 unfold Wn
 by_cases hl:a.length=b.length
 ·rw [if_neg (by simp [hl])]
  refine Exists.elim (Z3 (step:=Xs fuel) (fun s=>s.1=a∧s.2.1=b∧0≤s.2.2∧s.2.2≤(a.length:Int)∧∀k:Nat,(k:Int) < s.2.2→a[k]? =b[k]?) (fun s=>((a.length:Int) - s.2.2).toNat)
   (fun x=>x=.inl false∨(x=.inr ()∧a=b)) ?_ (a,b,(0:Int)) ⟨rfl,rfl,Int.le_refl _,by dsimp only;omega,fun k hk=>by dsimp only at hk;omega⟩ (by dsimp only;omega)) ?_
  ·rintro ⟨x,y,i⟩ ⟨e1,e2,h0,h1,h2⟩
   dsimp only at e1 e2 h0 h1 h2
   subst e1
   subst e2
   unfold Xs
   dsimp only
   by_cases hi:i < (x.length:Int)
   ·obtain ⟨e,he⟩:=WG (l:=x) (i:=i.toNat) (by omega)
    obtain ⟨f,hf⟩:=WG (l:=y) (i:=i.toNat) (by omega)
    rw [if_pos (decide_eq_true hi),Zac h0 he,Option.bind_some,Zac h0 hf,Option.bind_some]
    by_cases hef:e=f
    ·left
     rw [if_neg (by simp [hef]),Yp (z:=i+1) (by omega) (by omega)]
     refine ⟨_,rfl,⟨rfl,rfl,by dsimp only;omega,by dsimp only;omega,fun k hk=> ?_⟩,by dsimp only;omega⟩
     dsimp only at hk
     by_cases hk2:(k:Int) < i
     ·exact h2 k hk2
     ·have:k=i.toNat:=by omega
      rw [this,he,hf,hef]
    ·right
     rw [if_pos (by simp [hef])]
     exact ⟨_,rfl,.inl rfl⟩
   ·right
    rw [if_neg (by simpa using hi)]
    refine ⟨_,rfl,.inr ⟨rfl, ?_⟩⟩
    apply List.ext_getElem?
    intro k
    by_cases hk:k < x.length
    ·exact h2 k (by omega)
    ·rw [List.getElem?_eq_none (by omega),List.getElem?_eq_none (by omega)]
  ·rintro x ⟨h1,h2⟩
   rw [h1,Option.bind_some]
   rcases h2 with rfl|⟨rfl,h2⟩
   ·exact ⟨_,rfl,fun h=>by cases h⟩
   ·exact ⟨_,rfl,fun _=>h2⟩
 ·rw [if_pos (by simp;omega)]
  exact ⟨_,rfl,fun h=>by cases h⟩
theorem ZsQ {all:List Zf} {p:Zf} (hl:all.length≤1000) (ha:∀q,q∈all→q.2.length≤9223372036854775807) (hp:p.2.length≤9223372036854775807):
 ∃r,XJ fuel all p=some r∧(r=true→∀q,q∈all→q.1=p.1→ZJ fuel q.2=ZJ fuel p.2→q.2=p.2):=by
 unfold XJ
 refine Exists.elim (Z3 (step:=YU fuel) (fun s=>s.1=all∧s.2.2=p∧0≤s.2.1∧s.2.1≤(all.length:Int)∧∀(k:Nat) q,(k:Int) < s.2.1→all[k]? =some q→q.1=p.1→ZJ fuel q.2=ZJ fuel p.2→q.2=p.2)
  (fun s=>((all.length:Int) - s.2.1).toNat) (fun x=>(∃y,x=.inl (false,y))∨((∃y,x=.inr y)∧∀q,q∈all→q.1=p.1→ZJ fuel q.2=ZJ fuel p.2→q.2=p.2)) ?_ (all,(0:Int),p) ⟨rfl,rfl,Int.le_refl _,by dsimp only;omega,fun k q hk=>by dsimp only at hk;omega⟩ (by dsimp only;omega)) ?_
 ·rintro ⟨x,i,y⟩ ⟨e1,e2,h0,h1,h2⟩
  dsimp only at e1 e2 h0 h1 h2
  subst e1
  subst e2
  unfold YU
  dsimp only
  by_cases hi:i < (x.length:Int)
  ·obtain ⟨e,he⟩:=WG (l:=x) (i:=i.toNat) (by omega)
   have hel:=ha e (List.mem_of_getElem? he)
   have hnext:(e.1=y.1→ZJ fuel e.2=ZJ fuel y.2→e.2=y.2)→∀(k:Nat) q,(k:Int) < i+1→x[k]? =some q→q.1=y.1→ZJ fuel q.2=ZJ fuel y.2→q.2=y.2:=by
    intro hE k q hk hq
    by_cases hk2:(k:Int) < i
    ·exact h2 k q hk2 hq
    ·have:k=i.toNat:=by omega
     rw [this,he] at hq
     cases hq
     exact hE
   rw [if_pos (decide_eq_true hi),Zac h0 he,Option.bind_some,Yp (z:=i+1) (by omega) (by omega)]
   by_cases h3:e.1=y.1
   ·rw [if_pos (decide_eq_true h3),Option.bind_some]
    obtain ⟨s1,hs1⟩:=Zvt (l:=e.2) (by omega)
    obtain ⟨s2,hs2⟩:=Zvt (l:=y.2) (by omega)
    rw [hs1,Option.bind_some,hs2,Option.bind_some]
    by_cases h4:s1=s2
    ·rw [if_pos (decide_eq_true h4),Option.bind_some]
     obtain ⟨b,hb1,hb2⟩:=ZwQ (a:=e.2) (b:=y.2) (by omega)
     rw [hb1,Option.bind_some]
     cases b with
     |true=>
      left
      rw [if_neg (by simp)]
      exact ⟨_,rfl,⟨rfl,rfl,by dsimp only;omega,by dsimp only;omega,by rw [←hs2];exact hnext fun _ _=>hb2 rfl⟩,by dsimp only;omega⟩
     |false=>
      right
      rw [if_pos (by simp)]
      exact ⟨_,rfl,.inl ⟨_,rfl⟩⟩
    ·left
     rw [if_neg (by simpa using h4)]
     exact ⟨_,rfl,⟨rfl,rfl,by dsimp only;omega,by dsimp only;omega,by
      rw [←hs2]
      exact hnext fun _ h5=>by
       rw [hs1,hs2] at h5
       exact absurd (Option.some.inj h5) h4⟩,by dsimp only;omega⟩
   ·left
    rw [if_neg (by simpa using h3)]
    exact ⟨_,rfl,⟨rfl,rfl,by dsimp only;omega,by dsimp only;omega,hnext fun h5=>absurd h5 h3⟩,by dsimp only;omega⟩
  ·right
   rw [if_neg (by simpa using hi)]
   refine ⟨_,rfl,.inr ⟨⟨_,rfl⟩,fun q hq=> ?_⟩⟩
   obtain ⟨k,hk,hkq⟩:=List.getElem_of_mem hq
   exact h2 k q (by omega) (by rw [List.getElem?_eq_getElem hk,hkq])
 ·rintro x ⟨h1,h2⟩
  rw [h1,Option.bind_some]
  rcases h2 with ⟨y,rfl⟩|⟨⟨y,rfl⟩,h2⟩
  ·exact ⟨_,rfl,fun h=>by cases h⟩
  ·exact ⟨_,rfl,fun _=>h2⟩
theorem ZjU (l:List UInt8):(Zel l).data.toList=l:=rfl
theorem Zpt {held:List Zf} {p:Zf} (hl:held.length≤100000):∃b,QK fuel held p=some (b,p)∧(b=true↔p∈held):=by
 unfold QK Zcf
 refine Exists.elim (Z3 (step:=WL fuel) (fun s=>s.1=held∧s.2.1=(held.length:Int)∧s.2.2.2=p∧0≤s.2.2.1∧s.2.2.1≤(held.length:Int)∧∀(k:Nat),(k:Int) < s.2.2.1→held[k]? ≠some p)
  (fun s=>((held.length:Int) - s.2.2.1).toNat) (fun x=>(∃i,x=.inl (i,p)∧0≤i∧p∈held)∨(x=.inr p∧¬p∈held)) ?_ (held,(held.length:Int),(0:Int),p) ⟨rfl,rfl,rfl,Int.le_refl _,by dsimp only;omega,fun k hk=>by dsimp only at hk;omega⟩ (by dsimp only;omega)) ?_
 ·rintro ⟨x,n,i,y⟩ ⟨e1,e2,e3,h0,h1,h2⟩
  dsimp only at e1 e2 e3 h0 h1 h2
  subst e1
  subst e2
  subst e3
  unfold WL
  dsimp only
  by_cases hi:i < (x.length:Int)
  ·obtain ⟨e,he⟩:=WG (l:=x) (i:=i.toNat) (by omega)
   rw [if_pos (decide_eq_true hi),Zac h0 he,Option.bind_some,Yp (z:=i+1) (by omega) (by omega)]
   have hq:∃b,XV fuel e y=some (b,y)∧(b=true↔e=y):=by
    unfold XV ZeO
    dsimp only
    rw [ZjU,ZjU]
    by_cases h3:e.1=y.1
    ·rw [if_pos (decide_eq_true h3)]
     refine ⟨_,rfl, ?_⟩
     rw [beq_iff_eq]
     exact ⟨fun h=>Prod.ext h3 h,fun h=>by rw [h]⟩
    ·rw [if_neg (by simpa using h3)]
     exact ⟨_,rfl,by constructor <;> intro h;cases h;exact absurd (by rw [h]) h3⟩
   obtain ⟨b,hb1,hb2⟩:=hq
   rw [hb1,Option.bind_some]
   cases b with
   |true=>
    right
    rw [if_pos rfl]
    have:=hb2.1 rfl
    exact ⟨_,rfl,.inl ⟨i,rfl,h0,by rw [←this];exact List.mem_of_getElem? he⟩⟩
   |false=>
    left
    rw [if_neg (by simp)]
    refine ⟨_,rfl,⟨rfl,rfl,rfl,by dsimp only;omega,by dsimp only;omega,fun k hk=> ?_⟩,by dsimp only;omega⟩
    dsimp only at hk
    by_cases hk2:(k:Int) < i
    ·exact h2 k hk2
    ·have:k=i.toNat:=by omega
     rw [this,he]
     intro h
     have:=hb2.2 (Option.some.inj h)
     cases this
  ·right
   rw [if_neg (by simpa using hi)]
   refine ⟨_,rfl,.inr ⟨rfl,fun hq=> ?_⟩⟩
   obtain ⟨k,hk,hkq⟩:=List.getElem_of_mem hq
   exact h2 k (by omega) (by rw [List.getElem?_eq_getElem hk,hkq])
 ·rintro x ⟨h1,h2⟩
  rw [h1,Option.bind_some]
  rcases h2 with ⟨i,rfl,h3,h4⟩|⟨rfl,h3⟩
  ·exact ⟨_,rfl,by simp [h3,h4]⟩
  ·exact ⟨_,rfl,by simp [h3]⟩
theorem Zpu {p:Zf} {paid price room:Int} {u:Unit} {held:List Zf} (hp:p.2.length≤9223372036854775807) (hl:(held.length:Int)≤room) (hr:room≤4096):
 ∃r held',ZP fuel p paid price room u held=some (r,price,room,u,held')∧
  ((r=0∧price≤paid∧(held.length:Int) < room∧held'=held++[p]∧p.2.length≠0)∨(r≠0∧held'=held))∧(p∈held→price≤paid→(r=2∨r=4)∧held'=held):=by
 unfold ZP
 by_cases h1:p.2.length=0
 ·rw [if_pos (by simp [h1])]
  exact ⟨_,_,rfl,.inr ⟨by decide,rfl⟩,fun _ _=>⟨.inl rfl,rfl⟩⟩
 rw [if_neg (by simp;exact fun h=>h1 (by rw [h];rfl))]
 by_cases h2:(p.2.length:Int) > 8192
 ·rw [if_pos (decide_eq_true h2)]
  exact ⟨_,_,rfl,.inr ⟨by decide,rfl⟩,fun _ _=>⟨.inl rfl,rfl⟩⟩
 rw [if_neg (by simpa using h2)]
 by_cases h3:paid < price
 ·rw [if_pos (decide_eq_true h3)]
  exact ⟨_,_,rfl,.inr ⟨by decide,rfl⟩,fun _ h=>absurd h3 (by omega)⟩
 rw [if_neg (by simpa using h3)]
 obtain ⟨b,hb1,hb2⟩:=Zpt (held:=held) (p:=p) (by omega)
 rw [hb1,Option.bind_some]
 cases b with
 |true=>
  rw [if_pos rfl]
  exact ⟨_,_,rfl,.inr ⟨by decide,rfl⟩,fun _ _=>⟨.inr rfl,rfl⟩⟩
 |false=>
  have hn:¬p∈held:=fun h=>by have:=hb2.2 h;cases this
  rw [if_neg (by simp)]
  by_cases h4:(held.length:Int) ≥ room
  ·rw [if_pos (decide_eq_true h4)]
   exact ⟨_,_,rfl,.inr ⟨by decide,rfl⟩,fun h=>absurd h hn⟩
  rw [if_neg (by simpa using h4)]
  have hc:XG fuel p.2=some p.2:=by
   unfold XG
   rw [if_pos (Yb (by omega) (by omega))]
  dsimp only
  rw [hc,Option.bind_some,if_pos (Yb (by omega) (by omega))]
  exact ⟨_,_,rfl,.inl ⟨rfl,by omega,by omega,rfl,h1⟩,fun h=>absurd h hn⟩
theorem ZwR {n:List UInt8} {q:Zf} (h1:n.length≤10000) (h2:q.2.length≤10000):∃o,Wj fuel n q=some o:=by
 unfold Wj
 obtain ⟨o,h,_⟩:=Zg1 (s:=ZAB) (ls:=[n,q.2]) (by decide) (by simp) (by
  intro l hl
  rcases List.mem_cons.1 hl with rfl|hl
  ·omega
  ·rw [List.mem_singleton.1 hl];omega)
 rw [h,Option.bind_some]
 exact ⟨_,rfl⟩
end Go.Proofs.YtehgcchjaamddaaGreat
end
section
set_option maxRecDepth 4000
namespace Go.Proofs.YtehgcchjaamddaaGreat
open Go Go.Ev
theorem Zll {txs:List Tx} {n i price room:Int} {u u2:Unit} {held:List Zf} {m:List (List UInt8×List Zf)} {out:List Tx} {tx:Tx} {id key:List UInt8} (L:List Zf) (hid:id.length≤50000)
 (hL:∀p,p∈L→p.2.length≤50000) (hlen:out.length+L.length≤1000000) (hkey:Y1 fuel id=some key):
 ∃out',Zj (ZZ fuel) fuel (txs,n,i,L,(L.length:Int),(0:Int),price,room,u,held,u2,m,out,tx,id)=some (txs,n,i,price,room,u,held,u2,m,out',tx,id)∧
  (∀t,t∈out→t∈out')∧out'.length≤out.length+L.length∧∀p,p∈L→∀x t,Yc fuel key p.2=some (x,true)→Y4 fuel x=some (t,true)→t∈out':=by
 obtain ⟨y,h1,out',rfl,h2⟩:=YM (step:=ZZ fuel) L.length (fun k s=>∃o,s=(txs,n,i,L,(L.length:Int),(k:Int),price,room,u,held,u2,m,o,tx,id)∧(∀t,t∈out→t∈o)∧o.length≤out.length+k∧
  ∀j p,j < k→L[j]? =some p→∀x t,Yc fuel key p.2=some (x,true)→Y4 fuel x=some (t,true)→t∈o)
  (fun y=>∃o,y=(txs,n,i,price,room,u,held,u2,m,o,tx,id)∧(∀t,t∈out→t∈o)∧o.length≤out.length+L.length∧∀p,p∈L→∀x t,Yc fuel key p.2=some (x,true)→Y4 fuel x=some (t,true)→t∈o)
  (i:=(txs,n,i,L,(L.length:Int),(0:Int),price,room,u,held,u2,m,out,tx,id)) ⟨out,rfl,fun t ht=>ht,by omega,fun j p hj=>by omega⟩ (by omega) (by
  rintro k _ hk ⟨o,rfl,h1,h2,h3⟩
  left
  obtain ⟨e,he,hm⟩:=Zw hk
  obtain ⟨kl1,kl2⟩:∃q,Y1 fuel id=some q∧q.length=32:=Zq2 hid
  rw [hkey] at kl2
  have hkl:key.length=32:=by
   have:=kl2.1
   cases this
   exact kl2.2
  obtain ⟨x,ok,o1,o2⟩:=ZyX (key:=key) (b:=e.2) (by omega) (hL e hm)
  obtain ⟨t,is,r1⟩:=ZsM (b:=x) (by omega)
  have hnext:∀o':List Tx,(∀t,t∈o→t∈o')→(∀x t,Yc fuel key e.2=some (x,true)→Y4 fuel x=some (t,true)→t∈o')→∀j p,j < k+1→L[j]? =some p→∀x t,Yc fuel key p.2=some (x,true)→Y4 fuel x=some (t,true)→t∈o':=by
   intro o' q1 q2 j p hj hp x t hx ht
   by_cases hj2:j < k
   ·exact q1 t (h3 j p hj2 hp x t hx ht)
   ·have:j=k:=by omega
    subst this
    rw [he] at hp
    cases hp
    exact q2 x t hx ht
  unfold ZZ
  dsimp only
  rw [if_pos (Ys hk),ZH he,Option.bind_some,hkey,Option.bind_some,o1,Option.bind_some,Zv (by omega)]
  cases ok with
  |false=>
   rw [if_pos (by rfl)]
   refine ⟨_,rfl,o,rfl,h1,by omega,hnext o (fun t ht=>ht) fun x' t' hx' _=> ?_⟩
   rw [o1] at hx'
   cases hx'
  |true=>
   rw [if_neg (by simp),r1,Option.bind_some]
   cases is with
   |false=>
    rw [if_neg (by simp)]
    refine ⟨_,rfl,o,rfl,h1,by omega,hnext o (fun t ht=>ht) fun x' t' hx' ht'=> ?_⟩
    rw [o1] at hx'
    cases hx'
    rw [r1] at ht'
    cases ht'
   |true=>
    rw [if_pos rfl,if_pos (Yb (by omega) (by omega))]
    refine ⟨_,rfl,o++[t],rfl,fun t ht=>List.mem_append_left _ (h1 t ht),by rw [List.length_append,List.length_singleton];omega,hnext _ (fun t ht=>List.mem_append_left _ ht) fun x' t' hx' ht'=> ?_⟩
    rw [o1] at hx'
    cases hx'
    rw [r1] at ht'
    cases ht'
    exact List.mem_append_right _ (List.mem_singleton.2 rfl)) (by
  rintro _ ⟨o,rfl,h1,h2,h3⟩
  unfold ZZ
  dsimp only
  rw [if_neg (by rw [ZM];decide)]
  refine ⟨_,rfl,o,rfl,h1,h2,fun p hp=> ?_⟩
  obtain ⟨j,hj1,hj2⟩:=List.getElem_of_mem hp
  exact h3 j p hj1 (by rw [List.getElem?_eq_getElem hj1,hj2]))
 exact ⟨out',h1,h2⟩
theorem ZwS {txs:List Tx} {price room:Int} {u:Unit} {held:List Zf} (hw:∀t,t∈txs→ZlA t) (hn:txs.length≤10) (hh:held.length≤1000) (hp:∀p,p∈held→p.2.length≤50000):
 ∃l,XQ fuel txs price room u held=some (l,price,room,u,held)∧l.length≤100000∧
  ∀a id hint key p x t,a∈txs→Yu fuel a=some true→Zdm fuel a=some id→Xd fuel id=some hint→Y1 fuel id=some key→p∈held→p.1=hint→Yc fuel key p.2=some (x,true)→Y4 fuel x=some (t,true)→t∈l:=by
 unfold XQ VT
 have h0:Xt (txs,(held.length:Int),(0:Int),price,room,u,held,u,([]:List ((List UInt8)×(List Zf))))=some (txs,price,room,u,held,u,(@Zbf (List UInt8) Zf (Ty.deq (.arr 16 .u8)) (fun p:Zf=>p.1) held)):=by
  unfold Xt Zyv
  refine if_pos ?_
  have:lenB held.length 40=true:=by
   unfold lenB
   rw [Bool.and_eq_true]
   exact ⟨decide_eq_true (by unfold bytesBound;omega),decide_eq_true (by unfold maxLen;omega)⟩
  simp only [this,decide_true,List.isEmpty_nil,Bool.and_self]
 rw [h0,Option.bind_some]
 dsimp only
 obtain ⟨g1,g2⟩:=Zuc (K:=List UInt8) (V:=Zf) (Ty.deq (.arr 16 .u8)) (fun p:Zf=>p.1) held
 generalize (@Zbf (List UInt8) Zf (Ty.deq (.arr 16 .u8)) (fun p:Zf=>p.1) held)=m at g1 g2
 obtain ⟨y,h1,l,rfl,h2,h3⟩:=YM (step:=Yw fuel) txs.length (fun k s=>∃o,s=(txs,(txs.length:Int),(k:Int),price,room,u,held,u,m,o)∧o.length≤1000*k∧
  ∀j a id hint key p x t,j < k→txs[j]? =some a→Yu fuel a=some true→Zdm fuel a=some id→Xd fuel id=some hint→Y1 fuel id=some key→p∈held→p.1=hint→Yc fuel key p.2=some (x,true)→Y4 fuel x=some (t,true)→t∈o)
  (fun y=>∃o,y=(price,room,u,held,u,m,o)∧o.length≤1000*txs.length∧
    ∀a id hint key p x t,a∈txs→Yu fuel a=some true→Zdm fuel a=some id→Xd fuel id=some hint→Y1 fuel id=some key→p∈held→p.1=hint→Yc fuel key p.2=some (x,true)→Y4 fuel x=some (t,true)→t∈o)
  (i:=(txs,(txs.length:Int),(0:Int),price,room,u,held,u,m,([]:List Tx))) ⟨[],rfl,by simp,fun j a id hint key p x t hj=>by omega⟩ (by omega) (by
  rintro k _ hk ⟨o,rfl,h2,h3⟩
  left
  obtain ⟨e,he,hm⟩:=Zw hk
  obtain ⟨b,b1,_⟩:=ZgG (hw e hm)
  unfold Yw
  dsimp only
  rw [if_pos (Ys hk),ZH he,Option.bind_some,b1,Option.bind_some,Zv (by omega)]
  have hnext:∀o':List Tx,(∀t,t∈o→t∈o')→(∀id hint key p x t,Yu fuel e=some true→Zdm fuel e=some id→Xd fuel id=some hint→Y1 fuel id=some key→p∈held→p.1=hint→Yc fuel key p.2=some (x,true)→Y4 fuel x=some (t,true)→t∈o')→
   ∀j a id hint key p x t,j < k+1→txs[j]? =some a→Yu fuel a=some true→Zdm fuel a=some id→Xd fuel id=some hint→Y1 fuel id=some key→p∈held→p.1=hint→Yc fuel key p.2=some (x,true)→Y4 fuel x=some (t,true)→t∈o':=by
   intro o' q1 q2 j a id hint key p x t hj ha r1 r2 r3 r4 r5 r6 r7 r8
   by_cases hj2:j < k
   ·exact q1 t (h3 j a id hint key p x t hj2 ha r1 r2 r3 r4 r5 r6 r7 r8)
   ·have:j=k:=by omega
    subst this
    rw [he] at ha
    cases ha
    exact q2 id hint key p x t r1 r2 r3 r4 r5 r6 r7 r8
  cases b with
  |false=>
   rw [if_pos (by rfl)]
   refine ⟨_,rfl,o,rfl,by omega,hnext o (fun t ht=>ht) fun id hint key p x t r1=> ?_⟩
   rw [b1] at r1
   cases r1
  |true=>
   obtain ⟨id,i1,i2⟩:=ZyY (hw e hm)
   obtain ⟨hint,hi⟩:=ZsP (id:=id) (by omega)
   obtain ⟨key,k1,k2⟩:=Zq2 (id:=id) (by omega)
   rw [if_neg (by decide),i1,Option.bind_some,hi,Option.bind_some]
   cases hg:V6 m hint with
   |some L=>
    obtain ⟨l1,l2⟩:=g1 hint L hg
    obtain ⟨o',q1,q2,q3,q4⟩:=Zll (txs:=txs) (n:=(txs.length:Int)) (i:=(k:Int)) (price:=price) (room:=room) (u:=u) (u2:=u) (held:=held) (m:=m) (out:=o) (tx:=e) (id:=id) (key:=key) L (by omega) (fun p hp'=>hp p (l1 p hp')) (by omega) k1
    unfold ZmH
    dsimp only
    rw [q1,Option.bind_some]
    dsimp only
    rw [Zv (by omega)]
    refine ⟨_,rfl,o',rfl,by omega,hnext o' q2 fun id' hint' key' p x t r1 r2 r3 r4 r5 r6 r7 r8=> ?_⟩
    rw [i1] at r2
    cases r2
    rw [hi] at r3
    cases r3
    rw [k1] at r4
    cases r4
    obtain ⟨L',z1,z2⟩:=g2 p r5
    rw [r6,hg] at z1
    cases z1
    exact q4 p z2 x t r7 r8
   |none=>
    obtain ⟨o',q1,q2,q3,q4⟩:=Zll (txs:=txs) (n:=(txs.length:Int)) (i:=(k:Int)) (price:=price) (room:=room) (u:=u) (u2:=u) (held:=held) (m:=m) (out:=o) (tx:=e) (id:=id) (key:=key) [] (by omega) (fun p hp'=>by cases hp') (by simp;omega) k1
    rw [List.length_nil] at q3
    unfold ZmH
    dsimp only
    rw [show ((0:Int),(0:Int),price,room,u,held,u,m,o,e,id)=((([]:List Zf).length:Int),(0:Int),price,room,u,held,u,m,o,e,id) from rfl,q1,Option.bind_some]
    dsimp only
    rw [Zv (by omega)]
    refine ⟨_,rfl,o',rfl,by omega,hnext o' q2 fun id' hint' key' p x t r1 r2 r3 r4 r5 r6 r7 r8=> ?_⟩
    rw [i1] at r2
    cases r2
    rw [hi] at r3
    cases r3
    obtain ⟨L',z1,z2⟩:=g2 p r5
    rw [r6,hg] at z1
    cases z1) (by
  rintro _ ⟨o,rfl,h2,h3⟩
  unfold Yw
  dsimp only
  rw [if_neg (by rw [ZM];decide)]
  refine ⟨_,rfl,o,rfl,h2,fun a id hint key p x t ha=> ?_⟩
  obtain ⟨j,hj1,hj2⟩:=List.getElem_of_mem ha
  exact h3 j a id hint key p x t hj1 (by rw [List.getElem?_eq_getElem hj1,hj2]))
 rw [h1,Option.bind_some]
 exact ⟨l,rfl,by omega,h3⟩
end Go.Proofs.YtehgcchjaamddaaGreat
end
section
set_option maxRecDepth 4000
namespace Go.Proofs.YtehgcchjaamddaaGreat
open Go Go.Ev
theorem ZsR {p:Zf} {held:List Zf} (hp:p.2.length≤9223372036854775807) (hl:held.length≤100):
 ∃r held',ZP fuel p 1 1 100 () held=some (r,1,100,(),held')∧(held'=held∨(held'=held++[p]∧p.2.length≤8192))∧held'.length≤100:=by
 obtain ⟨r,held',h1,h2,_⟩:=Zpu (p:=p) (paid:=1) (price:=1) (room:=100) (u:=()) (held:=held) hp (by omega) (by omega)
 by_cases h8:(p.2.length:Int) > 8192
 ·refine ⟨2,held, ?_,.inl rfl,hl⟩
  unfold ZP
  rw [if_neg (by rw [beq_iff_eq];omega),if_pos (decide_eq_true h8)]
 ·refine ⟨r,held',h1, ?_, ?_⟩
  ·rcases h2 with ⟨_,_,_,h3,_⟩|⟨_,h3⟩
   ·exact .inr ⟨h3,by omega⟩
   ·exact .inl h3
  ·rcases h2 with ⟨_,_,h4,h3,_⟩|⟨_,h3⟩
   ·rw [h3,List.length_append,List.length_singleton];omega
   ·rw [h3];exact hl
theorem ZwT {p:Zf} {held:List Zf} (h0:0 < p.2.length) (hp:p.2.length≤8192) (hl:held.length < 100):
 ∃r held',ZP fuel p 1 1 100 () held=some (r,1,100,(),held')∧(r=0∨r=4)∧p∈held'∧∀q,q∈held'→q∈held∨q=p:=by
 unfold ZP
 obtain ⟨b,hb1,hb2⟩:=Zpt (held:=held) (p:=p) (by omega)
 rw [if_neg (by rw [beq_iff_eq];omega),if_neg (by rw [decide_eq_true_iff];omega),if_neg (by decide),hb1,Option.bind_some]
 cases b with
 |true=>
  rw [if_pos rfl]
  exact ⟨_,_,rfl,.inr rfl,hb2.1 rfl,fun q hq=>.inl hq⟩
 |false=>
  have hc:XG fuel p.2=some p.2:=by
   unfold XG
   rw [if_pos (Yb (by omega) (by omega))]
  rw [if_neg (by simp),if_neg (by rw [decide_eq_true_iff];omega)]
  dsimp only
  rw [hc,Option.bind_some,if_pos (Yb (by omega) (by omega))]
  refine ⟨_,_,rfl,.inl rfl,List.mem_append_right _ (List.mem_singleton.2 rfl),fun q hq=> ?_⟩
  rcases List.mem_append.1 hq with hq|hq
  ·exact .inl hq
  ·exact .inr (List.mem_singleton.1 hq)
theorem ZsS {n hint sum pr:List UInt8} {price room:Int} {u:Unit} {A B:List Zf} {p:Zf} (hA:A.length≤1000) (hB:B.length≤1000) (ha:∀q,q∈A→q.2.length≤10000) (hpA:p∈A) (h1:p.1=hint) (h2:ZJ fuel p.2=some sum)
 (hpr:Wj fuel n p=some pr) (hu:∀q,q∈A→q.1=hint→ZJ fuel q.2=some sum→q=p):
 YG fuel n hint sum price room u (A++B)=some (pr,true,price,room,u,A++B):=by
 unfold YG Vu
 generalize ([0,0,0,0,0,0,0,0,0,0,0,0,0,0,0,0,0,0,0,0,0,0,0,0,0,0,0,0,0,0,0,0]:List UInt8)=z
 have hlen:(A++B).length=A.length+B.length:=List.length_append
 obtain ⟨x,h3,rfl⟩:=YM (step:=Xa fuel) A.length (fun k s=>s=(((A++B).length:Int),(k:Int),price,room,u,A++B,u,n,hint,sum,z)∧∀j,j < k→A[j]? ≠some p)
  (fun x=>x=.inl (true,price,room,u,A++B,u,n,hint,sum,pr)) (i:=(((A++B).length:Int),(0:Int),price,room,u,A++B,u,n,hint,sum,z)) ⟨rfl,fun j hj=>by omega⟩ (by omega) (by
  rintro k _ hk ⟨rfl,hj⟩
  obtain ⟨e,he,hm⟩:=Zw hk
  have he2:(A++B)[k]? =some e:=by rw [List.getElem?_append_left hk];exact he
  have hnext:e≠p→∀j,j < k+1→A[j]? ≠some p:=by
   intro hE j h4
   by_cases h5:j < k
   ·exact hj j h5
   ·have:j=k:=by omega
    subst this
    rw [he]
    intro h6
    exact hE (Option.some.inj h6)
  unfold Xa
  dsimp only
  rw [if_pos (decide_eq_true (by omega)),ZH he2,Option.bind_some,Zv (by omega)]
  by_cases h4:e.1=hint
  ·obtain ⟨s1,hs1,_⟩:=ZqX (l:=e.2) (by have:=ha e hm;omega)
   rw [if_pos (decide_eq_true h4),hs1,Option.bind_some]
   by_cases h5:s1=sum
   ·right
    have:=hu e hm h4 (by rw [hs1,h5])
    subst this
    rw [if_pos (decide_eq_true h5),hpr,Option.bind_some]
    exact ⟨_,rfl,rfl⟩
   ·left
    rw [if_neg (by rw [decide_eq_true_iff];exact h5)]
    refine ⟨_,rfl,rfl,hnext fun h6=> ?_⟩
    rw [h6,h2] at hs1
    exact h5 (Option.some.inj hs1).symm
  ·left
   rw [if_neg (by rw [decide_eq_true_iff];exact h4)]
   exact ⟨_,rfl,rfl,hnext fun h6=>h4 (by rw [h6];exact h1)⟩) (by
  rintro _ ⟨rfl,hj⟩
  obtain ⟨j,hj1,hj2⟩:=List.getElem_of_mem hpA
  exact absurd (by rw [List.getElem?_eq_getElem hj1,hj2]) (hj j hj1))
 rw [h3,Option.bind_some]
 rfl
theorem ZwU {a0 a1:List Zf} {a b:Tx} {among:List Tx} {nonce:List UInt8} (h0:∀p,p∈a0→p.2.length≤9223372036854775807) (h1:∀p,p∈a1→p.2.length≤9223372036854775807) (ha:ZlA a) (hb:ZlA b) (hm:∀t,t∈among→ZlA t) (hn:nonce.length≤10000):
 Yg fuel a0 a1 a b among nonce=some true:=by
 unfold Yg
 rw [Option.bind_some]
 by_cases c1:(a0.length:Int) > 30
 ·rw [if_pos (decide_eq_true c1)]
 rw [if_neg (by rw [decide_eq_true_iff];exact c1)]
 by_cases c2:(a1.length:Int) > 30
 ·rw [if_pos (decide_eq_true c2)]
 rw [if_neg (by rw [decide_eq_true_iff];exact c2)]
 by_cases c3:(among.length:Int) > 5
 ·rw [if_pos (decide_eq_true c3)]
 rw [if_neg (by rw [decide_eq_true_iff];exact c3)]
 obtain ⟨r,ra,ra2⟩:=ZgG ha
 rw [ra,Option.bind_some]
 cases r with
 |false=>rfl
 |true=>
 rw [if_neg (by decide)]
 obtain ⟨r,rb,rb2⟩:=ZgG hb
 rw [rb,Option.bind_some]
 cases r with
 |false=>rfl
 |true=>
 have okb:=rb2 rfl
 have bb:=ZyP hb rb okb
 rw [if_neg (by decide),bb,Option.bind_some]
 by_cases c4:((txF b).length:Int) > 8000
 ·rw [if_pos (decide_eq_true c4)]
 have hnew:Zh9 fuel 1 100=some (.inr (1,100,(),[])):=rfl
 rw [if_neg (by rw [decide_eq_true_iff];exact c4),hnew,Option.bind_some]
 dsimp only
 obtain ⟨id,i1,i2⟩:=ZyY ha
 obtain ⟨hint,hi⟩:=ZsP (id:=id) (by omega)
 obtain ⟨key,k1,k2⟩:=Zq2 (id:=id) (by omega)
 obtain ⟨s,s1,s2,s3⟩:=ZwL (key:=key) (x:=txF b) (by omega) (by omega)
 have hwr:Xr fuel b id=some (hint,s):=by
  unfold Xr
  rw [hi,Option.bind_some,k1,Option.bind_some,bb,Option.bind_some,s1,Option.bind_some]
 rw [i1,Option.bind_some,hwr,Option.bind_some]
 generalize hp:((hint,s):Zf)=p
 have p1:p.1=hint:=by rw [←hp]
 have p2:p.2=s:=by rw [←hp]
 have pl:p.2.length≤8008∧0 < p.2.length:=by rw [p2];omega
 obtain ⟨r,u1,u2⟩:=ZsQ (all:=a0) (p:=p) (by omega) h0 (by omega)
 rw [u1,Option.bind_some]
 cases r with
 |false=>rfl
 |true=>
 have hU:=u2 rfl
 rw [if_neg (by decide)]
 obtain ⟨x,f1,H0,rfl,f2,f3⟩:=YM (step:=Z0 fuel) a0.length (fun k s=>∃held,s=(a0,a1,among,true,(k:Int),a,b,nonce,(1:Int),(100:Int),(),held,p)∧held.length≤k∧∀q,q∈held→q∈a0∧q.2.length≤8192)
  (fun x=>∃held,x=(a1,among,true,a,b,nonce,(1:Int),(100:Int),(),held,p)∧held.length≤30∧∀q,q∈held→q∈a0∧q.2.length≤8192)
  (i:=(a0,a1,among,true,(0:Int),a,b,nonce,(1:Int),(100:Int),(),([]:List Zf),p)) ⟨[],rfl,by simp,fun q hq=>by cases hq⟩ (by omega) (by
  rintro k _ hk ⟨held,rfl,g1,g2⟩
  left
  obtain ⟨e,he,hem⟩:=Zw hk
  obtain ⟨r,held',q1,q2,q3⟩:=ZsR (p:=e) (held:=held) (h0 e hem) (by omega)
  unfold Z0
  dsimp only
  rw [if_pos (Ys hk),ZH he,Option.bind_some,q1,Option.bind_some,Zv (by omega)]
  refine ⟨_,rfl,held',rfl, ?_,fun q hq=> ?_⟩
  ·rcases q2 with rfl|⟨rfl,_⟩
   ·omega
   ·rw [List.length_append,List.length_singleton];omega
  ·rcases q2 with rfl|⟨rfl,q4⟩
   ·exact g2 q hq
   ·rcases List.mem_append.1 hq with hq|hq
    ·exact g2 q hq
    ·rw [List.mem_singleton.1 hq]
     exact ⟨hem,q4⟩) (by
  rintro _ ⟨held,rfl,g1,g2⟩
  unfold Z0
  dsimp only
  rw [if_neg (by rw [ZM];decide)]
  exact ⟨_,rfl,held,rfl,by omega,g2⟩)
 rw [f1,Option.bind_some]
 dsimp only
 obtain ⟨e,H1,e1,e2,e3,e4⟩:=ZwT (p:=p) (held:=H0) pl.2 (by omega) (by omega)
 have hl1:H1.length≤31∧∀q,q∈H1→q.2.length≤8192:=by
  constructor
  ·have:=Zpu (p:=p) (paid:=1) (price:=1) (room:=100) (u:=()) (held:=H0) (by omega) (by omega) (by omega)
   obtain ⟨r',h',w1,w2,_⟩:=this
   rw [e1] at w1
   cases w1
   rcases w2 with ⟨_,_,_,rfl,_⟩|⟨_,rfl⟩
   ·rw [List.length_append,List.length_singleton];omega
   ·omega
  ·intro q hq
   rcases e4 q hq with h|h
   ·exact (f3 q h).2
   ·rw [h];omega
 rw [e1,Option.bind_some]
 dsimp only
 obtain ⟨x,g1,H2,rfl,g2,g3⟩:=YM (step:=Z1 fuel) a1.length (fun k s=>∃H2,s=(a1,among,true,e,(k:Int),a,b,nonce,(1:Int),(100:Int),(),H1++H2,p)∧H2.length≤k∧∀q,q∈H2→q.2.length≤8192)
  (fun x=>∃H2,x=(among,true,e,a,b,nonce,(1:Int),(100:Int),(),H1++H2,p)∧H2.length≤30∧∀q,q∈H2→q.2.length≤8192)
  (i:=(a1,among,true,e,(0:Int),a,b,nonce,(1:Int),(100:Int),(),H1,p)) ⟨[],by rw [List.append_nil];rfl,by simp,fun q hq=>by cases hq⟩ (by omega) (by
  rintro k _ hk ⟨H2,rfl,g1,g2⟩
  left
  obtain ⟨e,he,hem⟩:=Zw hk
  obtain ⟨r,held',q1,q2,q3⟩:=ZsR (p:=e) (held:=H1++H2) (h1 e hem) (by rw [List.length_append];omega)
  unfold Z1
  dsimp only
  rw [if_pos (Ys hk),ZH he,Option.bind_some,q1,Option.bind_some,Zv (by omega)]
  rcases q2 with rfl|⟨rfl,q4⟩
  ·exact ⟨_,rfl,H2,rfl,by omega,g2⟩
  ·refine ⟨_,rfl,H2++[e],by rw [List.append_assoc],by rw [List.length_append,List.length_singleton];omega,fun q hq=> ?_⟩
   rcases List.mem_append.1 hq with hq|hq
   ·exact g2 q hq
   ·rw [List.mem_singleton.1 hq]
    exact q4) (by
  rintro _ ⟨H2,rfl,g1,g2⟩
  unfold Z1
  dsimp only
  rw [if_neg (by rw [ZM];decide)]
  exact ⟨_,rfl,H2,rfl,by omega,g2⟩)
 rw [g1,Option.bind_some]
 dsimp only
 have hall:∀q,q∈H1++H2→q.2.length≤8192:=by
  intro q hq
  rcases List.mem_append.1 hq with hq|hq
  ·exact hl1.2 q hq
  ·exact g3 q hq
 obtain ⟨l,l1,l2,l3⟩:=ZwS (txs:=among++[a]) (price:=1) (room:=100) (u:=()) (held:=H1++H2) (by
  intro t ht
  rcases List.mem_append.1 ht with ht|ht
  ·exact hm t ht
  ·rw [List.mem_singleton.1 ht];exact ha) (by rw [List.length_append,List.length_singleton];omega) (by rw [List.length_append];omega) (fun q hq=>by have:=hall q hq;omega)
 have hbl:b∈l:=l3 a id hint key p (txF b) b (List.mem_append_right _ (List.mem_singleton.2 rfl)) ra i1 hi k1 (List.mem_append_left _ e3) p1 (by rw [p2];exact s3) (ZAm hb rb okb)
 have hfound:Zj (ZB fuel) fuel (true,l,false,(0:Int),a,b,nonce,(1:Int),(100:Int),(),H1++H2,p,among++([a]:List Tx))=some (true,true,a,b,nonce,(1:Int),(100:Int),(),H1++H2,p,among++([a]:List Tx)):=by
  obtain ⟨x,z1,rfl⟩:=YM (step:=ZB fuel) l.length (fun k s=>∃f,s=(true,l,f,(k:Int),a,b,nonce,(1:Int),(100:Int),(),H1++H2,p,among++([a]:List Tx))∧(f=true∨∀j,j < k→l[j]? ≠some b))
   (fun x=>x=(true,true,a,b,nonce,(1:Int),(100:Int),(),H1++H2,p,among++([a]:List Tx))) (i:=(true,l,false,(0:Int),a,b,nonce,(1:Int),(100:Int),(),H1++H2,p,among++([a]:List Tx))) ⟨false,rfl,.inr fun j hj=>by omega⟩ (by omega) (by
   rintro k _ hk ⟨f,rfl,g⟩
   left
   unfold ZB
   dsimp only
   rw [if_pos (Ys hk),Zv (by omega)]
   cases f with
   |true=>
    rw [if_pos rfl]
    exact ⟨_,rfl,true,rfl,.inl rfl⟩
   |false=>
    obtain ⟨c,hc,_⟩:=Zw hk
    obtain ⟨r,r1,r2⟩:=ZAp (a:=c) hb okb
    rw [if_neg (by decide),ZH hc,Option.bind_some,r1,Option.bind_some]
    refine ⟨_,rfl,r,rfl, ?_⟩
    cases r with
    |true=>exact .inl rfl
    |false=>
     right
     intro j hj
     rcases g with g|g
     ·cases g
     by_cases hj2:j < k
     ·exact g j hj2
     ·have:j=k:=by omega
      subst this
      rw [hc]
      intro h
      have:=r2 (Option.some.inj h)
      cases this) (by
   rintro _ ⟨f,rfl,g⟩
   unfold ZB
   dsimp only
   rw [if_neg (by rw [ZM];decide)]
   rcases g with rfl|g
   ·exact ⟨_,rfl,rfl⟩
   ·obtain ⟨j,hj1,hj2⟩:=List.getElem_of_mem hbl
    exact absurd (by rw [List.getElem?_eq_getElem hj1,hj2]) (g j hj1))
  exact z1
 obtain ⟨sm,hs,_⟩:=ZqX (l:=p.2) (by omega)
 obtain ⟨pr,hpr⟩:=ZwR (n:=nonce) (q:=p) hn (by omega)
 have hprove:YG fuel nonce p.1 sm 1 100 () (H1++H2)=some (pr,true,1,100,(),H1++H2):=ZsS (by omega) (by omega) (fun q hq=>by have:=hl1.2 q hq;omega) e3 rfl hs hpr (by
  intro q hq q1 q2
  rcases e4 q hq with h|h
  ·exact Prod.ext q1 (hU q (f3 q h).1 q1 (by rw [q2,hs]))
  ·exact h)
 have hap1:apB 0 among.length 56=true:=Yb (by omega) (by omega)
 have hap2:apB among.length 1 56=true:=Yb (by omega) (by omega)
 rcases e2 with rfl|rfl
 ·rw [if_neg (by decide),if_pos hap1,if_pos hap2,l1,Option.bind_some]
  dsimp only
  rw [hfound,Option.bind_some]
  dsimp only
  rw [hs,Option.bind_some,hprove,Option.bind_some,if_pos rfl,if_pos rfl]
  dsimp only
  rw [if_pos rfl,hpr,Option.bind_some,decide_eq_true rfl]
 ·rw [if_pos (by decide),if_neg (by decide),if_pos hap1,if_pos hap2,l1,Option.bind_some]
  dsimp only
  rw [hfound,Option.bind_some]
  dsimp only
  rw [hs,Option.bind_some,hprove,Option.bind_some,if_pos rfl,if_pos rfl]
  dsimp only
  rw [if_pos rfl,hpr,Option.bind_some,decide_eq_true rfl]
end Go.Proofs.YtehgcchjaamddaaGreat
end
