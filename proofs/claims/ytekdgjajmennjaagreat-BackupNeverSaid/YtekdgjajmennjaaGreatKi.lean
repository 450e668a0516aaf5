/- Parts of the proof, in one file. -/
import Derived.Test.YtekdgjajmennjaaGreatKh
open Go.Proofs.Tryz renaming prog → ya
open List renaming getElem?_eq_some_iff → yo
open Option renaming bind_some → yf
set_option linter.unusedVariables false
set_option linter.unusedSimpArgs false
section
set_option maxRecDepth 4000
namespace Go.Proofs.YtekdgjajmennjaaGreat
open Go Go.Ev
noncomputable section
abbrev ZNR:Type:=(Int×Bool×(List Outpoint)×(List Outpoint)×Bool×(List Outpoint)×Int×BackupKept×Tx×Lock×Tx)
def ZU(F:Nat)(s:ZNR):Option (ZNR⊕(Int×Bool×(List Outpoint)×(List Outpoint)×Bool×BackupKept×Tx×Lock×Tx)):=
 let y1596:Bool:=decide (s.2.2.2.2.2.2.1 < (s.2.2.2.2.2.1.length:Int))
 if y1596=true then
  if s.2.2.2.2.1=true then
   some (.inl (s.1,s.2.1,s.2.2.1,s.2.2.2.1,true,s.2.2.2.2.2.1,wi (s.2.2.2.2.2.2.1+1),s.2.2.2.2.2.2.2.1,s.2.2.2.2.2.2.2.2.1,s.2.2.2.2.2.2.2.2.2.1,s.2.2.2.2.2.2.2.2.2.2))
  else
  (idx s.2.2.2.2.2.1 s.2.2.2.2.2.2.1).bind λe1597=>
  some (.inl (s.1,s.2.1,s.2.2.1,s.2.2.2.1,decide (e1597=s.2.2.2.2.2.2.2.1.1.1),s.2.2.2.2.2.1,wi (s.2.2.2.2.2.2.1+1),s.2.2.2.2.2.2.2.1,s.2.2.2.2.2.2.2.2.1,s.2.2.2.2.2.2.2.2.2.1,s.2.2.2.2.2.2.2.2.2.2))
 else
 some (.inr (s.1,s.2.1,s.2.2.1,s.2.2.2.1,s.2.2.2.2.1,s.2.2.2.2.2.2.2.1,s.2.2.2.2.2.2.2.2.1,s.2.2.2.2.2.2.2.2.2.1,s.2.2.2.2.2.2.2.2.2.2))
abbrev ZOx:List Ty:=[yI,.bool,(.sl Zb),(.sl Zb),.bool,(.sl Zb),yI,Zf,yTx,ZB,yTx]
def WU:Lp:=⟨[(3,.v yI),(4,.ref 0 []),(5,.ref 1 []),(6,.ref 2 []),(9,.v .bool),(10,.ref 3 []),(12,.v (.sl Zb)),(13,.v (.sl Zb)),(14,.v .bool),(15,.v (.sl Zb)),(16,.v yI)],[.var (.v Zf) true,.var (.v yTx) true,.var (.v ZB) true,.var (.v yTx) true],ZOx,[⟨.exit 0,[(3,.v yI),(5,.ref 1 []),(6,.ref 2 []),(9,.v .bool),(10,.ref 3 []),(12,.v (.sl Zb)),(13,.v (.sl Zb)),(14,.v .bool)],[.var (.v Zf) true,.var (.v yTx) true,.var (.v ZB) true,.var (.v yTx) true],[yI,.bool,(.sl Zb),(.sl Zb),.bool,Zf,yTx,ZB,yTx]⟩],Zd (ZU fuel) fuel⟩
def ZKT:HI:={ still:=[8,34,35,36,37,56,58,72,130,134,164,165]}
theorem Zbb:WU.okA ya 4 0:=Zq ZKT [] [] trivial
abbrev ZNS:Type:=(Int×Bool×(List Outpoint)×(List Outpoint)×Bool×Int×Int×Bool×Int×BackupKept×Tx×Lock×Tx)
abbrev ZOy:Type:=(Int×Bool×(List Outpoint)×(List Outpoint)×Bool×Int×Int×Bool×BackupKept×Tx×Lock×Tx)
def ZV(F:Nat)(s:ZNS):Option (ZNS⊕ZOy):=
 let y1600:Bool:=decide (s.2.2.2.2.2.2.2.2.1 < (s.2.2.2.1.length:Int))
 if y1600=true then
  (idx s.2.2.2.1 s.2.2.2.2.2.2.2.2.1).bind λe1601=>
  (idx s.2.2.1 s.2.2.2.2.2.2.1).bind λe1602=>
  if(decide (e1601=e1602))=true then
   (idx s.2.2.2.2.2.2.2.2.2.2.1.2.1 s.2.2.2.2.2.2.2.2.1).bind λe1603=>
   some (.inl (s.1,s.2.1,s.2.2.1,s.2.2.2.1,s.2.2.2.2.1,wi (s.2.2.2.2.2.1+e1603.1),s.2.2.2.2.2.2.1,true,wi (s.2.2.2.2.2.2.2.2.1+1),s.2.2.2.2.2.2.2.2.2.1,s.2.2.2.2.2.2.2.2.2.2.1,s.2.2.2.2.2.2.2.2.2.2.2.1,s.2.2.2.2.2.2.2.2.2.2.2.2))
  else
  some (.inl (s.1,s.2.1,s.2.2.1,s.2.2.2.1,s.2.2.2.2.1,s.2.2.2.2.2.1,s.2.2.2.2.2.2.1,s.2.2.2.2.2.2.2.1,wi (s.2.2.2.2.2.2.2.2.1+1),s.2.2.2.2.2.2.2.2.2.1,s.2.2.2.2.2.2.2.2.2.2.1,s.2.2.2.2.2.2.2.2.2.2.2.1,s.2.2.2.2.2.2.2.2.2.2.2.2))
 else
 some (.inr (s.1,s.2.1,s.2.2.1,s.2.2.2.1,s.2.2.2.2.1,s.2.2.2.2.2.1,s.2.2.2.2.2.2.1,s.2.2.2.2.2.2.2.1,s.2.2.2.2.2.2.2.2.2.1,s.2.2.2.2.2.2.2.2.2.2.1,s.2.2.2.2.2.2.2.2.2.2.2.1,s.2.2.2.2.2.2.2.2.2.2.2.2))
abbrev ZOz:List Ty:=[yI,.bool,(.sl Zb),(.sl Zb),.bool,yI,yI,.bool,Zf,yTx,ZB,yTx]
abbrev ZOA:List Ty:=[yI,.bool,(.sl Zb),(.sl Zb),.bool,yI,yI,.bool,yI,Zf,yTx,ZB,yTx]
def WV:Lp:=⟨[(3,.v yI),(5,.ref 1 []),(6,.ref 2 []),(9,.v .bool),(10,.ref 3 []),(12,.v (.sl Zb)),(13,.v (.sl Zb)),(14,.v .bool),(17,.v yI),(18,.v yI),(19,.v .bool),(20,.v yI)],[.var (.v Zf) true,.var (.v yTx) true,.var (.v ZB) true,.var (.v yTx) true],ZOA,[⟨.exit 4,[(3,.v yI),(5,.ref 1 []),(6,.ref 2 []),(9,.v .bool),(10,.ref 3 []),(12,.v (.sl Zb)),(13,.v (.sl Zb)),(14,.v .bool),(17,.v yI),(18,.v yI),(19,.v .bool)],[.var (.v Zf) true,.var (.v yTx) true,.var (.v ZB) true,.var (.v yTx) true],ZOz⟩],Zd (ZV fuel) fuel⟩
theorem Zbc:WV.okA ya 4 2:=Zq ZKT [] [] trivial
def ZW(F:Nat)(s:(Int×Bool×(List Outpoint)×(List Outpoint)×Bool×Int×Int×BackupKept×Tx×Lock×Tx)):Option ((Int×Bool×(List Outpoint)×(List Outpoint)×Bool×Int×Int×BackupKept×Tx×Lock×Tx)⊕((Bool×BackupKept×Tx×Lock×Tx)⊕(Int×Bool×(List Outpoint)×Bool×Int×BackupKept×Tx×Lock×Tx))):=
 let y1599:Bool:=decide (s.2.2.2.2.2.2.1 < (s.2.2.1.length:Int))
 if y1599=true then
  (Zd (ZV F) F (s.1,s.2.1,s.2.2.1,s.2.2.2.1,s.2.2.2.2.1,s.2.2.2.2.2.1,s.2.2.2.2.2.2.1,false,0,s.2.2.2.2.2.2.2.1,s.2.2.2.2.2.2.2.2.1,s.2.2.2.2.2.2.2.2.2.1,s.2.2.2.2.2.2.2.2.2.2)).bind λo1604=>
  if(!o1604.2.2.2.2.2.2.2.1)=true then
   some (.inr (.inl (false,o1604.2.2.2.2.2.2.2.2.1,o1604.2.2.2.2.2.2.2.2.2.1,o1604.2.2.2.2.2.2.2.2.2.2.1,o1604.2.2.2.2.2.2.2.2.2.2.2)))
  else
  if(decide (o1604.2.2.2.2.2.2.1 > 0))=true then
   (idx o1604.2.2.1 (wi (o1604.2.2.2.2.2.2.1 - 1))).bind λe1605=>
   (idx o1604.2.2.1 o1604.2.2.2.2.2.2.1).bind λe1606=>
   (XT F e1605 e1606).bind λo1607=>
   if(!o1607)=true then
    some (.inr (.inl (false,o1604.2.2.2.2.2.2.2.2.1,o1604.2.2.2.2.2.2.2.2.2.1,o1604.2.2.2.2.2.2.2.2.2.2.1,o1604.2.2.2.2.2.2.2.2.2.2.2)))
   else
   some (.inl (o1604.1,o1604.2.1,o1604.2.2.1,o1604.2.2.2.1,o1604.2.2.2.2.1,o1604.2.2.2.2.2.1,wi (o1604.2.2.2.2.2.2.1+1),o1604.2.2.2.2.2.2.2.2.1,o1604.2.2.2.2.2.2.2.2.2.1,o1604.2.2.2.2.2.2.2.2.2.2.1,o1604.2.2.2.2.2.2.2.2.2.2.2))
  else
  some (.inl (o1604.1,o1604.2.1,o1604.2.2.1,o1604.2.2.2.1,o1604.2.2.2.2.1,o1604.2.2.2.2.2.1,wi (o1604.2.2.2.2.2.2.1+1),o1604.2.2.2.2.2.2.2.2.1,o1604.2.2.2.2.2.2.2.2.2.1,o1604.2.2.2.2.2.2.2.2.2.2.1,o1604.2.2.2.2.2.2.2.2.2.2.2))
 else
 some (.inr (.inr (s.1,s.2.1,s.2.2.1,s.2.2.2.2.1,s.2.2.2.2.2.1,s.2.2.2.2.2.2.2.1,s.2.2.2.2.2.2.2.2.1,s.2.2.2.2.2.2.2.2.2.1,s.2.2.2.2.2.2.2.2.2.2)))
abbrev ZOB:List Ty:=[yI,.bool,(.sl Zb),(.sl Zb),.bool,yI,yI,Zf,yTx,ZB,yTx]
def WW:Lp:=⟨[(3,.v yI),(5,.ref 1 []),(6,.ref 2 []),(9,.v .bool),(10,.ref 3 []),(12,.v (.sl Zb)),(13,.v (.sl Zb)),(14,.v .bool),(17,.v yI),(18,.v yI)],[.var (.v Zf) true,.var (.v yTx) true,.var (.v ZB) true,.var (.v yTx) true],ZOB,[⟨.ret,[(8,.v .bool)],[.var (.v Zf) true,.var (.v yTx) true,.var (.v ZB) true,.var (.v yTx) true],[.bool,Zf,yTx,ZB,yTx]⟩,⟨.exit 2,[(3,.v yI),(6,.ref 2 []),(9,.v .bool),(10,.ref 3 []),(12,.v (.sl Zb)),(14,.v .bool),(17,.v yI)],[.var (.v Zf) true,.var (.v yTx) true,.var (.v ZB) true,.var (.v yTx) true],[yI,.bool,(.sl Zb),.bool,yI,Zf,yTx,ZB,yTx]⟩],Zd (ZW fuel) fuel⟩
theorem Zbd:WW.okA ya 4 1:=Zq ZKT [(2,WV)] [ZbV] ⟨ZiC,ytt⟩ ⟨Zbc,ytt⟩
def Yj(F:Nat)(a0:BackupKept)(a1:Tx)(a2:Lock)(a3:Int):Option (Bool):=
 ((some true)).bind λo1591=>
 if(decide ((a1.2.1.length:Int) > 20))=true then
  some o1591
 else
 if(decide ((a1.1.length:Int) > 20))=true then
  some o1591
 else
 (Zby F a0 a1 a2 a3).bind λo1592=>
 if(o1592.2 !=0)=true then
  if o1591=true then
   if((o1592.1.1.length:Int)==0)=true then
    some ((o1592.1.2.1.length:Int)==0)
   else
   some false
  else
  some false
 else
 (Qe F o1592.1).bind λo1593=>
 (Zea F a1).bind λo1594=>
 if((o1594.length:Int)!=(a1.2.1.length:Int))=true then
  some false
 else
 if((o1592.1.2.1.length:Int)!=1)=true then
  some false
 else
 (Qe F a1).bind λo1595=>
 (Zd (ZU F) F (a3,o1591,o1593,o1594,false,o1595,0,a0,a1,a2,o1592.1)).bind λo1598=>
 (Zd (ZW F) F (o1598.1,o1598.2.1,o1598.2.2.1,o1598.2.2.2.1,o1598.2.2.2.2.1,0,0,o1598.2.2.2.2.2.1,o1598.2.2.2.2.2.2.1,o1598.2.2.2.2.2.2.2.1,o1598.2.2.2.2.2.2.2.2)).bind λo1608=>
 match o1608 with
 |.inl o1609=>
  some o1609.1
 |.inr o1610=>
  if o1610.2.1=true then
   if o1610.2.2.2.1=true then
    if(decide ((o1610.2.2.1.length:Int) > 0))=true then
     (idx o1610.2.2.2.2.2.2.2.2.2.1 0).bind λe1611=>
     if(e1611.1==(wi (o1610.2.2.2.2.1 - o1610.1)))=true then
      (idx o1610.2.2.2.2.2.2.2.2.2.1 0).bind λe1612=>
      (Zd9 F e1612.2 o1610.2.2.2.2.2.2.2.1).bind λo1613=>
      some o1613
     else
     some false
    else
    some false
   else
   some false
  else
  some false
def Zc9(F:Nat):Fs ya:=⟨4,[.v Zf,.v yTx,.v ZB,.v yI],[],[Zf,yTx,ZB,yI],[⟨.ret,[(0,.v .bool)],[],[.bool]⟩],λx=>Yj F x.1 x.2.1 x.2.2.1 x.2.2.2⟩
def ZeB:Fs ya:=Zc9 fuel
theorem Zda:ZeB.Ok:=fnO ZKT [(0,WU),(1,WW)] [ZLi,ZjK,Zfc,Zgs,Zjw] ⟨ZM0,Zh8,Zhj,Zhm,Zn6,ytt⟩ ⟨Zbb,Zbd,ytt⟩
instance decK0:DecidableEq (UInt64×UInt64×(List UInt8)):=inferInstance
instance decK1:DecidableEq (UInt64×UInt64×UInt64×UInt64×(List UInt8)):=inferInstance
instance decK2:DecidableEq Kit:=inferInstance
instance decK3:DecidableEq Basics:=inferInstance
instance decK4:DecidableEq Terms:=inferInstance
instance decK5:DecidableEq ((List Terms)×Int):=inferInstance
instance decK6:DecidableEq ((List Basics)×(List Terms)×Int):=inferInstance
instance decK7:DecidableEq Chan:=inferInstance
instance decK8:DecidableEq (Kit×Int×Int×Int):=inferInstance
instance decK9:DecidableEq BackupKept:=inferInstance
end
end Go.Proofs.YtekdgjajmennjaaGreat
end
section
set_option maxRecDepth 4000
namespace Go.Proofs.YtekdgjajmennjaaGreat
open Go Go.Ev
theorem ZDK{id:List UInt8}(hid:id.length=32)(a b:Int):XT fuel (id,a) (id,b)=some (decide (a < b)):=by
 have e:=Yp (step:=YG fuel) 32 (λk:Nat=>((k:Int),((id,a):Outpoint),((id,b):Outpoint))) (x:=.inr (((id,a):Outpoint),((id,b):Outpoint))) (by
  intro k hk;obtain⟨x,hx,_⟩:=Zu (l:=id) (k:=k) (by omega);unfold YG;dsimp only;rw[if_pos (decide_eq_true (by omega)),if_pos (Y6 (by omega) (by omega)),Int.toNat_natCast,hx,yf,if_pos (Y6 (by omega) (by omega)),yf,if_neg (by simp),ZP (by omega)]) (by
  unfold YG;dsimp only;rw[if_neg (show¬decide (((32:Nat):Int) < 32)=true by decide)]) (by omega)
 have e0:((0:Int),((id,a):Outpoint),((id,b):Outpoint))=(λk:Nat=>((k:Int),((id,a):Outpoint),((id,b):Outpoint))) 0:=rfl;unfold XT;rw[e0,e,yf]
theorem ZJg{k:BackupKept}{from_:List Outpoint}(hm:k.1.1∈from_)(hl:from_.length≤100)(fee:Int)(hd:Bool)(sp md:List Outpoint)(t:Tx)(to:Lock)(c:Tx):
 Zd (ZU fuel) fuel (fee,hd,sp,md,false,from_,(0:Int),k,t,to,c)=some (fee,hd,sp,md,true,k,t,to,c):=by
 obtain⟨x,x1,x2⟩:=Vy (step:=ZU fuel) from_.length (λi s=>∃b:Bool,s=(fee,hd,sp,md,b,from_,(i:Int),k,t,to,c)∧(k.1.1∈from_.take i→b=true)) (λx=>x=(fee,hd,sp,md,true,k,t,to,c))
  (i:=(fee,hd,sp,md,false,from_,(0:Int),k,t,to,c)) ⟨false,rfl,λh=>by cases h⟩ (by omega) (by
  rintro i _ hi ⟨b,rfl,hb⟩;left;obtain⟨x,hx,_⟩:=Zu hi;unfold ZU;dsimp only;rw[if_pos (YD hi),ZP (by omega)]
  cases b with
  |true=>
   rw[if_pos rfl]
   exact⟨_,rfl,true,rfl,λ_=>rfl⟩
  |false=>
   rw[if_neg (by decide),ZJ hx,yf];refine⟨_,rfl,_,rfl,λh=> ?_⟩;rw[Zbz hx] at h;rcases List.mem_append.1 h with h|h
   ·exact absurd (hb h) (by decide)
   ·rw[List.mem_singleton.1 h];exact decide_eq_true rfl) (by
  rintro _ ⟨b,rfl,hb⟩;rw[List.take_length] at hb;rw[hb hm];unfold ZU;dsimp only;rw[if_neg (by rw[Z9];decide)];exact⟨_,rfl,rfl⟩)
 rw[x1,x2]
theorem ZJh{id:List UInt8}{t:Tx}(ho:t.2.1.length≤64){l:List Nat}{i x:Nat}(hx:l[i]? =some x)(hlt:x < t.2.1.length){s:Int}(s0:0≤s)(s1:s≤72057594037927936)(a0:0≤ZlI t x)(a1:ZlI t x≤1125899906842624)(fee:Int)(hd sp:Bool)(k:BackupKept)(to:Lock)(c:Tx):
 Zd (ZV fuel) fuel (fee,hd,srcL id l,VT id t.2.1.length,sp,s,(i:Int),false,(0:Int),k,t,to,c)=some (fee,hd,srcL id l,VT id t.2.1.length,sp,s+ZlI t x,(i:Int),true,k,t,to,c):=by
 have e:=Yp (step:=ZV fuel) t.2.1.length (λn:Nat=>(fee,hd,srcL id l,VT id t.2.1.length,sp,(if x < n then s+ZlI t x else s),(i:Int),decide (x < n),(n:Int),k,t,to,c)) (x:=(fee,hd,srcL id l,VT id t.2.1.length,sp,s+ZlI t x,(i:Int),true,k,t,to,c)) (by
  intro n hn;obtain⟨o,hox,_⟩:=Zu hn;unfold ZV;dsimp only;rw[Zj8,if_pos (YD hn),ZJ (ZE9 id hn),yf,ZJ (ZzE hx),yf,ZP (by omega)];by_cases q:n=x
  ·subst q;rw[if_pos (decide_eq_true rfl),ZJ hox,yf,if_neg (by omega),if_pos (by omega),decide_eq_true (show n < n+1 by omega),ZgJ hox];rw[ZgJ hox] at a0 a1;rw[Y3 (by omega) (by omega)]
  ·rw[if_neg (show¬decide (((id,(n:Int)):Outpoint)=(id,(x:Int)))=true by
    rw[decide_eq_true_iff];intro h;have h2:(n:Int)=(x:Int):=congrArg Prod.snd h;omega)]
   by_cases hxn:x < n
   ·rw[if_pos hxn,if_pos (by omega),decide_eq_true hxn,decide_eq_true (show x < n+1 by omega)]
   ·rw[if_neg hxn,if_neg (by omega),decide_eq_false hxn,decide_eq_false (show¬x < n+1 by omega)]) (by
  unfold ZV;dsimp only;rw[Zj8,if_neg (by rw[Z9];decide),if_pos hlt,decide_eq_true hlt]) (by omega)
 have e0:(fee,hd,srcL id l,VT id t.2.1.length,sp,s,(i:Int),false,(0:Int),k,t,to,c)=(λn:Nat=>(fee,hd,srcL id l,VT id t.2.1.length,sp,(if x < n then s+ZlI t x else s),(i:Int),decide (x < n),(n:Int),k,t,to,c)) 0:=by
  dsimp only;rw[if_neg (by omega),decide_eq_false (by omega)];rfl
 rw[e0,e]
theorem ZJi{id:List UInt8}(hid:id.length=32){k:BackupKept}{t:Tx}(rt:RT t){l:List Nat}(fd:Fnd k t l)(fee:Int)(hd sp:Bool)(to:Lock)(c:Tx):
 Zd (ZW fuel) fuel (fee,hd,srcL id l,VT id t.2.1.length,sp,(0:Int),(0:Int),k,t,to,c)=some (.inr (fee,hd,srcL id l,sp,amtF t l,k,t,to,c)):=by
 have ho:=rt.o1;have hl:=fd.len;have hok:∀o,o∈t.2.1→ZuS o:=λo h=>rt.ok.2.2.2.2.2 o h;have hs:=Zr6 hok fd.up fd.lt
 have hb:Zaq (t.2.1.take t.2.1.length)≤64*1125899906842624:=by
  have:=(Zr5 (l:=t.2.1) t.2.1.length (Nat.le_refl _) (λj hj o h=>(rt.outs j hj o h).1)).2;omega
 have e:=Yp (step:=ZW fuel) l.length (λj:Nat=>(fee,hd,srcL id l,VT id t.2.1.length,sp,amtF t (l.take j),(j:Int),k,t,to,c)) (x:=.inr (fee,hd,srcL id l,sp,amtF t l,k,t,to,c)) (by
  intro j hj;obtain⟨x,hx,hxm⟩:=Zu hj;obtain⟨o,hox,hom⟩:=Zu (l:=t.2.1) (fd.lt x hxm);have q:=hok o hom;have q0:=q.1;have q1:=q.2.1;obtain⟨s0,s1⟩:=hs j (by omega);have s1:=s1 t.2.1.length (λa ha=>fd.lt a (List.mem_of_mem_take ha));unfold ZW;dsimp only;rw[ZeA,if_pos (YD hj),ZJh ho hx (fd.lt x hxm) s0 (by omega) (by rw[ZgJ hox];exact q0) (by rw[ZgJ hox];exact q1) fee hd sp k to c,yf];dsimp only;rw[if_neg (by decide),ZP (by omega),ZpV hx];by_cases j0:j=0
  ·subst j0;rw[if_neg (show¬decide (((0:Nat):Int) > 0)=true by decide)]
  ·obtain⟨y,hy,_⟩:=Zu (l:=l) (k:=j - 1) (by omega)
   have hyx:y < x:=by
    obtain⟨y1,y2⟩:=yo.1 hy;obtain⟨x1,x2⟩:=yo.1 hx;have:=List.pairwise_iff_getElem.1 fd.up (j - 1) j y1 x1 (by omega)
    rwa [y2,x2] at this
   rw[if_pos (decide_eq_true (by omega)),Y3 (z:=(j:Int) - 1) (by omega) (by omega),show(j:Int) - 1=((j - 1:Nat):Int) by omega,ZJ (ZzE hy),yf,ZJ (ZzE hx),yf,ZDK hid,yf,decide_eq_true (show(y:Int) < (x:Int) by omega),if_neg (by decide)]) (by
  unfold ZW;dsimp only;rw[ZeA,if_neg (by rw[Z9];decide),List.take_length]) (by omega)
 exact e
theorem ZGp{k:BackupKept}{t:Tx}{to:Lock}{fee:Int}(w:ChWf k.1)(hw:ZDF t)(hlk:∀o,o∈t.2.1→LockWf o.2)(hto:LockWf to)(hf0: -9223372036854775808≤fee)(hf1:fee≤9223372036854775807):Yj fuel k t to fee=some true:=by
 unfold Yj;rw[yf];by_cases c1:(t.2.1.length:Int) > 20
 ·rw[if_pos (decide_eq_true c1)]
 rw[if_neg (show¬decide ((t.2.1.length:Int) > 20)=true by rw[decide_eq_true_iff];exact c1)];by_cases c2:(t.1.length:Int) > 20
 ·rw[if_pos (decide_eq_true c2)]
 rw[if_neg (show¬decide ((t.1.length:Int) > 20)=true by rw[decide_eq_true_iff];exact c2)];have hl:TxL t:=⟨by omega,by omega,hlk⟩;obtain⟨r,r1,r2⟩:=ZJe (fee:=fee) w hl hw hto (by omega);rw[r1,yf];obtain⟨c,e⟩:=r;rcases r2 with⟨h1,h2⟩|⟨l,T,h1,cm⟩
 ·dsimp only at h1 h2;subst h2;dsimp only;rw[if_pos (show(e !=0)=true by rw[bne_iff_ne];exact h1)];rfl
 ·cases h1;dsimp only;obtain⟨hk,hr,rt,hin⟩:=cm.fd.key cm.ne;obtain⟨i1,i2⟩:=rt.id hw hr;have hmk:=ZBW cm.c cm.o cm.tx;have hlen:=cm.tx.len;have p1:=cm.c.len;have p0:=cm.c.pos;rw[if_neg (by decide),ZpU (by omega) hmk.1,yf,ZFa rt hw hr,yf,Zj8,if_neg (show¬((t.2.1.length:Int)!=(t.2.1.length:Int))=true by simp),cm.tx.src];have ho:=cm.tx.out;rw[show c.2.1=[(amtF t l - fee,to)] by rw[ho],if_neg (show¬((([(amtF t l - fee,to)]:List Out).length:Int)!=1)=true by simp),ZpU rt.i1 hr,yf,ZJg hin (by rw[List.length_map];have:=rt.i1;omega),yf];dsimp only;rw[ZJi i2 rt cm.fd,yf];dsimp only;have ha:=cm.o.1;obtain⟨q,q1,q2⟩:=ZLh (a:=to) cm.lk.1;rw[if_pos rfl,if_pos rfl,if_pos (show decide (((srcL (nmF t) l).length:Int) > 0)=true from decide_eq_true (by omega)),show c.2.1=[(amtF t l - fee,to)] by rw[ho]]
  rw[show idx [((amtF t l - fee,to):Out)] 0=some (amtF t l - fee,to) from ZJ (k:=0) rfl,yf]
  dsimp only at ha ⊢;rw[Y3 (z:=amtF t l - fee) (by omega) (by omega),if_pos (beq_self_eq_true _),yf,q1,yf,q2 rfl]
end Go.Proofs.YtekdgjajmennjaaGreat
end
