/- Parts of the proof, in one file. -/
import Derived.Test.YtkapgdbeeblihaaKh
set_option linter.unusedVariables false
section
set_option maxRecDepth 4000
namespace Go.Proofs.Ytkapgdbeeblihaa
open Go Go.Ev
noncomputable section
def Z3(F:Nat):((List UInt64)×(List FactorySub)×(List FactorySub)×Int×Int×Int×Int×Bool)→Option (Bool⊕((List UInt64)×(List FactorySub)×(List FactorySub)×Int×Int×Int×Int×Bool))
 |(a,b,c,d,e,f,g,h)=>
 if(decide ((a.length:Int) < 2))=true then
  some (.inl h)
 else
 if(decide ((a.length:Int) > 4))=true then
  some (.inl h)
 else
 if(decide ((b.length:Int) > 5))=true then
  some (.inl h)
 else
 if(decide ((c.length:Int) > 5))=true then
  some (.inl h)
 else
 if(decide (g < 1))=true then
  some (.inl h)
 else
 if(decide (g > 1000))=true then
  some (.inl h)
 else
 if(decide (d < 0))=true then
  some (.inl h)
 else
 if(decide (e < 1))=true then
  some (.inl h)
 else
 if(decide ((wi (d+e)) > 15))=true then
  some (.inl h)
 else
 if((b.length:Int)==0)=true then
  some (.inl h)
 else
 if((c.length:Int)==0)=true then
  some (.inl h)
 else
 some (.inr (a,b,c,d,e,f,g,h))
abbrev ZHE:List Ty:=[(.sl .u64),(.sl Zg),(.sl Zg),yI,yI,yI,yI,.bool]
def WD:Lp:=⟨[(0,.v (.sl .u64)),(1,.v (.sl Zg)),(2,.v (.sl Zg)),(3,.v yI),(4,.v yI),(5,.v yI),(6,.v yI),(15,.v .bool)],[],ZHE,[⟨.ret,[(14,.v .bool)],[],[.bool]⟩,⟨.normal,[(0,.v (.sl .u64)),(1,.v (.sl Zg)),(2,.v (.sl Zg)),(3,.v yI),(4,.v yI),(5,.v yI),(6,.v yI),(15,.v .bool)],[],ZHE⟩],Z3 fuel⟩
def Zlx:HI:={ still:=[14,144,145,146,149,150,151,152,157,160,161,162,167,168,169,170,175,178,179,180,184,236,243,247,251,254,255,260,261,262,267,270,271,285,289,296,300,312,325,328,329,334,337,338,343,346,347,363,371,374,375,380,381,382,395,398,399,404,407,408,413,416,417]}
theorem Zad:WD.Is Try.prog (XM Try.prog 3) (ZeF (XL Try.prog 3) 2):=ZpZ 0 3 Zlx [] [] trivial
abbrev ZvM:Type:=((List UInt64)×(List FactorySub)×(List FactorySub)×Int×Int×Int×Int×Bool×Int×Int×Int)
abbrev ZAk:List Ty:=[(.sl .u64),(.sl Zg),(.sl Zg),yI,yI,yI,yI,.bool,yI,yI,yI]
abbrev ZHF:List Ty:=[(.sl .u64),(.sl Zg),(.sl Zg),yI,yI,yI,yI,.bool,yI,yI]
def Y3(F:Nat):ZvM→Option (Bool⊕ZvM)
 |(a,b,c,d,e,f,g,h,i,j,k)=>
 (idx b k).bind λe689=>
 if(decide (e689.2.2 < 0))=true then
  some (.inl h)
 else
 (idx b k).bind λe690=>
 if(decide (e690.2.2 > 1099511627776))=true then
  some (.inl h)
 else
 some (.inr (a,b,c,d,e,f,g,h,i,j,k))
def WE:Lp:=⟨[(0,.v (.sl .u64)),(1,.v (.sl Zg)),(2,.v (.sl Zg)),(3,.v yI),(4,.v yI),(5,.v yI),(6,.v yI),(15,.v .bool),(16,.v yI),(17,.v yI),(18,.v yI)],[],ZAk,[⟨.ret,[(14,.v .bool)],[],[.bool]⟩,⟨.normal,[(0,.v (.sl .u64)),(1,.v (.sl Zg)),(2,.v (.sl Zg)),(3,.v yI),(4,.v yI),(5,.v yI),(6,.v yI),(15,.v .bool),(16,.v yI),(17,.v yI),(18,.v yI)],[],ZAk⟩],Y3 fuel⟩
theorem Zae:WE.Is Try.prog (XM Try.prog 3) (ZeF (V5 Try.prog 3 0) 3):=ZpZ 0 3 Zlx [] [] trivial
def ZP(F:Nat)(s:ZvM):Option (ZvM⊕(Bool⊕((List UInt64)×(List FactorySub)×(List FactorySub)×Int×Int×Int×Int×Bool×Int×Int))):=
 let y682:Bool:=decide (s.2.2.2.2.2.2.2.2.2.2 < (s.2.1.length:Int))
 if y682=true then
  (Y3 F (s.1,s.2.1,s.2.2.1,s.2.2.2.1,s.2.2.2.2.1,s.2.2.2.2.2.1,s.2.2.2.2.2.2.1,s.2.2.2.2.2.2.2.1,s.2.2.2.2.2.2.2.2.1,s.2.2.2.2.2.2.2.2.2.1,s.2.2.2.2.2.2.2.2.2.2)).bind λo691=>
  match o691 with
  |.inl o692=>
   some (.inr (.inl o692))
  |.inr o693=>
   (idx o693.2.1 o693.2.2.2.2.2.2.2.2.2.2).bind λe694=>
   some (.inl (o693.1,o693.2.1,o693.2.2.1,o693.2.2.2.1,o693.2.2.2.2.1,o693.2.2.2.2.2.1,o693.2.2.2.2.2.2.1,o693.2.2.2.2.2.2.2.1,wi (o693.2.2.2.2.2.2.2.2.1+e694.2.2),o693.2.2.2.2.2.2.2.2.2.1,wi (o693.2.2.2.2.2.2.2.2.2.2+1)))
 else
 some (.inr (.inr (s.1,s.2.1,s.2.2.1,s.2.2.2.1,s.2.2.2.2.1,s.2.2.2.2.2.1,s.2.2.2.2.2.2.1,s.2.2.2.2.2.2.2.1,s.2.2.2.2.2.2.2.2.1,s.2.2.2.2.2.2.2.2.2.1)))
def WF:Lp:=⟨[(0,.v (.sl .u64)),(1,.v (.sl Zg)),(2,.v (.sl Zg)),(3,.v yI),(4,.v yI),(5,.v yI),(6,.v yI),(15,.v .bool),(16,.v yI),(17,.v yI),(18,.v yI)],[],ZAk,[⟨.ret,[(14,.v .bool)],[],[.bool]⟩,⟨.exit 0,[(0,.v (.sl .u64)),(1,.v (.sl Zg)),(2,.v (.sl Zg)),(3,.v yI),(4,.v yI),(5,.v yI),(6,.v yI),(15,.v .bool),(16,.v yI),(17,.v yI)],[],ZHF⟩],Zi (ZP fuel) fuel⟩
theorem Zaf:WF.okA Try.prog 3 0:=Zff (fi:={ hi:=Zlx,bk:=[(3,WE)]}) (specs:={ l:=[]}) (okS trivial) (hb:=⟨Zae,ytt⟩)
def YV(F:Nat):ZvM→Option (Bool⊕ZvM)
 |(a,b,c,d,e,f,g,h,i,j,k)=>
 (idx c k).bind λe721=>
 if(decide (e721.2.2 < 0))=true then
  some (.inl h)
 else
 (idx c k).bind λe722=>
 if(decide (e722.2.2 > 1099511627776))=true then
  some (.inl h)
 else
 some (.inr (a,b,c,d,e,f,g,h,i,j,k))
def Wn:Lp:=⟨[(0,.v (.sl .u64)),(1,.v (.sl Zg)),(2,.v (.sl Zg)),(3,.v yI),(4,.v yI),(5,.v yI),(6,.v yI),(15,.v .bool),(16,.v yI),(17,.v yI),(19,.v yI)],[],ZAk,[⟨.ret,[(14,.v .bool)],[],[.bool]⟩,⟨.normal,[(0,.v (.sl .u64)),(1,.v (.sl Zg)),(2,.v (.sl Zg)),(3,.v yI),(4,.v yI),(5,.v yI),(6,.v yI),(15,.v .bool),(16,.v yI),(17,.v yI),(19,.v yI)],[],ZAk⟩],YV fuel⟩
theorem Qt:Wn.Is Try.prog (XM Try.prog 3) (ZeF (V5 Try.prog 3 1) 3):=ZpZ 0 3 Zlx [] [] trivial
def ZQ(F:Nat)(s:ZvM):Option (ZvM⊕(Bool⊕((List UInt64)×(List FactorySub)×(List FactorySub)×Int×Int×Int×Int×Bool×Int×Int))):=
 let y714:Bool:=decide (s.2.2.2.2.2.2.2.2.2.2 < (s.2.2.1.length:Int))
 if y714=true then
  (YV F (s.1,s.2.1,s.2.2.1,s.2.2.2.1,s.2.2.2.2.1,s.2.2.2.2.2.1,s.2.2.2.2.2.2.1,s.2.2.2.2.2.2.2.1,s.2.2.2.2.2.2.2.2.1,s.2.2.2.2.2.2.2.2.2.1,s.2.2.2.2.2.2.2.2.2.2)).bind λo723=>
  match o723 with
  |.inl o724=>
   some (.inr (.inl o724))
  |.inr o725=>
   (idx o725.2.2.1 o725.2.2.2.2.2.2.2.2.2.2).bind λe726=>
   some (.inl (o725.1,o725.2.1,o725.2.2.1,o725.2.2.2.1,o725.2.2.2.2.1,o725.2.2.2.2.2.1,o725.2.2.2.2.2.2.1,o725.2.2.2.2.2.2.2.1,o725.2.2.2.2.2.2.2.2.1,wi (o725.2.2.2.2.2.2.2.2.2.1+e726.2.2),wi (o725.2.2.2.2.2.2.2.2.2.2+1)))
 else
 some (.inr (.inr (s.1,s.2.1,s.2.2.1,s.2.2.2.1,s.2.2.2.2.1,s.2.2.2.2.2.1,s.2.2.2.2.2.2.1,s.2.2.2.2.2.2.2.1,s.2.2.2.2.2.2.2.2.1,s.2.2.2.2.2.2.2.2.2.1)))
def WG:Lp:=⟨[(0,.v (.sl .u64)),(1,.v (.sl Zg)),(2,.v (.sl Zg)),(3,.v yI),(4,.v yI),(5,.v yI),(6,.v yI),(15,.v .bool),(16,.v yI),(17,.v yI),(19,.v yI)],[],ZAk,[⟨.ret,[(14,.v .bool)],[],[.bool]⟩,⟨.exit 2,[(0,.v (.sl .u64)),(1,.v (.sl Zg)),(2,.v (.sl Zg)),(3,.v yI),(4,.v yI),(5,.v yI),(6,.v yI),(15,.v .bool),(16,.v yI),(17,.v yI)],[],ZHF⟩],Zi (ZQ fuel) fuel⟩
theorem Zag:WG.okA Try.prog 3 1:=Zff (fi:={ hi:=Zlx,bk:=[(3,Wn)]}) (specs:={ l:=[]}) (okS trivial) (hb:=⟨Qt,ytt⟩)
abbrev ZIl:Type:=(Int×Int×Int×Int×Bool×Int×Int×Bool×Bool×(List Tx)×Int×(List Tx)×Int×FactoryPlan)
def Yh(F:Nat):ZIl→Option (Bool×FactoryPlan)
 |(_,_,_,_,a,b,c,d,e,_,f,_,g,h)=>
 if(!d)=true then
  if a=true then
   if(b !=c)=true then
    some (true,h)
   else
   if(!d)=true then
    some (true,h)
   else
   if(!e)=true then
    some (true,h)
   else
   if(f !=0)=true then
    some (true,h)
   else
   some (g !=0,h)
  else
  some (false,h)
 else
 if(!e)=true then
  if a=true then
   if(b !=c)=true then
    some (true,h)
   else
   if(!d)=true then
    some (true,h)
   else
   if(!e)=true then
    some (true,h)
   else
   if(f !=0)=true then
    some (true,h)
   else
   some (g !=0,h)
  else
  some (false,h)
 else
 if(f !=0)=true then
  if a=true then
   if(b !=c)=true then
    some (true,h)
   else
   if(!d)=true then
    some (true,h)
   else
   if(!e)=true then
    some (true,h)
   else
   if(f !=0)=true then
    some (true,h)
   else
   some (g !=0,h)
  else
  some (false,h)
 else
 if(g !=0)=true then
  if a=true then
   if(b !=c)=true then
    some (true,h)
   else
   if(!d)=true then
    some (true,h)
   else
   if(!e)=true then
    some (true,h)
   else
   if(f !=0)=true then
    some (true,h)
   else
   some (g !=0,h)
  else
  some (false,h)
 else
 if a=true then
  if(b !=c)=true then
   some (true,h)
  else
  if(!d)=true then
   some (true,h)
  else
  if(!e)=true then
   some (true,h)
  else
  if(f !=0)=true then
   some (true,h)
  else
  some (g !=0,h)
 else
 some (false,h)
abbrev ZIm:List Ty:=[yI,yI,yI,yI,.bool,yI,yI,.bool,.bool,(.sl yTx),yI,(.sl yTx),yI,Zc]
def Wo:Lp:=⟨[(3,.v yI),(4,.v yI),(5,.v yI),(6,.v yI),(15,.v .bool),(16,.v yI),(17,.v yI),(20,.ref 0 []),(22,.v .bool),(24,.v .bool),(25,.v (.sl yTx)),(26,.v yI),(27,.v (.sl yTx)),(28,.v yI),(29,.ptr0)],[.var (.v Zc) true],ZIm,[⟨.ret,[(14,.v .bool)],[.var (.v Zc) true],[.bool,Zc]⟩],Yh fuel⟩
theorem Qu:Wo.Is Try.prog (XM Try.prog 3) (ZeF (XL Try.prog 3) 29):=ZpZ 0 3 Zlx [] [] trivial
abbrev ZIn:Type:=(Int×Int×Int×Int×Bool×Int×Int×Bool×Bool×(List Tx)×Int×(List Tx)×Int×FactoryPlan×(List (Zd×Ww))×(List Zo))
abbrev ZDh:Type:=(Int×Int×Int×Int×Bool×(List Tx)×(List Tx)×FactoryPlan×(List (Zd×Ww))×(List Zo))
def ZC(F:Nat):ZIn→Option ((Bool×FactoryPlan×(List (Zd×Ww))×(List Zo))⊕ZDh)
 |(a,b,c,d,e,f,g,h,i,j,k,l,m,n,o,p)=>
 if(!h)=true then
  if e=true then
   if(f !=g)=true then
    some (.inl (true,n,o,p))
   else
   if(!h)=true then
    some (.inl (true,n,o,p))
   else
   if(!i)=true then
    some (.inl (true,n,o,p))
   else
   if(k !=0)=true then
    some (.inl (true,n,o,p))
   else
   some (.inl (m !=0,n,o,p))
  else
  some (.inl (false,n,o,p))
 else
 if(!i)=true then
  if e=true then
   if(f !=g)=true then
    some (.inl (true,n,o,p))
   else
   if(!h)=true then
    some (.inl (true,n,o,p))
   else
   if(!i)=true then
    some (.inl (true,n,o,p))
   else
   if(k !=0)=true then
    some (.inl (true,n,o,p))
   else
   some (.inl (m !=0,n,o,p))
  else
  some (.inl (false,n,o,p))
 else
 if(k !=0)=true then
  if e=true then
   if(f !=g)=true then
    some (.inl (true,n,o,p))
   else
   if(!h)=true then
    some (.inl (true,n,o,p))
   else
   if(!i)=true then
    some (.inl (true,n,o,p))
   else
   if(k !=0)=true then
    some (.inl (true,n,o,p))
   else
   some (.inl (m !=0,n,o,p))
  else
  some (.inl (false,n,o,p))
 else
 if(m !=0)=true then
  if e=true then
   if(f !=g)=true then
    some (.inl (true,n,o,p))
   else
   if(!h)=true then
    some (.inl (true,n,o,p))
   else
   if(!i)=true then
    some (.inl (true,n,o,p))
   else
   if(k !=0)=true then
    some (.inl (true,n,o,p))
   else
   some (.inl (m !=0,n,o,p))
  else
  some (.inl (false,n,o,p))
 else
 some (.inr (a,b,c,d,e,j,l,n,o,p))
abbrev ZDi:List Ty:=[yI,yI,yI,yI,.bool,(.sl yTx),(.sl yTx),Zc,(YN Zb ZL),(.sl Ze)]
abbrev ZIo:List Ty:=[yI,yI,yI,yI,.bool,yI,yI,.bool,.bool,(.sl yTx),yI,(.sl yTx),yI,Zc,(YN Zb ZL),(.sl Ze)]
def Wp:Lp:=⟨[(3,.v yI),(4,.v yI),(5,.v yI),(6,.v yI),(15,.v .bool),(16,.v yI),(17,.v yI),(20,.ref 0 []),(22,.v .bool),(24,.v .bool),(25,.v (.sl yTx)),(26,.v yI),(27,.v (.sl yTx)),(28,.v yI),(29,.ref 1 [])],[.var (.v Zc) true,.var (.agg [.mp 2,.own 3 Ze]) true,.map 104 Zb ZL,.log Ze 101],ZIo,[⟨.ret,[(14,.v .bool)],[.var (.v Zc) true,.var (.agg [.mp 2,.own 3 Ze]) true,.map 104 Zb ZL,.log Ze 101],[.bool,Zc,(YN Zb ZL),(.sl Ze)]⟩,⟨.normal,[(3,.v yI),(4,.v yI),(5,.v yI),(6,.v yI),(15,.v .bool),(20,.ref 0 []),(25,.v (.sl yTx)),(27,.v (.sl yTx)),(29,.ref 1 [])],[.var (.v Zc) true,.var (.agg [.mp 2,.own 3 Ze]) true,.map 104 Zb ZL,.log Ze 101],ZDi⟩],ZC fuel⟩
theorem Qv:Wp.Is Try.prog (XM Try.prog 3) (ZeF (XL Try.prog 3) 29):=ZpZ 0 3 Zlx [] [] trivial
def YW(F:Nat):ZDh→Option ((Bool×FactoryPlan×(List (Zd×Ww))×(List Zo))⊕ZDh)
 |(a,b,c,d,e,f,g,h,i,j)=>
 if((f.length:Int)!=3)=true then
  some (.inl (false,h,i,j))
 else
 if((g.length:Int)!=3)=true then
  some (.inl (false,h,i,j))
 else
 some (.inr (a,b,c,d,e,f,g,h,i,j))
def Wq:Lp:=⟨[(3,.v yI),(4,.v yI),(5,.v yI),(6,.v yI),(15,.v .bool),(20,.ref 0 []),(25,.v (.sl yTx)),(27,.v (.sl yTx)),(29,.ref 1 [])],[.var (.v Zc) true,.var (.agg [.mp 2,.own 3 Ze]) true,.map 104 Zb ZL,.log Ze 101],ZDi,[⟨.ret,[(14,.v .bool)],[.var (.v Zc) true,.var (.agg [.mp 2,.own 3 Ze]) true,.map 104 Zb ZL,.log Ze 101],[.bool,Zc,(YN Zb ZL),(.sl Ze)]⟩,⟨.normal,[(3,.v yI),(4,.v yI),(5,.v yI),(6,.v yI),(15,.v .bool),(20,.ref 0 []),(25,.v (.sl yTx)),(27,.v (.sl yTx)),(29,.ref 1 [])],[.var (.v Zc) true,.var (.agg [.mp 2,.own 3 Ze]) true,.map 104 Zb ZL,.log Ze 101],ZDi⟩],YW fuel⟩
theorem Qw:Wq.Is Try.prog (XM Try.prog 3) (ZeF (XL Try.prog 3) 32):=ZpZ 0 3 Zlx [] [] trivial
def Yi(F:Nat):ZDh→Option ((Bool×FactoryPlan×(List (Zd×Ww))×(List Zo))⊕ZDh)
 |(a,b,c,d,e,f,g,h,i,j)=>
 (idx f 0).bind λe751=>
 (ZY F e751).bind λo752=>
 (idx g 0).bind λe753=>
 (ZY F e753).bind λo754=>
 if(!(decide (o752=o754)))=true then
  some (.inl (false,h,i,j))
 else
 (idx f 0).bind λe755=>
 (Zm F e755 d i j).bind λo756=>
 if(o756.1 !=0)=true then
  some (.inl (false,h,o756.2.1,o756.2.2))
 else
 some (.inr (a,b,c,d,e,f,g,h,o756.2.1,o756.2.2))
def Wr:Lp:=⟨[(3,.v yI),(4,.v yI),(5,.v yI),(6,.v yI),(15,.v .bool),(20,.ref 0 []),(25,.v (.sl yTx)),(27,.v (.sl yTx)),(29,.ref 1 [])],[.var (.v Zc) true,.var (.agg [.mp 2,.own 3 Ze]) true,.map 104 Zb ZL,.log Ze 101],ZDi,[⟨.ret,[(14,.v .bool)],[.var (.v Zc) true,.var (.agg [.mp 2,.own 3 Ze]) true,.map 104 Zb ZL,.log Ze 101],[.bool,Zc,(YN Zb ZL),(.sl Ze)]⟩,⟨.normal,[(3,.v yI),(4,.v yI),(5,.v yI),(6,.v yI),(15,.v .bool),(20,.ref 0 []),(25,.v (.sl yTx)),(27,.v (.sl yTx)),(29,.ref 1 [])],[.var (.v Zc) true,.var (.agg [.mp 2,.own 3 Ze]) true,.map 104 Zb ZL,.log Ze 101],ZDi⟩],Yi fuel⟩
theorem Qx:Wr.Is Try.prog (XM Try.prog 3) (ZeF (XL Try.prog 3) 38):=ZpZ 0 3 Zlx [] [WQ,X4] ⟨X3,XO,ytt⟩
abbrev ZIp:Type:=(Int×Int×Int×Int×Bool×(List Tx)×(List Tx)×Int×Int×Int×FactoryPlan×(List (Zd×Ww))×(List Zo))
abbrev ZEP:Type:=(Int×Int×Int×Bool×(List Tx)×(List Tx)×Int×Int×Int×FactoryPlan×(List (Zd×Ww))×(List Zo))
def ZM(F:Nat):ZIp→Option ((Bool×FactoryPlan×(List (Zd×Ww))×(List Zo))⊕ZEP)
 |(a,b,c,d,e,f,g,h,i,j,k,l,m)=>
 let y762:Bool:=(wi (Int.tdiv a 4))!=(wi (Int.tdiv (wi (a+b)) 4))
 if y762=true then
  (idx f 1).bind λe763=>
  (ZY F e763).bind λo764=>
  (idx g 1).bind λe765=>
  (ZY F e765).bind λo766=>
  if(decide (o764=o766))=true then
   some (.inl (e,k,l,m))
  else
  some (.inr (a,c,d,e,f,g,h,i,j,k,l,m))
 else
 some (.inr (a,c,d,e,f,g,h,i,j,k,l,m))
abbrev ZEQ:List Ty:=[yI,yI,yI,.bool,(.sl yTx),(.sl yTx),yI,yI,yI,Zc,(YN Zb ZL),(.sl Ze)]
abbrev ZIq:List Ty:=[yI,yI,yI,yI,.bool,(.sl yTx),(.sl yTx),yI,yI,yI,Zc,(YN Zb ZL),(.sl Ze)]
def Ws:Lp:=⟨[(3,.v yI),(4,.v yI),(5,.v yI),(6,.v yI),(15,.v .bool),(20,.ref 0 []),(25,.v (.sl yTx)),(27,.v (.sl yTx)),(29,.ref 1 []),(30,.v yI),(32,.v yI),(33,.v yI)],[.var (.v Zc) true,.var (.agg [.mp 2,.own 3 Ze]) true,.map 104 Zb ZL,.log Ze 101],ZIq,[⟨.ret,[(14,.v .bool)],[.var (.v Zc) true,.var (.agg [.mp 2,.own 3 Ze]) true,.map 104 Zb ZL,.log Ze 101],[.bool,Zc,(YN Zb ZL),(.sl Ze)]⟩,⟨.normal,[(3,.v yI),(5,.v yI),(6,.v yI),(15,.v .bool),(20,.ref 0 []),(25,.v (.sl yTx)),(27,.v (.sl yTx)),(29,.ref 1 []),(30,.v yI),(32,.v yI),(33,.v yI)],[.var (.v Zc) true,.var (.agg [.mp 2,.own 3 Ze]) true,.map 104 Zb ZL,.log Ze 101],ZEQ⟩],ZM fuel⟩
theorem Qy:Ws.Is Try.prog (XM Try.prog 3) (ZeF (XL Try.prog 3) 43):=ZpZ 0 3 Zlx [] [WQ] ⟨X3,ytt⟩
def ZN(F:Nat):ZEP→Option ((Bool×FactoryPlan×(List (Zd×Ww))×(List Zo))⊕ZEP)
 |(a,b,c,d,e,f,g,h,i,j,k,l)=>
 (idx e 1).bind λe770=>
 (ZY F e770).bind λo771=>
 (idx f 1).bind λe772=>
 (ZY F e772).bind λo773=>
 if(!(decide (o771=o773)))=true then
  (idx e 0).bind λe778=>
  (idx e 1).bind λe779=>
  (idx f 1).bind λe780=>
  (Xc F [e778,e779,e780]).bind λo781=>
  if(!o781)=true then
   some (.inl (d,j,k,l))
  else
  if d=true then
   if(decide ((wi (h+b))≤g))=true then
    (idx e 1).bind λe782=>
    (Zm F e782 h k l).bind λo783=>
    if(o783.1==11)=true then
     (idx f 1).bind λe784=>
     (Zm F e784 h o783.2.1 o783.2.2).bind λo785=>
     if(o785.1==0)=true then
      (idx e 1).bind λe786=>
      (Zm F e786 g o785.2.1 o785.2.2).bind λo787=>
      some (.inl (o787.1==5,j,o787.2.1,o787.2.2))
     else
     some (.inl (false,j,o785.2.1,o785.2.2))
    else
    some (.inl (false,j,o783.2.1,o783.2.2))
   else
   some (.inl (false,j,k,l))
  else
  some (.inl (false,j,k,l))
 else
 some (.inr (a,b,c,d,e,f,g,h,i,j,k,l))
def Wt:Lp:=⟨[(3,.v yI),(5,.v yI),(6,.v yI),(15,.v .bool),(20,.ref 0 []),(25,.v (.sl yTx)),(27,.v (.sl yTx)),(29,.ref 1 []),(30,.v yI),(32,.v yI),(33,.v yI)],[.var (.v Zc) true,.var (.agg [.mp 2,.own 3 Ze]) true,.map 104 Zb ZL,.log Ze 101],ZEQ,[⟨.ret,[(14,.v .bool)],[.var (.v Zc) true,.var (.agg [.mp 2,.own 3 Ze]) true,.map 104 Zb ZL,.log Ze 101],[.bool,Zc,(YN Zb ZL),(.sl Ze)]⟩,⟨.normal,[(3,.v yI),(5,.v yI),(6,.v yI),(15,.v .bool),(20,.ref 0 []),(25,.v (.sl yTx)),(27,.v (.sl yTx)),(29,.ref 1 []),(30,.v yI),(32,.v yI),(33,.v yI)],[.var (.v Zc) true,.var (.agg [.mp 2,.own 3 Ze]) true,.map 104 Zb ZL,.log Ze 101],ZEQ⟩],ZN fuel⟩
theorem Qz:Wt.Is Try.prog (XM Try.prog 3) (ZeF (XL Try.prog 3) 46):=ZpZ 0 3 Zlx [] [WQ,Ve,X4] ⟨X3,Zab,XO,ytt⟩
abbrev ZIr:Type:=(Int×Int×Int×Bool×(List Tx)×(List Tx)×Int×FactoryPlan×(List (Zd×Ww))×(List Zo))
def Yj(F:Nat):ZEP→Option ((Bool×FactoryPlan×(List (Zd×Ww))×(List Zo))⊕ZIr)
 |(a,b,c,d,e,f,g,h,i,j,k,l)=>
 if(g !=h)=true then
  some (.inl (false,j,k,l))
 else
 (idx e 1).bind λe801=>
 (Zm F e801 h k l).bind λo802=>
 if(o802.1 !=0)=true then
  some (.inl (false,j,o802.2.1,o802.2.2))
 else
 some (.inr (a,b,c,d,e,f,i,j,o802.2.1,o802.2.2))
abbrev ZIs:List Ty:=[yI,yI,yI,.bool,(.sl yTx),(.sl yTx),yI,Zc,(YN Zb ZL),(.sl Ze)]
def Wu:Lp:=⟨[(3,.v yI),(5,.v yI),(6,.v yI),(15,.v .bool),(20,.ref 0 []),(25,.v (.sl yTx)),(27,.v (.sl yTx)),(29,.ref 1 []),(30,.v yI),(32,.v yI),(33,.v yI)],[.var (.v Zc) true,.var (.agg [.mp 2,.own 3 Ze]) true,.map 104 Zb ZL,.log Ze 101],ZEQ,[⟨.ret,[(14,.v .bool)],[.var (.v Zc) true,.var (.agg [.mp 2,.own 3 Ze]) true,.map 104 Zb ZL,.log Ze 101],[.bool,Zc,(YN Zb ZL),(.sl Ze)]⟩,⟨.normal,[(3,.v yI),(5,.v yI),(6,.v yI),(15,.v .bool),(20,.ref 0 []),(25,.v (.sl yTx)),(27,.v (.sl yTx)),(29,.ref 1 []),(33,.v yI)],[.var (.v Zc) true,.var (.agg [.mp 2,.own 3 Ze]) true,.map 104 Zb ZL,.log Ze 101],ZIs⟩],Yj fuel⟩
theorem QA:Wu.Is Try.prog (XM Try.prog 3) (ZeF (XL Try.prog 3) 55):=ZpZ 0 3 Zlx [] [X4] ⟨XO,ytt⟩
def Ye(F:Nat)(a0:(List UInt64))(a1:(List FactorySub))(a2:(List FactorySub))(a3:Int)(a4:Int)(a5:Int)(a6:Int):Option (Bool):=
 ((some true)).bind λo662=>
 (Z3 F (a0,a1,a2,a3,a4,a5,a6,o662)).bind λo663=>
 match o663 with
 |.inl o664=>
  some o664
 |.inr o665=>
  (Zi (ZP F) F (o665.1,o665.2.1,o665.2.2.1,o665.2.2.2.1,o665.2.2.2.2.1,o665.2.2.2.2.2.1,o665.2.2.2.2.2.2.1,o665.2.2.2.2.2.2.2,0,0,0)).bind λo695=>
  match o695 with
  |.inl o696=>
   some o696
  |.inr o697=>
   (Zi (ZQ F) F (o697.1,o697.2.1,o697.2.2.1,o697.2.2.2.1,o697.2.2.2.2.1,o697.2.2.2.2.2.1,o697.2.2.2.2.2.2.1,o697.2.2.2.2.2.2.2.1,o697.2.2.2.2.2.2.2.2.1,o697.2.2.2.2.2.2.2.2.2,0)).bind λo727=>
   match o727 with
   |.inl o728=>
    some o728
   |.inr o729=>
    (WT F o729.1 o729.2.2.2.2.2.2.2.2.1 o729.2.2.2.2.2.1 0).bind λo730=>
    (Xa F o730 o729.2.2.2.1 o729.2.1 o729.1).bind λo731=>
    (Xa F o730 (wi (o729.2.2.2.1+o729.2.2.2.2.1)) o729.2.2.1 o729.1).bind λo732=>
    (Ya F o730 o729.2.2.2.1 o729.2.1 o731.1).bind λo733=>
    (Ya F o730 (wi (o729.2.2.2.1+o729.2.2.2.2.1)) o729.2.2.1 o732.1).bind λo734=>
    (Xb F o730).bind λo735=>
    match o735 with
    |.inl o736=>
     (Yh F (o729.2.2.2.1,o729.2.2.2.2.1,o729.2.2.2.2.2.1,o729.2.2.2.2.2.2.1,o729.2.2.2.2.2.2.2.1,o729.2.2.2.2.2.2.2.2.1,o729.2.2.2.2.2.2.2.2.2,o731.2,o732.2,o733.1,o733.2,o734.1,o734.2,o730)).bind λo737=>
     some o737.1
    |.inr o738=>
     (ZC F (o729.2.2.2.1,o729.2.2.2.2.1,o729.2.2.2.2.2.1,o729.2.2.2.2.2.2.1,o729.2.2.2.2.2.2.2.1,o729.2.2.2.2.2.2.2.2.1,o729.2.2.2.2.2.2.2.2.2,o731.2,o732.2,o733.1,o733.2,o734.1,o734.2,o730,o738.1,o738.2)).bind λo739=>
     match o739 with
     |.inl o740=>
      some o740.1
     |.inr o741=>
      (YW F (o741.1,o741.2.1,o741.2.2.1,o741.2.2.2.1,o741.2.2.2.2.1,o741.2.2.2.2.2.1,o741.2.2.2.2.2.2.1,o741.2.2.2.2.2.2.2.1,o741.2.2.2.2.2.2.2.2.1,o741.2.2.2.2.2.2.2.2.2)).bind λo742=>
      match o742 with
      |.inl o743=>
       some o743.1
      |.inr o744=>
       (idx o744.2.2.2.2.2.1 0).bind λe748=>
       (ZY F e748).bind λo749=>
       let y750:Bool:=decide (o749=yzz)
       if y750=true then
        some o744.2.2.2.2.1
       else
       (Yi F (o744.1,o744.2.1,o744.2.2.1,o744.2.2.2.1,o744.2.2.2.2.1,o744.2.2.2.2.2.1,o744.2.2.2.2.2.2.1,o744.2.2.2.2.2.2.2.1,o744.2.2.2.2.2.2.2.2.1,o744.2.2.2.2.2.2.2.2.2)).bind λo757=>
       match o757 with
       |.inl o758=>
        some o758.1
       |.inr o759=>
        (Vb F o759.2.2.2.2.2.2.2.1 o759.1 o759.2.2.2.1).bind λo760=>
        (Vb F o759.2.2.2.2.2.2.2.1 (wi (o759.1+o759.2.1)) o759.2.2.2.1).bind λo761=>
        (ZM F (o759.1,o759.2.1,o759.2.2.1,o759.2.2.2.1,o759.2.2.2.2.1,o759.2.2.2.2.2.1,o759.2.2.2.2.2.2.1,o760.1,o761.1,o761.2,o759.2.2.2.2.2.2.2.1,o759.2.2.2.2.2.2.2.2.1,o759.2.2.2.2.2.2.2.2.2)).bind λo767=>
        match o767 with
        |.inl o768=>
         some o768.1
        |.inr o769=>
         (ZN F (o769.1,o769.2.1,o769.2.2.1,o769.2.2.2.1,o769.2.2.2.2.1,o769.2.2.2.2.2.1,o769.2.2.2.2.2.2.1,o769.2.2.2.2.2.2.2.1,o769.2.2.2.2.2.2.2.2.1,o769.2.2.2.2.2.2.2.2.2.1,o769.2.2.2.2.2.2.2.2.2.2.1,o769.2.2.2.2.2.2.2.2.2.2.2)).bind λo788=>
         match o788 with
         |.inl o789=>
          some o789.1
         |.inr o790=>
          (idx o790.2.2.2.2.1 0).bind λe796=>
          (idx o790.2.2.2.2.1 1).bind λe797=>
          (idx o790.2.2.2.2.1 2).bind λe798=>
          (idx o790.2.2.2.2.2.1 2).bind λe799=>
          (Xc F [e796,e797,e798,e799]).bind λo800=>
          if(!o800)=true then
           some o790.2.2.2.1
          else
          (Yj F (o790.1,o790.2.1,o790.2.2.1,o790.2.2.2.1,o790.2.2.2.2.1,o790.2.2.2.2.2.1,o790.2.2.2.2.2.2.1,o790.2.2.2.2.2.2.2.1,o790.2.2.2.2.2.2.2.2.1,o790.2.2.2.2.2.2.2.2.2.1,o790.2.2.2.2.2.2.2.2.2.2.1,o790.2.2.2.2.2.2.2.2.2.2.2)).bind λo803=>
          match o803 with
          |.inl o804=>
           some o804.1
          |.inr o805=>
           (Vb F o805.2.2.2.2.2.2.2.1 o805.1 o805.2.2.1).bind λo806=>
           if o805.2.2.2.1=true then
            let y807:Bool:=decide ((wi (o805.2.2.2.2.2.2.1+o805.2.1))≤o806.2)
            if y807=true then
             (idx o805.2.2.2.2.1 2).bind λe808=>
             (Zm F e808 o805.2.2.2.2.2.2.1 o805.2.2.2.2.2.2.2.2.1 o805.2.2.2.2.2.2.2.2.2).bind λo809=>
             if(o809.1==11)=true then
              (idx o805.2.2.2.2.2.1 2).bind λe810=>
              (Zm F e810 o805.2.2.2.2.2.2.1 o809.2.1 o809.2.2).bind λo811=>
              if(o811.1==0)=true then
               (idx o805.2.2.2.2.1 2).bind λe812=>
               (Zm F e812 o806.2 o811.2.1 o811.2.2).bind λo813=>
               some (o813.1==5)
              else
              some false
             else
             some false
            else
            some false
           else
           some false
def Zbp(F:Nat):Fs Try.prog:=⟨3,[.v (.sl .u64),.v (.sl Zg),.v (.sl Zg),.v yI,.v yI,.v yI,.v yI],[],[(.sl .u64),(.sl Zg),(.sl Zg),yI,yI,yI,yI],[⟨.ret,[(0,.v .bool)],[],[.bool]⟩],λx=>Ye F x.1 x.2.1 x.2.2.1 x.2.2.2.1 x.2.2.2.2.1 x.2.2.2.2.2.1 x.2.2.2.2.2.2⟩
def ZbO:Fs Try.prog:=Zbp fuel
theorem Zbq:ZbO.Ok:=ZE9 (fi:={ hi:=Zlx,lp:=[(0,WF),(1,WG)],bk:=[(2,WD),(29,Wo),(29,Wp),(32,Wq),(38,Wr),(43,Ws),(46,Wt),(55,Wu)]}) (specs:={ l:=[ZFh,ZbQ,Zal,Zdc,Zam,WQ,ZgZ,Ve,X4]}) (okS ⟨ZGV,Zbn,Q8,ZbJ,Zfy,X3,ZfQ,Zab,XO,ytt⟩) ⟨Zaf,Zag,ytt⟩ (hb:=⟨Zad,Qu,Qv,Qw,Qx,Qy,Qz,QA,ytt⟩)
end
end Go.Proofs.Ytkapgdbeeblihaa
end
