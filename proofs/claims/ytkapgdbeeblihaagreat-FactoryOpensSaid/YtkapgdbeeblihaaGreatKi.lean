/- Parts of the proof, in one file. -/
import Derived.Test.YtkapgdbeeblihaaGreatKh
open Go.Proofs.Tryz renaming prog → yf
set_option linter.unusedVariables false
section
set_option maxRecDepth 4000
namespace Go.Proofs.YtkapgdbeeblihaaGreat
open Go Go.Ev
noncomputable section
def ZO(F:Nat)(s:((List UInt64)×(List FactorySub)×Int×Int×Int×Int×Bool×Int×Int)):Option (((List UInt64)×(List FactorySub)×Int×Int×Int×Int×Bool×Int×Int)⊕(Bool⊕((List UInt64)×(List FactorySub)×Int×Int×Int×Int×Bool×Int))):=
 let y680:Bool:=decide (s.2.2.2.2.2.2.2.2 < (s.2.1.length:Int))
 if y680=true then
  (idx s.2.1 s.2.2.2.2.2.2.2.2).bind λe681=>
  if(decide (e681.2.2 < 0))=true then
   some (.inr (.inl s.2.2.2.2.2.2.1))
  else
  (idx s.2.1 s.2.2.2.2.2.2.2.2).bind λe682=>
  if(decide (e682.2.2 > 1099511627776))=true then
   some (.inr (.inl s.2.2.2.2.2.2.1))
  else
  (idx s.2.1 s.2.2.2.2.2.2.2.2).bind λe683=>
  some (.inl (s.1,s.2.1,s.2.2.1,s.2.2.2.1,s.2.2.2.2.1,s.2.2.2.2.2.1,s.2.2.2.2.2.2.1,wi (s.2.2.2.2.2.2.2.1+e683.2.2),wi (s.2.2.2.2.2.2.2.2+1)))
 else
 some (.inr (.inr (s.1,s.2.1,s.2.2.1,s.2.2.2.1,s.2.2.2.2.1,s.2.2.2.2.2.1,s.2.2.2.2.2.2.1,s.2.2.2.2.2.2.2.1)))
abbrev ZIe:List Ty:=[(.sl .u64),(.sl Zj),yI,yI,yI,yI,.bool,yI]
abbrev ZIf:List Ty:=[(.sl .u64),(.sl Zj),yI,yI,yI,yI,.bool,yI,yI]
def Wv:Lp:=⟨[(0,.v (.sl .u64)),(1,.v (.sl Zj)),(2,.v yI),(3,.v yI),(4,.v yI),(5,.v yI),(13,.v .bool),(14,.v yI),(15,.v yI)],[],ZIf,[⟨.ret,[(12,.v .bool)],[],[.bool]⟩,⟨.exit 0,[(0,.v (.sl .u64)),(1,.v (.sl Zj)),(2,.v yI),(3,.v yI),(4,.v yI),(5,.v yI),(13,.v .bool),(14,.v yI)],[],ZIe⟩],Zh (ZO fuel) fuel⟩
def ZGJ:HI:={ still:=[12,90,91,92,93,96,97,98,99,104,105,106,107,111,120,126,127,128,133,134,135,158,161,162,170,173,175,180,183,184,189,192,193,201,204,206,211,214,215,226,230,250,256,262,263,269,282]}
theorem QH:Wv.okA yf 3 0:=ZU ZGJ [] [] trivial
abbrev ZHy:Type:=((List FactorySub)×Int×Int×Bool×Int×(List Zd)×Int×FactoryPlan×(List (Zd×WW))×(List CoinsStep))
def Zv(F:Nat)(s:ZHy):Option (ZHy⊕((Bool×FactoryPlan×(List (Zd×WW))×(List CoinsStep))⊕(Int×Int×Bool×Int×FactoryPlan×(List (Zd×WW))×(List CoinsStep)))):=
 let y711:Bool:=decide (s.2.2.2.2.2.2.1 < (s.2.2.2.2.2.1.length:Int))
 if y711=true then
  (idx s.2.2.2.2.2.1 s.2.2.2.2.2.2.1).bind λe712=>
  (Qx F e712 s.2.2.2.2.2.2.2.2.1 s.2.2.2.2.2.2.2.2.2).bind λo713=>
  if(!o713.2.1)=true then
   some (.inr (.inl (false,s.2.2.2.2.2.2.2.1,o713.2.2.1,o713.2.2.2)))
  else
  (idx s.1 s.2.2.2.2.2.2.1).bind λe714=>
  if(o713.1.1.1 !=e714.2.2)=true then
   some (.inr (.inl (false,s.2.2.2.2.2.2.2.1,o713.2.2.1,o713.2.2.2)))
  else
  (idx s.1 s.2.2.2.2.2.2.1).bind λe715=>
  (idx e715.2.1 0).bind λe716=>
  (idx s.1 s.2.2.2.2.2.2.1).bind λe717=>
  (idx e717.2.1 1).bind λe718=>
  (Zab F e716 e718).bind λo719=>
  (Zfa F o713.1.1.2 o719).bind λo720=>
  if(!o720)=true then
   some (.inr (.inl (false,s.2.2.2.2.2.2.2.1,o713.2.2.1,o713.2.2.2)))
  else
  some (.inl (s.1,s.2.1,s.2.2.1,s.2.2.2.1,s.2.2.2.2.1,s.2.2.2.2.2.1,wi (s.2.2.2.2.2.2.1+1),s.2.2.2.2.2.2.2.1,o713.2.2.1,o713.2.2.2))
 else
 some (.inr (.inr (s.2.1,s.2.2.1,s.2.2.2.1,s.2.2.2.2.1,s.2.2.2.2.2.2.2.1,s.2.2.2.2.2.2.2.2.1,s.2.2.2.2.2.2.2.2.2)))
abbrev ZIg:List Ty:=[yI,yI,.bool,yI,Zc,(YN Zb ZX),(.sl Zf)]
abbrev ZIh:List Ty:=[(.sl Zj),yI,yI,.bool,yI,(.sl Zb),yI,Zc,(YN Zb ZX),(.sl Zf)]
def Ww:Lp:=⟨[(1,.v (.sl Zj)),(4,.v yI),(5,.v yI),(13,.v .bool),(16,.ref 0 []),(21,.ref 1 []),(23,.v yI),(24,.v (.sl Zb)),(26,.v yI)],[.var (.v Zc) true,.var (.agg [.mp 2,.own 3 Zf]) true,.map 106 Zb ZX,.log Zf 105],ZIh,[⟨.ret,[(12,.v .bool)],[.var (.v Zc) true,.var (.agg [.mp 2,.own 3 Zf]) true,.map 106 Zb ZX,.log Zf 105],[.bool,Zc,(YN Zb ZX),(.sl Zf)]⟩,⟨.exit 2,[(4,.v yI),(5,.v yI),(13,.v .bool),(16,.ref 0 []),(21,.ref 1 []),(23,.v yI)],[.var (.v Zc) true,.var (.agg [.mp 2,.own 3 Zf]) true,.map 106 Zb ZX,.log Zf 105],ZIg⟩],Zh (Zv fuel) fuel⟩
theorem QI:Ww.okA yf 3 1:=ZU ZGJ [] [Zfx,Zdw,Zl6] ⟨Zk9,Zfb,Zs8,ytt⟩
def Yc(F:Nat)(a0:(List UInt64))(a1:(List FactorySub))(a2:Int)(a3:Int)(a4:Int)(a5:Int):Option (Bool):=
 ((some true)).bind λo679=>
 if(decide ((a0.length:Int) < 2))=true then
  some o679
 else
 if(decide ((a0.length:Int) > 4))=true then
  some o679
 else
 if(decide ((a1.length:Int) > 5))=true then
  some o679
 else
 if(decide (a4 < 0))=true then
  some o679
 else
 if(decide (a4 > 1099511627776))=true then
  some o679
 else
 if(decide (a5 < 1))=true then
  some o679
 else
 if(decide (a5 > 1000))=true then
  some o679
 else
 (Zh (ZO F) F (a0,a1,a2,a3,a4,a5,o679,wi (3*a4),0)).bind λo684=>
 match o684 with
 |.inl o685=>
  some o685
 |.inr o686=>
  (Wm F o686.1 o686.2.2.2.2.2.2.2 o686.2.2.2.1 o686.2.2.2.2.1).bind λo687=>
  (XO F o687 o686.2.2.1 o686.2.1 o686.1).bind λo688=>
  (YR F o687 o686.2.2.1 o686.2.1 o688.1).bind λo689=>
  (YV F o687).bind λo690=>
  match o690 with
  |.inl o691=>
   if(!o688.2)=true then
    some o686.2.2.2.2.2.2.1
   else
   if(o689.2 !=0)=true then
    some o686.2.2.2.2.2.2.1
   else
   (YW F o689.1).bind λo692=>
   if(!o692)=true then
    some o686.2.2.2.2.2.2.1
   else
   (Vv F o687 o686.2.2.1 o686.2.2.2.2.2.1).bind λo693=>
   (W5 F o687 o686.2.2.1 o686.2.1).bind λo694=>
   some false
  |.inr o695=>
   if(!o688.2)=true then
    some o686.2.2.2.2.2.2.1
   else
   if(o689.2 !=0)=true then
    some o686.2.2.2.2.2.2.1
   else
   (YW F o689.1).bind λo696=>
   if(!o696)=true then
    some o686.2.2.2.2.2.2.1
   else
   (Vv F o687 o686.2.2.1 o686.2.2.2.2.2.1).bind λo697=>
   (W5 F o687 o686.2.2.1 o686.2.1).bind λo698=>
   if(o698.2 !=0)=true then
    some false
   else
   if((o689.1.length:Int)!=3)=true then
    some false
   else
   if((o698.1.length:Int)!=(o686.2.1.length:Int))=true then
    some false
   else
   (idx o689.1 0).bind λe699=>
   (coins_Set_ApplyM F e699 o686.2.2.2.2.2.1 o695.1 o695.2).bind λo700=>
   if(o700.1 !=0)=true then
    some false
   else
   if(decide (o697.1 > o686.2.2.2.2.2.1))=true then
    (idx o689.1 1).bind λe701=>
    (coins_Set_ApplyM F e701 (wi (o697.1 - 1)) o700.2.1 o700.2.2).bind λo702=>
    if(o702.1 !=11)=true then
     some false
    else
    (idx o689.1 2).bind λe703=>
    (coins_Set_ApplyM F e703 o697.1 o702.2.1 o702.2.2).bind λo704=>
    if(o704.1 !=5)=true then
     some false
    else
    (idx o689.1 1).bind λe705=>
    (coins_Set_ApplyM F e705 o697.1 o704.2.1 o704.2.2).bind λo706=>
    if(o706.1 !=0)=true then
     some false
    else
    if(decide (o697.2 > o697.1))=true then
     (idx o689.1 2).bind λe707=>
     (coins_Set_ApplyM F e707 (wi (o697.2 - 1)) o706.2.1 o706.2.2).bind λo708=>
     if(o708.1 !=11)=true then
      some false
     else
     (idx o689.1 2).bind λe709=>
     (coins_Set_ApplyM F e709 o697.2 o708.2.1 o708.2.2).bind λo710=>
     if(o710.1 !=0)=true then
      some false
     else
     (Zh (Zv F) F (o686.2.1,o686.2.2.2.2.1,o686.2.2.2.2.2.1,o686.2.2.2.2.2.2.1,o697.2,o698.1,0,o687,o710.2.1,o710.2.2)).bind λo721=>
     match o721 with
     |.inl o722=>
      some o722.1
     |.inr o723=>
      if o723.2.2.1=true then
       (coins_Set_TotalM F o723.2.2.2.2.2.1 o723.2.2.2.2.2.2).bind λo724=>
       let y725:Bool:=o724.1==(wi (o723.2.2.2.2.1.2.1 - (wi (3*o723.1))))
       if y725=true then
        (XU F o723.2.2.2.2.1).bind λo726=>
        some (decide ((wi (o723.2.2.2.1 - o723.2.1))≤o726))
       else
       some false
      else
      some false
    else
    (idx o689.1 2).bind λe727=>
    (coins_Set_ApplyM F e727 o697.2 o706.2.1 o706.2.2).bind λo728=>
    if(o728.1 !=0)=true then
     some false
    else
    (Zh (Zv F) F (o686.2.1,o686.2.2.2.2.1,o686.2.2.2.2.2.1,o686.2.2.2.2.2.2.1,o697.2,o698.1,0,o687,o728.2.1,o728.2.2)).bind λo729=>
    match o729 with
    |.inl o730=>
     some o730.1
    |.inr o731=>
     if o731.2.2.1=true then
      (coins_Set_TotalM F o731.2.2.2.2.2.1 o731.2.2.2.2.2.2).bind λo732=>
      let y733:Bool:=o732.1==(wi (o731.2.2.2.2.1.2.1 - (wi (3*o731.1))))
      if y733=true then
       (XU F o731.2.2.2.2.1).bind λo734=>
       some (decide ((wi (o731.2.2.2.1 - o731.2.1))≤o734))
      else
      some false
     else
     some false
   else
   (idx o689.1 2).bind λe735=>
   (coins_Set_ApplyM F e735 o697.1 o700.2.1 o700.2.2).bind λo736=>
   if(o736.1 !=5)=true then
    some false
   else
   (idx o689.1 1).bind λe737=>
   (coins_Set_ApplyM F e737 o697.1 o736.2.1 o736.2.2).bind λo738=>
   if(o738.1 !=0)=true then
    some false
   else
   if(decide (o697.2 > o697.1))=true then
    (idx o689.1 2).bind λe739=>
    (coins_Set_ApplyM F e739 (wi (o697.2 - 1)) o738.2.1 o738.2.2).bind λo740=>
    if(o740.1 !=11)=true then
     some false
    else
    (idx o689.1 2).bind λe741=>
    (coins_Set_ApplyM F e741 o697.2 o740.2.1 o740.2.2).bind λo742=>
    if(o742.1 !=0)=true then
     some false
    else
    (Zh (Zv F) F (o686.2.1,o686.2.2.2.2.1,o686.2.2.2.2.2.1,o686.2.2.2.2.2.2.1,o697.2,o698.1,0,o687,o742.2.1,o742.2.2)).bind λo743=>
    match o743 with
    |.inl o744=>
     some o744.1
    |.inr o745=>
     if o745.2.2.1=true then
      (coins_Set_TotalM F o745.2.2.2.2.2.1 o745.2.2.2.2.2.2).bind λo746=>
      let y747:Bool:=o746.1==(wi (o745.2.2.2.2.1.2.1 - (wi (3*o745.1))))
      if y747=true then
       (XU F o745.2.2.2.2.1).bind λo748=>
       some (decide ((wi (o745.2.2.2.1 - o745.2.1))≤o748))
      else
      some false
     else
     some false
   else
   (idx o689.1 2).bind λe749=>
   (coins_Set_ApplyM F e749 o697.2 o738.2.1 o738.2.2).bind λo750=>
   if(o750.1 !=0)=true then
    some false
   else
   (Zh (Zv F) F (o686.2.1,o686.2.2.2.2.1,o686.2.2.2.2.2.1,o686.2.2.2.2.2.2.1,o697.2,o698.1,0,o687,o750.2.1,o750.2.2)).bind λo751=>
   match o751 with
   |.inl o752=>
    some o752.1
   |.inr o753=>
    if o753.2.2.1=true then
     (coins_Set_TotalM F o753.2.2.2.2.2.1 o753.2.2.2.2.2.2).bind λo754=>
     let y755:Bool:=o754.1==(wi (o753.2.2.2.2.1.2.1 - (wi (3*o753.1))))
     if y755=true then
      (XU F o753.2.2.2.2.1).bind λo756=>
      some (decide ((wi (o753.2.2.2.1 - o753.2.1))≤o756))
     else
     some false
    else
    some false
def Zbj(F:Nat):Fs yf:=⟨3,[.v (.sl .u64),.v (.sl Zj),.v yI,.v yI,.v yI,.v yI],[],[(.sl .u64),(.sl Zj),yI,yI,yI,yI],[⟨.ret,[(0,.v .bool)],[],[.bool]⟩],λx=>Yc F x.1 x.2.1 x.2.2.1 x.2.2.2.1 x.2.2.2.2.1 x.2.2.2.2.2⟩
def ZbJ:Fs yf:=Zbj fuel
theorem Zbk:ZbJ.Ok:=fnO ZGJ [(0,Wv),(1,Ww)] [ZE8,Zbm,QM,ZcO,QN,QO,ZgJ,ZfS,Zdu,Zdv,ZgX] ⟨ZGI,ZaU,QA,Zbf,Zfg,Zfi,Zfz,Zlh,Zcy,ZcA,ZfO,ytt⟩ ⟨QH,QI,ytt⟩
end
end Go.Proofs.YtkapgdbeeblihaaGreat
end
