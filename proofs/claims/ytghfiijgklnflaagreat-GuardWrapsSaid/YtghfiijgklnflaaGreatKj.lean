/- Parts of the proof, in one file. -/
import Derived.Test.YtghfiijgklnflaaGreatKi
open Option renaming some → ab, none → ad
open Bool renaming true → ae, false → af
open Decidable renaming decide → ag
set_option linter.unusedVariables false
section
set_option maxRecDepth 4000
namespace Go.Proofs.YtghfiijgklnflaaGreat
open Go Go.Ev
noncomputable section
def Wm(F:Nat)(a0:Tx)(a1:aGO)(a2:Vb):yO (Bool):=
 ((ab ae)).bind λa=>
 (VK F a0).bind λb=>
 if(!b)=ae then
  ab a
 else
 if(ag ((a2.2.length:Int) > 8200))=ae then
  ab a
 else
 (V1 F a0 a1).bind λc=>
 (YR F a0 a1).bind λd=>
 (nG F a2 a1).bind λe=>
 (Qq F a2 a1).bind λf=>
 (Wg F c.1 d.1).bind λg=>
 (Wh F e.1 f.1).bind λh=>
 if(!g)=ae then
  ab af
 else
 if(!(c.2==d.2))=ae then
  ab af
 else
 if(!h)=ae then
  ab af
 else
 if(!(e.2==f.2))=ae then
  ab af
 else
 if e.2=ae then
  (V1 F e.1 a1).bind λi=>
  (Wg F i.1 a2).bind λj=>
  if(!i.2)=ae then
   ab af
  else
  if(!j)=ae then
   ab af
  else
  if(!c.2)=ae then
   if a=ae then
    ab ((c.1.2.length:Int)==0)
   else
   ab af
  else
  (nG F c.1 a1).bind λk=>
  if a=ae then
   if k.2=ae then
    (nH F k.1 a0).bind λl=>
    if l=ae then
     (V0 F a1).bind λm=>
     if(ag (c.1.1=m))=ae then
      ab (ag ((c.1.2.length:Int)<=8192))
     else
     ab af
    else
    ab af
   else
   ab af
  else
  ab af
 else
 if(!c.2)=ae then
  if a=ae then
   ab ((c.1.2.length:Int)==0)
  else
  ab af
 else
 (nG F c.1 a1).bind λn=>
 if a=ae then
  if n.2=ae then
   (nH F n.1 a0).bind λo=>
   if o=ae then
    (V0 F a1).bind λp=>
    if(ag (c.1.1=p))=ae then
     ab (ag ((c.1.2.length:Int)<=8192))
    else
    ab af
   else
   ab af
  else
  ab af
 else
 ab af
def ZgF(F:Nat):Fs Tryz.prog:=⟨4,[.v aQ,.v aGQ,.v ZY],[],[aQ,aGQ,ZY],(zP .bool),λx=>Wm F x.1 x.2.1 x.2.2⟩
def ZgX:Fs Tryz.prog:=ZgF yD
def ZOo:HI:={ still:=[6,24,35,36,41,42,47,48,53,54,58,59,61,62,82,83,87,88,106,107,116,117,123]}
theorem ZgG:ZgX.Ok:=aX ZOo [] [ZLz,ZdZ,ZoX,KP,Zo5,Ze5,KQ,Ze7,Zwx,vQ] ⟨ZNj,Zka,Zna,Zee,Znb,ZlS,Zeg,ZlW,Zt7,vR,aw⟩
end
end Go.Proofs.YtghfiijgklnflaaGreat
end
