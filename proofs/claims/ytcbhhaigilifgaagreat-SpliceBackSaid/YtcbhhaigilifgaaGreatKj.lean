/- Parts of the proof, in one file. -/
import Derived.Test.YtcbhhaigilifgaaGreatKi
open Option renaming some → ab, none → ad
open Bool renaming true → ae, false → af
open Decidable renaming decide → ag
set_option linter.unusedVariables false
section
set_option maxRecDepth 4000
namespace Go.Proofs.YtcbhhaigilifgaaGreat
open Go Go.Ev
noncomputable section
instance aom:DecidableEq bo:=inferInstance
instance aon:DecidableEq bw:=inferInstance
instance aoo:DecidableEq ((yL bw)×Int):=inferInstance
instance aop:DecidableEq ((yL bo)×(yL bw)×Int):=inferInstance
instance aoq:DecidableEq Chan:=inferInstance
def XA(F:Nat)(a0:aE)(a1:Int)(a2:Int)(M:Int)(Q:Int):yO (Bool):=
 ((ab ae)).bind λa=>
 (Vq F a0).bind λb=>
 if(!b.2.2.2)=ae then
  ab a
 else
 if(a1 !=0)=ae then
  if(a1 !=1)=ae then
   ab a
  else
  if(a1==0)=ae then
   (Ya F b.1 b.2.2.1 [([((dg,7),a2)],[],M),([],[],0)]).bind λc=>
   if(c.2.2.2 !=0)=ae then
    ab a
   else
   (QT F 4).bind λd=>
   (Ya F c.1 c.2.1 [([],[(a2,d)],Q),([],[],0)]).bind λe=>
   if(e.2.2.2 !=0)=ae then
    if a=ae then
     ab (e.2.2.2 !=14)
    else
    ab af
   else
   (b.2.2.1.2.1[0]?).bind λf=>
   (b.2.2.1.2.1[0]?).bind λg=>
   let h:aLC:=b.2.2.1.2.1.set 0 (wi ((wi (f - M)) - Q))
   if a=ae then
    if(ag (e.2.1.2.1=h))=ae then
     let i:Bool:=e.1.2.1==(wi ((wi (b.1.2.1 - M)) - Q))
     if i=ae then
      if((e.2.2.1.2.1.length:Int)==2)=ae then
       (idx e.2.2.1.2.1 1).bind λj=>
       ab (j.1==a2)
      else
      ab af
     else
     ab af
    else
    ab af
   else
   ab af
  else
  if(a1==1)=ae then
   (Ya F b.1 b.2.2.1 [([],[],0),([((dg,7),a2)],[],M)]).bind λk=>
   if(k.2.2.2 !=0)=ae then
    ab a
   else
   (QT F 4).bind λl=>
   (Ya F k.1 k.2.1 [([],[],0),([],[(a2,l)],Q)]).bind λm=>
   if(m.2.2.2 !=0)=ae then
    if a=ae then
     ab (m.2.2.2 !=14)
    else
    ab af
   else
   (b.2.2.1.2.1[1]?).bind λn=>
   (b.2.2.1.2.1[1]?).bind λo=>
   let p:aLC:=b.2.2.1.2.1.set 1 (wi ((wi (n - M)) - Q))
   if a=ae then
    if(ag (m.2.1.2.1=p))=ae then
     let q:Bool:=m.1.2.1==(wi ((wi (b.1.2.1 - M)) - Q))
     if q=ae then
      if((m.2.2.1.2.1.length:Int)==2)=ae then
       (idx m.2.2.1.2.1 1).bind λr=>
       ab (r.1==a2)
      else
      ab af
     else
     ab af
    else
    ab af
   else
   ab af
  else
  ad
 else
 if(a1==0)=ae then
  (Ya F b.1 b.2.2.1 [([((dg,7),a2)],[],M),([],[],0)]).bind λs=>
  if(s.2.2.2 !=0)=ae then
   ab a
  else
  (QT F 4).bind λt=>
  (Ya F s.1 s.2.1 [([],[(a2,t)],Q),([],[],0)]).bind λu=>
  if(u.2.2.2 !=0)=ae then
   if a=ae then
    ab (u.2.2.2 !=14)
   else
   ab af
  else
  (b.2.2.1.2.1[0]?).bind λv=>
  (b.2.2.1.2.1[0]?).bind λw=>
  let x:aLC:=b.2.2.1.2.1.set 0 (wi ((wi (v - M)) - Q))
  if a=ae then
   if(ag (u.2.1.2.1=x))=ae then
    let y:Bool:=u.1.2.1==(wi ((wi (b.1.2.1 - M)) - Q))
    if y=ae then
     if((u.2.2.1.2.1.length:Int)==2)=ae then
      (idx u.2.2.1.2.1 1).bind λz=>
      ab (z.1==a2)
     else
     ab af
    else
    ab af
   else
   ab af
  else
  ab af
 else
 if(a1==1)=ae then
  (Ya F b.1 b.2.2.1 [([],[],0),([((dg,7),a2)],[],M)]).bind λA=>
  if(A.2.2.2 !=0)=ae then
   ab a
  else
  (QT F 4).bind λB=>
  (Ya F A.1 A.2.1 [([],[],0),([],[(a2,B)],Q)]).bind λC=>
  if(C.2.2.2 !=0)=ae then
   if a=ae then
    ab (C.2.2.2 !=14)
   else
   ab af
  else
  (b.2.2.1.2.1[1]?).bind λD=>
  (b.2.2.1.2.1[1]?).bind λE=>
  let G:aLC:=b.2.2.1.2.1.set 1 (wi ((wi (D - M)) - Q))
  if a=ae then
   if(ag (C.2.1.2.1=G))=ae then
    let H:Bool:=C.1.2.1==(wi ((wi (b.1.2.1 - M)) - Q))
    if H=ae then
     if((C.2.2.1.2.1.length:Int)==2)=ae then
      (idx C.2.2.1.2.1 1).bind λI=>
      ab (I.1==a2)
     else
     ab af
    else
    ab af
   else
   ab af
  else
  ab af
 else
 ad
def ZeZ:Fs Tryz.prog:=⟨4,[.v Zw,.v yI,.v yI,.v yI,.v yI],[],[Zw,yI,yI,yI,yI],(zN .bool),λx=>XA yD x.1 x.2.1 x.2.2.1 x.2.2.2.1 x.2.2.2.2⟩
def ZM4:HI:={ still:=[10,28,54,55,56,74,75,76]}
theorem ZeU:ZeZ.Ok:=sB (fi:={ hi:=ZM4,gh:=[(6,.split 1 [0,1]),(7,.any 16 0 aLB)]}) (aJ:={ l:=[ZJv,Zdf,Zkx,LY]}) (mG ⟨ZLk,ZcP,LM,LZ,aB⟩)
end
end Go.Proofs.YtcbhhaigilifgaaGreat
end
