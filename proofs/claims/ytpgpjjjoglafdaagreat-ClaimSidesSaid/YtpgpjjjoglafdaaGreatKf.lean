/- Parts of the proof, in one file. -/
import Derived.Test.YtpgpjjjoglafdaaGreatKe
open Bool renaming and_eq_true → yj
open Go.Proofs.Tryz renaming prog → yb
open List renaming length_append → yo, replicate → yx, length_map → yy, getElem?_eq_getElem → yab, append_assoc → yac, map_cons → yad, length_cons → yaf, length_take → yag, map_append → yai, getElem?_map → yak, getElem?_eq_none → yar, getElem?_cons_succ → yat, mem_cons → yaz, take_append_drop → ybh, length_set → ybo, length_drop → ybw, not_mem_nil → ycm, length_replicate → ycq, getElem?_set_self → ycu, getD_eq_getElem?_getD → ycv
open Nat renaming add → yv, shiftRight → yae, mod_eq_of_lt → yav, zero_add → ybe, mul_comm → ybt
open Option renaming bind_some → ya
open UInt32 renaming toNat → ybg, ofNat → yca, toNat_ofNat' → ycr
open UInt64 renaming ofNat → yah, toNat_ofNat' → ybf, toNat_lt → ybs, le_iff_toNat_le → yco, lt_iff_toNat_lt → ycp
open UInt8 renaming ofNat → yax, toNat → ybd
set_option linter.unusedVariables false
set_option linter.unusedSimpArgs false
section
set_option maxRecDepth 4000
namespace Go.Proofs.YtpgpjjjoglafdaaGreat
open Go Go.Ev
noncomputable section
def Xi(F:Nat)(a0:yU):yO (Bool):=
 if(decide (a0 > 0))=true then
  if(decide (a0 < 4611686018427377339))=true then
   (Qz F a0 2305843009213688669).bind λo41=>
   some (o41==1)
  else
  some false
 else
 some false
def ZpR(F:Nat):Fs yb:=⟨33,[.v .u64],[],[.u64],(zN .bool),λx=>Xi F x⟩
def XU:Fs yb:=ZpR yD
theorem X7:XU.Ok:=fnO { still:=[2,10]} [] [ZdE] ⟨Zgx,ytt⟩
def V2(F:Nat)(a0:Int):yO (Bool):=
 if(decide (a0 >= 0))=true then
  some (decide (a0<=1125899906842624))
 else
 some false
def Zuw(F:Nat):Fs yb:=⟨107,[.v yI],[],[yI],(zN .bool),λx=>V2 F x⟩
def Zm7:Fs yb:=Zuw yD
theorem Zux:Zm7.Ok:=fnO { still:=[2]} [] [] trivial
def QA(F:Nat)(a0:Int)(a1:Int):yO ((Int×Bool)):=
 (V2 F a0).bind λo42=>
 if(!o42)=true then
  some (0,false)
 else
 (V2 F a1).bind λo43=>
 if(!o43)=true then
  some (0,false)
 else
 if(decide (a0 > (wi (1125899906842624 - a1))))=true then
  some (0,false)
 else
 some (wi (a0+a1),true)
def Zjo(F:Nat):Fs yb:=⟨66,[.v yI,.v yI],[],[yI,yI],[⟨.ret,[(0,.tup [.v yI,.v .bool])],[],[yI,.bool]⟩],λx=>QA F x.1 x.2⟩
def ZlZ:Fs yb:=Zjo yD
theorem Zjp:ZlZ.Ok:=fnO { still:=[4,5,6,10]} [] [Zm7] ⟨Zux,ytt⟩
def Y6(F:Nat)(a0:Int)(a1:Int)(a2:Int):yO (Bool):=
 if(decide (a1<=a0))=true then
  some (decide (a0<=a2))
 else
 some false
def Zl0(F:Nat):Fs yb:=⟨164,[.v yI,.v yI,.v yI],[],[yI,yI,yI],(zN .bool),λx=>Y6 F x.1 x.2.1 x.2.2⟩
def Zfz:Fs yb:=Zl0 yD
theorem Zl1:Zfz.Ok:=fnO { still:=[6]} [] [] trivial
abbrev ZdF:Ty:=(.st [yI,yI,yI,yI,yI,yI])
abbrev Terms:Type:=(Int×Int×Int×Int×Int×Int)
def Zbz(F:Nat)(a0:Terms):yO (Bool):=
 (Y6 F a0.1 0 65536).bind λo44=>
 if o44=true then
  (Y6 F a0.2.2.1 1 4096).bind λo45=>
  if o45=true then
   (Y6 F a0.2.2.2.1 0 16).bind λo46=>
   if o46=true then
    (Y6 F a0.2.1 a0.1 1125899906842624).bind λo47=>
    if o47=true then
     (Y6 F a0.2.2.2.2.1 1 1125899906842624).bind λo48=>
     if o48=true then
      (Y6 F a0.2.2.2.2.2 0 1125899906842624).bind λo49=>
      some o49
     else
     some false
    else
    some false
   else
   some false
  else
  some false
 else
 some false
def ZpS(F:Nat):Fs yb:=⟨121,[.v ZdF],[],[ZdF],(zN .bool),λx=>Zbz F x⟩
def Zik:Fs yb:=ZpS yD
def hi0:HI:={ still:=[2,7,12,18,25,27,33,39]}
theorem ZpT:Zik.Ok:=fnO hi0 [] [Zfz] ⟨Zl1,ytt⟩
def VP(F:Nat)(a0:yU):yO (Bool):=
 if(a0==1)=true then
  some true
 else
 (Xi F a0).bind λo50=>
 some (!o50)
def ZkA(F:Nat):Fs yb:=⟨165,[.v .u64],[],[.u64],(zN .bool),λx=>VP F x⟩
def Zec:Fs yb:=ZkA yD
theorem ZkB:Zec.Ok:=fnO { still:=[2,6]} [] [XU] ⟨X7,ytt⟩
abbrev ZhO:Ty:=(.st [.u64,.u64,.u64,.u64,.u64])
abbrev Basics:Type:=(yU×yU×yU×yU×yU)
abbrev Basics.Cond(x:Basics):yU:=x.2.2.2.1
def XL(F:Nat)(s:((yL yU)×Int×Int)):yO (((yL yU)×Int×Int)⊕(Int⊕Unit)):=
 if(decide (s.2.2 < s.2.1))=true then
  (idx s.1 s.2.2).bind λe51=>
  (VP F e51).bind λo52=>
  if o52=true then
   some (.inr (.inl s.2.2))
  else
  some (.inl (s.1,s.2.1,wi (s.2.2+1)))
 else
 some (.inr (.inr ()))
def Zed:Lp:=⟨[(0,.v (.sl .u64)),(1,.fn 165 []),(7,.v yI),(8,.v yI)],[],[(.sl .u64),yI,yI],[⟨.ret,[(4,.v yI)],[],[yI]⟩,⟨.exit 0,[],[],[]⟩],Zc (XL yD) yD⟩
theorem ZhV:Zed.okA yb 147 0:=ZN { still:=[4,15]} [] [Zec] ⟨ZkB,ytt⟩
def Zcm(F:Nat)(a0:(yL yU)):yO (Int):=
 (Zc (XL F) F (a0,(a0.length:Int),0)).bind λo53=>
 match o53 with
 |.inl o54=>
  some o54
 |.inr o55=>
  some (-1)
def Zl2(F:Nat):Fs yb:=⟨147,[.v (.sl .u64),.fn 165 []],[],[(.sl .u64)],(zN yI),λx=>Zcm F x⟩
def ZfA:Fs yb:=Zl2 yD
theorem Zl3:ZfA.Ok:=fnO { still:=[4,15]} [(0,Zed)] [] trivial ⟨ZhV,ytt⟩
def Zcn(F:Nat)(a0:(yL yU)):yO (Bool):=
 (Zcm F a0).bind λo56=>
 some (decide (o56 >= 0))
def Zl4(F:Nat):Fs yb:=⟨105,[.v (.sl .u64),.fn 165 []],[],[(.sl .u64)],(zN .bool),λx=>Zcn F x⟩
def ZfB:Fs yb:=Zl4 yD
theorem Zl5:ZfB.Ok:=fnO { still:=[4,5,6]} [] [ZfA] ⟨Zl3,ytt⟩
def Zaw(F:Nat)(a0:Basics):yO (Bool):=
 (Zcn F [a0.1,a0.2.1,a0.2.2.1,a0.2.2.2.1,a0.2.2.2.2]).bind λo57=>
 some (!o57)
def ZnD(F:Nat):Fs yb:=⟨122,[.v ZhO],[],[ZhO],(zN .bool),λx=>Zaw F x⟩
def Zgy:Fs yb:=ZnD yD
theorem ZnE:Zgy.Ok:=fnO { still:=[2,14,15]} [] [ZfB] ⟨Zl5,ytt⟩
abbrev ZK:Ty:=(.st [(.arr 32 .u8),yI])
abbrev ZW:Type:=((yL yB)×Int)
abbrev ZJ:Ty:=(.st [ZK,yI,(.arr 2 ZhO),(.arr 2 ZdF),yI])
abbrev Chan:Type:=(ZW×Int×(yL Basics)×(yL Terms)×Int)
abbrev Chan.Basics(x:Chan):(yL Basics):=x.2.2.1
abbrev Chan.Terms(x:Chan):(yL Terms):=x.2.2.2.1
def WG(F:Nat)(s:((yL Terms)×Int×Chan)):yO (((yL Terms)×Int×Chan)⊕((Int×Chan)⊕Chan)):=
 if(decide (s.2.1 < 2))=true then
  (idx s.1 s.2.1).bind λe58=>
  (Zbz F e58).bind λo59=>
  if(!o59)=true then
   some (.inr (.inl (1,s.2.2)))
  else
  if(inB s.2.1 2)=true then
   (s.2.2.2.2.1[s.2.1.toNat]?).bind λe60=>
   (Zaw F e60).bind λo61=>
   if(!o61)=true then
    some (.inr (.inl (1,s.2.2)))
   else
   some (.inl (s.1,wi (s.2.1+1),s.2.2))
  else
  none
 else
 some (.inr (.inr s.2.2))
def ZkC:Lp:=⟨[(1,.ref 0 []),(34,.v (.arr 2 ZdF)),(35,.v yI)],[.var (.v ZJ) true],[(.arr 2 ZdF),yI,ZJ],[⟨.ret,[(2,.v yI)],[.var (.v ZJ) true],[yI,ZJ]⟩,⟨.exit 0,[(1,.ref 0 [])],[.var (.v ZJ) true],[ZJ]⟩],Zc (WG yD) yD⟩
theorem ZnF:ZkC.okA yb 78 0:=ZN { still:=[2,39,46,55,59]} [] [Zik,Zgy] ⟨ZpT,ZnE,ytt⟩
def Ze2(F:Nat)(a0:Chan):yO (Int):=
 if(decide (a0.2.1 < 1))=true then
  some 1
 else
 if(decide (a0.2.1 > 1125899906842624))=true then
  some 1
 else
 if(decide (a0.1.2 < 0))=true then
  some 1
 else
 if(decide (a0.1.2 >= 64))=true then
  some 1
 else
 if((bits .andNot .i64 a0.2.2.2.2 1)!=0)=true then
  some 1
 else
 (Zc (WG F) F (a0.2.2.2.1,0,a0)).bind λo62=>
 match o62 with
 |.inl o63=>
  some o63.1
 |.inr o64=>
  (o64.2.2.2.1[0]?).bind λe65=>
  (o64.2.2.2.1[1]?).bind λe66=>
  (QA F e65.2.1 e66.2.1).bind λo67=>
  if(!o67.2)=true then
   some 10
  else
  if(decide (o67.1 > o64.2.1))=true then
   some 10
  else
  some 0
def Zuy(F:Nat):Fs yb:=⟨78,[.v ZJ],[],[ZJ],(zN yI),λx=>Ze2 F x⟩
def Zm8:Fs yb:=Zuy yD
theorem Zuz:Zm8.Ok:=fnO { still:=[2,39,46,55,59]} [(0,ZkC)] [ZlZ] ⟨Zjp,ytt⟩ ⟨ZnF,ytt⟩
def VQ(F:Nat)(a0:Int)(s0:Int)(s1:Int):yO ((Bool×Int×Int)):=
 if(decide (a0 < s0))=true then
  some (true,s0,s1)
 else
 some (decide (a0 > s1),s0,s1)
def ZkD(F:Nat):Fs yb:=⟨124,[.v yI,.ref 0 [],.ref 1 []],[.var (.v yI) true,.var (.v yI) true],[yI,yI,yI],[⟨.ret,[(0,.v .bool)],[.var (.v yI) true,.var (.v yI) true],[.bool,yI,yI]⟩],λx=>VQ F x.1 x.2.1 x.2.2⟩
def Zee:Fs yb:=ZkD yD
theorem ZkE:Zee.Ok:=fnO { still:=[4]} [] [] trivial
def ZE(F:Nat)(s:((yL Int)×Int×Int×Int×Int)):yO (((yL Int)×Int×Int×Int×Int)⊕((Int×Int×Int)⊕(Int×Int))):=
 if(decide (s.2.2.1 < s.2.1))=true then
  (idx s.1 s.2.2.1).bind λe68=>
  (VQ F e68 s.2.2.2.1 s.2.2.2.2).bind λo69=>
  if o69.1=true then
   some (.inr (.inl (s.2.2.1,o69.2.1,o69.2.2)))
  else
  some (.inl (s.1,s.2.1,wi (s.2.2.1+1),o69.2.1,o69.2.2))
 else
 some (.inr (.inr (s.2.2.2.1,s.2.2.2.2)))
def WS:Lp:=⟨[(0,.v (.sl yI)),(1,.fn 124 [.ref 0 [],.ref 1 []]),(7,.v yI),(8,.v yI)],[.var (.v yI) true,.var (.v yI) true],[(.sl yI),yI,yI,yI,yI],[⟨.ret,[(4,.v yI)],[.var (.v yI) true,.var (.v yI) true],[yI,yI,yI]⟩,⟨.exit 0,[],[.var (.v yI) true,.var (.v yI) true],[yI,yI]⟩],Zc (ZE yD) yD⟩
theorem Zah:WS.okA yb 166 0:=ZN { still:=[4,15]} [] [Zee] ⟨ZkE,ytt⟩
def YT(F:Nat)(a0:(yL Int))(s0:Int)(s1:Int):yO ((Int×Int×Int)):=
 (Zc (ZE F) F (a0,(a0.length:Int),0,s0,s1)).bind λo70=>
 match o70 with
 |.inl o71=>
  some (o71.1,o71.2.1,o71.2.2)
 |.inr o72=>
  some ((-1),o72.1,o72.2)
def ZbA(F:Nat):Fs yb:=⟨166,[.v (.sl yI),.fn 124 [.ref 0 [],.ref 1 []]],[.var (.v yI) true,.var (.v yI) true],[(.sl yI),yI,yI],[⟨.ret,[(0,.v yI)],[.var (.v yI) true,.var (.v yI) true],[yI,yI,yI]⟩],λx=>YT F x.1 x.2.1 x.2.2⟩
def W4:Fs yb:=ZbA yD
theorem ZbB:W4.Ok:=fnO { still:=[4,15]} [(0,WS)] [] trivial ⟨Zah,ytt⟩
def Yq(F:Nat)(a0:(yL Int))(s0:Int)(s1:Int):yO ((Bool×Int×Int)):=
 (YT F a0 s0 s1).bind λo73=>
 some (decide (o73.1 >= 0),o73.2.1,o73.2.2)
def Zai(F:Nat):Fs yb:=⟨123,[.v (.sl yI),.fn 124 [.ref 0 [],.ref 1 []]],[.var (.v yI) true,.var (.v yI) true],[(.sl yI),yI,yI],[⟨.ret,[(0,.v .bool)],[.var (.v yI) true,.var (.v yI) true],[.bool,yI,yI]⟩],λx=>Yq F x.1 x.2.1 x.2.2⟩
def Wh:Fs yb:=Zai yD
theorem Zaj:Wh.Ok:=fnO { still:=[4,5,6]} [] [W4] ⟨ZbB,ytt⟩
def ZT(F:Nat)(a0:Int)(a1:Int)(a2:(yL Int)):yO (Bool):=
 (Yq F a2 a0 a1).bind λo74=>
 some (!o74.1)
def ZnG(F:Nat):Fs yb:=⟨79,[.v yI,.v yI,.v (.sl yI)],[],[yI,yI,(.sl yI)],(zN .bool),λx=>ZT F x.1 x.2.1 x.2.2⟩
def Zco:Fs yb:=ZnG yD
theorem ZfC:Zco.Ok:=fnO { still:=[6,7,8]} [] [Wh] ⟨Zaj,ytt⟩
abbrev Wi:Ty:=(.st [yI,yI,yI,.u64,yI])
abbrev Cond:Type:=(Int×Int×Int×yU×Int)
def Zdg(F:Nat)(a0:Cond):yO (Bool):=
 (ZT F 0 1 [a0.1]).bind λo75=>
 if o75=true then
  (ZT F 1 1048576 [a0.2.1]).bind λo76=>
  if o76=true then
   (ZT F 1 1125899906842624 [a0.2.2.1]).bind λo77=>
   if o77=true then
    (ZT F 1 1048576 [a0.2.2.2.2]).bind λo78=>
    if o78=true then
     (Xi F a0.2.2.2.1).bind λo79=>
     if o79=true then
      some (a0.2.2.2.1 !=1)
     else
     some false
    else
    some false
   else
   some false
  else
  some false
 else
 some false
def Zrr(F:Nat):Fs yb:=⟨80,[.v Wi],[],[Wi],(zN .bool),λx=>Zdg F x⟩
def ZkF:Fs yb:=Zrr yD
theorem Zrs:ZkF.Ok:=fnO { still:=[2,5,10,16,22,27]} [] [Zco,XU] ⟨ZfC,X7,ytt⟩
def X8(F:Nat)(s:(Int×(yL Int)×Int×Int)):yO ((Int×(yL Int)×Int×Int)⊕(Int⊕Int)):=
 if(decide (s.2.2.2 < s.2.2.1))=true then
  (idx s.2.1 s.2.2.2).bind λe80=>
  if(e80 !=s.1)=true then
   some (.inr (.inl e80))
  else
  some (.inl (s.1,s.2.1,s.2.2.1,wi (s.2.2.2+1)))
 else
 some (.inr (.inr s.1))
def Zil:Lp:=⟨[(3,.v yI),(6,.v (.sl yI)),(7,.v yI),(8,.v yI)],[],[yI,(.sl yI),yI,yI],[⟨.ret,[(2,.v yI)],[],[yI]⟩,⟨.exit 0,[(3,.v yI)],[],[yI]⟩],Zc (X8 yD) yD⟩
theorem Zl6:Zil.okA yb 46 0:=ZN { still:=[2]} [] [] trivial
def ZaQ(F:Nat)(a0:(yL Int)):yO (Int):=
 (Zc (X8 F) F (0,a0,(a0.length:Int),0)).bind λo81=>
 match o81 with
 |.inl o82=>
  some o82
 |.inr o83=>
  some o83
def Zrt(F:Nat):Fs yb:=⟨46,[.v (.sl yI)],[],[(.sl yI)],(zN yI),λx=>ZaQ F x⟩
def Ze3:Fs yb:=Zrt yD
theorem Zim:Ze3.Ok:=fnO { still:=[2]} [(0,Zil)] [] trivial ⟨Zl6,ytt⟩
def QB(F:Nat)(a0:Int):yO (Bool):=
 some (a0 !=a0)
def Zl7(F:Nat):Fs yb:=⟨90,[.v yI],[],[yI],(zN .bool),λx=>QB F x⟩
def ZfD:Fs yb:=Zl7 yD
theorem Zl8:ZfD.Ok:=fnO { still:=[2]} [] [] trivial
def Ye(F:Nat)(a0:Int)(a1:Int):yO (Int):=
 (QB F a0).bind λo84=>
 (QB F a1).bind λo85=>
 if o84=true then
  if o85=true then
   some 0
  else
  some (-1)
 else
 if o85=true then
  some 1
 else
 if(decide (a0 < a1))=true then
  some (-1)
 else
 if(decide (a0 > a1))=true then
  some 1
 else
 some 0
def Zjq(F:Nat):Fs yb:=⟨47,[.v yI,.v yI],[],[yI,yI],(zN yI),λx=>Ye F x.1 x.2⟩
def QC:Fs yb:=Zjq yD
theorem Zcp:QC.Ok:=fnO { still:=[4,7,9]} [] [ZfD] ⟨Zl8,ytt⟩
def ZbC(F:Nat)(a0:Cond)(a1:Cond):yO (Int):=
 (Ye F a0.1 a1.1).bind λo86=>
 (Ye F a0.2.1 a1.2.1).bind λo87=>
 (ZaQ F [o86,o87]).bind λo88=>
 some o88
def ZpU(F:Nat):Fs yb:=⟨81,[.v Wi,.v Wi],[],[Wi,Wi],(zN yI),λx=>ZbC F x.1 x.2⟩
def Zin:Fs yb:=ZpU yD
theorem ZpV:Zin.Ok:=fnO { still:=[4,6,8,11,13,15]} [] [QC,Ze3] ⟨Zcp,Zim,ytt⟩
abbrev Zq:Ty:=(.st [yI,(.arr 2 yI),(.sl Wi),yI])
abbrev yG:Type:=(Int×(yL Int)×(yL Cond)×Int)
def WT(F:Nat)(s:(Int×Int×Int×(yL Cond)×Int×Int×yG)):yO ((Int×Int×Int×(yL Cond)×Int×Int×yG)⊕(Int×Int×yG)):=
 if(decide (s.2.2.2.2.2.1 < s.2.2.2.2.1))=true then
  (idx s.2.2.2.1 s.2.2.2.2.2.1).bind λe89=>
  if(e89.1==(wi (1 - s.1)))=true then
   some (.inl (s.1,wi (s.2.1+1),wi (s.2.2.1+e89.2.2.1),s.2.2.2.1,s.2.2.2.2.1,wi (s.2.2.2.2.2.1+1),s.2.2.2.2.2.2))
  else
  some (.inl (s.1,s.2.1,s.2.2.1,s.2.2.2.1,s.2.2.2.2.1,wi (s.2.2.2.2.2.1+1),s.2.2.2.2.2.2))
 else
 some (.inr (s.2.1,s.2.2.1,s.2.2.2.2.2.2))
def Zef:Lp:=⟨[(1,.v yI),(6,.v yI),(7,.v yI),(11,.v (.sl Wi)),(12,.v yI),(13,.v yI)],[.var (.v Zq) true],[yI,yI,yI,(.sl Wi),yI,yI,Zq],[⟨.exit 0,[(6,.v yI),(7,.v yI)],[.var (.v Zq) true],[yI,yI,Zq]⟩],Zc (WT yD) yD⟩
theorem ZhW:Zef.okA yb 82 0:=ZN { still:=[4,5]} [] [] trivial
def QD(F:Nat)(a0:yG)(a1:Int):yO ((Int×Int)):=
 (Zc (WT F) F (a1,0,0,a0.2.2.1,(a0.2.2.1.length:Int),0,a0)).bind λo90=>
 some (o90.1,o90.2.1)
def Zl9(F:Nat):Fs yb:=⟨82,[.v Zq,.v yI],[],[Zq,yI],[⟨.ret,[(0,.tup [.v yI,.v yI])],[],[yI,yI]⟩],λx=>QD F x.1 x.2⟩
def ZfE:Fs yb:=Zl9 yD
theorem Zma:ZfE.Ok:=fnO { still:=[4,5]} [(0,Zef)] [] trivial ⟨ZhW,ytt⟩
def VR(F:Nat)(s:(Int×(yL Cond)×Int×Int×yG)):yO ((Int×(yL Cond)×Int×Int×yG)⊕(Int×yG)):=
 if(decide (s.2.2.2.1 < s.2.2.1))=true then
  (idx s.2.1 s.2.2.2.1).bind λe93=>
  some (.inl (wi (s.1+e93.2.2.1),s.2.1,s.2.2.1,wi (s.2.2.2.1+1),s.2.2.2.2))
 else
 some (.inr (s.1,s.2.2.2.2))
def Zgz:Lp:=⟨[(3,.v yI),(14,.v (.sl Wi)),(15,.v yI),(16,.v yI)],[.var (.v Zq) true],[yI,(.sl Wi),yI,yI,Zq],[⟨.exit 0,[(3,.v yI)],[.var (.v Zq) true],[yI,Zq]⟩],Zc (VR yD) yD⟩
theorem ZkG:Zgz.okA yb 83 0:=ZN { still:=[2]} [] [] trivial
def ZbD(F:Nat)(a0:yG):yO (Int):=
 (a0.2.1[0]?).bind λe91=>
 (a0.2.1[1]?).bind λe92=>
 (Zc (VR F) F (wi (e91+e92),a0.2.2.1,(a0.2.2.1.length:Int),0,a0)).bind λo94=>
 some o94.1
def ZpW(F:Nat):Fs yb:=⟨83,[.v Zq],[],[Zq],(zN yI),λx=>ZbD F x⟩
def Zio:Fs yb:=ZpW yD
theorem ZpX:Zio.Ok:=fnO { still:=[2]} [(0,Zgz)] [] trivial ⟨ZkG,ytt⟩
def ZdG(F:Nat)(a0:Int):yO (Int):=
 if(decide (a0 < 0))=true then
  some 0
 else
 if(decide (a0 > 16))=true then
  some 0
 else
 some (wi (68+(wi (8*a0))))
def ZnH(F:Nat):Fs yb:=⟨128,[.v yI],[],[yI],(zN yI),λx=>ZdG F x⟩
def ZgA:Fs yb:=ZnH yD
theorem ZnI:ZgA.Ok:=fnO { still:=[2]} [] [] trivial
def Zcq(F:Nat)(a0:Int)(a1:Int):yO (Int):=
 if(decide (a0 < 0))=true then
  some 0
 else
 if(decide (a0 > 1000))=true then
  some 0
 else
 (ZdG F a1).bind λo95=>
 some (wi (a0*o95))
def ZuA(F:Nat):Fs yb:=⟨88,[.v yI,.v yI],[],[yI,yI],(zN yI),λx=>Zcq F x.1 x.2⟩
def ZgB:Fs yb:=ZuA yD
theorem ZkH:ZgB.Ok:=fnO { still:=[4,12]} [] [ZgA] ⟨ZnI,ytt⟩
def Zdh(F:Nat)(a0:Chan)(a1:yG):yO (Int):=
 (Zcq F a1.2.2.2 (a1.2.2.1.length:Int)).bind λo96=>
 some (wi (o96+660))
def Zru(F:Nat):Fs yb:=⟨84,[.v ZJ,.v Zq],[],[ZJ,Zq],(zN yI),λx=>Zdh F x.1 x.2⟩
def ZkI:Fs yb:=Zru yD
theorem Zrv:ZkI.Ok:=fnO { still:=[4,6,9]} [] [ZgB] ⟨ZkH,ytt⟩
def Xc(F:Nat)(s:((yL Cond)×Int×Int×Chan×yG)):yO (((yL Cond)×Int×Int×Chan×yG)⊕((Bool×Chan×yG)⊕(Chan×yG))):=
 if(decide (s.2.2.1 < s.2.1))=true then
  (idx s.1 s.2.2.1).bind λe103=>
  (Zdg F e103).bind λo104=>
  if(!o104)=true then
   some (.inr (.inl (false,s.2.2.2.1,s.2.2.2.2)))
  else
  if(inB (wi (1 - e103.1)) 2)=true then
   (s.2.2.2.1.2.2.2.1[(wi (1 - e103.1)).toNat]?).bind λe105=>
   if(decide (e103.2.2.1 < e105.2.2.2.2.1))=true then
    some (.inr (.inl (false,s.2.2.2.1,s.2.2.2.2)))
   else
   if(decide (s.2.2.1 > 0))=true then
    (idx s.2.2.2.2.2.2.1 (wi (s.2.2.1 - 1))).bind λe106=>
    (ZbC F e106 e103).bind λo107=>
    if(decide (o107 >= 0))=true then
     some (.inr (.inl (false,s.2.2.2.1,s.2.2.2.2)))
    else
    some (.inl (s.1,s.2.1,wi (s.2.2.1+1),s.2.2.2.1,s.2.2.2.2))
   else
   some (.inl (s.1,s.2.1,wi (s.2.2.1+1),s.2.2.2.1,s.2.2.2.2))
  else
  none
 else
 some (.inr (.inr (s.2.2.2.1,s.2.2.2.2)))
def ZgC:Lp:=⟨[(2,.ref 0 []),(3,.ref 1 []),(46,.v (.sl Wi)),(47,.v yI),(48,.v yI)],[.var (.v ZJ) true,.var (.v Zq) true],[(.sl Wi),yI,yI,ZJ,Zq],[⟨.ret,[(4,.v .bool)],[.var (.v ZJ) true,.var (.v Zq) true],[.bool,ZJ,Zq]⟩,⟨.exit 0,[(2,.ref 0 []),(3,.ref 1 [])],[.var (.v ZJ) true,.var (.v Zq) true],[ZJ,Zq]⟩],Zc (Xc yD) yD⟩
def hi1:HI:={ still:=[4,11,17,28,35,53,77,78,91,92,107,118,119]}
theorem ZkJ:ZgC.okA yb 34 0:=ZN hi1 [] [ZkF,Zin] ⟨Zrs,ZpV,ytt⟩
def XE(F:Nat)(s:((yL Terms)×Int×Chan×yG)):yO (((yL Terms)×Int×Chan×yG)⊕((Bool×Chan×yG)⊕(Chan×yG))):=
 if(decide (s.2.1 < 2))=true then
  (idx s.1 s.2.1).bind λe111=>
  (QD F s.2.2.2 s.2.1).bind λo112=>
  if(decide (o112.1 > e111.2.2.2.1))=true then
   some (.inr (.inl (false,s.2.2.1,s.2.2.2)))
  else
  if(decide (o112.2 > e111.2.2.2.2.2))=true then
   some (.inr (.inl (false,s.2.2.1,s.2.2.2)))
  else
  some (.inl (s.1,wi (s.2.1+1),s.2.2.1,s.2.2.2))
 else
 some (.inr (.inr (s.2.2.1,s.2.2.2)))
def ZgD:Lp:=⟨[(2,.ref 0 []),(3,.ref 1 []),(85,.v (.arr 2 ZdF)),(86,.v yI)],[.var (.v ZJ) true,.var (.v Zq) true],[(.arr 2 ZdF),yI,ZJ,Zq],[⟨.ret,[(4,.v .bool)],[.var (.v ZJ) true,.var (.v Zq) true],[.bool,ZJ,Zq]⟩,⟨.exit 2,[(2,.ref 0 []),(3,.ref 1 [])],[.var (.v ZJ) true,.var (.v Zq) true],[ZJ,Zq]⟩],Zc (XE yD) yD⟩
theorem ZkK:ZgD.okA yb 34 1:=ZN hi1 [] [ZfE] ⟨Zma,ytt⟩
def QE(F:Nat)(a0:Chan)(a1:yG):yO (Bool):=
 (Ze2 F a0).bind λo97=>
 if(o97 !=0)=true then
  some false
 else
 (ZT F 0 1048576 [a1.1]).bind λo98=>
 if(!o98)=true then
  some false
 else
 (a1.2.1[0]?).bind λe99=>
 (a1.2.1[1]?).bind λe100=>
 (ZT F 0 1125899906842624 [e99,e100]).bind λo101=>
 if(!o101)=true then
  some false
 else
 (ZT F 0 1000 [a1.2.2.2]).bind λo102=>
 if(!o102)=true then
  some false
 else
 if(decide ((a1.2.2.1.length:Int) > 16))=true then
  some false
 else
 (Zc (Xc F) F (a1.2.2.1,(a1.2.2.1.length:Int),0,a0,a1)).bind λo108=>
 match o108 with
 |.inl o109=>
  some o109.1
 |.inr o110=>
  (Zc (XE F) F (o110.1.2.2.2.1,0,o110.1,o110.2)).bind λo113=>
  match o113 with
  |.inl o114=>
   some o114.1
  |.inr o115=>
   (ZbD F o115.2).bind λo116=>
   if(o116==o115.1.2.1)=true then
    if(inB o115.1.2.2.2.2 2)=true then
     (o115.2.2.1[o115.1.2.2.2.2.toNat]?).bind λe117=>
     (Zdh F o115.1 o115.2).bind λo118=>
     some (decide (e117 >= o118))
    else
    none
   else
   some false
def ZpY(F:Nat):Fs yb:=⟨34,[.v ZJ,.v Zq],[],[ZJ,Zq],(zN .bool),λx=>QE F x.1 x.2⟩
def Zip:Fs yb:=ZpY yD
theorem ZpZ:Zip.Ok:=fnO hi1 [(0,ZgC),(1,ZgD)] [Zm8,Zco,Zio,ZkI] ⟨Zuz,ZfC,ZpX,Zrv,ytt⟩ ⟨ZkJ,ZkK,ytt⟩
def QF(F:Nat)(a0:yU):yO (yU):=
 (Xi F a0).bind λo119=>
 if o119=true then
  some a0
 else
 some 1
def Zp0(F:Nat):Fs yb:=⟨102,[.v .u64],[],[.u64],(zN .u64),λx=>QF F x⟩
def ZdH:Fs yb:=Zp0 yD
theorem ZgE:ZdH.Ok:=fnO { still:=[2,3]} [] [XU] ⟨X7,ytt⟩
def Vk(F:Nat)(a0:yU)(a1:yU):yO (yU):=
 (QF F a0).bind λo120=>
 (Qz F o120 (a1 % 2305843009213688669)).bind λo121=>
 some o121
def Zp1(F:Nat):Fs yb:=⟨63,[.v .u64,.v .u64],[],[.u64,.u64],(zN .u64),λx=>Vk F x.1 x.2⟩
def ZdI:Fs yb:=Zp1 yD
theorem ZgF:ZdI.Ok:=fnO { still:=[4,5,6,8]} [] [ZdH,ZdE] ⟨ZgE,Zgx,ytt⟩
def Zax(F:Nat)(s:(yU×(yL yU)×Int×Int)):yO ((yU×(yL yU)×Int×Int)⊕yU):=
 if(decide (s.2.2.2 < s.2.2.1))=true then
  (idx s.2.1 s.2.2.2).bind λe122=>
  (QF F e122).bind λo123=>
  (Z4 F s.1 o123).bind λo124=>
  some (.inl (o124,s.2.1,s.2.2.1,wi (s.2.2.2+1)))
 else
 some (.inr s.1)
def ZkL:Lp:=⟨[(3,.v .u64),(6,.v (.sl .u64)),(7,.v yI),(8,.v yI)],[],[.u64,(.sl .u64),yI,yI],[⟨.exit 0,[(3,.v .u64)],[],[.u64]⟩],Zc (Zax yD) yD⟩
theorem ZnJ:ZkL.okA yb 125 0:=ZN { still:=[2,12,13,14]} [] [ZdH,ZdC] ⟨ZgE,Zgw,ytt⟩
def Ze4(F:Nat)(a0:(yL yU)):yO (yU):=
 (Zc (Zax F) F (1,a0,(a0.length:Int),0)).bind λo125=>
 some o125
def ZuB(F:Nat):Fs yb:=⟨125,[.v (.sl .u64)],[],[(.sl .u64)],(zN .u64),λx=>Ze4 F x⟩
def Zm9:Fs yb:=ZuB yD
theorem ZuC:Zm9.Ok:=fnO { still:=[2,12,13,14]} [(0,ZkL)] [] trivial ⟨ZnJ,ytt⟩
def Zak(F:Nat)(a0:yU)(a1:yU):yO (yU):=
 (Ze4 F [a0,a1]).bind λo126=>
 some o126
def ZuD(F:Nat):Fs yb:=⟨85,[.v .u64,.v .u64],[],[.u64,.u64],(zN .u64),λx=>Zak F x.1 x.2⟩
def Zdi:Fs yb:=ZuD yD
theorem Ze5:Zdi.Ok:=fnO { still:=[4,7]} [] [Zm9] ⟨ZuC,ytt⟩
def X9(F:Nat)(s:(yU×(yL yB)×Int×(yL yB))):yO ((yU×(yL yB)×Int×(yL yB))⊕(yU×(yL yB))):=
 if(decide (s.2.2.1 < 32))=true then
  (idx s.2.1 s.2.2.1).bind λe127=>
  (Wg F (Zs s.1 56) ((W1 s.1 8)|||(yah e127.toNat)) 2305843009213688668).bind λo128=>
  some (.inl (o128,s.2.1,wi (s.2.2.1+1),s.2.2.2))
 else
 some (.inr (s.1,s.2.2.2))
def Ziq:Lp:=⟨[(3,.v .u64),(6,.v (.arr 32 .u8)),(7,.v yI)],[.var (.v (.arr 32 .u8)) true],[.u64,(.arr 32 .u8),yI,(.arr 32 .u8)],[⟨.exit 0,[(3,.v .u64)],[.var (.v (.arr 32 .u8)) true],[.u64,(.arr 32 .u8)]⟩],Zc (X9 yD) yD⟩
theorem Zmb:Ziq.okA yb 64 0:=ZN { still:=[2,11,16]} [] [Zbx] ⟨ZdB,ytt⟩
def Wj(F:Nat)(a0:(yL yB)):yO (yU):=
 (Zc (X9 F) F (0,a0,0,a0)).bind λo129=>
 some (o129.1+1)
def Zrw(F:Nat):Fs yb:=⟨64,[.v (.arr 32 .u8)],[],[(.arr 32 .u8)],(zN .u64),λx=>Wj F x⟩
def Vl:Fs yb:=Zrw yD
theorem VI:Vl.Ok:=fnO { still:=[2,11,16]} [(0,Ziq)] [] trivial ⟨Zmb,ytt⟩
def ZgG(F:Nat):yO ((yL yV)):=
 some [1779033703,3144134277,1013904242,2773480762,1359893119,2600822924,528734635,1541459225]
def Zrx(F:Nat):Fs yb:=⟨156,[],[],[],(zN (.arr 8 .u32)),λx=>ZgG F⟩
def ZkM:Fs yb:=Zrx yD
theorem Zry:ZkM.Ok:=fnO {} [] [] trivial
def ZC(F:Nat)(a0:yV)(a1:Int):yO (yV):=
 let y131:yV:=Zcc a0 (min (((w64 a1)&&&31).toNat:Int).toNat 32);let y132:yV:=Zbh a0 (min ((32 - ((w64 a1)&&&31)).toNat:Int).toNat 32)
 some (y131|||y132)
def ZgH(F:Nat):Fs yb:=⟨177,[.v .u32,.v yI],[],[.u32,yI],(zN .u32),λx=>ZC F x.1 x.2⟩
def Vv:Fs yb:=ZgH yD
theorem ZaR:Vv.Ok:=fnO { still:=[4]} [] [] trivial
def ZbE(F:Nat)(a0:(yL yB)):yO (yV):=
 (idx a0 0).bind λe133=>
 (idx a0 1).bind λe134=>
 let y135:yV:=(Zcc (yca e133.toNat) 24)|||(Zcc (yca e134.toNat) 16)
 (idx a0 2).bind λe136=>
 (idx a0 3).bind λe137=>
 let y138:yV:=(y135|||(Zcc (yca e136.toNat) 8))|||(yca e137.toNat)
 some y138
def Zp2(F:Nat):Fs yb:=⟨185,[.v (.sl .u8)],[],[(.sl .u8)],(zN .u32),λx=>ZbE F x⟩
def Zir:Fs yb:=Zp2 yD
theorem Zp3:Zir.Ok:=fnO { still:=[2]} [] [] trivial
def WU(F:Nat)(s:((yL yB)×Int×(yL yV))):yO (((yL yB)×Int×(yL yV))⊕(yL yV)):=
 if(decide (s.2.1 < 64))=true then
  if(decide (s.2.1 < 16))=true then
   if(ZcU s.1.length (some (wi (4*s.2.1))) none)=true then
    (ZbE F (s.1.drop ((wi (4*s.2.1)).toNat))).bind λo139=>
    if(inB s.2.1 64)=true then
     (s.2.2[s.2.1.toNat]?).bind λe140=>
     some (.inl (s.1,wi (s.2.1+1),s.2.2.set s.2.1.toNat o139))
    else
    none
   else
   none
  else
  if(inB (wi (s.2.1 - 15)) 64)=true then
   (s.2.2[(wi (s.2.1 - 15)).toNat]?).bind λe141=>
   if(inB (wi (s.2.1 - 2)) 64)=true then
    (s.2.2[(wi (s.2.1 - 2)).toNat]?).bind λe142=>
    (ZC F e141 (-7)).bind λo143=>
    (ZC F e141 (-18)).bind λo144=>
    (ZC F e142 (-17)).bind λo145=>
    (ZC F e142 (-19)).bind λo146=>
    if(inB (wi (s.2.1 - 16)) 64)=true then
     (s.2.2[(wi (s.2.1 - 16)).toNat]?).bind λe147=>
     if(inB (wi (s.2.1 - 7)) 64)=true then
      (s.2.2[(wi (s.2.1 - 7)).toNat]?).bind λe148=>
      let y149:yV:=(e147+((o143^^^o144)^^^(Zbh e141 3)))+e148
      if(inB s.2.1 64)=true then
       (s.2.2[s.2.1.toNat]?).bind λe150=>
       let y151:(yL yV):=s.2.2.set s.2.1.toNat (y149+((o145^^^o146)^^^(Zbh e142 10)))
       some (.inl (s.1,wi (s.2.1+1),y151))
      else
      none
     else
     none
    else
    none
   else
   none
  else
  none
 else
 some (.inr s.2.2)
def Zeg:Lp:=⟨[(0,.v (.sl .u8)),(2,.ref 0 []),(8,.v yI)],[.var (.v (.arr 64 .u32)) true],[(.sl .u8),yI,(.arr 64 .u32)],[⟨.exit 0,[(2,.ref 0 [])],[.var (.v (.arr 64 .u32)) true],[(.arr 64 .u32)]⟩],Zc (WU yD) yD⟩
theorem ZhX:Zeg.okA yb 175 0:=ZN { still:=[17,28,30,36,38]} [] [Zir,Vv] ⟨Zp3,ZaR,ytt⟩
def QG(F:Nat)(a0:(yL yB)):yO ((yL yV)):=
 (Zc (WU F) F (a0,0,[0,0,0,0,0,0,0,0,0,0,0,0,0,0,0,0,0,0,0,0,0,0,0,0,0,0,0,0,0,0,0,0,0,0,0,0,0,0,0,0,0,0,0,0,0,0,0,0,0,0,0,0,0,0,0,0,0,0,0,0,0,0,0,0])).bind λo152=>
 some o152
def Zmc(F:Nat):Fs yb:=⟨175,[.v (.sl .u8)],[],[(.sl .u8)],(zN (.arr 64 .u32)),λx=>QG F x⟩
def ZfF:Fs yb:=Zmc yD
theorem Zmd:ZfF.Ok:=fnO { still:=[17,28,30,36,38]} [(0,Zeg)] [] trivial ⟨ZhX,ytt⟩
def ZgI(F:Nat):yO ((yL yV)):=
 some [1116352408,1899447441,3049323471,3921009573,961987163,1508970993,2453635748,2870763221,3624381080,310598401,607225278,1426881987,1925078388,2162078206,2614888103,3248222580,3835390401,4022224774,264347078,604807628,770255983,1249150122,1555081692,1996064986,2554220882,2821834349,2952996808,3210313671,3336571891,3584528711,113926993,338241895,666307205,773529912,1294757372,1396182291,1695183700,1986661051,2177026350,2456956037,2730485921,2820302411,3259730800,3345764771,3516065817,3600352804,4094571909,275423344,430227734,506948616,659060556,883997877,958139571,1322822218,1537002063,1747873779,1955562222,2024104815,2227730452,2361852424,2428436474,2756734187,3204031479,3329325298]
def Zrz(F:Nat):Fs yb:=⟨176,[],[],[],(zN (.arr 64 .u32)),λx=>ZgI F⟩
def ZkN:Fs yb:=Zrz yD
theorem ZrA:ZkN.Ok:=fnO {} [] [] trivial
def Wt(F:Nat)(s:(Int×(yL yV)×(yL yV)×(yL yV)×(yL yV)×(yL yV))):yO ((Int×(yL yV)×(yL yV)×(yL yV)×(yL yV)×(yL yV))⊕((yL yV)×(yL yV)×(yL yV)×(yL yV)×(yL yV))):=
 if(decide (s.1 < 64))=true then
  (s.2.2.2.2.2[4]?).bind λe155=>
  (ZC F e155 (-6)).bind λo156=>
  (s.2.2.2.2.2[4]?).bind λe157=>
  (ZC F e157 (-11)).bind λo158=>
  (s.2.2.2.2.2[4]?).bind λe159=>
  (ZC F e159 (-25)).bind λo160=>
  (s.2.2.2.2.2[7]?).bind λe161=>
  (s.2.2.2.2.2[6]?).bind λe162=>
  (s.2.2.2.2.2[4]?).bind λe163=>
  (s.2.2.2.2.2[5]?).bind λe164=>
  (s.2.2.2.2.2[6]?).bind λe165=>
  let y166:yV:=(e161+((o156^^^o158)^^^o160))+(e162^^^(e163&&&(e164^^^e165)))
  if(inB s.1 64)=true then
   (s.2.2.2.2.1[s.1.toNat]?).bind λe167=>
   if(inB s.1 64)=true then
    (s.2.2.2.1[s.1.toNat]?).bind λe168=>
    (s.2.2.2.2.2[0]?).bind λe169=>
    (ZC F e169 (-2)).bind λo170=>
    (s.2.2.2.2.2[0]?).bind λe171=>
    (ZC F e171 (-13)).bind λo172=>
    (s.2.2.2.2.2[0]?).bind λe173=>
    (ZC F e173 (-22)).bind λo174=>
    (s.2.2.2.2.2[0]?).bind λe175=>
    (s.2.2.2.2.2[1]?).bind λe176=>
    (s.2.2.2.2.2[2]?).bind λe177=>
    (s.2.2.2.2.2[0]?).bind λe178=>
    (s.2.2.2.2.2[1]?).bind λe179=>
    let y180:yV:=((y166+e167)+e168)+((o170^^^o172)^^^o174);let y181:yV:=y180+((e175&&&e176)|||(e177&&&(e178|||e179)))
    (s.2.2.2.2.2[0]?).bind λe182=>
    (s.2.2.2.2.2[1]?).bind λe183=>
    (s.2.2.2.2.2[2]?).bind λe184=>
    (s.2.2.2.2.2[3]?).bind λe185=>
    (s.2.2.2.2.2[4]?).bind λe186=>
    (s.2.2.2.2.2[5]?).bind λe187=>
    (s.2.2.2.2.2[6]?).bind λe188=>
    some (.inl (wi (s.1+1),s.2.1,s.2.2.1,s.2.2.2.1,s.2.2.2.2.1,[y181,e182,e183,e184,e185+((y166+e167)+e168),e186,e187,e188]))
   else
   none
  else
  none
 else
 some (.inr (s.2.1,s.2.2.1,s.2.2.2.1,s.2.2.2.2.1,s.2.2.2.2.2))
def ZGg:yL ESh:=[.var (.v (.arr 8 .u32)) true,.var (.v (.arr 8 .u32)) true,.var (.v (.arr 64 .u32)) true,.var (.v (.arr 64 .u32)) true,.var (.v (.arr 8 .u32)) true]
def Zdj:Lp:=⟨[(2,.ref 0 []),(4,.ref 1 []),(5,.ref 2 []),(6,.ref 3 []),(7,.ref 4 []),(18,.v yI)],ZGg,[yI,(.arr 8 .u32),(.arr 8 .u32),(.arr 64 .u32),(.arr 64 .u32),(.arr 8 .u32)],[⟨.exit 0,[(2,.ref 0 []),(4,.ref 1 []),(7,.ref 4 [])],ZGg,[(.arr 8 .u32),(.arr 8 .u32),(.arr 64 .u32),(.arr 64 .u32),(.arr 8 .u32)]⟩],Zc (Wt yD) yD⟩
def hi2:HI:={ still:=[14,22,25,29,57,60,64]}
theorem ZgJ:Zdj.okA yb 157 0:=ZN hi2 [] [Vv] ⟨ZaR,ytt⟩
def Wu(F:Nat)(s:(Int×(yL yV)×(yL yV)×(yL yV)×(yL yV)×(yL yV))):yO ((Int×(yL yV)×(yL yV)×(yL yV)×(yL yV)×(yL yV))⊕((yL yV)×(yL yV)×(yL yV)×(yL yV)×(yL yV))):=
 if(decide (s.1 < 8))=true then
  if(inB s.1 8)=true then
   (s.2.2.2.2.2[s.1.toNat]?).bind λe190=>
   if(inB s.1 8)=true then
    (s.2.1[s.1.toNat]?).bind λe191=>
    if(inB s.1 8)=true then
     (s.2.2.2.2.2[s.1.toNat]?).bind λe192=>
     some (.inl (wi (s.1+1),s.2.1,s.2.2.1,s.2.2.2.1,s.2.2.2.2.1,s.2.2.2.2.2.set s.1.toNat (e190+e191)))
    else
    none
   else
   none
  else
  none
 else
 some (.inr (s.2.1,s.2.2.1,s.2.2.2.1,s.2.2.2.2.1,s.2.2.2.2.2))
def Zdk:Lp:=⟨[(2,.ref 0 []),(4,.ref 1 []),(7,.ref 4 []),(104,.v yI)],ZGg,[yI,(.arr 8 .u32),(.arr 8 .u32),(.arr 64 .u32),(.arr 64 .u32),(.arr 8 .u32)],[⟨.exit 2,[(4,.ref 1 []),(7,.ref 4 [])],ZGg,[(.arr 8 .u32),(.arr 8 .u32),(.arr 64 .u32),(.arr 64 .u32),(.arr 8 .u32)]⟩],Zc (Wu yD) yD⟩
theorem ZgK:Zdk.okA yb 157 1:=ZN hi2 [] [] trivial
def WD(F:Nat)(a0:(yL yV))(a1:(yL yB)):yO ((yL yV)):=
 (QG F a1).bind λo153=>
 (ZgI F).bind λo154=>
 (Zc (Wt F) F (0,a0,[0,0,0,0,0,0,0,0],o153,o154,a0)).bind λo189=>
 (Zc (Wu F) F (0,o189.1,o189.2.1,o189.2.2.1,o189.2.2.2.1,o189.2.2.2.2)).bind λo193=>
 some o193.2.2.2.2
def ZkO(F:Nat):Fs yb:=⟨157,[.v (.arr 8 .u32),.v (.sl .u8)],[],[(.arr 8 .u32),(.sl .u8)],(zN (.arr 8 .u32)),λx=>WD F x.1 x.2⟩
def Zal:Fs yb:=ZkO yD
theorem Zdl:Zal.Ok:=fnO hi2 [(0,Zdj),(1,Zdk)] [ZfF,ZkN] ⟨Zmd,ZrA,ytt⟩ ⟨ZgJ,ZgK,ytt⟩
def ZY(F:Nat)(a0:(yL yB)):yO ((yL yB)):=
 if(apB 0 a0.length 1)=true then
  some a0
 else
 none
def Za5(F:Nat):Fs yb:=⟨155,[.sl true .u8],[],[(.sl .u8)],[⟨.ret,[(0,.own 0 .u8)],[.log .u8 5],[(.sl .u8)]⟩],λx=>ZY F x⟩
def ZbF:Fs yb:=Za5 yD
theorem Za6:ZbF.Ok:=fnO { own:=[2,5,7]} [] [] trivial
def W5(F:Nat):yO ((yL yB)):=
 some []
def Za7(F:Nat):Fs yb:=⟨155,[.nil .u8],[],[],[⟨.ret,[(0,.own 0 .u8)],[.log .u8 5],[(.sl .u8)]⟩],λx=>W5 F⟩
def ZbG:Fs yb:=Za7 yD
theorem Za8:ZbG.Ok:=fnO { own:=[2,5,7]} [] [] trivial
def Zam(F:Nat):Fs yb:=⟨155,[.v (.sl .u8)],[],[(.sl .u8)],[⟨.ret,[(0,.own 0 .u8)],[.log .u8 5],[(.sl .u8)]⟩],λx=>ZY F x⟩
def Wl:Fs yb:=Zam yD
theorem Zan:Wl.Ok:=Zul (t:=.u8) (xs:=[⟨.ret,[(0,.own 0 .u8)],[.log .u8 5],[(.sl .u8)]⟩]) (MA:=λ(x:(yL yB))=>ZY yD x) (MB:=λ_=>W5 yD) Za6 Za8 rfl
def Zay(F:Nat)(s:((yL yB)×(yL yB)×(yL yB))):yO (((yL yB)×(yL yB)×(yL yB))⊕((yL yB)×(yL yB)×(yL yB))):=
 if((Int.tmod (s.2.2.length:Int) 64)!=56)=true then
  if(apB s.2.2.length 1 1)=true then
   some (.inl (s.1,s.2.1,s.2.2++([0]:yL yB)))
  else
  none
 else
 some (.inr (s.1,s.2.1,s.2.2))
abbrev zI:List ESh:=[.var (.v (.arr 32 .u8)) true,.log .u8 5]
def ZkP:Lp:=⟨[(0,.v (.sl .u8)),(2,.ref 0 []),(3,.own 1 .u8)],zI,[(.sl .u8),(.arr 32 .u8),(.sl .u8)],[⟨.exit 0,[(0,.v (.sl .u8)),(2,.ref 0 []),(3,.own 1 .u8)],zI,[(.sl .u8),(.arr 32 .u8),(.sl .u8)]⟩],Zc (Zay yD) yD⟩
def hi3:HI:={ own:=[3,14,16,21,23,24,28,43],still:=[13,24,27,35,37,44,46]}
theorem ZnK:ZkP.okA yb 115 0:=ZN hi3 [] [] trivial
def Vm(F:Nat)(s:(Int×Int×(yL yB)×(yL yB))):yO ((Int×Int×(yL yB)×(yL yB))⊕((yL yB)×(yL yB))):=
 if(decide (s.2.1 >= 0))=true then
  if(decide (0<=s.2.1))=true then
   if(apB s.2.2.1.length 1 1)=true then
    let y197:(yL yB):=s.2.2.1++([w8 (Int.fdiv s.1 (2 ^ (min s.2.1.toNat 64)))]:yL yB)
    some (.inl (s.1,wi (s.2.1 - 8),y197,s.2.2.2))
   else
   none
  else
  none
 else
 some (.inr (s.2.2.1,s.2.2.2))
def ZfG:Lp:=⟨[(0,.own 0 .u8),(1,.v yI),(5,.v yI)],[.log .u8 5,.log .u8 5],[yI,yI,(.sl .u8),(.sl .u8)],[⟨.exit 0,[(0,.own 0 .u8)],[.log .u8 5,.log .u8 5],[(.sl .u8),(.sl .u8)]⟩],Zc (Vm yD) yD⟩
theorem Zjr:ZfG.okA yb 114 0:=ZN { own:=[0,4,10,16,17]} [] [] trivial
def XV(F:Nat)(a1:Int)(s0:(yL yB)):yO ((yL yB)):=
 (Zc (Vm F) F (a1,56,s0,[])).bind λo198=>
 some o198.1
def Za9(F:Nat):Fs yb:=⟨114,[.own 0 .u8,.v yI],[.log .u8 5],[yI,(.sl .u8)],[⟨.ret,[(0,.own 0 .u8)],[.log .u8 5],[(.sl .u8)]⟩],λx=>XV F x.1 x.2⟩
def Zcr:Fs yb:=Za9 yD
theorem Zba:Zcr.Ok:=fnO { own:=[0,4,10,16,17]} [(0,ZfG)] [] trivial ⟨Zjr,ytt⟩
def Zaz(F:Nat)(s:((yL yB)×(yL yB)×(yL yB)×(yL yV))):yO (((yL yB)×(yL yB)×(yL yB)×(yL yV))⊕((yL yB)×(yL yB)×(yL yV))):=
 if(decide ((s.1.length:Int) >= 64))=true then
  if(ZcU s.1.length none (some 64))=true then
   (WD F s.2.2.2 (s.1.take 64)).bind λo201=>
   if(ZcU s.1.length (some 64) none)=true then
    some (.inl (s.1.drop 64,s.2.1,s.2.2.1,o201))
   else
   none
  else
  none
 else
 some (.inr (s.2.1,s.2.2.1,s.2.2.2))
abbrev zH:List ESh:=[.var (.v (.arr 32 .u8)) true,.log .u8 5,.var (.v (.arr 8 .u32)) true]
def ZkQ:Lp:=⟨[(0,.v (.sl .u8)),(2,.ref 0 []),(3,.own 1 .u8),(4,.ref 2 [])],zH,[(.sl .u8),(.arr 32 .u8),(.sl .u8),(.arr 8 .u32)],[⟨.exit 2,[(2,.ref 0 []),(3,.own 1 .u8),(4,.ref 2 [])],zH,[(.arr 32 .u8),(.sl .u8),(.arr 8 .u32)]⟩],Zc (Zaz yD) yD⟩
theorem ZnL:ZkQ.okA yb 115 1:=ZN hi3 [] [Zal] ⟨Zdl,ytt⟩
def ZaA(F:Nat)(s:((yL yB)×(yL yB)×(yL yB)×(yL yV))):yO (((yL yB)×(yL yB)×(yL yB)×(yL yV))⊕((yL yB)×(yL yB)×(yL yV))):=
 if(decide ((s.1.length:Int) > 0))=true then
  if(ZcU s.1.length none (some 64))=true then
   (WD F s.2.2.2 (s.1.take 64)).bind λo204=>
   if(ZcU s.1.length (some 64) none)=true then
    some (.inl (s.1.drop 64,s.2.1,s.2.2.1,o204))
   else
   none
  else
  none
 else
 some (.inr (s.2.1,s.2.2.1,s.2.2.2))
def ZkR:Lp:=⟨[(2,.ref 0 []),(3,.v (.sl .u8)),(4,.ref 2 [])],zH,[(.sl .u8),(.arr 32 .u8),(.sl .u8),(.arr 8 .u32)],[⟨.exit 4,[(2,.ref 0 []),(4,.ref 2 [])],zH,[(.arr 32 .u8),(.sl .u8),(.arr 8 .u32)]⟩],Zc (ZaA yD) yD⟩
theorem ZnM:ZkR.okA yb 115 2:=ZN hi3 [] [Zal] ⟨Zdl,ytt⟩
def ZaB(F:Nat)(s:(Int×(yL yB)×(yL yB)×(yL yV))):yO ((Int×(yL yB)×(yL yB)×(yL yV))⊕((yL yB)×(yL yB)×(yL yV))):=
 if(decide (s.1 < 32))=true then
  if(inB (wi (Int.tdiv s.1 4)) 8)=true then
   (s.2.2.2[(wi (Int.tdiv s.1 4)).toNat]?).bind λe206=>
   if(decide (0<=wi (24 - (wi (8*(Int.tmod s.1 4))))))=true then
    let y207:yV:=Zbh e206 (min (wi (24 - (wi (8*(Int.tmod s.1 4))))).toNat 32)
    if(inB s.1 32)=true then
     (s.2.1[s.1.toNat]?).bind λe208=>
     some (.inl (wi (s.1+1),s.2.1.set s.1.toNat (w8 (y207.toNat:Int)),s.2.2.1,s.2.2.2))
    else
    none
   else
   none
  else
  none
 else
 some (.inr (s.2.1,s.2.2.1,s.2.2.2))
def ZkS:Lp:=⟨[(2,.ref 0 []),(4,.ref 2 []),(48,.v yI)],zH,[yI,(.arr 32 .u8),(.sl .u8),(.arr 8 .u32)],[⟨.exit 6,[(2,.ref 0 [])],zH,[(.arr 32 .u8),(.sl .u8),(.arr 8 .u32)]⟩],Zc (ZaB yD) yD⟩
theorem ZnN:ZkS.okA yb 115 3:=ZN hi3 [] [] trivial
def Zcs(F:Nat)(a0:(yL yB)):yO ((yL yB)):=
 let y194:Int:=wi ((a0.length:Int) - (Int.tmod (a0.length:Int) 64))
 if(ZcU a0.length (some y194) none)=true then
  (ZY F (a0.drop y194.toNat)).bind λo195=>
  if(apB o195.length 1 1)=true then
   (Zc (Zay F) F (a0,yzz,o195++([128]:yL yB))).bind λo196=>
   (XV F (wi (8*(o196.1.length:Int))) o196.2.2).bind λo199=>
   (ZgG F).bind λo200=>
   (Zc (Zaz F) F (o196.1,o196.2.1,o199,o200)).bind λo202=>
   (Zc (ZaA F) F (o202.2.1,o202.1,o202.2.1,o202.2.2)).bind λo205=>
   (Zc (ZaB F) F (0,o205.1,o205.2.1,o205.2.2)).bind λo209=>
   some o209.1
  else
  none
 else
 none
def Ze6(F:Nat):Fs yb:=⟨115,[.v (.sl .u8)],[],[(.sl .u8)],(zN (.arr 32 .u8)),λx=>Zcs F x⟩
def ZwO:Fs yb:=Ze6 yD
theorem ZuE:ZwO.Ok:=fnO hi3 [(0,ZkP),(1,ZkQ),(2,ZkR),(3,ZkS)] [Zcr,Wl,ZkM] ⟨Zba,Zan,Zry,ytt⟩ ⟨ZnK,ZnL,ZnM,ZnN,ytt⟩
end
end Go.Proofs.YtpgpjjjoglafdaaGreat
end
section
namespace Go.Sha
open Go.Ev
noncomputable def VJ{α:Type}(n:Nat)(k:Nat->α):α:=Nat.rec (motive:=λ_=>α) (k 0) (λm _=>k (Nat.succ m)) n
theorem Y7{α:Type}(n:Nat)(k:Nat->α):VJ n k=k n:=by cases n <;> rfl
def dbl(x:Nat):Nat:=Nat.mul x 4294967297
def s0(x:Nat):Nat:=Nat.xor (Nat.xor (yae (dbl x) 7) (yae (dbl x) 18)) (yae x 3)
def s1(x:Nat):Nat:=Nat.xor (Nat.xor (yae (dbl x) 17) (yae (dbl x) 19)) (yae x 10)
def S0(x:Nat):Nat:=Nat.xor (Nat.xor (yae (dbl x) 2) (yae (dbl x) 13)) (yae (dbl x) 22)
def S1(x:Nat):Nat:=Nat.xor (Nat.xor (yae (dbl x) 6) (yae (dbl x) 11)) (yae (dbl x) 25)
def ch(e f g:Nat):Nat:=Nat.xor g (Nat.land e (Nat.xor f g))
def mj(a b c:Nat):Nat:=Nat.lor (Nat.land a b) (Nat.land c (Nat.lor a b))
def lo(x:Nat):Nat:=Nat.mod x 4294967296
def kw(W:Nat):Nat:=lo (yv (yv (yv (yae W 480) (s0 (lo (yae W 448)))) (lo (yae W 192))) (s1 (lo (yae W 32))))
def kn(W:Nat):Nat:=Nat.mod (yv (Nat.mul W 4294967296) (kw W)) (Nat.pow 2 512)
noncomputable def kst(k:Nat)(ih:Nat->Nat->Nat->Nat->Nat->Nat->Nat->Nat->Nat->Nat)(W a b c d e f g h:Nat):Nat:=
 VJ (yv (yv (yv (yv h (S1 e)) (ch e f g)) k) (yae W 480)) λt=>
     VJ (lo (yv (yv t (S0 a)) (mj a b c))) λa'=>VJ (lo (yv d t)) λe'=>VJ (kn W) λW'=>ih W' a' a b c e' e f g
noncomputable def kgo(ks:yL Nat)(K:Nat->Nat->Nat->Nat->Nat->Nat->Nat->Nat->Nat):Nat->Nat->Nat->Nat->Nat->Nat->Nat->Nat->Nat->Nat:=
 List.rec (motive:=λ_=>Nat->Nat->Nat->Nat->Nat->Nat->Nat->Nat->Nat->Nat) (λ_=>K) (λk _ ih=>kst k ih) ks
def ks:yL Nat:=[1116352408,1899447441,3049323471,3921009573,961987163,1508970993,2453635748,2870763221,3624381080,310598401,607225278,1426881987,1925078388,2162078206,2614888103,3248222580,3835390401,4022224774,264347078,604807628,770255983,1249150122,1555081692,1996064986,2554220882,2821834349,2952996808,3210313671,3336571891,3584528711,113926993,338241895,666307205,773529912,1294757372,1396182291,1695183700,1986661051,2177026350,2456956037,2730485921,2820302411,3259730800,3345764771,3516065817,3600352804,4094571909,275423344,430227734,506948616,659060556,883997877,958139571,1322822218,1537002063,1747873779,1955562222,2024104815,2227730452,2361852424,2428436474,2756734187,3204031479,3329325298]
def w32(H i:Nat):Nat:=lo (yae H i)
def cat(H x:Nat):Nat:=yv (Nat.mul H 4294967296) (lo x)
noncomputable def ZGh(H B:Nat):Nat:=
 VJ (w32 H 224) λa=>VJ (w32 H 192) λb=>VJ (w32 H 160) λc=>VJ (w32 H 128) λd=>VJ (w32 H 96) λe=>VJ (w32 H 64) λf=>VJ (w32 H 32) λg=>VJ (w32 H 0) λh=>
  kgo ks (λa' b' c' d' e' f' g' h'=>cat (cat (cat (cat (cat (cat (cat (cat 0 (yv a' a)) (yv b' b)) (yv c' c)) (yv d' d)) (yv e' e)) (yv f' f)) (yv g' g)) (yv h' h)) B a b c d e f g h
noncomputable def pk(l:yL Nat)(n:Nat):Nat:=List.rec (motive:=λ_=>Nat->Nat) (λn=>n) (λx _ ih n=>VJ (yv (Nat.mul n 256) x) ih) l n
noncomputable def ZIk(n:Nat)(l:yL Nat)(H:Nat):Nat:=
 Nat.rec (motive:=λ_=>yL Nat->Nat->Nat) (λ_ H=>H) (λ_ ih l H=>VJ (ZGh H (pk (l.take 64) 0)) λH'=>ih (l.drop 64) H') n l H
noncomputable def outs(H:Nat)(l:yL Nat):yL yB:=List.rec (motive:=λ_=>yL yB) [] (λs _ ih=>VJ (Nat.mod (yae H s) 256) λx=>yax x::ih) l
def Zy4:yL Nat:=[248,240,232,224,216,208,200,192,184,176,168,160,152,144,136,128,120,112,104,96,88,80,72,64,56,48,40,32,24,16,8,0]
def be8(n:Nat):yL Nat:=[n / 2 ^ 56 % 256,n / 2 ^ 48 % 256,n / 2 ^ 40 % 256,n / 2 ^ 32 % 256,n / 2 ^ 24 % 256,n / 2 ^ 16 % 256,n / 2 ^ 8 % 256,n % 256]
def zs(n:Nat):Nat:=(119 - n % 64) % 64
def H0:Nat:=cat (cat (cat (cat (cat (cat (cat (cat 0 1779033703) 3144134277) 1013904242) 2773480762) 1359893119) 2600822924) 528734635) 1541459225
noncomputable def sha(l:yL yB):yL yB:=
 VJ l.length λn=>VJ (ZIk (Nat.div (yv n 72) 64) (l.map ybd++(128::(yx (zs n) 0++be8 (8*n)))) H0) λH=>outs H Zy4
theorem ZgL(x y:yV):(x+y).toNat=lo (x.toNat+y.toNat):=by rw[UInt32.toNat_add];rfl
theorem Zis(x y:yV):(x^^^y).toNat=Nat.xor x.toNat y.toNat:=UInt32.toNat_xor ..
theorem ZD9(x y:yV):(x&&&y).toNat=Nat.land x.toNat y.toNat:=UInt32.toNat_and ..
theorem ZBP(x y:yV):(x|||y).toNat=Nat.lor x.toNat y.toNat:=UInt32.toNat_or ..
theorem ZIl(x:yV):x.toNat < 4294967296:=x.toNat_lt
theorem ZwP(x:yV)(n:Nat):(Zbh x n).toNat=yae x.toNat n:=by
 unfold Zbh;rw[ycr,show yae x.toNat n=x.toNat >>> n from rfl,Nat.shiftRight_eq_div_pow]
 exact yav (Nat.lt_of_le_of_lt (Nat.div_le_self _ _) (ZIl x))
theorem ZG1(x:Nat):lo x < 4294967296:=Nat.mod_lt _ (by omega)
theorem Q4{x:Nat}(h:x < 4294967296):lo x=x:=yav h
theorem ZJg(x:yV){n k:Nat}(h:n+k=32)(hn:0 < n):(Zcc x k|||Zbh x n).toNat=lo (yae (dbl x.toNat) n):=by
 rw[ZBP,ZwP];unfold Zcc;have hx:=ZIl x;generalize x.toNat=m at hx;have hp:2 ^ n*2 ^ k=4294967296:=by rw[<-Nat.pow_add,h]
 rw[ycr,show yae m n=m >>> n from rfl,Nat.shiftRight_eq_div_pow,show yae (dbl m) n=(dbl m) >>> n from rfl,Nat.shiftRight_eq_div_pow]
 have e1:m*2 ^ k % 2 ^ 32=2 ^ k*(m % 2 ^ n):=by
  rw[show(2:Nat) ^ 32=2 ^ n*2 ^ k from hp.symm,Nat.mul_mod_mul_right]
  exact ybt ..
 have hd:m / 2 ^ n < 2 ^ k:=by
  rw[Nat.div_lt_iff_lt_mul (Nat.two_pow_pos n),ybt,hp];exact hx
 rw[e1,show Nat.lor (2 ^ k*(m % 2 ^ n)) (m / 2 ^ n)=2 ^ k*(m % 2 ^ n)|||m / 2 ^ n from rfl, <-Nat.two_pow_add_eq_or_of_lt hd]
 have e2:dbl m=2 ^ n*(m*2 ^ k)+m:=by
  unfold dbl;rw[Nat.mul_left_comm,hp,show Nat.mul m 4294967297=m*4294967297 from rfl]
  omega
 rw[e2,Nat.mul_add_div (Nat.two_pow_pos n)];unfold lo;rw[show Nat.mod (m*2 ^ k+m / 2 ^ n) 4294967296=(m*2 ^ k+m / 2 ^ n) % 4294967296 from rfl,Nat.add_mod,show m*2 ^ k % 4294967296=2 ^ k*(m % 2 ^ n) from e1,yav (a:=m / 2 ^ n) (b:=4294967296) (by rw[<-hp];exact Nat.lt_of_lt_of_le hd (Nat.le_mul_of_pos_left _ (Nat.two_pow_pos n)))]
 refine(yav ?_).symm;have hm:m % 2 ^ n < 2 ^ n:=Nat.mod_lt _ (Nat.two_pow_pos n)
 calc 2 ^ k*(m % 2 ^ n)+m / 2 ^ n < 2 ^ k*(m % 2 ^ n)+2 ^ k:=by omega
  _=2 ^ k*(m % 2 ^ n+1):=by rw[Nat.mul_add,Nat.mul_one]
  _<=2 ^ k*2 ^ n:=Nat.mul_le_mul_left _ hm
  _=4294967296:=by rw[ybt,hp]
theorem ZgM(x y:Nat):lo (Nat.xor x y)=Nat.xor (lo x) (lo y):=Nat.xor_mod_two_pow (n:=32)
theorem ZEa(x:yV)(n:Nat):lo (yae x.toNat n)=yae x.toNat n:=by
 rw[<-ZwP];exact Q4 (ZIl _)
theorem ZJD(x:yV){a b:yV}(ha:a.toNat=lo (yae (dbl x.toNat) 7))(hb:b.toNat=lo (yae (dbl x.toNat) 18)):((a^^^b)^^^Zbh x 3).toNat=lo (s0 x.toNat):=by
 unfold s0;rw[Zis,Zis,ZwP,ha,hb,ZgM,ZgM,ZEa]
theorem ZJE(x:yV){a b:yV}(ha:a.toNat=lo (yae (dbl x.toNat) 17))(hb:b.toNat=lo (yae (dbl x.toNat) 19)):((a^^^b)^^^Zbh x 10).toNat=lo (s1 x.toNat):=by
 unfold s1;rw[Zis,Zis,ZwP,ha,hb,ZgM,ZgM,ZEa]
theorem ZJF(x:yV){a b c:yV}(ha:a.toNat=lo (yae (dbl x.toNat) 2))(hb:b.toNat=lo (yae (dbl x.toNat) 13))(hc:c.toNat=lo (yae (dbl x.toNat) 22)):((a^^^b)^^^c).toNat=lo (S0 x.toNat):=by
 unfold S0;rw[Zis,Zis,ha,hb,hc,ZgM,ZgM]
theorem ZJG(x:yV){a b c:yV}(ha:a.toNat=lo (yae (dbl x.toNat) 6))(hb:b.toNat=lo (yae (dbl x.toNat) 11))(hc:c.toNat=lo (yae (dbl x.toNat) 25)):((a^^^b)^^^c).toNat=lo (S1 x.toNat):=by
 unfold S1;rw[Zis,Zis,ha,hb,hc,ZgM,ZgM]
theorem ZJH(e f g:yV):(g^^^(e&&&(f^^^g))).toNat=ch e.toNat f.toNat g.toNat:=by
 unfold ch;rw[Zis,ZD9,Zis]
theorem ZJI(a b c:yV):((a&&&b)|||(c&&&(a|||b))).toNat=mj a.toNat b.toNat c.toNat:=by
 unfold mj;rw[ZBP,ZD9,ZD9,ZBP]
theorem ZJJ(a b c d:Nat):lo (lo (lo (a+lo b)+c)+lo d)=lo (a+b+c+d):=by
 show(((a+b % 4294967296) % 4294967296+c) % 4294967296+d % 4294967296) % 4294967296=(a+b+c+d) % 4294967296;omega
theorem ZJK(a b c d e:Nat):lo (lo (lo (lo (a+lo b)+c)+d)+e)=lo (yv (yv (yv (yv a b) c) d) e):=by
 show((((a+b % 4294967296) % 4294967296+c) % 4294967296+d) % 4294967296+e) % 4294967296=(a+b+c+d+e) % 4294967296;omega
theorem ZJL(t s m:Nat):lo (lo (lo t+lo s)+m)=lo (yv (yv t s) m):=by
 show((t % 4294967296+s % 4294967296) % 4294967296+m) % 4294967296=(t+s+m) % 4294967296;omega
theorem ZJM(d t:Nat):lo (d+lo t)=lo (yv d t):=by
 show(d+t % 4294967296) % 4294967296=(d+t) % 4294967296;omega
def pw(n:Nat)(l:yL Nat):Nat:=l.foldl (λn x=>n*4294967296+x) n
theorem Zy5:∀(l:yL Nat)(n:Nat),(∀x,x∈l->x < 4294967296)->pw n l / 2 ^ (32*l.length)=n
 |[],n,_=>by simp[pw]
 |x::r,n,h=>by
  have ih:=Zy5 r (n*4294967296+x) (λy hy=>h y (List.mem_cons_of_mem _ hy));have hx:=h x (List.mem_cons_self ..);rw[show pw n (x::r)=pw (n*4294967296+x) r from rfl,yaf,show 32*(r.length+1)=32*r.length+32 by omega,Nat.pow_add, <-Nat.div_div_eq_div_mul,ih]
  omega
theorem ZkT:∀(l:yL Nat)(n:Nat),pw n l=n*2 ^ (32*l.length)+pw 0 l
 |[],n=>by simp[pw]
 |x::r,n=>by
  rw[show pw n (x::r)=pw (n*4294967296+x) r from rfl,show pw 0 (x::r)=pw (0*4294967296+x) r from rfl,ZkT r (n*4294967296+x),ZkT r (0*4294967296+x),yaf,show 32*(r.length+1)=32+32*r.length by omega,Nat.pow_add,Nat.zero_mul,
   ybe,Nat.add_mul, <-Nat.mul_assoc,Nat.add_assoc]
theorem ZG2:∀(l:yL Nat),(∀x,x∈l->x < 4294967296)->pw 0 l < 2 ^ (32*l.length)
 |[],_=>by simp[pw]
 |x::r,h=>by
  have ih:=ZG2 r (λy hy=>h y (List.mem_cons_of_mem _ hy));have hx:=h x (List.mem_cons_self ..);rw[show pw 0 (x::r)=pw (0*4294967296+x) r from rfl,ZkT,yaf,show 32*(r.length+1)=32+32*r.length by omega,Nat.pow_add,Nat.zero_mul,ybe]
  have:(x+1)*2 ^ (32*r.length)<=2 ^ 32*2 ^ (32*r.length):=Nat.mul_le_mul_right _ (by omega);rw[Nat.add_mul,Nat.one_mul] at this;omega
theorem ZG3{n x s:Nat}{r:yL Nat}(h:∀y,y∈r->y < 4294967296)(hs:s=32*r.length):yae (pw n (x::r)) s=n*4294967296+x:=by
 subst hs;rw[show yae (pw n (x::r)) (32*r.length)=pw n (x::r) >>> (32*r.length) from rfl,Nat.shiftRight_eq_div_pow]
 exact Zy5 r (n*4294967296+x) h
theorem ZG4{n x s:Nat}{r:yL Nat}(hx:x < 4294967296)(h:∀y,y∈r->y < 4294967296)(hs:s=32*r.length):lo (yae (pw n (x::r)) s)=x:=by
 rw[ZG3 h hs];show(n*4294967296+x) % 4294967296=x;omega
theorem Zy6(n:Nat)(l r:yL Nat):pw n (l++r)=pw (pw n l) r:=List.foldl_append ..
theorem ZAx(n x:Nat)(r:yL Nat):pw n (x::r)=pw (n*4294967296+x) r:=rfl
theorem Zdm{v l r:yL Nat}{x s:Nat}(e:v=l++x::r)(h:∀y,y∈v->y < 4294967296)(hs:s=32*r.length):lo (yae (pw 0 v) s)=x:=by
 rw[e] at h ⊢;rw[Zy6];exact ZG4 (h x (by simp)) (λy hy=>h y (by simp[hy])) hs
def wd(ws:yL Nat)(n:Nat):Nat:=if h:n < 16 then lo (ws.getD n 0) else lo (wd ws (n - 16)+s0 (wd ws (n - 15))+wd ws (n - 7)+s1 (wd ws (n - 2)))
termination_by n
decreasing_by all_goals omega
theorem ZJh(ws:yL Nat)(n:Nat):wd ws n < 4294967296:=by
 rw[wd];split <;> exact ZG1 _
theorem ZAy(ws:yL Nat)(n:Nat):wd ws (n+16)=lo (wd ws n+s0 (wd ws (n+1))+wd ws (n+9)+s1 (wd ws (n+14))):=by
 rw[wd,dif_neg (by omega)];simp only[Nat.add_sub_cancel,show n+16 - 15=n+1 by omega,show n+16 - 7=n+9 by omega,show n+16 - 2=n+14 by omega]
def win(ws:yL Nat)(i:Nat):yL Nat:=[wd ws i,wd ws (i+1),wd ws (i+2),wd ws (i+3),wd ws (i+4),wd ws (i+5),wd ws (i+6),wd ws (i+7),wd ws (i+8),wd ws (i+9),wd ws (i+10),wd ws (i+11),wd ws (i+12),wd ws (i+13),wd ws (i+14),wd ws (i+15)]
theorem Zy7{ws:yL Nat}{i:Nat}{l:yL Nat}(h:∀x,x∈l->∃j,x=wd ws j):∀x,x∈l->x < 4294967296:=λx hx=>by
 obtain⟨j,rfl⟩:=h x hx;exact ZJh _ _
theorem ZAz(ws:yL Nat)(i:Nat):yae (pw 0 (win ws i)) 480=wd ws i:=by
 have h:=ZG3 (n:=0) (x:=wd ws i) (s:=480) (r:=(win ws i).tail) (Zy7 (ws:=ws) (i:=i) (λx hx=>by
  simp only[win,List.tail_cons,yaz,ycm,or_false] at hx;rcases hx with h|h|h|h|h|h|h|h|h|h|h|h|h|h|h <;> exact⟨_,h⟩)) rfl
 rw[Nat.zero_mul,ybe] at h;exact h
theorem ZIm(ws:yL Nat)(i:Nat):kw (pw 0 (win ws i))=wd ws (i+16):=by
 have key:∀(l r:yL Nat)(x s:Nat),win ws i=l++x::r->s=32*r.length->lo (yae (pw 0 (win ws i)) s)=x:=by
  intro l r x s e hs
  have zU:∀y,y∈win ws i->y < 4294967296:=Zy7 (i:=i) λx hx=>by
   simp only[win,yaz,ycm,or_false] at hx;rcases hx with h|h|h|h|h|h|h|h|h|h|h|h|h|h|h|h <;> exact⟨_,h⟩
  rw[e] at zU ⊢;rw[Zy6];exact ZG4 (zU x (by simp)) (λy hy=>zU y (by simp[hy])) hs
 unfold kw;rw[ZAz,key [_] _ (wd ws (i+1)) 448 rfl rfl,key [_,_,_,_,_,_,_,_,_] _ (wd ws (i+9)) 192 rfl rfl,key [_,_,_,_,_,_,_,_,_,_,_,_,_,_] _ (wd ws (i+14)) 32 rfl rfl,ZAy];rfl
theorem ZGi(a b m:Nat)(h:b < 2 ^ m):Nat.mod (a*2 ^ m+b) (Nat.pow 2 m)=b:=by
 show(a*2 ^ m+b) % 2 ^ m=b;rw[ybt,Nat.mul_add_mod];exact yav h
theorem ZIn(ws:yL Nat)(i:Nat):kn (pw 0 (win ws i))=pw 0 (win ws (i+1)):=by
 have e:yv (Nat.mul (pw 0 (win ws i)) 4294967296) (kw (pw 0 (win ws i)))=pw (wd ws i) (win ws (i+1)):=by
  rw[ZIm];show pw 0 (win ws i)*4294967296+wd ws (i+16)=pw (wd ws i) (win ws (i+1));rw[show wd ws i=0*4294967296+wd ws i by omega];rfl
 unfold kn;rw[e,ZkT];have hl:(win ws (i+1)).length=16:=rfl
 have hlt:=ZG2 (win ws (i+1)) (Zy7 (i:=i+1) λx hx=>by
  simp only[win,yaz,ycm,or_false] at hx;rcases hx with h|h|h|h|h|h|h|h|h|h|h|h|h|h|h|h <;> exact⟨_,h⟩)
 rw[show 512=32*(win ws (i+1)).length by rw[hl]];exact ZGi _ _ _ hlt
def rnd(v:yL Nat)(k w:Nat):yL Nat:=match v with
 |[a,b,c,d,e,f,g,h]=>[lo (yv (yv (yv (yv (yv (yv h (S1 e)) (ch e f g)) k) w) (S0 a)) (mj a b c)),a,b,c,lo (yv d (yv (yv (yv (yv h (S1 e)) (ch e f g)) k) w)),e,f,g]
 |_=>[]
def rs(ws v:yL Nat):Nat->yL Nat
 |0=>v
 |i+1=>rnd (rs ws v i) (ks.getD i 0) (wd ws i)
theorem ZGj{v:yL Nat}(h:v.length=8)(k w:Nat):(rnd v k w).length=8:=by
 match v,h with
 |[a,b,c,d,e,f,g,h],_=>rfl
theorem ZuF{ws v:yL Nat}(h:v.length=8):∀i,(rs ws v i).length=8
 |0=>h
 |i+1=>ZGj (ZuF h i) _ _
noncomputable def ZEb(f:Nat->Nat->Nat->Nat->Nat->Nat->Nat->Nat->Nat)(v:yL Nat):Nat:=match v with
 |[a,b,c,d,e,f',g,h]=>f a b c d e f' g h
 |_=>0
theorem ZhP{F:Nat->Nat->Nat->Nat->Nat->Nat->Nat->Nat->Nat}{a b c d e f g h:Nat}:ZEb F [a,b,c,d,e,f,g,h]=F a b c d e f g h:=rfl
theorem ZEc(k:Nat)(l:yL Nat)(K:Nat->Nat->Nat->Nat->Nat->Nat->Nat->Nat->Nat):kgo (k::l) K=kst k (kgo l K):=rfl
theorem ZwQ(a b c d e f g h k w:Nat):rnd [a,b,c,d,e,f,g,h] k w=[lo (yv (yv (yv (yv (yv (yv h (S1 e)) (ch e f g)) k) w) (S0 a)) (mj a b c)),a,b,c,lo (yv d (yv (yv (yv (yv h (S1 e)) (ch e f g)) k) w)),e,f,g]:=rfl
theorem ZIo(k:Nat)(ih:Nat->Nat->Nat->Nat->Nat->Nat->Nat->Nat->Nat->Nat)(W a b c d e f g h:Nat):kst k ih W a b c d e f g h=
 ih (kn W) (lo (yv (yv (yv (yv (yv (yv h (S1 e)) (ch e f g)) k) (yae W 480)) (S0 a)) (mj a b c))) a b c (lo (yv d (yv (yv (yv (yv h (S1 e)) (ch e f g)) k) (yae W 480)))) e f g:=by
 unfold kst;rw[Y7,Y7,Y7,Y7]
theorem ZEd{ws v:yL Nat}{K:Nat->Nat->Nat->Nat->Nat->Nat->Nat->Nat->Nat}{k w:Nat}{l:yL Nat}(hv:v.length=8){W:Nat}(hW:yae W 480=w):ZEb (kgo (k::l) K W) v=ZEb (kgo l K (kn W)) (rnd v k w):=by
 match v,hv with
 |[a,b,c,d,e,f,g,h],_=>
  rw[ZEc,ZhP,ZIo,hW,ZwQ,ZhP]
theorem ZAA{ws v:yL Nat}{K:Nat->Nat->Nat->Nat->Nat->Nat->Nat->Nat->Nat}(hv:v.length=8):∀(m i:Nat),i+m=64->ZEb (kgo (ks.drop i) K (pw 0 (win ws i))) (rs ws v i)=ZEb K (rs ws v 64)
 |0,i,h=>by
  have e:i=64:=by omega
  subst e;rw[show ks.drop 64=[] from rfl]
  generalize pw 0 (win ws 64)=W
  rfl
 |m+1,i,h=>by
  have hi:i < ks.length:=by show i < 64;omega
  rw[List.drop_eq_getElem_cons hi,ZEd (ws:=ws) (ZuF hv i) (ZAz ws i),ZIn];have:=ZAA (ws:=ws) (K:=K) hv m (i+1) (by omega);rw[show rs ws v (i+1)=rnd (rs ws v i) (ks.getD i 0) (wd ws i) from rfl,show ks.getD i 0=ks[i] by rw[ycv,yab hi];rfl] at this
  exact this
def ZkU(v ws:yL Nat):yL Nat:=List.zipWith (λx y=>lo (x+y)) (rs ws v 64) v
theorem ZgN{v ws:yL Nat}(h:v.length=8):(ZkU v ws).length=8:=by
 rw[ZkU,List.length_zipWith,ZuF h,h];rfl
theorem ZAB{v ws:yL Nat}:∀x,x∈ZkU v ws->x < 4294967296:=by
 intro x hx;unfold ZkU at hx;rw[List.mem_iff_getElem] at hx;obtain⟨i,hi,rfl⟩:=hx;rw[List.getElem_zipWith];exact ZG1 _
theorem ZGk{v ws:yL Nat}(hv:v.length=8)(hlt:∀x,x∈v->x < 4294967296)(hw:ws.length=16)(hwl:∀x,x∈ws->x < 4294967296):ZGh (pw 0 v) (pw 0 ws)=pw 0 (ZkU v ws):=by
 have e0:ws=win ws 0:=by
  match ws,hw with
  |[a0,a1,a2,a3,a4,a5,a6,a7,a8,a9,a10,a11,a12,a13,a14,a15],_=>
   simp only[yaz,ycm,or_false,forall_eq_or_imp,forall_eq] at hwl;obtain⟨h0,h1,h2,h3,h4,h5,h6,h7,h8,h9,h10,h11,h12,h13,h14,h15⟩:=hwl;have hs:∀n,n < 16->wd [a0,a1,a2,a3,a4,a5,a6,a7,a8,a9,a10,a11,a12,a13,a14,a15] n=lo ([a0,a1,a2,a3,a4,a5,a6,a7,a8,a9,a10,a11,a12,a13,a14,a15].getD n 0):=λn hn=>by rw[wd,dif_pos hn]
   unfold win;rw[hs 0 (by omega),hs (0+1) (by omega),hs (0+2) (by omega),hs (0+3) (by omega),hs (0+4) (by omega),hs (0+5) (by omega),hs (0+6) (by omega),hs (0+7) (by omega),hs (0+8) (by omega),hs (0+9) (by omega),hs (0+10) (by omega),hs (0+11) (by omega),hs (0+12) (by omega),hs (0+13) (by omega),hs (0+14) (by omega),hs (0+15) (by omega)];show _=[lo a0,lo a1,lo a2,lo a3,lo a4,lo a5,lo a6,lo a7,lo a8,lo a9,lo a10,lo a11,lo a12,lo a13,lo a14,lo a15];rw[Q4 h0,Q4 h1,Q4 h2,Q4 h3,Q4 h4,Q4 h5,Q4 h6,Q4 h7,Q4 h8,Q4 h9,Q4 h10,Q4 h11,Q4 h12,Q4 h13,Q4 h14,Q4 h15]
 match v,hv with
 |[a,b,c,d,e,f,g,h],hv=>
  have ea:w32 (pw 0 [a,b,c,d,e,f,g,h]) 224=a:=Zdm (l:=[]) (r:=[b,c,d,e,f,g,h]) rfl hlt rfl;have eb:w32 (pw 0 [a,b,c,d,e,f,g,h]) 192=b:=Zdm (l:=[a]) (r:=[c,d,e,f,g,h]) rfl hlt rfl;have ec:w32 (pw 0 [a,b,c,d,e,f,g,h]) 160=c:=Zdm (l:=[a,b]) (r:=[d,e,f,g,h]) rfl hlt rfl;have ed:w32 (pw 0 [a,b,c,d,e,f,g,h]) 128=d:=Zdm (l:=[a,b,c]) (r:=[e,f,g,h]) rfl hlt rfl;have ee:w32 (pw 0 [a,b,c,d,e,f,g,h]) 96=e:=Zdm (l:=[a,b,c,d]) (r:=[f,g,h]) rfl hlt rfl;have ef:w32 (pw 0 [a,b,c,d,e,f,g,h]) 64=f:=Zdm (l:=[a,b,c,d,e]) (r:=[g,h]) rfl hlt rfl;have eg:w32 (pw 0 [a,b,c,d,e,f,g,h]) 32=g:=Zdm (l:=[a,b,c,d,e,f]) (r:=[h]) rfl hlt rfl;have eh:w32 (pw 0 [a,b,c,d,e,f,g,h]) 0=h:=Zdm (l:=[a,b,c,d,e,f,g]) (r:=[]) rfl hlt rfl;unfold ZGh;rw[ea,eb,ec,ed,ee,ef,eg,eh,Y7,Y7,Y7,Y7,Y7,Y7,Y7,Y7];have hr:=ZAA (ws:=ws) (v:=[a,b,c,d,e,f,g,h]) (K:=λa' b' c' d' e' f' g' h'=>cat (cat (cat (cat (cat (cat (cat (cat 0 (yv a' a)) (yv b' b)) (yv c' c)) (yv d' d)) (yv e' e)) (yv f' f)) (yv g' g)) (yv h' h)) rfl 64 0 rfl;rw[<-e0,show ks.drop 0=ks from rfl,show rs ws [a,b,c,d,e,f,g,h] 0=[a,b,c,d,e,f,g,h] from rfl,ZhP] at hr
  rw[hr];unfold ZkU;generalize rs ws [a,b,c,d,e,f,g,h] 64=q,ZuF (ws:=ws) hv 64=hq
  match q,hq with
  |[a',b',c',d',e',f',g',h'],_=>
   rw[ZhP];simp only[List.zipWith_cons_cons,List.zipWith_nil_right,ZAx,cat];rfl
theorem Zoj(x:Nat)(l:yL Nat)(n:Nat):pk (x::l) n=pk l (n*256+x):=by
 show VJ (yv (Nat.mul n 256) x) (pk l)=_;rw[Y7];rfl
def Y3:yL Nat->yL Nat
 |a::b::c::d::r=>(((a*256+b)*256+c)*256+d)::Y3 r
 |_=>[]
theorem ZwR:∀(m:Nat)(l:yL Nat)(n:Nat),l.length=4*m->pk l n=pw n (Y3 l)
 |0,[],n,_=>rfl
 |0,_::_,_,h=>by simp at h
 |m+1,[],_,h=>by simp at h
 |m+1,[_],_,h=>by simp at h;omega
 |m+1,[_,_],_,h=>by simp at h;omega
 |m+1,[_,_,_],_,h=>by simp at h;omega
 |m+1,a::b::c::d::r,n,h=>by
  rw[Zoj,Zoj,Zoj,Zoj,Y3];rw[ZwR m r _ (by simp at h;omega),ZAx];have e:(((n*256+a)*256+b)*256+c)*256+d=n*4294967296+(((a*256+b)*256+c)*256+d):=by omega
  rw[e]
theorem Zna:∀(m:Nat)(l:yL Nat),l.length=4*m->(Y3 l).length=m
 |0,[],_=>rfl
 |0,_::_,h=>by simp at h
 |m+1,[],h=>by simp at h
 |m+1,[_],h=>by simp at h;omega
 |m+1,[_,_],h=>by simp at h;omega
 |m+1,[_,_,_],h=>by simp at h;omega
 |m+1,a::b::c::d::r,h=>by
  rw[Y3,yaf,Zna m r (by simp at h;omega)]
theorem Zp4:∀(m:Nat)(l:yL Nat),l.length=4*m->(∀x,x∈l->x < 256)->∀x,x∈Y3 l->x < 4294967296
 |0,[],_,_,x,hx=>by simp[Y3] at hx
 |0,_::_,h,_,_,_=>by simp at h
 |m+1,[],h,_,_,_=>by simp at h
 |m+1,[_],h,_,_,_=>by simp at h;omega
 |m+1,[_,_],h,_,_,_=>by simp at h;omega
 |m+1,[_,_,_],h,_,_,_=>by simp at h;omega
 |m+1,a::b::c::d::r,h,hl,x,hx=>by
  rw[Y3] at hx;have h1:=hl a (by simp);have h2:=hl b (by simp);have h3:=hl c (by simp);have h4:=hl d (by simp);rcases yaz.1 hx with rfl|hx
  ·omega
  ·exact Zp4 m r (by simp at h;omega) (λy hy=>hl y (by simp[hy])) x hx
theorem Znb:∀(i:Nat)(l:yL Nat)(a b c d:Nat),l[4*i]? =some a->l[4*i+1]? =some b->l[4*i+2]? =some c->l[4*i+3]? =some d->(Y3 l)[i]? =some (((a*256+b)*256+c)*256+d)
 |0,[],_,_,_,_,h,_,_,_=>by simp at h
 |0,[_],_,_,_,_,_,h,_,_=>by simp at h
 |0,[_,_],_,_,_,_,_,_,h,_=>by simp at h
 |0,[_,_,_],_,_,_,_,_,_,_,h=>by simp at h
 |0,a::b::c::d::r,_,_,_,_,h1,h2,h3,h4=>by
  simp at h1 h2 h3 h4;subst h1 h2 h3 h4
  rfl
 |i+1,[],_,_,_,_,h,_,_,_=>by simp at h
 |i+1,[_],_,_,_,_,h,_,_,_=>by simp[show 4*(i+1)=4*i+3+1 by omega] at h
 |i+1,[_,_],_,_,_,_,h,_,_,_=>by simp[show 4*(i+1)=4*i+2+1+1 by omega] at h
 |i+1,[_,_,_],_,_,_,_,h,_,_,_=>by simp[show 4*(i+1)=4*i+1+1+1+1 by omega] at h
 |i+1,a::b::c::d::r,_,_,_,_,h1,h2,h3,h4=>by
  rw[Y3,yat]
  exact Znb i r _ _ _ _ (by simpa[show 4*(i+1)=4*i+1+1+1+1 by omega] using h1) (by simpa[show 4*(i+1)+1=4*i+1+1+1+1+1 by omega] using h2)
   (by simpa[show 4*(i+1)+2=4*i+2+1+1+1+1 by omega] using h3) (by simpa[show 4*(i+1)+3=4*i+3+1+1+1+1 by omega] using h4)
def Zeh:Nat->yL Nat->yL Nat->yL Nat
 |0,_,v=>v
 |n+1,l,v=>Zeh n (l.drop 64) (ZkU v (Y3 (l.take 64)))
theorem ZAC:∀(n:Nat)(l v:yL Nat),l.length=64*n->(∀x,x∈l->x < 256)->v.length=8->(∀x,x∈v->x < 4294967296)->ZIk n l (pw 0 v)=pw 0 (Zeh n l v)
 |0,l,v,_,_,_,_=>rfl
 |n+1,l,v,h1,h2,h3,h4=>by
  show VJ (ZGh (pw 0 v) (pk (l.take 64) 0)) (ZIk n (l.drop 64))=_;have hl:(l.take 64).length=4*16:=by rw[yag];omega
  rw[Y7,ZwR 16 _ 0 hl,ZGk h3 h4 (Zna 16 _ hl) (Zp4 16 _ hl λx hx=>h2 x (List.mem_of_mem_take hx))];exact ZAC n (l.drop 64) _ (by rw[ybw];omega) (λx hx=>h2 x (List.mem_of_mem_drop hx)) (ZgN h3) ZAB
theorem ZwS:∀(n:Nat)(l v:yL Nat),v.length=8->(Zeh n l v).length=8
 |0,_,_,h=>h
 |n+1,l,v,h=>ZwS n _ _ (ZgN h)
theorem ZAD:∀(n:Nat)(l v:yL Nat),(∀x,x∈v->x < 4294967296)->∀x,x∈Zeh n l v->x < 4294967296
 |0,_,_,h=>h
 |n+1,l,v,h=>ZAD n _ _ ZAB
theorem Zp5:∀(n m:Nat)(l r v:yL Nat),l.length=64*n->Zeh (n+m) (l++r) v=Zeh m r (Zeh n l v)
 |0,m,l,r,v,h=>by
  have:l=[]:=List.length_eq_zero_iff.1 (by omega);subst this;rw[ybe]
  rfl
 |n+1,m,l,r,v,h=>by
  rw[show n+1+m=(n+m)+1 by omega,Zeh,List.drop_append_of_le_length (by omega),List.take_append_of_le_length (by omega),Zp5 n m _ r _ (by rw[ybw];omega)];rfl
theorem Zme:∀(c:Nat)(l v:yL Nat),Zeh (c+1) l v=ZkU (Zeh c l v) (Y3 ((l.drop (64*c)).take 64))
 |0,l,v=>by rw[Nat.mul_zero,List.drop_zero];rfl
 |c+1,l,v=>by
  rw[show Zeh (c+1+1) l v=Zeh (c+1) (l.drop 64) (ZkU v (Y3 (l.take 64))) from rfl,Zme c,List.drop_drop,show 64+64*c=64*(c+1) by omega]
  rfl
theorem ZEe(ws:yL Nat){n x:Nat}(hn:n < 16)(h:ws[n]? =some x)(hx:x < 4294967296):wd ws n=x:=by
 rw[wd,dif_pos hn,ycv,h];exact Q4 hx
def ZEf(v:yL Nat)(k:Nat):yB:=yax (v.getD (k / 4) 0 / 2 ^ (24 - 8*(k % 4)))
theorem ZGl{v:yL Nat}(hv:v.length=8)(hlt:∀x,x∈v->x < 4294967296):outs (pw 0 v) Zy4=(List.range 32).map (ZEf v):=by
 have hgo:∀(H:Nat)(l:yL Nat),outs H l=l.map λs=>yax (H / 2 ^ s % 256):=by
  intro H l
  induction l with
  |nil=>rfl
  |cons s r ih=>
   show VJ (Nat.mod (yae H s) 256) (λx=>yax x::outs H r)=_;rw[Y7,ih,yad,show yae H s=H >>> s from rfl,Nat.shiftRight_eq_div_pow]
   rfl
 have hb:∀(l r:yL Nat)(x j s:Nat),v=l++x::r->j<=24->s=32*r.length+j->yax (pw 0 v / 2 ^ s % 256)=yax (x / 2 ^ j):=by
  intro l r x j s e hj hs;have zU:=hlt;rw[e] at zU
  have h1:pw 0 v / 2 ^ (32*r.length)=pw 0 l*4294967296+x:=by
   rw[e,Zy6];exact Zy5 r _ (λy hy=>zU y (by simp[hy]))
  rw[hs,Nat.pow_add, <-Nat.div_div_eq_div_mul,h1]
  have h2:pw 0 l*4294967296+x=2 ^ j*(pw 0 l*2 ^ (24 - j)*256)+x:=by
   rw[show(4294967296:Nat)=2 ^ j*2 ^ (24 - j)*256 by rw[<-Nat.pow_add,show j+(24 - j)=24 by omega]];congr 1;ac_rfl
  rw[h2,Nat.mul_add_div (Nat.two_pow_pos j),ybt (pw 0 l*2 ^ (24 - j)) 256,Nat.mul_add_mod];exact UInt8.toNat_inj.1 (by simp)
 match v,hv with
 |[a,b,c,d,e,f,g,h],_=>
  rw[hgo];simp only[Zy4,yad,List.map_nil]
  rw[hb [] [b,c,d,e,f,g,h] a 24 248 rfl (by omega) rfl,hb [] [b,c,d,e,f,g,h] a 16 240 rfl (by omega) rfl,hb [] [b,c,d,e,f,g,h] a 8 232 rfl (by omega) rfl,hb [] [b,c,d,e,f,g,h] a 0 224 rfl (by omega) rfl,
   hb [a] [c,d,e,f,g,h] b 24 216 rfl (by omega) rfl,hb [a] [c,d,e,f,g,h] b 16 208 rfl (by omega) rfl,hb [a] [c,d,e,f,g,h] b 8 200 rfl (by omega) rfl,hb [a] [c,d,e,f,g,h] b 0 192 rfl (by omega) rfl,
   hb [a,b] [d,e,f,g,h] c 24 184 rfl (by omega) rfl,hb [a,b] [d,e,f,g,h] c 16 176 rfl (by omega) rfl,hb [a,b] [d,e,f,g,h] c 8 168 rfl (by omega) rfl,hb [a,b] [d,e,f,g,h] c 0 160 rfl (by omega) rfl,
   hb [a,b,c] [e,f,g,h] d 24 152 rfl (by omega) rfl,hb [a,b,c] [e,f,g,h] d 16 144 rfl (by omega) rfl,hb [a,b,c] [e,f,g,h] d 8 136 rfl (by omega) rfl,hb [a,b,c] [e,f,g,h] d 0 128 rfl (by omega) rfl,
   hb [a,b,c,d] [f,g,h] e 24 120 rfl (by omega) rfl,hb [a,b,c,d] [f,g,h] e 16 112 rfl (by omega) rfl,hb [a,b,c,d] [f,g,h] e 8 104 rfl (by omega) rfl,hb [a,b,c,d] [f,g,h] e 0 96 rfl (by omega) rfl,
   hb [a,b,c,d,e] [g,h] f 24 88 rfl (by omega) rfl,hb [a,b,c,d,e] [g,h] f 16 80 rfl (by omega) rfl,hb [a,b,c,d,e] [g,h] f 8 72 rfl (by omega) rfl,hb [a,b,c,d,e] [g,h] f 0 64 rfl (by omega) rfl,
   hb [a,b,c,d,e,f] [h] g 24 56 rfl (by omega) rfl,hb [a,b,c,d,e,f] [h] g 16 48 rfl (by omega) rfl,hb [a,b,c,d,e,f] [h] g 8 40 rfl (by omega) rfl,hb [a,b,c,d,e,f] [h] g 0 32 rfl (by omega) rfl,
   hb [a,b,c,d,e,f,g] [] h 24 24 rfl (by omega) rfl,hb [a,b,c,d,e,f,g] [] h 16 16 rfl (by omega) rfl,hb [a,b,c,d,e,f,g] [] h 8 8 rfl (by omega) rfl,hb [a,b,c,d,e,f,g] [] h 0 0 rfl (by omega) rfl]
  rfl
def Ze7(l:yL yB):yL Nat:=l.map ybd++(128::(yx (zs l.length) 0++be8 (8*l.length)))
def Ze8:yL Nat:=[1779033703,3144134277,1013904242,2773480762,1359893119,2600822924,528734635,1541459225]
theorem Zy8(l:yL yB):(Ze7 l).length=64*((l.length+72) / 64):=by
 unfold Ze7;simp only[yo,yy,yaf,ycq,be8,List.length_nil,zs];omega
theorem ZBQ(l:yL yB):∀x,x∈Ze7 l->x < 256:=by
 intro x hx;unfold Ze7 at hx;simp only[List.mem_append,List.mem_map,yaz,List.mem_replicate,be8,ycm,or_false] at hx;rcases hx with⟨y,_,rfl⟩|rfl|⟨_,rfl⟩|h
 ·exact y.toNat_lt
 ·omega
 ·omega
 ·rcases h with h|h|h|h|h|h|h|h <;> rw[h] <;> exact Nat.mod_lt _ (by omega)
theorem ZEg(l:yL yB):sha l=(List.range 32).map (ZEf (Zeh ((l.length+72) / 64) (Ze7 l) Ze8)):=by
 unfold sha
 rw[Y7,Y7,show H0=pw 0 Ze8 from rfl,show l.map ybd++(128::(yx (zs l.length) 0++be8 (8*l.length)))=Ze7 l from rfl,
  show Nat.div (yv l.length 72) 64=(l.length+72) / 64 from rfl]
 have hf:∀x,x∈Ze8->x < 4294967296:=by decide
 rw[ZAC _ _ _ (Zy8 l) (ZBQ l) rfl hf];exact ZGl (ZwS _ _ _ rfl) (ZAD _ _ _ hf)
theorem ZJx(l:yL yB):(sha l).length=32:=by rw[ZEg];simp
end Go.Sha
end
section
set_option maxRecDepth 4000
namespace Go.Proofs.YtpgpjjjoglafdaaGreat
open Go Go.Ev Go.Sha
theorem ZdJ(x:yV)(n k:Nat)(h:n+k=32)(hn:0 < n){z:Int}(hz:((w64 z)&&&31).toNat=k):∃o,ZC yD x z=some o/\o.toNat=lo (yae (dbl x.toNat) n):=by
 refine⟨_,rfl, ?_⟩;have e1:((((w64 z)&&&31).toNat:Int)).toNat=k:=by rw[hz];rfl
 have e2:(32 - ((w64 z)&&&31)).toNat=n:=by
  have h1:((w64 z)&&&31)=yah k:=UInt64.toNat_inj.1 (by rw[hz,ybf];omega);rw[h1,UInt64.toNat_sub,ybf];show(2 ^ 64 - k % 2 ^ 64+32) % 2 ^ 64=n;omega
 rw[e1,show((((32 - ((w64 z)&&&31)).toNat:Nat):Int)).toNat=n by rw[e2];rfl,Nat.min_eq_left (by omega),Nat.min_eq_left (by omega)];exact ZJg x h hn
theorem ZIp{l:yL yB}{a b c d:yB}(ha:l[0]? =some a)(hb:l[1]? =some b)(hc:l[2]? =some c)(hd:l[3]? =some d):∃o,ZbE yD l=some o/\o.toNat=((a.toNat*256+b.toNat)*256+c.toNat)*256+d.toNat:=by
 unfold ZbE;rw[Zkv (i:=0) (by omega) ha,Zkv (i:=1) (by omega) hb,Zkv (i:=2) (by omega) hc,Zkv (i:=3) (by omega) hd];refine⟨_,rfl, ?_⟩;have h1:=a.toNat_lt;have h2:=b.toNat_lt;have h3:=c.toNat_lt;have h4:=d.toNat_lt
 have hs:∀(x:yB)(n:Nat),n<=24->(Zcc (yca x.toNat) n).toNat=x.toNat*2 ^ n:=by
  intro x n hn;have hx:=x.toNat_lt;unfold Zcc;rw[ycr,ycr,yav (a:=x.toNat) (by omega)];refine yav ?_
  calc x.toNat*2 ^ n < 2 ^ 8*2 ^ n:=Nat.mul_lt_mul_of_pos_right hx (Nat.two_pow_pos n)
   _=2 ^ (8+n):=(Nat.pow_add ..).symm
   _<=2 ^ 32:=Nat.pow_le_pow_right (by omega) (by omega)
 rw[ZBP,ZBP,ZBP,hs _ _ (by omega),hs _ _ (by omega),hs _ _ (by omega),ycr,yav (a:=d.toNat) (by omega)]
 have k1:Nat.lor (a.toNat*2 ^ 24) (b.toNat*2 ^ 16)=2 ^ 16*(a.toNat*256+b.toNat):=by
  rw[ybt a.toNat,show Nat.lor (2 ^ 24*a.toNat) (b.toNat*2 ^ 16)=2 ^ 24*a.toNat|||b.toNat*2 ^ 16 from rfl, <-Nat.two_pow_add_eq_or_of_lt (by omega)]
  omega
 have k2:Nat.lor (2 ^ 16*(a.toNat*256+b.toNat)) (c.toNat*2 ^ 8)=2 ^ 8*((a.toNat*256+b.toNat)*256+c.toNat):=by
  rw[show Nat.lor (2 ^ 16*(a.toNat*256+b.toNat)) (c.toNat*2 ^ 8)=2 ^ 16*(a.toNat*256+b.toNat)|||c.toNat*2 ^ 8 from rfl, <-Nat.two_pow_add_eq_or_of_lt (by omega)]
  omega
 rw[k1,k2,show Nat.lor (2 ^ 8*((a.toNat*256+b.toNat)*256+c.toNat)) d.toNat=2 ^ 8*((a.toNat*256+b.toNat)*256+c.toNat)|||d.toNat from rfl, <-Nat.two_pow_add_eq_or_of_lt (by omega)]
 omega
theorem ZEh{l:yL yB}(h:l.length=64):∃o,QG yD l=some o/\o.length=64/\∀(i:Nat)x,i < 64->o[i]? =some x->x.toNat=wd (Y3 (l.map ybd)) i:=by
 unfold QG;generalize hz:([0,0,0,0,0,0,0,0,0,0,0,0,0,0,0,0,0,0,0,0,0,0,0,0,0,0,0,0,0,0,0,0,0,0,0,0,0,0,0,0,0,0,0,0,0,0,0,0,0,0,0,0,0,0,0,0,0,0,0,0,0,0,0,0]:yL yV)=z;have hzl:z.length=64:=by rw[<-hz];rfl
 refine Exists.elim (X4 (step:=WU yD) (λs=>s.1=l/\0<=s.2.1/\s.2.1<=64/\s.2.2.length=64/\∀(j:Nat)x,(j:Int) < s.2.1->s.2.2[j]? =some x->x.toNat=wd (Y3 (l.map ybd)) j) (λs=>(64 - s.2.1).toNat)
  (λo=>o.length=64/\∀(j:Nat)x,j < 64->o[j]? =some x->x.toNat=wd (Y3 (l.map ybd)) j) ?_ (l,(0:Int),z) ⟨rfl,Int.le_refl _,by dsimp only;omega,hzl,λj x hj=>by dsimp only at hj;omega⟩ (by dsimp only;omega)) ?_
 rotate_left
 ·rintro o ⟨h1,h2⟩;exact⟨o,by rw[h1];rfl,h2⟩
 ·rintro⟨b,i,w⟩ ⟨hb,h0,h64,hw,hv⟩;dsimp only at hb h0 h64 hw hv;subst hb;unfold WU;dsimp only
  have hset:∀(y:yV),y.toNat=wd (Y3 (b.map ybd)) i.toNat->i < 64->∀(j:Nat)x,(j:Int) < i+1->(w.set i.toNat y)[j]? =some x->x.toNat=wd (Y3 (b.map ybd)) j:=by
   intro y hy hi j x hj hx;by_cases hji:j=i.toNat
   ·subst hji;rw[ycu (by omega)] at hx;cases hx;exact hy
   ·rw[List.getElem?_set_ne (Ne.symm hji)] at hx;exact hv j x (by omega) hx
  by_cases hi:i < 64
  ·left;rw[yW (yY hi)];obtain⟨e,he⟩:=Zag (l:=w) (i:=i.toNat) (by omega);by_cases h16:i < 16
   ·rw[yW (yY h16),Z1 (z:=4*i) (by omega) (by omega),yW (by simp only[ZcU,yj,yP];omega)];have g:∀k:Nat,k < 4->∃x,b[4*i.toNat+k]? =some x:=λk hk=>Zag (by omega);obtain⟨x0,g0⟩:=g 0 (by omega);obtain⟨x1,g1⟩:=g 1 (by omega);obtain⟨x2,g2⟩:=g 2 (by omega);obtain⟨x3,g3⟩:=g 3 (by omega);have e4:(4*i).toNat=4*i.toNat:=by omega
    obtain⟨o,ho,hoe⟩:=ZIp (l:=b.drop (4*i).toNat) (by rw[List.getElem?_drop,e4];exact g0) (by rw[List.getElem?_drop,e4];exact g1) (by rw[List.getElem?_drop,e4];exact g2) (by rw[List.getElem?_drop,e4];exact g3);rw[ho,ya,yW (YI h0 (by omega)),he,ya,Z1 (z:=i+1) (by omega) (by omega)];refine⟨_,rfl,⟨rfl,by dsimp only;omega,by dsimp only;omega,by dsimp only;rw[ybo];exact hw,hset o ?_ hi⟩,by dsimp only;omega⟩;have mg:∀(k:Nat)(x:yB),b[k]? =some x->(b.map ybd)[k]? =some x.toNat:=λk x hx=>by rw[yak,hx];rfl
    have hwg:=Znb i.toNat (b.map ybd) _ _ _ _ (mg _ _ g0) (mg _ _ g1) (mg _ _ g2) (mg _ _ g3);rw[hoe];have b0:=x0.toNat_lt;have b1:=x1.toNat_lt;have b2:=x2.toNat_lt;have b3:=x3.toNat_lt;exact(ZEe _ (by omega) hwg (by omega)).symm
   ·rw[yX (by simpa using h16)];rw[Z1 (z:=i - 15) (by omega) (by omega),Z1 (z:=i - 2) (by omega) (by omega),Z1 (z:=i - 16) (by omega) (by omega),Z1 (z:=i - 7) (by omega) (by omega),Z1 (z:=i+1) (by omega) (by omega)];obtain⟨e1,he1⟩:=Zag (l:=w) (i:=(i - 15).toNat) (by omega);obtain⟨e2,he2⟩:=Zag (l:=w) (i:=(i - 2).toNat) (by omega);obtain⟨e3,he3⟩:=Zag (l:=w) (i:=(i - 16).toNat) (by omega);obtain⟨e4,he4⟩:=Zag (l:=w) (i:=(i - 7).toNat) (by omega);have v1:=hv _ _ (by omega) he1;have v2:=hv _ _ (by omega) he2;have v3:=hv _ _ (by omega) he3;have v4:=hv _ _ (by omega) he4;rw[yW (YI (by omega) (by omega)),he1,ya,yW (YI (by omega) (by omega)),he2,ya];obtain⟨o1,ho1,p1⟩:=ZdJ e1 7 25 rfl (by omega) (z:= -7) rfl;obtain⟨o2,ho2,p2⟩:=ZdJ e1 18 14 rfl (by omega) (z:= -18) rfl;obtain⟨o3,ho3,p3⟩:=ZdJ e2 17 15 rfl (by omega) (z:= -17) rfl;obtain⟨o4,ho4,p4⟩:=ZdJ e2 19 13 rfl (by omega) (z:= -19) rfl;rw[ho1,ya,ho2,ya,ho3,ya,ho4,ya];rw[yW (YI (by omega) (by omega)),he3,ya,yW (YI (by omega) (by omega)),he4,ya]
    try dsimp only
    rw[yW (YI h0 (by omega)),he,ya];refine⟨_,rfl,⟨rfl,by dsimp only;omega,by dsimp only;omega,by dsimp only;rw[ybo];exact hw,hset _ ?_ hi⟩,by dsimp only;omega⟩;have hn:=ZAy (Y3 (b.map ybd)) (i - 16).toNat
    rw[show(i - 16).toNat+16=i.toNat by omega,show(i - 16).toNat+1=(i - 15).toNat by omega,show(i - 16).toNat+9=(i - 7).toNat by omega,show(i - 16).toNat+14=(i - 2).toNat by omega, <-v1, <-v2, <-v3, <-v4] at hn;rw[hn];rw[ZgL,ZgL,ZgL,ZJD e1 p1 p2,ZJE e2 p3 p4];exact ZJJ ..
  ·right;rw[yX (by simpa using hi)];exact⟨_,rfl,hw,λj x hj hx=>hv j x (by omega) hx⟩
theorem ZEi{st:yL yV}{l:yL yB}(hs:st.length=8)(h:l.length=64):∃o,WD yD st l=some o/\o.map ybg=ZkU (st.map ybg) (Y3 (l.map ybd)):=by
 unfold WD;obtain⟨w,hw,hwl,hwv⟩:=ZEh h;obtain⟨k,hk,hkv⟩:∃k,ZgI yD=some k/\k.map ybg=ks:=⟨_,rfl,rfl⟩;have hkl:k.length=64:=by rw[<-yy (f:=ybg),hkv];rfl
 generalize hws:Y3 (l.map ybd)=ws at hwv;rw[hw,ya,hk,ya]
 refine Exists.elim (X4 (step:=Wt yD) (λs=>0<=s.1/\s.1<=64/\s.2.1=st/\s.2.2.2.1=w/\s.2.2.2.2.1=k/\s.2.2.2.2.2.length=8/\s.2.2.2.2.2.map ybg=rs ws (st.map ybg) s.1.toNat) (λs=>(64 - s.1).toNat)
  (λo=>o.1=st/\o.2.2.2.2.length=8/\o.2.2.2.2.map ybg=rs ws (st.map ybg) 64) ?_ ((0:Int),st,([0,0,0,0,0,0,0,0]:yL yV),w,k,st) ⟨Int.le_refl _,by dsimp only;omega,rfl,rfl,rfl,hs,rfl⟩ (by dsimp only;omega)) ?_
 rotate_left
 ·rintro o ⟨h1,p0,p1,p2⟩;rw[h1,ya];have hml:(ZkU (st.map ybg) ws).length=8:=ZgN (by rw[yy];exact hs)
  refine Exists.elim (X4 (step:=Wu yD) (λs=>0<=s.1/\s.1<=8/\s.2.1=st/\s.2.2.2.2.2.length=8/\(∀(j:Nat)x,s.2.2.2.2.2[j]? =some x->if(j:Int) < s.1 then(ZkU (st.map ybg) ws)[j]? =some x.toNat else(rs ws (st.map ybg) 64)[j]? =some x.toNat)) (λs=>(8 - s.1).toNat)
   (λo=>o.2.2.2.2.map ybg=ZkU (st.map ybg) ws) ?_ ((0:Int),o.1,o.2.1,o.2.2.1,o.2.2.2.1,o.2.2.2.2) ⟨Int.le_refl _,by dsimp only;omega,p0,p1,λj x hx=>by
     dsimp only at hx ⊢;rw[yX (by omega), <-p2,yak,hx];rfl⟩ (by dsimp only;omega)) ?_
  rotate_left
  ·rintro q ⟨h2,q2⟩;rw[h2,ya];exact⟨_,rfl,q2⟩
  ·rintro⟨i,a,b,c,d,e⟩ ⟨h0,h8,ha,he,hv⟩;dsimp only at h0 h8 ha he hv;subst ha;unfold Wu;dsimp only;by_cases hi:i < 8
   ·left;obtain⟨e1,he1⟩:=Zag (l:=e) (i:=i.toNat) (by omega);obtain⟨e2,he2⟩:=Zag (l:=a) (i:=i.toNat) (by omega);simp only[yY hi,if_true,YI h0 (show i < ((8:Nat):Int) by omega),he1,he2,ya];rw[Z1 (z:=i+1) (by omega) (by omega)];refine⟨_,rfl,⟨by dsimp only;omega,by dsimp only;omega,rfl,by dsimp only;rw[ybo];exact he, ?_⟩,by dsimp only;omega⟩;intro j x hx;dsimp only at hx ⊢;by_cases hji:j=i.toNat
    ·subst hji;rw[ycu (by omega)] at hx;cases hx;rw[yW (by omega),ZgL];have k1:=hv _ _ he1;rw[yX (by omega)] at k1;unfold ZkU;rw[List.getElem?_zipWith,k1,yak,he2];rfl
    ·rw[List.getElem?_set_ne (Ne.symm hji)] at hx;have k1:=hv j x hx;by_cases hj:(j:Int) < i
     ·rw[yW hj] at k1;rw[yW (by omega)];exact k1
     ·rw[yX hj] at k1;rw[yX (by omega)];exact k1
   ·right;rw[yX (by simpa using hi)];refine⟨_,rfl, ?_⟩;dsimp only;apply List.ext_getElem?;intro j;rw[yak];by_cases hj:j < 8
    ·obtain⟨x,hx⟩:=Zag (l:=e) (i:=j) (by omega);have:=hv j x hx;rw[yW (by omega)] at this;rw[hx,this];rfl
    ·rw[yar (by omega),yar (by omega)];rfl
 ·rintro⟨i,a,b,c,d,e⟩ ⟨h0,h64,ha,hc,hd,he,hv⟩;dsimp only at h0 h64 ha hc hd he hv;subst ha hc hd;unfold Wt;dsimp only;by_cases hi:i < 64
  ·left
   match e,he,hv with
   |[x0,x1,x2,x3,x4,x5,x6,x7],_,hv=>
    obtain⟨e1,he1⟩:=Zag (l:=d) (i:=i.toNat) (by omega);obtain⟨e2,he2⟩:=Zag (l:=c) (i:=i.toNat) (by omega);obtain⟨o1,ho1,p1⟩:=ZdJ x4 6 26 rfl (by omega) (z:= -6) rfl;obtain⟨o2,ho2,p2⟩:=ZdJ x4 11 21 rfl (by omega) (z:= -11) rfl;obtain⟨o3,ho3,p3⟩:=ZdJ x4 25 7 rfl (by omega) (z:= -25) rfl;obtain⟨o4,ho4,p4⟩:=ZdJ x0 2 30 rfl (by omega) (z:= -2) rfl;obtain⟨o5,ho5,p5⟩:=ZdJ x0 13 19 rfl (by omega) (z:= -13) rfl;obtain⟨o6,ho6,p6⟩:=ZdJ x0 22 10 rfl (by omega) (z:= -22) rfl;generalize ZC yD=R at ho1 ho2 ho3 ho4 ho5 ho6 ⊢;rw[yW (yY hi)];simp only[List.getElem?_cons_zero,yat];rw[ya,ho1,ya,ya,ho2,ya,ya,ho3,ya,ya,ya,ya,ya,ya];rw[yW (YI h0 (show i < ((64:Nat):Int) by omega)),he1,ya,yW (YI h0 (show i < ((64:Nat):Int) by omega)),he2,ya,ya,ho4,ya,ya,ho5,ya,ya,ho6];rw[ya,ya,ya,ya,ya,ya];rw[ya,ya,ya,ya,ya,ya,ya];rw[Z1 (z:=i+1) (by omega) (by omega)];refine⟨_,rfl,⟨by dsimp only;omega,by dsimp only;omega,rfl,rfl,rfl,rfl, ?_⟩,by dsimp only;omega⟩;dsimp only;rw[show(i+1).toNat=i.toNat+1 by omega,show rs ws (a.map ybg) (i.toNat+1)=rnd (rs ws (a.map ybg) i.toNat) (ks.getD i.toNat 0) (wd ws i.toNat) from rfl, <-hv]
    have hk1:ks.getD i.toNat 0=e1.toNat:=by
     rw[<-hkv,ycv,yak,he1];rfl
    rw[hk1, <-hwv i.toNat e2 (by omega) he2];simp only[yad,List.map_nil];rw[ZwQ]
    have kt:((x7+((o1^^^o2)^^^o3))+(x6^^^(x4&&&(x5^^^x6)))+e1+e2).toNat=lo (yv (yv (yv (yv x7.toNat (S1 x4.toNat)) (ch x4.toNat x5.toNat x6.toNat)) e1.toNat) e2.toNat):=by
     rw[ZgL,ZgL,ZgL,ZgL,ZJG x4 p1 p2 p3,ZJH];exact ZJK ..
    have ka:((x7+((o1^^^o2)^^^o3))+(x6^^^(x4&&&(x5^^^x6)))+e1+e2+((o4^^^o5)^^^o6)+((x0&&&x1)|||(x2&&&(x0|||x1)))).toNat=lo (yv (yv (yv (yv (yv (yv x7.toNat (S1 x4.toNat)) (ch x4.toNat x5.toNat x6.toNat)) e1.toNat) e2.toNat) (S0 x0.toNat)) (mj x0.toNat x1.toNat x2.toNat)):=by
     rw[ZgL,ZgL,kt,ZJF x0 p4 p5 p6,ZJI];exact ZJL ..
    have ke:(x3+(((x7+((o1^^^o2)^^^o3))+(x6^^^(x4&&&(x5^^^x6))))+e1+e2)).toNat=lo (yv x3.toNat (yv (yv (yv (yv x7.toNat (S1 x4.toNat)) (ch x4.toNat x5.toNat x6.toNat)) e1.toNat) e2.toNat)):=by
     rw[ZgL,kt];exact ZJM ..
    rw[ka,ke]
  ·right;rw[yX (by simpa using hi)];have e64:i=64:=by omega
   subst e64;exact⟨_,rfl,rfl,he,hv⟩
def XW(n:Nat):yL yB:=(be8 n).map yax
theorem ZuG{n:Nat}{b:yL yB}(h:b.length<=1000000000000):XV yD (n:Int) b=some (b++XW n):=by
 unfold XV
 obtain⟨o,h1,h2⟩:=X4 (step:=Vm yD) (λs=>∃k:Nat,k<=8/\s.1=(n:Int)/\s.2.1=56 - 8*(k:Int)/\s.2.2.1=b++(XW n).take k) (λs=>(s.2.1+8).toNat) (λo=>o.1=b++XW n) (by
  rintro⟨a,i,c,d⟩ ⟨k,hk,ha,hi,hc⟩;dsimp only at ha hi hc;subst ha;unfold Vm;dsimp only;have hcl:c.length<=b.length+8:=by rw[hc,yo,yag];omega
  by_cases h0:i >= 0
  ·left;rw[yW (yY h0),yW (yY h0),yW (Yi (by omega) (by omega)),Z1 (z:=i - 8) (by omega) (by omega)];refine⟨_,rfl,⟨k+1,by omega,rfl,by dsimp only;omega, ?_⟩,by dsimp only;omega⟩;dsimp only
   have hw:∀m:Nat,w8 (Int.fdiv (n:Int) (2 ^ m))=yax (n / 2 ^ m % 256):=by
    intro m;unfold w8;rw[Int.fdiv_eq_ediv_of_nonneg _ (by exact Int.le_of_lt (Int.pow_pos (by omega)))];congr 1
   have hmin:min i.toNat 64=56 - 8*k:=by omega
   rw[hmin,hw,hc,yac];congr 1;have hk8:k < 8:=by omega
   match k,hk8 with
   |0,_=>rfl
   |1,_=>rfl
   |2,_=>rfl
   |3,_=>rfl
   |4,_=>rfl
   |5,_=>rfl
   |6,_=>rfl
   |7,_=>
    show _++[yax (n / 2 ^ 0 % 256)]=_;rw[Nat.pow_zero,Nat.div_one];rfl
  ·right;rw[yX (by simpa using h0)];have hk8:k=8:=by omega
   subst hk8;exact⟨_,rfl,hc⟩) (((n:Int),(56:Int),b,([]:yL yB))) ⟨0,by omega,rfl,by simp,by simp⟩ (by dsimp only;omega)
 rw[h1,ya,h2]
theorem ZIq{l:yL yB}(h:l.length<=4294967296):Zcs yD l=some (sha l):=by
 unfold Zcs
 have hm:Int.tmod (l.length:Int) 64=((l.length % 64:Nat):Int):=by
  rw[Int.tmod_eq_emod_of_nonneg (by omega)];omega
 have hlt:l.length % 64 < 64:=Nat.mod_lt _ (by omega);have hle:l.length % 64<=l.length:=Nat.mod_le _ _;rw[hm,Z1 (z:=(l.length:Int) - ((l.length % 64:Nat):Int)) (by omega) (by omega)];dsimp only;rw[yW (by simp only[ZcU,yj,yP];omega)];have hq:((l.length:Int) - ((l.length % 64:Nat):Int)).toNat=64*(l.length / 64):=by omega
 rw[hq]
 have hdl:(l.drop (64*(l.length / 64))).length=l.length % 64:=by
  rw[ybw];omega
 generalize ht:l.drop (64*(l.length / 64))=t at hdl
 have hcl:ZY yD t=some t:=by
  unfold ZY;rw[yW (Yi (by omega) (by omega))]
 rw[hcl,ya,yW (Yi (by omega) (by omega))];generalize hz:yzz=z;have hzl:z.length=32:=by rw[<-hz];rfl
 have hzs:zs l.length=(119 - t.length) % 64:=by unfold zs;rw[hdl]
 obtain⟨o,h1,p1,p2,p3⟩:=X4 (step:=Zay yD) (λs=>s.1=l/\s.2.1=z/\∃j,j<=zs l.length/\s.2.2=t++([128]:yL yB)++yx j 0) (λs=>184 - s.2.2.length)
  (λo=>o.1=l/\o.2.1=z/\o.2.2=t++([128]:yL yB)++yx (zs l.length) 0) (by
  rintro⟨a,b,c⟩ ⟨k1,k2,j,k3,k4⟩;dsimp only at k1 k2 k3 k4;have hcl:c.length=t.length+1+j:=by rw[k4,yo,yo,ycq];rfl
  unfold Zay;dsimp only
  have hm:Int.tmod (c.length:Int) 64=((c.length % 64:Nat):Int):=by
   rw[Int.tmod_eq_emod_of_nonneg (by omega)];omega
  rw[hm];by_cases hi:c.length % 64=56
  ·right;rw[yX (by simp;omega)];have:j=zs l.length:=by omega
   subst this;exact⟨_,rfl,k1,k2,k4⟩
  ·left;rw[yW (by simp;omega),yW (Yi (by omega) (by omega))];have hj:j≠zs l.length:=λe=>hi (by omega);refine⟨_,rfl,⟨k1,k2,j+1,by omega, ?_⟩, ?_⟩
   ·dsimp only;rw[k4,yac,List.replicate_succ',yac]
   ·dsimp only;rw[yo,List.length_singleton];omega) (l,z,t++([128]:yL yB)) ⟨rfl,rfl,0,Nat.zero_le _,by simp⟩ (by dsimp only;omega)
 rw[h1,ya,p1,p2,p3,Z1 (z:=8*(l.length:Int)) (by omega) (by omega),show 8*(l.length:Int)=((8*l.length:Nat):Int) by omega,ZuG (by
  rw[yo,yo,ycq];simp;omega),ya]
 obtain⟨f,hf,hfl⟩:∃f,ZgG yD=some f/\f.map ybg=Ze8:=⟨_,rfl,rfl⟩;have hf8:f.length=8:=by rw[<-yy (f:=ybg),hfl];rfl
 rw[hf,ya];generalize hE:t++([128]:yL yB)++yx (zs l.length) 0++XW (8*l.length)=E
 have hEl:E.length=64*((t.length+72) / 64):=by
  rw[<-hE];simp only[yo,ycq,List.length_singleton,XW,yy,be8,yaf,List.length_nil];omega
 obtain⟨o3,h3,r1,r2,r3,r4⟩:=X4 (step:=Zaz yD) (λs=>s.2.1=z/\s.2.2.1=E/\s.2.2.2.length=8/\∃c,c<=l.length / 64/\s.1=l.drop (64*c)/\s.2.2.2.map ybg=Zeh c (l.map ybd) Ze8) (λs=>s.1.length)
  (λx=>x.1=z/\x.2.1=E/\x.2.2.length=8/\x.2.2.map ybg=Zeh (l.length / 64) (l.map ybd) Ze8) (by
  rintro⟨a,b,c,d⟩ ⟨k1,k2,k3,j,k4,k5,k6⟩;dsimp only at k1 k2 k3 k4 k5 k6;have hal:a.length=l.length - 64*j:=by rw[k5,ybw]
  unfold Zaz;dsimp only;by_cases hi:(a.length:Int) >= 64
  ·left;obtain⟨m,hm1,hm2⟩:=ZEi (st:=d) (l:=a.take 64) k3 (by rw[yag];omega);rw[yW (yY hi),yW (by simp only[ZcU,yj,yP];omega),hm1,ya,yW (by simp only[ZcU,yj,yP];omega)];refine⟨_,rfl,⟨k1,k2, ?_,j+1,by omega, ?_, ?_⟩,by dsimp only;rw[ybw];omega⟩
   ·dsimp only;rw[<-yy (f:=ybg),hm2];exact ZgN (by rw[yy];exact k3)
   ·dsimp only;rw[k5,List.drop_drop];congr 1
   ·dsimp only;rw[hm2,Zme,k6,k5,List.map_take,List.map_drop]
  ·right;rw[yX (by simpa using hi)];have:j=l.length / 64:=by omega
   subst this;exact⟨_,rfl,k1,k2,k3,k6⟩) (l,z,E,f) ⟨rfl,rfl,hf8,0,Nat.zero_le _,by simp,hfl⟩ (by dsimp only;omega)
 rw[h3,ya,r1,r2];generalize hv1:Zeh (l.length / 64) (l.map ybd) Ze8=v1 at r4
 obtain⟨o4,h4,s1,s2,s3⟩:=X4 (step:=ZaA yD) (λs=>s.2.1=z/\s.2.2.2.length=8/\∃c,c<=E.length / 64/\s.1=E.drop (64*c)/\s.2.2.2.map ybg=Zeh c (E.map ybd) v1) (λs=>s.1.length)
  (λx=>x.1=z/\x.2.2.length=8/\x.2.2.map ybg=Zeh (E.length / 64) (E.map ybd) v1) (by
  rintro⟨a,b,c,d⟩ ⟨k1,k3,j,k4,k5,k6⟩;dsimp only at k1 k3 k4 k5 k6;have hal:a.length=E.length - 64*j:=by rw[k5,ybw]
  unfold ZaA;dsimp only;by_cases hi:(a.length:Int) > 0
  ·left;obtain⟨m,hm1,hm2⟩:=ZEi (st:=d) (l:=a.take 64) k3 (by rw[yag];omega);rw[yW (yY hi),yW (by simp only[ZcU,yj,yP];omega),hm1,ya,yW (by simp only[ZcU,yj,yP];omega)];refine⟨_,rfl,⟨k1, ?_,j+1,by omega, ?_, ?_⟩,by dsimp only;rw[ybw];omega⟩
   ·dsimp only;rw[<-yy (f:=ybg),hm2];exact ZgN (by rw[yy];exact k3)
   ·dsimp only;rw[k5,List.drop_drop];congr 1
   ·dsimp only;rw[hm2,Zme,k6,k5,List.map_take,List.map_drop]
  ·right;rw[yX (by simpa using hi)];have:j=E.length / 64:=by omega
   subst this;exact⟨_,rfl,k1,k3,k6⟩) (E,z,E,o3.2.2) ⟨rfl,r3,0,Nat.zero_le _,by simp,r4⟩ (by dsimp only;omega)
 rw[h4,ya];generalize hv2:Zeh (E.length / 64) (E.map ybd) v1=v2 at s3
 obtain⟨o5,h5,t1,t2⟩:=X4 (step:=ZaB yD) (λs=>0<=s.1/\s.1<=32/\s.2.1.length=32/\s.2.2.2=o4.2.2/\∀(j:Nat),(j:Int) < s.1->s.2.1[j]? =some (Go.Sha.ZEf v2 j)) (λs=>(32 - s.1).toNat)
  (λx=>x.1.length=32/\∀(j:Nat),j < 32->x.1[j]? =some (Go.Sha.ZEf v2 j)) (by
  rintro⟨i,a,b,c⟩ ⟨h0,h32,ha,hc,hv⟩;dsimp only at h0 h32 ha hc hv;subst hc;unfold ZaB;dsimp only;by_cases hi:i < 32
  ·left;rw[yW (yY hi)];have e1:Int.tdiv i 4=i / 4:=Int.tdiv_eq_ediv_of_nonneg h0;have e2:Int.tmod i 4=i % 4:=Int.tmod_eq_emod_of_nonneg h0;rw[e1,e2,Z1 (z:=i / 4) (by omega) (by omega),Z1 (z:=8*(i % 4)) (by omega) (by omega),Z1 (z:=24 - 8*(i % 4)) (by omega) (by omega),Z1 (z:=i+1) (by omega) (by omega)];obtain⟨x1,hx1⟩:=Zag (l:=o4.2.2) (i:=(i / 4).toNat) (by omega);obtain⟨x2,hx2⟩:=Zag (l:=a) (i:=i.toNat) (by omega);rw[yW (YI (by omega) (by omega)),hx1,ya,yW (yY (by omega))]
   try dsimp only
   rw[yW (YI (by omega) (by omega)),hx2,ya];refine⟨_,rfl,⟨by dsimp only;omega,by dsimp only;omega,by dsimp only;rw[ybo];exact ha,rfl, ?_⟩,by dsimp only;omega⟩;intro j hj;dsimp only at hj ⊢;by_cases hji:j=i.toNat
   ·subst hji;rw[ycu (by omega)];congr 1;unfold Go.Sha.ZEf
    have hx:v2.getD (i.toNat / 4) 0=x1.toNat:=by
     rw[<-s3,ycv,yak,show i.toNat / 4=(i / 4).toNat by omega,hx1];rfl
    rw[hx,show min (24 - 8*(i % 4)).toNat 32=24 - 8*(i.toNat % 4) by omega,ZwP];unfold w8;have e3:∀m:Nat,(((m:Nat):Int) % 256).toNat=m % 256:=λm=>by omega
    rw[e3,show yae x1.toNat (24 - 8*(i.toNat % 4))=x1.toNat >>> (24 - 8*(i.toNat % 4)) from rfl,Nat.shiftRight_eq_div_pow]
    exact UInt8.toNat_inj.1 (by simp)
   ·rw[List.getElem?_set_ne (Ne.symm hji)];exact hv j (by omega)
  ·right;rw[yX (by simpa using hi)];exact⟨_,rfl,ha,λj hj=>hv j (by omega)⟩) ((0:Int),o4.1,o4.2.1,o4.2.2) ⟨Int.le_refl _,by dsimp only;omega,by dsimp only;rw[s1];exact hzl,rfl,λj hj=>by dsimp only at hj;omega⟩ (by dsimp only;omega)
 rw[h5,ya,ZEg];congr 1
 have hpad:Ze7 l=(l.take (64*(l.length / 64))).map ybd++E.map ybd:=by
  unfold Ze7;rw[<-hE, <-ht];simp only[yai,List.map_replicate,yad,List.map_nil,XW,List.map_map];rw[<-yac, <-yac, <-yac, <-yai,ybh]
  have:be8 (8*l.length)=(be8 (8*l.length)).map (ybd ∘ yax):=by
   simp[be8]
  rw[<-this];simp
 have hw:((l.take (64*(l.length / 64))).map ybd).length=64*(l.length / 64):=by
  rw[yy,yag];omega
 have hv:v2=Zeh ((l.length+72) / 64) (Ze7 l) Ze8:=by
  rw[hpad,show(l.length+72) / 64=l.length / 64+E.length / 64 by omega,Zp5 _ _ _ _ _ hw, <-hv2, <-hv1];congr 1;have:=Zp5 (l.length / 64) 0 _ ((l.drop (64*(l.length / 64))).map ybd) Ze8 hw;rw[<-yai,ybh,Nat.add_zero] at this;exact this
 rw[<-hv];apply List.ext_getElem?;intro j;by_cases hj:j < 32
 ·rw[t2 j hj,yak,List.getElem?_range hj];rfl
 ·rw[yar (by omega),yar (by simp;omega)]
noncomputable def Zei(F:Nat)(a0:yL yB):yO (yL yB):=if decide (a0.length<=4294967296)=true then some (sha a0) else Zcs F a0
noncomputable def ZwT(F:Nat):Fs yb:={ Ze6 F with M:=λx=>Zei F x}
noncomputable def Zp6:Fs yb:=ZwT yD
theorem ZwU:Zp6.Ok:=Zur (s:=Ze6 yD) ZuE λx=>by
 show Zei yD x=Zcs yD x;unfold Zei;split
 ·rename_i h;exact(ZIq (yF h)).symm
 ·rfl
theorem ZGm{l:yL yB}(h:l.length<=4294967296):Zei yD l=some (sha l):=yW (yY h)
end Go.Proofs.YtpgpjjjoglafdaaGreat
end
section
set_option maxRecDepth 4000
namespace Go.Proofs.YtpgpjjjoglafdaaGreat
open Go Go.Ev
noncomputable section
def ZkV(F:Nat):Fs yb:=⟨114,[.nil .u8,.v yI],[],[yI],(Za9 F).xs,λx=>(Za9 F).M (x,([]:yL yB))⟩
def Zej:Fs yb:=ZkV yD
theorem ZkW:Zej.Ok:=ZHZ (i1:=[yI]) (i2:=[yI,(.sl .u8)]) (λx=>(x,([]:yL yB))) Zba (λ_=>rfl) (λ_=>⟨_,rfl⟩)
def Vn(F:Nat)(s:((yL (yL yB))×Int×Int×(yL yB)×(yL yB))):yO (((yL (yL yB))×Int×Int×(yL yB)×(yL yB))⊕((yL yB)×(yL yB))):=
 if(decide (s.2.2.1 < s.2.1))=true then
  (idx s.1 s.2.2.1).bind λe211=>
  (XV F (e211.length:Int) s.2.2.2.2).bind λo212=>
  if(apB o212.length e211.length 1)=true then
   some (.inl (s.1,s.2.1,wi (s.2.2.1+1),s.2.2.2.1,o212++e211))
  else
  none
 else
 some (.inr (s.2.2.2.1,s.2.2.2.2))
def Znc:Lp:=⟨[(4,.ref 0 []),(5,.own 1 .u8),(13,.v (.sl (.sl .u8))),(14,.v yI),(15,.v yI)],zI,[(.sl (.sl .u8)),yI,yI,(.arr 32 .u8),(.sl .u8)],[⟨.exit 0,[(4,.ref 0 []),(5,.own 1 .u8)],zI,[(.arr 32 .u8),(.sl .u8)]⟩],Zc (Vn yD) yD⟩
def hi4:HI:={ own:=[5,10,12,19,22,24],still:=[9,19,21,26]}
theorem Zp7:Znc.okA yb 73 0:=ZN hi4 [] [Zcr] ⟨Zba,ytt⟩
def WH(F:Nat)(a0:ByteArray)(a1:(yL (yL yB))):yO ((yL yB)):=
 (XV F (a0.size:Int) []).bind λo210=>
 if(apB o210.length ((ZeT a0).length) 1)=true then
  (Zc (Vn F) F (a1,(a1.length:Int),0,yzz,o210++(ZeT a0))).bind λo213=>
  (Zei F o213.2).bind λo214=>
  some o214
 else
 none
def ZwV(F:Nat):Fs yb:=⟨73,[.v .str,.v (.sl (.sl .u8))],[],[.str,(.sl (.sl .u8))],(zN (.arr 32 .u8)),λx=>WH F x.1 x.2⟩
def W6:Fs yb:=ZwV yD
theorem W7:W6.Ok:=fnO hi4 [(0,Znc)] [Zej,Zp6] ⟨ZkW,ZwU,ytt⟩ ⟨Zp7,ytt⟩
def Wa(F:Nat)(s:(yU×Int×(yL yB))):yO ((yU×Int×(yL yB))⊕(yL yB)):=
 if(decide (s.2.1 < 8))=true then
  if(decide (0<=wi (56 - (wi (8*s.2.1)))))=true then
   let y215:yU:=Zs s.1 (min (wi (56 - (wi (8*s.2.1)))).toNat 64)
   if(inB s.2.1 8)=true then
    (s.2.2[s.2.1.toNat]?).bind λe216=>
    some (.inl (s.1,wi (s.2.1+1),s.2.2.set s.2.1.toNat (w8 (y215.toNat:Int))))
   else
   none
  else
  none
 else
 some (.inr s.2.2)
def Zit:Lp:=⟨[(0,.v .u64),(3,.ref 0 []),(5,.v yI)],[.var (.v (.arr 8 .u8)) true],[.u64,yI,(.arr 8 .u8)],[⟨.exit 0,[(3,.ref 0 [])],[.var (.v (.arr 8 .u8)) true],[(.arr 8 .u8)]⟩],Zc (Wa yD) yD⟩
theorem Zmf:Zit.okA yb 126 0:=ZN { still:=[2]} [] [] trivial
def Zdn(F:Nat)(a0:yU):yO ((yL yB)):=
 (Zc (Wa F) F (a0,0,[0,0,0,0,0,0,0,0])).bind λo217=>
 some ((o217.drop 0).take 8)
def ZrB(F:Nat):Fs yb:=⟨126,[.v .u64],[],[.u64],(zN (.sl .u8)),λx=>Zdn F x⟩
def ZkX:Fs yb:=ZrB yD
theorem ZrC:ZkX.Ok:=fnO { still:=[2]} [(0,Zit)] [] trivial ⟨Zmf,ytt⟩
def XF(F:Nat)(s:(ByteArray×(yL yU)×Int×Int×(yL (yL yB)))):yO ((ByteArray×(yL yU)×Int×Int×(yL (yL yB)))⊕(ByteArray×(yL (yL yB)))):=
 if(decide (s.2.2.2.1 < s.2.2.1))=true then
  (idx s.2.1 s.2.2.2.1).bind λe218=>
  (Zdn F e218).bind λo219=>
  if(apB s.2.2.2.2.length 1 24)=true then
   some (.inl (s.1,s.2.1,s.2.2.1,wi (s.2.2.2.1+1),s.2.2.2.2++([o219]:yL (yL yB))))
  else
  none
 else
 some (.inr (s.1,s.2.2.2.2))
def ZgO:Lp:=⟨[(0,.v .str),(5,.own 0 (.sl .u8)),(8,.v (.sl .u64)),(9,.v yI),(10,.v yI)],[.log (.sl .u8) 118],[.str,(.sl .u64),yI,yI,(.sl (.sl .u8))],[⟨.exit 0,[(0,.v .str),(5,.own 0 (.sl .u8))],[.log (.sl .u8) 118],[.str,(.sl (.sl .u8))]⟩],Zc (XF yD) yD⟩
def hi5:HI:={ own:=[5,14,18],still:=[4,15,20,21,22]}
theorem ZkY:ZgO.okA yb 86 0:=ZN hi5 [] [ZkX] ⟨ZrC,ytt⟩
def Wv(F:Nat)(a0:ByteArray)(a1:(yL yU)):yO (yU):=
 (Zc (XF F) F (a0,a1,(a1.length:Int),0,[])).bind λo220=>
 (WH F o220.1 o220.2).bind λo221=>
 (Wj F o221).bind λo222=>
 some o222
def Zp8(F:Nat):Fs yb:=⟨86,[.v .str,.v (.sl .u64)],[],[.str,(.sl .u64)],(zN .u64),λx=>Wv F x.1 x.2⟩
def ZaC:Fs yb:=Zp8 yD
theorem Zct:ZaC.Ok:=fnO hi5 [(0,ZgO)] [W6,Vl] ⟨W7,VI,ytt⟩ ⟨ZkY,ytt⟩
def ZAE:ByteArray:=⟨#[114,101,118,111,107,101]⟩
def ZbH(F:Nat)(a0:yU)(a1:yU):yO (yU):=
 (Wv F ZAE [a0,a1]).bind λo223=>
 (Vk F a0 o223).bind λo224=>
 (Wv F ZAE [a1,a0]).bind λo225=>
 (Vk F a1 o225).bind λo226=>
 (Zak F o224 o226).bind λo227=>
 some o227
def Zp9(F:Nat):Fs yb:=⟨35,[.v .u64,.v .u64],[],[.u64,.u64],(zN .u64),λx=>ZbH F x.1 x.2⟩
def Ziu:Fs yb:=Zp9 yD
def hi6:HI:={ still:=[4,5,8,9,10,11,14,15,16]}
theorem Zqa:Ziu.Ok:=fnO hi6 [] [ZaC,ZdI,Zdi] ⟨Zct,ZgF,Ze5,ytt⟩
def ZO(F:Nat)(a0:yU):yO (yU):=
 (Vk F 4 a0).bind λo228=>
 some o228
def ZdK(F:Nat):Fs yb:=⟨20,[.v .u64],[],[.u64],(zN .u64),λx=>ZO F x⟩
def Y4:Fs yb:=ZdK yD
theorem YE:Y4.Ok:=fnO { still:=[2,3]} [] [ZdI] ⟨ZgF,ytt⟩
def ZEj:ByteArray:=⟨#[109,105,120]⟩
def ZbV(F:Nat)(a0:yU)(a1:yU):yO (yU):=
 (Wv F ZEj [a1,a0]).bind λo229=>
 (ZO F o229).bind λo230=>
 (Zak F a0 o230).bind λo231=>
 some o231
def ZwW(F:Nat):Fs yb:=⟨36,[.v .u64,.v .u64],[],[.u64,.u64],(zN .u64),λx=>ZbV F x.1 x.2⟩
def Zqb:Fs yb:=ZwW yD
theorem ZwX:Zqb.Ok:=fnO { still:=[4,5,8,9,10]} [] [ZaC,Y4,Zdi] ⟨Zct,YE,Ze5,ytt⟩
def Ww(F:Nat)(a0:Terms)(a1:Int):yO (Bool):=
 some (decide (a1 >= a0.1))
def Zqc(F:Nat):Fs yb:=⟨40,[.v ZdF,.v yI],[],[ZdF,yI],(zN .bool),λx=>Ww F x.1 x.2⟩
def ZdL:Fs yb:=Zqc yD
theorem ZgP:ZdL.Ok:=fnO { still:=[4]} [] [] trivial
def Xr(F:Nat)(s:(Int×(yL Cond)×Int×Int×Chan×yG×(yL Cond))):yO ((Int×(yL Cond)×Int×Int×Chan×yG×(yL Cond))⊕(Chan×yG×(yL Cond))):=
 if(decide (s.2.2.2.1 < s.2.2.1))=true then
  (idx s.2.1 s.2.2.2.1).bind λe232=>
  if(inB s.1 2)=true then
   (s.2.2.2.2.1.2.2.2.1[s.1.toNat]?).bind λe233=>
   (Ww F e233 e232.2.2.1).bind λo234=>
   if o234=true then
    if(apB s.2.2.2.2.2.2.length 1 40)=true then
     some (.inl (s.1,s.2.1,s.2.2.1,wi (s.2.2.2.1+1),s.2.2.2.2.1,s.2.2.2.2.2.1,s.2.2.2.2.2.2++([e232]:yL Cond)))
    else
    none
   else
   some (.inl (s.1,s.2.1,s.2.2.1,wi (s.2.2.2.1+1),s.2.2.2.2.1,s.2.2.2.2.2.1,s.2.2.2.2.2.2))
  else
  none
 else
 some (.inr (s.2.2.2.2.1,s.2.2.2.2.2.1,s.2.2.2.2.2.2))
def ZfH:Lp:=⟨[(2,.v yI),(3,.ref 0 []),(7,.own 2 Wi),(11,.v (.sl Wi)),(12,.v yI),(13,.v yI)],[.var (.v ZJ) true,.var (.v Zq) true,.log Wi 66],[yI,(.sl Wi),yI,yI,ZJ,Zq,(.sl Wi)],[⟨.exit 0,[(7,.own 2 Wi)],[.var (.v ZJ) true,.var (.v Zq) true,.log Wi 66],[ZJ,Zq,(.sl Wi)]⟩],Zc (Xr yD) yD⟩
def hi7:HI:={ own:=[7,24,27],still:=[6,20,22]}
theorem Zjs:ZfH.okA yb 43 0:=ZN hi7 [] [ZdL] ⟨ZgP,ytt⟩
def Xo(F:Nat)(a0:Chan)(a1:yG)(a2:Int):yO ((yL Cond)):=
 (Zc (Xr F) F (a2,a1.2.2.1,(a1.2.2.1.length:Int),0,a0,a1,[])).bind λo235=>
 some o235.2.2
def ZnO(F:Nat):Fs yb:=⟨43,[.v ZJ,.v Zq,.v yI],[],[ZJ,Zq,yI],(zN (.sl Wi)),λx=>Xo F x.1 x.2.1 x.2.2⟩
def Zcu:Fs yb:=ZnO yD
theorem ZfI:Zcu.Ok:=fnO hi7 [(0,ZfH)] [] trivial ⟨Zjs,ytt⟩
def Vo(F:Nat)(a0:Chan)(a1:yG)(a2:Int)(a3:Int):yO (Int):=
 if(inB a3 2)=true then
  (a1.2.1[a3.toNat]?).bind λe236=>
  if(a3==a0.2.2.2.2)=true then
   (Xo F a0 a1 a2).bind λo237=>
   (Zcq F a1.2.2.2 (o237.length:Int)).bind λo238=>
   some (wi (e236 - (wi (o238+660))))
  else
  some e236
 else
 none
def Zqd(F:Nat):Fs yb:=⟨39,[.v ZJ,.v Zq,.v yI,.v yI],[],[ZJ,Zq,yI,yI],(zN yI),λx=>Vo F x.1 x.2.1 x.2.2.1 x.2.2.2⟩
def Ziv:Fs yb:=Zqd yD
theorem Zqe:Ziv.Ok:=fnO { still:=[8,20,21,22,23,25]} [] [Zcu,ZgB] ⟨ZfI,ZkH,ytt⟩
def Zjt(F:Nat)(a0:yU)(a1:yU)(a2:Int):yO (YD):=
 some [([a1],0,0,0),([a0],0,a2,0)]
def ZuH(F:Nat):Fs yb:=⟨41,[.v .u64,.v .u64,.v yI],[],[.u64,.u64,yI],(zN Xy),λx=>Zjt F x.1 x.2.1 x.2.2⟩
def Znd:Fs yb:=ZuH yD
theorem ZuI:Znd.Ok:=fnO {} [] [] trivial
def Y5(F:Nat)(a0:yU):yO (YD):=
 some [([a0],0,0,0),([],0,16,0)]
def Zqf(F:Nat):Fs yb:=⟨42,[.v .u64],[],[.u64],(zN Xy),λx=>Y5 F x⟩
def Ziw:Fs yb:=Zqf yD
theorem Zqg:Ziw.Ok:=fnO {} [] [] trivial
def Zcv(F:Nat)(a0:(yL yB))(a1:(yL yB)):yO (Int):=
 some (Go.Lib.compareBytes a0 a1)
def Zmg(F:Nat):Fs yb:=⟨48,[.v (.sl .u8),.v (.sl .u8)],[],[(.sl .u8),(.sl .u8)],(zN yI),λx=>Zcv F x.1 x.2⟩
def ZfJ:Fs yb:=Zmg yD
theorem Zmh:ZfJ.Ok:=fnO { still:=[4,5,6]} [] [] trivial
abbrev YY:Ty:=(.st [yI,Xy])
abbrev Out:Type:=(Int×YD)
abbrev ZgQ:Ty:=(.st [yI,Wi])
abbrev QH:Type:=(Int×Cond)
abbrev QH.Cond(x:QH):Cond:=x.2
abbrev Zg:Ty:=(.st [YY,ZgQ,(.arr 32 .u8)])
abbrev Ze:Type:=(Out×QH×(yL yB))
def QI(F:Nat)(a0:Ze)(a1:Ze):yO (Int):=
 (Ye F a0.1.1 a1.1.1).bind λo239=>
 (Zcv F a0.2.2 a1.2.2).bind λo240=>
 (Ye F a0.2.1.1 a1.2.1.1).bind λo241=>
 (Ye F a0.2.1.2.1 a1.2.1.2.1).bind λo242=>
 (Ye F a0.2.1.2.2.1 a1.2.1.2.2.1).bind λo243=>
 (ZaQ F [o239,o240,o241,o242,o243]).bind λo244=>
 some o244
def Zmi(F:Nat):Fs yb:=⟨45,[.v Zg,.v Zg],[],[Zg,Zg],(zN yI),λx=>QI F x.1 x.2⟩
def ZfK:Fs yb:=Zmi yD
def hi8:HI:={ still:=[4,7,10,13,15,19,22,27,31,36,40,42],frz:=[13,15]}
theorem Zmj:ZfK.Ok:=fnO hi8 [] [QC,ZfJ,Ze3] ⟨Zcp,Zmh,Zim,ytt⟩
abbrev ZaS:Ty:=(.st [.u64,.u64])
abbrev Sig:Type:=(yU×yU)
abbrev Zqh:Ty:=(.st [yI,(.sl ZaS),.u64])
abbrev ZbI:Type:=(Int×(yL Sig)×yU)
abbrev ZbI.Branch(x:ZbI):Int:=x.1
abbrev yIn:Ty:=(.st [ZK,Zqh])
abbrev In:Type:=(ZW×ZbI)
abbrev yTx:Ty:=(.st [(.sl yIn),(.sl YY),yI])
abbrev Tx:Type:=((yL In)×(yL Out)×Int)
abbrev Z0:Ty:=(.st [yTx,(.sl ZgQ)])
abbrev Commit:Type:=(Tx×(yL QH))
def WI(F:Nat)(a0:yU):yO (Bool):=
 (Xi F a0).bind λo263=>
 some (!o263)
def ZnP(F:Nat):Fs yb:=⟨104,[.v .u64],[],[.u64],(zN .bool),λx=>WI F x⟩
def Zcw:Fs yb:=ZnP yD
theorem ZfL:Zcw.Ok:=fnO { still:=[2,3]} [] [XU] ⟨X7,ytt⟩
def Yb(F:Nat)(s:((yL yU)×Int×Int)):yO (((yL yU)×Int×Int)⊕(Int⊕Unit)):=
 if(decide (s.2.2 < s.2.1))=true then
  (idx s.1 s.2.2).bind λe262=>
  (WI F e262).bind λo264=>
  if o264=true then
   some (.inr (.inl s.2.2))
  else
  some (.inl (s.1,s.2.1,wi (s.2.2+1)))
 else
 some (.inr (.inr ()))
def Zbi:Lp:=⟨[(0,.v (.sl .u64)),(1,.fn 104 []),(7,.v yI),(8,.v yI)],[],[(.sl .u64),yI,yI],[⟨.ret,[(4,.v yI)],[],[yI]⟩,⟨.exit 0,[],[],[]⟩],Zc (Yb yD) yD⟩
theorem Ze9:Zbi.okA yb 147 0:=ZN { still:=[4,15]} [] [Zcw] ⟨ZfL,ytt⟩
def WV(F:Nat)(a0:(yL yU)):yO (Int):=
 (Zc (Yb F) F (a0,(a0.length:Int),0)).bind λo265=>
 match o265 with
 |.inl o266=>
  some o266
 |.inr o267=>
  some (-1)
def ZhY(F:Nat):Fs yb:=⟨147,[.v (.sl .u64),.fn 104 []],[],[(.sl .u64)],(zN yI),λx=>WV F x⟩
def Zcx:Fs yb:=ZhY yD
theorem ZhZ:Zcx.Ok:=fnO { still:=[4,15]} [(0,Zbi)] [] trivial ⟨Ze9,ytt⟩
def Y9(F:Nat)(a0:(yL yU)):yO (Bool):=
 (WV F a0).bind λo268=>
 some (decide (o268 >= 0))
def Zh0(F:Nat):Fs yb:=⟨105,[.v (.sl .u64),.fn 104 []],[],[(.sl .u64)],(zN .bool),λx=>Y9 F x⟩
def Zcy:Fs yb:=Zh0 yD
theorem Zh1:Zcy.Ok:=fnO { still:=[4,5,6]} [] [Zcx] ⟨ZhZ,ytt⟩
def Wx(F:Nat)(a0:Int):yO (Bool):=
 if(decide (a0 >= 0))=true then
  some (decide (a0<=1048576))
 else
 some false
def Zqi(F:Nat):Fs yb:=⟨106,[.v yI],[],[yI],(zN .bool),λx=>Wx F x⟩
def Zix:Fs yb:=Zqi yD
theorem Zqj:Zix.Ok:=fnO { still:=[2]} [] [] trivial
def Xz(F:Nat)(s:((yL Branch)×Int×Int×YD)):yO (((yL Branch)×Int×Int×YD)⊕((Bool×YD)⊕YD)):=
 if(decide (s.2.2.1 < s.2.1))=true then
  (idx s.1 s.2.2.1).bind λe261=>
  if(decide ((e261.1.length:Int) > 12))=true then
   some (.inr (.inl (false,s.2.2.2)))
  else
  (Y9 F e261.1).bind λo269=>
  if o269=true then
   some (.inr (.inl (false,s.2.2.2)))
  else
  (Wx F e261.2.1).bind λo270=>
  if(!o270)=true then
   some (.inr (.inl (false,s.2.2.2)))
  else
  (Wx F e261.2.2.1).bind λo271=>
  if(!o271)=true then
   some (.inr (.inl (false,s.2.2.2)))
  else
  if(e261.2.2.2 !=0)=true then
   (WI F e261.2.2.2).bind λo272=>
   if o272=true then
    some (.inr (.inl (false,s.2.2.2)))
   else
   some (.inl (s.1,s.2.1,wi (s.2.2.1+1),s.2.2.2))
  else
  some (.inl (s.1,s.2.1,wi (s.2.2.1+1),s.2.2.2))
 else
 some (.inr (.inr s.2.2.2))
def Ziy:Lp:=⟨[(1,.ref 0 []),(3,.fn 104 []),(7,.v (.sl Zp)),(8,.v yI),(9,.v yI)],[.var (.v Xy) true],[(.sl Zp),yI,yI,Xy],[⟨.ret,[(2,.v .bool)],[.var (.v Xy) true],[.bool,Xy]⟩,⟨.exit 0,[(1,.ref 0 [])],[.var (.v Xy) true],[Xy]⟩],Zc (Xz yD) yD⟩
theorem Zmk:Ziy.okA yb 65 0:=ZN { still:=[2,19,20,25,31,42]} [] [Zcy,Zix,Zcw] ⟨Zh1,Zqj,ZfL,ytt⟩
def XM(F:Nat)(a0:YD):yO (Bool):=
 (Zc (Xz F) F (a0,(a0.length:Int),0,a0)).bind λo273=>
 match o273 with
 |.inl o274=>
  some o274.1
 |.inr o275=>
  if(decide ((o275.length:Int) > 0))=true then
   some (decide ((o275.length:Int)<=4))
  else
  some false
def ZdM(F:Nat):Fs yb:=⟨65,[.v Xy],[],[Xy],(zN .bool),λx=>XM F x⟩
def ZbJ:Fs yb:=ZdM yD
theorem ZaD:ZbJ.Ok:=fnO { still:=[2,19,20,25,31,42]} [(0,Ziy)] [] trivial ⟨Zmk,ytt⟩
def YB(F:Nat)(s:((yL (yL yB))×Int×(yL (yL yB))×Int×Int)):yO (((yL (yL yB))×Int×(yL (yL yB))×Int×Int)⊕((yL (yL yB))×Int)):=
 if(decide (s.2.2.2.2 < s.2.2.2.1))=true then
  (idx s.2.2.1 s.2.2.2.2).bind λe278=>
  if(decide ((wi (s.2.1+(e278.length:Int))) < 0))=true then
   none
  else
  some (.inl (s.1,wi (s.2.1+(e278.length:Int)),s.2.2.1,s.2.2.2.1,wi (s.2.2.2.2+1)))
 else
 some (.inr (s.1,s.2.1))
def W8:Lp:=⟨[(0,.v (.sl (.sl .u8))),(3,.v yI),(9,.v (.sl (.sl .u8))),(10,.v yI),(11,.v yI)],[],[(.sl (.sl .u8)),yI,(.sl (.sl .u8)),yI,yI],[⟨.exit 0,[(0,.v (.sl (.sl .u8))),(3,.v yI)],[],[(.sl (.sl .u8)),yI]⟩],Zc (YB yD) yD⟩
def hi9:HI:={ own:=[6,24,31,33],still:=[2,23]}
theorem ZaT:W8.okA yb 160 0:=ZN hi9 [] [] trivial
def Qd:Fs yb:=⟨178,[.nil .u8,.v yI],[],[.int .i64],[⟨.ret,[(0,.own 0 .u8)],[.log .u8 5],[.sl .u8]⟩],Zpw⟩
theorem ZdN:Qd.Ok:=ZF1 ZDZ
def YC(F:Nat)(s:((yL (yL yB))×Int×Int×(yL yB))):yO (((yL (yL yB))×Int×Int×(yL yB))⊕(yL yB)):=
 if(decide (s.2.2.1 < s.2.1))=true then
  (idx s.1 s.2.2.1).bind λe281=>
  if(apB s.2.2.2.length e281.length 1)=true then
   some (.inl (s.1,s.2.1,wi (s.2.2.1+1),s.2.2.2++e281))
  else
  none
 else
 some (.inr s.2.2.2)
def W9:Lp:=⟨[(6,.own 0 .u8),(25,.v (.sl (.sl .u8))),(26,.v yI),(27,.v yI)],[.log .u8 5],[(.sl (.sl .u8)),yI,yI,(.sl .u8)],[⟨.exit 2,[(6,.own 0 .u8)],[.log .u8 5],[(.sl .u8)]⟩],Zc (YC yD) yD⟩
theorem ZaU:W9.okA yb 160 1:=ZN hi9 [] [] trivial
def Yl(F:Nat)(a0:(yL (yL yB))):yO ((yL yB)):=
 (Zc (YB F) F (a0,0,a0,(a0.length:Int),0)).bind λo279=>
 (Zpw o279.2).bind λo280=>
 (Zc (YC F) F (o279.1,(o279.1.length:Int),0,o280)).bind λo282=>
 some o282
def Zcz(F:Nat):Fs yb:=⟨160,[.v (.sl (.sl .u8))],[],[(.sl (.sl .u8))],(zN (.sl .u8)),λx=>Yl F x⟩
def XB:Fs yb:=Zcz yD
theorem Va:XB.Ok:=fnO hi9 [(0,W8),(1,W9)] [Qd] ⟨ZdN,ytt⟩ ⟨ZaT,ZaU,ytt⟩
def V3(F:Nat)(a0:(yL yB))(a1:(yL yB)):yO ((yL yB)):=
 (Yl F [a0,a1]).bind λo283=>
 some o283
def ZuJ(F:Nat):Fs yb:=⟨158,[.v (.sl .u8),.v (.sl .u8)],[],[(.sl .u8),(.sl .u8)],(zN (.sl .u8)),λx=>V3 F x.1 x.2⟩
def Zdo:Fs yb:=ZuJ yD
theorem Zfa:Zdo.Ok:=fnO { still:=[4,7]} [] [XB] ⟨Va,ytt⟩
def ZbK(F:Nat)(s:(Int×(yL yB))):yO ((Int×(yL yB))⊕(Int×(yL yB))):=
 if(decide (s.1 >= 128))=true then
  if(apB s.2.length 1 1)=true then
   let y285:(yL yB):=s.2++([w8 (wi ((Int.tmod s.1 128)+128))]:yL yB)
   some (.inl (wi (Int.tdiv s.1 128),y285))
  else
  none
 else
 some (.inr (s.1,s.2))
def Zne:Lp:=⟨[(0,.v yI),(3,.own 0 .u8)],[.log .u8 5],[yI,(.sl .u8)],[⟨.exit 0,[(0,.v yI),(3,.own 0 .u8)],[.log .u8 5],[yI,(.sl .u8)]⟩],Zc (ZbK yD) yD⟩
def ZJi:HI:={ own:=[3,8,14,15,19],still:=[2]}
theorem Zqk:Zne.okA yb 159 0:=ZN ZJi [] [] trivial
def Zek(F:Nat)(a0:Int):yO ((yL yB)):=
 (Zc (ZbK F) F (a0,[])).bind λo286=>
 if(apB o286.2.length 1 1)=true then
  some (o286.2++([w8 o286.1]:yL yB))
 else
 none
def ZwY(F:Nat):Fs yb:=⟨159,[.v yI],[],[yI],(zN (.sl .u8)),λx=>Zek F x⟩
def Zju:Fs yb:=ZwY yD
theorem Znf:Zju.Ok:=fnO ZJi [(0,Zne)] [] trivial ⟨Zqk,ytt⟩
def XG(F:Nat)(a0:(yL yB))(a1:Int):yO ((yL yB)):=
 if(decide (a1 < 0))=true then
  (V3 F a0 []).bind λo284=>
  some o284
 else
 (Zek F a1).bind λo287=>
 (V3 F a0 o287).bind λo288=>
 some o288
def ZwZ(F:Nat):Fs yb:=⟨116,[.v (.sl .u8),.v yI],[],[(.sl .u8),yI],(zN (.sl .u8)),λx=>XG F x.1 x.2⟩
def Zao:Fs yb:=ZwZ yD
theorem ZaV:Zao.Ok:=fnO { still:=[4,7,9,10,11]} [] [Zdo,Zju] ⟨Zfa,Znf,ytt⟩
def VS(F:Nat)(s:((yL yB)×yU×Int×(yL yB))):yO (((yL yB)×yU×Int×(yL yB))⊕((yL yB)×(yL yB))):=
 if(decide (s.2.2.1 < 8))=true then
  if(decide (0<=wi (56 - (wi (8*s.2.2.1)))))=true then
   let y293:yU:=Zs s.2.1 (min (wi (56 - (wi (8*s.2.2.1)))).toNat 64)
   if(inB s.2.2.1 8)=true then
    (s.2.2.2[s.2.2.1.toNat]?).bind λe294=>
    let y295:(yL yB):=s.2.2.2.set s.2.2.1.toNat (w8 (y293.toNat:Int))
    some (.inl (s.1,s.2.1,wi (s.2.2.1+1),y295))
   else
   none
  else
  none
 else
 some (.inr (s.1,s.2.2.2))
def ZgR:Lp:=⟨[(0,.v (.sl .u8)),(1,.v .u64),(5,.ref 0 []),(7,.v yI)],[.var (.v (.arr 8 .u8)) true],[(.sl .u8),.u64,yI,(.arr 8 .u8)],[⟨.exit 0,[(0,.v (.sl .u8)),(5,.ref 0 [])],[.var (.v (.arr 8 .u8)) true],[(.sl .u8),(.arr 8 .u8)]⟩],Zc (VS yD) yD⟩
theorem ZkZ:ZgR.okA yb 127 0:=ZN { still:=[4,19,20],frz:=[20]} [] [] trivial
def QJ(F:Nat)(a0:(yL yB))(a1:yU):yO ((yL yB)):=
 (Zc (VS F) F (a0,a1,0,[0,0,0,0,0,0,0,0])).bind λo296=>
 (V3 F o296.1 o296.2).bind λo297=>
 some o297
def Zql(F:Nat):Fs yb:=⟨127,[.v (.sl .u8),.v .u64],[],[(.sl .u8),.u64],(zN (.sl .u8)),λx=>QJ F x.1 x.2⟩
def ZdO:Fs yb:=Zql yD
theorem ZgS:ZdO.Ok:=fnO { still:=[4,19,20],frz:=[20]} [(0,ZgR)] [Zdo] ⟨Zfa,ytt⟩ ⟨ZkZ,ytt⟩
def Vb(F:Nat)(s:((yL yB)×(yL Branch)×Int×Int×(yL yU)×Int×Int×YD×Branch)):yO (((yL yB)×(yL Branch)×Int×Int×(yL yU)×Int×Int×YD×Branch)⊕((yL yB)×(yL Branch)×Int×Int×YD×Branch)):=
 if(decide (s.2.2.2.2.2.2.1 < s.2.2.2.2.2.1))=true then
  (idx s.2.2.2.2.1 s.2.2.2.2.2.2.1).bind λe292=>
  (QJ F s.1 e292).bind λo298=>
  some (.inl (o298,s.2.1,s.2.2.1,s.2.2.2.1,s.2.2.2.2.1,s.2.2.2.2.2.1,wi (s.2.2.2.2.2.2.1+1),s.2.2.2.2.2.2.2.1,s.2.2.2.2.2.2.2.2))
 else
 some (.inr (s.1,s.2.1,s.2.2.1,s.2.2.2.1,s.2.2.2.2.2.2.2.1,s.2.2.2.2.2.2.2.2))
abbrev tL0:yL Ty:=[(.sl .u8),(.sl Zp),yI,yI,(.sl .u64),yI,yI,Xy,Zp]
def Ziz:Lp:=⟨[(3,.v (.sl .u8)),(5,.ref 1 []),(16,.v (.sl Zp)),(17,.v yI),(18,.v yI),(28,.v (.sl .u64)),(29,.v yI),(30,.v yI)],[.var (.v Xy) true,.var (.v Zp) true],tL0,[⟨.exit 2,[(3,.v (.sl .u8)),(5,.ref 1 []),(16,.v (.sl Zp)),(17,.v yI),(18,.v yI)],[.var (.v Xy) true,.var (.v Zp) true],[(.sl .u8),(.sl Zp),yI,yI,Xy,Zp]⟩],Zc (Vb yD) yD⟩
def ZIr:HI:={ still:=[2,8,13,22,25,34,35,38,40,41,43,44,46]}
theorem Zml:Ziz.okA yb 87 1:=ZN ZIr [] [ZdO] ⟨ZgS,ytt⟩
def QK(F:Nat)(s:((yL yB)×(yL Branch)×Int×Int×YD)):yO (((yL yB)×(yL Branch)×Int×Int×YD)⊕((yL yB)×YD)):=
 if(decide (s.2.2.2.1 < s.2.2.1))=true then
  (idx s.2.1 s.2.2.2.1).bind λe290=>
  (XG F s.1 (e290.1.length:Int)).bind λo291=>
  (Zc (Vb F) F (o291,s.2.1,s.2.2.1,s.2.2.2.1,e290.1,(e290.1.length:Int),0,s.2.2.2.2,e290)).bind λo299=>
  (XG F o299.1 o299.2.2.2.2.2.2.1).bind λo300=>
  (XG F o300 o299.2.2.2.2.2.2.2.1).bind λo301=>
  (QJ F o301 o299.2.2.2.2.2.2.2.2).bind λo302=>
  some (.inl (o302,o299.2.1,o299.2.2.1,wi (o299.2.2.2.1+1),o299.2.2.2.2.1))
 else
 some (.inr (s.1,s.2.2.2.2))
def ZiA:Lp:=⟨[(3,.v (.sl .u8)),(16,.v (.sl Zp)),(17,.v yI),(18,.v yI)],[.var (.v Xy) true],[(.sl .u8),(.sl Zp),yI,yI,Xy],[⟨.exit 0,[(3,.v (.sl .u8))],[.var (.v Xy) true],[(.sl .u8),Xy]⟩],Zc (QK yD) yD⟩
theorem Zmm:ZiA.okA yb 87 0:=ZN ZIr [(1,Ziz)] [Zao,ZdO] ⟨ZaV,ZgS,ytt⟩ ⟨Zml,ytt⟩
def ZaW(F:Nat)(a0:YD):yO ((yL yB)):=
 (XM F a0).bind λo277=>
 if(!o277)=true then
  some []
 else
 (XG F [] (a0.length:Int)).bind λo289=>
 (Zc (QK F) F (o289,a0,(a0.length:Int),0,a0)).bind λo303=>
 some o303.1
def ZrD(F:Nat):Fs yb:=⟨87,[.v Xy],[],[Xy],(zN (.sl .u8)),λx=>ZaW F x⟩
def Zfb:Fs yb:=ZrD yD
theorem ZiB:Zfb.Ok:=fnO ZIr [(0,ZiA)] [ZbJ,Zao] ⟨ZaD,ZaV,ytt⟩ ⟨Zmm,ytt⟩
def ZG5:ByteArray:=⟨#[108,111,99,107]⟩
def ZhQ(F:Nat)(a0:YD):yO ((yL yB)):=
 (XM F a0).bind λo276=>
 if(!o276)=true then
  some yzz
 else
 (ZaW F a0).bind λo304=>
 (WH F ZG5 [o304]).bind λo305=>
 some o305
def Zw0(F:Nat):Fs yb:=⟨38,[.v Xy],[],[Xy],(zN (.arr 32 .u8)),λx=>ZhQ F x⟩
def Zqm:Fs yb:=Zw0 yD
theorem Zw1:Zqm.Ok:=fnO { still:=[3,7,9]} [] [ZbJ,Zfb,W6] ⟨ZaD,ZiB,W7,ytt⟩
def ZG(F:Nat)(a0:Int)(a1:YD)(a2:QH)(s1_0:(yL Unit))(s1_1:(yL Ze)):yO (((yL Unit)×(yL Ze))):=
 (ZhQ F a1).bind λo306=>
 if(apB s1_1.length 1 112)=true then
  let y307:(yL Ze):=s1_1++([((a0,a1),a2,o306)]:yL Ze)
  some (()::s1_0,y307)
 else
 none
def Zmn(F:Nat):Fs yb:=⟨37,[.v yI,.v Xy,.v ZgQ,.ref 0 []],[.var (.rw 1) true,.row Zg true 105],[yI,Xy,ZgQ,(.sl (.st [])),(.sl Zg)],[⟨.ret,[(0,.tup [])],[.var (.rw 1) true,.row Zg true 105],[(.sl (.st [])),(.sl Zg)]⟩],λx=>ZG F x.1 x.2.1 x.2.2.1 x.2.2.2.1 x.2.2.2.2⟩
def Zbb:Fs yb:=Zmn yD
theorem Zel:Zbb.Ok:=fnO { own:=[7,16],still:=[12]} [] [Zqm] ⟨Zw1,ytt⟩
abbrev dT0:Type:=(Int×Int×yU×yU×yU×(yL Cond)×Int×Int×Chan×yG×Commit×(yL Unit)×(yL Ze))
abbrev tL1:yL Ty:=[yI,yI,.u64,.u64,.u64,(.sl Wi),yI,yI,ZJ,Zq,Z0,(.sl (.st [])),(.sl Zg)]
def YP(F:Nat)(s:(Int×Int×Int×Int×(yL Unit)×(yL Ze))):yO ((Int×Int×Int×Int×(yL Unit)×(yL Ze))⊕(Int×Int×Int×(yL Unit)×(yL Ze))):=
 if(decide (s.2.2.2.1 > s.1))=true then
  if(inB s.2.2.2.1 s.2.2.2.2.2.length)=true then
   (s.2.2.2.2.2[s.2.2.2.1.toNat]?).bind λe326=>
   if(inB (wi (s.2.2.2.1 - 1)) s.2.2.2.2.2.length)=true then
    (s.2.2.2.2.2[(wi (s.2.2.2.1 - 1)).toNat]?).bind λe327=>
    (QI F e326 e327).bind λo328=>
    if(decide (o328 < 0))=true then
     if(inB (wi (s.2.2.2.1 - 1)) s.2.2.2.2.2.length)=true then
      (s.2.2.2.2.2[(wi (s.2.2.2.1 - 1)).toNat]?).bind λe329=>
      if(inB s.2.2.2.1 s.2.2.2.2.2.length)=true then
       (s.2.2.2.2.2[s.2.2.2.1.toNat]?).bind λe330=>
       if(inB s.2.2.2.1 s.2.2.2.2.2.length)=true then
        (s.2.2.2.2.2[s.2.2.2.1.toNat]?).bind λe331=>
        if(inB (wi (s.2.2.2.1 - 1)) ((s.2.2.2.2.2.set s.2.2.2.1.toNat e329).length))=true then
         ((s.2.2.2.2.2.set s.2.2.2.1.toNat e329)[(wi (s.2.2.2.1 - 1)).toNat]?).bind λe332=>
         let y333:(yL Ze):=(s.2.2.2.2.2.set s.2.2.2.1.toNat e329).set ((wi (s.2.2.2.1 - 1)).toNat) e330
         some (.inl (s.1,s.2.1,s.2.2.1,wi (s.2.2.2.1 - 1),s.2.2.2.2.1,y333))
        else
        none
       else
       none
      else
      none
     else
     none
    else
    some (.inr (s.1,s.2.1,s.2.2.1,s.2.2.2.2.1,s.2.2.2.2.2))
   else
   none
  else
  none
 else
 some (.inr (s.1,s.2.1,s.2.2.1,s.2.2.2.2.1,s.2.2.2.2.2))
def ZcA:Lp:=⟨[(0,.rw 0),(1,.v yI),(2,.v yI),(3,.fn 45 []),(8,.v yI),(9,.v yI)],[.row Zg true 105],[yI,yI,yI,yI,(.sl (.st [])),(.sl Zg)],[⟨.exit 2,[(0,.rw 0),(1,.v yI),(2,.v yI),(3,.fn 45 []),(8,.v yI)],[.row Zg true 105],[yI,yI,yI,(.sl (.st [])),(.sl Zg)]⟩],Zc (YP yD) yD⟩
def ZIs:HI:={ still:=[26,31],rowt:=[0,37,39]}
theorem ZfZ:ZcA.okA yb 129 1:=ZN ZIs [] [ZfK] ⟨Zmj,ytt⟩
def ZP(F:Nat)(s:(Int×Int×Int×(yL Unit)×(yL Ze))):yO ((Int×Int×Int×(yL Unit)×(yL Ze))⊕((yL Unit)×(yL Ze))):=
 if(decide (s.2.2.1 < s.2.1))=true then
  (Zc (YP F) F (s.1,s.2.1,s.2.2.1,s.2.2.1,s.2.2.2.1,s.2.2.2.2)).bind λo334=>
  some (.inl (o334.1,o334.2.1,wi (o334.2.2.1+1),o334.2.2.2.1,o334.2.2.2.2))
 else
 some (.inr (s.2.2.2.1,s.2.2.2.2))
def ZcB:Lp:=⟨[(0,.rw 0),(1,.v yI),(2,.v yI),(3,.fn 45 []),(8,.v yI)],[.row Zg true 105],[yI,yI,yI,(.sl (.st [])),(.sl Zg)],[⟨.exit 0,[],[.row Zg true 105],[(.sl (.st [])),(.sl Zg)]⟩],Zc (ZP yD) yD⟩
theorem Zf0:ZcB.okA yb 129 0:=ZN ZIs [(1,ZcA)] [] trivial ⟨ZfZ,ytt⟩
def YZ(F:Nat)(a1:Int)(a2:Int)(s0_0:(yL Unit))(s0_1:(yL Ze)):yO (((yL Unit)×(yL Ze))):=
 (Zc (ZP F) F (a1,a2,wi (a1+1),s0_0,s0_1)).bind λo335=>
 some (o335.1,o335.2)
def Zjv(F:Nat):Fs yb:=⟨129,[.rw 0,.v yI,.v yI,.fn 45 []],[.row Zg true 105],[yI,yI,(.sl (.st [])),(.sl Zg)],[⟨.ret,[(0,.tup [])],[.row Zg true 105],[(.sl (.st [])),(.sl Zg)]⟩],λx=>YZ F x.1 x.2.1 x.2.2.1 x.2.2.2⟩
def QL:Fs yb:=Zjv yD
theorem ZcC:QL.Ok:=fnO ZIs [(0,ZcB)] [] trivial ⟨Zf0,ytt⟩
def Yt(F:Nat)(s:(Int×Int×Int×Int×(yL Unit)×(yL Ze))):yO ((Int×Int×Int×Int×(yL Unit)×(yL Ze))⊕(Int×Int×Int×(yL Unit)×(yL Ze))):=
 if(decide (s.2.2.2.1<=s.1))=true then
  (YZ F s.2.2.1 s.2.2.2.1 s.2.2.2.2.1 s.2.2.2.2.2).bind λo336=>
  if(decide (s.2.2.2.2.1.length=o336.1.length)&&(decide (40=40)&&decide ((yx s.2.2.2.2.2.length ()).length=o336.2.length)))=true then
   some (.inl (s.1,s.2.1,s.2.2.2.1,wi (s.2.2.2.1+s.2.1),o336.1,o336.2))
  else
  none
 else
 some (.inr (s.1,s.2.1,s.2.2.1,s.2.2.2.2.1,s.2.2.2.2.2))
def Zdp:Lp:=⟨[(0,.rw 0),(1,.v yI),(2,.fn 45 []),(6,.v yI),(7,.v yI),(8,.v yI)],[.row Zg true 105],[yI,yI,yI,yI,(.sl (.st [])),(.sl Zg)],[⟨.exit 0,[(0,.rw 0),(1,.v yI),(2,.fn 45 []),(6,.v yI),(7,.v yI)],[.row Zg true 105],[yI,yI,yI,(.sl (.st [])),(.sl Zg)]⟩],Zc (Yt yD) yD⟩
def ZGn:HI:={ still:=[15,16,17,24,25,26,37,40,41,42,56,57,58,59],rowt:=[0,14,23,36,55]}
theorem ZgT:Zdp.okA yb 89 0:=Zuk (fi:={ hi:=ZGn,gh:=[(3,.freshS 0)]}) (specs:={ l:=[QL]}) (okS ⟨ZcC,ytt⟩)
def ZcD(F:Nat)(s:(Int×Int×Int×Int×(yL Unit)×(yL Ze))):yO ((Int×Int×Int×Int×(yL Unit)×(yL Ze))⊕(Int×Int×Int×(yL Unit)×(yL Ze))):=
 if(decide (s.2.2.2.1<=s.1))=true then
  none
 else
 some (.inr (s.1,s.2.1,s.2.2.1,s.2.2.2.2.1,s.2.2.2.2.2))
def Zdq:Lp:=⟨[(1,.v yI),(2,.fn 45 []),(6,.v yI),(7,.v yI),(8,.v yI)],[.row Zg true 105],[yI,yI,yI,yI,(.sl (.st [])),(.sl Zg)],[⟨.exit 4,[(1,.v yI),(2,.fn 45 []),(6,.v yI),(7,.v yI)],[.row Zg true 105],[yI,yI,yI,(.sl (.st [])),(.sl Zg)]⟩],Zc (ZcD yD) yD⟩
theorem ZgU:Zdq.okA yb 89 2:=ZN ZGn [] [] trivial
def Wy(F:Nat)(s:(Int×Int×(yL Unit)×(yL Ze))):yO ((Int×Int×(yL Unit)×(yL Ze))⊕((yL Unit)×(yL Ze))):=
 if(decide (s.2.1 < s.1))=true then
  (Zc (ZcD F) F (s.1,s.2.1,0,wi (2*s.2.1),s.2.2.1,s.2.2.2)).bind λo339=>
  if(decide ((wi (o339.2.2.1+o339.2.1)) < o339.1))=true then
   none
  else
  some (.inl (o339.1,wi (o339.2.1*2),o339.2.2.2.1,o339.2.2.2.2))
 else
 some (.inr (s.2.2.1,s.2.2.2))
def Zdr:Lp:=⟨[(0,.junk),(1,.v yI),(2,.fn 45 []),(6,.v yI)],[.row Zg true 105],[yI,yI,(.sl (.st [])),(.sl Zg)],[⟨.exit 2,[],[.row Zg true 105],[(.sl (.st [])),(.sl Zg)]⟩],Zc (Wy yD) yD⟩
theorem ZgV:Zdr.okA yb 89 1:=ZN ZGn [(2,Zdq)] [] trivial ⟨ZgU,ytt⟩
def Zbc(F:Nat)(a1:Int)(s0_0:(yL Unit))(s0_1:(yL Ze)):yO (((yL Unit)×(yL Ze))):=
 (Zc (Yt F) F (a1,20,0,20,s0_0,s0_1)).bind λo337=>
 (YZ F o337.2.2.1 o337.1 o337.2.2.2.1 o337.2.2.2.2).bind λo338=>
 (Zc (Wy F) F (o337.1,o337.2.1,o338.1,o338.2)).bind λo340=>
 some (o340.1,o340.2)
def Zk0(F:Nat):Fs yb:=⟨89,[.rw 0,.v yI,.fn 45 []],[.row Zg true 105],[yI,(.sl (.st [])),(.sl Zg)],[⟨.ret,[(0,.tup [])],[.row Zg true 105],[(.sl (.st [])),(.sl Zg)]⟩],λx=>Zbc F x.1 x.2.1 x.2.2⟩
def Zem:Fs yb:=Zk0 yD
theorem Zk1:Zem.Ok:=fnO ZGn [(0,Zdp),(1,Zdr)] [QL] ⟨ZcC,ytt⟩ ⟨ZgT,ZgV,ytt⟩
def XN(F:Nat)(s0_0:(yL Unit))(s0_1:(yL Ze)):yO (((yL Unit)×(yL Ze))):=
 (Zbc F (s0_1.length:Int) s0_0 s0_1).bind λo341=>
 some (o341.1,o341.2)
def Zqn(F:Nat):Fs yb:=⟨44,[.rw 0,.fn 45 []],[.row Zg true 105],[(.sl (.st [])),(.sl Zg)],[⟨.ret,[(0,.tup [])],[.row Zg true 105],[(.sl (.st [])),(.sl Zg)]⟩],λx=>XN F x.1 x.2⟩
def ZiC:Fs yb:=Zqn yD
theorem Zqo:ZiC.Ok:=fnO { still:=[6,7],rowt:=[0,4]} [] [Zem] ⟨Zk1,ytt⟩
abbrev dT1:Type:=(Int×Int×Chan×yG×Commit×(yL Unit)×(yL Ze)×(yL In)×Int×(yL QH)×(yL Out))
abbrev dT2:Type:=(Chan×yG×Commit×(yL Unit)×(yL Ze)×(yL In)×Int×(yL QH)×(yL Out))
def ZJj:yL ESh:=[.var (.v ZJ) true,.var (.v Zq) true,.var (.v Z0) true,.var (.rw 4) true,.row Zg true 105,.var (.agg [.agg [.v (.sl yIn),.own 7 YY,.v yI],.own 6 ZgQ]) true,.log ZgQ 68,.log YY 75]
abbrev tL2:yL Ty:=[ZJ,Zq,Z0,(.sl (.st [])),(.sl Zg),(.sl yIn),yI,(.sl ZgQ),(.sl YY)]
abbrev tL3:yL Ty:=[yI,yI,ZJ,Zq,Z0,(.sl (.st [])),(.sl Zg),(.sl yIn),yI,(.sl ZgQ),(.sl YY)]
def Yr(F:Nat)(s:dT0):yO (dT0⊕(Int×Chan×yG×Commit×(yL Unit)×(yL Ze))):=
 if(decide (s.2.2.2.2.2.2.2.1 < s.2.2.2.2.2.2.1))=true then
  (idx s.2.2.2.2.2.1 s.2.2.2.2.2.2.2.1).bind λe376=>
  if(e376.1==s.1)=true then
   (ZG F e376.2.2.1 [([s.2.2.1],0,0,0),([s.2.2.2.2.1],0,0,e376.2.2.2.1),([s.2.2.2.1],e376.2.2.2.2,s.2.1,0)] (5,e376) s.2.2.2.2.2.2.2.2.2.2.2.1 s.2.2.2.2.2.2.2.2.2.2.2.2).bind λo377=>
   some (.inl (s.1,s.2.1,s.2.2.1,s.2.2.2.1,s.2.2.2.2.1,s.2.2.2.2.2.1,s.2.2.2.2.2.2.1,wi (s.2.2.2.2.2.2.2.1+1),s.2.2.2.2.2.2.2.2.1,s.2.2.2.2.2.2.2.2.2.1,s.2.2.2.2.2.2.2.2.2.2.1,o377.1,o377.2))
  else
  (ZG F e376.2.2.1 [([s.2.2.1],0,0,0),([s.2.2.2.1],0,s.2.1,e376.2.2.2.1),([s.2.2.2.2.1],e376.2.2.2.2,0,0)] (6,e376) s.2.2.2.2.2.2.2.2.2.2.2.1 s.2.2.2.2.2.2.2.2.2.2.2.2).bind λo378=>
  some (.inl (s.1,s.2.1,s.2.2.1,s.2.2.2.1,s.2.2.2.2.1,s.2.2.2.2.2.1,s.2.2.2.2.2.2.1,wi (s.2.2.2.2.2.2.2.1+1),s.2.2.2.2.2.2.2.2.1,s.2.2.2.2.2.2.2.2.2.1,s.2.2.2.2.2.2.2.2.2.2.1,o378.1,o378.2))
 else
 some (.inr (s.1,s.2.2.2.2.2.2.2.2.1,s.2.2.2.2.2.2.2.2.2.1,s.2.2.2.2.2.2.2.2.2.2.1,s.2.2.2.2.2.2.2.2.2.2.2.1,s.2.2.2.2.2.2.2.2.2.2.2.2))
abbrev zD:List ESh:=[.var (.v ZJ) true,.var (.v Zq) true,.var (.v Z0) true,.var (.rw 4) true,.row Zg true 105]
def ZgW:Lp:=⟨[(2,.v yI),(4,.ref 0 []),(5,.ref 1 []),(8,.ref 2 []),(11,.v yI),(12,.v .u64),(13,.v .u64),(14,.v .u64),(15,.ref 3 []),(16,.fn 37 [.ref 3 []]),(139,.v (.sl Wi)),(140,.v yI),(141,.v yI)],zD,tL1,[⟨.exit 1,[(2,.v yI),(4,.ref 0 []),(5,.ref 1 []),(8,.ref 2 []),(15,.ref 3 [])],zD,[yI,ZJ,Zq,Z0,(.sl (.st [])),(.sl Zg)]⟩],Zc (Yr yD) yD⟩
def ZJN:HI:={ own:=[208,212,216,220],still:=[9,28,32,38,39,54,55,61,62,68,69,72,73,74,75,80,81,84,89,90,91,92,93,94,95,97,98,99,100,105,106,109,114,115,116,123,124,125,132,133,134,136,137,138,176,183,184],rowt:=[187]}
theorem Zk2:ZgW.okA yb 7 0:=ZN ZJN [] [Zbb] ⟨Zel,ytt⟩
def YR(F:Nat)(s:dT1):yO (dT1⊕dT2):=
 if(decide (s.2.1 < s.1))=true then
  if(inB s.2.1 s.2.2.2.2.2.2.1.length)=true then
   (s.2.2.2.2.2.2.1[s.2.1.toNat]?).bind λe381=>
   if(apB s.2.2.2.2.2.2.2.2.2.2.length 1 32)=true then
    if(apB s.2.2.2.2.2.2.2.2.2.1.length 1 48)=true then
     let y382:(yL QH):=s.2.2.2.2.2.2.2.2.2.1++([e381.2.1]:yL QH)
     some (.inl (s.1,wi (s.2.1+1),s.2.2.1,s.2.2.2.1,s.2.2.2.2.1,s.2.2.2.2.2.1,s.2.2.2.2.2.2.1,s.2.2.2.2.2.2.2.1,s.2.2.2.2.2.2.2.2.1,y382,s.2.2.2.2.2.2.2.2.2.2++([e381.1]:yL Out)))
    else
    none
   else
   none
  else
  none
 else
 some (.inr (s.2.2.1,s.2.2.2.1,s.2.2.2.2.1,s.2.2.2.2.2.1,s.2.2.2.2.2.2.1,s.2.2.2.2.2.2.2.1,s.2.2.2.2.2.2.2.2.1,s.2.2.2.2.2.2.2.2.2.1,s.2.2.2.2.2.2.2.2.2.2))
def ZgX:Lp:=⟨[(8,.ref 2 []),(24,.ref 5 []),(200,.rw 4),(201,.v yI),(202,.v yI)],ZJj,tL3,[⟨.exit 3,[(8,.ref 2 []),(24,.ref 5 [])],ZJj,tL2⟩],Zc (YR yD) yD⟩
def ZJk:HI:={ own:=[208,212,216,220],still:=[9,28,32,38,39,54,55,61,62,68,69,72,73,74,75,80,81,84,89,90,91,92,93,94,95,97,98,99,100,105,106,109,114,115,116,123,124,125,132,133,134,136,137,138,176,183,184],rowt:=[187],gst:=[(24,[([1],ZgQ,68),([0,1],YY,75)])]}
theorem Zk3:ZgX.okA yb 7 1:=ZN ZJk [] [] trivial
def XO(F:Nat)(a0:Chan)(a1:yG)(a2:Int)(a3:yU):yO ((Commit×Int)):=
 (Vj F a2).bind λo346=>
 if(!o346)=true then
  some ((([],[],0),[]),1)
 else
 (Xi F a3).bind λo347=>
 if(!o347)=true then
  some ((([],[],0),[]),1)
 else
 (QE F a0 a1).bind λo348=>
 if(!o348)=true then
  some ((([],[],0),[]),14)
 else
 if(inB (wi (1 - a2)) 2)=true then
  (a0.2.2.2.1[(wi (1 - a2)).toNat]?).bind λe349=>
  if(inB (wi (1 - a2)) 2)=true then
   (a0.2.2.1[(wi (1 - a2)).toNat]?).bind λe350=>
   (ZbH F e350.2.2.2.2 a3).bind λo351=>
   if(inB a2 2)=true then
    (a0.2.2.1[a2.toNat]?).bind λe352=>
    (ZbV F e352.2.2.2.1 a3).bind λo353=>
    if(inB (wi (1 - a2)) 2)=true then
     (a0.2.2.1[(wi (1 - a2)).toNat]?).bind λe354=>
     (ZbV F e354.2.2.2.1 a3).bind λo355=>
     (Vo F a0 a1 a2 a2).bind λo356=>
     if(inB a2 2)=true then
      (a0.2.2.2.1[a2.toNat]?).bind λe357=>
      (Ww F e357 o356).bind λo358=>
      if o358=true then
       if(inB a2 2)=true then
        (a0.2.2.1[a2.toNat]?).bind λe359=>
        (ZbV F e359.2.2.1 a3).bind λo360=>
        (Zjt F o360 o351 e349.2.2.1).bind λo361=>
        (ZG F o356 o361 (1,(0,0,0,0,0)) [] []).bind λo362=>
        (Vo F a0 a1 a2 (wi (1 - a2))).bind λo363=>
        if(inB a2 2)=true then
         (a0.2.2.2.1[a2.toNat]?).bind λe364=>
         (Ww F e364 o363).bind λo365=>
         if o365=true then
          if(inB (wi (1 - a2)) 2)=true then
           (a0.2.2.1[(wi (1 - a2)).toNat]?).bind λe366=>
           (Zeb F e366.2.1).bind λo367=>
           (ZG F o363 o367 (2,(0,0,0,0,0)) o362.1 o362.2).bind λo368=>
           if(inB a2 2)=true then
            (a0.2.2.1[a2.toNat]?).bind λe369=>
            (Y5 F e369.1).bind λo370=>
            (ZG F 330 o370 (3,(0,0,0,0,0)) o368.1 o368.2).bind λo371=>
            if(inB (wi (1 - a2)) 2)=true then
             (a0.2.2.1[(wi (1 - a2)).toNat]?).bind λe372=>
             (Y5 F e372.1).bind λo373=>
             (ZG F 330 o373 (4,(0,0,0,0,0)) o371.1 o371.2).bind λo374=>
             (Xo F a0 a1 a2).bind λo375=>
             (Zc (Yr F) F (a2,e349.2.2.1,o351,o353,o355,o375,(o375.length:Int),0,a0,a1,(([],[],0),[]),o374.1,o374.2)).bind λo379=>
             (XN F o379.2.2.2.2.1 o379.2.2.2.2.2).bind λo380=>
             if(decide (o379.2.2.2.2.1.length=o380.1.length)&&(decide (40=40)&&decide ((yx o379.2.2.2.2.2.length ()).length=o380.2.length)))=true then
              (Zc (YR F) F ((o380.2.length:Int),0,o379.2.1,o379.2.2.1,o379.2.2.2.1,o380.1,o380.2,[(o379.2.1.1,(0,[],0))],wi ((wi (2*o379.2.2.1.1))+o379.1),[],[])).bind λo383=>
              some (((o383.2.2.2.2.2.1,o383.2.2.2.2.2.2.2.2,o383.2.2.2.2.2.2.1),o383.2.2.2.2.2.2.2.1),0)
             else
             none
            else
            none
           else
           none
          else
          none
         else
         if(inB a2 2)=true then
          (a0.2.2.1[a2.toNat]?).bind λe384=>
          (Y5 F e384.1).bind λo385=>
          (ZG F 330 o385 (3,(0,0,0,0,0)) o362.1 o362.2).bind λo386=>
          if(inB (wi (1 - a2)) 2)=true then
           (a0.2.2.1[(wi (1 - a2)).toNat]?).bind λe387=>
           (Y5 F e387.1).bind λo388=>
           (ZG F 330 o388 (4,(0,0,0,0,0)) o386.1 o386.2).bind λo389=>
           (Xo F a0 a1 a2).bind λo390=>
           (Zc (Yr F) F (a2,e349.2.2.1,o351,o353,o355,o390,(o390.length:Int),0,a0,a1,(([],[],0),[]),o389.1,o389.2)).bind λo391=>
           (XN F o391.2.2.2.2.1 o391.2.2.2.2.2).bind λo392=>
           if(decide (o391.2.2.2.2.1.length=o392.1.length)&&(decide (40=40)&&decide ((yx o391.2.2.2.2.2.length ()).length=o392.2.length)))=true then
            (Zc (YR F) F ((o392.2.length:Int),0,o391.2.1,o391.2.2.1,o391.2.2.2.1,o392.1,o392.2,[(o391.2.1.1,(0,[],0))],wi ((wi (2*o391.2.2.1.1))+o391.1),[],[])).bind λo393=>
            some (((o393.2.2.2.2.2.1,o393.2.2.2.2.2.2.2.2,o393.2.2.2.2.2.2.1),o393.2.2.2.2.2.2.2.1),0)
           else
           none
          else
          none
         else
         none
        else
        none
       else
       none
      else
      (Vo F a0 a1 a2 (wi (1 - a2))).bind λo394=>
      if(inB a2 2)=true then
       (a0.2.2.2.1[a2.toNat]?).bind λe395=>
       (Ww F e395 o394).bind λo396=>
       if o396=true then
        if(inB (wi (1 - a2)) 2)=true then
         (a0.2.2.1[(wi (1 - a2)).toNat]?).bind λe397=>
         (Zeb F e397.2.1).bind λo398=>
         (ZG F o394 o398 (2,(0,0,0,0,0)) [] []).bind λo399=>
         if(inB a2 2)=true then
          (a0.2.2.1[a2.toNat]?).bind λe400=>
          (Y5 F e400.1).bind λo401=>
          (ZG F 330 o401 (3,(0,0,0,0,0)) o399.1 o399.2).bind λo402=>
          if(inB (wi (1 - a2)) 2)=true then
           (a0.2.2.1[(wi (1 - a2)).toNat]?).bind λe403=>
           (Y5 F e403.1).bind λo404=>
           (ZG F 330 o404 (4,(0,0,0,0,0)) o402.1 o402.2).bind λo405=>
           (Xo F a0 a1 a2).bind λo406=>
           (Zc (Yr F) F (a2,e349.2.2.1,o351,o353,o355,o406,(o406.length:Int),0,a0,a1,(([],[],0),[]),o405.1,o405.2)).bind λo407=>
           (XN F o407.2.2.2.2.1 o407.2.2.2.2.2).bind λo408=>
           if(decide (o407.2.2.2.2.1.length=o408.1.length)&&(decide (40=40)&&decide ((yx o407.2.2.2.2.2.length ()).length=o408.2.length)))=true then
            (Zc (YR F) F ((o408.2.length:Int),0,o407.2.1,o407.2.2.1,o407.2.2.2.1,o408.1,o408.2,[(o407.2.1.1,(0,[],0))],wi ((wi (2*o407.2.2.1.1))+o407.1),[],[])).bind λo409=>
            some (((o409.2.2.2.2.2.1,o409.2.2.2.2.2.2.2.2,o409.2.2.2.2.2.2.1),o409.2.2.2.2.2.2.2.1),0)
           else
           none
          else
          none
         else
         none
        else
        none
       else
       if(inB a2 2)=true then
        (a0.2.2.1[a2.toNat]?).bind λe410=>
        (Y5 F e410.1).bind λo411=>
        (ZG F 330 o411 (3,(0,0,0,0,0)) [] []).bind λo412=>
        if(inB (wi (1 - a2)) 2)=true then
         (a0.2.2.1[(wi (1 - a2)).toNat]?).bind λe413=>
         (Y5 F e413.1).bind λo414=>
         (ZG F 330 o414 (4,(0,0,0,0,0)) o412.1 o412.2).bind λo415=>
         (Xo F a0 a1 a2).bind λo416=>
         (Zc (Yr F) F (a2,e349.2.2.1,o351,o353,o355,o416,(o416.length:Int),0,a0,a1,(([],[],0),[]),o415.1,o415.2)).bind λo417=>
         (XN F o417.2.2.2.2.1 o417.2.2.2.2.2).bind λo418=>
         if(decide (o417.2.2.2.2.1.length=o418.1.length)&&(decide (40=40)&&decide ((yx o417.2.2.2.2.2.length ()).length=o418.2.length)))=true then
          (Zc (YR F) F ((o418.2.length:Int),0,o417.2.1,o417.2.2.1,o417.2.2.2.1,o418.1,o418.2,[(o417.2.1.1,(0,[],0))],wi ((wi (2*o417.2.2.1.1))+o417.1),[],[])).bind λo419=>
          some (((o419.2.2.2.2.2.1,o419.2.2.2.2.2.2.2.2,o419.2.2.2.2.2.2.1),o419.2.2.2.2.2.2.2.1),0)
         else
         none
        else
        none
       else
       none
      else
      none
     else
     none
    else
    none
   else
   none
  else
  none
 else
 none
def ZcE(F:Nat):Fs yb:=⟨7,[.v ZJ,.v Zq,.v yI,.v .u64],[],[ZJ,Zq,yI,.u64],[⟨.ret,[(0,.tup [.v Z0,.v yI])],[],[Z0,yI]⟩],λx=>XO F x.1 x.2.1 x.2.2.1 x.2.2.2⟩
def ZiD:Fs yb:=ZcE yD
theorem ZgY:ZiD.Ok:=ZGZ (fi:={ hi:=ZJk,lp:=[(0,ZgW),(1,ZgX)],gh:=[(11,.rowt 15 [] Zg 105),(31,.freshV 15)]}) (specs:={ l:=[Zig,XU,Zip,Ziu,Zqb,Ziv,ZdL,Znd,Zbb,ZpI,Ziw,Zcu,ZiC]}) (okS ⟨ZpK,X7,ZpZ,Zqa,ZwX,Zqe,ZgP,ZuI,Zel,Zm3,Zqg,ZfI,Zqo,ytt⟩) ⟨Zk2,Zk3,ytt⟩
def Wm(F:Nat)(a0:ZbI):yO (Bool):=
 if(decide (a0.1 >= 0))=true then
  if(decide (a0.1 < 4))=true then
   some (decide ((a0.2.1.length:Int)<=12))
  else
  some false
 else
 some false
def ZrE(F:Nat):Fs yb:=⟨110,[.v Zqh],[],[Zqh],(zN .bool),λx=>Wm F x⟩
def Zfc:Fs yb:=ZrE yD
theorem ZiE:Zfc.Ok:=fnO { still:=[2]} [] [] trivial
def Xj(F:Nat)(s:((yL In)×Int×Int×Tx×(yL (ZW×Bool)))):yO (((yL In)×Int×Int×Tx×(yL (ZW×Bool)))⊕((Bool×Tx×(yL (ZW×Bool)))⊕(Tx×(yL (ZW×Bool))))):=
 if(decide (s.2.2.1 < s.2.1))=true then
  (idx s.1 s.2.2.1).bind λe420=>
  ZmT (Zbs s.2.2.2.2 e420.1) (λe421=>
   if e421=true then
    some (.inr (.inl (false,s.2.2.2.1,s.2.2.2.2)))
   else
   if(decide (e420.1.2 < 0))=true then
    some (.inr (.inl (false,s.2.2.2.1,s.2.2.2.2)))
   else
   if(decide (e420.1.2 >= 64))=true then
    some (.inr (.inl (false,s.2.2.2.1,s.2.2.2.2)))
   else
   (Wm F e420.2).bind λo422=>
   if(!o422)=true then
    some (.inr (.inl (false,s.2.2.2.1,s.2.2.2.2)))
   else
   some (.inl (s.1,s.2.1,wi (s.2.2.1+1),s.2.2.2.1,ZlJ s.2.2.2.2 e420.1 true))) (
   if(decide (e420.1.2 < 0))=true then
    some (.inr (.inl (false,s.2.2.2.1,s.2.2.2.2)))
   else
   if(decide (e420.1.2 >= 64))=true then
    some (.inr (.inl (false,s.2.2.2.1,s.2.2.2.2)))
   else
   (Wm F e420.2).bind λo423=>
   if(!o423)=true then
    some (.inr (.inl (false,s.2.2.2.1,s.2.2.2.2)))
   else
   some (.inl (s.1,s.2.1,wi (s.2.2.1+1),s.2.2.2.1,ZlJ s.2.2.2.2 e420.1 true)))
 else
 some (.inr (.inr (s.2.2.2.1,s.2.2.2.2)))
def Zng:Lp:=⟨[(1,.ref 0 []),(3,.mp 1),(33,.v (.sl yIn)),(34,.v yI),(35,.v yI)],[.var (.v yTx) true,.map 178 ZK .bool],[(.sl yIn),yI,yI,yTx,(Zjk ZK .bool)],[⟨.ret,[(2,.v .bool)],[.var (.v yTx) true,.map 178 ZK .bool],[.bool,yTx,(Zjk ZK .bool)]⟩,⟨.exit 0,[(1,.ref 0 [])],[.var (.v yTx) true,.map 178 ZK .bool],[yTx,(Zjk ZK .bool)]⟩],Zc (Xj yD) yD⟩
theorem Zqp:Zng.okA yb 72 0:=ZN { still:=[2,57,73,75,83]} [] [Zfc] ⟨ZiE,ytt⟩
def XP(F:Nat)(s:(Int×(yL Out)×Int×Int×Tx×(yL (ZW×Bool)))):yO ((Int×(yL Out)×Int×Int×Tx×(yL (ZW×Bool)))⊕((Bool×Tx×(yL (ZW×Bool)))⊕(Tx×(yL (ZW×Bool))))):=
 if(decide (s.2.2.2.1 < s.2.2.1))=true then
  (idx s.2.1 s.2.2.2.1).bind λe427=>
  (QA F s.1 e427.1).bind λo428=>
  if(!o428.2)=true then
   some (.inr (.inl (false,s.2.2.2.2.1,s.2.2.2.2.2)))
  else
  (XM F e427.2).bind λo429=>
  if(!o429)=true then
   some (.inr (.inl (false,s.2.2.2.2.1,s.2.2.2.2.2)))
  else
  some (.inl (o428.1,s.2.1,s.2.2.1,wi (s.2.2.2.1+1),s.2.2.2.2.1,s.2.2.2.2.2))
 else
 some (.inr (.inr (s.2.2.2.2.1,s.2.2.2.2.2)))
def Znh:Lp:=⟨[(6,.v yI),(66,.v (.sl YY)),(67,.v yI),(68,.v yI)],[.var (.v yTx) true,.map 178 ZK .bool],[yI,(.sl YY),yI,yI,yTx,(Zjk ZK .bool)],[⟨.ret,[(2,.v .bool)],[.var (.v yTx) true,.map 178 ZK .bool],[.bool,yTx,(Zjk ZK .bool)]⟩,⟨.exit 2,[],[.var (.v yTx) true,.map 178 ZK .bool],[yTx,(Zjk ZK .bool)]⟩],Zc (XP yD) yD⟩
theorem Zqq:Znh.okA yb 72 1:=ZN { still:=[2,57,73,75,83]} [] [ZlZ,ZbJ] ⟨Zjp,ZaD,ytt⟩
def WJ(F:Nat)(a0:Tx):yO (Bool):=
 if(decide ((a0.1.length:Int) < 1))=true then
  some false
 else
 if(decide ((a0.1.length:Int) > 64))=true then
  some false
 else
 if(decide ((a0.2.1.length:Int) > 64))=true then
  some false
 else
 if(decide (a0.2.2 < 0))=true then
  some false
 else
 (Zc (Xj F) F (a0.1,(a0.1.length:Int),0,a0,([]:yL (ZW×Bool)))).bind λo424=>
 match o424 with
 |.inl o425=>
  some o425.1
 |.inr o426=>
  (Zc (XP F) F (0,o426.1.2.1,(o426.1.2.1.length:Int),0,o426.1,o426.2)).bind λo430=>
  match o430 with
  |.inl o431=>
   some o431.1
  |.inr o432=>
   some true
def Zw2(F:Nat):Fs yb:=⟨72,[.v yTx],[],[yTx],(zN .bool),λx=>WJ F x⟩
def Zfd:Fs yb:=Zw2 yD
theorem ZgZ:Zfd.Ok:=fnO { still:=[2,57,73,75,83]} [(0,Zng),(1,Znh)] [] trivial ⟨Zqp,Zqq,ytt⟩
def ZaE(F:Nat)(a0:(yL yB))(a1:(yL yB)):yO ((yL yB)):=
 (V3 F a0 a1).bind λo433=>
 some o433
def ZnQ(F:Nat):Fs yb:=⟨117,[.v (.sl .u8),.v (.arr 32 .u8)],[],[(.sl .u8),(.arr 32 .u8)],(zN (.sl .u8)),λx=>ZaE F x.1 x.2⟩
def Zg0:Fs yb:=ZnQ yD
theorem ZnR:Zg0.Ok:=fnO { still:=[4,5,6],frz:=[6]} [] [Zdo] ⟨Zfa,ytt⟩
def QM(F:Nat)(a0:(yL yB))(a1:(yL yB)):yO ((yL yB)):=
 (Zek F (a1.length:Int)).bind λo434=>
 (Yl F [a0,o434,a1]).bind λo435=>
 some o435
def Zmo(F:Nat):Fs yb:=⟨118,[.v (.sl .u8),.v (.sl .u8)],[],[(.sl .u8),(.sl .u8)],(zN (.sl .u8)),λx=>QM F x.1 x.2⟩
def ZfM:Fs yb:=Zmo yD
theorem Zmp:ZfM.Ok:=fnO { still:=[4,7,10]} [] [Zju,XB] ⟨Znf,Va,ytt⟩
def ZbL(F:Nat)(s:((yL yB)×(yL In)×Int×Int×Tx)):yO (((yL yB)×(yL In)×Int×Int×Tx)⊕((yL yB)×Tx)):=
 if(decide (s.2.2.2.1 < s.2.2.1))=true then
  (idx s.2.1 s.2.2.2.1).bind λe437=>
  (ZaE F s.1 e437.1.1).bind λo438=>
  (XG F o438 e437.1.2).bind λo439=>
  some (.inl (o439,s.2.1,s.2.2.1,wi (s.2.2.2.1+1),s.2.2.2.2))
 else
 some (.inr (s.1,s.2.2.2.2))
def Zni:Lp:=⟨[(1,.ref 0 []),(3,.v (.sl .u8)),(13,.v (.sl yIn)),(14,.v yI),(15,.v yI)],[.var (.v yTx) true],[(.sl .u8),(.sl yIn),yI,yI,yTx],[⟨.exit 0,[(1,.ref 0 []),(3,.v (.sl .u8))],[.var (.v yTx) true],[(.sl .u8),yTx]⟩],Zc (ZbL yD) yD⟩
def ZIt:HI:={ still:=[2,10,19,22,23,26,29,32,41,43,44,46,47,50,52]}
theorem Zqr:Zni.okA yb 74 0:=ZN ZIt [] [Zg0,Zao] ⟨ZnR,ZaV,ytt⟩
def ZbM(F:Nat)(s:((yL yB)×(yL Out)×Int×Int×Tx)):yO (((yL yB)×(yL Out)×Int×Int×Tx)⊕((yL yB)×Tx)):=
 if(decide (s.2.2.2.1 < s.2.2.1))=true then
  (idx s.2.1 s.2.2.2.1).bind λe442=>
  (XG F s.1 e442.1).bind λo443=>
  (ZaW F e442.2).bind λo444=>
  (QM F o443 o444).bind λo445=>
  some (.inl (o445,s.2.1,s.2.2.1,wi (s.2.2.2.1+1),s.2.2.2.2))
 else
 some (.inr (s.1,s.2.2.2.2))
def Znj:Lp:=⟨[(1,.ref 0 []),(3,.v (.sl .u8)),(35,.v (.sl YY)),(36,.v yI),(37,.v yI)],[.var (.v yTx) true],[(.sl .u8),(.sl YY),yI,yI,yTx],[⟨.exit 2,[(1,.ref 0 []),(3,.v (.sl .u8))],[.var (.v yTx) true],[(.sl .u8),yTx]⟩],Zc (ZbM yD) yD⟩
theorem Zqs:Znj.okA yb 74 1:=ZN ZIt [] [Zao,Zfb,ZfM] ⟨ZaV,ZiB,Zmp,ytt⟩
def ZhR(F:Nat)(a0:Tx):yO ((yL yB)):=
 (XG F [] (a0.1.length:Int)).bind λo436=>
 (Zc (ZbL F) F (o436,a0.1,(a0.1.length:Int),0,a0)).bind λo440=>
 (XG F o440.1 (o440.2.2.1.length:Int)).bind λo441=>
 (Zc (ZbM F) F (o441,o440.2.2.1,(o440.2.2.1.length:Int),0,o440.2)).bind λo446=>
 (XG F o446.1 o446.2.2.2).bind λo447=>
 some o447
def Zw3(F:Nat):Fs yb:=⟨74,[.v yTx],[],[yTx],(zN (.sl .u8)),λx=>ZhR F x⟩
def Zqt:Fs yb:=Zw3 yD
theorem Zw4:Zqt.Ok:=fnO ZIt [(0,Zni),(1,Znj)] [Zao] ⟨ZaV,ytt⟩ ⟨Zqr,Zqs,ytt⟩
def ZG6:ByteArray:=⟨#[116,120]⟩
def Zmq(F:Nat)(a0:Tx):yO ((yL yB)):=
 (WJ F a0).bind λo448=>
 if(!o448)=true then
  some yzz
 else
 (ZhR F a0).bind λo449=>
 (WH F ZG6 [o449]).bind λo450=>
 some o450
def ZEk(F:Nat):Fs yb:=⟨26,[.v yTx],[],[yTx],(zN (.arr 32 .u8)),λx=>Zmq F x⟩
def ZuK:Fs yb:=ZEk yD
theorem Zw5:ZuK.Ok:=fnO { still:=[3,7,9]} [] [Zfd,Zqt,W6] ⟨ZgZ,Zw4,W7,ytt⟩
def Qe(F:Nat)(s:(Int×Int×Tx×(yL ZW)×(yL yB))):yO ((Int×Int×Tx×(yL ZW)×(yL yB))⊕(Tx×(yL ZW)×(yL yB))):=
 if(decide (s.2.1 < s.1))=true then
  if(apB s.2.2.2.1.length 1 40)=true then
   let y453:(yL ZW):=s.2.2.2.1++([(s.2.2.2.2,s.2.1)]:yL ZW)
   some (.inl (s.1,wi (s.2.1+1),s.2.2.1,y453,s.2.2.2.2))
  else
  none
 else
 some (.inr (s.2.2.1,s.2.2.2.1,s.2.2.2.2))
def Zqu:Lp:=⟨[(2,.own 1 ZK),(3,.ref 2 []),(12,.v yI),(13,.v yI)],[.var (.v yTx) true,.log ZK 25,.var (.v (.arr 32 .u8)) true],[yI,yI,yTx,(.sl ZK),(.arr 32 .u8)],[⟨.exit 0,[(2,.own 1 ZK)],[.var (.v yTx) true,.log ZK 25,.var (.v (.arr 32 .u8)) true],[yTx,(.sl ZK),(.arr 32 .u8)]⟩],Zc (Qe yD) yD⟩
def ZJl:HI:={ own:=[2,16,21,23],still:=[2,5,7]}
theorem ZrF:Zqu.okA yb 49 0:=ZN ZJl [] [] trivial
def Zg1(F:Nat)(a0:Tx):yO ((yL ZW)):=
 (Zmq F a0).bind λo451=>
 (WJ F a0).bind λo452=>
 if(!o452)=true then
  some []
 else
 (Zc (Qe F) F ((a0.2.1.length:Int),0,a0,[],o451)).bind λo454=>
 some o454.2.1
def Zy9(F:Nat):Fs yb:=⟨49,[.v yTx],[],[yTx],(zN (.sl ZK)),λx=>Zg1 F x⟩
def ZsR:Fs yb:=Zy9 yD
theorem Zza:ZsR.Ok:=fnO ZJl [(0,Zqu)] [ZuK,Zfd] ⟨Zw5,ZgZ,ytt⟩ ⟨ZrF,ytt⟩
def Zds(F:Nat)(a0:(yL Branch)):yO ((yL Branch)):=
 if(apB 0 a0.length 48)=true then
  some a0
 else
 none
def ZrG(F:Nat):Fs yb:=⟨92,[.sl true Zp],[],[(.sl Zp)],(zN (.sl Zp)),λx=>Zds F x⟩
def ZuL:Fs yb:=ZrG yD
theorem ZrH:ZuL.Ok:=fnO { own:=[5,7],still:=[2]} [] [] trivial
def Zg2(F:Nat):yO ((yL Branch)):=
 some []
def Zmr(F:Nat):Fs yb:=⟨92,[.nil Zp],[],[],(zN (.sl Zp)),λx=>Zg2 F⟩
def ZnS:Fs yb:=Zmr yD
theorem Zms:ZnS.Ok:=fnO { own:=[5,7],still:=[2]} [] [] trivial
def ZnT(F:Nat):Fs yb:=⟨92,[.v (.sl Zp)],[],[(.sl Zp)],(zN (.sl Zp)),λx=>Zds F x⟩
def Zqv:Fs yb:=ZnT yD
theorem ZnU:Zqv.Ok:=Zul (t:=Zp) (xs:=(zN (.sl Zp))) (MA:=λ(x:(yL Branch))=>Zds yD x) (MB:=λ_=>Zg2 yD) ZrH Zms rfl
def QN(F:Nat)(a0:(yL Branch)):yO (((yL Unit)×(yL Branch))):=
 if(apB 0 a0.length 48)=true then
  some ([()],a0)
 else
 none
def Zmt(F:Nat):Fs yb:=⟨92,[.sl true Zp],[],[(.sl Zp)],[⟨.ret,[(0,.rw 0)],[.row Zp true 113],[(.sl (.st [])),(.sl Zp)]⟩],λx=>QN F x⟩
def ZnV:Fs yb:=Zmt yD
theorem Zmu:ZnV.Ok:=fnO { own:=[5,7],rowt:=[2,5,7]} [] [] trivial
def Vp(F:Nat)(a0:(yL Branch)):yO (((yL Unit)×(yL Branch))):=if a0.isEmpty=true then none else QN F a0
def Zjw(F:Nat):Fs yb:=⟨92,[.v (.sl Zp)],[],[(.sl Zp)],[⟨.ret,[(0,.rw 0)],[.row Zp true 113],[(.sl (.st [])),(.sl Zp)]⟩],λx=>Vp F x⟩
def Zdt:Fs yb:=Zjw yD
theorem ZcF:Zdt.Ok:=Zus (t:=Zp) (xs:=[⟨.ret,[(0,.rw 0)],[.row Zp true 113],[(.sl (.st [])),(.sl Zp)]⟩]) (MA:=λ(x:(yL Branch))=>QN yD x) Zmu rfl (λ_ _=>rfl)
def QO(F:Nat)(a0:(yL Branch)):yO (((yL Unit)×(yL Branch))⊕(yL Branch)):=if a0.isEmpty=true then(Zds F a0).map Sum.inr else(Vp F a0).map Sum.inl
def Zh2(F:Nat):Fs yb:=⟨92,[.v (.sl Zp)],[],[(.sl Zp)],[⟨.ret,[(0,.rw 0)],[.row Zp true 113],[(.sl (.st [])),(.sl Zp)]⟩,⟨.ret,[(0,.v (.sl Zp))],[],[(.sl Zp)]⟩],λx=>QO F x⟩
def ZcG:Fs yb:=Zh2 yD
theorem Zh3:ZcG.Ok:=ZJa (ins:=[(.sl Zp)]) (λx:(yL Branch)=>x.isEmpty) ZcF ZnU
def Xs(F:Nat)(s:(Int×Int×Int×Out×(yL Unit)×(yL Branch))):yO ((Int×Int×Int×Out×(yL Unit)×(yL Branch))⊕(Int×Out×(yL Unit)×(yL Branch))):=
 if(decide (s.2.1 < s.1))=true then
  if(inB s.2.1 s.2.2.2.2.2.length)=true then
   (s.2.2.2.2.2[s.2.1.toNat]?).bind λe464=>
   (Ws F e464.1).bind λo465=>
   if(inB s.2.1 s.2.2.2.2.2.length)=true then
    (s.2.2.2.2.2[s.2.1.toNat]?).bind λe466=>
    let y467:(yL Branch):=s.2.2.2.2.2.set s.2.1.toNat (o465,e466.2.1,e466.2.2.1,e466.2.2.2)
    some (.inl (s.1,wi (s.2.1+1),s.2.2.1,s.2.2.2.1,s.2.2.2.2.1,y467))
   else
   none
  else
  none
 else
 some (.inr (s.2.2.1,s.2.2.2.1,s.2.2.2.2.1,s.2.2.2.2.2))
def ZfN:Lp:=⟨[(1,.ref 0 []),(2,.ref 1 []),(13,.rw 2),(14,.v yI),(15,.v yI)],[.var (.agg [.v yI,.agg [.rw 2]]) true,.var (.v YY) true,.row Zp true 113],[yI,yI,yI,YY,(.sl (.st [])),(.sl Zp)],[⟨.exit 0,[(1,.ref 0 []),(2,.ref 1 [])],[.var (.agg [.v yI,.agg [.rw 2]]) true,.var (.v YY) true,.row Zp true 113],[yI,YY,(.sl (.st [])),(.sl Zp)]⟩],Zc (Xs yD) yD⟩
def ZIu:HI:={ still:=[7,25],rowt:=[8,22],deep:=[75]}
theorem Zjx:ZfN.okA yb 51 0:=ZN ZIu [] [VH] ⟨Qx,ytt⟩
def ZcH(F:Nat)(s:((yL Branch)×Int×Int×Out×Out)):yO (((yL Branch)×Int×Int×Out×Out)⊕(Out×Out)):=
 if(decide (s.2.2.1 < s.2.1))=true then
  (idx s.1 s.2.2.1).bind λe470=>
  (Ws F e470.1).bind λo471=>
  (idx s.2.2.2.1.2 s.2.2.1).bind λe472=>
  none
 else
 some (.inr (s.2.2.2.1,s.2.2.2.2))
def Zdu:Lp:=⟨[(1,.ref 0 []),(2,.ref 1 []),(13,.v (.sl Zp)),(14,.v yI),(15,.v yI)],[.var (.v YY) true,.var (.v YY) true],[(.sl Zp),yI,yI,YY,YY],[⟨.exit 0,[(1,.ref 0 []),(2,.ref 1 [])],[.var (.v YY) true,.var (.v YY) true],[YY,YY]⟩],Zc (ZcH yD) yD⟩
theorem Zg3:Zdu.okA yb 51 0:=ZN ZIu [] [VH] ⟨Qx,ytt⟩
def VK(F:Nat)(a0:Out):yO (Out):=
 (QO F a0.2).bind λo462=>
 match o462 with
 |.inl o463=>
  (Zc (Xs F) F ((o463.2.length:Int),0,a0.1,(0,[]),o463.1,o463.2)).bind λo468=>
  some (o468.1,o468.2.2.2)
 |.inr o469=>
  (Zc (ZcH F) F (o469,(o469.length:Int),0,(a0.1,o469),(0,[]))).bind λo473=>
  some o473.1
def ZnW(F:Nat):Fs yb:=⟨51,[.v YY],[],[YY],(zN YY),λx=>VK F x⟩
def ZcI:Fs yb:=ZnW yD
theorem ZfO:ZcI.Ok:=ZAn (fi:={ hi:=ZIu,lp:=[(0,ZfN),(0,Zdu)]}) (specs:={ l:=[ZcG]}) (okS ⟨Zh3,ytt⟩) ⟨Zjx,Zg3,ytt⟩
def QP(F:Nat)(a0:Out)(a1:Int)(a2:Int):yO (Int):=
 (idx a0.2 a1).bind λe474=>
 some (ZBn e474.2.1 (wi (a2+e474.2.2.1)))
def Zqw(F:Nat):Fs yb:=⟨52,[.v YY,.v yI,.v yI],[],[YY,yI,yI],(zN yI),λx=>QP F x.1 x.2.1 x.2.2⟩
def ZiF:Fs yb:=Zqw yD
theorem Zqx:ZiF.Ok:=fnO { still:=[6]} [] [] trivial
def Xt(F:Nat)(s:(yU×(yL yU)×Int×Int)):yO ((yU×(yL yU)×Int×Int)⊕((yU×Bool)⊕Unit)):=
 if(decide (s.2.2.2 < s.2.2.1))=true then
  (idx s.2.1 s.2.2.2).bind λe475=>
  (ZO F e475).bind λo476=>
  if(o476==s.1)=true then
   some (.inr (.inl (e475,true)))
  else
  some (.inl (s.1,s.2.1,s.2.2.1,wi (s.2.2.2+1)))
 else
 some (.inr (.inr ()))
def ZfP:Lp:=⟨[(1,.v .u64),(8,.v (.sl .u64)),(9,.v yI),(10,.v yI)],[],[.u64,(.sl .u64),yI,yI],[⟨.ret,[(4,.v .u64),(5,.v .bool)],[],[.u64,.bool]⟩,⟨.exit 0,[],[],[]⟩],Zc (Xt yD) yD⟩
theorem Zjy:ZfP.okA yb 53 0:=ZN { still:=[4,5,14]} [] [Y4] ⟨YE,ytt⟩
def ZaF(F:Nat)(a0:(yL yU))(a1:yU):yO ((yU×Bool)):=
 (Zc (Xt F) F (a1,a0,(a0.length:Int),0)).bind λo477=>
 match o477 with
 |.inl o478=>
  some (o478.1,o478.2)
 |.inr o479=>
  some (0,false)
def ZnX(F:Nat):Fs yb:=⟨53,[.v (.sl .u64),.v .u64],[],[(.sl .u64),.u64],[⟨.ret,[(0,.tup [.v .u64,.v .bool])],[],[.u64,.bool]⟩],λx=>ZaF F x.1 x.2⟩
def Zg4:Fs yb:=ZnX yD
theorem ZnY:Zg4.Ok:=fnO { still:=[4,5,14]} [(0,ZfP)] [] trivial ⟨Zjy,ytt⟩
abbrev WE:Ty:=(.st [.u64,.u64,.u64,.u64,.u64,(.arr 32 .u8)])
abbrev Kit:Type:=(yU×yU×yU×yU×yU×(yL yB))
abbrev Kit.Cond(x:Kit):yU:=x.2.2.2.1
abbrev Zu:Ty:=(.st [ZK,YY,yI,.u64,yI,yI])
abbrev ZL:Type:=(ZW×Out×Int×yU×Int×Int)
abbrev ZL.Branch(x:ZL):Int:=x.2.2.1
abbrev ZsS:Ty:=(.st [yI,.bool])
abbrev Zw6:Type:=(Int×Bool)
def Zg5(F:Nat):yO (yL ((yL Int)×Zw6)):=some [([1,1],(1,false)),([5,1],(2,false)),([5,0],(1,true)),([6,1],(1,true)),([6,0],(2,false))]
def ZrI(F:Nat):Fs yb:=⟨50,[],[.gone],[],[⟨.ret,[(0,.mp 0)],[.map 125 (.arr 2 yI) ZsS],[(Zjk (.arr 2 yI) ZsS)]⟩],λx=>Zg5 F⟩
def Zk4:Fs yb:=ZrI yD
theorem ZrJ:Zk4.Ok:=ZGe λ_=>rfl
abbrev dT3:Type:=(Int×(yL yU)×Int×(yL ZW)×(yL QH)×Int×Int×Chan×Kit×Commit×(yL ZL))
def Vc(F:Nat)(s:dT3):yO (dT3⊕(Chan×Kit×Commit×(yL ZL))):=
 if(decide (s.2.2.2.2.2.2.1 < s.2.2.2.2.2.1))=true then
  (idx s.2.2.2.2.1 s.2.2.2.2.2.2.1).bind λe482=>
  (Zg5 F).bind λo483=>
  ZmT (Zbs o483 ([e482.1,s.2.2.1]:yL Int)) (λe484=>
   (idx s.2.2.2.2.2.2.2.2.2.1.1.2.1 s.2.2.2.2.2.2.1).bind λe485=>
   (idx s.2.2.2.1 s.2.2.2.2.2.2.1).bind λe486=>
   (VK F e485).bind λo487=>
   (QP F e485 e484.1 s.1).bind λo488=>
   if e484.2=true then
    (ZaF F s.2.1 e482.2.2.2.2.1).bind λo489=>
    if(!o489.2)=true then
     some (.inl (s.1,s.2.1,s.2.2.1,s.2.2.2.1,s.2.2.2.2.1,s.2.2.2.2.2.1,wi (s.2.2.2.2.2.2.1+1),s.2.2.2.2.2.2.2.1,s.2.2.2.2.2.2.2.2.1,s.2.2.2.2.2.2.2.2.2.1,s.2.2.2.2.2.2.2.2.2.2))
    else
    (QP F e485 2 s.1).bind λo490=>
    if(apB s.2.2.2.2.2.2.2.2.2.2.length 1 104)=true then
     let y491:(yL ZL):=s.2.2.2.2.2.2.2.2.2.2++([(e486,o487,e484.1,o489.1,o488,o490)]:yL ZL)
     some (.inl (s.1,s.2.1,s.2.2.1,s.2.2.2.1,s.2.2.2.2.1,s.2.2.2.2.2.1,wi (s.2.2.2.2.2.2.1+1),s.2.2.2.2.2.2.2.1,s.2.2.2.2.2.2.2.2.1,s.2.2.2.2.2.2.2.2.2.1,y491))
    else
    none
   else
   if(apB s.2.2.2.2.2.2.2.2.2.2.length 1 104)=true then
    let y492:(yL ZL):=s.2.2.2.2.2.2.2.2.2.2++([(e486,o487,e484.1,0,o488,0)]:yL ZL)
    some (.inl (s.1,s.2.1,s.2.2.1,s.2.2.2.1,s.2.2.2.2.1,s.2.2.2.2.2.1,wi (s.2.2.2.2.2.2.1+1),s.2.2.2.2.2.2.2.1,s.2.2.2.2.2.2.2.2.1,s.2.2.2.2.2.2.2.2.2.1,y492))
   else
   none) (
   some (.inl (s.1,s.2.1,s.2.2.1,s.2.2.2.1,s.2.2.2.2.1,s.2.2.2.2.2.1,wi (s.2.2.2.2.2.2.1+1),s.2.2.2.2.2.2.2.1,s.2.2.2.2.2.2.2.2.1,s.2.2.2.2.2.2.2.2.2.1,s.2.2.2.2.2.2.2.2.2.2)))
 else
 some (.inr (s.2.2.2.2.2.2.2.1,s.2.2.2.2.2.2.2.2.1,s.2.2.2.2.2.2.2.2.2.1,s.2.2.2.2.2.2.2.2.2.2))
abbrev tL4:yL Ty:=[yI,(.sl .u64),yI,(.sl ZK),(.sl ZgQ),yI,yI,ZJ,WE,Z0,(.sl Zu)]
def ZiG:Lp:=⟨[(6,.v yI),(7,.v (.sl .u64)),(12,.ref 2 []),(16,.own 3 Zu),(17,.v yI),(18,.v (.sl ZK)),(54,.v (.sl ZgQ)),(55,.v yI),(56,.v yI)],[.var (.v ZJ) true,.var (.v WE) true,.var (.v Z0) true,.log Zu 77],tL4,[⟨.exit 0,[(16,.own 3 Zu)],[.var (.v ZJ) true,.var (.v WE) true,.var (.v Z0) true,.log Zu 77],[ZJ,WE,Z0,(.sl Zu)]⟩],Zc (Vc yD) yD⟩
def ZJm:HI:={ own:=[16,109,112,114],still:=[16,34,51,82,86,88,89,95,98,105,106]}
theorem Zmv:ZiG.okA yb 9 0:=Zuk (fi:={ hi:=ZJm,gh:=[(4,.hole)]}) (specs:={ l:=[Zk4,ZcI,ZiF,Zg4]}) (okS ⟨ZrJ,ZfO,Zqx,ZnY,ytt⟩)
def Zdv(F:Nat)(a0:Chan)(a1:Kit)(a2:Int)(a3:Int)(a4:Commit)(a5:yU)(a6:Int)(a7:(yL yU)):yO ((yL ZL)):=
 if((bits .andNot .i64 a2 1)!=0)=true then
  some []
 else
 if((bits .andNot .i64 a3 1)!=0)=true then
  some []
 else
 (Xi F a5).bind λo480=>
 if(!o480)=true then
  some []
 else
 if(decide (a6 < 0))=true then
  some []
 else
 if(decide (a6 > 1048576))=true then
  some []
 else
 (Zg1 F a4.1).bind λo481=>
 (Zc (Vc F) F (a6,a7,wi (1 - (bits .xor .i64 a2 a3)),o481,a4.2,(a4.2.length:Int),0,a0,a1,a4,[])).bind λo493=>
 some o493.2.2.2
def ZdP(F:Nat):Fs yb:=⟨9,[.v ZJ,.v WE,.v yI,.v yI,.v Z0,.v .u64,.v yI,.v (.sl .u64)],[],[ZJ,WE,yI,yI,Z0,.u64,yI,(.sl .u64)],(zN (.sl Zu)),λx=>Zdv F x.1 x.2.1 x.2.2.1 x.2.2.2.1 x.2.2.2.2.1 x.2.2.2.2.2.1 x.2.2.2.2.2.2.1 x.2.2.2.2.2.2.2⟩
def Zk5:Fs yb:=ZdP yD
theorem ZiH:Zk5.Ok:=fnO ZJm [(0,ZiG)] [XU,ZsR] ⟨X7,Zza,ytt⟩ ⟨Zmv,ytt⟩
def Zen(F:Nat)(a0:yU):yO (yU):=
 some (a0 % 2305843009213688669)
def Zw7(F:Nat):Fs yb:=⟨141,[.v .u64],[],[.u64],(zN .u64),λx=>Zen F x⟩
def Zjz:Fs yb:=Zw7 yD
theorem Znk:Zjz.Ok:=fnO { still:=[2]} [] [] trivial
def ZfQ(F:Nat)(a0:yU)(a1:yU):yO (yU):=
 some ((a0+a1) % 2305843009213688669)
def Zk6(F:Nat):Fs yb:=⟨142,[.v .u64,.v .u64],[],[.u64,.u64],(zN .u64),λx=>ZfQ F x.1 x.2⟩
def Zeo:Fs yb:=Zk6 yD
theorem Zk7:Zeo.Ok:=fnO { still:=[4]} [] [] trivial
def ZjA(F:Nat)(a0:yU)(a1:yU):yO (yU):=
 (Zen F a0).bind λo494=>
 (Zen F a1).bind λo495=>
 (ZfQ F o494 o495).bind λo496=>
 some o496
def ZuM(F:Nat):Fs yb:=⟨99,[.v .u64,.v .u64],[],[.u64,.u64],(zN .u64),λx=>ZjA F x.1 x.2⟩
def Zg6:Fs yb:=ZuM yD
theorem Zk8:Zg6.Ok:=fnO { still:=[4,5,6,7,8]} [] [Zjz,Zeo] ⟨Znk,Zk7,ytt⟩
def Zbd(F:Nat)(a0:yU)(a1:yU):yO (yU):=
 (ZO F a0).bind λo497=>
 (Wv F ZEj [a1,o497]).bind λo498=>
 (ZjA F a0 o498).bind λo499=>
 some o499
def Zk9(F:Nat):Fs yb:=⟨59,[.v .u64,.v .u64],[],[.u64,.u64],(zN .u64),λx=>Zbd F x.1 x.2⟩
def Zep:Fs yb:=Zk9 yD
theorem Zla:Zep.Ok:=fnO { still:=[4,5,7,9,10]} [] [Y4,ZaC,Zg6] ⟨YE,Zct,Zk8,ytt⟩
def Zg7(F:Nat)(s:(yU×(yL ZL)×Int×Int×Kit×Commit×(yL Unit)×(yL yU))):yO ((yU×(yL ZL)×Int×Int×Kit×Commit×(yL Unit)×(yL yU))⊕(Kit×Commit×(yL Unit)×(yL yU))):=
 if(decide (s.2.2.2.1 < s.2.2.1))=true then
  (idx s.2.1 s.2.2.2.1).bind λe500=>
  if(decide (e500.1.2 < 0))=true then
   some (.inl (s.1,s.2.1,s.2.2.1,wi (s.2.2.2.1+1),s.2.2.2.2.1,s.2.2.2.2.2.1,s.2.2.2.2.2.2.1,s.2.2.2.2.2.2.2))
  else
  let y501:Bool:=decide (e500.1.2 >= (s.2.2.2.2.2.1.2.length:Int))
  if y501=true then
   some (.inl (s.1,s.2.1,s.2.2.1,wi (s.2.2.2.1+1),s.2.2.2.2.1,s.2.2.2.2.2.1,s.2.2.2.2.2.2.1,s.2.2.2.2.2.2.2))
  else
  (idx s.2.2.2.2.2.1.2 e500.1.2).bind λe502=>
  if(e502.1==1)=true then
   (Zbd F s.2.2.2.2.1.2.2.1 s.1).bind λo503=>
   if(inB s.2.2.2.1 s.2.2.2.2.2.2.2.length)=true then
    (s.2.2.2.2.2.2.2[s.2.2.2.1.toNat]?).bind λe504=>
    some (.inl (s.1,s.2.1,s.2.2.1,wi (s.2.2.2.1+1),s.2.2.2.2.1,s.2.2.2.2.2.1,s.2.2.2.2.2.2.1,s.2.2.2.2.2.2.2.set s.2.2.2.1.toNat o503))
   else
   none
  else
  (Zbd F s.2.2.2.2.1.2.2.2.1 s.1).bind λo505=>
  if(inB s.2.2.2.1 s.2.2.2.2.2.2.2.length)=true then
   (s.2.2.2.2.2.2.2[s.2.2.2.1.toNat]?).bind λe506=>
   some (.inl (s.1,s.2.1,s.2.2.1,wi (s.2.2.2.1+1),s.2.2.2.2.1,s.2.2.2.2.2.1,s.2.2.2.2.2.2.1,s.2.2.2.2.2.2.2.set s.2.2.2.1.toNat o505))
  else
  none
 else
 some (.inr (s.2.2.2.2.1,s.2.2.2.2.2.1,s.2.2.2.2.2.2.1,s.2.2.2.2.2.2.2))
def ZiI:Lp:=⟨[(2,.v .u64),(4,.ref 0 []),(5,.ref 1 []),(9,.rw 2),(15,.v (.sl Zu)),(16,.v yI),(17,.v yI)],[.var (.v WE) true,.var (.v Z0) true,.row .u64 true 36],[.u64,(.sl Zu),yI,yI,WE,Z0,(.sl (.st [])),(.sl .u64)],[⟨.exit 0,[(9,.rw 2)],[.var (.v WE) true,.var (.v Z0) true,.row .u64 true 36],[WE,Z0,(.sl (.st [])),(.sl .u64)]⟩],Zc (Zg7 yD) yD⟩
def ZJn:HI:={ still:=[8,25,26,56,57],rowt:=[9,14,22,53],mkn:=[14]}
theorem Zmw:ZiI.okA yb 11 0:=ZN ZJn [] [Zep] ⟨Zla,ytt⟩
def Zw8(F:Nat)(a0:Kit)(a1:Commit)(a2:yU)(a3:(yL ZL)):yO ((yL yU)):=
 if((decide ((a3.length:Int)=(a3.length:Int)))&&(Zgo (a3.length:Int) 8))=true then
  (Zc (Zg7 F) F (a2,a3,(a3.length:Int),0,a0,a1,[],yx ((a3.length:Int).toNat) (0:yU))).bind λo507=>
  some o507.2.2.2
 else
 none
def ZdQ(F:Nat):Fs yb:=⟨11,[.v WE,.v Z0,.v .u64,.v (.sl Zu)],[],[WE,Z0,.u64,(.sl Zu)],(zN (.sl .u64)),λx=>Zw8 F x.1 x.2.1 x.2.2.1 x.2.2.2⟩
def ZuN:Fs yb:=ZdQ yD
theorem ZrK:ZuN.Ok:=fnO ZJn [(0,ZiI)] [] trivial ⟨Zmw,ytt⟩
def Zg8(F:Nat)(s:(Int×(yL ZL)×Int×Int)):yO ((Int×(yL ZL)×Int×Int)⊕Int):=
 if(decide (s.2.2.2 < s.2.2.1))=true then
  (idx s.2.1 s.2.2.2).bind λe508=>
  some (.inl (ZBn s.1 e508.2.2.2.2.1,s.2.1,s.2.2.1,wi (s.2.2.2+1)))
 else
 some (.inr s.1)
def ZiJ:Lp:=⟨[(2,.v yI),(5,.v (.sl Zu)),(6,.v yI),(7,.v yI)],[],[yI,(.sl Zu),yI,yI],[⟨.exit 0,[(2,.v yI)],[],[yI]⟩],Zc (Zg8 yD) yD⟩
theorem Zmx:ZiJ.okA yb 14 0:=ZN { still:=[2]} [] [] trivial
def Zw9(F:Nat)(a0:(yL ZL)):yO (Int):=
 (Zc (Zg8 F) F (0,a0,(a0.length:Int),0)).bind λo509=>
 some o509
def ZdR(F:Nat):Fs yb:=⟨14,[.v (.sl Zu)],[],[(.sl Zu)],(zN yI),λx=>Zw9 F x⟩
def ZuO:Fs yb:=ZdR yD
theorem ZrL:ZuO.Ok:=fnO { still:=[2]} [(0,ZiJ)] [] trivial ⟨Zmx,ytt⟩
def Zlb(F:Nat)(a0:ZL)(a1:Int):yO (Bool):=
 if(decide (a0.2.2.2.2.1<=a1))=true then
  if(a0.2.2.2.2.2==0)=true then
   some true
  else
  some (decide (a1 < a0.2.2.2.2.2))
 else
 some false
def ZcJ(F:Nat):Fs yb:=⟨31,[.v Zu,.v yI],[],[Zu,yI],(zN .bool),λx=>Zlb F x.1 x.2⟩
def ZiK:Fs yb:=ZcJ yD
theorem Zg9:ZiK.Ok:=fnO { still:=[4]} [] [] trivial
def Zha(F:Nat)(s:(Int×(yL ZL)×Int×Int×(yL ZL))):yO ((Int×(yL ZL)×Int×Int×(yL ZL))⊕(yL ZL)):=
 if(decide (s.2.2.2.1 < s.2.2.1))=true then
  (idx s.2.1 s.2.2.2.1).bind λe510=>
  (Zlb F e510 s.1).bind λo511=>
  if o511=true then
   (VK F e510.2.1).bind λo512=>
   if(apB s.2.2.2.2.length 1 104)=true then
    let y513:(yL ZL):=s.2.2.2.2++([(e510.1,o512,e510.2.2.1,e510.2.2.2.1,e510.2.2.2.2.1,e510.2.2.2.2.2)]:yL ZL)
    some (.inl (s.1,s.2.1,s.2.2.1,wi (s.2.2.2.1+1),y513))
   else
   none
  else
  some (.inl (s.1,s.2.1,s.2.2.1,wi (s.2.2.2.1+1),s.2.2.2.2))
 else
 some (.inr s.2.2.2.2)
def ZiL:Lp:=⟨[(1,.v yI),(4,.own 0 Zu),(7,.v (.sl Zu)),(8,.v yI),(9,.v yI)],[.log Zu 77],[yI,(.sl Zu),yI,yI,(.sl Zu)],[⟨.exit 0,[(4,.own 0 Zu)],[.log Zu 77],[(.sl Zu)]⟩],Zc (Zha yD) yD⟩
def ZJo:HI:={ own:=[4,20,23,25],still:=[4,13,14,17]}
theorem Zmy:ZiL.okA yb 16 0:=ZN ZJo [] [ZiK,ZcI] ⟨Zg9,ZfO,ytt⟩
def Zxa(F:Nat)(a0:(yL ZL))(a1:Int):yO ((yL ZL)):=
 (Zc (Zha F) F (a1,a0,(a0.length:Int),0,[])).bind λo514=>
 some o514
def ZdS(F:Nat):Fs yb:=⟨16,[.v (.sl Zu),.v yI],[],[(.sl Zu),yI],(zN (.sl Zu)),λx=>Zxa F x.1 x.2⟩
def ZuP:Fs yb:=ZdS yD
theorem ZrM:ZuP.Ok:=fnO ZJo [(0,ZiL)] [] trivial ⟨Zmy,ytt⟩
def Zxb(F:Nat)(a0:(yL yB)):yO (yU):=
 (Wj F a0).bind λo515=>
 (ZO F o515).bind λo516=>
 some o516
def ZdT(F:Nat):Fs yb:=⟨21,[.v (.arr 32 .u8)],[],[(.arr 32 .u8)],(zN .u64),λx=>Zxb F x⟩
def ZuQ:Fs yb:=ZdT yD
theorem ZrN:ZuQ.Ok:=fnO { still:=[2,3,4]} [] [Vl,Y4] ⟨VI,YE,ytt⟩
def Zfe(F:Nat)(a0:yU):yO (Bool):=
 some (decide (a0 < 2305843009213688669))
def ZcK(F:Nat):Fs yb:=⟨69,[.v .u64],[],[.u64],(zN .bool),λx=>Zfe F x⟩
def ZdU:Fs yb:=ZcK yD
theorem ZcL:ZdU.Ok:=fnO { still:=[2]} [] [] trivial
def Zqy(F:Nat)(a0:yU):yO (Bool):=
 if(a0==0)=true then
  some true
 else
 (Zfe F a0).bind λo517=>
 some (!o517)
def ZuR(F:Nat):Fs yb:=⟨109,[.v .u64],[],[.u64],(zN .bool),λx=>Zqy F x⟩
def Znl:Fs yb:=ZuR yD
theorem ZuS:Znl.Ok:=fnO { still:=[2,6]} [] [ZdU] ⟨ZcL,ytt⟩
def ZsT(F:Nat)(a0:yU):yO (Bool):=
 (Zfe F a0).bind λo518=>
 if o518=true then
  some (a0 !=0)
 else
 some false
def Zxc(F:Nat):Fs yb:=⟨149,[.v .u64],[],[.u64],(zN .bool),λx=>ZsT F x⟩
def Zqz:Fs yb:=Zxc yD
theorem Zxd:Zqz.Ok:=fnO { still:=[2,3]} [] [ZdU] ⟨ZcL,ytt⟩
def Zhb(F:Nat)(s:(yU×Int×Int×(yL yB))):yO ((yU×Int×Int×(yL yB))⊕(yL yB)):=
 if(decide (s.2.2.1 < s.2.1))=true then
  if(decide (0<=wi (56 - (wi (8*s.2.2.1)))))=true then
   let y519:yU:=Zs s.1 (min (wi (56 - (wi (8*s.2.2.1)))).toNat 64)
   if(inB s.2.2.1 8)=true then
    (s.2.2.2[(0+s.2.2.1.toNat)]?).bind λe520=>
    let y521:(yL yB):=s.2.2.2.set (0+s.2.2.1.toNat) (w8 (y519.toNat:Int))
    some (.inl (s.1,s.2.1,wi (s.2.2.1+1),y521))
   else
   none
  else
  none
 else
 some (.inr s.2.2.2)
def ZiM:Lp:=⟨[(0,.v .u64),(3,.view 0 [] 1 0 8),(7,.v yI),(8,.v yI)],[.var (.v (.arr 8 .u8)) true],[.u64,yI,yI,(.arr 8 .u8)],[⟨.exit 0,[(3,.view 0 [] 1 0 8)],[.var (.v (.arr 8 .u8)) true],[(.arr 8 .u8)]⟩],Zc (Zhb yD) yD⟩
theorem Zmz:ZiM.okA yb 151 0:=ZN { still:=[2]} [] [] trivial
def Zdw(F:Nat)(a0:yU):yO ((yL yB)):=
 (Zc (Zhb F) F (a0,8,0,[0,0,0,0,0,0,0,0])).bind λo522=>
 some ((o522.drop 0).take 8)
def ZrO(F:Nat):Fs yb:=⟨151,[.v .u64],[],[.u64],(zN (.sl .u8)),λx=>Zdw F x⟩
def Zff:Fs yb:=ZrO yD
theorem ZiN:Zff.Ok:=fnO { still:=[2]} [(0,ZiM)] [] trivial ⟨Zmz,ytt⟩
def ZJp:ByteArray:=⟨#[115,105,103]⟩
def ZfR(F:Nat)(a0:yU)(a1:yU)(a2:(yL yB)):yO (yU):=
 (Zdw F a0).bind λo523=>
 (Zdw F a1).bind λo524=>
 (WH F ZJp [o523,o524,a2]).bind λo525=>
 (Wj F o525).bind λo526=>
 some o526
def Zlc(F:Nat):Fs yb:=⟨161,[.v .u64,.v .u64,.v (.arr 32 .u8)],[],[.u64,.u64,(.arr 32 .u8)],(zN .u64),λx=>ZfR F x.1 x.2.1 x.2.2⟩
def Zeq:Fs yb:=Zlc yD
def ZJO:HI:={ still:=[6,7,9,12,13],frz:=[11]}
theorem Zld:Zeq.Ok:=fnO ZJO [] [Zff,W6,Vl] ⟨ZiN,W7,VI,ytt⟩
def Zer(F:Nat)(a0:yU)(a1:yU):yO (yU):=
 (Zdf F a0 a1).bind λo527=>
 (Wg F o527.1 o527.2 2305843009213688669).bind λo528=>
 some o528
def ZjB(F:Nat):Fs yb:=⟨184,[.v .u64,.v .u64],[],[.u64,.u64],(zN .u64),λx=>Zer F x.1 x.2⟩
def Zdx:Fs yb:=ZjB yD
theorem ZjC:Zdx.Ok:=fnO { still:=[4,8,9,13,14]} [] [Ze1,Zbx] ⟨Zij,ZdB,ytt⟩
def ZqA(F:Nat)(a0:yU)(a1:yU):yO (yU):=
 (Zen F a0).bind λo529=>
 (Zen F a1).bind λo530=>
 (Zer F o529 o530).bind λo531=>
 some o531
def ZuT(F:Nat):Fs yb:=⟨174,[.v .u64,.v .u64],[],[.u64,.u64],(zN .u64),λx=>ZqA F x.1 x.2⟩
def Znm:Fs yb:=ZuT yD
theorem ZuU:Znm.Ok:=fnO { still:=[4,5,6,7,8]} [] [Zjz,Zdx] ⟨Znk,ZjC,ytt⟩
def Zle(F:Nat)(a0:yU)(a1:yU)(a2:(yL yB))(a3:yU):yO (Sig):=
 (ZO F a1).bind λo532=>
 (Zak F o532 a3).bind λo533=>
 (ZO F a0).bind λo534=>
 (ZfR F o533 o534 a2).bind λo535=>
 (ZqA F o535 a0).bind λo536=>
 (ZjA F a1 o536).bind λo537=>
 some (o533,o537)
def ZqB(F:Nat):Fs yb:=⟨150,[.v .u64,.v .u64,.v (.arr 32 .u8),.v .u64],[],[.u64,.u64,(.arr 32 .u8),.u64],(zN ZaS),λx=>Zle F x.1 x.2.1 x.2.2.1 x.2.2.2⟩
def ZiO:Fs yb:=ZqB yD
def ZJP:HI:={ still:=[9,10,11,14,16,17,18,19,20,21,22]}
theorem ZqC:ZiO.Ok:=fnO ZJP [] [Y4,Zdi,Zeq,Znm,Zg6] ⟨YE,Ze5,Zld,ZuU,Zk8,ytt⟩
def ZJq:ByteArray:=⟨#[110,111,110,99,101]⟩
def ZqD(F:Nat)(a0:yU)(a1:(yL yB)):yO (Sig):=
 (ZsT F a0).bind λo538=>
 if(!o538)=true then
  some (0,0)
 else
 (Zdw F a0).bind λo539=>
 (WH F ZJq [o539,a1]).bind λo540=>
 (Wj F o540).bind λo541=>
 (Zle F a0 o541 a1 1).bind λo542=>
 some o542
def ZuV(F:Nat):Fs yb:=⟨112,[.v .u64,.v (.arr 32 .u8)],[],[.u64,(.arr 32 .u8)],(zN ZaS),λx=>ZqD F x.1 x.2⟩
def Znn:Fs yb:=ZuV yD
def ZJQ:HI:={ still:=[5,9,10,13,14,15,16],frz:=[12]}
theorem ZuW:Znn.Ok:=fnO ZJQ [] [Zqz,Zff,W6,Vl,ZiO] ⟨Zxd,ZiN,W7,VI,ZqC,ytt⟩
def Zlf(F:Nat)(a0:(yL Sig)):yO ((yL Sig)):=
 if(apB 0 a0.length 16)=true then
  some a0
 else
 none
def Zzb(F:Nat):Fs yb:=⟨154,[.sl true ZaS],[],[(.sl ZaS)],(zN (.sl ZaS)),λx=>Zlf F x⟩
def ZBR:Fs yb:=Zzb yD
theorem Zzc:ZBR.Ok:=fnO { own:=[5,7],still:=[2]} [] [] trivial
def Zno(F:Nat):yO ((yL Sig)):=
 some []
def ZrP(F:Nat):Fs yb:=⟨154,[.nil ZaS],[],[],(zN (.sl ZaS)),λx=>Zno F⟩
def ZuX:Fs yb:=ZrP yD
theorem ZrQ:ZuX.Ok:=fnO { own:=[5,7],still:=[2]} [] [] trivial
def ZuY(F:Nat):Fs yb:=⟨154,[.v (.sl ZaS)],[],[(.sl ZaS)],(zN (.sl ZaS)),λx=>Zlf F x⟩
def Znp:Fs yb:=ZuY yD
theorem ZuZ:Znp.Ok:=Zul (t:=ZaS) (xs:=(zN (.sl ZaS))) (MA:=λ(x:(yL Sig))=>Zlf yD x) (MB:=λ_=>Zno yD) Zzc ZrQ rfl
def ZjD(F:Nat)(a0:(yL In)):yO (((yL Unit)×(yL In))):=
 if(apB 0 a0.length 80)=true then
  some ([()],a0)
 else
 none
def Zu0(F:Nat):Fs yb:=⟨152,[.sl true yIn],[],[(.sl yIn)],[⟨.ret,[(0,.rw 0)],[.row yIn true 90],[(.sl (.st [])),(.sl yIn)]⟩],λx=>ZjD F x⟩
def Zxe:Fs yb:=Zu0 yD
theorem Zu1:Zxe.Ok:=fnO { own:=[5,7],rowt:=[2,5,7]} [] [] trivial
def Zlg(F:Nat)(a0:(yL In)):yO (((yL Unit)×(yL In))):=if a0.isEmpty=true then none else ZjD F a0
def ZqE(F:Nat):Fs yb:=⟨152,[.v (.sl yIn)],[],[(.sl yIn)],[⟨.ret,[(0,.rw 0)],[.row yIn true 90],[(.sl (.st [])),(.sl yIn)]⟩],λx=>Zlg F x⟩
def ZiP:Fs yb:=ZqE yD
theorem ZqF:ZiP.Ok:=Zus (t:=yIn) (xs:=[⟨.ret,[(0,.rw 0)],[.row yIn true 90],[(.sl (.st [])),(.sl yIn)]⟩]) (MA:=λ(x:(yL In))=>ZjD yD x) Zu1 rfl (λ_ _=>rfl)
def Zhc(F:Nat)(a0:(yL Out)):yO (((yL Unit)×(yL Out))):=
 if(apB 0 a0.length 32)=true then
  some ([()],a0)
 else
 none
def ZrR(F:Nat):Fs yb:=⟨153,[.sl true YY],[],[(.sl YY)],[⟨.ret,[(0,.rw 0)],[.row YY true 75],[(.sl (.st [])),(.sl YY)]⟩],λx=>Zhc F x⟩
def Zu2:Fs yb:=ZrR yD
theorem ZrS:Zu2.Ok:=fnO { own:=[5,7],rowt:=[2,5,7]} [] [] trivial
def ZiQ(F:Nat)(a0:(yL Out)):yO (((yL Unit)×(yL Out))):=if a0.isEmpty=true then none else Zhc F a0
def ZnZ(F:Nat):Fs yb:=⟨153,[.v (.sl YY)],[],[(.sl YY)],[⟨.ret,[(0,.rw 0)],[.row YY true 75],[(.sl (.st [])),(.sl YY)]⟩],λx=>ZiQ F x⟩
def Zhd:Fs yb:=ZnZ yD
theorem Zn0:Zhd.Ok:=Zus (t:=YY) (xs:=[⟨.ret,[(0,.rw 0)],[.row YY true 75],[(.sl (.st [])),(.sl YY)]⟩]) (MA:=λ(x:(yL Out))=>Zhc yD x) ZrS rfl (λ_ _=>rfl)
def ZGo:HI:={ still:=[8,11,30,48,61,69],rowt:=[5,9,12,22,49,55,67]}
abbrev dT4:Type:=(Int×Int×Int×Int×Int×Int×Tx×(yL Unit)×(yL In)×(yL Unit)×(yL Out)×(yL Unit)×(yL Branch))
abbrev dT5:Type:=(Int×Int×Int×Int×Tx×(yL Unit)×(yL In)×(yL Unit)×(yL Out)×(yL Unit)×(yL Branch))
abbrev tL5:yL Ty:=[yI,yI,yI,yI,yTx,(.sl (.st [])),(.sl yIn),(.sl (.st [])),(.sl YY),(.sl (.st [])),(.sl Zp)]
abbrev tL6:yL Ty:=[yI,yI,yI,yI,yI,yI,yTx,(.sl (.st [])),(.sl yIn),(.sl (.st [])),(.sl YY),(.sl (.st [])),(.sl Zp)]
def ZcM(F:Nat)(s:((yL yU)×Int×Int)):yO (((yL yU)×Int×Int)⊕(Int⊕Unit)):=
 if(decide (s.2.2 < s.2.1))=true then
  (idx s.1 s.2.2).bind λe579=>
  (Zqy F e579).bind λo580=>
  if o580=true then
   some (.inr (.inl s.2.2))
  else
  some (.inl (s.1,s.2.1,wi (s.2.2+1)))
 else
 some (.inr (.inr ()))
def Zdy:Lp:=⟨[(0,.v (.sl .u64)),(1,.fn 109 []),(7,.v yI),(8,.v yI)],[],[(.sl .u64),yI,yI],[⟨.ret,[(4,.v yI)],[],[yI]⟩,⟨.exit 0,[],[],[]⟩],Zc (ZcM yD) yD⟩
theorem Zhe:Zdy.okA yb 148 0:=ZN { still:=[4,15]} [] [Znl] ⟨ZuS,ytt⟩
def ZfS(F:Nat)(a0:(yL yU)):yO (Int):=
 (Zc (ZcM F) F (a0,(a0.length:Int),0)).bind λo581=>
 match o581 with
 |.inl o582=>
  some o582
 |.inr o583=>
  some (-1)
def Zlh(F:Nat):Fs yb:=⟨148,[.v (.sl .u64),.fn 109 []],[],[(.sl .u64)],(zN yI),λx=>ZfS F x⟩
def Zes:Fs yb:=Zlh yD
theorem Zli:Zes.Ok:=fnO { still:=[4,15]} [(0,Zdy)] [] trivial ⟨Zhe,ytt⟩
def Znq(F:Nat)(a0:(yL yU)):yO (Bool):=
 (ZfS F a0).bind λo584=>
 some (decide (o584 >= 0))
def ZrT(F:Nat):Fs yb:=⟨111,[.v (.sl .u64),.fn 109 []],[],[(.sl .u64)],(zN .bool),λx=>Znq F x⟩
def Zlj:Fs yb:=ZrT yD
theorem ZrU:Zlj.Ok:=fnO { still:=[4,5,6]} [] [Zes] ⟨Zli,ytt⟩
abbrev tL7:yL Ty:=[yI,(.sl .u64),yI,yI,yTx,yTx,yI,.u64,(.sl ZaS),(.arr 32 .u8)]
abbrev zM:=Int×Tx×(yL Unit)×(yL In)×(yL Unit)×(yL Out)
def Zet(F:Nat)(s:(Int×Int×zM)):yO ((Int×Int×zM)⊕(zM)):=
 if(decide (s.2.1 < s.1))=true then
  if(inB s.2.1 s.2.2.2.2.2.1.length)=true then
   (s.2.2.2.2.2.1[s.2.1.toNat]?).bind λe592=>
   (Zlf F e592.2.2.1).bind λo593=>
   if(inB s.2.1 s.2.2.2.2.2.1.length)=true then
    (s.2.2.2.2.2.1[s.2.1.toNat]?).bind λe594=>
    let y595:(yL In):=s.2.2.2.2.2.1.set s.2.1.toNat (e594.1,(e594.2.1,o593,e594.2.2.2))
    some (.inl (s.1,wi (s.2.1+1),s.2.2.1,s.2.2.2.1,s.2.2.2.2.1,y595,s.2.2.2.2.2.2.1,s.2.2.2.2.2.2.2))
   else
   none
  else
  none
 else
 some (.inr (s.2.2.1,s.2.2.2.1,s.2.2.2.2.1,s.2.2.2.2.2.1,s.2.2.2.2.2.2.1,s.2.2.2.2.2.2.2))
abbrev zG:List ESh:=[.var (.agg [.rw 2,.rw 3,.v yI]) true,.var (.v yTx) true,.row yIn true 90,.row YY true 75]
def ZfT:Lp:=⟨[(1,.ref 0 []),(2,.ref 1 []),(17,.v yI),(18,.v yI)],zG,[yI,yI,yI,yTx,(.sl (.st [])),(.sl yIn),(.sl (.st [])),(.sl YY)],[⟨.exit 0,[(1,.ref 0 []),(2,.ref 1 [])],zG,[yI,yTx,(.sl (.st [])),(.sl yIn),(.sl (.st [])),(.sl YY)]⟩],Zc (Zet yD) yD⟩
theorem ZjE:ZfT.okA yb 113 0:=ZN ZGo [] [Znp] ⟨ZuZ,ytt⟩
def Zeu(F:Nat)(s:dT4):yO (dT4⊕dT5):=
 if(decide (s.2.2.2.2.1 < s.2.2.2.1))=true then
  if(inB s.2.2.2.2.1 s.2.2.2.2.2.2.2.2.2.2.2.2.length)=true then
   (s.2.2.2.2.2.2.2.2.2.2.2.2[s.2.2.2.2.1.toNat]?).bind λe599=>
   (Ws F e599.1).bind λo600=>
   if(inB s.2.2.2.2.1 s.2.2.2.2.2.2.2.2.2.2.2.2.length)=true then
    (s.2.2.2.2.2.2.2.2.2.2.2.2[s.2.2.2.2.1.toNat]?).bind λe601=>
    let y602:(yL Branch):=s.2.2.2.2.2.2.2.2.2.2.2.2.set s.2.2.2.2.1.toNat (o600,e601.2.1,e601.2.2.1,e601.2.2.2)
    some (.inl (s.1,s.2.1,s.2.2.1,s.2.2.2.1,wi (s.2.2.2.2.1+1),s.2.2.2.2.2.1,s.2.2.2.2.2.2.1,s.2.2.2.2.2.2.2.1,s.2.2.2.2.2.2.2.2.1,s.2.2.2.2.2.2.2.2.2.1,s.2.2.2.2.2.2.2.2.2.2.1,s.2.2.2.2.2.2.2.2.2.2.2.1,y602))
   else
   none
  else
  none
 else
 some (.inr (s.1,s.2.1,s.2.2.1,s.2.2.2.2.2.1,s.2.2.2.2.2.2.1,s.2.2.2.2.2.2.2.1,s.2.2.2.2.2.2.2.2.1,s.2.2.2.2.2.2.2.2.2.1,s.2.2.2.2.2.2.2.2.2.2.1,s.2.2.2.2.2.2.2.2.2.2.2.1,s.2.2.2.2.2.2.2.2.2.2.2.2))
abbrev zF:List ESh:=[.var (.agg [.rw 2,.rw 3,.v yI]) true,.var (.v yTx) true,.row yIn true 90,.row YY true 75,.row Zp true 113]
def ZfU:Lp:=⟨[(1,.ref 0 []),(2,.ref 1 []),(4,.v yI),(5,.rw 4),(38,.v yI),(39,.v yI),(51,.v yI),(52,.v yI)],zF,tL6,[⟨.exit 4,[(1,.ref 0 []),(2,.ref 1 []),(4,.v yI),(5,.rw 4),(38,.v yI),(39,.v yI)],zF,tL5⟩],Zc (Zeu yD) yD⟩
theorem ZjF:ZfU.okA yb 113 2:=ZN ZGo [] [VH] ⟨Qx,ytt⟩
def Zev(F:Nat)(s:(Int×Int×zM)):yO ((Int×Int×zM)⊕(zM)):=
 if(decide (s.2.1 < s.1))=true then
  if(inB s.2.1 s.2.2.2.2.2.2.2.length)=true then
   (s.2.2.2.2.2.2.2[s.2.1.toNat]?).bind λe597=>
   (Vp F e597.2).bind λo598=>
   (Zc (Zeu F) F (s.2.1,s.1,s.2.1,(o598.2.length:Int),0,s.2.2.1,s.2.2.2.1,s.2.2.2.2.1,s.2.2.2.2.2.1,s.2.2.2.2.2.2.1,s.2.2.2.2.2.2.2,o598.1,o598.2)).bind λo603=>
   if(inB o603.1 o603.2.2.2.2.2.2.2.2.1.length)=true then
    (o603.2.2.2.2.2.2.2.2.1[o603.1.toNat]?).bind λe604=>
    let y605:(yL Out):=o603.2.2.2.2.2.2.2.2.1.set o603.1.toNat (e604.1,o603.2.2.2.2.2.2.2.2.2.2)
    some (.inl (o603.2.1,wi (o603.2.2.1+1),o603.2.2.2.1,o603.2.2.2.2.1,o603.2.2.2.2.2.1,o603.2.2.2.2.2.2.1,o603.2.2.2.2.2.2.2.1,y605))
   else
   none
  else
  none
 else
 some (.inr (s.2.2.1,s.2.2.2.1,s.2.2.2.2.1,s.2.2.2.2.2.1,s.2.2.2.2.2.2.1,s.2.2.2.2.2.2.2))
def ZfV:Lp:=⟨[(1,.ref 0 []),(2,.ref 1 []),(38,.v yI),(39,.v yI)],zG,[yI,yI,yI,yTx,(.sl (.st [])),(.sl yIn),(.sl (.st [])),(.sl YY)],[⟨.exit 2,[(1,.ref 0 []),(2,.ref 1 [])],zG,[yI,yTx,(.sl (.st [])),(.sl yIn),(.sl (.st [])),(.sl YY)]⟩],Zc (Zev yD) yD⟩
theorem ZjG:ZfV.okA yb 113 1:=ZN ZGo [(2,ZfU)] [Zdt] ⟨ZcF,ytt⟩ ⟨ZjF,ytt⟩
def ZiR(F:Nat)(a0:Tx):yO ((Int×(yL Unit)×(yL In)×(yL Unit)×(yL Out))):=
 (Zlg F a0.1).bind λo590=>
 (ZiQ F a0.2.1).bind λo591=>
 (Zc (Zet F) F ((o590.2.length:Int),0,a0.2.2,([],[],0),o590.1,o590.2,o591.1,o591.2)).bind λo596=>
 (Zc (Zev F) F ((o596.2.2.2.2.2.length:Int),0,o596.1,o596.2.1,o596.2.2.1,o596.2.2.2.1,o596.2.2.2.2.1,o596.2.2.2.2.2)).bind λo606=>
 some (o606.1,o606.2.2.1,o606.2.2.2.1,o606.2.2.2.2.1,o606.2.2.2.2.2)
def Zn1(F:Nat):Fs yb:=⟨113,[.v yTx],[],[yTx],[⟨.ret,[(0,.agg [.rw 0,.rw 1,.v yI])],[.row yIn true 90,.row YY true 75],[yI,(.sl (.st [])),(.sl yIn),(.sl (.st [])),(.sl YY)]⟩],λx=>ZiR F x⟩
def Zhf:Fs yb:=Zn1 yD
theorem Zn2:Zhf.Ok:=fnO ZGo [(0,ZfT),(1,ZfV)] [ZiP,Zhd] ⟨ZqF,Zn0,ytt⟩ ⟨ZjE,ZjG,ytt⟩
def Znr(F:Nat)(s:(Int×(yL yU)×Int×Int×Tx×Tx×Int×yU×(yL Sig)×(yL yB))):yO ((Int×(yL yU)×Int×Int×Tx×Tx×Int×yU×(yL Sig)×(yL yB))⊕(Int×Tx×Tx×Int×yU×(yL Sig)×(yL yB))):=
 if(decide (s.2.2.2.1 < s.2.2.1))=true then
  (idx s.2.1 s.2.2.2.1).bind λe624=>
  (ZqD F e624 s.2.2.2.2.2.2.2.2.2).bind λo625=>
  if(apB s.2.2.2.2.2.2.2.2.1.length 1 16)=true then
   some (.inl (s.1,s.2.1,s.2.2.1,wi (s.2.2.2.1+1),s.2.2.2.2.1,s.2.2.2.2.2.1,s.2.2.2.2.2.2.1,s.2.2.2.2.2.2.2.1,s.2.2.2.2.2.2.2.2.1++([o625]:yL Sig),s.2.2.2.2.2.2.2.2.2))
  else
  none
 else
 some (.inr (s.1,s.2.2.2.2.1,s.2.2.2.2.2.1,s.2.2.2.2.2.2.1,s.2.2.2.2.2.2.2.1,s.2.2.2.2.2.2.2.2.1,s.2.2.2.2.2.2.2.2.2))
abbrev zT:List ESh:=[.var (.v yTx) true,.var (.v yTx) true,.var (.agg [.v yI,.own 3 ZaS,.v .u64]) true,.log ZaS 150,.var (.v (.arr 32 .u8)) true]
def ZqG:Lp:=⟨[(1,.v yI),(5,.ref 0 []),(10,.ref 1 []),(13,.ref 2 []),(14,.ref 4 []),(52,.v (.sl .u64)),(53,.v yI),(54,.v yI)],zT,tL7,[⟨.exit 0,[(1,.v yI),(5,.ref 0 []),(10,.ref 1 []),(13,.ref 2 [])],zT,[yI,yTx,yTx,yI,.u64,(.sl ZaS),(.arr 32 .u8)]⟩],Zc (Znr yD) yD⟩
def ZJr:HI:={ own:=[59,64],still:=[11,20,35,45,46,50,60,61,67],rowt:=[70],deep:=[49,53],gst:=[(13,[([1],ZaS,150)])]}
theorem ZrV:ZqG.okA yb 70 0:=ZN ZJr [] [Znn] ⟨ZuW,ytt⟩
def ZEl(F:Nat)(a0:Tx)(a1:Int)(a2:Int)(a3:(yL yU))(a4:yU):yO ((Tx×Int)):=
 (WJ F a0).bind λo620=>
 if(!o620)=true then
  some (([],[],0),1)
 else
 if(decide (a1 < 0))=true then
  some (([],[],0),1)
 else
 if(decide (a1 >= (a0.1.length:Int)))=true then
  some (([],[],0),1)
 else
 (Wm F (a2,[],a4)).bind λo621=>
 if(!o621)=true then
  some (([],[],0),1)
 else
 if(decide ((a3.length:Int) > 12))=true then
  some (([],[],0),1)
 else
 (Znq F a3).bind λo622=>
 if o622=true then
  some (([],[],0),1)
 else
 (Zmq F a0).bind λo623=>
 (Zc (Znr F) F (a1,a3,(a3.length:Int),0,a0,([],[],0),a2,a4,[],o623)).bind λo626=>
 (ZiR F o626.2.1).bind λo627=>
 if(inB o626.1 o627.2.2.1.length)=true then
  (o627.2.2.1[o626.1.toNat]?).bind λe628=>
  let y629:(yL In):=o627.2.2.1.set o626.1.toNat (e628.1,(o626.2.2.2.1,o626.2.2.2.2.2.1,o626.2.2.2.2.1))
  some ((y629,o627.2.2.2.2,o627.1),0)
 else
 none
def ZjH(F:Nat):Fs yb:=⟨70,[.v yTx,.v yI,.v yI,.v (.sl .u64),.v .u64],[],[yTx,yI,yI,(.sl .u64),.u64],[⟨.ret,[(0,.tup [.v yTx,.v yI])],[],[yTx,yI]⟩],λx=>ZEl F x.1 x.2.1 x.2.2.1 x.2.2.2.1 x.2.2.2.2⟩
def ZBS:Fs yb:=ZjH yD
theorem Zzd:ZBS.Ok:=ZAn (fi:={ hi:=ZJr,lp:=[(0,ZqG)]}) (specs:={ l:=[Zfd,Zfc,Zlj,ZuK,Zhf]}) (okS ⟨ZgZ,ZiE,ZrU,Zw5,Zn2,ytt⟩) ⟨ZrV,ytt⟩
def ZiS(F:Nat)(a0:In)(s0:ZL):yO ((Bool×ZL)):=
 some (decide (a0.1=s0.1),s0)
def Zbe(F:Nat):Fs yb:=⟨68,[.v yIn,.ref 0 []],[.var (.v Zu) true],[yIn,Zu],[⟨.ret,[(0,.v .bool)],[.var (.v Zu) true],[.bool,Zu]⟩],λx=>ZiS F x.1 x.2⟩
def Zhg:Fs yb:=Zbe yD
theorem ZfW:Zhg.Ok:=fnO { still:=[3]} [] [] trivial
def Zhh(F:Nat)(s:((yL In)×Int×Int×ZL)):yO (((yL In)×Int×Int×ZL)⊕((Int×ZL)⊕ZL)):=
 if(decide (s.2.2.1 < s.2.1))=true then
  (idx s.1 s.2.2.1).bind λe633=>
  (ZiS F e633 s.2.2.2).bind λo634=>
  if o634.1=true then
   some (.inr (.inl (s.2.2.1,o634.2)))
  else
  some (.inl (s.1,s.2.1,wi (s.2.2.1+1),o634.2))
 else
 some (.inr (.inr s.2.2.2))
def ZiT:Lp:=⟨[(0,.v (.sl yIn)),(1,.fn 68 [.ref 0 []]),(7,.v yI),(8,.v yI)],[.var (.v Zu) true],[(.sl yIn),yI,yI,Zu],[⟨.ret,[(4,.v yI)],[.var (.v Zu) true],[yI,Zu]⟩,⟨.exit 0,[],[.var (.v Zu) true],[Zu]⟩],Zc (Zhh yD) yD⟩
theorem ZmA:ZiT.okA yb 108 0:=ZN { still:=[4,15]} [] [Zhg] ⟨ZfW,ytt⟩
def Zns(F:Nat)(a0:(yL In))(s0:ZL):yO ((Int×ZL)):=
 (Zc (Zhh F) F (a0,(a0.length:Int),0,s0)).bind λo635=>
 match o635 with
 |.inl o636=>
  some (o636.1,o636.2)
 |.inr o637=>
  some ((-1),o637)
def ZdV(F:Nat):Fs yb:=⟨108,[.v (.sl yIn),.fn 68 [.ref 0 []]],[.var (.v Zu) true],[(.sl yIn),Zu],[⟨.ret,[(0,.v yI)],[.var (.v Zu) true],[yI,Zu]⟩],λx=>Zns F x.1 x.2⟩
def Zlk:Fs yb:=ZdV yD
theorem ZiU:Zlk.Ok:=fnO { still:=[4,15]} [(0,ZiT)] [] trivial ⟨ZmA,ytt⟩
def Zze(F:Nat)(a0:(yL In))(s0:ZL):yO ((Bool×ZL)):=
 (Zns F a0 s0).bind λo638=>
 some (decide (o638.1 >= 0),o638.2)
def Zfg(F:Nat):Fs yb:=⟨67,[.v (.sl yIn),.fn 68 [.ref 0 []]],[.var (.v Zu) true],[(.sl yIn),Zu],[⟨.ret,[(0,.v .bool)],[.var (.v Zu) true],[.bool,Zu]⟩],λx=>Zze F x.1 x.2⟩
def Zxf:Fs yb:=Zfg yD
theorem Zu3:Zxf.Ok:=fnO { still:=[4,5,6]} [] [Zlk] ⟨ZiU,ytt⟩
def Zfh(F:Nat)(a0:Kit):yO (Basics):=
 (ZO F a0.1).bind λo664=>
 (ZO F a0.2.1).bind λo665=>
 (ZO F a0.2.2.1).bind λo666=>
 (ZO F a0.2.2.2.1).bind λo667=>
 (ZO F a0.2.2.2.2.1).bind λo668=>
 some (o664,o665,o666,o667,o668)
def ZqH(F:Nat):Fs yb:=⟨22,[.v WE],[],[WE],(zN ZhO),λx=>Zfh F x⟩
def ZiV:Fs yb:=ZqH yD
theorem ZqI:ZiV.Ok:=fnO { still:=[4,7,10,13,16]} [] [Y4] ⟨YE,ytt⟩
def ZG7:ByteArray:=⟨#[107,105,116]⟩
def Zll(F:Nat)(s:(Int×(yL yB)×Kit×(yL yU))):yO ((Int×(yL yB)×Kit×(yL yU))⊕((yL yB)×Kit×(yL yU))):=
 if(decide (s.1 < 5))=true then
  (WH F ZG7 [s.2.1,[w8 (wi (s.1+1))]]).bind λo672=>
  (Wj F o672).bind λo673=>
  if(inB s.1 5)=true then
   (s.2.2.2[s.1.toNat]?).bind λe674=>
   some (.inl (wi (s.1+1),s.2.1,s.2.2.1,s.2.2.2.set s.1.toNat o673))
  else
  none
 else
 some (.inr (s.2.1,s.2.2.1,s.2.2.2))
def Znt:Lp:=⟨[(1,.ref 0 []),(2,.ref 1 []),(3,.ref 2 []),(5,.v yI)],[.var (.v (.arr 32 .u8)) false,.var (.v WE) true,.var (.v (.arr 5 .u64)) true],[yI,(.arr 32 .u8),WE,(.arr 5 .u64)],[⟨.exit 0,[(1,.ref 0 []),(2,.ref 1 []),(3,.ref 2 [])],[.var (.v (.arr 32 .u8)) false,.var (.v WE) true,.var (.v (.arr 5 .u64)) true],[(.arr 32 .u8),WE,(.arr 5 .u64)]⟩],Zc (Zll yD) yD⟩
def ZJs:HI:={ still:=[14,15,31],frz:=[9,29]}
theorem ZqJ:Znt.okA yb 76 0:=ZN ZJs [] [W6,Vl] ⟨W7,VI,ytt⟩
def ZsU(F:Nat)(a0:(yL yB)):yO (Kit):=
 (Zc (Zll F) F (0,a0,(0,0,0,0,0,yzz),[0,0,0,0,0])).bind λo675=>
 (o675.2.2[0]?).bind λe676=>
 (o675.2.2[1]?).bind λe677=>
 (o675.2.2[2]?).bind λe678=>
 (o675.2.2[3]?).bind λe679=>
 (o675.2.2[4]?).bind λe680=>
 (WH F ZG7 [o675.1,[6]]).bind λo681=>
 some (e676,e677,e678,e679,e680,o681)
def Zxg(F:Nat):Fs yb:=⟨76,[.v (.arr 32 .u8)],[],[(.arr 32 .u8)],(zN WE),λx=>ZsU F x⟩
def ZqK:Fs yb:=Zxg yD
theorem Zxh:ZqK.Ok:=fnO ZJs [(0,Znt)] [W6] ⟨W7,ytt⟩ ⟨ZqJ,ytt⟩
def QQ(F:Nat)(a0:yB):yO (Kit):=
 (ZsU F [a0,0,0,0,0,0,0,0,0,0,0,0,0,0,0,0,0,0,0,0,0,0,0,0,0,0,0,0,0,0,0,0]).bind λo682=>
 some o682
def Vw(F:Nat):Fs yb:=⟨30,[.v .u8],[],[.u8],(zN WE),λx=>QQ F x⟩
def ZcN:Fs yb:=Vw yD
theorem Zbj:ZcN.Ok:=fnO { still:=[4]} [] [ZqK] ⟨Zxh,ytt⟩
def Zh4(F:Nat):yO (Chan):=
 (QQ F 1).bind λo683=>
 (Zfh F o683).bind λo684=>
 (QQ F 2).bind λo685=>
 (Zfh F o685).bind λo686=>
 some ((yzz,0),9000,[o684,o686],[(100,500,10,4,5,9000),(100,500,20,4,5,9000)],0)
def WM(F:Nat):Fs yb:=⟨28,[],[],[],(zN ZJ),λx=>Zh4 F⟩
def Zhi:Fs yb:=WM yD
theorem Zf1:Zhi.Ok:=fnO { still:=[6,8]} [] [ZcN,ZiV] ⟨Zbj,ZqI,ytt⟩
def Zhj(F:Nat):yO (yG):=
 (ZO F 7).bind λo687=>
 (ZO F 9).bind λo688=>
 some (3,[5000,1500],[(0,1,1000,o687,150),(1,1,1500,o688,160)],0)
def Wz(F:Nat):Fs yb:=⟨29,[],[],[],(zN Zq),λx=>Zhj F⟩
def Zf2:Fs yb:=Wz yD
theorem Zfi:Zf2.Ok:=fnO {} [] [Y4] ⟨YE,ytt⟩
def WW(F:Nat)(a0:yG)(a1:(yL yU)):yO (Bool):=
 if(decide ((a0.2.2.1.length:Int)<=20))=true then
  some (decide ((a1.length:Int)<=20))
 else
 some false
def Zh5(F:Nat):Fs yb:=⟨8,[.v Zq,.v (.sl .u64)],[],[Zq,(.sl .u64)],(zN .bool),λx=>WW F x.1 x.2⟩
def ZcO:Fs yb:=Zh5 yD
theorem Zh6:ZcO.Ok:=fnO { still:=[4]} [] [] trivial
def Zew(F:Nat)(s:(yU×yU×yU)):yO ((yU×yU×yU)⊕yU):=
 if(decide (s.2.1 > 0))=true then
  if((s.2.1 % 2)==1)=true then
   some (.inl ((s.1+s.1) % 4611686018427377339,s.2.1 / 2,(s.2.2+s.1) % 4611686018427377339))
  else
  some (.inl ((s.1+s.1) % 4611686018427377339,s.2.1 / 2,s.2.2))
 else
 some (.inr s.2.2)
def Zhk(F:Nat)(a0:yU)(a1:yU):yO (yU):=
 (Zc (Zew F) F (a0,a1,0)).bind λo689=>
 some o689
end
end Go.Proofs.YtpgpjjjoglafdaaGreat
end
section
set_option maxRecDepth 4000
namespace Go.Proofs.YtpgpjjjoglafdaaGreat
open Go Go.Ev
noncomputable def Vx(F:Nat)(a0:yU)(a1:yU):yO yU:=if decide (a0.toNat < 4611686018427377339)=true then some (yah (a0.toNat*a1.toNat % 4611686018427377339)) else Zhk F a0 a1
end Go.Proofs.YtpgpjjjoglafdaaGreat
end
section
set_option maxRecDepth 4000
namespace Go.Proofs.YtpgpjjjoglafdaaGreat
open Go Go.Ev
noncomputable section
def Zex(F:Nat)(s:(yU×yU×yU)):yO ((yU×yU×yU)⊕yU):=
 if(decide (s.2.1 > 0))=true then
  if((s.2.1 % 2)==1)=true then
   (Vx F s.2.2 s.1).bind λo690=>
   (Vx F s.1 s.1).bind λo691=>
   some (.inl (o691,s.2.1 / 2,o690))
  else
  (Vx F s.1 s.1).bind λo692=>
  some (.inl (o692,s.2.1 / 2,s.2.2))
 else
 some (.inr s.2.2)
def Zhl(F:Nat)(a0:yU)(a1:yU):yO (yU):=
 (Zc (Zex F) F (a0,a1,1)).bind λo693=>
 some o693
end
end Go.Proofs.YtpgpjjjoglafdaaGreat
end
section
set_option maxRecDepth 4000
namespace Go.Proofs.YtpgpjjjoglafdaaGreat
open Go Go.Ev
noncomputable def Vy(F:Nat)(a0:yU)(a1:yU):yO yU:=if decide (a0.toNat < 4611686018427377339)=true then some (yah (pwm 4611686018427377339 64 a0.toNat a1.toNat 1)) else Zhl F a0 a1
end Go.Proofs.YtpgpjjjoglafdaaGreat
end
section
set_option maxRecDepth 4000
namespace Go.Proofs.YtpgpjjjoglafdaaGreat
open Go Go.Ev
noncomputable section
def X1(F:Nat)(a0:yU):yO (Bool):=
 if(decide (a0 >= 1))=true then
  if(decide (a0 < 4611686018427377339))=true then
   (Vy F a0 2305843009213688669).bind λo694=>
   some (o694==1)
  else
  some false
 else
 some false
def WA(F:Nat)(a0:ZbI):yO (Bool):=
 if(decide (a0.1 >= 0))=true then
  if(decide (a0.1<=3))=true then
   some (decide ((a0.2.1.length:Int)<=12))
  else
  some false
 else
 some false
def Xa(F:Nat)(s:(Int×Branch)):yO ((Int×Branch)⊕((Bool×Branch)⊕Branch)):=
 if(decide (s.1 < (s.2.1.length:Int)))=true then
  (idx s.2.1 s.1).bind λe695=>
  (X1 F e695).bind λo696=>
  if(!o696)=true then
   some (.inr (.inl (false,s.2)))
  else
  some (.inl (wi (s.1+1),s.2))
 else
 some (.inr (.inr s.2))
def Vd(F:Nat)(a0:Branch):yO (Bool):=
 if(decide ((a0.1.length:Int) > 12))=true then
  some false
 else
 if(decide (a0.2.1 < 0))=true then
  some false
 else
 if(decide (a0.2.1 > 1048576))=true then
  some false
 else
 if(decide (a0.2.2.1 < 0))=true then
  some false
 else
 if(decide (a0.2.2.1 > 1048576))=true then
  some false
 else
 (Zc (Xa F) F (0,a0)).bind λo697=>
 match o697 with
 |.inl o698=>
  some o698.1
 |.inr o699=>
  (X1 F o699.2.2.2).bind λo700=>
  if(o699.2.2.2==0)=true then
   some true
  else
  some o700
def Xk(F:Nat)(s:(Int×YD)):yO ((Int×YD)⊕((Bool×YD)⊕YD)):=
 if(decide (s.1 < (s.2.length:Int)))=true then
  (idx s.2 s.1).bind λe701=>
  (Vd F e701).bind λo702=>
  if(!o702)=true then
   some (.inr (.inl (false,s.2)))
  else
  some (.inl (wi (s.1+1),s.2))
 else
 some (.inr (.inr s.2))
def Xe(F:Nat)(a0:YD):yO (Bool):=
 if(decide ((a0.length:Int) < 1))=true then
  some false
 else
 if(decide ((a0.length:Int) > 4))=true then
  some false
 else
 (Zc (Xk F) F (0,a0)).bind λo703=>
 match o703 with
 |.inl o704=>
  some o704.1
 |.inr o705=>
  some true
def Yf(F:Nat)(s:(Int×Int×Tx×In)):yO ((Int×Int×Tx×In)⊕((Bool×Tx×In)⊕(Int×Tx×In))):=
 if(decide (s.2.1 < s.1))=true then
  (idx s.2.2.1.1 s.2.1).bind λe708=>
  if(decide (e708.1=s.2.2.2.1))=true then
   some (.inr (.inl (false,s.2.2.1,s.2.2.2)))
  else
  some (.inl (s.1,wi (s.2.1+1),s.2.2.1,s.2.2.2))
 else
 some (.inr (.inr (s.1,s.2.2.1,s.2.2.2)))
def YJ(F:Nat)(s:(Int×Tx)):yO ((Int×Tx)⊕((Bool×Tx)⊕Tx)):=
 if(decide (s.1 < (s.2.1.length:Int)))=true then
  (idx s.2.1 s.1).bind λe706=>
  if(decide (e706.1.2 < 0))=true then
   some (.inr (.inl (false,s.2)))
  else
  if(decide (e706.1.2 > 63))=true then
   some (.inr (.inl (false,s.2)))
  else
  (WA F e706.2).bind λo707=>
  if(!o707)=true then
   some (.inr (.inl (false,s.2)))
  else
  (Zc (Yf F) F (s.1,0,s.2,e706)).bind λo709=>
  match o709 with
  |.inl o710=>
   some (.inr (.inl (o710.1,o710.2.1)))
  |.inr o711=>
   some (.inl (wi (o711.1+1),o711.2.1))
 else
 some (.inr (.inr s.2))
def YK(F:Nat)(s:(Int×Int×Tx)):yO ((Int×Int×Tx)⊕((Bool×Tx)⊕(Int×Tx))):=
 if(decide (s.2.1 < (s.2.2.2.1.length:Int)))=true then
  (idx s.2.2.2.1 s.2.1).bind λe715=>
  if(decide (e715.1 < 0))=true then
   some (.inr (.inl (false,s.2.2)))
  else
  if(decide (e715.1 > 1125899906842624))=true then
   some (.inr (.inl (false,s.2.2)))
  else
  (Xe F e715.2).bind λo716=>
  if(!o716)=true then
   some (.inr (.inl (false,s.2.2)))
  else
  some (.inl (wi (s.1+e715.1),wi (s.2.1+1),s.2.2))
 else
 some (.inr (.inr (s.1,s.2.2)))
def Vz(F:Nat)(a0:Tx):yO (Bool):=
 if(decide ((a0.1.length:Int) < 1))=true then
  some false
 else
 if(decide ((a0.1.length:Int) > 64))=true then
  some false
 else
 if(decide ((a0.2.1.length:Int) > 64))=true then
  some false
 else
 if(decide (a0.2.2 < 0))=true then
  some false
 else
 (Zc (YJ F) F (0,a0)).bind λo712=>
 match o712 with
 |.inl o713=>
  some o713.1
 |.inr o714=>
  (Zc (YK F) F (0,0,o714)).bind λo717=>
  match o717 with
  |.inl o718=>
   some o718.1
  |.inr o719=>
   some (decide (o719.1<=1125899906842624))
def YU(F:Nat)(s:(yU×Int×(yL yB))):yO ((yU×Int×(yL yB))⊕(yL yB)):=
 if(decide (s.2.1 >= 0))=true then
  if(decide (0<=s.2.1))=true then
   let y720:yB:=w8 ((Zs s.1 (min s.2.1.toNat 64)).toNat:Int)
   if(apB s.2.2.length 1 1)=true then
    some (.inl (s.1,wi (s.2.1 - 8),s.2.2++([y720]:yL yB)))
   else
   none
  else
  none
 else
 some (.inr s.2.2)
def V4(F:Nat)(a0:yU):yO ((yL yB)):=
 (Zc (YU F) F (a0,56,[])).bind λo721=>
 some o721
def Zey(F:Nat)(s:((yL yB)×(yL yB))):yO (((yL yB)×(yL yB))⊕((yL yB)×(yL yB))):=
 if((Int.tmod (s.2.length:Int) 64)!=56)=true then
  if(apB s.2.length 1 1)=true then
   some (.inl (s.1,s.2++([0]:yL yB)))
  else
  none
 else
 some (.inr (s.1,s.2))
def Zez(F:Nat)(s:(yU×Int×(yL yB))):yO ((yU×Int×(yL yB))⊕(yL yB)):=
 if(decide (s.2.1 >= 0))=true then
  if(decide (0<=s.2.1))=true then
   let y723:yB:=w8 ((Zs s.1 (min s.2.1.toNat 64)).toNat:Int)
   if(apB s.2.2.length 1 1)=true then
    some (.inl (s.1,wi (s.2.1 - 8),s.2.2++([y723]:yL yB)))
   else
   none
  else
  none
 else
 some (.inr s.2.2)
def Zhm(F:Nat)(a0:(yL yB)):yO ((yL yB)):=
 if(apB 0 a0.length 1)=true then
  if(apB a0.length 1 1)=true then
   (Zc (Zey F) F (a0,a0++([128]:yL yB))).bind λo722=>
   (Zc (Zez F) F (8*(w64 (o722.1.length:Int)),56,o722.2)).bind λo724=>
   some o724
  else
  none
 else
 none
def Zhn(F:Nat):yO ((yL yV)):=
 some [1779033703,3144134277,1013904242,2773480762,1359893119,2600822924,528734635,1541459225]
def ZU(F:Nat)(a0:yV)(a1:Int):yO (yV):=
 if(decide (0<=a1))=true then
  if(decide (0<=wi (32 - a1)))=true then
   let y725:yV:=(Zbh a0 (min a1.toNat 32))|||(Zcc a0 (min (wi (32 - a1)).toNat 32))
   some y725
  else
  none
 else
 none
def Zfj(F:Nat)(s:((yL yB)×Int×(yL yV))):yO (((yL yB)×Int×(yL yV))⊕(yL yV)):=
 if(decide (s.2.1 < 16))=true then
  (idx s.1 (wi (4*s.2.1))).bind λe726=>
  (idx s.1 (wi ((wi (4*s.2.1))+1))).bind λe727=>
  let y728:yV:=(Zcc (yca e726.toNat) 24)|||(Zcc (yca e727.toNat) 16)
  (idx s.1 (wi ((wi (4*s.2.1))+2))).bind λe729=>
  (idx s.1 (wi ((wi (4*s.2.1))+3))).bind λe730=>
  let y731:yV:=(y728|||(Zcc (yca e729.toNat) 8))|||(yca e730.toNat)
  if(apB s.2.2.length 1 4)=true then
   some (.inl (s.1,wi (s.2.1+1),s.2.2++([y731]:yL yV)))
  else
  none
 else
 some (.inr s.2.2)
def Zfk(F:Nat)(s:(Int×(yL yV))):yO ((Int×(yL yV))⊕(yL yV)):=
 if(decide (s.1 < 64))=true then
  (idx s.2 (wi (s.1 - 15))).bind λe733=>
  (idx s.2 (wi (s.1 - 2))).bind λe734=>
  (ZU F e733 7).bind λo735=>
  (ZU F e733 18).bind λo736=>
  (ZU F e734 17).bind λo737=>
  (ZU F e734 19).bind λo738=>
  (idx s.2 (wi (s.1 - 16))).bind λe739=>
  (idx s.2 (wi (s.1 - 7))).bind λe740=>
  let y741:yV:=(e739+((o735^^^o736)^^^(Zbh e733 3)))+e740
  if(apB s.2.length 1 4)=true then
   let y742:(yL yV):=s.2++([y741+((o737^^^o738)^^^(Zbh e734 10))]:yL yV)
   some (.inl (wi (s.1+1),y742))
  else
  none
 else
 some (.inr s.2)
def Zh7(F:Nat)(a0:(yL yB)):yO ((yL yV)):=
 (Zc (Zfj F) F (a0,0,[])).bind λo732=>
 (Zc (Zfk F) F (16,o732)).bind λo743=>
 some o743
def ZjI(F:Nat):yO ((yL yV)):=
 some [1116352408,1899447441,3049323471,3921009573,961987163,1508970993,2453635748,2870763221,3624381080,310598401,607225278,1426881987,1925078388,2162078206,2614888103,3248222580,3835390401,4022224774,264347078,604807628,770255983,1249150122,1555081692,1996064986,2554220882,2821834349,2952996808,3210313671,3336571891,3584528711,113926993,338241895,666307205,773529912,1294757372,1396182291,1695183700,1986661051,2177026350,2456956037,2730485921,2820302411,3259730800,3345764771,3516065817,3600352804,4094571909,275423344,430227734,506948616,659060556,883997877,958139571,1322822218,1537002063,1747873779,1955562222,2024104815,2227730452,2361852424,2428436474,2756734187,3204031479,3329325298]
def Zfl(F:Nat)(s:((yL yV)×(yL yV)×(yL yV)×Int×(yL Unit)×(yL yV))):yO (((yL yV)×(yL yV)×(yL yV)×Int×(yL Unit)×(yL yV))⊕((yL yV)×(yL Unit)×(yL yV))):=
 if(decide (s.2.2.2.1 < 64))=true then
  if(inB 4 s.2.2.2.2.2.length)=true then
   (s.2.2.2.2.2[4]?).bind λe746=>
   (ZU F e746 6).bind λo747=>
   if(inB 4 s.2.2.2.2.2.length)=true then
    (s.2.2.2.2.2[4]?).bind λe748=>
    (ZU F e748 11).bind λo749=>
    if(inB 4 s.2.2.2.2.2.length)=true then
     (s.2.2.2.2.2[4]?).bind λe750=>
     (ZU F e750 25).bind λo751=>
     if(inB 4 s.2.2.2.2.2.length)=true then
      (s.2.2.2.2.2[4]?).bind λe752=>
      if(inB 5 s.2.2.2.2.2.length)=true then
       (s.2.2.2.2.2[5]?).bind λe753=>
       if(inB 4 s.2.2.2.2.2.length)=true then
        (s.2.2.2.2.2[4]?).bind λe754=>
        if(inB 6 s.2.2.2.2.2.length)=true then
         (s.2.2.2.2.2[6]?).bind λe755=>
         let y756:yV:=(e752&&&e753)^^^((4294967295^^^e754)&&&e755)
         if(inB 7 s.2.2.2.2.2.length)=true then
          (s.2.2.2.2.2[7]?).bind λe757=>
          (idx s.2.2.1 s.2.2.2.1).bind λe758=>
          let y759:yV:=((e757+((o747^^^o749)^^^o751))+y756)+e758
          (idx s.2.1 s.2.2.2.1).bind λe760=>
          if(inB 0 s.2.2.2.2.2.length)=true then
           (s.2.2.2.2.2[0]?).bind λe761=>
           (ZU F e761 2).bind λo762=>
           if(inB 0 s.2.2.2.2.2.length)=true then
            (s.2.2.2.2.2[0]?).bind λe763=>
            (ZU F e763 13).bind λo764=>
            if(inB 0 s.2.2.2.2.2.length)=true then
             (s.2.2.2.2.2[0]?).bind λe765=>
             (ZU F e765 22).bind λo766=>
             if(inB 0 s.2.2.2.2.2.length)=true then
              (s.2.2.2.2.2[0]?).bind λe767=>
              if(inB 1 s.2.2.2.2.2.length)=true then
               (s.2.2.2.2.2[1]?).bind λe768=>
               if(inB 0 s.2.2.2.2.2.length)=true then
                (s.2.2.2.2.2[0]?).bind λe769=>
                if(inB 2 s.2.2.2.2.2.length)=true then
                 (s.2.2.2.2.2[2]?).bind λe770=>
                 if(inB 1 s.2.2.2.2.2.length)=true then
                  (s.2.2.2.2.2[1]?).bind λe771=>
                  if(inB 2 s.2.2.2.2.2.length)=true then
                   (s.2.2.2.2.2[2]?).bind λe772=>
                   let y773:yV:=((e767&&&e768)^^^(e769&&&e770))^^^(e771&&&e772);let y774:yV:=((y759+e760)+((o762^^^o764)^^^o766))+y773
                   if(inB 0 s.2.2.2.2.2.length)=true then
                    (s.2.2.2.2.2[0]?).bind λe775=>
                    if(inB 1 s.2.2.2.2.2.length)=true then
                     (s.2.2.2.2.2[1]?).bind λe776=>
                     if(inB 2 s.2.2.2.2.2.length)=true then
                      (s.2.2.2.2.2[2]?).bind λe777=>
                      if(inB 3 s.2.2.2.2.2.length)=true then
                       (s.2.2.2.2.2[3]?).bind λe778=>
                       if(inB 4 s.2.2.2.2.2.length)=true then
                        (s.2.2.2.2.2[4]?).bind λe779=>
                        if(inB 5 s.2.2.2.2.2.length)=true then
                         (s.2.2.2.2.2[5]?).bind λe780=>
                         if(inB 6 s.2.2.2.2.2.length)=true then
                          (s.2.2.2.2.2[6]?).bind λe781=>
                          some (.inl (s.1,s.2.1,s.2.2.1,wi (s.2.2.2.1+1),()::s.2.2.2.2.1,[y774,e775,e776,e777,e778+(y759+e760),e779,e780,e781]))
                         else
                         none
                        else
                        none
                       else
                       none
                      else
                      none
                     else
                     none
                    else
                    none
                   else
                   none
                  else
                  none
                 else
                 none
                else
                none
               else
               none
              else
              none
             else
             none
            else
            none
           else
           none
          else
          none
         else
         none
        else
        none
       else
       none
      else
      none
     else
     none
    else
    none
   else
   none
  else
  none
 else
 some (.inr (s.1,s.2.2.2.2.1,s.2.2.2.2.2))
def Zfm(F:Nat)(s:((yL yV)×Int×(yL Unit)×(yL yV))):yO (((yL yV)×Int×(yL Unit)×(yL yV))⊕((yL Unit)×(yL yV))):=
 if(decide (s.2.1 < 8))=true then
  if(inB s.2.1 s.2.2.2.length)=true then
   (s.2.2.2[s.2.1.toNat]?).bind λe783=>
   (idx s.1 s.2.1).bind λe784=>
   if(inB s.2.1 s.2.2.2.length)=true then
    (s.2.2.2[s.2.1.toNat]?).bind λe785=>
    some (.inl (s.1,wi (s.2.1+1),s.2.2.1,s.2.2.2.set s.2.1.toNat (e783+e784)))
   else
   none
  else
  none
 else
 some (.inr (s.2.2.1,s.2.2.2))
def Zh8(F:Nat)(a0:(yL yV))(a1:(yL yB)):yO ((yL yV)):=
 (Zh7 F a1).bind λo744=>
 (ZjI F).bind λo745=>
 if(apB 0 a0.length 4)=true then
  (Zc (Zfl F) F (a0,o744,o745,0,[()],a0)).bind λo782=>
  (Zc (Zfm F) F (o782.1,0,o782.2.1,o782.2.2)).bind λo786=>
  some o786.2
 else
 none
def Zf3(F:Nat)(s:((yL yB)×(yL yV)×Int×(yL yB))):yO (((yL yB)×(yL yV)×Int×(yL yB))⊕((yL yV)×(yL yB))):=
 if(decide (s.2.2.1 < (s.1.length:Int)))=true then
  if(ZcU s.1.length (some s.2.2.1) (some (wi (s.2.2.1+64))))=true then
   let y789:(yL yB):=(s.1.take ((wi (s.2.2.1+64)).toNat)).drop s.2.2.1.toNat
   (Zh8 F s.2.1 y789).bind λo790=>
   some (.inl (s.1,o790,wi (s.2.2.1+64),s.2.2.2))
  else
  none
 else
 some (.inr (s.2.1,s.2.2.2))
def Zf4(F:Nat)(s:((yL yV)×Int×(yL yB)×(yL yB))):yO (((yL yV)×Int×(yL yB)×(yL yB))⊕((yL yB)×(yL yB))):=
 if(decide (s.2.1 < 32))=true then
  (idx s.1 (wi (Int.tdiv s.2.1 4))).bind λe792=>
  if(decide (0<=wi (24 - (wi (8*(Int.tmod s.2.1 4))))))=true then
   let y793:yV:=Zbh e792 (min (wi (24 - (wi (8*(Int.tmod s.2.1 4))))).toNat 32)
   if(inB s.2.1 32)=true then
    (s.2.2.2[s.2.1.toNat]?).bind λe794=>
    some (.inl (s.1,wi (s.2.1+1),s.2.2.1,s.2.2.2.set s.2.1.toNat (w8 (y793.toNat:Int))))
   else
   none
  else
  none
 else
 some (.inr (s.2.2.1,s.2.2.2))
def ZjJ(F:Nat)(a0:(yL yB)):yO ((yL yB)):=
 (Zhm F a0).bind λo787=>
 (Zhn F).bind λo788=>
 (Zc (Zf3 F) F (o787,o788,0,yzz)).bind λo791=>
 (Zc (Zf4 F) F (o791.1,0,o791.2,yzz)).bind λo795=>
 some o795.2
end
end Go.Proofs.YtpgpjjjoglafdaaGreat
end
section
set_option maxRecDepth 4000
namespace Go.Ev
theorem ZAF{I X:Type}{step:I->yO (I⊕X)}{st:Nat->I}{x:X}(n:Nat)(hs:∀k,k < n->step (st k)=some (.inl (st (k+1))))(he:step (st n)=some (.inr x)):∀(d k f:Nat),k+d=n->d < f->Zc step f (st k)=some x
 |0,k,f+1,h,_=>by
  have e:k=n:=by omega
  subst e;unfold Zc
  rw[he,ya]
 |d+1,k,f+1,h,hf=>by
  unfold Zc;rw[hs k (by omega),ya];exact ZAF n hs he d (k+1) f (by omega) (by omega)
theorem Zz{I X:Type}{step:I->yO (I⊕X)}(n:Nat)(st:Nat->I){x:X}(hs:∀k,k < n->step (st k)=some (.inl (st (k+1))))(he:step (st n)=some (.inr x))(hn:n < 18446744073709551616):
 Zc step yD (st 0)=some x:=ZAF n hs he n 0 yD (by omega) (by rw[ZeX];exact hn)
theorem Zxi{I X:Type}{step:I->yO (I⊕X)}{Post:X->Prop}(n:Nat)(S:Nat->I->Prop)(hs:∀k s,k < n->S k s->(∃t,step s=some (.inl t)/\S (k+1) t)\/∃x,step s=some (.inr x)/\Post x)
 (he:∀s,S n s->∃x,step s=some (.inr x)/\Post x):∀(d k f:Nat)(s:I),k+d=n->d < f->S k s->∃x,Zc step f s=some x/\Post x
 |0,k,f+1,s,h,_,hS=>by
  have e:k=n:=by omega
  subst e;obtain⟨x,h1,h2⟩:=he s hS;unfold Zc;rw[h1,ya]
  exact⟨x,rfl,h2⟩
 |d+1,k,f+1,s,h,hf,hS=>by
  unfold Zc;rcases hs k s (by omega) hS with⟨t,h1,h2⟩|⟨x,h1,h2⟩
  ·rw[h1,ya];exact Zxi n S hs he d (k+1) f t (by omega) (by omega) h2
  ·rw[h1,ya];exact⟨x,rfl,h2⟩
theorem QR{I X:Type}{step:I->yO (I⊕X)}(n:Nat)(S:Nat->I->Prop)(Post:X->Prop){i:I}(h0:S 0 i)(hn:n < 18446744073709551616)
 (hs:∀k s,k < n->S k s->(∃t,step s=some (.inl t)/\S (k+1) t)\/∃x,step s=some (.inr x)/\Post x)
 (he:∀s,S n s->∃x,step s=some (.inr x)/\Post x):∃x,Zc step yD i=some x/\Post x:=Zxi n S hs he n 0 yD i (by omega) (by rw[ZeX];exact hn) h0
theorem ZM{a b:Nat}(h:a < b):decide ((a:Int) < (b:Int))=true:=yY (by omega)
theorem ZH{a:Nat}:decide ((a:Int) < (a:Int))=false:=yZ (by omega)
theorem Zt{k:Nat}(h:k < 9223372036854775807):wi ((k:Int)+1)=((k+1:Nat):Int):=by
 rw[Z1 (by omega) (by omega)];omega
theorem Zo{α:Type}{l:yL α}{k:Nat}{y:α}(h:l[k]? =some y):idx l (k:Int)=some y:=Zkv (by omega) (by simpa using h)
theorem ZsV{α:Type}{ls:yL (yL α)}{k:Nat}{e:yL α}(h:ls[k]? =some e):(ls.take (k+1)).flatten=(ls.take k).flatten++e:=by
 rw[List.take_add_one,h];simp
theorem ZAG{α:Type}(ls:yL (yL α))(k:Nat):(ls.take k).flatten.length<=ls.flatten.length:=by
 have h:=congrArg (λl=>(List.flatten l).length) (ybh k ls);simp only[List.flatten_append,yo] at h;omega
theorem QS{α:Type}{l:yL α}{k:Nat}{e:α}(h:l[k]? =some e):l.take (k+1)=l.take k++[e]:=by
 rw[List.take_add_one,h];rfl
theorem Zk{α:Type}{l:yL α}{k:Nat}(h:k < l.length):∃e,l[k]? =some e/\e∈l:=⟨l[k],yab h,List.getElem_mem h⟩
end Go.Ev
end
section
set_option maxRecDepth 4000
namespace Go.Proofs.YtpgpjjjoglafdaaGreat
open Go Go.Ev Go.Sha
def rb8(n:Nat):yL yB:=(be8 n).map yax
theorem Zzf(n:yU){k:Nat}(hk:k < 8):(rb8 n.toNat)[k]? =some (w8 ((Zs n (56 - 8*k)).toNat:Int)):=by
 have h:∀m:Nat,w8 ((Zs n m).toNat:Int)=yax (n.toNat / 2 ^ m % 256):=by
  intro m;unfold w8 Zs;rw[ybf,yav (Nat.lt_of_le_of_lt (Nat.div_le_self _ _) (ybs n))];congr 1
 rw[h]
 match k,hk with
 |0,_=>rfl
 |1,_=>rfl
 |2,_=>rfl
 |3,_=>rfl
 |4,_=>rfl
 |5,_=>rfl
 |6,_=>rfl
 |7,_=>
  show some (yax (n.toNat % 256))=some (yax (n.toNat / 2 ^ 0 % 256));rw[Nat.pow_zero,Nat.div_one]
noncomputable def QT(F:Nat)(a0:yL yB):yO (yL yB):=if decide (a0.length<=4294967296)=true then some (sha a0) else ZjJ F a0
theorem ZEm{l:yL yB}(h:l.length<=4294967296):QT yD l=some (sha l):=yW (yY h)
end Go.Proofs.YtpgpjjjoglafdaaGreat
end
section
set_option maxRecDepth 4000
namespace Go.Proofs.YtpgpjjjoglafdaaGreat
open Go Go.Ev
noncomputable section
def Ym(F:Nat)(s:(yU×Int×(yL yB)×(yL yB))):yO ((yU×Int×(yL yB)×(yL yB))⊕((yL yB)×(yL yB))):=
 if(decide (s.2.1 >= 0))=true then
  if(decide (0<=s.2.1))=true then
   let y796:yB:=w8 ((Zs s.1 (min s.2.1.toNat 64)).toNat:Int)
   if(apB s.2.2.2.length 1 1)=true then
    some (.inl (s.1,wi (s.2.1 - 8),s.2.2.1,s.2.2.2++([y796]:yL yB)))
   else
   none
  else
  none
 else
 some (.inr (s.2.2.1,s.2.2.2))
def WN(F:Nat)(a0:yU):yO ((yL yB)):=
 (Zc (Ym F) F (a0,56,[],[])).bind λo797=>
 some o797.2
def Yy(F:Nat)(s:((yL (yL yB))×Int×(yL yB)×(yL yB))):yO (((yL (yL yB))×Int×(yL yB)×(yL yB))⊕((yL yB)×(yL yB))):=
 if(decide (s.2.1 < (s.1.length:Int)))=true then
  (idx s.1 s.2.1).bind λe799=>
  (V4 F (w64 (e799.length:Int))).bind λo800=>
  if(apB s.2.2.2.length o800.length 1)=true then
   (idx s.1 s.2.1).bind λe801=>
   if(apB ((s.2.2.2++o800).length) e801.length 1)=true then
    some (.inl (s.1,wi (s.2.1+1),s.2.2.1,(s.2.2.2++o800)++e801))
   else
   none
  else
  none
 else
 some (.inr (s.2.2.1,s.2.2.2))
def QU(F:Nat)(a0:ByteArray)(a1:(yL (yL yB))):yO ((yL yB)):=
 (WN F (w64 (a0.size:Int))).bind λo798=>
 if(decide (a0.size<=maxLen))=true then
  if(apB o798.length a0.data.toList.length 1)=true then
   (Zc (Yy F) F (a1,0,yzz,o798++a0.data.toList)).bind λo802=>
   (QT F o802.2).bind λo803=>
   some o803
  else
  none
 else
 none
def XQ(F:Nat)(rc:Int->yO ((yL yB)))(a0:Int):yO ((yL yB)):=
 if(decide (a0 < 128))=true then
  some [w8 a0]
 else
 (rc (wi (Int.tdiv a0 128))).bind λo804=>
 if(apB 1 o804.length 1)=true then
  let y805:(yL yB):=([(w8 (Int.tmod a0 128))+128]:yL yB)++o804
  some y805
 else
 none
def WX(F k:Nat):Int->yO ((yL yB)):=Nat.rec (motive:=λ_=>Int->yO ((yL yB))) (λ_=>none) (λ_ ih=>XQ F ih) k
def QV(F:Nat)(a0:Int):yO ((yL yB)):=WX F 12 a0
def ZR(F:Nat)(a0:(yL yB))(a1:Int):yO ((yL yB)):=
 if(apB 0 a0.length 1)=true then
  if(decide (a1 >= 0))=true then
   (QV F a1).bind λo806=>
   if(apB a0.length o806.length 1)=true then
    some (a0++o806)
   else
   none
  else
  some a0
 else
 none
def Yn(F:Nat)(s:(Int×(yL yB)×(yL yB))):yO ((Int×(yL yB)×(yL yB))⊕((yL yB)×(yL yB))):=
 if(decide (s.1 < 32))=true then
  if(inB s.1 32)=true then
   (s.2.1[s.1.toNat]?).bind λe807=>
   if(apB s.2.2.length 1 1)=true then
    some (.inl (wi (s.1+1),s.2.1,s.2.2++([e807]:yL yB)))
   else
   none
  else
  none
 else
 some (.inr (s.2.1,s.2.2))
def WO(F:Nat)(a0:(yL yB))(a1:(yL yB)):yO ((yL yB)):=
 if(apB 0 a0.length 1)=true then
  (Zc (Yn F) F (0,a1,a0)).bind λo808=>
  some o808.2
 else
 none
def ZaX(F:Nat)(a0:(yL yB))(a1:Int):yO ((yL yB)):=
 if(apB 0 a0.length 1)=true then
  if(decide (a1 >= 0))=true then
   (QV F a1).bind λo809=>
   if(apB a0.length o809.length 1)=true then
    some (a0++o809)
   else
   none
  else
  some a0
 else
 none
def WB(F:Nat)(a0:(yL yB))(a1:(yL yB)):yO ((yL yB)):=
 (ZaX F a0 (a1.length:Int)).bind λo810=>
 if(apB o810.length a1.length 1)=true then
  some (o810++a1)
 else
 none
def Yz(F:Nat)(s:(yU×Int×(yL yB))):yO ((yU×Int×(yL yB))⊕(yL yB)):=
 if(decide (s.2.1 >= 0))=true then
  let y811:yU:=Zs s.1 (min ((w64 (wi (8*s.2.1))).toNat:Int).toNat 64)
  if(apB s.2.2.length 1 1)=true then
   some (.inl (s.1,wi (s.2.1 - 1),s.2.2++([w8 (y811.toNat:Int)]:yL yB)))
  else
  none
 else
 some (.inr s.2.2)
def XR(F:Nat)(a0:(yL yB))(a1:yU):yO ((yL yB)):=
 if(apB 0 a0.length 1)=true then
  (Zc (Yz F) F (a1,7,a0)).bind λo812=>
  some o812
 else
 none
def YL(F:Nat)(s:((yL yB)×Int×Int×YD×Branch)):yO (((yL yB)×Int×Int×YD×Branch)⊕((yL yB)×Int×YD×Branch)):=
 if(decide (s.2.2.1 < (s.2.2.2.2.1.length:Int)))=true then
  (idx s.2.2.2.2.1 s.2.2.1).bind λe817=>
  (XR F s.1 e817).bind λo818=>
  some (.inl (o818,s.2.1,wi (s.2.2.1+1),s.2.2.2.1,s.2.2.2.2))
 else
 some (.inr (s.1,s.2.1,s.2.2.2.1,s.2.2.2.2))
def YM(F:Nat)(s:((yL yB)×Int×YD)):yO (((yL yB)×Int×YD)⊕((yL yB)×YD)):=
 if(decide (s.2.1 < (s.2.2.length:Int)))=true then
  (idx s.2.2 s.2.1).bind λe815=>
  (ZR F s.1 (e815.1.length:Int)).bind λo816=>
  (Zc (YL F) F (o816,s.2.1,0,s.2.2,e815)).bind λo819=>
  (ZR F o819.1 o819.2.2.2.2.1).bind λo820=>
  (ZR F o820 o819.2.2.2.2.2.1).bind λo821=>
  (XR F o821 o819.2.2.2.2.2.2).bind λo822=>
  some (.inl (o822,wi (o819.2.1+1),o819.2.2.1))
 else
 some (.inr (s.1,s.2.2))
def VA(F:Nat)(a0:YD):yO ((yL yB)):=
 (Xe F a0).bind λo813=>
 if(!o813)=true then
  some []
 else
 (ZR F [] (a0.length:Int)).bind λo814=>
 (Zc (YM F) F (o814,0,a0)).bind λo823=>
 some o823.1
def YN(F:Nat)(s:((yL yB)×Int×Tx)):yO (((yL yB)×Int×Tx)⊕((yL yB)×Tx)):=
 if(decide (s.2.1 < (s.2.2.1.length:Int)))=true then
  (idx s.2.2.1 s.2.1).bind λe825=>
  (WO F s.1 e825.1.1).bind λo826=>
  (idx s.2.2.1 s.2.1).bind λe827=>
  (ZR F o826 e827.1.2).bind λo828=>
  some (.inl (o828,wi (s.2.1+1),s.2.2))
 else
 some (.inr (s.1,s.2.2))
def YO(F:Nat)(s:((yL yB)×Int×Tx)):yO (((yL yB)×Int×Tx)⊕((yL yB)×Tx)):=
 if(decide (s.2.1 < (s.2.2.2.1.length:Int)))=true then
  (idx s.2.2.2.1 s.2.1).bind λe831=>
  (ZR F s.1 e831.1).bind λo832=>
  (idx s.2.2.2.1 s.2.1).bind λe833=>
  (VA F e833.2).bind λo834=>
  (WB F o832 o834).bind λo835=>
  some (.inl (o835,wi (s.2.1+1),s.2.2))
 else
 some (.inr (s.1,s.2.2))
def VB(F:Nat)(a0:Tx):yO ((yL yB)):=
 (ZR F [] (a0.1.length:Int)).bind λo824=>
 (Zc (YN F) F (o824,0,a0)).bind λo829=>
 (ZR F o829.1 (o829.2.2.1.length:Int)).bind λo830=>
 (Zc (YO F) F (o830,0,o829.2)).bind λo836=>
 (ZR F o836.1 o836.2.2.2).bind λo837=>
 some o837
def Zap(F:Nat)(a0:Tx):yO ((yL yB)):=
 (Vz F a0).bind λo838=>
 if(!o838)=true then
  some yzz
 else
 (VB F a0).bind λo839=>
 (QU F ZG6 [o839]).bind λo840=>
 some o840
def YV(F:Nat)(s:((yL ZL)×Int×Int)):yO (((yL ZL)×Int×Int)⊕(Int⊕Unit)):=
 if(decide (s.2.2 < (s.1.length:Int)))=true then
  (idx s.1 s.2.2).bind λe909=>
  if(e909.1.2==s.2.1)=true then
   some (.inr (.inl s.2.2))
  else
  some (.inl (s.1,s.2.1,wi (s.2.2+1)))
 else
 some (.inr (.inr ()))
def ZaY:Lp:=⟨[(0,.v (.sl Zu)),(1,.v yI),(5,.v yI)],[],[(.sl Zu),yI,yI],[⟨.ret,[(4,.v yI)],[],[yI]⟩,⟨.exit 0,[],[],[]⟩],Zc (YV yD) yD⟩
theorem ZeA:ZaY.okA yb 18 0:=ZN { still:=[4]} [] [] trivial
def ZF(F:Nat)(a0:(yL ZL))(a1:Int):yO (Int):=
 (Zc (YV F) F (a0,a1,0)).bind λo910=>
 match o910 with
 |.inl o911=>
  some o911
 |.inr o912=>
  some (-1)
def Zho(F:Nat):Fs yb:=⟨18,[.v (.sl Zu),.v yI],[],[(.sl Zu),yI],(zN yI),λx=>ZF F x.1 x.2⟩
def Zbk:Fs yb:=Zho yD
theorem Zhp:Zbk.Ok:=fnO { still:=[4]} [(0,ZaY)] [] trivial ⟨ZeA,ytt⟩
def Yg(F:Nat)(s:((yL yU)×yU×Int)):yO (((yL yU)×yU×Int)⊕(Bool⊕Unit)):=
 if(decide (s.2.2 < (s.1.length:Int)))=true then
  (idx s.1 s.2.2).bind λe913=>
  (ZO F e913).bind λo914=>
  if(o914==s.2.1)=true then
   some (.inr (.inl true))
  else
  some (.inl (s.1,s.2.1,wi (s.2.2+1)))
 else
 some (.inr (.inr ()))
def Q5:Lp:=⟨[(0,.v (.sl .u64)),(1,.v .u64),(5,.v yI)],[],[(.sl .u64),.u64,yI],[⟨.ret,[(4,.v .bool)],[],[.bool]⟩,⟨.exit 0,[],[],[]⟩],Zc (Yg yD) yD⟩
theorem ZdW:Q5.okA yb 19 0:=ZN { still:=[4,15]} [] [Y4] ⟨YE,ytt⟩
def YQ(F:Nat)(a0:(yL yU))(a1:yU):yO (Bool):=
 (Zc (Yg F) F (a0,a1,0)).bind λo915=>
 match o915 with
 |.inl o916=>
  some o916
 |.inr o917=>
  some false
def Zf5(F:Nat):Fs yb:=⟨19,[.v (.sl .u64),.v .u64],[],[(.sl .u64),.u64],(zN .bool),λx=>YQ F x.1 x.2⟩
def ZaZ:Fs yb:=Zf5 yD
theorem Zf6:ZaZ.Ok:=fnO { still:=[4,15]} [(0,Q5)] [] trivial ⟨ZdW,ytt⟩
end
end Go.Proofs.YtpgpjjjoglafdaaGreat
end
section
set_option maxRecDepth 4000
namespace Go.Proofs.YtpgpjjjoglafdaaGreat
open Go Go.Ev
theorem ZEn{m:Nat}(hm:0 < m):∀(f a n o:Nat),o < m->pwm m f a n o < m
 |0,_,_,o,h=>h
 |f+1,a,n,o,h=>by
  rw[pwm];split
  ·exact h
  ·refine ZEn hm f _ _ _ ?_;split
   ·exact Nat.mod_lt _ hm
   ·exact h
theorem ZEo{m:Nat}(hm:1 < m)(k a n:Nat)(h:n < 2 ^ k):pwm m k a n 1=a ^ n % m:=by
 rw[<-yav (ZEn (by omega) k a n 1 hm),ZAw k a n 1 h,Nat.one_mul]
instance(a:Nat):Decidable (IsPt a):=by unfold IsPt;infer_instance
theorem ZIv{z:Nat}(h:z < mdl):z < 18446744073709551616:=Nat.lt_trans h (by decide)
theorem Zzg{z:Nat}(h:z < mdl):(yah z).toNat=z:=by
 rw[ybf,yav (ZIv h)]
theorem Zok(z:Nat):z % mdl < mdl:=Nat.mod_lt _ (by decide)
theorem Zxj(a n:yU):Qz yD a n=some (yah (a.toNat ^ n.toNat % mdl)):=by
 unfold Qz;rw[ZEo (by decide) 64 a.toNat n.toNat (ybs n)];rfl
theorem ZBT{a n:yU}(h:a.toNat < mdl):Vy yD a n=some (yah (a.toNat ^ n.toNat % mdl)):=by
 unfold Vy;rw[yW (yY (show a.toNat < 4611686018427377339 from h)),ZEo (by decide) 64 a.toNat n.toNat (ybs n)]
 rfl
theorem ZEp{z:Nat}(h:z < mdl):(yah z==1)=decide (z=1):=by
 rw[Bool.eq_iff_iff,yT,yN, <-UInt64.toNat_inj,Zzg h];rfl
theorem Za0(p:yU):Xi yD p=some (decide (IsPt p.toNat)):=by
 unfold Xi;by_cases h1:0 < p.toNat
 ·rw[yW (yY (show p > 0 from ycp.2 h1))]
  by_cases h2:p.toNat < mdl
  ·rw[yW (yY (show p < 4611686018427377339 from ycp.2 h2)),Zxj,ya,ZEp (Zok _)]
   congr 1;rw[decide_eq_decide];exact⟨λh=>⟨h1,h2,h⟩,λh=>h.2.2⟩
  ·rw[yX (by rw[yN];exact λh=>h2 (ycp.1 h)),yZ (λh=>h2 h.2.1)]
 ·rw[yX (by rw[yN];exact λh=>h1 (ycp.1 h)),yZ (λh=>h1 h.1)]
theorem ZsW(p:yU):X1 yD p=some (decide (IsPt p.toNat)):=by
 unfold X1;by_cases h1:0 < p.toNat
 ·rw[yW (yY (show p >= 1 from yco.2 h1))]
  by_cases h2:p.toNat < mdl
  ·rw[yW (yY (show p < 4611686018427377339 from ycp.2 h2)),ZBT h2,ya,ZEp (Zok _)]
   congr 1;rw[decide_eq_decide];exact⟨λh=>⟨h1,h2,h⟩,λh=>h.2.2⟩
  ·rw[yX (by rw[yN];exact λh=>h2 (ycp.1 h)),yZ (λh=>h2 h.2.1)]
 ·rw[yX (by rw[yN];exact λh=>h1 (yco.1 h)),yZ (λh=>h1 h.1)]
def tk(p:yU):yU:=if IsPt p.toNat then p else 1
theorem ZAH(p:yU):IsPt (tk p).toNat:=by
 unfold tk;split
 ·assumption
 ·exact ZIi
theorem Zxk(p:yU):QF yD p=some (tk p):=by
 unfold QF tk;rw[Za0,ya];by_cases h:IsPt p.toNat
 ·rw[yW (yY h),yW h]
 ·rw[yX (by rw[yN];exact h),yX h]
def sc(p:yU)(n:Nat):yU:=yah ((tk p).toNat ^ n % mdl)
theorem ZIw(p:yU)(n:Nat):sc p (n % ord)=sc p n:=by
 unfold sc;rw[ZGf (ZAH p)]
theorem ZJt(k:yU):(k % 2305843009213688669).toNat=k.toNat % ord:=by
 rw[UInt64.toNat_mod];rfl
theorem ZqL(p k:yU):Vk yD p k=some (sc p k.toNat):=by
 unfold Vk;rw[Zxk,ya,Zxj,ya,ZJt, <-ZIw];rfl
def B(n:Nat):yU:=sc 4 n
theorem ZhS(k:yU):ZO yD k=some (B k.toNat):=by
 unfold ZO;rw[ZqL,ya];rfl
def ad(p q:yU):yU:=yah ((tk p).toNat*(tk q).toNat % mdl)
theorem ZIx(p q:yU):(ad p q).toNat=(tk p).toNat*(tk q).toNat % mdl:=Zzg (Zok _)
theorem ZG8(p q:yU):IsPt (ad p q).toNat:=by
 rw[ZIx];exact ZIj (ZAH p) (ZAH q)
theorem ZEq(a b:yU):Z4 yD a b=some (yah (a.toNat*b.toNat % mdl)):=ZwN a b
def Zn3:yL yU->Nat->Nat
 |[],o=>o
 |p::r,o=>Zn3 r (o*(tk p).toNat % mdl)
theorem ZAI:∀(l:yL yU)(o:Nat),o < mdl->Zn3 l o < mdl
 |[],o,h=>h
 |p::r,o,h=>ZAI r _ (Zok _)
theorem ZIy{l:yL yU}(hl:l.length<=1000):Ze4 yD l=some (yah (Zn3 l 1)):=by
 have key:∀(k:Nat),k<=l.length->Zn3 (l.take k) 1 < mdl:=λk _=>ZAI _ _ (by decide)
 have app:∀(l:yL yU)(p:yU)(o:Nat),Zn3 (l++[p]) o=Zn3 l o*(tk p).toNat % mdl:=by
  intro l
  induction l with
  |nil=>intro p o;rfl
  |cons q r ih=>intro p o;exact ih p _
 unfold Ze4
 rw[show((1:yU),l,(l.length:Int),(0:Int))=(λk:Nat=>(yah (Zn3 (l.take k) 1),l,(l.length:Int),(k:Int))) 0 from rfl,
  Zz (x:=yah (Zn3 l 1)) l.length (λk:Nat=>(yah (Zn3 (l.take k) 1),l,(l.length:Int),(k:Int))) ?_ ?_ (by omega),ya]
 ·intro k hk;obtain⟨e,he,_⟩:=Zk hk;unfold Zax;dsimp only;rw[yW (ZM hk),Zo he,ya,Zxk,ya,ZEq,ya,Zt (by omega),QS he,app,Zzg (key k (by omega))]
 ·unfold Zax;dsimp only;rw[yX (by rw[ZH];decide),List.take_length]
theorem ZEr(p q:yU):Zak yD p q=some (ad p q):=by
 unfold Zak;rw[ZIy (by simp),ya];unfold ad Zn3 Zn3 Zn3;rw[Nat.one_mul,yav (ZAH p).2.1]
end Go.Proofs.YtpgpjjjoglafdaaGreat
end
