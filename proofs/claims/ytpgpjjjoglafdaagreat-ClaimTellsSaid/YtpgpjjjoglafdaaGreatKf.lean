/- Parts of the proof, in one file. -/
import Derived.Test.YtpgpjjjoglafdaaGreatKe
open Bool renaming and_eq_true → yj
open Go.Proofs.Tryz renaming prog → yb
open List renaming length_append → yo, replicate → yv, length_map → yy, append_assoc → yab, getElem?_eq_getElem → yac, map_cons → yad, length_take → yaf, length_cons → yah, getElem?_map → yai, map_append → yam, getElem?_eq_none → yan, getElem?_cons_succ → yaw, mem_cons → ybc, take_append_drop → ybk, length_set → ybo, length_drop → ybx, map_nil → ycf, length_replicate → ycj, not_mem_nil → ycs, getElem?_set_self → ycw, getD_eq_getElem?_getD → ycx, getElem?_set_ne → ydb
open Nat renaming add → yu, shiftRight → yag, mod_eq_of_lt → yao, zero_add → ybg, mod_lt → ybh, mul_comm → ybt, add_zero → yce, two_pow_add_eq_or_of_lt → yda, shiftRight_eq_div_pow → ydc
open Option renaming bind_some → ya
open UInt32 renaming toNat → yal, ofNat → ybp, toNat_ofNat' → ycq
open UInt64 renaming ofNat → yae, toNat_ofNat' → ybb, lt_iff_toNat_lt → ycb
open UInt8 renaming toNat → yak, ofNat → yay
set_option linter.unusedVariables false
set_option linter.unusedSimpArgs false
section
set_option maxRecDepth 4000
namespace Go.Proofs.YtpgpjjjoglafdaaGreat
open Go Go.Ev
noncomputable section
def XI(F:Nat)(a0:yU):yO (Bool):=
 if(decide (a0 > 0))=true then
  if(decide (a0 < 4611686018427377339))=true then
   (ZaH F a0 2305843009213688669).bind λo41=>
   some (o41==1)
  else
  some false
 else
 some false
def ZtE(F:Nat):Fs yb:=⟨33,[.v .u64],[],[.u64],(zN .bool),λx=>XI F x⟩
def WE:Fs yb:=ZtE yD
theorem WZ:WE.Ok:=fnO { still:=[2,10]} [] [Zf5] ⟨ZjT,ytt⟩
def Q3(F:Nat)(a0:Int):yO (Bool):=
 if(decide (a0 >= 0))=true then
  some (decide (a0<=1125899906842624))
 else
 some false
def Zyq(F:Nat):Fs yb:=⟨107,[.v yI],[],[yI],(zN .bool),λx=>Q3 F x⟩
def ZqT:Fs yb:=Zyq yD
theorem Zyr:ZqT.Ok:=fnO { still:=[2]} [] [] trivial
def ZaI(F:Nat)(a0:Int)(a1:Int):yO ((Int×Bool)):=
 (Q3 F a0).bind λo42=>
 if(!o42)=true then
  some (0,false)
 else
 (Q3 F a1).bind λo43=>
 if(!o43)=true then
  some (0,false)
 else
 if(decide (a0 > (wi (1125899906842624 - a1))))=true then
  some (0,false)
 else
 some (wi (a0+a1),true)
def Zm8(F:Nat):Fs yb:=⟨66,[.v yI,.v yI],[],[yI,yI],[⟨.ret,[(0,.tup [.v yI,.v .bool])],[],[yI,.bool]⟩],λx=>ZaI F x.1 x.2⟩
def ZpJ:Fs yb:=Zm8 yD
theorem Zm9:ZpJ.Ok:=fnO { still:=[4,5,6,10]} [] [ZqT] ⟨Zyr,ytt⟩
def Xu(F:Nat)(a0:Int)(a1:Int)(a2:Int):yO (Bool):=
 if(decide (a1<=a0))=true then
  some (decide (a0<=a2))
 else
 some false
def ZpK(F:Nat):Fs yb:=⟨164,[.v yI,.v yI,.v yI],[],[yI,yI,yI],(zN .bool),λx=>Xu F x.1 x.2.1 x.2.2⟩
def ZiA:Fs yb:=ZpK yD
theorem ZpL:ZiA.Ok:=fnO { still:=[6]} [] [] trivial
abbrev Zf6:Ty:=(.st [yI,yI,yI,yI,yI,yI])
abbrev Terms:Type:=(Int×Int×Int×Int×Int×Int)
def ZdD(F:Nat)(a0:Terms):yO (Bool):=
 (Xu F a0.1 0 65536).bind λo44=>
 if o44=true then
  (Xu F a0.2.2.1 1 4096).bind λo45=>
  if o45=true then
   (Xu F a0.2.2.2.1 0 16).bind λo46=>
   if o46=true then
    (Xu F a0.2.1 a0.1 1125899906842624).bind λo47=>
    if o47=true then
     (Xu F a0.2.2.2.2.1 1 1125899906842624).bind λo48=>
     if o48=true then
      (Xu F a0.2.2.2.2.2 0 1125899906842624).bind λo49=>
      some o49
     else
     some false
    else
    some false
   else
   some false
  else
  some false
 else
 some false
def ZtF(F:Nat):Fs yb:=⟨121,[.v Zf6],[],[Zf6],(zN .bool),λx=>ZdD F x⟩
def Zl0:Fs yb:=ZtF yD
def hi0:HI:={ still:=[2,7,12,18,25,27,33,39]}
theorem ZtG:Zl0.Ok:=fnO hi0 [] [ZiA] ⟨ZpL,ytt⟩
def QQ(F:Nat)(a0:yU):yO (Bool):=
 if(a0==1)=true then
  some true
 else
 (XI F a0).bind λo50=>
 some (!o50)
def Zok(F:Nat):Fs yb:=⟨165,[.v .u64],[],[.u64],(zN .bool),λx=>QQ F x⟩
def ZgT:Fs yb:=Zok yD
theorem Zol:ZgT.Ok:=fnO { still:=[2,6]} [] [WE] ⟨WZ,ytt⟩
abbrev Zln:Ty:=(.st [.u64,.u64,.u64,.u64,.u64])
abbrev Basics:Type:=(yU×yU×yU×yU×yU)
abbrev Basics.Cond(x:Basics):yU:=x.2.2.2.1
def Wq(F:Nat)(s:((yL yU)×Int×Int)):yO (((yL yU)×Int×Int)⊕(Int⊕Unit)):=
 if(decide (s.2.2 < s.2.1))=true then
  (idx s.1 s.2.2).bind λe51=>
  (QQ F e51).bind λo52=>
  if o52=true then
   some (.inr (.inl s.2.2))
  else
  some (.inl (s.1,s.2.1,wi (s.2.2+1)))
 else
 some (.inr (.inr ()))
def ZgU:Lp:=⟨[(0,.v (.sl .u64)),(1,.fn 165 []),(7,.v yI),(8,.v yI)],[],[(.sl .u64),yI,yI],[⟨.ret,[(4,.v yI)],[],[yI]⟩,⟨.exit 0,[],[],[]⟩],Zb (Wq yD) yD⟩
theorem Zlv:ZgU.okA yb 147 0:=Zu { still:=[4,15]} [] [ZgT] ⟨Zol,ytt⟩
def Zes(F:Nat)(a0:(yL yU)):yO (Int):=
 (Zb (Wq F) F (a0,(a0.length:Int),0)).bind λo53=>
 match o53 with
 |.inl o54=>
  some o54
 |.inr o55=>
  some (-1)
def ZpM(F:Nat):Fs yb:=⟨147,[.v (.sl .u64),.fn 165 []],[],[(.sl .u64)],(zN yI),λx=>Zes F x⟩
def ZiB:Fs yb:=ZpM yD
theorem ZpN:ZiB.Ok:=fnO { still:=[4,15]} [(0,ZgU)] [] trivial ⟨Zlv,ytt⟩
def Zet(F:Nat)(a0:(yL yU)):yO (Bool):=
 (Zes F a0).bind λo56=>
 some (decide (o56 >= 0))
def ZpO(F:Nat):Fs yb:=⟨105,[.v (.sl .u64),.fn 165 []],[],[(.sl .u64)],(zN .bool),λx=>Zet F x⟩
def ZiC:Fs yb:=ZpO yD
theorem ZpP:ZiC.Ok:=fnO { still:=[4,5,6]} [] [ZiB] ⟨ZpN,ytt⟩
def Zb0(F:Nat)(a0:Basics):yO (Bool):=
 (Zet F [a0.1,a0.2.1,a0.2.2.1,a0.2.2.2.1,a0.2.2.2.2]).bind λo57=>
 some (!o57)
def Zro(F:Nat):Fs yb:=⟨122,[.v Zln],[],[Zln],(zN .bool),λx=>Zb0 F x⟩
def ZjU:Fs yb:=Zro yD
theorem Zrp:ZjU.Ok:=fnO { still:=[2,14,15]} [] [ZiC] ⟨ZpP,ytt⟩
abbrev ZP:Ty:=(.st [(.arr 32 .u8),yI])
abbrev ZS:Type:=((yL yB)×Int)
abbrev ZS.N(x:ZS):Int:=x.2
abbrev ZK:Ty:=(.st [ZP,yI,(.arr 2 Zln),(.arr 2 Zf6),yI])
abbrev Chan:Type:=(ZS×Int×(yL Basics)×(yL Terms)×Int)
abbrev Chan.Basics(x:Chan):(yL Basics):=x.2.2.1
abbrev Chan.Terms(x:Chan):(yL Terms):=x.2.2.2.1
def VH(F:Nat)(s:((yL Terms)×Int×Chan)):yO (((yL Terms)×Int×Chan)⊕((Int×Chan)⊕Chan)):=
 if(decide (s.2.1 < 2))=true then
  (idx s.1 s.2.1).bind λe58=>
  (ZdD F e58).bind λo59=>
  if(!o59)=true then
   some (.inr (.inl (1,s.2.2)))
  else
  if(inB s.2.1 2)=true then
   (s.2.2.2.2.1[s.2.1.toNat]?).bind λe60=>
   (Zb0 F e60).bind λo61=>
   if(!o61)=true then
    some (.inr (.inl (1,s.2.2)))
   else
   some (.inl (s.1,wi (s.2.1+1),s.2.2))
  else
  none
 else
 some (.inr (.inr s.2.2))
def Zom:Lp:=⟨[(1,.ref 0 []),(34,.v (.arr 2 Zf6)),(35,.v yI)],[.var (.v ZK) true],[(.arr 2 Zf6),yI,ZK],[⟨.ret,[(2,.v yI)],[.var (.v ZK) true],[yI,ZK]⟩,⟨.exit 0,[(1,.ref 0 [])],[.var (.v ZK) true],[ZK]⟩],Zb (VH yD) yD⟩
theorem Zrq:Zom.okA yb 78 0:=Zu { still:=[2,39,46,55,59]} [] [Zl0,ZjU] ⟨ZtG,Zrp,ytt⟩
def ZhS(F:Nat)(a0:Chan):yO (Int):=
 if(decide (a0.2.1 < 1))=true then
  some 1
 else
 if(decide (a0.2.1 > 1125899906842624))=true then
  some 1
 else
 if(decide (a0.1.2 < 0))=true then
  some 1
 else
 if(decide (a0.1.2 >= 64))=true then
  some 1
 else
 if((bits .andNot .i64 a0.2.2.2.2 1)!=0)=true then
  some 1
 else
 (Zb (VH F) F (a0.2.2.2.1,0,a0)).bind λo62=>
 match o62 with
 |.inl o63=>
  some o63.1
 |.inr o64=>
  (o64.2.2.2.1[0]?).bind λe65=>
  (o64.2.2.2.1[1]?).bind λe66=>
  (ZaI F e65.2.1 e66.2.1).bind λo67=>
  if(!o67.2)=true then
   some 10
  else
  if(decide (o67.1 > o64.2.1))=true then
   some 10
  else
  some 0
def Zys(F:Nat):Fs yb:=⟨78,[.v ZK],[],[ZK],(zN yI),λx=>ZhS F x⟩
def ZqU:Fs yb:=Zys yD
theorem Zyt:ZqU.Ok:=fnO { still:=[2,39,46,55,59]} [(0,Zom)] [ZpJ] ⟨Zm9,ytt⟩ ⟨Zrq,ytt⟩
def QR(F:Nat)(a0:Int)(s0:Int)(s1:Int):yO ((Bool×Int×Int)):=
 if(decide (a0 < s0))=true then
  some (true,s0,s1)
 else
 some (decide (a0 > s1),s0,s1)
def Zon(F:Nat):Fs yb:=⟨124,[.v yI,.ref 0 [],.ref 1 []],[.var (.v yI) true,.var (.v yI) true],[yI,yI,yI],[⟨.ret,[(0,.v .bool)],[.var (.v yI) true,.var (.v yI) true],[.bool,yI,yI]⟩],λx=>QR F x.1 x.2.1 x.2.2⟩
def ZgV:Fs yb:=Zon yD
theorem Zoo:ZgV.Ok:=fnO { still:=[4]} [] [] trivial
def ZM(F:Nat)(s:((yL Int)×Int×Int×Int×Int)):yO (((yL Int)×Int×Int×Int×Int)⊕((Int×Int×Int)⊕(Int×Int))):=
 if(decide (s.2.2.1 < s.2.1))=true then
  (idx s.1 s.2.2.1).bind λe68=>
  (QR F e68 s.2.2.2.1 s.2.2.2.2).bind λo69=>
  if o69.1=true then
   some (.inr (.inl (s.2.2.1,o69.2.1,o69.2.2)))
  else
  some (.inl (s.1,s.2.1,wi (s.2.2.1+1),o69.2.1,o69.2.2))
 else
 some (.inr (.inr (s.2.2.2.1,s.2.2.2.2)))
def VR:Lp:=⟨[(0,.v (.sl yI)),(1,.fn 124 [.ref 0 [],.ref 1 []]),(7,.v yI),(8,.v yI)],[.var (.v yI) true,.var (.v yI) true],[(.sl yI),yI,yI,yI,yI],[⟨.ret,[(4,.v yI)],[.var (.v yI) true,.var (.v yI) true],[yI,yI,yI]⟩,⟨.exit 0,[],[.var (.v yI) true,.var (.v yI) true],[yI,yI]⟩],Zb (ZM yD) yD⟩
theorem ZbK:VR.okA yb 166 0:=Zu { still:=[4,15]} [] [ZgV] ⟨Zoo,ytt⟩
def Xk(F:Nat)(a0:(yL Int))(s0:Int)(s1:Int):yO ((Int×Int×Int)):=
 (Zb (ZM F) F (a0,(a0.length:Int),0,s0,s1)).bind λo70=>
 match o70 with
 |.inl o71=>
  some (o71.1,o71.2.1,o71.2.2)
 |.inr o72=>
  some ((-1),o72.1,o72.2)
def ZdE(F:Nat):Fs yb:=⟨166,[.v (.sl yI),.fn 124 [.ref 0 [],.ref 1 []]],[.var (.v yI) true,.var (.v yI) true],[(.sl yI),yI,yI],[⟨.ret,[(0,.v yI)],[.var (.v yI) true,.var (.v yI) true],[yI,yI,yI]⟩],λx=>Xk F x.1 x.2.1 x.2.2⟩
def V4:Fs yb:=ZdE yD
theorem ZdF:V4.Ok:=fnO { still:=[4,15]} [(0,VR)] [] trivial ⟨ZbK,ytt⟩
def YP(F:Nat)(a0:(yL Int))(s0:Int)(s1:Int):yO ((Bool×Int×Int)):=
 (Xk F a0 s0 s1).bind λo73=>
 some (decide (o73.1 >= 0),o73.2.1,o73.2.2)
def ZbL(F:Nat):Fs yb:=⟨123,[.v (.sl yI),.fn 124 [.ref 0 [],.ref 1 []]],[.var (.v yI) true,.var (.v yI) true],[(.sl yI),yI,yI],[⟨.ret,[(0,.v .bool)],[.var (.v yI) true,.var (.v yI) true],[.bool,yI,yI]⟩],λx=>YP F x.1 x.2.1 x.2.2⟩
def Va:Fs yb:=ZbL yD
theorem ZbM:Va.Ok:=fnO { still:=[4,5,6]} [] [V4] ⟨ZdF,ytt⟩
def ZW(F:Nat)(a0:Int)(a1:Int)(a2:(yL Int)):yO (Bool):=
 (YP F a2 a0 a1).bind λo74=>
 some (!o74.1)
def Zrr(F:Nat):Fs yb:=⟨79,[.v yI,.v yI,.v (.sl yI)],[],[yI,yI,(.sl yI)],(zN .bool),λx=>ZW F x.1 x.2.1 x.2.2⟩
def Zeu:Fs yb:=Zrr yD
theorem ZiD:Zeu.Ok:=fnO { still:=[6,7,8]} [] [Va] ⟨ZbM,ytt⟩
abbrev Vb:Ty:=(.st [yI,yI,yI,.u64,yI])
abbrev Cond:Type:=(Int×Int×Int×yU×Int)
def ZfC(F:Nat)(a0:Cond):yO (Bool):=
 (ZW F 0 1 [a0.1]).bind λo75=>
 if o75=true then
  (ZW F 1 1048576 [a0.2.1]).bind λo76=>
  if o76=true then
   (ZW F 1 1125899906842624 [a0.2.2.1]).bind λo77=>
   if o77=true then
    (ZW F 1 1048576 [a0.2.2.2.2]).bind λo78=>
    if o78=true then
     (XI F a0.2.2.2.1).bind λo79=>
     if o79=true then
      some (a0.2.2.2.1 !=1)
     else
     some false
    else
    some false
   else
   some false
  else
  some false
 else
 some false
def Zvj(F:Nat):Fs yb:=⟨80,[.v Vb],[],[Vb],(zN .bool),λx=>ZfC F x⟩
def Zop:Fs yb:=Zvj yD
theorem Zvk:Zop.Ok:=fnO { still:=[2,5,10,16,22,27]} [] [Zeu,WE] ⟨ZiD,WZ,ytt⟩
def W0(F:Nat)(s:(Int×(yL Int)×Int×Int)):yO ((Int×(yL Int)×Int×Int)⊕(Int⊕Int)):=
 if(decide (s.2.2.2 < s.2.2.1))=true then
  (idx s.2.1 s.2.2.2).bind λe80=>
  if(e80 !=s.1)=true then
   some (.inr (.inl e80))
  else
  some (.inl (s.1,s.2.1,s.2.2.1,wi (s.2.2.2+1)))
 else
 some (.inr (.inr s.1))
def Zl1:Lp:=⟨[(3,.v yI),(6,.v (.sl yI)),(7,.v yI),(8,.v yI)],[],[yI,(.sl yI),yI,yI],[⟨.ret,[(2,.v yI)],[],[yI]⟩,⟨.exit 0,[(3,.v yI)],[],[yI]⟩],Zb (W0 yD) yD⟩
theorem ZpQ:Zl1.okA yb 46 0:=Zu { still:=[2]} [] [] trivial
def Zcl(F:Nat)(a0:(yL Int)):yO (Int):=
 (Zb (W0 F) F (0,a0,(a0.length:Int),0)).bind λo81=>
 match o81 with
 |.inl o82=>
  some o82
 |.inr o83=>
  some o83
def Zvl(F:Nat):Fs yb:=⟨46,[.v (.sl yI)],[],[(.sl yI)],(zN yI),λx=>Zcl F x⟩
def ZhT:Fs yb:=Zvl yD
theorem Zl2:ZhT.Ok:=fnO { still:=[2]} [(0,Zl1)] [] trivial ⟨ZpQ,ytt⟩
def ZaJ(F:Nat)(a0:Int):yO (Bool):=
 some (a0 !=a0)
def ZpR(F:Nat):Fs yb:=⟨90,[.v yI],[],[yI],(zN .bool),λx=>ZaJ F x⟩
def ZiE:Fs yb:=ZpR yD
theorem ZpS:ZiE.Ok:=fnO { still:=[2]} [] [] trivial
def Yp(F:Nat)(a0:Int)(a1:Int):yO (Int):=
 (ZaJ F a0).bind λo84=>
 (ZaJ F a1).bind λo85=>
 if o84=true then
  if o85=true then
   some 0
  else
  some (-1)
 else
 if o85=true then
  some 1
 else
 if(decide (a0 < a1))=true then
  some (-1)
 else
 if(decide (a0 > a1))=true then
  some 1
 else
 some 0
def Zna(F:Nat):Fs yb:=⟨47,[.v yI,.v yI],[],[yI,yI],(zN yI),λx=>Yp F x.1 x.2⟩
def ZaK:Fs yb:=Zna yD
theorem Zev:ZaK.Ok:=fnO { still:=[4,7,9]} [] [ZiE] ⟨ZpS,ytt⟩
def ZdG(F:Nat)(a0:Cond)(a1:Cond):yO (Int):=
 (Yp F a0.1 a1.1).bind λo86=>
 (Yp F a0.2.1 a1.2.1).bind λo87=>
 (Zcl F [o86,o87]).bind λo88=>
 some o88
def ZtH(F:Nat):Fs yb:=⟨81,[.v Vb,.v Vb],[],[Vb,Vb],(zN yI),λx=>ZdG F x.1 x.2⟩
def Zl3:Fs yb:=ZtH yD
theorem ZtI:Zl3.Ok:=fnO { still:=[4,6,8,11,13,15]} [] [ZaK,ZhT] ⟨Zev,Zl2,ytt⟩
abbrev Zy:Ty:=(.st [yI,(.arr 2 yI),(.sl Vb),yI])
abbrev yG:Type:=(Int×(yL Int)×(yL Cond)×Int)
def VS(F:Nat)(s:(Int×Int×Int×(yL Cond)×Int×Int×yG)):yO ((Int×Int×Int×(yL Cond)×Int×Int×yG)⊕(Int×Int×yG)):=
 if(decide (s.2.2.2.2.2.1 < s.2.2.2.2.1))=true then
  (idx s.2.2.2.1 s.2.2.2.2.2.1).bind λe89=>
  if(e89.1==(wi (1 - s.1)))=true then
   some (.inl (s.1,wi (s.2.1+1),wi (s.2.2.1+e89.2.2.1),s.2.2.2.1,s.2.2.2.2.1,wi (s.2.2.2.2.2.1+1),s.2.2.2.2.2.2))
  else
  some (.inl (s.1,s.2.1,s.2.2.1,s.2.2.2.1,s.2.2.2.2.1,wi (s.2.2.2.2.2.1+1),s.2.2.2.2.2.2))
 else
 some (.inr (s.2.1,s.2.2.1,s.2.2.2.2.2.2))
def ZgW:Lp:=⟨[(1,.v yI),(6,.v yI),(7,.v yI),(11,.v (.sl Vb)),(12,.v yI),(13,.v yI)],[.var (.v Zy) true],[yI,yI,yI,(.sl Vb),yI,yI,Zy],[⟨.exit 0,[(6,.v yI),(7,.v yI)],[.var (.v Zy) true],[yI,yI,Zy]⟩],Zb (VS yD) yD⟩
theorem Zlw:ZgW.okA yb 82 0:=Zu { still:=[4,5]} [] [] trivial
def ZaL(F:Nat)(a0:yG)(a1:Int):yO ((Int×Int)):=
 (Zb (VS F) F (a1,0,0,a0.2.2.1,(a0.2.2.1.length:Int),0,a0)).bind λo90=>
 some (o90.1,o90.2.1)
def ZpT(F:Nat):Fs yb:=⟨82,[.v Zy,.v yI],[],[Zy,yI],[⟨.ret,[(0,.tup [.v yI,.v yI])],[],[yI,yI]⟩],λx=>ZaL F x.1 x.2⟩
def ZiF:Fs yb:=ZpT yD
theorem ZpU:ZiF.Ok:=fnO { still:=[4,5]} [(0,ZgW)] [] trivial ⟨Zlw,ytt⟩
def QS(F:Nat)(s:(Int×(yL Cond)×Int×Int×yG)):yO ((Int×(yL Cond)×Int×Int×yG)⊕(Int×yG)):=
 if(decide (s.2.2.2.1 < s.2.2.1))=true then
  (idx s.2.1 s.2.2.2.1).bind λe93=>
  some (.inl (wi (s.1+e93.2.2.1),s.2.1,s.2.2.1,wi (s.2.2.2.1+1),s.2.2.2.2))
 else
 some (.inr (s.1,s.2.2.2.2))
def ZjV:Lp:=⟨[(3,.v yI),(14,.v (.sl Vb)),(15,.v yI),(16,.v yI)],[.var (.v Zy) true],[yI,(.sl Vb),yI,yI,Zy],[⟨.exit 0,[(3,.v yI)],[.var (.v Zy) true],[yI,Zy]⟩],Zb (QS yD) yD⟩
theorem Zoq:ZjV.okA yb 83 0:=Zu { still:=[2]} [] [] trivial
def ZdH(F:Nat)(a0:yG):yO (Int):=
 (a0.2.1[0]?).bind λe91=>
 (a0.2.1[1]?).bind λe92=>
 (Zb (QS F) F (wi (e91+e92),a0.2.2.1,(a0.2.2.1.length:Int),0,a0)).bind λo94=>
 some o94.1
def ZtJ(F:Nat):Fs yb:=⟨83,[.v Zy],[],[Zy],(zN yI),λx=>ZdH F x⟩
def Zl4:Fs yb:=ZtJ yD
theorem ZtK:Zl4.Ok:=fnO { still:=[2]} [(0,ZjV)] [] trivial ⟨Zoq,ytt⟩
def Zf7(F:Nat)(a0:Int):yO (Int):=
 if(decide (a0 < 0))=true then
  some 0
 else
 if(decide (a0 > 16))=true then
  some 0
 else
 some (wi (68+(wi (8*a0))))
def Zrs(F:Nat):Fs yb:=⟨128,[.v yI],[],[yI],(zN yI),λx=>Zf7 F x⟩
def ZjW:Fs yb:=Zrs yD
theorem Zrt:ZjW.Ok:=fnO { still:=[2]} [] [] trivial
def Zew(F:Nat)(a0:Int)(a1:Int):yO (Int):=
 if(decide (a0 < 0))=true then
  some 0
 else
 if(decide (a0 > 1000))=true then
  some 0
 else
 (Zf7 F a1).bind λo95=>
 some (wi (a0*o95))
def Zyu(F:Nat):Fs yb:=⟨88,[.v yI,.v yI],[],[yI,yI],(zN yI),λx=>Zew F x.1 x.2⟩
def ZjX:Fs yb:=Zyu yD
theorem Zor:ZjX.Ok:=fnO { still:=[4,12]} [] [ZjW] ⟨Zrt,ytt⟩
def ZfD(F:Nat)(a0:Chan)(a1:yG):yO (Int):=
 (Zew F a1.2.2.2 (a1.2.2.1.length:Int)).bind λo96=>
 some (wi (o96+660))
def Zvm(F:Nat):Fs yb:=⟨84,[.v ZK,.v Zy],[],[ZK,Zy],(zN yI),λx=>ZfD F x.1 x.2⟩
def Zos:Fs yb:=Zvm yD
theorem Zvn:Zos.Ok:=fnO { still:=[4,6,9]} [] [ZjX] ⟨Zor,ytt⟩
def XC(F:Nat)(s:((yL Cond)×Int×Int×Chan×yG)):yO (((yL Cond)×Int×Int×Chan×yG)⊕((Bool×Chan×yG)⊕(Chan×yG))):=
 if(decide (s.2.2.1 < s.2.1))=true then
  (idx s.1 s.2.2.1).bind λe103=>
  (ZfC F e103).bind λo104=>
  if(!o104)=true then
   some (.inr (.inl (false,s.2.2.2.1,s.2.2.2.2)))
  else
  if(inB (wi (1 - e103.1)) 2)=true then
   (s.2.2.2.1.2.2.2.1[(wi (1 - e103.1)).toNat]?).bind λe105=>
   if(decide (e103.2.2.1 < e105.2.2.2.2.1))=true then
    some (.inr (.inl (false,s.2.2.2.1,s.2.2.2.2)))
   else
   if(decide (s.2.2.1 > 0))=true then
    (idx s.2.2.2.2.2.2.1 (wi (s.2.2.1 - 1))).bind λe106=>
    (ZdG F e106 e103).bind λo107=>
    if(decide (o107 >= 0))=true then
     some (.inr (.inl (false,s.2.2.2.1,s.2.2.2.2)))
    else
    some (.inl (s.1,s.2.1,wi (s.2.2.1+1),s.2.2.2.1,s.2.2.2.2))
   else
   some (.inl (s.1,s.2.1,wi (s.2.2.1+1),s.2.2.2.1,s.2.2.2.2))
  else
  none
 else
 some (.inr (.inr (s.2.2.2.1,s.2.2.2.2)))
def ZjY:Lp:=⟨[(2,.ref 0 []),(3,.ref 1 []),(46,.v (.sl Vb)),(47,.v yI),(48,.v yI)],[.var (.v ZK) true,.var (.v Zy) true],[(.sl Vb),yI,yI,ZK,Zy],[⟨.ret,[(4,.v .bool)],[.var (.v ZK) true,.var (.v Zy) true],[.bool,ZK,Zy]⟩,⟨.exit 0,[(2,.ref 0 []),(3,.ref 1 [])],[.var (.v ZK) true,.var (.v Zy) true],[ZK,Zy]⟩],Zb (XC yD) yD⟩
def hi1:HI:={ still:=[4,11,17,28,35,53,77,78,91,92,107,118,119]}
theorem Zot:ZjY.okA yb 34 0:=Zu hi1 [] [Zop,Zl3] ⟨Zvk,ZtI,ytt⟩
def Wi(F:Nat)(s:((yL Terms)×Int×Chan×yG)):yO (((yL Terms)×Int×Chan×yG)⊕((Bool×Chan×yG)⊕(Chan×yG))):=
 if(decide (s.2.1 < 2))=true then
  (idx s.1 s.2.1).bind λe111=>
  (ZaL F s.2.2.2 s.2.1).bind λo112=>
  if(decide (o112.1 > e111.2.2.2.1))=true then
   some (.inr (.inl (false,s.2.2.1,s.2.2.2)))
  else
  if(decide (o112.2 > e111.2.2.2.2.2))=true then
   some (.inr (.inl (false,s.2.2.1,s.2.2.2)))
  else
  some (.inl (s.1,wi (s.2.1+1),s.2.2.1,s.2.2.2))
 else
 some (.inr (.inr (s.2.2.1,s.2.2.2)))
def ZjZ:Lp:=⟨[(2,.ref 0 []),(3,.ref 1 []),(85,.v (.arr 2 Zf6)),(86,.v yI)],[.var (.v ZK) true,.var (.v Zy) true],[(.arr 2 Zf6),yI,ZK,Zy],[⟨.ret,[(4,.v .bool)],[.var (.v ZK) true,.var (.v Zy) true],[.bool,ZK,Zy]⟩,⟨.exit 2,[(2,.ref 0 []),(3,.ref 1 [])],[.var (.v ZK) true,.var (.v Zy) true],[ZK,Zy]⟩],Zb (Wi yD) yD⟩
theorem Zou:ZjZ.okA yb 34 1:=Zu hi1 [] [ZiF] ⟨ZpU,ytt⟩
def ZaM(F:Nat)(a0:Chan)(a1:yG):yO (Bool):=
 (ZhS F a0).bind λo97=>
 if(o97 !=0)=true then
  some false
 else
 (ZW F 0 1048576 [a1.1]).bind λo98=>
 if(!o98)=true then
  some false
 else
 (a1.2.1[0]?).bind λe99=>
 (a1.2.1[1]?).bind λe100=>
 (ZW F 0 1125899906842624 [e99,e100]).bind λo101=>
 if(!o101)=true then
  some false
 else
 (ZW F 0 1000 [a1.2.2.2]).bind λo102=>
 if(!o102)=true then
  some false
 else
 if(decide ((a1.2.2.1.length:Int) > 16))=true then
  some false
 else
 (Zb (XC F) F (a1.2.2.1,(a1.2.2.1.length:Int),0,a0,a1)).bind λo108=>
 match o108 with
 |.inl o109=>
  some o109.1
 |.inr o110=>
  (Zb (Wi F) F (o110.1.2.2.2.1,0,o110.1,o110.2)).bind λo113=>
  match o113 with
  |.inl o114=>
   some o114.1
  |.inr o115=>
   (ZdH F o115.2).bind λo116=>
   if(o116==o115.1.2.1)=true then
    if(inB o115.1.2.2.2.2 2)=true then
     (o115.2.2.1[o115.1.2.2.2.2.toNat]?).bind λe117=>
     (ZfD F o115.1 o115.2).bind λo118=>
     some (decide (e117 >= o118))
    else
    none
   else
   some false
def ZtL(F:Nat):Fs yb:=⟨34,[.v ZK,.v Zy],[],[ZK,Zy],(zN .bool),λx=>ZaM F x.1 x.2⟩
def Zl5:Fs yb:=ZtL yD
theorem ZtM:Zl5.Ok:=fnO hi1 [(0,ZjY),(1,ZjZ)] [ZqU,Zeu,Zl4,Zos] ⟨Zyt,ZiD,ZtK,Zvn,ytt⟩ ⟨Zot,Zou,ytt⟩
def ZaN(F:Nat)(a0:yU):yO (yU):=
 (XI F a0).bind λo119=>
 if o119=true then
  some a0
 else
 some 1
def ZtN(F:Nat):Fs yb:=⟨102,[.v .u64],[],[.u64],(zN .u64),λx=>ZaN F x⟩
def Zf8:Fs yb:=ZtN yD
theorem Zj0:Zf8.Ok:=fnO { still:=[2,3]} [] [WE] ⟨WZ,ytt⟩
def Qn(F:Nat)(a0:yU)(a1:yU):yO (yU):=
 (ZaN F a0).bind λo120=>
 (ZaH F o120 (a1 % 2305843009213688669)).bind λo121=>
 some o121
def ZtO(F:Nat):Fs yb:=⟨63,[.v .u64,.v .u64],[],[.u64,.u64],(zN .u64),λx=>Qn F x.1 x.2⟩
def Zf9:Fs yb:=ZtO yD
theorem Zj1:Zf9.Ok:=fnO { still:=[4,5,6,8]} [] [Zf8,Zf5] ⟨Zj0,ZjT,ytt⟩
def Zb1(F:Nat)(s:(yU×(yL yU)×Int×Int)):yO ((yU×(yL yU)×Int×Int)⊕yU):=
 if(decide (s.2.2.2 < s.2.2.1))=true then
  (idx s.2.1 s.2.2.2).bind λe122=>
  (ZaN F e122).bind λo123=>
  (Yb F s.1 o123).bind λo124=>
  some (.inl (o124,s.2.1,s.2.2.1,wi (s.2.2.2+1)))
 else
 some (.inr s.1)
def Zov:Lp:=⟨[(3,.v .u64),(6,.v (.sl .u64)),(7,.v yI),(8,.v yI)],[],[.u64,(.sl .u64),yI,yI],[⟨.exit 0,[(3,.v .u64)],[],[.u64]⟩],Zb (Zb1 yD) yD⟩
theorem Zru:Zov.okA yb 125 0:=Zu { still:=[2,12,13,14]} [] [Zf8,Zf3] ⟨Zj0,ZjS,ytt⟩
def ZhU(F:Nat)(a0:(yL yU)):yO (yU):=
 (Zb (Zb1 F) F (1,a0,(a0.length:Int),0)).bind λo125=>
 some o125
def Zyv(F:Nat):Fs yb:=⟨125,[.v (.sl .u64)],[],[(.sl .u64)],(zN .u64),λx=>ZhU F x⟩
def ZqV:Fs yb:=Zyv yD
theorem Zyw:ZqV.Ok:=fnO { still:=[2,12,13,14]} [(0,Zov)] [] trivial ⟨Zru,ytt⟩
def ZbN(F:Nat)(a0:yU)(a1:yU):yO (yU):=
 (ZhU F [a0,a1]).bind λo126=>
 some o126
def Zyx(F:Nat):Fs yb:=⟨85,[.v .u64,.v .u64],[],[.u64,.u64],(zN .u64),λx=>ZbN F x.1 x.2⟩
def ZfE:Fs yb:=Zyx yD
theorem ZhV:ZfE.Ok:=fnO { still:=[4,7]} [] [ZqV] ⟨Zyw,ytt⟩
def W1(F:Nat)(s:(yU×(yL yB)×Int×(yL yB))):yO ((yU×(yL yB)×Int×(yL yB))⊕(yU×(yL yB))):=
 if(decide (s.2.2.1 < 32))=true then
  (idx s.2.1 s.2.2.1).bind λe127=>
  (W9 F (Zw s.1 56) ((V0 s.1 8)|||(yae e127.toNat)) 2305843009213688668).bind λo128=>
  some (.inl (o128,s.2.1,wi (s.2.2.1+1),s.2.2.2))
 else
 some (.inr (s.1,s.2.2.2))
def Zl6:Lp:=⟨[(3,.v .u64),(6,.v (.arr 32 .u8)),(7,.v yI)],[.var (.v (.arr 32 .u8)) true],[.u64,(.arr 32 .u8),yI,(.arr 32 .u8)],[⟨.exit 0,[(3,.v .u64)],[.var (.v (.arr 32 .u8)) true],[.u64,(.arr 32 .u8)]⟩],Zb (W1 yD) yD⟩
theorem ZpV:Zl6.okA yb 64 0:=Zu { still:=[2,11,16]} [] [ZdB] ⟨Zf2,ytt⟩
def Vc(F:Nat)(a0:(yL yB)):yO (yU):=
 (Zb (W1 F) F (0,a0,0,a0)).bind λo129=>
 some (o129.1+1)
def Zvo(F:Nat):Fs yb:=⟨64,[.v (.arr 32 .u8)],[],[(.arr 32 .u8)],(zN .u64),λx=>Vc F x⟩
def Qo:Fs yb:=Zvo yD
theorem QI:Qo.Ok:=fnO { still:=[2,11,16]} [(0,Zl6)] [] trivial ⟨ZpV,ytt⟩
def Zj2(F:Nat):yO ((yL yV)):=
 some [1779033703,3144134277,1013904242,2773480762,1359893119,2600822924,528734635,1541459225]
def Zvp(F:Nat):Fs yb:=⟨156,[],[],[],(zN (.arr 8 .u32)),λx=>Zj2 F⟩
def Zow:Fs yb:=Zvp yD
theorem Zvq:Zow.Ok:=fnO {} [] [] trivial
def ZI(F:Nat)(a0:yV)(a1:Int):yO (yV):=
 let y131:yV:=Zaf a0 (min (((w64 a1)&&&31).toNat:Int).toNat 32);let y132:yV:=Zc9 a0 (min ((32 - ((w64 a1)&&&31)).toNat:Int).toNat 32)
 some (y131|||y132)
def Zj3(F:Nat):Fs yb:=⟨177,[.v .u32,.v yI],[],[.u32,yI],(zN .u32),λx=>ZI F x.1 x.2⟩
def Qy:Fs yb:=Zj3 yD
theorem Zcm:Qy.Ok:=fnO { still:=[4]} [] [] trivial
def ZdI(F:Nat)(a0:(yL yB)):yO (yV):=
 (idx a0 0).bind λe133=>
 (idx a0 1).bind λe134=>
 let y135:yV:=(Zaf (ybp e133.toNat) 24)|||(Zaf (ybp e134.toNat) 16)
 (idx a0 2).bind λe136=>
 (idx a0 3).bind λe137=>
 let y138:yV:=(y135|||(Zaf (ybp e136.toNat) 8))|||(ybp e137.toNat)
 some y138
def ZtP(F:Nat):Fs yb:=⟨185,[.v (.sl .u8)],[],[(.sl .u8)],(zN .u32),λx=>ZdI F x⟩
def Zl7:Fs yb:=ZtP yD
theorem ZtQ:Zl7.Ok:=fnO { still:=[2]} [] [] trivial
def VT(F:Nat)(s:((yL yB)×Int×(yL yV))):yO (((yL yB)×Int×(yL yV))⊕(yL yV)):=
 if(decide (s.2.1 < 64))=true then
  if(decide (s.2.1 < 16))=true then
   if(Zeh s.1.length (some (wi (4*s.2.1))) none)=true then
    (ZdI F (s.1.drop ((wi (4*s.2.1)).toNat))).bind λo139=>
    if(inB s.2.1 64)=true then
     (s.2.2[s.2.1.toNat]?).bind λe140=>
     some (.inl (s.1,wi (s.2.1+1),s.2.2.set s.2.1.toNat o139))
    else
    none
   else
   none
  else
  if(inB (wi (s.2.1 - 15)) 64)=true then
   (s.2.2[(wi (s.2.1 - 15)).toNat]?).bind λe141=>
   if(inB (wi (s.2.1 - 2)) 64)=true then
    (s.2.2[(wi (s.2.1 - 2)).toNat]?).bind λe142=>
    (ZI F e141 (-7)).bind λo143=>
    (ZI F e141 (-18)).bind λo144=>
    (ZI F e142 (-17)).bind λo145=>
    (ZI F e142 (-19)).bind λo146=>
    if(inB (wi (s.2.1 - 16)) 64)=true then
     (s.2.2[(wi (s.2.1 - 16)).toNat]?).bind λe147=>
     if(inB (wi (s.2.1 - 7)) 64)=true then
      (s.2.2[(wi (s.2.1 - 7)).toNat]?).bind λe148=>
      let y149:yV:=(e147+((o143^^^o144)^^^(Zc9 e141 3)))+e148
      if(inB s.2.1 64)=true then
       (s.2.2[s.2.1.toNat]?).bind λe150=>
       let y151:(yL yV):=s.2.2.set s.2.1.toNat (y149+((o145^^^o146)^^^(Zc9 e142 10)))
       some (.inl (s.1,wi (s.2.1+1),y151))
      else
      none
     else
     none
    else
    none
   else
   none
  else
  none
 else
 some (.inr s.2.2)
def ZgX:Lp:=⟨[(0,.v (.sl .u8)),(2,.ref 0 []),(8,.v yI)],[.var (.v (.arr 64 .u32)) true],[(.sl .u8),yI,(.arr 64 .u32)],[⟨.exit 0,[(2,.ref 0 [])],[.var (.v (.arr 64 .u32)) true],[(.arr 64 .u32)]⟩],Zb (VT yD) yD⟩
theorem Zlx:ZgX.okA yb 175 0:=Zu { still:=[17,28,30,36,38]} [] [Zl7,Qy] ⟨ZtQ,Zcm,ytt⟩
def ZaO(F:Nat)(a0:(yL yB)):yO ((yL yV)):=
 (Zb (VT F) F (a0,0,[0,0,0,0,0,0,0,0,0,0,0,0,0,0,0,0,0,0,0,0,0,0,0,0,0,0,0,0,0,0,0,0,0,0,0,0,0,0,0,0,0,0,0,0,0,0,0,0,0,0,0,0,0,0,0,0,0,0,0,0,0,0,0,0])).bind λo152=>
 some o152
def ZpW(F:Nat):Fs yb:=⟨175,[.v (.sl .u8)],[],[(.sl .u8)],(zN (.arr 64 .u32)),λx=>ZaO F x⟩
def ZiG:Fs yb:=ZpW yD
theorem ZpX:ZiG.Ok:=fnO { still:=[17,28,30,36,38]} [(0,ZgX)] [] trivial ⟨Zlx,ytt⟩
def Zj4(F:Nat):yO ((yL yV)):=
 some [1116352408,1899447441,3049323471,3921009573,961987163,1508970993,2453635748,2870763221,3624381080,310598401,607225278,1426881987,1925078388,2162078206,2614888103,3248222580,3835390401,4022224774,264347078,604807628,770255983,1249150122,1555081692,1996064986,2554220882,2821834349,2952996808,3210313671,3336571891,3584528711,113926993,338241895,666307205,773529912,1294757372,1396182291,1695183700,1986661051,2177026350,2456956037,2730485921,2820302411,3259730800,3345764771,3516065817,3600352804,4094571909,275423344,430227734,506948616,659060556,883997877,958139571,1322822218,1537002063,1747873779,1955562222,2024104815,2227730452,2361852424,2428436474,2756734187,3204031479,3329325298]
def Zvr(F:Nat):Fs yb:=⟨176,[],[],[],(zN (.arr 64 .u32)),λx=>Zj4 F⟩
def Zox:Fs yb:=Zvr yD
theorem Zvs:Zox.Ok:=fnO {} [] [] trivial
def Vl(F:Nat)(s:(Int×(yL yV)×(yL yV)×(yL yV)×(yL yV)×(yL yV))):yO ((Int×(yL yV)×(yL yV)×(yL yV)×(yL yV)×(yL yV))⊕((yL yV)×(yL yV)×(yL yV)×(yL yV)×(yL yV))):=
 if(decide (s.1 < 64))=true then
  (s.2.2.2.2.2[4]?).bind λe155=>
  (ZI F e155 (-6)).bind λo156=>
  (s.2.2.2.2.2[4]?).bind λe157=>
  (ZI F e157 (-11)).bind λo158=>
  (s.2.2.2.2.2[4]?).bind λe159=>
  (ZI F e159 (-25)).bind λo160=>
  (s.2.2.2.2.2[7]?).bind λe161=>
  (s.2.2.2.2.2[6]?).bind λe162=>
  (s.2.2.2.2.2[4]?).bind λe163=>
  (s.2.2.2.2.2[5]?).bind λe164=>
  (s.2.2.2.2.2[6]?).bind λe165=>
  let y166:yV:=(e161+((o156^^^o158)^^^o160))+(e162^^^(e163&&&(e164^^^e165)))
  if(inB s.1 64)=true then
   (s.2.2.2.2.1[s.1.toNat]?).bind λe167=>
   if(inB s.1 64)=true then
    (s.2.2.2.1[s.1.toNat]?).bind λe168=>
    (s.2.2.2.2.2[0]?).bind λe169=>
    (ZI F e169 (-2)).bind λo170=>
    (s.2.2.2.2.2[0]?).bind λe171=>
    (ZI F e171 (-13)).bind λo172=>
    (s.2.2.2.2.2[0]?).bind λe173=>
    (ZI F e173 (-22)).bind λo174=>
    (s.2.2.2.2.2[0]?).bind λe175=>
    (s.2.2.2.2.2[1]?).bind λe176=>
    (s.2.2.2.2.2[2]?).bind λe177=>
    (s.2.2.2.2.2[0]?).bind λe178=>
    (s.2.2.2.2.2[1]?).bind λe179=>
    let y180:yV:=((y166+e167)+e168)+((o170^^^o172)^^^o174);let y181:yV:=y180+((e175&&&e176)|||(e177&&&(e178|||e179)))
    (s.2.2.2.2.2[0]?).bind λe182=>
    (s.2.2.2.2.2[1]?).bind λe183=>
    (s.2.2.2.2.2[2]?).bind λe184=>
    (s.2.2.2.2.2[3]?).bind λe185=>
    (s.2.2.2.2.2[4]?).bind λe186=>
    (s.2.2.2.2.2[5]?).bind λe187=>
    (s.2.2.2.2.2[6]?).bind λe188=>
    some (.inl (wi (s.1+1),s.2.1,s.2.2.1,s.2.2.2.1,s.2.2.2.2.1,[y181,e182,e183,e184,e185+((y166+e167)+e168),e186,e187,e188]))
   else
   none
  else
  none
 else
 some (.inr (s.2.1,s.2.2.1,s.2.2.2.1,s.2.2.2.2.1,s.2.2.2.2.2))
def ZKk:yL ESh:=[.var (.v (.arr 8 .u32)) true,.var (.v (.arr 8 .u32)) true,.var (.v (.arr 64 .u32)) true,.var (.v (.arr 64 .u32)) true,.var (.v (.arr 8 .u32)) true]
def ZfF:Lp:=⟨[(2,.ref 0 []),(4,.ref 1 []),(5,.ref 2 []),(6,.ref 3 []),(7,.ref 4 []),(18,.v yI)],ZKk,[yI,(.arr 8 .u32),(.arr 8 .u32),(.arr 64 .u32),(.arr 64 .u32),(.arr 8 .u32)],[⟨.exit 0,[(2,.ref 0 []),(4,.ref 1 []),(7,.ref 4 [])],ZKk,[(.arr 8 .u32),(.arr 8 .u32),(.arr 64 .u32),(.arr 64 .u32),(.arr 8 .u32)]⟩],Zb (Vl yD) yD⟩
def hi2:HI:={ still:=[14,22,25,29,57,60,64]}
theorem Zj5:ZfF.okA yb 157 0:=Zu hi2 [] [Qy] ⟨Zcm,ytt⟩
def Vm(F:Nat)(s:(Int×(yL yV)×(yL yV)×(yL yV)×(yL yV)×(yL yV))):yO ((Int×(yL yV)×(yL yV)×(yL yV)×(yL yV)×(yL yV))⊕((yL yV)×(yL yV)×(yL yV)×(yL yV)×(yL yV))):=
 if(decide (s.1 < 8))=true then
  if(inB s.1 8)=true then
   (s.2.2.2.2.2[s.1.toNat]?).bind λe190=>
   if(inB s.1 8)=true then
    (s.2.1[s.1.toNat]?).bind λe191=>
    if(inB s.1 8)=true then
     (s.2.2.2.2.2[s.1.toNat]?).bind λe192=>
     some (.inl (wi (s.1+1),s.2.1,s.2.2.1,s.2.2.2.1,s.2.2.2.2.1,s.2.2.2.2.2.set s.1.toNat (e190+e191)))
    else
    none
   else
   none
  else
  none
 else
 some (.inr (s.2.1,s.2.2.1,s.2.2.2.1,s.2.2.2.2.1,s.2.2.2.2.2))
def ZfG:Lp:=⟨[(2,.ref 0 []),(4,.ref 1 []),(7,.ref 4 []),(104,.v yI)],ZKk,[yI,(.arr 8 .u32),(.arr 8 .u32),(.arr 64 .u32),(.arr 64 .u32),(.arr 8 .u32)],[⟨.exit 2,[(4,.ref 1 []),(7,.ref 4 [])],ZKk,[(.arr 8 .u32),(.arr 8 .u32),(.arr 64 .u32),(.arr 64 .u32),(.arr 8 .u32)]⟩],Zb (Vm yD) yD⟩
theorem Zj6:ZfG.okA yb 157 1:=Zu hi2 [] [] trivial
def VE(F:Nat)(a0:(yL yV))(a1:(yL yB)):yO ((yL yV)):=
 (ZaO F a1).bind λo153=>
 (Zj4 F).bind λo154=>
 (Zb (Vl F) F (0,a0,[0,0,0,0,0,0,0,0],o153,o154,a0)).bind λo189=>
 (Zb (Vm F) F (0,o189.1,o189.2.1,o189.2.2.1,o189.2.2.2.1,o189.2.2.2.2)).bind λo193=>
 some o193.2.2.2.2
def Zoy(F:Nat):Fs yb:=⟨157,[.v (.arr 8 .u32),.v (.sl .u8)],[],[(.arr 8 .u32),(.sl .u8)],(zN (.arr 8 .u32)),λx=>VE F x.1 x.2⟩
def ZbO:Fs yb:=Zoy yD
theorem ZfH:ZbO.Ok:=fnO hi2 [(0,ZfF),(1,ZfG)] [ZiG,Zox] ⟨ZpX,Zvs,ytt⟩ ⟨Zj5,Zj6,ytt⟩
def Z1(F:Nat)(a0:(yL yB)):yO ((yL yB)):=
 if(apB 0 a0.length 1)=true then
  some a0
 else
 none
def ZcX(F:Nat):Fs yb:=⟨155,[.sl true .u8],[],[(.sl .u8)],[⟨.ret,[(0,.own 0 .u8)],[.log .u8 5],[(.sl .u8)]⟩],λx=>Z1 F x⟩
def ZdJ:Fs yb:=ZcX yD
theorem ZcY:ZdJ.Ok:=fnO { own:=[2,5,7]} [] [] trivial
def V5(F:Nat):yO ((yL yB)):=
 some []
def ZcZ(F:Nat):Fs yb:=⟨155,[.nil .u8],[],[],[⟨.ret,[(0,.own 0 .u8)],[.log .u8 5],[(.sl .u8)]⟩],λx=>V5 F⟩
def ZdK:Fs yb:=ZcZ yD
theorem Zc0:ZdK.Ok:=fnO { own:=[2,5,7]} [] [] trivial
def ZbP(F:Nat):Fs yb:=⟨155,[.v (.sl .u8)],[],[(.sl .u8)],[⟨.ret,[(0,.own 0 .u8)],[.log .u8 5],[(.sl .u8)]⟩],λx=>Z1 F x⟩
def Vd:Fs yb:=ZbP yD
theorem ZbQ:Vd.Ok:=Zyg (t:=.u8) (xs:=[⟨.ret,[(0,.own 0 .u8)],[.log .u8 5],[(.sl .u8)]⟩]) (MA:=λ(x:(yL yB))=>Z1 yD x) (MB:=λ_=>V5 yD) ZcY Zc0 rfl
def Zb2(F:Nat)(s:((yL yB)×(yL yB)×(yL yB))):yO (((yL yB)×(yL yB)×(yL yB))⊕((yL yB)×(yL yB)×(yL yB))):=
 if((Int.tmod (s.2.2.length:Int) 64)!=56)=true then
  if(apB s.2.2.length 1 1)=true then
   some (.inl (s.1,s.2.1,s.2.2++([0]:yL yB)))
  else
  none
 else
 some (.inr (s.1,s.2.1,s.2.2))
abbrev zK:List ESh:=[.var (.v (.arr 32 .u8)) true,.log .u8 5]
def Zoz:Lp:=⟨[(0,.v (.sl .u8)),(2,.ref 0 []),(3,.own 1 .u8)],zK,[(.sl .u8),(.arr 32 .u8),(.sl .u8)],[⟨.exit 0,[(0,.v (.sl .u8)),(2,.ref 0 []),(3,.own 1 .u8)],zK,[(.sl .u8),(.arr 32 .u8),(.sl .u8)]⟩],Zb (Zb2 yD) yD⟩
def hi3:HI:={ own:=[3,14,16,21,23,24,28,43],still:=[13,24,27,35,37,44,46]}
theorem Zrv:Zoz.okA yb 115 0:=Zu hi3 [] [] trivial
def Qp(F:Nat)(s:(Int×Int×(yL yB)×(yL yB))):yO ((Int×Int×(yL yB)×(yL yB))⊕((yL yB)×(yL yB))):=
 if(decide (s.2.1 >= 0))=true then
  if(decide (0<=s.2.1))=true then
   if(apB s.2.2.1.length 1 1)=true then
    let y197:(yL yB):=s.2.2.1++([w8 (Int.fdiv s.1 (2 ^ (min s.2.1.toNat 64)))]:yL yB)
    some (.inl (s.1,wi (s.2.1 - 8),y197,s.2.2.2))
   else
   none
  else
  none
 else
 some (.inr (s.2.2.1,s.2.2.2))
def ZiH:Lp:=⟨[(0,.own 0 .u8),(1,.v yI),(5,.v yI)],[.log .u8 5,.log .u8 5],[yI,yI,(.sl .u8),(.sl .u8)],[⟨.exit 0,[(0,.own 0 .u8)],[.log .u8 5,.log .u8 5],[(.sl .u8),(.sl .u8)]⟩],Zb (Qp yD) yD⟩
theorem Znb:ZiH.okA yb 114 0:=Zu { own:=[0,4,10,16,17]} [] [] trivial
def WF(F:Nat)(a1:Int)(s0:(yL yB)):yO ((yL yB)):=
 (Zb (Qp F) F (a1,56,s0,[])).bind λo198=>
 some o198.1
def Zc1(F:Nat):Fs yb:=⟨114,[.own 0 .u8,.v yI],[.log .u8 5],[yI,(.sl .u8)],[⟨.ret,[(0,.own 0 .u8)],[.log .u8 5],[(.sl .u8)]⟩],λx=>WF F x.1 x.2⟩
def Zex:Fs yb:=Zc1 yD
theorem Zc2:Zex.Ok:=fnO { own:=[0,4,10,16,17]} [(0,ZiH)] [] trivial ⟨Znb,ytt⟩
def Zb3(F:Nat)(s:((yL yB)×(yL yB)×(yL yB)×(yL yV))):yO (((yL yB)×(yL yB)×(yL yB)×(yL yV))⊕((yL yB)×(yL yB)×(yL yV))):=
 if(decide ((s.1.length:Int) >= 64))=true then
  if(Zeh s.1.length none (some 64))=true then
   (VE F s.2.2.2 (s.1.take 64)).bind λo201=>
   if(Zeh s.1.length (some 64) none)=true then
    some (.inl (s.1.drop 64,s.2.1,s.2.2.1,o201))
   else
   none
  else
  none
 else
 some (.inr (s.2.1,s.2.2.1,s.2.2.2))
abbrev zJ:List ESh:=[.var (.v (.arr 32 .u8)) true,.log .u8 5,.var (.v (.arr 8 .u32)) true]
def ZoA:Lp:=⟨[(0,.v (.sl .u8)),(2,.ref 0 []),(3,.own 1 .u8),(4,.ref 2 [])],zJ,[(.sl .u8),(.arr 32 .u8),(.sl .u8),(.arr 8 .u32)],[⟨.exit 2,[(2,.ref 0 []),(3,.own 1 .u8),(4,.ref 2 [])],zJ,[(.arr 32 .u8),(.sl .u8),(.arr 8 .u32)]⟩],Zb (Zb3 yD) yD⟩
theorem Zrw:ZoA.okA yb 115 1:=Zu hi3 [] [ZbO] ⟨ZfH,ytt⟩
def Zb4(F:Nat)(s:((yL yB)×(yL yB)×(yL yB)×(yL yV))):yO (((yL yB)×(yL yB)×(yL yB)×(yL yV))⊕((yL yB)×(yL yB)×(yL yV))):=
 if(decide ((s.1.length:Int) > 0))=true then
  if(Zeh s.1.length none (some 64))=true then
   (VE F s.2.2.2 (s.1.take 64)).bind λo204=>
   if(Zeh s.1.length (some 64) none)=true then
    some (.inl (s.1.drop 64,s.2.1,s.2.2.1,o204))
   else
   none
  else
  none
 else
 some (.inr (s.2.1,s.2.2.1,s.2.2.2))
def ZoB:Lp:=⟨[(2,.ref 0 []),(3,.v (.sl .u8)),(4,.ref 2 [])],zJ,[(.sl .u8),(.arr 32 .u8),(.sl .u8),(.arr 8 .u32)],[⟨.exit 4,[(2,.ref 0 []),(4,.ref 2 [])],zJ,[(.arr 32 .u8),(.sl .u8),(.arr 8 .u32)]⟩],Zb (Zb4 yD) yD⟩
theorem Zrx:ZoB.okA yb 115 2:=Zu hi3 [] [ZbO] ⟨ZfH,ytt⟩
def Zb5(F:Nat)(s:(Int×(yL yB)×(yL yB)×(yL yV))):yO ((Int×(yL yB)×(yL yB)×(yL yV))⊕((yL yB)×(yL yB)×(yL yV))):=
 if(decide (s.1 < 32))=true then
  if(inB (wi (Int.tdiv s.1 4)) 8)=true then
   (s.2.2.2[(wi (Int.tdiv s.1 4)).toNat]?).bind λe206=>
   if(decide (0<=wi (24 - (wi (8*(Int.tmod s.1 4))))))=true then
    let y207:yV:=Zc9 e206 (min (wi (24 - (wi (8*(Int.tmod s.1 4))))).toNat 32)
    if(inB s.1 32)=true then
     (s.2.1[s.1.toNat]?).bind λe208=>
     some (.inl (wi (s.1+1),s.2.1.set s.1.toNat (w8 (y207.toNat:Int)),s.2.2.1,s.2.2.2))
    else
    none
   else
   none
  else
  none
 else
 some (.inr (s.2.1,s.2.2.1,s.2.2.2))
def ZoC:Lp:=⟨[(2,.ref 0 []),(4,.ref 2 []),(48,.v yI)],zJ,[yI,(.arr 32 .u8),(.sl .u8),(.arr 8 .u32)],[⟨.exit 6,[(2,.ref 0 [])],zJ,[(.arr 32 .u8),(.sl .u8),(.arr 8 .u32)]⟩],Zb (Zb5 yD) yD⟩
theorem Zry:ZoC.okA yb 115 3:=Zu hi3 [] [] trivial
def Zey(F:Nat)(a0:(yL yB)):yO ((yL yB)):=
 let y194:Int:=wi ((a0.length:Int) - (Int.tmod (a0.length:Int) 64))
 if(Zeh a0.length (some y194) none)=true then
  (Z1 F (a0.drop y194.toNat)).bind λo195=>
  if(apB o195.length 1 1)=true then
   (Zb (Zb2 F) F (a0,yzz,o195++([128]:yL yB))).bind λo196=>
   (WF F (wi (8*(o196.1.length:Int))) o196.2.2).bind λo199=>
   (Zj2 F).bind λo200=>
   (Zb (Zb3 F) F (o196.1,o196.2.1,o199,o200)).bind λo202=>
   (Zb (Zb4 F) F (o202.2.1,o202.1,o202.2.1,o202.2.2)).bind λo205=>
   (Zb (Zb5 F) F (0,o205.1,o205.2.1,o205.2.2)).bind λo209=>
   some o209.1
  else
  none
 else
 none
def ZhW(F:Nat):Fs yb:=⟨115,[.v (.sl .u8)],[],[(.sl .u8)],(zN (.arr 32 .u8)),λx=>Zey F x⟩
def ZAK:Fs yb:=ZhW yD
theorem Zyy:ZAK.Ok:=fnO hi3 [(0,Zoz),(1,ZoA),(2,ZoB),(3,ZoC)] [Zex,Vd,Zow] ⟨Zc2,ZbQ,Zvq,ytt⟩ ⟨Zrv,Zrw,Zrx,Zry,ytt⟩
end
end Go.Proofs.YtpgpjjjoglafdaaGreat
end
section
namespace Go.Sha
open Go.Ev
noncomputable def QJ{α:Type}(n:Nat)(k:Nat->α):α:=Nat.rec (motive:=λ_=>α) (k 0) (λm _=>k (Nat.succ m)) n
theorem Xv{α:Type}(n:Nat)(k:Nat->α):QJ n k=k n:=by cases n <;> rfl
def dbl(x:Nat):Nat:=Nat.mul x 4294967297
def s0(x:Nat):Nat:=Nat.xor (Nat.xor (yag (dbl x) 7) (yag (dbl x) 18)) (yag x 3)
def s1(x:Nat):Nat:=Nat.xor (Nat.xor (yag (dbl x) 17) (yag (dbl x) 19)) (yag x 10)
def S0(x:Nat):Nat:=Nat.xor (Nat.xor (yag (dbl x) 2) (yag (dbl x) 13)) (yag (dbl x) 22)
def S1(x:Nat):Nat:=Nat.xor (Nat.xor (yag (dbl x) 6) (yag (dbl x) 11)) (yag (dbl x) 25)
def ch(e f g:Nat):Nat:=Nat.xor g (Nat.land e (Nat.xor f g))
def mj(a b c:Nat):Nat:=Nat.lor (Nat.land a b) (Nat.land c (Nat.lor a b))
def lo(x:Nat):Nat:=Nat.mod x 4294967296
def kw(W:Nat):Nat:=lo (yu (yu (yu (yag W 480) (s0 (lo (yag W 448)))) (lo (yag W 192))) (s1 (lo (yag W 32))))
def kn(W:Nat):Nat:=Nat.mod (yu (Nat.mul W 4294967296) (kw W)) (Nat.pow 2 512)
noncomputable def kst(k:Nat)(ih:Nat->Nat->Nat->Nat->Nat->Nat->Nat->Nat->Nat->Nat)(W a b c d e f g h:Nat):Nat:=
 QJ (yu (yu (yu (yu h (S1 e)) (ch e f g)) k) (yag W 480)) λt=>
     QJ (lo (yu (yu t (S0 a)) (mj a b c))) λa'=>QJ (lo (yu d t)) λe'=>QJ (kn W) λW'=>ih W' a' a b c e' e f g
noncomputable def kgo(ks:yL Nat)(K:Nat->Nat->Nat->Nat->Nat->Nat->Nat->Nat->Nat):Nat->Nat->Nat->Nat->Nat->Nat->Nat->Nat->Nat->Nat:=
 List.rec (motive:=λ_=>Nat->Nat->Nat->Nat->Nat->Nat->Nat->Nat->Nat->Nat) (λ_=>K) (λk _ ih=>kst k ih) ks
def ks:yL Nat:=[1116352408,1899447441,3049323471,3921009573,961987163,1508970993,2453635748,2870763221,3624381080,310598401,607225278,1426881987,1925078388,2162078206,2614888103,3248222580,3835390401,4022224774,264347078,604807628,770255983,1249150122,1555081692,1996064986,2554220882,2821834349,2952996808,3210313671,3336571891,3584528711,113926993,338241895,666307205,773529912,1294757372,1396182291,1695183700,1986661051,2177026350,2456956037,2730485921,2820302411,3259730800,3345764771,3516065817,3600352804,4094571909,275423344,430227734,506948616,659060556,883997877,958139571,1322822218,1537002063,1747873779,1955562222,2024104815,2227730452,2361852424,2428436474,2756734187,3204031479,3329325298]
def w32(H i:Nat):Nat:=lo (yag H i)
def cat(H x:Nat):Nat:=yu (Nat.mul H 4294967296) (lo x)
noncomputable def ZKl(H B:Nat):Nat:=
 QJ (w32 H 224) λa=>QJ (w32 H 192) λb=>QJ (w32 H 160) λc=>QJ (w32 H 128) λd=>QJ (w32 H 96) λe=>QJ (w32 H 64) λf=>QJ (w32 H 32) λg=>QJ (w32 H 0) λh=>
  kgo ks (λa' b' c' d' e' f' g' h'=>cat (cat (cat (cat (cat (cat (cat (cat 0 (yu a' a)) (yu b' b)) (yu c' c)) (yu d' d)) (yu e' e)) (yu f' f)) (yu g' g)) (yu h' h)) B a b c d e f g h
noncomputable def pk(l:yL Nat)(n:Nat):Nat:=List.rec (motive:=λ_=>Nat->Nat) (λn=>n) (λx _ ih n=>QJ (yu (Nat.mul n 256) x) ih) l n
noncomputable def ZMq(n:Nat)(l:yL Nat)(H:Nat):Nat:=
 Nat.rec (motive:=λ_=>yL Nat->Nat->Nat) (λ_ H=>H) (λ_ ih l H=>QJ (ZKl H (pk (l.take 64) 0)) λH'=>ih (l.drop 64) H') n l H
noncomputable def outs(H:Nat)(l:yL Nat):yL yB:=List.rec (motive:=λ_=>yL yB) [] (λs _ ih=>QJ (Nat.mod (yag H s) 256) λx=>yay x::ih) l
def ZCX:yL Nat:=[248,240,232,224,216,208,200,192,184,176,168,160,152,144,136,128,120,112,104,96,88,80,72,64,56,48,40,32,24,16,8,0]
def be8(n:Nat):yL Nat:=[n / 2 ^ 56 % 256,n / 2 ^ 48 % 256,n / 2 ^ 40 % 256,n / 2 ^ 32 % 256,n / 2 ^ 24 % 256,n / 2 ^ 16 % 256,n / 2 ^ 8 % 256,n % 256]
def zs(n:Nat):Nat:=(119 - n % 64) % 64
def H0:Nat:=cat (cat (cat (cat (cat (cat (cat (cat 0 1779033703) 3144134277) 1013904242) 2773480762) 1359893119) 2600822924) 528734635) 1541459225
noncomputable def sha(l:yL yB):yL yB:=
 QJ l.length λn=>QJ (ZMq (Nat.div (yu n 72) 64) (l.map yak++(128::(yv (zs n) 0++be8 (8*n)))) H0) λH=>outs H ZCX
theorem Qw(x y:yV):(x+y).toNat=lo (x.toNat+y.toNat):=by rw[UInt32.toNat_add];rfl
theorem Zl8(x y:yV):(x^^^y).toNat=Nat.xor x.toNat y.toNat:=UInt32.toNat_xor ..
theorem ZH4(x y:yV):(x&&&y).toNat=Nat.land x.toNat y.toNat:=UInt32.toNat_and ..
theorem Zyz(x y:yV):(x|||y).toNat=Nat.lor x.toNat y.toNat:=UInt32.toNat_or ..
theorem ZMr(x:yV):x.toNat < 4294967296:=x.toNat_lt
theorem ZwH(x:yV)(n:Nat):(Zc9 x n).toNat=yag x.toNat n:=by
 unfold Zc9;rw[ycq,show yag x.toNat n=x.toNat >>> n from rfl,ydc]
 exact yao (Nat.lt_of_le_of_lt (Nat.div_le_self _ _) (ZMr x))
theorem ZK5(x:Nat):lo x < 4294967296:=ybh _ (by omega)
theorem Zbf{x:Nat}(h:x < 4294967296):lo x=x:=yao h
theorem ZK6(x:yV){n k:Nat}(h:n+k=32)(hn:0 < n):(Zaf x k|||Zc9 x n).toNat=lo (yag (dbl x.toNat) n):=by
 rw[Zyz,ZwH];unfold Zaf;have hx:=ZMr x;generalize x.toNat=m at hx;have hp:2 ^ n*2 ^ k=4294967296:=by rw[<-Nat.pow_add,h]
 rw[ycq,show yag m n=m >>> n from rfl,ydc,show yag (dbl m) n=(dbl m) >>> n from rfl,ydc]
 have e1:m*2 ^ k % 2 ^ 32=2 ^ k*(m % 2 ^ n):=by
  rw[show(2:Nat) ^ 32=2 ^ n*2 ^ k from hp.symm,Nat.mul_mod_mul_right]
  exact ybt ..
 have hd:m / 2 ^ n < 2 ^ k:=by
  rw[Nat.div_lt_iff_lt_mul (Nat.two_pow_pos n),ybt,hp];exact hx
 rw[e1,show Nat.lor (2 ^ k*(m % 2 ^ n)) (m / 2 ^ n)=2 ^ k*(m % 2 ^ n)|||m / 2 ^ n from rfl, <-yda hd]
 have e2:dbl m=2 ^ n*(m*2 ^ k)+m:=by
  unfold dbl;rw[Nat.mul_left_comm,hp,show Nat.mul m 4294967297=m*4294967297 from rfl]
  omega
 rw[e2,Nat.mul_add_div (Nat.two_pow_pos n)];unfold lo;rw[show Nat.mod (m*2 ^ k+m / 2 ^ n) 4294967296=(m*2 ^ k+m / 2 ^ n) % 4294967296 from rfl,Nat.add_mod,show m*2 ^ k % 4294967296=2 ^ k*(m % 2 ^ n) from e1,yao (a:=m / 2 ^ n) (b:=4294967296) (by rw[<-hp];exact Nat.lt_of_lt_of_le hd (Nat.le_mul_of_pos_left _ (Nat.two_pow_pos n)))]
 refine(yao ?_).symm;have hm:m % 2 ^ n < 2 ^ n:=ybh _ (Nat.two_pow_pos n)
 calc 2 ^ k*(m % 2 ^ n)+m / 2 ^ n < 2 ^ k*(m % 2 ^ n)+2 ^ k:=by omega
  _=2 ^ k*(m % 2 ^ n+1):=by rw[Nat.mul_add,Nat.mul_one]
  _<=2 ^ k*2 ^ n:=Nat.mul_le_mul_left _ hm
  _=4294967296:=by rw[ybt,hp]
theorem Zj7(x y:Nat):lo (Nat.xor x y)=Nat.xor (lo x) (lo y):=Nat.xor_mod_two_pow (n:=32)
theorem ZH5(x:yV)(n:Nat):lo (yag x.toNat n)=yag x.toNat n:=by
 rw[<-ZwH];exact Zbf (ZMr _)
theorem ZNu(x:yV){a b:yV}(ha:a.toNat=lo (yag (dbl x.toNat) 7))(hb:b.toNat=lo (yag (dbl x.toNat) 18)):((a^^^b)^^^Zc9 x 3).toNat=lo (s0 x.toNat):=by
 unfold s0;rw[Zl8,Zl8,ZwH,ha,hb,Zj7,Zj7,ZH5]
theorem ZNv(x:yV){a b:yV}(ha:a.toNat=lo (yag (dbl x.toNat) 17))(hb:b.toNat=lo (yag (dbl x.toNat) 19)):((a^^^b)^^^Zc9 x 10).toNat=lo (s1 x.toNat):=by
 unfold s1;rw[Zl8,Zl8,ZwH,ha,hb,Zj7,Zj7,ZH5]
theorem ZNw(x:yV){a b c:yV}(ha:a.toNat=lo (yag (dbl x.toNat) 2))(hb:b.toNat=lo (yag (dbl x.toNat) 13))(hc:c.toNat=lo (yag (dbl x.toNat) 22)):((a^^^b)^^^c).toNat=lo (S0 x.toNat):=by
 unfold S0;rw[Zl8,Zl8,ha,hb,hc,Zj7,Zj7]
theorem ZNx(x:yV){a b c:yV}(ha:a.toNat=lo (yag (dbl x.toNat) 6))(hb:b.toNat=lo (yag (dbl x.toNat) 11))(hc:c.toNat=lo (yag (dbl x.toNat) 25)):((a^^^b)^^^c).toNat=lo (S1 x.toNat):=by
 unfold S1;rw[Zl8,Zl8,ha,hb,hc,Zj7,Zj7]
theorem ZNy(e f g:yV):(g^^^(e&&&(f^^^g))).toNat=ch e.toNat f.toNat g.toNat:=by
 unfold ch;rw[Zl8,ZH4,Zl8]
theorem ZNz(a b c:yV):((a&&&b)|||(c&&&(a|||b))).toNat=mj a.toNat b.toNat c.toNat:=by
 unfold mj;rw[Zyz,ZH4,ZH4,Zyz]
theorem ZNA(a b c d:Nat):lo (lo (lo (a+lo b)+c)+lo d)=lo (a+b+c+d):=by
 show(((a+b % 4294967296) % 4294967296+c) % 4294967296+d % 4294967296) % 4294967296=(a+b+c+d) % 4294967296;omega
theorem ZNB(a b c d e:Nat):lo (lo (lo (lo (a+lo b)+c)+d)+e)=lo (yu (yu (yu (yu a b) c) d) e):=by
 show((((a+b % 4294967296) % 4294967296+c) % 4294967296+d) % 4294967296+e) % 4294967296=(a+b+c+d+e) % 4294967296;omega
theorem ZNC(t s m:Nat):lo (lo (lo t+lo s)+m)=lo (yu (yu t s) m):=by
 show((t % 4294967296+s % 4294967296) % 4294967296+m) % 4294967296=(t+s+m) % 4294967296;omega
theorem ZND(d t:Nat):lo (d+lo t)=lo (yu d t):=by
 show(d+t % 4294967296) % 4294967296=(d+t) % 4294967296;omega
def pw(n:Nat)(l:yL Nat):Nat:=l.foldl (λn x=>n*4294967296+x) n
theorem ZCY:∀(l:yL Nat)(n:Nat),(∀x,x∈l->x < 4294967296)->pw n l / 2 ^ (32*l.length)=n
 |[],n,_=>by simp[pw]
 |x::r,n,h=>by
  have ih:=ZCY r (n*4294967296+x) (λy hy=>h y (List.mem_cons_of_mem _ hy));have hx:=h x (List.mem_cons_self ..);rw[show pw n (x::r)=pw (n*4294967296+x) r from rfl,yah,show 32*(r.length+1)=32*r.length+32 by omega,Nat.pow_add, <-Nat.div_div_eq_div_mul,ih]
  omega
theorem ZoD:∀(l:yL Nat)(n:Nat),pw n l=n*2 ^ (32*l.length)+pw 0 l
 |[],n=>by simp[pw]
 |x::r,n=>by
  rw[show pw n (x::r)=pw (n*4294967296+x) r from rfl,show pw 0 (x::r)=pw (0*4294967296+x) r from rfl,ZoD r (n*4294967296+x),ZoD r (0*4294967296+x),yah,show 32*(r.length+1)=32+32*r.length by omega,Nat.pow_add,Nat.zero_mul,
   ybg,Nat.add_mul, <-Nat.mul_assoc,Nat.add_assoc]
theorem ZK7:∀(l:yL Nat),(∀x,x∈l->x < 4294967296)->pw 0 l < 2 ^ (32*l.length)
 |[],_=>by simp[pw]
 |x::r,h=>by
  have ih:=ZK7 r (λy hy=>h y (List.mem_cons_of_mem _ hy));have hx:=h x (List.mem_cons_self ..);rw[show pw 0 (x::r)=pw (0*4294967296+x) r from rfl,ZoD,yah,show 32*(r.length+1)=32+32*r.length by omega,Nat.pow_add,Nat.zero_mul,ybg]
  have:(x+1)*2 ^ (32*r.length)<=2 ^ 32*2 ^ (32*r.length):=Nat.mul_le_mul_right _ (by omega);rw[Nat.add_mul,Nat.one_mul] at this;omega
theorem ZK8{n x s:Nat}{r:yL Nat}(h:∀y,y∈r->y < 4294967296)(hs:s=32*r.length):yag (pw n (x::r)) s=n*4294967296+x:=by
 subst hs;rw[show yag (pw n (x::r)) (32*r.length)=pw n (x::r) >>> (32*r.length) from rfl,ydc]
 exact ZCY r (n*4294967296+x) h
theorem ZK9{n x s:Nat}{r:yL Nat}(hx:x < 4294967296)(h:∀y,y∈r->y < 4294967296)(hs:s=32*r.length):lo (yag (pw n (x::r)) s)=x:=by
 rw[ZK8 h hs];show(n*4294967296+x) % 4294967296=x;omega
theorem ZCZ(n:Nat)(l r:yL Nat):pw n (l++r)=pw (pw n l) r:=List.foldl_append ..
theorem ZEo(n x:Nat)(r:yL Nat):pw n (x::r)=pw (n*4294967296+x) r:=rfl
theorem ZfI{v l r:yL Nat}{x s:Nat}(e:v=l++x::r)(h:∀y,y∈v->y < 4294967296)(hs:s=32*r.length):lo (yag (pw 0 v) s)=x:=by
 rw[e] at h ⊢;rw[ZCZ];exact ZK9 (h x (by simp)) (λy hy=>h y (by simp[hy])) hs
def wd(ws:yL Nat)(n:Nat):Nat:=if h:n < 16 then lo (ws.getD n 0) else lo (wd ws (n - 16)+s0 (wd ws (n - 15))+wd ws (n - 7)+s1 (wd ws (n - 2)))
termination_by n
decreasing_by all_goals omega
theorem ZNE(ws:yL Nat)(n:Nat):wd ws n < 4294967296:=by
 rw[wd];split <;> exact ZK5 _
theorem ZyA(ws:yL Nat)(n:Nat):wd ws (n+16)=lo (wd ws n+s0 (wd ws (n+1))+wd ws (n+9)+s1 (wd ws (n+14))):=by
 rw[wd,dif_neg (by omega)];simp only[Nat.add_sub_cancel,show n+16 - 15=n+1 by omega,show n+16 - 7=n+9 by omega,show n+16 - 2=n+14 by omega]
def win(ws:yL Nat)(i:Nat):yL Nat:=[wd ws i,wd ws (i+1),wd ws (i+2),wd ws (i+3),wd ws (i+4),wd ws (i+5),wd ws (i+6),wd ws (i+7),wd ws (i+8),wd ws (i+9),wd ws (i+10),wd ws (i+11),wd ws (i+12),wd ws (i+13),wd ws (i+14),wd ws (i+15)]
theorem ZC0{ws:yL Nat}{i:Nat}{l:yL Nat}(h:∀x,x∈l->∃j,x=wd ws j):∀x,x∈l->x < 4294967296:=λx hx=>by
 obtain⟨j,rfl⟩:=h x hx;exact ZNE _ _
theorem ZEp(ws:yL Nat)(i:Nat):yag (pw 0 (win ws i)) 480=wd ws i:=by
 have h:=ZK8 (n:=0) (x:=wd ws i) (s:=480) (r:=(win ws i).tail) (ZC0 (ws:=ws) (i:=i) (λx hx=>by
  simp only[win,List.tail_cons,ybc,ycs,or_false] at hx;rcases hx with h|h|h|h|h|h|h|h|h|h|h|h|h|h|h <;> exact⟨_,h⟩)) rfl
 rw[Nat.zero_mul,ybg] at h;exact h
theorem ZMs(ws:yL Nat)(i:Nat):kw (pw 0 (win ws i))=wd ws (i+16):=by
 have key:∀(l r:yL Nat)(x s:Nat),win ws i=l++x::r->s=32*r.length->lo (yag (pw 0 (win ws i)) s)=x:=by
  intro l r x s e hs
  have zU:∀y,y∈win ws i->y < 4294967296:=ZC0 (i:=i) λx hx=>by
   simp only[win,ybc,ycs,or_false] at hx;rcases hx with h|h|h|h|h|h|h|h|h|h|h|h|h|h|h|h <;> exact⟨_,h⟩
  rw[e] at zU ⊢;rw[ZCZ];exact ZK9 (zU x (by simp)) (λy hy=>zU y (by simp[hy])) hs
 unfold kw;rw[ZEp,key [_] _ (wd ws (i+1)) 448 rfl rfl,key [_,_,_,_,_,_,_,_,_] _ (wd ws (i+9)) 192 rfl rfl,key [_,_,_,_,_,_,_,_,_,_,_,_,_,_] _ (wd ws (i+14)) 32 rfl rfl,ZyA];rfl
theorem ZKm(a b m:Nat)(h:b < 2 ^ m):Nat.mod (a*2 ^ m+b) (Nat.pow 2 m)=b:=by
 show(a*2 ^ m+b) % 2 ^ m=b;rw[ybt,Nat.mul_add_mod];exact yao h
theorem ZMt(ws:yL Nat)(i:Nat):kn (pw 0 (win ws i))=pw 0 (win ws (i+1)):=by
 have e:yu (Nat.mul (pw 0 (win ws i)) 4294967296) (kw (pw 0 (win ws i)))=pw (wd ws i) (win ws (i+1)):=by
  rw[ZMs];show pw 0 (win ws i)*4294967296+wd ws (i+16)=pw (wd ws i) (win ws (i+1));rw[show wd ws i=0*4294967296+wd ws i by omega];rfl
 unfold kn;rw[e,ZoD];have hl:(win ws (i+1)).length=16:=rfl
 have hlt:=ZK7 (win ws (i+1)) (ZC0 (i:=i+1) λx hx=>by
  simp only[win,ybc,ycs,or_false] at hx;rcases hx with h|h|h|h|h|h|h|h|h|h|h|h|h|h|h|h <;> exact⟨_,h⟩)
 rw[show 512=32*(win ws (i+1)).length by rw[hl]];exact ZKm _ _ _ hlt
def rnd(v:yL Nat)(k w:Nat):yL Nat:=match v with
 |[a,b,c,d,e,f,g,h]=>[lo (yu (yu (yu (yu (yu (yu h (S1 e)) (ch e f g)) k) w) (S0 a)) (mj a b c)),a,b,c,lo (yu d (yu (yu (yu (yu h (S1 e)) (ch e f g)) k) w)),e,f,g]
 |_=>[]
def rs(ws v:yL Nat):Nat->yL Nat
 |0=>v
 |i+1=>rnd (rs ws v i) (ks.getD i 0) (wd ws i)
theorem ZKn{v:yL Nat}(h:v.length=8)(k w:Nat):(rnd v k w).length=8:=by
 match v,h with
 |[a,b,c,d,e,f,g,h],_=>rfl
theorem ZyB{ws v:yL Nat}(h:v.length=8):∀i,(rs ws v i).length=8
 |0=>h
 |i+1=>ZKn (ZyB h i) _ _
noncomputable def ZH6(f:Nat->Nat->Nat->Nat->Nat->Nat->Nat->Nat->Nat)(v:yL Nat):Nat:=match v with
 |[a,b,c,d,e,f',g,h]=>f a b c d e f' g h
 |_=>0
theorem Zlo{F:Nat->Nat->Nat->Nat->Nat->Nat->Nat->Nat->Nat}{a b c d e f g h:Nat}:ZH6 F [a,b,c,d,e,f,g,h]=F a b c d e f g h:=rfl
theorem ZH7(k:Nat)(l:yL Nat)(K:Nat->Nat->Nat->Nat->Nat->Nat->Nat->Nat->Nat):kgo (k::l) K=kst k (kgo l K):=rfl
theorem ZtR(a b c d e f g h k w:Nat):rnd [a,b,c,d,e,f,g,h] k w=[lo (yu (yu (yu (yu (yu (yu h (S1 e)) (ch e f g)) k) w) (S0 a)) (mj a b c)),a,b,c,lo (yu d (yu (yu (yu (yu h (S1 e)) (ch e f g)) k) w)),e,f,g]:=rfl
theorem ZMu(k:Nat)(ih:Nat->Nat->Nat->Nat->Nat->Nat->Nat->Nat->Nat->Nat)(W a b c d e f g h:Nat):kst k ih W a b c d e f g h=
 ih (kn W) (lo (yu (yu (yu (yu (yu (yu h (S1 e)) (ch e f g)) k) (yag W 480)) (S0 a)) (mj a b c))) a b c (lo (yu d (yu (yu (yu (yu h (S1 e)) (ch e f g)) k) (yag W 480)))) e f g:=by
 unfold kst;rw[Xv,Xv,Xv,Xv]
theorem ZH8{ws v:yL Nat}{K:Nat->Nat->Nat->Nat->Nat->Nat->Nat->Nat->Nat}{k w:Nat}{l:yL Nat}(hv:v.length=8){W:Nat}(hW:yag W 480=w):ZH6 (kgo (k::l) K W) v=ZH6 (kgo l K (kn W)) (rnd v k w):=by
 match v,hv with
 |[a,b,c,d,e,f,g,h],_=>
  rw[ZH7,Zlo,ZMu,hW,ZtR,Zlo]
theorem ZEq{ws v:yL Nat}{K:Nat->Nat->Nat->Nat->Nat->Nat->Nat->Nat->Nat}(hv:v.length=8):∀(m i:Nat),i+m=64->ZH6 (kgo (ks.drop i) K (pw 0 (win ws i))) (rs ws v i)=ZH6 K (rs ws v 64)
 |0,i,h=>by
  have e:i=64:=by omega
  subst e;rw[show ks.drop 64=[] from rfl]
  generalize pw 0 (win ws 64)=W
  rfl
 |m+1,i,h=>by
  have hi:i < ks.length:=by show i < 64;omega
  rw[List.drop_eq_getElem_cons hi,ZH8 (ws:=ws) (ZyB hv i) (ZEp ws i),ZMt];have:=ZEq (ws:=ws) (K:=K) hv m (i+1) (by omega);rw[show rs ws v (i+1)=rnd (rs ws v i) (ks.getD i 0) (wd ws i) from rfl,show ks.getD i 0=ks[i] by rw[ycx,yac hi];rfl] at this
  exact this
def ZhX(v ws:yL Nat):yL Nat:=List.zipWith (λx y=>lo (x+y)) (rs ws v 64) v
theorem Zez{v ws:yL Nat}(h:v.length=8):(ZhX v ws).length=8:=by
 rw[ZhX,List.length_zipWith,ZyB h,h];rfl
theorem ZEr{v ws:yL Nat}:∀x,x∈ZhX v ws->x < 4294967296:=by
 intro x hx;unfold ZhX at hx;rw[List.mem_iff_getElem] at hx;obtain⟨i,hi,rfl⟩:=hx;rw[List.getElem_zipWith];exact ZK5 _
theorem ZKo{v ws:yL Nat}(hv:v.length=8)(hlt:∀x,x∈v->x < 4294967296)(hw:ws.length=16)(hwl:∀x,x∈ws->x < 4294967296):ZKl (pw 0 v) (pw 0 ws)=pw 0 (ZhX v ws):=by
 have e0:ws=win ws 0:=by
  match ws,hw with
  |[a0,a1,a2,a3,a4,a5,a6,a7,a8,a9,a10,a11,a12,a13,a14,a15],_=>
   simp only[ybc,ycs,or_false,forall_eq_or_imp,forall_eq] at hwl;obtain⟨h0,h1,h2,h3,h4,h5,h6,h7,h8,h9,h10,h11,h12,h13,h14,h15⟩:=hwl;have hs:∀n,n < 16->wd [a0,a1,a2,a3,a4,a5,a6,a7,a8,a9,a10,a11,a12,a13,a14,a15] n=lo ([a0,a1,a2,a3,a4,a5,a6,a7,a8,a9,a10,a11,a12,a13,a14,a15].getD n 0):=λn hn=>by rw[wd,dif_pos hn]
   unfold win;rw[hs 0 (by omega),hs (0+1) (by omega),hs (0+2) (by omega),hs (0+3) (by omega),hs (0+4) (by omega),hs (0+5) (by omega),hs (0+6) (by omega),hs (0+7) (by omega),hs (0+8) (by omega),hs (0+9) (by omega),hs (0+10) (by omega),hs (0+11) (by omega),hs (0+12) (by omega),hs (0+13) (by omega),hs (0+14) (by omega),hs (0+15) (by omega)];show _=[lo a0,lo a1,lo a2,lo a3,lo a4,lo a5,lo a6,lo a7,lo a8,lo a9,lo a10,lo a11,lo a12,lo a13,lo a14,lo a15];rw[Zbf h0,Zbf h1,Zbf h2,Zbf h3,Zbf h4,Zbf h5,Zbf h6,Zbf h7,Zbf h8,Zbf h9,Zbf h10,Zbf h11,Zbf h12,Zbf h13,Zbf h14,Zbf h15]
 match v,hv with
 |[a,b,c,d,e,f,g,h],hv=>
  have ea:w32 (pw 0 [a,b,c,d,e,f,g,h]) 224=a:=ZfI (l:=[]) (r:=[b,c,d,e,f,g,h]) rfl hlt rfl;have eb:w32 (pw 0 [a,b,c,d,e,f,g,h]) 192=b:=ZfI (l:=[a]) (r:=[c,d,e,f,g,h]) rfl hlt rfl;have ec:w32 (pw 0 [a,b,c,d,e,f,g,h]) 160=c:=ZfI (l:=[a,b]) (r:=[d,e,f,g,h]) rfl hlt rfl;have ed:w32 (pw 0 [a,b,c,d,e,f,g,h]) 128=d:=ZfI (l:=[a,b,c]) (r:=[e,f,g,h]) rfl hlt rfl;have ee:w32 (pw 0 [a,b,c,d,e,f,g,h]) 96=e:=ZfI (l:=[a,b,c,d]) (r:=[f,g,h]) rfl hlt rfl;have ef:w32 (pw 0 [a,b,c,d,e,f,g,h]) 64=f:=ZfI (l:=[a,b,c,d,e]) (r:=[g,h]) rfl hlt rfl;have eg:w32 (pw 0 [a,b,c,d,e,f,g,h]) 32=g:=ZfI (l:=[a,b,c,d,e,f]) (r:=[h]) rfl hlt rfl;have eh:w32 (pw 0 [a,b,c,d,e,f,g,h]) 0=h:=ZfI (l:=[a,b,c,d,e,f,g]) (r:=[]) rfl hlt rfl;unfold ZKl;rw[ea,eb,ec,ed,ee,ef,eg,eh,Xv,Xv,Xv,Xv,Xv,Xv,Xv,Xv];have hr:=ZEq (ws:=ws) (v:=[a,b,c,d,e,f,g,h]) (K:=λa' b' c' d' e' f' g' h'=>cat (cat (cat (cat (cat (cat (cat (cat 0 (yu a' a)) (yu b' b)) (yu c' c)) (yu d' d)) (yu e' e)) (yu f' f)) (yu g' g)) (yu h' h)) rfl 64 0 rfl;rw[<-e0,show ks.drop 0=ks from rfl,show rs ws [a,b,c,d,e,f,g,h] 0=[a,b,c,d,e,f,g,h] from rfl,Zlo] at hr
  rw[hr];unfold ZhX;generalize rs ws [a,b,c,d,e,f,g,h] 64=q,ZyB (ws:=ws) hv 64=hq
  match q,hq with
  |[a',b',c',d',e',f',g',h'],_=>
   rw[Zlo];simp only[List.zipWith_cons_cons,List.zipWith_nil_right,ZEo,cat];rfl
theorem Zr5(x:Nat)(l:yL Nat)(n:Nat):pk (x::l) n=pk l (n*256+x):=by
 show QJ (yu (Nat.mul n 256) x) (pk l)=_;rw[Xv];rfl
def Z2:yL Nat->yL Nat
 |a::b::c::d::r=>(((a*256+b)*256+c)*256+d)::Z2 r
 |_=>[]
theorem ZAL:∀(m:Nat)(l:yL Nat)(n:Nat),l.length=4*m->pk l n=pw n (Z2 l)
 |0,[],n,_=>rfl
 |0,_::_,_,h=>by simp at h
 |m+1,[],_,h=>by simp at h
 |m+1,[_],_,h=>by simp at h;omega
 |m+1,[_,_],_,h=>by simp at h;omega
 |m+1,[_,_,_],_,h=>by simp at h;omega
 |m+1,a::b::c::d::r,n,h=>by
  rw[Zr5,Zr5,Zr5,Zr5,Z2];rw[ZAL m r _ (by simp at h;omega),ZEo];have e:(((n*256+a)*256+b)*256+c)*256+d=n*4294967296+(((a*256+b)*256+c)*256+d):=by omega
  rw[e]
theorem ZqW:∀(m:Nat)(l:yL Nat),l.length=4*m->(Z2 l).length=m
 |0,[],_=>rfl
 |0,_::_,h=>by simp at h
 |m+1,[],h=>by simp at h
 |m+1,[_],h=>by simp at h;omega
 |m+1,[_,_],h=>by simp at h;omega
 |m+1,[_,_,_],h=>by simp at h;omega
 |m+1,a::b::c::d::r,h=>by
  rw[Z2,yah,ZqW m r (by simp at h;omega)]
theorem ZtS:∀(m:Nat)(l:yL Nat),l.length=4*m->(∀x,x∈l->x < 256)->∀x,x∈Z2 l->x < 4294967296
 |0,[],_,_,x,hx=>by simp[Z2] at hx
 |0,_::_,h,_,_,_=>by simp at h
 |m+1,[],h,_,_,_=>by simp at h
 |m+1,[_],h,_,_,_=>by simp at h;omega
 |m+1,[_,_],h,_,_,_=>by simp at h;omega
 |m+1,[_,_,_],h,_,_,_=>by simp at h;omega
 |m+1,a::b::c::d::r,h,hl,x,hx=>by
  rw[Z2] at hx;have h1:=hl a (by simp);have h2:=hl b (by simp);have h3:=hl c (by simp);have h4:=hl d (by simp);rcases ybc.1 hx with rfl|hx
  ·omega
  ·exact ZtS m r (by simp at h;omega) (λy hy=>hl y (by simp[hy])) x hx
theorem Zj8:∀(i:Nat)(l:yL Nat)(a b c d:Nat),l[4*i]? =some a->l[4*i+1]? =some b->l[4*i+2]? =some c->l[4*i+3]? =some d->(Z2 l)[i]? =some (((a*256+b)*256+c)*256+d)
 |0,[],_,_,_,_,h,_,_,_=>by simp at h
 |0,[_],_,_,_,_,_,h,_,_=>by simp at h
 |0,[_,_],_,_,_,_,_,_,h,_=>by simp at h
 |0,[_,_,_],_,_,_,_,_,_,_,h=>by simp at h
 |0,a::b::c::d::r,_,_,_,_,h1,h2,h3,h4=>by
  simp at h1 h2 h3 h4;subst h1 h2 h3 h4
  rfl
 |i+1,[],_,_,_,_,h,_,_,_=>by simp at h
 |i+1,[_],_,_,_,_,h,_,_,_=>by simp[show 4*(i+1)=4*i+3+1 by omega] at h
 |i+1,[_,_],_,_,_,_,h,_,_,_=>by simp[show 4*(i+1)=4*i+2+1+1 by omega] at h
 |i+1,[_,_,_],_,_,_,_,h,_,_,_=>by simp[show 4*(i+1)=4*i+1+1+1+1 by omega] at h
 |i+1,a::b::c::d::r,_,_,_,_,h1,h2,h3,h4=>by
  rw[Z2,yaw]
  exact Zj8 i r _ _ _ _ (by simpa[show 4*(i+1)=4*i+1+1+1+1 by omega] using h1) (by simpa[show 4*(i+1)+1=4*i+1+1+1+1+1 by omega] using h2)
   (by simpa[show 4*(i+1)+2=4*i+2+1+1+1+1 by omega] using h3) (by simpa[show 4*(i+1)+3=4*i+3+1+1+1+1 by omega] using h4)
def ZeA:Nat->yL Nat->yL Nat->yL Nat
 |0,_,v=>v
 |n+1,l,v=>ZeA n (l.drop 64) (ZhX v (Z2 (l.take 64)))
theorem ZEs:∀(n:Nat)(l v:yL Nat),l.length=64*n->(∀x,x∈l->x < 256)->v.length=8->(∀x,x∈v->x < 4294967296)->ZMq n l (pw 0 v)=pw 0 (ZeA n l v)
 |0,l,v,_,_,_,_=>rfl
 |n+1,l,v,h1,h2,h3,h4=>by
  show QJ (ZKl (pw 0 v) (pk (l.take 64) 0)) (ZMq n (l.drop 64))=_;have hl:(l.take 64).length=4*16:=by rw[yaf];omega
  rw[Xv,ZAL 16 _ 0 hl,ZKo h3 h4 (ZqW 16 _ hl) (ZtS 16 _ hl λx hx=>h2 x (List.mem_of_mem_take hx))];exact ZEs n (l.drop 64) _ (by rw[ybx];omega) (λx hx=>h2 x (List.mem_of_mem_drop hx)) (Zez h3) ZEr
theorem ZAM:∀(n:Nat)(l v:yL Nat),v.length=8->(ZeA n l v).length=8
 |0,_,_,h=>h
 |n+1,l,v,h=>ZAM n _ _ (Zez h)
theorem ZEt:∀(n:Nat)(l v:yL Nat),(∀x,x∈v->x < 4294967296)->∀x,x∈ZeA n l v->x < 4294967296
 |0,_,_,h=>h
 |n+1,l,v,h=>ZEt n _ _ ZEr
theorem ZtT:∀(n m:Nat)(l r v:yL Nat),l.length=64*n->ZeA (n+m) (l++r) v=ZeA m r (ZeA n l v)
 |0,m,l,r,v,h=>by
  have:l=[]:=List.length_eq_zero_iff.1 (by omega);subst this;rw[ybg]
  rfl
 |n+1,m,l,r,v,h=>by
  rw[show n+1+m=(n+m)+1 by omega,ZeA,List.drop_append_of_le_length (by omega),List.take_append_of_le_length (by omega),ZtT n m _ r _ (by rw[ybx];omega)];rfl
theorem Zlp:∀(c:Nat)(l v:yL Nat),ZeA (c+1) l v=ZhX (ZeA c l v) (Z2 ((l.drop (64*c)).take 64))
 |0,l,v=>by rw[Nat.mul_zero,List.drop_zero];rfl
 |c+1,l,v=>by
  rw[show ZeA (c+1+1) l v=ZeA (c+1) (l.drop 64) (ZhX v (Z2 (l.take 64))) from rfl,Zlp c,List.drop_drop,show 64+64*c=64*(c+1) by omega]
  rfl
theorem ZAN(ws:yL Nat){n x:Nat}(hn:n < 16)(h:ws[n]? =some x)(hx:x < 4294967296):wd ws n=x:=by
 rw[wd,dif_pos hn,ycx,h];exact Zbf hx
def ZH9(v:yL Nat)(k:Nat):yB:=yay (v.getD (k / 4) 0 / 2 ^ (24 - 8*(k % 4)))
theorem ZKp{v:yL Nat}(hv:v.length=8)(hlt:∀x,x∈v->x < 4294967296):outs (pw 0 v) ZCX=(List.range 32).map (ZH9 v):=by
 have hgo:∀(H:Nat)(l:yL Nat),outs H l=l.map λs=>yay (H / 2 ^ s % 256):=by
  intro H l
  induction l with
  |nil=>rfl
  |cons s r ih=>
   show QJ (Nat.mod (yag H s) 256) (λx=>yay x::outs H r)=_;rw[Xv,ih,yad,show yag H s=H >>> s from rfl,ydc]
   rfl
 have hb:∀(l r:yL Nat)(x j s:Nat),v=l++x::r->j<=24->s=32*r.length+j->yay (pw 0 v / 2 ^ s % 256)=yay (x / 2 ^ j):=by
  intro l r x j s e hj hs;have zU:=hlt;rw[e] at zU
  have h1:pw 0 v / 2 ^ (32*r.length)=pw 0 l*4294967296+x:=by
   rw[e,ZCZ];exact ZCY r _ (λy hy=>zU y (by simp[hy]))
  rw[hs,Nat.pow_add, <-Nat.div_div_eq_div_mul,h1]
  have h2:pw 0 l*4294967296+x=2 ^ j*(pw 0 l*2 ^ (24 - j)*256)+x:=by
   rw[show(4294967296:Nat)=2 ^ j*2 ^ (24 - j)*256 by rw[<-Nat.pow_add,show j+(24 - j)=24 by omega]];congr 1;ac_rfl
  rw[h2,Nat.mul_add_div (Nat.two_pow_pos j),ybt (pw 0 l*2 ^ (24 - j)) 256,Nat.mul_add_mod];exact UInt8.toNat_inj.1 (by simp)
 match v,hv with
 |[a,b,c,d,e,f,g,h],_=>
  rw[hgo];simp only[ZCX,yad,ycf]
  rw[hb [] [b,c,d,e,f,g,h] a 24 248 rfl (by omega) rfl,hb [] [b,c,d,e,f,g,h] a 16 240 rfl (by omega) rfl,hb [] [b,c,d,e,f,g,h] a 8 232 rfl (by omega) rfl,hb [] [b,c,d,e,f,g,h] a 0 224 rfl (by omega) rfl,
   hb [a] [c,d,e,f,g,h] b 24 216 rfl (by omega) rfl,hb [a] [c,d,e,f,g,h] b 16 208 rfl (by omega) rfl,hb [a] [c,d,e,f,g,h] b 8 200 rfl (by omega) rfl,hb [a] [c,d,e,f,g,h] b 0 192 rfl (by omega) rfl,
   hb [a,b] [d,e,f,g,h] c 24 184 rfl (by omega) rfl,hb [a,b] [d,e,f,g,h] c 16 176 rfl (by omega) rfl,hb [a,b] [d,e,f,g,h] c 8 168 rfl (by omega) rfl,hb [a,b] [d,e,f,g,h] c 0 160 rfl (by omega) rfl,
   hb [a,b,c] [e,f,g,h] d 24 152 rfl (by omega) rfl,hb [a,b,c] [e,f,g,h] d 16 144 rfl (by omega) rfl,hb [a,b,c] [e,f,g,h] d 8 136 rfl (by omega) rfl,hb [a,b,c] [e,f,g,h] d 0 128 rfl (by omega) rfl,
   hb [a,b,c,d] [f,g,h] e 24 120 rfl (by omega) rfl,hb [a,b,c,d] [f,g,h] e 16 112 rfl (by omega) rfl,hb [a,b,c,d] [f,g,h] e 8 104 rfl (by omega) rfl,hb [a,b,c,d] [f,g,h] e 0 96 rfl (by omega) rfl,
   hb [a,b,c,d,e] [g,h] f 24 88 rfl (by omega) rfl,hb [a,b,c,d,e] [g,h] f 16 80 rfl (by omega) rfl,hb [a,b,c,d,e] [g,h] f 8 72 rfl (by omega) rfl,hb [a,b,c,d,e] [g,h] f 0 64 rfl (by omega) rfl,
   hb [a,b,c,d,e,f] [h] g 24 56 rfl (by omega) rfl,hb [a,b,c,d,e,f] [h] g 16 48 rfl (by omega) rfl,hb [a,b,c,d,e,f] [h] g 8 40 rfl (by omega) rfl,hb [a,b,c,d,e,f] [h] g 0 32 rfl (by omega) rfl,
   hb [a,b,c,d,e,f,g] [] h 24 24 rfl (by omega) rfl,hb [a,b,c,d,e,f,g] [] h 16 16 rfl (by omega) rfl,hb [a,b,c,d,e,f,g] [] h 8 8 rfl (by omega) rfl,hb [a,b,c,d,e,f,g] [] h 0 0 rfl (by omega) rfl]
  rfl
def ZeB(l:yL yB):yL Nat:=l.map yak++(128::(yv (zs l.length) 0++be8 (8*l.length)))
def ZbR:yL Nat:=[1779033703,3144134277,1013904242,2773480762,1359893119,2600822924,528734635,1541459225]
theorem ZtU(l:yL yB):(ZeB l).length=64*((l.length+72) / 64):=by
 unfold ZeB;simp only[yo,yy,yah,ycj,be8,List.length_nil,zs];omega
theorem ZFI(l:yL yB):∀x,x∈ZeB l->x < 256:=by
 intro x hx;unfold ZeB at hx;simp only[List.mem_append,List.mem_map,ybc,List.mem_replicate,be8,ycs,or_false] at hx;rcases hx with⟨y,_,rfl⟩|rfl|⟨_,rfl⟩|h
 ·exact y.toNat_lt
 ·omega
 ·omega
 ·rcases h with h|h|h|h|h|h|h|h <;> rw[h] <;> exact ybh _ (by omega)
theorem ZC1(l:yL yB):sha l=(List.range 32).map (ZH9 (ZeA ((l.length+72) / 64) (ZeB l) ZbR)):=by
 unfold sha
 rw[Xv,Xv,show H0=pw 0 ZbR from rfl,show l.map yak++(128::(yv (zs l.length) 0++be8 (8*l.length)))=ZeB l from rfl,
  show Nat.div (yu l.length 72) 64=(l.length+72) / 64 from rfl]
 have hf:∀x,x∈ZbR->x < 4294967296:=by decide
 rw[ZEs _ _ _ (ZtU l) (ZFI l) rfl hf];exact ZKp (ZAM _ _ _ rfl) (ZEt _ _ _ hf)
theorem ZN2(l:yL yB):(sha l).length=32:=by rw[ZC1];simp
end Go.Sha
end
section
set_option maxRecDepth 4000
namespace Go.Proofs.YtpgpjjjoglafdaaGreat
open Go Go.Ev Go.Sha
theorem Zga(x:yV)(n k:Nat)(h:n+k=32)(hn:0 < n){z:Int}(hz:((w64 z)&&&31).toNat=k):∃o,ZI yD x z=some o/\o.toNat=lo (yag (dbl x.toNat) n):=by
 refine⟨_,rfl, ?_⟩;have e1:((((w64 z)&&&31).toNat:Int)).toNat=k:=by rw[hz];rfl
 have e2:(32 - ((w64 z)&&&31)).toNat=n:=by
  have h1:((w64 z)&&&31)=yae k:=UInt64.toNat_inj.1 (by rw[hz,ybb];omega);rw[h1,UInt64.toNat_sub,ybb];show(2 ^ 64 - k % 2 ^ 64+32) % 2 ^ 64=n;omega
 rw[e1,show((((32 - ((w64 z)&&&31)).toNat:Nat):Int)).toNat=n by rw[e2];rfl,Nat.min_eq_left (by omega),Nat.min_eq_left (by omega)];exact ZK6 x h hn
theorem ZMv{l:yL yB}{a b c d:yB}(ha:l[0]? =some a)(hb:l[1]? =some b)(hc:l[2]? =some c)(hd:l[3]? =some d):∃o,ZdI yD l=some o/\o.toNat=((a.toNat*256+b.toNat)*256+c.toNat)*256+d.toNat:=by
 unfold ZdI;rw[Zof (i:=0) (by omega) ha,Zof (i:=1) (by omega) hb,Zof (i:=2) (by omega) hc,Zof (i:=3) (by omega) hd];refine⟨_,rfl, ?_⟩;have h1:=a.toNat_lt;have h2:=b.toNat_lt;have h3:=c.toNat_lt;have h4:=d.toNat_lt
 have hs:∀(x:yB)(n:Nat),n<=24->(Zaf (ybp x.toNat) n).toNat=x.toNat*2 ^ n:=by
  intro x n hn;have hx:=x.toNat_lt;unfold Zaf;rw[ycq,ycq,yao (a:=x.toNat) (by omega)];refine yao ?_
  calc x.toNat*2 ^ n < 2 ^ 8*2 ^ n:=Nat.mul_lt_mul_of_pos_right hx (Nat.two_pow_pos n)
   _=2 ^ (8+n):=(Nat.pow_add ..).symm
   _<=2 ^ 32:=Nat.pow_le_pow_right (by omega) (by omega)
 rw[Zyz,Zyz,Zyz,hs _ _ (by omega),hs _ _ (by omega),hs _ _ (by omega),ycq,yao (a:=d.toNat) (by omega)]
 have k1:Nat.lor (a.toNat*2 ^ 24) (b.toNat*2 ^ 16)=2 ^ 16*(a.toNat*256+b.toNat):=by
  rw[ybt a.toNat,show Nat.lor (2 ^ 24*a.toNat) (b.toNat*2 ^ 16)=2 ^ 24*a.toNat|||b.toNat*2 ^ 16 from rfl, <-yda (by omega)]
  omega
 have k2:Nat.lor (2 ^ 16*(a.toNat*256+b.toNat)) (c.toNat*2 ^ 8)=2 ^ 8*((a.toNat*256+b.toNat)*256+c.toNat):=by
  rw[show Nat.lor (2 ^ 16*(a.toNat*256+b.toNat)) (c.toNat*2 ^ 8)=2 ^ 16*(a.toNat*256+b.toNat)|||c.toNat*2 ^ 8 from rfl, <-yda (by omega)]
  omega
 rw[k1,k2,show Nat.lor (2 ^ 8*((a.toNat*256+b.toNat)*256+c.toNat)) d.toNat=2 ^ 8*((a.toNat*256+b.toNat)*256+c.toNat)|||d.toNat from rfl, <-yda (by omega)]
 omega
theorem ZIa{l:yL yB}(h:l.length=64):∃o,ZaO yD l=some o/\o.length=64/\∀(i:Nat)x,i < 64->o[i]? =some x->x.toNat=wd (Z2 (l.map yak)) i:=by
 unfold ZaO;generalize hz:([0,0,0,0,0,0,0,0,0,0,0,0,0,0,0,0,0,0,0,0,0,0,0,0,0,0,0,0,0,0,0,0,0,0,0,0,0,0,0,0,0,0,0,0,0,0,0,0,0,0,0,0,0,0,0,0,0,0,0,0,0,0,0,0]:yL yV)=z;have hzl:z.length=64:=by rw[<-hz];rfl
 refine Exists.elim (WW (step:=VT yD) (λs=>s.1=l/\0<=s.2.1/\s.2.1<=64/\s.2.2.length=64/\∀(j:Nat)x,(j:Int) < s.2.1->s.2.2[j]? =some x->x.toNat=wd (Z2 (l.map yak)) j) (λs=>(64 - s.2.1).toNat)
  (λo=>o.length=64/\∀(j:Nat)x,j < 64->o[j]? =some x->x.toNat=wd (Z2 (l.map yak)) j) ?_ (l,(0:Int),z) ⟨rfl,Int.le_refl _,by dsimp only;omega,hzl,λj x hj=>by dsimp only at hj;omega⟩ (by dsimp only;omega)) ?_
 rotate_left
 ·rintro o ⟨h1,h2⟩;exact⟨o,by rw[h1];rfl,h2⟩
 ·rintro⟨b,i,w⟩ ⟨hb,h0,h64,hw,hv⟩;dsimp only at hb h0 h64 hw hv;subst hb;unfold VT;dsimp only
  have hset:∀(y:yV),y.toNat=wd (Z2 (b.map yak)) i.toNat->i < 64->∀(j:Nat)x,(j:Int) < i+1->(w.set i.toNat y)[j]? =some x->x.toNat=wd (Z2 (b.map yak)) j:=by
   intro y hy hi j x hj hx;by_cases hji:j=i.toNat
   ·subst hji;rw[ycw (by omega)] at hx;cases hx;exact hy
   ·rw[ydb (Ne.symm hji)] at hx;exact hv j x (by omega) hx
  by_cases hi:i < 64
  ·left;rw[yW (yY hi)];obtain⟨e,he⟩:=ZbJ (l:=w) (i:=i.toNat) (by omega);by_cases h16:i < 16
   ·rw[yW (yY h16),ZO (z:=4*i) (by omega) (by omega),yW (by simp only[Zeh,yj,yP];omega)];have g:∀k:Nat,k < 4->∃x,b[4*i.toNat+k]? =some x:=λk hk=>ZbJ (by omega);obtain⟨x0,g0⟩:=g 0 (by omega);obtain⟨x1,g1⟩:=g 1 (by omega);obtain⟨x2,g2⟩:=g 2 (by omega);obtain⟨x3,g3⟩:=g 3 (by omega);have e4:(4*i).toNat=4*i.toNat:=by omega
    obtain⟨o,ho,hoe⟩:=ZMv (l:=b.drop (4*i).toNat) (by rw[List.getElem?_drop,e4];exact g0) (by rw[List.getElem?_drop,e4];exact g1) (by rw[List.getElem?_drop,e4];exact g2) (by rw[List.getElem?_drop,e4];exact g3);rw[ho,ya,yW (Yc h0 (by omega)),he,ya,ZO (z:=i+1) (by omega) (by omega)];refine⟨_,rfl,⟨rfl,by dsimp only;omega,by dsimp only;omega,by dsimp only;rw[ybo];exact hw,hset o ?_ hi⟩,by dsimp only;omega⟩;have mg:∀(k:Nat)(x:yB),b[k]? =some x->(b.map yak)[k]? =some x.toNat:=λk x hx=>by rw[yai,hx];rfl
    have hwg:=Zj8 i.toNat (b.map yak) _ _ _ _ (mg _ _ g0) (mg _ _ g1) (mg _ _ g2) (mg _ _ g3);rw[hoe];have b0:=x0.toNat_lt;have b1:=x1.toNat_lt;have b2:=x2.toNat_lt;have b3:=x3.toNat_lt;exact(ZAN _ (by omega) hwg (by omega)).symm
   ·rw[yX (by simpa using h16)];rw[ZO (z:=i - 15) (by omega) (by omega),ZO (z:=i - 2) (by omega) (by omega),ZO (z:=i - 16) (by omega) (by omega),ZO (z:=i - 7) (by omega) (by omega),ZO (z:=i+1) (by omega) (by omega)];obtain⟨e1,he1⟩:=ZbJ (l:=w) (i:=(i - 15).toNat) (by omega);obtain⟨e2,he2⟩:=ZbJ (l:=w) (i:=(i - 2).toNat) (by omega);obtain⟨e3,he3⟩:=ZbJ (l:=w) (i:=(i - 16).toNat) (by omega);obtain⟨e4,he4⟩:=ZbJ (l:=w) (i:=(i - 7).toNat) (by omega);have v1:=hv _ _ (by omega) he1;have v2:=hv _ _ (by omega) he2;have v3:=hv _ _ (by omega) he3;have v4:=hv _ _ (by omega) he4;rw[yW (Yc (by omega) (by omega)),he1,ya,yW (Yc (by omega) (by omega)),he2,ya];obtain⟨o1,ho1,p1⟩:=Zga e1 7 25 rfl (by omega) (z:= -7) rfl;obtain⟨o2,ho2,p2⟩:=Zga e1 18 14 rfl (by omega) (z:= -18) rfl;obtain⟨o3,ho3,p3⟩:=Zga e2 17 15 rfl (by omega) (z:= -17) rfl;obtain⟨o4,ho4,p4⟩:=Zga e2 19 13 rfl (by omega) (z:= -19) rfl;rw[ho1,ya,ho2,ya,ho3,ya,ho4,ya];rw[yW (Yc (by omega) (by omega)),he3,ya,yW (Yc (by omega) (by omega)),he4,ya]
    try dsimp only
    rw[yW (Yc h0 (by omega)),he,ya];refine⟨_,rfl,⟨rfl,by dsimp only;omega,by dsimp only;omega,by dsimp only;rw[ybo];exact hw,hset _ ?_ hi⟩,by dsimp only;omega⟩;have hn:=ZyA (Z2 (b.map yak)) (i - 16).toNat
    rw[show(i - 16).toNat+16=i.toNat by omega,show(i - 16).toNat+1=(i - 15).toNat by omega,show(i - 16).toNat+9=(i - 7).toNat by omega,show(i - 16).toNat+14=(i - 2).toNat by omega, <-v1, <-v2, <-v3, <-v4] at hn;rw[hn];rw[Qw,Qw,Qw,ZNu e1 p1 p2,ZNv e2 p3 p4];exact ZNA ..
  ·right;rw[yX (by simpa using hi)];exact⟨_,rfl,hw,λj x hj hx=>hv j x (by omega) hx⟩
theorem ZIb{st:yL yV}{l:yL yB}(hs:st.length=8)(h:l.length=64):∃o,VE yD st l=some o/\o.map yal=ZhX (st.map yal) (Z2 (l.map yak)):=by
 unfold VE;obtain⟨w,hw,hwl,hwv⟩:=ZIa h;obtain⟨k,hk,hkv⟩:∃k,Zj4 yD=some k/\k.map yal=ks:=⟨_,rfl,rfl⟩;have hkl:k.length=64:=by rw[<-yy (f:=yal),hkv];rfl
 generalize hws:Z2 (l.map yak)=ws at hwv;rw[hw,ya,hk,ya]
 refine Exists.elim (WW (step:=Vl yD) (λs=>0<=s.1/\s.1<=64/\s.2.1=st/\s.2.2.2.1=w/\s.2.2.2.2.1=k/\s.2.2.2.2.2.length=8/\s.2.2.2.2.2.map yal=rs ws (st.map yal) s.1.toNat) (λs=>(64 - s.1).toNat)
  (λo=>o.1=st/\o.2.2.2.2.length=8/\o.2.2.2.2.map yal=rs ws (st.map yal) 64) ?_ ((0:Int),st,([0,0,0,0,0,0,0,0]:yL yV),w,k,st) ⟨Int.le_refl _,by dsimp only;omega,rfl,rfl,rfl,hs,rfl⟩ (by dsimp only;omega)) ?_
 rotate_left
 ·rintro o ⟨h1,p0,p1,p2⟩;rw[h1,ya];have hml:(ZhX (st.map yal) ws).length=8:=Zez (by rw[yy];exact hs)
  refine Exists.elim (WW (step:=Vm yD) (λs=>0<=s.1/\s.1<=8/\s.2.1=st/\s.2.2.2.2.2.length=8/\(∀(j:Nat)x,s.2.2.2.2.2[j]? =some x->if(j:Int) < s.1 then(ZhX (st.map yal) ws)[j]? =some x.toNat else(rs ws (st.map yal) 64)[j]? =some x.toNat)) (λs=>(8 - s.1).toNat)
   (λo=>o.2.2.2.2.map yal=ZhX (st.map yal) ws) ?_ ((0:Int),o.1,o.2.1,o.2.2.1,o.2.2.2.1,o.2.2.2.2) ⟨Int.le_refl _,by dsimp only;omega,p0,p1,λj x hx=>by
     dsimp only at hx ⊢;rw[yX (by omega), <-p2,yai,hx];rfl⟩ (by dsimp only;omega)) ?_
  rotate_left
  ·rintro q ⟨h2,q2⟩;rw[h2,ya];exact⟨_,rfl,q2⟩
  ·rintro⟨i,a,b,c,d,e⟩ ⟨h0,h8,ha,he,hv⟩;dsimp only at h0 h8 ha he hv;subst ha;unfold Vm;dsimp only;by_cases hi:i < 8
   ·left;obtain⟨e1,he1⟩:=ZbJ (l:=e) (i:=i.toNat) (by omega);obtain⟨e2,he2⟩:=ZbJ (l:=a) (i:=i.toNat) (by omega);simp only[yY hi,if_true,Yc h0 (show i < ((8:Nat):Int) by omega),he1,he2,ya];rw[ZO (z:=i+1) (by omega) (by omega)];refine⟨_,rfl,⟨by dsimp only;omega,by dsimp only;omega,rfl,by dsimp only;rw[ybo];exact he, ?_⟩,by dsimp only;omega⟩;intro j x hx;dsimp only at hx ⊢;by_cases hji:j=i.toNat
    ·subst hji;rw[ycw (by omega)] at hx;cases hx;rw[yW (by omega),Qw];have k1:=hv _ _ he1;rw[yX (by omega)] at k1;unfold ZhX;rw[List.getElem?_zipWith,k1,yai,he2];rfl
    ·rw[ydb (Ne.symm hji)] at hx;have k1:=hv j x hx;by_cases hj:(j:Int) < i
     ·rw[yW hj] at k1;rw[yW (by omega)];exact k1
     ·rw[yX hj] at k1;rw[yX (by omega)];exact k1
   ·right;rw[yX (by simpa using hi)];refine⟨_,rfl, ?_⟩;dsimp only;apply List.ext_getElem?;intro j;rw[yai];by_cases hj:j < 8
    ·obtain⟨x,hx⟩:=ZbJ (l:=e) (i:=j) (by omega);have:=hv j x hx;rw[yW (by omega)] at this;rw[hx,this];rfl
    ·rw[yan (by omega),yan (by omega)];rfl
 ·rintro⟨i,a,b,c,d,e⟩ ⟨h0,h64,ha,hc,hd,he,hv⟩;dsimp only at h0 h64 ha hc hd he hv;subst ha hc hd;unfold Vl;dsimp only;by_cases hi:i < 64
  ·left
   match e,he,hv with
   |[x0,x1,x2,x3,x4,x5,x6,x7],_,hv=>
    obtain⟨e1,he1⟩:=ZbJ (l:=d) (i:=i.toNat) (by omega);obtain⟨e2,he2⟩:=ZbJ (l:=c) (i:=i.toNat) (by omega);obtain⟨o1,ho1,p1⟩:=Zga x4 6 26 rfl (by omega) (z:= -6) rfl;obtain⟨o2,ho2,p2⟩:=Zga x4 11 21 rfl (by omega) (z:= -11) rfl;obtain⟨o3,ho3,p3⟩:=Zga x4 25 7 rfl (by omega) (z:= -25) rfl;obtain⟨o4,ho4,p4⟩:=Zga x0 2 30 rfl (by omega) (z:= -2) rfl;obtain⟨o5,ho5,p5⟩:=Zga x0 13 19 rfl (by omega) (z:= -13) rfl;obtain⟨o6,ho6,p6⟩:=Zga x0 22 10 rfl (by omega) (z:= -22) rfl;generalize ZI yD=R at ho1 ho2 ho3 ho4 ho5 ho6 ⊢;rw[yW (yY hi)];simp only[List.getElem?_cons_zero,yaw];rw[ya,ho1,ya,ya,ho2,ya,ya,ho3,ya,ya,ya,ya,ya,ya];rw[yW (Yc h0 (show i < ((64:Nat):Int) by omega)),he1,ya,yW (Yc h0 (show i < ((64:Nat):Int) by omega)),he2,ya,ya,ho4,ya,ya,ho5,ya,ya,ho6];rw[ya,ya,ya,ya,ya,ya];rw[ya,ya,ya,ya,ya,ya,ya];rw[ZO (z:=i+1) (by omega) (by omega)];refine⟨_,rfl,⟨by dsimp only;omega,by dsimp only;omega,rfl,rfl,rfl,rfl, ?_⟩,by dsimp only;omega⟩;dsimp only;rw[show(i+1).toNat=i.toNat+1 by omega,show rs ws (a.map yal) (i.toNat+1)=rnd (rs ws (a.map yal) i.toNat) (ks.getD i.toNat 0) (wd ws i.toNat) from rfl, <-hv]
    have hk1:ks.getD i.toNat 0=e1.toNat:=by
     rw[<-hkv,ycx,yai,he1];rfl
    rw[hk1, <-hwv i.toNat e2 (by omega) he2];simp only[yad,ycf];rw[ZtR]
    have kt:((x7+((o1^^^o2)^^^o3))+(x6^^^(x4&&&(x5^^^x6)))+e1+e2).toNat=lo (yu (yu (yu (yu x7.toNat (S1 x4.toNat)) (ch x4.toNat x5.toNat x6.toNat)) e1.toNat) e2.toNat):=by
     rw[Qw,Qw,Qw,Qw,ZNx x4 p1 p2 p3,ZNy];exact ZNB ..
    have ka:((x7+((o1^^^o2)^^^o3))+(x6^^^(x4&&&(x5^^^x6)))+e1+e2+((o4^^^o5)^^^o6)+((x0&&&x1)|||(x2&&&(x0|||x1)))).toNat=lo (yu (yu (yu (yu (yu (yu x7.toNat (S1 x4.toNat)) (ch x4.toNat x5.toNat x6.toNat)) e1.toNat) e2.toNat) (S0 x0.toNat)) (mj x0.toNat x1.toNat x2.toNat)):=by
     rw[Qw,Qw,kt,ZNw x0 p4 p5 p6,ZNz];exact ZNC ..
    have ke:(x3+(((x7+((o1^^^o2)^^^o3))+(x6^^^(x4&&&(x5^^^x6))))+e1+e2)).toNat=lo (yu x3.toNat (yu (yu (yu (yu x7.toNat (S1 x4.toNat)) (ch x4.toNat x5.toNat x6.toNat)) e1.toNat) e2.toNat)):=by
     rw[Qw,kt];exact ZND ..
    rw[ka,ke]
  ·right;rw[yX (by simpa using hi)];have e64:i=64:=by omega
   subst e64;exact⟨_,rfl,rfl,he,hv⟩
def Wc(n:Nat):yL yB:=(be8 n).map yay
theorem ZyC{n:Nat}{b:yL yB}(h:b.length<=1000000000000):WF yD (n:Int) b=some (b++Wc n):=by
 unfold WF
 obtain⟨o,h1,h2⟩:=WW (step:=Qp yD) (λs=>∃k:Nat,k<=8/\s.1=(n:Int)/\s.2.1=56 - 8*(k:Int)/\s.2.2.1=b++(Wc n).take k) (λs=>(s.2.1+8).toNat) (λo=>o.1=b++Wc n) (by
  rintro⟨a,i,c,d⟩ ⟨k,hk,ha,hi,hc⟩;dsimp only at ha hi hc;subst ha;unfold Qp;dsimp only;have hcl:c.length<=b.length+8:=by rw[hc,yo,yaf];omega
  by_cases h0:i >= 0
  ·left;rw[yW (yY h0),yW (yY h0),yW (ZU (by omega) (by omega)),ZO (z:=i - 8) (by omega) (by omega)];refine⟨_,rfl,⟨k+1,by omega,rfl,by dsimp only;omega, ?_⟩,by dsimp only;omega⟩;dsimp only
   have hw:∀m:Nat,w8 (Int.fdiv (n:Int) (2 ^ m))=yay (n / 2 ^ m % 256):=by
    intro m;unfold w8;rw[Int.fdiv_eq_ediv_of_nonneg _ (by exact Int.le_of_lt (Int.pow_pos (by omega)))];congr 1
   have hmin:min i.toNat 64=56 - 8*k:=by omega
   rw[hmin,hw,hc,yab];congr 1;have hk8:k < 8:=by omega
   match k,hk8 with
   |0,_=>rfl
   |1,_=>rfl
   |2,_=>rfl
   |3,_=>rfl
   |4,_=>rfl
   |5,_=>rfl
   |6,_=>rfl
   |7,_=>
    show _++[yay (n / 2 ^ 0 % 256)]=_;rw[Nat.pow_zero,Nat.div_one];rfl
  ·right;rw[yX (by simpa using h0)];have hk8:k=8:=by omega
   subst hk8;exact⟨_,rfl,hc⟩) (((n:Int),(56:Int),b,([]:yL yB))) ⟨0,by omega,rfl,by simp,by simp⟩ (by dsimp only;omega)
 rw[h1,ya,h2]
theorem ZMw{l:yL yB}(h:l.length<=4294967296):Zey yD l=some (sha l):=by
 unfold Zey
 have hm:Int.tmod (l.length:Int) 64=((l.length % 64:Nat):Int):=by
  rw[Int.tmod_eq_emod_of_nonneg (by omega)];omega
 have hlt:l.length % 64 < 64:=ybh _ (by omega);have hle:l.length % 64<=l.length:=Nat.mod_le _ _;rw[hm,ZO (z:=(l.length:Int) - ((l.length % 64:Nat):Int)) (by omega) (by omega)];dsimp only;rw[yW (by simp only[Zeh,yj,yP];omega)];have hq:((l.length:Int) - ((l.length % 64:Nat):Int)).toNat=64*(l.length / 64):=by omega
 rw[hq]
 have hdl:(l.drop (64*(l.length / 64))).length=l.length % 64:=by
  rw[ybx];omega
 generalize ht:l.drop (64*(l.length / 64))=t at hdl
 have hcl:Z1 yD t=some t:=by
  unfold Z1;rw[yW (ZU (by omega) (by omega))]
 rw[hcl,ya,yW (ZU (by omega) (by omega))];generalize hz:yzz=z;have hzl:z.length=32:=by rw[<-hz];rfl
 have hzs:zs l.length=(119 - t.length) % 64:=by unfold zs;rw[hdl]
 obtain⟨o,h1,p1,p2,p3⟩:=WW (step:=Zb2 yD) (λs=>s.1=l/\s.2.1=z/\∃j,j<=zs l.length/\s.2.2=t++([128]:yL yB)++yv j 0) (λs=>184 - s.2.2.length)
  (λo=>o.1=l/\o.2.1=z/\o.2.2=t++([128]:yL yB)++yv (zs l.length) 0) (by
  rintro⟨a,b,c⟩ ⟨k1,k2,j,k3,k4⟩;dsimp only at k1 k2 k3 k4;have hcl:c.length=t.length+1+j:=by rw[k4,yo,yo,ycj];rfl
  unfold Zb2;dsimp only
  have hm:Int.tmod (c.length:Int) 64=((c.length % 64:Nat):Int):=by
   rw[Int.tmod_eq_emod_of_nonneg (by omega)];omega
  rw[hm];by_cases hi:c.length % 64=56
  ·right;rw[yX (by simp;omega)];have:j=zs l.length:=by omega
   subst this;exact⟨_,rfl,k1,k2,k4⟩
  ·left;rw[yW (by simp;omega),yW (ZU (by omega) (by omega))];have hj:j≠zs l.length:=λe=>hi (by omega);refine⟨_,rfl,⟨k1,k2,j+1,by omega, ?_⟩, ?_⟩
   ·dsimp only;rw[k4,yab,List.replicate_succ',yab]
   ·dsimp only;rw[yo,List.length_singleton];omega) (l,z,t++([128]:yL yB)) ⟨rfl,rfl,0,Nat.zero_le _,by simp⟩ (by dsimp only;omega)
 rw[h1,ya,p1,p2,p3,ZO (z:=8*(l.length:Int)) (by omega) (by omega),show 8*(l.length:Int)=((8*l.length:Nat):Int) by omega,ZyC (by
  rw[yo,yo,ycj];simp;omega),ya]
 obtain⟨f,hf,hfl⟩:∃f,Zj2 yD=some f/\f.map yal=ZbR:=⟨_,rfl,rfl⟩;have hf8:f.length=8:=by rw[<-yy (f:=yal),hfl];rfl
 rw[hf,ya];generalize hE:t++([128]:yL yB)++yv (zs l.length) 0++Wc (8*l.length)=E
 have hEl:E.length=64*((t.length+72) / 64):=by
  rw[<-hE];simp only[yo,ycj,List.length_singleton,Wc,yy,be8,yah,List.length_nil];omega
 obtain⟨o3,h3,r1,r2,r3,r4⟩:=WW (step:=Zb3 yD) (λs=>s.2.1=z/\s.2.2.1=E/\s.2.2.2.length=8/\∃c,c<=l.length / 64/\s.1=l.drop (64*c)/\s.2.2.2.map yal=ZeA c (l.map yak) ZbR) (λs=>s.1.length)
  (λx=>x.1=z/\x.2.1=E/\x.2.2.length=8/\x.2.2.map yal=ZeA (l.length / 64) (l.map yak) ZbR) (by
  rintro⟨a,b,c,d⟩ ⟨k1,k2,k3,j,k4,k5,k6⟩;dsimp only at k1 k2 k3 k4 k5 k6;have hal:a.length=l.length - 64*j:=by rw[k5,ybx]
  unfold Zb3;dsimp only;by_cases hi:(a.length:Int) >= 64
  ·left;obtain⟨m,hm1,hm2⟩:=ZIb (st:=d) (l:=a.take 64) k3 (by rw[yaf];omega);rw[yW (yY hi),yW (by simp only[Zeh,yj,yP];omega),hm1,ya,yW (by simp only[Zeh,yj,yP];omega)];refine⟨_,rfl,⟨k1,k2, ?_,j+1,by omega, ?_, ?_⟩,by dsimp only;rw[ybx];omega⟩
   ·dsimp only;rw[<-yy (f:=yal),hm2];exact Zez (by rw[yy];exact k3)
   ·dsimp only;rw[k5,List.drop_drop];congr 1
   ·dsimp only;rw[hm2,Zlp,k6,k5,List.map_take,List.map_drop]
  ·right;rw[yX (by simpa using hi)];have:j=l.length / 64:=by omega
   subst this;exact⟨_,rfl,k1,k2,k3,k6⟩) (l,z,E,f) ⟨rfl,rfl,hf8,0,Nat.zero_le _,by simp,hfl⟩ (by dsimp only;omega)
 rw[h3,ya,r1,r2];generalize hv1:ZeA (l.length / 64) (l.map yak) ZbR=v1 at r4
 obtain⟨o4,h4,s1,s2,s3⟩:=WW (step:=Zb4 yD) (λs=>s.2.1=z/\s.2.2.2.length=8/\∃c,c<=E.length / 64/\s.1=E.drop (64*c)/\s.2.2.2.map yal=ZeA c (E.map yak) v1) (λs=>s.1.length)
  (λx=>x.1=z/\x.2.2.length=8/\x.2.2.map yal=ZeA (E.length / 64) (E.map yak) v1) (by
  rintro⟨a,b,c,d⟩ ⟨k1,k3,j,k4,k5,k6⟩;dsimp only at k1 k3 k4 k5 k6;have hal:a.length=E.length - 64*j:=by rw[k5,ybx]
  unfold Zb4;dsimp only;by_cases hi:(a.length:Int) > 0
  ·left;obtain⟨m,hm1,hm2⟩:=ZIb (st:=d) (l:=a.take 64) k3 (by rw[yaf];omega);rw[yW (yY hi),yW (by simp only[Zeh,yj,yP];omega),hm1,ya,yW (by simp only[Zeh,yj,yP];omega)];refine⟨_,rfl,⟨k1, ?_,j+1,by omega, ?_, ?_⟩,by dsimp only;rw[ybx];omega⟩
   ·dsimp only;rw[<-yy (f:=yal),hm2];exact Zez (by rw[yy];exact k3)
   ·dsimp only;rw[k5,List.drop_drop];congr 1
   ·dsimp only;rw[hm2,Zlp,k6,k5,List.map_take,List.map_drop]
  ·right;rw[yX (by simpa using hi)];have:j=E.length / 64:=by omega
   subst this;exact⟨_,rfl,k1,k3,k6⟩) (E,z,E,o3.2.2) ⟨rfl,r3,0,Nat.zero_le _,by simp,r4⟩ (by dsimp only;omega)
 rw[h4,ya];generalize hv2:ZeA (E.length / 64) (E.map yak) v1=v2 at s3
 obtain⟨o5,h5,t1,t2⟩:=WW (step:=Zb5 yD) (λs=>0<=s.1/\s.1<=32/\s.2.1.length=32/\s.2.2.2=o4.2.2/\∀(j:Nat),(j:Int) < s.1->s.2.1[j]? =some (Go.Sha.ZH9 v2 j)) (λs=>(32 - s.1).toNat)
  (λx=>x.1.length=32/\∀(j:Nat),j < 32->x.1[j]? =some (Go.Sha.ZH9 v2 j)) (by
  rintro⟨i,a,b,c⟩ ⟨h0,h32,ha,hc,hv⟩;dsimp only at h0 h32 ha hc hv;subst hc;unfold Zb5;dsimp only;by_cases hi:i < 32
  ·left;rw[yW (yY hi)];have e1:Int.tdiv i 4=i / 4:=Int.tdiv_eq_ediv_of_nonneg h0;have e2:Int.tmod i 4=i % 4:=Int.tmod_eq_emod_of_nonneg h0;rw[e1,e2,ZO (z:=i / 4) (by omega) (by omega),ZO (z:=8*(i % 4)) (by omega) (by omega),ZO (z:=24 - 8*(i % 4)) (by omega) (by omega),ZO (z:=i+1) (by omega) (by omega)];obtain⟨x1,hx1⟩:=ZbJ (l:=o4.2.2) (i:=(i / 4).toNat) (by omega);obtain⟨x2,hx2⟩:=ZbJ (l:=a) (i:=i.toNat) (by omega);rw[yW (Yc (by omega) (by omega)),hx1,ya,yW (yY (by omega))]
   try dsimp only
   rw[yW (Yc (by omega) (by omega)),hx2,ya];refine⟨_,rfl,⟨by dsimp only;omega,by dsimp only;omega,by dsimp only;rw[ybo];exact ha,rfl, ?_⟩,by dsimp only;omega⟩;intro j hj;dsimp only at hj ⊢;by_cases hji:j=i.toNat
   ·subst hji;rw[ycw (by omega)];congr 1;unfold Go.Sha.ZH9
    have hx:v2.getD (i.toNat / 4) 0=x1.toNat:=by
     rw[<-s3,ycx,yai,show i.toNat / 4=(i / 4).toNat by omega,hx1];rfl
    rw[hx,show min (24 - 8*(i % 4)).toNat 32=24 - 8*(i.toNat % 4) by omega,ZwH];unfold w8;have e3:∀m:Nat,(((m:Nat):Int) % 256).toNat=m % 256:=λm=>by omega
    rw[e3,show yag x1.toNat (24 - 8*(i.toNat % 4))=x1.toNat >>> (24 - 8*(i.toNat % 4)) from rfl,ydc]
    exact UInt8.toNat_inj.1 (by simp)
   ·rw[ydb (Ne.symm hji)];exact hv j (by omega)
  ·right;rw[yX (by simpa using hi)];exact⟨_,rfl,ha,λj hj=>hv j (by omega)⟩) ((0:Int),o4.1,o4.2.1,o4.2.2) ⟨Int.le_refl _,by dsimp only;omega,by dsimp only;rw[s1];exact hzl,rfl,λj hj=>by dsimp only at hj;omega⟩ (by dsimp only;omega)
 rw[h5,ya,ZC1];congr 1
 have hpad:ZeB l=(l.take (64*(l.length / 64))).map yak++E.map yak:=by
  unfold ZeB;rw[<-hE, <-ht];simp only[yam,List.map_replicate,yad,ycf,Wc,List.map_map];rw[<-yab, <-yab, <-yab, <-yam,ybk]
  have:be8 (8*l.length)=(be8 (8*l.length)).map (yak ∘ yay):=by
   simp[be8]
  rw[<-this];simp
 have hw:((l.take (64*(l.length / 64))).map yak).length=64*(l.length / 64):=by
  rw[yy,yaf];omega
 have hv:v2=ZeA ((l.length+72) / 64) (ZeB l) ZbR:=by
  rw[hpad,show(l.length+72) / 64=l.length / 64+E.length / 64 by omega,ZtT _ _ _ _ _ hw, <-hv2, <-hv1];congr 1;have:=ZtT (l.length / 64) 0 _ ((l.drop (64*(l.length / 64))).map yak) ZbR hw;rw[<-yam,ybk,yce] at this;exact this
 rw[<-hv];apply List.ext_getElem?;intro j;by_cases hj:j < 32
 ·rw[t2 j hj,yai,List.getElem?_range hj];rfl
 ·rw[yan (by omega),yan (by simp;omega)]
noncomputable def ZgY(F:Nat)(a0:yL yB):yO (yL yB):=if decide (a0.length<=4294967296)=true then some (sha a0) else Zey F a0
noncomputable def ZAO(F:Nat):Fs yb:={ ZhW F with M:=λx=>ZgY F x}
noncomputable def ZtV:Fs yb:=ZAO yD
theorem ZAP:ZtV.Ok:=Zm6 (s:=ZhW yD) Zyy λx=>by
 show ZgY yD x=Zey yD x;unfold ZgY;split
 ·rename_i h;exact(ZMw (yF h)).symm
 ·rfl
theorem ZKq{l:yL yB}(h:l.length<=4294967296):ZgY yD l=some (sha l):=yW (yY h)
end Go.Proofs.YtpgpjjjoglafdaaGreat
end
section
set_option maxRecDepth 4000
namespace Go.Proofs.YtpgpjjjoglafdaaGreat
open Go Go.Ev
noncomputable section
def ZoE(F:Nat):Fs yb:=⟨114,[.nil .u8,.v yI],[],[yI],(Zc1 F).xs,λx=>(Zc1 F).M (x,([]:yL yB))⟩
def ZgZ:Fs yb:=ZoE yD
theorem ZoF:ZgZ.Ok:=ZL5 (i1:=[yI]) (i2:=[yI,(.sl .u8)]) (λx=>(x,([]:yL yB))) Zc2 (λ_=>rfl) (λ_=>⟨_,rfl⟩)
def Qq(F:Nat)(s:((yL (yL yB))×Int×Int×(yL yB)×(yL yB))):yO (((yL (yL yB))×Int×Int×(yL yB)×(yL yB))⊕((yL yB)×(yL yB))):=
 if(decide (s.2.2.1 < s.2.1))=true then
  (idx s.1 s.2.2.1).bind λe211=>
  (WF F (e211.length:Int) s.2.2.2.2).bind λo212=>
  if(apB o212.length e211.length 1)=true then
   some (.inl (s.1,s.2.1,wi (s.2.2.1+1),s.2.2.2.1,o212++e211))
  else
  none
 else
 some (.inr (s.2.2.2.1,s.2.2.2.2))
def ZqX:Lp:=⟨[(4,.ref 0 []),(5,.own 1 .u8),(13,.v (.sl (.sl .u8))),(14,.v yI),(15,.v yI)],zK,[(.sl (.sl .u8)),yI,yI,(.arr 32 .u8),(.sl .u8)],[⟨.exit 0,[(4,.ref 0 []),(5,.own 1 .u8)],zK,[(.arr 32 .u8),(.sl .u8)]⟩],Zb (Qq yD) yD⟩
def hi4:HI:={ own:=[5,10,12,19,22,24],still:=[9,19,21,26]}
theorem ZtW:ZqX.okA yb 73 0:=Zu hi4 [] [Zex] ⟨Zc2,ytt⟩
def VI(F:Nat)(a0:ByteArray)(a1:(yL (yL yB))):yO ((yL yB)):=
 (WF F (a0.size:Int) []).bind λo210=>
 if(apB o210.length ((ZhK a0).length) 1)=true then
  (Zb (Qq F) F (a1,(a1.length:Int),0,yzz,o210++(ZhK a0))).bind λo213=>
  (ZgY F o213.2).bind λo214=>
  some o214
 else
 none
def ZAQ(F:Nat):Fs yb:=⟨73,[.v .str,.v (.sl (.sl .u8))],[],[.str,(.sl (.sl .u8))],(zN (.arr 32 .u8)),λx=>VI F x.1 x.2⟩
def V6:Fs yb:=ZAQ yD
theorem V7:V6.Ok:=fnO hi4 [(0,ZqX)] [ZgZ,ZtV] ⟨ZoF,ZAP,ytt⟩ ⟨ZtW,ytt⟩
def W2(F:Nat)(s:(yU×Int×(yL yB))):yO ((yU×Int×(yL yB))⊕(yL yB)):=
 if(decide (s.2.1 < 8))=true then
  if(decide (0<=wi (56 - (wi (8*s.2.1)))))=true then
   let y215:yU:=Zw s.1 (min (wi (56 - (wi (8*s.2.1)))).toNat 64)
   if(inB s.2.1 8)=true then
    (s.2.2[s.2.1.toNat]?).bind λe216=>
    some (.inl (s.1,wi (s.2.1+1),s.2.2.set s.2.1.toNat (w8 (y215.toNat:Int))))
   else
   none
  else
  none
 else
 some (.inr s.2.2)
def Zl9:Lp:=⟨[(0,.v .u64),(3,.ref 0 []),(5,.v yI)],[.var (.v (.arr 8 .u8)) true],[.u64,yI,(.arr 8 .u8)],[⟨.exit 0,[(3,.ref 0 [])],[.var (.v (.arr 8 .u8)) true],[(.arr 8 .u8)]⟩],Zb (W2 yD) yD⟩
theorem ZpY:Zl9.okA yb 126 0:=Zu { still:=[2]} [] [] trivial
def ZfJ(F:Nat)(a0:yU):yO ((yL yB)):=
 (Zb (W2 F) F (a0,0,[0,0,0,0,0,0,0,0])).bind λo217=>
 some ((o217.drop 0).take 8)
def Zvt(F:Nat):Fs yb:=⟨126,[.v .u64],[],[.u64],(zN (.sl .u8)),λx=>ZfJ F x⟩
def ZoG:Fs yb:=Zvt yD
theorem Zvu:ZoG.Ok:=fnO { still:=[2]} [(0,Zl9)] [] trivial ⟨ZpY,ytt⟩
def Wj(F:Nat)(s:(ByteArray×(yL yU)×Int×Int×(yL (yL yB)))):yO ((ByteArray×(yL yU)×Int×Int×(yL (yL yB)))⊕(ByteArray×(yL (yL yB)))):=
 if(decide (s.2.2.2.1 < s.2.2.1))=true then
  (idx s.2.1 s.2.2.2.1).bind λe218=>
  (ZfJ F e218).bind λo219=>
  if(apB s.2.2.2.2.length 1 24)=true then
   some (.inl (s.1,s.2.1,s.2.2.1,wi (s.2.2.2.1+1),s.2.2.2.2++([o219]:yL (yL yB))))
  else
  none
 else
 some (.inr (s.1,s.2.2.2.2))
def Zj9:Lp:=⟨[(0,.v .str),(5,.own 0 (.sl .u8)),(8,.v (.sl .u64)),(9,.v yI),(10,.v yI)],[.log (.sl .u8) 118],[.str,(.sl .u64),yI,yI,(.sl (.sl .u8))],[⟨.exit 0,[(0,.v .str),(5,.own 0 (.sl .u8))],[.log (.sl .u8) 118],[.str,(.sl (.sl .u8))]⟩],Zb (Wj yD) yD⟩
def hi5:HI:={ own:=[5,14,18],still:=[4,15,20,21,22]}
theorem ZoH:Zj9.okA yb 86 0:=Zu hi5 [] [ZoG] ⟨Zvu,ytt⟩
def Vn(F:Nat)(a0:ByteArray)(a1:(yL yU)):yO (yU):=
 (Zb (Wj F) F (a0,a1,(a1.length:Int),0,[])).bind λo220=>
 (VI F o220.1 o220.2).bind λo221=>
 (Vc F o221).bind λo222=>
 some o222
def ZtX(F:Nat):Fs yb:=⟨86,[.v .str,.v (.sl .u64)],[],[.str,(.sl .u64)],(zN .u64),λx=>Vn F x.1 x.2⟩
def Zb6:Fs yb:=ZtX yD
theorem ZeC:Zb6.Ok:=fnO hi5 [(0,Zj9)] [V6,Qo] ⟨V7,QI,ytt⟩ ⟨ZoH,ytt⟩
def ZEu:ByteArray:=⟨#[114,101,118,111,107,101]⟩
def ZdL(F:Nat)(a0:yU)(a1:yU):yO (yU):=
 (Vn F ZEu [a0,a1]).bind λo223=>
 (Qn F a0 o223).bind λo224=>
 (Vn F ZEu [a1,a0]).bind λo225=>
 (Qn F a1 o225).bind λo226=>
 (ZbN F o224 o226).bind λo227=>
 some o227
def ZtY(F:Nat):Fs yb:=⟨35,[.v .u64,.v .u64],[],[.u64,.u64],(zN .u64),λx=>ZdL F x.1 x.2⟩
def Zma:Fs yb:=ZtY yD
def hi6:HI:={ still:=[4,5,8,9,10,11,14,15,16]}
theorem ZtZ:Zma.Ok:=fnO hi6 [] [Zb6,Zf9,ZfE] ⟨ZeC,Zj1,ZhV,ytt⟩
def Ya(F:Nat)(a0:yU):yO (yU):=
 (Qn F 4 a0).bind λo228=>
 some o228
def Zgb(F:Nat):Fs yb:=⟨20,[.v .u64],[],[.u64],(zN .u64),λx=>Ya F x⟩
def Wr:Fs yb:=Zgb yD
theorem XP:Wr.Ok:=fnO { still:=[2,3]} [] [Zf9] ⟨Zj1,ytt⟩
def ZAR:ByteArray:=⟨#[109,105,120]⟩
def Zd0(F:Nat)(a0:yU)(a1:yU):yO (yU):=
 (Vn F ZAR [a1,a0]).bind λo229=>
 (Ya F o229).bind λo230=>
 (ZbN F a0 o230).bind λo231=>
 some o231
def ZAS(F:Nat):Fs yb:=⟨36,[.v .u64,.v .u64],[],[.u64,.u64],(zN .u64),λx=>Zd0 F x.1 x.2⟩
def Zt0:Fs yb:=ZAS yD
theorem ZAT:Zt0.Ok:=fnO { still:=[4,5,8,9,10]} [] [Zb6,Wr,ZfE] ⟨ZeC,XP,ZhV,ytt⟩
def Vo(F:Nat)(a0:Terms)(a1:Int):yO (Bool):=
 some (decide (a1 >= a0.1))
def Zt1(F:Nat):Fs yb:=⟨40,[.v Zf6,.v yI],[],[Zf6,yI],(zN .bool),λx=>Vo F x.1 x.2⟩
def Zgc:Fs yb:=Zt1 yD
theorem Zka:Zgc.Ok:=fnO { still:=[4]} [] [] trivial
def XT(F:Nat)(s:(Int×(yL Cond)×Int×Int×Chan×yG×(yL Cond))):yO ((Int×(yL Cond)×Int×Int×Chan×yG×(yL Cond))⊕(Chan×yG×(yL Cond))):=
 if(decide (s.2.2.2.1 < s.2.2.1))=true then
  (idx s.2.1 s.2.2.2.1).bind λe232=>
  if(inB s.1 2)=true then
   (s.2.2.2.2.1.2.2.2.1[s.1.toNat]?).bind λe233=>
   (Vo F e233 e232.2.2.1).bind λo234=>
   if o234=true then
    if(apB s.2.2.2.2.2.2.length 1 40)=true then
     some (.inl (s.1,s.2.1,s.2.2.1,wi (s.2.2.2.1+1),s.2.2.2.2.1,s.2.2.2.2.2.1,s.2.2.2.2.2.2++([e232]:yL Cond)))
    else
    none
   else
   some (.inl (s.1,s.2.1,s.2.2.1,wi (s.2.2.2.1+1),s.2.2.2.2.1,s.2.2.2.2.2.1,s.2.2.2.2.2.2))
  else
  none
 else
 some (.inr (s.2.2.2.2.1,s.2.2.2.2.2.1,s.2.2.2.2.2.2))
def ZiI:Lp:=⟨[(2,.v yI),(3,.ref 0 []),(7,.own 2 Vb),(11,.v (.sl Vb)),(12,.v yI),(13,.v yI)],[.var (.v ZK) true,.var (.v Zy) true,.log Vb 66],[yI,(.sl Vb),yI,yI,ZK,Zy,(.sl Vb)],[⟨.exit 0,[(7,.own 2 Vb)],[.var (.v ZK) true,.var (.v Zy) true,.log Vb 66],[ZK,Zy,(.sl Vb)]⟩],Zb (XT yD) yD⟩
def hi7:HI:={ own:=[7,24,27],still:=[6,20,22]}
theorem Znc:ZiI.okA yb 43 0:=Zu hi7 [] [Zgc] ⟨Zka,ytt⟩
def XQ(F:Nat)(a0:Chan)(a1:yG)(a2:Int):yO ((yL Cond)):=
 (Zb (XT F) F (a2,a1.2.2.1,(a1.2.2.1.length:Int),0,a0,a1,[])).bind λo235=>
 some o235.2.2
def Zrz(F:Nat):Fs yb:=⟨43,[.v ZK,.v Zy,.v yI],[],[ZK,Zy,yI],(zN (.sl Vb)),λx=>XQ F x.1 x.2.1 x.2.2⟩
def ZeD:Fs yb:=Zrz yD
theorem ZiJ:ZeD.Ok:=fnO hi7 [(0,ZiI)] [] trivial ⟨Znc,ytt⟩
def Qr(F:Nat)(a0:Chan)(a1:yG)(a2:Int)(a3:Int):yO (Int):=
 if(inB a3 2)=true then
  (a1.2.1[a3.toNat]?).bind λe236=>
  if(a3==a0.2.2.2.2)=true then
   (XQ F a0 a1 a2).bind λo237=>
   (Zew F a1.2.2.2 (o237.length:Int)).bind λo238=>
   some (wi (e236 - (wi (o238+660))))
  else
  some e236
 else
 none
def Zt2(F:Nat):Fs yb:=⟨39,[.v ZK,.v Zy,.v yI,.v yI],[],[ZK,Zy,yI,yI],(zN yI),λx=>Qr F x.1 x.2.1 x.2.2.1 x.2.2.2⟩
def Zmb:Fs yb:=Zt2 yD
theorem Zt3:Zmb.Ok:=fnO { still:=[8,20,21,22,23,25]} [] [ZeD,ZjX] ⟨ZiJ,Zor,ytt⟩
def Znd(F:Nat)(a0:yU)(a1:yU)(a2:Int):yO (Z4):=
 some [([a1],0,0,0),([a0],0,a2,0)]
def ZyD(F:Nat):Fs yb:=⟨41,[.v .u64,.v .u64,.v yI],[],[.u64,.u64,yI],(zN ZC),λx=>Znd F x.1 x.2.1 x.2.2⟩
def ZqY:Fs yb:=ZyD yD
theorem ZyE:ZqY.Ok:=fnO {} [] [] trivial
def Xt(F:Nat)(a0:yU):yO (Z4):=
 some [([a0],0,0,0),([],0,16,0)]
def Zt4(F:Nat):Fs yb:=⟨42,[.v .u64],[],[.u64],(zN ZC),λx=>Xt F x⟩
def Zmc:Fs yb:=Zt4 yD
theorem Zt5:Zmc.Ok:=fnO {} [] [] trivial
def ZeE(F:Nat)(a0:(yL yB))(a1:(yL yB)):yO (Int):=
 some (Go.Lib.compareBytes a0 a1)
def ZpZ(F:Nat):Fs yb:=⟨48,[.v (.sl .u8),.v (.sl .u8)],[],[(.sl .u8),(.sl .u8)],(zN yI),λx=>ZeE F x.1 x.2⟩
def ZiK:Fs yb:=ZpZ yD
theorem Zp0:ZiK.Ok:=fnO { still:=[4,5,6]} [] [] trivial
abbrev Xi:Ty:=(.st [yI,ZC])
abbrev Out:Type:=(Int×Z4)
abbrev Zg0:Ty:=(.st [yI,Vb])
abbrev ZbS:Type:=(Int×Cond)
abbrev ZbS.Cond(x:ZbS):Cond:=x.2
abbrev Zh:Ty:=(.st [Xi,Zg0,(.arr 32 .u8)])
abbrev Zf:Type:=(Out×ZbS×(yL yB))
def ZaP(F:Nat)(a0:Zf)(a1:Zf):yO (Int):=
 (Yp F a0.1.1 a1.1.1).bind λo239=>
 (ZeE F a0.2.2 a1.2.2).bind λo240=>
 (Yp F a0.2.1.1 a1.2.1.1).bind λo241=>
 (Yp F a0.2.1.2.1 a1.2.1.2.1).bind λo242=>
 (Yp F a0.2.1.2.2.1 a1.2.1.2.2.1).bind λo243=>
 (Zcl F [o239,o240,o241,o242,o243]).bind λo244=>
 some o244
def Zp1(F:Nat):Fs yb:=⟨45,[.v Zh,.v Zh],[],[Zh,Zh],(zN yI),λx=>ZaP F x.1 x.2⟩
def ZiL:Fs yb:=Zp1 yD
def hi8:HI:={ still:=[4,7,10,13,15,19,22,27,31,36,40,42],frz:=[13,15]}
theorem Zp2:ZiL.Ok:=fnO hi8 [] [ZaK,ZiK,ZhT] ⟨Zev,Zp0,Zl2,ytt⟩
abbrev Zcn:Ty:=(.st [.u64,.u64])
abbrev Sig:Type:=(yU×yU)
abbrev Zkb:Ty:=(.st [yI,(.sl Zcn),.u64])
abbrev ZdM:Type:=(Int×(yL Sig)×yU)
abbrev ZdM.Branch(x:ZdM):Int:=x.1
abbrev yIn:Ty:=(.st [ZP,Zkb])
abbrev In:Type:=(ZS×ZdM)
abbrev yTx:Ty:=(.st [(.sl yIn),(.sl Xi),yI])
abbrev Tx:Type:=((yL In)×(yL Out)×Int)
abbrev ZL:Ty:=(.st [yTx,(.sl Zg0)])
abbrev Commit:Type:=(Tx×(yL ZbS))
def VJ(F:Nat)(a0:yU):yO (Bool):=
 (XI F a0).bind λo263=>
 some (!o263)
def ZrA(F:Nat):Fs yb:=⟨104,[.v .u64],[],[.u64],(zN .bool),λx=>VJ F x⟩
def ZeF:Fs yb:=ZrA yD
theorem ZiM:ZeF.Ok:=fnO { still:=[2,3]} [] [WE] ⟨WZ,ytt⟩
def Yk(F:Nat)(s:((yL yU)×Int×Int)):yO (((yL yU)×Int×Int)⊕(Int⊕Unit)):=
 if(decide (s.2.2 < s.2.1))=true then
  (idx s.1 s.2.2).bind λe262=>
  (VJ F e262).bind λo264=>
  if o264=true then
   some (.inr (.inl s.2.2))
  else
  some (.inl (s.1,s.2.1,wi (s.2.2+1)))
 else
 some (.inr (.inr ()))
def Zda:Lp:=⟨[(0,.v (.sl .u64)),(1,.fn 104 []),(7,.v yI),(8,.v yI)],[],[(.sl .u64),yI,yI],[⟨.ret,[(4,.v yI)],[],[yI]⟩,⟨.exit 0,[],[],[]⟩],Zb (Yk yD) yD⟩
theorem ZhY:Zda.okA yb 147 0:=Zu { still:=[4,15]} [] [ZeF] ⟨ZiM,ytt⟩
def VU(F:Nat)(a0:(yL yU)):yO (Int):=
 (Zb (Yk F) F (a0,(a0.length:Int),0)).bind λo265=>
 match o265 with
 |.inl o266=>
  some o266
 |.inr o267=>
  some (-1)
def Zly(F:Nat):Fs yb:=⟨147,[.v (.sl .u64),.fn 104 []],[],[(.sl .u64)],(zN yI),λx=>VU F x⟩
def ZeG:Fs yb:=Zly yD
theorem Zlz:ZeG.Ok:=fnO { still:=[4,15]} [(0,Zda)] [] trivial ⟨ZhY,ytt⟩
def Xy(F:Nat)(a0:(yL yU)):yO (Bool):=
 (VU F a0).bind λo268=>
 some (decide (o268 >= 0))
def ZlA(F:Nat):Fs yb:=⟨105,[.v (.sl .u64),.fn 104 []],[],[(.sl .u64)],(zN .bool),λx=>Xy F x⟩
def ZeH:Fs yb:=ZlA yD
theorem ZlB:ZeH.Ok:=fnO { still:=[4,5,6]} [] [ZeG] ⟨Zlz,ytt⟩
def Vp(F:Nat)(a0:Int):yO (Bool):=
 if(decide (a0 >= 0))=true then
  some (decide (a0<=1048576))
 else
 some false
def Zt6(F:Nat):Fs yb:=⟨106,[.v yI],[],[yI],(zN .bool),λx=>Vp F x⟩
def Zmd:Fs yb:=Zt6 yD
theorem Zt7:Zmd.Ok:=fnO { still:=[2]} [] [] trivial
def X1(F:Nat)(s:((yL Branch)×Int×Int×Z4)):yO (((yL Branch)×Int×Int×Z4)⊕((Bool×Z4)⊕Z4)):=
 if(decide (s.2.2.1 < s.2.1))=true then
  (idx s.1 s.2.2.1).bind λe261=>
  if(decide ((e261.1.length:Int) > 12))=true then
   some (.inr (.inl (false,s.2.2.2)))
  else
  (Xy F e261.1).bind λo269=>
  if o269=true then
   some (.inr (.inl (false,s.2.2.2)))
  else
  (Vp F e261.2.1).bind λo270=>
  if(!o270)=true then
   some (.inr (.inl (false,s.2.2.2)))
  else
  (Vp F e261.2.2.1).bind λo271=>
  if(!o271)=true then
   some (.inr (.inl (false,s.2.2.2)))
  else
  if(e261.2.2.2 !=0)=true then
   (VJ F e261.2.2.2).bind λo272=>
   if o272=true then
    some (.inr (.inl (false,s.2.2.2)))
   else
   some (.inl (s.1,s.2.1,wi (s.2.2.1+1),s.2.2.2))
  else
  some (.inl (s.1,s.2.1,wi (s.2.2.1+1),s.2.2.2))
 else
 some (.inr (.inr s.2.2.2))
def Zme:Lp:=⟨[(1,.ref 0 []),(3,.fn 104 []),(7,.v (.sl Zk)),(8,.v yI),(9,.v yI)],[.var (.v ZC) true],[(.sl Zk),yI,yI,ZC],[⟨.ret,[(2,.v .bool)],[.var (.v ZC) true],[.bool,ZC]⟩,⟨.exit 0,[(1,.ref 0 [])],[.var (.v ZC) true],[ZC]⟩],Zb (X1 yD) yD⟩
theorem Zp3:Zme.okA yb 65 0:=Zu { still:=[2,19,20,25,31,42]} [] [ZeH,Zmd,ZeF] ⟨ZlB,Zt7,ZiM,ytt⟩
def Ws(F:Nat)(a0:Z4):yO (Bool):=
 (Zb (X1 F) F (a0,(a0.length:Int),0,a0)).bind λo273=>
 match o273 with
 |.inl o274=>
  some o274.1
 |.inr o275=>
  if(decide ((o275.length:Int) > 0))=true then
   some (decide ((o275.length:Int)<=4))
  else
  some false
def Zgd(F:Nat):Fs yb:=⟨65,[.v ZC],[],[ZC],(zN .bool),λx=>Ws F x⟩
def ZdN:Fs yb:=Zgd yD
theorem Zb7:ZdN.Ok:=fnO { still:=[2,19,20,25,31,42]} [(0,Zme)] [] trivial ⟨Zp3,ytt⟩
def Y5(F:Nat)(s:((yL (yL yB))×Int×(yL (yL yB))×Int×Int)):yO (((yL (yL yB))×Int×(yL (yL yB))×Int×Int)⊕((yL (yL yB))×Int)):=
 if(decide (s.2.2.2.2 < s.2.2.2.1))=true then
  (idx s.2.2.1 s.2.2.2.2).bind λe278=>
  if(decide ((wi (s.2.1+(e278.length:Int))) < 0))=true then
   none
  else
  some (.inl (s.1,wi (s.2.1+(e278.length:Int)),s.2.2.1,s.2.2.2.1,wi (s.2.2.2.2+1)))
 else
 some (.inr (s.1,s.2.1))
def V8:Lp:=⟨[(0,.v (.sl (.sl .u8))),(3,.v yI),(9,.v (.sl (.sl .u8))),(10,.v yI),(11,.v yI)],[],[(.sl (.sl .u8)),yI,(.sl (.sl .u8)),yI,yI],[⟨.exit 0,[(0,.v (.sl (.sl .u8))),(3,.v yI)],[],[(.sl (.sl .u8)),yI]⟩],Zb (Y5 yD) yD⟩
def hi9:HI:={ own:=[6,24,31,33],still:=[2,23]}
theorem Zco:V8.okA yb 160 0:=Zu hi9 [] [] trivial
def Zah:Fs yb:=⟨178,[.nil .u8,.v yI],[],[.int .i64],[⟨.ret,[(0,.own 0 .u8)],[.log .u8 5],[.sl .u8]⟩],Ztj⟩
theorem Zge:Zah.Ok:=ZJ5 ZHU
def Y6(F:Nat)(s:((yL (yL yB))×Int×Int×(yL yB))):yO (((yL (yL yB))×Int×Int×(yL yB))⊕(yL yB)):=
 if(decide (s.2.2.1 < s.2.1))=true then
  (idx s.1 s.2.2.1).bind λe281=>
  if(apB s.2.2.2.length e281.length 1)=true then
   some (.inl (s.1,s.2.1,wi (s.2.2.1+1),s.2.2.2++e281))
  else
  none
 else
 some (.inr s.2.2.2)
def V9:Lp:=⟨[(6,.own 0 .u8),(25,.v (.sl (.sl .u8))),(26,.v yI),(27,.v yI)],[.log .u8 5],[(.sl (.sl .u8)),yI,yI,(.sl .u8)],[⟨.exit 2,[(6,.own 0 .u8)],[.log .u8 5],[(.sl .u8)]⟩],Zb (Y6 yD) yD⟩
theorem Zcp:V9.okA yb 160 1:=Zu hi9 [] [] trivial
def YM(F:Nat)(a0:(yL (yL yB))):yO ((yL yB)):=
 (Zb (Y5 F) F (a0,0,a0,(a0.length:Int),0)).bind λo279=>
 (Ztj o279.2).bind λo280=>
 (Zb (Y6 F) F (o279.1,(o279.1.length:Int),0,o280)).bind λo282=>
 some o282
def ZeI(F:Nat):Fs yb:=⟨160,[.v (.sl (.sl .u8))],[],[(.sl (.sl .u8))],(zN (.sl .u8)),λx=>YM F x⟩
def Wd:Fs yb:=ZeI yD
theorem Qa:Wd.Ok:=fnO hi9 [(0,V8),(1,V9)] [Zah] ⟨Zge,ytt⟩ ⟨Zco,Zcp,ytt⟩
def Q4(F:Nat)(a0:(yL yB))(a1:(yL yB)):yO ((yL yB)):=
 (YM F [a0,a1]).bind λo283=>
 some o283
def ZyF(F:Nat):Fs yb:=⟨158,[.v (.sl .u8),.v (.sl .u8)],[],[(.sl .u8),(.sl .u8)],(zN (.sl .u8)),λx=>Q4 F x.1 x.2⟩
def ZfK:Fs yb:=ZyF yD
theorem ZhZ:ZfK.Ok:=fnO { still:=[4,7]} [] [Wd] ⟨Qa,ytt⟩
def ZdO(F:Nat)(s:(Int×(yL yB))):yO ((Int×(yL yB))⊕(Int×(yL yB))):=
 if(decide (s.1 >= 128))=true then
  if(apB s.2.length 1 1)=true then
   let y285:(yL yB):=s.2++([w8 (wi ((Int.tmod s.1 128)+128))]:yL yB)
   some (.inl (wi (Int.tdiv s.1 128),y285))
  else
  none
 else
 some (.inr (s.1,s.2))
def ZqZ:Lp:=⟨[(0,.v yI),(3,.own 0 .u8)],[.log .u8 5],[yI,(.sl .u8)],[⟨.exit 0,[(0,.v yI),(3,.own 0 .u8)],[.log .u8 5],[yI,(.sl .u8)]⟩],Zb (ZdO yD) yD⟩
def ZNF:HI:={ own:=[3,8,14,15,19],still:=[2]}
theorem Zt8:ZqZ.okA yb 159 0:=Zu ZNF [] [] trivial
def Zg1(F:Nat)(a0:Int):yO ((yL yB)):=
 (Zb (ZdO F) F (a0,[])).bind λo286=>
 if(apB o286.2.length 1 1)=true then
  some (o286.2++([w8 o286.1]:yL yB))
 else
 none
def ZAU(F:Nat):Fs yb:=⟨159,[.v yI],[],[yI],(zN (.sl .u8)),λx=>Zg1 F x⟩
def Zne:Fs yb:=ZAU yD
theorem Zq0:Zne.Ok:=fnO ZNF [(0,ZqZ)] [] trivial ⟨Zt8,ytt⟩
def Wl(F:Nat)(a0:(yL yB))(a1:Int):yO ((yL yB)):=
 if(decide (a1 < 0))=true then
  (Q4 F a0 []).bind λo284=>
  some o284
 else
 (Zg1 F a1).bind λo287=>
 (Q4 F a0 o287).bind λo288=>
 some o288
def ZAV(F:Nat):Fs yb:=⟨116,[.v (.sl .u8),.v yI],[],[(.sl .u8),yI],(zN (.sl .u8)),λx=>Wl F x.1 x.2⟩
def ZbT:Fs yb:=ZAV yD
theorem Zcq:ZbT.Ok:=fnO { still:=[4,7,9,10,11]} [] [ZfK,Zne] ⟨ZhZ,Zq0,ytt⟩
def QT(F:Nat)(s:((yL yB)×yU×Int×(yL yB))):yO (((yL yB)×yU×Int×(yL yB))⊕((yL yB)×(yL yB))):=
 if(decide (s.2.2.1 < 8))=true then
  if(decide (0<=wi (56 - (wi (8*s.2.2.1)))))=true then
   let y293:yU:=Zw s.2.1 (min (wi (56 - (wi (8*s.2.2.1)))).toNat 64)
   if(inB s.2.2.1 8)=true then
    (s.2.2.2[s.2.2.1.toNat]?).bind λe294=>
    let y295:(yL yB):=s.2.2.2.set s.2.2.1.toNat (w8 (y293.toNat:Int))
    some (.inl (s.1,s.2.1,wi (s.2.2.1+1),y295))
   else
   none
  else
  none
 else
 some (.inr (s.1,s.2.2.2))
def Zkc:Lp:=⟨[(0,.v (.sl .u8)),(1,.v .u64),(5,.ref 0 []),(7,.v yI)],[.var (.v (.arr 8 .u8)) true],[(.sl .u8),.u64,yI,(.arr 8 .u8)],[⟨.exit 0,[(0,.v (.sl .u8)),(5,.ref 0 [])],[.var (.v (.arr 8 .u8)) true],[(.sl .u8),(.arr 8 .u8)]⟩],Zb (QT yD) yD⟩
theorem ZoI:Zkc.okA yb 127 0:=Zu { still:=[4,19,20],frz:=[20]} [] [] trivial
def ZaQ(F:Nat)(a0:(yL yB))(a1:yU):yO ((yL yB)):=
 (Zb (QT F) F (a0,a1,0,[0,0,0,0,0,0,0,0])).bind λo296=>
 (Q4 F o296.1 o296.2).bind λo297=>
 some o297
def Zt9(F:Nat):Fs yb:=⟨127,[.v (.sl .u8),.v .u64],[],[(.sl .u8),.u64],(zN (.sl .u8)),λx=>ZaQ F x.1 x.2⟩
def Zgf:Fs yb:=Zt9 yD
theorem Zkd:Zgf.Ok:=fnO { still:=[4,19,20],frz:=[20]} [(0,Zkc)] [ZfK] ⟨ZhZ,ytt⟩ ⟨ZoI,ytt⟩
def Qb(F:Nat)(s:((yL yB)×(yL Branch)×Int×Int×(yL yU)×Int×Int×Z4×Branch)):yO (((yL yB)×(yL Branch)×Int×Int×(yL yU)×Int×Int×Z4×Branch)⊕((yL yB)×(yL Branch)×Int×Int×Z4×Branch)):=
 if(decide (s.2.2.2.2.2.2.1 < s.2.2.2.2.2.1))=true then
  (idx s.2.2.2.2.1 s.2.2.2.2.2.2.1).bind λe292=>
  (ZaQ F s.1 e292).bind λo298=>
  some (.inl (o298,s.2.1,s.2.2.1,s.2.2.2.1,s.2.2.2.2.1,s.2.2.2.2.2.1,wi (s.2.2.2.2.2.2.1+1),s.2.2.2.2.2.2.2.1,s.2.2.2.2.2.2.2.2))
 else
 some (.inr (s.1,s.2.1,s.2.2.1,s.2.2.2.1,s.2.2.2.2.2.2.2.1,s.2.2.2.2.2.2.2.2))
abbrev tL0:yL Ty:=[(.sl .u8),(.sl Zk),yI,yI,(.sl .u64),yI,yI,ZC,Zk]
def Zmf:Lp:=⟨[(3,.v (.sl .u8)),(5,.ref 1 []),(16,.v (.sl Zk)),(17,.v yI),(18,.v yI),(28,.v (.sl .u64)),(29,.v yI),(30,.v yI)],[.var (.v ZC) true,.var (.v Zk) true],tL0,[⟨.exit 2,[(3,.v (.sl .u8)),(5,.ref 1 []),(16,.v (.sl Zk)),(17,.v yI),(18,.v yI)],[.var (.v ZC) true,.var (.v Zk) true],[(.sl .u8),(.sl Zk),yI,yI,ZC,Zk]⟩],Zb (Qb yD) yD⟩
def ZMx:HI:={ still:=[2,8,13,22,25,34,35,38,40,41,43,44,46]}
theorem Zp4:Zmf.okA yb 87 1:=Zu ZMx [] [Zgf] ⟨Zkd,ytt⟩
def ZaR(F:Nat)(s:((yL yB)×(yL Branch)×Int×Int×Z4)):yO (((yL yB)×(yL Branch)×Int×Int×Z4)⊕((yL yB)×Z4)):=
 if(decide (s.2.2.2.1 < s.2.2.1))=true then
  (idx s.2.1 s.2.2.2.1).bind λe290=>
  (Wl F s.1 (e290.1.length:Int)).bind λo291=>
  (Zb (Qb F) F (o291,s.2.1,s.2.2.1,s.2.2.2.1,e290.1,(e290.1.length:Int),0,s.2.2.2.2,e290)).bind λo299=>
  (Wl F o299.1 o299.2.2.2.2.2.2.1).bind λo300=>
  (Wl F o300 o299.2.2.2.2.2.2.2.1).bind λo301=>
  (ZaQ F o301 o299.2.2.2.2.2.2.2.2).bind λo302=>
  some (.inl (o302,o299.2.1,o299.2.2.1,wi (o299.2.2.2.1+1),o299.2.2.2.2.1))
 else
 some (.inr (s.1,s.2.2.2.2))
def Zmg:Lp:=⟨[(3,.v (.sl .u8)),(16,.v (.sl Zk)),(17,.v yI),(18,.v yI)],[.var (.v ZC) true],[(.sl .u8),(.sl Zk),yI,yI,ZC],[⟨.exit 0,[(3,.v (.sl .u8))],[.var (.v ZC) true],[(.sl .u8),ZC]⟩],Zb (ZaR yD) yD⟩
theorem Zp5:Zmg.okA yb 87 0:=Zu ZMx [(1,Zmf)] [ZbT,Zgf] ⟨Zcq,Zkd,ytt⟩ ⟨Zp4,ytt⟩
def Zcr(F:Nat)(a0:Z4):yO ((yL yB)):=
 (Ws F a0).bind λo277=>
 if(!o277)=true then
  some []
 else
 (Wl F [] (a0.length:Int)).bind λo289=>
 (Zb (ZaR F) F (o289,a0,(a0.length:Int),0,a0)).bind λo303=>
 some o303.1
def Zvv(F:Nat):Fs yb:=⟨87,[.v ZC],[],[ZC],(zN (.sl .u8)),λx=>Zcr F x⟩
def Zh0:Fs yb:=Zvv yD
theorem Zmh:Zh0.Ok:=fnO ZMx [(0,Zmg)] [ZdN,ZbT] ⟨Zb7,Zcq,ytt⟩ ⟨Zp5,ytt⟩
def ZLa:ByteArray:=⟨#[108,111,99,107]⟩
def Zlq(F:Nat)(a0:Z4):yO ((yL yB)):=
 (Ws F a0).bind λo276=>
 if(!o276)=true then
  some yzz
 else
 (Zcr F a0).bind λo304=>
 (VI F ZLa [o304]).bind λo305=>
 some o305
def ZAW(F:Nat):Fs yb:=⟨38,[.v ZC],[],[ZC],(zN (.arr 32 .u8)),λx=>Zlq F x⟩
def Zua:Fs yb:=ZAW yD
theorem ZAX:Zua.Ok:=fnO { still:=[3,7,9]} [] [ZdN,Zh0,V6] ⟨Zb7,Zmh,V7,ytt⟩
def ZN(F:Nat)(a0:Int)(a1:Z4)(a2:ZbS)(s1_0:(yL Unit))(s1_1:(yL Zf)):yO (((yL Unit)×(yL Zf))):=
 (Zlq F a1).bind λo306=>
 if(apB s1_1.length 1 112)=true then
  let y307:(yL Zf):=s1_1++([((a0,a1),a2,o306)]:yL Zf)
  some (()::s1_0,y307)
 else
 none
def Zp6(F:Nat):Fs yb:=⟨37,[.v yI,.v ZC,.v Zg0,.ref 0 []],[.var (.rw 1) true,.row Zh true 105],[yI,ZC,Zg0,(.sl (.st [])),(.sl Zh)],[⟨.ret,[(0,.tup [])],[.var (.rw 1) true,.row Zh true 105],[(.sl (.st [])),(.sl Zh)]⟩],λx=>ZN F x.1 x.2.1 x.2.2.1 x.2.2.2.1 x.2.2.2.2⟩
def Zc3:Fs yb:=Zp6 yD
theorem Zg2:Zc3.Ok:=fnO { own:=[7,16],still:=[12]} [] [Zua] ⟨ZAX,ytt⟩
abbrev dT0:Type:=(Int×Int×yU×yU×yU×(yL Cond)×Int×Int×Chan×yG×Commit×(yL Unit)×(yL Zf))
abbrev tL1:yL Ty:=[yI,yI,.u64,.u64,.u64,(.sl Vb),yI,yI,ZK,Zy,ZL,(.sl (.st [])),(.sl Zh)]
def Xf(F:Nat)(s:(Int×Int×Int×Int×(yL Unit)×(yL Zf))):yO ((Int×Int×Int×Int×(yL Unit)×(yL Zf))⊕(Int×Int×Int×(yL Unit)×(yL Zf))):=
 if(decide (s.2.2.2.1 > s.1))=true then
  if(inB s.2.2.2.1 s.2.2.2.2.2.length)=true then
   (s.2.2.2.2.2[s.2.2.2.1.toNat]?).bind λe326=>
   if(inB (wi (s.2.2.2.1 - 1)) s.2.2.2.2.2.length)=true then
    (s.2.2.2.2.2[(wi (s.2.2.2.1 - 1)).toNat]?).bind λe327=>
    (ZaP F e326 e327).bind λo328=>
    if(decide (o328 < 0))=true then
     if(inB (wi (s.2.2.2.1 - 1)) s.2.2.2.2.2.length)=true then
      (s.2.2.2.2.2[(wi (s.2.2.2.1 - 1)).toNat]?).bind λe329=>
      if(inB s.2.2.2.1 s.2.2.2.2.2.length)=true then
       (s.2.2.2.2.2[s.2.2.2.1.toNat]?).bind λe330=>
       if(inB s.2.2.2.1 s.2.2.2.2.2.length)=true then
        (s.2.2.2.2.2[s.2.2.2.1.toNat]?).bind λe331=>
        if(inB (wi (s.2.2.2.1 - 1)) ((s.2.2.2.2.2.set s.2.2.2.1.toNat e329).length))=true then
         ((s.2.2.2.2.2.set s.2.2.2.1.toNat e329)[(wi (s.2.2.2.1 - 1)).toNat]?).bind λe332=>
         let y333:(yL Zf):=(s.2.2.2.2.2.set s.2.2.2.1.toNat e329).set ((wi (s.2.2.2.1 - 1)).toNat) e330
         some (.inl (s.1,s.2.1,s.2.2.1,wi (s.2.2.2.1 - 1),s.2.2.2.2.1,y333))
        else
        none
       else
       none
      else
      none
     else
     none
    else
    some (.inr (s.1,s.2.1,s.2.2.1,s.2.2.2.2.1,s.2.2.2.2.2))
   else
   none
  else
  none
 else
 some (.inr (s.1,s.2.1,s.2.2.1,s.2.2.2.2.1,s.2.2.2.2.2))
def ZeJ:Lp:=⟨[(0,.rw 0),(1,.v yI),(2,.v yI),(3,.fn 45 []),(8,.v yI),(9,.v yI)],[.row Zh true 105],[yI,yI,yI,yI,(.sl (.st [])),(.sl Zh)],[⟨.exit 2,[(0,.rw 0),(1,.v yI),(2,.v yI),(3,.fn 45 []),(8,.v yI)],[.row Zh true 105],[yI,yI,yI,(.sl (.st [])),(.sl Zh)]⟩],Zb (Xf yD) yD⟩
def ZMy:HI:={ still:=[26,31],rowt:=[0,37,39]}
theorem ZiZ:ZeJ.okA yb 129 1:=Zu ZMy [] [ZiL] ⟨Zp2,ytt⟩
def ZR(F:Nat)(s:(Int×Int×Int×(yL Unit)×(yL Zf))):yO ((Int×Int×Int×(yL Unit)×(yL Zf))⊕((yL Unit)×(yL Zf))):=
 if(decide (s.2.2.1 < s.2.1))=true then
  (Zb (Xf F) F (s.1,s.2.1,s.2.2.1,s.2.2.1,s.2.2.2.1,s.2.2.2.2)).bind λo334=>
  some (.inl (o334.1,o334.2.1,wi (o334.2.2.1+1),o334.2.2.2.1,o334.2.2.2.2))
 else
 some (.inr (s.2.2.2.1,s.2.2.2.2))
def ZeK:Lp:=⟨[(0,.rw 0),(1,.v yI),(2,.v yI),(3,.fn 45 []),(8,.v yI)],[.row Zh true 105],[yI,yI,yI,(.sl (.st [])),(.sl Zh)],[⟨.exit 0,[],[.row Zh true 105],[(.sl (.st [])),(.sl Zh)]⟩],Zb (ZR yD) yD⟩
theorem Zi0:ZeK.okA yb 129 0:=Zu ZMy [(1,ZeJ)] [] trivial ⟨ZiZ,ytt⟩
def Xq(F:Nat)(a1:Int)(a2:Int)(s0_0:(yL Unit))(s0_1:(yL Zf)):yO (((yL Unit)×(yL Zf))):=
 (Zb (ZR F) F (a1,a2,wi (a1+1),s0_0,s0_1)).bind λo335=>
 some (o335.1,o335.2)
def Znf(F:Nat):Fs yb:=⟨129,[.rw 0,.v yI,.v yI,.fn 45 []],[.row Zh true 105],[yI,yI,(.sl (.st [])),(.sl Zh)],[⟨.ret,[(0,.tup [])],[.row Zh true 105],[(.sl (.st [])),(.sl Zh)]⟩],λx=>Xq F x.1 x.2.1 x.2.2.1 x.2.2.2⟩
def ZaS:Fs yb:=Znf yD
theorem ZeL:ZaS.Ok:=fnO ZMy [(0,ZeK)] [] trivial ⟨Zi0,ytt⟩
def YS(F:Nat)(s:(Int×Int×Int×Int×(yL Unit)×(yL Zf))):yO ((Int×Int×Int×Int×(yL Unit)×(yL Zf))⊕(Int×Int×Int×(yL Unit)×(yL Zf))):=
 if(decide (s.2.2.2.1<=s.1))=true then
  (Xq F s.2.2.1 s.2.2.2.1 s.2.2.2.2.1 s.2.2.2.2.2).bind λo336=>
  if(decide (s.2.2.2.2.1.length=o336.1.length)&&(decide (40=40)&&decide ((yv s.2.2.2.2.2.length ()).length=o336.2.length)))=true then
   some (.inl (s.1,s.2.1,s.2.2.2.1,wi (s.2.2.2.1+s.2.1),o336.1,o336.2))
  else
  none
 else
 some (.inr (s.1,s.2.1,s.2.2.1,s.2.2.2.2.1,s.2.2.2.2.2))
def ZfL:Lp:=⟨[(0,.rw 0),(1,.v yI),(2,.fn 45 []),(6,.v yI),(7,.v yI),(8,.v yI)],[.row Zh true 105],[yI,yI,yI,yI,(.sl (.st [])),(.sl Zh)],[⟨.exit 0,[(0,.rw 0),(1,.v yI),(2,.fn 45 []),(6,.v yI),(7,.v yI)],[.row Zh true 105],[yI,yI,yI,(.sl (.st [])),(.sl Zh)]⟩],Zb (YS yD) yD⟩
def ZKr:HI:={ still:=[15,16,17,24,25,26,37,40,41,42,56,57,58,59],rowt:=[0,14,23,36,55]}
theorem Zke:ZfL.okA yb 89 0:=Zyf (fi:={ hi:=ZKr,gh:=[(3,.freshS 0)]}) (specs:={ l:=[ZaS]}) (okS ⟨ZeL,ytt⟩)
def ZeM(F:Nat)(s:(Int×Int×Int×Int×(yL Unit)×(yL Zf))):yO ((Int×Int×Int×Int×(yL Unit)×(yL Zf))⊕(Int×Int×Int×(yL Unit)×(yL Zf))):=
 if(decide (s.2.2.2.1<=s.1))=true then
  none
 else
 some (.inr (s.1,s.2.1,s.2.2.1,s.2.2.2.2.1,s.2.2.2.2.2))
def ZfM:Lp:=⟨[(1,.v yI),(2,.fn 45 []),(6,.v yI),(7,.v yI),(8,.v yI)],[.row Zh true 105],[yI,yI,yI,yI,(.sl (.st [])),(.sl Zh)],[⟨.exit 4,[(1,.v yI),(2,.fn 45 []),(6,.v yI),(7,.v yI)],[.row Zh true 105],[yI,yI,yI,(.sl (.st [])),(.sl Zh)]⟩],Zb (ZeM yD) yD⟩
theorem Zkf:ZfM.okA yb 89 2:=Zu ZKr [] [] trivial
def Vq(F:Nat)(s:(Int×Int×(yL Unit)×(yL Zf))):yO ((Int×Int×(yL Unit)×(yL Zf))⊕((yL Unit)×(yL Zf))):=
 if(decide (s.2.1 < s.1))=true then
  (Zb (ZeM F) F (s.1,s.2.1,0,wi (2*s.2.1),s.2.2.1,s.2.2.2)).bind λo339=>
  if(decide ((wi (o339.2.2.1+o339.2.1)) < o339.1))=true then
   none
  else
  some (.inl (o339.1,wi (o339.2.1*2),o339.2.2.2.1,o339.2.2.2.2))
 else
 some (.inr (s.2.2.1,s.2.2.2))
def ZfN:Lp:=⟨[(0,.junk),(1,.v yI),(2,.fn 45 []),(6,.v yI)],[.row Zh true 105],[yI,yI,(.sl (.st [])),(.sl Zh)],[⟨.exit 2,[],[.row Zh true 105],[(.sl (.st [])),(.sl Zh)]⟩],Zb (Vq yD) yD⟩
theorem Zkg:ZfN.okA yb 89 1:=Zu ZKr [(2,ZfM)] [] trivial ⟨Zkf,ytt⟩
def Zc4(F:Nat)(a1:Int)(s0_0:(yL Unit))(s0_1:(yL Zf)):yO (((yL Unit)×(yL Zf))):=
 (Zb (YS F) F (a1,20,0,20,s0_0,s0_1)).bind λo337=>
 (Xq F o337.2.2.1 o337.1 o337.2.2.2.1 o337.2.2.2.2).bind λo338=>
 (Zb (Vq F) F (o337.1,o337.2.1,o338.1,o338.2)).bind λo340=>
 some (o340.1,o340.2)
def ZoJ(F:Nat):Fs yb:=⟨89,[.rw 0,.v yI,.fn 45 []],[.row Zh true 105],[yI,(.sl (.st [])),(.sl Zh)],[⟨.ret,[(0,.tup [])],[.row Zh true 105],[(.sl (.st [])),(.sl Zh)]⟩],λx=>Zc4 F x.1 x.2.1 x.2.2⟩
def Zg3:Fs yb:=ZoJ yD
theorem ZoK:Zg3.Ok:=fnO ZKr [(0,ZfL),(1,ZfN)] [ZaS] ⟨ZeL,ytt⟩ ⟨Zke,Zkg,ytt⟩
def Wt(F:Nat)(s0_0:(yL Unit))(s0_1:(yL Zf)):yO (((yL Unit)×(yL Zf))):=
 (Zc4 F (s0_1.length:Int) s0_0 s0_1).bind λo341=>
 some (o341.1,o341.2)
def Zub(F:Nat):Fs yb:=⟨44,[.rw 0,.fn 45 []],[.row Zh true 105],[(.sl (.st [])),(.sl Zh)],[⟨.ret,[(0,.tup [])],[.row Zh true 105],[(.sl (.st [])),(.sl Zh)]⟩],λx=>Wt F x.1 x.2⟩
def Zmi:Fs yb:=Zub yD
theorem Zuc:Zmi.Ok:=fnO { still:=[6,7],rowt:=[0,4]} [] [Zg3] ⟨ZoK,ytt⟩
abbrev dT1:Type:=(Int×Int×Chan×yG×Commit×(yL Unit)×(yL Zf)×(yL In)×Int×(yL ZbS)×(yL Out))
abbrev dT2:Type:=(Chan×yG×Commit×(yL Unit)×(yL Zf)×(yL In)×Int×(yL ZbS)×(yL Out))
def ZNG:yL ESh:=[.var (.v ZK) true,.var (.v Zy) true,.var (.v ZL) true,.var (.rw 4) true,.row Zh true 105,.var (.agg [.agg [.v (.sl yIn),.own 7 Xi,.v yI],.own 6 Zg0]) true,.log Zg0 68,.log Xi 75]
abbrev tL2:yL Ty:=[ZK,Zy,ZL,(.sl (.st [])),(.sl Zh),(.sl yIn),yI,(.sl Zg0),(.sl Xi)]
abbrev tL3:yL Ty:=[yI,yI,ZK,Zy,ZL,(.sl (.st [])),(.sl Zh),(.sl yIn),yI,(.sl Zg0),(.sl Xi)]
def YQ(F:Nat)(s:dT0):yO (dT0⊕(Int×Chan×yG×Commit×(yL Unit)×(yL Zf))):=
 if(decide (s.2.2.2.2.2.2.2.1 < s.2.2.2.2.2.2.1))=true then
  (idx s.2.2.2.2.2.1 s.2.2.2.2.2.2.2.1).bind λe376=>
  if(e376.1==s.1)=true then
   (ZN F e376.2.2.1 [([s.2.2.1],0,0,0),([s.2.2.2.2.1],0,0,e376.2.2.2.1),([s.2.2.2.1],e376.2.2.2.2,s.2.1,0)] (5,e376) s.2.2.2.2.2.2.2.2.2.2.2.1 s.2.2.2.2.2.2.2.2.2.2.2.2).bind λo377=>
   some (.inl (s.1,s.2.1,s.2.2.1,s.2.2.2.1,s.2.2.2.2.1,s.2.2.2.2.2.1,s.2.2.2.2.2.2.1,wi (s.2.2.2.2.2.2.2.1+1),s.2.2.2.2.2.2.2.2.1,s.2.2.2.2.2.2.2.2.2.1,s.2.2.2.2.2.2.2.2.2.2.1,o377.1,o377.2))
  else
  (ZN F e376.2.2.1 [([s.2.2.1],0,0,0),([s.2.2.2.1],0,s.2.1,e376.2.2.2.1),([s.2.2.2.2.1],e376.2.2.2.2,0,0)] (6,e376) s.2.2.2.2.2.2.2.2.2.2.2.1 s.2.2.2.2.2.2.2.2.2.2.2.2).bind λo378=>
  some (.inl (s.1,s.2.1,s.2.2.1,s.2.2.2.1,s.2.2.2.2.1,s.2.2.2.2.2.1,s.2.2.2.2.2.2.1,wi (s.2.2.2.2.2.2.2.1+1),s.2.2.2.2.2.2.2.2.1,s.2.2.2.2.2.2.2.2.2.1,s.2.2.2.2.2.2.2.2.2.2.1,o378.1,o378.2))
 else
 some (.inr (s.1,s.2.2.2.2.2.2.2.2.1,s.2.2.2.2.2.2.2.2.2.1,s.2.2.2.2.2.2.2.2.2.2.1,s.2.2.2.2.2.2.2.2.2.2.2.1,s.2.2.2.2.2.2.2.2.2.2.2.2))
abbrev zD:List ESh:=[.var (.v ZK) true,.var (.v Zy) true,.var (.v ZL) true,.var (.rw 4) true,.row Zh true 105]
def Zkh:Lp:=⟨[(2,.v yI),(4,.ref 0 []),(5,.ref 1 []),(8,.ref 2 []),(11,.v yI),(12,.v .u64),(13,.v .u64),(14,.v .u64),(15,.ref 3 []),(16,.fn 37 [.ref 3 []]),(139,.v (.sl Vb)),(140,.v yI),(141,.v yI)],zD,tL1,[⟨.exit 1,[(2,.v yI),(4,.ref 0 []),(5,.ref 1 []),(8,.ref 2 []),(15,.ref 3 [])],zD,[yI,ZK,Zy,ZL,(.sl (.st [])),(.sl Zh)]⟩],Zb (YQ yD) yD⟩
def ZN8:HI:={ own:=[208,212,216,220],still:=[9,28,32,38,39,54,55,61,62,68,69,72,73,74,75,80,81,84,89,90,91,92,93,94,95,97,98,99,100,105,106,109,114,115,116,123,124,125,132,133,134,136,137,138,176,183,184],rowt:=[187]}
theorem ZoL:Zkh.okA yb 7 0:=Zu ZN8 [] [Zc3] ⟨Zg2,ytt⟩
def Xh(F:Nat)(s:dT1):yO (dT1⊕dT2):=
 if(decide (s.2.1 < s.1))=true then
  if(inB s.2.1 s.2.2.2.2.2.2.1.length)=true then
   (s.2.2.2.2.2.2.1[s.2.1.toNat]?).bind λe381=>
   if(apB s.2.2.2.2.2.2.2.2.2.2.length 1 32)=true then
    if(apB s.2.2.2.2.2.2.2.2.2.1.length 1 48)=true then
     let y382:(yL ZbS):=s.2.2.2.2.2.2.2.2.2.1++([e381.2.1]:yL ZbS)
     some (.inl (s.1,wi (s.2.1+1),s.2.2.1,s.2.2.2.1,s.2.2.2.2.1,s.2.2.2.2.2.1,s.2.2.2.2.2.2.1,s.2.2.2.2.2.2.2.1,s.2.2.2.2.2.2.2.2.1,y382,s.2.2.2.2.2.2.2.2.2.2++([e381.1]:yL Out)))
    else
    none
   else
   none
  else
  none
 else
 some (.inr (s.2.2.1,s.2.2.2.1,s.2.2.2.2.1,s.2.2.2.2.2.1,s.2.2.2.2.2.2.1,s.2.2.2.2.2.2.2.1,s.2.2.2.2.2.2.2.2.1,s.2.2.2.2.2.2.2.2.2.1,s.2.2.2.2.2.2.2.2.2.2))
def Zki:Lp:=⟨[(8,.ref 2 []),(24,.ref 5 []),(200,.rw 4),(201,.v yI),(202,.v yI)],ZNG,tL3,[⟨.exit 3,[(8,.ref 2 []),(24,.ref 5 [])],ZNG,tL2⟩],Zb (Xh yD) yD⟩
def ZNH:HI:={ own:=[208,212,216,220],still:=[9,28,32,38,39,54,55,61,62,68,69,72,73,74,75,80,81,84,89,90,91,92,93,94,95,97,98,99,100,105,106,109,114,115,116,123,124,125,132,133,134,136,137,138,176,183,184],rowt:=[187],gst:=[(24,[([1],Zg0,68),([0,1],Xi,75)])]}
theorem ZoM:Zki.okA yb 7 1:=Zu ZNH [] [] trivial
def Wu(F:Nat)(a0:Chan)(a1:yG)(a2:Int)(a3:yU):yO ((Commit×Int)):=
 (Qm F a2).bind λo346=>
 if(!o346)=true then
  some ((([],[],0),[]),1)
 else
 (XI F a3).bind λo347=>
 if(!o347)=true then
  some ((([],[],0),[]),1)
 else
 (ZaM F a0 a1).bind λo348=>
 if(!o348)=true then
  some ((([],[],0),[]),14)
 else
 if(inB (wi (1 - a2)) 2)=true then
  (a0.2.2.2.1[(wi (1 - a2)).toNat]?).bind λe349=>
  if(inB (wi (1 - a2)) 2)=true then
   (a0.2.2.1[(wi (1 - a2)).toNat]?).bind λe350=>
   (ZdL F e350.2.2.2.2 a3).bind λo351=>
   if(inB a2 2)=true then
    (a0.2.2.1[a2.toNat]?).bind λe352=>
    (Zd0 F e352.2.2.2.1 a3).bind λo353=>
    if(inB (wi (1 - a2)) 2)=true then
     (a0.2.2.1[(wi (1 - a2)).toNat]?).bind λe354=>
     (Zd0 F e354.2.2.2.1 a3).bind λo355=>
     (Qr F a0 a1 a2 a2).bind λo356=>
     if(inB a2 2)=true then
      (a0.2.2.2.1[a2.toNat]?).bind λe357=>
      (Vo F e357 o356).bind λo358=>
      if o358=true then
       if(inB a2 2)=true then
        (a0.2.2.1[a2.toNat]?).bind λe359=>
        (Zd0 F e359.2.2.1 a3).bind λo360=>
        (Znd F o360 o351 e349.2.2.1).bind λo361=>
        (ZN F o356 o361 (1,(0,0,0,0,0)) [] []).bind λo362=>
        (Qr F a0 a1 a2 (wi (1 - a2))).bind λo363=>
        if(inB a2 2)=true then
         (a0.2.2.2.1[a2.toNat]?).bind λe364=>
         (Vo F e364 o363).bind λo365=>
         if o365=true then
          if(inB (wi (1 - a2)) 2)=true then
           (a0.2.2.1[(wi (1 - a2)).toNat]?).bind λe366=>
           (ZgS F e366.2.1).bind λo367=>
           (ZN F o363 o367 (2,(0,0,0,0,0)) o362.1 o362.2).bind λo368=>
           if(inB a2 2)=true then
            (a0.2.2.1[a2.toNat]?).bind λe369=>
            (Xt F e369.1).bind λo370=>
            (ZN F 330 o370 (3,(0,0,0,0,0)) o368.1 o368.2).bind λo371=>
            if(inB (wi (1 - a2)) 2)=true then
             (a0.2.2.1[(wi (1 - a2)).toNat]?).bind λe372=>
             (Xt F e372.1).bind λo373=>
             (ZN F 330 o373 (4,(0,0,0,0,0)) o371.1 o371.2).bind λo374=>
             (XQ F a0 a1 a2).bind λo375=>
             (Zb (YQ F) F (a2,e349.2.2.1,o351,o353,o355,o375,(o375.length:Int),0,a0,a1,(([],[],0),[]),o374.1,o374.2)).bind λo379=>
             (Wt F o379.2.2.2.2.1 o379.2.2.2.2.2).bind λo380=>
             if(decide (o379.2.2.2.2.1.length=o380.1.length)&&(decide (40=40)&&decide ((yv o379.2.2.2.2.2.length ()).length=o380.2.length)))=true then
              (Zb (Xh F) F ((o380.2.length:Int),0,o379.2.1,o379.2.2.1,o379.2.2.2.1,o380.1,o380.2,[(o379.2.1.1,(0,[],0))],wi ((wi (2*o379.2.2.1.1))+o379.1),[],[])).bind λo383=>
              some (((o383.2.2.2.2.2.1,o383.2.2.2.2.2.2.2.2,o383.2.2.2.2.2.2.1),o383.2.2.2.2.2.2.2.1),0)
             else
             none
            else
            none
           else
           none
          else
          none
         else
         if(inB a2 2)=true then
          (a0.2.2.1[a2.toNat]?).bind λe384=>
          (Xt F e384.1).bind λo385=>
          (ZN F 330 o385 (3,(0,0,0,0,0)) o362.1 o362.2).bind λo386=>
          if(inB (wi (1 - a2)) 2)=true then
           (a0.2.2.1[(wi (1 - a2)).toNat]?).bind λe387=>
           (Xt F e387.1).bind λo388=>
           (ZN F 330 o388 (4,(0,0,0,0,0)) o386.1 o386.2).bind λo389=>
           (XQ F a0 a1 a2).bind λo390=>
           (Zb (YQ F) F (a2,e349.2.2.1,o351,o353,o355,o390,(o390.length:Int),0,a0,a1,(([],[],0),[]),o389.1,o389.2)).bind λo391=>
           (Wt F o391.2.2.2.2.1 o391.2.2.2.2.2).bind λo392=>
           if(decide (o391.2.2.2.2.1.length=o392.1.length)&&(decide (40=40)&&decide ((yv o391.2.2.2.2.2.length ()).length=o392.2.length)))=true then
            (Zb (Xh F) F ((o392.2.length:Int),0,o391.2.1,o391.2.2.1,o391.2.2.2.1,o392.1,o392.2,[(o391.2.1.1,(0,[],0))],wi ((wi (2*o391.2.2.1.1))+o391.1),[],[])).bind λo393=>
            some (((o393.2.2.2.2.2.1,o393.2.2.2.2.2.2.2.2,o393.2.2.2.2.2.2.1),o393.2.2.2.2.2.2.2.1),0)
           else
           none
          else
          none
         else
         none
        else
        none
       else
       none
      else
      (Qr F a0 a1 a2 (wi (1 - a2))).bind λo394=>
      if(inB a2 2)=true then
       (a0.2.2.2.1[a2.toNat]?).bind λe395=>
       (Vo F e395 o394).bind λo396=>
       if o396=true then
        if(inB (wi (1 - a2)) 2)=true then
         (a0.2.2.1[(wi (1 - a2)).toNat]?).bind λe397=>
         (ZgS F e397.2.1).bind λo398=>
         (ZN F o394 o398 (2,(0,0,0,0,0)) [] []).bind λo399=>
         if(inB a2 2)=true then
          (a0.2.2.1[a2.toNat]?).bind λe400=>
          (Xt F e400.1).bind λo401=>
          (ZN F 330 o401 (3,(0,0,0,0,0)) o399.1 o399.2).bind λo402=>
          if(inB (wi (1 - a2)) 2)=true then
           (a0.2.2.1[(wi (1 - a2)).toNat]?).bind λe403=>
           (Xt F e403.1).bind λo404=>
           (ZN F 330 o404 (4,(0,0,0,0,0)) o402.1 o402.2).bind λo405=>
           (XQ F a0 a1 a2).bind λo406=>
           (Zb (YQ F) F (a2,e349.2.2.1,o351,o353,o355,o406,(o406.length:Int),0,a0,a1,(([],[],0),[]),o405.1,o405.2)).bind λo407=>
           (Wt F o407.2.2.2.2.1 o407.2.2.2.2.2).bind λo408=>
           if(decide (o407.2.2.2.2.1.length=o408.1.length)&&(decide (40=40)&&decide ((yv o407.2.2.2.2.2.length ()).length=o408.2.length)))=true then
            (Zb (Xh F) F ((o408.2.length:Int),0,o407.2.1,o407.2.2.1,o407.2.2.2.1,o408.1,o408.2,[(o407.2.1.1,(0,[],0))],wi ((wi (2*o407.2.2.1.1))+o407.1),[],[])).bind λo409=>
            some (((o409.2.2.2.2.2.1,o409.2.2.2.2.2.2.2.2,o409.2.2.2.2.2.2.1),o409.2.2.2.2.2.2.2.1),0)
           else
           none
          else
          none
         else
         none
        else
        none
       else
       if(inB a2 2)=true then
        (a0.2.2.1[a2.toNat]?).bind λe410=>
        (Xt F e410.1).bind λo411=>
        (ZN F 330 o411 (3,(0,0,0,0,0)) [] []).bind λo412=>
        if(inB (wi (1 - a2)) 2)=true then
         (a0.2.2.1[(wi (1 - a2)).toNat]?).bind λe413=>
         (Xt F e413.1).bind λo414=>
         (ZN F 330 o414 (4,(0,0,0,0,0)) o412.1 o412.2).bind λo415=>
         (XQ F a0 a1 a2).bind λo416=>
         (Zb (YQ F) F (a2,e349.2.2.1,o351,o353,o355,o416,(o416.length:Int),0,a0,a1,(([],[],0),[]),o415.1,o415.2)).bind λo417=>
         (Wt F o417.2.2.2.2.1 o417.2.2.2.2.2).bind λo418=>
         if(decide (o417.2.2.2.2.1.length=o418.1.length)&&(decide (40=40)&&decide ((yv o417.2.2.2.2.2.length ()).length=o418.2.length)))=true then
          (Zb (Xh F) F ((o418.2.length:Int),0,o417.2.1,o417.2.2.1,o417.2.2.2.1,o418.1,o418.2,[(o417.2.1.1,(0,[],0))],wi ((wi (2*o417.2.2.1.1))+o417.1),[],[])).bind λo419=>
          some (((o419.2.2.2.2.2.1,o419.2.2.2.2.2.2.2.2,o419.2.2.2.2.2.2.1),o419.2.2.2.2.2.2.2.1),0)
         else
         none
        else
        none
       else
       none
      else
      none
     else
     none
    else
    none
   else
   none
  else
  none
 else
 none
def ZeN(F:Nat):Fs yb:=⟨7,[.v ZK,.v Zy,.v yI,.v .u64],[],[ZK,Zy,yI,.u64],[⟨.ret,[(0,.tup [.v ZL,.v yI])],[],[ZL,yI]⟩],λx=>Wu F x.1 x.2.1 x.2.2.1 x.2.2.2⟩
def Zmj:Fs yb:=ZeN yD
theorem Zkj:Zmj.Ok:=ZK3 (fi:={ hi:=ZNH,lp:=[(0,Zkh),(1,Zki)],gh:=[(11,.rowt 15 [] Zh 105),(31,.freshV 15)]}) (specs:={ l:=[ZlW,WE,Zl5,Zma,Zt0,Zmb,Zgc,ZqY,Zc3,Ztv,Zmc,ZeD,Zmi]}) (okS ⟨Ztx,WZ,ZtM,ZtZ,ZAT,Zt3,Zka,ZyE,Zg2,ZqP,Zt5,ZiJ,Zuc,ytt⟩) ⟨ZoL,ZoM,ytt⟩
def Ve(F:Nat)(a0:ZdM):yO (Bool):=
 if(decide (a0.1 >= 0))=true then
  if(decide (a0.1 < 4))=true then
   some (decide ((a0.2.1.length:Int)<=12))
  else
  some false
 else
 some false
def Zvw(F:Nat):Fs yb:=⟨110,[.v Zkb],[],[Zkb],(zN .bool),λx=>Ve F x⟩
def Zh1:Fs yb:=Zvw yD
theorem Zmk:Zh1.Ok:=fnO { still:=[2]} [] [] trivial
def XJ(F:Nat)(s:((yL In)×Int×Int×Tx×(yL (ZS×Bool)))):yO (((yL In)×Int×Int×Tx×(yL (ZS×Bool)))⊕((Bool×Tx×(yL (ZS×Bool)))⊕(Tx×(yL (ZS×Bool))))):=
 if(decide (s.2.2.1 < s.2.1))=true then
  (idx s.1 s.2.2.1).bind λe420=>
  ZqF (Zdv s.2.2.2.2 e420.1) (λe421=>
   if e421=true then
    some (.inr (.inl (false,s.2.2.2.1,s.2.2.2.2)))
   else
   if(decide (e420.1.2 < 0))=true then
    some (.inr (.inl (false,s.2.2.2.1,s.2.2.2.2)))
   else
   if(decide (e420.1.2 >= 64))=true then
    some (.inr (.inl (false,s.2.2.2.1,s.2.2.2.2)))
   else
   (Ve F e420.2).bind λo422=>
   if(!o422)=true then
    some (.inr (.inl (false,s.2.2.2.1,s.2.2.2.2)))
   else
   some (.inl (s.1,s.2.1,wi (s.2.2.1+1),s.2.2.2.1,Zpt s.2.2.2.2 e420.1 true))) (
   if(decide (e420.1.2 < 0))=true then
    some (.inr (.inl (false,s.2.2.2.1,s.2.2.2.2)))
   else
   if(decide (e420.1.2 >= 64))=true then
    some (.inr (.inl (false,s.2.2.2.1,s.2.2.2.2)))
   else
   (Ve F e420.2).bind λo423=>
   if(!o423)=true then
    some (.inr (.inl (false,s.2.2.2.1,s.2.2.2.2)))
   else
   some (.inl (s.1,s.2.1,wi (s.2.2.1+1),s.2.2.2.1,Zpt s.2.2.2.2 e420.1 true)))
 else
 some (.inr (.inr (s.2.2.2.1,s.2.2.2.2)))
def Zq1:Lp:=⟨[(1,.ref 0 []),(3,.mp 1),(33,.v (.sl yIn)),(34,.v yI),(35,.v yI)],[.var (.v yTx) true,.map 178 ZP .bool],[(.sl yIn),yI,yI,yTx,(Zm3 ZP .bool)],[⟨.ret,[(2,.v .bool)],[.var (.v yTx) true,.map 178 ZP .bool],[.bool,yTx,(Zm3 ZP .bool)]⟩,⟨.exit 0,[(1,.ref 0 [])],[.var (.v yTx) true,.map 178 ZP .bool],[yTx,(Zm3 ZP .bool)]⟩],Zb (XJ yD) yD⟩
theorem Zud:Zq1.okA yb 72 0:=Zu { still:=[2,57,73,75,83]} [] [Zh1] ⟨Zmk,ytt⟩
def Wv(F:Nat)(s:(Int×(yL Out)×Int×Int×Tx×(yL (ZS×Bool)))):yO ((Int×(yL Out)×Int×Int×Tx×(yL (ZS×Bool)))⊕((Bool×Tx×(yL (ZS×Bool)))⊕(Tx×(yL (ZS×Bool))))):=
 if(decide (s.2.2.2.1 < s.2.2.1))=true then
  (idx s.2.1 s.2.2.2.1).bind λe427=>
  (ZaI F s.1 e427.1).bind λo428=>
  if(!o428.2)=true then
   some (.inr (.inl (false,s.2.2.2.2.1,s.2.2.2.2.2)))
  else
  (Ws F e427.2).bind λo429=>
  if(!o429)=true then
   some (.inr (.inl (false,s.2.2.2.2.1,s.2.2.2.2.2)))
  else
  some (.inl (o428.1,s.2.1,s.2.2.1,wi (s.2.2.2.1+1),s.2.2.2.2.1,s.2.2.2.2.2))
 else
 some (.inr (.inr (s.2.2.2.2.1,s.2.2.2.2.2)))
def Zq2:Lp:=⟨[(6,.v yI),(66,.v (.sl Xi)),(67,.v yI),(68,.v yI)],[.var (.v yTx) true,.map 178 ZP .bool],[yI,(.sl Xi),yI,yI,yTx,(Zm3 ZP .bool)],[⟨.ret,[(2,.v .bool)],[.var (.v yTx) true,.map 178 ZP .bool],[.bool,yTx,(Zm3 ZP .bool)]⟩,⟨.exit 2,[],[.var (.v yTx) true,.map 178 ZP .bool],[yTx,(Zm3 ZP .bool)]⟩],Zb (Wv yD) yD⟩
theorem Zue:Zq2.okA yb 72 1:=Zu { still:=[2,57,73,75,83]} [] [ZpJ,ZdN] ⟨Zm9,Zb7,ytt⟩
def VK(F:Nat)(a0:Tx):yO (Bool):=
 if(decide ((a0.1.length:Int) < 1))=true then
  some false
 else
 if(decide ((a0.1.length:Int) > 64))=true then
  some false
 else
 if(decide ((a0.2.1.length:Int) > 64))=true then
  some false
 else
 if(decide (a0.2.2 < 0))=true then
  some false
 else
 (Zb (XJ F) F (a0.1,(a0.1.length:Int),0,a0,([]:yL (ZS×Bool)))).bind λo424=>
 match o424 with
 |.inl o425=>
  some o425.1
 |.inr o426=>
  (Zb (Wv F) F (0,o426.1.2.1,(o426.1.2.1.length:Int),0,o426.1,o426.2)).bind λo430=>
  match o430 with
  |.inl o431=>
   some o431.1
  |.inr o432=>
   some true
def ZAY(F:Nat):Fs yb:=⟨72,[.v yTx],[],[yTx],(zN .bool),λx=>VK F x⟩
def Zh2:Fs yb:=ZAY yD
theorem Zkk:Zh2.Ok:=fnO { still:=[2,57,73,75,83]} [(0,Zq1),(1,Zq2)] [] trivial ⟨Zud,Zue,ytt⟩
def Zb8(F:Nat)(a0:(yL yB))(a1:(yL yB)):yO ((yL yB)):=
 (Q4 F a0 a1).bind λo433=>
 some o433
def ZrB(F:Nat):Fs yb:=⟨117,[.v (.sl .u8),.v (.arr 32 .u8)],[],[(.sl .u8),(.arr 32 .u8)],(zN (.sl .u8)),λx=>Zb8 F x.1 x.2⟩
def Zkl:Fs yb:=ZrB yD
theorem ZrC:Zkl.Ok:=fnO { still:=[4,5,6],frz:=[6]} [] [ZfK] ⟨ZhZ,ytt⟩
def ZaT(F:Nat)(a0:(yL yB))(a1:(yL yB)):yO ((yL yB)):=
 (Zg1 F (a1.length:Int)).bind λo434=>
 (YM F [a0,o434,a1]).bind λo435=>
 some o435
def Zp7(F:Nat):Fs yb:=⟨118,[.v (.sl .u8),.v (.sl .u8)],[],[(.sl .u8),(.sl .u8)],(zN (.sl .u8)),λx=>ZaT F x.1 x.2⟩
def ZiN:Fs yb:=Zp7 yD
theorem Zp8:ZiN.Ok:=fnO { still:=[4,7,10]} [] [Zne,Wd] ⟨Zq0,Qa,ytt⟩
def ZdP(F:Nat)(s:((yL yB)×(yL In)×Int×Int×Tx)):yO (((yL yB)×(yL In)×Int×Int×Tx)⊕((yL yB)×Tx)):=
 if(decide (s.2.2.2.1 < s.2.2.1))=true then
  (idx s.2.1 s.2.2.2.1).bind λe437=>
  (Zb8 F s.1 e437.1.1).bind λo438=>
  (Wl F o438 e437.1.2).bind λo439=>
  some (.inl (o439,s.2.1,s.2.2.1,wi (s.2.2.2.1+1),s.2.2.2.2))
 else
 some (.inr (s.1,s.2.2.2.2))
def Zq3:Lp:=⟨[(1,.ref 0 []),(3,.v (.sl .u8)),(13,.v (.sl yIn)),(14,.v yI),(15,.v yI)],[.var (.v yTx) true],[(.sl .u8),(.sl yIn),yI,yI,yTx],[⟨.exit 0,[(1,.ref 0 []),(3,.v (.sl .u8))],[.var (.v yTx) true],[(.sl .u8),yTx]⟩],Zb (ZdP yD) yD⟩
def ZMz:HI:={ still:=[2,10,19,22,23,26,29,32,41,43,44,46,47,50,52]}
theorem Zuf:Zq3.okA yb 74 0:=Zu ZMz [] [Zkl,ZbT] ⟨ZrC,Zcq,ytt⟩
def ZdQ(F:Nat)(s:((yL yB)×(yL Out)×Int×Int×Tx)):yO (((yL yB)×(yL Out)×Int×Int×Tx)⊕((yL yB)×Tx)):=
 if(decide (s.2.2.2.1 < s.2.2.1))=true then
  (idx s.2.1 s.2.2.2.1).bind λe442=>
  (Wl F s.1 e442.1).bind λo443=>
  (Zcr F e442.2).bind λo444=>
  (ZaT F o443 o444).bind λo445=>
  some (.inl (o445,s.2.1,s.2.2.1,wi (s.2.2.2.1+1),s.2.2.2.2))
 else
 some (.inr (s.1,s.2.2.2.2))
def Zq4:Lp:=⟨[(1,.ref 0 []),(3,.v (.sl .u8)),(35,.v (.sl Xi)),(36,.v yI),(37,.v yI)],[.var (.v yTx) true],[(.sl .u8),(.sl Xi),yI,yI,yTx],[⟨.exit 2,[(1,.ref 0 []),(3,.v (.sl .u8))],[.var (.v yTx) true],[(.sl .u8),yTx]⟩],Zb (ZdQ yD) yD⟩
theorem Zug:Zq4.okA yb 74 1:=Zu ZMz [] [ZbT,Zh0,ZiN] ⟨Zcq,Zmh,Zp8,ytt⟩
def Zlr(F:Nat)(a0:Tx):yO ((yL yB)):=
 (Wl F [] (a0.1.length:Int)).bind λo436=>
 (Zb (ZdP F) F (o436,a0.1,(a0.1.length:Int),0,a0)).bind λo440=>
 (Wl F o440.1 (o440.2.2.1.length:Int)).bind λo441=>
 (Zb (ZdQ F) F (o441,o440.2.2.1,(o440.2.2.1.length:Int),0,o440.2)).bind λo446=>
 (Wl F o446.1 o446.2.2.2).bind λo447=>
 some o447
def ZAZ(F:Nat):Fs yb:=⟨74,[.v yTx],[],[yTx],(zN (.sl .u8)),λx=>Zlr F x⟩
def Zuh:Fs yb:=ZAZ yD
theorem ZA0:Zuh.Ok:=fnO ZMz [(0,Zq3),(1,Zq4)] [ZbT] ⟨Zcq,ytt⟩ ⟨Zuf,Zug,ytt⟩
def ZLb:ByteArray:=⟨#[116,120]⟩
def Zp9(F:Nat)(a0:Tx):yO ((yL yB)):=
 (VK F a0).bind λo448=>
 if(!o448)=true then
  some yzz
 else
 (Zlr F a0).bind λo449=>
 (VI F ZLb [o449]).bind λo450=>
 some o450
def ZIc(F:Nat):Fs yb:=⟨26,[.v yTx],[],[yTx],(zN (.arr 32 .u8)),λx=>Zp9 F x⟩
def ZyG:Fs yb:=ZIc yD
theorem ZA1:ZyG.Ok:=fnO { still:=[3,7,9]} [] [Zh2,Zuh,V6] ⟨Zkk,ZA0,V7,ytt⟩
def Zai(F:Nat)(s:(Int×Int×Tx×(yL ZS)×(yL yB))):yO ((Int×Int×Tx×(yL ZS)×(yL yB))⊕(Tx×(yL ZS)×(yL yB))):=
 if(decide (s.2.1 < s.1))=true then
  if(apB s.2.2.2.1.length 1 40)=true then
   let y453:(yL ZS):=s.2.2.2.1++([(s.2.2.2.2,s.2.1)]:yL ZS)
   some (.inl (s.1,wi (s.2.1+1),s.2.2.1,y453,s.2.2.2.2))
  else
  none
 else
 some (.inr (s.2.2.1,s.2.2.2.1,s.2.2.2.2))
def Zui:Lp:=⟨[(2,.own 1 ZP),(3,.ref 2 []),(12,.v yI),(13,.v yI)],[.var (.v yTx) true,.log ZP 25,.var (.v (.arr 32 .u8)) true],[yI,yI,yTx,(.sl ZP),(.arr 32 .u8)],[⟨.exit 0,[(2,.own 1 ZP)],[.var (.v yTx) true,.log ZP 25,.var (.v (.arr 32 .u8)) true],[yTx,(.sl ZP),(.arr 32 .u8)]⟩],Zb (Zai yD) yD⟩
def ZNI:HI:={ own:=[2,16,21,23],still:=[2,5,7]}
theorem Zvx:Zui.okA yb 49 0:=Zu ZNI [] [] trivial
def Zkm(F:Nat)(a0:Tx):yO ((yL ZS)):=
 (Zp9 F a0).bind λo451=>
 (VK F a0).bind λo452=>
 if(!o452)=true then
  some []
 else
 (Zb (Zai F) F ((a0.2.1.length:Int),0,a0,[],o451)).bind λo454=>
 some o454.2.1
def ZC2(F:Nat):Fs yb:=⟨49,[.v yTx],[],[yTx],(zN (.sl ZP)),λx=>Zkm F x⟩
def ZwI:Fs yb:=ZC2 yD
theorem ZC3:ZwI.Ok:=fnO ZNI [(0,Zui)] [ZyG,Zh2] ⟨ZA1,Zkk,ytt⟩ ⟨Zvx,ytt⟩
def ZfO(F:Nat)(a0:(yL Branch)):yO ((yL Branch)):=
 if(apB 0 a0.length 48)=true then
  some a0
 else
 none
def Zvy(F:Nat):Fs yb:=⟨92,[.sl true Zk],[],[(.sl Zk)],(zN (.sl Zk)),λx=>ZfO F x⟩
def ZyH:Fs yb:=Zvy yD
theorem Zvz:ZyH.Ok:=fnO { own:=[5,7],still:=[2]} [] [] trivial
def Zkn(F:Nat):yO ((yL Branch)):=
 some []
def Zqa(F:Nat):Fs yb:=⟨92,[.nil Zk],[],[],(zN (.sl Zk)),λx=>Zkn F⟩
def ZrD:Fs yb:=Zqa yD
theorem Zqb:ZrD.Ok:=fnO { own:=[5,7],still:=[2]} [] [] trivial
def ZrE(F:Nat):Fs yb:=⟨92,[.v (.sl Zk)],[],[(.sl Zk)],(zN (.sl Zk)),λx=>ZfO F x⟩
def Zuj:Fs yb:=ZrE yD
theorem ZrF:Zuj.Ok:=Zyg (t:=Zk) (xs:=(zN (.sl Zk))) (MA:=λ(x:(yL Branch))=>ZfO yD x) (MB:=λ_=>Zkn yD) Zvz Zqb rfl
def ZaU(F:Nat)(a0:(yL Branch)):yO (((yL Unit)×(yL Branch))):=
 if(apB 0 a0.length 48)=true then
  some ([()],a0)
 else
 none
def Zqc(F:Nat):Fs yb:=⟨92,[.sl true Zk],[],[(.sl Zk)],[⟨.ret,[(0,.rw 0)],[.row Zk true 113],[(.sl (.st [])),(.sl Zk)]⟩],λx=>ZaU F x⟩
def ZrG:Fs yb:=Zqc yD
theorem Zqd:ZrG.Ok:=fnO { own:=[5,7],rowt:=[2,5,7]} [] [] trivial
def Qs(F:Nat)(a0:(yL Branch)):yO (((yL Unit)×(yL Branch))):=if a0.isEmpty=true then none else ZaU F a0
def Zng(F:Nat):Fs yb:=⟨92,[.v (.sl Zk)],[],[(.sl Zk)],[⟨.ret,[(0,.rw 0)],[.row Zk true 113],[(.sl (.st [])),(.sl Zk)]⟩],λx=>Qs F x⟩
def ZfP:Fs yb:=Zng yD
theorem ZeO:ZfP.Ok:=Zym (t:=Zk) (xs:=[⟨.ret,[(0,.rw 0)],[.row Zk true 113],[(.sl (.st [])),(.sl Zk)]⟩]) (MA:=λ(x:(yL Branch))=>ZaU yD x) Zqd rfl (λ_ _=>rfl)
def ZaV(F:Nat)(a0:(yL Branch)):yO (((yL Unit)×(yL Branch))⊕(yL Branch)):=if a0.isEmpty=true then(ZfO F a0).map Sum.inr else(Qs F a0).map Sum.inl
def ZlC(F:Nat):Fs yb:=⟨92,[.v (.sl Zk)],[],[(.sl Zk)],[⟨.ret,[(0,.rw 0)],[.row Zk true 113],[(.sl (.st [])),(.sl Zk)]⟩,⟨.ret,[(0,.v (.sl Zk))],[],[(.sl Zk)]⟩],λx=>ZaV F x⟩
def ZeP:Fs yb:=ZlC yD
theorem ZlD:ZeP.Ok:=ZNo (ins:=[(.sl Zk)]) (λx:(yL Branch)=>x.isEmpty) ZeO ZrF
def XU(F:Nat)(s:(Int×Int×Int×Out×(yL Unit)×(yL Branch))):yO ((Int×Int×Int×Out×(yL Unit)×(yL Branch))⊕(Int×Out×(yL Unit)×(yL Branch))):=
 if(decide (s.2.1 < s.1))=true then
  if(inB s.2.1 s.2.2.2.2.2.length)=true then
   (s.2.2.2.2.2[s.2.1.toNat]?).bind λe464=>
   (Vk F e464.1).bind λo465=>
   if(inB s.2.1 s.2.2.2.2.2.length)=true then
    (s.2.2.2.2.2[s.2.1.toNat]?).bind λe466=>
    let y467:(yL Branch):=s.2.2.2.2.2.set s.2.1.toNat (o465,e466.2.1,e466.2.2.1,e466.2.2.2)
    some (.inl (s.1,wi (s.2.1+1),s.2.2.1,s.2.2.2.1,s.2.2.2.2.1,y467))
   else
   none
  else
  none
 else
 some (.inr (s.2.2.1,s.2.2.2.1,s.2.2.2.2.1,s.2.2.2.2.2))
def ZiO:Lp:=⟨[(1,.ref 0 []),(2,.ref 1 []),(13,.rw 2),(14,.v yI),(15,.v yI)],[.var (.agg [.v yI,.agg [.rw 2]]) true,.var (.v Xi) true,.row Zk true 113],[yI,yI,yI,Xi,(.sl (.st [])),(.sl Zk)],[⟨.exit 0,[(1,.ref 0 []),(2,.ref 1 [])],[.var (.agg [.v yI,.agg [.rw 2]]) true,.var (.v Xi) true,.row Zk true 113],[yI,Xi,(.sl (.st [])),(.sl Zk)]⟩],Zb (XU yD) yD⟩
def ZMA:HI:={ still:=[7,25],rowt:=[8,22],deep:=[75]}
theorem Znh:ZiO.okA yb 51 0:=Zu ZMA [] [QH] ⟨ZaF,ytt⟩
def ZeQ(F:Nat)(s:((yL Branch)×Int×Int×Out×Out)):yO (((yL Branch)×Int×Int×Out×Out)⊕(Out×Out)):=
 if(decide (s.2.2.1 < s.2.1))=true then
  (idx s.1 s.2.2.1).bind λe470=>
  (Vk F e470.1).bind λo471=>
  (idx s.2.2.2.1.2 s.2.2.1).bind λe472=>
  none
 else
 some (.inr (s.2.2.2.1,s.2.2.2.2))
def ZfQ:Lp:=⟨[(1,.ref 0 []),(2,.ref 1 []),(13,.v (.sl Zk)),(14,.v yI),(15,.v yI)],[.var (.v Xi) true,.var (.v Xi) true],[(.sl Zk),yI,yI,Xi,Xi],[⟨.exit 0,[(1,.ref 0 []),(2,.ref 1 [])],[.var (.v Xi) true,.var (.v Xi) true],[Xi,Xi]⟩],Zb (ZeQ yD) yD⟩
theorem Zko:ZfQ.okA yb 51 0:=Zu ZMA [] [QH] ⟨ZaF,ytt⟩
def QK(F:Nat)(a0:Out):yO (Out):=
 (ZaV F a0.2).bind λo462=>
 match o462 with
 |.inl o463=>
  (Zb (XU F) F ((o463.2.length:Int),0,a0.1,(0,[]),o463.1,o463.2)).bind λo468=>
  some (o468.1,o468.2.2.2)
 |.inr o469=>
  (Zb (ZeQ F) F (o469,(o469.length:Int),0,(a0.1,o469),(0,[]))).bind λo473=>
  some o473.1
def ZrH(F:Nat):Fs yb:=⟨51,[.v Xi],[],[Xi],(zN Xi),λx=>QK F x⟩
def ZeR:Fs yb:=ZrH yD
theorem ZiP:ZeR.Ok:=ZEe (fi:={ hi:=ZMA,lp:=[(0,ZiO),(0,ZfQ)]}) (specs:={ l:=[ZeP]}) (okS ⟨ZlD,ytt⟩) ⟨Znh,Zko,ytt⟩
def ZaW(F:Nat)(a0:Out)(a1:Int)(a2:Int):yO (Int):=
 (idx a0.2 a1).bind λe474=>
 some (ZzR e474.2.1 (wi (a2+e474.2.2.1)))
def Zuk(F:Nat):Fs yb:=⟨52,[.v Xi,.v yI,.v yI],[],[Xi,yI,yI],(zN yI),λx=>ZaW F x.1 x.2.1 x.2.2⟩
def Zml:Fs yb:=Zuk yD
theorem Zul:Zml.Ok:=fnO { still:=[6]} [] [] trivial
def XV(F:Nat)(s:(yU×(yL yU)×Int×Int)):yO ((yU×(yL yU)×Int×Int)⊕((yU×Bool)⊕Unit)):=
 if(decide (s.2.2.2 < s.2.2.1))=true then
  (idx s.2.1 s.2.2.2).bind λe475=>
  (Ya F e475).bind λo476=>
  if(o476==s.1)=true then
   some (.inr (.inl (e475,true)))
  else
  some (.inl (s.1,s.2.1,s.2.2.1,wi (s.2.2.2+1)))
 else
 some (.inr (.inr ()))
def ZiQ:Lp:=⟨[(1,.v .u64),(8,.v (.sl .u64)),(9,.v yI),(10,.v yI)],[],[.u64,(.sl .u64),yI,yI],[⟨.ret,[(4,.v .u64),(5,.v .bool)],[],[.u64,.bool]⟩,⟨.exit 0,[],[],[]⟩],Zb (XV yD) yD⟩
theorem Zni:ZiQ.okA yb 53 0:=Zu { still:=[4,5,14]} [] [Wr] ⟨XP,ytt⟩
def Zb9(F:Nat)(a0:(yL yU))(a1:yU):yO ((yU×Bool)):=
 (Zb (XV F) F (a1,a0,(a0.length:Int),0)).bind λo477=>
 match o477 with
 |.inl o478=>
  some (o478.1,o478.2)
 |.inr o479=>
  some (0,false)
def ZrI(F:Nat):Fs yb:=⟨53,[.v (.sl .u64),.v .u64],[],[(.sl .u64),.u64],[⟨.ret,[(0,.tup [.v .u64,.v .bool])],[],[.u64,.bool]⟩],λx=>Zb9 F x.1 x.2⟩
def Zkp:Fs yb:=ZrI yD
theorem ZrJ:Zkp.Ok:=fnO { still:=[4,5,14]} [(0,ZiQ)] [] trivial ⟨Zni,ytt⟩
abbrev XW:Ty:=(.st [.u64,.u64,.u64,.u64,.u64,(.arr 32 .u8)])
abbrev Kit:Type:=(yU×yU×yU×yU×yU×(yL yB))
abbrev Kit.Cond(x:Kit):yU:=x.2.2.2.1
abbrev Zn:Ty:=(.st [ZP,Xi,yI,.u64,yI,yI])
abbrev Zv:Type:=(ZS×Out×Int×yU×Int×Int)
abbrev Zv.Branch(x:Zv):Int:=x.2.2.1
abbrev ZwJ:Ty:=(.st [yI,.bool])
abbrev ZA2:Type:=(Int×Bool)
def Zkq(F:Nat):yO (yL ((yL Int)×ZA2)):=some [([1,1],(1,false)),([5,1],(2,false)),([5,0],(1,true)),([6,1],(1,true)),([6,0],(2,false))]
def ZvA(F:Nat):Fs yb:=⟨50,[],[.gone],[],[⟨.ret,[(0,.mp 0)],[.map 125 (.arr 2 yI) ZwJ],[(Zm3 (.arr 2 yI) ZwJ)]⟩],λx=>Zkq F⟩
def ZoN:Fs yb:=ZvA yD
theorem ZvB:ZoN.Ok:=ZKi λ_=>rfl
abbrev dT3:Type:=(Int×(yL yU)×Int×(yL ZS)×(yL ZbS)×Int×Int×Chan×Kit×Commit×(yL Zv))
def Qc(F:Nat)(s:dT3):yO (dT3⊕(Chan×Kit×Commit×(yL Zv))):=
 if(decide (s.2.2.2.2.2.2.1 < s.2.2.2.2.2.1))=true then
  (idx s.2.2.2.2.1 s.2.2.2.2.2.2.1).bind λe482=>
  (Zkq F).bind λo483=>
  ZqF (Zdv o483 ([e482.1,s.2.2.1]:yL Int)) (λe484=>
   (idx s.2.2.2.2.2.2.2.2.2.1.1.2.1 s.2.2.2.2.2.2.1).bind λe485=>
   (idx s.2.2.2.1 s.2.2.2.2.2.2.1).bind λe486=>
   (QK F e485).bind λo487=>
   (ZaW F e485 e484.1 s.1).bind λo488=>
   if e484.2=true then
    (Zb9 F s.2.1 e482.2.2.2.2.1).bind λo489=>
    if(!o489.2)=true then
     some (.inl (s.1,s.2.1,s.2.2.1,s.2.2.2.1,s.2.2.2.2.1,s.2.2.2.2.2.1,wi (s.2.2.2.2.2.2.1+1),s.2.2.2.2.2.2.2.1,s.2.2.2.2.2.2.2.2.1,s.2.2.2.2.2.2.2.2.2.1,s.2.2.2.2.2.2.2.2.2.2))
    else
    (ZaW F e485 2 s.1).bind λo490=>
    if(apB s.2.2.2.2.2.2.2.2.2.2.length 1 104)=true then
     let y491:(yL Zv):=s.2.2.2.2.2.2.2.2.2.2++([(e486,o487,e484.1,o489.1,o488,o490)]:yL Zv)
     some (.inl (s.1,s.2.1,s.2.2.1,s.2.2.2.1,s.2.2.2.2.1,s.2.2.2.2.2.1,wi (s.2.2.2.2.2.2.1+1),s.2.2.2.2.2.2.2.1,s.2.2.2.2.2.2.2.2.1,s.2.2.2.2.2.2.2.2.2.1,y491))
    else
    none
   else
   if(apB s.2.2.2.2.2.2.2.2.2.2.length 1 104)=true then
    let y492:(yL Zv):=s.2.2.2.2.2.2.2.2.2.2++([(e486,o487,e484.1,0,o488,0)]:yL Zv)
    some (.inl (s.1,s.2.1,s.2.2.1,s.2.2.2.1,s.2.2.2.2.1,s.2.2.2.2.2.1,wi (s.2.2.2.2.2.2.1+1),s.2.2.2.2.2.2.2.1,s.2.2.2.2.2.2.2.2.1,s.2.2.2.2.2.2.2.2.2.1,y492))
   else
   none) (
   some (.inl (s.1,s.2.1,s.2.2.1,s.2.2.2.1,s.2.2.2.2.1,s.2.2.2.2.2.1,wi (s.2.2.2.2.2.2.1+1),s.2.2.2.2.2.2.2.1,s.2.2.2.2.2.2.2.2.1,s.2.2.2.2.2.2.2.2.2.1,s.2.2.2.2.2.2.2.2.2.2)))
 else
 some (.inr (s.2.2.2.2.2.2.2.1,s.2.2.2.2.2.2.2.2.1,s.2.2.2.2.2.2.2.2.2.1,s.2.2.2.2.2.2.2.2.2.2))
abbrev tL4:yL Ty:=[yI,(.sl .u64),yI,(.sl ZP),(.sl Zg0),yI,yI,ZK,XW,ZL,(.sl Zn)]
def Zmm:Lp:=⟨[(6,.v yI),(7,.v (.sl .u64)),(12,.ref 2 []),(16,.own 3 Zn),(17,.v yI),(18,.v (.sl ZP)),(54,.v (.sl Zg0)),(55,.v yI),(56,.v yI)],[.var (.v ZK) true,.var (.v XW) true,.var (.v ZL) true,.log Zn 77],tL4,[⟨.exit 0,[(16,.own 3 Zn)],[.var (.v ZK) true,.var (.v XW) true,.var (.v ZL) true,.log Zn 77],[ZK,XW,ZL,(.sl Zn)]⟩],Zb (Qc yD) yD⟩
def ZNJ:HI:={ own:=[16,109,112,114],still:=[16,34,51,82,86,88,89,95,98,105,106]}
theorem Zqe:Zmm.okA yb 9 0:=Zyf (fi:={ hi:=ZNJ,gh:=[(4,.hole)]}) (specs:={ l:=[ZoN,ZeR,Zml,Zkp]}) (okS ⟨ZvB,ZiP,Zul,ZrJ,ytt⟩)
def ZfR(F:Nat)(a0:Chan)(a1:Kit)(a2:Int)(a3:Int)(a4:Commit)(a5:yU)(a6:Int)(a7:(yL yU)):yO ((yL Zv)):=
 if((bits .andNot .i64 a2 1)!=0)=true then
  some []
 else
 if((bits .andNot .i64 a3 1)!=0)=true then
  some []
 else
 (XI F a5).bind λo480=>
 if(!o480)=true then
  some []
 else
 if(decide (a6 < 0))=true then
  some []
 else
 if(decide (a6 > 1048576))=true then
  some []
 else
 (Zkm F a4.1).bind λo481=>
 (Zb (Qc F) F (a6,a7,wi (1 - (bits .xor .i64 a2 a3)),o481,a4.2,(a4.2.length:Int),0,a0,a1,a4,[])).bind λo493=>
 some o493.2.2.2
def Zgg(F:Nat):Fs yb:=⟨9,[.v ZK,.v XW,.v yI,.v yI,.v ZL,.v .u64,.v yI,.v (.sl .u64)],[],[ZK,XW,yI,yI,ZL,.u64,yI,(.sl .u64)],(zN (.sl Zn)),λx=>ZfR F x.1 x.2.1 x.2.2.1 x.2.2.2.1 x.2.2.2.2.1 x.2.2.2.2.2.1 x.2.2.2.2.2.2.1 x.2.2.2.2.2.2.2⟩
def ZoO:Fs yb:=Zgg yD
theorem Zmn:ZoO.Ok:=fnO ZNJ [(0,Zmm)] [WE,ZwI] ⟨WZ,ZC3,ytt⟩ ⟨Zqe,ytt⟩
def Zd1(F:Nat)(a0:yU):yO (yU):=
 some (a0 % 2305843009213688669)
def ZA3(F:Nat):Fs yb:=⟨141,[.v .u64],[],[.u64],(zN .u64),λx=>Zd1 F x⟩
def Znj:Fs yb:=ZA3 yD
theorem Zq5:Znj.Ok:=fnO { still:=[2]} [] [] trivial
def Zc5(F:Nat)(a0:yU)(a1:yU):yO (yU):=
 some ((a0+a1) % 2305843009213688669)
def ZoP(F:Nat):Fs yb:=⟨142,[.v .u64,.v .u64],[],[.u64,.u64],(zN .u64),λx=>Zc5 F x.1 x.2⟩
def Zg4:Fs yb:=ZoP yD
theorem ZoQ:Zg4.Ok:=fnO { still:=[4]} [] [] trivial
def ZeS(F:Nat)(a0:yU)(a1:yU):yO (yU):=
 (Zd1 F a0).bind λo494=>
 (Zd1 F a1).bind λo495=>
 (Zc5 F o494 o495).bind λo496=>
 some o496
def ZyI(F:Nat):Fs yb:=⟨99,[.v .u64,.v .u64],[],[.u64,.u64],(zN .u64),λx=>ZeS F x.1 x.2⟩
def Zkr:Fs yb:=ZyI yD
theorem ZoR:Zkr.Ok:=fnO { still:=[4,5,6,7,8]} [] [Znj,Zg4] ⟨Zq5,ZoQ,ytt⟩
def VF(F:Nat)(a0:yU)(a1:yU):yO (yU):=
 (Ya F a0).bind λo497=>
 (Vn F ZAR [a1,o497]).bind λo498=>
 (ZeS F a0 o498).bind λo499=>
 some o499
def ZoS(F:Nat):Fs yb:=⟨59,[.v .u64,.v .u64],[],[.u64,.u64],(zN .u64),λx=>VF F x.1 x.2⟩
def Zg5:Fs yb:=ZoS yD
theorem ZoT:Zg5.Ok:=fnO { still:=[4,5,7,9,10]} [] [Wr,Zb6,Zkr] ⟨XP,ZeC,ZoR,ytt⟩
def W3(F:Nat)(s:(yU×(yL Zv)×Int×Int×Kit×Commit×(yL Unit)×(yL yU))):yO ((yU×(yL Zv)×Int×Int×Kit×Commit×(yL Unit)×(yL yU))⊕(Kit×Commit×(yL Unit)×(yL yU))):=
 if(decide (s.2.2.2.1 < s.2.2.1))=true then
  (idx s.2.1 s.2.2.2.1).bind λe500=>
  if(decide (e500.1.2 < 0))=true then
   some (.inl (s.1,s.2.1,s.2.2.1,wi (s.2.2.2.1+1),s.2.2.2.2.1,s.2.2.2.2.2.1,s.2.2.2.2.2.2.1,s.2.2.2.2.2.2.2))
  else
  let y501:Bool:=decide (e500.1.2 >= (s.2.2.2.2.2.1.2.length:Int))
  if y501=true then
   some (.inl (s.1,s.2.1,s.2.2.1,wi (s.2.2.2.1+1),s.2.2.2.2.1,s.2.2.2.2.2.1,s.2.2.2.2.2.2.1,s.2.2.2.2.2.2.2))
  else
  (idx s.2.2.2.2.2.1.2 e500.1.2).bind λe502=>
  if(e502.1==1)=true then
   (VF F s.2.2.2.2.1.2.2.1 s.1).bind λo503=>
   if(inB s.2.2.2.1 s.2.2.2.2.2.2.2.length)=true then
    (s.2.2.2.2.2.2.2[s.2.2.2.1.toNat]?).bind λe504=>
    some (.inl (s.1,s.2.1,s.2.2.1,wi (s.2.2.2.1+1),s.2.2.2.2.1,s.2.2.2.2.2.1,s.2.2.2.2.2.2.1,s.2.2.2.2.2.2.2.set s.2.2.2.1.toNat o503))
   else
   none
  else
  (VF F s.2.2.2.2.1.2.2.2.1 s.1).bind λo505=>
  if(inB s.2.2.2.1 s.2.2.2.2.2.2.2.length)=true then
   (s.2.2.2.2.2.2.2[s.2.2.2.1.toNat]?).bind λe506=>
   some (.inl (s.1,s.2.1,s.2.2.1,wi (s.2.2.2.1+1),s.2.2.2.2.1,s.2.2.2.2.2.1,s.2.2.2.2.2.2.1,s.2.2.2.2.2.2.2.set s.2.2.2.1.toNat o505))
  else
  none
 else
 some (.inr (s.2.2.2.2.1,s.2.2.2.2.2.1,s.2.2.2.2.2.2.1,s.2.2.2.2.2.2.2))
def Zmo:Lp:=⟨[(2,.v .u64),(4,.ref 0 []),(5,.ref 1 []),(9,.rw 2),(15,.v (.sl Zn)),(16,.v yI),(17,.v yI)],[.var (.v XW) true,.var (.v ZL) true,.row .u64 true 36],[.u64,(.sl Zn),yI,yI,XW,ZL,(.sl (.st [])),(.sl .u64)],[⟨.exit 0,[(9,.rw 2)],[.var (.v XW) true,.var (.v ZL) true,.row .u64 true 36],[XW,ZL,(.sl (.st [])),(.sl .u64)]⟩],Zb (W3 yD) yD⟩
def ZNK:HI:={ still:=[8,25,26,56,57],rowt:=[9,14,22,53],mkn:=[14]}
theorem Zqf:Zmo.okA yb 11 0:=Zu ZNK [] [Zg5] ⟨ZoT,ytt⟩
def ZfS(F:Nat)(a0:Kit)(a1:Commit)(a2:yU)(a3:(yL Zv)):yO ((yL yU)):=
 if((decide ((a3.length:Int)=(a3.length:Int)))&&(ZgO (a3.length:Int) 8))=true then
  (Zb (W3 F) F (a2,a3,(a3.length:Int),0,a0,a1,[],yv ((a3.length:Int).toNat) (0:yU))).bind λo507=>
  some o507.2.2.2
 else
 none
def Zgh(F:Nat):Fs yb:=⟨11,[.v XW,.v ZL,.v .u64,.v (.sl Zn)],[],[XW,ZL,.u64,(.sl Zn)],(zN (.sl .u64)),λx=>ZfS F x.1 x.2.1 x.2.2.1 x.2.2.2⟩
def ZoU:Fs yb:=Zgh yD
theorem Zmp:ZoU.Ok:=fnO ZNK [(0,Zmo)] [] trivial ⟨Zqf,ytt⟩
def W4(F:Nat)(s:(Int×(yL Zv)×Int×Int)):yO ((Int×(yL Zv)×Int×Int)⊕Int):=
 if(decide (s.2.2.2 < s.2.2.1))=true then
  (idx s.2.1 s.2.2.2).bind λe508=>
  some (.inl (ZzR s.1 e508.2.2.2.2.1,s.2.1,s.2.2.1,wi (s.2.2.2+1)))
 else
 some (.inr s.1)
def Zmq:Lp:=⟨[(2,.v yI),(5,.v (.sl Zn)),(6,.v yI),(7,.v yI)],[],[yI,(.sl Zn),yI,yI],[⟨.exit 0,[(2,.v yI)],[],[yI]⟩],Zb (W4 yD) yD⟩
theorem Zqg:Zmq.okA yb 14 0:=Zu { still:=[2]} [] [] trivial
def ZfT(F:Nat)(a0:(yL Zv)):yO (Int):=
 (Zb (W4 F) F (0,a0,(a0.length:Int),0)).bind λo509=>
 some o509
def Zgi(F:Nat):Fs yb:=⟨14,[.v (.sl Zn)],[],[(.sl Zn)],(zN yI),λx=>ZfT F x⟩
def ZoV:Fs yb:=Zgi yD
theorem Zmr:ZoV.Ok:=fnO { still:=[2]} [(0,Zmq)] [] trivial ⟨Zqg,ytt⟩
def ZdR(F:Nat)(a0:Zv)(a1:Int):yO (Bool):=
 if(decide (a0.2.2.2.2.1<=a1))=true then
  if(a0.2.2.2.2.2==0)=true then
   some true
  else
  some (decide (a1 < a0.2.2.2.2.2))
 else
 some false
def ZeT(F:Nat):Fs yb:=⟨31,[.v Zn,.v yI],[],[Zn,yI],(zN .bool),λx=>ZdR F x.1 x.2⟩
def Zms:Fs yb:=ZeT yD
theorem Zks:Zms.Ok:=fnO { still:=[4]} [] [] trivial
def W5(F:Nat)(s:(Int×(yL Zv)×Int×Int×(yL Zv))):yO ((Int×(yL Zv)×Int×Int×(yL Zv))⊕(yL Zv)):=
 if(decide (s.2.2.2.1 < s.2.2.1))=true then
  (idx s.2.1 s.2.2.2.1).bind λe510=>
  (ZdR F e510 s.1).bind λo511=>
  if o511=true then
   (QK F e510.2.1).bind λo512=>
   if(apB s.2.2.2.2.length 1 104)=true then
    let y513:(yL Zv):=s.2.2.2.2++([(e510.1,o512,e510.2.2.1,e510.2.2.2.1,e510.2.2.2.2.1,e510.2.2.2.2.2)]:yL Zv)
    some (.inl (s.1,s.2.1,s.2.2.1,wi (s.2.2.2.1+1),y513))
   else
   none
  else
  some (.inl (s.1,s.2.1,s.2.2.1,wi (s.2.2.2.1+1),s.2.2.2.2))
 else
 some (.inr s.2.2.2.2)
def Zmt:Lp:=⟨[(1,.v yI),(4,.own 0 Zn),(7,.v (.sl Zn)),(8,.v yI),(9,.v yI)],[.log Zn 77],[yI,(.sl Zn),yI,yI,(.sl Zn)],[⟨.exit 0,[(4,.own 0 Zn)],[.log Zn 77],[(.sl Zn)]⟩],Zb (W5 yD) yD⟩
def ZNL:HI:={ own:=[4,20,23,25],still:=[4,13,14,17]}
theorem Zqh:Zmt.okA yb 16 0:=Zu ZNL [] [Zms,ZeR] ⟨Zks,ZiP,ytt⟩
def ZfU(F:Nat)(a0:(yL Zv))(a1:Int):yO ((yL Zv)):=
 (Zb (W5 F) F (a1,a0,(a0.length:Int),0,[])).bind λo514=>
 some o514
def Zgj(F:Nat):Fs yb:=⟨16,[.v (.sl Zn),.v yI],[],[(.sl Zn),yI],(zN (.sl Zn)),λx=>ZfU F x.1 x.2⟩
def ZoW:Fs yb:=Zgj yD
theorem Zmu:ZoW.Ok:=fnO ZNL [(0,Zmt)] [] trivial ⟨Zqh,ytt⟩
def ZA4(F:Nat)(a0:(yL yB)):yO (yU):=
 (Vc F a0).bind λo515=>
 (Ya F o515).bind λo516=>
 some o516
def Zgk(F:Nat):Fs yb:=⟨21,[.v (.arr 32 .u8)],[],[(.arr 32 .u8)],(zN .u64),λx=>ZA4 F x⟩
def ZyJ:Fs yb:=Zgk yD
theorem ZvC:ZyJ.Ok:=fnO { still:=[2,3,4]} [] [Qo,Wr] ⟨QI,XP,ytt⟩
def Zh3(F:Nat)(a0:yU):yO (Bool):=
 some (decide (a0 < 2305843009213688669))
def ZeU(F:Nat):Fs yb:=⟨69,[.v .u64],[],[.u64],(zN .bool),λx=>Zh3 F x⟩
def Zgl:Fs yb:=ZeU yD
theorem ZeV:Zgl.Ok:=fnO { still:=[2]} [] [] trivial
def Zum(F:Nat)(a0:yU):yO (Bool):=
 if(a0==0)=true then
  some true
 else
 (Zh3 F a0).bind λo517=>
 some (!o517)
def ZyK(F:Nat):Fs yb:=⟨109,[.v .u64],[],[.u64],(zN .bool),λx=>Zum F x⟩
def Zq6:Fs yb:=ZyK yD
theorem ZyL:Zq6.Ok:=fnO { still:=[2,6]} [] [Zgl] ⟨ZeV,ytt⟩
def ZwK(F:Nat)(a0:yU):yO (Bool):=
 (Zh3 F a0).bind λo518=>
 if o518=true then
  some (a0 !=0)
 else
 some false
def ZA5(F:Nat):Fs yb:=⟨149,[.v .u64],[],[.u64],(zN .bool),λx=>ZwK F x⟩
def Zun:Fs yb:=ZA5 yD
theorem ZA6:Zun.Ok:=fnO { still:=[2,3]} [] [Zgl] ⟨ZeV,ytt⟩
def Zkt(F:Nat)(s:(yU×Int×Int×(yL yB))):yO ((yU×Int×Int×(yL yB))⊕(yL yB)):=
 if(decide (s.2.2.1 < s.2.1))=true then
  if(decide (0<=wi (56 - (wi (8*s.2.2.1)))))=true then
   let y519:yU:=Zw s.1 (min (wi (56 - (wi (8*s.2.2.1)))).toNat 64)
   if(inB s.2.2.1 8)=true then
    (s.2.2.2[(0+s.2.2.1.toNat)]?).bind λe520=>
    let y521:(yL yB):=s.2.2.2.set (0+s.2.2.1.toNat) (w8 (y519.toNat:Int))
    some (.inl (s.1,s.2.1,wi (s.2.2.1+1),y521))
   else
   none
  else
  none
 else
 some (.inr s.2.2.2)
def Zmv:Lp:=⟨[(0,.v .u64),(3,.view 0 [] 1 0 8),(7,.v yI),(8,.v yI)],[.var (.v (.arr 8 .u8)) true],[.u64,yI,yI,(.arr 8 .u8)],[⟨.exit 0,[(3,.view 0 [] 1 0 8)],[.var (.v (.arr 8 .u8)) true],[(.arr 8 .u8)]⟩],Zb (Zkt yD) yD⟩
theorem Zqi:Zmv.okA yb 151 0:=Zu { still:=[2]} [] [] trivial
def ZfV(F:Nat)(a0:yU):yO ((yL yB)):=
 (Zb (Zkt F) F (a0,8,0,[0,0,0,0,0,0,0,0])).bind λo522=>
 some ((o522.drop 0).take 8)
def ZvD(F:Nat):Fs yb:=⟨151,[.v .u64],[],[.u64],(zN (.sl .u8)),λx=>ZfV F x⟩
def Zh4:Fs yb:=ZvD yD
theorem Zmw:Zh4.Ok:=fnO { still:=[2]} [(0,Zmv)] [] trivial ⟨Zqi,ytt⟩
def ZNM:ByteArray:=⟨#[115,105,103]⟩
def ZiR(F:Nat)(a0:yU)(a1:yU)(a2:(yL yB)):yO (yU):=
 (ZfV F a0).bind λo523=>
 (ZfV F a1).bind λo524=>
 (VI F ZNM [o523,o524,a2]).bind λo525=>
 (Vc F o525).bind λo526=>
 some o526
def ZoX(F:Nat):Fs yb:=⟨161,[.v .u64,.v .u64,.v (.arr 32 .u8)],[],[.u64,.u64,(.arr 32 .u8)],(zN .u64),λx=>ZiR F x.1 x.2.1 x.2.2⟩
def Zg6:Fs yb:=ZoX yD
def ZN9:HI:={ still:=[6,7,9,12,13],frz:=[11]}
theorem ZoY:Zg6.Ok:=fnO ZN9 [] [Zh4,V6,Qo] ⟨Zmw,V7,QI,ytt⟩
def Zg7(F:Nat)(a0:yU)(a1:yU):yO (yU):=
 (ZfB F a0 a1).bind λo527=>
 (W9 F o527.1 o527.2 2305843009213688669).bind λo528=>
 some o528
def Znk(F:Nat):Fs yb:=⟨184,[.v .u64,.v .u64],[],[.u64,.u64],(zN .u64),λx=>Zg7 F x.1 x.2⟩
def ZfW:Fs yb:=Znk yD
theorem Znl:ZfW.Ok:=fnO { still:=[4,8,9,13,14]} [] [ZhR,ZdB] ⟨ZlZ,Zf2,ytt⟩
def Zuo(F:Nat)(a0:yU)(a1:yU):yO (yU):=
 (Zd1 F a0).bind λo529=>
 (Zd1 F a1).bind λo530=>
 (Zg7 F o529 o530).bind λo531=>
 some o531
def ZyM(F:Nat):Fs yb:=⟨174,[.v .u64,.v .u64],[],[.u64,.u64],(zN .u64),λx=>Zuo F x.1 x.2⟩
def Zq7:Fs yb:=ZyM yD
theorem ZyN:Zq7.Ok:=fnO { still:=[4,5,6,7,8]} [] [Znj,ZfW] ⟨Zq5,Znl,ytt⟩
def ZoZ(F:Nat)(a0:yU)(a1:yU)(a2:(yL yB))(a3:yU):yO (Sig):=
 (Ya F a1).bind λo532=>
 (ZbN F o532 a3).bind λo533=>
 (Ya F a0).bind λo534=>
 (ZiR F o533 o534 a2).bind λo535=>
 (Zuo F o535 a0).bind λo536=>
 (ZeS F a1 o536).bind λo537=>
 some (o533,o537)
def Zup(F:Nat):Fs yb:=⟨150,[.v .u64,.v .u64,.v (.arr 32 .u8),.v .u64],[],[.u64,.u64,(.arr 32 .u8),.u64],(zN Zcn),λx=>ZoZ F x.1 x.2.1 x.2.2.1 x.2.2.2⟩
def Zmx:Fs yb:=Zup yD
def ZOa:HI:={ still:=[9,10,11,14,16,17,18,19,20,21,22]}
theorem Zuq:Zmx.Ok:=fnO ZOa [] [Wr,ZfE,Zg6,Zq7,Zkr] ⟨XP,ZhV,ZoY,ZyN,ZoR,ytt⟩
def ZNN:ByteArray:=⟨#[110,111,110,99,101]⟩
def Zur(F:Nat)(a0:yU)(a1:(yL yB)):yO (Sig):=
 (ZwK F a0).bind λo538=>
 if(!o538)=true then
  some (0,0)
 else
 (ZfV F a0).bind λo539=>
 (VI F ZNN [o539,a1]).bind λo540=>
 (Vc F o540).bind λo541=>
 (ZoZ F a0 o541 a1 1).bind λo542=>
 some o542
def ZyO(F:Nat):Fs yb:=⟨112,[.v .u64,.v (.arr 32 .u8)],[],[.u64,(.arr 32 .u8)],(zN Zcn),λx=>Zur F x.1 x.2⟩
def Zq8:Fs yb:=ZyO yD
def ZOb:HI:={ still:=[5,9,10,13,14,15,16],frz:=[12]}
theorem ZyP:Zq8.Ok:=fnO ZOb [] [Zun,Zh4,V6,Qo,Zmx] ⟨ZA6,Zmw,V7,QI,Zuq,ytt⟩
def Zo0(F:Nat)(a0:(yL Sig)):yO ((yL Sig)):=
 if(apB 0 a0.length 16)=true then
  some a0
 else
 none
def ZC4(F:Nat):Fs yb:=⟨154,[.sl true Zcn],[],[(.sl Zcn)],(zN (.sl Zcn)),λx=>Zo0 F x⟩
def ZFJ:Fs yb:=ZC4 yD
theorem ZC5:ZFJ.Ok:=fnO { own:=[5,7],still:=[2]} [] [] trivial
def Zq9(F:Nat):yO ((yL Sig)):=
 some []
def ZvE(F:Nat):Fs yb:=⟨154,[.nil Zcn],[],[],(zN (.sl Zcn)),λx=>Zq9 F⟩
def ZyQ:Fs yb:=ZvE yD
theorem ZvF:ZyQ.Ok:=fnO { own:=[5,7],still:=[2]} [] [] trivial
def ZyR(F:Nat):Fs yb:=⟨154,[.v (.sl Zcn)],[],[(.sl Zcn)],(zN (.sl Zcn)),λx=>Zo0 F x⟩
def Zra:Fs yb:=ZyR yD
theorem ZyS:Zra.Ok:=Zyg (t:=Zcn) (xs:=(zN (.sl Zcn))) (MA:=λ(x:(yL Sig))=>Zo0 yD x) (MB:=λ_=>Zq9 yD) ZC5 ZvF rfl
def Znm(F:Nat)(a0:(yL In)):yO (((yL Unit)×(yL In))):=
 if(apB 0 a0.length 80)=true then
  some ([()],a0)
 else
 none
def ZyT(F:Nat):Fs yb:=⟨152,[.sl true yIn],[],[(.sl yIn)],[⟨.ret,[(0,.rw 0)],[.row yIn true 90],[(.sl (.st [])),(.sl yIn)]⟩],λx=>Znm F x⟩
def ZA7:Fs yb:=ZyT yD
theorem ZyU:ZA7.Ok:=fnO { own:=[5,7],rowt:=[2,5,7]} [] [] trivial
def Zo1(F:Nat)(a0:(yL In)):yO (((yL Unit)×(yL In))):=if a0.isEmpty=true then none else Znm F a0
def Zus(F:Nat):Fs yb:=⟨152,[.v (.sl yIn)],[],[(.sl yIn)],[⟨.ret,[(0,.rw 0)],[.row yIn true 90],[(.sl (.st [])),(.sl yIn)]⟩],λx=>Zo1 F x⟩
def Zmy:Fs yb:=Zus yD
theorem Zut:Zmy.Ok:=Zym (t:=yIn) (xs:=[⟨.ret,[(0,.rw 0)],[.row yIn true 90],[(.sl (.st [])),(.sl yIn)]⟩]) (MA:=λ(x:(yL In))=>Znm yD x) ZyU rfl (λ_ _=>rfl)
def Zku(F:Nat)(a0:(yL Out)):yO (((yL Unit)×(yL Out))):=
 if(apB 0 a0.length 32)=true then
  some ([()],a0)
 else
 none
def ZvG(F:Nat):Fs yb:=⟨153,[.sl true Xi],[],[(.sl Xi)],[⟨.ret,[(0,.rw 0)],[.row Xi true 75],[(.sl (.st [])),(.sl Xi)]⟩],λx=>Zku F x⟩
def ZyV:Fs yb:=ZvG yD
theorem ZvH:ZyV.Ok:=fnO { own:=[5,7],rowt:=[2,5,7]} [] [] trivial
def Zmz(F:Nat)(a0:(yL Out)):yO (((yL Unit)×(yL Out))):=if a0.isEmpty=true then none else Zku F a0
def ZrK(F:Nat):Fs yb:=⟨153,[.v (.sl Xi)],[],[(.sl Xi)],[⟨.ret,[(0,.rw 0)],[.row Xi true 75],[(.sl (.st [])),(.sl Xi)]⟩],λx=>Zmz F x⟩
def Zkv:Fs yb:=ZrK yD
theorem ZrL:Zkv.Ok:=Zym (t:=Xi) (xs:=[⟨.ret,[(0,.rw 0)],[.row Xi true 75],[(.sl (.st [])),(.sl Xi)]⟩]) (MA:=λ(x:(yL Out))=>Zku yD x) ZvH rfl (λ_ _=>rfl)
def ZKs:HI:={ still:=[8,11,30,48,61,69],rowt:=[5,9,12,22,49,55,67]}
abbrev dT4:Type:=(Int×Int×Int×Int×Int×Int×Tx×(yL Unit)×(yL In)×(yL Unit)×(yL Out)×(yL Unit)×(yL Branch))
abbrev dT5:Type:=(Int×Int×Int×Int×Tx×(yL Unit)×(yL In)×(yL Unit)×(yL Out)×(yL Unit)×(yL Branch))
abbrev tL5:yL Ty:=[yI,yI,yI,yI,yTx,(.sl (.st [])),(.sl yIn),(.sl (.st [])),(.sl Xi),(.sl (.st [])),(.sl Zk)]
abbrev tL6:yL Ty:=[yI,yI,yI,yI,yI,yI,yTx,(.sl (.st [])),(.sl yIn),(.sl (.st [])),(.sl Xi),(.sl (.st [])),(.sl Zk)]
def ZeW(F:Nat)(s:((yL yU)×Int×Int)):yO (((yL yU)×Int×Int)⊕(Int⊕Unit)):=
 if(decide (s.2.2 < s.2.1))=true then
  (idx s.1 s.2.2).bind λe579=>
  (Zum F e579).bind λo580=>
  if o580=true then
   some (.inr (.inl s.2.2))
  else
  some (.inl (s.1,s.2.1,wi (s.2.2+1)))
 else
 some (.inr (.inr ()))
def ZfX:Lp:=⟨[(0,.v (.sl .u64)),(1,.fn 109 []),(7,.v yI),(8,.v yI)],[],[(.sl .u64),yI,yI],[⟨.ret,[(4,.v yI)],[],[yI]⟩,⟨.exit 0,[],[],[]⟩],Zb (ZeW yD) yD⟩
theorem Zkw:ZfX.okA yb 148 0:=Zu { still:=[4,15]} [] [Zq6] ⟨ZyL,ytt⟩
def ZiS(F:Nat)(a0:(yL yU)):yO (Int):=
 (Zb (ZeW F) F (a0,(a0.length:Int),0)).bind λo581=>
 match o581 with
 |.inl o582=>
  some o582
 |.inr o583=>
  some (-1)
def Zo2(F:Nat):Fs yb:=⟨148,[.v (.sl .u64),.fn 109 []],[],[(.sl .u64)],(zN yI),λx=>ZiS F x⟩
def Zg8:Fs yb:=Zo2 yD
theorem Zo3:Zg8.Ok:=fnO { still:=[4,15]} [(0,ZfX)] [] trivial ⟨Zkw,ytt⟩
def Zrb(F:Nat)(a0:(yL yU)):yO (Bool):=
 (ZiS F a0).bind λo584=>
 some (decide (o584 >= 0))
def ZvI(F:Nat):Fs yb:=⟨111,[.v (.sl .u64),.fn 109 []],[],[(.sl .u64)],(zN .bool),λx=>Zrb F x⟩
def Zo4:Fs yb:=ZvI yD
theorem ZvJ:Zo4.Ok:=fnO { still:=[4,5,6]} [] [Zg8] ⟨Zo3,ytt⟩
abbrev tL7:yL Ty:=[yI,(.sl .u64),yI,yI,yTx,yTx,yI,.u64,(.sl Zcn),(.arr 32 .u8)]
abbrev zQ:=Int×Tx×(yL Unit)×(yL In)×(yL Unit)×(yL Out)
def Zg9(F:Nat)(s:(Int×Int×zQ)):yO ((Int×Int×zQ)⊕(zQ)):=
 if(decide (s.2.1 < s.1))=true then
  if(inB s.2.1 s.2.2.2.2.2.1.length)=true then
   (s.2.2.2.2.2.1[s.2.1.toNat]?).bind λe592=>
   (Zo0 F e592.2.2.1).bind λo593=>
   if(inB s.2.1 s.2.2.2.2.2.1.length)=true then
    (s.2.2.2.2.2.1[s.2.1.toNat]?).bind λe594=>
    let y595:(yL In):=s.2.2.2.2.2.1.set s.2.1.toNat (e594.1,(e594.2.1,o593,e594.2.2.2))
    some (.inl (s.1,wi (s.2.1+1),s.2.2.1,s.2.2.2.1,s.2.2.2.2.1,y595,s.2.2.2.2.2.2.1,s.2.2.2.2.2.2.2))
   else
   none
  else
  none
 else
 some (.inr (s.2.2.1,s.2.2.2.1,s.2.2.2.2.1,s.2.2.2.2.2.1,s.2.2.2.2.2.2.1,s.2.2.2.2.2.2.2))
abbrev zG:List ESh:=[.var (.agg [.rw 2,.rw 3,.v yI]) true,.var (.v yTx) true,.row yIn true 90,.row Xi true 75]
def ZiT:Lp:=⟨[(1,.ref 0 []),(2,.ref 1 []),(17,.v yI),(18,.v yI)],zG,[yI,yI,yI,yTx,(.sl (.st [])),(.sl yIn),(.sl (.st [])),(.sl Xi)],[⟨.exit 0,[(1,.ref 0 []),(2,.ref 1 [])],zG,[yI,yTx,(.sl (.st [])),(.sl yIn),(.sl (.st [])),(.sl Xi)]⟩],Zb (Zg9 yD) yD⟩
theorem Znn:ZiT.okA yb 113 0:=Zu ZKs [] [Zra] ⟨ZyS,ytt⟩
def Zha(F:Nat)(s:dT4):yO (dT4⊕dT5):=
 if(decide (s.2.2.2.2.1 < s.2.2.2.1))=true then
  if(inB s.2.2.2.2.1 s.2.2.2.2.2.2.2.2.2.2.2.2.length)=true then
   (s.2.2.2.2.2.2.2.2.2.2.2.2[s.2.2.2.2.1.toNat]?).bind λe599=>
   (Vk F e599.1).bind λo600=>
   if(inB s.2.2.2.2.1 s.2.2.2.2.2.2.2.2.2.2.2.2.length)=true then
    (s.2.2.2.2.2.2.2.2.2.2.2.2[s.2.2.2.2.1.toNat]?).bind λe601=>
    let y602:(yL Branch):=s.2.2.2.2.2.2.2.2.2.2.2.2.set s.2.2.2.2.1.toNat (o600,e601.2.1,e601.2.2.1,e601.2.2.2)
    some (.inl (s.1,s.2.1,s.2.2.1,s.2.2.2.1,wi (s.2.2.2.2.1+1),s.2.2.2.2.2.1,s.2.2.2.2.2.2.1,s.2.2.2.2.2.2.2.1,s.2.2.2.2.2.2.2.2.1,s.2.2.2.2.2.2.2.2.2.1,s.2.2.2.2.2.2.2.2.2.2.1,s.2.2.2.2.2.2.2.2.2.2.2.1,y602))
   else
   none
  else
  none
 else
 some (.inr (s.1,s.2.1,s.2.2.1,s.2.2.2.2.2.1,s.2.2.2.2.2.2.1,s.2.2.2.2.2.2.2.1,s.2.2.2.2.2.2.2.2.1,s.2.2.2.2.2.2.2.2.2.1,s.2.2.2.2.2.2.2.2.2.2.1,s.2.2.2.2.2.2.2.2.2.2.2.1,s.2.2.2.2.2.2.2.2.2.2.2.2))
abbrev zE:List ESh:=[.var (.agg [.rw 2,.rw 3,.v yI]) true,.var (.v yTx) true,.row yIn true 90,.row Xi true 75,.row Zk true 113]
def ZiU:Lp:=⟨[(1,.ref 0 []),(2,.ref 1 []),(4,.v yI),(5,.rw 4),(38,.v yI),(39,.v yI),(51,.v yI),(52,.v yI)],zE,tL6,[⟨.exit 4,[(1,.ref 0 []),(2,.ref 1 []),(4,.v yI),(5,.rw 4),(38,.v yI),(39,.v yI)],zE,tL5⟩],Zb (Zha yD) yD⟩
theorem Zno:ZiU.okA yb 113 2:=Zu ZKs [] [QH] ⟨ZaF,ytt⟩
def Zhb(F:Nat)(s:(Int×Int×zQ)):yO ((Int×Int×zQ)⊕(zQ)):=
 if(decide (s.2.1 < s.1))=true then
  if(inB s.2.1 s.2.2.2.2.2.2.2.length)=true then
   (s.2.2.2.2.2.2.2[s.2.1.toNat]?).bind λe597=>
   (Qs F e597.2).bind λo598=>
   (Zb (Zha F) F (s.2.1,s.1,s.2.1,(o598.2.length:Int),0,s.2.2.1,s.2.2.2.1,s.2.2.2.2.1,s.2.2.2.2.2.1,s.2.2.2.2.2.2.1,s.2.2.2.2.2.2.2,o598.1,o598.2)).bind λo603=>
   if(inB o603.1 o603.2.2.2.2.2.2.2.2.1.length)=true then
    (o603.2.2.2.2.2.2.2.2.1[o603.1.toNat]?).bind λe604=>
    let y605:(yL Out):=o603.2.2.2.2.2.2.2.2.1.set o603.1.toNat (e604.1,o603.2.2.2.2.2.2.2.2.2.2)
    some (.inl (o603.2.1,wi (o603.2.2.1+1),o603.2.2.2.1,o603.2.2.2.2.1,o603.2.2.2.2.2.1,o603.2.2.2.2.2.2.1,o603.2.2.2.2.2.2.2.1,y605))
   else
   none
  else
  none
 else
 some (.inr (s.2.2.1,s.2.2.2.1,s.2.2.2.2.1,s.2.2.2.2.2.1,s.2.2.2.2.2.2.1,s.2.2.2.2.2.2.2))
def ZiV:Lp:=⟨[(1,.ref 0 []),(2,.ref 1 []),(38,.v yI),(39,.v yI)],zG,[yI,yI,yI,yTx,(.sl (.st [])),(.sl yIn),(.sl (.st [])),(.sl Xi)],[⟨.exit 2,[(1,.ref 0 []),(2,.ref 1 [])],zG,[yI,yTx,(.sl (.st [])),(.sl yIn),(.sl (.st [])),(.sl Xi)]⟩],Zb (Zhb yD) yD⟩
theorem Znp:ZiV.okA yb 113 1:=Zu ZKs [(2,ZiU)] [ZfP] ⟨ZeO,ytt⟩ ⟨Zno,ytt⟩
def ZmA(F:Nat)(a0:Tx):yO ((Int×(yL Unit)×(yL In)×(yL Unit)×(yL Out))):=
 (Zo1 F a0.1).bind λo590=>
 (Zmz F a0.2.1).bind λo591=>
 (Zb (Zg9 F) F ((o590.2.length:Int),0,a0.2.2,([],[],0),o590.1,o590.2,o591.1,o591.2)).bind λo596=>
 (Zb (Zhb F) F ((o596.2.2.2.2.2.length:Int),0,o596.1,o596.2.1,o596.2.2.1,o596.2.2.2.1,o596.2.2.2.2.1,o596.2.2.2.2.2)).bind λo606=>
 some (o606.1,o606.2.2.1,o606.2.2.2.1,o606.2.2.2.2.1,o606.2.2.2.2.2)
def ZrM(F:Nat):Fs yb:=⟨113,[.v yTx],[],[yTx],[⟨.ret,[(0,.agg [.rw 0,.rw 1,.v yI])],[.row yIn true 90,.row Xi true 75],[yI,(.sl (.st [])),(.sl yIn),(.sl (.st [])),(.sl Xi)]⟩],λx=>ZmA F x⟩
def Zkx:Fs yb:=ZrM yD
theorem ZrN:Zkx.Ok:=fnO ZKs [(0,ZiT),(1,ZiV)] [Zmy,Zkv] ⟨Zut,ZrL,ytt⟩ ⟨Znn,Znp,ytt⟩
def Zrc(F:Nat)(s:(Int×(yL yU)×Int×Int×Tx×Tx×Int×yU×(yL Sig)×(yL yB))):yO ((Int×(yL yU)×Int×Int×Tx×Tx×Int×yU×(yL Sig)×(yL yB))⊕(Int×Tx×Tx×Int×yU×(yL Sig)×(yL yB))):=
 if(decide (s.2.2.2.1 < s.2.2.1))=true then
  (idx s.2.1 s.2.2.2.1).bind λe624=>
  (Zur F e624 s.2.2.2.2.2.2.2.2.2).bind λo625=>
  if(apB s.2.2.2.2.2.2.2.2.1.length 1 16)=true then
   some (.inl (s.1,s.2.1,s.2.2.1,wi (s.2.2.2.1+1),s.2.2.2.2.1,s.2.2.2.2.2.1,s.2.2.2.2.2.2.1,s.2.2.2.2.2.2.2.1,s.2.2.2.2.2.2.2.2.1++([o625]:yL Sig),s.2.2.2.2.2.2.2.2.2))
  else
  none
 else
 some (.inr (s.1,s.2.2.2.2.1,s.2.2.2.2.2.1,s.2.2.2.2.2.2.1,s.2.2.2.2.2.2.2.1,s.2.2.2.2.2.2.2.2.1,s.2.2.2.2.2.2.2.2.2))
abbrev zT:List ESh:=[.var (.v yTx) true,.var (.v yTx) true,.var (.agg [.v yI,.own 3 Zcn,.v .u64]) true,.log Zcn 150,.var (.v (.arr 32 .u8)) true]
def Zuu:Lp:=⟨[(1,.v yI),(5,.ref 0 []),(10,.ref 1 []),(13,.ref 2 []),(14,.ref 4 []),(52,.v (.sl .u64)),(53,.v yI),(54,.v yI)],zT,tL7,[⟨.exit 0,[(1,.v yI),(5,.ref 0 []),(10,.ref 1 []),(13,.ref 2 [])],zT,[yI,yTx,yTx,yI,.u64,(.sl Zcn),(.arr 32 .u8)]⟩],Zb (Zrc yD) yD⟩
def ZNO:HI:={ own:=[59,64],still:=[11,20,35,45,46,50,60,61,67],rowt:=[70],deep:=[49,53],gst:=[(13,[([1],Zcn,150)])]}
theorem ZvK:Zuu.okA yb 70 0:=Zu ZNO [] [Zq8] ⟨ZyP,ytt⟩
def ZId(F:Nat)(a0:Tx)(a1:Int)(a2:Int)(a3:(yL yU))(a4:yU):yO ((Tx×Int)):=
 (VK F a0).bind λo620=>
 if(!o620)=true then
  some (([],[],0),1)
 else
 if(decide (a1 < 0))=true then
  some (([],[],0),1)
 else
 if(decide (a1 >= (a0.1.length:Int)))=true then
  some (([],[],0),1)
 else
 (Ve F (a2,[],a4)).bind λo621=>
 if(!o621)=true then
  some (([],[],0),1)
 else
 if(decide ((a3.length:Int) > 12))=true then
  some (([],[],0),1)
 else
 (Zrb F a3).bind λo622=>
 if o622=true then
  some (([],[],0),1)
 else
 (Zp9 F a0).bind λo623=>
 (Zb (Zrc F) F (a1,a3,(a3.length:Int),0,a0,([],[],0),a2,a4,[],o623)).bind λo626=>
 (ZmA F o626.2.1).bind λo627=>
 if(inB o626.1 o627.2.2.1.length)=true then
  (o627.2.2.1[o626.1.toNat]?).bind λe628=>
  let y629:(yL In):=o627.2.2.1.set o626.1.toNat (e628.1,(o626.2.2.2.1,o626.2.2.2.2.2.1,o626.2.2.2.2.1))
  some ((y629,o627.2.2.2.2,o627.1),0)
 else
 none
def Znq(F:Nat):Fs yb:=⟨70,[.v yTx,.v yI,.v yI,.v (.sl .u64),.v .u64],[],[yTx,yI,yI,(.sl .u64),.u64],[⟨.ret,[(0,.tup [.v yTx,.v yI])],[],[yTx,yI]⟩],λx=>ZId F x.1 x.2.1 x.2.2.1 x.2.2.2.1 x.2.2.2.2⟩
def ZFK:Fs yb:=Znq yD
theorem ZC6:ZFK.Ok:=ZEe (fi:={ hi:=ZNO,lp:=[(0,Zuu)]}) (specs:={ l:=[Zh2,Zh1,Zo4,ZyG,Zkx]}) (okS ⟨Zkk,Zmk,ZvJ,ZA1,ZrN,ytt⟩) ⟨ZvK,ytt⟩
def ZmB(F:Nat)(a0:In)(s0:Zv):yO ((Bool×Zv)):=
 some (decide (a0.1=s0.1),s0)
def Zc6(F:Nat):Fs yb:=⟨68,[.v yIn,.ref 0 []],[.var (.v Zn) true],[yIn,Zn],[⟨.ret,[(0,.v .bool)],[.var (.v Zn) true],[.bool,Zn]⟩],λx=>ZmB F x.1 x.2⟩
def Zky:Fs yb:=Zc6 yD
theorem ZiW:Zky.Ok:=fnO { still:=[3]} [] [] trivial
def Zkz(F:Nat)(s:((yL In)×Int×Int×Zv)):yO (((yL In)×Int×Int×Zv)⊕((Int×Zv)⊕Zv)):=
 if(decide (s.2.2.1 < s.2.1))=true then
  (idx s.1 s.2.2.1).bind λe633=>
  (ZmB F e633 s.2.2.2).bind λo634=>
  if o634.1=true then
   some (.inr (.inl (s.2.2.1,o634.2)))
  else
  some (.inl (s.1,s.2.1,wi (s.2.2.1+1),o634.2))
 else
 some (.inr (.inr s.2.2.2))
def ZmC:Lp:=⟨[(0,.v (.sl yIn)),(1,.fn 68 [.ref 0 []]),(7,.v yI),(8,.v yI)],[.var (.v Zn) true],[(.sl yIn),yI,yI,Zn],[⟨.ret,[(4,.v yI)],[.var (.v Zn) true],[yI,Zn]⟩,⟨.exit 0,[],[.var (.v Zn) true],[Zn]⟩],Zb (Zkz yD) yD⟩
theorem Zqj:ZmC.okA yb 108 0:=Zu { still:=[4,15]} [] [Zky] ⟨ZiW,ytt⟩
def Zrd(F:Nat)(a0:(yL In))(s0:Zv):yO ((Int×Zv)):=
 (Zb (Zkz F) F (a0,(a0.length:Int),0,s0)).bind λo635=>
 match o635 with
 |.inl o636=>
  some (o636.1,o636.2)
 |.inr o637=>
  some ((-1),o637)
def Zgm(F:Nat):Fs yb:=⟨108,[.v (.sl yIn),.fn 68 [.ref 0 []]],[.var (.v Zn) true],[(.sl yIn),Zn],[⟨.ret,[(0,.v yI)],[.var (.v Zn) true],[yI,Zn]⟩],λx=>Zrd F x.1 x.2⟩
def Zo5:Fs yb:=Zgm yD
theorem ZmD:Zo5.Ok:=fnO { still:=[4,15]} [(0,ZmC)] [] trivial ⟨Zqj,ytt⟩
def ZC7(F:Nat)(a0:(yL In))(s0:Zv):yO ((Bool×Zv)):=
 (Zrd F a0 s0).bind λo638=>
 some (decide (o638.1 >= 0),o638.2)
def Zh5(F:Nat):Fs yb:=⟨67,[.v (.sl yIn),.fn 68 [.ref 0 []]],[.var (.v Zn) true],[(.sl yIn),Zn],[⟨.ret,[(0,.v .bool)],[.var (.v Zn) true],[.bool,Zn]⟩],λx=>ZC7 F x.1 x.2⟩
def ZA8:Fs yb:=Zh5 yD
theorem ZyW:ZA8.Ok:=fnO { still:=[4,5,6]} [] [Zo5] ⟨ZmD,ytt⟩
def Zh6(F:Nat)(a0:Kit):yO (Basics):=
 (Ya F a0.1).bind λo664=>
 (Ya F a0.2.1).bind λo665=>
 (Ya F a0.2.2.1).bind λo666=>
 (Ya F a0.2.2.2.1).bind λo667=>
 (Ya F a0.2.2.2.2.1).bind λo668=>
 some (o664,o665,o666,o667,o668)
def Zuv(F:Nat):Fs yb:=⟨22,[.v XW],[],[XW],(zN Zln),λx=>Zh6 F x⟩
def ZmE:Fs yb:=Zuv yD
theorem Zuw:ZmE.Ok:=fnO { still:=[4,7,10,13,16]} [] [Wr] ⟨XP,ytt⟩
def ZLc:ByteArray:=⟨#[107,105,116]⟩
def Zo6(F:Nat)(s:(Int×(yL yB)×Kit×(yL yU))):yO ((Int×(yL yB)×Kit×(yL yU))⊕((yL yB)×Kit×(yL yU))):=
 if(decide (s.1 < 5))=true then
  (VI F ZLc [s.2.1,[w8 (wi (s.1+1))]]).bind λo672=>
  (Vc F o672).bind λo673=>
  if(inB s.1 5)=true then
   (s.2.2.2[s.1.toNat]?).bind λe674=>
   some (.inl (wi (s.1+1),s.2.1,s.2.2.1,s.2.2.2.set s.1.toNat o673))
  else
  none
 else
 some (.inr (s.2.1,s.2.2.1,s.2.2.2))
def Zre:Lp:=⟨[(1,.ref 0 []),(2,.ref 1 []),(3,.ref 2 []),(5,.v yI)],[.var (.v (.arr 32 .u8)) false,.var (.v XW) true,.var (.v (.arr 5 .u64)) true],[yI,(.arr 32 .u8),XW,(.arr 5 .u64)],[⟨.exit 0,[(1,.ref 0 []),(2,.ref 1 []),(3,.ref 2 [])],[.var (.v (.arr 32 .u8)) false,.var (.v XW) true,.var (.v (.arr 5 .u64)) true],[(.arr 32 .u8),XW,(.arr 5 .u64)]⟩],Zb (Zo6 yD) yD⟩
def ZNP:HI:={ still:=[14,15,31],frz:=[9,29]}
theorem Zux:Zre.okA yb 76 0:=Zu ZNP [] [V6,Qo] ⟨V7,QI,ytt⟩
def ZwL(F:Nat)(a0:(yL yB)):yO (Kit):=
 (Zb (Zo6 F) F (0,a0,(0,0,0,0,0,yzz),[0,0,0,0,0])).bind λo675=>
 (o675.2.2[0]?).bind λe676=>
 (o675.2.2[1]?).bind λe677=>
 (o675.2.2[2]?).bind λe678=>
 (o675.2.2[3]?).bind λe679=>
 (o675.2.2[4]?).bind λe680=>
 (VI F ZLc [o675.1,[6]]).bind λo681=>
 some (e676,e677,e678,e679,e680,o681)
def ZA9(F:Nat):Fs yb:=⟨76,[.v (.arr 32 .u8)],[],[(.arr 32 .u8)],(zN XW),λx=>ZwL F x⟩
def Zuy:Fs yb:=ZA9 yD
theorem ZBa:Zuy.Ok:=fnO ZNP [(0,Zre)] [V6] ⟨V7,ytt⟩ ⟨Zux,ytt⟩
def ZaX(F:Nat)(a0:yB):yO (Kit):=
 (ZwL F [a0,0,0,0,0,0,0,0,0,0,0,0,0,0,0,0,0,0,0,0,0,0,0,0,0,0,0,0,0,0,0,0]).bind λo682=>
 some o682
def Qz(F:Nat):Fs yb:=⟨30,[.v .u8],[],[.u8],(zN XW),λx=>ZaX F x⟩
def ZeX:Fs yb:=Qz yD
theorem Zdb:ZeX.Ok:=fnO { still:=[4]} [] [Zuy] ⟨ZBa,ytt⟩
def ZlE(F:Nat):yO (Chan):=
 (ZaX F 1).bind λo683=>
 (Zh6 F o683).bind λo684=>
 (ZaX F 2).bind λo685=>
 (Zh6 F o685).bind λo686=>
 some ((yzz,0),9000,[o684,o686],[(100,500,10,4,5,9000),(100,500,20,4,5,9000)],0)
def VN(F:Nat):Fs yb:=⟨28,[],[],[],(zN ZK),λx=>ZlE F⟩
def ZkA:Fs yb:=VN yD
theorem Zi1:ZkA.Ok:=fnO { still:=[6,8]} [] [ZeX,ZmE] ⟨Zdb,Zuw,ytt⟩
def ZkB(F:Nat):yO (yG):=
 (Ya F 7).bind λo687=>
 (Ya F 9).bind λo688=>
 some (3,[5000,1500],[(0,1,1000,o687,150),(1,1,1500,o688,160)],0)
def Vr(F:Nat):Fs yb:=⟨29,[],[],[],(zN Zy),λx=>ZkB F⟩
def Zi2:Fs yb:=Vr yD
theorem Zh7:Zi2.Ok:=fnO {} [] [Wr] ⟨XP,ytt⟩
def VV(F:Nat)(a0:yG)(a1:(yL yU)):yO (Bool):=
 if(decide ((a0.2.2.1.length:Int)<=20))=true then
  some (decide ((a1.length:Int)<=20))
 else
 some false
def ZlF(F:Nat):Fs yb:=⟨8,[.v Zy,.v (.sl .u64)],[],[Zy,(.sl .u64)],(zN .bool),λx=>VV F x.1 x.2⟩
def ZeY:Fs yb:=ZlF yD
theorem ZlG:ZeY.Ok:=fnO { still:=[4]} [] [] trivial
def YW(F:Nat)(s:(yU×yU×yU)):yO ((yU×yU×yU)⊕yU):=
 if(decide (s.2.1 > 0))=true then
  if((s.2.1 % 2)==1)=true then
   some (.inl ((s.1+s.1) % 4611686018427377339,s.2.1 / 2,(s.2.2+s.1) % 4611686018427377339))
  else
  some (.inl ((s.1+s.1) % 4611686018427377339,s.2.1 / 2,s.2.2))
 else
 some (.inr s.2.2)
def ZaY:Lp:=⟨[(0,.v .u64),(1,.v .u64),(5,.v .u64)],[],[.u64,.u64,.u64],[⟨.exit 0,[(5,.v .u64)],[],[.u64]⟩],Zb (YW yD) yD⟩
theorem Zfb:ZaY.okA yb 131 0:=Zu { still:=[4]} [] [] trivial
def Ww(F:Nat)(a0:yU)(a1:yU):yO (yU):=
 (Zb (YW F) F (a0,a1,0)).bind λo689=>
 some o689
def Vs(F:Nat):Fs yb:=⟨131,[.v .u64,.v .u64],[],[.u64,.u64],(zN .u64),λx=>Ww F x.1 x.2⟩
def Zi3:Fs yb:=Vs yD
theorem Zh8:Zi3.Ok:=fnO { still:=[4]} [(0,ZaY)] [] trivial ⟨Zfb,ytt⟩
end
end Go.Proofs.YtpgpjjjoglafdaaGreat
end
section
set_option maxRecDepth 4000
namespace Go.Proofs.YtpgpjjjoglafdaaGreat
open Go Go.Ev
theorem Zqk{z:Nat}:(yae (z % 4611686018427377339)).toNat=z % 4611686018427377339:=by
 rw[ybb,yao];exact Nat.lt_trans (ybh _ (by decide)) (by decide)
theorem ZIe{a b:yU}(ha:a.toNat < 4611686018427377339)(hb:b.toNat < 4611686018427377339):((a+b) % 4611686018427377339).toNat=(a.toNat+b.toNat) % 4611686018427377339:=by
 rw[UInt64.toNat_mod,UInt64.toNat_add,show(4611686018427377339:yU).toNat=4611686018427377339 from rfl,yao (a:=a.toNat+b.toNat) (by omega)]
theorem ZkC:∀(k m:Nat)(A B O:yU),A.toNat < 4611686018427377339->O.toNat < 4611686018427377339->B.toNat < 2 ^ k->k < m->
 Zb (YW yD) m (A,B,O)=some (yae ((O.toNat+A.toNat*B.toNat) % 4611686018427377339))
 |k,0,_,_,_,_,_,_,h=>by omega
 |0,m+1,A,B,O,hA,hO,h,_=>by
  have h0:B.toNat=0:=by rw[Nat.pow_zero] at h;omega
  have hn:¬B > 0:=by
   intro h2;have h3:0 < B.toNat:=ycb.1 h2;omega
  have hs:YW yD (A,B,O)=if decide (B > 0)=true then(if((B % 2)==1)=true then some (.inl ((A+A) % 4611686018427377339,B / 2,(O+A) % 4611686018427377339)) else some (.inl ((A+A) % 4611686018427377339,B / 2,O))) else some (.inr O):=rfl
  unfold Zb;rw[hs]
  rw[yX (by rw[yN];exact hn),ya,h0,Nat.mul_zero,yce,yao hO,UInt64.ofNat_toNat]
 |k+1,m+1,A,B,O,hA,hO,h,hm=>by
  have hs:YW yD (A,B,O)=if decide (B > 0)=true then(if((B % 2)==1)=true then some (.inl ((A+A) % 4611686018427377339,B / 2,(O+A) % 4611686018427377339)) else some (.inl ((A+A) % 4611686018427377339,B / 2,O))) else some (.inr O):=rfl
  unfold Zb;rw[hs];by_cases h2:B > 0
  ·have h3:0 < B.toNat:=ycb.1 h2;have hsh:(B / 2).toNat=B.toNat / 2:=by rw[UInt64.toNat_div];rfl
   have hlt:(B / 2).toNat < 2 ^ k:=by
    rw[hsh];rw[Nat.pow_succ] at h;omega
   have hand:((B % 2)==1)=decide (B.toNat % 2=1):=by
    rw[Bool.eq_iff_iff,yT,yN, <-UInt64.toNat_inj,UInt64.toNat_mod];rfl
   have hA2:=ZIe hA hA;have hAl:((A+A) % 4611686018427377339).toNat < 4611686018427377339:=by rw[hA2];exact ybh _ (by decide)
   have hB:B.toNat=2*(B.toNat / 2)+B.toNat % 2:=by omega
   rw[yW (yY h2),hand];by_cases h4:B.toNat % 2=1
   ·have hO2:=ZIe hO hA;have hOl:((O+A) % 4611686018427377339).toNat < 4611686018427377339:=by rw[hO2];exact ybh _ (by decide)
    rw[yW (yY h4),ya];dsimp only;rw[ZkC k m _ _ _ hAl hOl hlt (by omega),hA2,hO2,hsh];congr 2;rw[Nat.add_mod,Nat.mod_mod,Nat.mod_mul_mod, <-Nat.add_mod];congr 1
    conv=>rhs;rw[hB,h4,Nat.mul_add,Nat.mul_one, <-Nat.mul_assoc]
    rw[Nat.mul_two];omega
   ·rw[yX (by rw[yN];exact h4),ya];dsimp only;rw[ZkC k m _ _ _ hAl hO hlt (by omega),hA2,hsh];congr 2;rw[Nat.add_mod,Nat.mod_mul_mod, <-Nat.add_mod];congr 1
    conv=>rhs;rw[hB,show B.toNat % 2=0 by omega,yce, <-Nat.mul_assoc]
    rw[Nat.mul_two]
  ·have h3:B.toNat=0:=by
    rcases Nat.eq_zero_or_pos B.toNat with h5|h5
    ·exact h5
    ·exact absurd (show(0:yU) < B from ycb.2 h5) h2
   rw[yX (by rw[yN];exact h2),ya,h3,Nat.mul_zero,yce,yao hO,UInt64.ofNat_toNat]
noncomputable def Zs(F:Nat)(a0:yU)(a1:yU):yO yU:=if decide (a0.toNat < 4611686018427377339)=true then some (yae (a0.toNat*a1.toNat % 4611686018427377339)) else Ww F a0 a1
theorem ZFL(a b:yU):Ww yD a b=Zs yD a b:=by
 unfold Zs;split
 ·rename_i h;unfold Ww;rw[ZkC 64 yD a b 0 (yF h) (by decide) (UInt64.toNat_lt _) (by rw[ZdA];omega),ya,show(0:yU).toNat=0 from rfl,ybg]
 ·rfl
noncomputable def Zi4(F:Nat):Fs yb:={ Vs F with M:=λx=>Zs F x.1 x.2}
noncomputable def Zcs:Fs yb:=Zi4 yD
theorem Zi5:Zcs.Ok:=Zm6 (s:=Vs yD) Zh8 λx=>(ZFL x.1 x.2).symm
end Go.Proofs.YtpgpjjjoglafdaaGreat
end
section
set_option maxRecDepth 4000
namespace Go.Proofs.YtpgpjjjoglafdaaGreat
open Go Go.Ev
noncomputable section
def YX(F:Nat)(s:(yU×yU×yU)):yO ((yU×yU×yU)⊕yU):=
 if(decide (s.2.1 > 0))=true then
  if((s.2.1 % 2)==1)=true then
   (Zs F s.2.2 s.1).bind λo690=>
   (Zs F s.1 s.1).bind λo691=>
   some (.inl (o691,s.2.1 / 2,o690))
  else
  (Zs F s.1 s.1).bind λo692=>
  some (.inl (o692,s.2.1 / 2,s.2.2))
 else
 some (.inr s.2.2)
def ZaZ:Lp:=⟨[(0,.v .u64),(1,.v .u64),(5,.v .u64)],[],[.u64,.u64,.u64],[⟨.exit 0,[(5,.v .u64)],[],[.u64]⟩],Zb (YX yD) yD⟩
theorem Zfc:ZaZ.okA yb 94 0:=Zu { still:=[4,11,12,14,15]} [] [Zcs] ⟨Zi5,ytt⟩
def Wx(F:Nat)(a0:yU)(a1:yU):yO (yU):=
 (Zb (YX F) F (a0,a1,1)).bind λo693=>
 some o693
def Vt(F:Nat):Fs yb:=⟨94,[.v .u64,.v .u64],[],[.u64,.u64],(zN .u64),λx=>Wx F x.1 x.2⟩
def Zi6:Fs yb:=Vt yD
theorem Zh9:Zi6.Ok:=fnO { still:=[4,11,12,14,15]} [(0,ZaZ)] [] trivial ⟨Zfc,ytt⟩
end
end Go.Proofs.YtpgpjjjoglafdaaGreat
end
section
set_option maxRecDepth 4000
namespace Go.Proofs.YtpgpjjjoglafdaaGreat
open Go Go.Ev
theorem Zql:∀(k m:Nat)(A N O:yU),A.toNat < 4611686018427377339->O.toNat < 4611686018427377339->N.toNat < 2 ^ k->k < m->Zb (YX yD) m (A,N,O)=some (yae (pwm 4611686018427377339 k A.toNat N.toNat O.toNat))
 |k,0,_,_,_,_,_,_,h=>by omega
 |0,m+1,A,N,O,hA,hO,h,_=>by
  have hn:¬N > 0:=by
   intro h2;have h3:0 < N.toNat:=ycb.1 h2;rw[Nat.pow_zero] at h;omega
  have hs:YX yD (A,N,O)=if decide (N > 0)=true then(if((N % 2)==1)=true then(Zs yD O A).bind λo1=>(Zs yD A A).bind λo2=>some (.inl (o2,N / 2,o1)) else(Zs yD A A).bind λo2=>some (.inl (o2,N / 2,O))) else some (.inr O):=rfl
  unfold Zb;rw[hs]
  rw[yX (by rw[yN];exact hn),ya,pwm,UInt64.ofNat_toNat]
 |k+1,m+1,A,N,O,hA,hO,h,hm=>by
  have hs:YX yD (A,N,O)=if decide (N > 0)=true then(if((N % 2)==1)=true then(Zs yD O A).bind λo1=>(Zs yD A A).bind λo2=>some (.inl (o2,N / 2,o1)) else(Zs yD A A).bind λo2=>some (.inl (o2,N / 2,O))) else some (.inr O):=rfl
  unfold Zb;rw[hs];by_cases h2:N > 0
  ·have hp:0 < N.toNat->pwm 4611686018427377339 (k+1) A.toNat N.toNat O.toNat=pwm 4611686018427377339 k (A.toNat*A.toNat % 4611686018427377339) (N.toNat / 2) (if N.toNat % 2=1 then O.toNat*A.toNat % 4611686018427377339 else O.toNat):=λh=>by
    rw[pwm,yX (by omega)]
   have h3:0 < N.toNat:=ycb.1 h2;have hsh:(N / 2).toNat=N.toNat / 2:=by rw[UInt64.toNat_div];rfl
   have hlt:(N / 2).toNat < 2 ^ k:=by
    rw[hsh];rw[Nat.pow_succ] at h;omega
   have hand:((N % 2)==1)=decide (N.toNat % 2=1):=by
    rw[Bool.eq_iff_iff,yT,yN, <-UInt64.toNat_inj,UInt64.toNat_mod];rfl
   have ml:∀z:Nat,z % 4611686018427377339 < 4611686018427377339:=λz=>ybh _ (by decide)
   have e1:Zs yD A A=some (yae (A.toNat*A.toNat % 4611686018427377339)):=by
    unfold Zs;rw[yW (yY hA)]
   have e2:Zs yD O A=some (yae (O.toNat*A.toNat % 4611686018427377339)):=by
    unfold Zs;rw[yW (yY hO)]
   rw[yW (yY h2),hand,hp h3,e1,e2];by_cases h4:N.toNat % 2=1
   ·rw[yW (yY h4),yW h4,ya,ya,ya];dsimp only;rw[Zql k m _ _ _ (by rw[Zqk];exact ml _) (by rw[Zqk];exact ml _) hlt (by omega),Zqk,Zqk,hsh]
   ·rw[yX (by rw[yN];exact h4),yX h4,ya,ya];dsimp only;rw[Zql k m _ _ _ (by rw[Zqk];exact ml _) hO hlt (by omega),Zqk,hsh]
  ·have h3:N.toNat=0:=by
    rcases Nat.eq_zero_or_pos N.toNat with h5|h5
    ·exact h5
    ·exact absurd (show(0:yU) < N from ycb.2 h5) h2
   rw[yX (by rw[yN];exact h2),ya,pwm,yW h3,UInt64.ofNat_toNat]
noncomputable def Yz(F:Nat)(a0:yU)(a1:yU):yO yU:=if decide (a0.toNat < 4611686018427377339)=true then some (yae (pwm 4611686018427377339 64 a0.toNat a1.toNat 1)) else Wx F a0 a1
theorem ZFM(a n:yU):Wx yD a n=Yz yD a n:=by
 unfold Yz;split
 ·rename_i h;unfold Wx;rw[Zql 64 yD a n 1 (yF h) (by decide) (UInt64.toNat_lt _) (by rw[ZdA];omega),ya];rfl
 ·rfl
noncomputable def Zi7(F:Nat):Fs yb:={ Vt F with M:=λx=>Yz F x.1 x.2}
noncomputable def Qd:Fs yb:=Zi7 yD
theorem Zbg:Qd.Ok:=Zm6 (s:=Vt yD) Zh9 λx=>(ZFM x.1 x.2).symm
end Go.Proofs.YtpgpjjjoglafdaaGreat
end
section
set_option maxRecDepth 4000
namespace Go.Proofs.YtpgpjjjoglafdaaGreat
open Go Go.Ev
noncomputable section
def YA(F:Nat)(a0:yU):yO (Bool):=
 if(decide (a0 >= 1))=true then
  if(decide (a0 < 4611686018427377339))=true then
   (Yz F a0 2305843009213688669).bind λo694=>
   some (o694==1)
  else
  some false
 else
 some false
def Zi8(F:Nat):Fs yb:=⟨54,[.v .u64],[],[.u64],(zN .bool),λx=>YA F x⟩
def Xw:Fs yb:=Zi8 yD
theorem X5:Xw.Ok:=fnO { still:=[2,10]} [] [Qd] ⟨Zbg,ytt⟩
def XK(F:Nat)(a0:ZdM):yO (Bool):=
 if(decide (a0.1 >= 0))=true then
  if(decide (a0.1<=3))=true then
   some (decide ((a0.2.1.length:Int)<=12))
  else
  some false
 else
 some false
def Zgn(F:Nat):Fs yb:=⟨132,[.v Zkb],[],[Zkb],(zN .bool),λx=>XK F x⟩
def Zaj:Fs yb:=Zgn yD
theorem Zgo:Zaj.Ok:=fnO { still:=[2]} [] [] trivial
def YY(F:Nat)(s:(Int×Branch)):yO ((Int×Branch)⊕((Bool×Branch)⊕Branch)):=
 if(decide (s.1 < (s.2.1.length:Int)))=true then
  (idx s.2.1 s.1).bind λe695=>
  (YA F e695).bind λo696=>
  if(!o696)=true then
   some (.inr (.inl (false,s.2)))
  else
  some (.inl (wi (s.1+1),s.2))
 else
 some (.inr (.inr s.2))
def Za0:Lp:=⟨[(1,.ref 0 []),(3,.v yI)],[.var (.v Zk) true],[yI,Zk],[⟨.ret,[(2,.v .bool)],[.var (.v Zk) true],[.bool,Zk]⟩,⟨.exit 0,[(1,.ref 0 [])],[.var (.v Zk) true],[Zk]⟩],Zb (YY yD) yD⟩
theorem Zfd:Za0.okA yb 168 0:=Zu { still:=[2,41,46]} [] [Xw] ⟨X5,ytt⟩
def Wy(F:Nat)(a0:Branch):yO (Bool):=
 if(decide ((a0.1.length:Int) > 12))=true then
  some false
 else
 if(decide (a0.2.1 < 0))=true then
  some false
 else
 if(decide (a0.2.1 > 1048576))=true then
  some false
 else
 if(decide (a0.2.2.1 < 0))=true then
  some false
 else
 if(decide (a0.2.2.1 > 1048576))=true then
  some false
 else
 (Zb (YY F) F (0,a0)).bind λo697=>
 match o697 with
 |.inl o698=>
  some o698.1
 |.inr o699=>
  (YA F o699.2.2.2).bind λo700=>
  if(o699.2.2.2==0)=true then
   some true
  else
  some o700
def Zia(F:Nat):Fs yb:=⟨168,[.v Zk],[],[Zk],(zN .bool),λx=>Wy F x⟩
def Zbh:Fs yb:=Zia yD
theorem Zib:Zbh.Ok:=fnO { still:=[2,41,46]} [(0,Za0)] [Xw] ⟨X5,ytt⟩ ⟨Zfd,ytt⟩
def Xa(F:Nat)(s:(Int×Z4)):yO ((Int×Z4)⊕((Bool×Z4)⊕Z4)):=
 if(decide (s.1 < (s.2.length:Int)))=true then
  (idx s.2 s.1).bind λe701=>
  (Wy F e701).bind λo702=>
  if(!o702)=true then
   some (.inr (.inl (false,s.2)))
  else
  some (.inl (wi (s.1+1),s.2))
 else
 some (.inr (.inr s.2))
def Zbi:Lp:=⟨[(1,.ref 0 []),(3,.v yI)],[.var (.v ZC) true],[yI,ZC],[⟨.ret,[(2,.v .bool)],[.var (.v ZC) true],[.bool,ZC]⟩,⟨.exit 0,[],[.var (.v ZC) true],[ZC]⟩],Zb (Xa yD) yD⟩
theorem Zgp:Zbi.okA yb 133 0:=Zu { still:=[2,25]} [] [Zbh] ⟨Zib,ytt⟩
def Xg(F:Nat)(a0:Z4):yO (Bool):=
 if(decide ((a0.length:Int) < 1))=true then
  some false
 else
 if(decide ((a0.length:Int) > 4))=true then
  some false
 else
 (Zb (Xa F) F (0,a0)).bind λo703=>
 match o703 with
 |.inl o704=>
  some o704.1
 |.inr o705=>
  some true
def Zi9(F:Nat):Fs yb:=⟨133,[.v ZC],[],[ZC],(zN .bool),λx=>Xg F x⟩
def Qe:Fs yb:=Zi9 yD
theorem Zbj:Qe.Ok:=fnO { still:=[2,25]} [(0,Zbi)] [] trivial ⟨Zgp,ytt⟩
def Z5(F:Nat)(s:(Int×Int×Tx×In)):yO ((Int×Int×Tx×In)⊕((Bool×Tx×In)⊕(Int×Tx×In))):=
 if(decide (s.2.1 < s.1))=true then
  (idx s.2.2.1.1 s.2.1).bind λe708=>
  if(decide (e708.1=s.2.2.2.1))=true then
   some (.inr (.inl (false,s.2.2.1,s.2.2.2)))
  else
  some (.inl (s.1,wi (s.2.1+1),s.2.2.1,s.2.2.2))
 else
 some (.inr (.inr (s.1,s.2.2.1,s.2.2.2)))
def Zbk:Lp:=⟨[(1,.ref 0 []),(3,.v yI),(4,.ref 1 []),(5,.v yI)],[.var (.v yTx) true,.var (.v yIn) true],[yI,yI,yTx,yIn],[⟨.ret,[(2,.v .bool)],[.var (.v yTx) true,.var (.v yIn) true],[.bool,yTx,yIn]⟩,⟨.exit 2,[(1,.ref 0 []),(3,.v yI)],[.var (.v yTx) true,.var (.v yIn) true],[yI,yTx,yIn]⟩],Zb (Z5 yD) yD⟩
theorem Zgq:Zbk.okA yb 95 1:=Zu { still:=[2,54,94]} [] [] trivial
def Yq(F:Nat)(s:(Int×Tx)):yO ((Int×Tx)⊕((Bool×Tx)⊕Tx)):=
 if(decide (s.1 < (s.2.1.length:Int)))=true then
  (idx s.2.1 s.1).bind λe706=>
  if(decide (e706.1.2 < 0))=true then
   some (.inr (.inl (false,s.2)))
  else
  if(decide (e706.1.2 > 63))=true then
   some (.inr (.inl (false,s.2)))
  else
  (XK F e706.2).bind λo707=>
  if(!o707)=true then
   some (.inr (.inl (false,s.2)))
  else
  (Zb (Z5 F) F (s.1,0,s.2,e706)).bind λo709=>
  match o709 with
  |.inl o710=>
   some (.inr (.inl (o710.1,o710.2.1)))
  |.inr o711=>
   some (.inl (wi (o711.1+1),o711.2.1))
 else
 some (.inr (.inr s.2))
def Zbl:Lp:=⟨[(1,.ref 0 []),(3,.v yI)],[.var (.v yTx) true],[yI,yTx],[⟨.ret,[(2,.v .bool)],[.var (.v yTx) true],[.bool,yTx]⟩,⟨.exit 0,[(1,.ref 0 [])],[.var (.v yTx) true],[yTx]⟩],Zb (Yq yD) yD⟩
theorem Zgr:Zbl.okA yb 95 0:=Zu { still:=[2,54,94]} [(1,Zbk)] [Zaj] ⟨Zgo,ytt⟩ ⟨Zgq,ytt⟩
def Yr(F:Nat)(s:(Int×Int×Tx)):yO ((Int×Int×Tx)⊕((Bool×Tx)⊕(Int×Tx))):=
 if(decide (s.2.1 < (s.2.2.2.1.length:Int)))=true then
  (idx s.2.2.2.1 s.2.1).bind λe715=>
  if(decide (e715.1 < 0))=true then
   some (.inr (.inl (false,s.2.2)))
  else
  if(decide (e715.1 > 1125899906842624))=true then
   some (.inr (.inl (false,s.2.2)))
  else
  (Xg F e715.2).bind λo716=>
  if(!o716)=true then
   some (.inr (.inl (false,s.2.2)))
  else
  some (.inl (wi (s.1+e715.1),wi (s.2.1+1),s.2.2))
 else
 some (.inr (.inr (s.1,s.2.2)))
def Zbm:Lp:=⟨[(1,.ref 0 []),(6,.v yI),(7,.v yI)],[.var (.v yTx) true],[yI,yI,yTx],[⟨.ret,[(2,.v .bool)],[.var (.v yTx) true],[.bool,yTx]⟩,⟨.exit 4,[(6,.v yI)],[.var (.v yTx) true],[yI,yTx]⟩],Zb (Yr yD) yD⟩
theorem Zgs:Zbm.okA yb 95 2:=Zu { still:=[2,54,94]} [] [Qe] ⟨Zbj,ytt⟩
def WJ(F:Nat)(a0:Tx):yO (Bool):=
 if(decide ((a0.1.length:Int) < 1))=true then
  some false
 else
 if(decide ((a0.1.length:Int) > 64))=true then
  some false
 else
 if(decide ((a0.2.1.length:Int) > 64))=true then
  some false
 else
 if(decide (a0.2.2 < 0))=true then
  some false
 else
 (Zb (Yq F) F (0,a0)).bind λo712=>
 match o712 with
 |.inl o713=>
  some o713.1
 |.inr o714=>
  (Zb (Yr F) F (0,0,o714)).bind λo717=>
  match o717 with
  |.inl o718=>
   some o718.1
  |.inr o719=>
   some (decide (o719.1<=1125899906842624))
def Zja(F:Nat):Fs yb:=⟨95,[.v yTx],[],[yTx],(zN .bool),λx=>WJ F x⟩
def Zct:Fs yb:=Zja yD
theorem Zjb:Zct.Ok:=fnO { still:=[2,54,94]} [(0,Zbl),(2,Zbm)] [] trivial ⟨Zgr,Zgs,ytt⟩
def YD(F:Nat)(s:(yU×Int×(yL yB))):yO ((yU×Int×(yL yB))⊕(yL yB)):=
 if(decide (s.2.1 >= 0))=true then
  if(decide (0<=s.2.1))=true then
   let y720:yB:=w8 ((Zw s.1 (min s.2.1.toNat 64)).toNat:Int)
   if(apB s.2.2.length 1 1)=true then
    some (.inl (s.1,wi (s.2.1 - 8),s.2.2++([y720]:yL yB)))
   else
   none
  else
  none
 else
 some (.inr s.2.2)
def Zcu:Lp:=⟨[(0,.v .u64),(3,.own 0 .u8),(4,.v yI)],[.log .u8 5],[.u64,yI,(.sl .u8)],[⟨.exit 0,[(3,.own 0 .u8)],[.log .u8 5],[(.sl .u8)]⟩],Zb (YD yD) yD⟩
theorem Zhc:Zcu.okA yb 134 0:=Zu { own:=[3,9,15],still:=[2]} [] [] trivial
def Vu(F:Nat)(a0:yU):yO ((yL yB)):=
 (Zb (YD F) F (a0,56,[])).bind λo721=>
 some o721
def ZkD(F:Nat):Fs yb:=⟨134,[.v .u64],[],[.u64],(zN (.sl .u8)),λx=>Vu F x⟩
def Zdc:Fs yb:=ZkD yD
theorem ZkE:Zdc.Ok:=fnO { own:=[3,9,15],still:=[2]} [(0,Zcu)] [] trivial ⟨Zhc,ytt⟩
def YZ(F:Nat)(s:((yL yB)×(yL yB))):yO (((yL yB)×(yL yB))⊕((yL yB)×(yL yB))):=
 if((Int.tmod (s.2.length:Int) 64)!=56)=true then
  if(apB s.2.length 1 1)=true then
   some (.inl (s.1,s.2++([0]:yL yB)))
  else
  none
 else
 some (.inr (s.1,s.2))
def Za1:Lp:=⟨[(0,.v (.sl .u8)),(3,.own 0 .u8)],[.log .u8 5],[(.sl .u8),(.sl .u8)],[⟨.exit 0,[(0,.v (.sl .u8)),(3,.own 0 .u8)],[.log .u8 5],[(.sl .u8),(.sl .u8)]⟩],Zb (YZ yD) yD⟩
def ZMB:HI:={ own:=[3,6,8,9,11,16,18,27,33],still:=[2]}
theorem Zfe:Za1.okA yb 169 0:=Zu ZMB [] [] trivial
def Y2(F:Nat)(s:(yU×Int×(yL yB))):yO ((yU×Int×(yL yB))⊕(yL yB)):=
 if(decide (s.2.1 >= 0))=true then
  if(decide (0<=s.2.1))=true then
   let y723:yB:=w8 ((Zw s.1 (min s.2.1.toNat 64)).toNat:Int)
   if(apB s.2.2.length 1 1)=true then
    some (.inl (s.1,wi (s.2.1 - 8),s.2.2++([y723]:yL yB)))
   else
   none
  else
  none
 else
 some (.inr s.2.2)
def Za2:Lp:=⟨[(3,.own 0 .u8),(4,.v .u64),(5,.v yI)],[.log .u8 5],[.u64,yI,(.sl .u8)],[⟨.exit 2,[(3,.own 0 .u8)],[.log .u8 5],[(.sl .u8)]⟩],Zb (Y2 yD) yD⟩
theorem Zff:Za2.okA yb 169 1:=Zu ZMB [] [] trivial
def Wz(F:Nat)(a0:(yL yB)):yO ((yL yB)):=
 if(apB 0 a0.length 1)=true then
  if(apB a0.length 1 1)=true then
   (Zb (YZ F) F (a0,a0++([128]:yL yB))).bind λo722=>
   (Zb (Y2 F) F (8*(w64 (o722.1.length:Int)),56,o722.2)).bind λo724=>
   some o724
  else
  none
 else
 none
def Zic(F:Nat):Fs yb:=⟨169,[.v (.sl .u8)],[],[(.sl .u8)],(zN (.sl .u8)),λx=>Wz F x⟩
def Zbn:Fs yb:=Zic yD
theorem Zid:Zbn.Ok:=fnO ZMB [(0,Za1),(1,Za2)] [] trivial ⟨Zfe,Zff,ytt⟩
def Qf(F:Nat):yO ((yL yV)):=
 some [1779033703,3144134277,1013904242,2773480762,1359893119,2600822924,528734635,1541459225]
def Zie(F:Nat):Fs yb:=⟨170,[],[],[],(zN (.sl .u32)),λx=>Qf F⟩
def Zbo:Fs yb:=Zie yD
theorem Zif:Zbo.Ok:=fnO { still:=[0]} [] [] trivial
def ZB(F:Nat)(a0:yV)(a1:Int):yO (yV):=
 if(decide (0<=a1))=true then
  if(decide (0<=wi (32 - a1)))=true then
   let y725:yV:=(Zc9 a0 (min a1.toNat 32))|||(Zaf a0 (min (wi (32 - a1)).toNat 32))
   some y725
  else
  none
 else
 none
def ZkF(F:Nat):Fs yb:=⟨182,[.v .u32,.v yI],[],[.u32,yI],(zN .u32),λx=>ZB F x.1 x.2⟩
def QA:Fs yb:=ZkF yD
theorem Zcv:QA.Ok:=fnO { still:=[4]} [] [] trivial
def Xb(F:Nat)(s:((yL yB)×Int×(yL yV))):yO (((yL yB)×Int×(yL yV))⊕(yL yV)):=
 if(decide (s.2.1 < 16))=true then
  (idx s.1 (wi (4*s.2.1))).bind λe726=>
  (idx s.1 (wi ((wi (4*s.2.1))+1))).bind λe727=>
  let y728:yV:=(Zaf (ybp e726.toNat) 24)|||(Zaf (ybp e727.toNat) 16)
  (idx s.1 (wi ((wi (4*s.2.1))+2))).bind λe729=>
  (idx s.1 (wi ((wi (4*s.2.1))+3))).bind λe730=>
  let y731:yV:=(y728|||(Zaf (ybp e729.toNat) 8))|||(ybp e730.toNat)
  if(apB s.2.2.length 1 4)=true then
   some (.inl (s.1,wi (s.2.1+1),s.2.2++([y731]:yL yV)))
  else
  none
 else
 some (.inr s.2.2)
def Zbp:Lp:=⟨[(0,.v (.sl .u8)),(3,.own 0 .u32),(4,.v yI)],[.log .u32 209],[(.sl .u8),yI,(.sl .u32)],[⟨.exit 0,[(3,.own 0 .u32)],[.log .u32 209],[(.sl .u32)]⟩],Zb (Xb yD) yD⟩
def ZMC:HI:={ own:=[3,14,49,80,97],still:=[2,64,66,72,74]}
theorem Zgt:Zbp.okA yb 180 0:=Zu ZMC [] [] trivial
def Xc(F:Nat)(s:(Int×(yL yV))):yO ((Int×(yL yV))⊕(yL yV)):=
 if(decide (s.1 < 64))=true then
  (idx s.2 (wi (s.1 - 15))).bind λe733=>
  (idx s.2 (wi (s.1 - 2))).bind λe734=>
  (ZB F e733 7).bind λo735=>
  (ZB F e733 18).bind λo736=>
  (ZB F e734 17).bind λo737=>
  (ZB F e734 19).bind λo738=>
  (idx s.2 (wi (s.1 - 16))).bind λe739=>
  (idx s.2 (wi (s.1 - 7))).bind λe740=>
  let y741:yV:=(e739+((o735^^^o736)^^^(Zc9 e733 3)))+e740
  if(apB s.2.length 1 4)=true then
   let y742:(yL yV):=s.2++([y741+((o737^^^o738)^^^(Zc9 e734 10))]:yL yV)
   some (.inl (wi (s.1+1),y742))
  else
  none
 else
 some (.inr s.2)
def Zbq:Lp:=⟨[(3,.own 0 .u32),(5,.v yI)],[.log .u32 209],[yI,(.sl .u32)],[⟨.exit 2,[(3,.own 0 .u32)],[.log .u32 209],[(.sl .u32)]⟩],Zb (Xc yD) yD⟩
theorem Zgu:Zbq.okA yb 180 1:=Zu ZMC [] [QA] ⟨Zcv,ytt⟩
def WK(F:Nat)(a0:(yL yB)):yO ((yL yV)):=
 (Zb (Xb F) F (a0,0,[])).bind λo732=>
 (Zb (Xc F) F (16,o732)).bind λo743=>
 some o743
def Zjc(F:Nat):Fs yb:=⟨180,[.v (.sl .u8)],[],[(.sl .u8)],(zN (.sl .u32)),λx=>WK F x⟩
def Zcw:Fs yb:=Zjc yD
theorem Zjd:Zcw.Ok:=fnO ZMC [(0,Zbp),(1,Zbq)] [] trivial ⟨Zgt,Zgu,ytt⟩
def Q5(F:Nat):yO ((yL yV)):=
 some [1116352408,1899447441,3049323471,3921009573,961987163,1508970993,2453635748,2870763221,3624381080,310598401,607225278,1426881987,1925078388,2162078206,2614888103,3248222580,3835390401,4022224774,264347078,604807628,770255983,1249150122,1555081692,1996064986,2554220882,2821834349,2952996808,3210313671,3336571891,3584528711,113926993,338241895,666307205,773529912,1294757372,1396182291,1695183700,1986661051,2177026350,2456956037,2730485921,2820302411,3259730800,3345764771,3516065817,3600352804,4094571909,275423344,430227734,506948616,659060556,883997877,958139571,1322822218,1537002063,1747873779,1955562222,2024104815,2227730452,2361852424,2428436474,2756734187,3204031479,3329325298]
def ZkG(F:Nat):Fs yb:=⟨181,[],[],[],(zN (.sl .u32)),λx=>Q5 F⟩
def Zdd:Fs yb:=ZkG yD
theorem ZkH:Zdd.Ok:=fnO { still:=[0]} [] [] trivial
def Xd(F:Nat)(s:((yL yV)×(yL yV)×(yL yV)×Int×(yL Unit)×(yL yV))):yO (((yL yV)×(yL yV)×(yL yV)×Int×(yL Unit)×(yL yV))⊕((yL yV)×(yL Unit)×(yL yV))):=
 if(decide (s.2.2.2.1 < 64))=true then
  if(inB 4 s.2.2.2.2.2.length)=true then
   (s.2.2.2.2.2[4]?).bind λe746=>
   (ZB F e746 6).bind λo747=>
   if(inB 4 s.2.2.2.2.2.length)=true then
    (s.2.2.2.2.2[4]?).bind λe748=>
    (ZB F e748 11).bind λo749=>
    if(inB 4 s.2.2.2.2.2.length)=true then
     (s.2.2.2.2.2[4]?).bind λe750=>
     (ZB F e750 25).bind λo751=>
     if(inB 4 s.2.2.2.2.2.length)=true then
      (s.2.2.2.2.2[4]?).bind λe752=>
      if(inB 5 s.2.2.2.2.2.length)=true then
       (s.2.2.2.2.2[5]?).bind λe753=>
       if(inB 4 s.2.2.2.2.2.length)=true then
        (s.2.2.2.2.2[4]?).bind λe754=>
        if(inB 6 s.2.2.2.2.2.length)=true then
         (s.2.2.2.2.2[6]?).bind λe755=>
         let y756:yV:=(e752&&&e753)^^^((4294967295^^^e754)&&&e755)
         if(inB 7 s.2.2.2.2.2.length)=true then
          (s.2.2.2.2.2[7]?).bind λe757=>
          (idx s.2.2.1 s.2.2.2.1).bind λe758=>
          let y759:yV:=((e757+((o747^^^o749)^^^o751))+y756)+e758
          (idx s.2.1 s.2.2.2.1).bind λe760=>
          if(inB 0 s.2.2.2.2.2.length)=true then
           (s.2.2.2.2.2[0]?).bind λe761=>
           (ZB F e761 2).bind λo762=>
           if(inB 0 s.2.2.2.2.2.length)=true then
            (s.2.2.2.2.2[0]?).bind λe763=>
            (ZB F e763 13).bind λo764=>
            if(inB 0 s.2.2.2.2.2.length)=true then
             (s.2.2.2.2.2[0]?).bind λe765=>
             (ZB F e765 22).bind λo766=>
             if(inB 0 s.2.2.2.2.2.length)=true then
              (s.2.2.2.2.2[0]?).bind λe767=>
              if(inB 1 s.2.2.2.2.2.length)=true then
               (s.2.2.2.2.2[1]?).bind λe768=>
               if(inB 0 s.2.2.2.2.2.length)=true then
                (s.2.2.2.2.2[0]?).bind λe769=>
                if(inB 2 s.2.2.2.2.2.length)=true then
                 (s.2.2.2.2.2[2]?).bind λe770=>
                 if(inB 1 s.2.2.2.2.2.length)=true then
                  (s.2.2.2.2.2[1]?).bind λe771=>
                  if(inB 2 s.2.2.2.2.2.length)=true then
                   (s.2.2.2.2.2[2]?).bind λe772=>
                   let y773:yV:=((e767&&&e768)^^^(e769&&&e770))^^^(e771&&&e772);let y774:yV:=((y759+e760)+((o762^^^o764)^^^o766))+y773
                   if(inB 0 s.2.2.2.2.2.length)=true then
                    (s.2.2.2.2.2[0]?).bind λe775=>
                    if(inB 1 s.2.2.2.2.2.length)=true then
                     (s.2.2.2.2.2[1]?).bind λe776=>
                     if(inB 2 s.2.2.2.2.2.length)=true then
                      (s.2.2.2.2.2[2]?).bind λe777=>
                      if(inB 3 s.2.2.2.2.2.length)=true then
                       (s.2.2.2.2.2[3]?).bind λe778=>
                       if(inB 4 s.2.2.2.2.2.length)=true then
                        (s.2.2.2.2.2[4]?).bind λe779=>
                        if(inB 5 s.2.2.2.2.2.length)=true then
                         (s.2.2.2.2.2[5]?).bind λe780=>
                         if(inB 6 s.2.2.2.2.2.length)=true then
                          (s.2.2.2.2.2[6]?).bind λe781=>
                          some (.inl (s.1,s.2.1,s.2.2.1,wi (s.2.2.2.1+1),()::s.2.2.2.2.1,[y774,e775,e776,e777,e778+(y759+e760),e779,e780,e781]))
                         else
                         none
                        else
                        none
                       else
                       none
                      else
                      none
                     else
                     none
                    else
                    none
                   else
                   none
                  else
                  none
                 else
                 none
                else
                none
               else
               none
              else
              none
             else
             none
            else
            none
           else
           none
          else
          none
         else
         none
        else
        none
       else
       none
      else
      none
     else
     none
    else
    none
   else
   none
  else
  none
 else
 some (.inr (s.1,s.2.2.2.2.1,s.2.2.2.2.2))
def Zbr:Lp:=⟨[(0,.v (.sl .u32)),(5,.v (.sl .u32)),(6,.v (.sl .u32)),(7,.rw 0),(8,.v yI)],[.row .u32 true 209],[(.sl .u32),(.sl .u32),(.sl .u32),yI,(.sl (.st [])),(.sl .u32)],[⟨.exit 0,[(0,.v (.sl .u32)),(7,.rw 0)],[.row .u32 true 209],[(.sl .u32),(.sl (.st [])),(.sl .u32)]⟩],Zb (Xd yD) yD⟩
def ZMD:HI:={ own:=[18,20],still:=[4,15,27,31,36,74,78,83],rowt:=[7,18,20,137,142],rew:=[(137,7)]}
theorem Zgv:Zbr.okA yb 171 0:=Zu ZMD [] [QA] ⟨Zcv,ytt⟩
def Xe(F:Nat)(s:((yL yV)×Int×(yL Unit)×(yL yV))):yO (((yL yV)×Int×(yL Unit)×(yL yV))⊕((yL Unit)×(yL yV))):=
 if(decide (s.2.1 < 8))=true then
  if(inB s.2.1 s.2.2.2.length)=true then
   (s.2.2.2[s.2.1.toNat]?).bind λe783=>
   (idx s.1 s.2.1).bind λe784=>
   if(inB s.2.1 s.2.2.2.length)=true then
    (s.2.2.2[s.2.1.toNat]?).bind λe785=>
    some (.inl (s.1,wi (s.2.1+1),s.2.2.1,s.2.2.2.set s.2.1.toNat (e783+e784)))
   else
   none
  else
  none
 else
 some (.inr (s.2.2.1,s.2.2.2))
def Zbs:Lp:=⟨[(0,.v (.sl .u32)),(7,.rw 0),(14,.v yI)],[.row .u32 true 209],[(.sl .u32),yI,(.sl (.st [])),(.sl .u32)],[⟨.exit 2,[(7,.rw 0)],[.row .u32 true 209],[(.sl (.st [])),(.sl .u32)]⟩],Zb (Xe yD) yD⟩
theorem Zgw:Zbs.okA yb 171 1:=Zu ZMD [] [] trivial
def WL(F:Nat)(a0:(yL yV))(a1:(yL yB)):yO ((yL yV)):=
 (WK F a1).bind λo744=>
 (Q5 F).bind λo745=>
 if(apB 0 a0.length 4)=true then
  (Zb (Xd F) F (a0,o744,o745,0,[()],a0)).bind λo782=>
  (Zb (Xe F) F (o782.1,0,o782.2.1,o782.2.2)).bind λo786=>
  some o786.2
 else
 none
def Zje(F:Nat):Fs yb:=⟨171,[.v (.sl .u32),.v (.sl .u8)],[],[(.sl .u32),(.sl .u8)],(zN (.sl .u32)),λx=>WL F x.1 x.2⟩
def Zcx:Fs yb:=Zje yD
theorem Zjf:Zcx.Ok:=fnO ZMD [(0,Zbr),(1,Zbs)] [Zcw,Zdd] ⟨Zjd,ZkH,ytt⟩ ⟨Zgv,Zgw,ytt⟩
def Xl(F:Nat)(s:((yL yB)×(yL yV)×Int×(yL yB))):yO (((yL yB)×(yL yV)×Int×(yL yB))⊕((yL yV)×(yL yB))):=
 if(decide (s.2.2.1 < (s.1.length:Int)))=true then
  if(Zeh s.1.length (some s.2.2.1) (some (wi (s.2.2.1+64))))=true then
   let y789:(yL yB):=(s.1.take ((wi (s.2.2.1+64)).toNat)).drop s.2.2.1.toNat
   (WL F s.2.1 y789).bind λo790=>
   some (.inl (s.1,o790,wi (s.2.2.1+64),s.2.2.2))
  else
  none
 else
 some (.inr (s.2.1,s.2.2.2))
def Zcy:Lp:=⟨[(2,.ref 0 []),(3,.v (.sl .u8)),(4,.v (.sl .u32)),(5,.v yI)],[.var (.v (.arr 32 .u8)) true],[(.sl .u8),(.sl .u32),yI,(.arr 32 .u8)],[⟨.exit 0,[(2,.ref 0 []),(4,.v (.sl .u32))],[.var (.v (.arr 32 .u8)) true],[(.sl .u32),(.arr 32 .u8)]⟩],Zb (Xl yD) yD⟩
theorem Zhd:Zcy.okA yb 135 0:=Zu { still:=[8,17,22]} [] [Zcx] ⟨Zjf,ytt⟩
def Xm(F:Nat)(s:((yL yV)×Int×(yL yB)×(yL yB))):yO (((yL yV)×Int×(yL yB)×(yL yB))⊕((yL yB)×(yL yB))):=
 if(decide (s.2.1 < 32))=true then
  (idx s.1 (wi (Int.tdiv s.2.1 4))).bind λe792=>
  if(decide (0<=wi (24 - (wi (8*(Int.tmod s.2.1 4))))))=true then
   let y793:yV:=Zc9 e792 (min (wi (24 - (wi (8*(Int.tmod s.2.1 4))))).toNat 32)
   if(inB s.2.1 32)=true then
    (s.2.2.2[s.2.1.toNat]?).bind λe794=>
    some (.inl (s.1,wi (s.2.1+1),s.2.2.1,s.2.2.2.set s.2.1.toNat (w8 (y793.toNat:Int))))
   else
   none
  else
  none
 else
 some (.inr (s.2.2.1,s.2.2.2))
def Zcz:Lp:=⟨[(2,.ref 0 []),(4,.v (.sl .u32)),(6,.ref 1 []),(7,.v yI)],[.var (.v (.arr 32 .u8)) true,.var (.v (.arr 32 .u8)) true],[(.sl .u32),yI,(.arr 32 .u8),(.arr 32 .u8)],[⟨.exit 2,[(2,.ref 0 []),(6,.ref 1 [])],[.var (.v (.arr 32 .u8)) true,.var (.v (.arr 32 .u8)) true],[(.arr 32 .u8),(.arr 32 .u8)]⟩],Zb (Xm yD) yD⟩
theorem Zhe:Zcz.okA yb 135 1:=Zu { still:=[8,17,22]} [] [] trivial
def X2(F:Nat)(a0:(yL yB)):yO ((yL yB)):=
 (Wz F a0).bind λo787=>
 (Qf F).bind λo788=>
 (Zb (Xl F) F (o787,o788,0,yzz)).bind λo791=>
 (Zb (Xm F) F (o791.1,0,o791.2,yzz)).bind λo795=>
 some o795.2
def Qg(F:Nat):Fs yb:=⟨135,[.v (.sl .u8)],[],[(.sl .u8)],(zN (.arr 32 .u8)),λx=>X2 F x⟩
def ZlH:Fs yb:=Qg yD
theorem ZkI:ZlH.Ok:=fnO { still:=[8,17,22]} [(0,Zcy),(1,Zcz)] [Zbn,Zbo] ⟨Zid,Zif,ytt⟩ ⟨Zhd,Zhe,ytt⟩
end
end Go.Proofs.YtpgpjjjoglafdaaGreat
end
section
set_option maxRecDepth 4000
namespace Go.Ev
theorem ZEv{I X:Type}{step:I->yO (I⊕X)}{st:Nat->I}{x:X}(n:Nat)(hs:∀k,k < n->step (st k)=some (.inl (st (k+1))))(he:step (st n)=some (.inr x)):∀(d k f:Nat),k+d=n->d < f->Zb step f (st k)=some x
 |0,k,f+1,h,_=>by
  have e:k=n:=by omega
  subst e;unfold Zb
  rw[he,ya]
 |d+1,k,f+1,h,hf=>by
  unfold Zb;rw[hs k (by omega),ya];exact ZEv n hs he d (k+1) f (by omega) (by omega)
theorem Zt{I X:Type}{step:I->yO (I⊕X)}(n:Nat)(st:Nat->I){x:X}(hs:∀k,k < n->step (st k)=some (.inl (st (k+1))))(he:step (st n)=some (.inr x))(hn:n < 18446744073709551616):
 Zb step yD (st 0)=some x:=ZEv n hs he n 0 yD (by omega) (by rw[ZdA];exact hn)
theorem ZBb{I X:Type}{step:I->yO (I⊕X)}{Post:X->Prop}(n:Nat)(S:Nat->I->Prop)(hs:∀k s,k < n->S k s->(∃t,step s=some (.inl t)/\S (k+1) t)\/∃x,step s=some (.inr x)/\Post x)
 (he:∀s,S n s->∃x,step s=some (.inr x)/\Post x):∀(d k f:Nat)(s:I),k+d=n->d < f->S k s->∃x,Zb step f s=some x/\Post x
 |0,k,f+1,s,h,_,hS=>by
  have e:k=n:=by omega
  subst e;obtain⟨x,h1,h2⟩:=he s hS;unfold Zb;rw[h1,ya]
  exact⟨x,rfl,h2⟩
 |d+1,k,f+1,s,h,hf,hS=>by
  unfold Zb;rcases hs k s (by omega) hS with⟨t,h1,h2⟩|⟨x,h1,h2⟩
  ·rw[h1,ya];exact ZBb n S hs he d (k+1) f t (by omega) (by omega) h2
  ·rw[h1,ya];exact⟨x,rfl,h2⟩
theorem X6{I X:Type}{step:I->yO (I⊕X)}(n:Nat)(S:Nat->I->Prop)(Post:X->Prop){i:I}(h0:S 0 i)(hn:n < 18446744073709551616)
 (hs:∀k s,k < n->S k s->(∃t,step s=some (.inl t)/\S (k+1) t)\/∃x,step s=some (.inr x)/\Post x)
 (he:∀s,S n s->∃x,step s=some (.inr x)/\Post x):∃x,Zb step yD i=some x/\Post x:=ZBb n S hs he n 0 yD i (by omega) (by rw[ZdA];exact hn) h0
theorem ZF{a b:Nat}(h:a < b):decide ((a:Int) < (b:Int))=true:=yY (by omega)
theorem ZA{a:Nat}:decide ((a:Int) < (a:Int))=false:=yZ (by omega)
theorem Zp{k:Nat}(h:k < 9223372036854775807):wi ((k:Int)+1)=((k+1:Nat):Int):=by
 rw[ZO (by omega) (by omega)];omega
theorem Zl{α:Type}{l:yL α}{k:Nat}{y:α}(h:l[k]? =some y):idx l (k:Int)=some y:=Zof (by omega) (by simpa using h)
theorem ZwM{α:Type}{ls:yL (yL α)}{k:Nat}{e:yL α}(h:ls[k]? =some e):(ls.take (k+1)).flatten=(ls.take k).flatten++e:=by
 rw[List.take_add_one,h];simp
theorem ZEw{α:Type}(ls:yL (yL α))(k:Nat):(ls.take k).flatten.length<=ls.flatten.length:=by
 have h:=congrArg (λl=>(List.flatten l).length) (ybk k ls);simp only[List.flatten_append,yo] at h;omega
theorem WM{α:Type}{l:yL α}{k:Nat}{e:α}(h:l[k]? =some e):l.take (k+1)=l.take k++[e]:=by
 rw[List.take_add_one,h];rfl
theorem Ze{α:Type}{l:yL α}{k:Nat}(h:k < l.length):∃e,l[k]? =some e/\e∈l:=⟨l[k],yac h,List.getElem_mem h⟩
end Go.Ev
end
