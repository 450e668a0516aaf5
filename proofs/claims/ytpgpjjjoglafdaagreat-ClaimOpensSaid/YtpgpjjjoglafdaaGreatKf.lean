/- Parts of the proof, in one file. -/
import Derived.Test.YtpgpjjjoglafdaaGreatKe
open Bool renaming and_eq_true → yj
open Go.Proofs.Tryz renaming prog → yb
open List renaming length_append → yo, replicate → yv, length_map → yy, getElem?_eq_getElem → yz, append_assoc → yac, map_cons → yad, length_take → yae, length_cons → yah, map_append → yai, getElem?_map → yaj, getElem?_eq_none → yat, getElem?_cons_succ → yav, mem_cons → yax, take_append_drop → ybj, length_set → ybq, length_drop → yca, not_mem_nil → ycj, length_replicate → yct, getElem?_set_self → ycw, getD_eq_getElem?_getD → ycz
open Nat renaming add → yw, shiftRight → yag, mod_eq_of_lt → yaq, zero_add → ybf, mod_lt → ybn, mul_comm → ybs
open Option renaming bind_some → ya
open UInt32 renaming toNat → ybk, ofNat → ycf, toNat_ofNat' → ycx
open UInt64 renaming ofNat → yaf, toNat_ofNat' → ybb
open UInt8 renaming ofNat → yaz, toNat → ybh
set_option linter.unusedVariables false
set_option linter.unusedSimpArgs false
section
set_option maxRecDepth 4000
namespace Go.Proofs.YtpgpjjjoglafdaaGreat
open Go Go.Ev
noncomputable section
def Ys(F:Nat)(a0:yU):yO (Bool):=
 if(decide (a0 > 0))=true then
  if(decide (a0 < 4611686018427377339))=true then
   (VM F a0 2305843009213688669).bind λo41=>
   some (o41==1)
  else
  some false
 else
 some false
def ZqB(F:Nat):Fs yb:=⟨33,[.v .u64],[],[.u64],(zN .bool),λx=>Ys F x⟩
def Xy:Fs yb:=ZqB yD
theorem XN:Xy.Ok:=fnO { still:=[2,10]} [] [Za4] ⟨ZcX,ytt⟩
def Qx(F:Nat)(a0:Int):yO (Bool):=
 if(decide (a0 >= 0))=true then
  some (decide (a0<=1125899906842624))
 else
 some false
def Zvt(F:Nat):Fs yb:=⟨107,[.v yI],[],[yI],(zN .bool),λx=>Qx F x⟩
def ZnP:Fs yb:=Zvt yD
theorem Zvu:ZnP.Ok:=fnO { still:=[2]} [] [] trivial
def Vt(F:Nat)(a0:Int)(a1:Int):yO ((Int×Bool)):=
 (Qx F a0).bind λo42=>
 if(!o42)=true then
  some (0,false)
 else
 (Qx F a1).bind λo43=>
 if(!o43)=true then
  some (0,false)
 else
 if(decide (a0 > (wi (1125899906842624 - a1))))=true then
  some (0,false)
 else
 some (wi (a0+a1),true)
def Zj6(F:Nat):Fs yb:=⟨66,[.v yI,.v yI],[],[yI,yI],[⟨.ret,[(0,.tup [.v yI,.v .bool])],[],[yI,.bool]⟩],λx=>Vt F x.1 x.2⟩
def Zip:Fs yb:=Zj6 yD
theorem ZfD:Zip.Ok:=fnO { still:=[4,5,6,10]} [] [ZnP] ⟨Zvu,ytt⟩
def Xa(F:Nat)(a0:Int)(a1:Int)(a2:Int):yO (Bool):=
 if(decide (a1<=a0))=true then
  some (decide (a0<=a2))
 else
 some false
def ZmD(F:Nat):Fs yb:=⟨164,[.v yI,.v yI,.v yI],[],[yI,yI,yI],(zN .bool),λx=>Xa F x.1 x.2.1 x.2.2⟩
def Zgf:Fs yb:=ZmD yD
theorem ZmE:Zgf.Ok:=fnO { still:=[6]} [] [] trivial
abbrev Zen:Ty:=(.st [yI,yI,yI,yI,yI,yI])
abbrev Terms:Type:=(Int×Int×Int×Int×Int×Int)
def Zca(F:Nat)(a0:Terms):yO (Bool):=
 (Xa F a0.1 0 65536).bind λo44=>
 if o44=true then
  (Xa F a0.2.2.1 1 4096).bind λo45=>
  if o45=true then
   (Xa F a0.2.2.2.1 0 16).bind λo46=>
   if o46=true then
    (Xa F a0.2.1 a0.1 1125899906842624).bind λo47=>
    if o47=true then
     (Xa F a0.2.2.2.2.1 1 1125899906842624).bind λo48=>
     if o48=true then
      (Xa F a0.2.2.2.2.2 0 1125899906842624).bind λo49=>
      some o49
     else
     some false
    else
    some false
   else
   some false
  else
  some false
 else
 some false
def ZqC(F:Nat):Fs yb:=⟨121,[.v Zen],[],[Zen],(zN .bool),λx=>Zca F x⟩
def ZiZ:Fs yb:=ZqC yD
def hi0:HI:={ still:=[2,7,12,18,25,27,33,39]}
theorem ZqD:ZiZ.Ok:=fnO hi0 [] [Zgf] ⟨ZmE,ytt⟩
def Qk(F:Nat)(a0:yU):yO (Bool):=
 if(a0==1)=true then
  some true
 else
 (Ys F a0).bind λo50=>
 some (!o50)
def Zld(F:Nat):Fs yb:=⟨165,[.v .u64],[],[.u64],(zN .bool),λx=>Qk F x⟩
def ZeV:Fs yb:=Zld yD
theorem Zle:ZeV.Ok:=fnO { still:=[2,6]} [] [Xy] ⟨XN,ytt⟩
abbrev Ziq:Ty:=(.st [.u64,.u64,.u64,.u64,.u64])
abbrev Basics:Type:=(yU×yU×yU×yU×yU)
abbrev Basics.Cond(x:Basics):yU:=x.2.2.2.1
def X5(F:Nat)(s:((yL yU)×Int×Int)):yO (((yL yU)×Int×Int)⊕(Int⊕Unit)):=
 if(decide (s.2.2 < s.2.1))=true then
  (idx s.1 s.2.2).bind λe51=>
  (Qk F e51).bind λo52=>
  if o52=true then
   some (.inr (.inl s.2.2))
  else
  some (.inl (s.1,s.2.1,wi (s.2.2+1)))
 else
 some (.inr (.inr ()))
def ZeW:Lp:=⟨[(0,.v (.sl .u64)),(1,.fn 165 []),(7,.v yI),(8,.v yI)],[],[(.sl .u64),yI,yI],[⟨.ret,[(4,.v yI)],[],[yI]⟩,⟨.exit 0,[],[],[]⟩],Zc (X5 yD) yD⟩
theorem Ziy:ZeW.okA yb 147 0:=ZN { still:=[4,15]} [] [ZeV] ⟨Zle,ytt⟩
def ZcY(F:Nat)(a0:(yL yU)):yO (Int):=
 (Zc (X5 F) F (a0,(a0.length:Int),0)).bind λo53=>
 match o53 with
 |.inl o54=>
  some o54
 |.inr o55=>
  some (-1)
def ZmF(F:Nat):Fs yb:=⟨147,[.v (.sl .u64),.fn 165 []],[],[(.sl .u64)],(zN yI),λx=>ZcY F x⟩
def Zgg:Fs yb:=ZmF yD
theorem ZmG:Zgg.Ok:=fnO { still:=[4,15]} [(0,ZeW)] [] trivial ⟨Ziy,ytt⟩
def ZcZ(F:Nat)(a0:(yL yU)):yO (Bool):=
 (ZcY F a0).bind λo56=>
 some (decide (o56 >= 0))
def ZmH(F:Nat):Fs yb:=⟨105,[.v (.sl .u64),.fn 165 []],[],[(.sl .u64)],(zN .bool),λx=>ZcZ F x⟩
def Zgh:Fs yb:=ZmH yD
theorem ZmI:Zgh.Ok:=fnO { still:=[4,5,6]} [] [Zgg] ⟨ZmG,ytt⟩
def Za5(F:Nat)(a0:Basics):yO (Bool):=
 (ZcZ F [a0.1,a0.2.1,a0.2.2.1,a0.2.2.2.1,a0.2.2.2.2]).bind λo57=>
 some (!o57)
def Zol(F:Nat):Fs yb:=⟨122,[.v Ziq],[],[Ziq],(zN .bool),λx=>Za5 F x⟩
def Zha:Fs yb:=Zol yD
theorem Zom:Zha.Ok:=fnO { still:=[2,14,15]} [] [Zgh] ⟨ZmI,ytt⟩
abbrev ZM:Ty:=(.st [(.arr 32 .u8),yI])
abbrev ZI:Type:=((yL yB)×Int)
abbrev ZK:Ty:=(.st [ZM,yI,(.arr 2 Ziq),(.arr 2 Zen),yI])
abbrev Chan:Type:=(ZI×Int×(yL Basics)×(yL Terms)×Int)
abbrev Chan.Basics(x:Chan):(yL Basics):=x.2.2.1
abbrev Chan.Terms(x:Chan):(yL Terms):=x.2.2.2.1
def W6(F:Nat)(s:((yL Terms)×Int×Chan)):yO (((yL Terms)×Int×Chan)⊕((Int×Chan)⊕Chan)):=
 if(decide (s.2.1 < 2))=true then
  (idx s.1 s.2.1).bind λe58=>
  (Zca F e58).bind λo59=>
  if(!o59)=true then
   some (.inr (.inl (1,s.2.2)))
  else
  if(inB s.2.1 2)=true then
   (s.2.2.2.2.1[s.2.1.toNat]?).bind λe60=>
   (Za5 F e60).bind λo61=>
   if(!o61)=true then
    some (.inr (.inl (1,s.2.2)))
   else
   some (.inl (s.1,wi (s.2.1+1),s.2.2))
  else
  none
 else
 some (.inr (.inr s.2.2))
def Zlf:Lp:=⟨[(1,.ref 0 []),(34,.v (.arr 2 Zen)),(35,.v yI)],[.var (.v ZK) true],[(.arr 2 Zen),yI,ZK],[⟨.ret,[(2,.v yI)],[.var (.v ZK) true],[yI,ZK]⟩,⟨.exit 0,[(1,.ref 0 [])],[.var (.v ZK) true],[ZK]⟩],Zc (W6 yD) yD⟩
theorem Zon:Zlf.okA yb 78 0:=ZN { still:=[2,39,46,55,59]} [] [ZiZ,Zha] ⟨ZqD,Zom,ytt⟩
def ZfE(F:Nat)(a0:Chan):yO (Int):=
 if(decide (a0.2.1 < 1))=true then
  some 1
 else
 if(decide (a0.2.1 > 1125899906842624))=true then
  some 1
 else
 if(decide (a0.1.2 < 0))=true then
  some 1
 else
 if(decide (a0.1.2 >= 64))=true then
  some 1
 else
 if((bits .andNot .i64 a0.2.2.2.2 1)!=0)=true then
  some 1
 else
 (Zc (W6 F) F (a0.2.2.2.1,0,a0)).bind λo62=>
 match o62 with
 |.inl o63=>
  some o63.1
 |.inr o64=>
  (o64.2.2.2.1[0]?).bind λe65=>
  (o64.2.2.2.1[1]?).bind λe66=>
  (Vt F e65.2.1 e66.2.1).bind λo67=>
  if(!o67.2)=true then
   some 10
  else
  if(decide (o67.1 > o64.2.1))=true then
   some 10
  else
  some 0
def Zvv(F:Nat):Fs yb:=⟨78,[.v ZK],[],[ZK],(zN yI),λx=>ZfE F x⟩
def ZnQ:Fs yb:=Zvv yD
theorem Zvw:ZnQ.Ok:=fnO { still:=[2,39,46,55,59]} [(0,Zlf)] [Zip] ⟨ZfD,ytt⟩ ⟨Zon,ytt⟩
def Ql(F:Nat)(a0:Int)(s0:Int)(s1:Int):yO ((Bool×Int×Int)):=
 if(decide (a0 < s0))=true then
  some (true,s0,s1)
 else
 some (decide (a0 > s1),s0,s1)
def Zlg(F:Nat):Fs yb:=⟨124,[.v yI,.ref 0 [],.ref 1 []],[.var (.v yI) true,.var (.v yI) true],[yI,yI,yI],[⟨.ret,[(0,.v .bool)],[.var (.v yI) true,.var (.v yI) true],[.bool,yI,yI]⟩],λx=>Ql F x.1 x.2.1 x.2.2⟩
def ZeX:Fs yb:=Zlg yD
theorem Zlh:ZeX.Ok:=fnO { still:=[4]} [] [] trivial
def ZH(F:Nat)(s:((yL Int)×Int×Int×Int×Int)):yO (((yL Int)×Int×Int×Int×Int)⊕((Int×Int×Int)⊕(Int×Int))):=
 if(decide (s.2.2.1 < s.2.1))=true then
  (idx s.1 s.2.2.1).bind λe68=>
  (Ql F e68 s.2.2.2.1 s.2.2.2.2).bind λo69=>
  if o69.1=true then
   some (.inr (.inl (s.2.2.1,o69.2.1,o69.2.2)))
  else
  some (.inl (s.1,s.2.1,wi (s.2.2.1+1),o69.2.1,o69.2.2))
 else
 some (.inr (.inr (s.2.2.2.1,s.2.2.2.2)))
def Vg:Lp:=⟨[(0,.v (.sl yI)),(1,.fn 124 [.ref 0 [],.ref 1 []]),(7,.v yI),(8,.v yI)],[.var (.v yI) true,.var (.v yI) true],[(.sl yI),yI,yI,yI,yI],[⟨.ret,[(4,.v yI)],[.var (.v yI) true,.var (.v yI) true],[yI,yI,yI]⟩,⟨.exit 0,[],[.var (.v yI) true,.var (.v yI) true],[yI,yI]⟩],Zc (ZH yD) yD⟩
theorem ZaN:Vg.okA yb 166 0:=ZN { still:=[4,15]} [] [ZeX] ⟨Zlh,ytt⟩
def YX(F:Nat)(a0:(yL Int))(s0:Int)(s1:Int):yO ((Int×Int×Int)):=
 (Zc (ZH F) F (a0,(a0.length:Int),0,s0,s1)).bind λo70=>
 match o70 with
 |.inl o71=>
  some (o71.1,o71.2.1,o71.2.2)
 |.inr o72=>
  some ((-1),o72.1,o72.2)
def Zcb(F:Nat):Fs yb:=⟨166,[.v (.sl yI),.fn 124 [.ref 0 [],.ref 1 []]],[.var (.v yI) true,.var (.v yI) true],[(.sl yI),yI,yI],[⟨.ret,[(0,.v yI)],[.var (.v yI) true,.var (.v yI) true],[yI,yI,yI]⟩],λx=>YX F x.1 x.2.1 x.2.2⟩
def Vu:Fs yb:=Zcb yD
theorem Zcc:Vu.Ok:=fnO { still:=[4,15]} [(0,Vg)] [] trivial ⟨ZaN,ytt⟩
def Yt(F:Nat)(a0:(yL Int))(s0:Int)(s1:Int):yO ((Bool×Int×Int)):=
 (YX F a0 s0 s1).bind λo73=>
 some (decide (o73.1 >= 0),o73.2.1,o73.2.2)
def ZaO(F:Nat):Fs yb:=⟨123,[.v (.sl yI),.fn 124 [.ref 0 [],.ref 1 []]],[.var (.v yI) true,.var (.v yI) true],[(.sl yI),yI,yI],[⟨.ret,[(0,.v .bool)],[.var (.v yI) true,.var (.v yI) true],[.bool,yI,yI]⟩],λx=>Yt F x.1 x.2.1 x.2.2⟩
def WB:Fs yb:=ZaO yD
theorem ZaP:WB.Ok:=fnO { still:=[4,5,6]} [] [Vu] ⟨Zcc,ytt⟩
def ZT(F:Nat)(a0:Int)(a1:Int)(a2:(yL Int)):yO (Bool):=
 (Yt F a2 a0 a1).bind λo74=>
 some (!o74.1)
def Zoo(F:Nat):Fs yb:=⟨79,[.v yI,.v yI,.v (.sl yI)],[],[yI,yI,(.sl yI)],(zN .bool),λx=>ZT F x.1 x.2.1 x.2.2⟩
def Zc0:Fs yb:=Zoo yD
theorem Zgi:Zc0.Ok:=fnO { still:=[6,7,8]} [] [WB] ⟨ZaP,ytt⟩
abbrev WC:Ty:=(.st [yI,yI,yI,.u64,yI])
abbrev Cond:Type:=(Int×Int×Int×yU×Int)
def ZdW(F:Nat)(a0:Cond):yO (Bool):=
 (ZT F 0 1 [a0.1]).bind λo75=>
 if o75=true then
  (ZT F 1 1048576 [a0.2.1]).bind λo76=>
  if o76=true then
   (ZT F 1 1125899906842624 [a0.2.2.1]).bind λo77=>
   if o77=true then
    (ZT F 1 1048576 [a0.2.2.2.2]).bind λo78=>
    if o78=true then
     (Ys F a0.2.2.2.1).bind λo79=>
     if o79=true then
      some (a0.2.2.2.1 !=1)
     else
     some false
    else
    some false
   else
   some false
  else
  some false
 else
 some false
def Zsk(F:Nat):Fs yb:=⟨80,[.v WC],[],[WC],(zN .bool),λx=>ZdW F x⟩
def Zli:Fs yb:=Zsk yD
theorem Zsl:Zli.Ok:=fnO { still:=[2,5,10,16,22,27]} [] [Zc0,Xy] ⟨Zgi,XN,ytt⟩
def Wp(F:Nat)(s:(Int×(yL Int)×Int×Int)):yO ((Int×(yL Int)×Int×Int)⊕(Int⊕Int)):=
 if(decide (s.2.2.2 < s.2.2.1))=true then
  (idx s.2.1 s.2.2.2).bind λe80=>
  if(e80 !=s.1)=true then
   some (.inr (.inl e80))
  else
  some (.inl (s.1,s.2.1,s.2.2.1,wi (s.2.2.2+1)))
 else
 some (.inr (.inr s.1))
def Zi0:Lp:=⟨[(3,.v yI),(6,.v (.sl yI)),(7,.v yI),(8,.v yI)],[],[yI,(.sl yI),yI,yI],[⟨.ret,[(2,.v yI)],[],[yI]⟩,⟨.exit 0,[(3,.v yI)],[],[yI]⟩],Zc (Wp yD) yD⟩
theorem ZmJ:Zi0.okA yb 46 0:=ZN { still:=[2]} [] [] trivial
def Zbr(F:Nat)(a0:(yL Int)):yO (Int):=
 (Zc (Wp F) F (0,a0,(a0.length:Int),0)).bind λo81=>
 match o81 with
 |.inl o82=>
  some o82
 |.inr o83=>
  some o83
def Zsm(F:Nat):Fs yb:=⟨46,[.v (.sl yI)],[],[(.sl yI)],(zN yI),λx=>Zbr F x⟩
def ZfF:Fs yb:=Zsm yD
theorem Zi1:ZfF.Ok:=fnO { still:=[2]} [(0,Zi0)] [] trivial ⟨ZmJ,ytt⟩
def Zad(F:Nat)(a0:Int):yO (Bool):=
 some (a0 !=a0)
def ZmK(F:Nat):Fs yb:=⟨90,[.v yI],[],[yI],(zN .bool),λx=>Zad F x⟩
def Zgj:Fs yb:=ZmK yD
theorem ZmL:Zgj.Ok:=fnO { still:=[2]} [] [] trivial
def Yg(F:Nat)(a0:Int)(a1:Int):yO (Int):=
 (Zad F a0).bind λo84=>
 (Zad F a1).bind λo85=>
 if o84=true then
  if o85=true then
   some 0
  else
  some (-1)
 else
 if o85=true then
  some 1
 else
 if(decide (a0 < a1))=true then
  some (-1)
 else
 if(decide (a0 > a1))=true then
  some 1
 else
 some 0
def Zj7(F:Nat):Fs yb:=⟨47,[.v yI,.v yI],[],[yI,yI],(zN yI),λx=>Yg F x.1 x.2⟩
def Zae:Fs yb:=Zj7 yD
theorem Zc1:Zae.Ok:=fnO { still:=[4,7,9]} [] [Zgj] ⟨ZmL,ytt⟩
def Zcd(F:Nat)(a0:Cond)(a1:Cond):yO (Int):=
 (Yg F a0.1 a1.1).bind λo86=>
 (Yg F a0.2.1 a1.2.1).bind λo87=>
 (Zbr F [o86,o87]).bind λo88=>
 some o88
def ZqE(F:Nat):Fs yb:=⟨81,[.v WC,.v WC],[],[WC,WC],(zN yI),λx=>Zcd F x.1 x.2⟩
def Zi2:Fs yb:=ZqE yD
theorem ZqF:Zi2.Ok:=fnO { still:=[4,6,8,11,13,15]} [] [Zae,ZfF] ⟨Zc1,Zi1,ytt⟩
abbrev Zt:Ty:=(.st [yI,(.arr 2 yI),(.sl WC),yI])
abbrev yG:Type:=(Int×(yL Int)×(yL Cond)×Int)
def Vh(F:Nat)(s:(Int×Int×Int×(yL Cond)×Int×Int×yG)):yO ((Int×Int×Int×(yL Cond)×Int×Int×yG)⊕(Int×Int×yG)):=
 if(decide (s.2.2.2.2.2.1 < s.2.2.2.2.1))=true then
  (idx s.2.2.2.1 s.2.2.2.2.2.1).bind λe89=>
  if(e89.1==(wi (1 - s.1)))=true then
   some (.inl (s.1,wi (s.2.1+1),wi (s.2.2.1+e89.2.2.1),s.2.2.2.1,s.2.2.2.2.1,wi (s.2.2.2.2.2.1+1),s.2.2.2.2.2.2))
  else
  some (.inl (s.1,s.2.1,s.2.2.1,s.2.2.2.1,s.2.2.2.2.1,wi (s.2.2.2.2.2.1+1),s.2.2.2.2.2.2))
 else
 some (.inr (s.2.1,s.2.2.1,s.2.2.2.2.2.2))
def ZeY:Lp:=⟨[(1,.v yI),(6,.v yI),(7,.v yI),(11,.v (.sl WC)),(12,.v yI),(13,.v yI)],[.var (.v Zt) true],[yI,yI,yI,(.sl WC),yI,yI,Zt],[⟨.exit 0,[(6,.v yI),(7,.v yI)],[.var (.v Zt) true],[yI,yI,Zt]⟩],Zc (Vh yD) yD⟩
theorem Ziz:ZeY.okA yb 82 0:=ZN { still:=[4,5]} [] [] trivial
def Zaf(F:Nat)(a0:yG)(a1:Int):yO ((Int×Int)):=
 (Zc (Vh F) F (a1,0,0,a0.2.2.1,(a0.2.2.1.length:Int),0,a0)).bind λo90=>
 some (o90.1,o90.2.1)
def ZmM(F:Nat):Fs yb:=⟨82,[.v Zt,.v yI],[],[Zt,yI],[⟨.ret,[(0,.tup [.v yI,.v yI])],[],[yI,yI]⟩],λx=>Zaf F x.1 x.2⟩
def Zgk:Fs yb:=ZmM yD
theorem ZmN:Zgk.Ok:=fnO { still:=[4,5]} [(0,ZeY)] [] trivial ⟨Ziz,ytt⟩
def Qm(F:Nat)(s:(Int×(yL Cond)×Int×Int×yG)):yO ((Int×(yL Cond)×Int×Int×yG)⊕(Int×yG)):=
 if(decide (s.2.2.2.1 < s.2.2.1))=true then
  (idx s.2.1 s.2.2.2.1).bind λe93=>
  some (.inl (wi (s.1+e93.2.2.1),s.2.1,s.2.2.1,wi (s.2.2.2.1+1),s.2.2.2.2))
 else
 some (.inr (s.1,s.2.2.2.2))
def Zhb:Lp:=⟨[(3,.v yI),(14,.v (.sl WC)),(15,.v yI),(16,.v yI)],[.var (.v Zt) true],[yI,(.sl WC),yI,yI,Zt],[⟨.exit 0,[(3,.v yI)],[.var (.v Zt) true],[yI,Zt]⟩],Zc (Qm yD) yD⟩
theorem Zlj:Zhb.okA yb 83 0:=ZN { still:=[2]} [] [] trivial
def Zce(F:Nat)(a0:yG):yO (Int):=
 (a0.2.1[0]?).bind λe91=>
 (a0.2.1[1]?).bind λe92=>
 (Zc (Qm F) F (wi (e91+e92),a0.2.2.1,(a0.2.2.1.length:Int),0,a0)).bind λo94=>
 some o94.1
def ZqG(F:Nat):Fs yb:=⟨83,[.v Zt],[],[Zt],(zN yI),λx=>Zce F x⟩
def Zi3:Fs yb:=ZqG yD
theorem ZqH:Zi3.Ok:=fnO { still:=[2]} [(0,Zhb)] [] trivial ⟨Zlj,ytt⟩
def Zeo(F:Nat)(a0:Int):yO (Int):=
 if(decide (a0 < 0))=true then
  some 0
 else
 if(decide (a0 > 16))=true then
  some 0
 else
 some (wi (68+(wi (8*a0))))
def Zop(F:Nat):Fs yb:=⟨128,[.v yI],[],[yI],(zN yI),λx=>Zeo F x⟩
def Zhc:Fs yb:=Zop yD
theorem Zoq:Zhc.Ok:=fnO { still:=[2]} [] [] trivial
def Zc2(F:Nat)(a0:Int)(a1:Int):yO (Int):=
 if(decide (a0 < 0))=true then
  some 0
 else
 if(decide (a0 > 1000))=true then
  some 0
 else
 (Zeo F a1).bind λo95=>
 some (wi (a0*o95))
def Zvx(F:Nat):Fs yb:=⟨88,[.v yI,.v yI],[],[yI,yI],(zN yI),λx=>Zc2 F x.1 x.2⟩
def Zhd:Fs yb:=Zvx yD
theorem Zlk:Zhd.Ok:=fnO { still:=[4,12]} [] [Zhc] ⟨Zoq,ytt⟩
def ZdX(F:Nat)(a0:Chan)(a1:yG):yO (Int):=
 (Zc2 F a1.2.2.2 (a1.2.2.1.length:Int)).bind λo96=>
 some (wi (o96+660))
def Zsn(F:Nat):Fs yb:=⟨84,[.v ZK,.v Zt],[],[ZK,Zt],(zN yI),λx=>ZdX F x.1 x.2⟩
def Zll:Fs yb:=Zsn yD
theorem Zso:Zll.Ok:=fnO { still:=[4,6,9]} [] [Zhd] ⟨Zlk,ytt⟩
def Xk(F:Nat)(s:((yL Cond)×Int×Int×Chan×yG)):yO (((yL Cond)×Int×Int×Chan×yG)⊕((Bool×Chan×yG)⊕(Chan×yG))):=
 if(decide (s.2.2.1 < s.2.1))=true then
  (idx s.1 s.2.2.1).bind λe103=>
  (ZdW F e103).bind λo104=>
  if(!o104)=true then
   some (.inr (.inl (false,s.2.2.2.1,s.2.2.2.2)))
  else
  if(inB (wi (1 - e103.1)) 2)=true then
   (s.2.2.2.1.2.2.2.1[(wi (1 - e103.1)).toNat]?).bind λe105=>
   if(decide (e103.2.2.1 < e105.2.2.2.2.1))=true then
    some (.inr (.inl (false,s.2.2.2.1,s.2.2.2.2)))
   else
   if(decide (s.2.2.1 > 0))=true then
    (idx s.2.2.2.2.2.2.1 (wi (s.2.2.1 - 1))).bind λe106=>
    (Zcd F e106 e103).bind λo107=>
    if(decide (o107 >= 0))=true then
     some (.inr (.inl (false,s.2.2.2.1,s.2.2.2.2)))
    else
    some (.inl (s.1,s.2.1,wi (s.2.2.1+1),s.2.2.2.1,s.2.2.2.2))
   else
   some (.inl (s.1,s.2.1,wi (s.2.2.1+1),s.2.2.2.1,s.2.2.2.2))
  else
  none
 else
 some (.inr (.inr (s.2.2.2.1,s.2.2.2.2)))
def Zhe:Lp:=⟨[(2,.ref 0 []),(3,.ref 1 []),(46,.v (.sl WC)),(47,.v yI),(48,.v yI)],[.var (.v ZK) true,.var (.v Zt) true],[(.sl WC),yI,yI,ZK,Zt],[⟨.ret,[(4,.v .bool)],[.var (.v ZK) true,.var (.v Zt) true],[.bool,ZK,Zt]⟩,⟨.exit 0,[(2,.ref 0 []),(3,.ref 1 [])],[.var (.v ZK) true,.var (.v Zt) true],[ZK,Zt]⟩],Zc (Xk yD) yD⟩
def hi1:HI:={ still:=[4,11,17,28,35,53,77,78,91,92,107,118,119]}
theorem Zlm:Zhe.okA yb 34 0:=ZN hi1 [] [Zli,Zi2] ⟨Zsl,ZqF,ytt⟩
def XW(F:Nat)(s:((yL Terms)×Int×Chan×yG)):yO (((yL Terms)×Int×Chan×yG)⊕((Bool×Chan×yG)⊕(Chan×yG))):=
 if(decide (s.2.1 < 2))=true then
  (idx s.1 s.2.1).bind λe111=>
  (Zaf F s.2.2.2 s.2.1).bind λo112=>
  if(decide (o112.1 > e111.2.2.2.1))=true then
   some (.inr (.inl (false,s.2.2.1,s.2.2.2)))
  else
  if(decide (o112.2 > e111.2.2.2.2.2))=true then
   some (.inr (.inl (false,s.2.2.1,s.2.2.2)))
  else
  some (.inl (s.1,wi (s.2.1+1),s.2.2.1,s.2.2.2))
 else
 some (.inr (.inr (s.2.2.1,s.2.2.2)))
def Zhf:Lp:=⟨[(2,.ref 0 []),(3,.ref 1 []),(85,.v (.arr 2 Zen)),(86,.v yI)],[.var (.v ZK) true,.var (.v Zt) true],[(.arr 2 Zen),yI,ZK,Zt],[⟨.ret,[(4,.v .bool)],[.var (.v ZK) true,.var (.v Zt) true],[.bool,ZK,Zt]⟩,⟨.exit 2,[(2,.ref 0 []),(3,.ref 1 [])],[.var (.v ZK) true,.var (.v Zt) true],[ZK,Zt]⟩],Zc (XW yD) yD⟩
theorem Zln:Zhf.okA yb 34 1:=ZN hi1 [] [Zgk] ⟨ZmN,ytt⟩
def Zag(F:Nat)(a0:Chan)(a1:yG):yO (Bool):=
 (ZfE F a0).bind λo97=>
 if(o97 !=0)=true then
  some false
 else
 (ZT F 0 1048576 [a1.1]).bind λo98=>
 if(!o98)=true then
  some false
 else
 (a1.2.1[0]?).bind λe99=>
 (a1.2.1[1]?).bind λe100=>
 (ZT F 0 1125899906842624 [e99,e100]).bind λo101=>
 if(!o101)=true then
  some false
 else
 (ZT F 0 1000 [a1.2.2.2]).bind λo102=>
 if(!o102)=true then
  some false
 else
 if(decide ((a1.2.2.1.length:Int) > 16))=true then
  some false
 else
 (Zc (Xk F) F (a1.2.2.1,(a1.2.2.1.length:Int),0,a0,a1)).bind λo108=>
 match o108 with
 |.inl o109=>
  some o109.1
 |.inr o110=>
  (Zc (XW F) F (o110.1.2.2.2.1,0,o110.1,o110.2)).bind λo113=>
  match o113 with
  |.inl o114=>
   some o114.1
  |.inr o115=>
   (Zce F o115.2).bind λo116=>
   if(o116==o115.1.2.1)=true then
    if(inB o115.1.2.2.2.2 2)=true then
     (o115.2.2.1[o115.1.2.2.2.2.toNat]?).bind λe117=>
     (ZdX F o115.1 o115.2).bind λo118=>
     some (decide (e117 >= o118))
    else
    none
   else
   some false
def ZqI(F:Nat):Fs yb:=⟨34,[.v ZK,.v Zt],[],[ZK,Zt],(zN .bool),λx=>Zag F x.1 x.2⟩
def Zi4:Fs yb:=ZqI yD
theorem ZqJ:Zi4.Ok:=fnO hi1 [(0,Zhe),(1,Zhf)] [ZnQ,Zc0,Zi3,Zll] ⟨Zvw,Zgi,ZqH,Zso,ytt⟩ ⟨Zlm,Zln,ytt⟩
def VN(F:Nat)(a0:yU):yO (yU):=
 (Ys F a0).bind λo119=>
 if o119=true then
  some a0
 else
 some 1
def ZqK(F:Nat):Fs yb:=⟨102,[.v .u64],[],[.u64],(zN .u64),λx=>VN F x⟩
def Za6:Fs yb:=ZqK yD
theorem Zc3:Za6.Ok:=fnO { still:=[2,3]} [] [Xy] ⟨XN,ytt⟩
def WN(F:Nat)(a0:yU)(a1:yU):yO (yU):=
 (VN F a0).bind λo120=>
 (VM F o120 (a1 % 2305843009213688669)).bind λo121=>
 some o121
def ZqL(F:Nat):Fs yb:=⟨63,[.v .u64,.v .u64],[],[.u64,.u64],(zN .u64),λx=>WN F x.1 x.2⟩
def Za7:Fs yb:=ZqL yD
theorem Zc4:Za7.Ok:=fnO { still:=[4,5,6,8]} [] [Za6,Za4] ⟨Zc3,ZcX,ytt⟩
def Za8(F:Nat)(s:(yU×(yL yU)×Int×Int)):yO ((yU×(yL yU)×Int×Int)⊕yU):=
 if(decide (s.2.2.2 < s.2.2.1))=true then
  (idx s.2.1 s.2.2.2).bind λe122=>
  (VN F e122).bind λo123=>
  (Z5 F s.1 o123).bind λo124=>
  some (.inl (o124,s.2.1,s.2.2.1,wi (s.2.2.2+1)))
 else
 some (.inr s.1)
def Zlo:Lp:=⟨[(3,.v .u64),(6,.v (.sl .u64)),(7,.v yI),(8,.v yI)],[],[.u64,(.sl .u64),yI,yI],[⟨.exit 0,[(3,.v .u64)],[],[.u64]⟩],Zc (Za8 yD) yD⟩
theorem Zor:Zlo.okA yb 125 0:=ZN { still:=[2,12,13,14]} [] [Za6,Zel] ⟨Zc3,Zg8,ytt⟩
def Zc5(F:Nat)(a0:(yL yU)):yO (yU):=
 (Zc (Za8 F) F (1,a0,(a0.length:Int),0)).bind λo125=>
 some o125
def Zvy(F:Nat):Fs yb:=⟨125,[.v (.sl .u64)],[],[(.sl .u64)],(zN .u64),λx=>Zc5 F x⟩
def Zhg:Fs yb:=Zvy yD
theorem Zlp:Zhg.Ok:=fnO { still:=[2,12,13,14]} [(0,Zlo)] [] trivial ⟨Zor,ytt⟩
def ZaQ(F:Nat)(a0:yU)(a1:yU):yO (yU):=
 (Zc5 F [a0,a1]).bind λo126=>
 some o126
def Zvz(F:Nat):Fs yb:=⟨85,[.v .u64,.v .u64],[],[.u64,.u64],(zN .u64),λx=>ZaQ F x.1 x.2⟩
def ZdY:Fs yb:=Zvz yD
theorem ZfG:ZdY.Ok:=fnO { still:=[4,7]} [] [Zhg] ⟨Zlp,ytt⟩
def YK(F:Nat)(s:(yU×(yL yB)×Int×(yL yB))):yO ((yU×(yL yB)×Int×(yL yB))⊕(yU×(yL yB))):=
 if(decide (s.2.2.1 < 32))=true then
  (idx s.2.1 s.2.2.1).bind λe127=>
  (Xx F (Zv s.1 56) ((Vq s.1 8)|||(yaf e127.toNat)) 2305843009213688668).bind λo128=>
  some (.inl (o128,s.2.1,wi (s.2.2.1+1),s.2.2.2))
 else
 some (.inr (s.1,s.2.2.2))
def Zi5:Lp:=⟨[(3,.v .u64),(6,.v (.arr 32 .u8)),(7,.v yI)],[.var (.v (.arr 32 .u8)) true],[.u64,(.arr 32 .u8),yI,(.arr 32 .u8)],[⟨.exit 0,[(3,.v .u64)],[.var (.v (.arr 32 .u8)) true],[.u64,(.arr 32 .u8)]⟩],Zc (YK yD) yD⟩
theorem ZmO:Zi5.okA yb 64 0:=ZN { still:=[2,11,16]} [] [Zb8] ⟨Zek,ytt⟩
def Xz(F:Nat)(a0:(yL yB)):yO (yU):=
 (Zc (YK F) F (0,a0,0,a0)).bind λo129=>
 some (o129.1+1)
def Zsp(F:Nat):Fs yb:=⟨64,[.v (.arr 32 .u8)],[],[(.arr 32 .u8)],(zN .u64),λx=>Xz F x⟩
def VO:Fs yb:=Zsp yD
theorem Qb:VO.Ok:=fnO { still:=[2,11,16]} [(0,Zi5)] [] trivial ⟨ZmO,ytt⟩
def Zhh(F:Nat):yO ((yL yV)):=
 some [1779033703,3144134277,1013904242,2773480762,1359893119,2600822924,528734635,1541459225]
def Zsq(F:Nat):Fs yb:=⟨156,[],[],[],(zN (.arr 8 .u32)),λx=>Zhh F⟩
def Zlq:Fs yb:=Zsq yD
theorem Zsr:Zlq.Ok:=fnO {} [] [] trivial
def ZE(F:Nat)(a0:yV)(a1:Int):yO (yV):=
 let y131:yV:=ZcN a0 (min (((w64 a1)&&&31).toNat:Int).toNat 32);let y132:yV:=ZbT a0 (min ((32 - ((w64 a1)&&&31)).toNat:Int).toNat 32)
 some (y131|||y132)
def Zhi(F:Nat):Fs yb:=⟨177,[.v .u32,.v yI],[],[.u32,yI],(zN .u32),λx=>ZE F x.1 x.2⟩
def VY:Fs yb:=Zhi yD
theorem Zbs:VY.Ok:=fnO { still:=[4]} [] [] trivial
def Zcf(F:Nat)(a0:(yL yB)):yO (yV):=
 (idx a0 0).bind λe133=>
 (idx a0 1).bind λe134=>
 let y135:yV:=(ZcN (ycf e133.toNat) 24)|||(ZcN (ycf e134.toNat) 16)
 (idx a0 2).bind λe136=>
 (idx a0 3).bind λe137=>
 let y138:yV:=(y135|||(ZcN (ycf e136.toNat) 8))|||(ycf e137.toNat)
 some y138
def ZqM(F:Nat):Fs yb:=⟨185,[.v (.sl .u8)],[],[(.sl .u8)],(zN .u32),λx=>Zcf F x⟩
def Zi6:Fs yb:=ZqM yD
theorem ZqN:Zi6.Ok:=fnO { still:=[2]} [] [] trivial
def Vi(F:Nat)(s:((yL yB)×Int×(yL yV))):yO (((yL yB)×Int×(yL yV))⊕(yL yV)):=
 if(decide (s.2.1 < 64))=true then
  if(decide (s.2.1 < 16))=true then
   if(ZdA s.1.length (some (wi (4*s.2.1))) none)=true then
    (Zcf F (s.1.drop ((wi (4*s.2.1)).toNat))).bind λo139=>
    if(inB s.2.1 64)=true then
     (s.2.2[s.2.1.toNat]?).bind λe140=>
     some (.inl (s.1,wi (s.2.1+1),s.2.2.set s.2.1.toNat o139))
    else
    none
   else
   none
  else
  if(inB (wi (s.2.1 - 15)) 64)=true then
   (s.2.2[(wi (s.2.1 - 15)).toNat]?).bind λe141=>
   if(inB (wi (s.2.1 - 2)) 64)=true then
    (s.2.2[(wi (s.2.1 - 2)).toNat]?).bind λe142=>
    (ZE F e141 (-7)).bind λo143=>
    (ZE F e141 (-18)).bind λo144=>
    (ZE F e142 (-17)).bind λo145=>
    (ZE F e142 (-19)).bind λo146=>
    if(inB (wi (s.2.1 - 16)) 64)=true then
     (s.2.2[(wi (s.2.1 - 16)).toNat]?).bind λe147=>
     if(inB (wi (s.2.1 - 7)) 64)=true then
      (s.2.2[(wi (s.2.1 - 7)).toNat]?).bind λe148=>
      let y149:yV:=(e147+((o143^^^o144)^^^(ZbT e141 3)))+e148
      if(inB s.2.1 64)=true then
       (s.2.2[s.2.1.toNat]?).bind λe150=>
       let y151:(yL yV):=s.2.2.set s.2.1.toNat (y149+((o145^^^o146)^^^(ZbT e142 10)))
       some (.inl (s.1,wi (s.2.1+1),y151))
      else
      none
     else
     none
    else
    none
   else
   none
  else
  none
 else
 some (.inr s.2.2)
def ZeZ:Lp:=⟨[(0,.v (.sl .u8)),(2,.ref 0 []),(8,.v yI)],[.var (.v (.arr 64 .u32)) true],[(.sl .u8),yI,(.arr 64 .u32)],[⟨.exit 0,[(2,.ref 0 [])],[.var (.v (.arr 64 .u32)) true],[(.arr 64 .u32)]⟩],Zc (Vi yD) yD⟩
theorem ZiA:ZeZ.okA yb 175 0:=ZN { still:=[17,28,30,36,38]} [] [Zi6,VY] ⟨ZqN,Zbs,ytt⟩
def Zah(F:Nat)(a0:(yL yB)):yO ((yL yV)):=
 (Zc (Vi F) F (a0,0,[0,0,0,0,0,0,0,0,0,0,0,0,0,0,0,0,0,0,0,0,0,0,0,0,0,0,0,0,0,0,0,0,0,0,0,0,0,0,0,0,0,0,0,0,0,0,0,0,0,0,0,0,0,0,0,0,0,0,0,0,0,0,0,0])).bind λo152=>
 some o152
def ZmP(F:Nat):Fs yb:=⟨175,[.v (.sl .u8)],[],[(.sl .u8)],(zN (.arr 64 .u32)),λx=>Zah F x⟩
def Zgl:Fs yb:=ZmP yD
theorem ZmQ:Zgl.Ok:=fnO { still:=[17,28,30,36,38]} [(0,ZeZ)] [] trivial ⟨ZiA,ytt⟩
def Zhj(F:Nat):yO ((yL yV)):=
 some [1116352408,1899447441,3049323471,3921009573,961987163,1508970993,2453635748,2870763221,3624381080,310598401,607225278,1426881987,1925078388,2162078206,2614888103,3248222580,3835390401,4022224774,264347078,604807628,770255983,1249150122,1555081692,1996064986,2554220882,2821834349,2952996808,3210313671,3336571891,3584528711,113926993,338241895,666307205,773529912,1294757372,1396182291,1695183700,1986661051,2177026350,2456956037,2730485921,2820302411,3259730800,3345764771,3516065817,3600352804,4094571909,275423344,430227734,506948616,659060556,883997877,958139571,1322822218,1537002063,1747873779,1955562222,2024104815,2227730452,2361852424,2428436474,2756734187,3204031479,3329325298]
def Zss(F:Nat):Fs yb:=⟨176,[],[],[],(zN (.arr 64 .u32)),λx=>Zhj F⟩
def Zlr:Fs yb:=Zss yD
theorem Zst:Zlr.Ok:=fnO {} [] [] trivial
def WO(F:Nat)(s:(Int×(yL yV)×(yL yV)×(yL yV)×(yL yV)×(yL yV))):yO ((Int×(yL yV)×(yL yV)×(yL yV)×(yL yV)×(yL yV))⊕((yL yV)×(yL yV)×(yL yV)×(yL yV)×(yL yV))):=
 if(decide (s.1 < 64))=true then
  (s.2.2.2.2.2[4]?).bind λe155=>
  (ZE F e155 (-6)).bind λo156=>
  (s.2.2.2.2.2[4]?).bind λe157=>
  (ZE F e157 (-11)).bind λo158=>
  (s.2.2.2.2.2[4]?).bind λe159=>
  (ZE F e159 (-25)).bind λo160=>
  (s.2.2.2.2.2[7]?).bind λe161=>
  (s.2.2.2.2.2[6]?).bind λe162=>
  (s.2.2.2.2.2[4]?).bind λe163=>
  (s.2.2.2.2.2[5]?).bind λe164=>
  (s.2.2.2.2.2[6]?).bind λe165=>
  let y166:yV:=(e161+((o156^^^o158)^^^o160))+(e162^^^(e163&&&(e164^^^e165)))
  if(inB s.1 64)=true then
   (s.2.2.2.2.1[s.1.toNat]?).bind λe167=>
   if(inB s.1 64)=true then
    (s.2.2.2.1[s.1.toNat]?).bind λe168=>
    (s.2.2.2.2.2[0]?).bind λe169=>
    (ZE F e169 (-2)).bind λo170=>
    (s.2.2.2.2.2[0]?).bind λe171=>
    (ZE F e171 (-13)).bind λo172=>
    (s.2.2.2.2.2[0]?).bind λe173=>
    (ZE F e173 (-22)).bind λo174=>
    (s.2.2.2.2.2[0]?).bind λe175=>
    (s.2.2.2.2.2[1]?).bind λe176=>
    (s.2.2.2.2.2[2]?).bind λe177=>
    (s.2.2.2.2.2[0]?).bind λe178=>
    (s.2.2.2.2.2[1]?).bind λe179=>
    let y180:yV:=((y166+e167)+e168)+((o170^^^o172)^^^o174);let y181:yV:=y180+((e175&&&e176)|||(e177&&&(e178|||e179)))
    (s.2.2.2.2.2[0]?).bind λe182=>
    (s.2.2.2.2.2[1]?).bind λe183=>
    (s.2.2.2.2.2[2]?).bind λe184=>
    (s.2.2.2.2.2[3]?).bind λe185=>
    (s.2.2.2.2.2[4]?).bind λe186=>
    (s.2.2.2.2.2[5]?).bind λe187=>
    (s.2.2.2.2.2[6]?).bind λe188=>
    some (.inl (wi (s.1+1),s.2.1,s.2.2.1,s.2.2.2.1,s.2.2.2.2.1,[y181,e182,e183,e184,e185+((y166+e167)+e168),e186,e187,e188]))
   else
   none
  else
  none
 else
 some (.inr (s.2.1,s.2.2.1,s.2.2.2.1,s.2.2.2.2.1,s.2.2.2.2.2))
def ZHC:yL ESh:=[.var (.v (.arr 8 .u32)) true,.var (.v (.arr 8 .u32)) true,.var (.v (.arr 64 .u32)) true,.var (.v (.arr 64 .u32)) true,.var (.v (.arr 8 .u32)) true]
def ZdZ:Lp:=⟨[(2,.ref 0 []),(4,.ref 1 []),(5,.ref 2 []),(6,.ref 3 []),(7,.ref 4 []),(18,.v yI)],ZHC,[yI,(.arr 8 .u32),(.arr 8 .u32),(.arr 64 .u32),(.arr 64 .u32),(.arr 8 .u32)],[⟨.exit 0,[(2,.ref 0 []),(4,.ref 1 []),(7,.ref 4 [])],ZHC,[(.arr 8 .u32),(.arr 8 .u32),(.arr 64 .u32),(.arr 64 .u32),(.arr 8 .u32)]⟩],Zc (WO yD) yD⟩
def hi2:HI:={ still:=[14,22,25,29,57,60,64]}
theorem Zhk:ZdZ.okA yb 157 0:=ZN hi2 [] [VY] ⟨Zbs,ytt⟩
def WP(F:Nat)(s:(Int×(yL yV)×(yL yV)×(yL yV)×(yL yV)×(yL yV))):yO ((Int×(yL yV)×(yL yV)×(yL yV)×(yL yV)×(yL yV))⊕((yL yV)×(yL yV)×(yL yV)×(yL yV)×(yL yV))):=
 if(decide (s.1 < 8))=true then
  if(inB s.1 8)=true then
   (s.2.2.2.2.2[s.1.toNat]?).bind λe190=>
   if(inB s.1 8)=true then
    (s.2.1[s.1.toNat]?).bind λe191=>
    if(inB s.1 8)=true then
     (s.2.2.2.2.2[s.1.toNat]?).bind λe192=>
     some (.inl (wi (s.1+1),s.2.1,s.2.2.1,s.2.2.2.1,s.2.2.2.2.1,s.2.2.2.2.2.set s.1.toNat (e190+e191)))
    else
    none
   else
   none
  else
  none
 else
 some (.inr (s.2.1,s.2.2.1,s.2.2.2.1,s.2.2.2.2.1,s.2.2.2.2.2))
def Zd0:Lp:=⟨[(2,.ref 0 []),(4,.ref 1 []),(7,.ref 4 []),(104,.v yI)],ZHC,[yI,(.arr 8 .u32),(.arr 8 .u32),(.arr 64 .u32),(.arr 64 .u32),(.arr 8 .u32)],[⟨.exit 2,[(4,.ref 1 []),(7,.ref 4 [])],ZHC,[(.arr 8 .u32),(.arr 8 .u32),(.arr 64 .u32),(.arr 64 .u32),(.arr 8 .u32)]⟩],Zc (WP yD) yD⟩
theorem Zhl:Zd0.okA yb 157 1:=ZN hi2 [] [] trivial
def WZ(F:Nat)(a0:(yL yV))(a1:(yL yB)):yO ((yL yV)):=
 (Zah F a1).bind λo153=>
 (Zhj F).bind λo154=>
 (Zc (WO F) F (0,a0,[0,0,0,0,0,0,0,0],o153,o154,a0)).bind λo189=>
 (Zc (WP F) F (0,o189.1,o189.2.1,o189.2.2.1,o189.2.2.2.1,o189.2.2.2.2)).bind λo193=>
 some o193.2.2.2.2
def Zls(F:Nat):Fs yb:=⟨157,[.v (.arr 8 .u32),.v (.sl .u8)],[],[(.arr 8 .u32),(.sl .u8)],(zN (.arr 8 .u32)),λx=>WZ F x.1 x.2⟩
def ZaR:Fs yb:=Zls yD
theorem Zd1:ZaR.Ok:=fnO hi2 [(0,ZdZ),(1,Zd0)] [Zgl,Zlr] ⟨ZmQ,Zst,ytt⟩ ⟨Zhk,Zhl,ytt⟩
def ZY(F:Nat)(a0:(yL yB)):yO ((yL yB)):=
 if(apB 0 a0.length 1)=true then
  some a0
 else
 none
def ZbE(F:Nat):Fs yb:=⟨155,[.sl true .u8],[],[(.sl .u8)],[⟨.ret,[(0,.own 0 .u8)],[.log .u8 5],[(.sl .u8)]⟩],λx=>ZY F x⟩
def Zcg:Fs yb:=ZbE yD
theorem ZbF:Zcg.Ok:=fnO { own:=[2,5,7]} [] [] trivial
def Vv(F:Nat):yO ((yL yB)):=
 some []
def ZbG(F:Nat):Fs yb:=⟨155,[.nil .u8],[],[],[⟨.ret,[(0,.own 0 .u8)],[.log .u8 5],[(.sl .u8)]⟩],λx=>Vv F⟩
def Zch:Fs yb:=ZbG yD
theorem ZbH:Zch.Ok:=fnO { own:=[2,5,7]} [] [] trivial
def ZaS(F:Nat):Fs yb:=⟨155,[.v (.sl .u8)],[],[(.sl .u8)],[⟨.ret,[(0,.own 0 .u8)],[.log .u8 5],[(.sl .u8)]⟩],λx=>ZY F x⟩
def WD:Fs yb:=ZaS yD
theorem ZaT:WD.Ok:=Zvh (t:=.u8) (xs:=[⟨.ret,[(0,.own 0 .u8)],[.log .u8 5],[(.sl .u8)]⟩]) (MA:=λ(x:(yL yB))=>ZY yD x) (MB:=λ_=>Vv yD) ZbF ZbH rfl
def Za9(F:Nat)(s:((yL yB)×(yL yB)×(yL yB))):yO (((yL yB)×(yL yB)×(yL yB))⊕((yL yB)×(yL yB)×(yL yB))):=
 if((Int.tmod (s.2.2.length:Int) 64)!=56)=true then
  if(apB s.2.2.length 1 1)=true then
   some (.inl (s.1,s.2.1,s.2.2++([0]:yL yB)))
  else
  none
 else
 some (.inr (s.1,s.2.1,s.2.2))
abbrev zQ:List ESh:=[.var (.v (.arr 32 .u8)) true,.log .u8 5]
def Zlt:Lp:=⟨[(0,.v (.sl .u8)),(2,.ref 0 []),(3,.own 1 .u8)],zQ,[(.sl .u8),(.arr 32 .u8),(.sl .u8)],[⟨.exit 0,[(0,.v (.sl .u8)),(2,.ref 0 []),(3,.own 1 .u8)],zQ,[(.sl .u8),(.arr 32 .u8),(.sl .u8)]⟩],Zc (Za9 yD) yD⟩
def hi3:HI:={ own:=[3,14,16,21,23,24,28,43],still:=[13,24,27,35,37,44,46]}
theorem Zos:Zlt.okA yb 115 0:=ZN hi3 [] [] trivial
def VP(F:Nat)(s:(Int×Int×(yL yB)×(yL yB))):yO ((Int×Int×(yL yB)×(yL yB))⊕((yL yB)×(yL yB))):=
 if(decide (s.2.1 >= 0))=true then
  if(decide (0<=s.2.1))=true then
   if(apB s.2.2.1.length 1 1)=true then
    let y197:(yL yB):=s.2.2.1++([w8 (Int.fdiv s.1 (2 ^ (min s.2.1.toNat 64)))]:yL yB)
    some (.inl (s.1,wi (s.2.1 - 8),y197,s.2.2.2))
   else
   none
  else
  none
 else
 some (.inr (s.2.2.1,s.2.2.2))
def Zgm:Lp:=⟨[(0,.own 0 .u8),(1,.v yI),(5,.v yI)],[.log .u8 5,.log .u8 5],[yI,yI,(.sl .u8),(.sl .u8)],[⟨.exit 0,[(0,.own 0 .u8)],[.log .u8 5,.log .u8 5],[(.sl .u8),(.sl .u8)]⟩],Zc (VP yD) yD⟩
theorem Zj8:Zgm.okA yb 114 0:=ZN { own:=[0,4,10,16,17]} [] [] trivial
def XA(F:Nat)(a1:Int)(s0:(yL yB)):yO ((yL yB)):=
 (Zc (VP F) F (a1,56,s0,[])).bind λo198=>
 some o198.1
def ZbI(F:Nat):Fs yb:=⟨114,[.own 0 .u8,.v yI],[.log .u8 5],[yI,(.sl .u8)],[⟨.ret,[(0,.own 0 .u8)],[.log .u8 5],[(.sl .u8)]⟩],λx=>XA F x.1 x.2⟩
def Zc6:Fs yb:=ZbI yD
theorem ZbJ:Zc6.Ok:=fnO { own:=[0,4,10,16,17]} [(0,Zgm)] [] trivial ⟨Zj8,ytt⟩
def Zba(F:Nat)(s:((yL yB)×(yL yB)×(yL yB)×(yL yV))):yO (((yL yB)×(yL yB)×(yL yB)×(yL yV))⊕((yL yB)×(yL yB)×(yL yV))):=
 if(decide ((s.1.length:Int) >= 64))=true then
  if(ZdA s.1.length none (some 64))=true then
   (WZ F s.2.2.2 (s.1.take 64)).bind λo201=>
   if(ZdA s.1.length (some 64) none)=true then
    some (.inl (s.1.drop 64,s.2.1,s.2.2.1,o201))
   else
   none
  else
  none
 else
 some (.inr (s.2.1,s.2.2.1,s.2.2.2))
abbrev zM:List ESh:=[.var (.v (.arr 32 .u8)) true,.log .u8 5,.var (.v (.arr 8 .u32)) true]
def Zlu:Lp:=⟨[(0,.v (.sl .u8)),(2,.ref 0 []),(3,.own 1 .u8),(4,.ref 2 [])],zM,[(.sl .u8),(.arr 32 .u8),(.sl .u8),(.arr 8 .u32)],[⟨.exit 2,[(2,.ref 0 []),(3,.own 1 .u8),(4,.ref 2 [])],zM,[(.arr 32 .u8),(.sl .u8),(.arr 8 .u32)]⟩],Zc (Zba yD) yD⟩
theorem Zot:Zlu.okA yb 115 1:=ZN hi3 [] [ZaR] ⟨Zd1,ytt⟩
def Zbb(F:Nat)(s:((yL yB)×(yL yB)×(yL yB)×(yL yV))):yO (((yL yB)×(yL yB)×(yL yB)×(yL yV))⊕((yL yB)×(yL yB)×(yL yV))):=
 if(decide ((s.1.length:Int) > 0))=true then
  if(ZdA s.1.length none (some 64))=true then
   (WZ F s.2.2.2 (s.1.take 64)).bind λo204=>
   if(ZdA s.1.length (some 64) none)=true then
    some (.inl (s.1.drop 64,s.2.1,s.2.2.1,o204))
   else
   none
  else
  none
 else
 some (.inr (s.2.1,s.2.2.1,s.2.2.2))
def Zlv:Lp:=⟨[(2,.ref 0 []),(3,.v (.sl .u8)),(4,.ref 2 [])],zM,[(.sl .u8),(.arr 32 .u8),(.sl .u8),(.arr 8 .u32)],[⟨.exit 4,[(2,.ref 0 []),(4,.ref 2 [])],zM,[(.arr 32 .u8),(.sl .u8),(.arr 8 .u32)]⟩],Zc (Zbb yD) yD⟩
theorem Zou:Zlv.okA yb 115 2:=ZN hi3 [] [ZaR] ⟨Zd1,ytt⟩
def Zbc(F:Nat)(s:(Int×(yL yB)×(yL yB)×(yL yV))):yO ((Int×(yL yB)×(yL yB)×(yL yV))⊕((yL yB)×(yL yB)×(yL yV))):=
 if(decide (s.1 < 32))=true then
  if(inB (wi (Int.tdiv s.1 4)) 8)=true then
   (s.2.2.2[(wi (Int.tdiv s.1 4)).toNat]?).bind λe206=>
   if(decide (0<=wi (24 - (wi (8*(Int.tmod s.1 4))))))=true then
    let y207:yV:=ZbT e206 (min (wi (24 - (wi (8*(Int.tmod s.1 4))))).toNat 32)
    if(inB s.1 32)=true then
     (s.2.1[s.1.toNat]?).bind λe208=>
     some (.inl (wi (s.1+1),s.2.1.set s.1.toNat (w8 (y207.toNat:Int)),s.2.2.1,s.2.2.2))
    else
    none
   else
   none
  else
  none
 else
 some (.inr (s.2.1,s.2.2.1,s.2.2.2))
def Zlw:Lp:=⟨[(2,.ref 0 []),(4,.ref 2 []),(48,.v yI)],zM,[yI,(.arr 32 .u8),(.sl .u8),(.arr 8 .u32)],[⟨.exit 6,[(2,.ref 0 [])],zM,[(.arr 32 .u8),(.sl .u8),(.arr 8 .u32)]⟩],Zc (Zbc yD) yD⟩
theorem Zov:Zlw.okA yb 115 3:=ZN hi3 [] [] trivial
def Zc7(F:Nat)(a0:(yL yB)):yO ((yL yB)):=
 let y194:Int:=wi ((a0.length:Int) - (Int.tmod (a0.length:Int) 64))
 if(ZdA a0.length (some y194) none)=true then
  (ZY F (a0.drop y194.toNat)).bind λo195=>
  if(apB o195.length 1 1)=true then
   (Zc (Za9 F) F (a0,yzz,o195++([128]:yL yB))).bind λo196=>
   (XA F (wi (8*(o196.1.length:Int))) o196.2.2).bind λo199=>
   (Zhh F).bind λo200=>
   (Zc (Zba F) F (o196.1,o196.2.1,o199,o200)).bind λo202=>
   (Zc (Zbb F) F (o202.2.1,o202.1,o202.2.1,o202.2.2)).bind λo205=>
   (Zc (Zbc F) F (0,o205.1,o205.2.1,o205.2.2)).bind λo209=>
   some o209.1
  else
  none
 else
 none
def ZfH(F:Nat):Fs yb:=⟨115,[.v (.sl .u8)],[],[(.sl .u8)],(zN (.arr 32 .u8)),λx=>Zc7 F x⟩
def ZxR:Fs yb:=ZfH yD
theorem ZvA:ZxR.Ok:=fnO hi3 [(0,Zlt),(1,Zlu),(2,Zlv),(3,Zlw)] [Zc6,WD,Zlq] ⟨ZbJ,ZaT,Zsr,ytt⟩ ⟨Zos,Zot,Zou,Zov,ytt⟩
end
end Go.Proofs.YtpgpjjjoglafdaaGreat
end
section
namespace Go.Sha
open Go.Ev
noncomputable def Qc{α:Type}(n:Nat)(k:Nat->α):α:=Nat.rec (motive:=λ_=>α) (k 0) (λm _=>k (Nat.succ m)) n
theorem Xb{α:Type}(n:Nat)(k:Nat->α):Qc n k=k n:=by cases n <;> rfl
def dbl(x:Nat):Nat:=Nat.mul x 4294967297
def s0(x:Nat):Nat:=Nat.xor (Nat.xor (yag (dbl x) 7) (yag (dbl x) 18)) (yag x 3)
def s1(x:Nat):Nat:=Nat.xor (Nat.xor (yag (dbl x) 17) (yag (dbl x) 19)) (yag x 10)
def S0(x:Nat):Nat:=Nat.xor (Nat.xor (yag (dbl x) 2) (yag (dbl x) 13)) (yag (dbl x) 22)
def S1(x:Nat):Nat:=Nat.xor (Nat.xor (yag (dbl x) 6) (yag (dbl x) 11)) (yag (dbl x) 25)
def ch(e f g:Nat):Nat:=Nat.xor g (Nat.land e (Nat.xor f g))
def mj(a b c:Nat):Nat:=Nat.lor (Nat.land a b) (Nat.land c (Nat.lor a b))
def lo(x:Nat):Nat:=Nat.mod x 4294967296
def kw(W:Nat):Nat:=lo (yw (yw (yw (yag W 480) (s0 (lo (yag W 448)))) (lo (yag W 192))) (s1 (lo (yag W 32))))
def kn(W:Nat):Nat:=Nat.mod (yw (Nat.mul W 4294967296) (kw W)) (Nat.pow 2 512)
noncomputable def kst(k:Nat)(ih:Nat->Nat->Nat->Nat->Nat->Nat->Nat->Nat->Nat->Nat)(W a b c d e f g h:Nat):Nat:=
 Qc (yw (yw (yw (yw h (S1 e)) (ch e f g)) k) (yag W 480)) λt=>
     Qc (lo (yw (yw t (S0 a)) (mj a b c))) λa'=>Qc (lo (yw d t)) λe'=>Qc (kn W) λW'=>ih W' a' a b c e' e f g
noncomputable def kgo(ks:yL Nat)(K:Nat->Nat->Nat->Nat->Nat->Nat->Nat->Nat->Nat):Nat->Nat->Nat->Nat->Nat->Nat->Nat->Nat->Nat->Nat:=
 List.rec (motive:=λ_=>Nat->Nat->Nat->Nat->Nat->Nat->Nat->Nat->Nat->Nat) (λ_=>K) (λk _ ih=>kst k ih) ks
def ks:yL Nat:=[1116352408,1899447441,3049323471,3921009573,961987163,1508970993,2453635748,2870763221,3624381080,310598401,607225278,1426881987,1925078388,2162078206,2614888103,3248222580,3835390401,4022224774,264347078,604807628,770255983,1249150122,1555081692,1996064986,2554220882,2821834349,2952996808,3210313671,3336571891,3584528711,113926993,338241895,666307205,773529912,1294757372,1396182291,1695183700,1986661051,2177026350,2456956037,2730485921,2820302411,3259730800,3345764771,3516065817,3600352804,4094571909,275423344,430227734,506948616,659060556,883997877,958139571,1322822218,1537002063,1747873779,1955562222,2024104815,2227730452,2361852424,2428436474,2756734187,3204031479,3329325298]
def w32(H i:Nat):Nat:=lo (yag H i)
def cat(H x:Nat):Nat:=yw (Nat.mul H 4294967296) (lo x)
noncomputable def ZHD(H B:Nat):Nat:=
 Qc (w32 H 224) λa=>Qc (w32 H 192) λb=>Qc (w32 H 160) λc=>Qc (w32 H 128) λd=>Qc (w32 H 96) λe=>Qc (w32 H 64) λf=>Qc (w32 H 32) λg=>Qc (w32 H 0) λh=>
  kgo ks (λa' b' c' d' e' f' g' h'=>cat (cat (cat (cat (cat (cat (cat (cat 0 (yw a' a)) (yw b' b)) (yw c' c)) (yw d' d)) (yw e' e)) (yw f' f)) (yw g' g)) (yw h' h)) B a b c d e f g h
noncomputable def pk(l:yL Nat)(n:Nat):Nat:=List.rec (motive:=λ_=>Nat->Nat) (λn=>n) (λx _ ih n=>Qc (yw (Nat.mul n 256) x) ih) l n
noncomputable def ZJK(n:Nat)(l:yL Nat)(H:Nat):Nat:=
 Nat.rec (motive:=λ_=>yL Nat->Nat->Nat) (λ_ H=>H) (λ_ ih l H=>Qc (ZHD H (pk (l.take 64) 0)) λH'=>ih (l.drop 64) H') n l H
noncomputable def outs(H:Nat)(l:yL Nat):yL yB:=List.rec (motive:=λ_=>yL yB) [] (λs _ ih=>Qc (Nat.mod (yag H s) 256) λx=>yaz x::ih) l
def ZAc:yL Nat:=[248,240,232,224,216,208,200,192,184,176,168,160,152,144,136,128,120,112,104,96,88,80,72,64,56,48,40,32,24,16,8,0]
def be8(n:Nat):yL Nat:=[n / 2 ^ 56 % 256,n / 2 ^ 48 % 256,n / 2 ^ 40 % 256,n / 2 ^ 32 % 256,n / 2 ^ 24 % 256,n / 2 ^ 16 % 256,n / 2 ^ 8 % 256,n % 256]
def zs(n:Nat):Nat:=(119 - n % 64) % 64
def H0:Nat:=cat (cat (cat (cat (cat (cat (cat (cat 0 1779033703) 3144134277) 1013904242) 2773480762) 1359893119) 2600822924) 528734635) 1541459225
noncomputable def sha(l:yL yB):yL yB:=
 Qc l.length λn=>Qc (ZJK (Nat.div (yw n 72) 64) (l.map ybh++(128::(yv (zs n) 0++be8 (8*n)))) H0) λH=>outs H ZAc
theorem Zhm(x y:yV):(x+y).toNat=lo (x.toNat+y.toNat):=by rw[UInt32.toNat_add];rfl
theorem Zi7(x y:yV):(x^^^y).toNat=Nat.xor x.toNat y.toNat:=UInt32.toNat_xor ..
theorem ZFo(x y:yV):(x&&&y).toNat=Nat.land x.toNat y.toNat:=UInt32.toNat_and ..
theorem ZC1(x y:yV):(x|||y).toNat=Nat.lor x.toNat y.toNat:=UInt32.toNat_or ..
theorem ZJL(x:yV):x.toNat < 4294967296:=x.toNat_lt
theorem ZxS(x:yV)(n:Nat):(ZbT x n).toNat=yag x.toNat n:=by
 unfold ZbT;rw[ycx,show yag x.toNat n=x.toNat >>> n from rfl,Nat.shiftRight_eq_div_pow]
 exact yaq (Nat.lt_of_le_of_lt (Nat.div_le_self _ _) (ZJL x))
theorem ZIm(x:Nat):lo x < 4294967296:=ybn _ (by omega)
theorem ZaB{x:Nat}(h:x < 4294967296):lo x=x:=yaq h
theorem ZKH(x:yV){n k:Nat}(h:n+k=32)(hn:0 < n):(ZcN x k|||ZbT x n).toNat=lo (yag (dbl x.toNat) n):=by
 rw[ZC1,ZxS];unfold ZcN;have hx:=ZJL x;generalize x.toNat=m at hx;have hp:2 ^ n*2 ^ k=4294967296:=by rw[<-Nat.pow_add,h]
 rw[ycx,show yag m n=m >>> n from rfl,Nat.shiftRight_eq_div_pow,show yag (dbl m) n=(dbl m) >>> n from rfl,Nat.shiftRight_eq_div_pow]
 have e1:m*2 ^ k % 2 ^ 32=2 ^ k*(m % 2 ^ n):=by
  rw[show(2:Nat) ^ 32=2 ^ n*2 ^ k from hp.symm,Nat.mul_mod_mul_right]
  exact ybs ..
 have hd:m / 2 ^ n < 2 ^ k:=by
  rw[Nat.div_lt_iff_lt_mul (Nat.two_pow_pos n),ybs,hp];exact hx
 rw[e1,show Nat.lor (2 ^ k*(m % 2 ^ n)) (m / 2 ^ n)=2 ^ k*(m % 2 ^ n)|||m / 2 ^ n from rfl, <-Nat.two_pow_add_eq_or_of_lt hd]
 have e2:dbl m=2 ^ n*(m*2 ^ k)+m:=by
  unfold dbl;rw[Nat.mul_left_comm,hp,show Nat.mul m 4294967297=m*4294967297 from rfl]
  omega
 rw[e2,Nat.mul_add_div (Nat.two_pow_pos n)];unfold lo;rw[show Nat.mod (m*2 ^ k+m / 2 ^ n) 4294967296=(m*2 ^ k+m / 2 ^ n) % 4294967296 from rfl,Nat.add_mod,show m*2 ^ k % 4294967296=2 ^ k*(m % 2 ^ n) from e1,yaq (a:=m / 2 ^ n) (b:=4294967296) (by rw[<-hp];exact Nat.lt_of_lt_of_le hd (Nat.le_mul_of_pos_left _ (Nat.two_pow_pos n)))]
 refine(yaq ?_).symm;have hm:m % 2 ^ n < 2 ^ n:=ybn _ (Nat.two_pow_pos n)
 calc 2 ^ k*(m % 2 ^ n)+m / 2 ^ n < 2 ^ k*(m % 2 ^ n)+2 ^ k:=by omega
  _=2 ^ k*(m % 2 ^ n+1):=by rw[Nat.mul_add,Nat.mul_one]
  _<=2 ^ k*2 ^ n:=Nat.mul_le_mul_left _ hm
  _=4294967296:=by rw[ybs,hp]
theorem Zhn(x y:Nat):lo (Nat.xor x y)=Nat.xor (lo x) (lo y):=Nat.xor_mod_two_pow (n:=32)
theorem ZFp(x:yV)(n:Nat):lo (yag x.toNat n)=yag x.toNat n:=by
 rw[<-ZxS];exact ZaB (ZJL _)
theorem ZK8(x:yV){a b:yV}(ha:a.toNat=lo (yag (dbl x.toNat) 7))(hb:b.toNat=lo (yag (dbl x.toNat) 18)):((a^^^b)^^^ZbT x 3).toNat=lo (s0 x.toNat):=by
 unfold s0;rw[Zi7,Zi7,ZxS,ha,hb,Zhn,Zhn,ZFp]
theorem ZK9(x:yV){a b:yV}(ha:a.toNat=lo (yag (dbl x.toNat) 17))(hb:b.toNat=lo (yag (dbl x.toNat) 19)):((a^^^b)^^^ZbT x 10).toNat=lo (s1 x.toNat):=by
 unfold s1;rw[Zi7,Zi7,ZxS,ha,hb,Zhn,Zhn,ZFp]
theorem ZLa(x:yV){a b c:yV}(ha:a.toNat=lo (yag (dbl x.toNat) 2))(hb:b.toNat=lo (yag (dbl x.toNat) 13))(hc:c.toNat=lo (yag (dbl x.toNat) 22)):((a^^^b)^^^c).toNat=lo (S0 x.toNat):=by
 unfold S0;rw[Zi7,Zi7,ha,hb,hc,Zhn,Zhn]
theorem ZLb(x:yV){a b c:yV}(ha:a.toNat=lo (yag (dbl x.toNat) 6))(hb:b.toNat=lo (yag (dbl x.toNat) 11))(hc:c.toNat=lo (yag (dbl x.toNat) 25)):((a^^^b)^^^c).toNat=lo (S1 x.toNat):=by
 unfold S1;rw[Zi7,Zi7,ha,hb,hc,Zhn,Zhn]
theorem ZLc(e f g:yV):(g^^^(e&&&(f^^^g))).toNat=ch e.toNat f.toNat g.toNat:=by
 unfold ch;rw[Zi7,ZFo,Zi7]
theorem ZLd(a b c:yV):((a&&&b)|||(c&&&(a|||b))).toNat=mj a.toNat b.toNat c.toNat:=by
 unfold mj;rw[ZC1,ZFo,ZFo,ZC1]
theorem ZLe(a b c d:Nat):lo (lo (lo (a+lo b)+c)+lo d)=lo (a+b+c+d):=by
 show(((a+b % 4294967296) % 4294967296+c) % 4294967296+d % 4294967296) % 4294967296=(a+b+c+d) % 4294967296;omega
theorem ZLf(a b c d e:Nat):lo (lo (lo (lo (a+lo b)+c)+d)+e)=lo (yw (yw (yw (yw a b) c) d) e):=by
 show((((a+b % 4294967296) % 4294967296+c) % 4294967296+d) % 4294967296+e) % 4294967296=(a+b+c+d+e) % 4294967296;omega
theorem ZLg(t s m:Nat):lo (lo (lo t+lo s)+m)=lo (yw (yw t s) m):=by
 show((t % 4294967296+s % 4294967296) % 4294967296+m) % 4294967296=(t+s+m) % 4294967296;omega
theorem ZLh(d t:Nat):lo (d+lo t)=lo (yw d t):=by
 show(d+t % 4294967296) % 4294967296=(d+t) % 4294967296;omega
def pw(n:Nat)(l:yL Nat):Nat:=l.foldl (λn x=>n*4294967296+x) n
theorem ZAd:∀(l:yL Nat)(n:Nat),(∀x,x∈l->x < 4294967296)->pw n l / 2 ^ (32*l.length)=n
 |[],n,_=>by simp[pw]
 |x::r,n,h=>by
  have ih:=ZAd r (n*4294967296+x) (λy hy=>h y (List.mem_cons_of_mem _ hy));have hx:=h x (List.mem_cons_self ..);rw[show pw n (x::r)=pw (n*4294967296+x) r from rfl,yah,show 32*(r.length+1)=32*r.length+32 by omega,Nat.pow_add, <-Nat.div_div_eq_div_mul,ih]
  omega
theorem Zlx:∀(l:yL Nat)(n:Nat),pw n l=n*2 ^ (32*l.length)+pw 0 l
 |[],n=>by simp[pw]
 |x::r,n=>by
  rw[show pw n (x::r)=pw (n*4294967296+x) r from rfl,show pw 0 (x::r)=pw (0*4294967296+x) r from rfl,Zlx r (n*4294967296+x),Zlx r (0*4294967296+x),yah,show 32*(r.length+1)=32+32*r.length by omega,Nat.pow_add,Nat.zero_mul,
   ybf,Nat.add_mul, <-Nat.mul_assoc,Nat.add_assoc]
theorem ZIn:∀(l:yL Nat),(∀x,x∈l->x < 4294967296)->pw 0 l < 2 ^ (32*l.length)
 |[],_=>by simp[pw]
 |x::r,h=>by
  have ih:=ZIn r (λy hy=>h y (List.mem_cons_of_mem _ hy));have hx:=h x (List.mem_cons_self ..);rw[show pw 0 (x::r)=pw (0*4294967296+x) r from rfl,Zlx,yah,show 32*(r.length+1)=32+32*r.length by omega,Nat.pow_add,Nat.zero_mul,ybf]
  have:(x+1)*2 ^ (32*r.length)<=2 ^ 32*2 ^ (32*r.length):=Nat.mul_le_mul_right _ (by omega);rw[Nat.add_mul,Nat.one_mul] at this;omega
theorem ZIo{n x s:Nat}{r:yL Nat}(h:∀y,y∈r->y < 4294967296)(hs:s=32*r.length):yag (pw n (x::r)) s=n*4294967296+x:=by
 subst hs;rw[show yag (pw n (x::r)) (32*r.length)=pw n (x::r) >>> (32*r.length) from rfl,Nat.shiftRight_eq_div_pow]
 exact ZAd r (n*4294967296+x) h
theorem ZIp{n x s:Nat}{r:yL Nat}(hx:x < 4294967296)(h:∀y,y∈r->y < 4294967296)(hs:s=32*r.length):lo (yag (pw n (x::r)) s)=x:=by
 rw[ZIo h hs];show(n*4294967296+x) % 4294967296=x;omega
theorem ZAe(n:Nat)(l r:yL Nat):pw n (l++r)=pw (pw n l) r:=List.foldl_append ..
theorem ZBF(n x:Nat)(r:yL Nat):pw n (x::r)=pw (n*4294967296+x) r:=rfl
theorem Zd2{v l r:yL Nat}{x s:Nat}(e:v=l++x::r)(h:∀y,y∈v->y < 4294967296)(hs:s=32*r.length):lo (yag (pw 0 v) s)=x:=by
 rw[e] at h ⊢;rw[ZAe];exact ZIp (h x (by simp)) (λy hy=>h y (by simp[hy])) hs
def wd(ws:yL Nat)(n:Nat):Nat:=if h:n < 16 then lo (ws.getD n 0) else lo (wd ws (n - 16)+s0 (wd ws (n - 15))+wd ws (n - 7)+s1 (wd ws (n - 2)))
termination_by n
decreasing_by all_goals omega
theorem ZKI(ws:yL Nat)(n:Nat):wd ws n < 4294967296:=by
 rw[wd];split <;> exact ZIm _
theorem ZBG(ws:yL Nat)(n:Nat):wd ws (n+16)=lo (wd ws n+s0 (wd ws (n+1))+wd ws (n+9)+s1 (wd ws (n+14))):=by
 rw[wd,dif_neg (by omega)];simp only[Nat.add_sub_cancel,show n+16 - 15=n+1 by omega,show n+16 - 7=n+9 by omega,show n+16 - 2=n+14 by omega]
def win(ws:yL Nat)(i:Nat):yL Nat:=[wd ws i,wd ws (i+1),wd ws (i+2),wd ws (i+3),wd ws (i+4),wd ws (i+5),wd ws (i+6),wd ws (i+7),wd ws (i+8),wd ws (i+9),wd ws (i+10),wd ws (i+11),wd ws (i+12),wd ws (i+13),wd ws (i+14),wd ws (i+15)]
theorem ZAf{ws:yL Nat}{i:Nat}{l:yL Nat}(h:∀x,x∈l->∃j,x=wd ws j):∀x,x∈l->x < 4294967296:=λx hx=>by
 obtain⟨j,rfl⟩:=h x hx;exact ZKI _ _
theorem ZBH(ws:yL Nat)(i:Nat):yag (pw 0 (win ws i)) 480=wd ws i:=by
 have h:=ZIo (n:=0) (x:=wd ws i) (s:=480) (r:=(win ws i).tail) (ZAf (ws:=ws) (i:=i) (λx hx=>by
  simp only[win,List.tail_cons,yax,ycj,or_false] at hx;rcases hx with h|h|h|h|h|h|h|h|h|h|h|h|h|h|h <;> exact⟨_,h⟩)) rfl
 rw[Nat.zero_mul,ybf] at h;exact h
theorem ZJM(ws:yL Nat)(i:Nat):kw (pw 0 (win ws i))=wd ws (i+16):=by
 have key:∀(l r:yL Nat)(x s:Nat),win ws i=l++x::r->s=32*r.length->lo (yag (pw 0 (win ws i)) s)=x:=by
  intro l r x s e hs
  have zU:∀y,y∈win ws i->y < 4294967296:=ZAf (i:=i) λx hx=>by
   simp only[win,yax,ycj,or_false] at hx;rcases hx with h|h|h|h|h|h|h|h|h|h|h|h|h|h|h|h <;> exact⟨_,h⟩
  rw[e] at zU ⊢;rw[ZAe];exact ZIp (zU x (by simp)) (λy hy=>zU y (by simp[hy])) hs
 unfold kw;rw[ZBH,key [_] _ (wd ws (i+1)) 448 rfl rfl,key [_,_,_,_,_,_,_,_,_] _ (wd ws (i+9)) 192 rfl rfl,key [_,_,_,_,_,_,_,_,_,_,_,_,_,_] _ (wd ws (i+14)) 32 rfl rfl,ZBG];rfl
theorem ZHE(a b m:Nat)(h:b < 2 ^ m):Nat.mod (a*2 ^ m+b) (Nat.pow 2 m)=b:=by
 show(a*2 ^ m+b) % 2 ^ m=b;rw[ybs,Nat.mul_add_mod];exact yaq h
theorem ZJN(ws:yL Nat)(i:Nat):kn (pw 0 (win ws i))=pw 0 (win ws (i+1)):=by
 have e:yw (Nat.mul (pw 0 (win ws i)) 4294967296) (kw (pw 0 (win ws i)))=pw (wd ws i) (win ws (i+1)):=by
  rw[ZJM];show pw 0 (win ws i)*4294967296+wd ws (i+16)=pw (wd ws i) (win ws (i+1));rw[show wd ws i=0*4294967296+wd ws i by omega];rfl
 unfold kn;rw[e,Zlx];have hl:(win ws (i+1)).length=16:=rfl
 have hlt:=ZIn (win ws (i+1)) (ZAf (i:=i+1) λx hx=>by
  simp only[win,yax,ycj,or_false] at hx;rcases hx with h|h|h|h|h|h|h|h|h|h|h|h|h|h|h|h <;> exact⟨_,h⟩)
 rw[show 512=32*(win ws (i+1)).length by rw[hl]];exact ZHE _ _ _ hlt
def rnd(v:yL Nat)(k w:Nat):yL Nat:=match v with
 |[a,b,c,d,e,f,g,h]=>[lo (yw (yw (yw (yw (yw (yw h (S1 e)) (ch e f g)) k) w) (S0 a)) (mj a b c)),a,b,c,lo (yw d (yw (yw (yw (yw h (S1 e)) (ch e f g)) k) w)),e,f,g]
 |_=>[]
def rs(ws v:yL Nat):Nat->yL Nat
 |0=>v
 |i+1=>rnd (rs ws v i) (ks.getD i 0) (wd ws i)
theorem ZHF{v:yL Nat}(h:v.length=8)(k w:Nat):(rnd v k w).length=8:=by
 match v,h with
 |[a,b,c,d,e,f,g,h],_=>rfl
theorem ZvB{ws v:yL Nat}(h:v.length=8):∀i,(rs ws v i).length=8
 |0=>h
 |i+1=>ZHF (ZvB h i) _ _
noncomputable def ZFq(f:Nat->Nat->Nat->Nat->Nat->Nat->Nat->Nat->Nat)(v:yL Nat):Nat:=match v with
 |[a,b,c,d,e,f',g,h]=>f a b c d e f' g h
 |_=>0
theorem Zir{F:Nat->Nat->Nat->Nat->Nat->Nat->Nat->Nat->Nat}{a b c d e f g h:Nat}:ZFq F [a,b,c,d,e,f,g,h]=F a b c d e f g h:=rfl
theorem ZFr(k:Nat)(l:yL Nat)(K:Nat->Nat->Nat->Nat->Nat->Nat->Nat->Nat->Nat):kgo (k::l) K=kst k (kgo l K):=rfl
theorem ZxT(a b c d e f g h k w:Nat):rnd [a,b,c,d,e,f,g,h] k w=[lo (yw (yw (yw (yw (yw (yw h (S1 e)) (ch e f g)) k) w) (S0 a)) (mj a b c)),a,b,c,lo (yw d (yw (yw (yw (yw h (S1 e)) (ch e f g)) k) w)),e,f,g]:=rfl
theorem ZJO(k:Nat)(ih:Nat->Nat->Nat->Nat->Nat->Nat->Nat->Nat->Nat->Nat)(W a b c d e f g h:Nat):kst k ih W a b c d e f g h=
 ih (kn W) (lo (yw (yw (yw (yw (yw (yw h (S1 e)) (ch e f g)) k) (yag W 480)) (S0 a)) (mj a b c))) a b c (lo (yw d (yw (yw (yw (yw h (S1 e)) (ch e f g)) k) (yag W 480)))) e f g:=by
 unfold kst;rw[Xb,Xb,Xb,Xb]
theorem ZFs{ws v:yL Nat}{K:Nat->Nat->Nat->Nat->Nat->Nat->Nat->Nat->Nat}{k w:Nat}{l:yL Nat}(hv:v.length=8){W:Nat}(hW:yag W 480=w):ZFq (kgo (k::l) K W) v=ZFq (kgo l K (kn W)) (rnd v k w):=by
 match v,hv with
 |[a,b,c,d,e,f,g,h],_=>
  rw[ZFr,Zir,ZJO,hW,ZxT,Zir]
theorem ZBI{ws v:yL Nat}{K:Nat->Nat->Nat->Nat->Nat->Nat->Nat->Nat->Nat}(hv:v.length=8):∀(m i:Nat),i+m=64->ZFq (kgo (ks.drop i) K (pw 0 (win ws i))) (rs ws v i)=ZFq K (rs ws v 64)
 |0,i,h=>by
  have e:i=64:=by omega
  subst e;rw[show ks.drop 64=[] from rfl]
  generalize pw 0 (win ws 64)=W
  rfl
 |m+1,i,h=>by
  have hi:i < ks.length:=by show i < 64;omega
  rw[List.drop_eq_getElem_cons hi,ZFs (ws:=ws) (ZvB hv i) (ZBH ws i),ZJN];have:=ZBI (ws:=ws) (K:=K) hv m (i+1) (by omega);rw[show rs ws v (i+1)=rnd (rs ws v i) (ks.getD i 0) (wd ws i) from rfl,show ks.getD i 0=ks[i] by rw[ycz,yz hi];rfl] at this
  exact this
def Zly(v ws:yL Nat):yL Nat:=List.zipWith (λx y=>lo (x+y)) (rs ws v 64) v
theorem Zho{v ws:yL Nat}(h:v.length=8):(Zly v ws).length=8:=by
 rw[Zly,List.length_zipWith,ZvB h,h];rfl
theorem ZBJ{v ws:yL Nat}:∀x,x∈Zly v ws->x < 4294967296:=by
 intro x hx;unfold Zly at hx;rw[List.mem_iff_getElem] at hx;obtain⟨i,hi,rfl⟩:=hx;rw[List.getElem_zipWith];exact ZIm _
theorem ZHG{v ws:yL Nat}(hv:v.length=8)(hlt:∀x,x∈v->x < 4294967296)(hw:ws.length=16)(hwl:∀x,x∈ws->x < 4294967296):ZHD (pw 0 v) (pw 0 ws)=pw 0 (Zly v ws):=by
 have e0:ws=win ws 0:=by
  match ws,hw with
  |[a0,a1,a2,a3,a4,a5,a6,a7,a8,a9,a10,a11,a12,a13,a14,a15],_=>
   simp only[yax,ycj,or_false,forall_eq_or_imp,forall_eq] at hwl;obtain⟨h0,h1,h2,h3,h4,h5,h6,h7,h8,h9,h10,h11,h12,h13,h14,h15⟩:=hwl;have hs:∀n,n < 16->wd [a0,a1,a2,a3,a4,a5,a6,a7,a8,a9,a10,a11,a12,a13,a14,a15] n=lo ([a0,a1,a2,a3,a4,a5,a6,a7,a8,a9,a10,a11,a12,a13,a14,a15].getD n 0):=λn hn=>by rw[wd,dif_pos hn]
   unfold win;rw[hs 0 (by omega),hs (0+1) (by omega),hs (0+2) (by omega),hs (0+3) (by omega),hs (0+4) (by omega),hs (0+5) (by omega),hs (0+6) (by omega),hs (0+7) (by omega),hs (0+8) (by omega),hs (0+9) (by omega),hs (0+10) (by omega),hs (0+11) (by omega),hs (0+12) (by omega),hs (0+13) (by omega),hs (0+14) (by omega),hs (0+15) (by omega)];show _=[lo a0,lo a1,lo a2,lo a3,lo a4,lo a5,lo a6,lo a7,lo a8,lo a9,lo a10,lo a11,lo a12,lo a13,lo a14,lo a15];rw[ZaB h0,ZaB h1,ZaB h2,ZaB h3,ZaB h4,ZaB h5,ZaB h6,ZaB h7,ZaB h8,ZaB h9,ZaB h10,ZaB h11,ZaB h12,ZaB h13,ZaB h14,ZaB h15]
 match v,hv with
 |[a,b,c,d,e,f,g,h],hv=>
  have ea:w32 (pw 0 [a,b,c,d,e,f,g,h]) 224=a:=Zd2 (l:=[]) (r:=[b,c,d,e,f,g,h]) rfl hlt rfl;have eb:w32 (pw 0 [a,b,c,d,e,f,g,h]) 192=b:=Zd2 (l:=[a]) (r:=[c,d,e,f,g,h]) rfl hlt rfl;have ec:w32 (pw 0 [a,b,c,d,e,f,g,h]) 160=c:=Zd2 (l:=[a,b]) (r:=[d,e,f,g,h]) rfl hlt rfl;have ed:w32 (pw 0 [a,b,c,d,e,f,g,h]) 128=d:=Zd2 (l:=[a,b,c]) (r:=[e,f,g,h]) rfl hlt rfl;have ee:w32 (pw 0 [a,b,c,d,e,f,g,h]) 96=e:=Zd2 (l:=[a,b,c,d]) (r:=[f,g,h]) rfl hlt rfl;have ef:w32 (pw 0 [a,b,c,d,e,f,g,h]) 64=f:=Zd2 (l:=[a,b,c,d,e]) (r:=[g,h]) rfl hlt rfl;have eg:w32 (pw 0 [a,b,c,d,e,f,g,h]) 32=g:=Zd2 (l:=[a,b,c,d,e,f]) (r:=[h]) rfl hlt rfl;have eh:w32 (pw 0 [a,b,c,d,e,f,g,h]) 0=h:=Zd2 (l:=[a,b,c,d,e,f,g]) (r:=[]) rfl hlt rfl;unfold ZHD;rw[ea,eb,ec,ed,ee,ef,eg,eh,Xb,Xb,Xb,Xb,Xb,Xb,Xb,Xb];have hr:=ZBI (ws:=ws) (v:=[a,b,c,d,e,f,g,h]) (K:=λa' b' c' d' e' f' g' h'=>cat (cat (cat (cat (cat (cat (cat (cat 0 (yw a' a)) (yw b' b)) (yw c' c)) (yw d' d)) (yw e' e)) (yw f' f)) (yw g' g)) (yw h' h)) rfl 64 0 rfl;rw[<-e0,show ks.drop 0=ks from rfl,show rs ws [a,b,c,d,e,f,g,h] 0=[a,b,c,d,e,f,g,h] from rfl,Zir] at hr
  rw[hr];unfold Zly;generalize rs ws [a,b,c,d,e,f,g,h] 64=q,ZvB (ws:=ws) hv 64=hq
  match q,hq with
  |[a',b',c',d',e',f',g',h'],_=>
   rw[Zir];simp only[List.zipWith_cons_cons,List.zipWith_nil_right,ZBF,cat];rfl
theorem ZoZ(x:Nat)(l:yL Nat)(n:Nat):pk (x::l) n=pk l (n*256+x):=by
 show Qc (yw (Nat.mul n 256) x) (pk l)=_;rw[Xb];rfl
def Y7:yL Nat->yL Nat
 |a::b::c::d::r=>(((a*256+b)*256+c)*256+d)::Y7 r
 |_=>[]
theorem ZxU:∀(m:Nat)(l:yL Nat)(n:Nat),l.length=4*m->pk l n=pw n (Y7 l)
 |0,[],n,_=>rfl
 |0,_::_,_,h=>by simp at h
 |m+1,[],_,h=>by simp at h
 |m+1,[_],_,h=>by simp at h;omega
 |m+1,[_,_],_,h=>by simp at h;omega
 |m+1,[_,_,_],_,h=>by simp at h;omega
 |m+1,a::b::c::d::r,n,h=>by
  rw[ZoZ,ZoZ,ZoZ,ZoZ,Y7];rw[ZxU m r _ (by simp at h;omega),ZBF];have e:(((n*256+a)*256+b)*256+c)*256+d=n*4294967296+(((a*256+b)*256+c)*256+d):=by omega
  rw[e]
theorem ZnR:∀(m:Nat)(l:yL Nat),l.length=4*m->(Y7 l).length=m
 |0,[],_=>rfl
 |0,_::_,h=>by simp at h
 |m+1,[],h=>by simp at h
 |m+1,[_],h=>by simp at h;omega
 |m+1,[_,_],h=>by simp at h;omega
 |m+1,[_,_,_],h=>by simp at h;omega
 |m+1,a::b::c::d::r,h=>by
  rw[Y7,yah,ZnR m r (by simp at h;omega)]
theorem ZqO:∀(m:Nat)(l:yL Nat),l.length=4*m->(∀x,x∈l->x < 256)->∀x,x∈Y7 l->x < 4294967296
 |0,[],_,_,x,hx=>by simp[Y7] at hx
 |0,_::_,h,_,_,_=>by simp at h
 |m+1,[],h,_,_,_=>by simp at h
 |m+1,[_],h,_,_,_=>by simp at h;omega
 |m+1,[_,_],h,_,_,_=>by simp at h;omega
 |m+1,[_,_,_],h,_,_,_=>by simp at h;omega
 |m+1,a::b::c::d::r,h,hl,x,hx=>by
  rw[Y7] at hx;have h1:=hl a (by simp);have h2:=hl b (by simp);have h3:=hl c (by simp);have h4:=hl d (by simp);rcases yax.1 hx with rfl|hx
  ·omega
  ·exact ZqO m r (by simp at h;omega) (λy hy=>hl y (by simp[hy])) x hx
theorem ZnS:∀(i:Nat)(l:yL Nat)(a b c d:Nat),l[4*i]? =some a->l[4*i+1]? =some b->l[4*i+2]? =some c->l[4*i+3]? =some d->(Y7 l)[i]? =some (((a*256+b)*256+c)*256+d)
 |0,[],_,_,_,_,h,_,_,_=>by simp at h
 |0,[_],_,_,_,_,_,h,_,_=>by simp at h
 |0,[_,_],_,_,_,_,_,_,h,_=>by simp at h
 |0,[_,_,_],_,_,_,_,_,_,_,h=>by simp at h
 |0,a::b::c::d::r,_,_,_,_,h1,h2,h3,h4=>by
  simp at h1 h2 h3 h4;subst h1 h2 h3 h4
  rfl
 |i+1,[],_,_,_,_,h,_,_,_=>by simp at h
 |i+1,[_],_,_,_,_,h,_,_,_=>by simp[show 4*(i+1)=4*i+3+1 by omega] at h
 |i+1,[_,_],_,_,_,_,h,_,_,_=>by simp[show 4*(i+1)=4*i+2+1+1 by omega] at h
 |i+1,[_,_,_],_,_,_,_,h,_,_,_=>by simp[show 4*(i+1)=4*i+1+1+1+1 by omega] at h
 |i+1,a::b::c::d::r,_,_,_,_,h1,h2,h3,h4=>by
  rw[Y7,yav]
  exact ZnS i r _ _ _ _ (by simpa[show 4*(i+1)=4*i+1+1+1+1 by omega] using h1) (by simpa[show 4*(i+1)+1=4*i+1+1+1+1+1 by omega] using h2)
   (by simpa[show 4*(i+1)+2=4*i+2+1+1+1+1 by omega] using h3) (by simpa[show 4*(i+1)+3=4*i+3+1+1+1+1 by omega] using h4)
def Ze0:Nat->yL Nat->yL Nat->yL Nat
 |0,_,v=>v
 |n+1,l,v=>Ze0 n (l.drop 64) (Zly v (Y7 (l.take 64)))
theorem ZBK:∀(n:Nat)(l v:yL Nat),l.length=64*n->(∀x,x∈l->x < 256)->v.length=8->(∀x,x∈v->x < 4294967296)->ZJK n l (pw 0 v)=pw 0 (Ze0 n l v)
 |0,l,v,_,_,_,_=>rfl
 |n+1,l,v,h1,h2,h3,h4=>by
  show Qc (ZHD (pw 0 v) (pk (l.take 64) 0)) (ZJK n (l.drop 64))=_;have hl:(l.take 64).length=4*16:=by rw[yae];omega
  rw[Xb,ZxU 16 _ 0 hl,ZHG h3 h4 (ZnR 16 _ hl) (ZqO 16 _ hl λx hx=>h2 x (List.mem_of_mem_take hx))];exact ZBK n (l.drop 64) _ (by rw[yca];omega) (λx hx=>h2 x (List.mem_of_mem_drop hx)) (Zho h3) ZBJ
theorem ZxV:∀(n:Nat)(l v:yL Nat),v.length=8->(Ze0 n l v).length=8
 |0,_,_,h=>h
 |n+1,l,v,h=>ZxV n _ _ (Zho h)
theorem ZBL:∀(n:Nat)(l v:yL Nat),(∀x,x∈v->x < 4294967296)->∀x,x∈Ze0 n l v->x < 4294967296
 |0,_,_,h=>h
 |n+1,l,v,h=>ZBL n _ _ ZBJ
theorem ZqP:∀(n m:Nat)(l r v:yL Nat),l.length=64*n->Ze0 (n+m) (l++r) v=Ze0 m r (Ze0 n l v)
 |0,m,l,r,v,h=>by
  have:l=[]:=List.length_eq_zero_iff.1 (by omega);subst this;rw[ybf]
  rfl
 |n+1,m,l,r,v,h=>by
  rw[show n+1+m=(n+m)+1 by omega,Ze0,List.drop_append_of_le_length (by omega),List.take_append_of_le_length (by omega),ZqP n m _ r _ (by rw[yca];omega)];rfl
theorem ZmR:∀(c:Nat)(l v:yL Nat),Ze0 (c+1) l v=Zly (Ze0 c l v) (Y7 ((l.drop (64*c)).take 64))
 |0,l,v=>by rw[Nat.mul_zero,List.drop_zero];rfl
 |c+1,l,v=>by
  rw[show Ze0 (c+1+1) l v=Ze0 (c+1) (l.drop 64) (Zly v (Y7 (l.take 64))) from rfl,ZmR c,List.drop_drop,show 64+64*c=64*(c+1) by omega]
  rfl
theorem ZFt(ws:yL Nat){n x:Nat}(hn:n < 16)(h:ws[n]? =some x)(hx:x < 4294967296):wd ws n=x:=by
 rw[wd,dif_pos hn,ycz,h];exact ZaB hx
def ZFu(v:yL Nat)(k:Nat):yB:=yaz (v.getD (k / 4) 0 / 2 ^ (24 - 8*(k % 4)))
theorem ZHH{v:yL Nat}(hv:v.length=8)(hlt:∀x,x∈v->x < 4294967296):outs (pw 0 v) ZAc=(List.range 32).map (ZFu v):=by
 have hgo:∀(H:Nat)(l:yL Nat),outs H l=l.map λs=>yaz (H / 2 ^ s % 256):=by
  intro H l
  induction l with
  |nil=>rfl
  |cons s r ih=>
   show Qc (Nat.mod (yag H s) 256) (λx=>yaz x::outs H r)=_;rw[Xb,ih,yad,show yag H s=H >>> s from rfl,Nat.shiftRight_eq_div_pow]
   rfl
 have hb:∀(l r:yL Nat)(x j s:Nat),v=l++x::r->j<=24->s=32*r.length+j->yaz (pw 0 v / 2 ^ s % 256)=yaz (x / 2 ^ j):=by
  intro l r x j s e hj hs;have zU:=hlt;rw[e] at zU
  have h1:pw 0 v / 2 ^ (32*r.length)=pw 0 l*4294967296+x:=by
   rw[e,ZAe];exact ZAd r _ (λy hy=>zU y (by simp[hy]))
  rw[hs,Nat.pow_add, <-Nat.div_div_eq_div_mul,h1]
  have h2:pw 0 l*4294967296+x=2 ^ j*(pw 0 l*2 ^ (24 - j)*256)+x:=by
   rw[show(4294967296:Nat)=2 ^ j*2 ^ (24 - j)*256 by rw[<-Nat.pow_add,show j+(24 - j)=24 by omega]];congr 1;ac_rfl
  rw[h2,Nat.mul_add_div (Nat.two_pow_pos j),ybs (pw 0 l*2 ^ (24 - j)) 256,Nat.mul_add_mod];exact UInt8.toNat_inj.1 (by simp)
 match v,hv with
 |[a,b,c,d,e,f,g,h],_=>
  rw[hgo];simp only[ZAc,yad,List.map_nil]
  rw[hb [] [b,c,d,e,f,g,h] a 24 248 rfl (by omega) rfl,hb [] [b,c,d,e,f,g,h] a 16 240 rfl (by omega) rfl,hb [] [b,c,d,e,f,g,h] a 8 232 rfl (by omega) rfl,hb [] [b,c,d,e,f,g,h] a 0 224 rfl (by omega) rfl,
   hb [a] [c,d,e,f,g,h] b 24 216 rfl (by omega) rfl,hb [a] [c,d,e,f,g,h] b 16 208 rfl (by omega) rfl,hb [a] [c,d,e,f,g,h] b 8 200 rfl (by omega) rfl,hb [a] [c,d,e,f,g,h] b 0 192 rfl (by omega) rfl,
   hb [a,b] [d,e,f,g,h] c 24 184 rfl (by omega) rfl,hb [a,b] [d,e,f,g,h] c 16 176 rfl (by omega) rfl,hb [a,b] [d,e,f,g,h] c 8 168 rfl (by omega) rfl,hb [a,b] [d,e,f,g,h] c 0 160 rfl (by omega) rfl,
   hb [a,b,c] [e,f,g,h] d 24 152 rfl (by omega) rfl,hb [a,b,c] [e,f,g,h] d 16 144 rfl (by omega) rfl,hb [a,b,c] [e,f,g,h] d 8 136 rfl (by omega) rfl,hb [a,b,c] [e,f,g,h] d 0 128 rfl (by omega) rfl,
   hb [a,b,c,d] [f,g,h] e 24 120 rfl (by omega) rfl,hb [a,b,c,d] [f,g,h] e 16 112 rfl (by omega) rfl,hb [a,b,c,d] [f,g,h] e 8 104 rfl (by omega) rfl,hb [a,b,c,d] [f,g,h] e 0 96 rfl (by omega) rfl,
   hb [a,b,c,d,e] [g,h] f 24 88 rfl (by omega) rfl,hb [a,b,c,d,e] [g,h] f 16 80 rfl (by omega) rfl,hb [a,b,c,d,e] [g,h] f 8 72 rfl (by omega) rfl,hb [a,b,c,d,e] [g,h] f 0 64 rfl (by omega) rfl,
   hb [a,b,c,d,e,f] [h] g 24 56 rfl (by omega) rfl,hb [a,b,c,d,e,f] [h] g 16 48 rfl (by omega) rfl,hb [a,b,c,d,e,f] [h] g 8 40 rfl (by omega) rfl,hb [a,b,c,d,e,f] [h] g 0 32 rfl (by omega) rfl,
   hb [a,b,c,d,e,f,g] [] h 24 24 rfl (by omega) rfl,hb [a,b,c,d,e,f,g] [] h 16 16 rfl (by omega) rfl,hb [a,b,c,d,e,f,g] [] h 8 8 rfl (by omega) rfl,hb [a,b,c,d,e,f,g] [] h 0 0 rfl (by omega) rfl]
  rfl
def ZfI(l:yL yB):yL Nat:=l.map ybh++(128::(yv (zs l.length) 0++be8 (8*l.length)))
def ZfJ:yL Nat:=[1779033703,3144134277,1013904242,2773480762,1359893119,2600822924,528734635,1541459225]
theorem ZAg(l:yL yB):(ZfI l).length=64*((l.length+72) / 64):=by
 unfold ZfI;simp only[yo,yy,yah,yct,be8,List.length_nil,zs];omega
theorem ZC2(l:yL yB):∀x,x∈ZfI l->x < 256:=by
 intro x hx;unfold ZfI at hx;simp only[List.mem_append,List.mem_map,yax,List.mem_replicate,be8,ycj,or_false] at hx;rcases hx with⟨y,_,rfl⟩|rfl|⟨_,rfl⟩|h
 ·exact y.toNat_lt
 ·omega
 ·omega
 ·rcases h with h|h|h|h|h|h|h|h <;> rw[h] <;> exact ybn _ (by omega)
theorem ZFv(l:yL yB):sha l=(List.range 32).map (ZFu (Ze0 ((l.length+72) / 64) (ZfI l) ZfJ)):=by
 unfold sha
 rw[Xb,Xb,show H0=pw 0 ZfJ from rfl,show l.map ybh++(128::(yv (zs l.length) 0++be8 (8*l.length)))=ZfI l from rfl,
  show Nat.div (yw l.length 72) 64=(l.length+72) / 64 from rfl]
 have hf:∀x,x∈ZfJ->x < 4294967296:=by decide
 rw[ZBK _ _ _ (ZAg l) (ZC2 l) rfl hf];exact ZHH (ZxV _ _ _ rfl) (ZBL _ _ _ hf)
theorem ZK2(l:yL yB):(sha l).length=32:=by rw[ZFv];simp
end Go.Sha
end
section
set_option maxRecDepth 4000
namespace Go.Proofs.YtpgpjjjoglafdaaGreat
open Go Go.Ev Go.Sha
theorem Zep(x:yV)(n k:Nat)(h:n+k=32)(hn:0 < n){z:Int}(hz:((w64 z)&&&31).toNat=k):∃o,ZE yD x z=some o/\o.toNat=lo (yag (dbl x.toNat) n):=by
 refine⟨_,rfl, ?_⟩;have e1:((((w64 z)&&&31).toNat:Int)).toNat=k:=by rw[hz];rfl
 have e2:(32 - ((w64 z)&&&31)).toNat=n:=by
  have h1:((w64 z)&&&31)=yaf k:=UInt64.toNat_inj.1 (by rw[hz,ybb];omega);rw[h1,UInt64.toNat_sub,ybb];show(2 ^ 64 - k % 2 ^ 64+32) % 2 ^ 64=n;omega
 rw[e1,show((((32 - ((w64 z)&&&31)).toNat:Nat):Int)).toNat=n by rw[e2];rfl,Nat.min_eq_left (by omega),Nat.min_eq_left (by omega)];exact ZKH x h hn
theorem ZJP{l:yL yB}{a b c d:yB}(ha:l[0]? =some a)(hb:l[1]? =some b)(hc:l[2]? =some c)(hd:l[3]? =some d):∃o,Zcf yD l=some o/\o.toNat=((a.toNat*256+b.toNat)*256+c.toNat)*256+d.toNat:=by
 unfold Zcf;rw[Zil (i:=0) (by omega) ha,Zil (i:=1) (by omega) hb,Zil (i:=2) (by omega) hc,Zil (i:=3) (by omega) hd];refine⟨_,rfl, ?_⟩;have h1:=a.toNat_lt;have h2:=b.toNat_lt;have h3:=c.toNat_lt;have h4:=d.toNat_lt
 have hs:∀(x:yB)(n:Nat),n<=24->(ZcN (ycf x.toNat) n).toNat=x.toNat*2 ^ n:=by
  intro x n hn;have hx:=x.toNat_lt;unfold ZcN;rw[ycx,ycx,yaq (a:=x.toNat) (by omega)];refine yaq ?_
  calc x.toNat*2 ^ n < 2 ^ 8*2 ^ n:=Nat.mul_lt_mul_of_pos_right hx (Nat.two_pow_pos n)
   _=2 ^ (8+n):=(Nat.pow_add ..).symm
   _<=2 ^ 32:=Nat.pow_le_pow_right (by omega) (by omega)
 rw[ZC1,ZC1,ZC1,hs _ _ (by omega),hs _ _ (by omega),hs _ _ (by omega),ycx,yaq (a:=d.toNat) (by omega)]
 have k1:Nat.lor (a.toNat*2 ^ 24) (b.toNat*2 ^ 16)=2 ^ 16*(a.toNat*256+b.toNat):=by
  rw[ybs a.toNat,show Nat.lor (2 ^ 24*a.toNat) (b.toNat*2 ^ 16)=2 ^ 24*a.toNat|||b.toNat*2 ^ 16 from rfl, <-Nat.two_pow_add_eq_or_of_lt (by omega)]
  omega
 have k2:Nat.lor (2 ^ 16*(a.toNat*256+b.toNat)) (c.toNat*2 ^ 8)=2 ^ 8*((a.toNat*256+b.toNat)*256+c.toNat):=by
  rw[show Nat.lor (2 ^ 16*(a.toNat*256+b.toNat)) (c.toNat*2 ^ 8)=2 ^ 16*(a.toNat*256+b.toNat)|||c.toNat*2 ^ 8 from rfl, <-Nat.two_pow_add_eq_or_of_lt (by omega)]
  omega
 rw[k1,k2,show Nat.lor (2 ^ 8*((a.toNat*256+b.toNat)*256+c.toNat)) d.toNat=2 ^ 8*((a.toNat*256+b.toNat)*256+c.toNat)|||d.toNat from rfl, <-Nat.two_pow_add_eq_or_of_lt (by omega)]
 omega
theorem ZFw{l:yL yB}(h:l.length=64):∃o,Zah yD l=some o/\o.length=64/\∀(i:Nat)x,i < 64->o[i]? =some x->x.toNat=wd (Y7 (l.map ybh)) i:=by
 unfold Zah;generalize hz:([0,0,0,0,0,0,0,0,0,0,0,0,0,0,0,0,0,0,0,0,0,0,0,0,0,0,0,0,0,0,0,0,0,0,0,0,0,0,0,0,0,0,0,0,0,0,0,0,0,0,0,0,0,0,0,0,0,0,0,0,0,0,0,0]:yL yV)=z;have hzl:z.length=64:=by rw[<-hz];rfl
 refine Exists.elim (XV (step:=Vi yD) (λs=>s.1=l/\0<=s.2.1/\s.2.1<=64/\s.2.2.length=64/\∀(j:Nat)x,(j:Int) < s.2.1->s.2.2[j]? =some x->x.toNat=wd (Y7 (l.map ybh)) j) (λs=>(64 - s.2.1).toNat)
  (λo=>o.length=64/\∀(j:Nat)x,j < 64->o[j]? =some x->x.toNat=wd (Y7 (l.map ybh)) j) ?_ (l,(0:Int),z) ⟨rfl,Int.le_refl _,by dsimp only;omega,hzl,λj x hj=>by dsimp only at hj;omega⟩ (by dsimp only;omega)) ?_
 rotate_left
 ·rintro o ⟨h1,h2⟩;exact⟨o,by rw[h1];rfl,h2⟩
 ·rintro⟨b,i,w⟩ ⟨hb,h0,h64,hw,hv⟩;dsimp only at hb h0 h64 hw hv;subst hb;unfold Vi;dsimp only
  have hset:∀(y:yV),y.toNat=wd (Y7 (b.map ybh)) i.toNat->i < 64->∀(j:Nat)x,(j:Int) < i+1->(w.set i.toNat y)[j]? =some x->x.toNat=wd (Y7 (b.map ybh)) j:=by
   intro y hy hi j x hj hx;by_cases hji:j=i.toNat
   ·subst hji;rw[ycw (by omega)] at hx;cases hx;exact hy
   ·rw[List.getElem?_set_ne (Ne.symm hji)] at hx;exact hv j x (by omega) hx
  by_cases hi:i < 64
  ·left;rw[yW (yY hi)];obtain⟨e,he⟩:=Zaa (l:=w) (i:=i.toNat) (by omega);by_cases h16:i < 16
   ·rw[yW (yY h16),ZP (z:=4*i) (by omega) (by omega),yW (by simp only[ZdA,yj,yP];omega)];have g:∀k:Nat,k < 4->∃x,b[4*i.toNat+k]? =some x:=λk hk=>Zaa (by omega);obtain⟨x0,g0⟩:=g 0 (by omega);obtain⟨x1,g1⟩:=g 1 (by omega);obtain⟨x2,g2⟩:=g 2 (by omega);obtain⟨x3,g3⟩:=g 3 (by omega);have e4:(4*i).toNat=4*i.toNat:=by omega
    obtain⟨o,ho,hoe⟩:=ZJP (l:=b.drop (4*i).toNat) (by rw[List.getElem?_drop,e4];exact g0) (by rw[List.getElem?_drop,e4];exact g1) (by rw[List.getElem?_drop,e4];exact g2) (by rw[List.getElem?_drop,e4];exact g3);rw[ho,ya,yW (ZZ h0 (by omega)),he,ya,ZP (z:=i+1) (by omega) (by omega)];refine⟨_,rfl,⟨rfl,by dsimp only;omega,by dsimp only;omega,by dsimp only;rw[ybq];exact hw,hset o ?_ hi⟩,by dsimp only;omega⟩;have mg:∀(k:Nat)(x:yB),b[k]? =some x->(b.map ybh)[k]? =some x.toNat:=λk x hx=>by rw[yaj,hx];rfl
    have hwg:=ZnS i.toNat (b.map ybh) _ _ _ _ (mg _ _ g0) (mg _ _ g1) (mg _ _ g2) (mg _ _ g3);rw[hoe];have b0:=x0.toNat_lt;have b1:=x1.toNat_lt;have b2:=x2.toNat_lt;have b3:=x3.toNat_lt;exact(ZFt _ (by omega) hwg (by omega)).symm
   ·rw[yX (by simpa using h16)];rw[ZP (z:=i - 15) (by omega) (by omega),ZP (z:=i - 2) (by omega) (by omega),ZP (z:=i - 16) (by omega) (by omega),ZP (z:=i - 7) (by omega) (by omega),ZP (z:=i+1) (by omega) (by omega)];obtain⟨e1,he1⟩:=Zaa (l:=w) (i:=(i - 15).toNat) (by omega);obtain⟨e2,he2⟩:=Zaa (l:=w) (i:=(i - 2).toNat) (by omega);obtain⟨e3,he3⟩:=Zaa (l:=w) (i:=(i - 16).toNat) (by omega);obtain⟨e4,he4⟩:=Zaa (l:=w) (i:=(i - 7).toNat) (by omega);have v1:=hv _ _ (by omega) he1;have v2:=hv _ _ (by omega) he2;have v3:=hv _ _ (by omega) he3;have v4:=hv _ _ (by omega) he4;rw[yW (ZZ (by omega) (by omega)),he1,ya,yW (ZZ (by omega) (by omega)),he2,ya];obtain⟨o1,ho1,p1⟩:=Zep e1 7 25 rfl (by omega) (z:= -7) rfl;obtain⟨o2,ho2,p2⟩:=Zep e1 18 14 rfl (by omega) (z:= -18) rfl;obtain⟨o3,ho3,p3⟩:=Zep e2 17 15 rfl (by omega) (z:= -17) rfl;obtain⟨o4,ho4,p4⟩:=Zep e2 19 13 rfl (by omega) (z:= -19) rfl;rw[ho1,ya,ho2,ya,ho3,ya,ho4,ya];rw[yW (ZZ (by omega) (by omega)),he3,ya,yW (ZZ (by omega) (by omega)),he4,ya]
    try dsimp only
    rw[yW (ZZ h0 (by omega)),he,ya];refine⟨_,rfl,⟨rfl,by dsimp only;omega,by dsimp only;omega,by dsimp only;rw[ybq];exact hw,hset _ ?_ hi⟩,by dsimp only;omega⟩;have hn:=ZBG (Y7 (b.map ybh)) (i - 16).toNat
    rw[show(i - 16).toNat+16=i.toNat by omega,show(i - 16).toNat+1=(i - 15).toNat by omega,show(i - 16).toNat+9=(i - 7).toNat by omega,show(i - 16).toNat+14=(i - 2).toNat by omega, <-v1, <-v2, <-v3, <-v4] at hn;rw[hn];rw[Zhm,Zhm,Zhm,ZK8 e1 p1 p2,ZK9 e2 p3 p4];exact ZLe ..
  ·right;rw[yX (by simpa using hi)];exact⟨_,rfl,hw,λj x hj hx=>hv j x (by omega) hx⟩
theorem ZFx{st:yL yV}{l:yL yB}(hs:st.length=8)(h:l.length=64):∃o,WZ yD st l=some o/\o.map ybk=Zly (st.map ybk) (Y7 (l.map ybh)):=by
 unfold WZ;obtain⟨w,hw,hwl,hwv⟩:=ZFw h;obtain⟨k,hk,hkv⟩:∃k,Zhj yD=some k/\k.map ybk=ks:=⟨_,rfl,rfl⟩;have hkl:k.length=64:=by rw[<-yy (f:=ybk),hkv];rfl
 generalize hws:Y7 (l.map ybh)=ws at hwv;rw[hw,ya,hk,ya]
 refine Exists.elim (XV (step:=WO yD) (λs=>0<=s.1/\s.1<=64/\s.2.1=st/\s.2.2.2.1=w/\s.2.2.2.2.1=k/\s.2.2.2.2.2.length=8/\s.2.2.2.2.2.map ybk=rs ws (st.map ybk) s.1.toNat) (λs=>(64 - s.1).toNat)
  (λo=>o.1=st/\o.2.2.2.2.length=8/\o.2.2.2.2.map ybk=rs ws (st.map ybk) 64) ?_ ((0:Int),st,([0,0,0,0,0,0,0,0]:yL yV),w,k,st) ⟨Int.le_refl _,by dsimp only;omega,rfl,rfl,rfl,hs,rfl⟩ (by dsimp only;omega)) ?_
 rotate_left
 ·rintro o ⟨h1,p0,p1,p2⟩;rw[h1,ya];have hml:(Zly (st.map ybk) ws).length=8:=Zho (by rw[yy];exact hs)
  refine Exists.elim (XV (step:=WP yD) (λs=>0<=s.1/\s.1<=8/\s.2.1=st/\s.2.2.2.2.2.length=8/\(∀(j:Nat)x,s.2.2.2.2.2[j]? =some x->if(j:Int) < s.1 then(Zly (st.map ybk) ws)[j]? =some x.toNat else(rs ws (st.map ybk) 64)[j]? =some x.toNat)) (λs=>(8 - s.1).toNat)
   (λo=>o.2.2.2.2.map ybk=Zly (st.map ybk) ws) ?_ ((0:Int),o.1,o.2.1,o.2.2.1,o.2.2.2.1,o.2.2.2.2) ⟨Int.le_refl _,by dsimp only;omega,p0,p1,λj x hx=>by
     dsimp only at hx ⊢;rw[yX (by omega), <-p2,yaj,hx];rfl⟩ (by dsimp only;omega)) ?_
  rotate_left
  ·rintro q ⟨h2,q2⟩;rw[h2,ya];exact⟨_,rfl,q2⟩
  ·rintro⟨i,a,b,c,d,e⟩ ⟨h0,h8,ha,he,hv⟩;dsimp only at h0 h8 ha he hv;subst ha;unfold WP;dsimp only;by_cases hi:i < 8
   ·left;obtain⟨e1,he1⟩:=Zaa (l:=e) (i:=i.toNat) (by omega);obtain⟨e2,he2⟩:=Zaa (l:=a) (i:=i.toNat) (by omega);simp only[yY hi,if_true,ZZ h0 (show i < ((8:Nat):Int) by omega),he1,he2,ya];rw[ZP (z:=i+1) (by omega) (by omega)];refine⟨_,rfl,⟨by dsimp only;omega,by dsimp only;omega,rfl,by dsimp only;rw[ybq];exact he, ?_⟩,by dsimp only;omega⟩;intro j x hx;dsimp only at hx ⊢;by_cases hji:j=i.toNat
    ·subst hji;rw[ycw (by omega)] at hx;cases hx;rw[yW (by omega),Zhm];have k1:=hv _ _ he1;rw[yX (by omega)] at k1;unfold Zly;rw[List.getElem?_zipWith,k1,yaj,he2];rfl
    ·rw[List.getElem?_set_ne (Ne.symm hji)] at hx;have k1:=hv j x hx;by_cases hj:(j:Int) < i
     ·rw[yW hj] at k1;rw[yW (by omega)];exact k1
     ·rw[yX hj] at k1;rw[yX (by omega)];exact k1
   ·right;rw[yX (by simpa using hi)];refine⟨_,rfl, ?_⟩;dsimp only;apply List.ext_getElem?;intro j;rw[yaj];by_cases hj:j < 8
    ·obtain⟨x,hx⟩:=Zaa (l:=e) (i:=j) (by omega);have:=hv j x hx;rw[yW (by omega)] at this;rw[hx,this];rfl
    ·rw[yat (by omega),yat (by omega)];rfl
 ·rintro⟨i,a,b,c,d,e⟩ ⟨h0,h64,ha,hc,hd,he,hv⟩;dsimp only at h0 h64 ha hc hd he hv;subst ha hc hd;unfold WO;dsimp only;by_cases hi:i < 64
  ·left
   match e,he,hv with
   |[x0,x1,x2,x3,x4,x5,x6,x7],_,hv=>
    obtain⟨e1,he1⟩:=Zaa (l:=d) (i:=i.toNat) (by omega);obtain⟨e2,he2⟩:=Zaa (l:=c) (i:=i.toNat) (by omega);obtain⟨o1,ho1,p1⟩:=Zep x4 6 26 rfl (by omega) (z:= -6) rfl;obtain⟨o2,ho2,p2⟩:=Zep x4 11 21 rfl (by omega) (z:= -11) rfl;obtain⟨o3,ho3,p3⟩:=Zep x4 25 7 rfl (by omega) (z:= -25) rfl;obtain⟨o4,ho4,p4⟩:=Zep x0 2 30 rfl (by omega) (z:= -2) rfl;obtain⟨o5,ho5,p5⟩:=Zep x0 13 19 rfl (by omega) (z:= -13) rfl;obtain⟨o6,ho6,p6⟩:=Zep x0 22 10 rfl (by omega) (z:= -22) rfl;generalize ZE yD=R at ho1 ho2 ho3 ho4 ho5 ho6 ⊢;rw[yW (yY hi)];simp only[List.getElem?_cons_zero,yav];rw[ya,ho1,ya,ya,ho2,ya,ya,ho3,ya,ya,ya,ya,ya,ya];rw[yW (ZZ h0 (show i < ((64:Nat):Int) by omega)),he1,ya,yW (ZZ h0 (show i < ((64:Nat):Int) by omega)),he2,ya,ya,ho4,ya,ya,ho5,ya,ya,ho6];rw[ya,ya,ya,ya,ya,ya];rw[ya,ya,ya,ya,ya,ya,ya];rw[ZP (z:=i+1) (by omega) (by omega)];refine⟨_,rfl,⟨by dsimp only;omega,by dsimp only;omega,rfl,rfl,rfl,rfl, ?_⟩,by dsimp only;omega⟩;dsimp only;rw[show(i+1).toNat=i.toNat+1 by omega,show rs ws (a.map ybk) (i.toNat+1)=rnd (rs ws (a.map ybk) i.toNat) (ks.getD i.toNat 0) (wd ws i.toNat) from rfl, <-hv]
    have hk1:ks.getD i.toNat 0=e1.toNat:=by
     rw[<-hkv,ycz,yaj,he1];rfl
    rw[hk1, <-hwv i.toNat e2 (by omega) he2];simp only[yad,List.map_nil];rw[ZxT]
    have kt:((x7+((o1^^^o2)^^^o3))+(x6^^^(x4&&&(x5^^^x6)))+e1+e2).toNat=lo (yw (yw (yw (yw x7.toNat (S1 x4.toNat)) (ch x4.toNat x5.toNat x6.toNat)) e1.toNat) e2.toNat):=by
     rw[Zhm,Zhm,Zhm,Zhm,ZLb x4 p1 p2 p3,ZLc];exact ZLf ..
    have ka:((x7+((o1^^^o2)^^^o3))+(x6^^^(x4&&&(x5^^^x6)))+e1+e2+((o4^^^o5)^^^o6)+((x0&&&x1)|||(x2&&&(x0|||x1)))).toNat=lo (yw (yw (yw (yw (yw (yw x7.toNat (S1 x4.toNat)) (ch x4.toNat x5.toNat x6.toNat)) e1.toNat) e2.toNat) (S0 x0.toNat)) (mj x0.toNat x1.toNat x2.toNat)):=by
     rw[Zhm,Zhm,kt,ZLa x0 p4 p5 p6,ZLd];exact ZLg ..
    have ke:(x3+(((x7+((o1^^^o2)^^^o3))+(x6^^^(x4&&&(x5^^^x6))))+e1+e2)).toNat=lo (yw x3.toNat (yw (yw (yw (yw x7.toNat (S1 x4.toNat)) (ch x4.toNat x5.toNat x6.toNat)) e1.toNat) e2.toNat)):=by
     rw[Zhm,kt];exact ZLh ..
    rw[ka,ke]
  ·right;rw[yX (by simpa using hi)];have e64:i=64:=by omega
   subst e64;exact⟨_,rfl,rfl,he,hv⟩
def Wd(n:Nat):yL yB:=(be8 n).map yaz
theorem Zo0{n:Nat}{b:yL yB}(h:b.length<=1000000000000):XA yD (n:Int) b=some (b++Wd n):=by
 unfold XA
 obtain⟨o,h1,h2⟩:=XV (step:=VP yD) (λs=>∃k:Nat,k<=8/\s.1=(n:Int)/\s.2.1=56 - 8*(k:Int)/\s.2.2.1=b++(Wd n).take k) (λs=>(s.2.1+8).toNat) (λo=>o.1=b++Wd n) (by
  rintro⟨a,i,c,d⟩ ⟨k,hk,ha,hi,hc⟩;dsimp only at ha hi hc;subst ha;unfold VP;dsimp only;have hcl:c.length<=b.length+8:=by rw[hc,yo,yae];omega
  by_cases h0:i >= 0
  ·left;rw[yW (yY h0),yW (yY h0),yW (ZX (by omega) (by omega)),ZP (z:=i - 8) (by omega) (by omega)];refine⟨_,rfl,⟨k+1,by omega,rfl,by dsimp only;omega, ?_⟩,by dsimp only;omega⟩;dsimp only
   have hw:∀m:Nat,w8 (Int.fdiv (n:Int) (2 ^ m))=yaz (n / 2 ^ m % 256):=by
    intro m;unfold w8;rw[Int.fdiv_eq_ediv_of_nonneg _ (by exact Int.le_of_lt (Int.pow_pos (by omega)))];congr 1
   have hmin:min i.toNat 64=56 - 8*k:=by omega
   rw[hmin,hw,hc,yac];congr 1;have hk8:k < 8:=by omega
   match k,hk8 with
   |0,_=>rfl
   |1,_=>rfl
   |2,_=>rfl
   |3,_=>rfl
   |4,_=>rfl
   |5,_=>rfl
   |6,_=>rfl
   |7,_=>
    show _++[yaz (n / 2 ^ 0 % 256)]=_;rw[Nat.pow_zero,Nat.div_one];rfl
  ·right;rw[yX (by simpa using h0)];have hk8:k=8:=by omega
   subst hk8;exact⟨_,rfl,hc⟩) (((n:Int),(56:Int),b,([]:yL yB))) ⟨0,by omega,rfl,by simp,by simp⟩ (by dsimp only;omega)
 rw[h1,ya,h2]
theorem ZJQ{l:yL yB}(h:l.length<=4294967296):Zc7 yD l=some (sha l):=by
 unfold Zc7
 have hm:Int.tmod (l.length:Int) 64=((l.length % 64:Nat):Int):=by
  rw[Int.tmod_eq_emod_of_nonneg (by omega)];omega
 have hlt:l.length % 64 < 64:=ybn _ (by omega);have hle:l.length % 64<=l.length:=Nat.mod_le _ _;rw[hm,ZP (z:=(l.length:Int) - ((l.length % 64:Nat):Int)) (by omega) (by omega)];dsimp only;rw[yW (by simp only[ZdA,yj,yP];omega)];have hq:((l.length:Int) - ((l.length % 64:Nat):Int)).toNat=64*(l.length / 64):=by omega
 rw[hq]
 have hdl:(l.drop (64*(l.length / 64))).length=l.length % 64:=by
  rw[yca];omega
 generalize ht:l.drop (64*(l.length / 64))=t at hdl
 have hcl:ZY yD t=some t:=by
  unfold ZY;rw[yW (ZX (by omega) (by omega))]
 rw[hcl,ya,yW (ZX (by omega) (by omega))];generalize hz:yzz=z;have hzl:z.length=32:=by rw[<-hz];rfl
 have hzs:zs l.length=(119 - t.length) % 64:=by unfold zs;rw[hdl]
 obtain⟨o,h1,p1,p2,p3⟩:=XV (step:=Za9 yD) (λs=>s.1=l/\s.2.1=z/\∃j,j<=zs l.length/\s.2.2=t++([128]:yL yB)++yv j 0) (λs=>184 - s.2.2.length)
  (λo=>o.1=l/\o.2.1=z/\o.2.2=t++([128]:yL yB)++yv (zs l.length) 0) (by
  rintro⟨a,b,c⟩ ⟨k1,k2,j,k3,k4⟩;dsimp only at k1 k2 k3 k4;have hcl:c.length=t.length+1+j:=by rw[k4,yo,yo,yct];rfl
  unfold Za9;dsimp only
  have hm:Int.tmod (c.length:Int) 64=((c.length % 64:Nat):Int):=by
   rw[Int.tmod_eq_emod_of_nonneg (by omega)];omega
  rw[hm];by_cases hi:c.length % 64=56
  ·right;rw[yX (by simp;omega)];have:j=zs l.length:=by omega
   subst this;exact⟨_,rfl,k1,k2,k4⟩
  ·left;rw[yW (by simp;omega),yW (ZX (by omega) (by omega))];have hj:j≠zs l.length:=λe=>hi (by omega);refine⟨_,rfl,⟨k1,k2,j+1,by omega, ?_⟩, ?_⟩
   ·dsimp only;rw[k4,yac,List.replicate_succ',yac]
   ·dsimp only;rw[yo,List.length_singleton];omega) (l,z,t++([128]:yL yB)) ⟨rfl,rfl,0,Nat.zero_le _,by simp⟩ (by dsimp only;omega)
 rw[h1,ya,p1,p2,p3,ZP (z:=8*(l.length:Int)) (by omega) (by omega),show 8*(l.length:Int)=((8*l.length:Nat):Int) by omega,Zo0 (by
  rw[yo,yo,yct];simp;omega),ya]
 obtain⟨f,hf,hfl⟩:∃f,Zhh yD=some f/\f.map ybk=ZfJ:=⟨_,rfl,rfl⟩;have hf8:f.length=8:=by rw[<-yy (f:=ybk),hfl];rfl
 rw[hf,ya];generalize hE:t++([128]:yL yB)++yv (zs l.length) 0++Wd (8*l.length)=E
 have hEl:E.length=64*((t.length+72) / 64):=by
  rw[<-hE];simp only[yo,yct,List.length_singleton,Wd,yy,be8,yah,List.length_nil];omega
 obtain⟨o3,h3,r1,r2,r3,r4⟩:=XV (step:=Zba yD) (λs=>s.2.1=z/\s.2.2.1=E/\s.2.2.2.length=8/\∃c,c<=l.length / 64/\s.1=l.drop (64*c)/\s.2.2.2.map ybk=Ze0 c (l.map ybh) ZfJ) (λs=>s.1.length)
  (λx=>x.1=z/\x.2.1=E/\x.2.2.length=8/\x.2.2.map ybk=Ze0 (l.length / 64) (l.map ybh) ZfJ) (by
  rintro⟨a,b,c,d⟩ ⟨k1,k2,k3,j,k4,k5,k6⟩;dsimp only at k1 k2 k3 k4 k5 k6;have hal:a.length=l.length - 64*j:=by rw[k5,yca]
  unfold Zba;dsimp only;by_cases hi:(a.length:Int) >= 64
  ·left;obtain⟨m,hm1,hm2⟩:=ZFx (st:=d) (l:=a.take 64) k3 (by rw[yae];omega);rw[yW (yY hi),yW (by simp only[ZdA,yj,yP];omega),hm1,ya,yW (by simp only[ZdA,yj,yP];omega)];refine⟨_,rfl,⟨k1,k2, ?_,j+1,by omega, ?_, ?_⟩,by dsimp only;rw[yca];omega⟩
   ·dsimp only;rw[<-yy (f:=ybk),hm2];exact Zho (by rw[yy];exact k3)
   ·dsimp only;rw[k5,List.drop_drop];congr 1
   ·dsimp only;rw[hm2,ZmR,k6,k5,List.map_take,List.map_drop]
  ·right;rw[yX (by simpa using hi)];have:j=l.length / 64:=by omega
   subst this;exact⟨_,rfl,k1,k2,k3,k6⟩) (l,z,E,f) ⟨rfl,rfl,hf8,0,Nat.zero_le _,by simp,hfl⟩ (by dsimp only;omega)
 rw[h3,ya,r1,r2];generalize hv1:Ze0 (l.length / 64) (l.map ybh) ZfJ=v1 at r4
 obtain⟨o4,h4,s1,s2,s3⟩:=XV (step:=Zbb yD) (λs=>s.2.1=z/\s.2.2.2.length=8/\∃c,c<=E.length / 64/\s.1=E.drop (64*c)/\s.2.2.2.map ybk=Ze0 c (E.map ybh) v1) (λs=>s.1.length)
  (λx=>x.1=z/\x.2.2.length=8/\x.2.2.map ybk=Ze0 (E.length / 64) (E.map ybh) v1) (by
  rintro⟨a,b,c,d⟩ ⟨k1,k3,j,k4,k5,k6⟩;dsimp only at k1 k3 k4 k5 k6;have hal:a.length=E.length - 64*j:=by rw[k5,yca]
  unfold Zbb;dsimp only;by_cases hi:(a.length:Int) > 0
  ·left;obtain⟨m,hm1,hm2⟩:=ZFx (st:=d) (l:=a.take 64) k3 (by rw[yae];omega);rw[yW (yY hi),yW (by simp only[ZdA,yj,yP];omega),hm1,ya,yW (by simp only[ZdA,yj,yP];omega)];refine⟨_,rfl,⟨k1, ?_,j+1,by omega, ?_, ?_⟩,by dsimp only;rw[yca];omega⟩
   ·dsimp only;rw[<-yy (f:=ybk),hm2];exact Zho (by rw[yy];exact k3)
   ·dsimp only;rw[k5,List.drop_drop];congr 1
   ·dsimp only;rw[hm2,ZmR,k6,k5,List.map_take,List.map_drop]
  ·right;rw[yX (by simpa using hi)];have:j=E.length / 64:=by omega
   subst this;exact⟨_,rfl,k1,k3,k6⟩) (E,z,E,o3.2.2) ⟨rfl,r3,0,Nat.zero_le _,by simp,r4⟩ (by dsimp only;omega)
 rw[h4,ya];generalize hv2:Ze0 (E.length / 64) (E.map ybh) v1=v2 at s3
 obtain⟨o5,h5,t1,t2⟩:=XV (step:=Zbc yD) (λs=>0<=s.1/\s.1<=32/\s.2.1.length=32/\s.2.2.2=o4.2.2/\∀(j:Nat),(j:Int) < s.1->s.2.1[j]? =some (Go.Sha.ZFu v2 j)) (λs=>(32 - s.1).toNat)
  (λx=>x.1.length=32/\∀(j:Nat),j < 32->x.1[j]? =some (Go.Sha.ZFu v2 j)) (by
  rintro⟨i,a,b,c⟩ ⟨h0,h32,ha,hc,hv⟩;dsimp only at h0 h32 ha hc hv;subst hc;unfold Zbc;dsimp only;by_cases hi:i < 32
  ·left;rw[yW (yY hi)];have e1:Int.tdiv i 4=i / 4:=Int.tdiv_eq_ediv_of_nonneg h0;have e2:Int.tmod i 4=i % 4:=Int.tmod_eq_emod_of_nonneg h0;rw[e1,e2,ZP (z:=i / 4) (by omega) (by omega),ZP (z:=8*(i % 4)) (by omega) (by omega),ZP (z:=24 - 8*(i % 4)) (by omega) (by omega),ZP (z:=i+1) (by omega) (by omega)];obtain⟨x1,hx1⟩:=Zaa (l:=o4.2.2) (i:=(i / 4).toNat) (by omega);obtain⟨x2,hx2⟩:=Zaa (l:=a) (i:=i.toNat) (by omega);rw[yW (ZZ (by omega) (by omega)),hx1,ya,yW (yY (by omega))]
   try dsimp only
   rw[yW (ZZ (by omega) (by omega)),hx2,ya];refine⟨_,rfl,⟨by dsimp only;omega,by dsimp only;omega,by dsimp only;rw[ybq];exact ha,rfl, ?_⟩,by dsimp only;omega⟩;intro j hj;dsimp only at hj ⊢;by_cases hji:j=i.toNat
   ·subst hji;rw[ycw (by omega)];congr 1;unfold Go.Sha.ZFu
    have hx:v2.getD (i.toNat / 4) 0=x1.toNat:=by
     rw[<-s3,ycz,yaj,show i.toNat / 4=(i / 4).toNat by omega,hx1];rfl
    rw[hx,show min (24 - 8*(i % 4)).toNat 32=24 - 8*(i.toNat % 4) by omega,ZxS];unfold w8;have e3:∀m:Nat,(((m:Nat):Int) % 256).toNat=m % 256:=λm=>by omega
    rw[e3,show yag x1.toNat (24 - 8*(i.toNat % 4))=x1.toNat >>> (24 - 8*(i.toNat % 4)) from rfl,Nat.shiftRight_eq_div_pow]
    exact UInt8.toNat_inj.1 (by simp)
   ·rw[List.getElem?_set_ne (Ne.symm hji)];exact hv j (by omega)
  ·right;rw[yX (by simpa using hi)];exact⟨_,rfl,ha,λj hj=>hv j (by omega)⟩) ((0:Int),o4.1,o4.2.1,o4.2.2) ⟨Int.le_refl _,by dsimp only;omega,by dsimp only;rw[s1];exact hzl,rfl,λj hj=>by dsimp only at hj;omega⟩ (by dsimp only;omega)
 rw[h5,ya,ZFv];congr 1
 have hpad:ZfI l=(l.take (64*(l.length / 64))).map ybh++E.map ybh:=by
  unfold ZfI;rw[<-hE, <-ht];simp only[yai,List.map_replicate,yad,List.map_nil,Wd,List.map_map];rw[<-yac, <-yac, <-yac, <-yai,ybj]
  have:be8 (8*l.length)=(be8 (8*l.length)).map (ybh ∘ yaz):=by
   simp[be8]
  rw[<-this];simp
 have hw:((l.take (64*(l.length / 64))).map ybh).length=64*(l.length / 64):=by
  rw[yy,yae];omega
 have hv:v2=Ze0 ((l.length+72) / 64) (ZfI l) ZfJ:=by
  rw[hpad,show(l.length+72) / 64=l.length / 64+E.length / 64 by omega,ZqP _ _ _ _ _ hw, <-hv2, <-hv1];congr 1;have:=ZqP (l.length / 64) 0 _ ((l.drop (64*(l.length / 64))).map ybh) ZfJ hw;rw[<-yai,ybj,Nat.add_zero] at this;exact this
 rw[<-hv];apply List.ext_getElem?;intro j;by_cases hj:j < 32
 ·rw[t2 j hj,yaj,List.getElem?_range hj];rfl
 ·rw[yat (by omega),yat (by simp;omega)]
noncomputable def Zcu(F:Nat)(a0:yL yB):yO (yL yB):=if decide (a0.length<=4294967296)=true then some (sha a0) else Zc7 F a0
noncomputable def ZxW(F:Nat):Fs yb:={ ZfH F with M:=λx=>Zcu F x}
noncomputable def ZqQ:Fs yb:=ZxW yD
theorem ZxX:ZqQ.Ok:=Zvn (s:=ZfH yD) ZvA λx=>by
 show Zcu yD x=Zc7 yD x;unfold Zcu;split
 ·rename_i h;exact(ZJQ (yF h)).symm
 ·rfl
theorem ZBM{l:yL yB}(h:l.length<=4294967296):Zcu yD l=some (sha l):=yW (yY h)
end Go.Proofs.YtpgpjjjoglafdaaGreat
end
section
set_option maxRecDepth 4000
namespace Go.Proofs.YtpgpjjjoglafdaaGreat
open Go Go.Ev
noncomputable section
def Zlz(F:Nat):Fs yb:=⟨114,[.nil .u8,.v yI],[],[yI],(ZbI F).xs,λx=>(ZbI F).M (x,([]:yL yB))⟩
def Ze1:Fs yb:=Zlz yD
theorem ZlA:Ze1.Ok:=ZJo (i1:=[yI]) (i2:=[yI,(.sl .u8)]) (λx=>(x,([]:yL yB))) ZbJ (λ_=>rfl) (λ_=>⟨_,rfl⟩)
def X6(F:Nat)(s:((yL (yL yB))×Int×Int×(yL yB)×(yL yB))):yO (((yL (yL yB))×Int×Int×(yL yB)×(yL yB))⊕((yL yB)×(yL yB))):=
 if(decide (s.2.2.1 < s.2.1))=true then
  (idx s.1 s.2.2.1).bind λe211=>
  (XA F (e211.length:Int) s.2.2.2.2).bind λo212=>
  if(apB o212.length e211.length 1)=true then
   some (.inl (s.1,s.2.1,wi (s.2.2.1+1),s.2.2.2.1,o212++e211))
  else
  none
 else
 some (.inr (s.2.2.2.1,s.2.2.2.2))
def ZnT:Lp:=⟨[(4,.ref 0 []),(5,.own 1 .u8),(13,.v (.sl (.sl .u8))),(14,.v yI),(15,.v yI)],zQ,[(.sl (.sl .u8)),yI,yI,(.arr 32 .u8),(.sl .u8)],[⟨.exit 0,[(4,.ref 0 []),(5,.own 1 .u8)],zQ,[(.arr 32 .u8),(.sl .u8)]⟩],Zc (X6 yD) yD⟩
def hi4:HI:={ own:=[5,10,12,19,22,24],still:=[9,19,21,26]}
theorem ZqR:ZnT.okA yb 73 0:=ZN hi4 [] [Zc6] ⟨ZbJ,ytt⟩
def XX(F:Nat)(a0:ByteArray)(a1:(yL (yL yB))):yO ((yL yB)):=
 (XA F (a0.size:Int) []).bind λo210=>
 if(apB o210.length ((ZdB a0).length) 1)=true then
  (Zc (X6 F) F (a1,(a1.length:Int),0,yzz,o210++(ZdB a0))).bind λo213=>
  (Zcu F o213.2).bind λo214=>
  some o214
 else
 none
def ZxY(F:Nat):Fs yb:=⟨73,[.v .str,.v (.sl (.sl .u8))],[],[.str,(.sl (.sl .u8))],(zN (.arr 32 .u8)),λx=>XX F x.1 x.2⟩
def Vw:Fs yb:=ZxY yD
theorem Vx:Vw.Ok:=fnO hi4 [(0,ZnT)] [Ze1,ZqQ] ⟨ZlA,ZxX,ytt⟩ ⟨ZqR,ytt⟩
def Wq(F:Nat)(s:(yU×Int×(yL yB))):yO ((yU×Int×(yL yB))⊕(yL yB)):=
 if(decide (s.2.1 < 8))=true then
  if(decide (0<=wi (56 - (wi (8*s.2.1)))))=true then
   let y215:yU:=Zv s.1 (min (wi (56 - (wi (8*s.2.1)))).toNat 64)
   if(inB s.2.1 8)=true then
    (s.2.2[s.2.1.toNat]?).bind λe216=>
    some (.inl (s.1,wi (s.2.1+1),s.2.2.set s.2.1.toNat (w8 (y215.toNat:Int))))
   else
   none
  else
  none
 else
 some (.inr s.2.2)
def Zi8:Lp:=⟨[(0,.v .u64),(3,.ref 0 []),(5,.v yI)],[.var (.v (.arr 8 .u8)) true],[.u64,yI,(.arr 8 .u8)],[⟨.exit 0,[(3,.ref 0 [])],[.var (.v (.arr 8 .u8)) true],[(.arr 8 .u8)]⟩],Zc (Wq yD) yD⟩
theorem ZmS:Zi8.okA yb 126 0:=ZN { still:=[2]} [] [] trivial
def Zd3(F:Nat)(a0:yU):yO ((yL yB)):=
 (Zc (Wq F) F (a0,0,[0,0,0,0,0,0,0,0])).bind λo217=>
 some ((o217.drop 0).take 8)
def Zsu(F:Nat):Fs yb:=⟨126,[.v .u64],[],[.u64],(zN (.sl .u8)),λx=>Zd3 F x⟩
def ZlB:Fs yb:=Zsu yD
theorem Zsv:ZlB.Ok:=fnO { still:=[2]} [(0,Zi8)] [] trivial ⟨ZmS,ytt⟩
def XY(F:Nat)(s:(ByteArray×(yL yU)×Int×Int×(yL (yL yB)))):yO ((ByteArray×(yL yU)×Int×Int×(yL (yL yB)))⊕(ByteArray×(yL (yL yB)))):=
 if(decide (s.2.2.2.1 < s.2.2.1))=true then
  (idx s.2.1 s.2.2.2.1).bind λe218=>
  (Zd3 F e218).bind λo219=>
  if(apB s.2.2.2.2.length 1 24)=true then
   some (.inl (s.1,s.2.1,s.2.2.1,wi (s.2.2.2.1+1),s.2.2.2.2++([o219]:yL (yL yB))))
  else
  none
 else
 some (.inr (s.1,s.2.2.2.2))
def Zhp:Lp:=⟨[(0,.v .str),(5,.own 0 (.sl .u8)),(8,.v (.sl .u64)),(9,.v yI),(10,.v yI)],[.log (.sl .u8) 118],[.str,(.sl .u64),yI,yI,(.sl (.sl .u8))],[⟨.exit 0,[(0,.v .str),(5,.own 0 (.sl .u8))],[.log (.sl .u8) 118],[.str,(.sl (.sl .u8))]⟩],Zc (XY yD) yD⟩
def hi5:HI:={ own:=[5,14,18],still:=[4,15,20,21,22]}
theorem ZlC:Zhp.okA yb 86 0:=ZN hi5 [] [ZlB] ⟨Zsv,ytt⟩
def WQ(F:Nat)(a0:ByteArray)(a1:(yL yU)):yO (yU):=
 (Zc (XY F) F (a0,a1,(a1.length:Int),0,[])).bind λo220=>
 (XX F o220.1 o220.2).bind λo221=>
 (Xz F o221).bind λo222=>
 some o222
def ZqS(F:Nat):Fs yb:=⟨86,[.v .str,.v (.sl .u64)],[],[.str,(.sl .u64)],(zN .u64),λx=>WQ F x.1 x.2⟩
def Zbd:Fs yb:=ZqS yD
theorem Zc8:Zbd.Ok:=fnO hi5 [(0,Zhp)] [Vw,VO] ⟨Vx,Qb,ytt⟩ ⟨ZlC,ytt⟩
def ZBN:ByteArray:=⟨#[114,101,118,111,107,101]⟩
def Zci(F:Nat)(a0:yU)(a1:yU):yO (yU):=
 (WQ F ZBN [a0,a1]).bind λo223=>
 (WN F a0 o223).bind λo224=>
 (WQ F ZBN [a1,a0]).bind λo225=>
 (WN F a1 o225).bind λo226=>
 (ZaQ F o224 o226).bind λo227=>
 some o227
def ZqT(F:Nat):Fs yb:=⟨35,[.v .u64,.v .u64],[],[.u64,.u64],(zN .u64),λx=>Zci F x.1 x.2⟩
def Zi9:Fs yb:=ZqT yD
def hi6:HI:={ still:=[4,5,8,9,10,11,14,15,16]}
theorem ZqU:Zi9.Ok:=fnO hi6 [] [Zbd,Za7,ZdY] ⟨Zc8,Zc4,ZfG,ytt⟩
def ZL(F:Nat)(a0:yU):yO (yU):=
 (WN F 4 a0).bind λo228=>
 some o228
def Zeq(F:Nat):Fs yb:=⟨20,[.v .u64],[],[.u64],(zN .u64),λx=>ZL F x⟩
def YL:Fs yb:=Zeq yD
theorem Ym:YL.Ok:=fnO { still:=[2,3]} [] [Za7] ⟨Zc4,ytt⟩
def ZBO:ByteArray:=⟨#[109,105,120]⟩
def Zcv(F:Nat)(a0:yU)(a1:yU):yO (yU):=
 (WQ F ZBO [a1,a0]).bind λo229=>
 (ZL F o229).bind λo230=>
 (ZaQ F a0 o230).bind λo231=>
 some o231
def ZxZ(F:Nat):Fs yb:=⟨36,[.v .u64,.v .u64],[],[.u64,.u64],(zN .u64),λx=>Zcv F x.1 x.2⟩
def ZqV:Fs yb:=ZxZ yD
theorem Zx0:ZqV.Ok:=fnO { still:=[4,5,8,9,10]} [] [Zbd,YL,ZdY] ⟨Zc8,Ym,ZfG,ytt⟩
def WR(F:Nat)(a0:Terms)(a1:Int):yO (Bool):=
 some (decide (a1 >= a0.1))
def ZqW(F:Nat):Fs yb:=⟨40,[.v Zen,.v yI],[],[Zen,yI],(zN .bool),λx=>WR F x.1 x.2⟩
def Zer:Fs yb:=ZqW yD
theorem Zhq:Zer.Ok:=fnO { still:=[4]} [] [] trivial
def XF(F:Nat)(s:(Int×(yL Cond)×Int×Int×Chan×yG×(yL Cond))):yO ((Int×(yL Cond)×Int×Int×Chan×yG×(yL Cond))⊕(Chan×yG×(yL Cond))):=
 if(decide (s.2.2.2.1 < s.2.2.1))=true then
  (idx s.2.1 s.2.2.2.1).bind λe232=>
  if(inB s.1 2)=true then
   (s.2.2.2.2.1.2.2.2.1[s.1.toNat]?).bind λe233=>
   (WR F e233 e232.2.2.1).bind λo234=>
   if o234=true then
    if(apB s.2.2.2.2.2.2.length 1 40)=true then
     some (.inl (s.1,s.2.1,s.2.2.1,wi (s.2.2.2.1+1),s.2.2.2.2.1,s.2.2.2.2.2.1,s.2.2.2.2.2.2++([e232]:yL Cond)))
    else
    none
   else
   some (.inl (s.1,s.2.1,s.2.2.1,wi (s.2.2.2.1+1),s.2.2.2.2.1,s.2.2.2.2.2.1,s.2.2.2.2.2.2))
  else
  none
 else
 some (.inr (s.2.2.2.2.1,s.2.2.2.2.2.1,s.2.2.2.2.2.2))
def Zgn:Lp:=⟨[(2,.v yI),(3,.ref 0 []),(7,.own 2 WC),(11,.v (.sl WC)),(12,.v yI),(13,.v yI)],[.var (.v ZK) true,.var (.v Zt) true,.log WC 66],[yI,(.sl WC),yI,yI,ZK,Zt,(.sl WC)],[⟨.exit 0,[(7,.own 2 WC)],[.var (.v ZK) true,.var (.v Zt) true,.log WC 66],[ZK,Zt,(.sl WC)]⟩],Zc (XF yD) yD⟩
def hi7:HI:={ own:=[7,24,27],still:=[6,20,22]}
theorem Zj9:Zgn.okA yb 43 0:=ZN hi7 [] [Zer] ⟨Zhq,ytt⟩
def XB(F:Nat)(a0:Chan)(a1:yG)(a2:Int):yO ((yL Cond)):=
 (Zc (XF F) F (a2,a1.2.2.1,(a1.2.2.1.length:Int),0,a0,a1,[])).bind λo235=>
 some o235.2.2
def Zow(F:Nat):Fs yb:=⟨43,[.v ZK,.v Zt,.v yI],[],[ZK,Zt,yI],(zN (.sl WC)),λx=>XB F x.1 x.2.1 x.2.2⟩
def Zc9:Fs yb:=Zow yD
theorem Zgo:Zc9.Ok:=fnO hi7 [(0,Zgn)] [] trivial ⟨Zj9,ytt⟩
def VQ(F:Nat)(a0:Chan)(a1:yG)(a2:Int)(a3:Int):yO (Int):=
 if(inB a3 2)=true then
  (a1.2.1[a3.toNat]?).bind λe236=>
  if(a3==a0.2.2.2.2)=true then
   (XB F a0 a1 a2).bind λo237=>
   (Zc2 F a1.2.2.2 (o237.length:Int)).bind λo238=>
   some (wi (e236 - (wi (o238+660))))
  else
  some e236
 else
 none
def ZqX(F:Nat):Fs yb:=⟨39,[.v ZK,.v Zt,.v yI,.v yI],[],[ZK,Zt,yI,yI],(zN yI),λx=>VQ F x.1 x.2.1 x.2.2.1 x.2.2.2⟩
def Zja:Fs yb:=ZqX yD
theorem ZqY:Zja.Ok:=fnO { still:=[8,20,21,22,23,25]} [] [Zc9,Zhd] ⟨Zgo,Zlk,ytt⟩
def Zka(F:Nat)(a0:yU)(a1:yU)(a2:Int):yO (Z3):=
 some [([a1],0,0,0),([a0],0,a2,0)]
def ZvC(F:Nat):Fs yb:=⟨41,[.v .u64,.v .u64,.v yI],[],[.u64,.u64,yI],(zN Z0),λx=>Zka F x.1 x.2.1 x.2.2⟩
def ZnU:Fs yb:=ZvC yD
theorem ZvD:ZnU.Ok:=fnO {} [] [] trivial
def Y8(F:Nat)(a0:yU):yO (Z3):=
 some [([a0],0,0,0),([],0,16,0)]
def ZqZ(F:Nat):Fs yb:=⟨42,[.v .u64],[],[.u64],(zN Z0),λx=>Y8 F x⟩
def Zjb:Fs yb:=ZqZ yD
theorem Zq0:Zjb.Ok:=fnO {} [] [] trivial
def Zda(F:Nat)(a0:(yL yB))(a1:(yL yB)):yO (Int):=
 some (Go.Lib.compareBytes a0 a1)
def ZmT(F:Nat):Fs yb:=⟨48,[.v (.sl .u8),.v (.sl .u8)],[],[(.sl .u8),(.sl .u8)],(zN yI),λx=>Zda F x.1 x.2⟩
def Zgp:Fs yb:=ZmT yD
theorem ZmU:Zgp.Ok:=fnO { still:=[4,5,6]} [] [] trivial
abbrev Yc:Ty:=(.st [yI,Z0])
abbrev Out:Type:=(Int×Z3)
abbrev Zhr:Ty:=(.st [yI,WC])
abbrev Qy:Type:=(Int×Cond)
abbrev Qy.Cond(x:Qy):Cond:=x.2
abbrev Zh:Ty:=(.st [Yc,Zhr,(.arr 32 .u8)])
abbrev Ze:Type:=(Out×Qy×(yL yB))
abbrev Ze.out(x:Ze):Out:=x.1
def Zai(F:Nat)(a0:Ze)(a1:Ze):yO (Int):=
 (Yg F a0.1.1 a1.1.1).bind λo239=>
 (Zda F a0.2.2 a1.2.2).bind λo240=>
 (Yg F a0.2.1.1 a1.2.1.1).bind λo241=>
 (Yg F a0.2.1.2.1 a1.2.1.2.1).bind λo242=>
 (Yg F a0.2.1.2.2.1 a1.2.1.2.2.1).bind λo243=>
 (Zbr F [o239,o240,o241,o242,o243]).bind λo244=>
 some o244
def ZmV(F:Nat):Fs yb:=⟨45,[.v Zh,.v Zh],[],[Zh,Zh],(zN yI),λx=>Zai F x.1 x.2⟩
def Zgq:Fs yb:=ZmV yD
def hi8:HI:={ still:=[4,7,10,13,15,19,22,27,31,36,40,42],frz:=[13,15]}
theorem ZmW:Zgq.Ok:=fnO hi8 [] [Zae,Zgp,ZfF] ⟨Zc1,ZmU,Zi1,ytt⟩
abbrev QS:Ty:=(.st [.u64,.u64])
abbrev Sig:Type:=(yU×yU)
abbrev Vy:Ty:=(.st [yI,(.sl QS),.u64])
abbrev Wh:Type:=(Int×(yL Sig)×yU)
abbrev Wh.Branch(x:Wh):Int:=x.1
abbrev yIn:Ty:=(.st [ZM,Vy])
abbrev In:Type:=(ZI×Wh)
abbrev yTx:Ty:=(.st [(.sl yIn),(.sl Yc),yI])
abbrev Tx:Type:=((yL In)×(yL Out)×Int)
abbrev Yh:Ty:=(.st [yTx,(.sl Zhr)])
abbrev Commit:Type:=(Tx×(yL Qy))
def W7(F:Nat)(a0:yU):yO (Bool):=
 (Ys F a0).bind λo263=>
 some (!o263)
def Zox(F:Nat):Fs yb:=⟨104,[.v .u64],[],[.u64],(zN .bool),λx=>W7 F x⟩
def Zdb:Fs yb:=Zox yD
theorem Zgr:Zdb.Ok:=fnO { still:=[2,3]} [] [Xy] ⟨XN,ytt⟩
def Yd(F:Nat)(s:((yL yU)×Int×Int)):yO (((yL yU)×Int×Int)⊕(Int⊕Unit)):=
 if(decide (s.2.2 < s.2.1))=true then
  (idx s.1 s.2.2).bind λe262=>
  (W7 F e262).bind λo264=>
  if o264=true then
   some (.inr (.inl s.2.2))
  else
  some (.inl (s.1,s.2.1,wi (s.2.2+1)))
 else
 some (.inr (.inr ()))
def ZbU:Lp:=⟨[(0,.v (.sl .u64)),(1,.fn 104 []),(7,.v yI),(8,.v yI)],[],[(.sl .u64),yI,yI],[⟨.ret,[(4,.v yI)],[],[yI]⟩,⟨.exit 0,[],[],[]⟩],Zc (Yd yD) yD⟩
theorem ZfK:ZbU.okA yb 147 0:=ZN { still:=[4,15]} [] [Zdb] ⟨Zgr,ytt⟩
def Vj(F:Nat)(a0:(yL yU)):yO (Int):=
 (Zc (Yd F) F (a0,(a0.length:Int),0)).bind λo265=>
 match o265 with
 |.inl o266=>
  some o266
 |.inr o267=>
  some (-1)
def ZiB(F:Nat):Fs yb:=⟨147,[.v (.sl .u64),.fn 104 []],[],[(.sl .u64)],(zN yI),λx=>Vj F x⟩
def Zdc:Fs yb:=ZiB yD
theorem ZiC:Zdc.Ok:=fnO { still:=[4,15]} [(0,ZbU)] [] trivial ⟨ZfK,ytt⟩
def Xg(F:Nat)(a0:(yL yU)):yO (Bool):=
 (Vj F a0).bind λo268=>
 some (decide (o268 >= 0))
def ZiD(F:Nat):Fs yb:=⟨105,[.v (.sl .u64),.fn 104 []],[],[(.sl .u64)],(zN .bool),λx=>Xg F x⟩
def Zdd:Fs yb:=ZiD yD
theorem ZiE:Zdd.Ok:=fnO { still:=[4,5,6]} [] [Zdc] ⟨ZiC,ytt⟩
def WS(F:Nat)(a0:Int):yO (Bool):=
 if(decide (a0 >= 0))=true then
  some (decide (a0<=1048576))
 else
 some false
def Zq1(F:Nat):Fs yb:=⟨106,[.v yI],[],[yI],(zN .bool),λx=>WS F x⟩
def Zjc:Fs yb:=Zq1 yD
theorem Zq2:Zjc.Ok:=fnO { still:=[2]} [] [] trivial
def XO(F:Nat)(s:((yL Branch)×Int×Int×Z3)):yO (((yL Branch)×Int×Int×Z3)⊕((Bool×Z3)⊕Z3)):=
 if(decide (s.2.2.1 < s.2.1))=true then
  (idx s.1 s.2.2.1).bind λe261=>
  if(decide ((e261.1.length:Int) > 12))=true then
   some (.inr (.inl (false,s.2.2.2)))
  else
  (Xg F e261.1).bind λo269=>
  if o269=true then
   some (.inr (.inl (false,s.2.2.2)))
  else
  (WS F e261.2.1).bind λo270=>
  if(!o270)=true then
   some (.inr (.inl (false,s.2.2.2)))
  else
  (WS F e261.2.2.1).bind λo271=>
  if(!o271)=true then
   some (.inr (.inl (false,s.2.2.2)))
  else
  if(e261.2.2.2 !=0)=true then
   (W7 F e261.2.2.2).bind λo272=>
   if o272=true then
    some (.inr (.inl (false,s.2.2.2)))
   else
   some (.inl (s.1,s.2.1,wi (s.2.2.1+1),s.2.2.2))
  else
  some (.inl (s.1,s.2.1,wi (s.2.2.1+1),s.2.2.2))
 else
 some (.inr (.inr s.2.2.2))
def Zjd:Lp:=⟨[(1,.ref 0 []),(3,.fn 104 []),(7,.v (.sl Zo)),(8,.v yI),(9,.v yI)],[.var (.v Z0) true],[(.sl Zo),yI,yI,Z0],[⟨.ret,[(2,.v .bool)],[.var (.v Z0) true],[.bool,Z0]⟩,⟨.exit 0,[(1,.ref 0 [])],[.var (.v Z0) true],[Z0]⟩],Zc (XO yD) yD⟩
theorem ZmX:Zjd.okA yb 65 0:=ZN { still:=[2,19,20,25,31,42]} [] [Zdd,Zjc,Zdb] ⟨ZiE,Zq2,Zgr,ytt⟩
def Xc(F:Nat)(a0:Z3):yO (Bool):=
 (Zc (XO F) F (a0,(a0.length:Int),0,a0)).bind λo273=>
 match o273 with
 |.inl o274=>
  some o274.1
 |.inr o275=>
  if(decide ((o275.length:Int) > 0))=true then
   some (decide ((o275.length:Int)<=4))
  else
  some false
def Zes(F:Nat):Fs yb:=⟨65,[.v Z0],[],[Z0],(zN .bool),λx=>Xc F x⟩
def VR:Fs yb:=Zes yD
theorem W8:VR.Ok:=fnO { still:=[2,19,20,25,31,42]} [(0,Zjd)] [] trivial ⟨ZmX,ytt⟩
def YE(F:Nat)(s:((yL (yL yB))×Int×(yL (yL yB))×Int×Int)):yO (((yL (yL yB))×Int×(yL (yL yB))×Int×Int)⊕((yL (yL yB))×Int)):=
 if(decide (s.2.2.2.2 < s.2.2.2.1))=true then
  (idx s.2.2.1 s.2.2.2.2).bind λe278=>
  if(decide ((wi (s.2.1+(e278.length:Int))) < 0))=true then
   none
  else
  some (.inl (s.1,wi (s.2.1+(e278.length:Int)),s.2.2.1,s.2.2.2.1,wi (s.2.2.2.2+1)))
 else
 some (.inr (s.1,s.2.1))
def Vz:Lp:=⟨[(0,.v (.sl (.sl .u8))),(3,.v yI),(9,.v (.sl (.sl .u8))),(10,.v yI),(11,.v yI)],[],[(.sl (.sl .u8)),yI,(.sl (.sl .u8)),yI,yI],[⟨.exit 0,[(0,.v (.sl (.sl .u8))),(3,.v yI)],[],[(.sl (.sl .u8)),yI]⟩],Zc (YE yD) yD⟩
def hi9:HI:={ own:=[6,24,31,33],still:=[2,23]}
theorem Zbt:Vz.okA yb 160 0:=ZN hi9 [] [] trivial
def QL:Fs yb:=⟨178,[.nil .u8,.v yI],[],[.int .i64],[⟨.ret,[(0,.own 0 .u8)],[.log .u8 5],[.sl .u8]⟩],Zqf⟩
theorem Zet:QL.Ok:=ZHn ZFb
def YF(F:Nat)(s:((yL (yL yB))×Int×Int×(yL yB))):yO (((yL (yL yB))×Int×Int×(yL yB))⊕(yL yB)):=
 if(decide (s.2.2.1 < s.2.1))=true then
  (idx s.1 s.2.2.1).bind λe281=>
  if(apB s.2.2.2.length e281.length 1)=true then
   some (.inl (s.1,s.2.1,wi (s.2.2.1+1),s.2.2.2++e281))
  else
  none
 else
 some (.inr s.2.2.2)
def VA:Lp:=⟨[(6,.own 0 .u8),(25,.v (.sl (.sl .u8))),(26,.v yI),(27,.v yI)],[.log .u8 5],[(.sl (.sl .u8)),yI,yI,(.sl .u8)],[⟨.exit 2,[(6,.own 0 .u8)],[.log .u8 5],[(.sl .u8)]⟩],Zc (YF yD) yD⟩
theorem Zbu:VA.okA yb 160 1:=ZN hi9 [] [] trivial
def Yn(F:Nat)(a0:(yL (yL yB))):yO ((yL yB)):=
 (Zc (YE F) F (a0,0,a0,(a0.length:Int),0)).bind λo279=>
 (Zqf o279.2).bind λo280=>
 (Zc (YF F) F (o279.1,(o279.1.length:Int),0,o280)).bind λo282=>
 some o282
def Zde(F:Nat):Fs yb:=⟨160,[.v (.sl (.sl .u8))],[],[(.sl (.sl .u8))],(zN (.sl .u8)),λx=>Yn F x⟩
def XS:Fs yb:=Zde yD
theorem VB:XS.Ok:=fnO hi9 [(0,Vz),(1,VA)] [QL] ⟨Zet,ytt⟩ ⟨Zbt,Zbu,ytt⟩
def Qz(F:Nat)(a0:(yL yB))(a1:(yL yB)):yO ((yL yB)):=
 (Yn F [a0,a1]).bind λo283=>
 some o283
def ZvE(F:Nat):Fs yb:=⟨158,[.v (.sl .u8),.v (.sl .u8)],[],[(.sl .u8),(.sl .u8)],(zN (.sl .u8)),λx=>Qz F x.1 x.2⟩
def Zd4:Fs yb:=ZvE yD
theorem ZfL:Zd4.Ok:=fnO { still:=[4,7]} [] [XS] ⟨VB,ytt⟩
def Zcj(F:Nat)(s:(Int×(yL yB))):yO ((Int×(yL yB))⊕(Int×(yL yB))):=
 if(decide (s.1 >= 128))=true then
  if(apB s.2.length 1 1)=true then
   let y285:(yL yB):=s.2++([w8 (wi ((Int.tmod s.1 128)+128))]:yL yB)
   some (.inl (wi (Int.tdiv s.1 128),y285))
  else
  none
 else
 some (.inr (s.1,s.2))
def ZnV:Lp:=⟨[(0,.v yI),(3,.own 0 .u8)],[.log .u8 5],[yI,(.sl .u8)],[⟨.exit 0,[(0,.v yI),(3,.own 0 .u8)],[.log .u8 5],[yI,(.sl .u8)]⟩],Zc (Zcj yD) yD⟩
def ZKJ:HI:={ own:=[3,8,14,15,19],still:=[2]}
theorem Zq3:ZnV.okA yb 159 0:=ZN ZKJ [] [] trivial
def Ze2(F:Nat)(a0:Int):yO ((yL yB)):=
 (Zc (Zcj F) F (a0,[])).bind λo286=>
 if(apB o286.2.length 1 1)=true then
  some (o286.2++([w8 o286.1]:yL yB))
 else
 none
def Zx1(F:Nat):Fs yb:=⟨159,[.v yI],[],[yI],(zN (.sl .u8)),λx=>Ze2 F x⟩
def Zkb:Fs yb:=Zx1 yD
theorem ZnW:Zkb.Ok:=fnO ZKJ [(0,ZnV)] [] trivial ⟨Zq3,ytt⟩
def XZ(F:Nat)(a0:(yL yB))(a1:Int):yO ((yL yB)):=
 if(decide (a1 < 0))=true then
  (Qz F a0 []).bind λo284=>
  some o284
 else
 (Ze2 F a1).bind λo287=>
 (Qz F a0 o287).bind λo288=>
 some o288
def Zx2(F:Nat):Fs yb:=⟨116,[.v (.sl .u8),.v yI],[],[(.sl .u8),yI],(zN (.sl .u8)),λx=>XZ F x.1 x.2⟩
def ZaU:Fs yb:=Zx2 yD
theorem Zbv:ZaU.Ok:=fnO { still:=[4,7,9,10,11]} [] [Zd4,Zkb] ⟨ZfL,ZnW,ytt⟩
def Qn(F:Nat)(s:((yL yB)×yU×Int×(yL yB))):yO (((yL yB)×yU×Int×(yL yB))⊕((yL yB)×(yL yB))):=
 if(decide (s.2.2.1 < 8))=true then
  if(decide (0<=wi (56 - (wi (8*s.2.2.1)))))=true then
   let y293:yU:=Zv s.2.1 (min (wi (56 - (wi (8*s.2.2.1)))).toNat 64)
   if(inB s.2.2.1 8)=true then
    (s.2.2.2[s.2.2.1.toNat]?).bind λe294=>
    let y295:(yL yB):=s.2.2.2.set s.2.2.1.toNat (w8 (y293.toNat:Int))
    some (.inl (s.1,s.2.1,wi (s.2.2.1+1),y295))
   else
   none
  else
  none
 else
 some (.inr (s.1,s.2.2.2))
def Zhs:Lp:=⟨[(0,.v (.sl .u8)),(1,.v .u64),(5,.ref 0 []),(7,.v yI)],[.var (.v (.arr 8 .u8)) true],[(.sl .u8),.u64,yI,(.arr 8 .u8)],[⟨.exit 0,[(0,.v (.sl .u8)),(5,.ref 0 [])],[.var (.v (.arr 8 .u8)) true],[(.sl .u8),(.arr 8 .u8)]⟩],Zc (Qn yD) yD⟩
theorem ZlD:Zhs.okA yb 127 0:=ZN { still:=[4,19,20],frz:=[20]} [] [] trivial
def Zaj(F:Nat)(a0:(yL yB))(a1:yU):yO ((yL yB)):=
 (Zc (Qn F) F (a0,a1,0,[0,0,0,0,0,0,0,0])).bind λo296=>
 (Qz F o296.1 o296.2).bind λo297=>
 some o297
def Zq4(F:Nat):Fs yb:=⟨127,[.v (.sl .u8),.v .u64],[],[(.sl .u8),.u64],(zN (.sl .u8)),λx=>Zaj F x.1 x.2⟩
def Zeu:Fs yb:=Zq4 yD
theorem Zht:Zeu.Ok:=fnO { still:=[4,19,20],frz:=[20]} [(0,Zhs)] [Zd4] ⟨ZfL,ytt⟩ ⟨ZlD,ytt⟩
def VC(F:Nat)(s:((yL yB)×(yL Branch)×Int×Int×(yL yU)×Int×Int×Z3×Branch)):yO (((yL yB)×(yL Branch)×Int×Int×(yL yU)×Int×Int×Z3×Branch)⊕((yL yB)×(yL Branch)×Int×Int×Z3×Branch)):=
 if(decide (s.2.2.2.2.2.2.1 < s.2.2.2.2.2.1))=true then
  (idx s.2.2.2.2.1 s.2.2.2.2.2.2.1).bind λe292=>
  (Zaj F s.1 e292).bind λo298=>
  some (.inl (o298,s.2.1,s.2.2.1,s.2.2.2.1,s.2.2.2.2.1,s.2.2.2.2.2.1,wi (s.2.2.2.2.2.2.1+1),s.2.2.2.2.2.2.2.1,s.2.2.2.2.2.2.2.2))
 else
 some (.inr (s.1,s.2.1,s.2.2.1,s.2.2.2.1,s.2.2.2.2.2.2.2.1,s.2.2.2.2.2.2.2.2))
abbrev tL0:yL Ty:=[(.sl .u8),(.sl Zo),yI,yI,(.sl .u64),yI,yI,Z0,Zo]
def Zje:Lp:=⟨[(3,.v (.sl .u8)),(5,.ref 1 []),(16,.v (.sl Zo)),(17,.v yI),(18,.v yI),(28,.v (.sl .u64)),(29,.v yI),(30,.v yI)],[.var (.v Z0) true,.var (.v Zo) true],tL0,[⟨.exit 2,[(3,.v (.sl .u8)),(5,.ref 1 []),(16,.v (.sl Zo)),(17,.v yI),(18,.v yI)],[.var (.v Z0) true,.var (.v Zo) true],[(.sl .u8),(.sl Zo),yI,yI,Z0,Zo]⟩],Zc (VC yD) yD⟩
def ZJR:HI:={ still:=[2,8,13,22,25,34,35,38,40,41,43,44,46]}
theorem ZmY:Zje.okA yb 87 1:=ZN ZJR [] [Zeu] ⟨Zht,ytt⟩
def Zak(F:Nat)(s:((yL yB)×(yL Branch)×Int×Int×Z3)):yO (((yL yB)×(yL Branch)×Int×Int×Z3)⊕((yL yB)×Z3)):=
 if(decide (s.2.2.2.1 < s.2.2.1))=true then
  (idx s.2.1 s.2.2.2.1).bind λe290=>
  (XZ F s.1 (e290.1.length:Int)).bind λo291=>
  (Zc (VC F) F (o291,s.2.1,s.2.2.1,s.2.2.2.1,e290.1,(e290.1.length:Int),0,s.2.2.2.2,e290)).bind λo299=>
  (XZ F o299.1 o299.2.2.2.2.2.2.1).bind λo300=>
  (XZ F o300 o299.2.2.2.2.2.2.2.1).bind λo301=>
  (Zaj F o301 o299.2.2.2.2.2.2.2.2).bind λo302=>
  some (.inl (o302,o299.2.1,o299.2.2.1,wi (o299.2.2.2.1+1),o299.2.2.2.2.1))
 else
 some (.inr (s.1,s.2.2.2.2))
def Zjf:Lp:=⟨[(3,.v (.sl .u8)),(16,.v (.sl Zo)),(17,.v yI),(18,.v yI)],[.var (.v Z0) true],[(.sl .u8),(.sl Zo),yI,yI,Z0],[⟨.exit 0,[(3,.v (.sl .u8))],[.var (.v Z0) true],[(.sl .u8),Z0]⟩],Zc (Zak yD) yD⟩
theorem ZmZ:Zjf.okA yb 87 0:=ZN ZJR [(1,Zje)] [ZaU,Zeu] ⟨Zbv,Zht,ytt⟩ ⟨ZmY,ytt⟩
def Zbw(F:Nat)(a0:Z3):yO ((yL yB)):=
 (Xc F a0).bind λo277=>
 if(!o277)=true then
  some []
 else
 (XZ F [] (a0.length:Int)).bind λo289=>
 (Zc (Zak F) F (o289,a0,(a0.length:Int),0,a0)).bind λo303=>
 some o303.1
def Zsw(F:Nat):Fs yb:=⟨87,[.v Z0],[],[Z0],(zN (.sl .u8)),λx=>Zbw F x⟩
def ZfM:Fs yb:=Zsw yD
theorem Zjg:ZfM.Ok:=fnO ZJR [(0,Zjf)] [VR,ZaU] ⟨W8,Zbv,ytt⟩ ⟨ZmZ,ytt⟩
def ZIq:ByteArray:=⟨#[108,111,99,107]⟩
def Zis(F:Nat)(a0:Z3):yO ((yL yB)):=
 (Xc F a0).bind λo276=>
 if(!o276)=true then
  some yzz
 else
 (Zbw F a0).bind λo304=>
 (XX F ZIq [o304]).bind λo305=>
 some o305
def Zx3(F:Nat):Fs yb:=⟨38,[.v Z0],[],[Z0],(zN (.arr 32 .u8)),λx=>Zis F x⟩
def Zq5:Fs yb:=Zx3 yD
theorem Zx4:Zq5.Ok:=fnO { still:=[3,7,9]} [] [VR,ZfM,Vw] ⟨W8,Zjg,Vx,ytt⟩
def ZJ(F:Nat)(a0:Int)(a1:Z3)(a2:Qy)(s1_0:(yL Unit))(s1_1:(yL Ze)):yO (((yL Unit)×(yL Ze))):=
 (Zis F a1).bind λo306=>
 if(apB s1_1.length 1 112)=true then
  let y307:(yL Ze):=s1_1++([((a0,a1),a2,o306)]:yL Ze)
  some (()::s1_0,y307)
 else
 none
def Zm0(F:Nat):Fs yb:=⟨37,[.v yI,.v Z0,.v Zhr,.ref 0 []],[.var (.rw 1) true,.row Zh true 105],[yI,Z0,Zhr,(.sl (.st [])),(.sl Zh)],[⟨.ret,[(0,.tup [])],[.var (.rw 1) true,.row Zh true 105],[(.sl (.st [])),(.sl Zh)]⟩],λx=>ZJ F x.1 x.2.1 x.2.2.1 x.2.2.2.1 x.2.2.2.2⟩
def ZbK:Fs yb:=Zm0 yD
theorem Ze3:ZbK.Ok:=fnO { own:=[7,16],still:=[12]} [] [Zq5] ⟨Zx4,ytt⟩
abbrev dT0:Type:=(Int×Int×yU×yU×yU×(yL Cond)×Int×Int×Chan×yG×Commit×(yL Unit)×(yL Ze))
abbrev tL1:yL Ty:=[yI,yI,.u64,.u64,.u64,(.sl WC),yI,yI,ZK,Zt,Yh,(.sl (.st [])),(.sl Zh)]
def YT(F:Nat)(s:(Int×Int×Int×Int×(yL Unit)×(yL Ze))):yO ((Int×Int×Int×Int×(yL Unit)×(yL Ze))⊕(Int×Int×Int×(yL Unit)×(yL Ze))):=
 if(decide (s.2.2.2.1 > s.1))=true then
  if(inB s.2.2.2.1 s.2.2.2.2.2.length)=true then
   (s.2.2.2.2.2[s.2.2.2.1.toNat]?).bind λe326=>
   if(inB (wi (s.2.2.2.1 - 1)) s.2.2.2.2.2.length)=true then
    (s.2.2.2.2.2[(wi (s.2.2.2.1 - 1)).toNat]?).bind λe327=>
    (Zai F e326 e327).bind λo328=>
    if(decide (o328 < 0))=true then
     if(inB (wi (s.2.2.2.1 - 1)) s.2.2.2.2.2.length)=true then
      (s.2.2.2.2.2[(wi (s.2.2.2.1 - 1)).toNat]?).bind λe329=>
      if(inB s.2.2.2.1 s.2.2.2.2.2.length)=true then
       (s.2.2.2.2.2[s.2.2.2.1.toNat]?).bind λe330=>
       if(inB s.2.2.2.1 s.2.2.2.2.2.length)=true then
        (s.2.2.2.2.2[s.2.2.2.1.toNat]?).bind λe331=>
        if(inB (wi (s.2.2.2.1 - 1)) ((s.2.2.2.2.2.set s.2.2.2.1.toNat e329).length))=true then
         ((s.2.2.2.2.2.set s.2.2.2.1.toNat e329)[(wi (s.2.2.2.1 - 1)).toNat]?).bind λe332=>
         let y333:(yL Ze):=(s.2.2.2.2.2.set s.2.2.2.1.toNat e329).set ((wi (s.2.2.2.1 - 1)).toNat) e330
         some (.inl (s.1,s.2.1,s.2.2.1,wi (s.2.2.2.1 - 1),s.2.2.2.2.1,y333))
        else
        none
       else
       none
      else
      none
     else
     none
    else
    some (.inr (s.1,s.2.1,s.2.2.1,s.2.2.2.2.1,s.2.2.2.2.2))
   else
   none
  else
  none
 else
 some (.inr (s.1,s.2.1,s.2.2.1,s.2.2.2.2.1,s.2.2.2.2.2))
def Zdf:Lp:=⟨[(0,.rw 0),(1,.v yI),(2,.v yI),(3,.fn 45 []),(8,.v yI),(9,.v yI)],[.row Zh true 105],[yI,yI,yI,yI,(.sl (.st [])),(.sl Zh)],[⟨.exit 2,[(0,.rw 0),(1,.v yI),(2,.v yI),(3,.fn 45 []),(8,.v yI)],[.row Zh true 105],[yI,yI,yI,(.sl (.st [])),(.sl Zh)]⟩],Zc (YT yD) yD⟩
def ZJS:HI:={ still:=[26,31],rowt:=[0,37,39]}
theorem ZgC:Zdf.okA yb 129 1:=ZN ZJS [] [Zgq] ⟨ZmW,ytt⟩
def ZO(F:Nat)(s:(Int×Int×Int×(yL Unit)×(yL Ze))):yO ((Int×Int×Int×(yL Unit)×(yL Ze))⊕((yL Unit)×(yL Ze))):=
 if(decide (s.2.2.1 < s.2.1))=true then
  (Zc (YT F) F (s.1,s.2.1,s.2.2.1,s.2.2.1,s.2.2.2.1,s.2.2.2.2)).bind λo334=>
  some (.inl (o334.1,o334.2.1,wi (o334.2.2.1+1),o334.2.2.2.1,o334.2.2.2.2))
 else
 some (.inr (s.2.2.2.1,s.2.2.2.2))
def Zdg:Lp:=⟨[(0,.rw 0),(1,.v yI),(2,.v yI),(3,.fn 45 []),(8,.v yI)],[.row Zh true 105],[yI,yI,yI,(.sl (.st [])),(.sl Zh)],[⟨.exit 0,[],[.row Zh true 105],[(.sl (.st [])),(.sl Zh)]⟩],Zc (ZO yD) yD⟩
theorem ZgD:Zdg.okA yb 129 0:=ZN ZJS [(1,Zdf)] [] trivial ⟨ZgC,ytt⟩
def Y3(F:Nat)(a1:Int)(a2:Int)(s0_0:(yL Unit))(s0_1:(yL Ze)):yO (((yL Unit)×(yL Ze))):=
 (Zc (ZO F) F (a1,a2,wi (a1+1),s0_0,s0_1)).bind λo335=>
 some (o335.1,o335.2)
def Zkc(F:Nat):Fs yb:=⟨129,[.rw 0,.v yI,.v yI,.fn 45 []],[.row Zh true 105],[yI,yI,(.sl (.st [])),(.sl Zh)],[⟨.ret,[(0,.tup [])],[.row Zh true 105],[(.sl (.st [])),(.sl Zh)]⟩],λx=>Y3 F x.1 x.2.1 x.2.2.1 x.2.2.2⟩
def Zal:Fs yb:=Zkc yD
theorem Zdh:Zal.Ok:=fnO ZJS [(0,Zdg)] [] trivial ⟨ZgD,ytt⟩
def Yx(F:Nat)(s:(Int×Int×Int×Int×(yL Unit)×(yL Ze))):yO ((Int×Int×Int×Int×(yL Unit)×(yL Ze))⊕(Int×Int×Int×(yL Unit)×(yL Ze))):=
 if(decide (s.2.2.2.1<=s.1))=true then
  (Y3 F s.2.2.1 s.2.2.2.1 s.2.2.2.2.1 s.2.2.2.2.2).bind λo336=>
  if(decide (s.2.2.2.2.1.length=o336.1.length)&&(decide (40=40)&&decide ((yv s.2.2.2.2.2.length ()).length=o336.2.length)))=true then
   some (.inl (s.1,s.2.1,s.2.2.2.1,wi (s.2.2.2.1+s.2.1),o336.1,o336.2))
  else
  none
 else
 some (.inr (s.1,s.2.1,s.2.2.1,s.2.2.2.2.1,s.2.2.2.2.2))
def Zd5:Lp:=⟨[(0,.rw 0),(1,.v yI),(2,.fn 45 []),(6,.v yI),(7,.v yI),(8,.v yI)],[.row Zh true 105],[yI,yI,yI,yI,(.sl (.st [])),(.sl Zh)],[⟨.exit 0,[(0,.rw 0),(1,.v yI),(2,.fn 45 []),(6,.v yI),(7,.v yI)],[.row Zh true 105],[yI,yI,yI,(.sl (.st [])),(.sl Zh)]⟩],Zc (Yx yD) yD⟩
def ZHI:HI:={ still:=[15,16,17,24,25,26,37,40,41,42,56,57,58,59],rowt:=[0,14,23,36,55]}
theorem Zhu:Zd5.okA yb 89 0:=Zvg (fi:={ hi:=ZHI,gh:=[(3,.freshS 0)]}) (specs:={ l:=[Zal]}) (okS ⟨Zdh,ytt⟩)
def Zdi(F:Nat)(s:(Int×Int×Int×Int×(yL Unit)×(yL Ze))):yO ((Int×Int×Int×Int×(yL Unit)×(yL Ze))⊕(Int×Int×Int×(yL Unit)×(yL Ze))):=
 if(decide (s.2.2.2.1<=s.1))=true then
  none
 else
 some (.inr (s.1,s.2.1,s.2.2.1,s.2.2.2.2.1,s.2.2.2.2.2))
def Zd6:Lp:=⟨[(1,.v yI),(2,.fn 45 []),(6,.v yI),(7,.v yI),(8,.v yI)],[.row Zh true 105],[yI,yI,yI,yI,(.sl (.st [])),(.sl Zh)],[⟨.exit 4,[(1,.v yI),(2,.fn 45 []),(6,.v yI),(7,.v yI)],[.row Zh true 105],[yI,yI,yI,(.sl (.st [])),(.sl Zh)]⟩],Zc (Zdi yD) yD⟩
theorem Zhv:Zd6.okA yb 89 2:=ZN ZHI [] [] trivial
def WT(F:Nat)(s:(Int×Int×(yL Unit)×(yL Ze))):yO ((Int×Int×(yL Unit)×(yL Ze))⊕((yL Unit)×(yL Ze))):=
 if(decide (s.2.1 < s.1))=true then
  (Zc (Zdi F) F (s.1,s.2.1,0,wi (2*s.2.1),s.2.2.1,s.2.2.2)).bind λo339=>
  if(decide ((wi (o339.2.2.1+o339.2.1)) < o339.1))=true then
   none
  else
  some (.inl (o339.1,wi (o339.2.1*2),o339.2.2.2.1,o339.2.2.2.2))
 else
 some (.inr (s.2.2.1,s.2.2.2))
def Zd7:Lp:=⟨[(0,.junk),(1,.v yI),(2,.fn 45 []),(6,.v yI)],[.row Zh true 105],[yI,yI,(.sl (.st [])),(.sl Zh)],[⟨.exit 2,[],[.row Zh true 105],[(.sl (.st [])),(.sl Zh)]⟩],Zc (WT yD) yD⟩
theorem Zhw:Zd7.okA yb 89 1:=ZN ZHI [(2,Zd6)] [] trivial ⟨Zhv,ytt⟩
def ZbL(F:Nat)(a1:Int)(s0_0:(yL Unit))(s0_1:(yL Ze)):yO (((yL Unit)×(yL Ze))):=
 (Zc (Yx F) F (a1,20,0,20,s0_0,s0_1)).bind λo337=>
 (Y3 F o337.2.2.1 o337.1 o337.2.2.2.1 o337.2.2.2.2).bind λo338=>
 (Zc (WT F) F (o337.1,o337.2.1,o338.1,o338.2)).bind λo340=>
 some (o340.1,o340.2)
def ZlE(F:Nat):Fs yb:=⟨89,[.rw 0,.v yI,.fn 45 []],[.row Zh true 105],[yI,(.sl (.st [])),(.sl Zh)],[⟨.ret,[(0,.tup [])],[.row Zh true 105],[(.sl (.st [])),(.sl Zh)]⟩],λx=>ZbL F x.1 x.2.1 x.2.2⟩
def Ze4:Fs yb:=ZlE yD
theorem ZlF:Ze4.Ok:=fnO ZHI [(0,Zd5),(1,Zd7)] [Zal] ⟨Zdh,ytt⟩ ⟨Zhu,Zhw,ytt⟩
def X7(F:Nat)(s0_0:(yL Unit))(s0_1:(yL Ze)):yO (((yL Unit)×(yL Ze))):=
 (ZbL F (s0_1.length:Int) s0_0 s0_1).bind λo341=>
 some (o341.1,o341.2)
def Zq6(F:Nat):Fs yb:=⟨44,[.rw 0,.fn 45 []],[.row Zh true 105],[(.sl (.st [])),(.sl Zh)],[⟨.ret,[(0,.tup [])],[.row Zh true 105],[(.sl (.st [])),(.sl Zh)]⟩],λx=>X7 F x.1 x.2⟩
def Zjh:Fs yb:=Zq6 yD
theorem Zq7:Zjh.Ok:=fnO { still:=[6,7],rowt:=[0,4]} [] [Ze4] ⟨ZlF,ytt⟩
abbrev dT1:Type:=(Int×Int×Chan×yG×Commit×(yL Unit)×(yL Ze)×(yL In)×Int×(yL Qy)×(yL Out))
abbrev dT2:Type:=(Chan×yG×Commit×(yL Unit)×(yL Ze)×(yL In)×Int×(yL Qy)×(yL Out))
def ZKK:yL ESh:=[.var (.v ZK) true,.var (.v Zt) true,.var (.v Yh) true,.var (.rw 4) true,.row Zh true 105,.var (.agg [.agg [.v (.sl yIn),.own 7 Yc,.v yI],.own 6 Zhr]) true,.log Zhr 68,.log Yc 75]
abbrev tL2:yL Ty:=[ZK,Zt,Yh,(.sl (.st [])),(.sl Zh),(.sl yIn),yI,(.sl Zhr),(.sl Yc)]
abbrev tL3:yL Ty:=[yI,yI,ZK,Zt,Yh,(.sl (.st [])),(.sl Zh),(.sl yIn),yI,(.sl Zhr),(.sl Yc)]
def Yu(F:Nat)(s:dT0):yO (dT0⊕(Int×Chan×yG×Commit×(yL Unit)×(yL Ze))):=
 if(decide (s.2.2.2.2.2.2.2.1 < s.2.2.2.2.2.2.1))=true then
  (idx s.2.2.2.2.2.1 s.2.2.2.2.2.2.2.1).bind λe376=>
  if(e376.1==s.1)=true then
   (ZJ F e376.2.2.1 [([s.2.2.1],0,0,0),([s.2.2.2.2.1],0,0,e376.2.2.2.1),([s.2.2.2.1],e376.2.2.2.2,s.2.1,0)] (5,e376) s.2.2.2.2.2.2.2.2.2.2.2.1 s.2.2.2.2.2.2.2.2.2.2.2.2).bind λo377=>
   some (.inl (s.1,s.2.1,s.2.2.1,s.2.2.2.1,s.2.2.2.2.1,s.2.2.2.2.2.1,s.2.2.2.2.2.2.1,wi (s.2.2.2.2.2.2.2.1+1),s.2.2.2.2.2.2.2.2.1,s.2.2.2.2.2.2.2.2.2.1,s.2.2.2.2.2.2.2.2.2.2.1,o377.1,o377.2))
  else
  (ZJ F e376.2.2.1 [([s.2.2.1],0,0,0),([s.2.2.2.1],0,s.2.1,e376.2.2.2.1),([s.2.2.2.2.1],e376.2.2.2.2,0,0)] (6,e376) s.2.2.2.2.2.2.2.2.2.2.2.1 s.2.2.2.2.2.2.2.2.2.2.2.2).bind λo378=>
  some (.inl (s.1,s.2.1,s.2.2.1,s.2.2.2.1,s.2.2.2.2.1,s.2.2.2.2.2.1,s.2.2.2.2.2.2.1,wi (s.2.2.2.2.2.2.2.1+1),s.2.2.2.2.2.2.2.2.1,s.2.2.2.2.2.2.2.2.2.1,s.2.2.2.2.2.2.2.2.2.2.1,o378.1,o378.2))
 else
 some (.inr (s.1,s.2.2.2.2.2.2.2.2.1,s.2.2.2.2.2.2.2.2.2.1,s.2.2.2.2.2.2.2.2.2.2.1,s.2.2.2.2.2.2.2.2.2.2.2.1,s.2.2.2.2.2.2.2.2.2.2.2.2))
abbrev zH:List ESh:=[.var (.v ZK) true,.var (.v Zt) true,.var (.v Yh) true,.var (.rw 4) true,.row Zh true 105]
def Zhx:Lp:=⟨[(2,.v yI),(4,.ref 0 []),(5,.ref 1 []),(8,.ref 2 []),(11,.v yI),(12,.v .u64),(13,.v .u64),(14,.v .u64),(15,.ref 3 []),(16,.fn 37 [.ref 3 []]),(139,.v (.sl WC)),(140,.v yI),(141,.v yI)],zH,tL1,[⟨.exit 1,[(2,.v yI),(4,.ref 0 []),(5,.ref 1 []),(8,.ref 2 []),(15,.ref 3 [])],zH,[yI,ZK,Zt,Yh,(.sl (.st [])),(.sl Zh)]⟩],Zc (Yu yD) yD⟩
def ZLi:HI:={ own:=[208,212,216,220],still:=[9,28,32,38,39,54,55,61,62,68,69,72,73,74,75,80,81,84,89,90,91,92,93,94,95,97,98,99,100,105,106,109,114,115,116,123,124,125,132,133,134,136,137,138,176,183,184],rowt:=[187]}
theorem ZlG:Zhx.okA yb 7 0:=ZN ZLi [] [ZbK] ⟨Ze3,ytt⟩
def YV(F:Nat)(s:dT1):yO (dT1⊕dT2):=
 if(decide (s.2.1 < s.1))=true then
  if(inB s.2.1 s.2.2.2.2.2.2.1.length)=true then
   (s.2.2.2.2.2.2.1[s.2.1.toNat]?).bind λe381=>
   if(apB s.2.2.2.2.2.2.2.2.2.2.length 1 32)=true then
    if(apB s.2.2.2.2.2.2.2.2.2.1.length 1 48)=true then
     let y382:(yL Qy):=s.2.2.2.2.2.2.2.2.2.1++([e381.2.1]:yL Qy)
     some (.inl (s.1,wi (s.2.1+1),s.2.2.1,s.2.2.2.1,s.2.2.2.2.1,s.2.2.2.2.2.1,s.2.2.2.2.2.2.1,s.2.2.2.2.2.2.2.1,s.2.2.2.2.2.2.2.2.1,y382,s.2.2.2.2.2.2.2.2.2.2++([e381.1]:yL Out)))
    else
    none
   else
   none
  else
  none
 else
 some (.inr (s.2.2.1,s.2.2.2.1,s.2.2.2.2.1,s.2.2.2.2.2.1,s.2.2.2.2.2.2.1,s.2.2.2.2.2.2.2.1,s.2.2.2.2.2.2.2.2.1,s.2.2.2.2.2.2.2.2.2.1,s.2.2.2.2.2.2.2.2.2.2))
def Zhy:Lp:=⟨[(8,.ref 2 []),(24,.ref 5 []),(200,.rw 4),(201,.v yI),(202,.v yI)],ZKK,tL3,[⟨.exit 3,[(8,.ref 2 []),(24,.ref 5 [])],ZKK,tL2⟩],Zc (YV yD) yD⟩
def ZKL:HI:={ own:=[208,212,216,220],still:=[9,28,32,38,39,54,55,61,62,68,69,72,73,74,75,80,81,84,89,90,91,92,93,94,95,97,98,99,100,105,106,109,114,115,116,123,124,125,132,133,134,136,137,138,176,183,184],rowt:=[187],gst:=[(24,[([1],Zhr,68),([0,1],Yc,75)])]}
theorem ZlH:Zhy.okA yb 7 1:=ZN ZKL [] [] trivial
def Y9(F:Nat)(a0:Chan)(a1:yG)(a2:Int)(a3:yU):yO ((Commit×Int)):=
 (VL F a2).bind λo346=>
 if(!o346)=true then
  some ((([],[],0),[]),1)
 else
 (Ys F a3).bind λo347=>
 if(!o347)=true then
  some ((([],[],0),[]),1)
 else
 (Zag F a0 a1).bind λo348=>
 if(!o348)=true then
  some ((([],[],0),[]),14)
 else
 if(inB (wi (1 - a2)) 2)=true then
  (a0.2.2.2.1[(wi (1 - a2)).toNat]?).bind λe349=>
  if(inB (wi (1 - a2)) 2)=true then
   (a0.2.2.1[(wi (1 - a2)).toNat]?).bind λe350=>
   (Zci F e350.2.2.2.2 a3).bind λo351=>
   if(inB a2 2)=true then
    (a0.2.2.1[a2.toNat]?).bind λe352=>
    (Zcv F e352.2.2.2.1 a3).bind λo353=>
    if(inB (wi (1 - a2)) 2)=true then
     (a0.2.2.1[(wi (1 - a2)).toNat]?).bind λe354=>
     (Zcv F e354.2.2.2.1 a3).bind λo355=>
     (VQ F a0 a1 a2 a2).bind λo356=>
     if(inB a2 2)=true then
      (a0.2.2.2.1[a2.toNat]?).bind λe357=>
      (WR F e357 o356).bind λo358=>
      if o358=true then
       if(inB a2 2)=true then
        (a0.2.2.1[a2.toNat]?).bind λe359=>
        (Zcv F e359.2.2.1 a3).bind λo360=>
        (Zka F o360 o351 e349.2.2.1).bind λo361=>
        (ZJ F o356 o361 (1,(0,0,0,0,0)) [] []).bind λo362=>
        (VQ F a0 a1 a2 (wi (1 - a2))).bind λo363=>
        if(inB a2 2)=true then
         (a0.2.2.2.1[a2.toNat]?).bind λe364=>
         (WR F e364 o363).bind λo365=>
         if o365=true then
          if(inB (wi (1 - a2)) 2)=true then
           (a0.2.2.1[(wi (1 - a2)).toNat]?).bind λe366=>
           (W5 F e366.2.1).bind λo367=>
           (ZJ F o363 o367 (2,(0,0,0,0,0)) o362.1 o362.2).bind λo368=>
           if(inB a2 2)=true then
            (a0.2.2.1[a2.toNat]?).bind λe369=>
            (Y8 F e369.1).bind λo370=>
            (ZJ F 330 o370 (3,(0,0,0,0,0)) o368.1 o368.2).bind λo371=>
            if(inB (wi (1 - a2)) 2)=true then
             (a0.2.2.1[(wi (1 - a2)).toNat]?).bind λe372=>
             (Y8 F e372.1).bind λo373=>
             (ZJ F 330 o373 (4,(0,0,0,0,0)) o371.1 o371.2).bind λo374=>
             (XB F a0 a1 a2).bind λo375=>
             (Zc (Yu F) F (a2,e349.2.2.1,o351,o353,o355,o375,(o375.length:Int),0,a0,a1,(([],[],0),[]),o374.1,o374.2)).bind λo379=>
             (X7 F o379.2.2.2.2.1 o379.2.2.2.2.2).bind λo380=>
             if(decide (o379.2.2.2.2.1.length=o380.1.length)&&(decide (40=40)&&decide ((yv o379.2.2.2.2.2.length ()).length=o380.2.length)))=true then
              (Zc (YV F) F ((o380.2.length:Int),0,o379.2.1,o379.2.2.1,o379.2.2.2.1,o380.1,o380.2,[(o379.2.1.1,(0,[],0))],wi ((wi (2*o379.2.2.1.1))+o379.1),[],[])).bind λo383=>
              some (((o383.2.2.2.2.2.1,o383.2.2.2.2.2.2.2.2,o383.2.2.2.2.2.2.1),o383.2.2.2.2.2.2.2.1),0)
             else
             none
            else
            none
           else
           none
          else
          none
         else
         if(inB a2 2)=true then
          (a0.2.2.1[a2.toNat]?).bind λe384=>
          (Y8 F e384.1).bind λo385=>
          (ZJ F 330 o385 (3,(0,0,0,0,0)) o362.1 o362.2).bind λo386=>
          if(inB (wi (1 - a2)) 2)=true then
           (a0.2.2.1[(wi (1 - a2)).toNat]?).bind λe387=>
           (Y8 F e387.1).bind λo388=>
           (ZJ F 330 o388 (4,(0,0,0,0,0)) o386.1 o386.2).bind λo389=>
           (XB F a0 a1 a2).bind λo390=>
           (Zc (Yu F) F (a2,e349.2.2.1,o351,o353,o355,o390,(o390.length:Int),0,a0,a1,(([],[],0),[]),o389.1,o389.2)).bind λo391=>
           (X7 F o391.2.2.2.2.1 o391.2.2.2.2.2).bind λo392=>
           if(decide (o391.2.2.2.2.1.length=o392.1.length)&&(decide (40=40)&&decide ((yv o391.2.2.2.2.2.length ()).length=o392.2.length)))=true then
            (Zc (YV F) F ((o392.2.length:Int),0,o391.2.1,o391.2.2.1,o391.2.2.2.1,o392.1,o392.2,[(o391.2.1.1,(0,[],0))],wi ((wi (2*o391.2.2.1.1))+o391.1),[],[])).bind λo393=>
            some (((o393.2.2.2.2.2.1,o393.2.2.2.2.2.2.2.2,o393.2.2.2.2.2.2.1),o393.2.2.2.2.2.2.2.1),0)
           else
           none
          else
          none
         else
         none
        else
        none
       else
       none
      else
      (VQ F a0 a1 a2 (wi (1 - a2))).bind λo394=>
      if(inB a2 2)=true then
       (a0.2.2.2.1[a2.toNat]?).bind λe395=>
       (WR F e395 o394).bind λo396=>
       if o396=true then
        if(inB (wi (1 - a2)) 2)=true then
         (a0.2.2.1[(wi (1 - a2)).toNat]?).bind λe397=>
         (W5 F e397.2.1).bind λo398=>
         (ZJ F o394 o398 (2,(0,0,0,0,0)) [] []).bind λo399=>
         if(inB a2 2)=true then
          (a0.2.2.1[a2.toNat]?).bind λe400=>
          (Y8 F e400.1).bind λo401=>
          (ZJ F 330 o401 (3,(0,0,0,0,0)) o399.1 o399.2).bind λo402=>
          if(inB (wi (1 - a2)) 2)=true then
           (a0.2.2.1[(wi (1 - a2)).toNat]?).bind λe403=>
           (Y8 F e403.1).bind λo404=>
           (ZJ F 330 o404 (4,(0,0,0,0,0)) o402.1 o402.2).bind λo405=>
           (XB F a0 a1 a2).bind λo406=>
           (Zc (Yu F) F (a2,e349.2.2.1,o351,o353,o355,o406,(o406.length:Int),0,a0,a1,(([],[],0),[]),o405.1,o405.2)).bind λo407=>
           (X7 F o407.2.2.2.2.1 o407.2.2.2.2.2).bind λo408=>
           if(decide (o407.2.2.2.2.1.length=o408.1.length)&&(decide (40=40)&&decide ((yv o407.2.2.2.2.2.length ()).length=o408.2.length)))=true then
            (Zc (YV F) F ((o408.2.length:Int),0,o407.2.1,o407.2.2.1,o407.2.2.2.1,o408.1,o408.2,[(o407.2.1.1,(0,[],0))],wi ((wi (2*o407.2.2.1.1))+o407.1),[],[])).bind λo409=>
            some (((o409.2.2.2.2.2.1,o409.2.2.2.2.2.2.2.2,o409.2.2.2.2.2.2.1),o409.2.2.2.2.2.2.2.1),0)
           else
           none
          else
          none
         else
         none
        else
        none
       else
       if(inB a2 2)=true then
        (a0.2.2.1[a2.toNat]?).bind λe410=>
        (Y8 F e410.1).bind λo411=>
        (ZJ F 330 o411 (3,(0,0,0,0,0)) [] []).bind λo412=>
        if(inB (wi (1 - a2)) 2)=true then
         (a0.2.2.1[(wi (1 - a2)).toNat]?).bind λe413=>
         (Y8 F e413.1).bind λo414=>
         (ZJ F 330 o414 (4,(0,0,0,0,0)) o412.1 o412.2).bind λo415=>
         (XB F a0 a1 a2).bind λo416=>
         (Zc (Yu F) F (a2,e349.2.2.1,o351,o353,o355,o416,(o416.length:Int),0,a0,a1,(([],[],0),[]),o415.1,o415.2)).bind λo417=>
         (X7 F o417.2.2.2.2.1 o417.2.2.2.2.2).bind λo418=>
         if(decide (o417.2.2.2.2.1.length=o418.1.length)&&(decide (40=40)&&decide ((yv o417.2.2.2.2.2.length ()).length=o418.2.length)))=true then
          (Zc (YV F) F ((o418.2.length:Int),0,o417.2.1,o417.2.2.1,o417.2.2.2.1,o418.1,o418.2,[(o417.2.1.1,(0,[],0))],wi ((wi (2*o417.2.2.1.1))+o417.1),[],[])).bind λo419=>
          some (((o419.2.2.2.2.2.1,o419.2.2.2.2.2.2.2.2,o419.2.2.2.2.2.2.1),o419.2.2.2.2.2.2.2.1),0)
         else
         none
        else
        none
       else
       none
      else
      none
     else
     none
    else
    none
   else
   none
  else
  none
 else
 none
def Zdj(F:Nat):Fs yb:=⟨7,[.v ZK,.v Zt,.v yI,.v .u64],[],[ZK,Zt,yI,.u64],[⟨.ret,[(0,.tup [.v Yh,.v yI])],[],[Yh,yI]⟩],λx=>Y9 F x.1 x.2.1 x.2.2.1 x.2.2.2⟩
def Zji:Fs yb:=Zdj yD
theorem Zhz:Zji.Ok:=ZEV (fi:={ hi:=ZKL,lp:=[(0,Zhx),(1,Zhy)],gh:=[(11,.rowt 15 [] Zh 105),(31,.freshV 15)]}) (specs:={ l:=[ZiV,Xy,Zi4,Zi9,ZqV,Zja,Zer,ZnU,ZbK,Zj4,Zjb,Zc9,Zjh]}) (okS ⟨Zqs,XN,ZqJ,ZqU,Zx0,ZqY,Zhq,ZvD,Ze3,Zg5,Zq0,Zgo,Zq7,ytt⟩) ⟨ZlG,ZlH,ytt⟩
def WE(F:Nat)(a0:Wh):yO (Bool):=
 if(decide (a0.1 >= 0))=true then
  if(decide (a0.1 < 4))=true then
   some (decide ((a0.2.1.length:Int)<=12))
  else
  some false
 else
 some false
def Zsx(F:Nat):Fs yb:=⟨110,[.v Vy],[],[Vy],(zN .bool),λx=>WE F x⟩
def ZfN:Fs yb:=Zsx yD
theorem Zjj:ZfN.Ok:=fnO { still:=[2]} [] [] trivial
def Xq(F:Nat)(s:((yL In)×Int×Int×Tx×(yL (ZI×Bool)))):yO (((yL In)×Int×Int×Tx×(yL (ZI×Bool)))⊕((Bool×Tx×(yL (ZI×Bool)))⊕(Tx×(yL (ZI×Bool))))):=
 if(decide (s.2.2.1 < s.2.1))=true then
  (idx s.1 s.2.2.1).bind λe420=>
  ZnB (Zb3 s.2.2.2.2 e420.1) (λe421=>
   if e421=true then
    some (.inr (.inl (false,s.2.2.2.1,s.2.2.2.2)))
   else
   if(decide (e420.1.2 < 0))=true then
    some (.inr (.inl (false,s.2.2.2.1,s.2.2.2.2)))
   else
   if(decide (e420.1.2 >= 64))=true then
    some (.inr (.inl (false,s.2.2.2.1,s.2.2.2.2)))
   else
   (WE F e420.2).bind λo422=>
   if(!o422)=true then
    some (.inr (.inl (false,s.2.2.2.1,s.2.2.2.2)))
   else
   some (.inl (s.1,s.2.1,wi (s.2.2.1+1),s.2.2.2.1,Zmo s.2.2.2.2 e420.1 true))) (
   if(decide (e420.1.2 < 0))=true then
    some (.inr (.inl (false,s.2.2.2.1,s.2.2.2.2)))
   else
   if(decide (e420.1.2 >= 64))=true then
    some (.inr (.inl (false,s.2.2.2.1,s.2.2.2.2)))
   else
   (WE F e420.2).bind λo423=>
   if(!o423)=true then
    some (.inr (.inl (false,s.2.2.2.1,s.2.2.2.2)))
   else
   some (.inl (s.1,s.2.1,wi (s.2.2.1+1),s.2.2.2.1,Zmo s.2.2.2.2 e420.1 true)))
 else
 some (.inr (.inr (s.2.2.2.1,s.2.2.2.2)))
def ZnX:Lp:=⟨[(1,.ref 0 []),(3,.mp 1),(33,.v (.sl yIn)),(34,.v yI),(35,.v yI)],[.var (.v yTx) true,.map 178 ZM .bool],[(.sl yIn),yI,yI,yTx,(Zj1 ZM .bool)],[⟨.ret,[(2,.v .bool)],[.var (.v yTx) true,.map 178 ZM .bool],[.bool,yTx,(Zj1 ZM .bool)]⟩,⟨.exit 0,[(1,.ref 0 [])],[.var (.v yTx) true,.map 178 ZM .bool],[yTx,(Zj1 ZM .bool)]⟩],Zc (Xq yD) yD⟩
theorem Zq8:ZnX.okA yb 72 0:=ZN { still:=[2,57,73,75,83]} [] [ZfN] ⟨Zjj,ytt⟩
def X8(F:Nat)(s:(Int×(yL Out)×Int×Int×Tx×(yL (ZI×Bool)))):yO ((Int×(yL Out)×Int×Int×Tx×(yL (ZI×Bool)))⊕((Bool×Tx×(yL (ZI×Bool)))⊕(Tx×(yL (ZI×Bool))))):=
 if(decide (s.2.2.2.1 < s.2.2.1))=true then
  (idx s.2.1 s.2.2.2.1).bind λe427=>
  (Vt F s.1 e427.1).bind λo428=>
  if(!o428.2)=true then
   some (.inr (.inl (false,s.2.2.2.2.1,s.2.2.2.2.2)))
  else
  (Xc F e427.2).bind λo429=>
  if(!o429)=true then
   some (.inr (.inl (false,s.2.2.2.2.1,s.2.2.2.2.2)))
  else
  some (.inl (o428.1,s.2.1,s.2.2.1,wi (s.2.2.2.1+1),s.2.2.2.2.1,s.2.2.2.2.2))
 else
 some (.inr (.inr (s.2.2.2.2.1,s.2.2.2.2.2)))
def ZnY:Lp:=⟨[(6,.v yI),(66,.v (.sl Yc)),(67,.v yI),(68,.v yI)],[.var (.v yTx) true,.map 178 ZM .bool],[yI,(.sl Yc),yI,yI,yTx,(Zj1 ZM .bool)],[⟨.ret,[(2,.v .bool)],[.var (.v yTx) true,.map 178 ZM .bool],[.bool,yTx,(Zj1 ZM .bool)]⟩,⟨.exit 2,[],[.var (.v yTx) true,.map 178 ZM .bool],[yTx,(Zj1 ZM .bool)]⟩],Zc (X8 yD) yD⟩
theorem Zq9:ZnY.okA yb 72 1:=ZN { still:=[2,57,73,75,83]} [] [Zip,VR] ⟨ZfD,W8,ytt⟩
def Y4(F:Nat)(a0:Tx):yO (Bool):=
 if(decide ((a0.1.length:Int) < 1))=true then
  some false
 else
 if(decide ((a0.1.length:Int) > 64))=true then
  some false
 else
 if(decide ((a0.2.1.length:Int) > 64))=true then
  some false
 else
 if(decide (a0.2.2 < 0))=true then
  some false
 else
 (Zc (Xq F) F (a0.1,(a0.1.length:Int),0,a0,([]:yL (ZI×Bool)))).bind λo424=>
 match o424 with
 |.inl o425=>
  some o425.1
 |.inr o426=>
  (Zc (X8 F) F (0,o426.1.2.1,(o426.1.2.1.length:Int),0,o426.1,o426.2)).bind λo430=>
  match o430 with
  |.inl o431=>
   some o431.1
  |.inr o432=>
   some true
def Zx5(F:Nat):Fs yb:=⟨72,[.v yTx],[],[yTx],(zN .bool),λx=>Y4 F x⟩
def ZfO:Fs yb:=Zx5 yD
theorem ZhA:ZfO.Ok:=fnO { still:=[2,57,73,75,83]} [(0,ZnX),(1,ZnY)] [] trivial ⟨Zq8,Zq9,ytt⟩
def Zbe(F:Nat)(a0:(yL yB))(a1:(yL yB)):yO ((yL yB)):=
 (Qz F a0 a1).bind λo433=>
 some o433
def Zoy(F:Nat):Fs yb:=⟨117,[.v (.sl .u8),.v (.arr 32 .u8)],[],[(.sl .u8),(.arr 32 .u8)],(zN (.sl .u8)),λx=>Zbe F x.1 x.2⟩
def ZhB:Fs yb:=Zoy yD
theorem Zoz:ZhB.Ok:=fnO { still:=[4,5,6],frz:=[6]} [] [Zd4] ⟨ZfL,ytt⟩
def Zam(F:Nat)(a0:(yL yB))(a1:(yL yB)):yO ((yL yB)):=
 (Ze2 F (a1.length:Int)).bind λo434=>
 (Yn F [a0,o434,a1]).bind λo435=>
 some o435
def Zm1(F:Nat):Fs yb:=⟨118,[.v (.sl .u8),.v (.sl .u8)],[],[(.sl .u8),(.sl .u8)],(zN (.sl .u8)),λx=>Zam F x.1 x.2⟩
def Zgs:Fs yb:=Zm1 yD
theorem Zm2:Zgs.Ok:=fnO { still:=[4,7,10]} [] [Zkb,XS] ⟨ZnW,VB,ytt⟩
def Zck(F:Nat)(s:((yL yB)×(yL In)×Int×Int×Tx)):yO (((yL yB)×(yL In)×Int×Int×Tx)⊕((yL yB)×Tx)):=
 if(decide (s.2.2.2.1 < s.2.2.1))=true then
  (idx s.2.1 s.2.2.2.1).bind λe437=>
  (Zbe F s.1 e437.1.1).bind λo438=>
  (XZ F o438 e437.1.2).bind λo439=>
  some (.inl (o439,s.2.1,s.2.2.1,wi (s.2.2.2.1+1),s.2.2.2.2))
 else
 some (.inr (s.1,s.2.2.2.2))
def ZnZ:Lp:=⟨[(1,.ref 0 []),(3,.v (.sl .u8)),(13,.v (.sl yIn)),(14,.v yI),(15,.v yI)],[.var (.v yTx) true],[(.sl .u8),(.sl yIn),yI,yI,yTx],[⟨.exit 0,[(1,.ref 0 []),(3,.v (.sl .u8))],[.var (.v yTx) true],[(.sl .u8),yTx]⟩],Zc (Zck yD) yD⟩
def ZJT:HI:={ still:=[2,10,19,22,23,26,29,32,41,43,44,46,47,50,52]}
theorem Zra:ZnZ.okA yb 74 0:=ZN ZJT [] [ZhB,ZaU] ⟨Zoz,Zbv,ytt⟩
def Zcl(F:Nat)(s:((yL yB)×(yL Out)×Int×Int×Tx)):yO (((yL yB)×(yL Out)×Int×Int×Tx)⊕((yL yB)×Tx)):=
 if(decide (s.2.2.2.1 < s.2.2.1))=true then
  (idx s.2.1 s.2.2.2.1).bind λe442=>
  (XZ F s.1 e442.1).bind λo443=>
  (Zbw F e442.2).bind λo444=>
  (Zam F o443 o444).bind λo445=>
  some (.inl (o445,s.2.1,s.2.2.1,wi (s.2.2.2.1+1),s.2.2.2.2))
 else
 some (.inr (s.1,s.2.2.2.2))
def Zn0:Lp:=⟨[(1,.ref 0 []),(3,.v (.sl .u8)),(35,.v (.sl Yc)),(36,.v yI),(37,.v yI)],[.var (.v yTx) true],[(.sl .u8),(.sl Yc),yI,yI,yTx],[⟨.exit 2,[(1,.ref 0 []),(3,.v (.sl .u8))],[.var (.v yTx) true],[(.sl .u8),yTx]⟩],Zc (Zcl yD) yD⟩
theorem Zrb:Zn0.okA yb 74 1:=ZN ZJT [] [ZaU,ZfM,Zgs] ⟨Zbv,Zjg,Zm2,ytt⟩
def Zit(F:Nat)(a0:Tx):yO ((yL yB)):=
 (XZ F [] (a0.1.length:Int)).bind λo436=>
 (Zc (Zck F) F (o436,a0.1,(a0.1.length:Int),0,a0)).bind λo440=>
 (XZ F o440.1 (o440.2.2.1.length:Int)).bind λo441=>
 (Zc (Zcl F) F (o441,o440.2.2.1,(o440.2.2.1.length:Int),0,o440.2)).bind λo446=>
 (XZ F o446.1 o446.2.2.2).bind λo447=>
 some o447
def Zx6(F:Nat):Fs yb:=⟨74,[.v yTx],[],[yTx],(zN (.sl .u8)),λx=>Zit F x⟩
def Zrc:Fs yb:=Zx6 yD
theorem Zx7:Zrc.Ok:=fnO ZJT [(0,ZnZ),(1,Zn0)] [ZaU] ⟨Zbv,ytt⟩ ⟨Zra,Zrb,ytt⟩
def ZFy:ByteArray:=⟨#[116,120]⟩
def QA(F:Nat)(a0:Tx):yO ((yL yB)):=
 (Y4 F a0).bind λo448=>
 if(!o448)=true then
  some yzz
 else
 (Zit F a0).bind λo449=>
 (XX F ZFy [o449]).bind λo450=>
 some o450
def ZFz(F:Nat):Fs yb:=⟨26,[.v yTx],[],[yTx],(zN (.arr 32 .u8)),λx=>QA F x⟩
def Zo1:Fs yb:=ZFz yD
theorem Zrd:Zo1.Ok:=fnO { still:=[3,7,9]} [] [ZfO,Zrc,Vw] ⟨ZhA,Zx7,Vx,ytt⟩
def QM(F:Nat)(s:(Int×Int×Tx×(yL ZI)×(yL yB))):yO ((Int×Int×Tx×(yL ZI)×(yL yB))⊕(Tx×(yL ZI)×(yL yB))):=
 if(decide (s.2.1 < s.1))=true then
  if(apB s.2.2.2.1.length 1 40)=true then
   let y453:(yL ZI):=s.2.2.2.1++([(s.2.2.2.2,s.2.1)]:yL ZI)
   some (.inl (s.1,wi (s.2.1+1),s.2.2.1,y453,s.2.2.2.2))
  else
  none
 else
 some (.inr (s.2.2.1,s.2.2.2.1,s.2.2.2.2))
def Zre:Lp:=⟨[(2,.own 1 ZM),(3,.ref 2 []),(12,.v yI),(13,.v yI)],[.var (.v yTx) true,.log ZM 25,.var (.v (.arr 32 .u8)) true],[yI,yI,yTx,(.sl ZM),(.arr 32 .u8)],[⟨.exit 0,[(2,.own 1 ZM)],[.var (.v yTx) true,.log ZM 25,.var (.v (.arr 32 .u8)) true],[yTx,(.sl ZM),(.arr 32 .u8)]⟩],Zc (QM yD) yD⟩
def ZKM:HI:={ own:=[2,16,21,23],still:=[2,5,7]}
theorem Zsy:Zre.okA yb 49 0:=ZN ZKM [] [] trivial
def Zbx(F:Nat)(a0:Tx):yO ((yL ZI)):=
 (QA F a0).bind λo451=>
 (Y4 F a0).bind λo452=>
 if(!o452)=true then
  some []
 else
 (Zc (QM F) F ((a0.2.1.length:Int),0,a0,[],o451)).bind λo454=>
 some o454.2.1
def ZAh(F:Nat):Fs yb:=⟨49,[.v yTx],[],[yTx],(zN (.sl ZM)),λx=>Zbx F x⟩
def ZtL:Fs yb:=ZAh yD
theorem ZAi:ZtL.Ok:=fnO ZKM [(0,Zre)] [Zo1,ZfO] ⟨Zrd,ZhA,ytt⟩ ⟨Zsy,ytt⟩
def Zd8(F:Nat)(a0:(yL Branch)):yO ((yL Branch)):=
 if(apB 0 a0.length 48)=true then
  some a0
 else
 none
def Zsz(F:Nat):Fs yb:=⟨92,[.sl true Zo],[],[(.sl Zo)],(zN (.sl Zo)),λx=>Zd8 F x⟩
def ZvF:Fs yb:=Zsz yD
theorem ZsA:ZvF.Ok:=fnO { own:=[5,7],still:=[2]} [] [] trivial
def ZhC(F:Nat):yO ((yL Branch)):=
 some []
def Zm3(F:Nat):Fs yb:=⟨92,[.nil Zo],[],[],(zN (.sl Zo)),λx=>ZhC F⟩
def ZoA:Fs yb:=Zm3 yD
theorem Zm4:ZoA.Ok:=fnO { own:=[5,7],still:=[2]} [] [] trivial
def ZoB(F:Nat):Fs yb:=⟨92,[.v (.sl Zo)],[],[(.sl Zo)],(zN (.sl Zo)),λx=>Zd8 F x⟩
def Zrf:Fs yb:=ZoB yD
theorem ZoC:Zrf.Ok:=Zvh (t:=Zo) (xs:=(zN (.sl Zo))) (MA:=λ(x:(yL Branch))=>Zd8 yD x) (MB:=λ_=>ZhC yD) ZsA Zm4 rfl
def VD(F:Nat)(a0:(yL Branch)):yO (((yL Unit)×(yL Branch))):=
 if(apB 0 a0.length 48)=true then
  some ([()],a0)
 else
 none
def Zm5(F:Nat):Fs yb:=⟨92,[.sl true Zo],[],[(.sl Zo)],[⟨.ret,[(0,.rw 0)],[.row Zo true 113],[(.sl (.st [])),(.sl Zo)]⟩],λx=>VD F x⟩
def ZoD:Fs yb:=Zm5 yD
theorem Zm6:ZoD.Ok:=fnO { own:=[5,7],rowt:=[2,5,7]} [] [] trivial
def XG(F:Nat)(a0:(yL Branch)):yO (((yL Unit)×(yL Branch))):=if a0.isEmpty=true then none else VD F a0
def Zkd(F:Nat):Fs yb:=⟨92,[.v (.sl Zo)],[],[(.sl Zo)],[⟨.ret,[(0,.rw 0)],[.row Zo true 113],[(.sl (.st [])),(.sl Zo)]⟩],λx=>XG F x⟩
def Zd9:Fs yb:=Zkd yD
theorem Zdk:Zd9.Ok:=Zvo (t:=Zo) (xs:=[⟨.ret,[(0,.rw 0)],[.row Zo true 113],[(.sl (.st [])),(.sl Zo)]⟩]) (MA:=λ(x:(yL Branch))=>VD yD x) Zm6 rfl (λ_ _=>rfl)
def Zan(F:Nat)(a0:(yL Branch)):yO (((yL Unit)×(yL Branch))⊕(yL Branch)):=if a0.isEmpty=true then(Zd8 F a0).map Sum.inr else(XG F a0).map Sum.inl
def ZiF(F:Nat):Fs yb:=⟨92,[.v (.sl Zo)],[],[(.sl Zo)],[⟨.ret,[(0,.rw 0)],[.row Zo true 113],[(.sl (.st [])),(.sl Zo)]⟩,⟨.ret,[(0,.v (.sl Zo))],[],[(.sl Zo)]⟩],λx=>Zan F x⟩
def Zdl:Fs yb:=ZiF yD
theorem ZiG:Zdl.Ok:=ZKC (ins:=[(.sl Zo)]) (λx:(yL Branch)=>x.isEmpty) Zdk ZoC
def XH(F:Nat)(s:(Int×Int×Int×Out×(yL Unit)×(yL Branch))):yO ((Int×Int×Int×Out×(yL Unit)×(yL Branch))⊕(Int×Out×(yL Unit)×(yL Branch))):=
 if(decide (s.2.1 < s.1))=true then
  if(inB s.2.1 s.2.2.2.2.2.length)=true then
   (s.2.2.2.2.2[s.2.1.toNat]?).bind λe464=>
   (Xj F e464.1).bind λo465=>
   if(inB s.2.1 s.2.2.2.2.2.length)=true then
    (s.2.2.2.2.2[s.2.1.toNat]?).bind λe466=>
    let y467:(yL Branch):=s.2.2.2.2.2.set s.2.1.toNat (o465,e466.2.1,e466.2.2.1,e466.2.2.2)
    some (.inl (s.1,wi (s.2.1+1),s.2.2.1,s.2.2.2.1,s.2.2.2.2.1,y467))
   else
   none
  else
  none
 else
 some (.inr (s.2.2.1,s.2.2.2.1,s.2.2.2.2.1,s.2.2.2.2.2))
def Zgt:Lp:=⟨[(1,.ref 0 []),(2,.ref 1 []),(13,.rw 2),(14,.v yI),(15,.v yI)],[.var (.agg [.v yI,.agg [.rw 2]]) true,.var (.v Yc) true,.row Zo true 113],[yI,yI,yI,Yc,(.sl (.st [])),(.sl Zo)],[⟨.exit 0,[(1,.ref 0 []),(2,.ref 1 [])],[.var (.agg [.v yI,.agg [.rw 2]]) true,.var (.v Yc) true,.row Zo true 113],[yI,Yc,(.sl (.st [])),(.sl Zo)]⟩],Zc (XH yD) yD⟩
def ZJU:HI:={ still:=[7,25],rowt:=[8,22],deep:=[75]}
theorem Zke:Zgt.okA yb 51 0:=ZN ZJU [] [Qa] ⟨Zab,ytt⟩
def Zdm(F:Nat)(s:((yL Branch)×Int×Int×Out×Out)):yO (((yL Branch)×Int×Int×Out×Out)⊕(Out×Out)):=
 if(decide (s.2.2.1 < s.2.1))=true then
  (idx s.1 s.2.2.1).bind λe470=>
  (Xj F e470.1).bind λo471=>
  (idx s.2.2.2.1.2 s.2.2.1).bind λe472=>
  none
 else
 some (.inr (s.2.2.2.1,s.2.2.2.2))
def Zea:Lp:=⟨[(1,.ref 0 []),(2,.ref 1 []),(13,.v (.sl Zo)),(14,.v yI),(15,.v yI)],[.var (.v Yc) true,.var (.v Yc) true],[(.sl Zo),yI,yI,Yc,Yc],[⟨.exit 0,[(1,.ref 0 []),(2,.ref 1 [])],[.var (.v Yc) true,.var (.v Yc) true],[Yc,Yc]⟩],Zc (Zdm yD) yD⟩
theorem ZhD:Zea.okA yb 51 0:=ZN ZJU [] [Qa] ⟨Zab,ytt⟩
def Qd(F:Nat)(a0:Out):yO (Out):=
 (Zan F a0.2).bind λo462=>
 match o462 with
 |.inl o463=>
  (Zc (XH F) F ((o463.2.length:Int),0,a0.1,(0,[]),o463.1,o463.2)).bind λo468=>
  some (o468.1,o468.2.2.2)
 |.inr o469=>
  (Zc (Zdm F) F (o469,(o469.length:Int),0,(a0.1,o469),(0,[]))).bind λo473=>
  some o473.1
def ZoE(F:Nat):Fs yb:=⟨51,[.v Yc],[],[Yc],(zN Yc),λx=>Qd F x⟩
def Zdn:Fs yb:=ZoE yD
theorem Zgu:Zdn.Ok:=ZBu (fi:={ hi:=ZJU,lp:=[(0,Zgt),(0,Zea)]}) (specs:={ l:=[Zdl]}) (okS ⟨ZiG,ytt⟩) ⟨Zke,ZhD,ytt⟩
def Zao(F:Nat)(a0:Out)(a1:Int)(a2:Int):yO (Int):=
 (idx a0.2 a1).bind λe474=>
 some (Zzj e474.2.1 (wi (a2+e474.2.2.1)))
def Zrg(F:Nat):Fs yb:=⟨52,[.v Yc,.v yI,.v yI],[],[Yc,yI,yI],(zN yI),λx=>Zao F x.1 x.2.1 x.2.2⟩
def Zjk:Fs yb:=Zrg yD
theorem Zrh:Zjk.Ok:=fnO { still:=[6]} [] [] trivial
def XI(F:Nat)(s:(yU×(yL yU)×Int×Int)):yO ((yU×(yL yU)×Int×Int)⊕((yU×Bool)⊕Unit)):=
 if(decide (s.2.2.2 < s.2.2.1))=true then
  (idx s.2.1 s.2.2.2).bind λe475=>
  (ZL F e475).bind λo476=>
  if(o476==s.1)=true then
   some (.inr (.inl (e475,true)))
  else
  some (.inl (s.1,s.2.1,s.2.2.1,wi (s.2.2.2+1)))
 else
 some (.inr (.inr ()))
def Zgv:Lp:=⟨[(1,.v .u64),(8,.v (.sl .u64)),(9,.v yI),(10,.v yI)],[],[.u64,(.sl .u64),yI,yI],[⟨.ret,[(4,.v .u64),(5,.v .bool)],[],[.u64,.bool]⟩,⟨.exit 0,[],[],[]⟩],Zc (XI yD) yD⟩
theorem Zkf:Zgv.okA yb 53 0:=ZN { still:=[4,5,14]} [] [YL] ⟨Ym,ytt⟩
def Zbf(F:Nat)(a0:(yL yU))(a1:yU):yO ((yU×Bool)):=
 (Zc (XI F) F (a1,a0,(a0.length:Int),0)).bind λo477=>
 match o477 with
 |.inl o478=>
  some (o478.1,o478.2)
 |.inr o479=>
  some (0,false)
def ZoF(F:Nat):Fs yb:=⟨53,[.v (.sl .u64),.v .u64],[],[(.sl .u64),.u64],[⟨.ret,[(0,.tup [.v .u64,.v .bool])],[],[.u64,.bool]⟩],λx=>Zbf F x.1 x.2⟩
def ZhE:Fs yb:=ZoF yD
theorem ZoG:ZhE.Ok:=fnO { still:=[4,5,14]} [(0,Zgv)] [] trivial ⟨Zkf,ytt⟩
abbrev W0:Ty:=(.st [.u64,.u64,.u64,.u64,.u64,(.arr 32 .u8)])
abbrev Kit:Type:=(yU×yU×yU×yU×yU×(yL yB))
abbrev Kit.Cond(x:Kit):yU:=x.2.2.2.1
abbrev Zy:Ty:=(.st [ZM,Yc,yI,.u64,yI,yI])
abbrev Claim:Type:=(ZI×Out×Int×yU×Int×Int)
abbrev Claim.Branch(x:Claim):Int:=x.2.2.1
abbrev ZtM:Ty:=(.st [yI,.bool])
abbrev Zx8:Type:=(Int×Bool)
def ZhF(F:Nat):yO (yL ((yL Int)×Zx8)):=some [([1,1],(1,false)),([5,1],(2,false)),([5,0],(1,true)),([6,1],(1,true)),([6,0],(2,false))]
def ZsB(F:Nat):Fs yb:=⟨50,[],[.gone],[],[⟨.ret,[(0,.mp 0)],[.map 125 (.arr 2 yI) ZtM],[(Zj1 (.arr 2 yI) ZtM)]⟩],λx=>ZhF F⟩
def ZlI:Fs yb:=ZsB yD
theorem ZsC:ZlI.Ok:=ZHA λ_=>rfl
abbrev dT3:Type:=(Int×(yL yU)×Int×(yL ZI)×(yL Qy)×Int×Int×Chan×Kit×Commit×(yL Claim))
def Xd(F:Nat)(s:dT3):yO (dT3⊕(Chan×Kit×Commit×(yL Claim))):=
 if(decide (s.2.2.2.2.2.2.1 < s.2.2.2.2.2.1))=true then
  (idx s.2.2.2.2.1 s.2.2.2.2.2.2.1).bind λe482=>
  (ZhF F).bind λo483=>
  ZnB (Zb3 o483 ([e482.1,s.2.2.1]:yL Int)) (λe484=>
   (idx s.2.2.2.2.2.2.2.2.2.1.1.2.1 s.2.2.2.2.2.2.1).bind λe485=>
   (idx s.2.2.2.1 s.2.2.2.2.2.2.1).bind λe486=>
   (Qd F e485).bind λo487=>
   (Zao F e485 e484.1 s.1).bind λo488=>
   if e484.2=true then
    (Zbf F s.2.1 e482.2.2.2.2.1).bind λo489=>
    if(!o489.2)=true then
     some (.inl (s.1,s.2.1,s.2.2.1,s.2.2.2.1,s.2.2.2.2.1,s.2.2.2.2.2.1,wi (s.2.2.2.2.2.2.1+1),s.2.2.2.2.2.2.2.1,s.2.2.2.2.2.2.2.2.1,s.2.2.2.2.2.2.2.2.2.1,s.2.2.2.2.2.2.2.2.2.2))
    else
    (Zao F e485 2 s.1).bind λo490=>
    if(apB s.2.2.2.2.2.2.2.2.2.2.length 1 104)=true then
     let y491:(yL Claim):=s.2.2.2.2.2.2.2.2.2.2++([(e486,o487,e484.1,o489.1,o488,o490)]:yL Claim)
     some (.inl (s.1,s.2.1,s.2.2.1,s.2.2.2.1,s.2.2.2.2.1,s.2.2.2.2.2.1,wi (s.2.2.2.2.2.2.1+1),s.2.2.2.2.2.2.2.1,s.2.2.2.2.2.2.2.2.1,s.2.2.2.2.2.2.2.2.2.1,y491))
    else
    none
   else
   if(apB s.2.2.2.2.2.2.2.2.2.2.length 1 104)=true then
    let y492:(yL Claim):=s.2.2.2.2.2.2.2.2.2.2++([(e486,o487,e484.1,0,o488,0)]:yL Claim)
    some (.inl (s.1,s.2.1,s.2.2.1,s.2.2.2.1,s.2.2.2.2.1,s.2.2.2.2.2.1,wi (s.2.2.2.2.2.2.1+1),s.2.2.2.2.2.2.2.1,s.2.2.2.2.2.2.2.2.1,s.2.2.2.2.2.2.2.2.2.1,y492))
   else
   none) (
   some (.inl (s.1,s.2.1,s.2.2.1,s.2.2.2.1,s.2.2.2.2.1,s.2.2.2.2.2.1,wi (s.2.2.2.2.2.2.1+1),s.2.2.2.2.2.2.2.1,s.2.2.2.2.2.2.2.2.1,s.2.2.2.2.2.2.2.2.2.1,s.2.2.2.2.2.2.2.2.2.2)))
 else
 some (.inr (s.2.2.2.2.2.2.2.1,s.2.2.2.2.2.2.2.2.1,s.2.2.2.2.2.2.2.2.2.1,s.2.2.2.2.2.2.2.2.2.2))
abbrev tL4:yL Ty:=[yI,(.sl .u64),yI,(.sl ZM),(.sl Zhr),yI,yI,ZK,W0,Yh,(.sl Zy)]
def Zjl:Lp:=⟨[(6,.v yI),(7,.v (.sl .u64)),(12,.ref 2 []),(16,.own 3 Zy),(17,.v yI),(18,.v (.sl ZM)),(54,.v (.sl Zhr)),(55,.v yI),(56,.v yI)],[.var (.v ZK) true,.var (.v W0) true,.var (.v Yh) true,.log Zy 77],tL4,[⟨.exit 0,[(16,.own 3 Zy)],[.var (.v ZK) true,.var (.v W0) true,.var (.v Yh) true,.log Zy 77],[ZK,W0,Yh,(.sl Zy)]⟩],Zc (Xd yD) yD⟩
def ZKN:HI:={ own:=[16,109,112,114],still:=[16,34,51,82,86,88,89,95,98,105,106]}
theorem Zm7:Zjl.okA yb 9 0:=Zvg (fi:={ hi:=ZKN,gh:=[(4,.hole)]}) (specs:={ l:=[ZlI,Zdn,Zjk,ZhE]}) (okS ⟨ZsC,Zgu,Zrh,ZoG,ytt⟩)
def WF(F:Nat)(a0:Chan)(a1:Kit)(a2:Int)(a3:Int)(a4:Commit)(a5:yU)(a6:Int)(a7:(yL yU)):yO ((yL Claim)):=
 if((bits .andNot .i64 a2 1)!=0)=true then
  some []
 else
 if((bits .andNot .i64 a3 1)!=0)=true then
  some []
 else
 (Ys F a5).bind λo480=>
 if(!o480)=true then
  some []
 else
 if(decide (a6 < 0))=true then
  some []
 else
 if(decide (a6 > 1048576))=true then
  some []
 else
 (Zbx F a4.1).bind λo481=>
 (Zc (Xd F) F (a6,a7,wi (1 - (bits .xor .i64 a2 a3)),o481,a4.2,(a4.2.length:Int),0,a0,a1,a4,[])).bind λo493=>
 some o493.2.2.2
def Zev(F:Nat):Fs yb:=⟨9,[.v ZK,.v W0,.v yI,.v yI,.v Yh,.v .u64,.v yI,.v (.sl .u64)],[],[ZK,W0,yI,yI,Yh,.u64,yI,(.sl .u64)],(zN (.sl Zy)),λx=>WF F x.1 x.2.1 x.2.2.1 x.2.2.2.1 x.2.2.2.2.1 x.2.2.2.2.2.1 x.2.2.2.2.2.2.1 x.2.2.2.2.2.2.2⟩
def ZlJ:Fs yb:=Zev yD
theorem Zjm:ZlJ.Ok:=fnO ZKN [(0,Zjl)] [Xy,ZtL] ⟨XN,ZAi,ytt⟩ ⟨Zm7,ytt⟩
def ZaV(F:Nat)(a0:yU):yO (yU):=
 some (a0 % 2305843009213688669)
def Zx9(F:Nat):Fs yb:=⟨141,[.v .u64],[],[.u64],(zN .u64),λx=>ZaV F x⟩
def Zkg:Fs yb:=Zx9 yD
theorem Zn1:Zkg.Ok:=fnO { still:=[2]} [] [] trivial
def ZbM(F:Nat)(a0:yU)(a1:yU):yO (yU):=
 some ((a0+a1) % 2305843009213688669)
def ZlK(F:Nat):Fs yb:=⟨142,[.v .u64,.v .u64],[],[.u64,.u64],(zN .u64),λx=>ZbM F x.1 x.2⟩
def Ze5:Fs yb:=ZlK yD
theorem ZlL:Ze5.Ok:=fnO { still:=[4]} [] [] trivial
def Zdo(F:Nat)(a0:yU)(a1:yU):yO (yU):=
 (ZaV F a0).bind λo494=>
 (ZaV F a1).bind λo495=>
 (ZbM F o494 o495).bind λo496=>
 some o496
def ZvG(F:Nat):Fs yb:=⟨99,[.v .u64,.v .u64],[],[.u64,.u64],(zN .u64),λx=>Zdo F x.1 x.2⟩
def ZhG:Fs yb:=ZvG yD
theorem ZlM:ZhG.Ok:=fnO { still:=[4,5,6,7,8]} [] [Zkg,Ze5] ⟨Zn1,ZlL,ytt⟩
def W1(F:Nat)(a0:yU)(a1:yU):yO (yU):=
 (ZL F a0).bind λo497=>
 (WQ F ZBO [a1,o497]).bind λo498=>
 (Zdo F a0 o498).bind λo499=>
 some o499
def ZlN(F:Nat):Fs yb:=⟨59,[.v .u64,.v .u64],[],[.u64,.u64],(zN .u64),λx=>W1 F x.1 x.2⟩
def Ze6:Fs yb:=ZlN yD
theorem ZlO:Ze6.Ok:=fnO { still:=[4,5,7,9,10]} [] [YL,Zbd,ZhG] ⟨Ym,Zc8,ZlM,ytt⟩
def Wr(F:Nat)(s:(yU×(yL Claim)×Int×Int×Kit×Commit×(yL Unit)×(yL yU))):yO ((yU×(yL Claim)×Int×Int×Kit×Commit×(yL Unit)×(yL yU))⊕(Kit×Commit×(yL Unit)×(yL yU))):=
 if(decide (s.2.2.2.1 < s.2.2.1))=true then
  (idx s.2.1 s.2.2.2.1).bind λe500=>
  if(decide (e500.1.2 < 0))=true then
   some (.inl (s.1,s.2.1,s.2.2.1,wi (s.2.2.2.1+1),s.2.2.2.2.1,s.2.2.2.2.2.1,s.2.2.2.2.2.2.1,s.2.2.2.2.2.2.2))
  else
  let y501:Bool:=decide (e500.1.2 >= (s.2.2.2.2.2.1.2.length:Int))
  if y501=true then
   some (.inl (s.1,s.2.1,s.2.2.1,wi (s.2.2.2.1+1),s.2.2.2.2.1,s.2.2.2.2.2.1,s.2.2.2.2.2.2.1,s.2.2.2.2.2.2.2))
  else
  (idx s.2.2.2.2.2.1.2 e500.1.2).bind λe502=>
  if(e502.1==1)=true then
   (W1 F s.2.2.2.2.1.2.2.1 s.1).bind λo503=>
   if(inB s.2.2.2.1 s.2.2.2.2.2.2.2.length)=true then
    (s.2.2.2.2.2.2.2[s.2.2.2.1.toNat]?).bind λe504=>
    some (.inl (s.1,s.2.1,s.2.2.1,wi (s.2.2.2.1+1),s.2.2.2.2.1,s.2.2.2.2.2.1,s.2.2.2.2.2.2.1,s.2.2.2.2.2.2.2.set s.2.2.2.1.toNat o503))
   else
   none
  else
  (W1 F s.2.2.2.2.1.2.2.2.1 s.1).bind λo505=>
  if(inB s.2.2.2.1 s.2.2.2.2.2.2.2.length)=true then
   (s.2.2.2.2.2.2.2[s.2.2.2.1.toNat]?).bind λe506=>
   some (.inl (s.1,s.2.1,s.2.2.1,wi (s.2.2.2.1+1),s.2.2.2.2.1,s.2.2.2.2.2.1,s.2.2.2.2.2.2.1,s.2.2.2.2.2.2.2.set s.2.2.2.1.toNat o505))
  else
  none
 else
 some (.inr (s.2.2.2.2.1,s.2.2.2.2.2.1,s.2.2.2.2.2.2.1,s.2.2.2.2.2.2.2))
def Zjn:Lp:=⟨[(2,.v .u64),(4,.ref 0 []),(5,.ref 1 []),(9,.rw 2),(15,.v (.sl Zy)),(16,.v yI),(17,.v yI)],[.var (.v W0) true,.var (.v Yh) true,.row .u64 true 36],[.u64,(.sl Zy),yI,yI,W0,Yh,(.sl (.st [])),(.sl .u64)],[⟨.exit 0,[(9,.rw 2)],[.var (.v W0) true,.var (.v Yh) true,.row .u64 true 36],[W0,Yh,(.sl (.st [])),(.sl .u64)]⟩],Zc (Wr yD) yD⟩
def ZKO:HI:={ still:=[8,25,26,56,57],rowt:=[9,14,22,53],mkn:=[14]}
theorem Zm8:Zjn.okA yb 11 0:=ZN ZKO [] [Ze6] ⟨ZlO,ytt⟩
def QN(F:Nat)(a0:Kit)(a1:Commit)(a2:yU)(a3:(yL Claim)):yO ((yL yU)):=
 if((decide ((a3.length:Int)=(a3.length:Int)))&&(ZeR (a3.length:Int) 8))=true then
  (Zc (Wr F) F (a2,a3,(a3.length:Int),0,a0,a1,[],yv ((a3.length:Int).toNat) (0:yU))).bind λo507=>
  some o507.2.2.2
 else
 none
def Zew(F:Nat):Fs yb:=⟨11,[.v W0,.v Yh,.v .u64,.v (.sl Zy)],[],[W0,Yh,.u64,(.sl Zy)],(zN (.sl .u64)),λx=>QN F x.1 x.2.1 x.2.2.1 x.2.2.2⟩
def ZlP:Fs yb:=Zew yD
theorem Zjo:ZlP.Ok:=fnO ZKO [(0,Zjn)] [] trivial ⟨Zm8,ytt⟩
def ZhH(F:Nat)(s:(Int×(yL Claim)×Int×Int)):yO ((Int×(yL Claim)×Int×Int)⊕Int):=
 if(decide (s.2.2.2 < s.2.2.1))=true then
  (idx s.2.1 s.2.2.2).bind λe508=>
  some (.inl (Zzj s.1 e508.2.2.2.2.1,s.2.1,s.2.2.1,wi (s.2.2.2+1)))
 else
 some (.inr s.1)
def Zjp:Lp:=⟨[(2,.v yI),(5,.v (.sl Zy)),(6,.v yI),(7,.v yI)],[],[yI,(.sl Zy),yI,yI],[⟨.exit 0,[(2,.v yI)],[],[yI]⟩],Zc (ZhH yD) yD⟩
theorem Zm9:Zjp.okA yb 14 0:=ZN { still:=[2]} [] [] trivial
def Zya(F:Nat)(a0:(yL Claim)):yO (Int):=
 (Zc (ZhH F) F (0,a0,(a0.length:Int),0)).bind λo509=>
 some o509
def Zex(F:Nat):Fs yb:=⟨14,[.v (.sl Zy)],[],[(.sl Zy)],(zN yI),λx=>Zya F x⟩
def ZvH:Fs yb:=Zex yD
theorem ZsD:ZvH.Ok:=fnO { still:=[2]} [(0,Zjp)] [] trivial ⟨Zm9,ytt⟩
def ZlQ(F:Nat)(a0:Claim)(a1:Int):yO (Bool):=
 if(decide (a0.2.2.2.2.1<=a1))=true then
  if(a0.2.2.2.2.2==0)=true then
   some true
  else
  some (decide (a1 < a0.2.2.2.2.2))
 else
 some false
def Zdp(F:Nat):Fs yb:=⟨31,[.v Zy,.v yI],[],[Zy,yI],(zN .bool),λx=>ZlQ F x.1 x.2⟩
def Zjq:Fs yb:=Zdp yD
theorem ZhI:Zjq.Ok:=fnO { still:=[4]} [] [] trivial
def ZhJ(F:Nat)(s:(Int×(yL Claim)×Int×Int×(yL Claim))):yO ((Int×(yL Claim)×Int×Int×(yL Claim))⊕(yL Claim)):=
 if(decide (s.2.2.2.1 < s.2.2.1))=true then
  (idx s.2.1 s.2.2.2.1).bind λe510=>
  (ZlQ F e510 s.1).bind λo511=>
  if o511=true then
   (Qd F e510.2.1).bind λo512=>
   if(apB s.2.2.2.2.length 1 104)=true then
    let y513:(yL Claim):=s.2.2.2.2++([(e510.1,o512,e510.2.2.1,e510.2.2.2.1,e510.2.2.2.2.1,e510.2.2.2.2.2)]:yL Claim)
    some (.inl (s.1,s.2.1,s.2.2.1,wi (s.2.2.2.1+1),y513))
   else
   none
  else
  some (.inl (s.1,s.2.1,s.2.2.1,wi (s.2.2.2.1+1),s.2.2.2.2))
 else
 some (.inr s.2.2.2.2)
def Zjr:Lp:=⟨[(1,.v yI),(4,.own 0 Zy),(7,.v (.sl Zy)),(8,.v yI),(9,.v yI)],[.log Zy 77],[yI,(.sl Zy),yI,yI,(.sl Zy)],[⟨.exit 0,[(4,.own 0 Zy)],[.log Zy 77],[(.sl Zy)]⟩],Zc (ZhJ yD) yD⟩
def ZKP:HI:={ own:=[4,20,23,25],still:=[4,13,14,17]}
theorem Zna:Zjr.okA yb 16 0:=ZN ZKP [] [Zjq,Zdn] ⟨ZhI,Zgu,ytt⟩
def Zyb(F:Nat)(a0:(yL Claim))(a1:Int):yO ((yL Claim)):=
 (Zc (ZhJ F) F (a1,a0,(a0.length:Int),0,[])).bind λo514=>
 some o514
def Zey(F:Nat):Fs yb:=⟨16,[.v (.sl Zy),.v yI],[],[(.sl Zy),yI],(zN (.sl Zy)),λx=>Zyb F x.1 x.2⟩
def ZvI:Fs yb:=Zey yD
theorem ZsE:ZvI.Ok:=fnO ZKP [(0,Zjr)] [] trivial ⟨Zna,ytt⟩
def Zeb(F:Nat)(a0:(yL yB)):yO (yU):=
 (Xz F a0).bind λo515=>
 (ZL F o515).bind λo516=>
 some o516
def Zez(F:Nat):Fs yb:=⟨21,[.v (.arr 32 .u8)],[],[(.arr 32 .u8)],(zN .u64),λx=>Zeb F x⟩
def ZlR:Fs yb:=Zez yD
theorem Zjs:ZlR.Ok:=fnO { still:=[2,3,4]} [] [VO,YL] ⟨Qb,Ym,ytt⟩
def Xr(F:Nat)(a0:yU):yO (Bool):=
 some (decide (a0 < 2305843009213688669))
def Zdq(F:Nat):Fs yb:=⟨69,[.v .u64],[],[.u64],(zN .bool),λx=>Xr F x⟩
def Qe:Fs yb:=Zdq yD
theorem VE:Qe.Ok:=fnO { still:=[2]} [] [] trivial
def ZfP(F:Nat)(a0:yU):yO (Bool):=
 if(a0==0)=true then
  some true
 else
 (Xr F a0).bind λo517=>
 some (!o517)
def ZvJ(F:Nat):Fs yb:=⟨109,[.v .u64],[],[.u64],(zN .bool),λx=>ZfP F x⟩
def Zn2:Fs yb:=ZvJ yD
theorem ZvK:Zn2.Ok:=fnO { still:=[2,6]} [] [Qe] ⟨VE,ytt⟩
def Ziu(F:Nat)(a0:yU):yO (Bool):=
 (Xr F a0).bind λo518=>
 if o518=true then
  some (a0 !=0)
 else
 some false
def Zyc(F:Nat):Fs yb:=⟨149,[.v .u64],[],[.u64],(zN .bool),λx=>Ziu F x⟩
def Zri:Fs yb:=Zyc yD
theorem Zyd:Zri.Ok:=fnO { still:=[2,3]} [] [Qe] ⟨VE,ytt⟩
def VF(F:Nat)(s:(yU×Int×Int×(yL yB))):yO ((yU×Int×Int×(yL yB))⊕(yL yB)):=
 if(decide (s.2.2.1 < s.2.1))=true then
  if(decide (0<=wi (56 - (wi (8*s.2.2.1)))))=true then
   let y519:yU:=Zv s.1 (min (wi (56 - (wi (8*s.2.2.1)))).toNat 64)
   if(inB s.2.2.1 8)=true then
    (s.2.2.2[(0+s.2.2.1.toNat)]?).bind λe520=>
    let y521:(yL yB):=s.2.2.2.set (0+s.2.2.1.toNat) (w8 (y519.toNat:Int))
    some (.inl (s.1,s.2.1,wi (s.2.2.1+1),y521))
   else
   none
  else
  none
 else
 some (.inr s.2.2.2)
def Zjt:Lp:=⟨[(0,.v .u64),(3,.view 0 [] 1 0 8),(7,.v yI),(8,.v yI)],[.var (.v (.arr 8 .u8)) true],[.u64,yI,yI,(.arr 8 .u8)],[⟨.exit 0,[(3,.view 0 [] 1 0 8)],[.var (.v (.arr 8 .u8)) true],[(.arr 8 .u8)]⟩],Zc (VF yD) yD⟩
theorem Znb:Zjt.okA yb 151 0:=ZN { still:=[2]} [] [] trivial
def QO(F:Nat)(a0:yU):yO ((yL yB)):=
 (Zc (VF F) F (a0,8,0,[0,0,0,0,0,0,0,0])).bind λo522=>
 some ((o522.drop 0).take 8)
def ZsF(F:Nat):Fs yb:=⟨151,[.v .u64],[],[.u64],(zN (.sl .u8)),λx=>QO F x⟩
def ZfQ:Fs yb:=ZsF yD
theorem Zju:ZfQ.Ok:=fnO { still:=[2]} [(0,Zjt)] [] trivial ⟨Znb,ytt⟩
def ZIr:ByteArray:=⟨#[115,105,103]⟩
def W2(F:Nat)(a0:yU)(a1:yU)(a2:(yL yB)):yO (yU):=
 (QO F a0).bind λo523=>
 (QO F a1).bind λo524=>
 (XX F ZIr [o523,o524,a2]).bind λo525=>
 (Xz F o525).bind λo526=>
 some o526
def ZlS(F:Nat):Fs yb:=⟨161,[.v .u64,.v .u64,.v (.arr 32 .u8)],[],[.u64,.u64,(.arr 32 .u8)],(zN .u64),λx=>W2 F x.1 x.2.1 x.2.2⟩
def ZaW:Fs yb:=ZlS yD
def ZLj:HI:={ still:=[6,7,9,12,13],frz:=[11]}
theorem Zec:ZaW.Ok:=fnO ZLj [] [ZfQ,Vw,VO] ⟨Zju,Vx,Qb,ytt⟩
def ZaX(F:Nat)(a0:yU)(a1:yU):yO (yU):=
 (Zbq F a0 a1).bind λo527=>
 (Xx F o527.1 o527.2 2305843009213688669).bind λo528=>
 some o528
def Zkh(F:Nat):Fs yb:=⟨184,[.v .u64,.v .u64],[],[.u64,.u64],(zN .u64),λx=>ZaX F x.1 x.2⟩
def Zed:Fs yb:=Zkh yD
theorem Zki:Zed.Ok:=fnO { still:=[4,8,9,13,14]} [] [ZfC,Zb8] ⟨ZiY,Zek,ytt⟩
def ZfR(F:Nat)(a0:yU)(a1:yU):yO (yU):=
 (ZaV F a0).bind λo529=>
 (ZaV F a1).bind λo530=>
 (ZaX F o529 o530).bind λo531=>
 some o531
def ZvL(F:Nat):Fs yb:=⟨174,[.v .u64,.v .u64],[],[.u64,.u64],(zN .u64),λx=>ZfR F x.1 x.2⟩
def Zn3:Fs yb:=ZvL yD
theorem ZvM:Zn3.Ok:=fnO { still:=[4,5,6,7,8]} [] [Zkg,Zed] ⟨Zn1,Zki,ytt⟩
def ZfS(F:Nat)(a0:yU)(a1:yU)(a2:(yL yB))(a3:yU):yO (Sig):=
 (ZL F a1).bind λo532=>
 (ZaQ F o532 a3).bind λo533=>
 (ZL F a0).bind λo534=>
 (W2 F o533 o534 a2).bind λo535=>
 (ZfR F o535 a0).bind λo536=>
 (Zdo F a1 o536).bind λo537=>
 some (o533,o537)
def Zrj(F:Nat):Fs yb:=⟨150,[.v .u64,.v .u64,.v (.arr 32 .u8),.v .u64],[],[.u64,.u64,(.arr 32 .u8),.u64],(zN QS),λx=>ZfS F x.1 x.2.1 x.2.2.1 x.2.2.2⟩
def Zjv:Fs yb:=Zrj yD
def ZLk:HI:={ still:=[9,10,11,14,16,17,18,19,20,21,22]}
theorem Zrk:Zjv.Ok:=fnO ZLk [] [YL,ZdY,ZaW,Zn3,ZhG] ⟨Ym,ZfG,Zec,ZvM,ZlM,ytt⟩
def ZIs:ByteArray:=⟨#[110,111,110,99,101]⟩
def ZfT(F:Nat)(a0:yU)(a1:(yL yB)):yO (Sig):=
 (Ziu F a0).bind λo538=>
 if(!o538)=true then
  some (0,0)
 else
 (QO F a0).bind λo539=>
 (XX F ZIs [o539,a1]).bind λo540=>
 (Xz F o540).bind λo541=>
 (ZfS F a0 o541 a1 1).bind λo542=>
 some o542
def ZvN(F:Nat):Fs yb:=⟨112,[.v .u64,.v (.arr 32 .u8)],[],[.u64,(.arr 32 .u8)],(zN QS),λx=>ZfT F x.1 x.2⟩
def Zn4:Fs yb:=ZvN yD
def ZLl:HI:={ still:=[5,9,10,13,14,15,16],frz:=[12]}
theorem ZvO:Zn4.Ok:=fnO ZLl [] [Zri,ZfQ,Vw,VO,Zjv] ⟨Zyd,Zju,Vx,Qb,Zrk,ytt⟩
def Ze7(F:Nat)(a0:(yL Sig)):yO ((yL Sig)):=
 if(apB 0 a0.length 16)=true then
  some a0
 else
 none
def ZAj(F:Nat):Fs yb:=⟨154,[.sl true QS],[],[(.sl QS)],(zN (.sl QS)),λx=>Ze7 F x⟩
def ZC3:Fs yb:=ZAj yD
theorem ZAk:ZC3.Ok:=fnO { own:=[5,7],still:=[2]} [] [] trivial
def Zn5(F:Nat):yO ((yL Sig)):=
 some []
def ZsG(F:Nat):Fs yb:=⟨154,[.nil QS],[],[],(zN (.sl QS)),λx=>Zn5 F⟩
def ZvP:Fs yb:=ZsG yD
theorem ZsH:ZvP.Ok:=fnO { own:=[5,7],still:=[2]} [] [] trivial
def ZvQ(F:Nat):Fs yb:=⟨154,[.v (.sl QS)],[],[(.sl QS)],(zN (.sl QS)),λx=>Ze7 F x⟩
def Zn6:Fs yb:=ZvQ yD
theorem ZvR:Zn6.Ok:=Zvh (t:=QS) (xs:=(zN (.sl QS))) (MA:=λ(x:(yL Sig))=>Ze7 yD x) (MB:=λ_=>Zn5 yD) ZAk ZsH rfl
def ZfU(F:Nat)(a0:(yL In)):yO (((yL Unit)×(yL In))):=
 if(apB 0 a0.length 80)=true then
  some ([()],a0)
 else
 none
def ZvS(F:Nat):Fs yb:=⟨152,[.sl true yIn],[],[(.sl yIn)],[⟨.ret,[(0,.rw 0)],[.row yIn true 90],[(.sl (.st [])),(.sl yIn)]⟩],λx=>ZfU F x⟩
def Zye:Fs yb:=ZvS yD
theorem ZvT:Zye.Ok:=fnO { own:=[5,7],rowt:=[2,5,7]} [] [] trivial
def ZfV(F:Nat)(a0:(yL In)):yO (((yL Unit)×(yL In))):=if a0.isEmpty=true then none else ZfU F a0
def Zrl(F:Nat):Fs yb:=⟨152,[.v (.sl yIn)],[],[(.sl yIn)],[⟨.ret,[(0,.rw 0)],[.row yIn true 90],[(.sl (.st [])),(.sl yIn)]⟩],λx=>ZfV F x⟩
def Zjw:Fs yb:=Zrl yD
theorem Zrm:Zjw.Ok:=Zvo (t:=yIn) (xs:=[⟨.ret,[(0,.rw 0)],[.row yIn true 90],[(.sl (.st [])),(.sl yIn)]⟩]) (MA:=λ(x:(yL In))=>ZfU yD x) ZvT rfl (λ_ _=>rfl)
def Zee(F:Nat)(a0:(yL Out)):yO (((yL Unit)×(yL Out))):=
 if(apB 0 a0.length 32)=true then
  some ([()],a0)
 else
 none
def ZsI(F:Nat):Fs yb:=⟨153,[.sl true Yc],[],[(.sl Yc)],[⟨.ret,[(0,.rw 0)],[.row Yc true 75],[(.sl (.st [])),(.sl Yc)]⟩],λx=>Zee F x⟩
def ZvU:Fs yb:=ZsI yD
theorem ZsJ:ZvU.Ok:=fnO { own:=[5,7],rowt:=[2,5,7]} [] [] trivial
def ZeA(F:Nat)(a0:(yL Out)):yO (((yL Unit)×(yL Out))):=if a0.isEmpty=true then none else Zee F a0
def ZoH(F:Nat):Fs yb:=⟨153,[.v (.sl Yc)],[],[(.sl Yc)],[⟨.ret,[(0,.rw 0)],[.row Yc true 75],[(.sl (.st [])),(.sl Yc)]⟩],λx=>ZeA F x⟩
def ZhK:Fs yb:=ZoH yD
theorem ZoI:ZhK.Ok:=Zvo (t:=Yc) (xs:=[⟨.ret,[(0,.rw 0)],[.row Yc true 75],[(.sl (.st [])),(.sl Yc)]⟩]) (MA:=λ(x:(yL Out))=>Zee yD x) ZsJ rfl (λ_ _=>rfl)
def ZHJ:HI:={ still:=[8,11,30,48,61,69],rowt:=[5,9,12,22,49,55,67]}
abbrev dT4:Type:=(Int×Int×Int×Int×Int×Int×Tx×(yL Unit)×(yL In)×(yL Unit)×(yL Out)×(yL Unit)×(yL Branch))
abbrev dT5:Type:=(Int×Int×Int×Int×Tx×(yL Unit)×(yL In)×(yL Unit)×(yL Out)×(yL Unit)×(yL Branch))
abbrev tL5:yL Ty:=[yI,yI,yI,yI,yTx,(.sl (.st [])),(.sl yIn),(.sl (.st [])),(.sl Yc),(.sl (.st [])),(.sl Zo)]
abbrev tL6:yL Ty:=[yI,yI,yI,yI,yI,yI,yTx,(.sl (.st [])),(.sl yIn),(.sl (.st [])),(.sl Yc),(.sl (.st [])),(.sl Zo)]
def Y5(F:Nat)(s:((yL yU)×Int×Int)):yO (((yL yU)×Int×Int)⊕(Int⊕Unit)):=
 if(decide (s.2.2 < s.2.1))=true then
  (idx s.1 s.2.2).bind λe579=>
  (ZfP F e579).bind λo580=>
  if o580=true then
   some (.inr (.inl s.2.2))
  else
  some (.inl (s.1,s.2.1,wi (s.2.2+1)))
 else
 some (.inr (.inr ()))
def Zef:Lp:=⟨[(0,.v (.sl .u64)),(1,.fn 109 []),(7,.v yI),(8,.v yI)],[],[(.sl .u64),yI,yI],[⟨.ret,[(4,.v yI)],[],[yI]⟩,⟨.exit 0,[],[],[]⟩],Zc (Y5 yD) yD⟩
theorem ZhL:Zef.okA yb 148 0:=ZN { still:=[4,15]} [] [Zn2] ⟨ZvK,ytt⟩
def ZbN(F:Nat)(a0:(yL yU)):yO (Int):=
 (Zc (Y5 F) F (a0,(a0.length:Int),0)).bind λo581=>
 match o581 with
 |.inl o582=>
  some o582
 |.inr o583=>
  some (-1)
def ZlT(F:Nat):Fs yb:=⟨148,[.v (.sl .u64),.fn 109 []],[],[(.sl .u64)],(zN yI),λx=>ZbN F x⟩
def Ze8:Fs yb:=ZlT yD
theorem ZlU:Ze8.Ok:=fnO { still:=[4,15]} [(0,Zef)] [] trivial ⟨ZhL,ytt⟩
def Zeg(F:Nat)(a0:(yL yU)):yO (Bool):=
 (ZbN F a0).bind λo584=>
 some (decide (o584 >= 0))
def ZsK(F:Nat):Fs yb:=⟨111,[.v (.sl .u64),.fn 109 []],[],[(.sl .u64)],(zN .bool),λx=>Zeg F x⟩
def ZlV:Fs yb:=ZsK yD
theorem ZsL:ZlV.Ok:=fnO { still:=[4,5,6]} [] [Ze8] ⟨ZlU,ytt⟩
abbrev tL7:yL Ty:=[yI,(.sl .u64),yI,yI,yTx,yTx,yI,.u64,(.sl QS),(.arr 32 .u8)]
abbrev zS:=Int×Tx×(yL Unit)×(yL In)×(yL Unit)×(yL Out)
def Ws(F:Nat)(s:(Int×Int×zS)):yO ((Int×Int×zS)⊕(zS)):=
 if(decide (s.2.1 < s.1))=true then
  if(inB s.2.1 s.2.2.2.2.2.1.length)=true then
   (s.2.2.2.2.2.1[s.2.1.toNat]?).bind λe592=>
   (Ze7 F e592.2.2.1).bind λo593=>
   if(inB s.2.1 s.2.2.2.2.2.1.length)=true then
    (s.2.2.2.2.2.1[s.2.1.toNat]?).bind λe594=>
    let y595:(yL In):=s.2.2.2.2.2.1.set s.2.1.toNat (e594.1,(e594.2.1,o593,e594.2.2.2))
    some (.inl (s.1,wi (s.2.1+1),s.2.2.1,s.2.2.2.1,s.2.2.2.2.1,y595,s.2.2.2.2.2.2.1,s.2.2.2.2.2.2.2))
   else
   none
  else
  none
 else
 some (.inr (s.2.2.1,s.2.2.2.1,s.2.2.2.2.1,s.2.2.2.2.2.1,s.2.2.2.2.2.2.1,s.2.2.2.2.2.2.2))
abbrev zI:List ESh:=[.var (.agg [.rw 2,.rw 3,.v yI]) true,.var (.v yTx) true,.row yIn true 90,.row Yc true 75]
def Zgw:Lp:=⟨[(1,.ref 0 []),(2,.ref 1 []),(17,.v yI),(18,.v yI)],zI,[yI,yI,yI,yTx,(.sl (.st [])),(.sl yIn),(.sl (.st [])),(.sl Yc)],[⟨.exit 0,[(1,.ref 0 []),(2,.ref 1 [])],zI,[yI,yTx,(.sl (.st [])),(.sl yIn),(.sl (.st [])),(.sl Yc)]⟩],Zc (Ws yD) yD⟩
theorem Zkj:Zgw.okA yb 113 0:=ZN ZHJ [] [Zn6] ⟨ZvR,ytt⟩
def Wt(F:Nat)(s:dT4):yO (dT4⊕dT5):=
 if(decide (s.2.2.2.2.1 < s.2.2.2.1))=true then
  if(inB s.2.2.2.2.1 s.2.2.2.2.2.2.2.2.2.2.2.2.length)=true then
   (s.2.2.2.2.2.2.2.2.2.2.2.2[s.2.2.2.2.1.toNat]?).bind λe599=>
   (Xj F e599.1).bind λo600=>
   if(inB s.2.2.2.2.1 s.2.2.2.2.2.2.2.2.2.2.2.2.length)=true then
    (s.2.2.2.2.2.2.2.2.2.2.2.2[s.2.2.2.2.1.toNat]?).bind λe601=>
    let y602:(yL Branch):=s.2.2.2.2.2.2.2.2.2.2.2.2.set s.2.2.2.2.1.toNat (o600,e601.2.1,e601.2.2.1,e601.2.2.2)
    some (.inl (s.1,s.2.1,s.2.2.1,s.2.2.2.1,wi (s.2.2.2.2.1+1),s.2.2.2.2.2.1,s.2.2.2.2.2.2.1,s.2.2.2.2.2.2.2.1,s.2.2.2.2.2.2.2.2.1,s.2.2.2.2.2.2.2.2.2.1,s.2.2.2.2.2.2.2.2.2.2.1,s.2.2.2.2.2.2.2.2.2.2.2.1,y602))
   else
   none
  else
  none
 else
 some (.inr (s.1,s.2.1,s.2.2.1,s.2.2.2.2.2.1,s.2.2.2.2.2.2.1,s.2.2.2.2.2.2.2.1,s.2.2.2.2.2.2.2.2.1,s.2.2.2.2.2.2.2.2.2.1,s.2.2.2.2.2.2.2.2.2.2.1,s.2.2.2.2.2.2.2.2.2.2.2.1,s.2.2.2.2.2.2.2.2.2.2.2.2))
abbrev zF:List ESh:=[.var (.agg [.rw 2,.rw 3,.v yI]) true,.var (.v yTx) true,.row yIn true 90,.row Yc true 75,.row Zo true 113]
def Zgx:Lp:=⟨[(1,.ref 0 []),(2,.ref 1 []),(4,.v yI),(5,.rw 4),(38,.v yI),(39,.v yI),(51,.v yI),(52,.v yI)],zF,tL6,[⟨.exit 4,[(1,.ref 0 []),(2,.ref 1 []),(4,.v yI),(5,.rw 4),(38,.v yI),(39,.v yI)],zF,tL5⟩],Zc (Wt yD) yD⟩
theorem Zkk:Zgx.okA yb 113 2:=ZN ZHJ [] [Qa] ⟨Zab,ytt⟩
def Wu(F:Nat)(s:(Int×Int×zS)):yO ((Int×Int×zS)⊕(zS)):=
 if(decide (s.2.1 < s.1))=true then
  if(inB s.2.1 s.2.2.2.2.2.2.2.length)=true then
   (s.2.2.2.2.2.2.2[s.2.1.toNat]?).bind λe597=>
   (XG F e597.2).bind λo598=>
   (Zc (Wt F) F (s.2.1,s.1,s.2.1,(o598.2.length:Int),0,s.2.2.1,s.2.2.2.1,s.2.2.2.2.1,s.2.2.2.2.2.1,s.2.2.2.2.2.2.1,s.2.2.2.2.2.2.2,o598.1,o598.2)).bind λo603=>
   if(inB o603.1 o603.2.2.2.2.2.2.2.2.1.length)=true then
    (o603.2.2.2.2.2.2.2.2.1[o603.1.toNat]?).bind λe604=>
    let y605:(yL Out):=o603.2.2.2.2.2.2.2.2.1.set o603.1.toNat (e604.1,o603.2.2.2.2.2.2.2.2.2.2)
    some (.inl (o603.2.1,wi (o603.2.2.1+1),o603.2.2.2.1,o603.2.2.2.2.1,o603.2.2.2.2.2.1,o603.2.2.2.2.2.2.1,o603.2.2.2.2.2.2.2.1,y605))
   else
   none
  else
  none
 else
 some (.inr (s.2.2.1,s.2.2.2.1,s.2.2.2.2.1,s.2.2.2.2.2.1,s.2.2.2.2.2.2.1,s.2.2.2.2.2.2.2))
def Zgy:Lp:=⟨[(1,.ref 0 []),(2,.ref 1 []),(38,.v yI),(39,.v yI)],zI,[yI,yI,yI,yTx,(.sl (.st [])),(.sl yIn),(.sl (.st [])),(.sl Yc)],[⟨.exit 2,[(1,.ref 0 []),(2,.ref 1 [])],zI,[yI,yTx,(.sl (.st [])),(.sl yIn),(.sl (.st [])),(.sl Yc)]⟩],Zc (Wu yD) yD⟩
theorem Zkl:Zgy.okA yb 113 1:=ZN ZHJ [(2,Zgx)] [Zd9] ⟨Zdk,ytt⟩ ⟨Zkk,ytt⟩
def Qf(F:Nat)(a0:Tx):yO ((Int×(yL Unit)×(yL In)×(yL Unit)×(yL Out))):=
 (ZfV F a0.1).bind λo590=>
 (ZeA F a0.2.1).bind λo591=>
 (Zc (Ws F) F ((o590.2.length:Int),0,a0.2.2,([],[],0),o590.1,o590.2,o591.1,o591.2)).bind λo596=>
 (Zc (Wu F) F ((o596.2.2.2.2.2.length:Int),0,o596.1,o596.2.1,o596.2.2.1,o596.2.2.2.1,o596.2.2.2.2.1,o596.2.2.2.2.2)).bind λo606=>
 some (o606.1,o606.2.2.1,o606.2.2.2.1,o606.2.2.2.2.1,o606.2.2.2.2.2)
def ZoJ(F:Nat):Fs yb:=⟨113,[.v yTx],[],[yTx],[⟨.ret,[(0,.agg [.rw 0,.rw 1,.v yI])],[.row yIn true 90,.row Yc true 75],[yI,(.sl (.st [])),(.sl yIn),(.sl (.st [])),(.sl Yc)]⟩],λx=>Qf F x⟩
def ZhM:Fs yb:=ZoJ yD
theorem ZoK:ZhM.Ok:=fnO ZHJ [(0,Zgw),(1,Zgy)] [Zjw,ZhK] ⟨Zrm,ZoI,ytt⟩ ⟨Zkj,Zkl,ytt⟩
def QP(F:Nat)(s:(Int×(yL yU)×Int×Int×Tx×Tx×Int×yU×(yL Sig)×(yL yB))):yO ((Int×(yL yU)×Int×Int×Tx×Tx×Int×yU×(yL Sig)×(yL yB))⊕(Int×Tx×Tx×Int×yU×(yL Sig)×(yL yB))):=
 if(decide (s.2.2.2.1 < s.2.2.1))=true then
  (idx s.2.1 s.2.2.2.1).bind λe624=>
  (ZfT F e624 s.2.2.2.2.2.2.2.2.2).bind λo625=>
  if(apB s.2.2.2.2.2.2.2.2.1.length 1 16)=true then
   some (.inl (s.1,s.2.1,s.2.2.1,wi (s.2.2.2.1+1),s.2.2.2.2.1,s.2.2.2.2.2.1,s.2.2.2.2.2.2.1,s.2.2.2.2.2.2.2.1,s.2.2.2.2.2.2.2.2.1++([o625]:yL Sig),s.2.2.2.2.2.2.2.2.2))
  else
  none
 else
 some (.inr (s.1,s.2.2.2.2.1,s.2.2.2.2.2.1,s.2.2.2.2.2.2.1,s.2.2.2.2.2.2.2.1,s.2.2.2.2.2.2.2.2.1,s.2.2.2.2.2.2.2.2.2))
abbrev zE:List ESh:=[.var (.v yTx) true,.var (.v yTx) true,.var (.agg [.v yI,.own 3 QS,.v .u64]) true,.log QS 150,.var (.v (.arr 32 .u8)) true]
def Zrn:Lp:=⟨[(1,.v yI),(5,.ref 0 []),(10,.ref 1 []),(13,.ref 2 []),(14,.ref 4 []),(52,.v (.sl .u64)),(53,.v yI),(54,.v yI)],zE,tL7,[⟨.exit 0,[(1,.v yI),(5,.ref 0 []),(10,.ref 1 []),(13,.ref 2 [])],zE,[yI,yTx,yTx,yI,.u64,(.sl QS),(.arr 32 .u8)]⟩],Zc (QP yD) yD⟩
def ZKQ:HI:={ own:=[59,64],still:=[11,20,35,45,46,50,60,61,67],rowt:=[70],deep:=[49,53],gst:=[(13,[([1],QS,150)])]}
theorem ZsM:Zrn.okA yb 70 0:=ZN ZKQ [] [Zn4] ⟨ZvO,ytt⟩
def ZlW(F:Nat)(a0:Tx)(a1:Int)(a2:Int)(a3:(yL yU))(a4:yU):yO ((Tx×Int)):=
 (Y4 F a0).bind λo620=>
 if(!o620)=true then
  some (([],[],0),1)
 else
 if(decide (a1 < 0))=true then
  some (([],[],0),1)
 else
 if(decide (a1 >= (a0.1.length:Int)))=true then
  some (([],[],0),1)
 else
 (WE F (a2,[],a4)).bind λo621=>
 if(!o621)=true then
  some (([],[],0),1)
 else
 if(decide ((a3.length:Int) > 12))=true then
  some (([],[],0),1)
 else
 (Zeg F a3).bind λo622=>
 if o622=true then
  some (([],[],0),1)
 else
 (QA F a0).bind λo623=>
 (Zc (QP F) F (a1,a3,(a3.length:Int),0,a0,([],[],0),a2,a4,[],o623)).bind λo626=>
 (Qf F o626.2.1).bind λo627=>
 if(inB o626.1 o627.2.2.1.length)=true then
  (o627.2.2.1[o626.1.toNat]?).bind λe628=>
  let y629:(yL In):=o627.2.2.1.set o626.1.toNat (e628.1,(o626.2.2.2.1,o626.2.2.2.2.2.1,o626.2.2.2.2.1))
  some ((y629,o627.2.2.2.2,o627.1),0)
 else
 none
def Zkm(F:Nat):Fs yb:=⟨70,[.v yTx,.v yI,.v yI,.v (.sl .u64),.v .u64],[],[yTx,yI,yI,(.sl .u64),.u64],[⟨.ret,[(0,.tup [.v yTx,.v yI])],[],[yTx,yI]⟩],λx=>ZlW F x.1 x.2.1 x.2.2.1 x.2.2.2.1 x.2.2.2.2⟩
def ZtN:Fs yb:=Zkm yD
theorem Zro:ZtN.Ok:=ZBu (fi:={ hi:=ZKQ,lp:=[(0,Zrn)]}) (specs:={ l:=[ZfO,ZfN,ZlV,Zo1,ZhM]}) (okS ⟨ZhA,Zjj,ZsL,Zrd,ZoK,ytt⟩) ⟨ZsM,ytt⟩
def ZeB(F:Nat)(a0:In)(s0:Claim):yO ((Bool×Claim)):=
 some (decide (a0.1=s0.1),s0)
def ZbO(F:Nat):Fs yb:=⟨68,[.v yIn,.ref 0 []],[.var (.v Zy) true],[yIn,Zy],[⟨.ret,[(0,.v .bool)],[.var (.v Zy) true],[.bool,Zy]⟩],λx=>ZeB F x.1 x.2⟩
def ZhN:Fs yb:=ZbO yD
theorem Zgz:ZhN.Ok:=fnO { still:=[3]} [] [] trivial
def Wv(F:Nat)(s:((yL In)×Int×Int×Claim)):yO (((yL In)×Int×Int×Claim)⊕((Int×Claim)⊕Claim)):=
 if(decide (s.2.2.1 < s.2.1))=true then
  (idx s.1 s.2.2.1).bind λe633=>
  (ZeB F e633 s.2.2.2).bind λo634=>
  if o634.1=true then
   some (.inr (.inl (s.2.2.1,o634.2)))
  else
  some (.inl (s.1,s.2.1,wi (s.2.2.1+1),o634.2))
 else
 some (.inr (.inr s.2.2.2))
def Zjx:Lp:=⟨[(0,.v (.sl yIn)),(1,.fn 68 [.ref 0 []]),(7,.v yI),(8,.v yI)],[.var (.v Zy) true],[(.sl yIn),yI,yI,Zy],[⟨.ret,[(4,.v yI)],[.var (.v Zy) true],[yI,Zy]⟩,⟨.exit 0,[],[.var (.v Zy) true],[Zy]⟩],Zc (Wv yD) yD⟩
theorem Znc:Zjx.okA yb 108 0:=ZN { still:=[4,15]} [] [ZhN] ⟨Zgz,ytt⟩
def ZhO(F:Nat)(a0:(yL In))(s0:Claim):yO ((Int×Claim)):=
 (Zc (Wv F) F (a0,(a0.length:Int),0,s0)).bind λo635=>
 match o635 with
 |.inl o636=>
  some (o636.1,o636.2)
 |.inr o637=>
  some ((-1),o637)
def ZeC(F:Nat):Fs yb:=⟨108,[.v (.sl yIn),.fn 68 [.ref 0 []]],[.var (.v Zy) true],[(.sl yIn),Zy],[⟨.ret,[(0,.v yI)],[.var (.v Zy) true],[yI,Zy]⟩],λx=>ZhO F x.1 x.2⟩
def ZlX:Fs yb:=ZeC yD
theorem Zjy:ZlX.Ok:=fnO { still:=[4,15]} [(0,Zjx)] [] trivial ⟨Znc,ytt⟩
def Zdr(F:Nat)(a0:(yL In))(s0:Claim):yO ((Bool×Claim)):=
 (ZhO F a0 s0).bind λo638=>
 some (decide (o638.1 >= 0),o638.2)
def ZfW(F:Nat):Fs yb:=⟨67,[.v (.sl yIn),.fn 68 [.ref 0 []]],[.var (.v Zy) true],[(.sl yIn),Zy],[⟨.ret,[(0,.v .bool)],[.var (.v Zy) true],[.bool,Zy]⟩],λx=>Zdr F x.1 x.2⟩
def Zn7:Fs yb:=ZfW yD
theorem ZlY:Zn7.Ok:=fnO { still:=[4,5,6]} [] [ZlX] ⟨Zjy,ytt⟩
abbrev dT6:Type:=((yL Claim)×(yL yU)×Int×Int×(yL Claim)×Int×Int×Z3×Tx×Int×(yL In)×(yL Out))
def XP(F:Nat)(s:dT6):yO (dT6⊕((Int×Z3×Tx×Int×(yL In)×(yL Out))⊕((yL Claim)×(yL yU)×Int×Int×Z3×Tx×Int×(yL In)×(yL Out)))):=
 if(decide (s.2.2.2.2.2.2.1 < s.2.2.2.2.2.1))=true then
  (idx s.2.2.2.2.1 s.2.2.2.2.2.2.1).bind λe631=>
  (Vt F s.2.2.2.1 e631.2.1.1).bind λo632=>
  (Zdr F s.2.2.2.2.2.2.2.2.2.2.1 e631).bind λo639=>
  if(!o632.2)=true then
   some (.inr (.inl (1,s.2.2.2.2.2.2.2.1,([],[],0),s.2.2.2.2.2.2.2.2.2.1,s.2.2.2.2.2.2.2.2.2.2.1,s.2.2.2.2.2.2.2.2.2.2.2)))
  else
  if o639.1=true then
   some (.inr (.inl (1,s.2.2.2.2.2.2.2.1,([],[],0),s.2.2.2.2.2.2.2.2.2.1,s.2.2.2.2.2.2.2.2.2.2.1,s.2.2.2.2.2.2.2.2.2.2.2)))
  else
  (idx s.2.1 s.2.2.2.2.2.2.1).bind λe640=>
  if(e640==0)=true then
   some (.inr (.inl (1,s.2.2.2.2.2.2.2.1,([],[],0),s.2.2.2.2.2.2.2.2.2.1,s.2.2.2.2.2.2.2.2.2.2.1,s.2.2.2.2.2.2.2.2.2.2.2)))
  else
  (idx s.2.1 s.2.2.2.2.2.2.1).bind λe641=>
  (Xr F e641).bind λo642=>
  if(!o642)=true then
   some (.inr (.inl (1,s.2.2.2.2.2.2.2.1,([],[],0),s.2.2.2.2.2.2.2.2.2.1,s.2.2.2.2.2.2.2.2.2.2.1,s.2.2.2.2.2.2.2.2.2.2.2)))
  else
  if(apB s.2.2.2.2.2.2.2.2.2.2.1.length 1 80)=true then
   let y643:(yL In):=s.2.2.2.2.2.2.2.2.2.2.1++([(o639.2.1,(0,[],0))]:yL In)
   some (.inl (s.1,s.2.1,s.2.2.1,o632.1,s.2.2.2.2.1,s.2.2.2.2.2.1,wi (s.2.2.2.2.2.2.1+1),s.2.2.2.2.2.2.2.1,s.2.2.2.2.2.2.2.2.1,s.2.2.2.2.2.2.2.2.2.1,y643,s.2.2.2.2.2.2.2.2.2.2.2))
  else
  none
 else
 some (.inr (.inr (s.1,s.2.1,s.2.2.1,s.2.2.2.1,s.2.2.2.2.2.2.2.1,s.2.2.2.2.2.2.2.2.1,s.2.2.2.2.2.2.2.2.2.1,s.2.2.2.2.2.2.2.2.2.2.1,s.2.2.2.2.2.2.2.2.2.2.2)))
abbrev tL8:yL Ty:=[(.sl Zy),(.sl .u64),yI,yI,Z0,yTx,yI,(.sl yIn),(.sl Yc)]
abbrev tL9:yL Ty:=[(.sl Zy),(.sl .u64),yI,yI,(.sl Zy),yI,yI,Z0,yTx,yI,(.sl yIn),(.sl Yc)]
abbrev zD:List ESh:=[.var (.v Z0) true,.var (.v yTx) true,.var (.agg [.own 3 yIn,.own 4 Yc,.v yI]) true,.log yIn 90,.log Yc 75]
def Zjz:Lp:=⟨[(0,.v (.sl Zy)),(1,.v (.sl .u64)),(3,.v yI),(6,.ref 0 []),(8,.ref 1 []),(10,.ref 2 []),(11,.v yI),(41,.v (.sl Zy)),(42,.v yI),(43,.v yI)],zD,tL9,[⟨.ret,[(8,.ref 1 []),(9,.v yI)],zD,[yI,Z0,yTx,yI,(.sl yIn),(.sl Yc)]⟩,⟨.exit 0,[(0,.v (.sl Zy)),(1,.v (.sl .u64)),(3,.v yI),(6,.ref 0 []),(8,.ref 1 []),(10,.ref 2 []),(11,.v yI)],zD,tL8⟩],Zc (XP yD) yD⟩
def ZJV:HI:={ own:=[83,88],still:=[9,36,49,52,57,58,76,114,115,117,122,124],ghost:=[(10,[([0],yIn,90),([1],Yc,75)])]}
theorem Znd:Zjz.okA yb 23 0:=ZN ZJV [] [Zip,Zn7,Qe] ⟨ZfD,ZlY,VE,ytt⟩
def Ww(F:Nat)(s:((yL yU)×(yL Claim)×Int×Int×Z3×Tx×Tx×(yL In)×(yL Out))):yO (((yL yU)×(yL Claim)×Int×Int×Z3×Tx×Tx×(yL In)×(yL Out))⊕((Int×Z3×Tx×Tx×(yL In)×(yL Out))⊕(Z3×Tx×Tx×(yL In)×(yL Out)))):=
 if(decide (s.2.2.2.1 < s.2.2.1))=true then
  (idx s.2.1 s.2.2.2.1).bind λe647=>
  (idx s.1 s.2.2.2.1).bind λe648=>
  (ZlW F s.2.2.2.2.2.2.1 s.2.2.2.1 e647.2.2.1 [e648] e647.2.2.2.1).bind λo649=>
  if(o649.2 !=0)=true then
   some (.inr (.inl (o649.2,s.2.2.2.2.1,([],[],0),o649.1,s.2.2.2.2.2.2.2.1,s.2.2.2.2.2.2.2.2)))
  else
  some (.inl (s.1,s.2.1,s.2.2.1,wi (s.2.2.2.1+1),s.2.2.2.2.1,s.2.2.2.2.2.1,o649.1,s.2.2.2.2.2.2.2.1,s.2.2.2.2.2.2.2.2))
 else
 some (.inr (.inr (s.2.2.2.2.1,s.2.2.2.2.2.1,s.2.2.2.2.2.2.1,s.2.2.2.2.2.2.2.1,s.2.2.2.2.2.2.2.2)))
abbrev zK:List ESh:=[.var (.v Z0) true,.var (.v yTx) true,.var (.v yTx) true,.log yIn 90,.log Yc 75]
def ZjA:Lp:=⟨[(1,.v (.sl .u64)),(8,.ref 1 []),(10,.ref 2 []),(106,.v (.sl Zy)),(107,.v yI),(108,.v yI)],zK,[(.sl .u64),(.sl Zy),yI,yI,Z0,yTx,yTx,(.sl yIn),(.sl Yc)],[⟨.ret,[(8,.ref 1 []),(9,.v yI)],zK,[yI,Z0,yTx,yTx,(.sl yIn),(.sl Yc)]⟩,⟨.exit 2,[(8,.ref 1 []),(10,.ref 2 [])],zK,[Z0,yTx,yTx,(.sl yIn),(.sl Yc)]⟩],Zc (Ww yD) yD⟩
theorem Zne:ZjA.okA yb 23 1:=ZN ZJV [] [ZtN] ⟨Zro,ytt⟩
def WG(F:Nat)(a0:(yL Claim))(a1:(yL yU))(a2:Z3)(a3:Int):yO ((Tx×Int)):=
 if(decide ((a0.length:Int) < 1))=true then
  some (([],[],0),1)
 else
 if(decide ((a0.length:Int) > 64))=true then
  some (([],[],0),1)
 else
 if((a0.length:Int)!=(a1.length:Int))=true then
  some (([],[],0),1)
 else
 (Xc F a2).bind λo630=>
 if(!o630)=true then
  some (([],[],0),1)
 else
 (Zc (XP F) F (a0,a1,a3,0,a0,(a0.length:Int),0,a2,([],[],0),0,[],[])).bind λo644=>
 match o644 with
 |.inl o645=>
  some (o645.2.2.1,o645.1)
 |.inr o646=>
  if(decide (o646.2.2.1 < 0))=true then
   some (([],[],0),8)
  else
  if(decide (o646.2.2.1 > o646.2.2.2.1))=true then
   some (([],[],0),8)
  else
  (Zc (Ww F) F (o646.2.1,o646.1,(o646.1.length:Int),0,o646.2.2.2.2.1,o646.2.2.2.2.2.1,(o646.2.2.2.2.2.2.2.1,[(wi (o646.2.2.2.1 - o646.2.2.1),o646.2.2.2.2.1)],o646.2.2.2.2.2.2.1),o646.2.2.2.2.2.2.2.1,o646.2.2.2.2.2.2.2.2)).bind λo650=>
  match o650 with
  |.inl o651=>
   some (o651.2.2.1,o651.1)
  |.inr o652=>
   some (o652.2.2.1,0)
def ZsN(F:Nat):Fs yb:=⟨23,[.v (.sl Zy),.v (.sl .u64),.v Z0,.v yI],[],[(.sl Zy),(.sl .u64),Z0,yI],[⟨.ret,[(0,.tup [.v yTx,.v yI])],[],[yTx,yI]⟩],λx=>WG F x.1 x.2.1 x.2.2.1 x.2.2.2⟩
def ZlZ:Fs yb:=ZsN yD
theorem ZsO:ZlZ.Ok:=ZEV (fi:={ hi:=ZJV,lp:=[(0,Zjz),(1,ZjA)],gh:=[(23,.flat 10)]}) (specs:={ l:=[VR]}) (okS ⟨W8,ytt⟩) ⟨Znd,Zne,ytt⟩
def VS(F:Nat)(a0:Kit):yO (Basics):=
 (ZL F a0.1).bind λo653=>
 (ZL F a0.2.1).bind λo654=>
 (ZL F a0.2.2.1).bind λo655=>
 (ZL F a0.2.2.2.1).bind λo656=>
 (ZL F a0.2.2.2.2.1).bind λo657=>
 some (o653,o654,o655,o656,o657)
def Zrp(F:Nat):Fs yb:=⟨22,[.v W0],[],[W0],(zN Ziq),λx=>VS F x⟩
def ZeD:Fs yb:=Zrp yD
theorem ZhP:ZeD.Ok:=fnO { still:=[4,7,10,13,16]} [] [YL] ⟨Ym,ytt⟩
def ZIt:ByteArray:=⟨#[107,105,116]⟩
def Zl0(F:Nat)(s:(Int×(yL yB)×Kit×(yL yU))):yO ((Int×(yL yB)×Kit×(yL yU))⊕((yL yB)×Kit×(yL yU))):=
 if(decide (s.1 < 5))=true then
  (XX F ZIt [s.2.1,[w8 (wi (s.1+1))]]).bind λo661=>
  (Xz F o661).bind λo662=>
  if(inB s.1 5)=true then
   (s.2.2.2[s.1.toNat]?).bind λe663=>
   some (.inl (wi (s.1+1),s.2.1,s.2.2.1,s.2.2.2.set s.1.toNat o662))
  else
  none
 else
 some (.inr (s.2.1,s.2.2.1,s.2.2.2))
def Zn8:Lp:=⟨[(1,.ref 0 []),(2,.ref 1 []),(3,.ref 2 []),(5,.v yI)],[.var (.v (.arr 32 .u8)) false,.var (.v W0) true,.var (.v (.arr 5 .u64)) true],[yI,(.arr 32 .u8),W0,(.arr 5 .u64)],[⟨.exit 0,[(1,.ref 0 []),(2,.ref 1 []),(3,.ref 2 [])],[.var (.v (.arr 32 .u8)) false,.var (.v W0) true,.var (.v (.arr 5 .u64)) true],[(.arr 32 .u8),W0,(.arr 5 .u64)]⟩],Zc (Zl0 yD) yD⟩
def ZKR:HI:={ still:=[14,15,31],frz:=[9,29]}
theorem Zrq:Zn8.okA yb 76 0:=ZN ZKR [] [Vw,VO] ⟨Vx,Qb,ytt⟩
def ZtO(F:Nat)(a0:(yL yB)):yO (Kit):=
 (Zc (Zl0 F) F (0,a0,(0,0,0,0,0,yzz),[0,0,0,0,0])).bind λo664=>
 (o664.2.2[0]?).bind λe665=>
 (o664.2.2[1]?).bind λe666=>
 (o664.2.2[2]?).bind λe667=>
 (o664.2.2[3]?).bind λe668=>
 (o664.2.2[4]?).bind λe669=>
 (XX F ZIt [o664.1,[6]]).bind λo670=>
 some (e665,e666,e667,e668,e669,o670)
def Zyf(F:Nat):Fs yb:=⟨76,[.v (.arr 32 .u8)],[],[(.arr 32 .u8)],(zN W0),λx=>ZtO F x⟩
def Zrr:Fs yb:=Zyf yD
theorem Zyg:Zrr.Ok:=fnO ZKR [(0,Zn8)] [Vw] ⟨Vx,ytt⟩ ⟨Zrq,ytt⟩
def Zap(F:Nat)(a0:yB):yO (Kit):=
 (ZtO F [a0,0,0,0,0,0,0,0,0,0,0,0,0,0,0,0,0,0,0,0,0,0,0,0,0,0,0,0,0,0,0,0]).bind λo671=>
 some o671
def VZ(F:Nat):Fs yb:=⟨30,[.v .u8],[],[.u8],(zN W0),λx=>Zap F x⟩
def Zds:Fs yb:=VZ yD
theorem ZbV:Zds.Ok:=fnO { still:=[4]} [] [Zrr] ⟨Zyg,ytt⟩
def ZiH(F:Nat):yO (Chan):=
 (Zap F 1).bind λo672=>
 (VS F o672).bind λo673=>
 (Zap F 2).bind λo674=>
 (VS F o674).bind λo675=>
 some ((yzz,0),9000,[o673,o675],[(100,500,10,4,5,9000),(100,500,20,4,5,9000)],0)
def Va(F:Nat):Fs yb:=⟨28,[],[],[],(zN ZK),λx=>ZiH F⟩
def ZhQ:Fs yb:=Va yD
theorem ZgE:ZhQ.Ok:=fnO { still:=[6,8]} [] [Zds,ZeD] ⟨ZbV,ZhP,ytt⟩
def ZhR(F:Nat):yO (yG):=
 (ZL F 7).bind λo676=>
 (ZL F 9).bind λo677=>
 some (3,[5000,1500],[(0,1,1000,o676,150),(1,1,1500,o677,160)],0)
def WU(F:Nat):Fs yb:=⟨29,[],[],[],(zN Zt),λx=>ZhR F⟩
def ZgF:Fs yb:=WU yD
theorem ZfX:ZgF.Ok:=fnO {} [] [YL] ⟨Ym,ytt⟩
def Vk(F:Nat)(a0:yG)(a1:(yL yU)):yO (Bool):=
 if(decide ((a0.2.2.1.length:Int)<=20))=true then
  some (decide ((a1.length:Int)<=20))
 else
 some false
def ZiI(F:Nat):Fs yb:=⟨8,[.v Zt,.v (.sl .u64)],[],[Zt,(.sl .u64)],(zN .bool),λx=>Vk F x.1 x.2⟩
def Zdt:Fs yb:=ZiI yD
theorem ZiJ:Zdt.Ok:=fnO { still:=[4]} [] [] trivial
def Ze9(F:Nat)(s:(yU×yU×yU)):yO ((yU×yU×yU)⊕yU):=
 if(decide (s.2.1 > 0))=true then
  if((s.2.1 % 2)==1)=true then
   some (.inl ((s.1+s.1) % 4611686018427377339,s.2.1 / 2,(s.2.2+s.1) % 4611686018427377339))
  else
  some (.inl ((s.1+s.1) % 4611686018427377339,s.2.1 / 2,s.2.2))
 else
 some (.inr s.2.2)
def ZhS(F:Nat)(a0:yU)(a1:yU):yO (yU):=
 (Zc (Ze9 F) F (a0,a1,0)).bind λo678=>
 some o678
end
end Go.Proofs.YtpgpjjjoglafdaaGreat
end
section
set_option maxRecDepth 4000
namespace Go.Proofs.YtpgpjjjoglafdaaGreat
open Go Go.Ev
noncomputable def V0(F:Nat)(a0:yU)(a1:yU):yO yU:=if decide (a0.toNat < 4611686018427377339)=true then some (yaf (a0.toNat*a1.toNat % 4611686018427377339)) else ZhS F a0 a1
end Go.Proofs.YtpgpjjjoglafdaaGreat
end
section
set_option maxRecDepth 4000
namespace Go.Proofs.YtpgpjjjoglafdaaGreat
open Go Go.Ev
noncomputable section
def Zfa(F:Nat)(s:(yU×yU×yU)):yO ((yU×yU×yU)⊕yU):=
 if(decide (s.2.1 > 0))=true then
  if((s.2.1 % 2)==1)=true then
   (V0 F s.2.2 s.1).bind λo679=>
   (V0 F s.1 s.1).bind λo680=>
   some (.inl (o680,s.2.1 / 2,o679))
  else
  (V0 F s.1 s.1).bind λo681=>
  some (.inl (o681,s.2.1 / 2,s.2.2))
 else
 some (.inr s.2.2)
def ZhT(F:Nat)(a0:yU)(a1:yU):yO (yU):=
 (Zc (Zfa F) F (a0,a1,1)).bind λo682=>
 some o682
end
end Go.Proofs.YtpgpjjjoglafdaaGreat
end
section
set_option maxRecDepth 4000
namespace Go.Proofs.YtpgpjjjoglafdaaGreat
open Go Go.Ev
noncomputable def V1(F:Nat)(a0:yU)(a1:yU):yO yU:=if decide (a0.toNat < 4611686018427377339)=true then some (yaf (pwm 4611686018427377339 64 a0.toNat a1.toNat 1)) else ZhT F a0 a1
end Go.Proofs.YtpgpjjjoglafdaaGreat
end
section
set_option maxRecDepth 4000
namespace Go.Proofs.YtpgpjjjoglafdaaGreat
open Go Go.Ev
noncomputable section
def Wi(F:Nat)(a0:yU):yO (Bool):=
 if(decide (a0 >= 1))=true then
  if(decide (a0 < 4611686018427377339))=true then
   (V1 F a0 2305843009213688669).bind λo683=>
   some (o683==1)
  else
  some false
 else
 some false
def WV(F:Nat)(a0:Wh):yO (Bool):=
 if(decide (a0.1 >= 0))=true then
  if(decide (a0.1<=3))=true then
   some (decide ((a0.2.1.length:Int)<=12))
  else
  some false
 else
 some false
def Xh(F:Nat)(s:(Int×Branch)):yO ((Int×Branch)⊕((Bool×Branch)⊕Branch)):=
 if(decide (s.1 < (s.2.1.length:Int)))=true then
  (idx s.2.1 s.1).bind λe684=>
  (Wi F e684).bind λo685=>
  if(!o685)=true then
   some (.inr (.inl (false,s.2)))
  else
  some (.inl (wi (s.1+1),s.2))
 else
 some (.inr (.inr s.2))
def VG(F:Nat)(a0:Branch):yO (Bool):=
 if(decide ((a0.1.length:Int) > 12))=true then
  some false
 else
 if(decide (a0.2.1 < 0))=true then
  some false
 else
 if(decide (a0.2.1 > 1048576))=true then
  some false
 else
 if(decide (a0.2.2.1 < 0))=true then
  some false
 else
 if(decide (a0.2.2.1 > 1048576))=true then
  some false
 else
 (Zc (Xh F) F (0,a0)).bind λo686=>
 match o686 with
 |.inl o687=>
  some o687.1
 |.inr o688=>
  (Wi F o688.2.2.2).bind λo689=>
  if(o688.2.2.2==0)=true then
   some true
  else
  some o689
def Xs(F:Nat)(s:(Int×Z3)):yO ((Int×Z3)⊕((Bool×Z3)⊕Z3)):=
 if(decide (s.1 < (s.2.length:Int)))=true then
  (idx s.2 s.1).bind λe690=>
  (VG F e690).bind λo691=>
  if(!o691)=true then
   some (.inr (.inl (false,s.2)))
  else
  some (.inl (wi (s.1+1),s.2))
 else
 some (.inr (.inr s.2))
def Xo(F:Nat)(a0:Z3):yO (Bool):=
 if(decide ((a0.length:Int) < 1))=true then
  some false
 else
 if(decide ((a0.length:Int) > 4))=true then
  some false
 else
 (Zc (Xs F) F (0,a0)).bind λo692=>
 match o692 with
 |.inl o693=>
  some o693.1
 |.inr o694=>
  some true
def Yi(F:Nat)(s:(Int×Int×Tx×In)):yO ((Int×Int×Tx×In)⊕((Bool×Tx×In)⊕(Int×Tx×In))):=
 if(decide (s.2.1 < s.1))=true then
  (idx s.2.2.1.1 s.2.1).bind λe697=>
  if(decide (e697.1=s.2.2.2.1))=true then
   some (.inr (.inl (false,s.2.2.1,s.2.2.2)))
  else
  some (.inl (s.1,wi (s.2.1+1),s.2.2.1,s.2.2.2))
 else
 some (.inr (.inr (s.1,s.2.2.1,s.2.2.2)))
def YM(F:Nat)(s:(Int×Tx)):yO ((Int×Tx)⊕((Bool×Tx)⊕Tx)):=
 if(decide (s.1 < (s.2.1.length:Int)))=true then
  (idx s.2.1 s.1).bind λe695=>
  if(decide (e695.1.2 < 0))=true then
   some (.inr (.inl (false,s.2)))
  else
  if(decide (e695.1.2 > 63))=true then
   some (.inr (.inl (false,s.2)))
  else
  (WV F e695.2).bind λo696=>
  if(!o696)=true then
   some (.inr (.inl (false,s.2)))
  else
  (Zc (Yi F) F (s.1,0,s.2,e695)).bind λo698=>
  match o698 with
  |.inl o699=>
   some (.inr (.inl (o699.1,o699.2.1)))
  |.inr o700=>
   some (.inl (wi (o700.1+1),o700.2.1))
 else
 some (.inr (.inr s.2))
def YN(F:Nat)(s:(Int×Int×Tx)):yO ((Int×Int×Tx)⊕((Bool×Tx)⊕(Int×Tx))):=
 if(decide (s.2.1 < (s.2.2.2.1.length:Int)))=true then
  (idx s.2.2.2.1 s.2.1).bind λe704=>
  if(decide (e704.1 < 0))=true then
   some (.inr (.inl (false,s.2.2)))
  else
  if(decide (e704.1 > 1125899906842624))=true then
   some (.inr (.inl (false,s.2.2)))
  else
  (Xo F e704.2).bind λo705=>
  if(!o705)=true then
   some (.inr (.inl (false,s.2.2)))
  else
  some (.inl (wi (s.1+e704.1),wi (s.2.1+1),s.2.2))
 else
 some (.inr (.inr (s.1,s.2.2)))
def V2(F:Nat)(a0:Tx):yO (Bool):=
 if(decide ((a0.1.length:Int) < 1))=true then
  some false
 else
 if(decide ((a0.1.length:Int) > 64))=true then
  some false
 else
 if(decide ((a0.2.1.length:Int) > 64))=true then
  some false
 else
 if(decide (a0.2.2 < 0))=true then
  some false
 else
 (Zc (YM F) F (0,a0)).bind λo701=>
 match o701 with
 |.inl o702=>
  some o702.1
 |.inr o703=>
  (Zc (YN F) F (0,0,o703)).bind λo706=>
  match o706 with
  |.inl o707=>
   some o707.1
  |.inr o708=>
   some (decide (o708.1<=1125899906842624))
def YY(F:Nat)(s:(yU×Int×(yL yB))):yO ((yU×Int×(yL yB))⊕(yL yB)):=
 if(decide (s.2.1 >= 0))=true then
  if(decide (0<=s.2.1))=true then
   let y709:yB:=w8 ((Zv s.1 (min s.2.1.toNat 64)).toNat:Int)
   if(apB s.2.2.length 1 1)=true then
    some (.inl (s.1,wi (s.2.1 - 8),s.2.2++([y709]:yL yB)))
   else
   none
  else
  none
 else
 some (.inr s.2.2)
def QB(F:Nat)(a0:yU):yO ((yL yB)):=
 (Zc (YY F) F (a0,56,[])).bind λo710=>
 some o710
def Zfb(F:Nat)(s:((yL yB)×(yL yB))):yO (((yL yB)×(yL yB))⊕((yL yB)×(yL yB))):=
 if((Int.tmod (s.2.length:Int) 64)!=56)=true then
  if(apB s.2.length 1 1)=true then
   some (.inl (s.1,s.2++([0]:yL yB)))
  else
  none
 else
 some (.inr (s.1,s.2))
def Zfc(F:Nat)(s:(yU×Int×(yL yB))):yO ((yU×Int×(yL yB))⊕(yL yB)):=
 if(decide (s.2.1 >= 0))=true then
  if(decide (0<=s.2.1))=true then
   let y712:yB:=w8 ((Zv s.1 (min s.2.1.toNat 64)).toNat:Int)
   if(apB s.2.2.length 1 1)=true then
    some (.inl (s.1,wi (s.2.1 - 8),s.2.2++([y712]:yL yB)))
   else
   none
  else
  none
 else
 some (.inr s.2.2)
def ZhU(F:Nat)(a0:(yL yB)):yO ((yL yB)):=
 if(apB 0 a0.length 1)=true then
  if(apB a0.length 1 1)=true then
   (Zc (Zfb F) F (a0,a0++([128]:yL yB))).bind λo711=>
   (Zc (Zfc F) F (8*(w64 (o711.1.length:Int)),56,o711.2)).bind λo713=>
   some o713
  else
  none
 else
 none
def ZhV(F:Nat):yO ((yL yV)):=
 some [1779033703,3144134277,1013904242,2773480762,1359893119,2600822924,528734635,1541459225]
def ZU(F:Nat)(a0:yV)(a1:Int):yO (yV):=
 if(decide (0<=a1))=true then
  if(decide (0<=wi (32 - a1)))=true then
   let y714:yV:=(ZbT a0 (min a1.toNat 32))|||(ZcN a0 (min (wi (32 - a1)).toNat 32))
   some y714
  else
  none
 else
 none
def ZfY(F:Nat)(s:((yL yB)×Int×(yL yV))):yO (((yL yB)×Int×(yL yV))⊕(yL yV)):=
 if(decide (s.2.1 < 16))=true then
  (idx s.1 (wi (4*s.2.1))).bind λe715=>
  (idx s.1 (wi ((wi (4*s.2.1))+1))).bind λe716=>
  let y717:yV:=(ZcN (ycf e715.toNat) 24)|||(ZcN (ycf e716.toNat) 16)
  (idx s.1 (wi ((wi (4*s.2.1))+2))).bind λe718=>
  (idx s.1 (wi ((wi (4*s.2.1))+3))).bind λe719=>
  let y720:yV:=(y717|||(ZcN (ycf e718.toNat) 8))|||(ycf e719.toNat)
  if(apB s.2.2.length 1 4)=true then
   some (.inl (s.1,wi (s.2.1+1),s.2.2++([y720]:yL yV)))
  else
  none
 else
 some (.inr s.2.2)
def ZfZ(F:Nat)(s:(Int×(yL yV))):yO ((Int×(yL yV))⊕(yL yV)):=
 if(decide (s.1 < 64))=true then
  (idx s.2 (wi (s.1 - 15))).bind λe722=>
  (idx s.2 (wi (s.1 - 2))).bind λe723=>
  (ZU F e722 7).bind λo724=>
  (ZU F e722 18).bind λo725=>
  (ZU F e723 17).bind λo726=>
  (ZU F e723 19).bind λo727=>
  (idx s.2 (wi (s.1 - 16))).bind λe728=>
  (idx s.2 (wi (s.1 - 7))).bind λe729=>
  let y730:yV:=(e728+((o724^^^o725)^^^(ZbT e722 3)))+e729
  if(apB s.2.length 1 4)=true then
   let y731:(yL yV):=s.2++([y730+((o726^^^o727)^^^(ZbT e723 10))]:yL yV)
   some (.inl (wi (s.1+1),y731))
  else
  none
 else
 some (.inr s.2)
def ZiK(F:Nat)(a0:(yL yB)):yO ((yL yV)):=
 (Zc (ZfY F) F (a0,0,[])).bind λo721=>
 (Zc (ZfZ F) F (16,o721)).bind λo732=>
 some o732
def Zkn(F:Nat):yO ((yL yV)):=
 some [1116352408,1899447441,3049323471,3921009573,961987163,1508970993,2453635748,2870763221,3624381080,310598401,607225278,1426881987,1925078388,2162078206,2614888103,3248222580,3835390401,4022224774,264347078,604807628,770255983,1249150122,1555081692,1996064986,2554220882,2821834349,2952996808,3210313671,3336571891,3584528711,113926993,338241895,666307205,773529912,1294757372,1396182291,1695183700,1986661051,2177026350,2456956037,2730485921,2820302411,3259730800,3345764771,3516065817,3600352804,4094571909,275423344,430227734,506948616,659060556,883997877,958139571,1322822218,1537002063,1747873779,1955562222,2024104815,2227730452,2361852424,2428436474,2756734187,3204031479,3329325298]
def Zf0(F:Nat)(s:((yL yV)×(yL yV)×(yL yV)×Int×(yL Unit)×(yL yV))):yO (((yL yV)×(yL yV)×(yL yV)×Int×(yL Unit)×(yL yV))⊕((yL yV)×(yL Unit)×(yL yV))):=
 if(decide (s.2.2.2.1 < 64))=true then
  if(inB 4 s.2.2.2.2.2.length)=true then
   (s.2.2.2.2.2[4]?).bind λe735=>
   (ZU F e735 6).bind λo736=>
   if(inB 4 s.2.2.2.2.2.length)=true then
    (s.2.2.2.2.2[4]?).bind λe737=>
    (ZU F e737 11).bind λo738=>
    if(inB 4 s.2.2.2.2.2.length)=true then
     (s.2.2.2.2.2[4]?).bind λe739=>
     (ZU F e739 25).bind λo740=>
     if(inB 4 s.2.2.2.2.2.length)=true then
      (s.2.2.2.2.2[4]?).bind λe741=>
      if(inB 5 s.2.2.2.2.2.length)=true then
       (s.2.2.2.2.2[5]?).bind λe742=>
       if(inB 4 s.2.2.2.2.2.length)=true then
        (s.2.2.2.2.2[4]?).bind λe743=>
        if(inB 6 s.2.2.2.2.2.length)=true then
         (s.2.2.2.2.2[6]?).bind λe744=>
         let y745:yV:=(e741&&&e742)^^^((4294967295^^^e743)&&&e744)
         if(inB 7 s.2.2.2.2.2.length)=true then
          (s.2.2.2.2.2[7]?).bind λe746=>
          (idx s.2.2.1 s.2.2.2.1).bind λe747=>
          let y748:yV:=((e746+((o736^^^o738)^^^o740))+y745)+e747
          (idx s.2.1 s.2.2.2.1).bind λe749=>
          if(inB 0 s.2.2.2.2.2.length)=true then
           (s.2.2.2.2.2[0]?).bind λe750=>
           (ZU F e750 2).bind λo751=>
           if(inB 0 s.2.2.2.2.2.length)=true then
            (s.2.2.2.2.2[0]?).bind λe752=>
            (ZU F e752 13).bind λo753=>
            if(inB 0 s.2.2.2.2.2.length)=true then
             (s.2.2.2.2.2[0]?).bind λe754=>
             (ZU F e754 22).bind λo755=>
             if(inB 0 s.2.2.2.2.2.length)=true then
              (s.2.2.2.2.2[0]?).bind λe756=>
              if(inB 1 s.2.2.2.2.2.length)=true then
               (s.2.2.2.2.2[1]?).bind λe757=>
               if(inB 0 s.2.2.2.2.2.length)=true then
                (s.2.2.2.2.2[0]?).bind λe758=>
                if(inB 2 s.2.2.2.2.2.length)=true then
                 (s.2.2.2.2.2[2]?).bind λe759=>
                 if(inB 1 s.2.2.2.2.2.length)=true then
                  (s.2.2.2.2.2[1]?).bind λe760=>
                  if(inB 2 s.2.2.2.2.2.length)=true then
                   (s.2.2.2.2.2[2]?).bind λe761=>
                   let y762:yV:=((e756&&&e757)^^^(e758&&&e759))^^^(e760&&&e761);let y763:yV:=((y748+e749)+((o751^^^o753)^^^o755))+y762
                   if(inB 0 s.2.2.2.2.2.length)=true then
                    (s.2.2.2.2.2[0]?).bind λe764=>
                    if(inB 1 s.2.2.2.2.2.length)=true then
                     (s.2.2.2.2.2[1]?).bind λe765=>
                     if(inB 2 s.2.2.2.2.2.length)=true then
                      (s.2.2.2.2.2[2]?).bind λe766=>
                      if(inB 3 s.2.2.2.2.2.length)=true then
                       (s.2.2.2.2.2[3]?).bind λe767=>
                       if(inB 4 s.2.2.2.2.2.length)=true then
                        (s.2.2.2.2.2[4]?).bind λe768=>
                        if(inB 5 s.2.2.2.2.2.length)=true then
                         (s.2.2.2.2.2[5]?).bind λe769=>
                         if(inB 6 s.2.2.2.2.2.length)=true then
                          (s.2.2.2.2.2[6]?).bind λe770=>
                          some (.inl (s.1,s.2.1,s.2.2.1,wi (s.2.2.2.1+1),()::s.2.2.2.2.1,[y763,e764,e765,e766,e767+(y748+e749),e768,e769,e770]))
                         else
                         none
                        else
                        none
                       else
                       none
                      else
                      none
                     else
                     none
                    else
                    none
                   else
                   none
                  else
                  none
                 else
                 none
                else
                none
               else
               none
              else
              none
             else
             none
            else
            none
           else
           none
          else
          none
         else
         none
        else
        none
       else
       none
      else
      none
     else
     none
    else
    none
   else
   none
  else
  none
 else
 some (.inr (s.1,s.2.2.2.2.1,s.2.2.2.2.2))
def Zf1(F:Nat)(s:((yL yV)×Int×(yL Unit)×(yL yV))):yO (((yL yV)×Int×(yL Unit)×(yL yV))⊕((yL Unit)×(yL yV))):=
 if(decide (s.2.1 < 8))=true then
  if(inB s.2.1 s.2.2.2.length)=true then
   (s.2.2.2[s.2.1.toNat]?).bind λe772=>
   (idx s.1 s.2.1).bind λe773=>
   if(inB s.2.1 s.2.2.2.length)=true then
    (s.2.2.2[s.2.1.toNat]?).bind λe774=>
    some (.inl (s.1,wi (s.2.1+1),s.2.2.1,s.2.2.2.set s.2.1.toNat (e772+e773)))
   else
   none
  else
  none
 else
 some (.inr (s.2.2.1,s.2.2.2))
def ZiL(F:Nat)(a0:(yL yV))(a1:(yL yB)):yO ((yL yV)):=
 (ZiK F a1).bind λo733=>
 (Zkn F).bind λo734=>
 if(apB 0 a0.length 4)=true then
  (Zc (Zf0 F) F (a0,o733,o734,0,[()],a0)).bind λo771=>
  (Zc (Zf1 F) F (o771.1,0,o771.2.1,o771.2.2)).bind λo775=>
  some o775.2
 else
 none
def ZgG(F:Nat)(s:((yL yB)×(yL yV)×Int×(yL yB))):yO (((yL yB)×(yL yV)×Int×(yL yB))⊕((yL yV)×(yL yB))):=
 if(decide (s.2.2.1 < (s.1.length:Int)))=true then
  if(ZdA s.1.length (some s.2.2.1) (some (wi (s.2.2.1+64))))=true then
   let y778:(yL yB):=(s.1.take ((wi (s.2.2.1+64)).toNat)).drop s.2.2.1.toNat
   (ZiL F s.2.1 y778).bind λo779=>
   some (.inl (s.1,o779,wi (s.2.2.1+64),s.2.2.2))
  else
  none
 else
 some (.inr (s.2.1,s.2.2.2))
def ZgH(F:Nat)(s:((yL yV)×Int×(yL yB)×(yL yB))):yO (((yL yV)×Int×(yL yB)×(yL yB))⊕((yL yB)×(yL yB))):=
 if(decide (s.2.1 < 32))=true then
  (idx s.1 (wi (Int.tdiv s.2.1 4))).bind λe781=>
  if(decide (0<=wi (24 - (wi (8*(Int.tmod s.2.1 4))))))=true then
   let y782:yV:=ZbT e781 (min (wi (24 - (wi (8*(Int.tmod s.2.1 4))))).toNat 32)
   if(inB s.2.1 32)=true then
    (s.2.2.2[s.2.1.toNat]?).bind λe783=>
    some (.inl (s.1,wi (s.2.1+1),s.2.2.1,s.2.2.2.set s.2.1.toNat (w8 (y782.toNat:Int))))
   else
   none
  else
  none
 else
 some (.inr (s.2.2.1,s.2.2.2))
def Zko(F:Nat)(a0:(yL yB)):yO ((yL yB)):=
 (ZhU F a0).bind λo776=>
 (ZhV F).bind λo777=>
 (Zc (ZgG F) F (o776,o777,0,yzz)).bind λo780=>
 (Zc (ZgH F) F (o780.1,0,o780.2,yzz)).bind λo784=>
 some o784.2
end
end Go.Proofs.YtpgpjjjoglafdaaGreat
end
section
set_option maxRecDepth 4000
namespace Go.Ev
theorem ZBP{I X:Type}{step:I->yO (I⊕X)}{st:Nat->I}{x:X}(n:Nat)(hs:∀k,k < n->step (st k)=some (.inl (st (k+1))))(he:step (st n)=some (.inr x)):∀(d k f:Nat),k+d=n->d < f->Zc step f (st k)=some x
 |0,k,f+1,h,_=>by
  have e:k=n:=by omega
  subst e;unfold Zc
  rw[he,ya]
 |d+1,k,f+1,h,hf=>by
  unfold Zc;rw[hs k (by omega),ya];exact ZBP n hs he d (k+1) f (by omega) (by omega)
theorem Zs{I X:Type}{step:I->yO (I⊕X)}(n:Nat)(st:Nat->I){x:X}(hs:∀k,k < n->step (st k)=some (.inl (st (k+1))))(he:step (st n)=some (.inr x))(hn:n < 18446744073709551616):
 Zc step yD (st 0)=some x:=ZBP n hs he n 0 yD (by omega) (by rw[Zfy];exact hn)
theorem Zyh{I X:Type}{step:I->yO (I⊕X)}{Post:X->Prop}(n:Nat)(S:Nat->I->Prop)(hs:∀k s,k < n->S k s->(∃t,step s=some (.inl t)/\S (k+1) t)\/∃x,step s=some (.inr x)/\Post x)
 (he:∀s,S n s->∃x,step s=some (.inr x)/\Post x):∀(d k f:Nat)(s:I),k+d=n->d < f->S k s->∃x,Zc step f s=some x/\Post x
 |0,k,f+1,s,h,_,hS=>by
  have e:k=n:=by omega
  subst e;obtain⟨x,h1,h2⟩:=he s hS;unfold Zc;rw[h1,ya]
  exact⟨x,rfl,h2⟩
 |d+1,k,f+1,s,h,hf,hS=>by
  unfold Zc;rcases hs k s (by omega) hS with⟨t,h1,h2⟩|⟨x,h1,h2⟩
  ·rw[h1,ya];exact Zyh n S hs he d (k+1) f t (by omega) (by omega) h2
  ·rw[h1,ya];exact⟨x,rfl,h2⟩
theorem WW{I X:Type}{step:I->yO (I⊕X)}(n:Nat)(S:Nat->I->Prop)(Post:X->Prop){i:I}(h0:S 0 i)(hn:n < 18446744073709551616)
 (hs:∀k s,k < n->S k s->(∃t,step s=some (.inl t)/\S (k+1) t)\/∃x,step s=some (.inr x)/\Post x)
 (he:∀s,S n s->∃x,step s=some (.inr x)/\Post x):∃x,Zc step yD i=some x/\Post x:=Zyh n S hs he n 0 yD i (by omega) (by rw[Zfy];exact hn) h0
theorem ZG{a b:Nat}(h:a < b):decide ((a:Int) < (b:Int))=true:=yY (by omega)
theorem Zz{a:Nat}:decide ((a:Int) < (a:Int))=false:=yZ (by omega)
theorem Zp{k:Nat}(h:k < 9223372036854775807):wi ((k:Int)+1)=((k+1:Nat):Int):=by
 rw[ZP (by omega) (by omega)];omega
theorem Zl{α:Type}{l:yL α}{k:Nat}{y:α}(h:l[k]? =some y):idx l (k:Int)=some y:=Zil (by omega) (by simpa using h)
theorem ZtP{α:Type}{ls:yL (yL α)}{k:Nat}{e:yL α}(h:ls[k]? =some e):(ls.take (k+1)).flatten=(ls.take k).flatten++e:=by
 rw[List.take_add_one,h];simp
theorem ZBQ{α:Type}(ls:yL (yL α))(k:Nat):(ls.take k).flatten.length<=ls.flatten.length:=by
 have h:=congrArg (λl=>(List.flatten l).length) (ybj k ls);simp only[List.flatten_append,yo] at h;omega
theorem Vl{α:Type}{l:yL α}{k:Nat}{e:α}(h:l[k]? =some e):l.take (k+1)=l.take k++[e]:=by
 rw[List.take_add_one,h];rfl
theorem Zg{α:Type}{l:yL α}{k:Nat}(h:k < l.length):∃e,l[k]? =some e/\e∈l:=⟨l[k],yz h,List.getElem_mem h⟩
end Go.Ev
end
section
set_option maxRecDepth 4000
namespace Go.Proofs.YtpgpjjjoglafdaaGreat
open Go Go.Ev Go.Sha
def rb8(n:Nat):yL yB:=(be8 n).map yaz
theorem ZAl(n:yU){k:Nat}(hk:k < 8):(rb8 n.toNat)[k]? =some (w8 ((Zv n (56 - 8*k)).toNat:Int)):=by
 have h:∀m:Nat,w8 ((Zv n m).toNat:Int)=yaz (n.toNat / 2 ^ m % 256):=by
  intro m;unfold w8 Zv;rw[ybb,yaq (Nat.lt_of_le_of_lt (Nat.div_le_self _ _) (UInt64.toNat_lt n))];congr 1
 rw[h]
 match k,hk with
 |0,_=>rfl
 |1,_=>rfl
 |2,_=>rfl
 |3,_=>rfl
 |4,_=>rfl
 |5,_=>rfl
 |6,_=>rfl
 |7,_=>
  show some (yaz (n.toNat % 256))=some (yaz (n.toNat / 2 ^ 0 % 256));rw[Nat.pow_zero,Nat.div_one]
noncomputable def Zaq(F:Nat)(a0:yL yB):yO (yL yB):=if decide (a0.length<=4294967296)=true then some (sha a0) else Zko F a0
theorem ZFA{l:yL yB}(h:l.length<=4294967296):Zaq yD l=some (sha l):=yW (yY h)
end Go.Proofs.YtpgpjjjoglafdaaGreat
end
section
set_option maxRecDepth 4000
namespace Go.Proofs.YtpgpjjjoglafdaaGreat
open Go Go.Ev
noncomputable section
def Yo(F:Nat)(s:(yU×Int×(yL yB)×(yL yB))):yO ((yU×Int×(yL yB)×(yL yB))⊕((yL yB)×(yL yB))):=
 if(decide (s.2.1 >= 0))=true then
  if(decide (0<=s.2.1))=true then
   let y785:yB:=w8 ((Zv s.1 (min s.2.1.toNat 64)).toNat:Int)
   if(apB s.2.2.2.length 1 1)=true then
    some (.inl (s.1,wi (s.2.1 - 8),s.2.2.1,s.2.2.2++([y785]:yL yB)))
   else
   none
  else
  none
 else
 some (.inr (s.2.2.1,s.2.2.2))
def Vb(F:Nat)(a0:yU):yO ((yL yB)):=
 (Zc (Yo F) F (a0,56,[],[])).bind λo786=>
 some o786.2
def YB(F:Nat)(s:((yL (yL yB))×Int×(yL yB)×(yL yB))):yO (((yL (yL yB))×Int×(yL yB)×(yL yB))⊕((yL yB)×(yL yB))):=
 if(decide (s.2.1 < (s.1.length:Int)))=true then
  (idx s.1 s.2.1).bind λe788=>
  (QB F (w64 (e788.length:Int))).bind λo789=>
  if(apB s.2.2.2.length o789.length 1)=true then
   (idx s.1 s.2.1).bind λe790=>
   if(apB ((s.2.2.2++o789).length) e790.length 1)=true then
    some (.inl (s.1,wi (s.2.1+1),s.2.2.1,(s.2.2.2++o789)++e790))
   else
   none
  else
  none
 else
 some (.inr (s.2.2.1,s.2.2.2))
def Zar(F:Nat)(a0:ByteArray)(a1:(yL (yL yB))):yO ((yL yB)):=
 (Vb F (w64 (a0.size:Int))).bind λo787=>
 if(decide (a0.size<=maxLen))=true then
  if(apB o787.length a0.data.toList.length 1)=true then
   (Zc (YB F) F (a1,0,yzz,o787++a0.data.toList)).bind λo791=>
   (Zaq F o791.2).bind λo792=>
   some o792
  else
  none
 else
 none
def X9(F:Nat)(rc:Int->yO ((yL yB)))(a0:Int):yO ((yL yB)):=
 if(decide (a0 < 128))=true then
  some [w8 a0]
 else
 (rc (wi (Int.tdiv a0 128))).bind λo793=>
 if(apB 1 o793.length 1)=true then
  let y794:(yL yB):=([(w8 (Int.tmod a0 128))+128]:yL yB)++o793
  some y794
 else
 none
def Vm(F k:Nat):Int->yO ((yL yB)):=Nat.rec (motive:=λ_=>Int->yO ((yL yB))) (λ_=>none) (λ_ ih=>X9 F ih) k
def Zas(F:Nat)(a0:Int):yO ((yL yB)):=Vm F 12 a0
def ZR(F:Nat)(a0:(yL yB))(a1:Int):yO ((yL yB)):=
 if(apB 0 a0.length 1)=true then
  if(decide (a1 >= 0))=true then
   (Zas F a1).bind λo795=>
   if(apB a0.length o795.length 1)=true then
    some (a0++o795)
   else
   none
  else
  some a0
 else
 none
def Yp(F:Nat)(s:(Int×(yL yB)×(yL yB))):yO ((Int×(yL yB)×(yL yB))⊕((yL yB)×(yL yB))):=
 if(decide (s.1 < 32))=true then
  if(inB s.1 32)=true then
   (s.2.1[s.1.toNat]?).bind λe796=>
   if(apB s.2.2.length 1 1)=true then
    some (.inl (wi (s.1+1),s.2.1,s.2.2++([e796]:yL yB)))
   else
   none
  else
  none
 else
 some (.inr (s.2.1,s.2.2))
def Vc(F:Nat)(a0:(yL yB))(a1:(yL yB)):yO ((yL yB)):=
 if(apB 0 a0.length 1)=true then
  (Zc (Yp F) F (0,a1,a0)).bind λo797=>
  some o797.2
 else
 none
def Zby(F:Nat)(a0:(yL yB))(a1:Int):yO ((yL yB)):=
 if(apB 0 a0.length 1)=true then
  if(decide (a1 >= 0))=true then
   (Zas F a1).bind λo798=>
   if(apB a0.length o798.length 1)=true then
    some (a0++o798)
   else
   none
  else
  some a0
 else
 none
def WX(F:Nat)(a0:(yL yB))(a1:(yL yB)):yO ((yL yB)):=
 (Zby F a0 (a1.length:Int)).bind λo799=>
 if(apB o799.length a1.length 1)=true then
  some (o799++a1)
 else
 none
def YC(F:Nat)(s:(yU×Int×(yL yB))):yO ((yU×Int×(yL yB))⊕(yL yB)):=
 if(decide (s.2.1 >= 0))=true then
  let y800:yU:=Zv s.1 (min ((w64 (wi (8*s.2.1))).toNat:Int).toNat 64)
  if(apB s.2.2.length 1 1)=true then
   some (.inl (s.1,wi (s.2.1 - 1),s.2.2++([w8 (y800.toNat:Int)]:yL yB)))
  else
  none
 else
 some (.inr s.2.2)
def Wa(F:Nat)(a0:(yL yB))(a1:yU):yO ((yL yB)):=
 if(apB 0 a0.length 1)=true then
  (Zc (YC F) F (a1,7,a0)).bind λo801=>
  some o801
 else
 none
def YO(F:Nat)(s:((yL yB)×Int×Int×Z3×Branch)):yO (((yL yB)×Int×Int×Z3×Branch)⊕((yL yB)×Int×Z3×Branch)):=
 if(decide (s.2.2.1 < (s.2.2.2.2.1.length:Int)))=true then
  (idx s.2.2.2.2.1 s.2.2.1).bind λe806=>
  (Wa F s.1 e806).bind λo807=>
  some (.inl (o807,s.2.1,wi (s.2.2.1+1),s.2.2.2.1,s.2.2.2.2))
 else
 some (.inr (s.1,s.2.1,s.2.2.2.1,s.2.2.2.2))
def YP(F:Nat)(s:((yL yB)×Int×Z3)):yO (((yL yB)×Int×Z3)⊕((yL yB)×Z3)):=
 if(decide (s.2.1 < (s.2.2.length:Int)))=true then
  (idx s.2.2 s.2.1).bind λe804=>
  (ZR F s.1 (e804.1.length:Int)).bind λo805=>
  (Zc (YO F) F (o805,s.2.1,0,s.2.2,e804)).bind λo808=>
  (ZR F o808.1 o808.2.2.2.2.1).bind λo809=>
  (ZR F o809 o808.2.2.2.2.2.1).bind λo810=>
  (Wa F o810 o808.2.2.2.2.2.2).bind λo811=>
  some (.inl (o811,wi (o808.2.1+1),o808.2.2.1))
 else
 some (.inr (s.1,s.2.2))
def V3(F:Nat)(a0:Z3):yO ((yL yB)):=
 (Xo F a0).bind λo802=>
 if(!o802)=true then
  some []
 else
 (ZR F [] (a0.length:Int)).bind λo803=>
 (Zc (YP F) F (o803,0,a0)).bind λo812=>
 some o812.1
def YQ(F:Nat)(s:((yL yB)×Int×Tx)):yO (((yL yB)×Int×Tx)⊕((yL yB)×Tx)):=
 if(decide (s.2.1 < (s.2.2.1.length:Int)))=true then
  (idx s.2.2.1 s.2.1).bind λe814=>
  (Vc F s.1 e814.1.1).bind λo815=>
  (idx s.2.2.1 s.2.1).bind λe816=>
  (ZR F o815 e816.1.2).bind λo817=>
  some (.inl (o817,wi (s.2.1+1),s.2.2))
 else
 some (.inr (s.1,s.2.2))
def YR(F:Nat)(s:((yL yB)×Int×Tx)):yO (((yL yB)×Int×Tx)⊕((yL yB)×Tx)):=
 if(decide (s.2.1 < (s.2.2.2.1.length:Int)))=true then
  (idx s.2.2.2.1 s.2.1).bind λe820=>
  (ZR F s.1 e820.1).bind λo821=>
  (idx s.2.2.2.1 s.2.1).bind λe822=>
  (V3 F e822.2).bind λo823=>
  (WX F o821 o823).bind λo824=>
  some (.inl (o824,wi (s.2.1+1),s.2.2))
 else
 some (.inr (s.1,s.2.2))
def V4(F:Nat)(a0:Tx):yO ((yL yB)):=
 (ZR F [] (a0.1.length:Int)).bind λo813=>
 (Zc (YQ F) F (o813,0,a0)).bind λo818=>
 (ZR F o818.1 (o818.2.2.1.length:Int)).bind λo819=>
 (Zc (YR F) F (o819,0,o818.2)).bind λo825=>
 (ZR F o825.1 o825.2.2.2).bind λo826=>
 some o826
def ZaY(F:Nat)(a0:Tx):yO ((yL yB)):=
 (V2 F a0).bind λo827=>
 if(!o827)=true then
  some yzz
 else
 (V4 F a0).bind λo828=>
 (Zar F ZFy [o828]).bind λo829=>
 some o829
def Xt(F:Nat)(s:((yL yU)×Int)):yO (((yL yU)×Int)⊕(Bool⊕Unit)):=
 if(decide (s.2 < (s.1.length:Int)))=true then
  (idx s.1 s.2).bind λe907=>
  if(e907==0)=true then
   some (.inr (.inl true))
  else
  some (.inl (s.1,wi (s.2+1)))
 else
 some (.inr (.inr ()))
def ZaC:Lp:=⟨[(0,.v (.sl .u64)),(3,.v yI)],[],[(.sl .u64),yI],[⟨.ret,[(2,.v .bool)],[],[.bool]⟩,⟨.exit 0,[],[],[]⟩],Zc (Xt yD) yD⟩
theorem ZeE:ZaC.okA yb 25 0:=ZN { still:=[2]} [] [] trivial
def YU(F:Nat)(a0:(yL yU)):yO (Bool):=
 (Zc (Xt F) F (a0,0)).bind λo908=>
 match o908 with
 |.inl o909=>
  some o909
 |.inr o910=>
  some false
def ZgI(F:Nat):Fs yb:=⟨25,[.v (.sl .u64)],[],[(.sl .u64)],(zN .bool),λx=>YU F x⟩
def Zbz:Fs yb:=ZgI yD
theorem ZgJ:Zbz.Ok:=fnO { still:=[2]} [(0,ZaC)] [] trivial ⟨ZeE,ytt⟩
def Zf2(F:Nat)(a0:yU):yO (yU):=
 (VN F a0).bind λo911=>
 (VM F o911 2305843009213688668).bind λo912=>
 some o912
def ZvV(F:Nat):Fs yb:=⟨162,[.v .u64],[],[.u64],(zN .u64),λx=>Zf2 F x⟩
def Zn9:Fs yb:=ZvV yD
theorem ZvW:Zn9.Ok:=fnO { still:=[2,3,4]} [] [Za6,Za4] ⟨Zc3,ZcX,ytt⟩
def Zat(F:Nat)(a0:yU)(a1:(yL yB))(a2:yU)(a3:Sig):yO (Bool):=
 if(a0==1)=true then
  some false
 else
 (Ys F a0).bind λo913=>
 if(!o913)=true then
  some false
 else
 (Ys F a2).bind λo914=>
 if(!o914)=true then
  some false
 else
 (Ys F a3.1).bind λo915=>
 if(!o915)=true then
  some false
 else
 (Xr F a3.2).bind λo916=>
 if(!o916)=true then
  some false
 else
 (W2 F a3.1 a0 a1).bind λo917=>
 (WN F a0 o917).bind λo918=>
 (Zf2 F a2).bind λo919=>
 (Zc5 F [a3.1,o918,o919]).bind λo920=>
 (ZL F a3.2).bind λo921=>
 some (o921==o920)
def Zrs(F:Nat):Fs yb:=⟨119,[.v .u64,.v (.arr 32 .u8),.v .u64,.v QS],[],[.u64,(.arr 32 .u8),.u64,QS],(zN .bool),λx=>Zat F x.1 x.2.1 x.2.2.1 x.2.2.2⟩
def ZjB:Fs yb:=Zrs yD
def ZLm:HI:={ still:=[8,13,18,24,30,36,38,39,40,41,43,45,48]}
theorem Zrt:ZjB.Ok:=fnO ZLm [] [Xy,Qe,ZaW,Za7,Zn9,Zhg,YL] ⟨XN,VE,Zec,Zc4,ZvW,Zlp,Ym,ytt⟩
def YS(F:Nat)(a0:yU)(a1:(yL yB))(a2:Sig):yO (Bool):=
 (Zat F a0 a1 1 a2).bind λo922=>
 some o922
def Zru(F:Nat):Fs yb:=⟨75,[.v .u64,.v (.arr 32 .u8),.v QS],[],[.u64,(.arr 32 .u8),QS],(zN .bool),λx=>YS F x.1 x.2.1 x.2.2⟩
def ZjC:Fs yb:=Zru yD
theorem Zrv:ZjC.Ok:=fnO { still:=[6,7,8,9]} [] [ZjB] ⟨Zrt,ytt⟩
def XC(F:Nat)(s:((yL yU)×Int×Int×Z3×Wh×(yL yB)×Branch)):yO (((yL yU)×Int×Int×Z3×Wh×(yL yB)×Branch)⊕((Int×Z3×Wh×(yL yB)×Branch)⊕(Z3×Wh×(yL yB)×Branch))):=
 if(decide (s.2.2.1 < s.2.1))=true then
  (idx s.1 s.2.2.1).bind λe926=>
  (idx s.2.2.2.2.1.2.1 s.2.2.1).bind λe927=>
  (YS F e926 s.2.2.2.2.2.1 e927).bind λo928=>
  if(!o928)=true then
   some (.inr (.inl (7,s.2.2.2.1,s.2.2.2.2.1,s.2.2.2.2.2.1,s.2.2.2.2.2.2)))
  else
  some (.inl (s.1,s.2.1,wi (s.2.2.1+1),s.2.2.2.1,s.2.2.2.2.1,s.2.2.2.2.2.1,s.2.2.2.2.2.2))
 else
 some (.inr (.inr (s.2.2.2.1,s.2.2.2.2.1,s.2.2.2.2.2.1,s.2.2.2.2.2.2)))
abbrev zJ:List ESh:=[.var (.v Z0) true,.var (.v Vy) true,.var (.v (.arr 32 .u8)) true,.var (.v Zo) true]
def Zl1:Lp:=⟨[(6,.ref 1 []),(7,.ref 2 []),(68,.v (.sl .u64)),(69,.v yI),(70,.v yI)],zJ,[(.sl .u64),yI,yI,Z0,Vy,(.arr 32 .u8),Zo],[⟨.ret,[(10,.v yI)],zJ,[yI,Z0,Vy,(.arr 32 .u8),Zo]⟩,⟨.exit 1,[],zJ,[Z0,Vy,(.arr 32 .u8),Zo]⟩],Zc (XC yD) yD⟩
theorem ZoL:Zl1.okA yb 27 0:=ZN { still:=[10,14,53,75,76,81]} [] [ZjC] ⟨Zrv,ytt⟩
def QC(F:Nat)(a0:Z3)(a1:Wh)(a2:(yL yB))(a3:Int)(a4:Int):yO (Int):=
 (Xc F a0).bind λo923=>
 if(!o923)=true then
  some 1
 else
 if(decide (a1.1 < 0))=true then
  some 1
 else
 if(decide (a1.1 >= (a0.length:Int)))=true then
  some 1
 else
 (idx a0 a1.1).bind λe924=>
 if(decide (a3 < e924.2.1))=true then
  some 11
 else
 if(decide (a4 < e924.2.2.1))=true then
  some 11
 else
 if(e924.2.2.2 !=0)=true then
  (ZL F a1.2.2).bind λo925=>
  if(o925 !=e924.2.2.2)=true then
   some 23
  else
  if((a1.2.1.length:Int)!=(e924.1.length:Int))=true then
   some 7
  else
  (Zc (XC F) F (e924.1,(e924.1.length:Int),0,a0,a1,a2,e924)).bind λo929=>
  match o929 with
  |.inl o930=>
   some o930.1
  |.inr o931=>
   some 0
 else
 if((a1.2.1.length:Int)!=(e924.1.length:Int))=true then
  some 7
 else
 (Zc (XC F) F (e924.1,(e924.1.length:Int),0,a0,a1,a2,e924)).bind λo932=>
 match o932 with
 |.inl o933=>
  some o933.1
 |.inr o934=>
  some 0
def ZvX(F:Nat):Fs yb:=⟨27,[.v Z0,.v Vy,.v (.arr 32 .u8),.v yI,.v yI],[],[Z0,Vy,(.arr 32 .u8),yI,yI],(zN yI),λx=>QC F x.1 x.2.1 x.2.2.1 x.2.2.2.1 x.2.2.2.2⟩
def Zoa:Fs yb:=ZvX yD
theorem ZvY:Zoa.Ok:=fnO { still:=[10,14,53,75,76,81]} [(0,Zl1)] [VR,YL] ⟨W8,Ym,ytt⟩ ⟨ZoL,ytt⟩
end
end Go.Proofs.YtpgpjjjoglafdaaGreat
end
