/- Parts of the proof, in one file. -/
import Derived.Test.YtdhclndplbopgaaGreatKe
open Go.Proofs.Tryz renaming prog → yb
open Int renaming toNat_natCast → yau
open List renaming length_append → yo, replicate → yx, length_map → yy, append_assoc → yad, getElem?_map → yal, getElem?_eq_none → yaq, length_replicate → yct, getElem?_set_self → ycv, getD_eq_getElem?_getD → ycx
open Nat renaming add → yr, mod_eq_of_lt → yak, mod_lt → ybj, add_zero → ybw, two_pow_add_eq_or_of_lt → ycz
open Option renaming bind_some → ya
open UInt32 renaming toNat → yan, ofNat → ybs, toNat_ofNat' → ycs
open UInt64 renaming ofNat → yac, toNat_ofNat' → ybd, toNat_lt → ybt, lt_iff_toNat_lt → yca
open UInt8 renaming toNat → yam, ofNat → ybc
set_option linter.unusedVariables false
set_option linter.unusedSimpArgs false
section
set_option maxRecDepth 4000
namespace Go.Proofs.YtdhclndplbopgaaGreat
open Go Go.Ev
noncomputable section
def ZsW(F:Nat):Fs yb:=⟨201,[.nil .u8,.v yI],[],[yI],(ZfW F).xs,λx=>(ZfW F).M (x,([]:yL yB))⟩
def Zkt:Fs yb:=ZsW yD
theorem ZsX:Zkt.Ok:=ZQc (i1:=[yI]) (i2:=[yI,(.sl .u8)]) (λx=>(x,([]:yL yB))) ZfX (λ_=>rfl) (λ_=>⟨_,rfl⟩)
def Za2(F:Nat)(s:((yL (yL yB))×Int×Int×(yL yB)×(yL yB))):yO (((yL (yL yB))×Int×Int×(yL yB)×(yL yB))⊕((yL yB)×(yL yB))):=
 if(decide (s.2.2.1 < s.2.1))=true then
  (idx s.1 s.2.2.1).bind λe209=>
  (VX F (e209.length:Int) s.2.2.2.2).bind λo210=>
  if(apB o210.length e209.length 1)=true then
   some (.inl (s.1,s.2.1,wi (s.2.2.1+1),s.2.2.2.1,o210++e209))
  else
  none
 else
 some (.inr (s.2.2.2.1,s.2.2.2.2))
def Zvh:Lp:=⟨[(4,.ref 0 []),(5,.own 1 .u8),(13,.v (.sl (.sl .u8))),(14,.v yI),(15,.v yI)],zS,[(.sl (.sl .u8)),yI,yI,(.arr 32 .u8),(.sl .u8)],[⟨.exit 0,[(4,.ref 0 []),(5,.own 1 .u8)],zS,[(.arr 32 .u8),(.sl .u8)]⟩],Zb (Za2 yD) yD⟩
def hi4:HI:={ own:=[5,10,12,19,22,24],still:=[9,19,21,26]}
theorem Zyh:Zvh.okA yb 117 0:=Zv hi4 [] [ZhO] ⟨ZfX,ytt⟩
def Zcc(F:Nat)(a0:ByteArray)(a1:(yL (yL yB))):yO ((yL yB)):=
 (VX F (a0.size:Int) []).bind λo208=>
 if(apB o208.length ((Zll a0).length) 1)=true then
  (Zb (Za2 F) F (a1,(a1.length:Int),0,yzz,o208++(Zll a0))).bind λo211=>
  (Zks F o211.2).bind λo212=>
  some o212
 else
 none
def ZFg(F:Nat):Fs yb:=⟨117,[.v .str,.v (.sl (.sl .u8))],[],[.str,(.sl (.sl .u8))],(zN (.arr 32 .u8)),λx=>Zcc F x.1 x.2⟩
def Zej:Fs yb:=ZFg yD
theorem Ze0:Zej.Ok:=fnO hi4 [(0,Zvh)] [Zkt,Zyg] ⟨ZsX,ZFf,ytt⟩ ⟨Zyh,ytt⟩
def Qr(F:Nat)(s:(yU×Int×(yL yB))):yO ((yU×Int×(yL yB))⊕(yL yB)):=
 if(decide (s.2.1 < 8))=true then
  if(decide (0<=wi (56 - (wi (8*s.2.1)))))=true then
   let y213:yU:=ZH s.1 (min (wi (56 - (wi (8*s.2.1)))).toNat 64)
   if(inB s.2.1 8)=true then
    (s.2.2[s.2.1.toNat]?).bind λe214=>
    some (.inl (s.1,wi (s.2.1+1),s.2.2.set s.2.1.toNat (w8 (y213.toNat:Int))))
   else
   none
  else
  none
 else
 some (.inr s.2.2)
def ZqM:Lp:=⟨[(0,.v .u64),(3,.ref 0 []),(5,.v yI)],[.var (.v (.arr 8 .u8)) true],[.u64,yI,(.arr 8 .u8)],[⟨.exit 0,[(3,.ref 0 [])],[.var (.v (.arr 8 .u8)) true],[(.arr 8 .u8)]⟩],Zb (Qr yD) yD⟩
theorem Zua:ZqM.okA yb 212 0:=Zv { still:=[2]} [] [] trivial
def Zi8(F:Nat)(a0:yU):yO ((yL yB)):=
 (Zb (Qr F) F (a0,0,[0,0,0,0,0,0,0,0])).bind λo215=>
 some ((o215.drop 0).take 8)
def ZzX(F:Nat):Fs yb:=⟨212,[.v .u64],[],[.u64],(zN (.sl .u8)),λx=>Zi8 F x⟩
def ZsY:Fs yb:=ZzX yD
theorem ZzY:ZsY.Ok:=fnO { still:=[2]} [(0,ZqM)] [] trivial ⟨Zua,ytt⟩
def Vy(F:Nat)(s:(ByteArray×(yL yU)×Int×Int×(yL (yL yB)))):yO ((ByteArray×(yL yU)×Int×Int×(yL (yL yB)))⊕(ByteArray×(yL (yL yB)))):=
 if(decide (s.2.2.2.1 < s.2.2.1))=true then
  (idx s.2.1 s.2.2.2.1).bind λe216=>
  (Zi8 F e216).bind λo217=>
  if(apB s.2.2.2.2.length 1 24)=true then
   some (.inl (s.1,s.2.1,s.2.2.1,wi (s.2.2.2.1+1),s.2.2.2.2++([o217]:yL (yL yB))))
  else
  none
 else
 some (.inr (s.1,s.2.2.2.2))
def Zoc:Lp:=⟨[(0,.v .str),(5,.own 0 (.sl .u8)),(8,.v (.sl .u64)),(9,.v yI),(10,.v yI)],[.log (.sl .u8) 93],[.str,(.sl .u64),yI,yI,(.sl (.sl .u8))],[⟨.exit 0,[(0,.v .str),(5,.own 0 (.sl .u8))],[.log (.sl .u8) 93],[.str,(.sl (.sl .u8))]⟩],Zb (Vy yD) yD⟩
def hi5:HI:={ own:=[5,14,18],still:=[4,15,20,21,22]}
theorem ZsZ:Zoc.okA yb 129 0:=Zv hi5 [] [ZsY] ⟨ZzY,ytt⟩
def Za3(F:Nat)(a0:ByteArray)(a1:(yL yU)):yO (yU):=
 (Zb (Vy F) F (a0,a1,(a1.length:Int),0,[])).bind λo218=>
 (Zcc F o218.1 o218.2).bind λo219=>
 (Zax F o219).bind λo220=>
 some o220
def Zyi(F:Nat):Fs yb:=⟨129,[.v .str,.v (.sl .u64)],[],[.str,(.sl .u64)],(zN .u64),λx=>Za3 F x.1 x.2⟩
def Zjt:Fs yb:=Zyi yD
theorem Zod:Zjt.Ok:=fnO hi5 [(0,Zoc)] [Zej,ZcH] ⟨Ze0,ZeB,ytt⟩ ⟨ZsZ,ytt⟩
def ZBa:ByteArray:=⟨#[114,101,118,111,107,101]⟩
def ZgW(F:Nat)(a0:yU)(a1:yU):yO (yU):=
 (Za3 F ZBa [a0,a1]).bind λo221=>
 (QB F a0 o221).bind λo222=>
 (Za3 F ZBa [a1,a0]).bind λo223=>
 (QB F a1 o223).bind λo224=>
 (Zee F o222 o224).bind λo225=>
 some o225
def Zyj(F:Nat):Fs yb:=⟨47,[.v .u64,.v .u64],[],[.u64,.u64],(zN .u64),λx=>ZgW F x.1 x.2⟩
def ZqN:Fs yb:=Zyj yD
def hi6:HI:={ still:=[4,5,8,9,10,11,14,15,16]}
theorem Zyk:ZqN.Ok:=fnO hi6 [] [Zjt,ZeA,Zi3] ⟨Zod,ZhN,Zlw,ytt⟩
def W5(F:Nat)(a0:yU):yO (yU):=
 (QB F 4 a0).bind λo226=>
 some o226
def ZzZ(F:Nat):Fs yb:=⟨89,[.v .u64],[],[.u64],(zN .u64),λx=>W5 F x⟩
def QE:Fs yb:=ZzZ yD
theorem Q3:QE.Ok:=fnO { still:=[2,3]} [] [ZeA] ⟨ZhN,ytt⟩
def ZMr:ByteArray:=⟨#[109,105,120]⟩
def Zhi(F:Nat)(a0:yU)(a1:yU):yO (yU):=
 (Za3 F ZMr [a1,a0]).bind λo227=>
 (W5 F o227).bind λo228=>
 (Zee F a0 o228).bind λo229=>
 some o229
def ZFh(F:Nat):Fs yb:=⟨48,[.v .u64,.v .u64],[],[.u64,.u64],(zN .u64),λx=>Zhi F x.1 x.2⟩
def Zyl:Fs yb:=ZFh yD
theorem ZFi:Zyl.Ok:=fnO { still:=[4,5,8,9,10]} [] [Zjt,QE,Zi3] ⟨Zod,Q3,Zlw,ytt⟩
def QF(F:Nat)(a0:Terms)(a1:Int):yO (Bool):=
 some (decide (a1 >= a0.1))
def Zym(F:Nat):Fs yb:=⟨52,[.v ZcD,.v yI],[],[ZcD,yI],(zN .bool),λx=>QF F x.1 x.2⟩
def Zju:Fs yb:=Zym yD
theorem Zoe:Zju.Ok:=fnO { still:=[4]} [] [] trivial
def W9(F:Nat)(s:(Int×(yL Cond)×Int×Int×Chan×yG×(yL Cond))):yO ((Int×(yL Cond)×Int×Int×Chan×yG×(yL Cond))⊕(Chan×yG×(yL Cond))):=
 if(decide (s.2.2.2.1 < s.2.2.1))=true then
  (idx s.2.1 s.2.2.2.1).bind λe230=>
  if(inB s.1 2)=true then
   (s.2.2.2.2.1.2.2.2.1[s.1.toNat]?).bind λe231=>
   (QF F e231 e230.2.2.1).bind λo232=>
   if o232=true then
    if(apB s.2.2.2.2.2.2.length 1 40)=true then
     some (.inl (s.1,s.2.1,s.2.2.1,wi (s.2.2.2.1+1),s.2.2.2.2.1,s.2.2.2.2.2.1,s.2.2.2.2.2.2++([e230]:yL Cond)))
    else
    none
   else
   some (.inl (s.1,s.2.1,s.2.2.1,wi (s.2.2.2.1+1),s.2.2.2.2.1,s.2.2.2.2.2.1,s.2.2.2.2.2.2))
  else
  none
 else
 some (.inr (s.2.2.2.2.1,s.2.2.2.2.2.1,s.2.2.2.2.2.2))
abbrev zR:List ESh:=[.var (.v Zu) true,.var (.v Zf) true,.log Yc 97]
def ZmF:Lp:=⟨[(2,.v yI),(3,.ref 0 []),(7,.own 2 Yc),(11,.v (.sl Yc)),(12,.v yI),(13,.v yI)],zR,[yI,(.sl Yc),yI,yI,Zu,Zf,(.sl Yc)],[⟨.exit 0,[(7,.own 2 Yc)],zR,[Zu,Zf,(.sl Yc)]⟩],Zb (W9 yD) yD⟩
def hi7:HI:={ own:=[7,24,27],still:=[6,20,22]}
theorem Zru:ZmF.okA yb 56 0:=Zv hi7 [] [Zju] ⟨Zoe,ytt⟩
def W6(F:Nat)(a0:Chan)(a1:yG)(a2:Int):yO ((yL Cond)):=
 (Zb (W9 F) F (a2,a1.2.2.1,(a1.2.2.1.length:Int),0,a0,a1,[])).bind λo233=>
 some o233.2.2
def ZvX(F:Nat):Fs yb:=⟨56,[.v Zu,.v Zf,.v yI],[],[Zu,Zf,yI],(zN (.sl Yc)),λx=>W6 F x.1 x.2.1 x.2.2⟩
def ZhT:Fs yb:=ZvX yD
theorem ZmG:ZhT.Ok:=fnO hi7 [(0,ZmF)] [] trivial ⟨Zru,ytt⟩
def QG(F:Nat)(a0:Chan)(a1:yG)(a2:Int)(a3:Int):yO (Int):=
 if(inB a3 2)=true then
  (a1.2.1[a3.toNat]?).bind λe234=>
  if(a3==a0.2.2.2.2)=true then
   (W6 F a0 a1 a2).bind λo235=>
   (ZhK F a1.2.2.2 (o235.length:Int)).bind λo236=>
   some (wi (e234 - (wi (o236+660))))
  else
  some e234
 else
 none
def Zyn(F:Nat):Fs yb:=⟨51,[.v Zu,.v Zf,.v yI,.v yI],[],[Zu,Zf,yI,yI],(zN yI),λx=>QG F x.1 x.2.1 x.2.2.1 x.2.2.2⟩
def Zjv:Fs yb:=Zyn yD
theorem Zof:Zjv.Ok:=fnO { still:=[8,20,21,22,23,25]} [] [ZhT,Zn0] ⟨ZmG,ZsI,ytt⟩
abbrev Ze:Ty:=(.st [(.sl .u64),yI,yI,.u64])
abbrev Zn:Type:=((yL yU)×Int×Int×yU)
abbrev Zr:Ty:=(.st [(.sl Ze)])
abbrev ZR:Type:=(yL Zn)
def Zrv(F:Nat)(a0:yU)(a1:yU)(a2:Int):yO (ZR):=
 some [([a1],0,0,0),([a0],0,a2,0)]
def ZCT(F:Nat):Fs yb:=⟨53,[.v .u64,.v .u64,.v yI],[],[.u64,.u64,yI],(zN Zr),λx=>Zrv F x.1 x.2.1 x.2.2⟩
def Zvi:Fs yb:=ZCT yD
theorem ZCU:Zvi.Ok:=fnO {} [] [] trivial
def ZX(F:Nat)(a0:(yL yU)):yO ((yL yU)):=
 if(apB 0 a0.length 8)=true then
  some a0
 else
 none
def Zub(F:Nat):Fs yb:=⟨153,[.sl true .u64],[],[(.sl .u64)],(zN (.sl .u64)),λx=>ZX F x⟩
def ZvY:Fs yb:=Zub yD
theorem Zuc:ZvY.Ok:=fnO { own:=[5,7],still:=[2]} [] [] trivial
def Zi9(F:Nat):yO ((yL yU)):=
 some []
def ZpQ(F:Nat):Fs yb:=⟨153,[.nil .u64],[],[],(zN (.sl .u64)),λx=>Zi9 F⟩
def Zrw:Fs yb:=ZpQ yD
theorem ZpR:Zrw.Ok:=fnO { own:=[5,7],still:=[2]} [] [] trivial
def Zrx(F:Nat):Fs yb:=⟨153,[.v (.sl .u64)],[],[(.sl .u64)],(zN (.sl .u64)),λx=>ZX F x⟩
def Yg:Fs yb:=Zrx yD
theorem Yi:Yg.Ok:=ZtU (t:=.u64) (xs:=(zN (.sl .u64))) (MA:=λ(x:(yL yU))=>ZX yD x) (MB:=λ_=>Zi9 yD) Zuc ZpR rfl
def Zku(F:Nat)(a0:(yL yU)):yO (ZR):=
 (ZX F a0).bind λo237=>
 some [(o237,0,0,0)]
def ZFj(F:Nat):Fs yb:=⟨131,[.v (.sl .u64)],[],[(.sl .u64)],(zN Zr),λx=>Zku F x⟩
def Zry:Fs yb:=ZFj yD
theorem Zvj:Zry.Ok:=fnO { still:=[3]} [] [Yg] ⟨Yi,ytt⟩
def Zkv(F:Nat)(a0:yU):yO (ZR):=
 (Zku F [a0]).bind λo238=>
 some o238
def ZFk(F:Nat):Fs yb:=⟨54,[.v .u64],[],[.u64],(zN Zr),λx=>Zkv F x⟩
def Zyo:Fs yb:=ZFk yD
theorem ZFl:Zyo.Ok:=fnO { still:=[4]} [] [Zry] ⟨Zvj,ytt⟩
def Wq(F:Nat)(a0:yU):yO (ZR):=
 some [([a0],0,0,0),([],0,16,0)]
def Zyp(F:Nat):Fs yb:=⟨55,[.v .u64],[],[.u64],(zN Zr),λx=>Wq F x⟩
def ZqO:Fs yb:=Zyp yD
theorem Zyq:ZqO.Ok:=fnO {} [] [] trivial
def ZhU(F:Nat)(a0:(yL yB))(a1:(yL yB)):yO (Int):=
 some (Go.Lib.compareBytes a0 a1)
def Zud(F:Nat):Fs yb:=⟨61,[.v (.sl .u8),.v (.sl .u8)],[],[(.sl .u8),(.sl .u8)],(zN yI),λx=>ZhU F x.1 x.2⟩
def ZmH:Fs yb:=Zud yD
theorem Zue:ZmH.Ok:=fnO { still:=[4,5,6]} [] [] trivial
abbrev ZM:Ty:=(.st [yI,Zr])
abbrev Out:Type:=(Int×ZR)
abbrev Vf:Ty:=(.st [yI,Yc])
abbrev V1:Type:=(Int×Cond)
abbrev V1.Cond(x:V1):Cond:=x.2
abbrev Zm:Ty:=(.st [ZM,Vf,(.arr 32 .u8)])
abbrev Zk:Type:=(Out×V1×(yL yB))
def ZcJ(F:Nat)(a0:Zk)(a1:Zk):yO (Int):=
 (YO F a0.1.1 a1.1.1).bind λo239=>
 (ZhU F a0.2.2 a1.2.2).bind λo240=>
 (YO F a0.2.1.1 a1.2.1.1).bind λo241=>
 (YO F a0.2.1.2.1 a1.2.1.2.1).bind λo242=>
 (YO F a0.2.1.2.2.1 a1.2.1.2.2.1).bind λo243=>
 (ZeY F [o239,o240,o241,o242,o243]).bind λo244=>
 some o244
def Zuf(F:Nat):Fs yb:=⟨58,[.v Zm,.v Zm],[],[Zm,Zm],(zN yI),λx=>ZcJ F x.1 x.2⟩
def ZmI:Fs yb:=Zuf yD
def hi8:HI:={ still:=[4,7,10,13,15,19,22,27,31,36,40,42],frz:=[13,15]}
theorem Zug:ZmI.Ok:=fnO hi8 [] [ZcF,ZmH,Zlv] ⟨ZhJ,Zue,ZqG,ytt⟩
abbrev X5:Ty:=(.st [.u64,.u64])
abbrev Sig:Type:=(yU×yU)
abbrev Z7:Ty:=(.st [yI,(.sl X5),.u64])
abbrev XQ:Type:=(Int×(yL Sig)×yU)
abbrev yIn:Ty:=(.st [Xx,Z7])
abbrev In:Type:=(XP×XQ)
abbrev yTx:Ty:=(.st [(.sl yIn),(.sl ZM),yI])
abbrev Tx:Type:=((yL In)×(yL Out)×Int)
abbrev Xa:Ty:=(.st [yTx,(.sl Vf)])
abbrev Commit:Type:=(Tx×(yL V1))
def Q4(F:Nat)(a0:yU):yO (Bool):=
 (XO F a0).bind λo263=>
 some (!o263)
def ZvZ(F:Nat):Fs yb:=⟨178,[.v .u64],[],[.u64],(zN .bool),λx=>Q4 F x⟩
def ZhV:Fs yb:=ZvZ yD
theorem ZmJ:ZhV.Ok:=fnO { still:=[2,3]} [] [VW] ⟨Qo,ytt⟩
def YE(F:Nat)(s:((yL yU)×Int×Int)):yO (((yL yU)×Int×Int)⊕(Int⊕Unit)):=
 if(decide (s.2.2 < s.2.1))=true then
  (idx s.1 s.2.2).bind λe262=>
  (Q4 F e262).bind λo264=>
  if o264=true then
   some (.inr (.inl s.2.2))
  else
  some (.inl (s.1,s.2.1,wi (s.2.2+1)))
 else
 some (.inr (.inr ()))
def Zf5:Lp:=⟨[(0,.v (.sl .u64)),(1,.fn 178 []),(7,.v yI),(8,.v yI)],[],[(.sl .u64),yI,yI],[⟨.ret,[(4,.v yI)],[],[yI]⟩,⟨.exit 0,[],[],[]⟩],Zb (YE yD) yD⟩
theorem Zlz:Zf5.okA yb 233 0:=Zv { still:=[4,15]} [] [ZhV] ⟨ZmJ,ytt⟩
def Zaf(F:Nat)(a0:(yL yU)):yO (Int):=
 (Zb (YE F) F (a0,(a0.length:Int),0)).bind λo265=>
 match o265 with
 |.inl o266=>
  some o266
 |.inr o267=>
  some (-1)
def ZpS(F:Nat):Fs yb:=⟨233,[.v (.sl .u64),.fn 178 []],[],[(.sl .u64)],(zN yI),λx=>Zaf F x⟩
def ZhW:Fs yb:=ZpS yD
theorem ZpT:ZhW.Ok:=fnO { still:=[4,15]} [(0,Zf5)] [] trivial ⟨Zlz,ytt⟩
def Q5(F:Nat)(a0:(yL yU)):yO (Bool):=
 (Zaf F a0).bind λo268=>
 some (decide (o268 >= 0))
def Zv0(F:Nat):Fs yb:=⟨179,[.v (.sl .u64),.fn 178 []],[],[(.sl .u64)],(zN .bool),λx=>Q5 F x⟩
def Zog:Fs yb:=Zv0 yD
theorem Zv1:Zog.Ok:=fnO { still:=[4,5,6]} [] [ZhW] ⟨ZpT,ytt⟩
def QH(F:Nat)(a0:Int):yO (Bool):=
 if(decide (a0 >= 0))=true then
  some (decide (a0<=1048576))
 else
 some false
def Zyr(F:Nat):Fs yb:=⟨180,[.v yI],[],[yI],(zN .bool),λx=>QH F x⟩
def ZqP:Fs yb:=Zyr yD
theorem Zys:ZqP.Ok:=fnO { still:=[2]} [] [] trivial
def Vg(F:Nat)(s:((yL Zn)×Int×Int×ZR)):yO (((yL Zn)×Int×Int×ZR)⊕((Bool×ZR)⊕ZR)):=
 if(decide (s.2.2.1 < s.2.1))=true then
  (idx s.1 s.2.2.1).bind λe261=>
  if(decide ((e261.1.length:Int) > 12))=true then
   some (.inr (.inl (false,s.2.2.2)))
  else
  (Q5 F e261.1).bind λo269=>
  if o269=true then
   some (.inr (.inl (false,s.2.2.2)))
  else
  (QH F e261.2.1).bind λo270=>
  if(!o270)=true then
   some (.inr (.inl (false,s.2.2.2)))
  else
  (QH F e261.2.2.1).bind λo271=>
  if(!o271)=true then
   some (.inr (.inl (false,s.2.2.2)))
  else
  if(e261.2.2.2 !=0)=true then
   (Q4 F e261.2.2.2).bind λo272=>
   if o272=true then
    some (.inr (.inl (false,s.2.2.2)))
   else
   some (.inl (s.1,s.2.1,wi (s.2.2.1+1),s.2.2.2))
  else
  some (.inl (s.1,s.2.1,wi (s.2.2.1+1),s.2.2.2))
 else
 some (.inr (.inr s.2.2.2))
def ZqQ:Lp:=⟨[(1,.ref 0 []),(3,.fn 178 []),(7,.v (.sl Ze)),(8,.v yI),(9,.v yI)],[.var (.v Zr) true],[(.sl Ze),yI,yI,Zr],[⟨.ret,[(2,.v .bool)],[.var (.v Zr) true],[.bool,Zr]⟩,⟨.exit 0,[(1,.ref 0 [])],[.var (.v Zr) true],[Zr]⟩],Zb (Vg yD) yD⟩
theorem Zuh:ZqQ.okA yb 93 0:=Zv { still:=[2,19,20,25,31,42]} [] [Zog,ZqP,ZhV] ⟨Zv1,Zys,ZmJ,ytt⟩
def W7(F:Nat)(a0:ZR):yO (Bool):=
 (Zb (Vg F) F (a0,(a0.length:Int),0,a0)).bind λo273=>
 match o273 with
 |.inl o274=>
  some o274.1
 |.inr o275=>
  if(decide ((o275.length:Int) > 0))=true then
   some (decide ((o275.length:Int)<=4))
  else
  some false
def Zz0(F:Nat):Fs yb:=⟨93,[.v Zr],[],[Zr],(zN .bool),λx=>W7 F x⟩
def ZcK:Fs yb:=Zz0 yD
theorem ZeG:ZcK.Ok:=fnO { still:=[2,19,20,25,31,42]} [(0,ZqQ)] [] trivial ⟨Zuh,ytt⟩
def XI(F:Nat)(s:((yL (yL yB))×Int×(yL (yL yB))×Int×Int)):yO (((yL (yL yB))×Int×(yL (yL yB))×Int×Int)⊕((yL (yL yB))×Int)):=
 if(decide (s.2.2.2.2 < s.2.2.2.1))=true then
  (idx s.2.2.1 s.2.2.2.2).bind λe278=>
  if(decide ((wi (s.2.1+(e278.length:Int))) < 0))=true then
   none
  else
  some (.inl (s.1,wi (s.2.1+(e278.length:Int)),s.2.2.1,s.2.2.2.1,wi (s.2.2.2.2+1)))
 else
 some (.inr (s.1,s.2.1))
def Zaz:Lp:=⟨[(0,.v (.sl (.sl .u8))),(3,.v yI),(9,.v (.sl (.sl .u8))),(10,.v yI),(11,.v yI)],[],[(.sl (.sl .u8)),yI,(.sl (.sl .u8)),yI,yI],[⟨.exit 0,[(0,.v (.sl (.sl .u8))),(3,.v yI)],[],[(.sl (.sl .u8)),yI]⟩],Zb (XI yD) yD⟩
def hi9:HI:={ own:=[6,24,31,33],still:=[2,23]}
theorem Ze1:Zaz.okA yb 250 0:=Zv hi9 [] [] trivial
def Zcd:Fs yb:=⟨271,[.nil .u8,.v yI],[],[.int .i64],[⟨.ret,[(0,.own 0 .u8)],[.log .u8 5],[.sl .u8]⟩],ZxK⟩
theorem Zjw:Zcd.Ok:=ZOk ZL8
def XJ(F:Nat)(s:((yL (yL yB))×Int×Int×(yL yB))):yO (((yL (yL yB))×Int×Int×(yL yB))⊕(yL yB)):=
 if(decide (s.2.2.1 < s.2.1))=true then
  (idx s.1 s.2.2.1).bind λe281=>
  if(apB s.2.2.2.length e281.length 1)=true then
   some (.inl (s.1,s.2.1,wi (s.2.2.1+1),s.2.2.2++e281))
  else
  none
 else
 some (.inr s.2.2.2)
def ZaA:Lp:=⟨[(6,.own 0 .u8),(25,.v (.sl (.sl .u8))),(26,.v yI),(27,.v yI)],[.log .u8 5],[(.sl (.sl .u8)),yI,yI,(.sl .u8)],[⟨.exit 2,[(6,.own 0 .u8)],[.log .u8 5],[(.sl .u8)]⟩],Zb (XJ yD) yD⟩
theorem Ze2:ZaA.okA yb 250 1:=Zv hi9 [] [] trivial
def Xn(F:Nat)(a0:(yL (yL yB))):yO ((yL yB)):=
 (Zb (XI F) F (a0,0,a0,(a0.length:Int),0)).bind λo279=>
 (ZxK o279.2).bind λo280=>
 (Zb (XJ F) F (o279.1,(o279.1.length:Int),0,o280)).bind λo282=>
 some o282
def ZhX(F:Nat):Fs yb:=⟨250,[.v (.sl (.sl .u8))],[],[(.sl (.sl .u8))],(zN (.sl .u8)),λx=>Xn F x⟩
def Vv:Fs yb:=ZhX yD
theorem ZaB:Vv.Ok:=fnO hi9 [(0,Zaz),(1,ZaA)] [Zcd] ⟨Zjw,ytt⟩ ⟨Ze1,Ze2,ytt⟩
def ZbU(F:Nat)(a0:(yL yB))(a1:(yL yB)):yO ((yL yB)):=
 (Xn F [a0,a1]).bind λo283=>
 some o283
def ZCV(F:Nat):Fs yb:=⟨236,[.v (.sl .u8),.v (.sl .u8)],[],[(.sl .u8),(.sl .u8)],(zN (.sl .u8)),λx=>ZbU F x.1 x.2⟩
def Zja:Fs yb:=ZCV yD
theorem ZlA:Zja.Ok:=fnO { still:=[4,7]} [] [Vv] ⟨ZaB,ytt⟩
def ZgX(F:Nat)(s:(Int×(yL yB))):yO ((Int×(yL yB))⊕(Int×(yL yB))):=
 if(decide (s.1 >= 128))=true then
  if(apB s.2.length 1 1)=true then
   let y285:(yL yB):=s.2++([w8 (wi ((Int.tmod s.1 128)+128))]:yL yB)
   some (.inl (wi (Int.tdiv s.1 128),y285))
  else
  none
 else
 some (.inr (s.1,s.2))
def Zvk:Lp:=⟨[(0,.v yI),(3,.own 0 .u8)],[.log .u8 5],[yI,(.sl .u8)],[⟨.exit 0,[(0,.v yI),(3,.own 0 .u8)],[.log .u8 5],[yI,(.sl .u8)]⟩],Zb (ZgX yD) yD⟩
def ZRz:HI:={ own:=[3,8,14,15,19],still:=[2]}
theorem Zyt:Zvk.okA yb 237 0:=Zv ZRz [] [] trivial
def Zkw(F:Nat)(a0:Int):yO ((yL yB)):=
 (Zb (ZgX F) F (a0,[])).bind λo286=>
 if(apB o286.2.length 1 1)=true then
  some (o286.2++([w8 o286.1]:yL yB))
 else
 none
def ZFm(F:Nat):Fs yb:=⟨237,[.v yI],[],[yI],(zN (.sl .u8)),λx=>Zkw F x⟩
def Zrz:Fs yb:=ZFm yD
theorem Zvl:Zrz.Ok:=fnO ZRz [(0,Zvk)] [] trivial ⟨Zyt,ytt⟩
def Vz(F:Nat)(a0:(yL yB))(a1:Int):yO ((yL yB)):=
 if(decide (a1 < 0))=true then
  (ZbU F a0 []).bind λo284=>
  some o284
 else
 (Zkw F a1).bind λo287=>
 (ZbU F a0 o287).bind λo288=>
 some o288
def ZFn(F:Nat):Fs yb:=⟨184,[.v (.sl .u8),.v yI],[],[(.sl .u8),yI],(zN (.sl .u8)),λx=>Vz F x.1 x.2⟩
def Zek:Fs yb:=ZFn yD
theorem Ze3:Zek.Ok:=fnO { still:=[4,7,9,10,11]} [] [Zja,Zrz] ⟨ZlA,Zvl,ytt⟩
def ZbF(F:Nat)(s:((yL yB)×yU×Int×(yL yB))):yO (((yL yB)×yU×Int×(yL yB))⊕((yL yB)×(yL yB))):=
 if(decide (s.2.2.1 < 8))=true then
  if(decide (0<=wi (56 - (wi (8*s.2.2.1)))))=true then
   let y293:yU:=ZH s.2.1 (min (wi (56 - (wi (8*s.2.2.1)))).toNat 64)
   if(inB s.2.2.1 8)=true then
    (s.2.2.2[s.2.2.1.toNat]?).bind λe294=>
    let y295:(yL yB):=s.2.2.2.set s.2.2.1.toNat (w8 (y293.toNat:Int))
    some (.inl (s.1,s.2.1,wi (s.2.2.1+1),y295))
   else
   none
  else
  none
 else
 some (.inr (s.1,s.2.2.2))
def Zoh:Lp:=⟨[(0,.v (.sl .u8)),(1,.v .u64),(5,.ref 0 []),(7,.v yI)],[.var (.v (.arr 8 .u8)) true],[(.sl .u8),.u64,yI,(.arr 8 .u8)],[⟨.exit 0,[(0,.v (.sl .u8)),(5,.ref 0 [])],[.var (.v (.arr 8 .u8)) true],[(.sl .u8),(.arr 8 .u8)]⟩],Zb (ZbF yD) yD⟩
theorem Zs0:Zoh.okA yb 185 0:=Zv { still:=[4,19,20],frz:=[20]} [] [] trivial
def ZcL(F:Nat)(a0:(yL yB))(a1:yU):yO ((yL yB)):=
 (Zb (ZbF F) F (a0,a1,0,[0,0,0,0,0,0,0,0])).bind λo296=>
 (ZbU F o296.1 o296.2).bind λo297=>
 some o297
def Zyu(F:Nat):Fs yb:=⟨185,[.v (.sl .u8),.v .u64],[],[(.sl .u8),.u64],(zN (.sl .u8)),λx=>ZcL F x.1 x.2⟩
def Zjx:Fs yb:=Zyu yD
theorem Zoi:Zjx.Ok:=fnO { still:=[4,19,20],frz:=[20]} [(0,Zoh)] [Zja] ⟨ZlA,ytt⟩ ⟨Zs0,ytt⟩
def ZaC(F:Nat)(s:((yL yB)×(yL Zn)×Int×Int×(yL yU)×Int×Int×ZR×Zn)):yO (((yL yB)×(yL Zn)×Int×Int×(yL yU)×Int×Int×ZR×Zn)⊕((yL yB)×(yL Zn)×Int×Int×ZR×Zn)):=
 if(decide (s.2.2.2.2.2.2.1 < s.2.2.2.2.2.1))=true then
  (idx s.2.2.2.2.1 s.2.2.2.2.2.2.1).bind λe292=>
  (ZcL F s.1 e292).bind λo298=>
  some (.inl (o298,s.2.1,s.2.2.1,s.2.2.2.1,s.2.2.2.2.1,s.2.2.2.2.2.1,wi (s.2.2.2.2.2.2.1+1),s.2.2.2.2.2.2.2.1,s.2.2.2.2.2.2.2.2))
 else
 some (.inr (s.1,s.2.1,s.2.2.1,s.2.2.2.1,s.2.2.2.2.2.2.2.1,s.2.2.2.2.2.2.2.2))
abbrev tL0:yL Ty:=[(.sl .u8),(.sl Ze),yI,yI,(.sl .u64),yI,yI,Zr,Ze]
def ZqR:Lp:=⟨[(3,.v (.sl .u8)),(5,.ref 1 []),(16,.v (.sl Ze)),(17,.v yI),(18,.v yI),(28,.v (.sl .u64)),(29,.v yI),(30,.v yI)],[.var (.v Zr) true,.var (.v Ze) true],tL0,[⟨.exit 2,[(3,.v (.sl .u8)),(5,.ref 1 []),(16,.v (.sl Ze)),(17,.v yI),(18,.v yI)],[.var (.v Zr) true,.var (.v Ze) true],[(.sl .u8),(.sl Ze),yI,yI,Zr,Ze]⟩],Zb (ZaC yD) yD⟩
def ZQx:HI:={ still:=[2,8,13,22,25,34,35,38,40,41,43,44,46]}
theorem Zui:ZqR.okA yb 104 1:=Zv ZQx [] [Zjx] ⟨Zoi,ytt⟩
def ZcM(F:Nat)(s:((yL yB)×(yL Zn)×Int×Int×ZR)):yO (((yL yB)×(yL Zn)×Int×Int×ZR)⊕((yL yB)×ZR)):=
 if(decide (s.2.2.2.1 < s.2.2.1))=true then
  (idx s.2.1 s.2.2.2.1).bind λe290=>
  (Vz F s.1 (e290.1.length:Int)).bind λo291=>
  (Zb (ZaC F) F (o291,s.2.1,s.2.2.1,s.2.2.2.1,e290.1,(e290.1.length:Int),0,s.2.2.2.2,e290)).bind λo299=>
  (Vz F o299.1 o299.2.2.2.2.2.2.1).bind λo300=>
  (Vz F o300 o299.2.2.2.2.2.2.2.1).bind λo301=>
  (ZcL F o301 o299.2.2.2.2.2.2.2.2).bind λo302=>
  some (.inl (o302,o299.2.1,o299.2.2.1,wi (o299.2.2.2.1+1),o299.2.2.2.2.1))
 else
 some (.inr (s.1,s.2.2.2.2))
def ZqS:Lp:=⟨[(3,.v (.sl .u8)),(16,.v (.sl Ze)),(17,.v yI),(18,.v yI)],[.var (.v Zr) true],[(.sl .u8),(.sl Ze),yI,yI,Zr],[⟨.exit 0,[(3,.v (.sl .u8))],[.var (.v Zr) true],[(.sl .u8),Zr]⟩],Zb (ZcM yD) yD⟩
theorem Zuj:ZqS.okA yb 104 0:=Zv ZQx [(1,ZqR)] [Zek,Zjx] ⟨Ze3,Zoi,ytt⟩ ⟨Zui,ytt⟩
def Ze4(F:Nat)(a0:ZR):yO ((yL yB)):=
 (W7 F a0).bind λo277=>
 if(!o277)=true then
  some []
 else
 (Vz F [] (a0.length:Int)).bind λo289=>
 (Zb (ZcM F) F (o289,a0,(a0.length:Int),0,a0)).bind λo303=>
 some o303.1
def Zz1(F:Nat):Fs yb:=⟨104,[.v Zr],[],[Zr],(zN (.sl .u8)),λx=>Ze4 F x⟩
def ZlB:Fs yb:=Zz1 yD
theorem ZqT:ZlB.Ok:=fnO ZQx [(0,ZqS)] [ZcK,Zek] ⟨ZeG,Ze3,ytt⟩ ⟨Zuj,ytt⟩
def ZMs:ByteArray:=⟨#[108,111,99,107]⟩
def ZpF(F:Nat)(a0:ZR):yO ((yL yB)):=
 (W7 F a0).bind λo276=>
 if(!o276)=true then
  some yzz
 else
 (Ze4 F a0).bind λo304=>
 (Zcc F ZMs [o304]).bind λo305=>
 some o305
def ZFo(F:Nat):Fs yb:=⟨50,[.v Zr],[],[Zr],(zN (.arr 32 .u8)),λx=>ZpF F x⟩
def Zyv:Fs yb:=ZFo yD
theorem ZFp:Zyv.Ok:=fnO { still:=[3,7,9]} [] [ZcK,ZlB,Zej] ⟨ZeG,ZqT,Ze0,ytt⟩
def ZY(F:Nat)(a0:Int)(a1:ZR)(a2:V1)(s1_0:(yL Unit))(s1_1:(yL Zk)):yO (((yL Unit)×(yL Zk))):=
 (ZpF F a1).bind λo306=>
 if(apB s1_1.length 1 112)=true then
  let y307:(yL Zk):=s1_1++([((a0,a1),a2,o306)]:yL Zk)
  some (()::s1_0,y307)
 else
 none
def Zuk(F:Nat):Fs yb:=⟨49,[.v yI,.v Zr,.v Vf,.ref 0 []],[.var (.rw 1) true,.row Zm true 132],[yI,Zr,Vf,(.sl (.st [])),(.sl Zm)],[⟨.ret,[(0,.tup [])],[.var (.rw 1) true,.row Zm true 132],[(.sl (.st [])),(.sl Zm)]⟩],λx=>ZY F x.1 x.2.1 x.2.2.1 x.2.2.2.1 x.2.2.2.2⟩
def ZfY:Fs yb:=Zuk yD
theorem Zkx:ZfY.Ok:=fnO { own:=[7,16],still:=[12]} [] [Zyv] ⟨ZFp,ytt⟩
abbrev dT0:Type:=(Int×Int×yU×yU×yU×(yL Cond)×Int×Int×Chan×yG×Commit×(yL Unit)×(yL Zk))
abbrev tL1:yL Ty:=[yI,yI,.u64,.u64,.u64,(.sl Yc),yI,yI,Zu,Zf,Xa,(.sl (.st [])),(.sl Zm)]
def X0(F:Nat)(s:(Int×Int×Int×Int×(yL Unit)×(yL Zk))):yO ((Int×Int×Int×Int×(yL Unit)×(yL Zk))⊕(Int×Int×Int×(yL Unit)×(yL Zk))):=
 if(decide (s.2.2.2.1 > s.1))=true then
  if(inB s.2.2.2.1 s.2.2.2.2.2.length)=true then
   (s.2.2.2.2.2[s.2.2.2.1.toNat]?).bind λe326=>
   if(inB (wi (s.2.2.2.1 - 1)) s.2.2.2.2.2.length)=true then
    (s.2.2.2.2.2[(wi (s.2.2.2.1 - 1)).toNat]?).bind λe327=>
    (ZcJ F e326 e327).bind λo328=>
    if(decide (o328 < 0))=true then
     if(inB (wi (s.2.2.2.1 - 1)) s.2.2.2.2.2.length)=true then
      (s.2.2.2.2.2[(wi (s.2.2.2.1 - 1)).toNat]?).bind λe329=>
      if(inB s.2.2.2.1 s.2.2.2.2.2.length)=true then
       (s.2.2.2.2.2[s.2.2.2.1.toNat]?).bind λe330=>
       if(inB s.2.2.2.1 s.2.2.2.2.2.length)=true then
        (s.2.2.2.2.2[s.2.2.2.1.toNat]?).bind λe331=>
        if(inB (wi (s.2.2.2.1 - 1)) ((s.2.2.2.2.2.set s.2.2.2.1.toNat e329).length))=true then
         ((s.2.2.2.2.2.set s.2.2.2.1.toNat e329)[(wi (s.2.2.2.1 - 1)).toNat]?).bind λe332=>
         let y333:(yL Zk):=(s.2.2.2.2.2.set s.2.2.2.1.toNat e329).set ((wi (s.2.2.2.1 - 1)).toNat) e330
         some (.inl (s.1,s.2.1,s.2.2.1,wi (s.2.2.2.1 - 1),s.2.2.2.2.1,y333))
        else
        none
       else
       none
      else
      none
     else
     none
    else
    some (.inr (s.1,s.2.1,s.2.2.1,s.2.2.2.2.1,s.2.2.2.2.2))
   else
   none
  else
  none
 else
 some (.inr (s.1,s.2.1,s.2.2.1,s.2.2.2.2.1,s.2.2.2.2.2))
def ZhY:Lp:=⟨[(0,.rw 0),(1,.v yI),(2,.v yI),(3,.fn 58 []),(8,.v yI),(9,.v yI)],[.row Zm true 132],[yI,yI,yI,yI,(.sl (.st [])),(.sl Zm)],[⟨.exit 2,[(0,.rw 0),(1,.v yI),(2,.v yI),(3,.fn 58 []),(8,.v yI)],[.row Zm true 132],[yI,yI,yI,(.sl (.st [])),(.sl Zm)]⟩],Zb (X0 yD) yD⟩
def ZQy:HI:={ still:=[26,31],rowt:=[0,37,39]}
theorem ZmQ:ZhY.okA yb 214 1:=Zv ZQy [] [ZmI] ⟨Zug,ytt⟩
def Z4(F:Nat)(s:(Int×Int×Int×(yL Unit)×(yL Zk))):yO ((Int×Int×Int×(yL Unit)×(yL Zk))⊕((yL Unit)×(yL Zk))):=
 if(decide (s.2.2.1 < s.2.1))=true then
  (Zb (X0 F) F (s.1,s.2.1,s.2.2.1,s.2.2.1,s.2.2.2.1,s.2.2.2.2)).bind λo334=>
  some (.inl (o334.1,o334.2.1,wi (o334.2.2.1+1),o334.2.2.2.1,o334.2.2.2.2))
 else
 some (.inr (s.2.2.2.1,s.2.2.2.2))
def ZhZ:Lp:=⟨[(0,.rw 0),(1,.v yI),(2,.v yI),(3,.fn 58 []),(8,.v yI)],[.row Zm true 132],[yI,yI,yI,(.sl (.st [])),(.sl Zm)],[⟨.exit 0,[],[.row Zm true 132],[(.sl (.st [])),(.sl Zm)]⟩],Zb (Z4 yD) yD⟩
theorem ZmR:ZhZ.okA yb 214 0:=Zv ZQy [(1,ZhY)] [] trivial ⟨ZmQ,ytt⟩
def Wg(F:Nat)(a1:Int)(a2:Int)(s0_0:(yL Unit))(s0_1:(yL Zk)):yO (((yL Unit)×(yL Zk))):=
 (Zb (Z4 F) F (a1,a2,wi (a1+1),s0_0,s0_1)).bind λo335=>
 some (o335.1,o335.2)
def ZrA(F:Nat):Fs yb:=⟨214,[.rw 0,.v yI,.v yI,.fn 58 []],[.row Zm true 132],[yI,yI,(.sl (.st [])),(.sl Zm)],[⟨.ret,[(0,.tup [])],[.row Zm true 132],[(.sl (.st [])),(.sl Zm)]⟩],λx=>Wg F x.1 x.2.1 x.2.2.1 x.2.2.2⟩
def ZcN:Fs yb:=ZrA yD
theorem Zh0:ZcN.Ok:=fnO ZQy [(0,ZhZ)] [] trivial ⟨ZmR,ytt⟩
def Y5(F:Nat)(s:(Int×Int×Int×Int×(yL Unit)×(yL Zk))):yO ((Int×Int×Int×Int×(yL Unit)×(yL Zk))⊕(Int×Int×Int×(yL Unit)×(yL Zk))):=
 if(decide (s.2.2.2.1<=s.1))=true then
  (Wg F s.2.2.1 s.2.2.2.1 s.2.2.2.2.1 s.2.2.2.2.2).bind λo336=>
  if(decide (s.2.2.2.2.1.length=o336.1.length)&&(decide (40=40)&&decide ((yx s.2.2.2.2.2.length ()).length=o336.2.length)))=true then
   some (.inl (s.1,s.2.1,s.2.2.2.1,wi (s.2.2.2.1+s.2.1),o336.1,o336.2))
  else
  none
 else
 some (.inr (s.1,s.2.1,s.2.2.1,s.2.2.2.2.1,s.2.2.2.2.2))
def Zh1:Lp:=⟨[(0,.rw 0),(1,.v yI),(2,.fn 58 []),(6,.v yI),(7,.v yI),(8,.v yI)],[.row Zm true 132],[yI,yI,yI,yI,(.sl (.st [])),(.sl Zm)],[⟨.exit 0,[(0,.rw 0),(1,.v yI),(2,.fn 58 []),(6,.v yI),(7,.v yI)],[.row Zm true 132],[yI,yI,yI,(.sl (.st [])),(.sl Zm)]⟩],Zb (Y5 yD) yD⟩
def ZOB:HI:={ still:=[15,16,17,24,25,26,37,40,41,42,56,57,58,59],rowt:=[0,14,23,36,55]}
theorem ZmS:Zh1.okA yb 132 0:=ZIv (fi:={ hi:=ZOB,gh:=[(3,.freshS 0)]}) (specs:={ l:=[ZcN]}) (okS ⟨Zh0,ytt⟩)
def Zf6(F:Nat)(s:(Int×Int×Int×Int×(yL Unit)×(yL Zk))):yO ((Int×Int×Int×Int×(yL Unit)×(yL Zk))⊕(Int×Int×Int×(yL Unit)×(yL Zk))):=
 if(decide (s.2.2.2.1<=s.1))=true then
  none
 else
 some (.inr (s.1,s.2.1,s.2.2.1,s.2.2.2.2.1,s.2.2.2.2.2))
def Zh2:Lp:=⟨[(1,.v yI),(2,.fn 58 []),(6,.v yI),(7,.v yI),(8,.v yI)],[.row Zm true 132],[yI,yI,yI,yI,(.sl (.st [])),(.sl Zm)],[⟨.exit 4,[(1,.v yI),(2,.fn 58 []),(6,.v yI),(7,.v yI)],[.row Zm true 132],[yI,yI,yI,(.sl (.st [])),(.sl Zm)]⟩],Zb (Zf6 yD) yD⟩
theorem ZmT:Zh2.okA yb 132 2:=Zv ZOB [] [] trivial
def V3(F:Nat)(s:(Int×Int×(yL Unit)×(yL Zk))):yO ((Int×Int×(yL Unit)×(yL Zk))⊕((yL Unit)×(yL Zk))):=
 if(decide (s.2.1 < s.1))=true then
  (Zb (Zf6 F) F (s.1,s.2.1,0,wi (2*s.2.1),s.2.2.1,s.2.2.2)).bind λo339=>
  if(decide ((wi (o339.2.2.1+o339.2.1)) < o339.1))=true then
   none
  else
  some (.inl (o339.1,wi (o339.2.1*2),o339.2.2.2.1,o339.2.2.2.2))
 else
 some (.inr (s.2.2.1,s.2.2.2))
def Zh3:Lp:=⟨[(0,.junk),(1,.v yI),(2,.fn 58 []),(6,.v yI)],[.row Zm true 132],[yI,yI,(.sl (.st [])),(.sl Zm)],[⟨.exit 2,[],[.row Zm true 132],[(.sl (.st [])),(.sl Zm)]⟩],Zb (V3 yD) yD⟩
theorem ZmU:Zh3.okA yb 132 1:=Zv ZOB [(2,Zh2)] [] trivial ⟨ZmT,ytt⟩
def Zel(F:Nat)(a1:Int)(s0_0:(yL Unit))(s0_1:(yL Zk)):yO (((yL Unit)×(yL Zk))):=
 (Zb (Y5 F) F (a1,20,0,20,s0_0,s0_1)).bind λo337=>
 (Wg F o337.2.2.1 o337.1 o337.2.2.2.1 o337.2.2.2.2).bind λo338=>
 (Zb (V3 F) F (o337.1,o337.2.1,o338.1,o338.2)).bind λo340=>
 some (o340.1,o340.2)
def ZrB(F:Nat):Fs yb:=⟨132,[.rw 0,.v yI,.fn 58 []],[.row Zm true 132],[yI,(.sl (.st [])),(.sl Zm)],[⟨.ret,[(0,.tup [])],[.row Zm true 132],[(.sl (.st [])),(.sl Zm)]⟩],λx=>Zel F x.1 x.2.1 x.2.2⟩
def Zjb:Fs yb:=ZrB yD
theorem ZrC:Zjb.Ok:=fnO ZOB [(0,Zh1),(1,Zh3)] [ZcN] ⟨Zh0,ytt⟩ ⟨ZmS,ZmU,ytt⟩
def VJ(F:Nat)(s0_0:(yL Unit))(s0_1:(yL Zk)):yO (((yL Unit)×(yL Zk))):=
 (Zel F (s0_1.length:Int) s0_0 s0_1).bind λo341=>
 some (o341.1,o341.2)
def Zyw(F:Nat):Fs yb:=⟨57,[.rw 0,.fn 58 []],[.row Zm true 132],[(.sl (.st [])),(.sl Zm)],[⟨.ret,[(0,.tup [])],[.row Zm true 132],[(.sl (.st [])),(.sl Zm)]⟩],λx=>VJ F x.1 x.2⟩
def ZqU:Fs yb:=Zyw yD
theorem Zyx:ZqU.Ok:=fnO { still:=[6,7],rowt:=[0,4]} [] [Zjb] ⟨ZrC,ytt⟩
abbrev dT1:Type:=(Int×Int×Chan×yG×Commit×(yL Unit)×(yL Zk)×(yL In)×Int×(yL V1)×(yL Out))
abbrev dT2:Type:=(Chan×yG×Commit×(yL Unit)×(yL Zk)×(yL In)×Int×(yL V1)×(yL Out))
def ZRA:yL ESh:=[.var (.v Zu) true,.var (.v Zf) true,.var (.v Xa) true,.var (.rw 4) true,.row Zm true 132,.var (.agg [.agg [.v (.sl yIn),.own 7 ZM,.v yI],.own 6 Vf]) true,.log Vf 114,.log ZM 112]
abbrev tL2:yL Ty:=[Zu,Zf,Xa,(.sl (.st [])),(.sl Zm),(.sl yIn),yI,(.sl Vf),(.sl ZM)]
abbrev tL3:yL Ty:=[yI,yI,Zu,Zf,Xa,(.sl (.st [])),(.sl Zm),(.sl yIn),yI,(.sl Vf),(.sl ZM)]
def Xp(F:Nat)(s:dT0):yO (dT0⊕(Int×Chan×yG×Commit×(yL Unit)×(yL Zk))):=
 if(decide (s.2.2.2.2.2.2.2.1 < s.2.2.2.2.2.2.1))=true then
  (idx s.2.2.2.2.2.1 s.2.2.2.2.2.2.2.1).bind λe376=>
  if(e376.1==s.1)=true then
   (ZY F e376.2.2.1 [([s.2.2.1],0,0,0),([s.2.2.2.2.1],0,0,e376.2.2.2.1),([s.2.2.2.1],e376.2.2.2.2,s.2.1,0)] (5,e376) s.2.2.2.2.2.2.2.2.2.2.2.1 s.2.2.2.2.2.2.2.2.2.2.2.2).bind λo377=>
   some (.inl (s.1,s.2.1,s.2.2.1,s.2.2.2.1,s.2.2.2.2.1,s.2.2.2.2.2.1,s.2.2.2.2.2.2.1,wi (s.2.2.2.2.2.2.2.1+1),s.2.2.2.2.2.2.2.2.1,s.2.2.2.2.2.2.2.2.2.1,s.2.2.2.2.2.2.2.2.2.2.1,o377.1,o377.2))
  else
  (ZY F e376.2.2.1 [([s.2.2.1],0,0,0),([s.2.2.2.1],0,s.2.1,e376.2.2.2.1),([s.2.2.2.2.1],e376.2.2.2.2,0,0)] (6,e376) s.2.2.2.2.2.2.2.2.2.2.2.1 s.2.2.2.2.2.2.2.2.2.2.2.2).bind λo378=>
  some (.inl (s.1,s.2.1,s.2.2.1,s.2.2.2.1,s.2.2.2.2.1,s.2.2.2.2.2.1,s.2.2.2.2.2.2.1,wi (s.2.2.2.2.2.2.2.1+1),s.2.2.2.2.2.2.2.2.1,s.2.2.2.2.2.2.2.2.2.1,s.2.2.2.2.2.2.2.2.2.2.1,o378.1,o378.2))
 else
 some (.inr (s.1,s.2.2.2.2.2.2.2.2.1,s.2.2.2.2.2.2.2.2.2.1,s.2.2.2.2.2.2.2.2.2.2.1,s.2.2.2.2.2.2.2.2.2.2.2.1,s.2.2.2.2.2.2.2.2.2.2.2.2))
abbrev zH:List ESh:=[.var (.v Zu) true,.var (.v Zf) true,.var (.v Xa) true,.var (.rw 4) true,.row Zm true 132]
def Zoj:Lp:=⟨[(2,.v yI),(4,.ref 0 []),(5,.ref 1 []),(8,.ref 2 []),(11,.v yI),(12,.v .u64),(13,.v .u64),(14,.v .u64),(15,.ref 3 []),(16,.fn 49 [.ref 3 []]),(139,.v (.sl Yc)),(140,.v yI),(141,.v yI)],zH,tL1,[⟨.exit 1,[(2,.v yI),(4,.ref 0 []),(5,.ref 1 []),(8,.ref 2 []),(15,.ref 3 [])],zH,[yI,Zu,Zf,Xa,(.sl (.st [])),(.sl Zm)]⟩],Zb (Xp yD) yD⟩
def ZR5:HI:={ own:=[208,212,216,220],still:=[9,28,32,38,39,54,55,61,62,68,69,72,73,74,75,80,81,84,89,90,91,92,93,94,95,97,98,99,100,105,106,109,114,115,116,123,124,125,132,133,134,136,137,138,176,183,184],rowt:=[187],gst:=[(21,[([0],.u64,27)]),(22,[([0],.u64,27)])]}
theorem Zs1:Zoj.okA yb 7 0:=Zv ZR5 [] [ZfY] ⟨Zkx,ytt⟩
def X4(F:Nat)(s:dT1):yO (dT1⊕dT2):=
 if(decide (s.2.1 < s.1))=true then
  if(inB s.2.1 s.2.2.2.2.2.2.1.length)=true then
   (s.2.2.2.2.2.2.1[s.2.1.toNat]?).bind λe381=>
   if(apB s.2.2.2.2.2.2.2.2.2.2.length 1 32)=true then
    if(apB s.2.2.2.2.2.2.2.2.2.1.length 1 48)=true then
     let y382:(yL V1):=s.2.2.2.2.2.2.2.2.2.1++([e381.2.1]:yL V1)
     some (.inl (s.1,wi (s.2.1+1),s.2.2.1,s.2.2.2.1,s.2.2.2.2.1,s.2.2.2.2.2.1,s.2.2.2.2.2.2.1,s.2.2.2.2.2.2.2.1,s.2.2.2.2.2.2.2.2.1,y382,s.2.2.2.2.2.2.2.2.2.2++([e381.1]:yL Out)))
    else
    none
   else
   none
  else
  none
 else
 some (.inr (s.2.2.1,s.2.2.2.1,s.2.2.2.2.1,s.2.2.2.2.2.1,s.2.2.2.2.2.2.1,s.2.2.2.2.2.2.2.1,s.2.2.2.2.2.2.2.2.1,s.2.2.2.2.2.2.2.2.2.1,s.2.2.2.2.2.2.2.2.2.2))
def Zok:Lp:=⟨[(8,.ref 2 []),(24,.ref 5 []),(200,.rw 4),(201,.v yI),(202,.v yI)],ZRA,tL3,[⟨.exit 3,[(8,.ref 2 []),(24,.ref 5 [])],ZRA,tL2⟩],Zb (X4 yD) yD⟩
def ZRB:HI:={ own:=[208,212,216,220],still:=[9,28,32,38,39,54,55,61,62,68,69,72,73,74,75,80,81,84,89,90,91,92,93,94,95,97,98,99,100,105,106,109,114,115,116,123,124,125,132,133,134,136,137,138,176,183,184],rowt:=[187],gst:=[(21,[([0],.u64,27)]),(22,[([0],.u64,27)]),(24,[([1],Vf,114),([0,1],ZM,112)])]}
theorem Zs2:Zok.okA yb 7 1:=Zv ZRB [] [] trivial
def WS(F:Nat)(a0:Chan)(a1:yG)(a2:Int)(a3:yU):yO ((Commit×Int)):=
 (VG F a2).bind λo346=>
 if(!o346)=true then
  some ((([],[],0),[]),1)
 else
 (XO F a3).bind λo347=>
 if(!o347)=true then
  some ((([],[],0),[]),1)
 else
 (ZaZ F a0 a1).bind λo348=>
 if(!o348)=true then
  some ((([],[],0),[]),14)
 else
 if(inB (wi (1 - a2)) 2)=true then
  (a0.2.2.2.1[(wi (1 - a2)).toNat]?).bind λe349=>
  if(inB (wi (1 - a2)) 2)=true then
   (a0.2.2.1[(wi (1 - a2)).toNat]?).bind λe350=>
   (ZgW F e350.2.2.2.2 a3).bind λo351=>
   if(inB a2 2)=true then
    (a0.2.2.1[a2.toNat]?).bind λe352=>
    (Zhi F e352.2.2.2.1 a3).bind λo353=>
    if(inB (wi (1 - a2)) 2)=true then
     (a0.2.2.1[(wi (1 - a2)).toNat]?).bind λe354=>
     (Zhi F e354.2.2.2.1 a3).bind λo355=>
     (QG F a0 a1 a2 a2).bind λo356=>
     if(inB a2 2)=true then
      (a0.2.2.2.1[a2.toNat]?).bind λe357=>
      (QF F e357 o356).bind λo358=>
      if o358=true then
       if(inB a2 2)=true then
        (a0.2.2.1[a2.toNat]?).bind λe359=>
        (Zhi F e359.2.2.1 a3).bind λo360=>
        (Zrv F o360 o351 e349.2.2.1).bind λo361=>
        (ZY F o356 o361 (1,(0,0,0,0,0)) [] []).bind λo362=>
        (QG F a0 a1 a2 (wi (1 - a2))).bind λo363=>
        if(inB a2 2)=true then
         (a0.2.2.2.1[a2.toNat]?).bind λe364=>
         (QF F e364 o363).bind λo365=>
         if o365=true then
          if(inB (wi (1 - a2)) 2)=true then
           (a0.2.2.1[(wi (1 - a2)).toNat]?).bind λe366=>
           (Zkv F e366.2.1).bind λo367=>
           (ZY F o363 o367 (2,(0,0,0,0,0)) o362.1 o362.2).bind λo368=>
           if(inB a2 2)=true then
            (a0.2.2.1[a2.toNat]?).bind λe369=>
            (Wq F e369.1).bind λo370=>
            (ZY F 330 o370 (3,(0,0,0,0,0)) o368.1 o368.2).bind λo371=>
            if(inB (wi (1 - a2)) 2)=true then
             (a0.2.2.1[(wi (1 - a2)).toNat]?).bind λe372=>
             (Wq F e372.1).bind λo373=>
             (ZY F 330 o373 (4,(0,0,0,0,0)) o371.1 o371.2).bind λo374=>
             (W6 F a0 a1 a2).bind λo375=>
             (Zb (Xp F) F (a2,e349.2.2.1,o351,o353,o355,o375,(o375.length:Int),0,a0,a1,(([],[],0),[]),o374.1,o374.2)).bind λo379=>
             (VJ F o379.2.2.2.2.1 o379.2.2.2.2.2).bind λo380=>
             if(decide (o379.2.2.2.2.1.length=o380.1.length)&&(decide (40=40)&&decide ((yx o379.2.2.2.2.2.length ()).length=o380.2.length)))=true then
              (Zb (X4 F) F ((o380.2.length:Int),0,o379.2.1,o379.2.2.1,o379.2.2.2.1,o380.1,o380.2,[(o379.2.1.1,(0,[],0))],wi ((wi (2*o379.2.2.1.1))+o379.1),[],[])).bind λo383=>
              some (((o383.2.2.2.2.2.1,o383.2.2.2.2.2.2.2.2,o383.2.2.2.2.2.2.1),o383.2.2.2.2.2.2.2.1),0)
             else
             none
            else
            none
           else
           none
          else
          none
         else
         if(inB a2 2)=true then
          (a0.2.2.1[a2.toNat]?).bind λe384=>
          (Wq F e384.1).bind λo385=>
          (ZY F 330 o385 (3,(0,0,0,0,0)) o362.1 o362.2).bind λo386=>
          if(inB (wi (1 - a2)) 2)=true then
           (a0.2.2.1[(wi (1 - a2)).toNat]?).bind λe387=>
           (Wq F e387.1).bind λo388=>
           (ZY F 330 o388 (4,(0,0,0,0,0)) o386.1 o386.2).bind λo389=>
           (W6 F a0 a1 a2).bind λo390=>
           (Zb (Xp F) F (a2,e349.2.2.1,o351,o353,o355,o390,(o390.length:Int),0,a0,a1,(([],[],0),[]),o389.1,o389.2)).bind λo391=>
           (VJ F o391.2.2.2.2.1 o391.2.2.2.2.2).bind λo392=>
           if(decide (o391.2.2.2.2.1.length=o392.1.length)&&(decide (40=40)&&decide ((yx o391.2.2.2.2.2.length ()).length=o392.2.length)))=true then
            (Zb (X4 F) F ((o392.2.length:Int),0,o391.2.1,o391.2.2.1,o391.2.2.2.1,o392.1,o392.2,[(o391.2.1.1,(0,[],0))],wi ((wi (2*o391.2.2.1.1))+o391.1),[],[])).bind λo393=>
            some (((o393.2.2.2.2.2.1,o393.2.2.2.2.2.2.2.2,o393.2.2.2.2.2.2.1),o393.2.2.2.2.2.2.2.1),0)
           else
           none
          else
          none
         else
         none
        else
        none
       else
       none
      else
      (QG F a0 a1 a2 (wi (1 - a2))).bind λo394=>
      if(inB a2 2)=true then
       (a0.2.2.2.1[a2.toNat]?).bind λe395=>
       (QF F e395 o394).bind λo396=>
       if o396=true then
        if(inB (wi (1 - a2)) 2)=true then
         (a0.2.2.1[(wi (1 - a2)).toNat]?).bind λe397=>
         (Zkv F e397.2.1).bind λo398=>
         (ZY F o394 o398 (2,(0,0,0,0,0)) [] []).bind λo399=>
         if(inB a2 2)=true then
          (a0.2.2.1[a2.toNat]?).bind λe400=>
          (Wq F e400.1).bind λo401=>
          (ZY F 330 o401 (3,(0,0,0,0,0)) o399.1 o399.2).bind λo402=>
          if(inB (wi (1 - a2)) 2)=true then
           (a0.2.2.1[(wi (1 - a2)).toNat]?).bind λe403=>
           (Wq F e403.1).bind λo404=>
           (ZY F 330 o404 (4,(0,0,0,0,0)) o402.1 o402.2).bind λo405=>
           (W6 F a0 a1 a2).bind λo406=>
           (Zb (Xp F) F (a2,e349.2.2.1,o351,o353,o355,o406,(o406.length:Int),0,a0,a1,(([],[],0),[]),o405.1,o405.2)).bind λo407=>
           (VJ F o407.2.2.2.2.1 o407.2.2.2.2.2).bind λo408=>
           if(decide (o407.2.2.2.2.1.length=o408.1.length)&&(decide (40=40)&&decide ((yx o407.2.2.2.2.2.length ()).length=o408.2.length)))=true then
            (Zb (X4 F) F ((o408.2.length:Int),0,o407.2.1,o407.2.2.1,o407.2.2.2.1,o408.1,o408.2,[(o407.2.1.1,(0,[],0))],wi ((wi (2*o407.2.2.1.1))+o407.1),[],[])).bind λo409=>
            some (((o409.2.2.2.2.2.1,o409.2.2.2.2.2.2.2.2,o409.2.2.2.2.2.2.1),o409.2.2.2.2.2.2.2.1),0)
           else
           none
          else
          none
         else
         none
        else
        none
       else
       if(inB a2 2)=true then
        (a0.2.2.1[a2.toNat]?).bind λe410=>
        (Wq F e410.1).bind λo411=>
        (ZY F 330 o411 (3,(0,0,0,0,0)) [] []).bind λo412=>
        if(inB (wi (1 - a2)) 2)=true then
         (a0.2.2.1[(wi (1 - a2)).toNat]?).bind λe413=>
         (Wq F e413.1).bind λo414=>
         (ZY F 330 o414 (4,(0,0,0,0,0)) o412.1 o412.2).bind λo415=>
         (W6 F a0 a1 a2).bind λo416=>
         (Zb (Xp F) F (a2,e349.2.2.1,o351,o353,o355,o416,(o416.length:Int),0,a0,a1,(([],[],0),[]),o415.1,o415.2)).bind λo417=>
         (VJ F o417.2.2.2.2.1 o417.2.2.2.2.2).bind λo418=>
         if(decide (o417.2.2.2.2.1.length=o418.1.length)&&(decide (40=40)&&decide ((yx o417.2.2.2.2.2.length ()).length=o418.2.length)))=true then
          (Zb (X4 F) F ((o418.2.length:Int),0,o417.2.1,o417.2.2.1,o417.2.2.2.1,o418.1,o418.2,[(o417.2.1.1,(0,[],0))],wi ((wi (2*o417.2.2.1.1))+o417.1),[],[])).bind λo419=>
          some (((o419.2.2.2.2.2.1,o419.2.2.2.2.2.2.2.2,o419.2.2.2.2.2.2.1),o419.2.2.2.2.2.2.2.1),0)
         else
         none
        else
        none
       else
       none
      else
      none
     else
     none
    else
    none
   else
   none
  else
  none
 else
 none
def Zh4(F:Nat):Fs yb:=⟨7,[.v Zu,.v Zf,.v yI,.v .u64],[],[Zu,Zf,yI,.u64],[⟨.ret,[(0,.tup [.v Xa,.v yI])],[],[Xa,yI]⟩],λx=>WS F x.1 x.2.1 x.2.2.1 x.2.2.2⟩
def Zjy:Fs yb:=Zh4 yD
theorem Zh5:Zjy.Ok:=ZPb (fi:={ hi:=ZRB,lp:=[(0,Zoj),(1,Zok)],gh:=[(11,.rowt 15 [] Zm 132),(31,.freshV 15)]}) (specs:={ l:=[Zjm,VW,Zjr,ZqN,Zyl,Zjv,Zju,Zvi,ZfY,Zyo,ZqO,ZhT,ZqU]}) (okS ⟨ZnT,Qo,Zn3,Zyk,ZFi,Zof,Zoe,ZCU,Zkx,ZFl,Zyq,ZmG,Zyx,ytt⟩) ⟨Zs1,Zs2,ytt⟩
def ZeH(F:Nat)(a0:Tx):yO ((Int×Int)):=
 if(decide (a0.2.2 < 0))=true then
  some (0,0)
 else
 some (wi (Int.tdiv a0.2.2 2),Int.tmod a0.2.2 2)
def ZfZ(F:Nat):Fs yb:=⟨9,[.v yTx],[],[yTx],[⟨.ret,[(0,.tup [.v yI,.v yI])],[],[yI,yI]⟩],λx=>ZeH F x⟩
def Zol:Fs yb:=ZfZ yD
theorem ZmK:Zol.Ok:=fnO { still:=[2,3]} [] [] trivial
def Zs3(F:Nat)(a0:(yL In)):yO ((yL In)):=
 if(apB 0 a0.length 80)=true then
  some a0
 else
 none
def ZJY(F:Nat):Fs yb:=⟨149,[.sl true yIn],[],[(.sl yIn)],(zN (.sl yIn)),λx=>Zs3 F x⟩
def ZMt:Fs yb:=ZJY yD
theorem ZJZ:ZMt.Ok:=fnO { own:=[5,7],still:=[2]} [] [] trivial
def Zyy(F:Nat):yO ((yL In)):=
 some []
def ZCW(F:Nat):Fs yb:=⟨149,[.nil yIn],[],[],(zN (.sl yIn)),λx=>Zyy F⟩
def ZFq:Fs yb:=ZCW yD
theorem ZCX:ZFq.Ok:=fnO { own:=[5,7],still:=[2]} [] [] trivial
def ZFr(F:Nat):Fs yb:=⟨149,[.v (.sl yIn)],[],[(.sl yIn)],(zN (.sl yIn)),λx=>Zs3 F x⟩
def ZHn:Fs yb:=ZFr yD
theorem ZFs:ZHn.Ok:=ZtU (t:=yIn) (xs:=(zN (.sl yIn))) (MA:=λ(x:(yL In))=>Zs3 yD x) (MB:=λ_=>Zyy yD) ZJZ ZCX rfl
def Zky(F:Nat)(a0:(yL Out)):yO ((yL Out)):=
 if(apB 0 a0.length 32)=true then
  some a0
 else
 none
def ZHo(F:Nat):Fs yb:=⟨150,[.sl true ZM],[],[(.sl ZM)],(zN (.sl ZM)),λx=>Zky F x⟩
def ZJ0:Fs yb:=ZHo yD
theorem ZHp:ZJ0.Ok:=fnO { own:=[5,7],still:=[2]} [] [] trivial
def Zvm(F:Nat):yO ((yL Out)):=
 some []
def Zz2(F:Nat):Fs yb:=⟨150,[.nil ZM],[],[],(zN (.sl ZM)),λx=>Zvm F⟩
def ZCY:Fs yb:=Zz2 yD
theorem Zz3:ZCY.Ok:=fnO { own:=[5,7],still:=[2]} [] [] trivial
def ZCZ(F:Nat):Fs yb:=⟨150,[.v (.sl ZM)],[],[(.sl ZM)],(zN (.sl ZM)),λx=>Zky F x⟩
def ZFt:Fs yb:=ZCZ yD
theorem ZC0:ZFt.Ok:=ZtU (t:=ZM) (xs:=(zN (.sl ZM))) (MA:=λ(x:(yL Out))=>Zky yD x) (MB:=λ_=>Zvm yD) ZHp Zz3 rfl
def ZcO(F:Nat)(a0:(yL Sig)):yO ((yL Sig)):=
 if(apB 0 a0.length 16)=true then
  some a0
 else
 none
def ZHq(F:Nat):Fs yb:=⟨151,[.sl true X5],[],[(.sl X5)],(zN (.sl X5)),λx=>ZcO F x⟩
def ZJ1:Fs yb:=ZHq yD
theorem ZHr:ZJ1.Ok:=fnO { own:=[5,7],still:=[2]} [] [] trivial
def Zvn(F:Nat):yO ((yL Sig)):=
 some []
def Zz4(F:Nat):Fs yb:=⟨151,[.nil X5],[],[],(zN (.sl X5)),λx=>Zvn F⟩
def ZC1:Fs yb:=Zz4 yD
theorem Zz5:ZC1.Ok:=fnO { own:=[5,7],still:=[2]} [] [] trivial
def ZC2(F:Nat):Fs yb:=⟨151,[.v (.sl X5)],[],[(.sl X5)],(zN (.sl X5)),λx=>ZcO F x⟩
def Ze5:Fs yb:=ZC2 yD
theorem ZgY:Ze5.Ok:=ZtU (t:=X5) (xs:=(zN (.sl X5))) (MA:=λ(x:(yL Sig))=>ZcO yD x) (MB:=λ_=>Zvn yD) ZHr Zz5 rfl
def Ze6(F:Nat)(a0:(yL Zn)):yO ((yL Zn)):=
 if(apB 0 a0.length 48)=true then
  some a0
 else
 none
def Zz6(F:Nat):Fs yb:=⟨152,[.sl true Ze],[],[(.sl Ze)],(zN (.sl Ze)),λx=>Ze6 F x⟩
def ZC3:Fs yb:=Zz6 yD
theorem Zz7:ZC3.Ok:=fnO { own:=[5,7],still:=[2]} [] [] trivial
def Zom(F:Nat):yO ((yL Zn)):=
 some []
def Zul(F:Nat):Fs yb:=⟨152,[.nil Ze],[],[],(zN (.sl Ze)),λx=>Zom F⟩
def Zv2:Fs yb:=Zul yD
theorem Zum:Zv2.Ok:=fnO { own:=[5,7],still:=[2]} [] [] trivial
def Zv3(F:Nat):Fs yb:=⟨152,[.v (.sl Ze)],[],[(.sl Ze)],(zN (.sl Ze)),λx=>Ze6 F x⟩
def Zyz:Fs yb:=Zv3 yD
theorem Zv4:Zyz.Ok:=ZtU (t:=Ze) (xs:=(zN (.sl Ze))) (MA:=λ(x:(yL Zn))=>Ze6 yD x) (MB:=λ_=>Zom yD) Zz7 Zum rfl
def ZlC(F:Nat)(a0:(yL In)):yO (((yL Unit)×(yL In))):=
 if(apB 0 a0.length 80)=true then
  some ([()],a0)
 else
 none
def ZC4(F:Nat):Fs yb:=⟨149,[.sl true yIn],[],[(.sl yIn)],[⟨.ret,[(0,.rw 0)],[.row yIn true 120],[(.sl (.st [])),(.sl yIn)]⟩],λx=>ZlC F x⟩
def ZFu:Fs yb:=ZC4 yD
theorem ZC5:ZFu.Ok:=fnO { own:=[5,7],rowt:=[2,5,7]} [] [] trivial
def ZlD(F:Nat)(a0:(yL In)):yO (((yL Unit)×(yL In))):=if a0.isEmpty=true then none else ZlC F a0
def ZyA(F:Nat):Fs yb:=⟨149,[.v (.sl yIn)],[],[(.sl yIn)],[⟨.ret,[(0,.rw 0)],[.row yIn true 120],[(.sl (.st [])),(.sl yIn)]⟩],λx=>ZlD F x⟩
def Zz8:Fs yb:=ZyA yD
theorem ZyB:Zz8.Ok:=ZCD (t:=yIn) (xs:=[⟨.ret,[(0,.rw 0)],[.row yIn true 120],[(.sl (.st [])),(.sl yIn)]⟩]) (MA:=λ(x:(yL In))=>ZlC yD x) ZC5 rfl (λ_ _=>rfl)
def Q6(F:Nat)(a0:(yL In)):yO (((yL Unit)×(yL In))⊕(yL In)):=if a0.isEmpty=true then(Zs3 F a0).map Sum.inr else(ZlD F a0).map Sum.inl
def Zv5(F:Nat):Fs yb:=⟨149,[.v (.sl yIn)],[],[(.sl yIn)],[⟨.ret,[(0,.rw 0)],[.row yIn true 120],[(.sl (.st [])),(.sl yIn)]⟩,⟨.ret,[(0,.v (.sl yIn))],[],[(.sl yIn)]⟩],λx=>Q6 F x⟩
def Zon:Fs yb:=Zv5 yD
theorem Zv6:Zon.Ok:=ZL7 (ins:=[(.sl yIn)]) (λx:(yL In)=>x.isEmpty) ZyB ZFs
def Ze7(F:Nat)(a0:(yL Out)):yO (((yL Unit)×(yL Out))):=
 if(apB 0 a0.length 32)=true then
  some ([()],a0)
 else
 none
def Zz9(F:Nat):Fs yb:=⟨150,[.sl true ZM],[],[(.sl ZM)],[⟨.ret,[(0,.rw 0)],[.row ZM true 112],[(.sl (.st [])),(.sl ZM)]⟩],λx=>Ze7 F x⟩
def ZC6:Fs yb:=Zz9 yD
theorem ZAa:ZC6.Ok:=fnO { own:=[5,7],rowt:=[2,5,7]} [] [] trivial
def ZeI(F:Nat)(a0:(yL Out)):yO (((yL Unit)×(yL Out))):=if a0.isEmpty=true then none else Ze7 F a0
def Zv7(F:Nat):Fs yb:=⟨150,[.v (.sl ZM)],[],[(.sl ZM)],[⟨.ret,[(0,.rw 0)],[.row ZM true 112],[(.sl (.st [])),(.sl ZM)]⟩],λx=>ZeI F x⟩
def ZyC:Fs yb:=Zv7 yD
theorem Zv8:ZyC.Ok:=ZCD (t:=ZM) (xs:=[⟨.ret,[(0,.rw 0)],[.row ZM true 112],[(.sl (.st [])),(.sl ZM)]⟩]) (MA:=λ(x:(yL Out))=>Ze7 yD x) ZAa rfl (λ_ _=>rfl)
def YF(F:Nat)(a0:(yL Out)):yO (((yL Unit)×(yL Out))⊕(yL Out)):=if a0.isEmpty=true then(Zky F a0).map Sum.inr else(ZeI F a0).map Sum.inl
def Zun(F:Nat):Fs yb:=⟨150,[.v (.sl ZM)],[],[(.sl ZM)],[⟨.ret,[(0,.rw 0)],[.row ZM true 112],[(.sl (.st [])),(.sl ZM)]⟩,⟨.ret,[(0,.v (.sl ZM))],[],[(.sl ZM)]⟩],λx=>YF F x⟩
def ZmL:Fs yb:=Zun yD
theorem Zuo:ZmL.Ok:=ZL7 (ins:=[(.sl ZM)]) (λx:(yL Out)=>x.isEmpty) Zv8 ZC0
def Zoo:HI:={ still:=[8,11,30,48,61,69],rowt:=[5,9,12,22,49,55,67]}
def ZcP(F:Nat)(a0:(yL Zn)):yO (((yL Unit)×(yL Zn))):=
 if(apB 0 a0.length 48)=true then
  some ([()],a0)
 else
 none
def Zup(F:Nat):Fs yb:=⟨152,[.sl true Ze],[],[(.sl Ze)],[⟨.ret,[(0,.rw 0)],[.row Ze true 124],[(.sl (.st [])),(.sl Ze)]⟩],λx=>ZcP F x⟩
def Zv9:Fs yb:=Zup yD
theorem Zuq:Zv9.Ok:=fnO { own:=[5,7],rowt:=[2,5,7]} [] [] trivial
def Zem(F:Nat)(a0:(yL Zn)):yO (((yL Unit)×(yL Zn))):=if a0.isEmpty=true then none else ZcP F a0
def ZrD(F:Nat):Fs yb:=⟨152,[.v (.sl Ze)],[],[(.sl Ze)],[⟨.ret,[(0,.rw 0)],[.row Ze true 124],[(.sl (.st [])),(.sl Ze)]⟩],λx=>Zem F x⟩
def Zs4:Fs yb:=ZrD yD
theorem ZrE:Zs4.Ok:=ZCD (t:=Ze) (xs:=[⟨.ret,[(0,.rw 0)],[.row Ze true 124],[(.sl (.st [])),(.sl Ze)]⟩]) (MA:=λ(x:(yL Zn))=>ZcP yD x) Zuq rfl (λ_ _=>rfl)
def Xb(F:Nat)(a0:(yL Zn)):yO (((yL Unit)×(yL Zn))⊕(yL Zn)):=if a0.isEmpty=true then(Ze6 F a0).map Sum.inr else(Zem F a0).map Sum.inl
def ZpU(F:Nat):Fs yb:=⟨152,[.v (.sl Ze)],[],[(.sl Ze)],[⟨.ret,[(0,.rw 0)],[.row Ze true 124],[(.sl (.st [])),(.sl Ze)]⟩,⟨.ret,[(0,.v (.sl Ze))],[],[(.sl Ze)]⟩],λx=>Xb F x⟩
def Vh:Fs yb:=ZpU yD
theorem V4:Vh.Ok:=ZL7 (ins:=[(.sl Ze)]) (λx:(yL Zn)=>x.isEmpty) ZrE Zv4
abbrev dT3:Type:=(Int×Int×Int×Int×Int×Int×Tx×(yL Unit)×(yL In)×(yL Unit)×(yL Out)×(yL Unit)×(yL Zn))
abbrev dT4:Type:=(Int×Int×Int×Int×Tx×(yL Unit)×(yL In)×(yL Unit)×(yL Out)×(yL Unit)×(yL Zn))
abbrev tL4:yL Ty:=[yI,yI,yI,yI,yTx,(.sl (.st [])),(.sl yIn),(.sl (.st [])),(.sl ZM),(.sl (.st [])),(.sl Ze)]
abbrev tL5:yL Ty:=[yI,yI,yI,yI,yI,yI,yTx,(.sl (.st [])),(.sl yIn),(.sl (.st [])),(.sl ZM),(.sl (.st [])),(.sl Ze)]
abbrev qL:=Int×Tx×(yL Unit)×(yL In)×(yL Unit)×(yL Out)
abbrev dT5:Type:=(Int×(yL Zn)×Int×Int×Int×Int×qL)
abbrev tL6:yL Ty:=[yI,(.sl Ze),yI,yI,yI,yTx,(.sl (.st [])),(.sl yIn),(.sl (.st [])),(.sl ZM)]
abbrev tL7:yL Ty:=[yI,(.sl Ze),yI,yI,yI,yI,yI,yTx,(.sl (.st [])),(.sl yIn),(.sl (.st [])),(.sl ZM)]
abbrev dT6:Type:=(Int×Int×Int×Int×Int×(yL Out)×Int×Tx×(yL Unit)×(yL In)×(yL Unit)×(yL Zn))
abbrev tL8:yL Ty:=[yI,yI,yI,(.sl ZM),yI,yTx,(.sl (.st [])),(.sl yIn),(.sl (.st [])),(.sl Ze)]
abbrev tL9:yL Ty:=[yI,yI,yI,yI,yI,(.sl ZM),yI,yTx,(.sl (.st [])),(.sl yIn),(.sl (.st [])),(.sl Ze)]
abbrev ZR6:yL Ty:=[yI,(.sl Ze),yI,yI,(.sl ZM),yI,yTx,(.sl (.st [])),(.sl yIn)]
abbrev ZR7:yL Ty:=[yI,(.sl Ze),yI,yI,yI,yI,(.sl ZM),yI,yTx,(.sl (.st [])),(.sl yIn)]
abbrev dT7:Type:=(Int×Int×Int×Int×Int×(yL In)×Int×Tx×(yL Unit)×(yL Out)×(yL Unit)×(yL Zn))
abbrev ZR8:yL Ty:=[yI,yI,yI,(.sl yIn),yI,yTx,(.sl (.st [])),(.sl ZM),(.sl (.st [])),(.sl Ze)]
abbrev ZR9:yL Ty:=[yI,yI,yI,yI,yI,(.sl yIn),yI,yTx,(.sl (.st [])),(.sl ZM),(.sl (.st [])),(.sl Ze)]
abbrev ZSa:yL Ty:=[yI,(.sl Ze),yI,yI,(.sl yIn),yI,yTx,(.sl (.st [])),(.sl ZM)]
abbrev ZSb:yL Ty:=[yI,(.sl Ze),yI,yI,yI,yI,(.sl yIn),yI,yTx,(.sl (.st [])),(.sl ZM)]
abbrev ZSc:yL Ty:=[yI,yI,yI,yI,yI,yTx,yTx,(.sl (.st [])),(.sl Ze)]
def Wx(F:Nat)(s:(Int×Int×qL)):yO ((Int×Int×qL)⊕(qL)):=
 if(decide (s.2.1 < s.1))=true then
  if(inB s.2.1 s.2.2.2.2.2.1.length)=true then
   (s.2.2.2.2.2.1[s.2.1.toNat]?).bind λe546=>
   (ZcO F e546.2.2.1).bind λo547=>
   if(inB s.2.1 s.2.2.2.2.2.1.length)=true then
    (s.2.2.2.2.2.1[s.2.1.toNat]?).bind λe548=>
    let y549:(yL In):=s.2.2.2.2.2.1.set s.2.1.toNat (e548.1,(e548.2.1,o547,e548.2.2.2))
    some (.inl (s.1,wi (s.2.1+1),s.2.2.1,s.2.2.2.1,s.2.2.2.2.1,y549,s.2.2.2.2.2.2.1,s.2.2.2.2.2.2.2))
   else
   none
  else
  none
 else
 some (.inr (s.2.2.1,s.2.2.2.1,s.2.2.2.2.1,s.2.2.2.2.2.1,s.2.2.2.2.2.2.1,s.2.2.2.2.2.2.2))
abbrev zG:List ESh:=[.var (.agg [.rw 2,.rw 3,.v yI]) true,.var (.v yTx) true,.row yIn true 120,.row ZM true 112]
def Zf7:Lp:=⟨[(1,.ref 0 []),(2,.ref 1 []),(17,.v yI),(18,.v yI)],zG,[yI,yI,yI,yTx,(.sl (.st [])),(.sl yIn),(.sl (.st [])),(.sl ZM)],[⟨.exit 0,[(1,.ref 0 []),(2,.ref 1 [])],zG,[yI,yTx,(.sl (.st [])),(.sl yIn),(.sl (.st [])),(.sl ZM)]⟩],Zb (Wx yD) yD⟩
theorem ZlE:Zf7.okA yb 76 0:=Zv Zoo [] [Ze5] ⟨ZgY,ytt⟩
def Wy(F:Nat)(s:dT3):yO (dT3⊕dT4):=
 if(decide (s.2.2.2.2.1 < s.2.2.2.1))=true then
  if(inB s.2.2.2.2.1 s.2.2.2.2.2.2.2.2.2.2.2.2.length)=true then
   (s.2.2.2.2.2.2.2.2.2.2.2.2[s.2.2.2.2.1.toNat]?).bind λe554=>
   (ZX F e554.1).bind λo555=>
   if(inB s.2.2.2.2.1 s.2.2.2.2.2.2.2.2.2.2.2.2.length)=true then
    (s.2.2.2.2.2.2.2.2.2.2.2.2[s.2.2.2.2.1.toNat]?).bind λe556=>
    let y557:(yL Zn):=s.2.2.2.2.2.2.2.2.2.2.2.2.set s.2.2.2.2.1.toNat (o555,e556.2.1,e556.2.2.1,e556.2.2.2)
    some (.inl (s.1,s.2.1,s.2.2.1,s.2.2.2.1,wi (s.2.2.2.2.1+1),s.2.2.2.2.2.1,s.2.2.2.2.2.2.1,s.2.2.2.2.2.2.2.1,s.2.2.2.2.2.2.2.2.1,s.2.2.2.2.2.2.2.2.2.1,s.2.2.2.2.2.2.2.2.2.2.1,s.2.2.2.2.2.2.2.2.2.2.2.1,y557))
   else
   none
  else
  none
 else
 some (.inr (s.1,s.2.1,s.2.2.1,s.2.2.2.2.2.1,s.2.2.2.2.2.2.1,s.2.2.2.2.2.2.2.1,s.2.2.2.2.2.2.2.2.1,s.2.2.2.2.2.2.2.2.2.1,s.2.2.2.2.2.2.2.2.2.2.1,s.2.2.2.2.2.2.2.2.2.2.2.1,s.2.2.2.2.2.2.2.2.2.2.2.2))
abbrev zT:List ESh:=[.var (.agg [.rw 2,.rw 3,.v yI]) true,.var (.v yTx) true,.row yIn true 120,.row ZM true 112,.row Ze true 124]
def Zf8:Lp:=⟨[(1,.ref 0 []),(2,.ref 1 []),(4,.v yI),(5,.rw 4),(38,.v yI),(39,.v yI),(51,.v yI),(52,.v yI)],zT,tL5,[⟨.exit 4,[(1,.ref 0 []),(2,.ref 1 []),(4,.v yI),(5,.rw 4),(38,.v yI),(39,.v yI)],zT,tL4⟩],Zb (Wy yD) yD⟩
theorem ZlF:Zf8.okA yb 76 2:=Zv Zoo [] [Yg] ⟨Yi,ytt⟩
def WT(F:Nat)(s:dT5):yO (dT5⊕(Int×(yL Zn)×Int×Int×qL)):=
 if(decide (s.2.2.2.2.2.1 < s.2.2.2.2.1))=true then
  (idx s.2.1 s.2.2.2.2.2.1).bind λe562=>
  (ZX F e562.1).bind λo563=>
  (idx s.2.1 s.2.2.2.2.2.1).bind λe564=>
  none
 else
 some (.inr (s.1,s.2.1,s.2.2.1,s.2.2.2.1,s.2.2.2.2.2.2.1,s.2.2.2.2.2.2.2.1,s.2.2.2.2.2.2.2.2.1,s.2.2.2.2.2.2.2.2.2.1,s.2.2.2.2.2.2.2.2.2.2.1,s.2.2.2.2.2.2.2.2.2.2.2))
def Zdi:Lp:=⟨[(1,.ref 0 []),(2,.ref 1 []),(4,.v yI),(5,.v (.sl Ze)),(38,.v yI),(39,.v yI),(51,.v yI),(52,.v yI)],zG,tL7,[⟨.exit 4,[(1,.ref 0 []),(2,.ref 1 []),(4,.v yI),(5,.v (.sl Ze)),(38,.v yI),(39,.v yI)],zG,tL6⟩],Zb (WT yD) yD⟩
theorem Zjz:Zdi.okA yb 76 2:=Zv Zoo [] [Yg] ⟨Yi,ytt⟩
def Wz(F:Nat)(s:(Int×Int×qL)):yO ((Int×Int×qL)⊕(qL)):=
 if(decide (s.2.1 < s.1))=true then
  if(inB s.2.1 s.2.2.2.2.2.2.2.length)=true then
   (s.2.2.2.2.2.2.2[s.2.1.toNat]?).bind λe551=>
   (Xb F e551.2).bind λo552=>
   match o552 with
   |.inl o553=>
    (Zb (Wy F) F (s.2.1,s.1,s.2.1,(o553.2.length:Int),0,s.2.2.1,s.2.2.2.1,s.2.2.2.2.1,s.2.2.2.2.2.1,s.2.2.2.2.2.2.1,s.2.2.2.2.2.2.2,o553.1,o553.2)).bind λo558=>
    if(inB o558.1 o558.2.2.2.2.2.2.2.2.1.length)=true then
     (o558.2.2.2.2.2.2.2.2.1[o558.1.toNat]?).bind λe559=>
     let y560:(yL Out):=o558.2.2.2.2.2.2.2.2.1.set o558.1.toNat (e559.1,o558.2.2.2.2.2.2.2.2.2.2)
     some (.inl (o558.2.1,wi (o558.2.2.1+1),o558.2.2.2.1,o558.2.2.2.2.1,o558.2.2.2.2.2.1,o558.2.2.2.2.2.2.1,o558.2.2.2.2.2.2.2.1,y560))
    else
    none
   |.inr o561=>
    (Zb (WT F) F (s.2.1,o561,s.1,s.2.1,(o561.length:Int),0,s.2.2.1,s.2.2.2.1,s.2.2.2.2.1,s.2.2.2.2.2.1,s.2.2.2.2.2.2.1,s.2.2.2.2.2.2.2)).bind λo565=>
    if(inB o565.1 o565.2.2.2.2.2.2.2.2.2.length)=true then
     (o565.2.2.2.2.2.2.2.2.2[o565.1.toNat]?).bind λe566=>
     let y567:(yL Out):=o565.2.2.2.2.2.2.2.2.2.set o565.1.toNat (e566.1,o565.2.1)
     some (.inl (o565.2.2.1,wi (o565.2.2.2.1+1),o565.2.2.2.2.1,o565.2.2.2.2.2.1,o565.2.2.2.2.2.2.1,o565.2.2.2.2.2.2.2.1,o565.2.2.2.2.2.2.2.2.1,y567))
    else
    none
  else
  none
 else
 some (.inr (s.2.2.1,s.2.2.2.1,s.2.2.2.2.1,s.2.2.2.2.2.1,s.2.2.2.2.2.2.1,s.2.2.2.2.2.2.2))
def Zf9:Lp:=⟨[(1,.ref 0 []),(2,.ref 1 []),(38,.v yI),(39,.v yI)],zG,[yI,yI,yI,yTx,(.sl (.st [])),(.sl yIn),(.sl (.st [])),(.sl ZM)],[⟨.exit 2,[(1,.ref 0 []),(2,.ref 1 [])],zG,[yI,yTx,(.sl (.st [])),(.sl yIn),(.sl (.st [])),(.sl ZM)]⟩],Zb (Wz yD) yD⟩
theorem ZlG:Zf9.okA yb 76 1:=Zv Zoo [(2,Zf8),(2,Zdi)] [Vh] ⟨V4,ytt⟩ ⟨ZlF,Zjz,ytt⟩
abbrev qU:=Int×Int×(yL Out)×Int×Tx×(yL Unit)×(yL In)
def XR(F:Nat)(s:(qU)):yO ((qU)⊕((yL Out)×Int×Tx×(yL Unit)×(yL In))):=
 if(decide (s.2.1 < s.1))=true then
  if(inB s.2.1 s.2.2.2.2.2.2.length)=true then
   (s.2.2.2.2.2.2[s.2.1.toNat]?).bind λe570=>
   (ZcO F e570.2.2.1).bind λo571=>
   if(inB s.2.1 s.2.2.2.2.2.2.length)=true then
    (s.2.2.2.2.2.2[s.2.1.toNat]?).bind λe572=>
    let y573:(yL In):=s.2.2.2.2.2.2.set s.2.1.toNat (e572.1,(e572.2.1,o571,e572.2.2.2))
    some (.inl (s.1,wi (s.2.1+1),s.2.2.1,s.2.2.2.1,s.2.2.2.2.1,s.2.2.2.2.2.1,y573))
   else
   none
  else
  none
 else
 some (.inr (s.2.2.1,s.2.2.2.1,s.2.2.2.2.1,s.2.2.2.2.2.1,s.2.2.2.2.2.2))
abbrev zJ:List ESh:=[.var (.agg [.rw 2,.v (.sl ZM),.v yI]) true,.var (.v yTx) true,.row yIn true 120]
def Zdj:Lp:=⟨[(1,.ref 0 []),(2,.ref 1 []),(17,.v yI),(18,.v yI)],zJ,[yI,yI,(.sl ZM),yI,yTx,(.sl (.st [])),(.sl yIn)],[⟨.exit 0,[(1,.ref 0 []),(2,.ref 1 [])],zJ,[(.sl ZM),yI,yTx,(.sl (.st [])),(.sl yIn)]⟩],Zb (XR yD) yD⟩
theorem ZjA:Zdj.okA yb 76 0:=Zv Zoo [] [Ze5] ⟨ZgY,ytt⟩
def Zbc(F:Nat)(s:dT6):yO (dT6⊕(Int×Int×Int×(yL Out)×Int×Tx×(yL Unit)×(yL In)×(yL Unit)×(yL Zn))):=
 if(decide (s.2.2.2.2.1 < s.2.2.2.1))=true then
  if(inB s.2.2.2.2.1 s.2.2.2.2.2.2.2.2.2.2.2.length)=true then
   (s.2.2.2.2.2.2.2.2.2.2.2[s.2.2.2.2.1.toNat]?).bind λe578=>
   (ZX F e578.1).bind λo579=>
   if(inB s.2.2.2.2.1 s.2.2.2.2.2.2.2.2.2.2.2.length)=true then
    (s.2.2.2.2.2.2.2.2.2.2.2[s.2.2.2.2.1.toNat]?).bind λe580=>
    let y581:(yL Zn):=s.2.2.2.2.2.2.2.2.2.2.2.set s.2.2.2.2.1.toNat (o579,e580.2.1,e580.2.2.1,e580.2.2.2)
    some (.inl (s.1,s.2.1,s.2.2.1,s.2.2.2.1,wi (s.2.2.2.2.1+1),s.2.2.2.2.2.1,s.2.2.2.2.2.2.1,s.2.2.2.2.2.2.2.1,s.2.2.2.2.2.2.2.2.1,s.2.2.2.2.2.2.2.2.2.1,s.2.2.2.2.2.2.2.2.2.2.1,y581))
   else
   none
  else
  none
 else
 some (.inr (s.1,s.2.1,s.2.2.1,s.2.2.2.2.2.1,s.2.2.2.2.2.2.1,s.2.2.2.2.2.2.2.1,s.2.2.2.2.2.2.2.2.1,s.2.2.2.2.2.2.2.2.2.1,s.2.2.2.2.2.2.2.2.2.2.1,s.2.2.2.2.2.2.2.2.2.2.2))
abbrev zE:List ESh:=[.var (.agg [.rw 2,.v (.sl ZM),.v yI]) true,.var (.v yTx) true,.row yIn true 120,.row Ze true 124]
def Zbs:Lp:=⟨[(1,.ref 0 []),(2,.ref 1 []),(4,.v yI),(5,.rw 3),(38,.v yI),(39,.v yI),(51,.v yI),(52,.v yI)],zE,tL9,[⟨.exit 4,[(1,.ref 0 []),(2,.ref 1 []),(4,.v yI),(5,.rw 3),(38,.v yI),(39,.v yI)],zE,tL8⟩],Zb (Zbc yD) yD⟩
theorem ZgZ:Zbs.okA yb 76 2:=Zv Zoo [] [Yg] ⟨Yi,ytt⟩
def Zag(F:Nat)(s:(Int×(yL Zn)×Int×Int×qU)):yO ((Int×(yL Zn)×Int×Int×qU)⊕(Int×(yL Zn)×qU)):=
 if(decide (s.2.2.2.2.2.1 < s.2.2.2.2.1))=true then
  (idx s.2.1 s.2.2.2.2.2.1).bind λe585=>
  (ZX F e585.1).bind λo586=>
  (idx s.2.1 s.2.2.2.2.2.1).bind λe587=>
  none
 else
 some (.inr (s.1,s.2.1,s.2.2.1,s.2.2.2.1,s.2.2.2.2.2.2.1,s.2.2.2.2.2.2.2.1,s.2.2.2.2.2.2.2.2.1,s.2.2.2.2.2.2.2.2.2.1,s.2.2.2.2.2.2.2.2.2.2))
def ZaD:Lp:=⟨[(1,.ref 0 []),(2,.ref 1 []),(4,.v yI),(5,.v (.sl Ze)),(38,.v yI),(39,.v yI),(51,.v yI),(52,.v yI)],zJ,ZR7,[⟨.exit 4,[(1,.ref 0 []),(2,.ref 1 []),(4,.v yI),(5,.v (.sl Ze)),(38,.v yI),(39,.v yI)],zJ,ZR6⟩],Zb (Zag yD) yD⟩
theorem Ze8:ZaD.okA yb 76 2:=Zv Zoo [] [Yg] ⟨Yi,ytt⟩
def WU(F:Nat)(s:(qU)):yO ((qU)⊕((yL Out)×Int×Tx×(yL Unit)×(yL In))):=
 if(decide (s.2.1 < s.1))=true then
  (idx s.2.2.1 s.2.1).bind λe575=>
  (Xb F e575.2).bind λo576=>
  match o576 with
  |.inl o577=>
   (Zb (Zbc F) F (s.2.1,s.1,s.2.1,(o577.2.length:Int),0,s.2.2.1,s.2.2.2.1,s.2.2.2.2.1,s.2.2.2.2.2.1,s.2.2.2.2.2.2,o577.1,o577.2)).bind λo582=>
   (idx o582.2.2.2.1 o582.1).bind λe583=>
   none
  |.inr o584=>
   (Zb (Zag F) F (s.2.1,o584,s.1,s.2.1,(o584.length:Int),0,s.2.2.1,s.2.2.2.1,s.2.2.2.2.1,s.2.2.2.2.2.1,s.2.2.2.2.2.2)).bind λo588=>
   (idx o588.2.2.2.2.1 o588.1).bind λe589=>
   none
 else
 some (.inr (s.2.2.1,s.2.2.2.1,s.2.2.2.2.1,s.2.2.2.2.2.1,s.2.2.2.2.2.2))
def Zdk:Lp:=⟨[(1,.ref 0 []),(2,.ref 1 []),(38,.v yI),(39,.v yI)],zJ,[yI,yI,(.sl ZM),yI,yTx,(.sl (.st [])),(.sl yIn)],[⟨.exit 2,[(1,.ref 0 []),(2,.ref 1 [])],zJ,[(.sl ZM),yI,yTx,(.sl (.st [])),(.sl yIn)]⟩],Zb (WU yD) yD⟩
theorem ZjB:Zdk.okA yb 76 1:=Zv Zoo [(2,Zbs),(2,ZaD)] [Vh] ⟨V4,ytt⟩ ⟨ZgZ,Ze8,ytt⟩
abbrev qB:=Int×Int×(yL In)×Int×Tx×(yL Unit)×(yL Out)
def WV(F:Nat)(s:(qB)):yO ((qB)⊕((yL In)×Int×Tx×(yL Unit)×(yL Out))):=
 if(decide (s.2.1 < s.1))=true then
  (idx s.2.2.1 s.2.1).bind λe594=>
  (ZcO F e594.2.2.1).bind λo595=>
  (idx s.2.2.1 s.2.1).bind λe596=>
  none
 else
 some (.inr (s.2.2.1,s.2.2.2.1,s.2.2.2.2.1,s.2.2.2.2.2.1,s.2.2.2.2.2.2))
abbrev zK:List ESh:=[.var (.agg [.v (.sl yIn),.rw 2,.v yI]) true,.var (.v yTx) true,.row ZM true 112]
def Zdl:Lp:=⟨[(1,.ref 0 []),(2,.ref 1 []),(17,.v yI),(18,.v yI)],zK,[yI,yI,(.sl yIn),yI,yTx,(.sl (.st [])),(.sl ZM)],[⟨.exit 0,[(1,.ref 0 []),(2,.ref 1 [])],zK,[(.sl yIn),yI,yTx,(.sl (.st [])),(.sl ZM)]⟩],Zb (WV yD) yD⟩
theorem ZjC:Zdl.okA yb 76 0:=Zv Zoo [] [Ze5] ⟨ZgY,ytt⟩
def YZ(F:Nat)(s:dT7):yO (dT7⊕(Int×Int×Int×(yL In)×Int×Tx×(yL Unit)×(yL Out)×(yL Unit)×(yL Zn))):=
 if(decide (s.2.2.2.2.1 < s.2.2.2.1))=true then
  if(inB s.2.2.2.2.1 s.2.2.2.2.2.2.2.2.2.2.2.length)=true then
   (s.2.2.2.2.2.2.2.2.2.2.2[s.2.2.2.2.1.toNat]?).bind λe601=>
   (ZX F e601.1).bind λo602=>
   if(inB s.2.2.2.2.1 s.2.2.2.2.2.2.2.2.2.2.2.length)=true then
    (s.2.2.2.2.2.2.2.2.2.2.2[s.2.2.2.2.1.toNat]?).bind λe603=>
    let y604:(yL Zn):=s.2.2.2.2.2.2.2.2.2.2.2.set s.2.2.2.2.1.toNat (o602,e603.2.1,e603.2.2.1,e603.2.2.2)
    some (.inl (s.1,s.2.1,s.2.2.1,s.2.2.2.1,wi (s.2.2.2.2.1+1),s.2.2.2.2.2.1,s.2.2.2.2.2.2.1,s.2.2.2.2.2.2.2.1,s.2.2.2.2.2.2.2.2.1,s.2.2.2.2.2.2.2.2.2.1,s.2.2.2.2.2.2.2.2.2.2.1,y604))
   else
   none
  else
  none
 else
 some (.inr (s.1,s.2.1,s.2.2.1,s.2.2.2.2.2.1,s.2.2.2.2.2.2.1,s.2.2.2.2.2.2.2.1,s.2.2.2.2.2.2.2.2.1,s.2.2.2.2.2.2.2.2.2.1,s.2.2.2.2.2.2.2.2.2.2.1,s.2.2.2.2.2.2.2.2.2.2.2))
abbrev zF:List ESh:=[.var (.agg [.v (.sl yIn),.rw 2,.v yI]) true,.var (.v yTx) true,.row ZM true 112,.row Ze true 124]
def Zbt:Lp:=⟨[(1,.ref 0 []),(2,.ref 1 []),(4,.v yI),(5,.rw 3),(38,.v yI),(39,.v yI),(51,.v yI),(52,.v yI)],zF,ZR9,[⟨.exit 4,[(1,.ref 0 []),(2,.ref 1 []),(4,.v yI),(5,.rw 3),(38,.v yI),(39,.v yI)],zF,ZR8⟩],Zb (YZ yD) yD⟩
theorem Zg0:Zbt.okA yb 76 2:=Zv Zoo [] [Yg] ⟨Yi,ytt⟩
def XK(F:Nat)(s:(Int×(yL Zn)×Int×Int×qB)):yO ((Int×(yL Zn)×Int×Int×qB)⊕(Int×(yL Zn)×qB)):=
 if(decide (s.2.2.2.2.2.1 < s.2.2.2.2.1))=true then
  (idx s.2.1 s.2.2.2.2.2.1).bind λe609=>
  (ZX F e609.1).bind λo610=>
  (idx s.2.1 s.2.2.2.2.2.1).bind λe611=>
  none
 else
 some (.inr (s.1,s.2.1,s.2.2.1,s.2.2.2.1,s.2.2.2.2.2.2.1,s.2.2.2.2.2.2.2.1,s.2.2.2.2.2.2.2.2.1,s.2.2.2.2.2.2.2.2.2.1,s.2.2.2.2.2.2.2.2.2.2))
def ZaE:Lp:=⟨[(1,.ref 0 []),(2,.ref 1 []),(4,.v yI),(5,.v (.sl Ze)),(38,.v yI),(39,.v yI),(51,.v yI),(52,.v yI)],zK,ZSb,[⟨.exit 4,[(1,.ref 0 []),(2,.ref 1 []),(4,.v yI),(5,.v (.sl Ze)),(38,.v yI),(39,.v yI)],zK,ZSa⟩],Zb (XK yD) yD⟩
theorem Ze9:ZaE.okA yb 76 2:=Zv Zoo [] [Yg] ⟨Yi,ytt⟩
def XS(F:Nat)(s:(qB)):yO ((qB)⊕((yL In)×Int×Tx×(yL Unit)×(yL Out))):=
 if(decide (s.2.1 < s.1))=true then
  if(inB s.2.1 s.2.2.2.2.2.2.length)=true then
   (s.2.2.2.2.2.2[s.2.1.toNat]?).bind λe598=>
   (Xb F e598.2).bind λo599=>
   match o599 with
   |.inl o600=>
    (Zb (YZ F) F (s.2.1,s.1,s.2.1,(o600.2.length:Int),0,s.2.2.1,s.2.2.2.1,s.2.2.2.2.1,s.2.2.2.2.2.1,s.2.2.2.2.2.2,o600.1,o600.2)).bind λo605=>
    if(inB o605.1 o605.2.2.2.2.2.2.2.1.length)=true then
     (o605.2.2.2.2.2.2.2.1[o605.1.toNat]?).bind λe606=>
     let y607:(yL Out):=o605.2.2.2.2.2.2.2.1.set o605.1.toNat (e606.1,o605.2.2.2.2.2.2.2.2.2)
     some (.inl (o605.2.1,wi (o605.2.2.1+1),o605.2.2.2.1,o605.2.2.2.2.1,o605.2.2.2.2.2.1,o605.2.2.2.2.2.2.1,y607))
    else
    none
   |.inr o608=>
    (Zb (XK F) F (s.2.1,o608,s.1,s.2.1,(o608.length:Int),0,s.2.2.1,s.2.2.2.1,s.2.2.2.2.1,s.2.2.2.2.2.1,s.2.2.2.2.2.2)).bind λo612=>
    if(inB o612.1 o612.2.2.2.2.2.2.2.2.length)=true then
     (o612.2.2.2.2.2.2.2.2[o612.1.toNat]?).bind λe613=>
     let y614:(yL Out):=o612.2.2.2.2.2.2.2.2.set o612.1.toNat (e613.1,o612.2.1)
     some (.inl (o612.2.2.1,wi (o612.2.2.2.1+1),o612.2.2.2.2.1,o612.2.2.2.2.2.1,o612.2.2.2.2.2.2.1,o612.2.2.2.2.2.2.2.1,y614))
    else
    none
  else
  none
 else
 some (.inr (s.2.2.1,s.2.2.2.1,s.2.2.2.2.1,s.2.2.2.2.2.1,s.2.2.2.2.2.2))
def Zdm:Lp:=⟨[(1,.ref 0 []),(2,.ref 1 []),(38,.v yI),(39,.v yI)],zK,[yI,yI,(.sl yIn),yI,yTx,(.sl (.st [])),(.sl ZM)],[⟨.exit 2,[(1,.ref 0 []),(2,.ref 1 [])],zK,[(.sl yIn),yI,yTx,(.sl (.st [])),(.sl ZM)]⟩],Zb (XS yD) yD⟩
theorem ZjD:Zdm.okA yb 76 1:=Zv Zoo [(2,Zbt),(2,ZaE)] [Vh] ⟨V4,ytt⟩ ⟨Zg0,Ze9,ytt⟩
def WW(F:Nat)(s:(Int×Int×Tx×Tx)):yO ((Int×Int×Tx×Tx)⊕(Tx×Tx)):=
 if(decide (s.2.1 < s.1))=true then
  (idx s.2.2.1.1 s.2.1).bind λe617=>
  (ZcO F e617.2.2.1).bind λo618=>
  (idx s.2.2.1.1 s.2.1).bind λe619=>
  none
 else
 some (.inr (s.2.2.1,s.2.2.2))
def Zdn:Lp:=⟨[(1,.ref 0 []),(2,.ref 1 []),(17,.v yI),(18,.v yI)],[.var (.v yTx) true,.var (.v yTx) true],[yI,yI,yTx,yTx],[⟨.exit 0,[(1,.ref 0 []),(2,.ref 1 [])],[.var (.v yTx) true,.var (.v yTx) true],[yTx,yTx]⟩],Zb (WW yD) yD⟩
theorem ZjE:Zdn.okA yb 76 0:=Zv Zoo [] [Ze5] ⟨ZgY,ytt⟩
def Zbd(F:Nat)(s:(Int×Int×Int×Int×Int×Tx×Tx×(yL Unit)×(yL Zn))):yO ((Int×Int×Int×Int×Int×Tx×Tx×(yL Unit)×(yL Zn))⊕(Int×Int×Int×Tx×Tx×(yL Unit)×(yL Zn))):=
 if(decide (s.2.2.2.2.1 < s.2.2.2.1))=true then
  if(inB s.2.2.2.2.1 s.2.2.2.2.2.2.2.2.length)=true then
   (s.2.2.2.2.2.2.2.2[s.2.2.2.2.1.toNat]?).bind λe624=>
   (ZX F e624.1).bind λo625=>
   if(inB s.2.2.2.2.1 s.2.2.2.2.2.2.2.2.length)=true then
    (s.2.2.2.2.2.2.2.2[s.2.2.2.2.1.toNat]?).bind λe626=>
    let y627:(yL Zn):=s.2.2.2.2.2.2.2.2.set s.2.2.2.2.1.toNat (o625,e626.2.1,e626.2.2.1,e626.2.2.2)
    some (.inl (s.1,s.2.1,s.2.2.1,s.2.2.2.1,wi (s.2.2.2.2.1+1),s.2.2.2.2.2.1,s.2.2.2.2.2.2.1,s.2.2.2.2.2.2.2.1,y627))
   else
   none
  else
  none
 else
 some (.inr (s.1,s.2.1,s.2.2.1,s.2.2.2.2.2.1,s.2.2.2.2.2.2.1,s.2.2.2.2.2.2.2.1,s.2.2.2.2.2.2.2.2))
def Zbu:Lp:=⟨[(1,.ref 0 []),(2,.ref 1 []),(4,.v yI),(5,.rw 2),(38,.v yI),(39,.v yI),(51,.v yI),(52,.v yI)],[.var (.v yTx) true,.var (.v yTx) true,.row Ze true 124],ZSc,[⟨.exit 4,[(1,.ref 0 []),(2,.ref 1 []),(4,.v yI),(5,.rw 2),(38,.v yI),(39,.v yI)],[.var (.v yTx) true,.var (.v yTx) true,.row Ze true 124],[yI,yI,yI,yTx,yTx,(.sl (.st [])),(.sl Ze)]⟩],Zb (Zbd yD) yD⟩
theorem Zg1:Zbu.okA yb 76 2:=Zv Zoo [] [Yg] ⟨Yi,ytt⟩
def Zah(F:Nat)(s:(Int×(yL Zn)×Int×Int×Int×Int×Tx×Tx)):yO ((Int×(yL Zn)×Int×Int×Int×Int×Tx×Tx)⊕(Int×(yL Zn)×Int×Int×Tx×Tx)):=
 if(decide (s.2.2.2.2.2.1 < s.2.2.2.2.1))=true then
  (idx s.2.1 s.2.2.2.2.2.1).bind λe631=>
  (ZX F e631.1).bind λo632=>
  (idx s.2.1 s.2.2.2.2.2.1).bind λe633=>
  none
 else
 some (.inr (s.1,s.2.1,s.2.2.1,s.2.2.2.1,s.2.2.2.2.2.2.1,s.2.2.2.2.2.2.2))
def ZaF:Lp:=⟨[(1,.ref 0 []),(2,.ref 1 []),(4,.v yI),(5,.v (.sl Ze)),(38,.v yI),(39,.v yI),(51,.v yI),(52,.v yI)],[.var (.v yTx) true,.var (.v yTx) true],[yI,(.sl Ze),yI,yI,yI,yI,yTx,yTx],[⟨.exit 4,[(1,.ref 0 []),(2,.ref 1 []),(4,.v yI),(5,.v (.sl Ze)),(38,.v yI),(39,.v yI)],[.var (.v yTx) true,.var (.v yTx) true],[yI,(.sl Ze),yI,yI,yTx,yTx]⟩],Zb (Zah yD) yD⟩
theorem Zfa:ZaF.okA yb 76 2:=Zv Zoo [] [Yg] ⟨Yi,ytt⟩
def WX(F:Nat)(s:(Int×Int×Tx×Tx)):yO ((Int×Int×Tx×Tx)⊕(Tx×Tx)):=
 if(decide (s.2.1 < s.1))=true then
  (idx s.2.2.1.2.1 s.2.1).bind λe621=>
  (Xb F e621.2).bind λo622=>
  match o622 with
  |.inl o623=>
   (Zb (Zbd F) F (s.2.1,s.1,s.2.1,(o623.2.length:Int),0,s.2.2.1,s.2.2.2,o623.1,o623.2)).bind λo628=>
   (idx o628.2.2.2.1.2.1 o628.1).bind λe629=>
   none
  |.inr o630=>
   (Zb (Zah F) F (s.2.1,o630,s.1,s.2.1,(o630.length:Int),0,s.2.2.1,s.2.2.2)).bind λo634=>
   (idx o634.2.2.2.2.1.2.1 o634.1).bind λe635=>
   none
 else
 some (.inr (s.2.2.1,s.2.2.2))
def Zdo:Lp:=⟨[(1,.ref 0 []),(2,.ref 1 []),(38,.v yI),(39,.v yI)],[.var (.v yTx) true,.var (.v yTx) true],[yI,yI,yTx,yTx],[⟨.exit 2,[(1,.ref 0 []),(2,.ref 1 [])],[.var (.v yTx) true,.var (.v yTx) true],[yTx,yTx]⟩],Zb (WX yD) yD⟩
theorem ZjF:Zdo.okA yb 76 1:=Zv Zoo [(2,Zbu),(2,ZaF)] [Vh] ⟨V4,ytt⟩ ⟨Zg1,Zfa,ytt⟩
def ZcQ(F:Nat)(a0:Tx):yO ((Int×(yL Unit)×(yL In)×(yL Unit)×(yL Out))⊕((yL Out)×Int×(yL Unit)×(yL In))⊕((yL In)×Int×(yL Unit)×(yL Out))⊕Tx):=
 (Q6 F a0.1).bind λo542=>
 match o542 with
 |.inl o543=>
  (YF F a0.2.1).bind λo544=>
  match o544 with
  |.inl o545=>
   (Zb (Wx F) F ((o543.2.length:Int),0,a0.2.2,([],[],0),o543.1,o543.2,o545.1,o545.2)).bind λo550=>
   (Zb (Wz F) F ((o550.2.2.2.2.2.length:Int),0,o550.1,o550.2.1,o550.2.2.1,o550.2.2.2.1,o550.2.2.2.2.1,o550.2.2.2.2.2)).bind λo568=>
   some (.inl (o568.1,o568.2.2.1,o568.2.2.2.1,o568.2.2.2.2.1,o568.2.2.2.2.2))
  |.inr o569=>
   (Zb (XR F) F ((o543.2.length:Int),0,o569,a0.2.2,([],[],0),o543.1,o543.2)).bind λo574=>
   (Zb (WU F) F ((o574.1.length:Int),0,o574.1,o574.2.1,o574.2.2.1,o574.2.2.2.1,o574.2.2.2.2)).bind λo590=>
   some (.inr (.inl (o590.1,o590.2.1,o590.2.2.2.1,o590.2.2.2.2)))
 |.inr o591=>
  (YF F a0.2.1).bind λo592=>
  match o592 with
  |.inl o593=>
   (Zb (WV F) F ((o591.length:Int),0,o591,a0.2.2,([],[],0),o593.1,o593.2)).bind λo597=>
   (Zb (XS F) F ((o597.2.2.2.2.length:Int),0,o597.1,o597.2.1,o597.2.2.1,o597.2.2.2.1,o597.2.2.2.2)).bind λo615=>
   some (.inr (.inr (.inl (o615.1,o615.2.1,o615.2.2.2.1,o615.2.2.2.2))))
  |.inr o616=>
   (Zb (WW F) F ((o591.length:Int),0,(o591,o616,a0.2.2),([],[],0))).bind λo620=>
   (Zb (WX F) F ((o620.1.2.1.length:Int),0,o620.1,o620.2)).bind λo636=>
   some (.inr (.inr (.inr o636.1)))
def ZpV(F:Nat):Fs yb:=⟨76,[.v yTx],[],[yTx],[⟨.ret,[(0,.agg [.rw 0,.rw 1,.v yI])],[.row yIn true 120,.row ZM true 112],[yI,(.sl (.st [])),(.sl yIn),(.sl (.st [])),(.sl ZM)]⟩,⟨.ret,[(0,.agg [.rw 0,.v (.sl ZM),.v yI])],[.row yIn true 120],[(.sl ZM),yI,(.sl (.st [])),(.sl yIn)]⟩,⟨.ret,[(0,.agg [.v (.sl yIn),.rw 0,.v yI])],[.row ZM true 112],[(.sl yIn),yI,(.sl (.st [])),(.sl ZM)]⟩,⟨.ret,[(0,.v yTx)],[],[yTx]⟩],λx=>ZcQ F x⟩
def Zh6:Fs yb:=ZpV yD
theorem ZpW:Zh6.Ok:=fnO Zoo [(0,Zf7),(0,Zdj),(0,Zdl),(0,Zdn),(1,Zf9),(1,Zdk),(1,Zdm),(1,Zdo)] [Zon,ZmL] ⟨Zv6,Zuo,ytt⟩ ⟨ZlE,ZjA,ZjC,ZjE,ZlG,ZjB,ZjD,ZjF,ytt⟩
def Zg2(F:Nat)(a0:Tx)(a1:Sig)(a2:Sig):yO (Tx):=
 (ZcQ F a0).bind λo641=>
 match o641 with
 |.inl o642=>
  if(decide ((o642.2.2.1.length:Int) > 0))=true then
   if(inB 0 o642.2.2.1.length)=true then
    (o642.2.2.1[0]?).bind λe643=>
    let y644:(yL In):=o642.2.2.1.set 0 (e643.1,((0:Int),([a1,a2]:yL Sig),(0:yU)))
    some (y644,o642.2.2.2.2,o642.1)
   else
   none
  else
  some (o642.2.2.1,o642.2.2.2.2,o642.1)
 |.inr (.inl o645)=>
  if(decide ((o645.2.2.2.length:Int) > 0))=true then
   if(inB 0 o645.2.2.2.length)=true then
    (o645.2.2.2[0]?).bind λe646=>
    let y647:(yL In):=o645.2.2.2.set 0 (e646.1,((0:Int),([a1,a2]:yL Sig),(0:yU)))
    some (y647,o645.1,o645.2.1)
   else
   none
  else
  some (o645.2.2.2,o645.1,o645.2.1)
 |.inr (.inr (.inl o648))=>
  if(decide ((o648.1.length:Int) > 0))=true then
   (idx o648.1 0).bind λe649=>
   none
  else
  some (o648.1,o648.2.2.2,o648.2.1)
 |.inr (.inr (.inr o650))=>
  if(decide ((o650.1.length:Int) > 0))=true then
   (idx o650.1 0).bind λe651=>
   none
  else
  some o650
def Zh7(F:Nat):Fs yb:=⟨13,[.v yTx,.v X5,.v X5],[],[yTx,X5,X5],(zN yTx),λx=>Zg2 F x.1 x.2.1 x.2.2⟩
def ZqV:Fs yb:=Zh7 yD
def ZSd:HI:={ still:=[7],rowt:=[14],deep:=[46]}
theorem Zop:ZqV.Ok:=ZOo (fi:={ hi:=ZSd}) (specs:={ l:=[Zh6]}) (okS ⟨ZpW,ytt⟩)
def ZrF(F:Nat)(a0:yU)(a1:yU):yO (ZR):=
 (Zku F [a0,a1]).bind λo652=>
 some o652
def ZC7(F:Nat):Fs yb:=⟨77,[.v .u64,.v .u64],[],[.u64,.u64],(zN Zr),λx=>ZrF F x.1 x.2⟩
def Zvo:Fs yb:=ZC7 yD
theorem ZC8:Zvo.Ok:=fnO { still:=[7]} [] [Zry] ⟨Zvj,ytt⟩
def ZbG(F:Nat)(a0:Chan):yO (ZR):=
 (a0.2.2.1[0]?).bind λe653=>
 (a0.2.2.1[1]?).bind λe654=>
 (ZrF F e653.1 e654.1).bind λo655=>
 some o655
def ZcR(F:Nat):Fs yb:=⟨16,[.v Zu],[],[Zu],(zN Zr),λx=>ZbG F x⟩
def Zkz:Fs yb:=ZcR yD
theorem Zjc:Zkz.Ok:=fnO { still:=[6,10]} [] [Zvo] ⟨ZC8,ytt⟩
def Zg3(F:Nat)(a0:Chan)(a1:yG)(a2:Int)(a3:Int):yO (Int):=
 (VG F a2).bind λo656=>
 if(!o656)=true then
  some 0
 else
 (VG F a3).bind λo657=>
 if(!o657)=true then
  some 0
 else
 (ZaZ F a0 a1).bind λo658=>
 if(!o658)=true then
  some 0
 else
 (QG F a0 a1 a2 a3).bind λo659=>
 some o659
def Zh8(F:Nat):Fs yb:=⟨18,[.v Zu,.v Zf,.v yI,.v yI],[],[Zu,Zf,yI,yI],(zN yI),λx=>Zg3 F x.1 x.2.1 x.2.2.1 x.2.2.2⟩
def ZqW:Fs yb:=Zh8 yD
def ZSe:HI:={ still:=[8,9,13,18,19,23,24,25,26]}
theorem Zoq:ZqW.Ok:=fnO ZSe [] [Zjm,Zjr,Zjv] ⟨ZnT,Zn3,Zof,ytt⟩
def Zfb(F:Nat)(a0:XQ):yO (Bool):=
 if(decide (a0.1 >= 0))=true then
  if(decide (a0.1 < 4))=true then
   some (decide ((a0.2.1.length:Int)<=12))
  else
  some false
 else
 some false
def ZAb(F:Nat):Fs yb:=⟨199,[.v Z7],[],[Z7],(zN .bool),λx=>Zfb F x⟩
def Zs5:Fs yb:=ZAb yD
theorem ZAc:Zs5.Ok:=fnO { still:=[2]} [] [] trivial
def Za4(F:Nat)(s:((yL In)×Int×Int×Tx×(yL (XP×Bool)))):yO (((yL In)×Int×Int×Tx×(yL (XP×Bool)))⊕((Bool×Tx×(yL (XP×Bool)))⊕(Tx×(yL (XP×Bool))))):=
 if(decide (s.2.2.1 < s.2.1))=true then
  (idx s.1 s.2.2.1).bind λe660=>
  ZAI (Zr9 s.2.2.2.2 e660.1) (λe661=>
   if e661=true then
    some (.inr (.inl (false,s.2.2.2.1,s.2.2.2.2)))
   else
   if(decide (e660.1.2 < 0))=true then
    some (.inr (.inl (false,s.2.2.2.1,s.2.2.2.2)))
   else
   if(decide (e660.1.2 >= 64))=true then
    some (.inr (.inl (false,s.2.2.2.1,s.2.2.2.2)))
   else
   (Zfb F e660.2).bind λo662=>
   if(!o662)=true then
    some (.inr (.inl (false,s.2.2.2.1,s.2.2.2.2)))
   else
   some (.inl (s.1,s.2.1,wi (s.2.2.1+1),s.2.2.2.1,ZvG s.2.2.2.2 e660.1 true))) (
   if(decide (e660.1.2 < 0))=true then
    some (.inr (.inl (false,s.2.2.2.1,s.2.2.2.2)))
   else
   if(decide (e660.1.2 >= 64))=true then
    some (.inr (.inl (false,s.2.2.2.1,s.2.2.2.2)))
   else
   (Zfb F e660.2).bind λo663=>
   if(!o663)=true then
    some (.inr (.inl (false,s.2.2.2.1,s.2.2.2.2)))
   else
   some (.inl (s.1,s.2.1,wi (s.2.2.1+1),s.2.2.2.1,ZvG s.2.2.2.2 e660.1 true)))
 else
 some (.inr (.inr (s.2.2.2.1,s.2.2.2.2)))
def Zvp:Lp:=⟨[(1,.ref 0 []),(3,.mp 1),(33,.v (.sl yIn)),(34,.v yI),(35,.v yI)],[.var (.v yTx) true,.map 241 Xx .bool],[(.sl yIn),yI,yI,yTx,(ZvK Xx .bool)],[⟨.ret,[(2,.v .bool)],[.var (.v yTx) true,.map 241 Xx .bool],[.bool,yTx,(ZvK Xx .bool)]⟩,⟨.exit 0,[(1,.ref 0 [])],[.var (.v yTx) true,.map 241 Xx .bool],[yTx,(ZvK Xx .bool)]⟩],Zb (Za4 yD) yD⟩
theorem ZyD:Zvp.okA yb 116 0:=Zv { still:=[2,57,73,75,83]} [] [Zs5] ⟨ZAc,ytt⟩
def Za5(F:Nat)(s:(Int×(yL Out)×Int×Int×Tx×(yL (XP×Bool)))):yO ((Int×(yL Out)×Int×Int×Tx×(yL (XP×Bool)))⊕((Bool×Tx×(yL (XP×Bool)))⊕(Tx×(yL (XP×Bool))))):=
 if(decide (s.2.2.2.1 < s.2.2.1))=true then
  (idx s.2.1 s.2.2.2.1).bind λe667=>
  (ZhG F s.1 e667.1).bind λo668=>
  if(!o668.2)=true then
   some (.inr (.inl (false,s.2.2.2.2.1,s.2.2.2.2.2)))
  else
  (W7 F e667.2).bind λo669=>
  if(!o669)=true then
   some (.inr (.inl (false,s.2.2.2.2.1,s.2.2.2.2.2)))
  else
  some (.inl (o668.1,s.2.1,s.2.2.1,wi (s.2.2.2.1+1),s.2.2.2.2.1,s.2.2.2.2.2))
 else
 some (.inr (.inr (s.2.2.2.2.1,s.2.2.2.2.2)))
def Zvq:Lp:=⟨[(6,.v yI),(66,.v (.sl ZM)),(67,.v yI),(68,.v yI)],[.var (.v yTx) true,.map 241 Xx .bool],[yI,(.sl ZM),yI,yI,yTx,(ZvK Xx .bool)],[⟨.ret,[(2,.v .bool)],[.var (.v yTx) true,.map 241 Xx .bool],[.bool,yTx,(ZvK Xx .bool)]⟩,⟨.exit 2,[],[.var (.v yTx) true,.map 241 Xx .bool],[yTx,(ZvK Xx .bool)]⟩],Zb (Za5 yD) yD⟩
theorem ZyE:Zvq.okA yb 116 1:=Zv { still:=[2,57,73,75,83]} [] [ZtX,ZcK] ⟨Zx0,ZeG,ytt⟩
def ZpG(F:Nat)(a0:Tx):yO (Bool):=
 if(decide ((a0.1.length:Int) < 1))=true then
  some false
 else
 if(decide ((a0.1.length:Int) > 64))=true then
  some false
 else
 if(decide ((a0.2.1.length:Int) > 64))=true then
  some false
 else
 if(decide (a0.2.2 < 0))=true then
  some false
 else
 (Zb (Za4 F) F (a0.1,(a0.1.length:Int),0,a0,([]:yL (XP×Bool)))).bind λo664=>
 match o664 with
 |.inl o665=>
  some o665.1
 |.inr o666=>
  (Zb (Za5 F) F (0,o666.1.2.1,(o666.1.2.1.length:Int),0,o666.1,o666.2)).bind λo670=>
  match o670 with
  |.inl o671=>
   some o671.1
  |.inr o672=>
   some true
def ZFv(F:Nat):Fs yb:=⟨116,[.v yTx],[],[yTx],(zN .bool),λx=>ZpG F x⟩
def ZyF:Fs yb:=ZFv yD
theorem ZFw:ZyF.Ok:=fnO { still:=[2,57,73,75,83]} [(0,Zvp),(1,Zvq)] [] trivial ⟨ZyD,ZyE,ytt⟩
def ZeJ(F:Nat)(a0:(yL yB))(a1:(yL yB)):yO ((yL yB)):=
 (ZbU F a0 a1).bind λo673=>
 some o673
def Zwa(F:Nat):Fs yb:=⟨203,[.v (.sl .u8),.v (.arr 32 .u8)],[],[(.sl .u8),(.arr 32 .u8)],(zN (.sl .u8)),λx=>ZeJ F x.1 x.2⟩
def Zor:Fs yb:=Zwa yD
theorem Zwb:Zor.Ok:=fnO { still:=[4,5,6],frz:=[6]} [] [Zja] ⟨ZlA,ytt⟩
def ZcS(F:Nat)(a0:(yL yB))(a1:(yL yB)):yO ((yL yB)):=
 (Zkw F (a1.length:Int)).bind λo674=>
 (Xn F [a0,o674,a1]).bind λo675=>
 some o675
def Zur(F:Nat):Fs yb:=⟨204,[.v (.sl .u8),.v (.sl .u8)],[],[(.sl .u8),(.sl .u8)],(zN (.sl .u8)),λx=>ZcS F x.1 x.2⟩
def ZmM:Fs yb:=Zur yD
theorem Zus:ZmM.Ok:=fnO { still:=[4,7,10]} [] [Zrz,Vv] ⟨Zvl,ZaB,ytt⟩
def Zg4(F:Nat)(s:((yL yB)×(yL In)×Int×Int×Tx)):yO (((yL yB)×(yL In)×Int×Int×Tx)⊕((yL yB)×Tx)):=
 if(decide (s.2.2.2.1 < s.2.2.1))=true then
  (idx s.2.1 s.2.2.2.1).bind λe677=>
  (ZeJ F s.1 e677.1.1).bind λo678=>
  (Vz F o678 e677.1.2).bind λo679=>
  some (.inl (o679,s.2.1,s.2.2.1,wi (s.2.2.2.1+1),s.2.2.2.2))
 else
 some (.inr (s.1,s.2.2.2.2))
def Zvr:Lp:=⟨[(1,.ref 0 []),(3,.v (.sl .u8)),(13,.v (.sl yIn)),(14,.v yI),(15,.v yI)],[.var (.v yTx) true],[(.sl .u8),(.sl yIn),yI,yI,yTx],[⟨.exit 0,[(1,.ref 0 []),(3,.v (.sl .u8))],[.var (.v yTx) true],[(.sl .u8),yTx]⟩],Zb (Zg4 yD) yD⟩
def ZQz:HI:={ still:=[2,10,19,22,23,26,29,32,41,43,44,46,47,50,52]}
theorem ZyG:Zvr.okA yb 118 0:=Zv ZQz [] [Zor,Zek] ⟨Zwb,Ze3,ytt⟩
def Zg5(F:Nat)(s:((yL yB)×(yL Out)×Int×Int×Tx)):yO (((yL yB)×(yL Out)×Int×Int×Tx)⊕((yL yB)×Tx)):=
 if(decide (s.2.2.2.1 < s.2.2.1))=true then
  (idx s.2.1 s.2.2.2.1).bind λe682=>
  (Vz F s.1 e682.1).bind λo683=>
  (Ze4 F e682.2).bind λo684=>
  (ZcS F o683 o684).bind λo685=>
  some (.inl (o685,s.2.1,s.2.2.1,wi (s.2.2.2.1+1),s.2.2.2.2))
 else
 some (.inr (s.1,s.2.2.2.2))
def Zvs:Lp:=⟨[(1,.ref 0 []),(3,.v (.sl .u8)),(35,.v (.sl ZM)),(36,.v yI),(37,.v yI)],[.var (.v yTx) true],[(.sl .u8),(.sl ZM),yI,yI,yTx],[⟨.exit 2,[(1,.ref 0 []),(3,.v (.sl .u8))],[.var (.v yTx) true],[(.sl .u8),yTx]⟩],Zb (Zg5 yD) yD⟩
theorem ZyH:Zvs.okA yb 118 1:=Zv ZQz [] [Zek,ZlB,ZmM] ⟨Ze3,ZqT,Zus,ytt⟩
def ZpH(F:Nat)(a0:Tx):yO ((yL yB)):=
 (Vz F [] (a0.1.length:Int)).bind λo676=>
 (Zb (Zg4 F) F (o676,a0.1,(a0.1.length:Int),0,a0)).bind λo680=>
 (Vz F o680.1 (o680.2.2.1.length:Int)).bind λo681=>
 (Zb (Zg5 F) F (o681,o680.2.2.1,(o680.2.2.1.length:Int),0,o680.2)).bind λo686=>
 (Vz F o686.1 o686.2.2.2).bind λo687=>
 some o687
def ZFx(F:Nat):Fs yb:=⟨118,[.v yTx],[],[yTx],(zN (.sl .u8)),λx=>ZpH F x⟩
def ZyI:Fs yb:=ZFx yD
theorem ZFy:ZyI.Ok:=fnO ZQz [(0,Zvr),(1,Zvs)] [Zek] ⟨Ze3,ytt⟩ ⟨ZyG,ZyH,ytt⟩
def ZPh:ByteArray:=⟨#[116,120]⟩
def ZrG(F:Nat)(a0:Tx):yO ((yL yB)):=
 (ZpG F a0).bind λo688=>
 if(!o688)=true then
  some yzz
 else
 (ZpH F a0).bind λo689=>
 (Zcc F ZPh [o689]).bind λo690=>
 some o690
def ZyJ(F:Nat):Fs yb:=⟨43,[.v yTx],[],[yTx],(zN (.arr 32 .u8)),λx=>ZrG F x⟩
def ZC9:Fs yb:=ZyJ yD
theorem ZyK:ZC9.Ok:=fnO { still:=[3,7,9]} [] [ZyF,ZyI,Zej] ⟨ZFw,ZFy,Ze0,ytt⟩
def ZeK(F:Nat)(a0:Chan)(a1:yG)(a2:Int)(a3:yU)(a4:Tx):yO (Bool):=
 (WS F a0 a1 a2 a3).bind λo691=>
 if(o691.2==0)=true then
  (ZrG F o691.1.1).bind λo692=>
  (ZrG F a4).bind λo693=>
  some (decide (o692=o693))
 else
 some false
def Zf0(F:Nat):Fs yb:=⟨20,[.v Zu,.v Zf,.v yI,.v .u64,.v yTx],[],[Zu,Zf,yI,.u64,yTx],(zN .bool),λx=>ZeK F x.1 x.2.1 x.2.2.1 x.2.2.2.1 x.2.2.2.2⟩
def Zos:Fs yb:=Zf0 yD
def ZSf:HI:={ still:=[10,14,15,16,17,25,27]}
theorem ZmN:Zos.Ok:=fnO ZSf [] [Zjy,ZC9] ⟨Zh5,ZyK,ytt⟩
def ZcT(F:Nat)(a0:yU):yO (Bool):=
 some (decide (a0 < 2305843009213688669))
def ZyL(F:Nat):Fs yb:=⟨225,[.v .u64],[],[.u64],(zN .bool),λx=>ZcT F x⟩
def ZjG:Fs yb:=ZyL yD
theorem Zot:ZjG.Ok:=fnO { still:=[2]} [] [] trivial
def ZkA(F:Nat)(a0:yU):yO (Bool):=
 (ZcT F a0).bind λo694=>
 if o694=true then
  some (a0 !=0)
 else
 some false
def ZFz(F:Nat):Fs yb:=⟨159,[.v .u64],[],[.u64],(zN .bool),λx=>ZkA F x⟩
def ZyM:Fs yb:=ZFz yD
theorem ZFA:ZyM.Ok:=fnO { still:=[2,3]} [] [ZjG] ⟨Zot,ytt⟩
def Zen(F:Nat)(a0:yU):yO (yU):=
 some (a0 % 2305843009213688669)
def ZFB(F:Nat):Fs yb:=⟨259,[.v .u64],[],[.u64],(zN .u64),λx=>Zen F x⟩
def ZrH:Fs yb:=ZFB yD
theorem Zvt:ZrH.Ok:=fnO { still:=[2]} [] [] trivial
def Zf1(F:Nat)(a0:yU)(a1:yU):yO (yU):=
 some ((a0+a1) % 2305843009213688669)
def Zs6(F:Nat):Fs yb:=⟨260,[.v .u64,.v .u64],[],[.u64,.u64],(zN .u64),λx=>Zf1 F x.1 x.2⟩
def ZkB:Fs yb:=Zs6 yD
theorem Zs7:ZkB.Ok:=fnO { still:=[4]} [] [] trivial
def ZlH(F:Nat)(a0:yU)(a1:yU):yO (yU):=
 (Zen F a0).bind λo695=>
 (Zen F a1).bind λo696=>
 (Zf1 F o695 o696).bind λo697=>
 some o697
def ZDa(F:Nat):Fs yb:=⟨226,[.v .u64,.v .u64],[],[.u64,.u64],(zN .u64),λx=>ZlH F x.1 x.2⟩
def Zvu:Fs yb:=ZDa yD
theorem ZDb:Zvu.Ok:=fnO { still:=[4,5,6,7,8]} [] [ZrH,ZkB] ⟨Zvt,Zs7,ytt⟩
def Zeo(F:Nat)(a0:yU)(a1:yU):yO (yU):=
 (ZeX F a0 a1).bind λo698=>
 (VH F o698.1 o698.2 2305843009213688669).bind λo699=>
 some o699
def ZrI(F:Nat):Fs yb:=⟨261,[.v .u64,.v .u64],[],[.u64,.u64],(zN .u64),λx=>Zeo F x.1 x.2⟩
def Zjd:Fs yb:=ZrI yD
theorem ZrJ:Zjd.Ok:=fnO { still:=[4,8,9,13,14]} [] [Zlt,ZgM] ⟨ZqD,Zjn,ytt⟩
def ZlI(F:Nat)(a0:yU)(a1:yU):yO (yU):=
 (Zen F a0).bind λo700=>
 (Zen F a1).bind λo701=>
 (Zeo F o700 o701).bind λo702=>
 some o702
def ZDc(F:Nat):Fs yb:=⟨227,[.v .u64,.v .u64],[],[.u64,.u64],(zN .u64),λx=>ZlI F x.1 x.2⟩
def Zvv:Fs yb:=ZDc yD
theorem ZDd:Zvv.Ok:=fnO { still:=[4,5,6,7,8]} [] [ZrH,Zjd] ⟨Zvt,ZrJ,ytt⟩
def Qs(F:Nat)(s:(yU×Int×Int×(yL yB))):yO ((yU×Int×Int×(yL yB))⊕(yL yB)):=
 if(decide (s.2.2.1 < s.2.1))=true then
  if(decide (0<=wi (56 - (wi (8*s.2.2.1)))))=true then
   let y703:yU:=ZH s.1 (min (wi (56 - (wi (8*s.2.2.1)))).toNat 64)
   if(inB s.2.2.1 8)=true then
    (s.2.2.2[(0+s.2.2.1.toNat)]?).bind λe704=>
    let y705:(yL yB):=s.2.2.2.set (0+s.2.2.1.toNat) (w8 (y703.toNat:Int))
    some (.inl (s.1,s.2.1,wi (s.2.2.1+1),y705))
   else
   none
  else
  none
 else
 some (.inr s.2.2.2)
def ZqX:Lp:=⟨[(0,.v .u64),(3,.view 0 [] 1 0 8),(7,.v yI),(8,.v yI)],[.var (.v (.arr 8 .u8)) true],[.u64,yI,yI,(.arr 8 .u8)],[⟨.exit 0,[(3,.view 0 [] 1 0 8)],[.var (.v (.arr 8 .u8)) true],[(.arr 8 .u8)]⟩],Zb (Qs yD) yD⟩
theorem Zut:ZqX.okA yb 161 0:=Zv { still:=[2]} [] [] trivial
def Zce(F:Nat)(a0:yU):yO ((yL yB)):=
 (Zb (Qs F) F (a0,8,0,[0,0,0,0,0,0,0,0])).bind λo706=>
 some ((o706.drop 0).take 8)
def ZAd(F:Nat):Fs yb:=⟨161,[.v .u64],[],[.u64],(zN (.sl .u8)),λx=>Zce F x⟩
def ZlJ:Fs yb:=ZAd yD
theorem ZqY:ZlJ.Ok:=fnO { still:=[2]} [(0,ZqX)] [] trivial ⟨Zut,ytt⟩
def ZMu:ByteArray:=⟨#[115,105,103]⟩
def Q0(F:Nat)(a0:yU)(a1:yU)(a2:(yL yB)):yO (yU):=
 (Zce F a0).bind λo707=>
 (Zce F a1).bind λo708=>
 (Zcc F ZMu [o707,o708,a2]).bind λo709=>
 (Zax F o709).bind λo710=>
 some o710
def Zs8(F:Nat):Fs yb:=⟨228,[.v .u64,.v .u64,.v (.arr 32 .u8)],[],[.u64,.u64,(.arr 32 .u8)],(zN .u64),λx=>Q0 F x.1 x.2.1 x.2.2⟩
def Zep:Fs yb:=Zs8 yD
def ZRC:HI:={ still:=[6,7,9,12,13],frz:=[11]}
theorem Zje:Zep.Ok:=fnO ZRC [] [ZlJ,Zej,ZcH] ⟨ZqY,Ze0,ZeB,ytt⟩
def ZlK(F:Nat)(a0:yU)(a1:yU)(a2:(yL yB))(a3:yU):yO (Sig):=
 (W5 F a1).bind λo711=>
 (Zee F o711 a3).bind λo712=>
 (W5 F a0).bind λo713=>
 (Q0 F o712 o713 a2).bind λo714=>
 (ZlI F o714 a0).bind λo715=>
 (ZlH F a1 o715).bind λo716=>
 some (o712,o716)
def ZyN(F:Nat):Fs yb:=⟨160,[.v .u64,.v .u64,.v (.arr 32 .u8),.v .u64],[],[.u64,.u64,(.arr 32 .u8),.u64],(zN X5),λx=>ZlK F x.1 x.2.1 x.2.2.1 x.2.2.2⟩
def ZqZ:Fs yb:=ZyN yD
def ZSg:HI:={ still:=[9,10,11,14,16,17,18,19,20,21,22]}
theorem ZyO:ZqZ.Ok:=fnO ZSg [] [QE,Zi3,Zep,Zvv,Zvu] ⟨Q3,Zlw,Zje,ZDd,ZDb,ytt⟩
def ZMv:ByteArray:=⟨#[110,111,110,99,101]⟩
def ZlL(F:Nat)(a0:yU)(a1:(yL yB)):yO (Sig):=
 (ZkA F a0).bind λo717=>
 if(!o717)=true then
  some (0,0)
 else
 (Zce F a0).bind λo718=>
 (Zcc F ZMv [o718,a1]).bind λo719=>
 (Zax F o719).bind λo720=>
 (ZlK F a0 o720 a1 1).bind λo721=>
 some o721
def ZDe(F:Nat):Fs yb:=⟨81,[.v .u64,.v (.arr 32 .u8)],[],[.u64,(.arr 32 .u8)],(zN X5),λx=>ZlL F x.1 x.2⟩
def Zvw:Fs yb:=ZDe yD
def ZSh:HI:={ still:=[5,9,10,13,14,15,16],frz:=[12]}
theorem ZDf:Zvw.Ok:=fnO ZSh [] [ZyM,ZlJ,Zej,ZcH,ZqZ] ⟨ZFA,ZqY,Ze0,ZeB,ZyO,ytt⟩
abbrev Zeq:Ty:=(.st [.u64,.u64,.u64,.u64,.u64,(.arr 32 .u8)])
abbrev Kit:Type:=(yU×yU×yU×yU×yU×(yL yB))
abbrev Kit.Cond(x:Kit):yU:=x.2.2.2.1
def Zg6(F:Nat)(a0:Kit)(a1:Tx):yO (Sig):=
 (ZrG F a1).bind λo722=>
 (ZlL F a0.1 o722).bind λo723=>
 some o723
def Zh9(F:Nat):Fs yb:=⟨22,[.v Zeq,.v yTx],[],[Zeq,yTx],(zN X5),λx=>Zg6 F x.1 x.2⟩
def Zq0:Fs yb:=Zh9 yD
theorem Zou:Zq0.Ok:=fnO { still:=[6,7,8]} [] [ZC9,Zvw] ⟨ZyK,ZDf,ytt⟩
def Z0(F:Nat)(a0:Int)(a1:Int)(a2:Int):yO (Bool):=
 if(decide (a0 >= a1))=true then
  some (decide (a0<=a2))
 else
 some false
def ZrK(F:Nat):Fs yb:=⟨154,[.v yI,.v yI,.v yI],[],[yI,yI,yI],(zN .bool),λx=>Z0 F x.1 x.2.1 x.2.2⟩
def VK:Fs yb:=ZrK yD
theorem QI:VK.Ok:=fnO { still:=[6]} [] [] trivial
def V5(F:Nat)(a0:Terms):yO (Bool):=
 (Z0 F a0.1 0 65536).bind λo724=>
 if o724=true then
  (Z0 F a0.2.1 a0.1 1125899906842624).bind λo725=>
  if o725=true then
   (Z0 F a0.2.2.1 1 4096).bind λo726=>
   if o726=true then
    (Z0 F a0.2.2.2.1 0 16).bind λo727=>
    if o727=true then
     (Z0 F a0.2.2.2.2.1 1 1125899906842624).bind λo728=>
     if o728=true then
      (Z0 F a0.2.2.2.2.2 0 1125899906842624).bind λo729=>
      some o729
     else
     some false
    else
    some false
   else
   some false
  else
  some false
 else
 some false
def ZmV(F:Nat):Fs yb:=⟨217,[.v ZcD],[],[ZcD],(zN .bool),λx=>V5 F x⟩
def Zfc:Fs yb:=ZmV yD
def ZSi:HI:={ still:=[2,5,9,11,16,22,27,32]}
theorem ZmW:Zfc.Ok:=fnO ZSi [] [VK] ⟨QI,ytt⟩
def Xy(F:Nat)(s:(yU×yU×yU)):yO ((yU×yU×yU)⊕yU):=
 if(decide (s.2.1 > 0))=true then
  if((s.2.1 % 2)==1)=true then
   some (.inl ((s.1+s.1) % 4611686018427377339,s.2.1 / 2,(s.2.2+s.1) % 4611686018427377339))
  else
  some (.inl ((s.1+s.1) % 4611686018427377339,s.2.1 / 2,s.2.2))
 else
 some (.inr s.2.2)
def ZcU:Lp:=⟨[(0,.v .u64),(1,.v .u64),(5,.v .u64)],[],[.u64,.u64,.u64],[⟨.exit 0,[(5,.v .u64)],[],[.u64]⟩],Zb (Xy yD) yD⟩
theorem ZiB:ZcU.okA yb 216 0:=Zv { still:=[4]} [] [] trivial
def VL(F:Nat)(a0:yU)(a1:yU):yO (yU):=
 (Zb (Xy F) F (a0,a1,0)).bind λo730=>
 some o730
def QJ(F:Nat):Fs yb:=⟨216,[.v .u64,.v .u64],[],[.u64,.u64],(zN .u64),λx=>VL F x.1 x.2⟩
def ZmX:Fs yb:=QJ yD
theorem ZlM:ZmX.Ok:=fnO { still:=[4]} [(0,ZcU)] [] trivial ⟨ZiB,ytt⟩
end
end Go.Proofs.YtdhclndplbopgaaGreat
end
section
set_option maxRecDepth 4000
namespace Go.Proofs.YtdhclndplbopgaaGreat
open Go Go.Ev
theorem Zuu{z:Nat}:(yac (z % 4611686018427377339)).toNat=z % 4611686018427377339:=by
 rw[ybd,yak];exact Nat.lt_trans (ybj _ (by decide)) (by decide)
theorem ZMw{a b:yU}(ha:a.toNat < 4611686018427377339)(hb:b.toNat < 4611686018427377339):((a+b) % 4611686018427377339).toNat=(a.toNat+b.toNat) % 4611686018427377339:=by
 rw[UInt64.toNat_mod,UInt64.toNat_add,show(4611686018427377339:yU).toNat=4611686018427377339 from rfl,yak (a:=a.toNat+b.toNat) (by omega)]
theorem Zov:∀(k m:Nat)(A B O:yU),A.toNat < 4611686018427377339->O.toNat < 4611686018427377339->B.toNat < 2 ^ k->k < m->
 Zb (Xy yD) m (A,B,O)=some (yac ((O.toNat+A.toNat*B.toNat) % 4611686018427377339))
 |k,0,_,_,_,_,_,_,h=>by omega
 |0,m+1,A,B,O,hA,hO,h,_=>by
  have h0:B.toNat=0:=by rw[Nat.pow_zero] at h;omega
  have hn:¬B > 0:=by
   intro h2;have h3:0 < B.toNat:=yca.1 h2;omega
  have hs:Xy yD (A,B,O)=if decide (B > 0)=true then(if((B % 2)==1)=true then some (.inl ((A+A) % 4611686018427377339,B / 2,(O+A) % 4611686018427377339)) else some (.inl ((A+A) % 4611686018427377339,B / 2,O))) else some (.inr O):=rfl
  unfold Zb;rw[hs]
  rw[yX (by rw[yN];exact hn),ya,h0,Nat.mul_zero,ybw,yak hO,UInt64.ofNat_toNat]
 |k+1,m+1,A,B,O,hA,hO,h,hm=>by
  have hs:Xy yD (A,B,O)=if decide (B > 0)=true then(if((B % 2)==1)=true then some (.inl ((A+A) % 4611686018427377339,B / 2,(O+A) % 4611686018427377339)) else some (.inl ((A+A) % 4611686018427377339,B / 2,O))) else some (.inr O):=rfl
  unfold Zb;rw[hs];by_cases h2:B > 0
  ·have h3:0 < B.toNat:=yca.1 h2;have hsh:(B / 2).toNat=B.toNat / 2:=by rw[UInt64.toNat_div];rfl
   have hlt:(B / 2).toNat < 2 ^ k:=by
    rw[hsh];rw[Nat.pow_succ] at h;omega
   have hand:((B % 2)==1)=decide (B.toNat % 2=1):=by
    rw[Bool.eq_iff_iff,yT,yN, <-UInt64.toNat_inj,UInt64.toNat_mod];rfl
   have hA2:=ZMw hA hA;have hAl:((A+A) % 4611686018427377339).toNat < 4611686018427377339:=by rw[hA2];exact ybj _ (by decide)
   have hB:B.toNat=2*(B.toNat / 2)+B.toNat % 2:=by omega
   rw[yW (yY h2),hand];by_cases h4:B.toNat % 2=1
   ·have hO2:=ZMw hO hA;have hOl:((O+A) % 4611686018427377339).toNat < 4611686018427377339:=by rw[hO2];exact ybj _ (by decide)
    rw[yW (yY h4),ya];dsimp only;rw[Zov k m _ _ _ hAl hOl hlt (by omega),hA2,hO2,hsh];congr 2;rw[Nat.add_mod,Nat.mod_mod,Nat.mod_mul_mod, <-Nat.add_mod];congr 1
    conv=>rhs;rw[hB,h4,Nat.mul_add,Nat.mul_one, <-Nat.mul_assoc]
    rw[Nat.mul_two];omega
   ·rw[yX (by rw[yN];exact h4),ya];dsimp only;rw[Zov k m _ _ _ hAl hO hlt (by omega),hA2,hsh];congr 2;rw[Nat.add_mod,Nat.mod_mul_mod, <-Nat.add_mod];congr 1
    conv=>rhs;rw[hB,show B.toNat % 2=0 by omega,ybw, <-Nat.mul_assoc]
    rw[Nat.mul_two]
  ·have h3:B.toNat=0:=by
    rcases Nat.eq_zero_or_pos B.toNat with h5|h5
    ·exact h5
    ·exact absurd (show(0:yU) < B from yca.2 h5) h2
   rw[yX (by rw[yN];exact h2),ya,h3,Nat.mul_zero,ybw,yak hO,UInt64.ofNat_toNat]
noncomputable def Zy(F:Nat)(a0:yU)(a1:yU):yO yU:=if decide (a0.toNat < 4611686018427377339)=true then some (yac (a0.toNat*a1.toNat % 4611686018427377339)) else VL F a0 a1
theorem ZJ2(a b:yU):VL yD a b=Zy yD a b:=by
 unfold Zy;split
 ·rename_i h;unfold VL;rw[Zov 64 yD a b 0 (yF h) (by decide) (ybt _) (by rw[ZgL];omega),ya,show(0:yU).toNat=0 from rfl,Nat.zero_add]
 ·rfl
noncomputable def ZmY(F:Nat):Fs yb:={ QJ F with M:=λx=>Zy F x.1 x.2}
noncomputable def ZaG:Fs yb:=ZmY yD
theorem Zdp:ZaG.Ok:=Zrp (s:=QJ yD) ZlM λx=>(ZJ2 x.1 x.2).symm
end Go.Proofs.YtdhclndplbopgaaGreat
end
section
set_option maxRecDepth 4000
namespace Go.Proofs.YtdhclndplbopgaaGreat
open Go Go.Ev
noncomputable section
def Xz(F:Nat)(s:(yU×yU×yU)):yO ((yU×yU×yU)⊕yU):=
 if(decide (s.2.1 > 0))=true then
  if((s.2.1 % 2)==1)=true then
   (Zy F s.2.2 s.1).bind λo731=>
   (Zy F s.1 s.1).bind λo732=>
   some (.inl (o732,s.2.1 / 2,o731))
  else
  (Zy F s.1 s.1).bind λo733=>
  some (.inl (o733,s.2.1 / 2,s.2.2))
 else
 some (.inr s.2.2)
def ZcV:Lp:=⟨[(0,.v .u64),(1,.v .u64),(5,.v .u64)],[],[.u64,.u64,.u64],[⟨.exit 0,[(5,.v .u64)],[],[.u64]⟩],Zb (Xz yD) yD⟩
theorem ZiC:ZcV.okA yb 135 0:=Zv { still:=[4,11,12,14,15]} [] [ZaG] ⟨Zdp,ytt⟩
def VM(F:Nat)(a0:yU)(a1:yU):yO (yU):=
 (Zb (Xz F) F (a0,a1,1)).bind λo734=>
 some o734
def QK(F:Nat):Fs yb:=⟨135,[.v .u64,.v .u64],[],[.u64,.u64],(zN .u64),λx=>VM F x.1 x.2⟩
def ZmZ:Fs yb:=QK yD
theorem ZlN:ZmZ.Ok:=fnO { still:=[4,11,12,14,15]} [(0,ZcV)] [] trivial ⟨ZiC,ytt⟩
end
end Go.Proofs.YtdhclndplbopgaaGreat
end
section
set_option maxRecDepth 4000
namespace Go.Proofs.YtdhclndplbopgaaGreat
open Go Go.Ev
theorem Zuv:∀(k m:Nat)(A N O:yU),A.toNat < 4611686018427377339->O.toNat < 4611686018427377339->N.toNat < 2 ^ k->k < m->Zb (Xz yD) m (A,N,O)=some (yac (pwm 4611686018427377339 k A.toNat N.toNat O.toNat))
 |k,0,_,_,_,_,_,_,h=>by omega
 |0,m+1,A,N,O,hA,hO,h,_=>by
  have hn:¬N > 0:=by
   intro h2;have h3:0 < N.toNat:=yca.1 h2;rw[Nat.pow_zero] at h;omega
  have hs:Xz yD (A,N,O)=if decide (N > 0)=true then(if((N % 2)==1)=true then(Zy yD O A).bind λo1=>(Zy yD A A).bind λo2=>some (.inl (o2,N / 2,o1)) else(Zy yD A A).bind λo2=>some (.inl (o2,N / 2,O))) else some (.inr O):=rfl
  unfold Zb;rw[hs]
  rw[yX (by rw[yN];exact hn),ya,pwm,UInt64.ofNat_toNat]
 |k+1,m+1,A,N,O,hA,hO,h,hm=>by
  have hs:Xz yD (A,N,O)=if decide (N > 0)=true then(if((N % 2)==1)=true then(Zy yD O A).bind λo1=>(Zy yD A A).bind λo2=>some (.inl (o2,N / 2,o1)) else(Zy yD A A).bind λo2=>some (.inl (o2,N / 2,O))) else some (.inr O):=rfl
  unfold Zb;rw[hs];by_cases h2:N > 0
  ·have hp:0 < N.toNat->pwm 4611686018427377339 (k+1) A.toNat N.toNat O.toNat=pwm 4611686018427377339 k (A.toNat*A.toNat % 4611686018427377339) (N.toNat / 2) (if N.toNat % 2=1 then O.toNat*A.toNat % 4611686018427377339 else O.toNat):=λh=>by
    rw[pwm,yX (by omega)]
   have h3:0 < N.toNat:=yca.1 h2;have hsh:(N / 2).toNat=N.toNat / 2:=by rw[UInt64.toNat_div];rfl
   have hlt:(N / 2).toNat < 2 ^ k:=by
    rw[hsh];rw[Nat.pow_succ] at h;omega
   have hand:((N % 2)==1)=decide (N.toNat % 2=1):=by
    rw[Bool.eq_iff_iff,yT,yN, <-UInt64.toNat_inj,UInt64.toNat_mod];rfl
   have ml:∀z:Nat,z % 4611686018427377339 < 4611686018427377339:=λz=>ybj _ (by decide)
   have e1:Zy yD A A=some (yac (A.toNat*A.toNat % 4611686018427377339)):=by
    unfold Zy;rw[yW (yY hA)]
   have e2:Zy yD O A=some (yac (O.toNat*A.toNat % 4611686018427377339)):=by
    unfold Zy;rw[yW (yY hO)]
   rw[yW (yY h2),hand,hp h3,e1,e2];by_cases h4:N.toNat % 2=1
   ·rw[yW (yY h4),yW h4,ya,ya,ya];dsimp only;rw[Zuv k m _ _ _ (by rw[Zuu];exact ml _) (by rw[Zuu];exact ml _) hlt (by omega),Zuu,Zuu,hsh]
   ·rw[yX (by rw[yN];exact h4),yX h4,ya,ya];dsimp only;rw[Zuv k m _ _ _ (by rw[Zuu];exact ml _) hO hlt (by omega),Zuu,hsh]
  ·have h3:N.toNat=0:=by
    rcases Nat.eq_zero_or_pos N.toNat with h5|h5
    ·exact h5
    ·exact absurd (show(0:yU) < N from yca.2 h5) h2
   rw[yX (by rw[yN];exact h2),ya,pwm,yW h3,UInt64.ofNat_toNat]
noncomputable def Y6(F:Nat)(a0:yU)(a1:yU):yO yU:=if decide (a0.toNat < 4611686018427377339)=true then some (yac (pwm 4611686018427377339 64 a0.toNat a1.toNat 1)) else VM F a0 a1
theorem ZJ3(a n:yU):VM yD a n=Y6 yD a n:=by
 unfold Y6;split
 ·rename_i h;unfold VM;rw[Zuv 64 yD a n 1 (yF h) (by decide) (ybt _) (by rw[ZgL];omega),ya];rfl
 ·rfl
noncomputable def Zm0(F:Nat):Fs yb:={ QK F with M:=λx=>Y6 F x.1 x.2}
noncomputable def ZaH:Fs yb:=Zm0 yD
theorem Zdq:ZaH.Ok:=Zrp (s:=QK yD) ZlN λx=>(ZJ3 x.1 x.2).symm
end Go.Proofs.YtdhclndplbopgaaGreat
end
section
set_option maxRecDepth 4000
namespace Go.Proofs.YtdhclndplbopgaaGreat
open Go Go.Ev
noncomputable section
def Yd(F:Nat)(a0:yU):yO (Bool):=
 if(decide (a0 >= 1))=true then
  if(decide (a0 < 4611686018427377339))=true then
   (Y6 F a0 2305843009213688669).bind λo735=>
   some (o735==1)
  else
  some false
 else
 some false
def Zm1(F:Nat):Fs yb:=⟨62,[.v .u64],[],[.u64],(zN .bool),λx=>Yd F x⟩
def YG:Fs yb:=Zm1 yD
theorem Xd:YG.Ok:=fnO { still:=[2,10]} [] [ZaH] ⟨Zdq,ytt⟩
def Zai(F:Nat)(a0:yU):yO (Bool):=
 (Yd F a0).bind λo736=>
 if o736=true then
  some (a0 !=1)
 else
 some false
def ZpX(F:Nat):Fs yb:=⟨218,[.v .u64],[],[.u64],(zN .bool),λx=>Zai F x⟩
def Zia:Fs yb:=ZpX yD
theorem ZpY:Zia.Ok:=fnO { still:=[2,3]} [] [YG] ⟨Xd,ytt⟩
def XA(F:Nat)(s:(Int×(yL yU)×Int×Chan×Basics)):yO ((Int×(yL yU)×Int×Chan×Basics)⊕((Int×Chan×Basics)⊕(Int×Chan×Basics))):=
 if(decide (s.2.2.1 < 5))=true then
  (idx s.2.1 s.2.2.1).bind λe743=>
  (Zai F e743).bind λo744=>
  if(!o744)=true then
   some (.inr (.inl (1,s.2.2.2.1,s.2.2.2.2)))
  else
  some (.inl (s.1,s.2.1,wi (s.2.2.1+1),s.2.2.2.1,s.2.2.2.2))
 else
 some (.inr (.inr (s.1,s.2.2.2.1,s.2.2.2.2)))
def Zga:Lp:=⟨[(1,.ref 0 []),(3,.v yI),(5,.v (.sl .u64)),(6,.v yI)],[.var (.v Zu) true,.var (.v ZbC) true],[yI,(.sl .u64),yI,Zu,ZbC],[⟨.ret,[(2,.v yI)],[.var (.v Zu) true,.var (.v ZbC) true],[yI,Zu,ZbC]⟩,⟨.exit 2,[(1,.ref 0 []),(3,.v yI)],[.var (.v Zu) true,.var (.v ZbC) true],[yI,Zu,ZbC]⟩],Zb (XA yD) yD⟩
theorem ZlO:Zga.okA yb 136 1:=Zv { still:=[2,8,14,20,46,56]} [] [Zia] ⟨ZpY,ytt⟩
def XB(F:Nat)(s:(Int×Chan)):yO ((Int×Chan)⊕((Int×Chan)⊕Chan)):=
 if(decide (s.1 < 2))=true then
  if(inB s.1 2)=true then
   (s.2.2.2.1[s.1.toNat]?).bind λe740=>
   if(inB s.1 2)=true then
    (s.2.2.2.2.1[s.1.toNat]?).bind λe741=>
    (V5 F e741).bind λo742=>
    if(!o742)=true then
     some (.inr (.inl (1,s.2)))
    else
    (Zb (XA F) F (s.1,[e740.1,e740.2.1,e740.2.2.1,e740.2.2.2.1,e740.2.2.2.2],0,s.2,e740)).bind λo745=>
    match o745 with
    |.inl o746=>
     some (.inr (.inl (o746.1,o746.2.1)))
    |.inr o747=>
     some (.inl (wi (o747.1+1),o747.2.1))
   else
   none
  else
  none
 else
 some (.inr (.inr s.2))
def Zgb:Lp:=⟨[(1,.ref 0 []),(3,.v yI)],[.var (.v Zu) true],[yI,Zu],[⟨.ret,[(2,.v yI)],[.var (.v Zu) true],[yI,Zu]⟩,⟨.exit 0,[(1,.ref 0 [])],[.var (.v Zu) true],[Zu]⟩],Zb (XB yD) yD⟩
theorem ZlP:Zgb.okA yb 136 0:=Zv { still:=[2,8,14,20,46,56]} [(1,Zga)] [Zfc] ⟨ZmW,ytt⟩ ⟨ZlO,ytt⟩
def Zaj(F:Nat)(a0:Chan):yO (Int):=
 (Z0 F a0.2.1 1 1125899906842624).bind λo737=>
 if(!o737)=true then
  some 1
 else
 (Z0 F a0.1.2 0 63).bind λo738=>
 if(!o738)=true then
  some 1
 else
 (Z0 F a0.2.2.2.2 0 1).bind λo739=>
 if(!o739)=true then
  some 1
 else
 (Zb (XB F) F (0,a0)).bind λo748=>
 match o748 with
 |.inl o749=>
  some o749.1
 |.inr o750=>
  (o750.2.2.2.1[0]?).bind λe751=>
  (o750.2.2.2.1[1]?).bind λe752=>
  if(decide ((wi (e751.2.1+e752.2.1)) > o750.2.1))=true then
   some 10
  else
  some 0
def ZpZ(F:Nat):Fs yb:=⟨136,[.v Zu],[],[Zu],(zN yI),λx=>Zaj F x⟩
def Zib:Fs yb:=ZpZ yD
theorem Zp0:Zib.Ok:=fnO { still:=[2,8,14,20,46,56]} [(0,Zgb)] [VK] ⟨QI,ytt⟩ ⟨ZlP,ytt⟩
def Yo(F:Nat)(a0:Int)(a1:Int)(a2:Int):yO (Bool):=
 if(decide (a0 >= a1))=true then
  some (decide (a0<=a2))
 else
 some false
def ZrL(F:Nat):Fs yb:=⟨137,[.v yI,.v yI,.v yI],[],[yI,yI,yI],(zN .bool),λx=>Yo F x.1 x.2.1 x.2.2⟩
def ZcW:Fs yb:=ZrL yD
theorem Zic:ZcW.Ok:=fnO { still:=[6]} [] [] trivial
def Vi(F:Nat)(a0:Cond):yO (Bool):=
 (Yd F a0.2.2.2.1).bind λo753=>
 if o753=true then
  if(a0.2.2.2.1 !=1)=true then
   (Yo F a0.1 0 1).bind λo754=>
   if o754=true then
    (Yo F a0.2.1 1 1048576).bind λo755=>
    if o755=true then
     (Yo F a0.2.2.1 1 1125899906842624).bind λo756=>
     if o756=true then
      (Yo F a0.2.2.2.2 1 1048576).bind λo757=>
      some o757
     else
     some false
    else
    some false
   else
   some false
  else
  some false
 else
 some false
def Zow(F:Nat):Fs yb:=⟨138,[.v Yc],[],[Yc],(zN .bool),λx=>Vi F x⟩
def Zbg:Fs yb:=Zow yD
theorem Zfd:Zbg.Ok:=fnO { still:=[2,5,15,20,25,30]} [] [YG,ZcW] ⟨Xd,Zic,ytt⟩
def WM(F:Nat)(a0:Cond)(a1:Cond):yO (Bool):=
 if(decide (a0.1 < a1.1))=true then
  some true
 else
 if(a0.1==a1.1)=true then
  some (decide (a0.2.1 < a1.2.1))
 else
 some false
def Zm2(F:Nat):Fs yb:=⟨139,[.v Yc,.v Yc],[],[Yc,Yc],(zN .bool),λx=>WM F x.1 x.2⟩
def ZaI:Fs yb:=Zm2 yD
theorem Zdr:ZaI.Ok:=fnO { still:=[4]} [] [] trivial
def Wr(F:Nat)(s:(Int×Int×Int×Int×yG)):yO ((Int×Int×Int×Int×yG)⊕(Int×Int×yG)):=
 let y758:Bool:=decide (s.2.2.2.1 < (s.2.2.2.2.2.2.1.length:Int))
 if y758=true then
  (idx s.2.2.2.2.2.2.1 s.2.2.2.1).bind λe759=>
  if(e759.1==(wi (1 - s.1)))=true then
   (idx s.2.2.2.2.2.2.1 s.2.2.2.1).bind λe760=>
   some (.inl (s.1,wi (s.2.1+1),wi (s.2.2.1+e760.2.2.1),wi (s.2.2.2.1+1),s.2.2.2.2))
  else
  some (.inl (s.1,s.2.1,s.2.2.1,wi (s.2.2.2.1+1),s.2.2.2.2))
 else
 some (.inr (s.2.1,s.2.2.1,s.2.2.2.2))
def Zcf:Lp:=⟨[(1,.v yI),(2,.ref 0 []),(6,.v yI),(7,.v yI),(8,.v yI)],[.var (.v Zf) true],[yI,yI,yI,yI,Zf],[⟨.exit 0,[(6,.v yI),(7,.v yI)],[.var (.v Zf) true],[yI,yI,Zf]⟩],Zb (Wr yD) yD⟩
theorem Zid:Zcf.okA yb 140 0:=Zv { still:=[4,5]} [] [] trivial
def X9(F:Nat)(a0:yG)(a1:Int):yO ((Int×Int)):=
 (Zb (Wr F) F (a1,0,0,0,a0)).bind λo761=>
 some (o761.1,o761.2.1)
def ZkC(F:Nat):Fs yb:=⟨140,[.v Zf,.v yI],[],[Zf,yI],[⟨.ret,[(0,.tup [.v yI,.v yI])],[],[yI,yI]⟩],λx=>X9 F x.1 x.2⟩
def QL:Fs yb:=ZkC yD
theorem Zcg:QL.Ok:=fnO { still:=[4,5]} [(0,Zcf)] [] trivial ⟨Zid,ytt⟩
def WY(F:Nat)(s:(Int×Int×yG)):yO ((Int×Int×yG)⊕(Int×yG)):=
 if(decide (s.2.1 < (s.2.2.2.2.1.length:Int)))=true then
  (idx s.2.2.2.2.1 s.2.1).bind λe764=>
  some (.inl (wi (s.1+e764.2.2.1),wi (s.2.1+1),s.2.2))
 else
 some (.inr (s.1,s.2.2))
def Zds:Lp:=⟨[(1,.ref 0 []),(3,.v yI),(4,.v yI)],[.var (.v Zf) true],[yI,yI,Zf],[⟨.exit 0,[(3,.v yI)],[.var (.v Zf) true],[yI,Zf]⟩],Zb (WY yD) yD⟩
theorem ZjH:Zds.okA yb 141 0:=Zv { still:=[2]} [] [] trivial
def V6(F:Nat)(a0:yG):yO (Int):=
 (a0.2.1[0]?).bind λe762=>
 (a0.2.1[1]?).bind λe763=>
 (Zb (WY F) F (wi (e762+e763),0,a0)).bind λo765=>
 some o765.1
def Zm3(F:Nat):Fs yb:=⟨141,[.v Zf],[],[Zf],(zN yI),λx=>V6 F x⟩
def Zfe:Fs yb:=Zm3 yD
theorem Zm4:Zfe.Ok:=fnO { still:=[2]} [(0,Zds)] [] trivial ⟨ZjH,ytt⟩
def ZaJ(F:Nat)(a0:Int):yO (Int):=
 (Z0 F a0 0 16).bind λo766=>
 if(!o766)=true then
  some 0
 else
 some (wi (36+(wi ((wi (4+a0))*8))))
def ZlQ(F:Nat):Fs yb:=⟨155,[.v yI],[],[yI],(zN yI),λx=>ZaJ F x⟩
def Zdt:Fs yb:=ZlQ yD
theorem ZlR:Zdt.Ok:=fnO { still:=[2,3]} [] [VK] ⟨QI,ytt⟩
def Yu(F:Nat)(a0:Int)(a1:Int):yO (Int):=
 (Z0 F a0 0 1000).bind λo767=>
 if(!o767)=true then
  some 0
 else
 (ZaJ F a1).bind λo768=>
 some (wi (a0*o768))
def Zp1(F:Nat):Fs yb:=⟨79,[.v yI,.v yI],[],[yI,yI],(zN yI),λx=>Yu F x.1 x.2⟩
def ZbV:Fs yb:=Zp1 yD
theorem Zgc:ZbV.Ok:=fnO { still:=[4,5,9]} [] [VK,Zdt] ⟨QI,ZlR,ytt⟩
def Vj(F:Nat)(a0:Chan)(a1:yG):yO (Int):=
 (Yu F a1.2.2.2 (a1.2.2.1.length:Int)).bind λo769=>
 some (wi (o769+660))
def Zox(F:Nat):Fs yb:=⟨142,[.v Zu,.v Zf],[],[Zu,Zf],(zN yI),λx=>Vj F x.1 x.2⟩
def Zbh:Fs yb:=Zox yD
theorem Zff:Zbh.Ok:=fnO { still:=[4,6,9]} [] [ZbV] ⟨Zgc,ytt⟩
def Yj(F:Nat)(s:(Int×Chan×yG)):yO ((Int×Chan×yG)⊕((Bool×Chan×yG)⊕(Chan×yG))):=
 if(decide (s.1 < (s.2.2.2.2.1.length:Int)))=true then
  (idx s.2.2.2.2.1 s.1).bind λe777=>
  (Vi F e777).bind λo778=>
  if(!o778)=true then
   some (.inr (.inl (false,s.2.1,s.2.2)))
  else
  if(decide (s.1 > 0))=true then
   (idx s.2.2.2.2.1 (wi (s.1 - 1))).bind λe779=>
   (idx s.2.2.2.2.1 s.1).bind λe780=>
   (WM F e779 e780).bind λo781=>
   if(!o781)=true then
    some (.inr (.inl (false,s.2.1,s.2.2)))
   else
   (idx s.2.2.2.2.1 s.1).bind λe782=>
   (idx s.2.2.2.2.1 s.1).bind λe783=>
   if(inB (wi (1 - e783.1)) 2)=true then
    (s.2.1.2.2.2.1[(wi (1 - e783.1)).toNat]?).bind λe784=>
    if(decide (e782.2.2.1 < e784.2.2.2.2.1))=true then
     some (.inr (.inl (false,s.2.1,s.2.2)))
    else
    some (.inl (wi (s.1+1),s.2.1,s.2.2))
   else
   none
  else
  (idx s.2.2.2.2.1 s.1).bind λe785=>
  (idx s.2.2.2.2.1 s.1).bind λe786=>
  if(inB (wi (1 - e786.1)) 2)=true then
   (s.2.1.2.2.2.1[(wi (1 - e786.1)).toNat]?).bind λe787=>
   if(decide (e785.2.2.1 < e787.2.2.2.2.1))=true then
    some (.inr (.inl (false,s.2.1,s.2.2)))
   else
   some (.inl (wi (s.1+1),s.2.1,s.2.2))
  else
  none
 else
 some (.inr (.inr (s.2.1,s.2.2)))
def Zdu:Lp:=⟨[(2,.ref 0 []),(3,.ref 1 []),(5,.v yI)],[.var (.v Zu) true,.var (.v Zf) true],[yI,Zu,Zf],[⟨.ret,[(4,.v .bool)],[.var (.v Zu) true,.var (.v Zf) true],[.bool,Zu,Zf]⟩,⟨.exit 0,[(2,.ref 0 []),(3,.ref 1 [])],[.var (.v Zu) true,.var (.v Zf) true],[Zu,Zf]⟩],Zb (Yj yD) yD⟩
def ZQA:HI:={ still:=[4,10,15,22,29,35,56,69,74,104,105,125,136,137]}
theorem ZjI:Zdu.okA yb 63 0:=Zv ZQA [] [Zbg,ZaI] ⟨Zfd,Zdr,ytt⟩
def YP(F:Nat)(s:(Int×Chan×yG)):yO ((Int×Chan×yG)⊕((Bool×Chan×yG)⊕(Chan×yG))):=
 if(decide (s.1 < 2))=true then
  (X9 F s.2.2 s.1).bind λo791=>
  if(inB s.1 2)=true then
   (s.2.1.2.2.2.1[s.1.toNat]?).bind λe792=>
   if(decide (o791.1 > e792.2.2.2.1))=true then
    some (.inr (.inl (false,s.2.1,s.2.2)))
   else
   if(inB s.1 2)=true then
    (s.2.1.2.2.2.1[s.1.toNat]?).bind λe793=>
    if(decide (o791.2 > e793.2.2.2.2.2))=true then
     some (.inr (.inl (false,s.2.1,s.2.2)))
    else
    some (.inl (wi (s.1+1),s.2.1,s.2.2))
   else
   none
  else
  none
 else
 some (.inr (.inr (s.2.1,s.2.2)))
def Zdv:Lp:=⟨[(2,.ref 0 []),(3,.ref 1 []),(7,.v yI)],[.var (.v Zu) true,.var (.v Zf) true],[yI,Zu,Zf],[⟨.ret,[(4,.v .bool)],[.var (.v Zu) true,.var (.v Zf) true],[.bool,Zu,Zf]⟩,⟨.exit 2,[(2,.ref 0 []),(3,.ref 1 [])],[.var (.v Zu) true,.var (.v Zf) true],[Zu,Zf]⟩],Zb (YP yD) yD⟩
theorem ZjJ:Zdv.okA yb 63 1:=Zv ZQA [] [QL] ⟨Zcg,ytt⟩
def Z5(F:Nat)(a0:Chan)(a1:yG):yO (Bool):=
 (Zaj F a0).bind λo770=>
 if(o770 !=0)=true then
  some false
 else
 (Yo F a1.1 0 1048576).bind λo771=>
 if(!o771)=true then
  some false
 else
 (a1.2.1[0]?).bind λe772=>
 (Yo F e772 0 1125899906842624).bind λo773=>
 if(!o773)=true then
  some false
 else
 (a1.2.1[1]?).bind λe774=>
 (Yo F e774 0 1125899906842624).bind λo775=>
 if(!o775)=true then
  some false
 else
 (Yo F a1.2.2.2 0 1000).bind λo776=>
 if(!o776)=true then
  some false
 else
 if(decide ((a1.2.2.1.length:Int) > 16))=true then
  some false
 else
 (Zb (Yj F) F (0,a0,a1)).bind λo788=>
 match o788 with
 |.inl o789=>
  some o789.1
 |.inr o790=>
  (Zb (YP F) F (0,o790.1,o790.2)).bind λo794=>
  match o794 with
  |.inl o795=>
   some o795.1
  |.inr o796=>
   (V6 F o796.2).bind λo797=>
   if(o797==o796.1.2.1)=true then
    if(inB o796.1.2.2.2.2 2)=true then
     (o796.2.2.1[o796.1.2.2.2.2.toNat]?).bind λe798=>
     (Vj F o796.1 o796.2).bind λo799=>
     some (decide (e798 >= o799))
    else
    none
   else
   some false
def Zm5(F:Nat):Fs yb:=⟨63,[.v Zu,.v Zf],[],[Zu,Zf],(zN .bool),λx=>Z5 F x.1 x.2⟩
def WA:Fs yb:=Zm5 yD
theorem Vo:WA.Ok:=fnO ZQA [(0,Zdu),(1,Zdv)] [Zib,ZcW,Zfe,Zbh] ⟨Zp0,Zic,Zm4,Zff,ytt⟩ ⟨ZjI,ZjJ,ytt⟩
def Xe(F:Nat)(s:(yU×Int×Int×(yL yB))):yO ((yU×Int×Int×(yL yB))⊕(yU×Int×(yL yB))):=
 if(decide (s.2.2.1 >= 0))=true then
  if(inB s.2.1 32)=true then
   (s.2.2.2[s.2.1.toNat]?).bind λe800=>
   let y801:yU:=ZH (yac e800.toNat) (min ((w64 s.2.2.1).toNat:Int).toNat 64)
   some (.inl (((2*s.1)+(y801&&&1)) % 2305843009213688668,s.2.1,wi (s.2.2.1 - 1),s.2.2.2))
  else
  none
 else
 some (.inr (s.1,s.2.1,s.2.2.2))
def Zfg:Lp:=⟨[(1,.ref 0 []),(3,.v .u64),(4,.v yI),(5,.v yI)],[.var (.v (.arr 32 .u8)) true],[.u64,yI,yI,(.arr 32 .u8)],[⟨.exit 2,[(1,.ref 0 []),(3,.v .u64),(4,.v yI)],[.var (.v (.arr 32 .u8)) true],[.u64,yI,(.arr 32 .u8)]⟩],Zb (Xe yD) yD⟩
theorem ZkD:Zfg.okA yb 163 1:=Zv { still:=[2]} [] [] trivial
def Xf(F:Nat)(s:(yU×Int×(yL yB))):yO ((yU×Int×(yL yB))⊕(yU×(yL yB))):=
 if(decide (s.2.1 < 32))=true then
  (Zb (Xe F) F (s.1,s.2.1,7,s.2.2)).bind λo802=>
  some (.inl (o802.1,wi (o802.2.1+1),o802.2.2))
 else
 some (.inr (s.1,s.2.2))
def Zfh:Lp:=⟨[(1,.ref 0 []),(3,.v .u64),(4,.v yI)],[.var (.v (.arr 32 .u8)) true],[.u64,yI,(.arr 32 .u8)],[⟨.exit 0,[(3,.v .u64)],[.var (.v (.arr 32 .u8)) true],[.u64,(.arr 32 .u8)]⟩],Zb (Xf yD) yD⟩
theorem ZkE:Zfh.okA yb 163 0:=Zv { still:=[2]} [(1,Zfg)] [] trivial ⟨ZkD,ytt⟩
def Z2(F:Nat)(a0:(yL yB)):yO (yU):=
 (Zb (Xf F) F (0,0,a0)).bind λo803=>
 some (o803.1+1)
def Zoy(F:Nat):Fs yb:=⟨163,[.v (.arr 32 .u8)],[],[(.arr 32 .u8)],(zN .u64),λx=>Z2 F x⟩
def WN:Fs yb:=Zoy yD
theorem VN:WN.Ok:=fnO { still:=[2]} [(0,Zfh)] [] trivial ⟨ZkE,ytt⟩
def Xg(F:Nat)(s:(yU×Int×(yL yB))):yO ((yU×Int×(yL yB))⊕(yL yB)):=
 if(decide (s.2.1 >= 0))=true then
  if(decide (0<=s.2.1))=true then
   let y804:yB:=w8 ((ZH s.1 (min s.2.1.toNat 64)).toNat:Int)
   if(apB s.2.2.length 1 1)=true then
    some (.inl (s.1,wi (s.2.1 - 8),s.2.2++([y804]:yL yB)))
   else
   none
  else
  none
 else
 some (.inr s.2.2)
def Zfi:Lp:=⟨[(0,.v .u64),(3,.own 0 .u8),(4,.v yI)],[.log .u8 5],[.u64,yI,(.sl .u8)],[⟨.exit 0,[(3,.own 0 .u8)],[.log .u8 5],[(.sl .u8)]⟩],Zb (Xg yD) yD⟩
theorem ZkF:Zfi.okA yb 164 0:=Zv { own:=[3,9,15],still:=[2]} [] [] trivial
def Wh(F:Nat)(a0:yU):yO ((yL yB)):=
 (Zb (Xg F) F (a0,56,[])).bind λo805=>
 some o805
def Zoz(F:Nat):Fs yb:=⟨164,[.v .u64],[],[.u64],(zN (.sl .u8)),λx=>Wh F x⟩
def V7:Fs yb:=Zoz yD
theorem ZaK:V7.Ok:=fnO { own:=[3,9,15],still:=[2]} [(0,Zfi)] [] trivial ⟨ZkF,ytt⟩
def XC(F:Nat)(s:((yL yB)×(yL yB))):yO (((yL yB)×(yL yB))⊕((yL yB)×(yL yB))):=
 if((Int.tmod (s.2.length:Int) 64)!=56)=true then
  if(apB s.2.length 1 1)=true then
   some (.inl (s.1,s.2++([0]:yL yB)))
  else
  none
 else
 some (.inr (s.1,s.2))
def ZcX:Lp:=⟨[(0,.v (.sl .u8)),(3,.own 0 .u8)],[.log .u8 5],[(.sl .u8),(.sl .u8)],[⟨.exit 0,[(0,.v (.sl .u8)),(3,.own 0 .u8)],[.log .u8 5],[(.sl .u8),(.sl .u8)]⟩],Zb (XC yD) yD⟩
def ZQB:HI:={ own:=[3,6,8,9,11,16,18,27,33],still:=[2]}
theorem ZiD:ZcX.okA yb 256 0:=Zv ZQB [] [] trivial
def XD(F:Nat)(s:(yU×Int×(yL yB))):yO ((yU×Int×(yL yB))⊕(yL yB)):=
 if(decide (s.2.1 >= 0))=true then
  if(decide (0<=s.2.1))=true then
   let y807:yB:=w8 ((ZH s.1 (min s.2.1.toNat 64)).toNat:Int)
   if(apB s.2.2.length 1 1)=true then
    some (.inl (s.1,wi (s.2.1 - 8),s.2.2++([y807]:yL yB)))
   else
   none
  else
  none
 else
 some (.inr s.2.2)
def ZcY:Lp:=⟨[(3,.own 0 .u8),(4,.v .u64),(5,.v yI)],[.log .u8 5],[.u64,yI,(.sl .u8)],[⟨.exit 2,[(3,.own 0 .u8)],[.log .u8 5],[(.sl .u8)]⟩],Zb (XD yD) yD⟩
theorem ZiE:ZcY.okA yb 256 1:=Zv ZQB [] [] trivial
def VO(F:Nat)(a0:(yL yB)):yO ((yL yB)):=
 if(apB 0 a0.length 1)=true then
  if(apB a0.length 1 1)=true then
   (Zb (XC F) F (a0,a0++([128]:yL yB))).bind λo806=>
   (Zb (XD F) F (8*(w64 (o806.1.length:Int)),56,o806.2)).bind λo808=>
   some o808
  else
  none
 else
 none
def ZlS(F:Nat):Fs yb:=⟨256,[.v (.sl .u8)],[],[(.sl .u8)],(zN (.sl .u8)),λx=>VO F x⟩
def Zdw:Fs yb:=ZlS yD
theorem ZlT:Zdw.Ok:=fnO ZQB [(0,ZcX),(1,ZcY)] [] trivial ⟨ZiD,ZiE,ytt⟩
def ZaL(F:Nat):yO ((yL yV)):=
 some [1779033703,3144134277,1013904242,2773480762,1359893119,2600822924,528734635,1541459225]
def ZlU(F:Nat):Fs yb:=⟨257,[],[],[],(zN (.sl .u32)),λx=>ZaL F⟩
def Zdx:Fs yb:=ZlU yD
theorem ZlV:Zdx.Ok:=fnO { still:=[0]} [] [] trivial
def ZL(F:Nat)(a0:yV)(a1:Int):yO (yV):=
 if(decide (0<=a1))=true then
  if(decide (0<=wi (32 - a1)))=true then
   let y809:yV:=(Zf4 a0 (min a1.toNat 32))|||(Zb9 a0 (min (wi (32 - a1)).toNat 32))
   some y809
  else
  none
 else
 none
def ZoA(F:Nat):Fs yb:=⟨275,[.v .u32,.v yI],[],[.u32,yI],(zN .u32),λx=>ZL F x.1 x.2⟩
def Zbi:Fs yb:=ZoA yD
theorem Zfj:Zbi.Ok:=fnO { still:=[4]} [] [] trivial
def XT(F:Nat)(s:((yL yB)×Int×(yL yV))):yO (((yL yB)×Int×(yL yV))⊕(yL yV)):=
 if(decide (s.2.1 < 16))=true then
  (idx s.1 (wi (4*s.2.1))).bind λe810=>
  (idx s.1 (wi ((wi (4*s.2.1))+1))).bind λe811=>
  let y812:yV:=(Zb9 (ybs e810.toNat) 24)|||(Zb9 (ybs e811.toNat) 16)
  (idx s.1 (wi ((wi (4*s.2.1))+2))).bind λe813=>
  (idx s.1 (wi ((wi (4*s.2.1))+3))).bind λe814=>
  let y815:yV:=(y812|||(Zb9 (ybs e813.toNat) 8))|||(ybs e814.toNat)
  if(apB s.2.2.length 1 4)=true then
   some (.inl (s.1,wi (s.2.1+1),s.2.2++([y815]:yL yV)))
  else
  none
 else
 some (.inr s.2.2)
def Zdy:Lp:=⟨[(0,.v (.sl .u8)),(3,.own 0 .u32),(4,.v yI)],[.log .u32 72],[(.sl .u8),yI,(.sl .u32)],[⟨.exit 0,[(3,.own 0 .u32)],[.log .u32 72],[(.sl .u32)]⟩],Zb (XT yD) yD⟩
def ZQC:HI:={ own:=[3,14,49,80,97],still:=[2,64,66,72,74]}
theorem ZjK:Zdy.okA yb 273 0:=Zv ZQC [] [] trivial
def XU(F:Nat)(s:(Int×(yL yV))):yO ((Int×(yL yV))⊕(yL yV)):=
 if(decide (s.1 < 64))=true then
  (idx s.2 (wi (s.1 - 15))).bind λe817=>
  (idx s.2 (wi (s.1 - 2))).bind λe818=>
  (ZL F e817 7).bind λo819=>
  (ZL F e817 18).bind λo820=>
  (ZL F e818 17).bind λo821=>
  (ZL F e818 19).bind λo822=>
  (idx s.2 (wi (s.1 - 16))).bind λe823=>
  (idx s.2 (wi (s.1 - 7))).bind λe824=>
  let y825:yV:=(e823+((o819^^^o820)^^^(Zf4 e817 3)))+e824
  if(apB s.2.length 1 4)=true then
   let y826:(yL yV):=s.2++([y825+((o821^^^o822)^^^(Zf4 e818 10))]:yL yV)
   some (.inl (wi (s.1+1),y826))
  else
  none
 else
 some (.inr s.2)
def Zdz:Lp:=⟨[(3,.own 0 .u32),(5,.v yI)],[.log .u32 72],[yI,(.sl .u32)],[⟨.exit 2,[(3,.own 0 .u32)],[.log .u32 72],[(.sl .u32)]⟩],Zb (XU yD) yD⟩
theorem ZjL:Zdz.okA yb 273 1:=Zv ZQC [] [Zbi] ⟨Zfj,ytt⟩
def V8(F:Nat)(a0:(yL yB)):yO ((yL yV)):=
 (Zb (XT F) F (a0,0,[])).bind λo816=>
 (Zb (XU F) F (16,o816)).bind λo827=>
 some o827
def Zm6(F:Nat):Fs yb:=⟨273,[.v (.sl .u8)],[],[(.sl .u8)],(zN (.sl .u32)),λx=>V8 F x⟩
def Zfk:Fs yb:=Zm6 yD
theorem Zm7:Zfk.Ok:=fnO ZQC [(0,Zdy),(1,Zdz)] [] trivial ⟨ZjK,ZjL,ytt⟩
def ZbW(F:Nat):yO ((yL yV)):=
 some [1116352408,1899447441,3049323471,3921009573,961987163,1508970993,2453635748,2870763221,3624381080,310598401,607225278,1426881987,1925078388,2162078206,2614888103,3248222580,3835390401,4022224774,264347078,604807628,770255983,1249150122,1555081692,1996064986,2554220882,2821834349,2952996808,3210313671,3336571891,3584528711,113926993,338241895,666307205,773529912,1294757372,1396182291,1695183700,1986661051,2177026350,2456956037,2730485921,2820302411,3259730800,3345764771,3516065817,3600352804,4094571909,275423344,430227734,506948616,659060556,883997877,958139571,1322822218,1537002063,1747873779,1955562222,2024104815,2227730452,2361852424,2428436474,2756734187,3204031479,3329325298]
def ZoB(F:Nat):Fs yb:=⟨274,[],[],[],(zN (.sl .u32)),λx=>ZbW F⟩
def Zgd:Fs yb:=ZoB yD
theorem ZoC:Zgd.Ok:=fnO { still:=[0]} [] [] trivial
def XV(F:Nat)(s:((yL yV)×(yL yV)×(yL yV)×Int×(yL Unit)×(yL yV))):yO (((yL yV)×(yL yV)×(yL yV)×Int×(yL Unit)×(yL yV))⊕((yL yV)×(yL Unit)×(yL yV))):=
 if(decide (s.2.2.2.1 < 64))=true then
  if(inB 4 s.2.2.2.2.2.length)=true then
   (s.2.2.2.2.2[4]?).bind λe830=>
   (ZL F e830 6).bind λo831=>
   if(inB 4 s.2.2.2.2.2.length)=true then
    (s.2.2.2.2.2[4]?).bind λe832=>
    (ZL F e832 11).bind λo833=>
    if(inB 4 s.2.2.2.2.2.length)=true then
     (s.2.2.2.2.2[4]?).bind λe834=>
     (ZL F e834 25).bind λo835=>
     if(inB 4 s.2.2.2.2.2.length)=true then
      (s.2.2.2.2.2[4]?).bind λe836=>
      if(inB 5 s.2.2.2.2.2.length)=true then
       (s.2.2.2.2.2[5]?).bind λe837=>
       if(inB 4 s.2.2.2.2.2.length)=true then
        (s.2.2.2.2.2[4]?).bind λe838=>
        if(inB 6 s.2.2.2.2.2.length)=true then
         (s.2.2.2.2.2[6]?).bind λe839=>
         let y840:yV:=(e836&&&e837)^^^((4294967295^^^e838)&&&e839)
         if(inB 7 s.2.2.2.2.2.length)=true then
          (s.2.2.2.2.2[7]?).bind λe841=>
          (idx s.2.2.1 s.2.2.2.1).bind λe842=>
          let y843:yV:=((e841+((o831^^^o833)^^^o835))+y840)+e842
          (idx s.2.1 s.2.2.2.1).bind λe844=>
          if(inB 0 s.2.2.2.2.2.length)=true then
           (s.2.2.2.2.2[0]?).bind λe845=>
           (ZL F e845 2).bind λo846=>
           if(inB 0 s.2.2.2.2.2.length)=true then
            (s.2.2.2.2.2[0]?).bind λe847=>
            (ZL F e847 13).bind λo848=>
            if(inB 0 s.2.2.2.2.2.length)=true then
             (s.2.2.2.2.2[0]?).bind λe849=>
             (ZL F e849 22).bind λo850=>
             if(inB 0 s.2.2.2.2.2.length)=true then
              (s.2.2.2.2.2[0]?).bind λe851=>
              if(inB 1 s.2.2.2.2.2.length)=true then
               (s.2.2.2.2.2[1]?).bind λe852=>
               if(inB 0 s.2.2.2.2.2.length)=true then
                (s.2.2.2.2.2[0]?).bind λe853=>
                if(inB 2 s.2.2.2.2.2.length)=true then
                 (s.2.2.2.2.2[2]?).bind λe854=>
                 if(inB 1 s.2.2.2.2.2.length)=true then
                  (s.2.2.2.2.2[1]?).bind λe855=>
                  if(inB 2 s.2.2.2.2.2.length)=true then
                   (s.2.2.2.2.2[2]?).bind λe856=>
                   let y857:yV:=((e851&&&e852)^^^(e853&&&e854))^^^(e855&&&e856);let y858:yV:=((y843+e844)+((o846^^^o848)^^^o850))+y857
                   if(inB 0 s.2.2.2.2.2.length)=true then
                    (s.2.2.2.2.2[0]?).bind λe859=>
                    if(inB 1 s.2.2.2.2.2.length)=true then
                     (s.2.2.2.2.2[1]?).bind λe860=>
                     if(inB 2 s.2.2.2.2.2.length)=true then
                      (s.2.2.2.2.2[2]?).bind λe861=>
                      if(inB 3 s.2.2.2.2.2.length)=true then
                       (s.2.2.2.2.2[3]?).bind λe862=>
                       if(inB 4 s.2.2.2.2.2.length)=true then
                        (s.2.2.2.2.2[4]?).bind λe863=>
                        if(inB 5 s.2.2.2.2.2.length)=true then
                         (s.2.2.2.2.2[5]?).bind λe864=>
                         if(inB 6 s.2.2.2.2.2.length)=true then
                          (s.2.2.2.2.2[6]?).bind λe865=>
                          some (.inl (s.1,s.2.1,s.2.2.1,wi (s.2.2.2.1+1),()::s.2.2.2.2.1,[y858,e859,e860,e861,e862+(y843+e844),e863,e864,e865]))
                         else
                         none
                        else
                        none
                       else
                       none
                      else
                      none
                     else
                     none
                    else
                    none
                   else
                   none
                  else
                  none
                 else
                 none
                else
                none
               else
               none
              else
              none
             else
             none
            else
            none
           else
           none
          else
          none
         else
         none
        else
        none
       else
       none
      else
      none
     else
     none
    else
    none
   else
   none
  else
  none
 else
 some (.inr (s.1,s.2.2.2.2.1,s.2.2.2.2.2))
def ZdA:Lp:=⟨[(0,.v (.sl .u32)),(5,.v (.sl .u32)),(6,.v (.sl .u32)),(7,.rw 0),(8,.v yI)],[.row .u32 true 72],[(.sl .u32),(.sl .u32),(.sl .u32),yI,(.sl (.st [])),(.sl .u32)],[⟨.exit 0,[(0,.v (.sl .u32)),(7,.rw 0)],[.row .u32 true 72],[(.sl .u32),(.sl (.st [])),(.sl .u32)]⟩],Zb (XV yD) yD⟩
def ZQD:HI:={ own:=[18,20],still:=[4,15,27,31,36,74,78,83],rowt:=[7,18,20,137,142],rew:=[(137,7)]}
theorem ZjM:ZdA.okA yb 258 0:=Zv ZQD [] [Zbi] ⟨Zfj,ytt⟩
def XW(F:Nat)(s:((yL yV)×Int×(yL Unit)×(yL yV))):yO (((yL yV)×Int×(yL Unit)×(yL yV))⊕((yL Unit)×(yL yV))):=
 if(decide (s.2.1 < 8))=true then
  if(inB s.2.1 s.2.2.2.length)=true then
   (s.2.2.2[s.2.1.toNat]?).bind λe867=>
   (idx s.1 s.2.1).bind λe868=>
   if(inB s.2.1 s.2.2.2.length)=true then
    (s.2.2.2[s.2.1.toNat]?).bind λe869=>
    some (.inl (s.1,wi (s.2.1+1),s.2.2.1,s.2.2.2.set s.2.1.toNat (e867+e868)))
   else
   none
  else
  none
 else
 some (.inr (s.2.2.1,s.2.2.2))
def ZdB:Lp:=⟨[(0,.v (.sl .u32)),(7,.rw 0),(14,.v yI)],[.row .u32 true 72],[(.sl .u32),yI,(.sl (.st [])),(.sl .u32)],[⟨.exit 2,[(7,.rw 0)],[.row .u32 true 72],[(.sl (.st [])),(.sl .u32)]⟩],Zb (XW yD) yD⟩
theorem ZjN:ZdB.okA yb 258 1:=Zv ZQD [] [] trivial
def V9(F:Nat)(a0:(yL yV))(a1:(yL yB)):yO ((yL yV)):=
 (V8 F a1).bind λo828=>
 (ZbW F).bind λo829=>
 if(apB 0 a0.length 4)=true then
  (Zb (XV F) F (a0,o828,o829,0,[()],a0)).bind λo866=>
  (Zb (XW F) F (o866.1,0,o866.2.1,o866.2.2)).bind λo870=>
  some o870.2
 else
 none
def Zm8(F:Nat):Fs yb:=⟨258,[.v (.sl .u32),.v (.sl .u8)],[],[(.sl .u32),(.sl .u8)],(zN (.sl .u32)),λx=>V9 F x.1 x.2⟩
def Zfl:Fs yb:=Zm8 yD
theorem Zm9:Zfl.Ok:=fnO ZQD [(0,ZdA),(1,ZdB)] [Zfk,Zgd] ⟨Zm7,ZoC,ytt⟩ ⟨ZjM,ZjN,ytt⟩
def Wa(F:Nat)(s:((yL yB)×(yL yV)×Int×(yL yB))):yO (((yL yB)×(yL yV)×Int×(yL yB))⊕((yL yV)×(yL yB))):=
 if(decide (s.2.2.1 < (s.1.length:Int)))=true then
  if(Zbp s.1.length (some s.2.2.1) (some (wi (s.2.2.1+64))))=true then
   let y873:(yL yB):=(s.1.take ((wi (s.2.2.1+64)).toNat)).drop s.2.2.1.toNat
   (V9 F s.2.1 y873).bind λo874=>
   some (.inl (s.1,o874,wi (s.2.2.1+64),s.2.2.2))
  else
  none
 else
 some (.inr (s.2.1,s.2.2.2))
def Zfm:Lp:=⟨[(2,.ref 0 []),(3,.v (.sl .u8)),(4,.v (.sl .u32)),(5,.v yI)],[.var (.v (.arr 32 .u8)) true],[(.sl .u8),(.sl .u32),yI,(.arr 32 .u8)],[⟨.exit 0,[(2,.ref 0 []),(4,.v (.sl .u32))],[.var (.v (.arr 32 .u8)) true],[(.sl .u32),(.arr 32 .u8)]⟩],Zb (Wa yD) yD⟩
theorem ZkG:Zfm.okA yb 222 0:=Zv { still:=[8,17,22]} [] [Zfl] ⟨Zm9,ytt⟩
def Wb(F:Nat)(s:((yL yV)×Int×(yL yB)×(yL yB))):yO (((yL yV)×Int×(yL yB)×(yL yB))⊕((yL yB)×(yL yB))):=
 if(decide (s.2.1 < 32))=true then
  (idx s.1 (wi (Int.tdiv s.2.1 4))).bind λe876=>
  if(decide (0<=wi (24 - (wi (8*(Int.tmod s.2.1 4))))))=true then
   let y877:yV:=Zf4 e876 (min (wi (24 - (wi (8*(Int.tmod s.2.1 4))))).toNat 32)
   if(inB s.2.1 32)=true then
    (s.2.2.2[s.2.1.toNat]?).bind λe878=>
    some (.inl (s.1,wi (s.2.1+1),s.2.2.1,s.2.2.2.set s.2.1.toNat (w8 (y877.toNat:Int))))
   else
   none
  else
  none
 else
 some (.inr (s.2.2.1,s.2.2.2))
def Zfn:Lp:=⟨[(2,.ref 0 []),(4,.v (.sl .u32)),(6,.ref 1 []),(7,.v yI)],[.var (.v (.arr 32 .u8)) true,.var (.v (.arr 32 .u8)) true],[(.sl .u32),yI,(.arr 32 .u8),(.arr 32 .u8)],[⟨.exit 2,[(2,.ref 0 []),(6,.ref 1 [])],[.var (.v (.arr 32 .u8)) true,.var (.v (.arr 32 .u8)) true],[(.arr 32 .u8),(.arr 32 .u8)]⟩],Zb (Wb yD) yD⟩
theorem ZkH:Zfn.okA yb 222 1:=Zv { still:=[8,17,22]} [] [] trivial
def Vk(F:Nat)(a0:(yL yB)):yO ((yL yB)):=
 (VO F a0).bind λo871=>
 (ZaL F).bind λo872=>
 (Zb (Wa F) F (o871,o872,0,yzz)).bind λo875=>
 (Zb (Wb F) F (o875.1,0,o875.2,yzz)).bind λo879=>
 some o879.2
def ZaM(F:Nat):Fs yb:=⟨222,[.v (.sl .u8)],[],[(.sl .u8)],(zN (.arr 32 .u8)),λx=>Vk F x⟩
def Zp2:Fs yb:=ZaM yD
theorem ZoD:Zp2.Ok:=fnO { still:=[8,17,22]} [(0,Zfm),(1,Zfn)] [Zdw,Zdx] ⟨ZlT,ZlV,ytt⟩ ⟨ZkG,ZkH,ytt⟩
end
end Go.Proofs.YtdhclndplbopgaaGreat
end
section
set_option maxRecDepth 4000
namespace Go.Ev
theorem ZIN{I X:Type}{step:I->yO (I⊕X)}{st:Nat->I}{x:X}(n:Nat)(hs:∀k,k < n->step (st k)=some (.inl (st (k+1))))(he:step (st n)=some (.inr x)):∀(d k f:Nat),k+d=n->d < f->Zb step f (st k)=some x
 |0,k,f+1,h,_=>by
  have e:k=n:=by omega
  subst e;unfold Zb
  rw[he,ya]
 |d+1,k,f+1,h,hf=>by
  unfold Zb;rw[hs k (by omega),ya];exact ZIN n hs he d (k+1) f (by omega) (by omega)
theorem Zt{I X:Type}{step:I->yO (I⊕X)}(n:Nat)(st:Nat->I){x:X}(hs:∀k,k < n->step (st k)=some (.inl (st (k+1))))(he:step (st n)=some (.inr x))(hn:n < 18446744073709551616):
 Zb step yD (st 0)=some x:=ZIN n hs he n 0 yD (by omega) (by rw[ZgL];exact hn)
theorem ZFC{I X:Type}{step:I->yO (I⊕X)}{Post:X->Prop}(n:Nat)(S:Nat->I->Prop)(hs:∀k s,k < n->S k s->(∃t,step s=some (.inl t)/\S (k+1) t)\/∃x,step s=some (.inr x)/\Post x)
 (he:∀s,S n s->∃x,step s=some (.inr x)/\Post x):∀(d k f:Nat)(s:I),k+d=n->d < f->S k s->∃x,Zb step f s=some x/\Post x
 |0,k,f+1,s,h,_,hS=>by
  have e:k=n:=by omega
  subst e;obtain⟨x,h1,h2⟩:=he s hS;unfold Zb;rw[h1,ya]
  exact⟨x,rfl,h2⟩
 |d+1,k,f+1,s,h,hf,hS=>by
  unfold Zb;rcases hs k s (by omega) hS with⟨t,h1,h2⟩|⟨x,h1,h2⟩
  ·rw[h1,ya];exact ZFC n S hs he d (k+1) f t (by omega) (by omega) h2
  ·rw[h1,ya];exact⟨x,rfl,h2⟩
theorem Ws{I X:Type}{step:I->yO (I⊕X)}(n:Nat)(S:Nat->I->Prop)(Post:X->Prop){i:I}(h0:S 0 i)(hn:n < 18446744073709551616)
 (hs:∀k s,k < n->S k s->(∃t,step s=some (.inl t)/\S (k+1) t)\/∃x,step s=some (.inr x)/\Post x)
 (he:∀s,S n s->∃x,step s=some (.inr x)/\Post x):∃x,Zb step yD i=some x/\Post x:=ZFC n S hs he n 0 yD i (by omega) (by rw[ZgL];exact hn) h0
theorem ZF{a b:Nat}(h:a < b):decide ((a:Int) < (b:Int))=true:=yY (by omega)
theorem Zz{a:Nat}:decide ((a:Int) < (a:Int))=false:=yZ (by omega)
theorem Zo{k:Nat}(h:k < 9223372036854775807):wi ((k:Int)+1)=((k+1:Nat):Int):=by
 rw[ZU (by omega) (by omega)];omega
theorem Zp{α:Type}{l:yL α}{k:Nat}{y:α}(h:l[k]? =some y):idx l (k:Int)=some y:=Zsy (by omega) (by simpa using h)
theorem ZBb{α:Type}{ls:yL (yL α)}{k:Nat}{e:yL α}(h:ls[k]? =some e):(ls.take (k+1)).flatten=(ls.take k).flatten++e:=by
 rw[List.take_add_one,h];simp
theorem ZIO{α:Type}(ls:yL (yL α))(k:Nat):(ls.take k).flatten.length<=ls.flatten.length:=by
 have h:=congrArg (λl=>(List.flatten l).length) (List.take_append_drop k ls);simp only[List.flatten_append,yo] at h;omega
theorem Qa{α:Type}{l:yL α}{k:Nat}{e:α}(h:l[k]? =some e):l.take (k+1)=l.take k++[e]:=by
 rw[List.take_add_one,h];rfl
theorem Zg{α:Type}{l:yL α}{k:Nat}(h:k < l.length):∃e,l[k]? =some e/\e∈l:=⟨l[k],List.getElem?_eq_getElem h,List.getElem_mem h⟩
end Go.Ev
end
section
set_option maxRecDepth 4000
namespace Go.Proofs.YtdhclndplbopgaaGreat
open Go Go.Ev Go.Sha
theorem ZeL(x:yV)(n k:Nat)(h:n+k=32)(hn:0 < n){z:Int}(hz:z=(n:Int)):∃o,ZL yD x z=some o/\o.toNat=lo (Nat.shiftRight (dbl x.toNat) n):=by
 subst hz;unfold ZL;rw[ZU (z:=32 - (n:Int)) (by omega) (by omega),yW (yY (by omega)),yW (yY (by omega))];refine⟨_,rfl, ?_⟩;have e1:min ((n:Int)).toNat 32=n:=by omega
 have e2:min (32 - (n:Int)).toNat 32=k:=by omega
 rw[e1,e2,UInt32.or_comm];exact ZPd x h hn
theorem ZQE(a b c d:yB):((((Zb9 (ybs a.toNat) 24)|||(Zb9 (ybs b.toNat) 16))|||(Zb9 (ybs c.toNat) 8))|||(ybs d.toNat)).toNat=((a.toNat*256+b.toNat)*256+c.toNat)*256+d.toNat:=by
 have h1:=a.toNat_lt;have h2:=b.toNat_lt;have h3:=c.toNat_lt;have h4:=d.toNat_lt
 have hs:∀(x:yB)(n:Nat),n<=24->(Zb9 (ybs x.toNat) n).toNat=x.toNat*2 ^ n:=by
  intro x n hn;have hx:=x.toNat_lt;unfold Zb9;rw[ycs,ycs,yak (a:=x.toNat) (by omega)];refine yak ?_
  calc x.toNat*2 ^ n < 2 ^ 8*2 ^ n:=Nat.mul_lt_mul_of_pos_right hx (Nat.two_pow_pos n)
   _=2 ^ (8+n):=(Nat.pow_add ..).symm
   _<=2 ^ 32:=Nat.pow_le_pow_right (by omega) (by omega)
 rw[ZCP,ZCP,ZCP,hs _ _ (by omega),hs _ _ (by omega),hs _ _ (by omega),ycs,yak (a:=d.toNat) (by omega)]
 have k1:Nat.lor (a.toNat*2 ^ 24) (b.toNat*2 ^ 16)=2 ^ 16*(a.toNat*256+b.toNat):=by
  rw[Nat.mul_comm a.toNat,show Nat.lor (2 ^ 24*a.toNat) (b.toNat*2 ^ 16)=2 ^ 24*a.toNat|||b.toNat*2 ^ 16 from rfl, <-ycz (by omega)]
  omega
 have k2:Nat.lor (2 ^ 16*(a.toNat*256+b.toNat)) (c.toNat*2 ^ 8)=2 ^ 8*((a.toNat*256+b.toNat)*256+c.toNat):=by
  rw[show Nat.lor (2 ^ 16*(a.toNat*256+b.toNat)) (c.toNat*2 ^ 8)=2 ^ 16*(a.toNat*256+b.toNat)|||c.toNat*2 ^ 8 from rfl, <-ycz (by omega)]
  omega
 rw[k1,k2,show Nat.lor (2 ^ 8*((a.toNat*256+b.toNat)*256+c.toNat)) d.toNat=2 ^ 8*((a.toNat*256+b.toNat)*256+c.toNat)|||d.toNat from rfl, <-ycz (by omega)]
 omega
theorem ZRD(e f g:yV):((e&&&f)^^^((4294967295^^^e)&&&g)).toNat=ch e.toNat f.toNat g.toNat:=by
 rw[<-ZRs];congr 1;apply UInt32.toBitVec_inj.1;apply BitVec.eq_of_getLsbD_eq;intro i hi
 have h1:(4294967295:yV).toBitVec.getLsbD i=true:=by
  rw[show(4294967295:yV).toBitVec=BitVec.allOnes 32 from rfl,BitVec.getLsbD_allOnes]
  exact yY hi
 simp only[UInt32.toBitVec_xor,UInt32.toBitVec_and,BitVec.getLsbD_xor,BitVec.getLsbD_and,h1];cases e.toBitVec.getLsbD i <;> cases f.toBitVec.getLsbD i <;> cases g.toBitVec.getLsbD i <;> rfl
theorem ZRE(a b c:yV):(((a&&&b)^^^(a&&&c))^^^(b&&&c)).toNat=mj a.toNat b.toNat c.toNat:=by
 rw[<-ZRt];congr 1;apply UInt32.toBitVec_inj.1;apply BitVec.eq_of_getLsbD_eq;intro i hi;simp only[UInt32.toBitVec_xor,UInt32.toBitVec_and,UInt32.toBitVec_or,BitVec.getLsbD_xor,BitVec.getLsbD_and,BitVec.getLsbD_or];cases a.toBitVec.getLsbD i <;> cases b.toBitVec.getLsbD i <;> cases c.toBitVec.getLsbD i <;> rfl
theorem ZMx{l:yL yB}(h:l.length=64):∃o,V8 yD l=some o/\o.length=64/\∀(i:Nat)x,o[i]? =some x->x.toNat=wd (Yf (l.map yam)) i:=by
 unfold V8
 have hset:∀(w:yL yV)(y:yV),y.toNat=wd (Yf (l.map yam)) w.length->(∀(j:Nat)x,w[j]? =some x->x.toNat=wd (Yf (l.map yam)) j)->∀(j:Nat)x,(w++[y])[j]? =some x->x.toNat=wd (Yf (l.map yam)) j:=by
  intro w y hy hw j x hx;by_cases hj:j < w.length
  ·rw[List.getElem?_append_left hj] at hx;exact hw j x hx
  ·rw[List.getElem?_append_right (by omega)] at hx
   have:j=w.length:=by
    have:=(List.getElem?_eq_some_iff.1 hx).1;simp at this;omega
   subst this;rw[Nat.sub_self] at hx;cases hx;exact hy
 obtain⟨w0,g1,g2,g3⟩:=Ws (step:=XT yD) 16 (λk s=>∃w,s=(l,(k:Int),w)/\w.length=k/\∀(j:Nat)x,w[j]? =some x->x.toNat=wd (Yf (l.map yam)) j) (λw=>w.length=16/\∀(j:Nat)x,w[j]? =some x->x.toNat=wd (Yf (l.map yam)) j) (i:=(l,(0:Int),([]:yL yV))) ⟨_,rfl,rfl,λj x hx=>by simp at hx⟩ (by omega) (by
  rintro k _ hk ⟨w,rfl,hw,hv⟩;left;obtain⟨x0,q0,_⟩:=Zg (l:=l) (k:=4*k) (by omega);obtain⟨x1,q1,_⟩:=Zg (l:=l) (k:=4*k+1) (by omega);obtain⟨x2,q2,_⟩:=Zg (l:=l) (k:=4*k+2) (by omega);obtain⟨x3,q3,_⟩:=Zg (l:=l) (k:=4*k+3) (by omega);unfold XT;dsimp only;rw[ZU (z:=4*(k:Int)) (by omega) (by omega),ZU (z:=4*(k:Int)+1) (by omega) (by omega),ZU (z:=4*(k:Int)+2) (by omega) (by omega),ZU (z:=4*(k:Int)+3) (by omega) (by omega)]
  rw[yW (yY (by omega)),show 4*(k:Int)=((4*k:Nat):Int) by omega,show((4*k:Nat):Int)+1=((4*k+1:Nat):Int) by omega,show((4*k:Nat):Int)+2=((4*k+2:Nat):Int) by omega,show((4*k:Nat):Int)+3=((4*k+3:Nat):Int) by omega,
   Zp q0,ya,Zp q1,ya,Zp q2,ya,Zp q3,ya,yW (ZT (by omega) (by omega)),Zo (by omega)]
  refine⟨_,rfl,_,rfl,by rw[yo,List.length_singleton];omega,hset w _ ?_ hv⟩;have mg:∀(k:Nat)(x:yB),l[k]? =some x->(l.map yam)[k]? =some x.toNat:=λk x hx=>by rw[yal,hx];rfl
  have hwg:=Zob k (l.map yam) _ _ _ _ (mg _ _ q0) (mg _ _ q1) (mg _ _ q2) (mg _ _ q3);rw[ZQE,hw];have b0:=x0.toNat_lt;have b1:=x1.toNat_lt;have b2:=x2.toNat_lt;have b3:=x3.toNat_lt;exact(ZFd _ (by omega) hwg (by omega)).symm) (by
  rintro _ ⟨w,rfl,hw,hv⟩;unfold XT;dsimp only;rw[yX (ynd (by omega))];exact⟨_,rfl,hw,hv⟩)
 rw[g1,ya]
 obtain⟨w1,k1,k2,k3⟩:=Ws (step:=XU yD) 48 (λk s=>∃w,s=(((16+k:Nat):Int),w)/\w.length=16+k/\∀(j:Nat)x,w[j]? =some x->x.toNat=wd (Yf (l.map yam)) j) (λw=>w.length=64/\∀(j:Nat)x,w[j]? =some x->x.toNat=wd (Yf (l.map yam)) j) (i:=((16:Int),w0)) ⟨_,rfl,g2,g3⟩ (by omega) (by
  rintro k _ hk ⟨w,rfl,hw,hv⟩;left;obtain⟨e1,he1,_⟩:=Zg (l:=w) (k:=k+1) (by omega);obtain⟨e2,he2,_⟩:=Zg (l:=w) (k:=k+14) (by omega);obtain⟨e3,he3,_⟩:=Zg (l:=w) (k:=k) (by omega);obtain⟨e4,he4,_⟩:=Zg (l:=w) (k:=k+9) (by omega);obtain⟨o1,ho1,p1⟩:=ZeL e1 7 25 rfl (by omega) (z:=7) rfl;obtain⟨o2,ho2,p2⟩:=ZeL e1 18 14 rfl (by omega) (z:=18) rfl;obtain⟨o3,ho3,p3⟩:=ZeL e2 17 15 rfl (by omega) (z:=17) rfl;obtain⟨o4,ho4,p4⟩:=ZeL e2 19 13 rfl (by omega) (z:=19) rfl;unfold XU;dsimp only;rw[yW (yY (by omega)),ZU (z:=((16+k:Nat):Int) - 15) (by omega) (by omega),ZU (z:=((16+k:Nat):Int) - 2) (by omega) (by omega),ZU (z:=((16+k:Nat):Int) - 16) (by omega) (by omega),ZU (z:=((16+k:Nat):Int) - 7) (by omega) (by omega)];rw[show((16+k:Nat):Int) - 15=((k+1:Nat):Int) by omega,show((16+k:Nat):Int) - 2=((k+14:Nat):Int) by omega,show((16+k:Nat):Int) - 16=(k:Int) by omega,show((16+k:Nat):Int) - 7=((k+9:Nat):Int) by omega]
  rw[Zp he1,ya,Zp he2,ya,ho1,ya,ho2,ya,ho3,ya,ho4,ya,Zp he3,ya,Zp he4,ya,
   yW (ZT (by omega) (by omega)),Zo (by omega)]
  refine⟨_,rfl,_,rfl,by rw[yo,List.length_singleton];omega,hset w _ ?_ hv⟩;have hn:=ZCQ (Yf (l.map yam)) k;rw[<-hv _ _ he1, <-hv _ _ he2, <-hv _ _ he3, <-hv _ _ he4] at hn;rw[hw,Nat.add_comm 16 k,hn,Zbb,Zbb,Zbb,ZRo e1 p1 p2,ZRp e2 p3 p4];exact ZRu ..) (by
  rintro _ ⟨w,rfl,hw,hv⟩;unfold XU;dsimp only;rw[yX (ynd (by omega))];exact⟨_,rfl,hw,hv⟩)
 rw[k1,ya];exact⟨_,rfl,k2,k3⟩
theorem ZMy{st:yL yV}{l:yL yB}(hs:st.length=8)(h:l.length=64):∃o,V9 yD st l=some o/\o.map yan=Zly (st.map yan) (Yf (l.map yam)):=by
 unfold V9;obtain⟨w,hw,hwl,hwv⟩:=ZMx h;obtain⟨k,hk,hkv⟩:∃k,ZbW yD=some k/\k.map yan=ks:=⟨_,rfl,rfl⟩;have hkl:k.length=64:=by rw[<-yy (f:=yan),hkv];rfl
 generalize hws:Yf (l.map yam)=ws at hwv;rw[hw,ya,hk,ya,yW (ZT (by omega) (by omega))]
 obtain⟨x,g1,u,v,rfl,g2,g3⟩:=Ws (step:=XV yD) 64 (λi s=>∃u v,s=(st,w,k,(i:Int),u,v)/\v.length=8/\v.map yan=rs ws (st.map yan) i) (λx=>∃u v,x=(st,u,v)/\v.length=8/\v.map yan=rs ws (st.map yan) 64) (i:=(st,w,k,(0:Int),([()]:yL Unit),st)) ⟨_,_,rfl,hs,rfl⟩ (by omega) (by
  rintro i _ hi ⟨u,v,rfl,he,hv⟩;left
  match v,he,hv with
  |[x0,x1,x2,x3,x4,x5,x6,x7],_,hv=>
   obtain⟨e1,he1,_⟩:=Zg (l:=k) (k:=i) (by omega);obtain⟨e2,he2,_⟩:=Zg (l:=w) (k:=i) (by omega);obtain⟨o1,ho1,p1⟩:=ZeL x4 6 26 rfl (by omega) (z:=6) rfl;obtain⟨o2,ho2,p2⟩:=ZeL x4 11 21 rfl (by omega) (z:=11) rfl;obtain⟨o3,ho3,p3⟩:=ZeL x4 25 7 rfl (by omega) (z:=25) rfl;obtain⟨o4,ho4,p4⟩:=ZeL x0 2 30 rfl (by omega) (z:=2) rfl;obtain⟨o5,ho5,p5⟩:=ZeL x0 13 19 rfl (by omega) (z:=13) rfl;obtain⟨o6,ho6,p6⟩:=ZeL x0 22 10 rfl (by omega) (z:=22) rfl;have hb:∀n:Nat,n < 8->inB (n:Int) ([x0,x1,x2,x3,x4,x5,x6,x7]:yL yV).length=true:=λn hn=>ZJ (by omega) (by simp;omega);have b0:=hb 0 (by omega);have b1:=hb 1 (by omega);have b2:=hb 2 (by omega);have b3:=hb 3 (by omega);have b4:=hb 4 (by omega);have b5:=hb 5 (by omega);have b6:=hb 6 (by omega);have b7:=hb 7 (by omega);unfold XV;dsimp only;generalize ZL yD=R at ho1 ho2 ho3 ho4 ho5 ho6 ⊢;rw[yW (yY (by omega))];have c0:inB 0 ([x0,x1,x2,x3,x4,x5,x6,x7]:yL yV).length=true:=b0;have c1:inB 1 ([x0,x1,x2,x3,x4,x5,x6,x7]:yL yV).length=true:=b1;have c2:inB 2 ([x0,x1,x2,x3,x4,x5,x6,x7]:yL yV).length=true:=b2;have c3:inB 3 ([x0,x1,x2,x3,x4,x5,x6,x7]:yL yV).length=true:=b3;have c4:inB 4 ([x0,x1,x2,x3,x4,x5,x6,x7]:yL yV).length=true:=b4;have c5:inB 5 ([x0,x1,x2,x3,x4,x5,x6,x7]:yL yV).length=true:=b5;have c6:inB 6 ([x0,x1,x2,x3,x4,x5,x6,x7]:yL yV).length=true:=b6;have c7:inB 7 ([x0,x1,x2,x3,x4,x5,x6,x7]:yL yV).length=true:=b7;simp only[c0,c1,c2,c3,c4,c5,c6,c7,if_true,List.getElem?_cons_zero,List.getElem?_cons_succ,ya,ho1,ho2,ho3,ho4,ho5,ho6,Zp he1,Zp he2];rw[Zo (by omega)];refine⟨_,rfl,_,_,rfl,rfl, ?_⟩;rw[show rs ws (st.map yan) (i+1)=rnd (rs ws (st.map yan) i) (ks.getD i 0) (wd ws i) from rfl, <-hv]
   have hk1:ks.getD i 0=e1.toNat:=by
    rw[<-hkv,ycx,yal,he1];rfl
   rw[hk1, <-hwv i e2 he2];simp only[List.map_cons,List.map_nil];rw[Zyc]
   have kt:((x7+((o1^^^o2)^^^o3))+((x4&&&x5)^^^((4294967295^^^x4)&&&x6))+e1+e2).toNat=lo (yr (yr (yr (yr x7.toNat (S1 x4.toNat)) (ch x4.toNat x5.toNat x6.toNat)) e1.toNat) e2.toNat):=by
    rw[Zbb,Zbb,Zbb,Zbb,ZRr x4 p1 p2 p3,ZRD];exact ZRv ..
   have ka:((x7+((o1^^^o2)^^^o3))+((x4&&&x5)^^^((4294967295^^^x4)&&&x6))+e1+e2+((o4^^^o5)^^^o6)+(((x0&&&x1)^^^(x0&&&x2))^^^(x1&&&x2))).toNat=lo (yr (yr (yr (yr (yr (yr x7.toNat (S1 x4.toNat)) (ch x4.toNat x5.toNat x6.toNat)) e1.toNat) e2.toNat) (S0 x0.toNat)) (mj x0.toNat x1.toNat x2.toNat)):=by
    rw[Zbb,Zbb,kt,ZRq x0 p4 p5 p6,ZRE];exact ZRw ..
   have ke:(x3+(((x7+((o1^^^o2)^^^o3))+((x4&&&x5)^^^((4294967295^^^x4)&&&x6)))+e1+e2)).toNat=lo (yr x3.toNat (yr (yr (yr (yr x7.toNat (S1 x4.toNat)) (ch x4.toNat x5.toNat x6.toNat)) e1.toNat) e2.toNat)):=by
    rw[Zbb,kt];exact ZRx ..
   rw[ka,ke]) (by
  rintro _ ⟨u,v,rfl,he,hv⟩;unfold XV;dsimp only;rw[yX (ynd (by omega))];exact⟨_,rfl,_,_,rfl,he,hv⟩)
 rw[g1,ya];have hml:(Zly (st.map yan) ws).length=8:=ZhQ (by rw[yy];exact hs)
 obtain⟨x,q1,q2⟩:=Ws (step:=XW yD) 8 (λi s=>∃e,s=(st,(i:Int),u,e)/\e.length=8/\∀(j:Nat)x,e[j]? =some x->if j < i then(Zly (st.map yan) ws)[j]? =some x.toNat else(rs ws (st.map yan) 64)[j]? =some x.toNat) (λx=>x.2.map yan=Zly (st.map yan) ws) (i:=(st,(0:Int),u,v)) ⟨_,rfl,g2,λj x hx=>by
  rw[yX (by omega), <-g3,yal,hx];rfl⟩ (by omega) (by
  rintro i _ hi ⟨e,rfl,he,hv⟩;left;obtain⟨e1,he1,_⟩:=Zg (l:=e) (k:=i) (by omega);obtain⟨e2,he2,_⟩:=Zg (l:=st) (k:=i) (by omega);unfold XW;dsimp only;rw[yW (yY (by omega)),yW (ZJ (by omega) (by omega)),yau,he1,ya,Zp he2,ya,yW (ZJ (by omega) (by omega)),ya,Zo (by omega)];refine⟨_,rfl,_,rfl,by rw[List.length_set];exact he, ?_⟩;intro j x hx;by_cases hji:j=i
  ·subst hji;rw[ycv (by omega)] at hx;cases hx;rw[yW (by omega),Zbb];have k1:=hv _ _ he1;rw[yX (by omega)] at k1;unfold Zly;rw[List.getElem?_zipWith,k1,yal,he2];rfl
  ·rw[List.getElem?_set_ne (Ne.symm hji)] at hx;have k1:=hv j x hx;by_cases hj:j < i
   ·rw[yW hj] at k1;rw[yW (by omega)];exact k1
   ·rw[yX hj] at k1;rw[yX (by omega)];exact k1) (by
  rintro _ ⟨e,rfl,he,hv⟩;unfold XW;dsimp only;rw[yX (ynd (by omega))];refine⟨_,rfl, ?_⟩;dsimp only;apply List.ext_getElem?;intro j;rw[yal];by_cases hj:j < 8
  ·obtain⟨x,hx,_⟩:=Zg (l:=e) (k:=j) (by omega);have:=hv j x hx;rw[yW hj] at this;rw[hx,this];rfl
  ·rw[yaq (by omega),yaq (by omega)];rfl)
 dsimp only;rw[q1,ya];exact⟨_,rfl,q2⟩
def rb8(n:Nat):yL yB:=(be8 n).map ybc
theorem Zuw(n:yU){k:Nat}(hk:k < 8):(rb8 n.toNat)[k]? =some (w8 ((ZH n (56 - 8*k)).toNat:Int)):=by
 have h:∀m:Nat,w8 ((ZH n m).toNat:Int)=ybc (n.toNat / 2 ^ m % 256):=by
  intro m;unfold w8 ZH;rw[ybd,yak (Nat.lt_of_le_of_lt (Nat.div_le_self _ _) (ybt n))];congr 1
 rw[h]
 match k,hk with
 |0,_=>rfl
 |1,_=>rfl
 |2,_=>rfl
 |3,_=>rfl
 |4,_=>rfl
 |5,_=>rfl
 |6,_=>rfl
 |7,_=>
  show some (ybc (n.toNat % 256))=some (ybc (n.toNat / 2 ^ 0 % 256));rw[Nat.pow_zero,Nat.div_one]
theorem ZQF{l:yL yB}(h:l.length<=4294967296):VO yD l=some (l++([128]:yL yB)++yx (zs l.length) 0++rb8 (8*l.length)):=by
 unfold VO;have hlt:l.length % 64 < 64:=ybj _ (by omega);rw[yW (ZT (by omega) (by omega)),yW (ZT (by omega) (by omega))]
 obtain⟨x,h1,h2⟩:=Ws (step:=XC yD) (zs l.length) (λj s=>s=(l,l++([128]:yL yB)++yx j 0)) (λx=>x=(l,l++([128]:yL yB)++yx (zs l.length) 0)) (i:=(l,l++([128]:yL yB))) (by simp) (by unfold zs;omega) (by
  rintro j _ hj rfl;left;unfold XC;dsimp only;have hl:(l++([128]:yL yB)++yx j 0).length=l.length+1+j:=by rw[yo,yo,yct];rfl
  have hm:Int.tmod ((l++([128]:yL yB)++yx j 0).length:Int) 64=(((l.length+1+j) % 64:Nat):Int):=by rw[hl];rfl
  rw[hm];unfold zs at hj;rw[yW (by simp;omega),yW (ZT (by omega) (by omega))];exact⟨_,rfl,by rw[yad,List.replicate_succ']⟩) (by
  rintro _ rfl;unfold XC;dsimp only;have hl:(l++([128]:yL yB)++yx (zs l.length) 0).length=l.length+1+zs l.length:=by rw[yo,yo,yct];rfl
  have hm:Int.tmod ((l++([128]:yL yB)++yx (zs l.length) 0).length:Int) 64=(((l.length+1+zs l.length) % 64:Nat):Int):=by rw[hl];rfl
  rw[hm,yX (by simp;unfold zs;omega)];exact⟨_,rfl,rfl⟩)
 rw[h1,ya,h2];dsimp only;generalize hp:l++([128]:yL yB)++yx (zs l.length) 0=p
 have hpl:p.length<=l.length+65:=by
  rw[<-hp,yo,yo,yct];unfold zs;simp;omega
 have hn:(8*w64 (l.length:Int)).toNat=8*l.length:=by
  rw[UInt64.toNat_mul];unfold w64;rw[ybd];show 8*((((l.length:Nat):Int) % 18446744073709551616).toNat % 2 ^ 64) % 2 ^ 64=_;omega
 generalize hN:8*w64 (l.length:Int)=N at hn
 obtain⟨x,g1,g2⟩:=Ws (step:=XD yD) 8 (λk s=>s=(N,56 - 8*(k:Int),p++(rb8 N.toNat).take k)) (λx=>x=p++rb8 N.toNat) (i:=(N,(56:Int),p)) (by simp) (by omega) (by
  rintro k _ hk rfl;left;unfold XD;dsimp only;rw[yW (yY (by omega)),yW (yY (by omega)),yW (ZT (by simp;omega) (by simp;omega)),ZU (z:=56 - 8*(k:Int) - 8) (by omega) (by omega)];refine⟨_,rfl, ?_⟩;rw[Qa (Zuw N hk),show min (56 - 8*(k:Int)).toNat 64=56 - 8*k by omega,yad,show 56 - 8*((k+1:Nat):Int)=56 - 8*(k:Int) - 8 by omega]) (by
  rintro _ rfl;unfold XD;dsimp only;rw[yX (ynd (by omega))];exact⟨_,rfl,rfl⟩)
 rw[g1,ya,g2,hn]
theorem ZQG{l:yL yB}(h:l.length<=4294967296):Vk yD l=some (sha l):=by
 unfold Vk;obtain⟨f,hf,hfl⟩:∃f,ZaL yD=some f/\f.map yan=Zei:=⟨_,rfl,rfl⟩;have hf8:f.length=8:=by rw[<-yy (f:=yan),hfl];rfl
 rw[ZQF h,ya,hf,ya];generalize hE:l++([128]:yL yB)++yx (zs l.length) 0++rb8 (8*l.length)=E
 have hEm:E.map yam=ZhS l:=by
  unfold ZhS;rw[<-hE];simp only[List.map_append,List.map_replicate,List.map_cons,List.map_nil,rb8,List.map_map,yad,List.singleton_append]
  have:be8 (8*l.length)=(be8 (8*l.length)).map (yam ∘ ybc):=by
   simp[be8]
  rw[<-this];simp
 have hEl:E.length=64*((l.length+72) / 64):=by rw[<-yy (f:=yam),hEm,Zyf]
 generalize hz:yzz=z;have hzl:z.length=32:=by rw[<-hz];rfl
 obtain⟨x,h1,v,rfl,g1,g2⟩:=Ws (step:=Wa yD) ((l.length+72) / 64) (λc s=>∃d,s=(E,d,((64*c:Nat):Int),z)/\d.length=8/\d.map yan=ZhR c (E.map yam) Zei) (λx=>∃v,x=(v,z)/\v.length=8/\v.map yan=ZhR ((l.length+72) / 64) (E.map yam) Zei) (i:=(E,f,(0:Int),z)) ⟨_,rfl,hf8,hfl⟩ (by omega) (by
  rintro c _ hc ⟨d,rfl,hd,hv⟩;left;unfold Wa;dsimp only;obtain⟨m,hm1,hm2⟩:=ZMy (st:=d) (l:=(E.take (64*c+64)).drop (64*c)) hd (by rw[List.length_drop,List.length_take];omega);rw[yW (yY (by omega)),ZU (z:=((64*c:Nat):Int)+64) (by omega) (by omega),yW (by simp only[Zbp,Bool.and_eq_true,yP];omega),show(((64*c:Nat):Int)+64).toNat=64*c+64 by omega,yau,hm1,ya];refine⟨_,rfl,_,by rw[show((64*c:Nat):Int)+64=((64*(c+1):Nat):Int) by omega], ?_, ?_⟩
  ·rw[<-yy (f:=yan),hm2];exact ZhQ (by rw[yy];exact hd)
  ·rw[hm2,ZpE,hv, <-List.map_drop, <-List.map_take];congr 3;rw[List.drop_take];congr 1;omega) (by
  rintro _ ⟨d,rfl,hd,hv⟩;unfold Wa;dsimp only;rw[yX (ynd (by omega))];exact⟨_,rfl,_,rfl,hd,hv⟩)
 rw[h1,ya];dsimp only;generalize hv2:ZhR ((l.length+72) / 64) (E.map yam) Zei=v2 at g2
 obtain⟨x,k1,o,rfl,k2,k3⟩:=Ws (step:=Wb yD) 32 (λi s=>∃o,s=(v,(i:Int),z,o)/\o.length=32/\∀(j:Nat),j < i->o[j]? =some (Go.Sha.ZMo v2 j)) (λx=>∃o,x=(z,o)/\o.length=32/\∀(j:Nat),j < 32->o[j]? =some (Go.Sha.ZMo v2 j)) (i:=(v,(0:Int),z,z)) ⟨_,rfl,hzl,λj hj=>by omega⟩ (by omega) (by
  rintro i _ hi ⟨o,rfl,ho,hv⟩;left;unfold Wb;dsimp only;have e1:Int.tdiv (i:Int) 4=((i / 4:Nat):Int):=rfl;have e2:Int.tmod (i:Int) 4=((i % 4:Nat):Int):=rfl;obtain⟨x1,hx1,_⟩:=Zg (l:=v) (k:=i / 4) (by omega);obtain⟨x2,hx2,_⟩:=Zg (l:=o) (k:=i) (by omega);rw[yW (yY (by omega)),e1,e2,ZU (z:=((i / 4:Nat):Int)) (by omega) (by omega),ZU (z:=8*((i % 4:Nat):Int)) (by omega) (by omega),ZU (z:=24 - 8*((i % 4:Nat):Int)) (by omega) (by omega),Zp hx1,ya,yW (yY (by omega)),yW (ZJ (by omega) (by omega)),yau,hx2,ya,Zo (by omega)];refine⟨_,rfl,_,rfl,by rw[List.length_set];exact ho, ?_⟩;intro j hj;by_cases hji:j=i
  ·subst hji;rw[ycv (by omega)];congr 1;unfold Go.Sha.ZMo
   have hx:v2.getD (j / 4) 0=x1.toNat:=by
    rw[<-g2,ycx,yal,hx1];rfl
   rw[hx,show min (24 - 8*((j % 4:Nat):Int)).toNat 32=24 - 8*(j % 4) by omega,ZA9];unfold w8;have e3:∀m:Nat,(((m:Nat):Int) % 256).toNat=m % 256:=λm=>by omega
   rw[e3,show Nat.shiftRight x1.toNat (24 - 8*(j % 4))=x1.toNat >>> (24 - 8*(j % 4)) from rfl,Nat.shiftRight_eq_div_pow]
   exact UInt8.toNat_inj.1 (by simp)
  ·rw[List.getElem?_set_ne (Ne.symm hji)];exact hv j (by omega)) (by
  rintro _ ⟨o,rfl,ho,hv⟩;unfold Wb;dsimp only;rw[yX (ynd (by omega))];exact⟨_,rfl,_,rfl,ho,hv⟩)
 rw[k1,ya,ZHm, <-hEm,hv2];congr 1;apply List.ext_getElem?;intro j;by_cases hj:j < 32
 ·rw[k3 j hj,yal,List.getElem?_range hj];rfl
 ·rw[yaq (by show o.length<=j;omega),yaq (by simp;omega)]
noncomputable def WE(F:Nat)(a0:yL yB):yO (yL yB):=if decide (a0.length<=4294967296)=true then some (sha a0) else Vk F a0
noncomputable def Zp3(F:Nat):Fs yb:={ ZaM F with M:=λx=>WE F x}
noncomputable def Zie:Fs yb:=Zp3 yD
theorem Zp4:Zie.Ok:=Zrp (s:=ZaM yD) ZoD λx=>by
 show WE yD x=Vk yD x;unfold WE;split
 ·rename_i h;exact(ZQG (yF h)).symm
 ·rfl
theorem ZMz{l:yL yB}(h:l.length<=4294967296):WE yD l=some (sha l):=yW (yY h)
end Go.Proofs.YtdhclndplbopgaaGreat
end
section
set_option maxRecDepth 4000
namespace Go.Proofs.YtdhclndplbopgaaGreat
open Go Go.Ev
noncomputable section
def Yp(F:Nat)(s:(yU×Int×(yL yB)×(yL yB))):yO ((yU×Int×(yL yB)×(yL yB))⊕((yL yB)×(yL yB))):=
 if(decide (s.2.1 >= 0))=true then
  if(decide (0<=s.2.1))=true then
   let y880:yB:=w8 ((ZH s.1 (min s.2.1.toNat 64)).toNat:Int)
   if(apB s.2.2.2.length 1 1)=true then
    some (.inl (s.1,wi (s.2.1 - 8),s.2.2.1,s.2.2.2++([y880]:yL yB)))
   else
   none
  else
  none
 else
 some (.inr (s.2.2.1,s.2.2.2))
def Zch:Lp:=⟨[(0,.v .u64),(3,.own 1 .u8),(4,.v yI)],[.log .u8 5,.log .u8 5],[.u64,yI,(.sl .u8),(.sl .u8)],[⟨.exit 0,[(3,.own 1 .u8)],[.log .u8 5,.log .u8 5],[(.sl .u8),(.sl .u8)]⟩],Zb (Yp yD) yD⟩
theorem Zif:Zch.okA yb 164 0:=Zv { own:=[2,3,9,15,16]} [] [] trivial
def Vp(F:Nat)(a0:yU):yO ((yL yB)):=
 (Zb (Yp F) F (a0,56,[],[])).bind λo881=>
 some o881.2
def ZkI(F:Nat):Fs yb:=⟨164,[.v .u64],[],[.u64],[⟨.ret,[(0,.own 0 .u8)],[.log .u8 5],[(.sl .u8)]⟩],λx=>Vp F x⟩
def ZcZ:Fs yb:=ZkI yD
theorem ZkJ:ZcZ.Ok:=fnO { own:=[2,3,9,15,16]} [(0,Zch)] [] trivial ⟨Zif,ytt⟩
def YH(F:Nat)(s:((yL (yL yB))×Int×(yL yB)×(yL yB))):yO (((yL (yL yB))×Int×(yL yB)×(yL yB))⊕((yL yB)×(yL yB))):=
 if(decide (s.2.1 < (s.1.length:Int)))=true then
  (idx s.1 s.2.1).bind λe883=>
  (Wh F (w64 (e883.length:Int))).bind λo884=>
  if(apB s.2.2.2.length o884.length 1)=true then
   (idx s.1 s.2.1).bind λe885=>
   if(apB ((s.2.2.2++o884).length) e885.length 1)=true then
    some (.inl (s.1,wi (s.2.1+1),s.2.2.1,(s.2.2.2++o884)++e885))
   else
   none
  else
  none
 else
 some (.inr (s.2.2.1,s.2.2.2))
def Zge:Lp:=⟨[(1,.v (.sl (.sl .u8))),(4,.ref 0 []),(5,.own 1 .u8),(6,.v yI)],zS,[(.sl (.sl .u8)),yI,(.arr 32 .u8),(.sl .u8)],[⟨.exit 0,[(4,.ref 0 []),(5,.own 1 .u8)],zS,[(.arr 32 .u8),(.sl .u8)]⟩],Zb (YH yD) yD⟩
def ZRF:HI:={ own:=[5,11,14,28,30,31,36],still:=[10,26,37]}
theorem ZlW:Zge.okA yb 157 0:=Zv ZRF [] [V7] ⟨ZaK,ytt⟩
def Yw(F:Nat)(a0:ByteArray)(a1:(yL (yL yB))):yO ((yL yB)):=
 (Vp F (w64 (a0.size:Int))).bind λo882=>
 if(decide (a0.size<=maxLen))=true then
  if(apB o882.length a0.data.toList.length 1)=true then
   (Zb (YH F) F (a1,0,yzz,o882++a0.data.toList)).bind λo886=>
   (WE F o886.2).bind λo887=>
   some o887
  else
  none
 else
 none
def Zp5(F:Nat):Fs yb:=⟨157,[.v .str,.v (.sl (.sl .u8))],[],[.str,(.sl (.sl .u8))],(zN (.arr 32 .u8)),λx=>Yw F x.1 x.2⟩
def Xs:Fs yb:=Zp5 yD
theorem X1:Xs.Ok:=fnO ZRF [(0,Zge)] [ZcZ,Zie] ⟨ZkJ,Zp4,ytt⟩ ⟨ZlW,ytt⟩
def Yq(F:Nat)(s:(Int×(yL yB)×(yL yB))):yO ((Int×(yL yB)×(yL yB))⊕((yL yB)×(yL yB))):=
 if(decide (s.1 < 32))=true then
  if(inB s.1 32)=true then
   (s.2.1[s.1.toNat]?).bind λe888=>
   if(apB s.2.2.length 1 1)=true then
    some (.inl (wi (s.1+1),s.2.1,s.2.2++([e888]:yL yB)))
   else
   none
  else
  none
 else
 some (.inr (s.2.1,s.2.2))
def Zci:Lp:=⟨[(3,.ref 0 []),(5,.own 1 .u8),(6,.v yI)],zS,[yI,(.arr 32 .u8),(.sl .u8)],[⟨.exit 0,[(5,.own 1 .u8)],zS,[(.arr 32 .u8),(.sl .u8)]⟩],Zb (Yq yD) yD⟩
def ZRG:HI:={ own:=[5,7,9,14,19],still:=[4]}
theorem Zig:Zci.okA yb 223 0:=Zv ZRG [] [] trivial
def Wc(F:Nat)(a0:(yL yB))(a1:(yL yB)):yO ((yL yB)):=
 if(apB 0 a0.length 1)=true then
  (Zb (Yq F) F (0,a1,a0)).bind λo889=>
  some o889.2
 else
 none
def ZkK(F:Nat):Fs yb:=⟨223,[.v (.sl .u8),.v (.arr 32 .u8)],[],[(.sl .u8),(.arr 32 .u8)],(zN (.sl .u8)),λx=>Wc F x.1 x.2⟩
def QM:Fs yb:=ZkK yD
theorem Zcj:QM.Ok:=fnO ZRG [(0,Zci)] [] trivial ⟨Zig,ytt⟩
def ZRH:ByteArray:=⟨#[107,105,116]⟩
def Xt(F:Nat)(a0:(yL yB))(a1:yB):yO ((yL yB)):=
 (Wc F [] a0).bind λo890=>
 (Yw F ZRH [o890,[a1]]).bind λo891=>
 some o891
def ZoE(F:Nat):Fs yb:=⟨175,[.v (.arr 32 .u8),.v .u8],[],[(.arr 32 .u8),.u8],(zN (.arr 32 .u8)),λx=>Xt F x.1 x.2⟩
def Zgf:Fs yb:=ZoE yD
theorem ZoF:Zgf.Ok:=fnO { still:=[5,6,10]} [] [QM,Xs] ⟨Zcj,X1,ytt⟩
def Zc0(F:Nat)(a0:(yL yB)):yO (Kit):=
 (Xt F a0 1).bind λo892=>
 (Z2 F o892).bind λo893=>
 (Xt F a0 2).bind λo894=>
 (Z2 F o894).bind λo895=>
 (Xt F a0 3).bind λo896=>
 (Z2 F o896).bind λo897=>
 (Xt F a0 4).bind λo898=>
 (Z2 F o898).bind λo899=>
 (Xt F a0 5).bind λo900=>
 (Z2 F o900).bind λo901=>
 (Xt F a0 6).bind λo902=>
 some (o893,o895,o897,o899,o901,o902)
def Zp6(F:Nat):Fs yb:=⟨87,[.v (.arr 32 .u8)],[],[(.arr 32 .u8)],(zN Zeq),λx=>Zc0 F x⟩
def Zih:Fs yb:=Zp6 yD
def ZSj:HI:={ still:=[3,4,6,7,9,10,12,13,15,16,18]}
theorem Zp7:Zih.Ok:=fnO ZSj [] [Zgf,WN] ⟨ZoF,VN,ytt⟩
def X2(F:Nat)(a0:yU):yO (yU):=
 (Yd F a0).bind λo903=>
 if o903=true then
  some a0
 else
 some 1
def Zna(F:Nat):Fs yb:=⟨219,[.v .u64],[],[.u64],(zN .u64),λx=>X2 F x⟩
def ZaN:Fs yb:=Zna yD
theorem ZdC:ZaN.Ok:=fnO { still:=[2,3]} [] [YG] ⟨Xd,ytt⟩
def X3(F:Nat)(a0:yU)(a1:yU):yO (yU):=
 (X2 F a0).bind λo904=>
 (Y6 F o904 (a1 % 2305843009213688669)).bind λo905=>
 some o905
def Znb(F:Nat):Fs yb:=⟨146,[.v .u64,.v .u64],[],[.u64,.u64],(zN .u64),λx=>X3 F x.1 x.2⟩
def ZaO:Fs yb:=Znb yD
theorem ZdD:ZaO.Ok:=fnO { still:=[4,5,6,8]} [] [ZaN,ZaH] ⟨ZdC,Zdq,ytt⟩
def Z3(F:Nat)(a0:yU):yO (yU):=
 (X3 F 4 a0).bind λo906=>
 some o906
def ZoG(F:Nat):Fs yb:=⟨144,[.v .u64],[],[.u64],(zN .u64),λx=>Z3 F x⟩
def Qb:Fs yb:=ZoG yD
theorem ZaP:Qb.Ok:=fnO { still:=[2,3]} [] [ZaO] ⟨ZdD,ytt⟩
def Zfo(F:Nat)(a0:Kit):yO (Basics):=
 (Z3 F a0.1).bind λo907=>
 (Z3 F a0.2.1).bind λo908=>
 (Z3 F a0.2.2.1).bind λo909=>
 (Z3 F a0.2.2.2.1).bind λo910=>
 (Z3 F a0.2.2.2.2.1).bind λo911=>
 some (o907,o908,o909,o910,o911)
def ZlX(F:Nat):Fs yb:=⟨88,[.v Zeq],[],[Zeq],(zN ZbC),λx=>Zfo F x⟩
def ZdE:Fs yb:=ZlX yD
theorem ZlY:ZdE.Ok:=fnO { still:=[4,7,10,13,16]} [] [Qb] ⟨ZaP,ytt⟩
abbrev ZbX:Ty:=(.st [.u8,(.int .u16),(.int .u16),.u64])
abbrev Zjf:Type:=(yB×Int×Int×yU)
def Zfp(F:Nat)(a0:Zjf):yO (yU):=
 some (1+(a0.2.2.2 % 2305843009213688668))
def ZlZ(F:Nat):Fs yb:=⟨90,[.v ZbX],[],[ZbX],(zN .u64),λx=>Zfp F x⟩
def ZdF:Fs yb:=ZlZ yD
theorem Zl0:ZdF.Ok:=fnO { still:=[2]} [] [] trivial
def Zc1(F:Nat)(s:(Int×Int×Int×yG)):yO ((Int×Int×Int×yG)⊕((Int×yG)⊕yG)):=
 if(decide (s.2.2.1 < (s.2.2.2.2.2.1.length:Int)))=true then
  (idx s.2.2.2.2.2.1 s.2.2.1).bind λe912=>
  if(e912.1==s.1)=true then
   (idx s.2.2.2.2.2.1 s.2.2.1).bind λe913=>
   if(e913.2.1==s.2.1)=true then
    some (.inr (.inl (s.2.2.1,s.2.2.2)))
   else
   some (.inl (s.1,s.2.1,wi (s.2.2.1+1),s.2.2.2))
  else
  some (.inl (s.1,s.2.1,wi (s.2.2.1+1),s.2.2.2))
 else
 some (.inr (.inr s.2.2.2))
def ZdG:Lp:=⟨[(1,.v yI),(2,.v yI),(3,.ref 0 []),(7,.v yI)],[.var (.v Zf) true],[yI,yI,yI,Zf],[⟨.ret,[(6,.v yI)],[.var (.v Zf) true],[yI,Zf]⟩,⟨.exit 0,[],[.var (.v Zf) true],[Zf]⟩],Zb (Zc1 yD) yD⟩
theorem ZjO:ZdG.okA yb 176 0:=Zv { still:=[6]} [] [] trivial
def Zgg(F:Nat)(a0:yG)(a1:Int)(a2:Int):yO (Int):=
 (Zb (Zc1 F) F (a1,a2,0,a0)).bind λo914=>
 match o914 with
 |.inl o915=>
  some o915.1
 |.inr o916=>
  some (-1)
def Znc(F:Nat):Fs yb:=⟨176,[.v Zf,.v yI,.v yI],[],[Zf,yI,yI],(zN yI),λx=>Zgg F x.1 x.2.1 x.2.2⟩
def Zfq:Fs yb:=Znc yD
theorem Znd:Zfq.Ok:=fnO { still:=[6]} [(0,ZdG)] [] trivial ⟨ZjO,ytt⟩
def ZdH(F:Nat)(s:(Bool×Int×yG×Cond×yG×Int×(yL Int)×Int×(yL Cond))):yO ((Bool×Int×yG×Cond×yG×Int×(yL Int)×Int×(yL Cond))⊕(Bool×yG×Cond×yG×Int×(yL Int)×Int×(yL Cond))):=
 if(decide (s.2.1 < (s.2.2.1.2.2.1.length:Int)))=true then
  if(!s.1)=true then
   (idx s.2.2.1.2.2.1 s.2.1).bind λe917=>
   (WM F s.2.2.2.1 e917).bind λo918=>
   if o918=true then
    if(apB s.2.2.2.2.2.2.2.2.length 1 40)=true then
     (idx s.2.2.1.2.2.1 s.2.1).bind λe919=>
     if(apB ((s.2.2.2.2.2.2.2.2++([s.2.2.2.1]:yL Cond)).length) 1 40)=true then
      let y920:(yL Cond):=(s.2.2.2.2.2.2.2.2++([s.2.2.2.1]:yL Cond))++([e919]:yL Cond)
      some (.inl (true,wi (s.2.1+1),s.2.2.1,s.2.2.2.1,s.2.2.2.2.1,s.2.2.2.2.2.1,s.2.2.2.2.2.2.1,s.2.2.2.2.2.2.2.1,y920))
     else
     none
    else
    none
   else
   (idx s.2.2.1.2.2.1 s.2.1).bind λe921=>
   if(apB s.2.2.2.2.2.2.2.2.length 1 40)=true then
    some (.inl (s.1,wi (s.2.1+1),s.2.2.1,s.2.2.2.1,s.2.2.2.2.1,s.2.2.2.2.2.1,s.2.2.2.2.2.2.1,s.2.2.2.2.2.2.2.1,s.2.2.2.2.2.2.2.2++([e921]:yL Cond)))
   else
   none
  else
  (idx s.2.2.1.2.2.1 s.2.1).bind λe922=>
  if(apB s.2.2.2.2.2.2.2.2.length 1 40)=true then
   some (.inl (s.1,wi (s.2.1+1),s.2.2.1,s.2.2.2.1,s.2.2.2.2.1,s.2.2.2.2.2.1,s.2.2.2.2.2.2.1,s.2.2.2.2.2.2.2.1,s.2.2.2.2.2.2.2.2++([e922]:yL Cond)))
  else
  none
 else
 some (.inr (s.1,s.2.2.1,s.2.2.2.1,s.2.2.2.2.1,s.2.2.2.2.2.1,s.2.2.2.2.2.2.1,s.2.2.2.2.2.2.2.1,s.2.2.2.2.2.2.2.2))
def ZRI:yL ESh:=[.var (.v Zf) true,.var (.v Yc) true,.var (.v Zf) true,.var (.agg [.v yI,.v (.arr 2 yI),.own 4 Yc,.v yI]) true,.log Yc 97]
abbrev ZSk:yL Ty:=[.bool,yI,Zf,Yc,Zf,yI,(.arr 2 yI),yI,(.sl Yc)]
def Zfr:Lp:=⟨[(2,.ref 0 []),(3,.ref 1 []),(4,.ref 2 []),(5,.ref 3 []),(6,.v .bool),(7,.v yI)],ZRI,ZSk,[⟨.exit 0,[(3,.ref 1 []),(4,.ref 2 []),(5,.ref 3 []),(6,.v .bool)],ZRI,[.bool,Zf,Yc,Zf,yI,(.arr 2 yI),yI,(.sl Yc)]⟩],Zb (ZdH yD) yD⟩
def ZRJ:HI:={ own:=[29,32,35,42,47,50],still:=[20,25],gst:=[(9,[([2],Yc,97)])]}
theorem ZkL:Zfr.okA yb 177 0:=Zv ZRJ [] [ZaI] ⟨Zdr,ytt⟩
def Zii(F:Nat)(a0:yG)(a1:Cond):yO (yG):=
 (Zb (ZdH F) F (false,0,a0,a1,(0,[0,0],[],0),a0.1,a0.2.1,a0.2.2.2,[])).bind λo923=>
 if(!o923.1)=true then
  if(apB o923.2.2.2.2.2.2.2.length 1 40)=true then
   if(inB o923.2.2.1.1 2)=true then
    (o923.2.2.2.2.2.1[o923.2.2.1.1.toNat]?).bind λe924=>
    if(inB o923.2.2.1.1 2)=true then
     (o923.2.2.2.2.2.1[o923.2.2.1.1.toNat]?).bind λe925=>
     some (o923.2.2.2.2.1,o923.2.2.2.2.2.1.set o923.2.2.1.1.toNat (wi (e924 - o923.2.2.1.2.2.1)),o923.2.2.2.2.2.2.2++([o923.2.2.1]:yL Cond),o923.2.2.2.2.2.2.1)
    else
    none
   else
   none
  else
  none
 else
 if(inB o923.2.2.1.1 2)=true then
  (o923.2.2.2.2.2.1[o923.2.2.1.1.toNat]?).bind λe926=>
  if(inB o923.2.2.1.1 2)=true then
   (o923.2.2.2.2.2.1[o923.2.2.1.1.toNat]?).bind λe927=>
   some (o923.2.2.2.2.1,o923.2.2.2.2.2.1.set o923.2.2.1.1.toNat (wi (e926 - o923.2.2.1.2.2.1)),o923.2.2.2.2.2.2.2,o923.2.2.2.2.2.2.1)
  else
  none
 else
 none
def ZoH(F:Nat):Fs yb:=⟨177,[.v Zf,.v Yc],[],[Zf,Yc],(zN Zf),λx=>Zii F x.1 x.2⟩
def Zgh:Fs yb:=ZoH yD
theorem ZoI:Zgh.Ok:=fnO ZRJ [(0,Zfr)] [] trivial ⟨ZkL,ytt⟩
def Zjg(F:Nat)(a0:Chan)(a1:yG)(a2:Cond):yO ((yG×Int)):=
 (Z5 F a0 a1).bind λo939=>
 (Vi F a2).bind λo940=>
 if(!o939)=true then
  some ((0,[0,0],[],0),1)
 else
 if(!o940)=true then
  some ((0,[0,0],[],0),1)
 else
 (Zgg F a1 a2.1 a2.2.1).bind λo941=>
 if(decide (o941 >= 0))=true then
  some ((0,[0,0],[],0),4)
 else
 if(inB (wi (1 - a2.1)) 2)=true then
  (a0.2.2.2.1[(wi (1 - a2.1)).toNat]?).bind λe942=>
  (X9 F a1 (wi (1 - a2.1))).bind λo943=>
  if(decide (a2.2.2.1 < e942.2.2.2.2.1))=true then
   some ((0,[0,0],[],0),9)
  else
  if((a1.2.2.1.length:Int)==16)=true then
   some ((0,[0,0],[],0),3)
  else
  if(decide (o943.1 >= e942.2.2.2.1))=true then
   some ((0,[0,0],[],0),3)
  else
  let y944:Bool:=decide ((wi (o943.2+a2.2.2.1)) > e942.2.2.2.2.2)
  if y944=true then
   some ((0,[0,0],[],0),6)
  else
  (Zii F a1 a2).bind λo945=>
  (Vj F a0 o945).bind λo946=>
  if(inB a2.1 2)=true then
   (o945.2.1[a2.1.toNat]?).bind λe947=>
   if(decide (e947 < 0))=true then
    some ((0,[0,0],[],0),8)
   else
   if(inB a0.2.2.2.2 2)=true then
    (o945.2.1[a0.2.2.2.2.toNat]?).bind λe948=>
    if(decide (e948 < o946))=true then
     some ((0,[0,0],[],0),8)
    else
    if(inB a2.1 2)=true then
     (o945.2.1[a2.1.toNat]?).bind λe949=>
     if(a2.1==a0.2.2.2.2)=true then
      if(decide ((wi (e949 - o946)) < e942.2.1))=true then
       some ((0,[0,0],[],0),10)
      else
      some (o945,0)
     else
     if(decide (e949 < e942.2.1))=true then
      some ((0,[0,0],[],0),10)
     else
     some (o945,0)
    else
    none
   else
   none
  else
  none
 else
 none
def Zp8(F:Nat):Fs yb:=⟨91,[.v Zu,.v Zf,.v Yc],[],[Zu,Zf,Yc],[⟨.ret,[(0,.tup [.v Zf,.v yI])],[],[Zf,yI]⟩],λx=>Zjg F x.1 x.2.1 x.2.2⟩
def Zij:Fs yb:=Zp8 yD
def ZSl:HI:={ still:=[7,16,17,19,28,30,32,43,46,75,76,78,79]}
theorem Zp9:Zij.Ok:=fnO ZSl [] [WA,Zbg,Zfq,QL,Zgh,Zbh] ⟨Vo,Zfd,Znd,Zcg,ZoI,Zff,ytt⟩
abbrev Xc:Ty:=(.st [(.arr 2 (.arr 32 .u8)),.u32,.u32,.u8,.u8,(.sl ZbX),(.int .u16),(.arr 32 .u8)])
abbrev Wi:Type:=((yL (yL yB))×yV×yV×yB×yB×(yL Zjf)×Int×(yL yB))
def ZRK:yL ESh:=[.var (.v Xc) true,.var (.v Zu) true,.var (.v (.arr 2 Zeq)) true,.var (.v Zf) true,.var (.v (.arr 2 Zeq)) true,.var (.v Zu) true]
def ZQH:HI:={ still:=[17,21,40,75,76,117,118,126,127,128]}
def ZdI(F:Nat)(s:(Int×Wi×Chan×(yL Kit)×yG×(yL Kit)×Chan)):yO ((Int×Wi×Chan×(yL Kit)×yG×(yL Kit)×Chan)⊕(Wi×Chan×(yL Kit)×yG×(yL Kit)×Chan)):=
 if(decide (s.1 < 2))=true then
  if(inB s.1 2)=true then
   (s.2.2.2.2.2.1[s.1.toNat]?).bind λe971=>
   (Zfo F e971).bind λo972=>
   if(inB s.1 2)=true then
    (s.2.2.2.2.2.2.2.2.1[s.1.toNat]?).bind λe973=>
    if(inB s.1 2)=true then
     (s.2.2.2.2.2.2.2.2.2.1[s.1.toNat]?).bind λe974=>
     some (.inl (wi (s.1+1),s.2.1,s.2.2.1,s.2.2.2.1,s.2.2.2.2.1,s.2.2.2.2.2.1,(s.2.2.2.2.2.2.1,s.2.2.2.2.2.2.2.1,s.2.2.2.2.2.2.2.2.1.set s.1.toNat o972,s.2.2.2.2.2.2.2.2.2.1.set s.1.toNat ((100:Int),(200:Int),wi (5+s.1),(16:Int),(1:Int),(1125899906842624:Int)),s.2.2.2.2.2.2.2.2.2.2)))
    else
    none
   else
   none
  else
  none
 else
 some (.inr (s.2.1,s.2.2.1,s.2.2.2.1,s.2.2.2.2.1,s.2.2.2.2.2.1,s.2.2.2.2.2.2))
def Zfs:Lp:=⟨[(1,.ref 0 []),(2,.ref 1 []),(3,.ref 2 []),(4,.ref 3 []),(5,.ref 4 []),(6,.ref 5 []),(7,.v yI)],ZRK,[yI,Xc,Zu,(.arr 2 Zeq),Zf,(.arr 2 Zeq),Zu],[⟨.exit 0,[(1,.ref 0 []),(2,.ref 1 []),(3,.ref 2 []),(4,.ref 3 []),(5,.ref 4 []),(6,.ref 5 [])],ZRK,[Xc,Zu,(.arr 2 Zeq),Zf,(.arr 2 Zeq),Zu]⟩],Zb (ZdI yD) yD⟩
theorem ZkM:Zfs.okA yb 27 0:=Zv ZQH [] [ZdE] ⟨ZlY,ytt⟩
def Q7(F:Nat)(s:(Int×Wi×Chan×(yL Kit)×yG×(yL Kit)×Chan×yG)):yO ((Int×Wi×Chan×(yL Kit)×yG×(yL Kit)×Chan×yG)⊕(Wi×Chan×(yL Kit)×yG×(yL Kit)×Chan×yG)):=
 if(decide (s.1 < (s.2.1.2.2.2.2.2.1.length:Int)))=true then
  if(decide (s.1 < 20))=true then
   (idx s.2.1.2.2.2.2.2.1 s.1).bind λe980=>
   (Zfp F e980).bind λo981=>
   (W5 F o981).bind λo982=>
   (Zjg F s.2.2.2.2.2.2.1 s.2.2.2.2.2.2.2 (((e980.1 % 2).toNat:Int),wi (s.1+1),wi (1+(wi e980.2.1)),o982,wi (1+(wi e980.2.2.1)))).bind λo983=>
   if(o983.2==0)=true then
    some (.inl (wi (s.1+1),s.2.1,s.2.2.1,s.2.2.2.1,s.2.2.2.2.1,s.2.2.2.2.2.1,s.2.2.2.2.2.2.1,o983.1))
   else
   some (.inl (wi (s.1+1),s.2.1,s.2.2.1,s.2.2.2.1,s.2.2.2.2.1,s.2.2.2.2.2.1,s.2.2.2.2.2.2.1,s.2.2.2.2.2.2.2))
  else
  some (.inr (s.2.1,s.2.2.1,s.2.2.2.1,s.2.2.2.2.1,s.2.2.2.2.2.1,s.2.2.2.2.2.2.1,s.2.2.2.2.2.2.2))
 else
 some (.inr (s.2.1,s.2.2.1,s.2.2.2.1,s.2.2.2.2.1,s.2.2.2.2.2.1,s.2.2.2.2.2.2.1,s.2.2.2.2.2.2.2))
def ZRL:yL ESh:=[.var (.v Xc) true,.var (.v Zu) true,.var (.v (.arr 2 Zeq)) true,.var (.v Zf) true,.var (.v (.arr 2 Zeq)) true,.var (.v Zu) true,.var (.v Zf) true]
def Zft:Lp:=⟨[(1,.ref 0 []),(2,.ref 1 []),(3,.ref 2 []),(4,.ref 3 []),(5,.ref 4 []),(6,.ref 5 []),(8,.ref 6 []),(10,.v yI)],ZRL,[yI,Xc,Zu,(.arr 2 Zeq),Zf,(.arr 2 Zeq),Zu,Zf],[⟨.exit 2,[(2,.ref 1 []),(3,.ref 2 []),(4,.ref 3 []),(5,.ref 4 []),(6,.ref 5 []),(8,.ref 6 [])],ZRL,[Xc,Zu,(.arr 2 Zeq),Zf,(.arr 2 Zeq),Zu,Zf]⟩],Zb (Q7 yD) yD⟩
theorem ZkN:Zft.okA yb 27 1:=Zv ZQH [] [ZdF,QE,Zij] ⟨Zl0,Q3,Zp9,ytt⟩
def ZrM(F:Nat)(a0:Wi):yO ((Chan×(yL Kit)×yG)):=
 (a0.1[0]?).bind λe967=>
 (Zc0 F e967).bind λo968=>
 (a0.1[1]?).bind λe969=>
 (Zc0 F e969).bind λo970=>
 (Zb (ZdI F) F (0,a0,((yzz,0),0,[(0,0,0,0,0),(0,0,0,0,0)],[(0,0,0,0,0,0),(0,0,0,0,0,0)],0),[(0,0,0,0,0,yzz),(0,0,0,0,0,yzz)],(0,[0,0],[],0),[o968,o970],((yzz,0),wi (20000+(a0.2.1.toNat:Int)),[(0,0,0,0,0),(0,0,0,0,0)],[(0,0,0,0,0,0),(0,0,0,0,0,0)],((a0.2.2.2.2.1 % 2).toNat:Int)))).bind λo975=>
 if((wi (o975.2.2.2.2.2.2.1+1))!=0)=true then
  let y976:Int:=Int.tmod (o975.1.2.2.1.toNat:Int) (wi (o975.2.2.2.2.2.2.1+1))
  (Z5 F o975.2.2.2.2.2 (wi o975.1.2.2.2.2.2.2.1,[y976,wi (o975.2.2.2.2.2.2.1 - y976)],[],((o975.1.2.2.2.1 % 8).toNat:Int))).bind λo977=>
  if(!o977)=true then
   if(inB o975.2.2.2.2.2.2.2.2.2 2)=true then
    (([y976,wi (o975.2.2.2.2.2.2.1 - y976)]:yL Int)[o975.2.2.2.2.2.2.2.2.2.toNat]?).bind λe978=>
    if(inB (wi (1 - o975.2.2.2.2.2.2.2.2.2)) 2)=true then
     ((([y976,wi (o975.2.2.2.2.2.2.1 - y976)]:yL Int).set o975.2.2.2.2.2.2.2.2.2.toNat o975.2.2.2.2.2.2.1)[(wi (1 - o975.2.2.2.2.2.2.2.2.2)).toNat]?).bind λe979=>
     (Zb (Q7 F) F (0,o975.1,o975.2.1,o975.2.2.1,o975.2.2.2.1,o975.2.2.2.2.1,o975.2.2.2.2.2,(wi o975.1.2.2.2.2.2.2.1,(([y976,wi (o975.2.2.2.2.2.2.1 - y976)]:yL Int).set o975.2.2.2.2.2.2.2.2.2.toNat o975.2.2.2.2.2.2.1).set ((wi (1 - o975.2.2.2.2.2.2.2.2.2)).toNat) (0:Int),[],((o975.1.2.2.2.1 % 8).toNat:Int)))).bind λo984=>
     some (o984.2.2.2.2.2.1,o984.2.2.2.2.1,o984.2.2.2.2.2.2)
    else
    none
   else
   none
  else
  (Zb (Q7 F) F (0,o975.1,o975.2.1,o975.2.2.1,o975.2.2.2.1,o975.2.2.2.2.1,o975.2.2.2.2.2,(wi o975.1.2.2.2.2.2.2.1,[y976,wi (o975.2.2.2.2.2.2.1 - y976)],[],((o975.1.2.2.2.1 % 8).toNat:Int)))).bind λo985=>
  some (o985.2.2.2.2.2.1,o985.2.2.2.2.1,o985.2.2.2.2.2.2)
 else
 none
def ZaQ(F:Nat):Fs yb:=⟨27,[.v Xc],[],[Xc],[⟨.ret,[(0,.tup [.v Zu,.v (.arr 2 Zeq),.v Zf])],[],[Zu,(.arr 2 Zeq),Zf]⟩],λx=>ZrM F x⟩
def Zqa:Fs yb:=ZaQ yD
theorem ZoJ:Zqa.Ok:=fnO ZQH [(0,Zfs),(1,Zft)] [Zih,WA] ⟨Zp7,Vo,ytt⟩ ⟨ZkM,ZkN,ytt⟩
def ZFD(F:Nat)(a0:(yL yB)):yO (yU):=
 (Zax F a0).bind λo986=>
 (W5 F o986).bind λo987=>
 some o987
def ZjP(F:Nat):Fs yb:=⟨41,[.v (.arr 32 .u8)],[],[(.arr 32 .u8)],(zN .u64),λx=>ZFD F x⟩
def ZDg:Fs yb:=ZjP yD
theorem ZAe:ZDg.Ok:=fnO { still:=[2,3,4]} [] [ZcH,QE] ⟨ZeB,Q3,ytt⟩
def ZyP(F:Nat)(a0:yU):yO (yU):=
 (Za0 F a0).bind λo988=>
 (ZaY F o988 2305843009213688668).bind λo989=>
 some o989
def ZDh(F:Nat):Fs yb:=⟨243,[.v .u64],[],[.u64],(zN .u64),λx=>ZyP F x⟩
def Zvx:Fs yb:=ZDh yD
theorem ZDi:Zvx.Ok:=fnO { still:=[2,3,4]} [] [Zey,Zew] ⟨ZhL,ZhE,ytt⟩
def Zs9(F:Nat)(a0:yU)(a1:(yL yB))(a2:yU)(a3:Sig):yO (Bool):=
 if(a0==1)=true then
  some false
 else
 (XO F a0).bind λo990=>
 if(!o990)=true then
  some false
 else
 (XO F a2).bind λo991=>
 if(!o991)=true then
  some false
 else
 (XO F a3.1).bind λo992=>
 if(!o992)=true then
  some false
 else
 (ZcT F a3.2).bind λo993=>
 if(!o993)=true then
  some false
 else
 (Q0 F a3.1 a0 a1).bind λo994=>
 (QB F a0 o994).bind λo995=>
 (ZyP F a2).bind λo996=>
 (ZhM F [a3.1,o995,o996]).bind λo997=>
 (W5 F a3.2).bind λo998=>
 some (o998==o997)
def ZyQ(F:Nat):Fs yb:=⟨194,[.v .u64,.v (.arr 32 .u8),.v .u64,.v X5],[],[.u64,(.arr 32 .u8),.u64,X5],(zN .bool),λx=>Zs9 F x.1 x.2.1 x.2.2.1 x.2.2.2⟩
def Zq1:Fs yb:=ZyQ yD
def ZSm:HI:={ still:=[8,13,18,24,30,36,38,39,40,41,43,45,48]}
theorem ZyR:Zq1.Ok:=fnO ZSm [] [VW,ZjG,Zep,ZeA,Zvx,Zn4,QE] ⟨Qo,Zot,Zje,ZhN,ZDi,ZsN,Q3,ytt⟩
def Zta(F:Nat)(a0:yU)(a1:(yL yB))(a2:Sig):yO (Bool):=
 (Zs9 F a0 a1 1 a2).bind λo999=>
 some o999
def ZyS(F:Nat):Fs yb:=⟨111,[.v .u64,.v (.arr 32 .u8),.v X5],[],[.u64,(.arr 32 .u8),X5],(zN .bool),λx=>Zta F x.1 x.2.1 x.2.2⟩
def Zq2:Fs yb:=ZyS yD
theorem ZyT:Zq2.Ok:=fnO { still:=[6,7,8,9]} [] [Zq1] ⟨ZyR,ytt⟩
def ZjQ(F:Nat)(s:((yL yU)×Int×Int×ZR×XQ×(yL yB)×Zn)):yO (((yL yU)×Int×Int×ZR×XQ×(yL yB)×Zn)⊕((Int×ZR×XQ×(yL yB)×Zn)⊕(ZR×XQ×(yL yB)×Zn))):=
 if(decide (s.2.2.1 < s.2.1))=true then
  (idx s.1 s.2.2.1).bind λe1003=>
  (idx s.2.2.2.2.1.2.1 s.2.2.1).bind λe1004=>
  (Zta F e1003 s.2.2.2.2.2.1 e1004).bind λo1005=>
  if(!o1005)=true then
   some (.inr (.inl (7,s.2.2.2.1,s.2.2.2.2.1,s.2.2.2.2.2.1,s.2.2.2.2.2.2)))
  else
  some (.inl (s.1,s.2.1,wi (s.2.2.1+1),s.2.2.2.1,s.2.2.2.2.1,s.2.2.2.2.2.1,s.2.2.2.2.2.2))
 else
 some (.inr (.inr (s.2.2.2.1,s.2.2.2.2.1,s.2.2.2.2.2.1,s.2.2.2.2.2.2)))
abbrev zI:List ESh:=[.var (.v Zr) true,.var (.v Z7) true,.var (.v (.arr 32 .u8)) true,.var (.v Ze) true]
def Ztb:Lp:=⟨[(6,.ref 1 []),(7,.ref 2 []),(68,.v (.sl .u64)),(69,.v yI),(70,.v yI)],zI,[(.sl .u64),yI,yI,Zr,Z7,(.arr 32 .u8),Ze],[⟨.ret,[(10,.v yI)],zI,[yI,Zr,Z7,(.arr 32 .u8),Ze]⟩,⟨.exit 1,[],zI,[Zr,Z7,(.arr 32 .u8),Ze]⟩],Zb (ZjQ yD) yD⟩
theorem Zwc:Ztb.okA yb 42 0:=Zv { still:=[10,14,53,75,76,81]} [] [Zq2] ⟨ZyT,ytt⟩
def ZHs(F:Nat)(a0:ZR)(a1:XQ)(a2:(yL yB))(a3:Int)(a4:Int):yO (Int):=
 (W7 F a0).bind λo1000=>
 if(!o1000)=true then
  some 1
 else
 if(decide (a1.1 < 0))=true then
  some 1
 else
 if(decide (a1.1 >= (a0.length:Int)))=true then
  some 1
 else
 (idx a0 a1.1).bind λe1001=>
 if(decide (a3 < e1001.2.1))=true then
  some 11
 else
 if(decide (a4 < e1001.2.2.1))=true then
  some 11
 else
 if(e1001.2.2.2 !=0)=true then
  (W5 F a1.2.2).bind λo1002=>
  if(o1002 !=e1001.2.2.2)=true then
   some 23
  else
  if((a1.2.1.length:Int)!=(e1001.1.length:Int))=true then
   some 7
  else
  (Zb (ZjQ F) F (e1001.1,(e1001.1.length:Int),0,a0,a1,a2,e1001)).bind λo1006=>
  match o1006 with
  |.inl o1007=>
   some o1007.1
  |.inr o1008=>
   some 0
 else
 if((a1.2.1.length:Int)!=(e1001.1.length:Int))=true then
  some 7
 else
 (Zb (ZjQ F) F (e1001.1,(e1001.1.length:Int),0,a0,a1,a2,e1001)).bind λo1009=>
 match o1009 with
 |.inl o1010=>
  some o1010.1
 |.inr o1011=>
  some 0
def Zl1(F:Nat):Fs yb:=⟨42,[.v Zr,.v Z7,.v (.arr 32 .u8),.v yI,.v yI],[],[Zr,Z7,(.arr 32 .u8),yI,yI],(zN yI),λx=>ZHs F x.1 x.2.1 x.2.2.1 x.2.2.2.1 x.2.2.2.2⟩
def ZFE:Fs yb:=Zl1 yD
theorem ZDj:ZFE.Ok:=fnO { still:=[10,14,53,75,76,81]} [(0,Ztb)] [ZcK,QE] ⟨ZeG,Q3,ytt⟩ ⟨Zwc,ytt⟩
def YI(F:Nat)(s:(Int×yG×Tx)):yO ((Int×yG×Tx)⊕((Bool×yG×Tx)⊕(yG×Tx))):=
 if(decide (s.1 < (s.2.2.1.length:Int)))=true then
  (idx s.2.2.1 s.1).bind λe1012=>
  if(decide ((e1012.2.2.1.length:Int) > 20))=true then
   some (.inr (.inl (false,s.2.1,s.2.2)))
  else
  some (.inl (wi (s.1+1),s.2.1,s.2.2))
 else
 some (.inr (.inr (s.2.1,s.2.2)))
def Zgi:Lp:=⟨[(3,.ref 1 []),(5,.v yI)],[.var (.v Zf) true,.var (.v yTx) true],[yI,Zf,yTx],[⟨.ret,[(4,.v .bool)],[.var (.v Zf) true,.var (.v yTx) true],[.bool,Zf,yTx]⟩,⟨.exit 0,[(3,.ref 1 [])],[.var (.v Zf) true,.var (.v yTx) true],[Zf,yTx]⟩],Zb (YI yD) yD⟩
theorem Zl2:Zgi.okA yb 6 0:=Zv { still:=[4]} [] [] trivial
def YJ(F:Nat)(s:(Int×(yL Zn)×Int×yG×Tx)):yO ((Int×(yL Zn)×Int×yG×Tx)⊕((Bool×yG×Tx)⊕(Int×yG×Tx))):=
 if(decide (s.2.2.1 < (s.2.1.length:Int)))=true then
  (idx s.2.1 s.2.2.1).bind λe1017=>
  if(decide ((e1017.1.length:Int) > 20))=true then
   some (.inr (.inl (false,s.2.2.2.1,s.2.2.2.2)))
  else
  some (.inl (s.1,s.2.1,wi (s.2.2.1+1),s.2.2.2.1,s.2.2.2.2))
 else
 some (.inr (.inr (s.1,s.2.2.2.1,s.2.2.2.2)))
def Zgj:Lp:=⟨[(3,.ref 1 []),(6,.v yI),(7,.v (.sl Ze)),(8,.v yI)],[.var (.v Zf) true,.var (.v yTx) true],[yI,(.sl Ze),yI,Zf,yTx],[⟨.ret,[(4,.v .bool)],[.var (.v Zf) true,.var (.v yTx) true],[.bool,Zf,yTx]⟩,⟨.exit 4,[(3,.ref 1 []),(6,.v yI)],[.var (.v Zf) true,.var (.v yTx) true],[yI,Zf,yTx]⟩],Zb (YJ yD) yD⟩
theorem Zl3:Zgj.okA yb 6 2:=Zv { still:=[4]} [] [] trivial
def YK(F:Nat)(s:(Int×yG×Tx)):yO ((Int×yG×Tx)⊕((Bool×yG×Tx)⊕(yG×Tx))):=
 if(decide (s.1 < (s.2.2.2.1.length:Int)))=true then
  (idx s.2.2.2.1 s.1).bind λe1016=>
  if(decide ((e1016.2.length:Int) > 6))=true then
   some (.inr (.inl (false,s.2.1,s.2.2)))
  else
  (Zb (YJ F) F (s.1,e1016.2,0,s.2.1,s.2.2)).bind λo1018=>
  match o1018 with
  |.inl o1019=>
   some (.inr (.inl (o1019.1,o1019.2.1,o1019.2.2)))
  |.inr o1020=>
   some (.inl (wi (o1020.1+1),o1020.2.1,o1020.2.2))
 else
 some (.inr (.inr (s.2.1,s.2.2)))
def Zgk:Lp:=⟨[(3,.ref 1 []),(6,.v yI)],[.var (.v Zf) true,.var (.v yTx) true],[yI,Zf,yTx],[⟨.ret,[(4,.v .bool)],[.var (.v Zf) true,.var (.v yTx) true],[.bool,Zf,yTx]⟩,⟨.exit 2,[],[.var (.v Zf) true,.var (.v yTx) true],[Zf,yTx]⟩],Zb (YK yD) yD⟩
theorem Zl4:Zgk.okA yb 6 1:=Zv { still:=[4]} [(2,Zgj)] [] trivial ⟨Zl3,ytt⟩
def Zak(F:Nat)(a0:yG)(a1:Tx):yO (Bool):=
 if(decide ((a0.2.2.1.length:Int) > 20))=true then
  some false
 else
 if(decide ((a1.1.length:Int) > 70))=true then
  some false
 else
 if(decide ((a1.2.1.length:Int) > 70))=true then
  some false
 else
 (Zb (YI F) F (0,a0,a1)).bind λo1013=>
 match o1013 with
 |.inl o1014=>
  some o1014.1
 |.inr o1015=>
  (Zb (YK F) F (0,o1015.1,o1015.2)).bind λo1021=>
  match o1021 with
  |.inl o1022=>
   some o1022.1
  |.inr o1023=>
   some true
def Zqb(F:Nat):Fs yb:=⟨6,[.v Zf,.v yTx],[],[Zf,yTx],(zN .bool),λx=>Zak F x.1 x.2⟩
def Zik:Fs yb:=Zqb yD
theorem Zqc:Zik.Ok:=fnO { still:=[4]} [(0,Zgi),(1,Zgk)] [] trivial ⟨Zl2,Zl4,ytt⟩
def Ys(F:Nat)(a0:Terms)(a1:Int):yO (Bool):=
 some (decide (a1 >= a0.1))
def Zne(F:Nat):Fs yb:=⟨64,[.v ZcD,.v yI],[],[ZcD,yI],(zN .bool),λx=>Ys F x.1 x.2⟩
def ZaR:Fs yb:=Zne yD
theorem ZdJ:ZaR.Ok:=fnO { still:=[4]} [] [] trivial
def YQ(F:Nat)(s:(Int×Int×Chan×yG×(yL Cond))):yO ((Int×Int×Chan×yG×(yL Cond))⊕(Chan×yG×(yL Cond))):=
 if(decide (s.2.1 < (s.2.2.2.1.2.2.1.length:Int)))=true then
  if(inB s.1 2)=true then
   (s.2.2.1.2.2.2.1[s.1.toNat]?).bind λe1024=>
   (idx s.2.2.2.1.2.2.1 s.2.1).bind λe1025=>
   (Ys F e1024 e1025.2.2.1).bind λo1026=>
   if o1026=true then
    (idx s.2.2.2.1.2.2.1 s.2.1).bind λe1027=>
    if(apB s.2.2.2.2.length 1 40)=true then
     some (.inl (s.1,wi (s.2.1+1),s.2.2.1,s.2.2.2.1,s.2.2.2.2++([e1027]:yL Cond)))
    else
    none
   else
   some (.inl (s.1,wi (s.2.1+1),s.2.2.1,s.2.2.2.1,s.2.2.2.2))
  else
  none
 else
 some (.inr (s.2.2.1,s.2.2.2.1,s.2.2.2.2))
def ZdK:Lp:=⟨[(2,.v yI),(3,.ref 0 []),(4,.ref 1 []),(7,.own 2 Yc),(8,.v yI)],zR,[yI,yI,Zu,Zf,(.sl Yc)],[⟨.exit 0,[(7,.own 2 Yc)],zR,[Zu,Zf,(.sl Yc)]⟩],Zb (YQ yD) yD⟩
def ZRM:HI:={ own:=[7,29,36],still:=[6,20,26]}
theorem ZjR:ZdK.okA yb 71 0:=Zv ZRM [] [ZaR] ⟨ZdJ,ytt⟩
def ZB(F:Nat)(a0:Chan)(a1:yG)(a2:Int):yO ((yL Cond)):=
 (Zb (YQ F) F (a2,0,a0,a1,[])).bind λo1028=>
 some o1028.2.2
def Znf(F:Nat):Fs yb:=⟨71,[.v Zu,.v Zf,.v yI],[],[Zu,Zf,yI],(zN (.sl Yc)),λx=>ZB F x.1 x.2.1 x.2.2⟩
def ZaS:Fs yb:=Znf yD
theorem ZdL:ZaS.Ok:=fnO ZRM [(0,ZdK)] [] trivial ⟨ZjR,ytt⟩
def ZW(F:Nat)(a0:Chan)(a1:yG)(a2:Int)(a3:Int):yO (Int):=
 (Z5 F a0 a1).bind λo1029=>
 if(!o1029)=true then
  some 0
 else
 if(a2 !=0)=true then
  if(a2 !=1)=true then
   some 0
  else
  if(a3 !=0)=true then
   if(a3 !=1)=true then
    some 0
   else
   if(a3 !=a0.2.2.2.2)=true then
    if(inB a3 2)=true then
     (a1.2.1[a3.toNat]?).bind λe1030=>
     some e1030
    else
    none
   else
   if(inB a3 2)=true then
    (a1.2.1[a3.toNat]?).bind λe1031=>
    (ZB F a0 a1 a2).bind λo1032=>
    (Yu F a1.2.2.2 (o1032.length:Int)).bind λo1033=>
    some (wi ((wi (e1031 - o1033)) - 660))
   else
   none
  else
  if(a3 !=a0.2.2.2.2)=true then
   if(inB a3 2)=true then
    (a1.2.1[a3.toNat]?).bind λe1034=>
    some e1034
   else
   none
  else
  if(inB a3 2)=true then
   (a1.2.1[a3.toNat]?).bind λe1035=>
   (ZB F a0 a1 a2).bind λo1036=>
   (Yu F a1.2.2.2 (o1036.length:Int)).bind λo1037=>
   some (wi ((wi (e1035 - o1037)) - 660))
  else
  none
 else
 if(a3 !=0)=true then
  if(a3 !=1)=true then
   some 0
  else
  if(a3 !=a0.2.2.2.2)=true then
   if(inB a3 2)=true then
    (a1.2.1[a3.toNat]?).bind λe1038=>
    some e1038
   else
   none
  else
  if(inB a3 2)=true then
   (a1.2.1[a3.toNat]?).bind λe1039=>
   (ZB F a0 a1 a2).bind λo1040=>
   (Yu F a1.2.2.2 (o1040.length:Int)).bind λo1041=>
   some (wi ((wi (e1039 - o1041)) - 660))
  else
  none
 else
 if(a3 !=a0.2.2.2.2)=true then
  if(inB a3 2)=true then
   (a1.2.1[a3.toNat]?).bind λe1042=>
   some e1042
  else
  none
 else
 if(inB a3 2)=true then
  (a1.2.1[a3.toNat]?).bind λe1043=>
  (ZB F a0 a1 a2).bind λo1044=>
  (Yu F a1.2.2.2 (o1044.length:Int)).bind λo1045=>
  some (wi ((wi (e1043 - o1045)) - 660))
 else
 none
def ZoK(F:Nat):Fs yb:=⟨19,[.v Zu,.v Zf,.v yI,.v yI],[],[Zu,Zf,yI,yI],(zN yI),λx=>ZW F x.1 x.2.1 x.2.2.1 x.2.2.2⟩
def Zbj:Fs yb:=ZoK yD
def ZSn:HI:={ still:=[8,10,11,44,45,46,47,49]}
theorem Zfu:Zbj.Ok:=fnO ZSn [] [WA,ZaS,ZbV] ⟨Vo,ZdL,Zgc,ytt⟩
def WF(F:Nat)(a0:yU)(a1:yU):yO (yU):=
 (X2 F a0).bind λo1046=>
 (X2 F a1).bind λo1047=>
 (Zy F o1046 o1047).bind λo1048=>
 some o1048
def Zqd(F:Nat):Fs yb:=⟨143,[.v .u64,.v .u64],[],[.u64,.u64],(zN .u64),λx=>WF F x.1 x.2⟩
def QN:Fs yb:=Zqd yD
theorem Zbk:QN.Ok:=fnO { still:=[4,5,6,7,8]} [] [ZaN,ZaG] ⟨ZdC,Zdp,ytt⟩
def Yz(F:Nat)(s:(yU×Int×(yL yB))):yO ((yU×Int×(yL yB))⊕(yL yB)):=
 if(decide (s.2.1 >= 0))=true then
  let y1049:yU:=ZH s.1 (min ((w64 (wi (8*s.2.1))).toNat:Int).toNat 64)
  if(apB s.2.2.length 1 1)=true then
   some (.inl (s.1,wi (s.2.1 - 1),s.2.2++([w8 (y1049.toNat:Int)]:yL yB)))
  else
  none
 else
 some (.inr s.2.2)
def Zc2:Lp:=⟨[(1,.v .u64),(5,.own 0 .u8),(6,.v yI)],[.log .u8 5],[.u64,yI,(.sl .u8)],[⟨.exit 0,[(5,.own 0 .u8)],[.log .u8 5],[(.sl .u8)]⟩],Zb (Yz yD) yD⟩
def ZRN:HI:={ own:=[5,7,9,14,22],still:=[4]}
theorem ZiF:Zc2.okA yb 187 0:=Zv ZRN [] [] trivial
def YL(F:Nat)(a0:(yL yB))(a1:yU):yO ((yL yB)):=
 if(apB 0 a0.length 1)=true then
  (Zb (Yz F) F (a1,7,a0)).bind λo1050=>
  some o1050
 else
 none
def Zl5(F:Nat):Fs yb:=⟨187,[.v (.sl .u8),.v .u64],[],[(.sl .u8),.u64],(zN (.sl .u8)),λx=>YL F x.1 x.2⟩
def Vq:Fs yb:=Zl5 yD
theorem QO:Vq.Ok:=fnO ZRN [(0,Zc2)] [] trivial ⟨ZiF,ytt⟩
def XE(F:Nat)(a0:ByteArray)(a1:yU)(a2:yU):yO (yU):=
 (YL F [] a1).bind λo1051=>
 (YL F [] a2).bind λo1052=>
 (Yw F a0 [o1051,o1052]).bind λo1053=>
 (Z2 F o1053).bind λo1054=>
 some o1054
def Zl6(F:Nat):Fs yb:=⟨145,[.v .str,.v .u64,.v .u64],[],[.str,.u64,.u64],(zN .u64),λx=>XE F x.1 x.2.1 x.2.2⟩
def Q8:Fs yb:=Zl6 yD
def ZSo:HI:={ still:=[6,9,10,12,13,15,18,19]}
theorem Zc3:Q8.Ok:=fnO ZSo [] [Vq,Xs,WN] ⟨QO,X1,VN,ytt⟩
def XX(F:Nat)(a0:yU)(a1:yU):yO (yU):=
 (XE F ZMr a1 a0).bind λo1055=>
 (Z3 F o1055).bind λo1056=>
 (WF F a0 o1056).bind λo1057=>
 some o1057
def Zqe(F:Nat):Fs yb:=⟨65,[.v .u64,.v .u64],[],[.u64,.u64],(zN .u64),λx=>XX F x.1 x.2⟩
def ZbY:Fs yb:=Zqe yD
theorem Zgl:ZbY.Ok:=fnO { still:=[4,5,6,7,8,9]} [] [Q8,Qb,QN] ⟨Zc3,ZaP,Zbk,ytt⟩
def XF(F:Nat)(a0:yU)(a1:yU):yO (yU):=
 (XE F ZBa a0 a1).bind λo1058=>
 (X3 F a0 o1058).bind λo1059=>
 (XE F ZBa a1 a0).bind λo1060=>
 (X3 F a1 o1060).bind λo1061=>
 (WF F o1059 o1061).bind λo1062=>
 some o1062
def Zl7(F:Nat):Fs yb:=⟨66,[.v .u64,.v .u64],[],[.u64,.u64],(zN .u64),λx=>XF F x.1 x.2⟩
def Q9:Fs yb:=Zl7 yD
def ZSp:HI:={ still:=[4,7,8,9,10,12,13,14,15,17,18]}
theorem Zc4:Q9.Ok:=fnO ZSp [] [Q8,ZaO,QN] ⟨Zc3,ZdD,Zbk,ytt⟩
def XG(F:Nat)(s:(Int×Zn)):yO ((Int×Zn)⊕((Bool×Zn)⊕Zn)):=
 if(decide (s.1 < (s.2.1.length:Int)))=true then
  (idx s.2.1 s.1).bind λe1063=>
  (Yd F e1063).bind λo1064=>
  if(!o1064)=true then
   some (.inr (.inl (false,s.2)))
  else
  some (.inl (wi (s.1+1),s.2))
 else
 some (.inr (.inr s.2))
def Zc5:Lp:=⟨[(1,.ref 0 []),(3,.v yI)],[.var (.v Ze) true],[yI,Ze],[⟨.ret,[(2,.v .bool)],[.var (.v Ze) true],[.bool,Ze]⟩,⟨.exit 0,[(1,.ref 0 [])],[.var (.v Ze) true],[Ze]⟩],Zb (XG yD) yD⟩
theorem ZiG:Zc5.okA yb 182 0:=Zv { still:=[2,41,46]} [] [YG] ⟨Xd,ytt⟩
def VP(F:Nat)(a0:Zn):yO (Bool):=
 if(decide ((a0.1.length:Int) > 12))=true then
  some false
 else
 if(decide (a0.2.1 < 0))=true then
  some false
 else
 if(decide (a0.2.1 > 1048576))=true then
  some false
 else
 if(decide (a0.2.2.1 < 0))=true then
  some false
 else
 if(decide (a0.2.2.1 > 1048576))=true then
  some false
 else
 (Zb (XG F) F (0,a0)).bind λo1065=>
 match o1065 with
 |.inl o1066=>
  some o1066.1
 |.inr o1067=>
  (Yd F o1067.2.2.2).bind λo1068=>
  if(o1067.2.2.2==0)=true then
   some true
  else
  some o1068
def Zl8(F:Nat):Fs yb:=⟨182,[.v Ze],[],[Ze],(zN .bool),λx=>VP F x⟩
def ZdM:Fs yb:=Zl8 yD
theorem Zl9:ZdM.Ok:=fnO { still:=[2,41,46]} [(0,Zc5)] [YG] ⟨Xd,ytt⟩ ⟨ZiG,ytt⟩
def XY(F:Nat)(s:(Int×ZR)):yO ((Int×ZR)⊕((Bool×ZR)⊕ZR)):=
 if(decide (s.1 < (s.2.length:Int)))=true then
  (idx s.2 s.1).bind λe1069=>
  (VP F e1069).bind λo1070=>
  if(!o1070)=true then
   some (.inr (.inl (false,s.2)))
  else
  some (.inl (wi (s.1+1),s.2))
 else
 some (.inr (.inr s.2))
def ZdN:Lp:=⟨[(1,.ref 0 []),(3,.v yI)],[.var (.v Zr) true],[yI,Zr],[⟨.ret,[(2,.v .bool)],[.var (.v Zr) true],[.bool,Zr]⟩,⟨.exit 0,[],[.var (.v Zr) true],[Zr]⟩],Zb (XY yD) yD⟩
theorem ZjS:ZdN.okA yb 99 0:=Zv { still:=[2,25]} [] [ZdM] ⟨Zl9,ytt⟩
end
end Go.Proofs.YtdhclndplbopgaaGreat
end
