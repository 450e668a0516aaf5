/- Parts of the proof, in one file. -/
import Derived.Test.YtekdgjajmennjaaGreatKf
open BitVec renaming ofInt → ybw
open Go.Proofs.Tryz renaming prog → ya
open Int renaming toNat_natCast → yci
open List renaming getElem?_eq_some_iff → yo, length_append → yr, length_map → yx, replicate → yab, getElem?_eq_getElem → yac, length_take → yae, getElem?_map → yaf, map_append → yaj, append_assoc → yak, mem_singleton → yao, take_length → yay, eq_nil_of_length_eq_zero → yaz, take_append_drop → ybf, getElem?_cons_zero → ybh, mem_of_getElem? → ybm, mem_of_mem_take → ybn, mem_map → ybu, getElem_of_mem → ycc
open Nat renaming le_refl → ym, mod_eq_of_lt → yaq, eq_zero_or_pos → ybt
open Option renaming bind_some → yf, map_eq_some_iff → yp
open Option.some renaming inj → ybe
open UInt64 renaming ofNat → yal, toNat_ofNat' → ybo, toNat_inj → yck, lt_iff_toNat_lt → ycs
open UInt8 renaming ofNat → ybk
set_option linter.unusedVariables false
set_option linter.unusedSimpArgs false
section
set_option maxRecDepth 4000
namespace Go.Proofs.YtekdgjajmennjaaGreat
open Go Go.Ev
noncomputable section
def Zon(F:Nat)(a0:XR):Option (Int):=
 (a0.2.1[0]?).bind λe577=>
 (a0.2.1[1]?).bind λe578=>
 (Zd (Zie F) F (wi (e577+e578),a0.2.2.1,(a0.2.2.1.length:Int),0,a0)).bind λo580=>
 some o580.1
def Zuq(F:Nat):Fs ya:=⟨213,[.v ZR],[],[ZR],[⟨.ret,[(0,.v yI)],[],[yI]⟩],λx=>Zon F x⟩
def Zlv:Fs ya:=Zuq fuel
theorem Zur:Zlv.Ok:=fnO { still:=[2]} [(0,ZjP)] [] trivial ⟨Zom,ytt⟩
def Zlw(F:Nat)(a0:Int):Option (Int):=
 if(decide (a0 < 0))=true then
  some 0
 else
 if(decide (a0 > 16))=true then
  some 0
 else
 some (wi (68+(wi (8*a0))))
def ZrD(F:Nat):Fs ya:=⟨243,[.v yI],[],[yI],[⟨.ret,[(0,.v yI)],[],[yI]⟩],λx=>Zlw F x⟩
def ZjQ:Fs ya:=ZrD fuel
theorem ZrE:ZjQ.Ok:=fnO { still:=[2]} [] [] trivial
def Zhr(F:Nat)(a0:Int)(a1:Int):Option (Int):=
 if(decide (a0 < 0))=true then
  some 0
 else
 if(decide (a0 > 1000))=true then
  some 0
 else
 (Zlw F a1).bind λo581=>
 some (wi (a0*o581))
def Zzm(F:Nat):Fs ya:=⟨216,[.v yI,.v yI],[],[yI,yI],[⟨.ret,[(0,.v yI)],[],[yI]⟩],λx=>Zhr F x.1 x.2⟩
def Zfp:Fs ya:=Zzm fuel
theorem Zhs:Zfp.Ok:=fnO { still:=[4,12]} [] [ZjQ] ⟨ZrE,ytt⟩
def ZqV(F:Nat)(a0:Chan)(a1:XR):Option (Int):=
 (Zhr F a1.2.2.2 (a1.2.2.1.length:Int)).bind λo582=>
 some (wi (o582+660))
def ZvU(F:Nat):Fs ya:=⟨214,[.v Yb,.v ZR],[],[Yb,ZR],[⟨.ret,[(0,.v yI)],[],[yI]⟩],λx=>ZqV F x.1 x.2⟩
def Zoo:Fs ya:=ZvU fuel
theorem ZvV:Zoo.Ok:=fnO { still:=[4,6,9]} [] [Zfp] ⟨Zhs,ytt⟩
def Zif(F:Nat)(s:((List Cond)×Int×Int×Chan×XR)):Option (((List Cond)×Int×Int×Chan×XR)⊕((Bool×Chan×XR)⊕(Chan×XR))):=
 if(decide (s.2.2.1 < s.2.1))=true then
  (idx s.1 s.2.2.1).bind λe589=>
  (ZqU F e589).bind λo590=>
  if(!o590)=true then
   some (.inr (.inl (false,s.2.2.2.1,s.2.2.2.2)))
  else
  if(inB (wi (1 - e589.1)) 2)=true then
   (s.2.2.2.1.2.2.2.1[(wi (1 - e589.1)).toNat]?).bind λe591=>
   if(decide (e589.2.2.1 < e591.2.2.2.2.1))=true then
    some (.inr (.inl (false,s.2.2.2.1,s.2.2.2.2)))
   else
   if(decide (s.2.2.1 > 0))=true then
    (idx s.2.2.2.2.2.2.1 (wi (s.2.2.1 - 1))).bind λe592=>
    (Zol F e592 e589).bind λo593=>
    if(decide (o593 ≥ 0))=true then
     some (.inr (.inl (false,s.2.2.2.1,s.2.2.2.2)))
    else
    some (.inl (s.1,s.2.1,wi (s.2.2.1+1),s.2.2.2.1,s.2.2.2.2))
   else
   some (.inl (s.1,s.2.1,wi (s.2.2.1+1),s.2.2.2.1,s.2.2.2.2))
  else
  none
 else
 some (.inr (.inr (s.2.2.2.1,s.2.2.2.2)))
def ZjR:Lp:=⟨[(2,.ref 0 []),(3,.ref 1 []),(46,.v (.sl XX)),(47,.v yI),(48,.v yI)],[.var (.v Yb) true,.var (.v ZR) true],[(.sl XX),yI,yI,Yb,ZR],[⟨.ret,[(4,.v .bool)],[.var (.v Yb) true,.var (.v ZR) true],[.bool,Yb,ZR]⟩,⟨.exit 0,[(2,.ref 0 []),(3,.ref 1 [])],[.var (.v Yb) true,.var (.v ZR) true],[Yb,ZR]⟩],Zd (Zif fuel) fuel⟩
def ZMB:HI:={ still:=[4,11,17,28,35,53,77,78,91,92,107,118,119]}
theorem Zop:ZjR.okA ya 147 0:=Zq ZMB [] [Zok,Zlu] ⟨ZvS,Zup,ytt⟩
def Zig(F:Nat)(s:((List Terms)×Int×Chan×XR)):Option (((List Terms)×Int×Chan×XR)⊕((Bool×Chan×XR)⊕(Chan×XR))):=
 if(decide (s.2.1 < 2))=true then
  (idx s.1 s.2.1).bind λe597=>
  (ZjO F s.2.2.2 s.2.1).bind λo598=>
  if(decide (o598.1 > e597.2.2.2.1))=true then
   some (.inr (.inl (false,s.2.2.1,s.2.2.2)))
  else
  if(decide (o598.2 > e597.2.2.2.2.2))=true then
   some (.inr (.inl (false,s.2.2.1,s.2.2.2)))
  else
  some (.inl (s.1,wi (s.2.1+1),s.2.2.1,s.2.2.2))
 else
 some (.inr (.inr (s.2.2.1,s.2.2.2)))
def ZjS:Lp:=⟨[(2,.ref 0 []),(3,.ref 1 []),(85,.v (.arr 2 Zb1)),(86,.v yI)],[.var (.v Yb) true,.var (.v ZR) true],[(.arr 2 Zb1),yI,Yb,ZR],[⟨.ret,[(4,.v .bool)],[.var (.v Yb) true,.var (.v ZR) true],[.bool,Yb,ZR]⟩,⟨.exit 2,[(2,.ref 0 []),(3,.ref 1 [])],[.var (.v Yb) true,.var (.v ZR) true],[Yb,ZR]⟩],Zd (Zig fuel) fuel⟩
theorem Zoq:ZjS.okA ya 147 1:=Zq ZMB [] [Zid] ⟨ZpI,ytt⟩
def Zor(F:Nat)(a0:Chan)(a1:XR):Option (Bool):=
 (ZdM F a0).bind λo583=>
 if(o583 !=0)=true then
  some false
 else
 (Xd F 0 1048576 [a1.1]).bind λo584=>
 if(!o584)=true then
  some false
 else
 (a1.2.1[0]?).bind λe585=>
 (a1.2.1[1]?).bind λe586=>
 (Xd F 0 1125899906842624 [e585,e586]).bind λo587=>
 if(!o587)=true then
  some false
 else
 (Xd F 0 1000 [a1.2.2.2]).bind λo588=>
 if(!o588)=true then
  some false
 else
 if(decide ((a1.2.2.1.length:Int) > 16))=true then
  some false
 else
 (Zd (Zif F) F (a1.2.2.1,(a1.2.2.1.length:Int),0,a0,a1)).bind λo594=>
 match o594 with
 |.inl o595=>
  some o595.1
 |.inr o596=>
  (Zd (Zig F) F (o596.1.2.2.2.1,0,o596.1,o596.2)).bind λo599=>
  match o599 with
  |.inl o600=>
   some o600.1
  |.inr o601=>
   (Zon F o601.2).bind λo602=>
   if(o602==o601.1.2.1)=true then
    if(inB o601.1.2.2.2.2 2)=true then
     (o601.2.2.1[o601.1.2.2.2.2.toNat]?).bind λe603=>
     (ZqV F o601.1 o601.2).bind λo604=>
     some (decide (e603 ≥ o604))
    else
    none
   else
   some false
def Zef(F:Nat):Fs ya:=⟨147,[.v Yb,.v ZR],[],[Yb,ZR],[⟨.ret,[(0,.v .bool)],[],[.bool]⟩],λx=>Zor F x.1 x.2⟩
def Zlx:Fs ya:=Zef fuel
theorem ZjT:Zlx.Ok:=fnO ZMB [(0,ZjR),(1,ZjS)] [Zi8,Zec,Zlv,Zoo] ⟨Zg4,Zib,Zur,ZvV,ytt⟩ ⟨Zop,Zoq,ytt⟩
def ZjU(F:Nat)(s:(UInt64×Int×(List UInt8))):Option ((UInt64×Int×(List UInt8))⊕(List UInt8)):=
 if(decide (s.2.1 < 8))=true then
  if(decide (0≤wi (56 - (wi (8*s.2.1)))))=true then
   let y605:UInt64:=ZC s.1 (min (wi (56 - (wi (8*s.2.1)))).toNat 64)
   if(inB s.2.1 8)=true then
    (s.2.2[s.2.1.toNat]?).bind λe606=>
    some (.inl (s.1,wi (s.2.1+1),s.2.2.set s.2.1.toNat (w8 (y605.toNat:Int))))
   else
   none
  else
  none
 else
 some (.inr s.2.2)
def Zly:Lp:=⟨[(0,.v .u64),(3,.ref 0 []),(5,.v yI)],[.var (.v (.arr 8 .u8)) true],[.u64,yI,(.arr 8 .u8)],[⟨.exit 0,[(3,.ref 0 [])],[.var (.v (.arr 8 .u8)) true],[(.arr 8 .u8)]⟩],Zd (ZjU fuel) fuel⟩
theorem ZpJ:Zly.okA ya 242 0:=Zq { still:=[2]} [] [] trivial
def ZqW(F:Nat)(a0:UInt64):Option ((List UInt8)):=
 (Zd (ZjU F) F (a0,0,[0,0,0,0,0,0,0,0])).bind λo607=>
 some ((o607.drop 0).take 8)
def ZvW(F:Nat):Fs ya:=⟨242,[.v .u64],[],[.u64],[⟨.ret,[(0,.v (.sl .u8))],[],[(.sl .u8)]⟩],λx=>ZqW F x⟩
def Zos:Fs ya:=ZvW fuel
theorem ZvX:Zos.Ok:=fnO { still:=[2]} [(0,Zly)] [] trivial ⟨ZpJ,ytt⟩
def Zih(F:Nat)(s:(ByteArray×(List UInt64)×Int×Int×(List (List UInt8)))):Option ((ByteArray×(List UInt64)×Int×Int×(List (List UInt8)))⊕(ByteArray×(List (List UInt8)))):=
 if(decide (s.2.2.2.1 < s.2.2.1))=true then
  (idx s.2.1 s.2.2.2.1).bind λe608=>
  (ZqW F e608).bind λo609=>
  if(apB s.2.2.2.2.length 1 24)=true then
   some (.inl (s.1,s.2.1,s.2.2.1,wi (s.2.2.2.1+1),s.2.2.2.2++([o609]:List (List UInt8))))
  else
  none
 else
 some (.inr (s.1,s.2.2.2.2))
def ZjV:Lp:=⟨[(0,.v .str),(5,.own 0 (.sl .u8)),(8,.v (.sl .u64)),(9,.v yI),(10,.v yI)],[.log (.sl .u8) 41],[.str,(.sl .u64),yI,yI,(.sl (.sl .u8))],[⟨.exit 0,[(0,.v .str),(5,.own 0 (.sl .u8))],[.log (.sl .u8) 41],[.str,(.sl (.sl .u8))]⟩],Zd (Zih fuel) fuel⟩
def ZNC:HI:={ own:=[5,14,18],still:=[4,15,20,21,22]}
theorem Zot:ZjV.okA ya 215 0:=Zq ZNC [] [Zos] ⟨ZvX,ytt⟩
def Zc1(F:Nat)(a0:ByteArray)(a1:(List UInt64)):Option (UInt64):=
 (Zd (Zih F) F (a0,a1,(a1.length:Int),0,[])).bind λo610=>
 (YO F o610.1 o610.2).bind λo611=>
 (Wa F o611).bind λo612=>
 some o612
def Zus(F:Nat):Fs ya:=⟨215,[.v .str,.v (.sl .u64)],[],[.str,(.sl .u64)],[⟨.ret,[(0,.v .u64)],[],[.u64]⟩],λx=>Zc1 F x.1 x.2⟩
def ZfM:Fs ya:=Zus fuel
theorem ZjW:ZfM.Ok:=fnO ZNC [(0,ZjV)] [Xp,Vu] ⟨Xc,VM,ytt⟩ ⟨Zot,ytt⟩
def ZIK:ByteArray:=⟨#[114,101,118,111,107,101]⟩
def Zou(F:Nat)(a0:UInt64)(a1:UInt64):Option (UInt64):=
 (Zc1 F ZIK [a0,a1]).bind λo613=>
 (Wl F a0 o613).bind λo614=>
 (Zc1 F ZIK [a1,a0]).bind λo615=>
 (Wl F a1 o615).bind λo616=>
 (Za2 F o614 o616).bind λo617=>
 some o617
def Zut(F:Nat):Fs ya:=⟨148,[.v .u64,.v .u64],[],[.u64,.u64],[⟨.ret,[(0,.v .u64)],[],[.u64]⟩],λx=>Zou F x.1 x.2⟩
def Zlz:Fs ya:=Zut fuel
def ZOb:HI:={ still:=[4,5,8,9,10,11,14,15,16]}
theorem Zuu:Zlz.Ok:=fnO ZOb [] [ZfM,Zbm,Ze7] ⟨ZjW,ZdO,Zhb,ytt⟩
def ZMC:ByteArray:=⟨#[109,105,120]⟩
def Zkx(F:Nat)(a0:UInt64)(a1:UInt64):Option (UInt64):=
 (Zc1 F ZMC [a1,a0]).bind λo618=>
 (Yl F o618).bind λo619=>
 (Za2 F a0 o619).bind λo620=>
 some o620
def ZBG(F:Nat):Fs ya:=⟨149,[.v .u64,.v .u64],[],[.u64,.u64],[⟨.ret,[(0,.v .u64)],[],[.u64]⟩],λx=>Zkx F x.1 x.2⟩
def Zuv:Fs ya:=ZBG fuel
theorem ZBH:Zuv.Ok:=fnO { still:=[4,5,8,9,10]} [] [ZfM,Wm,Ze7] ⟨ZjW,XL,Zhb,ytt⟩
def Zaa(F:Nat)(a0:Terms)(a1:Int):Option (Bool):=
 some (decide (a1 ≥ a0.1))
def Zuw(F:Nat):Fs ya:=⟨153,[.v Zb1,.v yI],[],[Zb1,yI],[⟨.ret,[(0,.v .bool)],[],[.bool]⟩],λx=>Zaa F x.1 x.2⟩
def ZfN:Fs ya:=Zuw fuel
theorem ZjX:ZfN.Ok:=fnO { still:=[4]} [] [] trivial
def ZgA(F:Nat)(s:(Int×(List Cond)×Int×Int×Chan×XR×(List Cond))):Option ((Int×(List Cond)×Int×Int×Chan×XR×(List Cond))⊕(Chan×XR×(List Cond))):=
 if(decide (s.2.2.2.1 < s.2.2.1))=true then
  (idx s.2.1 s.2.2.2.1).bind λe621=>
  if(inB s.1 2)=true then
   (s.2.2.2.2.1.2.2.2.1[s.1.toNat]?).bind λe622=>
   (Zaa F e622 e621.2.2.1).bind λo623=>
   if o623=true then
    if(apB s.2.2.2.2.2.2.length 1 40)=true then
     some (.inl (s.1,s.2.1,s.2.2.1,wi (s.2.2.2.1+1),s.2.2.2.2.1,s.2.2.2.2.2.1,s.2.2.2.2.2.2++([e621]:List Cond)))
    else
    none
   else
   some (.inl (s.1,s.2.1,s.2.2.1,wi (s.2.2.2.1+1),s.2.2.2.2.1,s.2.2.2.2.2.1,s.2.2.2.2.2.2))
  else
  none
 else
 some (.inr (s.2.2.2.2.1,s.2.2.2.2.2.1,s.2.2.2.2.2.2))
def Zii:Lp:=⟨[(2,.v yI),(3,.ref 0 []),(7,.own 2 XX),(11,.v (.sl XX)),(12,.v yI),(13,.v yI)],[.var (.v Yb) true,.var (.v ZR) true,.log XX 61],[yI,(.sl XX),yI,yI,Yb,ZR,(.sl XX)],[⟨.exit 0,[(7,.own 2 XX)],[.var (.v Yb) true,.var (.v ZR) true,.log XX 61],[Yb,ZR,(.sl XX)]⟩],Zd (ZgA fuel) fuel⟩
def ZND:HI:={ own:=[7,24,27],still:=[6,20,22]}
theorem ZmG:Zii.okA ya 156 0:=Zq ZND [] [ZfN] ⟨ZjX,ytt⟩
def WI(F:Nat)(a0:Chan)(a1:XR)(a2:Int):Option ((List Cond)):=
 (Zd (ZgA F) F (a2,a1.2.2.1,(a1.2.2.1.length:Int),0,a0,a1,[])).bind λo624=>
 some o624.2.2
def ZrF(F:Nat):Fs ya:=⟨156,[.v Yb,.v ZR,.v yI],[],[Yb,ZR,yI],[⟨.ret,[(0,.v (.sl XX))],[],[(.sl XX)]⟩],λx=>WI F x.1 x.2.1 x.2.2⟩
def Zeg:Fs ya:=ZrF fuel
theorem Zij:Zeg.Ok:=fnO ZND [(0,Zii)] [] trivial ⟨ZmG,ytt⟩
def Zc2(F:Nat)(a0:Chan)(a1:XR)(a2:Int)(a3:Int):Option (Int):=
 if(inB a3 2)=true then
  (a1.2.1[a3.toNat]?).bind λe625=>
  if(a3==a0.2.2.2.2)=true then
   (WI F a0 a1 a2).bind λo626=>
   (Zhr F a1.2.2.2 (o626.length:Int)).bind λo627=>
   some (wi (e625 - (wi (o627+660))))
  else
  some e625
 else
 none
def Zux(F:Nat):Fs ya:=⟨152,[.v Yb,.v ZR,.v yI,.v yI],[],[Yb,ZR,yI,yI],[⟨.ret,[(0,.v yI)],[],[yI]⟩],λx=>Zc2 F x.1 x.2.1 x.2.2.1 x.2.2.2⟩
def ZlA:Fs ya:=Zux fuel
theorem Zuy:ZlA.Ok:=fnO { still:=[8,20,21,22,23,25]} [] [Zeg,Zfp] ⟨Zij,Zhs,ytt⟩
def Zuz(F:Nat)(a0:UInt64)(a1:UInt64)(a2:Int):Option (Lock):=
 some [([a1],0,0,0),([a0],0,a2,0)]
def Zzn(F:Nat):Fs ya:=⟨154,[.v .u64,.v .u64,.v yI],[],[.u64,.u64,yI],[⟨.ret,[(0,.v ZB)],[],[ZB]⟩],λx=>Zuz F x.1 x.2.1 x.2.2⟩
def ZqX:Fs ya:=Zzn fuel
theorem Zzo:ZqX.Ok:=fnO {} [] [] trivial
def Xa(F:Nat)(a0:UInt64):Option (Lock):=
 some [([a0],0,0,0),([],0,16,0)]
def ZuA(F:Nat):Fs ya:=⟨155,[.v .u64],[],[.u64],[⟨.ret,[(0,.v ZB)],[],[ZB]⟩],λx=>Xa F x⟩
def ZlB:Fs ya:=ZuA fuel
theorem ZuB:ZlB.Ok:=fnO {} [] [] trivial
def ZjY(F:Nat)(a0:(List UInt8))(a1:(List UInt8)):Option (Int):=
 some (Go.Lib.compareBytes a0 a1)
def ZpK(F:Nat):Fs ya:=⟨161,[.v (.sl .u8),.v (.sl .u8)],[],[(.sl .u8),(.sl .u8)],[⟨.ret,[(0,.v yI)],[],[yI]⟩],λx=>ZjY F x.1 x.2⟩
def Zik:Fs ya:=ZpK fuel
theorem ZpL:Zik.Ok:=fnO { still:=[4,5,6]} [] [] trivial
abbrev Zov:Ty:=(.st [yI,XX])
abbrev Zzp:Type:=(Int×Cond)
abbrev Zzp.Cond(x:Zzp):Cond:=x.2
abbrev Zl:Ty:=(.st [Zt,Zov,(.arr 32 .u8)])
abbrev Zw:Type:=(Out×Zzp×(List UInt8))
abbrev Zw.out(x:Zw):Out:=x.1
def ZjZ(F:Nat)(a0:Zw)(a1:Zw):Option (Int):=
 (YR F a0.1.1 a1.1.1).bind λo628=>
 (ZjY F a0.2.2 a1.2.2).bind λo629=>
 (YR F a0.2.1.1 a1.2.1.1).bind λo630=>
 (YR F a0.2.1.2.1 a1.2.1.2.1).bind λo631=>
 (YR F a0.2.1.2.2.1 a1.2.1.2.2.1).bind λo632=>
 (ZjN F [o628,o629,o630,o631,o632]).bind λo633=>
 some o633
def ZpM(F:Nat):Fs ya:=⟨158,[.v Zl,.v Zl],[],[Zl,Zl],[⟨.ret,[(0,.v yI)],[],[yI]⟩],λx=>ZjZ F x.1 x.2⟩
def Zil:Fs ya:=ZpM fuel
def ZOc:HI:={ still:=[4,7,10,13,15,19,22,27,31,36,40,42],frz:=[13,15]}
theorem ZpN:Zil.Ok:=fnO ZOc [] [Q9,Zik,Zhq] ⟨Zee,ZpL,Zlt,ytt⟩
abbrev Zc3:Ty:=(.st [yTx,(.sl Zov)])
abbrev ZuC:Type:=(Tx×(List Zzp))
def ZMD:ByteArray:=⟨#[108,111,99,107]⟩
def Zw6(F:Nat)(a0:Lock):Option ((List UInt8)):=
 (YJ F a0).bind λo650=>
 if(!o650)=true then
  some yzz
 else
 (ZbN F a0).bind λo651=>
 (YO F ZMD [o651]).bind λo652=>
 some o652
def ZBI(F:Nat):Fs ya:=⟨151,[.v ZB],[],[ZB],[⟨.ret,[(0,.v (.arr 32 .u8))],[],[(.arr 32 .u8)]⟩],λx=>Zw6 F x⟩
def ZuD:Fs ya:=ZBI fuel
theorem ZBJ:ZuD.Ok:=fnO { still:=[3,7,9]} [] [Wq,Zhk,Xp] ⟨XO,Zlp,Xc,ytt⟩
def ZX(F:Nat)(a0:Int)(a1:Lock)(a2:Zzp)(s1_0:(List Unit))(s1_1:(List Zw)):Option (((List Unit)×(List Zw))):=
 (Zw6 F a1).bind λo653=>
 if(apB s1_1.length 1 112)=true then
  let y654:(List Zw):=s1_1++([((a0,a1),a2,o653)]:List Zw)
  some (()::s1_0,y654)
 else
 none
def ZpO(F:Nat):Fs ya:=⟨150,[.v yI,.v ZB,.v Zov,.ref 0 []],[.var (.rw 1) true,.row Zl true 241],[yI,ZB,Zov,(.sl (.st [])),(.sl Zl)],[⟨.ret,[(0,.tup [])],[.var (.rw 1) true,.row Zl true 241],[(.sl (.st [])),(.sl Zl)]⟩],λx=>ZX F x.1 x.2.1 x.2.2.1 x.2.2.2.1 x.2.2.2.2⟩
def Zce:Fs ya:=ZpO fuel
theorem ZgB:Zce.Ok:=fnO { own:=[7,16],still:=[12]} [] [ZuD] ⟨ZBJ,ytt⟩
abbrev dT4:Type:=(Int×Int×UInt64×UInt64×UInt64×(List Cond)×Int×Int×Chan×XR×ZuC×(List Unit)×(List Zw))
abbrev tL8:List Ty:=[yI,yI,.u64,.u64,.u64,(.sl XX),yI,yI,Yb,ZR,Zc3,(.sl (.st [])),(.sl Zl)]
def Zcm(F:Nat)(s:(Int×Int×Int×Int×(List Unit)×(List Zw))):Option ((Int×Int×Int×Int×(List Unit)×(List Zw))⊕(Int×Int×Int×(List Unit)×(List Zw))):=
 if(decide (s.2.2.2.1 > s.1))=true then
  if(inB s.2.2.2.1 s.2.2.2.2.2.length)=true then
   (s.2.2.2.2.2[s.2.2.2.1.toNat]?).bind λe673=>
   if(inB (wi (s.2.2.2.1 - 1)) s.2.2.2.2.2.length)=true then
    (s.2.2.2.2.2[(wi (s.2.2.2.1 - 1)).toNat]?).bind λe674=>
    (ZjZ F e673 e674).bind λo675=>
    if(decide (o675 < 0))=true then
     if(inB (wi (s.2.2.2.1 - 1)) s.2.2.2.2.2.length)=true then
      (s.2.2.2.2.2[(wi (s.2.2.2.1 - 1)).toNat]?).bind λe676=>
      if(inB s.2.2.2.1 s.2.2.2.2.2.length)=true then
       (s.2.2.2.2.2[s.2.2.2.1.toNat]?).bind λe677=>
       if(inB s.2.2.2.1 s.2.2.2.2.2.length)=true then
        (s.2.2.2.2.2[s.2.2.2.1.toNat]?).bind λe678=>
        if(inB (wi (s.2.2.2.1 - 1)) ((s.2.2.2.2.2.set s.2.2.2.1.toNat e676).length))=true then
         ((s.2.2.2.2.2.set s.2.2.2.1.toNat e676)[(wi (s.2.2.2.1 - 1)).toNat]?).bind λe679=>
         let y680:(List Zw):=(s.2.2.2.2.2.set s.2.2.2.1.toNat e676).set ((wi (s.2.2.2.1 - 1)).toNat) e677
         some (.inl (s.1,s.2.1,s.2.2.1,wi (s.2.2.2.1 - 1),s.2.2.2.2.1,y680))
        else
        none
       else
       none
      else
      none
     else
     none
    else
    some (.inr (s.1,s.2.1,s.2.2.1,s.2.2.2.2.1,s.2.2.2.2.2))
   else
   none
  else
  none
 else
 some (.inr (s.1,s.2.1,s.2.2.1,s.2.2.2.2.1,s.2.2.2.2.2))
def Zeh:Lp:=⟨[(0,.rw 0),(1,.v yI),(2,.v yI),(3,.fn 158 []),(8,.v yI),(9,.v yI)],[.row Zl true 241],[yI,yI,yI,yI,(.sl (.st [])),(.sl Zl)],[⟨.exit 2,[(0,.rw 0),(1,.v yI),(2,.v yI),(3,.fn 158 []),(8,.v yI)],[.row Zl true 241],[yI,yI,yI,(.sl (.st [])),(.sl Zl)]⟩],Zd (Zcm fuel) fuel⟩
def ZME:HI:={ still:=[26,31],rowt:=[0,37,39]}
theorem Ziq:Zeh.okA ya 244 1:=Zq ZME [] [Zil] ⟨ZpN,ytt⟩
def Zcn(F:Nat)(s:(Int×Int×Int×(List Unit)×(List Zw))):Option ((Int×Int×Int×(List Unit)×(List Zw))⊕((List Unit)×(List Zw))):=
 if(decide (s.2.2.1 < s.2.1))=true then
  (Zd (Zcm F) F (s.1,s.2.1,s.2.2.1,s.2.2.1,s.2.2.2.1,s.2.2.2.2)).bind λo681=>
  some (.inl (o681.1,o681.2.1,wi (o681.2.2.1+1),o681.2.2.2.1,o681.2.2.2.2))
 else
 some (.inr (s.2.2.2.1,s.2.2.2.2))
def Zei:Lp:=⟨[(0,.rw 0),(1,.v yI),(2,.v yI),(3,.fn 158 []),(8,.v yI)],[.row Zl true 241],[yI,yI,yI,(.sl (.st [])),(.sl Zl)],[⟨.exit 0,[],[.row Zl true 241],[(.sl (.st [])),(.sl Zl)]⟩],Zd (Zcn fuel) fuel⟩
theorem Zir:Zei.okA ya 244 0:=Zq ZME [(1,Zeh)] [] trivial ⟨Ziq,ytt⟩
def Za9(F:Nat)(a1:Int)(a2:Int)(s0_0:(List Unit))(s0_1:(List Zw)):Option (((List Unit)×(List Zw))):=
 (Zd (Zcn F) F (a1,a2,wi (a1+1),s0_0,s0_1)).bind λo682=>
 some (o682.1,o682.2)
def ZmH(F:Nat):Fs ya:=⟨244,[.rw 0,.v yI,.v yI,.fn 158 []],[.row Zl true 241],[yI,yI,(.sl (.st [])),(.sl Zl)],[⟨.ret,[(0,.tup [])],[.row Zl true 241],[(.sl (.st [])),(.sl Zl)]⟩],λx=>Za9 F x.1 x.2.1 x.2.2.1 x.2.2.2⟩
def Zab:Fs ya:=ZmH fuel
theorem Zej:Zab.Ok:=fnO ZME [(0,Zei)] [] trivial ⟨Zir,ytt⟩
def Zco(F:Nat)(s:(Int×Int×Int×Int×(List Unit)×(List Zw))):Option ((Int×Int×Int×Int×(List Unit)×(List Zw))⊕(Int×Int×Int×(List Unit)×(List Zw))):=
 if(decide (s.2.2.2.1≤s.1))=true then
  (Za9 F s.2.2.1 s.2.2.2.1 s.2.2.2.2.1 s.2.2.2.2.2).bind λo683=>
  if(decide (s.2.2.2.2.1.length=o683.1.length)&&(decide (40=40)&&decide ((yab s.2.2.2.2.2.length ()).length=o683.2.length)))=true then
   some (.inl (s.1,s.2.1,s.2.2.2.1,wi (s.2.2.2.1+s.2.1),o683.1,o683.2))
  else
  none
 else
 some (.inr (s.1,s.2.1,s.2.2.1,s.2.2.2.2.1,s.2.2.2.2.2))
def Zek:Lp:=⟨[(0,.rw 0),(1,.v yI),(2,.fn 158 []),(6,.v yI),(7,.v yI),(8,.v yI)],[.row Zl true 241],[yI,yI,yI,yI,(.sl (.st [])),(.sl Zl)],[⟨.exit 0,[(0,.rw 0),(1,.v yI),(2,.fn 158 []),(6,.v yI),(7,.v yI)],[.row Zl true 241],[yI,yI,yI,(.sl (.st [])),(.sl Zl)]⟩],Zd (Zco fuel) fuel⟩
def ZKz:HI:={ still:=[15,16,17,24,25,26,37,40,41,42,56,57,58,59],rowt:=[0,14,23,36,55]}
theorem Zis:Zek.okA ya 217 0:=ZEB (fi:={ hi:=ZKz,gh:=[(3,.freshS 0)]}) (specs:={ l:=[Zab]}) (okS ⟨Zej,ytt⟩)
def Zcp(F:Nat)(s:(Int×Int×Int×Int×(List Unit)×(List Zw))):Option ((Int×Int×Int×Int×(List Unit)×(List Zw))⊕(Int×Int×Int×(List Unit)×(List Zw))):=
 if(decide (s.2.2.2.1≤s.1))=true then
  none
 else
 some (.inr (s.1,s.2.1,s.2.2.1,s.2.2.2.2.1,s.2.2.2.2.2))
def Zel:Lp:=⟨[(1,.v yI),(2,.fn 158 []),(6,.v yI),(7,.v yI),(8,.v yI)],[.row Zl true 241],[yI,yI,yI,yI,(.sl (.st [])),(.sl Zl)],[⟨.exit 4,[(1,.v yI),(2,.fn 158 []),(6,.v yI),(7,.v yI)],[.row Zl true 241],[yI,yI,yI,(.sl (.st [])),(.sl Zl)]⟩],Zd (Zcp fuel) fuel⟩
theorem Zit:Zel.okA ya 217 2:=Zq ZKz [] [] trivial
def Zcq(F:Nat)(s:(Int×Int×(List Unit)×(List Zw))):Option ((Int×Int×(List Unit)×(List Zw))⊕((List Unit)×(List Zw))):=
 if(decide (s.2.1 < s.1))=true then
  (Zd (Zcp F) F (s.1,s.2.1,0,wi (2*s.2.1),s.2.2.1,s.2.2.2)).bind λo686=>
  if(decide ((wi (o686.2.2.1+o686.2.1)) < o686.1))=true then
   none
  else
  some (.inl (o686.1,wi (o686.2.1*2),o686.2.2.2.1,o686.2.2.2.2))
 else
 some (.inr (s.2.2.1,s.2.2.2))
def Zem:Lp:=⟨[(0,.junk),(1,.v yI),(2,.fn 158 []),(6,.v yI)],[.row Zl true 241],[yI,yI,(.sl (.st [])),(.sl Zl)],[⟨.exit 2,[],[.row Zl true 241],[(.sl (.st [])),(.sl Zl)]⟩],Zd (Zcq fuel) fuel⟩
theorem Ziu:Zem.okA ya 217 1:=Zq ZKz [(2,Zel)] [] trivial ⟨Zit,ytt⟩
def ZgC(F:Nat)(a1:Int)(s0_0:(List Unit))(s0_1:(List Zw)):Option (((List Unit)×(List Zw))):=
 (Zd (Zco F) F (a1,20,0,20,s0_0,s0_1)).bind λo684=>
 (Za9 F o684.2.2.1 o684.1 o684.2.2.2.1 o684.2.2.2.2).bind λo685=>
 (Zd (Zcq F) F (o684.1,o684.2.1,o685.1,o685.2)).bind λo687=>
 some (o687.1,o687.2)
def ZmI(F:Nat):Fs ya:=⟨217,[.rw 0,.v yI,.fn 158 []],[.row Zl true 241],[yI,(.sl (.st [])),(.sl Zl)],[⟨.ret,[(0,.tup [])],[.row Zl true 241],[(.sl (.st [])),(.sl Zl)]⟩],λx=>ZgC F x.1 x.2.1 x.2.2⟩
def Zfq:Fs ya:=ZmI fuel
theorem ZmJ:Zfq.Ok:=fnO ZKz [(0,Zek),(1,Zem)] [Zab] ⟨Zej,ytt⟩ ⟨Zis,Ziu,ytt⟩
def Zac(F:Nat)(s0_0:(List Unit))(s0_1:(List Zw)):Option (((List Unit)×(List Zw))):=
 (ZgC F (s0_1.length:Int) s0_0 s0_1).bind λo688=>
 some (o688.1,o688.2)
def ZuE(F:Nat):Fs ya:=⟨157,[.rw 0,.fn 158 []],[.row Zl true 241],[(.sl (.st [])),(.sl Zl)],[⟨.ret,[(0,.tup [])],[.row Zl true 241],[(.sl (.st [])),(.sl Zl)]⟩],λx=>Zac F x.1 x.2⟩
def ZlC:Fs ya:=ZuE fuel
theorem ZuF:ZlC.Ok:=fnO { still:=[6,7],rowt:=[0,4]} [] [Zfq] ⟨ZmJ,ytt⟩
abbrev dT5:Type:=(Int×Int×Chan×XR×ZuC×(List Unit)×(List Zw)×(List In)×Int×(List Zzp)×(List Out))
abbrev dT6:Type:=(Chan×XR×ZuC×(List Unit)×(List Zw)×(List In)×Int×(List Zzp)×(List Out))
def ZNE:List ESh:=[.var (.v Yb) true,.var (.v ZR) true,.var (.v Zc3) true,.var (.rw 4) true,.row Zl true 241,.var (.agg [.agg [.v (.sl yIn),.own 7 Zt,.v yI],.own 6 Zov]) true,.log Zov 238,.log Zt 83]
abbrev tL9:List Ty:=[Yb,ZR,Zc3,(.sl (.st [])),(.sl Zl),(.sl yIn),yI,(.sl Zov),(.sl Zt)]
abbrev ZOd:List Ty:=[yI,yI,Yb,ZR,Zc3,(.sl (.st [])),(.sl Zl),(.sl yIn),yI,(.sl Zov),(.sl Zt)]
def Wz(F:Nat)(s:dT4):Option (dT4⊕(Int×Chan×XR×ZuC×(List Unit)×(List Zw))):=
 if(decide (s.2.2.2.2.2.2.2.1 < s.2.2.2.2.2.2.1))=true then
  (idx s.2.2.2.2.2.1 s.2.2.2.2.2.2.2.1).bind λe723=>
  if(e723.1==s.1)=true then
   (ZX F e723.2.2.1 [([s.2.2.1],0,0,0),([s.2.2.2.2.1],0,0,e723.2.2.2.1),([s.2.2.2.1],e723.2.2.2.2,s.2.1,0)] (5,e723) s.2.2.2.2.2.2.2.2.2.2.2.1 s.2.2.2.2.2.2.2.2.2.2.2.2).bind λo724=>
   some (.inl (s.1,s.2.1,s.2.2.1,s.2.2.2.1,s.2.2.2.2.1,s.2.2.2.2.2.1,s.2.2.2.2.2.2.1,wi (s.2.2.2.2.2.2.2.1+1),s.2.2.2.2.2.2.2.2.1,s.2.2.2.2.2.2.2.2.2.1,s.2.2.2.2.2.2.2.2.2.2.1,o724.1,o724.2))
  else
  (ZX F e723.2.2.1 [([s.2.2.1],0,0,0),([s.2.2.2.1],0,s.2.1,e723.2.2.2.1),([s.2.2.2.2.1],e723.2.2.2.2,0,0)] (6,e723) s.2.2.2.2.2.2.2.2.2.2.2.1 s.2.2.2.2.2.2.2.2.2.2.2.2).bind λo725=>
  some (.inl (s.1,s.2.1,s.2.2.1,s.2.2.2.1,s.2.2.2.2.1,s.2.2.2.2.2.1,s.2.2.2.2.2.2.1,wi (s.2.2.2.2.2.2.2.1+1),s.2.2.2.2.2.2.2.2.1,s.2.2.2.2.2.2.2.2.2.1,s.2.2.2.2.2.2.2.2.2.2.1,o725.1,o725.2))
 else
 some (.inr (s.1,s.2.2.2.2.2.2.2.2.1,s.2.2.2.2.2.2.2.2.2.1,s.2.2.2.2.2.2.2.2.2.2.1,s.2.2.2.2.2.2.2.2.2.2.2.1,s.2.2.2.2.2.2.2.2.2.2.2.2))
def Zj0:Lp:=⟨[(2,.v yI),(4,.ref 0 []),(5,.ref 1 []),(8,.ref 2 []),(11,.v yI),(12,.v .u64),(13,.v .u64),(14,.v .u64),(15,.ref 3 []),(16,.fn 150 [.ref 3 []]),(139,.v (.sl XX)),(140,.v yI),(141,.v yI)],[.var (.v Yb) true,.var (.v ZR) true,.var (.v Zc3) true,.var (.rw 4) true,.row Zl true 241],tL8,[⟨.exit 1,[(2,.v yI),(4,.ref 0 []),(5,.ref 1 []),(8,.ref 2 []),(15,.ref 3 [])],[.var (.v Yb) true,.var (.v ZR) true,.var (.v Zc3) true,.var (.rw 4) true,.row Zl true 241],[yI,Yb,ZR,Zc3,(.sl (.st [])),(.sl Zl)]⟩],Zd (Wz fuel) fuel⟩
def ZOe:HI:={ own:=[208,212,216,220],still:=[9,28,32,38,39,54,55,61,62,68,69,72,73,74,75,80,81,84,89,90,91,92,93,94,95,97,98,99,100,105,106,109,114,115,116,123,124,125,132,133,134,136,137,138,176,183,184],rowt:=[187]}
theorem Zow:Zj0.okA ya 81 0:=Zq ZOe [] [Zce] ⟨ZgB,ytt⟩
def WA(F:Nat)(s:dT5):Option (dT5⊕dT6):=
 if(decide (s.2.1 < s.1))=true then
  if(inB s.2.1 s.2.2.2.2.2.2.1.length)=true then
   (s.2.2.2.2.2.2.1[s.2.1.toNat]?).bind λe728=>
   if(apB s.2.2.2.2.2.2.2.2.2.2.length 1 32)=true then
    if(apB s.2.2.2.2.2.2.2.2.2.1.length 1 48)=true then
     let y729:(List Zzp):=s.2.2.2.2.2.2.2.2.2.1++([e728.2.1]:List Zzp)
     some (.inl (s.1,wi (s.2.1+1),s.2.2.1,s.2.2.2.1,s.2.2.2.2.1,s.2.2.2.2.2.1,s.2.2.2.2.2.2.1,s.2.2.2.2.2.2.2.1,s.2.2.2.2.2.2.2.2.1,y729,s.2.2.2.2.2.2.2.2.2.2++([e728.1]:List Out)))
    else
    none
   else
   none
  else
  none
 else
 some (.inr (s.2.2.1,s.2.2.2.1,s.2.2.2.2.1,s.2.2.2.2.2.1,s.2.2.2.2.2.2.1,s.2.2.2.2.2.2.2.1,s.2.2.2.2.2.2.2.2.1,s.2.2.2.2.2.2.2.2.2.1,s.2.2.2.2.2.2.2.2.2.2))
def Zj1:Lp:=⟨[(8,.ref 2 []),(24,.ref 5 []),(200,.rw 4),(201,.v yI),(202,.v yI)],ZNE,ZOd,[⟨.exit 3,[(8,.ref 2 []),(24,.ref 5 [])],ZNE,tL9⟩],Zd (WA fuel) fuel⟩
def ZNF:HI:={ own:=[208,212,216,220],still:=[9,28,32,38,39,54,55,61,62,68,69,72,73,74,75,80,81,84,89,90,91,92,93,94,95,97,98,99,100,105,106,109,114,115,116,123,124,125,132,133,134,136,137,138,176,183,184],rowt:=[187],gst:=[(24,[([1],Zov,238),([0,1],Zt,83)])]}
theorem Zox:Zj1.okA ya 81 1:=Zq ZNF [] [] trivial
def Zzq(F:Nat)(a0:Chan)(a1:XR)(a2:Int)(a3:UInt64):Option ((ZuC×Int)):=
 (Zoh F a2).bind λo693=>
 if(!o693)=true then
  some ((([],[],0),[]),1)
 else
 (YE F a3).bind λo694=>
 if(!o694)=true then
  some ((([],[],0),[]),1)
 else
 (Zor F a0 a1).bind λo695=>
 if(!o695)=true then
  some ((([],[],0),[]),14)
 else
 if(inB (wi (1 - a2)) 2)=true then
  (a0.2.2.2.1[(wi (1 - a2)).toNat]?).bind λe696=>
  if(inB (wi (1 - a2)) 2)=true then
   (a0.2.2.1[(wi (1 - a2)).toNat]?).bind λe697=>
   (Zou F e697.2.2.2.2 a3).bind λo698=>
   if(inB a2 2)=true then
    (a0.2.2.1[a2.toNat]?).bind λe699=>
    (Zkx F e699.2.2.2.1 a3).bind λo700=>
    if(inB (wi (1 - a2)) 2)=true then
     (a0.2.2.1[(wi (1 - a2)).toNat]?).bind λe701=>
     (Zkx F e701.2.2.2.1 a3).bind λo702=>
     (Zc2 F a0 a1 a2 a2).bind λo703=>
     if(inB a2 2)=true then
      (a0.2.2.2.1[a2.toNat]?).bind λe704=>
      (Zaa F e704 o703).bind λo705=>
      if o705=true then
       if(inB a2 2)=true then
        (a0.2.2.1[a2.toNat]?).bind λe706=>
        (Zkx F e706.2.2.1 a3).bind λo707=>
        (Zuz F o707 o698 e696.2.2.1).bind λo708=>
        (ZX F o703 o708 (1,(0,0,0,0,0)) [] []).bind λo709=>
        (Zc2 F a0 a1 a2 (wi (1 - a2))).bind λo710=>
        if(inB a2 2)=true then
         (a0.2.2.2.1[a2.toNat]?).bind λe711=>
         (Zaa F e711 o710).bind λo712=>
         if o712=true then
          if(inB (wi (1 - a2)) 2)=true then
           (a0.2.2.1[(wi (1 - a2)).toNat]?).bind λe713=>
           (Zdg F e713.2.1).bind λo714=>
           (ZX F o710 o714 (2,(0,0,0,0,0)) o709.1 o709.2).bind λo715=>
           if(inB a2 2)=true then
            (a0.2.2.1[a2.toNat]?).bind λe716=>
            (Xa F e716.1).bind λo717=>
            (ZX F 330 o717 (3,(0,0,0,0,0)) o715.1 o715.2).bind λo718=>
            if(inB (wi (1 - a2)) 2)=true then
             (a0.2.2.1[(wi (1 - a2)).toNat]?).bind λe719=>
             (Xa F e719.1).bind λo720=>
             (ZX F 330 o720 (4,(0,0,0,0,0)) o718.1 o718.2).bind λo721=>
             (WI F a0 a1 a2).bind λo722=>
             (Zd (Wz F) F (a2,e696.2.2.1,o698,o700,o702,o722,(o722.length:Int),0,a0,a1,(([],[],0),[]),o721.1,o721.2)).bind λo726=>
             (Zac F o726.2.2.2.2.1 o726.2.2.2.2.2).bind λo727=>
             if(decide (o726.2.2.2.2.1.length=o727.1.length)&&(decide (40=40)&&decide ((yab o726.2.2.2.2.2.length ()).length=o727.2.length)))=true then
              (Zd (WA F) F ((o727.2.length:Int),0,o726.2.1,o726.2.2.1,o726.2.2.2.1,o727.1,o727.2,[(o726.2.1.1,(0,[],0))],wi ((wi (2*o726.2.2.1.1))+o726.1),[],[])).bind λo730=>
              some (((o730.2.2.2.2.2.1,o730.2.2.2.2.2.2.2.2,o730.2.2.2.2.2.2.1),o730.2.2.2.2.2.2.2.1),0)
             else
             none
            else
            none
           else
           none
          else
          none
         else
         if(inB a2 2)=true then
          (a0.2.2.1[a2.toNat]?).bind λe731=>
          (Xa F e731.1).bind λo732=>
          (ZX F 330 o732 (3,(0,0,0,0,0)) o709.1 o709.2).bind λo733=>
          if(inB (wi (1 - a2)) 2)=true then
           (a0.2.2.1[(wi (1 - a2)).toNat]?).bind λe734=>
           (Xa F e734.1).bind λo735=>
           (ZX F 330 o735 (4,(0,0,0,0,0)) o733.1 o733.2).bind λo736=>
           (WI F a0 a1 a2).bind λo737=>
           (Zd (Wz F) F (a2,e696.2.2.1,o698,o700,o702,o737,(o737.length:Int),0,a0,a1,(([],[],0),[]),o736.1,o736.2)).bind λo738=>
           (Zac F o738.2.2.2.2.1 o738.2.2.2.2.2).bind λo739=>
           if(decide (o738.2.2.2.2.1.length=o739.1.length)&&(decide (40=40)&&decide ((yab o738.2.2.2.2.2.length ()).length=o739.2.length)))=true then
            (Zd (WA F) F ((o739.2.length:Int),0,o738.2.1,o738.2.2.1,o738.2.2.2.1,o739.1,o739.2,[(o738.2.1.1,(0,[],0))],wi ((wi (2*o738.2.2.1.1))+o738.1),[],[])).bind λo740=>
            some (((o740.2.2.2.2.2.1,o740.2.2.2.2.2.2.2.2,o740.2.2.2.2.2.2.1),o740.2.2.2.2.2.2.2.1),0)
           else
           none
          else
          none
         else
         none
        else
        none
       else
       none
      else
      (Zc2 F a0 a1 a2 (wi (1 - a2))).bind λo741=>
      if(inB a2 2)=true then
       (a0.2.2.2.1[a2.toNat]?).bind λe742=>
       (Zaa F e742 o741).bind λo743=>
       if o743=true then
        if(inB (wi (1 - a2)) 2)=true then
         (a0.2.2.1[(wi (1 - a2)).toNat]?).bind λe744=>
         (Zdg F e744.2.1).bind λo745=>
         (ZX F o741 o745 (2,(0,0,0,0,0)) [] []).bind λo746=>
         if(inB a2 2)=true then
          (a0.2.2.1[a2.toNat]?).bind λe747=>
          (Xa F e747.1).bind λo748=>
          (ZX F 330 o748 (3,(0,0,0,0,0)) o746.1 o746.2).bind λo749=>
          if(inB (wi (1 - a2)) 2)=true then
           (a0.2.2.1[(wi (1 - a2)).toNat]?).bind λe750=>
           (Xa F e750.1).bind λo751=>
           (ZX F 330 o751 (4,(0,0,0,0,0)) o749.1 o749.2).bind λo752=>
           (WI F a0 a1 a2).bind λo753=>
           (Zd (Wz F) F (a2,e696.2.2.1,o698,o700,o702,o753,(o753.length:Int),0,a0,a1,(([],[],0),[]),o752.1,o752.2)).bind λo754=>
           (Zac F o754.2.2.2.2.1 o754.2.2.2.2.2).bind λo755=>
           if(decide (o754.2.2.2.2.1.length=o755.1.length)&&(decide (40=40)&&decide ((yab o754.2.2.2.2.2.length ()).length=o755.2.length)))=true then
            (Zd (WA F) F ((o755.2.length:Int),0,o754.2.1,o754.2.2.1,o754.2.2.2.1,o755.1,o755.2,[(o754.2.1.1,(0,[],0))],wi ((wi (2*o754.2.2.1.1))+o754.1),[],[])).bind λo756=>
            some (((o756.2.2.2.2.2.1,o756.2.2.2.2.2.2.2.2,o756.2.2.2.2.2.2.1),o756.2.2.2.2.2.2.2.1),0)
           else
           none
          else
          none
         else
         none
        else
        none
       else
       if(inB a2 2)=true then
        (a0.2.2.1[a2.toNat]?).bind λe757=>
        (Xa F e757.1).bind λo758=>
        (ZX F 330 o758 (3,(0,0,0,0,0)) [] []).bind λo759=>
        if(inB (wi (1 - a2)) 2)=true then
         (a0.2.2.1[(wi (1 - a2)).toNat]?).bind λe760=>
         (Xa F e760.1).bind λo761=>
         (ZX F 330 o761 (4,(0,0,0,0,0)) o759.1 o759.2).bind λo762=>
         (WI F a0 a1 a2).bind λo763=>
         (Zd (Wz F) F (a2,e696.2.2.1,o698,o700,o702,o763,(o763.length:Int),0,a0,a1,(([],[],0),[]),o762.1,o762.2)).bind λo764=>
         (Zac F o764.2.2.2.2.1 o764.2.2.2.2.2).bind λo765=>
         if(decide (o764.2.2.2.2.1.length=o765.1.length)&&(decide (40=40)&&decide ((yab o764.2.2.2.2.2.length ()).length=o765.2.length)))=true then
          (Zd (WA F) F ((o765.2.length:Int),0,o764.2.1,o764.2.2.1,o764.2.2.2.1,o765.1,o765.2,[(o764.2.1.1,(0,[],0))],wi ((wi (2*o764.2.2.1.1))+o764.1),[],[])).bind λo766=>
          some (((o766.2.2.2.2.2.1,o766.2.2.2.2.2.2.2.2,o766.2.2.2.2.2.2.1),o766.2.2.2.2.2.2.2.1),0)
         else
         none
        else
        none
       else
       none
      else
      none
     else
     none
    else
    none
   else
   none
  else
  none
 else
 none
def Zen(F:Nat):Fs ya:=⟨81,[.v Yb,.v ZR,.v yI,.v .u64],[],[Yb,ZR,yI,.u64],[⟨.ret,[(0,.tup [.v Zc3,.v yI])],[],[Zc3,yI]⟩],λx=>Zzq F x.1 x.2.1 x.2.2.1 x.2.2.2⟩
def ZvY:Fs ya:=Zen fuel
theorem ZuG:ZvY.Ok:=ZId (fi:={ hi:=ZNF,lp:=[(0,Zj0),(1,Zj1)],gh:=[(11,.rowt 15 [] Zl 241),(31,.freshV 15)]}) (specs:={ l:=[Zlr,XK,Zlx,Zlz,Zuv,ZlA,ZfN,ZqX,Zce,Zmq,ZlB,Zeg,ZlC]}) (okS ⟨Zun,Xo,ZjT,Zuu,ZBH,Zuy,ZjX,Zzo,ZgB,Zjy,ZuB,Zij,ZuF,ytt⟩) ⟨Zow,Zox,ytt⟩
def ZrG(F:Nat)(a0:Int):Option (Int):=
 (Zhr F a0 16).bind λo767=>
 some (wi (o767+660))
def Zad(F:Nat):Fs ya:=⟨162,[.v yI],[],[yI],[⟨.ret,[(0,.v yI)],[],[yI]⟩],λx=>ZrG F x⟩
def ZpP:Fs ya:=Zad fuel
theorem Zoy:ZpP.Ok:=fnO { still:=[2,3]} [] [Zfp] ⟨Zhs,ytt⟩
def Zht(F:Nat)(a0:UInt64):Option (UInt64):=
 (Vs F a0).bind λo768=>
 (Vr F o768 2305843009213688668).bind λo769=>
 some o769
def Zzr(F:Nat):Fs ya:=⟨222,[.v .u64],[],[.u64],[⟨.ret,[(0,.v .u64)],[],[.u64]⟩],λx=>Zht F x⟩
def ZqY:Fs ya:=Zzr fuel
theorem Zzs:ZqY.Ok:=fnO { still:=[2,3,4]} [] [Zbl,Zbj] ⟨ZdN,ZdH,ytt⟩
def Zhu(F:Nat)(a0:UInt64)(a1:(List UInt8))(a2:UInt64)(a3:Sig):Option (Bool):=
 if(a0==1)=true then
  some false
 else
 (YE F a0).bind λo770=>
 if(!o770)=true then
  some false
 else
 (YE F a2).bind λo771=>
 if(!o771)=true then
  some false
 else
 (YE F a3.1).bind λo772=>
 if(!o772)=true then
  some false
 else
 (XC F a3.2).bind λo773=>
 if(!o773)=true then
  some false
 else
 (Wx F a3.1 a0 a1).bind λo774=>
 (Wl F a0 o774).bind λo775=>
 (Zht F a2).bind λo776=>
 (Zd6 F [a3.1,o775,o776]).bind λo777=>
 (Yl F a3.2).bind λo778=>
 some (o778==o777)
def ZuH(F:Nat):Fs ya:=⟨166,[.v .u64,.v (.arr 32 .u8),.v .u64,.v WJ],[],[.u64,(.arr 32 .u8),.u64,WJ],[⟨.ret,[(0,.v .bool)],[],[.bool]⟩],λx=>Zhu F x.1 x.2.1 x.2.2.1 x.2.2.2⟩
def ZlD:Fs ya:=ZuH fuel
def ZOf:HI:={ still:=[8,13,18,24,30,36,38,39,40,41,43,45,48]}
theorem ZuI:ZlD.Ok:=fnO ZOf [] [XK,VK,Za5,Zbm,ZqY,Zjt,Wm] ⟨Xo,QV,Ze9,ZdO,Zzs,Zn0,XL,ytt⟩
def Zae(F:Nat)(a0:UInt64)(a1:(List UInt8))(a2:Sig):Option (Bool):=
 (Zhu F a0 a1 1 a2).bind λo779=>
 some o779
def Zeo(F:Nat):Fs ya:=⟨83,[.v .u64,.v (.arr 32 .u8),.v WJ],[],[.u64,(.arr 32 .u8),WJ],[⟨.ret,[(0,.v .bool)],[],[.bool]⟩],λx=>Zae F x.1 x.2.1 x.2.2⟩
def ZlE:Fs ya:=Zeo fuel
theorem Zj2:ZlE.Ok:=fnO { still:=[6,7,8,9]} [] [ZlD] ⟨ZuI,ytt⟩
abbrev Zep:Ty:=(.st [(.arr 2 (.arr 32 .u8)),(.arr 2 Zb1),(.arr 2 yI),yI,yI])
abbrev Zaf:Type:=((List (List UInt8))×(List Terms)×(List Int)×Int×Int)
abbrev Zaf.Terms(x:Zaf):(List Terms):=x.2.1
def Zzt(F:Nat)(a0:Kit)(a1:Tx):Option (Sig):=
 (Zhl F a1).bind λo802=>
 (Qc F a0.1 o802).bind λo803=>
 some o803
def Zeq(F:Nat):Fs ya:=⟨85,[.v Zi9,.v yTx],[],[Zi9,yTx],[⟨.ret,[(0,.v WJ)],[],[WJ]⟩],λx=>Zzt F x.1 x.2⟩
def ZvZ:Fs ya:=Zeq fuel
theorem ZuJ:ZvZ.Ok:=fnO { still:=[6,7,8]} [] [Zn7,Zfa] ⟨ZjB,ZcX,ytt⟩
def ZlF(F:Nat)(a0:(List In)):Option (((List Unit)×(List In))⊕(List In)):=if a0.isEmpty=true then(Zr3 F a0).map Sum.inr else(Zc0 F a0).map Sum.inl
def ZrH(F:Nat):Fs ya:=⟨194,[.v (.sl yIn)],[],[(.sl yIn)],[⟨.ret,[(0,.rw 0)],[.row yIn true 131],[(.sl (.st [])),(.sl yIn)]⟩,⟨.ret,[(0,.v (.sl yIn))],[],[(.sl yIn)]⟩],λx=>ZlF F x⟩
def Zj3:Fs ya:=ZrH fuel
theorem ZrI:Zj3.Ok:=ZIl (ins:=[(.sl yIn)]) (λx:(List In)=>x.isEmpty) ZjE ZBB
def Zer(F:Nat)(a0:(List Out)):Option (((List Unit)×(List Out))⊕(List Out)):=if a0.isEmpty=true then(Zoa F a0).map Sum.inr else(Zbx F a0).map Sum.inl
def ZpQ(F:Nat):Fs ya:=⟨195,[.v (.sl Zt)],[],[(.sl Zt)],[⟨.ret,[(0,.rw 0)],[.row Zt true 83],[(.sl (.st [])),(.sl Zt)]⟩,⟨.ret,[(0,.v (.sl Zt))],[],[(.sl Zt)]⟩],λx=>Zer F x⟩
def Zim:Fs ya:=ZpQ fuel
theorem ZpR:Zim.Ok:=ZIl (ins:=[(.sl Zt)]) (λx:(List Out)=>x.isEmpty) Zh2 Zzg
def YL(F:Nat)(a0:(List Zr)):Option (((List Unit)×(List Zr))⊕(List Zr)):=if a0.isEmpty=true then(VZ F a0).map Sum.inr else(Yx F a0).map Sum.inl
def ZgD(F:Nat):Fs ya:=⟨172,[.v (.sl Zg)],[],[(.sl Zg)],[⟨.ret,[(0,.rw 0)],[.row Zg true 145],[(.sl (.st [])),(.sl Zg)]⟩,⟨.ret,[(0,.v (.sl Zg))],[],[(.sl Zg)]⟩],λx=>YL F x⟩
def YF:Fs ya:=ZgD fuel
theorem Y4:YF.Ok:=ZIl (ins:=[(.sl Zg)]) (λx:(List Zr)=>x.isEmpty) Ws ZkP
abbrev dT7:Type:=(Int×(List Zr)×Int×Int×Int×Int×Int×Tx×(List Unit)×(List In)×(List Unit)×(List Out))
abbrev ZOg:List Ty:=[yI,(.sl Zg),yI,yI,yI,yTx,(.sl (.st [])),(.sl yIn),(.sl (.st [])),(.sl Zt)]
abbrev ZOh:List Ty:=[yI,(.sl Zg),yI,yI,yI,yI,yI,yTx,(.sl (.st [])),(.sl yIn),(.sl (.st [])),(.sl Zt)]
abbrev dT8:Type:=(Int×Int×Int×Int×Int×(List Out)×Int×Tx×(List Unit)×(List In)×(List Unit)×(List Zr))
abbrev ZOi:List Ty:=[yI,yI,yI,(.sl Zt),yI,yTx,(.sl (.st [])),(.sl yIn),(.sl (.st [])),(.sl Zg)]
abbrev ZOj:List Ty:=[yI,yI,yI,yI,yI,(.sl Zt),yI,yTx,(.sl (.st [])),(.sl yIn),(.sl (.st [])),(.sl Zg)]
abbrev ZOk:List Ty:=[yI,(.sl Zg),yI,yI,(.sl Zt),yI,yTx,(.sl (.st [])),(.sl yIn)]
abbrev ZOl:List Ty:=[yI,(.sl Zg),yI,yI,yI,yI,(.sl Zt),yI,yTx,(.sl (.st [])),(.sl yIn)]
abbrev dT9:Type:=(Int×Int×Int×Int×Int×(List In)×Int×Tx×(List Unit)×(List Out)×(List Unit)×(List Zr))
abbrev ZOm:List Ty:=[yI,yI,yI,(.sl yIn),yI,yTx,(.sl (.st [])),(.sl Zt),(.sl (.st [])),(.sl Zg)]
abbrev ZOn:List Ty:=[yI,yI,yI,yI,yI,(.sl yIn),yI,yTx,(.sl (.st [])),(.sl Zt),(.sl (.st [])),(.sl Zg)]
abbrev ZOo:List Ty:=[yI,(.sl Zg),yI,yI,(.sl yIn),yI,yTx,(.sl (.st [])),(.sl Zt)]
abbrev ZOp:List Ty:=[yI,(.sl Zg),yI,yI,yI,yI,(.sl yIn),yI,yTx,(.sl (.st [])),(.sl Zt)]
abbrev ZOq:List Ty:=[yI,yI,yI,yI,yI,yTx,yTx,(.sl (.st [])),(.sl Zg)]
def ZbP(F:Nat)(s:(Int×Int×Int×Tx×(List Unit)×(List In)×(List Unit)×(List Out))):Option ((Int×Int×Int×Tx×(List Unit)×(List In)×(List Unit)×(List Out))⊕(Int×Tx×(List Unit)×(List In)×(List Unit)×(List Out))):=
 if(decide (s.2.1 < s.1))=true then
  if(inB s.2.1 s.2.2.2.2.2.1.length)=true then
   (s.2.2.2.2.2.1[s.2.1.toNat]?).bind λe930=>
   (VO F e930.2.2.1).bind λo931=>
   if(inB s.2.1 s.2.2.2.2.2.1.length)=true then
    (s.2.2.2.2.2.1[s.2.1.toNat]?).bind λe932=>
    let y933:(List In):=s.2.2.2.2.2.1.set s.2.1.toNat (e932.1,(e932.2.1,o931,e932.2.2.2))
    some (.inl (s.1,wi (s.2.1+1),s.2.2.1,s.2.2.2.1,s.2.2.2.2.1,y933,s.2.2.2.2.2.2.1,s.2.2.2.2.2.2.2))
   else
   none
  else
  none
 else
 some (.inr (s.2.2.1,s.2.2.2.1,s.2.2.2.2.1,s.2.2.2.2.2.1,s.2.2.2.2.2.2.1,s.2.2.2.2.2.2.2))
def Zcr:Lp:=⟨[(1,.ref 0 []),(2,.ref 1 []),(17,.v yI),(18,.v yI)],[.var (.agg [.rw 2,.rw 3,.v yI]) true,.var (.v yTx) true,.row yIn true 131,.row Zt true 83],[yI,yI,yI,yTx,(.sl (.st [])),(.sl yIn),(.sl (.st [])),(.sl Zt)],[⟨.exit 0,[(1,.ref 0 []),(2,.ref 1 [])],[.var (.agg [.rw 2,.rw 3,.v yI]) true,.var (.v yTx) true,.row yIn true 131,.row Zt true 83],[yI,yTx,(.sl (.st [])),(.sl yIn),(.sl (.st [])),(.sl Zt)]⟩],Zd (ZbP fuel) fuel⟩
theorem Zhv:Zcr.okA ya 168 0:=Zq ZfL [] [Qv] ⟨Q8,ytt⟩
def ZbQ(F:Nat)(s:dT1):Option (dT1⊕dT2):=
 if(decide (s.2.2.2.2.1 < s.2.2.2.1))=true then
  if(inB s.2.2.2.2.1 s.2.2.2.2.2.2.2.2.2.2.2.2.length)=true then
   (s.2.2.2.2.2.2.2.2.2.2.2.2[s.2.2.2.2.1.toNat]?).bind λe938=>
   (ZI F e938.1).bind λo939=>
   if(inB s.2.2.2.2.1 s.2.2.2.2.2.2.2.2.2.2.2.2.length)=true then
    (s.2.2.2.2.2.2.2.2.2.2.2.2[s.2.2.2.2.1.toNat]?).bind λe940=>
    let y941:(List Zr):=s.2.2.2.2.2.2.2.2.2.2.2.2.set s.2.2.2.2.1.toNat (o939,e940.2.1,e940.2.2.1,e940.2.2.2)
    some (.inl (s.1,s.2.1,s.2.2.1,s.2.2.2.1,wi (s.2.2.2.2.1+1),s.2.2.2.2.2.1,s.2.2.2.2.2.2.1,s.2.2.2.2.2.2.2.1,s.2.2.2.2.2.2.2.2.1,s.2.2.2.2.2.2.2.2.2.1,s.2.2.2.2.2.2.2.2.2.2.1,s.2.2.2.2.2.2.2.2.2.2.2.1,y941))
   else
   none
  else
  none
 else
 some (.inr (s.1,s.2.1,s.2.2.1,s.2.2.2.2.2.1,s.2.2.2.2.2.2.1,s.2.2.2.2.2.2.2.1,s.2.2.2.2.2.2.2.2.1,s.2.2.2.2.2.2.2.2.2.1,s.2.2.2.2.2.2.2.2.2.2.1,s.2.2.2.2.2.2.2.2.2.2.2.1,s.2.2.2.2.2.2.2.2.2.2.2.2))
def Zcs:Lp:=⟨[(1,.ref 0 []),(2,.ref 1 []),(4,.v yI),(5,.rw 4),(38,.v yI),(39,.v yI),(51,.v yI),(52,.v yI)],[.var (.agg [.rw 2,.rw 3,.v yI]) true,.var (.v yTx) true,.row yIn true 131,.row Zt true 83,.row Zg true 145],tL4,[⟨.exit 4,[(1,.ref 0 []),(2,.ref 1 []),(4,.v yI),(5,.rw 4),(38,.v yI),(39,.v yI)],[.var (.agg [.rw 2,.rw 3,.v yI]) true,.var (.v yTx) true,.row yIn true 131,.row Zt true 83,.row Zg true 145],tL3⟩],Zd (ZbQ fuel) fuel⟩
theorem Zhw:Zcs.okA ya 168 2:=Zq ZfL [] [ZL] ⟨ZN,ytt⟩
def Zag(F:Nat)(s:dT7):Option (dT7⊕(Int×(List Zr)×Int×Int×Int×Tx×(List Unit)×(List In)×(List Unit)×(List Out))):=
 if(decide (s.2.2.2.2.2.1 < s.2.2.2.2.1))=true then
  (idx s.2.1 s.2.2.2.2.2.1).bind λe946=>
  (ZI F e946.1).bind λo947=>
  (idx s.2.1 s.2.2.2.2.2.1).bind λe948=>
  none
 else
 some (.inr (s.1,s.2.1,s.2.2.1,s.2.2.2.1,s.2.2.2.2.2.2.1,s.2.2.2.2.2.2.2.1,s.2.2.2.2.2.2.2.2.1,s.2.2.2.2.2.2.2.2.2.1,s.2.2.2.2.2.2.2.2.2.2.1,s.2.2.2.2.2.2.2.2.2.2.2))
def Zau:Lp:=⟨[(1,.ref 0 []),(2,.ref 1 []),(4,.v yI),(5,.v (.sl Zg)),(38,.v yI),(39,.v yI),(51,.v yI),(52,.v yI)],[.var (.agg [.rw 2,.rw 3,.v yI]) true,.var (.v yTx) true,.row yIn true 131,.row Zt true 83],ZOh,[⟨.exit 4,[(1,.ref 0 []),(2,.ref 1 []),(4,.v yI),(5,.v (.sl Zg)),(38,.v yI),(39,.v yI)],[.var (.agg [.rw 2,.rw 3,.v yI]) true,.var (.v yTx) true,.row yIn true 131,.row Zt true 83],ZOg⟩],Zd (Zag fuel) fuel⟩
theorem ZfO:Zau.okA ya 168 2:=Zq ZfL [] [ZL] ⟨ZN,ytt⟩
def ZbR(F:Nat)(s:(Int×Int×Int×Tx×(List Unit)×(List In)×(List Unit)×(List Out))):Option ((Int×Int×Int×Tx×(List Unit)×(List In)×(List Unit)×(List Out))⊕(Int×Tx×(List Unit)×(List In)×(List Unit)×(List Out))):=
 if(decide (s.2.1 < s.1))=true then
  if(inB s.2.1 s.2.2.2.2.2.2.2.length)=true then
   (s.2.2.2.2.2.2.2[s.2.1.toNat]?).bind λe935=>
   (YL F e935.2).bind λo936=>
   match o936 with
   |.inl o937=>
    (Zd (ZbQ F) F (s.2.1,s.1,s.2.1,(o937.2.length:Int),0,s.2.2.1,s.2.2.2.1,s.2.2.2.2.1,s.2.2.2.2.2.1,s.2.2.2.2.2.2.1,s.2.2.2.2.2.2.2,o937.1,o937.2)).bind λo942=>
    if(inB o942.1 o942.2.2.2.2.2.2.2.2.1.length)=true then
     (o942.2.2.2.2.2.2.2.2.1[o942.1.toNat]?).bind λe943=>
     let y944:(List Out):=o942.2.2.2.2.2.2.2.2.1.set o942.1.toNat (e943.1,o942.2.2.2.2.2.2.2.2.2.2)
     some (.inl (o942.2.1,wi (o942.2.2.1+1),o942.2.2.2.1,o942.2.2.2.2.1,o942.2.2.2.2.2.1,o942.2.2.2.2.2.2.1,o942.2.2.2.2.2.2.2.1,y944))
    else
    none
   |.inr o945=>
    (Zd (Zag F) F (s.2.1,o945,s.1,s.2.1,(o945.length:Int),0,s.2.2.1,s.2.2.2.1,s.2.2.2.2.1,s.2.2.2.2.2.1,s.2.2.2.2.2.2.1,s.2.2.2.2.2.2.2)).bind λo949=>
    if(inB o949.1 o949.2.2.2.2.2.2.2.2.2.length)=true then
     (o949.2.2.2.2.2.2.2.2.2[o949.1.toNat]?).bind λe950=>
     let y951:(List Out):=o949.2.2.2.2.2.2.2.2.2.set o949.1.toNat (e950.1,o949.2.1)
     some (.inl (o949.2.2.1,wi (o949.2.2.2.1+1),o949.2.2.2.2.1,o949.2.2.2.2.2.1,o949.2.2.2.2.2.2.1,o949.2.2.2.2.2.2.2.1,o949.2.2.2.2.2.2.2.2.1,y951))
    else
    none
  else
  none
 else
 some (.inr (s.2.2.1,s.2.2.2.1,s.2.2.2.2.1,s.2.2.2.2.2.1,s.2.2.2.2.2.2.1,s.2.2.2.2.2.2.2))
def Zct:Lp:=⟨[(1,.ref 0 []),(2,.ref 1 []),(38,.v yI),(39,.v yI)],[.var (.agg [.rw 2,.rw 3,.v yI]) true,.var (.v yTx) true,.row yIn true 131,.row Zt true 83],[yI,yI,yI,yTx,(.sl (.st [])),(.sl yIn),(.sl (.st [])),(.sl Zt)],[⟨.exit 2,[(1,.ref 0 []),(2,.ref 1 [])],[.var (.agg [.rw 2,.rw 3,.v yI]) true,.var (.v yTx) true,.row yIn true 131,.row Zt true 83],[yI,yTx,(.sl (.st [])),(.sl yIn),(.sl (.st [])),(.sl Zt)]⟩],Zd (ZbR fuel) fuel⟩
theorem Zhx:Zct.okA ya 168 1:=Zq ZfL [(2,Zcs),(2,Zau)] [YF] ⟨Y4,ytt⟩ ⟨Zhw,ZfO,ytt⟩
def Zah(F:Nat)(s:(Int×Int×(List Out)×Int×Tx×(List Unit)×(List In))):Option ((Int×Int×(List Out)×Int×Tx×(List Unit)×(List In))⊕((List Out)×Int×Tx×(List Unit)×(List In))):=
 if(decide (s.2.1 < s.1))=true then
  if(inB s.2.1 s.2.2.2.2.2.2.length)=true then
   (s.2.2.2.2.2.2[s.2.1.toNat]?).bind λe954=>
   (VO F e954.2.2.1).bind λo955=>
   if(inB s.2.1 s.2.2.2.2.2.2.length)=true then
    (s.2.2.2.2.2.2[s.2.1.toNat]?).bind λe956=>
    let y957:(List In):=s.2.2.2.2.2.2.set s.2.1.toNat (e956.1,(e956.2.1,o955,e956.2.2.2))
    some (.inl (s.1,wi (s.2.1+1),s.2.2.1,s.2.2.2.1,s.2.2.2.2.1,s.2.2.2.2.2.1,y957))
   else
   none
  else
  none
 else
 some (.inr (s.2.2.1,s.2.2.2.1,s.2.2.2.2.1,s.2.2.2.2.2.1,s.2.2.2.2.2.2))
def Zav:Lp:=⟨[(1,.ref 0 []),(2,.ref 1 []),(17,.v yI),(18,.v yI)],[.var (.agg [.rw 2,.v (.sl Zt),.v yI]) true,.var (.v yTx) true,.row yIn true 131],[yI,yI,(.sl Zt),yI,yTx,(.sl (.st [])),(.sl yIn)],[⟨.exit 0,[(1,.ref 0 []),(2,.ref 1 [])],[.var (.agg [.rw 2,.v (.sl Zt),.v yI]) true,.var (.v yTx) true,.row yIn true 131],[(.sl Zt),yI,yTx,(.sl (.st [])),(.sl yIn)]⟩],Zd (Zah fuel) fuel⟩
theorem ZfP:Zav.okA ya 168 0:=Zq ZfL [] [Qv] ⟨Q8,ytt⟩
def VA(F:Nat)(s:dT8):Option (dT8⊕(Int×Int×Int×(List Out)×Int×Tx×(List Unit)×(List In)×(List Unit)×(List Zr))):=
 if(decide (s.2.2.2.2.1 < s.2.2.2.1))=true then
  if(inB s.2.2.2.2.1 s.2.2.2.2.2.2.2.2.2.2.2.length)=true then
   (s.2.2.2.2.2.2.2.2.2.2.2[s.2.2.2.2.1.toNat]?).bind λe962=>
   (ZI F e962.1).bind λo963=>
   if(inB s.2.2.2.2.1 s.2.2.2.2.2.2.2.2.2.2.2.length)=true then
    (s.2.2.2.2.2.2.2.2.2.2.2[s.2.2.2.2.1.toNat]?).bind λe964=>
    let y965:(List Zr):=s.2.2.2.2.2.2.2.2.2.2.2.set s.2.2.2.2.1.toNat (o963,e964.2.1,e964.2.2.1,e964.2.2.2)
    some (.inl (s.1,s.2.1,s.2.2.1,s.2.2.2.1,wi (s.2.2.2.2.1+1),s.2.2.2.2.2.1,s.2.2.2.2.2.2.1,s.2.2.2.2.2.2.2.1,s.2.2.2.2.2.2.2.2.1,s.2.2.2.2.2.2.2.2.2.1,s.2.2.2.2.2.2.2.2.2.2.1,y965))
   else
   none
  else
  none
 else
 some (.inr (s.1,s.2.1,s.2.2.1,s.2.2.2.2.2.1,s.2.2.2.2.2.2.1,s.2.2.2.2.2.2.2.1,s.2.2.2.2.2.2.2.2.1,s.2.2.2.2.2.2.2.2.2.1,s.2.2.2.2.2.2.2.2.2.2.1,s.2.2.2.2.2.2.2.2.2.2.2))
def VQ:Lp:=⟨[(1,.ref 0 []),(2,.ref 1 []),(4,.v yI),(5,.rw 3),(38,.v yI),(39,.v yI),(51,.v yI),(52,.v yI)],[.var (.agg [.rw 2,.v (.sl Zt),.v yI]) true,.var (.v yTx) true,.row yIn true 131,.row Zg true 145],ZOj,[⟨.exit 4,[(1,.ref 0 []),(2,.ref 1 []),(4,.v yI),(5,.rw 3),(38,.v yI),(39,.v yI)],[.var (.agg [.rw 2,.v (.sl Zt),.v yI]) true,.var (.v yTx) true,.row yIn true 131,.row Zg true 145],ZOi⟩],Zd (VA fuel) fuel⟩
theorem Zc4:VQ.okA ya 168 2:=Zq ZfL [] [ZL] ⟨ZN,ytt⟩
def WR(F:Nat)(s:(Int×(List Zr)×Int×Int×Int×Int×(List Out)×Int×Tx×(List Unit)×(List In))):Option ((Int×(List Zr)×Int×Int×Int×Int×(List Out)×Int×Tx×(List Unit)×(List In))⊕(Int×(List Zr)×Int×Int×(List Out)×Int×Tx×(List Unit)×(List In))):=
 if(decide (s.2.2.2.2.2.1 < s.2.2.2.2.1))=true then
  (idx s.2.1 s.2.2.2.2.2.1).bind λe969=>
  (ZI F e969.1).bind λo970=>
  (idx s.2.1 s.2.2.2.2.2.1).bind λe971=>
  none
 else
 some (.inr (s.1,s.2.1,s.2.2.1,s.2.2.2.1,s.2.2.2.2.2.2.1,s.2.2.2.2.2.2.2.1,s.2.2.2.2.2.2.2.2.1,s.2.2.2.2.2.2.2.2.2.1,s.2.2.2.2.2.2.2.2.2.2))
def Vj:Lp:=⟨[(1,.ref 0 []),(2,.ref 1 []),(4,.v yI),(5,.v (.sl Zg)),(38,.v yI),(39,.v yI),(51,.v yI),(52,.v yI)],[.var (.agg [.rw 2,.v (.sl Zt),.v yI]) true,.var (.v yTx) true,.row yIn true 131],ZOl,[⟨.exit 4,[(1,.ref 0 []),(2,.ref 1 []),(4,.v yI),(5,.v (.sl Zg)),(38,.v yI),(39,.v yI)],[.var (.agg [.rw 2,.v (.sl Zt),.v yI]) true,.var (.v yTx) true,.row yIn true 131],ZOk⟩],Zd (WR fuel) fuel⟩
theorem ZbS:Vj.okA ya 168 2:=Zq ZfL [] [ZL] ⟨ZN,ytt⟩
def Zai(F:Nat)(s:(Int×Int×(List Out)×Int×Tx×(List Unit)×(List In))):Option ((Int×Int×(List Out)×Int×Tx×(List Unit)×(List In))⊕((List Out)×Int×Tx×(List Unit)×(List In))):=
 if(decide (s.2.1 < s.1))=true then
  (idx s.2.2.1 s.2.1).bind λe959=>
  (YL F e959.2).bind λo960=>
  match o960 with
  |.inl o961=>
   (Zd (VA F) F (s.2.1,s.1,s.2.1,(o961.2.length:Int),0,s.2.2.1,s.2.2.2.1,s.2.2.2.2.1,s.2.2.2.2.2.1,s.2.2.2.2.2.2,o961.1,o961.2)).bind λo966=>
   (idx o966.2.2.2.1 o966.1).bind λe967=>
   none
  |.inr o968=>
   (Zd (WR F) F (s.2.1,o968,s.1,s.2.1,(o968.length:Int),0,s.2.2.1,s.2.2.2.1,s.2.2.2.2.1,s.2.2.2.2.2.1,s.2.2.2.2.2.2)).bind λo972=>
   (idx o972.2.2.2.2.1 o972.1).bind λe973=>
   none
 else
 some (.inr (s.2.2.1,s.2.2.2.1,s.2.2.2.2.1,s.2.2.2.2.2.1,s.2.2.2.2.2.2))
def Zaw:Lp:=⟨[(1,.ref 0 []),(2,.ref 1 []),(38,.v yI),(39,.v yI)],[.var (.agg [.rw 2,.v (.sl Zt),.v yI]) true,.var (.v yTx) true,.row yIn true 131],[yI,yI,(.sl Zt),yI,yTx,(.sl (.st [])),(.sl yIn)],[⟨.exit 2,[(1,.ref 0 []),(2,.ref 1 [])],[.var (.agg [.rw 2,.v (.sl Zt),.v yI]) true,.var (.v yTx) true,.row yIn true 131],[(.sl Zt),yI,yTx,(.sl (.st [])),(.sl yIn)]⟩],Zd (Zai fuel) fuel⟩
theorem ZfQ:Zaw.okA ya 168 1:=Zq ZfL [(2,VQ),(2,Vj)] [YF] ⟨Y4,ytt⟩ ⟨Zc4,ZbS,ytt⟩
def Zaj(F:Nat)(s:(Int×Int×(List In)×Int×Tx×(List Unit)×(List Out))):Option ((Int×Int×(List In)×Int×Tx×(List Unit)×(List Out))⊕((List In)×Int×Tx×(List Unit)×(List Out))):=
 if(decide (s.2.1 < s.1))=true then
  (idx s.2.2.1 s.2.1).bind λe978=>
  (VO F e978.2.2.1).bind λo979=>
  (idx s.2.2.1 s.2.1).bind λe980=>
  none
 else
 some (.inr (s.2.2.1,s.2.2.2.1,s.2.2.2.2.1,s.2.2.2.2.2.1,s.2.2.2.2.2.2))
def Zax:Lp:=⟨[(1,.ref 0 []),(2,.ref 1 []),(17,.v yI),(18,.v yI)],[.var (.agg [.v (.sl yIn),.rw 2,.v yI]) true,.var (.v yTx) true,.row Zt true 83],[yI,yI,(.sl yIn),yI,yTx,(.sl (.st [])),(.sl Zt)],[⟨.exit 0,[(1,.ref 0 []),(2,.ref 1 [])],[.var (.agg [.v (.sl yIn),.rw 2,.v yI]) true,.var (.v yTx) true,.row Zt true 83],[(.sl yIn),yI,yTx,(.sl (.st [])),(.sl Zt)]⟩],Zd (Zaj fuel) fuel⟩
theorem ZfR:Zax.okA ya 168 0:=Zq ZfL [] [Qv] ⟨Q8,ytt⟩
def VB(F:Nat)(s:dT9):Option (dT9⊕(Int×Int×Int×(List In)×Int×Tx×(List Unit)×(List Out)×(List Unit)×(List Zr))):=
 if(decide (s.2.2.2.2.1 < s.2.2.2.1))=true then
  if(inB s.2.2.2.2.1 s.2.2.2.2.2.2.2.2.2.2.2.length)=true then
   (s.2.2.2.2.2.2.2.2.2.2.2[s.2.2.2.2.1.toNat]?).bind λe985=>
   (ZI F e985.1).bind λo986=>
   if(inB s.2.2.2.2.1 s.2.2.2.2.2.2.2.2.2.2.2.length)=true then
    (s.2.2.2.2.2.2.2.2.2.2.2[s.2.2.2.2.1.toNat]?).bind λe987=>
    let y988:(List Zr):=s.2.2.2.2.2.2.2.2.2.2.2.set s.2.2.2.2.1.toNat (o986,e987.2.1,e987.2.2.1,e987.2.2.2)
    some (.inl (s.1,s.2.1,s.2.2.1,s.2.2.2.1,wi (s.2.2.2.2.1+1),s.2.2.2.2.2.1,s.2.2.2.2.2.2.1,s.2.2.2.2.2.2.2.1,s.2.2.2.2.2.2.2.2.1,s.2.2.2.2.2.2.2.2.2.1,s.2.2.2.2.2.2.2.2.2.2.1,y988))
   else
   none
  else
  none
 else
 some (.inr (s.1,s.2.1,s.2.2.1,s.2.2.2.2.2.1,s.2.2.2.2.2.2.1,s.2.2.2.2.2.2.2.1,s.2.2.2.2.2.2.2.2.1,s.2.2.2.2.2.2.2.2.2.1,s.2.2.2.2.2.2.2.2.2.2.1,s.2.2.2.2.2.2.2.2.2.2.2))
def VR:Lp:=⟨[(1,.ref 0 []),(2,.ref 1 []),(4,.v yI),(5,.rw 3),(38,.v yI),(39,.v yI),(51,.v yI),(52,.v yI)],[.var (.agg [.v (.sl yIn),.rw 2,.v yI]) true,.var (.v yTx) true,.row Zt true 83,.row Zg true 145],ZOn,[⟨.exit 4,[(1,.ref 0 []),(2,.ref 1 []),(4,.v yI),(5,.rw 3),(38,.v yI),(39,.v yI)],[.var (.agg [.v (.sl yIn),.rw 2,.v yI]) true,.var (.v yTx) true,.row Zt true 83,.row Zg true 145],ZOm⟩],Zd (VB fuel) fuel⟩
theorem Zc5:VR.okA ya 168 2:=Zq ZfL [] [ZL] ⟨ZN,ytt⟩
def WS(F:Nat)(s:(Int×(List Zr)×Int×Int×Int×Int×(List In)×Int×Tx×(List Unit)×(List Out))):Option ((Int×(List Zr)×Int×Int×Int×Int×(List In)×Int×Tx×(List Unit)×(List Out))⊕(Int×(List Zr)×Int×Int×(List In)×Int×Tx×(List Unit)×(List Out))):=
 if(decide (s.2.2.2.2.2.1 < s.2.2.2.2.1))=true then
  (idx s.2.1 s.2.2.2.2.2.1).bind λe993=>
  (ZI F e993.1).bind λo994=>
  (idx s.2.1 s.2.2.2.2.2.1).bind λe995=>
  none
 else
 some (.inr (s.1,s.2.1,s.2.2.1,s.2.2.2.1,s.2.2.2.2.2.2.1,s.2.2.2.2.2.2.2.1,s.2.2.2.2.2.2.2.2.1,s.2.2.2.2.2.2.2.2.2.1,s.2.2.2.2.2.2.2.2.2.2))
def Vk:Lp:=⟨[(1,.ref 0 []),(2,.ref 1 []),(4,.v yI),(5,.v (.sl Zg)),(38,.v yI),(39,.v yI),(51,.v yI),(52,.v yI)],[.var (.agg [.v (.sl yIn),.rw 2,.v yI]) true,.var (.v yTx) true,.row Zt true 83],ZOp,[⟨.exit 4,[(1,.ref 0 []),(2,.ref 1 []),(4,.v yI),(5,.v (.sl Zg)),(38,.v yI),(39,.v yI)],[.var (.agg [.v (.sl yIn),.rw 2,.v yI]) true,.var (.v yTx) true,.row Zt true 83],ZOo⟩],Zd (WS fuel) fuel⟩
theorem ZbT:Vk.okA ya 168 2:=Zq ZfL [] [ZL] ⟨ZN,ytt⟩
def Zak(F:Nat)(s:(Int×Int×(List In)×Int×Tx×(List Unit)×(List Out))):Option ((Int×Int×(List In)×Int×Tx×(List Unit)×(List Out))⊕((List In)×Int×Tx×(List Unit)×(List Out))):=
 if(decide (s.2.1 < s.1))=true then
  if(inB s.2.1 s.2.2.2.2.2.2.length)=true then
   (s.2.2.2.2.2.2[s.2.1.toNat]?).bind λe982=>
   (YL F e982.2).bind λo983=>
   match o983 with
   |.inl o984=>
    (Zd (VB F) F (s.2.1,s.1,s.2.1,(o984.2.length:Int),0,s.2.2.1,s.2.2.2.1,s.2.2.2.2.1,s.2.2.2.2.2.1,s.2.2.2.2.2.2,o984.1,o984.2)).bind λo989=>
    if(inB o989.1 o989.2.2.2.2.2.2.2.1.length)=true then
     (o989.2.2.2.2.2.2.2.1[o989.1.toNat]?).bind λe990=>
     let y991:(List Out):=o989.2.2.2.2.2.2.2.1.set o989.1.toNat (e990.1,o989.2.2.2.2.2.2.2.2.2)
     some (.inl (o989.2.1,wi (o989.2.2.1+1),o989.2.2.2.1,o989.2.2.2.2.1,o989.2.2.2.2.2.1,o989.2.2.2.2.2.2.1,y991))
    else
    none
   |.inr o992=>
    (Zd (WS F) F (s.2.1,o992,s.1,s.2.1,(o992.length:Int),0,s.2.2.1,s.2.2.2.1,s.2.2.2.2.1,s.2.2.2.2.2.1,s.2.2.2.2.2.2)).bind λo996=>
    if(inB o996.1 o996.2.2.2.2.2.2.2.2.length)=true then
     (o996.2.2.2.2.2.2.2.2[o996.1.toNat]?).bind λe997=>
     let y998:(List Out):=o996.2.2.2.2.2.2.2.2.set o996.1.toNat (e997.1,o996.2.1)
     some (.inl (o996.2.2.1,wi (o996.2.2.2.1+1),o996.2.2.2.2.1,o996.2.2.2.2.2.1,o996.2.2.2.2.2.2.1,o996.2.2.2.2.2.2.2.1,y998))
    else
    none
  else
  none
 else
 some (.inr (s.2.2.1,s.2.2.2.1,s.2.2.2.2.1,s.2.2.2.2.2.1,s.2.2.2.2.2.2))
def Zay:Lp:=⟨[(1,.ref 0 []),(2,.ref 1 []),(38,.v yI),(39,.v yI)],[.var (.agg [.v (.sl yIn),.rw 2,.v yI]) true,.var (.v yTx) true,.row Zt true 83],[yI,yI,(.sl yIn),yI,yTx,(.sl (.st [])),(.sl Zt)],[⟨.exit 2,[(1,.ref 0 []),(2,.ref 1 [])],[.var (.agg [.v (.sl yIn),.rw 2,.v yI]) true,.var (.v yTx) true,.row Zt true 83],[(.sl yIn),yI,yTx,(.sl (.st [])),(.sl Zt)]⟩],Zd (Zak fuel) fuel⟩
theorem ZfS:Zay.okA ya 168 1:=Zq ZfL [(2,VR),(2,Vk)] [YF] ⟨Y4,ytt⟩ ⟨Zc5,ZbT,ytt⟩
def Zal(F:Nat)(s:(Int×Int×Tx×Tx)):Option ((Int×Int×Tx×Tx)⊕(Tx×Tx)):=
 if(decide (s.2.1 < s.1))=true then
  (idx s.2.2.1.1 s.2.1).bind λe1001=>
  (VO F e1001.2.2.1).bind λo1002=>
  (idx s.2.2.1.1 s.2.1).bind λe1003=>
  none
 else
 some (.inr (s.2.2.1,s.2.2.2))
def Zaz:Lp:=⟨[(1,.ref 0 []),(2,.ref 1 []),(17,.v yI),(18,.v yI)],[.var (.v yTx) true,.var (.v yTx) true],[yI,yI,yTx,yTx],[⟨.exit 0,[(1,.ref 0 []),(2,.ref 1 [])],[.var (.v yTx) true,.var (.v yTx) true],[yTx,yTx]⟩],Zd (Zal fuel) fuel⟩
theorem ZfT:Zaz.okA ya 168 0:=Zq ZfL [] [Qv] ⟨Q8,ytt⟩
def VC(F:Nat)(s:(Int×Int×Int×Int×Int×Tx×Tx×(List Unit)×(List Zr))):Option ((Int×Int×Int×Int×Int×Tx×Tx×(List Unit)×(List Zr))⊕(Int×Int×Int×Tx×Tx×(List Unit)×(List Zr))):=
 if(decide (s.2.2.2.2.1 < s.2.2.2.1))=true then
  if(inB s.2.2.2.2.1 s.2.2.2.2.2.2.2.2.length)=true then
   (s.2.2.2.2.2.2.2.2[s.2.2.2.2.1.toNat]?).bind λe1008=>
   (ZI F e1008.1).bind λo1009=>
   if(inB s.2.2.2.2.1 s.2.2.2.2.2.2.2.2.length)=true then
    (s.2.2.2.2.2.2.2.2[s.2.2.2.2.1.toNat]?).bind λe1010=>
    let y1011:(List Zr):=s.2.2.2.2.2.2.2.2.set s.2.2.2.2.1.toNat (o1009,e1010.2.1,e1010.2.2.1,e1010.2.2.2)
    some (.inl (s.1,s.2.1,s.2.2.1,s.2.2.2.1,wi (s.2.2.2.2.1+1),s.2.2.2.2.2.1,s.2.2.2.2.2.2.1,s.2.2.2.2.2.2.2.1,y1011))
   else
   none
  else
  none
 else
 some (.inr (s.1,s.2.1,s.2.2.1,s.2.2.2.2.2.1,s.2.2.2.2.2.2.1,s.2.2.2.2.2.2.2.1,s.2.2.2.2.2.2.2.2))
def VS:Lp:=⟨[(1,.ref 0 []),(2,.ref 1 []),(4,.v yI),(5,.rw 2),(38,.v yI),(39,.v yI),(51,.v yI),(52,.v yI)],[.var (.v yTx) true,.var (.v yTx) true,.row Zg true 145],ZOq,[⟨.exit 4,[(1,.ref 0 []),(2,.ref 1 []),(4,.v yI),(5,.rw 2),(38,.v yI),(39,.v yI)],[.var (.v yTx) true,.var (.v yTx) true,.row Zg true 145],[yI,yI,yI,yTx,yTx,(.sl (.st [])),(.sl Zg)]⟩],Zd (VC fuel) fuel⟩
theorem Zc6:VS.okA ya 168 2:=Zq ZfL [] [ZL] ⟨ZN,ytt⟩
def WT(F:Nat)(s:(Int×(List Zr)×Int×Int×Int×Int×Tx×Tx)):Option ((Int×(List Zr)×Int×Int×Int×Int×Tx×Tx)⊕(Int×(List Zr)×Int×Int×Tx×Tx)):=
 if(decide (s.2.2.2.2.2.1 < s.2.2.2.2.1))=true then
  (idx s.2.1 s.2.2.2.2.2.1).bind λe1015=>
  (ZI F e1015.1).bind λo1016=>
  (idx s.2.1 s.2.2.2.2.2.1).bind λe1017=>
  none
 else
 some (.inr (s.1,s.2.1,s.2.2.1,s.2.2.2.1,s.2.2.2.2.2.2.1,s.2.2.2.2.2.2.2))
def Vl:Lp:=⟨[(1,.ref 0 []),(2,.ref 1 []),(4,.v yI),(5,.v (.sl Zg)),(38,.v yI),(39,.v yI),(51,.v yI),(52,.v yI)],[.var (.v yTx) true,.var (.v yTx) true],[yI,(.sl Zg),yI,yI,yI,yI,yTx,yTx],[⟨.exit 4,[(1,.ref 0 []),(2,.ref 1 []),(4,.v yI),(5,.v (.sl Zg)),(38,.v yI),(39,.v yI)],[.var (.v yTx) true,.var (.v yTx) true],[yI,(.sl Zg),yI,yI,yTx,yTx]⟩],Zd (WT fuel) fuel⟩
theorem ZbU:Vl.okA ya 168 2:=Zq ZfL [] [ZL] ⟨ZN,ytt⟩
def Zam(F:Nat)(s:(Int×Int×Tx×Tx)):Option ((Int×Int×Tx×Tx)⊕(Tx×Tx)):=
 if(decide (s.2.1 < s.1))=true then
  (idx s.2.2.1.2.1 s.2.1).bind λe1005=>
  (YL F e1005.2).bind λo1006=>
  match o1006 with
  |.inl o1007=>
   (Zd (VC F) F (s.2.1,s.1,s.2.1,(o1007.2.length:Int),0,s.2.2.1,s.2.2.2,o1007.1,o1007.2)).bind λo1012=>
   (idx o1012.2.2.2.1.2.1 o1012.1).bind λe1013=>
   none
  |.inr o1014=>
   (Zd (WT F) F (s.2.1,o1014,s.1,s.2.1,(o1014.length:Int),0,s.2.2.1,s.2.2.2)).bind λo1018=>
   (idx o1018.2.2.2.2.1.2.1 o1018.1).bind λe1019=>
   none
 else
 some (.inr (s.2.2.1,s.2.2.2))
def ZaA:Lp:=⟨[(1,.ref 0 []),(2,.ref 1 []),(38,.v yI),(39,.v yI)],[.var (.v yTx) true,.var (.v yTx) true],[yI,yI,yTx,yTx],[⟨.exit 2,[(1,.ref 0 []),(2,.ref 1 [])],[.var (.v yTx) true,.var (.v yTx) true],[yTx,yTx]⟩],Zd (Zam fuel) fuel⟩
theorem ZfU:ZaA.okA ya 168 1:=Zq ZfL [(2,VS),(2,Vl)] [YF] ⟨Y4,ytt⟩ ⟨Zc6,ZbU,ytt⟩
def Zfr(F:Nat)(a0:Tx):Option ((Int×(List Unit)×(List In)×(List Unit)×(List Out))⊕((List Out)×Int×(List Unit)×(List In))⊕((List In)×Int×(List Unit)×(List Out))⊕Tx):=
 (ZlF F a0.1).bind λo926=>
 match o926 with
 |.inl o927=>
  (Zer F a0.2.1).bind λo928=>
  match o928 with
  |.inl o929=>
   (Zd (ZbP F) F ((o927.2.length:Int),0,a0.2.2,([],[],0),o927.1,o927.2,o929.1,o929.2)).bind λo934=>
   (Zd (ZbR F) F ((o934.2.2.2.2.2.length:Int),0,o934.1,o934.2.1,o934.2.2.1,o934.2.2.2.1,o934.2.2.2.2.1,o934.2.2.2.2.2)).bind λo952=>
   some (.inl (o952.1,o952.2.2.1,o952.2.2.2.1,o952.2.2.2.2.1,o952.2.2.2.2.2))
  |.inr o953=>
   (Zd (Zah F) F ((o927.2.length:Int),0,o953,a0.2.2,([],[],0),o927.1,o927.2)).bind λo958=>
   (Zd (Zai F) F ((o958.1.length:Int),0,o958.1,o958.2.1,o958.2.2.1,o958.2.2.2.1,o958.2.2.2.2)).bind λo974=>
   some (.inr (.inl (o974.1,o974.2.1,o974.2.2.2.1,o974.2.2.2.2)))
 |.inr o975=>
  (Zer F a0.2.1).bind λo976=>
  match o976 with
  |.inl o977=>
   (Zd (Zaj F) F ((o975.length:Int),0,o975,a0.2.2,([],[],0),o977.1,o977.2)).bind λo981=>
   (Zd (Zak F) F ((o981.2.2.2.2.length:Int),0,o981.1,o981.2.1,o981.2.2.1,o981.2.2.2.1,o981.2.2.2.2)).bind λo999=>
   some (.inr (.inr (.inl (o999.1,o999.2.1,o999.2.2.2.1,o999.2.2.2.2))))
  |.inr o1000=>
   (Zd (Zal F) F ((o975.length:Int),0,(o975,o1000,a0.2.2),([],[],0))).bind λo1004=>
   (Zd (Zam F) F ((o1004.1.2.1.length:Int),0,o1004.1,o1004.2)).bind λo1020=>
   some (.inr (.inr (.inr o1020.1)))
def ZkT(F:Nat):Fs ya:=⟨168,[.v yTx],[],[yTx],[⟨.ret,[(0,.agg [.rw 0,.rw 1,.v yI])],[.row yIn true 131,.row Zt true 83],[yI,(.sl (.st [])),(.sl yIn),(.sl (.st [])),(.sl Zt)]⟩,⟨.ret,[(0,.agg [.rw 0,.v (.sl Zt),.v yI])],[.row yIn true 131],[(.sl Zt),yI,(.sl (.st [])),(.sl yIn)]⟩,⟨.ret,[(0,.agg [.v (.sl yIn),.rw 0,.v yI])],[.row Zt true 83],[(.sl yIn),yI,(.sl (.st [])),(.sl Zt)]⟩,⟨.ret,[(0,.v yTx)],[],[yTx]⟩],λx=>Zfr F x⟩
def Zes:Fs ya:=ZkT fuel
theorem ZkU:Zes.Ok:=fnO ZfL [(0,Zcr),(0,Zav),(0,Zax),(0,Zaz),(1,Zct),(1,Zaw),(1,Zay),(1,ZaA)] [Zj3,Zim] ⟨ZrI,ZpR,ytt⟩ ⟨Zhv,ZfP,ZfR,ZfT,Zhx,ZfQ,ZfS,ZfU,ytt⟩
def Zzu(F:Nat)(a0:Tx)(a1:Sig)(a2:Sig):Option (Tx):=
 (Zfr F a0).bind λo1025=>
 match o1025 with
 |.inl o1026=>
  if(decide ((o1026.2.2.1.length:Int) > 0))=true then
   if(inB 0 o1026.2.2.1.length)=true then
    (o1026.2.2.1[0]?).bind λe1027=>
    let y1028:(List In):=o1026.2.2.1.set 0 (e1027.1,((0:Int),([a1,a2]:List Sig),(0:UInt64)))
    some (y1028,o1026.2.2.2.2,o1026.1)
   else
   none
  else
  some (o1026.2.2.1,o1026.2.2.2.2,o1026.1)
 |.inr (.inl o1029)=>
  if(decide ((o1029.2.2.2.length:Int) > 0))=true then
   if(inB 0 o1029.2.2.2.length)=true then
    (o1029.2.2.2[0]?).bind λe1030=>
    let y1031:(List In):=o1029.2.2.2.set 0 (e1030.1,((0:Int),([a1,a2]:List Sig),(0:UInt64)))
    some (y1031,o1029.1,o1029.2.1)
   else
   none
  else
  some (o1029.2.2.2,o1029.1,o1029.2.1)
 |.inr (.inr (.inl o1032))=>
  if(decide ((o1032.1.length:Int) > 0))=true then
   (idx o1032.1 0).bind λe1033=>
   none
  else
  some (o1032.1,o1032.2.2.2,o1032.2.1)
 |.inr (.inr (.inr o1034))=>
  if(decide ((o1034.1.length:Int) > 0))=true then
   (idx o1034.1 0).bind λe1035=>
   none
  else
  some o1034
def Zet(F:Nat):Fs ya:=⟨86,[.v yTx,.v WJ,.v WJ],[],[yTx,WJ,WJ],[⟨.ret,[(0,.v yTx)],[],[yTx]⟩],λx=>Zzu F x.1 x.2.1 x.2.2⟩
def Zv0:Fs ya:=Zet fuel
def ZOr:HI:={ still:=[7],rowt:=[14],deep:=[45]}
theorem ZuK:Zv0.Ok:=ZyA (fi:={ hi:=ZOr}) (specs:={ l:=[Zes]}) (okS ⟨ZkU,ytt⟩)
def ZkV(F:Nat):Option (Zaf):=
 some ([[1,0,0,0,0,0,0,0,0,0,0,0,0,0,0,0,0,0,0,0,0,0,0,0,0,0,0,0,0,0,0,0],[2,0,0,0,0,0,0,0,0,0,0,0,0,0,0,0,0,0,0,0,0,0,0,0,0,0,0,0,0,0,0,0]],[(100,500,10,4,5,9000),(100,500,10,4,5,9000)],[9000,1000],0,2)
def WL(F:Nat):Fs ya:=⟨30,[],[],[],[⟨.ret,[(0,.v Zep)],[],[Zep]⟩],λx=>ZkV F⟩
def Zj4:Fs ya:=WL fuel
theorem Ziv:Zj4.Ok:=fnO {} [] [] trivial
def ZlG(F:Nat)(s:(Int×Int×Out×Out×(List Unit)×(List Zr))):Option ((Int×Int×Out×Out×(List Unit)×(List Zr))⊕(Out×Out×(List Unit)×(List Zr))):=
 if(decide (s.2.1 < s.1))=true then
  if(inB s.2.1 s.2.2.2.2.2.length)=true then
   (s.2.2.2.2.2[s.2.1.toNat]?).bind λe1043=>
   (ZI F e1043.1).bind λo1044=>
   if(inB s.2.1 s.2.2.2.2.2.length)=true then
    (s.2.2.2.2.2[s.2.1.toNat]?).bind λe1045=>
    let y1046:(List Zr):=s.2.2.2.2.2.set s.2.1.toNat (o1044,e1045.2.1,e1045.2.2.1,e1045.2.2.2)
    some (.inl (s.1,wi (s.2.1+1),s.2.2.1,s.2.2.2.1,s.2.2.2.2.1,y1046))
   else
   none
  else
  none
 else
 some (.inr (s.2.2.1,s.2.2.2.1,s.2.2.2.2.1,s.2.2.2.2.2))
def Zoz:Lp:=⟨[(1,.ref 0 []),(2,.ref 1 []),(3,.rw 2),(10,.rw 2),(11,.v yI),(12,.v yI)],[.var (.v Zt) true,.var (.v Zt) true,.row Zg true 145],[yI,yI,Zt,Zt,(.sl (.st [])),(.sl Zg)],[⟨.exit 0,[(1,.ref 0 []),(2,.ref 1 []),(3,.rw 2)],[.var (.v Zt) true,.var (.v Zt) true,.row Zg true 145],[Zt,Zt,(.sl (.st [])),(.sl Zg)]⟩],Zd (ZlG fuel) fuel⟩
def ZNG:HI:={ still:=[8,20],rowt:=[3,9,17],deep:=[83]}
theorem ZrJ:Zoz.okA ya 89 0:=Zq ZNG [] [ZL] ⟨ZN,ytt⟩
def ZmK(F:Nat)(a0:Out):Option (Out):=
 (Yx F a0.2).bind λo1042=>
 (Zd (ZlG F) F ((o1042.2.length:Int),0,a0,(0,[]),o1042.1,o1042.2)).bind λo1047=>
 some (o1047.1.1,o1047.2.2.2)
def Zzv(F:Nat):Fs ya:=⟨89,[.v Zt],[],[Zt],[⟨.ret,[(0,.v Zt)],[],[Zt]⟩],λx=>ZmK F x⟩
def Zj5:Fs ya:=Zzv fuel
theorem ZoA:Zj5.Ok:=ZyA (fi:={ hi:=ZNG,lp:=[(0,Zoz)]}) (specs:={ l:=[WK]}) (okS ⟨Ws,ytt⟩) ⟨ZrJ,ytt⟩
abbrev YM:Ty:=(.st [Zt,yI])
abbrev Zba:Type:=(Out×Int)
abbrev Zba.Out(x:Zba):Out:=x.1
abbrev Qf:Ty:=(.st [Zb,YM])
abbrev X5:Type:=(Outpoint×Zba)
abbrev X5.c(x:X5):Zba:=x.2
abbrev Zm:Ty:=(.st [(.sl Qf),(.sl Zb)])
abbrev ZT:Type:=((List X5)×(List Outpoint))
abbrev ZT.gone(x:ZT):(List X5):=x.1
def ZlH(F:Nat)(s:(Int×(List Out)×Int×Int×(List (Outpoint×Zba))×(List ZT))):Option ((Int×(List Out)×Int×Int×(List (Outpoint×Zba))×(List ZT))⊕(((List (Outpoint×Zba))×(List ZT))⊕((List (Outpoint×Zba))×(List ZT)))):=
 if(decide (s.2.2.2.1 < s.2.2.1))=true then
  (idx s.2.1 s.2.2.2.1).bind λe1048=>
  (YJ F e1048.2).bind λo1049=>
  if(!o1049)=true then
   some (.inr (.inl (s.2.2.2.2.1,s.2.2.2.2.2)))
  else
  if(decide (e1048.1 < 0))=true then
   some (.inr (.inl (s.2.2.2.2.1,s.2.2.2.2.2)))
  else
  if(decide (e1048.1 > (wi (1125899906842624 - s.1))))=true then
   some (.inr (.inl (s.2.2.2.2.1,s.2.2.2.2.2)))
  else
  (ZmK F e1048).bind λo1050=>
  let y1051:(List (Outpoint×Zba)):=ZlT s.2.2.2.2.1 (yzz,s.2.2.2.1) (o1050,(0:Int))
  some (.inl (wi (s.1+e1048.1),s.2.1,s.2.2.1,wi (s.2.2.2.1+1),y1051,s.2.2.2.2.2))
 else
 some (.inr (.inr (s.2.2.2.2.1,s.2.2.2.2.2)))
def ZoB:Lp:=⟨[(3,.ref 1 []),(4,.v yI),(13,.v (.sl Zt)),(14,.v yI),(15,.v yI)],[.map 178 Zb YM,.var (.agg [.mp 0,.own 2 Zm]) true,.log Zm 190],[yI,(.sl Zt),yI,yI,(V6 Zb YM),(.sl Zm)],[⟨.ret,[(2,.ptr0)],[.map 178 Zb YM,.var (.agg [.mp 0,.own 2 Zm]) true,.log Zm 190],[(V6 Zb YM),(.sl Zm)]⟩,⟨.exit 0,[(3,.ref 1 [])],[.map 178 Zb YM,.var (.agg [.mp 0,.own 2 Zm]) true,.log Zm 190],[(V6 Zb YM),(.sl Zm)]⟩],Zd (ZlH fuel) fuel⟩
def ZNH:HI:={ still:=[2,21,46],ghost:=[(12,[([1],Zm,190)])]}
theorem ZrK:ZoB.okA ya 33 0:=Zq ZNH [] [Wq,Zj5] ⟨XO,ZoA,ytt⟩
def ZDC(F:Nat)(a0:(List Out)):Option (Unit⊕((List (Outpoint×Zba))×(List ZT))):=
 if(decide ((a0.length:Int) > 256))=true then
  some (.inl ())
 else
 (Zd (ZlH F) F (0,a0,(a0.length:Int),0,([]:List (Outpoint×Zba)),[])).bind λo1052=>
 match o1052 with
 |.inl o1053=>
  some (.inl ())
 |.inr o1054=>
  some (.inr (o1054.1,o1054.2))
def Zhy(F:Nat):Fs ya:=⟨33,[.v (.sl Zt)],[],[(.sl Zt)],[⟨.ret,[(0,.ptr0)],[],[]⟩,⟨.ret,[(0,.ref 0 [])],[.var (.agg [.mp 1,.own 2 Zm]) true,.map 178 Zb YM,.log Zm 190],[(V6 Zb YM),(.sl Zm)]⟩],λx=>ZDC F x⟩
def ZBK:Fs ya:=Zhy fuel
theorem Zzw:ZBK.Ok:=fnO ZNH [(0,ZoB)] [] trivial ⟨ZrK,ytt⟩
def ZuL(F:Nat)(a0:UInt64)(a1:UInt64):Option (Lock):=
 (Zkv F [a0,a1]).bind λo1055=>
 some o1055
def Zzx(F:Nat):Fs ya:=⟨90,[.v .u64,.v .u64],[],[.u64,.u64],[⟨.ret,[(0,.v ZB)],[],[ZB]⟩],λx=>ZuL F x.1 x.2⟩
def ZqZ:Fs ya:=Zzx fuel
theorem Zzy:ZqZ.Ok:=fnO { still:=[7]} [] [Zmp] ⟨ZqM,ytt⟩
def ZrL(F:Nat)(a0:Chan):Option (Lock):=
 (a0.2.2.1[0]?).bind λe1056=>
 (a0.2.2.1[1]?).bind λe1057=>
 (ZuL F e1056.1 e1057.1).bind λo1058=>
 some o1058
def Zan(F:Nat):Fs ya:=⟨34,[.v Yb],[],[Yb],[⟨.ret,[(0,.v ZB)],[],[ZB]⟩],λx=>ZrL F x⟩
def ZpS:Fs ya:=Zan fuel
theorem ZoC:ZpS.Ok:=fnO { still:=[6,10]} [] [ZqZ] ⟨Zzy,ytt⟩
def ZfV(F:Nat)(s:((List UInt64)×Int×Int×Lock×Q4×(List UInt8)×Zr)):Option (((List UInt64)×Int×Int×Lock×Q4×(List UInt8)×Zr)⊕((Int×Lock×Q4×(List UInt8)×Zr)⊕(Lock×Q4×(List UInt8)×Zr))):=
 if(decide (s.2.2.1 < s.2.1))=true then
  (idx s.1 s.2.2.1).bind λe1062=>
  (idx s.2.2.2.2.1.2.1 s.2.2.1).bind λe1063=>
  (Zae F e1062 s.2.2.2.2.2.1 e1063).bind λo1064=>
  if(!o1064)=true then
   some (.inr (.inl (7,s.2.2.2.1,s.2.2.2.2.1,s.2.2.2.2.2.1,s.2.2.2.2.2.2)))
  else
  some (.inl (s.1,s.2.1,wi (s.2.2.1+1),s.2.2.2.1,s.2.2.2.2.1,s.2.2.2.2.2.1,s.2.2.2.2.2.2))
 else
 some (.inr (.inr (s.2.2.2.1,s.2.2.2.2.1,s.2.2.2.2.2.1,s.2.2.2.2.2.2)))
def ZoD:Lp:=⟨[(6,.ref 1 []),(7,.ref 2 []),(68,.v (.sl .u64)),(69,.v yI),(70,.v yI)],[.var (.v ZB) true,.var (.v Vg) true,.var (.v (.arr 32 .u8)) true,.var (.v Zg) true],[(.sl .u64),yI,yI,ZB,Vg,(.arr 32 .u8),Zg],[⟨.ret,[(10,.v yI)],[.var (.v ZB) true,.var (.v Vg) true,.var (.v (.arr 32 .u8)) true,.var (.v Zg) true],[yI,ZB,Vg,(.arr 32 .u8),Zg]⟩,⟨.exit 1,[],[.var (.v ZB) true,.var (.v Vg) true,.var (.v (.arr 32 .u8)) true,.var (.v Zg) true],[ZB,Vg,(.arr 32 .u8),Zg]⟩],Zd (ZfV fuel) fuel⟩
theorem ZrM:ZoD.okA ya 173 0:=Zq { still:=[10,14,53,75,76,81]} [] [ZlE] ⟨Zj2,ytt⟩
def ZuM(F:Nat)(a0:Lock)(a1:Q4)(a2:(List UInt8))(a3:Int)(a4:Int):Option (Int):=
 (YJ F a0).bind λo1059=>
 if(!o1059)=true then
  some 1
 else
 if(decide (a1.1 < 0))=true then
  some 1
 else
 if(decide (a1.1 ≥ (a0.length:Int)))=true then
  some 1
 else
 (idx a0 a1.1).bind λe1060=>
 if(decide (a3 < e1060.2.1))=true then
  some 11
 else
 if(decide (a4 < e1060.2.2.1))=true then
  some 11
 else
 if(e1060.2.2.2 !=0)=true then
  (Yl F a1.2.2).bind λo1061=>
  if(o1061 !=e1060.2.2.2)=true then
   some 23
  else
  if((a1.2.1.length:Int)!=(e1060.1.length:Int))=true then
   some 7
  else
  (Zd (ZfV F) F (e1060.1,(e1060.1.length:Int),0,a0,a1,a2,e1060)).bind λo1065=>
  match o1065 with
  |.inl o1066=>
   some o1066.1
  |.inr o1067=>
   some 0
 else
 if((a1.2.1.length:Int)!=(e1060.1.length:Int))=true then
  some 7
 else
 (Zd (ZfV F) F (e1060.1,(e1060.1.length:Int),0,a0,a1,a2,e1060)).bind λo1068=>
 match o1068 with
 |.inl o1069=>
  some o1069.1
 |.inr o1070=>
  some 0
def Zzz(F:Nat):Fs ya:=⟨173,[.v ZB,.v Vg,.v (.arr 32 .u8),.v yI,.v yI],[],[ZB,Vg,(.arr 32 .u8),yI,yI],[⟨.ret,[(0,.v yI)],[],[yI]⟩],λx=>ZuM F x.1 x.2.1 x.2.2.1 x.2.2.2.1 x.2.2.2.2⟩
def Zq0:Fs ya:=Zzz fuel
theorem ZzA:Zq0.Ok:=fnO { still:=[10,14,53,75,76,81]} [(0,ZoD)] [Wq,Wm] ⟨XO,XL,ytt⟩ ⟨ZrM,ytt⟩
abbrev ZNI:Type:=(Int×Int×(List In)×Int×Int×(List (Outpoint×Zba))×(List ZT)×Tx×(List UInt8))
abbrev ZOs:List Ty:=[yI,yI,(.sl yIn),yI,yI,(V6 Zb YM),(.sl Zm),yTx,(.arr 32 .u8)]
def ZKA:HI:={ still:=[6,7,21,32,55,57,58,59,63,74]}
def Zcu(F:Nat)(s:ZNI):Option (ZNI⊕((Int×Int×(List (Outpoint×Zba))×(List ZT)×Tx×(List UInt8))⊕(Int×(List (Outpoint×Zba))×(List ZT)×Tx×(List UInt8)))):=
 if(decide (s.2.2.2.2.1 < s.2.2.2.1))=true then
  (idx s.2.2.1 s.2.2.2.2.1).bind λe1089=>
  Znl (ZiR s.2.2.2.2.2.1 e1089.1) (λe1090=>
   (ZuM F e1090.1.2 e1089.2 s.2.2.2.2.2.2.2.2 s.1 (wi (s.1 - e1090.2))).bind λo1091=>
   if(o1091 !=0)=true then
    some (.inr (.inl (0,o1091,s.2.2.2.2.2.1,s.2.2.2.2.2.2.1,s.2.2.2.2.2.2.2.1,s.2.2.2.2.2.2.2.2)))
   else
   some (.inl (s.1,wi (s.2.1+e1090.1.1),s.2.2.1,s.2.2.2.1,wi (s.2.2.2.2.1+1),s.2.2.2.2.2.1,s.2.2.2.2.2.2.1,s.2.2.2.2.2.2.2.1,s.2.2.2.2.2.2.2.2))) (
   some (.inr (.inl (0,5,s.2.2.2.2.2.1,s.2.2.2.2.2.2.1,s.2.2.2.2.2.2.2.1,s.2.2.2.2.2.2.2.2))))
 else
 some (.inr (.inr (s.2.1,s.2.2.2.2.2.1,s.2.2.2.2.2.2.1,s.2.2.2.2.2.2.2.1,s.2.2.2.2.2.2.2.2)))
def Zeu:Lp:=⟨[(0,.ref 0 []),(2,.v yI),(4,.ref 3 []),(8,.ref 4 []),(9,.v yI),(35,.v (.sl yIn)),(36,.v yI),(37,.v yI)],[.var (.agg [.mp 1,.own 2 Zm]) true,.map 178 Zb YM,.log Zm 190,.var (.v yTx) true,.var (.v (.arr 32 .u8)) true],ZOs,[⟨.ret,[(6,.v yI),(7,.v yI)],[.var (.agg [.mp 1,.own 2 Zm]) true,.map 178 Zb YM,.log Zm 190,.var (.v yTx) true,.var (.v (.arr 32 .u8)) true],[yI,yI,(V6 Zb YM),(.sl Zm),yTx,(.arr 32 .u8)]⟩,⟨.exit 0,[(0,.ref 0 []),(4,.ref 3 []),(9,.v yI)],[.var (.agg [.mp 1,.own 2 Zm]) true,.map 178 Zb YM,.log Zm 190,.var (.v yTx) true,.var (.v (.arr 32 .u8)) true],[yI,(V6 Zb YM),(.sl Zm),yTx,(.arr 32 .u8)]⟩],Zd (Zcu fuel) fuel⟩
theorem Ziw:Zeu.okA ya 91 0:=Zq ZKA [] [Zq0] ⟨ZzA,ytt⟩
abbrev ZNJ:Type:=(Int×(List Outpoint)×Int×Int×(List (Outpoint×Zba))×(List ZT)×Tx×(List UInt8))
def Zcv(F:Nat)(s:ZNJ):Option (ZNJ⊕((Int×Int×(List (Outpoint×Zba))×(List ZT)×Tx×(List UInt8))⊕(Int×(List (Outpoint×Zba))×(List ZT)×Tx×(List UInt8)))):=
 if(decide (s.2.2.2.1 < s.2.2.1))=true then
  (idx s.2.1 s.2.2.2.1).bind λe1096=>
  Znl (ZiR s.2.2.2.2.1 e1096) (λe1097=>
   some (.inr (.inl (0,4,s.2.2.2.2.1,s.2.2.2.2.2.1,s.2.2.2.2.2.2.1,s.2.2.2.2.2.2.2)))) (
   some (.inl (s.1,s.2.1,s.2.2.1,wi (s.2.2.2.1+1),s.2.2.2.2.1,s.2.2.2.2.2.1,s.2.2.2.2.2.2.1,s.2.2.2.2.2.2.2)))
 else
 some (.inr (.inr (s.1,s.2.2.2.2.1,s.2.2.2.2.2.1,s.2.2.2.2.2.2.1,s.2.2.2.2.2.2.2)))
abbrev ZOt:List Ty:=[yI,(.sl Zb),yI,yI,(V6 Zb YM),(.sl Zm),yTx,(.arr 32 .u8)]
def Zev:Lp:=⟨[(0,.ref 0 []),(4,.ref 3 []),(9,.v yI),(75,.v (.sl Zb)),(76,.v yI),(77,.v yI)],[.var (.agg [.mp 1,.own 2 Zm]) true,.map 178 Zb YM,.log Zm 190,.var (.v yTx) true,.var (.v (.arr 32 .u8)) true],ZOt,[⟨.ret,[(6,.v yI),(7,.v yI)],[.var (.agg [.mp 1,.own 2 Zm]) true,.map 178 Zb YM,.log Zm 190,.var (.v yTx) true,.var (.v (.arr 32 .u8)) true],[yI,yI,(V6 Zb YM),(.sl Zm),yTx,(.arr 32 .u8)]⟩,⟨.exit 2,[(4,.ref 3 []),(9,.v yI)],[.var (.agg [.mp 1,.own 2 Zm]) true,.map 178 Zb YM,.log Zm 190,.var (.v yTx) true,.var (.v (.arr 32 .u8)) true],[yI,(V6 Zb YM),(.sl Zm),yTx,(.arr 32 .u8)]⟩],Zd (Zcv fuel) fuel⟩
theorem Zix:Zev.okA ya 91 1:=Zq ZKA [] [] trivial
def Zcw(F:Nat)(s:(Int×(List Out)×Int×Int×(List (Outpoint×Zba))×(List ZT)×Tx×(List UInt8))):Option ((Int×(List Out)×Int×Int×(List (Outpoint×Zba))×(List ZT)×Tx×(List UInt8))⊕(Int×(List (Outpoint×Zba))×(List ZT)×Tx×(List UInt8))):=
 if(decide (s.2.2.2.1 < s.2.2.1))=true then
  (idx s.2.1 s.2.2.2.1).bind λe1101=>
  some (.inl (wi (s.1 - e1101.1),s.2.1,s.2.2.1,wi (s.2.2.2.1+1),s.2.2.2.2.1,s.2.2.2.2.2.1,s.2.2.2.2.2.2.1,s.2.2.2.2.2.2.2))
 else
 some (.inr (s.1,s.2.2.2.2.1,s.2.2.2.2.2.1,s.2.2.2.2.2.2.1,s.2.2.2.2.2.2.2))
abbrev ZOu:List Ty:=[yI,(.sl Zt),yI,yI,(V6 Zb YM),(.sl Zm),yTx,(.arr 32 .u8)]
def Zew:Lp:=⟨[(9,.v yI),(93,.v (.sl Zt)),(94,.v yI),(95,.v yI)],[.var (.agg [.mp 1,.own 2 Zm]) true,.map 178 Zb YM,.log Zm 190,.var (.v yTx) true,.var (.v (.arr 32 .u8)) true],ZOu,[⟨.exit 4,[(9,.v yI)],[.var (.agg [.mp 1,.own 2 Zm]) true,.map 178 Zb YM,.log Zm 190,.var (.v yTx) true,.var (.v (.arr 32 .u8)) true],[yI,(V6 Zb YM),(.sl Zm),yTx,(.arr 32 .u8)]⟩],Zd (Zcw fuel) fuel⟩
theorem Ziy:Zew.okA ya 91 2:=Zq ZKA [] [] trivial
def ZgE(F:Nat)(a1:Tx)(a2:Int)(s1:(List (Outpoint×Zba)))(s2:(List ZT)):Option ((Int×Int×(List (Outpoint×Zba))×(List ZT))):=
 (tx_RightM F a1).bind λo1087=>
 if(!o1087)=true then
  some (0,1,s1,s2)
 else
 if(decide (a2 < 1))=true then
  some (0,1,s1,s2)
 else
 if(decide (a2 > 1048576))=true then
  some (0,1,s1,s2)
 else
 (Zhl F a1).bind λo1088=>
 (Zd (Zcu F) F (a2,0,a1.1,(a1.1.length:Int),0,s1,s2,a1,o1088)).bind λo1092=>
 match o1092 with
 |.inl o1093=>
  some (o1093.1,o1093.2.1,o1093.2.2.1,o1093.2.2.2.1)
 |.inr o1094=>
  (Zea F o1094.2.2.2.1).bind λo1095=>
  (Zd (Zcv F) F (o1094.1,o1095,(o1095.length:Int),0,o1094.2.1,o1094.2.2.1,o1094.2.2.2.1,o1094.2.2.2.2)).bind λo1098=>
  match o1098 with
  |.inl o1099=>
   some (o1099.1,o1099.2.1,o1099.2.2.1,o1099.2.2.2.1)
  |.inr o1100=>
   (Zd (Zcw F) F (o1100.1,o1100.2.2.2.1.2.1,(o1100.2.2.2.1.2.1.length:Int),0,o1100.2.1,o1100.2.2.1,o1100.2.2.2.1,o1100.2.2.2.2)).bind λo1102=>
   if(decide (o1102.1 < 0))=true then
    some (0,8,o1102.2.1,o1102.2.2.1)
   else
   some (o1102.1,0,o1102.2.1,o1102.2.2.1)
def ZmL(F:Nat):Fs ya:=⟨91,[.ref 0 [],.v yTx,.v yI],[.var (.agg [.mp 1,.own 2 Zm]) true,.map 178 Zb YM,.log Zm 190],[yTx,yI,(V6 Zb YM),(.sl Zm)],[⟨.ret,[(0,.tup [.v yI,.v yI])],[.var (.agg [.mp 1,.own 2 Zm]) true,.map 178 Zb YM,.log Zm 190],[yI,yI,(V6 Zb YM),(.sl Zm)]⟩],λx=>ZgE F x.1 x.2.1 x.2.2.1 x.2.2.2⟩
def Zfs:Fs ya:=ZmL fuel
theorem ZmM:Zfs.Ok:=fnO ZKA [(0,Zeu),(1,Zev),(2,Zew)] [Qd,Zn7,Zgs] ⟨Qu,ZjB,Zhm,ytt⟩ ⟨Ziw,Zix,Ziy,ytt⟩
abbrev ZKB:Type:=(Int×(List Outpoint)×Int×Int×(List (Outpoint×Zba))×(List ZT)×Tx×(List Outpoint)×(List X5))
def Zcx(F:Nat)(s:ZKB):Option (ZKB⊕(Int×(List (Outpoint×Zba))×(List ZT)×Tx×(List Outpoint)×(List X5))):=
 if(decide (s.2.2.2.1 < s.2.2.1))=true then
  (idx s.2.1 s.2.2.2.1).bind λe1106=>
  Znl (ZiR s.2.2.2.2.1 e1106) (λe1107=>
   if(apB s.2.2.2.2.2.2.2.2.length 1 80)=true then
    let y1108:(List X5):=s.2.2.2.2.2.2.2.2++([(e1106,e1107)]:List X5)
    some (.inl (s.1,s.2.1,s.2.2.1,wi (s.2.2.2.1+1),ZAd s.2.2.2.2.1 e1106,s.2.2.2.2.2.1,s.2.2.2.2.2.2.1,s.2.2.2.2.2.2.2.1,y1108))
   else
   none) (
   if(apB s.2.2.2.2.2.2.2.2.length 1 80)=true then
    let y1109:(List X5):=s.2.2.2.2.2.2.2.2++([(e1106,((0,[]),0))]:List X5)
    some (.inl (s.1,s.2.1,s.2.2.1,wi (s.2.2.2.1+1),ZAd s.2.2.2.2.1 e1106,s.2.2.2.2.2.1,s.2.2.2.2.2.2.1,s.2.2.2.2.2.2.2.1,y1109))
   else
   none)
 else
 some (.inr (s.1,s.2.2.2.2.1,s.2.2.2.2.2.1,s.2.2.2.2.2.2.1,s.2.2.2.2.2.2.2.1,s.2.2.2.2.2.2.2.2))
def ZKC:List ESh:=[.var (.agg [.mp 1,.own 2 Zm]) true,.map 178 Zb YM,.log Zm 190,.var (.v yTx) true,.var (.agg [.own 5 Qf,.v (.sl Zb)]) true,.log Qf 192]
abbrev ZNK:List Ty:=[yI,(.sl Zb),yI,yI,(V6 Zb YM),(.sl Zm),yTx,(.sl Zb),(.sl Qf)]
def Zex:Lp:=⟨[(0,.ref 0 []),(2,.v yI),(4,.ref 3 []),(9,.ref 4 []),(28,.v (.sl Zb)),(29,.v yI),(30,.v yI)],ZKC,ZNK,[⟨.exit 0,[(0,.ref 0 []),(2,.v yI),(4,.ref 3 []),(9,.ref 4 [])],ZKC,[yI,(V6 Zb YM),(.sl Zm),yTx,(.sl Zb),(.sl Qf)]⟩],Zd (Zcx fuel) fuel⟩
def ZMF:HI:={ own:=[35,45,79,82],still:=[6,15,16,17,24,27,70],gst:=[(9,[([0],Qf,192)])]}
theorem Ziz:Zex.okA ya 35 0:=Zq ZMF [] [] trivial
def Zcy(F:Nat)(s:ZKB):Option (ZKB⊕((List (Outpoint×Zba))×(List ZT)×Tx×(List Outpoint)×(List X5))):=
 if(decide (s.2.2.2.1 < s.2.2.1))=true then
  (idx s.2.1 s.2.2.2.1).bind λe1111=>
  (idx s.2.2.2.2.2.2.1.2.1 s.2.2.2.1).bind λe1112=>
  (ZmK F e1112).bind λo1113=>
  some (.inl (s.1,s.2.1,s.2.2.1,wi (s.2.2.2.1+1),ZlT s.2.2.2.2.1 e1111 (o1113,s.1),s.2.2.2.2.2.1,s.2.2.2.2.2.2.1,s.2.2.2.2.2.2.2.1,s.2.2.2.2.2.2.2.2))
 else
 some (.inr (s.2.2.2.2.1,s.2.2.2.2.2.1,s.2.2.2.2.2.2.1,s.2.2.2.2.2.2.2.1,s.2.2.2.2.2.2.2.2))
def Zey:Lp:=⟨[(0,.ref 0 []),(2,.v yI),(4,.ref 3 []),(9,.ref 4 []),(54,.v (.sl Zb)),(55,.v yI),(56,.v yI)],ZKC,ZNK,[⟨.exit 2,[(0,.ref 0 []),(9,.ref 4 [])],ZKC,[(V6 Zb YM),(.sl Zm),yTx,(.sl Zb),(.sl Qf)]⟩],Zd (Zcy fuel) fuel⟩
theorem ZiA:Zey.okA ya 35 1:=Zq ZMF [] [Zj5] ⟨ZoA,ytt⟩
def ZpT(F:Nat)(a1:Tx)(a2:Int)(s1:(List (Outpoint×Zba)))(s2:(List ZT)):Option ((Int×(List (Outpoint×Zba))×(List ZT))):=
 (ZgE F a1 a2 s1 s2).bind λo1103=>
 if(o1103.2.1 !=0)=true then
  some (o1103.2.1,o1103.2.2.1,o1103.2.2.2)
 else
 (Zea F a1).bind λo1104=>
 (Qe F a1).bind λo1105=>
 (Zd (Zcx F) F (a2,o1105,(o1105.length:Int),0,o1103.2.2.1,o1103.2.2.2,a1,o1104,[])).bind λo1110=>
 (Zd (Zcy F) F (o1110.1,o1110.2.2.2.2.1,(o1110.2.2.2.2.1.length:Int),0,o1110.2.1,o1110.2.2.1,o1110.2.2.2.1,o1110.2.2.2.2.1,o1110.2.2.2.2.2)).bind λo1114=>
 if(apB o1114.2.1.length 1 48)=true then
  let y1115:(List ZT):=o1114.2.1++([(o1114.2.2.2.2,o1114.2.2.2.1)]:List ZT)
  some (0,o1114.1,y1115)
 else
 none
def Qg(F:Nat):Fs ya:=⟨35,[.ref 0 [],.v yTx,.v yI],[.var (.agg [.mp 1,.own 2 Zm]) true,.map 178 Zb YM,.log Zm 190],[yTx,yI,(V6 Zb YM),(.sl Zm)],[⟨.ret,[(0,.v yI)],[.var (.agg [.mp 1,.own 2 Zm]) true,.map 178 Zb YM,.log Zm 190],[yI,(V6 Zb YM),(.sl Zm)]⟩],λx=>ZpT F x.1 x.2.1 x.2.2.1 x.2.2.2⟩
def ZoE:Fs ya:=Qg fuel
theorem ZmN:ZoE.Ok:=fnO ZMF [(0,Zex),(1,Zey)] [Zfs,Zgs,Zfc] ⟨ZmM,Zhm,Zhj,ytt⟩ ⟨Ziz,ZiA,ytt⟩
def YG(F:Nat)(s:(Int×Outpoint×Outpoint)):Option ((Int×Outpoint×Outpoint)⊕((Bool×Outpoint×Outpoint)⊕(Outpoint×Outpoint))):=
 if(decide (s.1 < 32))=true then
  if(inB s.1 32)=true then
   (s.2.1.1[s.1.toNat]?).bind λe1116=>
   if(inB s.1 32)=true then
    (s.2.2.1[s.1.toNat]?).bind λe1117=>
    if(e1116 !=e1117)=true then
     if(inB s.1 32)=true then
      (s.2.1.1[s.1.toNat]?).bind λe1118=>
      if(inB s.1 32)=true then
       (s.2.2.1[s.1.toNat]?).bind λe1119=>
       some (.inr (.inl (decide (e1118 < e1119),s.2.1,s.2.2)))
      else
      none
     else
     none
    else
    some (.inl (wi (s.1+1),s.2.1,s.2.2))
   else
   none
  else
  none
 else
 some (.inr (.inr (s.2.1,s.2.2)))
def ZaB:Lp:=⟨[(2,.ref 0 []),(3,.ref 1 []),(5,.v yI)],[.var (.v Zb) true,.var (.v Zb) true],[yI,Zb,Zb],[⟨.ret,[(4,.v .bool)],[.var (.v Zb) true,.var (.v Zb) true],[.bool,Zb,Zb]⟩,⟨.exit 0,[(2,.ref 0 []),(3,.ref 1 [])],[.var (.v Zb) true,.var (.v Zb) true],[Zb,Zb]⟩],Zd (YG fuel) fuel⟩
theorem ZfW:ZaB.okA ya 25 0:=Zq { still:=[4]} [] [] trivial
def XT(F:Nat)(a0:Outpoint)(a1:Outpoint):Option (Bool):=
 (Zd (YG F) F (0,a0,a1)).bind λo1120=>
 match o1120 with
 |.inl o1121=>
  some o1121.1
 |.inr o1122=>
  some (decide (o1122.1.2 < o1122.2.2))
def ZiB(F:Nat):Fs ya:=⟨25,[.v Zb,.v Zb],[],[Zb,Zb],[⟨.ret,[(0,.v .bool)],[],[.bool]⟩],λx=>XT F x.1 x.2⟩
def ZbV:Fs ya:=ZiB fuel
theorem ZiC:ZbV.Ok:=fnO { still:=[4]} [(0,ZaB)] [] trivial ⟨ZfW,ytt⟩
end
end Go.Proofs.YtekdgjajmennjaaGreat
end
section
set_option maxRecDepth 4000
namespace Go.Ev
theorem ZEV{I X:Type}{step:I→Option (I⊕X)}{st:Nat→I}{x:X}(n:Nat)(hs:∀k,k < n→step (st k)=some (.inl (st (k+1))))(he:step (st n)=some (.inr x)):∀(d k f:Nat),k+d=n→d < f→Zd step f (st k)=some x
 |0,k,f+1,h,_=>by
  have e:k=n:=by omega
  subst e;unfold Zd
  rw[he,yf]
 |d+1,k,f+1,h,hf=>by
  unfold Zd;rw[hs k (by omega),yf];exact ZEV n hs he d (k+1) f (by omega) (by omega)
theorem Yp{I X:Type}{step:I→Option (I⊕X)}(n:Nat)(st:Nat→I){x:X}(hs:∀k,k < n→step (st k)=some (.inl (st (k+1))))(he:step (st n)=some (.inr x))(hn:n < 18446744073709551616):
 Zd step fuel (st 0)=some x:=ZEV n hs he n 0 fuel (by omega) (by rw[Zny];exact hn)
theorem ZBL{I X:Type}{step:I→Option (I⊕X)}{Post:X→Prop}(n:Nat)(S:Nat→I→Prop)(hs:∀k s,k < n→S k s→(∃t,step s=some (.inl t)∧S (k+1) t)∨∃x,step s=some (.inr x)∧Post x)
 (he:∀s,S n s→∃x,step s=some (.inr x)∧Post x):∀(d k f:Nat)(s:I),k+d=n→d < f→S k s→∃x,Zd step f s=some x∧Post x
 |0,k,f+1,s,h,_,hS=>by
  have e:k=n:=by omega
  subst e;obtain⟨x,h1,h2⟩:=he s hS;unfold Zd;rw[h1,yf]
  exact⟨x,rfl,h2⟩
 |d+1,k,f+1,s,h,hf,hS=>by
  unfold Zd;rcases hs k s (by omega) hS with⟨t,h1,h2⟩|⟨x,h1,h2⟩
  ·rw[h1,yf];exact ZBL n S hs he d (k+1) f t (by omega) (by omega) h2
  ·rw[h1,yf];exact⟨x,rfl,h2⟩
theorem Vy{I X:Type}{step:I→Option (I⊕X)}(n:Nat)(S:Nat→I→Prop)(Post:X→Prop){i:I}(h0:S 0 i)(hn:n < 18446744073709551616)
 (hs:∀k s,k < n→S k s→(∃t,step s=some (.inl t)∧S (k+1) t)∨∃x,step s=some (.inr x)∧Post x)
 (he:∀s,S n s→∃x,step s=some (.inr x)∧Post x):∃x,Zd step fuel i=some x∧Post x:=ZBL n S hs he n 0 fuel i (by omega) (by rw[Zny];exact hn) h0
theorem YD{a b:Nat}(h:a < b):decide ((a:Int) < (b:Int))=true:=decide_eq_true (by omega)
theorem Z9{a:Nat}:decide ((a:Int) < (a:Int))=false:=decide_eq_false (by omega)
theorem ZP{k:Nat}(h:k < 9223372036854775807):wi ((k:Int)+1)=((k+1:Nat):Int):=by
 rw[Y3 (by omega) (by omega)];omega
theorem ZJ{α:Type}{l:List α}{k:Nat}{y:α}(h:l[k]? =some y):idx l (k:Int)=some y:=Zkq (by omega) (by simpa using h)
theorem Zw7{α:Type}{ls:List (List α)}{k:Nat}{e:List α}(h:ls[k]? =some e):(ls.take (k+1)).flatten=(ls.take k).flatten++e:=by
 rw[List.take_add_one,h];simp
theorem ZEW{α:Type}(ls:List (List α))(k:Nat):(ls.take k).flatten.length≤ls.flatten.length:=by
 have h:=congrArg (λl=>(List.flatten l).length) (ybf k ls);simp only[List.flatten_append,yr] at h;omega
theorem Zbz{α:Type}{l:List α}{k:Nat}{e:α}(h:l[k]? =some e):l.take (k+1)=l.take k++[e]:=by
 rw[List.take_add_one,h];rfl
theorem Zu{α:Type}{l:List α}{k:Nat}(h:k < l.length):∃e,l[k]? =some e∧e∈l:=⟨l[k],yac h,List.getElem_mem h⟩
end Go.Ev
end
section
set_option maxRecDepth 4000
namespace Go.Proofs.YtekdgjajmennjaaGreat
open Go Go.Ev
theorem ZIL{m:Nat}(hm:0 < m):∀(f a n o:Nat),o < m→pwm m f a n o < m
 |0,_,_,o,h=>h
 |f+1,a,n,o,h=>by
  rw[pwm];split
  ·exact h
  ·refine ZIL hm f _ _ _ ?_;split
   ·exact Nat.mod_lt _ hm
   ·exact h
theorem ZMG{m:Nat}(hm:1 < m)(k a n:Nat)(h:n < 2 ^ k):pwm m k a n 1=a ^ n % m:=by
 rw[←yaq (ZIL (by omega) k a n 1 hm),ZyH k a n 1 h,Nat.one_mul]
instance(a:Nat):Decidable (Qx a):=by unfold Qx;infer_instance
theorem ZMH{z:Nat}(h:z < mdl):z < 18446744073709551616:=Nat.lt_trans h (by decide)
theorem ZuN{z:Nat}(h:z < mdl):(yal z).toNat=z:=by
 rw[ybo,yaq (ZMH h)]
theorem ZoF(z:Nat):z % mdl < mdl:=Nat.mod_lt _ (by decide)
theorem ZuO(a n:UInt64):Vr fuel a n=some (yal (a.toNat ^ n.toNat % mdl)):=by
 unfold Vr;rw[ZMG (by decide) 64 a.toNat n.toNat (UInt64.toNat_lt n)];rfl
theorem ZMI{z:Nat}(h:z < mdl):(yal z==1)=decide (z=1):=by
 rw[Bool.eq_iff_iff,beq_iff_eq,decide_eq_true_iff, ←yck,ZuN h];rfl
theorem ZgF(p:UInt64):YE fuel p=some (decide (Qx p.toNat)):=by
 unfold YE;by_cases h1:0 < p.toNat
 ·rw[if_pos (decide_eq_true (show p > 0 from ycs.2 h1))]
  by_cases h2:p.toNat < mdl
  ·rw[if_pos (decide_eq_true (show p < 4611686018427377339 from ycs.2 h2)),ZuO,yf,ZMI (ZoF _)]
   congr 1;rw[decide_eq_decide];exact⟨λh=>⟨h1,h2,h⟩,λh=>h.2.2⟩
  ·rw[if_neg (by rw[decide_eq_true_iff];exact λh=>h2 (ycs.1 h)),decide_eq_false (λh=>h2 h.2.1)]
 ·rw[if_neg (by rw[decide_eq_true_iff];exact λh=>h1 (ycs.1 h)),decide_eq_false (λh=>h1 h.1)]
def tk(p:UInt64):UInt64:=if Qx p.toNat then p else 1
theorem ZIM(p:UInt64):Qx (tk p).toNat:=by
 unfold tk;split
 ·assumption
 ·exact ZDl
theorem Zw8{p:UInt64}(h:Qx p.toNat):tk p=p:=if_pos h
theorem ZuP(p:UInt64):Vs fuel p=some (tk p):=by
 unfold Vs tk;rw[ZgF,yf];by_cases h:Qx p.toNat
 ·rw[if_pos (decide_eq_true h),if_pos h]
 ·rw[if_neg (by rw[decide_eq_true_iff];exact h),if_neg h]
def sc(p:UInt64)(n:Nat):UInt64:=yal ((tk p).toNat ^ n % mdl)
theorem ZzB(p:UInt64)(n:Nat):(sc p n).toNat=(tk p).toNat ^ n % mdl:=ZuN (ZoF _)
theorem ZNL(p:UInt64)(n:Nat):Qx (sc p n).toNat:=by
 rw[ZzB];exact ZMp (ZIM p) n
theorem ZIN(p:UInt64)(n:Nat):sc p (n % ord)=sc p n:=by
 unfold sc;rw[ZKs (ZIM p)]
theorem Zw9(k:UInt64):(k % 2305843009213688669).toNat=k.toNat % ord:=by
 rw[UInt64.toNat_mod];rfl
theorem ZBM(p k:UInt64):Wl fuel p k=some (sc p k.toNat):=by
 unfold Wl;rw[ZuP,yf,ZuO,yf,Zw9, ←ZIN];rfl
def B(n:Nat):UInt64:=sc 4 n
theorem tk4:tk 4=4:=Zw8 ZIw
theorem ZoG(n:Nat):(B n).toNat=4 ^ n % mdl:=by
 unfold B;rw[ZzB,tk4];rfl
theorem ZGb(n:Nat):Qx (B n).toNat:=ZNL 4 n
theorem ZIO(n:Nat):B (n % ord)=B n:=ZIN 4 n
theorem ZOv{n:Nat}(h0:0 < n)(h1:n < ord):B n≠1:=λe=>ZMq h0 h1 (by rw[←ZoG,e];rfl)
theorem Zft(k:UInt64):Yl fuel k=some (B k.toNat):=by
 unfold Yl;rw[ZBM,yf];rfl
def ad(p q:UInt64):UInt64:=yal ((tk p).toNat*(tk q).toNat % mdl)
theorem ZMJ(p q:UInt64):(ad p q).toNat=(tk p).toNat*(tk q).toNat % mdl:=ZuN (ZoF _)
theorem ZIP(a b:UInt64):Z8 fuel a b=some (yal (a.toNat*b.toNat % mdl)):=ZBh a b
def ZkW:List UInt64→Nat→Nat
 |[],o=>o
 |p::r,o=>ZkW r (o*(tk p).toNat % mdl)
theorem ZEX:∀(l:List UInt64)(o:Nat),o < mdl→ZkW l o < mdl
 |[],o,h=>h
 |p::r,o,h=>ZEX r _ (ZoF _)
theorem ZIQ{l:List UInt64}(hl:l.length≤1000):Zd6 fuel l=some (yal (ZkW l 1)):=by
 have key:∀(k:Nat),k≤l.length→ZkW (l.take k) 1 < mdl:=λk _=>ZEX _ _ (by decide)
 have app:∀(l:List UInt64)(p:UInt64)(o:Nat),ZkW (l++[p]) o=ZkW l o*(tk p).toNat % mdl:=by
  intro l
  induction l with
  |nil=>intro p o;rfl
  |cons q r ih=>intro p o;exact ih p _
 unfold Zd6
 rw[show((1:UInt64),l,(l.length:Int),(0:Int))=(λk:Nat=>(yal (ZkW (l.take k) 1),l,(l.length:Int),(k:Int))) 0 from rfl,
  Yp (x:=yal (ZkW l 1)) l.length (λk:Nat=>(yal (ZkW (l.take k) 1),l,(l.length:Int),(k:Int))) ?_ ?_ (by omega),yf]
 ·intro k hk;obtain⟨e,he,_⟩:=Zu hk;unfold Zbu;dsimp only;rw[if_pos (YD hk),ZJ he,yf,ZuP,yf,ZIP,yf,ZP (by omega),Zbz he,app,ZuN (key k (by omega))]
 ·unfold Zbu;dsimp only;rw[if_neg (by rw[Z9];decide),yay]
theorem ZMK(p q:UInt64):Za2 fuel p q=some (ad p q):=by
 unfold Za2;rw[ZIQ (by simp),yf];unfold ad ZkW ZkW ZkW;rw[Nat.one_mul,yaq (ZIM p).2.1]
theorem ZML(p:UInt64):Zht fuel p=some (sc p (ord - 1)):=by
 unfold Zht;rw[ZuP,yf,ZuO,yf];rfl
theorem ZzC{z:Nat}:(yal (z % ord)).toNat=z % ord:=by
 rw[ybo,yaq (Nat.lt_trans (Nat.mod_lt _ (by decide)) (by decide))]
theorem ZuQ{z:Nat}:z % ord < ord:=Nat.mod_lt _ (by decide)
theorem ZKD(a b:UInt64):Zhc fuel a b=some (yal ((a.toNat+b.toNat) % ord)):=by
 unfold Zhc Za3 Zcb;rw[yf,yf,yf];congr 1;have ha:a.toNat % ord < ord:=ZuQ;have hb:b.toNat % ord < ord:=ZuQ;rw[←yck,Zw9,UInt64.toNat_add,Zw9,Zw9,ZzC,yaq (a:=a.toNat % ord+b.toNat % ord) (by unfold ord at*;omega), ←Nat.add_mod]
theorem ZKE(a b:UInt64):Zhd fuel a b=some (yal (a.toNat*b.toNat % ord)):=by
 unfold Zhd Za3 Za4 ZbJ;rw[yf,yf,yf];dsimp only;unfold XD;rw[if_pos (by decide),yf,yf,ybo,ybo,Zw9,Zw9];have h:a.toNat % ord*(b.toNat % ord) < 18446744073709551616*18446744073709551616:=Nat.mul_lt_mul'' (Nat.lt_trans ZuQ (by decide)) (Nat.lt_trans ZuQ (by decide));have hz:a.toNat % ord*(b.toNat % ord) % ord=a.toNat*b.toNat % ord:=(Nat.mul_mod ..).symm;generalize a.toNat % ord*(b.toNat % ord)=z at*;have h2:z / 18446744073709551616 < 18446744073709551616:=(Nat.div_lt_iff_lt_mul (by decide)).2 h;rw[show(2305843009213688669:UInt64).toNat=ord from rfl]
 have e:z / 18446744073709551616 % 2 ^ 64*18446744073709551616+z % 18446744073709551616 % 2 ^ 64=z:=by omega
 rw[e,hz]
theorem Zky(a:UInt64):XC fuel a=some (decide (a.toNat < ord)):=by
 unfold XC;congr 1
def Key(k:UInt64):Prop:=0 < k.toNat∧k.toNat < ord
theorem ZEY{h:List UInt8}(hl:h.length=32):∃k,Wa fuel h=some k∧Key k:=by
 unfold Wa
 obtain⟨x,h1,h2⟩:=Vy (step:=Ve fuel) 32 (λk s=>∃n:UInt64,s=(n,h,(k:Int),h)∧n.toNat < 2305843009213688668) (λx=>x.1.toNat < 2305843009213688668) (i:=((0:UInt64),h,(0:Int),h)) ⟨0,rfl,by decide⟩ (by omega) (by
  rintro k _ hk ⟨n,rfl,hn⟩;left;obtain⟨e,he,_⟩:=Zu (l:=h) (k:=k) (by omega);unfold Ve;dsimp only;rw[if_pos (decide_eq_true (by omega)),ZJ he,yf];unfold XD;rw[if_pos (by decide),yf,ZP (by omega)];refine⟨_,rfl,_,rfl, ?_⟩;rw[show(2305843009213688668:UInt64).toNat=2305843009213688668 from rfl,ybo,yaq]
  ·exact Nat.mod_lt _ (by decide)
  ·exact Nat.lt_trans (Nat.mod_lt _ (by decide)) (by decide)) (by
  rintro _ ⟨n,rfl,hn⟩;unfold Ve;dsimp only;rw[if_neg (ynd (by omega))];exact⟨_,rfl,hn⟩)
 rw[h1,yf];have e:(x.1+1).toNat=x.1.toNat+1:=by rw[UInt64.toNat_add,yaq (by show x.1.toNat+1 < _;omega)];rfl
 exact⟨_,rfl,by rw[e];omega,by rw[e];unfold ord;omega⟩
theorem ZBN{n:Nat}{b:List UInt8}(h:b.length≤1000000):∃o,W6 fuel (n:Int) b=some o∧o.length=b.length+8:=
 ⟨_,Zr2 (by omega),by rw[yr];rfl⟩
theorem ZKF{l:List UInt8}(h:l.length≤900000):∃o,ZaZ fuel l=some o∧o.length=32:=⟨_,ZEU (by omega),Sha.ZNT l⟩
theorem ZEZ{s:ByteArray}{ls:List (List UInt8)}(h1:s.size≤100)(h2:ls.length≤10)(h3:∀l,l∈ls→l.length≤60000):∃o,YO fuel s ls=some o∧o.length=32:=by
 unfold YO;obtain⟨o,p1,p2⟩:=ZBN (n:=s.size) (b:=[]) (by simp)
 have hsl:(Zfz s).length=s.size:=by
  unfold Zfz;rw[Array.length_toList];rfl
 rw[p1,yf,if_pos (XJ (by rw[hsl,p2];simp;omega) (by rw[hsl,p2];simp;omega))];refine Exists.elim (Xv (step:=XF fuel) (λx=>x.1=ls∧x.2.1=(ls.length:Int)∧0≤x.2.2.1∧x.2.2.1≤(ls.length:Int)∧x.2.2.2.2.length≤200+60100*x.2.2.1.toNat) (λx=>((ls.length:Int) - x.2.2.1).toNat) (λx=>x.2.length≤700000) ?_ (ls,(ls.length:Int),(0:Int),yzz,o++Zfz s) ⟨rfl,rfl,Int.le_refl _,by dsimp only;omega,by dsimp only;rw[yr,p2,hsl];simp;omega⟩ (by dsimp only;omega)) ?_
 rotate_left
 ·rintro q ⟨q1,q2⟩;rw[q1,yf];obtain⟨r,r1,r2⟩:=ZKF (l:=q.2) (by omega);rw[r1,yf];exact⟨_,rfl,r2⟩
 ·rintro⟨a,n,i,c,d⟩ ⟨k1,k2,k3,k4,k5⟩;dsimp only at k1 k2 k3 k4 k5;subst k1;subst k2;unfold XF;dsimp only;by_cases hi:i < (a.length:Int)
  ·left;obtain⟨e,he⟩:=QU (l:=a) (i:=i.toNat) (by omega);have hel:=h3 e (ybm he);obtain⟨x,x1,x2⟩:=ZBN (n:=e.length) (b:=d) (by omega);rw[if_pos (decide_eq_true hi),Zkq k3 he,yf,x1,yf,if_pos (XJ (by omega) (by omega)),Y3 (z:=i+1) (by omega) (by omega)];exact⟨_,rfl,⟨rfl,rfl,by dsimp only;omega,by dsimp only;omega,by dsimp only;rw[yr];omega⟩,by dsimp only;omega⟩
  ·right;rw[if_neg (by simpa using hi)];exact⟨_,rfl,by dsimp only;omega⟩
theorem ZOw(m n:Nat):sc (B m) n=B (m*n):=by
 rw[←yck,ZzB,Zw8 (ZGb m),ZoG,ZoG,Nat.pow_mul, ←Nat.pow_mod]
theorem ZNM(z:Nat):B (yal (z % ord)).toNat=B z:=by rw[ZzC,ZIO]
theorem Zxa{ls:List (List UInt8)}(h:ls.flatten.length≤1000000000)(hn:ls.length≤1000):Yn fuel ls=some ls.flatten:=by
 unfold Yn
 rw[show(ls,(0:Int),ls,(ls.length:Int),(0:Int))=(λk:Nat=>(ls,((ls.take k).flatten.length:Int),ls,(ls.length:Int),(k:Int))) 0 from rfl,
  Yp (x:=(ls,(ls.flatten.length:Int))) ls.length (λk:Nat=>(ls,((ls.take k).flatten.length:Int),ls,(ls.length:Int),(k:Int))) ?_ ?_ (by omega),yf]
 ·have hg:Ztu (ls.flatten.length:Int)=some []:=by
   unfold Ztu;rw[if_pos];rw[Bool.and_eq_true];exact⟨decide_eq_true (by omega),decide_eq_true (by unfold Zo;omega)⟩
  dsimp only
  rw[hg,yf,show(ls,(ls.length:Int),(0:Int),([]:List UInt8))=(λk:Nat=>(ls,(ls.length:Int),(k:Int),(ls.take k).flatten)) 0 from rfl,
   Yp (x:=ls.flatten) ls.length (λk:Nat=>(ls,(ls.length:Int),(k:Int),(ls.take k).flatten)) ?_ ?_ (by omega),yf]
  ·intro k hk;obtain⟨e,he,_⟩:=Zu hk;have hf:=Zw7 he;have hl:=ZEW ls (k+1);rw[hf,yr] at hl;unfold YC;dsimp only;rw[if_pos (YD hk),ZJ he,yf,if_pos (XJ (by omega) (by omega)),ZP (by omega),hf]
  ·unfold YC;dsimp only;rw[if_neg (by rw[Z9];decide),yay]
 ·intro k hk;obtain⟨e,he,_⟩:=Zu hk;have hf:=Zw7 he;have hl:=ZEW ls (k+1);rw[hf,yr] at hl;unfold YB;dsimp only;rw[if_pos (YD hk),ZJ he,yf,Y3 (z:=((ls.take k).flatten.length:Int)+(e.length:Int)) (by omega) (by omega),if_neg (ynd (by omega)),ZP (by omega),hf,yr];rfl
 ·unfold YB;dsimp only;rw[if_neg (by rw[Z9];decide),yay]
theorem ZzD{a b:List UInt8}(h:a.length+b.length≤1000000000):V9 fuel a b=some (a++b):=by
 unfold V9;rw[Zxa (by simp;omega) (by simp),yf];simp
def Vm(n:Nat):List UInt8:=if h:n < 128 then[ybk n] else ybk (n % 128+128)::Vm (n / 128)
termination_by n
decreasing_by omega
theorem ZmO{n:Nat}(h:n < 128):Vm n=[ybk n]:=by rw[Vm,dif_pos h]
theorem ZBO{n:Nat}(h:¬n < 128):Vm n=ybk (n % 128+128)::Vm (n / 128):=by rw[Vm,dif_neg h]
theorem ZE0:∀(j n:Nat),n < 128 ^ (j+1)→(Vm n).length≤j+1
 |0,n,h=>by rw[ZmO (by omega)];exact ym _
 |j+1,n,h=>by
  by_cases h0:n < 128
  ·rw[ZmO h0,List.length_singleton];omega
  ·rw[ZBO h0];have:=ZE0 j (n / 128) (by rw[Nat.pow_succ] at h;omega);simp only[List.length_cons];omega
theorem YH{n:Nat}(h:n≤9223372036854775807):(Vm n).length≤9:=ZE0 8 n (by omega)
theorem ZIR{n:Nat}(h:n≤9223372036854775807):Zgm fuel (n:Int)=some (Vm n):=by
 unfold Zgm;refine Exists.elim (Xv (step:=ZcW fuel) (λs=>∃m:Nat,s.1=(m:Int)∧m≤n∧s.2++Vm m=Vm n) (λs=>s.1.toNat) (λx=>∃m:Nat,x.1=(m:Int)∧m < 128∧x.2++Vm m=Vm n) ?_ ((n:Int),([]:List UInt8)) ⟨n,rfl,ym _,rfl⟩ (by dsimp only;omega)) ?_
 ·rintro⟨_,o⟩ ⟨m,rfl,hm,ho⟩;unfold ZcW;dsimp only at ho ⊢;have hr:=congrArg List.length ho;have hl:=YH h;rw[yr] at hr;by_cases h1:m < 128
  ·right;rw[if_neg (ynd (by omega))];exact⟨_,rfl,m,rfl,h1,ho⟩
  ·left;rw[if_pos (decide_eq_true (by omega)),if_pos (XJ (by omega) (by omega))];have e1:Int.tmod (m:Int) 128=((m % 128:Nat):Int):=rfl;have e2:Int.tdiv (m:Int) 128=((m / 128:Nat):Int):=rfl;rw[e1,e2,Y3 (z:=((m % 128:Nat):Int)+128) (by omega) (by omega),Y3 (z:=((m / 128:Nat):Int)) (by omega) (by omega)];refine⟨_,rfl,⟨m / 128,rfl,by omega, ?_⟩,by dsimp only;omega⟩;dsimp only;rw[←ho,ZBO h1,yak];congr 1;rw[List.singleton_append];congr 1;unfold w8;congr 1;omega
 ·rintro⟨_,o⟩ ⟨h1,m,rfl,h2,h3⟩;dsimp only at h3 ⊢;have hr:=congrArg List.length h3;have hl:=YH h;rw[yr] at hr;rw[h1,yf];dsimp only;rw[if_pos (XJ (by omega) (by omega)), ←h3,ZmO h2];congr 3;unfold w8;congr 1;omega
theorem Zhz{b:List UInt8}{z:Int}(h0:0≤z)(h:z≤9223372036854775807)(hb:b.length≤1000000):YP fuel b z=some (b++Vm z.toNat):=by
 obtain⟨n,rfl⟩:=Int.eq_ofNat_of_zero_le h0;have:=YH (n:=n) (by omega);unfold YP;rw[if_neg (ynd (by omega)),ZIR (by omega),yf,ZzD (by omega),yf,yci]
theorem ZDD{b h:List UInt8}(hb:b.length≤1000000)(hh:h.length≤1000000):XN fuel b h=some (b++h):=by
 unfold XN;rw[ZzD (by omega),yf]
theorem ZBP{b c:List UInt8}(hb:b.length≤1000000)(hc:c.length≤1000000):Q6 fuel b c=some (b++(Vm c.length++c)):=by
 have:=YH (n:=c.length) (by omega);unfold Q6;rw[ZIR (by omega),yf,Zxa (by simp;omega) (by simp),yf];simp
def ZoH(l:List UInt8)(n k:Nat):List UInt8:=l.take k++yab (n - k) 0
theorem ZGc{l:List UInt8}{n k:Nat}(h:k < l.length)(h2:l.length≤n):(ZoH l n k)[k]? =some 0:=by
 unfold ZoH;have h3:(l.take k).length=k:=by simp;omega
 rw[List.getElem?_append_right (by omega),h3,List.getElem?_replicate];simp;omega
theorem ZGd{l:List UInt8}{n k:Nat}{d:UInt8}(hx:l[k]? =some d)(h2:l.length≤n):(ZoH l n k).set k d=ZoH l n (k+1):=by
 have h:k < l.length:=(yo.1 hx).1;have h3:(l.take k).length=k:=by simp;omega
 unfold ZoH;rw[Zbz hx,List.set_append_right _ _ (by omega),h3,Nat.sub_self];have e:n - k=(n - (k+1))+1:=by omega
 rw[e,List.replicate_succ];simp
theorem ZGe{l:List UInt8}{n:Nat}(h:l.length=n):ZoH l n n=l:=by
 unfold ZoH;rw[←h];simp
def Zv1(n:Nat):List UInt8:=(List.range 8).map λi=>ybk (n / 2 ^ (56 - 8*i))
theorem Zj6(n:Nat):(Zv1 n).length=8:=by simp[Zv1]
theorem ZIS(n:Nat){k:Nat}(hk:k < 8):(Zv1 n)[k]? =some (ybk (n / 2 ^ (56 - 8*k))):=by simp[Zv1,hk]
theorem ZIT(x:UInt64){m:Nat}:w8 ((ZC x m).toNat:Int)=ybk (x.toNat / 2 ^ m):=by
 unfold w8 ZC;have h:x.toNat / 2 ^ m < 18446744073709551616:=Nat.lt_of_le_of_lt (Nat.div_le_self ..) (UInt64.toNat_lt _);rw[ybo,yaq h];apply UInt8.toNat_inj.1;rw[UInt8.toNat_ofNat',UInt8.toNat_ofNat'];omega
theorem Zxb{b:List UInt8}(x:UInt64)(hb:b.length≤1000000):Vt fuel b x=some (b++Zv1 x.toNat):=by
 unfold Vt
 rw[show(b,x,(0:Int),([0,0,0,0,0,0,0,0]:List UInt8))=(λk:Nat=>(b,x,(k:Int),ZoH (Zv1 x.toNat) 8 k)) 0 from rfl,
  Yp (x:=(b,Zv1 x.toNat)) 8 (λk:Nat=>(b,x,(k:Int),ZoH (Zv1 x.toNat) 8 k)) ?_ ?_ (by omega),yf]
 ·dsimp only;rw[ZzD (by rw[Zj6];omega),yf]
 ·intro k hk;unfold VY;dsimp only;have hl:=Zj6 x.toNat
  rw[if_pos (decide_eq_true (by omega)),Y3 (z:=8*(k:Int)) (by omega) (by omega),Y3 (z:=56 - 8*(k:Int)) (by omega) (by omega),if_pos (decide_eq_true (by omega)),if_pos (Y6 (by omega) (by omega)),
   yci,ZGc (by omega) (by omega),yf,ZP (by omega)]
  have e:min (56 - 8*(k:Int)).toNat 64=56 - 8*k:=by omega
  rw[e,ZIT,ZGd (ZIS _ hk) (by omega)]
 ·unfold VY;dsimp only;rw[if_neg (by simp),ZGe (Zj6 _)]
def ZGf(b:Zr):Prop:=b.1.length≤12∧0≤b.2.1∧b.2.1≤1048576∧0≤b.2.2.1∧b.2.2.1≤1048576
def ZIU(b:Zr):Prop:=(∀p,p∈b.1→Qx p.toNat)∧(b.2.2.2≠0→Qx b.2.2.2.toNat)
def LockOk(l:Lock):Prop:=0 < l.length∧l.length≤4∧∀b,b∈l→ZGf b
def LockPt(l:Lock):Prop:=∀b,b∈l→ZIU b
theorem ZDE(p:UInt64):WG fuel p=some (!decide (Qx p.toNat)):=by
 unfold WG;rw[ZgF,yf]
theorem ZIV{p:UInt64}(h:Qx p.toNat):WG fuel p=some false:=by rw[ZDE,decide_eq_true h];rfl
theorem ZNN{l:List UInt64}(hl:l.length≤12)(h:∀p,p∈l→Qx p.toNat):WH fuel l=some false:=by
 unfold WH WQ
 rw[show(l,(l.length:Int),(0:Int))=(λk:Nat=>(l,(l.length:Int),(k:Int))) 0 from rfl,
  Yp (x:=.inr ()) l.length (λk:Nat=>(l,(l.length:Int),(k:Int))) ?_ ?_ (by omega),yf]
 ·rfl
 ·intro k hk;obtain⟨e,he,hm⟩:=Zu hk;unfold Yh;dsimp only;rw[if_pos (YD hk),ZJ he,yf,ZIV (h e hm),yf,ZP (by omega)];rfl
 ·unfold Yh;dsimp only;rw[if_neg (by rw[Z9];decide)]
theorem Zxc{z:Int}(h0:0≤z)(h1:z≤1048576):Wp fuel z=some true:=by
 unfold Wp;rw[if_pos (decide_eq_true h0),decide_eq_true h1]
theorem ZuR{l:Lock}(h:LockOk l)(hp:LockPt l):YJ fuel l=some true:=by
 unfold YJ;obtain⟨h0,h1,h2⟩:=h
 rw[show(l,(l.length:Int),(0:Int),l)=(λk:Nat=>(l,(l.length:Int),(k:Int),l)) 0 from rfl,
  Yp (x:=.inr l) l.length (λk:Nat=>(l,(l.length:Int),(k:Int),l)) ?_ ?_ (by omega),yf]
 ·dsimp only;rw[if_pos (decide_eq_true (by omega)),decide_eq_true (by omega)]
 ·intro k hk;obtain⟨e,he,hm⟩:=Zu hk;obtain⟨e1,e2,e3,e4,e5⟩:=h2 e hm;obtain⟨p1,p2⟩:=hp e hm;unfold Xq;dsimp only;rw[if_pos (YD hk),ZJ he,yf,if_neg (ynd (by omega)),ZNN e1 p1,yf,Zxc e2 e3,yf,Zxc e4 e5,yf,ZP (by omega),if_neg (by decide),if_neg (by decide),if_neg (by decide)];by_cases hz:e.2.2.2=0
  ·rw[if_neg (by simp[hz])]
  ·rw[if_pos (by simp[hz]),ZIV (p2 hz),yf,if_neg (by decide)]
 ·unfold Xq;dsimp only;rw[if_neg (by rw[Z9];decide)]
def ZDF(t:Tx):Prop:=(∀x,x∈t.1→x.1.1.length=32)∧t.2.2≤9223372036854775807
def ZNO(x:In):Prop:=0≤x.1.2∧x.1.2 < 64∧0≤x.2.1∧x.2.1 < 4∧x.2.2.1.length≤12
def ZuS(o:Out):Prop:=0≤o.1∧o.1≤1125899906842624∧LockOk o.2∧LockPt o.2
def ZMM(t:Tx):Prop:=0 < t.1.length∧t.1.length≤64∧t.2.1.length≤64∧0≤t.2.2∧(∀x,x∈t.1→ZNO x)∧∀o,o∈t.2.1→ZuS o
def cat{α:Type}(f:α→List UInt8)(l:List α):List UInt8:=(l.map f).flatten
theorem Zj7{α:Type}{f:α→List UInt8}{l:List α}{k:Nat}{e:α}(h:l[k]? =some e):cat f (l.take (k+1))=cat f (l.take k)++f e:=by
 unfold cat
 rw[Zbz h,yaj,List.flatten_append];simp
theorem ZIW{α:Type}{f:α→List UInt8}{l:List α}{e:α}:cat f (e::l)=f e++cat f l:=rfl
theorem ZE1{α:Type}{f:α→List UInt8}{c:Nat}:∀{l:List α},(∀x,x∈l→(f x).length≤c)→(cat f l).length≤l.length*c
 |[],_=>by simp[cat]
 |e::l,h=>by
  have h1:=h e (List.mem_cons_self ..);have h2:=ZE1 (l:=l) λx hx=>h x (List.mem_cons_of_mem _ hx);rw[ZIW,yr,List.length_cons,Nat.succ_mul];omega
theorem ZgG{α:Type}{f:α→List UInt8}{c n:Nat}{l:List α}(h:∀x,x∈l→(f x).length≤c)(hn:l.length≤n)(k:Nat):(cat f (l.take k)).length≤n*c:=by
 refine Nat.le_trans (ZE1 λx hx=>h x (ybn hx)) (Nat.mul_le_mul_right c ?_);rw[yae];omega
def ZIX(p:UInt64):List UInt8:=Zv1 p.toNat
def brF(b:Zr):List UInt8:=Vm b.1.length++(cat ZIX b.1++(Vm b.2.1.toNat++(Vm b.2.2.1.toNat++Zv1 b.2.2.2.toNat)))
def ZuT(l:Lock):List UInt8:=Vm l.length++cat brF l
theorem ZuU{l:List UInt64}(h:l.length≤12)(k:Nat):(cat ZIX (l.take k)).length≤96:=ZgG (c:=8) (λx _=>Nat.le_of_eq (Zj6 _)) h k
theorem ZE2{b:Zr}(h:b.1.length≤12∧0≤b.2.1∧b.2.1≤1048576∧0≤b.2.2.1∧b.2.2.1≤1048576):(brF b).length≤131:=by
 have h1:=ZuU h.1 b.1.length;rw[yay] at h1;have h2:=YH (n:=b.1.length) (by omega);have h3:=YH (n:=b.2.1.toNat) (by omega);have h4:=YH (n:=b.2.2.1.toNat) (by omega);have h5:=Zj6 b.2.2.2.toNat
 unfold brF;simp only[yr];omega
theorem Zxd{l:Lock}(h:LockOk l):(ZuT l).length≤533:=by
 have h1:=ZgG (f:=brF) (c:=131) (λx hx=>ZE2 (h.2.2 x hx)) h.2.1 l.length;rw[yay] at h1;have h2:=YH (n:=l.length) (by have:=h.2.1;omega);unfold ZuT;rw[yr];omega
theorem ZGg{c:List UInt8}(hc:c.length≤100000){bs:List Zr}{n i:Int}{ks:List UInt64}{l:Lock}{e:Zr}(hk:ks.length≤12):
 Zd (Vi fuel) fuel (c,bs,n,i,ks,(ks.length:Int),(0:Int),l,e)=some (c++cat ZIX ks,bs,n,i,l,e):=by
 rw[show(c,bs,n,i,ks,(ks.length:Int),(0:Int),l,e)=(λk:Nat=>(c++cat ZIX (ks.take k),bs,n,i,ks,(ks.length:Int),(k:Int),l,e)) 0 by simp[cat]];refine Yp ks.length (λk:Nat=>(c++cat ZIX (ks.take k),bs,n,i,ks,(ks.length:Int),(k:Int),l,e)) ?_ ?_ (by omega)
 ·intro k hk2;obtain⟨e,he,_⟩:=Zu hk2;have hl:=ZuU hk k;unfold Vi;dsimp only;rw[if_pos (YD hk2),ZJ he,yf,Zxb _ (by rw[yr];omega),yf,ZP (by omega),Zj7 he,yak];rfl
 ·unfold Vi;dsimp only;rw[if_neg (by rw[Z9];decide),yay]
theorem ZDG{l:Lock}(h:LockOk l)(hp:LockPt l):ZbN fuel l=some (ZuT l):=by
 unfold ZbN;have h0:=h.2.1;have h9:=YH (n:=l.length) (by omega);rw[ZuR h hp,yf,if_neg (by decide),Zhz (by omega) (by omega) (by simp),yf,List.nil_append,yci]
 rw[show(Vm l.length,l,(l.length:Int),(0:Int),l)=(λk:Nat=>(Vm l.length++cat brF (l.take k),l,(l.length:Int),(k:Int),l)) 0 by simp[cat],
  Yp (x:=(ZuT l,l)) l.length (λk:Nat=>(Vm l.length++cat brF (l.take k),l,(l.length:Int),(k:Int),l)) ?_ ?_ (by omega),yf]
 ·intro k hk;obtain⟨e,he,hm⟩:=Zu hk;obtain⟨e1,e2,e3,e4,e5⟩:=h.2.2 e hm;have hl:=ZgG (f:=brF) (c:=131) (λx hx=>ZE2 (h.2.2 x hx)) h.2.1 k;have hr:=YH (n:=e.1.length) (by omega);have hr2:=YH (n:=e.2.1.toNat) (by omega);have hr3:=YH (n:=e.2.2.1.toNat) (by omega);have hk8:=ZuU e1 e.1.length;rw[yay] at hk8;unfold Q7;dsimp only
  rw[if_pos (YD hk),ZJ he,yf,Zhz (by omega) (by omega) (by rw[yr];omega),yf,yci,
   ZGg (by simp only[yr];omega) e1,yf]
  dsimp only
  rw[Zhz e2 (by omega) (by simp only[yr];omega),yf,Zhz e4 (by omega) (by simp only[yr];omega),yf,
   Zxb _ (by simp only[yr];omega),yf,ZP (by omega),Zj7 he]
  unfold brF;simp only[yak]
 ·unfold Q7;dsimp only;rw[if_neg (by rw[Z9];decide),yay];rfl
def inF(x:In):List UInt8:=x.1.1++Vm x.1.2.toNat
def ZBQ(o:Out):List UInt8:=Vm o.1.toNat++(Vm (ZuT o.2).length++ZuT o.2)
def ZfX(t:Tx):List UInt8:=Vm t.1.length++(cat inF t.1++(Vm t.2.1.length++(cat ZBQ t.2.1++Vm t.2.2.toNat)))
theorem ZKG{x:In}(h:x.1.1.length=32)(k:ZNO x):(inF x).length≤41:=by
 have:=YH (n:=x.1.2.toNat) (by have:=k.2.1;omega);unfold inF;rw[yr];omega
theorem ZIY{o:Out}(k:ZuS o):(ZBQ o).length≤551:=by
 have h1:=Zxd k.2.2.1;have h2:=YH (n:=o.1.toNat) (by have:=k.2.1;omega);have h3:=YH (n:=(ZuT o.2).length) (by omega);unfold ZBQ;simp only[yr];omega
theorem ZBR{t:Tx}(hw:ZDF t)(h:ZMM t):Zkw fuel t=some (ZfX t)∧(ZfX t).length≤40000:=by
 obtain⟨ins,outs,note⟩:=t;obtain⟨w2,w3⟩:=hw;obtain⟨h1,h2,h3,h4,h5,h6⟩:=h;dsimp only at w2 w3 h1 h2 h3 h4 h5 h6;have li:=λk=>ZgG (f:=inF) (c:=41) (λx hx=>ZKG (w2 x hx) (h5 x hx)) h2 k;have lo:=λk=>ZgG (f:=ZBQ) (c:=551) (λx hx=>ZIY (h6 x hx)) h3 k;have li1:=li ins.length;have lo1:=lo outs.length;rw[yay] at li1 lo1;have r1:=YH (n:=ins.length) (by omega);have r2:=YH (n:=outs.length) (by omega);have r3:=YH (n:=note.toNat) (by omega);refine⟨?_,by unfold ZfX;simp only[yr];omega⟩;unfold Zkw;dsimp only;rw[Zhz (by omega) (by omega) (by simp),yf,List.nil_append,yci]
 rw[show(Vm ins.length,ins,(ins.length:Int),(0:Int),(ins,outs,note))=(λk:Nat=>(Vm ins.length++cat inF (ins.take k),ins,(ins.length:Int),(k:Int),(ins,outs,note))) 0 by simp[cat],
  Yp (x:=(Vm ins.length++cat inF ins,(ins,outs,note))) ins.length (λk:Nat=>(Vm ins.length++cat inF (ins.take k),ins,(ins.length:Int),(k:Int),(ins,outs,note))) ?_ ?_ (by omega),yf]
 ·dsimp only;rw[Zhz (by omega) (by omega) (by rw[yr];omega),yf,yci];generalize hp:Vm ins.length++cat inF ins++Vm outs.length=pre;have hpl:pre.length≤3000:=by rw[←hp];simp only[yr];omega
  rw[show(pre,outs,(outs.length:Int),(0:Int),(ins,outs,note))=(λk:Nat=>(pre++cat ZBQ (outs.take k),outs,(outs.length:Int),(k:Int),(ins,outs,note))) 0 by simp[cat],
   Yp (x:=(pre++cat ZBQ outs,(ins,outs,note))) outs.length (λk:Nat=>(pre++cat ZBQ (outs.take k),outs,(outs.length:Int),(k:Int),(ins,outs,note))) ?_ ?_ (by omega),yf]
  ·dsimp only;rw[Zhz h4 w3 (by rw[yr];omega),yf, ←hp];unfold ZfX;simp only[yak]
  ·intro k hk;obtain⟨e,he,hm⟩:=Zu hk;have hlk:=lo k;have hok:=h6 e hm;have hlo:=hok.2.2.1;have hll:=Zxd hlo;have hrl:=YH (n:=e.1.toNat) (by have:=hok.2.1;omega);unfold ZcZ;dsimp only
   rw[if_pos (YD hk),ZJ he,yf,Zhz hok.1 (by have:=hok.2.1;omega) (by rw[yr];omega),yf,ZDG hok.2.2.1 hok.2.2.2,yf,
    ZBP (by simp only[yr];omega) (by omega),yf,ZP (by omega),Zj7 he]
   unfold ZBQ;simp only[yak]
  ·unfold ZcZ;dsimp only;rw[if_neg (by rw[Z9];decide),yay]
 ·intro k hk;obtain⟨e,he,hm⟩:=Zu hk;have hlk:=li k;have h32:=w2 e hm;have hok:=h5 e hm;unfold ZcY;dsimp only
  rw[if_pos (YD hk),ZJ he,yf,ZDD (by rw[yr];omega) (by omega),yf,Zhz hok.1 (by have:=hok.2.1;omega) (by simp only[yr];omega),yf,
   ZP (by omega),Zj7 he]
  unfold inF;simp only[yak]
 ·unfold ZcY;dsimp only;rw[if_neg (by rw[Z9];decide),yay]
def Zaq(l:List Out):Int:=(l.map (·.1)).sum
theorem ZgH{l:List Out}{k:Nat}{e:Out}(h:l[k]? =some e):Zaq (l.take (k+1))=Zaq (l.take k)+e.1:=by
 unfold Zaq;rw[Zbz h,yaj,List.sum_append];simp
theorem ZIZ:∀{l:List Int},(∀x,x∈l→0≤x)→0≤l.sum
 |[],_=>by simp
 |x::r,h=>by
  have:=ZIZ (l:=r) λy hy=>h y (List.mem_cons_of_mem _ hy);have:=h x (List.mem_cons_self ..);rw[List.sum_cons];omega
theorem ZE3{l:List Out}(h:∀o,o∈l→ZuS o)(k:Nat):0≤Zaq (l.take k)∧Zaq (l.take k)≤Zaq l:=by
 have h1:∀(l:List Out),(∀o,o∈l→ZuS o)→0≤Zaq l:=λl h=>ZIZ λx hx=>by
  obtain⟨o,ho,rfl⟩:=ybu.1 hx;exact(h o ho).1
 refine⟨h1 _ λo ho=>h o (ybn ho), ?_⟩;have:=h1 (l.drop k) λo ho=>h o (List.mem_of_mem_drop ho)
 have e:Zaq l=Zaq (l.take k)+Zaq (l.drop k):=by
  unfold Zaq;rw[←List.sum_append, ←yaj,ybf]
 omega
def z32:List UInt8:=yzz
theorem ZNP{k:UInt64}(h:Key k):B k.toNat≠1:=ZOv h.1 h.2
def Ahd(a b:Cond):Prop:=a.1 < b.1∨a.1=b.1∧a.2.1 < b.2.1
instance(a b:Cond):Decidable (Ahd a b):=by unfold Ahd;infer_instance
theorem ZhA(n:Nat):(Zrh n).length=8:=rfl
def tgF(l:List UInt8):List UInt8:=Zrh l.length++l
def ZI0(s:ByteArray)(ls:List (List UInt8)):List UInt8:=Zrh s.size++Zfz s++cat tgF ls
theorem ZI1(s:ByteArray):(Zfz s).length=s.size:=by
 unfold Zfz;rw[Array.length_toList];rfl
theorem ZE4{ls:List (List UInt8)}(h2:ls.length≤10)(h3:∀l,l∈ls→l.length≤60000)(k:Nat):(cat tgF (ls.take k)).length≤10*60008:=
 ZgG (c:=60008) (λl hl=>by have:=h3 l hl;unfold tgF;rw[yr,ZhA];omega) h2 k
theorem ZI2{s:ByteArray}{ls:List (List UInt8)}(h1:s.size≤100)(h2:ls.length≤10)(h3:∀l,l∈ls→l.length≤60000):YO fuel s ls=some (Sha.sha (ZI0 s ls)):=by
 unfold YO;have hs:=ZI1 s;have p1:W6 fuel (s.size:Int) []=some (Zrh s.size):=Zr2 (b:=[]) (by simp);rw[p1,yf,if_pos (XJ (by rw[hs,ZhA];omega) (by rw[hs,ZhA];omega))]
 have e:=Yp (step:=XF fuel) ls.length (λk:Nat=>(ls,(ls.length:Int),(k:Int),z32,Zrh s.size++Zfz s++cat tgF (ls.take k))) (x:=(z32,ZI0 s ls)) (by
  intro k hk;obtain⟨e,he,hm⟩:=Zu hk;have:=h3 e hm;have hc:=ZE4 h2 h3 k;unfold XF;dsimp only;rw[if_pos (decide_eq_true (by omega)),ZJ he,yf,Zr2 (by simp only[yr,ZhA,hs];omega),yf,if_pos (XJ (by simp only[yr,ZhA,hs];omega) (by simp only[yr,ZhA,hs];omega)),ZP (by omega),Zj7 he];simp only[tgF,yak]) (by
  unfold XF;dsimp only;rw[if_neg (by rw[Z9];decide),yay];rfl) (by omega)
 rw[show cat tgF (ls.take 0)=[] from rfl,List.append_nil] at e
 have e:Zd (XF fuel) fuel (ls,(ls.length:Int),(0:Int),yzz,Zrh s.size++Zfz s)=_:=e;have hc:=ZE4 h2 h3 ls.length;rw[yay] at hc;rw[e,yf,ZEU (by show(ZI0 s ls).length≤_;unfold ZI0;simp only[yr,ZhA,hs];omega),yf]
theorem Zr4(p q:Prop)[Decidable p][Decidable q]{b:Bool}(h:b=decide (p∧q)):(if decide p=true then some (decide q) else some false)=some b:=by
 subst h;by_cases h1:p
 ·rw[if_pos (decide_eq_true h1)];by_cases h2:q
  ·rw[decide_eq_true h2,decide_eq_true ⟨h1,h2⟩]
  ·rw[decide_eq_false h2,decide_eq_false λh=>h2 h.2]
 ·rw[if_neg (by rw[decide_eq_true_iff];exact h1),decide_eq_false λh=>h1 h.1]
theorem ZMN(z a b:Int):YW fuel z a b=some (decide (a≤z∧z≤b)):=Zr4 _ _ rfl
def Zao(t:Terms):Prop:=(0≤t.1∧t.1≤65536)∧(1≤t.2.2.1∧t.2.2.1≤4096)∧(0≤t.2.2.2.1∧t.2.2.2.1≤16)∧(t.1≤t.2.1∧t.2.1≤1125899906842624)∧(1≤t.2.2.2.2.1∧t.2.2.2.2.1≤1125899906842624)∧(0≤t.2.2.2.2.2∧t.2.2.2.2.2≤1125899906842624)
instance(t:Terms):Decidable (Zao t):=by unfold Zao;infer_instance
theorem Zkz{p q:Prop}[Decidable p][Decidable q][Decidable (p∧q)]{x:Option Bool}(h:x=some (decide q)):(if decide p=true then x else some false)=some (decide (p∧q)):=by
 rw[h];exact Zr4 p q (by congr)
theorem ZI3(t:Terms):ZcJ fuel t=some (decide (Zao t)):=by
 unfold ZcJ;simp only[ZMN,yf];exact Zkz (Zkz (Zkz (Zkz (Zkz rfl))))
def pts(b:Basics):List UInt64:=[b.1,b.2.1,b.2.2.1,b.2.2.2.1,b.2.2.2.2]
def Zv2(p:UInt64):Prop:=Qx p.toNat∧p≠1
instance(p:UInt64):Decidable (Zv2 p):=by unfold Zv2;infer_instance
def Zcz(b:Basics):Prop:=∀p,p∈pts b→Zv2 p
instance(b:Basics):Decidable (Zcz b):=by unfold Zcz;infer_instance
theorem ZI4(p:UInt64):VV fuel p=some (!decide (Zv2 p)):=by
 unfold VV;rw[ZgF,yf];by_cases h:p=1
 ·rw[if_pos (beq_iff_eq.2 h),decide_eq_false (p:=Zv2 p) λk=>k.2 h];rfl
 ·rw[if_neg (by rw[beq_iff_eq];exact h)];by_cases k:Qx p.toNat
  ·rw[decide_eq_true k,decide_eq_true (p:=Zv2 p) ⟨k,h⟩]
  ·rw[decide_eq_false k,decide_eq_false (p:=Zv2 p) λq=>k q.1]
theorem ZGh(b:Basics):Zbk fuel b=some (decide (Zcz b)):=by
 unfold Zbk Zl7 ZdJ
 obtain⟨x,h1,h2⟩:=Vy (step:=XE fuel) 5 (λk s=>s=(pts b,(5:Int),(k:Int))∧∀j p,j < k→(pts b)[j]? =some p→Zv2 p) (λx=>(∃j:Nat,x=.inl (j:Int)∧¬Zcz b)∨x=.inr ()∧Zcz b) (i:=(pts b,((pts b).length:Int),(0:Int))) ⟨rfl,λj p hj=>by omega⟩ (by omega) (by
  rintro k _ hk ⟨rfl,hj⟩;obtain⟨p,hp,hm⟩:=Zu (l:=pts b) (k:=k) hk;unfold XE;dsimp only;rw[if_pos (decide_eq_true (by omega)),ZJ hp,yf,ZI4,yf,ZP (by omega)];by_cases h:Zv2 p
  ·left;rw[decide_eq_true h,if_neg (by decide)];refine⟨_,rfl,rfl,λj q hjk hq=> ?_⟩;by_cases e:j=k
   ·subst e;rw[hp] at hq;cases hq;exact h
   ·exact hj j q (by omega) hq
  ·right;rw[decide_eq_false h,if_pos (by decide)];exact⟨_,rfl,.inl ⟨k,rfl,λhall=>h (hall p hm)⟩⟩) (by
  rintro _ ⟨rfl,hj⟩;unfold XE;dsimp only;rw[if_neg (ynd (by omega))];refine⟨_,rfl,.inr ⟨rfl,λp hp=> ?_⟩⟩;obtain⟨j,hj1,hj2⟩:=ycc hp;exact hj j p hj1 (by rw[yac hj1,hj2]))
 rw[show([b.1,b.2.1,b.2.2.1,b.2.2.2.1,b.2.2.2.2]:List UInt64)=pts b from rfl,h1,yf]
 rcases h2 with⟨j,rfl,h⟩|⟨rfl,h⟩
 ·dsimp only;rw[yf,yf,decide_eq_true (show(j:Int) ≥ 0 by omega),decide_eq_false h];rfl
 ·dsimp only;rw[yf,yf,decide_eq_true h];rfl
structure ChWf(ch:Chan):Prop where
 b:ch.2.2.1.length=2
 t:ch.2.2.2.1.length=2
 a0: -9223372036854775808≤ch.2.1
 a1:ch.2.1≤9223372036854775807
 n0: -9223372036854775808≤ch.1.2
 n1:ch.1.2≤9223372036854775807
 o0: -9223372036854775808≤ch.2.2.2.2
 o1:ch.2.2.2.2≤9223372036854775807
def ZI5(ch:Chan):Prop:=∀i:Nat,i < 2→∀t b,ch.2.2.2.1[i]? =some t→ch.2.2.1[i]? =some b→Zao t∧Zcz b
open Classical in
theorem ZE5{α:Type}{l:List α}(h:l.length=2):∃a b,l=[a,b]:=by
 match l,h with
 |[a,b],_=>exact⟨a,b,rfl⟩
theorem ZI6{a:Outpoint}{A:Int}{b0 b1:Basics}{t0 t1:Terms}{op:Int}:ZI5 (a,A,[b0,b1],[t0,t1],op)↔(Zao t0∧Zcz b0)∧Zao t1∧Zcz b1:=by
 constructor
 ·intro h;exact⟨h 0 (by omega) t0 b0 rfl rfl,h 1 (by omega) t1 b1 rfl rfl⟩
 ·rintro⟨h0,h1⟩ i hi t b ht hb
  match i,hi with
  |0,_=>cases ht;cases hb;exact h0
  |1,_=>cases ht;cases hb;exact h1
theorem ZBS(ch:Chan)(l:List Terms){k:Nat}(hk:k < 2){t:Terms}{b:Basics}(ht:l[k]? =some t)(hb:ch.2.2.1[k]? =some b):
 WF fuel (l,(k:Int),ch)=some (if Zao t∧Zcz b then .inl (l,((k+1:Nat):Int),ch) else .inr (.inl (1,ch))):=by
 unfold WF;dsimp only;rw[if_pos (decide_eq_true (by omega)),ZJ ht,yf,ZI3,yf,if_pos (Y6 (by omega) (by omega)),yci,hb,yf,ZGh,yf,ZP (by omega)];by_cases h1:Zao t
 ·rw[decide_eq_true h1,if_neg (by decide)];by_cases h2:Zcz b
  ·rw[decide_eq_true h2,if_neg (by decide),if_pos ⟨h1,h2⟩]
  ·rw[decide_eq_false h2,if_pos (by decide),if_neg λh=>h2 h.2]
 ·rw[decide_eq_false h1,if_pos (by decide),if_neg λh=>h1 h.1]
theorem ZI7(ch:Chan)(l:List Terms){t0 t1:Terms}{b0 b1:Basics}(ht:l=[t0,t1])(hb:ch.2.2.1=[b0,b1]):
 Zd (WF fuel) fuel (l,(0:Int),ch)=some (if(Zao t0∧Zcz b0)∧Zao t1∧Zcz b1 then .inr ch else .inl (1,ch)):=by
 subst ht;have s0:=ZBS ch [t0,t1] (k:=0) (by omega) (t:=t0) (b:=b0) rfl (by rw[hb];rfl);have s1:=ZBS ch [t0,t1] (k:=1) (by omega) (t:=t1) (b:=b1) rfl (by rw[hb];rfl);by_cases h0:Zao t0∧Zcz b0
 ·rw[if_pos h0] at s0;by_cases h1:Zao t1∧Zcz b1
  ·rw[if_pos h1] at s1;rw[if_pos ⟨h0,h1⟩];refine Yp 2 (λk:Nat=>([t0,t1],(k:Int),ch)) ?_ ?_ (by omega)
   ·intro k hk;rcases (show k=0∨k=1 by omega) with rfl|rfl
    ·exact s0
    ·exact s1
   ·unfold WF;rfl
  ·rw[if_neg h1] at s1;rw[if_neg λh=>h1 h.2];exact Yp 1 (λk:Nat=>([t0,t1],(k:Int),ch)) (λk hk=>by rw[show k=0 by omega];exact s0) s1 (by omega)
 ·rw[if_neg h0] at s0;rw[if_neg λh=>h0 h.1];exact Yp 0 (λk:Nat=>([t0,t1],(k:Int),ch)) (λk hk=>absurd hk (by omega)) s0 (by omega)
theorem ZBT(X:BitVec 64):(X&&& ~~~(1#64))=0#64↔X=0#64∨X=1#64:=by
 constructor
 ·intro h
  have hb:∀i:Nat,1≤i→X.getLsbD i=false:=by
   intro i hi;have:=congrArg (λy=>BitVec.getLsbD y i) h;simp only[BitVec.getLsbD_and,BitVec.getLsbD_not,BitVec.getLsbD_zero] at this;by_cases h64:i < 64
   ·have h1:(1#64).getLsbD i=false:=by
     rw[BitVec.getLsbD_one];simp;omega
    rw[h1] at this;simpa[h64] using this
   ·exact BitVec.getLsbD_of_ge X i (by omega)
  cases h0:X.getLsbD 0 with
  |false=>
   left;apply BitVec.eq_of_getLsbD_eq;intro i hi
   match i with
   |0=>rw[h0];simp
   |j+1=>rw[hb (j+1) (by omega)];simp
  |true=>
   right;apply BitVec.eq_of_getLsbD_eq;intro i hi
   match i with
   |0=>rw[h0];rfl
   |j+1=>
    rw[hb (j+1) (by omega),BitVec.getLsbD_one];simp
 ·rintro(rfl|rfl) <;> rfl
theorem ZGi{op:Int}(o0: -9223372036854775808≤op)(o1:op≤9223372036854775807):((bits .andNot .i64 op 1)!=0)= !decide (0≤op∧op≤1):=by
 have e:bits .andNot .i64 op 1=IntKind.i64.wrap ((ybw 64 op&&& ~~~(1#64)).toNat:Int):=rfl;have hlt:=(ybw 64 op&&& ~~~(1#64)).isLt
 have hw:∀n:Nat,n < 18446744073709551616→(IntKind.i64.wrap (n:Int)=0↔n=0):=by
  intro n hn;have e2:IntKind.i64.wrap (n:Int)=if(decide ((n:Int) % 18446744073709551616 ≥ 9223372036854775808))=true then(n:Int) % 18446744073709551616 - 18446744073709551616 else(n:Int) % 18446744073709551616:=rfl
  rw[e2];by_cases hm:(n:Int) % 18446744073709551616 ≥ 9223372036854775808
  ·rw[if_pos (decide_eq_true hm)];omega
  ·rw[if_neg (by rw[decide_eq_true_iff];exact hm)];omega
 have hx:(ybw 64 op&&& ~~~(1#64)).toNat=0↔0≤op∧op≤1:=by
  rw[show((ybw 64 op&&& ~~~(1#64)).toNat=0↔(ybw 64 op&&& ~~~(1#64))=0#64) from⟨λh=>BitVec.eq_of_toNat_eq h,λh=>by rw[h];rfl⟩,ZBT]
  have hn:(ybw 64 op).toNat=(op % 18446744073709551616).toNat:=by rw[BitVec.toNat_ofInt];rfl
  constructor
  ·rintro(h|h)
   ·have:=congrArg BitVec.toNat h;rw[hn] at this;simp at this;omega
   ·have:=congrArg BitVec.toNat h;rw[hn] at this;simp at this;omega
  ·rintro⟨h0,h1⟩;rcases (show op=0∨op=1 by omega) with rfl|rfl
   ·exact .inl rfl
   ·exact .inr rfl
 rw[e];by_cases h:0≤op∧op≤1
 ·rw[decide_eq_true h,(hw _ hlt).2 (hx.2 h)];rfl
 ·rw[decide_eq_false h];exact bne_iff_ne.2 λk=>h (hx.1 ((hw _ hlt).1 k))
theorem ZMO{ch:Chan}(w:ChWf ch):∃e:Int,ZdM fuel ch=some e∧(e=0→(1≤ch.2.1∧ch.2.1≤1125899906842624)∧(0≤ch.1.2∧ch.1.2≤63)∧(ch.2.2.2.2=0∨ch.2.2.2.2=1)∧ZI5 ch):=by
 obtain⟨b0,b1,hb⟩:=ZE5 w.b;obtain⟨t0,t1,ht⟩:=ZE5 w.t;have a0:=w.a0;have o0:=w.o0;have o1:=w.o1;obtain⟨⟨id,no⟩,A,bs,ts,op⟩:=ch;dsimp only at hb ht a0 o0 o1;subst hb;subst ht;have hop:=ZGi o0 o1;unfold ZdM;dsimp only;by_cases h1:1≤A∧A≤1125899906842624
 ·rw[if_neg (show¬decide (A < 1)=true by rw[decide_eq_true_iff];omega),if_neg (show¬decide (A > 1125899906842624)=true by rw[decide_eq_true_iff];omega)];by_cases h2:0≤no∧no≤63
  ·rw[if_neg (show¬decide (no < 0)=true by rw[decide_eq_true_iff];omega),if_neg (show¬decide (no ≥ 64)=true by rw[decide_eq_true_iff];omega)];rw[hop];by_cases h3:0≤op∧op≤1
   ·rw[decide_eq_true h3,if_neg (by decide),ZI7 _ _ rfl rfl,yf];by_cases h4:(Zao t0∧Zcz b0)∧Zao t1∧Zcz b1
    ·rw[if_pos h4];dsimp only;obtain⟨_,_,_,q0,_⟩:=h4.1.1;obtain⟨p0,_⟩:=h4.1.1;obtain⟨_,_,_,q1,_⟩:=h4.2.1;obtain⟨p1,_⟩:=h4.2.1
     have n0:ZdL fuel t0.2.1 t1.2.1=if t0.2.1+t1.2.1≤1125899906842624 then some (t0.2.1+t1.2.1,true) else some (0,false):=by
      unfold ZdL ZdK;rw[if_pos (decide_eq_true (show t0.2.1 ≥ 0 by omega)),if_pos (decide_eq_true (show t1.2.1 ≥ 0 by omega)),yf,yf,decide_eq_true (show t0.2.1≤1125899906842624 by omega),decide_eq_true (show t1.2.1≤1125899906842624 by omega),if_neg (by decide),if_neg (by decide),Y3 (z:=1125899906842624 - t1.2.1) (by omega) (by omega),Y3 (z:=t0.2.1+t1.2.1) (by omega) (by omega)];by_cases h:t0.2.1+t1.2.1≤1125899906842624
      ·rw[if_neg (ynd (by omega)),if_pos h]
      ·rw[if_pos (decide_eq_true (by omega)),if_neg h]
     rw[ybh,List.getElem?_cons_succ,ybh,yf,yf,n0];refine⟨if t0.2.1+t1.2.1 > A then 10 else 0, ?_,λ_=>⟨h1,h2,by omega,ZI6.2 h4⟩⟩
     ·by_cases h5:t0.2.1+t1.2.1≤1125899906842624
      ·rw[if_pos h5,yf,if_neg (show¬(!true)=true by decide)];by_cases h6:t0.2.1+t1.2.1 > A
       ·rw[if_pos (decide_eq_true h6),if_pos h6]
       ·rw[if_neg (by rw[decide_eq_true_iff];exact h6),if_neg h6]
      ·rw[if_neg h5,yf,if_pos (show(!false)=true by decide),if_pos (by omega)]
    ·rw[if_neg h4];exact⟨1,rfl,λh=>absurd h (by decide)⟩
   ·rw[decide_eq_false h3,if_pos (by decide)];exact⟨1,rfl,λh=>absurd h (by decide)⟩
  ·refine⟨1, ?_,λh=>absurd h (by decide)⟩;by_cases h:no < 0
   ·rw[if_pos (decide_eq_true h)]
   ·rw[if_neg (by rw[decide_eq_true_iff];exact h),if_pos (decide_eq_true (by omega))]
 ·refine⟨1, ?_,λh=>absurd h (by decide)⟩;by_cases h:A < 1
  ·rw[if_pos (decide_eq_true h)]
  ·rw[if_neg (by rw[decide_eq_true_iff];exact h),if_pos (decide_eq_true (by omega))]
def ZLf(c:Cond):Prop:=(0≤c.1∧c.1≤1)∧(1≤c.2.1∧c.2.1≤1048576)∧(1≤c.2.2.1∧c.2.2.1≤1125899906842624)∧(1≤c.2.2.2.2∧c.2.2.2.2≤1048576)∧Zv2 c.2.2.2.1
instance(c:Cond):Decidable (ZLf c):=by unfold ZLf;infer_instance
def ZLg(a b:Cond):Prop:=a.1 < b.1∨a.1=b.1∧a.2.1 < b.2.1
instance(a b:Cond):Decidable (ZLg a b):=by unfold ZLg;infer_instance
def AllUp(n:Nat)(ok:Nat→Prop):Prop:=∀k,k < n→ok k
open Classical in
open Classical in
open Classical in
theorem ZGj{l:List UInt64}(hl:l.length≤9223372036854775807):∃b,WH fuel l=some b∧(b=false→∀p,p∈l→Qx p.toNat):=by
 unfold WH WQ
 obtain⟨x,h1,h2⟩:=Vy (step:=Yh fuel) l.length (λk s=>s=(l,(l.length:Int),(k:Int))∧∀j p,j < k→l[j]? =some p→Qx p.toNat) (λx=>(∃k:Nat,x=.inl (k:Int))∨x=.inr ()∧∀p,p∈l→Qx p.toNat) (i:=(l,(l.length:Int),(0:Int))) ⟨rfl,λj p hj=>by omega⟩ (by omega) (by
  rintro k _ hk ⟨rfl,hj⟩;obtain⟨e,he,_⟩:=Zu hk;unfold Yh;dsimp only;rw[if_pos (YD hk),ZJ he,yf,ZDE,yf,ZP (by omega)];by_cases hp:Qx e.toNat
  ·rw[decide_eq_true hp];left;refine⟨_,rfl,rfl,λj p h3 h4=> ?_⟩;by_cases h5:j < k
   ·exact hj j p h5 h4
   ·have:j=k:=by omega
    subst this;rw[he] at h4;cases h4;exact hp
  ·rw[decide_eq_false hp];right;exact⟨_,rfl,.inl ⟨k,rfl⟩⟩) (by
  rintro _ ⟨rfl,hj⟩;unfold Yh;dsimp only;rw[if_neg (by rw[Z9];decide)];refine⟨_,rfl,.inr ⟨rfl,λp hp=> ?_⟩⟩;obtain⟨j,hj1,hj2⟩:=ycc hp;exact hj j p hj1 (by rw[yac hj1,hj2]))
 rw[h1,yf];rcases h2 with⟨k,rfl⟩|⟨rfl,h2⟩
 ·dsimp only;rw[yf];refine⟨_,rfl,λh=> ?_⟩;exact absurd (of_decide_eq_false h) (by omega)
 ·exact⟨_,rfl,λ_=>h2⟩
def LockWf(l:Lock):Prop:=l.length≤9223372036854775807∧∀b,b∈l→b.1.length≤9223372036854775807
theorem Zq1(z:Int):∃b,Wp fuel z=some b∧(b=true→0≤z∧z≤1048576):=by
 unfold Wp;by_cases h:z ≥ 0
 ·rw[if_pos (decide_eq_true h)];exact⟨_,rfl,λh2=>⟨h,of_decide_eq_true h2⟩⟩
 ·rw[if_neg (by rw[decide_eq_true_iff];exact h)];exact⟨_,rfl,λh2=>by cases h2⟩
theorem Zez{l:Lock}(hl:LockWf l):∃b,YJ fuel l=some b∧(b=true↔LockOk l∧LockPt l):=by
 have key:∃b,YJ fuel l=some b∧(b=true→LockOk l∧LockPt l):=by
  unfold YJ;obtain⟨h0,h1⟩:=hl
  obtain⟨x,hx,hp⟩:=Vy (step:=Xq fuel) l.length (λk s=>s=(l,(l.length:Int),(k:Int),l)∧∀j b,j < k→l[j]? =some b→ZGf b∧ZIU b)
   (λx=>x=.inl (false,l)∨(x=.inr l∧∀b,b∈l→ZGf b∧ZIU b)) (i:=(l,(l.length:Int),(0:Int),l)) ⟨rfl,λj b hj=>by omega⟩ (by omega) (by
   rintro k _ hk ⟨rfl,hj⟩;obtain⟨e,he,hm⟩:=Zu hk
   have hnext:(ZGf e∧ZIU e)→∀j b,j < k+1→l[j]? =some b→ZGf b∧ZIU b:=by
    intro hE j b h2 h3;by_cases h4:j < k
    ·exact hj j b h4 h3
    ·have:j=k:=by omega
     subst this;rw[he] at h3;cases h3;exact hE
   unfold Xq;dsimp only;rw[if_pos (YD hk),ZJ he,yf];by_cases k1:(e.1.length:Int) > 12
   ·right;rw[if_pos (decide_eq_true k1)];exact⟨_,rfl,.inl rfl⟩
   rw[if_neg (by rw[decide_eq_true_iff];exact k1)];obtain⟨b,hb,hbp⟩:=ZGj (h1 e hm);rw[hb,yf]
   cases b with
   |true=>right;exact⟨_,rfl,.inl rfl⟩
   |false=>
    obtain⟨c,hc,hc2⟩:=Zq1 e.2.1;obtain⟨d,hd,hd2⟩:=Zq1 e.2.2.1;rw[if_neg (by decide),hc,yf,hd,yf]
    cases c with
    |false=>right;exact⟨_,rfl,.inl rfl⟩
    |true=>
     cases d with
     |false=>right;exact⟨_,rfl,.inl rfl⟩
     |true=>
      have hn:=λhz:e.2.2.2≠0→Qx e.2.2.2.toNat=>hnext ⟨⟨by omega,(hc2 rfl).1,(hc2 rfl).2,(hd2 rfl).1,(hd2 rfl).2⟩,hbp rfl,hz⟩;rw[if_neg (by decide),if_neg (by decide),ZP (by omega)];by_cases hz:e.2.2.2=0
      ·rw[if_neg (by rw[hz];decide)];left;exact⟨_,rfl,rfl,hn λh=>absurd hz h⟩
      ·rw[if_pos (by simp[hz]),ZDE,yf];by_cases hpt:Qx e.2.2.2.toNat
       ·rw[decide_eq_true hpt];left;exact⟨_,rfl,rfl,hn λ_=>hpt⟩
       ·rw[decide_eq_false hpt];right;exact⟨_,rfl,.inl rfl⟩) (by
   rintro _ ⟨rfl,hj⟩;unfold Xq;dsimp only;rw[if_neg (by rw[Z9];decide)];refine⟨_,rfl,.inr ⟨rfl,λb hb=> ?_⟩⟩;obtain⟨j,hj1,hj2⟩:=ycc hb;exact hj j b hj1 (by rw[yac hj1,hj2]))
  rw[hx,yf];rcases hp with rfl|⟨rfl,hp⟩
  ·exact⟨_,rfl,λh=>by cases h⟩
  ·dsimp only;by_cases h2:(l.length:Int) > 0
   ·rw[if_pos (decide_eq_true h2)];refine⟨_,rfl,λh3=>⟨⟨by omega, ?_,λb hb=>(hp b hb).1⟩,λb hb=>(hp b hb).2⟩⟩;have:=of_decide_eq_true h3;omega
   ·rw[if_neg (by rw[decide_eq_true_iff];exact h2)];exact⟨_,rfl,λh=>by cases h⟩
 obtain⟨b,h1,h2⟩:=key;refine⟨b,h1,h2,λh=> ?_⟩;rw[ZuR h.1 h.2] at h1;exact(ybe h1).symm
open Classical in
theorem Zxe{I X:Type}{step:I→Option (I⊕X)}(n:Nat)(st:Nat→I)(ok:Nat→Prop)(good:X)(bad:Nat→X)
 (h1:∀k,k < n→(∀j,j < k→ok j)→ok k→step (st k)=some (.inl (st (k+1)))) (h2:∀k,k < n→(∀j,j < k→ok j)→¬ok k→step (st k)=some (.inr (bad k))) (he:(∀j,j < n→ok j)→step (st n)=some (.inr good)) (hn:n < 18446744073709551616):
 ∃x,Zd step fuel (st 0)=some x∧(AllUp n ok∧x=good∨¬AllUp n ok∧∃k,x=bad k):=by
 refine Vy (step:=step) n (λk s=>s=st k∧∀j,j < k→ok j) _ (i:=st 0) ⟨rfl,λj h=>by omega⟩ hn ?_ ?_
 ·rintro k _ hk ⟨rfl,hj⟩;by_cases h:ok k
  ·left;refine⟨_,h1 k hk hj h,rfl,λj hjk=> ?_⟩;by_cases e:j=k
   ·rw[e];exact h
   ·exact hj j (by omega)
  ·right;exact⟨_,h2 k hk hj h,.inr ⟨λq=>h (q k hk),k,rfl⟩⟩
 ·rintro _ ⟨rfl,hj⟩;exact⟨_,he hj,.inl ⟨hj,rfl⟩⟩
theorem Zxf{K V:Type}[DecidableEq K](k:K)(v:V)(k':K):∀m:List (K×V),ZiR (ZlT m k v) k'=if k'=k then some v else ZiR m k'
 |[]=>rfl
 |q::m=>by
  have ih:=Zxf k v k' m;unfold ZlT;by_cases h:k=q.1
  ·rw[if_pos h];unfold ZiR;by_cases h2:k'=k
   ·rw[if_pos h2,if_pos h2]
   ·rw[if_neg h2,if_neg h2,if_neg (by rw[←h];exact h2)]
  ·rw[if_neg h];unfold ZiR;by_cases h3:k'=q.1
   ·rw[if_pos h3,if_pos h3,if_neg (by rw[h3];exact λq=>h q.symm)]
   ·rw[if_neg h3,if_neg h3,ih]
def Zfu(l:List In):List (Outpoint×Bool):=l.foldl (λm x=>ZlT m x.1 true) []
theorem ZE6{l:List In}{k:Nat}{x:In}(h:l[k]? =some x):Zfu (l.take (k+1))=ZlT (Zfu (l.take k)) x.1 true:=by
 rw[Zbz h,Zfu,List.foldl_append];rfl
theorem ZuV(l:List In)(p:Outpoint):∀k,k≤l.length→(ZiR (Zfu (l.take k)) p=some true∧(∃j y,j < k∧l[j]? =some y∧y.1=p))∨(ZiR (Zfu (l.take k)) p=none∧∀j y,j < k→l[j]? =some y→y.1≠p)
 |0,_=>.inr ⟨rfl,λj y h=>by omega⟩
 |k+1,hk=>by
  obtain⟨x,hx,_⟩:=Zu (l:=l) (k:=k) (by omega);rw[ZE6 hx,Zxf];by_cases h:p=x.1
  ·rw[if_pos h];exact .inl ⟨rfl,k,x,by omega,hx,h.symm⟩
  ·rw[if_neg h];rcases ZuV l p k (by omega) with⟨h1,j,y,h2,h3,h4⟩|⟨h1,h2⟩
   ·exact .inl ⟨h1,j,y,by omega,h3,h4⟩
   ·refine .inr ⟨h1,λj y h3 h4=> ?_⟩;by_cases e:j=k
    ·subst e;rw[hx] at h4;cases h4;exact λq=>h q.symm
    ·exact h2 j y (by omega) h4
def WitIn(w:Q4):Prop:=0≤w.1∧w.1 < 4∧w.2.1.length≤12
instance(w:Q4):Decidable (WitIn w):=by unfold WitIn;infer_instance
theorem ZDH(w:Q4):Qt fuel w=some (decide (WitIn w)):=by
 unfold Qt;refine(Zkz (q:=w.1 < 4∧(w.2.1.length:Int)≤12) (Zr4 _ _ rfl)).trans (congrArg some (decide_eq_decide.2 ?_));unfold WitIn;omega
def InAt(l:List In)(k:Nat):Prop:=∀x,l[k]? =some x→(0≤x.1.2∧x.1.2 < 64)∧WitIn x.2∧∀j y,j < k→l[j]? =some y→y.1≠x.1
theorem Zxg(t:Tx)(hl:t.1.length≤100):∃x,Zd (Vv fuel) fuel (t.1,(t.1.length:Int),(0:Int),t,([]:List (Outpoint×Bool)))=some x∧(AllUp t.1.length (InAt t.1)∧x=.inr (t,Zfu t.1)∨¬AllUp t.1.length (InAt t.1)∧∃k:Nat,x=.inl (false,t,Zfu (t.1.take k))):=by
 refine Zxe t.1.length (λk:Nat=>(t.1,(t.1.length:Int),(k:Int),t,Zfu (t.1.take k))) (InAt t.1) (Sum.inr (t,Zfu t.1)) (λk=>Sum.inl (false,t,Zfu (t.1.take k))) ?_ ?_ ?_ (by omega)
 ·intro k hk _ hok;obtain⟨x,hx,_⟩:=Zu hk;obtain⟨o1,o2,o3⟩:=hok x hx;unfold Vv;dsimp only;rw[if_pos (YD hk),ZJ hx,yf];rcases ZuV t.1 x.1 k (by omega) with⟨_,j,y,h2,h3,h4⟩|⟨h1,_⟩
  ·exact absurd h4 (o3 j y h2 h3)
  ·rw[h1];unfold Znl;dsimp only;rw[if_neg (show¬decide (x.1.2 < 0)=true by rw[decide_eq_true_iff];omega),if_neg (show¬decide (x.1.2 ≥ 64)=true by rw[decide_eq_true_iff];omega),ZDH,yf,decide_eq_true o2,if_neg (by decide),ZP (by omega),ZE6 hx]
 ·intro k hk _ hno;obtain⟨x,hx,_⟩:=Zu hk;unfold Vv;dsimp only;rw[if_pos (YD hk),ZJ hx,yf];rcases ZuV t.1 x.1 k (by omega) with⟨h1,_⟩|⟨h1,h2⟩
  ·rw[h1];unfold Znl;dsimp only;rw[if_pos rfl]
  ·rw[h1];unfold Znl;dsimp only;by_cases c1:x.1.2 < 0
   ·rw[if_pos (decide_eq_true c1)]
   ·rw[if_neg (show¬decide (x.1.2 < 0)=true by rw[decide_eq_true_iff];exact c1)];by_cases c2:x.1.2 ≥ 64
    ·rw[if_pos (decide_eq_true c2)]
    ·rw[if_neg (show¬decide (x.1.2 ≥ 64)=true by rw[decide_eq_true_iff];exact c2),ZDH,yf];by_cases c3:WitIn x.2
     ·refine absurd ?_ hno;intro x' hx';rw[hx] at hx';cases hx';exact⟨⟨by omega,by omega⟩,c3,h2⟩
     ·rw[decide_eq_false c3,if_pos (by decide)]
 ·intro _;unfold Vv;dsimp only;rw[if_neg (by rw[Z9];decide),yay]
theorem ZBU(z:Int):ZdK fuel z=some (decide (0≤z∧z≤1125899906842624)):=Zr4 (z ≥ 0) (z≤1125899906842624) rfl
theorem ZBV{a b:Int}(h0:0≤a)(h1:a≤1125899906842624):ZdL fuel a b=some (if(0≤b∧b≤1125899906842624)∧a+b≤1125899906842624 then(a+b,true) else(0,false)):=by
 unfold ZdL;rw[ZBU,yf,decide_eq_true (p:=0≤a∧a≤1125899906842624) ⟨h0,h1⟩,if_neg (show¬(!true)=true by decide),ZBU,yf];by_cases hb:0≤b∧b≤1125899906842624
 ·rw[decide_eq_true hb,if_neg (show¬(!true)=true by decide),Y3 (z:=1125899906842624 - b) (by omega) (by omega),Y3 (z:=a+b) (by omega) (by omega)];by_cases h:a+b≤1125899906842624
  ·rw[if_neg (show¬decide (a > 1125899906842624 - b)=true by rw[decide_eq_true_iff];omega),if_pos ⟨hb,h⟩]
  ·rw[if_pos (show decide (a > 1125899906842624 - b)=true from decide_eq_true (by omega)),if_neg λq=>h q.2]
 ·rw[decide_eq_false hb,if_pos (show(!false)=true by decide),if_neg λq=>hb q.1]
structure TxL(t:Tx):Prop where
 ins:t.1.length≤70
 outs:t.2.1.length≤70
 locks:∀o,o∈t.2.1→LockWf o.2
def CoinOk(o:Out):Prop:=(0≤o.1∧o.1≤1125899906842624)∧LockOk o.2∧LockPt o.2
def OutAt(l:List Out)(k:Nat):Prop:=∀o,l[k]? =some o→CoinOk o∧Zaq (l.take (k+1))≤1125899906842624
def ZMP(l:List Out)(k:Nat):Prop:=∀o,l[k]? =some o→CoinOk o
theorem Zr5{l:List Out}:∀k,k≤l.length→(∀j,j < k→ZMP l j)→0≤Zaq (l.take k)∧Zaq (l.take k)≤k*1125899906842624
 |0,_,_=>by simp[Zaq]
 |k+1,hk,h=>by
  obtain⟨o,ho,_⟩:=Zu (l:=l) (k:=k) (by omega);have ih:=Zr5 k (by omega) λj hj=>h j (by omega);have hc:=(h k (by omega) o ho).1;rw[ZgH ho];omega
theorem ZuW{t:Tx}(hl:TxL t)(m:List (Outpoint×Bool)):∃x,Zd (Vw fuel) fuel ((0:Int),t.2.1,(t.2.1.length:Int),(0:Int),t,m)=some x∧(AllUp t.2.1.length (OutAt t.2.1)∧x=.inr (t,m)∨¬AllUp t.2.1.length (OutAt t.2.1)∧∃k:Nat,x=.inl (false,t,m)):=by
 have hw:=hl.outs
 have sm:∀k,k≤t.2.1.length→(∀j,j < k→OutAt t.2.1 j)→0≤Zaq (t.2.1.take k)∧Zaq (t.2.1.take k)≤1125899906842624:=by
  intro k hk h;refine⟨(Zr5 k hk λj hj o ho=>(h j hj o ho).1).1, ?_⟩
  cases k with
  |zero=>simp[Zaq]
  |succ k=>
   obtain⟨o,ho,_⟩:=Zu (l:=t.2.1) (k:=k) (by omega);exact(h k (by omega) o ho).2
 refine Zxe t.2.1.length (λk:Nat=>(Zaq (t.2.1.take k),t.2.1,(t.2.1.length:Int),(k:Int),t,m)) (OutAt t.2.1) (Sum.inr (t,m)) (λ_=>Sum.inl (false,t,m)) ?_ ?_ ?_ (by omega)
 ·intro k hk hj hok;obtain⟨o,ho,hm⟩:=Zu hk;obtain⟨⟨o1,o2⟩,o3⟩:=hok o ho;rw[ZgH ho] at o3;obtain⟨s0,s1⟩:=sm k (by omega) hj;obtain⟨b,b1,b2⟩:=Zez (hl.locks o hm);unfold Vw;dsimp only;rw[if_pos (YD hk),ZJ ho,yf,ZBV s0 s1,if_pos ⟨o1,o3⟩,yf,if_neg (by simp),b1,yf,b2.2 o2,if_neg (by decide),ZP (by omega),ZgH ho]
 ·intro k hk hj hno;obtain⟨o,ho,hm⟩:=Zu hk;obtain⟨s0,s1⟩:=sm k (by omega) hj;obtain⟨b,b1,b2⟩:=Zez (hl.locks o hm);unfold Vw;dsimp only;rw[if_pos (YD hk),ZJ ho,yf,ZBV s0 s1,yf];by_cases c:(0≤o.1∧o.1≤1125899906842624)∧Zaq (t.2.1.take k)+o.1≤1125899906842624
  ·rw[if_pos c,if_neg (by simp),b1,yf]
   cases b with
   |true=>
    refine absurd ?_ hno;intro o' ho';rw[ho] at ho';cases ho';rw[ZgH ho]
    exact⟨⟨c.1,b2.1 rfl⟩,c.2⟩
   |false=>rw[if_pos (by decide)]
  ·rw[if_neg c,if_pos (by simp)]
 ·intro _;unfold Vw;dsimp only;rw[if_neg (by rw[Z9];decide)]
noncomputable def nmF(t:Tx):List UInt8:=Sha.sha (ZI0 ZLd [ZfX t])
theorem Zxh{t:Tx}(h:(ZfX t).length≤40000):∀x,x∈[ZfX t]→x.length≤60000:=λx hx=>by
 rw[yao.1 hx];omega
theorem ZmP(p:UInt64):∃o,Qs fuel p=some o∧o.length=8:=by
 unfold Qs
 obtain⟨x,h1,h2⟩:=Vy (step:=Vf fuel) 8 (λk s=>∃c,s=(p,(8:Int),(k:Int),c)∧c.length=8) (λx=>x.length=8) (i:=(p,(8:Int),(0:Int),([0,0,0,0,0,0,0,0]:List UInt8))) ⟨_,rfl,rfl⟩ (by omega) (by
  rintro k _ hk ⟨c,rfl,hc⟩;left;obtain⟨e,he,_⟩:=Zu (l:=c) (k:=k) (by omega);unfold Vf;dsimp only;rw[if_pos (decide_eq_true (by omega)),Y3 (z:=8*(k:Int)) (by omega) (by omega),Y3 (z:=56 - 8*(k:Int)) (by omega) (by omega),if_pos (decide_eq_true (by omega)),if_pos (Y6 (by omega) (by omega)),yci,Nat.zero_add,he,yf,ZP (by omega)];exact⟨_,rfl,_,rfl,by rw[List.length_set];exact hc⟩) (by
  rintro _ ⟨c,rfl,hc⟩;unfold Vf;dsimp only;rw[if_neg (ynd (by omega))];exact⟨_,rfl,hc⟩)
 rw[h1,yf];exact⟨_,rfl,by simp[h2]⟩
theorem ZI8(r p:UInt64){m:List UInt8}(hm:m.length=32):∃k,Wx fuel r p m=some k:=by
 unfold Wx;obtain⟨a,a1,a2⟩:=ZmP r;obtain⟨b,b1,b2⟩:=ZmP p
 obtain⟨c,c1,c2⟩:=ZEZ (s:=ZLb) (ls:=[a,b,m]) (by decide) (by simp) (by
  intro l hl;simp only[List.mem_cons,List.not_mem_nil,or_false] at hl;rcases hl with rfl|rfl|rfl <;> omega)
 obtain⟨k,k1,k2⟩:=ZEY c2;rw[a1,yf,b1,yf,c1,yf,k1,yf];exact⟨_,rfl⟩
theorem tk1:tk 1=1:=Zw8 ZDl
theorem ZMQ(n:Nat):sc 1 n=1:=by
 rw[←yck,ZzB,tk1,show(1:UInt64).toNat=1 from rfl,Nat.one_pow]
 rfl
theorem ZMR(p:UInt64)(h:Qx p.toNat):ad p 1=p:=by
 rw[←yck,ZMJ,Zw8 h,tk1];show p.toNat*1 % mdl=_;rw[Nat.mul_one,yaq h.2.1]
instance(k:UInt64):Decidable (Key k):=by unfold Key;infer_instance
theorem ZKH(k:UInt64):Zku fuel k=some (decide (Key k)):=by
 unfold Zku;rw[Zky,yf];by_cases h:k.toNat < ord
 ·rw[if_pos (decide_eq_true h)];congr 1;by_cases h0:k=0
  ·subst h0;rw[decide_eq_false (by unfold Key;exact λh=>absurd h.1 (by decide))];rfl
  ·have:0 < k.toNat:=by
    rcases ybt k.toNat with h1|h1
    ·exact absurd (yck.1 h1) h0
    ·exact h1
   rw[decide_eq_true (p:=Key k) ⟨this,h⟩];exact bne_iff_ne.2 h0
 ·rw[if_neg (by rw[decide_eq_true_iff];exact h),decide_eq_false (λhk=>h hk.2)]
theorem ZKI{k:UInt64}(hk:Key k){m:List UInt8}(hm:m.length=32):∃s,Qc fuel k m=some s∧Zae fuel (B k.toNat) m s=some true:=by
 obtain⟨a,a1,a2⟩:=ZmP k
 obtain⟨c,c1,c2⟩:=ZEZ (s:=ZLc) (ls:=[a,m]) (by decide) (by simp) (by
  intro l hl;simp only[List.mem_cons,List.not_mem_nil,or_false] at hl;rcases hl with rfl|rfl <;> omega)
 obtain⟨n,n1,n2⟩:=ZEY c2;obtain⟨x,x1⟩:=ZI8 (B n.toNat) (B k.toNat) hm;refine⟨(B n.toNat,yal ((n.toNat+(yal (x.toNat*k.toNat % ord)).toNat) % ord)), ?_, ?_⟩
 ·unfold Qc;rw[ZKH,yf,decide_eq_true hk,if_neg (by decide),a1,yf,c1,yf,n1,yf];unfold Zhf;rw[Zft,yf,ZMK,ZMR _ (ZGb _),yf,Zft,yf,x1,yf,ZKE,yf,ZKD,yf];rfl
 ·unfold Zae Zhu
  have hr:XC fuel (yal ((n.toNat+(yal (x.toNat*k.toNat % ord)).toNat) % ord))=some true:=by
   rw[Zky,ZzC,decide_eq_true ZuQ]
  dsimp only;rw[if_neg (by rw[beq_iff_eq];exact ZNP hk),ZgF,decide_eq_true (ZGb _),yf,if_neg (by decide),ZgF,decide_eq_true (show Qx (1:UInt64).toNat from ZDl),yf,if_neg (by decide),ZgF,decide_eq_true (ZGb _),yf,if_neg (by decide),hr,yf,if_neg (by decide),x1,yf,ZBM,yf,ZML,yf,ZIQ (by simp),yf,Zft,yf,yf]
  refine congrArg some ?_;rw[beq_iff_eq,ZNM,ZzC,ZOw, ←yck,ZoG]
  have e1:(tk (sc 1 (ord - 1))).toNat=1:=by
   rw[ZMQ,tk1];rfl
  unfold ZkW ZkW ZkW ZkW;rw[ZuN (ZoF _),Zw8 (ZGb _),Zw8 (ZGb _),e1,Nat.one_mul,Nat.mul_one,ZoG,ZoG,Nat.mod_mod,Nat.mod_mod, ←Nat.mul_mod, ←Nat.pow_add];rw[Nat.mul_comm k.toNat, ←ZoG, ←ZoG, ←ZIO,Nat.add_mod_mod,ZIO]
theorem ite_some{α:Type}{c:Prop}[Decidable c]{a b:Option α}(h1:∃x,a=some x)(h2:∃x,b=some x):∃x,(if c then a else b)=some x:=by
 split
 ·exact h1
 ·exact h2
theorem set_same{α:Type}{l:List α}{k:Nat}{e:α}(h:l[k]? =some e):l.set k e=l:=by
 apply List.ext_getElem?;intro j;by_cases hj:j=k
 ·subst hj;rw[List.getElem?_set_self (yo.1 h).1,h]
 ·rw[List.getElem?_set_ne (Ne.symm hj)]
theorem ZDI{t:Tx}(hl:TxL t)(h1:0 < t.1.length)(h2:t.1.length≤64)(h3:t.2.1.length≤64)(h4:0≤t.2.2)(hI:AllUp t.1.length (InAt t.1))(hO:AllUp t.2.1.length (OutAt t.2.1)):tx_RightM fuel t=some true:=by
 obtain⟨x,x1,x2⟩:=Zxg t (by omega);obtain⟨y,y1,y2⟩:=ZuW hl (Zfu t.1)
 have x3:x=.inr (t,Zfu t.1):=by
  rcases x2 with⟨_,h⟩|⟨h,_⟩
  ·exact h
  ·exact absurd hI h
 have y3:y=.inr (t,Zfu t.1):=by
  rcases y2 with⟨_,h⟩|⟨h,_⟩
  ·exact h
  ·exact absurd hO h
 rw[x3] at x1;rw[y3] at y1;unfold tx_RightM;rw[if_neg (show¬decide ((t.1.length:Int) < 1)=true by rw[decide_eq_true_iff];omega),if_neg (show¬decide ((t.1.length:Int) > 64)=true by rw[decide_eq_true_iff];omega),if_neg (show¬decide ((t.2.1.length:Int) > 64)=true by rw[decide_eq_true_iff];omega),if_neg (show¬decide (t.2.2 < 0)=true by rw[decide_eq_true_iff];omega),x1,yf];dsimp only;rw[y1,yf]
structure ClOk(l:List Outpoint):Prop where
 pos:0 < l.length
 len:l.length≤20
 idl:∀x,x∈l→x.1.length=32
 at_:∀x,x∈l→0≤x.2∧x.2 < 64
 ne:∀(i j:Nat)x y,i < j→l[i]? =some x→l[j]? =some y→x≠y
structure MkT(l:List Outpoint)(o:Out)(t:Tx):Prop where
 out:t.2=([o],0)
 src:t.1.map (λx=>x.1)=l
 wit:∀x,x∈t.1→WitIn x.2
def bare(l:List Outpoint):List In:=l.map λx=>(x,((0:Int),([]:List Sig),(0:UInt64)))
noncomputable def idT(l:List Outpoint)(o:Out):List UInt8:=nmF (bare l,[o],(0:Int))
theorem MkT.len{l:List Outpoint}{o:Out}{t:Tx}(h:MkT l o t):t.1.length=l.length:=by
 have:=congrArg List.length h.src
 rwa [yx] at this
theorem MkT.at1{l:List Outpoint}{o:Out}{t:Tx}(h:MkT l o t){j:Nat}{x:In}(hx:t.1[j]? =some x):∃y,l[j]? =some y∧y=x.1:=by
 refine⟨x.1, ?_,rfl⟩;rw[←h.src,yaf,hx];rfl
theorem MkT.at2{l:List Outpoint}{o:Out}{t:Tx}(h:MkT l o t){j:Nat}{y:Outpoint}(hy:l[j]? =some y):∃x,t.1[j]? =some x∧x.1=y:=by
 rw[←h.src,yaf] at hy;obtain⟨x,h1,h2⟩:=yp.1 hy;exact⟨x,h1,h2⟩
theorem ZE7{l:List Outpoint}{o:Out}:MkT l o (bare l,[o],0):=by
 refine⟨rfl, ?_, ?_⟩
 ·unfold bare;rw[List.map_map];exact List.map_id _
 ·intro x hx;unfold bare at hx;obtain⟨y,_,rfl⟩:=ybu.1 hx;exact⟨show(0:Int)≤0 by decide,show(0:Int) < 4 by decide,by simp⟩
theorem MkT.plain{l:List Outpoint}{o:Out}{t:Tx}(h:MkT l o t):ZfX t=ZfX (bare l,[o],0):=by
 obtain⟨ins,q⟩:=t;have h1:q=([o],0):=h.out;subst h1
 have e:∀a:List In,cat inF a=((a.map λx=>x.1).map λp:Outpoint=>p.1++Vm p.2.toNat).flatten:=λa=>by
  unfold cat
  rw[List.map_map];rfl
 have h2:ins.map (λx=>x.1)=l:=h.src;have h3:(bare l).map (λx=>x.1)=l:=(ZE7 (o:=o)).src
 have h4:ins.length=(bare l).length:=by
  have:=h.len;unfold bare;rw[yx];exact this
 unfold ZfX;dsimp only;rw[e,e,h2,h3,h4]
theorem ZBW{l:List Outpoint}(hc:ClOk l){o:Out}(ho:CoinOk o){t:Tx}(h:MkT l o t):tx_RightM fuel t=some true∧Zhl fuel t=some (idT l o)∧(idT l o).length=32:=by
 have hlen:=h.len;have hpl:=h.plain;have p0:=hc.pos;have p1:=hc.len;have q1:=λ{j:Nat}{x:In}(hx:t.1[j]? =some x)=>h.at1 hx;have q2:=h.wit;have ho':=h.out;obtain⟨ins,q⟩:=t;have h1:q=([o],0):=ho';subst h1
 have hl:TxL (ins,[o],0):=⟨by dsimp only at hlen ⊢;omega,by simp,λx hx=>by
  rw[yao.1 hx];exact⟨by have:=ho.2.1.2.1;omega,λb hb=>by have:=(ho.2.1.2.2 b hb).1;omega⟩⟩
 have hI:AllUp ins.length (InAt ins):=by
  intro k hk x hx;obtain⟨y,y1,y2⟩:=q1 hx;have ha:=hc.at_ y (ybm y1);rw[y2] at ha;refine⟨ha,q2 x (ybm hx),λj z hj hz=> ?_⟩;obtain⟨v,v1,v2⟩:=q1 hz;rw[←v2, ←y2];exact hc.ne j k v y hj v1 y1
 have hO:AllUp [o].length (OutAt [o]):=by
  intro k hk x hx;have:k=0:=by simp at hk;omega
  subst this;cases hx;refine⟨ho, ?_⟩;show Zaq [o]≤_;unfold Zaq;have:=ho.1;simp;omega
 dsimp only at hlen;have hr:=ZDI hl (by dsimp only;omega) (by dsimp only;omega) (by simp) (by simp) hI hO
 have hw:ZDF (ins,[o],0):=⟨λx hx=>by
  obtain⟨j,j1,j2⟩:=ycc hx;obtain⟨y,y1,y2⟩:=q1 (j:=j) (x:=x) (by rw[←j2];exact yac j1);rw[←y2];exact hc.idl y (ybm y1),by dsimp only;omega⟩
 have hok:ZMM (ins,[o],0):=by
  refine⟨by dsimp only;omega,by dsimp only;omega,by simp,by simp,λx hx=> ?_,λx hx=> ?_⟩
  ·obtain⟨j,j1,j2⟩:=ycc hx;obtain⟨r1,r2,_⟩:=hI j j1 x (by rw[←j2];exact yac j1);exact⟨r1.1,r1.2,r2.1,r2.2.1,r2.2.2⟩
  ·rw[yao.1 hx];exact⟨ho.1.1,ho.1.2,ho.2.1,ho.2.2⟩
 obtain⟨g1,g2⟩:=ZBR hw hok;refine⟨hr, ?_, ?_⟩
 ·unfold Zhl;rw[hr,yf,if_neg (by decide),g1,yf,ZI2 (by decide) (by simp) (Zxh g2),yf];unfold idT nmF;rw[hpl]
 ·unfold idT nmF;exact Sha.ZNT _
theorem ZBX{ins:List In}(i0:0 < ins.length)(i1:ins.length≤64)(hx:∀x,x∈ins→x.2.2.1.length≤12){outs:List Out}(h0:0 < outs.length)(h1:outs.length≤64)(ho:∀o,o∈outs→LockOk o.2)(note:Int):∃u v,VP fuel (ins,outs,note)=some (note,u,ins,v,outs):=by
 unfold VP Zc0 Zho Zbx Zfg;dsimp only
 have he:¬outs.isEmpty=true:=by
  intro h;rw[List.isEmpty_iff] at h;rw[h] at h0;simp at h0
 have hi:¬ins.isEmpty=true:=by
  intro h;rw[List.isEmpty_iff] at h;rw[h] at i0;simp at i0
 rw[if_neg hi,if_pos (XJ (by omega) (by omega)),yf,if_neg he,if_pos (XJ (by omega) (by omega)),yf];dsimp only;generalize hz:(([]:List In),([]:List Out),(0:Int))=z
 have l0:Zd (X1 fuel) fuel ((ins.length:Int),(0:Int),note,z,[()],ins,[()],outs)=some (note,z,[()],ins,[()],outs):=by
  refine Yp ins.length (λk:Nat=>((ins.length:Int),(k:Int),note,z,[()],ins,[()],outs)) ?_ ?_ (by omega)
  ·intro k hk;obtain⟨x,e0,em⟩:=Zu hk
   have hs:VO fuel x.2.2.1=some x.2.2.1:=by
    have:=hx x em;unfold VO;rw[if_pos (XJ (by omega) (by omega))]
   unfold X1;dsimp only;rw[if_pos (YD hk),if_pos (Y6 (by omega) (by omega)),yci,e0,yf,hs,yf,if_pos (Y6 (by omega) (by omega)),yf,ZP (by omega),show ins.set k (x.1,(x.2.1,x.2.2.1,x.2.2.2))=ins from set_same e0]
  ·unfold X1;dsimp only;rw[if_neg (by rw[Z9];decide)]
 rw[l0,yf];dsimp only
 have l1:Zd (X3 fuel) fuel ((outs.length:Int),(0:Int),note,z,[()],ins,[()],outs)=some (note,z,[()],ins,[()],outs):=by
  refine Yp outs.length (λk:Nat=>((outs.length:Int),(k:Int),note,z,[()],ins,[()],outs)) ?_ ?_ (by omega)
  ·intro k hk;obtain⟨o,hok,hom⟩:=Zu hk;obtain⟨g1,g2,g3⟩:=ho o hom
   have hbe:¬o.2.isEmpty=true:=by
    intro h;rw[List.isEmpty_iff] at h;rw[h] at g1;simp at g1
   have hbr:Yx fuel o.2=some ([()],o.2):=by
    unfold Yx Wr;rw[if_neg hbe,if_pos (XJ (by omega) (by omega))]
   unfold X3;dsimp only;rw[if_pos (YD hk),if_pos (Y6 (by omega) (by omega)),yci,hok,yf,hbr,yf];dsimp only
   have l2:Zd (X2 fuel) fuel ((k:Int),(outs.length:Int),(k:Int),(o.2.length:Int),(0:Int),note,z,[()],ins,[()],outs,[()],o.2)=some ((k:Int),(outs.length:Int),(k:Int),note,z,[()],ins,[()],outs,[()],o.2):=by
    refine Yp o.2.length (λj:Nat=>((k:Int),(outs.length:Int),(k:Int),(o.2.length:Int),(j:Int),note,z,[()],ins,[()],outs,[()],o.2)) ?_ ?_ (by omega)
    ·intro j hj;obtain⟨b,hb,hbm⟩:=Zu hj;obtain⟨b1,_⟩:=g3 b hbm
     have hk9:ZI fuel b.1=some b.1:=by
      unfold ZI;rw[if_pos (XJ (by omega) (by omega))]
     unfold X2;dsimp only;rw[if_pos (YD hj),if_pos (Y6 (by omega) (by omega)),yci,hb,yf,hk9,yf,if_pos (Y6 (by omega) (by omega)),yf,ZP (by omega),show o.2.set j (b.1,b.2.1,b.2.2.1,b.2.2.2)=o.2 from set_same hb]
    ·unfold X2;dsimp only;rw[if_neg (by rw[Z9];decide)]
   rw[l2,yf];dsimp only;rw[if_pos (Y6 (by omega) (by omega)),yci,hok,yf,ZP (by omega),show outs.set k (o.1,o.2)=outs from set_same hok]
  ·unfold X3;dsimp only;rw[if_neg (by rw[Z9];decide)]
 rw[l1,yf];exact⟨_,_,rfl⟩
theorem ZI9{e:UInt64}(he:Key e):Zfi fuel [e]=some false:=by
 have hz:(e==0)=false:=by
  rw[beq_eq_false_iff_ne];rintro rfl;exact absurd he.1 (by decide)
 have h1:Zhn fuel e=some false:=by
  unfold Zhn;rw[hz,if_neg (by decide),Zky,yf,decide_eq_true he.2];rfl
 have l0:Zd (YQ fuel) fuel ([e],(1:Int),(0:Int))=some (.inr ()):=by
  refine Yp 1 (λk:Nat=>([e],(1:Int),(k:Int))) ?_ ?_ (by omega)
  ·intro k hk;have:k=0:=by omega
   subst this;unfold YQ;dsimp only;rw[if_pos (decide_eq_true (by decide)),ZJ (k:=0) (show[e][0]? =some e from rfl),yf,h1,yf,if_neg (by decide)]
   rfl
  ·unfold YQ;dsimp only;rw[if_neg (show¬decide (((1:Nat):Int) < 1)=true by decide)]
 unfold Zfi Zcc;show((Zd (YQ fuel) fuel ([e],(1:Int),(0:Int))).bind _).bind _=_;rw[l0,yf];rfl
theorem ZGk{l:List Outpoint}(hc:ClOk l){o:Out}(ho:CoinOk o){t:Tx}(ht:MkT l o t){k:Nat}{y:Outpoint}(hy:l[k]? =some y){br:Int}(b0:0≤br)(b1:br < 4){e:UInt64}(he:Key e)(sec:UInt64):
 ∃sg,Qc fuel e (idT l o)=some sg∧Zae fuel (B e.toNat) (idT l o) sg=some true∧Zoe fuel t (k:Int) br [e] sec=some ((t.1.set k (y,(br,[sg],sec)),t.2),0):=by
 obtain⟨r1,r2,r3⟩:=ZBW hc ho ht;obtain⟨x,hx,hxy⟩:=ht.at2 hy;have hkl:k < t.1.length:=(yo.1 hx).1;have hlen:=ht.len;have p0:=hc.pos;have p1:=hc.len;obtain⟨sg,s1,s2⟩:=ZKI he r3;refine⟨sg,s1,s2, ?_⟩;have hwit:WitIn (br,([]:List Sig),sec):=⟨b0,b1,by simp⟩
 have l0:Zd (Qw fuel) fuel ((k:Int),[e],(1:Int),(0:Int),t,(([]:List In),([]:List Out),(0:Int)),br,sec,([]:List Sig),idT l o)=some ((k:Int),t,(([]:List In),([]:List Out),(0:Int)),br,sec,[sg],idT l o):=by
  refine Yp 1 (λi:Nat=>((k:Int),[e],(1:Int),(i:Int),t,(([]:List In),([]:List Out),(0:Int)),br,sec,(if i=0 then([]:List Sig) else[sg]),idT l o)) ?_ ?_ (by omega)
  ·intro i hi;have:i=0:=by omega
   subst this;unfold Qw;dsimp only;rw[if_pos (decide_eq_true (by decide)),ZJ (k:=0) (show[e][0]? =some e from rfl),yf,s1,yf]
   rfl
  ·unfold Qw;dsimp only;rw[if_neg (show¬decide (((1:Nat):Int) < 1)=true by decide)];rfl
 obtain⟨u,v,hcp⟩:=ZBX (ins:=t.1) (by omega) (by omega) (λz hz=>(ht.wit z hz).2.2) (outs:=[o]) (by simp) (by simp) (λz hz=>by rw[yao.1 hz];exact ho.2.1) 0;have ht2:t=(t.1,[o],0):=by rw[←ht.out]
 unfold Zoe;rw[r1,yf,if_neg (by decide),if_neg (show¬decide ((k:Int) < 0)=true by rw[decide_eq_true_iff];omega),if_neg (show¬decide ((k:Int) ≥ (t.1.length:Int))=true by rw[decide_eq_true_iff];omega),ZDH,yf,decide_eq_true hwit,if_neg (by decide),if_neg (show¬decide ((([e]:List UInt64).length:Int) > 12)=true by simp),ZI9 he,yf,if_neg (by decide),r2,yf];show(Zd (Qw fuel) fuel ((k:Int),[e],(1:Int),(0:Int),t,(([]:List In),([]:List Out),(0:Int)),br,sec,([]:List Sig),idT l o)).bind _=_;rw[l0,yf];dsimp only;rw[show VP fuel t=some (0,u,t.1,v,[o]) by rw[ht2];exact hcp,yf];dsimp only;rw[if_pos (Y6 (by omega) (by omega)),yci,hx,yf,hxy,ht.out]
theorem ZMS{l:List Outpoint}{o:Out}{t:Tx}(ht:MkT l o t){k:Nat}{y:Outpoint}(hy:l[k]? =some y){w:Q4}(hw:WitIn w):MkT l o (t.1.set k (y,w),t.2):=by
 refine⟨ht.out, ?_, ?_⟩
 ·show(t.1.set k (y,w)).map (λx=>x.1)=_;rw[List.map_set,ht.src];exact set_same hy
 ·intro x hx;rcases List.mem_or_eq_of_mem_set hx with h|rfl
  ·exact ht.wit x h
  ·exact hw
theorem Zxi(a b:Int){l:List Int}(hl:l.length≤100):∃r,W4 fuel a b l=some r∧(r=true→∀x,x∈l→a≤x∧x≤b):=by
 obtain⟨x,h1,h2⟩:=Vy (step:=Z5 fuel) l.length (λk s=>s=(l,(l.length:Int),(k:Int),a,b)∧∀j x,j < k→l[j]? =some x→a≤x∧x≤b)
  (λx=>(∃j:Nat,x=.inl ((j:Int),a,b))∨x=.inr (a,b)∧∀x,x∈l→a≤x∧x≤b) (i:=(l,(l.length:Int),(0:Int),a,b)) ⟨rfl,λj x h=>by omega⟩ (by omega) (by
  rintro k _ hk ⟨rfl,hj⟩;obtain⟨x,hx,_⟩:=Zu hk;unfold Z5 ZaU;dsimp only;rw[if_pos (YD hk),ZJ hx,yf];by_cases c1:x < a
  ·right;rw[if_pos (decide_eq_true c1),yf];dsimp only;rw[if_pos rfl];exact⟨_,rfl,.inl ⟨k,rfl⟩⟩
  ·rw[if_neg (show¬decide (x < a)=true by rw[decide_eq_true_iff];exact c1),yf];dsimp only;by_cases c2:x > b
   ·right;rw[if_pos (decide_eq_true c2)];exact⟨_,rfl,.inl ⟨k,rfl⟩⟩
   ·left;rw[if_neg (show¬decide (x > b)=true by rw[decide_eq_true_iff];exact c2),ZP (by omega)];refine⟨_,rfl,rfl,λj y h hy=> ?_⟩;by_cases e:j=k
    ·subst e;rw[hx] at hy;cases hy;omega
    ·exact hj j y (by omega) hy) (by
  rintro _ ⟨rfl,hj⟩;unfold Z5;dsimp only;rw[if_neg (by rw[Z9];decide)];refine⟨_,rfl,.inr ⟨rfl,λx hx=> ?_⟩⟩;obtain⟨j,j1,j2⟩:=ycc hx;exact hj j x j1 (by rw[←j2];exact yac j1))
 unfold W4 Y7 Xs;rw[h1,yf];rcases h2 with⟨j,rfl⟩|⟨rfl,h⟩
 ·refine⟨_,rfl,λh=> ?_⟩;have:(!decide ((j:Int) ≥ 0))=true:=h;rw[decide_eq_true (show(j:Int) ≥ 0 by omega)] at this;cases this
 ·exact⟨_,rfl,λ_=>h⟩
theorem ZGl{l:List UInt64}(hl:l.length=5)(k:BackupKept):∃x,Zd (Xf fuel) fuel (l,(5:Int),(0:Int),k)=some x∧(x=.inl (false,k)∨x=.inr k∧∀e,e∈l→e.toNat < ord):=by
 refine Vy (step:=Xf fuel) 5 (λi s=>s=(l,(5:Int),(i:Int),k)∧∀j e,j < i→l[j]? =some e→e.toNat < ord) _ (i:=(l,(5:Int),(0:Int),k)) ⟨rfl,λj e h=>by omega⟩ (by omega) ?_ ?_
 ·rintro i _ hi ⟨rfl,hj⟩;obtain⟨e,he,_⟩:=Zu (l:=l) (k:=i) (by omega);unfold Xf;dsimp only;rw[if_pos (decide_eq_true (by omega)),ZJ he,yf,Zky,yf];by_cases c:e.toNat < ord
  ·left;rw[decide_eq_true c,if_neg (by decide),ZP (by omega)];refine⟨_,rfl,rfl,λj y h hy=> ?_⟩;by_cases q:j=i
   ·subst q;rw[he] at hy;cases hy;exact c
   ·exact hj j y (by omega) hy
  ·right;rw[decide_eq_false c,if_pos (by decide)];exact⟨_,rfl,.inl rfl⟩
 ·rintro _ ⟨rfl,hj⟩;unfold Xf;dsimp only;rw[if_neg (show¬decide (((5:Nat):Int) < 5)=true by decide)];refine⟨_,rfl,.inr ⟨rfl,λe he=> ?_⟩⟩;obtain⟨j,j1,j2⟩:=ycc he;exact hj j e (by omega) (by rw[←j2];exact yac j1)
noncomputable def basK(k:Kit):Basics:=(B k.1.toNat,B k.2.1.toNat,B k.2.2.1.toNat,B k.2.2.2.1.toNat,B k.2.2.2.2.1.toNat)
theorem ZGm(k:Kit):ZcP fuel k=some (basK k):=by
 unfold ZcP;rw[Zft,yf,Zft,yf,Zft,yf,Zft,yf,Zft,yf];rfl
structure KeptOk(k:BackupKept):Prop where
 me:k.2.2.1=0∨k.2.2.1=1
 bas:k.1.2.2.1[k.2.2.1.toNat]? =some (basK k.2.1)
 key:Key k.2.1.2.1
theorem ZDJ{k:BackupKept}(w:ChWf k.1):∃b,XM fuel k=some b∧(b=true→KeptOk k):=by
 obtain⟨x,h1,h2⟩:=ZGl (l:=[k.2.1.1,k.2.1.2.1,k.2.1.2.2.1,k.2.1.2.2.2.1,k.2.1.2.2.2.2.1]) rfl k;unfold XM;rw[h1,yf];rcases h2 with rfl|⟨rfl,hk⟩
 ·exact⟨false,rfl,λh=>by cases h⟩
 dsimp only;obtain⟨e,e1,e2⟩:=ZMO w;rw[e1,yf];by_cases c0:e=0
 ·rw[if_pos (beq_iff_eq.2 c0)];obtain⟨_,_,_,hside⟩:=e2 c0;obtain⟨r,r1,r2⟩:=Zxi 0 1 (l:=[k.2.2.1]) (by simp);rw[r1,yf]
  cases r with
  |false=>exact⟨false,rfl,λh=>by cases h⟩
  |true=>
   obtain⟨m0,m1⟩:=r2 rfl k.2.2.1 (by simp);rw[if_pos rfl,ZGm,yf,if_pos (Y6 (by omega) (by omega))];obtain⟨bs,hb,_⟩:=Zu (l:=k.1.2.2.1) (k:=k.2.2.1.toNat) (by rw[w.b];omega);rw[hb,yf];by_cases c1:basK k.2.1=bs
   ·rw[if_pos (decide_eq_true c1)];obtain⟨q,q1,_⟩:=Zxi 0 1048576 (l:=[k.2.2.2.1,k.2.2.2.2]) (by simp);rw[q1,yf];refine⟨q,rfl,λ_=>⟨by omega,by rw[hb,c1], ?_⟩⟩;obtain⟨t,ht,_⟩:=Zu (l:=k.1.2.2.2.1) (k:=k.2.2.1.toNat) (by rw[w.t];omega);obtain⟨_,hp⟩:=hside k.2.2.1.toNat (by omega) t bs ht hb;have hp1:=(hp bs.2.1 (by unfold pts;simp)).2;refine⟨?_,hk k.2.1.2.1 (by simp)⟩;rcases ybt k.2.1.2.1.toNat with h|h
    ·refine absurd ?_ hp1;rw[←c1];show B k.2.1.2.1.toNat=1;rw[h];exact yck.1 (by rw[ZoG];decide)
    ·exact h
   ·rw[if_neg (show¬decide (basK k.2.1=bs)=true by rw[decide_eq_true_iff];exact c1)];exact⟨false,rfl,λh=>by cases h⟩
 ·rw[if_neg (by rw[beq_iff_eq];exact c0)];exact⟨false,rfl,λh=>by cases h⟩
theorem ZE8{α I:Type}{step:I→Option (I⊕(Bool⊕Unit))}(st:Nat→I)(a b:List α)(eqM:α→α→Option Bool)(hl:a.length=b.length)(hn:a.length≤1000000)(hm:∀e g,e∈a→g∈b→∃r,eqM e g=some r∧(e=g→r=true))
 (hs:∀k e g,k < a.length→a[k]? =some e→b[k]? =some g→step (st k)=(eqM e g).bind λo=>if(!o)=true then some (.inr (.inl false)) else some (.inl (st (k+1))))
 (he:step (st a.length)=some (.inr (.inr ()))):∃x,Zd step fuel (st 0)=some x∧(x=.inl false∧a≠b∨x=.inr ()):=by
 refine Vy (step:=step) a.length (λk s=>s=st k) _ rfl (by omega) ?_ ?_
 ·rintro k _ hk rfl;obtain⟨e,he,hem⟩:=Zu hk;obtain⟨g,hg,hgm⟩:=Zu (l:=b) (k:=k) (by omega);obtain⟨r,r1,r2⟩:=hm e g hem hgm;rw[hs k e g hk he hg,r1,yf]
  cases r with
  |true=>exact .inl ⟨_,rfl,rfl⟩
  |false=>
   refine .inr ⟨_,rfl,.inl ⟨rfl,λh=> ?_⟩⟩;subst h;rw[he] at hg;cases hg;exact Bool.noConfusion (r2 rfl)
 ·rintro _ rfl;exact⟨_,he,.inr rfl⟩
theorem ZGn{a b:List UInt64}(h:b.length≤1000000):∃r,Zbv fuel a b=some r∧(a=b→r=true):=by
 unfold Zbv;by_cases hl:a.length=b.length
 ·rw[if_neg (by simp[hl])]
  obtain⟨x,h1,h2⟩:=ZE8 (step:=XY fuel) (λk:Nat=>(a,b,(a.length:Int),(k:Int))) a b (λe g=>some (e==g)) hl (by omega) (λe g _ _=>⟨_,rfl,λq=>by rw[q];exact beq_self_eq_true _⟩) (by
   intro k e g hk he hg;unfold XY;dsimp only;rw[if_pos (YD hk),ZJ he,yf,ZJ hg,yf,yf,ZP (by omega)];rfl) (by
   unfold XY;dsimp only;rw[if_neg (by rw[Z9];decide)])
  rw[show((0:Nat):Int)=0 from rfl] at h1
  rw[h1,yf];rcases h2 with⟨rfl,h2⟩|rfl
  ·exact⟨_,rfl,λh=>absurd h h2⟩
  ·exact⟨_,rfl,λ_=>rfl⟩
 ·rw[if_pos (by simp;omega)];exact⟨_,rfl,λh=>by rw[h] at hl;exact absurd rfl hl⟩
theorem ZJa{a b:Zr}(h:b.1.length≤1000000):∃r,Q5 fuel a b=some r∧(a=b→r=true):=by
 unfold Q5;obtain⟨r,h1,h2⟩:=ZGn (a:=a.1) h;rw[h1,yf];by_cases hab:a=b
 ·subst hab;rw[if_pos (h2 rfl),if_pos (beq_self_eq_true _),if_pos (beq_self_eq_true _)];exact⟨_,rfl,λ_=>beq_self_eq_true _⟩
 ·have key:∀{x:Option Bool},(∃r,x=some r)→∃r,x=some r∧(a=b→r=true):=λ⟨r,hr⟩=>⟨r,hr,λh=>absurd h hab⟩;exact key (ite_some (ite_some (ite_some ⟨_,rfl⟩ ⟨_,rfl⟩) ⟨_,rfl⟩) ⟨_,rfl⟩)
theorem ZLh{a b:Lock}(h:LockOk b):∃r,Zd9 fuel a b=some r∧(a=b→r=true):=by
 have hb:b.length≤1000000:=by have:=h.2.1;omega
 have hk:∀x,x∈b→x.1.length≤1000000:=λx hx=>by have:=(h.2.2 x hx).1;omega
 have key:∃r,Zfd fuel a b=some r∧(a=b→r=true):=by
  unfold Zfd;by_cases hl:a.length=b.length
  ·rw[if_neg (by simp[hl])]
   obtain⟨x,h1,h2⟩:=ZE8 (step:=Vh fuel) (λk:Nat=>(b,a,(a.length:Int),(k:Int))) a b (Q5 fuel) hl (by omega) (λe g _ hg=>ZJa (hk g hg)) (by
    intro k e g hk he hg;unfold Vh;dsimp only;rw[if_pos (YD hk),ZJ he,yf,ZJ hg,yf,ZP (by omega)]) (by
    unfold Vh;dsimp only;rw[if_neg (by rw[Z9];decide)])
   rw[show((0:Nat):Int)=0 from rfl] at h1
   rw[h1,yf];rcases h2 with⟨rfl,h2⟩|rfl
   ·exact⟨_,rfl,λh=>absurd h h2⟩
   ·exact⟨_,rfl,λ_=>rfl⟩
  ·rw[if_pos (by simp;omega)];exact⟨_,rfl,λh=>by rw[h] at hl;exact absurd rfl hl⟩
 obtain⟨r,h1,h2⟩:=key;unfold Zd9;rw[h1,yf];exact⟨r,rfl,h2⟩
structure RT(t:Tx):Prop where
 i0:0 < t.1.length
 i1:t.1.length≤64
 o1:t.2.1.length≤64
 n0:0≤t.2.2
 ins:AllUp t.1.length (InAt t.1)
 outs:AllUp t.2.1.length (OutAt t.2.1)
theorem txr{t:Tx}(hl:TxL t):∃b,tx_RightM fuel t=some b∧(b=true→RT t):=by
 obtain⟨x,x1,x2⟩:=Zxg t (by have:=hl.ins;omega);obtain⟨y,y1,y2⟩:=ZuW hl (Zfu t.1);unfold tx_RightM;have no:∃b:Bool,some false=some b∧(b=true→RT t):=⟨false,rfl,λh=>by cases h⟩;by_cases c1:(t.1.length:Int) < 1
 ·rw[if_pos (decide_eq_true c1)];exact no
 by_cases c2:(t.1.length:Int) > 64
 ·rw[if_neg (show¬decide ((t.1.length:Int) < 1)=true by rw[decide_eq_true_iff];exact c1),if_pos (decide_eq_true c2)];exact no
 by_cases c3:(t.2.1.length:Int) > 64
 ·rw[if_neg (show¬decide ((t.1.length:Int) < 1)=true by rw[decide_eq_true_iff];exact c1),if_neg (show¬decide ((t.1.length:Int) > 64)=true by rw[decide_eq_true_iff];exact c2),if_pos (decide_eq_true c3)];exact no
 by_cases c4:t.2.2 < 0
 ·rw[if_neg (show¬decide ((t.1.length:Int) < 1)=true by rw[decide_eq_true_iff];exact c1),if_neg (show¬decide ((t.1.length:Int) > 64)=true by rw[decide_eq_true_iff];exact c2),if_neg (show¬decide ((t.2.1.length:Int) > 64)=true by rw[decide_eq_true_iff];exact c3),if_pos (decide_eq_true c4)];exact no
 rw[if_neg (show¬decide ((t.1.length:Int) < 1)=true by rw[decide_eq_true_iff];exact c1),if_neg (show¬decide ((t.1.length:Int) > 64)=true by rw[decide_eq_true_iff];exact c2),if_neg (show¬decide ((t.2.1.length:Int) > 64)=true by rw[decide_eq_true_iff];exact c3),if_neg (show¬decide (t.2.2 < 0)=true by rw[decide_eq_true_iff];exact c4),x1,yf];rcases x2 with⟨hI,rfl⟩|⟨_,k,rfl⟩
 ·dsimp only;rw[y1,yf];rcases y2 with⟨hO,rfl⟩|⟨_,k,rfl⟩
  ·exact⟨true,rfl,λ_=>⟨by omega,by omega,by omega,by omega,hI,hO⟩⟩
  ·exact no
 ·exact no
theorem RT.ok{t:Tx}(h:RT t):ZMM t:=by
 refine⟨h.i0,h.i1,h.o1,h.n0,λx hx=> ?_,λx hx=> ?_⟩
 ·obtain⟨j,j1,j2⟩:=ycc hx;obtain⟨r1,r2,_⟩:=h.ins j j1 x (by rw[←j2];exact yac j1);exact⟨r1.1,r1.2,r2.1,r2.2.1,r2.2.2⟩
 ·obtain⟨j,j1,j2⟩:=ycc hx;obtain⟨r1,_⟩:=h.outs j j1 x (by rw[←j2];exact yac j1);exact⟨r1.1.1,r1.1.2,r1.2.1,r1.2.2⟩
theorem RT.id{t:Tx}(h:RT t)(hw:ZDF t)(hr:tx_RightM fuel t=some true):Zhl fuel t=some (nmF t)∧(nmF t).length=32:=by
 obtain⟨g1,g2⟩:=ZBR hw h.ok;refine⟨?_,Sha.ZNT _⟩;unfold Zhl;rw[hr,yf,if_neg (by decide),g1,yf,ZI2 (by decide) (by simp) (Zxh g2),yf];rfl
def VT(id:List UInt8)(n:Nat):List Outpoint:=(List.range n).map λ(i:Nat)=>((id,(i:Int)):Outpoint)
theorem ZE9(id:List UInt8){n i:Nat}(h:i < n):(VT id n)[i]? =some (id,(i:Int)):=by simp[VT,h]
theorem Zj8(id:List UInt8)(n:Nat):(VT id n).length=n:=by simp[VT]
theorem ZKJ(id:List UInt8)(n:Nat):VT id (n+1)=VT id n++[(id,(n:Int))]:=by
 unfold VT;rw[List.range_succ,yaj];rfl
theorem ZFa{t:Tx}(h:RT t)(hw:ZDF t)(hr:tx_RightM fuel t=some true):Zea fuel t=some (VT (nmF t) t.2.1.length):=by
 have ho:=h.o1;unfold Zea;rw[(h.id hw hr).1,yf,hr,yf,if_neg (by decide)]
 have e:=Yp (step:=ZbO fuel) t.2.1.length (λk:Nat=>((t.2.1.length:Int),(k:Int),t,VT (nmF t) k,nmF t)) (x:=(t,VT (nmF t) t.2.1.length,nmF t)) (by
  intro k hk;unfold ZbO;dsimp only;rw[if_pos (YD hk),if_pos (XJ (by rw[Zj8];omega) (by rw[Zj8];omega)),ZP (by omega),ZKJ]) (by
  unfold ZbO;dsimp only;rw[if_neg (by rw[Z9];decide)]) (by omega)
 have e0:((t.2.1.length:Int),(0:Int),t,([]:List Outpoint),nmF t)=(λk:Nat=>((t.2.1.length:Int),(k:Int),t,VT (nmF t) k,nmF t)) 0:=rfl;rw[e0,e,yf]
theorem ZpU{t:Tx}(hl:t.1.length≤64)(hr:tx_RightM fuel t=some true):Qe fuel t=some (t.1.map (·.1)):=by
 unfold Qe;rw[hr,yf,if_neg (by decide)]
 have e:=Yp (step:=VN fuel) t.1.length (λk:Nat=>(t.1,(t.1.length:Int),(k:Int),t,(t.1.take k).map (·.1))) (x:=(t,t.1.map (·.1))) (by
  intro k hk;obtain⟨x,hx,_⟩:=Zu hk;unfold VN;dsimp only;rw[if_pos (YD hk),ZJ hx,yf,if_pos (XJ (by rw[yx,yae];omega) (by rw[yx,yae];omega)),ZP (by omega),Zbz hx,yaj];rfl) (by
  unfold VN;dsimp only;rw[if_neg (by rw[Z9];decide),yay]) (by omega)
 have e0:(t.1,(t.1.length:Int),(0:Int),t,([]:List Outpoint))=(λk:Nat=>(t.1,(t.1.length:Int),(k:Int),t,(t.1.take k).map (·.1))) 0:=rfl;rw[e0,e,yf]
theorem ZMT{l:List Outpoint}(hl:l.length≤100)(p:Outpoint):∃b,Vx fuel l p=some b∧(b=true→p∈l):=by
 obtain⟨x,h1,h2⟩:=Vy (step:=XZ fuel) l.length (λk s=>s=(l,(l.length:Int),(k:Int),p)) (λx=>(∃j:Nat,x=.inl ((j:Int),p)∧p∈l)∨x=.inr p) (i:=(l,(l.length:Int),(0:Int),p)) rfl (by omega) (by
  rintro k _ hk rfl;obtain⟨x,hx,hm⟩:=Zu hk;unfold XZ;dsimp only;rw[if_pos (YD hk),ZJ hx,yf];by_cases c:p=x
  ·right;rw[if_pos (decide_eq_true c)];exact⟨_,rfl,.inl ⟨k,rfl,by rw[c];exact hm⟩⟩
  ·left;rw[if_neg (show¬decide (p=x)=true by rw[decide_eq_true_iff];exact c),ZP (by omega)];exact⟨_,rfl,rfl⟩) (by
  rintro _ rfl;unfold XZ;dsimp only;rw[if_neg (by rw[Z9];decide)];exact⟨_,rfl,.inr rfl⟩)
 unfold Vx ZfK;rw[h1,yf];rcases h2 with⟨j,rfl,h⟩|rfl
 ·exact⟨_,rfl,λ_=>h⟩
 ·exact⟨_,rfl,λh=>by cases h⟩
def Zj9(l:List Nat):List Int:=l.map λi:Nat=>(i:Int)
theorem ZgI(l:List Nat):(Zj9 l).length=l.length:=yx ..
structure Fnd(k:BackupKept)(t:Tx)(l:List Nat):Prop where
 up:l.Pairwise (· < ·)
 lt:∀i,i∈l→i < t.2.1.length
 len:l.length≤t.2.1.length
 key:l≠[]→Key k.2.1.2.1∧tx_RightM fuel t=some true∧RT t∧k.1.1∈t.1.map (·.1)
theorem ZJb{k:BackupKept}{t:Tx}(w:ChWf k.1)(hl:TxL t):∃l,Zbw fuel k t=some (Zj9 l)∧Fnd k t l:=by
 have no:∃l,some ([]:List Int)=some (Zj9 l)∧Fnd k t l:=⟨[],rfl,.nil,(λi h=>by cases h),Nat.zero_le _,λh=>absurd rfl h⟩;obtain⟨b,b1,b2⟩:=ZDJ w;obtain⟨r,r1,r2⟩:=txr hl;unfold Zbw;rw[b1,yf]
 cases b with
 |false=>exact no
 |true=>
  rw[if_neg (by decide),r1,yf]
  cases r with
  |false=>exact no
  |true=>
   have hk:=b2 rfl;have ht:=r2 rfl;rw[if_neg (by decide),ZpU ht.i1 r1,yf];obtain⟨q,q1,q2⟩:=ZMT (l:=t.1.map (·.1)) (by rw[yx];have:=ht.i1;omega) k.1.1;rw[q1,yf]
   cases q with
   |false=>exact no
   |true=>
    have hm:=hk.me
    have hlk:Zdg fuel (basK k.2.1).2.1=some [([(basK k.2.1).2.1],0,0,0)]:=by
     unfold Zdg Zkv ZI;rw[if_pos (XJ (by simp) (by simp))];rfl
    have hok:LockOk ([([(basK k.2.1).2.1],0,0,0)]:Lock):=by
     refine⟨by simp,by simp,λb hb=> ?_⟩;rw[yao.1 hb];unfold ZGf;simp
    rw[if_neg (by decide),if_pos (Y6 (by omega) (by omega)),hk.bas,yf,hlk,yf];have ho:=ht.o1
    obtain⟨x,x1,x2⟩:=Vy (step:=X0 fuel) t.2.1.length (λi s=>∃l:List Nat,s=(t.2.1,(t.2.1.length:Int),(i:Int),k,t,([([(basK k.2.1).2.1],0,0,0)]:Lock),Zj9 l)∧l.Pairwise (· < ·)∧(∀j,j∈l→j < i)∧l.length≤i)
     (λx=>∃l:List Nat,x=(k,t,([([(basK k.2.1).2.1],0,0,0)]:Lock),Zj9 l)∧l.Pairwise (· < ·)∧(∀j,j∈l→j < t.2.1.length)∧l.length≤t.2.1.length) (i:=(t.2.1,(t.2.1.length:Int),(0:Int),k,t,([([(basK k.2.1).2.1],0,0,0)]:Lock),([]:List Int)))
     ⟨[],rfl,.nil,(λj h=>by cases h),ym _⟩ (by omega) (by
     rintro i _ hi ⟨l,rfl,l1,l2,l3⟩;left;obtain⟨o,hx,_⟩:=Zu hi;obtain⟨v,v1,_⟩:=ZLh (a:=o.2) hok;unfold X0;dsimp only;rw[if_pos (YD hi),ZJ hx,yf,v1,yf,ZP (by omega)]
     cases v with
     |true=>
      rw[if_pos rfl,if_pos (XJ (by rw[ZgI];omega) (by rw[ZgI];omega))];refine⟨_,rfl,l++[i],by unfold Zj9;rw[yaj];rfl, ?_,λj hj=> ?_,by rw[yr];simp;omega⟩
      ·rw[List.pairwise_append];refine⟨l1,List.pairwise_singleton _ _,λa ha b hb=> ?_⟩;rw[yao.1 hb];exact l2 a ha
      ·rcases List.mem_append.1 hj with h|h
       ·have:=l2 j h;omega
       ·rw[yao.1 h];omega
     |false=>
      rw[if_neg (by decide)];exact⟨_,rfl,l,rfl,l1,λj hj=>by have:=l2 j hj;omega,by omega⟩) (by
     rintro _ ⟨l,rfl,l1,l2,l3⟩;unfold X0;dsimp only;rw[if_neg (by rw[Z9];decide)];exact⟨_,rfl,l,rfl,l1,l2,l3⟩)
    rw[x1,yf];obtain⟨l,rfl,l1,l2,l3⟩:=x2;exact⟨l,rfl,l1,l2,l3,λ_=>⟨hk.key,r1,ht,q2 rfl⟩⟩
def ZlI(t:Tx)(i:Nat):Int:=((t.2.1[i]?).map (·.1)).getD 0
def amtF(t:Tx)(l:List Nat):Int:=(l.map (ZlI t)).sum
theorem ZpV{t:Tx}{l:List Nat}{k i:Nat}(h:l[k]? =some i):amtF t (l.take (k+1))=amtF t (l.take k)+ZlI t i:=by
 unfold amtF;rw[Zbz h,yaj,List.sum_append];simp
theorem ZgJ{t:Tx}{i:Nat}{o:Out}(h:t.2.1[i]? =some o):ZlI t i=o.1:=by
 unfold ZlI;rw[h];rfl
theorem ZGo{l:List Out}(h:∀o,o∈l→ZuS o){a b:Nat}(hab:a≤b):Zaq (l.take a)≤Zaq (l.take b):=by
 have:=(ZE3 (l:=l.take b) (λo ho=>h o (ybn ho)) a).2
 rwa [List.take_take,Nat.min_eq_left hab] at this
theorem Zr6{t:Tx}(h:∀o,o∈t.2.1→ZuS o){l:List Nat}(up:l.Pairwise (· < ·))(lt:∀i,i∈l→i < t.2.1.length):∀j,j≤l.length→0≤amtF t (l.take j)∧∀m,(∀i,i∈l.take j→i < m)→amtF t (l.take j)≤Zaq (t.2.1.take m)
 |0,_=>⟨Int.le_refl _,λm _=>(ZE3 h m).1⟩
 |j+1,hj=>by
  obtain⟨x,hx,hxm⟩:=Zu (l:=l) (k:=j) (by omega);obtain⟨h0,h1⟩:=Zr6 h up lt j (by omega);obtain⟨o,ho,hom⟩:=Zu (l:=t.2.1) (lt x hxm);have hn:=(h o hom).1;rw[ZpV hx,ZgJ ho];refine⟨by omega,λm hm=> ?_⟩
  have hb:∀i,i∈l.take j→i < x:=by
   intro i hi;obtain⟨a,a1,a2⟩:=ycc hi;have a3:a < j:=by rw[yae] at a1;omega
   have a4:l[a]? =some i:=by
    have:(l.take j)[a]? =some i:=by rw[yac a1,a2]
    rwa [List.getElem?_take_of_lt a3] at this
   have hjl:j < l.length:=by omega
   have hal:a < l.length:=by omega
   have e1:l[a]=i:=by rw[yac hal] at a4;exact ybe a4
   have e2:l[j]=x:=by rw[yac hjl] at hx;exact ybe hx
   rw[←e1, ←e2];exact List.pairwise_iff_getElem.1 up a j hal hjl a3
  have hxm2:x < m:=hm x (by rw[Zbz hx];simp);have k1:=h1 x hb;have k2:=ZGo h (show x+1≤m from hxm2)
  rw[ZgH ho] at k2;omega
def srcL(id:List UInt8)(l:List Nat):List Outpoint:=l.map λi:Nat=>((id,(i:Int)):Outpoint)
theorem ZeA(id:List UInt8)(l:List Nat):(srcL id l).length=l.length:=yx ..
theorem ZzE{id:List UInt8}{l:List Nat}{k i:Nat}(h:l[k]? =some i):(srcL id l)[k]? =some (id,(i:Int)):=by
 unfold srcL;rw[yaf,h];rfl
theorem ZKK{id:List UInt8}{l:List Nat}{k i:Nat}(h:l[k]? =some i):bare (srcL id (l.take (k+1)))=bare (srcL id (l.take k))++[((id,(i:Int)),((0:Int),([]:List Sig),(0:UInt64)))]:=by
 unfold bare srcL;rw[Zbz h,yaj,yaj];rfl
theorem ZKL{id:List UInt8}(hid:id.length=32){t:Tx}{l:List Nat}(up:l.Pairwise (· < ·))(lt:∀i,i∈l→i < t.2.1.length)(hl:l.length≤20)(ho:t.2.1.length≤64)(hne:l≠[]):ClOk (srcL id l):=by
 refine⟨?_,by rw[ZeA];exact hl,λx hx=> ?_,λx hx=> ?_,λi j x y hij hx hy=> ?_⟩
 ·rw[ZeA];rcases ybt l.length with h|h
  ·exact absurd (yaz h) hne
  ·exact h
 ·obtain⟨i,_,rfl⟩:=ybu.1 hx;exact hid
 ·obtain⟨i,hi,rfl⟩:=ybu.1 hx;have:=lt i hi;dsimp only;omega
 ·unfold srcL at hx hy;rw[yaf] at hx hy;obtain⟨a,a1,rfl⟩:=yp.1 hx;obtain⟨b,b1,rfl⟩:=yp.1 hy;obtain⟨i1,i2⟩:=yo.1 a1;obtain⟨j1,j2⟩:=yo.1 b1;have:=List.pairwise_iff_getElem.1 up i j i1 j1 hij;rw[i2,j2] at this;intro h;have h2:(a:Int)=(b:Int):=congrArg Prod.snd h;omega
theorem ZJc{k:BackupKept}{t:Tx}(rt:RT t){l:List Nat}(fd:Fnd k t l)(fee:Int)(to:Lock)(id:List UInt8):
 Zd (Xg fuel) fuel (fee,Zj9 l,VT id t.2.1.length,(0:Int),Zj9 l,((Zj9 l).length:Int),(0:Int),k,t,to,(([]:List In),([]:List Out),(0:Int)),(0:Int),([]:List In),([]:List Out))=
  some (fee,Zj9 l,amtF t l,k,t,to,(([]:List In),([]:List Out),(0:Int)),(0:Int),bare (srcL id l),([]:List Out)):=by
 have ho:=rt.o1;have hl:=fd.len;have hs:=Zr6 (λo h=>rt.ok.2.2.2.2.2 o h) fd.up fd.lt
 have hb:∀m,Zaq (t.2.1.take m)≤64*1125899906842624:=λm=>by
  have:=(Zr5 (l:=t.2.1) (t.2.1.take m).length (by rw[yae];omega) (λj hj o h=>(rt.outs j (by rw[yae] at hj;omega) o h).1)).2;have e:t.2.1.take (t.2.1.take m).length=t.2.1.take m:=by rw[yae, ←List.take_take,yay]
  rw[e] at this;have h2:(t.2.1.take m).length≤64:=by rw[yae];omega
  omega
 have e:=Yp (step:=Xg fuel) l.length (λj:Nat=>(fee,Zj9 l,VT id t.2.1.length,amtF t (l.take j),Zj9 l,((Zj9 l).length:Int),(j:Int),k,t,to,(([]:List In),([]:List Out),(0:Int)),(0:Int),bare (srcL id (l.take j)),([]:List Out)))
  (x:=(fee,Zj9 l,amtF t l,k,t,to,(([]:List In),([]:List Out),(0:Int)),(0:Int),bare (srcL id l),([]:List Out))) (by
  intro j hj;obtain⟨i,hi,him⟩:=Zu hj;have hi2:(Zj9 l)[j]? =some (i:Int):=by unfold Zj9;rw[yaf,hi];rfl
  obtain⟨o,hx,hom⟩:=Zu (l:=t.2.1) (fd.lt i him);obtain⟨s0,s1⟩:=hs j (by omega);have s1:=s1 t.2.1.length (λa ha=>fd.lt a (ybn ha));have s2:=hb t.2.1.length;have q:=rt.ok.2.2.2.2.2 o hom;have q0:=q.1;have q1:=q.2.1;unfold Xg;dsimp only;rw[ZgI,if_pos (YD hj),ZJ hi2,yf,ZJ hx,yf,ZJ (ZE9 id (fd.lt i him)),yf,if_pos (XJ (by unfold bare;rw[yx,ZeA,yae];omega) (by unfold bare;rw[yx,ZeA,yae];omega)),ZP (by omega),Y3 (z:=amtF t (l.take j)+o.1) (by omega) (by omega),ZpV hi,ZgJ hx,ZKK hi]) (by
  unfold Xg;dsimp only;rw[ZgI,if_neg (by rw[Z9];decide),yay]) (by omega)
 exact e
theorem ZJd{k:BackupKept}{l:List Outpoint}(hc:ClOk l){o:Out}(ho:CoinOk o)(hk:Key k.2.1.2.1)(t:Tx)(to:Lock)(z:Tx)(q:List In):
 ∃T,Zd (Xh fuel) fuel ((l.length:Int),(0:Int),k,t,to,z,(bare l,[o],0),q,([]:List Out))=some (k,t,to,z,T,q,([]:List Out))∧MkT l o T:=by
 have p1:=hc.len
 obtain⟨x,x1,T,x2,x3⟩:=Vy (step:=Xh fuel) l.length (λj s=>∃T,s=((l.length:Int),(j:Int),k,t,to,z,T,q,([]:List Out))∧MkT l o T) (λx=>∃T,x=(k,t,to,z,T,q,([]:List Out))∧MkT l o T)
  (i:=((l.length:Int),(0:Int),k,t,to,z,((bare l,[o],0):Tx),q,([]:List Out))) ⟨_,rfl,ZE7⟩ (by omega) (by
  rintro j _ hj ⟨T,rfl,hT⟩;obtain⟨y,hy,_⟩:=Zu hj;obtain⟨sg,_,_,s2⟩:=ZGk hc ho hT hy (br:=0) (by decide) (by decide) hk 0;left;unfold Xh;dsimp only;rw[if_pos (YD hj),s2,yf,ZP (by omega)];exact⟨_,rfl,_,rfl,ZMS hT hy ⟨Int.le_refl 0,(show(0:Int) < 4 by decide),by simp⟩⟩) (by
  rintro _ ⟨T,rfl,hT⟩;unfold Xh;dsimp only;rw[if_neg (by rw[Z9];decide)];exact⟨_,rfl,T,rfl,hT⟩)
 rw[x2] at x1;exact⟨T,x1,x3⟩
structure Clm(k:BackupKept)(t:Tx)(to:Lock)(fee:Int)(l:List Nat)(T:Tx):Prop where
 ne:l≠[]
 fd:Fnd k t l
 lk:LockOk to∧LockPt to
 c:ClOk (srcL (nmF t) l)
 o:CoinOk (amtF t l - fee,to)
 tx:MkT (srcL (nmF t) l) (amtF t l - fee,to) T
theorem ZJe{k:BackupKept}{t:Tx}{to:Lock}{fee:Int}(w:ChWf k.1)(hl:TxL t)(hw:ZDF t)(hto:LockWf to)(h20:t.2.1.length≤20):
 ∃r,Zby fuel k t to fee=some r∧((r.2≠0∧r.1=([],[],0))∨∃l T,r=(T,0)∧Clm k t to fee l T):=by
 obtain⟨b,b1,b2⟩:=Zez hto;unfold Zby;rw[b1,yf]
 cases b with
 |false=>exact⟨_,rfl,.inl ⟨by decide,rfl⟩⟩
 |true=>
  rw[if_neg (by decide)];by_cases f0:fee < 0
  ·rw[if_pos (decide_eq_true f0)];exact⟨_,rfl,.inl ⟨by decide,rfl⟩⟩
  rw[if_neg (show¬decide (fee < 0)=true by rw[decide_eq_true_iff];exact f0)];obtain⟨l,l1,fd⟩:=ZJb w hl;rw[l1,yf];by_cases hne:l=[]
  ·subst hne;exact⟨_,rfl,.inl ⟨by decide,rfl⟩⟩
  have hl0:0 < l.length:=by
   rcases ybt l.length with h|h
   ·exact absurd (yaz h) hne
   ·exact h
  rw[if_neg (show¬(((Zj9 l).length:Int)==0)=true by rw[beq_iff_eq,ZgI];omega)];obtain⟨hk,hr,rt,_⟩:=fd.key hne;obtain⟨i1,i2⟩:=rt.id hw hr;rw[ZFa rt hw hr,yf,ZJc rt fd fee to,yf];dsimp only;by_cases f1:amtF t l < fee
  ·rw[if_pos (decide_eq_true f1)];exact⟨_,rfl,.inl ⟨by decide,rfl⟩⟩
  rw[if_neg (show¬decide (amtF t l < fee)=true by rw[decide_eq_true_iff];exact f1)];have hs:=Zr6 (λo h=>rt.ok.2.2.2.2.2 o h) fd.up fd.lt l.length (ym _);rw[yay] at hs;have hs2:=hs.2 t.2.1.length fd.lt
  have hcap:Zaq t.2.1≤1125899906842624:=by
   rcases ybt t.2.1.length with h|h
   ·rw[yaz h];decide
   ·obtain⟨o,hx,_⟩:=Zu (l:=t.2.1) (k:=t.2.1.length - 1) (by omega);have:=(rt.outs (t.2.1.length - 1) (by omega) o hx).2
    rwa [show t.2.1.length - 1+1=t.2.1.length by omega,yay] at this
  rw[yay] at hs2;have hco:CoinOk (amtF t l - fee,to):=⟨⟨by dsimp only;omega,by dsimp only;omega⟩,b2.1 rfl⟩;have hcl:=ZKL i2 fd.up fd.lt (by have:=fd.len;omega) rt.o1 hne;rw[Y3 (z:=amtF t l - fee) (by omega) (by omega)];obtain⟨T,T1,T2⟩:=ZJd hcl hco hk t to (([]:List In),([]:List Out),(0:Int)) (bare (srcL (nmF t) l));rw[ZeA] at T1;rw[ZgI];rw[T1,yf];exact⟨_,rfl,.inr ⟨l,T,rfl,hne,fd,b2.1 rfl,hcl,hco,T2⟩⟩
end Go.Proofs.YtekdgjajmennjaaGreat
end
section
set_option maxRecDepth 100000
namespace Go.Proofs.YtekdgjajmennjaaGreat
open Go Go.Ev
noncomputable section
def sd1:List UInt8:=[1,0,0,0,0,0,0,0,0,0,0,0,0,0,0,0,0,0,0,0,0,0,0,0,0,0,0,0,0,0,0,0]
def kt1:Kit:=(2072101336324354433,1728786906511799908,2048662411413283118,1784403759221825084,1029399409459846816,[88,250,0,252,227,35,15,64,138,51,207,36,89,65,205,155,21,170,15,185,246,119,254,243,6,204,53,138,118,39,233,111])
theorem ZMU:Zgu 18446744073709551616 sd1=some kt1:=by kernel_rfl
theorem ZKM:Za6 18446744073709551616 kt1 0=some (3457188808171160469,true):=by decide+kernel
theorem ZKN:Za6 18446744073709551616 kt1 1=some (3190203784800143504,true):=by decide+kernel
def sd2:List UInt8:=[2,0,0,0,0,0,0,0,0,0,0,0,0,0,0,0,0,0,0,0,0,0,0,0,0,0,0,0,0,0,0,0]
def kt2:Kit:=(1305380350991396904,589199544144668201,578832145571974099,1103751915044840651,2186824319021734715,[60,208,91,221,147,190,4,197,114,171,83,133,192,106,205,166,183,68,218,15,86,245,183,42,13,249,45,114,246,59,218,167])
theorem ZMV:Zgu 18446744073709551616 sd2=some kt2:=by kernel_rfl
theorem ZKO:Za6 18446744073709551616 kt2 0=some (4185533516973979542,true):=by decide+kernel
theorem ZKP:Za6 18446744073709551616 kt2 1=some (3609844275354265494,true):=by decide+kernel
def ZMW(F:Nat)(s:List UInt8):Option Kit:=if s=sd1 then some kt1 else if s=sd2 then some kt2 else Zgu F s
def ZMX(F:Nat)(k:Kit)(n:Int):Option (UInt64×Bool):=if k=kt1∧n=0 then some (3457188808171160469,true) else if k=kt1∧n=1 then some (3190203784800143504,true) else if k=kt2∧n=0 then some (4185533516973979542,true) else if k=kt2∧n=1 then some (3609844275354265494,true) else Za6 F k n
theorem ZKQ(s:List UInt8):ZMW 18446744073709551616 s=Zgu 18446744073709551616 s:=by
 unfold ZMW;split
 ·next h=>rw[h,ZMU]
 split
 ·next h=>rw[h,ZMV]
 rfl
theorem ZKR(k:Kit)(n:Int):ZMX 18446744073709551616 k n=Za6 18446744073709551616 k n:=by
 unfold ZMX;split
 ·next h=>rw[h.1,h.2,ZKM]
 split
 ·next h=>rw[h.1,h.2,ZKN]
 split
 ·next h=>rw[h.1,h.2,ZKO]
 split
 ·next h=>rw[h.1,h.2,ZKP]
 rfl
def Zc7(F:Nat):Fs ya:=⟨79,[.v (.arr 32 .u8)],[],[(.arr 32 .u8)],[⟨.ret,[(0,.v Zi9)],[],[Zi9]⟩],λx=>ZMW F x⟩
theorem ZzF:(Zc7 18446744073709551616).Ok:=by
 have e:Zc7 18446744073709551616=Zfj 18446744073709551616:=by
  unfold Zc7 Zfj;congr;funext x;exact ZKQ x
 rw[e];exact okN Zfj ZBE
def Zc8(F:Nat):Fs ya:=⟨80,[.v Zi9,.v (.int .i64)],[],[Zi9,(.int .i64)],[⟨.ret,[(0,.tup [.v .u64,.v .bool])],[],[.u64,.bool]⟩],λx=>ZMX F x.1 x.2⟩
theorem ZzG:(Zc8 18446744073709551616).Ok:=by
 have e:Zc8 18446744073709551616=Zfn 18446744073709551616:=by
  unfold Zc8 Zfn;congr;funext x;exact ZKR x.1 x.2
 rw[e];exact okN Zfn ZBF
end
end Go.Proofs.YtekdgjajmennjaaGreat
end
