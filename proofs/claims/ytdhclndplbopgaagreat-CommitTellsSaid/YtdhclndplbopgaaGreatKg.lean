/- Parts of the proof, in one file. -/
import Derived.Test.YtdhclndplbopgaaGreatKf
open BitVec renaming ofInt → ybz
open Bool renaming eq_iff_iff → yck
open Go.Proofs.Tryz renaming prog → yb
open Int renaming toNat_natCast → yau
open List renaming length_append → yo, getElem?_eq_some_iff → yq, nil_append → yw, length_map → yy, getElem?_eq_getElem → yab, append_assoc → yad, mem_cons → yae, map_cons → yag, mem_append → yah, length_take → yai, length_cons → yaj, take_length → yao, not_mem_nil → yap, getElem?_eq_none → yaq, map_append → yas, getElem?_append_right → yat, mem_singleton → yav, mem_cons_self → yaw, getElem?_cons_succ → yax, mem_cons_of_mem → yay, append_nil → yaz, getElem?_cons_zero → ybb, take_append_drop → ybm, getElem_of_mem → ybx, take_of_length_le → ycm
open Nat renaming le_refl → ym, mod_eq_of_lt → yak, mod_lt → ybj, le_trans → ybl, add_zero → ybw
open Option renaming bind_some → ya
open UInt64 renaming ofNat → yac, toNat_ofNat' → ybd, toNat_lt → ybt, lt_iff_toNat_lt → yca, toNat_inj → ycl, le_iff_toNat_le → ycu
open UInt8 renaming ofNat → ybc
set_option linter.unusedVariables false
set_option linter.unusedSimpArgs false
section
set_option maxRecDepth 4000
namespace Go.Proofs.YtdhclndplbopgaaGreat
open Go Go.Ev
noncomputable section
def Y7(F:Nat)(a0:ZR):yO (Bool):=
 if(decide ((a0.length:Int) < 1))=true then
  some false
 else
 if(decide ((a0.length:Int) > 4))=true then
  some false
 else
 (Zb (XY F) F (0,a0)).bind λo1071=>
 match o1071 with
 |.inl o1072=>
  some o1072.1
 |.inr o1073=>
  some true
def Zng(F:Nat):Fs yb:=⟨99,[.v Zr],[],[Zr],(zN .bool),λx=>Y7 F x⟩
def VQ:Fs yb:=Zng yD
theorem Zaa:VQ.Ok:=fnO { still:=[2,25]} [(0,ZdN)] [] trivial ⟨ZjS,ytt⟩
def WG(F:Nat)(rc:Int->yO ((yL yB)))(a0:Int):yO ((yL yB)):=
 if(decide (a0 < 128))=true then
  some [w8 a0]
 else
 (rc (wi (Int.tdiv a0 128))).bind λo1074=>
 if(apB 1 o1074.length 1)=true then
  let y1075:(yL yB):=([(w8 (Int.tmod a0 128))+128]:yL yB)++o1074
  some y1075
 else
 none
def QP(rc:Int->yO ((yL yB))):Fs yb:=⟨238,[.v yI],[],[yI],(zN (.sl .u8)),λx=>rc x⟩
def ZSq:HI:={ own:=[3,13,14,18],still:=[2,16]}
theorem Znh(rc:Int->yO ((yL yB)))(hr:(QP rc).Ok):(QP (WG yD rc)).Ok:=fnO ZSq [] [(QP rc)] ⟨hr,ytt⟩
def VR(F k:Nat):Int->yO ((yL yB)):=Nat.rec (motive:=λ_=>Int->yO ((yL yB))) (λ_=>none) (λ_ ih=>WG F ih) k
theorem Zfv:∀k,(QP (VR yD k)).Ok
 |0=>λx o h=>by cases (show none=some o from h)
 |k+1=>Znh _ (Zfv k)
def Zal(F:Nat)(a0:Int):yO ((yL yB)):=VR F 12 a0
def Zqf(F:Nat):Fs yb:=⟨238,[.v yI],[],[yI],(zN (.sl .u8)),λx=>Zal F x⟩
def ZbZ:Fs yb:=Zqf yD
theorem Zgm:ZbZ.Ok:=Zfv 12
def Z1(F:Nat)(a0:(yL yB))(a1:Int):yO ((yL yB)):=
 if(apB 0 a0.length 1)=true then
  if(decide (a1 >= 0))=true then
   (Zal F a1).bind λo1076=>
   if(apB a0.length o1076.length 1)=true then
    some (a0++o1076)
   else
   none
  else
  some a0
 else
 none
def Zqg(F:Nat):Fs yb:=⟨186,[.v (.sl .u8),.v yI],[],[(.sl .u8),yI],(zN (.sl .u8)),λx=>Z1 F x.1 x.2⟩
def Wj:Fs yb:=Zqg yD
def ZSr:HI:={ own:=[5,6,8,11,14],still:=[4,12]}
theorem WO:Wj.Ok:=fnO ZSr [] [ZbZ] ⟨Zgm,ytt⟩
def YR(F:Nat)(s:((yL yB)×Int×Int×ZR×Zn)):yO (((yL yB)×Int×Int×ZR×Zn)⊕((yL yB)×Int×ZR×Zn)):=
 if(decide (s.2.2.1 < (s.2.2.2.2.1.length:Int)))=true then
  (idx s.2.2.2.2.1 s.2.2.1).bind λe1081=>
  (YL F s.1 e1081).bind λo1082=>
  some (.inl (o1082,s.2.1,wi (s.2.2.1+1),s.2.2.2.1,s.2.2.2.2))
 else
 some (.inr (s.1,s.2.1,s.2.2.2.1,s.2.2.2.2))
def ZdO:Lp:=⟨[(1,.ref 0 []),(3,.v (.sl .u8)),(4,.v yI),(5,.ref 1 []),(6,.v yI)],[.var (.v Zr) true,.var (.v Ze) true],[(.sl .u8),yI,yI,Zr,Ze],[⟨.exit 2,[(1,.ref 0 []),(3,.v (.sl .u8)),(4,.v yI),(5,.ref 1 [])],[.var (.v Zr) true,.var (.v Ze) true],[(.sl .u8),yI,Zr,Ze]⟩],Zb (YR yD) yD⟩
def ZQI:HI:={ still:=[2,7,12,26,29,38,43,45,47,49,51,53,55]}
theorem ZjT:ZdO.okA yb 106 1:=Zv ZQI [] [Vq] ⟨QO,ytt⟩
def YS(F:Nat)(s:((yL yB)×Int×ZR)):yO (((yL yB)×Int×ZR)⊕((yL yB)×ZR)):=
 if(decide (s.2.1 < (s.2.2.length:Int)))=true then
  (idx s.2.2 s.2.1).bind λe1079=>
  (Z1 F s.1 (e1079.1.length:Int)).bind λo1080=>
  (Zb (YR F) F (o1080,s.2.1,0,s.2.2,e1079)).bind λo1083=>
  (Z1 F o1083.1 o1083.2.2.2.2.1).bind λo1084=>
  (Z1 F o1084 o1083.2.2.2.2.2.1).bind λo1085=>
  (YL F o1085 o1083.2.2.2.2.2.2).bind λo1086=>
  some (.inl (o1086,wi (o1083.2.1+1),o1083.2.2.1))
 else
 some (.inr (s.1,s.2.2))
def ZdP:Lp:=⟨[(1,.ref 0 []),(3,.v (.sl .u8)),(4,.v yI)],[.var (.v Zr) true],[(.sl .u8),yI,Zr],[⟨.exit 0,[(3,.v (.sl .u8))],[.var (.v Zr) true],[(.sl .u8),Zr]⟩],Zb (YS yD) yD⟩
theorem ZjU:ZdP.okA yb 106 0:=Zv ZQI [(1,ZdO)] [Wj,Vq] ⟨WO,QO,ytt⟩ ⟨ZjT,ytt⟩
def WP(F:Nat)(a0:ZR):yO ((yL yB)):=
 (Y7 F a0).bind λo1077=>
 if(!o1077)=true then
  some []
 else
 (Z1 F [] (a0.length:Int)).bind λo1078=>
 (Zb (YS F) F (o1078,0,a0)).bind λo1087=>
 some o1087.1
def Zni(F:Nat):Fs yb:=⟨106,[.v Zr],[],[Zr],(zN (.sl .u8)),λx=>WP F x⟩
def ZaT:Fs yb:=Zni yD
theorem ZdQ:ZaT.Ok:=fnO ZQI [(0,ZdP)] [VQ,Wj] ⟨Zaa,WO,ytt⟩ ⟨ZjU,ytt⟩
def VS(F:Nat)(a0:ZR):yO ((yL yB)):=
 (Y7 F a0).bind λo1088=>
 if(!o1088)=true then
  some yzz
 else
 (WP F a0).bind λo1089=>
 (Yw F ZMs [o1089]).bind λo1090=>
 some o1090
def Zqh(F:Nat):Fs yb:=⟨220,[.v Zr],[],[Zr],(zN (.arr 32 .u8)),λx=>VS F x⟩
def Zil:Fs yb:=Zqh yD
theorem Zqi:Zil.Ok:=fnO { still:=[3,7,9]} [] [VQ,ZaT,Xs] ⟨Zaa,ZdQ,X1,ytt⟩
abbrev Zj:Ty:=(.st [ZM,Vf])
abbrev Zc:Type:=(Out×V1)
def YT(F:Nat)(s:(Int×Zc×Zc×(yL yB)×(yL yB))):yO ((Int×Zc×Zc×(yL yB)×(yL yB))⊕((Bool×Zc×Zc×(yL yB)×(yL yB))⊕(Zc×Zc×(yL yB)×(yL yB)))):=
 if(decide (s.1 < 32))=true then
  if(inB s.1 32)=true then
   (s.2.2.2.1[s.1.toNat]?).bind λe1093=>
   if(inB s.1 32)=true then
    (s.2.2.2.2[s.1.toNat]?).bind λe1094=>
    if(e1093 !=e1094)=true then
     if(inB s.1 32)=true then
      (s.2.2.2.1[s.1.toNat]?).bind λe1095=>
      if(inB s.1 32)=true then
       (s.2.2.2.2[s.1.toNat]?).bind λe1096=>
       some (.inr (.inl (decide (e1095 < e1096),s.2.1,s.2.2.1,s.2.2.2.1,s.2.2.2.2)))
      else
      none
     else
     none
    else
    some (.inl (wi (s.1+1),s.2.1,s.2.2.1,s.2.2.2.1,s.2.2.2.2))
   else
   none
  else
  none
 else
 some (.inr (.inr (s.2.1,s.2.2.1,s.2.2.2.1,s.2.2.2.2)))
abbrev zD:List ESh:=[.var (.v Zj) true,.var (.v Zj) true,.var (.v (.arr 32 .u8)) true,.var (.v (.arr 32 .u8)) true]
def ZdR:Lp:=⟨[(2,.ref 0 []),(3,.ref 1 []),(5,.ref 2 []),(6,.ref 3 []),(7,.v yI)],zD,[yI,Zj,Zj,(.arr 32 .u8),(.arr 32 .u8)],[⟨.ret,[(4,.v .bool)],zD,[.bool,Zj,Zj,(.arr 32 .u8),(.arr 32 .u8)]⟩,⟨.exit 0,[(2,.ref 0 []),(3,.ref 1 [])],zD,[Zj,Zj,(.arr 32 .u8),(.arr 32 .u8)]⟩],Zb (YT yD) yD⟩
theorem ZjV:ZdR.okA yb 147 0:=Zv { still:=[4,24,28]} [] [] trivial
def Qc(F:Nat)(a0:Zc)(a1:Zc):yO (Bool):=
 if(a0.1.1 !=a1.1.1)=true then
  some (decide (a0.1.1 < a1.1.1))
 else
 (VS F a0.1.2).bind λo1091=>
 (VS F a1.1.2).bind λo1092=>
 (Zb (YT F) F (0,a0,a1,o1091,o1092)).bind λo1097=>
 match o1097 with
 |.inl o1098=>
  some o1098.1
 |.inr o1099=>
  if(o1099.1.2.1 !=o1099.2.1.2.1)=true then
   some (decide (o1099.1.2.1 < o1099.2.1.2.1))
  else
  if(decide (o1099.1.2.2.1 < o1099.2.1.2.2.1))=true then
   some true
  else
  if(o1099.1.2.2.1==o1099.2.1.2.2.1)=true then
   some (decide (o1099.1.2.2.2.1 < o1099.2.1.2.2.2.1))
  else
  some false
def Znj(F:Nat):Fs yb:=⟨147,[.v Zj,.v Zj],[],[Zj,Zj],(zN .bool),λx=>Qc F x.1 x.2⟩
def Zfw:Fs yb:=Znj yD
theorem Znk:Zfw.Ok:=fnO { still:=[4,24,28]} [(0,ZdR)] [Zil] ⟨Zqi,ytt⟩ ⟨ZjV,ytt⟩
def Wd(F:Nat)(s:((yL Zc)×Int×Zc)):yO (((yL Zc)×Int×Zc)⊕((yL Zc)×Int×Zc)):=
 if(decide (s.2.1 < (s.1.length:Int)))=true then
  (idx s.1 s.2.1).bind λe1100=>
  (Qc F s.2.2 e1100).bind λo1101=>
  if(!o1101)=true then
   some (.inl (s.1,wi (s.2.1+1),s.2.2))
  else
  some (.inr (s.1,s.2.1,s.2.2))
 else
 some (.inr (s.1,s.2.1,s.2.2))
def Zfx:Lp:=⟨[(0,.v (.sl Zj)),(3,.ref 0 []),(5,.v yI)],[.var (.v Zj) true],[(.sl Zj),yI,Zj],[⟨.exit 0,[(0,.v (.sl Zj)),(3,.ref 0 []),(5,.v yI)],[.var (.v Zj) true],[(.sl Zj),yI,Zj]⟩],Zb (Wd yD) yD⟩
def ZRO:HI:={ own:=[23,27,28,32,34],still:=[4,12,16]}
theorem ZkO:Zfx.okA yb 67 0:=Zv ZRO [] [Zfw] ⟨Znk,ytt⟩
def Zh(F:Nat)(a0:(yL Zc))(a1:Zc):yO ((yL Zc)):=
 (Zb (Wd F) F (a0,0,a1)).bind λo1102=>
 if(Zbp o1102.1.length (some o1102.2.1) none)=true then
  if(apB 1 ((o1102.1.drop o1102.2.1.toNat).length) 80)=true then
   let y1103:(yL Zc):=([o1102.2.2]:yL Zc)++(o1102.1.drop o1102.2.1.toNat)
   if(Zbp o1102.1.length none (some o1102.2.1))=true then
    if(apB 0 ((o1102.1.take o1102.2.1.toNat).length) 80)=true then
     if(apB ((o1102.1.take o1102.2.1.toNat).length) y1103.length 80)=true then
      some ((o1102.1.take o1102.2.1.toNat)++y1103)
     else
     none
    else
    none
   else
   none
  else
  none
 else
 none
def ZoL(F:Nat):Fs yb:=⟨67,[.v (.sl Zj),.v Zj],[],[(.sl Zj),Zj],(zN (.sl Zj)),λx=>Zh F x.1 x.2⟩
def Zbl:Fs yb:=ZoL yD
theorem Zfy:Zbl.Ok:=fnO ZRO [(0,Zfx)] [] trivial ⟨ZkO,ytt⟩
def QQ(F:Nat)(a0:yU)(a1:yU)(a2:Int):yO (ZR):=
 some [([a1],0,0,0),([a0],0,a2,0)]
def ZoM(F:Nat):Fs yb:=⟨68,[.v .u64,.v .u64,.v yI],[],[.u64,.u64,yI],(zN Zr),λx=>QQ F x.1 x.2.1 x.2.2⟩
def Zgn:Fs yb:=ZoM yD
theorem ZoN:Zgn.Ok:=fnO {} [] [] trivial
def VT(F:Nat)(a0:(yL yU)):yO (ZR):=
 if(apB 0 a0.length 8)=true then
  some [(a0,0,0,0)]
 else
 none
def Zqj(F:Nat):Fs yb:=⟨148,[.v (.sl .u64)],[],[(.sl .u64)],(zN Zr),λx=>VT F x⟩
def Zb0:Fs yb:=Zqj yD
theorem Zgo:Zb0.Ok:=fnO { own:=[3,5]} [] [] trivial
def XZ(F:Nat)(a0:yU):yO (ZR):=
 (VT F [a0]).bind λo1104=>
 some o1104
def Zqk(F:Nat):Fs yb:=⟨69,[.v .u64],[],[.u64],(zN Zr),λx=>XZ F x⟩
def Zim:Fs yb:=Zqk yD
theorem Zql:Zim.Ok:=fnO { still:=[4]} [] [Zb0] ⟨Zgo,ytt⟩
def Zx(F:Nat)(a0:yU):yO (ZR):=
 some [([a0],0,0,0),([],0,16,0)]
def Zma(F:Nat):Fs yb:=⟨70,[.v .u64],[],[.u64],(zN Zr),λx=>Zx F x⟩
def ZdS:Fs yb:=Zma yD
theorem Zmb:ZdS.Ok:=fnO {} [] [] trivial
def Vl(F:Nat)(a0:Chan)(a1:Cond)(a2:Int)(a3:yU):yO (ZR):=
 if(inB (wi (1 - a2)) 2)=true then
  (a0.2.2.2.1[(wi (1 - a2)).toNat]?).bind λe1105=>
  if(inB (wi (1 - a2)) 2)=true then
   (a0.2.2.1[(wi (1 - a2)).toNat]?).bind λe1106=>
   (XF F e1106.2.2.2.2 a3).bind λo1107=>
   if(inB a2 2)=true then
    (a0.2.2.1[a2.toNat]?).bind λe1108=>
    (XX F e1108.2.2.2.1 a3).bind λo1109=>
    if(inB (wi (1 - a2)) 2)=true then
     (a0.2.2.1[(wi (1 - a2)).toNat]?).bind λe1110=>
     (XX F e1110.2.2.2.1 a3).bind λo1111=>
     if(a1.1==a2)=true then
      some [([o1107],0,0,0),([o1111],0,0,a1.2.2.2.1),([o1109],a1.2.2.2.2,e1105.2.2.1,0)]
     else
     some [([o1107],0,0,0),([o1109],0,e1105.2.2.1,a1.2.2.2.1),([o1111],a1.2.2.2.2,0,0)]
    else
    none
   else
   none
  else
  none
 else
 none
def ZoO(F:Nat):Fs yb:=⟨72,[.v Zu,.v Yc,.v yI,.v .u64],[],[Zu,Yc,yI,.u64],(zN Zr),λx=>Vl F x.1 x.2.1 x.2.2.1 x.2.2.2⟩
def Zgp:Fs yb:=ZoO yD
theorem ZoP:Zgp.Ok:=fnO { still:=[26,27,33,34,40,41]} [] [Q9,ZbY] ⟨Zc4,Zgl,ytt⟩
abbrev dT8:Type:=((yL Zc)×Int×Chan×yG×Commit×(yL In)×Int×(yL V1)×(yL Out))
def ZRP:yL ESh:=[.var (.v Zu) true,.var (.v Zf) true,.var (.v Xa) true,.var (.agg [.agg [.v (.sl yIn),.own 5 ZM,.v yI],.own 4 Vf]) true,.log Vf 114,.log ZM 112]
abbrev ZSs:yL Ty:=[(.sl Zj),yI,Zu,Zf,Xa,(.sl yIn),yI,(.sl Vf),(.sl ZM)]
def ZD(F:Nat)(s:(Int×yU×(yL Zc)×(yL Cond)×Int×Chan×yG×Commit)):yO ((Int×yU×(yL Zc)×(yL Cond)×Int×Chan×yG×Commit)⊕(Int×(yL Zc)×Chan×yG×Commit)):=
 if(decide (s.2.2.2.2.1 < (s.2.2.2.1.length:Int)))=true then
  (idx s.2.2.2.1 s.2.2.2.2.1).bind λe1177=>
  if(e1177.1==s.1)=true then
   (idx s.2.2.2.1 s.2.2.2.2.1).bind λe1178=>
   (idx s.2.2.2.1 s.2.2.2.2.1).bind λe1179=>
   (Vl F s.2.2.2.2.2.1 e1179 s.1 s.2.1).bind λo1180=>
   (idx s.2.2.2.1 s.2.2.2.2.1).bind λe1181=>
   (Zh F s.2.2.1 ((e1178.2.2.1,o1180),(5,e1181))).bind λo1182=>
   some (.inl (s.1,s.2.1,o1182,s.2.2.2.1,wi (s.2.2.2.2.1+1),s.2.2.2.2.2.1,s.2.2.2.2.2.2.1,s.2.2.2.2.2.2.2))
  else
  (idx s.2.2.2.1 s.2.2.2.2.1).bind λe1183=>
  (idx s.2.2.2.1 s.2.2.2.2.1).bind λe1184=>
  (Vl F s.2.2.2.2.2.1 e1184 s.1 s.2.1).bind λo1185=>
  (idx s.2.2.2.1 s.2.2.2.2.1).bind λe1186=>
  (Zh F s.2.2.1 ((e1183.2.2.1,o1185),(6,e1186))).bind λo1187=>
  some (.inl (s.1,s.2.1,o1187,s.2.2.2.1,wi (s.2.2.2.2.1+1),s.2.2.2.2.2.1,s.2.2.2.2.2.2.1,s.2.2.2.2.2.2.2))
 else
 some (.inr (s.1,s.2.2.1,s.2.2.2.2.2.1,s.2.2.2.2.2.2.1,s.2.2.2.2.2.2.2))
def Zfz:Lp:=⟨[(2,.v yI),(3,.v .u64),(4,.ref 0 []),(5,.ref 1 []),(8,.ref 2 []),(13,.v (.sl Zj)),(20,.v (.sl Yc)),(21,.v yI)],[.var (.v Zu) true,.var (.v Zf) true,.var (.v Xa) true],[yI,.u64,(.sl Zj),(.sl Yc),yI,Zu,Zf,Xa],[⟨.exit 0,[(2,.v yI),(4,.ref 0 []),(5,.ref 1 []),(8,.ref 2 []),(13,.v (.sl Zj))],[.var (.v Zu) true,.var (.v Zf) true,.var (.v Xa) true],[yI,(.sl Zj),Zu,Zf,Xa]⟩],Zb (ZD yD) yD⟩
def ZSt:HI:={ own:=[191,198,202,209],still:=[9,25,38,39,46,47,48,49,51,52,53,54,59,60,65,66,73,74,80,81,83,85,86,91,95,98,104,108,110,115,119,121,126,130,132,133,134,149,155,159,160,161,170]}
theorem ZkP:Zfz.okA yb 8 0:=Zv ZSt [] [Zgp,Zbl] ⟨ZoP,Zfy,ytt⟩
def ZE(F:Nat)(s:dT8):yO (dT8⊕(Chan×yG×Commit×(yL In)×Int×(yL V1)×(yL Out))):=
 if(decide (s.2.1 < (s.1.length:Int)))=true then
  (idx s.1 s.2.1).bind λe1189=>
  if(apB s.2.2.2.2.2.2.2.2.length 1 32)=true then
   (idx s.1 s.2.1).bind λe1190=>
   if(apB s.2.2.2.2.2.2.2.1.length 1 48)=true then
    some (.inl (s.1,wi (s.2.1+1),s.2.2.1,s.2.2.2.1,s.2.2.2.2.1,s.2.2.2.2.2.1,s.2.2.2.2.2.2.1,s.2.2.2.2.2.2.2.1++([e1190.2]:yL V1),s.2.2.2.2.2.2.2.2++([e1189.1]:yL Out)))
   else
   none
  else
  none
 else
 some (.inr (s.2.2.1,s.2.2.2.1,s.2.2.2.2.1,s.2.2.2.2.2.1,s.2.2.2.2.2.2.1,s.2.2.2.2.2.2.2.1,s.2.2.2.2.2.2.2.2))
def ZfA:Lp:=⟨[(8,.ref 2 []),(13,.v (.sl Zj)),(23,.ref 3 []),(24,.v yI)],ZRP,ZSs,[⟨.exit 2,[(8,.ref 2 []),(23,.ref 3 [])],ZRP,[Zu,Zf,Xa,(.sl yIn),yI,(.sl Vf),(.sl ZM)]⟩],Zb (ZE yD) yD⟩
def ZRQ:HI:={ own:=[191,198,202,209],still:=[9,25,38,39,46,47,48,49,51,52,53,54,59,60,65,66,73,74,80,81,83,85,86,91,95,98,104,108,110,115,119,121,126,130,132,133,134,149,155,159,160,161,170],gst:=[(23,[([1],Vf,114),([0,1],ZM,112)])]}
theorem ZkQ:ZfA.okA yb 8 1:=Zv ZRQ [] [] trivial
def Yk(F:Nat)(a0:Chan)(a1:yG)(a2:Int)(a3:yU):yO ((Commit×Int)):=
 (Yd F a3).bind λo1152=>
 if(a2 !=0)=true then
  if(a2 !=1)=true then
   some ((([],[],0),[]),1)
  else
  if(!o1152)=true then
   some ((([],[],0),[]),1)
  else
  (Z5 F a0 a1).bind λo1153=>
  if(!o1153)=true then
   some ((([],[],0),[]),14)
  else
  (ZW F a0 a1 a2 a2).bind λo1154=>
  (ZW F a0 a1 a2 (wi (1 - a2))).bind λo1155=>
  if(inB a2 2)=true then
   (a0.2.2.2.1[a2.toNat]?).bind λe1156=>
   (Ys F e1156 o1154).bind λo1157=>
   if(inB a2 2)=true then
    (a0.2.2.2.1[a2.toNat]?).bind λe1158=>
    (Ys F e1158 o1155).bind λo1159=>
    if o1157=true then
     if(inB a2 2)=true then
      (a0.2.2.1[a2.toNat]?).bind λe1160=>
      (XX F e1160.2.2.1 a3).bind λo1161=>
      if(inB (wi (1 - a2)) 2)=true then
       (a0.2.2.1[(wi (1 - a2)).toNat]?).bind λe1162=>
       (XF F e1162.2.2.2.2 a3).bind λo1163=>
       if(inB (wi (1 - a2)) 2)=true then
        (a0.2.2.2.1[(wi (1 - a2)).toNat]?).bind λe1164=>
        (QQ F o1161 o1163 e1164.2.2.1).bind λo1165=>
        (Zh F [] ((o1154,o1165),(1,(0,0,0,0,0)))).bind λo1166=>
        if o1159=true then
         if(inB (wi (1 - a2)) 2)=true then
          (a0.2.2.1[(wi (1 - a2)).toNat]?).bind λe1167=>
          (XZ F e1167.2.1).bind λo1168=>
          (Zh F o1166 ((o1155,o1168),(2,(0,0,0,0,0)))).bind λo1169=>
          if(inB a2 2)=true then
           (a0.2.2.1[a2.toNat]?).bind λe1170=>
           (Zx F e1170.1).bind λo1171=>
           (Zh F o1169 ((330,o1171),(3,(0,0,0,0,0)))).bind λo1172=>
           if(inB (wi (1 - a2)) 2)=true then
            (a0.2.2.1[(wi (1 - a2)).toNat]?).bind λe1173=>
            (Zx F e1173.1).bind λo1174=>
            (Zh F o1172 ((330,o1174),(4,(0,0,0,0,0)))).bind λo1175=>
            (ZB F a0 a1 a2).bind λo1176=>
            (Zb (ZD F) F (a2,a3,o1175,o1176,0,a0,a1,(([],[],0),[]))).bind λo1188=>
            (Zb (ZE F) F (o1188.2.1,0,o1188.2.2.1,o1188.2.2.2.1,o1188.2.2.2.2,[(o1188.2.2.1.1,(0,[],0))],wi ((wi (2*o1188.2.2.2.1.1))+o1188.1),[],[])).bind λo1191=>
            some (((o1191.2.2.2.1,o1191.2.2.2.2.2.2,o1191.2.2.2.2.1),o1191.2.2.2.2.2.1),0)
           else
           none
          else
          none
         else
         none
        else
        if(inB a2 2)=true then
         (a0.2.2.1[a2.toNat]?).bind λe1192=>
         (Zx F e1192.1).bind λo1193=>
         (Zh F o1166 ((330,o1193),(3,(0,0,0,0,0)))).bind λo1194=>
         if(inB (wi (1 - a2)) 2)=true then
          (a0.2.2.1[(wi (1 - a2)).toNat]?).bind λe1195=>
          (Zx F e1195.1).bind λo1196=>
          (Zh F o1194 ((330,o1196),(4,(0,0,0,0,0)))).bind λo1197=>
          (ZB F a0 a1 a2).bind λo1198=>
          (Zb (ZD F) F (a2,a3,o1197,o1198,0,a0,a1,(([],[],0),[]))).bind λo1199=>
          (Zb (ZE F) F (o1199.2.1,0,o1199.2.2.1,o1199.2.2.2.1,o1199.2.2.2.2,[(o1199.2.2.1.1,(0,[],0))],wi ((wi (2*o1199.2.2.2.1.1))+o1199.1),[],[])).bind λo1200=>
          some (((o1200.2.2.2.1,o1200.2.2.2.2.2.2,o1200.2.2.2.2.1),o1200.2.2.2.2.2.1),0)
         else
         none
        else
        none
       else
       none
      else
      none
     else
     none
    else
    if o1159=true then
     if(inB (wi (1 - a2)) 2)=true then
      (a0.2.2.1[(wi (1 - a2)).toNat]?).bind λe1201=>
      (XZ F e1201.2.1).bind λo1202=>
      (Zh F [] ((o1155,o1202),(2,(0,0,0,0,0)))).bind λo1203=>
      if(inB a2 2)=true then
       (a0.2.2.1[a2.toNat]?).bind λe1204=>
       (Zx F e1204.1).bind λo1205=>
       (Zh F o1203 ((330,o1205),(3,(0,0,0,0,0)))).bind λo1206=>
       if(inB (wi (1 - a2)) 2)=true then
        (a0.2.2.1[(wi (1 - a2)).toNat]?).bind λe1207=>
        (Zx F e1207.1).bind λo1208=>
        (Zh F o1206 ((330,o1208),(4,(0,0,0,0,0)))).bind λo1209=>
        (ZB F a0 a1 a2).bind λo1210=>
        (Zb (ZD F) F (a2,a3,o1209,o1210,0,a0,a1,(([],[],0),[]))).bind λo1211=>
        (Zb (ZE F) F (o1211.2.1,0,o1211.2.2.1,o1211.2.2.2.1,o1211.2.2.2.2,[(o1211.2.2.1.1,(0,[],0))],wi ((wi (2*o1211.2.2.2.1.1))+o1211.1),[],[])).bind λo1212=>
        some (((o1212.2.2.2.1,o1212.2.2.2.2.2.2,o1212.2.2.2.2.1),o1212.2.2.2.2.2.1),0)
       else
       none
      else
      none
     else
     none
    else
    if(inB a2 2)=true then
     (a0.2.2.1[a2.toNat]?).bind λe1213=>
     (Zx F e1213.1).bind λo1214=>
     (Zh F [] ((330,o1214),(3,(0,0,0,0,0)))).bind λo1215=>
     if(inB (wi (1 - a2)) 2)=true then
      (a0.2.2.1[(wi (1 - a2)).toNat]?).bind λe1216=>
      (Zx F e1216.1).bind λo1217=>
      (Zh F o1215 ((330,o1217),(4,(0,0,0,0,0)))).bind λo1218=>
      (ZB F a0 a1 a2).bind λo1219=>
      (Zb (ZD F) F (a2,a3,o1218,o1219,0,a0,a1,(([],[],0),[]))).bind λo1220=>
      (Zb (ZE F) F (o1220.2.1,0,o1220.2.2.1,o1220.2.2.2.1,o1220.2.2.2.2,[(o1220.2.2.1.1,(0,[],0))],wi ((wi (2*o1220.2.2.2.1.1))+o1220.1),[],[])).bind λo1221=>
      some (((o1221.2.2.2.1,o1221.2.2.2.2.2.2,o1221.2.2.2.2.1),o1221.2.2.2.2.2.1),0)
     else
     none
    else
    none
   else
   none
  else
  none
 else
 if(!o1152)=true then
  some ((([],[],0),[]),1)
 else
 (Z5 F a0 a1).bind λo1222=>
 if(!o1222)=true then
  some ((([],[],0),[]),14)
 else
 (ZW F a0 a1 a2 a2).bind λo1223=>
 (ZW F a0 a1 a2 (wi (1 - a2))).bind λo1224=>
 if(inB a2 2)=true then
  (a0.2.2.2.1[a2.toNat]?).bind λe1225=>
  (Ys F e1225 o1223).bind λo1226=>
  if(inB a2 2)=true then
   (a0.2.2.2.1[a2.toNat]?).bind λe1227=>
   (Ys F e1227 o1224).bind λo1228=>
   if o1226=true then
    if(inB a2 2)=true then
     (a0.2.2.1[a2.toNat]?).bind λe1229=>
     (XX F e1229.2.2.1 a3).bind λo1230=>
     if(inB (wi (1 - a2)) 2)=true then
      (a0.2.2.1[(wi (1 - a2)).toNat]?).bind λe1231=>
      (XF F e1231.2.2.2.2 a3).bind λo1232=>
      if(inB (wi (1 - a2)) 2)=true then
       (a0.2.2.2.1[(wi (1 - a2)).toNat]?).bind λe1233=>
       (QQ F o1230 o1232 e1233.2.2.1).bind λo1234=>
       (Zh F [] ((o1223,o1234),(1,(0,0,0,0,0)))).bind λo1235=>
       if o1228=true then
        if(inB (wi (1 - a2)) 2)=true then
         (a0.2.2.1[(wi (1 - a2)).toNat]?).bind λe1236=>
         (XZ F e1236.2.1).bind λo1237=>
         (Zh F o1235 ((o1224,o1237),(2,(0,0,0,0,0)))).bind λo1238=>
         if(inB a2 2)=true then
          (a0.2.2.1[a2.toNat]?).bind λe1239=>
          (Zx F e1239.1).bind λo1240=>
          (Zh F o1238 ((330,o1240),(3,(0,0,0,0,0)))).bind λo1241=>
          if(inB (wi (1 - a2)) 2)=true then
           (a0.2.2.1[(wi (1 - a2)).toNat]?).bind λe1242=>
           (Zx F e1242.1).bind λo1243=>
           (Zh F o1241 ((330,o1243),(4,(0,0,0,0,0)))).bind λo1244=>
           (ZB F a0 a1 a2).bind λo1245=>
           (Zb (ZD F) F (a2,a3,o1244,o1245,0,a0,a1,(([],[],0),[]))).bind λo1246=>
           (Zb (ZE F) F (o1246.2.1,0,o1246.2.2.1,o1246.2.2.2.1,o1246.2.2.2.2,[(o1246.2.2.1.1,(0,[],0))],wi ((wi (2*o1246.2.2.2.1.1))+o1246.1),[],[])).bind λo1247=>
           some (((o1247.2.2.2.1,o1247.2.2.2.2.2.2,o1247.2.2.2.2.1),o1247.2.2.2.2.2.1),0)
          else
          none
         else
         none
        else
        none
       else
       if(inB a2 2)=true then
        (a0.2.2.1[a2.toNat]?).bind λe1248=>
        (Zx F e1248.1).bind λo1249=>
        (Zh F o1235 ((330,o1249),(3,(0,0,0,0,0)))).bind λo1250=>
        if(inB (wi (1 - a2)) 2)=true then
         (a0.2.2.1[(wi (1 - a2)).toNat]?).bind λe1251=>
         (Zx F e1251.1).bind λo1252=>
         (Zh F o1250 ((330,o1252),(4,(0,0,0,0,0)))).bind λo1253=>
         (ZB F a0 a1 a2).bind λo1254=>
         (Zb (ZD F) F (a2,a3,o1253,o1254,0,a0,a1,(([],[],0),[]))).bind λo1255=>
         (Zb (ZE F) F (o1255.2.1,0,o1255.2.2.1,o1255.2.2.2.1,o1255.2.2.2.2,[(o1255.2.2.1.1,(0,[],0))],wi ((wi (2*o1255.2.2.2.1.1))+o1255.1),[],[])).bind λo1256=>
         some (((o1256.2.2.2.1,o1256.2.2.2.2.2.2,o1256.2.2.2.2.1),o1256.2.2.2.2.2.1),0)
        else
        none
       else
       none
      else
      none
     else
     none
    else
    none
   else
   if o1228=true then
    if(inB (wi (1 - a2)) 2)=true then
     (a0.2.2.1[(wi (1 - a2)).toNat]?).bind λe1257=>
     (XZ F e1257.2.1).bind λo1258=>
     (Zh F [] ((o1224,o1258),(2,(0,0,0,0,0)))).bind λo1259=>
     if(inB a2 2)=true then
      (a0.2.2.1[a2.toNat]?).bind λe1260=>
      (Zx F e1260.1).bind λo1261=>
      (Zh F o1259 ((330,o1261),(3,(0,0,0,0,0)))).bind λo1262=>
      if(inB (wi (1 - a2)) 2)=true then
       (a0.2.2.1[(wi (1 - a2)).toNat]?).bind λe1263=>
       (Zx F e1263.1).bind λo1264=>
       (Zh F o1262 ((330,o1264),(4,(0,0,0,0,0)))).bind λo1265=>
       (ZB F a0 a1 a2).bind λo1266=>
       (Zb (ZD F) F (a2,a3,o1265,o1266,0,a0,a1,(([],[],0),[]))).bind λo1267=>
       (Zb (ZE F) F (o1267.2.1,0,o1267.2.2.1,o1267.2.2.2.1,o1267.2.2.2.2,[(o1267.2.2.1.1,(0,[],0))],wi ((wi (2*o1267.2.2.2.1.1))+o1267.1),[],[])).bind λo1268=>
       some (((o1268.2.2.2.1,o1268.2.2.2.2.2.2,o1268.2.2.2.2.1),o1268.2.2.2.2.2.1),0)
      else
      none
     else
     none
    else
    none
   else
   if(inB a2 2)=true then
    (a0.2.2.1[a2.toNat]?).bind λe1269=>
    (Zx F e1269.1).bind λo1270=>
    (Zh F [] ((330,o1270),(3,(0,0,0,0,0)))).bind λo1271=>
    if(inB (wi (1 - a2)) 2)=true then
     (a0.2.2.1[(wi (1 - a2)).toNat]?).bind λe1272=>
     (Zx F e1272.1).bind λo1273=>
     (Zh F o1271 ((330,o1273),(4,(0,0,0,0,0)))).bind λo1274=>
     (ZB F a0 a1 a2).bind λo1275=>
     (Zb (ZD F) F (a2,a3,o1274,o1275,0,a0,a1,(([],[],0),[]))).bind λo1276=>
     (Zb (ZE F) F (o1276.2.1,0,o1276.2.2.1,o1276.2.2.2.1,o1276.2.2.2.2,[(o1276.2.2.1.1,(0,[],0))],wi ((wi (2*o1276.2.2.2.1.1))+o1276.1),[],[])).bind λo1277=>
     some (((o1277.2.2.2.1,o1277.2.2.2.2.2.2,o1277.2.2.2.2.1),o1277.2.2.2.2.2.1),0)
    else
    none
   else
   none
  else
  none
 else
 none
def ZoQ(F:Nat):Fs yb:=⟨8,[.v Zu,.v Zf,.v yI,.v .u64],[],[Zu,Zf,yI,.u64],[⟨.ret,[(0,.tup [.v Xa,.v yI])],[],[Xa,yI]⟩],λx=>Yk F x.1 x.2.1 x.2.2.1 x.2.2.2⟩
def Zbm:Fs yb:=ZoQ yD
theorem ZfB:Zbm.Ok:=fnO ZRQ [(0,Zfz),(1,ZfA)] [YG,WA,Zbj,ZaR,ZbY,Q9,Zgn,Zbl,Zim,ZdS,ZaS] ⟨Xd,Vo,Zfu,ZdJ,Zgl,Zc4,ZoN,Zfy,Zql,Zmb,ZdL,ytt⟩ ⟨ZkP,ZkQ,ytt⟩
def Qd(F:Nat)(a0:Tx):yO ((Int×Int)):=
 if(decide (a0.2.2 < 0))=true then
  some (0,0)
 else
 some (wi (Int.tdiv a0.2.2 2),Int.tmod a0.2.2 2)
def Znl(F:Nat):Fs yb:=⟨10,[.v yTx],[],[yTx],[⟨.ret,[(0,.tup [.v yI,.v yI])],[],[yI,yI]⟩],λx=>Qd F x⟩
def ZfC:Fs yb:=Znl yD
theorem Znm:ZfC.Ok:=fnO { still:=[2,3]} [] [] trivial
def Yr(F:Nat)(s:(Int×XQ×XQ)):yO ((Int×XQ×XQ)⊕((Bool×XQ×XQ)⊕(XQ×XQ))):=
 if(decide (s.1 < (s.2.1.2.1.length:Int)))=true then
  (idx s.2.1.2.1 s.1).bind λe1278=>
  (idx s.2.2.2.1 s.1).bind λe1279=>
  if(!(decide (e1278=e1279)))=true then
   some (.inr (.inl (false,s.2.1,s.2.2)))
  else
  some (.inl (wi (s.1+1),s.2.1,s.2.2))
 else
 some (.inr (.inr (s.2.1,s.2.2)))
def Zck:Lp:=⟨[(2,.ref 0 []),(3,.ref 1 []),(5,.v yI)],[.var (.v Z7) true,.var (.v Z7) true],[yI,Z7,Z7],[⟨.ret,[(4,.v .bool)],[.var (.v Z7) true,.var (.v Z7) true],[.bool,Z7,Z7]⟩,⟨.exit 0,[],[.var (.v Z7) true,.var (.v Z7) true],[Z7,Z7]⟩],Zb (Yr yD) yD⟩
theorem Zin:Zck.okA yb 74 0:=Zv { still:=[4]} [] [] trivial
def Vr(F:Nat)(a0:XQ)(a1:XQ):yO (Bool):=
 if(a0.1 !=a1.1)=true then
  some false
 else
 if(a0.2.2 !=a1.2.2)=true then
  some false
 else
 if((a0.2.1.length:Int)!=(a1.2.1.length:Int))=true then
  some false
 else
 (Zb (Yr F) F (0,a0,a1)).bind λo1280=>
 match o1280 with
 |.inl o1281=>
  some o1281.1
 |.inr o1282=>
  some true
def ZkR(F:Nat):Fs yb:=⟨74,[.v Z7,.v Z7],[],[Z7,Z7],(zN .bool),λx=>Vr F x.1 x.2⟩
def Zc6:Fs yb:=ZkR yD
theorem ZkS:Zc6.Ok:=fnO { still:=[4]} [(0,Zck)] [] trivial ⟨Zin,ytt⟩
def Xh(F:Nat)(s:(Int×Int×ZR×ZR×Zn×Zn)):yO ((Int×Int×ZR×ZR×Zn×Zn)⊕((Bool×ZR×ZR×Zn×Zn)⊕(Int×ZR×ZR×Zn×Zn))):=
 if(decide (s.2.1 < (s.2.2.2.2.1.1.length:Int)))=true then
  (idx s.2.2.2.2.1.1 s.2.1).bind λe1285=>
  (idx s.2.2.2.2.2.1 s.2.1).bind λe1286=>
  if(e1285 !=e1286)=true then
   some (.inr (.inl (false,s.2.2.1,s.2.2.2.1,s.2.2.2.2.1,s.2.2.2.2.2)))
  else
  some (.inl (s.1,wi (s.2.1+1),s.2.2.1,s.2.2.2.1,s.2.2.2.2.1,s.2.2.2.2.2))
 else
 some (.inr (.inr (s.1,s.2.2.1,s.2.2.2.1,s.2.2.2.2.1,s.2.2.2.2.2)))
abbrev zM:List ESh:=[.var (.v Zr) true,.var (.v Zr) true,.var (.v Ze) true,.var (.v Ze) true]
def ZfD:Lp:=⟨[(2,.ref 0 []),(3,.ref 1 []),(5,.v yI),(6,.ref 2 []),(7,.ref 3 []),(8,.v yI)],zM,[yI,yI,Zr,Zr,Ze,Ze],[⟨.ret,[(4,.v .bool)],zM,[.bool,Zr,Zr,Ze,Ze]⟩,⟨.exit 2,[(2,.ref 0 []),(3,.ref 1 []),(5,.v yI)],zM,[yI,Zr,Zr,Ze,Ze]⟩],Zb (Xh yD) yD⟩
theorem ZkT:ZfD.okA yb 75 1:=Zv { still:=[4]} [] [] trivial
def Xi(F:Nat)(s:(Int×ZR×ZR)):yO ((Int×ZR×ZR)⊕((Bool×ZR×ZR)⊕(ZR×ZR))):=
 if(decide (s.1 < (s.2.1.length:Int)))=true then
  (idx s.2.1 s.1).bind λe1283=>
  (idx s.2.2 s.1).bind λe1284=>
  if(e1283.2.1 !=e1284.2.1)=true then
   some (.inr (.inl (false,s.2.1,s.2.2)))
  else
  if(e1283.2.2.1 !=e1284.2.2.1)=true then
   some (.inr (.inl (false,s.2.1,s.2.2)))
  else
  if(e1283.2.2.2 !=e1284.2.2.2)=true then
   some (.inr (.inl (false,s.2.1,s.2.2)))
  else
  if((e1283.1.length:Int)!=(e1284.1.length:Int))=true then
   some (.inr (.inl (false,s.2.1,s.2.2)))
  else
  (Zb (Xh F) F (s.1,0,s.2.1,s.2.2,e1283,e1284)).bind λo1287=>
  match o1287 with
  |.inl o1288=>
   some (.inr (.inl (o1288.1,o1288.2.1,o1288.2.2.1)))
  |.inr o1289=>
   some (.inl (wi (o1289.1+1),o1289.2.1,o1289.2.2.1))
 else
 some (.inr (.inr (s.2.1,s.2.2)))
def ZfE:Lp:=⟨[(2,.ref 0 []),(3,.ref 1 []),(5,.v yI)],[.var (.v Zr) true,.var (.v Zr) true],[yI,Zr,Zr],[⟨.ret,[(4,.v .bool)],[.var (.v Zr) true,.var (.v Zr) true],[.bool,Zr,Zr]⟩,⟨.exit 0,[],[.var (.v Zr) true,.var (.v Zr) true],[Zr,Zr]⟩],Zb (Xi yD) yD⟩
theorem ZkU:ZfE.okA yb 75 0:=Zv { still:=[4]} [(1,ZfD)] [] trivial ⟨ZkT,ytt⟩
def QR(F:Nat)(a0:ZR)(a1:ZR):yO (Bool):=
 if((a0.length:Int)!=(a1.length:Int))=true then
  some false
 else
 (Zb (Xi F) F (0,a0,a1)).bind λo1290=>
 match o1290 with
 |.inl o1291=>
  some o1291.1
 |.inr o1292=>
  some true
def ZoR(F:Nat):Fs yb:=⟨75,[.v Zr,.v Zr],[],[Zr,Zr],(zN .bool),λx=>QR F x.1 x.2⟩
def Zgq:Fs yb:=ZoR yD
theorem ZoS:Zgq.Ok:=fnO { still:=[4]} [(0,ZfE)] [] trivial ⟨ZkU,ytt⟩
def Xj(F:Nat)(s:(Int×Tx×Tx)):yO ((Int×Tx×Tx)⊕((Bool×Tx×Tx)⊕(Tx×Tx))):=
 if(decide (s.1 < (s.2.1.1.length:Int)))=true then
  (idx s.2.1.1 s.1).bind λe1293=>
  (idx s.2.2.1 s.1).bind λe1294=>
  if(!(decide (e1293.1=e1294.1)))=true then
   some (.inr (.inl (false,s.2.1,s.2.2)))
  else
  (idx s.2.1.1 s.1).bind λe1295=>
  (idx s.2.2.1 s.1).bind λe1296=>
  (Vr F e1295.2 e1296.2).bind λo1297=>
  if(!o1297)=true then
   some (.inr (.inl (false,s.2.1,s.2.2)))
  else
  some (.inl (wi (s.1+1),s.2.1,s.2.2))
 else
 some (.inr (.inr (s.2.1,s.2.2)))
def ZfF:Lp:=⟨[(2,.ref 0 []),(3,.ref 1 []),(5,.v yI)],[.var (.v yTx) true,.var (.v yTx) true],[yI,yTx,yTx],[⟨.ret,[(4,.v .bool)],[.var (.v yTx) true,.var (.v yTx) true],[.bool,yTx,yTx]⟩,⟨.exit 0,[(2,.ref 0 []),(3,.ref 1 [])],[.var (.v yTx) true,.var (.v yTx) true],[yTx,yTx]⟩],Zb (Xj yD) yD⟩
theorem ZkV:ZfF.okA yb 12 0:=Zv { still:=[4,56,62,92,98]} [] [Zc6] ⟨ZkS,ytt⟩
def Xk(F:Nat)(s:(Int×Tx×Tx)):yO ((Int×Tx×Tx)⊕((Bool×Tx×Tx)⊕(Tx×Tx))):=
 if(decide (s.1 < (s.2.1.2.1.length:Int)))=true then
  (idx s.2.1.2.1 s.1).bind λe1301=>
  (idx s.2.2.2.1 s.1).bind λe1302=>
  if(e1301.1 !=e1302.1)=true then
   some (.inr (.inl (false,s.2.1,s.2.2)))
  else
  (idx s.2.1.2.1 s.1).bind λe1303=>
  (idx s.2.2.2.1 s.1).bind λe1304=>
  (QR F e1303.2 e1304.2).bind λo1305=>
  if(!o1305)=true then
   some (.inr (.inl (false,s.2.1,s.2.2)))
  else
  some (.inl (wi (s.1+1),s.2.1,s.2.2))
 else
 some (.inr (.inr (s.2.1,s.2.2)))
def ZfG:Lp:=⟨[(2,.ref 0 []),(3,.ref 1 []),(6,.v yI)],[.var (.v yTx) true,.var (.v yTx) true],[yI,yTx,yTx],[⟨.ret,[(4,.v .bool)],[.var (.v yTx) true,.var (.v yTx) true],[.bool,yTx,yTx]⟩,⟨.exit 2,[],[.var (.v yTx) true,.var (.v yTx) true],[yTx,yTx]⟩],Zb (Xk yD) yD⟩
theorem ZkW:ZfG.okA yb 12 1:=Zv { still:=[4,56,62,92,98]} [] [Zgq] ⟨ZoS,ytt⟩
def Wl(F:Nat)(a0:Tx)(a1:Tx):yO (Bool):=
 if(a0.2.2 !=a1.2.2)=true then
  some false
 else
 if((a0.1.length:Int)!=(a1.1.length:Int))=true then
  some false
 else
 if((a0.2.1.length:Int)!=(a1.2.1.length:Int))=true then
  some false
 else
 (Zb (Xj F) F (0,a0,a1)).bind λo1298=>
 match o1298 with
 |.inl o1299=>
  some o1299.1
 |.inr o1300=>
  (Zb (Xk F) F (0,o1300.1,o1300.2)).bind λo1306=>
  match o1306 with
  |.inl o1307=>
   some o1307.1
  |.inr o1308=>
   some true
def ZoT(F:Nat):Fs yb:=⟨12,[.v yTx,.v yTx],[],[yTx,yTx],(zN .bool),λx=>Wl F x.1 x.2⟩
def Zbn:Fs yb:=ZoT yD
theorem ZfH:Zbn.Ok:=fnO { still:=[4,56,62,92,98]} [(0,ZfF),(1,ZfG)] [] trivial ⟨ZkV,ZkW,ytt⟩
def YU(F:Nat)(s:((yL V1)×(yL V1)×Int)):yO (((yL V1)×(yL V1)×Int)⊕(Bool⊕Unit)):=
 if(decide (s.2.2 < (s.1.length:Int)))=true then
  (idx s.1 s.2.2).bind λe1309=>
  (idx s.2.1 s.2.2).bind λe1310=>
  if(!(decide (e1309=e1310)))=true then
   some (.inr (.inl false))
  else
  some (.inl (s.1,s.2.1,wi (s.2.2+1)))
 else
 some (.inr (.inr ()))
def ZdT:Lp:=⟨[(0,.v (.sl Vf)),(1,.v (.sl Vf)),(5,.v yI)],[],[(.sl Vf),(.sl Vf),yI],[⟨.ret,[(4,.v .bool)],[],[.bool]⟩,⟨.exit 0,[],[],[]⟩],Zb (YU yD) yD⟩
theorem ZjW:ZdT.okA yb 73 0:=Zv { still:=[4]} [] [] trivial
def Qe(F:Nat)(a0:(yL V1))(a1:(yL V1)):yO (Bool):=
 if((a0.length:Int)!=(a1.length:Int))=true then
  some false
 else
 (Zb (YU F) F (a0,a1,0)).bind λo1311=>
 match o1311 with
 |.inl o1312=>
  some o1312
 |.inr o1313=>
  some true
def Znn(F:Nat):Fs yb:=⟨73,[.v (.sl Vf),.v (.sl Vf)],[],[(.sl Vf),(.sl Vf)],(zN .bool),λx=>Qe F x.1 x.2⟩
def ZfI:Fs yb:=Znn yD
theorem Zno:ZfI.Ok:=fnO { still:=[4]} [(0,ZdT)] [] trivial ⟨ZjW,ytt⟩
def QS(F:Nat)(a0:Commit)(a1:Commit):yO (Bool):=
 (Wl F a0.1 a1.1).bind λo1314=>
 if o1314=true then
  (Qe F a0.2 a1.2).bind λo1315=>
  some o1315
 else
 some false
def ZoU(F:Nat):Fs yb:=⟨11,[.v Xa,.v Xa],[],[Xa,Xa],(zN .bool),λx=>QS F x.1 x.2⟩
def Zgr:Fs yb:=ZoU yD
theorem ZoV:Zgr.Ok:=fnO { still:=[4,7,9,14,16]} [] [Zbn,ZfI] ⟨ZfH,Zno,ytt⟩
def QT(F:Nat)(a0:Tx)(a1:Sig)(a2:Sig):yO (Tx):=
 if((a0.1.length:Int)==0)=true then
  some a0
 else
 (idx a0.1 0).bind λe1316=>
 if(Zbp a0.1.length (some 1) none)=true then
  if(apB 1 ((a0.1.drop 1).length) 80)=true then
   let y1317:(yL In):=([(e1316.1,(0,[a1,a2],0))]:yL In)++(a0.1.drop 1)
   some (y1317,a0.2.1,a0.2.2)
  else
  none
 else
 none
def ZoW(F:Nat):Fs yb:=⟨14,[.v yTx,.v X5,.v X5],[],[yTx,X5,X5],(zN yTx),λx=>QT F x.1 x.2.1 x.2.2⟩
def Zgs:Fs yb:=ZoW yD
theorem ZoX:Zgs.Ok:=fnO { own:=[26,30]} [] [] trivial
def Xl(F:Nat)(s:(Int×Int×ZR×ZR×Zn×Zn)):yO ((Int×Int×ZR×ZR×Zn×Zn)⊕((Bool×ZR×ZR×Zn×Zn)⊕(Int×ZR×ZR×Zn×Zn))):=
 if(decide (s.2.1 < (s.2.2.2.2.1.1.length:Int)))=true then
  (idx s.2.2.2.2.1.1 s.2.1).bind λe1320=>
  (idx s.2.2.2.2.2.1 s.2.1).bind λe1321=>
  if(e1320 !=e1321)=true then
   some (.inr (.inl (false,s.2.2.1,s.2.2.2.1,s.2.2.2.2.1,s.2.2.2.2.2)))
  else
  some (.inl (s.1,wi (s.2.1+1),s.2.2.1,s.2.2.2.1,s.2.2.2.2.1,s.2.2.2.2.2))
 else
 some (.inr (.inr (s.1,s.2.2.1,s.2.2.2.1,s.2.2.2.2.1,s.2.2.2.2.2)))
def ZfJ:Lp:=⟨[(2,.ref 0 []),(3,.ref 1 []),(5,.v yI),(6,.ref 2 []),(7,.ref 3 []),(8,.v yI)],zM,[yI,yI,Zr,Zr,Ze,Ze],[⟨.ret,[(4,.v .bool)],zM,[.bool,Zr,Zr,Ze,Ze]⟩,⟨.exit 2,[(2,.ref 0 []),(3,.ref 1 []),(5,.v yI)],zM,[yI,Zr,Zr,Ze,Ze]⟩],Zb (Xl yD) yD⟩
theorem ZkX:ZfJ.okA yb 15 1:=Zv { still:=[4]} [] [] trivial
def Xm(F:Nat)(s:(Int×ZR×ZR)):yO ((Int×ZR×ZR)⊕((Bool×ZR×ZR)⊕(ZR×ZR))):=
 if(decide (s.1 < (s.2.1.length:Int)))=true then
  (idx s.2.1 s.1).bind λe1318=>
  (idx s.2.2 s.1).bind λe1319=>
  if((e1318.1.length:Int)!=(e1319.1.length:Int))=true then
   some (.inr (.inl (false,s.2.1,s.2.2)))
  else
  if(e1318.2.1 !=e1319.2.1)=true then
   some (.inr (.inl (false,s.2.1,s.2.2)))
  else
  if(e1318.2.2.1 !=e1319.2.2.1)=true then
   some (.inr (.inl (false,s.2.1,s.2.2)))
  else
  if(e1318.2.2.2 !=e1319.2.2.2)=true then
   some (.inr (.inl (false,s.2.1,s.2.2)))
  else
  (Zb (Xl F) F (s.1,0,s.2.1,s.2.2,e1318,e1319)).bind λo1322=>
  match o1322 with
  |.inl o1323=>
   some (.inr (.inl (o1323.1,o1323.2.1,o1323.2.2.1)))
  |.inr o1324=>
   some (.inl (wi (o1324.1+1),o1324.2.1,o1324.2.2.1))
 else
 some (.inr (.inr (s.2.1,s.2.2)))
def ZfK:Lp:=⟨[(2,.ref 0 []),(3,.ref 1 []),(5,.v yI)],[.var (.v Zr) true,.var (.v Zr) true],[yI,Zr,Zr],[⟨.ret,[(4,.v .bool)],[.var (.v Zr) true,.var (.v Zr) true],[.bool,Zr,Zr]⟩,⟨.exit 0,[],[.var (.v Zr) true,.var (.v Zr) true],[Zr,Zr]⟩],Zb (Xm yD) yD⟩
theorem ZkY:ZfK.okA yb 15 0:=Zv { still:=[4]} [(1,ZfJ)] [] trivial ⟨ZkX,ytt⟩
def QU(F:Nat)(a0:ZR)(a1:ZR):yO (Bool):=
 if((a0.length:Int)!=(a1.length:Int))=true then
  some false
 else
 (Zb (Xm F) F (0,a0,a1)).bind λo1325=>
 match o1325 with
 |.inl o1326=>
  some o1326.1
 |.inr o1327=>
  some true
def ZoY(F:Nat):Fs yb:=⟨15,[.v Zr,.v Zr],[],[Zr,Zr],(zN .bool),λx=>QU F x.1 x.2⟩
def Zgt:Fs yb:=ZoY yD
theorem ZoZ:Zgt.Ok:=fnO { still:=[4]} [(0,ZfK)] [] trivial ⟨ZkY,ytt⟩
def Zb1(F:Nat)(a0:yU)(a1:yU):yO (ZR):=
 (VT F [a0,a1]).bind λo1328=>
 some o1328
def Zo0(F:Nat):Fs yb:=⟨78,[.v .u64,.v .u64],[],[.u64,.u64],(zN Zr),λx=>Zb1 F x.1 x.2⟩
def Zgu:Fs yb:=Zo0 yD
theorem Zo1:Zgu.Ok:=fnO { still:=[7]} [] [Zb0] ⟨Zgo,ytt⟩
def Vs(F:Nat)(a0:Chan):yO (ZR):=
 (a0.2.2.1[0]?).bind λe1329=>
 (a0.2.2.1[1]?).bind λe1330=>
 (Zb1 F e1329.1 e1330.1).bind λo1331=>
 some o1331
def ZkZ(F:Nat):Fs yb:=⟨17,[.v Zu],[],[Zu],(zN Zr),λx=>Vs F x⟩
def Zc7:Fs yb:=ZkZ yD
theorem Zk0:Zc7.Ok:=fnO { still:=[6,10]} [] [Zgu] ⟨Zo1,ytt⟩
def WZ(F:Nat)(a0:XQ):yO (Bool):=
 if(decide (a0.1 >= 0))=true then
  if(decide (a0.1<=3))=true then
   some (decide ((a0.2.1.length:Int)<=12))
  else
  some false
 else
 some false
def ZjX(F:Nat):Fs yb:=⟨221,[.v Z7],[],[Z7],(zN .bool),λx=>WZ F x⟩
def Zcl:Fs yb:=ZjX yD
theorem ZjY:Zcl.Ok:=fnO { still:=[2]} [] [] trivial
def Yl(F:Nat)(s:(Int×Int×Tx×In)):yO ((Int×Int×Tx×In)⊕((Bool×Tx×In)⊕(Int×Tx×In))):=
 if(decide (s.2.1 < s.1))=true then
  (idx s.2.2.1.1 s.2.1).bind λe1334=>
  if(decide (e1334.1=s.2.2.2.1))=true then
   some (.inr (.inl (false,s.2.2.1,s.2.2.2)))
  else
  some (.inl (s.1,wi (s.2.1+1),s.2.2.1,s.2.2.2))
 else
 some (.inr (.inr (s.1,s.2.2.1,s.2.2.2)))
def ZdU:Lp:=⟨[(1,.ref 0 []),(3,.v yI),(4,.ref 1 []),(5,.v yI)],[.var (.v yTx) true,.var (.v yIn) true],[yI,yI,yTx,yIn],[⟨.ret,[(2,.v .bool)],[.var (.v yTx) true,.var (.v yIn) true],[.bool,yTx,yIn]⟩,⟨.exit 2,[(1,.ref 0 []),(3,.v yI)],[.var (.v yTx) true,.var (.v yIn) true],[yI,yTx,yIn]⟩],Zb (Yl yD) yD⟩
theorem ZjZ:ZdU.okA yb 156 1:=Zv { still:=[2,54,94]} [] [] trivial
def YV(F:Nat)(s:(Int×Tx)):yO ((Int×Tx)⊕((Bool×Tx)⊕Tx)):=
 if(decide (s.1 < (s.2.1.length:Int)))=true then
  (idx s.2.1 s.1).bind λe1332=>
  if(decide (e1332.1.2 < 0))=true then
   some (.inr (.inl (false,s.2)))
  else
  if(decide (e1332.1.2 > 63))=true then
   some (.inr (.inl (false,s.2)))
  else
  (WZ F e1332.2).bind λo1333=>
  if(!o1333)=true then
   some (.inr (.inl (false,s.2)))
  else
  (Zb (Yl F) F (s.1,0,s.2,e1332)).bind λo1335=>
  match o1335 with
  |.inl o1336=>
   some (.inr (.inl (o1336.1,o1336.2.1)))
  |.inr o1337=>
   some (.inl (wi (o1337.1+1),o1337.2.1))
 else
 some (.inr (.inr s.2))
def ZdV:Lp:=⟨[(1,.ref 0 []),(3,.v yI)],[.var (.v yTx) true],[yI,yTx],[⟨.ret,[(2,.v .bool)],[.var (.v yTx) true],[.bool,yTx]⟩,⟨.exit 0,[(1,.ref 0 [])],[.var (.v yTx) true],[yTx]⟩],Zb (YV yD) yD⟩
theorem Zj0:ZdV.okA yb 156 0:=Zv { still:=[2,54,94]} [(1,ZdU)] [Zcl] ⟨ZjY,ytt⟩ ⟨ZjZ,ytt⟩
def YW(F:Nat)(s:(Int×Int×Tx)):yO ((Int×Int×Tx)⊕((Bool×Tx)⊕(Int×Tx))):=
 if(decide (s.2.1 < (s.2.2.2.1.length:Int)))=true then
  (idx s.2.2.2.1 s.2.1).bind λe1341=>
  if(decide (e1341.1 < 0))=true then
   some (.inr (.inl (false,s.2.2)))
  else
  if(decide (e1341.1 > 1125899906842624))=true then
   some (.inr (.inl (false,s.2.2)))
  else
  (Y7 F e1341.2).bind λo1342=>
  if(!o1342)=true then
   some (.inr (.inl (false,s.2.2)))
  else
  some (.inl (wi (s.1+e1341.1),wi (s.2.1+1),s.2.2))
 else
 some (.inr (.inr (s.1,s.2.2)))
def ZdW:Lp:=⟨[(1,.ref 0 []),(6,.v yI),(7,.v yI)],[.var (.v yTx) true],[yI,yI,yTx],[⟨.ret,[(2,.v .bool)],[.var (.v yTx) true],[.bool,yTx]⟩,⟨.exit 4,[(6,.v yI)],[.var (.v yTx) true],[yI,yTx]⟩],Zb (YW yD) yD⟩
theorem Zj1:ZdW.okA yb 156 2:=Zv { still:=[2,54,94]} [] [VQ] ⟨Zaa,ytt⟩
def Qf(F:Nat)(a0:Tx):yO (Bool):=
 if(decide ((a0.1.length:Int) < 1))=true then
  some false
 else
 if(decide ((a0.1.length:Int) > 64))=true then
  some false
 else
 if(decide ((a0.2.1.length:Int) > 64))=true then
  some false
 else
 if(decide (a0.2.2 < 0))=true then
  some false
 else
 (Zb (YV F) F (0,a0)).bind λo1338=>
 match o1338 with
 |.inl o1339=>
  some o1339.1
 |.inr o1340=>
  (Zb (YW F) F (0,0,o1340)).bind λo1343=>
  match o1343 with
  |.inl o1344=>
   some o1344.1
  |.inr o1345=>
   some (decide (o1345.1<=1125899906842624))
def Znp(F:Nat):Fs yb:=⟨156,[.v yTx],[],[yTx],(zN .bool),λx=>Qf F x⟩
def ZfL:Fs yb:=Znp yD
theorem Znq:ZfL.Ok:=fnO { still:=[2,54,94]} [(0,ZdV),(2,ZdW)] [] trivial ⟨Zj0,Zj1,ytt⟩
def ZaU(F:Nat)(a0:(yL yB))(a1:Int):yO ((yL yB)):=
 if(apB 0 a0.length 1)=true then
  if(decide (a1 >= 0))=true then
   (Zal F a1).bind λo1346=>
   if(apB a0.length o1346.length 1)=true then
    some (a0++o1346)
   else
   none
  else
  some a0
 else
 none
def Zmc(F:Nat):Fs yb:=⟨186,[.v (.sl .u8),.v yI],[],[(.sl .u8),yI],[⟨.ret,[(0,.own 0 .u8)],[.log .u8 5],[(.sl .u8)]⟩],λx=>ZaU F x.1 x.2⟩
def ZdX:Fs yb:=Zmc yD
def ZSu:HI:={ own:=[4,5,6,8,11,14,15],still:=[12]}
theorem Zmd:ZdX.Ok:=fnO ZSu [] [ZbZ] ⟨Zgm,ytt⟩
def W0(F:Nat)(a0:(yL yB))(a1:(yL yB)):yO ((yL yB)):=
 (ZaU F a0 (a1.length:Int)).bind λo1347=>
 if(apB o1347.length a1.length 1)=true then
  some (o1347++a1)
 else
 none
def Zj2(F:Nat):Fs yb:=⟨224,[.v (.sl .u8),.v (.sl .u8)],[],[(.sl .u8),(.sl .u8)],(zN (.sl .u8)),λx=>W0 F x.1 x.2⟩
def Zcm:Fs yb:=Zj2 yD
def ZSv:HI:={ own:=[5,9,10,12],still:=[4,6,8]}
theorem Zj3:Zcm.Ok:=fnO ZSv [] [ZdX] ⟨Zmd,ytt⟩
def YX(F:Nat)(s:((yL yB)×Int×Tx)):yO (((yL yB)×Int×Tx)⊕((yL yB)×Tx)):=
 if(decide (s.2.1 < (s.2.2.1.length:Int)))=true then
  (idx s.2.2.1 s.2.1).bind λe1349=>
  (Wc F s.1 e1349.1.1).bind λo1350=>
  (idx s.2.2.1 s.2.1).bind λe1351=>
  (Z1 F o1350 e1351.1.2).bind λo1352=>
  some (.inl (o1352,wi (s.2.1+1),s.2.2))
 else
 some (.inr (s.1,s.2.2))
def ZdY:Lp:=⟨[(1,.ref 0 []),(3,.v (.sl .u8)),(4,.v yI)],[.var (.v yTx) true],[(.sl .u8),yI,yTx],[⟨.exit 0,[(1,.ref 0 []),(3,.v (.sl .u8))],[.var (.v yTx) true],[(.sl .u8),yTx]⟩],Zb (YX yD) yD⟩
def ZQJ:HI:={ still:=[2,8,17,24,26,33,35,38,47,53,55,61,62,64,66]}
theorem Zj4:ZdY.okA yb 158 0:=Zv ZQJ [] [QM,Wj] ⟨Zcj,WO,ytt⟩
def YY(F:Nat)(s:((yL yB)×Int×Tx)):yO (((yL yB)×Int×Tx)⊕((yL yB)×Tx)):=
 if(decide (s.2.1 < (s.2.2.2.1.length:Int)))=true then
  (idx s.2.2.2.1 s.2.1).bind λe1355=>
  (Z1 F s.1 e1355.1).bind λo1356=>
  (idx s.2.2.2.1 s.2.1).bind λe1357=>
  (WP F e1357.2).bind λo1358=>
  (W0 F o1356 o1358).bind λo1359=>
  some (.inl (o1359,wi (s.2.1+1),s.2.2))
 else
 some (.inr (s.1,s.2.2))
def ZdZ:Lp:=⟨[(1,.ref 0 []),(3,.v (.sl .u8)),(5,.v yI)],[.var (.v yTx) true],[(.sl .u8),yI,yTx],[⟨.exit 2,[(1,.ref 0 []),(3,.v (.sl .u8))],[.var (.v yTx) true],[(.sl .u8),yTx]⟩],Zb (YY yD) yD⟩
theorem Zj5:ZdZ.okA yb 158 1:=Zv ZQJ [] [Wj,ZaT,Zcm] ⟨WO,ZdQ,Zj3,ytt⟩
def Qg(F:Nat)(a0:Tx):yO ((yL yB)):=
 (Z1 F [] (a0.1.length:Int)).bind λo1348=>
 (Zb (YX F) F (o1348,0,a0)).bind λo1353=>
 (Z1 F o1353.1 (o1353.2.2.1.length:Int)).bind λo1354=>
 (Zb (YY F) F (o1354,0,o1353.2)).bind λo1360=>
 (Z1 F o1360.1 o1360.2.2.2).bind λo1361=>
 some o1361
def Znr(F:Nat):Fs yb:=⟨158,[.v yTx],[],[yTx],(zN (.sl .u8)),λx=>Qg F x⟩
def ZfM:Fs yb:=Znr yD
theorem Zns:ZfM.Ok:=fnO ZQJ [(0,ZdY),(1,ZdZ)] [Wj] ⟨WO,ytt⟩ ⟨Zj4,Zj5,ytt⟩
def Wm(F:Nat)(a0:Tx):yO ((yL yB)):=
 (Qf F a0).bind λo1362=>
 if(!o1362)=true then
  some yzz
 else
 (Qg F a0).bind λo1363=>
 (Yw F ZPh [o1363]).bind λo1364=>
 some o1364
def ZrN(F:Nat):Fs yb:=⟨80,[.v yTx],[],[yTx],(zN (.arr 32 .u8)),λx=>Wm F x⟩
def Zc8:Fs yb:=ZrN yD
theorem Zio:Zc8.Ok:=fnO { still:=[3,7,9]} [] [ZfL,ZfM,Xs] ⟨Znq,Zns,X1,ytt⟩
def Qh(F:Nat)(a0:Chan)(a1:yG)(a2:Int)(a3:yU)(a4:Tx):yO (Bool):=
 (Yk F a0 a1 a2 a3).bind λo1365=>
 if(o1365.2 !=0)=true then
  some false
 else
 (Wm F o1365.1.1).bind λo1366=>
 (Wm F a4).bind λo1367=>
 some (decide (o1366=o1367))
def Znt(F:Nat):Fs yb:=⟨21,[.v Zu,.v Zf,.v yI,.v .u64,.v yTx],[],[Zu,Zf,yI,.u64,yTx],(zN .bool),λx=>Qh F x.1 x.2.1 x.2.2.1 x.2.2.2.1 x.2.2.2.2⟩
def ZfN:Fs yb:=Znt yD
def ZSw:HI:={ still:=[10,14,15,16,17,24,26]}
theorem Znu:ZfN.Ok:=fnO ZSw [] [Zbm,Zc8] ⟨ZfB,Zio,ytt⟩
def Qi(F:Nat)(a0:yU):yO (Bool):=
 some (decide (a0 < 2305843009213688669))
def Znv(F:Nat):Fs yb:=⟨229,[.v .u64],[],[.u64],(zN .bool),λx=>Qi F x⟩
def ZfO:Fs yb:=Znv yD
theorem Znw:ZfO.Ok:=fnO { still:=[2]} [] [] trivial
def Zam(F:Nat)(a0:yU):yO (Bool):=
 (Qi F a0).bind λo1368=>
 if o1368=true then
  some (a0 !=0)
 else
 some false
def Zqm(F:Nat):Fs yb:=⟨162,[.v .u64],[],[.u64],(zN .bool),λx=>Zam F x⟩
def Zip:Fs yb:=Zqm yD
theorem Zqn:Zip.Ok:=fnO { still:=[2,3]} [] [ZfO] ⟨Znw,ytt⟩
def Qj(F:Nat)(a0:yU):yO ((yL yB)):=
 (Wh F a0).bind λo1369=>
 some o1369
def Znx(F:Nat):Fs yb:=⟨262,[.v .u64],[],[.u64],(zN (.sl .u8)),λx=>Qj F x⟩
def ZfP:Fs yb:=Znx yD
theorem Zny:ZfP.Ok:=fnO { still:=[2,3]} [] [V7] ⟨ZaK,ytt⟩
def WH(F:Nat)(a0:yU)(a1:yU)(a2:(yL yB)):yO (yU):=
 (Qj F a0).bind λo1370=>
 (Qj F a1).bind λo1371=>
 (Yw F ZMu [o1370,o1371,a2]).bind λo1372=>
 (Z2 F o1372).bind λo1373=>
 some o1373
def ZiH(F:Nat):Fs yb:=⟨230,[.v .u64,.v .u64,.v (.arr 32 .u8)],[],[.u64,.u64,(.arr 32 .u8)],(zN .u64),λx=>WH F x.1 x.2.1 x.2.2⟩
def Zbv:Fs yb:=ZiH yD
theorem ZiI:Zbv.Ok:=fnO ZRC [] [ZfP,Xs,WN] ⟨Zny,X1,VN,ytt⟩
def Va(F:Nat)(a0:yU):yO (yU):=
 some (a0 % 2305843009213688669)
def ZrO(F:Nat):Fs yb:=⟨263,[.v .u64],[],[.u64],(zN .u64),λx=>Va F x⟩
def Zc9:Fs yb:=ZrO yD
theorem Ziq:Zc9.Ok:=fnO { still:=[2]} [] [] trivial
def Zda(F:Nat)(a0:yU)(a1:yU):yO (yU):=
 (Va F a0).bind λo1374=>
 (Va F a1).bind λo1375=>
 some ((o1374+o1375) % 2305843009213688669)
def Zqo(F:Nat):Fs yb:=⟨231,[.v .u64,.v .u64],[],[.u64,.u64],(zN .u64),λx=>Zda F x.1 x.2⟩
def Zir:Fs yb:=Zqo yD
theorem Zqp:Zir.Ok:=fnO { still:=[4,5,7]} [] [Zc9] ⟨Ziq,ytt⟩
def WB(F:Nat)(s:(yU×yU×yU)):yO ((yU×yU×yU)⊕yU):=
 if(decide (s.2.1 > 0))=true then
  if((s.2.1 % 2)==1)=true then
   some (.inl ((s.1+s.1) % 2305843009213688669,s.2.1 / 2,(s.2.2+s.1) % 2305843009213688669))
  else
  some (.inl ((s.1+s.1) % 2305843009213688669,s.2.1 / 2,s.2.2))
 else
 some (.inr s.2.2)
def Zgv:Lp:=⟨[(5,.v .u64),(6,.v .u64),(7,.v .u64)],[],[.u64,.u64,.u64],[⟨.exit 0,[(7,.v .u64)],[],[.u64]⟩],Zb (WB yD) yD⟩
theorem Zme:Zgv.okA yb 232 0:=Zv { still:=[4,8,10]} [] [] trivial
def Zan(F:Nat)(a0:yU)(a1:yU):yO (yU):=
 (Va F a0).bind λo1376=>
 (Va F a1).bind λo1377=>
 (Zb (WB F) F (o1376,o1377,0)).bind λo1378=>
 some o1378
def Zqq(F:Nat):Fs yb:=⟨232,[.v .u64,.v .u64],[],[.u64,.u64],(zN .u64),λx=>Zan F x.1 x.2⟩
def Zis:Fs yb:=Zqq yD
theorem Zqr:Zis.Ok:=fnO { still:=[4,8,10]} [(0,Zgv)] [Zc9] ⟨Ziq,ytt⟩ ⟨Zme,ytt⟩
def Zb2(F:Nat)(a0:yU)(a1:yU)(a2:(yL yB))(a3:yU):yO (Sig):=
 (Z3 F a1).bind λo1379=>
 (WF F o1379 a3).bind λo1380=>
 (Z3 F a0).bind λo1381=>
 (WH F o1380 o1381 a2).bind λo1382=>
 (Zan F a0 o1382).bind λo1383=>
 (Zda F a1 o1383).bind λo1384=>
 some (o1380,o1384)
def Zo2(F:Nat):Fs yb:=⟨165,[.v .u64,.v .u64,.v (.arr 32 .u8),.v .u64],[],[.u64,.u64,(.arr 32 .u8),.u64],(zN X5),λx=>Zb2 F x.1 x.2.1 x.2.2.1 x.2.2.2⟩
def Zgw:Fs yb:=Zo2 yD
def ZSx:HI:={ still:=[11,12,13,15,16,17,18,21,22,23,24]}
theorem Zo3:Zgw.Ok:=fnO ZSx [] [Qb,QN,Zbv,Zis,Zir] ⟨ZaP,Zbk,ZiI,Zqr,Zqp,ytt⟩
def QV(F:Nat)(a0:yU)(a1:(yL yB)):yO (Sig):=
 (Zam F a0).bind λo1385=>
 if(!o1385)=true then
  some (0,0)
 else
 (Wh F a0).bind λo1386=>
 (Yw F ZMv [o1386,a1]).bind λo1387=>
 (Z2 F o1387).bind λo1388=>
 (Zb2 F a0 o1388 a1 1).bind λo1389=>
 some o1389
def Zo4(F:Nat):Fs yb:=⟨82,[.v .u64,.v (.arr 32 .u8)],[],[.u64,(.arr 32 .u8)],(zN X5),λx=>QV F x.1 x.2⟩
def Zgx:Fs yb:=Zo4 yD
def ZSy:HI:={ still:=[6,10,13,14,16,17,18],frz:=[12]}
theorem Zo5:Zgx.Ok:=fnO ZSy [] [Zip,V7,Xs,WN,Zgw] ⟨Zqn,ZaK,X1,VN,Zo3,ytt⟩
def QW(F:Nat)(a0:Kit)(a1:Tx):yO (Sig):=
 (Wm F a1).bind λo1390=>
 (QV F a0.1 o1390).bind λo1391=>
 some o1391
def Zo6(F:Nat):Fs yb:=⟨23,[.v Zeq,.v yTx],[],[Zeq,yTx],(zN X5),λx=>QW F x.1 x.2⟩
def Zgy:Fs yb:=Zo6 yD
theorem Zo7:Zgy.Ok:=fnO { still:=[6,7,8]} [] [Zc8,Zgx] ⟨Zio,Zo5,ytt⟩
def VA(F:Nat)(s:((yL Sig)×(yL Sig)×Int×Int)):yO (((yL Sig)×(yL Sig)×Int×Int)⊕(Bool⊕Unit)):=
 if(decide (s.2.2.2 < s.2.2.1))=true then
  (idx s.1 s.2.2.2).bind λe1392=>
  (idx s.2.1 s.2.2.2).bind λe1393=>
  if(!(decide (e1392=e1393)))=true then
   some (.inr (.inl false))
  else
  some (.inl (s.1,s.2.1,s.2.2.1,wi (s.2.2.2+1)))
 else
 some (.inr (.inr ()))
def Zo8:Lp:=⟨[(0,.v (.sl X5)),(1,.v (.sl X5)),(12,.v yI),(13,.v yI)],[],[(.sl X5),(.sl X5),yI,yI],[⟨.ret,[(4,.v .bool)],[],[.bool]⟩,⟨.exit 0,[],[],[]⟩],Zb (VA yD) yD⟩
theorem Ztc:Zo8.okA yb 167 0:=Zv { still:=[4]} [] [] trivial
def Zg7(F:Nat)(a0:(yL Sig))(a1:(yL Sig)):yO (Bool):=
 if((a0.length:Int)!=(a1.length:Int))=true then
  some false
 else
 (Zb (VA F) F (a0,a1,(a0.length:Int),0)).bind λo1394=>
 match o1394 with
 |.inl o1395=>
  some o1395
 |.inr o1396=>
  some true
def ZyU(F:Nat):Fs yb:=⟨167,[.v (.sl X5),.v (.sl X5)],[],[(.sl X5),(.sl X5)],(zN .bool),λx=>Zg7 F x.1 x.2⟩
def Zq3:Fs yb:=ZyU yD
theorem ZyV:Zq3.Ok:=fnO { still:=[4]} [(0,Zo8)] [] trivial ⟨Ztc,ytt⟩
def Zmf(F:Nat)(a0:In)(a1:In):yO (Bool):=
 if(decide (a0.1=a1.1))=true then
  if(a0.2.1==a1.2.1)=true then
   if(a0.2.2.2==a1.2.2.2)=true then
    (Zg7 F a0.2.2.1 a1.2.2.1).bind λo1397=>
    some o1397
   else
   some false
  else
  some false
 else
 some false
def ZDk(F:Nat):Fs yb:=⟨166,[.v yIn,.v yIn],[],[yIn,yIn],(zN .bool),λx=>Zmf F x.1 x.2⟩
def Zvy:Fs yb:=ZDk yD
theorem ZDl:Zvy.Ok:=fnO { still:=[4,31,34]} [] [Zq3] ⟨ZyV,ytt⟩
def WI(F:Nat)(s:((yL yU)×(yL yU)×Int×Int)):yO (((yL yU)×(yL yU)×Int×Int)⊕(Bool⊕Unit)):=
 if(decide (s.2.2.2 < s.2.2.1))=true then
  (idx s.1 s.2.2.2).bind λe1398=>
  (idx s.2.1 s.2.2.2).bind λe1399=>
  if(e1398 !=e1399)=true then
   some (.inr (.inl false))
  else
  some (.inl (s.1,s.2.1,s.2.2.1,wi (s.2.2.2+1)))
 else
 some (.inr (.inr ()))
def Zk1:Lp:=⟨[(0,.v (.sl .u64)),(1,.v (.sl .u64)),(12,.v yI),(13,.v yI)],[],[(.sl .u64),(.sl .u64),yI,yI],[⟨.ret,[(4,.v .bool)],[],[.bool]⟩,⟨.exit 0,[],[],[]⟩],Zb (WI yD) yD⟩
theorem Zqs:Zk1.okA yb 169 0:=Zv { still:=[4]} [] [] trivial
def Zdb(F:Nat)(a0:(yL yU))(a1:(yL yU)):yO (Bool):=
 if((a0.length:Int)!=(a1.length:Int))=true then
  some false
 else
 (Zb (WI F) F (a0,a1,(a0.length:Int),0)).bind λo1400=>
 match o1400 with
 |.inl o1401=>
  some o1401
 |.inr o1402=>
  some true
def Zux(F:Nat):Fs yb:=⟨169,[.v (.sl .u64),.v (.sl .u64)],[],[(.sl .u64),(.sl .u64)],(zN .bool),λx=>Zdb F x.1 x.2⟩
def ZmO:Fs yb:=Zux yD
theorem Zuy:ZmO.Ok:=fnO { still:=[4]} [(0,Zk1)] [] trivial ⟨Zqs,ytt⟩
def Zmg(F:Nat)(a0:Zn)(a1:Zn):yO (Bool):=
 if(a0.2.1==a1.2.1)=true then
  if(a0.2.2.1==a1.2.2.1)=true then
   if(a0.2.2.2==a1.2.2.2)=true then
    (Zdb F a0.1 a1.1).bind λo1403=>
    some o1403
   else
   some false
  else
  some false
 else
 some false
def ZDm(F:Nat):Fs yb:=⟨168,[.v Ze,.v Ze],[],[Ze,Ze],(zN .bool),λx=>Zmg F x.1 x.2⟩
def Zvz:Fs yb:=ZDm yD
theorem ZDn:Zvz.Ok:=fnO { still:=[4,26,28]} [] [ZmO] ⟨Zuy,ytt⟩
def Qt(F:Nat)(s:((yL In)×(yL In)×Int×Int)):yO (((yL In)×(yL In)×Int×Int)⊕(Bool⊕Unit)):=
 if(decide (s.2.2.2 < s.2.2.1))=true then
  (idx s.2.1 s.2.2.2).bind λe1404=>
  (idx s.1 s.2.2.2).bind λe1405=>
  (Zmf F e1404 e1405).bind λo1406=>
  if(!o1406)=true then
   some (.inr (.inl false))
  else
  some (.inl (s.1,s.2.1,s.2.2.1,wi (s.2.2.2+1)))
 else
 some (.inr (.inr ()))
def Zq4:Lp:=⟨[(1,.v (.sl yIn)),(2,.fn 166 []),(15,.v (.sl yIn)),(16,.v yI),(17,.v yI)],[],[(.sl yIn),(.sl yIn),yI,yI],[⟨.ret,[(6,.v .bool)],[],[.bool]⟩,⟨.exit 0,[],[],[]⟩],Zb (Qt yD) yD⟩
theorem Zuz:Zq4.okA yb 172 0:=Zv { still:=[6,27,28]} [] [Zvy] ⟨ZDl,ytt⟩
def Zjh(F:Nat)(a0:(yL In))(a1:(yL In)):yO (Bool):=
 if((a0.length:Int)!=(a1.length:Int))=true then
  some false
 else
 (Zb (Qt F) F (a1,a0,(a0.length:Int),0)).bind λo1407=>
 match o1407 with
 |.inl o1408=>
  some o1408
 |.inr o1409=>
  some true
def ZAf(F:Nat):Fs yb:=⟨172,[.v (.sl yIn),.v (.sl yIn),.fn 166 []],[],[(.sl yIn),(.sl yIn)],(zN .bool),λx=>Zjh F x.1 x.2⟩
def Ztd:Fs yb:=ZAf yD
theorem ZAg:Ztd.Ok:=fnO { still:=[6,27,28]} [(0,Zq4)] [] trivial ⟨Zuz,ytt⟩
def Wn(F:Nat)(s:((yL Zn)×(yL Zn)×Int×Int)):yO (((yL Zn)×(yL Zn)×Int×Int)⊕(Bool⊕Unit)):=
 if(decide (s.2.2.2 < s.2.2.1))=true then
  (idx s.2.1 s.2.2.2).bind λe1413=>
  (idx s.1 s.2.2.2).bind λe1414=>
  (Zmg F e1413 e1414).bind λo1415=>
  if(!o1415)=true then
   some (.inr (.inl false))
  else
  some (.inl (s.1,s.2.1,s.2.2.1,wi (s.2.2.2+1)))
 else
 some (.inr (.inr ()))
def Zji:Lp:=⟨[(1,.v (.sl Ze)),(2,.fn 168 []),(15,.v (.sl Ze)),(16,.v yI),(17,.v yI)],[],[(.sl Ze),(.sl Ze),yI,yI],[⟨.ret,[(6,.v .bool)],[],[.bool]⟩,⟨.exit 0,[],[],[]⟩],Zb (Wn yD) yD⟩
theorem Zo9:Zji.okA yb 171 0:=Zv { still:=[6,27,28]} [] [Zvz] ⟨ZDn,ytt⟩
def ZbH(F:Nat)(a0:(yL Zn))(a1:(yL Zn)):yO (Bool):=
 if((a0.length:Int)!=(a1.length:Int))=true then
  some false
 else
 (Zb (Wn F) F (a1,a0,(a0.length:Int),0)).bind λo1416=>
 match o1416 with
 |.inl o1417=>
  some o1417
 |.inr o1418=>
  some true
def Zte(F:Nat):Fs yb:=⟨171,[.v (.sl Ze),.v (.sl Ze),.fn 168 []],[],[(.sl Ze),(.sl Ze)],(zN .bool),λx=>ZbH F x.1 x.2⟩
def Zk2:Fs yb:=Zte yD
theorem Ztf:Zk2.Ok:=fnO { still:=[6,27,28]} [(0,Zji)] [] trivial ⟨Zo9,ytt⟩
def Zmh(F:Nat)(a0:Out)(a1:Out):yO (Bool):=
 if(a0.1==a1.1)=true then
  (ZbH F a0.2 a1.2).bind λo1419=>
  some o1419
 else
 some false
def ZDo(F:Nat):Fs yb:=⟨170,[.v ZM,.v ZM,.ref 0 []],[.var (.fn 168 []) true],[ZM,ZM],[⟨.ret,[(0,.v .bool)],[.var (.fn 168 []) true],[.bool]⟩],λx=>Zmh F x.1 x.2⟩
def ZvA:Fs yb:=ZDo yD
theorem ZDp:ZvA.Ok:=fnO { still:=[5,14,17,18]} [] [Zk2] ⟨Ztf,ytt⟩
def VB(F:Nat)(s:((yL Out)×(yL Out)×Int×Int)):yO (((yL Out)×(yL Out)×Int×Int)⊕(Bool⊕Unit)):=
 if(decide (s.2.2.2 < s.2.2.1))=true then
  (idx s.2.1 s.2.2.2).bind λe1411=>
  (idx s.1 s.2.2.2).bind λe1412=>
  (Zmh F e1411 e1412).bind λo1420=>
  if(!o1420)=true then
   some (.inr (.inl false))
  else
  some (.inl (s.1,s.2.1,s.2.2.1,wi (s.2.2.2+1)))
 else
 some (.inr (.inr ()))
def Zpa:Lp:=⟨[(1,.v (.sl ZM)),(2,.fn 170 [.ref 0 []]),(15,.v (.sl ZM)),(16,.v yI),(17,.v yI)],[.var (.fn 168 []) true],[(.sl ZM),(.sl ZM),yI,yI],[⟨.ret,[(6,.v .bool)],[.var (.fn 168 []) true],[.bool]⟩,⟨.exit 0,[],[.var (.fn 168 []) true],[]⟩],Zb (VB yD) yD⟩
theorem Ztg:Zpa.okA yb 173 0:=Zv { still:=[6,27,28]} [] [ZvA] ⟨ZDp,ytt⟩
def Zg8(F:Nat)(a0:(yL Out))(a1:(yL Out)):yO (Bool):=
 if((a0.length:Int)!=(a1.length:Int))=true then
  some false
 else
 (Zb (VB F) F (a1,a0,(a0.length:Int),0)).bind λo1421=>
 match o1421 with
 |.inl o1422=>
  some o1422
 |.inr o1423=>
  some true
def ZyW(F:Nat):Fs yb:=⟨173,[.v (.sl ZM),.v (.sl ZM),.fn 170 [.ref 0 []]],[.var (.fn 168 []) true],[(.sl ZM),(.sl ZM)],[⟨.ret,[(0,.v .bool)],[.var (.fn 168 []) true],[.bool]⟩],λx=>Zg8 F x.1 x.2⟩
def Zq5:Fs yb:=ZyW yD
theorem ZyX:Zq5.Ok:=fnO { still:=[6,27,28]} [(0,Zpa)] [] trivial ⟨Ztg,ytt⟩
def Zth(F:Nat)(a0:Tx)(a1:Tx):yO (Bool):=
 if(a0.2.2==a1.2.2)=true then
  (Zjh F a0.1 a1.1).bind λo1410=>
  if o1410=true then
   (Zg8 F a0.2.1 a1.2.1).bind λo1424=>
   some o1424
  else
  some false
 else
 some false
def ZHt(F:Nat):Fs yb:=⟨83,[.v yTx,.v yTx],[],[yTx,yTx],(zN .bool),λx=>Zth F x.1 x.2⟩
def ZBc:Fs yb:=ZHt yD
def ZSz:HI:={ still:=[4,16,18,19,24,26,27]}
theorem ZHu:ZBc.Ok:=fnO ZSz [] [Ztd,Zq5] ⟨ZAg,ZyX,ytt⟩
def Za6(F:Nat)(s:((yL V1)×(yL V1)×Int×Int)):yO (((yL V1)×(yL V1)×Int×Int)⊕(Bool⊕Unit)):=
 if(decide (s.2.2.2 < s.2.2.1))=true then
  (idx s.1 s.2.2.2).bind λe1425=>
  (idx s.2.1 s.2.2.2).bind λe1426=>
  if(!(decide (e1425=e1426)))=true then
   some (.inr (.inl false))
  else
  some (.inl (s.1,s.2.1,s.2.2.1,wi (s.2.2.2+1)))
 else
 some (.inr (.inr ()))
def ZvB:Lp:=⟨[(0,.v (.sl Vf)),(1,.v (.sl Vf)),(12,.v yI),(13,.v yI)],[],[(.sl Vf),(.sl Vf),yI,yI],[⟨.ret,[(4,.v .bool)],[],[.bool]⟩,⟨.exit 0,[],[],[]⟩],Zb (Za6 yD) yD⟩
theorem ZyY:ZvB.okA yb 84 0:=Zv { still:=[4]} [] [] trivial
def ZpI(F:Nat)(a0:(yL V1))(a1:(yL V1)):yO (Bool):=
 if((a0.length:Int)!=(a1.length:Int))=true then
  some false
 else
 (Zb (Za6 F) F (a0,a1,(a0.length:Int),0)).bind λo1427=>
 match o1427 with
 |.inl o1428=>
  some o1428
 |.inr o1429=>
  some true
def ZFF(F:Nat):Fs yb:=⟨84,[.v (.sl Vf),.v (.sl Vf)],[],[(.sl Vf),(.sl Vf)],(zN .bool),λx=>ZpI F x.1 x.2⟩
def ZyZ:Fs yb:=ZFF yD
theorem ZFG:ZyZ.Ok:=fnO { still:=[4]} [(0,ZvB)] [] trivial ⟨ZyY,ytt⟩
def Zg9(F:Nat)(a0:Commit)(a1:Commit):yO (Bool):=
 (Zth F a0.1 a1.1).bind λo1430=>
 if o1430=true then
  (ZpI F a0.2 a1.2).bind λo1431=>
  some o1431
 else
 some false
def Zy0(F:Nat):Fs yb:=⟨24,[.v Xa,.v Xa],[],[Xa,Xa],(zN .bool),λx=>Zg9 F x.1 x.2⟩
def Zq6:Fs yb:=Zy0 yD
theorem Zy1:Zq6.Ok:=fnO { still:=[4,6,8,12,14]} [] [ZBc,ZyZ] ⟨ZHu,ZFG,ytt⟩
end
end Go.Proofs.YtdhclndplbopgaaGreat
end
section
set_option maxRecDepth 4000
namespace Go.Proofs.YtdhclndplbopgaaGreat
open Go Go.Ev
theorem ZMA{m:Nat}(hm:0 < m):∀(f a n o:Nat),o < m->pwm m f a n o < m
 |0,_,_,o,h=>h
 |f+1,a,n,o,h=>by
  rw[pwm];split
  ·exact h
  ·refine ZMA hm f _ _ _ ?_;split
   ·exact ybj _ hm
   ·exact h
theorem ZMB{m:Nat}(hm:1 < m)(k a n:Nat)(h:n < 2 ^ k):pwm m k a n 1=a ^ n % m:=by
 rw[<-yak (ZMA (by omega) k a n 1 hm),ZIG k a n 1 h,Nat.one_mul]
instance(a:Nat):Decidable (QA a):=by unfold QA;infer_instance
theorem ZQK{z:Nat}(h:z < mdl):z < 18446744073709551616:=Nat.lt_trans h (by decide)
theorem ZDq{z:Nat}(h:z < mdl):(yac z).toNat=z:=by
 rw[ybd,yak (ZQK h)]
theorem Zti(z:Nat):z % mdl < mdl:=ybj _ (by decide)
theorem ZFH(a n:yU):ZaY yD a n=some (yac (a.toNat ^ n.toNat % mdl)):=by
 unfold ZaY;rw[ZMB (by decide) 64 a.toNat n.toNat (ybt n)];rfl
theorem ZBd{a n:yU}(h:a.toNat < mdl):Y6 yD a n=some (yac (a.toNat ^ n.toNat % mdl)):=by
 unfold Y6;rw[yW (yY (show a.toNat < 4611686018427377339 from h)),ZMB (by decide) 64 a.toNat n.toNat (ybt n)]
 rfl
theorem ZMC{z:Nat}(h:z < mdl):(yac z==1)=decide (z=1):=by
 rw[yck,yT,yN, <-ycl,ZDq h];rfl
theorem Zit(p:yU):XO yD p=some (decide (QA p.toNat)):=by
 unfold XO;by_cases h1:0 < p.toNat
 ·rw[yW (yY (show p > 0 from yca.2 h1))]
  by_cases h2:p.toNat < mdl
  ·rw[yW (yY (show p < 4611686018427377339 from yca.2 h2)),ZFH,ya,ZMC (Zti _)]
   congr 1;rw[decide_eq_decide];exact⟨λh=>⟨h1,h2,h⟩,λh=>h.2.2⟩
  ·rw[yX (by rw[yN];exact λh=>h2 (yca.1 h)),yZ (λh=>h2 h.2.1)]
 ·rw[yX (by rw[yN];exact λh=>h1 (yca.1 h)),yZ (λh=>h1 h.1)]
theorem Za7(p:yU):Yd yD p=some (decide (QA p.toNat)):=by
 unfold Yd;by_cases h1:0 < p.toNat
 ·rw[yW (yY (show p >= 1 from ycu.2 h1))]
  by_cases h2:p.toNat < mdl
  ·rw[yW (yY (show p < 4611686018427377339 from yca.2 h2)),ZBd h2,ya,ZMC (Zti _)]
   congr 1;rw[decide_eq_decide];exact⟨λh=>⟨h1,h2,h⟩,λh=>h.2.2⟩
  ·rw[yX (by rw[yN];exact λh=>h2 (yca.1 h)),yZ (λh=>h2 h.2.1)]
 ·rw[yX (by rw[yN];exact λh=>h1 (ycu.1 h)),yZ (λh=>h1 h.1)]
def tk(p:yU):yU:=if QA p.toNat then p else 1
theorem ZFI(p:yU):QA (tk p).toNat:=by
 unfold tk;split
 ·assumption
 ·exact ZMg
theorem ZPi{p:yU}(h:QA p.toNat):tk p=p:=yW h
theorem ZFJ(p:yU):Za0 yD p=some (tk p):=by
 unfold Za0 tk;rw[Zit,ya];by_cases h:QA p.toNat
 ·rw[yW (yY h),yW h]
 ·rw[yX (by rw[yN];exact h),yX h]
theorem ZuA(p:yU):X2 yD p=some (tk p):=by
 unfold X2 tk;rw[Za7,ya];by_cases h:QA p.toNat
 ·rw[yW (yY h),yW h]
 ·rw[yX (by rw[yN];exact h),yX h]
def sc(p:yU)(n:Nat):yU:=yac ((tk p).toNat ^ n % mdl)
theorem ZQL(p:yU)(n:Nat):(sc p n).toNat=(tk p).toNat ^ n % mdl:=ZDq (Zti _)
theorem ZRR(p:yU)(n:Nat):QA (sc p n).toNat:=by
 rw[ZQL];exact ZQp (ZFI p) n
theorem ZMD(p:yU)(n:Nat):sc p (n % ord)=sc p n:=by
 unfold sc;rw[ZOt (ZFI p)]
theorem Zpb(k:yU):(k % 2305843009213688669).toNat=k.toNat % ord:=by
 rw[UInt64.toNat_mod];rfl
theorem Zy2(p k:yU):QB yD p k=some (sc p k.toNat):=by
 unfold QB;rw[ZFJ,ya,ZFH,ya,Zpb, <-ZMD];rfl
theorem ZuB(p k:yU):X3 yD p k=some (sc p k.toNat):=by
 unfold X3;rw[ZuA,ya,ZBd (ZFI p).2.1,ya,Zpb, <-ZMD];rfl
def B(n:Nat):yU:=sc 4 n
theorem ZRS(n:Nat):QA (B n).toNat:=ZRR 4 n
theorem ZDr(k:yU):W5 yD k=some (B k.toNat):=by
 unfold W5;rw[Zy2,ya];rfl
theorem Zy3(k:yU):Z3 yD k=some (B k.toNat):=by
 unfold Z3;rw[ZuB,ya];rfl
def ad(p q:yU):yU:=yac ((tk p).toNat*(tk q).toNat % mdl)
theorem ZQM(p q:yU):(ad p q).toNat=(tk p).toNat*(tk q).toNat % mdl:=ZDq (Zti _)
theorem ZME(a b:yU):Yt yD a b=some (yac (a.toNat*b.toNat % mdl)):=ZE9 a b
def Zwd:yL yU->Nat->Nat
 |[],o=>o
 |p::r,o=>Zwd r (o*(tk p).toNat % mdl)
theorem ZIP:∀(l:yL yU)(o:Nat),o < mdl->Zwd l o < mdl
 |[],o,h=>h
 |p::r,o,h=>ZIP r _ (Zti _)
theorem ZQN{l:yL yU}(hl:l.length<=1000):ZhM yD l=some (yac (Zwd l 1)):=by
 have key:∀(k:Nat),k<=l.length->Zwd (l.take k) 1 < mdl:=λk _=>ZIP _ _ (by decide)
 have app:∀(l:yL yU)(p:yU)(o:Nat),Zwd (l++[p]) o=Zwd l o*(tk p).toNat % mdl:=by
  intro l
  induction l with
  |nil=>intro p o;rfl
  |cons q r ih=>intro p o;exact ih p _
 unfold ZhM
 rw[show((1:yU),l,(l.length:Int),(0:Int))=(λk:Nat=>(yac (Zwd (l.take k) 1),l,(l.length:Int),(k:Int))) 0 from rfl,
  Zt (x:=yac (Zwd l 1)) l.length (λk:Nat=>(yac (Zwd (l.take k) 1),l,(l.length:Int),(k:Int))) ?_ ?_ (by omega),ya]
 ·intro k hk;obtain⟨e,he,_⟩:=Zg hk;unfold Zez;dsimp only;rw[yW (ZF hk),Zp he,ya,ZFJ,ya,ZME,ya,Zo (by omega),Qa he,app,ZDq (key k (by omega))]
 ·unfold Zez;dsimp only;rw[yX (by rw[Zz];decide),yao]
theorem ZHv(p q:yU):Zee yD p q=some (ad p q):=by
 unfold Zee;rw[ZQN (by simp),ya];unfold ad Zwd Zwd Zwd;rw[Nat.one_mul,yak (ZFI p).2.1]
theorem ZMF{z:Nat}:(yac (z % ord)).toNat=z % ord:=by
 rw[ybd,yak (Nat.lt_trans (ybj _ (by decide)) (by decide))]
theorem Zmi{z:Nat}:z % ord < ord:=ybj _ (by decide)
theorem ZIQ(a b:yU):ZlH yD a b=some (yac ((a.toNat+b.toNat) % ord)):=by
 unfold ZlH Zen Zf1;rw[ya,ya,ya];congr 1;have ha:a.toNat % ord < ord:=Zmi;have hb:b.toNat % ord < ord:=Zmi;rw[<-ycl,Zpb,UInt64.toNat_add,Zpb,Zpb,ZMF,yak (a:=a.toNat % ord+b.toNat % ord) (by unfold ord at*;omega), <-Nat.add_mod]
theorem ZOC(a b:yU):ZlI yD a b=some (yac (a.toNat*b.toNat % ord)):=by
 unfold ZlI Zen Zeo ZeX;rw[ya,ya,ya];dsimp only;unfold VH;rw[yW (by decide),ya,ya,ybd,ybd,Zpb,Zpb];have h:a.toNat % ord*(b.toNat % ord) < 18446744073709551616*18446744073709551616:=Nat.mul_lt_mul'' (Nat.lt_trans Zmi (by decide)) (Nat.lt_trans Zmi (by decide));have hz:a.toNat % ord*(b.toNat % ord) % ord=a.toNat*b.toNat % ord:=(Nat.mul_mod ..).symm;generalize a.toNat % ord*(b.toNat % ord)=z at*;have h2:z / 18446744073709551616 < 18446744073709551616:=(Nat.div_lt_iff_lt_mul (by decide)).2 h;rw[show(2305843009213688669:yU).toNat=ord from rfl]
 have e:z / 18446744073709551616 % 2 ^ 64*18446744073709551616+z % 18446744073709551616 % 2 ^ 64=z:=by omega
 rw[e,hz]
theorem ZBe(a:yU):ZcT yD a=some (decide (a.toNat < ord)):=by
 unfold ZcT;congr 1
def Key(k:yU):Prop:=0 < k.toNat/\k.toNat < ord
theorem ZBf{ls:yL (yL yB)}(h:ls.flatten.length<=1000000000)(hn:ls.length<=1000):Xn yD ls=some ls.flatten:=by
 unfold Xn
 rw[show(ls,(0:Int),ls,(ls.length:Int),(0:Int))=(λk:Nat=>(ls,((ls.take k).flatten.length:Int),ls,(ls.length:Int),(k:Int))) 0 from rfl,
  Zt (x:=(ls,(ls.flatten.length:Int))) ls.length (λk:Nat=>(ls,((ls.take k).flatten.length:Int),ls,(ls.length:Int),(k:Int))) ?_ ?_ (by omega),ya]
 ·have hg:ZxK (ls.flatten.length:Int)=some []:=by
   unfold ZxK;rw[yW];rw[Bool.and_eq_true];exact⟨yY (by omega),yY (by unfold Zw;omega)⟩
  dsimp only
  rw[hg,ya,show(ls,(ls.length:Int),(0:Int),([]:yL yB))=(λk:Nat=>(ls,(ls.length:Int),(k:Int),(ls.take k).flatten)) 0 from rfl,
   Zt (x:=ls.flatten) ls.length (λk:Nat=>(ls,(ls.length:Int),(k:Int),(ls.take k).flatten)) ?_ ?_ (by omega),ya]
  ·intro k hk;obtain⟨e,he,_⟩:=Zg hk;have hf:=ZBb he;have hl:=ZIO ls (k+1);rw[hf,yo] at hl;unfold XJ;dsimp only;rw[yW (ZF hk),Zp he,ya,yW (ZT (by omega) (by omega)),Zo (by omega),hf]
  ·unfold XJ;dsimp only;rw[yX (by rw[Zz];decide),yao]
 ·intro k hk;obtain⟨e,he,_⟩:=Zg hk;have hf:=ZBb he;have hl:=ZIO ls (k+1);rw[hf,yo] at hl;unfold XI;dsimp only;rw[yW (ZF hk),Zp he,ya,ZU (z:=((ls.take k).flatten.length:Int)+(e.length:Int)) (by omega) (by omega),yX (ynd (by omega)),Zo (by omega),hf,yo];rfl
 ·unfold XI;dsimp only;rw[yX (by rw[Zz];decide),yao]
theorem ZDs{a b:yL yB}(h:a.length+b.length<=1000000000):ZbU yD a b=some (a++b):=by
 unfold ZbU;rw[ZBf (by simp;omega) (by simp),ya];simp
def WQ(n:Nat):yL yB:=if h:n < 128 then[ybc n] else ybc (n % 128+128)::WQ (n / 128)
termination_by n
decreasing_by omega
theorem Ziu{n:Nat}(h:n < 128):WQ n=[ybc n]:=by rw[WQ,dif_pos h]
theorem Zy4{n:Nat}(h:¬n < 128):WQ n=ybc (n % 128+128)::WQ (n / 128):=by rw[WQ,dif_neg h]
theorem ZIR:∀(j n:Nat),n < 128 ^ (j+1)->(WQ n).length<=j+1
 |0,n,h=>by rw[Ziu (by omega)];exact ym _
 |j+1,n,h=>by
  by_cases h0:n < 128
  ·rw[Ziu h0,List.length_singleton];omega
  ·rw[Zy4 h0];have:=ZIR j (n / 128) (by rw[Nat.pow_succ] at h;omega);simp only[yaj];omega
theorem Z8{n:Nat}(h:n<=9223372036854775807):(WQ n).length<=9:=ZIR 8 n (by omega)
theorem ZMG{n:Nat}(h:n<=9223372036854775807):Zkw yD (n:Int)=some (WQ n):=by
 unfold Zkw;refine Exists.elim (Qm (step:=ZgX yD) (λs=>∃m:Nat,s.1=(m:Int)/\m<=n/\s.2++WQ m=WQ n) (λs=>s.1.toNat) (λx=>∃m:Nat,x.1=(m:Int)/\m < 128/\x.2++WQ m=WQ n) ?_ ((n:Int),([]:yL yB)) ⟨n,rfl,ym _,rfl⟩ (by dsimp only;omega)) ?_
 ·rintro⟨_,o⟩ ⟨m,rfl,hm,ho⟩;unfold ZgX;dsimp only at ho ⊢;have hr:=congrArg List.length ho;have hl:=Z8 h;rw[yo] at hr;by_cases h1:m < 128
  ·right;rw[yX (ynd (by omega))];exact⟨_,rfl,m,rfl,h1,ho⟩
  ·left;rw[yW (yY (by omega)),yW (ZT (by omega) (by omega))];have e1:Int.tmod (m:Int) 128=((m % 128:Nat):Int):=rfl;have e2:Int.tdiv (m:Int) 128=((m / 128:Nat):Int):=rfl;rw[e1,e2,ZU (z:=((m % 128:Nat):Int)+128) (by omega) (by omega),ZU (z:=((m / 128:Nat):Int)) (by omega) (by omega)];refine⟨_,rfl,⟨m / 128,rfl,by omega, ?_⟩,by dsimp only;omega⟩;dsimp only;rw[<-ho,Zy4 h1,yad];congr 1;rw[List.singleton_append];congr 1;unfold w8;congr 1;omega
 ·rintro⟨_,o⟩ ⟨h1,m,rfl,h2,h3⟩;dsimp only at h3 ⊢;have hr:=congrArg List.length h3;have hl:=Z8 h;rw[yo] at hr;rw[h1,ya];dsimp only;rw[yW (ZT (by omega) (by omega)), <-h3,Ziu h2];congr 3;unfold w8;congr 1;omega
theorem Zmj{b:yL yB}{z:Int}(h0:0<=z)(h:z<=9223372036854775807)(hb:b.length<=1000000):Vz yD b z=some (b++WQ z.toNat):=by
 obtain⟨n,rfl⟩:=Int.eq_ofNat_of_zero_le h0;have:=Z8 (n:=n) (by omega);unfold Vz;rw[yX (ynd (by omega)),ZMG (by omega),ya,ZDs (by omega),ya,yau]
theorem ZHw{b h:yL yB}(hb:b.length<=1000000)(hh:h.length<=1000000):ZeJ yD b h=some (b++h):=by
 unfold ZeJ;rw[ZDs (by omega),ya]
theorem ZFK{b c:yL yB}(hb:b.length<=1000000)(hc:c.length<=1000000):ZcS yD b c=some (b++(WQ c.length++c)):=by
 have:=Z8 (n:=c.length) (by omega);unfold ZcS;rw[ZMG (by omega),ya,ZBf (by simp;omega) (by simp),ya];simp
def Zpc(l:yL yB)(n k:Nat):yL yB:=l.take k++List.replicate (n - k) 0
theorem ZuC{l:yL yB}{n k:Nat}(h:k < l.length)(h2:l.length<=n):(Zpc l n k)[k]? =some 0:=by
 unfold Zpc;have h3:(l.take k).length=k:=by simp;omega
 rw[yat (by omega),h3,List.getElem?_replicate];simp;omega
theorem ZuD{l:yL yB}{n k:Nat}{d:yB}(hx:l[k]? =some d)(h2:l.length<=n):(Zpc l n k).set k d=Zpc l n (k+1):=by
 have h:k < l.length:=(yq.1 hx).1;have h3:(l.take k).length=k:=by simp;omega
 unfold Zpc;rw[Qa hx,List.set_append_right _ _ (by omega),h3,Nat.sub_self];have e:n - k=(n - (k+1))+1:=by omega
 rw[e,List.replicate_succ];simp
theorem ZuE{l:yL yB}{n:Nat}(h:l.length=n):Zpc l n n=l:=by
 unfold Zpc;rw[<-h];simp
def ZrP(n:Nat):yL yB:=(List.range 8).map λi=>ybc (n / 2 ^ (56 - 8*i))
theorem Ziv(n:Nat):(ZrP n).length=8:=by simp[ZrP]
theorem Zy5(n:Nat){k:Nat}(hk:k < 8):(ZrP n)[k]? =some (ybc (n / 2 ^ (56 - 8*k))):=by simp[ZrP,hk]
theorem Zy6(x:yU){m:Nat}:w8 ((ZH x m).toNat:Int)=ybc (x.toNat / 2 ^ m):=by
 unfold w8 ZH;have h:x.toNat / 2 ^ m < 18446744073709551616:=Nat.lt_of_le_of_lt (Nat.div_le_self ..) (ybt _);rw[ybd,yak h];apply UInt8.toNat_inj.1;rw[UInt8.toNat_ofNat',UInt8.toNat_ofNat'];omega
theorem ZBg{b:yL yB}(x:yU)(hb:b.length<=1000000):ZcL yD b x=some (b++ZrP x.toNat):=by
 unfold ZcL
 rw[show(b,x,(0:Int),([0,0,0,0,0,0,0,0]:yL yB))=(λk:Nat=>(b,x,(k:Int),Zpc (ZrP x.toNat) 8 k)) 0 from rfl,
  Zt (x:=(b,ZrP x.toNat)) 8 (λk:Nat=>(b,x,(k:Int),Zpc (ZrP x.toNat) 8 k)) ?_ ?_ (by omega),ya]
 ·dsimp only;rw[ZDs (by rw[Ziv];omega),ya]
 ·intro k hk;unfold ZbF;dsimp only;have hl:=Ziv x.toNat
  rw[yW (yY (by omega)),ZU (z:=8*(k:Int)) (by omega) (by omega),ZU (z:=56 - 8*(k:Int)) (by omega) (by omega),yW (yY (by omega)),yW (ZJ (by omega) (by omega)),
   yau,ZuC (by omega) (by omega),ya,Zo (by omega)]
  have e:min (56 - 8*(k:Int)).toNat 64=56 - 8*k:=by omega
  rw[e,Zy6,ZuD (Zy5 _ hk) (by omega)]
 ·unfold ZbF;dsimp only;rw[yX (by simp),ZuE (Ziv _)]
def ZDt(b:Zn):Prop:=b.1.length<=12/\0<=b.2.1/\b.2.1<=1048576/\0<=b.2.2.1/\b.2.2.1<=1048576
def ZDu(b:Zn):Prop:=(∀p,p∈b.1->QA p.toNat)/\(b.2.2.2≠0->QA b.2.2.2.toNat)
def Zbo(l:ZR):Prop:=0 < l.length/\l.length<=4/\∀b,b∈l->ZDt b
def Zdc(l:ZR):Prop:=∀b,b∈l->ZDu b
theorem ZHx(p:yU):Q4 yD p=some (!decide (QA p.toNat)):=by
 unfold Q4;rw[Zit,ya]
theorem ZMH{p:yU}(h:QA p.toNat):Q4 yD p=some false:=by rw[ZHx,yY h];rfl
theorem ZRT{l:yL yU}(hl:l.length<=12)(h:∀p,p∈l->QA p.toNat):Q5 yD l=some false:=by
 unfold Q5 Zaf
 rw[show(l,(l.length:Int),(0:Int))=(λk:Nat=>(l,(l.length:Int),(k:Int))) 0 from rfl,
  Zt (x:=.inr ()) l.length (λk:Nat=>(l,(l.length:Int),(k:Int))) ?_ ?_ (by omega),ya]
 ·rfl
 ·intro k hk;obtain⟨e,he,hm⟩:=Zg hk;unfold YE;dsimp only;rw[yW (ZF hk),Zp he,ya,ZMH (h e hm),ya,Zo (by omega)];rfl
 ·unfold YE;dsimp only;rw[yX (by rw[Zz];decide)]
theorem ZBh{z:Int}(h0:0<=z)(h1:z<=1048576):QH yD z=some true:=by
 unfold QH;rw[yW (yY h0),yY h1]
theorem Zy7{l:ZR}(h:Zbo l)(hp:Zdc l):W7 yD l=some true:=by
 unfold W7;obtain⟨h0,h1,h2⟩:=h
 rw[show(l,(l.length:Int),(0:Int),l)=(λk:Nat=>(l,(l.length:Int),(k:Int),l)) 0 from rfl,
  Zt (x:=.inr l) l.length (λk:Nat=>(l,(l.length:Int),(k:Int),l)) ?_ ?_ (by omega),ya]
 ·dsimp only;rw[yW (yY (by omega)),yY (by omega)]
 ·intro k hk;obtain⟨e,he,hm⟩:=Zg hk;obtain⟨e1,e2,e3,e4,e5⟩:=h2 e hm;obtain⟨p1,p2⟩:=hp e hm;unfold Vg;dsimp only;rw[yW (ZF hk),Zp he,ya,yX (ynd (by omega)),ZRT e1 p1,ya,ZBh e2 e3,ya,ZBh e4 e5,ya,Zo (by omega),yX (by decide),yX (by decide),yX (by decide)];by_cases hz:e.2.2.2=0
  ·rw[yX (by simp[hz])]
  ·rw[yW (by simp[hz]),ZMH (p2 hz),ya,yX (by decide)]
 ·unfold Vg;dsimp only;rw[yX (by rw[Zz];decide)]
def ZFL(t:Tx):Prop:=(∀x,x∈t.1->x.1.1.length=32)/\t.2.2<=9223372036854775807
def ZRU(x:In):Prop:=0<=x.1.2/\x.1.2 < 64/\0<=x.2.1/\x.2.1 < 4/\x.2.2.1.length<=12
def ZPj(o:Out):Prop:=0<=o.1/\o.1<=1125899906842624/\Zbo o.2/\Zdc o.2
def ZQO(t:Tx):Prop:=0 < t.1.length/\t.1.length<=64/\t.2.1.length<=64/\0<=t.2.2/\(∀x,x∈t.1->ZRU x)/\∀o,o∈t.2.1->ZPj o
def cat{α:Type}(f:α->yL yB)(l:yL α):yL yB:=(l.map f).flatten
theorem Zbw{α:Type}{f:α->yL yB}{l:yL α}{k:Nat}{e:α}(h:l[k]? =some e):cat f (l.take (k+1))=cat f (l.take k)++f e:=by
 unfold cat
 rw[Qa h,yas,List.flatten_append];simp
theorem ZMI{α:Type}{f:α->yL yB}{l:yL α}{e:α}:cat f (e::l)=f e++cat f l:=rfl
theorem ZIS{α:Type}{f:α->yL yB}{c:Nat}:∀{l:yL α},(∀x,x∈l->(f x).length<=c)->(cat f l).length<=l.length*c
 |[],_=>by simp[cat]
 |e::l,h=>by
  have h1:=h e (yaw ..);have h2:=ZIS (l:=l) λx hx=>h x (yay _ hx);rw[ZMI,yo,yaj,Nat.succ_mul];omega
theorem Zdd{α:Type}{f:α->yL yB}{c n:Nat}{l:yL α}(h:∀x,x∈l->(f x).length<=c)(hn:l.length<=n)(k:Nat):(cat f (l.take k)).length<=n*c:=by
 refine ybl (ZIS λx hx=>h x (List.mem_of_mem_take hx)) (Nat.mul_le_mul_right c ?_);rw[yai];omega
def ZDv(p:yU):yL yB:=ZrP p.toNat
def brF(b:Zn):yL yB:=WQ b.1.length++(cat ZDv b.1++(WQ b.2.1.toNat++(WQ b.2.2.1.toNat++ZrP b.2.2.2.toNat)))
def Zpd(l:ZR):yL yB:=WQ l.length++cat brF l
theorem Zpe{l:yL yU}(h:l.length<=12)(k:Nat):(cat ZDv (l.take k)).length<=96:=Zdd (c:=8) (λx _=>Nat.le_of_eq (Ziv _)) h k
theorem ZDw{b:Zn}(h:b.1.length<=12/\0<=b.2.1/\b.2.1<=1048576/\0<=b.2.2.1/\b.2.2.1<=1048576):(brF b).length<=131:=by
 have h1:=Zpe h.1 b.1.length;rw[yao] at h1;have h2:=Z8 (n:=b.1.length) (by omega);have h3:=Z8 (n:=b.2.1.toNat) (by omega);have h4:=Z8 (n:=b.2.2.1.toNat) (by omega);have h5:=Ziv b.2.2.2.toNat
 unfold brF;simp only[yo];omega
theorem ZpJ{l:ZR}(h:Zbo l):(Zpd l).length<=533:=by
 have h1:=Zdd (f:=brF) (c:=131) (λx hx=>ZDw (h.2.2 x hx)) h.2.1 l.length;rw[yao] at h1;have h2:=Z8 (n:=l.length) (by have:=h.2.1;omega);unfold Zpd;rw[yo];omega
theorem ZJ4{c:yL yB}(hc:c.length<=100000){bs:yL Zn}{n i:Int}{ks:yL yU}{l:ZR}{e:Zn}(hk:ks.length<=12):
 Zb (ZaC yD) yD (c,bs,n,i,ks,(ks.length:Int),(0:Int),l,e)=some (c++cat ZDv ks,bs,n,i,l,e):=by
 rw[show(c,bs,n,i,ks,(ks.length:Int),(0:Int),l,e)=(λk:Nat=>(c++cat ZDv (ks.take k),bs,n,i,ks,(ks.length:Int),(k:Int),l,e)) 0 by simp[cat]];refine Zt ks.length (λk:Nat=>(c++cat ZDv (ks.take k),bs,n,i,ks,(ks.length:Int),(k:Int),l,e)) ?_ ?_ (by omega)
 ·intro k hk2;obtain⟨e,he,_⟩:=Zg hk2;have hl:=Zpe hk k;unfold ZaC;dsimp only;rw[yW (ZF hk2),Zp he,ya,ZBg _ (by rw[yo];omega),ya,Zo (by omega),Zbw he,yad];rfl
 ·unfold ZaC;dsimp only;rw[yX (by rw[Zz];decide),yao]
theorem Zy8{l:ZR}(h:Zbo l)(hp:Zdc l):Ze4 yD l=some (Zpd l):=by
 unfold Ze4;have h0:=h.2.1;have h9:=Z8 (n:=l.length) (by omega);rw[Zy7 h hp,ya,yX (by decide),Zmj (by omega) (by omega) (by simp),ya,yw,yau]
 rw[show(WQ l.length,l,(l.length:Int),(0:Int),l)=(λk:Nat=>(WQ l.length++cat brF (l.take k),l,(l.length:Int),(k:Int),l)) 0 by simp[cat],
  Zt (x:=(Zpd l,l)) l.length (λk:Nat=>(WQ l.length++cat brF (l.take k),l,(l.length:Int),(k:Int),l)) ?_ ?_ (by omega),ya]
 ·intro k hk;obtain⟨e,he,hm⟩:=Zg hk;obtain⟨e1,e2,e3,e4,e5⟩:=h.2.2 e hm;have hl:=Zdd (f:=brF) (c:=131) (λx hx=>ZDw (h.2.2 x hx)) h.2.1 k;have hr:=Z8 (n:=e.1.length) (by omega);have hr2:=Z8 (n:=e.2.1.toNat) (by omega);have hr3:=Z8 (n:=e.2.2.1.toNat) (by omega);have hk8:=Zpe e1 e.1.length;rw[yao] at hk8;unfold ZcM;dsimp only
  rw[yW (ZF hk),Zp he,ya,Zmj (by omega) (by omega) (by rw[yo];omega),ya,yau,
   ZJ4 (by simp only[yo];omega) e1,ya]
  dsimp only
  rw[Zmj e2 (by omega) (by simp only[yo];omega),ya,Zmj e4 (by omega) (by simp only[yo];omega),ya,
   ZBg _ (by simp only[yo];omega),ya,Zo (by omega),Zbw he]
  unfold brF;simp only[yad]
 ·unfold ZcM;dsimp only;rw[yX (by rw[Zz];decide),yao];rfl
def inF(x:In):yL yB:=x.1.1++WQ x.1.2.toNat
def ZuF(o:Out):yL yB:=WQ o.1.toNat++(WQ (Zpd o.2).length++Zpd o.2)
def Zpf(t:Tx):yL yB:=WQ t.1.length++(cat inF t.1++(WQ t.2.1.length++(cat ZuF t.2.1++WQ t.2.2.toNat)))
theorem ZIT{x:In}(h:x.1.1.length=32)(k:ZRU x):(inF x).length<=41:=by
 have:=Z8 (n:=x.1.2.toNat) (by have:=k.2.1;omega);unfold inF;rw[yo];omega
theorem ZFM{o:Out}(k:ZPj o):(ZuF o).length<=551:=by
 have h1:=ZpJ k.2.2.1;have h2:=Z8 (n:=o.1.toNat) (by have:=k.2.1;omega);have h3:=Z8 (n:=(Zpd o.2).length) (by omega);unfold ZuF;simp only[yo];omega
theorem ZMJ{t:Tx}(hw:ZFL t)(h:ZQO t):ZpH yD t=some (Zpf t)/\(Zpf t).length<=40000:=by
 obtain⟨ins,outs,note⟩:=t;obtain⟨w2,w3⟩:=hw;obtain⟨h1,h2,h3,h4,h5,h6⟩:=h;dsimp only at w2 w3 h1 h2 h3 h4 h5 h6;have li:=λk=>Zdd (f:=inF) (c:=41) (λx hx=>ZIT (w2 x hx) (h5 x hx)) h2 k;have lo:=λk=>Zdd (f:=ZuF) (c:=551) (λx hx=>ZFM (h6 x hx)) h3 k;have li1:=li ins.length;have lo1:=lo outs.length;rw[yao] at li1 lo1;have r1:=Z8 (n:=ins.length) (by omega);have r2:=Z8 (n:=outs.length) (by omega);have r3:=Z8 (n:=note.toNat) (by omega);refine⟨?_,by unfold Zpf;simp only[yo];omega⟩;unfold ZpH;dsimp only;rw[Zmj (by omega) (by omega) (by simp),ya,yw,yau]
 rw[show(WQ ins.length,ins,(ins.length:Int),(0:Int),(ins,outs,note))=(λk:Nat=>(WQ ins.length++cat inF (ins.take k),ins,(ins.length:Int),(k:Int),(ins,outs,note))) 0 by simp[cat],
  Zt (x:=(WQ ins.length++cat inF ins,(ins,outs,note))) ins.length (λk:Nat=>(WQ ins.length++cat inF (ins.take k),ins,(ins.length:Int),(k:Int),(ins,outs,note))) ?_ ?_ (by omega),ya]
 ·dsimp only;rw[Zmj (by omega) (by omega) (by rw[yo];omega),ya,yau];generalize hp:WQ ins.length++cat inF ins++WQ outs.length=pre;have hpl:pre.length<=3000:=by rw[<-hp];simp only[yo];omega
  rw[show(pre,outs,(outs.length:Int),(0:Int),(ins,outs,note))=(λk:Nat=>(pre++cat ZuF (outs.take k),outs,(outs.length:Int),(k:Int),(ins,outs,note))) 0 by simp[cat],
   Zt (x:=(pre++cat ZuF outs,(ins,outs,note))) outs.length (λk:Nat=>(pre++cat ZuF (outs.take k),outs,(outs.length:Int),(k:Int),(ins,outs,note))) ?_ ?_ (by omega),ya]
  ·dsimp only;rw[Zmj h4 w3 (by rw[yo];omega),ya, <-hp];unfold Zpf;simp only[yad]
  ·intro k hk;obtain⟨e,he,hm⟩:=Zg hk;have hlk:=lo k;have hok:=h6 e hm;have hlo:=hok.2.2.1;have hll:=ZpJ hlo;have hrl:=Z8 (n:=e.1.toNat) (by have:=hok.2.1;omega);unfold Zg5;dsimp only
   rw[yW (ZF hk),Zp he,ya,Zmj hok.1 (by have:=hok.2.1;omega) (by rw[yo];omega),ya,Zy8 hok.2.2.1 hok.2.2.2,ya,
    ZFK (by simp only[yo];omega) (by omega),ya,Zo (by omega),Zbw he]
   unfold ZuF;simp only[yad]
  ·unfold Zg5;dsimp only;rw[yX (by rw[Zz];decide),yao]
 ·intro k hk;obtain⟨e,he,hm⟩:=Zg hk;have hlk:=li k;have h32:=w2 e hm;have hok:=h5 e hm;unfold Zg4;dsimp only
  rw[yW (ZF hk),Zp he,ya,ZHw (by rw[yo];omega) (by omega),ya,Zmj hok.1 (by have:=hok.2.1;omega) (by simp only[yo];omega),ya,
   Zo (by omega),Zbw he]
  unfold inF;simp only[yad]
 ·unfold Zg4;dsimp only;rw[yX (by rw[Zz];decide),yao]
def Zf2(l:yL Out):Int:=(l.map (·.1)).sum
theorem Zk3{l:yL Out}{k:Nat}{e:Out}(h:l[k]? =some e):Zf2 (l.take (k+1))=Zf2 (l.take k)+e.1:=by
 unfold Zf2;rw[Qa h,yas,List.sum_append];simp
theorem ZMK:∀{l:yL Int},(∀x,x∈l->0<=x)->0<=l.sum
 |[],_=>by simp
 |x::r,h=>by
  have:=ZMK (l:=r) λy hy=>h y (yay _ hy);have:=h x (yaw ..);rw[List.sum_cons];omega
def z32:yL yB:=yzz
def Ahd(a b:Cond):Prop:=a.1 < b.1\/a.1=b.1/\a.2.1 < b.2.1
instance(a b:Cond):Decidable (Ahd a b):=by unfold Ahd;infer_instance
def frG(h:yL yB):Nat->Nat
 |0=>0
 |k+1=>(256*frG h k+(h.getD k 0).toNat) % 2305843009213688668
theorem ZML(h:yL yB)(k:Nat):frG h k < 2305843009213688668:=by
 cases k with
 |zero=>exact(by decide:(0:Nat) < 2305843009213688668)
 |succ k=>exact ybj _ (by decide)
def frF(h:yL yB):yU:=yac (frG h 32)+1
theorem ZDx{z:Nat}(h:z < 2305843009213688668):(yac z).toNat=z:=by
 rw[ybd,yak (by omega)]
theorem ZQP(x:yU)(n:Nat):(Zar x n).toNat=x.toNat*2 ^ n % 18446744073709551616:=ybd ..
theorem ZOD(n:Nat)(b:yB)(hn:n < 2305843009213688668):((Zar (yac n) 8)|||(yac b.toNat)).toNat=n*256 % 18446744073709551616+b.toNat:=by
 have hb:b.toNat < 256:=b.toNat_lt;rw[UInt64.toNat_or,ZQP,ZDx hn,ybd,yak (a:=b.toNat) (by omega)];have h2:n*2 ^ 8 % 2 ^ 64=(n % 2 ^ 56)*2 ^ 8:=by omega
 rw[show n*2 ^ 8 % 18446744073709551616=(n % 2 ^ 56)*2 ^ 8 from h2,Nat.mul_comm, <-Nat.two_pow_add_eq_or_of_lt (by omega:b.toNat < 2 ^ 8)]
theorem ZDy{h:yL yB}(hl:h.length=32):Zax yD h=some (frF h):=by
 unfold Zax
 have e:=Zt (step:=Qq yD) 32 (λk:Nat=>(yac (frG h k),h,(k:Int),h)) (x:=(yac (frG h 32),h)) (by
  intro k hk;obtain⟨e,he,_⟩:=Zg (l:=h) (k:=k) (by omega);unfold Qq;dsimp only;rw[yW (yY (by omega)),Zp he,ya];unfold VH;rw[yW (by decide),ya,Zo (by omega)];have hn:=ZML h k;have hb:e.toNat < 256:=e.toNat_lt;have hd:h.getD k 0=e:=by simp[List.getD,he]
  rw[show(2305843009213688668:yU).toNat=2305843009213688668 from rfl,ZOD _ _ hn,Zav,ZDx hn]
  have h2:frG h k / 2 ^ 56*18446744073709551616+(frG h k*256 % 18446744073709551616+e.toNat)=256*frG h k+e.toNat:=by omega
  rw[h2,show frG h (k+1)=(256*frG h k+(h.getD k 0).toNat) % 2305843009213688668 from rfl,hd]) (by
  unfold Qq;dsimp only;rw[yX (ynd (by omega))]) (by omega)
 have e:Zb (Qq yD) yD ((0:yU),h,(0:Int),h)=_:=e;rw[e,ya];rfl
theorem Zy9{h:yL yB}(hl:h.length=32):Z2 yD h=some (frF h):=by
 unfold Z2
 have e:=Zt (step:=Xf yD) 32 (λk:Nat=>(yac (frG h k),(k:Int),h)) (x:=(yac (frG h 32),h)) (by
  intro k hk;obtain⟨e,he,_⟩:=Zg (l:=h) (k:=k) (by omega);have hb:e.toNat < 256:=e.toNat_lt;have hd:h.getD k 0=e:=by simp[List.getD,he]
  have hn:=ZML h k;unfold Xf;dsimp only;rw[yW (yY (by omega))]
  have g:=Zt (step:=Xe yD) 8 (λj:Nat=>(yac ((2 ^ j*frG h k+e.toNat / 2 ^ (8 - j)) % 2305843009213688668),(k:Int),7 - (j:Int),h)) (x:=(yac ((256*frG h k+e.toNat) % 2305843009213688668),(k:Int),h)) (by
   intro j hj;unfold Xe;dsimp only;rw[yW (yY (by omega)),yW (ZJ (by omega) (by omega)),yau,he,ya,ZU (z:=7 - (j:Int) - 1) (by omega) (by omega)]
   have q1:(min ((w64 (7 - (j:Int))).toNat:Int).toNat 64)=7 - j:=by
    have:(w64 (7 - (j:Int))).toNat=7 - j:=by
     unfold w64;rw[ybd];omega
    omega
   rw[q1,show(7:Int) - (j:Int) - 1=7 - ((j+1:Nat):Int) by omega];refine congrArg (λx=>some (Sum.inl (x,(k:Int),7 - ((j+1:Nat):Int),h))) ?_;have m1:(2 ^ j*frG h k+e.toNat / 2 ^ (8 - j)) % 2305843009213688668 < 2305843009213688668:=ybj _ (by decide);rw[<-ycl,UInt64.toNat_mod,UInt64.toNat_add,UInt64.toNat_mul,ZDx m1,ZDx (ybj _ (by decide)),UInt64.toNat_and,Zav,ybd,yak (a:=e.toNat) (by omega)];rw[show(1:yU).toNat=1 from rfl,Nat.and_one_is_mod,show(2:yU).toNat=2 from rfl,show(2305843009213688668:yU).toNat=2305843009213688668 from rfl]
   have m2:e.toNat / 2 ^ (8 - (j+1))=2*(e.toNat / 2 ^ (8 - j))+e.toNat / 2 ^ (7 - j) % 2:=by
    rw[show 8 - (j+1)=7 - j by omega,show 8 - j=(7 - j)+1 by omega,Nat.pow_succ, <-Nat.div_div_eq_div_mul];omega
   have m3:2 ^ (j+1)*frG h k=2*(2 ^ j*frG h k):=by rw[Nat.pow_succ,Nat.mul_comm (2 ^ j) 2,Nat.mul_assoc]
   rw[m2,m3];generalize 2 ^ j*frG h k=u at*;generalize e.toNat / 2 ^ (8 - j)=v at*;generalize e.toNat / 2 ^ (7 - j)=t at*;omega) (by
   unfold Xe;dsimp only;rw[yX (ynd (by omega))];simp) (by omega)
  rw[show(2 ^ 0*frG h k+e.toNat / 2 ^ (8 - 0)) % 2305843009213688668=frG h k by
   rw[show 2 ^ (8 - 0)=256 from rfl,Nat.div_eq_of_lt hb,Nat.pow_zero,Nat.one_mul,ybw,yak hn]] at g
  have g:Zb (Xe yD) yD (yac (frG h k),(k:Int),(7:Int),h)=_:=g;rw[g,ya,Zo (by omega),show frG h (k+1)=(256*frG h k+(h.getD k 0).toNat) % 2305843009213688668 from rfl,hd]) (by
  unfold Xf;dsimp only;rw[yX (ynd (by omega))]) (by omega)
 have e:Zb (Xf yD) yD ((0:yU),(0:Int),h)=_:=e;rw[e,ya];rfl
theorem Xq(n:Nat):(Ww n).length=8:=rfl
theorem Ztj(n:yU):Wh yD n=some (Ww n.toNat):=by
 unfold Wh
 have e:=Zt (step:=Xg yD) 8 (λk:Nat=>(n,56 - 8*(k:Int),(Ww n.toNat).take k)) (x:=Ww n.toNat) (by
  intro k hk;have hb:(Ww n.toNat)[k]? =_:=Zuw n hk;have hl:((Ww n.toNat).take k).length<=8:=by rw[yai];exact ybl (Nat.min_le_right _ _) (ym _)
  unfold Xg;dsimp only;have q1:min (56 - 8*(k:Int)).toNat 64=56 - 8*k:=by omega
  rw[yW (yY (by omega)),yW (yY (by omega)),yW (ZT (by omega) (by omega)),ZU (z:=56 - 8*(k:Int) - 8) (by omega) (by omega),q1,show 56 - 8*(k:Int) - 8=56 - 8*((k+1:Nat):Int) by omega,List.take_add_one,hb];rfl) (by
  unfold Xg;dsimp only;rw[yX (ynd (by omega))];rfl) (by omega)
 have e:Zb (Xg yD) yD (n,(56:Int),([]:yL yB))=_:=e;rw[e,ya]
theorem ZJ5(n:yU):Vp yD n=some (Ww n.toNat):=by
 unfold Vp
 have e:=Zt (step:=Yp yD) 8 (λk:Nat=>(n,56 - 8*(k:Int),([]:yL yB),(Ww n.toNat).take k)) (x:=(([]:yL yB),Ww n.toNat)) (by
  intro k hk;have hb:(Ww n.toNat)[k]? =_:=Zuw n hk;have hl:((Ww n.toNat).take k).length<=8:=by rw[yai];exact ybl (Nat.min_le_right _ _) (ym _)
  unfold Yp;dsimp only;have q1:min (56 - 8*(k:Int)).toNat 64=56 - 8*k:=by omega
  rw[yW (yY (by omega)),yW (yY (by omega)),yW (ZT (by omega) (by omega)),ZU (z:=56 - 8*(k:Int) - 8) (by omega) (by omega),q1,show 56 - 8*(k:Int) - 8=56 - 8*((k+1:Nat):Int) by omega,List.take_add_one,hb];rfl) (by
  unfold Yp;dsimp only;rw[yX (ynd (by omega))];rfl) (by omega)
 have e:Zb (Yp yD) yD (n,(56:Int),([]:yL yB),([]:yL yB))=_:=e;rw[e,ya]
def tgF(l:yL yB):yL yB:=Ww l.length++l
def Zwe(s:ByteArray)(ls:yL (yL yB)):yL yB:=Ww s.size++Zll s++cat tgF ls
theorem ZFN(s:ByteArray):(Zll s).length=s.size:=by
 unfold Zll;rw[Array.length_toList];rfl
theorem Zwz{ls:yL (yL yB)}(h2:ls.length<=10)(h3:∀l,l∈ls->l.length<=60000)(k:Nat):(cat tgF (ls.take k)).length<=10*60008:=
 Zdd (c:=60008) (λl hl=>by have:=h3 l hl;unfold tgF;rw[yo,Xq];omega) h2 k
theorem Zza{s:ByteArray}{ls:yL (yL yB)}(h1:s.size<=100)(h2:ls.length<=10)(h3:∀l,l∈ls->l.length<=60000):Zcc yD s ls=some (Sha.sha (Zwe s ls)):=by
 unfold Zcc;have hs:=ZFN s;have p1:VX yD (s.size:Int) []=some (Ww s.size):=ZCS (b:=[]) (by simp);rw[p1,ya,yW (ZT (by rw[hs,Xq];omega) (by rw[hs,Xq];omega))]
 have e:=Zt (step:=Za2 yD) ls.length (λk:Nat=>(ls,(ls.length:Int),(k:Int),z32,Ww s.size++Zll s++cat tgF (ls.take k))) (x:=(z32,Zwe s ls)) (by
  intro k hk;obtain⟨e,he,hm⟩:=Zg hk;have:=h3 e hm;have hc:=Zwz h2 h3 k;unfold Za2;dsimp only;rw[yW (yY (by omega)),Zp he,ya,ZCS (by simp only[yo,Xq,hs];omega),ya,yW (ZT (by simp only[yo,Xq,hs];omega) (by simp only[yo,Xq,hs];omega)),Zo (by omega),Zbw he];simp only[tgF,yad]) (by
  unfold Za2;dsimp only;rw[yX (by rw[Zz];decide),yao];rfl) (by omega)
 rw[show cat tgF (ls.take 0)=[] from rfl,yaz] at e
 have e:Zb (Za2 yD) yD (ls,(ls.length:Int),(0:Int),yzz,Ww s.size++Zll s)=_:=e;have hc:=Zwz h2 h3 ls.length;rw[yao] at hc;rw[e,ya,ZOA (by show(Zwe s ls).length<=_;unfold Zwe;simp only[yo,Xq,hs];omega),ya]
theorem Ztk{s:ByteArray}{ls:yL (yL yB)}(h1:s.size<=100)(h2:ls.length<=10)(h3:∀l,l∈ls->l.length<=60000):Yw yD s ls=some (Sha.sha (Zwe s ls)):=by
 unfold Yw;have hs:=ZFN s
 have w:∀n:Nat,n<=1000000->(w64 (n:Int)).toNat=n:=λn hn=>by
  unfold w64;rw[ybd];omega
 have hs':s.data.toList.length=s.size:=hs;rw[ZJ5,ya,w _ (by omega),yW (yY (by unfold maxLen;omega)),yW (ZT (by rw[hs',Xq];omega) (by rw[hs',Xq];omega))]
 have e:=Zt (step:=YH yD) ls.length (λk:Nat=>(ls,(k:Int),z32,Ww s.size++Zll s++cat tgF (ls.take k))) (x:=(z32,Zwe s ls)) (by
  intro k hk;obtain⟨e,he,hm⟩:=Zg hk;have:=h3 e hm;have hc:=Zwz h2 h3 k;unfold YH;dsimp only;rw[yW (ZF hk),Zp he,ya,Ztj,ya,w _ (by omega),yW (ZT (by simp only[yo,Xq,hs];omega) (by simp only[yo,Xq,hs];omega)),ya,yW (ZT (by simp only[yo,Xq,hs];omega) (by simp only[yo,Xq,hs];omega)),Zo (by omega),Zbw he];simp only[tgF,yad]) (by
  unfold YH;dsimp only;rw[yX (by rw[Zz];decide),yao];rfl) (by omega)
 rw[show cat tgF (ls.take 0)=[] from rfl,yaz] at e
 have e:Zb (YH yD) yD (ls,(0:Int),z32,Ww s.size++s.data.toList)=_:=e;have hc:=Zwz h2 h3 ls.length;rw[yao] at hc;show(Option.bind (Zb (YH yD) yD (ls,(0:Int),z32,Ww s.size++s.data.toList)) λo85=>(WE yD o85.2).bind λo86=>some o86)=_;rw[e,ya,ZMz (by show(Zwe s ls).length<=_;unfold Zwe;simp only[yo,Xq,hs];omega),ya]
theorem ZDz{n:Nat}(h:n < 256):w8 (n:Int)=ybc n:=by
 unfold w8;congr 1;omega
theorem ZQQ:∀(k n:Nat),n < 128 ^ (k+1)->n<=9223372036854775807->VR yD (k+1) (n:Int)=some (WQ n):=by
 intro k
 induction k with
 |zero=>
  intro n h h2;have h:n < 128:=by simpa using h
  show WG yD (VR yD 0) (n:Int)=_;unfold WG
  rw[yW (yY (by omega)),Ziu h,ZDz (by omega)]
 |succ k ih=>
  intro n h h2;show WG yD (VR yD (k+1)) (n:Int)=_;unfold WG;by_cases h0:n < 128
  ·rw[yW (yY (by omega)),Ziu h0,ZDz (by omega)]
  ·have hd:n / 128 < 128 ^ (k+1):=by
    rw[Nat.div_lt_iff_lt_mul (by decide)];rw[Nat.pow_succ] at h;exact h
   have e1:wi (Int.tdiv (n:Int) 128)=((n / 128:Nat):Int):=by
    rw[show Int.tdiv (n:Int) 128=((n / 128:Nat):Int) from rfl,ZU (by omega) (by omega)]
   have hl:=Z8 (n:=n / 128) (by omega);rw[yX (ynd (by omega)),e1,ih _ hd (by omega),ya,yW (ZT (by omega) (by omega)),Zy4 h0]
   have e2:w8 (Int.tmod (n:Int) 128)+128=ybc (n % 128+128):=by
    rw[show Int.tmod (n:Int) 128=((n % 128:Nat):Int) from rfl,ZDz (by omega), <-UInt8.toNat_inj,UInt8.toNat_add,UInt8.toNat_ofNat',UInt8.toNat_ofNat']
    show(n % 128 % 256+128) % 256=_;omega
   rw[e2];rfl
theorem ZOE{n:Nat}(h:n<=9223372036854775807):Zal yD (n:Int)=some (WQ n):=ZQQ 11 n (by omega) h
theorem ZeM{b:yL yB}{z:Int}(h0:0<=z)(h:z<=9223372036854775807)(hb:b.length<=1000000):Z1 yD b z=some (b++WQ z.toNat):=by
 obtain⟨n,rfl⟩:=Int.eq_ofNat_of_zero_le h0;have hl:=Z8 (n:=n) (by omega);unfold Z1;rw[yW (ZT (by omega) (by omega)),yW (yY (by omega)),ZOE (by omega),ya,yW (ZT (by omega) (by omega)),yau]
theorem ZMM{b:yL yB}{z:Int}(h0:0<=z)(h:z<=9223372036854775807)(hb:b.length<=1000000):ZaU yD b z=some (b++WQ z.toNat):=ZeM h0 h hb
theorem Zmk{b:yL yB}(x:yU)(hb:b.length<=1000000):YL yD b x=some (b++ZrP x.toNat):=by
 unfold YL;rw[yW (ZT (by omega) (by omega))]
 have e:=Zt (step:=Yz yD) 8 (λk:Nat=>(x,7 - (k:Int),b++(ZrP x.toNat).take k)) (x:=b++ZrP x.toNat) (by
  intro k hk;have hl:((ZrP x.toNat).take k).length<=8:=by rw[yai];omega
  unfold Yz;dsimp only
  have q1:(min ((w64 (wi (8*(7 - (k:Int))))).toNat:Int).toNat 64)=56 - 8*k:=by
   rw[ZU (z:=8*(7 - (k:Int))) (by omega) (by omega)]
   have:(w64 (8*(7 - (k:Int)))).toNat=56 - 8*k:=by
    unfold w64;rw[ybd];omega
   omega
  rw[yW (yY (by omega)),yW (ZT (by rw[yo];omega) (by rw[yo];omega)),ZU (z:=7 - (k:Int) - 1) (by omega) (by omega),q1,Zy6,show 7 - (k:Int) - 1=7 - ((k+1:Nat):Int) by omega,List.take_add_one,Zy5 _ hk,yad];rfl) (by
  unfold Yz;dsimp only;rw[yX (ynd (by omega)),ycm (by rw[Ziv];exact ym _)]) (by omega)
 have e:Zb (Yz yD) yD (x,(7:Int),b++[])=_:=e;rw[yaz] at e;rw[e,ya]
theorem ZFO{b h:yL yB}(hb:b.length<=1000000)(hh:h.length=32):Wc yD b h=some (b++h):=by
 unfold Wc;rw[yW (ZT (by omega) (by omega))]
 have e:=Zt (step:=Yq yD) 32 (λk:Nat=>((k:Int),h,b++h.take k)) (x:=(h,b++h)) (by
  intro k hk;obtain⟨e,he,_⟩:=Zg (l:=h) (k:=k) (by omega);have hl:(h.take k).length<=32:=by rw[yai];omega
  unfold Yq;dsimp only;rw[yW (yY (by omega)),yW (ZJ (by omega) (by omega)),yau,he,ya,yW (ZT (by rw[yo];omega) (by rw[yo];omega)),Zo (by omega),List.take_add_one,he,yad];rfl) (by
  unfold Yq;dsimp only;rw[yX (ynd (by omega)),ycm (by omega)]) (by omega)
 have e:Zb (Yq yD) yD ((0:Int),h,b++[])=_:=e;rw[yaz] at e;rw[e,ya]
theorem ZDA{b c:yL yB}(hb:b.length<=1000000)(hc:c.length<=1000000):W0 yD b c=some (b++(WQ c.length++c)):=by
 unfold W0;have hl:=Z8 (n:=c.length) (by omega);rw[ZMM (by omega) (by omega) hb,ya,yau,yW (ZT (by rw[yo];omega) (by rw[yo];omega)),yad]
theorem ZOF(a b:yU):Zda yD a b=some (yac ((a.toNat+b.toNat) % ord)):=by
 rw[<-ZIQ];rfl
theorem ZHy(a:yU):Qi yD a=some (decide (a.toNat < ord)):=by
 unfold Qi;congr 1
theorem ZQR(o x h M:Nat):((o+x) % M+(x+x) % M*h) % M=(o+x*(2*h+1)) % M:=by
 rw[Nat.add_mod,Nat.mod_mod,Nat.mul_mod,Nat.mod_mod, <-Nat.mul_mod, <-Nat.add_mod];congr 1;rw[Nat.add_mul,Nat.mul_add,Nat.mul_one,Nat.mul_left_comm];omega
theorem ZOG(o x h M:Nat):(o+(x+x) % M*h) % M=(o+x*(2*h)) % M:=by
 rw[Nat.add_mod,Nat.mul_mod,Nat.mod_mod, <-Nat.mul_mod, <-Nat.add_mod];congr 1;rw[Nat.add_mul,Nat.mul_left_comm];omega
theorem ZOH(a b:yU):Zan yD a b=some (yac (a.toNat*b.toNat % ord)):=by
 unfold Zan Va;rw[ya,ya];have hM:(2305843009213688669:yU).toNat=ord:=rfl;have hO:ord=2305843009213688669:=rfl
 have addm:∀u v:yU,u.toNat < ord->v.toNat < ord->((u+v) % 2305843009213688669).toNat=(u.toNat+v.toNat) % ord:=λu v hu hv=>by
  rw[UInt64.toNat_mod,UInt64.toNat_add,hM,yak (a:=u.toNat+v.toNat) (by omega)]
 obtain⟨x,h1,h2⟩:=Ws (step:=WB yD) 64 (λk s=>∃x y o:yU,s=(x,y,o)/\x.toNat < ord/\o.toNat < ord/\y.toNat < 2 ^ (64 - k)/\(o.toNat+x.toNat*y.toNat) % ord=a.toNat*b.toNat % ord) (λr=>r.toNat=a.toNat*b.toNat % ord)
  (i:=(a % 2305843009213688669,b % 2305843009213688669,(0:yU))) ⟨_,_,_,rfl,by rw[Zpb];exact Zmi,by decide,by rw[Zpb];have:b.toNat % ord < ord:=Zmi;omega,by rw[Zpb,Zpb,show(0:yU).toNat=0 from rfl,Nat.zero_add, <-Nat.mul_mod]⟩ (by omega) (by
  rintro k _ hk ⟨x,y,o,rfl,hx,ho,hy,he⟩;unfold WB;dsimp only;by_cases h0:y.toNat=0
  ·right;rw[yX (by rw[yN];show¬(0:yU).toNat < y.toNat;rw[h0];decide)];exact⟨_,rfl,by rw[h0,Nat.mul_zero,ybw,yak ho] at he;exact he⟩
  ·left;have hy2:(y / 2).toNat=y.toNat / 2:=by rw[UInt64.toNat_div];rfl
   have hyk:(y / 2).toNat < 2 ^ (64 - (k+1)):=by
    rw[hy2,Nat.div_lt_iff_lt_mul (by decide), <-Nat.pow_succ];have:(64 - (k+1)).succ=64 - k:=by omega
    rw[this];exact hy
   have hxx:=addm x x hx hx;rw[yW (show decide (y > 0)=true from yY (show(0:yU).toNat < y.toNat from Nat.pos_of_ne_zero h0))]
   have hm:((y % 2)==1)=decide (y.toNat % 2=1):=by
    have e:(y % 2).toNat=y.toNat % 2:=by rw[UInt64.toNat_mod];rfl
    by_cases h1:y.toNat % 2=1
    ·rw[yY h1,yT, <-ycl,e,h1];rfl
    ·rw[yZ h1,beq_eq_false_iff_ne];intro h2;rw[h2] at e;exact h1 e.symm
   rw[hm];have hd:y.toNat=2*(y.toNat / 2)+y.toNat % 2:=by omega
   by_cases h1:y.toNat % 2=1
   ·rw[yW (yY h1)];have hox:=addm o x ho hx;refine⟨_,rfl,_,_,_,rfl,by rw[hxx];exact Zmi,by rw[hox];exact Zmi,hyk, ?_⟩;rw[hxx,hox,hy2,ZQR, <-he];rw[h1] at hd;rw[<-hd]
   ·rw[yX (by rw[yN];exact h1)];refine⟨_,rfl,_,_,_,rfl,by rw[hxx];exact Zmi,ho,hyk, ?_⟩;rw[hxx,hy2,ZOG, <-he];have h2:y.toNat % 2=0:=by omega
    rw[h2,ybw] at hd;rw[<-hd]) (by
  rintro _ ⟨x,y,o,rfl,hx,ho,hy,he⟩;have h0:y.toNat=0:=by simpa using hy
  unfold WB;dsimp only;rw[yX (by rw[yN];show¬(0:yU).toNat < y.toNat;rw[h0];decide)];exact⟨_,rfl,by rw[h0,Nat.mul_zero,ybw,yak ho] at he;exact he⟩)
 rw[h1,ya];congr 1;rw[<-ycl,h2,ZMF]
theorem ZJ6{lo hi:Int}{l:yL Int}(hl:l.length<=100)(h:∀x,x∈l->lo<=x/\x<=hi):Z9 yD lo hi l=some true:=by
 unfold Z9 Xo X8;rw[show(l,(l.length:Int),(0:Int),lo,hi)=(λk:Nat=>(l,(l.length:Int),(k:Int),lo,hi)) 0 from rfl,Zt (x:=.inr (lo,hi)) l.length (λk:Nat=>(l,(l.length:Int),(k:Int),lo,hi)) ?_ ?_ (by omega),ya]
 ·rfl
 ·intro k hk;obtain⟨e,he,hm⟩:=Zg hk;have:=h e hm;unfold ZV ZbD;dsimp only;rw[yW (ZF hk),Zp he,ya,yX (ynd (by omega)),ya,yZ (by omega),yX (by simp),Zo (by omega)]
 ·unfold ZV;dsimp only;rw[yX (by rw[Zz];decide)]
theorem w1{lo hi z:Int}(h1:lo<=z)(h2:z<=hi):Z9 yD lo hi [z]=some true:=ZJ6 (by simp) λx hx=>by rw[yav.1 hx];exact⟨h1,h2⟩
theorem Zer(a b:Int):YO yD a b=some (if a < b then-1 else if a > b then 1 else 0):=by
 unfold YO ZcE;rw[ya,ya];have e:∀z:Int,(z !=z)=false:=λz=>by simp
 rw[e,e,yX (by decide),yX (by decide)];by_cases h1:a < b
 ·rw[yW (yY h1),yW h1]
 ·rw[yX (by rw[yN];exact h1),yX h1];by_cases h2:a > b
  ·rw[yW (yY h2),yW h2]
  ·rw[yX (by rw[yN];exact h2),yX h2]
def orL:yL Int->Int
 |[]=>0
 |z::r=>if z≠0 then z else orL r
theorem ZPk{l:yL Int}(hl:l.length<=100):ZeY yD l=some (orL l):=by
 have key:∀(d k f:Nat),k+d=l.length->d < f->∃x,Zb (Qp yD) f ((0:Int),l,(l.length:Int),(k:Int))=some x/\(x=.inl (orL (l.drop k))\/x=.inr 0/\orL (l.drop k)=0):=by
  intro d
  induction d with
  |zero=>
   intro k f h hf;obtain⟨f,rfl⟩:=Nat.exists_eq_succ_of_ne_zero (n:=f) (by omega);have:k=l.length:=by omega
   subst this;unfold Zb Qp;dsimp only;rw[yX (by rw[Zz];decide),ya]
   exact⟨_,rfl,.inr ⟨rfl,by rw[List.drop_length];rfl⟩⟩
  |succ d ih=>
   intro k f h hf;obtain⟨f,rfl⟩:=Nat.exists_eq_succ_of_ne_zero (n:=f) (by omega);have hk:k < l.length:=by omega
   obtain⟨e,he,hm⟩:=Zg hk
   have hd:l.drop k=e::l.drop (k+1):=by
    rw[List.drop_eq_getElem_cons hk];rw[yab hk] at he;cases he;rfl
   rw[hd];unfold Zb Qp;dsimp only;rw[yW (ZF hk),Zp he,ya];by_cases h0:e=0
   ·subst h0;rw[yX (by decide),ya,Zo (by omega)];exact ih (k+1) f (by omega) (by omega)
   ·rw[yW (bne_iff_ne.2 h0),ya];exact⟨_,rfl,.inl (by unfold orL;rw[yW h0])⟩
 unfold ZeY;obtain⟨x,h1,h2⟩:=key l.length 0 yD (by omega) (by rw[ZgL];omega);rw[List.drop_zero] at h2;show Option.bind (Zb (Qp yD) yD ((0:Int),l,(l.length:Int),((0:Nat):Int))) _=_;rw[h1,ya];rcases h2 with rfl|⟨rfl,h2⟩
 ·rfl
 ·rw[h2]
theorem Zml(p q:Prop)[Decidable p][Decidable q]{b:Bool}(h:b=decide (p/\q)):(if decide p=true then some (decide q) else some false)=some b:=by
 subst h;by_cases h1:p
 ·rw[yW (yY h1)];by_cases h2:q
  ·rw[yY h2,yY ⟨h1,h2⟩]
  ·rw[yZ h2,yZ λh=>h2 h.2]
 ·rw[yX (by rw[yN];exact h1),yZ λh=>h1 h.1]
theorem ZQS(z a b:Int):Wu yD z a b=some (decide (a<=z/\z<=b)):=Zml _ _ rfl
theorem ZDB(z a b:Int):Z0 yD z a b=some (decide (a<=z/\z<=b)):=Zml (z >= a) (z<=b) rfl
theorem ZDC(z a b:Int):Yo yD z a b=some (decide (a<=z/\z<=b)):=Zml (z >= a) (z<=b) rfl
def VY(t:Terms):Prop:=(0<=t.1/\t.1<=65536)/\(1<=t.2.2.1/\t.2.2.1<=4096)/\(0<=t.2.2.2.1/\t.2.2.2.1<=16)/\(t.1<=t.2.1/\t.2.1<=1125899906842624)/\(1<=t.2.2.2.2.1/\t.2.2.2.2.1<=1125899906842624)/\(0<=t.2.2.2.2.2/\t.2.2.2.2.2<=1125899906842624)
instance(t:Terms):Decidable (VY t):=by unfold VY;infer_instance
theorem W1{p q:Prop}[Decidable p][Decidable q][Decidable (p/\q)]{x:yO Bool}(h:x=some (decide q)):(if decide p=true then x else some false)=some (decide (p/\q)):=by
 rw[h];exact Zml p q (by congr)
theorem ZMN(t:Terms):ZgO yD t=some (decide (VY t)):=by
 unfold ZgO;simp only[ZQS,ya];exact W1 (W1 (W1 (W1 (W1 rfl))))
theorem ZJ7(t:Terms):V5 yD t=some (decide (VY t)):=by
 unfold V5;simp only[ZDB,ya];refine(W1 (W1 (W1 (W1 (W1 rfl))))).trans (congrArg some (decide_eq_decide.2 ?_));constructor
 ·rintro⟨h1,h2,h3,h4,h5,h6⟩;exact⟨h1,h3,h4,h2,h5,h6⟩
 ·rintro⟨h1,h3,h4,h2,h5,h6⟩;exact⟨h1,h2,h3,h4,h5,h6⟩
def pts(b:Basics):yL yU:=[b.1,b.2.1,b.2.2.1,b.2.2.2.1,b.2.2.2.2]
def Zmm(p:yU):Prop:=QA p.toNat/\p≠1
instance(p:yU):Decidable (Zmm p):=by unfold Zmm;infer_instance
def ZaV(b:Basics):Prop:=∀p,p∈pts b->Zmm p
instance(b:Basics):Decidable (ZaV b):=by unfold ZaV;infer_instance
theorem ZMO(p:yU):ZbB yD p=some (!decide (Zmm p)):=by
 unfold ZbB;rw[Zit,ya];by_cases h:p=1
 ·rw[yW (beq_iff_eq.2 h),yZ (p:=Zmm p) λk=>k.2 h];rfl
 ·rw[yX (by rw[yT];exact h)];by_cases k:QA p.toNat
  ·rw[yY k,yY (p:=Zmm p) ⟨k,h⟩]
  ·rw[yZ k,yZ (p:=Zmm p) λq=>k q.1]
theorem ZQT(p:yU):Zai yD p=some (decide (Zmm p)):=by
 unfold Zai;rw[Za7,ya];by_cases k:QA p.toNat
 ·rw[yY k,yW rfl];by_cases h:p=1
  ·rw[yZ (p:=Zmm p) λq=>q.2 h,h];rfl
  ·rw[yY (p:=Zmm p) ⟨k,h⟩];exact congrArg some (bne_iff_ne.2 h)
 ·rw[yZ k,yX (by decide),yZ (p:=Zmm p) λq=>k q.1]
theorem ZJ8(b:Basics):Zex yD b=some (decide (ZaV b)):=by
 unfold Zex Zrr ZhH
 obtain⟨x,h1,h2⟩:=Ws (step:=VI yD) 5 (λk s=>s=(pts b,(5:Int),(k:Int))/\∀j p,j < k->(pts b)[j]? =some p->Zmm p) (λx=>(∃j:Nat,x=.inl (j:Int)/\¬ZaV b)\/x=.inr ()/\ZaV b) (i:=(pts b,((pts b).length:Int),(0:Int))) ⟨rfl,λj p hj=>by omega⟩ (by omega) (by
  rintro k _ hk ⟨rfl,hj⟩;obtain⟨p,hp,hm⟩:=Zg (l:=pts b) (k:=k) hk;unfold VI;dsimp only;rw[yW (yY (by omega)),Zp hp,ya,ZMO,ya,Zo (by omega)];by_cases h:Zmm p
  ·left;rw[yY h,yX (by decide)];refine⟨_,rfl,rfl,λj q hjk hq=> ?_⟩;by_cases e:j=k
   ·subst e;rw[hp] at hq;cases hq;exact h
   ·exact hj j q (by omega) hq
  ·right;rw[yZ h,yW (by decide)];exact⟨_,rfl,.inl ⟨k,rfl,λzU=>h (zU p hm)⟩⟩) (by
  rintro _ ⟨rfl,hj⟩;unfold VI;dsimp only;rw[yX (ynd (by omega))];refine⟨_,rfl,.inr ⟨rfl,λp hp=> ?_⟩⟩;obtain⟨j,hj1,hj2⟩:=ybx hp;exact hj j p hj1 (by rw[yab hj1,hj2]))
 rw[show([b.1,b.2.1,b.2.2.1,b.2.2.2.1,b.2.2.2.2]:yL yU)=pts b from rfl,h1,ya]
 rcases h2 with⟨j,rfl,h⟩|⟨rfl,h⟩
 ·dsimp only;rw[ya,ya,yY (show(j:Int) >= 0 by omega),yZ h];rfl
 ·dsimp only;rw[ya,ya,yY h];rfl
theorem ZJ9(i:Int)(ch:Chan)(b:Basics):∃x,Zb (XA yD) yD (i,pts b,(0:Int),ch,b)=some x/\(x=.inl (1,ch,b)/\¬ZaV b\/x=.inr (i,ch,b)/\ZaV b):=by
 refine Ws (step:=XA yD) 5 (λk s=>s=(i,pts b,(k:Int),ch,b)/\∀j p,j < k->(pts b)[j]? =some p->Zmm p) _ (i:=(i,pts b,(0:Int),ch,b)) ⟨rfl,λj p hj=>by omega⟩ (by omega) ?_ ?_
 ·rintro k _ hk ⟨rfl,hj⟩;obtain⟨p,hp,hm⟩:=Zg (l:=pts b) (k:=k) hk;unfold XA;dsimp only;rw[yW (yY (by omega)),Zp hp,ya,ZQT,ya,Zo (by omega)];by_cases h:Zmm p
  ·left;rw[yY h,yX (by decide)];refine⟨_,rfl,rfl,λj q hjk hq=> ?_⟩;by_cases e:j=k
   ·subst e;rw[hp] at hq;cases hq;exact h
   ·exact hj j q (by omega) hq
  ·right;rw[yZ h,yW (by decide)];exact⟨_,rfl,.inl ⟨rfl,λzU=>h (zU p hm)⟩⟩
 ·rintro _ ⟨rfl,hj⟩;unfold XA;dsimp only;rw[yX (ynd (by omega))];refine⟨_,rfl,.inr ⟨rfl,λp hp=> ?_⟩⟩;obtain⟨j,hj1,hj2⟩:=ybx hp;exact hj j p hj1 (by rw[yab hj1,hj2])
structure ChWf(ch:Chan):Prop where
 b:ch.2.2.1.length=2
 t:ch.2.2.2.1.length=2
 a0: -9223372036854775808<=ch.2.1
 a1:ch.2.1<=9223372036854775807
 n0: -9223372036854775808<=ch.1.2
 n1:ch.1.2<=9223372036854775807
 o0: -9223372036854775808<=ch.2.2.2.2
 o1:ch.2.2.2.2<=9223372036854775807
def SideOk(ch:Chan):Prop:=∀i:Nat,i < 2->∀t b,ch.2.2.2.1[i]? =some t->ch.2.2.1[i]? =some b->VY t/\ZaV b
open Classical in
theorem ZpK{α:Type}{l:yL α}(h:l.length=2):∃a b,l=[a,b]:=by
 match l,h with
 |[a,b],_=>exact⟨a,b,rfl⟩
theorem ZMP{a:XP}{A:Int}{b0 b1:Basics}{t0 t1:Terms}{op:Int}:SideOk (a,A,[b0,b1],[t0,t1],op)↔(VY t0/\ZaV b0)/\VY t1/\ZaV b1:=by
 constructor
 ·intro h;exact⟨h 0 (by omega) t0 b0 rfl rfl,h 1 (by omega) t1 b1 rfl rfl⟩
 ·rintro⟨h0,h1⟩ i hi t b ht hb
  match i,hi with
  |0,_=>cases ht;cases hb;exact h0
  |1,_=>cases ht;cases hb;exact h1
theorem ZFP(ch:Chan)(l:yL Terms){k:Nat}(hk:k < 2){t:Terms}{b:Basics}(ht:l[k]? =some t)(hb:ch.2.2.1[k]? =some b):
 Q2 yD (l,(k:Int),ch)=some (if VY t/\ZaV b then .inl (l,((k+1:Nat):Int),ch) else .inr (.inl (1,ch))):=by
 unfold Q2;dsimp only;rw[yW (yY (by omega)),Zp ht,ya,ZMN,ya,yW (ZJ (by omega) (by omega)),yau,hb,ya,ZJ8,ya,Zo (by omega)];by_cases h1:VY t
 ·rw[yY h1,yX (by decide)];by_cases h2:ZaV b
  ·rw[yY h2,yX (by decide),yW ⟨h1,h2⟩]
  ·rw[yZ h2,yW (by decide),yX λh=>h2 h.2]
 ·rw[yZ h1,yW (by decide),yX λh=>h1 h.1]
theorem ZBi(ch:Chan){k:Nat}(hk:k < 2){t:Terms}{b:Basics}(ht:ch.2.2.2.1[k]? =some t)(hb:ch.2.2.1[k]? =some b):
 XB yD ((k:Int),ch)=some (if VY t/\ZaV b then .inl (((k+1:Nat):Int),ch) else .inr (.inl (1,ch))):=by
 unfold XB;dsimp only;rw[yW (yY (by omega)),yW (ZJ (by omega) (by omega)),yau,hb,ya,yW (ZJ (by omega) (by omega)),ht,ya,ZJ7,ya];obtain⟨x,h1,h2⟩:=ZJ9 (k:Int) ch b;rw[show([b.1,b.2.1,b.2.2.1,b.2.2.2.1,b.2.2.2.2]:yL yU)=pts b from rfl,h1,ya]
 by_cases q1:VY t
 ·rw[yY q1,yX (by decide)];rcases h2 with⟨rfl,h⟩|⟨rfl,h⟩
  ·dsimp only;rw[yX λq=>h q.2]
  ·dsimp only;rw[yW ⟨q1,h⟩,Zo (by omega)]
 ·rw[yZ q1,yW (by decide),yX λh=>q1 h.1]
theorem ZMQ(ch:Chan)(l:yL Terms){t0 t1:Terms}{b0 b1:Basics}(ht:l=[t0,t1])(hb:ch.2.2.1=[b0,b1]):
 Zb (Q2 yD) yD (l,(0:Int),ch)=some (if(VY t0/\ZaV b0)/\VY t1/\ZaV b1 then .inr ch else .inl (1,ch)):=by
 subst ht;have s0:=ZFP ch [t0,t1] (k:=0) (by omega) (t:=t0) (b:=b0) rfl (by rw[hb];rfl);have s1:=ZFP ch [t0,t1] (k:=1) (by omega) (t:=t1) (b:=b1) rfl (by rw[hb];rfl);by_cases h0:VY t0/\ZaV b0
 ·rw[yW h0] at s0;by_cases h1:VY t1/\ZaV b1
  ·rw[yW h1] at s1;rw[yW ⟨h0,h1⟩];refine Zt 2 (λk:Nat=>([t0,t1],(k:Int),ch)) ?_ ?_ (by omega)
   ·intro k hk;rcases (show k=0\/k=1 by omega) with rfl|rfl
    ·exact s0
    ·exact s1
   ·unfold Q2;rfl
  ·rw[yX h1] at s1;rw[yX λh=>h1 h.2];exact Zt 1 (λk:Nat=>([t0,t1],(k:Int),ch)) (λk hk=>by rw[show k=0 by omega];exact s0) s1 (by omega)
 ·rw[yX h0] at s0;rw[yX λh=>h0 h.1];exact Zt 0 (λk:Nat=>([t0,t1],(k:Int),ch)) (λk hk=>absurd hk (by omega)) s0 (by omega)
theorem ZHz(ch:Chan){t0 t1:Terms}{b0 b1:Basics}(ht:ch.2.2.2.1=[t0,t1])(hb:ch.2.2.1=[b0,b1]):
 Zb (XB yD) yD ((0:Int),ch)=some (if(VY t0/\ZaV b0)/\VY t1/\ZaV b1 then .inr ch else .inl (1,ch)):=by
 have s0:=ZBi ch (k:=0) (by omega) (t:=t0) (b:=b0) (by rw[ht];rfl) (by rw[hb];rfl);have s1:=ZBi ch (k:=1) (by omega) (t:=t1) (b:=b1) (by rw[ht];rfl) (by rw[hb];rfl);by_cases h0:VY t0/\ZaV b0
 ·rw[yW h0] at s0;by_cases h1:VY t1/\ZaV b1
  ·rw[yW h1] at s1;rw[yW ⟨h0,h1⟩];refine Zt 2 (λk:Nat=>((k:Int),ch)) ?_ ?_ (by omega)
   ·intro k hk;rcases (show k=0\/k=1 by omega) with rfl|rfl
    ·exact s0
    ·exact s1
   ·unfold XB;rfl
  ·rw[yX h1] at s1;rw[yX λh=>h1 h.2];exact Zt 1 (λk:Nat=>((k:Int),ch)) (λk hk=>by rw[show k=0 by omega];exact s0) s1 (by omega)
 ·rw[yX h0] at s0;rw[yX λh=>h0 h.1];exact Zt 0 (λk:Nat=>((k:Int),ch)) (λk hk=>absurd hk (by omega)) s0 (by omega)
theorem ZFQ(X:BitVec 64):(X&&& ~~~(1#64))=0#64↔X=0#64\/X=1#64:=by
 constructor
 ·intro h
  have hb:∀i:Nat,1<=i->X.getLsbD i=false:=by
   intro i hi;have:=congrArg (λy=>BitVec.getLsbD y i) h;simp only[BitVec.getLsbD_and,BitVec.getLsbD_not,BitVec.getLsbD_zero] at this;by_cases h64:i < 64
   ·have h1:(1#64).getLsbD i=false:=by
     rw[BitVec.getLsbD_one];simp;omega
    rw[h1] at this;simpa[h64] using this
   ·exact BitVec.getLsbD_of_ge X i (by omega)
  cases h0:X.getLsbD 0 with
  |false=>
   left;apply BitVec.eq_of_getLsbD_eq;intro i hi
   match i with
   |0=>rw[h0];simp
   |j+1=>rw[hb (j+1) (by omega)];simp
  |true=>
   right;apply BitVec.eq_of_getLsbD_eq;intro i hi
   match i with
   |0=>rw[h0];rfl
   |j+1=>
    rw[hb (j+1) (by omega),BitVec.getLsbD_one];simp
 ·rintro(rfl|rfl) <;> rfl
theorem ZKa{op:Int}(o0: -9223372036854775808<=op)(o1:op<=9223372036854775807):((bits .andNot .i64 op 1)!=0)= !decide (0<=op/\op<=1):=by
 have e:bits .andNot .i64 op 1=IntKind.i64.wrap ((ybz 64 op&&& ~~~(1#64)).toNat:Int):=rfl;have hlt:=(ybz 64 op&&& ~~~(1#64)).isLt
 have hw:∀n:Nat,n < 18446744073709551616->(IntKind.i64.wrap (n:Int)=0↔n=0):=by
  intro n hn;have e2:IntKind.i64.wrap (n:Int)=if(decide ((n:Int) % 18446744073709551616 >= 9223372036854775808))=true then(n:Int) % 18446744073709551616 - 18446744073709551616 else(n:Int) % 18446744073709551616:=rfl
  rw[e2];by_cases hm:(n:Int) % 18446744073709551616 >= 9223372036854775808
  ·rw[yW (yY hm)];omega
  ·rw[yX (by rw[yN];exact hm)];omega
 have hx:(ybz 64 op&&& ~~~(1#64)).toNat=0↔0<=op/\op<=1:=by
  rw[show((ybz 64 op&&& ~~~(1#64)).toNat=0↔(ybz 64 op&&& ~~~(1#64))=0#64) from⟨λh=>BitVec.eq_of_toNat_eq h,λh=>by rw[h];rfl⟩,ZFQ]
  have hn:(ybz 64 op).toNat=(op % 18446744073709551616).toNat:=by rw[BitVec.toNat_ofInt];rfl
  constructor
  ·rintro(h|h)
   ·have:=congrArg BitVec.toNat h;rw[hn] at this;simp at this;omega
   ·have:=congrArg BitVec.toNat h;rw[hn] at this;simp at this;omega
  ·rintro⟨h0,h1⟩;rcases (show op=0\/op=1 by omega) with rfl|rfl
   ·exact .inl rfl
   ·exact .inr rfl
 rw[e];by_cases h:0<=op/\op<=1
 ·rw[yY h,(hw _ hlt).2 (hx.2 h)];rfl
 ·rw[yZ h];exact bne_iff_ne.2 λk=>h (hx.1 ((hw _ hlt).1 k))
theorem ZQU{ch:Chan}(w:ChWf ch):∃e:Int,Zlu yD ch=some e/\Zaj yD ch=some e/\(e=0->(1<=ch.2.1/\ch.2.1<=1125899906842624)/\(0<=ch.1.2/\ch.1.2<=63)/\(ch.2.2.2.2=0\/ch.2.2.2.2=1)/\SideOk ch):=by
 obtain⟨b0,b1,hb⟩:=ZpK w.b;obtain⟨t0,t1,ht⟩:=ZpK w.t;have a0:=w.a0;have o0:=w.o0;have o1:=w.o1;obtain⟨⟨id,no⟩,A,bs,ts,op⟩:=ch;dsimp only at hb ht a0 o0 o1;subst hb;subst ht;have hop:=ZKa o0 o1;unfold Zlu Zaj;dsimp only;simp only[ZDB,ya];by_cases h1:1<=A/\A<=1125899906842624
 ·rw[yX (show¬decide (A < 1)=true by rw[yN];omega),yX (show¬decide (A > 1125899906842624)=true by rw[yN];omega)];rw[yX (show¬(!decide (1<=A/\A<=1125899906842624))=true by rw[yY h1];decide)];by_cases h2:0<=no/\no<=63
  ·rw[yX (show¬decide (no < 0)=true by rw[yN];omega),yX (show¬decide (no >= 64)=true by rw[yN];omega)];rw[yX (show¬(!decide (0<=no/\no<=63))=true by rw[yY h2];decide),hop];by_cases h3:0<=op/\op<=1
   ·rw[yY h3,yX (by decide),yX (by decide),ZMQ _ _ rfl rfl,ZHz _ rfl rfl,ya,ya];by_cases h4:(VY t0/\ZaV b0)/\VY t1/\ZaV b1
    ·rw[yW h4];dsimp only;obtain⟨_,_,_,q0,_⟩:=h4.1.1;obtain⟨p0,_⟩:=h4.1.1;obtain⟨_,_,_,q1,_⟩:=h4.2.1;obtain⟨p1,_⟩:=h4.2.1
     have n0:ZhG yD t0.2.1 t1.2.1=if t0.2.1+t1.2.1<=1125899906842624 then some (t0.2.1+t1.2.1,true) else some (0,false):=by
      unfold ZhG ZhF;rw[yW (yY (show t0.2.1 >= 0 by omega)),yW (yY (show t1.2.1 >= 0 by omega)),ya,ya,yY (show t0.2.1<=1125899906842624 by omega),yY (show t1.2.1<=1125899906842624 by omega),yX (by decide),yX (by decide),ZU (z:=1125899906842624 - t1.2.1) (by omega) (by omega),ZU (z:=t0.2.1+t1.2.1) (by omega) (by omega)];by_cases h:t0.2.1+t1.2.1<=1125899906842624
      ·rw[yX (ynd (by omega)),yW h]
      ·rw[yW (yY (by omega)),yX h]
     rw[ybb,yax,ybb,ya,ya,ya,ya,n0,ZU (z:=t0.2.1+t1.2.1) (by omega) (by omega)];refine⟨if t0.2.1+t1.2.1 > A then 10 else 0, ?_, ?_,λ_=>⟨h1,h2,by omega,ZMP.2 h4⟩⟩
     ·by_cases h5:t0.2.1+t1.2.1<=1125899906842624
      ·rw[yW h5,ya,yX (show¬(!true)=true by decide)];by_cases h6:t0.2.1+t1.2.1 > A
       ·rw[yW (yY h6),yW h6]
       ·rw[yX (by rw[yN];exact h6),yX h6]
      ·rw[yX h5,ya,yW (show(!false)=true by decide),yW (by omega)]
     ·by_cases h6:t0.2.1+t1.2.1 > A
      ·rw[yW (yY h6),yW h6]
      ·rw[yX (by rw[yN];exact h6),yX h6]
    ·rw[yX h4];exact⟨1,rfl,rfl,λh=>absurd h (by decide)⟩
   ·rw[yZ h3,yW (by decide),yW (by decide)];exact⟨1,rfl,rfl,λh=>absurd h (by decide)⟩
  ·rw[yW (show(!decide (0<=no/\no<=63))=true by rw[yZ h2];rfl)];refine⟨1, ?_,rfl,λh=>absurd h (by decide)⟩;by_cases h:no < 0
   ·rw[yW (yY h)]
   ·rw[yX (by rw[yN];exact h),yW (yY (by omega))]
 ·rw[yW (show(!decide (1<=A/\A<=1125899906842624))=true by rw[yZ h1];rfl)];refine⟨1, ?_,rfl,λh=>absurd h (by decide)⟩;by_cases h:A < 1
  ·rw[yW (yY h)]
  ·rw[yX (by rw[yN];exact h),yW (yY (by omega))]
theorem ZBj{lo hi:Int}{l:yL Int}(hl:l.length<=100):Z9 yD lo hi l=some (decide (∀x,x∈l->lo<=x/\x<=hi)):=by
 unfold Z9 Xo X8
 obtain⟨x,h1,h2⟩:=Ws (step:=ZV yD) l.length (λk s=>s=(l,(l.length:Int),(k:Int),lo,hi)/\∀(j:Nat)z,j < k->l[j]? =some z->lo<=z/\z<=hi) (λx=>(∃j:Nat,x=.inl ((j:Int),lo,hi)/\¬∀z,z∈l->lo<=z/\z<=hi)\/x=.inr (lo,hi)/\∀z,z∈l->lo<=z/\z<=hi) (i:=(l,(l.length:Int),(0:Int),lo,hi)) ⟨rfl,λj z hj=>by omega⟩ (by omega) (by
  rintro k _ hk ⟨rfl,hj⟩;obtain⟨z,hz,hm⟩:=Zg hk;unfold ZV ZbD;dsimp only;rw[yW (ZF hk),Zp hz,ya,Zo (by omega)];by_cases h:z < lo
  ·right;rw[yW (yY h),ya,yW rfl];exact⟨_,rfl,.inl ⟨k,rfl,λzU=>by have:=zU z hm;omega⟩⟩
  ·rw[yX (by rw[yN];exact h),ya];by_cases h':z > hi
   ·right;rw[yW (yY h')];exact⟨_,rfl,.inl ⟨k,rfl,λzU=>by have:=zU z hm;omega⟩⟩
   ·left;rw[yX (by rw[yN];exact h')];refine⟨_,rfl,rfl,λj q hjk hq=> ?_⟩;by_cases e:j=k
    ·subst e;rw[hz] at hq;cases hq;omega
    ·exact hj j q (by omega) hq) (by
  rintro _ ⟨rfl,hj⟩;unfold ZV;dsimp only;rw[yX (by rw[Zz];decide)];refine⟨_,rfl,.inr ⟨rfl,λp hp=> ?_⟩⟩;obtain⟨j,hj1,hj2⟩:=ybx hp;exact hj j p hj1 (by rw[yab hj1,hj2]))
 rw[h1,ya];rcases h2 with⟨j,rfl,h⟩|⟨rfl,h⟩
 ·dsimp only;rw[ya,ya,yY (show(j:Int) >= 0 by omega),yZ h];rfl
 ·dsimp only;rw[ya,ya,yY h];rfl
theorem ZDD(lo hi z:Int):Z9 yD lo hi [z]=some (decide (lo<=z/\z<=hi)):=by
 rw[ZBj (by simp)];exact congrArg some (decide_eq_decide.2 (by simp))
theorem ZOI(lo hi y z:Int):Z9 yD lo hi [y,z]=some (decide ((lo<=y/\y<=hi)/\lo<=z/\z<=hi)):=by
 rw[ZBj (by simp)];exact congrArg some (decide_eq_decide.2 (by simp))
def ZvC(c:Cond):Prop:=(0<=c.1/\c.1<=1)/\(1<=c.2.1/\c.2.1<=1048576)/\(1<=c.2.2.1/\c.2.2.1<=1125899906842624)/\(1<=c.2.2.2.2/\c.2.2.2.2<=1048576)/\Zmm c.2.2.2.1
instance(c:Cond):Decidable (ZvC c):=by unfold ZvC;infer_instance
theorem ZOJ(c:Cond):Zi1 yD c=some (decide (ZvC c)):=by
 unfold Zi1;simp only[ZDD,ya,Zit];refine W1 (W1 (W1 (W1 ?_)));by_cases k:QA c.2.2.2.1.toNat
 ·rw[yY k,yW rfl];by_cases h:c.2.2.2.1=1
  ·rw[yZ (p:=Zmm c.2.2.2.1) λq=>q.2 h,h];rfl
  ·rw[yY (p:=Zmm c.2.2.2.1) ⟨k,h⟩];exact congrArg some (bne_iff_ne.2 h)
 ·rw[yZ k,yX (by decide),yZ (p:=Zmm c.2.2.2.1) λq=>k q.1]
theorem ZMR(c:Cond):Vi yD c=some (decide (ZvC c)):=by
 unfold Vi;simp only[ZDC,ya,Za7];by_cases k:QA c.2.2.2.1.toNat
 ·rw[yY k,yW rfl];by_cases h:c.2.2.2.1=1
  ·rw[yZ (p:=ZvC c) λq=>q.2.2.2.2.2 h,h];rfl
  ·rw[yW (bne_iff_ne.2 h)];refine(W1 (W1 (W1 rfl))).trans (congrArg some (decide_eq_decide.2 ?_));constructor
   ·rintro⟨h1,h2,h3,h4⟩;exact⟨h1,h2,h3,h4,k,h⟩
   ·rintro⟨h1,h2,h3,h4,_⟩;exact⟨h1,h2,h3,h4⟩
 ·rw[yZ k,yX (by decide),yZ (p:=ZvC c) λq=>k q.2.2.2.2.1]
def Zpg(a b:Cond):Prop:=a.1 < b.1\/a.1=b.1/\a.2.1 < b.2.1
instance(a b:Cond):Decidable (Zpg a b):=by unfold Zpg;infer_instance
theorem ZMS(a b:Cond):∃v,ZgR yD a b=some v/\(v >= 0↔¬Zpg a b):=by
 unfold ZgR;rw[Zer,Zer,ya,ya,ZPk (by simp),ya];refine⟨_,rfl, ?_⟩;unfold Zpg;by_cases h1:a.1 < b.1
 ·simp only[yW h1,orL];simp[h1]
 ·by_cases h2:a.1 > b.1
  ·simp only[yX h1,yW h2,orL];simp;omega
  ·simp only[yX h1,yX h2,orL];by_cases h3:a.2.1 < b.2.1
   ·simp only[yW h3];simp;omega
   ·by_cases h4:a.2.1 > b.2.1
    ·simp only[yX h3,yW h4];simp;omega
    ·simp only[yX h3,yX h4];simp;omega
theorem ZKb(a b:Cond):WM yD a b=some (decide (Zpg a b)):=by
 unfold WM;by_cases h1:a.1 < b.1
 ·rw[yW (yY h1),yY (p:=Zpg a b) (.inl h1)]
 ·rw[yX (by rw[yN];exact h1)];by_cases h2:a.1=b.1
  ·rw[yW (beq_iff_eq.2 h2)];exact congrArg some (decide_eq_decide.2 (by unfold Zpg;omega))
  ·rw[yX (by rw[yT];exact h2),yZ (p:=Zpg a b) (by unfold Zpg;omega)]
def ZOK(to:Int)(o:Int×Int)(c:Cond):Int×Int:=if c.1=wi (1 - to) then(wi (o.1+1),wi (o.2+c.2.2.1)) else o
def off(to:Int)(l:yL Cond):Int×Int:=l.foldl (ZOK to) (0,0)
theorem ZMT{to:Int}{l:yL Cond}{k:Nat}{c:Cond}(h:l[k]? =some c):off to (l.take (k+1))=ZOK to (off to (l.take k)) c:=by
 rw[Qa h,off,List.foldl_append];rfl
theorem ZHA(s:yG)(to:Int)(hl:s.2.2.1.length<=1000):ZcG yD s to=some (off to s.2.2.1):=by
 unfold ZcG;rw[show((to,(0:Int),(0:Int),s.2.2.1,(s.2.2.1.length:Int),(0:Int),s):Int×Int×Int×yL Cond×Int×Int×yG)=(λk:Nat=>(to,(off to (s.2.2.1.take k)).1,(off to (s.2.2.1.take k)).2,s.2.2.1,(s.2.2.1.length:Int),(k:Int),s)) 0 from rfl]
 rw[Zt (x:=((off to s.2.2.1).1,(off to s.2.2.1).2,s)) s.2.2.1.length (λk:Nat=>(to,(off to (s.2.2.1.take k)).1,(off to (s.2.2.1.take k)).2,s.2.2.1,(s.2.2.1.length:Int),(k:Int),s)) ?_ ?_ (by omega),ya]
 ·intro k hk;obtain⟨c,hc,hm⟩:=Zg hk;unfold Zad;dsimp only;rw[yW (ZF hk),Zp hc,ya,Zo (by omega),ZMT hc];unfold ZOK;by_cases h:c.1=wi (1 - to)
  ·rw[yW (beq_iff_eq.2 h),yW h]
  ·rw[yX (by rw[yT];exact h),yX h]
 ·unfold Zad;dsimp only;rw[yX (by rw[Zz];decide),yao]
theorem ZFR(s:yG)(to:Int)(hl:s.2.2.1.length<=1000):X9 yD s to=some (off to s.2.2.1):=by
 unfold X9;rw[show((to,(0:Int),(0:Int),(0:Int),s):Int×Int×Int×Int×yG)=(λk:Nat=>(to,(off to (s.2.2.1.take k)).1,(off to (s.2.2.1.take k)).2,(k:Int),s)) 0 from rfl]
 rw[Zt (x:=((off to s.2.2.1).1,(off to s.2.2.1).2,s)) s.2.2.1.length (λk:Nat=>(to,(off to (s.2.2.1.take k)).1,(off to (s.2.2.1.take k)).2,(k:Int),s)) ?_ ?_ (by omega),ya]
 ·intro k hk;obtain⟨c,hc,hm⟩:=Zg hk;unfold Wr;dsimp only;rw[yW (ZF hk),Zp hc,ya,ya,Zo (by omega),ZMT hc];unfold ZOK;by_cases h:c.1=wi (1 - to)
  ·rw[yW (beq_iff_eq.2 h),yW h]
  ·rw[yX (by rw[yT];exact h),yX h]
 ·unfold Wr;dsimp only;rw[yX (by rw[Zz];decide),yao]
def ZRV(o:Int)(c:Cond):Int:=wi (o+c.2.2.1)
def totF(z:Int)(l:yL Cond):Int:=l.foldl ZRV z
theorem ZMU{z:Int}{l:yL Cond}{k:Nat}{c:Cond}(h:l[k]? =some c):totF z (l.take (k+1))=ZRV (totF z (l.take k)) c:=by
 rw[Qa h,totF,List.foldl_append];rfl
theorem ZMV(s:yG){a b:Int}(h2:s.2.1=[a,b])(hl:s.2.2.1.length<=1000):ZgS yD s=some (totF (wi (a+b)) s.2.2.1):=by
 unfold ZgS;rw[h2,ybb,yax,ybb,ya,ya];rw[show((wi (a+b),s.2.2.1,(s.2.2.1.length:Int),(0:Int),s):Int×yL Cond×Int×Int×yG)=(λk:Nat=>(totF (wi (a+b)) (s.2.2.1.take k),s.2.2.1,(s.2.2.1.length:Int),(k:Int),s)) 0 from rfl]
 rw[Zt (x:=(totF (wi (a+b)) s.2.2.1,s)) s.2.2.1.length (λk:Nat=>(totF (wi (a+b)) (s.2.2.1.take k),s.2.2.1,(s.2.2.1.length:Int),(k:Int),s)) ?_ ?_ (by omega),ya]
 ·intro k hk;obtain⟨c,hc,hm⟩:=Zg hk;unfold ZbE;dsimp only;rw[yW (ZF hk),Zp hc,ya,Zo (by omega),ZMU hc];rfl
 ·unfold ZbE;dsimp only;rw[yX (by rw[Zz];decide),yao]
theorem ZKc(s:yG){a b:Int}(h2:s.2.1=[a,b])(hl:s.2.2.1.length<=1000):V6 yD s=some (totF (wi (a+b)) s.2.2.1):=by
 unfold V6;rw[h2,ybb,yax,ybb,ya,ya];rw[show((wi (a+b),(0:Int),s):Int×Int×yG)=(λk:Nat=>(totF (wi (a+b)) (s.2.2.1.take k),(k:Int),s)) 0 from rfl]
 rw[Zt (x:=(totF (wi (a+b)) s.2.2.1,s)) s.2.2.1.length (λk:Nat=>(totF (wi (a+b)) (s.2.2.1.take k),(k:Int),s)) ?_ ?_ (by omega),ya]
 ·intro k hk;obtain⟨c,hc,hm⟩:=Zg hk;unfold WY;dsimp only;rw[yW (ZF hk),Zp hc,ya,Zo (by omega),ZMU hc];rfl
 ·unfold WY;dsimp only;rw[yX (by rw[Zz];decide),yao]
def feeF(r n:Int):Int:=if 0<=r/\r<=1000 then if 0<=n/\n<=16 then r*(68+8*n) else 0 else 0
theorem ZBk{r n:Int}(h1:0<=r)(h2:r<=1000)(h3:0<=n)(h4:n<=16):wi (r*(68+8*n))=r*(68+8*n):=by
 have:=Int.mul_nonneg h1 (show 0<=68+8*n by omega);have:=Int.mul_le_mul h2 (show 68+8*n<=196 by omega) (by omega) (by omega);exact ZU (by omega) (by omega)
theorem ZMW(r n:Int):ZhK yD r n=some (feeF r n):=by
 unfold ZhK Zjq feeF;by_cases h1:r < 0
 ·rw[yW (yY h1),yX (show¬(0<=r/\r<=1000) by omega)]
 ·rw[yX (show¬decide (r < 0)=true by rw[yN];exact h1)];by_cases h2:r > 1000
  ·rw[yW (yY h2),yX (show¬(0<=r/\r<=1000) by omega)]
  ·rw[yX (show¬decide (r > 1000)=true by rw[yN];exact h2),yW (show 0<=r/\r<=1000 by omega)];by_cases h3:n < 0
   ·rw[yW (yY h3),yX (show¬(0<=n/\n<=16) by omega),ya,Int.mul_zero];rfl
   ·rw[yX (show¬decide (n < 0)=true by rw[yN];exact h3)];by_cases h4:n > 16
    ·rw[yW (yY h4),yX (show¬(0<=n/\n<=16) by omega),ya,Int.mul_zero];rfl
    ·rw[yX (show¬decide (n > 16)=true by rw[yN];exact h4),yW (show 0<=n/\n<=16 by omega),ya,ZU (z:=8*n) (by omega) (by omega),ZU (z:=68+8*n) (by omega) (by omega),ZBk (by omega) (by omega) (by omega) (by omega)]
theorem ZIU(r n:Int):Yu yD r n=some (feeF r n):=by
 unfold Yu ZaJ feeF;rw[ZDB,ZDB,ya,ya];by_cases h1:0<=r/\r<=1000
 ·rw[yY h1,yX (by decide),yW h1];by_cases h2:0<=n/\n<=16
  ·rw[yY h2,yX (by decide),yW h2,ya,ZU (z:=4+n) (by omega) (by omega),ZU (z:=(4+n)*8) (by omega) (by omega),ZU (z:=36+(4+n)*8) (by omega) (by omega),show(36+(4+n)*8:Int)=68+8*n by omega,ZBk h1.1 h1.2 h2.1 h2.2]
  ·rw[yZ h2,yW (by decide),yX h2,ya,Int.mul_zero];rfl
 ·rw[yZ h1,yW (by decide),yX h1]
theorem ZOL(ch:Chan)(s:yG):Zi2 yD ch s=some (wi (feeF s.2.2.2 (s.2.2.1.length:Int)+660)):=by
 unfold Zi2;rw[ZMW,ya]
theorem ZMX(ch:Chan)(s:yG):Vj yD ch s=some (wi (feeF s.2.2.2 (s.2.2.1.length:Int)+660)):=by
 unfold Vj;rw[ZIU,ya]
def Zbx(n:Nat)(ok:Nat->Prop):Prop:=∀k,k < n->ok k
open Classical in
theorem Ztl{I X:Type}{step:I->yO (I⊕X)}(n:Nat)(st:Nat->I)(ok:Nat->Prop)(good bad:X)
 (h1:∀k,k < n->ok k->step (st k)=some (.inl (st (k+1)))) (h2:∀k,k < n->¬ok k->step (st k)=some (.inr bad)) (he:step (st n)=some (.inr good)) (hn:n < 18446744073709551616):
 Zb step yD (st 0)=some (if Zbx n ok then good else bad):=by
 obtain⟨x,e,rfl⟩:=Ws (step:=step) n (λk s=>s=st k/\∀j,j < k->ok j) (λx=>x=if Zbx n ok then good else bad) (i:=st 0) ⟨rfl,λj h=>by omega⟩ hn (by
  rintro k _ hk ⟨rfl,hj⟩;by_cases h:ok k
  ·left;refine⟨_,h1 k hk h,rfl,λj hjk=> ?_⟩;by_cases e:j=k
   ·rw[e];exact h
   ·exact hj j (by omega)
  ·right;exact⟨_,h2 k hk h,by rw[yX λq=>h (q k hk)]⟩) (by
  rintro _ ⟨rfl,hj⟩;exact⟨_,he,by rw[yW (show Zbx n ok from hj)]⟩)
 exact e
def CondAt(ch:Chan)(l:yL Cond)(k:Nat):Prop:=∀c,l[k]? =some c->ZvC c/\(∀p,0 < k->l[k - 1]? =some p->Zpg p c)/\∀t,ch.2.2.2.1[(1 - c.1).toNat]? =some t->t.2.2.2.2.1<=c.2.2.1
def SideAt(ch:Chan)(l:yL Cond)(k:Nat):Prop:=∀t,ch.2.2.2.1[k]? =some t->(off (k:Int) l).1<=t.2.2.2.1/\(off (k:Int) l).2<=t.2.2.2.2.2
theorem ZHB{ch:Chan}(w:ch.2.2.2.1.length=2){c:Cond}(h:0<=c.1/\c.1<=1):wi (1 - c.1)=1 - c.1/\inB (wi (1 - c.1)) 2=true/\∃t,ch.2.2.2.1[(wi (1 - c.1)).toNat]? =some t/\ch.2.2.2.1[(1 - c.1).toNat]? =some t:=by
 have e:wi (1 - c.1)=1 - c.1:=ZU (by omega) (by omega);rw[e];obtain⟨t,ht,_⟩:=Zg (l:=ch.2.2.2.1) (k:=(1 - c.1).toNat) (by omega);exact⟨rfl,ZJ (by omega) (by omega),t,ht,ht⟩
theorem Zmn{ch:Chan}(w:ch.2.2.2.1.length=2)(s:yG){k:Nat}(hk:k < s.2.2.1.length)(hl:s.2.2.1.length<=16):
 (CondAt ch s.2.2.1 k->WK yD (s.2.2.1,(s.2.2.1.length:Int),(k:Int),ch,s)=some (.inl (s.2.2.1,(s.2.2.1.length:Int),((k+1:Nat):Int),ch,s))/\Yj yD ((k:Int),ch,s)=some (.inl (((k+1:Nat):Int),ch,s)))/\
 (¬CondAt ch s.2.2.1 k->WK yD (s.2.2.1,(s.2.2.1.length:Int),(k:Int),ch,s)=some (.inr (.inl (false,ch,s)))/\Yj yD ((k:Int),ch,s)=some (.inr (.inl (false,ch,s)))):=by
 obtain⟨c,hc,hm⟩:=Zg hk;unfold WK Yj;dsimp only;rw[yW (ZF hk),yW (ZF hk)];simp only[Zp hc,ya,ZOJ,ZMR];rw[Zo (by omega)];by_cases hf:ZvC c
 ·rw[yY hf,yX (show¬(!true)=true by decide),yX (show¬(!true)=true by decide)];obtain⟨e,hb,t,ht,ht'⟩:=ZHB w hf.1;simp only[yW hb];rw[ht,ya];by_cases hk0:k=0
  ·subst hk0;rw[yX (show¬decide (((0:Nat):Int) > 0)=true by decide),yX (show¬decide (((0:Nat):Int) > 0)=true by decide)];by_cases hd:c.2.2.1 < t.2.2.2.2.1
   ·have bad:¬CondAt ch s.2.2.1 0:=λq=>by
     have:=(q c hc).2.2 t ht';omega
    refine⟨λq=>absurd q bad,λ_=> ?_⟩;rw[yW (yY hd),ya,yW (yY hd)];exact⟨rfl,rfl⟩
   ·have good:CondAt ch s.2.2.1 0:=λc' hc'=>by
     rw[hc] at hc';cases hc';refine⟨hf,λp h0=>by omega,λt' h'=> ?_⟩;rw[ht'] at h';cases h';omega
    refine⟨λ_=> ?_,λq=>absurd good q⟩;rw[yX (show¬decide (c.2.2.1 < t.2.2.2.2.1)=true by rw[yN];exact hd),ya,yX (show¬decide (c.2.2.1 < t.2.2.2.2.1)=true by rw[yN];exact hd)];exact⟨rfl,rfl⟩
  ·obtain⟨p,hp,_⟩:=Zg (l:=s.2.2.1) (k:=k - 1) (by omega)
   have ek:wi ((k:Int) - 1)=((k - 1:Nat):Int):=by
    rw[ZU (by omega) (by omega)];omega
   rw[yW (show decide ((k:Int) > 0)=true from yY (by omega)),yW (show decide ((k:Int) > 0)=true from yY (by omega)),ek,Zp hp,ya,ya]
   obtain⟨v,hv,hv2⟩:=ZMS p c;rw[hv,ya,ZKb,ya];by_cases ha:Zpg p c
   ·rw[yY ha,yX (show¬(!true)=true by decide)];by_cases hd:c.2.2.1 < t.2.2.2.2.1
    ·have bad:¬CondAt ch s.2.2.1 k:=λq=>by
      have:=(q c hc).2.2 t ht';omega
     refine⟨λq=>absurd q bad,λ_=> ?_⟩;rw[yW (yY hd),ya,yW (yY hd)];exact⟨rfl,rfl⟩
    ·have good:CondAt ch s.2.2.1 k:=λc' hc'=>by
      rw[hc] at hc';cases hc';refine⟨hf,λp' h0 hp'=> ?_,λt' h'=> ?_⟩
      ·rw[hp] at hp';cases hp';exact ha
      ·rw[ht'] at h';cases h';omega
     refine⟨λ_=> ?_,λq=>absurd good q⟩;rw[yX (show¬decide (c.2.2.1 < t.2.2.2.2.1)=true by rw[yN];exact hd),ya,yX (show¬decide (c.2.2.1 < t.2.2.2.2.1)=true by rw[yN];exact hd),yX (show¬decide (v >= 0)=true by rw[yN];exact λq=>hv2.1 q ha)];exact⟨rfl,rfl⟩
   ·have bad:¬CondAt ch s.2.2.1 k:=λq=>ha ((q c hc).2.1 p (by omega) hp);refine⟨λq=>absurd q bad,λ_=> ?_⟩;rw[yZ ha,yW (show(!false)=true by decide),yW (show decide (v >= 0)=true from yY (hv2.2 ha))]
    refine⟨?_,rfl⟩;by_cases hd:c.2.2.1 < t.2.2.2.2.1
    ·rw[yW (yY hd)]
    ·rw[yX (show¬decide (c.2.2.1 < t.2.2.2.2.1)=true by rw[yN];exact hd)]
 ·have bad:¬CondAt ch s.2.2.1 k:=λq=>hf (q c hc).1;refine⟨λq=>absurd q bad,λ_=> ?_⟩;rw[yZ hf,yW (show(!false)=true by decide),yW (show(!false)=true by decide)];exact⟨rfl,rfl⟩
open Classical in
theorem Zzb{ch:Chan}(w:ch.2.2.2.1.length=2)(s:yG)(hl:s.2.2.1.length<=16):
 Zb (WK yD) yD (s.2.2.1,(s.2.2.1.length:Int),(0:Int),ch,s)=some (if Zbx s.2.2.1.length (CondAt ch s.2.2.1) then .inr (ch,s) else .inl (false,ch,s))/\
 Zb (Yj yD) yD ((0:Int),ch,s)=some (if Zbx s.2.2.1.length (CondAt ch s.2.2.1) then .inr (ch,s) else .inl (false,ch,s)):=by
 constructor
 ·refine Ztl s.2.2.1.length (λk:Nat=>(s.2.2.1,(s.2.2.1.length:Int),(k:Int),ch,s)) (CondAt ch s.2.2.1) _ _ (λk hk h=>((Zmn w s hk hl).1 h).1) (λk hk h=>((Zmn w s hk hl).2 h).1) ?_ (by omega);unfold WK;dsimp only;rw[yX (by rw[Zz];decide)]
 ·refine Ztl s.2.2.1.length (λk:Nat=>((k:Int),ch,s)) (CondAt ch s.2.2.1) _ _ (λk hk h=>((Zmn w s hk hl).1 h).2) (λk hk h=>((Zmn w s hk hl).2 h).2) ?_ (by omega);unfold Yj;dsimp only;rw[yX (by rw[Zz];decide)]
theorem Zmo{ch:Chan}(w:ch.2.2.2.1.length=2)(s:yG){k:Nat}(hk:k < 2)(hl:s.2.2.1.length<=16):
 (SideAt ch s.2.2.1 k->Vx yD (ch.2.2.2.1,(k:Int),ch,s)=some (.inl (ch.2.2.2.1,((k+1:Nat):Int),ch,s))/\YP yD ((k:Int),ch,s)=some (.inl (((k+1:Nat):Int),ch,s)))/\
 (¬SideAt ch s.2.2.1 k->Vx yD (ch.2.2.2.1,(k:Int),ch,s)=some (.inr (.inl (false,ch,s)))/\YP yD ((k:Int),ch,s)=some (.inr (.inl (false,ch,s)))):=by
 obtain⟨t,ht,_⟩:=Zg (l:=ch.2.2.2.1) (k:=k) (by omega);unfold Vx YP;dsimp only;rw[yW (show decide ((k:Int) < 2)=true from yY (by omega)),yW (show decide ((k:Int) < 2)=true from yY (by omega)),Zp ht,ya,ZHA s _ (by omega),ZFR s _ (by omega),ya,ya,yW (ZJ (by omega) (by omega)),yW (ZJ (by omega) (by omega)),yau,ht,ya,ya,Zo (by omega)]
 by_cases h1:(off (k:Int) s.2.2.1).1 > t.2.2.2.1
 ·have bad:¬SideAt ch s.2.2.1 k:=λq=>by
   have:=(q t ht).1;omega
  refine⟨λq=>absurd q bad,λ_=> ?_⟩;rw[yW (yY h1),yW (yY h1)];exact⟨rfl,rfl⟩
 ·rw[yX (show¬decide ((off (k:Int) s.2.2.1).1 > t.2.2.2.1)=true by rw[yN];exact h1),yX (show¬decide ((off (k:Int) s.2.2.1).1 > t.2.2.2.1)=true by rw[yN];exact h1)];by_cases h2:(off (k:Int) s.2.2.1).2 > t.2.2.2.2.2
  ·have bad:¬SideAt ch s.2.2.1 k:=λq=>by
    have:=(q t ht).2;omega
   refine⟨λq=>absurd q bad,λ_=> ?_⟩;rw[yW (yY h2),yW (yY h2)];exact⟨rfl,rfl⟩
  ·have good:SideAt ch s.2.2.1 k:=λt' h'=>by
    rw[ht] at h';cases h';omega
   refine⟨λ_=> ?_,λq=>absurd good q⟩;rw[yX (show¬decide ((off (k:Int) s.2.2.1).2 > t.2.2.2.2.2)=true by rw[yN];exact h2),yX (show¬decide ((off (k:Int) s.2.2.1).2 > t.2.2.2.2.2)=true by rw[yN];exact h2)];exact⟨rfl,rfl⟩
open Classical in
theorem Zzc{ch:Chan}(w:ch.2.2.2.1.length=2)(s:yG)(hl:s.2.2.1.length<=16):
 Zb (Vx yD) yD (ch.2.2.2.1,(0:Int),ch,s)=some (if Zbx 2 (SideAt ch s.2.2.1) then .inr (ch,s) else .inl (false,ch,s))/\
 Zb (YP yD) yD ((0:Int),ch,s)=some (if Zbx 2 (SideAt ch s.2.2.1) then .inr (ch,s) else .inl (false,ch,s)):=by
 constructor
 ·exact Ztl 2 (λk:Nat=>(ch.2.2.2.1,(k:Int),ch,s)) (SideAt ch s.2.2.1) _ _ (λk hk h=>((Zmo w s hk hl).1 h).1) (λk hk h=>((Zmo w s hk hl).2 h).1) rfl (by omega)
 ·exact Ztl 2 (λk:Nat=>((k:Int),ch,s)) (SideAt ch s.2.2.1) _ _ (λk hk h=>((Zmo w s hk hl).1 h).2) (λk hk h=>((Zmo w s hk hl).2 h).2) rfl (by omega)
structure StR(ch:Chan)(s:yG):Prop where
 am:1<=ch.2.1/\ch.2.1<=1125899906842624
 at_:0<=ch.1.2/\ch.1.2<=63
 op:ch.2.2.2.2=0\/ch.2.2.2.2=1
 side:SideOk ch
 no:0<=s.1/\s.1<=1048576
 have_:∃a b,s.2.1=[a,b]/\(0<=a/\a<=1125899906842624)/\(0<=b/\b<=1125899906842624)/\totF (wi (a+b)) s.2.2.1=ch.2.1/\(ch.2.2.2.2=0->a >= wi (feeF s.2.2.2 (s.2.2.1.length:Int)+660))/\(ch.2.2.2.2=1->b >= wi (feeF s.2.2.2 (s.2.2.1.length:Int)+660))
 rate:0<=s.2.2.2/\s.2.2.2<=1000
 len:s.2.2.1.length<=16
 conds:∀k,k < s.2.2.1.length->CondAt ch s.2.2.1 k
 sides:∀k,k < 2->SideAt ch s.2.2.1 k
theorem ZFS{ch:Chan}(w:ChWf ch){s:yG}(hw:s.2.1.length=2):∃b:Bool,ZaZ yD ch s=some b/\Z5 yD ch s=some b/\(b=true->StR ch s):=by
 obtain⟨e,f1,f2,f3⟩:=ZQU w;obtain⟨a,b,hs⟩:=ZpK hw;unfold ZaZ Z5;rw[f1,f2,ya,ya];by_cases he:e=0
 ·subst he;obtain⟨q1,q2,q3,q4⟩:=f3 rfl;rw[yX (show¬(((0:Int)!=0)=true) by decide),yX (show¬(((0:Int)!=0)=true) by decide),ZDD,ZDC,ya,ya,hs];by_cases h1:0<=s.1/\s.1<=1048576
  ·rw[yY h1,yX (show¬(!true)=true by decide),yX (show¬(!true)=true by decide),ybb,yax,ybb];simp only[ya,ZOI,ZDD,ZDC];by_cases h2:0<=a/\a<=1125899906842624
   ·by_cases h3:0<=b/\b<=1125899906842624
    ·rw[yY (p:=(0<=a/\a<=1125899906842624)/\0<=b/\b<=1125899906842624) ⟨h2,h3⟩,yY h2,yY h3];rw[yX (show¬(!true)=true by decide),yX (show¬(!true)=true by decide),yX (show¬(!true)=true by decide)];by_cases h4:0<=s.2.2.2/\s.2.2.2<=1000
     ·rw[yY h4,yX (show¬(!true)=true by decide),yX (show¬(!true)=true by decide)];by_cases h5:s.2.2.1.length<=16
      ·have h5':¬decide ((s.2.2.1.length:Int) > 16)=true:=by rw[yN];omega
       rw[yX h5',yX h5',(Zzb w.t s h5).1,(Zzb w.t s h5).2,ya,ya];by_cases h6:Zbx s.2.2.1.length (CondAt ch s.2.2.1)
       ·rw[yW h6];dsimp only;rw[(Zzc w.t s h5).1,(Zzc w.t s h5).2,ya,ya];by_cases h7:Zbx 2 (SideAt ch s.2.2.1)
        ·rw[yW h7];dsimp only;rw[ZMV s hs (by omega),ZKc s hs (by omega),ya,ya];by_cases h8:totF (wi (a+b)) s.2.2.1=ch.2.1
         ·rw[yW (beq_iff_eq.2 h8),yW (beq_iff_eq.2 h8),hs,ZOL,ZMX];rcases q3 with q|q
          ·rw[q,yW (by decide)];refine⟨decide (a >= wi (feeF s.2.2.2 (s.2.2.1.length:Int)+660)),rfl,rfl,λh=>⟨q1,q2,.inl q,q4,h1,⟨a,b,hs,h2,h3,h8,λ_=>yF h,λh=> ?_⟩,h4,h5,h6,h7⟩⟩;rw[q] at h;exact absurd h (by decide)
          ·rw[q,yW (by decide)];refine⟨decide (b >= wi (feeF s.2.2.2 (s.2.2.1.length:Int)+660)),rfl,rfl,λh=>⟨q1,q2,.inr q,q4,h1,⟨a,b,hs,h2,h3,h8,λh=> ?_,λ_=>yF h⟩,h4,h5,h6,h7⟩⟩;rw[q] at h;exact absurd h (by decide)
         ·have h8':¬(totF (wi (a+b)) s.2.2.1==ch.2.1)=true:=by rw[yT];exact h8
          rw[yX h8',yX h8'];exact⟨false,rfl,rfl,λh=>absurd h (by decide)⟩
        ·rw[yX h7];exact⟨false,rfl,rfl,λh=>absurd h (by decide)⟩
       ·rw[yX h6];exact⟨false,rfl,rfl,λh=>absurd h (by decide)⟩
      ·have h5':decide ((s.2.2.1.length:Int) > 16)=true:=yY (by omega);rw[yW h5',yW h5'];exact⟨false,rfl,rfl,λh=>absurd h (by decide)⟩
     ·rw[yZ h4];exact⟨false,rfl,rfl,λh=>absurd h (by decide)⟩
    ·rw[yZ (p:=(0<=a/\a<=1125899906842624)/\0<=b/\b<=1125899906842624) λq=>h3 q.2,yY h2,yZ h3];exact⟨false,rfl,rfl,λh=>absurd h (by decide)⟩
   ·rw[yZ (p:=(0<=a/\a<=1125899906842624)/\0<=b/\b<=1125899906842624) λq=>h2 q.1,yZ h2];exact⟨false,rfl,rfl,λh=>absurd h (by decide)⟩
  ·rw[yZ h1];exact⟨false,rfl,rfl,λh=>absurd h (by decide)⟩
 ·have he':(e !=0)=true:=bne_iff_ne.2 he;rw[yW he',yW he'];exact⟨false,rfl,rfl,λh=>absurd h (by decide)⟩
theorem ZIV(x:yU):ZrP x.toNat=Ww x.toNat:=by
 apply List.ext_getElem?;intro k;by_cases hk:k < 8
 ·have h:(Ww x.toNat)[k]? =_:=Zuw x hk;rw[Zy5 _ hk,h,Zy6]
 ·rw[yaq (by rw[Ziv];omega),yaq (by rw[Xq];omega)]
theorem ZKd(p:yU):Zi8 yD p=some (Ww p.toNat):=by
 unfold Zi8
 have e:=Zt (step:=Qr yD) 8 (λk:Nat=>(p,(k:Int),Zpc (Ww p.toNat) 8 k)) (x:=Ww p.toNat) (by
  intro k hk;have hb:(Ww p.toNat)[k]? =_:=Zuw p hk;have hl:(Ww p.toNat).length=8:=rfl;unfold Qr;dsimp only;have q1:min (56 - 8*(k:Int)).toNat 64=56 - 8*k:=by omega
  rw[yW (yY (by omega)),ZU (z:=8*(k:Int)) (by omega) (by omega),ZU (z:=56 - 8*(k:Int)) (by omega) (by omega),yW (yY (by omega)),yW (ZJ (by omega) (by omega)),yau,ZuC (by omega) (by omega),ya,Zo (by omega),q1,ZuD hb (by omega)]) (by
  unfold Qr;dsimp only;rw[yX (ynd (by omega)),ZuE (n:=8) (Xq _)]) (by omega)
 have e:Zb (Qr yD) yD (p,(0:Int),([0,0,0,0,0,0,0,0]:yL yB))=_:=e;rw[e,ya];rfl
noncomputable def ZMY(s:ByteArray)(a b:yU):yU:=frF (Sha.sha (Zwe s [Ww a.toNat,Ww b.toNat]))
theorem ZIW(a b:yU):∀l,l∈[Ww a.toNat,Ww b.toNat]->l.length<=60000:=by
 intro l hl;simp only[yae,yap,or_false] at hl;rcases hl with rfl|rfl
 ·exact ybl (Nat.le_of_eq (Xq _)) (by decide)
 ·exact ybl (Nat.le_of_eq (Xq _)) (by decide)
theorem ZHC{s:ByteArray}(hs:s.size<=100)(a b:yU):Za3 yD s [a,b]=some (ZMY s a b):=by
 unfold Za3
 have e:=Zt (step:=Vy yD) 2 (λk:Nat=>(s,[a,b],(2:Int),(k:Int),[Ww a.toNat,Ww b.toNat].take k)) (x:=(s,[Ww a.toNat,Ww b.toNat])) (by
  intro k hk;obtain⟨p,hp,_⟩:=Zg (l:=[a,b]) (k:=k) (by simp;omega)
  have hq:[Ww a.toNat,Ww b.toNat][k]? =some (Ww p.toNat):=by
   rcases (show k=0\/k=1 by omega) with rfl|rfl
   ·cases hp;rfl
   ·cases hp;rfl
  have hl:([Ww a.toNat,Ww b.toNat].take k).length<=2:=by rw[yai];exact Nat.min_le_right _ _
  unfold Vy;dsimp only;rw[yW (yY (by omega)),Zp hp,ya,ZKd,ya,yW (ZT (by omega) (by omega)),Zo (by omega),List.take_add_one,hq];rfl) (by
  unfold Vy;dsimp only;rw[yX (ynd (by omega))];rfl) (by omega)
 have e:Zb (Vy yD) yD (s,[a,b],(([a,b]:yL yU).length:Int),(0:Int),([]:yL (yL yB)))=_:=e;rw[e,ya];dsimp only;rw[Zza hs (by simp) (ZIW a b),ya,ZDy (Sha.ZR0 _),ya];rfl
theorem ZDE{s:ByteArray}(hs:s.size<=100)(a b:yU):XE yD s a b=some (ZMY s a b):=by
 unfold XE;rw[Zmk _ (by simp),Zmk _ (by simp),ya,ya,yw,yw,ZIV,ZIV,Ztk hs (by simp) (ZIW a b),ya,Zy9 (Sha.ZR0 _),ya];rfl
noncomputable def Y2(a p:yU):yU:=ad a (B (ZMY ZMr p a).toNat)
noncomputable def WC(a p:yU):yU:=ad (sc a (ZMY ZBa a p).toNat) (sc p (ZMY ZBa p a).toNat)
theorem ZQV(a p:yU):Zhi yD a p=some (Y2 a p):=by
 unfold Zhi;rw[ZHC (by decide),ya,ZDr,ya,ZHv,ya];rfl
theorem ZKe(a p:yU):ZgW yD a p=some (WC a p):=by
 unfold ZgW;rw[ZHC (by decide),ya,Zy2,ya,ZHC (by decide),ya,Zy2,ya,ZHv,ya];rfl
theorem ZQW(p:yU):(tk p).toNat < mdl:=(ZFI p).2.1
theorem Zzd(p q:yU):WF yD p q=some (ad p q):=by
 unfold WF;rw[ZuA,ya,ZuA,ya];unfold Zy;rw[yW (show decide ((tk p).toNat < 4611686018427377339)=true from yY (ZQW p)),ya]
 rfl
theorem ZDF(a p:yU):XX yD a p=some (Y2 a p):=by
 unfold XX;rw[ZDE (by decide),ya,Zy3,ya,Zzd,ya];rfl
theorem ZrQ(a p:yU):XF yD a p=some (WC a p):=by
 unfold XF;rw[ZDE (by decide),ya,ZuB,ya,ZDE (by decide),ya,ZuB,ya,Zzd,ya];rfl
theorem ZKf{l:yL yU}(hl:l.length<=9223372036854775807):∃b,Q5 yD l=some b/\(b=false->∀p,p∈l->QA p.toNat):=by
 unfold Q5 Zaf
 obtain⟨x,h1,h2⟩:=Ws (step:=YE yD) l.length (λk s=>s=(l,(l.length:Int),(k:Int))/\∀j p,j < k->l[j]? =some p->QA p.toNat) (λx=>(∃k:Nat,x=.inl (k:Int))\/x=.inr ()/\∀p,p∈l->QA p.toNat) (i:=(l,(l.length:Int),(0:Int))) ⟨rfl,λj p hj=>by omega⟩ (by omega) (by
  rintro k _ hk ⟨rfl,hj⟩;obtain⟨e,he,_⟩:=Zg hk;unfold YE;dsimp only;rw[yW (ZF hk),Zp he,ya,ZHx,ya,Zo (by omega)];by_cases hp:QA e.toNat
  ·rw[yY hp];left;refine⟨_,rfl,rfl,λj p h3 h4=> ?_⟩;by_cases h5:j < k
   ·exact hj j p h5 h4
   ·have:j=k:=by omega
    subst this;rw[he] at h4;cases h4;exact hp
  ·rw[yZ hp];right;exact⟨_,rfl,.inl ⟨k,rfl⟩⟩) (by
  rintro _ ⟨rfl,hj⟩;unfold YE;dsimp only;rw[yX (by rw[Zz];decide)];refine⟨_,rfl,.inr ⟨rfl,λp hp=> ?_⟩⟩;obtain⟨j,hj1,hj2⟩:=ybx hp;exact hj j p hj1 (by rw[yab hj1,hj2]))
 rw[h1,ya];rcases h2 with⟨k,rfl⟩|⟨rfl,h2⟩
 ·dsimp only;rw[ya];refine⟨_,rfl,λh=> ?_⟩;exact absurd (of_decide_eq_false h) (by omega)
 ·exact⟨_,rfl,λ_=>h2⟩
def LockWf(l:ZR):Prop:=l.length<=9223372036854775807/\∀b,b∈l->b.1.length<=9223372036854775807
theorem ZvD(z:Int):∃b,QH yD z=some b/\(b=true->0<=z/\z<=1048576):=by
 unfold QH;by_cases h:z >= 0
 ·rw[yW (yY h)];exact⟨_,rfl,λh2=>⟨h,yF h2⟩⟩
 ·rw[yX (by rw[yN];exact h)];exact⟨_,rfl,λh2=>by cases h2⟩
theorem Ziw{l:ZR}(hl:LockWf l):∃b,W7 yD l=some b/\(b=true↔Zbo l/\Zdc l):=by
 have key:∃b,W7 yD l=some b/\(b=true->Zbo l/\Zdc l):=by
  unfold W7;obtain⟨h0,h1⟩:=hl
  obtain⟨x,hx,hp⟩:=Ws (step:=Vg yD) l.length (λk s=>s=(l,(l.length:Int),(k:Int),l)/\∀j b,j < k->l[j]? =some b->ZDt b/\ZDu b)
   (λx=>x=.inl (false,l)\/(x=.inr l/\∀b,b∈l->ZDt b/\ZDu b)) (i:=(l,(l.length:Int),(0:Int),l)) ⟨rfl,λj b hj=>by omega⟩ (by omega) (by
   rintro k _ hk ⟨rfl,hj⟩;obtain⟨e,he,hm⟩:=Zg hk
   have hnext:(ZDt e/\ZDu e)->∀j b,j < k+1->l[j]? =some b->ZDt b/\ZDu b:=by
    intro hE j b h2 h3;by_cases h4:j < k
    ·exact hj j b h4 h3
    ·have:j=k:=by omega
     subst this;rw[he] at h3;cases h3;exact hE
   unfold Vg;dsimp only;rw[yW (ZF hk),Zp he,ya];by_cases k1:(e.1.length:Int) > 12
   ·right;rw[yW (yY k1)];exact⟨_,rfl,.inl rfl⟩
   rw[yX (by rw[yN];exact k1)];obtain⟨b,hb,hbp⟩:=ZKf (h1 e hm);rw[hb,ya]
   cases b with
   |true=>right;exact⟨_,rfl,.inl rfl⟩
   |false=>
    obtain⟨c,hc,hc2⟩:=ZvD e.2.1;obtain⟨d,hd,hd2⟩:=ZvD e.2.2.1;rw[yX (by decide),hc,ya,hd,ya]
    cases c with
    |false=>right;exact⟨_,rfl,.inl rfl⟩
    |true=>
     cases d with
     |false=>right;exact⟨_,rfl,.inl rfl⟩
     |true=>
      have hn:=λhz:e.2.2.2≠0->QA e.2.2.2.toNat=>hnext ⟨⟨by omega,(hc2 rfl).1,(hc2 rfl).2,(hd2 rfl).1,(hd2 rfl).2⟩,hbp rfl,hz⟩;rw[yX (by decide),yX (by decide),Zo (by omega)];by_cases hz:e.2.2.2=0
      ·rw[yX (by rw[hz];decide)];left;exact⟨_,rfl,rfl,hn λh=>absurd hz h⟩
      ·rw[yW (by simp[hz]),ZHx,ya];by_cases hpt:QA e.2.2.2.toNat
       ·rw[yY hpt];left;exact⟨_,rfl,rfl,hn λ_=>hpt⟩
       ·rw[yZ hpt];right;exact⟨_,rfl,.inl rfl⟩) (by
   rintro _ ⟨rfl,hj⟩;unfold Vg;dsimp only;rw[yX (by rw[Zz];decide)];refine⟨_,rfl,.inr ⟨rfl,λb hb=> ?_⟩⟩;obtain⟨j,hj1,hj2⟩:=ybx hb;exact hj j b hj1 (by rw[yab hj1,hj2]))
  rw[hx,ya];rcases hp with rfl|⟨rfl,hp⟩
  ·exact⟨_,rfl,λh=>by cases h⟩
  ·dsimp only;by_cases h2:(l.length:Int) > 0
   ·rw[yW (yY h2)];refine⟨_,rfl,λh3=>⟨⟨by omega, ?_,λb hb=>(hp b hb).1⟩,λb hb=>(hp b hb).2⟩⟩;have:=yF h3;omega
   ·rw[yX (by rw[yN];exact h2)];exact⟨_,rfl,λh=>by cases h⟩
 obtain⟨b,h1,h2⟩:=key;refine⟨b,h1,h2,λh=> ?_⟩;rw[Zy7 h.1 h.2] at h1;exact(Option.some.inj h1).symm
theorem ZFT{e:Zn}(hw:e.1.length<=9223372036854775807):∃b,VP yD e=some b/\(b=true↔ZDt e/\ZDu e):=by
 unfold VP;by_cases c1:(e.1.length:Int) > 12
 ·rw[yW (yY c1)];exact⟨_,rfl,λh=>(by cases h),λh=>by have:=h.1.1;omega⟩
 rw[yX (by rw[yN];exact c1)];by_cases c2:e.2.1 < 0
 ·rw[yW (yY c2)];exact⟨_,rfl,λh=>(by cases h),λh=>by have:=h.1.2.1;omega⟩
 rw[yX (by rw[yN];exact c2)];by_cases c3:e.2.1 > 1048576
 ·rw[yW (yY c3)];exact⟨_,rfl,λh=>(by cases h),λh=>by have:=h.1.2.2.1;omega⟩
 rw[yX (by rw[yN];exact c3)];by_cases c4:e.2.2.1 < 0
 ·rw[yW (yY c4)];exact⟨_,rfl,λh=>(by cases h),λh=>by have:=h.1.2.2.2.1;omega⟩
 rw[yX (by rw[yN];exact c4)];by_cases c5:e.2.2.1 > 1048576
 ·rw[yW (yY c5)];exact⟨_,rfl,λh=>(by cases h),λh=>by have:=h.1.2.2.2.2;omega⟩
 rw[yX (by rw[yN];exact c5)];have ok:ZDt e:=⟨by omega,by omega,by omega,by omega,by omega⟩
 obtain⟨x,h1,h2⟩:=Ws (step:=XG yD) e.1.length (λk s=>s=((k:Int),e)/\∀j p,j < k->e.1[j]? =some p->QA p.toNat) (λx=>(x=.inl (false,e)/\¬ZDu e)\/(x=.inr e/\∀p,p∈e.1->QA p.toNat)) (i:=((0:Int),e)) ⟨rfl,λj p hj=>by omega⟩ (by omega) (by
  rintro k _ hk ⟨rfl,hj⟩;obtain⟨d,hd,hm⟩:=Zg hk;unfold XG;dsimp only;rw[yW (ZF hk),Zp hd,ya,Za7,ya];by_cases hp:QA d.toNat
  ·left;rw[yY hp,yX (by decide),Zo (by omega)];refine⟨_,rfl,rfl,λj p h3 h4=> ?_⟩;by_cases h5:j < k
   ·exact hj j p h5 h4
   ·have:j=k:=by omega
    subst this;rw[hd] at h4;cases h4;exact hp
  ·right;rw[yZ hp,yW (by decide)];exact⟨_,rfl,.inl ⟨rfl,λh=>hp (h.1 d hm)⟩⟩) (by
  rintro _ ⟨rfl,hj⟩;unfold XG;dsimp only;rw[yX (by rw[Zz];decide)];refine⟨_,rfl,.inr ⟨rfl,λp hp=> ?_⟩⟩;obtain⟨j,j1,j2⟩:=ybx hp;exact hj j p j1 (by rw[yab j1,j2]))
 rw[h1,ya];rcases h2 with⟨rfl,h2⟩|⟨rfl,h2⟩
 ·exact⟨_,rfl,λh=>(by cases h),λh=>absurd h.2 h2⟩
 ·dsimp only;rw[Za7,ya];by_cases h0:e.2.2.2=0
  ·rw[yW (beq_iff_eq.2 h0)];exact⟨_,rfl,λ_=>⟨ok,h2,λh=>absurd h0 h⟩,λ_=>rfl⟩
  ·rw[yX (by rw[yT];exact h0)];refine⟨_,rfl,λh=>⟨ok,h2,λ_=>yF h⟩,λh=>yY (h.2.2 h0)⟩
theorem Zha{l:ZR}(hl:LockWf l):∃b,Y7 yD l=some b/\(b=true↔Zbo l/\Zdc l):=by
 obtain⟨w0,w1⟩:=hl;unfold Y7;by_cases c1:(l.length:Int) < 1
 ·rw[yW (yY c1)];exact⟨_,rfl,λh=>(by cases h),λh=>by have:=h.1.1;omega⟩
 rw[yX (by rw[yN];exact c1)];by_cases c2:(l.length:Int) > 4
 ·rw[yW (yY c2)];exact⟨_,rfl,λh=>(by cases h),λh=>by have:=h.1.2.1;omega⟩
 rw[yX (by rw[yN];exact c2)]
 obtain⟨x,h1,h2⟩:=Ws (step:=XY yD) l.length (λk s=>s=((k:Int),l)/\∀j b,j < k->l[j]? =some b->ZDt b/\ZDu b) (λx=>(x=.inl (false,l)/\¬(Zbo l/\Zdc l))\/(x=.inr l/\∀b,b∈l->ZDt b/\ZDu b)) (i:=((0:Int),l)) ⟨rfl,λj p hj=>by omega⟩ (by omega) (by
  rintro k _ hk ⟨rfl,hj⟩;obtain⟨d,hd,hm⟩:=Zg hk;obtain⟨b,b1,b2⟩:=ZFT (w1 d hm);unfold XY;dsimp only;rw[yW (ZF hk),Zp hd,ya,b1,ya]
  cases b with
  |true=>
   left;rw[yX (by decide),Zo (by omega)];refine⟨_,rfl,rfl,λj p h3 h4=> ?_⟩;by_cases h5:j < k
   ·exact hj j p h5 h4
   ·have:j=k:=by omega
    subst this;rw[hd] at h4;cases h4
    exact b2.1 rfl
  |false=>
   right;rw[yW (by decide)];exact⟨_,rfl,.inl ⟨rfl,λh=>by have:=b2.2 ⟨h.1.2.2 d hm,h.2 d hm⟩;cases this⟩⟩) (by
  rintro _ ⟨rfl,hj⟩;unfold XY;dsimp only;rw[yX (by rw[Zz];decide)];refine⟨_,rfl,.inr ⟨rfl,λp hp=> ?_⟩⟩;obtain⟨j,j1,j2⟩:=ybx hp;exact hj j p j1 (by rw[yab j1,j2]))
 rw[h1,ya];rcases h2 with⟨rfl,h2⟩|⟨rfl,h2⟩
 ·exact⟨_,rfl,λh=>(by cases h),λh=>absurd h h2⟩
 ·exact⟨_,rfl,λ_=>⟨⟨by omega,by omega,λb hb=>(h2 b hb).1⟩,λb hb=>(h2 b hb).2⟩,λ_=>rfl⟩
theorem ZMZ{l:ZR}(h:Zbo l)(hp:Zdc l):Y7 yD l=some true:=by
 obtain⟨b,b1,b2⟩:=Zha (l:=l) ⟨by have:=h.2.1;omega,λb hb=>by have:=(h.2.2 b hb).1;omega⟩;rw[b1,b2.2 ⟨h,hp⟩]
theorem ZHD{c:yL yB}(hc:c.length<=100000){i:Int}{l:ZR}{e:Zn}(hk:e.1.length<=12):
 Zb (YR yD) yD (c,i,(0:Int),l,e)=some (c++cat ZDv e.1,i,l,e):=by
 have q:=Zt (step:=YR yD) e.1.length (λk:Nat=>(c++cat ZDv (e.1.take k),i,(k:Int),l,e)) (x:=(c++cat ZDv e.1,i,l,e)) (by
  intro k hk2;obtain⟨d,hd,_⟩:=Zg hk2;have hl:=Zpe hk k;unfold YR;dsimp only;rw[yW (ZF hk2),Zp hd,ya,Zmk _ (by rw[yo];omega),ya,Zo (by omega),Zbw hd,yad];rfl) (by
  unfold YR;dsimp only;rw[yX (by rw[Zz];decide),yao]) (by omega)
 rw[show cat ZDv (e.1.take 0)=[] from rfl,yaz] at q
 exact q
theorem ZvE{l:ZR}(h:Zbo l)(hp:Zdc l):WP yD l=some (Zpd l):=by
 unfold WP;have h0:=h.2.1;have h9:=Z8 (n:=l.length) (by omega);rw[ZMZ h hp,ya,yX (by decide),ZeM (by omega) (by omega) (by simp),ya,yw,yau]
 have q:=Zt (step:=YS yD) l.length (λk:Nat=>(WQ l.length++cat brF (l.take k),(k:Int),l)) (x:=(Zpd l,l)) (by
  intro k hk;obtain⟨e,he,hm⟩:=Zg hk;obtain⟨e1,e2,e3,e4,e5⟩:=h.2.2 e hm;have hl:=Zdd (f:=brF) (c:=131) (λx hx=>ZDw (h.2.2 x hx)) h.2.1 k;have hr:=Z8 (n:=e.1.length) (by omega);have hr2:=Z8 (n:=e.2.1.toNat) (by omega);have hr3:=Z8 (n:=e.2.2.1.toNat) (by omega);have hk8:=Zpe e1 e.1.length;rw[yao] at hk8;unfold YS;dsimp only
  rw[yW (ZF hk),Zp he,ya,ZeM (by omega) (by omega) (by rw[yo];omega),ya,yau,
   ZHD (by simp only[yo];omega) e1,ya]
  dsimp only
  rw[ZeM e2 (by omega) (by simp only[yo];omega),ya,ZeM e4 (by omega) (by simp only[yo];omega),ya,
   Zmk _ (by simp only[yo];omega),ya,Zo (by omega),Zbw he]
  unfold brF;simp only[yad]) (by
  unfold YS;dsimp only;rw[yX (by rw[Zz];decide),yao];rfl) (by omega)
 rw[show cat brF (l.take 0)=[] from rfl,yaz] at q
 have q:Zb (YS yD) yD (WQ l.length,(0:Int),l)=_:=q;rw[q,ya]
open Classical in
noncomputable def Zwf(l:ZR):yL yB:=if Zbo l/\Zdc l then Sha.sha (Zwe ZMs [Zpd l]) else z32
theorem Zk4(l:ZR):(Zwf l).length=32:=by
 unfold Zwf;by_cases h:Zbo l/\Zdc l
 ·rw[yW h];exact Sha.ZR0 _
 ·rw[yX h];rfl
theorem ZFU{l:ZR}(h:Zbo l):∀x,x∈[Zpd l]->x.length<=60000:=λx hx=>by
 have:=ZpJ h;rw[yav.1 hx];omega
theorem ZOM{l:ZR}(hl:LockWf l):ZpF yD l=some (Zwf l):=by
 obtain⟨b,b1,b2⟩:=Ziw hl;unfold ZpF Zwf;rw[b1,ya];by_cases h:Zbo l/\Zdc l
 ·rw[b2.2 h,yX (show¬(!true)=true by decide),yW h,Zy8 h.1 h.2,ya,Zza (by decide) (by simp) (ZFU h.1),ya]
 ·have:b=false:=by
   cases b with
   |true=>exact absurd (b2.1 rfl) h
   |false=>rfl
  rw[this,yW (show(!false)=true by decide),yX h];rfl
theorem ZFV{l:ZR}(hl:LockWf l):VS yD l=some (Zwf l):=by
 obtain⟨b,b1,b2⟩:=Zha hl;unfold VS Zwf;rw[b1,ya];by_cases h:Zbo l/\Zdc l
 ·rw[b2.2 h,yX (show¬(!true)=true by decide),yW h,ZvE h.1 h.2,ya,Ztk (by decide) (by simp) (ZFU h.1),ya]
 ·have:b=false:=by
   cases b with
   |true=>exact absurd (b2.1 rfl) h
   |false=>rfl
  rw[this,yW (show(!false)=true by decide),yX h];rfl
def X6:yL Int->yL Int->Bool
 |a::l,b::r=>decide (a < b) || (decide (a=b)&&X6 l r)
 |_,_=>false
theorem Qu{a b:Int}{l r:yL Int}:X6 (a::l) (b::r)=true↔a < b\/a=b/\X6 l r=true:=by
 simp[X6]
theorem Zjj:∀l,X6 l l=false
 |[]=>rfl
 |a::l=>by
  have ih:=Zjj l
  cases h:X6 (a::l) (a::l) with
  |false=>rfl
  |true=>
   rcases Qu.1 h with h|h
   ·omega
   ·rw[ih] at h;cases h.2
theorem Zmp:∀{a b c:yL Int},X6 a b=true->X6 b c=true->X6 a c=true
 |[],_,_,h,_=>by cases h
 |_::_,[],_,h,_=>by cases h
 |_::_,_::_,[],_,h=>by cases h
 |x::a,y::b,z::c,h1,h2=>by
  rw[Qu] at h1 h2 ⊢;rcases h1 with h1|⟨h1,h3⟩
  ·rcases h2 with h2|⟨h2,_⟩
   ·exact .inl (by omega)
   ·exact .inl (by omega)
  ·rcases h2 with h2|⟨h2,h4⟩
   ·exact .inl (by omega)
   ·exact .inr ⟨by omega,Zmp h3 h4⟩
theorem ZFW:∀{a b:yL Int},a.length=b.length->X6 a b=false->X6 b a=false->a=b
 |[],[],_,_,_=>rfl
 |[],_::_,h,_,_=>by cases h
 |_::_,[],h,_,_=>by cases h
 |x::a,y::b,h,h1,h2=>by
  have n1:¬(X6 (x::a) (y::b)=true):=by rw[h1];decide
  have n2:¬(X6 (y::b) (x::a)=true):=by rw[h2];decide
  rw[Qu] at n1 n2;have e:x=y:=by omega
  subst e
  rw[ZFW (a:=a) (b:=b) (by simpa using h) (by
   cases k:X6 a b with
   |false=>rfl
   |true=>exact absurd (.inr ⟨rfl,k⟩) n1) (by
   cases k:X6 b a with
   |false=>rfl
   |true=>exact absurd (.inr ⟨rfl,k⟩) n2)]
theorem Zze:∀{u v r s:yL Int},u.length=v.length->(X6 (u++r) (v++s)=true↔X6 u v=true\/u=v/\X6 r s=true)
 |[],[],r,s,_=>by simp[X6]
 |[],_::_,_,_,h=>by cases h
 |_::_,[],_,_,h=>by cases h
 |x::u,y::v,r,s,h=>by
  rw[List.cons_append,List.cons_append,Qu,Qu,Zze (u:=u) (v:=v) (by simpa using h)];constructor
  ·rintro(h|⟨h,h2|⟨h2,h3⟩⟩)
   ·exact .inl (.inl h)
   ·exact .inl (.inr ⟨h,h2⟩)
   ·exact .inr ⟨by rw[h,h2],h3⟩
  ·rintro((h|⟨h,h2⟩)|⟨h,h3⟩)
   ·exact .inl h
   ·exact .inr ⟨h,.inl h2⟩
   ·cases h;exact .inr ⟨rfl,.inr ⟨rfl,h3⟩⟩
theorem ZKg{a b:yL Int}(h:X6 a b=true):X6 b a=false:=by
 cases k:X6 b a with
 |false=>rfl
 |true=>
  have:=Zmp h k;rw[Zjj] at this;cases this
def QX{α:Type}(key:α->yL Int)(x:α):yL α->yL α
 |[]=>[x]
 |e::r=>if X6 (key x) (key e)=true then x::e::r else e::QX key x r
def Srt{α:Type}(key:α->yL Int)(l:yL α):Prop:=l.Pairwise λa b=>X6 (key b) (key a)=false
theorem ZFX{α:Type}{key:α->yL Int}{x y:α}(h:X6 (key x) (key y)=true):∀P:yL α,QX key x (P++[y])=QX key x P++[y]
 |[]=>by simp[QX,h]
 |e::r=>by
  have ih:=ZFX h r;by_cases k:X6 (key x) (key e)=true
  ·simp[QX,k]
  ·simp[QX,k,ih]
theorem ZIX{α:Type}{key:α->yL Int}{x:α}:∀P:yL α,(∀e,e∈P->X6 (key x) (key e)=false)->QX key x P=P++[x]
 |[],_=>rfl
 |e::r,h=>by
  have ih:=ZIX r λa ha=>h a (yay _ ha);have k:=h e (yaw);simp[QX,k,ih]
theorem Ztm{α:Type}{key:α->yL Int}{x y:α}:∀{l:yL α},y∈QX key x l↔y=x\/y∈l
 |[]=>by simp[QX]
 |e::r=>by
  have ih:=Ztm (key:=key) (x:=x) (y:=y) (l:=r);by_cases k:X6 (key x) (key e)=true
  ·simp[QX,k]
  ·rw[show QX key x (e::r)=e::QX key x r by simp[QX,k],yae,yae,ih];constructor
   ·rintro(h|h|h)
    ·exact .inr (.inl h)
    ·exact .inl h
    ·exact .inr (.inr h)
   ·rintro(h|h|h)
    ·exact .inr (.inl h)
    ·exact .inl h
    ·exact .inr (.inr h)
theorem ZFY{α:Type}{key:α->yL Int}{x:α}:∀l:yL α,(QX key x l).length=l.length+1
 |[]=>rfl
 |e::r=>by
  have ih:=ZFY (key:=key) (x:=x) r;by_cases k:X6 (key x) (key e)=true
  ·simp[QX,k]
  ·simp[QX,k,ih]
theorem ZFZ{α:Type}{key:α->yL Int}{x:α}:∀{l:yL α},Srt key l->Srt key (QX key x l)
 |[],_=>List.pairwise_singleton _ _
 |e::r,h=>by
  have h':=List.pairwise_cons.1 h;by_cases k:X6 (key x) (key e)=true
  ·rw[show QX key x (e::r)=x::e::r by simp[QX,k]];refine List.pairwise_cons.2 ⟨λb hb=> ?_,h⟩;rcases yae.1 hb with rfl|hb
   ·exact ZKg k
   ·cases q:X6 (key b) (key x) with
    |false=>rfl
    |true=>
     have:=Zmp q k;rw[h'.1 b hb] at this;cases this
  ·rw[show QX key x (e::r)=e::QX key x r by simp[QX,k]];refine List.pairwise_cons.2 ⟨λb hb=> ?_,ZFZ h'.2⟩;rcases Ztm.1 hb with rfl|hb
   ·simpa using k
   ·exact h'.1 b hb
theorem ZIY{α β:Type}{key:α->yL Int}{key':β->yL Int}{f:α->β}{x:α}(hx:key x=key' (f x)):∀l:yL α,(∀e,e∈l->key e=key' (f e))->(QX key x l).map f=QX key' (f x) (l.map f)
 |[],_=>rfl
 |e::r,h=>by
  have ih:=ZIY hx r λa ha=>h a (yay _ ha);have he:=h e (yaw);rw[yag];unfold QX;rw[<-hx, <-he];by_cases k:X6 (key x) (key e)=true
  ·rw[yW k,yW k];rfl
  ·rw[yX k,yX k,yag,ih]
def Xu{α:Type}(key:α->yL Int)(l:yL α):yL α:=l.foldl (λacc x=>QX key x acc) []
theorem ZuG{α:Type}{key:α->yL Int}(l:yL α)(x:α):Xu key (l++[x])=QX key x (Xu key l):=by
 unfold Xu;rw[List.foldl_append];rfl
theorem ZM0{α:Type}{key:α->yL Int}(l:yL α):Srt key (Xu key l):=by
 unfold Xu
 have h:∀(l acc:yL α),Srt key acc->Srt key (l.foldl (λacc x=>QX key x acc) acc):=by
  intro l
  induction l with
  |nil=>exact λ_ h=>h
  |cons e r ih=>exact λacc h=>ih _ (ZFZ h)
 exact h l [] List.Pairwise.nil
theorem Zix{α:Type}{key:α->yL Int}(l:yL α):(Xu key l).length=l.length:=by
 unfold Xu
 have h:∀(l acc:yL α),(l.foldl (λacc x=>QX key x acc) acc).length=acc.length+l.length:=by
  intro l
  induction l with
  |nil=>exact λ_=>rfl
  |cons e r ih=>
   intro acc;rw[List.foldl_cons,ih,ZFY,yaj];omega
 rw[h l []];simp
theorem Ztn{α:Type}{key:α->yL Int}{y:α}(l:yL α):y∈Xu key l↔y∈l:=by
 unfold Xu
 have h:∀(l acc:yL α),(y∈l.foldl (λacc x=>QX key x acc) acc↔y∈acc\/y∈l):=by
  intro l
  induction l with
  |nil=>exact λ_=>by simp
  |cons e r ih=>
   intro acc;rw[List.foldl_cons,ih,Ztm,yae];constructor
   ·rintro((h|h)|h)
    ·exact .inr (.inl h)
    ·exact .inl h
    ·exact .inr (.inr h)
   ·rintro(h|h|h)
    ·exact .inl (.inr h)
    ·exact .inl (.inl h)
    ·exact .inr h
 rw[h l []];simp
theorem ZM1{α β:Type}{key:α->yL Int}{key':β->yL Int}{f:α->β}(l:yL α)(h:∀e,e∈l->key e=key' (f e)):(Xu key l).map f=Xu key' (l.map f):=by
 unfold Xu
 have q:∀(l acc:yL α),(∀e,e∈l->key e=key' (f e))->(∀e,e∈acc->key e=key' (f e))->(l.foldl (λacc x=>QX key x acc) acc).map f=(l.map f).foldl (λacc x=>QX key' x acc) (acc.map f):=by
  intro l
  induction l with
  |nil=>exact λ_ _ _=>rfl
  |cons e r ih=>
   intro acc h1 h2;rw[List.foldl_cons,yag,List.foldl_cons,ih _ (λa ha=>h1 a (yay _ ha)) (λa ha=> ?_),ZIY (h1 e yaw) acc h2];rcases Ztm.1 ha with rfl|ha
   ·exact h1 a yaw
   ·exact h2 a ha
 exact q l [] h λe he=>by cases he
theorem ZM2{α:Type}{key:α->yL Int}{n:Nat}{x y:α}{P:yL α}(hk:∀e,e∈x::(P++[y])->(key e).length=n)(hs:Srt key (P++[y]))(h:X6 (key x) (key y)=false):QX key x (P++[y])=P++[y]++[x]:=by
 refine ZIX _ λe he=> ?_
 cases q:X6 (key x) (key e) with
 |false=>rfl
 |true=>
  rcases yah.1 he with h1|h1
  ·have h2:X6 (key y) (key e)=false:=(List.pairwise_append.1 hs).2.2 e h1 y (by simp)
   cases q2:X6 (key y) (key x) with
   |true=>
    rw[Zmp q2 q] at h2
    cases h2
   |false=>
    have:=ZFW (by rw[hk x (by simp),hk y (by simp)]) h q2;rw[<-this,q] at h2;cases h2
  ·rw[yav.1 h1,h] at q;cases q
def bm(x:yL yB):yL Int:=x.map λb=>(b.toNat:Int)
theorem ZM3:∀{x y:yL yB},bm x=bm y->x=y
 |[],[],_=>rfl
 |[],_::_,h=>by cases h
 |_::_,[],h=>by cases h
 |a::x,b::y,h=>by
  have h1:(a.toNat:Int)=b.toNat:=(List.cons.inj h).1;rw[ZM3 (List.cons.inj h).2,UInt8.toNat_inj.1 (show a.toNat=b.toNat by omega)]
theorem ZDG(x:yL yB):(bm x).length=x.length:=yy _
def Zco(x:Zk):yL Int:=x.1.1::(bm x.2.2++[x.2.1.1,x.2.1.2.1,x.2.1.2.2.1])
noncomputable def Wo(m:Zc):yL Int:=m.1.1::(bm (Zwf m.1.2)++[m.2.1,m.2.2.1,m.2.2.2.1])
theorem ZM4{x:Zk}(h:x.2.2.length=32):(Zco x).length=36:=by
 simp[Zco,bm,h]
theorem ZM5{a a' d d' f f' i i':Int}{u v:yL Int}(h:u.length=v.length):X6 (a::(u++[d,f,i])) (a'::(v++[d',f',i']))=true↔a < a'\/a=a'/\(X6 u v=true\/u=v/\(d < d'\/d=d'/\(f < f'\/f=f'/\i < i'))):=by
 rw[Qu,Zze h,Qu,Qu,Qu];have:¬(X6 [] []=true):=by decide
 simp[this]
theorem ZBl:∀{x y:yL yB},x.length=y.length->(Go.Lib.compareBytes x y < 0↔X6 (bm x) (bm y)=true)/\(Go.Lib.compareBytes x y=0↔bm x=bm y)
 |[],[],_=>by simp[Go.Lib.compareBytes,bm,X6]
 |[],_::_,h=>by cases h
 |_::_,[],h=>by cases h
 |a::x,b::y,h=>by
  have ih:=ZBl (x:=x) (y:=y) (by simpa using h);have e1:bm (a::x)=(a.toNat:Int)::bm x:=rfl;have e2:bm (b::y)=(b.toNat:Int)::bm y:=rfl;rw[e1,e2,Qu,List.cons.injEq];unfold Go.Lib.compareBytes;by_cases h1:a < b
  ·have h1':=UInt8.lt_iff_toNat_lt.1 h1;rw[yW h1];exact⟨⟨λ_=>.inl (by omega),λ_=>by decide⟩,⟨λh=>absurd h (by decide),λh=>by omega⟩⟩
  ·have h1':¬a.toNat < b.toNat:=λq=>h1 (UInt8.lt_iff_toNat_lt.2 q);rw[yX h1];by_cases h2:b < a
   ·have h2':=UInt8.lt_iff_toNat_lt.1 h2;rw[yW h2];exact⟨⟨λh=>absurd h (by decide),λh=>by omega⟩,⟨λh=>absurd h (by decide),λh=>by omega⟩⟩
   ·have h2':¬b.toNat < a.toNat:=λq=>h2 (UInt8.lt_iff_toNat_lt.2 q);rw[yX h2];have e:a.toNat=b.toNat:=by omega
    refine⟨⟨λh=>.inr ⟨by omega,ih.1.1 h⟩,λh=> ?_⟩,⟨λh=>⟨by omega,ih.2.1 h⟩,λh=>ih.2.2 h.2⟩⟩;rcases h with h|h
    ·omega
    ·exact ih.1.2 h.2
theorem Zto{c:Int}{r:yL Int}:orL (c::r) < 0↔c < 0\/c=0/\orL r < 0:=by
 rw[show orL (c::r)=if c≠0 then c else orL r from rfl]
 by_cases h:c=0
 ·rw[yX (by simp[h])];constructor
  ·exact λq=>.inr ⟨h,q⟩
  ·rintro(q|q)
   ·omega
   ·exact q.2
 ·rw[yW h];constructor
  ·exact λq=>.inl q
  ·rintro(q|q)
   ·exact q
   ·exact absurd q.1 h
theorem Ztp{a b:Int}:(if a < b then(-1:Int) else if a > b then 1 else 0) < 0↔a < b:=by
 by_cases h:a < b
 ·rw[yW h];exact⟨λ_=>h,λ_=>by decide⟩
 ·rw[yX h];by_cases h2:a > b
  ·rw[yW h2];exact⟨λq=>absurd q (by decide),λq=>absurd q h⟩
  ·rw[yX h2];exact⟨λq=>absurd q (by decide),λq=>absurd q h⟩
theorem ZpL{a b:Int}:(if a < b then(-1:Int) else if a > b then 1 else 0)=0↔a=b:=by
 by_cases h:a < b
 ·rw[yW h];exact⟨λq=>absurd q (by decide),λq=>by omega⟩
 ·rw[yX h];by_cases h2:a > b
  ·rw[yW h2];exact⟨λq=>absurd q (by decide),λq=>by omega⟩
  ·rw[yX h2];exact⟨λ_=>by omega,λ_=>rfl⟩
theorem ZON{a b:Zk}(ha:a.2.2.length=32)(hb:b.2.2.length=32):∃z,ZcJ yD a b=some z/\(z < 0↔X6 (Zco a) (Zco b)=true):=by
 unfold ZcJ ZhU;rw[Zer,ya,ya,Zer,ya,Zer,ya,Zer,ya,ZPk (by simp),ya];refine⟨_,rfl, ?_⟩;obtain⟨c1,c2⟩:=ZBl (x:=a.2.2) (y:=b.2.2) (by omega);unfold Zco;rw[ZM5 (by rw[ZDG,ZDG];omega),Zto,Zto,Zto,Zto,Zto,Ztp,Ztp,Ztp,Ztp,ZpL,ZpL,ZpL,ZpL,c1,c2];have:¬(orL [] < 0):=by decide
 simp only[this,and_false,or_false]
theorem ZM6(n:Int)(i:Nat):∀(P:yL Zk)(f:Nat)(u:yL Unit)(x:Zk)(Q:yL Zk),P.length < f->P.length+Q.length+1<=100->(∀e,e∈P++x::Q->e.2.2.length=32)->Srt Zco P->
 Zb (X0 yD) f ((0:Int),n,(i:Int),(P.length:Int),u,P++x::Q)=some ((0:Int),n,(i:Int),u,QX Zco x P++Q):=by
 intro P
 induction h:P.length generalizing P with
 |zero=>
  intro f u x Q hf hl hk hs;have:P=[]:=List.eq_nil_of_length_eq_zero h;subst this;obtain⟨f,rfl⟩:=Nat.exists_eq_succ_of_ne_zero (n:=f) (by omega);unfold Zb X0;dsimp only;rw[yX (ynd (by omega)),ya]
  rfl
 |succ j ih=>
  intro f u x Q hf hl hk hs;obtain⟨f,rfl⟩:=Nat.exists_eq_succ_of_ne_zero (n:=f) (by omega)
  obtain⟨P',y,rfl⟩:∃P' y,P=P'++[y]:=by
   have hne:P≠[]:=λe=>by rw[e] at h;cases h
   exact⟨P.dropLast,P.getLast hne,(List.dropLast_concat_getLast hne).symm⟩
  have hj:P'.length=j:=by simpa using h
  have el:P'++[y]++x::Q=P'++y::x::Q:=by simp
  have hx:(P'++y::x::Q)[j+1]? =some x:=by
   rw[yat (by omega),show j+1 - P'.length=1 by omega];rfl
  have hy:(P'++y::x::Q)[j]? =some y:=by
   rw[yat (by omega),show j - P'.length=0 by omega];rfl
  have zW:(P'++y::x::Q).length=j+2+Q.length:=by simp;omega
  have hset:(P'++y::x::Q).set (j+1) y=P'++y::y::Q:=by
   rw[List.set_append_right _ _ (by omega),show j+1 - P'.length=1 by omega];rfl
  have hset2:(P'++y::y::Q).set j x=P'++x::y::Q:=by
   rw[List.set_append_right _ _ (by omega),show j - P'.length=0 by omega];rfl
  have hw:(P'++y::y::Q)[j]? =some y:=by
   rw[yat (by omega),show j - P'.length=0 by omega];rfl
  have hlen2:(P'++y::y::Q).length=j+2+Q.length:=by simp;omega
  have e1:wi (((j+1:Nat):Int) - 1)=(j:Int):=by rw[ZU (by omega) (by omega)];omega
  obtain⟨z,z1,z2⟩:=ZON (hk x (by simp)) (hk y (by simp));rw[el]
  have hstep:X0 yD ((0:Int),n,(i:Int),((j+1:Nat):Int),u,P'++y::x::Q)=if z < 0 then some (.inl ((0:Int),n,(i:Int),(j:Int),u,P'++x::y::Q)) else some (.inr ((0:Int),n,(i:Int),u,P'++y::x::Q)):=by
   unfold X0;dsimp only;rw[yW (yY (by omega)),e1,yW (ZJ (by omega) (by omega)),yau,yau,hx,ya,yW (ZJ (by omega) (by omega)),hy,ya,z1,ya];by_cases h0:z < 0
   ·rw[yW (yY h0),yW (ZJ (by omega) (by omega)),ya,yW (ZJ (by omega) (by omega)),ya,yW (ZJ (by omega) (by omega)),ya,hset,yW (ZJ (by omega) (by omega)),hw,ya,yW h0,hset2]
   ·rw[yX (by rw[yN];exact h0),yX h0]
  unfold Zb;rw[hstep];have hs':=List.pairwise_append.1 hs;by_cases h0:z < 0
  ·rw[yW h0,ya];dsimp only
   rw[ih P' hj f u x (y::Q) (by omega) (by simp;omega) (λe he=>hk e (by
    simp only[yah,yae,yap,or_false] at he ⊢;rcases he with he|he|he|he
    ·exact .inl (.inl he)
    ·exact .inr (.inl he)
    ·exact .inl (.inr he)
    ·exact .inr (.inr he))) hs'.1,ZFX (z2.1 h0)]
   simp
  ·rw[yX h0,ya];dsimp only
   have q:X6 (Zco x) (Zco y)=false:=by
    cases q:X6 (Zco x) (Zco y) with
    |false=>rfl
    |true=>exact absurd (z2.2 q) h0
   rw[ZM2 (n:=36) (λe he=>ZM4 (hk e (by
    simp only[yah,yae,yap,or_false] at he ⊢;rcases he with he|he|he
    ·exact .inr (.inl he)
    ·exact .inl (.inl he)
    ·exact .inl (.inr he)))) hs q]
   simp
theorem ZuH{α:Type}{l:yL α}{k:Nat}{e:α}(h:l[k]? =some e):l.drop k=e::l.drop (k+1):=by
 obtain⟨h1,h2⟩:=yq.1 h;rw[List.drop_eq_getElem_cons h1,h2]
theorem ZKh(u:yL Unit){l:yL Zk}(hl:l.length<=20)(hk:∀e,e∈l->e.2.2.length=32):Wg yD (0:Int) (l.length:Int) u l=some (u,Xu Zco l):=by
 unfold Wg;rw[show wi ((0:Int)+1)=1 from rfl]
 by_cases h0:l=[]
 ·subst h0
  have e:Zb (Z4 yD) yD ((0:Int),(([]:yL Zk).length:Int),(1:Int),u,([]:yL Zk))=some (u,[]):=by
   refine Zt 0 (λk:Nat=>((0:Int),(([]:yL Zk).length:Int),(1:Int),u,([]:yL Zk))) (λk hk=>by omega) ?_ (by omega);unfold Z4;dsimp only;rw[yX (by rw[yN];simp)]
  rw[e,ya];rfl
 have hpos:0 < l.length:=List.length_pos_iff.2 h0
 have e:=Zt (step:=Z4 yD) (l.length - 1) (λk:Nat=>((0:Int),(l.length:Int),((k+1:Nat):Int),u,Xu Zco (l.take (k+1))++l.drop (k+1))) (x:=(u,Xu Zco l)) (by
  intro k hk2;obtain⟨x,hx,hm⟩:=Zg (l:=l) (k:=k+1) (by omega);have hL:(Xu Zco (l.take (k+1))).length=k+1:=by rw[Zix,yai];omega
  have hs:=ZM6 (l.length:Int) (k+1) (Xu Zco (l.take (k+1))) yD u x (l.drop (k+1+1)) (by rw[ZgL];omega) (by rw[hL,List.length_drop];omega) (by
   intro e he;rcases yah.1 he with h|h
   ·exact hk e (List.mem_of_mem_take ((Ztn _).1 h))
   ·rcases yae.1 h with rfl|h
    ·exact hk _ hm
    ·exact hk e (List.mem_of_mem_drop h)) (ZM0 _)
  rw[hL] at hs;unfold Z4;dsimp only;rw[yW (yY (by omega)),ZuH hx,hs,ya];dsimp only;rw[Zo (by omega),Qa hx,ZuG]) (by
  unfold Z4;dsimp only;rw[yX (ynd (by omega)),show l.length - 1+1=l.length by omega,yao,List.drop_length,yaz]) (by omega)
 have e2:Xu Zco (l.take 1)++l.drop 1=l:=by
  match l,h0 with
  |a::r,_=>rfl
 have e:Zb (Z4 yD) yD ((0:Int),(l.length:Int),(1:Int),u,Xu Zco (l.take 1)++l.drop 1)=_:=e;rw[e2] at e;rw[e,ya]
theorem ZHE(u:yL Unit)(l:yL Zk){a b:Int}(h:b<=a)(h0:0<=a)(h1:a<=100):Wg yD a b u l=some (u,l):=by
 unfold Wg;rw[ZU (z:=a+1) (by omega) (by omega)]
 have e:Zb (Z4 yD) yD (a,b,a+1,u,l)=some (u,l):=by
  refine Zt 0 (λk:Nat=>(a,b,a+1,u,l)) (λk hk=>by omega) ?_ (by omega);unfold Z4;dsimp only;rw[yX (ynd (by omega))]
 rw[e,ya]
theorem ZM7(u:yL Unit){l:yL Zk}(hl:l.length<=20)(hk:∀e,e∈l->e.2.2.length=32):VJ yD u l=some (u,Xu Zco l):=by
 have r1:=ZKh u hl hk;have hrl:=Zix (key:=Zco) l
 have fin:Zb (V3 yD) yD ((l.length:Int),(20:Int),u,Xu Zco l)=some (u,Xu Zco l):=by
  refine Zt 0 (λk:Nat=>((l.length:Int),(20:Int),u,Xu Zco l)) (λk hk=>by omega) ?_ (by omega);unfold V3;dsimp only;rw[yX (ynd (by omega))]
 unfold VJ Zel;by_cases h20:l.length=20
 ·have e:Zb (Y5 yD) yD ((l.length:Int),(20:Int),(0:Int),(20:Int),u,l)=some ((l.length:Int),(20:Int),(20:Int),u,Xu Zco l):=by
   refine Zt 1 (λk:Nat=>if k=0 then((l.length:Int),(20:Int),(0:Int),(20:Int),u,l) else((l.length:Int),(20:Int),(20:Int),(40:Int),u,Xu Zco l)) ?_ ?_ (by omega)
   ·intro k hk;have:k=0:=by omega
    subst this;rw[yW rfl,yX (by omega)];unfold Y5;dsimp only;rw[h20] at r1;rw[yW (yY (by omega))];rw[show((20:Nat):Int)=20 from rfl] at r1
    rw[r1,ya];dsimp only;rw[yW (by simp[hrl])];rfl
   ·rw[yX (by omega)];unfold Y5;dsimp only;rw[yX (ynd (by omega))]
  rw[e,ya];dsimp only;rw[ZHE u _ (by omega) (by omega) (by omega),ya];dsimp only;rw[fin,ya,ya]
 ·have e:Zb (Y5 yD) yD ((l.length:Int),(20:Int),(0:Int),(20:Int),u,l)=some ((l.length:Int),(20:Int),(0:Int),u,l):=by
   refine Zt 0 (λk:Nat=>((l.length:Int),(20:Int),(0:Int),(20:Int),u,l)) (λk hk=>by omega) ?_ (by omega);unfold Y5;dsimp only;rw[yX (ynd (by omega))]
  rw[e,ya];dsimp only;rw[r1,ya];dsimp only;rw[fin,ya,ya]
theorem ZOO(a b:Zc){x y:yL yB}(hx:x.length=32)(hy:y.length=32):∃r,Zb (YT yD) yD ((0:Int),a,b,x,y)=some r/\(r=.inl (X6 (bm x) (bm y),a,b,x,y)/\x≠y\/r=.inr (a,b,x,y)/\x=y):=by
 refine Ws (step:=YT yD) 32 (λk s=>s=((k:Int),a,b,x,y)/\x.take k=y.take k) _ (i:=((0:Int),a,b,x,y)) ⟨rfl,rfl⟩ (by omega) ?_ ?_
 ·rintro k _ hk ⟨rfl,ht⟩;obtain⟨c,hc,_⟩:=Zg (l:=x) (k:=k) (by omega);obtain⟨d,hd,_⟩:=Zg (l:=y) (k:=k) (by omega);unfold YT;dsimp only;rw[yW (yY (by omega)),yW (ZJ (by omega) (by omega)),yau,hc,ya,yW (ZJ (by omega) (by omega)),hd,ya];by_cases h:c=d
  ·left;rw[yX (by rw[yE];exact λq=>q h),Zo (by omega)];exact⟨_,rfl,rfl,by rw[Qa hc,Qa hd,ht,h]⟩
  ·right;rw[yW (bne_iff_ne.2 h),yW (ZJ (by omega) (by omega)),ya,yW (ZJ (by omega) (by omega)),ya]
   have hne:x≠y:=λq=>by
    rw[q,hd] at hc;cases hc;exact h rfl
   have ex:bm x=bm (x.take k)++((c.toNat:Int)::bm (x.drop (k+1))):=by
    have q:=congrArg bm (ybm k x);rw[ZuH hc] at q;rw[<-q];simp[bm]
   have ey:bm y=bm (x.take k)++((d.toNat:Int)::bm (y.drop (k+1))):=by
    have q:=congrArg bm (ybm k y);rw[ZuH hd, <-ht] at q;rw[<-q];simp[bm]
   have hcd:c.toNat≠d.toNat:=λq=>h (UInt8.toNat_inj.1 q)
   have hl:decide (c < d)=X6 (bm x) (bm y):=by
    rw[ex,ey];apply yck.2;rw[Zze rfl,Qu,yN,UInt8.lt_iff_toNat_lt,Zjj];constructor
    ·exact λq=>.inr ⟨rfl,.inl (by omega)⟩
    ·rintro(q|⟨_,q|q⟩)
     ·cases q
     ·omega
     ·exact absurd q.1 (by omega)
   rw[hl];exact⟨_,rfl,.inl ⟨rfl,hne⟩⟩
 ·rintro _ ⟨rfl,ht⟩;unfold YT;dsimp only;rw[yX (ynd (by omega))];refine⟨_,rfl,.inr ⟨rfl, ?_⟩⟩
  rwa [ycm (by omega),ycm (by omega)] at ht
theorem ZQX{a b:Zc}(ha:LockWf a.1.2)(hb:LockWf b.1.2):Qc yD a b=some (X6 (Wo a) (Wo b)):=by
 have key:∀{c:Bool},(c=true↔X6 (Wo a) (Wo b)=true)->some c=some (X6 (Wo a) (Wo b)):=λh=>congrArg some (yck.2 h);have k:=ZM5 (a:=a.1.1) (a':=b.1.1) (d:=a.2.1) (d':=b.2.1) (f:=a.2.2.1) (f':=b.2.2.1) (i:=a.2.2.2.1) (i':=b.2.2.2.1) (u:=bm (Zwf a.1.2)) (v:=bm (Zwf b.1.2)) (by rw[ZDG,ZDG,Zk4,Zk4]);unfold Qc;by_cases h1:a.1.1=b.1.1
 ·rw[yX (by rw[yE];exact λq=>q h1),ZFV ha,ZFV hb,ya,ya];obtain⟨r,r1,r2⟩:=ZOO a b (Zk4 a.1.2) (Zk4 b.1.2);rw[r1,ya];rcases r2 with⟨rfl,hne⟩|⟨rfl,he⟩
  ·refine key ?_;unfold Wo;rw[k];constructor
   ·exact λq=>.inr ⟨h1,.inl q⟩
   ·rintro(q|⟨_,q|q⟩)
    ·omega
    ·exact q
    ·exact absurd (ZM3 q.1) hne
  ·dsimp only;have hir:¬(X6 (bm (Zwf b.1.2)) (bm (Zwf b.1.2))=true):=by rw[Zjj];decide
   have k2:X6 (Wo a) (Wo b)=true↔(a.2.1 < b.2.1\/a.2.1=b.2.1/\(a.2.2.1 < b.2.2.1\/a.2.2.1=b.2.2.1/\a.2.2.2.1 < b.2.2.2.1)):=by
    unfold Wo;rw[k,he];constructor
    ·rintro(q|⟨_,q|q⟩)
     ·omega
     ·exact absurd q hir
     ·exact q.2
    ·exact λq=>.inr ⟨h1,.inr ⟨rfl,q⟩⟩
   by_cases h2:a.2.1=b.2.1
   ·rw[yX (by rw[yE];exact λq=>q h2)];by_cases h3:a.2.2.1 < b.2.2.1
    ·rw[yW (yY h3)];exact key (by rw[k2];exact⟨λ_=>.inr ⟨h2,.inl h3⟩,λ_=>rfl⟩)
    ·rw[yX (by rw[yN];exact h3)];by_cases h4:a.2.2.1=b.2.2.1
     ·rw[yW (beq_iff_eq.2 h4)];refine key ?_;rw[k2,yN];constructor
      ·exact λq=>.inr ⟨h2,.inr ⟨h4,q⟩⟩
      ·rintro(q|⟨_,q|q⟩)
       ·omega
       ·omega
       ·exact q.2
     ·rw[yX (by rw[yT];exact h4)];refine key ?_;rw[k2];constructor
      ·intro q;cases q
      ·rintro(q|⟨_,q|q⟩)
       ·omega
       ·omega
       ·exact absurd q.1 h4
   ·rw[yW (bne_iff_ne.2 h2)];refine key ?_;rw[k2,yN];constructor
    ·exact λq=>.inl q
    ·rintro(q|q)
     ·exact q
     ·exact absurd q.1 h2
 ·rw[yW (bne_iff_ne.2 h1)];refine key ?_;unfold Wo;rw[k,yN];constructor
  ·exact λq=>.inl q
  ·rintro(q|q)
   ·exact q
   ·exact absurd q.1 h1
theorem ZM8{α:Type}{key:α->yL Int}{x:α}:∀(l:yL α)(k:Nat),k<=l.length->(∀j e,j < k->l[j]? =some e->X6 (key x) (key e)=false)->(∀e,l[k]? =some e->X6 (key x) (key e)=true)->QX key x l=l.take k++([x]++l.drop k)
 |[],k,h,_,_=>by
  have:k=0:=by simpa using h
  subst this
  rfl
 |e::r,0,_,_,h2=>by
  have:=h2 e rfl
  simp[QX,this]
 |e::r,k+1,h,h1,h2=>by
  have he:=h1 0 e (by omega) rfl;have ih:=ZM8 r k (by simpa using h) (λj a hj ha=>h1 (j+1) a (by omega) ha) (λa ha=>h2 a ha);simp only[QX,he,ih];rfl
theorem Zzf{l:yL Zc}{m:Zc}(hl:l.length<=100)(hm:LockWf m.1.2)(hw:∀e,e∈l->LockWf e.1.2):Zh yD l m=some (QX Wo m l):=by
 unfold Zh
 obtain⟨r,r1,k,rfl,hk,h1,h2⟩:=Ws (step:=Wd yD) l.length (λk s=>s=(l,(k:Int),m)/\∀j e,j < k->l[j]? =some e->X6 (Wo m) (Wo e)=false) (λx=>∃k:Nat,x=(l,(k:Int),m)/\k<=l.length/\(∀j e,j < k->l[j]? =some e->X6 (Wo m) (Wo e)=false)/\∀e,l[k]? =some e->X6 (Wo m) (Wo e)=true) (i:=(l,(0:Int),m)) ⟨rfl,λj e hj=>by omega⟩ (by omega) (by
  rintro k _ hk ⟨rfl,hj⟩;obtain⟨e,he,hem⟩:=Zg hk;unfold Wd;dsimp only;rw[yW (ZF hk),Zp he,ya,ZQX hm (hw e hem),ya]
  cases q:X6 (Wo m) (Wo e) with
  |false=>
   left;rw[yW (by decide),Zo (by omega)];refine⟨_,rfl,rfl,λj a h3 h4=> ?_⟩;by_cases h5:j < k
   ·exact hj j a h5 h4
   ·have:j=k:=by omega
    subst this;rw[he] at h4;cases h4
    exact q
  |true=>
   right;rw[yX (by decide)];refine⟨_,rfl,k,rfl,by omega,hj,λa ha=> ?_⟩;rw[he] at ha;cases ha;exact q) (by
  rintro _ ⟨rfl,hj⟩;unfold Wd;dsimp only;rw[yX (by rw[Zz];decide)];exact⟨_,rfl,l.length,rfl,by omega,hj,λe he=>by rw[yaq (by omega)] at he;cases he⟩)
 rw[r1,ya];dsimp only;have c1:Zbp l.length (some (k:Int)) none=true:=by simp[Zbp];omega
 have c2:Zbp l.length none (some (k:Int))=true:=by simp[Zbp];omega
 have hd:(l.drop k).length<=100:=by rw[List.length_drop];omega
 have ht:(l.take k).length<=100:=by rw[yai];omega
 have hd2:([m]++l.drop k).length<=101:=by rw[yo];simp only[yaj,List.length_nil];omega
 rw[yau,yW c1,yW (ZT (by omega) (by omega)),yW c2,yW (ZT (by omega) (by omega)),yW (ZT (by omega) (by omega)),ZM8 l k hk h1 h2]
def Zes(t:Terms)(l:yL Cond):yL Cond:=l.filter λc=>decide (c.2.2.1 >= t.1)
theorem Ztq(t:Terms)(l:yL Cond):(Zes t l).length<=l.length:=List.length_filter_le _ _
theorem ZIZ{t:Terms}{l:yL Cond}{k:Nat}{c:Cond}(h:l[k]? =some c):Zes t (l.take (k+1))=Zes t (l.take k)++(if c.2.2.1 >= t.1 then[c] else[]):=by
 rw[Qa h];unfold Zes;rw[List.filter_append];congr 1;by_cases q:c.2.2.1 >= t.1
 ·rw[yW q];simp[q]
 ·rw[yX q];simp;omega
theorem Ztr{ch:Chan}{own:Int}(ho:own=0\/own=1){t:Terms}(ht:ch.2.2.2.1[own.toNat]? =some t){s:yG}(hl:s.2.2.1.length<=20):W6 yD ch s own=some (Zes t s.2.2.1)/\ZB yD ch s own=some (Zes t s.2.2.1):=by
 have hb:inB own 2=true:=ZJ (by omega) (by omega);have hk2:∀k,(Zes t (s.2.2.1.take k)).length<=20:=λk=>by have:=Ztq t (s.2.2.1.take k);rw[yai] at this;omega
 constructor
 ·unfold W6
  have e:=Zt (step:=W9 yD) s.2.2.1.length (λk:Nat=>(own,s.2.2.1,(s.2.2.1.length:Int),(k:Int),ch,s,Zes t (s.2.2.1.take k))) (x:=(ch,s,Zes t s.2.2.1)) (by
   intro k hk;obtain⟨c,hc,_⟩:=Zg hk;have:=hk2 k;unfold W9 QF;dsimp only;rw[yW (ZF hk),Zp hc,ya,yW hb,ht,ya,ya,Zo (by omega),ZIZ hc];by_cases q:c.2.2.1 >= t.1
   ·rw[yW (yY q),yW (ZT (by omega) (by omega)),yW q]
   ·rw[yX (by rw[yN];exact q),yX q,yaz]) (by
   unfold W9;dsimp only;rw[yX (by rw[Zz];decide),yao]) (by omega)
  have e:Zb (W9 yD) yD (own,s.2.2.1,(s.2.2.1.length:Int),(0:Int),ch,s,([]:yL Cond))=_:=e;rw[e,ya]
 ·unfold ZB
  have e:=Zt (step:=YQ yD) s.2.2.1.length (λk:Nat=>(own,(k:Int),ch,s,Zes t (s.2.2.1.take k))) (x:=(ch,s,Zes t s.2.2.1)) (by
   intro k hk;obtain⟨c,hc,_⟩:=Zg hk;have:=hk2 k;unfold YQ Ys;dsimp only;rw[yW (ZF hk),yW hb,ht,ya,Zp hc,ya,ya,Zo (by omega),ZIZ hc];by_cases q:c.2.2.1 >= t.1
   ·rw[yW (yY q),ya,yW (ZT (by omega) (by omega)),yW q]
   ·rw[yX (by rw[yN];exact q),yX q,yaz]) (by
   unfold YQ;dsimp only;rw[yX (by rw[Zz];decide),yao]) (by omega)
  have e:Zb (YQ yD) yD (own,(0:Int),ch,s,([]:yL Cond))=_:=e;rw[e,ya]
def Zzg(op:Int)(s:yG)(of h:Int)(n:Nat):Int:=if of=op then h - (feeF s.2.2.2 (n:Int)+660) else h
theorem ZI0{r n:Int}:0<=feeF r n/\feeF r n<=196000:=by
 unfold feeF;by_cases h1:0<=r/\r<=1000
 ·rw[yW h1];by_cases h2:0<=n/\n<=16
  ·rw[yW h2];have:=Int.mul_nonneg h1.1 (show 0<=68+8*n by omega);have:=Int.mul_le_mul h1.2 (show 68+8*n<=196 by omega) (by omega) (by omega);omega
  ·rw[yX h2];omega
 ·rw[yX h1];omega
theorem ZDH{ch:Chan}{own of:Int}(ho:own=0\/own=1)(hf:of=0\/of=1){t:Terms}(ht:ch.2.2.2.1[own.toNat]? =some t){s:yG}(hl:s.2.2.1.length<=20){h:Int}(hh:s.2.1[of.toNat]? =some h)(h0:0<=h)(h1:h<=1125899906842624):
 QG yD ch s own of=some (Zzg ch.2.2.2.2 s of h (Zes t s.2.2.1).length):=by
 have hb:inB of 2=true:=ZJ (by omega) (by omega);have hq:=ZI0 (r:=s.2.2.2) (n:=((Zes t s.2.2.1).length:Int));unfold QG Zzg;rw[yW hb,hh,ya];by_cases e:of=ch.2.2.2.2
 ·rw[yW (beq_iff_eq.2 e),(Ztr ho ht hl).1,ya,ZMW,ya,yW e,ZU (z:=feeF s.2.2.2 ((Zes t s.2.2.1).length:Int)+660) (by omega) (by omega),ZU (by omega) (by omega)]
 ·rw[yX (by rw[yT];exact e),yX e]
theorem Zzh{ch:Chan}{own of:Int}(ho:own=0\/own=1)(hf:of=0\/of=1){t:Terms}(ht:ch.2.2.2.1[own.toNat]? =some t){s:yG}(hr:Z5 yD ch s=some true)(hl:s.2.2.1.length<=20){h:Int}(hh:s.2.1[of.toNat]? =some h)(h0:0<=h)(h1:h<=1125899906842624):
 ZW yD ch s own of=some (Zzg ch.2.2.2.2 s of h (Zes t s.2.2.1).length):=by
 have hb:inB of 2=true:=ZJ (by omega) (by omega);have hq:=ZI0 (r:=s.2.2.2) (n:=((Zes t s.2.2.1).length:Int))
 have key:(if(of !=ch.2.2.2.2)=true then if inB of 2=true then(s.2.1[of.toNat]?).bind λe=>some e else none else if inB of 2=true then(s.2.1[of.toNat]?).bind λe=>(ZB yD ch s own).bind λo=>(Yu yD s.2.2.2 (o.length:Int)).bind λo2=>some (wi ((wi (e - o2)) - 660)) else none)=some (Zzg ch.2.2.2.2 s of h (Zes t s.2.2.1).length):=by
  unfold Zzg;rw[yW hb,yW hb,hh,ya,ya];by_cases e:of=ch.2.2.2.2
  ·rw[yX (by rw[yE];exact λq=>q e),(Ztr ho ht hl).2,ya,ZIU,ya,yW e,ZU (z:=h - feeF s.2.2.2 ((Zes t s.2.2.1).length:Int)) (by omega) (by omega),ZU (by omega) (by omega)];exact congrArg some (by omega)
  ·rw[yW (bne_iff_ne.2 e),yX e]
 unfold ZW;rw[hr,ya,yX (show¬(!true)=true by decide)];rcases ho with rfl|rfl
 ·rw[yX (show¬(((0:Int)!=0)=true) by decide)];rcases hf with rfl|rfl
  ·rw[yX (show¬(((0:Int)!=0)=true) by decide)];exact key
  ·rw[yW (show((1:Int)!=0)=true by decide),yX (show¬(((1:Int)!=1)=true) by decide)];exact key
 ·rw[yW (show((1:Int)!=0)=true by decide),yX (show¬(((1:Int)!=1)=true) by decide)];rcases hf with rfl|rfl
  ·rw[yX (show¬(((0:Int)!=0)=true) by decide)];exact key
  ·rw[yW (show((1:Int)!=0)=true by decide),yX (show¬(((1:Int)!=1)=true) by decide)];exact key
noncomputable def mkC(n:Int)(lk:ZR)(ro:V1):Zk:=((n,lk),ro,Zwf lk)
def stp(x:Zk):Zc:=(x.1,x.2.1)
theorem Za8{n:Int}{lk:ZR}(h:LockWf lk)(ro:V1)(u:yL Unit){acc:yL Zk}(hl:acc.length<=100):ZY yD n lk ro u acc=some (()::u,acc++[mkC n lk ro]):=by
 unfold ZY;rw[ZOM h,ya,yW (ZT (by omega) (by omega))];rfl
def zcd:Cond:=(0,0,0,0,0)
def V2(rev late:yU)(d:Int):ZR:=[([rev],0,0,0),([late],0,d,0)]
def Za9(p:yU):ZR:=[([p],0,0,0)]
def Vm(p:yU):ZR:=[([p],0,0,0),([],0,16,0)]
def Zqt(own w:Int)(rev ow pe:yU)(c:Cond):ZR:=if c.1=own then[([rev],0,0,0),([pe],0,0,c.2.2.2.1),([ow],c.2.2.2.2,w,0)] else[([rev],0,0,0),([ow],0,w,c.2.2.2.1),([pe],c.2.2.2.2,0,0)]
theorem ZDI(a b:yU)(d:Int):LockWf (V2 a b d):=⟨by simp[V2],λb hb=>by simp[V2] at hb;rcases hb with rfl|rfl <;> simp⟩
theorem ZwA(a:yU):LockWf (Za9 a):=⟨by simp[Za9],λb hb=>by simp[Za9] at hb;rw[hb];simp⟩
theorem ZbI(a:yU):LockWf (Vm a):=⟨by simp[Vm],λb hb=>by simp[Vm] at hb;rcases hb with rfl|rfl <;> simp⟩
theorem ZwB(own w:Int)(rev ow pe:yU)(c:Cond):LockWf (Zqt own w rev ow pe c):=by
 unfold Zqt;split
 ·exact⟨by simp,λb hb=>by simp at hb;rcases hb with rfl|rfl|rfl <;> simp⟩
 ·exact⟨by simp,λb hb=>by simp at hb;rcases hb with rfl|rfl|rfl <;> simp⟩
noncomputable def Zj6(own w:Int)(rev ow pe:yU)(c:Cond):Zk:=mkC c.2.2.1 (Zqt own w rev ow pe c) ((if c.1=own then 5 else 6),c)
def ZDJ(ch:Chan)(s:yG)(own:Int)(l:yL Zc):Commit:=(([(ch.1,(0,[],0))],l.map (·.1),wi (wi (2*s.1)+own)),l.map (·.2))
theorem ZM9{own w:Int}{rev ow pe:yU}{l:yL Cond}(hl:l.length<=16)(ch:Chan)(s:yG){acc:yL Zk}(hb:acc.length<=4)(ha:∀e,e∈acc->e.2.2.length=32)(u:yL Unit):
 ((Zb (Xp yD) yD (own,w,rev,ow,pe,l,(l.length:Int),(0:Int),ch,s,((([]:yL In),([]:yL Out),(0:Int)),([]:yL V1)),u,acc)).bind λo723=>
      (VJ yD o723.2.2.2.2.1 o723.2.2.2.2.2).bind λo724=>
      if(decide (o723.2.2.2.2.1.length=o724.1.length)&&(decide (40=40)&&decide ((List.replicate o723.2.2.2.2.2.length ()).length=o724.2.length)))=true then
       (Zb (X4 yD) yD ((o724.2.length:Int),(0:Int),o723.2.1,o723.2.2.1,o723.2.2.2.1,o724.1,o724.2,([(o723.2.1.1,(0,[],0))]:yL In),wi ((wi (2*o723.2.2.1.1))+o723.1),([]:yL V1),([]:yL Out))).bind λo725=>
       some (((o725.2.2.2.2.2.1,o725.2.2.2.2.2.2.2.2,o725.2.2.2.2.2.2.1),o725.2.2.2.2.2.2.2.1),(0:Int))
      else
      none)=some (ZDJ ch s own ((Xu Zco (acc++l.map (Zj6 own w rev ow pe))).map stp),0):=by
 obtain⟨x,g1,u1,rfl⟩:=Ws (step:=Xp yD) l.length (λk q=>∃u1,q=(own,w,rev,ow,pe,l,(l.length:Int),(k:Int),ch,s,((([]:yL In),([]:yL Out),(0:Int)),([]:yL V1)),u1,acc++(l.take k).map (Zj6 own w rev ow pe)))
  (λx=>∃u1,x=(own,ch,s,((([]:yL In),([]:yL Out),(0:Int)),([]:yL V1)),u1,acc++l.map (Zj6 own w rev ow pe))) (i:=(own,w,rev,ow,pe,l,(l.length:Int),(0:Int),ch,s,((([]:yL In),([]:yL Out),(0:Int)),([]:yL V1)),u,acc)) ⟨u,by simp⟩ (by omega) (by
  rintro k _ hk ⟨u1,rfl⟩;left;obtain⟨e,he,hm⟩:=Zg hk
  have hal:(acc++(l.take k).map (Zj6 own w rev ow pe)).length<=100:=by
   rw[yo,yy,yai];omega
  have hlk:=ZwB own w rev ow pe e;unfold Xp;dsimp only;rw[yW (ZF hk),Zp he,ya,Zo (by omega),Qa he,yas];by_cases hf:e.1=own
  ·have e1:Zqt own w rev ow pe e=[([rev],0,0,0),([pe],0,0,e.2.2.2.1),([ow],e.2.2.2.2,w,0)]:=by unfold Zqt;rw[yW hf]
   have e2:Zj6 own w rev ow pe e=mkC e.2.2.1 (Zqt own w rev ow pe e) (5,e):=by unfold Zj6;rw[yW hf]
   rw[e1] at hlk e2;rw[yW (by rw[hf];exact beq_self_eq_true _),Za8 hlk ((5:Int),e) u1 hal,ya,yag,List.map_nil,e2,yad];exact⟨_,rfl,_,rfl⟩
  ·have e1:Zqt own w rev ow pe e=[([rev],0,0,0),([ow],0,w,e.2.2.2.1),([pe],e.2.2.2.2,0,0)]:=by unfold Zqt;rw[yX hf]
   have e2:Zj6 own w rev ow pe e=mkC e.2.2.1 (Zqt own w rev ow pe e) (6,e):=by unfold Zj6;rw[yX hf]
   rw[e1] at hlk e2;rw[yX (by rw[yT];exact hf),Za8 hlk ((6:Int),e) u1 hal,ya,yag,List.map_nil,e2,yad];exact⟨_,rfl,_,rfl⟩) (by
  rintro _ ⟨u1,rfl⟩;unfold Xp;dsimp only;rw[yX (by rw[Zz];decide),yao];exact⟨_,rfl,_,rfl⟩)
 rw[g1,ya];unfold ZDJ;dsimp only;generalize ha1:acc++l.map (Zj6 own w rev ow pe)=a1
 have hal:a1.length<=20:=by
  rw[<-ha1,yo,yy];omega
 have hkk:∀e,e∈a1->e.2.2.length=32:=by
  intro e he;rw[<-ha1] at he;rcases yah.1 he with h|h
  ·exact ha e h
  ·obtain⟨c,_,rfl⟩:=List.mem_map.1 h;exact Zk4 _
 have hrl:=Zix (key:=Zco) a1;rw[ZM7 u1 hal hkk,ya];dsimp only;rw[yW (by simp[hrl])];generalize Xu Zco a1=r at hrl;generalize wi (wi (2*s.1)+own)=nt;generalize hz:((([]:yL In),([]:yL Out),(0:Int)),([]:yL V1))=z
 rw[show((r.length:Int),(0:Int),ch,s,z,u1,r,([(ch.1,(0,[],0))]:yL In),nt,([]:yL V1),([]:yL Out))=(λk:Nat=>((r.length:Int),(k:Int),ch,s,z,u1,r,([(ch.1,(0,[],0))]:yL In),nt,(r.take k).map (λx:Zk=>x.2.1),(r.take k).map (λx:Zk=>x.1))) 0 from rfl,
  Zt (x:=(ch,s,z,u1,r,([(ch.1,(0,[],0))]:yL In),nt,r.map (λx:Zk=>x.2.1),r.map (λx:Zk=>x.1))) r.length (λk:Nat=>((r.length:Int),(k:Int),ch,s,z,u1,r,([(ch.1,(0,[],0))]:yL In),nt,(r.take k).map (λx:Zk=>x.2.1),(r.take k).map (λx:Zk=>x.1))) ?_ ?_ (by omega),ya]
 ·rw[List.map_map,List.map_map];rfl
 ·intro k hk;obtain⟨e,he,hm⟩:=Zg hk;unfold X4;dsimp only;rw[yW (ZF hk),yW (ZJ (by omega) (by omega)),yau,he,ya,Zo (by omega),Qa he,yW (ZT (by simp;omega) (by simp;omega)),yW (ZT (by simp;omega) (by simp;omega)),yas,yas];rfl
 ·unfold X4;dsimp only;rw[yX (by rw[Zz];decide),yao]
theorem ZOP(p:yU):Zkv yD p=some (Za9 p):=by
 unfold Zkv Zku ZX;rw[yW (ZT (by simp) (by simp)),ya,ya];rfl
noncomputable def itm(own:Int)(per:yU)(bo bp:Basics)(to tp:Terms)(a b:Int)(l:yL Cond):yL Zk:=
 ((if a >= to.1 then[mkC a (V2 (WC bp.2.2.2.2 per) (Y2 bo.2.2.1 per) tp.2.2.1) (1,zcd)] else[])++(if b >= to.1 then[mkC b (Za9 bp.2.1) (2,zcd)] else[])++[mkC 330 (Vm bo.1) (3,zcd),mkC 330 (Vm bp.1) (4,zcd)])++l.map (Zj6 own tp.2.2.1 (WC bp.2.2.2.2 per) (Y2 bo.2.2.2.1 per) (Y2 bp.2.2.2.1 per))
structure Sd(ch:Chan)(s:yG)(own:Int)(bo bp:Basics)(to tp:Terms)(hO hP:Int):Prop where
 o:own=0\/own=1
 bO:ch.2.2.1[own.toNat]? =some bo
 bP:ch.2.2.1[(1 - own).toNat]? =some bp
 tO:ch.2.2.2.1[own.toNat]? =some to
 tP:ch.2.2.2.1[(1 - own).toNat]? =some tp
 vO:s.2.1[own.toNat]? =some hO
 vP:s.2.1[(1 - own).toNat]? =some hP
 o0:0<=hO
 o1:hO<=1125899906842624
 p0:0<=hP
 p1:hP<=1125899906842624
theorem Sd.all{ch:Chan}{s:yG}(w:ChWf ch)(r:StR ch s){own:Int}(ho:own=0\/own=1):∃bo bp to tp hO hP,Sd ch s own bo bp to tp hO hP:=by
 obtain⟨b0,b1,hb⟩:=ZpK w.b;obtain⟨t0,t1,ht⟩:=ZpK w.t;obtain⟨a,b,hs,h1,h2,_⟩:=r.have_;rcases ho with rfl|rfl
 ·exact⟨b0,b1,t0,t1,a,b,.inl rfl,by rw[hb];rfl,by rw[hb];rfl,by rw[ht];rfl,by rw[ht];rfl,by rw[hs];rfl,by rw[hs];rfl,h1.1,h1.2,h2.1,h2.2⟩
 ·exact⟨b1,b0,t1,t0,b,a,.inr rfl,by rw[hb];rfl,by rw[hb];rfl,by rw[ht];rfl,by rw[ht];rfl,by rw[hs];rfl,by rw[hs];rfl,h2.1,h2.2,h1.1,h1.2⟩
noncomputable def Zzi(ch:Chan)(s:yG)(own:Int)(per:yU)(bo bp:Basics)(to tp:Terms)(hO hP:Int):yL Zk:=
 itm own per bo bp to tp (Zzg ch.2.2.2.2 s own hO (Zes to s.2.2.1).length) (Zzg ch.2.2.2.2 s (1 - own) hP (Zes to s.2.2.1).length) (Zes to s.2.2.1)
theorem ZNa{ch:Chan}{s:yG}{own:Int}{per:yU}(hr:ZaZ yD ch s=some true)(r:StR ch s)(hp:QA per.toNat){bo bp:Basics}{to tp:Terms}{hO hP:Int}(d:Sd ch s own bo bp to tp hO hP):
 WS yD ch s own per=some (ZDJ ch s own ((Xu Zco (Zzi ch s own per bo bp to tp hO hP)).map stp),0):=by
 have hown:=d.o
 have hside:VG yD own=some true:=by
  unfold VG;rcases hown with rfl|rfl <;> rfl
 have hpeer:wi (1 - own)=1 - own:=ZU (by omega) (by omega);have q1:inB (1 - own) 2=true:=ZJ (by omega) (by omega);have q2:inB own 2=true:=ZJ (by omega) (by omega);have hl20:s.2.2.1.length<=20:=by have:=r.len;omega
 have hrO:=ZDH hown hown d.tO hl20 d.vO d.o0 d.o1;have hrP:=ZDH hown (of:=1 - own) (by omega) d.tO hl20 d.vP d.p0 d.p1;have hsh:=(Ztr hown d.tO hl20).1;unfold Zzi;generalize Zzg ch.2.2.2.2 s own hO (Zes to s.2.2.1).length=a at*;generalize Zzg ch.2.2.2.2 s (1 - own) hP (Zes to s.2.2.1).length=b at*;have hl16:(Zes to s.2.2.1).length<=16:=ybl (Ztq _ _) r.len;have tl:=λ{acc:yL Zk}(hb:acc.length<=4)(ha:∀e,e∈acc->e.2.2.length=32)(u:yL Unit)=>ZM9 (own:=own) (w:=tp.2.2.1) (rev:=WC bp.2.2.2.2 per) (ow:=Y2 bo.2.2.2.1 per) (pe:=Y2 bp.2.2.2.1 per) hl16 ch s hb ha u;have s1:∀z:Int,QF yD to z=some (decide (z >= to.1)):=λz=>rfl;have lateIs:∀x y:yU,Zrv yD x y tp.2.2.1=some (V2 y x tp.2.2.1):=λ_ _=>rfl;have ancIs:∀x:yU,Wq yD x=some (Vm x):=λ_=>rfl;have lens:∀(n:Int)(lk:ZR)(ro:V1),(mkC n lk ro).2.2.length=32:=λn lk ro=>Zk4 lk;unfold WS itm;rw[hside,ya,yX (show¬(!true)=true by decide),Zit,ya,yY hp,yX (show¬(!true)=true by decide),hr,ya,yX (show¬(!true)=true by decide)];rw[show((0:Int),(0:Int),(0:Int),(0:yU),(0:Int))=zcd from rfl]
 simp only[hpeer,q1,q2,if_true,d.bO,d.bP,d.tO,d.tP,ya,ZKe,ZQV,hrO,hrP,s1,lateIs,ancIs,ZOP,hsh];have lt:=λx y=>ZDI x y tp.2.2.1;by_cases ha:a >= to.1
 ·rw[yW (yY ha),yW ha];simp only[Za8 (lt _ _) ((1:Int),zcd) [] (acc:=[]) (by simp),ya];by_cases hb:b >= to.1
  ·rw[yW (yY hb),yW hb];rw[Za8 (ZwA _) _ _ (by simp),ya];dsimp only;rw[Za8 (ZbI _) _ _ (by simp),ya];dsimp only;rw[Za8 (ZbI _) _ _ (by simp),ya];dsimp only;refine Eq.trans (tl ?_ ?_ _) ?_
   ·simp
   ·intro e he;simp only[yah,yae,yap,or_false,false_or] at he;rcases he with((rfl|rfl)|rfl)|rfl <;> exact lens _ _ _
   ·simp
  ·rw[yX (by rw[yN];exact hb),yX hb];rw[Za8 (ZbI _) _ _ (by simp),ya];dsimp only;rw[Za8 (ZbI _) _ _ (by simp),ya];dsimp only;refine Eq.trans (tl ?_ ?_ _) ?_
   ·simp
   ·intro e he;simp only[yah,yae,yap,or_false,false_or] at he;rcases he with(rfl|rfl)|rfl <;> exact lens _ _ _
   ·simp
 ·rw[yX (by rw[yN];exact ha),yX ha];by_cases hb:b >= to.1
  ·rw[yW (yY hb),yW hb];rw[Za8 (ZwA _) _ _ (by simp),ya];dsimp only;rw[Za8 (ZbI _) _ _ (by simp),ya];dsimp only;rw[Za8 (ZbI _) _ _ (by simp),ya];dsimp only;refine Eq.trans (tl ?_ ?_ _) ?_
   ·simp
   ·intro e he;simp only[yah,yae,yap,or_false,false_or] at he;rcases he with(rfl|rfl)|rfl <;> exact lens _ _ _
   ·simp
  ·rw[yX (by rw[yN];exact hb),yX hb];rw[Za8 (ZbI _) _ _ (by simp),ya];dsimp only;rw[Za8 (ZbI _) _ _ (by simp),ya];dsimp only;refine Eq.trans (tl ?_ ?_ _) ?_
   ·simp
   ·intro e he;simp only[yah,yae,yap,or_false,false_or] at he;rcases he with rfl|rfl <;> exact lens _ _ _
   ·simp
end Go.Proofs.YtdhclndplbopgaaGreat
end
