/- Parts of the proof, in one file. -/
import Derived.Test.YtjbbdlffilcaaaaGreatKf
open Go.Proofs.Tryz renaming prog → yb
open Int renaming toNat_natCast → yba
open List renaming length_append → yj, getElem?_eq_some_iff → yl, length_map → yp, getElem?_eq_getElem → yw, append_assoc → yz, length_cons → yad, mem_singleton → yae, map_append → yaf, length_take → yag, mem_cons_self → yak, mem_cons_of_mem → yal, take_length → yau, mem_cons → yax, not_mem_nil → ybs, length → ybx, mem_append → yck
open Nat renaming mod_eq_of_lt → yac, mod_lt → yaq
open Option renaming bind_some → ya, bind → yao
open UInt64 renaming ofNat → yv, toNat_ofNat' → yav, toNat_lt → ybo, lt_iff_toNat_lt → yby, le_iff_toNat_le → ycp
open UInt8 renaming ofNat → yaz
set_option linter.unusedVariables false
set_option linter.unusedSimpArgs false
section
set_option maxRecDepth 4000
namespace Go.Proofs.YtjbbdlffilcaaaaGreat
open Go Go.Ev
noncomputable section
def Yx (F:Nat) (s:(UInt64×Int×Int×(List UInt8))):Option ((UInt64×Int×Int×(List UInt8))⊕(List UInt8)):=
 if (decide (s.2.2.1 < s.2.1))=true then
  if (decide (0≤wi (56 - (wi (8*s.2.2.1)))))=true then
   let y772:UInt64:=ZA s.1 (min (wi (56 - (wi (8*s.2.2.1)))).toNat 64)
   if (inB s.2.2.1 8)=true then
    (s.2.2.2[(0+s.2.2.1.toNat)]?).bind fun e773=>
    let y774:(List UInt8):=s.2.2.2.set (0+s.2.2.1.toNat) (w8 (y772.toNat:Int))
    some (.inl (s.1,s.2.1,wi (s.2.2.1+1),y774))
   else
   none
  else
  none
 else
 some (.inr s.2.2.2)
def ZmK:Lp:=⟨[(0,.v .u64),(3,.view 0 [] 1 0 8),(7,.v (.int .i64)),(8,.v (.int .i64))],[.var (.v (.arr 8 .u8)) true],[.u64,(.int .i64),(.int .i64),(.arr 8 .u8)],[⟨.exit 0,[(3,.view 0 [] 1 0 8)],[.var (.v (.arr 8 .u8)) true],[(.arr 8 .u8)]⟩],Zd (Yx fuel) fuel⟩
theorem ZpM:ZmK.Ok yb (Zp yb 136) (Zo yb 136 0):=Zk (fi:={ hi:={ still:=[2]},lp:=[]}) (specs:={ l:=[]}) (okS trivial) trivial (by kernel_rfl) (fun v=>by kernel_rfl)
def Ws (F:Nat) (a0:UInt64):Option ((List UInt8)):=
 (Zd (Yx F) F (a0,(8:Int),(0:Int),([0,0,0,0,0,0,0,0]:List UInt8))).bind fun o775=>
 some ((o775.drop 0).take 8)
def ZuM (F:Nat):Fs yb:=⟨136,[.v .u64],[],[.u64],[⟨.ret,[(0,.v (.sl .u8))],[],[(.sl .u8)]⟩],fun x=>Ws F x⟩
def ZiV:Fs yb:=ZuM fuel
theorem ZmL:ZiV.Ok:=Zg (fi:={ hi:={ still:=[2]},lp:=[(0,ZmK)]}) (specs:={ l:=[]}) (okS trivial) ⟨ZpM,trivial⟩ (by decide+kernel) (fun x=>by kernel_rfl)
def ZCl:ByteArray:=⟨#[115,105,103]⟩
def YX (F:Nat) (a0:UInt64) (a1:UInt64) (a2:(List UInt8)):Option (UInt64):=
 (Ws F a0).bind fun o776=>
 (Ws F a1).bind fun o777=>
 (Vp F ZCl ([o776,o777,a2]:List (List UInt8))).bind fun o778=>
 (Xd F o778).bind fun o779=>
 some o779
def ZoN (F:Nat):Fs yb:=⟨149,[.v .u64,.v .u64,.v (.arr 32 .u8)],[],[.u64,.u64,(.arr 32 .u8)],[⟨.ret,[(0,.v .u64)],[],[.u64]⟩],fun x=>YX F x.1 x.2.1 x.2.2⟩
def Zcq:Fs yb:=ZoN fuel
theorem ZgQ:Zcq.Ok:=Zg (fi:={ hi:={ still:=[6,7,9,12,13],frz:=[11]},lp:=[]}) (specs:={ l:=[ZiV,Zck,QY]}) (okS ⟨ZmL,Zdj,Zah,trivial⟩) trivial (by decide+kernel) (fun x=>by kernel_rfl)
def Zbz (F:Nat) (a0:UInt64) (a1:UInt64) (a2:(List UInt8)) (a3:UInt64):Option (Sig):=
 (Xb F a1).bind fun o780=>
 (Zcl F o780 a3).bind fun o781=>
 (Xb F a0).bind fun o782=>
 (YX F o781 o782 a2).bind fun o783=>
 (Vb F o783 a0).bind fun o784=>
 (WC F a1 o784).bind fun o785=>
 some (o781,o785)
def ZtM (F:Nat):Fs yb:=⟨135,[.v .u64,.v .u64,.v (.arr 32 .u8),.v .u64],[],[.u64,.u64,(.arr 32 .u8),.u64],[⟨.ret,[(0,.v Zbp)],[],[Zbp]⟩],fun x=>Zbz F x.1 x.2.1 x.2.2.1 x.2.2.2⟩
def ZmM:Fs yb:=ZtM fuel
theorem ZtN:ZmM.Ok:=Zg (fi:={ hi:={ still:=[9,10,11,14,16,17,18,19,20,21,22]},lp:=[]}) (specs:={ l:=[XT,ZgK,Zcq,Zla,Zdo]}) (okS ⟨XU,ZiR,ZgQ,ZoM,Zex,trivial⟩) trivial (by decide+kernel) (fun x=>by kernel_rfl)
def ZCm:ByteArray:=⟨#[110,111,110,99,101]⟩
def Y3 (F:Nat) (a0:UInt64) (a1:(List UInt8)):Option (Sig):=
 (ZaM F a0).bind fun o786=>
 if (!o786)=true then
  some ((0:UInt64),(0:UInt64))
 else
 (Ws F a0).bind fun o787=>
 (Vp F ZCm ([o787,a1]:List (List UInt8))).bind fun o788=>
 (Xd F o788).bind fun o789=>
 (Zbz F a0 o789 a1 (1:UInt64)).bind fun o790=>
 some o790
def Zxz (F:Nat):Fs yb:=⟨77,[.v .u64,.v (.arr 32 .u8)],[],[.u64,(.arr 32 .u8)],[⟨.ret,[(0,.v Zbp)],[],[Zbp]⟩],fun x=>Y3 F x.1 x.2⟩
def ZgR:Fs yb:=Zxz fuel
theorem ZiW:ZgR.Ok:=Zg (fi:={ hi:={ still:=[5,9,10,13,14,15,16],frz:=[12]},lp:=[]}) (specs:={ l:=[ZtL,ZiV,Zck,QY,ZmM]}) (okS ⟨ZzD,ZmL,Zdj,Zah,ZtN,trivial⟩) trivial (by decide+kernel) (fun x=>by kernel_rfl)
def ZbA (F:Nat) (a0:Kit) (a1:Tx):Option (Sig):=
 (QJ F a1).bind fun o791=>
 (Y3 F a0.1 o791).bind fun o792=>
 some o792
def Zf2 (F:Nat):Fs yb:=⟨20,[.v XE,.v yTx],[],[XE,yTx],[⟨.ret,[(0,.v Zbp)],[],[Zbp]⟩],fun x=>ZbA F x.1 x.2⟩
def ZmN:Fs yb:=Zf2 fuel
theorem Zlb:ZmN.Ok:=Zg (fi:={ hi:={ still:=[6,7,8]},lp:=[]}) (specs:={ l:=[ZlN,ZgR]}) (okS ⟨Zh5,ZiW,trivial⟩) trivial (by decide+kernel) (fun x=>by kernel_rfl)
def Zh7 (F:Nat) (a0:(List Sig)):Option ((List Sig)):=
 if (apB 0 a0.length 16)=true then
  some a0
 else
 none
def ZA9 (F:Nat):Fs yb:=⟨139,[.sl true Zbp],[],[(.sl Zbp)],[⟨.ret,[(0,.v (.sl Zbp))],[],[(.sl Zbp)]⟩],fun x=>Zh7 F x⟩
def ZDB:Fs yb:=ZA9 fuel
theorem ZBa:ZDB.Ok:=Zg (fi:={ hi:={ own:=[5,7],still:=[2]},lp:=[]}) (specs:={ l:=[]}) (okS trivial) trivial (by decide+kernel) (fun x=>by kernel_rfl)
def ZqB (F:Nat):Option ((List Sig)):=
 some ([]:List Sig)
def ZuN (F:Nat):Fs yb:=⟨139,[.nil Zbp],[],[],[⟨.ret,[(0,.v (.sl Zbp))],[],[(.sl Zbp)]⟩],fun x=>ZqB F⟩
def ZxA:Fs yb:=ZuN fuel
theorem ZuO:ZxA.Ok:=Zg (fi:={ hi:={ own:=[5,7],still:=[2]},lp:=[]}) (specs:={ l:=[]}) (okS trivial) trivial (by decide+kernel) (fun x=>by kernel_rfl)
def ZxB (F:Nat):Fs yb:=⟨139,[.v (.sl Zbp)],[],[(.sl Zbp)],[⟨.ret,[(0,.v (.sl Zbp))],[],[(.sl Zbp)]⟩],fun x=>Zh7 F x⟩
def ZqC:Fs yb:=ZxB fuel
theorem ZxC:ZqC.Ok:=ZAU (t:=Zbp) (xs:=[⟨.ret,[(0,.v (.sl Zbp))],[],[(.sl Zbp)]⟩]) (MA:=fun (x:(List Sig))=>Zh7 fuel x) (MB:=fun _=>ZqB fuel) ZBa ZuO rfl
def ZiX (F:Nat) (a0:(List In)):Option (((List Unit)×(List In))):=
 if (apB 0 a0.length 80)=true then
  some (([()]:List Unit),a0)
 else
 none
def ZxD (F:Nat):Fs yb:=⟨137,[.sl true yIn],[],[(.sl yIn)],[⟨.ret,[(0,.rw 0)],[.row yIn true 86],[(.sl (.st [])),(.sl yIn)]⟩],fun x=>ZiX F x⟩
def ZzF:Fs yb:=ZxD fuel
theorem ZxE:ZzF.Ok:=Zg (fi:={ hi:={ own:=[5,7],rowt:=[2,5,7]},lp:=[]}) (specs:={ l:=[]}) (okS trivial) trivial (by decide+kernel) (fun x=>by kernel_rfl)
def ZiY (F:Nat) (a0:(List In)):Option (((List Unit)×(List In))):=if a0.isEmpty=true then none else ZiX F a0
def ZtO (F:Nat):Fs yb:=⟨137,[.v (.sl yIn)],[],[(.sl yIn)],[⟨.ret,[(0,.rw 0)],[.row yIn true 86],[(.sl (.st [])),(.sl yIn)]⟩],fun x=>ZiY F x⟩
def ZmO:Fs yb:=ZtO fuel
theorem ZtP:ZmO.Ok:=Zxd (t:=yIn) (xs:=[⟨.ret,[(0,.rw 0)],[.row yIn true 86],[(.sl (.st [])),(.sl yIn)]⟩]) (MA:=fun (x:(List In))=>ZiX fuel x) ZxE rfl (fun _ _=>rfl)
def ZgS (F:Nat) (a0:(List Out)):Option (((List Unit)×(List Out))):=
 if (apB 0 a0.length 32)=true then
  some (([()]:List Unit),a0)
 else
 none
def ZuP (F:Nat):Fs yb:=⟨138,[.sl true VM],[],[(.sl VM)],[⟨.ret,[(0,.rw 0)],[.row VM true 70],[(.sl (.st [])),(.sl VM)]⟩],fun x=>ZgS F x⟩
def ZxF:Fs yb:=ZuP fuel
theorem ZuQ:ZxF.Ok:=Zg (fi:={ hi:={ own:=[5,7],rowt:=[2,5,7]},lp:=[]}) (specs:={ l:=[]}) (okS trivial) trivial (by decide+kernel) (fun x=>by kernel_rfl)
def Zhn (F:Nat) (a0:(List Out)):Option (((List Unit)×(List Out))):=if a0.isEmpty=true then none else ZgS F a0
def Zq4 (F:Nat):Fs yb:=⟨138,[.v (.sl VM)],[],[(.sl VM)],[⟨.ret,[(0,.rw 0)],[.row VM true 70],[(.sl (.st [])),(.sl VM)]⟩],fun x=>Zhn F x⟩
def Zlc:Fs yb:=Zq4 fuel
theorem Zq5:Zlc.Ok:=Zxd (t:=VM) (xs:=[⟨.ret,[(0,.rw 0)],[.row VM true 70],[(.sl (.st [])),(.sl VM)]⟩]) (MA:=fun (x:(List Out))=>ZgS fuel x) ZuQ rfl (fun _ _=>rfl)
def ZbB (F:Nat) (a0:(List YI)):Option (((List Unit)×(List YI))):=
 if (apB 0 a0.length 48)=true then
  some (([()]:List Unit),a0)
 else
 none
def ZpN (F:Nat):Fs yb:=⟨140,[.sl true Z1],[],[(.sl Z1)],[⟨.ret,[(0,.rw 0)],[.row Z1 true 130],[(.sl (.st [])),(.sl Z1)]⟩],fun x=>ZbB F x⟩
def Zq6:Fs yb:=ZpN fuel
theorem ZpO:Zq6.Ok:=Zg (fi:={ hi:={ own:=[5,7],rowt:=[2,5,7]},lp:=[]}) (specs:={ l:=[]}) (okS trivial) trivial (by decide+kernel) (fun x=>by kernel_rfl)
def Q4 (F:Nat) (a0:(List YI)):Option (((List Unit)×(List YI))):=if a0.isEmpty=true then none else ZbB F a0
def Znx (F:Nat):Fs yb:=⟨140,[.v (.sl Z1)],[],[(.sl Z1)],[⟨.ret,[(0,.rw 0)],[.row Z1 true 130],[(.sl (.st [])),(.sl Z1)]⟩],fun x=>Q4 F x⟩
def ZgT:Fs yb:=Znx fuel
theorem Zny:ZgT.Ok:=Zxd (t:=Z1) (xs:=[⟨.ret,[(0,.rw 0)],[.row Z1 true 130],[(.sl (.st [])),(.sl Z1)]⟩]) (MA:=fun (x:(List YI))=>ZbB fuel x) ZpO rfl (fun _ _=>rfl)
def X2 (F:Nat) (s:(Int×Int×Int×Tx×(List Unit)×(List In)×(List Unit)×(List Out))):Option ((Int×Int×Int×Tx×(List Unit)×(List In)×(List Unit)×(List Out))⊕(Int×Tx×(List Unit)×(List In)×(List Unit)×(List Out))):=
 if (decide (s.2.1 < s.1))=true then
  if (inB s.2.1 s.2.2.2.2.2.1.length)=true then
   (s.2.2.2.2.2.1[s.2.1.toNat]?).bind fun e829=>
   (Zh7 F e829.2.2.1).bind fun o830=>
   if (inB s.2.1 s.2.2.2.2.2.1.length)=true then
    (s.2.2.2.2.2.1[s.2.1.toNat]?).bind fun e831=>
    let y832:(List In):=s.2.2.2.2.2.1.set s.2.1.toNat (e831.1,(e831.2.1,o830,e831.2.2.2))
    some (.inl (s.1,wi (s.2.1+1),s.2.2.1,s.2.2.2.1,s.2.2.2.2.1,y832,s.2.2.2.2.2.2.1,s.2.2.2.2.2.2.2))
   else
   none
  else
  none
 else
 some (.inr (s.2.2.1,s.2.2.2.1,s.2.2.2.2.1,s.2.2.2.2.2.1,s.2.2.2.2.2.2.1,s.2.2.2.2.2.2.2))
def Zd5:Lp:=⟨[(1,.ref 0 []),(2,.ref 1 []),(17,.v (.int .i64)),(18,.v (.int .i64))],[.var (.agg [.rw 2,.rw 3,.v (.int .i64)]) true,.var (.v yTx) true,.row yIn true 86,.row VM true 70],[(.int .i64),(.int .i64),(.int .i64),yTx,(.sl (.st [])),(.sl yIn),(.sl (.st [])),(.sl VM)],[⟨.exit 0,[(1,.ref 0 []),(2,.ref 1 [])],[.var (.agg [.rw 2,.rw 3,.v (.int .i64)]) true,.var (.v yTx) true,.row yIn true 86,.row VM true 70],[(.int .i64),yTx,(.sl (.st [])),(.sl yIn),(.sl (.st [])),(.sl VM)]⟩],Zd (X2 fuel) fuel⟩
theorem ZiZ:Zd5.Ok yb (Zp yb 78) (Zo yb 78 0):=Zk (fi:={ hi:={ still:=[8,11,30,48,61,69],rowt:=[5,9,12,22,49,55,67]},lp:=[]}) (specs:={ l:=[ZqC]}) (okS ⟨ZxC,trivial⟩) trivial (by kernel_rfl) (fun v=>by kernel_rfl)
def X3 (F:Nat) (s:(Int×Int×Int×Int×Int×Int×Tx×(List Unit)×(List In)×(List Unit)×(List Out)×(List Unit)×(List YI))):Option ((Int×Int×Int×Int×Int×Int×Tx×(List Unit)×(List In)×(List Unit)×(List Out)×(List Unit)×(List YI))⊕(Int×Int×Int×Int×Tx×(List Unit)×(List In)×(List Unit)×(List Out)×(List Unit)×(List YI))):=
 if (decide (s.2.2.2.2.1 < s.2.2.2.1))=true then
  if (inB s.2.2.2.2.1 s.2.2.2.2.2.2.2.2.2.2.2.2.length)=true then
   (s.2.2.2.2.2.2.2.2.2.2.2.2[s.2.2.2.2.1.toNat]?).bind fun e836=>
   (Xv F e836.1).bind fun o837=>
   if (inB s.2.2.2.2.1 s.2.2.2.2.2.2.2.2.2.2.2.2.length)=true then
    (s.2.2.2.2.2.2.2.2.2.2.2.2[s.2.2.2.2.1.toNat]?).bind fun e838=>
    let y839:(List YI):=s.2.2.2.2.2.2.2.2.2.2.2.2.set s.2.2.2.2.1.toNat (o837,e838.2.1,e838.2.2.1,e838.2.2.2)
    some (.inl (s.1,s.2.1,s.2.2.1,s.2.2.2.1,wi (s.2.2.2.2.1+1),s.2.2.2.2.2.1,s.2.2.2.2.2.2.1,s.2.2.2.2.2.2.2.1,s.2.2.2.2.2.2.2.2.1,s.2.2.2.2.2.2.2.2.2.1,s.2.2.2.2.2.2.2.2.2.2.1,s.2.2.2.2.2.2.2.2.2.2.2.1,y839))
   else
   none
  else
  none
 else
 some (.inr (s.1,s.2.1,s.2.2.1,s.2.2.2.2.2.1,s.2.2.2.2.2.2.1,s.2.2.2.2.2.2.2.1,s.2.2.2.2.2.2.2.2.1,s.2.2.2.2.2.2.2.2.2.1,s.2.2.2.2.2.2.2.2.2.2.1,s.2.2.2.2.2.2.2.2.2.2.2.1,s.2.2.2.2.2.2.2.2.2.2.2.2))
def Zd6:Lp:=⟨[(1,.ref 0 []),(2,.ref 1 []),(4,.v (.int .i64)),(5,.rw 4),(38,.v (.int .i64)),(39,.v (.int .i64)),(51,.v (.int .i64)),(52,.v (.int .i64))],[.var (.agg [.rw 2,.rw 3,.v (.int .i64)]) true,.var (.v yTx) true,.row yIn true 86,.row VM true 70,.row Z1 true 130],[(.int .i64),(.int .i64),(.int .i64),(.int .i64),(.int .i64),(.int .i64),yTx,(.sl (.st [])),(.sl yIn),(.sl (.st [])),(.sl VM),(.sl (.st [])),(.sl Z1)],[⟨.exit 4,[(1,.ref 0 []),(2,.ref 1 []),(4,.v (.int .i64)),(5,.rw 4),(38,.v (.int .i64)),(39,.v (.int .i64))],[.var (.agg [.rw 2,.rw 3,.v (.int .i64)]) true,.var (.v yTx) true,.row yIn true 86,.row VM true 70,.row Z1 true 130],[(.int .i64),(.int .i64),(.int .i64),(.int .i64),yTx,(.sl (.st [])),(.sl yIn),(.sl (.st [])),(.sl VM),(.sl (.st [])),(.sl Z1)]⟩],Zd (X3 fuel) fuel⟩
theorem Zi0:Zd6.Ok yb (Zp yb 78) (Zo yb 78 2):=Zk (fi:={ hi:={ still:=[8,11,30,48,61,69],rowt:=[5,9,12,22,49,55,67]},lp:=[]}) (specs:={ l:=[Zbn]}) (okS ⟨ZfG,trivial⟩) trivial (by kernel_rfl) (fun v=>by kernel_rfl)
def X4 (F:Nat) (s:(Int×Int×Int×Tx×(List Unit)×(List In)×(List Unit)×(List Out))):Option ((Int×Int×Int×Tx×(List Unit)×(List In)×(List Unit)×(List Out))⊕(Int×Tx×(List Unit)×(List In)×(List Unit)×(List Out))):=
 if (decide (s.2.1 < s.1))=true then
  if (inB s.2.1 s.2.2.2.2.2.2.2.length)=true then
   (s.2.2.2.2.2.2.2[s.2.1.toNat]?).bind fun e834=>
   (Q4 F e834.2).bind fun o835=>
   (Zd (X3 F) F (s.2.1,s.1,s.2.1,(o835.2.length:Int),(0:Int),s.2.2.1,s.2.2.2.1,s.2.2.2.2.1,s.2.2.2.2.2.1,s.2.2.2.2.2.2.1,s.2.2.2.2.2.2.2,o835.1,o835.2)).bind fun o840=>
   if (inB o840.1 o840.2.2.2.2.2.2.2.2.1.length)=true then
    (o840.2.2.2.2.2.2.2.2.1[o840.1.toNat]?).bind fun e841=>
    let y842:(List Out):=o840.2.2.2.2.2.2.2.2.1.set o840.1.toNat (e841.1,o840.2.2.2.2.2.2.2.2.2.2)
    some (.inl (o840.2.1,wi (o840.2.2.1+1),o840.2.2.2.1,o840.2.2.2.2.1,o840.2.2.2.2.2.1,o840.2.2.2.2.2.2.1,o840.2.2.2.2.2.2.2.1,y842))
   else
   none
  else
  none
 else
 some (.inr (s.2.2.1,s.2.2.2.1,s.2.2.2.2.1,s.2.2.2.2.2.1,s.2.2.2.2.2.2.1,s.2.2.2.2.2.2.2))
def Zd7:Lp:=⟨[(1,.ref 0 []),(2,.ref 1 []),(38,.v (.int .i64)),(39,.v (.int .i64))],[.var (.agg [.rw 2,.rw 3,.v (.int .i64)]) true,.var (.v yTx) true,.row yIn true 86,.row VM true 70],[(.int .i64),(.int .i64),(.int .i64),yTx,(.sl (.st [])),(.sl yIn),(.sl (.st [])),(.sl VM)],[⟨.exit 2,[(1,.ref 0 []),(2,.ref 1 [])],[.var (.agg [.rw 2,.rw 3,.v (.int .i64)]) true,.var (.v yTx) true,.row yIn true 86,.row VM true 70],[(.int .i64),yTx,(.sl (.st [])),(.sl yIn),(.sl (.st [])),(.sl VM)]⟩],Zd (X4 fuel) fuel⟩
theorem Zi1:Zd7.Ok yb (Zp yb 78) (Zo yb 78 1):=Zk (fi:={ hi:={ still:=[8,11,30,48,61,69],rowt:=[5,9,12,22,49,55,67]},lp:=[(2,Zd6)]}) (specs:={ l:=[ZgT]}) (okS ⟨Zny,trivial⟩) ⟨Zi0,trivial⟩ (by kernel_rfl) (fun v=>by kernel_rfl)
def Qf (F:Nat) (a0:Tx):Option ((Int×(List Unit)×(List In)×(List Unit)×(List Out))):=
 (ZiY F a0.1).bind fun o827=>
 (Zhn F a0.2.1).bind fun o828=>
 (Zd (X2 F) F ((o827.2.length:Int),(0:Int),a0.2.2,(([]:List In),([]:List Out),(0:Int)),o827.1,o827.2,o828.1,o828.2)).bind fun o833=>
 (Zd (X4 F) F ((o833.2.2.2.2.2.length:Int),(0:Int),o833.1,o833.2.1,o833.2.2.1,o833.2.2.2.1,o833.2.2.2.2.1,o833.2.2.2.2.2)).bind fun o843=>
 some (o843.1,o843.2.2.1,o843.2.2.2.1,o843.2.2.2.2.1,o843.2.2.2.2.2)
def Zme (F:Nat):Fs yb:=⟨78,[.v yTx],[],[yTx],[⟨.ret,[(0,.agg [.rw 0,.rw 1,.v (.int .i64)])],[.row yIn true 86,.row VM true 70],[(.int .i64),(.sl (.st [])),(.sl yIn),(.sl (.st [])),(.sl VM)]⟩],fun x=>Qf F x⟩
def Zf3:Fs yb:=Zme fuel
theorem Zmf:Zf3.Ok:=Zg (fi:={ hi:={ still:=[8,11,30,48,61,69],rowt:=[5,9,12,22,49,55,67]},lp:=[(0,Zd5),(1,Zd7)]}) (specs:={ l:=[ZmO,Zlc]}) (okS ⟨ZtP,Zq5,trivial⟩) ⟨ZiZ,Zi1,trivial⟩ (by decide+kernel) (fun x=>by kernel_rfl)
def Zey (F:Nat) (a0:Tx) (a1:Sig) (a2:Sig):Option (Tx):=
 (Qf F a0).bind fun o847=>
 if (decide ((o847.2.2.1.length:Int) > 0))=true then
  if (inB 0 o847.2.2.1.length)=true then
   (o847.2.2.1[0]?).bind fun e848=>
   let y849:(List In):=o847.2.2.1.set 0 (e848.1,((0:Int),([a1,a2]:List Sig),(0:UInt64)))
   some (y849,o847.2.2.2.2,o847.1)
  else
  none
 else
 some (o847.2.2.1,o847.2.2.2.2,o847.1)
def Zf4 (F:Nat):Fs yb:=⟨21,[.v yTx,.v Zbp,.v Zbp],[],[yTx,Zbp,Zbp],[⟨.ret,[(0,.v yTx)],[],[yTx]⟩],fun x=>Zey F x.1 x.2.1 x.2.2⟩
def ZmP:Fs yb:=Zf4 fuel
theorem Zld:ZmP.Ok:=ZHf (fi:={ hi:={ still:=[7],rowt:=[14],deep:=[56]},lp:=[]}) (specs:={ l:=[Zf3]}) (okS ⟨Zmf,trivial⟩) trivial (by decide+kernel) (fun x=>by kernel_rfl)
def ZcO (F:Nat) (a0:Tx):Option ((Int×Int)):=
 if (decide (a0.2.2 < 0))=true then
  some ((0:Int),(0:Int))
 else
 some (wi (Int.tdiv a0.2.2 2),Int.tmod a0.2.2 2)
def ZdH (F:Nat):Fs yb:=⟨22,[.v yTx],[],[yTx],[⟨.ret,[(0,.tup [.v (.int .i64),.v (.int .i64)])],[],[(.int .i64),(.int .i64)]⟩],fun x=>ZcO F x⟩
def Zle:Fs yb:=ZdH fuel
theorem Zjr:Zle.Ok:=Zg (fi:={ hi:={ still:=[2,3]},lp:=[]}) (specs:={ l:=[]}) (okS trivial) trivial (by decide+kernel) (fun x=>by kernel_rfl)
def QK (F:Nat) (a0:UInt64):Option (UInt64):=
 (QW F a0).bind fun o850=>
 (QV F o850 (2305843009213688668:UInt64)).bind fun o851=>
 some o851
def ZxG (F:Nat):Fs yb:=⟨150,[.v .u64],[],[.u64],[⟨.ret,[(0,.v .u64)],[],[.u64]⟩],fun x=>QK F x⟩
def ZqD:Fs yb:=ZxG fuel
theorem ZxH:ZqD.Ok:=Zg (fi:={ hi:={ still:=[2,3,4]},lp:=[]}) (specs:={ l:=[ZcC,ZcB]}) (okS ⟨Zft,Zfs,trivial⟩) trivial (by decide+kernel) (fun x=>by kernel_rfl)
def Xy (F:Nat) (a0:UInt64) (a1:(List UInt8)) (a2:UInt64) (a3:Sig):Option (Bool):=
 if (a0==1)=true then
  some false
 else
 (YT F a0).bind fun o852=>
 if (!o852)=true then
  some false
 else
 (YT F a2).bind fun o853=>
 if (!o853)=true then
  some false
 else
 (YT F a3.1).bind fun o854=>
 if (!o854)=true then
  some false
 else
 (YW F a3.2).bind fun o855=>
 if (!o855)=true then
  some false
 else
 (YX F a3.1 a0 a1).bind fun o856=>
 (VH F a0 o856).bind fun o857=>
 (QK F a2).bind fun o858=>
 (ZfE F ([a3.1,o857,o858]:List UInt64)).bind fun o859=>
 (Xb F a3.2).bind fun o860=>
 some (o860==o859)
def ZtQ (F:Nat):Fs yb:=⟨82,[.v .u64,.v (.arr 32 .u8),.v .u64,.v Zbp],[],[.u64,(.arr 32 .u8),.u64,Zbp],[⟨.ret,[(0,.v .bool)],[],[.bool]⟩],fun x=>Xy F x.1 x.2.1 x.2.2.1 x.2.2.2⟩
def ZmQ:Fs yb:=ZtQ fuel
theorem ZtR:ZmQ.Ok:=Zg (fi:={ hi:={ still:=[8,13,18,24,30,36,38,39,40,41,43,45,48]},lp:=[]}) (specs:={ l:=[Wp,Zhm,Zcq,ZcD,ZqD,Zk1,XT]}) (okS ⟨WA,Zk9,ZgQ,Zfu,ZxH,ZoF,XU,trivial⟩) trivial (by decide+kernel) (fun x=>by kernel_rfl)
def ZN (F:Nat) (a0:UInt64) (a1:(List UInt8)) (a2:Sig):Option (Bool):=
 (Xy F a0 a1 (1:UInt64) a2).bind fun o861=>
 some o861
def ZtS (F:Nat):Fs yb:=⟨26,[.v .u64,.v (.arr 32 .u8),.v Zbp],[],[.u64,(.arr 32 .u8),Zbp],[⟨.ret,[(0,.v .bool)],[],[.bool]⟩],fun x=>ZN F x.1 x.2.1 x.2.2⟩
def Zho:Fs yb:=ZtS fuel
theorem Zlf:Zho.Ok:=Zg (fi:={ hi:={ still:=[6,7,8,9]},lp:=[]}) (specs:={ l:=[ZmQ]}) (okS ⟨ZtR,trivial⟩) trivial (by decide+kernel) (fun x=>by kernel_rfl)
def ZS (F:Nat) (s:((List UInt64)×Int×Int×XP×Zan×(List UInt8)×YI)):Option (((List UInt64)×Int×Int×XP×Zan×(List UInt8)×YI)⊕((Int×XP×Zan×(List UInt8)×YI)⊕(XP×Zan×(List UInt8)×YI))):=
 if (decide (s.2.2.1 < s.2.1))=true then
  (idx s.1 s.2.2.1).bind fun e865=>
  (idx s.2.2.2.2.1.2.1 s.2.2.1).bind fun e866=>
  (ZN F e865 s.2.2.2.2.2.1 e866).bind fun o867=>
  if (!o867)=true then
   some (.inr (.inl ((7:Int),s.2.2.2.1,s.2.2.2.2.1,s.2.2.2.2.2.1,s.2.2.2.2.2.2)))
  else
  some (.inl (s.1,s.2.1,wi (s.2.2.1+1),s.2.2.2.1,s.2.2.2.2.1,s.2.2.2.2.2.1,s.2.2.2.2.2.2))
 else
 some (.inr (.inr (s.2.2.2.1,s.2.2.2.2.1,s.2.2.2.2.2.1,s.2.2.2.2.2.2)))
def ZoO:Lp:=⟨[(6,.ref 1 []),(7,.ref 2 []),(68,.v (.sl .u64)),(69,.v (.int .i64)),(70,.v (.int .i64))],[.var (.v Yw) true,.var (.v QD) true,.var (.v (.arr 32 .u8)) true,.var (.v Z1) true],[(.sl .u64),(.int .i64),(.int .i64),Yw,QD,(.arr 32 .u8),Z1],[⟨.ret,[(10,.v (.int .i64))],[.var (.v Yw) true,.var (.v QD) true,.var (.v (.arr 32 .u8)) true,.var (.v Z1) true],[(.int .i64),Yw,QD,(.arr 32 .u8),Z1]⟩,⟨.exit 1,[],[.var (.v Yw) true,.var (.v QD) true,.var (.v (.arr 32 .u8)) true,.var (.v Z1) true],[Yw,QD,(.arr 32 .u8),Z1]⟩],Zd (ZS fuel) fuel⟩
theorem Zq7:ZoO.Ok yb (Zp yb 23) (Zo yb 23 0):=Zk (fi:={ hi:={ still:=[10,14,53,75,76,81]},lp:=[]}) (specs:={ l:=[Zho]}) (okS ⟨Zlf,trivial⟩) trivial (by kernel_rfl) (fun v=>by kernel_rfl)
def QL (F:Nat) (a0:XP) (a1:Zan) (a2:(List UInt8)) (a3:Int) (a4:Int):Option (Int):=
 (QE F a0).bind fun o862=>
 if (!o862)=true then
  some (1:Int)
 else
 if (decide (a1.1 < 0))=true then
  some (1:Int)
 else
 if (decide (a1.1 ≥ (a0.length:Int)))=true then
  some (1:Int)
 else
 (idx a0 a1.1).bind fun e863=>
 if (decide (a3 < e863.2.1))=true then
  some (11:Int)
 else
 if (decide (a4 < e863.2.2.1))=true then
  some (11:Int)
 else
 if (e863.2.2.2 !=0)=true then
  (Xb F a1.2.2).bind fun o864=>
  if (o864 !=e863.2.2.2)=true then
   some (23:Int)
  else
  if ((a1.2.1.length:Int)!=(e863.1.length:Int))=true then
   some (7:Int)
  else
  (Zd (ZS F) F (e863.1,(e863.1.length:Int),(0:Int),a0,a1,a2,e863)).bind fun o868=>
  match o868 with
  |.inl o869=>
   some o869.1
  |.inr o870=>
   some (0:Int)
 else
 if ((a1.2.1.length:Int)!=(e863.1.length:Int))=true then
  some (7:Int)
 else
 (Zd (ZS F) F (e863.1,(e863.1.length:Int),(0:Int),a0,a1,a2,e863)).bind fun o871=>
 match o871 with
 |.inl o872=>
  some o872.1
 |.inr o873=>
  some (0:Int)
def Zi2 (F:Nat):Fs yb:=⟨23,[.v Yw,.v QD,.v (.arr 32 .u8),.v (.int .i64),.v (.int .i64)],[],[Yw,QD,(.arr 32 .u8),(.int .i64),(.int .i64)],[⟨.ret,[(0,.v (.int .i64))],[],[(.int .i64)]⟩],fun x=>QL F x.1 x.2.1 x.2.2.1 x.2.2.2.1 x.2.2.2.2⟩
def ZgU:Fs yb:=Zi2 fuel
theorem Zez:ZgU.Ok:=Zg (fi:={ hi:={ still:=[10,14,53,75,76,81]},lp:=[(0,ZoO)]}) (specs:={ l:=[Zbt,XT]}) (okS ⟨ZcN,XU,trivial⟩) ⟨Zq7,trivial⟩ (by decide+kernel) (fun x=>by kernel_rfl)
def Znz (F:Nat) (a0:UInt64) (a1:UInt64):Option (XP):=
 (Zh2 F ([a0,a1]:List UInt64)).bind fun o874=>
 some o874
def ZxI (F:Nat):Fs yb:=⟨79,[.v .u64,.v .u64],[],[.u64,.u64],[⟨.ret,[(0,.v Yw)],[],[Yw]⟩],fun x=>Znz F x.1 x.2⟩
def ZqE:Fs yb:=ZxI fuel
theorem ZxJ:ZqE.Ok:=Zg (fi:={ hi:={ still:=[7]},lp:=[]}) (specs:={ l:=[Znk]}) (okS ⟨Zqs,trivial⟩) trivial (by decide+kernel) (fun x=>by kernel_rfl)
def Zap (F:Nat) (a0:ZO):Option (XP):=
 (a0.2.2.1[0]?).bind fun e875=>
 (a0.2.2.1[1]?).bind fun e876=>
 (Znz F e875.1 e876.1).bind fun o877=>
 some o877
def ZbC (F:Nat):Fs yb:=⟨24,[.v Zq],[],[Zq],[⟨.ret,[(0,.v Yw)],[],[Yw]⟩],fun x=>Zap F x⟩
def Zh8:Fs yb:=ZbC fuel
theorem ZgV:Zh8.Ok:=Zg (fi:={ hi:={ still:=[6,10]},lp:=[]}) (specs:={ l:=[ZqE]}) (okS ⟨ZxJ,trivial⟩) trivial (by decide+kernel) (fun x=>by kernel_rfl)
def ZcP (F:Nat) (a0:ZO) (a1:State) (a2:Int) (a3:UInt64) (a4:Tx):Option (Bool):=
 (commit_MakeM F a0 a1 a2 a3).bind fun o878=>
 if (o878.2==0)=true then
  (QJ F o878.1.1).bind fun o879=>
  (QJ F a4).bind fun o880=>
  some (decide (o879=o880))
 else
 some false
def ZdI (F:Nat):Fs yb:=⟨27,[.v Zq,.v Ze,.v (.int .i64),.v .u64,.v yTx],[],[Zq,Ze,(.int .i64),.u64,yTx],[⟨.ret,[(0,.v .bool)],[],[.bool]⟩],fun x=>ZcP F x.1 x.2.1 x.2.2.1 x.2.2.2.1 x.2.2.2.2⟩
def Zlg:Fs yb:=ZdI fuel
theorem Zjs:Zlg.Ok:=Zg (fi:={ hi:={ still:=[10,14,15,16,17,25,27]},lp:=[]}) (specs:={ l:=[Va,ZlN]}) (okS ⟨WB,Zh5,trivial⟩) trivial (by decide+kernel) (fun x=>by kernel_rfl)
end
end Go.Proofs.YtjbbdlffilcaaaaGreat
end
section
set_option maxRecDepth 4000
namespace Go.Proofs.YtjbbdlffilcaaaaGreat
open Go Go.Ev
theorem ZFS {m:Nat} (hm:0 < m):∀(f a n o:Nat),o < m→pwm m f a n o < m
 |0,_,_,o,h=>h
 |f+1,a,n,o,h=>by
  rw [pwm]
  split
  ·exact h
  ·refine ZFS hm f _ _ _ ?_
   split
   ·exact yaq _ hm
   ·exact h
theorem ZFT {m:Nat} (hm:1 < m) (k a n:Nat) (h:n < 2 ^ k):pwm m k a n 1=a ^ n % m:=by
 rw [←yac (ZFS (by omega) k a n 1 hm),Zxh k a n 1 h,Nat.one_mul]
instance (a:Nat):Decidable (WT a):=by unfold WT;infer_instance
theorem ZI4 {z:Nat} (h:z < mdl):z < 18446744073709551616:=Nat.lt_trans h (by decide)
theorem ZnA {z:Nat} (h:z < mdl):(yv z).toNat=z:=by
 rw [yav,yac (ZI4 h)]
theorem ZgW (z:Nat):z % mdl < mdl:=yaq _ (by decide)
theorem Zlh (a n:UInt64):QV fuel a n=some (yv (a.toNat ^ n.toNat % mdl)):=by
 unfold QV
 rw [ZFT (by decide) 64 a.toNat n.toNat (ybo n)]
 rfl
theorem ZvK {a n:UInt64} (h:a.toNat < mdl):YH fuel a n=some (yv (a.toNat ^ n.toNat % mdl)):=by
 unfold YH
 rw [if_pos (decide_eq_true (show a.toNat < 4611686018427377339 from h)),ZFT (by decide) 64 a.toNat n.toNat (ybo n)]
 rfl
theorem ZFU {z:Nat} (h:z < mdl):(yv z==1)=decide (z=1):=by
 rw [Bool.eq_iff_iff,beq_iff_eq,decide_eq_true_iff, ←UInt64.toNat_inj,ZnA h]
 rfl
theorem Yc (p:UInt64):YT fuel p=some (decide (WT p.toNat)):=by
 unfold YT
 by_cases h1:0 < p.toNat
 ·rw [if_pos (decide_eq_true (show p > 0 from yby.2 h1))]
  by_cases h2:p.toNat < mdl
  ·rw [if_pos (decide_eq_true (show p < 4611686018427377339 from yby.2 h2)),Zlh,ya,ZFU (ZgW _)]
   congr 1
   rw [decide_eq_decide]
   exact ⟨fun h=>⟨h1,h2,h⟩,fun h=>h.2.2⟩
  ·rw [if_neg (by rw [decide_eq_true_iff];exact fun h=>h2 (yby.1 h)),decide_eq_false (fun h=>h2 h.2.1)]
 ·rw [if_neg (by rw [decide_eq_true_iff];exact fun h=>h1 (yby.1 h)),decide_eq_false (fun h=>h1 h.1)]
theorem ZpP (p:UInt64):XB fuel p=some (decide (WT p.toNat)):=by
 unfold XB
 by_cases h1:0 < p.toNat
 ·rw [if_pos (decide_eq_true (show p ≥ 1 from ycp.2 h1))]
  by_cases h2:p.toNat < mdl
  ·rw [if_pos (decide_eq_true (show p < 4611686018427377339 from yby.2 h2)),ZvK h2,ya,ZFU (ZgW _)]
   congr 1
   rw [decide_eq_decide]
   exact ⟨fun h=>⟨h1,h2,h⟩,fun h=>h.2.2⟩
  ·rw [if_neg (by rw [decide_eq_true_iff];exact fun h=>h2 (yby.1 h)),decide_eq_false (fun h=>h2 h.2.1)]
 ·rw [if_neg (by rw [decide_eq_true_iff];exact fun h=>h1 (ycp.1 h)),decide_eq_false (fun h=>h1 h.1)]
def tk (p:UInt64):UInt64:=if WT p.toNat then p else 1
theorem ZvL (p:UInt64):WT (tk p).toNat:=by
 unfold tk
 split
 ·assumption
 ·exact Zm9
theorem ZaN {p:UInt64} (h:WT p.toNat):tk p=p:=if_pos h
theorem Zli (p:UInt64):QW fuel p=some (tk p):=by
 unfold QW tk
 rw [Yc,ya]
 by_cases h:WT p.toNat
 ·rw [if_pos (decide_eq_true h),if_pos h]
 ·rw [if_neg (by rw [decide_eq_true_iff];exact h),if_neg h]
theorem ZDC (p:UInt64):Vg fuel p=some (tk p):=by
 unfold Vg tk
 rw [ZpP,ya]
 by_cases h:WT p.toNat
 ·rw [if_pos (decide_eq_true h),if_pos h]
 ·rw [if_neg (by rw [decide_eq_true_iff];exact h),if_neg h]
def sc (p:UInt64) (n:Nat):UInt64:=yv ((tk p).toNat ^ n % mdl)
theorem Zlj (p:UInt64) (n:Nat):(sc p n).toNat=(tk p).toNat ^ n % mdl:=ZnA (ZgW _)
theorem ZJQ (p:UInt64) (n:Nat):WT (sc p n).toNat:=by
 rw [Zlj]
 exact ZIW (ZvL p) n
theorem ZtT (p:UInt64) (n:Nat):sc p (n % ord)=sc p n:=by
 unfold sc
 rw [ZHo (ZvL p)]
theorem Zdp (k:UInt64):(k % 2305843009213688669).toNat=k.toNat % ord:=by
 rw [UInt64.toNat_mod]
 rfl
theorem ZbD (p k:UInt64):VH fuel p k=some (sc p k.toNat):=by
 unfold VH
 rw [Zli,ya,Zlh,ya,Zdp, ←ZtT]
 rfl
theorem ZDD (p k:UInt64):Vh fuel p k=some (sc p k.toNat):=by
 unfold Vh
 rw [ZDC,ya,ZvK (ZvL p).2.1,ya,Zdp, ←ZtT]
 rfl
def B (n:Nat):UInt64:=sc 4 n
theorem tk4:tk 4=4:=ZaN ZFF
theorem Vd (n:Nat):(B n).toNat=4 ^ n % mdl:=by
 unfold B
 rw [Zlj,tk4]
 rfl
theorem Q5 (n:Nat):WT (B n).toNat:=ZJQ 4 n
theorem ZJ8 {n:Nat} (h0:0 < n) (h1:n < ord):B n≠1:=fun e=>ZIX h0 h1 (by rw [←Vd,e];rfl)
theorem Xz (k:UInt64):Xb fuel k=some (B k.toNat):=by
 unfold Xb
 rw [ZbD,ya]
 rfl
theorem Zlk (k:UInt64):Yt fuel k=some (B k.toNat):=by
 unfold Yt
 rw [ZDD,ya]
 rfl
def ad (p q:UInt64):UInt64:=yv ((tk p).toNat*(tk q).toNat % mdl)
theorem ZpQ (p q:UInt64):(ad p q).toNat=(tk p).toNat*(tk q).toNat % mdl:=ZnA (ZgW _)
theorem ZHO (p q:UInt64):WT (ad p q).toNat:=by
 rw [ZpQ]
 exact ZIV (ZvL p) (ZvL q)
theorem ZFV (a b:UInt64):Yl fuel a b=some (yv (a.toNat*b.toNat % mdl)):=Zzk a b
def ZeA:List UInt64→Nat→Nat
 |[],o=>o
 |p::r,o=>ZeA r (o*(tk p).toNat % mdl)
theorem ZCn:∀(l:List UInt64) (o:Nat),o < mdl→ZeA l o < mdl
 |[],o,h=>h
 |p::r,o,h=>ZCn r _ (ZgW _)
theorem ZnB {l:List UInt64} (hl:l.length≤1000):ZfE fuel l=some (yv (ZeA l 1)):=by
 have key:∀(k:Nat),k≤l.length→ZeA (l.take k) 1 < mdl:=fun k _=>ZCn _ _ (by decide)
 have app:∀(l:List UInt64) (p:UInt64) (o:Nat),ZeA (l++[p]) o=ZeA l o*(tk p).toNat % mdl:=by
  intro l
  induction l with
  |nil=>intro p o;rfl
  |cons q r ih=>intro p o;exact ih p _
 unfold ZfE
 rw [show ((1:UInt64),l,(l.length:Int),(0:Int))=(fun k:Nat=>(yv (ZeA (l.take k) 1),l,(l.length:Int),(k:Int))) 0 from rfl,
  ZG (x:=yv (ZeA l 1)) l.length (fun k:Nat=>(yv (ZeA (l.take k) 1),l,(l.length:Int),(k:Int))) ?_ ?_ (by omega),ya]
 ·intro k hk
  obtain ⟨e,he,_⟩:=Zj hk
  unfold ZcL
  dsimp only
  rw [if_pos (ZY hk),Zr he,ya,Zli,ya,ZFV,ya,Zu (by omega),QU he,app,ZnA (key k (by omega))]
 ·unfold ZcL
  dsimp only
  rw [if_neg (by rw [ZQ];decide),yau]
theorem ZtU (p q:UInt64):Zcl fuel p q=some (ad p q):=by
 unfold Zcl
 rw [ZnB (by simp),ya]
 unfold ad ZeA ZeA ZeA
 rw [Nat.one_mul,yac (ZvL p).2.1]
def Key (k:UInt64):Prop:=0 < k.toNat∧k.toNat < ord
theorem ZbE {h:List UInt8} (hl:h.length=32):∃k,Xd fuel h=some k∧Key k:=by
 unfold Xd
 obtain ⟨x,h1,h2⟩:=Z4 (step:=Qz fuel) 32 (fun k s=>∃n:UInt64,s=(n,h,(k:Int),h)∧n.toNat < 2305843009213688668) (fun x=>x.1.toNat < 2305843009213688668) (i:=((0:UInt64),h,(0:Int),h)) ⟨0,rfl,by decide⟩ (by omega) (by
  rintro k _ hk ⟨n,rfl,hn⟩
  left
  obtain ⟨e,he,_⟩:=Zj (l:=h) (k:=k) (by omega)
  unfold Qz
  dsimp only
  rw [if_pos (decide_eq_true (by omega)),Zr he,ya]
  unfold X0
  rw [if_pos (by decide),ya,Zu (by omega)]
  refine ⟨_,rfl,_,rfl, ?_⟩
  rw [show (2305843009213688668:UInt64).toNat=2305843009213688668 from rfl,yav,yac]
  ·exact yaq _ (by decide)
  ·exact Nat.lt_trans (yaq _ (by decide)) (by decide)) (by
  rintro _ ⟨n,rfl,hn⟩
  unfold Qz
  dsimp only
  rw [if_neg (by rw [decide_eq_true_iff];omega)]
  exact ⟨_,rfl,hn⟩)
 rw [h1,ya]
 have e:(x.1+1).toNat=x.1.toNat+1:=by rw [UInt64.toNat_add,yac (by show x.1.toNat+1 < _;omega)];rfl
 exact ⟨_,rfl,by rw [e];omega,by rw [e];unfold ord;omega⟩
theorem Zll {h:List UInt8} (hl:h.length=32):∃k,Ys fuel h=some k∧Key k:=by
 unfold Ys
 obtain ⟨x,h1,h2⟩:=Z4 (step:=XI fuel) 32 (fun k s=>∃n:UInt64,s=(n,(k:Int),h)∧n.toNat < 2305843009213688668) (fun x=>x.1.toNat < 2305843009213688668) (i:=((0:UInt64),(0:Int),h)) ⟨0,rfl,by decide⟩ (by omega) (by
  rintro k _ hk ⟨n,rfl,hn⟩
  left
  obtain ⟨e,he,_⟩:=Zj (l:=h) (k:=k) (by omega)
  unfold XI
  dsimp only
  rw [if_pos (decide_eq_true (by omega))]
  obtain ⟨y,g1,n2,rfl,g2⟩:=Z4 (step:=XH fuel) 8 (fun j s=>∃n:UInt64,s=(n,(k:Int),7 - (j:Int),h)∧n.toNat < 2305843009213688668) (fun x=>∃n:UInt64,x=(n,(k:Int),h)∧n.toNat < 2305843009213688668) (i:=(n,(k:Int),(7:Int),h)) ⟨n,rfl,hn⟩ (by omega) (by
   rintro j _ hj ⟨n,rfl,hn⟩
   left
   unfold XH
   dsimp only
   rw [if_pos (decide_eq_true (by omega)),if_pos (ZW (by omega) (by omega)),yba,he,ya,Zv (z:=7 - (j:Int) - 1) (by omega) (by omega)]
   refine ⟨_,rfl,_,by rw [show (7:Int) - (j:Int) - 1=7 - ((j+1:Nat):Int) by omega], ?_⟩
   rw [UInt64.toNat_mod]
   exact yaq _ (by decide)) (by
   rintro _ ⟨n,rfl,hn⟩
   unfold XH
   dsimp only
   rw [if_neg (by rw [decide_eq_true_iff];omega)]
   exact ⟨_,rfl,_,rfl,hn⟩)
  rw [g1,ya,Zu (by omega)]
  exact ⟨_,rfl,_,rfl,g2⟩) (by
  rintro _ ⟨n,rfl,hn⟩
  unfold XI
  dsimp only
  rw [if_neg (by rw [decide_eq_true_iff];omega)]
  exact ⟨_,rfl,hn⟩)
 rw [h1,ya]
 have e:(x.1+1).toNat=x.1.toNat+1:=by rw [UInt64.toNat_add,yac (by show x.1.toNat+1 < _;omega)];rfl
 exact ⟨_,rfl,by rw [e];omega,by rw [e];unfold ord;omega⟩
end Go.Proofs.YtjbbdlffilcaaaaGreat
end
section
set_option maxRecDepth 4000
namespace Go.Proofs.YtjbbdlffilcaaaaGreat
open Go Go.Ev
theorem ZzG {n:Nat} {b:List UInt8} (h:b.length≤1000000):∃o,W9 fuel (n:Int) b=some o∧o.length=b.length+8:=
 ⟨_,ZCk (by omega),by rw [yj];rfl⟩
theorem ZHq {l:List UInt8} (h:l.length≤900000):∃o,ZeP fuel l=some o∧o.length=32:=⟨_,ZHp (by omega),Sha.ZJ6 l⟩
theorem ZbF {s:ByteArray} {ls:List (List UInt8)} (h1:s.size≤100) (h2:ls.length≤10) (h3:∀l,l∈ls→l.length≤60000):∃o,Vp fuel s ls=some o∧o.length=32:=by
 unfold Vp
 obtain ⟨o,p1,p2⟩:=ZzG (n:=s.size) (b:=[]) (by simp)
 have hsl:(ZlR s).length=s.size:=by
  unfold ZlR
  rw [Array.length_toList]
  rfl
 rw [p1,ya,if_pos (Ya (by rw [hsl,p2];simp;omega) (by rw [hsl,p2];simp;omega))]
 refine Exists.elim (WI (step:=Zeu fuel) (fun x=>x.1=ls∧x.2.1=(ls.length:Int)∧0≤x.2.2.1∧x.2.2.1≤(ls.length:Int)∧x.2.2.2.2.length≤200+60100*x.2.2.1.toNat) (fun x=>((ls.length:Int) - x.2.2.1).toNat) (fun x=>x.2.length≤700000) ?_ (ls,(ls.length:Int),(0:Int),([0,0,0,0,0,0,0,0,0,0,0,0,0,0,0,0,0,0,0,0,0,0,0,0,0,0,0,0,0,0,0,0]:List UInt8),o++ZlR s) ⟨rfl,rfl,Int.le_refl _,by dsimp only;omega,by dsimp only;rw [yj,p2,hsl];simp;omega⟩ (by dsimp only;omega)) ?_
 rotate_left
 ·rintro q ⟨q1,q2⟩
  rw [q1,ya]
  obtain ⟨r,r1,r2⟩:=ZHq (l:=q.2) (by omega)
  rw [r1,ya]
  exact ⟨_,rfl,r2⟩
 ·rintro ⟨a,n,i,c,d⟩ ⟨k1,k2,k3,k4,k5⟩
  dsimp only at k1 k2 k3 k4 k5
  subst k1
  subst k2
  unfold Zeu
  dsimp only
  by_cases hi:i < (a.length:Int)
  ·left
   obtain ⟨e,he⟩:=Za8 (l:=a) (i:=i.toNat) (by omega)
   have hel:=h3 e (List.mem_of_getElem? he)
   obtain ⟨x,x1,x2⟩:=ZzG (n:=e.length) (b:=d) (by omega)
   rw [if_pos (decide_eq_true hi),Zaj k3 he,ya,x1,ya,if_pos (Ya (by omega) (by omega)),Zv (z:=i+1) (by omega) (by omega)]
   exact ⟨_,rfl,⟨rfl,rfl,by dsimp only;omega,by dsimp only;omega,by dsimp only;rw [yj];omega⟩,by dsimp only;omega⟩
  ·right
   rw [if_neg (by simpa using hi)]
   exact ⟨_,rfl,by dsimp only;omega⟩
theorem ZBb (p:UInt64):∃o,ZgJ fuel p=some o∧o.length=8:=by
 unfold ZgJ
 obtain ⟨x,h1,h2⟩:=Z4 (step:=QB fuel) 8 (fun k s=>∃c,s=(p,(k:Int),c)∧c.length=8) (fun x=>x.length=8) (i:=(p,(0:Int),([0,0,0,0,0,0,0,0]:List UInt8))) ⟨_,rfl,rfl⟩ (by omega) (by
  rintro k _ hk ⟨c,rfl,hc⟩
  left
  obtain ⟨e,he,_⟩:=Zj (l:=c) (k:=k) (by omega)
  unfold QB
  dsimp only
  rw [if_pos (decide_eq_true (by omega)),Zv (z:=8*(k:Int)) (by omega) (by omega),Zv (z:=56 - 8*(k:Int)) (by omega) (by omega),if_pos (decide_eq_true (by omega)),if_pos (ZW (by omega) (by omega)),yba,he,ya,Zu (by omega)]
  exact ⟨_,rfl,_,rfl,by rw [List.length_set];exact hc⟩) (by
  rintro _ ⟨c,rfl,hc⟩
  unfold QB
  dsimp only
  rw [if_neg (by rw [decide_eq_true_iff];omega)]
  exact ⟨_,rfl,hc⟩)
 rw [h1,ya]
 exact ⟨_,rfl,by simp [h2]⟩
theorem ZtV {s:ByteArray} (hs:s.size≤100) (a b:UInt64):∃k,Ym fuel s [a,b]=some k∧Key k:=by
 unfold Ym
 obtain ⟨x,h1,n,p,rfl,hn,hp⟩:=Z4 (step:=VS fuel) 2 (fun k q=>∃p,q=(s,[a,b],(2:Int),(k:Int),p)∧p.length=k∧∀l∈p,l.length≤60000) (fun x=>∃n p,x=(n,p)∧n=s∧p.length=2∧∀l∈p,l.length≤60000) (i:=(s,[a,b],(([a,b]:List UInt64).length:Int),(0:Int),([]:List (List UInt8)))) ⟨_,rfl,rfl,by simp⟩ (by omega) (by
  rintro k _ hk ⟨p,rfl,hp,hq⟩
  left
  obtain ⟨e,he,_⟩:=Zj (l:=[a,b]) (k:=k) (by simp;omega)
  obtain ⟨o,ho,hol⟩:=ZBb e
  unfold VS
  dsimp only
  rw [if_pos (decide_eq_true (by omega)),Zr he,ya,ho,ya,if_pos (Ya (by omega) (by omega)),Zu (by omega)]
  refine ⟨_,rfl,_,rfl,by simp [hp], ?_⟩
  intro l hl
  rcases yck.1 hl with h|h
  ·exact hq l h
  ·rw [yae.1 h];omega) (by
  rintro _ ⟨p,rfl,hp,hq⟩
  unfold VS
  dsimp only
  rw [if_neg (by rw [decide_eq_true_iff];omega)]
  exact ⟨_,rfl,_,_,rfl,rfl,hp,hq⟩)
 subst hn
 rw [h1,ya]
 obtain ⟨o,ho,hol⟩:=ZbF (s:=n) (ls:=p) hs (by omega) hp.2
 dsimp only
 rw [ho,ya]
 obtain ⟨k,hk,hkk⟩:=ZbE hol
 rw [hk,ya]
 exact ⟨_,rfl,hkk⟩
theorem ZJR (a b:UInt64):∃k,Ym fuel Zzp [a,b]=some k∧Key k:=ZtV (by decide) a b
theorem ZJS (a b:UInt64):∃k,Ym fuel ZvJ [a,b]=some k∧Key k:=ZtV (by decide) a b
noncomputable def mf (base per:UInt64):UInt64:=Classical.choose (ZJR per base)
noncomputable def rf (a b:UInt64):UInt64:=Classical.choose (ZJS a b)
theorem ZFW (base per:UInt64):Ym fuel Zzp [per,base]=some (mf base per):=(Classical.choose_spec (ZJR per base)).1
theorem ZCo (a b:UInt64):Ym fuel ZvJ [a,b]=some (rf a b):=(Classical.choose_spec (ZJS a b)).1
noncomputable def mix (base per:UInt64):UInt64:=ad base (B (mf base per).toNat)
noncomputable def Zcr (base per:UInt64):UInt64:=ad (sc base (rf base per).toNat) (sc per (rf per base).toNat)
theorem ZI5 (base per:UInt64):ZeQ fuel base per=some (mix base per):=by
 unfold ZeQ
 rw [ZFW,ya,Xz,ya,ZtU,ya]
 rfl
theorem ZDE (base per:UInt64):Zev fuel base per=some (Zcr base per):=by
 unfold Zev
 rw [ZCo,ya,ZbD,ya,ZCo,ya,ZbD,ya,ZtU,ya]
 rfl
theorem ZtW (base per:UInt64):WT (mix base per).toNat:=ZHO _ _
theorem ZpR (base per:UInt64):WT (Zcr base per).toNat:=ZHO _ _
end Go.Proofs.YtjbbdlffilcaaaaGreat
end
section
set_option maxRecDepth 4000
namespace Go.Proofs.YtjbbdlffilcaaaaGreat
open Go Go.Ev
theorem ZlO {ls:List (List UInt8)} (h:ls.flatten.length≤1000000000) (hn:ls.length≤1000):YR fuel ls=some ls.flatten:=by
 unfold YR
 rw [show (ls,(0:Int),ls,(ls.length:Int),(0:Int))=(fun k:Nat=>(ls,((ls.take k).flatten.length:Int),ls,(ls.length:Int),(k:Int))) 0 from rfl,
  ZG (x:=(ls,(ls.flatten.length:Int))) ls.length (fun k:Nat=>(ls,((ls.take k).flatten.length:Int),ls,(ls.length:Int),(k:Int))) ?_ ?_ (by omega),ya]
 ·have hg:ZsM (ls.flatten.length:Int)=some []:=by
   unfold ZsM
   rw [if_pos]
   rw [Bool.and_eq_true]
   exact ⟨decide_eq_true (by omega),decide_eq_true (by unfold Zt;omega)⟩
  dsimp only
  rw [hg,ya,show (ls,(ls.length:Int),(0:Int),([]:List UInt8))=(fun k:Nat=>(ls,(ls.length:Int),(k:Int),(ls.take k).flatten)) 0 from rfl,
   ZG (x:=ls.flatten) ls.length (fun k:Nat=>(ls,(ls.length:Int),(k:Int),(ls.take k).flatten)) ?_ ?_ (by omega),ya]
  ·intro k hk
   obtain ⟨e,he,_⟩:=Zj hk
   have hf:=ZvI he
   have hl:=ZCf ls (k+1)
   rw [hf,yj] at hl
   unfold Xg
   dsimp only
   rw [if_pos (ZY hk),Zr he,ya,if_pos (Ya (by omega) (by omega)),Zu (by omega),hf]
  ·unfold Xg
   dsimp only
   rw [if_neg (by rw [ZQ];decide),yau]
 ·intro k hk
  obtain ⟨e,he,_⟩:=Zj hk
  have hf:=ZvI he
  have hl:=ZCf ls (k+1)
  rw [hf,yj] at hl
  unfold Xf
  dsimp only
  rw [if_pos (ZY hk),Zr he,ya,Zv (z:=((ls.take k).flatten.length:Int)+(e.length:Int)) (by omega) (by omega),if_neg (by rw [decide_eq_true_iff];omega),Zu (by omega),hf,yj]
  rfl
 ·unfold Xf
  dsimp only
  rw [if_neg (by rw [ZQ];decide),yau]
theorem ZoP {a b:List UInt8} (h:a.length+b.length≤1000000000):Zax fuel a b=some (a++b):=by
 unfold Zax
 rw [ZlO (by simp;omega) (by simp),ya]
 simp
def Xl (n:Nat):List UInt8:=if h:n < 128 then [yaz n] else yaz (n % 128+128)::Xl (n / 128)
termination_by n
decreasing_by omega
theorem ZnC {n:Nat} (h:n < 128):Xl n=[yaz n]:=by rw [Xl,dif_pos h]
theorem ZzH {n:Nat} (h:¬n < 128):Xl n=yaz (n % 128+128)::Xl (n / 128):=by rw [Xl,dif_neg h]
theorem ZCp:∀(j n:Nat),n < 128 ^ (j+1)→(Xl n).length≤j+1
 |0,n,h=>by rw [ZnC (by omega)];exact Nat.le_refl _
 |j+1,n,h=>by
  by_cases h0:n < 128
  ·rw [ZnC h0,List.length_singleton];omega
  ·rw [ZzH h0]
   have:=ZCp j (n / 128) (by rw [Nat.pow_succ] at h;omega)
   simp only [yad]
   omega
theorem ZP {n:Nat} (h:n≤9223372036854775807):(Xl n).length≤9:=ZCp 8 n (by omega)
theorem ZxK {n:Nat} (h:n≤9223372036854775807):Zh3 fuel (n:Int)=some (Xl n):=by
 unfold Zh3
 refine Exists.elim (WI (step:=Zew fuel) (fun s=>∃m:Nat,s.1=(m:Int)∧m≤n∧s.2++Xl m=Xl n) (fun s=>s.1.toNat) (fun x=>∃m:Nat,x.1=(m:Int)∧m < 128∧x.2++Xl m=Xl n) ?_ ((n:Int),([]:List UInt8)) ⟨n,rfl,Nat.le_refl _,rfl⟩ (by dsimp only;omega)) ?_
 ·rintro ⟨_,o⟩ ⟨m,rfl,hm,ho⟩
  unfold Zew
  dsimp only at ho ⊢
  have hr:=congrArg ybx ho
  have hl:=ZP h
  rw [yj] at hr
  by_cases h1:m < 128
  ·right
   rw [if_neg (by rw [decide_eq_true_iff];omega)]
   exact ⟨_,rfl,m,rfl,h1,ho⟩
  ·left
   rw [if_pos (decide_eq_true (by omega)),if_pos (Ya (by omega) (by omega))]
   have e1:Int.tmod (m:Int) 128=((m % 128:Nat):Int):=rfl
   have e2:Int.tdiv (m:Int) 128=((m / 128:Nat):Int):=rfl
   rw [e1,e2,Zv (z:=((m % 128:Nat):Int)+128) (by omega) (by omega),Zv (z:=((m / 128:Nat):Int)) (by omega) (by omega)]
   refine ⟨_,rfl,⟨m / 128,rfl,by omega, ?_⟩,by dsimp only;omega⟩
   dsimp only
   rw [←ho,ZzH h1,yz]
   congr 1
   rw [List.singleton_append]
   congr 1
   unfold w8
   congr 1
   omega
 ·rintro ⟨_,o⟩ ⟨h1,m,rfl,h2,h3⟩
  dsimp only at h3 ⊢
  have hr:=congrArg ybx h3
  have hl:=ZP h
  rw [yj] at hr
  rw [h1,ya]
  dsimp only
  rw [if_pos (Ya (by omega) (by omega)), ←h3,ZnC h2]
  congr 3
  unfold w8
  congr 1
  omega
theorem VN {b:List UInt8} {z:Int} (h0:0≤z) (h:z≤9223372036854775807) (hb:b.length≤1000000):WJ fuel b z=some (b++Xl z.toNat):=by
 obtain ⟨n,rfl⟩:=Int.eq_ofNat_of_zero_le h0
 have:=ZP (n:=n) (by omega)
 unfold WJ
 rw [if_neg (by rw [decide_eq_true_iff];omega),ZxK (by omega),ya,ZoP (by omega),ya,yba]
def ZoQ (l:List UInt8) (n k:Nat):List UInt8:=l.take k++List.replicate (n - k) 0
theorem ZDF {l:List UInt8} {n k:Nat} (h:k < l.length) (h2:l.length≤n):(ZoQ l n k)[k]? =some 0:=by
 unfold ZoQ
 have h3:(l.take k).length=k:=by simp;omega
 rw [List.getElem?_append_right (by omega),h3,List.getElem?_replicate]
 simp
 omega
theorem ZDG {l:List UInt8} {n k:Nat} {d:UInt8} (hx:l[k]? =some d) (h2:l.length≤n):(ZoQ l n k).set k d=ZoQ l n (k+1):=by
 have h:k < l.length:=(yl.1 hx).1
 have h3:(l.take k).length=k:=by simp;omega
 unfold ZoQ
 rw [QU hx,List.set_append_right _ _ (by omega),h3,Nat.sub_self]
 have e:n - k=(n - (k+1))+1:=by omega
 rw [e,List.replicate_succ]
 simp
theorem ZDH {l:List UInt8} {n:Nat} (h:l.length=n):ZoQ l n n=l:=by
 unfold ZoQ
 rw [←h]
 simp
def ZuR (n:Nat):List UInt8:=(List.range 8).map fun i=>yaz (n / 2 ^ (56 - 8*i))
theorem Zlm (n:Nat):(ZuR n).length=8:=by simp [ZuR]
theorem ZFX (n:Nat) {k:Nat} (hk:k < 8):(ZuR n)[k]? =some (yaz (n / 2 ^ (56 - 8*k))):=by simp [ZuR,hk]
theorem ZFY (x:UInt64) {m:Nat}:w8 ((ZA x m).toNat:Int)=yaz (x.toNat / 2 ^ m):=by
 unfold w8 ZA
 have h:x.toNat / 2 ^ m < 18446744073709551616:=Nat.lt_of_le_of_lt (Nat.div_le_self ..) (ybo _)
 rw [yav,yac h]
 apply UInt8.toNat_inj.1
 rw [UInt8.toNat_ofNat',UInt8.toNat_ofNat']
 omega
theorem ZvM {b:List UInt8} (x:UInt64) (hb:b.length≤1000000):Zbu fuel b x=some (b++ZuR x.toNat):=by
 unfold Zbu
 rw [show (b,x,(0:Int),([0,0,0,0,0,0,0,0]:List UInt8))=(fun k:Nat=>(b,x,(k:Int),ZoQ (ZuR x.toNat) 8 k)) 0 from rfl,
  ZG (x:=(b,ZuR x.toNat)) 8 (fun k:Nat=>(b,x,(k:Int),ZoQ (ZuR x.toNat) 8 k)) ?_ ?_ (by omega),ya]
 ·dsimp only
  rw [ZoP (by rw [Zlm];omega),ya]
 ·intro k hk
  unfold Zao
  dsimp only
  have hl:=Zlm x.toNat
  rw [if_pos (decide_eq_true (by omega)),Zv (z:=8*(k:Int)) (by omega) (by omega),Zv (z:=56 - 8*(k:Int)) (by omega) (by omega),if_pos (decide_eq_true (by omega)),if_pos (ZW (by omega) (by omega)),
   yba,ZDF (by omega) (by omega),ya,Zu (by omega)]
  have e:min (56 - 8*(k:Int)).toNat 64=56 - 8*k:=by omega
  rw [e,ZFY,ZDG (ZFX _ hk) (by omega)]
 ·unfold Zao
  dsimp only
  rw [if_neg (by simp),ZDH (Zlm _)]
def ZI6 (b:YI):Prop:=b.1.length≤12∧0≤b.2.1∧b.2.1≤1048576∧0≤b.2.2.1∧b.2.2.1≤1048576
def ZI7 (b:YI):Prop:=(∀p,p∈b.1→WT p.toNat)∧(b.2.2.2≠0→WT b.2.2.2.toNat)
def Vc (l:XP):Prop:=0 < l.length∧l.length≤4∧∀b,b∈l→ZI6 b
def V1 (l:XP):Prop:=∀b,b∈l→ZI7 b
theorem ZI8 (p:UInt64):VX fuel p=some (!decide (WT p.toNat)):=by
 unfold VX
 rw [Yc,ya]
theorem ZFZ {p:UInt64} (h:WT p.toNat):VX fuel p=some false:=by rw [ZI8,decide_eq_true h];rfl
theorem ZJT {l:List UInt64} (hl:l.length≤12) (h:∀p,p∈l→WT p.toNat):ZcM fuel l=some false:=by
 unfold ZcM Zbq
 rw [show (l,(l.length:Int),(0:Int))=(fun k:Nat=>(l,(l.length:Int),(k:Int))) 0 from rfl,
  ZG (x:=.inr ()) l.length (fun k:Nat=>(l,(l.length:Int),(k:Int))) ?_ ?_ (by omega),ya]
 ·rfl
 ·intro k hk
  obtain ⟨e,he,hm⟩:=Zj hk
  unfold W1
  dsimp only
  rw [if_pos (ZY hk),Zr he,ya,ZFZ (h e hm),ya,Zu (by omega)]
  rfl
 ·unfold W1
  dsimp only
  rw [if_neg (by rw [ZQ];decide)]
theorem ZvN {z:Int} (h0:0≤z) (h1:z≤1048576):Zbr fuel z=some true:=by
 unfold Zbr
 rw [if_pos (decide_eq_true h0),decide_eq_true h1]
theorem QM {l:XP} (h:Vc l) (hp:V1 l):QE fuel l=some true:=by
 unfold QE
 obtain ⟨h0,h1,h2⟩:=h
 rw [show (l,(l.length:Int),(0:Int),l)=(fun k:Nat=>(l,(l.length:Int),(k:Int),l)) 0 from rfl,
  ZG (x:=.inr l) l.length (fun k:Nat=>(l,(l.length:Int),(k:Int),l)) ?_ ?_ (by omega),ya]
 ·dsimp only
  rw [if_pos (decide_eq_true (by omega)),decide_eq_true (by omega)]
 ·intro k hk
  obtain ⟨e,he,hm⟩:=Zj hk
  obtain ⟨e1,e2,e3,e4,e5⟩:=h2 e hm
  obtain ⟨p1,p2⟩:=hp e hm
  unfold Zbs
  dsimp only
  rw [if_pos (ZY hk),Zr he,ya,if_neg (by rw [decide_eq_true_iff];omega),ZJT e1 p1,ya,ZvN e2 e3,ya,ZvN e4 e5,ya,Zu (by omega),if_neg (by decide),if_neg (by decide),if_neg (by decide)]
  by_cases hz:e.2.2.2=0
  ·rw [if_neg (by simp [hz])]
  ·rw [if_pos (by simp [hz]),ZFZ (p2 hz),ya,if_neg (by decide)]
 ·unfold Zbs
  dsimp only
  rw [if_neg (by rw [ZQ];decide)]
def cat {α:Type} (f:α→List UInt8) (l:List α):List UInt8:=(l.map f).flatten
theorem Zdq {α:Type} {f:α→List UInt8} {l:List α} {k:Nat} {e:α} (h:l[k]? =some e):cat f (l.take (k+1))=cat f (l.take k)++f e:=by
 unfold cat
 rw [QU h,yaf,List.flatten_append]
 simp
theorem ZF0 {α:Type} {f:α→List UInt8} {l:List α} {e:α}:cat f (e::l)=f e++cat f l:=rfl
theorem ZCq {α:Type} {f:α→List UInt8} {c:Nat}:∀{l:List α},(∀x,x∈l→(f x).length≤c)→(cat f l).length≤l.length*c
 |[],_=>by simp [cat]
 |e::l,h=>by
  have h1:=h e (yak ..)
  have h2:=ZCq (l:=l) fun x hx=>h x (yal _ hx)
  rw [ZF0,yj,yad,Nat.succ_mul]
  omega
theorem ZbG {α:Type} {f:α→List UInt8} {c n:Nat} {l:List α} (h:∀x,x∈l→(f x).length≤c) (hn:l.length≤n) (k:Nat):(cat f (l.take k)).length≤n*c:=by
 refine Nat.le_trans (ZCq fun x hx=>h x (List.mem_of_mem_take hx)) (Nat.mul_le_mul_right c ?_)
 rw [yag]
 omega
def ZF1 (p:UInt64):List UInt8:=ZuR p.toNat
def brF (b:YI):List UInt8:=Xl b.1.length++(cat ZF1 b.1++(Xl b.2.1.toNat++(Xl b.2.2.1.toNat++ZuR b.2.2.2.toNat)))
def ZgX (l:XP):List UInt8:=Xl l.length++cat brF l
theorem ZtX {l:List UInt64} (h:l.length≤12) (k:Nat):(cat ZF1 (l.take k)).length≤96:=ZbG (c:=8) (fun x _=>Nat.le_of_eq (Zlm _)) h k
theorem ZCr {b:YI} (h:b.1.length≤12∧0≤b.2.1∧b.2.1≤1048576∧0≤b.2.2.1∧b.2.2.1≤1048576):(brF b).length≤131:=by
 have h1:=ZtX h.1 b.1.length
 rw [yau] at h1
 have h2:=ZP (n:=b.1.length) (by omega)
 have h3:=ZP (n:=b.2.1.toNat) (by omega)
 have h4:=ZP (n:=b.2.2.1.toNat) (by omega)
 have h5:=Zlm b.2.2.2.toNat
 unfold brF
 simp only [yj]
 omega
theorem Zcs {l:XP} (h:Vc l):(ZgX l).length≤533:=by
 have h1:=ZbG (f:=brF) (c:=131) (fun x hx=>ZCr (h.2.2 x hx)) h.2.1 l.length
 rw [yau] at h1
 have h2:=ZP (n:=l.length) (by have:=h.2.1;omega)
 unfold ZgX
 rw [yj]
 omega
theorem ZDI {c:List UInt8} (hc:c.length≤100000) {bs:List YI} {n i:Int} {ks:List UInt64} {l:XP} {e:YI} (hk:ks.length≤12):
 Zd (QI fuel) fuel (c,bs,n,i,ks,(ks.length:Int),(0:Int),l,e)=some (c++cat ZF1 ks,bs,n,i,l,e):=by
 rw [show (c,bs,n,i,ks,(ks.length:Int),(0:Int),l,e)=(fun k:Nat=>(c++cat ZF1 (ks.take k),bs,n,i,ks,(ks.length:Int),(k:Int),l,e)) 0 by simp [cat]]
 refine ZG ks.length (fun k:Nat=>(c++cat ZF1 (ks.take k),bs,n,i,ks,(ks.length:Int),(k:Int),l,e)) ?_ ?_ (by omega)
 ·intro k hk2
  obtain ⟨e,he,_⟩:=Zj hk2
  have hl:=ZtX hk k
  unfold QI
  dsimp only
  rw [if_pos (ZY hk2),Zr he,ya,ZvM _ (by rw [yj];omega),ya,Zu (by omega),Zdq he,yz]
  rfl
 ·unfold QI
  dsimp only
  rw [if_neg (by rw [ZQ];decide),yau]
theorem Zi3 {l:XP} (h:Vc l) (hp:V1 l):Zdn fuel l=some (ZgX l):=by
 unfold Zdn
 have h0:=h.2.1
 have h9:=ZP (n:=l.length) (by omega)
 rw [QM h hp,ya,if_neg (by decide),VN (by omega) (by omega) (by simp),ya,List.nil_append,yba]
 rw [show (Xl l.length,l,(l.length:Int),(0:Int),l)=(fun k:Nat=>(Xl l.length++cat brF (l.take k),l,(l.length:Int),(k:Int),l)) 0 by simp [cat],
  ZG (x:=(ZgX l,l)) l.length (fun k:Nat=>(Xl l.length++cat brF (l.take k),l,(l.length:Int),(k:Int),l)) ?_ ?_ (by omega),ya]
 ·intro k hk
  obtain ⟨e,he,hm⟩:=Zj hk
  obtain ⟨e1,e2,e3,e4,e5⟩:=h.2.2 e hm
  have hl:=ZbG (f:=brF) (c:=131) (fun x hx=>ZCr (h.2.2 x hx)) h.2.1 k
  have hr:=ZP (n:=e.1.length) (by omega)
  have hr2:=ZP (n:=e.2.1.toNat) (by omega)
  have hr3:=ZP (n:=e.2.2.1.toNat) (by omega)
  have hk8:=ZtX e1 e.1.length
  rw [yau] at hk8
  unfold Zbv
  dsimp only
  rw [if_pos (ZY hk),Zr he,ya,VN (by omega) (by omega) (by rw [yj];omega),ya,yba,
   ZDI (by simp only [yj];omega) e1,ya]
  dsimp only
  rw [VN e2 (by omega) (by simp only [yj];omega),ya,VN e4 (by omega) (by simp only [yj];omega),ya,
   ZvM _ (by simp only [yj];omega),ya,Zu (by omega),Zdq he]
  unfold brF
  simp only [yz]
 ·unfold Zbv
  dsimp only
  rw [if_neg (by rw [ZQ];decide),yau]
  rfl
theorem ZF2 {l:XP} (h:Vc l) (hp:V1 l):∃o,ZlM fuel l=some o∧o.length=32:=by
 unfold ZlM
 obtain ⟨o,h1,h2⟩:=ZbF (s:=ZHN) (ls:=[ZgX l]) (by decide) (by simp) (by intro x hx;rw [yae.1 hx];have:=Zcs h;omega)
 rw [QM h hp,ya,if_neg (by decide),Zi3 h hp,ya,h1,ya]
 exact ⟨_,rfl,h2⟩
theorem ZzI {z:Int} (h0:0≤z) (h1:z≤1125899906842624):Zfw fuel z=some true:=by
 unfold Zfw
 rw [if_pos (decide_eq_true h0),decide_eq_true h1]
theorem Zrp {a b:Int} (h0:0≤a) (h1:0≤b) (h2:a+b≤1125899906842624):ZhV fuel a b=some (a+b,true):=by
 unfold ZhV
 rw [ZzI h0 (by omega),ya,if_neg (by decide),ZzI h1 (by omega),ya,if_neg (by decide),Zv (z:=1125899906842624 - b) (by omega) (by omega),Zv (z:=a+b) (by omega) (by omega),if_neg (by rw [decide_eq_true_iff];omega)]
end Go.Proofs.YtjbbdlffilcaaaaGreat
end
section
set_option maxRecDepth 4000
namespace Go.Proofs.YtjbbdlffilcaaaaGreat
open Go Go.Ev
def Tm (d:Int):Vs:=(100,200,d,16,1,1125899906842624)
noncomputable def ZC (k:Kit):VE:=(B k.1.toNat,B k.2.1.toNat,B k.2.2.1.toNat,B k.2.2.2.1.toNat,B k.2.2.2.2.1.toNat)
def KitOk (k:Kit):Prop:=Key k.1∧Key k.2.1∧Key k.2.2.1∧Key k.2.2.2.1∧Key k.2.2.2.2.1
def z32:List UInt8:=[0,0,0,0,0,0,0,0,0,0,0,0,0,0,0,0,0,0,0,0,0,0,0,0,0,0,0,0,0,0,0,0]
noncomputable def chan (A:Int) (k0 k1:Kit) (op:Int):ZO:=((z32,0),A,[ZC k0,ZC k1],[Tm 5,Tm 6],op)
structure ChOk (A:Int) (k0 k1:Kit) (op:Int):Prop where
 lo:20000≤A
 hi:A≤4300000000
 o:op=0∨op=1
 k0:KitOk k0
 k1:KitOk k1
theorem ZvO {k:UInt64} (h:Key k):B k.toNat≠1:=ZJ8 h.1 h.2
theorem ZI9 {k:UInt64} (h:Key k):V8 fuel (B k.toNat)=some true:=by
 unfold V8
 rw [ZpP,ya,if_pos (decide_eq_true (Q5 _))]
 exact congrArg some (bne_iff_ne.2 (ZvO h))
theorem ZnD {k:Kit} (h:KitOk k):∀p,p∈[(ZC k).1,(ZC k).2.1,(ZC k).2.2.1,(ZC k).2.2.2.1,(ZC k).2.2.2.2]→∃x:UInt64,Key x∧p=B x.toNat:=by
 obtain ⟨h1,h2,h3,h4,h5⟩:=h
 intro p hp
 simp only [yax,ybs,or_false] at hp
 rcases hp with rfl|rfl|rfl|rfl|rfl
 ·exact ⟨_,h1,rfl⟩
 ·exact ⟨_,h2,rfl⟩
 ·exact ⟨_,h3,rfl⟩
 ·exact ⟨_,h4,rfl⟩
 ·exact ⟨_,h5,rfl⟩
theorem rin {z a b:Int} (h1:a≤z) (h2:z≤b):ZR fuel z a b=some true:=by
 unfold ZR
 rw [if_pos (decide_eq_true h1),decide_eq_true h2]
theorem ZzJ {z a b:Int} (h1:a≤z) (h2:z≤b):Z6 fuel z a b=some true:=by
 unfold Z6
 rw [if_pos (decide_eq_true h1),decide_eq_true h2]
theorem ZF3 {d:Int} (h1:1≤d) (h2:d≤4096):Vi fuel (Tm d)=some true:=by
 unfold Vi Tm
 dsimp only
 rw [rin (by omega) (by omega),ya,if_pos rfl,rin (by omega) (by omega),ya,if_pos rfl,rin h1 h2,ya,if_pos rfl,rin (by omega) (by omega),ya,if_pos rfl,rin (by omega) (by omega),ya,if_pos rfl,rin (by omega) (by omega)]
 rfl
theorem ZvP (i:Int) (ch:ZO) (b:VE) {l:List UInt64} (hl:l.length=5) (h:∀p,p∈l→∃x:UInt64,Key x∧p=B x.toNat):Zd (XZ fuel) fuel (i,l,(0:Int),ch,b)=some (.inr (i,ch,b)):=by
 refine ZG 5 (fun k:Nat=>(i,l,(k:Int),ch,b)) ?_ ?_ (by omega)
 ·intro k hk
  obtain ⟨e,he,hm⟩:=Zj (l:=l) (k:=k) (by omega)
  obtain ⟨x,hx,rfl⟩:=h e hm
  unfold XZ
  dsimp only
  rw [if_pos (decide_eq_true (by omega)),Zr he,ya,ZI9 hx,ya,if_neg (by decide),Zu (by omega)]
 ·unfold XZ
  dsimp only
  rw [if_neg (by rw [decide_eq_true_iff];omega)]
theorem ZJ9 {A:Int} {k0 k1:Kit} {op:Int} (h:ChOk A k0 k1 op):V9 fuel (chan A k0 k1 op)=some 0:=by
 obtain ⟨h1,h2,h3,h4,h5⟩:=h
 have hA:(chan A k0 k1 op).2.1=A:=rfl
 have hN:(chan A k0 k1 op).1.2=0:=rfl
 have hO:(chan A k0 k1 op).2.2.2.2=op:=rfl
 have hT:(chan A k0 k1 op).2.2.2.1=[Tm 5,Tm 6]:=rfl
 have hB:(chan A k0 k1 op).2.2.1=[ZC k0,ZC k1]:=rfl
 unfold V9
 rw [hA,hN,hO,rin (by omega) (by omega),ya,if_neg (by decide),rin (by omega) (by omega),ya,if_neg (by decide),rin (by omega) (by omega),ya,if_neg (by decide)]
 generalize hc:chan A k0 k1 op=c at*
 rw [show ((0:Int),c)=(fun k:Nat=>((k:Int),c)) 0 from rfl,ZG (x:=.inr c) 2 (fun k:Nat=>((k:Int),c)) ?_ ?_ (by omega),ya]
 ·dsimp only
  rw [hT]
  show (if decide (wi (200+200) > c.2.1)=true then some (10:Int) else some 0)=some 0
  rw [hA,Zv (by omega) (by omega),if_neg (by rw [decide_eq_true_iff];omega)]
 ·intro k hk
  unfold WY
  dsimp only
  rw [if_pos (decide_eq_true (by omega)),if_pos (ZW (by omega) (by omega)),yba,hB,hT]
  match k,hk with
  |0,_=>
   show (yao (some (ZC k0)) _)=_
   rw [ya,if_pos (by decide)]
   show (yao (some (Tm 5)) _)=_
   rw [ya,ZF3 (by omega) (by omega),ya,if_neg (by decide),ZvP _ _ _ rfl (ZnD h4),ya]
   rfl
  |1,_=>
   show (yao (some (ZC k1)) _)=_
   rw [ya,if_pos (by decide)]
   show (yao (some (Tm 6)) _)=_
   rw [ya,ZF3 (by omega) (by omega),ya,if_neg (by decide),ZvP _ _ _ rfl (ZnD h5),ya]
   rfl
 ·unfold WY
  dsimp only
  rw [if_neg (by rw [decide_eq_true_iff];omega)]
def CondIn (c:ZB):Prop:=(c.1=0∨c.1=1)∧1≤c.2.1∧c.2.1≤1048576∧1≤c.2.2.1∧c.2.2.1≤65536∧WT c.2.2.2.1.toNat∧c.2.2.2.1≠1∧1≤c.2.2.2.2∧c.2.2.2.2≤65536
def Ahd (a b:ZB):Prop:=a.1 < b.1∨a.1=b.1∧a.2.1 < b.2.1
instance (a b:ZB):Decidable (Ahd a b):=by unfold Ahd;infer_instance
theorem ZDJ {a b c:ZB} (h:Ahd a b) (k:Ahd b c):Ahd a c:=by unfold Ahd at*;omega
theorem ZJa {a b:ZB} (h:a.2.1≠b.2.1) (k:¬Ahd a b):Ahd b a:=by unfold Ahd at*;omega
theorem ZvQ (a b:ZB):Wh fuel a b=some (decide (Ahd a b)):=by
 unfold Wh
 by_cases h1:a.1 < b.1
 ·rw [if_pos (decide_eq_true h1),decide_eq_true (p:=Ahd a b) (Or.inl h1)]
 ·rw [if_neg (by rw [decide_eq_true_iff];exact h1)]
  by_cases h2:a.1=b.1
  ·rw [if_pos (by rw [h2];exact beq_self_eq_true _)]
   congr 1
   rw [decide_eq_decide]
   unfold Ahd
   omega
  ·rw [if_neg (by rw [beq_iff_eq];exact h2),decide_eq_false (p:=Ahd a b) (by unfold Ahd;omega)]
theorem ZHP {c:ZB} (h:CondIn c):Wz fuel c=some true:=by
 obtain ⟨h1,h2,h3,h4,h5,h6,h7,h8,h9⟩:=h
 unfold Wz
 rw [ZpP,ya,if_pos (decide_eq_true h6),if_pos (bne_iff_ne.2 h7),ZzJ (by omega) (by omega),ya,if_pos rfl,ZzJ h2 h3,ya,if_pos rfl,ZzJ h4 (by omega),ya,if_pos rfl,ZzJ h8 (by omega)]
 rfl
def amtC (l:List ZB):Int:=(l.map (·.2.2.1)).sum
theorem ZvR {l:List ZB} {k:Nat} {e:ZB} (h:l[k]? =some e):amtC (l.take (k+1))=amtC (l.take k)+e.2.2.1:=by
 unfold amtC
 rw [QU h,yaf,List.sum_append]
 simp
theorem Zi4 {l:List ZB} (h:∀c,c∈l→CondIn c):0≤amtC l∧amtC l≤65536*(l.length:Int):=by
 induction l with
 |nil=>exact ⟨Int.le_refl _,Int.le_refl _⟩
 |cons c r ih=>
  obtain ⟨h1,h2⟩:=ih fun x hx=>h x (yal _ hx)
  have hc:=h c (yak ..)
  have e:amtC (c::r)=c.2.2.1+amtC r:=rfl
  rw [e,yad]
  have:=hc.2.2.2.1
  have:=hc.2.2.2.2.1
  omega
theorem ZtY {l:List ZB} (h:∀c,c∈l→CondIn c) (k:Nat):0≤amtC (l.take k)∧amtC (l.take k)≤65536*(l.length:Int):=by
 have h1:=Zi4 (l:=l.take k) fun c hc=>h c (List.mem_of_mem_take hc)
 rw [yag] at h1
 omega
structure StIn (A:Int) (s:State) (h0 h1:Int):Prop where
 n0:0≤s.1
 n1:s.1≤65535
 hv:s.2.1=[h0,h1]
 p0:0≤h0
 p1:0≤h1
 r0:0≤s.2.2.2
 r1:s.2.2.2≤7
 len:s.2.2.1.length≤16
 cs:∀c,c∈s.2.2.1→CondIn c
 srt:s.2.2.1.Pairwise Ahd
 tot:h0+h1+amtC s.2.2.1=A
def cost (r:Int) (n:Nat):Int:=r*(68+8*(n:Int))+660
theorem ZxL {r m:Int} (h0:0≤r) (h1:r≤7) (h2:0≤m):0≤r*m∧r*m≤7*m:=⟨Int.mul_nonneg h0 h2,Int.mul_le_mul_of_nonneg_right h1 h2⟩
theorem ZlP {r:Int} {n:Nat} (h0:0≤r) (h1:r≤7) (h2:n≤16):660≤cost r n∧cost r n≤2032:=by
 have:=ZxL (m:=68+8*(n:Int)) h0 h1 (by omega)
 unfold cost
 omega
theorem ZJU {r:Int} {n:Nat} (h0:0≤r) (h1:r≤7) (h2:n≤16):Qa fuel r (n:Int)=some (r*(68+8*(n:Int))):=by
 have:=ZxL (m:=68+8*(n:Int)) h0 h1 (by omega)
 unfold Qa
 rw [rin h0 (by omega),ya,if_neg (by decide)]
 unfold Qs
 rw [rin (by omega) (by omega),ya,if_neg (by decide),ya,Zv (z:=4+(n:Int)) (by omega) (by omega),Zv (z:=(4+(n:Int))*8) (by omega) (by omega),Zv (z:=36+(4+(n:Int))*8) (by omega) (by omega),show 36+(4+(n:Int))*8=68+8*(n:Int) by omega,Zv (by omega) (by omega)]
theorem ZJV {A:Int} {s:State} {h0 h1:Int} (h:StIn A s h0 h1) (ch:ZO):Y2 fuel ch s=some (cost s.2.2.2 s.2.2.1.length):=by
 have:=ZlP h.r0 h.r1 h.len
 unfold Y2
 unfold cost at*
 rw [ZJU h.r0 h.r1 h.len,ya,Zv (by omega) (by omega)]
theorem ZJb {A:Int} {s:State} {h0 h1:Int} (h:StIn A s h0 h1) (hA:A≤4300000000):Vj fuel s=some A:=by
 obtain ⟨no,hv,l,r⟩:=s
 obtain ⟨_,_,hh,p0,p1,_,_,hl,hc,_,ht⟩:=h
 dsimp only at hh hl hc ht
 subst hh
 unfold Vj
 show yao (some h0) _=_
 rw [ya]
 show yao (some h1) _=_
 have hb:=fun k=>ZtY hc k
 have hb':=Zi4 hc
 rw [ya,Zv (z:=h0+h1) (by omega) (by omega),show (h0+h1,(0:Int),(no,[h0,h1],l,r))=(fun k:Nat=>(h0+h1+amtC (l.take k),(k:Int),(no,[h0,h1],l,r))) 0 by simp [amtC],
  ZG (x:=(A,(no,[h0,h1],l,r))) l.length (fun k:Nat=>(h0+h1+amtC (l.take k),(k:Int),(no,[h0,h1],l,r))) ?_ ?_ (by omega),ya]
 ·intro k hk
  obtain ⟨e,he,hm⟩:=Zj hk
  have h1:=hb k
  have h2:=hb (k+1)
  have h3:=ZvR he
  unfold Wj
  dsimp only
  rw [if_pos (ZY hk),Zr he,ya,Zv (by omega) (by omega),Zu (by omega),h3,Int.add_assoc]
 ·unfold Wj
  dsimp only
  rw [if_neg (by rw [ZQ];decide),yau,ht]
theorem ZJW {A:Int} {s:State} {h0 h1:Int} (h:StIn A s h0 h1) {to:Int} (ht:to=0∨to=1):∃n m,XM fuel s to=some (n,m)∧0≤n∧n≤16∧0≤m∧m≤2000000:=by
 obtain ⟨no,hv,l,r⟩:=s
 have hl:=h.len
 have hc:=h.cs
 dsimp only at hl hc
 unfold XM
 obtain ⟨x,g1,n,m,rfl,g2⟩:=Z4 (step:=YP fuel) l.length (fun k q=>∃n m,q=(to,n,m,(k:Int),(no,hv,l,r))∧0≤n∧n≤(k:Int)∧0≤m∧m≤65536*(k:Int)) (fun x=>∃n m,x=(n,m,(no,hv,l,r))∧0≤n∧n≤16∧0≤m∧m≤2000000) (i:=(to,(0:Int),(0:Int),(0:Int),(no,hv,l,r))) ⟨0,0,rfl,by omega⟩ (by omega) (by
  rintro k _ hk ⟨n,m,rfl,q⟩
  left
  obtain ⟨e,he,hm⟩:=Zj hk
  have h4:=(hc e hm).2.2.2.1
  have h5:=(hc e hm).2.2.2.2.1
  unfold YP
  dsimp only
  rw [if_pos (ZY hk),Zr he,ya,Zu (by omega)]
  split
  ·rw [ya,Zv (z:=n+1) (by omega) (by omega),Zv (z:=m+e.2.2.1) (by omega) (by omega)]
   exact ⟨_,rfl,_,_,rfl,by omega⟩
  ·exact ⟨_,rfl,_,_,rfl,by omega⟩) (by
  rintro _ ⟨n,m,rfl,q⟩
  unfold YP
  dsimp only
  rw [if_neg (by rw [ZQ];decide)]
  exact ⟨_,rfl,_,_,rfl,by omega⟩)
 rw [g1,ya]
 exact ⟨_,_,rfl,g2⟩
def hav (op h0 h1:Int):Int:=if op=0 then h0 else h1
theorem ZBc {i:Int} (h:i=0∨i=1):∃d,([Tm 5,Tm 6]:List Vs)[(wi (1 - i)).toNat]? =some (Tm d):=by
 rcases h with rfl|rfl
 ·exact ⟨6,rfl⟩
 ·exact ⟨5,rfl⟩
theorem ZoR {i:Int} (h:i=0∨i=1):inB (wi (1 - i)) 2=true:=by
 rcases h with rfl|rfl <;> rfl
theorem YC {i:Int} (h:i=0∨i=1):inB i 2=true:=by
 rcases h with rfl|rfl <;> rfl
theorem ZgY {op h0 h1:Int} (h:op=0∨op=1):([h0,h1]:List Int)[op.toNat]? =some (hav op h0 h1):=by
 rcases h with rfl|rfl <;> rfl
theorem ZvS {A:Int} {k0 k1:Kit} {op:Int} (h:ChOk A k0 k1 op) {s:State} {h0 h1:Int} (hs:StIn A s h0 h1):XC fuel (chan A k0 k1 op) s=some (decide (hav op h0 h1 ≥ cost s.2.2.2 s.2.2.1.length)):=by
 have hT:(chan A k0 k1 op).2.2.2.1=[Tm 5,Tm 6]:=rfl
 have hA:(chan A k0 k1 op).2.1=A:=rfl
 have hO:(chan A k0 k1 op).2.2.2.2=op:=rfl
 have hlo:=h.lo
 have hhi:=h.hi
 have hco:=ZJV hs (chan A k0 k1 op)
 have hto:=ZJb hs h.hi
 have hof:=fun to ht=>ZJW hs (to:=to) ht
 have hb:=Zi4 hs.cs
 unfold XC
 rw [ZJ9 h,ya,if_neg (by decide)]
 generalize hc:chan A k0 k1 op=c at*
 obtain ⟨no,hv,l,r⟩:=s
 obtain ⟨n0,n1,hh,p0,p1,r0,r1,hl,hcs,hsr,ht⟩:=hs
 dsimp only at n0 n1 hh p0 p1 r0 r1 hl hcs hsr ht hb
 subst hh
 dsimp only
 rw [ZzJ n0 (by omega),ya,if_neg (by decide)]
 show yao (some h0) _=_
 rw [ya,ZzJ p0 (by omega),ya,if_neg (by decide)]
 show yao (some h1) _=_
 rw [ya,ZzJ p1 (by omega),ya,if_neg (by decide),ZzJ r0 (by omega),ya,if_neg (by decide),if_neg (by rw [decide_eq_true_iff];omega)]
 rw [show ((0:Int),c,(no,[h0,h1],l,r))=(fun k:Nat=>((k:Int),c,(no,[h0,h1],l,r))) 0 from rfl,ZG (x:=.inr (c,(no,[h0,h1],l,r))) l.length (fun k:Nat=>((k:Int),c,(no,[h0,h1],l,r))) ?_ ?_ (by omega),ya]
 ·dsimp only
  rw [show ((0:Int),c,(no,[h0,h1],l,r))=(fun k:Nat=>((k:Int),c,(no,[h0,h1],l,r))) 0 from rfl,ZG (x:=.inr (c,(no,[h0,h1],l,r))) 2 (fun k:Nat=>((k:Int),c,(no,[h0,h1],l,r))) ?_ ?_ (by omega),ya]
  ·dsimp only
   rw [hto,ya,hA,if_pos (beq_self_eq_true _),hO,if_pos (YC h.o),ZgY h.o,ya,hco,ya]
  ·intro k hk
   obtain ⟨n,m,e1,e2,e3,e4,e5⟩:=hof (k:Int) (by omega)
   have ht:∃d,c.2.2.2.1[k]? =some (Tm d):=by
    rw [hT]
    match k,hk with
    |0,_=>exact ⟨_,rfl⟩
    |1,_=>exact ⟨_,rfl⟩
   obtain ⟨d,hd⟩:=ht
   unfold Wm
   dsimp only
   rw [if_pos (decide_eq_true (by omega)),e1,ya,if_pos (ZW (by omega) (by omega)),yba,hd,ya,ya,Zu (by omega)]
   rw [if_neg (by rw [decide_eq_true_iff];show ¬n > 16;omega),if_pos (ZW (by omega) (by omega)),if_neg (by rw [decide_eq_true_iff];show ¬m > 1125899906842624;omega)]
  ·unfold Wm
   dsimp only
   rw [if_neg (by rw [decide_eq_true_iff];omega)]
 ·intro k hk
  obtain ⟨e,he,hm⟩:=Zj hk
  obtain ⟨d,hd⟩:=ZBc (hcs e hm).1
  have h4:=(hcs e hm).2.2.2.1
  have hlt:¬(e.2.2.1 < (Tm d).2.2.2.2.1):=by show ¬(e.2.2.1 < 1);omega
  unfold Wl
  dsimp only
  rw [if_pos (ZY hk),Zr he,ya,ZHP (hcs e hm),ya,if_neg (by decide)]
  have tail:((some e).bind fun e169=>(some e).bind fun e170=>if (inB (wi (1 - e170.1)) 2)=true then (c.2.2.2.1[(wi (1 - e170.1)).toNat]?).bind fun e171=>if (decide (e169.2.2.1 < e171.2.2.2.2.1))=true then some (.inr (.inl (false,c,(no,[h0,h1],l,r)))) else some (.inl (wi ((k:Int)+1),c,(no,[h0,h1],l,r))) else none)=some (.inl (((k+1:Nat):Int),c,(no,[h0,h1],l,r)):(Int×ZO×State)⊕((Bool×ZO×State)⊕(ZO×State))):=by
   rw [ya,ya,if_pos (ZoR (hcs e hm).1),hT,hd,ya,if_neg (by rw [decide_eq_true_iff];exact hlt),Zu (by omega)]
  by_cases h0:k=0
  ·subst h0
   rw [if_neg (by rw [decide_eq_true_iff];omega)]
   exact tail
  ·obtain ⟨f,hf,hfm⟩:=Zj (l:=l) (k:=k - 1) (by omega)
   have hah:Ahd f e:=by
    have h7:=List.pairwise_iff_getElem.1 hsr (k - 1) k (by omega) hk (by omega)
    rw [yw (by omega)] at hf he
    cases hf
    cases he
    exact h7
   rw [if_pos (decide_eq_true (by omega)),Zv (z:=(k:Int) - 1) (by omega) (by omega),show (k:Int) - 1=((k - 1:Nat):Int) by omega,Zr hf,ya,ya,ZvQ,ya,decide_eq_true hah,if_neg (by decide)]
   exact tail
 ·unfold Wl
  dsimp only
  rw [if_neg (by rw [ZQ];decide)]
end Go.Proofs.YtjbbdlffilcaaaaGreat
end
section
set_option maxRecDepth 4000
namespace Go.Proofs.YtjbbdlffilcaaaaGreat
open Go Go.Ev
theorem ZvT {lo hi:Int} {l:List Int} (hl:l.length≤100) (h:∀x,x∈l→lo≤x∧x≤hi):YQ fuel lo hi l=some true:=by
 unfold YQ Wc WG
 rw [show (l,(l.length:Int),(0:Int),lo,hi)=(fun k:Nat=>(l,(l.length:Int),(k:Int),lo,hi)) 0 from rfl,ZG (x:=.inr (lo,hi)) l.length (fun k:Nat=>(l,(l.length:Int),(k:Int),lo,hi)) ?_ ?_ (by omega),ya]
 ·rfl
 ·intro k hk
  obtain ⟨e,he,hm⟩:=Zj hk
  have:=h e hm
  unfold YU Zdz
  dsimp only
  rw [if_pos (ZY hk),Zr he,ya,if_neg (by rw [decide_eq_true_iff];omega),ya,decide_eq_false (by omega),if_neg (by simp),Zu (by omega)]
 ·unfold YU
  dsimp only
  rw [if_neg (by rw [ZQ];decide)]
theorem w1 {lo hi z:Int} (h1:lo≤z) (h2:z≤hi):YQ fuel lo hi [z]=some true:=ZvT (by simp) fun x hx=>by rw [yae.1 hx];exact ⟨h1,h2⟩
theorem tin {z a b:Int} (h1:a≤z) (h2:z≤b):Xu fuel z a b=some true:=by
 unfold Xu
 rw [if_pos (decide_eq_true h1),decide_eq_true h2]
theorem ZF4 {d:Int} (h1:1≤d) (h2:d≤4096):Zem fuel (Tm d)=some true:=by
 unfold Zem Tm
 dsimp only
 rw [tin (by omega) (by omega),ya,if_pos rfl,tin h1 h2,ya,if_pos rfl,tin (by omega) (by omega),ya,if_pos rfl,tin (by omega) (by omega),ya,if_pos rfl,tin (by omega) (by omega),ya,if_pos rfl,tin (by omega) (by omega)]
 rfl
theorem ZCs {k:Kit} (h:KitOk k):ZcE fuel (ZC k)=some true:=by
 unfold ZcE Znd Zfx
 have hb:=ZnD h
 generalize hl:([(ZC k).1,(ZC k).2.1,(ZC k).2.2.1,(ZC k).2.2.2.1,(ZC k).2.2.2.2]:List UInt64)=l at*
 have h5:l.length=5:=by rw [←hl];rfl
 rw [show (l,(l.length:Int),(0:Int))=(fun k:Nat=>(l,(l.length:Int),(k:Int))) 0 from rfl,ZG (x:=.inr ()) l.length (fun k:Nat=>(l,(l.length:Int),(k:Int))) ?_ ?_ (by omega),ya]
 ·rfl
 ·intro k hk
  obtain ⟨e,he,hm⟩:=Zj hk
  obtain ⟨x,hx,rfl⟩:=hb e hm
  unfold Qc Zdy
  dsimp only
  rw [if_pos (ZY hk),Zr he,ya,if_neg (by rw [beq_iff_eq];exact ZvO hx),Yc,ya,decide_eq_true (Q5 _),ya,Zu (by omega)]
  rfl
 ·unfold Qc
  dsimp only
  rw [if_neg (by rw [ZQ];decide)]
theorem ZKa {A:Int} {k0 k1:Kit} {op:Int} (h:ChOk A k0 k1 op):ZiO fuel (chan A k0 k1 op)=some 0:=by
 obtain ⟨h1,h2,h3,h4,h5⟩:=h
 have hA:(chan A k0 k1 op).2.1=A:=rfl
 have hN:(chan A k0 k1 op).1.2=0:=rfl
 have hO:(chan A k0 k1 op).2.2.2.2=op:=rfl
 have hT:(chan A k0 k1 op).2.2.2.1=[Tm 5,Tm 6]:=rfl
 have hB:(chan A k0 k1 op).2.2.1=[ZC k0,ZC k1]:=rfl
 unfold ZiO
 rw [hA,hN,hO,if_neg (by rw [decide_eq_true_iff];omega),if_neg (by rw [decide_eq_true_iff];omega),if_neg (by decide),if_neg (by decide),if_neg (by rcases h3 with rfl|rfl <;> decide)]
 generalize hc:chan A k0 k1 op=c at*
 rw [hT,show (([Tm 5,Tm 6]:List Vs),(0:Int),c)=(fun k:Nat=>(([Tm 5,Tm 6]:List Vs),(k:Int),c)) 0 from rfl,ZG (x:=.inr c) 2 (fun k:Nat=>(([Tm 5,Tm 6]:List Vs),(k:Int),c)) ?_ ?_ (by omega),ya]
 ·dsimp only
  rw [hT]
  rw [show ([Tm 5,Tm 6]:List Vs)[0]? =some (Tm 5) from rfl,ya,show ([Tm 5,Tm 6]:List Vs)[1]? =some (Tm 6) from rfl,ya]
  show (yao (ZhV fuel 200 200) _)=some 0
  rw [Zrp (by omega) (by omega) (by omega),ya,if_neg (by decide),hA,if_neg (by rw [decide_eq_true_iff];show ¬(200+200 > A);omega)]
 ·intro k hk
  unfold ZcF
  dsimp only
  rw [if_pos (decide_eq_true (by omega)),hB]
  match k,hk with
  |0,_=>
   rw [Zaj (i:=((0:Nat):Int)) (y:=Tm 5) (by omega) rfl,ya,ZF4 (by omega) (by omega),ya,if_neg (by decide),if_pos (by decide)]
   show (yao (some (ZC k0)) _)=_
   rw [ya,ZCs h4,ya,if_neg (by decide)]
   rfl
  |1,_=>
   rw [Zaj (i:=((1:Nat):Int)) (y:=Tm 6) (by omega) rfl,ya,ZF4 (by omega) (by omega),ya,if_neg (by decide),if_pos (by decide)]
   show (yao (some (ZC k1)) _)=_
   rw [ya,ZCs h5,ya,if_neg (by decide)]
   rfl
 ·unfold ZcF
  dsimp only
  rw [if_neg (by rw [decide_eq_true_iff];omega)]
theorem ZJX {c:ZB} (h:CondIn c):ZgE fuel c=some true:=by
 obtain ⟨h1,h2,h3,h4,h5,h6,h7,h8,h9⟩:=h
 unfold ZgE
 rw [w1 (by omega) (by omega),ya,if_pos rfl,w1 h2 h3,ya,if_pos rfl,w1 h4 (by omega),ya,if_pos rfl,w1 h8 (by omega),ya,if_pos rfl,Yc,ya,if_pos (decide_eq_true h6)]
 exact congrArg some (bne_iff_ne.2 h7)
theorem Zct (a b:Int):YB fuel a b=some (if a < b then -1 else if a > b then 1 else 0):=by
 unfold YB Zbj
 rw [ya,ya]
 have e:∀z:Int,(z !=z)=false:=fun z=>by simp
 rw [e,e,if_neg (by decide),if_neg (by decide)]
 by_cases h1:a < b
 ·rw [if_pos (decide_eq_true h1),if_pos h1]
 ·rw [if_neg (by rw [decide_eq_true_iff];exact h1),if_neg h1]
  by_cases h2:a > b
  ·rw [if_pos (decide_eq_true h2),if_pos h2]
  ·rw [if_neg (by rw [decide_eq_true_iff];exact h2),if_neg h2]
def orL:List Int→Int
 |[]=>0
 |z::r=>if z≠0 then z else orL r
theorem ZHQ {l:List Int} (hl:l.length≤100):Zdh fuel l=some (orL l):=by
 have key:∀(d k f:Nat),k+d=l.length→d < f→∃x,Zd (Vo fuel) f ((0:Int),l,(l.length:Int),(k:Int))=some x∧(x=.inl (orL (l.drop k))∨x=.inr 0∧orL (l.drop k)=0):=by
  intro d
  induction d with
  |zero=>
   intro k f h hf
   obtain ⟨f,rfl⟩:=Nat.exists_eq_succ_of_ne_zero (n:=f) (by omega)
   have:k=l.length:=by omega
   subst this
   unfold Zd Vo
   dsimp only
   rw [if_neg (by rw [ZQ];decide),ya]
   exact ⟨_,rfl,.inr ⟨rfl,by rw [List.drop_length];rfl⟩⟩
  |succ d ih=>
   intro k f h hf
   obtain ⟨f,rfl⟩:=Nat.exists_eq_succ_of_ne_zero (n:=f) (by omega)
   have hk:k < l.length:=by omega
   obtain ⟨e,he,hm⟩:=Zj hk
   have hd:l.drop k=e::l.drop (k+1):=by
    rw [List.drop_eq_getElem_cons hk]
    rw [yw hk] at he
    cases he
    rfl
   rw [hd]
   unfold Zd Vo
   dsimp only
   rw [if_pos (ZY hk),Zr he,ya]
   by_cases h0:e=0
   ·subst h0
    rw [if_neg (by decide),ya,Zu (by omega)]
    exact ih (k+1) f (by omega) (by omega)
   ·rw [if_pos (bne_iff_ne.2 h0),ya]
    exact ⟨_,rfl,.inl (by unfold orL;rw [if_pos h0])⟩
 unfold Zdh
 obtain ⟨x,h1,h2⟩:=key l.length 0 fuel (by omega) (by rw [Zej];omega)
 rw [List.drop_zero] at h2
 show yao (Zd (Vo fuel) fuel ((0:Int),l,(l.length:Int),((0:Nat):Int))) _=_
 rw [h1,ya]
 rcases h2 with rfl|⟨rfl,h2⟩
 ·rfl
 ·rw [h2]
theorem ZJc {a b:ZB} (h:Ahd a b):∃z,Zep fuel a b=some z∧z < 0:=by
 unfold Zep
 rw [Zct,ya,Zct,ya,ZHQ (by simp),ya]
 refine ⟨_,rfl, ?_⟩
 unfold Ahd at h
 have e2:∀x y:Int,orL [x,y]=if x≠0 then x else if y≠0 then y else 0:=fun _ _=>rfl
 rw [e2]
 by_cases h1:a.1 < b.1
 ·rw [if_pos h1,if_pos (by decide)]
  decide
 ·have e:a.1=b.1:=by omega
  rw [if_neg h1,if_neg (show ¬a.1 > b.1 by omega),if_neg (by decide),if_pos (show a.2.1 < b.2.1 by omega)]
  decide
theorem ZJY {r:Int} {n:Nat} (h0:0≤r) (h1:r≤7) (h2:n≤16):ZfA fuel r (n:Int)=some (r*(68+8*(n:Int))):=by
 have:=ZxL (m:=68+8*(n:Int)) h0 h1 (by omega)
 unfold ZfA
 rw [if_neg (by rw [decide_eq_true_iff];omega),if_neg (by rw [decide_eq_true_iff];omega)]
 unfold Zhe
 rw [if_neg (by rw [decide_eq_true_iff];omega),if_neg (by rw [decide_eq_true_iff];omega),ya,Zv (z:=8*(n:Int)) (by omega) (by omega),Zv (z:=68+8*(n:Int)) (by omega) (by omega),Zv (by omega) (by omega)]
theorem ZJZ {A:Int} {s:State} {h0 h1:Int} (h:StIn A s h0 h1) (ch:ZO):ZgF fuel ch s=some (cost s.2.2.2 s.2.2.1.length):=by
 have:=ZlP h.r0 h.r1 h.len
 unfold ZgF
 unfold cost at*
 rw [ZJY h.r0 h.r1 h.len,ya,Zv (by omega) (by omega)]
theorem ZJd {A:Int} {s:State} {h0 h1:Int} (h:StIn A s h0 h1) (hA:A≤4300000000):Zeq fuel s=some A:=by
 obtain ⟨no,hv,l,r⟩:=s
 obtain ⟨_,_,hh,p0,p1,_,_,hl,hc,_,ht⟩:=h
 dsimp only at hh hl hc ht
 subst hh
 unfold Zeq
 show yao (some h0) _=_
 rw [ya]
 show yao (some h1) _=_
 have hb:=fun k=>ZtY hc k
 have hb':=Zi4 hc
 dsimp only
 rw [ya,Zv (z:=h0+h1) (by omega) (by omega),show (h0+h1,l,(l.length:Int),(0:Int),(no,[h0,h1],l,r))=(fun k:Nat=>(h0+h1+amtC (l.take k),l,(l.length:Int),(k:Int),(no,[h0,h1],l,r))) 0 by simp [amtC],
  ZG (x:=(A,(no,[h0,h1],l,r))) l.length (fun k:Nat=>(h0+h1+amtC (l.take k),l,(l.length:Int),(k:Int),(no,[h0,h1],l,r))) ?_ ?_ (by omega),ya]
 ·intro k hk
  obtain ⟨e,he,hm⟩:=Zj hk
  have h1:=hb k
  have h2:=hb (k+1)
  have h3:=ZvR he
  unfold Zak
  dsimp only
  rw [if_pos (ZY hk),Zr he,ya,Zv (by omega) (by omega),Zu (by omega),h3,Int.add_assoc]
 ·unfold Zak
  dsimp only
  rw [if_neg (by rw [ZQ];decide),yau,ht]
theorem ZKb {A:Int} {s:State} {h0 h1:Int} (h:StIn A s h0 h1) {to:Int} (ht:to=0∨to=1):∃n m,Zbl fuel s to=some (n,m)∧0≤n∧n≤16∧0≤m∧m≤2000000:=by
 obtain ⟨no,hv,l,r⟩:=s
 have hl:=h.len
 have hc:=h.cs
 dsimp only at hl hc
 unfold Zbl
 dsimp only
 obtain ⟨x,g1,n,m,rfl,g2⟩:=Z4 (step:=WZ fuel) l.length (fun k q=>∃n m,q=(to,n,m,l,(l.length:Int),(k:Int),(no,hv,l,r))∧0≤n∧n≤(k:Int)∧0≤m∧m≤65536*(k:Int)) (fun x=>∃n m,x=(n,m,(no,hv,l,r))∧0≤n∧n≤16∧0≤m∧m≤2000000) (i:=(to,(0:Int),(0:Int),l,(l.length:Int),(0:Int),(no,hv,l,r))) ⟨0,0,rfl,by omega⟩ (by omega) (by
  rintro k _ hk ⟨n,m,rfl,q⟩
  left
  obtain ⟨e,he,hm⟩:=Zj hk
  have h4:=(hc e hm).2.2.2.1
  have h5:=(hc e hm).2.2.2.2.1
  unfold WZ
  dsimp only
  rw [if_pos (ZY hk),Zr he,ya,Zu (by omega)]
  split
  ·rw [Zv (z:=n+1) (by omega) (by omega),Zv (z:=m+e.2.2.1) (by omega) (by omega)]
   exact ⟨_,rfl,_,_,rfl,by omega⟩
  ·exact ⟨_,rfl,_,_,rfl,by omega⟩) (by
  rintro _ ⟨n,m,rfl,q⟩
  unfold WZ
  dsimp only
  rw [if_neg (by rw [ZQ];decide)]
  exact ⟨_,rfl,_,_,rfl,by omega⟩)
 rw [g1,ya]
 exact ⟨_,_,rfl,g2⟩
theorem ZF5 {A:Int} {k0 k1:Kit} {op:Int} (h:ChOk A k0 k1 op) {s:State} {h0 h1:Int} (hs:StIn A s h0 h1):QX fuel (chan A k0 k1 op) s=some (decide (hav op h0 h1 ≥ cost s.2.2.2 s.2.2.1.length)):=by
 have hT:(chan A k0 k1 op).2.2.2.1=[Tm 5,Tm 6]:=rfl
 have hA:(chan A k0 k1 op).2.1=A:=rfl
 have hO:(chan A k0 k1 op).2.2.2.2=op:=rfl
 have hlo:=h.lo
 have hhi:=h.hi
 have hco:=ZJZ hs (chan A k0 k1 op)
 have hto:=ZJd hs h.hi
 have hof:=fun to ht=>ZKb hs (to:=to) ht
 have hb:=Zi4 hs.cs
 unfold QX
 rw [ZKa h,ya,if_neg (by decide)]
 generalize hc:chan A k0 k1 op=c at*
 obtain ⟨no,hv,l,r⟩:=s
 obtain ⟨n0,n1,hh,p0,p1,r0,r1,hl,hcs,hsr,ht⟩:=hs
 dsimp only at n0 n1 hh p0 p1 r0 r1 hl hcs hsr ht hb
 subst hh
 dsimp only
 rw [w1 n0 (by omega),ya,if_neg (by decide)]
 show yao (some h0) _=_
 rw [ya]
 show yao (some h1) _=_
 rw [ya,ZvT (l:=[h0,h1]) (by simp) (by
  intro x hx
  simp only [yax,ybs,or_false] at hx
  rcases hx with rfl|rfl <;> omega),ya,if_neg (by decide),w1 r0 (by omega),ya,if_neg (by decide),if_neg (by rw [decide_eq_true_iff];omega)]
 rw [show (l,(l.length:Int),(0:Int),c,(no,[h0,h1],l,r))=(fun k:Nat=>(l,(l.length:Int),(k:Int),c,(no,[h0,h1],l,r))) 0 from rfl,ZG (x:=.inr (c,(no,[h0,h1],l,r))) l.length (fun k:Nat=>(l,(l.length:Int),(k:Int),c,(no,[h0,h1],l,r))) ?_ ?_ (by omega),ya]
 ·dsimp only
  rw [show (c.2.2.2.1,(0:Int),c,(no,[h0,h1],l,r))=(fun k:Nat=>(c.2.2.2.1,(k:Int),c,(no,[h0,h1],l,r))) 0 from rfl,ZG (x:=.inr (c,(no,[h0,h1],l,r))) 2 (fun k:Nat=>(c.2.2.2.1,(k:Int),c,(no,[h0,h1],l,r))) ?_ ?_ (by omega),ya]
  ·dsimp only
   rw [hto,ya,hA,if_pos (beq_self_eq_true _),hO,if_pos (YC h.o),ZgY h.o,ya,hco,ya]
  ·intro k hk
   obtain ⟨n,m,e1,e2,e3,e4,e5⟩:=hof (k:Int) (by omega)
   have ht:∃d,c.2.2.2.1[k]? =some (Tm d):=by
    rw [hT]
    match k,hk with
    |0,_=>exact ⟨_,rfl⟩
    |1,_=>exact ⟨_,rfl⟩
   obtain ⟨d,hd⟩:=ht
   unfold Zam
   dsimp only
   rw [if_pos (decide_eq_true (by omega)),Zr hd,ya,e1,ya,Zu (by omega)]
   rw [if_neg (by rw [decide_eq_true_iff];show ¬n > 16;omega),if_neg (by rw [decide_eq_true_iff];show ¬m > 1125899906842624;omega)]
  ·unfold Zam
   dsimp only
   rw [if_neg (by rw [decide_eq_true_iff];omega)]
 ·intro k hk
  obtain ⟨e,he,hm⟩:=Zj hk
  obtain ⟨d,hd⟩:=ZBc (hcs e hm).1
  have h4:=(hcs e hm).2.2.2.1
  have hlt:¬(e.2.2.1 < (Tm d).2.2.2.2.1):=by show ¬(e.2.2.1 < 1);omega
  unfold Zal
  dsimp only
  rw [if_pos (ZY hk),Zr he,ya,ZJX (hcs e hm),ya,if_neg (by decide),if_pos (ZoR (hcs e hm).1),hT,hd,ya,if_neg (by rw [decide_eq_true_iff];exact hlt),Zu (by omega)]
  by_cases h0:k=0
  ·subst h0
   rw [if_neg (by rw [decide_eq_true_iff];omega)]
  ·obtain ⟨f,hf,hfm⟩:=Zj (l:=l) (k:=k - 1) (by omega)
   have hah:Ahd f e:=by
    have h7:=List.pairwise_iff_getElem.1 hsr (k - 1) k (by omega) hk (by omega)
    rw [yw (by omega)] at hf he
    cases hf
    cases he
    exact h7
   obtain ⟨z,hz,hz0⟩:=ZJc hah
   rw [if_pos (decide_eq_true (by omega)),Zv (z:=(k:Int) - 1) (by omega) (by omega),show (k:Int) - 1=((k - 1:Nat):Int) by omega,Zr hf,ya,hz,ya,if_neg (by rw [decide_eq_true_iff];omega)]
 ·unfold Zal
  dsimp only
  rw [if_neg (by rw [ZQ];decide)]
end Go.Proofs.YtjbbdlffilcaaaaGreat
end
section
set_option maxRecDepth 4000
namespace Go.Proofs.YtjbbdlffilcaaaaGreat
open Go Go.Ev
theorem Zhp {α:Type} {c:Prop} [Decidable c] {a b:Option α} {P:α→Prop} (h1:c→∃x,a=some x∧P x) (h2:¬c→∃x,b=some x∧P x):∃x,(if c then a else b)=some x∧P x:=by
 by_cases h:c
 ·rw [if_pos h];exact h1 h
 ·rw [if_neg h];exact h2 h
def ins (c:ZB):List ZB→List ZB
 |[]=>[c]
 |e::r=>if Ahd c e then c::e::r else e::ins c r
theorem Zrq {c x:ZB}:∀{l:List ZB},x∈ins c l↔x=c∨x∈l
 |[]=>by simp [ins]
 |e::r=>by
  rw [ins]
  split
  ·simp
  ·rw [yax,Zrq (l:=r),yax]
   constructor
   ·rintro (h|h|h) <;> simp [h]
   ·rintro (h|h|h) <;> simp [h]
theorem Zrr {c:ZB}:∀{l:List ZB},(ins c l).length=l.length+1
 |[]=>rfl
 |e::r=>by
  rw [ins]
  split
  ·rfl
  ·rw [yad,Zrr (l:=r),yad]
theorem ZvU (c:ZB) (l:List ZB):amtC (c::l)=c.2.2.1+amtC l:=rfl
theorem ZCt {c:ZB}:∀{l:List ZB},amtC (ins c l)=c.2.2.1+amtC l
 |[]=>rfl
 |e::r=>by
  rw [ins]
  split
  ·rfl
  ·rw [ZvU,ZCt (l:=r),ZvU]
   omega
theorem ZCu {c:ZB}:∀{l:List ZB},l.Pairwise Ahd→(∀e,e∈l→c.2.1≠e.2.1)→(ins c l).Pairwise Ahd
 |[],_,_=>by simp [ins]
 |e::r,h,hd=>by
  obtain ⟨h1,h2⟩:=List.pairwise_cons.1 h
  rw [ins]
  split
  ·rename_i ha
   refine List.pairwise_cons.2 ⟨?_,h⟩
   intro x hx
   rcases yax.1 hx with rfl|hx
   ·exact ha
   ·exact ZDJ ha (h1 x hx)
  ·rename_i ha
   refine List.pairwise_cons.2 ⟨?_,ZCu h2 fun x hx=>hd x (yal _ hx)⟩
   intro x hx
   rcases Zrq.1 hx with rfl|hx
   ·exact ZJa (hd e (yak ..)) ha
   ·exact h1 x hx
theorem ZJ0 {s:State} {h0 h1:Int} (hv:s.2.1=[h0,h1]) (hl:s.2.2.1.length≤16) {c:ZB} (hc:CondIn c):VI fuel s c=some (s.1,([h0,h1]:List Int).set c.1.toNat (wi (hav c.1 h0 h1 - c.2.2.1)),ins c s.2.2.1,s.2.2.2):=by
 obtain ⟨no,hh,l,r⟩:=s
 dsimp only at hv hl
 subst hv
 unfold VI
 dsimp only
 obtain ⟨x,g1,d,o,rfl,g2,g3,g4⟩:=Z4 (step:=XN fuel) l.length (fun k q=>∃d o,q=(d,(k:Int),(no,[h0,h1],l,r),c,((0:Int),([0,0]:List Int),([]:List ZB),(0:Int)),no,[h0,h1],r,o)∧o.length≤2*k∧(d=true→ins c l=o++l.drop k)∧(d=false→ins c l=o++ins c (l.drop k)))
  (fun x=>∃d o,x=(d,(no,[h0,h1],l,r),c,((0:Int),([0,0]:List Int),([]:List ZB),(0:Int)),no,[h0,h1],r,o)∧o.length≤40∧(d=true→ins c l=o)∧(d=false→ins c l=o++[c]))
  (i:=(false,(0:Int),(no,[h0,h1],l,r),c,((0:Int),([0,0]:List Int),([]:List ZB),(0:Int)),no,[h0,h1],r,([]:List ZB))) ⟨_,_,rfl,by simp,(fun h=>by cases h),fun _=>rfl⟩ (by omega) (by
  rintro k _ hk ⟨d,o,rfl,q1,q2,q3⟩
  left
  obtain ⟨e,he,hm⟩:=Zj hk
  have hd:l.drop k=e::l.drop (k+1):=by
   rw [List.drop_eq_getElem_cons hk]
   rw [yw hk] at he
   cases he
   rfl
  rw [hd] at q2 q3
  unfold XN
  dsimp only
  rw [if_pos (ZY hk),Zr he,ya,Zu (by omega),ZvQ]
  cases d with
  |false=>
   rw [if_pos (by decide),ya]
   have q3:=q3 rfl
   rw [ins] at q3
   by_cases ha:Ahd c e
   ·rw [if_pos (decide_eq_true ha),if_pos (Ya (by omega) (by omega)),ya,if_pos (Ya (by simp;omega) (by simp;omega))]
    rw [if_pos ha] at q3
    exact ⟨_,rfl,_,_,rfl,by simp;omega,(fun _=>by rw [q3];simp),fun h=>by cases h⟩
   ·rw [if_neg (by rw [decide_eq_true_iff];exact ha),ya,if_pos (Ya (by omega) (by omega))]
    rw [if_neg ha] at q3
    exact ⟨_,rfl,_,_,rfl,by simp;omega,fun h=>(by cases h),fun _=>by rw [q3];simp⟩
  |true=>
   have q2:=q2 rfl
   rw [if_neg (by decide),ya,if_pos (Ya (by omega) (by omega))]
   exact ⟨_,rfl,_,_,rfl,by simp;omega,(fun _=>by rw [q2];simp),fun h=>by cases h⟩) (by
  rintro _ ⟨d,o,rfl,q1,q2,q3⟩
  rw [List.drop_length] at q2 q3
  unfold XN
  dsimp only
  rw [if_neg (by rw [ZQ];decide)]
  exact ⟨_,rfl,_,_,rfl,by omega,(fun h=>by rw [q2 h,List.append_nil]),fun h=>by rw [q3 h];rfl⟩)
 rw [g1,ya]
 dsimp only
 cases d with
 |true=>
  rw [if_neg (by decide),if_pos (YC hc.1),ZgY hc.1,ya,if_pos (YC hc.1),ya,g3 rfl]
 |false=>
  rw [if_pos (by decide),if_pos (Ya (by omega) (by omega)),if_pos (YC hc.1),ZgY hc.1,ya,if_pos (YC hc.1),ya,g4 rfl]
theorem ZJe {s:State} (hl:s.2.2.1.length≤16) (f i:Int):∃z,Vk fuel s f i=some z:=by
 obtain ⟨no,hh,l,r⟩:=s
 dsimp only at hl
 unfold Vk
 obtain ⟨x,g1,_⟩:=Z4 (step:=Xt fuel) l.length (fun k q=>q=(f,i,(k:Int),(no,hh,l,r))) (fun _=>True) (i:=(f,i,(0:Int),(no,hh,l,r))) rfl (by omega) (by
  rintro k _ hk rfl
  obtain ⟨e,he,hm⟩:=Zj hk
  unfold Xt
  dsimp only
  rw [if_pos (ZY hk),Zr he,ya,ya,Zu (by omega)]
  split
  ·split
   ·right;exact ⟨_,rfl,trivial⟩
   ·left;exact ⟨_,rfl,rfl⟩
  ·left;exact ⟨_,rfl,rfl⟩) (by
  rintro _ rfl
  unfold Xt
  dsimp only
  rw [if_neg (by rw [ZQ];decide)]
  exact ⟨_,rfl,trivial⟩)
 rw [g1,ya]
 cases x <;> exact ⟨_,rfl⟩
structure StOk (A op:Int) (s:State):Prop where
 ex:∃h0 h1,StIn A s h0 h1∧hav op h0 h1 ≥ cost s.2.2.2 s.2.2.1.length
theorem ZKc {A:Int} {k0 k1:Kit} {op:Int} (h:ChOk A k0 k1 op) {s:State} (hs:StOk A op s) {c:ZB} (hc:CondIn c) (hd:∀e,e∈s.2.2.1→c.2.1≠e.2.1):
 ∃x,Qb fuel (chan A k0 k1 op) s c=some x∧(x.2=0→StOk A op x.1∧x.1.2.2.1=ins c s.2.2.1∧x.1.1=s.1):=by
 obtain ⟨h0,h1,hs,ho⟩:=hs
 have hT:(chan A k0 k1 op).2.2.2.1=[Tm 5,Tm 6]:=rfl
 have hO:(chan A k0 k1 op).2.2.2.2=op:=rfl
 obtain ⟨d,hd1⟩:=ZBc hc.1
 obtain ⟨z,hz⟩:=ZJe hs.len c.1 c.2.1
 obtain ⟨n,m,e1,e2,e3,e4,e5⟩:=ZJW hs (to:=wi (1 - c.1)) (by rcases hc.1 with h|h <;> rw [h] <;> decide)
 have hlo:=h.lo
 have hhi:=h.hi
 have c4:=hc.2.2.2.1
 have c5:=hc.2.2.2.2.1
 have hb:=Zi4 hs.cs
 have hht:=hs.tot
 have p0:=hs.p0
 have p1:=hs.p1
 have hl:=hs.len
 unfold Qb
 rw [ZvS h hs,ya,ZHP hc,ya,decide_eq_true ho,if_neg (by decide),if_neg (by decide),hz,ya]
 refine Zhp (fun _=>⟨_,rfl,fun h=>absurd h (by decide)⟩) fun _=> ?_
 rw [if_pos (ZoR hc.1),hT,hd1,ya,e1,ya]
 refine Zhp (fun _=>⟨_,rfl,fun h=>absurd h (by decide)⟩) fun _=> ?_
 refine Zhp (fun _=>⟨_,rfl,fun h=>absurd h (by decide)⟩) fun h16=> ?_
 have h16:s.2.2.1.length≤15:=by
  rw [beq_iff_eq] at h16
  omega
 refine Zhp (fun _=>⟨_,rfl,fun h=>absurd h (by decide)⟩) fun _=> ?_
 dsimp only
 refine Zhp (fun _=>⟨_,rfl,fun h=>absurd h (by decide)⟩) fun _=> ?_
 have hav0:∀i:Int,0≤hav i h0 h1∧hav i h0 h1≤A:=by
  intro i
  unfold hav
  split <;> omega
 have hwi:wi (hav c.1 h0 h1 - c.2.2.1)=hav c.1 h0 h1 - c.2.2.1:=Zv (by have:=hav0 c.1;omega) (by have:=hav0 c.1;omega)
 rw [ZJ0 hs.hv hs.len hc,ya,hwi]
 obtain ⟨g0,g1,hg,hg2⟩:∃g0 g1:Int,([h0,h1]:List Int).set c.1.toNat (hav c.1 h0 h1 - c.2.2.1)=[g0,g1]∧(g0+g1=h0+h1 - c.2.2.1∧(hav c.1 g0 g1=hav c.1 h0 h1 - c.2.2.1)∧(c.1=0→g1=h1)∧(c.1=1→g0=h0)):=by
  rcases hc.1 with h|h
  ·rw [h]
   exact ⟨_,_,rfl,by unfold hav;simp;omega⟩
  ·rw [h]
   exact ⟨_,_,rfl,by unfold hav;simp;omega⟩
 rw [hg]
 have hcost:Y2 fuel (chan A k0 k1 op) (s.1,[g0,g1],ins c s.2.2.1,s.2.2.2)=some (cost s.2.2.2 (ins c s.2.2.1).length):=by
  have:=ZlP (n:=(ins c s.2.2.1).length) hs.r0 hs.r1 (by rw [Zrr];omega)
  unfold Y2
  unfold cost at*
  dsimp only
  rw [ZJU hs.r0 hs.r1 (by show (ins c s.2.2.1).length≤16;rw [Zrr];omega),ya,Zv (by omega) (by omega)]
 rw [hcost,ya,if_pos (YC hc.1),ZgY hc.1,ya]
 refine Zhp (fun _=>⟨_,rfl,fun h=>absurd h (by decide)⟩) fun hneg=> ?_
 rw [hO,if_pos (YC h.o),ZgY h.o,ya]
 refine Zhp (fun _=>⟨_,rfl,fun h=>absurd h (by decide)⟩) fun hcst=> ?_
 rw [decide_eq_true_iff] at hneg hcst
 have fin:StOk A op (s.1,[g0,g1],ins c s.2.2.1,s.2.2.2):=by
  refine ⟨g0,g1,⟨hs.n0,hs.n1,rfl, ?_, ?_,hs.r0,hs.r1,by show (ins c s.2.2.1).length≤16;rw [Zrr];omega, ?_,ZCu hs.srt hd, ?_⟩,by show hav op g0 g1 ≥ cost s.2.2.2 (ins c s.2.2.1).length;omega⟩
  ·rcases hc.1 with h|h
   ·rw [h] at hneg
    unfold hav at hneg
    simp at hneg
    omega
   ·have:=hg2.2.2.2 h
    omega
  ·rcases hc.1 with h|h
   ·have:=hg2.2.2.1 h
    omega
   ·rw [h] at hneg
    unfold hav at hneg
    simp at hneg
    omega
  ·intro x hx
   rcases Zrq.1 hx with rfl|hx
   ·exact hc
   ·exact hs.cs x hx
  ·show g0+g1+amtC (ins c s.2.2.1)=A
   rw [ZCt]
   omega
 rw [if_pos (YC hc.1),ya]
 exact Zhp (fun _=>Zhp (fun _=>⟨_,rfl,fun h=>absurd h (by decide)⟩) fun _=>⟨_,rfl,fun _=>⟨fin,rfl,rfl⟩⟩) fun _=>Zhp (fun _=>⟨_,rfl,fun h=>absurd h (by decide)⟩) fun _=>⟨_,rfl,fun _=>⟨fin,rfl,rfl⟩⟩
theorem ZDK (n:UInt64):∃o,VB fuel n=some o∧o.length=8:=by
 unfold VB
 obtain ⟨x,h1,h2⟩:=Z4 (step:=XJ fuel) 8 (fun k s=>∃c,s=(n,56 - 8*(k:Int),c)∧c.length=k) (fun x=>x.length=8) (i:=(n,(56:Int),([]:List UInt8))) ⟨_,rfl,rfl⟩ (by omega) (by
  rintro k _ hk ⟨c,rfl,hc⟩
  left
  unfold XJ
  dsimp only
  rw [if_pos (decide_eq_true (by omega)),if_pos (decide_eq_true (by omega)),if_pos (Ya (by omega) (by omega)),Zv (z:=56 - 8*(k:Int) - 8) (by omega) (by omega)]
  exact ⟨_,rfl,_,by rw [show (56:Int) - 8*(k:Int) - 8=56 - 8*((k+1:Nat):Int) by omega],by simp [hc]⟩) (by
  rintro _ ⟨c,rfl,hc⟩
  unfold XJ
  dsimp only
  rw [if_neg (by rw [decide_eq_true_iff];omega)]
  exact ⟨_,rfl,hc⟩)
 rw [h1,ya]
 exact ⟨_,rfl,h2⟩
theorem ZBd (n:UInt64):∃o,WD fuel n=some o∧o.length=8:=by
 unfold WD
 obtain ⟨x,h1,h2⟩:=Z4 (step:=YN fuel) 8 (fun k s=>∃c,s=(n,56 - 8*(k:Int),c)∧c.2.length=k) (fun x=>x.2.length=8) (i:=(n,(56:Int),([]:List UInt8),([]:List UInt8))) ⟨_,rfl,rfl⟩ (by omega) (by
  rintro k _ hk ⟨c,rfl,hc⟩
  left
  unfold YN
  dsimp only
  rw [if_pos (decide_eq_true (by omega)),if_pos (decide_eq_true (by omega)),if_pos (Ya (by omega) (by omega)),Zv (z:=56 - 8*(k:Int) - 8) (by omega) (by omega)]
  exact ⟨_,rfl,_,by rw [show (56:Int) - 8*(k:Int) - 8=56 - 8*((k+1:Nat):Int) by omega],by simp [hc]⟩) (by
  rintro _ ⟨c,rfl,hc⟩
  unfold YN
  dsimp only
  rw [if_neg (by rw [decide_eq_true_iff];omega)]
  exact ⟨_,rfl,hc⟩)
 rw [h1,ya]
 exact ⟨_,rfl,h2⟩
end Go.Proofs.YtjbbdlffilcaaaaGreat
end
section
set_option maxRecDepth 4000
namespace Go.Proofs.YtjbbdlffilcaaaaGreat
open Go Go.Ev
theorem ZF6 {s:ByteArray} {ls:List (List UInt8)} (h1:s.size≤100) (h2:ls.length≤10) (h3:∀l,l∈ls→l.length≤60000):∃o,V7 fuel s ls=some o∧o.length=32:=by
 unfold V7
 obtain ⟨o,p1,p2⟩:=ZBd (w64 (s.size:Int))
 have hsl:s.data.toList.length=s.size:=by
  rw [Array.length_toList]
  rfl
 rw [p1,ya,if_pos (decide_eq_true (by unfold maxLen;omega)),if_pos (Ya (by rw [hsl,p2];omega) (by rw [hsl,p2];omega))]
 obtain ⟨x,g1,b,rfl,g2⟩:=Z4 (step:=Y8 fuel) ls.length (fun k q=>∃b,q=(ls,(k:Int),z32,b)∧b.length≤200+60100*k) (fun x=>∃b,x=(z32,b)∧b.length≤700000) (i:=(ls,(0:Int),z32,o++s.data.toList)) ⟨_,rfl,by rw [yj,p2,hsl];omega⟩ (by omega) (by
  rintro k _ hk ⟨b,rfl,hb⟩
  left
  obtain ⟨e,he,hm⟩:=Zj hk
  have:=h3 e hm
  obtain ⟨q,q1,q2⟩:=ZDK (w64 (e.length:Int))
  unfold Y8
  dsimp only
  rw [if_pos (ZY hk),Zr he,ya,q1,ya,if_pos (Ya (by omega) (by omega)),ya,if_pos (Ya (by rw [yj];omega) (by rw [yj];omega)),Zu (by omega)]
  exact ⟨_,rfl,_,rfl,by simp only [yj];omega⟩) (by
  rintro _ ⟨b,rfl,hb⟩
  unfold Y8
  dsimp only
  rw [if_neg (by rw [ZQ];decide)]
  exact ⟨_,rfl,_,rfl,by omega⟩)
 show ∃o_1,(yao (Zd (Y8 fuel) fuel (ls,(0:Int),z32,o++s.data.toList)) fun o85=>(X8 fuel o85.2).bind fun o86=>some o86)=some o_1∧o_1.length=32
 rw [g1,ya,ZFC (by show b.length≤_;omega),ya]
 exact ⟨_,rfl,Sha.ZJ6 _⟩
theorem ZF7 {h:List UInt8} (hl:h.length=32):∃o,WE fuel [] h=some o∧o.length=32:=by
 unfold WE
 rw [if_pos (Ya (by simp) (by simp))]
 obtain ⟨x,g1,b,rfl,g2⟩:=Z4 (step:=YO fuel) 32 (fun k q=>∃b,q=((k:Int),h,b)∧b.length=k) (fun x=>∃b,x=(h,b)∧b.length=32) (i:=((0:Int),h,([]:List UInt8))) ⟨_,rfl,rfl⟩ (by omega) (by
  rintro k _ hk ⟨b,rfl,hb⟩
  left
  obtain ⟨e,he,hm⟩:=Zj (l:=h) (k:=k) (by omega)
  unfold YO
  dsimp only
  rw [if_pos (decide_eq_true (by omega)),if_pos (ZW (by omega) (by omega)),yba,he,ya,if_pos (Ya (by omega) (by omega)),Zu (by omega)]
  exact ⟨_,rfl,_,rfl,by simp [hb]⟩) (by
  rintro _ ⟨b,rfl,hb⟩
  unfold YO
  dsimp only
  rw [if_neg (by rw [decide_eq_true_iff];omega)]
  exact ⟨_,rfl,_,rfl,hb⟩)
 rw [g1,ya]
 exact ⟨_,rfl,g2⟩
theorem ZvV {h:List UInt8} (hl:h.length=32) (n:UInt8):∃o,Ye fuel h n=some o∧o.length=32:=by
 unfold Ye
 obtain ⟨o,h1,h2⟩:=ZF7 hl
 obtain ⟨p,h3,h4⟩:=ZF6 (s:=ZHL) (ls:=[o,[n]]) (by decide) (by simp) (by
  intro l hl
  simp only [yax,ybs,or_false] at hl
  rcases hl with rfl|rfl
  ·omega
  ·simp)
 rw [h1,ya,h3,ya]
 exact ⟨_,rfl,h4⟩
theorem ZJ1 {h:List UInt8} (hl:h.length=32):∃k,WR fuel h=some k∧KitOk k:=by
 unfold WR
 obtain ⟨p1,a1,b1⟩:=ZvV hl 1
 obtain ⟨p2,a2,b2⟩:=ZvV hl 2
 obtain ⟨p3,a3,b3⟩:=ZvV hl 3
 obtain ⟨p4,a4,b4⟩:=ZvV hl 4
 obtain ⟨p5,a5,b5⟩:=ZvV hl 5
 obtain ⟨p6,a6,b6⟩:=ZvV hl 6
 obtain ⟨k1,c1,d1⟩:=Zll b1
 obtain ⟨k2,c2,d2⟩:=Zll b2
 obtain ⟨k3,c3,d3⟩:=Zll b3
 obtain ⟨k4,c4,d4⟩:=Zll b4
 obtain ⟨k5,c5,d5⟩:=Zll b5
 rw [a1,ya,c1,ya,a2,ya,c2,ya,a3,ya,c3,ya,a4,ya,c4,ya,a5,ya,c5,ya,a6,ya]
 exact ⟨_,rfl,d1,d2,d3,d4,d5⟩
theorem ZCv (k:Kit):WW fuel k=some (ZC k):=by
 unfold WW
 rw [Zlk,ya,Zlk,ya,Zlk,ya,Zlk,ya,Zlk,ya]
 rfl
def Sec (o:V6):UInt64:=1+o.2.2.2 % 2305843009213688668
theorem ZHr (o:V6):Key (Sec o):=by
 have h:(o.2.2.2 % 2305843009213688668).toNat < 2305843009213688668:=by
  rw [UInt64.toNat_mod]
  exact yaq _ (by decide)
 have e:(Sec o).toNat=1+(o.2.2.2 % 2305843009213688668).toNat:=by
  unfold Sec
  rw [UInt64.toNat_add,yac]
  ·rfl
  ·show 1+_ < _
   omega
 unfold Key ord
 omega
structure PlayOk (p:Corsnedlaw21Play):Prop where
 sl:p.1.length=2
 ss:∀h,h∈p.1→h.length=32
 ol:p.2.2.2.2.2.1.length≤9223372036854775807
 os:∀o,o∈p.2.2.2.2.2.1→0≤o.2.1∧o.2.1≤65535∧0≤o.2.2.1∧o.2.2.1≤65535
 n0:0≤p.2.2.2.2.2.2.1
 n1:p.2.2.2.2.2.2.1≤65535
 per:p.2.2.2.2.2.2.2.length=32
def Offd (p:Corsnedlaw21Play) (k:Nat) (l:List ZB):Prop:=∀c,c∈l→1≤c.2.1∧c.2.1≤(k:Int)∧∃o,p.2.2.2.2.2.1[c.2.1.toNat - 1]? =some o∧c.2.2.2.1=B (Sec o).toNat
theorem ZtZ (x:UInt8):(((x % 2).toNat:Nat):Int)=0∨(((x % 2).toNat:Nat):Int)=1:=by
 have:(x % 2).toNat=x.toNat % 2:=UInt8.toNat_mod ..
 omega
theorem ZzK {A:Int} {k0 k1:Kit} {op:Int} (h:ChOk A k0 k1 op) {p:Corsnedlaw21Play} (hp:PlayOk p) {s:State} (hs:StOk A op s) (he:s.2.2.1=[]) (a:ZO) (b:List Kit) (c:State) (ks:List Kit):
 ∃x,Zd (Yj fuel) fuel ((0:Int),p,a,b,c,ks,chan A k0 k1 op,s)=some x∧∃t,x=(p,a,b,c,ks,chan A k0 k1 op,t)∧StOk A op t∧Offd p 20 t.2.2.1∧t.1=s.1:=by
 obtain ⟨p1,p2,p3,p4,p5,of,p6,p7⟩:=p
 have hol:=hp.ol
 have hos:=hp.os
 dsimp only at hol hos
 refine Z4 (step:=Yj fuel) 20 (fun k q=>∃t,q=((k:Int),(p1,p2,p3,p4,p5,of,p6,p7),a,b,c,ks,chan A k0 k1 op,t)∧StOk A op t∧Offd (p1,p2,p3,p4,p5,of,p6,p7) k t.2.2.1∧t.1=s.1) _ ⟨_,rfl,hs,by rw [he];intro c hc;simp at hc,rfl⟩ (by omega) ?_ ?_
 ·rintro k _ hk ⟨t,rfl,t1,t2,t3⟩
  have mono:∀{n m:Nat} {l:List ZB},n≤m→Offd (p1,p2,p3,p4,p5,of,p6,p7) n l→Offd (p1,p2,p3,p4,p5,of,p6,p7) m l:=fun hnm ho c hc=>by
   obtain ⟨q1,q2,q3⟩:=ho c hc
   exact ⟨q1,by omega,q3⟩
  unfold Yj
  dsimp only
  by_cases hkl:k < of.length
  ·left
   obtain ⟨o,ho,hom⟩:=Zj hkl
   obtain ⟨b1,b2,b3,b4⟩:=hos o hom
   have hc:CondIn (((o.1 % 2).toNat:Int),wi ((k:Int)+1),wi (1+wi o.2.1),B (Sec o).toNat,wi (1+wi o.2.2.1)):=by
    rw [Zu (by omega),Zv (z:=o.2.1) (by omega) (by omega),Zv (z:=1+o.2.1) (by omega) (by omega),Zv (z:=o.2.2.1) (by omega) (by omega),Zv (z:=1+o.2.2.1) (by omega) (by omega)]
    exact ⟨ZtZ _,by dsimp only;omega,by dsimp only;omega,by dsimp only;omega,by dsimp only;omega,Q5 _,ZvO (ZHr o),by dsimp only;omega,by dsimp only;omega⟩
   obtain ⟨x,x1,x2⟩:=ZKc h t1 hc (by
    intro e he
    have:=(t2 e he).2.1
    rw [Zu (by omega)]
    dsimp only
    omega)
   have hsec:XX fuel o=some (Sec o):=rfl
   rw [if_pos (ZY hkl),if_pos (decide_eq_true (by omega)),Zr ho,ya,hsec,ya,Xz,ya,x1,ya]
   by_cases h0:x.2=0
   ·obtain ⟨y1,y2,y3⟩:=x2 h0
    rw [if_pos (by rw [h0];rfl),Zu (by omega)]
    refine ⟨_,rfl,_,rfl,y1, ?_,by rw [y3,t3]⟩
    rw [y2]
    intro c hc
    rcases Zrq.1 hc with rfl|hc
    ·rw [Zu (by omega)]
     refine ⟨by dsimp only;omega,by dsimp only;omega,o, ?_,rfl⟩
     dsimp only
     rw [show ((k+1:Nat):Int).toNat - 1=k by omega]
     exact ho
    ·exact mono (by omega) t2 c hc
   ·rw [if_neg (by rw [beq_iff_eq];exact h0),Zu (by omega)]
    exact ⟨_,rfl,_,rfl,t1,mono (by omega) t2,t3⟩
  ·right
   rw [if_neg (by rw [decide_eq_true_iff];omega)]
   exact ⟨_,rfl,_,rfl,t1,mono (by omega) t2,t3⟩
 ·rintro _ ⟨t,rfl,t1,t2,t3⟩
  unfold Yj
  dsimp only
  by_cases hkl:20 < of.length
  ·rw [if_pos (ZY hkl),if_neg (by rw [decide_eq_true_iff];omega)]
   exact ⟨_,rfl,_,rfl,t1,t2,t3⟩
  ·rw [if_neg (by rw [decide_eq_true_iff];omega)]
   exact ⟨_,rfl,_,rfl,t1,t2,t3⟩
theorem ZzL (P:Corsnedlaw21Play) (a:ZO) (b:List Kit) (c:State) (k0 k1:Kit) (A op:Int):Zd (XO fuel) fuel ((0:Int),P,a,b,c,([k0,k1]:List Kit),((([0,0,0,0,0,0,0,0,0,0,0,0,0,0,0,0,0,0,0,0,0,0,0,0,0,0,0,0,0,0,0,0]:List UInt8),(0:Int)),A,([(0,0,0,0,0),(0,0,0,0,0)]:List VE),([(0,0,0,0,0,0),(0,0,0,0,0,0)]:List Vs),op))=some (P,a,b,c,[k0,k1],chan A k0 k1 op):=by
 refine ZG 2 (fun k:Nat=>((k:Int),P,a,b,c,([k0,k1]:List Kit),((z32,(0:Int)),A,([ZC k0,ZC k1]:List VE).take k++([(0,0,0,0,0),(0,0,0,0,0)]:List VE).drop k,([Tm 5,Tm 6]:List Vs).take k++([(0,0,0,0,0,0),(0,0,0,0,0,0)]:List Vs).drop k,op))) ?_ ?_ (by omega)
 ·intro k hk
  unfold XO
  dsimp only
  match k,hk with
  |0,_=>
   rw [if_pos (decide_eq_true (by omega)),if_pos (ZW (by omega) (by omega))]
   show yao (some k0) _=_
   rw [ya,ZCv,ya]
   rfl
  |1,_=>
   rw [if_pos (decide_eq_true (by omega)),if_pos (ZW (by omega) (by omega))]
   show yao (some k1) _=_
   rw [ya,ZCv,ya]
   rfl
 ·unfold XO
  dsimp only
  rw [if_neg (by rw [decide_eq_true_iff];omega)]
  rfl
theorem ZKd {p:Corsnedlaw21Play} (hp:PlayOk p):∃A k0 k1 op s,Yf fuel p=some (chan A k0 k1 op,[k0,k1],s)∧ChOk A k0 k1 op∧StOk A op s∧Offd p 20 s.2.2.1:=by
 have hof:=fun {A:Int} {k0 k1:Kit} {op:Int} (h:ChOk A k0 k1 op) {s:State} (hs:StOk A op s) (he:s.2.2.1=[]) (a:ZO) (b:List Kit) (c:State) (ks:List Kit)=>ZzK h hp hs he a b c ks
 have hn0:=hp.n0
 have hn1:=hp.n1
 obtain ⟨sd,am,ow,ra,on,of,no,pr⟩:=p
 dsimp only at hn0 hn1
 obtain ⟨q0,q1,hsd⟩:∃q0 q1,sd=[q0,q1]:=by
  have:=hp.sl
  dsimp only at this
  match sd,this with
  |[a,b],_=>exact ⟨_,_,rfl⟩
 subst hsd
 have hss:=hp.ss
 obtain ⟨k0,e0,f0⟩:=ZJ1 (hss q0 (by simp))
 obtain ⟨k1,e1,f1⟩:=ZJ1 (hss q1 (by simp))
 have hop:=ZtZ on
 have ham:(am.toNat:Int)≤4294967295:=by have:=am.toNat_lt;omega
 unfold Yf
 show ∃A k0 k1 op s,yao (some q0) _=_∧_
 rw [ya,e0,ya]
 show ∃A k0 k1 op s,yao (some q1) _=_∧_
 rw [ya,e1,ya]
 dsimp only
 rw [Zv (z:=20000+(am.toNat:Int)) (by omega) (by omega)]
 generalize hA:20000+(am.toNat:Int)=A
 generalize (((on % 2).toNat:Nat):Int)=op at hop
 have hch:ChOk A k0 k1 op:=⟨by omega,by omega,hop,f0,f1⟩
 rw [ZzL,ya]
 have hcA:(chan A k0 k1 op).2.1=A:=rfl
 have hcO:(chan A k0 k1 op).2.2.2.2=op:=rfl
 dsimp only
 rw [hcA,hcO,Zv (z:=A+1) (by omega) (by omega),if_pos (bne_iff_ne.2 (by omega))]
 obtain ⟨y,hy,hy0,hyA⟩:∃y,Int.tmod (ow.toNat:Int) (A+1)=y∧0≤y∧y≤A:=by
  refine ⟨_,rfl, ?_, ?_⟩
  ·exact Int.tmod_nonneg _ (by omega)
  ·have:=Int.tmod_lt_of_pos (ow.toNat:Int) (b:=A+1) (by omega)
   omega
 rw [hy,Zv (z:=A - y) (by omega) (by omega),Zv (z:=no) (by omega) (by omega)]
 have hr8:(ra % 8).toNat < 8:=by
  rw [UInt8.toNat_mod]
  exact yaq _ (by decide)
 generalize hr:(((ra % 8).toNat:Nat):Int)=r
 have hs0:StIn A (no,[y,A - y],[],r) y (A - y):=⟨hn0,hn1,rfl,hy0,by omega,by dsimp only;omega,by dsimp only;omega,by simp,fun c hc=>(by simp at hc),List.Pairwise.nil,by show y+(A - y)+0=A;omega⟩
 rw [show XC fuel (chan A k0 k1 op) (no,[y,A - y],[],r)=some (decide (hav op y (A - y) ≥ cost r 0)) from ZvS hch hs0,ya]
 by_cases hco:hav op y (A - y) ≥ cost r 0
 ·rw [if_neg (by rw [decide_eq_true hco];decide)]
  obtain ⟨x,x1,t,rfl,x2,x3,x4⟩:=hof hch (s:=(no,[y,A - y],[],r)) ⟨_,_,hs0,hco⟩ rfl _ _ _ _
  rw [x1,ya]
  exact ⟨A,k0,k1,op,t,rfl,hch,x2,x3⟩
 ·have hci:=ZlP (r:=r) (n:=0) (by omega) (by omega) (by omega)
  rw [if_pos (by rw [decide_eq_false hco];rfl),if_pos (YC hop),ZgY hop,ya,if_pos (ZoR hop)]
  obtain ⟨g0,g1,e1,e2,e3⟩:∃g0 g1:Int,(([y,A - y]:List Int).set op.toNat A).set ((wi (1 - op)).toNat) 0=[g0,g1]∧(g0=A∧g1=0∧op=0∨g0=0∧g1=A∧op=1)∧∃z,((([y,A - y]:List Int).set op.toNat A)[(wi (1 - op)).toNat]?)=some z:=by
   rcases hop with rfl|rfl
   ·exact ⟨_,_,rfl,.inl ⟨rfl,rfl,rfl⟩,_,rfl⟩
   ·exact ⟨_,_,rfl,.inr ⟨rfl,rfl,rfl⟩,_,rfl⟩
  obtain ⟨z,hz⟩:=e3
  rw [hz,ya,e1]
  have hs1:StIn A (no,[g0,g1],[],r) g0 g1:=⟨hn0,hn1,rfl,by omega,by omega,by dsimp only;omega,by dsimp only;omega,by simp,fun c hc=>(by simp at hc),List.Pairwise.nil,by show g0+g1+0=A;omega⟩
  have hco1:hav op g0 g1 ≥ cost r 0:=by
   unfold hav
   rcases e2 with ⟨u1,u2,u3⟩|⟨u1,u2,u3⟩
   ·rw [if_pos u3];omega
   ·rw [if_neg (by omega)];omega
  obtain ⟨x,x1,t,rfl,x2,x3,x4⟩:=hof hch (s:=(no,[g0,g1],[],r)) ⟨_,_,hs1,hco1⟩ rfl _ _ _ _
  rw [x1,ya]
  exact ⟨A,k0,k1,op,t,rfl,hch,x2,x3⟩
end Go.Proofs.YtjbbdlffilcaaaaGreat
end
section
set_option maxRecDepth 4000
namespace Go.Proofs.YtjbbdlffilcaaaaGreat
open Go Go.Ev
def amt (l:List Zh) (p:Nat):Int:=((l[p]?).map (·.1.1)).getD 0
theorem Zrs {l:List Zh} {p:Nat} {e:Zh} (h:l[p]? =some e):amt l p=e.1.1:=by
 unfold amt
 rw [h]
 rfl
theorem ZCw {l:List Zh} {j p:Nat} {x:Zh} (h:j < l.length):amt (l.set j x) p=if p=j then x.1.1 else amt l p:=by
 unfold amt
 by_cases hp:p=j
 ·subst hp
  rw [List.getElem?_set_self h,if_pos rfl]
  rfl
 ·rw [List.getElem?_set_ne (Ne.symm hp),if_neg hp]
theorem ZHs (a b:Zh):∃z,Zbo fuel a b=some z∧(z < 0→a.1.1≤b.1.1)∧(¬z < 0→b.1.1≤a.1.1):=by
 unfold Zbo
 rw [Zct,ya]
 unfold ZfH
 rw [ya,Zct,ya,Zct,ya,Zct,ya,ZHQ (by simp),ya]
 refine ⟨_,rfl, ?_⟩
 have e2:∀(x:Int) (r:List Int),orL (x::r)=if x≠0 then x else orL r:=fun _ _=>rfl
 rw [e2]
 by_cases h1:a.1.1 < b.1.1
 ·rw [if_pos h1,if_pos (by decide)]
  exact ⟨fun _=>by omega,fun h=>absurd (by decide) h⟩
 ·rw [if_neg h1]
  by_cases h2:a.1.1 > b.1.1
  ·rw [if_pos h2,if_pos (by decide)]
   exact ⟨fun h=>absurd h (by decide),fun _=>by omega⟩
  ·have e:a.1.1=b.1.1:=by omega
   exact ⟨fun _=>by omega,fun _=>by omega⟩
def But (l:List Zh) (i j:Nat):Prop:=∀p q,p < q→q≤i→q≠j→amt l p≤amt l q
theorem ZCx (n:Int) (i:Nat):∀(j f:Nat) (u:List Unit) (l:List Zh),j < f→j≤i→i < l.length→l.length≤20→But l i j→
 ∃r,Zd (YJ fuel) f ((0:Int),n,(i:Int),(j:Int),u,l)=some ((0:Int),n,(i:Int),u,r)∧r.Perm l∧∀p q,p < q→q≤i→amt r p≤amt r q
 |0,f,u,l,hf,hj,hi,hl,hb=>by
  obtain ⟨f,rfl⟩:=Nat.exists_eq_succ_of_ne_zero (n:=f) (by omega)
  have e:YJ fuel ((0:Int),n,(i:Int),((0:Nat):Int),u,l)=some (.inr ((0:Int),n,(i:Int),u,l)):=by
   unfold YJ
   dsimp only
   rw [if_neg (by rw [decide_eq_true_iff];omega)]
  unfold Zd
  rw [e,ya]
  exact ⟨_,rfl,List.Perm.refl _,fun p q h1 h2=>hb p q h1 h2 (by omega)⟩
 |j+1,f,u,l,hf,hj,hi,hl,hb=>by
  obtain ⟨f,rfl⟩:=Nat.exists_eq_succ_of_ne_zero (n:=f) (by omega)
  obtain ⟨x,hx,_⟩:=Zj (l:=l) (k:=j+1) (by omega)
  obtain ⟨y,hy,_⟩:=Zj (l:=l) (k:=j) (by omega)
  obtain ⟨z,hz,z1,z2⟩:=ZHs x y
  have ax:=Zrs hx
  have ay:=Zrs hy
  have e1:wi (((j+1:Nat):Int) - 1)=(j:Int):=by rw [Zv (by omega) (by omega)];omega
  have hset:(l.set (j+1) y).length=l.length:=List.length_set
  obtain ⟨w,hw,_⟩:=Zj (l:=l.set (j+1) y) (k:=j) (by omega)
  have hstep:YJ fuel ((0:Int),n,(i:Int),((j+1:Nat):Int),u,l)=if z < 0 then some (.inl ((0:Int),n,(i:Int),(j:Int),u,(l.set (j+1) y).set j x)) else some (.inr ((0:Int),n,(i:Int),u,l)):=by
   unfold YJ
   dsimp only
   rw [if_pos (decide_eq_true (by omega)),e1,if_pos (ZW (by omega) (by omega)),yba,yba,hx,ya,if_pos (ZW (by omega) (by omega)),hy,ya,hz,ya]
   by_cases h0:z < 0
   ·rw [if_pos (decide_eq_true h0),if_pos (ZW (by omega) (by omega)),ya,if_pos (ZW (by omega) (by omega)),ya,if_pos (ZW (by omega) (by omega)),ya,if_pos (ZW (by omega) (by omega)),hw,ya,if_pos h0]
   ·rw [if_neg (by rw [decide_eq_true_iff];exact h0),if_neg h0]
  unfold Zd
  rw [hstep]
  by_cases h0:z < 0
  ·rw [if_pos h0,ya]
   have hp:((l.set (j+1) y).set j x).Perm l:=by
    have h:=@List.set_set_perm _ l (j+1) j (by omega) (by omega)
    rw [(yl.1 hx).2,(yl.1 hy).2] at h
    exact h
   have ha:∀p,amt ((l.set (j+1) y).set j x) p=if p=j then x.1.1 else if p=j+1 then y.1.1 else amt l p:=by
    intro p
    rw [ZCw (by omega),ZCw (by omega)]
   obtain ⟨r,r1,r2,r3⟩:=ZCx n i j f u ((l.set (j+1) y).set j x) (by omega) (by omega) (by simp;omega) (by simp;omega) (by
    intro p q h1 h2 h3
    rw [ha,ha,if_neg h3]
    have hz1:=z1 h0
    by_cases k1:q=j+1
    ·subst k1
     rw [if_pos rfl]
     by_cases k2:p=j
     ·rw [if_pos k2]
      exact hz1
     ·rw [if_neg k2,if_neg (by omega), ←ay]
      exact hb p j (by omega) (by omega) (by omega)
    ·rw [if_neg k1]
     by_cases k2:p=j
     ·rw [if_pos k2, ←ax]
      exact hb (j+1) q (by omega) h2 k1
     ·rw [if_neg k2]
      by_cases k3:p=j+1
      ·rw [if_pos k3, ←ay]
       exact hb j q (by omega) h2 k1
      ·rw [if_neg k3]
       exact hb p q h1 h2 k1)
   exact ⟨r,r1,r2.trans hp,r3⟩
  ·rw [if_neg h0,ya]
   refine ⟨_,rfl,List.Perm.refl _, ?_⟩
   intro p q h1 h2
   by_cases k1:q=j+1
   ·subst k1
    have h3:=z2 h0
    by_cases k2:p=j
    ·rw [k2,ax,ay]
     exact h3
    ·have:=hb p j (by omega) (by omega) (by omega)
     omega
   ·exact hb p q h1 h2 k1
theorem ZF8 (u:List Unit) (l:List Zh) (hl:l.length≤20):∃r,XQ fuel (0:Int) (l.length:Int) u l=some (u,r)∧r.Perm l∧∀p q,p < q→q < l.length→amt r p≤amt r q:=by
 unfold XQ
 rw [show wi ((0:Int)+1)=1 from rfl]
 obtain ⟨x,g1,r,rfl,g2,g3⟩:=Z4 (step:=YK fuel) (l.length - 1) (fun k s=>∃r,s=((0:Int),(l.length:Int),((k+1:Nat):Int),u,r)∧r.Perm l∧∀p q,p < q→q < k+1→amt r p≤amt r q) (fun x=>∃r,x=(u,r)∧r.Perm l∧∀p q,p < q→q < l.length→amt r p≤amt r q)
  (i:=((0:Int),(l.length:Int),(1:Int),u,l)) ⟨_,rfl,List.Perm.refl _,fun p q h1 h2=>by omega⟩ (by omega) (by
  rintro k _ hk ⟨r,rfl,hp,hs⟩
  left
  have hrl:=hp.length_eq
  obtain ⟨t,t1,t2,t3⟩:=ZCx (l.length:Int) (k+1) (k+1) fuel u r (by rw [Zej];omega) (by omega) (by omega) (by omega) (fun p q h1 h2 h3=>hs p q h1 (by omega))
  unfold YK
  dsimp only
  rw [if_pos (decide_eq_true (by omega)),t1,ya]
  dsimp only
  rw [Zu (by omega)]
  exact ⟨_,rfl,_,rfl,t2.trans hp,fun p q h1 h2=>t3 p q h1 (by omega)⟩) (by
  rintro _ ⟨r,rfl,hp,hs⟩
  unfold YK
  dsimp only
  rw [if_neg (by rw [decide_eq_true_iff];omega)]
  exact ⟨_,rfl,_,rfl,hp,fun p q h1 h2=>hs p q h1 (by omega)⟩)
 rw [g1,ya]
 exact ⟨_,rfl,g2,g3⟩
theorem ZDL (u:List Unit) (l:List Zh) {a b:Int} (h:b≤a) (h0:0≤a) (h1:a≤100):XQ fuel a b u l=some (u,l):=by
 unfold XQ
 rw [Zv (z:=a+1) (by omega) (by omega)]
 have e:Zd (YK fuel) fuel (a,b,a+1,u,l)=some (u,l):=by
  refine ZG 0 (fun k:Nat=>(a,b,a+1,u,l)) (fun k hk=>by omega) ?_ (by omega)
  unfold YK
  dsimp only
  rw [if_neg (by rw [decide_eq_true_iff];omega)]
 rw [e,ya]
theorem ZJf (u:List Unit) (l:List Zh) (hl:l.length≤20):∃r,W2 fuel u l=some (u,r)∧r.Perm l∧∀p q,p < q→q < l.length→amt r p≤amt r q:=by
 obtain ⟨r,r1,r2,r3⟩:=ZF8 u l hl
 have hrl:=r2.length_eq
 have fin:∀(a:Int) (b:Int),Zd (Vl fuel) fuel ((l.length:Int),(20:Int),u,r)=some (u,r):=by
  intro _ _
  refine ZG 0 (fun k:Nat=>((l.length:Int),(20:Int),u,r)) (fun k hk=>by omega) ?_ (by omega)
  unfold Vl
  dsimp only
  rw [if_neg (by rw [decide_eq_true_iff];omega)]
 unfold W2 Zcp
 by_cases h20:l.length=20
 ·have e:Zd (YL fuel) fuel ((l.length:Int),(20:Int),(0:Int),(20:Int),u,l)=some ((l.length:Int),(20:Int),(20:Int),u,r):=by
   refine ZG 1 (fun k:Nat=>if k=0 then ((l.length:Int),(20:Int),(0:Int),(20:Int),u,l) else ((l.length:Int),(20:Int),(20:Int),(40:Int),u,r)) ?_ ?_ (by omega)
   ·intro k hk
    have:k=0:=by omega
    subst this
    rw [if_pos rfl,if_neg (by omega)]
    unfold YL
    dsimp only
    rw [h20] at r1
    rw [if_pos (decide_eq_true (by omega))]
    rw [show ((20:Nat):Int)=20 from rfl] at r1
    rw [r1,ya]
    dsimp only
    rw [if_pos (by simp [hrl])]
    rfl
   ·rw [if_neg (by omega)]
    unfold YL
    dsimp only
    rw [if_neg (by rw [decide_eq_true_iff];omega)]
  rw [e,ya]
  dsimp only
  rw [ZDL u r (by omega) (by omega) (by omega),ya]
  dsimp only
  rw [fin 0 0,ya,ya]
  exact ⟨r,rfl,r2,r3⟩
 ·have e:Zd (YL fuel) fuel ((l.length:Int),(20:Int),(0:Int),(20:Int),u,l)=some ((l.length:Int),(20:Int),(0:Int),u,l):=by
   refine ZG 0 (fun k:Nat=>((l.length:Int),(20:Int),(0:Int),(20:Int),u,l)) (fun k hk=>by omega) ?_ (by omega)
   unfold YL
   dsimp only
   rw [if_neg (by rw [decide_eq_true_iff];omega)]
  rw [e,ya]
  dsimp only
  rw [r1,ya]
  dsimp only
  rw [fin 0 0,ya,ya]
  exact ⟨r,rfl,r2,r3⟩
end Go.Proofs.YtjbbdlffilcaaaaGreat
end
section
set_option maxRecDepth 4000
namespace Go.Proofs.YtjbbdlffilcaaaaGreat
open Go Go.Ev
def shw (l:List ZB):List ZB:=l.filter fun c=>decide (c.2.2.1 ≥ 100)
theorem ZpS {i:Int} (h:i=0∨i=1):∃d,([Tm 5,Tm 6]:List Vs)[i.toNat]? =some (Tm d):=by
 rcases h with rfl|rfl
 ·exact ⟨5,rfl⟩
 ·exact ⟨6,rfl⟩
theorem ZzM {A:Int} {k0 k1:Kit} {op own:Int} (hown:own=0∨own=1) {s:State} (hl:s.2.2.1.length≤16):Wq fuel (chan A k0 k1 op) s own=some (shw s.2.2.1):=by
 obtain ⟨no,hv,l,r⟩:=s
 dsimp only at hl
 have hT:(chan A k0 k1 op).2.2.2.1=[Tm 5,Tm 6]:=rfl
 generalize hc:chan A k0 k1 op=c at*
 obtain ⟨d,hd⟩:=ZpS hown
 have hsl:∀k,(shw (l.take k)).length≤16:=fun k=>by
  have h1:(shw (l.take k)).length≤(l.take k).length:=List.length_filter_le _ _
  rw [yag] at h1
  omega
 unfold Wq
 dsimp only
 rw [show (own,l,(l.length:Int),(0:Int),c,(no,hv,l,r),([]:List ZB))=(fun k:Nat=>(own,l,(l.length:Int),(k:Int),c,(no,hv,l,r),shw (l.take k))) 0 by simp [shw],
  ZG (x:=(c,(no,hv,l,r),shw l)) l.length (fun k:Nat=>(own,l,(l.length:Int),(k:Int),c,(no,hv,l,r),shw (l.take k))) ?_ ?_ (by omega),ya]
 ·intro k hk
  obtain ⟨e,he,hm⟩:=Zj hk
  have hk1:=hsl k
  unfold Q0
  dsimp only
  rw [if_pos (ZY hk),Zr he,ya,if_pos (YC hown),hT,hd,ya,Zu (by omega)]
  unfold Wn
  rw [ya,QU he]
  have hf:shw (l.take k++[e])=shw (l.take k)++(if e.2.2.1 ≥ 100 then [e] else []):=by
   unfold shw
   rw [List.filter_append]
   congr 1
   by_cases h:e.2.2.1 ≥ 100
   ·rw [if_pos h]
    simp [h]
   ·rw [if_neg h]
    simp [h]
  rw [hf]
  show (if decide (e.2.2.1 ≥ 100)=true then _ else _)=_
  by_cases h:e.2.2.1 ≥ 100
  ·rw [if_pos (decide_eq_true h),if_pos (Ya (by omega) (by omega)),if_pos h]
  ·rw [if_neg (by rw [decide_eq_true_iff];exact h),if_neg h,List.append_nil]
 ·unfold Q0
  dsimp only
  rw [if_neg (by rw [ZQ];decide),yau]
theorem ZoS (l:List ZB):(shw l).length≤l.length:=List.length_filter_le _ _
theorem ZeB {l:List ZB} {c:ZB}:c∈shw l↔c∈l∧c.2.2.1 ≥ 100:=by
 unfold shw
 rw [List.mem_filter,decide_eq_true_iff]
def rst (op of h0 h1 r:Int) (n:Nat):Int:=if of=op then hav of h0 h1 - cost r n else hav of h0 h1
theorem ZDM {r:Int} {n m:Nat} (h:0≤r) (hn:n≤m):cost r n≤cost r m:=by
 unfold cost
 have:=Int.mul_le_mul_of_nonneg_left (show 68+8*(n:Int)≤68+8*(m:Int) by omega) h
 omega
theorem ZF9 {A:Int} {s:State} {h0 h1:Int} (hs:StIn A s h0 h1) (i:Int):0≤hav i h0 h1∧hav i h0 h1≤A:=by
 have:=hs.p0
 have:=hs.p1
 have:=hs.tot
 have:=Zi4 hs.cs
 unfold hav
 split <;> omega
theorem ZGa {A:Int} {s:State} {h0 h1 op:Int} (hs:StIn A s h0 h1) (ho:hav op h0 h1 ≥ cost s.2.2.2 s.2.2.1.length) (of:Int):0≤rst op of h0 h1 s.2.2.2 (shw s.2.2.1).length∧rst op of h0 h1 s.2.2.2 (shw s.2.2.1).length≤A:=by
 have h1:=ZF9 hs of
 have h2:=ZDM hs.r0 (ZoS s.2.2.1)
 have h3:=ZlP hs.r0 hs.r1 (Nat.le_trans (ZoS _) hs.len)
 unfold rst
 split
 ·rename_i h
  rw [h] at h1 ⊢
  omega
 ·exact h1
theorem ZCy {A:Int} {k0 k1:Kit} {op own:Int} (h:ChOk A k0 k1 op) (hown:own=0∨own=1) {s:State} {h0 h1:Int} (hs:StIn A s h0 h1) {of:Int} (hof:of=0∨of=1):VL fuel (chan A k0 k1 op) s own of=some (rst op of h0 h1 s.2.2.2 (shw s.2.2.1).length):=by
 have hO:(chan A k0 k1 op).2.2.2.2=op:=rfl
 have hl:=Nat.le_trans (ZoS s.2.2.1) hs.len
 have h3:=ZlP hs.r0 hs.r1 hl
 have h4:=ZF9 hs of
 have hhi:=h.hi
 unfold VL
 rw [if_pos (YC hof),hs.hv,ZgY hof,ya,hO]
 unfold rst
 by_cases he:of=op
 ·rw [if_pos (by rw [he];exact beq_self_eq_true _),ZzM hown hs.len,ya,ZJY hs.r0 hs.r1 hl,ya,if_pos he]
  unfold cost at*
  rw [Zv (z:=s.2.2.2*(68+8*((shw s.2.2.1).length:Int))+660) (by omega) (by omega),Zv (by omega) (by omega)]
 ·rw [if_neg (by rw [beq_iff_eq];exact he),if_neg he]
def zc:ZB:=(0,0,0,0,0)
noncomputable def ZgZ (O P:Kit) (w:Int) (per:UInt64):XP:=[([Zcr (B P.2.2.2.2.1.toNat) per],0,0,0),([mix (B O.2.2.1.toNat) per],0,w,0)]
noncomputable def ZpT (P:Kit):XP:=[([B P.2.1.toNat],0,0,0)]
noncomputable def Zhq (K:Kit):XP:=[([B K.1.toNat],0,0,0),([],0,16,0)]
noncomputable def ZbH (O P:Kit) (w own:Int) (per:UInt64) (c:ZB):XP:=
 if c.1=own then [([Zcr (B P.2.2.2.2.1.toNat) per],0,0,0),([mix (B P.2.2.2.1.toNat) per],0,0,c.2.2.2.1),([mix (B O.2.2.2.1.toNat) per],c.2.2.2.2,w,0)]
 else [([Zcr (B P.2.2.2.2.1.toNat) per],0,0,0),([mix (B O.2.2.2.1.toNat) per],0,w,c.2.2.2.1),([mix (B P.2.2.2.1.toNat) per],c.2.2.2.2,0,0)]
noncomputable def Zf5 (O P:Kit) (w own:Int) (per:UInt64) (c:ZB):Out×Role:=((c.2.2.1,ZbH O P w own per c),(if c.1=own then 5 else 6,c))
noncomputable def Zg0 (O P:Kit) (w:Int) (per:UInt64) (a b:Int):List (Out×Role):=
 (if a ≥ 100 then [((a,ZgZ O P w per),((1:Int),zc))] else [])++((if b ≥ 100 then [((b,ZpT P),((2:Int),zc))] else [])++[((330,Zhq O),((3:Int),zc)),((330,Zhq P),((4:Int),zc))])
noncomputable def items (O P:Kit) (w own:Int) (per:UInt64) (a b:Int) (l:List ZB):List (Out×Role):=Zg0 O P w per a b++l.map (Zf5 O P w own per)
def kO (k0 k1:Kit) (own:Int):Kit:=if own=0 then k0 else k1
def kP (k0 k1:Kit) (own:Int):Kit:=if own=0 then k1 else k0
def wt (own:Int):Int:=if own=0 then 6 else 5
theorem ZCz (own:Int):5≤wt own∧wt own≤6:=by
 unfold wt
 split <;> omega
theorem ZlQ {l:XP} (h0:0 < l.length) (h1:l.length≤4) (h:∀b,b∈l→ZI6 b∧ZI7 b):Vc l∧V1 l:=⟨⟨h0,h1,fun b hb=>(h b hb).1⟩,fun b hb=>(h b hb).2⟩
theorem br1 {p:UInt64} (h:WT p.toNat) {a d:Int} (a0:0≤a) (a1:a≤1048576) (d0:0≤d) (d1:d≤1048576) {x:UInt64} (hx:x≠0→WT x.toNat):ZI6 ([p],a,d,x)∧ZI7 ([p],a,d,x):=
 ⟨⟨by simp,a0,a1,d0,d1⟩,fun q hq=>by rw [yae.1 hq];exact h,hx⟩
theorem nox:(0:UInt64)≠0→WT (0:UInt64).toNat:=fun h=>absurd rfl h
theorem Zrt (O P:Kit) {w:Int} (h0:0≤w) (h1:w≤100) (per:UInt64):Vc (ZgZ O P w per)∧V1 (ZgZ O P w per):=by
 refine ZlQ (by simp [ZgZ]) (by simp [ZgZ]) ?_
 intro b hb
 simp only [ZgZ,yax,ybs,or_false] at hb
 rcases hb with rfl|rfl
 ·exact br1 (ZpR _ _) (by omega) (by omega) (by omega) (by omega) nox
 ·exact br1 (ZtW _ _) (by omega) (by omega) h0 (by omega) nox
theorem ZxM (P:Kit):Vc (ZpT P)∧V1 (ZpT P):=by
 refine ZlQ (by simp [ZpT]) (by simp [ZpT]) ?_
 intro b hb
 simp only [ZpT,yax,ybs,or_false] at hb
 rw [hb]
 exact br1 (Q5 _) (by omega) (by omega) (by omega) (by omega) nox
theorem ZdJ (K:Kit):Vc (Zhq K)∧V1 (Zhq K):=by
 refine ZlQ (by simp [Zhq]) (by simp [Zhq]) ?_
 intro b hb
 simp only [Zhq,yax,ybs,or_false] at hb
 rcases hb with rfl|rfl
 ·exact br1 (Q5 _) (by omega) (by omega) (by omega) (by omega) nox
 ·exact ⟨⟨by simp,by decide,by decide,by decide,by decide⟩,fun p hp=>by simp at hp,nox⟩
theorem Zru (O P:Kit) {w own:Int} (h0:0≤w) (h1:w≤100) (per:UInt64) {c:ZB} (hc:CondIn c):Vc (ZbH O P w own per c)∧V1 (ZbH O P w own per c):=by
 obtain ⟨c1,c2,c3,c4,c5,c6,c7,c8,c9⟩:=hc
 unfold ZbH
 split
 ·refine ZlQ (by simp) (by simp) ?_
  intro b hb
  simp only [yax,ybs,or_false] at hb
  rcases hb with rfl|rfl|rfl
  ·exact br1 (ZpR _ _) (by omega) (by omega) (by omega) (by omega) nox
  ·exact br1 (ZtW _ _) (by omega) (by omega) (by omega) (by omega) fun _=>c6
  ·exact br1 (ZtW _ _) (by omega) (by omega) h0 (by omega) nox
 ·refine ZlQ (by simp) (by simp) ?_
  intro b hb
  simp only [yax,ybs,or_false] at hb
  rcases hb with rfl|rfl|rfl
  ·exact br1 (ZpR _ _) (by omega) (by omega) (by omega) (by omega) nox
  ·exact br1 (ZtW _ _) (by omega) (by omega) h0 (by omega) fun _=>c6
  ·exact br1 (ZtW _ _) (by omega) (by omega) (by omega) (by omega) nox
def Zt0 (x:Zh):Out×Role:=(x.1,x.2.1)
theorem Zcu {n:Int} {lk:XP} (h:Vc lk∧V1 lk) (ro:Role) (u:List Unit) {acc:List Zh} (hl:acc.length≤100):∃x,ZU fuel n lk ro u acc=some (()::u,acc++[x])∧Zt0 x=((n,lk),ro):=by
 obtain ⟨o,h1,h2⟩:=ZF2 h.1 h.2
 unfold ZU
 rw [h1,ya,if_pos (Ya (by omega) (by omega))]
 exact ⟨_,rfl,rfl⟩
theorem ZHt {O P:Kit} {w own:Int} (h0:0≤w) (h1:w≤100) {per:UInt64} {l:List ZB} (hl:l.length≤16) (hc:∀c,c∈l→CondIn c) (ch:ZO) (s:State) (hn0:0≤s.1) (hn1:s.1≤65535) (ho:own=0∨own=1) {acc:List Zh} {b0:List (Out×Role)} (ha:acc.map Zt0=b0) (hb:acc.length≤4) (u:List Unit):
 ∃m:List (Out×Role),((Zd (YV fuel) fuel (own,w,Zcr (B P.2.2.2.2.1.toNat) per,mix (B O.2.2.2.1.toNat) per,mix (B P.2.2.2.1.toNat) per,l,(l.length:Int),(0:Int),ch,s,((([]:List In),([]:List Out),(0:Int)),([]:List Role)),u,acc)).bind fun o723=>
  (W2 fuel o723.2.2.2.2.1 o723.2.2.2.2.2).bind fun o724=>
  if (decide (o723.2.2.2.2.1.length=o724.1.length)&&(decide (40=40)&&decide ((List.replicate o723.2.2.2.2.2.length ()).length=o724.2.length)))=true then
   (Zd (XG fuel) fuel ((o724.2.length:Int),(0:Int),o723.2.1,o723.2.2.1,o723.2.2.2.1,o724.1,o724.2,([(o723.2.1.1,(0,[],0))]:List In),wi ((wi (2*o723.2.2.1.1))+o723.1),([]:List Role),([]:List Out))).bind fun o725=>
   some (((o725.2.2.2.2.2.1,o725.2.2.2.2.2.2.2.2,o725.2.2.2.2.2.2.1),o725.2.2.2.2.2.2.2.1),(0:Int))
  else
  none)=some (((([(ch.1,(0,[],0))]:List In),m.map (·.1),2*s.1+own),m.map (·.2)),0)∧m.Perm (b0++l.map (Zf5 O P w own per))∧m.Pairwise fun x y=>x.1.1≤y.1.1:=by
 obtain ⟨x,g1,u1,a1,rfl,g2⟩:=Z4 (step:=YV fuel) l.length (fun k q=>∃u1 a1,q=(own,w,Zcr (B P.2.2.2.2.1.toNat) per,mix (B O.2.2.2.1.toNat) per,mix (B P.2.2.2.1.toNat) per,l,(l.length:Int),(k:Int),ch,s,((([]:List In),([]:List Out),(0:Int)),([]:List Role)),u1,a1)∧a1.map Zt0=b0++(l.take k).map (Zf5 O P w own per))
  (fun x=>∃u1 a1,x=(own,ch,s,((([]:List In),([]:List Out),(0:Int)),([]:List Role)),u1,a1)∧a1.map Zt0=b0++l.map (Zf5 O P w own per)) (i:=(own,w,Zcr (B P.2.2.2.2.1.toNat) per,mix (B O.2.2.2.1.toNat) per,mix (B P.2.2.2.1.toNat) per,l,(l.length:Int),(0:Int),ch,s,((([]:List In),([]:List Out),(0:Int)),([]:List Role)),u,acc)) ⟨_,_,rfl,by simp [ha]⟩ (by omega) (by
  rintro k _ hk ⟨u1,a1,rfl,q⟩
  left
  obtain ⟨e,he,hm⟩:=Zj hk
  have hal:a1.length≤100:=by
   have h5:=congrArg ybx q
   have h6:=congrArg ybx ha
   simp only [yp,yj,yag] at h5 h6
   omega
  have hlk:=Zru O P (own:=own) h0 h1 per (hc e hm)
  unfold YV
  dsimp only
  rw [if_pos (ZY hk),Zr he,ya,Zu (by omega),QU he,yaf]
  by_cases hf:e.1=own
  ·have e1:ZbH O P w own per e=[([Zcr (B P.2.2.2.2.1.toNat) per],0,0,0),([mix (B P.2.2.2.1.toNat) per],0,0,e.2.2.2.1),([mix (B O.2.2.2.1.toNat) per],e.2.2.2.2,w,0)]:=by unfold ZbH;rw [if_pos hf]
   rw [e1] at hlk
   obtain ⟨x,x1,x2⟩:=Zcu (n:=e.2.2.1) hlk ((5:Int),e) u1 hal
   rw [if_pos (by rw [hf];exact beq_self_eq_true _),x1,ya]
   refine ⟨_,rfl,_,_,rfl, ?_⟩
   rw [yaf,q,yz]
   unfold Zf5
   simp only [List.map_cons,List.map_nil]
   rw [x2,e1,if_pos hf]
  ·have e1:ZbH O P w own per e=[([Zcr (B P.2.2.2.2.1.toNat) per],0,0,0),([mix (B O.2.2.2.1.toNat) per],0,w,e.2.2.2.1),([mix (B P.2.2.2.1.toNat) per],e.2.2.2.2,0,0)]:=by unfold ZbH;rw [if_neg hf]
   rw [e1] at hlk
   obtain ⟨x,x1,x2⟩:=Zcu (n:=e.2.2.1) hlk ((6:Int),e) u1 hal
   rw [if_neg (by rw [beq_iff_eq];exact hf),x1,ya]
   refine ⟨_,rfl,_,_,rfl, ?_⟩
   rw [yaf,q,yz]
   unfold Zf5
   simp only [List.map_cons,List.map_nil]
   rw [x2,e1,if_neg hf]) (by
  rintro _ ⟨u1,a1,rfl,q⟩
  unfold YV
  dsimp only
  rw [if_neg (by rw [ZQ];decide)]
  rw [yau] at q
  exact ⟨_,rfl,_,_,rfl,q⟩)
 rw [g1,ya]
 dsimp only
 have hal:a1.length≤20:=by
  have h5:=congrArg ybx g2
  have h6:=congrArg ybx ha
  simp only [yp,yj] at h5 h6
  omega
 obtain ⟨r,r1,r2,r3⟩:=ZJf u1 a1 hal
 have hrl:=r2.length_eq
 rw [r1,ya]
 dsimp only
 rw [if_pos (by simp [hrl]),Zv (z:=2*s.1) (by omega) (by omega),Zv (z:=2*s.1+own) (by omega) (by omega)]
 generalize hz:((([]:List In),([]:List Out),(0:Int)),([]:List Role))=z
 rw [show ((r.length:Int),(0:Int),ch,s,z,u1,r,([(ch.1,(0,[],0))]:List In),2*s.1+own,([]:List Role),([]:List Out))=(fun k:Nat=>((r.length:Int),(k:Int),ch,s,z,u1,r,([(ch.1,(0,[],0))]:List In),2*s.1+own,(r.take k).map (fun x:Zh=>x.2.1),(r.take k).map (fun x:Zh=>x.1))) 0 from rfl,
  ZG (x:=(ch,s,z,u1,r,([(ch.1,(0,[],0))]:List In),2*s.1+own,r.map (fun x:Zh=>x.2.1),r.map (fun x:Zh=>x.1))) r.length (fun k:Nat=>((r.length:Int),(k:Int),ch,s,z,u1,r,([(ch.1,(0,[],0))]:List In),2*s.1+own,(r.take k).map (fun x:Zh=>x.2.1),(r.take k).map (fun x:Zh=>x.1))) ?_ ?_ (by omega),ya]
 ·refine ⟨r.map Zt0, ?_, ?_, ?_⟩
  ·rw [List.map_map,List.map_map]
   rfl
  ·rw [←g2]
   exact r2.map Zt0
  ·rw [List.pairwise_map]
   refine List.pairwise_iff_getElem.2 fun i j hi hj hij=> ?_
   have:=r3 i j hij (by omega)
   rw [Zrs (yw hi),Zrs (yw hj)] at this
   exact this
 ·intro k hk
  obtain ⟨e,he,hm⟩:=Zj hk
  unfold XG
  dsimp only
  rw [if_pos (ZY hk),if_pos (ZW (by omega) (by omega)),yba,he,ya,Zu (by omega),QU he,if_pos (Ya (by simp;omega) (by simp;omega)),if_pos (Ya (by simp;omega) (by simp;omega)),yaf,yaf]
  rfl
 ·unfold XG
  dsimp only
  rw [if_neg (by rw [ZQ];decide),yau]
theorem ZJg (p:UInt64):ZeR fuel p=some [([p],0,0,0)]:=by
 unfold ZeR Zh2 Xv
 rw [if_pos (Ya (by simp) (by simp)),ya,ya]
theorem ZHu {A:Int} {k0 k1:Kit} {op own:Int} (h:ChOk A k0 k1 op) (hown:own=0∨own=1) {s:State} {h0 h1:Int} (hs:StIn A s h0 h1) (ho:hav op h0 h1 ≥ cost s.2.2.2 s.2.2.1.length) {per:UInt64} (hper:WT per.toNat):
 ∃m:List (Out×Role),commit_MakeM fuel (chan A k0 k1 op) s own per=some (((([((z32,0),(0,[],0))]:List In),m.map (·.1),2*s.1+own),m.map (·.2)),0)∧
  m.Perm (items (kO k0 k1 own) (kP k0 k1 own) (wt own) own per (rst op own h0 h1 s.2.2.2 (shw s.2.2.1).length) (rst op (1 - own) h0 h1 s.2.2.2 (shw s.2.2.1).length) (shw s.2.2.1))∧m.Pairwise fun x y=>x.1.1≤y.1.1:=by
 have hB:(chan A k0 k1 op).2.2.1=[ZC k0,ZC k1]:=rfl
 have hT:(chan A k0 k1 op).2.2.2.1=[Tm 5,Tm 6]:=rfl
 have hF:(chan A k0 k1 op).1=(z32,0):=rfl
 have hside:W0 fuel own=some true:=by
  unfold W0
  rcases hown with rfl|rfl <;> rfl
 have hpeer:wi (1 - own)=1 - own:=Zv (by omega) (by omega)
 have hpo:1 - own=0∨1 - own=1:=by omega
 have gO:([ZC k0,ZC k1]:List VE)[own.toNat]? =some (ZC (kO k0 k1 own)):=by rcases hown with rfl|rfl <;> rfl
 have gP:([ZC k0,ZC k1]:List VE)[(1 - own).toNat]? =some (ZC (kP k0 k1 own)):=by rcases hown with rfl|rfl <;> rfl
 have tO:∃d,([Tm 5,Tm 6]:List Vs)[own.toNat]? =some (Tm d):=ZpS hown
 have tP:([Tm 5,Tm 6]:List Vs)[(1 - own).toNat]? =some (Tm (wt own)):=by rcases hown with rfl|rfl <;> rfl
 obtain ⟨d,hd⟩:=tO
 have hw:=ZCz own
 have hrO:=ZCy h hown hs hown
 have hrP:=ZCy h hown hs hpo
 generalize rst op own h0 h1 s.2.2.2 (shw s.2.2.1).length=a at hrO
 generalize rst op (1 - own) h0 h1 s.2.2.2 (shw s.2.2.1).length=b at hrP
 generalize hO:kO k0 k1 own=O at*
 generalize hP:kP k0 k1 own=P at*
 generalize wt own=w at*
 have tl:=fun {acc:List Zh} {b0:List (Out×Role)} (ha:acc.map Zt0=b0) (hb:acc.length≤4) (u:List Unit)=>ZHt (O:=O) (P:=P) (w:=w) (own:=own) (by omega) (by omega) (per:=per) (l:=shw s.2.2.1) (Nat.le_trans (ZoS _) hs.len) (fun c hc=>hs.cs c (ZeB.1 hc).1) (chan A k0 k1 op) s hs.n0 hs.n1 hown ha hb u
 have hsh:=ZzM (A:=A) (k0:=k0) (k1:=k1) (op:=op) hown hs.len
 unfold commit_MakeM
 rw [hside,ya,if_neg (by decide),Yc,ya,decide_eq_true hper,if_neg (by decide),ZF5 h hs,ya,decide_eq_true ho,if_neg (by decide)]
 rw [hF] at tl
 generalize hc:chan A k0 k1 op=c at*
 have q1:inB (1 - own) 2=true:=YC hpo
 have q2:inB own 2=true:=YC hown
 have s1:∀z:Int,Wn fuel (Tm d) z=some (decide (z ≥ 100)):=fun z=>rfl
 have lateIs:Znh fuel (mix (ZC O).2.2.1 per) (Zcr (ZC P).2.2.2.2 per) (Tm w).2.2.1=some (ZgZ O P w per):=rfl
 have ancO:Xw fuel (ZC O).1=some (Zhq O):=rfl
 have ancP:Xw fuel (ZC P).1=some (Zhq P):=rfl
 have payIs:ZeR fuel (ZC P).2.1=some (ZpT P):=ZJg _
 simp only [hpeer,q1,q2,if_true,hB,hT,gO,gP,hd,tP,ya,ZDE,ZI5,hrO,hrP,s1,lateIs,ancO,ancP,payIs,hsh]
 by_cases ha:a ≥ 100
 ·rw [if_pos (decide_eq_true ha)]
  obtain ⟨x1,p1,e1⟩:=Zcu (n:=a) (Zrt O P (w:=w) (by omega) (by omega) per) ((1:Int),zc) [] (acc:=[]) (by simp)
  rw [show ((0:Int),(0:Int),(0:Int),(0:UInt64),(0:Int))=zc from rfl]
  simp only [p1,ya]
  by_cases hb:b ≥ 100
  ·rw [if_pos (decide_eq_true hb)]
   obtain ⟨x2,p2,e2⟩:=Zcu (n:=b) (ZxM P) ((2:Int),zc) [()] (acc:=[]++[x1]) (by simp)
   simp only [p2,ya]
   obtain ⟨x3,p3,e3⟩:=Zcu (n:=330) (ZdJ O) ((3:Int),zc) [(),()] (acc:=[]++[x1]++[x2]) (by simp)
   simp only [p3,ya]
   obtain ⟨x4,p4,e4⟩:=Zcu (n:=330) (ZdJ P) ((4:Int),zc) [(),(),()] (acc:=[]++[x1]++[x2]++[x3]) (by simp)
   simp only [p4,ya]
   obtain ⟨m,m1,m2,m3⟩:=tl (acc:=[]++[x1]++[x2]++[x3]++[x4]) (b0:=Zg0 O P w per a b) (by unfold Zg0;rw [if_pos ha,if_pos hb];simp [e1,e2,e3,e4]) (by simp) [(),(),(),()]
   exact ⟨m,m1,m2,m3⟩
  ·rw [if_neg (by rw [decide_eq_true_iff];exact hb)]
   obtain ⟨x3,p3,e3⟩:=Zcu (n:=330) (ZdJ O) ((3:Int),zc) [()] (acc:=[]++[x1]) (by simp)
   simp only [p3,ya]
   obtain ⟨x4,p4,e4⟩:=Zcu (n:=330) (ZdJ P) ((4:Int),zc) [(),()] (acc:=[]++[x1]++[x3]) (by simp)
   simp only [p4,ya]
   obtain ⟨m,m1,m2,m3⟩:=tl (acc:=[]++[x1]++[x3]++[x4]) (b0:=Zg0 O P w per a b) (by unfold Zg0;rw [if_pos ha,if_neg hb];simp [e1,e3,e4]) (by simp) [(),(),()]
   exact ⟨m,m1,m2,m3⟩
 ·rw [if_neg (by rw [decide_eq_true_iff];exact ha),show ((0:Int),(0:Int),(0:Int),(0:UInt64),(0:Int))=zc from rfl]
  by_cases hb:b ≥ 100
  ·rw [if_pos (decide_eq_true hb)]
   obtain ⟨x2,p2,e2⟩:=Zcu (n:=b) (ZxM P) ((2:Int),zc) [] (acc:=[]) (by simp)
   simp only [p2,ya]
   obtain ⟨x3,p3,e3⟩:=Zcu (n:=330) (ZdJ O) ((3:Int),zc) [()] (acc:=[]++[x2]) (by simp)
   simp only [p3,ya]
   obtain ⟨x4,p4,e4⟩:=Zcu (n:=330) (ZdJ P) ((4:Int),zc) [(),()] (acc:=[]++[x2]++[x3]) (by simp)
   simp only [p4,ya]
   obtain ⟨m,m1,m2,m3⟩:=tl (acc:=[]++[x2]++[x3]++[x4]) (b0:=Zg0 O P w per a b) (by unfold Zg0;rw [if_neg ha,if_pos hb];simp [e2,e3,e4]) (by simp) [(),(),()]
   exact ⟨m,m1,m2,m3⟩
  ·rw [if_neg (by rw [decide_eq_true_iff];exact hb)]
   obtain ⟨x3,p3,e3⟩:=Zcu (n:=330) (ZdJ O) ((3:Int),zc) [] (acc:=[]) (by simp)
   simp only [p3,ya]
   obtain ⟨x4,p4,e4⟩:=Zcu (n:=330) (ZdJ P) ((4:Int),zc) [()] (acc:=[]++[x3]) (by simp)
   simp only [p4,ya]
   obtain ⟨m,m1,m2,m3⟩:=tl (acc:=[]++[x3]++[x4]) (b0:=Zg0 O P w per a b) (by unfold Zg0;rw [if_neg ha,if_neg hb];simp [e3,e4]) (by simp) [(),()]
   exact ⟨m,m1,m2,m3⟩
end Go.Proofs.YtjbbdlffilcaaaaGreat
end
section
set_option maxRecDepth 4000
namespace Go.Proofs.YtjbbdlffilcaaaaGreat
open Go Go.Ev
instance (k:UInt64):Decidable (Key k):=by unfold Key;infer_instance
end Go.Proofs.YtjbbdlffilcaaaaGreat
end
section
set_option maxRecDepth 4000
namespace Go.Proofs.YtjbbdlffilcaaaaGreat
open Go Go.Ev
def tot {α:Type} (f:α→Int) (l:List α):Int:=(l.map f).sum
theorem YD {α:Type} (f:α→Int) (x:α) (l:List α):tot f (x::l)=f x+tot f l:=rfl
theorem ZnE {α:Type} {f:α→Int} {c:Int}:∀{l:List α},(∀x,x∈l→0≤f x∧f x≤c)→0≤tot f l∧tot f l≤(l.length:Int)*c
 |[],_=>by simp [tot]
 |x::r,h=>by
  have h1:=ZnE (l:=r) fun y hy=>h y (yal _ hy)
  have h2:=h x (yak ..)
  rw [YD,yad]
  have e:((r.length+1:Nat):Int)*c=(r.length:Int)*c+c:=by
   rw [Int.natCast_succ,Int.add_mul,Int.one_mul]
  rw [e]
  omega
def Good (x:Out×Role):Prop:=((x.2.1=1∨x.2.1=2)∧x.1.1 ≥ 100)∨((x.2.1=3∨x.2.1=4)∧x.1.1=330)∨((x.2.1=5∨x.2.1=6)∧x.1.1 ≥ 100)
theorem ZDN {O P:Kit} {w:Int} {per:UInt64} {a b:Int} {Q:Out×Role→Prop} (h1:a ≥ 100→Q ((a,ZgZ O P w per),(1,zc))) (h2:b ≥ 100→Q ((b,ZpT P),(2,zc))) (h3:Q ((330,Zhq O),(3,zc))) (h4:Q ((330,Zhq P),(4,zc))):∀x,x∈Zg0 O P w per a b→Q x:=by
 intro x hx
 unfold Zg0 at hx
 rcases yck.1 hx with hx|hx
 ·by_cases h:a ≥ 100
  ·rw [if_pos h,yae] at hx
   rw [hx];exact h1 h
  ·rw [if_neg h] at hx
   simp at hx
 rcases yck.1 hx with hx|hx
 ·by_cases h:b ≥ 100
  ·rw [if_pos h,yae] at hx
   rw [hx];exact h2 h
  ·rw [if_neg h] at hx
   simp at hx
 simp only [yax,ybs,or_false] at hx
 rcases hx with rfl|rfl
 ·exact h3
 ·exact h4
theorem ZDO {O P:Kit} {w own:Int} {per:UInt64} {a b:Int} {l:List ZB} {Q:Out×Role→Prop} (h1:a ≥ 100→Q ((a,ZgZ O P w per),(1,zc))) (h2:b ≥ 100→Q ((b,ZpT P),(2,zc))) (h3:Q ((330,Zhq O),(3,zc))) (h4:Q ((330,Zhq P),(4,zc))) (h5:∀c,c∈l→Q (Zf5 O P w own per c)):∀x,x∈items O P w own per a b l→Q x:=by
 intro x hx
 unfold items at hx
 rcases yck.1 hx with hx|hx
 ·exact ZDN h1 h2 h3 h4 x hx
 ·obtain ⟨c,hc,rfl⟩:=List.mem_map.1 hx
  exact h5 c hc
theorem Zh9 {O P:Kit} {w own:Int} {per:UInt64} {a b:Int} {l:List ZB}:(items O P w own per a b l).length=(if a ≥ 100 then 1 else 0)+(if b ≥ 100 then 1 else 0)+2+l.length:=by
 unfold items Zg0
 rw [yj,yj,yj,yp]
 split <;> split <;> simp
structure Cm (p:Corsnedlaw21Play) (A:Int) (k0 k1:Kit) (op own:Int) (s:State) (h0 h1:Int) (per:UInt64) (m:List (Out×Role)):Prop where
 ch:ChOk A k0 k1 op
 o:own=0∨own=1
 st:StIn A s h0 h1
 co:hav op h0 h1 ≥ cost s.2.2.2 s.2.2.1.length
 of:Offd p 20 s.2.2.1
 pm:m.Perm (items (kO k0 k1 own) (kP k0 k1 own) (wt own) own per (rst op own h0 h1 s.2.2.2 (shw s.2.2.1).length) (rst op (1 - own) h0 h1 s.2.2.2 (shw s.2.2.1).length) (shw s.2.2.1))
 so:m.Pairwise fun x y=>x.1.1≤y.1.1
 mkd:commit_MakeM fuel (chan A k0 k1 op) s own per=some (((([((z32,0),(0,[],0))]:List In),m.map (·.1),2*s.1+own),m.map (·.2)),0)
section
variable {p:Corsnedlaw21Play} {A:Int} {k0 k1:Kit} {op own:Int} {s:State} {h0 h1:Int} {per:UInt64} {m:List (Out×Role)}
theorem Cm.rO (c:Cm p A k0 k1 op own s h0 h1 per m):0≤rst op own h0 h1 s.2.2.2 (shw s.2.2.1).length∧rst op own h0 h1 s.2.2.2 (shw s.2.2.1).length≤A:=ZGa c.st c.co own
theorem Cm.rP (c:Cm p A k0 k1 op own s h0 h1 per m):0≤rst op (1 - own) h0 h1 s.2.2.2 (shw s.2.2.1).length∧rst op (1 - own) h0 h1 s.2.2.2 (shw s.2.2.1).length≤A:=ZGa c.st c.co (1 - own)
theorem Cm.mem (c:Cm p A k0 k1 op own s h0 h1 per m) {Q:Out×Role→Prop} (h1:∀a,100≤a→a≤A→Q ((a,ZgZ (kO k0 k1 own) (kP k0 k1 own) (wt own) per),(1,zc))) (h2:∀b,100≤b→b≤A→Q ((b,ZpT (kP k0 k1 own)),(2,zc))) (h3:Q ((330,Zhq (kO k0 k1 own)),(3,zc))) (h4:Q ((330,Zhq (kP k0 k1 own)),(4,zc)))
 (h5:∀x,x∈s.2.2.1→CondIn x→x.2.2.1 ≥ 100→Q (Zf5 (kO k0 k1 own) (kP k0 k1 own) (wt own) own per x)):∀x,x∈m→Q x:=by
 intro x hx
 exact ZDO (fun h=>h1 _ h c.rO.2) (fun h=>h2 _ h c.rP.2) h3 h4 (fun y hy=>h5 y (ZeB.1 hy).1 (c.st.cs y (ZeB.1 hy).1) (ZeB.1 hy).2) x (c.pm.mem_iff.1 hx)
theorem Cm.len (c:Cm p A k0 k1 op own s h0 h1 per m):m.length≤20:=by
 rw [c.pm.length_eq,Zh9]
 have:=Nat.le_trans (ZoS s.2.2.1) c.st.len
 split <;> split <;> omega
theorem Cm.lk (c:Cm p A k0 k1 op own s h0 h1 per m):∀x,x∈m→Vc x.1.2∧V1 x.1.2:=by
 have hw:=ZCz own
 exact c.mem (fun a ha hA=>Zrt _ _ (by omega) (by omega) _) (fun b hb hA=>ZxM _) (ZdJ _) (ZdJ _) fun x hx hc _=>Zru _ _ (by omega) (by omega) _ hc
end
theorem ZoT {p:Corsnedlaw21Play} (hp:PlayOk p):∃A k0 k1 op s h0 h1,Yf fuel p=some (chan A k0 k1 op,[k0,k1],s)∧ChOk A k0 k1 op∧QX fuel (chan A k0 k1 op) s=some true∧∀own per,(own=0∨own=1)→WT per.toNat→∃m,Cm p A k0 k1 op own s h0 h1 per m:=by
 obtain ⟨A,k0,k1,op,s,e1,e2,⟨h0,h1,e3,e4⟩,e5⟩:=ZKd hp
 refine ⟨A,k0,k1,op,s,h0,h1,e1,e2,by rw [ZF5 e2 e3,decide_eq_true e4], ?_⟩
 intro own per hown hper
 obtain ⟨m,m1,m2,m3⟩:=ZHu e2 hown e3 e4 hper
 exact ⟨m,e2,hown,e3,e4,e5,m2,m3,m1⟩
end Go.Proofs.YtjbbdlffilcaaaaGreat
end
section
set_option maxRecDepth 100000
namespace Go.Proofs.YtjbbdlffilcaaaaGreat
open Go Go.Ev
noncomputable section
def his:FuncId→HI
 |10=>{ eqs:=true,own:=[],still:=[0,27,32,35,36,37,42,43,44,49,50,55,56,57,62,63,64,88,93,95,97,98,100,102,103,130,131,136,137,142,143,241,242,247,249,250,255,256,257,258,262,263,264,265],row:=[],deep:=[],frz:=[],ghost:=[],gst:=[]}
 |_=>{}
def ZJh:List (Fs yb):=[Qx 18446744073709551616,Zhl 18446744073709551616,Zf0 18446744073709551616,ZdH 18446744073709551616,Zf2 18446744073709551616,Zf4 18446744073709551616,Zf1 18446744073709551616,ZbC 18446744073709551616,ZtJ 18446744073709551616,Zi2 18446744073709551616,ZdI 18446744073709551616]
def specs:=ZJh.map Fs.fo
def ZJ2:List (TypeId×String×FuncId):=[]
theorem ZGb:AllOk specs:=Zy8 ⟨okN Qx Xc,okN Zhl VY,okN Zf0 WB,okN ZdH Zjr,okN Zf2 Zlb,okN Zf4 Zld,okN Zf1 ZtC,okN ZbC ZgV,okN ZtJ Zh5,okN Zi2 Zez,okN ZdI Zjs,trivial⟩
theorem ZHv:MtOk yb ZJ2:=trivial
theorem ran:ZIG yb his specs ZJ2 100 10=some true:=by decide+kernel
def ZJi (F:Nat):Fs yb:=⟨10,[],[],[],[⟨.ret,[(0,.v .bool)],[],[.bool]⟩],fun _=>some true⟩
def ZvW:Fs yb:=ZJi fuel
theorem Zt1:ZvW.Ok:=ZIH ZGb ZHv ran
end
end Go.Proofs.YtjbbdlffilcaaaaGreat
end
