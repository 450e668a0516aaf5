/- Parts of the proof, in one file. -/
import Derived.Test.YtjbbdlffilcaaaaGreatKe
open Bool renaming and_eq_true → yg
open Go.Proofs.Tryz renaming prog → ya
open List renaming length_append → yl, replicate → yp, length_map → yr, getElem?_map → yaa, length_take → yab, append_assoc → yaf, map_append → yai, getElem?_eq_none → yak, length_set → yar, take_append_drop → ybc, length_drop → ybn, getElem?_set_self → ycb, length_replicate → yci, getD_eq_getElem?_getD → ycp, getElem?_set_ne → ycr
open Nat renaming add → ym, mod_eq_of_lt → yah, mod_lt → yav, mul_comm → ybm, eq_zero_or_pos → ybw, two_pow_add_eq_or_of_lt → yct
open Option renaming bind_some → yb
open UInt32 renaming toNat → yad, ofNat → ybe, toNat_ofNat' → ycf
open UInt64 renaming ofNat → yag, toNat_ofNat' → ybd, toNat_lt → ybi, lt_iff_toNat_lt → ybq, le_iff_toNat_le → ycm
open UInt8 renaming toNat → yac, ofNat → yas
set_option linter.unusedVariables false
set_option linter.unusedSimpArgs false
section
set_option maxRecDepth 4000
namespace Go.Proofs.YtjbbdlffilcaaaaGreat
open Go Go.Ev
noncomputable section
def Y6 (F:Nat) (a0:UInt64):Option (Bool):=
 if (decide (a0 ≥ 1))=true then
  if (decide (a0 < 4611686018427377339))=true then
   (Yl F a0 (2305843009213688669:UInt64)).bind fun o107=>
   some (o107==1)
  else
  some false
 else
 some false
def Zia (F:Nat):Fs ya:=⟨87,[.v .u64],[],[.u64],[⟨.ret,[(0,.v .bool)],[],[.bool]⟩],fun x=>Y6 F x⟩
def Wb:Fs ya:=Zia fuel
theorem Vb:Wb.Ok:=Zh (fi:={ hi:={ still:=[2,10]},lp:=[]}) (specs:={ l:=[VB]}) (okS ⟨ZaD,trivial⟩) trivial (by decide+kernel) (fun x=>by kernel_rfl)
def Ws (F:Nat) (a0:UInt64):Option (UInt64):=
 (Y6 F a0).bind fun o108=>
 if o108=true then
  some a0
 else
 some (1:UInt64)
def Zib (F:Nat):Fs ya:=⟨198,[.v .u64],[],[.u64],[⟨.ret,[(0,.v .u64)],[],[.u64]⟩],fun x=>Ws F x⟩
def ZbR:Fs ya:=Zib fuel
theorem Zic:ZbR.Ok:=Zh (fi:={ hi:={ still:=[2,3]},lp:=[]}) (specs:={ l:=[Wb]}) (okS ⟨Vb,trivial⟩) trivial (by decide+kernel) (fun x=>by kernel_rfl)
def Wt (F:Nat) (a0:UInt64) (a1:UInt64):Option (UInt64):=
 (Ws F a0).bind fun o109=>
 (Yl F o109 (a1 % 2305843009213688669)).bind fun o110=>
 some o110
def Zid (F:Nat):Fs ya:=⟨159,[.v .u64,.v .u64],[],[.u64,.u64],[⟨.ret,[(0,.v .u64)],[],[.u64]⟩],fun x=>Wt F x.1 x.2⟩
def ZbS:Fs ya:=Zid fuel
theorem Zie:ZbS.Ok:=Zh (fi:={ hi:={ still:=[4,5,6,8]},lp:=[]}) (specs:={ l:=[ZbR,VB]}) (okS ⟨Zic,ZaD,trivial⟩) trivial (by decide+kernel) (fun x=>by kernel_rfl)
def Yd (F:Nat) (a0:UInt64):Option (UInt64):=
 (Wt F (4:UInt64) a0).bind fun o111=>
 some o111
def Zja (F:Nat):Fs ya:=⟨108,[.v .u64],[],[.u64],[⟨.ret,[(0,.v .u64)],[],[.u64]⟩],fun x=>Yd F x⟩
def ZcA:Fs ya:=Zja fuel
theorem Zjb:ZcA.Ok:=Zh (fi:={ hi:={ still:=[2,3]},lp:=[]}) (specs:={ l:=[ZbS]}) (okS ⟨Zie,trivial⟩) trivial (by decide+kernel) (fun x=>by kernel_rfl)
abbrev Q6:Ty:=(.st [.u64,.u64,.u64,.u64,.u64])
abbrev WS:Type:=(UInt64×UInt64×UInt64×UInt64×UInt64)
abbrev WS.Cond (x:WS):UInt64:=x.2.2.2.1
def Wc (F:Nat) (a0:Kit):Option (WS):=
 (Yd F a0.1).bind fun o112=>
 (Yd F a0.2.1).bind fun o113=>
 (Yd F a0.2.2.1).bind fun o114=>
 (Yd F a0.2.2.2.1).bind fun o115=>
 (Yd F a0.2.2.2.2.1).bind fun o116=>
 some (o112,o113,o114,o115,o116)
def Zhc (F:Nat):Fs ya:=⟨46,[.v WE],[],[WE],[⟨.ret,[(0,.v Q6)],[],[Q6]⟩],fun x=>Wc F x⟩
def ZaE:Fs ya:=Zhc fuel
theorem Zhd:ZaE.Ok:=Zh (fi:={ hi:={ still:=[4,7,10,13,16]},lp:=[]}) (specs:={ l:=[ZcA]}) (okS ⟨Zjb,trivial⟩) trivial (by decide+kernel) (fun x=>by kernel_rfl)
def ZK (F:Nat) (a0:Int) (a1:Int) (a2:Int):Option (Bool):=
 if (decide (a0 ≥ a1))=true then
  some (decide (a0≤a2))
 else
 some false
def ZlB (F:Nat):Fs ya:=⟨162,[.v (.int .i64),.v (.int .i64),.v (.int .i64)],[],[(.int .i64),(.int .i64),(.int .i64)],[⟨.ret,[(0,.v .bool)],[],[.bool]⟩],fun x=>ZK F x.1 x.2.1 x.2.2⟩
def Wd:Fs ya:=ZlB fuel
theorem WT:Wd.Ok:=Zh (fi:={ hi:={ still:=[6]},lp:=[]}) (specs:={ l:=[]}) (okS trivial) trivial (by decide+kernel) (fun x=>by kernel_rfl)
abbrev ZdW:Ty:=(.st [(.int .i64),(.int .i64),(.int .i64),(.int .i64),(.int .i64),(.int .i64)])
abbrev Vh:Type:=(Int×Int×Int×Int×Int×Int)
def Wu (F:Nat) (a0:Vh):Option (Bool):=
 (ZK F a0.1 (0:Int) (65536:Int)).bind fun o117=>
 if o117=true then
  (ZK F a0.2.1 a0.1 (1125899906842624:Int)).bind fun o118=>
  if o118=true then
   (ZK F a0.2.2.1 (1:Int) (4096:Int)).bind fun o119=>
   if o119=true then
    (ZK F a0.2.2.2.1 (0:Int) (16:Int)).bind fun o120=>
    if o120=true then
     (ZK F a0.2.2.2.2.1 (1:Int) (1125899906842624:Int)).bind fun o121=>
     if o121=true then
      (ZK F a0.2.2.2.2.2 (0:Int) (1125899906842624:Int)).bind fun o122=>
      some o122
     else
     some false
    else
    some false
   else
   some false
  else
  some false
 else
 some false
def Zif (F:Nat):Fs ya:=⟨179,[.v ZdW],[],[ZdW],[⟨.ret,[(0,.v .bool)],[],[.bool]⟩],fun x=>Wu F x⟩
def ZbT:Fs ya:=Zif fuel
theorem Zig:ZbT.Ok:=Zh (fi:={ hi:={ still:=[2,5,9,11,16,22,27,32]},lp:=[]}) (specs:={ l:=[Wd]}) (okS ⟨WT,trivial⟩) trivial (by decide+kernel) (fun x=>by kernel_rfl)
def Vi (F:Nat) (a0:UInt64):Option (Bool):=
 (Y6 F a0).bind fun o123=>
 if o123=true then
  some (a0 !=1)
 else
 some false
def Zko (F:Nat):Fs ya:=⟨180,[.v .u64],[],[.u64],[⟨.ret,[(0,.v .bool)],[],[.bool]⟩],fun x=>Vi F x⟩
def ZdX:Fs ya:=Zko fuel
theorem Zkp:ZdX.Ok:=Zh (fi:={ hi:={ still:=[2,3]},lp:=[]}) (specs:={ l:=[Wb]}) (okS ⟨Vb,trivial⟩) trivial (by decide+kernel) (fun x=>by kernel_rfl)
abbrev Xv:Ty:=(.st [(.arr 32 .u8),(.int .i64)])
abbrev XQ:Type:=((List UInt8)×Int)
abbrev XQ.N (x:XQ):Int:=x.2
abbrev Zr:Ty:=(.st [Xv,(.int .i64),(.arr 2 Q6),(.arr 2 ZdW),(.int .i64)])
abbrev ZO:Type:=(XQ×Int×(List WS)×(List Vh)×Int)
abbrev ZO.Basics (x:ZO):(List WS):=x.2.2.1
abbrev ZO.Terms (x:ZO):(List Vh):=x.2.2.2.1
def Xq (F:Nat) (s:(Int×(List UInt64)×Int×ZO×WS)):Option ((Int×(List UInt64)×Int×ZO×WS)⊕((Int×ZO×WS)⊕(Int×ZO×WS))):=
 if (decide (s.2.2.1 < 5))=true then
  (idx s.2.1 s.2.2.1).bind fun e130=>
  (Vi F e130).bind fun o131=>
  if (!o131)=true then
   some (.inr (.inl ((1:Int),s.2.2.2.1,s.2.2.2.2)))
  else
  some (.inl (s.1,s.2.1,wi (s.2.2.1+1),s.2.2.2.1,s.2.2.2.2))
 else
 some (.inr (.inr (s.1,s.2.2.2.1,s.2.2.2.2)))
def ZcB:Lp:=⟨[(1,.ref 0 []),(3,.v (.int .i64)),(5,.v (.sl .u64)),(6,.v (.int .i64))],[.var (.v Zr) true,.var (.v Q6) true],[(.int .i64),(.sl .u64),(.int .i64),Zr,Q6],[⟨.ret,[(2,.v (.int .i64))],[.var (.v Zr) true,.var (.v Q6) true],[(.int .i64),Zr,Q6]⟩,⟨.exit 2,[(1,.ref 0 []),(3,.v (.int .i64))],[.var (.v Zr) true,.var (.v Q6) true],[(.int .i64),Zr,Q6]⟩],Zc (Xq fuel) fuel⟩
theorem Zhe:ZcB.Ok ya (Zo ya 109) (Zn ya 109 1):=Zl (fi:={ hi:={ still:=[2,8,14,20,46,56]},lp:=[]}) (specs:={ l:=[ZdX]}) (okS ⟨Zkp,trivial⟩) trivial (by kernel_rfl) (fun v=>by kernel_rfl)
def We (F:Nat) (s:(Int×ZO)):Option ((Int×ZO)⊕((Int×ZO)⊕ZO)):=
 if (decide (s.1 < 2))=true then
  if (inB s.1 2)=true then
   (s.2.2.2.1[s.1.toNat]?).bind fun e127=>
   if (inB s.1 2)=true then
    (s.2.2.2.2.1[s.1.toNat]?).bind fun e128=>
    (Wu F e128).bind fun o129=>
    if (!o129)=true then
     some (.inr (.inl ((1:Int),s.2)))
    else
    (Zc (Xq F) F (s.1,([e127.1,e127.2.1,e127.2.2.1,e127.2.2.2.1,e127.2.2.2.2]:List UInt64),(0:Int),s.2,e127)).bind fun o132=>
    match o132 with
    |.inl o133=>
     some (.inr (.inl (o133.1,o133.2.1)))
    |.inr o134=>
     some (.inl (wi (o134.1+1),o134.2.1))
   else
   none
  else
  none
 else
 some (.inr (.inr s.2))
def ZcC:Lp:=⟨[(1,.ref 0 []),(3,.v (.int .i64))],[.var (.v Zr) true],[(.int .i64),Zr],[⟨.ret,[(2,.v (.int .i64))],[.var (.v Zr) true],[(.int .i64),Zr]⟩,⟨.exit 0,[(1,.ref 0 [])],[.var (.v Zr) true],[Zr]⟩],Zc (We fuel) fuel⟩
theorem Zhf:ZcC.Ok ya (Zo ya 109) (Zn ya 109 0):=Zl (fi:={ hi:={ still:=[2,8,14,20,46,56]},lp:=[(1,ZcB)]}) (specs:={ l:=[ZbT]}) (okS ⟨Zig,trivial⟩) ⟨Zhe,trivial⟩ (by kernel_rfl) (fun v=>by kernel_rfl)
def Vj (F:Nat) (a0:ZO):Option (Int):=
 (ZK F a0.2.1 (1:Int) (1125899906842624:Int)).bind fun o124=>
 if (!o124)=true then
  some (1:Int)
 else
 (ZK F a0.1.2 (0:Int) (63:Int)).bind fun o125=>
 if (!o125)=true then
  some (1:Int)
 else
 (ZK F a0.2.2.2.2 (0:Int) (1:Int)).bind fun o126=>
 if (!o126)=true then
  some (1:Int)
 else
 (Zc (We F) F ((0:Int),a0)).bind fun o135=>
 match o135 with
 |.inl o136=>
  some o136.1
 |.inr o137=>
  (o137.2.2.2.1[0]?).bind fun e138=>
  (o137.2.2.2.1[1]?).bind fun e139=>
  if (decide ((wi (e138.2.1+e139.2.1)) > o137.2.1))=true then
   some (10:Int)
  else
  some (0:Int)
def Zkq (F:Nat):Fs ya:=⟨109,[.v Zr],[],[Zr],[⟨.ret,[(0,.v (.int .i64))],[],[(.int .i64)]⟩],fun x=>Vj F x⟩
def ZdY:Fs ya:=Zkq fuel
theorem Zkr:ZdY.Ok:=Zh (fi:={ hi:={ still:=[2,8,14,20,46,56]},lp:=[(0,ZcC)]}) (specs:={ l:=[Wd]}) (okS ⟨WT,trivial⟩) ⟨Zhf,trivial⟩ (by decide+kernel) (fun x=>by kernel_rfl)
def ZV (F:Nat) (a0:Int) (a1:Int) (a2:Int):Option (Bool):=
 if (decide (a0 ≥ a1))=true then
  some (decide (a0≤a2))
 else
 some false
def ZlC (F:Nat):Fs ya:=⟨110,[.v (.int .i64),.v (.int .i64),.v (.int .i64)],[],[(.int .i64),(.int .i64),(.int .i64)],[⟨.ret,[(0,.v .bool)],[],[.bool]⟩],fun x=>ZV F x.1 x.2.1 x.2.2⟩
def Q7:Fs ya:=ZlC fuel
theorem ZdZ:Q7.Ok:=Zh (fi:={ hi:={ still:=[6]},lp:=[]}) (specs:={ l:=[]}) (okS trivial) trivial (by decide+kernel) (fun x=>by kernel_rfl)
abbrev Z7:Ty:=(.st [(.int .i64),(.int .i64),(.int .i64),.u64,(.int .i64)])
abbrev ZB:Type:=(Int×Int×Int×UInt64×Int)
def XR (F:Nat) (a0:ZB):Option (Bool):=
 (Y6 F a0.2.2.2.1).bind fun o140=>
 if o140=true then
  if (a0.2.2.2.1 !=1)=true then
   (ZV F a0.1 (0:Int) (1:Int)).bind fun o141=>
   if o141=true then
    (ZV F a0.2.1 (1:Int) (1048576:Int)).bind fun o142=>
    if o142=true then
     (ZV F a0.2.2.1 (1:Int) (1125899906842624:Int)).bind fun o143=>
     if o143=true then
      (ZV F a0.2.2.2.2 (1:Int) (1048576:Int)).bind fun o144=>
      some o144
     else
     some false
    else
    some false
   else
   some false
  else
  some false
 else
 some false
def Zjc (F:Nat):Fs ya:=⟨111,[.v Z7],[],[Z7],[⟨.ret,[(0,.v .bool)],[],[.bool]⟩],fun x=>XR F x⟩
def V7:Fs ya:=Zjc fuel
theorem ZbU:V7.Ok:=Zh (fi:={ hi:={ still:=[2,5,15,20,25,30]},lp:=[]}) (specs:={ l:=[Wb,Q7]}) (okS ⟨Vb,ZdZ,trivial⟩) trivial (by decide+kernel) (fun x=>by kernel_rfl)
def XB (F:Nat) (a0:ZB) (a1:ZB):Option (Bool):=
 if (decide (a0.1 < a1.1))=true then
  some true
 else
 if (a0.1==a1.1)=true then
  some (decide (a0.2.1 < a1.2.1))
 else
 some false
def Zih (F:Nat):Fs ya:=⟨112,[.v Z7,.v Z7],[],[Z7,Z7],[⟨.ret,[(0,.v .bool)],[],[.bool]⟩],fun x=>XB F x.1 x.2⟩
def VC:Fs ya:=Zih fuel
theorem ZaF:VC.Ok:=Zh (fi:={ hi:={ still:=[4]},lp:=[]}) (specs:={ l:=[]}) (okS trivial) trivial (by decide+kernel) (fun x=>by kernel_rfl)
abbrev Ze:Ty:=(.st [(.int .i64),(.arr 2 (.int .i64)),(.sl Z7),(.int .i64)])
abbrev State:Type:=(Int×(List Int)×(List ZB)×Int)
def Ys (F:Nat) (s:(Int×Int×Int×Int×State)):Option ((Int×Int×Int×Int×State)⊕(Int×Int×State)):=
 let y145:Bool:=decide (s.2.2.2.1 < (s.2.2.2.2.2.2.1.length:Int))
 if y145=true then
  (idx s.2.2.2.2.2.2.1 s.2.2.2.1).bind fun e146=>
  if (e146.1==(wi (1 - s.1)))=true then
   (idx s.2.2.2.2.2.2.1 s.2.2.2.1).bind fun e147=>
   some (.inl (s.1,wi (s.2.1+1),wi (s.2.2.1+e147.2.2.1),wi (s.2.2.2.1+1),s.2.2.2.2))
  else
  some (.inl (s.1,s.2.1,s.2.2.1,wi (s.2.2.2.1+1),s.2.2.2.2))
 else
 some (.inr (s.2.1,s.2.2.1,s.2.2.2.2))
def QC:Lp:=⟨[(1,.v (.int .i64)),(2,.ref 0 []),(6,.v (.int .i64)),(7,.v (.int .i64)),(8,.v (.int .i64))],[.var (.v Ze) true],[(.int .i64),(.int .i64),(.int .i64),(.int .i64),Ze],[⟨.exit 0,[(6,.v (.int .i64)),(7,.v (.int .i64))],[.var (.v Ze) true],[(.int .i64),(.int .i64),Ze]⟩],Zc (Ys fuel) fuel⟩
theorem Zd0:QC.Ok ya (Zo ya 113) (Zn ya 113 0):=Zl (fi:={ hi:={ still:=[4,5]},lp:=[]}) (specs:={ l:=[]}) (okS trivial) trivial (by kernel_rfl) (fun v=>by kernel_rfl)
def Xf (F:Nat) (a0:State) (a1:Int):Option ((Int×Int)):=
 (Zc (Ys F) F (a1,(0:Int),(0:Int),(0:Int),a0)).bind fun o148=>
 some (o148.1,o148.2.1)
def Zgn (F:Nat):Fs ya:=⟨113,[.v Ze,.v (.int .i64)],[],[Ze,(.int .i64)],[⟨.ret,[(0,.tup [.v (.int .i64),.v (.int .i64)])],[],[(.int .i64),(.int .i64)]⟩],fun x=>Xf F x.1 x.2⟩
def WU:Fs ya:=Zgn fuel
theorem QD:WU.Ok:=Zh (fi:={ hi:={ still:=[4,5]},lp:=[(0,QC)]}) (specs:={ l:=[]}) (okS trivial) ⟨Zd0,trivial⟩ (by decide+kernel) (fun x=>by kernel_rfl)
def XD (F:Nat) (s:(Int×Int×State)):Option ((Int×Int×State)⊕(Int×State)):=
 if (decide (s.2.1 < (s.2.2.2.2.1.length:Int)))=true then
  (idx s.2.2.2.2.1 s.2.1).bind fun e151=>
  some (.inl (wi (s.1+e151.2.2.1),wi (s.2.1+1),s.2.2))
 else
 some (.inr (s.1,s.2.2))
def ZaG:Lp:=⟨[(1,.ref 0 []),(3,.v (.int .i64)),(4,.v (.int .i64))],[.var (.v Ze) true],[(.int .i64),(.int .i64),Ze],[⟨.exit 0,[(3,.v (.int .i64))],[.var (.v Ze) true],[(.int .i64),Ze]⟩],Zc (XD fuel) fuel⟩
theorem ZfB:ZaG.Ok ya (Zo ya 114) (Zn ya 114 0):=Zl (fi:={ hi:={ still:=[2]},lp:=[]}) (specs:={ l:=[]}) (okS trivial) trivial (by kernel_rfl) (fun v=>by kernel_rfl)
def Wv (F:Nat) (a0:State):Option (Int):=
 (a0.2.1[0]?).bind fun e149=>
 (a0.2.1[1]?).bind fun e150=>
 (Zc (XD F) F (wi (e149+e150),(0:Int),a0)).bind fun o152=>
 some o152.1
def Zii (F:Nat):Fs ya:=⟨114,[.v Ze],[],[Ze],[⟨.ret,[(0,.v (.int .i64))],[],[(.int .i64)]⟩],fun x=>Wv F x⟩
def ZbV:Fs ya:=Zii fuel
theorem Zij:ZbV.Ok:=Zh (fi:={ hi:={ still:=[2]},lp:=[(0,ZaG)]}) (specs:={ l:=[]}) (okS trivial) ⟨ZfB,trivial⟩ (by decide+kernel) (fun x=>by kernel_rfl)
def VD (F:Nat) (a0:Int):Option (Int):=
 (ZK F a0 (0:Int) (16:Int)).bind fun o153=>
 if (!o153)=true then
  some (0:Int)
 else
 some (wi (36+(wi ((wi (4+a0))*8))))
def Zhg (F:Nat):Fs ya:=⟨163,[.v (.int .i64)],[],[(.int .i64)],[⟨.ret,[(0,.v (.int .i64))],[],[(.int .i64)]⟩],fun x=>VD F x⟩
def ZaH:Fs ya:=Zhg fuel
theorem Zhh:ZaH.Ok:=Zh (fi:={ hi:={ still:=[2,3]},lp:=[]}) (specs:={ l:=[Wd]}) (okS ⟨WT,trivial⟩) trivial (by decide+kernel) (fun x=>by kernel_rfl)
def Vk (F:Nat) (a0:Int) (a1:Int):Option (Int):=
 (ZK F a0 (0:Int) (1000:Int)).bind fun o154=>
 if (!o154)=true then
  some (0:Int)
 else
 (VD F a1).bind fun o155=>
 some (wi (a0*o155))
def Zks (F:Nat):Fs ya:=⟨101,[.v (.int .i64),.v (.int .i64)],[],[(.int .i64),(.int .i64)],[⟨.ret,[(0,.v (.int .i64))],[],[(.int .i64)]⟩],fun x=>Vk F x.1 x.2⟩
def Zd1:Fs ya:=Zks fuel
theorem Zkt:Zd1.Ok:=Zh (fi:={ hi:={ still:=[4,5,9]},lp:=[]}) (specs:={ l:=[Wd,ZaH]}) (okS ⟨WT,Zhh,trivial⟩) trivial (by decide+kernel) (fun x=>by kernel_rfl)
def YG (F:Nat) (a0:ZO) (a1:State):Option (Int):=
 (Vk F a1.2.2.2 (a1.2.2.1.length:Int)).bind fun o156=>
 some (wi (o156+660))
def Zjd (F:Nat):Fs ya:=⟨115,[.v Zr,.v Ze],[],[Zr,Ze],[⟨.ret,[(0,.v (.int .i64))],[],[(.int .i64)]⟩],fun x=>YG F x.1 x.2⟩
def V8:Fs ya:=Zjd fuel
theorem ZbW:V8.Ok:=Zh (fi:={ hi:={ still:=[4,6,9]},lp:=[]}) (specs:={ l:=[Zd1]}) (okS ⟨Zkt,trivial⟩) trivial (by decide+kernel) (fun x=>by kernel_rfl)
def XE (F:Nat) (s:(Int×ZO×State)):Option ((Int×ZO×State)⊕((Bool×ZO×State)⊕(ZO×State))):=
 if (decide (s.1 < (s.2.2.2.2.1.length:Int)))=true then
  (idx s.2.2.2.2.1 s.1).bind fun e164=>
  (XR F e164).bind fun o165=>
  if (!o165)=true then
   some (.inr (.inl (false,s.2.1,s.2.2)))
  else
  if (decide (s.1 > 0))=true then
   (idx s.2.2.2.2.1 (wi (s.1 - 1))).bind fun e166=>
   (idx s.2.2.2.2.1 s.1).bind fun e167=>
   (XB F e166 e167).bind fun o168=>
   if (!o168)=true then
    some (.inr (.inl (false,s.2.1,s.2.2)))
   else
   (idx s.2.2.2.2.1 s.1).bind fun e169=>
   (idx s.2.2.2.2.1 s.1).bind fun e170=>
   if (inB (wi (1 - e170.1)) 2)=true then
    (s.2.1.2.2.2.1[(wi (1 - e170.1)).toNat]?).bind fun e171=>
    if (decide (e169.2.2.1 < e171.2.2.2.2.1))=true then
     some (.inr (.inl (false,s.2.1,s.2.2)))
    else
    some (.inl (wi (s.1+1),s.2.1,s.2.2))
   else
   none
  else
  (idx s.2.2.2.2.1 s.1).bind fun e172=>
  (idx s.2.2.2.2.1 s.1).bind fun e173=>
  if (inB (wi (1 - e173.1)) 2)=true then
   (s.2.1.2.2.2.1[(wi (1 - e173.1)).toNat]?).bind fun e174=>
   if (decide (e172.2.2.1 < e174.2.2.2.2.1))=true then
    some (.inr (.inl (false,s.2.1,s.2.2)))
   else
   some (.inl (wi (s.1+1),s.2.1,s.2.2))
  else
  none
 else
 some (.inr (.inr (s.2.1,s.2.2)))
def ZaI:Lp:=⟨[(2,.ref 0 []),(3,.ref 1 []),(5,.v (.int .i64))],[.var (.v Zr) true,.var (.v Ze) true],[(.int .i64),Zr,Ze],[⟨.ret,[(4,.v .bool)],[.var (.v Zr) true,.var (.v Ze) true],[.bool,Zr,Ze]⟩,⟨.exit 0,[(2,.ref 0 []),(3,.ref 1 [])],[.var (.v Zr) true,.var (.v Ze) true],[Zr,Ze]⟩],Zc (XE fuel) fuel⟩
theorem ZfC:ZaI.Ok ya (Zo ya 47) (Zn ya 47 0):=Zl (fi:={ hi:={ still:=[4,10,15,22,29,35,56,69,74,104,105,125,136,137]},lp:=[]}) (specs:={ l:=[V7,VC]}) (okS ⟨ZbU,ZaF,trivial⟩) trivial (by kernel_rfl) (fun v=>by kernel_rfl)
def XF (F:Nat) (s:(Int×ZO×State)):Option ((Int×ZO×State)⊕((Bool×ZO×State)⊕(ZO×State))):=
 if (decide (s.1 < 2))=true then
  (Xf F s.2.2 s.1).bind fun o178=>
  if (inB s.1 2)=true then
   (s.2.1.2.2.2.1[s.1.toNat]?).bind fun e179=>
   if (decide (o178.1 > e179.2.2.2.1))=true then
    some (.inr (.inl (false,s.2.1,s.2.2)))
   else
   if (inB s.1 2)=true then
    (s.2.1.2.2.2.1[s.1.toNat]?).bind fun e180=>
    if (decide (o178.2 > e180.2.2.2.2.2))=true then
     some (.inr (.inl (false,s.2.1,s.2.2)))
    else
    some (.inl (wi (s.1+1),s.2.1,s.2.2))
   else
   none
  else
  none
 else
 some (.inr (.inr (s.2.1,s.2.2)))
def ZaJ:Lp:=⟨[(2,.ref 0 []),(3,.ref 1 []),(7,.v (.int .i64))],[.var (.v Zr) true,.var (.v Ze) true],[(.int .i64),Zr,Ze],[⟨.ret,[(4,.v .bool)],[.var (.v Zr) true,.var (.v Ze) true],[.bool,Zr,Ze]⟩,⟨.exit 2,[(2,.ref 0 []),(3,.ref 1 [])],[.var (.v Zr) true,.var (.v Ze) true],[Zr,Ze]⟩],Zc (XF fuel) fuel⟩
theorem ZfD:ZaJ.Ok ya (Zo ya 47) (Zn ya 47 1):=Zl (fi:={ hi:={ still:=[4,10,15,22,29,35,56,69,74,104,105,125,136,137]},lp:=[]}) (specs:={ l:=[WU]}) (okS ⟨QD,trivial⟩) trivial (by kernel_rfl) (fun v=>by kernel_rfl)
def Y7 (F:Nat) (a0:ZO) (a1:State):Option (Bool):=
 (Vj F a0).bind fun o157=>
 if (o157 !=0)=true then
  some false
 else
 (ZV F a1.1 (0:Int) (1048576:Int)).bind fun o158=>
 if (!o158)=true then
  some false
 else
 (a1.2.1[0]?).bind fun e159=>
 (ZV F e159 (0:Int) (1125899906842624:Int)).bind fun o160=>
 if (!o160)=true then
  some false
 else
 (a1.2.1[1]?).bind fun e161=>
 (ZV F e161 (0:Int) (1125899906842624:Int)).bind fun o162=>
 if (!o162)=true then
  some false
 else
 (ZV F a1.2.2.2 (0:Int) (1000:Int)).bind fun o163=>
 if (!o163)=true then
  some false
 else
 if (decide ((a1.2.2.1.length:Int) > 16))=true then
  some false
 else
 (Zc (XE F) F ((0:Int),a0,a1)).bind fun o175=>
 match o175 with
 |.inl o176=>
  some o176.1
 |.inr o177=>
  (Zc (XF F) F ((0:Int),o177.1,o177.2)).bind fun o181=>
  match o181 with
  |.inl o182=>
   some o182.1
  |.inr o183=>
   (Wv F o183.2).bind fun o184=>
   if (o184==o183.1.2.1)=true then
    if (inB o183.1.2.2.2.2 2)=true then
     (o183.2.2.1[o183.1.2.2.2.2.toNat]?).bind fun e185=>
     (YG F o183.1 o183.2).bind fun o186=>
     some (decide (e185 ≥ o186))
    else
    none
   else
   some false
def Zik (F:Nat):Fs ya:=⟨47,[.v Zr,.v Ze],[],[Zr,Ze],[⟨.ret,[(0,.v .bool)],[],[.bool]⟩],fun x=>Y7 F x.1 x.2⟩
def VE:Fs ya:=Zik fuel
theorem ZaK:VE.Ok:=Zh (fi:={ hi:={ still:=[4,10,15,22,29,35,56,69,74,104,105,125,136,137]},lp:=[(0,ZaI),(1,ZaJ)]}) (specs:={ l:=[ZdY,Q7,ZbV,V8]}) (okS ⟨Zkr,ZdZ,Zij,ZbW,trivial⟩) ⟨ZfC,ZfD,trivial⟩ (by decide+kernel) (fun x=>by kernel_rfl)
def ZoO:ByteArray:=⟨#[0,1,2,2,3,3,3,3,4,4,4,4,4,4,4,4,5,5,5,5,5,5,5,5,5,5,5,5,5,5,5,5,6,6,6,6,6,6,6,6,6,6,6,6,6,6,6,6,6,6,6,6,6,6,6,6,6,6,6,6,6,6,6,6,7,7,7,7,7,7,7,7,7,7,7,7,7,7,7,7,7,7,7,7,7,7,7,7,7,7,7,7,7,7,7,7,7,7,7,7,7,7,7,7,7,7,7,7,7,7,7,7,7,7,7,7,7,7,7,7,7,7,7,7,7,7,7,7,8,8,8,8,8,8,8,8,8,8,8,8,8,8,8,8,8,8,8,8,8,8,8,8,8,8,8,8,8,8,8,8,8,8,8,8,8,8,8,8,8,8,8,8,8,8,8,8,8,8,8,8,8,8,8,8,8,8,8,8,8,8,8,8,8,8,8,8,8,8,8,8,8,8,8,8,8,8,8,8,8,8,8,8,8,8,8,8,8,8,8,8,8,8,8,8,8,8,8,8,8,8,8,8,8,8,8,8,8,8,8,8,8,8,8,8,8,8,8,8,8,8,8,8,8,8,8,8]⟩
def ZoP (F:Nat) (a0:UInt64):Option (Int):=
 if (decide (a0 ≥ 4294967296))=true then
  if (decide ((Zw a0 32) ≥ 65536))=true then
   if (decide ((Zw (Zw a0 32) 16) ≥ 256))=true then
    let y187:UInt8:=w8 ((Zw (Zw (Zw a0 32) 16) 8).toNat:Int)
    (idx (Zkg ZoO) (y187.toNat:Int)).bind fun e188=>
    some (wi (56+(e188.toNat:Int)))
   else
   (idx (Zkg ZoO) ((w8 ((Zw (Zw a0 32) 16).toNat:Int)).toNat:Int)).bind fun e189=>
   some (wi (48+(e189.toNat:Int)))
  else
  if (decide ((Zw a0 32) ≥ 256))=true then
   (idx (Zkg ZoO) ((w8 ((Zw (Zw a0 32) 8).toNat:Int)).toNat:Int)).bind fun e190=>
   some (wi (40+(e190.toNat:Int)))
  else
  (idx (Zkg ZoO) ((w8 ((Zw a0 32).toNat:Int)).toNat:Int)).bind fun e191=>
  some (wi (32+(e191.toNat:Int)))
 else
 if (decide (a0 ≥ 65536))=true then
  if (decide ((Zw a0 16) ≥ 256))=true then
   (idx (Zkg ZoO) ((w8 ((Zw (Zw a0 16) 8).toNat:Int)).toNat:Int)).bind fun e192=>
   some (wi (24+(e192.toNat:Int)))
  else
  (idx (Zkg ZoO) ((w8 ((Zw a0 16).toNat:Int)).toNat:Int)).bind fun e193=>
  some (wi (16+(e193.toNat:Int)))
 else
 if (decide (a0 ≥ 256))=true then
  (idx (Zkg ZoO) ((w8 ((Zw a0 8).toNat:Int)).toNat:Int)).bind fun e194=>
  some (wi (8+(e194.toNat:Int)))
 else
 (idx (Zkg ZoO) ((w8 (a0.toNat:Int)).toNat:Int)).bind fun e195=>
 some (wi (0+(e195.toNat:Int)))
def Zs5 (F:Nat):Fs ya:=⟨225,[.v .u64],[],[.u64],[⟨.ret,[(0,.v (.int .i64))],[],[(.int .i64)]⟩],fun x=>ZoP F x⟩
def ZmE:Fs ya:=Zs5 fuel
theorem Zs6:ZmE.Ok:=Zh (fi:={ hi:={ still:=[2]},lp:=[]}) (specs:={ l:=[]}) (okS trivial) trivial (by decide+kernel) (fun x=>by kernel_rfl)
def Ye (F:Nat) (a0:UInt64):Option (Int):=
 (ZoP F a0).bind fun o196=>
 some (wi (64 - o196))
def Zhi (F:Nat):Fs ya:=⟨212,[.v .u64],[],[.u64],[⟨.ret,[(0,.v (.int .i64))],[],[(.int .i64)]⟩],fun x=>Ye F x⟩
def ZaL:Fs ya:=Zhi fuel
theorem Zhj:ZaL.Ok:=Zh (fi:={ hi:={ still:=[2,3]},lp:=[]}) (specs:={ l:=[ZmE]}) (okS ⟨Zs6,trivial⟩) trivial (by decide+kernel) (fun x=>by kernel_rfl)
def VF (F:Nat) (s:(UInt64×UInt64×UInt64×UInt64×UInt64×UInt64×UInt64×UInt64×UInt64)):Option ((UInt64×UInt64×UInt64×UInt64×UInt64×UInt64×UInt64×UInt64×UInt64)⊕(UInt64×UInt64×UInt64×UInt64×UInt64×UInt64×UInt64×UInt64)):=
 if (decide (s.2.2.2.2.2.2.2.1 ≥ 4294967296))=true then
  let y204:Bool:=decide ((s.2.2.2.2.2.2.2.2+s.2.2.1) ≥ 4294967296)
  if y204=true then
   some (.inr (s.1,s.2.1,s.2.2.1,s.2.2.2.1,s.2.2.2.2.1,s.2.2.2.2.2.1,s.2.2.2.2.2.2.1,s.2.2.2.2.2.2.2.1 - 1))
  else
  some (.inl (s.1,s.2.1,s.2.2.1,s.2.2.2.1,s.2.2.2.2.1,s.2.2.2.2.2.1,s.2.2.2.2.2.2.1,s.2.2.2.2.2.2.2.1 - 1,s.2.2.2.2.2.2.2.2+s.2.2.1))
 else
 let y205:Bool:=decide ((s.2.2.2.2.2.2.2.1*s.2.2.2.1) > ((4294967296*s.2.2.2.2.2.2.2.2)+s.2.2.2.2.2.1))
 if y205=true then
  let y206:Bool:=decide ((s.2.2.2.2.2.2.2.2+s.2.2.1) ≥ 4294967296)
  if y206=true then
   some (.inr (s.1,s.2.1,s.2.2.1,s.2.2.2.1,s.2.2.2.2.1,s.2.2.2.2.2.1,s.2.2.2.2.2.2.1,s.2.2.2.2.2.2.2.1 - 1))
  else
  some (.inl (s.1,s.2.1,s.2.2.1,s.2.2.2.1,s.2.2.2.2.1,s.2.2.2.2.2.1,s.2.2.2.2.2.2.1,s.2.2.2.2.2.2.2.1 - 1,s.2.2.2.2.2.2.2.2+s.2.2.1))
 else
 some (.inr (s.1,s.2.1,s.2.2.1,s.2.2.2.1,s.2.2.2.2.1,s.2.2.2.2.2.1,s.2.2.2.2.2.2.1,s.2.2.2.2.2.2.2.1))
def ZkQ:Lp:=⟨[(2,.v .u64),(8,.v .u64),(9,.v .u64),(10,.v .u64),(11,.v .u64),(13,.v .u64),(14,.v .u64),(15,.v .u64),(16,.v .u64)],[],[.u64,.u64,.u64,.u64,.u64,.u64,.u64,.u64,.u64],[⟨.exit 0,[(2,.v .u64),(8,.v .u64),(9,.v .u64),(10,.v .u64),(11,.v .u64),(13,.v .u64),(14,.v .u64),(15,.v .u64)],[],[.u64,.u64,.u64,.u64,.u64,.u64,.u64,.u64]⟩],Zc (VF fuel) fuel⟩
theorem ZnP:ZkQ.Ok ya (Zo ya 185) (Zn ya 185 0):=Zl (fi:={ hi:={ still:=[6,7,34]},lp:=[]}) (specs:={ l:=[]}) (okS trivial) trivial (by kernel_rfl) (fun v=>by kernel_rfl)
def VG (F:Nat) (s:(UInt64×UInt64×UInt64×UInt64×UInt64×UInt64×UInt64×UInt64×UInt64)):Option ((UInt64×UInt64×UInt64×UInt64×UInt64×UInt64×UInt64×UInt64×UInt64)⊕(UInt64×UInt64×UInt64×UInt64×UInt64×UInt64)):=
 if (decide (s.2.2.2.2.2.2.2.2 ≥ 4294967296))=true then
  let y209:Bool:=decide ((s.2.2.2.2.2.2.1+s.2.2.1) ≥ 4294967296)
  if y209=true then
   some (.inr (s.1,s.2.1,s.2.2.2.2.1,s.2.2.2.2.2.1,s.2.2.2.2.2.2.2.1,s.2.2.2.2.2.2.2.2 - 1))
  else
  some (.inl (s.1,s.2.1,s.2.2.1,s.2.2.2.1,s.2.2.2.2.1,s.2.2.2.2.2.1,s.2.2.2.2.2.2.1+s.2.2.1,s.2.2.2.2.2.2.2.1,s.2.2.2.2.2.2.2.2 - 1))
 else
 let y210:Bool:=decide ((s.2.2.2.2.2.2.2.2*s.2.2.2.1) > ((4294967296*s.2.2.2.2.2.2.1)+s.2.2.2.2.1))
 if y210=true then
  let y211:Bool:=decide ((s.2.2.2.2.2.2.1+s.2.2.1) ≥ 4294967296)
  if y211=true then
   some (.inr (s.1,s.2.1,s.2.2.2.2.1,s.2.2.2.2.2.1,s.2.2.2.2.2.2.2.1,s.2.2.2.2.2.2.2.2 - 1))
  else
  some (.inl (s.1,s.2.1,s.2.2.1,s.2.2.2.1,s.2.2.2.2.1,s.2.2.2.2.2.1,s.2.2.2.2.2.2.1+s.2.2.1,s.2.2.2.2.2.2.2.1,s.2.2.2.2.2.2.2.2 - 1))
 else
 some (.inr (s.1,s.2.1,s.2.2.2.2.1,s.2.2.2.2.2.1,s.2.2.2.2.2.2.2.1,s.2.2.2.2.2.2.2.2))
def ZkR:Lp:=⟨[(2,.v .u64),(8,.v .u64),(9,.v .u64),(10,.v .u64),(14,.v .u64),(15,.v .u64),(16,.v .u64),(17,.v .u64),(18,.v .u64)],[],[.u64,.u64,.u64,.u64,.u64,.u64,.u64,.u64,.u64],[⟨.exit 2,[(2,.v .u64),(8,.v .u64),(14,.v .u64),(15,.v .u64),(17,.v .u64),(18,.v .u64)],[],[.u64,.u64,.u64,.u64,.u64,.u64]⟩],Zc (VG fuel) fuel⟩
theorem ZnQ:ZkR.Ok ya (Zo ya 185) (Zn ya 185 1):=Zl (fi:={ hi:={ still:=[6,7,34]},lp:=[]}) (specs:={ l:=[]}) (okS trivial) trivial (by kernel_rfl) (fun v=>by kernel_rfl)
def Zfa (F:Nat) (a0:UInt64) (a1:UInt64) (a2:UInt64):Option ((UInt64×UInt64)):=
 if (a2==0)=true then
  none
 else
 if (decide (a2≤a0))=true then
  none
 else
 if (a0==0)=true then
  if (a2 !=0)=true then
   if (a2 !=0)=true then
    some (a1 / a2,a1 % a2)
   else
   none
  else
  none
 else
 (Ye F a2).bind fun o197=>
 let y198:UInt64:=Zw (Qc a2 (min ((w64 o197).toNat:Int).toNat 64)) 32
 let y199:UInt64:=(Qc a2 (min ((w64 o197).toNat:Int).toNat 64))&&&4294967295
 let y200:UInt64:=Zw a1 (min ((64 - (w64 o197)).toNat:Int).toNat 64)
 let y201:UInt64:=(Qc a0 (min ((w64 o197).toNat:Int).toNat 64))|||y200
 let y202:UInt64:=Zw (Qc a1 (min ((w64 o197).toNat:Int).toNat 64)) 32
 let y203:UInt64:=(Qc a1 (min ((w64 o197).toNat:Int).toNat 64))&&&4294967295
 if (y198 !=0)=true then
  (Zc (VF F) F (Qc a2 (min ((w64 o197).toNat:Int).toNat 64),w64 o197,y198,y199,y201,y202,y203,y201 / y198,y201 - ((y201 / y198)*y198))).bind fun o207=>
  let y208:UInt64:=((o207.2.2.2.2.1*4294967296)+o207.2.2.2.2.2.1) - (o207.2.2.2.2.2.2.2*o207.1)
  if (o207.2.2.1 !=0)=true then
   (Zc (VG F) F (o207.1,o207.2.1,o207.2.2.1,o207.2.2.2.1,o207.2.2.2.2.2.2.1,o207.2.2.2.2.2.2.2,y208 - ((y208 / o207.2.2.1)*o207.2.2.1),y208,y208 / o207.2.2.1)).bind fun o212=>
   let y213:UInt64:=((o212.2.2.2.2.1*4294967296)+o212.2.2.1) - (o212.2.2.2.2.2*o212.1)
   some ((o212.2.2.2.1*4294967296)+o212.2.2.2.2.2,Zw y213 (min (o212.2.1.toNat:Int).toNat 64))
  else
  none
 else
 none
def Zs7 (F:Nat):Fs ya:=⟨185,[.v .u64,.v .u64,.v .u64],[],[.u64,.u64,.u64],[⟨.ret,[(0,.tup [.v .u64,.v .u64])],[],[.u64,.u64]⟩],fun x=>Zfa F x.1 x.2.1 x.2.2⟩
def ZmF:Fs ya:=Zs7 fuel
theorem Zs8:ZmF.Ok:=Zh (fi:={ hi:={ still:=[6,7,34]},lp:=[(0,ZkQ),(1,ZkR)]}) (specs:={ l:=[ZaL]}) (okS ⟨Zhj,trivial⟩) ⟨ZnP,ZnQ,trivial⟩ (by decide+kernel) (fun x=>by kernel_rfl)
def Q8 (F:Nat) (a0:UInt64) (a1:UInt64) (a2:UInt64):Option (UInt64):=
 if (a2 !=0)=true then
  (Zfa F (a0 % a2) a1 a2).bind fun o214=>
  some o214.2
 else
 none
def Zd2 (F:Nat):Fs ya:=⟨125,[.v .u64,.v .u64,.v .u64],[],[.u64,.u64,.u64],[⟨.ret,[(0,.v .u64)],[],[.u64]⟩],fun x=>Q8 F x.1 x.2.1 x.2.2⟩
def Zs9:Fs ya:=Zd2 fuel
theorem Zrz:Zs9.Ok:=Zh (fi:={ hi:={ still:=[6,12,13,14]},lp:=[]}) (specs:={ l:=[ZmF]}) (okS ⟨Zs8,trivial⟩) trivial (by decide+kernel) (fun x=>by kernel_rfl)
end
end Go.Proofs.YtjbbdlffilcaaaaGreat
end
section
namespace Go.Ev
theorem ZpZ (a m:UInt64):(a - a / m*m).toNat=a.toNat % m.toNat:=by
 have h1:a.toNat / m.toNat*m.toNat≤a.toNat:=Nat.div_mul_le_self _ _
 have h2:=ybi a
 have h3:(a / m*m).toNat=a.toNat / m.toNat*m.toNat:=by
  rw [UInt64.toNat_mul,UInt64.toNat_div,yah (by omega)]
 have h4:(a / m*m)≤a:=by rw [ycm,h3];exact h1
 rw [UInt64.toNat_sub_of_le _ _ h4,h3]
 have:=Nat.div_add_mod a.toNat m.toNat
 rw [ybm] at this
 omega
theorem Zje (x:UInt64):(x&&&4294967295).toNat=x.toNat % 4294967296:=by
 rw [UInt64.toNat_and]
 exact Nat.and_two_pow_sub_one_eq_mod x.toNat 32
theorem Qq (x:UInt64) (n:Nat):(Zw x n).toNat=x.toNat / 2 ^ n:=by
 unfold Zw
 rw [ybd,yah (Nat.lt_of_le_of_lt (Nat.div_le_self ..) (ybi _))]
theorem Zkb {x y:UInt64} (h:x.toNat+y.toNat < 18446744073709551616):(x+y).toNat=x.toNat+y.toNat:=by
 rw [UInt64.toNat_add,yah h]
theorem Zkc {x y:UInt64} (h:x.toNat*y.toNat < 18446744073709551616):(x*y).toNat=x.toNat*y.toNat:=by
 rw [UInt64.toNat_mul,yah h]
theorem Zjf {a b:Nat} (ha:a < 4294967296) (hb:b < 4294967296):a*b≤18446744065119617025:=Nat.mul_le_mul (Nat.le_of_lt_succ ha) (Nat.le_of_lt_succ hb)
end Go.Ev
end
section
set_option maxRecDepth 4000
namespace Go.Proofs.YtjbbdlffilcaaaaGreat
open Go Go.Ev
section
variable {y1 y0 u d q r:Nat}
theorem ZJh (h:q*y1+r=u) (hc:4294967296*r+d < q*y0):u*4294967296+d < q*(y1*4294967296+y0):=by
 have e:q*(y1*4294967296+y0)=q*y1*4294967296+q*y0:=by rw [Nat.mul_add,Nat.mul_assoc]
 rw [e]
 omega
theorem ZEV (h:q*y1+r=u) (hc:q*y0≤4294967296*r+d):q*(y1*4294967296+y0)≤u*4294967296+d:=by
 have e:q*(y1*4294967296+y0)=q*y1*4294967296+q*y0:=by rw [Nat.mul_add,Nat.mul_assoc]
 rw [e]
 omega
theorem ZIn (hu:u < y1*4294967296+y0) (hd:d < 4294967296):(u*4294967296+d) / (y1*4294967296+y0) < 4294967296:=by
 rw [Nat.div_lt_iff_lt_mul (by omega)]
 omega
theorem ZBp (h:q*y1+r=u) (hq:1≤q):(q - 1)*y1+(r+y1)=u:=by
 have e:q*y1=(q - 1)*y1+y1:=by
  rw [←Nat.succ_mul]
  congr 1
  omega
 omega
theorem ZEW (hu:u < y1*4294967296+y0) (h0:y0 < 4294967296) (h:q*y1+r=u) (hr:4294967296≤r):q*y0≤4294967296*r+d:=by
 by_cases hq:q < 4294967296
 ·have:q*y0≤4294967295*4294967295:=Nat.mul_le_mul (by omega) (by omega)
  omega
 ·have:4294967296*y1≤q*y1:=Nat.mul_le_mul_right _ (by omega)
  omega
end
theorem Zz9 {q T Y:Nat} (hY:0 < Y) (h1:T / Y≤q) (h2:q*Y≤T):q=T / Y:=Nat.le_antisymm ((Nat.le_div_iff_mul_le hY).2 h2) h1
theorem Zyf {y1 y0 u d:Nat} {Q R Y0 Y1 D:UInt64} (hY1:Y1.toNat=y1) (hY0:Y0.toNat=y0) (hD:D.toNat=d) (h1:y1 < 4294967296) (h0:y0 < 4294967296) (hd:d < 4294967296) (hu:u < y1*4294967296+y0)
 (e:Q.toNat*y1+R.toNat=u) (hr:R.toNat < 4294967296) (hge:(u*4294967296+d) / (y1*4294967296+y0)≤Q.toNat):
 ((Q ≥ 4294967296∨(Q*Y0 > (4294967296*R)+D))∧(u*4294967296+d) / (y1*4294967296+y0)≤(Q - 1).toNat∧(Q - 1).toNat*y1+(R+Y1).toNat=u∧(R+Y1).toNat=R.toNat+y1)∨
 (¬Q ≥ 4294967296∧¬(Q*Y0 > (4294967296*R)+D)∧Q.toNat=(u*4294967296+d) / (y1*4294967296+y0)):=by
 have hadd:(R+Y1).toNat=R.toNat+y1:=by rw [Zkb (by omega),hY1]
 have hrd:((4294967296*R)+D).toNat=4294967296*R.toNat+d:=by
  have m:(4294967296*R:UInt64).toNat=4294967296*R.toNat:=by
   rw [Zkc (by show 4294967296*R.toNat < _;omega)]
   rfl
  rw [Zkb (by rw [m];omega),m,hD]
 have dec:1≤Q.toNat→(Q - 1).toNat=Q.toNat - 1:=fun h=>by
  rw [UInt64.toNat_sub_of_le _ _ (by rw [ycm];exact h)]
  rfl
 by_cases c1:Q ≥ 4294967296
 ·left
  have hq:4294967296≤Q.toNat:=by
   rw [ge_iff_le,ycm] at c1
   exact c1
  have:=ZIn hu hd
  refine ⟨.inl c1,by rw [dec (by omega)];omega, ?_,hadd⟩
  rw [dec (by omega),hadd]
  exact ZBp e (by omega)
 have hq:Q.toNat < 4294967296:=by
  rw [ge_iff_le,ycm] at c1
  exact Nat.lt_of_not_le c1
 have hmul:(Q*Y0).toNat=Q.toNat*y0:=by
  have:=Zjf hq h0
  rw [Zkc (by rw [hY0];omega),hY0]
 by_cases c2:Q*Y0 > (4294967296*R)+D
 ·left
  have c3:4294967296*R.toNat+d < Q.toNat*y0:=by
   have:=ybq.1 c2
   rw [hmul,hrd] at this
   exact this
  have q1:1≤Q.toNat:=by
   rcases ybw Q.toNat with h|h
   ·rw [h,Nat.zero_mul] at c3;omega
   ·exact h
  have hg:=ZJh (d:=d) e c3
  have hlt:(u*4294967296+d) / (y1*4294967296+y0) < Q.toNat:=(Nat.div_lt_iff_lt_mul (by omega)).2 hg
  refine ⟨.inr c2,by rw [dec q1];omega, ?_,hadd⟩
  rw [dec q1,hadd]
  exact ZBp e q1
 ·right
  have c3:Q.toNat*y0≤4294967296*R.toNat+d:=by
   have:¬(((4294967296*R)+D).toNat < (Q*Y0).toNat):=fun h=>c2 (ybq.2 h)
   rw [hmul,hrd] at this
   omega
  exact ⟨c1,c2,Zz9 (by omega) hge (ZEV e c3)⟩
theorem ZJi {y1 y0 u d:Nat} {Yv N Y1 Y0 U D E Q R:UInt64} (hY1:Y1.toNat=y1) (hY0:Y0.toNat=y0) (hD:D.toNat=d) (h1:y1 < 4294967296) (h3:0 < y1) (h0:y0 < 4294967296) (hd:d < 4294967296) (hu:u < y1*4294967296+y0)
 (e:Q.toNat*y1+R.toNat=u) (hr:R.toNat < 4294967296) (hge:(u*4294967296+d) / (y1*4294967296+y0)≤Q.toNat):
 ∃q:UInt64,Zc (VF fuel) fuel (Yv,N,Y1,Y0,U,D,E,Q,R)=some (Yv,N,Y1,Y0,U,D,E,q)∧q.toNat=(u*4294967296+d) / (y1*4294967296+y0):=by
 obtain ⟨x,hx,q,rfl,hq⟩:=XZ (step:=VF fuel) (fun s=>∃Q R:UInt64,s=(Yv,N,Y1,Y0,U,D,E,Q,R)∧Q.toNat*y1+R.toNat=u∧R.toNat < 4294967296∧(u*4294967296+d) / (y1*4294967296+y0)≤Q.toNat)
  (fun s=>4294967296 - s.2.2.2.2.2.2.2.2.toNat) (fun x=>∃q:UInt64,x=(Yv,N,Y1,Y0,U,D,E,q)∧q.toNat=(u*4294967296+d) / (y1*4294967296+y0)) (by
  rintro _ ⟨Q,R,rfl,e,hr,hge⟩
  unfold VF
  dsimp only
  rcases Zyf hY1 hY0 hD h1 h0 hd hu e hr hge with ⟨c,k1,k2,k3⟩|⟨c1,c2,k⟩
  ·have key:(∃j,(if decide (R+Y1 ≥ 4294967296)=true then some (Sum.inr (Yv,N,Y1,Y0,U,D,E,Q - 1)) else some (Sum.inl (Yv,N,Y1,Y0,U,D,E,Q - 1,R+Y1)):Option ((UInt64×UInt64×UInt64×UInt64×UInt64×UInt64×UInt64×UInt64×UInt64)⊕(UInt64×UInt64×UInt64×UInt64×UInt64×UInt64×UInt64×UInt64)))=some (.inl j)∧
    (∃Q R:UInt64,j=(Yv,N,Y1,Y0,U,D,E,Q,R)∧Q.toNat*y1+R.toNat=u∧R.toNat < 4294967296∧(u*4294967296+d) / (y1*4294967296+y0)≤Q.toNat)∧4294967296 - j.2.2.2.2.2.2.2.2.toNat < 4294967296 - R.toNat)∨
    (∃x,(if decide (R+Y1 ≥ 4294967296)=true then some (Sum.inr (Yv,N,Y1,Y0,U,D,E,Q - 1)) else some (Sum.inl (Yv,N,Y1,Y0,U,D,E,Q - 1,R+Y1)):Option ((UInt64×UInt64×UInt64×UInt64×UInt64×UInt64×UInt64×UInt64×UInt64)⊕(UInt64×UInt64×UInt64×UInt64×UInt64×UInt64×UInt64×UInt64)))=some (.inr x)∧
    ∃q:UInt64,x=(Yv,N,Y1,Y0,U,D,E,q)∧q.toNat=(u*4294967296+d) / (y1*4294967296+y0)):=by
    by_cases hb:R+Y1 ≥ 4294967296
    ·right
     rw [if_pos (decide_eq_true hb)]
     have hb2:4294967296≤(R+Y1).toNat:=by
      rw [ge_iff_le,ycm] at hb
      exact hb
     exact ⟨_,rfl,_,rfl,Zz9 (by omega) k1 (ZEV k2 (ZEW hu h0 k2 hb2))⟩
    ·left
     rw [if_neg (by rw [decide_eq_true_iff];exact hb)]
     have hb2:(R+Y1).toNat < 4294967296:=by
      rw [ge_iff_le,ycm] at hb
      exact Nat.lt_of_not_le hb
     exact ⟨_,rfl,⟨_,_,rfl,k2,hb2,k1⟩,by dsimp only;omega⟩
   rcases c with c|c
   ·rw [if_pos (decide_eq_true c)]
    exact key
   ·by_cases c1:Q ≥ 4294967296
    ·rw [if_pos (decide_eq_true c1)]
     exact key
    ·rw [if_neg (by rw [decide_eq_true_iff];exact c1),if_pos (decide_eq_true c)]
     exact key
  ·right
   rw [if_neg (by rw [decide_eq_true_iff];exact c1),if_neg (by rw [decide_eq_true_iff];exact c2)]
   exact ⟨_,rfl,_,rfl,k⟩) (Yv,N,Y1,Y0,U,D,E,Q,R) ⟨Q,R,rfl,e,hr,hge⟩ (by dsimp only;omega)
 exact ⟨q,hx,hq⟩
theorem ZJj {y1 y0 u d:Nat} {Yv N Y1 Y0 U D E Q R:UInt64} (hY1:Y1.toNat=y1) (hY0:Y0.toNat=y0) (hD:D.toNat=d) (h1:y1 < 4294967296) (h3:0 < y1) (h0:y0 < 4294967296) (hd:d < 4294967296) (hu:u < y1*4294967296+y0)
 (e:Q.toNat*y1+R.toNat=u) (hr:R.toNat < 4294967296) (hge:(u*4294967296+d) / (y1*4294967296+y0)≤Q.toNat):
 ∃q:UInt64,Zc (VG fuel) fuel (Yv,N,Y1,Y0,D,E,R,U,Q)=some (Yv,N,D,E,U,q)∧q.toNat=(u*4294967296+d) / (y1*4294967296+y0):=by
 obtain ⟨x,hx,q,rfl,hq⟩:=XZ (step:=VG fuel) (fun s=>∃Q R:UInt64,s=(Yv,N,Y1,Y0,D,E,R,U,Q)∧Q.toNat*y1+R.toNat=u∧R.toNat < 4294967296∧(u*4294967296+d) / (y1*4294967296+y0)≤Q.toNat)
  (fun s=>4294967296 - s.2.2.2.2.2.2.1.toNat) (fun x=>∃q:UInt64,x=(Yv,N,D,E,U,q)∧q.toNat=(u*4294967296+d) / (y1*4294967296+y0)) (by
  rintro _ ⟨Q,R,rfl,e,hr,hge⟩
  unfold VG
  dsimp only
  rcases Zyf hY1 hY0 hD h1 h0 hd hu e hr hge with ⟨c,k1,k2,k3⟩|⟨c1,c2,k⟩
  ·have key:(∃j,(if decide (R+Y1 ≥ 4294967296)=true then some (Sum.inr (Yv,N,D,E,U,Q - 1)) else some (Sum.inl (Yv,N,Y1,Y0,D,E,R+Y1,U,Q - 1)):Option ((UInt64×UInt64×UInt64×UInt64×UInt64×UInt64×UInt64×UInt64×UInt64)⊕(UInt64×UInt64×UInt64×UInt64×UInt64×UInt64)))=some (.inl j)∧
    (∃Q R:UInt64,j=(Yv,N,Y1,Y0,D,E,R,U,Q)∧Q.toNat*y1+R.toNat=u∧R.toNat < 4294967296∧(u*4294967296+d) / (y1*4294967296+y0)≤Q.toNat)∧4294967296 - j.2.2.2.2.2.2.1.toNat < 4294967296 - R.toNat)∨
    (∃x,(if decide (R+Y1 ≥ 4294967296)=true then some (Sum.inr (Yv,N,D,E,U,Q - 1)) else some (Sum.inl (Yv,N,Y1,Y0,D,E,R+Y1,U,Q - 1)):Option ((UInt64×UInt64×UInt64×UInt64×UInt64×UInt64×UInt64×UInt64×UInt64)⊕(UInt64×UInt64×UInt64×UInt64×UInt64×UInt64)))=some (.inr x)∧
    ∃q:UInt64,x=(Yv,N,D,E,U,q)∧q.toNat=(u*4294967296+d) / (y1*4294967296+y0)):=by
    by_cases hb:R+Y1 ≥ 4294967296
    ·right
     rw [if_pos (decide_eq_true hb)]
     have hb2:4294967296≤(R+Y1).toNat:=by
      rw [ge_iff_le,ycm] at hb
      exact hb
     exact ⟨_,rfl,_,rfl,Zz9 (by omega) k1 (ZEV k2 (ZEW hu h0 k2 hb2))⟩
    ·left
     rw [if_neg (by rw [decide_eq_true_iff];exact hb)]
     have hb2:(R+Y1).toNat < 4294967296:=by
      rw [ge_iff_le,ycm] at hb
      exact Nat.lt_of_not_le hb
     exact ⟨_,rfl,⟨_,_,rfl,k2,hb2,k1⟩,by dsimp only;omega⟩
   rcases c with c|c
   ·rw [if_pos (decide_eq_true c)]
    exact key
   ·by_cases c1:Q ≥ 4294967296
    ·rw [if_pos (decide_eq_true c1)]
     exact key
    ·rw [if_neg (by rw [decide_eq_true_iff];exact c1),if_pos (decide_eq_true c)]
     exact key
  ·right
   rw [if_neg (by rw [decide_eq_true_iff];exact c1),if_neg (by rw [decide_eq_true_iff];exact c2)]
   exact ⟨_,rfl,_,rfl,k⟩) (Yv,N,Y1,Y0,D,E,R,U,Q) ⟨Q,R,rfl,e,hr,hge⟩ (by dsimp only;omega)
 exact ⟨q,hx,hq⟩
theorem ZBq {A B:UInt64} {a b:Nat} (hA:A.toNat=a % 18446744073709551616) (hB:B.toNat=b % 18446744073709551616) (h:b≤a) (hd:a - b < 18446744073709551616):(A - B).toNat=a - b:=by
 rw [UInt64.toNat_sub,hA,hB]
 omega
theorem ZoQ (u y1:Nat):u / y1*y1+u % y1=u:=by
 have:=Nat.div_add_mod u y1
 rw [ybm] at this
 exact this
theorem ZEX {u y1 y0 d:Nat} (h1:0 < y1) (hd:d < 4294967296):(u*4294967296+d) / (y1*4294967296+y0)≤u / y1:=by
 have h:(u*4294967296+d) / (y1*4294967296+y0)≤(u*4294967296+d) / (y1*4294967296):=Nat.div_le_div_left (by omega) (by omega)
 have e:(u*4294967296+d) / (y1*4294967296)=u / y1:=by
  rw [ybm y1, ←Nat.div_div_eq_div_mul]
  congr 1
  omega
 omega
theorem ZEY {a b y:UInt64} {s:Nat} {Y:UInt64} (hy:y≠0) (hs:Ye fuel y=some (s:Int)) (s0:0 < s) (s1:s < 64) (hY:Qc y s=Y) (hYn:Y.toNat=y.toNat*2 ^ s) (hY63:9223372036854775808≤Y.toNat) (ha:a.toNat < y.toNat):
 ∃q r,Zfa fuel a b y=some (q,r)∧r.toNat=(a.toNat*18446744073709551616+b.toNat) % y.toNat:=by
 have ha2:¬(y≤a):=by
  rw [ycm]
  omega
 unfold Zfa
 rw [if_neg (by rw [beq_iff_eq];exact hy),if_neg (by rw [decide_eq_true_iff];exact ha2)]
 by_cases h0:a=0
 ·subst h0
  rw [if_pos (by decide),if_pos (by rw [bne_iff_ne];exact hy),if_pos (by rw [bne_iff_ne];exact hy)]
  refine ⟨_,_,rfl, ?_⟩
  rw [UInt64.toNat_mod]
  simp
 rw [if_neg (by rw [beq_iff_eq];exact h0),hs,yb]
 dsimp only
 have w:w64 (s:Int)=yag s:=by
  unfold w64
  congr 1
  omega
 have ws:(w64 (s:Int)).toNat=s:=by rw [w,ybd,yah (by omega)]
 have e1:min ((w64 (s:Int)).toNat:Int).toNat 64=s:=by rw [ws];omega
 have e2:(64 - w64 (s:Int)).toNat=64 - s:=by
  rw [UInt64.toNat_sub_of_le _ _ (by rw [ycm,ws];show s≤64;omega),ws]
  rfl
 have e3:min ((64 - w64 (s:Int)).toNat:Int).toNat 64=64 - s:=by rw [e2];omega
 rw [e1,e3,hY]
 have hYl:=ybi Y
 have hb:=ybi b
 have p64:2 ^ (64 - s)*2 ^ s=18446744073709551616:=by
  rw [←Nat.pow_add]
  have:64 - s+s=64:=by omega
  rw [this]
 have hp:0 < 2 ^ s:=Nat.pow_pos (by decide)
 obtain ⟨y1,hy1⟩:∃y1,y1=Y.toNat / 4294967296:=⟨_,rfl⟩
 obtain ⟨y0,hy0⟩:∃y0,y0=Y.toNat % 4294967296:=⟨_,rfl⟩
 have hYd:Y.toNat=y1*4294967296+y0:=by omega
 have ty1:(Zw Y 32).toNat=y1:=by rw [Qq,hy1]
 have ty0:(Y&&&4294967295).toNat=y0:=by rw [Zje,hy0]
 have l1:y1 < 4294967296:=by omega
 have g1:2147483648≤y1:=by omega
 have l0:y0 < 4294967296:=by omega
 have hash:a.toNat*2 ^ s < Y.toNat:=by rw [hYn];exact Nat.mul_lt_mul_of_pos_right ha hp
 have bd:b.toNat / 2 ^ (64 - s) < 2 ^ s:=by
  rw [Nat.div_lt_iff_lt_mul (Nat.pow_pos (by decide)),ybm,p64]
  exact hb
 have tu:((Qc a s)|||(Zw b (64 - s))).toNat=a.toNat*2 ^ s+b.toNat / 2 ^ (64 - s):=by
  rw [UInt64.toNat_or,Qq]
  unfold Qc
  rw [ybd,yah (by omega),ybm, ←yct bd]
 have t10:(Qc b s).toNat=b.toNat*2 ^ s % 18446744073709551616:=by
  unfold Qc
  rw [ybd]
 obtain ⟨u,hu⟩:∃u,u=a.toNat*2 ^ s+b.toNat / 2 ^ (64 - s):=⟨_,rfl⟩
 obtain ⟨v,hv⟩:∃v,v=b.toNat*2 ^ s % 18446744073709551616:=⟨_,rfl⟩
 rw [←hu] at tu
 rw [←hv] at t10
 have hbs:b.toNat*2 ^ s=b.toNat / 2 ^ (64 - s)*18446744073709551616+v:=by
  have h1:=Nat.div_add_mod (b.toNat*2 ^ s) 18446744073709551616
  have h2:b.toNat*2 ^ s / 18446744073709551616=b.toNat / 2 ^ (64 - s):=by
   rw [←p64]
   exact Nat.mul_div_mul_right _ _ hp
  rw [h2, ←hv] at h1
  omega
 have hN:(a.toNat*18446744073709551616+b.toNat)*2 ^ s=u*18446744073709551616+v:=by
  rw [Nat.add_mul,hbs,hu,Nat.mul_right_comm]
  omega
 have uY:u < y1*4294967296+y0:=by
  rw [←hYd,hu,hYn]
  have h1:(a.toNat+1)*2 ^ s≤y.toNat*2 ^ s:=Nat.mul_le_mul_right _ ha
  rw [Nat.add_mul,Nat.one_mul] at h1
  omega
 have hvl:v < 18446744073709551616:=by rw [hv];exact yav _ (by decide)
 obtain ⟨d1,hd1⟩:∃d1,d1=v / 4294967296:=⟨_,rfl⟩
 obtain ⟨d0,hd0⟩:∃d0,d0=v % 4294967296:=⟨_,rfl⟩
 have td1:(Zw (Qc b s) 32).toNat=d1:=by rw [Qq,t10,hd1]
 have td0:((Qc b s)&&&4294967295).toNat=d0:=by rw [Zje,t10,hd0]
 generalize ((Qc a s)|||(Zw b (64 - s)):UInt64)=U at tu ⊢
 generalize (Zw (Qc b s) 32:UInt64)=D1 at td1 ⊢
 generalize ((Qc b s)&&&4294967295:UInt64)=D0 at td0 ⊢
 generalize (Zw Y 32:UInt64)=Y1 at ty1 ⊢
 generalize (Y&&&4294967295:UInt64)=Y0 at ty0 ⊢
 have y1ne:(Y1 !=0)=true:=by
  rw [bne_iff_ne]
  intro h
  rw [h] at ty1
  have:(0:UInt64).toNat=0:=rfl
  omega
 rw [if_pos y1ne]
 have f1:(U / Y1).toNat*y1+(U - U / Y1*Y1).toNat=u:=by
  rw [ZpZ,UInt64.toNat_div,tu,ty1]
  exact ZoQ u y1
 have f2:(U - U / Y1*Y1).toNat < 4294967296:=by
  rw [ZpZ,tu,ty1]
  exact Nat.lt_trans (yav _ (by omega)) l1
 have f3:(u*4294967296+d1) / (y1*4294967296+y0)≤(U / Y1).toNat:=by
  rw [UInt64.toNat_div,tu,ty1]
  exact ZEX (by omega) (by omega)
 obtain ⟨q1,k1,k2⟩:=ZJi (Yv:=Y) (N:=w64 (s:Int)) (U:=U) (E:=D0) ty1 ty0 td1 l1 (by omega) l0 (by omega) uY f1 f2 f3
 rw [k1,yb]
 dsimp only
 rw [if_pos y1ne]
 have m1:=Nat.div_add_mod (u*4294967296+d1) Y.toNat
 have m2:(u*4294967296+d1) % Y.toNat < Y.toNat:=yav _ (by omega)
 rw [←hYd] at k2
 have tv:(((U*4294967296)+D1) - (q1*Y)).toNat=(u*4294967296+d1) % Y.toNat:=by
  rw [ZBq (a:=u*4294967296+d1) (b:=q1.toNat*Y.toNat) ?_ ?_ ?_ ?_]
  ·rw [k2,ybm ((u*4294967296+d1) / Y.toNat)]
   omega
  ·rw [UInt64.toNat_add,UInt64.toNat_mul,tu,td1,show (4294967296:UInt64).toNat=4294967296 from rfl]
   omega
  ·rw [UInt64.toNat_mul]
  ·rw [k2,ybm ((u*4294967296+d1) / Y.toNat)]
   omega
  ·rw [k2,ybm ((u*4294967296+d1) / Y.toNat)]
   omega
 obtain ⟨u2,hu2⟩:∃u2,u2=(u*4294967296+d1) % Y.toNat:=⟨_,rfl⟩
 rw [←hu2] at tv m2 m1
 generalize (((U*4294967296)+D1) - (q1*Y):UInt64)=V at tv ⊢
 have f4:(V / Y1).toNat*y1+(V - V / Y1*Y1).toNat=u2:=by
  rw [ZpZ,UInt64.toNat_div,tv,ty1]
  exact ZoQ u2 y1
 have f5:(V - V / Y1*Y1).toNat < 4294967296:=by
  rw [ZpZ,tv,ty1]
  exact Nat.lt_trans (yav _ (by omega)) l1
 have f6:(u2*4294967296+d0) / (y1*4294967296+y0)≤(V / Y1).toNat:=by
  rw [UInt64.toNat_div,tv,ty1]
  exact ZEX (by omega) (by omega)
 obtain ⟨q0,k3,k4⟩:=ZJj (Yv:=Y) (N:=w64 (s:Int)) (U:=V) (E:=q1) ty1 ty0 td0 l1 (by omega) l0 (by omega) (by rw [←hYd];exact m2) f4 f5 f6
 rw [k3,yb]
 refine ⟨_,_,rfl, ?_⟩
 dsimp only
 rw [e1,Qq]
 rw [←hYd] at k4
 have m3:=Nat.div_add_mod (u2*4294967296+d0) Y.toNat
 have m4:(u2*4294967296+d0) % Y.toNat < Y.toNat:=yav _ (by omega)
 have tr:(((V*4294967296)+D0) - (q0*Y)).toNat=(u2*4294967296+d0) % Y.toNat:=by
  rw [ZBq (a:=u2*4294967296+d0) (b:=q0.toNat*Y.toNat) ?_ ?_ ?_ ?_]
  ·rw [k4,ybm ((u2*4294967296+d0) / Y.toNat)]
   omega
  ·rw [UInt64.toNat_add,UInt64.toNat_mul,tv,td0,show (4294967296:UInt64).toNat=4294967296 from rfl]
   omega
  ·rw [UInt64.toNat_mul]
  ·rw [k4,ybm ((u2*4294967296+d0) / Y.toNat)]
   omega
  ·rw [k4,ybm ((u2*4294967296+d0) / Y.toNat)]
   omega
 rw [tr]
 have hNm:((a.toNat*18446744073709551616+b.toNat)*2 ^ s) % Y.toNat=(u2*4294967296+d0) % Y.toNat:=by
  have e:(a.toNat*18446744073709551616+b.toNat)*2 ^ s=u2*4294967296+d0+Y.toNat*((u*4294967296+d1) / Y.toNat*4294967296):=by
   rw [hN, ←Nat.mul_assoc]
   omega
  rw [e,Nat.add_mul_mod_self_left]
 rw [←hNm,hYn,Nat.mul_mod_mul_right,Nat.mul_div_cancel _ hp]
theorem Zv4 {y Y:UInt64} {s:Nat} (a b:UInt64) (hy:y≠0) (hs:Ye fuel y=some (s:Int)) (s0:0 < s) (s1:s < 64) (hY:Qc y s=Y) (hYn:Y.toNat=y.toNat*2 ^ s) (hY63:9223372036854775808≤Y.toNat):
 Q8 fuel a b y=some (yag ((a.toNat*18446744073709551616+b.toNat) % y.toNat)):=by
 have hp:0 < y.toNat:=by
  rcases ybw y.toNat with h|h
  ·exact absurd (UInt64.toNat_inj.1 h) hy
  ·exact h
 obtain ⟨q,r,h1,h2⟩:=ZEY (a:=a % y) (b:=b) hy hs s0 s1 hY hYn hY63 (by rw [UInt64.toNat_mod];exact yav _ hp)
 unfold Q8
 rw [if_pos (by rw [bne_iff_ne];exact hy),h1,yb]
 dsimp only
 rw [UInt64.toNat_mod,Nat.add_mod,Nat.mod_mul_mod, ←Nat.add_mod] at h2
 rw [←h2,UInt64.ofNat_toNat]
theorem ZIo:Ye fuel 4611686018427377339=some ((2:Nat):Int):=by kernel_rfl
theorem ZIp:Ye fuel 2305843009213688669=some ((3:Nat):Int):=by kernel_rfl
theorem ZIq:Ye fuel 2305843009213688668=some ((3:Nat):Int):=by kernel_rfl
noncomputable def WF (F:Nat) (a0:UInt64) (a1:UInt64) (a2:UInt64):Option UInt64:=
 if (a2==4611686018427377339 || (a2==2305843009213688669 || a2==2305843009213688668))=true then some (yag ((a0.toNat*18446744073709551616+a1.toNat) % a2.toNat)) else Q8 F a0 a1 a2
theorem ZEZ (a b y:UInt64):Q8 fuel a b y=WF fuel a b y:=by
 unfold WF
 split
 ·rename_i h
  simp only [Bool.or_eq_true,beq_iff_eq] at h
  rcases h with rfl|rfl|rfl
  ·exact Zv4 (Y:=18446744073709509356) (s:=2) a b (by decide) ZIo (by decide) (by decide) (by kernel_rfl) (by decide) (by decide)
  ·exact Zv4 (Y:=18446744073709509352) (s:=3) a b (by decide) ZIp (by decide) (by decide) (by kernel_rfl) (by decide) (by decide)
  ·exact Zv4 (Y:=18446744073709509344) (s:=3) a b (by decide) ZIq (by decide) (by decide) (by kernel_rfl) (by decide) (by decide)
 ·rfl
noncomputable def Zta (F:Nat):Fs ya:={ Zd2 F with M:=fun x=>WF F x.1 x.2.1 x.2.2}
noncomputable def Zc1:Fs ya:=Zta fuel
theorem ZfE:Zc1.Ok:=ZlA (s:=Zd2 fuel) Zrz fun x=>(ZEZ x.1 x.2.1 x.2.2).symm
end Go.Proofs.YtjbbdlffilcaaaaGreat
end
section
set_option maxRecDepth 4000
namespace Go.Proofs.YtjbbdlffilcaaaaGreat
open Go Go.Ev
noncomputable section
def Zc2 (F:Nat) (a0:UInt64) (a1:UInt64):Option ((UInt64×UInt64)):=
 let y215:UInt64:=Zw ((a0&&&4294967295)*(a1&&&4294967295)) 32
 let y216:UInt64:=(((Zw a0 32)*(a1&&&4294967295))+y215)&&&4294967295
 let y217:UInt64:=Zw (((Zw a0 32)*(a1&&&4294967295))+y215) 32
 let y218:UInt64:=Zw (y216+((a0&&&4294967295)*(Zw a1 32))) 32
 some ((((Zw a0 32)*(Zw a1 32))+y217)+y218,a0*a1)
def Zd3 (F:Nat):Fs ya:=⟨196,[.v .u64,.v .u64],[],[.u64,.u64],[⟨.ret,[(0,.tup [.v .u64,.v .u64])],[],[.u64,.u64]⟩],fun x=>Zc2 F x.1 x.2⟩
def Ztb:Fs ya:=Zd3 fuel
theorem ZrA:Ztb.Ok:=Zh (fi:={ hi:={ still:=[4,5]},lp:=[]}) (specs:={ l:=[]}) (okS trivial) trivial (by decide+kernel) (fun x=>by kernel_rfl)
end
end Go.Proofs.YtjbbdlffilcaaaaGreat
end
section
set_option maxRecDepth 4000
namespace Go.Proofs.YtjbbdlffilcaaaaGreat
open Go Go.Ev
theorem ZE0 (x y:UInt64):∃h l,Zc2 fuel x y=some (h,l)∧h.toNat*18446744073709551616+l.toNat=x.toNat*y.toNat:=by
 unfold Zc2
 refine ⟨_,_,rfl, ?_⟩
 have hx:=ybi x
 have hy:=ybi y
 have x0l:x.toNat % 4294967296 < 4294967296:=yav _ (by decide)
 have y0l:y.toNat % 4294967296 < 4294967296:=yav _ (by decide)
 have x1l:x.toNat / 4294967296 < 4294967296:=by omega
 have y1l:y.toNat / 4294967296 < 4294967296:=by omega
 have xe:x.toNat=x.toNat / 4294967296*4294967296+x.toNat % 4294967296:=by omega
 have ye:y.toNat=y.toNat / 4294967296*4294967296+y.toNat % 4294967296:=by omega
 generalize hX1:x.toNat / 4294967296=x1 at*
 generalize hX0:x.toNat % 4294967296=x0 at*
 generalize hY1:y.toNat / 4294967296=y1 at*
 generalize hY0:y.toNat % 4294967296=y0 at*
 have p00:=Zjf x0l y0l
 have p10:=Zjf x1l y0l
 have p01:=Zjf x0l y1l
 have p11:=Zjf x1l y1l
 have prod:x.toNat*y.toNat=x1*y1*18446744073709551616+(x1*y0+x0*y1)*4294967296+x0*y0:=by
  rw [xe,ye,Nat.add_mul,Nat.mul_add,Nat.mul_add]
  have e1:x1*4294967296*(y1*4294967296)=x1*y1*18446744073709551616:=by
   rw [Nat.mul_assoc,Nat.mul_left_comm 4294967296 y1, ←Nat.mul_assoc]
  have e2:x1*4294967296*y0=x1*y0*4294967296:=by rw [Nat.mul_right_comm]
  have e3:x0*(y1*4294967296)=x0*y1*4294967296:=by rw [Nat.mul_assoc]
  rw [e1,e2,e3]
  omega
 have q00:((x&&&4294967295)*(y&&&4294967295)).toNat=x0*y0:=by
  rw [Zkc (by rw [Zje,Zje,hX0,hY0];omega),Zje,Zje,hX0,hY0]
 have q10:((Zw x 32)*(y&&&4294967295)).toNat=x1*y0:=by
  rw [Zkc (by rw [Qq,Zje,show (2:Nat) ^ 32=4294967296 from rfl,hX1,hY0];omega),Qq,Zje,show (2:Nat) ^ 32=4294967296 from rfl,hX1,hY0]
 have q01:((x&&&4294967295)*(Zw y 32)).toNat=x0*y1:=by
  rw [Zkc (by rw [Qq,Zje,show (2:Nat) ^ 32=4294967296 from rfl,hX0,hY1];omega),Qq,Zje,show (2:Nat) ^ 32=4294967296 from rfl,hX0,hY1]
 have q11:((Zw x 32)*(Zw y 32)).toNat=x1*y1:=by
  rw [Zkc (by rw [Qq,Qq,show (2:Nat) ^ 32=4294967296 from rfl,hX1,hY1];omega),Qq,Qq,show (2:Nat) ^ 32=4294967296 from rfl,hX1,hY1]
 generalize hA:((x&&&4294967295)*(y&&&4294967295):UInt64)=A at*
 generalize hB:((Zw x 32)*(y&&&4294967295):UInt64)=B at*
 generalize hC:((x&&&4294967295)*(Zw y 32):UInt64)=C at*
 generalize hD:((Zw x 32)*(Zw y 32):UInt64)=D at*
 have s1:(Zw A 32).toNat=x0*y0 / 4294967296:=by rw [Qq,q00]
 have s2:(B+Zw A 32).toNat=x1*y0+x0*y0 / 4294967296:=by rw [Zkb (by rw [q10,s1];omega),q10,s1]
 have s3:((B+Zw A 32)&&&4294967295).toNat=(x1*y0+x0*y0 / 4294967296) % 4294967296:=by rw [Zje,s2]
 have s4:(Zw (B+Zw A 32) 32).toNat=(x1*y0+x0*y0 / 4294967296) / 4294967296:=by rw [Qq,s2]
 have s5:(((B+Zw A 32)&&&4294967295)+C).toNat=(x1*y0+x0*y0 / 4294967296) % 4294967296+x0*y1:=by rw [Zkb (by rw [s3,q01];omega),s3,q01]
 have s6:(Zw (((B+Zw A 32)&&&4294967295)+C) 32).toNat=((x1*y0+x0*y0 / 4294967296) % 4294967296+x0*y1) / 4294967296:=by rw [Qq,s5]
 have s7:(D+Zw (B+Zw A 32) 32).toNat=x1*y1+(x1*y0+x0*y0 / 4294967296) / 4294967296:=by rw [Zkb (by rw [q11,s4];omega),q11,s4]
 have s8:(x*y).toNat=x.toNat*y.toNat % 18446744073709551616:=UInt64.toNat_mul ..
 have s9:((D+Zw (B+Zw A 32) 32)+Zw (((B+Zw A 32)&&&4294967295)+C) 32).toNat=x1*y1+(x1*y0+x0*y0 / 4294967296) / 4294967296+((x1*y0+x0*y0 / 4294967296) % 4294967296+x0*y1) / 4294967296:=by
  rw [Zkb (by rw [s7,s6];omega),s7,s6]
 rw [s9,s8,prod]
 generalize x0*y0=a at*
 generalize x1*y0=b at*
 generalize x0*y1=c at*
 generalize x1*y1=d at*
 omega
theorem ZE1 (x y:UInt64):Zc2 fuel x y=some (yag (x.toNat*y.toNat / 18446744073709551616),yag (x.toNat*y.toNat % 18446744073709551616)):=by
 obtain ⟨h,l,e,k⟩:=ZE0 x y
 have hl:=ybi l
 rw [e, ←k,show (h.toNat*18446744073709551616+l.toNat) / 18446744073709551616=h.toNat by omega,show (h.toNat*18446744073709551616+l.toNat) % 18446744073709551616=l.toNat by omega,UInt64.ofNat_toNat,UInt64.ofNat_toNat]
noncomputable def Zfb (F:Nat) (a0:UInt64) (a1:UInt64):Option (UInt64×UInt64):=some (yag (a0.toNat*a1.toNat / 18446744073709551616),yag (a0.toNat*a1.toNat % 18446744073709551616))
noncomputable def Ztc (F:Nat):Fs ya:={ Zd3 F with M:=fun x=>Zfb F x.1 x.2}
noncomputable def Zhk:Fs ya:=Ztc fuel
theorem ZkS:Zhk.Ok:=ZlA (s:=Zd3 fuel) ZrA fun x=>(ZE1 x.1 x.2).symm
end Go.Proofs.YtjbbdlffilcaaaaGreat
end
section
set_option maxRecDepth 4000
namespace Go.Proofs.YtjbbdlffilcaaaaGreat
open Go Go.Ev
noncomputable section
def Z6 (F:Nat) (a0:UInt64) (a1:UInt64):Option (UInt64):=
 (Zfb F a0 a1).bind fun o219=>
 (WF F o219.1 o219.2 (4611686018427377339:UInt64)).bind fun o220=>
 some o220
def ZrB (F:Nat):Fs ya:=⟨151,[.v .u64,.v .u64],[],[.u64,.u64],[⟨.ret,[(0,.v .u64)],[],[.u64]⟩],fun x=>Z6 F x.1 x.2⟩
def ZfF:Fs ya:=ZrB fuel
theorem Zjg:ZfF.Ok:=Zh (fi:={ hi:={ still:=[4,8,9,13,14]},lp:=[]}) (specs:={ l:=[Zhk,Zc1]}) (okS ⟨ZkS,ZfE,trivial⟩) trivial (by decide+kernel) (fun x=>by kernel_rfl)
def Wz (F:Nat) (s:(UInt64×UInt64×UInt64)):Option ((UInt64×UInt64×UInt64)⊕UInt64):=
 if (decide (s.2.1 > 0))=true then
  if ((s.2.1&&&1)==1)=true then
   (Z6 F s.2.2 s.1).bind fun o221=>
   (Z6 F s.1 s.1).bind fun o222=>
   some (.inl (o222,Zw s.2.1 1,o221))
  else
  (Z6 F s.1 s.1).bind fun o223=>
  some (.inl (o223,Zw s.2.1 1,s.2.2))
 else
 some (.inr s.2.2)
def ZhI:Lp:=⟨[(0,.v .u64),(1,.v .u64),(5,.v .u64)],[],[.u64,.u64,.u64],[⟨.exit 0,[(5,.v .u64)],[],[.u64]⟩],Zc (Wz fuel) fuel⟩
theorem ZlD:ZhI.Ok ya (Zo ya 83) (Zn ya 83 0):=Zl (fi:={ hi:={ still:=[4,13,14,16,17]},lp:=[]}) (specs:={ l:=[ZfF]}) (okS ⟨Zjg,trivial⟩) trivial (by kernel_rfl) (fun v=>by kernel_rfl)
def ZfG (F:Nat) (a0:UInt64) (a1:UInt64):Option (UInt64):=
 (Zc (Wz F) F (a0,a1,(1:UInt64))).bind fun o224=>
 some o224
def Zcf (F:Nat):Fs ya:=⟨83,[.v .u64,.v .u64],[],[.u64,.u64],[⟨.ret,[(0,.v .u64)],[],[.u64]⟩],fun x=>ZfG F x.1 x.2⟩
def ZrC:Fs ya:=Zcf fuel
theorem Zpj:ZrC.Ok:=Zh (fi:={ hi:={ still:=[4,13,14,16,17]},lp:=[(0,ZhI)]}) (specs:={ l:=[]}) (okS trivial) ⟨ZlD,trivial⟩ (by decide+kernel) (fun x=>by kernel_rfl)
end
end Go.Proofs.YtjbbdlffilcaaaaGreat
end
section
set_option maxRecDepth 4000
namespace Go.Proofs.YtjbbdlffilcaaaaGreat
open Go Go.Ev
theorem ZE2 {z:Nat}:(yag (z % 4611686018427377339)).toNat=z % 4611686018427377339:=by
 rw [ybd,yah]
 exact Nat.lt_trans (yav _ (by decide)) (by decide)
theorem Zyg (a b:UInt64):Z6 fuel a b=some (yag (a.toNat*b.toNat % 4611686018427377339)):=by
 unfold Z6 Zfb
 rw [yb]
 dsimp only
 unfold WF
 rw [if_pos (by decide),yb,ybd,ybd]
 have h:a.toNat*b.toNat < 18446744073709551616*18446744073709551616:=Nat.mul_lt_mul'' (ybi a) (ybi b)
 have h2:a.toNat*b.toNat / 18446744073709551616 < 18446744073709551616:=(Nat.div_lt_iff_lt_mul (by decide)).2 h
 generalize a.toNat*b.toNat=z at*
 rw [show (4611686018427377339:UInt64).toNat=4611686018427377339 from rfl]
 have e:z / 18446744073709551616 % 2 ^ 64*18446744073709551616+z % 18446744073709551616 % 2 ^ 64=z:=by omega
 rw [e]
theorem ZrD:∀(k m:Nat) (A N O:UInt64),N.toNat < 2 ^ k→k < m→Zc (Wz fuel) m (A,N,O)=some (yag (pwm 4611686018427377339 k A.toNat N.toNat O.toNat))
 |k,0,_,_,_,_,h=>by omega
 |0,m+1,A,N,O,h,_=>by
  have hn:¬N > 0:=by
   intro h2
   have h3:0 < N.toNat:=ybq.1 h2
   rw [Nat.pow_zero] at h
   omega
  have hs:Wz fuel (A,N,O)=if decide (N > 0)=true then (if ((N&&&1)==1)=true then (Z6 fuel O A).bind fun o1=>(Z6 fuel A A).bind fun o2=>some (.inl (o2,Zw N 1,o1)) else (Z6 fuel A A).bind fun o2=>some (.inl (o2,Zw N 1,O))) else some (.inr O):=rfl
  unfold Zc
  rw [hs]
  rw [if_neg (by rw [decide_eq_true_iff];exact hn),yb,pwm,UInt64.ofNat_toNat]
 |k+1,m+1,A,N,O,h,hm=>by
  have hs:Wz fuel (A,N,O)=if decide (N > 0)=true then (if ((N&&&1)==1)=true then (Z6 fuel O A).bind fun o1=>(Z6 fuel A A).bind fun o2=>some (.inl (o2,Zw N 1,o1)) else (Z6 fuel A A).bind fun o2=>some (.inl (o2,Zw N 1,O))) else some (.inr O):=rfl
  unfold Zc
  rw [hs]
  by_cases h2:N > 0
  ·have hp:0 < N.toNat→pwm 4611686018427377339 (k+1) A.toNat N.toNat O.toNat=pwm 4611686018427377339 k (A.toNat*A.toNat % 4611686018427377339) (N.toNat / 2) (if N.toNat % 2=1 then O.toNat*A.toNat % 4611686018427377339 else O.toNat):=fun h=>by
    rw [pwm,if_neg (by omega)]
   have h3:0 < N.toNat:=ybq.1 h2
   have hsh:(Zw N 1).toNat=N.toNat / 2:=by
    unfold Zw
    rw [ybd,yah (Nat.lt_of_le_of_lt (Nat.div_le_self ..) (ybi _))]
   have hlt:(Zw N 1).toNat < 2 ^ k:=by
    rw [hsh]
    rw [Nat.pow_succ] at h
    omega
   have hand:((N&&&1)==1)=decide (N.toNat % 2=1):=by
    rw [Bool.eq_iff_iff,beq_iff_eq,decide_eq_true_iff, ←UInt64.toNat_inj,UInt64.toNat_and]
    exact Iff.of_eq (congrArg (· =1) (Nat.and_one_is_mod _))
   rw [if_pos (decide_eq_true h2),hand,hp h3]
   simp only [Zyg]
   by_cases h4:N.toNat % 2=1
   ·rw [if_pos (decide_eq_true h4),if_pos h4,yb,yb,yb]
    dsimp only
    rw [ZrD k m _ _ _ hlt (by omega),ZE2,ZE2,hsh]
   ·rw [if_neg (by rw [decide_eq_true_iff];exact h4),if_neg h4,yb,yb]
    dsimp only
    rw [ZrD k m _ _ _ hlt (by omega),ZE2,hsh]
  ·have h3:N.toNat=0:=by
    rcases ybw N.toNat with h5|h5
    ·exact h5
    ·exact absurd (show (0:UInt64) < N from ybq.2 h5) h2
   rw [if_neg (by rw [decide_eq_true_iff];exact h2),yb,pwm,if_pos h3,UInt64.ofNat_toNat]
theorem ZE3 (a n:UInt64):ZfG fuel a n=some (yag (pwm 4611686018427377339 64 a.toNat n.toNat 1)):=by
 unfold ZfG
 rw [ZrD 64 fuel a n 1 (ybi _) (by rw [Zc0];omega),yb]
 rfl
noncomputable def VY (F:Nat) (a0:UInt64) (a1:UInt64):Option UInt64:=some (yag (pwm 4611686018427377339 64 a0.toNat a1.toNat 1))
noncomputable def ZrE (F:Nat):Fs ya:={ Zcf F with M:=fun x=>VY F x.1 x.2}
noncomputable def Zbm:Fs ya:=ZrE fuel
theorem Zd4:Zbm.Ok:=ZlA (s:=Zcf fuel) Zpj fun x=>(ZE3 x.1 x.2).symm
end Go.Proofs.YtjbbdlffilcaaaaGreat
end
section
set_option maxRecDepth 4000
namespace Go.Proofs.YtjbbdlffilcaaaaGreat
open Go Go.Ev
noncomputable section
def YZ (F:Nat) (a0:UInt64):Option (Bool):=
 if (decide (a0 > 0))=true then
  if (decide (a0 < 4611686018427377339))=true then
   (VY F a0 (2305843009213688669:UInt64)).bind fun o225=>
   some (o225==1)
  else
  some false
 else
 some false
def ZrF (F:Nat):Fs ya:=⟨28,[.v .u64],[],[.u64],[⟨.ret,[(0,.v .bool)],[],[.bool]⟩],fun x=>YZ F x⟩
def Wo:Fs ya:=ZrF fuel
theorem WA:Wo.Ok:=Zh (fi:={ hi:={ still:=[2,10]},lp:=[]}) (specs:={ l:=[Zbm]}) (okS ⟨Zd4,trivial⟩) trivial (by decide+kernel) (fun x=>by kernel_rfl)
def VZ (F:Nat) (a0:UInt64):Option (UInt64):=
 (YZ F a0).bind fun o226=>
 if o226=true then
  some a0
 else
 some (1:UInt64)
def ZrG (F:Nat):Fs ya:=⟨181,[.v .u64],[],[.u64],[⟨.ret,[(0,.v .u64)],[],[.u64]⟩],fun x=>VZ F x⟩
def Zbn:Fs ya:=ZrG fuel
theorem Zd5:Zbn.Ok:=Zh (fi:={ hi:={ still:=[2,3]},lp:=[]}) (specs:={ l:=[Wo]}) (okS ⟨WA,trivial⟩) trivial (by decide+kernel) (fun x=>by kernel_rfl)
def WV (F:Nat) (a0:UInt64) (a1:UInt64):Option (UInt64):=
 (VZ F a0).bind fun o227=>
 (VY F o227 (a1 % 2305843009213688669)).bind fun o228=>
 some o228
def ZrH (F:Nat):Fs ya:=⟨116,[.v .u64,.v .u64],[],[.u64,.u64],[⟨.ret,[(0,.v .u64)],[],[.u64]⟩],fun x=>WV F x.1 x.2⟩
def Zbo:Fs ya:=ZrH fuel
theorem Zd6:Zbo.Ok:=Zh (fi:={ hi:={ still:=[4,5,6,8]},lp:=[]}) (specs:={ l:=[Zbn,Zbm]}) (okS ⟨Zd5,Zd4,trivial⟩) trivial (by decide+kernel) (fun x=>by kernel_rfl)
def XH (F:Nat) (a0:UInt64):Option (UInt64):=
 (WV F (4:UInt64) a0).bind fun o229=>
 some o229
def Ztd (F:Nat):Fs ya:=⟨48,[.v .u64],[],[.u64],[⟨.ret,[(0,.v .u64)],[],[.u64]⟩],fun x=>XH F x⟩
def WW:Fs ya:=Ztd fuel
theorem W8:WW.Ok:=Zh (fi:={ hi:={ still:=[2,3]},lp:=[]}) (specs:={ l:=[Zbo]}) (okS ⟨Zd6,trivial⟩) trivial (by decide+kernel) (fun x=>by kernel_rfl)
def Y2 (F:Nat) (s:(Int×Int×Int×State)):Option ((Int×Int×Int×State)⊕((Int×State)⊕State)):=
 if (decide (s.2.2.1 < (s.2.2.2.2.2.1.length:Int)))=true then
  (idx s.2.2.2.2.2.1 s.2.2.1).bind fun e230=>
  if (e230.1==s.1)=true then
   (idx s.2.2.2.2.2.1 s.2.2.1).bind fun e231=>
   if (e231.2.1==s.2.1)=true then
    some (.inr (.inl (s.2.2.1,s.2.2.2)))
   else
   some (.inl (s.1,s.2.1,wi (s.2.2.1+1),s.2.2.2))
  else
  some (.inl (s.1,s.2.1,wi (s.2.2.1+1),s.2.2.2))
 else
 some (.inr (.inr s.2.2.2))
def ZaM:Lp:=⟨[(1,.v (.int .i64)),(2,.v (.int .i64)),(3,.ref 0 []),(7,.v (.int .i64))],[.var (.v Ze) true],[(.int .i64),(.int .i64),(.int .i64),Ze],[⟨.ret,[(6,.v (.int .i64))],[.var (.v Ze) true],[(.int .i64),Ze]⟩,⟨.exit 0,[],[.var (.v Ze) true],[Ze]⟩],Zc (Y2 fuel) fuel⟩
theorem ZfH:ZaM.Ok ya (Zo ya 117) (Zn ya 117 0):=Zl (fi:={ hi:={ still:=[6]},lp:=[]}) (specs:={ l:=[]}) (okS trivial) trivial (by kernel_rfl) (fun v=>by kernel_rfl)
def Ww (F:Nat) (a0:State) (a1:Int) (a2:Int):Option (Int):=
 (Zc (Y2 F) F (a1,a2,(0:Int),a0)).bind fun o232=>
 match o232 with
 |.inl o233=>
  some o233.1
 |.inr o234=>
  some (-1:Int)
def Zil (F:Nat):Fs ya:=⟨117,[.v Ze,.v (.int .i64),.v (.int .i64)],[],[Ze,(.int .i64),(.int .i64)],[⟨.ret,[(0,.v (.int .i64))],[],[(.int .i64)]⟩],fun x=>Ww F x.1 x.2.1 x.2.2⟩
def ZbX:Fs ya:=Zil fuel
theorem Zim:ZbX.Ok:=Zh (fi:={ hi:={ still:=[6]},lp:=[(0,ZaM)]}) (specs:={ l:=[]}) (okS trivial) ⟨ZfH,trivial⟩ (by decide+kernel) (fun x=>by kernel_rfl)
def Xg (F:Nat) (s:(Bool×Int×State×ZB×State×Int×(List Int)×Int×(List ZB))):Option ((Bool×Int×State×ZB×State×Int×(List Int)×Int×(List ZB))⊕(Bool×State×ZB×State×Int×(List Int)×Int×(List ZB))):=
 if (decide (s.2.1 < (s.2.2.1.2.2.1.length:Int)))=true then
  if (!s.1)=true then
   (idx s.2.2.1.2.2.1 s.2.1).bind fun e235=>
   (XB F s.2.2.2.1 e235).bind fun o236=>
   if o236=true then
    if (apB s.2.2.2.2.2.2.2.2.length 1 40)=true then
     (idx s.2.2.1.2.2.1 s.2.1).bind fun e237=>
     if (apB ((s.2.2.2.2.2.2.2.2++([s.2.2.2.1]:List ZB)).length) 1 40)=true then
      let y238:(List ZB):=(s.2.2.2.2.2.2.2.2++([s.2.2.2.1]:List ZB))++([e237]:List ZB)
      some (.inl (true,wi (s.2.1+1),s.2.2.1,s.2.2.2.1,s.2.2.2.2.1,s.2.2.2.2.2.1,s.2.2.2.2.2.2.1,s.2.2.2.2.2.2.2.1,y238))
     else
     none
    else
    none
   else
   (idx s.2.2.1.2.2.1 s.2.1).bind fun e239=>
   if (apB s.2.2.2.2.2.2.2.2.length 1 40)=true then
    some (.inl (s.1,wi (s.2.1+1),s.2.2.1,s.2.2.2.1,s.2.2.2.2.1,s.2.2.2.2.2.1,s.2.2.2.2.2.2.1,s.2.2.2.2.2.2.2.1,s.2.2.2.2.2.2.2.2++([e239]:List ZB)))
   else
   none
  else
  (idx s.2.2.1.2.2.1 s.2.1).bind fun e240=>
  if (apB s.2.2.2.2.2.2.2.2.length 1 40)=true then
   some (.inl (s.1,wi (s.2.1+1),s.2.2.1,s.2.2.2.1,s.2.2.2.2.1,s.2.2.2.2.2.1,s.2.2.2.2.2.2.1,s.2.2.2.2.2.2.2.1,s.2.2.2.2.2.2.2.2++([e240]:List ZB)))
  else
  none
 else
 some (.inr (s.1,s.2.2.1,s.2.2.2.1,s.2.2.2.2.1,s.2.2.2.2.2.1,s.2.2.2.2.2.2.1,s.2.2.2.2.2.2.2.1,s.2.2.2.2.2.2.2.2))
def ZbY:Lp:=⟨[(2,.ref 0 []),(3,.ref 1 []),(4,.ref 2 []),(5,.ref 3 []),(6,.v .bool),(7,.v (.int .i64))],[.var (.v Ze) true,.var (.v Z7) true,.var (.v Ze) true,.var (.agg [.v (.int .i64),.v (.arr 2 (.int .i64)),.own 4 Z7,.v (.int .i64)]) true,.log Z7 72],[.bool,(.int .i64),Ze,Z7,Ze,(.int .i64),(.arr 2 (.int .i64)),(.int .i64),(.sl Z7)],[⟨.exit 0,[(3,.ref 1 []),(4,.ref 2 []),(5,.ref 3 []),(6,.v .bool)],[.var (.v Ze) true,.var (.v Z7) true,.var (.v Ze) true,.var (.agg [.v (.int .i64),.v (.arr 2 (.int .i64)),.own 4 Z7,.v (.int .i64)]) true,.log Z7 72],[.bool,Ze,Z7,Ze,(.int .i64),(.arr 2 (.int .i64)),(.int .i64),(.sl Z7)]⟩],Zc (Xg fuel) fuel⟩
theorem Zgo:ZbY.Ok ya (Zo ya 118) (Zn ya 118 0):=Zl (fi:={ hi:={ own:=[29,32,35,42,47,50],still:=[20,25],gst:=[(9,[([2],Z7,72)])]},lp:=[]}) (specs:={ l:=[VC]}) (okS ⟨ZaF,trivial⟩) trivial (by kernel_rfl) (fun v=>by kernel_rfl)
def WX (F:Nat) (a0:State) (a1:ZB):Option (State):=
 (Zc (Xg F) F (false,(0:Int),a0,a1,((0:Int),([0,0]:List Int),([]:List ZB),(0:Int)),a0.1,a0.2.1,a0.2.2.2,([]:List ZB))).bind fun o241=>
 if (!o241.1)=true then
  if (apB o241.2.2.2.2.2.2.2.length 1 40)=true then
   if (inB o241.2.2.1.1 2)=true then
    (o241.2.2.2.2.2.1[o241.2.2.1.1.toNat]?).bind fun e242=>
    if (inB o241.2.2.1.1 2)=true then
     (o241.2.2.2.2.2.1[o241.2.2.1.1.toNat]?).bind fun e243=>
     some (o241.2.2.2.2.1,o241.2.2.2.2.2.1.set o241.2.2.1.1.toNat (wi (e242 - o241.2.2.1.2.2.1)),o241.2.2.2.2.2.2.2++([o241.2.2.1]:List ZB),o241.2.2.2.2.2.2.1)
    else
    none
   else
   none
  else
  none
 else
 if (inB o241.2.2.1.1 2)=true then
  (o241.2.2.2.2.2.1[o241.2.2.1.1.toNat]?).bind fun e244=>
  if (inB o241.2.2.1.1 2)=true then
   (o241.2.2.2.2.2.1[o241.2.2.1.1.toNat]?).bind fun e245=>
   some (o241.2.2.2.2.1,o241.2.2.2.2.2.1.set o241.2.2.1.1.toNat (wi (e244 - o241.2.2.1.2.2.1)),o241.2.2.2.2.2.2.2,o241.2.2.2.2.2.2.1)
  else
  none
 else
 none
def Zjh (F:Nat):Fs ya:=⟨118,[.v Ze,.v Z7],[],[Ze,Z7],[⟨.ret,[(0,.v Ze)],[],[Ze]⟩],fun x=>WX F x.1 x.2⟩
def ZcD:Fs ya:=Zjh fuel
theorem Zji:ZcD.Ok:=Zh (fi:={ hi:={ own:=[29,32,35,42,47,50],still:=[20,25],gst:=[(9,[([2],Z7,72)])]},lp:=[(0,ZbY)]}) (specs:={ l:=[]}) (okS trivial) ⟨Zgo,trivial⟩ (by decide+kernel) (fun x=>by kernel_rfl)
def Vl (F:Nat) (a0:ZO) (a1:State) (a2:ZB):Option ((State×Int)):=
 (Y7 F a0 a1).bind fun o257=>
 (XR F a2).bind fun o258=>
 if (!o257)=true then
  some (((0:Int),([0,0]:List Int),([]:List ZB),(0:Int)),(1:Int))
 else
 if (!o258)=true then
  some (((0:Int),([0,0]:List Int),([]:List ZB),(0:Int)),(1:Int))
 else
 (Ww F a1 a2.1 a2.2.1).bind fun o259=>
 if (decide (o259 ≥ 0))=true then
  some (((0:Int),([0,0]:List Int),([]:List ZB),(0:Int)),(4:Int))
 else
 if (inB (wi (1 - a2.1)) 2)=true then
  (a0.2.2.2.1[(wi (1 - a2.1)).toNat]?).bind fun e260=>
  (Xf F a1 (wi (1 - a2.1))).bind fun o261=>
  if (decide (a2.2.2.1 < e260.2.2.2.2.1))=true then
   some (((0:Int),([0,0]:List Int),([]:List ZB),(0:Int)),(9:Int))
  else
  if ((a1.2.2.1.length:Int)==16)=true then
   some (((0:Int),([0,0]:List Int),([]:List ZB),(0:Int)),(3:Int))
  else
  if (decide (o261.1 ≥ e260.2.2.2.1))=true then
   some (((0:Int),([0,0]:List Int),([]:List ZB),(0:Int)),(3:Int))
  else
  let y262:Bool:=decide ((wi (o261.2+a2.2.2.1)) > e260.2.2.2.2.2)
  if y262=true then
   some (((0:Int),([0,0]:List Int),([]:List ZB),(0:Int)),(6:Int))
  else
  (WX F a1 a2).bind fun o263=>
  (YG F a0 o263).bind fun o264=>
  if (inB a2.1 2)=true then
   (o263.2.1[a2.1.toNat]?).bind fun e265=>
   if (decide (e265 < 0))=true then
    some (((0:Int),([0,0]:List Int),([]:List ZB),(0:Int)),(8:Int))
   else
   if (inB a0.2.2.2.2 2)=true then
    (o263.2.1[a0.2.2.2.2.toNat]?).bind fun e266=>
    if (decide (e266 < o264))=true then
     some (((0:Int),([0,0]:List Int),([]:List ZB),(0:Int)),(8:Int))
    else
    if (inB a2.1 2)=true then
     (o263.2.1[a2.1.toNat]?).bind fun e267=>
     if (a2.1==a0.2.2.2.2)=true then
      if (decide ((wi (e267 - o264)) < e260.2.1))=true then
       some (((0:Int),([0,0]:List Int),([]:List ZB),(0:Int)),(10:Int))
      else
      some (o263,(0:Int))
     else
     if (decide (e267 < e260.2.1))=true then
      some (((0:Int),([0,0]:List Int),([]:List ZB),(0:Int)),(10:Int))
     else
     some (o263,(0:Int))
    else
    none
   else
   none
  else
  none
 else
 none
def Zku (F:Nat):Fs ya:=⟨49,[.v Zr,.v Ze,.v Z7],[],[Zr,Ze,Z7],[⟨.ret,[(0,.tup [.v Ze,.v (.int .i64)])],[],[Ze,(.int .i64)]⟩],fun x=>Vl F x.1 x.2.1 x.2.2⟩
def Zd7:Fs ya:=Zku fuel
theorem Zkv:Zd7.Ok:=Zh (fi:={ hi:={ still:=[7,16,17,19,28,30,32,43,46,75,76,78,79]},lp:=[]}) (specs:={ l:=[VE,V7,ZbX,WU,ZcD,V8]}) (okS ⟨ZaK,ZbU,Zim,QD,Zji,ZbW,trivial⟩) trivial (by decide+kernel) (fun x=>by kernel_rfl)
abbrev Zg:Ty:=(.st [(.arr 2 (.arr 32 .u8)),.u32,.u32,.u8,.u8,(.sl XO),(.int .u16),(.arr 32 .u8)])
abbrev Corsnedlaw21Play:Type:=((List (List UInt8))×UInt32×UInt32×UInt8×UInt8×(List Vf)×Int×(List UInt8))
def Xh (F:Nat) (s:(Int×Corsnedlaw21Play×ZO×(List Kit)×State×(List Kit)×ZO)):Option ((Int×Corsnedlaw21Play×ZO×(List Kit)×State×(List Kit)×ZO)⊕(Corsnedlaw21Play×ZO×(List Kit)×State×(List Kit)×ZO)):=
 if (decide (s.1 < 2))=true then
  if (inB s.1 2)=true then
   (s.2.2.2.2.2.1[s.1.toNat]?).bind fun e289=>
   (Wc F e289).bind fun o290=>
   if (inB s.1 2)=true then
    (s.2.2.2.2.2.2.2.2.1[s.1.toNat]?).bind fun e291=>
    if (inB s.1 2)=true then
     (s.2.2.2.2.2.2.2.2.2.1[s.1.toNat]?).bind fun e292=>
     some (.inl (wi (s.1+1),s.2.1,s.2.2.1,s.2.2.2.1,s.2.2.2.2.1,s.2.2.2.2.2.1,(s.2.2.2.2.2.2.1,s.2.2.2.2.2.2.2.1,s.2.2.2.2.2.2.2.2.1.set s.1.toNat o290,s.2.2.2.2.2.2.2.2.2.1.set s.1.toNat ((100:Int),(200:Int),wi (5+s.1),(16:Int),(1:Int),(1125899906842624:Int)),s.2.2.2.2.2.2.2.2.2.2)))
    else
    none
   else
   none
  else
  none
 else
 some (.inr (s.2.1,s.2.2.1,s.2.2.2.1,s.2.2.2.2.1,s.2.2.2.2.2.1,s.2.2.2.2.2.2))
def ZbZ:Lp:=⟨[(1,.ref 0 []),(2,.ref 1 []),(3,.ref 2 []),(4,.ref 3 []),(5,.ref 4 []),(6,.ref 5 []),(7,.v (.int .i64))],[.var (.v Zg) true,.var (.v Zr) true,.var (.v (.arr 2 WE)) true,.var (.v Ze) true,.var (.v (.arr 2 WE)) true,.var (.v Zr) true],[(.int .i64),Zg,Zr,(.arr 2 WE),Ze,(.arr 2 WE),Zr],[⟨.exit 0,[(1,.ref 0 []),(2,.ref 1 []),(3,.ref 2 []),(4,.ref 3 []),(5,.ref 4 []),(6,.ref 5 [])],[.var (.v Zg) true,.var (.v Zr) true,.var (.v (.arr 2 WE)) true,.var (.v Ze) true,.var (.v (.arr 2 WE)) true,.var (.v Zr) true],[Zg,Zr,(.arr 2 WE),Ze,(.arr 2 WE),Zr]⟩],Zc (Xh fuel) fuel⟩
theorem Zgp:ZbZ.Ok ya (Zo ya 11) (Zn ya 11 0):=Zl (fi:={ hi:={ still:=[17,21,40,75,76,117,118,126,127,128]},lp:=[]}) (specs:={ l:=[ZaE]}) (okS ⟨Zhd,trivial⟩) trivial (by kernel_rfl) (fun v=>by kernel_rfl)
def Z4 (F:Nat) (s:(Int×Corsnedlaw21Play×ZO×(List Kit)×State×(List Kit)×ZO×State)):Option ((Int×Corsnedlaw21Play×ZO×(List Kit)×State×(List Kit)×ZO×State)⊕(Corsnedlaw21Play×ZO×(List Kit)×State×(List Kit)×ZO×State)):=
 if (decide (s.1 < (s.2.1.2.2.2.2.2.1.length:Int)))=true then
  if (decide (s.1 < 20))=true then
   (idx s.2.1.2.2.2.2.2.1 s.1).bind fun e298=>
   (Vy F e298).bind fun o299=>
   (XH F o299).bind fun o300=>
   (Vl F s.2.2.2.2.2.2.1 s.2.2.2.2.2.2.2 (((e298.1 % 2).toNat:Int),wi (s.1+1),wi (1+(wi e298.2.1)),o300,wi (1+(wi e298.2.2.1)))).bind fun o301=>
   if (o301.2==0)=true then
    some (.inl (wi (s.1+1),s.2.1,s.2.2.1,s.2.2.2.1,s.2.2.2.2.1,s.2.2.2.2.2.1,s.2.2.2.2.2.2.1,o301.1))
   else
   some (.inl (wi (s.1+1),s.2.1,s.2.2.1,s.2.2.2.1,s.2.2.2.2.1,s.2.2.2.2.2.1,s.2.2.2.2.2.2.1,s.2.2.2.2.2.2.2))
  else
  some (.inr (s.2.1,s.2.2.1,s.2.2.2.1,s.2.2.2.2.1,s.2.2.2.2.2.1,s.2.2.2.2.2.2.1,s.2.2.2.2.2.2.2))
 else
 some (.inr (s.2.1,s.2.2.1,s.2.2.2.1,s.2.2.2.2.1,s.2.2.2.2.2.1,s.2.2.2.2.2.2.1,s.2.2.2.2.2.2.2))
def Zb0:Lp:=⟨[(1,.ref 0 []),(2,.ref 1 []),(3,.ref 2 []),(4,.ref 3 []),(5,.ref 4 []),(6,.ref 5 []),(8,.ref 6 []),(10,.v (.int .i64))],[.var (.v Zg) true,.var (.v Zr) true,.var (.v (.arr 2 WE)) true,.var (.v Ze) true,.var (.v (.arr 2 WE)) true,.var (.v Zr) true,.var (.v Ze) true],[(.int .i64),Zg,Zr,(.arr 2 WE),Ze,(.arr 2 WE),Zr,Ze],[⟨.exit 2,[(2,.ref 1 []),(3,.ref 2 []),(4,.ref 3 []),(5,.ref 4 []),(6,.ref 5 []),(8,.ref 6 [])],[.var (.v Zg) true,.var (.v Zr) true,.var (.v (.arr 2 WE)) true,.var (.v Ze) true,.var (.v (.arr 2 WE)) true,.var (.v Zr) true,.var (.v Ze) true],[Zg,Zr,(.arr 2 WE),Ze,(.arr 2 WE),Zr,Ze]⟩],Zc (Z4 fuel) fuel⟩
theorem Zgq:Zb0.Ok ya (Zo ya 11) (Zn ya 11 1):=Zl (fi:={ hi:={ still:=[17,21,40,75,76,117,118,126,127,128]},lp:=[]}) (specs:={ l:=[Zav,WW,Zd7]}) (okS ⟨Zg3,W8,Zkv,trivial⟩) trivial (by kernel_rfl) (fun v=>by kernel_rfl)
def XS (F:Nat) (a0:Corsnedlaw21Play):Option ((ZO×(List Kit)×State)):=
 (a0.1[0]?).bind fun e285=>
 (X8 F e285).bind fun o286=>
 (a0.1[1]?).bind fun e287=>
 (X8 F e287).bind fun o288=>
 (Zc (Xh F) F ((0:Int),a0,((([0,0,0,0,0,0,0,0,0,0,0,0,0,0,0,0,0,0,0,0,0,0,0,0,0,0,0,0,0,0,0,0]:List UInt8),(0:Int)),(0:Int),([(0,0,0,0,0),(0,0,0,0,0)]:List WS),([(0,0,0,0,0,0),(0,0,0,0,0,0)]:List Vh),(0:Int)),([(0,0,0,0,0,[0,0,0,0,0,0,0,0,0,0,0,0,0,0,0,0,0,0,0,0,0,0,0,0,0,0,0,0,0,0,0,0]),(0,0,0,0,0,[0,0,0,0,0,0,0,0,0,0,0,0,0,0,0,0,0,0,0,0,0,0,0,0,0,0,0,0,0,0,0,0])]:List Kit),((0:Int),([0,0]:List Int),([]:List ZB),(0:Int)),([o286,o288]:List Kit),((([0,0,0,0,0,0,0,0,0,0,0,0,0,0,0,0,0,0,0,0,0,0,0,0,0,0,0,0,0,0,0,0]:List UInt8),(0:Int)),wi (20000+(a0.2.1.toNat:Int)),([(0,0,0,0,0),(0,0,0,0,0)]:List WS),([(0,0,0,0,0,0),(0,0,0,0,0,0)]:List Vh),((a0.2.2.2.2.1 % 2).toNat:Int)))).bind fun o293=>
 if ((wi (o293.2.2.2.2.2.2.1+1))!=0)=true then
  let y294:Int:=Int.tmod (o293.1.2.2.1.toNat:Int) (wi (o293.2.2.2.2.2.2.1+1))
  (Y7 F o293.2.2.2.2.2 (wi o293.1.2.2.2.2.2.2.1,([y294,wi (o293.2.2.2.2.2.2.1 - y294)]:List Int),([]:List ZB),((o293.1.2.2.2.1 % 8).toNat:Int))).bind fun o295=>
  if (!o295)=true then
   if (inB o293.2.2.2.2.2.2.2.2.2 2)=true then
    (([y294,wi (o293.2.2.2.2.2.2.1 - y294)]:List Int)[o293.2.2.2.2.2.2.2.2.2.toNat]?).bind fun e296=>
    if (inB (wi (1 - o293.2.2.2.2.2.2.2.2.2)) 2)=true then
     ((([y294,wi (o293.2.2.2.2.2.2.1 - y294)]:List Int).set o293.2.2.2.2.2.2.2.2.2.toNat o293.2.2.2.2.2.2.1)[(wi (1 - o293.2.2.2.2.2.2.2.2.2)).toNat]?).bind fun e297=>
     (Zc (Z4 F) F ((0:Int),o293.1,o293.2.1,o293.2.2.1,o293.2.2.2.1,o293.2.2.2.2.1,o293.2.2.2.2.2,(wi o293.1.2.2.2.2.2.2.1,(([y294,wi (o293.2.2.2.2.2.2.1 - y294)]:List Int).set o293.2.2.2.2.2.2.2.2.2.toNat o293.2.2.2.2.2.2.1).set ((wi (1 - o293.2.2.2.2.2.2.2.2.2)).toNat) (0:Int),([]:List ZB),((o293.1.2.2.2.1 % 8).toNat:Int)))).bind fun o302=>
     some (o302.2.2.2.2.2.1,o302.2.2.2.2.1,o302.2.2.2.2.2.2)
    else
    none
   else
   none
  else
  (Zc (Z4 F) F ((0:Int),o293.1,o293.2.1,o293.2.2.1,o293.2.2.2.1,o293.2.2.2.2.1,o293.2.2.2.2.2,(wi o293.1.2.2.2.2.2.2.1,([y294,wi (o293.2.2.2.2.2.2.1 - y294)]:List Int),([]:List ZB),((o293.1.2.2.2.1 % 8).toNat:Int)))).bind fun o303=>
  some (o303.2.2.2.2.2.1,o303.2.2.2.2.1,o303.2.2.2.2.2.2)
 else
 none
def VH (F:Nat):Fs ya:=⟨11,[.v Zg],[],[Zg],[⟨.ret,[(0,.tup [.v Zr,.v (.arr 2 WE),.v Ze])],[],[Zr,(.arr 2 WE),Ze]⟩],fun x=>XS F x⟩
def ZcE:Fs ya:=VH fuel
theorem Zb1:ZcE.Ok:=Zh (fi:={ hi:={ still:=[17,21,40,75,76,117,118,126,127,128]},lp:=[(0,ZbZ),(1,Zb0)]}) (specs:={ l:=[ZdV,VE]}) (okS ⟨Zkn,ZaK,trivial⟩) ⟨Zgp,Zgq,trivial⟩ (by decide+kernel) (fun x=>by kernel_rfl)
def Zd8 (F:Nat) (a0:Int):Option (Bool):=
 if (decide (a0 ≥ 0))=true then
  some (decide (a0≤1125899906842624))
 else
 some false
def Zv5 (F:Nat):Fs ya:=⟨130,[.v (.int .i64)],[],[(.int .i64)],[⟨.ret,[(0,.v .bool)],[],[.bool]⟩],fun x=>Zd8 F x⟩
def ZoR:Fs ya:=Zv5 fuel
theorem Zv6:ZoR.Ok:=Zh (fi:={ hi:={ still:=[2]},lp:=[]}) (specs:={ l:=[]}) (okS trivial) trivial (by decide+kernel) (fun x=>by kernel_rfl)
def Zgr (F:Nat) (a0:Int) (a1:Int):Option ((Int×Bool)):=
 (Zd8 F a0).bind fun o304=>
 if (!o304)=true then
  some ((0:Int),false)
 else
 (Zd8 F a1).bind fun o305=>
 if (!o305)=true then
  some ((0:Int),false)
 else
 if (decide (a0 > (wi (1125899906842624 - a1))))=true then
  some ((0:Int),false)
 else
 some (wi (a0+a1),true)
def ZAa (F:Nat):Fs ya:=⟨74,[.v (.int .i64),.v (.int .i64)],[],[(.int .i64),(.int .i64)],[⟨.ret,[(0,.tup [.v (.int .i64),.v .bool])],[],[(.int .i64),.bool]⟩],fun x=>Zgr F x.1 x.2⟩
def ZnR:Fs ya:=ZAa fuel
theorem ZrI:ZnR.Ok:=Zh (fi:={ hi:={ still:=[4,5,6,10]},lp:=[]}) (specs:={ l:=[ZoR]}) (okS ⟨Zv6,trivial⟩) trivial (by decide+kernel) (fun x=>by kernel_rfl)
def Y3 (F:Nat) (a0:Int) (a1:Int) (a2:Int):Option (Bool):=
 if (decide (a1≤a0))=true then
  some (decide (a0≤a2))
 else
 some false
def ZnS (F:Nat):Fs ya:=⟨186,[.v (.int .i64),.v (.int .i64),.v (.int .i64)],[],[(.int .i64),(.int .i64),(.int .i64)],[⟨.ret,[(0,.v .bool)],[],[.bool]⟩],fun x=>Y3 F x.1 x.2.1 x.2.2⟩
def ZhJ:Fs ya:=ZnS fuel
theorem ZnT:ZhJ.Ok:=Zh (fi:={ hi:={ still:=[6]},lp:=[]}) (specs:={ l:=[]}) (okS trivial) trivial (by decide+kernel) (fun x=>by kernel_rfl)
def Zc3 (F:Nat) (a0:Vh):Option (Bool):=
 (Y3 F a0.1 (0:Int) (65536:Int)).bind fun o306=>
 if o306=true then
  (Y3 F a0.2.2.1 (1:Int) (4096:Int)).bind fun o307=>
  if o307=true then
   (Y3 F a0.2.2.2.1 (0:Int) (16:Int)).bind fun o308=>
   if o308=true then
    (Y3 F a0.2.1 a0.1 (1125899906842624:Int)).bind fun o309=>
    if o309=true then
     (Y3 F a0.2.2.2.2.1 (1:Int) (1125899906842624:Int)).bind fun o310=>
     if o310=true then
      (Y3 F a0.2.2.2.2.2 (0:Int) (1125899906842624:Int)).bind fun o311=>
      some o311
     else
     some false
    else
    some false
   else
   some false
  else
  some false
 else
 some false
def ZrJ (F:Nat):Fs ya:=⟨126,[.v ZdW],[],[ZdW],[⟨.ret,[(0,.v .bool)],[],[.bool]⟩],fun x=>Zc3 F x⟩
def ZkT:Fs ya:=ZrJ fuel
theorem ZrK:ZkT.Ok:=Zh (fi:={ hi:={ still:=[2,7,12,18,25,27,33,39]},lp:=[]}) (specs:={ l:=[ZhJ]}) (okS ⟨ZnT,trivial⟩) trivial (by decide+kernel) (fun x=>by kernel_rfl)
def Zcg (F:Nat) (a0:UInt64):Option (Bool):=
 if (a0==1)=true then
  some true
 else
 (YZ F a0).bind fun o312=>
 some (!o312)
def ZmG (F:Nat):Fs ya:=⟨187,[.v .u64],[],[.u64],[⟨.ret,[(0,.v .bool)],[],[.bool]⟩],fun x=>Zcg F x⟩
def Zgs:Fs ya:=ZmG fuel
theorem ZmH:Zgs.Ok:=Zh (fi:={ hi:={ still:=[2,6]},lp:=[]}) (specs:={ l:=[Wo]}) (okS ⟨WA,trivial⟩) trivial (by decide+kernel) (fun x=>by kernel_rfl)
def Vm (F:Nat) (s:((List UInt64)×Int×Int)):Option (((List UInt64)×Int×Int)⊕(Int⊕Unit)):=
 if (decide (s.2.2 < s.2.1))=true then
  (idx s.1 s.2.2).bind fun e313=>
  (Zcg F e313).bind fun o314=>
  if o314=true then
   some (.inr (.inl s.2.2))
  else
  some (.inl (s.1,s.2.1,wi (s.2.2+1)))
 else
 some (.inr (.inr ()))
def Zgt:Lp:=⟨[(0,.v (.sl .u64)),(1,.fn 187 []),(7,.v (.int .i64)),(8,.v (.int .i64))],[],[(.sl .u64),(.int .i64),(.int .i64)],[⟨.ret,[(4,.v (.int .i64))],[],[(.int .i64)]⟩,⟨.exit 0,[],[],[]⟩],Zc (Vm fuel) fuel⟩
theorem Zkw:Zgt.Ok ya (Zo ya 189) (Zn ya 189 0):=Zl (fi:={ hi:={ still:=[4,15]},lp:=[]}) (specs:={ l:=[Zgs]}) (okS ⟨ZmH,trivial⟩) trivial (by kernel_rfl) (fun v=>by kernel_rfl)
def Zd9 (F:Nat) (a0:(List UInt64)):Option (Int):=
 (Zc (Vm F) F (a0,(a0.length:Int),(0:Int))).bind fun o315=>
 match o315 with
 |.inl o316=>
  some o316
 |.inr o317=>
  some (-1:Int)
def ZnU (F:Nat):Fs ya:=⟨189,[.v (.sl .u64),.fn 187 []],[],[(.sl .u64)],[⟨.ret,[(0,.v (.int .i64))],[],[(.int .i64)]⟩],fun x=>Zd9 F x⟩
def ZhK:Fs ya:=ZnU fuel
theorem ZnV:ZhK.Ok:=Zh (fi:={ hi:={ still:=[4,15]},lp:=[(0,Zgt)]}) (specs:={ l:=[]}) (okS trivial) ⟨Zkw,trivial⟩ (by decide+kernel) (fun x=>by kernel_rfl)
def ZlE (F:Nat) (a0:(List UInt64)):Option (Bool):=
 (Zd9 F a0).bind fun o318=>
 some (decide (o318 ≥ 0))
def Zv7 (F:Nat):Fs ya:=⟨132,[.v (.sl .u64),.fn 187 []],[],[(.sl .u64)],[⟨.ret,[(0,.v .bool)],[],[.bool]⟩],fun x=>ZlE F x⟩
def ZoS:Fs ya:=Zv7 fuel
theorem Zv8:ZoS.Ok:=Zh (fi:={ hi:={ still:=[4,5,6]},lp:=[]}) (specs:={ l:=[ZhK]}) (okS ⟨ZnV,trivial⟩) trivial (by decide+kernel) (fun x=>by kernel_rfl)
def Zbp (F:Nat) (a0:WS):Option (Bool):=
 (ZlE F ([a0.1,a0.2.1,a0.2.2.1,a0.2.2.2.1,a0.2.2.2.2]:List UInt64)).bind fun o319=>
 some (!o319)
def Zpk (F:Nat):Fs ya:=⟨127,[.v Q6],[],[Q6],[⟨.ret,[(0,.v .bool)],[],[.bool]⟩],fun x=>Zbp F x⟩
def Zjj:Fs ya:=Zpk fuel
theorem Zpl:Zjj.Ok:=Zh (fi:={ hi:={ still:=[2,14,15]},lp:=[]}) (specs:={ l:=[ZoS]}) (okS ⟨Zv8,trivial⟩) trivial (by decide+kernel) (fun x=>by kernel_rfl)
def Zbq (F:Nat) (s:((List Vh)×Int×ZO)):Option (((List Vh)×Int×ZO)⊕((Int×ZO)⊕ZO)):=
 if (decide (s.2.1 < 2))=true then
  (idx s.1 s.2.1).bind fun e320=>
  (Zc3 F e320).bind fun o321=>
  if (!o321)=true then
   some (.inr (.inl ((1:Int),s.2.2)))
  else
  if (inB s.2.1 2)=true then
   (s.2.2.2.2.1[s.2.1.toNat]?).bind fun e322=>
   (Zbp F e322).bind fun o323=>
   if (!o323)=true then
    some (.inr (.inl ((1:Int),s.2.2)))
   else
   some (.inl (s.1,wi (s.2.1+1),s.2.2))
  else
  none
 else
 some (.inr (.inr s.2.2))
def ZmI:Lp:=⟨[(1,.ref 0 []),(34,.v (.arr 2 ZdW)),(35,.v (.int .i64))],[.var (.v Zr) true],[(.arr 2 ZdW),(.int .i64),Zr],[⟨.ret,[(2,.v (.int .i64))],[.var (.v Zr) true],[(.int .i64),Zr]⟩,⟨.exit 0,[(1,.ref 0 [])],[.var (.v Zr) true],[Zr]⟩],Zc (Zbq fuel) fuel⟩
theorem Zpm:ZmI.Ok ya (Zo ya 66) (Zn ya 66 0):=Zl (fi:={ hi:={ still:=[2,39,46,55,59]},lp:=[]}) (specs:={ l:=[ZkT,Zjj]}) (okS ⟨ZrK,Zpl,trivial⟩) trivial (by kernel_rfl) (fun v=>by kernel_rfl)
def Zhl (F:Nat) (a0:ZO):Option (Int):=
 if (decide (a0.2.1 < 1))=true then
  some (1:Int)
 else
 if (decide (a0.2.1 > 1125899906842624))=true then
  some (1:Int)
 else
 if (decide (a0.1.2 < 0))=true then
  some (1:Int)
 else
 if (decide (a0.1.2 ≥ 64))=true then
  some (1:Int)
 else
 if ((bits .andNot .i64 a0.2.2.2.2 1)!=0)=true then
  some (1:Int)
 else
 (Zc (Zbq F) F (a0.2.2.2.1,(0:Int),a0)).bind fun o324=>
 match o324 with
 |.inl o325=>
  some o325.1
 |.inr o326=>
  (o326.2.2.2.1[0]?).bind fun e327=>
  (o326.2.2.2.1[1]?).bind fun e328=>
  (Zgr F e327.2.1 e328.2.1).bind fun o329=>
  if (!o329.2)=true then
   some (10:Int)
  else
  if (decide (o329.1 > o326.2.1))=true then
   some (10:Int)
  else
  some (0:Int)
def Zv9 (F:Nat):Fs ya:=⟨66,[.v Zr],[],[Zr],[⟨.ret,[(0,.v (.int .i64))],[],[(.int .i64)]⟩],fun x=>Zhl F x⟩
def ZoT:Fs ya:=Zv9 fuel
theorem Zwa:ZoT.Ok:=Zh (fi:={ hi:={ still:=[2,39,46,55,59]},lp:=[(0,ZmI)]}) (specs:={ l:=[ZnR]}) (okS ⟨ZrI,trivial⟩) ⟨Zpm,trivial⟩ (by decide+kernel) (fun x=>by kernel_rfl)
def Zch (F:Nat) (a0:Int) (s0:Int) (s1:Int):Option ((Bool×Int×Int)):=
 if (decide (a0 < s0))=true then
  some (true,s0,s1)
 else
 some (decide (a0 > s1),s0,s1)
def ZmJ (F:Nat):Fs ya:=⟨129,[.v (.int .i64),.ref 0 [],.ref 1 []],[.var (.v (.int .i64)) true,.var (.v (.int .i64)) true],[(.int .i64),(.int .i64),(.int .i64)],[⟨.ret,[(0,.v .bool)],[.var (.v (.int .i64)) true,.var (.v (.int .i64)) true],[.bool,(.int .i64),(.int .i64)]⟩],fun x=>Zch F x.1 x.2.1 x.2.2⟩
def Zgu:Fs ya:=ZmJ fuel
theorem ZmK:Zgu.Ok:=Zh (fi:={ hi:={ still:=[4]},lp:=[]}) (specs:={ l:=[]}) (okS trivial) trivial (by decide+kernel) (fun x=>by kernel_rfl)
def Yz (F:Nat) (s:((List Int)×Int×Int×Int×Int)):Option (((List Int)×Int×Int×Int×Int)⊕((Int×Int×Int)⊕(Int×Int))):=
 if (decide (s.2.2.1 < s.2.1))=true then
  (idx s.1 s.2.2.1).bind fun e330=>
  (Zch F e330 s.2.2.2.1 s.2.2.2.2).bind fun o331=>
  if o331.1=true then
   some (.inr (.inl (s.2.2.1,o331.2.1,o331.2.2)))
  else
  some (.inl (s.1,s.2.1,wi (s.2.2.1+1),o331.2.1,o331.2.2))
 else
 some (.inr (.inr (s.2.2.2.1,s.2.2.2.2)))
def Vn:Lp:=⟨[(0,.v (.sl (.int .i64))),(1,.fn 129 [.ref 0 [],.ref 1 []]),(7,.v (.int .i64)),(8,.v (.int .i64))],[.var (.v (.int .i64)) true,.var (.v (.int .i64)) true],[(.sl (.int .i64)),(.int .i64),(.int .i64),(.int .i64),(.int .i64)],[⟨.ret,[(4,.v (.int .i64))],[.var (.v (.int .i64)) true,.var (.v (.int .i64)) true],[(.int .i64),(.int .i64),(.int .i64)]⟩,⟨.exit 0,[],[.var (.v (.int .i64)) true,.var (.v (.int .i64)) true],[(.int .i64),(.int .i64)]⟩],Zc (Yz fuel) fuel⟩
theorem ZaY:Vn.Ok ya (Zo ya 188) (Zn ya 188 0):=Zl (fi:={ hi:={ still:=[4,15]},lp:=[]}) (specs:={ l:=[Zgu]}) (okS ⟨ZmK,trivial⟩) trivial (by kernel_rfl) (fun v=>by kernel_rfl)
def XX (F:Nat) (a0:(List Int)) (s0:Int) (s1:Int):Option ((Int×Int×Int)):=
 (Zc (Yz F) F (a0,(a0.length:Int),(0:Int),s0,s1)).bind fun o332=>
 match o332 with
 |.inl o333=>
  some (o333.1,o333.2.1,o333.2.2)
 |.inr o334=>
  some ((-1:Int),o334.1,o334.2)
def Zc4 (F:Nat):Fs ya:=⟨188,[.v (.sl (.int .i64)),.fn 129 [.ref 0 [],.ref 1 []]],[.var (.v (.int .i64)) true,.var (.v (.int .i64)) true],[(.sl (.int .i64)),(.int .i64),(.int .i64)],[⟨.ret,[(0,.v (.int .i64))],[.var (.v (.int .i64)) true,.var (.v (.int .i64)) true],[(.int .i64),(.int .i64),(.int .i64)]⟩],fun x=>XX F x.1 x.2.1 x.2.2⟩
def VI:Fs ya:=Zc4 fuel
theorem Zc5:VI.Ok:=Zh (fi:={ hi:={ still:=[4,15]},lp:=[(0,Vn)]}) (specs:={ l:=[]}) (okS trivial) ⟨ZaY,trivial⟩ (by decide+kernel) (fun x=>by kernel_rfl)
def Xx (F:Nat) (a0:(List Int)) (s0:Int) (s1:Int):Option ((Bool×Int×Int)):=
 (XX F a0 s0 s1).bind fun o335=>
 some (decide (o335.1 ≥ 0),o335.2.1,o335.2.2)
def ZaZ (F:Nat):Fs ya:=⟨128,[.v (.sl (.int .i64)),.fn 129 [.ref 0 [],.ref 1 []]],[.var (.v (.int .i64)) true,.var (.v (.int .i64)) true],[(.sl (.int .i64)),(.int .i64),(.int .i64)],[⟨.ret,[(0,.v .bool)],[.var (.v (.int .i64)) true,.var (.v (.int .i64)) true],[.bool,(.int .i64),(.int .i64)]⟩],fun x=>Xx F x.1 x.2.1 x.2.2⟩
def WG:Fs ya:=ZaZ fuel
theorem Za0:WG.Ok:=Zh (fi:={ hi:={ still:=[4,5,6]},lp:=[]}) (specs:={ l:=[VI]}) (okS ⟨Zc5,trivial⟩) trivial (by decide+kernel) (fun x=>by kernel_rfl)
def Yt (F:Nat) (a0:Int) (a1:Int) (a2:(List Int)):Option (Bool):=
 (Xx F a2 a0 a1).bind fun o336=>
 some (!o336.1)
def Zpn (F:Nat):Fs ya:=⟨67,[.v (.int .i64),.v (.int .i64),.v (.sl (.int .i64))],[],[(.int .i64),(.int .i64),(.sl (.int .i64))],[⟨.ret,[(0,.v .bool)],[],[.bool]⟩],fun x=>Yt F x.1 x.2.1 x.2.2⟩
def Zea:Fs ya:=Zpn fuel
theorem ZhL:Zea.Ok:=Zh (fi:={ hi:={ still:=[6,7,8]},lp:=[]}) (specs:={ l:=[WG]}) (okS ⟨Za0,trivial⟩) trivial (by decide+kernel) (fun x=>by kernel_rfl)
def Zfc (F:Nat) (a0:ZB):Option (Bool):=
 (Yt F (0:Int) (1:Int) ([a0.1]:List Int)).bind fun o337=>
 if o337=true then
  (Yt F (1:Int) (1048576:Int) ([a0.2.1]:List Int)).bind fun o338=>
  if o338=true then
   (Yt F (1:Int) (1125899906842624:Int) ([a0.2.2.1]:List Int)).bind fun o339=>
   if o339=true then
    (Yt F (1:Int) (1048576:Int) ([a0.2.2.2.2]:List Int)).bind fun o340=>
    if o340=true then
     (YZ F a0.2.2.2.1).bind fun o341=>
     if o341=true then
      some (a0.2.2.2.1 !=1)
     else
     some false
    else
    some false
   else
   some false
  else
  some false
 else
 some false
def Zte (F:Nat):Fs ya:=⟨68,[.v Z7],[],[Z7],[⟨.ret,[(0,.v .bool)],[],[.bool]⟩],fun x=>Zfc F x⟩
def ZmL:Fs ya:=Zte fuel
theorem Ztf:ZmL.Ok:=Zh (fi:={ hi:={ still:=[2,5,10,16,22,27]},lp:=[]}) (specs:={ l:=[Zea,Wo]}) (okS ⟨ZhL,WA,trivial⟩) trivial (by decide+kernel) (fun x=>by kernel_rfl)
def WB (F:Nat) (s:(Int×(List Int)×Int×Int)):Option ((Int×(List Int)×Int×Int)⊕(Int⊕Int)):=
 if (decide (s.2.2.2 < s.2.2.1))=true then
  (idx s.2.1 s.2.2.2).bind fun e342=>
  if (e342 !=s.1)=true then
   some (.inr (.inl e342))
  else
  some (.inl (s.1,s.2.1,s.2.2.1,wi (s.2.2.2+1)))
 else
 some (.inr (.inr s.1))
def ZkU:Lp:=⟨[(3,.v (.int .i64)),(6,.v (.sl (.int .i64))),(7,.v (.int .i64)),(8,.v (.int .i64))],[],[(.int .i64),(.sl (.int .i64)),(.int .i64),(.int .i64)],[⟨.ret,[(2,.v (.int .i64))],[],[(.int .i64)]⟩,⟨.exit 0,[(3,.v (.int .i64))],[],[(.int .i64)]⟩],Zc (WB fuel) fuel⟩
theorem ZnW:ZkU.Ok ya (Zo ya 62) (Zn ya 62 0):=Zl (fi:={ hi:={ still:=[2]},lp:=[]}) (specs:={ l:=[]}) (okS trivial) trivial (by kernel_rfl) (fun v=>by kernel_rfl)
def Zb2 (F:Nat) (a0:(List Int)):Option (Int):=
 (Zc (WB F) F ((0:Int),a0,(a0.length:Int),(0:Int))).bind fun o343=>
 match o343 with
 |.inl o344=>
  some o344
 |.inr o345=>
  some o345
def Ztg (F:Nat):Fs ya:=⟨62,[.v (.sl (.int .i64))],[],[(.sl (.int .i64))],[⟨.ret,[(0,.v (.int .i64))],[],[(.int .i64)]⟩],fun x=>Zb2 F x⟩
def Zhm:Fs ya:=Ztg fuel
theorem ZkV:Zhm.Ok:=Zh (fi:={ hi:={ still:=[2]},lp:=[(0,ZkU)]}) (specs:={ l:=[]}) (okS trivial) ⟨ZnW,trivial⟩ (by decide+kernel) (fun x=>by kernel_rfl)
def Q9 (F:Nat) (a0:Int):Option (Bool):=
 some (a0 !=a0)
def ZnX (F:Nat):Fs ya:=⟨123,[.v (.int .i64)],[],[(.int .i64)],[⟨.ret,[(0,.v .bool)],[],[.bool]⟩],fun x=>Q9 F x⟩
def ZhM:Fs ya:=ZnX fuel
theorem ZnY:ZhM.Ok:=Zh (fi:={ hi:={ still:=[2]},lp:=[]}) (specs:={ l:=[]}) (okS trivial) trivial (by decide+kernel) (fun x=>by kernel_rfl)
def Yh (F:Nat) (a0:Int) (a1:Int):Option (Int):=
 (Q9 F a0).bind fun o346=>
 (Q9 F a1).bind fun o347=>
 if o346=true then
  if o347=true then
   some (0:Int)
  else
  some (-1:Int)
 else
 if o347=true then
  some (1:Int)
 else
 if (decide (a0 < a1))=true then
  some (-1:Int)
 else
 if (decide (a0 > a1))=true then
  some (1:Int)
 else
 some (0:Int)
def ZlF (F:Nat):Fs ya:=⟨63,[.v (.int .i64),.v (.int .i64)],[],[(.int .i64),(.int .i64)],[⟨.ret,[(0,.v (.int .i64))],[],[(.int .i64)]⟩],fun x=>Yh F x.1 x.2⟩
def Zaa:Fs ya:=ZlF fuel
theorem Zeb:Zaa.Ok:=Zh (fi:={ hi:={ still:=[4,7,9]},lp:=[]}) (specs:={ l:=[ZhM]}) (okS ⟨ZnY,trivial⟩) trivial (by decide+kernel) (fun x=>by kernel_rfl)
def Zc6 (F:Nat) (a0:ZB) (a1:ZB):Option (Int):=
 (Yh F a0.1 a1.1).bind fun o348=>
 (Yh F a0.2.1 a1.2.1).bind fun o349=>
 (Zb2 F ([o348,o349]:List Int)).bind fun o350=>
 some o350
def ZrL (F:Nat):Fs ya:=⟨69,[.v Z7,.v Z7],[],[Z7,Z7],[⟨.ret,[(0,.v (.int .i64))],[],[(.int .i64)]⟩],fun x=>Zc6 F x.1 x.2⟩
def ZkW:Fs ya:=ZrL fuel
theorem ZrM:ZkW.Ok:=Zh (fi:={ hi:={ still:=[4,6,8,11,13,15]},lp:=[]}) (specs:={ l:=[Zaa,Zhm]}) (okS ⟨Zeb,ZkV,trivial⟩) trivial (by decide+kernel) (fun x=>by kernel_rfl)
def Wg (F:Nat) (s:(Int×Int×Int×(List ZB)×Int×Int×State)):Option ((Int×Int×Int×(List ZB)×Int×Int×State)⊕(Int×Int×State)):=
 if (decide (s.2.2.2.2.2.1 < s.2.2.2.2.1))=true then
  (idx s.2.2.2.1 s.2.2.2.2.2.1).bind fun e351=>
  if (e351.1==(wi (1 - s.1)))=true then
   some (.inl (s.1,wi (s.2.1+1),wi (s.2.2.1+e351.2.2.1),s.2.2.2.1,s.2.2.2.2.1,wi (s.2.2.2.2.2.1+1),s.2.2.2.2.2.2))
  else
  some (.inl (s.1,s.2.1,s.2.2.1,s.2.2.2.1,s.2.2.2.2.1,wi (s.2.2.2.2.2.1+1),s.2.2.2.2.2.2))
 else
 some (.inr (s.2.1,s.2.2.1,s.2.2.2.2.2.2))
def Zgv:Lp:=⟨[(1,.v (.int .i64)),(6,.v (.int .i64)),(7,.v (.int .i64)),(11,.v (.sl Z7)),(12,.v (.int .i64)),(13,.v (.int .i64))],[.var (.v Ze) true],[(.int .i64),(.int .i64),(.int .i64),(.sl Z7),(.int .i64),(.int .i64),Ze],[⟨.exit 0,[(6,.v (.int .i64)),(7,.v (.int .i64))],[.var (.v Ze) true],[(.int .i64),(.int .i64),Ze]⟩],Zc (Wg fuel) fuel⟩
theorem Zkx:Zgv.Ok ya (Zo ya 70) (Zn ya 70 0):=Zl (fi:={ hi:={ still:=[4,5]},lp:=[]}) (specs:={ l:=[]}) (okS trivial) trivial (by kernel_rfl) (fun v=>by kernel_rfl)
def Zab (F:Nat) (a0:State) (a1:Int):Option ((Int×Int)):=
 (Zc (Wg F) F (a1,(0:Int),(0:Int),a0.2.2.1,(a0.2.2.1.length:Int),(0:Int),a0)).bind fun o352=>
 some (o352.1,o352.2.1)
def ZnZ (F:Nat):Fs ya:=⟨70,[.v Ze,.v (.int .i64)],[],[Ze,(.int .i64)],[⟨.ret,[(0,.tup [.v (.int .i64),.v (.int .i64)])],[],[(.int .i64),(.int .i64)]⟩],fun x=>Zab F x.1 x.2⟩
def ZhN:Fs ya:=ZnZ fuel
theorem Zn0:ZhN.Ok:=Zh (fi:={ hi:={ still:=[4,5]},lp:=[(0,Zgv)]}) (specs:={ l:=[]}) (okS trivial) ⟨Zkx,trivial⟩ (by decide+kernel) (fun x=>by kernel_rfl)
def Qg (F:Nat) (s:(Int×(List ZB)×Int×Int×State)):Option ((Int×(List ZB)×Int×Int×State)⊕(Int×State)):=
 if (decide (s.2.2.2.1 < s.2.2.1))=true then
  (idx s.2.1 s.2.2.2.1).bind fun e355=>
  some (.inl (wi (s.1+e355.2.2.1),s.2.1,s.2.2.1,wi (s.2.2.2.1+1),s.2.2.2.2))
 else
 some (.inr (s.1,s.2.2.2.2))
def Zjk:Lp:=⟨[(3,.v (.int .i64)),(14,.v (.sl Z7)),(15,.v (.int .i64)),(16,.v (.int .i64))],[.var (.v Ze) true],[(.int .i64),(.sl Z7),(.int .i64),(.int .i64),Ze],[⟨.exit 0,[(3,.v (.int .i64))],[.var (.v Ze) true],[(.int .i64),Ze]⟩],Zc (Qg fuel) fuel⟩
theorem ZmM:Zjk.Ok ya (Zo ya 71) (Zn ya 71 0):=Zl (fi:={ hi:={ still:=[2]},lp:=[]}) (specs:={ l:=[]}) (okS trivial) trivial (by kernel_rfl) (fun v=>by kernel_rfl)
def Zc7 (F:Nat) (a0:State):Option (Int):=
 (a0.2.1[0]?).bind fun e353=>
 (a0.2.1[1]?).bind fun e354=>
 (Zc (Qg F) F (wi (e353+e354),a0.2.2.1,(a0.2.2.1.length:Int),(0:Int),a0)).bind fun o356=>
 some o356.1
def ZrN (F:Nat):Fs ya:=⟨71,[.v Ze],[],[Ze],[⟨.ret,[(0,.v (.int .i64))],[],[(.int .i64)]⟩],fun x=>Zc7 F x⟩
def ZkX:Fs ya:=ZrN fuel
theorem ZrO:ZkX.Ok:=Zh (fi:={ hi:={ still:=[2]},lp:=[(0,Zjk)]}) (specs:={ l:=[]}) (okS trivial) ⟨ZmM,trivial⟩ (by decide+kernel) (fun x=>by kernel_rfl)
def ZfI (F:Nat) (a0:Int):Option (Int):=
 if (decide (a0 < 0))=true then
  some (0:Int)
 else
 if (decide (a0 > 16))=true then
  some (0:Int)
 else
 some (wi (68+(wi (8*a0))))
def Zpo (F:Nat):Fs ya:=⟨76,[.v (.int .i64)],[],[(.int .i64)],[⟨.ret,[(0,.v (.int .i64))],[],[(.int .i64)]⟩],fun x=>ZfI F x⟩
def Zjl:Fs ya:=Zpo fuel
theorem Zpp:Zjl.Ok:=Zh (fi:={ hi:={ still:=[2]},lp:=[]}) (specs:={ l:=[]}) (okS trivial) trivial (by decide+kernel) (fun x=>by kernel_rfl)
def Za1 (F:Nat) (a0:Int) (a1:Int):Option (Int):=
 if (decide (a0 < 0))=true then
  some (0:Int)
 else
 if (decide (a0 > 1000))=true then
  some (0:Int)
 else
 (ZfI F a1).bind fun o357=>
 some (wi (a0*o357))
def Zwb (F:Nat):Fs ya:=⟨18,[.v (.int .i64),.v (.int .i64)],[],[(.int .i64),(.int .i64)],[⟨.ret,[(0,.v (.int .i64))],[],[(.int .i64)]⟩],fun x=>Za1 F x.1 x.2⟩
def Zfd:Fs ya:=Zwb fuel
theorem Zhn:Zfd.Ok:=Zh (fi:={ hi:={ still:=[4,12]},lp:=[]}) (specs:={ l:=[Zjl]}) (okS ⟨Zpp,trivial⟩) trivial (by decide+kernel) (fun x=>by kernel_rfl)
def Zfe (F:Nat) (a0:ZO) (a1:State):Option (Int):=
 (Za1 F a1.2.2.2 (a1.2.2.1.length:Int)).bind fun o358=>
 some (wi (o358+660))
def Zth (F:Nat):Fs ya:=⟨72,[.v Zr,.v Ze],[],[Zr,Ze],[⟨.ret,[(0,.v (.int .i64))],[],[(.int .i64)]⟩],fun x=>Zfe F x.1 x.2⟩
def ZmN:Fs ya:=Zth fuel
theorem Zti:ZmN.Ok:=Zh (fi:={ hi:={ still:=[4,6,9]},lp:=[]}) (specs:={ l:=[Zfd]}) (okS ⟨Zhn,trivial⟩) trivial (by decide+kernel) (fun x=>by kernel_rfl)
def Qh (F:Nat) (s:((List ZB)×Int×Int×ZO×State)):Option (((List ZB)×Int×Int×ZO×State)⊕((Bool×ZO×State)⊕(ZO×State))):=
 if (decide (s.2.2.1 < s.2.1))=true then
  (idx s.1 s.2.2.1).bind fun e365=>
  (Zfc F e365).bind fun o366=>
  if (!o366)=true then
   some (.inr (.inl (false,s.2.2.2.1,s.2.2.2.2)))
  else
  if (inB (wi (1 - e365.1)) 2)=true then
   (s.2.2.2.1.2.2.2.1[(wi (1 - e365.1)).toNat]?).bind fun e367=>
   if (decide (e365.2.2.1 < e367.2.2.2.2.1))=true then
    some (.inr (.inl (false,s.2.2.2.1,s.2.2.2.2)))
   else
   if (decide (s.2.2.1 > 0))=true then
    (idx s.2.2.2.2.2.2.1 (wi (s.2.2.1 - 1))).bind fun e368=>
    (Zc6 F e368 e365).bind fun o369=>
    if (decide (o369 ≥ 0))=true then
     some (.inr (.inl (false,s.2.2.2.1,s.2.2.2.2)))
    else
    some (.inl (s.1,s.2.1,wi (s.2.2.1+1),s.2.2.2.1,s.2.2.2.2))
   else
   some (.inl (s.1,s.2.1,wi (s.2.2.1+1),s.2.2.2.1,s.2.2.2.2))
  else
  none
 else
 some (.inr (.inr (s.2.2.2.1,s.2.2.2.2)))
def Zjm:Lp:=⟨[(2,.ref 0 []),(3,.ref 1 []),(46,.v (.sl Z7)),(47,.v (.int .i64)),(48,.v (.int .i64))],[.var (.v Zr) true,.var (.v Ze) true],[(.sl Z7),(.int .i64),(.int .i64),Zr,Ze],[⟨.ret,[(4,.v .bool)],[.var (.v Zr) true,.var (.v Ze) true],[.bool,Zr,Ze]⟩,⟨.exit 0,[(2,.ref 0 []),(3,.ref 1 [])],[.var (.v Zr) true,.var (.v Ze) true],[Zr,Ze]⟩],Zc (Qh fuel) fuel⟩
theorem ZmO:Zjm.Ok ya (Zo ya 14) (Zn ya 14 0):=Zl (fi:={ hi:={ still:=[4,11,17,28,35,53,77,78,91,92,107,118,119]},lp:=[]}) (specs:={ l:=[ZmL,ZkW]}) (okS ⟨Ztf,ZrM,trivial⟩) trivial (by kernel_rfl) (fun v=>by kernel_rfl)
def Qi (F:Nat) (s:((List Vh)×Int×ZO×State)):Option (((List Vh)×Int×ZO×State)⊕((Bool×ZO×State)⊕(ZO×State))):=
 if (decide (s.2.1 < 2))=true then
  (idx s.1 s.2.1).bind fun e373=>
  (Zab F s.2.2.2 s.2.1).bind fun o374=>
  if (decide (o374.1 > e373.2.2.2.1))=true then
   some (.inr (.inl (false,s.2.2.1,s.2.2.2)))
  else
  if (decide (o374.2 > e373.2.2.2.2.2))=true then
   some (.inr (.inl (false,s.2.2.1,s.2.2.2)))
  else
  some (.inl (s.1,wi (s.2.1+1),s.2.2.1,s.2.2.2))
 else
 some (.inr (.inr (s.2.2.1,s.2.2.2)))
def Zjn:Lp:=⟨[(2,.ref 0 []),(3,.ref 1 []),(85,.v (.arr 2 ZdW)),(86,.v (.int .i64))],[.var (.v Zr) true,.var (.v Ze) true],[(.arr 2 ZdW),(.int .i64),Zr,Ze],[⟨.ret,[(4,.v .bool)],[.var (.v Zr) true,.var (.v Ze) true],[.bool,Zr,Ze]⟩,⟨.exit 2,[(2,.ref 0 []),(3,.ref 1 [])],[.var (.v Zr) true,.var (.v Ze) true],[Zr,Ze]⟩],Zc (Qi fuel) fuel⟩
theorem ZmP:Zjn.Ok ya (Zo ya 14) (Zn ya 14 1):=Zl (fi:={ hi:={ still:=[4,11,17,28,35,53,77,78,91,92,107,118,119]},lp:=[]}) (specs:={ l:=[ZhN]}) (okS ⟨Zn0,trivial⟩) trivial (by kernel_rfl) (fun v=>by kernel_rfl)
end
end Go.Proofs.YtjbbdlffilcaaaaGreat
end
section
set_option maxRecDepth 4000
namespace Go.Proofs.YtjbbdlffilcaaaaGreat
open Go Go.Ev
noncomputable section
def Wh (F:Nat) (a0:ZO) (a1:State):Option (Bool):=
 (Zhl F a0).bind fun o359=>
 if (o359 !=0)=true then
  some false
 else
 (Yt F (0:Int) (1048576:Int) ([a1.1]:List Int)).bind fun o360=>
 if (!o360)=true then
  some false
 else
 (a1.2.1[0]?).bind fun e361=>
 (a1.2.1[1]?).bind fun e362=>
 (Yt F (0:Int) (1125899906842624:Int) ([e361,e362]:List Int)).bind fun o363=>
 if (!o363)=true then
  some false
 else
 (Yt F (0:Int) (1000:Int) ([a1.2.2.2]:List Int)).bind fun o364=>
 if (!o364)=true then
  some false
 else
 if (decide ((a1.2.2.1.length:Int) > 16))=true then
  some false
 else
 (Zc (Qh F) F (a1.2.2.1,(a1.2.2.1.length:Int),(0:Int),a0,a1)).bind fun o370=>
 match o370 with
 |.inl o371=>
  some o371.1
 |.inr o372=>
  (Zc (Qi F) F (o372.1.2.2.2.1,(0:Int),o372.1,o372.2)).bind fun o375=>
  match o375 with
  |.inl o376=>
   some o376.1
  |.inr o377=>
   (Zc7 F o377.2).bind fun o378=>
   if (o378==o377.1.2.1)=true then
    if (inB o377.1.2.2.2.2 2)=true then
     (o377.2.2.1[o377.1.2.2.2.2.toNat]?).bind fun e379=>
     (Zfe F o377.1 o377.2).bind fun o380=>
     some (decide (e379 ≥ o380))
    else
    none
   else
   some false
def ZrP (F:Nat):Fs ya:=⟨14,[.v Zr,.v Ze],[],[Zr,Ze],[⟨.ret,[(0,.v .bool)],[],[.bool]⟩],fun x=>Wh F x.1 x.2⟩
def Zbr:Fs ya:=ZrP fuel
theorem Zec:Zbr.Ok:=Zh (fi:={ hi:={ still:=[4,11,17,28,35,53,77,78,91,92,107,118,119]},lp:=[(0,Zjm),(1,Zjn)]}) (specs:={ l:=[ZoT,Zea,ZkX,ZmN]}) (okS ⟨Zwa,ZhL,ZrO,Zti,trivial⟩) ⟨ZmO,ZmP,trivial⟩ (by decide+kernel) (fun x=>by kernel_rfl)
def Yi (F:Nat) (a0:Vh) (a1:Int):Option (Bool):=
 some (decide (a1 ≥ a0.1))
def ZrQ (F:Nat):Fs ya:=⟨16,[.v ZdW,.v (.int .i64)],[],[ZdW,(.int .i64)],[⟨.ret,[(0,.v .bool)],[],[.bool]⟩],fun x=>Yi F x.1 x.2⟩
def W9:Fs ya:=ZrQ fuel
theorem VJ:W9.Ok:=Zh (fi:={ hi:={ still:=[4]},lp:=[]}) (specs:={ l:=[]}) (okS trivial) trivial (by decide+kernel) (fun x=>by kernel_rfl)
def Wi (F:Nat) (a0:Int):Option (Bool):=
 if (a0==0)=true then
  some true
 else
 some (a0==1)
def ZrR (F:Nat):Fs ya:=⟨50,[.v (.int .i64)],[],[(.int .i64)],[⟨.ret,[(0,.v .bool)],[],[.bool]⟩],fun x=>Wi F x⟩
def ZfJ:Fs ya:=ZrR fuel
theorem Zjo:ZfJ.Ok:=Zh (fi:={ hi:={ still:=[2]},lp:=[]}) (specs:={ l:=[]}) (okS trivial) trivial (by decide+kernel) (fun x=>by kernel_rfl)
def VK (F:Nat) (s:(UInt64×(List UInt8)×Int×(List UInt8))):Option ((UInt64×(List UInt8)×Int×(List UInt8))⊕(UInt64×(List UInt8))):=
 if (decide (s.2.2.1 < 32))=true then
  (idx s.2.1 s.2.2.1).bind fun e381=>
  (WF F (Zw s.1 56) ((Qc s.1 8)|||(yag e381.toNat)) (2305843009213688668:UInt64)).bind fun o382=>
  some (.inl (o382,s.2.1,wi (s.2.2.1+1),s.2.2.2))
 else
 some (.inr (s.1,s.2.2.2))
def ZkY:Lp:=⟨[(3,.v .u64),(6,.v (.arr 32 .u8)),(7,.v (.int .i64))],[.var (.v (.arr 32 .u8)) true],[.u64,(.arr 32 .u8),(.int .i64),(.arr 32 .u8)],[⟨.exit 0,[(3,.v .u64)],[.var (.v (.arr 32 .u8)) true],[.u64,(.arr 32 .u8)]⟩],Zc (VK fuel) fuel⟩
theorem Zn1:ZkY.Ok ya (Zo ya 65) (Zn ya 65 0):=Zl (fi:={ hi:={ still:=[2,11,16]},lp:=[]}) (specs:={ l:=[Zc1]}) (okS ⟨ZfE,trivial⟩) trivial (by kernel_rfl) (fun v=>by kernel_rfl)
def WH (F:Nat) (a0:(List UInt8)):Option (UInt64):=
 (Zc (VK F) F ((0:UInt64),a0,(0:Int),a0)).bind fun o383=>
 some (o383.1+1)
def Ztj (F:Nat):Fs ya:=⟨65,[.v (.arr 32 .u8)],[],[(.arr 32 .u8)],[⟨.ret,[(0,.v .u64)],[],[.u64]⟩],fun x=>WH F x⟩
def Zac:Fs ya:=Ztj fuel
theorem Zbs:Zac.Ok:=Zh (fi:={ hi:={ still:=[2,11,16]},lp:=[(0,ZkY)]}) (specs:={ l:=[]}) (okS trivial) ⟨Zn1,trivial⟩ (by decide+kernel) (fun x=>by kernel_rfl)
def Zjp (F:Nat):Option ((List UInt32)):=
 some ([1779033703,3144134277,1013904242,2773480762,1359893119,2600822924,528734635,1541459225]:List UInt32)
def Ztk (F:Nat):Fs ya:=⟨191,[],[],[],[⟨.ret,[(0,.v (.arr 8 .u32))],[],[(.arr 8 .u32)]⟩],fun x=>Zjp F⟩
def ZmQ:Fs ya:=Ztk fuel
theorem Ztl:ZmQ.Ok:=Zh (fi:={ hi:={},lp:=[]}) (specs:={ l:=[]}) (okS trivial) trivial (by decide+kernel) (fun x=>by kernel_rfl)
def ZG (F:Nat) (a0:UInt32) (a1:Int):Option (UInt32):=
 let y385:UInt32:=Qy a0 (min (((w64 a1)&&&31).toNat:Int).toNat 32)
 let y386:UInt32:=Zcu a0 (min ((32 - ((w64 a1)&&&31)).toNat:Int).toNat 32)
 some (y385|||y386)
def Zjq (F:Nat):Fs ya:=⟨215,[.v .u32,.v (.int .i64)],[],[.u32,(.int .i64)],[⟨.ret,[(0,.v .u32)],[],[.u32]⟩],fun x=>ZG F x.1 x.2⟩
def V9:Fs ya:=Zjq fuel
theorem Zb3:V9.Ok:=Zh (fi:={ hi:={ still:=[4]},lp:=[]}) (specs:={ l:=[]}) (okS trivial) trivial (by decide+kernel) (fun x=>by kernel_rfl)
def Zc8 (F:Nat) (a0:(List UInt8)):Option (UInt32):=
 (idx a0 0).bind fun e387=>
 (idx a0 1).bind fun e388=>
 let y389:UInt32:=(Qy (ybe e387.toNat) 24)|||(Qy (ybe e388.toNat) 16)
 (idx a0 2).bind fun e390=>
 (idx a0 3).bind fun e391=>
 let y392:UInt32:=(y389|||(Qy (ybe e390.toNat) 8))|||(ybe e391.toNat)
 some y392
def ZrS (F:Nat):Fs ya:=⟨226,[.v (.sl .u8)],[],[(.sl .u8)],[⟨.ret,[(0,.v .u32)],[],[.u32]⟩],fun x=>Zc8 F x⟩
def ZkZ:Fs ya:=ZrS fuel
theorem ZrT:ZkZ.Ok:=Zh (fi:={ hi:={ still:=[2]},lp:=[]}) (specs:={ l:=[]}) (okS trivial) trivial (by decide+kernel) (fun x=>by kernel_rfl)
def Vo (F:Nat) (s:((List UInt8)×Int×(List UInt32))):Option (((List UInt8)×Int×(List UInt32))⊕(List UInt32)):=
 if (decide (s.2.1 < 64))=true then
  if (decide (s.2.1 < 16))=true then
   if (ZdI s.1.length (some (wi (4*s.2.1))) none)=true then
    (Zc8 F (s.1.drop ((wi (4*s.2.1)).toNat))).bind fun o393=>
    if (inB s.2.1 64)=true then
     (s.2.2[s.2.1.toNat]?).bind fun e394=>
     some (.inl (s.1,wi (s.2.1+1),s.2.2.set s.2.1.toNat o393))
    else
    none
   else
   none
  else
  if (inB (wi (s.2.1 - 15)) 64)=true then
   (s.2.2[(wi (s.2.1 - 15)).toNat]?).bind fun e395=>
   if (inB (wi (s.2.1 - 2)) 64)=true then
    (s.2.2[(wi (s.2.1 - 2)).toNat]?).bind fun e396=>
    (ZG F e395 (-7:Int)).bind fun o397=>
    (ZG F e395 (-18:Int)).bind fun o398=>
    (ZG F e396 (-17:Int)).bind fun o399=>
    (ZG F e396 (-19:Int)).bind fun o400=>
    if (inB (wi (s.2.1 - 16)) 64)=true then
     (s.2.2[(wi (s.2.1 - 16)).toNat]?).bind fun e401=>
     if (inB (wi (s.2.1 - 7)) 64)=true then
      (s.2.2[(wi (s.2.1 - 7)).toNat]?).bind fun e402=>
      let y403:UInt32:=(e401+((o397^^^o398)^^^(Zcu e395 3)))+e402
      if (inB s.2.1 64)=true then
       (s.2.2[s.2.1.toNat]?).bind fun e404=>
       let y405:(List UInt32):=s.2.2.set s.2.1.toNat (y403+((o399^^^o400)^^^(Zcu e396 10)))
       some (.inl (s.1,wi (s.2.1+1),y405))
      else
      none
     else
     none
    else
    none
   else
   none
  else
  none
 else
 some (.inr s.2.2)
def Zgw:Lp:=⟨[(0,.v (.sl .u8)),(2,.ref 0 []),(8,.v (.int .i64))],[.var (.v (.arr 64 .u32)) true],[(.sl .u8),(.int .i64),(.arr 64 .u32)],[⟨.exit 0,[(2,.ref 0 [])],[.var (.v (.arr 64 .u32)) true],[(.arr 64 .u32)]⟩],Zc (Vo fuel) fuel⟩
theorem Zky:Zgw.Ok ya (Zo ya 213) (Zn ya 213 0):=Zl (fi:={ hi:={ still:=[17,28,30,36,38]},lp:=[]}) (specs:={ l:=[ZkZ,V9]}) (okS ⟨ZrT,Zb3,trivial⟩) trivial (by kernel_rfl) (fun v=>by kernel_rfl)
def Zad (F:Nat) (a0:(List UInt8)):Option ((List UInt32)):=
 (Zc (Vo F) F (a0,(0:Int),([0,0,0,0,0,0,0,0,0,0,0,0,0,0,0,0,0,0,0,0,0,0,0,0,0,0,0,0,0,0,0,0,0,0,0,0,0,0,0,0,0,0,0,0,0,0,0,0,0,0,0,0,0,0,0,0,0,0,0,0,0,0,0,0]:List UInt32))).bind fun o406=>
 some o406
def Zn2 (F:Nat):Fs ya:=⟨213,[.v (.sl .u8)],[],[(.sl .u8)],[⟨.ret,[(0,.v (.arr 64 .u32))],[],[(.arr 64 .u32)]⟩],fun x=>Zad F x⟩
def ZhO:Fs ya:=Zn2 fuel
theorem Zn3:ZhO.Ok:=Zh (fi:={ hi:={ still:=[17,28,30,36,38]},lp:=[(0,Zgw)]}) (specs:={ l:=[]}) (okS trivial) ⟨Zky,trivial⟩ (by decide+kernel) (fun x=>by kernel_rfl)
def Zjr (F:Nat):Option ((List UInt32)):=
 some ([1116352408,1899447441,3049323471,3921009573,961987163,1508970993,2453635748,2870763221,3624381080,310598401,607225278,1426881987,1925078388,2162078206,2614888103,3248222580,3835390401,4022224774,264347078,604807628,770255983,1249150122,1555081692,1996064986,2554220882,2821834349,2952996808,3210313671,3336571891,3584528711,113926993,338241895,666307205,773529912,1294757372,1396182291,1695183700,1986661051,2177026350,2456956037,2730485921,2820302411,3259730800,3345764771,3516065817,3600352804,4094571909,275423344,430227734,506948616,659060556,883997877,958139571,1322822218,1537002063,1747873779,1955562222,2024104815,2227730452,2361852424,2428436474,2756734187,3204031479,3329325298]:List UInt32)
def Ztm (F:Nat):Fs ya:=⟨214,[],[],[],[⟨.ret,[(0,.v (.arr 64 .u32))],[],[(.arr 64 .u32)]⟩],fun x=>Zjr F⟩
def ZmR:Fs ya:=Ztm fuel
theorem Ztn:ZmR.Ok:=Zh (fi:={ hi:={},lp:=[]}) (specs:={ l:=[]}) (okS trivial) trivial (by decide+kernel) (fun x=>by kernel_rfl)
def WY (F:Nat) (s:(Int×(List UInt32)×(List UInt32)×(List UInt32)×(List UInt32)×(List UInt32))):Option ((Int×(List UInt32)×(List UInt32)×(List UInt32)×(List UInt32)×(List UInt32))⊕((List UInt32)×(List UInt32)×(List UInt32)×(List UInt32)×(List UInt32))):=
 if (decide (s.1 < 64))=true then
  (s.2.2.2.2.2[4]?).bind fun e409=>
  (ZG F e409 (-6:Int)).bind fun o410=>
  (s.2.2.2.2.2[4]?).bind fun e411=>
  (ZG F e411 (-11:Int)).bind fun o412=>
  (s.2.2.2.2.2[4]?).bind fun e413=>
  (ZG F e413 (-25:Int)).bind fun o414=>
  (s.2.2.2.2.2[7]?).bind fun e415=>
  (s.2.2.2.2.2[6]?).bind fun e416=>
  (s.2.2.2.2.2[4]?).bind fun e417=>
  (s.2.2.2.2.2[5]?).bind fun e418=>
  (s.2.2.2.2.2[6]?).bind fun e419=>
  let y420:UInt32:=(e415+((o410^^^o412)^^^o414))+(e416^^^(e417&&&(e418^^^e419)))
  if (inB s.1 64)=true then
   (s.2.2.2.2.1[s.1.toNat]?).bind fun e421=>
   if (inB s.1 64)=true then
    (s.2.2.2.1[s.1.toNat]?).bind fun e422=>
    (s.2.2.2.2.2[0]?).bind fun e423=>
    (ZG F e423 (-2:Int)).bind fun o424=>
    (s.2.2.2.2.2[0]?).bind fun e425=>
    (ZG F e425 (-13:Int)).bind fun o426=>
    (s.2.2.2.2.2[0]?).bind fun e427=>
    (ZG F e427 (-22:Int)).bind fun o428=>
    (s.2.2.2.2.2[0]?).bind fun e429=>
    (s.2.2.2.2.2[1]?).bind fun e430=>
    (s.2.2.2.2.2[2]?).bind fun e431=>
    (s.2.2.2.2.2[0]?).bind fun e432=>
    (s.2.2.2.2.2[1]?).bind fun e433=>
    let y434:UInt32:=((y420+e421)+e422)+((o424^^^o426)^^^o428)
    let y435:UInt32:=y434+((e429&&&e430)|||(e431&&&(e432|||e433)))
    (s.2.2.2.2.2[0]?).bind fun e436=>
    (s.2.2.2.2.2[1]?).bind fun e437=>
    (s.2.2.2.2.2[2]?).bind fun e438=>
    (s.2.2.2.2.2[3]?).bind fun e439=>
    (s.2.2.2.2.2[4]?).bind fun e440=>
    (s.2.2.2.2.2[5]?).bind fun e441=>
    (s.2.2.2.2.2[6]?).bind fun e442=>
    some (.inl (wi (s.1+1),s.2.1,s.2.2.1,s.2.2.2.1,s.2.2.2.2.1,([y435,e436,e437,e438,e439+((y420+e421)+e422),e440,e441,e442]:List UInt32)))
   else
   none
  else
  none
 else
 some (.inr (s.2.1,s.2.2.1,s.2.2.2.1,s.2.2.2.2.1,s.2.2.2.2.2))
def Zff:Lp:=⟨[(2,.ref 0 []),(4,.ref 1 []),(5,.ref 2 []),(6,.ref 3 []),(7,.ref 4 []),(18,.v (.int .i64))],[.var (.v (.arr 8 .u32)) true,.var (.v (.arr 8 .u32)) true,.var (.v (.arr 64 .u32)) true,.var (.v (.arr 64 .u32)) true,.var (.v (.arr 8 .u32)) true],[(.int .i64),(.arr 8 .u32),(.arr 8 .u32),(.arr 64 .u32),(.arr 64 .u32),(.arr 8 .u32)],[⟨.exit 0,[(2,.ref 0 []),(4,.ref 1 []),(7,.ref 4 [])],[.var (.v (.arr 8 .u32)) true,.var (.v (.arr 8 .u32)) true,.var (.v (.arr 64 .u32)) true,.var (.v (.arr 64 .u32)) true,.var (.v (.arr 8 .u32)) true],[(.arr 8 .u32),(.arr 8 .u32),(.arr 64 .u32),(.arr 64 .u32),(.arr 8 .u32)]⟩],Zc (WY fuel) fuel⟩
theorem Zjs:Zff.Ok ya (Zo ya 192) (Zn ya 192 0):=Zl (fi:={ hi:={ still:=[14,22,25,29,57,60,64]},lp:=[]}) (specs:={ l:=[V9]}) (okS ⟨Zb3,trivial⟩) trivial (by kernel_rfl) (fun v=>by kernel_rfl)
def WZ (F:Nat) (s:(Int×(List UInt32)×(List UInt32)×(List UInt32)×(List UInt32)×(List UInt32))):Option ((Int×(List UInt32)×(List UInt32)×(List UInt32)×(List UInt32)×(List UInt32))⊕((List UInt32)×(List UInt32)×(List UInt32)×(List UInt32)×(List UInt32))):=
 if (decide (s.1 < 8))=true then
  if (inB s.1 8)=true then
   (s.2.2.2.2.2[s.1.toNat]?).bind fun e444=>
   if (inB s.1 8)=true then
    (s.2.1[s.1.toNat]?).bind fun e445=>
    if (inB s.1 8)=true then
     (s.2.2.2.2.2[s.1.toNat]?).bind fun e446=>
     some (.inl (wi (s.1+1),s.2.1,s.2.2.1,s.2.2.2.1,s.2.2.2.2.1,s.2.2.2.2.2.set s.1.toNat (e444+e445)))
    else
    none
   else
   none
  else
  none
 else
 some (.inr (s.2.1,s.2.2.1,s.2.2.2.1,s.2.2.2.2.1,s.2.2.2.2.2))
def Zfg:Lp:=⟨[(2,.ref 0 []),(4,.ref 1 []),(7,.ref 4 []),(104,.v (.int .i64))],[.var (.v (.arr 8 .u32)) true,.var (.v (.arr 8 .u32)) true,.var (.v (.arr 64 .u32)) true,.var (.v (.arr 64 .u32)) true,.var (.v (.arr 8 .u32)) true],[(.int .i64),(.arr 8 .u32),(.arr 8 .u32),(.arr 64 .u32),(.arr 64 .u32),(.arr 8 .u32)],[⟨.exit 2,[(4,.ref 1 []),(7,.ref 4 [])],[.var (.v (.arr 8 .u32)) true,.var (.v (.arr 8 .u32)) true,.var (.v (.arr 64 .u32)) true,.var (.v (.arr 64 .u32)) true,.var (.v (.arr 8 .u32)) true],[(.arr 8 .u32),(.arr 8 .u32),(.arr 64 .u32),(.arr 64 .u32),(.arr 8 .u32)]⟩],Zc (WZ fuel) fuel⟩
theorem Zjt:Zfg.Ok ya (Zo ya 192) (Zn ya 192 1):=Zl (fi:={ hi:={ still:=[14,22,25,29,57,60,64]},lp:=[]}) (specs:={ l:=[]}) (okS trivial) trivial (by kernel_rfl) (fun v=>by kernel_rfl)
def W4 (F:Nat) (a0:(List UInt32)) (a1:(List UInt8)):Option ((List UInt32)):=
 (Zad F a1).bind fun o407=>
 (Zjr F).bind fun o408=>
 (Zc (WY F) F ((0:Int),a0,([0,0,0,0,0,0,0,0]:List UInt32),o407,o408,a0)).bind fun o443=>
 (Zc (WZ F) F ((0:Int),o443.1,o443.2.1,o443.2.2.1,o443.2.2.2.1,o443.2.2.2.2)).bind fun o447=>
 some o447.2.2.2.2
def ZmS (F:Nat):Fs ya:=⟨192,[.v (.arr 8 .u32),.v (.sl .u8)],[],[(.arr 8 .u32),(.sl .u8)],[⟨.ret,[(0,.v (.arr 8 .u32))],[],[(.arr 8 .u32)]⟩],fun x=>W4 F x.1 x.2⟩
def Za2:Fs ya:=ZmS fuel
theorem Zfh:Za2.Ok:=Zh (fi:={ hi:={ still:=[14,22,25,29,57,60,64]},lp:=[(0,Zff),(1,Zfg)]}) (specs:={ l:=[ZhO,ZmR]}) (okS ⟨Zn3,Ztn,trivial⟩) ⟨Zjs,Zjt,trivial⟩ (by decide+kernel) (fun x=>by kernel_rfl)
def ZW (F:Nat) (a0:(List UInt8)):Option ((List UInt8)):=
 if (apB 0 a0.length 1)=true then
  some a0
 else
 none
def Zci (F:Nat):Fs ya:=⟨190,[.sl true .u8],[],[(.sl .u8)],[⟨.ret,[(0,.own 0 .u8)],[.log .u8 5],[(.sl .u8)]⟩],fun x=>ZW F x⟩
def Zc9:Fs ya:=Zci fuel
theorem Zcj:Zc9.Ok:=Zh (fi:={ hi:={ own:=[2,5,7]},lp:=[]}) (specs:={ l:=[]}) (okS trivial) trivial (by decide+kernel) (fun x=>by kernel_rfl)
def VL (F:Nat):Option ((List UInt8)):=
 some ([]:List UInt8)
def Zck (F:Nat):Fs ya:=⟨190,[.nil .u8],[],[],[⟨.ret,[(0,.own 0 .u8)],[.log .u8 5],[(.sl .u8)]⟩],fun x=>VL F⟩
def Zda:Fs ya:=Zck fuel
theorem Zcl:Zda.Ok:=Zh (fi:={ hi:={ own:=[2,5,7]},lp:=[]}) (specs:={ l:=[]}) (okS trivial) trivial (by decide+kernel) (fun x=>by kernel_rfl)
def Za3 (F:Nat):Fs ya:=⟨190,[.v (.sl .u8)],[],[(.sl .u8)],[⟨.ret,[(0,.own 0 .u8)],[.log .u8 5],[(.sl .u8)]⟩],fun x=>ZW F x⟩
def WI:Fs ya:=Za3 fuel
theorem Za4:WI.Ok:=ZzW (t:=.u8) (xs:=[⟨.ret,[(0,.own 0 .u8)],[.log .u8 5],[(.sl .u8)]⟩]) (MA:=fun (x:(List UInt8))=>ZW fuel x) (MB:=fun _=>VL fuel) Zcj Zcl rfl
def Zbt (F:Nat) (s:((List UInt8)×(List UInt8)×(List UInt8))):Option (((List UInt8)×(List UInt8)×(List UInt8))⊕((List UInt8)×(List UInt8)×(List UInt8))):=
 if ((Int.tmod (s.2.2.length:Int) 64)!=56)=true then
  if (apB s.2.2.length 1 1)=true then
   some (.inl (s.1,s.2.1,s.2.2++([0]:List UInt8)))
  else
  none
 else
 some (.inr (s.1,s.2.1,s.2.2))
def ZmT:Lp:=⟨[(0,.v (.sl .u8)),(2,.ref 0 []),(3,.own 1 .u8)],[.var (.v (.arr 32 .u8)) true,.log .u8 5],[(.sl .u8),(.arr 32 .u8),(.sl .u8)],[⟨.exit 0,[(0,.v (.sl .u8)),(2,.ref 0 []),(3,.own 1 .u8)],[.var (.v (.arr 32 .u8)) true,.log .u8 5],[(.sl .u8),(.arr 32 .u8),(.sl .u8)]⟩],Zc (Zbt fuel) fuel⟩
theorem Zpq:ZmT.Ok ya (Zo ya 143) (Zn ya 143 0):=Zl (fi:={ hi:={ own:=[3,14,16,21,23,24,28,43],still:=[13,24,27,35,37,44,46]},lp:=[]}) (specs:={ l:=[]}) (okS trivial) trivial (by kernel_rfl) (fun v=>by kernel_rfl)
def V0 (F:Nat) (s:(Int×Int×(List UInt8)×(List UInt8))):Option ((Int×Int×(List UInt8)×(List UInt8))⊕((List UInt8)×(List UInt8))):=
 if (decide (s.2.1 ≥ 0))=true then
  if (decide (0≤s.2.1))=true then
   if (apB s.2.2.1.length 1 1)=true then
    let y451:(List UInt8):=s.2.2.1++([w8 (Int.fdiv s.1 (2 ^ (min s.2.1.toNat 64)))]:List UInt8)
    some (.inl (s.1,wi (s.2.1 - 8),y451,s.2.2.2))
   else
   none
  else
  none
 else
 some (.inr (s.2.2.1,s.2.2.2))
def ZhP:Lp:=⟨[(0,.own 0 .u8),(1,.v (.int .i64)),(5,.v (.int .i64))],[.log .u8 5,.log .u8 5],[(.int .i64),(.int .i64),(.sl .u8),(.sl .u8)],[⟨.exit 0,[(0,.own 0 .u8)],[.log .u8 5,.log .u8 5],[(.sl .u8),(.sl .u8)]⟩],Zc (V0 fuel) fuel⟩
theorem ZlG:ZhP.Ok ya (Zo ya 142) (Zn ya 142 0):=Zl (fi:={ hi:={ own:=[0,4,10,16,17]},lp:=[]}) (specs:={ l:=[]}) (okS trivial) trivial (by kernel_rfl) (fun v=>by kernel_rfl)
def Wp (F:Nat) (a1:Int) (s0:(List UInt8)):Option ((List UInt8)):=
 (Zc (V0 F) F (a1,(56:Int),s0,([]:List UInt8))).bind fun o452=>
 some o452.1
def Zcm (F:Nat):Fs ya:=⟨142,[.own 0 .u8,.v (.int .i64)],[.log .u8 5],[(.int .i64),(.sl .u8)],[⟨.ret,[(0,.own 0 .u8)],[.log .u8 5],[(.sl .u8)]⟩],fun x=>Wp F x.1 x.2⟩
def Zed:Fs ya:=Zcm fuel
theorem Zcn:Zed.Ok:=Zh (fi:={ hi:={ own:=[0,4,10,16,17]},lp:=[(0,ZhP)]}) (specs:={ l:=[]}) (okS trivial) ⟨ZlG,trivial⟩ (by decide+kernel) (fun x=>by kernel_rfl)
def Zbu (F:Nat) (s:((List UInt8)×(List UInt8)×(List UInt8)×(List UInt32))):Option (((List UInt8)×(List UInt8)×(List UInt8)×(List UInt32))⊕((List UInt8)×(List UInt8)×(List UInt32))):=
 if (decide ((s.1.length:Int) ≥ 64))=true then
  if (ZdI s.1.length none (some 64))=true then
   (W4 F s.2.2.2 (s.1.take 64)).bind fun o455=>
   if (ZdI s.1.length (some 64) none)=true then
    some (.inl (s.1.drop 64,s.2.1,s.2.2.1,o455))
   else
   none
  else
  none
 else
 some (.inr (s.2.1,s.2.2.1,s.2.2.2))
def ZmU:Lp:=⟨[(0,.v (.sl .u8)),(2,.ref 0 []),(3,.own 1 .u8),(4,.ref 2 [])],[.var (.v (.arr 32 .u8)) true,.log .u8 5,.var (.v (.arr 8 .u32)) true],[(.sl .u8),(.arr 32 .u8),(.sl .u8),(.arr 8 .u32)],[⟨.exit 2,[(2,.ref 0 []),(3,.own 1 .u8),(4,.ref 2 [])],[.var (.v (.arr 32 .u8)) true,.log .u8 5,.var (.v (.arr 8 .u32)) true],[(.arr 32 .u8),(.sl .u8),(.arr 8 .u32)]⟩],Zc (Zbu fuel) fuel⟩
theorem Zpr:ZmU.Ok ya (Zo ya 143) (Zn ya 143 1):=Zl (fi:={ hi:={ own:=[3,14,16,21,23,24,28,43],still:=[13,24,27,35,37,44,46]},lp:=[]}) (specs:={ l:=[Za2]}) (okS ⟨Zfh,trivial⟩) trivial (by kernel_rfl) (fun v=>by kernel_rfl)
def Zbv (F:Nat) (s:((List UInt8)×(List UInt8)×(List UInt8)×(List UInt32))):Option (((List UInt8)×(List UInt8)×(List UInt8)×(List UInt32))⊕((List UInt8)×(List UInt8)×(List UInt32))):=
 if (decide ((s.1.length:Int) > 0))=true then
  if (ZdI s.1.length none (some 64))=true then
   (W4 F s.2.2.2 (s.1.take 64)).bind fun o458=>
   if (ZdI s.1.length (some 64) none)=true then
    some (.inl (s.1.drop 64,s.2.1,s.2.2.1,o458))
   else
   none
  else
  none
 else
 some (.inr (s.2.1,s.2.2.1,s.2.2.2))
def ZmV:Lp:=⟨[(2,.ref 0 []),(3,.v (.sl .u8)),(4,.ref 2 [])],[.var (.v (.arr 32 .u8)) true,.log .u8 5,.var (.v (.arr 8 .u32)) true],[(.sl .u8),(.arr 32 .u8),(.sl .u8),(.arr 8 .u32)],[⟨.exit 4,[(2,.ref 0 []),(4,.ref 2 [])],[.var (.v (.arr 32 .u8)) true,.log .u8 5,.var (.v (.arr 8 .u32)) true],[(.arr 32 .u8),(.sl .u8),(.arr 8 .u32)]⟩],Zc (Zbv fuel) fuel⟩
theorem Zps:ZmV.Ok ya (Zo ya 143) (Zn ya 143 2):=Zl (fi:={ hi:={ own:=[3,14,16,21,23,24,28,43],still:=[13,24,27,35,37,44,46]},lp:=[]}) (specs:={ l:=[Za2]}) (okS ⟨Zfh,trivial⟩) trivial (by kernel_rfl) (fun v=>by kernel_rfl)
def Zbw (F:Nat) (s:(Int×(List UInt8)×(List UInt8)×(List UInt32))):Option ((Int×(List UInt8)×(List UInt8)×(List UInt32))⊕((List UInt8)×(List UInt8)×(List UInt32))):=
 if (decide (s.1 < 32))=true then
  if (inB (wi (Int.tdiv s.1 4)) 8)=true then
   (s.2.2.2[(wi (Int.tdiv s.1 4)).toNat]?).bind fun e460=>
   if (decide (0≤wi (24 - (wi (8*(Int.tmod s.1 4))))))=true then
    let y461:UInt32:=Zcu e460 (min (wi (24 - (wi (8*(Int.tmod s.1 4))))).toNat 32)
    if (inB s.1 32)=true then
     (s.2.1[s.1.toNat]?).bind fun e462=>
     some (.inl (wi (s.1+1),s.2.1.set s.1.toNat (w8 (y461.toNat:Int)),s.2.2.1,s.2.2.2))
    else
    none
   else
   none
  else
  none
 else
 some (.inr (s.2.1,s.2.2.1,s.2.2.2))
def ZmW:Lp:=⟨[(2,.ref 0 []),(4,.ref 2 []),(48,.v (.int .i64))],[.var (.v (.arr 32 .u8)) true,.log .u8 5,.var (.v (.arr 8 .u32)) true],[(.int .i64),(.arr 32 .u8),(.sl .u8),(.arr 8 .u32)],[⟨.exit 6,[(2,.ref 0 [])],[.var (.v (.arr 32 .u8)) true,.log .u8 5,.var (.v (.arr 8 .u32)) true],[(.arr 32 .u8),(.sl .u8),(.arr 8 .u32)]⟩],Zc (Zbw fuel) fuel⟩
theorem Zpt:ZmW.Ok ya (Zo ya 143) (Zn ya 143 3):=Zl (fi:={ hi:={ own:=[3,14,16,21,23,24,28,43],still:=[13,24,27,35,37,44,46]},lp:=[]}) (specs:={ l:=[]}) (okS trivial) trivial (by kernel_rfl) (fun v=>by kernel_rfl)
def Zee (F:Nat) (a0:(List UInt8)):Option ((List UInt8)):=
 let y448:Int:=wi ((a0.length:Int) - (Int.tmod (a0.length:Int) 64))
 if (ZdI a0.length (some y448) none)=true then
  (ZW F (a0.drop y448.toNat)).bind fun o449=>
  if (apB o449.length 1 1)=true then
   (Zc (Zbt F) F (a0,([0,0,0,0,0,0,0,0,0,0,0,0,0,0,0,0,0,0,0,0,0,0,0,0,0,0,0,0,0,0,0,0]:List UInt8),o449++([128]:List UInt8))).bind fun o450=>
   (Wp F (wi (8*(o450.1.length:Int))) o450.2.2).bind fun o453=>
   (Zjp F).bind fun o454=>
   (Zc (Zbu F) F (o450.1,o450.2.1,o453,o454)).bind fun o456=>
   (Zc (Zbv F) F (o456.2.1,o456.1,o456.2.1,o456.2.2)).bind fun o459=>
   (Zc (Zbw F) F ((0:Int),o459.1,o459.2.1,o459.2.2)).bind fun o463=>
   some o463.1
  else
  none
 else
 none
def Zho (F:Nat):Fs ya:=⟨143,[.v (.sl .u8)],[],[(.sl .u8)],[⟨.ret,[(0,.v (.arr 32 .u8))],[],[(.arr 32 .u8)]⟩],fun x=>Zee F x⟩
def Zyh:Fs ya:=Zho fuel
theorem Zwc:Zyh.Ok:=Zh (fi:={ hi:={ own:=[3,14,16,21,23,24,28,43],still:=[13,24,27,35,37,44,46]},lp:=[(0,ZmT),(1,ZmU),(2,ZmV),(3,ZmW)]}) (specs:={ l:=[Zed,WI,ZmQ]}) (okS ⟨Zcn,Za4,Ztl,trivial⟩) ⟨Zpq,Zpr,Zps,Zpt,trivial⟩ (by decide+kernel) (fun x=>by kernel_rfl)
end
end Go.Proofs.YtjbbdlffilcaaaaGreat
end
section
set_option maxRecDepth 4000
namespace Go.Proofs.YtjbbdlffilcaaaaGreat
open Go Go.Ev Go.Sha
theorem ZfK (x:UInt32) (n k:Nat) (h:n+k=32) (hn:0 < n) {z:Int} (hz:((w64 z)&&&31).toNat=k):∃o,ZG fuel x z=some o∧o.toNat=lo (Nat.shiftRight (dbl x.toNat) n):=by
 refine ⟨_,rfl, ?_⟩
 have e1:((((w64 z)&&&31).toNat:Int)).toNat=k:=by rw [hz];rfl
 have e2:(32 - ((w64 z)&&&31)).toNat=n:=by
  have h1:((w64 z)&&&31)=yag k:=UInt64.toNat_inj.1 (by rw [hz,ybd];omega)
  rw [h1,UInt64.toNat_sub,ybd]
  show (2 ^ 64 - k % 2 ^ 64+32) % 2 ^ 64=n
  omega
 rw [e1,show ((((32 - ((w64 z)&&&31)).toNat:Nat):Int)).toNat=n by rw [e2];rfl,Nat.min_eq_left (by omega),Nat.min_eq_left (by omega)]
 exact ZG1 x h hn
theorem ZIr {l:List UInt8} {a b c d:UInt8} (ha:l[0]? =some a) (hb:l[1]? =some b) (hc:l[2]? =some c) (hd:l[3]? =some d):∃o,Zc8 fuel l=some o∧o.toNat=((a.toNat*256+b.toNat)*256+c.toNat)*256+d.toNat:=by
 unfold Zc8
 rw [Ze8 (i:=0) (by omega) ha,Ze8 (i:=1) (by omega) hb,Ze8 (i:=2) (by omega) hc,Ze8 (i:=3) (by omega) hd]
 refine ⟨_,rfl, ?_⟩
 have h1:=a.toNat_lt
 have h2:=b.toNat_lt
 have h3:=c.toNat_lt
 have h4:=d.toNat_lt
 have hs:∀(x:UInt8) (n:Nat),n≤24→(Qy (ybe x.toNat) n).toNat=x.toNat*2 ^ n:=by
  intro x n hn
  have hx:=x.toNat_lt
  unfold Qy
  rw [ycf,ycf,yah (a:=x.toNat) (by omega)]
  refine yah ?_
  calc x.toNat*2 ^ n < 2 ^ 8*2 ^ n:=Nat.mul_lt_mul_of_pos_right hx (Nat.two_pow_pos n)
   _=2 ^ (8+n):=(Nat.pow_add ..).symm
   _≤2 ^ 32:=Nat.pow_le_pow_right (by omega) (by omega)
 rw [Zv0,Zv0,Zv0,hs _ _ (by omega),hs _ _ (by omega),hs _ _ (by omega),ycf,yah (a:=d.toNat) (by omega)]
 have k1:Nat.lor (a.toNat*2 ^ 24) (b.toNat*2 ^ 16)=2 ^ 16*(a.toNat*256+b.toNat):=by
  rw [ybm a.toNat,show Nat.lor (2 ^ 24*a.toNat) (b.toNat*2 ^ 16)=2 ^ 24*a.toNat|||b.toNat*2 ^ 16 from rfl, ←yct (by omega)]
  omega
 have k2:Nat.lor (2 ^ 16*(a.toNat*256+b.toNat)) (c.toNat*2 ^ 8)=2 ^ 8*((a.toNat*256+b.toNat)*256+c.toNat):=by
  rw [show Nat.lor (2 ^ 16*(a.toNat*256+b.toNat)) (c.toNat*2 ^ 8)=2 ^ 16*(a.toNat*256+b.toNat)|||c.toNat*2 ^ 8 from rfl, ←yct (by omega)]
  omega
 rw [k1,k2,show Nat.lor (2 ^ 8*((a.toNat*256+b.toNat)*256+c.toNat)) d.toNat=2 ^ 8*((a.toNat*256+b.toNat)*256+c.toNat)|||d.toNat from rfl, ←yct (by omega)]
 omega
theorem ZE4 {l:List UInt8} (h:l.length=64):∃o,Zad fuel l=some o∧o.length=64∧∀(i:Nat) x,i < 64→o[i]? =some x→x.toNat=wd (ZX (l.map yac)) i:=by
 unfold Zad
 generalize hz:([0,0,0,0,0,0,0,0,0,0,0,0,0,0,0,0,0,0,0,0,0,0,0,0,0,0,0,0,0,0,0,0,0,0,0,0,0,0,0,0,0,0,0,0,0,0,0,0,0,0,0,0,0,0,0,0,0,0,0,0,0,0,0,0]:List UInt32)=z
 have hzl:z.length=64:=by rw [←hz];rfl
 refine Exists.elim (XZ (step:=Vo fuel) (fun s=>s.1=l∧0≤s.2.1∧s.2.1≤64∧s.2.2.length=64∧∀(j:Nat) x,(j:Int) < s.2.1→s.2.2[j]? =some x→x.toNat=wd (ZX (l.map yac)) j) (fun s=>(64 - s.2.1).toNat)
  (fun o=>o.length=64∧∀(j:Nat) x,j < 64→o[j]? =some x→x.toNat=wd (ZX (l.map yac)) j) ?_ (l,(0:Int),z) ⟨rfl,Int.le_refl _,by dsimp only;omega,hzl,fun j x hj=>by dsimp only at hj;omega⟩ (by dsimp only;omega)) ?_
 rotate_left
 ·rintro o ⟨h1,h2⟩
  exact ⟨o,by rw [h1];rfl,h2⟩
 ·rintro ⟨b,i,w⟩ ⟨hb,h0,h64,hw,hv⟩
  dsimp only at hb h0 h64 hw hv
  subst hb
  unfold Vo
  dsimp only
  have hset:∀(y:UInt32),y.toNat=wd (ZX (b.map yac)) i.toNat→i < 64→∀(j:Nat) x,(j:Int) < i+1→(w.set i.toNat y)[j]? =some x→x.toNat=wd (ZX (b.map yac)) j:=by
   intro y hy hi j x hj hx
   by_cases hji:j=i.toNat
   ·subst hji
    rw [ycb (by omega)] at hx
    cases hx
    exact hy
   ·rw [ycr (Ne.symm hji)] at hx
    exact hv j x (by omega) hx
  by_cases hi:i < 64
  ·left
   rw [if_pos (decide_eq_true hi)]
   obtain ⟨e,he⟩:=QZ (l:=w) (i:=i.toNat) (by omega)
   by_cases h16:i < 16
   ·rw [if_pos (decide_eq_true h16),Zx (z:=4*i) (by omega) (by omega),if_pos (by simp only [ZdI,yg,decide_eq_true_eq];omega)]
    have g:∀k:Nat,k < 4→∃x,b[4*i.toNat+k]? =some x:=fun k hk=>QZ (by omega)
    obtain ⟨x0,g0⟩:=g 0 (by omega)
    obtain ⟨x1,g1⟩:=g 1 (by omega)
    obtain ⟨x2,g2⟩:=g 2 (by omega)
    obtain ⟨x3,g3⟩:=g 3 (by omega)
    have e4:(4*i).toNat=4*i.toNat:=by omega
    obtain ⟨o,ho,hoe⟩:=ZIr (l:=b.drop (4*i).toNat) (by rw [List.getElem?_drop,e4];exact g0) (by rw [List.getElem?_drop,e4];exact g1) (by rw [List.getElem?_drop,e4];exact g2) (by rw [List.getElem?_drop,e4];exact g3)
    rw [ho,yb,if_pos (YF h0 (by omega)),he,yb,Zx (z:=i+1) (by omega) (by omega)]
    refine ⟨_,rfl,⟨rfl,by dsimp only;omega,by dsimp only;omega,by dsimp only;rw [yar];exact hw,hset o ?_ hi⟩,by dsimp only;omega⟩
    have mg:∀(k:Nat) (x:UInt8),b[k]? =some x→(b.map yac)[k]? =some x.toNat:=fun k x hx=>by rw [yaa,hx];rfl
    have hwg:=Zi5 i.toNat (b.map yac) _ _ _ _ (mg _ _ g0) (mg _ _ g1) (mg _ _ g2) (mg _ _ g3)
    rw [hoe]
    have b0:=x0.toNat_lt
    have b1:=x1.toNat_lt
    have b2:=x2.toNat_lt
    have b3:=x3.toNat_lt
    exact (Zyc _ (by omega) hwg (by omega)).symm
   ·rw [if_neg (by simpa using h16)]
    rw [Zx (z:=i - 15) (by omega) (by omega),Zx (z:=i - 2) (by omega) (by omega),Zx (z:=i - 16) (by omega) (by omega),Zx (z:=i - 7) (by omega) (by omega),Zx (z:=i+1) (by omega) (by omega)]
    obtain ⟨e1,he1⟩:=QZ (l:=w) (i:=(i - 15).toNat) (by omega)
    obtain ⟨e2,he2⟩:=QZ (l:=w) (i:=(i - 2).toNat) (by omega)
    obtain ⟨e3,he3⟩:=QZ (l:=w) (i:=(i - 16).toNat) (by omega)
    obtain ⟨e4,he4⟩:=QZ (l:=w) (i:=(i - 7).toNat) (by omega)
    have v1:=hv _ _ (by omega) he1
    have v2:=hv _ _ (by omega) he2
    have v3:=hv _ _ (by omega) he3
    have v4:=hv _ _ (by omega) he4
    rw [if_pos (YF (by omega) (by omega)),he1,yb,if_pos (YF (by omega) (by omega)),he2,yb]
    obtain ⟨o1,ho1,p1⟩:=ZfK e1 7 25 rfl (by omega) (z:= -7) rfl
    obtain ⟨o2,ho2,p2⟩:=ZfK e1 18 14 rfl (by omega) (z:= -18) rfl
    obtain ⟨o3,ho3,p3⟩:=ZfK e2 17 15 rfl (by omega) (z:= -17) rfl
    obtain ⟨o4,ho4,p4⟩:=ZfK e2 19 13 rfl (by omega) (z:= -19) rfl
    rw [ho1,yb,ho2,yb,ho3,yb,ho4,yb]
    rw [if_pos (YF (by omega) (by omega)),he3,yb,if_pos (YF (by omega) (by omega)),he4,yb]
    try dsimp only
    rw [if_pos (YF h0 (by omega)),he,yb]
    refine ⟨_,rfl,⟨rfl,by dsimp only;omega,by dsimp only;omega,by dsimp only;rw [yar];exact hw,hset _ ?_ hi⟩,by dsimp only;omega⟩
    have hn:=Zv1 (ZX (b.map yac)) (i - 16).toNat
    rw [show (i - 16).toNat+16=i.toNat by omega,show (i - 16).toNat+1=(i - 15).toNat by omega,show (i - 16).toNat+9=(i - 7).toNat by omega,show (i - 16).toNat+14=(i - 2).toNat by omega, ←v1, ←v2, ←v3, ←v4] at hn
    rw [hn]
    rw [V4,V4,V4,ZI4 e1 p1 p2,ZI5 e2 p3 p4]
    exact ZJa ..
  ·right
   rw [if_neg (by simpa using hi)]
   exact ⟨_,rfl,hw,fun j x hj hx=>hv j x (by omega) hx⟩
theorem ZE5 {st:List UInt32} {l:List UInt8} (hs:st.length=8) (h:l.length=64):∃o,W4 fuel st l=some o∧o.map yad=Zg8 (st.map yad) (ZX (l.map yac)):=by
 unfold W4
 obtain ⟨w,hw,hwl,hwv⟩:=ZE4 h
 obtain ⟨k,hk,hkv⟩:∃k,Zjr fuel=some k∧k.map yad=ks:=⟨_,rfl,rfl⟩
 have hkl:k.length=64:=by rw [←yr (f:=yad),hkv];rfl
 generalize hws:ZX (l.map yac)=ws at hwv
 rw [hw,yb,hk,yb]
 refine Exists.elim (XZ (step:=WY fuel) (fun s=>0≤s.1∧s.1≤64∧s.2.1=st∧s.2.2.2.1=w∧s.2.2.2.2.1=k∧s.2.2.2.2.2.length=8∧s.2.2.2.2.2.map yad=rs ws (st.map yad) s.1.toNat) (fun s=>(64 - s.1).toNat)
  (fun o=>o.1=st∧o.2.2.2.2.length=8∧o.2.2.2.2.map yad=rs ws (st.map yad) 64) ?_ ((0:Int),st,([0,0,0,0,0,0,0,0]:List UInt32),w,k,st) ⟨Int.le_refl _,by dsimp only;omega,rfl,rfl,rfl,hs,rfl⟩ (by dsimp only;omega)) ?_
 rotate_left
 ·rintro o ⟨h1,p0,p1,p2⟩
  rw [h1,yb]
  have hml:(Zg8 (st.map yad) ws).length=8:=ZdO (by rw [yr];exact hs)
  refine Exists.elim (XZ (step:=WZ fuel) (fun s=>0≤s.1∧s.1≤8∧s.2.1=st∧s.2.2.2.2.2.length=8∧(∀(j:Nat) x,s.2.2.2.2.2[j]? =some x→if (j:Int) < s.1 then (Zg8 (st.map yad) ws)[j]? =some x.toNat else (rs ws (st.map yad) 64)[j]? =some x.toNat)) (fun s=>(8 - s.1).toNat)
   (fun o=>o.2.2.2.2.map yad=Zg8 (st.map yad) ws) ?_ ((0:Int),o.1,o.2.1,o.2.2.1,o.2.2.2.1,o.2.2.2.2) ⟨Int.le_refl _,by dsimp only;omega,p0,p1,fun j x hx=>by
     dsimp only at hx ⊢
     rw [if_neg (by omega), ←p2,yaa,hx]
     rfl⟩ (by dsimp only;omega)) ?_
  rotate_left
  ·rintro q ⟨h2,q2⟩
   rw [h2,yb]
   exact ⟨_,rfl,q2⟩
  ·rintro ⟨i,a,b,c,d,e⟩ ⟨h0,h8,ha,he,hv⟩
   dsimp only at h0 h8 ha he hv
   subst ha
   unfold WZ
   dsimp only
   by_cases hi:i < 8
   ·left
    obtain ⟨e1,he1⟩:=QZ (l:=e) (i:=i.toNat) (by omega)
    obtain ⟨e2,he2⟩:=QZ (l:=a) (i:=i.toNat) (by omega)
    simp only [decide_eq_true hi,if_true,YF h0 (show i < ((8:Nat):Int) by omega),he1,he2,yb]
    rw [Zx (z:=i+1) (by omega) (by omega)]
    refine ⟨_,rfl,⟨by dsimp only;omega,by dsimp only;omega,rfl,by dsimp only;rw [yar];exact he, ?_⟩,by dsimp only;omega⟩
    intro j x hx
    dsimp only at hx ⊢
    by_cases hji:j=i.toNat
    ·subst hji
     rw [ycb (by omega)] at hx
     cases hx
     rw [if_pos (by omega),V4]
     have k1:=hv _ _ he1
     rw [if_neg (by omega)] at k1
     unfold Zg8
     rw [List.getElem?_zipWith,k1,yaa,he2]
     rfl
    ·rw [ycr (Ne.symm hji)] at hx
     have k1:=hv j x hx
     by_cases hj:(j:Int) < i
     ·rw [if_pos hj] at k1
      rw [if_pos (by omega)]
      exact k1
     ·rw [if_neg hj] at k1
      rw [if_neg (by omega)]
      exact k1
   ·right
    rw [if_neg (by simpa using hi)]
    refine ⟨_,rfl, ?_⟩
    dsimp only
    apply List.ext_getElem?
    intro j
    rw [yaa]
    by_cases hj:j < 8
    ·obtain ⟨x,hx⟩:=QZ (l:=e) (i:=j) (by omega)
     have:=hv j x hx
     rw [if_pos (by omega)] at this
     rw [hx,this]
     rfl
    ·rw [yak (by omega),yak (by omega)]
     rfl
 ·rintro ⟨i,a,b,c,d,e⟩ ⟨h0,h64,ha,hc,hd,he,hv⟩
  dsimp only at h0 h64 ha hc hd he hv
  subst ha hc hd
  unfold WY
  dsimp only
  by_cases hi:i < 64
  ·left
   match e,he,hv with
   |[x0,x1,x2,x3,x4,x5,x6,x7],_,hv=>
    obtain ⟨e1,he1⟩:=QZ (l:=d) (i:=i.toNat) (by omega)
    obtain ⟨e2,he2⟩:=QZ (l:=c) (i:=i.toNat) (by omega)
    obtain ⟨o1,ho1,p1⟩:=ZfK x4 6 26 rfl (by omega) (z:= -6) rfl
    obtain ⟨o2,ho2,p2⟩:=ZfK x4 11 21 rfl (by omega) (z:= -11) rfl
    obtain ⟨o3,ho3,p3⟩:=ZfK x4 25 7 rfl (by omega) (z:= -25) rfl
    obtain ⟨o4,ho4,p4⟩:=ZfK x0 2 30 rfl (by omega) (z:= -2) rfl
    obtain ⟨o5,ho5,p5⟩:=ZfK x0 13 19 rfl (by omega) (z:= -13) rfl
    obtain ⟨o6,ho6,p6⟩:=ZfK x0 22 10 rfl (by omega) (z:= -22) rfl
    generalize ZG fuel=R at ho1 ho2 ho3 ho4 ho5 ho6 ⊢
    rw [if_pos (decide_eq_true hi)]
    simp only [List.getElem?_cons_zero,List.getElem?_cons_succ]
    rw [yb,ho1,yb,yb,ho2,yb,yb,ho3,yb,yb,yb,yb,yb,yb]
    rw [if_pos (YF h0 (show i < ((64:Nat):Int) by omega)),he1,yb,if_pos (YF h0 (show i < ((64:Nat):Int) by omega)),he2,yb,yb,ho4,yb,yb,ho5,yb,yb,ho6]
    rw [yb,yb,yb,yb,yb,yb]
    rw [yb,yb,yb,yb,yb,yb,yb]
    rw [Zx (z:=i+1) (by omega) (by omega)]
    refine ⟨_,rfl,⟨by dsimp only;omega,by dsimp only;omega,rfl,rfl,rfl,rfl, ?_⟩,by dsimp only;omega⟩
    dsimp only
    rw [show (i+1).toNat=i.toNat+1 by omega,show rs ws (a.map yad) (i.toNat+1)=rnd (rs ws (a.map yad) i.toNat) (ks.getD i.toNat 0) (wd ws i.toNat) from rfl, ←hv]
    have hk1:ks.getD i.toNat 0=e1.toNat:=by
     rw [←hkv,ycp,yaa,he1]
     rfl
    rw [hk1, ←hwv i.toNat e2 (by omega) he2]
    simp only [List.map_cons,List.map_nil]
    rw [Zrt]
    have kt:((x7+((o1^^^o2)^^^o3))+(x6^^^(x4&&&(x5^^^x6)))+e1+e2).toNat=lo (ym (ym (ym (ym x7.toNat (S1 x4.toNat)) (ch x4.toNat x5.toNat x6.toNat)) e1.toNat) e2.toNat):=by
     rw [V4,V4,V4,V4,ZI7 x4 p1 p2 p3,ZI8]
     exact ZJb ..
    have ka:((x7+((o1^^^o2)^^^o3))+(x6^^^(x4&&&(x5^^^x6)))+e1+e2+((o4^^^o5)^^^o6)+((x0&&&x1)|||(x2&&&(x0|||x1)))).toNat=lo (ym (ym (ym (ym (ym (ym x7.toNat (S1 x4.toNat)) (ch x4.toNat x5.toNat x6.toNat)) e1.toNat) e2.toNat) (S0 x0.toNat)) (mj x0.toNat x1.toNat x2.toNat)):=by
     rw [V4,V4,kt,ZI6 x0 p4 p5 p6,ZI9]
     exact ZJc ..
    have ke:(x3+(((x7+((o1^^^o2)^^^o3))+(x6^^^(x4&&&(x5^^^x6))))+e1+e2)).toNat=lo (ym x3.toNat (ym (ym (ym (ym x7.toNat (S1 x4.toNat)) (ch x4.toNat x5.toNat x6.toNat)) e1.toNat) e2.toNat)):=by
     rw [V4,kt]
     exact ZJd ..
    rw [ka,ke]
  ·right
   rw [if_neg (by simpa using hi)]
   have e64:i=64:=by omega
   subst e64
   exact ⟨_,rfl,rfl,he,hv⟩
def ZCK (n:Nat):List UInt8:=(be8 n).map yas
theorem ZBr {n:Nat} {b:List UInt8} (h:b.length≤1000000000000):Wp fuel (n:Int) b=some (b++ZCK n):=by
 unfold Wp
 obtain ⟨o,h1,h2⟩:=XZ (step:=V0 fuel) (fun s=>∃k:Nat,k≤8∧s.1=(n:Int)∧s.2.1=56 - 8*(k:Int)∧s.2.2.1=b++(ZCK n).take k) (fun s=>(s.2.1+8).toNat) (fun o=>o.1=b++ZCK n) (by
  rintro ⟨a,i,c,d⟩ ⟨k,hk,ha,hi,hc⟩
  dsimp only at ha hi hc
  subst ha
  unfold V0
  dsimp only
  have hcl:c.length≤b.length+8:=by rw [hc,yl,yab];omega
  by_cases h0:i ≥ 0
  ·left
   rw [if_pos (decide_eq_true h0),if_pos (decide_eq_true h0),if_pos (Yg (by omega) (by omega)),Zx (z:=i - 8) (by omega) (by omega)]
   refine ⟨_,rfl,⟨k+1,by omega,rfl,by dsimp only;omega, ?_⟩,by dsimp only;omega⟩
   dsimp only
   have hw:∀m:Nat,w8 (Int.fdiv (n:Int) (2 ^ m))=yas (n / 2 ^ m % 256):=by
    intro m
    unfold w8
    rw [Int.fdiv_eq_ediv_of_nonneg _ (by exact Int.le_of_lt (Int.pow_pos (by omega)))]
    congr 1
   have hmin:min i.toNat 64=56 - 8*k:=by omega
   rw [hmin,hw,hc,yaf]
   congr 1
   have hk8:k < 8:=by omega
   match k,hk8 with
   |0,_=>rfl
   |1,_=>rfl
   |2,_=>rfl
   |3,_=>rfl
   |4,_=>rfl
   |5,_=>rfl
   |6,_=>rfl
   |7,_=>
    show _++[yas (n / 2 ^ 0 % 256)]=_
    rw [Nat.pow_zero,Nat.div_one]
    rfl
  ·right
   rw [if_neg (by simpa using h0)]
   have hk8:k=8:=by omega
   subst hk8
   exact ⟨_,rfl,hc⟩) (((n:Int),(56:Int),b,([]:List UInt8))) ⟨0,by omega,rfl,by simp,by simp⟩ (by dsimp only;omega)
 rw [h1,yb,h2]
theorem ZIs {l:List UInt8} (h:l.length≤4294967296):Zee fuel l=some (sha l):=by
 unfold Zee
 have hm:Int.tmod (l.length:Int) 64=((l.length % 64:Nat):Int):=by
  rw [Int.tmod_eq_emod_of_nonneg (by omega)]
  omega
 have hlt:l.length % 64 < 64:=yav _ (by omega)
 have hle:l.length % 64≤l.length:=Nat.mod_le _ _
 rw [hm,Zx (z:=(l.length:Int) - ((l.length % 64:Nat):Int)) (by omega) (by omega)]
 dsimp only
 rw [if_pos (by simp only [ZdI,yg,decide_eq_true_eq];omega)]
 have hq:((l.length:Int) - ((l.length % 64:Nat):Int)).toNat=64*(l.length / 64):=by omega
 rw [hq]
 have hdl:(l.drop (64*(l.length / 64))).length=l.length % 64:=by
  rw [ybn]
  omega
 generalize ht:l.drop (64*(l.length / 64))=t at hdl
 have hcl:ZW fuel t=some t:=by
  unfold ZW
  rw [if_pos (Yg (by omega) (by omega))]
 rw [hcl,yb,if_pos (Yg (by omega) (by omega))]
 generalize hz:([0,0,0,0,0,0,0,0,0,0,0,0,0,0,0,0,0,0,0,0,0,0,0,0,0,0,0,0,0,0,0,0]:List UInt8)=z
 have hzl:z.length=32:=by rw [←hz];rfl
 have hzs:zs l.length=(119 - t.length) % 64:=by unfold zs;rw [hdl]
 obtain ⟨o,h1,p1,p2,p3⟩:=XZ (step:=Zbt fuel) (fun s=>s.1=l∧s.2.1=z∧∃j,j≤zs l.length∧s.2.2=t++([128]:List UInt8)++yp j 0) (fun s=>184 - s.2.2.length)
  (fun o=>o.1=l∧o.2.1=z∧o.2.2=t++([128]:List UInt8)++yp (zs l.length) 0) (by
  rintro ⟨a,b,c⟩ ⟨k1,k2,j,k3,k4⟩
  dsimp only at k1 k2 k3 k4
  have hcl:c.length=t.length+1+j:=by rw [k4,yl,yl,yci];rfl
  unfold Zbt
  dsimp only
  have hm:Int.tmod (c.length:Int) 64=((c.length % 64:Nat):Int):=by
   rw [Int.tmod_eq_emod_of_nonneg (by omega)]
   omega
  rw [hm]
  by_cases hi:c.length % 64=56
  ·right
   rw [if_neg (by simp;omega)]
   have:j=zs l.length:=by omega
   subst this
   exact ⟨_,rfl,k1,k2,k4⟩
  ·left
   rw [if_pos (by simp;omega),if_pos (Yg (by omega) (by omega))]
   have hj:j≠zs l.length:=fun e=>hi (by omega)
   refine ⟨_,rfl,⟨k1,k2,j+1,by omega, ?_⟩, ?_⟩
   ·dsimp only
    rw [k4,yaf,List.replicate_succ',yaf]
   ·dsimp only
    rw [yl,List.length_singleton]
    omega) (l,z,t++([128]:List UInt8)) ⟨rfl,rfl,0,Nat.zero_le _,by simp⟩ (by dsimp only;omega)
 rw [h1,yb,p1,p2,p3,Zx (z:=8*(l.length:Int)) (by omega) (by omega),show 8*(l.length:Int)=((8*l.length:Nat):Int) by omega,ZBr (by
  rw [yl,yl,yci]
  simp
  omega),yb]
 obtain ⟨f,hf,hfl⟩:∃f,Zjp fuel=some f∧f.map yad=ZaX:=⟨_,rfl,rfl⟩
 have hf8:f.length=8:=by rw [←yr (f:=yad),hfl];rfl
 rw [hf,yb]
 generalize hE:t++([128]:List UInt8)++yp (zs l.length) 0++ZCK (8*l.length)=E
 have hEl:E.length=64*((t.length+72) / 64):=by
  rw [←hE]
  simp only [yl,yci,List.length_singleton,ZCK,yr,be8,List.length_cons,List.length_nil]
  omega
 obtain ⟨o3,h3,r1,r2,r3,r4⟩:=XZ (step:=Zbu fuel) (fun s=>s.2.1=z∧s.2.2.1=E∧s.2.2.2.length=8∧∃c,c≤l.length / 64∧s.1=l.drop (64*c)∧s.2.2.2.map yad=ZdP c (l.map yac) ZaX) (fun s=>s.1.length)
  (fun x=>x.1=z∧x.2.1=E∧x.2.2.length=8∧x.2.2.map yad=ZdP (l.length / 64) (l.map yac) ZaX) (by
  rintro ⟨a,b,c,d⟩ ⟨k1,k2,k3,j,k4,k5,k6⟩
  dsimp only at k1 k2 k3 k4 k5 k6
  have hal:a.length=l.length - 64*j:=by rw [k5,ybn]
  unfold Zbu
  dsimp only
  by_cases hi:(a.length:Int) ≥ 64
  ·left
   obtain ⟨m,hm1,hm2⟩:=ZE5 (st:=d) (l:=a.take 64) k3 (by rw [yab];omega)
   rw [if_pos (decide_eq_true hi),if_pos (by simp only [ZdI,yg,decide_eq_true_eq];omega),hm1,yb,if_pos (by simp only [ZdI,yg,decide_eq_true_eq];omega)]
   refine ⟨_,rfl,⟨k1,k2, ?_,j+1,by omega, ?_, ?_⟩,by dsimp only;rw [ybn];omega⟩
   ·dsimp only
    rw [←yr (f:=yad),hm2]
    exact ZdO (by rw [yr];exact k3)
   ·dsimp only
    rw [k5,List.drop_drop]
    congr 1
   ·dsimp only
    rw [hm2,Zka,k6,k5,List.map_take,List.map_drop]
  ·right
   rw [if_neg (by simpa using hi)]
   have:j=l.length / 64:=by omega
   subst this
   exact ⟨_,rfl,k1,k2,k3,k6⟩) (l,z,E,f) ⟨rfl,rfl,hf8,0,Nat.zero_le _,by simp,hfl⟩ (by dsimp only;omega)
 rw [h3,yb,r1,r2]
 generalize hv1:ZdP (l.length / 64) (l.map yac) ZaX=v1 at r4
 obtain ⟨o4,h4,s1,s2,s3⟩:=XZ (step:=Zbv fuel) (fun s=>s.2.1=z∧s.2.2.2.length=8∧∃c,c≤E.length / 64∧s.1=E.drop (64*c)∧s.2.2.2.map yad=ZdP c (E.map yac) v1) (fun s=>s.1.length)
  (fun x=>x.1=z∧x.2.2.length=8∧x.2.2.map yad=ZdP (E.length / 64) (E.map yac) v1) (by
  rintro ⟨a,b,c,d⟩ ⟨k1,k3,j,k4,k5,k6⟩
  dsimp only at k1 k3 k4 k5 k6
  have hal:a.length=E.length - 64*j:=by rw [k5,ybn]
  unfold Zbv
  dsimp only
  by_cases hi:(a.length:Int) > 0
  ·left
   obtain ⟨m,hm1,hm2⟩:=ZE5 (st:=d) (l:=a.take 64) k3 (by rw [yab];omega)
   rw [if_pos (decide_eq_true hi),if_pos (by simp only [ZdI,yg,decide_eq_true_eq];omega),hm1,yb,if_pos (by simp only [ZdI,yg,decide_eq_true_eq];omega)]
   refine ⟨_,rfl,⟨k1, ?_,j+1,by omega, ?_, ?_⟩,by dsimp only;rw [ybn];omega⟩
   ·dsimp only
    rw [←yr (f:=yad),hm2]
    exact ZdO (by rw [yr];exact k3)
   ·dsimp only
    rw [k5,List.drop_drop]
    congr 1
   ·dsimp only
    rw [hm2,Zka,k6,k5,List.map_take,List.map_drop]
  ·right
   rw [if_neg (by simpa using hi)]
   have:j=E.length / 64:=by omega
   subst this
   exact ⟨_,rfl,k1,k3,k6⟩) (E,z,E,o3.2.2) ⟨rfl,r3,0,Nat.zero_le _,by simp,r4⟩ (by dsimp only;omega)
 rw [h4,yb]
 generalize hv2:ZdP (E.length / 64) (E.map yac) v1=v2 at s3
 obtain ⟨o5,h5,t1,t2⟩:=XZ (step:=Zbw fuel) (fun s=>0≤s.1∧s.1≤32∧s.2.1.length=32∧s.2.2.2=o4.2.2∧∀(j:Nat),(j:Int) < s.1→s.2.1[j]? =some (Go.Sha.ZEN v2 j)) (fun s=>(32 - s.1).toNat)
  (fun x=>x.1.length=32∧∀(j:Nat),j < 32→x.1[j]? =some (Go.Sha.ZEN v2 j)) (by
  rintro ⟨i,a,b,c⟩ ⟨h0,h32,ha,hc,hv⟩
  dsimp only at h0 h32 ha hc hv
  subst hc
  unfold Zbw
  dsimp only
  by_cases hi:i < 32
  ·left
   rw [if_pos (decide_eq_true hi)]
   have e1:Int.tdiv i 4=i / 4:=Int.tdiv_eq_ediv_of_nonneg h0
   have e2:Int.tmod i 4=i % 4:=Int.tmod_eq_emod_of_nonneg h0
   rw [e1,e2,Zx (z:=i / 4) (by omega) (by omega),Zx (z:=8*(i % 4)) (by omega) (by omega),Zx (z:=24 - 8*(i % 4)) (by omega) (by omega),Zx (z:=i+1) (by omega) (by omega)]
   obtain ⟨x1,hx1⟩:=QZ (l:=o4.2.2) (i:=(i / 4).toNat) (by omega)
   obtain ⟨x2,hx2⟩:=QZ (l:=a) (i:=i.toNat) (by omega)
   rw [if_pos (YF (by omega) (by omega)),hx1,yb,if_pos (decide_eq_true (by omega))]
   try dsimp only
   rw [if_pos (YF (by omega) (by omega)),hx2,yb]
   refine ⟨_,rfl,⟨by dsimp only;omega,by dsimp only;omega,by dsimp only;rw [yar];exact ha,rfl, ?_⟩,by dsimp only;omega⟩
   intro j hj
   dsimp only at hj ⊢
   by_cases hji:j=i.toNat
   ·subst hji
    rw [ycb (by omega)]
    congr 1
    unfold Go.Sha.ZEN
    have hx:v2.getD (i.toNat / 4) 0=x1.toNat:=by
     rw [←s3,ycp,yaa,show i.toNat / 4=(i / 4).toNat by omega,hx1]
     rfl
    rw [hx,show min (24 - 8*(i % 4)).toNat 32=24 - 8*(i.toNat % 4) by omega,Zus]
    unfold w8
    have e3:∀m:Nat,(((m:Nat):Int) % 256).toNat=m % 256:=fun m=>by omega
    rw [e3,show Nat.shiftRight x1.toNat (24 - 8*(i.toNat % 4))=x1.toNat >>> (24 - 8*(i.toNat % 4)) from rfl,Nat.shiftRight_eq_div_pow]
    exact UInt8.toNat_inj.1 (by simp)
   ·rw [ycr (Ne.symm hji)]
    exact hv j (by omega)
  ·right
   rw [if_neg (by simpa using hi)]
   exact ⟨_,rfl,ha,fun j hj=>hv j (by omega)⟩) ((0:Int),o4.1,o4.2.1,o4.2.2) ⟨Int.le_refl _,by dsimp only;omega,by dsimp only;rw [s1];exact hzl,rfl,fun j hj=>by dsimp only at hj;omega⟩ (by dsimp only;omega)
 rw [h5,yb,Zz6]
 congr 1
 have hpad:ZdQ l=(l.take (64*(l.length / 64))).map yac++E.map yac:=by
  unfold ZdQ
  rw [←hE, ←ht]
  simp only [yai,List.map_replicate,List.map_cons,List.map_nil,ZCK,List.map_map]
  rw [←yaf, ←yaf, ←yaf, ←yai,ybc]
  have:be8 (8*l.length)=(be8 (8*l.length)).map (yac ∘ yas):=by
   simp [be8]
  rw [←this]
  simp
 have hw:((l.take (64*(l.length / 64))).map yac).length=64*(l.length / 64):=by
  rw [yr,yab]
  omega
 have hv:v2=ZdP ((l.length+72) / 64) (ZdQ l) ZaX:=by
  rw [hpad,show (l.length+72) / 64=l.length / 64+E.length / 64 by omega,Zrv _ _ _ _ _ hw, ←hv2, ←hv1]
  congr 1
  have:=Zrv (l.length / 64) 0 _ ((l.drop (64*(l.length / 64))).map yac) ZaX hw
  rw [←yai,ybc,Nat.add_zero] at this
  exact this
 rw [←hv]
 apply List.ext_getElem?
 intro j
 by_cases hj:j < 32
 ·rw [t2 j hj,yaa,List.getElem?_range hj]
  rfl
 ·rw [yak (by omega),yak (by simp;omega)]
noncomputable def Zdr (F:Nat) (a0:List UInt8):Option (List UInt8):=if decide (a0.length≤4294967296)=true then some (sha a0) else Zee F a0
noncomputable def Zyi (F:Nat):Fs ya:={ Zho F with M:=fun x=>Zdr F x}
noncomputable def ZrU:Fs ya:=Zyi fuel
theorem Zyj:ZrU.Ok:=ZlA (s:=Zho fuel) Zwc fun x=>by
 show Zdr fuel x=Zee fuel x
 unfold Zdr
 split
 ·rename_i h
  exact (ZIs (of_decide_eq_true h)).symm
 ·rfl
theorem ZGI {l:List UInt8} (h:l.length≤4294967296):Zdr fuel l=some (sha l):=if_pos (decide_eq_true h)
end Go.Proofs.YtjbbdlffilcaaaaGreat
end
section
set_option maxRecDepth 4000
namespace Go.Proofs.YtjbbdlffilcaaaaGreat
open Go Go.Ev
noncomputable section
def ZmX (F:Nat):Fs ya:=⟨142,[.nil .u8,.v (.int .i64)],[],[(.int .i64)],(Zcm F).xs,fun x=>(Zcm F).M (x,([]:List UInt8))⟩
def Zgx:Fs ya:=ZmX fuel
theorem ZmY:Zgx.Ok:=ZH1 (i1:=[(.int .i64)]) (i2:=[(.int .i64),(.sl .u8)]) (fun x=>(x,([]:List UInt8))) Zcn (fun _=>rfl) (fun _=>⟨_,rfl⟩)
def Zdb (F:Nat) (s:((List (List UInt8))×Int×Int×(List UInt8)×(List UInt8))):Option (((List (List UInt8))×Int×Int×(List UInt8)×(List UInt8))⊕((List UInt8)×(List UInt8))):=
 if (decide (s.2.2.1 < s.2.1))=true then
  (idx s.1 s.2.2.1).bind fun e465=>
  (Wp F (e465.length:Int) s.2.2.2.2).bind fun o466=>
  if (apB o466.length e465.length 1)=true then
   some (.inl (s.1,s.2.1,wi (s.2.2.1+1),s.2.2.2.1,o466++e465))
  else
  none
 else
 some (.inr (s.2.2.2.1,s.2.2.2.2))
def ZoU:Lp:=⟨[(4,.ref 0 []),(5,.own 1 .u8),(13,.v (.sl (.sl .u8))),(14,.v (.int .i64)),(15,.v (.int .i64))],[.var (.v (.arr 32 .u8)) true,.log .u8 5],[(.sl (.sl .u8)),(.int .i64),(.int .i64),(.arr 32 .u8),(.sl .u8)],[⟨.exit 0,[(4,.ref 0 []),(5,.own 1 .u8)],[.var (.v (.arr 32 .u8)) true,.log .u8 5],[(.arr 32 .u8),(.sl .u8)]⟩],Zc (Zdb fuel) fuel⟩
theorem ZrV:ZoU.Ok ya (Zo ya 80) (Zn ya 80 0):=Zl (fi:={ hi:={ own:=[5,10,12,19,22,24],still:=[9,19,21,26]},lp:=[]}) (specs:={ l:=[Zed]}) (okS ⟨Zcn,trivial⟩) trivial (by kernel_rfl) (fun v=>by kernel_rfl)
def QE (F:Nat) (a0:ByteArray) (a1:(List (List UInt8))):Option ((List UInt8)):=
 (Wp F (a0.size:Int) ([]:List UInt8)).bind fun o464=>
 if (apB o464.length ((Zkg a0).length) 1)=true then
  (Zc (Zdb F) F (a1,(a1.length:Int),(0:Int),([0,0,0,0,0,0,0,0,0,0,0,0,0,0,0,0,0,0,0,0,0,0,0,0,0,0,0,0,0,0,0,0]:List UInt8),o464++(Zkg a0))).bind fun o467=>
  (Zdr F o467.2).bind fun o468=>
  some o468
 else
 none
def Zyk (F:Nat):Fs ya:=⟨80,[.v .str,.v (.sl (.sl .u8))],[],[.str,(.sl (.sl .u8))],[⟨.ret,[(0,.v (.arr 32 .u8))],[],[(.arr 32 .u8)]⟩],fun x=>QE F x.1 x.2⟩
def Za5:Fs ya:=Zyk fuel
theorem Zb4:Za5.Ok:=Zh (fi:={ hi:={ own:=[5,10,12,19,22,24],still:=[9,19,21,26]},lp:=[(0,ZoU)]}) (specs:={ l:=[Zgx,ZrU]}) (okS ⟨ZmY,Zyj,trivial⟩) ⟨ZrV,trivial⟩ (by decide+kernel) (fun x=>by kernel_rfl)
def VM (F:Nat) (s:(UInt64×Int×(List UInt8))):Option ((UInt64×Int×(List UInt8))⊕(List UInt8)):=
 if (decide (s.2.1 < 8))=true then
  if (decide (0≤wi (56 - (wi (8*s.2.1)))))=true then
   let y469:UInt64:=Zw s.1 (min (wi (56 - (wi (8*s.2.1)))).toNat 64)
   if (inB s.2.1 8)=true then
    (s.2.2[s.2.1.toNat]?).bind fun e470=>
    some (.inl (s.1,wi (s.2.1+1),s.2.2.set s.2.1.toNat (w8 (y469.toNat:Int))))
   else
   none
  else
  none
 else
 some (.inr s.2.2)
def Zk0:Lp:=⟨[(0,.v .u64),(3,.ref 0 []),(5,.v (.int .i64))],[.var (.v (.arr 8 .u8)) true],[.u64,(.int .i64),(.arr 8 .u8)],[⟨.exit 0,[(3,.ref 0 [])],[.var (.v (.arr 8 .u8)) true],[(.arr 8 .u8)]⟩],Zc (VM fuel) fuel⟩
theorem Zn4:Zk0.Ok ya (Zo ya 154) (Zn ya 154 0):=Zl (fi:={ hi:={ still:=[2]},lp:=[]}) (specs:={ l:=[]}) (okS trivial) trivial (by kernel_rfl) (fun v=>by kernel_rfl)
def Zfi (F:Nat) (a0:UInt64):Option ((List UInt8)):=
 (Zc (VM F) F (a0,(0:Int),([0,0,0,0,0,0,0,0]:List UInt8))).bind fun o471=>
 some ((o471.drop 0).take 8)
def Zto (F:Nat):Fs ya:=⟨154,[.v .u64],[],[.u64],[⟨.ret,[(0,.v (.sl .u8))],[],[(.sl .u8)]⟩],fun x=>Zfi F x⟩
def ZmZ:Fs ya:=Zto fuel
theorem Ztp:ZmZ.Ok:=Zh (fi:={ hi:={ still:=[2]},lp:=[(0,Zk0)]}) (specs:={ l:=[]}) (okS trivial) ⟨Zn4,trivial⟩ (by decide+kernel) (fun x=>by kernel_rfl)
def W5 (F:Nat) (s:(ByteArray×(List UInt64)×Int×Int×(List (List UInt8)))):Option ((ByteArray×(List UInt64)×Int×Int×(List (List UInt8)))⊕(ByteArray×(List (List UInt8)))):=
 if (decide (s.2.2.2.1 < s.2.2.1))=true then
  (idx s.2.1 s.2.2.2.1).bind fun e472=>
  (Zfi F e472).bind fun o473=>
  if (apB s.2.2.2.2.length 1 24)=true then
   some (.inl (s.1,s.2.1,s.2.2.1,wi (s.2.2.2.1+1),s.2.2.2.2++([o473]:List (List UInt8))))
  else
  none
 else
 some (.inr (s.1,s.2.2.2.2))
def Zju:Lp:=⟨[(0,.v .str),(5,.own 0 (.sl .u8)),(8,.v (.sl .u64)),(9,.v (.int .i64)),(10,.v (.int .i64))],[.log (.sl .u8) 134],[.str,(.sl .u64),(.int .i64),(.int .i64),(.sl (.sl .u8))],[⟨.exit 0,[(0,.v .str),(5,.own 0 (.sl .u8))],[.log (.sl .u8) 134],[.str,(.sl (.sl .u8))]⟩],Zc (W5 fuel) fuel⟩
theorem Zm0:Zju.Ok ya (Zo ya 85) (Zn ya 85 0):=Zl (fi:={ hi:={ own:=[5,14,18],still:=[4,15,20,21,22]},lp:=[]}) (specs:={ l:=[ZmZ]}) (okS ⟨Ztp,trivial⟩) trivial (by kernel_rfl) (fun v=>by kernel_rfl)
def Xn (F:Nat) (a0:ByteArray) (a1:(List UInt64)):Option (UInt64):=
 (Zc (W5 F) F (a0,a1,(a1.length:Int),(0:Int),([]:List (List UInt8)))).bind fun o474=>
 (QE F o474.1 o474.2).bind fun o475=>
 (WH F o475).bind fun o476=>
 some o476
def ZrW (F:Nat):Fs ya:=⟨85,[.v .str,.v (.sl .u64)],[],[.str,(.sl .u64)],[⟨.ret,[(0,.v .u64)],[],[.u64]⟩],fun x=>Xn F x.1 x.2⟩
def ZfL:Fs ya:=ZrW fuel
theorem Zjv:ZfL.Ok:=Zh (fi:={ hi:={ own:=[5,14,18],still:=[4,15,20,21,22]},lp:=[(0,Zju)]}) (specs:={ l:=[Za5,Zac]}) (okS ⟨Zb4,Zbs,trivial⟩) ⟨Zm0,trivial⟩ (by decide+kernel) (fun x=>by kernel_rfl)
def Zbx (F:Nat) (s:(UInt64×(List UInt64)×Int×Int)):Option ((UInt64×(List UInt64)×Int×Int)⊕UInt64):=
 if (decide (s.2.2.2 < s.2.2.1))=true then
  (idx s.2.1 s.2.2.2).bind fun e477=>
  (VZ F e477).bind fun o478=>
  (Z6 F s.1 o478).bind fun o479=>
  some (.inl (o479,s.2.1,s.2.2.1,wi (s.2.2.2+1)))
 else
 some (.inr s.1)
def Zm1:Lp:=⟨[(3,.v .u64),(6,.v (.sl .u64)),(7,.v (.int .i64)),(8,.v (.int .i64))],[],[.u64,(.sl .u64),(.int .i64),(.int .i64)],[⟨.exit 0,[(3,.v .u64)],[],[.u64]⟩],Zc (Zbx fuel) fuel⟩
theorem Zpu:Zm1.Ok ya (Zo ya 148) (Zn ya 148 0):=Zl (fi:={ hi:={ still:=[2,12,13,14]},lp:=[]}) (specs:={ l:=[Zbn,ZfF]}) (okS ⟨Zd5,Zjg,trivial⟩) trivial (by kernel_rfl) (fun v=>by kernel_rfl)
def Zef (F:Nat) (a0:(List UInt64)):Option (UInt64):=
 (Zc (Zbx F) F ((1:UInt64),a0,(a0.length:Int),(0:Int))).bind fun o480=>
 some o480
def Zwd (F:Nat):Fs ya:=⟨148,[.v (.sl .u64)],[],[(.sl .u64)],[⟨.ret,[(0,.v .u64)],[],[.u64]⟩],fun x=>Zef F x⟩
def Zjw:Fs ya:=Zwd fuel
theorem Zm2:Zjw.Ok:=Zh (fi:={ hi:={ still:=[2,12,13,14]},lp:=[(0,Zm1)]}) (specs:={ l:=[]}) (okS trivial) ⟨Zpu,trivial⟩ (by decide+kernel) (fun x=>by kernel_rfl)
def Za6 (F:Nat) (a0:UInt64) (a1:UInt64):Option (UInt64):=
 (Zef F ([a0,a1]:List UInt64)).bind fun o481=>
 some o481
def Zwe (F:Nat):Fs ya:=⟨119,[.v .u64,.v .u64],[],[.u64,.u64],[⟨.ret,[(0,.v .u64)],[],[.u64]⟩],fun x=>Za6 F x.1 x.2⟩
def Zfj:Fs ya:=Zwe fuel
theorem Zhp:Zfj.Ok:=Zh (fi:={ hi:={ still:=[4,7]},lp:=[]}) (specs:={ l:=[Zjw]}) (okS ⟨Zm2,trivial⟩) trivial (by decide+kernel) (fun x=>by kernel_rfl)
def ZBs:ByteArray:=⟨#[114,101,118,111,107,101]⟩
def Zdc (F:Nat) (a0:UInt64) (a1:UInt64):Option (UInt64):=
 (Xn F ZBs ([a0,a1]:List UInt64)).bind fun o482=>
 (WV F a0 o482).bind fun o483=>
 (Xn F ZBs ([a1,a0]:List UInt64)).bind fun o484=>
 (WV F a1 o484).bind fun o485=>
 (Za6 F o483 o485).bind fun o486=>
 some o486
def ZrX (F:Nat):Fs ya:=⟨51,[.v .u64,.v .u64],[],[.u64,.u64],[⟨.ret,[(0,.v .u64)],[],[.u64]⟩],fun x=>Zdc F x.1 x.2⟩
def Zk1:Fs ya:=ZrX fuel
theorem ZrY:Zk1.Ok:=Zh (fi:={ hi:={ still:=[4,5,8,9,10,11,14,15,16]},lp:=[]}) (specs:={ l:=[ZfL,Zbo,Zfj]}) (okS ⟨Zjv,Zd6,Zhp,trivial⟩) trivial (by decide+kernel) (fun x=>by kernel_rfl)
def ZE6:ByteArray:=⟨#[109,105,120]⟩
def Zds (F:Nat) (a0:UInt64) (a1:UInt64):Option (UInt64):=
 (Xn F ZE6 ([a1,a0]:List UInt64)).bind fun o487=>
 (XH F o487).bind fun o488=>
 (Za6 F a0 o488).bind fun o489=>
 some o489
def Zyl (F:Nat):Fs ya:=⟨52,[.v .u64,.v .u64],[],[.u64,.u64],[⟨.ret,[(0,.v .u64)],[],[.u64]⟩],fun x=>Zds F x.1 x.2⟩
def ZrZ:Fs ya:=Zyl fuel
theorem Zym:ZrZ.Ok:=Zh (fi:={ hi:={ still:=[4,5,8,9,10]},lp:=[]}) (specs:={ l:=[ZfL,WW,Zfj]}) (okS ⟨Zjv,W8,Zhp,trivial⟩) trivial (by decide+kernel) (fun x=>by kernel_rfl)
def V1 (F:Nat) (s:(Int×(List ZB)×Int×Int×ZO×State×(List ZB))):Option ((Int×(List ZB)×Int×Int×ZO×State×(List ZB))⊕(ZO×State×(List ZB))):=
 if (decide (s.2.2.2.1 < s.2.2.1))=true then
  (idx s.2.1 s.2.2.2.1).bind fun e490=>
  if (inB s.1 2)=true then
   (s.2.2.2.2.1.2.2.2.1[s.1.toNat]?).bind fun e491=>
   (Yi F e491 e490.2.2.1).bind fun o492=>
   if o492=true then
    if (apB s.2.2.2.2.2.2.length 1 40)=true then
     some (.inl (s.1,s.2.1,s.2.2.1,wi (s.2.2.2.1+1),s.2.2.2.2.1,s.2.2.2.2.2.1,s.2.2.2.2.2.2++([e490]:List ZB)))
    else
    none
   else
   some (.inl (s.1,s.2.1,s.2.2.1,wi (s.2.2.2.1+1),s.2.2.2.2.1,s.2.2.2.2.2.1,s.2.2.2.2.2.2))
  else
  none
 else
 some (.inr (s.2.2.2.2.1,s.2.2.2.2.2.1,s.2.2.2.2.2.2))
def ZhQ:Lp:=⟨[(2,.v (.int .i64)),(3,.ref 0 []),(7,.own 2 Z7),(11,.v (.sl Z7)),(12,.v (.int .i64)),(13,.v (.int .i64))],[.var (.v Zr) true,.var (.v Ze) true,.log Z7 72],[(.int .i64),(.sl Z7),(.int .i64),(.int .i64),Zr,Ze,(.sl Z7)],[⟨.exit 0,[(7,.own 2 Z7)],[.var (.v Zr) true,.var (.v Ze) true,.log Z7 72],[Zr,Ze,(.sl Z7)]⟩],Zc (V1 fuel) fuel⟩
theorem ZlH:ZhQ.Ok ya (Zo ya 59) (Zn ya 59 0):=Zl (fi:={ hi:={ own:=[7,24,27],still:=[6,20,22]},lp:=[]}) (specs:={ l:=[W9]}) (okS ⟨VJ,trivial⟩) trivial (by kernel_rfl) (fun v=>by kernel_rfl)
def XI (F:Nat) (a0:ZO) (a1:State) (a2:Int):Option ((List ZB)):=
 (Zc (V1 F) F (a2,a1.2.2.1,(a1.2.2.1.length:Int),(0:Int),a0,a1,([]:List ZB))).bind fun o493=>
 some o493.2.2
def Zpv (F:Nat):Fs ya:=⟨59,[.v Zr,.v Ze,.v (.int .i64)],[],[Zr,Ze,(.int .i64)],[⟨.ret,[(0,.v (.sl Z7))],[],[(.sl Z7)]⟩],fun x=>XI F x.1 x.2.1 x.2.2⟩
def Zeg:Fs ya:=Zpv fuel
theorem ZhR:Zeg.Ok:=Zh (fi:={ hi:={ own:=[7,24,27],still:=[6,20,22]},lp:=[(0,ZhQ)]}) (specs:={ l:=[]}) (okS trivial) ⟨ZlH,trivial⟩ (by decide+kernel) (fun x=>by kernel_rfl)
def W0 (F:Nat) (a0:ZO) (a1:State) (a2:Int) (a3:Int):Option (Int):=
 if (inB a3 2)=true then
  (a1.2.1[a3.toNat]?).bind fun e494=>
  if (a3==a0.2.2.2.2)=true then
   (XI F a0 a1 a2).bind fun o495=>
   (Za1 F a1.2.2.2 (o495.length:Int)).bind fun o496=>
   some (wi (e494 - (wi (o496+660))))
  else
  some e494
 else
 none
def Zr0 (F:Nat):Fs ya:=⟨55,[.v Zr,.v Ze,.v (.int .i64),.v (.int .i64)],[],[Zr,Ze,(.int .i64),(.int .i64)],[⟨.ret,[(0,.v (.int .i64))],[],[(.int .i64)]⟩],fun x=>W0 F x.1 x.2.1 x.2.2.1 x.2.2.2⟩
def ZfM:Fs ya:=Zr0 fuel
theorem Zjx:ZfM.Ok:=Zh (fi:={ hi:={ still:=[8,20,21,22,23,25]},lp:=[]}) (specs:={ l:=[Zeg,Zfd]}) (okS ⟨ZhR,Zhn,trivial⟩) trivial (by decide+kernel) (fun x=>by kernel_rfl)
abbrev ZR:Ty:=(.st [(.sl .u64),(.int .i64),(.int .i64),.u64])
abbrev YR:Type:=((List UInt64)×Int×Int×UInt64)
abbrev Yu:Ty:=(.st [(.sl ZR)])
abbrev XV:Type:=(List YR)
def ZlI (F:Nat) (a0:UInt64) (a1:UInt64) (a2:Int):Option (XV):=
 some ([([a1],0,0,0),([a0],0,a2,0)]:XV)
def Zwf (F:Nat):Fs ya:=⟨56,[.v .u64,.v .u64,.v (.int .i64)],[],[.u64,.u64,(.int .i64)],[⟨.ret,[(0,.v Yu)],[],[Yu]⟩],fun x=>ZlI F x.1 x.2.1 x.2.2⟩
def ZoV:Fs ya:=Zwf fuel
theorem Zwg:ZoV.Ok:=Zh (fi:={ hi:={},lp:=[]}) (specs:={ l:=[]}) (okS trivial) trivial (by decide+kernel) (fun x=>by kernel_rfl)
def WC (F:Nat) (a0:(List UInt64)):Option ((List UInt64)):=
 if (apB 0 a0.length 8)=true then
  some a0
 else
 none
def Zn5 (F:Nat):Fs ya:=⟨141,[.sl true .u64],[],[(.sl .u64)],[⟨.ret,[(0,.v (.sl .u64))],[],[(.sl .u64)]⟩],fun x=>WC F x⟩
def Zpw:Fs ya:=Zn5 fuel
theorem Zn6:Zpw.Ok:=Zh (fi:={ hi:={ own:=[5,7],still:=[2]},lp:=[]}) (specs:={ l:=[]}) (okS trivial) trivial (by decide+kernel) (fun x=>by kernel_rfl)
def Zfk (F:Nat):Option ((List UInt64)):=
 some ([]:List UInt64)
def Zkz (F:Nat):Fs ya:=⟨141,[.nil .u64],[],[],[⟨.ret,[(0,.v (.sl .u64))],[],[(.sl .u64)]⟩],fun x=>Zfk F⟩
def ZlJ:Fs ya:=Zkz fuel
theorem ZkA:ZlJ.Ok:=Zh (fi:={ hi:={ own:=[5,7],still:=[2]},lp:=[]}) (specs:={ l:=[]}) (okS trivial) trivial (by decide+kernel) (fun x=>by kernel_rfl)
def ZlK (F:Nat):Fs ya:=⟨141,[.v (.sl .u64)],[],[(.sl .u64)],[⟨.ret,[(0,.v (.sl .u64))],[],[(.sl .u64)]⟩],fun x=>WC F x⟩
def Zae:Fs ya:=ZlK fuel
theorem Zeh:Zae.Ok:=ZzW (t:=.u64) (xs:=[⟨.ret,[(0,.v (.sl .u64))],[],[(.sl .u64)]⟩]) (MA:=fun (x:(List UInt64))=>WC fuel x) (MB:=fun _=>Zfk fuel) Zn6 ZkA rfl
def Zkd (F:Nat) (a0:(List UInt64)):Option (XV):=
 (WC F a0).bind fun o497=>
 some ([(o497,0,0,0)]:XV)
def Zyn (F:Nat):Fs ya:=⟨121,[.v (.sl .u64)],[],[(.sl .u64)],[⟨.ret,[(0,.v Yu)],[],[Yu]⟩],fun x=>Zkd F x⟩
def ZlL:Fs ya:=Zyn fuel
theorem ZoW:ZlL.Ok:=Zh (fi:={ hi:={ still:=[3]},lp:=[]}) (specs:={ l:=[Zae]}) (okS ⟨Zeh,trivial⟩) trivial (by decide+kernel) (fun x=>by kernel_rfl)
def Zdt (F:Nat) (a0:UInt64):Option (XV):=
 (Zkd F ([a0]:List UInt64)).bind fun o498=>
 some o498
def Zyo (F:Nat):Fs ya:=⟨57,[.v .u64],[],[.u64],[⟨.ret,[(0,.v Yu)],[],[Yu]⟩],fun x=>Zdt F x⟩
def Zr1:Fs ya:=Zyo fuel
theorem Zyp:Zr1.Ok:=Zh (fi:={ hi:={ still:=[4]},lp:=[]}) (specs:={ l:=[ZlL]}) (okS ⟨ZoW,trivial⟩) trivial (by decide+kernel) (fun x=>by kernel_rfl)
def Y4 (F:Nat) (a0:UInt64):Option (XV):=
 some ([([a0],0,0,0),([],0,16,0)]:XV)
def Zr2 (F:Nat):Fs ya:=⟨58,[.v .u64],[],[.u64],[⟨.ret,[(0,.v Yu)],[],[Yu]⟩],fun x=>Y4 F x⟩
def Zk2:Fs ya:=Zr2 fuel
theorem Zr3:Zk2.Ok:=Zh (fi:={ hi:={},lp:=[]}) (specs:={ l:=[]}) (okS trivial) trivial (by decide+kernel) (fun x=>by kernel_rfl)
def Zei (F:Nat) (a0:(List UInt8)) (a1:(List UInt8)):Option (Int):=
 some (Go.Lib.compareBytes a0 a1)
def Zn7 (F:Nat):Fs ya:=⟨64,[.v (.sl .u8),.v (.sl .u8)],[],[(.sl .u8),(.sl .u8)],[⟨.ret,[(0,.v (.int .i64))],[],[(.int .i64)]⟩],fun x=>Zei F x.1 x.2⟩
def ZhS:Fs ya:=Zn7 fuel
theorem Zn8:ZhS.Ok:=Zh (fi:={ hi:={ still:=[4,5,6]},lp:=[]}) (specs:={ l:=[]}) (okS trivial) trivial (by decide+kernel) (fun x=>by kernel_rfl)
abbrev W1:Ty:=(.st [(.int .i64),Yu])
abbrev Out:Type:=(Int×XV)
abbrev Out.Lock (x:Out):XV:=x.2
abbrev ZhT:Ty:=(.st [(.int .i64),Z7])
abbrev Role:Type:=(Int×ZB)
abbrev Role.Cond (x:Role):ZB:=x.2
abbrev Zj:Ty:=(.st [W1,ZhT,(.arr 32 .u8)])
abbrev Zf:Type:=(Out×Role×(List UInt8))
abbrev Zf.out (x:Zf):Out:=x.1
abbrev Zf.sum (x:Zf):(List UInt8):=x.2.2
def Zaf (F:Nat) (a0:Zf) (a1:Zf):Option (Int):=
 (Yh F a0.1.1 a1.1.1).bind fun o499=>
 (Zei F a0.2.2 a1.2.2).bind fun o500=>
 (Yh F a0.2.1.1 a1.2.1.1).bind fun o501=>
 (Yh F a0.2.1.2.1 a1.2.1.2.1).bind fun o502=>
 (Yh F a0.2.1.2.2.1 a1.2.1.2.2.1).bind fun o503=>
 (Zb2 F ([o499,o500,o501,o502,o503]:List Int)).bind fun o504=>
 some o504
def Zn9 (F:Nat):Fs ya:=⟨61,[.v Zj,.v Zj],[],[Zj,Zj],[⟨.ret,[(0,.v (.int .i64))],[],[(.int .i64)]⟩],fun x=>Zaf F x.1 x.2⟩
def ZhU:Fs ya:=Zn9 fuel
theorem Zoa:ZhU.Ok:=Zh (fi:={ hi:={ still:=[4,7,10,13,15,19,22,27,31,36,40,42],frz:=[13,15]},lp:=[]}) (specs:={ l:=[Zaa,ZhS,Zhm]}) (okS ⟨Zeb,Zn8,ZkV,trivial⟩) trivial (by decide+kernel) (fun x=>by kernel_rfl)
abbrev Zag:Ty:=(.st [.u64,.u64])
abbrev Sig:Type:=(UInt64×UInt64)
abbrev Sig.R (x:Sig):UInt64:=x.1
abbrev Sig.S (x:Sig):UInt64:=x.2
abbrev VN:Ty:=(.st [(.int .i64),(.sl Zag),.u64])
abbrev Zdd:Type:=(Int×(List Sig)×UInt64)
abbrev Zdd.Branch (x:Zdd):Int:=x.1
abbrev yIn:Ty:=(.st [Xv,VN])
abbrev In:Type:=(XQ×Zdd)
abbrev yTx:Ty:=(.st [(.sl yIn),(.sl W1),(.int .i64)])
abbrev Tx:Type:=((List In)×(List Out)×Int)
abbrev Yp:Ty:=(.st [yTx,(.sl ZhT)])
abbrev WD:Type:=(Tx×(List Role))
abbrev WD.Tx (x:WD):Tx:=x.1
def Va (F:Nat) (a0:UInt64):Option (Bool):=
 (YZ F a0).bind fun o523=>
 some (!o523)
def Zpx (F:Nat):Fs ya:=⟨131,[.v .u64],[],[.u64],[⟨.ret,[(0,.v .bool)],[],[.bool]⟩],fun x=>Va F x⟩
def Zej:Fs ya:=Zpx fuel
theorem ZhV:Zej.Ok:=Zh (fi:={ hi:={ still:=[2,3]},lp:=[]}) (specs:={ l:=[Wo]}) (okS ⟨WA,trivial⟩) trivial (by decide+kernel) (fun x=>by kernel_rfl)
def Wj (F:Nat) (s:((List UInt64)×Int×Int)):Option (((List UInt64)×Int×Int)⊕(Int⊕Unit)):=
 if (decide (s.2.2 < s.2.1))=true then
  (idx s.1 s.2.2).bind fun e522=>
  (Va F e522).bind fun o524=>
  if o524=true then
   some (.inr (.inl s.2.2))
  else
  some (.inl (s.1,s.2.1,wi (s.2.2+1)))
 else
 some (.inr (.inr ()))
def ZcF:Lp:=⟨[(0,.v (.sl .u64)),(1,.fn 131 []),(7,.v (.int .i64)),(8,.v (.int .i64))],[],[(.sl .u64),(.int .i64),(.int .i64)],[⟨.ret,[(4,.v (.int .i64))],[],[(.int .i64)]⟩,⟨.exit 0,[],[],[]⟩],Zc (Wj fuel) fuel⟩
theorem Zhq:ZcF.Ok ya (Zo ya 189) (Zn ya 189 0):=Zl (fi:={ hi:={ still:=[4,15]},lp:=[]}) (specs:={ l:=[Zej]}) (okS ⟨ZhV,trivial⟩) trivial (by kernel_rfl) (fun v=>by kernel_rfl)
def Zah (F:Nat) (a0:(List UInt64)):Option (Int):=
 (Zc (Wj F) F (a0,(a0.length:Int),(0:Int))).bind fun o525=>
 match o525 with
 |.inl o526=>
  some o526
 |.inr o527=>
  some (-1:Int)
def ZkB (F:Nat):Fs ya:=⟨189,[.v (.sl .u64),.fn 131 []],[],[(.sl .u64)],[⟨.ret,[(0,.v (.int .i64))],[],[(.int .i64)]⟩],fun x=>Zah F x⟩
def Zek:Fs ya:=ZkB fuel
theorem ZkC:Zek.Ok:=Zh (fi:={ hi:={ still:=[4,15]},lp:=[(0,ZcF)]}) (specs:={ l:=[]}) (okS trivial) ⟨Zhq,trivial⟩ (by decide+kernel) (fun x=>by kernel_rfl)
def Zby (F:Nat) (a0:(List UInt64)):Option (Bool):=
 (Zah F a0).bind fun o528=>
 some (decide (o528 ≥ 0))
def Zpy (F:Nat):Fs ya:=⟨132,[.v (.sl .u64),.fn 131 []],[],[(.sl .u64)],[⟨.ret,[(0,.v .bool)],[],[.bool]⟩],fun x=>Zby F x⟩
def Zjy:Fs ya:=Zpy fuel
theorem Zpz:Zjy.Ok:=Zh (fi:={ hi:={ still:=[4,5,6]},lp:=[]}) (specs:={ l:=[Zek]}) (okS ⟨ZkC,trivial⟩) trivial (by decide+kernel) (fun x=>by kernel_rfl)
def Zai (F:Nat) (a0:Int):Option (Bool):=
 if (decide (a0 ≥ 0))=true then
  some (decide (a0≤1048576))
 else
 some false
def Zr4 (F:Nat):Fs ya:=⟨133,[.v (.int .i64)],[],[(.int .i64)],[⟨.ret,[(0,.v .bool)],[],[.bool]⟩],fun x=>Zai F x⟩
def Zk3:Fs ya:=Zr4 fuel
theorem Zr5:Zk3.Ok:=Zh (fi:={ hi:={ still:=[2]},lp:=[]}) (specs:={ l:=[]}) (okS trivial) trivial (by decide+kernel) (fun x=>by kernel_rfl)
def Zaj (F:Nat) (s:((List YR)×Int×Int×XV)):Option (((List YR)×Int×Int×XV)⊕((Bool×XV)⊕XV)):=
 if (decide (s.2.2.1 < s.2.1))=true then
  (idx s.1 s.2.2.1).bind fun e521=>
  if (decide ((e521.1.length:Int) > 12))=true then
   some (.inr (.inl (false,s.2.2.2)))
  else
  (Zby F e521.1).bind fun o529=>
  if o529=true then
   some (.inr (.inl (false,s.2.2.2)))
  else
  (Zai F e521.2.1).bind fun o530=>
  if (!o530)=true then
   some (.inr (.inl (false,s.2.2.2)))
  else
  (Zai F e521.2.2.1).bind fun o531=>
  if (!o531)=true then
   some (.inr (.inl (false,s.2.2.2)))
  else
  if (e521.2.2.2 !=0)=true then
   (Va F e521.2.2.2).bind fun o532=>
   if o532=true then
    some (.inr (.inl (false,s.2.2.2)))
   else
   some (.inl (s.1,s.2.1,wi (s.2.2.1+1),s.2.2.2))
  else
  some (.inl (s.1,s.2.1,wi (s.2.2.1+1),s.2.2.2))
 else
 some (.inr (.inr s.2.2.2))
def Zk4:Lp:=⟨[(1,.ref 0 []),(3,.fn 131 []),(7,.v (.sl ZR)),(8,.v (.int .i64)),(9,.v (.int .i64))],[.var (.v Yu) true],[(.sl ZR),(.int .i64),(.int .i64),Yu],[⟨.ret,[(2,.v .bool)],[.var (.v Yu) true],[.bool,Yu]⟩,⟨.exit 0,[(1,.ref 0 [])],[.var (.v Yu) true],[Yu]⟩],Zc (Zaj fuel) fuel⟩
theorem Zob:Zk4.Ok ya (Zo ya 75) (Zn ya 75 0):=Zl (fi:={ hi:={ still:=[2,19,20,25,31,42]},lp:=[]}) (specs:={ l:=[Zjy,Zk3,Zej]}) (okS ⟨Zpz,Zr5,ZhV,trivial⟩) trivial (by kernel_rfl) (fun v=>by kernel_rfl)
def VO (F:Nat) (a0:XV):Option (Bool):=
 (Zc (Zaj F) F (a0,(a0.length:Int),(0:Int),a0)).bind fun o533=>
 match o533 with
 |.inl o534=>
  some o534.1
 |.inr o535=>
  if (decide ((o535.length:Int) > 0))=true then
   some (decide ((o535.length:Int)≤4))
  else
  some false
def Ztq (F:Nat):Fs ya:=⟨75,[.v Yu],[],[Yu],[⟨.ret,[(0,.v .bool)],[],[.bool]⟩],fun x=>VO F x⟩
def Zak:Fs ya:=Ztq fuel
theorem Zbz:Zak.Ok:=Zh (fi:={ hi:={ still:=[2,19,20,25,31,42]},lp:=[(0,Zk4)]}) (specs:={ l:=[]}) (okS trivial) ⟨Zob,trivial⟩ (by decide+kernel) (fun x=>by kernel_rfl)
def YP (F:Nat) (s:((List (List UInt8))×Int×(List (List UInt8))×Int×Int)):Option (((List (List UInt8))×Int×(List (List UInt8))×Int×Int)⊕((List (List UInt8))×Int)):=
 if (decide (s.2.2.2.2 < s.2.2.2.1))=true then
  (idx s.2.2.1 s.2.2.2.2).bind fun e538=>
  if (decide ((wi (s.2.1+(e538.length:Int))) < 0))=true then
   none
  else
  some (.inl (s.1,wi (s.2.1+(e538.length:Int)),s.2.2.1,s.2.2.2.1,wi (s.2.2.2.2+1)))
 else
 some (.inr (s.1,s.2.1))
def VP:Lp:=⟨[(0,.v (.sl (.sl .u8))),(3,.v (.int .i64)),(9,.v (.sl (.sl .u8))),(10,.v (.int .i64)),(11,.v (.int .i64))],[],[(.sl (.sl .u8)),(.int .i64),(.sl (.sl .u8)),(.int .i64),(.int .i64)],[⟨.exit 0,[(0,.v (.sl (.sl .u8))),(3,.v (.int .i64))],[],[(.sl (.sl .u8)),(.int .i64)]⟩],Zc (YP fuel) fuel⟩
theorem Zb5:VP.Ok ya (Zo ya 195) (Zn ya 195 0):=Zl (fi:={ hi:={ own:=[6,24,31,33],still:=[2,23]},lp:=[]}) (specs:={ l:=[]}) (okS trivial) trivial (by kernel_rfl) (fun v=>by kernel_rfl)
def QF:Fs ya:=⟨216,[.nil .u8,.v (.int .i64)],[],[.int .i64],[⟨.ret,[(0,.own 0 .u8)],[.log .u8 5],[.sl .u8]⟩],Zrl⟩
theorem ZfN:QF.Ok:=ZGs ZEH
def YQ (F:Nat) (s:((List (List UInt8))×Int×Int×(List UInt8))):Option (((List (List UInt8))×Int×Int×(List UInt8))⊕(List UInt8)):=
 if (decide (s.2.2.1 < s.2.1))=true then
  (idx s.1 s.2.2.1).bind fun e541=>
  if (apB s.2.2.2.length e541.length 1)=true then
   some (.inl (s.1,s.2.1,wi (s.2.2.1+1),s.2.2.2++e541))
  else
  none
 else
 some (.inr s.2.2.2)
def VQ:Lp:=⟨[(6,.own 0 .u8),(25,.v (.sl (.sl .u8))),(26,.v (.int .i64)),(27,.v (.int .i64))],[.log .u8 5],[(.sl (.sl .u8)),(.int .i64),(.int .i64),(.sl .u8)],[⟨.exit 2,[(6,.own 0 .u8)],[.log .u8 5],[(.sl .u8)]⟩],Zc (YQ fuel) fuel⟩
theorem Zb6:VQ.Ok ya (Zo ya 195) (Zn ya 195 1):=Zl (fi:={ hi:={ own:=[6,24,31,33],still:=[2,23]},lp:=[]}) (specs:={ l:=[]}) (okS trivial) trivial (by kernel_rfl) (fun v=>by kernel_rfl)
def Yw (F:Nat) (a0:(List (List UInt8))):Option ((List UInt8)):=
 (Zc (YP F) F (a0,(0:Int),a0,(a0.length:Int),(0:Int))).bind fun o539=>
 (Zrl o539.2).bind fun o540=>
 (Zc (YQ F) F (o539.1,(o539.1.length:Int),(0:Int),o540)).bind fun o542=>
 some o542
def Zel (F:Nat):Fs ya:=⟨195,[.v (.sl (.sl .u8))],[],[(.sl (.sl .u8))],[⟨.ret,[(0,.v (.sl .u8))],[],[(.sl .u8)]⟩],fun x=>Yw F x⟩
def XY:Fs ya:=Zel fuel
theorem VR:XY.Ok:=Zh (fi:={ hi:={ own:=[6,24,31,33],still:=[2,23]},lp:=[(0,VP),(1,VQ)]}) (specs:={ l:=[QF]}) (okS ⟨ZfN,trivial⟩) ⟨Zb5,Zb6,trivial⟩ (by decide+kernel) (fun x=>by kernel_rfl)
def Qr (F:Nat) (a0:(List UInt8)) (a1:(List UInt8)):Option ((List UInt8)):=
 (Yw F ([a0,a1]:List (List UInt8))).bind fun o543=>
 some o543
def Zwh (F:Nat):Fs ya:=⟨193,[.v (.sl .u8),.v (.sl .u8)],[],[(.sl .u8),(.sl .u8)],[⟨.ret,[(0,.v (.sl .u8))],[],[(.sl .u8)]⟩],fun x=>Qr F x.1 x.2⟩
def Zfl:Fs ya:=Zwh fuel
theorem Zhr:Zfl.Ok:=Zh (fi:={ hi:={ still:=[4,7]},lp:=[]}) (specs:={ l:=[XY]}) (okS ⟨VR,trivial⟩) trivial (by decide+kernel) (fun x=>by kernel_rfl)
def Zde (F:Nat) (s:(Int×(List UInt8))):Option ((Int×(List UInt8))⊕(Int×(List UInt8))):=
 if (decide (s.1 ≥ 128))=true then
  if (apB s.2.length 1 1)=true then
   let y545:(List UInt8):=s.2++([w8 (wi ((Int.tmod s.1 128)+128))]:List UInt8)
   some (.inl (wi (Int.tdiv s.1 128),y545))
  else
  none
 else
 some (.inr (s.1,s.2))
def ZoX:Lp:=⟨[(0,.v (.int .i64)),(3,.own 0 .u8)],[.log .u8 5],[(.int .i64),(.sl .u8)],[⟨.exit 0,[(0,.v (.int .i64)),(3,.own 0 .u8)],[.log .u8 5],[(.int .i64),(.sl .u8)]⟩],Zc (Zde fuel) fuel⟩
theorem Zr6:ZoX.Ok ya (Zo ya 194) (Zn ya 194 0):=Zl (fi:={ hi:={ own:=[3,8,14,15,19],still:=[2]},lp:=[]}) (specs:={ l:=[]}) (okS trivial) trivial (by kernel_rfl) (fun v=>by kernel_rfl)
def Zgy (F:Nat) (a0:Int):Option ((List UInt8)):=
 (Zc (Zde F) F (a0,([]:List UInt8))).bind fun o546=>
 if (apB o546.2.length 1 1)=true then
  some (o546.2++([w8 o546.1]:List UInt8))
 else
 none
def Zyq (F:Nat):Fs ya:=⟨194,[.v (.int .i64)],[],[(.int .i64)],[⟨.ret,[(0,.v (.sl .u8))],[],[(.sl .u8)]⟩],fun x=>Zgy F x⟩
def ZlM:Fs ya:=Zyq fuel
theorem ZoY:ZlM.Ok:=Zh (fi:={ hi:={ own:=[3,8,14,15,19],still:=[2]},lp:=[(0,ZoX)]}) (specs:={ l:=[]}) (okS trivial) ⟨Zr6,trivial⟩ (by decide+kernel) (fun x=>by kernel_rfl)
def X0 (F:Nat) (a0:(List UInt8)) (a1:Int):Option ((List UInt8)):=
 if (decide (a1 < 0))=true then
  (Qr F a0 ([]:List UInt8)).bind fun o544=>
  some o544
 else
 (Zgy F a1).bind fun o547=>
 (Qr F a0 o547).bind fun o548=>
 some o548
def Zyr (F:Nat):Fs ya:=⟨144,[.v (.sl .u8),.v (.int .i64)],[],[(.sl .u8),(.int .i64)],[⟨.ret,[(0,.v (.sl .u8))],[],[(.sl .u8)]⟩],fun x=>X0 F x.1 x.2⟩
def Za7:Fs ya:=Zyr fuel
theorem Zb7:Za7.Ok:=Zh (fi:={ hi:={ still:=[4,7,9,10,11]},lp:=[]}) (specs:={ l:=[Zfl,ZlM]}) (okS ⟨Zhr,ZoY,trivial⟩) trivial (by decide+kernel) (fun x=>by kernel_rfl)
def Qj (F:Nat) (s:((List UInt8)×UInt64×Int×(List UInt8))):Option (((List UInt8)×UInt64×Int×(List UInt8))⊕((List UInt8)×(List UInt8))):=
 if (decide (s.2.2.1 < 8))=true then
  if (decide (0≤wi (56 - (wi (8*s.2.2.1)))))=true then
   let y553:UInt64:=Zw s.2.1 (min (wi (56 - (wi (8*s.2.2.1)))).toNat 64)
   if (inB s.2.2.1 8)=true then
    (s.2.2.2[s.2.2.1.toNat]?).bind fun e554=>
    let y555:(List UInt8):=s.2.2.2.set s.2.2.1.toNat (w8 (y553.toNat:Int))
    some (.inl (s.1,s.2.1,wi (s.2.2.1+1),y555))
   else
   none
  else
  none
 else
 some (.inr (s.1,s.2.2.2))
def Zjz:Lp:=⟨[(0,.v (.sl .u8)),(1,.v .u64),(5,.ref 0 []),(7,.v (.int .i64))],[.var (.v (.arr 8 .u8)) true],[(.sl .u8),.u64,(.int .i64),(.arr 8 .u8)],[⟨.exit 0,[(0,.v (.sl .u8)),(5,.ref 0 [])],[.var (.v (.arr 8 .u8)) true],[(.sl .u8),(.arr 8 .u8)]⟩],Zc (Qj fuel) fuel⟩
theorem Zm3:Zjz.Ok ya (Zo ya 182) (Zn ya 182 0):=Zl (fi:={ hi:={ still:=[4,19,20],frz:=[20]},lp:=[]}) (specs:={ l:=[]}) (okS trivial) trivial (by kernel_rfl) (fun v=>by kernel_rfl)
def Zal (F:Nat) (a0:(List UInt8)) (a1:UInt64):Option ((List UInt8)):=
 (Zc (Qj F) F (a0,a1,(0:Int),([0,0,0,0,0,0,0,0]:List UInt8))).bind fun o556=>
 (Qr F o556.1 o556.2).bind fun o557=>
 some o557
def Zr7 (F:Nat):Fs ya:=⟨182,[.v (.sl .u8),.v .u64],[],[(.sl .u8),.u64],[⟨.ret,[(0,.v (.sl .u8))],[],[(.sl .u8)]⟩],fun x=>Zal F x.1 x.2⟩
def ZfO:Fs ya:=Zr7 fuel
theorem ZjA:ZfO.Ok:=Zh (fi:={ hi:={ still:=[4,19,20],frz:=[20]},lp:=[(0,Zjz)]}) (specs:={ l:=[Zfl]}) (okS ⟨Zhr,trivial⟩) ⟨Zm3,trivial⟩ (by decide+kernel) (fun x=>by kernel_rfl)
def VS (F:Nat) (s:((List UInt8)×(List YR)×Int×Int×(List UInt64)×Int×Int×XV×YR)):Option (((List UInt8)×(List YR)×Int×Int×(List UInt64)×Int×Int×XV×YR)⊕((List UInt8)×(List YR)×Int×Int×XV×YR)):=
 if (decide (s.2.2.2.2.2.2.1 < s.2.2.2.2.2.1))=true then
  (idx s.2.2.2.2.1 s.2.2.2.2.2.2.1).bind fun e552=>
  (Zal F s.1 e552).bind fun o558=>
  some (.inl (o558,s.2.1,s.2.2.1,s.2.2.2.1,s.2.2.2.2.1,s.2.2.2.2.2.1,wi (s.2.2.2.2.2.2.1+1),s.2.2.2.2.2.2.2.1,s.2.2.2.2.2.2.2.2))
 else
 some (.inr (s.1,s.2.1,s.2.2.1,s.2.2.2.1,s.2.2.2.2.2.2.2.1,s.2.2.2.2.2.2.2.2))
def Zk5:Lp:=⟨[(3,.v (.sl .u8)),(5,.ref 1 []),(16,.v (.sl ZR)),(17,.v (.int .i64)),(18,.v (.int .i64)),(28,.v (.sl .u64)),(29,.v (.int .i64)),(30,.v (.int .i64))],[.var (.v Yu) true,.var (.v ZR) true],[(.sl .u8),(.sl ZR),(.int .i64),(.int .i64),(.sl .u64),(.int .i64),(.int .i64),Yu,ZR],[⟨.exit 2,[(3,.v (.sl .u8)),(5,.ref 1 []),(16,.v (.sl ZR)),(17,.v (.int .i64)),(18,.v (.int .i64))],[.var (.v Yu) true,.var (.v ZR) true],[(.sl .u8),(.sl ZR),(.int .i64),(.int .i64),Yu,ZR]⟩],Zc (VS fuel) fuel⟩
theorem Zoc:Zk5.Ok ya (Zo ya 120) (Zn ya 120 1):=Zl (fi:={ hi:={ still:=[2,8,13,22,25,34,35,38,40,41,43,44,46]},lp:=[]}) (specs:={ l:=[ZfO]}) (okS ⟨ZjA,trivial⟩) trivial (by kernel_rfl) (fun v=>by kernel_rfl)
def Zam (F:Nat) (s:((List UInt8)×(List YR)×Int×Int×XV)):Option (((List UInt8)×(List YR)×Int×Int×XV)⊕((List UInt8)×XV)):=
 if (decide (s.2.2.2.1 < s.2.2.1))=true then
  (idx s.2.1 s.2.2.2.1).bind fun e550=>
  (X0 F s.1 (e550.1.length:Int)).bind fun o551=>
  (Zc (VS F) F (o551,s.2.1,s.2.2.1,s.2.2.2.1,e550.1,(e550.1.length:Int),(0:Int),s.2.2.2.2,e550)).bind fun o559=>
  (X0 F o559.1 o559.2.2.2.2.2.2.1).bind fun o560=>
  (X0 F o560 o559.2.2.2.2.2.2.2.1).bind fun o561=>
  (Zal F o561 o559.2.2.2.2.2.2.2.2).bind fun o562=>
  some (.inl (o562,o559.2.1,o559.2.2.1,wi (o559.2.2.2.1+1),o559.2.2.2.2.1))
 else
 some (.inr (s.1,s.2.2.2.2))
def Zk6:Lp:=⟨[(3,.v (.sl .u8)),(16,.v (.sl ZR)),(17,.v (.int .i64)),(18,.v (.int .i64))],[.var (.v Yu) true],[(.sl .u8),(.sl ZR),(.int .i64),(.int .i64),Yu],[⟨.exit 0,[(3,.v (.sl .u8))],[.var (.v Yu) true],[(.sl .u8),Yu]⟩],Zc (Zam fuel) fuel⟩
theorem Zod:Zk6.Ok ya (Zo ya 120) (Zn ya 120 0):=Zl (fi:={ hi:={ still:=[2,8,13,22,25,34,35,38,40,41,43,44,46]},lp:=[(1,Zk5)]}) (specs:={ l:=[Za7,ZfO]}) (okS ⟨Zb7,ZjA,trivial⟩) ⟨Zoc,trivial⟩ (by kernel_rfl) (fun v=>by kernel_rfl)
def Zb8 (F:Nat) (a0:XV):Option ((List UInt8)):=
 (VO F a0).bind fun o537=>
 if (!o537)=true then
  some ([]:List UInt8)
 else
 (X0 F ([]:List UInt8) (a0.length:Int)).bind fun o549=>
 (Zc (Zam F) F (o549,a0,(a0.length:Int),(0:Int),a0)).bind fun o563=>
 some o563.1
def Ztr (F:Nat):Fs ya:=⟨120,[.v Yu],[],[Yu],[⟨.ret,[(0,.v (.sl .u8))],[],[(.sl .u8)]⟩],fun x=>Zb8 F x⟩
def Zhs:Fs ya:=Ztr fuel
theorem Zk7:Zhs.Ok:=Zh (fi:={ hi:={ still:=[2,8,13,22,25,34,35,38,40,41,43,44,46]},lp:=[(0,Zk6)]}) (specs:={ l:=[Zak,Za7]}) (okS ⟨Zbz,Zb7,trivial⟩) ⟨Zod,trivial⟩ (by decide+kernel) (fun x=>by kernel_rfl)
def ZG7:ByteArray:=⟨#[108,111,99,107]⟩
def Zke (F:Nat) (a0:XV):Option ((List UInt8)):=
 (VO F a0).bind fun o536=>
 if (!o536)=true then
  some ([0,0,0,0,0,0,0,0,0,0,0,0,0,0,0,0,0,0,0,0,0,0,0,0,0,0,0,0,0,0,0,0]:List UInt8)
 else
 (Zb8 F a0).bind fun o564=>
 (QE F ZG7 ([o564]:List (List UInt8))).bind fun o565=>
 some o565
def Zys (F:Nat):Fs ya:=⟨54,[.v Yu],[],[Yu],[⟨.ret,[(0,.v (.arr 32 .u8))],[],[(.arr 32 .u8)]⟩],fun x=>Zke F x⟩
def Zr8:Fs ya:=Zys fuel
theorem Zyt:Zr8.Ok:=Zh (fi:={ hi:={ still:=[3,7,9]},lp:=[]}) (specs:={ l:=[Zak,Zhs,Za5]}) (okS ⟨Zbz,Zk7,Zb4,trivial⟩) trivial (by decide+kernel) (fun x=>by kernel_rfl)
def ZL (F:Nat) (a0:Int) (a1:XV) (a2:Role) (s1_0:(List Unit)) (s1_1:(List Zf)):Option (((List Unit)×(List Zf))):=
 (Zke F a1).bind fun o566=>
 if (apB s1_1.length 1 112)=true then
  let y567:(List Zf):=s1_1++([((a0,a1),a2,o566)]:List Zf)
  some (()::s1_0,y567)
 else
 none
def Zoe (F:Nat):Fs ya:=⟨53,[.v (.int .i64),.v Yu,.v ZhT,.ref 0 []],[.var (.rw 1) true,.row Zj true 123],[(.int .i64),Yu,ZhT,(.sl (.st [])),(.sl Zj)],[⟨.ret,[(0,.tup [])],[.var (.rw 1) true,.row Zj true 123],[(.sl (.st [])),(.sl Zj)]⟩],fun x=>ZL F x.1 x.2.1 x.2.2.1 x.2.2.2.1 x.2.2.2.2⟩
def Zco:Fs ya:=Zoe fuel
theorem Zgz:Zco.Ok:=Zh (fi:={ hi:={ own:=[7,16],still:=[12]},lp:=[]}) (specs:={ l:=[Zr8]}) (okS ⟨Zyt,trivial⟩) trivial (by decide+kernel) (fun x=>by kernel_rfl)
def Ym (F:Nat) (s:(Int×Int×Int×Int×(List Unit)×(List Zf))):Option ((Int×Int×Int×Int×(List Unit)×(List Zf))⊕(Int×Int×Int×(List Unit)×(List Zf))):=
 if (decide (s.2.2.2.1 > s.1))=true then
  if (inB s.2.2.2.1 s.2.2.2.2.2.length)=true then
   (s.2.2.2.2.2[s.2.2.2.1.toNat]?).bind fun e586=>
   if (inB (wi (s.2.2.2.1 - 1)) s.2.2.2.2.2.length)=true then
    (s.2.2.2.2.2[(wi (s.2.2.2.1 - 1)).toNat]?).bind fun e587=>
    (Zaf F e586 e587).bind fun o588=>
    if (decide (o588 < 0))=true then
     if (inB (wi (s.2.2.2.1 - 1)) s.2.2.2.2.2.length)=true then
      (s.2.2.2.2.2[(wi (s.2.2.2.1 - 1)).toNat]?).bind fun e589=>
      if (inB s.2.2.2.1 s.2.2.2.2.2.length)=true then
       (s.2.2.2.2.2[s.2.2.2.1.toNat]?).bind fun e590=>
       if (inB s.2.2.2.1 s.2.2.2.2.2.length)=true then
        (s.2.2.2.2.2[s.2.2.2.1.toNat]?).bind fun e591=>
        if (inB (wi (s.2.2.2.1 - 1)) ((s.2.2.2.2.2.set s.2.2.2.1.toNat e589).length))=true then
         ((s.2.2.2.2.2.set s.2.2.2.1.toNat e589)[(wi (s.2.2.2.1 - 1)).toNat]?).bind fun e592=>
         let y593:(List Zf):=(s.2.2.2.2.2.set s.2.2.2.1.toNat e589).set ((wi (s.2.2.2.1 - 1)).toNat) e590
         some (.inl (s.1,s.2.1,s.2.2.1,wi (s.2.2.2.1 - 1),s.2.2.2.2.1,y593))
        else
        none
       else
       none
      else
      none
     else
     none
    else
    some (.inr (s.1,s.2.1,s.2.2.1,s.2.2.2.2.1,s.2.2.2.2.2))
   else
   none
  else
  none
 else
 some (.inr (s.1,s.2.1,s.2.2.1,s.2.2.2.2.1,s.2.2.2.2.2))
def Zem:Lp:=⟨[(0,.rw 0),(1,.v (.int .i64)),(2,.v (.int .i64)),(3,.fn 61 []),(8,.v (.int .i64)),(9,.v (.int .i64))],[.row Zj true 123],[(.int .i64),(.int .i64),(.int .i64),(.int .i64),(.sl (.st [])),(.sl Zj)],[⟨.exit 2,[(0,.rw 0),(1,.v (.int .i64)),(2,.v (.int .i64)),(3,.fn 61 []),(8,.v (.int .i64))],[.row Zj true 123],[(.int .i64),(.int .i64),(.int .i64),(.sl (.st [])),(.sl Zj)]⟩],Zc (Ym fuel) fuel⟩
theorem Zin:Zem.Ok ya (Zo ya 183) (Zn ya 183 1):=Zl (fi:={ hi:={ still:=[26,31],rowt:=[0,37,39]},lp:=[]}) (specs:={ l:=[ZhU]}) (okS ⟨Zoa,trivial⟩) trivial (by kernel_rfl) (fun v=>by kernel_rfl)
def Yn (F:Nat) (s:(Int×Int×Int×(List Unit)×(List Zf))):Option ((Int×Int×Int×(List Unit)×(List Zf))⊕((List Unit)×(List Zf))):=
 if (decide (s.2.2.1 < s.2.1))=true then
  (Zc (Ym F) F (s.1,s.2.1,s.2.2.1,s.2.2.1,s.2.2.2.1,s.2.2.2.2)).bind fun o594=>
  some (.inl (o594.1,o594.2.1,wi (o594.2.2.1+1),o594.2.2.2.1,o594.2.2.2.2))
 else
 some (.inr (s.2.2.2.1,s.2.2.2.2))
def Zen:Lp:=⟨[(0,.rw 0),(1,.v (.int .i64)),(2,.v (.int .i64)),(3,.fn 61 []),(8,.v (.int .i64))],[.row Zj true 123],[(.int .i64),(.int .i64),(.int .i64),(.sl (.st [])),(.sl Zj)],[⟨.exit 0,[],[.row Zj true 123],[(.sl (.st [])),(.sl Zj)]⟩],Zc (Yn fuel) fuel⟩
theorem Zio:Zen.Ok ya (Zo ya 183) (Zn ya 183 0):=Zl (fi:={ hi:={ still:=[26,31],rowt:=[0,37,39]},lp:=[(1,Zem)]}) (specs:={ l:=[]}) (okS trivial) ⟨Zin,trivial⟩ (by kernel_rfl) (fun v=>by kernel_rfl)
def Xk (F:Nat) (a1:Int) (a2:Int) (s0_0:(List Unit)) (s0_1:(List Zf)):Option (((List Unit)×(List Zf))):=
 (Zc (Yn F) F (a1,a2,wi (a1+1),s0_0,s0_1)).bind fun o595=>
 some (o595.1,o595.2)
def ZlN (F:Nat):Fs ya:=⟨183,[.rw 0,.v (.int .i64),.v (.int .i64),.fn 61 []],[.row Zj true 123],[(.int .i64),(.int .i64),(.sl (.st [])),(.sl Zj)],[⟨.ret,[(0,.tup [])],[.row Zj true 123],[(.sl (.st [])),(.sl Zj)]⟩],fun x=>Xk F x.1 x.2.1 x.2.2.1 x.2.2.2⟩
def Zan:Fs ya:=ZlN fuel
theorem Zeo:Zan.Ok:=Zh (fi:={ hi:={ still:=[26,31],rowt:=[0,37,39]},lp:=[(0,Zen)]}) (specs:={ l:=[]}) (okS trivial) ⟨Zio,trivial⟩ (by decide+kernel) (fun x=>by kernel_rfl)
def Yo (F:Nat) (s:(Int×Int×Int×Int×(List Unit)×(List Zf))):Option ((Int×Int×Int×Int×(List Unit)×(List Zf))⊕(Int×Int×Int×(List Unit)×(List Zf))):=
 if (decide (s.2.2.2.1≤s.1))=true then
  (Xk F s.2.2.1 s.2.2.2.1 s.2.2.2.2.1 s.2.2.2.2.2).bind fun o596=>
  if (decide (s.2.2.2.2.1.length=o596.1.length)&&(decide (40=40)&&decide ((yp s.2.2.2.2.2.length ()).length=o596.2.length)))=true then
   some (.inl (s.1,s.2.1,s.2.2.2.1,wi (s.2.2.2.1+s.2.1),o596.1,o596.2))
  else
  none
 else
 some (.inr (s.1,s.2.1,s.2.2.1,s.2.2.2.2.1,s.2.2.2.2.2))
def Zep:Lp:=⟨[(0,.rw 0),(1,.v (.int .i64)),(2,.fn 61 []),(6,.v (.int .i64)),(7,.v (.int .i64)),(8,.v (.int .i64))],[.row Zj true 123],[(.int .i64),(.int .i64),(.int .i64),(.int .i64),(.sl (.st [])),(.sl Zj)],[⟨.exit 0,[(0,.rw 0),(1,.v (.int .i64)),(2,.fn 61 []),(6,.v (.int .i64)),(7,.v (.int .i64))],[.row Zj true 123],[(.int .i64),(.int .i64),(.int .i64),(.sl (.st [])),(.sl Zj)]⟩],Zc (Yo fuel) fuel⟩
theorem Zip:Zep.Ok ya (Zo ya 122) (Zn ya 122 0):=Zl (fi:={ hi:={ still:=[15,16,17,24,25,26,37,40,41,42,56,57,58,59],rowt:=[0,14,23,36,55]},lp:=[],gh:=[(3,.freshS 0)]}) (specs:={ l:=[Zan]}) (okS ⟨Zeo,trivial⟩) trivial (by kernel_rfl) (fun v=>by kernel_rfl)
def ZcG (F:Nat) (s:(Int×Int×Int)):Option ((Int×Int×Int)⊕(Int×Int)):=
 if (decide (s.2.1 < s.2.2))=true then
  let y599:Int:=wi ((Zw (w64 (wi (s.2.1+s.2.2))) 1).toNat:Int)
  none
 else
 some (.inr (s.1,s.2.1))
def Zeq:Lp:=⟨[(1,.v (.int .i64)),(4,.fn 61 []),(10,.v (.int .i64)),(11,.v (.int .i64))],[],[(.int .i64),(.int .i64),(.int .i64)],[⟨.exit 0,[(1,.v (.int .i64)),(10,.v (.int .i64))],[],[(.int .i64),(.int .i64)]⟩],Zc (ZcG fuel) fuel⟩
theorem Ziq:Zeq.Ok ya (Zo ya 184) (Zn ya 184 0):=Zl (fi:={ hi:={ still:=[44,48,96,100,164,168,187,188,189,190,200,201,202,203,204,214,215,216,217,218],rowt:=[0,61,63,113,115,186]},lp:=[]}) (specs:={ l:=[]}) (okS trivial) trivial (by kernel_rfl) (fun v=>by kernel_rfl)
def ZcH (F:Nat) (s:(Int×Int)):Option ((Int×Int)⊕Unit):=
 if (decide (s.2 < (wi (s.1 - 1))))=true then
  none
 else
 some (.inr ())
def Zer:Lp:=⟨[(10,.v (.int .i64)),(13,.v (.int .i64))],[],[(.int .i64),(.int .i64)],[⟨.exit 2,[],[],[]⟩],Zc (ZcH fuel) fuel⟩
theorem Zir:Zer.Ok ya (Zo ya 184) (Zn ya 184 1):=Zl (fi:={ hi:={ still:=[44,48,96,100,164,168,187,188,189,190,200,201,202,203,204,214,215,216,217,218],rowt:=[0,61,63,113,115,186]},lp:=[]}) (specs:={ l:=[]}) (okS trivial) trivial (by kernel_rfl) (fun v=>by kernel_rfl)
def ZcI (F:Nat) (s:(Int×Int×Int)):Option ((Int×Int×Int)⊕(Int×Int)):=
 if (decide (s.2.1 < s.2.2))=true then
  let y602:Int:=wi ((Zw (w64 (wi (s.2.1+s.2.2))) 1).toNat:Int)
  none
 else
 some (.inr (s.1,s.2.1))
def Zes:Lp:=⟨[(2,.v (.int .i64)),(4,.fn 61 []),(14,.v (.int .i64)),(15,.v (.int .i64))],[],[(.int .i64),(.int .i64),(.int .i64)],[⟨.exit 4,[(2,.v (.int .i64)),(14,.v (.int .i64))],[],[(.int .i64),(.int .i64)]⟩],Zc (ZcI fuel) fuel⟩
theorem Zis:Zes.Ok ya (Zo ya 184) (Zn ya 184 2):=Zl (fi:={ hi:={ still:=[44,48,96,100,164,168,187,188,189,190,200,201,202,203,204,214,215,216,217,218],rowt:=[0,61,63,113,115,186]},lp:=[]}) (specs:={ l:=[]}) (okS trivial) trivial (by kernel_rfl) (fun v=>by kernel_rfl)
end
end Go.Proofs.YtjbbdlffilcaaaaGreat
end
section
set_option maxRecDepth 4000
namespace Go.Proofs.YtjbbdlffilcaaaaGreat
open Go Go.Ev
noncomputable section
def ZcJ (F:Nat) (s:(Int×Int)):Option ((Int×Int)⊕Unit):=
 if (decide (s.2 > s.1))=true then
  none
 else
 some (.inr ())
def Zet:Lp:=⟨[(14,.v (.int .i64)),(17,.v (.int .i64))],[],[(.int .i64),(.int .i64)],[⟨.exit 6,[],[],[]⟩],Zc (ZcJ fuel) fuel⟩
theorem Zit:Zet.Ok ya (Zo ya 184) (Zn ya 184 3):=Zl (fi:={ hi:={ still:=[44,48,96,100,164,168,187,188,189,190,200,201,202,203,204,214,215,216,217,218],rowt:=[0,61,63,113,115,186]},lp:=[]}) (specs:={ l:=[]}) (okS trivial) trivial (by kernel_rfl) (fun v=>by kernel_rfl)
def Qa (F:Nat) (s:(Int×Int×Int×Int×Int×Int×Int×Int)):Option ((Int×Int×Int×Int×Int×Int×Int×Int)⊕(Int×Int×Int×Int×Int×Int)):=
 if (decide (s.2.2.2.2.2.1 < s.2.2.2.2.2.2.1))=true then
  let y607:UInt64:=Zw (w64 (wi (s.2.2.2.2.2.1+s.2.2.2.2.2.2.1))) 1
  none
 else
 some (.inr (s.1,s.2.1,s.2.2.1,s.2.2.2.1,s.2.2.2.2.1,s.2.2.2.2.2.1))
def Zeu:Lp:=⟨[(1,.v (.int .i64)),(2,.v (.int .i64)),(3,.v (.int .i64)),(4,.fn 61 []),(18,.v (.int .i64)),(19,.v (.int .i64)),(20,.v (.int .i64)),(21,.v (.int .i64)),(22,.v (.int .i64))],[],[(.int .i64),(.int .i64),(.int .i64),(.int .i64),(.int .i64),(.int .i64),(.int .i64),(.int .i64)],[⟨.exit 8,[(1,.v (.int .i64)),(2,.v (.int .i64)),(3,.v (.int .i64)),(4,.fn 61 []),(18,.v (.int .i64)),(19,.v (.int .i64)),(20,.v (.int .i64))],[],[(.int .i64),(.int .i64),(.int .i64),(.int .i64),(.int .i64),(.int .i64)]⟩],Zc (Qa fuel) fuel⟩
theorem Ziu:Zeu.Ok ya (Zo ya 184) (Zn ya 184 4):=Zl (fi:={ hi:={ still:=[44,48,96,100,164,168,187,188,189,190,200,201,202,203,204,214,215,216,217,218],rowt:=[0,61,63,113,115,186]},lp:=[]}) (specs:={ l:=[]}) (okS trivial) trivial (by kernel_rfl) (fun v=>by kernel_rfl)
def ZcK (F:Nat) (s:(Int×Int×Int×Int)):Option ((Int×Int×Int×Int)⊕Unit):=
 if (decide (s.2.2.2 < s.2.2.1))=true then
  none
 else
 some (.inr ())
def Zev:Lp:=⟨[(1,.v (.int .i64)),(2,.v (.int .i64)),(3,.v (.int .i64)),(10,.v (.int .i64))],[],[(.int .i64),(.int .i64),(.int .i64),(.int .i64)],[⟨.exit 0,[],[],[]⟩],Zc (ZcK fuel) fuel⟩
theorem Ziv:Zev.Ok ya (Zo ya 224) (Zn ya 224 0):=Zl (fi:={ hi:={ rowt:=[0,16,20]},lp:=[]}) (specs:={ l:=[]}) (okS trivial) trivial (by kernel_rfl) (fun v=>by kernel_rfl)
def V2 (F:Nat) (a1:Int) (a2:Int) (a3:Int):Option (Unit):=
 (Zc (ZcK F) F (a1,a2,a3,(0:Int))).bind fun o610=>
 some ()
def ZlO (F:Nat):Fs ya:=⟨224,[.junk,.v (.int .i64),.v (.int .i64),.v (.int .i64),.fn 61 []],[],[(.int .i64),(.int .i64),(.int .i64)],[⟨.ret,[(0,.tup [])],[],[]⟩],fun x=>V2 F x.1 x.2.1 x.2.2⟩
def Zao:Fs ya:=ZlO fuel
theorem Zew:Zao.Ok:=Zh (fi:={ hi:={ rowt:=[0,16,20]},lp:=[(0,Zev)]}) (specs:={ l:=[]}) (okS trivial) ⟨Ziv,trivial⟩ (by decide+kernel) (fun x=>by kernel_rfl)
def ZcL (F:Nat) (s:(Int×Int×Int)):Option ((Int×Int×Int)⊕(Int×Int)):=
 if (s.2.1 !=s.2.2)=true then
  if (decide (s.2.1 > s.2.2))=true then
   (V2 F (wi (s.1 - s.2.1)) s.1 s.2.2).bind fun o611=>
   some (.inl (s.1,wi (s.2.1 - s.2.2),s.2.2))
  else
  (V2 F (wi (s.1 - s.2.1)) (wi ((wi (s.1+s.2.2)) - s.2.1)) s.2.1).bind fun o612=>
  some (.inl (s.1,s.2.1,wi (s.2.2 - s.2.1)))
 else
 some (.inr (s.1,s.2.1))
def Zex:Lp:=⟨[(2,.v (.int .i64)),(4,.fn 61 []),(10,.v (.int .i64)),(11,.v (.int .i64))],[],[(.int .i64),(.int .i64),(.int .i64)],[⟨.exit 0,[(2,.v (.int .i64)),(4,.fn 61 []),(10,.v (.int .i64))],[],[(.int .i64),(.int .i64)]⟩],Zc (ZcL fuel) fuel⟩
theorem Ziw:Zex.Ok ya (Zo ya 211) (Zn ya 211 0):=Zl (fi:={ hi:={ still:=[27,28,29,30,38,43,44,45,53,54,55,56],rowt:=[0,24,35,50]},lp:=[]}) (specs:={ l:=[Zao]}) (okS ⟨Zew,trivial⟩) trivial (by kernel_rfl) (fun v=>by kernel_rfl)
def Za8 (F:Nat) (a1:Int) (a2:Int) (a3:Int):Option (Unit):=
 (Zc (ZcL F) F (a2,wi (a2 - a1),wi (a3 - a2))).bind fun o613=>
 (V2 F (wi (o613.1 - o613.2)) o613.1 o613.2).bind fun o614=>
 some ()
def ZlP (F:Nat):Fs ya:=⟨211,[.junk,.v (.int .i64),.v (.int .i64),.v (.int .i64),.fn 61 []],[],[(.int .i64),(.int .i64),(.int .i64)],[⟨.ret,[(0,.tup [])],[],[]⟩],fun x=>Za8 F x.1 x.2.1 x.2.2⟩
def Zfm:Fs ya:=ZlP fuel
theorem ZlQ:Zfm.Ok:=Zh (fi:={ hi:={ still:=[27,28,29,30,38,43,44,45,53,54,55,56],rowt:=[0,24,35,50]},lp:=[(0,Zex)]}) (specs:={ l:=[Zao]}) (okS ⟨Zew,trivial⟩) ⟨Ziw,trivial⟩ (by decide+kernel) (fun x=>by kernel_rfl)
def Za9 (F:Nat) (a1:Int) (a2:Int) (a3:Int):Option (Unit):=
 if ((wi (a2 - a1))==1)=true then
  (Zc (ZcG F) F (a1,a2,a3)).bind fun o600=>
  (Zc (ZcH F) F (o600.2,o600.1)).bind fun o601=>
  some ()
 else
 if ((wi (a3 - a2))==1)=true then
  (Zc (ZcI F) F (a2,a1,a2)).bind fun o603=>
  (Zc (ZcJ F) F (o603.2,o603.1)).bind fun o604=>
  some ()
 else
 let y605:Int:=wi ((wi ((Zw (w64 (wi (a1+a3))) 1).toNat:Int))+a2)
 let y606:Bool:=decide (a2 > (wi ((Zw (w64 (wi (a1+a3))) 1).toNat:Int)))
 if y606=true then
  (Zc (Qa F) F (a1,a2,a3,wi ((Zw (w64 (wi (a1+a3))) 1).toNat:Int),y605,wi (y605 - a3),wi ((Zw (w64 (wi (a1+a3))) 1).toNat:Int),wi (y605 - 1))).bind fun o608=>
  if (decide (o608.2.2.2.2.2 < o608.2.1))=true then
   let y609:Bool:=decide (o608.2.1 < (wi (o608.2.2.2.2.1 - o608.2.2.2.2.2)))
   if y609=true then
    (Za8 F o608.2.2.2.2.2 o608.2.1 (wi (o608.2.2.2.2.1 - o608.2.2.2.2.2))).bind fun o615=>
    if (decide (o608.1 < o608.2.2.2.2.2))=true then
     if (decide (o608.2.2.2.2.2 < o608.2.2.2.1))=true then
      none
     else
     let y616:Bool:=decide (o608.2.2.2.1 < (wi (o608.2.2.2.2.1 - o608.2.2.2.2.2)))
     if y616=true then
      let y617:Bool:=decide ((wi (o608.2.2.2.2.1 - o608.2.2.2.2.2)) < o608.2.2.1)
      if y617=true then
       none
      else
      some ()
     else
     some ()
    else
    let y618:Bool:=decide (o608.2.2.2.1 < (wi (o608.2.2.2.2.1 - o608.2.2.2.2.2)))
    if y618=true then
     let y619:Bool:=decide ((wi (o608.2.2.2.2.1 - o608.2.2.2.2.2)) < o608.2.2.1)
     if y619=true then
      none
     else
     some ()
    else
    some ()
   else
   if (decide (o608.1 < o608.2.2.2.2.2))=true then
    if (decide (o608.2.2.2.2.2 < o608.2.2.2.1))=true then
     none
    else
    let y620:Bool:=decide (o608.2.2.2.1 < (wi (o608.2.2.2.2.1 - o608.2.2.2.2.2)))
    if y620=true then
     let y621:Bool:=decide ((wi (o608.2.2.2.2.1 - o608.2.2.2.2.2)) < o608.2.2.1)
     if y621=true then
      none
     else
     some ()
    else
    some ()
   else
   let y622:Bool:=decide (o608.2.2.2.1 < (wi (o608.2.2.2.2.1 - o608.2.2.2.2.2)))
   if y622=true then
    let y623:Bool:=decide ((wi (o608.2.2.2.2.1 - o608.2.2.2.2.2)) < o608.2.2.1)
    if y623=true then
     none
    else
    some ()
   else
   some ()
  else
  if (decide (o608.1 < o608.2.2.2.2.2))=true then
   if (decide (o608.2.2.2.2.2 < o608.2.2.2.1))=true then
    none
   else
   let y624:Bool:=decide (o608.2.2.2.1 < (wi (o608.2.2.2.2.1 - o608.2.2.2.2.2)))
   if y624=true then
    let y625:Bool:=decide ((wi (o608.2.2.2.2.1 - o608.2.2.2.2.2)) < o608.2.2.1)
    if y625=true then
     none
    else
    some ()
   else
   some ()
  else
  let y626:Bool:=decide (o608.2.2.2.1 < (wi (o608.2.2.2.2.1 - o608.2.2.2.2.2)))
  if y626=true then
   let y627:Bool:=decide ((wi (o608.2.2.2.2.1 - o608.2.2.2.2.2)) < o608.2.2.1)
   if y627=true then
    none
   else
   some ()
  else
  some ()
 else
 (Zc (Qa F) F (a1,a2,a3,wi ((Zw (w64 (wi (a1+a3))) 1).toNat:Int),y605,a1,a2,wi (y605 - 1))).bind fun o628=>
 if (decide (o628.2.2.2.2.2 < o628.2.1))=true then
  let y629:Bool:=decide (o628.2.1 < (wi (o628.2.2.2.2.1 - o628.2.2.2.2.2)))
  if y629=true then
   (Za8 F o628.2.2.2.2.2 o628.2.1 (wi (o628.2.2.2.2.1 - o628.2.2.2.2.2))).bind fun o630=>
   if (decide (o628.1 < o628.2.2.2.2.2))=true then
    if (decide (o628.2.2.2.2.2 < o628.2.2.2.1))=true then
     none
    else
    let y631:Bool:=decide (o628.2.2.2.1 < (wi (o628.2.2.2.2.1 - o628.2.2.2.2.2)))
    if y631=true then
     let y632:Bool:=decide ((wi (o628.2.2.2.2.1 - o628.2.2.2.2.2)) < o628.2.2.1)
     if y632=true then
      none
     else
     some ()
    else
    some ()
   else
   let y633:Bool:=decide (o628.2.2.2.1 < (wi (o628.2.2.2.2.1 - o628.2.2.2.2.2)))
   if y633=true then
    let y634:Bool:=decide ((wi (o628.2.2.2.2.1 - o628.2.2.2.2.2)) < o628.2.2.1)
    if y634=true then
     none
    else
    some ()
   else
   some ()
  else
  if (decide (o628.1 < o628.2.2.2.2.2))=true then
   if (decide (o628.2.2.2.2.2 < o628.2.2.2.1))=true then
    none
   else
   let y635:Bool:=decide (o628.2.2.2.1 < (wi (o628.2.2.2.2.1 - o628.2.2.2.2.2)))
   if y635=true then
    let y636:Bool:=decide ((wi (o628.2.2.2.2.1 - o628.2.2.2.2.2)) < o628.2.2.1)
    if y636=true then
     none
    else
    some ()
   else
   some ()
  else
  let y637:Bool:=decide (o628.2.2.2.1 < (wi (o628.2.2.2.2.1 - o628.2.2.2.2.2)))
  if y637=true then
   let y638:Bool:=decide ((wi (o628.2.2.2.2.1 - o628.2.2.2.2.2)) < o628.2.2.1)
   if y638=true then
    none
   else
   some ()
  else
  some ()
 else
 if (decide (o628.1 < o628.2.2.2.2.2))=true then
  if (decide (o628.2.2.2.2.2 < o628.2.2.2.1))=true then
   none
  else
  let y639:Bool:=decide (o628.2.2.2.1 < (wi (o628.2.2.2.2.1 - o628.2.2.2.2.2)))
  if y639=true then
   let y640:Bool:=decide ((wi (o628.2.2.2.2.1 - o628.2.2.2.2.2)) < o628.2.2.1)
   if y640=true then
    none
   else
   some ()
  else
  some ()
 else
 let y641:Bool:=decide (o628.2.2.2.1 < (wi (o628.2.2.2.2.1 - o628.2.2.2.2.2)))
 if y641=true then
  let y642:Bool:=decide ((wi (o628.2.2.2.2.1 - o628.2.2.2.2.2)) < o628.2.2.1)
  if y642=true then
   none
  else
  some ()
 else
 some ()
def ZlR (F:Nat):Fs ya:=⟨184,[.junk,.v (.int .i64),.v (.int .i64),.v (.int .i64),.fn 61 []],[],[(.int .i64),(.int .i64),(.int .i64)],[⟨.ret,[(0,.tup [])],[],[]⟩],fun x=>Za9 F x.1 x.2.1 x.2.2⟩
def Zap:Fs ya:=ZlR fuel
theorem Zey:Zap.Ok:=Zh (fi:={ hi:={ still:=[44,48,96,100,164,168,187,188,189,190,200,201,202,203,204,214,215,216,217,218],rowt:=[0,61,63,113,115,186]},lp:=[(0,Zeq),(1,Zer),(2,Zes),(3,Zet),(4,Zeu)]}) (specs:={ l:=[Zfm]}) (okS ⟨ZlQ,trivial⟩) ⟨Ziq,Zir,Zis,Zit,Ziu,trivial⟩ (by decide+kernel) (fun x=>by kernel_rfl)
def ZcM (F:Nat) (s:(Int×Int×Int×Int×(List Unit)×(List Zf))):Option ((Int×Int×Int×Int×(List Unit)×(List Zf))⊕(Int×Int×Int×(List Unit)×(List Zf))):=
 if (decide (s.2.2.2.1≤s.1))=true then
  (Za9 F s.2.2.1 (wi (s.2.2.1+s.2.1)) s.2.2.2.1).bind fun o643=>
  some (.inl (s.1,s.2.1,s.2.2.2.1,wi (s.2.2.2.1+(wi (2*s.2.1))),s.2.2.2.2.1,s.2.2.2.2.2))
 else
 some (.inr (s.1,s.2.1,s.2.2.1,s.2.2.2.2.1,s.2.2.2.2.2))
def Zez:Lp:=⟨[(1,.v (.int .i64)),(2,.fn 61 []),(6,.v (.int .i64)),(7,.v (.int .i64)),(8,.v (.int .i64))],[.row Zj true 123],[(.int .i64),(.int .i64),(.int .i64),(.int .i64),(.sl (.st [])),(.sl Zj)],[⟨.exit 4,[(1,.v (.int .i64)),(2,.fn 61 []),(6,.v (.int .i64)),(7,.v (.int .i64))],[.row Zj true 123],[(.int .i64),(.int .i64),(.int .i64),(.sl (.st [])),(.sl Zj)]⟩],Zc (ZcM fuel) fuel⟩
theorem Zix:Zez.Ok ya (Zo ya 122) (Zn ya 122 2):=Zl (fi:={ hi:={ still:=[15,16,17,24,25,26,37,40,41,42,56,57,58,59],rowt:=[0,14,23,36,55]},lp:=[]}) (specs:={ l:=[Zap]}) (okS ⟨Zey,trivial⟩) trivial (by kernel_rfl) (fun v=>by kernel_rfl)
def Wx (F:Nat) (s:(Int×Int×(List Unit)×(List Zf))):Option ((Int×Int×(List Unit)×(List Zf))⊕((List Unit)×(List Zf))):=
 if (decide (s.2.1 < s.1))=true then
  (Zc (ZcM F) F (s.1,s.2.1,(0:Int),wi (2*s.2.1),s.2.2.1,s.2.2.2)).bind fun o644=>
  if (decide ((wi (o644.2.2.1+o644.2.1)) < o644.1))=true then
   (Za9 F o644.2.2.1 (wi (o644.2.2.1+o644.2.1)) o644.1).bind fun o645=>
   some (.inl (o644.1,wi (o644.2.1*2),o644.2.2.2.1,o644.2.2.2.2))
  else
  some (.inl (o644.1,wi (o644.2.1*2),o644.2.2.2.1,o644.2.2.2.2))
 else
 some (.inr (s.2.2.1,s.2.2.2))
def ZeA:Lp:=⟨[(0,.junk),(1,.v (.int .i64)),(2,.fn 61 []),(6,.v (.int .i64))],[.row Zj true 123],[(.int .i64),(.int .i64),(.sl (.st [])),(.sl Zj)],[⟨.exit 2,[],[.row Zj true 123],[(.sl (.st [])),(.sl Zj)]⟩],Zc (Wx fuel) fuel⟩
theorem Ziy:ZeA.Ok ya (Zo ya 122) (Zn ya 122 1):=Zl (fi:={ hi:={ still:=[15,16,17,24,25,26,37,40,41,42,56,57,58,59],rowt:=[0,14,23,36,55]},lp:=[(2,Zez)]}) (specs:={ l:=[Zap]}) (okS ⟨Zey,trivial⟩) ⟨Zix,trivial⟩ (by kernel_rfl) (fun v=>by kernel_rfl)
def Zba (F:Nat) (a1:Int) (s0_0:(List Unit)) (s0_1:(List Zf)):Option (((List Unit)×(List Zf))):=
 (Zc (Yo F) F (a1,(20:Int),(0:Int),(20:Int),s0_0,s0_1)).bind fun o597=>
 (Xk F o597.2.2.1 o597.1 o597.2.2.2.1 o597.2.2.2.2).bind fun o598=>
 (Zc (Wx F) F (o597.1,o597.2.1,o598.1,o598.2)).bind fun o646=>
 some (o646.1,o646.2)
def ZlS (F:Nat):Fs ya:=⟨122,[.rw 0,.v (.int .i64),.fn 61 []],[.row Zj true 123],[(.int .i64),(.sl (.st [])),(.sl Zj)],[⟨.ret,[(0,.tup [])],[.row Zj true 123],[(.sl (.st [])),(.sl Zj)]⟩],fun x=>Zba F x.1 x.2.1 x.2.2⟩
def Zfn:Fs ya:=ZlS fuel
theorem ZlT:Zfn.Ok:=Zh (fi:={ hi:={ still:=[15,16,17,24,25,26,37,40,41,42,56,57,58,59],rowt:=[0,14,23,36,55]},lp:=[(0,Zep),(1,ZeA)]}) (specs:={ l:=[Zan]}) (okS ⟨Zeo,trivial⟩) ⟨Zip,Ziy,trivial⟩ (by decide+kernel) (fun x=>by kernel_rfl)
def Wl (F:Nat) (s0_0:(List Unit)) (s0_1:(List Zf)):Option (((List Unit)×(List Zf))):=
 (Zba F (s0_1.length:Int) s0_0 s0_1).bind fun o647=>
 some (o647.1,o647.2)
def Zr9 (F:Nat):Fs ya:=⟨60,[.rw 0,.fn 61 []],[.row Zj true 123],[(.sl (.st [])),(.sl Zj)],[⟨.ret,[(0,.tup [])],[.row Zj true 123],[(.sl (.st [])),(.sl Zj)]⟩],fun x=>Wl F x.1 x.2⟩
def Zk8:Fs ya:=Zr9 fuel
theorem Zsa:Zk8.Ok:=Zh (fi:={ hi:={ still:=[6,7],rowt:=[0,4]},lp:=[]}) (specs:={ l:=[Zfn]}) (okS ⟨ZlT,trivial⟩) trivial (by decide+kernel) (fun x=>by kernel_rfl)
def YA (F:Nat) (s:(Int×Int×UInt64×UInt64×UInt64×(List ZB)×Int×Int×ZO×State×WD×(List Unit)×(List Zf))):Option ((Int×Int×UInt64×UInt64×UInt64×(List ZB)×Int×Int×ZO×State×WD×(List Unit)×(List Zf))⊕(Int×ZO×State×WD×(List Unit)×(List Zf))):=
 if (decide (s.2.2.2.2.2.2.2.1 < s.2.2.2.2.2.2.1))=true then
  (idx s.2.2.2.2.2.1 s.2.2.2.2.2.2.2.1).bind fun e682=>
  if (e682.1==s.1)=true then
   (ZL F e682.2.2.1 ([([s.2.2.1],0,0,0),([s.2.2.2.2.1],0,0,e682.2.2.2.1),([s.2.2.2.1],e682.2.2.2.2,s.2.1,0)]:XV) ((5:Int),e682) s.2.2.2.2.2.2.2.2.2.2.2.1 s.2.2.2.2.2.2.2.2.2.2.2.2).bind fun o683=>
   some (.inl (s.1,s.2.1,s.2.2.1,s.2.2.2.1,s.2.2.2.2.1,s.2.2.2.2.2.1,s.2.2.2.2.2.2.1,wi (s.2.2.2.2.2.2.2.1+1),s.2.2.2.2.2.2.2.2.1,s.2.2.2.2.2.2.2.2.2.1,s.2.2.2.2.2.2.2.2.2.2.1,o683.1,o683.2))
  else
  (ZL F e682.2.2.1 ([([s.2.2.1],0,0,0),([s.2.2.2.1],0,s.2.1,e682.2.2.2.1),([s.2.2.2.2.1],e682.2.2.2.2,0,0)]:XV) ((6:Int),e682) s.2.2.2.2.2.2.2.2.2.2.2.1 s.2.2.2.2.2.2.2.2.2.2.2.2).bind fun o684=>
  some (.inl (s.1,s.2.1,s.2.2.1,s.2.2.2.1,s.2.2.2.2.1,s.2.2.2.2.2.1,s.2.2.2.2.2.2.1,wi (s.2.2.2.2.2.2.2.1+1),s.2.2.2.2.2.2.2.2.1,s.2.2.2.2.2.2.2.2.2.1,s.2.2.2.2.2.2.2.2.2.2.1,o684.1,o684.2))
 else
 some (.inr (s.1,s.2.2.2.2.2.2.2.2.1,s.2.2.2.2.2.2.2.2.2.1,s.2.2.2.2.2.2.2.2.2.2.1,s.2.2.2.2.2.2.2.2.2.2.2.1,s.2.2.2.2.2.2.2.2.2.2.2.2))
def ZjB:Lp:=⟨[(2,.v (.int .i64)),(4,.ref 0 []),(5,.ref 1 []),(8,.ref 2 []),(11,.v (.int .i64)),(12,.v .u64),(13,.v .u64),(14,.v .u64),(15,.ref 3 []),(16,.fn 53 [.ref 3 []]),(139,.v (.sl Z7)),(140,.v (.int .i64)),(141,.v (.int .i64))],[.var (.v Zr) true,.var (.v Ze) true,.var (.v Yp) true,.var (.rw 4) true,.row Zj true 123],[(.int .i64),(.int .i64),.u64,.u64,.u64,(.sl Z7),(.int .i64),(.int .i64),Zr,Ze,Yp,(.sl (.st [])),(.sl Zj)],[⟨.exit 1,[(2,.v (.int .i64)),(4,.ref 0 []),(5,.ref 1 []),(8,.ref 2 []),(15,.ref 3 [])],[.var (.v Zr) true,.var (.v Ze) true,.var (.v Yp) true,.var (.rw 4) true,.row Zj true 123],[(.int .i64),Zr,Ze,Yp,(.sl (.st [])),(.sl Zj)]⟩],Zc (YA fuel) fuel⟩
theorem Zm4:ZjB.Ok ya (Zo ya 12) (Zn ya 12 0):=Zl (fi:={ hi:={ own:=[208,212,216,220],still:=[9,28,32,38,39,54,55,61,62,68,69,72,73,74,75,80,81,84,89,90,91,92,93,94,95,97,98,99,100,105,106,109,114,115,116,123,124,125,132,133,134,136,137,138,176,183,184],rowt:=[187]},lp:=[]}) (specs:={ l:=[Zco]}) (okS ⟨Zgz,trivial⟩) trivial (by kernel_rfl) (fun v=>by kernel_rfl)
def Y9 (F:Nat) (s:(Int×Int×ZO×State×WD×(List Unit)×(List Zf)×(List In)×Int×(List Role)×(List Out))):Option ((Int×Int×ZO×State×WD×(List Unit)×(List Zf)×(List In)×Int×(List Role)×(List Out))⊕(ZO×State×WD×(List Unit)×(List Zf)×(List In)×Int×(List Role)×(List Out))):=
 if (decide (s.2.1 < s.1))=true then
  if (inB s.2.1 s.2.2.2.2.2.2.1.length)=true then
   (s.2.2.2.2.2.2.1[s.2.1.toNat]?).bind fun e687=>
   if (apB s.2.2.2.2.2.2.2.2.2.2.length 1 32)=true then
    if (apB s.2.2.2.2.2.2.2.2.2.1.length 1 48)=true then
     let y688:(List Role):=s.2.2.2.2.2.2.2.2.2.1++([e687.2.1]:List Role)
     some (.inl (s.1,wi (s.2.1+1),s.2.2.1,s.2.2.2.1,s.2.2.2.2.1,s.2.2.2.2.2.1,s.2.2.2.2.2.2.1,s.2.2.2.2.2.2.2.1,s.2.2.2.2.2.2.2.2.1,y688,s.2.2.2.2.2.2.2.2.2.2++([e687.1]:List Out)))
    else
    none
   else
   none
  else
  none
 else
 some (.inr (s.2.2.1,s.2.2.2.1,s.2.2.2.2.1,s.2.2.2.2.2.1,s.2.2.2.2.2.2.1,s.2.2.2.2.2.2.2.1,s.2.2.2.2.2.2.2.2.1,s.2.2.2.2.2.2.2.2.2.1,s.2.2.2.2.2.2.2.2.2.2))
def ZjC:Lp:=⟨[(8,.ref 2 []),(24,.ref 5 []),(200,.rw 4),(201,.v (.int .i64)),(202,.v (.int .i64))],[.var (.v Zr) true,.var (.v Ze) true,.var (.v Yp) true,.var (.rw 4) true,.row Zj true 123,.var (.agg [.agg [.v (.sl yIn),.own 7 W1,.v (.int .i64)],.own 6 ZhT]) true,.log ZhT 74,.log W1 70],[(.int .i64),(.int .i64),Zr,Ze,Yp,(.sl (.st [])),(.sl Zj),(.sl yIn),(.int .i64),(.sl ZhT),(.sl W1)],[⟨.exit 3,[(8,.ref 2 []),(24,.ref 5 [])],[.var (.v Zr) true,.var (.v Ze) true,.var (.v Yp) true,.var (.rw 4) true,.row Zj true 123,.var (.agg [.agg [.v (.sl yIn),.own 7 W1,.v (.int .i64)],.own 6 ZhT]) true,.log ZhT 74,.log W1 70],[Zr,Ze,Yp,(.sl (.st [])),(.sl Zj),(.sl yIn),(.int .i64),(.sl ZhT),(.sl W1)]⟩],Zc (Y9 fuel) fuel⟩
theorem Zm5:ZjC.Ok ya (Zo ya 12) (Zn ya 12 1):=Zl (fi:={ hi:={ own:=[208,212,216,220],still:=[9,28,32,38,39,54,55,61,62,68,69,72,73,74,75,80,81,84,89,90,91,92,93,94,95,97,98,99,100,105,106,109,114,115,116,123,124,125,132,133,134,136,137,138,176,183,184],rowt:=[187],gst:=[(24,[([1],ZhT,74),([0,1],W1,70)])]},lp:=[]}) (specs:={ l:=[]}) (okS trivial) trivial (by kernel_rfl) (fun v=>by kernel_rfl)
def commit_MakeM (F:Nat) (a0:ZO) (a1:State) (a2:Int) (a3:UInt64):Option ((WD×Int)):=
 (Wi F a2).bind fun o652=>
 if (!o652)=true then
  some (((([]:List In),([]:List Out),(0:Int)),([]:List Role)),(1:Int))
 else
 (YZ F a3).bind fun o653=>
 if (!o653)=true then
  some (((([]:List In),([]:List Out),(0:Int)),([]:List Role)),(1:Int))
 else
 (Wh F a0 a1).bind fun o654=>
 if (!o654)=true then
  some (((([]:List In),([]:List Out),(0:Int)),([]:List Role)),(14:Int))
 else
 if (inB (wi (1 - a2)) 2)=true then
  (a0.2.2.2.1[(wi (1 - a2)).toNat]?).bind fun e655=>
  if (inB (wi (1 - a2)) 2)=true then
   (a0.2.2.1[(wi (1 - a2)).toNat]?).bind fun e656=>
   (Zdc F e656.2.2.2.2 a3).bind fun o657=>
   if (inB a2 2)=true then
    (a0.2.2.1[a2.toNat]?).bind fun e658=>
    (Zds F e658.2.2.2.1 a3).bind fun o659=>
    if (inB (wi (1 - a2)) 2)=true then
     (a0.2.2.1[(wi (1 - a2)).toNat]?).bind fun e660=>
     (Zds F e660.2.2.2.1 a3).bind fun o661=>
     (W0 F a0 a1 a2 a2).bind fun o662=>
     if (inB a2 2)=true then
      (a0.2.2.2.1[a2.toNat]?).bind fun e663=>
      (Yi F e663 o662).bind fun o664=>
      if o664=true then
       if (inB a2 2)=true then
        (a0.2.2.1[a2.toNat]?).bind fun e665=>
        (Zds F e665.2.2.1 a3).bind fun o666=>
        (ZlI F o666 o657 e655.2.2.1).bind fun o667=>
        (ZL F o662 o667 ((1:Int),((0:Int),(0:Int),(0:Int),(0:UInt64),(0:Int))) ([]:List Unit) ([]:List Zf)).bind fun o668=>
        (W0 F a0 a1 a2 (wi (1 - a2))).bind fun o669=>
        if (inB a2 2)=true then
         (a0.2.2.2.1[a2.toNat]?).bind fun e670=>
         (Yi F e670 o669).bind fun o671=>
         if o671=true then
          if (inB (wi (1 - a2)) 2)=true then
           (a0.2.2.1[(wi (1 - a2)).toNat]?).bind fun e672=>
           (Zdt F e672.2.1).bind fun o673=>
           (ZL F o669 o673 ((2:Int),((0:Int),(0:Int),(0:Int),(0:UInt64),(0:Int))) o668.1 o668.2).bind fun o674=>
           if (inB a2 2)=true then
            (a0.2.2.1[a2.toNat]?).bind fun e675=>
            (Y4 F e675.1).bind fun o676=>
            (ZL F (330:Int) o676 ((3:Int),((0:Int),(0:Int),(0:Int),(0:UInt64),(0:Int))) o674.1 o674.2).bind fun o677=>
            if (inB (wi (1 - a2)) 2)=true then
             (a0.2.2.1[(wi (1 - a2)).toNat]?).bind fun e678=>
             (Y4 F e678.1).bind fun o679=>
             (ZL F (330:Int) o679 ((4:Int),((0:Int),(0:Int),(0:Int),(0:UInt64),(0:Int))) o677.1 o677.2).bind fun o680=>
             (XI F a0 a1 a2).bind fun o681=>
             (Zc (YA F) F (a2,e655.2.2.1,o657,o659,o661,o681,(o681.length:Int),(0:Int),a0,a1,((([]:List In),([]:List Out),(0:Int)),([]:List Role)),o680.1,o680.2)).bind fun o685=>
             (Wl F o685.2.2.2.2.1 o685.2.2.2.2.2).bind fun o686=>
             if (decide (o685.2.2.2.2.1.length=o686.1.length)&&(decide (40=40)&&decide ((yp o685.2.2.2.2.2.length ()).length=o686.2.length)))=true then
              (Zc (Y9 F) F ((o686.2.length:Int),(0:Int),o685.2.1,o685.2.2.1,o685.2.2.2.1,o686.1,o686.2,([(o685.2.1.1,(0,[],0))]:List In),wi ((wi (2*o685.2.2.1.1))+o685.1),([]:List Role),([]:List Out))).bind fun o689=>
              some (((o689.2.2.2.2.2.1,o689.2.2.2.2.2.2.2.2,o689.2.2.2.2.2.2.1),o689.2.2.2.2.2.2.2.1),(0:Int))
             else
             none
            else
            none
           else
           none
          else
          none
         else
         if (inB a2 2)=true then
          (a0.2.2.1[a2.toNat]?).bind fun e690=>
          (Y4 F e690.1).bind fun o691=>
          (ZL F (330:Int) o691 ((3:Int),((0:Int),(0:Int),(0:Int),(0:UInt64),(0:Int))) o668.1 o668.2).bind fun o692=>
          if (inB (wi (1 - a2)) 2)=true then
           (a0.2.2.1[(wi (1 - a2)).toNat]?).bind fun e693=>
           (Y4 F e693.1).bind fun o694=>
           (ZL F (330:Int) o694 ((4:Int),((0:Int),(0:Int),(0:Int),(0:UInt64),(0:Int))) o692.1 o692.2).bind fun o695=>
           (XI F a0 a1 a2).bind fun o696=>
           (Zc (YA F) F (a2,e655.2.2.1,o657,o659,o661,o696,(o696.length:Int),(0:Int),a0,a1,((([]:List In),([]:List Out),(0:Int)),([]:List Role)),o695.1,o695.2)).bind fun o697=>
           (Wl F o697.2.2.2.2.1 o697.2.2.2.2.2).bind fun o698=>
           if (decide (o697.2.2.2.2.1.length=o698.1.length)&&(decide (40=40)&&decide ((yp o697.2.2.2.2.2.length ()).length=o698.2.length)))=true then
            (Zc (Y9 F) F ((o698.2.length:Int),(0:Int),o697.2.1,o697.2.2.1,o697.2.2.2.1,o698.1,o698.2,([(o697.2.1.1,(0,[],0))]:List In),wi ((wi (2*o697.2.2.1.1))+o697.1),([]:List Role),([]:List Out))).bind fun o699=>
            some (((o699.2.2.2.2.2.1,o699.2.2.2.2.2.2.2.2,o699.2.2.2.2.2.2.1),o699.2.2.2.2.2.2.2.1),(0:Int))
           else
           none
          else
          none
         else
         none
        else
        none
       else
       none
      else
      (W0 F a0 a1 a2 (wi (1 - a2))).bind fun o700=>
      if (inB a2 2)=true then
       (a0.2.2.2.1[a2.toNat]?).bind fun e701=>
       (Yi F e701 o700).bind fun o702=>
       if o702=true then
        if (inB (wi (1 - a2)) 2)=true then
         (a0.2.2.1[(wi (1 - a2)).toNat]?).bind fun e703=>
         (Zdt F e703.2.1).bind fun o704=>
         (ZL F o700 o704 ((2:Int),((0:Int),(0:Int),(0:Int),(0:UInt64),(0:Int))) ([]:List Unit) ([]:List Zf)).bind fun o705=>
         if (inB a2 2)=true then
          (a0.2.2.1[a2.toNat]?).bind fun e706=>
          (Y4 F e706.1).bind fun o707=>
          (ZL F (330:Int) o707 ((3:Int),((0:Int),(0:Int),(0:Int),(0:UInt64),(0:Int))) o705.1 o705.2).bind fun o708=>
          if (inB (wi (1 - a2)) 2)=true then
           (a0.2.2.1[(wi (1 - a2)).toNat]?).bind fun e709=>
           (Y4 F e709.1).bind fun o710=>
           (ZL F (330:Int) o710 ((4:Int),((0:Int),(0:Int),(0:Int),(0:UInt64),(0:Int))) o708.1 o708.2).bind fun o711=>
           (XI F a0 a1 a2).bind fun o712=>
           (Zc (YA F) F (a2,e655.2.2.1,o657,o659,o661,o712,(o712.length:Int),(0:Int),a0,a1,((([]:List In),([]:List Out),(0:Int)),([]:List Role)),o711.1,o711.2)).bind fun o713=>
           (Wl F o713.2.2.2.2.1 o713.2.2.2.2.2).bind fun o714=>
           if (decide (o713.2.2.2.2.1.length=o714.1.length)&&(decide (40=40)&&decide ((yp o713.2.2.2.2.2.length ()).length=o714.2.length)))=true then
            (Zc (Y9 F) F ((o714.2.length:Int),(0:Int),o713.2.1,o713.2.2.1,o713.2.2.2.1,o714.1,o714.2,([(o713.2.1.1,(0,[],0))]:List In),wi ((wi (2*o713.2.2.1.1))+o713.1),([]:List Role),([]:List Out))).bind fun o715=>
            some (((o715.2.2.2.2.2.1,o715.2.2.2.2.2.2.2.2,o715.2.2.2.2.2.2.1),o715.2.2.2.2.2.2.2.1),(0:Int))
           else
           none
          else
          none
         else
         none
        else
        none
       else
       if (inB a2 2)=true then
        (a0.2.2.1[a2.toNat]?).bind fun e716=>
        (Y4 F e716.1).bind fun o717=>
        (ZL F (330:Int) o717 ((3:Int),((0:Int),(0:Int),(0:Int),(0:UInt64),(0:Int))) ([]:List Unit) ([]:List Zf)).bind fun o718=>
        if (inB (wi (1 - a2)) 2)=true then
         (a0.2.2.1[(wi (1 - a2)).toNat]?).bind fun e719=>
         (Y4 F e719.1).bind fun o720=>
         (ZL F (330:Int) o720 ((4:Int),((0:Int),(0:Int),(0:Int),(0:UInt64),(0:Int))) o718.1 o718.2).bind fun o721=>
         (XI F a0 a1 a2).bind fun o722=>
         (Zc (YA F) F (a2,e655.2.2.1,o657,o659,o661,o722,(o722.length:Int),(0:Int),a0,a1,((([]:List In),([]:List Out),(0:Int)),([]:List Role)),o721.1,o721.2)).bind fun o723=>
         (Wl F o723.2.2.2.2.1 o723.2.2.2.2.2).bind fun o724=>
         if (decide (o723.2.2.2.2.1.length=o724.1.length)&&(decide (40=40)&&decide ((yp o723.2.2.2.2.2.length ()).length=o724.2.length)))=true then
          (Zc (Y9 F) F ((o724.2.length:Int),(0:Int),o723.2.1,o723.2.2.1,o723.2.2.2.1,o724.1,o724.2,([(o723.2.1.1,(0,[],0))]:List In),wi ((wi (2*o723.2.2.1.1))+o723.1),([]:List Role),([]:List Out))).bind fun o725=>
          some (((o725.2.2.2.2.2.1,o725.2.2.2.2.2.2.2.2,o725.2.2.2.2.2.2.1),o725.2.2.2.2.2.2.2.1),(0:Int))
         else
         none
        else
        none
       else
       none
      else
      none
     else
     none
    else
    none
   else
   none
  else
  none
 else
 none
def ZeB (F:Nat):Fs ya:=⟨12,[.v Zr,.v Ze,.v (.int .i64),.v .u64],[],[Zr,Ze,(.int .i64),.u64],[⟨.ret,[(0,.tup [.v Yp,.v (.int .i64)])],[],[Yp,(.int .i64)]⟩],fun x=>commit_MakeM F x.1 x.2.1 x.2.2.1 x.2.2.2⟩
def ZfP:Fs ya:=ZeB fuel
theorem ZeC:ZfP.Ok:=Zh (fi:={ hi:={ own:=[208,212,216,220],still:=[9,28,32,38,39,54,55,61,62,68,69,72,73,74,75,80,81,84,89,90,91,92,93,94,95,97,98,99,100,105,106,109,114,115,116,123,124,125,132,133,134,136,137,138,176,183,184],rowt:=[187],gst:=[(24,[([1],ZhT,74),([0,1],W1,70)])]},lp:=[(0,ZjB),(1,ZjC)],gh:=[(11,.rowt 15 [] Zj 123),(31,.freshV 15)]}) (specs:={ l:=[ZfJ,Wo,Zbr,Zk1,ZrZ,ZfM,W9,ZoV,Zco,Zr1,Zk2,Zeg,Zk8]}) (okS ⟨Zjo,WA,Zec,ZrY,Zym,Zjx,VJ,Zwg,Zgz,Zyp,Zr3,ZhR,Zsa,trivial⟩) ⟨Zm4,Zm5,trivial⟩ (by decide+kernel) (fun x=>by kernel_rfl)
def Zfo (F:Nat) (a0:(List UInt8)):Option (UInt64):=
 (WH F a0).bind fun o726=>
 (XH F o726).bind fun o727=>
 some o727
def ZfQ (F:Nat):Fs ya:=⟨13,[.v (.arr 32 .u8)],[],[(.arr 32 .u8)],[⟨.ret,[(0,.v .u64)],[],[.u64]⟩],fun x=>Zfo F x⟩
def Zm6:Fs ya:=ZfQ fuel
theorem Zk9:Zm6.Ok:=Zh (fi:={ hi:={ still:=[2,3,4]},lp:=[]}) (specs:={ l:=[Zac,WW]}) (okS ⟨Zbs,W8,trivial⟩) trivial (by decide+kernel) (fun x=>by kernel_rfl)
def Zdf (F:Nat) (a0:ZO) (a1:State) (a2:Int) (a3:Int):Option (Int):=
 (Wi F a2).bind fun o728=>
 if (!o728)=true then
  some (0:Int)
 else
 (Wi F a3).bind fun o729=>
 if (!o729)=true then
  some (0:Int)
 else
 (Wh F a0 a1).bind fun o730=>
 if (!o730)=true then
  some (0:Int)
 else
 (W0 F a0 a1 a2 a3).bind fun o731=>
 some o731
def ZeD (F:Nat):Fs ya:=⟨17,[.v Zr,.v Ze,.v (.int .i64),.v (.int .i64)],[],[Zr,Ze,(.int .i64),(.int .i64)],[⟨.ret,[(0,.v (.int .i64))],[],[(.int .i64)]⟩],fun x=>Zdf F x.1 x.2.1 x.2.2.1 x.2.2.2⟩
def Zla:Fs ya:=ZeD fuel
theorem ZjD:Zla.Ok:=Zh (fi:={ hi:={ still:=[8,9,13,18,19,23,24,25,26]},lp:=[]}) (specs:={ l:=[ZfJ,Zbr,ZfM]}) (okS ⟨Zjo,Zec,Zjx,trivial⟩) trivial (by decide+kernel) (fun x=>by kernel_rfl)
def Zb9 (F:Nat) (a0:Zdd):Option (Bool):=
 if (decide (a0.1 ≥ 0))=true then
  if (decide (a0.1 < 4))=true then
   some (decide ((a0.2.1.length:Int)≤12))
  else
  some false
 else
 some false
def Zts (F:Nat):Fs ya:=⟨73,[.v VN],[],[VN],[⟨.ret,[(0,.v .bool)],[],[.bool]⟩],fun x=>Zb9 F x⟩
def Zm7:Fs ya:=Zts fuel
theorem Ztt:Zm7.Ok:=Zh (fi:={ hi:={ still:=[2]},lp:=[]}) (specs:={ l:=[]}) (okS trivial) trivial (by decide+kernel) (fun x=>by kernel_rfl)
def Zaq (F:Nat) (s:((List In)×Int×Int×Tx×(List (XQ×Bool)))):Option (((List In)×Int×Int×Tx×(List (XQ×Bool)))⊕((Bool×Tx×(List (XQ×Bool)))⊕(Tx×(List (XQ×Bool))))):=
 if (decide (s.2.2.1 < s.2.1))=true then
  (idx s.1 s.2.2.1).bind fun e732=>
  ZAM (ZuY s.2.2.2.2 e732.1) (fun e733=>
   if e733=true then
    some (.inr (.inl (false,s.2.2.2.1,s.2.2.2.2)))
   else
   if (decide (e732.1.2 < 0))=true then
    some (.inr (.inl (false,s.2.2.2.1,s.2.2.2.2)))
   else
   if (decide (e732.1.2 ≥ 64))=true then
    some (.inr (.inl (false,s.2.2.2.1,s.2.2.2.2)))
   else
   (Zb9 F e732.2).bind fun o734=>
   if (!o734)=true then
    some (.inr (.inl (false,s.2.2.2.1,s.2.2.2.2)))
   else
   some (.inl (s.1,s.2.1,wi (s.2.2.1+1),s.2.2.2.1,Zxb s.2.2.2.2 e732.1 true))) (
   if (decide (e732.1.2 < 0))=true then
    some (.inr (.inl (false,s.2.2.2.1,s.2.2.2.2)))
   else
   if (decide (e732.1.2 ≥ 64))=true then
    some (.inr (.inl (false,s.2.2.2.1,s.2.2.2.2)))
   else
   (Zb9 F e732.2).bind fun o735=>
   if (!o735)=true then
    some (.inr (.inl (false,s.2.2.2.1,s.2.2.2.2)))
   else
   some (.inl (s.1,s.2.1,wi (s.2.2.1+1),s.2.2.2.1,Zxb s.2.2.2.2 e732.1 true)))
 else
 some (.inr (.inr (s.2.2.2.1,s.2.2.2.2)))
def ZoZ:Lp:=⟨[(1,.ref 0 []),(3,.mp 1),(33,.v (.sl yIn)),(34,.v (.int .i64)),(35,.v (.int .i64))],[.var (.v yTx) true,.map 144 Xv .bool],[(.sl yIn),(.int .i64),(.int .i64),yTx,(Zpi Xv .bool)],[⟨.ret,[(2,.v .bool)],[.var (.v yTx) true,.map 144 Xv .bool],[.bool,yTx,(Zpi Xv .bool)]⟩,⟨.exit 0,[(1,.ref 0 [])],[.var (.v yTx) true,.map 144 Xv .bool],[yTx,(Zpi Xv .bool)]⟩],Zc (Zaq fuel) fuel⟩
theorem Zsb:ZoZ.Ok ya (Zo ya 15) (Zn ya 15 0):=Zl (fi:={ hi:={ still:=[2,57,73,75,83]},lp:=[]}) (specs:={ l:=[Zm7]}) (okS ⟨Ztt,trivial⟩) trivial (by kernel_rfl) (fun v=>by kernel_rfl)
def Zdg (F:Nat) (s:(Int×(List Out)×Int×Int×Tx×(List (XQ×Bool)))):Option ((Int×(List Out)×Int×Int×Tx×(List (XQ×Bool)))⊕((Bool×Tx×(List (XQ×Bool)))⊕(Tx×(List (XQ×Bool))))):=
 if (decide (s.2.2.2.1 < s.2.2.1))=true then
  (idx s.2.1 s.2.2.2.1).bind fun e739=>
  (Zgr F s.1 e739.1).bind fun o740=>
  if (!o740.2)=true then
   some (.inr (.inl (false,s.2.2.2.2.1,s.2.2.2.2.2)))
  else
  (VO F e739.2).bind fun o741=>
  if (!o741)=true then
   some (.inr (.inl (false,s.2.2.2.2.1,s.2.2.2.2.2)))
  else
  some (.inl (o740.1,s.2.1,s.2.2.1,wi (s.2.2.2.1+1),s.2.2.2.2.1,s.2.2.2.2.2))
 else
 some (.inr (.inr (s.2.2.2.2.1,s.2.2.2.2.2)))
def Zo0:Lp:=⟨[(6,.v (.int .i64)),(66,.v (.sl W1)),(67,.v (.int .i64)),(68,.v (.int .i64))],[.var (.v yTx) true,.map 144 Xv .bool],[(.int .i64),(.sl W1),(.int .i64),(.int .i64),yTx,(Zpi Xv .bool)],[⟨.ret,[(2,.v .bool)],[.var (.v yTx) true,.map 144 Xv .bool],[.bool,yTx,(Zpi Xv .bool)]⟩,⟨.exit 2,[],[.var (.v yTx) true,.map 144 Xv .bool],[yTx,(Zpi Xv .bool)]⟩],Zc (Zdg fuel) fuel⟩
theorem Zsc:Zo0.Ok ya (Zo ya 15) (Zn ya 15 1):=Zl (fi:={ hi:={ still:=[2,57,73,75,83]},lp:=[]}) (specs:={ l:=[ZnR,Zak]}) (okS ⟨ZrI,Zbz,trivial⟩) trivial (by kernel_rfl) (fun v=>by kernel_rfl)
def ZgA (F:Nat) (a0:Tx):Option (Bool):=
 if (decide ((a0.1.length:Int) < 1))=true then
  some false
 else
 if (decide ((a0.1.length:Int) > 64))=true then
  some false
 else
 if (decide ((a0.2.1.length:Int) > 64))=true then
  some false
 else
 if (decide (a0.2.2 < 0))=true then
  some false
 else
 (Zc (Zaq F) F (a0.1,(a0.1.length:Int),(0:Int),a0,([]:List (XQ×Bool)))).bind fun o736=>
 match o736 with
 |.inl o737=>
  some o737.1
 |.inr o738=>
  (Zc (Zdg F) F ((0:Int),o738.1.2.1,(o738.1.2.1.length:Int),(0:Int),o738.1,o738.2)).bind fun o742=>
  match o742 with
  |.inl o743=>
   some o743.1
  |.inr o744=>
   some true
def Zyu (F:Nat):Fs ya:=⟨15,[.v yTx],[],[yTx],[⟨.ret,[(0,.v .bool)],[],[.bool]⟩],fun x=>ZgA F x⟩
def ZlU:Fs ya:=Zyu fuel
theorem Zo1:ZlU.Ok:=Zh (fi:={ hi:={ still:=[2,57,73,75,83]},lp:=[(0,ZoZ),(1,Zo0)]}) (specs:={ l:=[]}) (okS trivial) ⟨Zsb,Zsc,trivial⟩ (by decide+kernel) (fun x=>by kernel_rfl)
def Zlb (F:Nat) (a0:(List UInt8)) (a1:(List UInt8)):Option ((List UInt8)):=
 (Qr F a0 a1).bind fun o745=>
 some o745
def ZpA (F:Nat):Fs ya:=⟨145,[.v (.sl .u8),.v (.arr 32 .u8)],[],[(.sl .u8),(.arr 32 .u8)],[⟨.ret,[(0,.v (.sl .u8))],[],[(.sl .u8)]⟩],fun x=>Zlb F x.1 x.2⟩
def ZjE:Fs ya:=ZpA fuel
theorem ZpB:ZjE.Ok:=Zh (fi:={ hi:={ still:=[4,5,6],frz:=[6]},lp:=[]}) (specs:={ l:=[Zfl]}) (okS ⟨Zhr,trivial⟩) trivial (by decide+kernel) (fun x=>by kernel_rfl)
def ZjF (F:Nat) (a0:(List UInt8)) (a1:(List UInt8)):Option ((List UInt8)):=
 (Zgy F (a1.length:Int)).bind fun o746=>
 (Yw F ([a0,o746,a1]:List (List UInt8))).bind fun o747=>
 some o747
def Zof (F:Nat):Fs ya:=⟨146,[.v (.sl .u8),.v (.sl .u8)],[],[(.sl .u8),(.sl .u8)],[⟨.ret,[(0,.v (.sl .u8))],[],[(.sl .u8)]⟩],fun x=>ZjF F x.1 x.2⟩
def ZhW:Fs ya:=Zof fuel
theorem Zog:ZhW.Ok:=Zh (fi:={ hi:={ still:=[4,7,10]},lp:=[]}) (specs:={ l:=[ZlM,XY]}) (okS ⟨ZoY,VR,trivial⟩) trivial (by decide+kernel) (fun x=>by kernel_rfl)
def Zm8 (F:Nat) (s:((List UInt8)×(List In)×Int×Int×Tx)):Option (((List UInt8)×(List In)×Int×Int×Tx)⊕((List UInt8)×Tx)):=
 if (decide (s.2.2.2.1 < s.2.2.1))=true then
  (idx s.2.1 s.2.2.2.1).bind fun e749=>
  (Zlb F s.1 e749.1.1).bind fun o750=>
  (X0 F o750 e749.1.2).bind fun o751=>
  some (.inl (o751,s.2.1,s.2.2.1,wi (s.2.2.2.1+1),s.2.2.2.2))
 else
 some (.inr (s.1,s.2.2.2.2))
def Zo2:Lp:=⟨[(1,.ref 0 []),(3,.v (.sl .u8)),(13,.v (.sl yIn)),(14,.v (.int .i64)),(15,.v (.int .i64))],[.var (.v yTx) true],[(.sl .u8),(.sl yIn),(.int .i64),(.int .i64),yTx],[⟨.exit 0,[(1,.ref 0 []),(3,.v (.sl .u8))],[.var (.v yTx) true],[(.sl .u8),yTx]⟩],Zc (Zm8 fuel) fuel⟩
theorem Zsd:Zo2.Ok ya (Zo ya 81) (Zn ya 81 0):=Zl (fi:={ hi:={ still:=[2,10,19,22,23,26,29,32,41,43,44,46,47,50,52]},lp:=[]}) (specs:={ l:=[ZjE,Za7]}) (okS ⟨ZpB,Zb7,trivial⟩) trivial (by kernel_rfl) (fun v=>by kernel_rfl)
def Zm9 (F:Nat) (s:((List UInt8)×(List Out)×Int×Int×Tx)):Option (((List UInt8)×(List Out)×Int×Int×Tx)⊕((List UInt8)×Tx)):=
 if (decide (s.2.2.2.1 < s.2.2.1))=true then
  (idx s.2.1 s.2.2.2.1).bind fun e754=>
  (X0 F s.1 e754.1).bind fun o755=>
  (Zb8 F e754.2).bind fun o756=>
  (ZjF F o755 o756).bind fun o757=>
  some (.inl (o757,s.2.1,s.2.2.1,wi (s.2.2.2.1+1),s.2.2.2.2))
 else
 some (.inr (s.1,s.2.2.2.2))
def Zo3:Lp:=⟨[(1,.ref 0 []),(3,.v (.sl .u8)),(35,.v (.sl W1)),(36,.v (.int .i64)),(37,.v (.int .i64))],[.var (.v yTx) true],[(.sl .u8),(.sl W1),(.int .i64),(.int .i64),yTx],[⟨.exit 2,[(1,.ref 0 []),(3,.v (.sl .u8))],[.var (.v yTx) true],[(.sl .u8),yTx]⟩],Zc (Zm9 fuel) fuel⟩
theorem Zse:Zo3.Ok ya (Zo ya 81) (Zn ya 81 1):=Zl (fi:={ hi:={ still:=[2,10,19,22,23,26,29,32,41,43,44,46,47,50,52]},lp:=[]}) (specs:={ l:=[Za7,Zhs,ZhW]}) (okS ⟨Zb7,Zk7,Zog,trivial⟩) trivial (by kernel_rfl) (fun v=>by kernel_rfl)
def Zuu (F:Nat) (a0:Tx):Option ((List UInt8)):=
 (X0 F ([]:List UInt8) (a0.1.length:Int)).bind fun o748=>
 (Zc (Zm8 F) F (o748,a0.1,(a0.1.length:Int),(0:Int),a0)).bind fun o752=>
 (X0 F o752.1 (o752.2.2.1.length:Int)).bind fun o753=>
 (Zc (Zm9 F) F (o753,o752.2.2.1,(o752.2.2.1.length:Int),(0:Int),o752.2)).bind fun o758=>
 (X0 F o758.1 o758.2.2.2).bind fun o759=>
 some o759
def Zyv (F:Nat):Fs ya:=⟨81,[.v yTx],[],[yTx],[⟨.ret,[(0,.v (.sl .u8))],[],[(.sl .u8)]⟩],fun x=>Zuu F x⟩
def Zsf:Fs ya:=Zyv fuel
theorem Zyw:Zsf.Ok:=Zh (fi:={ hi:={ still:=[2,10,19,22,23,26,29,32,41,43,44,46,47,50,52]},lp:=[(0,Zo2),(1,Zo3)]}) (specs:={ l:=[Za7]}) (okS ⟨Zb7,trivial⟩) ⟨Zsd,Zse,trivial⟩ (by decide+kernel) (fun x=>by kernel_rfl)
def ZJk:ByteArray:=⟨#[116,120]⟩
def Zwi (F:Nat) (a0:Tx):Option ((List UInt8)):=
 (ZgA F a0).bind fun o760=>
 if (!o760)=true then
  some ([0,0,0,0,0,0,0,0,0,0,0,0,0,0,0,0,0,0,0,0,0,0,0,0,0,0,0,0,0,0,0,0]:List UInt8)
 else
 (Zuu F a0).bind fun o761=>
 (QE F ZJk ([o761]:List (List UInt8))).bind fun o762=>
 some o762
def Zsg (F:Nat):Fs ya:=⟨25,[.v yTx],[],[yTx],[⟨.ret,[(0,.v (.arr 32 .u8))],[],[(.arr 32 .u8)]⟩],fun x=>Zwi F x⟩
def Zwj:Fs ya:=Zsg fuel
theorem Zsh:Zwj.Ok:=Zh (fi:={ hi:={ still:=[3,7,9]},lp:=[]}) (specs:={ l:=[ZlU,Zsf,Za5]}) (okS ⟨Zo1,Zyw,Zb4,trivial⟩) trivial (by decide+kernel) (fun x=>by kernel_rfl)
def Zht (F:Nat) (a0:UInt64):Option (Bool):=
 some (decide (a0 < 2305843009213688669))
def Zsi (F:Nat):Fs ya:=⟨147,[.v .u64],[],[.u64],[⟨.ret,[(0,.v .bool)],[],[.bool]⟩],fun x=>Zht F x⟩
def ZfR:Fs ya:=Zsi fuel
theorem ZjG:ZfR.Ok:=Zh (fi:={ hi:={ still:=[2]},lp:=[]}) (specs:={ l:=[]}) (okS trivial) trivial (by decide+kernel) (fun x=>by kernel_rfl)
def Zuv (F:Nat) (a0:UInt64):Option (Bool):=
 (Zht F a0).bind fun o763=>
 if o763=true then
  some (a0 !=0)
 else
 some false
def Zyx (F:Nat):Fs ya:=⟨134,[.v .u64],[],[.u64],[⟨.ret,[(0,.v .bool)],[],[.bool]⟩],fun x=>Zuv F x⟩
def Zsj:Fs ya:=Zyx fuel
theorem Zyy:Zsj.Ok:=Zh (fi:={ hi:={ still:=[2,3]},lp:=[]}) (specs:={ l:=[ZfR]}) (okS ⟨ZjG,trivial⟩) trivial (by decide+kernel) (fun x=>by kernel_rfl)
def ZgB (F:Nat) (a0:UInt64):Option (UInt64):=
 some (a0 % 2305843009213688669)
def Zyz (F:Nat):Fs ya:=⟨152,[.v .u64],[],[.u64],[⟨.ret,[(0,.v .u64)],[],[.u64]⟩],fun x=>ZgB F x⟩
def ZlV:Fs ya:=Zyz fuel
theorem Zo4:ZlV.Ok:=Zh (fi:={ hi:={ still:=[2]},lp:=[]}) (specs:={ l:=[]}) (okS trivial) trivial (by decide+kernel) (fun x=>by kernel_rfl)
def ZhX (F:Nat) (a0:UInt64) (a1:UInt64):Option (UInt64):=
 some ((a0+a1) % 2305843009213688669)
def Zna (F:Nat):Fs ya:=⟨153,[.v .u64,.v .u64],[],[.u64,.u64],[⟨.ret,[(0,.v .u64)],[],[.u64]⟩],fun x=>ZhX F x.1 x.2⟩
def ZgC:Fs ya:=Zna fuel
theorem Znb:ZgC.Ok:=Zh (fi:={ hi:={ still:=[4]},lp:=[]}) (specs:={ l:=[]}) (okS trivial) trivial (by decide+kernel) (fun x=>by kernel_rfl)
def Zsk (F:Nat) (a0:UInt64) (a1:UInt64):Option (UInt64):=
 (ZgB F a0).bind fun o764=>
 (ZgB F a1).bind fun o765=>
 (ZhX F o764 o765).bind fun o766=>
 some o766
def Zwk (F:Nat):Fs ya:=⟨84,[.v .u64,.v .u64],[],[.u64,.u64],[⟨.ret,[(0,.v .u64)],[],[.u64]⟩],fun x=>Zsk F x.1 x.2⟩
def Zo5:Fs ya:=Zwk fuel
theorem Zwl:Zo5.Ok:=Zh (fi:={ hi:={ still:=[4,5,6,7,8]},lp:=[]}) (specs:={ l:=[ZlV,ZgC]}) (okS ⟨Zo4,Znb,trivial⟩) trivial (by decide+kernel) (fun x=>by kernel_rfl)
def ZgD (F:Nat) (a0:UInt64) (a1:UInt64):Option (UInt64):=
 (Zfb F a0 a1).bind fun o767=>
 (WF F o767.1 o767.2 (2305843009213688669:UInt64)).bind fun o768=>
 some o768
def ZlW (F:Nat):Fs ya:=⟨155,[.v .u64,.v .u64],[],[.u64,.u64],[⟨.ret,[(0,.v .u64)],[],[.u64]⟩],fun x=>ZgD F x.1 x.2⟩
def Zfp:Fs ya:=ZlW fuel
theorem ZlX:Zfp.Ok:=Zh (fi:={ hi:={ still:=[4,8,9,13,14]},lp:=[]}) (specs:={ l:=[Zhk,Zc1]}) (okS ⟨ZkS,ZfE,trivial⟩) trivial (by decide+kernel) (fun x=>by kernel_rfl)
def Zsl (F:Nat) (a0:UInt64) (a1:UInt64):Option (UInt64):=
 (ZgB F a0).bind fun o769=>
 (ZgB F a1).bind fun o770=>
 (ZgD F o769 o770).bind fun o771=>
 some o771
def Zwm (F:Nat):Fs ya:=⟨86,[.v .u64,.v .u64],[],[.u64,.u64],[⟨.ret,[(0,.v .u64)],[],[.u64]⟩],fun x=>Zsl F x.1 x.2⟩
def Zo6:Fs ya:=Zwm fuel
theorem Zwn:Zo6.Ok:=Zh (fi:={ hi:={ still:=[4,5,6,7,8]},lp:=[]}) (specs:={ l:=[ZlV,Zfp]}) (okS ⟨Zo4,ZlX,trivial⟩) trivial (by decide+kernel) (fun x=>by kernel_rfl)
end
end Go.Proofs.YtjbbdlffilcaaaaGreat
end
