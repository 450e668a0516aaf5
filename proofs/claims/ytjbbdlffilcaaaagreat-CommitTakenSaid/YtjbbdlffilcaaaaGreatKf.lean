/- Parts of the proof, in one file. -/
import Derived.Test.YtjbbdlffilcaaaaGreatKe
open Bool renaming and_eq_true → yg
open Go.Proofs.Tryz renaming prog → yb
open List renaming length_append → yj, length_map → yp, replicate → yr, getElem?_map → yx, append_assoc → yz, map_append → yaf, length_take → yag, getElem?_eq_none → yan, length_set → yar, take_append_drop → ybg, length_drop → ybt, getElem?_set_self → ycf, length_replicate → ycl, getD_eq_getElem?_getD → ycu, getElem?_set_ne → ycv
open Nat renaming add → ym, mod_eq_of_lt → yac, mod_lt → yaq, mul_comm → ybj, eq_zero_or_pos → ybr, two_pow_add_eq_or_of_lt → ycx
open Option renaming bind_some → ya
open UInt32 renaming toNat → yai, ofNat → ybl, toNat_ofNat' → ycj
open UInt64 renaming ofNat → yv, toNat_ofNat' → yav, toNat_inj → yaw, toNat_lt → ybo, lt_iff_toNat_lt → yby, le_iff_toNat_le → ycp
open UInt8 renaming toNat → yah, ofNat → yaz
set_option linter.unusedVariables false
set_option linter.unusedSimpArgs false
section
set_option maxRecDepth 4000
namespace Go.Proofs.YtjbbdlffilcaaaaGreat
open Go Go.Ev
noncomputable section
def XB (F:Nat) (a0:UInt64):Option (Bool):=
 if (decide (a0 ≥ 1))=true then
  if (decide (a0 < 4611686018427377339))=true then
   (YH F a0 (2305843009213688669:UInt64)).bind fun o107=>
   some (o107==1)
  else
  some false
 else
 some false
def ZjF (F:Nat):Fs yb:=⟨87,[.v .u64],[],[.u64],[⟨.ret,[(0,.v .bool)],[],[.bool]⟩],fun x=>XB F x⟩
def WV:Fs yb:=ZjF fuel
theorem V0:WV.Ok:=Zg (fi:={ hi:={ still:=[2,10]},lp:=[]}) (specs:={ l:=[Qq]}) (okS ⟨ZbT,trivial⟩) trivial (by decide+kernel) (fun x=>by kernel_rfl)
def Vg (F:Nat) (a0:UInt64):Option (UInt64):=
 (XB F a0).bind fun o108=>
 if o108=true then
  some a0
 else
 some (1:UInt64)
def ZjG (F:Nat):Fs yb:=⟨198,[.v .u64],[],[.u64],[⟨.ret,[(0,.v .u64)],[],[.u64]⟩],fun x=>Vg F x⟩
def Zc7:Fs yb:=ZjG fuel
theorem ZjH:Zc7.Ok:=Zg (fi:={ hi:={ still:=[2,3]},lp:=[]}) (specs:={ l:=[WV]}) (okS ⟨V0,trivial⟩) trivial (by decide+kernel) (fun x=>by kernel_rfl)
def Vh (F:Nat) (a0:UInt64) (a1:UInt64):Option (UInt64):=
 (Vg F a0).bind fun o109=>
 (YH F o109 (a1 % 2305843009213688669)).bind fun o110=>
 some o110
def ZjI (F:Nat):Fs yb:=⟨159,[.v .u64,.v .u64],[],[.u64,.u64],[⟨.ret,[(0,.v .u64)],[],[.u64]⟩],fun x=>Vh F x.1 x.2⟩
def Zc8:Fs yb:=ZjI fuel
theorem ZjJ:Zc8.Ok:=Zg (fi:={ hi:={ still:=[4,5,6,8]},lp:=[]}) (specs:={ l:=[Zc7,Qq]}) (okS ⟨ZjH,ZbT,trivial⟩) trivial (by decide+kernel) (fun x=>by kernel_rfl)
def Yt (F:Nat) (a0:UInt64):Option (UInt64):=
 (Vh F (4:UInt64) a0).bind fun o111=>
 some o111
def ZkE (F:Nat):Fs yb:=⟨108,[.v .u64],[],[.u64],[⟨.ret,[(0,.v .u64)],[],[.u64]⟩],fun x=>Yt F x⟩
def ZdT:Fs yb:=ZkE fuel
theorem ZkF:ZdT.Ok:=Zg (fi:={ hi:={ still:=[2,3]},lp:=[]}) (specs:={ l:=[Zc8]}) (okS ⟨ZjJ,trivial⟩) trivial (by decide+kernel) (fun x=>by kernel_rfl)
abbrev Zbg:Ty:=(.st [.u64,.u64,.u64,.u64,.u64])
abbrev VE:Type:=(UInt64×UInt64×UInt64×UInt64×UInt64)
abbrev VE.Cond (x:VE):UInt64:=x.2.2.2.1
def WW (F:Nat) (a0:Kit):Option (VE):=
 (Yt F a0.1).bind fun o112=>
 (Yt F a0.2.1).bind fun o113=>
 (Yt F a0.2.2.1).bind fun o114=>
 (Yt F a0.2.2.2.1).bind fun o115=>
 (Yt F a0.2.2.2.2.1).bind fun o116=>
 some (o112,o113,o114,o115,o116)
def ZiF (F:Nat):Fs yb:=⟨46,[.v XE],[],[XE],[⟨.ret,[(0,.v Zbg)],[],[Zbg]⟩],fun x=>WW F x⟩
def ZbU:Fs yb:=ZiF fuel
theorem ZiG:ZbU.Ok:=Zg (fi:={ hi:={ still:=[4,7,10,13,16]},lp:=[]}) (specs:={ l:=[ZdT]}) (okS ⟨ZkF,trivial⟩) trivial (by decide+kernel) (fun x=>by kernel_rfl)
def ZR (F:Nat) (a0:Int) (a1:Int) (a2:Int):Option (Bool):=
 if (decide (a0 ≥ a1))=true then
  some (decide (a0≤a2))
 else
 some false
def Zna (F:Nat):Fs yb:=⟨162,[.v (.int .i64),.v (.int .i64),.v (.int .i64)],[],[(.int .i64),(.int .i64),(.int .i64)],[⟨.ret,[(0,.v .bool)],[],[.bool]⟩],fun x=>ZR F x.1 x.2.1 x.2.2⟩
def WX:Fs yb:=Zna fuel
theorem VF:WX.Ok:=Zg (fi:={ hi:={ still:=[6]},lp:=[]}) (specs:={ l:=[]}) (okS trivial) trivial (by decide+kernel) (fun x=>by kernel_rfl)
abbrev Zfk:Ty:=(.st [(.int .i64),(.int .i64),(.int .i64),(.int .i64),(.int .i64),(.int .i64)])
abbrev Vs:Type:=(Int×Int×Int×Int×Int×Int)
def Vi (F:Nat) (a0:Vs):Option (Bool):=
 (ZR F a0.1 (0:Int) (65536:Int)).bind fun o117=>
 if o117=true then
  (ZR F a0.2.1 a0.1 (1125899906842624:Int)).bind fun o118=>
  if o118=true then
   (ZR F a0.2.2.1 (1:Int) (4096:Int)).bind fun o119=>
   if o119=true then
    (ZR F a0.2.2.2.1 (0:Int) (16:Int)).bind fun o120=>
    if o120=true then
     (ZR F a0.2.2.2.2.1 (1:Int) (1125899906842624:Int)).bind fun o121=>
     if o121=true then
      (ZR F a0.2.2.2.2.2 (0:Int) (1125899906842624:Int)).bind fun o122=>
      some o122
     else
     some false
    else
    some false
   else
   some false
  else
  some false
 else
 some false
def ZjK (F:Nat):Fs yb:=⟨179,[.v Zfk],[],[Zfk],[⟨.ret,[(0,.v .bool)],[],[.bool]⟩],fun x=>Vi F x⟩
def Zc9:Fs yb:=ZjK fuel
theorem ZjL:Zc9.Ok:=Zg (fi:={ hi:={ still:=[2,5,9,11,16,22,27,32]},lp:=[]}) (specs:={ l:=[WX]}) (okS ⟨VF,trivial⟩) trivial (by decide+kernel) (fun x=>by kernel_rfl)
def V8 (F:Nat) (a0:UInt64):Option (Bool):=
 (XB F a0).bind fun o123=>
 if o123=true then
  some (a0 !=1)
 else
 some false
def ZlZ (F:Nat):Fs yb:=⟨180,[.v .u64],[],[.u64],[⟨.ret,[(0,.v .bool)],[],[.bool]⟩],fun x=>V8 F x⟩
def Zfl:Fs yb:=ZlZ fuel
theorem Zl0:Zfl.Ok:=Zg (fi:={ hi:={ still:=[2,3]},lp:=[]}) (specs:={ l:=[WV]}) (okS ⟨V0,trivial⟩) trivial (by decide+kernel) (fun x=>by kernel_rfl)
abbrev X9:Ty:=(.st [(.arr 32 .u8),(.int .i64)])
abbrev Xs:Type:=((List UInt8)×Int)
abbrev Xs.N (x:Xs):Int:=x.2
abbrev Zq:Ty:=(.st [X9,(.int .i64),(.arr 2 Zbg),(.arr 2 Zfk),(.int .i64)])
abbrev ZO:Type:=(Xs×Int×(List VE)×(List Vs)×Int)
abbrev ZO.Basics (x:ZO):(List VE):=x.2.2.1
abbrev ZO.Terms (x:ZO):(List Vs):=x.2.2.2.1
def XZ (F:Nat) (s:(Int×(List UInt64)×Int×ZO×VE)):Option ((Int×(List UInt64)×Int×ZO×VE)⊕((Int×ZO×VE)⊕(Int×ZO×VE))):=
 if (decide (s.2.2.1 < 5))=true then
  (idx s.2.1 s.2.2.1).bind fun e130=>
  (V8 F e130).bind fun o131=>
  if (!o131)=true then
   some (.inr (.inl ((1:Int),s.2.2.2.1,s.2.2.2.2)))
  else
  some (.inl (s.1,s.2.1,wi (s.2.2.1+1),s.2.2.2.1,s.2.2.2.2))
 else
 some (.inr (.inr (s.1,s.2.2.2.1,s.2.2.2.2)))
def ZdU:Lp:=⟨[(1,.ref 0 []),(3,.v (.int .i64)),(5,.v (.sl .u64)),(6,.v (.int .i64))],[.var (.v Zq) true,.var (.v Zbg) true],[(.int .i64),(.sl .u64),(.int .i64),Zq,Zbg],[⟨.ret,[(2,.v (.int .i64))],[.var (.v Zq) true,.var (.v Zbg) true],[(.int .i64),Zq,Zbg]⟩,⟨.exit 2,[(1,.ref 0 []),(3,.v (.int .i64))],[.var (.v Zq) true,.var (.v Zbg) true],[(.int .i64),Zq,Zbg]⟩],Zd (XZ fuel) fuel⟩
theorem ZiH:ZdU.Ok yb (Zp yb 109) (Zo yb 109 1):=Zk (fi:={ hi:={ still:=[2,8,14,20,46,56]},lp:=[]}) (specs:={ l:=[Zfl]}) (okS ⟨Zl0,trivial⟩) trivial (by kernel_rfl) (fun v=>by kernel_rfl)
def WY (F:Nat) (s:(Int×ZO)):Option ((Int×ZO)⊕((Int×ZO)⊕ZO)):=
 if (decide (s.1 < 2))=true then
  if (inB s.1 2)=true then
   (s.2.2.2.1[s.1.toNat]?).bind fun e127=>
   if (inB s.1 2)=true then
    (s.2.2.2.2.1[s.1.toNat]?).bind fun e128=>
    (Vi F e128).bind fun o129=>
    if (!o129)=true then
     some (.inr (.inl ((1:Int),s.2)))
    else
    (Zd (XZ F) F (s.1,([e127.1,e127.2.1,e127.2.2.1,e127.2.2.2.1,e127.2.2.2.2]:List UInt64),(0:Int),s.2,e127)).bind fun o132=>
    match o132 with
    |.inl o133=>
     some (.inr (.inl (o133.1,o133.2.1)))
    |.inr o134=>
     some (.inl (wi (o134.1+1),o134.2.1))
   else
   none
  else
  none
 else
 some (.inr (.inr s.2))
def ZdV:Lp:=⟨[(1,.ref 0 []),(3,.v (.int .i64))],[.var (.v Zq) true],[(.int .i64),Zq],[⟨.ret,[(2,.v (.int .i64))],[.var (.v Zq) true],[(.int .i64),Zq]⟩,⟨.exit 0,[(1,.ref 0 [])],[.var (.v Zq) true],[Zq]⟩],Zd (WY fuel) fuel⟩
theorem ZiI:ZdV.Ok yb (Zp yb 109) (Zo yb 109 0):=Zk (fi:={ hi:={ still:=[2,8,14,20,46,56]},lp:=[(1,ZdU)]}) (specs:={ l:=[Zc9]}) (okS ⟨ZjL,trivial⟩) ⟨ZiH,trivial⟩ (by kernel_rfl) (fun v=>by kernel_rfl)
def V9 (F:Nat) (a0:ZO):Option (Int):=
 (ZR F a0.2.1 (1:Int) (1125899906842624:Int)).bind fun o124=>
 if (!o124)=true then
  some (1:Int)
 else
 (ZR F a0.1.2 (0:Int) (63:Int)).bind fun o125=>
 if (!o125)=true then
  some (1:Int)
 else
 (ZR F a0.2.2.2.2 (0:Int) (1:Int)).bind fun o126=>
 if (!o126)=true then
  some (1:Int)
 else
 (Zd (WY F) F ((0:Int),a0)).bind fun o135=>
 match o135 with
 |.inl o136=>
  some o136.1
 |.inr o137=>
  (o137.2.2.2.1[0]?).bind fun e138=>
  (o137.2.2.2.1[1]?).bind fun e139=>
  if (decide ((wi (e138.2.1+e139.2.1)) > o137.2.1))=true then
   some (10:Int)
  else
  some (0:Int)
def Zl1 (F:Nat):Fs yb:=⟨109,[.v Zq],[],[Zq],[⟨.ret,[(0,.v (.int .i64))],[],[(.int .i64)]⟩],fun x=>V9 F x⟩
def Zfm:Fs yb:=Zl1 fuel
theorem Zl2:Zfm.Ok:=Zg (fi:={ hi:={ still:=[2,8,14,20,46,56]},lp:=[(0,ZdV)]}) (specs:={ l:=[WX]}) (okS ⟨VF,trivial⟩) ⟨ZiI,trivial⟩ (by decide+kernel) (fun x=>by kernel_rfl)
def Z6 (F:Nat) (a0:Int) (a1:Int) (a2:Int):Option (Bool):=
 if (decide (a0 ≥ a1))=true then
  some (decide (a0≤a2))
 else
 some false
def Znb (F:Nat):Fs yb:=⟨110,[.v (.int .i64),.v (.int .i64),.v (.int .i64)],[],[(.int .i64),(.int .i64),(.int .i64)],[⟨.ret,[(0,.v .bool)],[],[.bool]⟩],fun x=>Z6 F x.1 x.2.1 x.2.2⟩
def Zbh:Fs yb:=Znb fuel
theorem Zfn:Zbh.Ok:=Zg (fi:={ hi:={ still:=[6]},lp:=[]}) (specs:={ l:=[]}) (okS trivial) trivial (by decide+kernel) (fun x=>by kernel_rfl)
abbrev Yo:Ty:=(.st [(.int .i64),(.int .i64),(.int .i64),.u64,(.int .i64)])
abbrev ZB:Type:=(Int×Int×Int×UInt64×Int)
def Wz (F:Nat) (a0:ZB):Option (Bool):=
 (XB F a0.2.2.2.1).bind fun o140=>
 if o140=true then
  if (a0.2.2.2.1 !=1)=true then
   (Z6 F a0.1 (0:Int) (1:Int)).bind fun o141=>
   if o141=true then
    (Z6 F a0.2.1 (1:Int) (1048576:Int)).bind fun o142=>
    if o142=true then
     (Z6 F a0.2.2.1 (1:Int) (1125899906842624:Int)).bind fun o143=>
     if o143=true then
      (Z6 F a0.2.2.2.2 (1:Int) (1048576:Int)).bind fun o144=>
      some o144
     else
     some false
    else
    some false
   else
   some false
  else
  some false
 else
 some false
def ZkG (F:Nat):Fs yb:=⟨111,[.v Yo],[],[Yo],[⟨.ret,[(0,.v .bool)],[],[.bool]⟩],fun x=>Wz F x⟩
def Zaa:Fs yb:=ZkG fuel
theorem Zda:Zaa.Ok:=Zg (fi:={ hi:={ still:=[2,5,15,20,25,30]},lp:=[]}) (specs:={ l:=[WV,Zbh]}) (okS ⟨V0,Zfn,trivial⟩) trivial (by decide+kernel) (fun x=>by kernel_rfl)
def Wh (F:Nat) (a0:ZB) (a1:ZB):Option (Bool):=
 if (decide (a0.1 < a1.1))=true then
  some true
 else
 if (a0.1==a1.1)=true then
  some (decide (a0.2.1 < a1.2.1))
 else
 some false
def ZjM (F:Nat):Fs yb:=⟨112,[.v Yo,.v Yo],[],[Yo,Yo],[⟨.ret,[(0,.v .bool)],[],[.bool]⟩],fun x=>Wh F x.1 x.2⟩
def Qr:Fs yb:=ZjM fuel
theorem ZbV:Qr.Ok:=Zg (fi:={ hi:={ still:=[4]},lp:=[]}) (specs:={ l:=[]}) (okS trivial) trivial (by decide+kernel) (fun x=>by kernel_rfl)
abbrev Ze:Ty:=(.st [(.int .i64),(.arr 2 (.int .i64)),(.sl Yo),(.int .i64)])
abbrev State:Type:=(Int×(List Int)×(List ZB)×Int)
def YP (F:Nat) (s:(Int×Int×Int×Int×State)):Option ((Int×Int×Int×Int×State)⊕(Int×Int×State)):=
 let y145:Bool:=decide (s.2.2.2.1 < (s.2.2.2.2.2.2.1.length:Int))
 if y145=true then
  (idx s.2.2.2.2.2.2.1 s.2.2.2.1).bind fun e146=>
  if (e146.1==(wi (1 - s.1)))=true then
   (idx s.2.2.2.2.2.2.1 s.2.2.2.1).bind fun e147=>
   some (.inl (s.1,wi (s.2.1+1),wi (s.2.2.1+e147.2.2.1),wi (s.2.2.2.1+1),s.2.2.2.2))
  else
  some (.inl (s.1,s.2.1,s.2.2.1,wi (s.2.2.2.1+1),s.2.2.2.2))
 else
 some (.inr (s.2.1,s.2.2.1,s.2.2.2.2))
def ZaI:Lp:=⟨[(1,.v (.int .i64)),(2,.ref 0 []),(6,.v (.int .i64)),(7,.v (.int .i64)),(8,.v (.int .i64))],[.var (.v Ze) true],[(.int .i64),(.int .i64),(.int .i64),(.int .i64),Ze],[⟨.exit 0,[(6,.v (.int .i64)),(7,.v (.int .i64))],[.var (.v Ze) true],[(.int .i64),(.int .i64),Ze]⟩],Zd (YP fuel) fuel⟩
theorem Zfo:ZaI.Ok yb (Zp yb 113) (Zo yb 113 0):=Zk (fi:={ hi:={ still:=[4,5]},lp:=[]}) (specs:={ l:=[]}) (okS trivial) trivial (by kernel_rfl) (fun v=>by kernel_rfl)
def XM (F:Nat) (a0:State) (a1:Int):Option ((Int×Int)):=
 (Zd (YP F) F (a1,(0:Int),(0:Int),(0:Int),a0)).bind fun o148=>
 some (o148.1,o148.2.1)
def ZhR (F:Nat):Fs yb:=⟨113,[.v Ze,.v (.int .i64)],[],[Ze,(.int .i64)],[⟨.ret,[(0,.tup [.v (.int .i64),.v (.int .i64)])],[],[(.int .i64),(.int .i64)]⟩],fun x=>XM F x.1 x.2⟩
def VG:Fs yb:=ZhR fuel
theorem ZaJ:VG.Ok:=Zg (fi:={ hi:={ still:=[4,5]},lp:=[(0,ZaI)]}) (specs:={ l:=[]}) (okS trivial) ⟨Zfo,trivial⟩ (by decide+kernel) (fun x=>by kernel_rfl)
def Wj (F:Nat) (s:(Int×Int×State)):Option ((Int×Int×State)⊕(Int×State)):=
 if (decide (s.2.1 < (s.2.2.2.2.1.length:Int)))=true then
  (idx s.2.2.2.2.1 s.2.1).bind fun e151=>
  some (.inl (wi (s.1+e151.2.2.1),wi (s.2.1+1),s.2.2))
 else
 some (.inr (s.1,s.2.2))
def ZbW:Lp:=⟨[(1,.ref 0 []),(3,.v (.int .i64)),(4,.v (.int .i64))],[.var (.v Ze) true],[(.int .i64),(.int .i64),Ze],[⟨.exit 0,[(3,.v (.int .i64))],[.var (.v Ze) true],[(.int .i64),Ze]⟩],Zd (Wj fuel) fuel⟩
theorem Zg7:ZbW.Ok yb (Zp yb 114) (Zo yb 114 0):=Zk (fi:={ hi:={ still:=[2]},lp:=[]}) (specs:={ l:=[]}) (okS trivial) trivial (by kernel_rfl) (fun v=>by kernel_rfl)
def Vj (F:Nat) (a0:State):Option (Int):=
 (a0.2.1[0]?).bind fun e149=>
 (a0.2.1[1]?).bind fun e150=>
 (Zd (Wj F) F (wi (e149+e150),(0:Int),a0)).bind fun o152=>
 some o152.1
def ZjN (F:Nat):Fs yb:=⟨114,[.v Ze],[],[Ze],[⟨.ret,[(0,.v (.int .i64))],[],[(.int .i64)]⟩],fun x=>Vj F x⟩
def Zdb:Fs yb:=ZjN fuel
theorem ZjO:Zdb.Ok:=Zg (fi:={ hi:={ still:=[2]},lp:=[(0,ZbW)]}) (specs:={ l:=[]}) (okS trivial) ⟨Zg7,trivial⟩ (by decide+kernel) (fun x=>by kernel_rfl)
def Qs (F:Nat) (a0:Int):Option (Int):=
 (ZR F a0 (0:Int) (16:Int)).bind fun o153=>
 if (!o153)=true then
  some (0:Int)
 else
 some (wi (36+(wi ((wi (4+a0))*8))))
def ZiJ (F:Nat):Fs yb:=⟨163,[.v (.int .i64)],[],[(.int .i64)],[⟨.ret,[(0,.v (.int .i64))],[],[(.int .i64)]⟩],fun x=>Qs F x⟩
def ZbX:Fs yb:=ZiJ fuel
theorem ZiK:ZbX.Ok:=Zg (fi:={ hi:={ still:=[2,3]},lp:=[]}) (specs:={ l:=[WX]}) (okS ⟨VF,trivial⟩) trivial (by decide+kernel) (fun x=>by kernel_rfl)
def Qa (F:Nat) (a0:Int) (a1:Int):Option (Int):=
 (ZR F a0 (0:Int) (1000:Int)).bind fun o154=>
 if (!o154)=true then
  some (0:Int)
 else
 (Qs F a1).bind fun o155=>
 some (wi (a0*o155))
def Zl3 (F:Nat):Fs yb:=⟨101,[.v (.int .i64),.v (.int .i64)],[],[(.int .i64),(.int .i64)],[⟨.ret,[(0,.v (.int .i64))],[],[(.int .i64)]⟩],fun x=>Qa F x.1 x.2⟩
def Zfp:Fs yb:=Zl3 fuel
theorem Zl4:Zfp.Ok:=Zg (fi:={ hi:={ still:=[4,5,9]},lp:=[]}) (specs:={ l:=[WX,ZbX]}) (okS ⟨VF,ZiK,trivial⟩) trivial (by decide+kernel) (fun x=>by kernel_rfl)
def Y2 (F:Nat) (a0:ZO) (a1:State):Option (Int):=
 (Qa F a1.2.2.2 (a1.2.2.1.length:Int)).bind fun o156=>
 some (wi (o156+660))
def ZkH (F:Nat):Fs yb:=⟨115,[.v Zq,.v Ze],[],[Zq,Ze],[⟨.ret,[(0,.v (.int .i64))],[],[(.int .i64)]⟩],fun x=>Y2 F x.1 x.2⟩
def Zab:Fs yb:=ZkH fuel
theorem Zdc:Zab.Ok:=Zg (fi:={ hi:={ still:=[4,6,9]},lp:=[]}) (specs:={ l:=[Zfp]}) (okS ⟨Zl4,trivial⟩) trivial (by decide+kernel) (fun x=>by kernel_rfl)
def Wl (F:Nat) (s:(Int×ZO×State)):Option ((Int×ZO×State)⊕((Bool×ZO×State)⊕(ZO×State))):=
 if (decide (s.1 < (s.2.2.2.2.1.length:Int)))=true then
  (idx s.2.2.2.2.1 s.1).bind fun e164=>
  (Wz F e164).bind fun o165=>
  if (!o165)=true then
   some (.inr (.inl (false,s.2.1,s.2.2)))
  else
  if (decide (s.1 > 0))=true then
   (idx s.2.2.2.2.1 (wi (s.1 - 1))).bind fun e166=>
   (idx s.2.2.2.2.1 s.1).bind fun e167=>
   (Wh F e166 e167).bind fun o168=>
   if (!o168)=true then
    some (.inr (.inl (false,s.2.1,s.2.2)))
   else
   (idx s.2.2.2.2.1 s.1).bind fun e169=>
   (idx s.2.2.2.2.1 s.1).bind fun e170=>
   if (inB (wi (1 - e170.1)) 2)=true then
    (s.2.1.2.2.2.1[(wi (1 - e170.1)).toNat]?).bind fun e171=>
    if (decide (e169.2.2.1 < e171.2.2.2.2.1))=true then
     some (.inr (.inl (false,s.2.1,s.2.2)))
    else
    some (.inl (wi (s.1+1),s.2.1,s.2.2))
   else
   none
  else
  (idx s.2.2.2.2.1 s.1).bind fun e172=>
  (idx s.2.2.2.2.1 s.1).bind fun e173=>
  if (inB (wi (1 - e173.1)) 2)=true then
   (s.2.1.2.2.2.1[(wi (1 - e173.1)).toNat]?).bind fun e174=>
   if (decide (e172.2.2.1 < e174.2.2.2.2.1))=true then
    some (.inr (.inl (false,s.2.1,s.2.2)))
   else
   some (.inl (wi (s.1+1),s.2.1,s.2.2))
  else
  none
 else
 some (.inr (.inr (s.2.1,s.2.2)))
def ZbY:Lp:=⟨[(2,.ref 0 []),(3,.ref 1 []),(5,.v (.int .i64))],[.var (.v Zq) true,.var (.v Ze) true],[(.int .i64),Zq,Ze],[⟨.ret,[(4,.v .bool)],[.var (.v Zq) true,.var (.v Ze) true],[.bool,Zq,Ze]⟩,⟨.exit 0,[(2,.ref 0 []),(3,.ref 1 [])],[.var (.v Zq) true,.var (.v Ze) true],[Zq,Ze]⟩],Zd (Wl fuel) fuel⟩
theorem Zg8:ZbY.Ok yb (Zp yb 47) (Zo yb 47 0):=Zk (fi:={ hi:={ still:=[4,10,15,22,29,35,56,69,74,104,105,125,136,137]},lp:=[]}) (specs:={ l:=[Zaa,Qr]}) (okS ⟨Zda,ZbV,trivial⟩) trivial (by kernel_rfl) (fun v=>by kernel_rfl)
def Wm (F:Nat) (s:(Int×ZO×State)):Option ((Int×ZO×State)⊕((Bool×ZO×State)⊕(ZO×State))):=
 if (decide (s.1 < 2))=true then
  (XM F s.2.2 s.1).bind fun o178=>
  if (inB s.1 2)=true then
   (s.2.1.2.2.2.1[s.1.toNat]?).bind fun e179=>
   if (decide (o178.1 > e179.2.2.2.1))=true then
    some (.inr (.inl (false,s.2.1,s.2.2)))
   else
   if (inB s.1 2)=true then
    (s.2.1.2.2.2.1[s.1.toNat]?).bind fun e180=>
    if (decide (o178.2 > e180.2.2.2.2.2))=true then
     some (.inr (.inl (false,s.2.1,s.2.2)))
    else
    some (.inl (wi (s.1+1),s.2.1,s.2.2))
   else
   none
  else
  none
 else
 some (.inr (.inr (s.2.1,s.2.2)))
def ZbZ:Lp:=⟨[(2,.ref 0 []),(3,.ref 1 []),(7,.v (.int .i64))],[.var (.v Zq) true,.var (.v Ze) true],[(.int .i64),Zq,Ze],[⟨.ret,[(4,.v .bool)],[.var (.v Zq) true,.var (.v Ze) true],[.bool,Zq,Ze]⟩,⟨.exit 2,[(2,.ref 0 []),(3,.ref 1 [])],[.var (.v Zq) true,.var (.v Ze) true],[Zq,Ze]⟩],Zd (Wm fuel) fuel⟩
theorem Zg9:ZbZ.Ok yb (Zp yb 47) (Zo yb 47 1):=Zk (fi:={ hi:={ still:=[4,10,15,22,29,35,56,69,74,104,105,125,136,137]},lp:=[]}) (specs:={ l:=[VG]}) (okS ⟨ZaJ,trivial⟩) trivial (by kernel_rfl) (fun v=>by kernel_rfl)
def XC (F:Nat) (a0:ZO) (a1:State):Option (Bool):=
 (V9 F a0).bind fun o157=>
 if (o157 !=0)=true then
  some false
 else
 (Z6 F a1.1 (0:Int) (1048576:Int)).bind fun o158=>
 if (!o158)=true then
  some false
 else
 (a1.2.1[0]?).bind fun e159=>
 (Z6 F e159 (0:Int) (1125899906842624:Int)).bind fun o160=>
 if (!o160)=true then
  some false
 else
 (a1.2.1[1]?).bind fun e161=>
 (Z6 F e161 (0:Int) (1125899906842624:Int)).bind fun o162=>
 if (!o162)=true then
  some false
 else
 (Z6 F a1.2.2.2 (0:Int) (1000:Int)).bind fun o163=>
 if (!o163)=true then
  some false
 else
 if (decide ((a1.2.2.1.length:Int) > 16))=true then
  some false
 else
 (Zd (Wl F) F ((0:Int),a0,a1)).bind fun o175=>
 match o175 with
 |.inl o176=>
  some o176.1
 |.inr o177=>
  (Zd (Wm F) F ((0:Int),o177.1,o177.2)).bind fun o181=>
  match o181 with
  |.inl o182=>
   some o182.1
  |.inr o183=>
   (Vj F o183.2).bind fun o184=>
   if (o184==o183.1.2.1)=true then
    if (inB o183.1.2.2.2.2 2)=true then
     (o183.2.2.1[o183.1.2.2.2.2.toNat]?).bind fun e185=>
     (Y2 F o183.1 o183.2).bind fun o186=>
     some (decide (e185 ≥ o186))
    else
    none
   else
   some false
def ZjP (F:Nat):Fs yb:=⟨47,[.v Zq,.v Ze],[],[Zq,Ze],[⟨.ret,[(0,.v .bool)],[],[.bool]⟩],fun x=>XC F x.1 x.2⟩
def Qt:Fs yb:=ZjP fuel
theorem Zb0:Qt.Ok:=Zg (fi:={ hi:={ still:=[4,10,15,22,29,35,56,69,74,104,105,125,136,137]},lp:=[(0,ZbY),(1,ZbZ)]}) (specs:={ l:=[Zfm,Zbh,Zdb,Zab]}) (okS ⟨Zl2,Zfn,ZjO,Zdc,trivial⟩) ⟨Zg8,Zg9,trivial⟩ (by decide+kernel) (fun x=>by kernel_rfl)
def Zqk:ByteArray:=⟨#[0,1,2,2,3,3,3,3,4,4,4,4,4,4,4,4,5,5,5,5,5,5,5,5,5,5,5,5,5,5,5,5,6,6,6,6,6,6,6,6,6,6,6,6,6,6,6,6,6,6,6,6,6,6,6,6,6,6,6,6,6,6,6,6,7,7,7,7,7,7,7,7,7,7,7,7,7,7,7,7,7,7,7,7,7,7,7,7,7,7,7,7,7,7,7,7,7,7,7,7,7,7,7,7,7,7,7,7,7,7,7,7,7,7,7,7,7,7,7,7,7,7,7,7,7,7,7,7,8,8,8,8,8,8,8,8,8,8,8,8,8,8,8,8,8,8,8,8,8,8,8,8,8,8,8,8,8,8,8,8,8,8,8,8,8,8,8,8,8,8,8,8,8,8,8,8,8,8,8,8,8,8,8,8,8,8,8,8,8,8,8,8,8,8,8,8,8,8,8,8,8,8,8,8,8,8,8,8,8,8,8,8,8,8,8,8,8,8,8,8,8,8,8,8,8,8,8,8,8,8,8,8,8,8,8,8,8,8,8,8,8,8,8,8,8,8,8,8,8,8,8,8,8,8,8,8]⟩
def Zql (F:Nat) (a0:UInt64):Option (Int):=
 if (decide (a0 ≥ 4294967296))=true then
  if (decide ((ZA a0 32) ≥ 65536))=true then
   if (decide ((ZA (ZA a0 32) 16) ≥ 256))=true then
    let y187:UInt8:=w8 ((ZA (ZA (ZA a0 32) 16) 8).toNat:Int)
    (idx (ZlR Zqk) (y187.toNat:Int)).bind fun e188=>
    some (wi (56+(e188.toNat:Int)))
   else
   (idx (ZlR Zqk) ((w8 ((ZA (ZA a0 32) 16).toNat:Int)).toNat:Int)).bind fun e189=>
   some (wi (48+(e189.toNat:Int)))
  else
  if (decide ((ZA a0 32) ≥ 256))=true then
   (idx (ZlR Zqk) ((w8 ((ZA (ZA a0 32) 8).toNat:Int)).toNat:Int)).bind fun e190=>
   some (wi (40+(e190.toNat:Int)))
  else
  (idx (ZlR Zqk) ((w8 ((ZA a0 32).toNat:Int)).toNat:Int)).bind fun e191=>
  some (wi (32+(e191.toNat:Int)))
 else
 if (decide (a0 ≥ 65536))=true then
  if (decide ((ZA a0 16) ≥ 256))=true then
   (idx (ZlR Zqk) ((w8 ((ZA (ZA a0 16) 8).toNat:Int)).toNat:Int)).bind fun e192=>
   some (wi (24+(e192.toNat:Int)))
  else
  (idx (ZlR Zqk) ((w8 ((ZA a0 16).toNat:Int)).toNat:Int)).bind fun e193=>
  some (wi (16+(e193.toNat:Int)))
 else
 if (decide (a0 ≥ 256))=true then
  (idx (ZlR Zqk) ((w8 ((ZA a0 8).toNat:Int)).toNat:Int)).bind fun e194=>
  some (wi (8+(e194.toNat:Int)))
 else
 (idx (ZlR Zqk) ((w8 (a0.toNat:Int)).toNat:Int)).bind fun e195=>
 some (wi (0+(e195.toNat:Int)))
def Zum (F:Nat):Fs yb:=⟨225,[.v .u64],[],[.u64],[⟨.ret,[(0,.v (.int .i64))],[],[(.int .i64)]⟩],fun x=>Zql F x⟩
def Zog:Fs yb:=Zum fuel
theorem Zun:Zog.Ok:=Zg (fi:={ hi:={ still:=[2]},lp:=[]}) (specs:={ l:=[]}) (okS trivial) trivial (by decide+kernel) (fun x=>by kernel_rfl)
def Yu (F:Nat) (a0:UInt64):Option (Int):=
 (Zql F a0).bind fun o196=>
 some (wi (64 - o196))
def ZiL (F:Nat):Fs yb:=⟨212,[.v .u64],[],[.u64],[⟨.ret,[(0,.v (.int .i64))],[],[(.int .i64)]⟩],fun x=>Yu F x⟩
def Zb1:Fs yb:=ZiL fuel
theorem ZiM:Zb1.Ok:=Zg (fi:={ hi:={ still:=[2,3]},lp:=[]}) (specs:={ l:=[Zog]}) (okS ⟨Zun,trivial⟩) trivial (by decide+kernel) (fun x=>by kernel_rfl)
def Qu (F:Nat) (s:(UInt64×UInt64×UInt64×UInt64×UInt64×UInt64×UInt64×UInt64×UInt64)):Option ((UInt64×UInt64×UInt64×UInt64×UInt64×UInt64×UInt64×UInt64×UInt64)⊕(UInt64×UInt64×UInt64×UInt64×UInt64×UInt64×UInt64×UInt64)):=
 if (decide (s.2.2.2.2.2.2.2.1 ≥ 4294967296))=true then
  let y204:Bool:=decide ((s.2.2.2.2.2.2.2.2+s.2.2.1) ≥ 4294967296)
  if y204=true then
   some (.inr (s.1,s.2.1,s.2.2.1,s.2.2.2.1,s.2.2.2.2.1,s.2.2.2.2.2.1,s.2.2.2.2.2.2.1,s.2.2.2.2.2.2.2.1 - 1))
  else
  some (.inl (s.1,s.2.1,s.2.2.1,s.2.2.2.1,s.2.2.2.2.1,s.2.2.2.2.2.1,s.2.2.2.2.2.2.1,s.2.2.2.2.2.2.2.1 - 1,s.2.2.2.2.2.2.2.2+s.2.2.1))
 else
 let y205:Bool:=decide ((s.2.2.2.2.2.2.2.1*s.2.2.2.1) > ((4294967296*s.2.2.2.2.2.2.2.2)+s.2.2.2.2.2.1))
 if y205=true then
  let y206:Bool:=decide ((s.2.2.2.2.2.2.2.2+s.2.2.1) ≥ 4294967296)
  if y206=true then
   some (.inr (s.1,s.2.1,s.2.2.1,s.2.2.2.1,s.2.2.2.2.1,s.2.2.2.2.2.1,s.2.2.2.2.2.2.1,s.2.2.2.2.2.2.2.1 - 1))
  else
  some (.inl (s.1,s.2.1,s.2.2.1,s.2.2.2.1,s.2.2.2.2.1,s.2.2.2.2.2.1,s.2.2.2.2.2.2.1,s.2.2.2.2.2.2.2.1 - 1,s.2.2.2.2.2.2.2.2+s.2.2.1))
 else
 some (.inr (s.1,s.2.1,s.2.2.1,s.2.2.2.1,s.2.2.2.2.1,s.2.2.2.2.2.1,s.2.2.2.2.2.2.1,s.2.2.2.2.2.2.2.1))
def Zmr:Lp:=⟨[(2,.v .u64),(8,.v .u64),(9,.v .u64),(10,.v .u64),(11,.v .u64),(13,.v .u64),(14,.v .u64),(15,.v .u64),(16,.v .u64)],[],[.u64,.u64,.u64,.u64,.u64,.u64,.u64,.u64,.u64],[⟨.exit 0,[(2,.v .u64),(8,.v .u64),(9,.v .u64),(10,.v .u64),(11,.v .u64),(13,.v .u64),(14,.v .u64),(15,.v .u64)],[],[.u64,.u64,.u64,.u64,.u64,.u64,.u64,.u64]⟩],Zd (Qu fuel) fuel⟩
theorem Zpk:Zmr.Ok yb (Zp yb 185) (Zo yb 185 0):=Zk (fi:={ hi:={ still:=[6,7,34]},lp:=[]}) (specs:={ l:=[]}) (okS trivial) trivial (by kernel_rfl) (fun v=>by kernel_rfl)
def Qv (F:Nat) (s:(UInt64×UInt64×UInt64×UInt64×UInt64×UInt64×UInt64×UInt64×UInt64)):Option ((UInt64×UInt64×UInt64×UInt64×UInt64×UInt64×UInt64×UInt64×UInt64)⊕(UInt64×UInt64×UInt64×UInt64×UInt64×UInt64)):=
 if (decide (s.2.2.2.2.2.2.2.2 ≥ 4294967296))=true then
  let y209:Bool:=decide ((s.2.2.2.2.2.2.1+s.2.2.1) ≥ 4294967296)
  if y209=true then
   some (.inr (s.1,s.2.1,s.2.2.2.2.1,s.2.2.2.2.2.1,s.2.2.2.2.2.2.2.1,s.2.2.2.2.2.2.2.2 - 1))
  else
  some (.inl (s.1,s.2.1,s.2.2.1,s.2.2.2.1,s.2.2.2.2.1,s.2.2.2.2.2.1,s.2.2.2.2.2.2.1+s.2.2.1,s.2.2.2.2.2.2.2.1,s.2.2.2.2.2.2.2.2 - 1))
 else
 let y210:Bool:=decide ((s.2.2.2.2.2.2.2.2*s.2.2.2.1) > ((4294967296*s.2.2.2.2.2.2.1)+s.2.2.2.2.1))
 if y210=true then
  let y211:Bool:=decide ((s.2.2.2.2.2.2.1+s.2.2.1) ≥ 4294967296)
  if y211=true then
   some (.inr (s.1,s.2.1,s.2.2.2.2.1,s.2.2.2.2.2.1,s.2.2.2.2.2.2.2.1,s.2.2.2.2.2.2.2.2 - 1))
  else
  some (.inl (s.1,s.2.1,s.2.2.1,s.2.2.2.1,s.2.2.2.2.1,s.2.2.2.2.2.1,s.2.2.2.2.2.2.1+s.2.2.1,s.2.2.2.2.2.2.2.1,s.2.2.2.2.2.2.2.2 - 1))
 else
 some (.inr (s.1,s.2.1,s.2.2.2.2.1,s.2.2.2.2.2.1,s.2.2.2.2.2.2.2.1,s.2.2.2.2.2.2.2.2))
def Zms:Lp:=⟨[(2,.v .u64),(8,.v .u64),(9,.v .u64),(10,.v .u64),(14,.v .u64),(15,.v .u64),(16,.v .u64),(17,.v .u64),(18,.v .u64)],[],[.u64,.u64,.u64,.u64,.u64,.u64,.u64,.u64,.u64],[⟨.exit 2,[(2,.v .u64),(8,.v .u64),(14,.v .u64),(15,.v .u64),(17,.v .u64),(18,.v .u64)],[],[.u64,.u64,.u64,.u64,.u64,.u64]⟩],Zd (Qv fuel) fuel⟩
theorem Zpl:Zms.Ok yb (Zp yb 185) (Zo yb 185 1):=Zk (fi:={ hi:={ still:=[6,7,34]},lp:=[]}) (specs:={ l:=[]}) (okS trivial) trivial (by kernel_rfl) (fun v=>by kernel_rfl)
def ZgD (F:Nat) (a0:UInt64) (a1:UInt64) (a2:UInt64):Option ((UInt64×UInt64)):=
 if (a2==0)=true then
  none
 else
 if (decide (a2≤a0))=true then
  none
 else
 if (a0==0)=true then
  if (a2 !=0)=true then
   if (a2 !=0)=true then
    some (a1 / a2,a1 % a2)
   else
   none
  else
  none
 else
 (Yu F a2).bind fun o197=>
 let y198:UInt64:=ZA (Zaf a2 (min ((w64 o197).toNat:Int).toNat 64)) 32
 let y199:UInt64:=(Zaf a2 (min ((w64 o197).toNat:Int).toNat 64))&&&4294967295
 let y200:UInt64:=ZA a1 (min ((64 - (w64 o197)).toNat:Int).toNat 64)
 let y201:UInt64:=(Zaf a0 (min ((w64 o197).toNat:Int).toNat 64))|||y200
 let y202:UInt64:=ZA (Zaf a1 (min ((w64 o197).toNat:Int).toNat 64)) 32
 let y203:UInt64:=(Zaf a1 (min ((w64 o197).toNat:Int).toNat 64))&&&4294967295
 if (y198 !=0)=true then
  (Zd (Qu F) F (Zaf a2 (min ((w64 o197).toNat:Int).toNat 64),w64 o197,y198,y199,y201,y202,y203,y201 / y198,y201 - ((y201 / y198)*y198))).bind fun o207=>
  let y208:UInt64:=((o207.2.2.2.2.1*4294967296)+o207.2.2.2.2.2.1) - (o207.2.2.2.2.2.2.2*o207.1)
  if (o207.2.2.1 !=0)=true then
   (Zd (Qv F) F (o207.1,o207.2.1,o207.2.2.1,o207.2.2.2.1,o207.2.2.2.2.2.2.1,o207.2.2.2.2.2.2.2,y208 - ((y208 / o207.2.2.1)*o207.2.2.1),y208,y208 / o207.2.2.1)).bind fun o212=>
   let y213:UInt64:=((o212.2.2.2.2.1*4294967296)+o212.2.2.1) - (o212.2.2.2.2.2*o212.1)
   some ((o212.2.2.2.1*4294967296)+o212.2.2.2.2.2,ZA y213 (min (o212.2.1.toNat:Int).toNat 64))
  else
  none
 else
 none
def Zuo (F:Nat):Fs yb:=⟨185,[.v .u64,.v .u64,.v .u64],[],[.u64,.u64,.u64],[⟨.ret,[(0,.tup [.v .u64,.v .u64])],[],[.u64,.u64]⟩],fun x=>ZgD F x.1 x.2.1 x.2.2⟩
def Zoh:Fs yb:=Zuo fuel
theorem Zup:Zoh.Ok:=Zg (fi:={ hi:={ still:=[6,7,34]},lp:=[(0,Zmr),(1,Zms)]}) (specs:={ l:=[Zb1]}) (okS ⟨ZiM,trivial⟩) ⟨Zpk,Zpl,trivial⟩ (by decide+kernel) (fun x=>by kernel_rfl)
def Zbi (F:Nat) (a0:UInt64) (a1:UInt64) (a2:UInt64):Option (UInt64):=
 if (a2 !=0)=true then
  (ZgD F (a0 % a2) a1 a2).bind fun o214=>
  some o214.2
 else
 none
def Zfq (F:Nat):Fs yb:=⟨125,[.v .u64,.v .u64,.v .u64],[],[.u64,.u64,.u64],[⟨.ret,[(0,.v .u64)],[],[.u64]⟩],fun x=>Zbi F x.1 x.2.1 x.2.2⟩
def Zuq:Fs yb:=Zfq fuel
theorem Zs0:Zuq.Ok:=Zg (fi:={ hi:={ still:=[6,12,13,14]},lp:=[]}) (specs:={ l:=[Zoh]}) (okS ⟨Zup,trivial⟩) trivial (by decide+kernel) (fun x=>by kernel_rfl)
end
end Go.Proofs.YtjbbdlffilcaaaaGreat
end
section
namespace Go.Ev
theorem Zro (a m:UInt64):(a - a / m*m).toNat=a.toNat % m.toNat:=by
 have h1:a.toNat / m.toNat*m.toNat≤a.toNat:=Nat.div_mul_le_self _ _
 have h2:=ybo a
 have h3:(a / m*m).toNat=a.toNat / m.toNat*m.toNat:=by
  rw [UInt64.toNat_mul,UInt64.toNat_div,yac (by omega)]
 have h4:(a / m*m)≤a:=by rw [ycp,h3];exact h1
 rw [UInt64.toNat_sub_of_le _ _ h4,h3]
 have:=Nat.div_add_mod a.toNat m.toNat
 rw [ybj] at this
 omega
theorem ZkI (x:UInt64):(x&&&4294967295).toNat=x.toNat % 4294967296:=by
 rw [UInt64.toNat_and]
 exact Nat.and_two_pow_sub_one_eq_mod x.toNat 32
theorem Zaw (x:UInt64) (n:Nat):(ZA x n).toNat=x.toNat / 2 ^ n:=by
 unfold ZA
 rw [yav,yac (Nat.lt_of_le_of_lt (Nat.div_le_self ..) (ybo _))]
theorem ZlK {x y:UInt64} (h:x.toNat+y.toNat < 18446744073709551616):(x+y).toNat=x.toNat+y.toNat:=by
 rw [UInt64.toNat_add,yac h]
theorem ZlL {x y:UInt64} (h:x.toNat*y.toNat < 18446744073709551616):(x*y).toNat=x.toNat*y.toNat:=by
 rw [UInt64.toNat_mul,yac h]
theorem ZkJ {a b:Nat} (ha:a < 4294967296) (hb:b < 4294967296):a*b≤18446744065119617025:=Nat.mul_le_mul (Nat.le_of_lt_succ ha) (Nat.le_of_lt_succ hb)
end Go.Ev
end
section
set_option maxRecDepth 4000
namespace Go.Proofs.YtjbbdlffilcaaaaGreat
open Go Go.Ev
section
variable {y1 y0 u d q r:Nat}
theorem ZJN (h:q*y1+r=u) (hc:4294967296*r+d < q*y0):u*4294967296+d < q*(y1*4294967296+y0):=by
 have e:q*(y1*4294967296+y0)=q*y1*4294967296+q*y0:=by rw [Nat.mul_add,Nat.mul_assoc]
 rw [e]
 omega
theorem ZFH (h:q*y1+r=u) (hc:q*y0≤4294967296*r+d):q*(y1*4294967296+y0)≤u*4294967296+d:=by
 have e:q*(y1*4294967296+y0)=q*y1*4294967296+q*y0:=by rw [Nat.mul_add,Nat.mul_assoc]
 rw [e]
 omega
theorem ZIY (hu:u < y1*4294967296+y0) (hd:d < 4294967296):(u*4294967296+d) / (y1*4294967296+y0) < 4294967296:=by
 rw [Nat.div_lt_iff_lt_mul (by omega)]
 omega
theorem ZCi (h:q*y1+r=u) (hq:1≤q):(q - 1)*y1+(r+y1)=u:=by
 have e:q*y1=(q - 1)*y1+y1:=by
  rw [←Nat.succ_mul]
  congr 1
  omega
 omega
theorem ZFI (hu:u < y1*4294967296+y0) (h0:y0 < 4294967296) (h:q*y1+r=u) (hr:4294967296≤r):q*y0≤4294967296*r+d:=by
 by_cases hq:q < 4294967296
 ·have:q*y0≤4294967295*4294967295:=Nat.mul_le_mul (by omega) (by omega)
  omega
 ·have:4294967296*y1≤q*y1:=Nat.mul_le_mul_right _ (by omega)
  omega
end
theorem ZA7 {q T Y:Nat} (hY:0 < Y) (h1:T / Y≤q) (h2:q*Y≤T):q=T / Y:=Nat.le_antisymm ((Nat.le_div_iff_mul_le hY).2 h2) h1
theorem Zzj {y1 y0 u d:Nat} {Q R Y0 Y1 D:UInt64} (hY1:Y1.toNat=y1) (hY0:Y0.toNat=y0) (hD:D.toNat=d) (h1:y1 < 4294967296) (h0:y0 < 4294967296) (hd:d < 4294967296) (hu:u < y1*4294967296+y0)
 (e:Q.toNat*y1+R.toNat=u) (hr:R.toNat < 4294967296) (hge:(u*4294967296+d) / (y1*4294967296+y0)≤Q.toNat):
 ((Q ≥ 4294967296∨(Q*Y0 > (4294967296*R)+D))∧(u*4294967296+d) / (y1*4294967296+y0)≤(Q - 1).toNat∧(Q - 1).toNat*y1+(R+Y1).toNat=u∧(R+Y1).toNat=R.toNat+y1)∨
 (¬Q ≥ 4294967296∧¬(Q*Y0 > (4294967296*R)+D)∧Q.toNat=(u*4294967296+d) / (y1*4294967296+y0)):=by
 have hadd:(R+Y1).toNat=R.toNat+y1:=by rw [ZlK (by omega),hY1]
 have hrd:((4294967296*R)+D).toNat=4294967296*R.toNat+d:=by
  have m:(4294967296*R:UInt64).toNat=4294967296*R.toNat:=by
   rw [ZlL (by show 4294967296*R.toNat < _;omega)]
   rfl
  rw [ZlK (by rw [m];omega),m,hD]
 have dec:1≤Q.toNat→(Q - 1).toNat=Q.toNat - 1:=fun h=>by
  rw [UInt64.toNat_sub_of_le _ _ (by rw [ycp];exact h)]
  rfl
 by_cases c1:Q ≥ 4294967296
 ·left
  have hq:4294967296≤Q.toNat:=by
   rw [ge_iff_le,ycp] at c1
   exact c1
  have:=ZIY hu hd
  refine ⟨.inl c1,by rw [dec (by omega)];omega, ?_,hadd⟩
  rw [dec (by omega),hadd]
  exact ZCi e (by omega)
 have hq:Q.toNat < 4294967296:=by
  rw [ge_iff_le,ycp] at c1
  exact Nat.lt_of_not_le c1
 have hmul:(Q*Y0).toNat=Q.toNat*y0:=by
  have:=ZkJ hq h0
  rw [ZlL (by rw [hY0];omega),hY0]
 by_cases c2:Q*Y0 > (4294967296*R)+D
 ·left
  have c3:4294967296*R.toNat+d < Q.toNat*y0:=by
   have:=yby.1 c2
   rw [hmul,hrd] at this
   exact this
  have q1:1≤Q.toNat:=by
   rcases ybr Q.toNat with h|h
   ·rw [h,Nat.zero_mul] at c3;omega
   ·exact h
  have hg:=ZJN (d:=d) e c3
  have hlt:(u*4294967296+d) / (y1*4294967296+y0) < Q.toNat:=(Nat.div_lt_iff_lt_mul (by omega)).2 hg
  refine ⟨.inr c2,by rw [dec q1];omega, ?_,hadd⟩
  rw [dec q1,hadd]
  exact ZCi e q1
 ·right
  have c3:Q.toNat*y0≤4294967296*R.toNat+d:=by
   have:¬(((4294967296*R)+D).toNat < (Q*Y0).toNat):=fun h=>c2 (yby.2 h)
   rw [hmul,hrd] at this
   omega
  exact ⟨c1,c2,ZA7 (by omega) hge (ZFH e c3)⟩
theorem ZJO {y1 y0 u d:Nat} {Yv N Y1 Y0 U D E Q R:UInt64} (hY1:Y1.toNat=y1) (hY0:Y0.toNat=y0) (hD:D.toNat=d) (h1:y1 < 4294967296) (h3:0 < y1) (h0:y0 < 4294967296) (hd:d < 4294967296) (hu:u < y1*4294967296+y0)
 (e:Q.toNat*y1+R.toNat=u) (hr:R.toNat < 4294967296) (hge:(u*4294967296+d) / (y1*4294967296+y0)≤Q.toNat):
 ∃q:UInt64,Zd (Qu fuel) fuel (Yv,N,Y1,Y0,U,D,E,Q,R)=some (Yv,N,Y1,Y0,U,D,E,q)∧q.toNat=(u*4294967296+d) / (y1*4294967296+y0):=by
 obtain ⟨x,hx,q,rfl,hq⟩:=WI (step:=Qu fuel) (fun s=>∃Q R:UInt64,s=(Yv,N,Y1,Y0,U,D,E,Q,R)∧Q.toNat*y1+R.toNat=u∧R.toNat < 4294967296∧(u*4294967296+d) / (y1*4294967296+y0)≤Q.toNat)
  (fun s=>4294967296 - s.2.2.2.2.2.2.2.2.toNat) (fun x=>∃q:UInt64,x=(Yv,N,Y1,Y0,U,D,E,q)∧q.toNat=(u*4294967296+d) / (y1*4294967296+y0)) (by
  rintro _ ⟨Q,R,rfl,e,hr,hge⟩
  unfold Qu
  dsimp only
  rcases Zzj hY1 hY0 hD h1 h0 hd hu e hr hge with ⟨c,k1,k2,k3⟩|⟨c1,c2,k⟩
  ·have key:(∃j,(if decide (R+Y1 ≥ 4294967296)=true then some (Sum.inr (Yv,N,Y1,Y0,U,D,E,Q - 1)) else some (Sum.inl (Yv,N,Y1,Y0,U,D,E,Q - 1,R+Y1)):Option ((UInt64×UInt64×UInt64×UInt64×UInt64×UInt64×UInt64×UInt64×UInt64)⊕(UInt64×UInt64×UInt64×UInt64×UInt64×UInt64×UInt64×UInt64)))=some (.inl j)∧
    (∃Q R:UInt64,j=(Yv,N,Y1,Y0,U,D,E,Q,R)∧Q.toNat*y1+R.toNat=u∧R.toNat < 4294967296∧(u*4294967296+d) / (y1*4294967296+y0)≤Q.toNat)∧4294967296 - j.2.2.2.2.2.2.2.2.toNat < 4294967296 - R.toNat)∨
    (∃x,(if decide (R+Y1 ≥ 4294967296)=true then some (Sum.inr (Yv,N,Y1,Y0,U,D,E,Q - 1)) else some (Sum.inl (Yv,N,Y1,Y0,U,D,E,Q - 1,R+Y1)):Option ((UInt64×UInt64×UInt64×UInt64×UInt64×UInt64×UInt64×UInt64×UInt64)⊕(UInt64×UInt64×UInt64×UInt64×UInt64×UInt64×UInt64×UInt64)))=some (.inr x)∧
    ∃q:UInt64,x=(Yv,N,Y1,Y0,U,D,E,q)∧q.toNat=(u*4294967296+d) / (y1*4294967296+y0)):=by
    by_cases hb:R+Y1 ≥ 4294967296
    ·right
     rw [if_pos (decide_eq_true hb)]
     have hb2:4294967296≤(R+Y1).toNat:=by
      rw [ge_iff_le,ycp] at hb
      exact hb
     exact ⟨_,rfl,_,rfl,ZA7 (by omega) k1 (ZFH k2 (ZFI hu h0 k2 hb2))⟩
    ·left
     rw [if_neg (by rw [decide_eq_true_iff];exact hb)]
     have hb2:(R+Y1).toNat < 4294967296:=by
      rw [ge_iff_le,ycp] at hb
      exact Nat.lt_of_not_le hb
     exact ⟨_,rfl,⟨_,_,rfl,k2,hb2,k1⟩,by dsimp only;omega⟩
   rcases c with c|c
   ·rw [if_pos (decide_eq_true c)]
    exact key
   ·by_cases c1:Q ≥ 4294967296
    ·rw [if_pos (decide_eq_true c1)]
     exact key
    ·rw [if_neg (by rw [decide_eq_true_iff];exact c1),if_pos (decide_eq_true c)]
     exact key
  ·right
   rw [if_neg (by rw [decide_eq_true_iff];exact c1),if_neg (by rw [decide_eq_true_iff];exact c2)]
   exact ⟨_,rfl,_,rfl,k⟩) (Yv,N,Y1,Y0,U,D,E,Q,R) ⟨Q,R,rfl,e,hr,hge⟩ (by dsimp only;omega)
 exact ⟨q,hx,hq⟩
theorem ZJP {y1 y0 u d:Nat} {Yv N Y1 Y0 U D E Q R:UInt64} (hY1:Y1.toNat=y1) (hY0:Y0.toNat=y0) (hD:D.toNat=d) (h1:y1 < 4294967296) (h3:0 < y1) (h0:y0 < 4294967296) (hd:d < 4294967296) (hu:u < y1*4294967296+y0)
 (e:Q.toNat*y1+R.toNat=u) (hr:R.toNat < 4294967296) (hge:(u*4294967296+d) / (y1*4294967296+y0)≤Q.toNat):
 ∃q:UInt64,Zd (Qv fuel) fuel (Yv,N,Y1,Y0,D,E,R,U,Q)=some (Yv,N,D,E,U,q)∧q.toNat=(u*4294967296+d) / (y1*4294967296+y0):=by
 obtain ⟨x,hx,q,rfl,hq⟩:=WI (step:=Qv fuel) (fun s=>∃Q R:UInt64,s=(Yv,N,Y1,Y0,D,E,R,U,Q)∧Q.toNat*y1+R.toNat=u∧R.toNat < 4294967296∧(u*4294967296+d) / (y1*4294967296+y0)≤Q.toNat)
  (fun s=>4294967296 - s.2.2.2.2.2.2.1.toNat) (fun x=>∃q:UInt64,x=(Yv,N,D,E,U,q)∧q.toNat=(u*4294967296+d) / (y1*4294967296+y0)) (by
  rintro _ ⟨Q,R,rfl,e,hr,hge⟩
  unfold Qv
  dsimp only
  rcases Zzj hY1 hY0 hD h1 h0 hd hu e hr hge with ⟨c,k1,k2,k3⟩|⟨c1,c2,k⟩
  ·have key:(∃j,(if decide (R+Y1 ≥ 4294967296)=true then some (Sum.inr (Yv,N,D,E,U,Q - 1)) else some (Sum.inl (Yv,N,Y1,Y0,D,E,R+Y1,U,Q - 1)):Option ((UInt64×UInt64×UInt64×UInt64×UInt64×UInt64×UInt64×UInt64×UInt64)⊕(UInt64×UInt64×UInt64×UInt64×UInt64×UInt64)))=some (.inl j)∧
    (∃Q R:UInt64,j=(Yv,N,Y1,Y0,D,E,R,U,Q)∧Q.toNat*y1+R.toNat=u∧R.toNat < 4294967296∧(u*4294967296+d) / (y1*4294967296+y0)≤Q.toNat)∧4294967296 - j.2.2.2.2.2.2.1.toNat < 4294967296 - R.toNat)∨
    (∃x,(if decide (R+Y1 ≥ 4294967296)=true then some (Sum.inr (Yv,N,D,E,U,Q - 1)) else some (Sum.inl (Yv,N,Y1,Y0,D,E,R+Y1,U,Q - 1)):Option ((UInt64×UInt64×UInt64×UInt64×UInt64×UInt64×UInt64×UInt64×UInt64)⊕(UInt64×UInt64×UInt64×UInt64×UInt64×UInt64)))=some (.inr x)∧
    ∃q:UInt64,x=(Yv,N,D,E,U,q)∧q.toNat=(u*4294967296+d) / (y1*4294967296+y0)):=by
    by_cases hb:R+Y1 ≥ 4294967296
    ·right
     rw [if_pos (decide_eq_true hb)]
     have hb2:4294967296≤(R+Y1).toNat:=by
      rw [ge_iff_le,ycp] at hb
      exact hb
     exact ⟨_,rfl,_,rfl,ZA7 (by omega) k1 (ZFH k2 (ZFI hu h0 k2 hb2))⟩
    ·left
     rw [if_neg (by rw [decide_eq_true_iff];exact hb)]
     have hb2:(R+Y1).toNat < 4294967296:=by
      rw [ge_iff_le,ycp] at hb
      exact Nat.lt_of_not_le hb
     exact ⟨_,rfl,⟨_,_,rfl,k2,hb2,k1⟩,by dsimp only;omega⟩
   rcases c with c|c
   ·rw [if_pos (decide_eq_true c)]
    exact key
   ·by_cases c1:Q ≥ 4294967296
    ·rw [if_pos (decide_eq_true c1)]
     exact key
    ·rw [if_neg (by rw [decide_eq_true_iff];exact c1),if_pos (decide_eq_true c)]
     exact key
  ·right
   rw [if_neg (by rw [decide_eq_true_iff];exact c1),if_neg (by rw [decide_eq_true_iff];exact c2)]
   exact ⟨_,rfl,_,rfl,k⟩) (Yv,N,Y1,Y0,D,E,R,U,Q) ⟨Q,R,rfl,e,hr,hge⟩ (by dsimp only;omega)
 exact ⟨q,hx,hq⟩
theorem ZCj {A B:UInt64} {a b:Nat} (hA:A.toNat=a % 18446744073709551616) (hB:B.toNat=b % 18446744073709551616) (h:b≤a) (hd:a - b < 18446744073709551616):(A - B).toNat=a - b:=by
 rw [UInt64.toNat_sub,hA,hB]
 omega
theorem Zqm (u y1:Nat):u / y1*y1+u % y1=u:=by
 have:=Nat.div_add_mod u y1
 rw [ybj] at this
 exact this
theorem ZFJ {u y1 y0 d:Nat} (h1:0 < y1) (hd:d < 4294967296):(u*4294967296+d) / (y1*4294967296+y0)≤u / y1:=by
 have h:(u*4294967296+d) / (y1*4294967296+y0)≤(u*4294967296+d) / (y1*4294967296):=Nat.div_le_div_left (by omega) (by omega)
 have e:(u*4294967296+d) / (y1*4294967296)=u / y1:=by
  rw [ybj y1, ←Nat.div_div_eq_div_mul]
  congr 1
  omega
 omega
theorem ZFK {a b y:UInt64} {s:Nat} {Y:UInt64} (hy:y≠0) (hs:Yu fuel y=some (s:Int)) (s0:0 < s) (s1:s < 64) (hY:Zaf y s=Y) (hYn:Y.toNat=y.toNat*2 ^ s) (hY63:9223372036854775808≤Y.toNat) (ha:a.toNat < y.toNat):
 ∃q r,ZgD fuel a b y=some (q,r)∧r.toNat=(a.toNat*18446744073709551616+b.toNat) % y.toNat:=by
 have ha2:¬(y≤a):=by
  rw [ycp]
  omega
 unfold ZgD
 rw [if_neg (by rw [beq_iff_eq];exact hy),if_neg (by rw [decide_eq_true_iff];exact ha2)]
 by_cases h0:a=0
 ·subst h0
  rw [if_pos (by decide),if_pos (by rw [bne_iff_ne];exact hy),if_pos (by rw [bne_iff_ne];exact hy)]
  refine ⟨_,_,rfl, ?_⟩
  rw [UInt64.toNat_mod]
  simp
 rw [if_neg (by rw [beq_iff_eq];exact h0),hs,ya]
 dsimp only
 have w:w64 (s:Int)=yv s:=by
  unfold w64
  congr 1
  omega
 have ws:(w64 (s:Int)).toNat=s:=by rw [w,yav,yac (by omega)]
 have e1:min ((w64 (s:Int)).toNat:Int).toNat 64=s:=by rw [ws];omega
 have e2:(64 - w64 (s:Int)).toNat=64 - s:=by
  rw [UInt64.toNat_sub_of_le _ _ (by rw [ycp,ws];show s≤64;omega),ws]
  rfl
 have e3:min ((64 - w64 (s:Int)).toNat:Int).toNat 64=64 - s:=by rw [e2];omega
 rw [e1,e3,hY]
 have hYl:=ybo Y
 have hb:=ybo b
 have p64:2 ^ (64 - s)*2 ^ s=18446744073709551616:=by
  rw [←Nat.pow_add]
  have:64 - s+s=64:=by omega
  rw [this]
 have hp:0 < 2 ^ s:=Nat.pow_pos (by decide)
 obtain ⟨y1,hy1⟩:∃y1,y1=Y.toNat / 4294967296:=⟨_,rfl⟩
 obtain ⟨y0,hy0⟩:∃y0,y0=Y.toNat % 4294967296:=⟨_,rfl⟩
 have hYd:Y.toNat=y1*4294967296+y0:=by omega
 have ty1:(ZA Y 32).toNat=y1:=by rw [Zaw,hy1]
 have ty0:(Y&&&4294967295).toNat=y0:=by rw [ZkI,hy0]
 have l1:y1 < 4294967296:=by omega
 have g1:2147483648≤y1:=by omega
 have l0:y0 < 4294967296:=by omega
 have hash:a.toNat*2 ^ s < Y.toNat:=by rw [hYn];exact Nat.mul_lt_mul_of_pos_right ha hp
 have bd:b.toNat / 2 ^ (64 - s) < 2 ^ s:=by
  rw [Nat.div_lt_iff_lt_mul (Nat.pow_pos (by decide)),ybj,p64]
  exact hb
 have tu:((Zaf a s)|||(ZA b (64 - s))).toNat=a.toNat*2 ^ s+b.toNat / 2 ^ (64 - s):=by
  rw [UInt64.toNat_or,Zaw]
  unfold Zaf
  rw [yav,yac (by omega),ybj, ←ycx bd]
 have t10:(Zaf b s).toNat=b.toNat*2 ^ s % 18446744073709551616:=by
  unfold Zaf
  rw [yav]
 obtain ⟨u,hu⟩:∃u,u=a.toNat*2 ^ s+b.toNat / 2 ^ (64 - s):=⟨_,rfl⟩
 obtain ⟨v,hv⟩:∃v,v=b.toNat*2 ^ s % 18446744073709551616:=⟨_,rfl⟩
 rw [←hu] at tu
 rw [←hv] at t10
 have hbs:b.toNat*2 ^ s=b.toNat / 2 ^ (64 - s)*18446744073709551616+v:=by
  have h1:=Nat.div_add_mod (b.toNat*2 ^ s) 18446744073709551616
  have h2:b.toNat*2 ^ s / 18446744073709551616=b.toNat / 2 ^ (64 - s):=by
   rw [←p64]
   exact Nat.mul_div_mul_right _ _ hp
  rw [h2, ←hv] at h1
  omega
 have hN:(a.toNat*18446744073709551616+b.toNat)*2 ^ s=u*18446744073709551616+v:=by
  rw [Nat.add_mul,hbs,hu,Nat.mul_right_comm]
  omega
 have uY:u < y1*4294967296+y0:=by
  rw [←hYd,hu,hYn]
  have h1:(a.toNat+1)*2 ^ s≤y.toNat*2 ^ s:=Nat.mul_le_mul_right _ ha
  rw [Nat.add_mul,Nat.one_mul] at h1
  omega
 have hvl:v < 18446744073709551616:=by rw [hv];exact yaq _ (by decide)
 obtain ⟨d1,hd1⟩:∃d1,d1=v / 4294967296:=⟨_,rfl⟩
 obtain ⟨d0,hd0⟩:∃d0,d0=v % 4294967296:=⟨_,rfl⟩
 have td1:(ZA (Zaf b s) 32).toNat=d1:=by rw [Zaw,t10,hd1]
 have td0:((Zaf b s)&&&4294967295).toNat=d0:=by rw [ZkI,t10,hd0]
 generalize ((Zaf a s)|||(ZA b (64 - s)):UInt64)=U at tu ⊢
 generalize (ZA (Zaf b s) 32:UInt64)=D1 at td1 ⊢
 generalize ((Zaf b s)&&&4294967295:UInt64)=D0 at td0 ⊢
 generalize (ZA Y 32:UInt64)=Y1 at ty1 ⊢
 generalize (Y&&&4294967295:UInt64)=Y0 at ty0 ⊢
 have y1ne:(Y1 !=0)=true:=by
  rw [bne_iff_ne]
  intro h
  rw [h] at ty1
  have:(0:UInt64).toNat=0:=rfl
  omega
 rw [if_pos y1ne]
 have f1:(U / Y1).toNat*y1+(U - U / Y1*Y1).toNat=u:=by
  rw [Zro,UInt64.toNat_div,tu,ty1]
  exact Zqm u y1
 have f2:(U - U / Y1*Y1).toNat < 4294967296:=by
  rw [Zro,tu,ty1]
  exact Nat.lt_trans (yaq _ (by omega)) l1
 have f3:(u*4294967296+d1) / (y1*4294967296+y0)≤(U / Y1).toNat:=by
  rw [UInt64.toNat_div,tu,ty1]
  exact ZFJ (by omega) (by omega)
 obtain ⟨q1,k1,k2⟩:=ZJO (Yv:=Y) (N:=w64 (s:Int)) (U:=U) (E:=D0) ty1 ty0 td1 l1 (by omega) l0 (by omega) uY f1 f2 f3
 rw [k1,ya]
 dsimp only
 rw [if_pos y1ne]
 have m1:=Nat.div_add_mod (u*4294967296+d1) Y.toNat
 have m2:(u*4294967296+d1) % Y.toNat < Y.toNat:=yaq _ (by omega)
 rw [←hYd] at k2
 have tv:(((U*4294967296)+D1) - (q1*Y)).toNat=(u*4294967296+d1) % Y.toNat:=by
  rw [ZCj (a:=u*4294967296+d1) (b:=q1.toNat*Y.toNat) ?_ ?_ ?_ ?_]
  ·rw [k2,ybj ((u*4294967296+d1) / Y.toNat)]
   omega
  ·rw [UInt64.toNat_add,UInt64.toNat_mul,tu,td1,show (4294967296:UInt64).toNat=4294967296 from rfl]
   omega
  ·rw [UInt64.toNat_mul]
  ·rw [k2,ybj ((u*4294967296+d1) / Y.toNat)]
   omega
  ·rw [k2,ybj ((u*4294967296+d1) / Y.toNat)]
   omega
 obtain ⟨u2,hu2⟩:∃u2,u2=(u*4294967296+d1) % Y.toNat:=⟨_,rfl⟩
 rw [←hu2] at tv m2 m1
 generalize (((U*4294967296)+D1) - (q1*Y):UInt64)=V at tv ⊢
 have f4:(V / Y1).toNat*y1+(V - V / Y1*Y1).toNat=u2:=by
  rw [Zro,UInt64.toNat_div,tv,ty1]
  exact Zqm u2 y1
 have f5:(V - V / Y1*Y1).toNat < 4294967296:=by
  rw [Zro,tv,ty1]
  exact Nat.lt_trans (yaq _ (by omega)) l1
 have f6:(u2*4294967296+d0) / (y1*4294967296+y0)≤(V / Y1).toNat:=by
  rw [UInt64.toNat_div,tv,ty1]
  exact ZFJ (by omega) (by omega)
 obtain ⟨q0,k3,k4⟩:=ZJP (Yv:=Y) (N:=w64 (s:Int)) (U:=V) (E:=q1) ty1 ty0 td0 l1 (by omega) l0 (by omega) (by rw [←hYd];exact m2) f4 f5 f6
 rw [k3,ya]
 refine ⟨_,_,rfl, ?_⟩
 dsimp only
 rw [e1,Zaw]
 rw [←hYd] at k4
 have m3:=Nat.div_add_mod (u2*4294967296+d0) Y.toNat
 have m4:(u2*4294967296+d0) % Y.toNat < Y.toNat:=yaq _ (by omega)
 have tr:(((V*4294967296)+D0) - (q0*Y)).toNat=(u2*4294967296+d0) % Y.toNat:=by
  rw [ZCj (a:=u2*4294967296+d0) (b:=q0.toNat*Y.toNat) ?_ ?_ ?_ ?_]
  ·rw [k4,ybj ((u2*4294967296+d0) / Y.toNat)]
   omega
  ·rw [UInt64.toNat_add,UInt64.toNat_mul,tv,td0,show (4294967296:UInt64).toNat=4294967296 from rfl]
   omega
  ·rw [UInt64.toNat_mul]
  ·rw [k4,ybj ((u2*4294967296+d0) / Y.toNat)]
   omega
  ·rw [k4,ybj ((u2*4294967296+d0) / Y.toNat)]
   omega
 rw [tr]
 have hNm:((a.toNat*18446744073709551616+b.toNat)*2 ^ s) % Y.toNat=(u2*4294967296+d0) % Y.toNat:=by
  have e:(a.toNat*18446744073709551616+b.toNat)*2 ^ s=u2*4294967296+d0+Y.toNat*((u*4294967296+d1) / Y.toNat*4294967296):=by
   rw [hN, ←Nat.mul_assoc]
   omega
  rw [e,Nat.add_mul_mod_self_left]
 rw [←hNm,hYn,Nat.mul_mod_mul_right,Nat.mul_div_cancel _ hp]
theorem Zxi {y Y:UInt64} {s:Nat} (a b:UInt64) (hy:y≠0) (hs:Yu fuel y=some (s:Int)) (s0:0 < s) (s1:s < 64) (hY:Zaf y s=Y) (hYn:Y.toNat=y.toNat*2 ^ s) (hY63:9223372036854775808≤Y.toNat):
 Zbi fuel a b y=some (yv ((a.toNat*18446744073709551616+b.toNat) % y.toNat)):=by
 have hp:0 < y.toNat:=by
  rcases ybr y.toNat with h|h
  ·exact absurd (yaw.1 h) hy
  ·exact h
 obtain ⟨q,r,h1,h2⟩:=ZFK (a:=a % y) (b:=b) hy hs s0 s1 hY hYn hY63 (by rw [UInt64.toNat_mod];exact yaq _ hp)
 unfold Zbi
 rw [if_pos (by rw [bne_iff_ne];exact hy),h1,ya]
 dsimp only
 rw [UInt64.toNat_mod,Nat.add_mod,Nat.mod_mul_mod, ←Nat.add_mod] at h2
 rw [←h2,UInt64.ofNat_toNat]
theorem ZIZ:Yu fuel 4611686018427377339=some ((2:Nat):Int):=by kernel_rfl
theorem ZI0:Yu fuel 2305843009213688669=some ((3:Nat):Int):=by kernel_rfl
theorem ZI1:Yu fuel 2305843009213688668=some ((3:Nat):Int):=by kernel_rfl
noncomputable def X0 (F:Nat) (a0:UInt64) (a1:UInt64) (a2:UInt64):Option UInt64:=
 if (a2==4611686018427377339 || (a2==2305843009213688669 || a2==2305843009213688668))=true then some (yv ((a0.toNat*18446744073709551616+a1.toNat) % a2.toNat)) else Zbi F a0 a1 a2
theorem ZFL (a b y:UInt64):Zbi fuel a b y=X0 fuel a b y:=by
 unfold X0
 split
 ·rename_i h
  simp only [Bool.or_eq_true,beq_iff_eq] at h
  rcases h with rfl|rfl|rfl
  ·exact Zxi (Y:=18446744073709509356) (s:=2) a b (by decide) ZIZ (by decide) (by decide) (by kernel_rfl) (by decide) (by decide)
  ·exact Zxi (Y:=18446744073709509352) (s:=3) a b (by decide) ZI0 (by decide) (by decide) (by kernel_rfl) (by decide) (by decide)
  ·exact Zxi (Y:=18446744073709509344) (s:=3) a b (by decide) ZI1 (by decide) (by decide) (by kernel_rfl) (by decide) (by decide)
 ·rfl
noncomputable def Zur (F:Nat):Fs yb:={ Zfq F with M:=fun x=>X0 F x.1 x.2.1 x.2.2}
noncomputable def Zek:Fs yb:=Zur fuel
theorem Zha:Zek.Ok:=Zm8 (s:=Zfq fuel) Zs0 fun x=>(ZFL x.1 x.2.1 x.2.2).symm
end Go.Proofs.YtjbbdlffilcaaaaGreat
end
section
set_option maxRecDepth 4000
namespace Go.Proofs.YtjbbdlffilcaaaaGreat
open Go Go.Ev
noncomputable section
def Zel (F:Nat) (a0:UInt64) (a1:UInt64):Option ((UInt64×UInt64)):=
 let y215:UInt64:=ZA ((a0&&&4294967295)*(a1&&&4294967295)) 32
 let y216:UInt64:=(((ZA a0 32)*(a1&&&4294967295))+y215)&&&4294967295
 let y217:UInt64:=ZA (((ZA a0 32)*(a1&&&4294967295))+y215) 32
 let y218:UInt64:=ZA (y216+((a0&&&4294967295)*(ZA a1 32))) 32
 some ((((ZA a0 32)*(ZA a1 32))+y217)+y218,a0*a1)
def Zfr (F:Nat):Fs yb:=⟨196,[.v .u64,.v .u64],[],[.u64,.u64],[⟨.ret,[(0,.tup [.v .u64,.v .u64])],[],[.u64,.u64]⟩],fun x=>Zel F x.1 x.2⟩
def Zus:Fs yb:=Zfr fuel
theorem Zs1:Zus.Ok:=Zg (fi:={ hi:={ still:=[4,5]},lp:=[]}) (specs:={ l:=[]}) (okS trivial) trivial (by decide+kernel) (fun x=>by kernel_rfl)
end
end Go.Proofs.YtjbbdlffilcaaaaGreat
end
section
set_option maxRecDepth 4000
namespace Go.Proofs.YtjbbdlffilcaaaaGreat
open Go Go.Ev
theorem ZFM (x y:UInt64):∃h l,Zel fuel x y=some (h,l)∧h.toNat*18446744073709551616+l.toNat=x.toNat*y.toNat:=by
 unfold Zel
 refine ⟨_,_,rfl, ?_⟩
 have hx:=ybo x
 have hy:=ybo y
 have x0l:x.toNat % 4294967296 < 4294967296:=yaq _ (by decide)
 have y0l:y.toNat % 4294967296 < 4294967296:=yaq _ (by decide)
 have x1l:x.toNat / 4294967296 < 4294967296:=by omega
 have y1l:y.toNat / 4294967296 < 4294967296:=by omega
 have xe:x.toNat=x.toNat / 4294967296*4294967296+x.toNat % 4294967296:=by omega
 have ye:y.toNat=y.toNat / 4294967296*4294967296+y.toNat % 4294967296:=by omega
 generalize hX1:x.toNat / 4294967296=x1 at*
 generalize hX0:x.toNat % 4294967296=x0 at*
 generalize hY1:y.toNat / 4294967296=y1 at*
 generalize hY0:y.toNat % 4294967296=y0 at*
 have p00:=ZkJ x0l y0l
 have p10:=ZkJ x1l y0l
 have p01:=ZkJ x0l y1l
 have p11:=ZkJ x1l y1l
 have prod:x.toNat*y.toNat=x1*y1*18446744073709551616+(x1*y0+x0*y1)*4294967296+x0*y0:=by
  rw [xe,ye,Nat.add_mul,Nat.mul_add,Nat.mul_add]
  have e1:x1*4294967296*(y1*4294967296)=x1*y1*18446744073709551616:=by
   rw [Nat.mul_assoc,Nat.mul_left_comm 4294967296 y1, ←Nat.mul_assoc]
  have e2:x1*4294967296*y0=x1*y0*4294967296:=by rw [Nat.mul_right_comm]
  have e3:x0*(y1*4294967296)=x0*y1*4294967296:=by rw [Nat.mul_assoc]
  rw [e1,e2,e3]
  omega
 have q00:((x&&&4294967295)*(y&&&4294967295)).toNat=x0*y0:=by
  rw [ZlL (by rw [ZkI,ZkI,hX0,hY0];omega),ZkI,ZkI,hX0,hY0]
 have q10:((ZA x 32)*(y&&&4294967295)).toNat=x1*y0:=by
  rw [ZlL (by rw [Zaw,ZkI,show (2:Nat) ^ 32=4294967296 from rfl,hX1,hY0];omega),Zaw,ZkI,show (2:Nat) ^ 32=4294967296 from rfl,hX1,hY0]
 have q01:((x&&&4294967295)*(ZA y 32)).toNat=x0*y1:=by
  rw [ZlL (by rw [Zaw,ZkI,show (2:Nat) ^ 32=4294967296 from rfl,hX0,hY1];omega),Zaw,ZkI,show (2:Nat) ^ 32=4294967296 from rfl,hX0,hY1]
 have q11:((ZA x 32)*(ZA y 32)).toNat=x1*y1:=by
  rw [ZlL (by rw [Zaw,Zaw,show (2:Nat) ^ 32=4294967296 from rfl,hX1,hY1];omega),Zaw,Zaw,show (2:Nat) ^ 32=4294967296 from rfl,hX1,hY1]
 generalize hA:((x&&&4294967295)*(y&&&4294967295):UInt64)=A at*
 generalize hB:((ZA x 32)*(y&&&4294967295):UInt64)=B at*
 generalize hC:((x&&&4294967295)*(ZA y 32):UInt64)=C at*
 generalize hD:((ZA x 32)*(ZA y 32):UInt64)=D at*
 have s1:(ZA A 32).toNat=x0*y0 / 4294967296:=by rw [Zaw,q00]
 have s2:(B+ZA A 32).toNat=x1*y0+x0*y0 / 4294967296:=by rw [ZlK (by rw [q10,s1];omega),q10,s1]
 have s3:((B+ZA A 32)&&&4294967295).toNat=(x1*y0+x0*y0 / 4294967296) % 4294967296:=by rw [ZkI,s2]
 have s4:(ZA (B+ZA A 32) 32).toNat=(x1*y0+x0*y0 / 4294967296) / 4294967296:=by rw [Zaw,s2]
 have s5:(((B+ZA A 32)&&&4294967295)+C).toNat=(x1*y0+x0*y0 / 4294967296) % 4294967296+x0*y1:=by rw [ZlK (by rw [s3,q01];omega),s3,q01]
 have s6:(ZA (((B+ZA A 32)&&&4294967295)+C) 32).toNat=((x1*y0+x0*y0 / 4294967296) % 4294967296+x0*y1) / 4294967296:=by rw [Zaw,s5]
 have s7:(D+ZA (B+ZA A 32) 32).toNat=x1*y1+(x1*y0+x0*y0 / 4294967296) / 4294967296:=by rw [ZlK (by rw [q11,s4];omega),q11,s4]
 have s8:(x*y).toNat=x.toNat*y.toNat % 18446744073709551616:=UInt64.toNat_mul ..
 have s9:((D+ZA (B+ZA A 32) 32)+ZA (((B+ZA A 32)&&&4294967295)+C) 32).toNat=x1*y1+(x1*y0+x0*y0 / 4294967296) / 4294967296+((x1*y0+x0*y0 / 4294967296) % 4294967296+x0*y1) / 4294967296:=by
  rw [ZlK (by rw [s7,s6];omega),s7,s6]
 rw [s9,s8,prod]
 generalize x0*y0=a at*
 generalize x1*y0=b at*
 generalize x0*y1=c at*
 generalize x1*y1=d at*
 omega
theorem ZFN (x y:UInt64):Zel fuel x y=some (yv (x.toNat*y.toNat / 18446744073709551616),yv (x.toNat*y.toNat % 18446744073709551616)):=by
 obtain ⟨h,l,e,k⟩:=ZFM x y
 have hl:=ybo l
 rw [e, ←k,show (h.toNat*18446744073709551616+l.toNat) / 18446744073709551616=h.toNat by omega,show (h.toNat*18446744073709551616+l.toNat) % 18446744073709551616=l.toNat by omega,UInt64.ofNat_toNat,UInt64.ofNat_toNat]
noncomputable def Qw (F:Nat) (a0:UInt64) (a1:UInt64):Option (UInt64×UInt64):=some (yv (a0.toNat*a1.toNat / 18446744073709551616),yv (a0.toNat*a1.toNat % 18446744073709551616))
noncomputable def Zut (F:Nat):Fs yb:={ Zfr F with M:=fun x=>Qw F x.1 x.2}
noncomputable def ZiN:Fs yb:=Zut fuel
theorem Zmt:ZiN.Ok:=Zm8 (s:=Zfr fuel) Zs1 fun x=>(ZFN x.1 x.2).symm
end Go.Proofs.YtjbbdlffilcaaaaGreat
end
section
set_option maxRecDepth 4000
namespace Go.Proofs.YtjbbdlffilcaaaaGreat
open Go Go.Ev
noncomputable section
def Yl (F:Nat) (a0:UInt64) (a1:UInt64):Option (UInt64):=
 (Qw F a0 a1).bind fun o219=>
 (X0 F o219.1 o219.2 (4611686018427377339:UInt64)).bind fun o220=>
 some o220
def Zs2 (F:Nat):Fs yb:=⟨151,[.v .u64,.v .u64],[],[.u64,.u64],[⟨.ret,[(0,.v .u64)],[],[.u64]⟩],fun x=>Yl F x.1 x.2⟩
def Zhb:Fs yb:=Zs2 fuel
theorem ZkK:Zhb.Ok:=Zg (fi:={ hi:={ still:=[4,8,9,13,14]},lp:=[]}) (specs:={ l:=[ZiN,Zek]}) (okS ⟨Zmt,Zha,trivial⟩) trivial (by decide+kernel) (fun x=>by kernel_rfl)
def Vn (F:Nat) (s:(UInt64×UInt64×UInt64)):Option ((UInt64×UInt64×UInt64)⊕UInt64):=
 if (decide (s.2.1 > 0))=true then
  if ((s.2.1&&&1)==1)=true then
   (Yl F s.2.2 s.1).bind fun o221=>
   (Yl F s.1 s.1).bind fun o222=>
   some (.inl (o222,ZA s.2.1 1,o221))
  else
  (Yl F s.1 s.1).bind fun o223=>
  some (.inl (o223,ZA s.2.1 1,s.2.2))
 else
 some (.inr s.2.2)
def Zjc:Lp:=⟨[(0,.v .u64),(1,.v .u64),(5,.v .u64)],[],[.u64,.u64,.u64],[⟨.exit 0,[(5,.v .u64)],[],[.u64]⟩],Zd (Vn fuel) fuel⟩
theorem Znc:Zjc.Ok yb (Zp yb 83) (Zo yb 83 0):=Zk (fi:={ hi:={ still:=[4,13,14,16,17]},lp:=[]}) (specs:={ l:=[Zhb]}) (okS ⟨ZkK,trivial⟩) trivial (by kernel_rfl) (fun v=>by kernel_rfl)
def Zhc (F:Nat) (a0:UInt64) (a1:UInt64):Option (UInt64):=
 (Zd (Vn F) F (a0,a1,(1:UInt64))).bind fun o224=>
 some o224
def Zdx (F:Nat):Fs yb:=⟨83,[.v .u64,.v .u64],[],[.u64,.u64],[⟨.ret,[(0,.v .u64)],[],[.u64]⟩],fun x=>Zhc F x.1 x.2⟩
def Zs3:Fs yb:=Zdx fuel
theorem ZqL:Zs3.Ok:=Zg (fi:={ hi:={ still:=[4,13,14,16,17]},lp:=[(0,Zjc)]}) (specs:={ l:=[]}) (okS trivial) ⟨Znc,trivial⟩ (by decide+kernel) (fun x=>by kernel_rfl)
end
end Go.Proofs.YtjbbdlffilcaaaaGreat
end
section
set_option maxRecDepth 4000
namespace Go.Proofs.YtjbbdlffilcaaaaGreat
open Go Go.Ev
theorem ZFO {z:Nat}:(yv (z % 4611686018427377339)).toNat=z % 4611686018427377339:=by
 rw [yav,yac]
 exact Nat.lt_trans (yaq _ (by decide)) (by decide)
theorem Zzk (a b:UInt64):Yl fuel a b=some (yv (a.toNat*b.toNat % 4611686018427377339)):=by
 unfold Yl Qw
 rw [ya]
 dsimp only
 unfold X0
 rw [if_pos (by decide),ya,yav,yav]
 have h:a.toNat*b.toNat < 18446744073709551616*18446744073709551616:=Nat.mul_lt_mul'' (ybo a) (ybo b)
 have h2:a.toNat*b.toNat / 18446744073709551616 < 18446744073709551616:=(Nat.div_lt_iff_lt_mul (by decide)).2 h
 generalize a.toNat*b.toNat=z at*
 rw [show (4611686018427377339:UInt64).toNat=4611686018427377339 from rfl]
 have e:z / 18446744073709551616 % 2 ^ 64*18446744073709551616+z % 18446744073709551616 % 2 ^ 64=z:=by omega
 rw [e]
theorem Zs4:∀(k m:Nat) (A N O:UInt64),N.toNat < 2 ^ k→k < m→Zd (Vn fuel) m (A,N,O)=some (yv (pwm 4611686018427377339 k A.toNat N.toNat O.toNat))
 |k,0,_,_,_,_,h=>by omega
 |0,m+1,A,N,O,h,_=>by
  have hn:¬N > 0:=by
   intro h2
   have h3:0 < N.toNat:=yby.1 h2
   rw [Nat.pow_zero] at h
   omega
  have hs:Vn fuel (A,N,O)=if decide (N > 0)=true then (if ((N&&&1)==1)=true then (Yl fuel O A).bind fun o1=>(Yl fuel A A).bind fun o2=>some (.inl (o2,ZA N 1,o1)) else (Yl fuel A A).bind fun o2=>some (.inl (o2,ZA N 1,O))) else some (.inr O):=rfl
  unfold Zd
  rw [hs]
  rw [if_neg (by rw [decide_eq_true_iff];exact hn),ya,pwm,UInt64.ofNat_toNat]
 |k+1,m+1,A,N,O,h,hm=>by
  have hs:Vn fuel (A,N,O)=if decide (N > 0)=true then (if ((N&&&1)==1)=true then (Yl fuel O A).bind fun o1=>(Yl fuel A A).bind fun o2=>some (.inl (o2,ZA N 1,o1)) else (Yl fuel A A).bind fun o2=>some (.inl (o2,ZA N 1,O))) else some (.inr O):=rfl
  unfold Zd
  rw [hs]
  by_cases h2:N > 0
  ·have hp:0 < N.toNat→pwm 4611686018427377339 (k+1) A.toNat N.toNat O.toNat=pwm 4611686018427377339 k (A.toNat*A.toNat % 4611686018427377339) (N.toNat / 2) (if N.toNat % 2=1 then O.toNat*A.toNat % 4611686018427377339 else O.toNat):=fun h=>by
    rw [pwm,if_neg (by omega)]
   have h3:0 < N.toNat:=yby.1 h2
   have hsh:(ZA N 1).toNat=N.toNat / 2:=by
    unfold ZA
    rw [yav,yac (Nat.lt_of_le_of_lt (Nat.div_le_self ..) (ybo _))]
   have hlt:(ZA N 1).toNat < 2 ^ k:=by
    rw [hsh]
    rw [Nat.pow_succ] at h
    omega
   have hand:((N&&&1)==1)=decide (N.toNat % 2=1):=by
    rw [Bool.eq_iff_iff,beq_iff_eq,decide_eq_true_iff, ←yaw,UInt64.toNat_and]
    exact Iff.of_eq (congrArg (· =1) (Nat.and_one_is_mod _))
   rw [if_pos (decide_eq_true h2),hand,hp h3]
   simp only [Zzk]
   by_cases h4:N.toNat % 2=1
   ·rw [if_pos (decide_eq_true h4),if_pos h4,ya,ya,ya]
    dsimp only
    rw [Zs4 k m _ _ _ hlt (by omega),ZFO,ZFO,hsh]
   ·rw [if_neg (by rw [decide_eq_true_iff];exact h4),if_neg h4,ya,ya]
    dsimp only
    rw [Zs4 k m _ _ _ hlt (by omega),ZFO,hsh]
  ·have h3:N.toNat=0:=by
    rcases ybr N.toNat with h5|h5
    ·exact h5
    ·exact absurd (show (0:UInt64) < N from yby.2 h5) h2
   rw [if_neg (by rw [decide_eq_true_iff];exact h2),ya,pwm,if_pos h3,UInt64.ofNat_toNat]
theorem ZFP (a n:UInt64):Zhc fuel a n=some (yv (pwm 4611686018427377339 64 a.toNat n.toNat 1)):=by
 unfold Zhc
 rw [Zs4 64 fuel a n 1 (ybo _) (by rw [Zej];omega),ya]
 rfl
noncomputable def QV (F:Nat) (a0:UInt64) (a1:UInt64):Option UInt64:=some (yv (pwm 4611686018427377339 64 a0.toNat a1.toNat 1))
noncomputable def Zs5 (F:Nat):Fs yb:={ Zdx F with M:=fun x=>QV F x.1 x.2}
noncomputable def ZcB:Fs yb:=Zs5 fuel
theorem Zfs:ZcB.Ok:=Zm8 (s:=Zdx fuel) ZqL fun x=>(ZFP x.1 x.2).symm
end Go.Proofs.YtjbbdlffilcaaaaGreat
end
section
set_option maxRecDepth 4000
namespace Go.Proofs.YtjbbdlffilcaaaaGreat
open Go Go.Ev
noncomputable section
def YT (F:Nat) (a0:UInt64):Option (Bool):=
 if (decide (a0 > 0))=true then
  if (decide (a0 < 4611686018427377339))=true then
   (QV F a0 (2305843009213688669:UInt64)).bind fun o225=>
   some (o225==1)
  else
  some false
 else
 some false
def Zs6 (F:Nat):Fs yb:=⟨28,[.v .u64],[],[.u64],[⟨.ret,[(0,.v .bool)],[],[.bool]⟩],fun x=>YT F x⟩
def Wp:Fs yb:=Zs6 fuel
theorem WA:Wp.Ok:=Zg (fi:={ hi:={ still:=[2,10]},lp:=[]}) (specs:={ l:=[ZcB]}) (okS ⟨Zfs,trivial⟩) trivial (by decide+kernel) (fun x=>by kernel_rfl)
def QW (F:Nat) (a0:UInt64):Option (UInt64):=
 (YT F a0).bind fun o226=>
 if o226=true then
  some a0
 else
 some (1:UInt64)
def Zs7 (F:Nat):Fs yb:=⟨181,[.v .u64],[],[.u64],[⟨.ret,[(0,.v .u64)],[],[.u64]⟩],fun x=>QW F x⟩
def ZcC:Fs yb:=Zs7 fuel
theorem Zft:ZcC.Ok:=Zg (fi:={ hi:={ still:=[2,3]},lp:=[]}) (specs:={ l:=[Wp]}) (okS ⟨WA,trivial⟩) trivial (by decide+kernel) (fun x=>by kernel_rfl)
def VH (F:Nat) (a0:UInt64) (a1:UInt64):Option (UInt64):=
 (QW F a0).bind fun o227=>
 (QV F o227 (a1 % 2305843009213688669)).bind fun o228=>
 some o228
def Zs8 (F:Nat):Fs yb:=⟨116,[.v .u64,.v .u64],[],[.u64,.u64],[⟨.ret,[(0,.v .u64)],[],[.u64]⟩],fun x=>VH F x.1 x.2⟩
def ZcD:Fs yb:=Zs8 fuel
theorem Zfu:ZcD.Ok:=Zg (fi:={ hi:={ still:=[4,5,6,8]},lp:=[]}) (specs:={ l:=[ZcC,ZcB]}) (okS ⟨Zft,Zfs,trivial⟩) trivial (by decide+kernel) (fun x=>by kernel_rfl)
def Xb (F:Nat) (a0:UInt64):Option (UInt64):=
 (VH F (4:UInt64) a0).bind fun o229=>
 some o229
def Zuu (F:Nat):Fs yb:=⟨48,[.v .u64],[],[.u64],[⟨.ret,[(0,.v .u64)],[],[.u64]⟩],fun x=>Xb F x⟩
def XT:Fs yb:=Zuu fuel
theorem XU:XT.Ok:=Zg (fi:={ hi:={ still:=[2,3]},lp:=[]}) (specs:={ l:=[ZcD]}) (okS ⟨Zfu,trivial⟩) trivial (by decide+kernel) (fun x=>by kernel_rfl)
def Xt (F:Nat) (s:(Int×Int×Int×State)):Option ((Int×Int×Int×State)⊕((Int×State)⊕State)):=
 if (decide (s.2.2.1 < (s.2.2.2.2.2.1.length:Int)))=true then
  (idx s.2.2.2.2.2.1 s.2.2.1).bind fun e230=>
  if (e230.1==s.1)=true then
   (idx s.2.2.2.2.2.1 s.2.2.1).bind fun e231=>
   if (e231.2.1==s.2.1)=true then
    some (.inr (.inl (s.2.2.1,s.2.2.2)))
   else
   some (.inl (s.1,s.2.1,wi (s.2.2.1+1),s.2.2.2))
  else
  some (.inl (s.1,s.2.1,wi (s.2.2.1+1),s.2.2.2))
 else
 some (.inr (.inr s.2.2.2))
def Zb2:Lp:=⟨[(1,.v (.int .i64)),(2,.v (.int .i64)),(3,.ref 0 []),(7,.v (.int .i64))],[.var (.v Ze) true],[(.int .i64),(.int .i64),(.int .i64),Ze],[⟨.ret,[(6,.v (.int .i64))],[.var (.v Ze) true],[(.int .i64),Ze]⟩,⟨.exit 0,[],[.var (.v Ze) true],[Ze]⟩],Zd (Xt fuel) fuel⟩
theorem Zhd:Zb2.Ok yb (Zp yb 117) (Zo yb 117 0):=Zk (fi:={ hi:={ still:=[6]},lp:=[]}) (specs:={ l:=[]}) (okS trivial) trivial (by kernel_rfl) (fun v=>by kernel_rfl)
def Vk (F:Nat) (a0:State) (a1:Int) (a2:Int):Option (Int):=
 (Zd (Xt F) F (a1,a2,(0:Int),a0)).bind fun o232=>
 match o232 with
 |.inl o233=>
  some o233.1
 |.inr o234=>
  some (-1:Int)
def ZjQ (F:Nat):Fs yb:=⟨117,[.v Ze,.v (.int .i64),.v (.int .i64)],[],[Ze,(.int .i64),(.int .i64)],[⟨.ret,[(0,.v (.int .i64))],[],[(.int .i64)]⟩],fun x=>Vk F x.1 x.2.1 x.2.2⟩
def Zdd:Fs yb:=ZjQ fuel
theorem ZjR:Zdd.Ok:=Zg (fi:={ hi:={ still:=[6]},lp:=[(0,Zb2)]}) (specs:={ l:=[]}) (okS trivial) ⟨Zhd,trivial⟩ (by decide+kernel) (fun x=>by kernel_rfl)
def XN (F:Nat) (s:(Bool×Int×State×ZB×State×Int×(List Int)×Int×(List ZB))):Option ((Bool×Int×State×ZB×State×Int×(List Int)×Int×(List ZB))⊕(Bool×State×ZB×State×Int×(List Int)×Int×(List ZB))):=
 if (decide (s.2.1 < (s.2.2.1.2.2.1.length:Int)))=true then
  if (!s.1)=true then
   (idx s.2.2.1.2.2.1 s.2.1).bind fun e235=>
   (Wh F s.2.2.2.1 e235).bind fun o236=>
   if o236=true then
    if (apB s.2.2.2.2.2.2.2.2.length 1 40)=true then
     (idx s.2.2.1.2.2.1 s.2.1).bind fun e237=>
     if (apB ((s.2.2.2.2.2.2.2.2++([s.2.2.2.1]:List ZB)).length) 1 40)=true then
      let y238:(List ZB):=(s.2.2.2.2.2.2.2.2++([s.2.2.2.1]:List ZB))++([e237]:List ZB)
      some (.inl (true,wi (s.2.1+1),s.2.2.1,s.2.2.2.1,s.2.2.2.2.1,s.2.2.2.2.2.1,s.2.2.2.2.2.2.1,s.2.2.2.2.2.2.2.1,y238))
     else
     none
    else
    none
   else
   (idx s.2.2.1.2.2.1 s.2.1).bind fun e239=>
   if (apB s.2.2.2.2.2.2.2.2.length 1 40)=true then
    some (.inl (s.1,wi (s.2.1+1),s.2.2.1,s.2.2.2.1,s.2.2.2.2.1,s.2.2.2.2.2.1,s.2.2.2.2.2.2.1,s.2.2.2.2.2.2.2.1,s.2.2.2.2.2.2.2.2++([e239]:List ZB)))
   else
   none
  else
  (idx s.2.2.1.2.2.1 s.2.1).bind fun e240=>
  if (apB s.2.2.2.2.2.2.2.2.length 1 40)=true then
   some (.inl (s.1,wi (s.2.1+1),s.2.2.1,s.2.2.2.1,s.2.2.2.2.1,s.2.2.2.2.2.1,s.2.2.2.2.2.2.1,s.2.2.2.2.2.2.2.1,s.2.2.2.2.2.2.2.2++([e240]:List ZB)))
  else
  none
 else
 some (.inr (s.1,s.2.2.1,s.2.2.2.1,s.2.2.2.2.1,s.2.2.2.2.2.1,s.2.2.2.2.2.2.1,s.2.2.2.2.2.2.2.1,s.2.2.2.2.2.2.2.2))
def Zde:Lp:=⟨[(2,.ref 0 []),(3,.ref 1 []),(4,.ref 2 []),(5,.ref 3 []),(6,.v .bool),(7,.v (.int .i64))],[.var (.v Ze) true,.var (.v Yo) true,.var (.v Ze) true,.var (.agg [.v (.int .i64),.v (.arr 2 (.int .i64)),.own 4 Yo,.v (.int .i64)]) true,.log Yo 72],[.bool,(.int .i64),Ze,Yo,Ze,(.int .i64),(.arr 2 (.int .i64)),(.int .i64),(.sl Yo)],[⟨.exit 0,[(3,.ref 1 []),(4,.ref 2 []),(5,.ref 3 []),(6,.v .bool)],[.var (.v Ze) true,.var (.v Yo) true,.var (.v Ze) true,.var (.agg [.v (.int .i64),.v (.arr 2 (.int .i64)),.own 4 Yo,.v (.int .i64)]) true,.log Yo 72],[.bool,Ze,Yo,Ze,(.int .i64),(.arr 2 (.int .i64)),(.int .i64),(.sl Yo)]⟩],Zd (XN fuel) fuel⟩
theorem ZhS:Zde.Ok yb (Zp yb 118) (Zo yb 118 0):=Zk (fi:={ hi:={ own:=[29,32,35,42,47,50],still:=[20,25],gst:=[(9,[([2],Yo,72)])]},lp:=[]}) (specs:={ l:=[Qr]}) (okS ⟨ZbV,trivial⟩) trivial (by kernel_rfl) (fun v=>by kernel_rfl)
def VI (F:Nat) (a0:State) (a1:ZB):Option (State):=
 (Zd (XN F) F (false,(0:Int),a0,a1,((0:Int),([0,0]:List Int),([]:List ZB),(0:Int)),a0.1,a0.2.1,a0.2.2.2,([]:List ZB))).bind fun o241=>
 if (!o241.1)=true then
  if (apB o241.2.2.2.2.2.2.2.length 1 40)=true then
   if (inB o241.2.2.1.1 2)=true then
    (o241.2.2.2.2.2.1[o241.2.2.1.1.toNat]?).bind fun e242=>
    if (inB o241.2.2.1.1 2)=true then
     (o241.2.2.2.2.2.1[o241.2.2.1.1.toNat]?).bind fun e243=>
     some (o241.2.2.2.2.1,o241.2.2.2.2.2.1.set o241.2.2.1.1.toNat (wi (e242 - o241.2.2.1.2.2.1)),o241.2.2.2.2.2.2.2++([o241.2.2.1]:List ZB),o241.2.2.2.2.2.2.1)
    else
    none
   else
   none
  else
  none
 else
 if (inB o241.2.2.1.1 2)=true then
  (o241.2.2.2.2.2.1[o241.2.2.1.1.toNat]?).bind fun e244=>
  if (inB o241.2.2.1.1 2)=true then
   (o241.2.2.2.2.2.1[o241.2.2.1.1.toNat]?).bind fun e245=>
   some (o241.2.2.2.2.1,o241.2.2.2.2.2.1.set o241.2.2.1.1.toNat (wi (e244 - o241.2.2.1.2.2.1)),o241.2.2.2.2.2.2.2,o241.2.2.2.2.2.2.1)
  else
  none
 else
 none
def ZkL (F:Nat):Fs yb:=⟨118,[.v Ze,.v Yo],[],[Ze,Yo],[⟨.ret,[(0,.v Ze)],[],[Ze]⟩],fun x=>VI F x.1 x.2⟩
def ZdW:Fs yb:=ZkL fuel
theorem ZkM:ZdW.Ok:=Zg (fi:={ hi:={ own:=[29,32,35,42,47,50],still:=[20,25],gst:=[(9,[([2],Yo,72)])]},lp:=[(0,Zde)]}) (specs:={ l:=[]}) (okS trivial) ⟨ZhS,trivial⟩ (by decide+kernel) (fun x=>by kernel_rfl)
def Qb (F:Nat) (a0:ZO) (a1:State) (a2:ZB):Option ((State×Int)):=
 (XC F a0 a1).bind fun o257=>
 (Wz F a2).bind fun o258=>
 if (!o257)=true then
  some (((0:Int),([0,0]:List Int),([]:List ZB),(0:Int)),(1:Int))
 else
 if (!o258)=true then
  some (((0:Int),([0,0]:List Int),([]:List ZB),(0:Int)),(1:Int))
 else
 (Vk F a1 a2.1 a2.2.1).bind fun o259=>
 if (decide (o259 ≥ 0))=true then
  some (((0:Int),([0,0]:List Int),([]:List ZB),(0:Int)),(4:Int))
 else
 if (inB (wi (1 - a2.1)) 2)=true then
  (a0.2.2.2.1[(wi (1 - a2.1)).toNat]?).bind fun e260=>
  (XM F a1 (wi (1 - a2.1))).bind fun o261=>
  if (decide (a2.2.2.1 < e260.2.2.2.2.1))=true then
   some (((0:Int),([0,0]:List Int),([]:List ZB),(0:Int)),(9:Int))
  else
  if ((a1.2.2.1.length:Int)==16)=true then
   some (((0:Int),([0,0]:List Int),([]:List ZB),(0:Int)),(3:Int))
  else
  if (decide (o261.1 ≥ e260.2.2.2.1))=true then
   some (((0:Int),([0,0]:List Int),([]:List ZB),(0:Int)),(3:Int))
  else
  let y262:Bool:=decide ((wi (o261.2+a2.2.2.1)) > e260.2.2.2.2.2)
  if y262=true then
   some (((0:Int),([0,0]:List Int),([]:List ZB),(0:Int)),(6:Int))
  else
  (VI F a1 a2).bind fun o263=>
  (Y2 F a0 o263).bind fun o264=>
  if (inB a2.1 2)=true then
   (o263.2.1[a2.1.toNat]?).bind fun e265=>
   if (decide (e265 < 0))=true then
    some (((0:Int),([0,0]:List Int),([]:List ZB),(0:Int)),(8:Int))
   else
   if (inB a0.2.2.2.2 2)=true then
    (o263.2.1[a0.2.2.2.2.toNat]?).bind fun e266=>
    if (decide (e266 < o264))=true then
     some (((0:Int),([0,0]:List Int),([]:List ZB),(0:Int)),(8:Int))
    else
    if (inB a2.1 2)=true then
     (o263.2.1[a2.1.toNat]?).bind fun e267=>
     if (a2.1==a0.2.2.2.2)=true then
      if (decide ((wi (e267 - o264)) < e260.2.1))=true then
       some (((0:Int),([0,0]:List Int),([]:List ZB),(0:Int)),(10:Int))
      else
      some (o263,(0:Int))
     else
     if (decide (e267 < e260.2.1))=true then
      some (((0:Int),([0,0]:List Int),([]:List ZB),(0:Int)),(10:Int))
     else
     some (o263,(0:Int))
    else
    none
   else
   none
  else
  none
 else
 none
def Zl5 (F:Nat):Fs yb:=⟨49,[.v Zq,.v Ze,.v Yo],[],[Zq,Ze,Yo],[⟨.ret,[(0,.tup [.v Ze,.v (.int .i64)])],[],[Ze,(.int .i64)]⟩],fun x=>Qb F x.1 x.2.1 x.2.2⟩
def Zfv:Fs yb:=Zl5 fuel
theorem Zl6:Zfv.Ok:=Zg (fi:={ hi:={ still:=[7,16,17,19,28,30,32,43,46,75,76,78,79]},lp:=[]}) (specs:={ l:=[Qt,Zaa,Zdd,VG,ZdW,Zab]}) (okS ⟨Zb0,Zda,ZjR,ZaJ,ZkM,Zdc,trivial⟩) trivial (by decide+kernel) (fun x=>by kernel_rfl)
abbrev Zb:Ty:=(.st [(.arr 2 (.arr 32 .u8)),.u32,.u32,.u8,.u8,(.sl ZI),(.int .u16),(.arr 32 .u8)])
abbrev Corsnedlaw21Play:Type:=((List (List UInt8))×UInt32×UInt32×UInt8×UInt8×(List V6)×Int×(List UInt8))
def XO (F:Nat) (s:(Int×Corsnedlaw21Play×ZO×(List Kit)×State×(List Kit)×ZO)):Option ((Int×Corsnedlaw21Play×ZO×(List Kit)×State×(List Kit)×ZO)⊕(Corsnedlaw21Play×ZO×(List Kit)×State×(List Kit)×ZO)):=
 if (decide (s.1 < 2))=true then
  if (inB s.1 2)=true then
   (s.2.2.2.2.2.1[s.1.toNat]?).bind fun e289=>
   (WW F e289).bind fun o290=>
   if (inB s.1 2)=true then
    (s.2.2.2.2.2.2.2.2.1[s.1.toNat]?).bind fun e291=>
    if (inB s.1 2)=true then
     (s.2.2.2.2.2.2.2.2.2.1[s.1.toNat]?).bind fun e292=>
     some (.inl (wi (s.1+1),s.2.1,s.2.2.1,s.2.2.2.1,s.2.2.2.2.1,s.2.2.2.2.2.1,(s.2.2.2.2.2.2.1,s.2.2.2.2.2.2.2.1,s.2.2.2.2.2.2.2.2.1.set s.1.toNat o290,s.2.2.2.2.2.2.2.2.2.1.set s.1.toNat ((100:Int),(200:Int),wi (5+s.1),(16:Int),(1:Int),(1125899906842624:Int)),s.2.2.2.2.2.2.2.2.2.2)))
    else
    none
   else
   none
  else
  none
 else
 some (.inr (s.2.1,s.2.2.1,s.2.2.2.1,s.2.2.2.2.1,s.2.2.2.2.2.1,s.2.2.2.2.2.2))
def Zdf:Lp:=⟨[(1,.ref 0 []),(2,.ref 1 []),(3,.ref 2 []),(4,.ref 3 []),(5,.ref 4 []),(6,.ref 5 []),(7,.v (.int .i64))],[.var (.v Zb) true,.var (.v Zq) true,.var (.v (.arr 2 XE)) true,.var (.v Ze) true,.var (.v (.arr 2 XE)) true,.var (.v Zq) true],[(.int .i64),Zb,Zq,(.arr 2 XE),Ze,(.arr 2 XE),Zq],[⟨.exit 0,[(1,.ref 0 []),(2,.ref 1 []),(3,.ref 2 []),(4,.ref 3 []),(5,.ref 4 []),(6,.ref 5 [])],[.var (.v Zb) true,.var (.v Zq) true,.var (.v (.arr 2 XE)) true,.var (.v Ze) true,.var (.v (.arr 2 XE)) true,.var (.v Zq) true],[Zb,Zq,(.arr 2 XE),Ze,(.arr 2 XE),Zq]⟩],Zd (XO fuel) fuel⟩
theorem ZhT:Zdf.Ok yb (Zp yb 11) (Zo yb 11 0):=Zk (fi:={ hi:={ still:=[17,21,40,75,76,117,118,126,127,128]},lp:=[]}) (specs:={ l:=[ZbU]}) (okS ⟨ZiG,trivial⟩) trivial (by kernel_rfl) (fun v=>by kernel_rfl)
def Yj (F:Nat) (s:(Int×Corsnedlaw21Play×ZO×(List Kit)×State×(List Kit)×ZO×State)):Option ((Int×Corsnedlaw21Play×ZO×(List Kit)×State×(List Kit)×ZO×State)⊕(Corsnedlaw21Play×ZO×(List Kit)×State×(List Kit)×ZO×State)):=
 if (decide (s.1 < (s.2.1.2.2.2.2.2.1.length:Int)))=true then
  if (decide (s.1 < 20))=true then
   (idx s.2.1.2.2.2.2.2.1 s.1).bind fun e298=>
   (XX F e298).bind fun o299=>
   (Xb F o299).bind fun o300=>
   (Qb F s.2.2.2.2.2.2.1 s.2.2.2.2.2.2.2 (((e298.1 % 2).toNat:Int),wi (s.1+1),wi (1+(wi e298.2.1)),o300,wi (1+(wi e298.2.2.1)))).bind fun o301=>
   if (o301.2==0)=true then
    some (.inl (wi (s.1+1),s.2.1,s.2.2.1,s.2.2.2.1,s.2.2.2.2.1,s.2.2.2.2.2.1,s.2.2.2.2.2.2.1,o301.1))
   else
   some (.inl (wi (s.1+1),s.2.1,s.2.2.1,s.2.2.2.1,s.2.2.2.2.1,s.2.2.2.2.2.1,s.2.2.2.2.2.2.1,s.2.2.2.2.2.2.2))
  else
  some (.inr (s.2.1,s.2.2.1,s.2.2.2.1,s.2.2.2.2.1,s.2.2.2.2.2.1,s.2.2.2.2.2.2.1,s.2.2.2.2.2.2.2))
 else
 some (.inr (s.2.1,s.2.2.1,s.2.2.2.1,s.2.2.2.2.1,s.2.2.2.2.2.1,s.2.2.2.2.2.2.1,s.2.2.2.2.2.2.2))
def Zdg:Lp:=⟨[(1,.ref 0 []),(2,.ref 1 []),(3,.ref 2 []),(4,.ref 3 []),(5,.ref 4 []),(6,.ref 5 []),(8,.ref 6 []),(10,.v (.int .i64))],[.var (.v Zb) true,.var (.v Zq) true,.var (.v (.arr 2 XE)) true,.var (.v Ze) true,.var (.v (.arr 2 XE)) true,.var (.v Zq) true,.var (.v Ze) true],[(.int .i64),Zb,Zq,(.arr 2 XE),Ze,(.arr 2 XE),Zq,Ze],[⟨.exit 2,[(2,.ref 1 []),(3,.ref 2 []),(4,.ref 3 []),(5,.ref 4 []),(6,.ref 5 []),(8,.ref 6 [])],[.var (.v Zb) true,.var (.v Zq) true,.var (.v (.arr 2 XE)) true,.var (.v Ze) true,.var (.v (.arr 2 XE)) true,.var (.v Zq) true,.var (.v Ze) true],[Zb,Zq,(.arr 2 XE),Ze,(.arr 2 XE),Zq,Ze]⟩],Zd (Yj fuel) fuel⟩
theorem ZhU:Zdg.Ok yb (Zp yb 11) (Zo yb 11 1):=Zk (fi:={ hi:={ still:=[17,21,40,75,76,117,118,126,127,128]},lp:=[]}) (specs:={ l:=[VZ,XT,Zfv]}) (okS ⟨Za9,XU,Zl6,trivial⟩) trivial (by kernel_rfl) (fun v=>by kernel_rfl)
def Yf (F:Nat) (a0:Corsnedlaw21Play):Option ((ZO×(List Kit)×State)):=
 (a0.1[0]?).bind fun e285=>
 (WR F e285).bind fun o286=>
 (a0.1[1]?).bind fun e287=>
 (WR F e287).bind fun o288=>
 (Zd (XO F) F ((0:Int),a0,((([0,0,0,0,0,0,0,0,0,0,0,0,0,0,0,0,0,0,0,0,0,0,0,0,0,0,0,0,0,0,0,0]:List UInt8),(0:Int)),(0:Int),([(0,0,0,0,0),(0,0,0,0,0)]:List VE),([(0,0,0,0,0,0),(0,0,0,0,0,0)]:List Vs),(0:Int)),([(0,0,0,0,0,[0,0,0,0,0,0,0,0,0,0,0,0,0,0,0,0,0,0,0,0,0,0,0,0,0,0,0,0,0,0,0,0]),(0,0,0,0,0,[0,0,0,0,0,0,0,0,0,0,0,0,0,0,0,0,0,0,0,0,0,0,0,0,0,0,0,0,0,0,0,0])]:List Kit),((0:Int),([0,0]:List Int),([]:List ZB),(0:Int)),([o286,o288]:List Kit),((([0,0,0,0,0,0,0,0,0,0,0,0,0,0,0,0,0,0,0,0,0,0,0,0,0,0,0,0,0,0,0,0]:List UInt8),(0:Int)),wi (20000+(a0.2.1.toNat:Int)),([(0,0,0,0,0),(0,0,0,0,0)]:List VE),([(0,0,0,0,0,0),(0,0,0,0,0,0)]:List Vs),((a0.2.2.2.2.1 % 2).toNat:Int)))).bind fun o293=>
 if ((wi (o293.2.2.2.2.2.2.1+1))!=0)=true then
  let y294:Int:=Int.tmod (o293.1.2.2.1.toNat:Int) (wi (o293.2.2.2.2.2.2.1+1))
  (XC F o293.2.2.2.2.2 (wi o293.1.2.2.2.2.2.2.1,([y294,wi (o293.2.2.2.2.2.2.1 - y294)]:List Int),([]:List ZB),((o293.1.2.2.2.1 % 8).toNat:Int))).bind fun o295=>
  if (!o295)=true then
   if (inB o293.2.2.2.2.2.2.2.2.2 2)=true then
    (([y294,wi (o293.2.2.2.2.2.2.1 - y294)]:List Int)[o293.2.2.2.2.2.2.2.2.2.toNat]?).bind fun e296=>
    if (inB (wi (1 - o293.2.2.2.2.2.2.2.2.2)) 2)=true then
     ((([y294,wi (o293.2.2.2.2.2.2.1 - y294)]:List Int).set o293.2.2.2.2.2.2.2.2.2.toNat o293.2.2.2.2.2.2.1)[(wi (1 - o293.2.2.2.2.2.2.2.2.2)).toNat]?).bind fun e297=>
     (Zd (Yj F) F ((0:Int),o293.1,o293.2.1,o293.2.2.1,o293.2.2.2.1,o293.2.2.2.2.1,o293.2.2.2.2.2,(wi o293.1.2.2.2.2.2.2.1,(([y294,wi (o293.2.2.2.2.2.2.1 - y294)]:List Int).set o293.2.2.2.2.2.2.2.2.2.toNat o293.2.2.2.2.2.2.1).set ((wi (1 - o293.2.2.2.2.2.2.2.2.2)).toNat) (0:Int),([]:List ZB),((o293.1.2.2.2.1 % 8).toNat:Int)))).bind fun o302=>
     some (o302.2.2.2.2.2.1,o302.2.2.2.2.1,o302.2.2.2.2.2.2)
    else
    none
   else
   none
  else
  (Zd (Yj F) F ((0:Int),o293.1,o293.2.1,o293.2.2.1,o293.2.2.2.1,o293.2.2.2.2.1,o293.2.2.2.2.2,(wi o293.1.2.2.2.2.2.2.1,([y294,wi (o293.2.2.2.2.2.2.1 - y294)]:List Int),([]:List ZB),((o293.1.2.2.2.1 % 8).toNat:Int)))).bind fun o303=>
  some (o303.2.2.2.2.2.1,o303.2.2.2.2.1,o303.2.2.2.2.2.2)
 else
 none
def Qx (F:Nat):Fs yb:=⟨11,[.v Zb],[],[Zb],[⟨.ret,[(0,.tup [.v Zq,.v (.arr 2 XE),.v Ze])],[],[Zq,(.arr 2 XE),Ze]⟩],fun x=>Yf F x⟩
def XD:Fs yb:=Qx fuel
theorem Xc:XD.Ok:=Zg (fi:={ hi:={ still:=[17,21,40,75,76,117,118,126,127,128]},lp:=[(0,Zdf),(1,Zdg)]}) (specs:={ l:=[Zfj,Qt]}) (okS ⟨ZlY,Zb0,trivial⟩) ⟨ZhT,ZhU,trivial⟩ (by decide+kernel) (fun x=>by kernel_rfl)
def Zfw (F:Nat) (a0:Int):Option (Bool):=
 if (decide (a0 ≥ 0))=true then
  some (decide (a0≤1125899906842624))
 else
 some false
def Zxj (F:Nat):Fs yb:=⟨130,[.v (.int .i64)],[],[(.int .i64)],[⟨.ret,[(0,.v .bool)],[],[.bool]⟩],fun x=>Zfw F x⟩
def Zqn:Fs yb:=Zxj fuel
theorem Zxk:Zqn.Ok:=Zg (fi:={ hi:={ still:=[2]},lp:=[]}) (specs:={ l:=[]}) (okS trivial) trivial (by decide+kernel) (fun x=>by kernel_rfl)
def ZhV (F:Nat) (a0:Int) (a1:Int):Option ((Int×Bool)):=
 (Zfw F a0).bind fun o304=>
 if (!o304)=true then
  some ((0:Int),false)
 else
 (Zfw F a1).bind fun o305=>
 if (!o305)=true then
  some ((0:Int),false)
 else
 if (decide (a0 > (wi (1125899906842624 - a1))))=true then
  some ((0:Int),false)
 else
 some (wi (a0+a1),true)
def ZA8 (F:Nat):Fs yb:=⟨74,[.v (.int .i64),.v (.int .i64)],[],[(.int .i64),(.int .i64)],[⟨.ret,[(0,.tup [.v (.int .i64),.v .bool])],[],[(.int .i64),.bool]⟩],fun x=>ZhV F x.1 x.2⟩
def Zpm:Fs yb:=ZA8 fuel
theorem Zs9:Zpm.Ok:=Zg (fi:={ hi:={ still:=[4,5,6,10]},lp:=[]}) (specs:={ l:=[Zqn]}) (okS ⟨Zxk,trivial⟩) trivial (by decide+kernel) (fun x=>by kernel_rfl)
def Xu (F:Nat) (a0:Int) (a1:Int) (a2:Int):Option (Bool):=
 if (decide (a1≤a0))=true then
  some (decide (a0≤a2))
 else
 some false
def Zpn (F:Nat):Fs yb:=⟨186,[.v (.int .i64),.v (.int .i64),.v (.int .i64)],[],[(.int .i64),(.int .i64),(.int .i64)],[⟨.ret,[(0,.v .bool)],[],[.bool]⟩],fun x=>Xu F x.1 x.2.1 x.2.2⟩
def Zjd:Fs yb:=Zpn fuel
theorem Zpo:Zjd.Ok:=Zg (fi:={ hi:={ still:=[6]},lp:=[]}) (specs:={ l:=[]}) (okS trivial) trivial (by decide+kernel) (fun x=>by kernel_rfl)
def Zem (F:Nat) (a0:Vs):Option (Bool):=
 (Xu F a0.1 (0:Int) (65536:Int)).bind fun o306=>
 if o306=true then
  (Xu F a0.2.2.1 (1:Int) (4096:Int)).bind fun o307=>
  if o307=true then
   (Xu F a0.2.2.2.1 (0:Int) (16:Int)).bind fun o308=>
   if o308=true then
    (Xu F a0.2.1 a0.1 (1125899906842624:Int)).bind fun o309=>
    if o309=true then
     (Xu F a0.2.2.2.2.1 (1:Int) (1125899906842624:Int)).bind fun o310=>
     if o310=true then
      (Xu F a0.2.2.2.2.2 (0:Int) (1125899906842624:Int)).bind fun o311=>
      some o311
     else
     some false
    else
    some false
   else
   some false
  else
  some false
 else
 some false
def Zta (F:Nat):Fs yb:=⟨126,[.v Zfk],[],[Zfk],[⟨.ret,[(0,.v .bool)],[],[.bool]⟩],fun x=>Zem F x⟩
def Zmu:Fs yb:=Zta fuel
theorem Ztb:Zmu.Ok:=Zg (fi:={ hi:={ still:=[2,7,12,18,25,27,33,39]},lp:=[]}) (specs:={ l:=[Zjd]}) (okS ⟨Zpo,trivial⟩) trivial (by decide+kernel) (fun x=>by kernel_rfl)
def Zdy (F:Nat) (a0:UInt64):Option (Bool):=
 if (a0==1)=true then
  some true
 else
 (YT F a0).bind fun o312=>
 some (!o312)
def Zoi (F:Nat):Fs yb:=⟨187,[.v .u64],[],[.u64],[⟨.ret,[(0,.v .bool)],[],[.bool]⟩],fun x=>Zdy F x⟩
def ZhW:Fs yb:=Zoi fuel
theorem Zoj:ZhW.Ok:=Zg (fi:={ hi:={ still:=[2,6]},lp:=[]}) (specs:={ l:=[Wp]}) (okS ⟨WA,trivial⟩) trivial (by decide+kernel) (fun x=>by kernel_rfl)
def Qc (F:Nat) (s:((List UInt64)×Int×Int)):Option (((List UInt64)×Int×Int)⊕(Int⊕Unit)):=
 if (decide (s.2.2 < s.2.1))=true then
  (idx s.1 s.2.2).bind fun e313=>
  (Zdy F e313).bind fun o314=>
  if o314=true then
   some (.inr (.inl s.2.2))
  else
  some (.inl (s.1,s.2.1,wi (s.2.2+1)))
 else
 some (.inr (.inr ()))
def ZhX:Lp:=⟨[(0,.v (.sl .u64)),(1,.fn 187 []),(7,.v (.int .i64)),(8,.v (.int .i64))],[],[(.sl .u64),(.int .i64),(.int .i64)],[⟨.ret,[(4,.v (.int .i64))],[],[(.int .i64)]⟩,⟨.exit 0,[],[],[]⟩],Zd (Qc fuel) fuel⟩
theorem Zl7:ZhX.Ok yb (Zp yb 189) (Zo yb 189 0):=Zk (fi:={ hi:={ still:=[4,15]},lp:=[]}) (specs:={ l:=[ZhW]}) (okS ⟨Zoj,trivial⟩) trivial (by kernel_rfl) (fun v=>by kernel_rfl)
def Zfx (F:Nat) (a0:(List UInt64)):Option (Int):=
 (Zd (Qc F) F (a0,(a0.length:Int),(0:Int))).bind fun o315=>
 match o315 with
 |.inl o316=>
  some o316
 |.inr o317=>
  some (-1:Int)
def Zpp (F:Nat):Fs yb:=⟨189,[.v (.sl .u64),.fn 187 []],[],[(.sl .u64)],[⟨.ret,[(0,.v (.int .i64))],[],[(.int .i64)]⟩],fun x=>Zfx F x⟩
def Zje:Fs yb:=Zpp fuel
theorem Zpq:Zje.Ok:=Zg (fi:={ hi:={ still:=[4,15]},lp:=[(0,ZhX)]}) (specs:={ l:=[]}) (okS trivial) ⟨Zl7,trivial⟩ (by decide+kernel) (fun x=>by kernel_rfl)
def Znd (F:Nat) (a0:(List UInt64)):Option (Bool):=
 (Zfx F a0).bind fun o318=>
 some (decide (o318 ≥ 0))
def Zxl (F:Nat):Fs yb:=⟨132,[.v (.sl .u64),.fn 187 []],[],[(.sl .u64)],[⟨.ret,[(0,.v .bool)],[],[.bool]⟩],fun x=>Znd F x⟩
def Zqo:Fs yb:=Zxl fuel
theorem Zxm:Zqo.Ok:=Zg (fi:={ hi:={ still:=[4,5,6]},lp:=[]}) (specs:={ l:=[Zje]}) (okS ⟨Zpq,trivial⟩) trivial (by decide+kernel) (fun x=>by kernel_rfl)
def ZcE (F:Nat) (a0:VE):Option (Bool):=
 (Znd F ([a0.1,a0.2.1,a0.2.2.1,a0.2.2.2.1,a0.2.2.2.2]:List UInt64)).bind fun o319=>
 some (!o319)
def ZqM (F:Nat):Fs yb:=⟨127,[.v Zbg],[],[Zbg],[⟨.ret,[(0,.v .bool)],[],[.bool]⟩],fun x=>ZcE F x⟩
def ZkN:Fs yb:=ZqM fuel
theorem ZqN:ZkN.Ok:=Zg (fi:={ hi:={ still:=[2,14,15]},lp:=[]}) (specs:={ l:=[Zqo]}) (okS ⟨Zxm,trivial⟩) trivial (by decide+kernel) (fun x=>by kernel_rfl)
def ZcF (F:Nat) (s:((List Vs)×Int×ZO)):Option (((List Vs)×Int×ZO)⊕((Int×ZO)⊕ZO)):=
 if (decide (s.2.1 < 2))=true then
  (idx s.1 s.2.1).bind fun e320=>
  (Zem F e320).bind fun o321=>
  if (!o321)=true then
   some (.inr (.inl ((1:Int),s.2.2)))
  else
  if (inB s.2.1 2)=true then
   (s.2.2.2.2.1[s.2.1.toNat]?).bind fun e322=>
   (ZcE F e322).bind fun o323=>
   if (!o323)=true then
    some (.inr (.inl ((1:Int),s.2.2)))
   else
   some (.inl (s.1,wi (s.2.1+1),s.2.2))
  else
  none
 else
 some (.inr (.inr s.2.2))
def Zok:Lp:=⟨[(1,.ref 0 []),(34,.v (.arr 2 Zfk)),(35,.v (.int .i64))],[.var (.v Zq) true],[(.arr 2 Zfk),(.int .i64),Zq],[⟨.ret,[(2,.v (.int .i64))],[.var (.v Zq) true],[(.int .i64),Zq]⟩,⟨.exit 0,[(1,.ref 0 [])],[.var (.v Zq) true],[Zq]⟩],Zd (ZcF fuel) fuel⟩
theorem ZqO:Zok.Ok yb (Zp yb 66) (Zo yb 66 0):=Zk (fi:={ hi:={ still:=[2,39,46,55,59]},lp:=[]}) (specs:={ l:=[Zmu,ZkN]}) (okS ⟨Ztb,ZqN,trivial⟩) trivial (by kernel_rfl) (fun v=>by kernel_rfl)
def ZiO (F:Nat) (a0:ZO):Option (Int):=
 if (decide (a0.2.1 < 1))=true then
  some (1:Int)
 else
 if (decide (a0.2.1 > 1125899906842624))=true then
  some (1:Int)
 else
 if (decide (a0.1.2 < 0))=true then
  some (1:Int)
 else
 if (decide (a0.1.2 ≥ 64))=true then
  some (1:Int)
 else
 if ((bits .andNot .i64 a0.2.2.2.2 1)!=0)=true then
  some (1:Int)
 else
 (Zd (ZcF F) F (a0.2.2.2.1,(0:Int),a0)).bind fun o324=>
 match o324 with
 |.inl o325=>
  some o325.1
 |.inr o326=>
  (o326.2.2.2.1[0]?).bind fun e327=>
  (o326.2.2.2.1[1]?).bind fun e328=>
  (ZhV F e327.2.1 e328.2.1).bind fun o329=>
  if (!o329.2)=true then
   some (10:Int)
  else
  if (decide (o329.1 > o326.2.1))=true then
   some (10:Int)
  else
  some (0:Int)
def Zxn (F:Nat):Fs yb:=⟨66,[.v Zq],[],[Zq],[⟨.ret,[(0,.v (.int .i64))],[],[(.int .i64)]⟩],fun x=>ZiO F x⟩
def Zqp:Fs yb:=Zxn fuel
theorem Zxo:Zqp.Ok:=Zg (fi:={ hi:={ still:=[2,39,46,55,59]},lp:=[(0,Zok)]}) (specs:={ l:=[Zpm]}) (okS ⟨Zs9,trivial⟩) ⟨ZqO,trivial⟩ (by decide+kernel) (fun x=>by kernel_rfl)
def Zdz (F:Nat) (a0:Int) (s0:Int) (s1:Int):Option ((Bool×Int×Int)):=
 if (decide (a0 < s0))=true then
  some (true,s0,s1)
 else
 some (decide (a0 > s1),s0,s1)
def Zol (F:Nat):Fs yb:=⟨129,[.v (.int .i64),.ref 0 [],.ref 1 []],[.var (.v (.int .i64)) true,.var (.v (.int .i64)) true],[(.int .i64),(.int .i64),(.int .i64)],[⟨.ret,[(0,.v .bool)],[.var (.v (.int .i64)) true,.var (.v (.int .i64)) true],[.bool,(.int .i64),(.int .i64)]⟩],fun x=>Zdz F x.1 x.2.1 x.2.2⟩
def ZhY:Fs yb:=Zol fuel
theorem Zom:ZhY.Ok:=Zg (fi:={ hi:={ still:=[4]},lp:=[]}) (specs:={ l:=[]}) (okS trivial) trivial (by decide+kernel) (fun x=>by kernel_rfl)
def YU (F:Nat) (s:((List Int)×Int×Int×Int×Int)):Option (((List Int)×Int×Int×Int×Int)⊕((Int×Int×Int)⊕(Int×Int))):=
 if (decide (s.2.2.1 < s.2.1))=true then
  (idx s.1 s.2.2.1).bind fun e330=>
  (Zdz F e330 s.2.2.2.1 s.2.2.2.2).bind fun o331=>
  if o331.1=true then
   some (.inr (.inl (s.2.2.1,o331.2.1,o331.2.2)))
  else
  some (.inl (s.1,s.2.1,wi (s.2.2.1+1),o331.2.1,o331.2.2))
 else
 some (.inr (.inr (s.2.2.2.1,s.2.2.2.2)))
def Qd:Lp:=⟨[(0,.v (.sl (.int .i64))),(1,.fn 129 [.ref 0 [],.ref 1 []]),(7,.v (.int .i64)),(8,.v (.int .i64))],[.var (.v (.int .i64)) true,.var (.v (.int .i64)) true],[(.sl (.int .i64)),(.int .i64),(.int .i64),(.int .i64),(.int .i64)],[⟨.ret,[(4,.v (.int .i64))],[.var (.v (.int .i64)) true,.var (.v (.int .i64)) true],[(.int .i64),(.int .i64),(.int .i64)]⟩,⟨.exit 0,[],[.var (.v (.int .i64)) true,.var (.v (.int .i64)) true],[(.int .i64),(.int .i64)]⟩],Zd (YU fuel) fuel⟩
theorem Zce:Qd.Ok yb (Zp yb 188) (Zo yb 188 0):=Zk (fi:={ hi:={ still:=[4,15]},lp:=[]}) (specs:={ l:=[ZhY]}) (okS ⟨Zom,trivial⟩) trivial (by kernel_rfl) (fun v=>by kernel_rfl)
def WG (F:Nat) (a0:(List Int)) (s0:Int) (s1:Int):Option ((Int×Int×Int)):=
 (Zd (YU F) F (a0,(a0.length:Int),(0:Int),s0,s1)).bind fun o332=>
 match o332 with
 |.inl o333=>
  some (o333.1,o333.2.1,o333.2.2)
 |.inr o334=>
  some ((-1:Int),o334.1,o334.2)
def Zen (F:Nat):Fs yb:=⟨188,[.v (.sl (.int .i64)),.fn 129 [.ref 0 [],.ref 1 []]],[.var (.v (.int .i64)) true,.var (.v (.int .i64)) true],[(.sl (.int .i64)),(.int .i64),(.int .i64)],[⟨.ret,[(0,.v (.int .i64))],[.var (.v (.int .i64)) true,.var (.v (.int .i64)) true],[(.int .i64),(.int .i64),(.int .i64)]⟩],fun x=>WG F x.1 x.2.1 x.2.2⟩
def Qy:Fs yb:=Zen fuel
theorem Zeo:Qy.Ok:=Zg (fi:={ hi:={ still:=[4,15]},lp:=[(0,Qd)]}) (specs:={ l:=[]}) (okS trivial) ⟨Zce,trivial⟩ (by decide+kernel) (fun x=>by kernel_rfl)
def Wc (F:Nat) (a0:(List Int)) (s0:Int) (s1:Int):Option ((Bool×Int×Int)):=
 (WG F a0 s0 s1).bind fun o335=>
 some (decide (o335.1 ≥ 0),o335.2.1,o335.2.2)
def Zcf (F:Nat):Fs yb:=⟨128,[.v (.sl (.int .i64)),.fn 129 [.ref 0 [],.ref 1 []]],[.var (.v (.int .i64)) true,.var (.v (.int .i64)) true],[(.sl (.int .i64)),(.int .i64),(.int .i64)],[⟨.ret,[(0,.v .bool)],[.var (.v (.int .i64)) true,.var (.v (.int .i64)) true],[.bool,(.int .i64),(.int .i64)]⟩],fun x=>Wc F x.1 x.2.1 x.2.2⟩
def Vt:Fs yb:=Zcf fuel
theorem Zcg:Vt.Ok:=Zg (fi:={ hi:={ still:=[4,5,6]},lp:=[]}) (specs:={ l:=[Qy]}) (okS ⟨Zeo,trivial⟩) trivial (by decide+kernel) (fun x=>by kernel_rfl)
def YQ (F:Nat) (a0:Int) (a1:Int) (a2:(List Int)):Option (Bool):=
 (Wc F a2 a0 a1).bind fun o336=>
 some (!o336.1)
def ZqP (F:Nat):Fs yb:=⟨67,[.v (.int .i64),.v (.int .i64),.v (.sl (.int .i64))],[],[(.int .i64),(.int .i64),(.sl (.int .i64))],[⟨.ret,[(0,.v .bool)],[],[.bool]⟩],fun x=>YQ F x.1 x.2.1 x.2.2⟩
def Zfy:Fs yb:=ZqP fuel
theorem Zjf:Zfy.Ok:=Zg (fi:={ hi:={ still:=[6,7,8]},lp:=[]}) (specs:={ l:=[Vt]}) (okS ⟨Zcg,trivial⟩) trivial (by decide+kernel) (fun x=>by kernel_rfl)
def ZgE (F:Nat) (a0:ZB):Option (Bool):=
 (YQ F (0:Int) (1:Int) ([a0.1]:List Int)).bind fun o337=>
 if o337=true then
  (YQ F (1:Int) (1048576:Int) ([a0.2.1]:List Int)).bind fun o338=>
  if o338=true then
   (YQ F (1:Int) (1125899906842624:Int) ([a0.2.2.1]:List Int)).bind fun o339=>
   if o339=true then
    (YQ F (1:Int) (1048576:Int) ([a0.2.2.2.2]:List Int)).bind fun o340=>
    if o340=true then
     (YT F a0.2.2.2.1).bind fun o341=>
     if o341=true then
      some (a0.2.2.2.1 !=1)
     else
     some false
    else
    some false
   else
   some false
  else
  some false
 else
 some false
def Zuv (F:Nat):Fs yb:=⟨68,[.v Yo],[],[Yo],[⟨.ret,[(0,.v .bool)],[],[.bool]⟩],fun x=>ZgE F x⟩
def Zon:Fs yb:=Zuv fuel
theorem Zuw:Zon.Ok:=Zg (fi:={ hi:={ still:=[2,5,10,16,22,27]},lp:=[]}) (specs:={ l:=[Zfy,Wp]}) (okS ⟨Zjf,WA,trivial⟩) trivial (by decide+kernel) (fun x=>by kernel_rfl)
def Vo (F:Nat) (s:(Int×(List Int)×Int×Int)):Option ((Int×(List Int)×Int×Int)⊕(Int⊕Int)):=
 if (decide (s.2.2.2 < s.2.2.1))=true then
  (idx s.2.1 s.2.2.2).bind fun e342=>
  if (e342 !=s.1)=true then
   some (.inr (.inl e342))
  else
  some (.inl (s.1,s.2.1,s.2.2.1,wi (s.2.2.2+1)))
 else
 some (.inr (.inr s.1))
def Zmv:Lp:=⟨[(3,.v (.int .i64)),(6,.v (.sl (.int .i64))),(7,.v (.int .i64)),(8,.v (.int .i64))],[],[(.int .i64),(.sl (.int .i64)),(.int .i64),(.int .i64)],[⟨.ret,[(2,.v (.int .i64))],[],[(.int .i64)]⟩,⟨.exit 0,[(3,.v (.int .i64))],[],[(.int .i64)]⟩],Zd (Vo fuel) fuel⟩
theorem Zpr:Zmv.Ok yb (Zp yb 62) (Zo yb 62 0):=Zk (fi:={ hi:={ still:=[2]},lp:=[]}) (specs:={ l:=[]}) (okS trivial) trivial (by kernel_rfl) (fun v=>by kernel_rfl)
def Zdh (F:Nat) (a0:(List Int)):Option (Int):=
 (Zd (Vo F) F ((0:Int),a0,(a0.length:Int),(0:Int))).bind fun o343=>
 match o343 with
 |.inl o344=>
  some o344
 |.inr o345=>
  some o345
def Zux (F:Nat):Fs yb:=⟨62,[.v (.sl (.int .i64))],[],[(.sl (.int .i64))],[⟨.ret,[(0,.v (.int .i64))],[],[(.int .i64)]⟩],fun x=>Zdh F x⟩
def ZiP:Fs yb:=Zux fuel
theorem Zmw:ZiP.Ok:=Zg (fi:={ hi:={ still:=[2]},lp:=[(0,Zmv)]}) (specs:={ l:=[]}) (okS trivial) ⟨Zpr,trivial⟩ (by decide+kernel) (fun x=>by kernel_rfl)
def Zbj (F:Nat) (a0:Int):Option (Bool):=
 some (a0 !=a0)
def Zps (F:Nat):Fs yb:=⟨123,[.v (.int .i64)],[],[(.int .i64)],[⟨.ret,[(0,.v .bool)],[],[.bool]⟩],fun x=>Zbj F x⟩
def Zjg:Fs yb:=Zps fuel
theorem Zpt:Zjg.Ok:=Zg (fi:={ hi:={ still:=[2]},lp:=[]}) (specs:={ l:=[]}) (okS trivial) trivial (by decide+kernel) (fun x=>by kernel_rfl)
def YB (F:Nat) (a0:Int) (a1:Int):Option (Int):=
 (Zbj F a0).bind fun o346=>
 (Zbj F a1).bind fun o347=>
 if o346=true then
  if o347=true then
   some (0:Int)
  else
  some (-1:Int)
 else
 if o347=true then
  some (1:Int)
 else
 if (decide (a0 < a1))=true then
  some (-1:Int)
 else
 if (decide (a0 > a1))=true then
  some (1:Int)
 else
 some (0:Int)
def Zne (F:Nat):Fs yb:=⟨63,[.v (.int .i64),.v (.int .i64)],[],[(.int .i64),(.int .i64)],[⟨.ret,[(0,.v (.int .i64))],[],[(.int .i64)]⟩],fun x=>YB F x.1 x.2⟩
def Zbk:Fs yb:=Zne fuel
theorem Zfz:Zbk.Ok:=Zg (fi:={ hi:={ still:=[4,7,9]},lp:=[]}) (specs:={ l:=[Zjg]}) (okS ⟨Zpt,trivial⟩) trivial (by decide+kernel) (fun x=>by kernel_rfl)
def Zep (F:Nat) (a0:ZB) (a1:ZB):Option (Int):=
 (YB F a0.1 a1.1).bind fun o348=>
 (YB F a0.2.1 a1.2.1).bind fun o349=>
 (Zdh F ([o348,o349]:List Int)).bind fun o350=>
 some o350
def Ztc (F:Nat):Fs yb:=⟨69,[.v Yo,.v Yo],[],[Yo,Yo],[⟨.ret,[(0,.v (.int .i64))],[],[(.int .i64)]⟩],fun x=>Zep F x.1 x.2⟩
def Zmx:Fs yb:=Ztc fuel
theorem Ztd:Zmx.Ok:=Zg (fi:={ hi:={ still:=[4,6,8,11,13,15]},lp:=[]}) (specs:={ l:=[Zbk,ZiP]}) (okS ⟨Zfz,Zmw,trivial⟩) trivial (by decide+kernel) (fun x=>by kernel_rfl)
def WZ (F:Nat) (s:(Int×Int×Int×(List ZB)×Int×Int×State)):Option ((Int×Int×Int×(List ZB)×Int×Int×State)⊕(Int×Int×State)):=
 if (decide (s.2.2.2.2.2.1 < s.2.2.2.2.1))=true then
  (idx s.2.2.2.1 s.2.2.2.2.2.1).bind fun e351=>
  if (e351.1==(wi (1 - s.1)))=true then
   some (.inl (s.1,wi (s.2.1+1),wi (s.2.2.1+e351.2.2.1),s.2.2.2.1,s.2.2.2.2.1,wi (s.2.2.2.2.2.1+1),s.2.2.2.2.2.2))
  else
  some (.inl (s.1,s.2.1,s.2.2.1,s.2.2.2.1,s.2.2.2.2.1,wi (s.2.2.2.2.2.1+1),s.2.2.2.2.2.2))
 else
 some (.inr (s.2.1,s.2.2.1,s.2.2.2.2.2.2))
def ZhZ:Lp:=⟨[(1,.v (.int .i64)),(6,.v (.int .i64)),(7,.v (.int .i64)),(11,.v (.sl Yo)),(12,.v (.int .i64)),(13,.v (.int .i64))],[.var (.v Ze) true],[(.int .i64),(.int .i64),(.int .i64),(.sl Yo),(.int .i64),(.int .i64),Ze],[⟨.exit 0,[(6,.v (.int .i64)),(7,.v (.int .i64))],[.var (.v Ze) true],[(.int .i64),(.int .i64),Ze]⟩],Zd (WZ fuel) fuel⟩
theorem Zl8:ZhZ.Ok yb (Zp yb 70) (Zo yb 70 0):=Zk (fi:={ hi:={ still:=[4,5]},lp:=[]}) (specs:={ l:=[]}) (okS trivial) trivial (by kernel_rfl) (fun v=>by kernel_rfl)
def Zbl (F:Nat) (a0:State) (a1:Int):Option ((Int×Int)):=
 (Zd (WZ F) F (a1,(0:Int),(0:Int),a0.2.2.1,(a0.2.2.1.length:Int),(0:Int),a0)).bind fun o352=>
 some (o352.1,o352.2.1)
def Zpu (F:Nat):Fs yb:=⟨70,[.v Ze,.v (.int .i64)],[],[Ze,(.int .i64)],[⟨.ret,[(0,.tup [.v (.int .i64),.v (.int .i64)])],[],[(.int .i64),(.int .i64)]⟩],fun x=>Zbl F x.1 x.2⟩
def Zjh:Fs yb:=Zpu fuel
theorem Zpv:Zjh.Ok:=Zg (fi:={ hi:={ still:=[4,5]},lp:=[(0,ZhZ)]}) (specs:={ l:=[]}) (okS trivial) ⟨Zl8,trivial⟩ (by decide+kernel) (fun x=>by kernel_rfl)
def Zak (F:Nat) (s:(Int×(List ZB)×Int×Int×State)):Option ((Int×(List ZB)×Int×Int×State)⊕(Int×State)):=
 if (decide (s.2.2.2.1 < s.2.2.1))=true then
  (idx s.2.1 s.2.2.2.1).bind fun e355=>
  some (.inl (wi (s.1+e355.2.2.1),s.2.1,s.2.2.1,wi (s.2.2.2.1+1),s.2.2.2.2))
 else
 some (.inr (s.1,s.2.2.2.2))
def ZkO:Lp:=⟨[(3,.v (.int .i64)),(14,.v (.sl Yo)),(15,.v (.int .i64)),(16,.v (.int .i64))],[.var (.v Ze) true],[(.int .i64),(.sl Yo),(.int .i64),(.int .i64),Ze],[⟨.exit 0,[(3,.v (.int .i64))],[.var (.v Ze) true],[(.int .i64),Ze]⟩],Zd (Zak fuel) fuel⟩
theorem Zoo:ZkO.Ok yb (Zp yb 71) (Zo yb 71 0):=Zk (fi:={ hi:={ still:=[2]},lp:=[]}) (specs:={ l:=[]}) (okS trivial) trivial (by kernel_rfl) (fun v=>by kernel_rfl)
def Zeq (F:Nat) (a0:State):Option (Int):=
 (a0.2.1[0]?).bind fun e353=>
 (a0.2.1[1]?).bind fun e354=>
 (Zd (Zak F) F (wi (e353+e354),a0.2.2.1,(a0.2.2.1.length:Int),(0:Int),a0)).bind fun o356=>
 some o356.1
def Zte (F:Nat):Fs yb:=⟨71,[.v Ze],[],[Ze],[⟨.ret,[(0,.v (.int .i64))],[],[(.int .i64)]⟩],fun x=>Zeq F x⟩
def Zmy:Fs yb:=Zte fuel
theorem Ztf:Zmy.Ok:=Zg (fi:={ hi:={ still:=[2]},lp:=[(0,ZkO)]}) (specs:={ l:=[]}) (okS trivial) ⟨Zoo,trivial⟩ (by decide+kernel) (fun x=>by kernel_rfl)
def Zhe (F:Nat) (a0:Int):Option (Int):=
 if (decide (a0 < 0))=true then
  some (0:Int)
 else
 if (decide (a0 > 16))=true then
  some (0:Int)
 else
 some (wi (68+(wi (8*a0))))
def ZqQ (F:Nat):Fs yb:=⟨76,[.v (.int .i64)],[],[(.int .i64)],[⟨.ret,[(0,.v (.int .i64))],[],[(.int .i64)]⟩],fun x=>Zhe F x⟩
def ZkP:Fs yb:=ZqQ fuel
theorem ZqR:ZkP.Ok:=Zg (fi:={ hi:={ still:=[2]},lp:=[]}) (specs:={ l:=[]}) (okS trivial) trivial (by decide+kernel) (fun x=>by kernel_rfl)
def ZfA (F:Nat) (a0:Int) (a1:Int):Option (Int):=
 if (decide (a0 < 0))=true then
  some (0:Int)
 else
 if (decide (a0 > 1000))=true then
  some (0:Int)
 else
 (Zhe F a1).bind fun o357=>
 some (wi (a0*o357))
def Zxp (F:Nat):Fs yb:=⟨18,[.v (.int .i64),.v (.int .i64)],[],[(.int .i64),(.int .i64)],[⟨.ret,[(0,.v (.int .i64))],[],[(.int .i64)]⟩],fun x=>ZfA F x.1 x.2⟩
def ZkQ:Fs yb:=Zxp fuel
theorem Zop:ZkQ.Ok:=Zg (fi:={ hi:={ still:=[4,12]},lp:=[]}) (specs:={ l:=[ZkP]}) (okS ⟨ZqR,trivial⟩) trivial (by decide+kernel) (fun x=>by kernel_rfl)
def ZgF (F:Nat) (a0:ZO) (a1:State):Option (Int):=
 (ZfA F a1.2.2.2 (a1.2.2.1.length:Int)).bind fun o358=>
 some (wi (o358+660))
def Zuy (F:Nat):Fs yb:=⟨72,[.v Zq,.v Ze],[],[Zq,Ze],[⟨.ret,[(0,.v (.int .i64))],[],[(.int .i64)]⟩],fun x=>ZgF F x.1 x.2⟩
def Zoq:Fs yb:=Zuy fuel
theorem Zuz:Zoq.Ok:=Zg (fi:={ hi:={ still:=[4,6,9]},lp:=[]}) (specs:={ l:=[ZkQ]}) (okS ⟨Zop,trivial⟩) trivial (by decide+kernel) (fun x=>by kernel_rfl)
def Zal (F:Nat) (s:((List ZB)×Int×Int×ZO×State)):Option (((List ZB)×Int×Int×ZO×State)⊕((Bool×ZO×State)⊕(ZO×State))):=
 if (decide (s.2.2.1 < s.2.1))=true then
  (idx s.1 s.2.2.1).bind fun e365=>
  (ZgE F e365).bind fun o366=>
  if (!o366)=true then
   some (.inr (.inl (false,s.2.2.2.1,s.2.2.2.2)))
  else
  if (inB (wi (1 - e365.1)) 2)=true then
   (s.2.2.2.1.2.2.2.1[(wi (1 - e365.1)).toNat]?).bind fun e367=>
   if (decide (e365.2.2.1 < e367.2.2.2.2.1))=true then
    some (.inr (.inl (false,s.2.2.2.1,s.2.2.2.2)))
   else
   if (decide (s.2.2.1 > 0))=true then
    (idx s.2.2.2.2.2.2.1 (wi (s.2.2.1 - 1))).bind fun e368=>
    (Zep F e368 e365).bind fun o369=>
    if (decide (o369 ≥ 0))=true then
     some (.inr (.inl (false,s.2.2.2.1,s.2.2.2.2)))
    else
    some (.inl (s.1,s.2.1,wi (s.2.2.1+1),s.2.2.2.1,s.2.2.2.2))
   else
   some (.inl (s.1,s.2.1,wi (s.2.2.1+1),s.2.2.2.1,s.2.2.2.2))
  else
  none
 else
 some (.inr (.inr (s.2.2.2.1,s.2.2.2.2)))
def ZkR:Lp:=⟨[(2,.ref 0 []),(3,.ref 1 []),(46,.v (.sl Yo)),(47,.v (.int .i64)),(48,.v (.int .i64))],[.var (.v Zq) true,.var (.v Ze) true],[(.sl Yo),(.int .i64),(.int .i64),Zq,Ze],[⟨.ret,[(4,.v .bool)],[.var (.v Zq) true,.var (.v Ze) true],[.bool,Zq,Ze]⟩,⟨.exit 0,[(2,.ref 0 []),(3,.ref 1 [])],[.var (.v Zq) true,.var (.v Ze) true],[Zq,Ze]⟩],Zd (Zal fuel) fuel⟩
theorem Zor:ZkR.Ok yb (Zp yb 14) (Zo yb 14 0):=Zk (fi:={ hi:={ still:=[4,11,17,28,35,53,77,78,91,92,107,118,119]},lp:=[]}) (specs:={ l:=[Zon,Zmx]}) (okS ⟨Zuw,Ztd,trivial⟩) trivial (by kernel_rfl) (fun v=>by kernel_rfl)
def Zam (F:Nat) (s:((List Vs)×Int×ZO×State)):Option (((List Vs)×Int×ZO×State)⊕((Bool×ZO×State)⊕(ZO×State))):=
 if (decide (s.2.1 < 2))=true then
  (idx s.1 s.2.1).bind fun e373=>
  (Zbl F s.2.2.2 s.2.1).bind fun o374=>
  if (decide (o374.1 > e373.2.2.2.1))=true then
   some (.inr (.inl (false,s.2.2.1,s.2.2.2)))
  else
  if (decide (o374.2 > e373.2.2.2.2.2))=true then
   some (.inr (.inl (false,s.2.2.1,s.2.2.2)))
  else
  some (.inl (s.1,wi (s.2.1+1),s.2.2.1,s.2.2.2))
 else
 some (.inr (.inr (s.2.2.1,s.2.2.2)))
def ZkS:Lp:=⟨[(2,.ref 0 []),(3,.ref 1 []),(85,.v (.arr 2 Zfk)),(86,.v (.int .i64))],[.var (.v Zq) true,.var (.v Ze) true],[(.arr 2 Zfk),(.int .i64),Zq,Ze],[⟨.ret,[(4,.v .bool)],[.var (.v Zq) true,.var (.v Ze) true],[.bool,Zq,Ze]⟩,⟨.exit 2,[(2,.ref 0 []),(3,.ref 1 [])],[.var (.v Zq) true,.var (.v Ze) true],[Zq,Ze]⟩],Zd (Zam fuel) fuel⟩
theorem Zos:ZkS.Ok yb (Zp yb 14) (Zo yb 14 1):=Zk (fi:={ hi:={ still:=[4,11,17,28,35,53,77,78,91,92,107,118,119]},lp:=[]}) (specs:={ l:=[Zjh]}) (okS ⟨Zpv,trivial⟩) trivial (by kernel_rfl) (fun v=>by kernel_rfl)
end
end Go.Proofs.YtjbbdlffilcaaaaGreat
end
section
set_option maxRecDepth 4000
namespace Go.Proofs.YtjbbdlffilcaaaaGreat
open Go Go.Ev
noncomputable section
def QX (F:Nat) (a0:ZO) (a1:State):Option (Bool):=
 (ZiO F a0).bind fun o359=>
 if (o359 !=0)=true then
  some false
 else
 (YQ F (0:Int) (1048576:Int) ([a1.1]:List Int)).bind fun o360=>
 if (!o360)=true then
  some false
 else
 (a1.2.1[0]?).bind fun e361=>
 (a1.2.1[1]?).bind fun e362=>
 (YQ F (0:Int) (1125899906842624:Int) ([e361,e362]:List Int)).bind fun o363=>
 if (!o363)=true then
  some false
 else
 (YQ F (0:Int) (1000:Int) ([a1.2.2.2]:List Int)).bind fun o364=>
 if (!o364)=true then
  some false
 else
 if (decide ((a1.2.2.1.length:Int) > 16))=true then
  some false
 else
 (Zd (Zal F) F (a1.2.2.1,(a1.2.2.1.length:Int),(0:Int),a0,a1)).bind fun o370=>
 match o370 with
 |.inl o371=>
  some o371.1
 |.inr o372=>
  (Zd (Zam F) F (o372.1.2.2.2.1,(0:Int),o372.1,o372.2)).bind fun o375=>
  match o375 with
  |.inl o376=>
   some o376.1
  |.inr o377=>
   (Zeq F o377.2).bind fun o378=>
   if (o378==o377.1.2.1)=true then
    if (inB o377.1.2.2.2.2 2)=true then
     (o377.2.2.1[o377.1.2.2.2.2.toNat]?).bind fun e379=>
     (ZgF F o377.1 o377.2).bind fun o380=>
     some (decide (e379 ≥ o380))
    else
    none
   else
   some false
def Ztg (F:Nat):Fs yb:=⟨14,[.v Zq,.v Ze],[],[Zq,Ze],[⟨.ret,[(0,.v .bool)],[],[.bool]⟩],fun x=>QX F x.1 x.2⟩
def Zhf:Fs yb:=Ztg fuel
theorem ZkT:Zhf.Ok:=Zg (fi:={ hi:={ still:=[4,11,17,28,35,53,77,78,91,92,107,118,119]},lp:=[(0,ZkR),(1,ZkS)]}) (specs:={ l:=[Zqp,Zfy,Zmy,Zoq]}) (okS ⟨Zxo,Zjf,Ztf,Zuz,trivial⟩) ⟨Zor,Zos,trivial⟩ (by decide+kernel) (fun x=>by kernel_rfl)
def Wn (F:Nat) (a0:Vs) (a1:Int):Option (Bool):=
 some (decide (a1 ≥ a0.1))
def Zth (F:Nat):Fs yb:=⟨16,[.v Zfk,.v (.int .i64)],[],[Zfk,(.int .i64)],[⟨.ret,[(0,.v .bool)],[],[.bool]⟩],fun x=>Wn F x.1 x.2⟩
def ZcG:Fs yb:=Zth fuel
theorem ZfB:ZcG.Ok:=Zg (fi:={ hi:={ still:=[4]},lp:=[]}) (specs:={ l:=[]}) (okS trivial) trivial (by decide+kernel) (fun x=>by kernel_rfl)
def W0 (F:Nat) (a0:Int):Option (Bool):=
 if (a0==0)=true then
  some true
 else
 some (a0==1)
def Zti (F:Nat):Fs yb:=⟨50,[.v (.int .i64)],[],[(.int .i64)],[⟨.ret,[(0,.v .bool)],[],[.bool]⟩],fun x=>W0 F x⟩
def Zhg:Fs yb:=Zti fuel
theorem ZkU:Zhg.Ok:=Zg (fi:={ hi:={ still:=[2]},lp:=[]}) (specs:={ l:=[]}) (okS trivial) trivial (by decide+kernel) (fun x=>by kernel_rfl)
def Qz (F:Nat) (s:(UInt64×(List UInt8)×Int×(List UInt8))):Option ((UInt64×(List UInt8)×Int×(List UInt8))⊕(UInt64×(List UInt8))):=
 if (decide (s.2.2.1 < 32))=true then
  (idx s.2.1 s.2.2.1).bind fun e381=>
  (X0 F (ZA s.1 56) ((Zaf s.1 8)|||(yv e381.toNat)) (2305843009213688668:UInt64)).bind fun o382=>
  some (.inl (o382,s.2.1,wi (s.2.2.1+1),s.2.2.2))
 else
 some (.inr (s.1,s.2.2.2))
def Zmz:Lp:=⟨[(3,.v .u64),(6,.v (.arr 32 .u8)),(7,.v (.int .i64))],[.var (.v (.arr 32 .u8)) true],[.u64,(.arr 32 .u8),(.int .i64),(.arr 32 .u8)],[⟨.exit 0,[(3,.v .u64)],[.var (.v (.arr 32 .u8)) true],[.u64,(.arr 32 .u8)]⟩],Zd (Qz fuel) fuel⟩
theorem Zpw:Zmz.Ok yb (Zp yb 65) (Zo yb 65 0):=Zk (fi:={ hi:={ still:=[2,11,16]},lp:=[]}) (specs:={ l:=[Zek]}) (okS ⟨Zha,trivial⟩) trivial (by kernel_rfl) (fun v=>by kernel_rfl)
def Xd (F:Nat) (a0:(List UInt8)):Option (UInt64):=
 (Zd (Qz F) F ((0:UInt64),a0,(0:Int),a0)).bind fun o383=>
 some (o383.1+1)
def ZuA (F:Nat):Fs yb:=⟨65,[.v (.arr 32 .u8)],[],[(.arr 32 .u8)],[⟨.ret,[(0,.v .u64)],[],[.u64]⟩],fun x=>Xd F x⟩
def QY:Fs yb:=ZuA fuel
theorem Zah:QY.Ok:=Zg (fi:={ hi:={ still:=[2,11,16]},lp:=[(0,Zmz)]}) (specs:={ l:=[]}) (okS trivial) ⟨Zpw,trivial⟩ (by decide+kernel) (fun x=>by kernel_rfl)
def ZkV (F:Nat):Option ((List UInt32)):=
 some ([1779033703,3144134277,1013904242,2773480762,1359893119,2600822924,528734635,1541459225]:List UInt32)
def ZuB (F:Nat):Fs yb:=⟨191,[],[],[],[⟨.ret,[(0,.v (.arr 8 .u32))],[],[(.arr 8 .u32)]⟩],fun x=>ZkV F⟩
def Zot:Fs yb:=ZuB fuel
theorem ZuC:Zot.Ok:=Zg (fi:={ hi:={},lp:=[]}) (specs:={ l:=[]}) (okS trivial) trivial (by decide+kernel) (fun x=>by kernel_rfl)
def ZJ (F:Nat) (a0:UInt32) (a1:Int):Option (UInt32):=
 let y385:UInt32:=ZaE a0 (min (((w64 a1)&&&31).toNat:Int).toNat 32)
 let y386:UInt32:=ZdN a0 (min ((32 - ((w64 a1)&&&31)).toNat:Int).toNat 32)
 some (y385|||y386)
def ZkW (F:Nat):Fs yb:=⟨215,[.v .u32,.v (.int .i64)],[],[.u32,(.int .i64)],[⟨.ret,[(0,.v .u32)],[],[.u32]⟩],fun x=>ZJ F x.1 x.2⟩
def Zac:Fs yb:=ZkW fuel
theorem Zdi:Zac.Ok:=Zg (fi:={ hi:={ still:=[4]},lp:=[]}) (specs:={ l:=[]}) (okS trivial) trivial (by decide+kernel) (fun x=>by kernel_rfl)
def Zer (F:Nat) (a0:(List UInt8)):Option (UInt32):=
 (idx a0 0).bind fun e387=>
 (idx a0 1).bind fun e388=>
 let y389:UInt32:=(ZaE (ybl e387.toNat) 24)|||(ZaE (ybl e388.toNat) 16)
 (idx a0 2).bind fun e390=>
 (idx a0 3).bind fun e391=>
 let y392:UInt32:=(y389|||(ZaE (ybl e390.toNat) 8))|||(ybl e391.toNat)
 some y392
def Ztj (F:Nat):Fs yb:=⟨226,[.v (.sl .u8)],[],[(.sl .u8)],[⟨.ret,[(0,.v .u32)],[],[.u32]⟩],fun x=>Zer F x⟩
def ZmA:Fs yb:=Ztj fuel
theorem Ztk:ZmA.Ok:=Zg (fi:={ hi:={ still:=[2]},lp:=[]}) (specs:={ l:=[]}) (okS trivial) trivial (by decide+kernel) (fun x=>by kernel_rfl)
def Qe (F:Nat) (s:((List UInt8)×Int×(List UInt32))):Option (((List UInt8)×Int×(List UInt32))⊕(List UInt32)):=
 if (decide (s.2.1 < 64))=true then
  if (decide (s.2.1 < 16))=true then
   if (Ze6 s.1.length (some (wi (4*s.2.1))) none)=true then
    (Zer F (s.1.drop ((wi (4*s.2.1)).toNat))).bind fun o393=>
    if (inB s.2.1 64)=true then
     (s.2.2[s.2.1.toNat]?).bind fun e394=>
     some (.inl (s.1,wi (s.2.1+1),s.2.2.set s.2.1.toNat o393))
    else
    none
   else
   none
  else
  if (inB (wi (s.2.1 - 15)) 64)=true then
   (s.2.2[(wi (s.2.1 - 15)).toNat]?).bind fun e395=>
   if (inB (wi (s.2.1 - 2)) 64)=true then
    (s.2.2[(wi (s.2.1 - 2)).toNat]?).bind fun e396=>
    (ZJ F e395 (-7:Int)).bind fun o397=>
    (ZJ F e395 (-18:Int)).bind fun o398=>
    (ZJ F e396 (-17:Int)).bind fun o399=>
    (ZJ F e396 (-19:Int)).bind fun o400=>
    if (inB (wi (s.2.1 - 16)) 64)=true then
     (s.2.2[(wi (s.2.1 - 16)).toNat]?).bind fun e401=>
     if (inB (wi (s.2.1 - 7)) 64)=true then
      (s.2.2[(wi (s.2.1 - 7)).toNat]?).bind fun e402=>
      let y403:UInt32:=(e401+((o397^^^o398)^^^(ZdN e395 3)))+e402
      if (inB s.2.1 64)=true then
       (s.2.2[s.2.1.toNat]?).bind fun e404=>
       let y405:(List UInt32):=s.2.2.set s.2.1.toNat (y403+((o399^^^o400)^^^(ZdN e396 10)))
       some (.inl (s.1,wi (s.2.1+1),y405))
      else
      none
     else
     none
    else
    none
   else
   none
  else
  none
 else
 some (.inr s.2.2)
def Zh0:Lp:=⟨[(0,.v (.sl .u8)),(2,.ref 0 []),(8,.v (.int .i64))],[.var (.v (.arr 64 .u32)) true],[(.sl .u8),(.int .i64),(.arr 64 .u32)],[⟨.exit 0,[(2,.ref 0 [])],[.var (.v (.arr 64 .u32)) true],[(.arr 64 .u32)]⟩],Zd (Qe fuel) fuel⟩
theorem Zl9:Zh0.Ok yb (Zp yb 213) (Zo yb 213 0):=Zk (fi:={ hi:={ still:=[17,28,30,36,38]},lp:=[]}) (specs:={ l:=[ZmA,Zac]}) (okS ⟨Ztk,Zdi,trivial⟩) trivial (by kernel_rfl) (fun v=>by kernel_rfl)
def Zbm (F:Nat) (a0:(List UInt8)):Option ((List UInt32)):=
 (Zd (Qe F) F (a0,(0:Int),([0,0,0,0,0,0,0,0,0,0,0,0,0,0,0,0,0,0,0,0,0,0,0,0,0,0,0,0,0,0,0,0,0,0,0,0,0,0,0,0,0,0,0,0,0,0,0,0,0,0,0,0,0,0,0,0,0,0,0,0,0,0,0,0]:List UInt32))).bind fun o406=>
 some o406
def Zpx (F:Nat):Fs yb:=⟨213,[.v (.sl .u8)],[],[(.sl .u8)],[⟨.ret,[(0,.v (.arr 64 .u32))],[],[(.arr 64 .u32)]⟩],fun x=>Zbm F x⟩
def Zji:Fs yb:=Zpx fuel
theorem Zpy:Zji.Ok:=Zg (fi:={ hi:={ still:=[17,28,30,36,38]},lp:=[(0,Zh0)]}) (specs:={ l:=[]}) (okS trivial) ⟨Zl9,trivial⟩ (by decide+kernel) (fun x=>by kernel_rfl)
def ZkX (F:Nat):Option ((List UInt32)):=
 some ([1116352408,1899447441,3049323471,3921009573,961987163,1508970993,2453635748,2870763221,3624381080,310598401,607225278,1426881987,1925078388,2162078206,2614888103,3248222580,3835390401,4022224774,264347078,604807628,770255983,1249150122,1555081692,1996064986,2554220882,2821834349,2952996808,3210313671,3336571891,3584528711,113926993,338241895,666307205,773529912,1294757372,1396182291,1695183700,1986661051,2177026350,2456956037,2730485921,2820302411,3259730800,3345764771,3516065817,3600352804,4094571909,275423344,430227734,506948616,659060556,883997877,958139571,1322822218,1537002063,1747873779,1955562222,2024104815,2227730452,2361852424,2428436474,2756734187,3204031479,3329325298]:List UInt32)
def ZuD (F:Nat):Fs yb:=⟨214,[],[],[],[⟨.ret,[(0,.v (.arr 64 .u32))],[],[(.arr 64 .u32)]⟩],fun x=>ZkX F⟩
def Zou:Fs yb:=ZuD fuel
theorem ZuE:Zou.Ok:=Zg (fi:={ hi:={},lp:=[]}) (specs:={ l:=[]}) (okS trivial) trivial (by decide+kernel) (fun x=>by kernel_rfl)
def VJ (F:Nat) (s:(Int×(List UInt32)×(List UInt32)×(List UInt32)×(List UInt32)×(List UInt32))):Option ((Int×(List UInt32)×(List UInt32)×(List UInt32)×(List UInt32)×(List UInt32))⊕((List UInt32)×(List UInt32)×(List UInt32)×(List UInt32)×(List UInt32))):=
 if (decide (s.1 < 64))=true then
  (s.2.2.2.2.2[4]?).bind fun e409=>
  (ZJ F e409 (-6:Int)).bind fun o410=>
  (s.2.2.2.2.2[4]?).bind fun e411=>
  (ZJ F e411 (-11:Int)).bind fun o412=>
  (s.2.2.2.2.2[4]?).bind fun e413=>
  (ZJ F e413 (-25:Int)).bind fun o414=>
  (s.2.2.2.2.2[7]?).bind fun e415=>
  (s.2.2.2.2.2[6]?).bind fun e416=>
  (s.2.2.2.2.2[4]?).bind fun e417=>
  (s.2.2.2.2.2[5]?).bind fun e418=>
  (s.2.2.2.2.2[6]?).bind fun e419=>
  let y420:UInt32:=(e415+((o410^^^o412)^^^o414))+(e416^^^(e417&&&(e418^^^e419)))
  if (inB s.1 64)=true then
   (s.2.2.2.2.1[s.1.toNat]?).bind fun e421=>
   if (inB s.1 64)=true then
    (s.2.2.2.1[s.1.toNat]?).bind fun e422=>
    (s.2.2.2.2.2[0]?).bind fun e423=>
    (ZJ F e423 (-2:Int)).bind fun o424=>
    (s.2.2.2.2.2[0]?).bind fun e425=>
    (ZJ F e425 (-13:Int)).bind fun o426=>
    (s.2.2.2.2.2[0]?).bind fun e427=>
    (ZJ F e427 (-22:Int)).bind fun o428=>
    (s.2.2.2.2.2[0]?).bind fun e429=>
    (s.2.2.2.2.2[1]?).bind fun e430=>
    (s.2.2.2.2.2[2]?).bind fun e431=>
    (s.2.2.2.2.2[0]?).bind fun e432=>
    (s.2.2.2.2.2[1]?).bind fun e433=>
    let y434:UInt32:=((y420+e421)+e422)+((o424^^^o426)^^^o428)
    let y435:UInt32:=y434+((e429&&&e430)|||(e431&&&(e432|||e433)))
    (s.2.2.2.2.2[0]?).bind fun e436=>
    (s.2.2.2.2.2[1]?).bind fun e437=>
    (s.2.2.2.2.2[2]?).bind fun e438=>
    (s.2.2.2.2.2[3]?).bind fun e439=>
    (s.2.2.2.2.2[4]?).bind fun e440=>
    (s.2.2.2.2.2[5]?).bind fun e441=>
    (s.2.2.2.2.2[6]?).bind fun e442=>
    some (.inl (wi (s.1+1),s.2.1,s.2.2.1,s.2.2.2.1,s.2.2.2.2.1,([y435,e436,e437,e438,e439+((y420+e421)+e422),e440,e441,e442]:List UInt32)))
   else
   none
  else
  none
 else
 some (.inr (s.2.1,s.2.2.1,s.2.2.2.1,s.2.2.2.2.1,s.2.2.2.2.2))
def ZgG:Lp:=⟨[(2,.ref 0 []),(4,.ref 1 []),(5,.ref 2 []),(6,.ref 3 []),(7,.ref 4 []),(18,.v (.int .i64))],[.var (.v (.arr 8 .u32)) true,.var (.v (.arr 8 .u32)) true,.var (.v (.arr 64 .u32)) true,.var (.v (.arr 64 .u32)) true,.var (.v (.arr 8 .u32)) true],[(.int .i64),(.arr 8 .u32),(.arr 8 .u32),(.arr 64 .u32),(.arr 64 .u32),(.arr 8 .u32)],[⟨.exit 0,[(2,.ref 0 []),(4,.ref 1 []),(7,.ref 4 [])],[.var (.v (.arr 8 .u32)) true,.var (.v (.arr 8 .u32)) true,.var (.v (.arr 64 .u32)) true,.var (.v (.arr 64 .u32)) true,.var (.v (.arr 8 .u32)) true],[(.arr 8 .u32),(.arr 8 .u32),(.arr 64 .u32),(.arr 64 .u32),(.arr 8 .u32)]⟩],Zd (VJ fuel) fuel⟩
theorem ZkY:ZgG.Ok yb (Zp yb 192) (Zo yb 192 0):=Zk (fi:={ hi:={ still:=[14,22,25,29,57,60,64]},lp:=[]}) (specs:={ l:=[Zac]}) (okS ⟨Zdi,trivial⟩) trivial (by kernel_rfl) (fun v=>by kernel_rfl)
def VK (F:Nat) (s:(Int×(List UInt32)×(List UInt32)×(List UInt32)×(List UInt32)×(List UInt32))):Option ((Int×(List UInt32)×(List UInt32)×(List UInt32)×(List UInt32)×(List UInt32))⊕((List UInt32)×(List UInt32)×(List UInt32)×(List UInt32)×(List UInt32))):=
 if (decide (s.1 < 8))=true then
  if (inB s.1 8)=true then
   (s.2.2.2.2.2[s.1.toNat]?).bind fun e444=>
   if (inB s.1 8)=true then
    (s.2.1[s.1.toNat]?).bind fun e445=>
    if (inB s.1 8)=true then
     (s.2.2.2.2.2[s.1.toNat]?).bind fun e446=>
     some (.inl (wi (s.1+1),s.2.1,s.2.2.1,s.2.2.2.1,s.2.2.2.2.1,s.2.2.2.2.2.set s.1.toNat (e444+e445)))
    else
    none
   else
   none
  else
  none
 else
 some (.inr (s.2.1,s.2.2.1,s.2.2.2.1,s.2.2.2.2.1,s.2.2.2.2.2))
def ZgH:Lp:=⟨[(2,.ref 0 []),(4,.ref 1 []),(7,.ref 4 []),(104,.v (.int .i64))],[.var (.v (.arr 8 .u32)) true,.var (.v (.arr 8 .u32)) true,.var (.v (.arr 64 .u32)) true,.var (.v (.arr 64 .u32)) true,.var (.v (.arr 8 .u32)) true],[(.int .i64),(.arr 8 .u32),(.arr 8 .u32),(.arr 64 .u32),(.arr 64 .u32),(.arr 8 .u32)],[⟨.exit 2,[(4,.ref 1 []),(7,.ref 4 [])],[.var (.v (.arr 8 .u32)) true,.var (.v (.arr 8 .u32)) true,.var (.v (.arr 64 .u32)) true,.var (.v (.arr 64 .u32)) true,.var (.v (.arr 8 .u32)) true],[(.arr 8 .u32),(.arr 8 .u32),(.arr 64 .u32),(.arr 64 .u32),(.arr 8 .u32)]⟩],Zd (VK fuel) fuel⟩
theorem ZkZ:ZgH.Ok yb (Zp yb 192) (Zo yb 192 1):=Zk (fi:={ hi:={ still:=[14,22,25,29,57,60,64]},lp:=[]}) (specs:={ l:=[]}) (okS trivial) trivial (by kernel_rfl) (fun v=>by kernel_rfl)
def VR (F:Nat) (a0:(List UInt32)) (a1:(List UInt8)):Option ((List UInt32)):=
 (Zbm F a1).bind fun o407=>
 (ZkX F).bind fun o408=>
 (Zd (VJ F) F ((0:Int),a0,([0,0,0,0,0,0,0,0]:List UInt32),o407,o408,a0)).bind fun o443=>
 (Zd (VK F) F ((0:Int),o443.1,o443.2.1,o443.2.2.1,o443.2.2.2.1,o443.2.2.2.2)).bind fun o447=>
 some o447.2.2.2.2
def Zov (F:Nat):Fs yb:=⟨192,[.v (.arr 8 .u32),.v (.sl .u8)],[],[(.arr 8 .u32),(.sl .u8)],[⟨.ret,[(0,.v (.arr 8 .u32))],[],[(.arr 8 .u32)]⟩],fun x=>VR F x.1 x.2⟩
def Zch:Fs yb:=Zov fuel
theorem ZgI:Zch.Ok:=Zg (fi:={ hi:={ still:=[14,22,25,29,57,60,64]},lp:=[(0,ZgG),(1,ZgH)]}) (specs:={ l:=[Zji,Zou]}) (okS ⟨Zpy,ZuE,trivial⟩) ⟨ZkY,ZkZ,trivial⟩ (by decide+kernel) (fun x=>by kernel_rfl)
def Z7 (F:Nat) (a0:(List UInt8)):Option ((List UInt8)):=
 if (apB 0 a0.length 1)=true then
  some a0
 else
 none
def ZdA (F:Nat):Fs yb:=⟨190,[.sl true .u8],[],[(.sl .u8)],[⟨.ret,[(0,.own 0 .u8)],[.log .u8 5],[(.sl .u8)]⟩],fun x=>Z7 F x⟩
def Zes:Fs yb:=ZdA fuel
theorem ZdB:Zes.Ok:=Zg (fi:={ hi:={ own:=[2,5,7]},lp:=[]}) (specs:={ l:=[]}) (okS trivial) trivial (by decide+kernel) (fun x=>by kernel_rfl)
def QA (F:Nat):Option ((List UInt8)):=
 some ([]:List UInt8)
def ZdC (F:Nat):Fs yb:=⟨190,[.nil .u8],[],[],[⟨.ret,[(0,.own 0 .u8)],[.log .u8 5],[(.sl .u8)]⟩],fun x=>QA F⟩
def Zet:Fs yb:=ZdC fuel
theorem ZdD:Zet.Ok:=Zg (fi:={ hi:={ own:=[2,5,7]},lp:=[]}) (specs:={ l:=[]}) (okS trivial) trivial (by decide+kernel) (fun x=>by kernel_rfl)
def Zci (F:Nat):Fs yb:=⟨190,[.v (.sl .u8)],[],[(.sl .u8)],[⟨.ret,[(0,.own 0 .u8)],[.log .u8 5],[(.sl .u8)]⟩],fun x=>Z7 F x⟩
def Vu:Fs yb:=Zci fuel
theorem Zcj:Vu.Ok:=ZAU (t:=.u8) (xs:=[⟨.ret,[(0,.own 0 .u8)],[.log .u8 5],[(.sl .u8)]⟩]) (MA:=fun (x:(List UInt8))=>Z7 fuel x) (MB:=fun _=>QA fuel) ZdB ZdD rfl
def ZcH (F:Nat) (s:((List UInt8)×(List UInt8)×(List UInt8))):Option (((List UInt8)×(List UInt8)×(List UInt8))⊕((List UInt8)×(List UInt8)×(List UInt8))):=
 if ((Int.tmod (s.2.2.length:Int) 64)!=56)=true then
  if (apB s.2.2.length 1 1)=true then
   some (.inl (s.1,s.2.1,s.2.2++([0]:List UInt8)))
  else
  none
 else
 some (.inr (s.1,s.2.1,s.2.2))
def Zow:Lp:=⟨[(0,.v (.sl .u8)),(2,.ref 0 []),(3,.own 1 .u8)],[.var (.v (.arr 32 .u8)) true,.log .u8 5],[(.sl .u8),(.arr 32 .u8),(.sl .u8)],[⟨.exit 0,[(0,.v (.sl .u8)),(2,.ref 0 []),(3,.own 1 .u8)],[.var (.v (.arr 32 .u8)) true,.log .u8 5],[(.sl .u8),(.arr 32 .u8),(.sl .u8)]⟩],Zd (ZcH fuel) fuel⟩
theorem ZqS:Zow.Ok yb (Zp yb 143) (Zo yb 143 0):=Zk (fi:={ hi:={ own:=[3,14,16,21,23,24,28,43],still:=[13,24,27,35,37,44,46]},lp:=[]}) (specs:={ l:=[]}) (okS trivial) trivial (by kernel_rfl) (fun v=>by kernel_rfl)
def QZ (F:Nat) (s:(Int×Int×(List UInt8)×(List UInt8))):Option ((Int×Int×(List UInt8)×(List UInt8))⊕((List UInt8)×(List UInt8))):=
 if (decide (s.2.1 ≥ 0))=true then
  if (decide (0≤s.2.1))=true then
   if (apB s.2.2.1.length 1 1)=true then
    let y451:(List UInt8):=s.2.2.1++([w8 (Int.fdiv s.1 (2 ^ (min s.2.1.toNat 64)))]:List UInt8)
    some (.inl (s.1,wi (s.2.1 - 8),y451,s.2.2.2))
   else
   none
  else
  none
 else
 some (.inr (s.2.2.1,s.2.2.2))
def Zjj:Lp:=⟨[(0,.own 0 .u8),(1,.v (.int .i64)),(5,.v (.int .i64))],[.log .u8 5,.log .u8 5],[(.int .i64),(.int .i64),(.sl .u8),(.sl .u8)],[⟨.exit 0,[(0,.own 0 .u8)],[.log .u8 5,.log .u8 5],[(.sl .u8),(.sl .u8)]⟩],Zd (QZ fuel) fuel⟩
theorem Znf:Zjj.Ok yb (Zp yb 142) (Zo yb 142 0):=Zk (fi:={ hi:={ own:=[0,4,10,16,17]},lp:=[]}) (specs:={ l:=[]}) (okS trivial) trivial (by kernel_rfl) (fun v=>by kernel_rfl)
def W9 (F:Nat) (a1:Int) (s0:(List UInt8)):Option ((List UInt8)):=
 (Zd (QZ F) F (a1,(56:Int),s0,([]:List UInt8))).bind fun o452=>
 some o452.1
def ZdE (F:Nat):Fs yb:=⟨142,[.own 0 .u8,.v (.int .i64)],[.log .u8 5],[(.int .i64),(.sl .u8)],[⟨.ret,[(0,.own 0 .u8)],[.log .u8 5],[(.sl .u8)]⟩],fun x=>W9 F x.1 x.2⟩
def ZfC:Fs yb:=ZdE fuel
theorem ZdF:ZfC.Ok:=Zg (fi:={ hi:={ own:=[0,4,10,16,17]},lp:=[(0,Zjj)]}) (specs:={ l:=[]}) (okS trivial) ⟨Znf,trivial⟩ (by decide+kernel) (fun x=>by kernel_rfl)
def ZcI (F:Nat) (s:((List UInt8)×(List UInt8)×(List UInt8)×(List UInt32))):Option (((List UInt8)×(List UInt8)×(List UInt8)×(List UInt32))⊕((List UInt8)×(List UInt8)×(List UInt32))):=
 if (decide ((s.1.length:Int) ≥ 64))=true then
  if (Ze6 s.1.length none (some 64))=true then
   (VR F s.2.2.2 (s.1.take 64)).bind fun o455=>
   if (Ze6 s.1.length (some 64) none)=true then
    some (.inl (s.1.drop 64,s.2.1,s.2.2.1,o455))
   else
   none
  else
  none
 else
 some (.inr (s.2.1,s.2.2.1,s.2.2.2))
def Zox:Lp:=⟨[(0,.v (.sl .u8)),(2,.ref 0 []),(3,.own 1 .u8),(4,.ref 2 [])],[.var (.v (.arr 32 .u8)) true,.log .u8 5,.var (.v (.arr 8 .u32)) true],[(.sl .u8),(.arr 32 .u8),(.sl .u8),(.arr 8 .u32)],[⟨.exit 2,[(2,.ref 0 []),(3,.own 1 .u8),(4,.ref 2 [])],[.var (.v (.arr 32 .u8)) true,.log .u8 5,.var (.v (.arr 8 .u32)) true],[(.arr 32 .u8),(.sl .u8),(.arr 8 .u32)]⟩],Zd (ZcI fuel) fuel⟩
theorem ZqT:Zox.Ok yb (Zp yb 143) (Zo yb 143 1):=Zk (fi:={ hi:={ own:=[3,14,16,21,23,24,28,43],still:=[13,24,27,35,37,44,46]},lp:=[]}) (specs:={ l:=[Zch]}) (okS ⟨ZgI,trivial⟩) trivial (by kernel_rfl) (fun v=>by kernel_rfl)
def ZcJ (F:Nat) (s:((List UInt8)×(List UInt8)×(List UInt8)×(List UInt32))):Option (((List UInt8)×(List UInt8)×(List UInt8)×(List UInt32))⊕((List UInt8)×(List UInt8)×(List UInt32))):=
 if (decide ((s.1.length:Int) > 0))=true then
  if (Ze6 s.1.length none (some 64))=true then
   (VR F s.2.2.2 (s.1.take 64)).bind fun o458=>
   if (Ze6 s.1.length (some 64) none)=true then
    some (.inl (s.1.drop 64,s.2.1,s.2.2.1,o458))
   else
   none
  else
  none
 else
 some (.inr (s.2.1,s.2.2.1,s.2.2.2))
def Zoy:Lp:=⟨[(2,.ref 0 []),(3,.v (.sl .u8)),(4,.ref 2 [])],[.var (.v (.arr 32 .u8)) true,.log .u8 5,.var (.v (.arr 8 .u32)) true],[(.sl .u8),(.arr 32 .u8),(.sl .u8),(.arr 8 .u32)],[⟨.exit 4,[(2,.ref 0 []),(4,.ref 2 [])],[.var (.v (.arr 32 .u8)) true,.log .u8 5,.var (.v (.arr 8 .u32)) true],[(.arr 32 .u8),(.sl .u8),(.arr 8 .u32)]⟩],Zd (ZcJ fuel) fuel⟩
theorem ZqU:Zoy.Ok yb (Zp yb 143) (Zo yb 143 2):=Zk (fi:={ hi:={ own:=[3,14,16,21,23,24,28,43],still:=[13,24,27,35,37,44,46]},lp:=[]}) (specs:={ l:=[Zch]}) (okS ⟨ZgI,trivial⟩) trivial (by kernel_rfl) (fun v=>by kernel_rfl)
def ZcK (F:Nat) (s:(Int×(List UInt8)×(List UInt8)×(List UInt32))):Option ((Int×(List UInt8)×(List UInt8)×(List UInt32))⊕((List UInt8)×(List UInt8)×(List UInt32))):=
 if (decide (s.1 < 32))=true then
  if (inB (wi (Int.tdiv s.1 4)) 8)=true then
   (s.2.2.2[(wi (Int.tdiv s.1 4)).toNat]?).bind fun e460=>
   if (decide (0≤wi (24 - (wi (8*(Int.tmod s.1 4))))))=true then
    let y461:UInt32:=ZdN e460 (min (wi (24 - (wi (8*(Int.tmod s.1 4))))).toNat 32)
    if (inB s.1 32)=true then
     (s.2.1[s.1.toNat]?).bind fun e462=>
     some (.inl (wi (s.1+1),s.2.1.set s.1.toNat (w8 (y461.toNat:Int)),s.2.2.1,s.2.2.2))
    else
    none
   else
   none
  else
  none
 else
 some (.inr (s.2.1,s.2.2.1,s.2.2.2))
def Zoz:Lp:=⟨[(2,.ref 0 []),(4,.ref 2 []),(48,.v (.int .i64))],[.var (.v (.arr 32 .u8)) true,.log .u8 5,.var (.v (.arr 8 .u32)) true],[(.int .i64),(.arr 32 .u8),(.sl .u8),(.arr 8 .u32)],[⟨.exit 6,[(2,.ref 0 [])],[.var (.v (.arr 32 .u8)) true,.log .u8 5,.var (.v (.arr 8 .u32)) true],[(.arr 32 .u8),(.sl .u8),(.arr 8 .u32)]⟩],Zd (ZcK fuel) fuel⟩
theorem ZqV:Zoz.Ok yb (Zp yb 143) (Zo yb 143 3):=Zk (fi:={ hi:={ own:=[3,14,16,21,23,24,28,43],still:=[13,24,27,35,37,44,46]},lp:=[]}) (specs:={ l:=[]}) (okS trivial) trivial (by kernel_rfl) (fun v=>by kernel_rfl)
def ZfD (F:Nat) (a0:(List UInt8)):Option ((List UInt8)):=
 let y448:Int:=wi ((a0.length:Int) - (Int.tmod (a0.length:Int) 64))
 if (Ze6 a0.length (some y448) none)=true then
  (Z7 F (a0.drop y448.toNat)).bind fun o449=>
  if (apB o449.length 1 1)=true then
   (Zd (ZcH F) F (a0,([0,0,0,0,0,0,0,0,0,0,0,0,0,0,0,0,0,0,0,0,0,0,0,0,0,0,0,0,0,0,0,0]:List UInt8),o449++([128]:List UInt8))).bind fun o450=>
   (W9 F (wi (8*(o450.1.length:Int))) o450.2.2).bind fun o453=>
   (ZkV F).bind fun o454=>
   (Zd (ZcI F) F (o450.1,o450.2.1,o453,o454)).bind fun o456=>
   (Zd (ZcJ F) F (o456.2.1,o456.1,o456.2.1,o456.2.2)).bind fun o459=>
   (Zd (ZcK F) F ((0:Int),o459.1,o459.2.1,o459.2.2)).bind fun o463=>
   some o463.1
  else
  none
 else
 none
def ZiQ (F:Nat):Fs yb:=⟨143,[.v (.sl .u8)],[],[(.sl .u8)],[⟨.ret,[(0,.v (.arr 32 .u8))],[],[(.arr 32 .u8)]⟩],fun x=>ZfD F x⟩
def Zzl:Fs yb:=ZiQ fuel
theorem Zxq:Zzl.Ok:=Zg (fi:={ hi:={ own:=[3,14,16,21,23,24,28,43],still:=[13,24,27,35,37,44,46]},lp:=[(0,Zow),(1,Zox),(2,Zoy),(3,Zoz)]}) (specs:={ l:=[ZfC,Vu,Zot]}) (okS ⟨ZdF,Zcj,ZuC,trivial⟩) ⟨ZqS,ZqT,ZqU,ZqV,trivial⟩ (by decide+kernel) (fun x=>by kernel_rfl)
end
end Go.Proofs.YtjbbdlffilcaaaaGreat
end
section
set_option maxRecDepth 4000
namespace Go.Proofs.YtjbbdlffilcaaaaGreat
open Go Go.Ev Go.Sha
theorem Zhh (x:UInt32) (n k:Nat) (h:n+k=32) (hn:0 < n) {z:Int} (hz:((w64 z)&&&31).toNat=k):∃o,ZJ fuel x z=some o∧o.toNat=lo (Nat.shiftRight (dbl x.toNat) n):=by
 refine ⟨_,rfl, ?_⟩
 have e1:((((w64 z)&&&31).toNat:Int)).toNat=k:=by rw [hz];rfl
 have e2:(32 - ((w64 z)&&&31)).toNat=n:=by
  have h1:((w64 z)&&&31)=yv k:=yaw.1 (by rw [hz,yav];omega)
  rw [h1,UInt64.toNat_sub,yav]
  show (2 ^ 64 - k % 2 ^ 64+32) % 2 ^ 64=n
  omega
 rw [e1,show ((((32 - ((w64 z)&&&31)).toNat:Nat):Int)).toNat=n by rw [e2];rfl,Nat.min_eq_left (by omega),Nat.min_eq_left (by omega)]
 exact ZHH x h hn
theorem ZI2 {l:List UInt8} {a b c d:UInt8} (ha:l[0]? =some a) (hb:l[1]? =some b) (hc:l[2]? =some c) (hd:l[3]? =some d):∃o,Zer fuel l=some o∧o.toNat=((a.toNat*256+b.toNat)*256+c.toNat)*256+d.toNat:=by
 unfold Zer
 rw [Zaj (i:=0) (by omega) ha,Zaj (i:=1) (by omega) hb,Zaj (i:=2) (by omega) hc,Zaj (i:=3) (by omega) hd]
 refine ⟨_,rfl, ?_⟩
 have h1:=a.toNat_lt
 have h2:=b.toNat_lt
 have h3:=c.toNat_lt
 have h4:=d.toNat_lt
 have hs:∀(x:UInt8) (n:Nat),n≤24→(ZaE (ybl x.toNat) n).toNat=x.toNat*2 ^ n:=by
  intro x n hn
  have hx:=x.toNat_lt
  unfold ZaE
  rw [ycj,ycj,yac (a:=x.toNat) (by omega)]
  refine yac ?_
  calc x.toNat*2 ^ n < 2 ^ 8*2 ^ n:=Nat.mul_lt_mul_of_pos_right hx (Nat.two_pow_pos n)
   _=2 ^ (8+n):=(Nat.pow_add ..).symm
   _≤2 ^ 32:=Nat.pow_le_pow_right (by omega) (by omega)
 rw [Zxe,Zxe,Zxe,hs _ _ (by omega),hs _ _ (by omega),hs _ _ (by omega),ycj,yac (a:=d.toNat) (by omega)]
 have k1:Nat.lor (a.toNat*2 ^ 24) (b.toNat*2 ^ 16)=2 ^ 16*(a.toNat*256+b.toNat):=by
  rw [ybj a.toNat,show Nat.lor (2 ^ 24*a.toNat) (b.toNat*2 ^ 16)=2 ^ 24*a.toNat|||b.toNat*2 ^ 16 from rfl, ←ycx (by omega)]
  omega
 have k2:Nat.lor (2 ^ 16*(a.toNat*256+b.toNat)) (c.toNat*2 ^ 8)=2 ^ 8*((a.toNat*256+b.toNat)*256+c.toNat):=by
  rw [show Nat.lor (2 ^ 16*(a.toNat*256+b.toNat)) (c.toNat*2 ^ 8)=2 ^ 16*(a.toNat*256+b.toNat)|||c.toNat*2 ^ 8 from rfl, ←ycx (by omega)]
  omega
 rw [k1,k2,show Nat.lor (2 ^ 8*((a.toNat*256+b.toNat)*256+c.toNat)) d.toNat=2 ^ 8*((a.toNat*256+b.toNat)*256+c.toNat)|||d.toNat from rfl, ←ycx (by omega)]
 omega
theorem ZFQ {l:List UInt8} (h:l.length=64):∃o,Zbm fuel l=some o∧o.length=64∧∀(i:Nat) x,i < 64→o[i]? =some x→x.toNat=wd (Z9 (l.map yah)) i:=by
 unfold Zbm
 generalize hz:([0,0,0,0,0,0,0,0,0,0,0,0,0,0,0,0,0,0,0,0,0,0,0,0,0,0,0,0,0,0,0,0,0,0,0,0,0,0,0,0,0,0,0,0,0,0,0,0,0,0,0,0,0,0,0,0,0,0,0,0,0,0,0,0]:List UInt32)=z
 have hzl:z.length=64:=by rw [←hz];rfl
 refine Exists.elim (WI (step:=Qe fuel) (fun s=>s.1=l∧0≤s.2.1∧s.2.1≤64∧s.2.2.length=64∧∀(j:Nat) x,(j:Int) < s.2.1→s.2.2[j]? =some x→x.toNat=wd (Z9 (l.map yah)) j) (fun s=>(64 - s.2.1).toNat)
  (fun o=>o.length=64∧∀(j:Nat) x,j < 64→o[j]? =some x→x.toNat=wd (Z9 (l.map yah)) j) ?_ (l,(0:Int),z) ⟨rfl,Int.le_refl _,by dsimp only;omega,hzl,fun j x hj=>by dsimp only at hj;omega⟩ (by dsimp only;omega)) ?_
 rotate_left
 ·rintro o ⟨h1,h2⟩
  exact ⟨o,by rw [h1];rfl,h2⟩
 ·rintro ⟨b,i,w⟩ ⟨hb,h0,h64,hw,hv⟩
  dsimp only at hb h0 h64 hw hv
  subst hb
  unfold Qe
  dsimp only
  have hset:∀(y:UInt32),y.toNat=wd (Z9 (b.map yah)) i.toNat→i < 64→∀(j:Nat) x,(j:Int) < i+1→(w.set i.toNat y)[j]? =some x→x.toNat=wd (Z9 (b.map yah)) j:=by
   intro y hy hi j x hj hx
   by_cases hji:j=i.toNat
   ·subst hji
    rw [ycf (by omega)] at hx
    cases hx
    exact hy
   ·rw [ycv (Ne.symm hji)] at hx
    exact hv j x (by omega) hx
  by_cases hi:i < 64
  ·left
   rw [if_pos (decide_eq_true hi)]
   obtain ⟨e,he⟩:=Za8 (l:=w) (i:=i.toNat) (by omega)
   by_cases h16:i < 16
   ·rw [if_pos (decide_eq_true h16),Zv (z:=4*i) (by omega) (by omega),if_pos (by simp only [Ze6,yg,decide_eq_true_eq];omega)]
    have g:∀k:Nat,k < 4→∃x,b[4*i.toNat+k]? =some x:=fun k hk=>Za8 (by omega)
    obtain ⟨x0,g0⟩:=g 0 (by omega)
    obtain ⟨x1,g1⟩:=g 1 (by omega)
    obtain ⟨x2,g2⟩:=g 2 (by omega)
    obtain ⟨x3,g3⟩:=g 3 (by omega)
    have e4:(4*i).toNat=4*i.toNat:=by omega
    obtain ⟨o,ho,hoe⟩:=ZI2 (l:=b.drop (4*i).toNat) (by rw [List.getElem?_drop,e4];exact g0) (by rw [List.getElem?_drop,e4];exact g1) (by rw [List.getElem?_drop,e4];exact g2) (by rw [List.getElem?_drop,e4];exact g3)
    rw [ho,ya,if_pos (ZW h0 (by omega)),he,ya,Zv (z:=i+1) (by omega) (by omega)]
    refine ⟨_,rfl,⟨rfl,by dsimp only;omega,by dsimp only;omega,by dsimp only;rw [yar];exact hw,hset o ?_ hi⟩,by dsimp only;omega⟩
    have mg:∀(k:Nat) (x:UInt8),b[k]? =some x→(b.map yah)[k]? =some x.toNat:=fun k x hx=>by rw [yx,hx];rfl
    have hwg:=Zkz i.toNat (b.map yah) _ _ _ _ (mg _ _ g0) (mg _ _ g1) (mg _ _ g2) (mg _ _ g3)
    rw [hoe]
    have b0:=x0.toNat_lt
    have b1:=x1.toNat_lt
    have b2:=x2.toNat_lt
    have b3:=x3.toNat_lt
    exact (Zzg _ (by omega) hwg (by omega)).symm
   ·rw [if_neg (by simpa using h16)]
    rw [Zv (z:=i - 15) (by omega) (by omega),Zv (z:=i - 2) (by omega) (by omega),Zv (z:=i - 16) (by omega) (by omega),Zv (z:=i - 7) (by omega) (by omega),Zv (z:=i+1) (by omega) (by omega)]
    obtain ⟨e1,he1⟩:=Za8 (l:=w) (i:=(i - 15).toNat) (by omega)
    obtain ⟨e2,he2⟩:=Za8 (l:=w) (i:=(i - 2).toNat) (by omega)
    obtain ⟨e3,he3⟩:=Za8 (l:=w) (i:=(i - 16).toNat) (by omega)
    obtain ⟨e4,he4⟩:=Za8 (l:=w) (i:=(i - 7).toNat) (by omega)
    have v1:=hv _ _ (by omega) he1
    have v2:=hv _ _ (by omega) he2
    have v3:=hv _ _ (by omega) he3
    have v4:=hv _ _ (by omega) he4
    rw [if_pos (ZW (by omega) (by omega)),he1,ya,if_pos (ZW (by omega) (by omega)),he2,ya]
    obtain ⟨o1,ho1,p1⟩:=Zhh e1 7 25 rfl (by omega) (z:= -7) rfl
    obtain ⟨o2,ho2,p2⟩:=Zhh e1 18 14 rfl (by omega) (z:= -18) rfl
    obtain ⟨o3,ho3,p3⟩:=Zhh e2 17 15 rfl (by omega) (z:= -17) rfl
    obtain ⟨o4,ho4,p4⟩:=Zhh e2 19 13 rfl (by omega) (z:= -19) rfl
    rw [ho1,ya,ho2,ya,ho3,ya,ho4,ya]
    rw [if_pos (ZW (by omega) (by omega)),he3,ya,if_pos (ZW (by omega) (by omega)),he4,ya]
    try dsimp only
    rw [if_pos (ZW h0 (by omega)),he,ya]
    refine ⟨_,rfl,⟨rfl,by dsimp only;omega,by dsimp only;omega,by dsimp only;rw [yar];exact hw,hset _ ?_ hi⟩,by dsimp only;omega⟩
    have hn:=Zxf (Z9 (b.map yah)) (i - 16).toNat
    rw [show (i - 16).toNat+16=i.toNat by omega,show (i - 16).toNat+1=(i - 15).toNat by omega,show (i - 16).toNat+9=(i - 7).toNat by omega,show (i - 16).toNat+14=(i - 2).toNat by omega, ←v1, ←v2, ←v3, ←v4] at hn
    rw [hn]
    rw [Q7,Q7,Q7,ZJA e1 p1 p2,ZJB e2 p3 p4]
    exact ZJG ..
  ·right
   rw [if_neg (by simpa using hi)]
   exact ⟨_,rfl,hw,fun j x hj hx=>hv j x (by omega) hx⟩
theorem ZFR {st:List UInt32} {l:List UInt8} (hs:st.length=8) (h:l.length=64):∃o,VR fuel st l=some o∧o.map yai=ZiB (st.map yai) (Z9 (l.map yah)):=by
 unfold VR
 obtain ⟨w,hw,hwl,hwv⟩:=ZFQ h
 obtain ⟨k,hk,hkv⟩:∃k,ZkX fuel=some k∧k.map yai=ks:=⟨_,rfl,rfl⟩
 have hkl:k.length=64:=by rw [←yp (f:=yai),hkv];rfl
 generalize hws:Z9 (l.map yah)=ws at hwv
 rw [hw,ya,hk,ya]
 refine Exists.elim (WI (step:=VJ fuel) (fun s=>0≤s.1∧s.1≤64∧s.2.1=st∧s.2.2.2.1=w∧s.2.2.2.2.1=k∧s.2.2.2.2.2.length=8∧s.2.2.2.2.2.map yai=rs ws (st.map yai) s.1.toNat) (fun s=>(64 - s.1).toNat)
  (fun o=>o.1=st∧o.2.2.2.2.length=8∧o.2.2.2.2.map yai=rs ws (st.map yai) 64) ?_ ((0:Int),st,([0,0,0,0,0,0,0,0]:List UInt32),w,k,st) ⟨Int.le_refl _,by dsimp only;omega,rfl,rfl,rfl,hs,rfl⟩ (by dsimp only;omega)) ?_
 rotate_left
 ·rintro o ⟨h1,p0,p1,p2⟩
  rw [h1,ya]
  have hml:(ZiB (st.map yai) ws).length=8:=Zfc (by rw [yp];exact hs)
  refine Exists.elim (WI (step:=VK fuel) (fun s=>0≤s.1∧s.1≤8∧s.2.1=st∧s.2.2.2.2.2.length=8∧(∀(j:Nat) x,s.2.2.2.2.2[j]? =some x→if (j:Int) < s.1 then (ZiB (st.map yai) ws)[j]? =some x.toNat else (rs ws (st.map yai) 64)[j]? =some x.toNat)) (fun s=>(8 - s.1).toNat)
   (fun o=>o.2.2.2.2.map yai=ZiB (st.map yai) ws) ?_ ((0:Int),o.1,o.2.1,o.2.2.1,o.2.2.2.1,o.2.2.2.2) ⟨Int.le_refl _,by dsimp only;omega,p0,p1,fun j x hx=>by
     dsimp only at hx ⊢
     rw [if_neg (by omega), ←p2,yx,hx]
     rfl⟩ (by dsimp only;omega)) ?_
  rotate_left
  ·rintro q ⟨h2,q2⟩
   rw [h2,ya]
   exact ⟨_,rfl,q2⟩
  ·rintro ⟨i,a,b,c,d,e⟩ ⟨h0,h8,ha,he,hv⟩
   dsimp only at h0 h8 ha he hv
   subst ha
   unfold VK
   dsimp only
   by_cases hi:i < 8
   ·left
    obtain ⟨e1,he1⟩:=Za8 (l:=e) (i:=i.toNat) (by omega)
    obtain ⟨e2,he2⟩:=Za8 (l:=a) (i:=i.toNat) (by omega)
    simp only [decide_eq_true hi,if_true,ZW h0 (show i < ((8:Nat):Int) by omega),he1,he2,ya]
    rw [Zv (z:=i+1) (by omega) (by omega)]
    refine ⟨_,rfl,⟨by dsimp only;omega,by dsimp only;omega,rfl,by dsimp only;rw [yar];exact he, ?_⟩,by dsimp only;omega⟩
    intro j x hx
    dsimp only at hx ⊢
    by_cases hji:j=i.toNat
    ·subst hji
     rw [ycf (by omega)] at hx
     cases hx
     rw [if_pos (by omega),Q7]
     have k1:=hv _ _ he1
     rw [if_neg (by omega)] at k1
     unfold ZiB
     rw [List.getElem?_zipWith,k1,yx,he2]
     rfl
    ·rw [ycv (Ne.symm hji)] at hx
     have k1:=hv j x hx
     by_cases hj:(j:Int) < i
     ·rw [if_pos hj] at k1
      rw [if_pos (by omega)]
      exact k1
     ·rw [if_neg hj] at k1
      rw [if_neg (by omega)]
      exact k1
   ·right
    rw [if_neg (by simpa using hi)]
    refine ⟨_,rfl, ?_⟩
    dsimp only
    apply List.ext_getElem?
    intro j
    rw [yx]
    by_cases hj:j < 8
    ·obtain ⟨x,hx⟩:=Za8 (l:=e) (i:=j) (by omega)
     have:=hv j x hx
     rw [if_pos (by omega)] at this
     rw [hx,this]
     rfl
    ·rw [yan (by omega),yan (by omega)]
     rfl
 ·rintro ⟨i,a,b,c,d,e⟩ ⟨h0,h64,ha,hc,hd,he,hv⟩
  dsimp only at h0 h64 ha hc hd he hv
  subst ha hc hd
  unfold VJ
  dsimp only
  by_cases hi:i < 64
  ·left
   match e,he,hv with
   |[x0,x1,x2,x3,x4,x5,x6,x7],_,hv=>
    obtain ⟨e1,he1⟩:=Za8 (l:=d) (i:=i.toNat) (by omega)
    obtain ⟨e2,he2⟩:=Za8 (l:=c) (i:=i.toNat) (by omega)
    obtain ⟨o1,ho1,p1⟩:=Zhh x4 6 26 rfl (by omega) (z:= -6) rfl
    obtain ⟨o2,ho2,p2⟩:=Zhh x4 11 21 rfl (by omega) (z:= -11) rfl
    obtain ⟨o3,ho3,p3⟩:=Zhh x4 25 7 rfl (by omega) (z:= -25) rfl
    obtain ⟨o4,ho4,p4⟩:=Zhh x0 2 30 rfl (by omega) (z:= -2) rfl
    obtain ⟨o5,ho5,p5⟩:=Zhh x0 13 19 rfl (by omega) (z:= -13) rfl
    obtain ⟨o6,ho6,p6⟩:=Zhh x0 22 10 rfl (by omega) (z:= -22) rfl
    generalize ZJ fuel=R at ho1 ho2 ho3 ho4 ho5 ho6 ⊢
    rw [if_pos (decide_eq_true hi)]
    simp only [List.getElem?_cons_zero,List.getElem?_cons_succ]
    rw [ya,ho1,ya,ya,ho2,ya,ya,ho3,ya,ya,ya,ya,ya,ya]
    rw [if_pos (ZW h0 (show i < ((64:Nat):Int) by omega)),he1,ya,if_pos (ZW h0 (show i < ((64:Nat):Int) by omega)),he2,ya,ya,ho4,ya,ya,ho5,ya,ya,ho6]
    rw [ya,ya,ya,ya,ya,ya]
    rw [ya,ya,ya,ya,ya,ya,ya]
    rw [Zv (z:=i+1) (by omega) (by omega)]
    refine ⟨_,rfl,⟨by dsimp only;omega,by dsimp only;omega,rfl,rfl,rfl,rfl, ?_⟩,by dsimp only;omega⟩
    dsimp only
    rw [show (i+1).toNat=i.toNat+1 by omega,show rs ws (a.map yai) (i.toNat+1)=rnd (rs ws (a.map yai) i.toNat) (ks.getD i.toNat 0) (wd ws i.toNat) from rfl, ←hv]
    have hk1:ks.getD i.toNat 0=e1.toNat:=by
     rw [←hkv,ycu,yx,he1]
     rfl
    rw [hk1, ←hwv i.toNat e2 (by omega) he2]
    simp only [List.map_cons,List.map_nil]
    rw [ZsU]
    have kt:((x7+((o1^^^o2)^^^o3))+(x6^^^(x4&&&(x5^^^x6)))+e1+e2).toNat=lo (ym (ym (ym (ym x7.toNat (S1 x4.toNat)) (ch x4.toNat x5.toNat x6.toNat)) e1.toNat) e2.toNat):=by
     rw [Q7,Q7,Q7,Q7,ZJD x4 p1 p2 p3,ZJE]
     exact ZJH ..
    have ka:((x7+((o1^^^o2)^^^o3))+(x6^^^(x4&&&(x5^^^x6)))+e1+e2+((o4^^^o5)^^^o6)+((x0&&&x1)|||(x2&&&(x0|||x1)))).toNat=lo (ym (ym (ym (ym (ym (ym x7.toNat (S1 x4.toNat)) (ch x4.toNat x5.toNat x6.toNat)) e1.toNat) e2.toNat) (S0 x0.toNat)) (mj x0.toNat x1.toNat x2.toNat)):=by
     rw [Q7,Q7,kt,ZJC x0 p4 p5 p6,ZJF]
     exact ZJI ..
    have ke:(x3+(((x7+((o1^^^o2)^^^o3))+(x6^^^(x4&&&(x5^^^x6))))+e1+e2)).toNat=lo (ym x3.toNat (ym (ym (ym (ym x7.toNat (S1 x4.toNat)) (ch x4.toNat x5.toNat x6.toNat)) e1.toNat) e2.toNat)):=by
     rw [Q7,kt]
     exact ZJJ ..
    rw [ka,ke]
  ·right
   rw [if_neg (by simpa using hi)]
   have e64:i=64:=by omega
   subst e64
   exact ⟨_,rfl,rfl,he,hv⟩
def ZDA (n:Nat):List UInt8:=(be8 n).map yaz
theorem ZCk {n:Nat} {b:List UInt8} (h:b.length≤1000000000000):W9 fuel (n:Int) b=some (b++ZDA n):=by
 unfold W9
 obtain ⟨o,h1,h2⟩:=WI (step:=QZ fuel) (fun s=>∃k:Nat,k≤8∧s.1=(n:Int)∧s.2.1=56 - 8*(k:Int)∧s.2.2.1=b++(ZDA n).take k) (fun s=>(s.2.1+8).toNat) (fun o=>o.1=b++ZDA n) (by
  rintro ⟨a,i,c,d⟩ ⟨k,hk,ha,hi,hc⟩
  dsimp only at ha hi hc
  subst ha
  unfold QZ
  dsimp only
  have hcl:c.length≤b.length+8:=by rw [hc,yj,yag];omega
  by_cases h0:i ≥ 0
  ·left
   rw [if_pos (decide_eq_true h0),if_pos (decide_eq_true h0),if_pos (Ya (by omega) (by omega)),Zv (z:=i - 8) (by omega) (by omega)]
   refine ⟨_,rfl,⟨k+1,by omega,rfl,by dsimp only;omega, ?_⟩,by dsimp only;omega⟩
   dsimp only
   have hw:∀m:Nat,w8 (Int.fdiv (n:Int) (2 ^ m))=yaz (n / 2 ^ m % 256):=by
    intro m
    unfold w8
    rw [Int.fdiv_eq_ediv_of_nonneg _ (by exact Int.le_of_lt (Int.pow_pos (by omega)))]
    congr 1
   have hmin:min i.toNat 64=56 - 8*k:=by omega
   rw [hmin,hw,hc,yz]
   congr 1
   have hk8:k < 8:=by omega
   match k,hk8 with
   |0,_=>rfl
   |1,_=>rfl
   |2,_=>rfl
   |3,_=>rfl
   |4,_=>rfl
   |5,_=>rfl
   |6,_=>rfl
   |7,_=>
    show _++[yaz (n / 2 ^ 0 % 256)]=_
    rw [Nat.pow_zero,Nat.div_one]
    rfl
  ·right
   rw [if_neg (by simpa using h0)]
   have hk8:k=8:=by omega
   subst hk8
   exact ⟨_,rfl,hc⟩) (((n:Int),(56:Int),b,([]:List UInt8))) ⟨0,by omega,rfl,by simp,by simp⟩ (by dsimp only;omega)
 rw [h1,ya,h2]
theorem ZI3 {l:List UInt8} (h:l.length≤4294967296):ZfD fuel l=some (sha l):=by
 unfold ZfD
 have hm:Int.tmod (l.length:Int) 64=((l.length % 64:Nat):Int):=by
  rw [Int.tmod_eq_emod_of_nonneg (by omega)]
  omega
 have hlt:l.length % 64 < 64:=yaq _ (by omega)
 have hle:l.length % 64≤l.length:=Nat.mod_le _ _
 rw [hm,Zv (z:=(l.length:Int) - ((l.length % 64:Nat):Int)) (by omega) (by omega)]
 dsimp only
 rw [if_pos (by simp only [Ze6,yg,decide_eq_true_eq];omega)]
 have hq:((l.length:Int) - ((l.length % 64:Nat):Int)).toNat=64*(l.length / 64):=by omega
 rw [hq]
 have hdl:(l.drop (64*(l.length / 64))).length=l.length % 64:=by
  rw [ybt]
  omega
 generalize ht:l.drop (64*(l.length / 64))=t at hdl
 have hcl:Z7 fuel t=some t:=by
  unfold Z7
  rw [if_pos (Ya (by omega) (by omega))]
 rw [hcl,ya,if_pos (Ya (by omega) (by omega))]
 generalize hz:([0,0,0,0,0,0,0,0,0,0,0,0,0,0,0,0,0,0,0,0,0,0,0,0,0,0,0,0,0,0,0,0]:List UInt8)=z
 have hzl:z.length=32:=by rw [←hz];rfl
 have hzs:zs l.length=(119 - t.length) % 64:=by unfold zs;rw [hdl]
 obtain ⟨o,h1,p1,p2,p3⟩:=WI (step:=ZcH fuel) (fun s=>s.1=l∧s.2.1=z∧∃j,j≤zs l.length∧s.2.2=t++([128]:List UInt8)++yr j 0) (fun s=>184 - s.2.2.length)
  (fun o=>o.1=l∧o.2.1=z∧o.2.2=t++([128]:List UInt8)++yr (zs l.length) 0) (by
  rintro ⟨a,b,c⟩ ⟨k1,k2,j,k3,k4⟩
  dsimp only at k1 k2 k3 k4
  have hcl:c.length=t.length+1+j:=by rw [k4,yj,yj,ycl];rfl
  unfold ZcH
  dsimp only
  have hm:Int.tmod (c.length:Int) 64=((c.length % 64:Nat):Int):=by
   rw [Int.tmod_eq_emod_of_nonneg (by omega)]
   omega
  rw [hm]
  by_cases hi:c.length % 64=56
  ·right
   rw [if_neg (by simp;omega)]
   have:j=zs l.length:=by omega
   subst this
   exact ⟨_,rfl,k1,k2,k4⟩
  ·left
   rw [if_pos (by simp;omega),if_pos (Ya (by omega) (by omega))]
   have hj:j≠zs l.length:=fun e=>hi (by omega)
   refine ⟨_,rfl,⟨k1,k2,j+1,by omega, ?_⟩, ?_⟩
   ·dsimp only
    rw [k4,yz,List.replicate_succ',yz]
   ·dsimp only
    rw [yj,List.length_singleton]
    omega) (l,z,t++([128]:List UInt8)) ⟨rfl,rfl,0,Nat.zero_le _,by simp⟩ (by dsimp only;omega)
 rw [h1,ya,p1,p2,p3,Zv (z:=8*(l.length:Int)) (by omega) (by omega),show 8*(l.length:Int)=((8*l.length:Nat):Int) by omega,ZCk (by
  rw [yj,yj,ycl]
  simp
  omega),ya]
 obtain ⟨f,hf,hfl⟩:∃f,ZkV fuel=some f∧f.map yai=Zcd:=⟨_,rfl,rfl⟩
 have hf8:f.length=8:=by rw [←yp (f:=yai),hfl];rfl
 rw [hf,ya]
 generalize hE:t++([128]:List UInt8)++yr (zs l.length) 0++ZDA (8*l.length)=E
 have hEl:E.length=64*((t.length+72) / 64):=by
  rw [←hE]
  simp only [yj,ycl,List.length_singleton,ZDA,yp,be8,List.length_cons,List.length_nil]
  omega
 obtain ⟨o3,h3,r1,r2,r3,r4⟩:=WI (step:=ZcI fuel) (fun s=>s.2.1=z∧s.2.2.1=E∧s.2.2.2.length=8∧∃c,c≤l.length / 64∧s.1=l.drop (64*c)∧s.2.2.2.map yai=Zfd c (l.map yah) Zcd) (fun s=>s.1.length)
  (fun x=>x.1=z∧x.2.1=E∧x.2.2.length=8∧x.2.2.map yai=Zfd (l.length / 64) (l.map yah) Zcd) (by
  rintro ⟨a,b,c,d⟩ ⟨k1,k2,k3,j,k4,k5,k6⟩
  dsimp only at k1 k2 k3 k4 k5 k6
  have hal:a.length=l.length - 64*j:=by rw [k5,ybt]
  unfold ZcI
  dsimp only
  by_cases hi:(a.length:Int) ≥ 64
  ·left
   obtain ⟨m,hm1,hm2⟩:=ZFR (st:=d) (l:=a.take 64) k3 (by rw [yag];omega)
   rw [if_pos (decide_eq_true hi),if_pos (by simp only [Ze6,yg,decide_eq_true_eq];omega),hm1,ya,if_pos (by simp only [Ze6,yg,decide_eq_true_eq];omega)]
   refine ⟨_,rfl,⟨k1,k2, ?_,j+1,by omega, ?_, ?_⟩,by dsimp only;rw [ybt];omega⟩
   ·dsimp only
    rw [←yp (f:=yai),hm2]
    exact Zfc (by rw [yp];exact k3)
   ·dsimp only
    rw [k5,List.drop_drop]
    congr 1
   ·dsimp only
    rw [hm2,ZlJ,k6,k5,List.map_take,List.map_drop]
  ·right
   rw [if_neg (by simpa using hi)]
   have:j=l.length / 64:=by omega
   subst this
   exact ⟨_,rfl,k1,k2,k3,k6⟩) (l,z,E,f) ⟨rfl,rfl,hf8,0,Nat.zero_le _,by simp,hfl⟩ (by dsimp only;omega)
 rw [h3,ya,r1,r2]
 generalize hv1:Zfd (l.length / 64) (l.map yah) Zcd=v1 at r4
 obtain ⟨o4,h4,s1,s2,s3⟩:=WI (step:=ZcJ fuel) (fun s=>s.2.1=z∧s.2.2.2.length=8∧∃c,c≤E.length / 64∧s.1=E.drop (64*c)∧s.2.2.2.map yai=Zfd c (E.map yah) v1) (fun s=>s.1.length)
  (fun x=>x.1=z∧x.2.2.length=8∧x.2.2.map yai=Zfd (E.length / 64) (E.map yah) v1) (by
  rintro ⟨a,b,c,d⟩ ⟨k1,k3,j,k4,k5,k6⟩
  dsimp only at k1 k3 k4 k5 k6
  have hal:a.length=E.length - 64*j:=by rw [k5,ybt]
  unfold ZcJ
  dsimp only
  by_cases hi:(a.length:Int) > 0
  ·left
   obtain ⟨m,hm1,hm2⟩:=ZFR (st:=d) (l:=a.take 64) k3 (by rw [yag];omega)
   rw [if_pos (decide_eq_true hi),if_pos (by simp only [Ze6,yg,decide_eq_true_eq];omega),hm1,ya,if_pos (by simp only [Ze6,yg,decide_eq_true_eq];omega)]
   refine ⟨_,rfl,⟨k1, ?_,j+1,by omega, ?_, ?_⟩,by dsimp only;rw [ybt];omega⟩
   ·dsimp only
    rw [←yp (f:=yai),hm2]
    exact Zfc (by rw [yp];exact k3)
   ·dsimp only
    rw [k5,List.drop_drop]
    congr 1
   ·dsimp only
    rw [hm2,ZlJ,k6,k5,List.map_take,List.map_drop]
  ·right
   rw [if_neg (by simpa using hi)]
   have:j=E.length / 64:=by omega
   subst this
   exact ⟨_,rfl,k1,k3,k6⟩) (E,z,E,o3.2.2) ⟨rfl,r3,0,Nat.zero_le _,by simp,r4⟩ (by dsimp only;omega)
 rw [h4,ya]
 generalize hv2:Zfd (E.length / 64) (E.map yah) v1=v2 at s3
 obtain ⟨o5,h5,t1,t2⟩:=WI (step:=ZcK fuel) (fun s=>0≤s.1∧s.1≤32∧s.2.1.length=32∧s.2.2.2=o4.2.2∧∀(j:Nat),(j:Int) < s.1→s.2.1[j]? =some (Go.Sha.ZFz v2 j)) (fun s=>(32 - s.1).toNat)
  (fun x=>x.1.length=32∧∀(j:Nat),j < 32→x.1[j]? =some (Go.Sha.ZFz v2 j)) (by
  rintro ⟨i,a,b,c⟩ ⟨h0,h32,ha,hc,hv⟩
  dsimp only at h0 h32 ha hc hv
  subst hc
  unfold ZcK
  dsimp only
  by_cases hi:i < 32
  ·left
   rw [if_pos (decide_eq_true hi)]
   have e1:Int.tdiv i 4=i / 4:=Int.tdiv_eq_ediv_of_nonneg h0
   have e2:Int.tmod i 4=i % 4:=Int.tmod_eq_emod_of_nonneg h0
   rw [e1,e2,Zv (z:=i / 4) (by omega) (by omega),Zv (z:=8*(i % 4)) (by omega) (by omega),Zv (z:=24 - 8*(i % 4)) (by omega) (by omega),Zv (z:=i+1) (by omega) (by omega)]
   obtain ⟨x1,hx1⟩:=Za8 (l:=o4.2.2) (i:=(i / 4).toNat) (by omega)
   obtain ⟨x2,hx2⟩:=Za8 (l:=a) (i:=i.toNat) (by omega)
   rw [if_pos (ZW (by omega) (by omega)),hx1,ya,if_pos (decide_eq_true (by omega))]
   try dsimp only
   rw [if_pos (ZW (by omega) (by omega)),hx2,ya]
   refine ⟨_,rfl,⟨by dsimp only;omega,by dsimp only;omega,by dsimp only;rw [yar];exact ha,rfl, ?_⟩,by dsimp only;omega⟩
   intro j hj
   dsimp only at hj ⊢
   by_cases hji:j=i.toNat
   ·subst hji
    rw [ycf (by omega)]
    congr 1
    unfold Go.Sha.ZFz
    have hx:v2.getD (i.toNat / 4) 0=x1.toNat:=by
     rw [←s3,ycu,yx,show i.toNat / 4=(i / 4).toNat by omega,hx1]
     rfl
    rw [hx,show min (24 - 8*(i % 4)).toNat 32=24 - 8*(i.toNat % 4) by omega,ZvH]
    unfold w8
    have e3:∀m:Nat,(((m:Nat):Int) % 256).toNat=m % 256:=fun m=>by omega
    rw [e3,show Nat.shiftRight x1.toNat (24 - 8*(i.toNat % 4))=x1.toNat >>> (24 - 8*(i.toNat % 4)) from rfl,Nat.shiftRight_eq_div_pow]
    exact UInt8.toNat_inj.1 (by simp)
   ·rw [ycv (Ne.symm hji)]
    exact hv j (by omega)
  ·right
   rw [if_neg (by simpa using hi)]
   exact ⟨_,rfl,ha,fun j hj=>hv j (by omega)⟩) ((0:Int),o4.1,o4.2.1,o4.2.2) ⟨Int.le_refl _,by dsimp only;omega,by dsimp only;rw [s1];exact hzl,rfl,fun j hj=>by dsimp only at hj;omega⟩ (by dsimp only;omega)
 rw [h5,ya,ZA4]
 congr 1
 have hpad:Zfe l=(l.take (64*(l.length / 64))).map yah++E.map yah:=by
  unfold Zfe
  rw [←hE, ←ht]
  simp only [yaf,List.map_replicate,List.map_cons,List.map_nil,ZDA,List.map_map]
  rw [←yz, ←yz, ←yz, ←yaf,ybg]
  have:be8 (8*l.length)=(be8 (8*l.length)).map (yah ∘ yaz):=by
   simp [be8]
  rw [←this]
  simp
 have hw:((l.take (64*(l.length / 64))).map yah).length=64*(l.length / 64):=by
  rw [yp,yag]
  omega
 have hv:v2=Zfd ((l.length+72) / 64) (Zfe l) Zcd:=by
  rw [hpad,show (l.length+72) / 64=l.length / 64+E.length / 64 by omega,ZsW _ _ _ _ _ hw, ←hv2, ←hv1]
  congr 1
  have:=ZsW (l.length / 64) 0 _ ((l.drop (64*(l.length / 64))).map yah) Zcd hw
  rw [←yaf,ybg,Nat.add_zero] at this
  exact this
 rw [←hv]
 apply List.ext_getElem?
 intro j
 by_cases hj:j < 32
 ·rw [t2 j hj,yx,List.getElem?_range hj]
  rfl
 ·rw [yan (by omega),yan (by simp;omega)]
noncomputable def ZeP (F:Nat) (a0:List UInt8):Option (List UInt8):=if decide (a0.length≤4294967296)=true then some (sha a0) else ZfD F a0
noncomputable def Zzm (F:Nat):Fs yb:={ ZiQ F with M:=fun x=>ZeP F x}
noncomputable def Ztl:Fs yb:=Zzm fuel
theorem Zzn:Ztl.Ok:=Zm8 (s:=ZiQ fuel) Zxq fun x=>by
 show ZeP fuel x=ZfD fuel x
 unfold ZeP
 split
 ·rename_i h
  exact (ZI3 (of_decide_eq_true h)).symm
 ·rfl
theorem ZHp {l:List UInt8} (h:l.length≤4294967296):ZeP fuel l=some (sha l):=if_pos (decide_eq_true h)
end Go.Proofs.YtjbbdlffilcaaaaGreat
end
section
set_option maxRecDepth 4000
namespace Go.Proofs.YtjbbdlffilcaaaaGreat
open Go Go.Ev
noncomputable section
def ZoA (F:Nat):Fs yb:=⟨142,[.nil .u8,.v (.int .i64)],[],[(.int .i64)],(ZdE F).xs,fun x=>(ZdE F).M (x,([]:List UInt8))⟩
def Zh1:Fs yb:=ZoA fuel
theorem ZoB:Zh1.Ok:=ZID (i1:=[(.int .i64)]) (i2:=[(.int .i64),(.sl .u8)]) (fun x=>(x,([]:List UInt8))) ZdF (fun _=>rfl) (fun _=>⟨_,rfl⟩)
def Zeu (F:Nat) (s:((List (List UInt8))×Int×Int×(List UInt8)×(List UInt8))):Option (((List (List UInt8))×Int×Int×(List UInt8)×(List UInt8))⊕((List UInt8)×(List UInt8))):=
 if (decide (s.2.2.1 < s.2.1))=true then
  (idx s.1 s.2.2.1).bind fun e465=>
  (W9 F (e465.length:Int) s.2.2.2.2).bind fun o466=>
  if (apB o466.length e465.length 1)=true then
   some (.inl (s.1,s.2.1,wi (s.2.2.1+1),s.2.2.2.1,o466++e465))
  else
  none
 else
 some (.inr (s.2.2.2.1,s.2.2.2.2))
def Zqq:Lp:=⟨[(4,.ref 0 []),(5,.own 1 .u8),(13,.v (.sl (.sl .u8))),(14,.v (.int .i64)),(15,.v (.int .i64))],[.var (.v (.arr 32 .u8)) true,.log .u8 5],[(.sl (.sl .u8)),(.int .i64),(.int .i64),(.arr 32 .u8),(.sl .u8)],[⟨.exit 0,[(4,.ref 0 []),(5,.own 1 .u8)],[.var (.v (.arr 32 .u8)) true,.log .u8 5],[(.arr 32 .u8),(.sl .u8)]⟩],Zd (Zeu fuel) fuel⟩
theorem Ztm:Zqq.Ok yb (Zp yb 80) (Zo yb 80 0):=Zk (fi:={ hi:={ own:=[5,10,12,19,22,24],still:=[9,19,21,26]},lp:=[]}) (specs:={ l:=[ZfC]}) (okS ⟨ZdF,trivial⟩) trivial (by kernel_rfl) (fun v=>by kernel_rfl)
def Vp (F:Nat) (a0:ByteArray) (a1:(List (List UInt8))):Option ((List UInt8)):=
 (W9 F (a0.size:Int) ([]:List UInt8)).bind fun o464=>
 if (apB o464.length ((ZlR a0).length) 1)=true then
  (Zd (Zeu F) F (a1,(a1.length:Int),(0:Int),([0,0,0,0,0,0,0,0,0,0,0,0,0,0,0,0,0,0,0,0,0,0,0,0,0,0,0,0,0,0,0,0]:List UInt8),o464++(ZlR a0))).bind fun o467=>
  (ZeP F o467.2).bind fun o468=>
  some o468
 else
 none
def Zzo (F:Nat):Fs yb:=⟨80,[.v .str,.v (.sl (.sl .u8))],[],[.str,(.sl (.sl .u8))],[⟨.ret,[(0,.v (.arr 32 .u8))],[],[(.arr 32 .u8)]⟩],fun x=>Vp F x.1 x.2⟩
def Zck:Fs yb:=Zzo fuel
theorem Zdj:Zck.Ok:=Zg (fi:={ hi:={ own:=[5,10,12,19,22,24],still:=[9,19,21,26]},lp:=[(0,Zqq)]}) (specs:={ l:=[Zh1,Ztl]}) (okS ⟨ZoB,Zzn,trivial⟩) ⟨Ztm,trivial⟩ (by decide+kernel) (fun x=>by kernel_rfl)
def QB (F:Nat) (s:(UInt64×Int×(List UInt8))):Option ((UInt64×Int×(List UInt8))⊕(List UInt8)):=
 if (decide (s.2.1 < 8))=true then
  if (decide (0≤wi (56 - (wi (8*s.2.1)))))=true then
   let y469:UInt64:=ZA s.1 (min (wi (56 - (wi (8*s.2.1)))).toNat 64)
   if (inB s.2.1 8)=true then
    (s.2.2[s.2.1.toNat]?).bind fun e470=>
    some (.inl (s.1,wi (s.2.1+1),s.2.2.set s.2.1.toNat (w8 (y469.toNat:Int))))
   else
   none
  else
  none
 else
 some (.inr s.2.2)
def ZmB:Lp:=⟨[(0,.v .u64),(3,.ref 0 []),(5,.v (.int .i64))],[.var (.v (.arr 8 .u8)) true],[.u64,(.int .i64),(.arr 8 .u8)],[⟨.exit 0,[(3,.ref 0 [])],[.var (.v (.arr 8 .u8)) true],[(.arr 8 .u8)]⟩],Zd (QB fuel) fuel⟩
theorem Zpz:ZmB.Ok yb (Zp yb 154) (Zo yb 154 0):=Zk (fi:={ hi:={ still:=[2]},lp:=[]}) (specs:={ l:=[]}) (okS trivial) trivial (by kernel_rfl) (fun v=>by kernel_rfl)
def ZgJ (F:Nat) (a0:UInt64):Option ((List UInt8)):=
 (Zd (QB F) F (a0,(0:Int),([0,0,0,0,0,0,0,0]:List UInt8))).bind fun o471=>
 some ((o471.drop 0).take 8)
def ZuF (F:Nat):Fs yb:=⟨154,[.v .u64],[],[.u64],[⟨.ret,[(0,.v (.sl .u8))],[],[(.sl .u8)]⟩],fun x=>ZgJ F x⟩
def ZoC:Fs yb:=ZuF fuel
theorem ZuG:ZoC.Ok:=Zg (fi:={ hi:={ still:=[2]},lp:=[(0,ZmB)]}) (specs:={ l:=[]}) (okS trivial) ⟨Zpz,trivial⟩ (by decide+kernel) (fun x=>by kernel_rfl)
def VS (F:Nat) (s:(ByteArray×(List UInt64)×Int×Int×(List (List UInt8)))):Option ((ByteArray×(List UInt64)×Int×Int×(List (List UInt8)))⊕(ByteArray×(List (List UInt8)))):=
 if (decide (s.2.2.2.1 < s.2.2.1))=true then
  (idx s.2.1 s.2.2.2.1).bind fun e472=>
  (ZgJ F e472).bind fun o473=>
  if (apB s.2.2.2.2.length 1 24)=true then
   some (.inl (s.1,s.2.1,s.2.2.1,wi (s.2.2.2.1+1),s.2.2.2.2++([o473]:List (List UInt8))))
  else
  none
 else
 some (.inr (s.1,s.2.2.2.2))
def Zk0:Lp:=⟨[(0,.v .str),(5,.own 0 (.sl .u8)),(8,.v (.sl .u64)),(9,.v (.int .i64)),(10,.v (.int .i64))],[.log (.sl .u8) 134],[.str,(.sl .u64),(.int .i64),(.int .i64),(.sl (.sl .u8))],[⟨.exit 0,[(0,.v .str),(5,.own 0 (.sl .u8))],[.log (.sl .u8) 134],[.str,(.sl (.sl .u8))]⟩],Zd (VS fuel) fuel⟩
theorem ZoD:Zk0.Ok yb (Zp yb 85) (Zo yb 85 0):=Zk (fi:={ hi:={ own:=[5,14,18],still:=[4,15,20,21,22]},lp:=[]}) (specs:={ l:=[ZoC]}) (okS ⟨ZuG,trivial⟩) trivial (by kernel_rfl) (fun v=>by kernel_rfl)
def Ym (F:Nat) (a0:ByteArray) (a1:(List UInt64)):Option (UInt64):=
 (Zd (VS F) F (a0,a1,(a1.length:Int),(0:Int),([]:List (List UInt8)))).bind fun o474=>
 (Vp F o474.1 o474.2).bind fun o475=>
 (Xd F o475).bind fun o476=>
 some o476
def Ztn (F:Nat):Fs yb:=⟨85,[.v .str,.v (.sl .u64)],[],[.str,(.sl .u64)],[⟨.ret,[(0,.v .u64)],[],[.u64]⟩],fun x=>Ym F x.1 x.2⟩
def VW:Fs yb:=Ztn fuel
theorem QC:VW.Ok:=Zg (fi:={ hi:={ own:=[5,14,18],still:=[4,15,20,21,22]},lp:=[(0,Zk0)]}) (specs:={ l:=[Zck,QY]}) (okS ⟨Zdj,Zah,trivial⟩) ⟨ZoD,trivial⟩ (by decide+kernel) (fun x=>by kernel_rfl)
def ZcL (F:Nat) (s:(UInt64×(List UInt64)×Int×Int)):Option ((UInt64×(List UInt64)×Int×Int)⊕UInt64):=
 if (decide (s.2.2.2 < s.2.2.1))=true then
  (idx s.2.1 s.2.2.2).bind fun e477=>
  (QW F e477).bind fun o478=>
  (Yl F s.1 o478).bind fun o479=>
  some (.inl (o479,s.2.1,s.2.2.1,wi (s.2.2.2+1)))
 else
 some (.inr s.1)
def ZoE:Lp:=⟨[(3,.v .u64),(6,.v (.sl .u64)),(7,.v (.int .i64)),(8,.v (.int .i64))],[],[.u64,(.sl .u64),(.int .i64),(.int .i64)],[⟨.exit 0,[(3,.v .u64)],[],[.u64]⟩],Zd (ZcL fuel) fuel⟩
theorem ZqW:ZoE.Ok yb (Zp yb 148) (Zo yb 148 0):=Zk (fi:={ hi:={ still:=[2,12,13,14]},lp:=[]}) (specs:={ l:=[ZcC,Zhb]}) (okS ⟨Zft,ZkK,trivial⟩) trivial (by kernel_rfl) (fun v=>by kernel_rfl)
def ZfE (F:Nat) (a0:(List UInt64)):Option (UInt64):=
 (Zd (ZcL F) F ((1:UInt64),a0,(a0.length:Int),(0:Int))).bind fun o480=>
 some o480
def Zxr (F:Nat):Fs yb:=⟨148,[.v (.sl .u64)],[],[(.sl .u64)],[⟨.ret,[(0,.v .u64)],[],[.u64]⟩],fun x=>ZfE F x⟩
def Zk1:Fs yb:=Zxr fuel
theorem ZoF:Zk1.Ok:=Zg (fi:={ hi:={ still:=[2,12,13,14]},lp:=[(0,ZoE)]}) (specs:={ l:=[]}) (okS trivial) ⟨ZqW,trivial⟩ (by decide+kernel) (fun x=>by kernel_rfl)
def Zcl (F:Nat) (a0:UInt64) (a1:UInt64):Option (UInt64):=
 (ZfE F ([a0,a1]:List UInt64)).bind fun o481=>
 some o481
def Zxs (F:Nat):Fs yb:=⟨119,[.v .u64,.v .u64],[],[.u64,.u64],[⟨.ret,[(0,.v .u64)],[],[.u64]⟩],fun x=>Zcl F x.1 x.2⟩
def ZgK:Fs yb:=Zxs fuel
theorem ZiR:ZgK.Ok:=Zg (fi:={ hi:={ still:=[4,7]},lp:=[]}) (specs:={ l:=[Zk1]}) (okS ⟨ZoF,trivial⟩) trivial (by decide+kernel) (fun x=>by kernel_rfl)
def ZvJ:ByteArray:=⟨#[114,101,118,111,107,101]⟩
def Zev (F:Nat) (a0:UInt64) (a1:UInt64):Option (UInt64):=
 (Ym F ZvJ ([a0,a1]:List UInt64)).bind fun o482=>
 (VH F a0 o482).bind fun o483=>
 (Ym F ZvJ ([a1,a0]:List UInt64)).bind fun o484=>
 (VH F a1 o484).bind fun o485=>
 (Zcl F o483 o485).bind fun o486=>
 some o486
def Zto (F:Nat):Fs yb:=⟨51,[.v .u64,.v .u64],[],[.u64,.u64],[⟨.ret,[(0,.v .u64)],[],[.u64]⟩],fun x=>Zev F x.1 x.2⟩
def ZmC:Fs yb:=Zto fuel
theorem Ztp:ZmC.Ok:=Zg (fi:={ hi:={ still:=[4,5,8,9,10,11,14,15,16]},lp:=[]}) (specs:={ l:=[VW,ZcD,ZgK]}) (okS ⟨QC,Zfu,ZiR,trivial⟩) trivial (by decide+kernel) (fun x=>by kernel_rfl)
def Zzp:ByteArray:=⟨#[109,105,120]⟩
def ZeQ (F:Nat) (a0:UInt64) (a1:UInt64):Option (UInt64):=
 (Ym F Zzp ([a1,a0]:List UInt64)).bind fun o487=>
 (Xb F o487).bind fun o488=>
 (Zcl F a0 o488).bind fun o489=>
 some o489
def Zzq (F:Nat):Fs yb:=⟨52,[.v .u64,.v .u64],[],[.u64,.u64],[⟨.ret,[(0,.v .u64)],[],[.u64]⟩],fun x=>ZeQ F x.1 x.2⟩
def Ztq:Fs yb:=Zzq fuel
theorem Zzr:Ztq.Ok:=Zg (fi:={ hi:={ still:=[4,5,8,9,10]},lp:=[]}) (specs:={ l:=[VW,XT,ZgK]}) (okS ⟨QC,XU,ZiR,trivial⟩) trivial (by decide+kernel) (fun x=>by kernel_rfl)
def Q0 (F:Nat) (s:(Int×(List ZB)×Int×Int×ZO×State×(List ZB))):Option ((Int×(List ZB)×Int×Int×ZO×State×(List ZB))⊕(ZO×State×(List ZB))):=
 if (decide (s.2.2.2.1 < s.2.2.1))=true then
  (idx s.2.1 s.2.2.2.1).bind fun e490=>
  if (inB s.1 2)=true then
   (s.2.2.2.2.1.2.2.2.1[s.1.toNat]?).bind fun e491=>
   (Wn F e491 e490.2.2.1).bind fun o492=>
   if o492=true then
    if (apB s.2.2.2.2.2.2.length 1 40)=true then
     some (.inl (s.1,s.2.1,s.2.2.1,wi (s.2.2.2.1+1),s.2.2.2.2.1,s.2.2.2.2.2.1,s.2.2.2.2.2.2++([e490]:List ZB)))
    else
    none
   else
   some (.inl (s.1,s.2.1,s.2.2.1,wi (s.2.2.2.1+1),s.2.2.2.2.1,s.2.2.2.2.2.1,s.2.2.2.2.2.2))
  else
  none
 else
 some (.inr (s.2.2.2.2.1,s.2.2.2.2.2.1,s.2.2.2.2.2.2))
def Zjk:Lp:=⟨[(2,.v (.int .i64)),(3,.ref 0 []),(7,.own 2 Yo),(11,.v (.sl Yo)),(12,.v (.int .i64)),(13,.v (.int .i64))],[.var (.v Zq) true,.var (.v Ze) true,.log Yo 72],[(.int .i64),(.sl Yo),(.int .i64),(.int .i64),Zq,Ze,(.sl Yo)],[⟨.exit 0,[(7,.own 2 Yo)],[.var (.v Zq) true,.var (.v Ze) true,.log Yo 72],[Zq,Ze,(.sl Yo)]⟩],Zd (Q0 fuel) fuel⟩
theorem Zng:Zjk.Ok yb (Zp yb 59) (Zo yb 59 0):=Zk (fi:={ hi:={ own:=[7,24,27],still:=[6,20,22]},lp:=[]}) (specs:={ l:=[ZcG]}) (okS ⟨ZfB,trivial⟩) trivial (by kernel_rfl) (fun v=>by kernel_rfl)
def Wq (F:Nat) (a0:ZO) (a1:State) (a2:Int):Option ((List ZB)):=
 (Zd (Q0 F) F (a2,a1.2.2.1,(a1.2.2.1.length:Int),(0:Int),a0,a1,([]:List ZB))).bind fun o493=>
 some o493.2.2
def ZqX (F:Nat):Fs yb:=⟨59,[.v Zq,.v Ze,.v (.int .i64)],[],[Zq,Ze,(.int .i64)],[⟨.ret,[(0,.v (.sl Yo))],[],[(.sl Yo)]⟩],fun x=>Wq F x.1 x.2.1 x.2.2⟩
def ZfF:Fs yb:=ZqX fuel
theorem Zjl:ZfF.Ok:=Zg (fi:={ hi:={ own:=[7,24,27],still:=[6,20,22]},lp:=[(0,Zjk)]}) (specs:={ l:=[]}) (okS trivial) ⟨Zng,trivial⟩ (by decide+kernel) (fun x=>by kernel_rfl)
def VL (F:Nat) (a0:ZO) (a1:State) (a2:Int) (a3:Int):Option (Int):=
 if (inB a3 2)=true then
  (a1.2.1[a3.toNat]?).bind fun e494=>
  if (a3==a0.2.2.2.2)=true then
   (Wq F a0 a1 a2).bind fun o495=>
   (ZfA F a1.2.2.2 (o495.length:Int)).bind fun o496=>
   some (wi (e494 - (wi (o496+660))))
  else
  some e494
 else
 none
def Ztr (F:Nat):Fs yb:=⟨55,[.v Zq,.v Ze,.v (.int .i64),.v (.int .i64)],[],[Zq,Ze,(.int .i64),(.int .i64)],[⟨.ret,[(0,.v (.int .i64))],[],[(.int .i64)]⟩],fun x=>VL F x.1 x.2.1 x.2.2.1 x.2.2.2⟩
def Zhi:Fs yb:=Ztr fuel
theorem Zk2:Zhi.Ok:=Zg (fi:={ hi:={ still:=[8,20,21,22,23,25]},lp:=[]}) (specs:={ l:=[ZfF,ZkQ]}) (okS ⟨Zjl,Zop,trivial⟩) trivial (by decide+kernel) (fun x=>by kernel_rfl)
abbrev Z1:Ty:=(.st [(.sl .u64),(.int .i64),(.int .i64),.u64])
abbrev YI:Type:=((List UInt64)×Int×Int×UInt64)
abbrev Yw:Ty:=(.st [(.sl Z1)])
abbrev XP:Type:=(List YI)
def Znh (F:Nat) (a0:UInt64) (a1:UInt64) (a2:Int):Option (XP):=
 some ([([a1],0,0,0),([a0],0,a2,0)]:XP)
def Zxt (F:Nat):Fs yb:=⟨56,[.v .u64,.v .u64,.v (.int .i64)],[],[.u64,.u64,(.int .i64)],[⟨.ret,[(0,.v Yw)],[],[Yw]⟩],fun x=>Znh F x.1 x.2.1 x.2.2⟩
def Zqr:Fs yb:=Zxt fuel
theorem Zxu:Zqr.Ok:=Zg (fi:={ hi:={},lp:=[]}) (specs:={ l:=[]}) (okS trivial) trivial (by decide+kernel) (fun x=>by kernel_rfl)
def Xv (F:Nat) (a0:(List UInt64)):Option ((List UInt64)):=
 if (apB 0 a0.length 8)=true then
  some a0
 else
 none
def ZpA (F:Nat):Fs yb:=⟨141,[.sl true .u64],[],[(.sl .u64)],[⟨.ret,[(0,.v (.sl .u64))],[],[(.sl .u64)]⟩],fun x=>Xv F x⟩
def ZqY:Fs yb:=ZpA fuel
theorem ZpB:ZqY.Ok:=Zg (fi:={ hi:={ own:=[5,7],still:=[2]},lp:=[]}) (specs:={ l:=[]}) (okS trivial) trivial (by decide+kernel) (fun x=>by kernel_rfl)
def ZgL (F:Nat):Option ((List UInt64)):=
 some ([]:List UInt64)
def Zma (F:Nat):Fs yb:=⟨141,[.nil .u64],[],[],[⟨.ret,[(0,.v (.sl .u64))],[],[(.sl .u64)]⟩],fun x=>ZgL F⟩
def Zni:Fs yb:=Zma fuel
theorem Zmb:Zni.Ok:=Zg (fi:={ hi:={ own:=[5,7],still:=[2]},lp:=[]}) (specs:={ l:=[]}) (okS trivial) trivial (by decide+kernel) (fun x=>by kernel_rfl)
def Znj (F:Nat):Fs yb:=⟨141,[.v (.sl .u64)],[],[(.sl .u64)],[⟨.ret,[(0,.v (.sl .u64))],[],[(.sl .u64)]⟩],fun x=>Xv F x⟩
def Zbn:Fs yb:=Znj fuel
theorem ZfG:Zbn.Ok:=ZAU (t:=.u64) (xs:=[⟨.ret,[(0,.v (.sl .u64))],[],[(.sl .u64)]⟩]) (MA:=fun (x:(List UInt64))=>Xv fuel x) (MB:=fun _=>ZgL fuel) ZpB Zmb rfl
def Zh2 (F:Nat) (a0:(List UInt64)):Option (XP):=
 (Xv F a0).bind fun o497=>
 some ([(o497,0,0,0)]:XP)
def Zzs (F:Nat):Fs yb:=⟨121,[.v (.sl .u64)],[],[(.sl .u64)],[⟨.ret,[(0,.v Yw)],[],[Yw]⟩],fun x=>Zh2 F x⟩
def Znk:Fs yb:=Zzs fuel
theorem Zqs:Znk.Ok:=Zg (fi:={ hi:={ still:=[3]},lp:=[]}) (specs:={ l:=[Zbn]}) (okS ⟨ZfG,trivial⟩) trivial (by decide+kernel) (fun x=>by kernel_rfl)
def ZeR (F:Nat) (a0:UInt64):Option (XP):=
 (Zh2 F ([a0]:List UInt64)).bind fun o498=>
 some o498
def Zzt (F:Nat):Fs yb:=⟨57,[.v .u64],[],[.u64],[⟨.ret,[(0,.v Yw)],[],[Yw]⟩],fun x=>ZeR F x⟩
def Zts:Fs yb:=Zzt fuel
theorem Zzu:Zts.Ok:=Zg (fi:={ hi:={ still:=[4]},lp:=[]}) (specs:={ l:=[Znk]}) (okS ⟨Zqs,trivial⟩) trivial (by decide+kernel) (fun x=>by kernel_rfl)
def Xw (F:Nat) (a0:UInt64):Option (XP):=
 some ([([a0],0,0,0),([],0,16,0)]:XP)
def Ztt (F:Nat):Fs yb:=⟨58,[.v .u64],[],[.u64],[⟨.ret,[(0,.v Yw)],[],[Yw]⟩],fun x=>Xw F x⟩
def ZmD:Fs yb:=Ztt fuel
theorem Ztu:ZmD.Ok:=Zg (fi:={ hi:={},lp:=[]}) (specs:={ l:=[]}) (okS trivial) trivial (by decide+kernel) (fun x=>by kernel_rfl)
def ZfH (F:Nat) (a0:(List UInt8)) (a1:(List UInt8)):Option (Int):=
 some (Go.Lib.compareBytes a0 a1)
def ZpC (F:Nat):Fs yb:=⟨64,[.v (.sl .u8),.v (.sl .u8)],[],[(.sl .u8),(.sl .u8)],[⟨.ret,[(0,.v (.int .i64))],[],[(.int .i64)]⟩],fun x=>ZfH F x.1 x.2⟩
def Zjm:Fs yb:=ZpC fuel
theorem ZpD:Zjm.Ok:=Zg (fi:={ hi:={ still:=[4,5,6]},lp:=[]}) (specs:={ l:=[]}) (okS trivial) trivial (by decide+kernel) (fun x=>by kernel_rfl)
abbrev VM:Ty:=(.st [(.int .i64),Yw])
abbrev Out:Type:=(Int×XP)
abbrev Out.Lock (x:Out):XP:=x.2
abbrev Zjn:Ty:=(.st [(.int .i64),Yo])
abbrev Role:Type:=(Int×ZB)
abbrev Role.Cond (x:Role):ZB:=x.2
abbrev Zl:Ty:=(.st [VM,Zjn,(.arr 32 .u8)])
abbrev Zh:Type:=(Out×Role×(List UInt8))
abbrev Zh.out (x:Zh):Out:=x.1
abbrev Zh.sum (x:Zh):(List UInt8):=x.2.2
def Zbo (F:Nat) (a0:Zh) (a1:Zh):Option (Int):=
 (YB F a0.1.1 a1.1.1).bind fun o499=>
 (ZfH F a0.2.2 a1.2.2).bind fun o500=>
 (YB F a0.2.1.1 a1.2.1.1).bind fun o501=>
 (YB F a0.2.1.2.1 a1.2.1.2.1).bind fun o502=>
 (YB F a0.2.1.2.2.1 a1.2.1.2.2.1).bind fun o503=>
 (Zdh F ([o499,o500,o501,o502,o503]:List Int)).bind fun o504=>
 some o504
def ZpE (F:Nat):Fs yb:=⟨61,[.v Zl,.v Zl],[],[Zl,Zl],[⟨.ret,[(0,.v (.int .i64))],[],[(.int .i64)]⟩],fun x=>Zbo F x.1 x.2⟩
def Zjo:Fs yb:=ZpE fuel
theorem ZpF:Zjo.Ok:=Zg (fi:={ hi:={ still:=[4,7,10,13,15,19,22,27,31,36,40,42],frz:=[13,15]},lp:=[]}) (specs:={ l:=[Zbk,Zjm,ZiP]}) (okS ⟨Zfz,ZpD,Zmw,trivial⟩) trivial (by decide+kernel) (fun x=>by kernel_rfl)
abbrev Zbp:Ty:=(.st [.u64,.u64])
abbrev Sig:Type:=(UInt64×UInt64)
abbrev Sig.R (x:Sig):UInt64:=x.1
abbrev Sig.S (x:Sig):UInt64:=x.2
abbrev QD:Ty:=(.st [(.int .i64),(.sl Zbp),.u64])
abbrev Zan:Type:=(Int×(List Sig)×UInt64)
abbrev Zan.Branch (x:Zan):Int:=x.1
abbrev yIn:Ty:=(.st [X9,QD])
abbrev In:Type:=(Xs×Zan)
abbrev yTx:Ty:=(.st [(.sl yIn),(.sl VM),(.int .i64)])
abbrev Tx:Type:=((List In)×(List Out)×Int)
abbrev Zy:Ty:=(.st [yTx,(.sl Zjn)])
abbrev ZZ:Type:=(Tx×(List Role))
abbrev ZZ.Tx (x:ZZ):Tx:=x.1
def VX (F:Nat) (a0:UInt64):Option (Bool):=
 (YT F a0).bind fun o523=>
 some (!o523)
def ZqZ (F:Nat):Fs yb:=⟨131,[.v .u64],[],[.u64],[⟨.ret,[(0,.v .bool)],[],[.bool]⟩],fun x=>VX F x⟩
def ZfI:Fs yb:=ZqZ fuel
theorem Zjp:ZfI.Ok:=Zg (fi:={ hi:={ still:=[2,3]},lp:=[]}) (specs:={ l:=[Wp]}) (okS ⟨WA,trivial⟩) trivial (by decide+kernel) (fun x=>by kernel_rfl)
def W1 (F:Nat) (s:((List UInt64)×Int×Int)):Option (((List UInt64)×Int×Int)⊕(Int⊕Unit)):=
 if (decide (s.2.2 < s.2.1))=true then
  (idx s.1 s.2.2).bind fun e522=>
  (VX F e522).bind fun o524=>
  if o524=true then
   some (.inr (.inl s.2.2))
  else
  some (.inl (s.1,s.2.1,wi (s.2.2+1)))
 else
 some (.inr (.inr ()))
def ZdX:Lp:=⟨[(0,.v (.sl .u64)),(1,.fn 131 []),(7,.v (.int .i64)),(8,.v (.int .i64))],[],[(.sl .u64),(.int .i64),(.int .i64)],[⟨.ret,[(4,.v (.int .i64))],[],[(.int .i64)]⟩,⟨.exit 0,[],[],[]⟩],Zd (W1 fuel) fuel⟩
theorem ZiS:ZdX.Ok yb (Zp yb 189) (Zo yb 189 0):=Zk (fi:={ hi:={ still:=[4,15]},lp:=[]}) (specs:={ l:=[ZfI]}) (okS ⟨Zjp,trivial⟩) trivial (by kernel_rfl) (fun v=>by kernel_rfl)
def Zbq (F:Nat) (a0:(List UInt64)):Option (Int):=
 (Zd (W1 F) F (a0,(a0.length:Int),(0:Int))).bind fun o525=>
 match o525 with
 |.inl o526=>
  some o526
 |.inr o527=>
  some (-1:Int)
def Zmc (F:Nat):Fs yb:=⟨189,[.v (.sl .u64),.fn 131 []],[],[(.sl .u64)],[⟨.ret,[(0,.v (.int .i64))],[],[(.int .i64)]⟩],fun x=>Zbq F x⟩
def ZfJ:Fs yb:=Zmc fuel
theorem Zmd:ZfJ.Ok:=Zg (fi:={ hi:={ still:=[4,15]},lp:=[(0,ZdX)]}) (specs:={ l:=[]}) (okS trivial) ⟨ZiS,trivial⟩ (by decide+kernel) (fun x=>by kernel_rfl)
def ZcM (F:Nat) (a0:(List UInt64)):Option (Bool):=
 (Zbq F a0).bind fun o528=>
 some (decide (o528 ≥ 0))
def Zq0 (F:Nat):Fs yb:=⟨132,[.v (.sl .u64),.fn 131 []],[],[(.sl .u64)],[⟨.ret,[(0,.v .bool)],[],[.bool]⟩],fun x=>ZcM F x⟩
def Zk3:Fs yb:=Zq0 fuel
theorem Zq1:Zk3.Ok:=Zg (fi:={ hi:={ still:=[4,5,6]},lp:=[]}) (specs:={ l:=[ZfJ]}) (okS ⟨Zmd,trivial⟩) trivial (by decide+kernel) (fun x=>by kernel_rfl)
def Zbr (F:Nat) (a0:Int):Option (Bool):=
 if (decide (a0 ≥ 0))=true then
  some (decide (a0≤1048576))
 else
 some false
def Ztv (F:Nat):Fs yb:=⟨133,[.v (.int .i64)],[],[(.int .i64)],[⟨.ret,[(0,.v .bool)],[],[.bool]⟩],fun x=>Zbr F x⟩
def ZmE:Fs yb:=Ztv fuel
theorem Ztw:ZmE.Ok:=Zg (fi:={ hi:={ still:=[2]},lp:=[]}) (specs:={ l:=[]}) (okS trivial) trivial (by decide+kernel) (fun x=>by kernel_rfl)
def Zbs (F:Nat) (s:((List YI)×Int×Int×XP)):Option (((List YI)×Int×Int×XP)⊕((Bool×XP)⊕XP)):=
 if (decide (s.2.2.1 < s.2.1))=true then
  (idx s.1 s.2.2.1).bind fun e521=>
  if (decide ((e521.1.length:Int) > 12))=true then
   some (.inr (.inl (false,s.2.2.2)))
  else
  (ZcM F e521.1).bind fun o529=>
  if o529=true then
   some (.inr (.inl (false,s.2.2.2)))
  else
  (Zbr F e521.2.1).bind fun o530=>
  if (!o530)=true then
   some (.inr (.inl (false,s.2.2.2)))
  else
  (Zbr F e521.2.2.1).bind fun o531=>
  if (!o531)=true then
   some (.inr (.inl (false,s.2.2.2)))
  else
  if (e521.2.2.2 !=0)=true then
   (VX F e521.2.2.2).bind fun o532=>
   if o532=true then
    some (.inr (.inl (false,s.2.2.2)))
   else
   some (.inl (s.1,s.2.1,wi (s.2.2.1+1),s.2.2.2))
  else
  some (.inl (s.1,s.2.1,wi (s.2.2.1+1),s.2.2.2))
 else
 some (.inr (.inr s.2.2.2))
def ZmF:Lp:=⟨[(1,.ref 0 []),(3,.fn 131 []),(7,.v (.sl Z1)),(8,.v (.int .i64)),(9,.v (.int .i64))],[.var (.v Yw) true],[(.sl Z1),(.int .i64),(.int .i64),Yw],[⟨.ret,[(2,.v .bool)],[.var (.v Yw) true],[.bool,Yw]⟩,⟨.exit 0,[(1,.ref 0 [])],[.var (.v Yw) true],[Yw]⟩],Zd (Zbs fuel) fuel⟩
theorem ZpG:ZmF.Ok yb (Zp yb 75) (Zo yb 75 0):=Zk (fi:={ hi:={ still:=[2,19,20,25,31,42]},lp:=[]}) (specs:={ l:=[Zk3,ZmE,ZfI]}) (okS ⟨Zq1,Ztw,Zjp,trivial⟩) trivial (by kernel_rfl) (fun v=>by kernel_rfl)
def QE (F:Nat) (a0:XP):Option (Bool):=
 (Zd (Zbs F) F (a0,(a0.length:Int),(0:Int),a0)).bind fun o533=>
 match o533 with
 |.inl o534=>
  some o534.1
 |.inr o535=>
  if (decide ((o535.length:Int) > 0))=true then
   some (decide ((o535.length:Int)≤4))
  else
  some false
def ZuH (F:Nat):Fs yb:=⟨75,[.v Yw],[],[Yw],[⟨.ret,[(0,.v .bool)],[],[.bool]⟩],fun x=>QE F x⟩
def Zbt:Fs yb:=ZuH fuel
theorem ZcN:Zbt.Ok:=Zg (fi:={ hi:={ still:=[2,19,20,25,31,42]},lp:=[(0,ZmF)]}) (specs:={ l:=[]}) (okS trivial) ⟨ZpG,trivial⟩ (by decide+kernel) (fun x=>by kernel_rfl)
def Xf (F:Nat) (s:((List (List UInt8))×Int×(List (List UInt8))×Int×Int)):Option (((List (List UInt8))×Int×(List (List UInt8))×Int×Int)⊕((List (List UInt8))×Int)):=
 if (decide (s.2.2.2.2 < s.2.2.2.1))=true then
  (idx s.2.2.1 s.2.2.2.2).bind fun e538=>
  if (decide ((wi (s.2.1+(e538.length:Int))) < 0))=true then
   none
  else
  some (.inl (s.1,wi (s.2.1+(e538.length:Int)),s.2.2.1,s.2.2.2.1,wi (s.2.2.2.2+1)))
 else
 some (.inr (s.1,s.2.1))
def QF:Lp:=⟨[(0,.v (.sl (.sl .u8))),(3,.v (.int .i64)),(9,.v (.sl (.sl .u8))),(10,.v (.int .i64)),(11,.v (.int .i64))],[],[(.sl (.sl .u8)),(.int .i64),(.sl (.sl .u8)),(.int .i64),(.int .i64)],[⟨.exit 0,[(0,.v (.sl (.sl .u8))),(3,.v (.int .i64))],[],[(.sl (.sl .u8)),(.int .i64)]⟩],Zd (Xf fuel) fuel⟩
theorem Zdk:QF.Ok yb (Zp yb 195) (Zo yb 195 0):=Zk (fi:={ hi:={ own:=[6,24,31,33],still:=[2,23]},lp:=[]}) (specs:={ l:=[]}) (okS trivial) trivial (by kernel_rfl) (fun v=>by kernel_rfl)
def ZaK:Fs yb:=⟨216,[.nil .u8,.v (.int .i64)],[],[.int .i64],[⟨.ret,[(0,.own 0 .u8)],[.log .u8 5],[.sl .u8]⟩],ZsM⟩
theorem Zhj:ZaK.Ok:=ZHa ZFt
def Xg (F:Nat) (s:((List (List UInt8))×Int×Int×(List UInt8))):Option (((List (List UInt8))×Int×Int×(List UInt8))⊕(List UInt8)):=
 if (decide (s.2.2.1 < s.2.1))=true then
  (idx s.1 s.2.2.1).bind fun e541=>
  if (apB s.2.2.2.length e541.length 1)=true then
   some (.inl (s.1,s.2.1,wi (s.2.2.1+1),s.2.2.2++e541))
  else
  none
 else
 some (.inr s.2.2.2)
def QG:Lp:=⟨[(6,.own 0 .u8),(25,.v (.sl (.sl .u8))),(26,.v (.int .i64)),(27,.v (.int .i64))],[.log .u8 5],[(.sl (.sl .u8)),(.int .i64),(.int .i64),(.sl .u8)],[⟨.exit 2,[(6,.own 0 .u8)],[.log .u8 5],[(.sl .u8)]⟩],Zd (Xg fuel) fuel⟩
theorem Zdl:QG.Ok yb (Zp yb 195) (Zo yb 195 1):=Zk (fi:={ hi:={ own:=[6,24,31,33],still:=[2,23]},lp:=[]}) (specs:={ l:=[]}) (okS trivial) trivial (by kernel_rfl) (fun v=>by kernel_rfl)
def YR (F:Nat) (a0:(List (List UInt8))):Option ((List UInt8)):=
 (Zd (Xf F) F (a0,(0:Int),a0,(a0.length:Int),(0:Int))).bind fun o539=>
 (ZsM o539.2).bind fun o540=>
 (Zd (Xg F) F (o539.1,(o539.1.length:Int),(0:Int),o540)).bind fun o542=>
 some o542
def ZfK (F:Nat):Fs yb:=⟨195,[.v (.sl (.sl .u8))],[],[(.sl (.sl .u8))],[⟨.ret,[(0,.v (.sl .u8))],[],[(.sl .u8)]⟩],fun x=>YR F x⟩
def WH:Fs yb:=ZfK fuel
theorem QH:WH.Ok:=Zg (fi:={ hi:={ own:=[6,24,31,33],still:=[2,23]},lp:=[(0,QF),(1,QG)]}) (specs:={ l:=[ZaK]}) (okS ⟨Zhj,trivial⟩) ⟨Zdk,Zdl,trivial⟩ (by decide+kernel) (fun x=>by kernel_rfl)
def Zax (F:Nat) (a0:(List UInt8)) (a1:(List UInt8)):Option ((List UInt8)):=
 (YR F ([a0,a1]:List (List UInt8))).bind fun o543=>
 some o543
def Zxv (F:Nat):Fs yb:=⟨193,[.v (.sl .u8),.v (.sl .u8)],[],[(.sl .u8),(.sl .u8)],[⟨.ret,[(0,.v (.sl .u8))],[],[(.sl .u8)]⟩],fun x=>Zax F x.1 x.2⟩
def ZgM:Fs yb:=Zxv fuel
theorem ZiT:ZgM.Ok:=Zg (fi:={ hi:={ still:=[4,7]},lp:=[]}) (specs:={ l:=[WH]}) (okS ⟨QH,trivial⟩) trivial (by decide+kernel) (fun x=>by kernel_rfl)
def Zew (F:Nat) (s:(Int×(List UInt8))):Option ((Int×(List UInt8))⊕(Int×(List UInt8))):=
 if (decide (s.1 ≥ 128))=true then
  if (apB s.2.length 1 1)=true then
   let y545:(List UInt8):=s.2++([w8 (wi ((Int.tmod s.1 128)+128))]:List UInt8)
   some (.inl (wi (Int.tdiv s.1 128),y545))
  else
  none
 else
 some (.inr (s.1,s.2))
def Zqt:Lp:=⟨[(0,.v (.int .i64)),(3,.own 0 .u8)],[.log .u8 5],[(.int .i64),(.sl .u8)],[⟨.exit 0,[(0,.v (.int .i64)),(3,.own 0 .u8)],[.log .u8 5],[(.int .i64),(.sl .u8)]⟩],Zd (Zew fuel) fuel⟩
theorem Ztx:Zqt.Ok yb (Zp yb 194) (Zo yb 194 0):=Zk (fi:={ hi:={ own:=[3,8,14,15,19],still:=[2]},lp:=[]}) (specs:={ l:=[]}) (okS trivial) trivial (by kernel_rfl) (fun v=>by kernel_rfl)
def Zh3 (F:Nat) (a0:Int):Option ((List UInt8)):=
 (Zd (Zew F) F (a0,([]:List UInt8))).bind fun o546=>
 if (apB o546.2.length 1 1)=true then
  some (o546.2++([w8 o546.1]:List UInt8))
 else
 none
def Zzv (F:Nat):Fs yb:=⟨194,[.v (.int .i64)],[],[(.int .i64)],[⟨.ret,[(0,.v (.sl .u8))],[],[(.sl .u8)]⟩],fun x=>Zh3 F x⟩
def Znl:Fs yb:=Zzv fuel
theorem Zqu:Znl.Ok:=Zg (fi:={ hi:={ own:=[3,8,14,15,19],still:=[2]},lp:=[(0,Zqt)]}) (specs:={ l:=[]}) (okS trivial) ⟨Ztx,trivial⟩ (by decide+kernel) (fun x=>by kernel_rfl)
def WJ (F:Nat) (a0:(List UInt8)) (a1:Int):Option ((List UInt8)):=
 if (decide (a1 < 0))=true then
  (Zax F a0 ([]:List UInt8)).bind fun o544=>
  some o544
 else
 (Zh3 F a1).bind fun o547=>
 (Zax F a0 o547).bind fun o548=>
 some o548
def Zzw (F:Nat):Fs yb:=⟨144,[.v (.sl .u8),.v (.int .i64)],[],[(.sl .u8),(.int .i64)],[⟨.ret,[(0,.v (.sl .u8))],[],[(.sl .u8)]⟩],fun x=>WJ F x.1 x.2⟩
def Zcm:Fs yb:=Zzw fuel
theorem Zdm:Zcm.Ok:=Zg (fi:={ hi:={ still:=[4,7,9,10,11]},lp:=[]}) (specs:={ l:=[ZgM,Znl]}) (okS ⟨ZiT,Zqu,trivial⟩) trivial (by decide+kernel) (fun x=>by kernel_rfl)
def Zao (F:Nat) (s:((List UInt8)×UInt64×Int×(List UInt8))):Option (((List UInt8)×UInt64×Int×(List UInt8))⊕((List UInt8)×(List UInt8))):=
 if (decide (s.2.2.1 < 8))=true then
  if (decide (0≤wi (56 - (wi (8*s.2.2.1)))))=true then
   let y553:UInt64:=ZA s.2.1 (min (wi (56 - (wi (8*s.2.2.1)))).toNat 64)
   if (inB s.2.2.1 8)=true then
    (s.2.2.2[s.2.2.1.toNat]?).bind fun e554=>
    let y555:(List UInt8):=s.2.2.2.set s.2.2.1.toNat (w8 (y553.toNat:Int))
    some (.inl (s.1,s.2.1,wi (s.2.2.1+1),y555))
   else
   none
  else
  none
 else
 some (.inr (s.1,s.2.2.2))
def Zk4:Lp:=⟨[(0,.v (.sl .u8)),(1,.v .u64),(5,.ref 0 []),(7,.v (.int .i64))],[.var (.v (.arr 8 .u8)) true],[(.sl .u8),.u64,(.int .i64),(.arr 8 .u8)],[⟨.exit 0,[(0,.v (.sl .u8)),(5,.ref 0 [])],[.var (.v (.arr 8 .u8)) true],[(.sl .u8),(.arr 8 .u8)]⟩],Zd (Zao fuel) fuel⟩
theorem ZoG:Zk4.Ok yb (Zp yb 182) (Zo yb 182 0):=Zk (fi:={ hi:={ still:=[4,19,20],frz:=[20]},lp:=[]}) (specs:={ l:=[]}) (okS trivial) trivial (by kernel_rfl) (fun v=>by kernel_rfl)
def Zbu (F:Nat) (a0:(List UInt8)) (a1:UInt64):Option ((List UInt8)):=
 (Zd (Zao F) F (a0,a1,(0:Int),([0,0,0,0,0,0,0,0]:List UInt8))).bind fun o556=>
 (Zax F o556.1 o556.2).bind fun o557=>
 some o557
def Zty (F:Nat):Fs yb:=⟨182,[.v (.sl .u8),.v .u64],[],[(.sl .u8),.u64],[⟨.ret,[(0,.v (.sl .u8))],[],[(.sl .u8)]⟩],fun x=>Zbu F x.1 x.2⟩
def Zhk:Fs yb:=Zty fuel
theorem Zk5:Zhk.Ok:=Zg (fi:={ hi:={ still:=[4,19,20],frz:=[20]},lp:=[(0,Zk4)]}) (specs:={ l:=[ZgM]}) (okS ⟨ZiT,trivial⟩) ⟨ZoG,trivial⟩ (by decide+kernel) (fun x=>by kernel_rfl)
def QI (F:Nat) (s:((List UInt8)×(List YI)×Int×Int×(List UInt64)×Int×Int×XP×YI)):Option (((List UInt8)×(List YI)×Int×Int×(List UInt64)×Int×Int×XP×YI)⊕((List UInt8)×(List YI)×Int×Int×XP×YI)):=
 if (decide (s.2.2.2.2.2.2.1 < s.2.2.2.2.2.1))=true then
  (idx s.2.2.2.2.1 s.2.2.2.2.2.2.1).bind fun e552=>
  (Zbu F s.1 e552).bind fun o558=>
  some (.inl (o558,s.2.1,s.2.2.1,s.2.2.2.1,s.2.2.2.2.1,s.2.2.2.2.2.1,wi (s.2.2.2.2.2.2.1+1),s.2.2.2.2.2.2.2.1,s.2.2.2.2.2.2.2.2))
 else
 some (.inr (s.1,s.2.1,s.2.2.1,s.2.2.2.1,s.2.2.2.2.2.2.2.1,s.2.2.2.2.2.2.2.2))
def ZmG:Lp:=⟨[(3,.v (.sl .u8)),(5,.ref 1 []),(16,.v (.sl Z1)),(17,.v (.int .i64)),(18,.v (.int .i64)),(28,.v (.sl .u64)),(29,.v (.int .i64)),(30,.v (.int .i64))],[.var (.v Yw) true,.var (.v Z1) true],[(.sl .u8),(.sl Z1),(.int .i64),(.int .i64),(.sl .u64),(.int .i64),(.int .i64),Yw,Z1],[⟨.exit 2,[(3,.v (.sl .u8)),(5,.ref 1 []),(16,.v (.sl Z1)),(17,.v (.int .i64)),(18,.v (.int .i64))],[.var (.v Yw) true,.var (.v Z1) true],[(.sl .u8),(.sl Z1),(.int .i64),(.int .i64),Yw,Z1]⟩],Zd (QI fuel) fuel⟩
theorem ZpH:ZmG.Ok yb (Zp yb 120) (Zo yb 120 1):=Zk (fi:={ hi:={ still:=[2,8,13,22,25,34,35,38,40,41,43,44,46]},lp:=[]}) (specs:={ l:=[Zhk]}) (okS ⟨Zk5,trivial⟩) trivial (by kernel_rfl) (fun v=>by kernel_rfl)
def Zbv (F:Nat) (s:((List UInt8)×(List YI)×Int×Int×XP)):Option (((List UInt8)×(List YI)×Int×Int×XP)⊕((List UInt8)×XP)):=
 if (decide (s.2.2.2.1 < s.2.2.1))=true then
  (idx s.2.1 s.2.2.2.1).bind fun e550=>
  (WJ F s.1 (e550.1.length:Int)).bind fun o551=>
  (Zd (QI F) F (o551,s.2.1,s.2.2.1,s.2.2.2.1,e550.1,(e550.1.length:Int),(0:Int),s.2.2.2.2,e550)).bind fun o559=>
  (WJ F o559.1 o559.2.2.2.2.2.2.1).bind fun o560=>
  (WJ F o560 o559.2.2.2.2.2.2.2.1).bind fun o561=>
  (Zbu F o561 o559.2.2.2.2.2.2.2.2).bind fun o562=>
  some (.inl (o562,o559.2.1,o559.2.2.1,wi (o559.2.2.2.1+1),o559.2.2.2.2.1))
 else
 some (.inr (s.1,s.2.2.2.2))
def ZmH:Lp:=⟨[(3,.v (.sl .u8)),(16,.v (.sl Z1)),(17,.v (.int .i64)),(18,.v (.int .i64))],[.var (.v Yw) true],[(.sl .u8),(.sl Z1),(.int .i64),(.int .i64),Yw],[⟨.exit 0,[(3,.v (.sl .u8))],[.var (.v Yw) true],[(.sl .u8),Yw]⟩],Zd (Zbv fuel) fuel⟩
theorem ZpI:ZmH.Ok yb (Zp yb 120) (Zo yb 120 0):=Zk (fi:={ hi:={ still:=[2,8,13,22,25,34,35,38,40,41,43,44,46]},lp:=[(1,ZmG)]}) (specs:={ l:=[Zcm,Zhk]}) (okS ⟨Zdm,Zk5,trivial⟩) ⟨ZpH,trivial⟩ (by kernel_rfl) (fun v=>by kernel_rfl)
def Zdn (F:Nat) (a0:XP):Option ((List UInt8)):=
 (QE F a0).bind fun o537=>
 if (!o537)=true then
  some ([]:List UInt8)
 else
 (WJ F ([]:List UInt8) (a0.length:Int)).bind fun o549=>
 (Zd (Zbv F) F (o549,a0,(a0.length:Int),(0:Int),a0)).bind fun o563=>
 some o563.1
def ZuI (F:Nat):Fs yb:=⟨120,[.v Yw],[],[Yw],[⟨.ret,[(0,.v (.sl .u8))],[],[(.sl .u8)]⟩],fun x=>Zdn F x⟩
def ZiU:Fs yb:=ZuI fuel
theorem ZmI:ZiU.Ok:=Zg (fi:={ hi:={ still:=[2,8,13,22,25,34,35,38,40,41,43,44,46]},lp:=[(0,ZmH)]}) (specs:={ l:=[Zbt,Zcm]}) (okS ⟨ZcN,Zdm,trivial⟩) ⟨ZpI,trivial⟩ (by decide+kernel) (fun x=>by kernel_rfl)
def ZHN:ByteArray:=⟨#[108,111,99,107]⟩
def ZlM (F:Nat) (a0:XP):Option ((List UInt8)):=
 (QE F a0).bind fun o536=>
 if (!o536)=true then
  some ([0,0,0,0,0,0,0,0,0,0,0,0,0,0,0,0,0,0,0,0,0,0,0,0,0,0,0,0,0,0,0,0]:List UInt8)
 else
 (Zdn F a0).bind fun o564=>
 (Vp F ZHN ([o564]:List (List UInt8))).bind fun o565=>
 some o565
def Zzx (F:Nat):Fs yb:=⟨54,[.v Yw],[],[Yw],[⟨.ret,[(0,.v (.arr 32 .u8))],[],[(.arr 32 .u8)]⟩],fun x=>ZlM F x⟩
def Ztz:Fs yb:=Zzx fuel
theorem Zzy:Ztz.Ok:=Zg (fi:={ hi:={ still:=[3,7,9]},lp:=[]}) (specs:={ l:=[Zbt,ZiU,Zck]}) (okS ⟨ZcN,ZmI,Zdj,trivial⟩) trivial (by decide+kernel) (fun x=>by kernel_rfl)
def ZU (F:Nat) (a0:Int) (a1:XP) (a2:Role) (s1_0:(List Unit)) (s1_1:(List Zh)):Option (((List Unit)×(List Zh))):=
 (ZlM F a1).bind fun o566=>
 if (apB s1_1.length 1 112)=true then
  let y567:(List Zh):=s1_1++([((a0,a1),a2,o566)]:List Zh)
  some (()::s1_0,y567)
 else
 none
def ZpJ (F:Nat):Fs yb:=⟨53,[.v (.int .i64),.v Yw,.v Zjn,.ref 0 []],[.var (.rw 1) true,.row Zl true 123],[(.int .i64),Yw,Zjn,(.sl (.st [])),(.sl Zl)],[⟨.ret,[(0,.tup [])],[.var (.rw 1) true,.row Zl true 123],[(.sl (.st [])),(.sl Zl)]⟩],fun x=>ZU F x.1 x.2.1 x.2.2.1 x.2.2.2.1 x.2.2.2.2⟩
def ZdG:Fs yb:=ZpJ fuel
theorem Zh4:ZdG.Ok:=Zg (fi:={ hi:={ own:=[7,16],still:=[12]},lp:=[]}) (specs:={ l:=[Ztz]}) (okS ⟨Zzy,trivial⟩) trivial (by decide+kernel) (fun x=>by kernel_rfl)
def YJ (F:Nat) (s:(Int×Int×Int×Int×(List Unit)×(List Zh))):Option ((Int×Int×Int×Int×(List Unit)×(List Zh))⊕(Int×Int×Int×(List Unit)×(List Zh))):=
 if (decide (s.2.2.2.1 > s.1))=true then
  if (inB s.2.2.2.1 s.2.2.2.2.2.length)=true then
   (s.2.2.2.2.2[s.2.2.2.1.toNat]?).bind fun e586=>
   if (inB (wi (s.2.2.2.1 - 1)) s.2.2.2.2.2.length)=true then
    (s.2.2.2.2.2[(wi (s.2.2.2.1 - 1)).toNat]?).bind fun e587=>
    (Zbo F e586 e587).bind fun o588=>
    if (decide (o588 < 0))=true then
     if (inB (wi (s.2.2.2.1 - 1)) s.2.2.2.2.2.length)=true then
      (s.2.2.2.2.2[(wi (s.2.2.2.1 - 1)).toNat]?).bind fun e589=>
      if (inB s.2.2.2.1 s.2.2.2.2.2.length)=true then
       (s.2.2.2.2.2[s.2.2.2.1.toNat]?).bind fun e590=>
       if (inB s.2.2.2.1 s.2.2.2.2.2.length)=true then
        (s.2.2.2.2.2[s.2.2.2.1.toNat]?).bind fun e591=>
        if (inB (wi (s.2.2.2.1 - 1)) ((s.2.2.2.2.2.set s.2.2.2.1.toNat e589).length))=true then
         ((s.2.2.2.2.2.set s.2.2.2.1.toNat e589)[(wi (s.2.2.2.1 - 1)).toNat]?).bind fun e592=>
         let y593:(List Zh):=(s.2.2.2.2.2.set s.2.2.2.1.toNat e589).set ((wi (s.2.2.2.1 - 1)).toNat) e590
         some (.inl (s.1,s.2.1,s.2.2.1,wi (s.2.2.2.1 - 1),s.2.2.2.2.1,y593))
        else
        none
       else
       none
      else
      none
     else
     none
    else
    some (.inr (s.1,s.2.1,s.2.2.1,s.2.2.2.2.1,s.2.2.2.2.2))
   else
   none
  else
  none
 else
 some (.inr (s.1,s.2.1,s.2.2.1,s.2.2.2.2.1,s.2.2.2.2.2))
def ZfL:Lp:=⟨[(0,.rw 0),(1,.v (.int .i64)),(2,.v (.int .i64)),(3,.fn 61 []),(8,.v (.int .i64)),(9,.v (.int .i64))],[.row Zl true 123],[(.int .i64),(.int .i64),(.int .i64),(.int .i64),(.sl (.st [])),(.sl Zl)],[⟨.exit 2,[(0,.rw 0),(1,.v (.int .i64)),(2,.v (.int .i64)),(3,.fn 61 []),(8,.v (.int .i64))],[.row Zl true 123],[(.int .i64),(.int .i64),(.int .i64),(.sl (.st [])),(.sl Zl)]⟩],Zd (YJ fuel) fuel⟩
theorem ZjS:ZfL.Ok yb (Zp yb 183) (Zo yb 183 1):=Zk (fi:={ hi:={ still:=[26,31],rowt:=[0,37,39]},lp:=[]}) (specs:={ l:=[Zjo]}) (okS ⟨ZpF,trivial⟩) trivial (by kernel_rfl) (fun v=>by kernel_rfl)
def YK (F:Nat) (s:(Int×Int×Int×(List Unit)×(List Zh))):Option ((Int×Int×Int×(List Unit)×(List Zh))⊕((List Unit)×(List Zh))):=
 if (decide (s.2.2.1 < s.2.1))=true then
  (Zd (YJ F) F (s.1,s.2.1,s.2.2.1,s.2.2.1,s.2.2.2.1,s.2.2.2.2)).bind fun o594=>
  some (.inl (o594.1,o594.2.1,wi (o594.2.2.1+1),o594.2.2.2.1,o594.2.2.2.2))
 else
 some (.inr (s.2.2.2.1,s.2.2.2.2))
def ZfM:Lp:=⟨[(0,.rw 0),(1,.v (.int .i64)),(2,.v (.int .i64)),(3,.fn 61 []),(8,.v (.int .i64))],[.row Zl true 123],[(.int .i64),(.int .i64),(.int .i64),(.sl (.st [])),(.sl Zl)],[⟨.exit 0,[],[.row Zl true 123],[(.sl (.st [])),(.sl Zl)]⟩],Zd (YK fuel) fuel⟩
theorem ZjT:ZfM.Ok yb (Zp yb 183) (Zo yb 183 0):=Zk (fi:={ hi:={ still:=[26,31],rowt:=[0,37,39]},lp:=[(1,ZfL)]}) (specs:={ l:=[]}) (okS trivial) ⟨ZjS,trivial⟩ (by kernel_rfl) (fun v=>by kernel_rfl)
def XQ (F:Nat) (a1:Int) (a2:Int) (s0_0:(List Unit)) (s0_1:(List Zh)):Option (((List Unit)×(List Zh))):=
 (Zd (YK F) F (a1,a2,wi (a1+1),s0_0,s0_1)).bind fun o595=>
 some (o595.1,o595.2)
def Znm (F:Nat):Fs yb:=⟨183,[.rw 0,.v (.int .i64),.v (.int .i64),.fn 61 []],[.row Zl true 123],[(.int .i64),(.int .i64),(.sl (.st [])),(.sl Zl)],[⟨.ret,[(0,.tup [])],[.row Zl true 123],[(.sl (.st [])),(.sl Zl)]⟩],fun x=>XQ F x.1 x.2.1 x.2.2.1 x.2.2.2⟩
def Zbw:Fs yb:=Znm fuel
theorem ZfN:Zbw.Ok:=Zg (fi:={ hi:={ still:=[26,31],rowt:=[0,37,39]},lp:=[(0,ZfM)]}) (specs:={ l:=[]}) (okS trivial) ⟨ZjT,trivial⟩ (by decide+kernel) (fun x=>by kernel_rfl)
def YL (F:Nat) (s:(Int×Int×Int×Int×(List Unit)×(List Zh))):Option ((Int×Int×Int×Int×(List Unit)×(List Zh))⊕(Int×Int×Int×(List Unit)×(List Zh))):=
 if (decide (s.2.2.2.1≤s.1))=true then
  (XQ F s.2.2.1 s.2.2.2.1 s.2.2.2.2.1 s.2.2.2.2.2).bind fun o596=>
  if (decide (s.2.2.2.2.1.length=o596.1.length)&&(decide (40=40)&&decide ((yr s.2.2.2.2.2.length ()).length=o596.2.length)))=true then
   some (.inl (s.1,s.2.1,s.2.2.2.1,wi (s.2.2.2.1+s.2.1),o596.1,o596.2))
  else
  none
 else
 some (.inr (s.1,s.2.1,s.2.2.1,s.2.2.2.2.1,s.2.2.2.2.2))
def ZfO:Lp:=⟨[(0,.rw 0),(1,.v (.int .i64)),(2,.fn 61 []),(6,.v (.int .i64)),(7,.v (.int .i64)),(8,.v (.int .i64))],[.row Zl true 123],[(.int .i64),(.int .i64),(.int .i64),(.int .i64),(.sl (.st [])),(.sl Zl)],[⟨.exit 0,[(0,.rw 0),(1,.v (.int .i64)),(2,.fn 61 []),(6,.v (.int .i64)),(7,.v (.int .i64))],[.row Zl true 123],[(.int .i64),(.int .i64),(.int .i64),(.sl (.st [])),(.sl Zl)]⟩],Zd (YL fuel) fuel⟩
theorem ZjU:ZfO.Ok yb (Zp yb 122) (Zo yb 122 0):=Zk (fi:={ hi:={ still:=[15,16,17,24,25,26,37,40,41,42,56,57,58,59],rowt:=[0,14,23,36,55]},lp:=[],gh:=[(3,.freshS 0)]}) (specs:={ l:=[Zbw]}) (okS ⟨ZfN,trivial⟩) trivial (by kernel_rfl) (fun v=>by kernel_rfl)
def ZdY (F:Nat) (s:(Int×Int×Int)):Option ((Int×Int×Int)⊕(Int×Int)):=
 if (decide (s.2.1 < s.2.2))=true then
  let y599:Int:=wi ((ZA (w64 (wi (s.2.1+s.2.2))) 1).toNat:Int)
  none
 else
 some (.inr (s.1,s.2.1))
def ZfP:Lp:=⟨[(1,.v (.int .i64)),(4,.fn 61 []),(10,.v (.int .i64)),(11,.v (.int .i64))],[],[(.int .i64),(.int .i64),(.int .i64)],[⟨.exit 0,[(1,.v (.int .i64)),(10,.v (.int .i64))],[],[(.int .i64),(.int .i64)]⟩],Zd (ZdY fuel) fuel⟩
theorem ZjV:ZfP.Ok yb (Zp yb 184) (Zo yb 184 0):=Zk (fi:={ hi:={ still:=[44,48,96,100,164,168,187,188,189,190,200,201,202,203,204,214,215,216,217,218],rowt:=[0,61,63,113,115,186]},lp:=[]}) (specs:={ l:=[]}) (okS trivial) trivial (by kernel_rfl) (fun v=>by kernel_rfl)
def ZdZ (F:Nat) (s:(Int×Int)):Option ((Int×Int)⊕Unit):=
 if (decide (s.2 < (wi (s.1 - 1))))=true then
  none
 else
 some (.inr ())
def ZfQ:Lp:=⟨[(10,.v (.int .i64)),(13,.v (.int .i64))],[],[(.int .i64),(.int .i64)],[⟨.exit 2,[],[],[]⟩],Zd (ZdZ fuel) fuel⟩
theorem ZjW:ZfQ.Ok yb (Zp yb 184) (Zo yb 184 1):=Zk (fi:={ hi:={ still:=[44,48,96,100,164,168,187,188,189,190,200,201,202,203,204,214,215,216,217,218],rowt:=[0,61,63,113,115,186]},lp:=[]}) (specs:={ l:=[]}) (okS trivial) trivial (by kernel_rfl) (fun v=>by kernel_rfl)
def Zd0 (F:Nat) (s:(Int×Int×Int)):Option ((Int×Int×Int)⊕(Int×Int)):=
 if (decide (s.2.1 < s.2.2))=true then
  let y602:Int:=wi ((ZA (w64 (wi (s.2.1+s.2.2))) 1).toNat:Int)
  none
 else
 some (.inr (s.1,s.2.1))
def ZfR:Lp:=⟨[(2,.v (.int .i64)),(4,.fn 61 []),(14,.v (.int .i64)),(15,.v (.int .i64))],[],[(.int .i64),(.int .i64),(.int .i64)],[⟨.exit 4,[(2,.v (.int .i64)),(14,.v (.int .i64))],[],[(.int .i64),(.int .i64)]⟩],Zd (Zd0 fuel) fuel⟩
theorem ZjX:ZfR.Ok yb (Zp yb 184) (Zo yb 184 2):=Zk (fi:={ hi:={ still:=[44,48,96,100,164,168,187,188,189,190,200,201,202,203,204,214,215,216,217,218],rowt:=[0,61,63,113,115,186]},lp:=[]}) (specs:={ l:=[]}) (okS trivial) trivial (by kernel_rfl) (fun v=>by kernel_rfl)
end
end Go.Proofs.YtjbbdlffilcaaaaGreat
end
section
set_option maxRecDepth 4000
namespace Go.Proofs.YtjbbdlffilcaaaaGreat
open Go Go.Ev
noncomputable section
def Zd1 (F:Nat) (s:(Int×Int)):Option ((Int×Int)⊕Unit):=
 if (decide (s.2 > s.1))=true then
  none
 else
 some (.inr ())
def ZfS:Lp:=⟨[(14,.v (.int .i64)),(17,.v (.int .i64))],[],[(.int .i64),(.int .i64)],[⟨.exit 6,[],[],[]⟩],Zd (Zd1 fuel) fuel⟩
theorem ZjY:ZfS.Ok yb (Zp yb 184) (Zo yb 184 3):=Zk (fi:={ hi:={ still:=[44,48,96,100,164,168,187,188,189,190,200,201,202,203,204,214,215,216,217,218],rowt:=[0,61,63,113,115,186]},lp:=[]}) (specs:={ l:=[]}) (okS trivial) trivial (by kernel_rfl) (fun v=>by kernel_rfl)
def Zad (F:Nat) (s:(Int×Int×Int×Int×Int×Int×Int×Int)):Option ((Int×Int×Int×Int×Int×Int×Int×Int)⊕(Int×Int×Int×Int×Int×Int)):=
 if (decide (s.2.2.2.2.2.1 < s.2.2.2.2.2.2.1))=true then
  let y607:UInt64:=ZA (w64 (wi (s.2.2.2.2.2.1+s.2.2.2.2.2.2.1))) 1
  none
 else
 some (.inr (s.1,s.2.1,s.2.2.1,s.2.2.2.1,s.2.2.2.2.1,s.2.2.2.2.2.1))
def ZfT:Lp:=⟨[(1,.v (.int .i64)),(2,.v (.int .i64)),(3,.v (.int .i64)),(4,.fn 61 []),(18,.v (.int .i64)),(19,.v (.int .i64)),(20,.v (.int .i64)),(21,.v (.int .i64)),(22,.v (.int .i64))],[],[(.int .i64),(.int .i64),(.int .i64),(.int .i64),(.int .i64),(.int .i64),(.int .i64),(.int .i64)],[⟨.exit 8,[(1,.v (.int .i64)),(2,.v (.int .i64)),(3,.v (.int .i64)),(4,.fn 61 []),(18,.v (.int .i64)),(19,.v (.int .i64)),(20,.v (.int .i64))],[],[(.int .i64),(.int .i64),(.int .i64),(.int .i64),(.int .i64),(.int .i64)]⟩],Zd (Zad fuel) fuel⟩
theorem ZjZ:ZfT.Ok yb (Zp yb 184) (Zo yb 184 4):=Zk (fi:={ hi:={ still:=[44,48,96,100,164,168,187,188,189,190,200,201,202,203,204,214,215,216,217,218],rowt:=[0,61,63,113,115,186]},lp:=[]}) (specs:={ l:=[]}) (okS trivial) trivial (by kernel_rfl) (fun v=>by kernel_rfl)
def Zd2 (F:Nat) (s:(Int×Int×Int×Int)):Option ((Int×Int×Int×Int)⊕Unit):=
 if (decide (s.2.2.2 < s.2.2.1))=true then
  none
 else
 some (.inr ())
def ZfU:Lp:=⟨[(1,.v (.int .i64)),(2,.v (.int .i64)),(3,.v (.int .i64)),(10,.v (.int .i64))],[],[(.int .i64),(.int .i64),(.int .i64),(.int .i64)],[⟨.exit 0,[],[],[]⟩],Zd (Zd2 fuel) fuel⟩
theorem Zj0:ZfU.Ok yb (Zp yb 224) (Zo yb 224 0):=Zk (fi:={ hi:={ rowt:=[0,16,20]},lp:=[]}) (specs:={ l:=[]}) (okS trivial) trivial (by kernel_rfl) (fun v=>by kernel_rfl)
def Q1 (F:Nat) (a1:Int) (a2:Int) (a3:Int):Option (Unit):=
 (Zd (Zd2 F) F (a1,a2,a3,(0:Int))).bind fun o610=>
 some ()
def Znn (F:Nat):Fs yb:=⟨224,[.junk,.v (.int .i64),.v (.int .i64),.v (.int .i64),.fn 61 []],[],[(.int .i64),(.int .i64),(.int .i64)],[⟨.ret,[(0,.tup [])],[],[]⟩],fun x=>Q1 F x.1 x.2.1 x.2.2⟩
def Zbx:Fs yb:=Znn fuel
theorem ZfV:Zbx.Ok:=Zg (fi:={ hi:={ rowt:=[0,16,20]},lp:=[(0,ZfU)]}) (specs:={ l:=[]}) (okS trivial) ⟨Zj0,trivial⟩ (by decide+kernel) (fun x=>by kernel_rfl)
def Zd3 (F:Nat) (s:(Int×Int×Int)):Option ((Int×Int×Int)⊕(Int×Int)):=
 if (s.2.1 !=s.2.2)=true then
  if (decide (s.2.1 > s.2.2))=true then
   (Q1 F (wi (s.1 - s.2.1)) s.1 s.2.2).bind fun o611=>
   some (.inl (s.1,wi (s.2.1 - s.2.2),s.2.2))
  else
  (Q1 F (wi (s.1 - s.2.1)) (wi ((wi (s.1+s.2.2)) - s.2.1)) s.2.1).bind fun o612=>
  some (.inl (s.1,s.2.1,wi (s.2.2 - s.2.1)))
 else
 some (.inr (s.1,s.2.1))
def ZfW:Lp:=⟨[(2,.v (.int .i64)),(4,.fn 61 []),(10,.v (.int .i64)),(11,.v (.int .i64))],[],[(.int .i64),(.int .i64),(.int .i64)],[⟨.exit 0,[(2,.v (.int .i64)),(4,.fn 61 []),(10,.v (.int .i64))],[],[(.int .i64),(.int .i64)]⟩],Zd (Zd3 fuel) fuel⟩
theorem Zj1:ZfW.Ok yb (Zp yb 211) (Zo yb 211 0):=Zk (fi:={ hi:={ still:=[27,28,29,30,38,43,44,45,53,54,55,56],rowt:=[0,24,35,50]},lp:=[]}) (specs:={ l:=[Zbx]}) (okS ⟨ZfV,trivial⟩) trivial (by kernel_rfl) (fun v=>by kernel_rfl)
def Zcn (F:Nat) (a1:Int) (a2:Int) (a3:Int):Option (Unit):=
 (Zd (Zd3 F) F (a2,wi (a2 - a1),wi (a3 - a2))).bind fun o613=>
 (Q1 F (wi (o613.1 - o613.2)) o613.1 o613.2).bind fun o614=>
 some ()
def Zno (F:Nat):Fs yb:=⟨211,[.junk,.v (.int .i64),.v (.int .i64),.v (.int .i64),.fn 61 []],[],[(.int .i64),(.int .i64),(.int .i64)],[⟨.ret,[(0,.tup [])],[],[]⟩],fun x=>Zcn F x.1 x.2.1 x.2.2⟩
def ZgN:Fs yb:=Zno fuel
theorem Znp:ZgN.Ok:=Zg (fi:={ hi:={ still:=[27,28,29,30,38,43,44,45,53,54,55,56],rowt:=[0,24,35,50]},lp:=[(0,ZfW)]}) (specs:={ l:=[Zbx]}) (okS ⟨ZfV,trivial⟩) ⟨Zj1,trivial⟩ (by decide+kernel) (fun x=>by kernel_rfl)
def Zco (F:Nat) (a1:Int) (a2:Int) (a3:Int):Option (Unit):=
 if ((wi (a2 - a1))==1)=true then
  (Zd (ZdY F) F (a1,a2,a3)).bind fun o600=>
  (Zd (ZdZ F) F (o600.2,o600.1)).bind fun o601=>
  some ()
 else
 if ((wi (a3 - a2))==1)=true then
  (Zd (Zd0 F) F (a2,a1,a2)).bind fun o603=>
  (Zd (Zd1 F) F (o603.2,o603.1)).bind fun o604=>
  some ()
 else
 let y605:Int:=wi ((wi ((ZA (w64 (wi (a1+a3))) 1).toNat:Int))+a2)
 let y606:Bool:=decide (a2 > (wi ((ZA (w64 (wi (a1+a3))) 1).toNat:Int)))
 if y606=true then
  (Zd (Zad F) F (a1,a2,a3,wi ((ZA (w64 (wi (a1+a3))) 1).toNat:Int),y605,wi (y605 - a3),wi ((ZA (w64 (wi (a1+a3))) 1).toNat:Int),wi (y605 - 1))).bind fun o608=>
  if (decide (o608.2.2.2.2.2 < o608.2.1))=true then
   let y609:Bool:=decide (o608.2.1 < (wi (o608.2.2.2.2.1 - o608.2.2.2.2.2)))
   if y609=true then
    (Zcn F o608.2.2.2.2.2 o608.2.1 (wi (o608.2.2.2.2.1 - o608.2.2.2.2.2))).bind fun o615=>
    if (decide (o608.1 < o608.2.2.2.2.2))=true then
     if (decide (o608.2.2.2.2.2 < o608.2.2.2.1))=true then
      none
     else
     let y616:Bool:=decide (o608.2.2.2.1 < (wi (o608.2.2.2.2.1 - o608.2.2.2.2.2)))
     if y616=true then
      let y617:Bool:=decide ((wi (o608.2.2.2.2.1 - o608.2.2.2.2.2)) < o608.2.2.1)
      if y617=true then
       none
      else
      some ()
     else
     some ()
    else
    let y618:Bool:=decide (o608.2.2.2.1 < (wi (o608.2.2.2.2.1 - o608.2.2.2.2.2)))
    if y618=true then
     let y619:Bool:=decide ((wi (o608.2.2.2.2.1 - o608.2.2.2.2.2)) < o608.2.2.1)
     if y619=true then
      none
     else
     some ()
    else
    some ()
   else
   if (decide (o608.1 < o608.2.2.2.2.2))=true then
    if (decide (o608.2.2.2.2.2 < o608.2.2.2.1))=true then
     none
    else
    let y620:Bool:=decide (o608.2.2.2.1 < (wi (o608.2.2.2.2.1 - o608.2.2.2.2.2)))
    if y620=true then
     let y621:Bool:=decide ((wi (o608.2.2.2.2.1 - o608.2.2.2.2.2)) < o608.2.2.1)
     if y621=true then
      none
     else
     some ()
    else
    some ()
   else
   let y622:Bool:=decide (o608.2.2.2.1 < (wi (o608.2.2.2.2.1 - o608.2.2.2.2.2)))
   if y622=true then
    let y623:Bool:=decide ((wi (o608.2.2.2.2.1 - o608.2.2.2.2.2)) < o608.2.2.1)
    if y623=true then
     none
    else
    some ()
   else
   some ()
  else
  if (decide (o608.1 < o608.2.2.2.2.2))=true then
   if (decide (o608.2.2.2.2.2 < o608.2.2.2.1))=true then
    none
   else
   let y624:Bool:=decide (o608.2.2.2.1 < (wi (o608.2.2.2.2.1 - o608.2.2.2.2.2)))
   if y624=true then
    let y625:Bool:=decide ((wi (o608.2.2.2.2.1 - o608.2.2.2.2.2)) < o608.2.2.1)
    if y625=true then
     none
    else
    some ()
   else
   some ()
  else
  let y626:Bool:=decide (o608.2.2.2.1 < (wi (o608.2.2.2.2.1 - o608.2.2.2.2.2)))
  if y626=true then
   let y627:Bool:=decide ((wi (o608.2.2.2.2.1 - o608.2.2.2.2.2)) < o608.2.2.1)
   if y627=true then
    none
   else
   some ()
  else
  some ()
 else
 (Zd (Zad F) F (a1,a2,a3,wi ((ZA (w64 (wi (a1+a3))) 1).toNat:Int),y605,a1,a2,wi (y605 - 1))).bind fun o628=>
 if (decide (o628.2.2.2.2.2 < o628.2.1))=true then
  let y629:Bool:=decide (o628.2.1 < (wi (o628.2.2.2.2.1 - o628.2.2.2.2.2)))
  if y629=true then
   (Zcn F o628.2.2.2.2.2 o628.2.1 (wi (o628.2.2.2.2.1 - o628.2.2.2.2.2))).bind fun o630=>
   if (decide (o628.1 < o628.2.2.2.2.2))=true then
    if (decide (o628.2.2.2.2.2 < o628.2.2.2.1))=true then
     none
    else
    let y631:Bool:=decide (o628.2.2.2.1 < (wi (o628.2.2.2.2.1 - o628.2.2.2.2.2)))
    if y631=true then
     let y632:Bool:=decide ((wi (o628.2.2.2.2.1 - o628.2.2.2.2.2)) < o628.2.2.1)
     if y632=true then
      none
     else
     some ()
    else
    some ()
   else
   let y633:Bool:=decide (o628.2.2.2.1 < (wi (o628.2.2.2.2.1 - o628.2.2.2.2.2)))
   if y633=true then
    let y634:Bool:=decide ((wi (o628.2.2.2.2.1 - o628.2.2.2.2.2)) < o628.2.2.1)
    if y634=true then
     none
    else
    some ()
   else
   some ()
  else
  if (decide (o628.1 < o628.2.2.2.2.2))=true then
   if (decide (o628.2.2.2.2.2 < o628.2.2.2.1))=true then
    none
   else
   let y635:Bool:=decide (o628.2.2.2.1 < (wi (o628.2.2.2.2.1 - o628.2.2.2.2.2)))
   if y635=true then
    let y636:Bool:=decide ((wi (o628.2.2.2.2.1 - o628.2.2.2.2.2)) < o628.2.2.1)
    if y636=true then
     none
    else
    some ()
   else
   some ()
  else
  let y637:Bool:=decide (o628.2.2.2.1 < (wi (o628.2.2.2.2.1 - o628.2.2.2.2.2)))
  if y637=true then
   let y638:Bool:=decide ((wi (o628.2.2.2.2.1 - o628.2.2.2.2.2)) < o628.2.2.1)
   if y638=true then
    none
   else
   some ()
  else
  some ()
 else
 if (decide (o628.1 < o628.2.2.2.2.2))=true then
  if (decide (o628.2.2.2.2.2 < o628.2.2.2.1))=true then
   none
  else
  let y639:Bool:=decide (o628.2.2.2.1 < (wi (o628.2.2.2.2.1 - o628.2.2.2.2.2)))
  if y639=true then
   let y640:Bool:=decide ((wi (o628.2.2.2.2.1 - o628.2.2.2.2.2)) < o628.2.2.1)
   if y640=true then
    none
   else
   some ()
  else
  some ()
 else
 let y641:Bool:=decide (o628.2.2.2.1 < (wi (o628.2.2.2.2.1 - o628.2.2.2.2.2)))
 if y641=true then
  let y642:Bool:=decide ((wi (o628.2.2.2.2.1 - o628.2.2.2.2.2)) < o628.2.2.1)
  if y642=true then
   none
  else
  some ()
 else
 some ()
def Znq (F:Nat):Fs yb:=⟨184,[.junk,.v (.int .i64),.v (.int .i64),.v (.int .i64),.fn 61 []],[],[(.int .i64),(.int .i64),(.int .i64)],[⟨.ret,[(0,.tup [])],[],[]⟩],fun x=>Zco F x.1 x.2.1 x.2.2⟩
def Zby:Fs yb:=Znq fuel
theorem ZfX:Zby.Ok:=Zg (fi:={ hi:={ still:=[44,48,96,100,164,168,187,188,189,190,200,201,202,203,204,214,215,216,217,218],rowt:=[0,61,63,113,115,186]},lp:=[(0,ZfP),(1,ZfQ),(2,ZfR),(3,ZfS),(4,ZfT)]}) (specs:={ l:=[ZgN]}) (okS ⟨Znp,trivial⟩) ⟨ZjV,ZjW,ZjX,ZjY,ZjZ,trivial⟩ (by decide+kernel) (fun x=>by kernel_rfl)
def Zd4 (F:Nat) (s:(Int×Int×Int×Int×(List Unit)×(List Zh))):Option ((Int×Int×Int×Int×(List Unit)×(List Zh))⊕(Int×Int×Int×(List Unit)×(List Zh))):=
 if (decide (s.2.2.2.1≤s.1))=true then
  (Zco F s.2.2.1 (wi (s.2.2.1+s.2.1)) s.2.2.2.1).bind fun o643=>
  some (.inl (s.1,s.2.1,s.2.2.2.1,wi (s.2.2.2.1+(wi (2*s.2.1))),s.2.2.2.2.1,s.2.2.2.2.2))
 else
 some (.inr (s.1,s.2.1,s.2.2.1,s.2.2.2.2.1,s.2.2.2.2.2))
def ZfY:Lp:=⟨[(1,.v (.int .i64)),(2,.fn 61 []),(6,.v (.int .i64)),(7,.v (.int .i64)),(8,.v (.int .i64))],[.row Zl true 123],[(.int .i64),(.int .i64),(.int .i64),(.int .i64),(.sl (.st [])),(.sl Zl)],[⟨.exit 4,[(1,.v (.int .i64)),(2,.fn 61 []),(6,.v (.int .i64)),(7,.v (.int .i64))],[.row Zl true 123],[(.int .i64),(.int .i64),(.int .i64),(.sl (.st [])),(.sl Zl)]⟩],Zd (Zd4 fuel) fuel⟩
theorem Zj2:ZfY.Ok yb (Zp yb 122) (Zo yb 122 2):=Zk (fi:={ hi:={ still:=[15,16,17,24,25,26,37,40,41,42,56,57,58,59],rowt:=[0,14,23,36,55]},lp:=[]}) (specs:={ l:=[Zby]}) (okS ⟨ZfX,trivial⟩) trivial (by kernel_rfl) (fun v=>by kernel_rfl)
def Vl (F:Nat) (s:(Int×Int×(List Unit)×(List Zh))):Option ((Int×Int×(List Unit)×(List Zh))⊕((List Unit)×(List Zh))):=
 if (decide (s.2.1 < s.1))=true then
  (Zd (Zd4 F) F (s.1,s.2.1,(0:Int),wi (2*s.2.1),s.2.2.1,s.2.2.2)).bind fun o644=>
  if (decide ((wi (o644.2.2.1+o644.2.1)) < o644.1))=true then
   (Zco F o644.2.2.1 (wi (o644.2.2.1+o644.2.1)) o644.1).bind fun o645=>
   some (.inl (o644.1,wi (o644.2.1*2),o644.2.2.2.1,o644.2.2.2.2))
  else
  some (.inl (o644.1,wi (o644.2.1*2),o644.2.2.2.1,o644.2.2.2.2))
 else
 some (.inr (s.2.2.1,s.2.2.2))
def ZfZ:Lp:=⟨[(0,.junk),(1,.v (.int .i64)),(2,.fn 61 []),(6,.v (.int .i64))],[.row Zl true 123],[(.int .i64),(.int .i64),(.sl (.st [])),(.sl Zl)],[⟨.exit 2,[],[.row Zl true 123],[(.sl (.st [])),(.sl Zl)]⟩],Zd (Vl fuel) fuel⟩
theorem Zj3:ZfZ.Ok yb (Zp yb 122) (Zo yb 122 1):=Zk (fi:={ hi:={ still:=[15,16,17,24,25,26,37,40,41,42,56,57,58,59],rowt:=[0,14,23,36,55]},lp:=[(2,ZfY)]}) (specs:={ l:=[Zby]}) (okS ⟨ZfX,trivial⟩) ⟨Zj2,trivial⟩ (by kernel_rfl) (fun v=>by kernel_rfl)
def Zcp (F:Nat) (a1:Int) (s0_0:(List Unit)) (s0_1:(List Zh)):Option (((List Unit)×(List Zh))):=
 (Zd (YL F) F (a1,(20:Int),(0:Int),(20:Int),s0_0,s0_1)).bind fun o597=>
 (XQ F o597.2.2.1 o597.1 o597.2.2.2.1 o597.2.2.2.2).bind fun o598=>
 (Zd (Vl F) F (o597.1,o597.2.1,o598.1,o598.2)).bind fun o646=>
 some (o646.1,o646.2)
def Znr (F:Nat):Fs yb:=⟨122,[.rw 0,.v (.int .i64),.fn 61 []],[.row Zl true 123],[(.int .i64),(.sl (.st [])),(.sl Zl)],[⟨.ret,[(0,.tup [])],[.row Zl true 123],[(.sl (.st [])),(.sl Zl)]⟩],fun x=>Zcp F x.1 x.2.1 x.2.2⟩
def ZgO:Fs yb:=Znr fuel
theorem Zns:ZgO.Ok:=Zg (fi:={ hi:={ still:=[15,16,17,24,25,26,37,40,41,42,56,57,58,59],rowt:=[0,14,23,36,55]},lp:=[(0,ZfO),(1,ZfZ)]}) (specs:={ l:=[Zbw]}) (okS ⟨ZfN,trivial⟩) ⟨ZjU,Zj3,trivial⟩ (by decide+kernel) (fun x=>by kernel_rfl)
def W2 (F:Nat) (s0_0:(List Unit)) (s0_1:(List Zh)):Option (((List Unit)×(List Zh))):=
 (Zcp F (s0_1.length:Int) s0_0 s0_1).bind fun o647=>
 some (o647.1,o647.2)
def ZtA (F:Nat):Fs yb:=⟨60,[.rw 0,.fn 61 []],[.row Zl true 123],[(.sl (.st [])),(.sl Zl)],[⟨.ret,[(0,.tup [])],[.row Zl true 123],[(.sl (.st [])),(.sl Zl)]⟩],fun x=>W2 F x.1 x.2⟩
def ZmJ:Fs yb:=ZtA fuel
theorem ZtB:ZmJ.Ok:=Zg (fi:={ hi:={ still:=[6,7],rowt:=[0,4]},lp:=[]}) (specs:={ l:=[ZgO]}) (okS ⟨Zns,trivial⟩) trivial (by decide+kernel) (fun x=>by kernel_rfl)
def YV (F:Nat) (s:(Int×Int×UInt64×UInt64×UInt64×(List ZB)×Int×Int×ZO×State×ZZ×(List Unit)×(List Zh))):Option ((Int×Int×UInt64×UInt64×UInt64×(List ZB)×Int×Int×ZO×State×ZZ×(List Unit)×(List Zh))⊕(Int×ZO×State×ZZ×(List Unit)×(List Zh))):=
 if (decide (s.2.2.2.2.2.2.2.1 < s.2.2.2.2.2.2.1))=true then
  (idx s.2.2.2.2.2.1 s.2.2.2.2.2.2.2.1).bind fun e682=>
  if (e682.1==s.1)=true then
   (ZU F e682.2.2.1 ([([s.2.2.1],0,0,0),([s.2.2.2.2.1],0,0,e682.2.2.2.1),([s.2.2.2.1],e682.2.2.2.2,s.2.1,0)]:XP) ((5:Int),e682) s.2.2.2.2.2.2.2.2.2.2.2.1 s.2.2.2.2.2.2.2.2.2.2.2.2).bind fun o683=>
   some (.inl (s.1,s.2.1,s.2.2.1,s.2.2.2.1,s.2.2.2.2.1,s.2.2.2.2.2.1,s.2.2.2.2.2.2.1,wi (s.2.2.2.2.2.2.2.1+1),s.2.2.2.2.2.2.2.2.1,s.2.2.2.2.2.2.2.2.2.1,s.2.2.2.2.2.2.2.2.2.2.1,o683.1,o683.2))
  else
  (ZU F e682.2.2.1 ([([s.2.2.1],0,0,0),([s.2.2.2.1],0,s.2.1,e682.2.2.2.1),([s.2.2.2.2.1],e682.2.2.2.2,0,0)]:XP) ((6:Int),e682) s.2.2.2.2.2.2.2.2.2.2.2.1 s.2.2.2.2.2.2.2.2.2.2.2.2).bind fun o684=>
  some (.inl (s.1,s.2.1,s.2.2.1,s.2.2.2.1,s.2.2.2.2.1,s.2.2.2.2.2.1,s.2.2.2.2.2.2.1,wi (s.2.2.2.2.2.2.2.1+1),s.2.2.2.2.2.2.2.2.1,s.2.2.2.2.2.2.2.2.2.1,s.2.2.2.2.2.2.2.2.2.2.1,o684.1,o684.2))
 else
 some (.inr (s.1,s.2.2.2.2.2.2.2.2.1,s.2.2.2.2.2.2.2.2.2.1,s.2.2.2.2.2.2.2.2.2.2.1,s.2.2.2.2.2.2.2.2.2.2.2.1,s.2.2.2.2.2.2.2.2.2.2.2.2))
def Zk6:Lp:=⟨[(2,.v (.int .i64)),(4,.ref 0 []),(5,.ref 1 []),(8,.ref 2 []),(11,.v (.int .i64)),(12,.v .u64),(13,.v .u64),(14,.v .u64),(15,.ref 3 []),(16,.fn 53 [.ref 3 []]),(139,.v (.sl Yo)),(140,.v (.int .i64)),(141,.v (.int .i64))],[.var (.v Zq) true,.var (.v Ze) true,.var (.v Zy) true,.var (.rw 4) true,.row Zl true 123],[(.int .i64),(.int .i64),.u64,.u64,.u64,(.sl Yo),(.int .i64),(.int .i64),Zq,Ze,Zy,(.sl (.st [])),(.sl Zl)],[⟨.exit 1,[(2,.v (.int .i64)),(4,.ref 0 []),(5,.ref 1 []),(8,.ref 2 []),(15,.ref 3 [])],[.var (.v Zq) true,.var (.v Ze) true,.var (.v Zy) true,.var (.rw 4) true,.row Zl true 123],[(.int .i64),Zq,Ze,Zy,(.sl (.st [])),(.sl Zl)]⟩],Zd (YV fuel) fuel⟩
theorem ZoH:Zk6.Ok yb (Zp yb 12) (Zo yb 12 0):=Zk (fi:={ hi:={ own:=[208,212,216,220],still:=[9,28,32,38,39,54,55,61,62,68,69,72,73,74,75,80,81,84,89,90,91,92,93,94,95,97,98,99,100,105,106,109,114,115,116,123,124,125,132,133,134,136,137,138,176,183,184],rowt:=[187]},lp:=[]}) (specs:={ l:=[ZdG]}) (okS ⟨Zh4,trivial⟩) trivial (by kernel_rfl) (fun v=>by kernel_rfl)
def XG (F:Nat) (s:(Int×Int×ZO×State×ZZ×(List Unit)×(List Zh)×(List In)×Int×(List Role)×(List Out))):Option ((Int×Int×ZO×State×ZZ×(List Unit)×(List Zh)×(List In)×Int×(List Role)×(List Out))⊕(ZO×State×ZZ×(List Unit)×(List Zh)×(List In)×Int×(List Role)×(List Out))):=
 if (decide (s.2.1 < s.1))=true then
  if (inB s.2.1 s.2.2.2.2.2.2.1.length)=true then
   (s.2.2.2.2.2.2.1[s.2.1.toNat]?).bind fun e687=>
   if (apB s.2.2.2.2.2.2.2.2.2.2.length 1 32)=true then
    if (apB s.2.2.2.2.2.2.2.2.2.1.length 1 48)=true then
     let y688:(List Role):=s.2.2.2.2.2.2.2.2.2.1++([e687.2.1]:List Role)
     some (.inl (s.1,wi (s.2.1+1),s.2.2.1,s.2.2.2.1,s.2.2.2.2.1,s.2.2.2.2.2.1,s.2.2.2.2.2.2.1,s.2.2.2.2.2.2.2.1,s.2.2.2.2.2.2.2.2.1,y688,s.2.2.2.2.2.2.2.2.2.2++([e687.1]:List Out)))
    else
    none
   else
   none
  else
  none
 else
 some (.inr (s.2.2.1,s.2.2.2.1,s.2.2.2.2.1,s.2.2.2.2.2.1,s.2.2.2.2.2.2.1,s.2.2.2.2.2.2.2.1,s.2.2.2.2.2.2.2.2.1,s.2.2.2.2.2.2.2.2.2.1,s.2.2.2.2.2.2.2.2.2.2))
def Zk7:Lp:=⟨[(8,.ref 2 []),(24,.ref 5 []),(200,.rw 4),(201,.v (.int .i64)),(202,.v (.int .i64))],[.var (.v Zq) true,.var (.v Ze) true,.var (.v Zy) true,.var (.rw 4) true,.row Zl true 123,.var (.agg [.agg [.v (.sl yIn),.own 7 VM,.v (.int .i64)],.own 6 Zjn]) true,.log Zjn 74,.log VM 70],[(.int .i64),(.int .i64),Zq,Ze,Zy,(.sl (.st [])),(.sl Zl),(.sl yIn),(.int .i64),(.sl Zjn),(.sl VM)],[⟨.exit 3,[(8,.ref 2 []),(24,.ref 5 [])],[.var (.v Zq) true,.var (.v Ze) true,.var (.v Zy) true,.var (.rw 4) true,.row Zl true 123,.var (.agg [.agg [.v (.sl yIn),.own 7 VM,.v (.int .i64)],.own 6 Zjn]) true,.log Zjn 74,.log VM 70],[Zq,Ze,Zy,(.sl (.st [])),(.sl Zl),(.sl yIn),(.int .i64),(.sl Zjn),(.sl VM)]⟩],Zd (XG fuel) fuel⟩
theorem ZoI:Zk7.Ok yb (Zp yb 12) (Zo yb 12 1):=Zk (fi:={ hi:={ own:=[208,212,216,220],still:=[9,28,32,38,39,54,55,61,62,68,69,72,73,74,75,80,81,84,89,90,91,92,93,94,95,97,98,99,100,105,106,109,114,115,116,123,124,125,132,133,134,136,137,138,176,183,184],rowt:=[187],gst:=[(24,[([1],Zjn,74),([0,1],VM,70)])]},lp:=[]}) (specs:={ l:=[]}) (okS trivial) trivial (by kernel_rfl) (fun v=>by kernel_rfl)
def commit_MakeM (F:Nat) (a0:ZO) (a1:State) (a2:Int) (a3:UInt64):Option ((ZZ×Int)):=
 (W0 F a2).bind fun o652=>
 if (!o652)=true then
  some (((([]:List In),([]:List Out),(0:Int)),([]:List Role)),(1:Int))
 else
 (YT F a3).bind fun o653=>
 if (!o653)=true then
  some (((([]:List In),([]:List Out),(0:Int)),([]:List Role)),(1:Int))
 else
 (QX F a0 a1).bind fun o654=>
 if (!o654)=true then
  some (((([]:List In),([]:List Out),(0:Int)),([]:List Role)),(14:Int))
 else
 if (inB (wi (1 - a2)) 2)=true then
  (a0.2.2.2.1[(wi (1 - a2)).toNat]?).bind fun e655=>
  if (inB (wi (1 - a2)) 2)=true then
   (a0.2.2.1[(wi (1 - a2)).toNat]?).bind fun e656=>
   (Zev F e656.2.2.2.2 a3).bind fun o657=>
   if (inB a2 2)=true then
    (a0.2.2.1[a2.toNat]?).bind fun e658=>
    (ZeQ F e658.2.2.2.1 a3).bind fun o659=>
    if (inB (wi (1 - a2)) 2)=true then
     (a0.2.2.1[(wi (1 - a2)).toNat]?).bind fun e660=>
     (ZeQ F e660.2.2.2.1 a3).bind fun o661=>
     (VL F a0 a1 a2 a2).bind fun o662=>
     if (inB a2 2)=true then
      (a0.2.2.2.1[a2.toNat]?).bind fun e663=>
      (Wn F e663 o662).bind fun o664=>
      if o664=true then
       if (inB a2 2)=true then
        (a0.2.2.1[a2.toNat]?).bind fun e665=>
        (ZeQ F e665.2.2.1 a3).bind fun o666=>
        (Znh F o666 o657 e655.2.2.1).bind fun o667=>
        (ZU F o662 o667 ((1:Int),((0:Int),(0:Int),(0:Int),(0:UInt64),(0:Int))) ([]:List Unit) ([]:List Zh)).bind fun o668=>
        (VL F a0 a1 a2 (wi (1 - a2))).bind fun o669=>
        if (inB a2 2)=true then
         (a0.2.2.2.1[a2.toNat]?).bind fun e670=>
         (Wn F e670 o669).bind fun o671=>
         if o671=true then
          if (inB (wi (1 - a2)) 2)=true then
           (a0.2.2.1[(wi (1 - a2)).toNat]?).bind fun e672=>
           (ZeR F e672.2.1).bind fun o673=>
           (ZU F o669 o673 ((2:Int),((0:Int),(0:Int),(0:Int),(0:UInt64),(0:Int))) o668.1 o668.2).bind fun o674=>
           if (inB a2 2)=true then
            (a0.2.2.1[a2.toNat]?).bind fun e675=>
            (Xw F e675.1).bind fun o676=>
            (ZU F (330:Int) o676 ((3:Int),((0:Int),(0:Int),(0:Int),(0:UInt64),(0:Int))) o674.1 o674.2).bind fun o677=>
            if (inB (wi (1 - a2)) 2)=true then
             (a0.2.2.1[(wi (1 - a2)).toNat]?).bind fun e678=>
             (Xw F e678.1).bind fun o679=>
             (ZU F (330:Int) o679 ((4:Int),((0:Int),(0:Int),(0:Int),(0:UInt64),(0:Int))) o677.1 o677.2).bind fun o680=>
             (Wq F a0 a1 a2).bind fun o681=>
             (Zd (YV F) F (a2,e655.2.2.1,o657,o659,o661,o681,(o681.length:Int),(0:Int),a0,a1,((([]:List In),([]:List Out),(0:Int)),([]:List Role)),o680.1,o680.2)).bind fun o685=>
             (W2 F o685.2.2.2.2.1 o685.2.2.2.2.2).bind fun o686=>
             if (decide (o685.2.2.2.2.1.length=o686.1.length)&&(decide (40=40)&&decide ((yr o685.2.2.2.2.2.length ()).length=o686.2.length)))=true then
              (Zd (XG F) F ((o686.2.length:Int),(0:Int),o685.2.1,o685.2.2.1,o685.2.2.2.1,o686.1,o686.2,([(o685.2.1.1,(0,[],0))]:List In),wi ((wi (2*o685.2.2.1.1))+o685.1),([]:List Role),([]:List Out))).bind fun o689=>
              some (((o689.2.2.2.2.2.1,o689.2.2.2.2.2.2.2.2,o689.2.2.2.2.2.2.1),o689.2.2.2.2.2.2.2.1),(0:Int))
             else
             none
            else
            none
           else
           none
          else
          none
         else
         if (inB a2 2)=true then
          (a0.2.2.1[a2.toNat]?).bind fun e690=>
          (Xw F e690.1).bind fun o691=>
          (ZU F (330:Int) o691 ((3:Int),((0:Int),(0:Int),(0:Int),(0:UInt64),(0:Int))) o668.1 o668.2).bind fun o692=>
          if (inB (wi (1 - a2)) 2)=true then
           (a0.2.2.1[(wi (1 - a2)).toNat]?).bind fun e693=>
           (Xw F e693.1).bind fun o694=>
           (ZU F (330:Int) o694 ((4:Int),((0:Int),(0:Int),(0:Int),(0:UInt64),(0:Int))) o692.1 o692.2).bind fun o695=>
           (Wq F a0 a1 a2).bind fun o696=>
           (Zd (YV F) F (a2,e655.2.2.1,o657,o659,o661,o696,(o696.length:Int),(0:Int),a0,a1,((([]:List In),([]:List Out),(0:Int)),([]:List Role)),o695.1,o695.2)).bind fun o697=>
           (W2 F o697.2.2.2.2.1 o697.2.2.2.2.2).bind fun o698=>
           if (decide (o697.2.2.2.2.1.length=o698.1.length)&&(decide (40=40)&&decide ((yr o697.2.2.2.2.2.length ()).length=o698.2.length)))=true then
            (Zd (XG F) F ((o698.2.length:Int),(0:Int),o697.2.1,o697.2.2.1,o697.2.2.2.1,o698.1,o698.2,([(o697.2.1.1,(0,[],0))]:List In),wi ((wi (2*o697.2.2.1.1))+o697.1),([]:List Role),([]:List Out))).bind fun o699=>
            some (((o699.2.2.2.2.2.1,o699.2.2.2.2.2.2.2.2,o699.2.2.2.2.2.2.1),o699.2.2.2.2.2.2.2.1),(0:Int))
           else
           none
          else
          none
         else
         none
        else
        none
       else
       none
      else
      (VL F a0 a1 a2 (wi (1 - a2))).bind fun o700=>
      if (inB a2 2)=true then
       (a0.2.2.2.1[a2.toNat]?).bind fun e701=>
       (Wn F e701 o700).bind fun o702=>
       if o702=true then
        if (inB (wi (1 - a2)) 2)=true then
         (a0.2.2.1[(wi (1 - a2)).toNat]?).bind fun e703=>
         (ZeR F e703.2.1).bind fun o704=>
         (ZU F o700 o704 ((2:Int),((0:Int),(0:Int),(0:Int),(0:UInt64),(0:Int))) ([]:List Unit) ([]:List Zh)).bind fun o705=>
         if (inB a2 2)=true then
          (a0.2.2.1[a2.toNat]?).bind fun e706=>
          (Xw F e706.1).bind fun o707=>
          (ZU F (330:Int) o707 ((3:Int),((0:Int),(0:Int),(0:Int),(0:UInt64),(0:Int))) o705.1 o705.2).bind fun o708=>
          if (inB (wi (1 - a2)) 2)=true then
           (a0.2.2.1[(wi (1 - a2)).toNat]?).bind fun e709=>
           (Xw F e709.1).bind fun o710=>
           (ZU F (330:Int) o710 ((4:Int),((0:Int),(0:Int),(0:Int),(0:UInt64),(0:Int))) o708.1 o708.2).bind fun o711=>
           (Wq F a0 a1 a2).bind fun o712=>
           (Zd (YV F) F (a2,e655.2.2.1,o657,o659,o661,o712,(o712.length:Int),(0:Int),a0,a1,((([]:List In),([]:List Out),(0:Int)),([]:List Role)),o711.1,o711.2)).bind fun o713=>
           (W2 F o713.2.2.2.2.1 o713.2.2.2.2.2).bind fun o714=>
           if (decide (o713.2.2.2.2.1.length=o714.1.length)&&(decide (40=40)&&decide ((yr o713.2.2.2.2.2.length ()).length=o714.2.length)))=true then
            (Zd (XG F) F ((o714.2.length:Int),(0:Int),o713.2.1,o713.2.2.1,o713.2.2.2.1,o714.1,o714.2,([(o713.2.1.1,(0,[],0))]:List In),wi ((wi (2*o713.2.2.1.1))+o713.1),([]:List Role),([]:List Out))).bind fun o715=>
            some (((o715.2.2.2.2.2.1,o715.2.2.2.2.2.2.2.2,o715.2.2.2.2.2.2.1),o715.2.2.2.2.2.2.2.1),(0:Int))
           else
           none
          else
          none
         else
         none
        else
        none
       else
       if (inB a2 2)=true then
        (a0.2.2.1[a2.toNat]?).bind fun e716=>
        (Xw F e716.1).bind fun o717=>
        (ZU F (330:Int) o717 ((3:Int),((0:Int),(0:Int),(0:Int),(0:UInt64),(0:Int))) ([]:List Unit) ([]:List Zh)).bind fun o718=>
        if (inB (wi (1 - a2)) 2)=true then
         (a0.2.2.1[(wi (1 - a2)).toNat]?).bind fun e719=>
         (Xw F e719.1).bind fun o720=>
         (ZU F (330:Int) o720 ((4:Int),((0:Int),(0:Int),(0:Int),(0:UInt64),(0:Int))) o718.1 o718.2).bind fun o721=>
         (Wq F a0 a1 a2).bind fun o722=>
         (Zd (YV F) F (a2,e655.2.2.1,o657,o659,o661,o722,(o722.length:Int),(0:Int),a0,a1,((([]:List In),([]:List Out),(0:Int)),([]:List Role)),o721.1,o721.2)).bind fun o723=>
         (W2 F o723.2.2.2.2.1 o723.2.2.2.2.2).bind fun o724=>
         if (decide (o723.2.2.2.2.1.length=o724.1.length)&&(decide (40=40)&&decide ((yr o723.2.2.2.2.2.length ()).length=o724.2.length)))=true then
          (Zd (XG F) F ((o724.2.length:Int),(0:Int),o723.2.1,o723.2.2.1,o723.2.2.2.1,o724.1,o724.2,([(o723.2.1.1,(0,[],0))]:List In),wi ((wi (2*o723.2.2.1.1))+o723.1),([]:List Role),([]:List Out))).bind fun o725=>
          some (((o725.2.2.2.2.2.1,o725.2.2.2.2.2.2.2.2,o725.2.2.2.2.2.2.1),o725.2.2.2.2.2.2.2.1),(0:Int))
         else
         none
        else
        none
       else
       none
      else
      none
     else
     none
    else
    none
   else
   none
  else
  none
 else
 none
def Zf0 (F:Nat):Fs yb:=⟨12,[.v Zq,.v Ze,.v (.int .i64),.v .u64],[],[Zq,Ze,(.int .i64),.u64],[⟨.ret,[(0,.tup [.v Zy,.v (.int .i64)])],[],[Zy,(.int .i64)]⟩],fun x=>commit_MakeM F x.1 x.2.1 x.2.2.1 x.2.2.2⟩
def Va:Fs yb:=Zf0 fuel
theorem WB:Va.Ok:=Zg (fi:={ hi:={ own:=[208,212,216,220],still:=[9,28,32,38,39,54,55,61,62,68,69,72,73,74,75,80,81,84,89,90,91,92,93,94,95,97,98,99,100,105,106,109,114,115,116,123,124,125,132,133,134,136,137,138,176,183,184],rowt:=[187],gst:=[(24,[([1],Zjn,74),([0,1],VM,70)])]},lp:=[(0,Zk6),(1,Zk7)],gh:=[(11,.rowt 15 [] Zl 123),(31,.freshV 15)]}) (specs:={ l:=[Zhg,Wp,Zhf,ZmC,Ztq,Zhi,ZcG,Zqr,ZdG,Zts,ZmD,ZfF,ZmJ]}) (okS ⟨ZkU,WA,ZkT,Ztp,Zzr,Zk2,ZfB,Zxu,Zh4,Zzu,Ztu,Zjl,ZtB,trivial⟩) ⟨ZoH,ZoI,trivial⟩ (by decide+kernel) (fun x=>by kernel_rfl)
def YM (F:Nat) (a0:(List UInt8)):Option (UInt64):=
 (Xd F a0).bind fun o726=>
 (Xb F o726).bind fun o727=>
 some o727
def Zhl (F:Nat):Fs yb:=⟨13,[.v (.arr 32 .u8)],[],[(.arr 32 .u8)],[⟨.ret,[(0,.v .u64)],[],[.u64]⟩],fun x=>YM F x⟩
def Q2:Fs yb:=Zhl fuel
theorem VY:Q2.Ok:=Zg (fi:={ hi:={ still:=[2,3,4]},lp:=[]}) (specs:={ l:=[QY,XT]}) (okS ⟨Zah,XU,trivial⟩) trivial (by decide+kernel) (fun x=>by kernel_rfl)
def Zxw (F:Nat) (a0:ZO) (a1:State) (a2:Int) (a3:Int):Option (Int):=
 (W0 F a2).bind fun o728=>
 if (!o728)=true then
  some (0:Int)
 else
 (W0 F a3).bind fun o729=>
 if (!o729)=true then
  some (0:Int)
 else
 (QX F a0 a1).bind fun o730=>
 if (!o730)=true then
  some (0:Int)
 else
 (VL F a0 a1 a2 a3).bind fun o731=>
 some o731
def Zf1 (F:Nat):Fs yb:=⟨17,[.v Zq,.v Ze,.v (.int .i64),.v (.int .i64)],[],[Zq,Ze,(.int .i64),(.int .i64)],[⟨.ret,[(0,.v (.int .i64))],[],[(.int .i64)]⟩],fun x=>Zxw F x.1 x.2.1 x.2.2.1 x.2.2.2⟩
def ZuJ:Fs yb:=Zf1 fuel
theorem ZtC:ZuJ.Ok:=Zg (fi:={ hi:={ still:=[8,9,13,18,19,23,24,25,26]},lp:=[]}) (specs:={ l:=[Zhg,Zhf,Zhi]}) (okS ⟨ZkU,ZkT,Zk2,trivial⟩) trivial (by decide+kernel) (fun x=>by kernel_rfl)
def W3 (F:Nat) (a0:Zan):Option (Bool):=
 if (decide (a0.1 ≥ 0))=true then
  if (decide (a0.1 < 4))=true then
   some (decide ((a0.2.1.length:Int)≤12))
  else
  some false
 else
 some false
def ZuK (F:Nat):Fs yb:=⟨73,[.v QD],[],[QD],[⟨.ret,[(0,.v .bool)],[],[.bool]⟩],fun x=>W3 F x⟩
def ZoJ:Fs yb:=ZuK fuel
theorem ZuL:ZoJ.Ok:=Zg (fi:={ hi:={ still:=[2]},lp:=[]}) (specs:={ l:=[]}) (okS trivial) trivial (by decide+kernel) (fun x=>by kernel_rfl)
def Xx (F:Nat) (s:((List In)×Int×Int×Tx×(List (Xs×Bool)))):Option (((List In)×Int×Int×Tx×(List (Xs×Bool)))⊕((Bool×Tx×(List (Xs×Bool)))⊕(Tx×(List (Xs×Bool))))):=
 if (decide (s.2.2.1 < s.2.1))=true then
  (idx s.1 s.2.2.1).bind fun e732=>
  Zvi (Zr7 s.2.2.2.2 e732.1) (fun e733=>
   if e733=true then
    some (.inr (.inl (false,s.2.2.2.1,s.2.2.2.2)))
   else
   if (decide (e732.1.2 < 0))=true then
    some (.inr (.inl (false,s.2.2.2.1,s.2.2.2.2)))
   else
   if (decide (e732.1.2 ≥ 64))=true then
    some (.inr (.inl (false,s.2.2.2.1,s.2.2.2.2)))
   else
   (W3 F e732.2).bind fun o734=>
   if (!o734)=true then
    some (.inr (.inl (false,s.2.2.2.1,s.2.2.2.2)))
   else
   some (.inl (s.1,s.2.1,wi (s.2.2.1+1),s.2.2.2.1,Zyf s.2.2.2.2 e732.1 true))) (
   if (decide (e732.1.2 < 0))=true then
    some (.inr (.inl (false,s.2.2.2.1,s.2.2.2.2)))
   else
   if (decide (e732.1.2 ≥ 64))=true then
    some (.inr (.inl (false,s.2.2.2.1,s.2.2.2.2)))
   else
   (W3 F e732.2).bind fun o735=>
   if (!o735)=true then
    some (.inr (.inl (false,s.2.2.2.1,s.2.2.2.2)))
   else
   some (.inl (s.1,s.2.1,wi (s.2.2.1+1),s.2.2.2.1,Zyf s.2.2.2.2 e732.1 true)))
 else
 some (.inr (.inr (s.2.2.2.1,s.2.2.2.2)))
def Zqv:Lp:=⟨[(1,.ref 0 []),(3,.mp 1),(33,.v (.sl yIn)),(34,.v (.int .i64)),(35,.v (.int .i64))],[.var (.v yTx) true,.map 144 X9 .bool],[(.sl yIn),(.int .i64),(.int .i64),yTx,(ZqK X9 .bool)],[⟨.ret,[(2,.v .bool)],[.var (.v yTx) true,.map 144 X9 .bool],[.bool,yTx,(ZqK X9 .bool)]⟩,⟨.exit 0,[(1,.ref 0 [])],[.var (.v yTx) true,.map 144 X9 .bool],[yTx,(ZqK X9 .bool)]⟩],Zd (Xx fuel) fuel⟩
theorem ZtD:Zqv.Ok yb (Zp yb 15) (Zo yb 15 0):=Zk (fi:={ hi:={ still:=[2,57,73,75,83]},lp:=[]}) (specs:={ l:=[ZoJ]}) (okS ⟨ZuL,trivial⟩) trivial (by kernel_rfl) (fun v=>by kernel_rfl)
def W4 (F:Nat) (s:(Int×(List Out)×Int×Int×Tx×(List (Xs×Bool)))):Option ((Int×(List Out)×Int×Int×Tx×(List (Xs×Bool)))⊕((Bool×Tx×(List (Xs×Bool)))⊕(Tx×(List (Xs×Bool))))):=
 if (decide (s.2.2.2.1 < s.2.2.1))=true then
  (idx s.2.1 s.2.2.2.1).bind fun e739=>
  (ZhV F s.1 e739.1).bind fun o740=>
  if (!o740.2)=true then
   some (.inr (.inl (false,s.2.2.2.2.1,s.2.2.2.2.2)))
  else
  (QE F e739.2).bind fun o741=>
  if (!o741)=true then
   some (.inr (.inl (false,s.2.2.2.2.1,s.2.2.2.2.2)))
  else
  some (.inl (o740.1,s.2.1,s.2.2.1,wi (s.2.2.2.1+1),s.2.2.2.2.1,s.2.2.2.2.2))
 else
 some (.inr (.inr (s.2.2.2.2.1,s.2.2.2.2.2)))
def Zqw:Lp:=⟨[(6,.v (.int .i64)),(66,.v (.sl VM)),(67,.v (.int .i64)),(68,.v (.int .i64))],[.var (.v yTx) true,.map 144 X9 .bool],[(.int .i64),(.sl VM),(.int .i64),(.int .i64),yTx,(ZqK X9 .bool)],[⟨.ret,[(2,.v .bool)],[.var (.v yTx) true,.map 144 X9 .bool],[.bool,yTx,(ZqK X9 .bool)]⟩,⟨.exit 2,[],[.var (.v yTx) true,.map 144 X9 .bool],[yTx,(ZqK X9 .bool)]⟩],Zd (W4 fuel) fuel⟩
theorem ZtE:Zqw.Ok yb (Zp yb 15) (Zo yb 15 1):=Zk (fi:={ hi:={ still:=[2,57,73,75,83]},lp:=[]}) (specs:={ l:=[Zpm,Zbt]}) (okS ⟨Zs9,ZcN,trivial⟩) trivial (by kernel_rfl) (fun v=>by kernel_rfl)
def Q3 (F:Nat) (a0:Tx):Option (Bool):=
 if (decide ((a0.1.length:Int) < 1))=true then
  some false
 else
 if (decide ((a0.1.length:Int) > 64))=true then
  some false
 else
 if (decide ((a0.2.1.length:Int) > 64))=true then
  some false
 else
 if (decide (a0.2.2 < 0))=true then
  some false
 else
 (Zd (Xx F) F (a0.1,(a0.1.length:Int),(0:Int),a0,([]:List (Xs×Bool)))).bind fun o736=>
 match o736 with
 |.inl o737=>
  some o737.1
 |.inr o738=>
  (Zd (W4 F) F ((0:Int),o738.1.2.1,(o738.1.2.1.length:Int),(0:Int),o738.1,o738.2)).bind fun o742=>
  match o742 with
  |.inl o743=>
   some o743.1
  |.inr o744=>
   some true
def Zzz (F:Nat):Fs yb:=⟨15,[.v yTx],[],[yTx],[⟨.ret,[(0,.v .bool)],[],[.bool]⟩],fun x=>Q3 F x⟩
def Znt:Fs yb:=Zzz fuel
theorem Zqx:Znt.Ok:=Zg (fi:={ hi:={ still:=[2,57,73,75,83]},lp:=[(0,Zqv),(1,Zqw)]}) (specs:={ l:=[]}) (okS trivial) ⟨ZtD,ZtE,trivial⟩ (by decide+kernel) (fun x=>by kernel_rfl)
def Wr (F:Nat) (a0:(List UInt8)) (a1:(List UInt8)):Option ((List UInt8)):=
 (Zax F a0 a1).bind fun o745=>
 some o745
def Zq2 (F:Nat):Fs yb:=⟨145,[.v (.sl .u8),.v (.arr 32 .u8)],[],[(.sl .u8),(.arr 32 .u8)],[⟨.ret,[(0,.v (.sl .u8))],[],[(.sl .u8)]⟩],fun x=>Wr F x.1 x.2⟩
def Zk8:Fs yb:=Zq2 fuel
theorem Zq3:Zk8.Ok:=Zg (fi:={ hi:={ still:=[4,5,6],frz:=[6]},lp:=[]}) (specs:={ l:=[ZgM]}) (okS ⟨ZiT,trivial⟩) trivial (by decide+kernel) (fun x=>by kernel_rfl)
def X1 (F:Nat) (a0:(List UInt8)) (a1:(List UInt8)):Option ((List UInt8)):=
 (Zh3 F (a1.length:Int)).bind fun o746=>
 (YR F ([a0,o746,a1]:List (List UInt8))).bind fun o747=>
 some o747
def ZpK (F:Nat):Fs yb:=⟨146,[.v (.sl .u8),.v (.sl .u8)],[],[(.sl .u8),(.sl .u8)],[⟨.ret,[(0,.v (.sl .u8))],[],[(.sl .u8)]⟩],fun x=>X1 F x.1 x.2⟩
def Zjq:Fs yb:=ZpK fuel
theorem ZpL:Zjq.Ok:=Zg (fi:={ hi:={ still:=[4,7,10]},lp:=[]}) (specs:={ l:=[Znl,WH]}) (okS ⟨Zqu,QH,trivial⟩) trivial (by decide+kernel) (fun x=>by kernel_rfl)
def W5 (F:Nat) (s:((List UInt8)×(List In)×Int×Int×Tx)):Option (((List UInt8)×(List In)×Int×Int×Tx)⊕((List UInt8)×Tx)):=
 if (decide (s.2.2.2.1 < s.2.2.1))=true then
  (idx s.2.1 s.2.2.2.1).bind fun e749=>
  (Wr F s.1 e749.1.1).bind fun o750=>
  (WJ F o750 e749.1.2).bind fun o751=>
  some (.inl (o751,s.2.1,s.2.2.1,wi (s.2.2.2.1+1),s.2.2.2.2))
 else
 some (.inr (s.1,s.2.2.2.2))
def Zqy:Lp:=⟨[(1,.ref 0 []),(3,.v (.sl .u8)),(13,.v (.sl yIn)),(14,.v (.int .i64)),(15,.v (.int .i64))],[.var (.v yTx) true],[(.sl .u8),(.sl yIn),(.int .i64),(.int .i64),yTx],[⟨.exit 0,[(1,.ref 0 []),(3,.v (.sl .u8))],[.var (.v yTx) true],[(.sl .u8),yTx]⟩],Zd (W5 fuel) fuel⟩
theorem ZtF:Zqy.Ok yb (Zp yb 81) (Zo yb 81 0):=Zk (fi:={ hi:={ still:=[2,10,19,22,23,26,29,32,41,43,44,46,47,50,52]},lp:=[]}) (specs:={ l:=[Zk8,Zcm]}) (okS ⟨Zq3,Zdm,trivial⟩) trivial (by kernel_rfl) (fun v=>by kernel_rfl)
def W6 (F:Nat) (s:((List UInt8)×(List Out)×Int×Int×Tx)):Option (((List UInt8)×(List Out)×Int×Int×Tx)⊕((List UInt8)×Tx)):=
 if (decide (s.2.2.2.1 < s.2.2.1))=true then
  (idx s.2.1 s.2.2.2.1).bind fun e754=>
  (WJ F s.1 e754.1).bind fun o755=>
  (Zdn F e754.2).bind fun o756=>
  (X1 F o755 o756).bind fun o757=>
  some (.inl (o757,s.2.1,s.2.2.1,wi (s.2.2.2.1+1),s.2.2.2.2))
 else
 some (.inr (s.1,s.2.2.2.2))
def Zqz:Lp:=⟨[(1,.ref 0 []),(3,.v (.sl .u8)),(35,.v (.sl VM)),(36,.v (.int .i64)),(37,.v (.int .i64))],[.var (.v yTx) true],[(.sl .u8),(.sl VM),(.int .i64),(.int .i64),yTx],[⟨.exit 2,[(1,.ref 0 []),(3,.v (.sl .u8))],[.var (.v yTx) true],[(.sl .u8),yTx]⟩],Zd (W6 fuel) fuel⟩
theorem ZtG:Zqz.Ok yb (Zp yb 81) (Zo yb 81 1):=Zk (fi:={ hi:={ still:=[2,10,19,22,23,26,29,32,41,43,44,46,47,50,52]},lp:=[]}) (specs:={ l:=[Zcm,ZiU,Zjq]}) (okS ⟨Zdm,ZmI,ZpL,trivial⟩) trivial (by kernel_rfl) (fun v=>by kernel_rfl)
def ZaL (F:Nat) (a0:Tx):Option ((List UInt8)):=
 (WJ F ([]:List UInt8) (a0.1.length:Int)).bind fun o748=>
 (Zd (W5 F) F (o748,a0.1,(a0.1.length:Int),(0:Int),a0)).bind fun o752=>
 (WJ F o752.1 (o752.2.2.1.length:Int)).bind fun o753=>
 (Zd (W6 F) F (o753,o752.2.2.1,(o752.2.2.1.length:Int),(0:Int),o752.2)).bind fun o758=>
 (WJ F o758.1 o758.2.2.2).bind fun o759=>
 some o759
def ZzA (F:Nat):Fs yb:=⟨81,[.v yTx],[],[yTx],[⟨.ret,[(0,.v (.sl .u8))],[],[(.sl .u8)]⟩],fun x=>ZaL F x⟩
def ZtH:Fs yb:=ZzA fuel
theorem ZzB:ZtH.Ok:=Zg (fi:={ hi:={ still:=[2,10,19,22,23,26,29,32,41,43,44,46,47,50,52]},lp:=[(0,Zqy),(1,Zqz)]}) (specs:={ l:=[Zcm]}) (okS ⟨Zdm,trivial⟩) ⟨ZtF,ZtG,trivial⟩ (by decide+kernel) (fun x=>by kernel_rfl)
def ZtI:ByteArray:=⟨#[116,120]⟩
def QJ (F:Nat) (a0:Tx):Option ((List UInt8)):=
 (Q3 F a0).bind fun o760=>
 if (!o760)=true then
  some ([0,0,0,0,0,0,0,0,0,0,0,0,0,0,0,0,0,0,0,0,0,0,0,0,0,0,0,0,0,0,0,0]:List UInt8)
 else
 (ZaL F a0).bind fun o761=>
 (Vp F ZtI ([o761]:List (List UInt8))).bind fun o762=>
 some o762
def ZtJ (F:Nat):Fs yb:=⟨25,[.v yTx],[],[yTx],[⟨.ret,[(0,.v (.arr 32 .u8))],[],[(.arr 32 .u8)]⟩],fun x=>QJ F x⟩
def ZlN:Fs yb:=ZtJ fuel
theorem Zh5:ZlN.Ok:=Zg (fi:={ hi:={ still:=[3,7,9]},lp:=[]}) (specs:={ l:=[Znt,ZtH,Zck]}) (okS ⟨Zqx,ZzB,Zdj,trivial⟩) trivial (by decide+kernel) (fun x=>by kernel_rfl)
def YW (F:Nat) (a0:UInt64):Option (Bool):=
 some (decide (a0 < 2305843009213688669))
def ZtK (F:Nat):Fs yb:=⟨147,[.v .u64],[],[.u64],[⟨.ret,[(0,.v .bool)],[],[.bool]⟩],fun x=>YW F x⟩
def Zhm:Fs yb:=ZtK fuel
theorem Zk9:Zhm.Ok:=Zg (fi:={ hi:={ still:=[2]},lp:=[]}) (specs:={ l:=[]}) (okS trivial) trivial (by decide+kernel) (fun x=>by kernel_rfl)
def ZaM (F:Nat) (a0:UInt64):Option (Bool):=
 (YW F a0).bind fun o763=>
 if o763=true then
  some (a0 !=0)
 else
 some false
def ZzC (F:Nat):Fs yb:=⟨134,[.v .u64],[],[.u64],[⟨.ret,[(0,.v .bool)],[],[.bool]⟩],fun x=>ZaM F x⟩
def ZtL:Fs yb:=ZzC fuel
theorem ZzD:ZtL.Ok:=Zg (fi:={ hi:={ still:=[2,3]},lp:=[]}) (specs:={ l:=[Zhm]}) (okS ⟨Zk9,trivial⟩) trivial (by decide+kernel) (fun x=>by kernel_rfl)
def Vq (F:Nat) (a0:UInt64):Option (UInt64):=
 some (a0 % 2305843009213688669)
def ZzE (F:Nat):Fs yb:=⟨152,[.v .u64],[],[.u64],[⟨.ret,[(0,.v .u64)],[],[.u64]⟩],fun x=>Vq F x⟩
def Znu:Fs yb:=ZzE fuel
theorem ZqA:Znu.Ok:=Zg (fi:={ hi:={ still:=[2]},lp:=[]}) (specs:={ l:=[]}) (okS trivial) trivial (by decide+kernel) (fun x=>by kernel_rfl)
def VT (F:Nat) (a0:UInt64) (a1:UInt64):Option (UInt64):=
 some ((a0+a1) % 2305843009213688669)
def ZoK (F:Nat):Fs yb:=⟨153,[.v .u64,.v .u64],[],[.u64,.u64],[⟨.ret,[(0,.v .u64)],[],[.u64]⟩],fun x=>VT F x.1 x.2⟩
def Zh6:Fs yb:=ZoK fuel
theorem ZoL:Zh6.Ok:=Zg (fi:={ hi:={ still:=[4]},lp:=[]}) (specs:={ l:=[]}) (okS trivial) trivial (by decide+kernel) (fun x=>by kernel_rfl)
def WC (F:Nat) (a0:UInt64) (a1:UInt64):Option (UInt64):=
 (Vq F a0).bind fun o764=>
 (Vq F a1).bind fun o765=>
 (VT F o764 o765).bind fun o766=>
 some o766
def Zxx (F:Nat):Fs yb:=⟨84,[.v .u64,.v .u64],[],[.u64,.u64],[⟨.ret,[(0,.v .u64)],[],[.u64]⟩],fun x=>WC F x.1 x.2⟩
def Zdo:Fs yb:=Zxx fuel
theorem Zex:Zdo.Ok:=Zg (fi:={ hi:={ still:=[4,5,6,7,8]},lp:=[]}) (specs:={ l:=[Znu,Zh6]}) (okS ⟨ZqA,ZoL,trivial⟩) trivial (by decide+kernel) (fun x=>by kernel_rfl)
def Vr (F:Nat) (a0:UInt64) (a1:UInt64):Option (UInt64):=
 (Qw F a0 a1).bind fun o767=>
 (X0 F o767.1 o767.2 (2305843009213688669:UInt64)).bind fun o768=>
 some o768
def Znv (F:Nat):Fs yb:=⟨155,[.v .u64,.v .u64],[],[.u64,.u64],[⟨.ret,[(0,.v .u64)],[],[.u64]⟩],fun x=>Vr F x.1 x.2⟩
def ZgP:Fs yb:=Znv fuel
theorem Znw:ZgP.Ok:=Zg (fi:={ hi:={ still:=[4,8,9,13,14]},lp:=[]}) (specs:={ l:=[ZiN,Zek]}) (okS ⟨Zmt,Zha,trivial⟩) trivial (by decide+kernel) (fun x=>by kernel_rfl)
def Vb (F:Nat) (a0:UInt64) (a1:UInt64):Option (UInt64):=
 (Vq F a0).bind fun o769=>
 (Vq F a1).bind fun o770=>
 (Vr F o769 o770).bind fun o771=>
 some o771
def Zxy (F:Nat):Fs yb:=⟨86,[.v .u64,.v .u64],[],[.u64,.u64],[⟨.ret,[(0,.v .u64)],[],[.u64]⟩],fun x=>Vb F x.1 x.2⟩
def Zla:Fs yb:=Zxy fuel
theorem ZoM:Zla.Ok:=Zg (fi:={ hi:={ still:=[4,5,6,7,8]},lp:=[]}) (specs:={ l:=[Znu,ZgP]}) (okS ⟨ZqA,Znw,trivial⟩) trivial (by decide+kernel) (fun x=>by kernel_rfl)
end
end Go.Proofs.YtjbbdlffilcaaaaGreat
end
