/- Parts of the proof, in one file. -/
import Derived.Test.YtmkgbalfkhaflaaGreatKe
open Bool renaming and_eq_true → yg
open Go.Proofs.Tryz renaming prog → ya
open Int renaming toNat_natCast → ybq
open List renaming length_append → yl, replicate → yr, length_map → yu, getElem?_eq_getElem → yw, map_cons → yx, length_cons → yz, length_take → yab, getElem?_map → yac, append_assoc → yae, getElem?_cons_succ → yaj, getElem?_eq_none → yam, map_append → yan, getElem?_cons_zero → yaq, length_set → yav, take_append_drop → ybf, ext_getElem? → ybk, length_drop → ybn, map_take → ybv, mem_cons → yby, getElem?_set_self → ycc, length_replicate → yci, getD_eq_getElem?_getD → ycn, getElem?_set_ne → ycr
open Nat renaming add → yn, shiftRight → yaa, mod_eq_of_lt → yai, zero_add → yax, mod_lt → ybd, mul_comm → ybe, two_pow_add_eq_or_of_lt → yco, shiftRight_eq_div_pow → yct
open Option renaming bind_some → yb
open UInt32 renaming toNat → yag, ofNat → ybh, toNat_ofNat' → ych
open UInt64 renaming ofNat → yaf, toNat_ofNat' → ybc, toNat_lt → ybg, lt_iff_toNat_lt → ybs
open UInt8 renaming toNat → yad, ofNat → yal
set_option linter.unusedVariables false
set_option linter.unusedSimpArgs false
section
set_option maxRecDepth 4000
namespace Go.Proofs.YtmkgbalfkhaflaaGreat
open Go Go.Ev
noncomputable section
def QN (F:Nat) (a0:Lock):Option ((List UInt8)):=
 (YC F a0).bind fun o159=>
 if (!o159)=true then
  some ([]:List UInt8)
 else
 (X3 F ([]:List UInt8) (a0.length:Int)).bind fun o160=>
 (Zc (Zaj F) F (o160,a0,(a0.length:Int),(0:Int),a0)).bind fun o169=>
 some o169.1
def Zfr (F:Nat):Fs ya:=⟨49,[.v ZK],[],[ZK],[⟨.ret,[(0,.v (.sl .u8))],[],[(.sl .u8)]⟩],fun x=>QN F x⟩
def Zde:Fs ya:=Zfr fuel
theorem Zbu:Zde.Ok:=Ze (fi:={ hi:={ still:=[2,8,13,22,25,34,35,38,40,41,43,44,46]},lp:=[(0,Zlp)]}) (specs:={ l:=[V3,Zbc]}) (okS ⟨Ve,ZbO,trivial⟩) ⟨ZoN,trivial⟩ (by decide+kernel) (fun x=>by kernel_rfl)
def ZV (F:Nat) (a0:(List UInt8)):Option ((List UInt8)):=
 if (apB 0 a0.length 1)=true then
  some a0
 else
 none
def X1 (F:Nat):Fs ya:=⟨149,[.sl true .u8],[],[(.sl .u8)],[⟨.ret,[(0,.v (.sl .u8))],[],[(.sl .u8)]⟩],fun x=>ZV F x⟩
def Zfs:Fs ya:=X1 fuel
theorem V9:Zfs.Ok:=Ze (fi:={ hi:={ own:=[5,7],still:=[2]},lp:=[]}) (specs:={ l:=[]}) (okS trivial) trivial (by decide+kernel) (fun x=>by kernel_rfl)
def VP (F:Nat):Option ((List UInt8)):=
 some ([]:List UInt8)
def Zcm (F:Nat):Fs ya:=⟨149,[.nil .u8],[],[],[⟨.ret,[(0,.v (.sl .u8))],[],[(.sl .u8)]⟩],fun x=>VP F⟩
def Zdf:Fs ya:=Zcm fuel
theorem Zcn:Zdf.Ok:=Ze (fi:={ hi:={ own:=[5,7],still:=[2]},lp:=[]}) (specs:={ l:=[]}) (okS trivial) trivial (by decide+kernel) (fun x=>by kernel_rfl)
def Zdg (F:Nat):Fs ya:=⟨149,[.v (.sl .u8)],[],[(.sl .u8)],[⟨.ret,[(0,.v (.sl .u8))],[],[(.sl .u8)]⟩],fun x=>ZV F x⟩
def XS:Fs ya:=Zdg fuel
theorem Vp:XS.Ok:=Zsl (t:=.u8) (xs:=[⟨.ret,[(0,.v (.sl .u8))],[],[(.sl .u8)]⟩]) (MA:=fun (x:(List UInt8))=>ZV fuel x) (MB:=fun _=>VP fuel) V9 Zcn rfl
abbrev Zn:Ty:=(.st [(.sl .u8),.bool])
abbrev Zr:Type:=((List UInt8)×Bool)
abbrev Zr.b (x:Zr):(List UInt8):=x.1
abbrev Zr.no (x:Zr):Bool:=x.2
def ZgV (F:Nat) (a0:(List UInt8)):Option (Zr):=
 (ZV F a0).bind fun o170=>
 some (o170,false)
def Zxj (F:Nat):Fs ya:=⟨106,[.v (.sl .u8)],[],[(.sl .u8)],[⟨.ret,[(0,.ref 0 [])],[.var (.v Zn) true],[Zn]⟩],fun x=>ZgV F x⟩
def ZpL:Fs ya:=Zxj fuel
theorem Zxk:ZpL.Ok:=Ze (fi:={ hi:={ still:=[2,3]},lp:=[]}) (specs:={ l:=[XS]}) (okS ⟨Vp,trivial⟩) trivial (by decide+kernel) (fun x=>by kernel_rfl)
def YT (F:Nat) (s:((List UInt8)×(List UInt8)×Int×Int)):Option (((List UInt8)×(List UInt8)×Int×Int)⊕(Bool⊕Unit)):=
 if (decide (s.2.2.2 < s.2.2.1))=true then
  (idx s.1 s.2.2.2).bind fun e171=>
  (idx s.2.1 s.2.2.2).bind fun e172=>
  if (e171 !=e172)=true then
   some (.inr (.inl false))
  else
  some (.inl (s.1,s.2.1,s.2.2.1,wi (s.2.2.2+1)))
 else
 some (.inr (.inr ()))
def Qa:Lp:=⟨[(0,.v (.sl .u8)),(1,.v (.sl .u8)),(12,.v (.int .i64)),(13,.v (.int .i64))],[],[(.sl .u8),(.sl .u8),(.int .i64),(.int .i64)],[⟨.ret,[(4,.v .bool)],[],[.bool]⟩,⟨.exit 0,[],[],[]⟩],Zc (YT fuel) fuel⟩
theorem Zco:Qa.Ok ya (Zl ya 109) (Zk ya 109 0):=Zg (fi:={ hi:={ still:=[4]},lp:=[]}) (specs:={ l:=[]}) (okS trivial) trivial (by kernel_rfl) (fun v=>by kernel_rfl)
def Xu (F:Nat) (a0:(List UInt8)) (a1:(List UInt8)):Option (Bool):=
 if ((a0.length:Int)!=(a1.length:Int))=true then
  some false
 else
 (Zc (YT F) F (a0,a1,(a0.length:Int),(0:Int))).bind fun o173=>
 match o173 with
 |.inl o174=>
  some o174
 |.inr o175=>
  some true
def X2 (F:Nat):Fs ya:=⟨109,[.v (.sl .u8),.v (.sl .u8)],[],[(.sl .u8),(.sl .u8)],[⟨.ret,[(0,.v .bool)],[],[.bool]⟩],fun x=>Xu F x.1 x.2⟩
def Qj:Fs ya:=X2 fuel
theorem Qb:Qj.Ok:=Ze (fi:={ hi:={ still:=[4]},lp:=[(0,Qa)]}) (specs:={ l:=[]}) (okS trivial) ⟨Zco,trivial⟩ (by decide+kernel) (fun x=>by kernel_rfl)
def Xh (F:Nat) (s0:Int) (s2:Zr):Option ((Bool×Int×Zr)):=
 if (decide (s0 ≥ (s2.1.length:Int)))=true then
  some (true,s0,s2)
 else
 if (decide (s0 > 8))=true then
  some (true,s0,s2)
 else
 if (decide (s0 > 0))=true then
  (idx s2.1 s0).bind fun e177=>
  some (e177==0,s0,s2)
 else
 some (false,s0,s2)
def Zi7 (F:Nat):Fs ya:=⟨150,[.ref 0 [],.ref 1 []],[.var (.v (.int .i64)) true,.var (.ref 2 []) true,.var (.v Zn) true],[(.int .i64),Zn],[⟨.ret,[(0,.v .bool)],[.var (.v (.int .i64)) true,.var (.ref 2 []) true,.var (.v Zn) true],[.bool,(.int .i64),Zn]⟩],fun x=>Xh F x.1 x.2⟩
def ZcF:Fs ya:=Zi7 fuel
theorem Zi8:ZcF.Ok:=Ze (fi:={ hi:={ still:=[2]},lp:=[]}) (specs:={ l:=[]}) (okS trivial) trivial (by decide+kernel) (fun x=>by kernel_rfl)
def Wc (F:Nat) (s0:Zr):Option (Zr):=
 some (([]:List UInt8),true)
def ZkD (F:Nat):Fs ya:=⟨151,[.ref 0 []],[.var (.v Zn) true],[Zn],[⟨.ret,[(0,.tup [])],[.var (.v Zn) true],[Zn]⟩],fun x=>Wc F x⟩
def QB:Fs ya:=ZkD fuel
theorem ZcG:QB.Ok:=Ze (fi:={ hi:={},lp:=[]}) (specs:={ l:=[]}) (okS trivial) trivial (by decide+kernel) (fun x=>by kernel_rfl)
def XD (F:Nat) (s:(Int×Zr×Int)):Option ((Int×Zr×Int)⊕((Int×Zr×Int)⊕(Int×Zr×Int))):=
 (Xh F s.2.2 s.2.1).bind fun o178=>
 if o178.1=true then
  (Wc F o178.2.2).bind fun o179=>
  some (.inr (.inl ((0:Int),o179,o178.2.1)))
 else
 (idx o178.2.2.1 o178.2.1).bind fun e180=>
 if (decide (0≤wi (7*o178.2.1)))=true then
  let y181:Int:=wi (((e180 % 128).toNat:Int)*2 ^ (min (wi (7*o178.2.1)).toNat 64))
  if (decide (e180 < 128))=true then
   some (.inr (.inr (bits .or .i64 s.1 y181,o178.2.2,wi (o178.2.1+1))))
  else
  some (.inl (bits .or .i64 s.1 y181,o178.2.2,wi (o178.2.1+1)))
 else
 none
def Zd0:Lp:=⟨[(1,.ref 1 []),(3,.v (.int .i64)),(4,.ref 2 []),(5,.fn 150 [.ref 2 [],.ref 1 []])],[.var (.v Zn) true,.var (.ref 0 []) true,.var (.v (.int .i64)) true],[(.int .i64),Zn,(.int .i64)],[⟨.ret,[(2,.v (.int .i64))],[.var (.v Zn) true,.var (.ref 0 []) true,.var (.v (.int .i64)) true],[(.int .i64),Zn,(.int .i64)]⟩,⟨.exit 0,[(1,.ref 1 []),(3,.v (.int .i64)),(4,.ref 2 [])],[.var (.v Zn) true,.var (.ref 0 []) true,.var (.v (.int .i64)) true],[(.int .i64),Zn,(.int .i64)]⟩],Zc (XD fuel) fuel⟩
theorem Zh6:Zd0.Ok ya (Zl ya 107) (Zk ya 107 0):=Zg (fi:={ hi:={ still:=[2,10]},lp:=[]}) (specs:={ l:=[ZcF,QB]}) (okS ⟨Zi8,ZcG,trivial⟩) trivial (by kernel_rfl) (fun v=>by kernel_rfl)
def Xi (F:Nat) (s0:Zr):Option ((Int×Zr)):=
 (Zc (XD F) F ((0:Int),s0,(0:Int))).bind fun o182=>
 match o182 with
 |.inl o183=>
  some (o183.1,o183.2.1)
 |.inr o184=>
  if (QS o184.2.1.1.length (some o184.2.2) none)=true then
   some (o184.1,(o184.2.1.1.drop o184.2.2.toNat,o184.2.1.2))
  else
  none
def Zl5 (F:Nat):Fs ya:=⟨107,[.ref 0 []],[.var (.v Zn) true],[Zn],[⟨.ret,[(0,.v (.int .i64))],[.var (.v Zn) true],[(.int .i64),Zn]⟩],fun x=>Xi F x⟩
def Zak:Fs ya:=Zl5 fuel
theorem Zd1:Zak.Ok:=Ze (fi:={ hi:={ still:=[2,10]},lp:=[(0,Zd0)]}) (specs:={ l:=[]}) (okS trivial) ⟨Zh6,trivial⟩ (by decide+kernel) (fun x=>by kernel_rfl)
def Vq (F:Nat) (a1:Int) (s0:Zr):Option (((List UInt8)×Zr)):=
 if s0.2=true then
  (Wc F s0).bind fun o187=>
  some (([]:List UInt8),o187)
 else
 if (decide (a1 > (s0.1.length:Int)))=true then
  (Wc F s0).bind fun o188=>
  some (([]:List UInt8),o188)
 else
 if (QS s0.1.length none (some a1))=true then
  (ZV F (s0.1.take a1.toNat)).bind fun o189=>
  if (QS s0.1.length (some a1) none)=true then
   some (o189,(s0.1.drop a1.toNat,s0.2))
  else
  none
 else
 none
def ZkE (F:Nat):Fs ya:=⟨152,[.ref 0 [],.v (.int .i64)],[.var (.v Zn) true],[(.int .i64),Zn],[⟨.ret,[(0,.v (.sl .u8))],[.var (.v Zn) true],[(.sl .u8),Zn]⟩],fun x=>Vq F x.1 x.2⟩
def Zd2:Fs ya:=ZkE fuel
theorem ZkF:Zd2.Ok:=Ze (fi:={ hi:={ still:=[4,19,26]},lp:=[]}) (specs:={ l:=[QB,XS]}) (okS ⟨ZcG,Vp,trivial⟩) trivial (by decide+kernel) (fun x=>by kernel_rfl)
def Ws (F:Nat) (s:(UInt64×(List UInt8)×Int×Int×Zr)):Option ((UInt64×(List UInt8)×Int×Int×Zr)⊕(UInt64×Zr)):=
 if (decide (s.2.2.2.1 < s.2.2.1))=true then
  (idx s.2.1 s.2.2.2.1).bind fun e191=>
  some (.inl ((Vm s.1 8)|||(yaf e191.toNat),s.2.1,s.2.2.1,wi (s.2.2.2.1+1),s.2.2.2.2))
 else
 some (.inr (s.1,s.2.2.2.2))
def Zd3:Lp:=⟨[(3,.v .u64),(7,.v (.sl .u8)),(8,.v (.int .i64)),(9,.v (.int .i64))],[.var (.v Zn) true],[.u64,(.sl .u8),(.int .i64),(.int .i64),Zn],[⟨.exit 0,[(3,.v .u64)],[.var (.v Zn) true],[.u64,Zn]⟩],Zc (Ws fuel) fuel⟩
theorem Zh7:Zd3.Ok ya (Zl ya 108) (Zk ya 108 0):=Zg (fi:={ hi:={ still:=[2,6]},lp:=[]}) (specs:={ l:=[]}) (okS trivial) trivial (by kernel_rfl) (fun v=>by kernel_rfl)
def WG (F:Nat) (s0:Zr):Option ((UInt64×Zr)):=
 (Vq F (8:Int) s0).bind fun o190=>
 (Zc (Ws F) F ((0:UInt64),o190.1,(o190.1.length:Int),(0:Int),o190.2)).bind fun o192=>
 some (o192.1,o192.2)
def Zl6 (F:Nat):Fs ya:=⟨108,[.ref 0 []],[.var (.v Zn) true],[Zn],[⟨.ret,[(0,.v .u64)],[.var (.v Zn) true],[.u64,Zn]⟩],fun x=>WG F x⟩
def Zal:Fs ya:=Zl6 fuel
theorem Zd4:Zal.Ok:=Ze (fi:={ hi:={ still:=[2,6]},lp:=[(0,Zd3)]}) (specs:={ l:=[Zd2]}) (okS ⟨ZkF,trivial⟩) ⟨Zh7,trivial⟩ (by decide+kernel) (fun x=>by kernel_rfl)
def Qk (F:Nat) (s:((List UInt8)×Int×Int×Int×Int×Lock×Zr×(List ZO)×Int×Int×UInt64×(List UInt64))):Option (((List UInt8)×Int×Int×Int×Int×Lock×Zr×(List ZO)×Int×Int×UInt64×(List UInt64))⊕((List UInt8)×Int×Int×Lock×Zr×(List ZO)×Int×Int×UInt64×(List UInt64))):=
 if (decide (s.2.2.2.2.1 < s.2.2.2.1))=true then
  (WG F s.2.2.2.2.2.2.1).bind fun o207=>
  if (apB s.2.2.2.2.2.2.2.2.2.2.2.length 1 8)=true then
   let y208:(List UInt64):=s.2.2.2.2.2.2.2.2.2.2.2++([o207.1]:List UInt64)
   some (.inl (s.1,s.2.1,s.2.2.1,s.2.2.2.1,wi (s.2.2.2.2.1+1),s.2.2.2.2.2.1,o207.2,s.2.2.2.2.2.2.2.1,s.2.2.2.2.2.2.2.2.1,s.2.2.2.2.2.2.2.2.2.1,s.2.2.2.2.2.2.2.2.2.2.1,y208))
  else
  none
 else
 some (.inr (s.1,s.2.1,s.2.2.1,s.2.2.2.2.2.1,s.2.2.2.2.2.2.1,s.2.2.2.2.2.2.2.1,s.2.2.2.2.2.2.2.2.1,s.2.2.2.2.2.2.2.2.2.1,s.2.2.2.2.2.2.2.2.2.2.1,s.2.2.2.2.2.2.2.2.2.2.2))
def Zni:Lp:=⟨[(0,.v (.sl .u8)),(2,.ref 0 []),(4,.ref 1 []),(5,.ref 2 []),(6,.v (.int .i64)),(7,.v (.int .i64)),(8,.ref 4 []),(27,.v (.int .i64)),(28,.v (.int .i64))],[.var (.v ZK) true,.var (.v Zn) true,.var (.agg [.own 3 Zw]) true,.log Zw 126,.var (.agg [.own 5 .u64,.v (.int .i64),.v (.int .i64),.v .u64]) true,.log .u64 37],[(.sl .u8),(.int .i64),(.int .i64),(.int .i64),(.int .i64),ZK,Zn,(.sl Zw),(.int .i64),(.int .i64),.u64,(.sl .u64)],[⟨.exit 2,[(0,.v (.sl .u8)),(2,.ref 0 []),(4,.ref 1 []),(5,.ref 2 []),(6,.v (.int .i64)),(7,.v (.int .i64)),(8,.ref 4 [])],[.var (.v ZK) true,.var (.v Zn) true,.var (.agg [.own 3 Zw]) true,.log Zw 126,.var (.agg [.own 5 .u64,.v (.int .i64),.v (.int .i64),.v .u64]) true,.log .u64 37],[(.sl .u8),(.int .i64),(.int .i64),ZK,Zn,(.sl Zw),(.int .i64),(.int .i64),.u64,(.sl .u64)]⟩],Zc (Qk fuel) fuel⟩
theorem Zqq:Zni.Ok ya (Zl ya 51) (Zk ya 51 1):=Zg (fi:={ hi:={ own:=[31,35,48,51],still:=[3,10,12,19,32,38,40,44,53,57,58,59],ghost:=[(5,[([0],Zw,126)]),(8,[([0],.u64,37)])]},lp:=[]}) (specs:={ l:=[Zal]}) (okS ⟨Zd4,trivial⟩) trivial (by kernel_rfl) (fun v=>by kernel_rfl)
def Zbv (F:Nat) (s:((List UInt8)×Int×Int×Lock×Zr×(List ZO))):Option (((List UInt8)×Int×Int×Lock×Zr×(List ZO))⊕((List UInt8)×Lock×Zr×(List ZO))):=
 if (decide (s.2.2.1 < s.2.1))=true then
  (Xi F s.2.2.2.2.1).bind fun o206=>
  if (s.2.2.1==4)=true then
   some (.inr (s.1,s.2.2.2.1,o206.2,s.2.2.2.2.2))
  else
  if (decide (o206.1 > 12))=true then
   some (.inr (s.1,s.2.2.2.1,o206.2,s.2.2.2.2.2))
  else
  (Zc (Qk F) F (s.1,s.2.1,s.2.2.1,o206.1,(0:Int),s.2.2.2.1,o206.2,s.2.2.2.2.2,(0:Int),(0:Int),(0:UInt64),([]:List UInt64))).bind fun o209=>
  (Xi F o209.2.2.2.2.1).bind fun o210=>
  (Xi F o210.2).bind fun o211=>
  (WG F o211.2).bind fun o212=>
  if (apB o209.2.2.2.2.2.1.length 1 48)=true then
   let y213:(List ZO):=o209.2.2.2.2.2.1++([(o209.2.2.2.2.2.2.2.2.2,o210.1,o211.1,o212.1)]:List ZO)
   some (.inl (o209.1,o209.2.1,wi (o209.2.2.1+1),o209.2.2.2.1,o212.2,y213))
  else
  none
 else
 some (.inr (s.1,s.2.2.2.1,s.2.2.2.2.1,s.2.2.2.2.2))
def Znj:Lp:=⟨[(0,.v (.sl .u8)),(2,.ref 0 []),(4,.ref 1 []),(5,.ref 2 []),(6,.v (.int .i64)),(7,.v (.int .i64))],[.var (.v ZK) true,.var (.v Zn) true,.var (.agg [.own 3 Zw]) true,.log Zw 126],[(.sl .u8),(.int .i64),(.int .i64),ZK,Zn,(.sl Zw)],[⟨.exit 0,[(0,.v (.sl .u8)),(2,.ref 0 []),(5,.ref 2 [])],[.var (.v ZK) true,.var (.v Zn) true,.var (.agg [.own 3 Zw]) true,.log Zw 126],[(.sl .u8),ZK,Zn,(.sl Zw)]⟩],Zc (Zbv fuel) fuel⟩
theorem Zqr:Znj.Ok ya (Zl ya 51) (Zk ya 51 0):=Zg (fi:={ hi:={ own:=[31,35,48,51],still:=[3,10,12,19,32,38,40,44,53,57,58,59],ghost:=[(5,[([0],Zw,126)]),(8,[([0],.u64,37)])]},lp:=[(1,Zni)]}) (specs:={ l:=[Zak,Zal]}) (okS ⟨Zd1,Zd4,trivial⟩) ⟨Zqq,trivial⟩ (by kernel_rfl) (fun v=>by kernel_rfl)
def ZgW (F:Nat) (a0:(List UInt8)):Option ((Lock×Bool)):=
 (ZgV F a0).bind fun o204=>
 (Xi F o204).bind fun o205=>
 (Zc (Zbv F) F (a0,o205.1,(0:Int),([]:Lock),o205.2,([]:List ZO))).bind fun o214=>
 (YC F o214.2.2.2).bind fun o215=>
 if (!o215)=true then
  some (([]:Lock),false)
 else
 (QN F o214.2.2.2).bind fun o216=>
 (Xu F o216 o214.1).bind fun o217=>
 if (!o217)=true then
  some (([]:Lock),false)
 else
 some (o214.2.2.2,true)
def ZgX (F:Nat):Fs ya:=⟨51,[.v (.sl .u8)],[],[(.sl .u8)],[⟨.ret,[(0,.tup [.v ZK,.v .bool])],[],[ZK,.bool]⟩],fun x=>ZgW F x⟩
def ZpM:Fs ya:=ZgX fuel
theorem Znk:ZpM.Ok:=Ze (fi:={ hi:={ own:=[31,35,48,51],still:=[3,10,12,19,32,38,40,44,53,57,58,59],ghost:=[(5,[([0],Zw,126)]),(8,[([0],.u64,37)])]},lp:=[(0,Znj)]}) (specs:={ l:=[ZpL,Zak,V3,Zde,Qj]}) (okS ⟨Zxk,Zd1,Ve,Zbu,Qb,trivial⟩) ⟨Zqr,trivial⟩ (by decide+kernel) (fun x=>by kernel_rfl)
def Vf (F:Nat) (a0:Lock):Option (Lock):=
 (QN F a0).bind fun o218=>
 (ZgW F o218).bind fun o219=>
 some o219.1
def Zcp (F:Nat):Fs ya:=⟨41,[.v ZK],[],[ZK],[⟨.ret,[(0,.v ZK)],[],[ZK]⟩],fun x=>Vf F x⟩
def Zi9:Fs ya:=Zcp fuel
theorem ZhM:Zi9.Ok:=Ze (fi:={ hi:={ still:=[6,7]},lp:=[]}) (specs:={ l:=[Zde,ZpM]}) (okS ⟨Zbu,Znk,trivial⟩) trivial (by decide+kernel) (fun x=>by kernel_rfl)
def Qs (F:Nat) (a0:Out) (a1:Out):Option (Int):=
 some (wi (a0.1 - a1.1))
def Znl (F:Nat):Fs ya:=⟨55,[.v ZU,.v ZU],[],[ZU,ZU],[⟨.ret,[(0,.v (.int .i64))],[],[(.int .i64)]⟩],fun x=>Qs F x.1 x.2⟩
def Zf7:Fs ya:=Znl fuel
theorem Znm:Zf7.Ok:=Ze (fi:={ hi:={ still:=[4]},lp:=[]}) (specs:={ l:=[]}) (okS trivial) trivial (by decide+kernel) (fun x=>by kernel_rfl)
def Xx (F:Nat) (s:(Int×Int×Int×Int×(List Unit)×(List Out))):Option ((Int×Int×Int×Int×(List Unit)×(List Out))⊕(Int×Int×Int×(List Unit)×(List Out))):=
 if (decide (s.2.2.2.1 > s.1))=true then
  if (inB s.2.2.2.1 s.2.2.2.2.2.length)=true then
   (s.2.2.2.2.2[s.2.2.2.1.toNat]?).bind fun e242=>
   if (inB (wi (s.2.2.2.1 - 1)) s.2.2.2.2.2.length)=true then
    (s.2.2.2.2.2[(wi (s.2.2.2.1 - 1)).toNat]?).bind fun e243=>
    (Qs F e242 e243).bind fun o244=>
    if (decide (o244 < 0))=true then
     if (inB (wi (s.2.2.2.1 - 1)) s.2.2.2.2.2.length)=true then
      (s.2.2.2.2.2[(wi (s.2.2.2.1 - 1)).toNat]?).bind fun e245=>
      if (inB s.2.2.2.1 s.2.2.2.2.2.length)=true then
       (s.2.2.2.2.2[s.2.2.2.1.toNat]?).bind fun e246=>
       if (inB s.2.2.2.1 s.2.2.2.2.2.length)=true then
        (s.2.2.2.2.2[s.2.2.2.1.toNat]?).bind fun e247=>
        if (inB (wi (s.2.2.2.1 - 1)) ((s.2.2.2.2.2.set s.2.2.2.1.toNat e245).length))=true then
         ((s.2.2.2.2.2.set s.2.2.2.1.toNat e245)[(wi (s.2.2.2.1 - 1)).toNat]?).bind fun e248=>
         let y249:(List Out):=(s.2.2.2.2.2.set s.2.2.2.1.toNat e245).set ((wi (s.2.2.2.1 - 1)).toNat) e246
         some (.inl (s.1,s.2.1,s.2.2.1,wi (s.2.2.2.1 - 1),s.2.2.2.2.1,y249))
        else
        none
       else
       none
      else
      none
     else
     none
    else
    some (.inr (s.1,s.2.1,s.2.2.1,s.2.2.2.2.1,s.2.2.2.2.2))
   else
   none
  else
  none
 else
 some (.inr (s.1,s.2.1,s.2.2.1,s.2.2.2.2.1,s.2.2.2.2.2))
def Zja:Lp:=⟨[(0,.rw 0),(1,.v (.int .i64)),(2,.v (.int .i64)),(3,.fn 55 []),(8,.v (.int .i64)),(9,.v (.int .i64))],[.row ZU true 96],[(.int .i64),(.int .i64),(.int .i64),(.int .i64),(.sl (.st [])),(.sl ZU)],[⟨.exit 2,[(0,.rw 0),(1,.v (.int .i64)),(2,.v (.int .i64)),(3,.fn 55 []),(8,.v (.int .i64))],[.row ZU true 96],[(.int .i64),(.int .i64),(.int .i64),(.sl (.st [])),(.sl ZU)]⟩],Zc (Xx fuel) fuel⟩
theorem Znn:Zja.Ok ya (Zl ya 153) (Zk ya 153 1):=Zg (fi:={ hi:={ still:=[26,31],rowt:=[0,37,39]},lp:=[]}) (specs:={ l:=[Zf7]}) (okS ⟨Znm,trivial⟩) trivial (by kernel_rfl) (fun v=>by kernel_rfl)
def Xy (F:Nat) (s:(Int×Int×Int×(List Unit)×(List Out))):Option ((Int×Int×Int×(List Unit)×(List Out))⊕((List Unit)×(List Out))):=
 if (decide (s.2.2.1 < s.2.1))=true then
  (Zc (Xx F) F (s.1,s.2.1,s.2.2.1,s.2.2.1,s.2.2.2.1,s.2.2.2.2)).bind fun o250=>
  some (.inl (o250.1,o250.2.1,wi (o250.2.2.1+1),o250.2.2.2.1,o250.2.2.2.2))
 else
 some (.inr (s.2.2.2.1,s.2.2.2.2))
def Zjb:Lp:=⟨[(0,.rw 0),(1,.v (.int .i64)),(2,.v (.int .i64)),(3,.fn 55 []),(8,.v (.int .i64))],[.row ZU true 96],[(.int .i64),(.int .i64),(.int .i64),(.sl (.st [])),(.sl ZU)],[⟨.exit 0,[],[.row ZU true 96],[(.sl (.st [])),(.sl ZU)]⟩],Zc (Xy fuel) fuel⟩
theorem Zno:Zjb.Ok ya (Zl ya 153) (Zk ya 153 0):=Zg (fi:={ hi:={ still:=[26,31],rowt:=[0,37,39]},lp:=[(1,Zja)]}) (specs:={ l:=[]}) (okS trivial) ⟨Znn,trivial⟩ (by kernel_rfl) (fun v=>by kernel_rfl)
def WT (F:Nat) (a1:Int) (a2:Int) (s0_0:(List Unit)) (s0_1:(List Out)):Option (((List Unit)×(List Out))):=
 (Zc (Xy F) F (a1,a2,wi (a1+1),s0_0,s0_1)).bind fun o251=>
 some (o251.1,o251.2)
def ZsT (F:Nat):Fs ya:=⟨153,[.rw 0,.v (.int .i64),.v (.int .i64),.fn 55 []],[.row ZU true 96],[(.int .i64),(.int .i64),(.sl (.st [])),(.sl ZU)],[⟨.ret,[(0,.tup [])],[.row ZU true 96],[(.sl (.st [])),(.sl ZU)]⟩],fun x=>WT F x.1 x.2.1 x.2.2.1 x.2.2.2⟩
def Zft:Fs ya:=ZsT fuel
theorem Zjc:Zft.Ok:=Ze (fi:={ hi:={ still:=[26,31],rowt:=[0,37,39]},lp:=[(0,Zjb)]}) (specs:={ l:=[]}) (okS trivial) ⟨Zno,trivial⟩ (by decide+kernel) (fun x=>by kernel_rfl)
def Xz (F:Nat) (s:(Int×Int×Int×Int×(List Unit)×(List Out))):Option ((Int×Int×Int×Int×(List Unit)×(List Out))⊕(Int×Int×Int×(List Unit)×(List Out))):=
 if (decide (s.2.2.2.1≤s.1))=true then
  (WT F s.2.2.1 s.2.2.2.1 s.2.2.2.2.1 s.2.2.2.2.2).bind fun o252=>
  if (decide (s.2.2.2.2.1.length=o252.1.length)&&(decide (2=2)&&decide ((yr s.2.2.2.2.2.length ()).length=o252.2.length)))=true then
   some (.inl (s.1,s.2.1,s.2.2.2.1,wi (s.2.2.2.1+s.2.1),o252.1,o252.2))
  else
  none
 else
 some (.inr (s.1,s.2.1,s.2.2.1,s.2.2.2.2.1,s.2.2.2.2.2))
def Zjd:Lp:=⟨[(0,.rw 0),(1,.v (.int .i64)),(2,.fn 55 []),(6,.v (.int .i64)),(7,.v (.int .i64)),(8,.v (.int .i64))],[.row ZU true 96],[(.int .i64),(.int .i64),(.int .i64),(.int .i64),(.sl (.st [])),(.sl ZU)],[⟨.exit 0,[(0,.rw 0),(1,.v (.int .i64)),(2,.fn 55 []),(6,.v (.int .i64)),(7,.v (.int .i64))],[.row ZU true 96],[(.int .i64),(.int .i64),(.int .i64),(.sl (.st [])),(.sl ZU)]⟩],Zc (Xz fuel) fuel⟩
theorem Znp:Zjd.Ok ya (Zl ya 111) (Zk ya 111 0):=Zg (fi:={ hi:={ still:=[15,16,17,24,25,26,37,40,41,42,56,57,58,59],rowt:=[0,14,23,36,55]},lp:=[],gh:=[(3,.freshS 0)]}) (specs:={ l:=[Zft]}) (okS ⟨Zjc,trivial⟩) trivial (by kernel_rfl) (fun v=>by kernel_rfl)
def ZhN (F:Nat) (s:(Int×Int×Int)):Option ((Int×Int×Int)⊕(Int×Int)):=
 if (decide (s.2.1 < s.2.2))=true then
  let y255:Int:=wi ((Zx (w64 (wi (s.2.1+s.2.2))) 1).toNat:Int)
  none
 else
 some (.inr (s.1,s.2.1))
def Zje:Lp:=⟨[(1,.v (.int .i64)),(4,.fn 55 []),(10,.v (.int .i64)),(11,.v (.int .i64))],[],[(.int .i64),(.int .i64),(.int .i64)],[⟨.exit 0,[(1,.v (.int .i64)),(10,.v (.int .i64))],[],[(.int .i64),(.int .i64)]⟩],Zc (ZhN fuel) fuel⟩
theorem Znq:Zje.Ok ya (Zl ya 154) (Zk ya 154 0):=Zg (fi:={ hi:={ still:=[44,48,96,100,164,168,187,188,189,190,200,201,202,203,204,214,215,216,217,218],rowt:=[0,61,63,113,115,186]},lp:=[]}) (specs:={ l:=[]}) (okS trivial) trivial (by kernel_rfl) (fun v=>by kernel_rfl)
def ZhO (F:Nat) (s:(Int×Int)):Option ((Int×Int)⊕Unit):=
 if (decide (s.2 < (wi (s.1 - 1))))=true then
  none
 else
 some (.inr ())
def Zjf:Lp:=⟨[(10,.v (.int .i64)),(13,.v (.int .i64))],[],[(.int .i64),(.int .i64)],[⟨.exit 2,[],[],[]⟩],Zc (ZhO fuel) fuel⟩
theorem Znr:Zjf.Ok ya (Zl ya 154) (Zk ya 154 1):=Zg (fi:={ hi:={ still:=[44,48,96,100,164,168,187,188,189,190,200,201,202,203,204,214,215,216,217,218],rowt:=[0,61,63,113,115,186]},lp:=[]}) (specs:={ l:=[]}) (okS trivial) trivial (by kernel_rfl) (fun v=>by kernel_rfl)
def ZhP (F:Nat) (s:(Int×Int×Int)):Option ((Int×Int×Int)⊕(Int×Int)):=
 if (decide (s.2.1 < s.2.2))=true then
  let y258:Int:=wi ((Zx (w64 (wi (s.2.1+s.2.2))) 1).toNat:Int)
  none
 else
 some (.inr (s.1,s.2.1))
def Zjg:Lp:=⟨[(2,.v (.int .i64)),(4,.fn 55 []),(14,.v (.int .i64)),(15,.v (.int .i64))],[],[(.int .i64),(.int .i64),(.int .i64)],[⟨.exit 4,[(2,.v (.int .i64)),(14,.v (.int .i64))],[],[(.int .i64),(.int .i64)]⟩],Zc (ZhP fuel) fuel⟩
theorem Zns:Zjg.Ok ya (Zl ya 154) (Zk ya 154 2):=Zg (fi:={ hi:={ still:=[44,48,96,100,164,168,187,188,189,190,200,201,202,203,204,214,215,216,217,218],rowt:=[0,61,63,113,115,186]},lp:=[]}) (specs:={ l:=[]}) (okS trivial) trivial (by kernel_rfl) (fun v=>by kernel_rfl)
def ZhQ (F:Nat) (s:(Int×Int)):Option ((Int×Int)⊕Unit):=
 if (decide (s.2 > s.1))=true then
  none
 else
 some (.inr ())
def Zjh:Lp:=⟨[(14,.v (.int .i64)),(17,.v (.int .i64))],[],[(.int .i64),(.int .i64)],[⟨.exit 6,[],[],[]⟩],Zc (ZhQ fuel) fuel⟩
theorem Znt:Zjh.Ok ya (Zl ya 154) (Zk ya 154 3):=Zg (fi:={ hi:={ still:=[44,48,96,100,164,168,187,188,189,190,200,201,202,203,204,214,215,216,217,218],rowt:=[0,61,63,113,115,186]},lp:=[]}) (specs:={ l:=[]}) (okS trivial) trivial (by kernel_rfl) (fun v=>by kernel_rfl)
def Zcq (F:Nat) (s:(Int×Int×Int×Int×Int×Int×Int×Int)):Option ((Int×Int×Int×Int×Int×Int×Int×Int)⊕(Int×Int×Int×Int×Int×Int)):=
 if (decide (s.2.2.2.2.2.1 < s.2.2.2.2.2.2.1))=true then
  let y263:UInt64:=Zx (w64 (wi (s.2.2.2.2.2.1+s.2.2.2.2.2.2.1))) 1
  none
 else
 some (.inr (s.1,s.2.1,s.2.2.1,s.2.2.2.1,s.2.2.2.2.1,s.2.2.2.2.2.1))
def Zji:Lp:=⟨[(1,.v (.int .i64)),(2,.v (.int .i64)),(3,.v (.int .i64)),(4,.fn 55 []),(18,.v (.int .i64)),(19,.v (.int .i64)),(20,.v (.int .i64)),(21,.v (.int .i64)),(22,.v (.int .i64))],[],[(.int .i64),(.int .i64),(.int .i64),(.int .i64),(.int .i64),(.int .i64),(.int .i64),(.int .i64)],[⟨.exit 8,[(1,.v (.int .i64)),(2,.v (.int .i64)),(3,.v (.int .i64)),(4,.fn 55 []),(18,.v (.int .i64)),(19,.v (.int .i64)),(20,.v (.int .i64))],[],[(.int .i64),(.int .i64),(.int .i64),(.int .i64),(.int .i64),(.int .i64)]⟩],Zc (Zcq fuel) fuel⟩
theorem Znu:Zji.Ok ya (Zl ya 154) (Zk ya 154 4):=Zg (fi:={ hi:={ still:=[44,48,96,100,164,168,187,188,189,190,200,201,202,203,204,214,215,216,217,218],rowt:=[0,61,63,113,115,186]},lp:=[]}) (specs:={ l:=[]}) (okS trivial) trivial (by kernel_rfl) (fun v=>by kernel_rfl)
def ZhR (F:Nat) (s:(Int×Int×Int×Int)):Option ((Int×Int×Int×Int)⊕Unit):=
 if (decide (s.2.2.2 < s.2.2.1))=true then
  none
 else
 some (.inr ())
def Zjj:Lp:=⟨[(1,.v (.int .i64)),(2,.v (.int .i64)),(3,.v (.int .i64)),(10,.v (.int .i64))],[],[(.int .i64),(.int .i64),(.int .i64),(.int .i64)],[⟨.exit 0,[],[],[]⟩],Zc (ZhR fuel) fuel⟩
theorem Znv:Zjj.Ok ya (Zl ya 186) (Zk ya 186 0):=Zg (fi:={ hi:={ rowt:=[0,16,20]},lp:=[]}) (specs:={ l:=[]}) (okS trivial) trivial (by kernel_rfl) (fun v=>by kernel_rfl)
def Zdh (F:Nat) (a1:Int) (a2:Int) (a3:Int):Option (Unit):=
 (Zc (ZhR F) F (a1,a2,a3,(0:Int))).bind fun o266=>
 some ()
def ZsU (F:Nat):Fs ya:=⟨186,[.junk,.v (.int .i64),.v (.int .i64),.v (.int .i64),.fn 55 []],[],[(.int .i64),(.int .i64),(.int .i64)],[⟨.ret,[(0,.tup [])],[],[]⟩],fun x=>Zdh F x.1 x.2.1 x.2.2⟩
def Zfu:Fs ya:=ZsU fuel
theorem Zjk:Zfu.Ok:=Ze (fi:={ hi:={ rowt:=[0,16,20]},lp:=[(0,Zjj)]}) (specs:={ l:=[]}) (okS trivial) ⟨Znv,trivial⟩ (by decide+kernel) (fun x=>by kernel_rfl)
def ZhS (F:Nat) (s:(Int×Int×Int)):Option ((Int×Int×Int)⊕(Int×Int)):=
 if (s.2.1 !=s.2.2)=true then
  if (decide (s.2.1 > s.2.2))=true then
   (Zdh F (wi (s.1 - s.2.1)) s.1 s.2.2).bind fun o267=>
   some (.inl (s.1,wi (s.2.1 - s.2.2),s.2.2))
  else
  (Zdh F (wi (s.1 - s.2.1)) (wi ((wi (s.1+s.2.2)) - s.2.1)) s.2.1).bind fun o268=>
  some (.inl (s.1,s.2.1,wi (s.2.2 - s.2.1)))
 else
 some (.inr (s.1,s.2.1))
def Zjl:Lp:=⟨[(2,.v (.int .i64)),(4,.fn 55 []),(10,.v (.int .i64)),(11,.v (.int .i64))],[],[(.int .i64),(.int .i64),(.int .i64)],[⟨.exit 0,[(2,.v (.int .i64)),(4,.fn 55 []),(10,.v (.int .i64))],[],[(.int .i64),(.int .i64)]⟩],Zc (ZhS fuel) fuel⟩
theorem Znw:Zjl.Ok ya (Zl ya 173) (Zk ya 173 0):=Zg (fi:={ hi:={ still:=[27,28,29,30,38,43,44,45,53,54,55,56],rowt:=[0,24,35,50]},lp:=[]}) (specs:={ l:=[Zfu]}) (okS ⟨Zjk,trivial⟩) trivial (by kernel_rfl) (fun v=>by kernel_rfl)
def ZgY (F:Nat) (a1:Int) (a2:Int) (a3:Int):Option (Unit):=
 (Zc (ZhS F) F (a2,wi (a2 - a1),wi (a3 - a2))).bind fun o269=>
 (Zdh F (wi (o269.1 - o269.2)) o269.1 o269.2).bind fun o270=>
 some ()
def ZsV (F:Nat):Fs ya:=⟨173,[.junk,.v (.int .i64),.v (.int .i64),.v (.int .i64),.fn 55 []],[],[(.int .i64),(.int .i64),(.int .i64)],[⟨.ret,[(0,.tup [])],[],[]⟩],fun x=>ZgY F x.1 x.2.1 x.2.2⟩
def Zlq:Fs ya:=ZsV fuel
theorem ZsW:Zlq.Ok:=Ze (fi:={ hi:={ still:=[27,28,29,30,38,43,44,45,53,54,55,56],rowt:=[0,24,35,50]},lp:=[(0,Zjl)]}) (specs:={ l:=[Zfu]}) (okS ⟨Zjk,trivial⟩) ⟨Znw,trivial⟩ (by decide+kernel) (fun x=>by kernel_rfl)
def ZgZ (F:Nat) (a1:Int) (a2:Int) (a3:Int):Option (Unit):=
 if ((wi (a2 - a1))==1)=true then
  (Zc (ZhN F) F (a1,a2,a3)).bind fun o256=>
  (Zc (ZhO F) F (o256.2,o256.1)).bind fun o257=>
  some ()
 else
 if ((wi (a3 - a2))==1)=true then
  (Zc (ZhP F) F (a2,a1,a2)).bind fun o259=>
  (Zc (ZhQ F) F (o259.2,o259.1)).bind fun o260=>
  some ()
 else
 let y261:Int:=wi ((wi ((Zx (w64 (wi (a1+a3))) 1).toNat:Int))+a2)
 let y262:Bool:=decide (a2 > (wi ((Zx (w64 (wi (a1+a3))) 1).toNat:Int)))
 if y262=true then
  (Zc (Zcq F) F (a1,a2,a3,wi ((Zx (w64 (wi (a1+a3))) 1).toNat:Int),y261,wi (y261 - a3),wi ((Zx (w64 (wi (a1+a3))) 1).toNat:Int),wi (y261 - 1))).bind fun o264=>
  if (decide (o264.2.2.2.2.2 < o264.2.1))=true then
   let y265:Bool:=decide (o264.2.1 < (wi (o264.2.2.2.2.1 - o264.2.2.2.2.2)))
   if y265=true then
    (ZgY F o264.2.2.2.2.2 o264.2.1 (wi (o264.2.2.2.2.1 - o264.2.2.2.2.2))).bind fun o271=>
    if (decide (o264.1 < o264.2.2.2.2.2))=true then
     if (decide (o264.2.2.2.2.2 < o264.2.2.2.1))=true then
      none
     else
     let y272:Bool:=decide (o264.2.2.2.1 < (wi (o264.2.2.2.2.1 - o264.2.2.2.2.2)))
     if y272=true then
      let y273:Bool:=decide ((wi (o264.2.2.2.2.1 - o264.2.2.2.2.2)) < o264.2.2.1)
      if y273=true then
       none
      else
      some ()
     else
     some ()
    else
    let y274:Bool:=decide (o264.2.2.2.1 < (wi (o264.2.2.2.2.1 - o264.2.2.2.2.2)))
    if y274=true then
     let y275:Bool:=decide ((wi (o264.2.2.2.2.1 - o264.2.2.2.2.2)) < o264.2.2.1)
     if y275=true then
      none
     else
     some ()
    else
    some ()
   else
   if (decide (o264.1 < o264.2.2.2.2.2))=true then
    if (decide (o264.2.2.2.2.2 < o264.2.2.2.1))=true then
     none
    else
    let y276:Bool:=decide (o264.2.2.2.1 < (wi (o264.2.2.2.2.1 - o264.2.2.2.2.2)))
    if y276=true then
     let y277:Bool:=decide ((wi (o264.2.2.2.2.1 - o264.2.2.2.2.2)) < o264.2.2.1)
     if y277=true then
      none
     else
     some ()
    else
    some ()
   else
   let y278:Bool:=decide (o264.2.2.2.1 < (wi (o264.2.2.2.2.1 - o264.2.2.2.2.2)))
   if y278=true then
    let y279:Bool:=decide ((wi (o264.2.2.2.2.1 - o264.2.2.2.2.2)) < o264.2.2.1)
    if y279=true then
     none
    else
    some ()
   else
   some ()
  else
  if (decide (o264.1 < o264.2.2.2.2.2))=true then
   if (decide (o264.2.2.2.2.2 < o264.2.2.2.1))=true then
    none
   else
   let y280:Bool:=decide (o264.2.2.2.1 < (wi (o264.2.2.2.2.1 - o264.2.2.2.2.2)))
   if y280=true then
    let y281:Bool:=decide ((wi (o264.2.2.2.2.1 - o264.2.2.2.2.2)) < o264.2.2.1)
    if y281=true then
     none
    else
    some ()
   else
   some ()
  else
  let y282:Bool:=decide (o264.2.2.2.1 < (wi (o264.2.2.2.2.1 - o264.2.2.2.2.2)))
  if y282=true then
   let y283:Bool:=decide ((wi (o264.2.2.2.2.1 - o264.2.2.2.2.2)) < o264.2.2.1)
   if y283=true then
    none
   else
   some ()
  else
  some ()
 else
 (Zc (Zcq F) F (a1,a2,a3,wi ((Zx (w64 (wi (a1+a3))) 1).toNat:Int),y261,a1,a2,wi (y261 - 1))).bind fun o284=>
 if (decide (o284.2.2.2.2.2 < o284.2.1))=true then
  let y285:Bool:=decide (o284.2.1 < (wi (o284.2.2.2.2.1 - o284.2.2.2.2.2)))
  if y285=true then
   (ZgY F o284.2.2.2.2.2 o284.2.1 (wi (o284.2.2.2.2.1 - o284.2.2.2.2.2))).bind fun o286=>
   if (decide (o284.1 < o284.2.2.2.2.2))=true then
    if (decide (o284.2.2.2.2.2 < o284.2.2.2.1))=true then
     none
    else
    let y287:Bool:=decide (o284.2.2.2.1 < (wi (o284.2.2.2.2.1 - o284.2.2.2.2.2)))
    if y287=true then
     let y288:Bool:=decide ((wi (o284.2.2.2.2.1 - o284.2.2.2.2.2)) < o284.2.2.1)
     if y288=true then
      none
     else
     some ()
    else
    some ()
   else
   let y289:Bool:=decide (o284.2.2.2.1 < (wi (o284.2.2.2.2.1 - o284.2.2.2.2.2)))
   if y289=true then
    let y290:Bool:=decide ((wi (o284.2.2.2.2.1 - o284.2.2.2.2.2)) < o284.2.2.1)
    if y290=true then
     none
    else
    some ()
   else
   some ()
  else
  if (decide (o284.1 < o284.2.2.2.2.2))=true then
   if (decide (o284.2.2.2.2.2 < o284.2.2.2.1))=true then
    none
   else
   let y291:Bool:=decide (o284.2.2.2.1 < (wi (o284.2.2.2.2.1 - o284.2.2.2.2.2)))
   if y291=true then
    let y292:Bool:=decide ((wi (o284.2.2.2.2.1 - o284.2.2.2.2.2)) < o284.2.2.1)
    if y292=true then
     none
    else
    some ()
   else
   some ()
  else
  let y293:Bool:=decide (o284.2.2.2.1 < (wi (o284.2.2.2.2.1 - o284.2.2.2.2.2)))
  if y293=true then
   let y294:Bool:=decide ((wi (o284.2.2.2.2.1 - o284.2.2.2.2.2)) < o284.2.2.1)
   if y294=true then
    none
   else
   some ()
  else
  some ()
 else
 if (decide (o284.1 < o284.2.2.2.2.2))=true then
  if (decide (o284.2.2.2.2.2 < o284.2.2.2.1))=true then
   none
  else
  let y295:Bool:=decide (o284.2.2.2.1 < (wi (o284.2.2.2.2.1 - o284.2.2.2.2.2)))
  if y295=true then
   let y296:Bool:=decide ((wi (o284.2.2.2.2.1 - o284.2.2.2.2.2)) < o284.2.2.1)
   if y296=true then
    none
   else
   some ()
  else
  some ()
 else
 let y297:Bool:=decide (o284.2.2.2.1 < (wi (o284.2.2.2.2.1 - o284.2.2.2.2.2)))
 if y297=true then
  let y298:Bool:=decide ((wi (o284.2.2.2.2.1 - o284.2.2.2.2.2)) < o284.2.2.1)
  if y298=true then
   none
  else
  some ()
 else
 some ()
def ZsX (F:Nat):Fs ya:=⟨154,[.junk,.v (.int .i64),.v (.int .i64),.v (.int .i64),.fn 55 []],[],[(.int .i64),(.int .i64),(.int .i64)],[⟨.ret,[(0,.tup [])],[],[]⟩],fun x=>ZgZ F x.1 x.2.1 x.2.2⟩
def Zfv:Fs ya:=ZsX fuel
theorem Zjm:Zfv.Ok:=Ze (fi:={ hi:={ still:=[44,48,96,100,164,168,187,188,189,190,200,201,202,203,204,214,215,216,217,218],rowt:=[0,61,63,113,115,186]},lp:=[(0,Zje),(1,Zjf),(2,Zjg),(3,Zjh),(4,Zji)]}) (specs:={ l:=[Zlq]}) (okS ⟨ZsW,trivial⟩) ⟨Znq,Znr,Zns,Znt,Znu,trivial⟩ (by decide+kernel) (fun x=>by kernel_rfl)
def ZhT (F:Nat) (s:(Int×Int×Int×Int×(List Unit)×(List Out))):Option ((Int×Int×Int×Int×(List Unit)×(List Out))⊕(Int×Int×Int×(List Unit)×(List Out))):=
 if (decide (s.2.2.2.1≤s.1))=true then
  (ZgZ F s.2.2.1 (wi (s.2.2.1+s.2.1)) s.2.2.2.1).bind fun o299=>
  some (.inl (s.1,s.2.1,s.2.2.2.1,wi (s.2.2.2.1+(wi (2*s.2.1))),s.2.2.2.2.1,s.2.2.2.2.2))
 else
 some (.inr (s.1,s.2.1,s.2.2.1,s.2.2.2.2.1,s.2.2.2.2.2))
def Zjn:Lp:=⟨[(1,.v (.int .i64)),(2,.fn 55 []),(6,.v (.int .i64)),(7,.v (.int .i64)),(8,.v (.int .i64))],[.row ZU true 96],[(.int .i64),(.int .i64),(.int .i64),(.int .i64),(.sl (.st [])),(.sl ZU)],[⟨.exit 4,[(1,.v (.int .i64)),(2,.fn 55 []),(6,.v (.int .i64)),(7,.v (.int .i64))],[.row ZU true 96],[(.int .i64),(.int .i64),(.int .i64),(.sl (.st [])),(.sl ZU)]⟩],Zc (ZhT fuel) fuel⟩
theorem Znx:Zjn.Ok ya (Zl ya 111) (Zk ya 111 2):=Zg (fi:={ hi:={ still:=[15,16,17,24,25,26,37,40,41,42,56,57,58,59],rowt:=[0,14,23,36,55]},lp:=[]}) (specs:={ l:=[Zfv]}) (okS ⟨Zjm,trivial⟩) trivial (by kernel_rfl) (fun v=>by kernel_rfl)
def Qt (F:Nat) (s:(Int×Int×(List Unit)×(List Out))):Option ((Int×Int×(List Unit)×(List Out))⊕((List Unit)×(List Out))):=
 if (decide (s.2.1 < s.1))=true then
  (Zc (ZhT F) F (s.1,s.2.1,(0:Int),wi (2*s.2.1),s.2.2.1,s.2.2.2)).bind fun o300=>
  if (decide ((wi (o300.2.2.1+o300.2.1)) < o300.1))=true then
   (ZgZ F o300.2.2.1 (wi (o300.2.2.1+o300.2.1)) o300.1).bind fun o301=>
   some (.inl (o300.1,wi (o300.2.1*2),o300.2.2.2.1,o300.2.2.2.2))
  else
  some (.inl (o300.1,wi (o300.2.1*2),o300.2.2.2.1,o300.2.2.2.2))
 else
 some (.inr (s.2.2.1,s.2.2.2))
def Zjo:Lp:=⟨[(0,.junk),(1,.v (.int .i64)),(2,.fn 55 []),(6,.v (.int .i64))],[.row ZU true 96],[(.int .i64),(.int .i64),(.sl (.st [])),(.sl ZU)],[⟨.exit 2,[],[.row ZU true 96],[(.sl (.st [])),(.sl ZU)]⟩],Zc (Qt fuel) fuel⟩
theorem Zny:Zjo.Ok ya (Zl ya 111) (Zk ya 111 1):=Zg (fi:={ hi:={ still:=[15,16,17,24,25,26,37,40,41,42,56,57,58,59],rowt:=[0,14,23,36,55]},lp:=[(2,Zjn)]}) (specs:={ l:=[Zfv]}) (okS ⟨Zjm,trivial⟩) ⟨Znx,trivial⟩ (by kernel_rfl) (fun v=>by kernel_rfl)
def Zg0 (F:Nat) (a1:Int) (s0_0:(List Unit)) (s0_1:(List Out)):Option (((List Unit)×(List Out))):=
 (Zc (Xz F) F (a1,(20:Int),(0:Int),(20:Int),s0_0,s0_1)).bind fun o253=>
 (WT F o253.2.2.1 o253.1 o253.2.2.2.1 o253.2.2.2.2).bind fun o254=>
 (Zc (Qt F) F (o253.1,o253.2.1,o254.1,o254.2)).bind fun o302=>
 some (o302.1,o302.2)
def ZsY (F:Nat):Fs ya:=⟨111,[.rw 0,.v (.int .i64),.fn 55 []],[.row ZU true 96],[(.int .i64),(.sl (.st [])),(.sl ZU)],[⟨.ret,[(0,.tup [])],[.row ZU true 96],[(.sl (.st [])),(.sl ZU)]⟩],fun x=>Zg0 F x.1 x.2.1 x.2.2⟩
def Zlr:Fs ya:=ZsY fuel
theorem ZsZ:Zlr.Ok:=Ze (fi:={ hi:={ still:=[15,16,17,24,25,26,37,40,41,42,56,57,58,59],rowt:=[0,14,23,36,55]},lp:=[(0,Zjd),(1,Zjo)]}) (specs:={ l:=[Zft]}) (okS ⟨Zjc,trivial⟩) ⟨Znp,Zny,trivial⟩ (by decide+kernel) (fun x=>by kernel_rfl)
def Znz (F:Nat) (s0_0:(List Unit)) (s0_1:(List Out)):Option (((List Unit)×(List Out))):=
 (Zg0 F (s0_1.length:Int) s0_0 s0_1).bind fun o303=>
 some (o303.1,o303.2)
def ZBm (F:Nat):Fs ya:=⟨54,[.rw 0,.fn 55 []],[.row ZU true 96],[(.sl (.st [])),(.sl ZU)],[⟨.ret,[(0,.tup [])],[.row ZU true 96],[(.sl (.st [])),(.sl ZU)]⟩],fun x=>Znz F x.1 x.2⟩
def Zvx:Fs ya:=ZBm fuel
theorem ZBn:Zvx.Ok:=Ze (fi:={ hi:={ still:=[6,7],rowt:=[0,4]},lp:=[]}) (specs:={ l:=[Zlr]}) (okS ⟨ZsZ,trivial⟩) trivial (by decide+kernel) (fun x=>by kernel_rfl)
def WH (F:Nat) (s:(Int×(List Int)×Int×Z6×State×(List Lock)×Tx×(List In)×Int×(List Unit)×(List Out))):Option ((Int×(List Int)×Int×Z6×State×(List Lock)×Tx×(List In)×Int×(List Unit)×(List Out))⊕(Z6×State×(List Lock)×Tx×(List In)×Int×(List Unit)×(List Out))):=
 if (decide (s.2.2.1 < 2))=true then
  (idx s.2.1 s.2.2.1).bind fun e311=>
  if (s.2.2.1==s.2.2.2.1.2.2.2.2)=true then
   (s.2.2.2.1.2.2.2.1[0]?).bind fun e312=>
   (YQ F e312 (wi (e311 - s.1))).bind fun o313=>
   if o313=true then
    (s.2.2.2.1.2.2.2.1[1]?).bind fun e314=>
    (YQ F e314 (wi (e311 - s.1))).bind fun o315=>
    if o315=true then
     if (inB s.2.2.1 2)=true then
      (s.2.2.2.2.2.1[s.2.2.1.toNat]?).bind fun e316=>
      (Vf F e316).bind fun o317=>
      if (apB s.2.2.2.2.2.2.2.2.2.2.length 1 32)=true then
       let y318:(List Out):=s.2.2.2.2.2.2.2.2.2.2++([(wi (e311 - s.1),o317)]:List Out)
       some (.inl (s.1,s.2.1,wi (s.2.2.1+1),s.2.2.2.1,s.2.2.2.2.1,s.2.2.2.2.2.1,s.2.2.2.2.2.2.1,s.2.2.2.2.2.2.2.1,s.2.2.2.2.2.2.2.2.1,()::s.2.2.2.2.2.2.2.2.2.1,y318))
      else
      none
     else
     none
    else
    some (.inl (s.1,s.2.1,wi (s.2.2.1+1),s.2.2.2.1,s.2.2.2.2.1,s.2.2.2.2.2.1,s.2.2.2.2.2.2.1,s.2.2.2.2.2.2.2.1,s.2.2.2.2.2.2.2.2.1,s.2.2.2.2.2.2.2.2.2.1,s.2.2.2.2.2.2.2.2.2.2))
   else
   some (.inl (s.1,s.2.1,wi (s.2.2.1+1),s.2.2.2.1,s.2.2.2.2.1,s.2.2.2.2.2.1,s.2.2.2.2.2.2.1,s.2.2.2.2.2.2.2.1,s.2.2.2.2.2.2.2.2.1,s.2.2.2.2.2.2.2.2.2.1,s.2.2.2.2.2.2.2.2.2.2))
  else
  (s.2.2.2.1.2.2.2.1[0]?).bind fun e319=>
  (YQ F e319 e311).bind fun o320=>
  if o320=true then
   (s.2.2.2.1.2.2.2.1[1]?).bind fun e321=>
   (YQ F e321 e311).bind fun o322=>
   if o322=true then
    if (inB s.2.2.1 2)=true then
     (s.2.2.2.2.2.1[s.2.2.1.toNat]?).bind fun e323=>
     (Vf F e323).bind fun o324=>
     if (apB s.2.2.2.2.2.2.2.2.2.2.length 1 32)=true then
      let y325:(List Out):=s.2.2.2.2.2.2.2.2.2.2++([(e311,o324)]:List Out)
      some (.inl (s.1,s.2.1,wi (s.2.2.1+1),s.2.2.2.1,s.2.2.2.2.1,s.2.2.2.2.2.1,s.2.2.2.2.2.2.1,s.2.2.2.2.2.2.2.1,s.2.2.2.2.2.2.2.2.1,()::s.2.2.2.2.2.2.2.2.2.1,y325))
     else
     none
    else
    none
   else
   some (.inl (s.1,s.2.1,wi (s.2.2.1+1),s.2.2.2.1,s.2.2.2.2.1,s.2.2.2.2.2.1,s.2.2.2.2.2.2.1,s.2.2.2.2.2.2.2.1,s.2.2.2.2.2.2.2.2.1,s.2.2.2.2.2.2.2.2.2.1,s.2.2.2.2.2.2.2.2.2.2))
  else
  some (.inl (s.1,s.2.1,wi (s.2.2.1+1),s.2.2.2.1,s.2.2.2.2.1,s.2.2.2.2.2.1,s.2.2.2.2.2.2.1,s.2.2.2.2.2.2.2.1,s.2.2.2.2.2.2.2.2.1,s.2.2.2.2.2.2.2.2.2.1,s.2.2.2.2.2.2.2.2.2.2))
 else
 some (.inr (s.2.2.2.1,s.2.2.2.2.1,s.2.2.2.2.2.1,s.2.2.2.2.2.2.1,s.2.2.2.2.2.2.2.1,s.2.2.2.2.2.2.2.2.1,s.2.2.2.2.2.2.2.2.2.1,s.2.2.2.2.2.2.2.2.2.2))
def ZhU:Lp:=⟨[(3,.v (.int .i64)),(4,.ref 0 []),(6,.ref 2 []),(8,.ref 3 []),(10,.ref 4 []),(46,.v (.arr 2 (.int .i64))),(47,.v (.int .i64))],[.var (.v Zu) true,.var (.v Zh) true,.var (.v (.arr 2 ZK)) true,.var (.v yTx) true,.var (.agg [.v (.sl yIn),.rw 5,.v (.int .i64)]) true,.row ZU true 96],[(.int .i64),(.arr 2 (.int .i64)),(.int .i64),Zu,Zh,(.arr 2 ZK),yTx,(.sl yIn),(.int .i64),(.sl (.st [])),(.sl ZU)],[⟨.exit 1,[(8,.ref 3 []),(10,.ref 4 [])],[.var (.v Zu) true,.var (.v Zh) true,.var (.v (.arr 2 ZK)) true,.var (.v yTx) true,.var (.agg [.v (.sl yIn),.rw 5,.v (.int .i64)]) true,.row ZU true 96],[Zu,Zh,(.arr 2 ZK),yTx,(.sl yIn),(.int .i64),(.sl (.st [])),(.sl ZU)]⟩],Zc (WH fuel) fuel⟩
theorem Zl7:ZhU.Ok ya (Zl ya 18) (Zk ya 18 0):=Zg (fi:={ hi:={ own:=[71,79],still:=[9,14,15,21,26,32,33,35,36,60,61,66,67,75],rowt:=[71,79,83]},lp:=[]}) (specs:={ l:=[Zbp,Zi9]}) (okS ⟨ZdQ,ZhM,trivial⟩) trivial (by kernel_rfl) (fun v=>by kernel_rfl)
def Z8 (F:Nat) (a0:Z6) (a1:State) (a2:(List Lock)) (a3:Int):Option ((Tx×Int)):=
 (V5 F a0 a1).bind fun o305=>
 if (!o305)=true then
  some ((([]:List In),([]:List Out),(0:Int)),(14:Int))
 else
 (a2[0]?).bind fun e306=>
 (YC F e306).bind fun o307=>
 if (!o307)=true then
  some ((([]:List In),([]:List Out),(0:Int)),(1:Int))
 else
 (a2[1]?).bind fun e308=>
 (YC F e308).bind fun o309=>
 if (!o309)=true then
  some ((([]:List In),([]:List Out),(0:Int)),(1:Int))
 else
 (Zbt F a0 a1 a0.2.2.2.2 a3).bind fun o310=>
 if (!o310)=true then
  some ((([]:List In),([]:List Out),(0:Int)),(13:Int))
 else
 (Zc (WH F) F (a3,a1.2.1,(0:Int),a0,a1,a2,(([]:List In),([]:List Out),(0:Int)),([(a0.1,(0,[],0))]:List In),(2097154:Int),([]:List Unit),([]:List Out))).bind fun o326=>
 (Znz F o326.2.2.2.2.2.2.1 o326.2.2.2.2.2.2.2).bind fun o327=>
 if (decide (o326.2.2.2.2.2.2.1.length=o327.1.length)&&(decide (2=2)&&decide ((yr o326.2.2.2.2.2.2.2.length ()).length=o327.2.length)))=true then
  some ((o326.2.2.2.2.1,o327.2,o326.2.2.2.2.2.1),(0:Int))
 else
 none
def Zcr (F:Nat):Fs ya:=⟨18,[.v Zu,.v Zh,.v (.arr 2 ZK),.v (.int .i64)],[],[Zu,Zh,(.arr 2 ZK),(.int .i64)],[⟨.ret,[(0,.tup [.v yTx,.v (.int .i64)])],[],[yTx,(.int .i64)]⟩],fun x=>Z8 F x.1 x.2.1 x.2.2.1 x.2.2.2⟩
def Zjp:Fs ya:=Zcr fuel
theorem ZhV:Zjp.Ok:=Ze (fi:={ hi:={ own:=[71,79],still:=[9,14,15,21,26,32,33,35,36,60,61,66,67,75],rowt:=[71,79,83]},lp:=[(0,ZhU)],gh:=[(10,.rowt 10 [1] ZU 96),(19,.freshDone 10 1)]}) (specs:={ l:=[Zln,V3,Zi4,Zvx]}) (okS ⟨Zi3,Ve,ZhL,ZBn,trivial⟩) ⟨Zl7,trivial⟩ (by decide+kernel) (fun x=>by kernel_rfl)
end
end Go.Proofs.YtmkgbalfkhaflaaGreat
end
section
set_option maxRecDepth 4000
namespace Go.Proofs.YtmkgbalfkhaflaaGreat
open Go Go.Ev
noncomputable section
def ZbP (F:Nat) (a0:ZqY):Option (Bool):=
 if (decide (a0.1 ≥ 0))=true then
  if (decide (a0.1 < 4))=true then
   some (decide ((a0.2.1.length:Int)≤12))
  else
  some false
 else
 some false
def Zun (F:Nat):Fs ya:=⟨73,[.v Zsu],[],[Zsu],[⟨.ret,[(0,.v .bool)],[],[.bool]⟩],fun x=>ZbP F x⟩
def ZnA:Fs ya:=Zun fuel
theorem Zuo:ZnA.Ok:=Ze (fi:={ hi:={ still:=[2]},lp:=[]}) (specs:={ l:=[]}) (okS trivial) trivial (by decide+kernel) (fun x=>by kernel_rfl)
def Zam (F:Nat) (s:((List In)×Int×Int×Tx×(List (XQ×Bool)))):Option (((List In)×Int×Int×Tx×(List (XQ×Bool)))⊕((Bool×Tx×(List (XQ×Bool)))⊕(Tx×(List (XQ×Bool))))):=
 if (decide (s.2.2.1 < s.2.1))=true then
  (idx s.1 s.2.2.1).bind fun e328=>
  ZB1 (Zv7 s.2.2.2.2 e328.1) (fun e329=>
   if e329=true then
    some (.inr (.inl (false,s.2.2.2.1,s.2.2.2.2)))
   else
   if (decide (e328.1.2 < 0))=true then
    some (.inr (.inl (false,s.2.2.2.1,s.2.2.2.2)))
   else
   if (decide (e328.1.2 ≥ 64))=true then
    some (.inr (.inl (false,s.2.2.2.1,s.2.2.2.2)))
   else
   (ZbP F e328.2).bind fun o330=>
   if (!o330)=true then
    some (.inr (.inl (false,s.2.2.2.1,s.2.2.2.2)))
   else
   some (.inl (s.1,s.2.1,wi (s.2.2.1+1),s.2.2.2.1,Zyq s.2.2.2.2 e328.1 true))) (
   if (decide (e328.1.2 < 0))=true then
    some (.inr (.inl (false,s.2.2.2.1,s.2.2.2.2)))
   else
   if (decide (e328.1.2 ≥ 64))=true then
    some (.inr (.inl (false,s.2.2.2.1,s.2.2.2.2)))
   else
   (ZbP F e328.2).bind fun o331=>
   if (!o331)=true then
    some (.inr (.inl (false,s.2.2.2.1,s.2.2.2.2)))
   else
   some (.inl (s.1,s.2.1,wi (s.2.2.1+1),s.2.2.2.1,Zyq s.2.2.2.2 e328.1 true)))
 else
 some (.inr (.inr (s.2.2.2.1,s.2.2.2.2)))
def ZpN:Lp:=⟨[(1,.ref 0 []),(3,.mp 1),(33,.v (.sl yIn)),(34,.v (.int .i64)),(35,.v (.int .i64))],[.var (.v yTx) true,.map 161 Xt .bool],[(.sl yIn),(.int .i64),(.int .i64),yTx,(Zqd Xt .bool)],[⟨.ret,[(2,.v .bool)],[.var (.v yTx) true,.map 161 Xt .bool],[.bool,yTx,(Zqd Xt .bool)]⟩,⟨.exit 0,[(1,.ref 0 [])],[.var (.v yTx) true,.map 161 Xt .bool],[yTx,(Zqd Xt .bool)]⟩],Zc (Zam fuel) fuel⟩
theorem Zs0:ZpN.Ok ya (Zl ya 25) (Zk ya 25 0):=Zg (fi:={ hi:={ still:=[2,57,73,75,83]},lp:=[]}) (specs:={ l:=[ZnA]}) (okS ⟨Zuo,trivial⟩) trivial (by kernel_rfl) (fun v=>by kernel_rfl)
def Zdi (F:Nat) (s:(Int×(List Out)×Int×Int×Tx×(List (XQ×Bool)))):Option ((Int×(List Out)×Int×Int×Tx×(List (XQ×Bool)))⊕((Bool×Tx×(List (XQ×Bool)))⊕(Tx×(List (XQ×Bool))))):=
 if (decide (s.2.2.2.1 < s.2.2.1))=true then
  (idx s.2.1 s.2.2.2.1).bind fun e335=>
  (Zf2 F s.1 e335.1).bind fun o336=>
  if (!o336.2)=true then
   some (.inr (.inl (false,s.2.2.2.2.1,s.2.2.2.2.2)))
  else
  (YC F e335.2).bind fun o337=>
  if (!o337)=true then
   some (.inr (.inl (false,s.2.2.2.2.1,s.2.2.2.2.2)))
  else
  some (.inl (o336.1,s.2.1,s.2.2.1,wi (s.2.2.2.1+1),s.2.2.2.2.1,s.2.2.2.2.2))
 else
 some (.inr (.inr (s.2.2.2.2.1,s.2.2.2.2.2)))
def ZpO:Lp:=⟨[(6,.v (.int .i64)),(66,.v (.sl ZU)),(67,.v (.int .i64)),(68,.v (.int .i64))],[.var (.v yTx) true,.map 161 Xt .bool],[(.int .i64),(.sl ZU),(.int .i64),(.int .i64),yTx,(Zqd Xt .bool)],[⟨.ret,[(2,.v .bool)],[.var (.v yTx) true,.map 161 Xt .bool],[.bool,yTx,(Zqd Xt .bool)]⟩,⟨.exit 2,[],[.var (.v yTx) true,.map 161 Xt .bool],[yTx,(Zqd Xt .bool)]⟩],Zc (Zdi fuel) fuel⟩
theorem Zs1:ZpO.Ok ya (Zl ya 25) (Zk ya 25 1):=Zg (fi:={ hi:={ still:=[2,57,73,75,83]},lp:=[]}) (specs:={ l:=[ZoE,V3]}) (okS ⟨ZsJ,Ve,trivial⟩) trivial (by kernel_rfl) (fun v=>by kernel_rfl)
def Zdw (F:Nat) (a0:Tx):Option (Bool):=
 if (decide ((a0.1.length:Int) < 1))=true then
  some false
 else
 if (decide ((a0.1.length:Int) > 64))=true then
  some false
 else
 if (decide ((a0.2.1.length:Int) > 64))=true then
  some false
 else
 if (decide (a0.2.2 < 0))=true then
  some false
 else
 (Zc (Zam F) F (a0.1,(a0.1.length:Int),(0:Int),a0,([]:List (XQ×Bool)))).bind fun o332=>
 match o332 with
 |.inl o333=>
  some o333.1
 |.inr o334=>
  (Zc (Zdi F) F ((0:Int),o334.1.2.1,(o334.1.2.1.length:Int),(0:Int),o334.1,o334.2)).bind fun o338=>
  match o338 with
  |.inl o339=>
   some o339.1
  |.inr o340=>
   some true
def Zzv (F:Nat):Fs ya:=⟨25,[.v yTx],[],[yTx],[⟨.ret,[(0,.v .bool)],[],[.bool]⟩],fun x=>Zdw F x⟩
def Zg1:Fs ya:=Zzv fuel
theorem Zjq:Zg1.Ok:=Ze (fi:={ hi:={ still:=[2,57,73,75,83]},lp:=[(0,ZpN),(1,ZpO)]}) (specs:={ l:=[]}) (okS trivial) ⟨Zs0,Zs1,trivial⟩ (by decide+kernel) (fun x=>by kernel_rfl)
def Zjr (F:Nat):Option ((List UInt32)):=
 some ([1779033703,3144134277,1013904242,2773480762,1359893119,2600822924,528734635,1541459225]:List UInt32)
def Zup (F:Nat):Fs ya:=⟨156,[],[],[],[⟨.ret,[(0,.v (.arr 8 .u32))],[],[(.arr 8 .u32)]⟩],fun x=>Zjr F⟩
def ZnB:Fs ya:=Zup fuel
theorem Zuq:ZnB.Ok:=Ze (fi:={ hi:={},lp:=[]}) (specs:={ l:=[]}) (okS trivial) trivial (by decide+kernel) (fun x=>by kernel_rfl)
def ZG (F:Nat) (a0:UInt32) (a1:Int):Option (UInt32):=
 let y342:UInt32:=QK a0 (min (((w64 a1)&&&31).toNat:Int).toNat 32)
 let y343:UInt32:=ZcD a0 (min ((32 - ((w64 a1)&&&31)).toNat:Int).toNat 32)
 some (y342|||y343)
def Zjs (F:Nat):Fs ya:=⟨177,[.v .u32,.v (.int .i64)],[],[.u32,(.int .i64)],[⟨.ret,[(0,.v .u32)],[],[.u32]⟩],fun x=>ZG F x.1 x.2⟩
def Qe:Fs ya:=Zjs fuel
theorem ZbQ:Qe.Ok:=Ze (fi:={ hi:={ still:=[4]},lp:=[]}) (specs:={ l:=[]}) (okS trivial) trivial (by decide+kernel) (fun x=>by kernel_rfl)
def Zdj (F:Nat) (a0:(List UInt8)):Option (UInt32):=
 (idx a0 0).bind fun e344=>
 (idx a0 1).bind fun e345=>
 let y346:UInt32:=(QK (ybh e344.toNat) 24)|||(QK (ybh e345.toNat) 16)
 (idx a0 2).bind fun e347=>
 (idx a0 3).bind fun e348=>
 let y349:UInt32:=(y346|||(QK (ybh e347.toNat) 8))|||(ybh e348.toNat)
 some y349
def Zs2 (F:Nat):Fs ya:=⟨187,[.v (.sl .u8)],[],[(.sl .u8)],[⟨.ret,[(0,.v .u32)],[],[.u32]⟩],fun x=>Zdj F x⟩
def Zls:Fs ya:=Zs2 fuel
theorem Zs3:Zls.Ok:=Ze (fi:={ hi:={ still:=[2]},lp:=[]}) (specs:={ l:=[]}) (okS trivial) trivial (by decide+kernel) (fun x=>by kernel_rfl)
def Vr (F:Nat) (s:((List UInt8)×Int×(List UInt32))):Option (((List UInt8)×Int×(List UInt32))⊕(List UInt32)):=
 if (decide (s.2.1 < 64))=true then
  if (decide (s.2.1 < 16))=true then
   if (QS s.1.length (some (wi (4*s.2.1))) none)=true then
    (Zdj F (s.1.drop ((wi (4*s.2.1)).toNat))).bind fun o350=>
    if (inB s.2.1 64)=true then
     (s.2.2[s.2.1.toNat]?).bind fun e351=>
     some (.inl (s.1,wi (s.2.1+1),s.2.2.set s.2.1.toNat o350))
    else
    none
   else
   none
  else
  if (inB (wi (s.2.1 - 15)) 64)=true then
   (s.2.2[(wi (s.2.1 - 15)).toNat]?).bind fun e352=>
   if (inB (wi (s.2.1 - 2)) 64)=true then
    (s.2.2[(wi (s.2.1 - 2)).toNat]?).bind fun e353=>
    (ZG F e352 (-7:Int)).bind fun o354=>
    (ZG F e352 (-18:Int)).bind fun o355=>
    (ZG F e353 (-17:Int)).bind fun o356=>
    (ZG F e353 (-19:Int)).bind fun o357=>
    if (inB (wi (s.2.1 - 16)) 64)=true then
     (s.2.2[(wi (s.2.1 - 16)).toNat]?).bind fun e358=>
     if (inB (wi (s.2.1 - 7)) 64)=true then
      (s.2.2[(wi (s.2.1 - 7)).toNat]?).bind fun e359=>
      let y360:UInt32:=(e358+((o354^^^o355)^^^(ZcD e352 3)))+e359
      if (inB s.2.1 64)=true then
       (s.2.2[s.2.1.toNat]?).bind fun e361=>
       let y362:(List UInt32):=s.2.2.set s.2.1.toNat (y360+((o356^^^o357)^^^(ZcD e353 10)))
       some (.inl (s.1,wi (s.2.1+1),y362))
      else
      none
     else
     none
    else
    none
   else
   none
  else
  none
 else
 some (.inr s.2.2)
def Zf8:Lp:=⟨[(0,.v (.sl .u8)),(2,.ref 0 []),(8,.v (.int .i64))],[.var (.v (.arr 64 .u32)) true],[(.sl .u8),(.int .i64),(.arr 64 .u32)],[⟨.exit 0,[(2,.ref 0 [])],[.var (.v (.arr 64 .u32)) true],[(.arr 64 .u32)]⟩],Zc (Vr fuel) fuel⟩
theorem ZkG:Zf8.Ok ya (Zl ya 175) (Zk ya 175 0):=Zg (fi:={ hi:={ still:=[17,28,30,36,38]},lp:=[]}) (specs:={ l:=[Zls,Qe]}) (okS ⟨Zs3,ZbQ,trivial⟩) trivial (by kernel_rfl) (fun v=>by kernel_rfl)
def Zan (F:Nat) (a0:(List UInt8)):Option ((List UInt32)):=
 (Zc (Vr F) F (a0,(0:Int),([0,0,0,0,0,0,0,0,0,0,0,0,0,0,0,0,0,0,0,0,0,0,0,0,0,0,0,0,0,0,0,0,0,0,0,0,0,0,0,0,0,0,0,0,0,0,0,0,0,0,0,0,0,0,0,0,0,0,0,0,0,0,0,0]:List UInt32))).bind fun o363=>
 some o363
def ZoO (F:Nat):Fs ya:=⟨175,[.v (.sl .u8)],[],[(.sl .u8)],[⟨.ret,[(0,.v (.arr 64 .u32))],[],[(.arr 64 .u32)]⟩],fun x=>Zan F x⟩
def ZhW:Fs ya:=ZoO fuel
theorem ZoP:ZhW.Ok:=Ze (fi:={ hi:={ still:=[17,28,30,36,38]},lp:=[(0,Zf8)]}) (specs:={ l:=[]}) (okS trivial) ⟨ZkG,trivial⟩ (by decide+kernel) (fun x=>by kernel_rfl)
def Zjt (F:Nat):Option ((List UInt32)):=
 some ([1116352408,1899447441,3049323471,3921009573,961987163,1508970993,2453635748,2870763221,3624381080,310598401,607225278,1426881987,1925078388,2162078206,2614888103,3248222580,3835390401,4022224774,264347078,604807628,770255983,1249150122,1555081692,1996064986,2554220882,2821834349,2952996808,3210313671,3336571891,3584528711,113926993,338241895,666307205,773529912,1294757372,1396182291,1695183700,1986661051,2177026350,2456956037,2730485921,2820302411,3259730800,3345764771,3516065817,3600352804,4094571909,275423344,430227734,506948616,659060556,883997877,958139571,1322822218,1537002063,1747873779,1955562222,2024104815,2227730452,2361852424,2428436474,2756734187,3204031479,3329325298]:List UInt32)
def Zur (F:Nat):Fs ya:=⟨176,[],[],[],[⟨.ret,[(0,.v (.arr 64 .u32))],[],[(.arr 64 .u32)]⟩],fun x=>Zjt F⟩
def ZnC:Fs ya:=Zur fuel
theorem Zus:ZnC.Ok:=Ze (fi:={ hi:={},lp:=[]}) (specs:={ l:=[]}) (okS trivial) trivial (by decide+kernel) (fun x=>by kernel_rfl)
def WU (F:Nat) (s:(Int×(List UInt32)×(List UInt32)×(List UInt32)×(List UInt32)×(List UInt32))):Option ((Int×(List UInt32)×(List UInt32)×(List UInt32)×(List UInt32)×(List UInt32))⊕((List UInt32)×(List UInt32)×(List UInt32)×(List UInt32)×(List UInt32))):=
 if (decide (s.1 < 64))=true then
  (s.2.2.2.2.2[4]?).bind fun e366=>
  (ZG F e366 (-6:Int)).bind fun o367=>
  (s.2.2.2.2.2[4]?).bind fun e368=>
  (ZG F e368 (-11:Int)).bind fun o369=>
  (s.2.2.2.2.2[4]?).bind fun e370=>
  (ZG F e370 (-25:Int)).bind fun o371=>
  (s.2.2.2.2.2[7]?).bind fun e372=>
  (s.2.2.2.2.2[6]?).bind fun e373=>
  (s.2.2.2.2.2[4]?).bind fun e374=>
  (s.2.2.2.2.2[5]?).bind fun e375=>
  (s.2.2.2.2.2[6]?).bind fun e376=>
  let y377:UInt32:=(e372+((o367^^^o369)^^^o371))+(e373^^^(e374&&&(e375^^^e376)))
  if (inB s.1 64)=true then
   (s.2.2.2.2.1[s.1.toNat]?).bind fun e378=>
   if (inB s.1 64)=true then
    (s.2.2.2.1[s.1.toNat]?).bind fun e379=>
    (s.2.2.2.2.2[0]?).bind fun e380=>
    (ZG F e380 (-2:Int)).bind fun o381=>
    (s.2.2.2.2.2[0]?).bind fun e382=>
    (ZG F e382 (-13:Int)).bind fun o383=>
    (s.2.2.2.2.2[0]?).bind fun e384=>
    (ZG F e384 (-22:Int)).bind fun o385=>
    (s.2.2.2.2.2[0]?).bind fun e386=>
    (s.2.2.2.2.2[1]?).bind fun e387=>
    (s.2.2.2.2.2[2]?).bind fun e388=>
    (s.2.2.2.2.2[0]?).bind fun e389=>
    (s.2.2.2.2.2[1]?).bind fun e390=>
    let y391:UInt32:=((y377+e378)+e379)+((o381^^^o383)^^^o385)
    let y392:UInt32:=y391+((e386&&&e387)|||(e388&&&(e389|||e390)))
    (s.2.2.2.2.2[0]?).bind fun e393=>
    (s.2.2.2.2.2[1]?).bind fun e394=>
    (s.2.2.2.2.2[2]?).bind fun e395=>
    (s.2.2.2.2.2[3]?).bind fun e396=>
    (s.2.2.2.2.2[4]?).bind fun e397=>
    (s.2.2.2.2.2[5]?).bind fun e398=>
    (s.2.2.2.2.2[6]?).bind fun e399=>
    some (.inl (wi (s.1+1),s.2.1,s.2.2.1,s.2.2.2.1,s.2.2.2.2.1,([y392,e393,e394,e395,e396+((y377+e378)+e379),e397,e398,e399]:List UInt32)))
   else
   none
  else
  none
 else
 some (.inr (s.2.1,s.2.2.1,s.2.2.2.1,s.2.2.2.2.1,s.2.2.2.2.2))
def Ze3:Lp:=⟨[(2,.ref 0 []),(4,.ref 1 []),(5,.ref 2 []),(6,.ref 3 []),(7,.ref 4 []),(18,.v (.int .i64))],[.var (.v (.arr 8 .u32)) true,.var (.v (.arr 8 .u32)) true,.var (.v (.arr 64 .u32)) true,.var (.v (.arr 64 .u32)) true,.var (.v (.arr 8 .u32)) true],[(.int .i64),(.arr 8 .u32),(.arr 8 .u32),(.arr 64 .u32),(.arr 64 .u32),(.arr 8 .u32)],[⟨.exit 0,[(2,.ref 0 []),(4,.ref 1 []),(7,.ref 4 [])],[.var (.v (.arr 8 .u32)) true,.var (.v (.arr 8 .u32)) true,.var (.v (.arr 64 .u32)) true,.var (.v (.arr 64 .u32)) true,.var (.v (.arr 8 .u32)) true],[(.arr 8 .u32),(.arr 8 .u32),(.arr 64 .u32),(.arr 64 .u32),(.arr 8 .u32)]⟩],Zc (WU fuel) fuel⟩
theorem Zju:Ze3.Ok ya (Zl ya 157) (Zk ya 157 0):=Zg (fi:={ hi:={ still:=[14,22,25,29,57,60,64]},lp:=[]}) (specs:={ l:=[Qe]}) (okS ⟨ZbQ,trivial⟩) trivial (by kernel_rfl) (fun v=>by kernel_rfl)
def WV (F:Nat) (s:(Int×(List UInt32)×(List UInt32)×(List UInt32)×(List UInt32)×(List UInt32))):Option ((Int×(List UInt32)×(List UInt32)×(List UInt32)×(List UInt32)×(List UInt32))⊕((List UInt32)×(List UInt32)×(List UInt32)×(List UInt32)×(List UInt32))):=
 if (decide (s.1 < 8))=true then
  if (inB s.1 8)=true then
   (s.2.2.2.2.2[s.1.toNat]?).bind fun e401=>
   if (inB s.1 8)=true then
    (s.2.1[s.1.toNat]?).bind fun e402=>
    if (inB s.1 8)=true then
     (s.2.2.2.2.2[s.1.toNat]?).bind fun e403=>
     some (.inl (wi (s.1+1),s.2.1,s.2.2.1,s.2.2.2.1,s.2.2.2.2.1,s.2.2.2.2.2.set s.1.toNat (e401+e402)))
    else
    none
   else
   none
  else
  none
 else
 some (.inr (s.2.1,s.2.2.1,s.2.2.2.1,s.2.2.2.2.1,s.2.2.2.2.2))
def Ze4:Lp:=⟨[(2,.ref 0 []),(4,.ref 1 []),(7,.ref 4 []),(104,.v (.int .i64))],[.var (.v (.arr 8 .u32)) true,.var (.v (.arr 8 .u32)) true,.var (.v (.arr 64 .u32)) true,.var (.v (.arr 64 .u32)) true,.var (.v (.arr 8 .u32)) true],[(.int .i64),(.arr 8 .u32),(.arr 8 .u32),(.arr 64 .u32),(.arr 64 .u32),(.arr 8 .u32)],[⟨.exit 2,[(4,.ref 1 []),(7,.ref 4 [])],[.var (.v (.arr 8 .u32)) true,.var (.v (.arr 8 .u32)) true,.var (.v (.arr 64 .u32)) true,.var (.v (.arr 64 .u32)) true,.var (.v (.arr 8 .u32)) true],[(.arr 8 .u32),(.arr 8 .u32),(.arr 64 .u32),(.arr 64 .u32),(.arr 8 .u32)]⟩],Zc (WV fuel) fuel⟩
theorem Zjv:Ze4.Ok ya (Zl ya 157) (Zk ya 157 1):=Zg (fi:={ hi:={ still:=[14,22,25,29,57,60,64]},lp:=[]}) (specs:={ l:=[]}) (okS trivial) trivial (by kernel_rfl) (fun v=>by kernel_rfl)
def W6 (F:Nat) (a0:(List UInt32)) (a1:(List UInt8)):Option ((List UInt32)):=
 (Zan F a1).bind fun o364=>
 (Zjt F).bind fun o365=>
 (Zc (WU F) F ((0:Int),a0,([0,0,0,0,0,0,0,0]:List UInt32),o364,o365,a0)).bind fun o400=>
 (Zc (WV F) F ((0:Int),o400.1,o400.2.1,o400.2.2.1,o400.2.2.2.1,o400.2.2.2.2)).bind fun o404=>
 some o404.2.2.2.2
def ZnD (F:Nat):Fs ya:=⟨157,[.v (.arr 8 .u32),.v (.sl .u8)],[],[(.arr 8 .u32),(.sl .u8)],[⟨.ret,[(0,.v (.arr 8 .u32))],[],[(.arr 8 .u32)]⟩],fun x=>W6 F x.1 x.2⟩
def Zbd:Fs ya:=ZnD fuel
theorem Ze5:Zbd.Ok:=Ze (fi:={ hi:={ still:=[14,22,25,29,57,60,64]},lp:=[(0,Ze3),(1,Ze4)]}) (specs:={ l:=[ZhW,ZnC]}) (okS ⟨ZoP,Zus,trivial⟩) ⟨Zju,Zjv,trivial⟩ (by decide+kernel) (fun x=>by kernel_rfl)
def ZW (F:Nat) (a0:(List UInt8)):Option ((List UInt8)):=
 if (apB 0 a0.length 1)=true then
  some a0
 else
 none
def Zcs (F:Nat):Fs ya:=⟨149,[.sl true .u8],[],[(.sl .u8)],[⟨.ret,[(0,.own 0 .u8)],[.log .u8 5],[(.sl .u8)]⟩],fun x=>ZW F x⟩
def Zdk:Fs ya:=Zcs fuel
theorem Zct:Zdk.Ok:=Ze (fi:={ hi:={ own:=[2,5,7]},lp:=[]}) (specs:={ l:=[]}) (okS trivial) trivial (by decide+kernel) (fun x=>by kernel_rfl)
def VQ (F:Nat):Option ((List UInt8)):=
 some ([]:List UInt8)
def Zcu (F:Nat):Fs ya:=⟨149,[.nil .u8],[],[],[⟨.ret,[(0,.own 0 .u8)],[.log .u8 5],[(.sl .u8)]⟩],fun x=>VQ F⟩
def Zdl:Fs ya:=Zcu fuel
theorem Zcv:Zdl.Ok:=Ze (fi:={ hi:={ own:=[2,5,7]},lp:=[]}) (specs:={ l:=[]}) (okS trivial) trivial (by decide+kernel) (fun x=>by kernel_rfl)
def Zbe (F:Nat):Fs ya:=⟨149,[.v (.sl .u8)],[],[(.sl .u8)],[⟨.ret,[(0,.own 0 .u8)],[.log .u8 5],[(.sl .u8)]⟩],fun x=>ZW F x⟩
def WJ:Fs ya:=Zbe fuel
theorem Zbf:WJ.Ok:=Zsl (t:=.u8) (xs:=[⟨.ret,[(0,.own 0 .u8)],[.log .u8 5],[(.sl .u8)]⟩]) (MA:=fun (x:(List UInt8))=>ZW fuel x) (MB:=fun _=>VQ fuel) Zct Zcv rfl
def Zbw (F:Nat) (s:((List UInt8)×(List UInt8)×(List UInt8))):Option (((List UInt8)×(List UInt8)×(List UInt8))⊕((List UInt8)×(List UInt8)×(List UInt8))):=
 if ((Int.tmod (s.2.2.length:Int) 64)!=56)=true then
  if (apB s.2.2.length 1 1)=true then
   some (.inl (s.1,s.2.1,s.2.2++([0]:List UInt8)))
  else
  none
 else
 some (.inr (s.1,s.2.1,s.2.2))
def ZnE:Lp:=⟨[(0,.v (.sl .u8)),(2,.ref 0 []),(3,.own 1 .u8)],[.var (.v (.arr 32 .u8)) true,.log .u8 5],[(.sl .u8),(.arr 32 .u8),(.sl .u8)],[⟨.exit 0,[(0,.v (.sl .u8)),(2,.ref 0 []),(3,.own 1 .u8)],[.var (.v (.arr 32 .u8)) true,.log .u8 5],[(.sl .u8),(.arr 32 .u8),(.sl .u8)]⟩],Zc (Zbw fuel) fuel⟩
theorem Zqs:ZnE.Ok ya (Zl ya 117) (Zk ya 117 0):=Zg (fi:={ hi:={ own:=[3,14,16,21,23,24,28,43],still:=[13,24,27,35,37,44,46]},lp:=[]}) (specs:={ l:=[]}) (okS trivial) trivial (by kernel_rfl) (fun v=>by kernel_rfl)
def V6 (F:Nat) (s:(Int×Int×(List UInt8)×(List UInt8))):Option ((Int×Int×(List UInt8)×(List UInt8))⊕((List UInt8)×(List UInt8))):=
 if (decide (s.2.1 ≥ 0))=true then
  if (decide (0≤s.2.1))=true then
   if (apB s.2.2.1.length 1 1)=true then
    let y408:(List UInt8):=s.2.2.1++([w8 (Int.fdiv s.1 (2 ^ (min s.2.1.toNat 64)))]:List UInt8)
    some (.inl (s.1,wi (s.2.1 - 8),y408,s.2.2.2))
   else
   none
  else
  none
 else
 some (.inr (s.2.2.1,s.2.2.2))
def ZhX:Lp:=⟨[(0,.own 0 .u8),(1,.v (.int .i64)),(5,.v (.int .i64))],[.log .u8 5,.log .u8 5],[(.int .i64),(.int .i64),(.sl .u8),(.sl .u8)],[⟨.exit 0,[(0,.own 0 .u8)],[.log .u8 5,.log .u8 5],[(.sl .u8),(.sl .u8)]⟩],Zc (V6 fuel) fuel⟩
theorem Zl8:ZhX.Ok ya (Zl ya 116) (Zk ya 116 0):=Zg (fi:={ hi:={ own:=[0,4,10,16,17]},lp:=[]}) (specs:={ l:=[]}) (okS trivial) trivial (by kernel_rfl) (fun v=>by kernel_rfl)
def Vg (F:Nat) (a1:Int) (s0:(List UInt8)):Option ((List UInt8)):=
 (Zc (V6 F) F (a1,(56:Int),s0,([]:List UInt8))).bind fun o409=>
 some o409.1
def Zcw (F:Nat):Fs ya:=⟨116,[.own 0 .u8,.v (.int .i64)],[.log .u8 5],[(.int .i64),(.sl .u8)],[⟨.ret,[(0,.own 0 .u8)],[.log .u8 5],[(.sl .u8)]⟩],fun x=>Vg F x.1 x.2⟩
def Zd5:Fs ya:=Zcw fuel
theorem Zcx:Zd5.Ok:=Ze (fi:={ hi:={ own:=[0,4,10,16,17]},lp:=[(0,ZhX)]}) (specs:={ l:=[]}) (okS trivial) ⟨Zl8,trivial⟩ (by decide+kernel) (fun x=>by kernel_rfl)
def Zbx (F:Nat) (s:((List UInt8)×(List UInt8)×(List UInt8)×(List UInt32))):Option (((List UInt8)×(List UInt8)×(List UInt8)×(List UInt32))⊕((List UInt8)×(List UInt8)×(List UInt32))):=
 if (decide ((s.1.length:Int) ≥ 64))=true then
  if (QS s.1.length none (some 64))=true then
   (W6 F s.2.2.2 (s.1.take 64)).bind fun o412=>
   if (QS s.1.length (some 64) none)=true then
    some (.inl (s.1.drop 64,s.2.1,s.2.2.1,o412))
   else
   none
  else
  none
 else
 some (.inr (s.2.1,s.2.2.1,s.2.2.2))
def ZnF:Lp:=⟨[(0,.v (.sl .u8)),(2,.ref 0 []),(3,.own 1 .u8),(4,.ref 2 [])],[.var (.v (.arr 32 .u8)) true,.log .u8 5,.var (.v (.arr 8 .u32)) true],[(.sl .u8),(.arr 32 .u8),(.sl .u8),(.arr 8 .u32)],[⟨.exit 2,[(2,.ref 0 []),(3,.own 1 .u8),(4,.ref 2 [])],[.var (.v (.arr 32 .u8)) true,.log .u8 5,.var (.v (.arr 8 .u32)) true],[(.arr 32 .u8),(.sl .u8),(.arr 8 .u32)]⟩],Zc (Zbx fuel) fuel⟩
theorem Zqt:ZnF.Ok ya (Zl ya 117) (Zk ya 117 1):=Zg (fi:={ hi:={ own:=[3,14,16,21,23,24,28,43],still:=[13,24,27,35,37,44,46]},lp:=[]}) (specs:={ l:=[Zbd]}) (okS ⟨Ze5,trivial⟩) trivial (by kernel_rfl) (fun v=>by kernel_rfl)
def Zby (F:Nat) (s:((List UInt8)×(List UInt8)×(List UInt8)×(List UInt32))):Option (((List UInt8)×(List UInt8)×(List UInt8)×(List UInt32))⊕((List UInt8)×(List UInt8)×(List UInt32))):=
 if (decide ((s.1.length:Int) > 0))=true then
  if (QS s.1.length none (some 64))=true then
   (W6 F s.2.2.2 (s.1.take 64)).bind fun o415=>
   if (QS s.1.length (some 64) none)=true then
    some (.inl (s.1.drop 64,s.2.1,s.2.2.1,o415))
   else
   none
  else
  none
 else
 some (.inr (s.2.1,s.2.2.1,s.2.2.2))
def ZnG:Lp:=⟨[(2,.ref 0 []),(3,.v (.sl .u8)),(4,.ref 2 [])],[.var (.v (.arr 32 .u8)) true,.log .u8 5,.var (.v (.arr 8 .u32)) true],[(.sl .u8),(.arr 32 .u8),(.sl .u8),(.arr 8 .u32)],[⟨.exit 4,[(2,.ref 0 []),(4,.ref 2 [])],[.var (.v (.arr 32 .u8)) true,.log .u8 5,.var (.v (.arr 8 .u32)) true],[(.arr 32 .u8),(.sl .u8),(.arr 8 .u32)]⟩],Zc (Zby fuel) fuel⟩
theorem Zqu:ZnG.Ok ya (Zl ya 117) (Zk ya 117 2):=Zg (fi:={ hi:={ own:=[3,14,16,21,23,24,28,43],still:=[13,24,27,35,37,44,46]},lp:=[]}) (specs:={ l:=[Zbd]}) (okS ⟨Ze5,trivial⟩) trivial (by kernel_rfl) (fun v=>by kernel_rfl)
def Zbz (F:Nat) (s:(Int×(List UInt8)×(List UInt8)×(List UInt32))):Option ((Int×(List UInt8)×(List UInt8)×(List UInt32))⊕((List UInt8)×(List UInt8)×(List UInt32))):=
 if (decide (s.1 < 32))=true then
  if (inB (wi (Int.tdiv s.1 4)) 8)=true then
   (s.2.2.2[(wi (Int.tdiv s.1 4)).toNat]?).bind fun e417=>
   if (decide (0≤wi (24 - (wi (8*(Int.tmod s.1 4))))))=true then
    let y418:UInt32:=ZcD e417 (min (wi (24 - (wi (8*(Int.tmod s.1 4))))).toNat 32)
    if (inB s.1 32)=true then
     (s.2.1[s.1.toNat]?).bind fun e419=>
     some (.inl (wi (s.1+1),s.2.1.set s.1.toNat (w8 (y418.toNat:Int)),s.2.2.1,s.2.2.2))
    else
    none
   else
   none
  else
  none
 else
 some (.inr (s.2.1,s.2.2.1,s.2.2.2))
def ZnH:Lp:=⟨[(2,.ref 0 []),(4,.ref 2 []),(48,.v (.int .i64))],[.var (.v (.arr 32 .u8)) true,.log .u8 5,.var (.v (.arr 8 .u32)) true],[(.int .i64),(.arr 32 .u8),(.sl .u8),(.arr 8 .u32)],[⟨.exit 6,[(2,.ref 0 [])],[.var (.v (.arr 32 .u8)) true,.log .u8 5,.var (.v (.arr 8 .u32)) true],[(.arr 32 .u8),(.sl .u8),(.arr 8 .u32)]⟩],Zc (Zbz fuel) fuel⟩
theorem Zqv:ZnH.Ok ya (Zl ya 117) (Zk ya 117 3):=Zg (fi:={ hi:={ own:=[3,14,16,21,23,24,28,43],still:=[13,24,27,35,37,44,46]},lp:=[]}) (specs:={ l:=[]}) (okS trivial) trivial (by kernel_rfl) (fun v=>by kernel_rfl)
def Zd6 (F:Nat) (a0:(List UInt8)):Option ((List UInt8)):=
 let y405:Int:=wi ((a0.length:Int) - (Int.tmod (a0.length:Int) 64))
 if (QS a0.length (some y405) none)=true then
  (ZW F (a0.drop y405.toNat)).bind fun o406=>
  if (apB o406.length 1 1)=true then
   (Zc (Zbw F) F (a0,([0,0,0,0,0,0,0,0,0,0,0,0,0,0,0,0,0,0,0,0,0,0,0,0,0,0,0,0,0,0,0,0]:List UInt8),o406++([128]:List UInt8))).bind fun o407=>
   (Vg F (wi (8*(o407.1.length:Int))) o407.2.2).bind fun o410=>
   (Zjr F).bind fun o411=>
   (Zc (Zbx F) F (o407.1,o407.2.1,o410,o411)).bind fun o413=>
   (Zc (Zby F) F (o413.2.1,o413.1,o413.2.1,o413.2.2)).bind fun o416=>
   (Zc (Zbz F) F ((0:Int),o416.1,o416.2.1,o416.2.2)).bind fun o420=>
   some o420.1
  else
  none
 else
 none
def Zg2 (F:Nat):Fs ya:=⟨117,[.v (.sl .u8)],[],[(.sl .u8)],[⟨.ret,[(0,.v (.arr 32 .u8))],[],[(.arr 32 .u8)]⟩],fun x=>Zd6 F x⟩
def Zzw:Fs ya:=Zg2 fuel
theorem Zxl:Zzw.Ok:=Ze (fi:={ hi:={ own:=[3,14,16,21,23,24,28,43],still:=[13,24,27,35,37,44,46]},lp:=[(0,ZnE),(1,ZnF),(2,ZnG),(3,ZnH)]}) (specs:={ l:=[Zd5,WJ,ZnB]}) (okS ⟨Zcx,Zbf,Zuq,trivial⟩) ⟨Zqs,Zqt,Zqu,Zqv,trivial⟩ (by decide+kernel) (fun x=>by kernel_rfl)
end
end Go.Proofs.YtmkgbalfkhaflaaGreat
end
section
namespace Go.Sha
open Go.Ev
noncomputable def Ql {α:Type} (n:Nat) (k:Nat→α):α:=Nat.rec (motive:=fun _=>α) (k 0) (fun m _=>k (Nat.succ m)) n
theorem Xo {α:Type} (n:Nat) (k:Nat→α):Ql n k=k n:=by cases n <;> rfl
def dbl (x:Nat):Nat:=Nat.mul x 4294967297
def s0 (x:Nat):Nat:=Nat.xor (Nat.xor (yaa (dbl x) 7) (yaa (dbl x) 18)) (yaa x 3)
def s1 (x:Nat):Nat:=Nat.xor (Nat.xor (yaa (dbl x) 17) (yaa (dbl x) 19)) (yaa x 10)
def S0 (x:Nat):Nat:=Nat.xor (Nat.xor (yaa (dbl x) 2) (yaa (dbl x) 13)) (yaa (dbl x) 22)
def S1 (x:Nat):Nat:=Nat.xor (Nat.xor (yaa (dbl x) 6) (yaa (dbl x) 11)) (yaa (dbl x) 25)
def ch (e f g:Nat):Nat:=Nat.xor g (Nat.land e (Nat.xor f g))
def mj (a b c:Nat):Nat:=Nat.lor (Nat.land a b) (Nat.land c (Nat.lor a b))
def lo (x:Nat):Nat:=Nat.mod x 4294967296
def kw (W:Nat):Nat:=lo (yn (yn (yn (yaa W 480) (s0 (lo (yaa W 448)))) (lo (yaa W 192))) (s1 (lo (yaa W 32))))
def kn (W:Nat):Nat:=Nat.mod (yn (Nat.mul W 4294967296) (kw W)) (Nat.pow 2 512)
noncomputable def kst (k:Nat) (ih:Nat→Nat→Nat→Nat→Nat→Nat→Nat→Nat→Nat→Nat) (W a b c d e f g h:Nat):Nat:=
 Ql (yn (yn (yn (yn h (S1 e)) (ch e f g)) k) (yaa W 480)) fun t=>
     Ql (lo (yn (yn t (S0 a)) (mj a b c))) fun a'=>Ql (lo (yn d t)) fun e'=>Ql (kn W) fun W'=>ih W' a' a b c e' e f g
noncomputable def kgo (ks:List Nat) (K:Nat→Nat→Nat→Nat→Nat→Nat→Nat→Nat→Nat):Nat→Nat→Nat→Nat→Nat→Nat→Nat→Nat→Nat→Nat:=
 List.rec (motive:=fun _=>Nat→Nat→Nat→Nat→Nat→Nat→Nat→Nat→Nat→Nat) (fun _=>K) (fun k _ ih=>kst k ih) ks
def ks:List Nat:=[1116352408,1899447441,3049323471,3921009573,961987163,1508970993,2453635748,2870763221,3624381080,310598401,607225278,1426881987,1925078388,2162078206,2614888103,3248222580,3835390401,4022224774,264347078,604807628,770255983,1249150122,1555081692,1996064986,2554220882,2821834349,2952996808,3210313671,3336571891,3584528711,113926993,338241895,666307205,773529912,1294757372,1396182291,1695183700,1986661051,2177026350,2456956037,2730485921,2820302411,3259730800,3345764771,3516065817,3600352804,4094571909,275423344,430227734,506948616,659060556,883997877,958139571,1322822218,1537002063,1747873779,1955562222,2024104815,2227730452,2361852424,2428436474,2756734187,3204031479,3329325298]
def w32 (H i:Nat):Nat:=lo (yaa H i)
def cat (H x:Nat):Nat:=yn (Nat.mul H 4294967296) (lo x)
noncomputable def ZH8 (H B:Nat):Nat:=
 Ql (w32 H 224) fun a=>Ql (w32 H 192) fun b=>Ql (w32 H 160) fun c=>Ql (w32 H 128) fun d=>Ql (w32 H 96) fun e=>Ql (w32 H 64) fun f=>Ql (w32 H 32) fun g=>Ql (w32 H 0) fun h=>
  kgo ks (fun a' b' c' d' e' f' g' h'=>cat (cat (cat (cat (cat (cat (cat (cat 0 (yn a' a)) (yn b' b)) (yn c' c)) (yn d' d)) (yn e' e)) (yn f' f)) (yn g' g)) (yn h' h)) B a b c d e f g h
noncomputable def pk (l:List Nat) (n:Nat):Nat:=List.rec (motive:=fun _=>Nat→Nat) (fun n=>n) (fun x _ ih n=>Ql (yn (Nat.mul n 256) x) ih) l n
noncomputable def ZJM (n:Nat) (l:List Nat) (H:Nat):Nat:=
 Nat.rec (motive:=fun _=>List Nat→Nat→Nat) (fun _ H=>H) (fun _ ih l H=>Ql (ZH8 H (pk (l.take 64) 0)) fun H'=>ih (l.drop 64) H') n l H
noncomputable def Zdm (H:Nat) (l:List Nat):List UInt8:=List.rec (motive:=fun _=>List UInt8) [] (fun s _ ih=>Ql (Nat.mod (yaa H s) 256) fun x=>yal x::ih) l
def ZBo:List Nat:=[248,240,232,224,216,208,200,192,184,176,168,160,152,144,136,128,120,112,104,96,88,80,72,64,56,48,40,32,24,16,8,0]
def be8 (n:Nat):List Nat:=[n / 2 ^ 56 % 256,n / 2 ^ 48 % 256,n / 2 ^ 40 % 256,n / 2 ^ 32 % 256,n / 2 ^ 24 % 256,n / 2 ^ 16 % 256,n / 2 ^ 8 % 256,n % 256]
def zs (n:Nat):Nat:=(119 - n % 64) % 64
def H0:Nat:=cat (cat (cat (cat (cat (cat (cat (cat 0 1779033703) 3144134277) 1013904242) 2773480762) 1359893119) 2600822924) 528734635) 1541459225
noncomputable def sha (l:List UInt8):List UInt8:=
 Ql l.length fun n=>Ql (ZJM (Nat.div (yn n 72) 64) (l.map yad++(128::(yr (zs n) 0++be8 (8*n)))) H0) fun H=>Zdm H ZBo
theorem Qc (x y:UInt32):(x+y).toNat=lo (x.toNat+y.toNat):=by rw [UInt32.toNat_add];rfl
theorem Zlt (x y:UInt32):(x^^^y).toNat=Nat.xor x.toNat y.toNat:=UInt32.toNat_xor ..
theorem ZGh (x y:UInt32):(x&&&y).toNat=Nat.land x.toNat y.toNat:=UInt32.toNat_and ..
theorem Zxm (x y:UInt32):(x|||y).toNat=Nat.lor x.toNat y.toNat:=UInt32.toNat_or ..
theorem ZJN (x:UInt32):x.toNat < 4294967296:=x.toNat_lt
theorem Zvy (x:UInt32) (n:Nat):(ZcD x n).toNat=yaa x.toNat n:=by
 unfold ZcD
 rw [ych,show yaa x.toNat n=x.toNat >>> n from rfl,yct]
 exact yai (Nat.lt_of_le_of_lt (Nat.div_le_self _ _) (ZJN x))
theorem ZIz (x:Nat):lo x < 4294967296:=ybd _ (by omega)
theorem ZaG {x:Nat} (h:x < 4294967296):lo x=x:=yai h
theorem ZIA (x:UInt32) {n k:Nat} (h:n+k=32) (hn:0 < n):(QK x k|||ZcD x n).toNat=lo (yaa (dbl x.toNat) n):=by
 rw [Zxm,Zvy]
 unfold QK
 have hx:=ZJN x
 generalize x.toNat=m at hx
 have hp:2 ^ n*2 ^ k=4294967296:=by rw [←Nat.pow_add,h]
 rw [ych,show yaa m n=m >>> n from rfl,yct,show yaa (dbl m) n=(dbl m) >>> n from rfl,yct]
 have e1:m*2 ^ k % 2 ^ 32=2 ^ k*(m % 2 ^ n):=by
  rw [show (2:Nat) ^ 32=2 ^ n*2 ^ k from hp.symm,Nat.mul_mod_mul_right]
  exact ybe ..
 have hd:m / 2 ^ n < 2 ^ k:=by
  rw [Nat.div_lt_iff_lt_mul (Nat.two_pow_pos n),ybe,hp]
  exact hx
 rw [e1,show Nat.lor (2 ^ k*(m % 2 ^ n)) (m / 2 ^ n)=2 ^ k*(m % 2 ^ n)|||m / 2 ^ n from rfl, ←yco hd]
 have e2:dbl m=2 ^ n*(m*2 ^ k)+m:=by
  unfold dbl
  rw [Nat.mul_left_comm,hp,show Nat.mul m 4294967297=m*4294967297 from rfl]
  omega
 rw [e2,Nat.mul_add_div (Nat.two_pow_pos n)]
 unfold lo
 rw [show Nat.mod (m*2 ^ k+m / 2 ^ n) 4294967296=(m*2 ^ k+m / 2 ^ n) % 4294967296 from rfl,Nat.add_mod,show m*2 ^ k % 4294967296=2 ^ k*(m % 2 ^ n) from e1,yai (a:=m / 2 ^ n) (b:=4294967296) (by rw [←hp];exact Nat.lt_of_lt_of_le hd (Nat.le_mul_of_pos_left _ (Nat.two_pow_pos n)))]
 refine (yai ?_).symm
 have hm:m % 2 ^ n < 2 ^ n:=ybd _ (Nat.two_pow_pos n)
 calc 2 ^ k*(m % 2 ^ n)+m / 2 ^ n < 2 ^ k*(m % 2 ^ n)+2 ^ k:=by omega
  _=2 ^ k*(m % 2 ^ n+1):=by rw [Nat.mul_add,Nat.mul_one]
  _≤2 ^ k*2 ^ n:=Nat.mul_le_mul_left _ hm
  _=4294967296:=by rw [ybe,hp]
theorem Zjw (x y:Nat):lo (Nat.xor x y)=Nat.xor (lo x) (lo y):=Nat.xor_mod_two_pow (n:=32)
theorem ZGi (x:UInt32) (n:Nat):lo (yaa x.toNat n)=yaa x.toNat n:=by
 rw [←Zvy]
 exact ZaG (ZJN _)
theorem ZKu (x:UInt32) {a b:UInt32} (ha:a.toNat=lo (yaa (dbl x.toNat) 7)) (hb:b.toNat=lo (yaa (dbl x.toNat) 18)):((a^^^b)^^^ZcD x 3).toNat=lo (s0 x.toNat):=by
 unfold s0
 rw [Zlt,Zlt,Zvy,ha,hb,Zjw,Zjw,ZGi]
theorem ZKv (x:UInt32) {a b:UInt32} (ha:a.toNat=lo (yaa (dbl x.toNat) 17)) (hb:b.toNat=lo (yaa (dbl x.toNat) 19)):((a^^^b)^^^ZcD x 10).toNat=lo (s1 x.toNat):=by
 unfold s1
 rw [Zlt,Zlt,Zvy,ha,hb,Zjw,Zjw,ZGi]
theorem ZKw (x:UInt32) {a b c:UInt32} (ha:a.toNat=lo (yaa (dbl x.toNat) 2)) (hb:b.toNat=lo (yaa (dbl x.toNat) 13)) (hc:c.toNat=lo (yaa (dbl x.toNat) 22)):((a^^^b)^^^c).toNat=lo (S0 x.toNat):=by
 unfold S0
 rw [Zlt,Zlt,ha,hb,hc,Zjw,Zjw]
theorem ZKx (x:UInt32) {a b c:UInt32} (ha:a.toNat=lo (yaa (dbl x.toNat) 6)) (hb:b.toNat=lo (yaa (dbl x.toNat) 11)) (hc:c.toNat=lo (yaa (dbl x.toNat) 25)):((a^^^b)^^^c).toNat=lo (S1 x.toNat):=by
 unfold S1
 rw [Zlt,Zlt,ha,hb,hc,Zjw,Zjw]
theorem ZKy (e f g:UInt32):(g^^^(e&&&(f^^^g))).toNat=ch e.toNat f.toNat g.toNat:=by
 unfold ch
 rw [Zlt,ZGh,Zlt]
theorem ZKz (a b c:UInt32):((a&&&b)|||(c&&&(a|||b))).toNat=mj a.toNat b.toNat c.toNat:=by
 unfold mj
 rw [Zxm,ZGh,ZGh,Zxm]
theorem ZKA (a b c d:Nat):lo (lo (lo (a+lo b)+c)+lo d)=lo (a+b+c+d):=by
 show (((a+b % 4294967296) % 4294967296+c) % 4294967296+d % 4294967296) % 4294967296=(a+b+c+d) % 4294967296
 omega
theorem ZKB (a b c d e:Nat):lo (lo (lo (lo (a+lo b)+c)+d)+e)=lo (yn (yn (yn (yn a b) c) d) e):=by
 show ((((a+b % 4294967296) % 4294967296+c) % 4294967296+d) % 4294967296+e) % 4294967296=(a+b+c+d+e) % 4294967296
 omega
theorem ZKC (t s m:Nat):lo (lo (lo t+lo s)+m)=lo (yn (yn t s) m):=by
 show ((t % 4294967296+s % 4294967296) % 4294967296+m) % 4294967296=(t+s+m) % 4294967296
 omega
theorem ZKD (d t:Nat):lo (d+lo t)=lo (yn d t):=by
 show (d+t % 4294967296) % 4294967296=(d+t) % 4294967296
 omega
def pw (n:Nat) (l:List Nat):Nat:=l.foldl (fun n x=>n*4294967296+x) n
theorem ZBp:∀(l:List Nat) (n:Nat),(∀x,x∈l→x < 4294967296)→pw n l / 2 ^ (32*l.length)=n
 |[],n,_=>by simp [pw]
 |x::r,n,h=>by
  have ih:=ZBp r (n*4294967296+x) (fun y hy=>h y (List.mem_cons_of_mem _ hy))
  have hx:=h x (List.mem_cons_self ..)
  rw [show pw n (x::r)=pw (n*4294967296+x) r from rfl,yz,show 32*(r.length+1)=32*r.length+32 by omega,Nat.pow_add, ←Nat.div_div_eq_div_mul,ih]
  omega
theorem ZnI:∀(l:List Nat) (n:Nat),pw n l=n*2 ^ (32*l.length)+pw 0 l
 |[],n=>by simp [pw]
 |x::r,n=>by
  rw [show pw n (x::r)=pw (n*4294967296+x) r from rfl,show pw 0 (x::r)=pw (0*4294967296+x) r from rfl,ZnI r (n*4294967296+x),ZnI r (0*4294967296+x),yz,show 32*(r.length+1)=32+32*r.length by omega,Nat.pow_add,Nat.zero_mul,
   yax,Nat.add_mul, ←Nat.mul_assoc,Nat.add_assoc]
theorem ZIB:∀(l:List Nat),(∀x,x∈l→x < 4294967296)→pw 0 l < 2 ^ (32*l.length)
 |[],_=>by simp [pw]
 |x::r,h=>by
  have ih:=ZIB r (fun y hy=>h y (List.mem_cons_of_mem _ hy))
  have hx:=h x (List.mem_cons_self ..)
  rw [show pw 0 (x::r)=pw (0*4294967296+x) r from rfl,ZnI,yz,show 32*(r.length+1)=32+32*r.length by omega,Nat.pow_add,Nat.zero_mul,yax]
  have:(x+1)*2 ^ (32*r.length)≤2 ^ 32*2 ^ (32*r.length):=Nat.mul_le_mul_right _ (by omega)
  rw [Nat.add_mul,Nat.one_mul] at this
  omega
theorem ZIC {n x s:Nat} {r:List Nat} (h:∀y,y∈r→y < 4294967296) (hs:s=32*r.length):yaa (pw n (x::r)) s=n*4294967296+x:=by
 subst hs
 rw [show yaa (pw n (x::r)) (32*r.length)=pw n (x::r) >>> (32*r.length) from rfl,yct]
 exact ZBp r (n*4294967296+x) h
theorem ZID {n x s:Nat} {r:List Nat} (hx:x < 4294967296) (h:∀y,y∈r→y < 4294967296) (hs:s=32*r.length):lo (yaa (pw n (x::r)) s)=x:=by
 rw [ZIC h hs]
 show (n*4294967296+x) % 4294967296=x
 omega
theorem ZBq (n:Nat) (l r:List Nat):pw n (l++r)=pw (pw n l) r:=List.foldl_append ..
theorem ZCA (n x:Nat) (r:List Nat):pw n (x::r)=pw (n*4294967296+x) r:=rfl
theorem Ze6 {v l r:List Nat} {x s:Nat} (e:v=l++x::r) (h:∀y,y∈v→y < 4294967296) (hs:s=32*r.length):lo (yaa (pw 0 v) s)=x:=by
 rw [e] at h ⊢
 rw [ZBq]
 exact ZID (h x (by simp)) (fun y hy=>h y (by simp [hy])) hs
def wd (ws:List Nat) (n:Nat):Nat:=if h:n < 16 then lo (ws.getD n 0) else lo (wd ws (n - 16)+s0 (wd ws (n - 15))+wd ws (n - 7)+s1 (wd ws (n - 2)))
termination_by n
decreasing_by all_goals omega
theorem ZKE (ws:List Nat) (n:Nat):wd ws n < 4294967296:=by
 rw [wd]
 split <;> exact ZIz _
theorem Zxn (ws:List Nat) (n:Nat):wd ws (n+16)=lo (wd ws n+s0 (wd ws (n+1))+wd ws (n+9)+s1 (wd ws (n+14))):=by
 rw [wd,dif_neg (by omega)]
 simp only [Nat.add_sub_cancel,show n+16 - 15=n+1 by omega,show n+16 - 7=n+9 by omega,show n+16 - 2=n+14 by omega]
def win (ws:List Nat) (i:Nat):List Nat:=[wd ws i,wd ws (i+1),wd ws (i+2),wd ws (i+3),wd ws (i+4),wd ws (i+5),wd ws (i+6),wd ws (i+7),wd ws (i+8),wd ws (i+9),wd ws (i+10),wd ws (i+11),wd ws (i+12),wd ws (i+13),wd ws (i+14),wd ws (i+15)]
theorem ZBr {ws:List Nat} {i:Nat} {l:List Nat} (h:∀x,x∈l→∃j,x=wd ws j):∀x,x∈l→x < 4294967296:=fun x hx=>by
 obtain ⟨j,rfl⟩:=h x hx
 exact ZKE _ _
theorem ZCB (ws:List Nat) (i:Nat):yaa (pw 0 (win ws i)) 480=wd ws i:=by
 have h:=ZIC (n:=0) (x:=wd ws i) (s:=480) (r:=(win ws i).tail) (ZBr (ws:=ws) (i:=i) (fun x hx=>by
  simp only [win,List.tail_cons,yby,List.not_mem_nil,or_false] at hx
  rcases hx with h|h|h|h|h|h|h|h|h|h|h|h|h|h|h <;> exact ⟨_,h⟩)) rfl
 rw [Nat.zero_mul,yax] at h
 exact h
theorem ZJO (ws:List Nat) (i:Nat):kw (pw 0 (win ws i))=wd ws (i+16):=by
 have key:∀(l r:List Nat) (x s:Nat),win ws i=l++x::r→s=32*r.length→lo (yaa (pw 0 (win ws i)) s)=x:=by
  intro l r x s e hs
  have hall:∀y,y∈win ws i→y < 4294967296:=ZBr (i:=i) fun x hx=>by
   simp only [win,yby,List.not_mem_nil,or_false] at hx
   rcases hx with h|h|h|h|h|h|h|h|h|h|h|h|h|h|h|h <;> exact ⟨_,h⟩
  rw [e] at hall ⊢
  rw [ZBq]
  exact ZID (hall x (by simp)) (fun y hy=>hall y (by simp [hy])) hs
 unfold kw
 rw [ZCB,key [_] _ (wd ws (i+1)) 448 rfl rfl,key [_,_,_,_,_,_,_,_,_] _ (wd ws (i+9)) 192 rfl rfl,key [_,_,_,_,_,_,_,_,_,_,_,_,_,_] _ (wd ws (i+14)) 32 rfl rfl,Zxn]
 rfl
theorem ZH9 (a b m:Nat) (h:b < 2 ^ m):Nat.mod (a*2 ^ m+b) (Nat.pow 2 m)=b:=by
 show (a*2 ^ m+b) % 2 ^ m=b
 rw [ybe,Nat.mul_add_mod]
 exact yai h
theorem ZJP (ws:List Nat) (i:Nat):kn (pw 0 (win ws i))=pw 0 (win ws (i+1)):=by
 have e:yn (Nat.mul (pw 0 (win ws i)) 4294967296) (kw (pw 0 (win ws i)))=pw (wd ws i) (win ws (i+1)):=by
  rw [ZJO]
  show pw 0 (win ws i)*4294967296+wd ws (i+16)=pw (wd ws i) (win ws (i+1))
  rw [show wd ws i=0*4294967296+wd ws i by omega]
  rfl
 unfold kn
 rw [e,ZnI]
 have hl:(win ws (i+1)).length=16:=rfl
 have hlt:=ZIB (win ws (i+1)) (ZBr (i:=i+1) fun x hx=>by
  simp only [win,yby,List.not_mem_nil,or_false] at hx
  rcases hx with h|h|h|h|h|h|h|h|h|h|h|h|h|h|h|h <;> exact ⟨_,h⟩)
 rw [show 512=32*(win ws (i+1)).length by rw [hl]]
 exact ZH9 _ _ _ hlt
def rnd (v:List Nat) (k w:Nat):List Nat:=match v with
 |[a,b,c,d,e,f,g,h]=>[lo (yn (yn (yn (yn (yn (yn h (S1 e)) (ch e f g)) k) w) (S0 a)) (mj a b c)),a,b,c,lo (yn d (yn (yn (yn (yn h (S1 e)) (ch e f g)) k) w)),e,f,g]
 |_=>[]
def rs (ws v:List Nat):Nat→List Nat
 |0=>v
 |i+1=>rnd (rs ws v i) (ks.getD i 0) (wd ws i)
theorem ZIa {v:List Nat} (h:v.length=8) (k w:Nat):(rnd v k w).length=8:=by
 match v,h with
 |[a,b,c,d,e,f,g,h],_=>rfl
theorem Zxo {ws v:List Nat} (h:v.length=8):∀i,(rs ws v i).length=8
 |0=>h
 |i+1=>ZIa (Zxo h i) _ _
noncomputable def ZGj (f:Nat→Nat→Nat→Nat→Nat→Nat→Nat→Nat→Nat) (v:List Nat):Nat:=match v with
 |[a,b,c,d,e,f',g,h]=>f a b c d e f' g h
 |_=>0
theorem Zku {F:Nat→Nat→Nat→Nat→Nat→Nat→Nat→Nat→Nat} {a b c d e f g h:Nat}:ZGj F [a,b,c,d,e,f,g,h]=F a b c d e f g h:=rfl
theorem ZGk (k:Nat) (l:List Nat) (K:Nat→Nat→Nat→Nat→Nat→Nat→Nat→Nat→Nat):kgo (k::l) K=kst k (kgo l K):=rfl
theorem Zs4 (a b c d e f g h k w:Nat):rnd [a,b,c,d,e,f,g,h] k w=[lo (yn (yn (yn (yn (yn (yn h (S1 e)) (ch e f g)) k) w) (S0 a)) (mj a b c)),a,b,c,lo (yn d (yn (yn (yn (yn h (S1 e)) (ch e f g)) k) w)),e,f,g]:=rfl
theorem ZJQ (k:Nat) (ih:Nat→Nat→Nat→Nat→Nat→Nat→Nat→Nat→Nat→Nat) (W a b c d e f g h:Nat):kst k ih W a b c d e f g h=
 ih (kn W) (lo (yn (yn (yn (yn (yn (yn h (S1 e)) (ch e f g)) k) (yaa W 480)) (S0 a)) (mj a b c))) a b c (lo (yn d (yn (yn (yn (yn h (S1 e)) (ch e f g)) k) (yaa W 480)))) e f g:=by
 unfold kst
 rw [Xo,Xo,Xo,Xo]
theorem ZGl {ws v:List Nat} {K:Nat→Nat→Nat→Nat→Nat→Nat→Nat→Nat→Nat} {k w:Nat} {l:List Nat} (hv:v.length=8) {W:Nat} (hW:yaa W 480=w):ZGj (kgo (k::l) K W) v=ZGj (kgo l K (kn W)) (rnd v k w):=by
 match v,hv with
 |[a,b,c,d,e,f,g,h],_=>
  rw [ZGk,Zku,ZJQ,hW,Zs4,Zku]
theorem ZCC {ws v:List Nat} {K:Nat→Nat→Nat→Nat→Nat→Nat→Nat→Nat→Nat} (hv:v.length=8):∀(m i:Nat),i+m=64→ZGj (kgo (ks.drop i) K (pw 0 (win ws i))) (rs ws v i)=ZGj K (rs ws v 64)
 |0,i,h=>by
  have e:i=64:=by omega
  subst e
  rw [show ks.drop 64=[] from rfl]
  generalize pw 0 (win ws 64)=W
  rfl
 |m+1,i,h=>by
  have hi:i < ks.length:=by show i < 64;omega
  rw [List.drop_eq_getElem_cons hi,ZGl (ws:=ws) (Zxo hv i) (ZCB ws i),ZJP]
  have:=ZCC (ws:=ws) (K:=K) hv m (i+1) (by omega)
  rw [show rs ws v (i+1)=rnd (rs ws v i) (ks.getD i 0) (wd ws i) from rfl,show ks.getD i 0=ks[i] by rw [ycn,yw hi];rfl] at this
  exact this
def Zg3 (v ws:List Nat):List Nat:=List.zipWith (fun x y=>lo (x+y)) (rs ws v 64) v
theorem Zd7 {v ws:List Nat} (h:v.length=8):(Zg3 v ws).length=8:=by
 rw [Zg3,List.length_zipWith,Zxo h,h]
 rfl
theorem ZCD {v ws:List Nat}:∀x,x∈Zg3 v ws→x < 4294967296:=by
 intro x hx
 unfold Zg3 at hx
 rw [List.mem_iff_getElem] at hx
 obtain ⟨i,hi,rfl⟩:=hx
 rw [List.getElem_zipWith]
 exact ZIz _
theorem ZIb {v ws:List Nat} (hv:v.length=8) (hlt:∀x,x∈v→x < 4294967296) (hw:ws.length=16) (hwl:∀x,x∈ws→x < 4294967296):ZH8 (pw 0 v) (pw 0 ws)=pw 0 (Zg3 v ws):=by
 have e0:ws=win ws 0:=by
  match ws,hw with
  |[a0,a1,a2,a3,a4,a5,a6,a7,a8,a9,a10,a11,a12,a13,a14,a15],_=>
   simp only [yby,List.not_mem_nil,or_false,forall_eq_or_imp,forall_eq] at hwl
   obtain ⟨h0,h1,h2,h3,h4,h5,h6,h7,h8,h9,h10,h11,h12,h13,h14,h15⟩:=hwl
   have hs:∀n,n < 16→wd [a0,a1,a2,a3,a4,a5,a6,a7,a8,a9,a10,a11,a12,a13,a14,a15] n=lo ([a0,a1,a2,a3,a4,a5,a6,a7,a8,a9,a10,a11,a12,a13,a14,a15].getD n 0):=fun n hn=>by rw [wd,dif_pos hn]
   unfold win
   rw [hs 0 (by omega),hs (0+1) (by omega),hs (0+2) (by omega),hs (0+3) (by omega),hs (0+4) (by omega),hs (0+5) (by omega),hs (0+6) (by omega),hs (0+7) (by omega),hs (0+8) (by omega),hs (0+9) (by omega),hs (0+10) (by omega),hs (0+11) (by omega),hs (0+12) (by omega),hs (0+13) (by omega),hs (0+14) (by omega),hs (0+15) (by omega)]
   show _=[lo a0,lo a1,lo a2,lo a3,lo a4,lo a5,lo a6,lo a7,lo a8,lo a9,lo a10,lo a11,lo a12,lo a13,lo a14,lo a15]
   rw [ZaG h0,ZaG h1,ZaG h2,ZaG h3,ZaG h4,ZaG h5,ZaG h6,ZaG h7,ZaG h8,ZaG h9,ZaG h10,ZaG h11,ZaG h12,ZaG h13,ZaG h14,ZaG h15]
 match v,hv with
 |[a,b,c,d,e,f,g,h],hv=>
  have ea:w32 (pw 0 [a,b,c,d,e,f,g,h]) 224=a:=Ze6 (l:=[]) (r:=[b,c,d,e,f,g,h]) rfl hlt rfl
  have eb:w32 (pw 0 [a,b,c,d,e,f,g,h]) 192=b:=Ze6 (l:=[a]) (r:=[c,d,e,f,g,h]) rfl hlt rfl
  have ec:w32 (pw 0 [a,b,c,d,e,f,g,h]) 160=c:=Ze6 (l:=[a,b]) (r:=[d,e,f,g,h]) rfl hlt rfl
  have ed:w32 (pw 0 [a,b,c,d,e,f,g,h]) 128=d:=Ze6 (l:=[a,b,c]) (r:=[e,f,g,h]) rfl hlt rfl
  have ee:w32 (pw 0 [a,b,c,d,e,f,g,h]) 96=e:=Ze6 (l:=[a,b,c,d]) (r:=[f,g,h]) rfl hlt rfl
  have ef:w32 (pw 0 [a,b,c,d,e,f,g,h]) 64=f:=Ze6 (l:=[a,b,c,d,e]) (r:=[g,h]) rfl hlt rfl
  have eg:w32 (pw 0 [a,b,c,d,e,f,g,h]) 32=g:=Ze6 (l:=[a,b,c,d,e,f]) (r:=[h]) rfl hlt rfl
  have eh:w32 (pw 0 [a,b,c,d,e,f,g,h]) 0=h:=Ze6 (l:=[a,b,c,d,e,f,g]) (r:=[]) rfl hlt rfl
  unfold ZH8
  rw [ea,eb,ec,ed,ee,ef,eg,eh,Xo,Xo,Xo,Xo,Xo,Xo,Xo,Xo]
  have hr:=ZCC (ws:=ws) (v:=[a,b,c,d,e,f,g,h]) (K:=fun a' b' c' d' e' f' g' h'=>cat (cat (cat (cat (cat (cat (cat (cat 0 (yn a' a)) (yn b' b)) (yn c' c)) (yn d' d)) (yn e' e)) (yn f' f)) (yn g' g)) (yn h' h)) rfl 64 0 rfl
  rw [←e0,show ks.drop 0=ks from rfl,show rs ws [a,b,c,d,e,f,g,h] 0=[a,b,c,d,e,f,g,h] from rfl,Zku] at hr
  rw [hr]
  unfold Zg3
  generalize rs ws [a,b,c,d,e,f,g,h] 64=q,Zxo (ws:=ws) hv 64=hq
  match q,hq with
  |[a',b',c',d',e',f',g',h'],_=>
   rw [Zku]
   simp only [List.zipWith_cons_cons,List.zipWith_nil_right,ZCA,cat]
   rfl
theorem Zq0 (x:Nat) (l:List Nat) (n:Nat):pk (x::l) n=pk l (n*256+x):=by
 show Ql (yn (Nat.mul n 256) x) (pk l)=_
 rw [Xo]
 rfl
def ZZ:List Nat→List Nat
 |a::b::c::d::r=>(((a*256+b)*256+c)*256+d)::ZZ r
 |_=>[]
theorem Zzx:∀(m:Nat) (l:List Nat) (n:Nat),l.length=4*m→pk l n=pw n (ZZ l)
 |0,[],n,_=>rfl
 |0,_::_,_,h=>by simp at h
 |m+1,[],_,h=>by simp at h
 |m+1,[_],_,h=>by simp at h;omega
 |m+1,[_,_],_,h=>by simp at h;omega
 |m+1,[_,_,_],_,h=>by simp at h;omega
 |m+1,a::b::c::d::r,n,h=>by
  rw [Zq0,Zq0,Zq0,Zq0,ZZ]
  rw [Zzx m r _ (by simp at h;omega),ZCA]
  have e:(((n*256+a)*256+b)*256+c)*256+d=n*4294967296+(((a*256+b)*256+c)*256+d):=by omega
  rw [e]
theorem ZpP:∀(m:Nat) (l:List Nat),l.length=4*m→(ZZ l).length=m
 |0,[],_=>rfl
 |0,_::_,h=>by simp at h
 |m+1,[],h=>by simp at h
 |m+1,[_],h=>by simp at h;omega
 |m+1,[_,_],h=>by simp at h;omega
 |m+1,[_,_,_],h=>by simp at h;omega
 |m+1,a::b::c::d::r,h=>by
  rw [ZZ,yz,ZpP m r (by simp at h;omega)]
theorem Zs5:∀(m:Nat) (l:List Nat),l.length=4*m→(∀x,x∈l→x < 256)→∀x,x∈ZZ l→x < 4294967296
 |0,[],_,_,x,hx=>by simp [ZZ] at hx
 |0,_::_,h,_,_,_=>by simp at h
 |m+1,[],h,_,_,_=>by simp at h
 |m+1,[_],h,_,_,_=>by simp at h;omega
 |m+1,[_,_],h,_,_,_=>by simp at h;omega
 |m+1,[_,_,_],h,_,_,_=>by simp at h;omega
 |m+1,a::b::c::d::r,h,hl,x,hx=>by
  rw [ZZ] at hx
  have h1:=hl a (by simp)
  have h2:=hl b (by simp)
  have h3:=hl c (by simp)
  have h4:=hl d (by simp)
  rcases yby.1 hx with rfl|hx
  ·omega
  ·exact Zs5 m r (by simp at h;omega) (fun y hy=>hl y (by simp [hy])) x hx
theorem Zjx:∀(i:Nat) (l:List Nat) (a b c d:Nat),l[4*i]? =some a→l[4*i+1]? =some b→l[4*i+2]? =some c→l[4*i+3]? =some d→(ZZ l)[i]? =some (((a*256+b)*256+c)*256+d)
 |0,[],_,_,_,_,h,_,_,_=>by simp at h
 |0,[_],_,_,_,_,_,h,_,_=>by simp at h
 |0,[_,_],_,_,_,_,_,_,h,_=>by simp at h
 |0,[_,_,_],_,_,_,_,_,_,_,h=>by simp at h
 |0,a::b::c::d::r,_,_,_,_,h1,h2,h3,h4=>by
  simp at h1 h2 h3 h4
  subst h1 h2 h3 h4
  rfl
 |i+1,[],_,_,_,_,h,_,_,_=>by simp at h
 |i+1,[_],_,_,_,_,h,_,_,_=>by simp [show 4*(i+1)=4*i+3+1 by omega] at h
 |i+1,[_,_],_,_,_,_,h,_,_,_=>by simp [show 4*(i+1)=4*i+2+1+1 by omega] at h
 |i+1,[_,_,_],_,_,_,_,h,_,_,_=>by simp [show 4*(i+1)=4*i+1+1+1+1 by omega] at h
 |i+1,a::b::c::d::r,_,_,_,_,h1,h2,h3,h4=>by
  rw [ZZ,yaj]
  exact Zjx i r _ _ _ _ (by simpa [show 4*(i+1)=4*i+1+1+1+1 by omega] using h1) (by simpa [show 4*(i+1)+1=4*i+1+1+1+1+1 by omega] using h2)
   (by simpa [show 4*(i+1)+2=4*i+2+1+1+1+1 by omega] using h3) (by simpa [show 4*(i+1)+3=4*i+3+1+1+1+1 by omega] using h4)
def Zd8:Nat→List Nat→List Nat→List Nat
 |0,_,v=>v
 |n+1,l,v=>Zd8 n (l.drop 64) (Zg3 v (ZZ (l.take 64)))
theorem ZCE:∀(n:Nat) (l v:List Nat),l.length=64*n→(∀x,x∈l→x < 256)→v.length=8→(∀x,x∈v→x < 4294967296)→ZJM n l (pw 0 v)=pw 0 (Zd8 n l v)
 |0,l,v,_,_,_,_=>rfl
 |n+1,l,v,h1,h2,h3,h4=>by
  show Ql (ZH8 (pw 0 v) (pk (l.take 64) 0)) (ZJM n (l.drop 64))=_
  have hl:(l.take 64).length=4*16:=by rw [yab];omega
  rw [Xo,Zzx 16 _ 0 hl,ZIb h3 h4 (ZpP 16 _ hl) (Zs5 16 _ hl fun x hx=>h2 x (List.mem_of_mem_take hx))]
  exact ZCE n (l.drop 64) _ (by rw [ybn];omega) (fun x hx=>h2 x (List.mem_of_mem_drop hx)) (Zd7 h3) ZCD
theorem Zzy:∀(n:Nat) (l v:List Nat),v.length=8→(Zd8 n l v).length=8
 |0,_,_,h=>h
 |n+1,l,v,h=>Zzy n _ _ (Zd7 h)
theorem ZCF:∀(n:Nat) (l v:List Nat),(∀x,x∈v→x < 4294967296)→∀x,x∈Zd8 n l v→x < 4294967296
 |0,_,_,h=>h
 |n+1,l,v,h=>ZCF n _ _ ZCD
theorem Zs6:∀(n m:Nat) (l r v:List Nat),l.length=64*n→Zd8 (n+m) (l++r) v=Zd8 m r (Zd8 n l v)
 |0,m,l,r,v,h=>by
  have:l=[]:=List.length_eq_zero_iff.1 (by omega)
  subst this
  rw [yax]
  rfl
 |n+1,m,l,r,v,h=>by
  rw [show n+1+m=(n+m)+1 by omega,Zd8,List.drop_append_of_le_length (by omega),List.take_append_of_le_length (by omega),Zs6 n m _ r _ (by rw [ybn];omega)]
  rfl
theorem Zkv:∀(c:Nat) (l v:List Nat),Zd8 (c+1) l v=Zg3 (Zd8 c l v) (ZZ ((l.drop (64*c)).take 64))
 |0,l,v=>by rw [Nat.mul_zero,List.drop_zero];rfl
 |c+1,l,v=>by
  rw [show Zd8 (c+1+1) l v=Zd8 (c+1) (l.drop 64) (Zg3 v (ZZ (l.take 64))) from rfl,Zkv c,List.drop_drop,show 64+64*c=64*(c+1) by omega]
  rfl
theorem Zzz (ws:List Nat) {n x:Nat} (hn:n < 16) (h:ws[n]? =some x) (hx:x < 4294967296):wd ws n=x:=by
 rw [wd,dif_pos hn,ycn,h]
 exact ZaG hx
def ZGm (v:List Nat) (k:Nat):UInt8:=yal (v.getD (k / 4) 0 / 2 ^ (24 - 8*(k % 4)))
theorem ZIc {v:List Nat} (hv:v.length=8) (hlt:∀x,x∈v→x < 4294967296):Zdm (pw 0 v) ZBo=(List.range 32).map (ZGm v):=by
 have hgo:∀(H:Nat) (l:List Nat),Zdm H l=l.map fun s=>yal (H / 2 ^ s % 256):=by
  intro H l
  induction l with
  |nil=>rfl
  |cons s r ih=>
   show Ql (Nat.mod (yaa H s) 256) (fun x=>yal x::Zdm H r)=_
   rw [Xo,ih,yx,show yaa H s=H >>> s from rfl,yct]
   rfl
 have hb:∀(l r:List Nat) (x j s:Nat),v=l++x::r→j≤24→s=32*r.length+j→yal (pw 0 v / 2 ^ s % 256)=yal (x / 2 ^ j):=by
  intro l r x j s e hj hs
  have hall:=hlt
  rw [e] at hall
  have h1:pw 0 v / 2 ^ (32*r.length)=pw 0 l*4294967296+x:=by
   rw [e,ZBq]
   exact ZBp r _ (fun y hy=>hall y (by simp [hy]))
  rw [hs,Nat.pow_add, ←Nat.div_div_eq_div_mul,h1]
  have h2:pw 0 l*4294967296+x=2 ^ j*(pw 0 l*2 ^ (24 - j)*256)+x:=by
   rw [show (4294967296:Nat)=2 ^ j*2 ^ (24 - j)*256 by rw [←Nat.pow_add,show j+(24 - j)=24 by omega]]
   congr 1
   ac_rfl
  rw [h2,Nat.mul_add_div (Nat.two_pow_pos j),ybe (pw 0 l*2 ^ (24 - j)) 256,Nat.mul_add_mod]
  exact UInt8.toNat_inj.1 (by simp)
 match v,hv with
 |[a,b,c,d,e,f,g,h],_=>
  rw [hgo]
  simp only [ZBo,yx,List.map_nil]
  rw [hb [] [b,c,d,e,f,g,h] a 24 248 rfl (by omega) rfl,hb [] [b,c,d,e,f,g,h] a 16 240 rfl (by omega) rfl,hb [] [b,c,d,e,f,g,h] a 8 232 rfl (by omega) rfl,hb [] [b,c,d,e,f,g,h] a 0 224 rfl (by omega) rfl,
   hb [a] [c,d,e,f,g,h] b 24 216 rfl (by omega) rfl,hb [a] [c,d,e,f,g,h] b 16 208 rfl (by omega) rfl,hb [a] [c,d,e,f,g,h] b 8 200 rfl (by omega) rfl,hb [a] [c,d,e,f,g,h] b 0 192 rfl (by omega) rfl,
   hb [a,b] [d,e,f,g,h] c 24 184 rfl (by omega) rfl,hb [a,b] [d,e,f,g,h] c 16 176 rfl (by omega) rfl,hb [a,b] [d,e,f,g,h] c 8 168 rfl (by omega) rfl,hb [a,b] [d,e,f,g,h] c 0 160 rfl (by omega) rfl,
   hb [a,b,c] [e,f,g,h] d 24 152 rfl (by omega) rfl,hb [a,b,c] [e,f,g,h] d 16 144 rfl (by omega) rfl,hb [a,b,c] [e,f,g,h] d 8 136 rfl (by omega) rfl,hb [a,b,c] [e,f,g,h] d 0 128 rfl (by omega) rfl,
   hb [a,b,c,d] [f,g,h] e 24 120 rfl (by omega) rfl,hb [a,b,c,d] [f,g,h] e 16 112 rfl (by omega) rfl,hb [a,b,c,d] [f,g,h] e 8 104 rfl (by omega) rfl,hb [a,b,c,d] [f,g,h] e 0 96 rfl (by omega) rfl,
   hb [a,b,c,d,e] [g,h] f 24 88 rfl (by omega) rfl,hb [a,b,c,d,e] [g,h] f 16 80 rfl (by omega) rfl,hb [a,b,c,d,e] [g,h] f 8 72 rfl (by omega) rfl,hb [a,b,c,d,e] [g,h] f 0 64 rfl (by omega) rfl,
   hb [a,b,c,d,e,f] [h] g 24 56 rfl (by omega) rfl,hb [a,b,c,d,e,f] [h] g 16 48 rfl (by omega) rfl,hb [a,b,c,d,e,f] [h] g 8 40 rfl (by omega) rfl,hb [a,b,c,d,e,f] [h] g 0 32 rfl (by omega) rfl,
   hb [a,b,c,d,e,f,g] [] h 24 24 rfl (by omega) rfl,hb [a,b,c,d,e,f,g] [] h 16 16 rfl (by omega) rfl,hb [a,b,c,d,e,f,g] [] h 8 8 rfl (by omega) rfl,hb [a,b,c,d,e,f,g] [] h 0 0 rfl (by omega) rfl]
  rfl
def Zd9 (l:List UInt8):List Nat:=l.map yad++(128::(yr (zs l.length) 0++be8 (8*l.length)))
def Zbg:List Nat:=[1779033703,3144134277,1013904242,2773480762,1359893119,2600822924,528734635,1541459225]
theorem Zs7 (l:List UInt8):(Zd9 l).length=64*((l.length+72) / 64):=by
 unfold Zd9
 simp only [yl,yu,yz,yci,be8,List.length_nil,zs]
 omega
theorem ZDY (l:List UInt8):∀x,x∈Zd9 l→x < 256:=by
 intro x hx
 unfold Zd9 at hx
 simp only [List.mem_append,List.mem_map,yby,List.mem_replicate,be8,List.not_mem_nil,or_false] at hx
 rcases hx with ⟨y,_,rfl⟩|rfl|⟨_,rfl⟩|h
 ·exact y.toNat_lt
 ·omega
 ·omega
 ·rcases h with h|h|h|h|h|h|h|h <;> rw [h] <;> exact ybd _ (by omega)
theorem ZBs (l:List UInt8):sha l=(List.range 32).map (ZGm (Zd8 ((l.length+72) / 64) (Zd9 l) Zbg)):=by
 unfold sha
 rw [Xo,Xo,show H0=pw 0 Zbg from rfl,show l.map yad++(128::(yr (zs l.length) 0++be8 (8*l.length)))=Zd9 l from rfl,
  show Nat.div (yn l.length 72) 64=(l.length+72) / 64 from rfl]
 have hf:∀x,x∈Zbg→x < 4294967296:=by decide
 rw [ZCE _ _ _ (Zs7 l) (ZDY l) rfl hf]
 exact ZIc (Zzy _ _ _ rfl) (ZCF _ _ _ hf)
theorem ZKZ (l:List UInt8):(sha l).length=32:=by rw [ZBs];simp
end Go.Sha
end
section
set_option maxRecDepth 4000
namespace Go.Proofs.YtmkgbalfkhaflaaGreat
open Go Go.Ev Go.Sha
theorem Zfw (x:UInt32) (n k:Nat) (h:n+k=32) (hn:0 < n) {z:Int} (hz:((w64 z)&&&31).toNat=k):∃o,ZG fuel x z=some o∧o.toNat=lo (yaa (dbl x.toNat) n):=by
 refine ⟨_,rfl, ?_⟩
 have e1:((((w64 z)&&&31).toNat:Int)).toNat=k:=by rw [hz];rfl
 have e2:(32 - ((w64 z)&&&31)).toNat=n:=by
  have h1:((w64 z)&&&31)=yaf k:=UInt64.toNat_inj.1 (by rw [hz,ybc];omega)
  rw [h1,UInt64.toNat_sub,ybc]
  show (2 ^ 64 - k % 2 ^ 64+32) % 2 ^ 64=n
  omega
 rw [e1,show ((((32 - ((w64 z)&&&31)).toNat:Nat):Int)).toNat=n by rw [e2];rfl,Nat.min_eq_left (by omega),Nat.min_eq_left (by omega)]
 exact ZIA x h hn
theorem ZJR {l:List UInt8} {a b c d:UInt8} (ha:l[0]? =some a) (hb:l[1]? =some b) (hc:l[2]? =some c) (hd:l[3]? =some d):∃o,Zdj fuel l=some o∧o.toNat=((a.toNat*256+b.toNat)*256+c.toNat)*256+d.toNat:=by
 unfold Zdj
 rw [ZgN (i:=0) (by omega) ha,ZgN (i:=1) (by omega) hb,ZgN (i:=2) (by omega) hc,ZgN (i:=3) (by omega) hd]
 refine ⟨_,rfl, ?_⟩
 have h1:=a.toNat_lt
 have h2:=b.toNat_lt
 have h3:=c.toNat_lt
 have h4:=d.toNat_lt
 have hs:∀(x:UInt8) (n:Nat),n≤24→(QK (ybh x.toNat) n).toNat=x.toNat*2 ^ n:=by
  intro x n hn
  have hx:=x.toNat_lt
  unfold QK
  rw [ych,ych,yai (a:=x.toNat) (by omega)]
  refine yai ?_
  calc x.toNat*2 ^ n < 2 ^ 8*2 ^ n:=Nat.mul_lt_mul_of_pos_right hx (Nat.two_pow_pos n)
   _=2 ^ (8+n):=(Nat.pow_add ..).symm
   _≤2 ^ 32:=Nat.pow_le_pow_right (by omega) (by omega)
 rw [Zxm,Zxm,Zxm,hs _ _ (by omega),hs _ _ (by omega),hs _ _ (by omega),ych,yai (a:=d.toNat) (by omega)]
 have k1:Nat.lor (a.toNat*2 ^ 24) (b.toNat*2 ^ 16)=2 ^ 16*(a.toNat*256+b.toNat):=by
  rw [ybe a.toNat,show Nat.lor (2 ^ 24*a.toNat) (b.toNat*2 ^ 16)=2 ^ 24*a.toNat|||b.toNat*2 ^ 16 from rfl, ←yco (by omega)]
  omega
 have k2:Nat.lor (2 ^ 16*(a.toNat*256+b.toNat)) (c.toNat*2 ^ 8)=2 ^ 8*((a.toNat*256+b.toNat)*256+c.toNat):=by
  rw [show Nat.lor (2 ^ 16*(a.toNat*256+b.toNat)) (c.toNat*2 ^ 8)=2 ^ 16*(a.toNat*256+b.toNat)|||c.toNat*2 ^ 8 from rfl, ←yco (by omega)]
  omega
 rw [k1,k2,show Nat.lor (2 ^ 8*((a.toNat*256+b.toNat)*256+c.toNat)) d.toNat=2 ^ 8*((a.toNat*256+b.toNat)*256+c.toNat)|||d.toNat from rfl, ←yco (by omega)]
 omega
theorem ZGn {l:List UInt8} (h:l.length=64):∃o,Zan fuel l=some o∧o.length=64∧∀(i:Nat) x,i < 64→o[i]? =some x→x.toNat=wd (ZZ (l.map yad)) i:=by
 unfold Zan
 generalize hz:([0,0,0,0,0,0,0,0,0,0,0,0,0,0,0,0,0,0,0,0,0,0,0,0,0,0,0,0,0,0,0,0,0,0,0,0,0,0,0,0,0,0,0,0,0,0,0,0,0,0,0,0,0,0,0,0,0,0,0,0,0,0,0,0]:List UInt32)=z
 have hzl:z.length=64:=by rw [←hz];rfl
 refine Exists.elim (WB (step:=Vr fuel) (fun s=>s.1=l∧0≤s.2.1∧s.2.1≤64∧s.2.2.length=64∧∀(j:Nat) x,(j:Int) < s.2.1→s.2.2[j]? =some x→x.toNat=wd (ZZ (l.map yad)) j) (fun s=>(64 - s.2.1).toNat)
  (fun o=>o.length=64∧∀(j:Nat) x,j < 64→o[j]? =some x→x.toNat=wd (ZZ (l.map yad)) j) ?_ (l,(0:Int),z) ⟨rfl,Int.le_refl _,by dsimp only;omega,hzl,fun j x hj=>by dsimp only at hj;omega⟩ (by dsimp only;omega)) ?_
 rotate_left
 ·rintro o ⟨h1,h2⟩
  exact ⟨o,by rw [h1];rfl,h2⟩
 ·rintro ⟨b,i,w⟩ ⟨hb,h0,h64,hw,hv⟩
  dsimp only at hb h0 h64 hw hv
  subst hb
  unfold Vr
  dsimp only
  have hset:∀(y:UInt32),y.toNat=wd (ZZ (b.map yad)) i.toNat→i < 64→∀(j:Nat) x,(j:Int) < i+1→(w.set i.toNat y)[j]? =some x→x.toNat=wd (ZZ (b.map yad)) j:=by
   intro y hy hi j x hj hx
   by_cases hji:j=i.toNat
   ·subst hji
    rw [ycc (by omega)] at hx
    cases hx
    exact hy
   ·rw [ycr (Ne.symm hji)] at hx
    exact hv j x (by omega) hx
  by_cases hi:i < 64
  ·left
   rw [if_pos (decide_eq_true hi)]
   obtain ⟨e,he⟩:=Za7 (l:=w) (i:=i.toNat) (by omega)
   by_cases h16:i < 16
   ·rw [if_pos (decide_eq_true h16),Zy (z:=4*i) (by omega) (by omega),if_pos (by simp only [QS,yg,decide_eq_true_eq];omega)]
    have g:∀k:Nat,k < 4→∃x,b[4*i.toNat+k]? =some x:=fun k hk=>Za7 (by omega)
    obtain ⟨x0,g0⟩:=g 0 (by omega)
    obtain ⟨x1,g1⟩:=g 1 (by omega)
    obtain ⟨x2,g2⟩:=g 2 (by omega)
    obtain ⟨x3,g3⟩:=g 3 (by omega)
    have e4:(4*i).toNat=4*i.toNat:=by omega
    obtain ⟨o,ho,hoe⟩:=ZJR (l:=b.drop (4*i).toNat) (by rw [List.getElem?_drop,e4];exact g0) (by rw [List.getElem?_drop,e4];exact g1) (by rw [List.getElem?_drop,e4];exact g2) (by rw [List.getElem?_drop,e4];exact g3)
    rw [ho,yb,if_pos (YP h0 (by omega)),he,yb,Zy (z:=i+1) (by omega) (by omega)]
    refine ⟨_,rfl,⟨rfl,by dsimp only;omega,by dsimp only;omega,by dsimp only;rw [yav];exact hw,hset o ?_ hi⟩,by dsimp only;omega⟩
    have mg:∀(k:Nat) (x:UInt8),b[k]? =some x→(b.map yad)[k]? =some x.toNat:=fun k x hx=>by rw [yac,hx];rfl
    have hwg:=Zjx i.toNat (b.map yad) _ _ _ _ (mg _ _ g0) (mg _ _ g1) (mg _ _ g2) (mg _ _ g3)
    rw [hoe]
    have b0:=x0.toNat_lt
    have b1:=x1.toNat_lt
    have b2:=x2.toNat_lt
    have b3:=x3.toNat_lt
    exact (Zzz _ (by omega) hwg (by omega)).symm
   ·rw [if_neg (by simpa using h16)]
    rw [Zy (z:=i - 15) (by omega) (by omega),Zy (z:=i - 2) (by omega) (by omega),Zy (z:=i - 16) (by omega) (by omega),Zy (z:=i - 7) (by omega) (by omega),Zy (z:=i+1) (by omega) (by omega)]
    obtain ⟨e1,he1⟩:=Za7 (l:=w) (i:=(i - 15).toNat) (by omega)
    obtain ⟨e2,he2⟩:=Za7 (l:=w) (i:=(i - 2).toNat) (by omega)
    obtain ⟨e3,he3⟩:=Za7 (l:=w) (i:=(i - 16).toNat) (by omega)
    obtain ⟨e4,he4⟩:=Za7 (l:=w) (i:=(i - 7).toNat) (by omega)
    have v1:=hv _ _ (by omega) he1
    have v2:=hv _ _ (by omega) he2
    have v3:=hv _ _ (by omega) he3
    have v4:=hv _ _ (by omega) he4
    rw [if_pos (YP (by omega) (by omega)),he1,yb,if_pos (YP (by omega) (by omega)),he2,yb]
    obtain ⟨o1,ho1,p1⟩:=Zfw e1 7 25 rfl (by omega) (z:= -7) rfl
    obtain ⟨o2,ho2,p2⟩:=Zfw e1 18 14 rfl (by omega) (z:= -18) rfl
    obtain ⟨o3,ho3,p3⟩:=Zfw e2 17 15 rfl (by omega) (z:= -17) rfl
    obtain ⟨o4,ho4,p4⟩:=Zfw e2 19 13 rfl (by omega) (z:= -19) rfl
    rw [ho1,yb,ho2,yb,ho3,yb,ho4,yb]
    rw [if_pos (YP (by omega) (by omega)),he3,yb,if_pos (YP (by omega) (by omega)),he4,yb]
    try dsimp only
    rw [if_pos (YP h0 (by omega)),he,yb]
    refine ⟨_,rfl,⟨rfl,by dsimp only;omega,by dsimp only;omega,by dsimp only;rw [yav];exact hw,hset _ ?_ hi⟩,by dsimp only;omega⟩
    have hn:=Zxn (ZZ (b.map yad)) (i - 16).toNat
    rw [show (i - 16).toNat+16=i.toNat by omega,show (i - 16).toNat+1=(i - 15).toNat by omega,show (i - 16).toNat+9=(i - 7).toNat by omega,show (i - 16).toNat+14=(i - 2).toNat by omega, ←v1, ←v2, ←v3, ←v4] at hn
    rw [hn]
    rw [Qc,Qc,Qc,ZKu e1 p1 p2,ZKv e2 p3 p4]
    exact ZKA ..
  ·right
   rw [if_neg (by simpa using hi)]
   exact ⟨_,rfl,hw,fun j x hj hx=>hv j x (by omega) hx⟩
theorem ZGo {st:List UInt32} {l:List UInt8} (hs:st.length=8) (h:l.length=64):∃o,W6 fuel st l=some o∧o.map yag=Zg3 (st.map yag) (ZZ (l.map yad)):=by
 unfold W6
 obtain ⟨w,hw,hwl,hwv⟩:=ZGn h
 obtain ⟨k,hk,hkv⟩:∃k,Zjt fuel=some k∧k.map yag=ks:=⟨_,rfl,rfl⟩
 have hkl:k.length=64:=by rw [←yu (f:=yag),hkv];rfl
 generalize hws:ZZ (l.map yad)=ws at hwv
 rw [hw,yb,hk,yb]
 refine Exists.elim (WB (step:=WU fuel) (fun s=>0≤s.1∧s.1≤64∧s.2.1=st∧s.2.2.2.1=w∧s.2.2.2.2.1=k∧s.2.2.2.2.2.length=8∧s.2.2.2.2.2.map yag=rs ws (st.map yag) s.1.toNat) (fun s=>(64 - s.1).toNat)
  (fun o=>o.1=st∧o.2.2.2.2.length=8∧o.2.2.2.2.map yag=rs ws (st.map yag) 64) ?_ ((0:Int),st,([0,0,0,0,0,0,0,0]:List UInt32),w,k,st) ⟨Int.le_refl _,by dsimp only;omega,rfl,rfl,rfl,hs,rfl⟩ (by dsimp only;omega)) ?_
 rotate_left
 ·rintro o ⟨h1,p0,p1,p2⟩
  rw [h1,yb]
  have hml:(Zg3 (st.map yag) ws).length=8:=Zd7 (by rw [yu];exact hs)
  refine Exists.elim (WB (step:=WV fuel) (fun s=>0≤s.1∧s.1≤8∧s.2.1=st∧s.2.2.2.2.2.length=8∧(∀(j:Nat) x,s.2.2.2.2.2[j]? =some x→if (j:Int) < s.1 then (Zg3 (st.map yag) ws)[j]? =some x.toNat else (rs ws (st.map yag) 64)[j]? =some x.toNat)) (fun s=>(8 - s.1).toNat)
   (fun o=>o.2.2.2.2.map yag=Zg3 (st.map yag) ws) ?_ ((0:Int),o.1,o.2.1,o.2.2.1,o.2.2.2.1,o.2.2.2.2) ⟨Int.le_refl _,by dsimp only;omega,p0,p1,fun j x hx=>by
     dsimp only at hx ⊢
     rw [if_neg (by omega), ←p2,yac,hx]
     rfl⟩ (by dsimp only;omega)) ?_
  rotate_left
  ·rintro q ⟨h2,q2⟩
   rw [h2,yb]
   exact ⟨_,rfl,q2⟩
  ·rintro ⟨i,a,b,c,d,e⟩ ⟨h0,h8,ha,he,hv⟩
   dsimp only at h0 h8 ha he hv
   subst ha
   unfold WV
   dsimp only
   by_cases hi:i < 8
   ·left
    obtain ⟨e1,he1⟩:=Za7 (l:=e) (i:=i.toNat) (by omega)
    obtain ⟨e2,he2⟩:=Za7 (l:=a) (i:=i.toNat) (by omega)
    simp only [decide_eq_true hi,if_true,YP h0 (show i < ((8:Nat):Int) by omega),he1,he2,yb]
    rw [Zy (z:=i+1) (by omega) (by omega)]
    refine ⟨_,rfl,⟨by dsimp only;omega,by dsimp only;omega,rfl,by dsimp only;rw [yav];exact he, ?_⟩,by dsimp only;omega⟩
    intro j x hx
    dsimp only at hx ⊢
    by_cases hji:j=i.toNat
    ·subst hji
     rw [ycc (by omega)] at hx
     cases hx
     rw [if_pos (by omega),Qc]
     have k1:=hv _ _ he1
     rw [if_neg (by omega)] at k1
     unfold Zg3
     rw [List.getElem?_zipWith,k1,yac,he2]
     rfl
    ·rw [ycr (Ne.symm hji)] at hx
     have k1:=hv j x hx
     by_cases hj:(j:Int) < i
     ·rw [if_pos hj] at k1
      rw [if_pos (by omega)]
      exact k1
     ·rw [if_neg hj] at k1
      rw [if_neg (by omega)]
      exact k1
   ·right
    rw [if_neg (by simpa using hi)]
    refine ⟨_,rfl, ?_⟩
    dsimp only
    apply ybk
    intro j
    rw [yac]
    by_cases hj:j < 8
    ·obtain ⟨x,hx⟩:=Za7 (l:=e) (i:=j) (by omega)
     have:=hv j x hx
     rw [if_pos (by omega)] at this
     rw [hx,this]
     rfl
    ·rw [yam (by omega),yam (by omega)]
     rfl
 ·rintro ⟨i,a,b,c,d,e⟩ ⟨h0,h64,ha,hc,hd,he,hv⟩
  dsimp only at h0 h64 ha hc hd he hv
  subst ha hc hd
  unfold WU
  dsimp only
  by_cases hi:i < 64
  ·left
   match e,he,hv with
   |[x0,x1,x2,x3,x4,x5,x6,x7],_,hv=>
    obtain ⟨e1,he1⟩:=Za7 (l:=d) (i:=i.toNat) (by omega)
    obtain ⟨e2,he2⟩:=Za7 (l:=c) (i:=i.toNat) (by omega)
    obtain ⟨o1,ho1,p1⟩:=Zfw x4 6 26 rfl (by omega) (z:= -6) rfl
    obtain ⟨o2,ho2,p2⟩:=Zfw x4 11 21 rfl (by omega) (z:= -11) rfl
    obtain ⟨o3,ho3,p3⟩:=Zfw x4 25 7 rfl (by omega) (z:= -25) rfl
    obtain ⟨o4,ho4,p4⟩:=Zfw x0 2 30 rfl (by omega) (z:= -2) rfl
    obtain ⟨o5,ho5,p5⟩:=Zfw x0 13 19 rfl (by omega) (z:= -13) rfl
    obtain ⟨o6,ho6,p6⟩:=Zfw x0 22 10 rfl (by omega) (z:= -22) rfl
    generalize ZG fuel=R at ho1 ho2 ho3 ho4 ho5 ho6 ⊢
    rw [if_pos (decide_eq_true hi)]
    simp only [yaq,yaj]
    rw [yb,ho1,yb,yb,ho2,yb,yb,ho3,yb,yb,yb,yb,yb,yb]
    rw [if_pos (YP h0 (show i < ((64:Nat):Int) by omega)),he1,yb,if_pos (YP h0 (show i < ((64:Nat):Int) by omega)),he2,yb,yb,ho4,yb,yb,ho5,yb,yb,ho6]
    rw [yb,yb,yb,yb,yb,yb]
    rw [yb,yb,yb,yb,yb,yb,yb]
    rw [Zy (z:=i+1) (by omega) (by omega)]
    refine ⟨_,rfl,⟨by dsimp only;omega,by dsimp only;omega,rfl,rfl,rfl,rfl, ?_⟩,by dsimp only;omega⟩
    dsimp only
    rw [show (i+1).toNat=i.toNat+1 by omega,show rs ws (a.map yag) (i.toNat+1)=rnd (rs ws (a.map yag) i.toNat) (ks.getD i.toNat 0) (wd ws i.toNat) from rfl, ←hv]
    have hk1:ks.getD i.toNat 0=e1.toNat:=by
     rw [←hkv,ycn,yac,he1]
     rfl
    rw [hk1, ←hwv i.toNat e2 (by omega) he2]
    simp only [yx,List.map_nil]
    rw [Zs4]
    have kt:((x7+((o1^^^o2)^^^o3))+(x6^^^(x4&&&(x5^^^x6)))+e1+e2).toNat=lo (yn (yn (yn (yn x7.toNat (S1 x4.toNat)) (ch x4.toNat x5.toNat x6.toNat)) e1.toNat) e2.toNat):=by
     rw [Qc,Qc,Qc,Qc,ZKx x4 p1 p2 p3,ZKy]
     exact ZKB ..
    have ka:((x7+((o1^^^o2)^^^o3))+(x6^^^(x4&&&(x5^^^x6)))+e1+e2+((o4^^^o5)^^^o6)+((x0&&&x1)|||(x2&&&(x0|||x1)))).toNat=lo (yn (yn (yn (yn (yn (yn x7.toNat (S1 x4.toNat)) (ch x4.toNat x5.toNat x6.toNat)) e1.toNat) e2.toNat) (S0 x0.toNat)) (mj x0.toNat x1.toNat x2.toNat)):=by
     rw [Qc,Qc,kt,ZKw x0 p4 p5 p6,ZKz]
     exact ZKC ..
    have ke:(x3+(((x7+((o1^^^o2)^^^o3))+(x6^^^(x4&&&(x5^^^x6))))+e1+e2)).toNat=lo (yn x3.toNat (yn (yn (yn (yn x7.toNat (S1 x4.toNat)) (ch x4.toNat x5.toNat x6.toNat)) e1.toNat) e2.toNat)):=by
     rw [Qc,kt]
     exact ZKD ..
    rw [ka,ke]
  ·right
   rw [if_neg (by simpa using hi)]
   have e64:i=64:=by omega
   subst e64
   exact ⟨_,rfl,rfl,he,hv⟩
def ZDZ (n:Nat):List UInt8:=(be8 n).map yal
theorem ZId {n:Nat} {b:List UInt8} (h:b.length≤1000000000000):Vg fuel (n:Int) b=some (b++ZDZ n):=by
 unfold Vg
 obtain ⟨o,h1,h2⟩:=WB (step:=V6 fuel) (fun s=>∃k:Nat,k≤8∧s.1=(n:Int)∧s.2.1=56 - 8*(k:Int)∧s.2.2.1=b++(ZDZ n).take k) (fun s=>(s.2.1+8).toNat) (fun o=>o.1=b++ZDZ n) (by
  rintro ⟨a,i,c,d⟩ ⟨k,hk,ha,hi,hc⟩
  dsimp only at ha hi hc
  subst ha
  unfold V6
  dsimp only
  have hcl:c.length≤b.length+8:=by rw [hc,yl,yab];omega
  by_cases h0:i ≥ 0
  ·left
   rw [if_pos (decide_eq_true h0),if_pos (decide_eq_true h0),if_pos (Yy (by omega) (by omega)),Zy (z:=i - 8) (by omega) (by omega)]
   refine ⟨_,rfl,⟨k+1,by omega,rfl,by dsimp only;omega, ?_⟩,by dsimp only;omega⟩
   dsimp only
   have hw:∀m:Nat,w8 (Int.fdiv (n:Int) (2 ^ m))=yal (n / 2 ^ m % 256):=by
    intro m
    unfold w8
    rw [Int.fdiv_eq_ediv_of_nonneg _ (by exact Int.le_of_lt (Int.pow_pos (by omega)))]
    congr 1
   have hmin:min i.toNat 64=56 - 8*k:=by omega
   rw [hmin,hw,hc,yae]
   congr 1
   have hk8:k < 8:=by omega
   match k,hk8 with
   |0,_=>rfl
   |1,_=>rfl
   |2,_=>rfl
   |3,_=>rfl
   |4,_=>rfl
   |5,_=>rfl
   |6,_=>rfl
   |7,_=>
    show _++[yal (n / 2 ^ 0 % 256)]=_
    rw [Nat.pow_zero,Nat.div_one]
    rfl
  ·right
   rw [if_neg (by simpa using h0)]
   have hk8:k=8:=by omega
   subst hk8
   exact ⟨_,rfl,hc⟩) (((n:Int),(56:Int),b,([]:List UInt8))) ⟨0,by omega,rfl,by simp,by simp⟩ (by dsimp only;omega)
 rw [h1,yb,h2]
theorem ZJS {l:List UInt8} (h:l.length≤4294967296):Zd6 fuel l=some (sha l):=by
 unfold Zd6
 have hm:Int.tmod (l.length:Int) 64=((l.length % 64:Nat):Int):=by
  rw [Int.tmod_eq_emod_of_nonneg (by omega)]
  omega
 have hlt:l.length % 64 < 64:=ybd _ (by omega)
 have hle:l.length % 64≤l.length:=Nat.mod_le _ _
 rw [hm,Zy (z:=(l.length:Int) - ((l.length % 64:Nat):Int)) (by omega) (by omega)]
 dsimp only
 rw [if_pos (by simp only [QS,yg,decide_eq_true_eq];omega)]
 have hq:((l.length:Int) - ((l.length % 64:Nat):Int)).toNat=64*(l.length / 64):=by omega
 rw [hq]
 have hdl:(l.drop (64*(l.length / 64))).length=l.length % 64:=by
  rw [ybn]
  omega
 generalize ht:l.drop (64*(l.length / 64))=t at hdl
 have hcl:ZW fuel t=some t:=by
  unfold ZW
  rw [if_pos (Yy (by omega) (by omega))]
 rw [hcl,yb,if_pos (Yy (by omega) (by omega))]
 generalize hz:([0,0,0,0,0,0,0,0,0,0,0,0,0,0,0,0,0,0,0,0,0,0,0,0,0,0,0,0,0,0,0,0]:List UInt8)=z
 have hzl:z.length=32:=by rw [←hz];rfl
 have hzs:zs l.length=(119 - t.length) % 64:=by unfold zs;rw [hdl]
 obtain ⟨o,h1,p1,p2,p3⟩:=WB (step:=Zbw fuel) (fun s=>s.1=l∧s.2.1=z∧∃j,j≤zs l.length∧s.2.2=t++([128]:List UInt8)++yr j 0) (fun s=>184 - s.2.2.length)
  (fun o=>o.1=l∧o.2.1=z∧o.2.2=t++([128]:List UInt8)++yr (zs l.length) 0) (by
  rintro ⟨a,b,c⟩ ⟨k1,k2,j,k3,k4⟩
  dsimp only at k1 k2 k3 k4
  have hcl:c.length=t.length+1+j:=by rw [k4,yl,yl,yci];rfl
  unfold Zbw
  dsimp only
  have hm:Int.tmod (c.length:Int) 64=((c.length % 64:Nat):Int):=by
   rw [Int.tmod_eq_emod_of_nonneg (by omega)]
   omega
  rw [hm]
  by_cases hi:c.length % 64=56
  ·right
   rw [if_neg (by simp;omega)]
   have:j=zs l.length:=by omega
   subst this
   exact ⟨_,rfl,k1,k2,k4⟩
  ·left
   rw [if_pos (by simp;omega),if_pos (Yy (by omega) (by omega))]
   have hj:j≠zs l.length:=fun e=>hi (by omega)
   refine ⟨_,rfl,⟨k1,k2,j+1,by omega, ?_⟩, ?_⟩
   ·dsimp only
    rw [k4,yae,List.replicate_succ',yae]
   ·dsimp only
    rw [yl,List.length_singleton]
    omega) (l,z,t++([128]:List UInt8)) ⟨rfl,rfl,0,Nat.zero_le _,by simp⟩ (by dsimp only;omega)
 rw [h1,yb,p1,p2,p3,Zy (z:=8*(l.length:Int)) (by omega) (by omega),show 8*(l.length:Int)=((8*l.length:Nat):Int) by omega,ZId (by
  rw [yl,yl,yci]
  simp
  omega),yb]
 obtain ⟨f,hf,hfl⟩:∃f,Zjr fuel=some f∧f.map yag=Zbg:=⟨_,rfl,rfl⟩
 have hf8:f.length=8:=by rw [←yu (f:=yag),hfl];rfl
 rw [hf,yb]
 generalize hE:t++([128]:List UInt8)++yr (zs l.length) 0++ZDZ (8*l.length)=E
 have hEl:E.length=64*((t.length+72) / 64):=by
  rw [←hE]
  simp only [yl,yci,List.length_singleton,ZDZ,yu,be8,yz,List.length_nil]
  omega
 obtain ⟨o3,h3,r1,r2,r3,r4⟩:=WB (step:=Zbx fuel) (fun s=>s.2.1=z∧s.2.2.1=E∧s.2.2.2.length=8∧∃c,c≤l.length / 64∧s.1=l.drop (64*c)∧s.2.2.2.map yag=Zd8 c (l.map yad) Zbg) (fun s=>s.1.length)
  (fun x=>x.1=z∧x.2.1=E∧x.2.2.length=8∧x.2.2.map yag=Zd8 (l.length / 64) (l.map yad) Zbg) (by
  rintro ⟨a,b,c,d⟩ ⟨k1,k2,k3,j,k4,k5,k6⟩
  dsimp only at k1 k2 k3 k4 k5 k6
  have hal:a.length=l.length - 64*j:=by rw [k5,ybn]
  unfold Zbx
  dsimp only
  by_cases hi:(a.length:Int) ≥ 64
  ·left
   obtain ⟨m,hm1,hm2⟩:=ZGo (st:=d) (l:=a.take 64) k3 (by rw [yab];omega)
   rw [if_pos (decide_eq_true hi),if_pos (by simp only [QS,yg,decide_eq_true_eq];omega),hm1,yb,if_pos (by simp only [QS,yg,decide_eq_true_eq];omega)]
   refine ⟨_,rfl,⟨k1,k2, ?_,j+1,by omega, ?_, ?_⟩,by dsimp only;rw [ybn];omega⟩
   ·dsimp only
    rw [←yu (f:=yag),hm2]
    exact Zd7 (by rw [yu];exact k3)
   ·dsimp only
    rw [k5,List.drop_drop]
    congr 1
   ·dsimp only
    rw [hm2,Zkv,k6,k5,ybv,List.map_drop]
  ·right
   rw [if_neg (by simpa using hi)]
   have:j=l.length / 64:=by omega
   subst this
   exact ⟨_,rfl,k1,k2,k3,k6⟩) (l,z,E,f) ⟨rfl,rfl,hf8,0,Nat.zero_le _,by simp,hfl⟩ (by dsimp only;omega)
 rw [h3,yb,r1,r2]
 generalize hv1:Zd8 (l.length / 64) (l.map yad) Zbg=v1 at r4
 obtain ⟨o4,h4,s1,s2,s3⟩:=WB (step:=Zby fuel) (fun s=>s.2.1=z∧s.2.2.2.length=8∧∃c,c≤E.length / 64∧s.1=E.drop (64*c)∧s.2.2.2.map yag=Zd8 c (E.map yad) v1) (fun s=>s.1.length)
  (fun x=>x.1=z∧x.2.2.length=8∧x.2.2.map yag=Zd8 (E.length / 64) (E.map yad) v1) (by
  rintro ⟨a,b,c,d⟩ ⟨k1,k3,j,k4,k5,k6⟩
  dsimp only at k1 k3 k4 k5 k6
  have hal:a.length=E.length - 64*j:=by rw [k5,ybn]
  unfold Zby
  dsimp only
  by_cases hi:(a.length:Int) > 0
  ·left
   obtain ⟨m,hm1,hm2⟩:=ZGo (st:=d) (l:=a.take 64) k3 (by rw [yab];omega)
   rw [if_pos (decide_eq_true hi),if_pos (by simp only [QS,yg,decide_eq_true_eq];omega),hm1,yb,if_pos (by simp only [QS,yg,decide_eq_true_eq];omega)]
   refine ⟨_,rfl,⟨k1, ?_,j+1,by omega, ?_, ?_⟩,by dsimp only;rw [ybn];omega⟩
   ·dsimp only
    rw [←yu (f:=yag),hm2]
    exact Zd7 (by rw [yu];exact k3)
   ·dsimp only
    rw [k5,List.drop_drop]
    congr 1
   ·dsimp only
    rw [hm2,Zkv,k6,k5,ybv,List.map_drop]
  ·right
   rw [if_neg (by simpa using hi)]
   have:j=E.length / 64:=by omega
   subst this
   exact ⟨_,rfl,k1,k3,k6⟩) (E,z,E,o3.2.2) ⟨rfl,r3,0,Nat.zero_le _,by simp,r4⟩ (by dsimp only;omega)
 rw [h4,yb]
 generalize hv2:Zd8 (E.length / 64) (E.map yad) v1=v2 at s3
 obtain ⟨o5,h5,t1,t2⟩:=WB (step:=Zbz fuel) (fun s=>0≤s.1∧s.1≤32∧s.2.1.length=32∧s.2.2.2=o4.2.2∧∀(j:Nat),(j:Int) < s.1→s.2.1[j]? =some (Go.Sha.ZGm v2 j)) (fun s=>(32 - s.1).toNat)
  (fun x=>x.1.length=32∧∀(j:Nat),j < 32→x.1[j]? =some (Go.Sha.ZGm v2 j)) (by
  rintro ⟨i,a,b,c⟩ ⟨h0,h32,ha,hc,hv⟩
  dsimp only at h0 h32 ha hc hv
  subst hc
  unfold Zbz
  dsimp only
  by_cases hi:i < 32
  ·left
   rw [if_pos (decide_eq_true hi)]
   have e1:Int.tdiv i 4=i / 4:=Int.tdiv_eq_ediv_of_nonneg h0
   have e2:Int.tmod i 4=i % 4:=Int.tmod_eq_emod_of_nonneg h0
   rw [e1,e2,Zy (z:=i / 4) (by omega) (by omega),Zy (z:=8*(i % 4)) (by omega) (by omega),Zy (z:=24 - 8*(i % 4)) (by omega) (by omega),Zy (z:=i+1) (by omega) (by omega)]
   obtain ⟨x1,hx1⟩:=Za7 (l:=o4.2.2) (i:=(i / 4).toNat) (by omega)
   obtain ⟨x2,hx2⟩:=Za7 (l:=a) (i:=i.toNat) (by omega)
   rw [if_pos (YP (by omega) (by omega)),hx1,yb,if_pos (decide_eq_true (by omega))]
   try dsimp only
   rw [if_pos (YP (by omega) (by omega)),hx2,yb]
   refine ⟨_,rfl,⟨by dsimp only;omega,by dsimp only;omega,by dsimp only;rw [yav];exact ha,rfl, ?_⟩,by dsimp only;omega⟩
   intro j hj
   dsimp only at hj ⊢
   by_cases hji:j=i.toNat
   ·subst hji
    rw [ycc (by omega)]
    congr 1
    unfold Go.Sha.ZGm
    have hx:v2.getD (i.toNat / 4) 0=x1.toNat:=by
     rw [←s3,ycn,yac,show i.toNat / 4=(i / 4).toNat by omega,hx1]
     rfl
    rw [hx,show min (24 - 8*(i % 4)).toNat 32=24 - 8*(i.toNat % 4) by omega,Zvy]
    unfold w8
    have e3:∀m:Nat,(((m:Nat):Int) % 256).toNat=m % 256:=fun m=>by omega
    rw [e3,show yaa x1.toNat (24 - 8*(i.toNat % 4))=x1.toNat >>> (24 - 8*(i.toNat % 4)) from rfl,yct]
    exact UInt8.toNat_inj.1 (by simp)
   ·rw [ycr (Ne.symm hji)]
    exact hv j (by omega)
  ·right
   rw [if_neg (by simpa using hi)]
   exact ⟨_,rfl,ha,fun j hj=>hv j (by omega)⟩) ((0:Int),o4.1,o4.2.1,o4.2.2) ⟨Int.le_refl _,by dsimp only;omega,by dsimp only;rw [s1];exact hzl,rfl,fun j hj=>by dsimp only at hj;omega⟩ (by dsimp only;omega)
 rw [h5,yb,ZBs]
 congr 1
 have hpad:Zd9 l=(l.take (64*(l.length / 64))).map yad++E.map yad:=by
  unfold Zd9
  rw [←hE, ←ht]
  simp only [yan,List.map_replicate,yx,List.map_nil,ZDZ,List.map_map]
  rw [←yae, ←yae, ←yae, ←yan,ybf]
  have:be8 (8*l.length)=(be8 (8*l.length)).map (yad ∘ yal):=by
   simp [be8]
  rw [←this]
  simp
 have hw:((l.take (64*(l.length / 64))).map yad).length=64*(l.length / 64):=by
  rw [yu,yab]
  omega
 have hv:v2=Zd8 ((l.length+72) / 64) (Zd9 l) Zbg:=by
  rw [hpad,show (l.length+72) / 64=l.length / 64+E.length / 64 by omega,Zs6 _ _ _ _ _ hw, ←hv2, ←hv1]
  congr 1
  have:=Zs6 (l.length / 64) 0 _ ((l.drop (64*(l.length / 64))).map yad) Zbg hw
  rw [←yan,ybf,Nat.add_zero] at this
  exact this
 rw [←hv]
 apply ybk
 intro j
 by_cases hj:j < 32
 ·rw [t2 j hj,yac,List.getElem?_range hj]
  rfl
 ·rw [yam (by omega),yam (by simp;omega)]
noncomputable def Zkw (F:Nat) (a0:List UInt8):Option (List UInt8):=if decide (a0.length≤4294967296)=true then some (sha a0) else Zd6 F a0
noncomputable def ZzA (F:Nat):Fs ya:={ Zg2 F with M:=fun x=>Zkw F x}
noncomputable def Zs8:Fs ya:=ZzA fuel
theorem ZzB:Zs8.Ok:=Zl0 (s:=Zg2 fuel) Zxl fun x=>by
 show Zkw fuel x=Zd6 fuel x
 unfold Zkw
 split
 ·rename_i h
  exact (ZJS (of_decide_eq_true h)).symm
 ·rfl
end Go.Proofs.YtmkgbalfkhaflaaGreat
end
section
set_option maxRecDepth 4000
namespace Go.Proofs.YtmkgbalfkhaflaaGreat
open Go Go.Ev
noncomputable section
def ZnJ (F:Nat):Fs ya:=⟨116,[.nil .u8,.v (.int .i64)],[],[(.int .i64)],(Zcw F).xs,fun x=>(Zcw F).M (x,([]:List UInt8))⟩
def Zf9:Fs ya:=ZnJ fuel
theorem ZnK:Zf9.Ok:=ZJw (i1:=[(.int .i64)]) (i2:=[(.int .i64),(.sl .u8)]) (fun x=>(x,([]:List UInt8))) Zcx (fun _=>rfl) (fun _=>⟨_,rfl⟩)
def ZnL (F:Nat) (s:((List (List UInt8))×Int×Int×(List UInt8)×(List UInt8))):Option (((List (List UInt8))×Int×Int×(List UInt8)×(List UInt8))⊕((List UInt8)×(List UInt8))):=
 if (decide (s.2.2.1 < s.2.1))=true then
  (idx s.1 s.2.2.1).bind fun e422=>
  (Vg F (e422.length:Int) s.2.2.2.2).bind fun o423=>
  if (apB o423.length e422.length 1)=true then
   some (.inl (s.1,s.2.1,wi (s.2.2.1+1),s.2.2.2.1,o423++e422))
  else
  none
 else
 some (.inr (s.2.2.2.1,s.2.2.2.2))
def ZpQ:Lp:=⟨[(4,.ref 0 []),(5,.own 1 .u8),(13,.v (.sl (.sl .u8))),(14,.v (.int .i64)),(15,.v (.int .i64))],[.var (.v (.arr 32 .u8)) true,.log .u8 5],[(.sl (.sl .u8)),(.int .i64),(.int .i64),(.arr 32 .u8),(.sl .u8)],[⟨.exit 0,[(4,.ref 0 []),(5,.own 1 .u8)],[.var (.v (.arr 32 .u8)) true,.log .u8 5],[(.arr 32 .u8),(.sl .u8)]⟩],Zc (ZnL fuel) fuel⟩
theorem Zs9:ZpQ.Ok ya (Zl ya 57) (Zk ya 57 0):=Zg (fi:={ hi:={ own:=[5,10,12,19,22,24],still:=[9,19,21,26]},lp:=[]}) (specs:={ l:=[Zd5]}) (okS ⟨Zcx,trivial⟩) trivial (by kernel_rfl) (fun v=>by kernel_rfl)
def Zkx (F:Nat) (a0:ByteArray) (a1:(List (List UInt8))):Option ((List UInt8)):=
 (Vg F (a0.size:Int) ([]:List UInt8)).bind fun o421=>
 if (apB o421.length ((Zor a0).length) 1)=true then
  (Zc (ZnL F) F (a1,(a1.length:Int),(0:Int),([0,0,0,0,0,0,0,0,0,0,0,0,0,0,0,0,0,0,0,0,0,0,0,0,0,0,0,0,0,0,0,0]:List UInt8),o421++(Zor a0))).bind fun o424=>
  (Zkw F o424.2).bind fun o425=>
  some o425
 else
 none
def ZzC (F:Nat):Fs ya:=⟨57,[.v .str,.v (.sl (.sl .u8))],[],[.str,(.sl (.sl .u8))],[⟨.ret,[(0,.v (.arr 32 .u8))],[],[(.arr 32 .u8)]⟩],fun x=>Zkx F x.1 x.2⟩
def Zg4:Fs ya:=ZzC fuel
theorem Zjy:Zg4.Ok:=Ze (fi:={ hi:={ own:=[5,10,12,19,22,24],still:=[9,19,21,26]},lp:=[(0,ZpQ)]}) (specs:={ l:=[Zf9,Zs8]}) (okS ⟨ZnK,ZzB,trivial⟩) ⟨Zs9,trivial⟩ (by decide+kernel) (fun x=>by kernel_rfl)
def Zlu (F:Nat) (a0:(List UInt8)) (a1:(List UInt8)):Option ((List UInt8)):=
 (QA F a0 a1).bind fun o426=>
 some o426
def Zqw (F:Nat):Fs ya:=⟨118,[.v (.sl .u8),.v (.arr 32 .u8)],[],[(.sl .u8),(.arr 32 .u8)],[⟨.ret,[(0,.v (.sl .u8))],[],[(.sl .u8)]⟩],fun x=>Zlu F x.1 x.2⟩
def Zjz:Fs ya:=Zqw fuel
theorem Zqx:Zjz.Ok:=Ze (fi:={ hi:={ still:=[4,5,6],frz:=[6]},lp:=[]}) (specs:={ l:=[Ze2]}) (okS ⟨ZgU,trivial⟩) trivial (by decide+kernel) (fun x=>by kernel_rfl)
def ZjA (F:Nat) (a0:(List UInt8)) (a1:(List UInt8)):Option ((List UInt8)):=
 (Zf6 F (a1.length:Int)).bind fun o427=>
 (Yq F ([a0,o427,a1]:List (List UInt8))).bind fun o428=>
 some o428
def ZoQ (F:Nat):Fs ya:=⟨119,[.v (.sl .u8),.v (.sl .u8)],[],[(.sl .u8),(.sl .u8)],[⟨.ret,[(0,.v (.sl .u8))],[],[(.sl .u8)]⟩],fun x=>ZjA F x.1 x.2⟩
def ZhY:Fs ya:=ZoQ fuel
theorem ZoR:ZhY.Ok:=Ze (fi:={ hi:={ still:=[4,7,10]},lp:=[]}) (specs:={ l:=[Zl4,X0]}) (okS ⟨ZpK,VN,trivial⟩) trivial (by decide+kernel) (fun x=>by kernel_rfl)
def ZnM (F:Nat) (s:((List UInt8)×(List In)×Int×Int×Tx)):Option (((List UInt8)×(List In)×Int×Int×Tx)⊕((List UInt8)×Tx)):=
 if (decide (s.2.2.2.1 < s.2.2.1))=true then
  (idx s.2.1 s.2.2.2.1).bind fun e430=>
  (Zlu F s.1 e430.1.1).bind fun o431=>
  (X3 F o431 e430.1.2).bind fun o432=>
  some (.inl (o432,s.2.1,s.2.2.1,wi (s.2.2.2.1+1),s.2.2.2.2))
 else
 some (.inr (s.1,s.2.2.2.2))
def ZpR:Lp:=⟨[(1,.ref 0 []),(3,.v (.sl .u8)),(13,.v (.sl yIn)),(14,.v (.int .i64)),(15,.v (.int .i64))],[.var (.v yTx) true],[(.sl .u8),(.sl yIn),(.int .i64),(.int .i64),yTx],[⟨.exit 0,[(1,.ref 0 []),(3,.v (.sl .u8))],[.var (.v yTx) true],[(.sl .u8),yTx]⟩],Zc (ZnM fuel) fuel⟩
theorem Zta:ZpR.Ok ya (Zl ya 58) (Zk ya 58 0):=Zg (fi:={ hi:={ still:=[2,10,19,22,23,26,29,32,41,43,44,46,47,50,52]},lp:=[]}) (specs:={ l:=[Zjz,Zbc]}) (okS ⟨Zqx,ZbO,trivial⟩) trivial (by kernel_rfl) (fun v=>by kernel_rfl)
def ZnN (F:Nat) (s:((List UInt8)×(List Out)×Int×Int×Tx)):Option (((List UInt8)×(List Out)×Int×Int×Tx)⊕((List UInt8)×Tx)):=
 if (decide (s.2.2.2.1 < s.2.2.1))=true then
  (idx s.2.1 s.2.2.2.1).bind fun e435=>
  (X3 F s.1 e435.1).bind fun o436=>
  (QN F e435.2).bind fun o437=>
  (ZjA F o436 o437).bind fun o438=>
  some (.inl (o438,s.2.1,s.2.2.1,wi (s.2.2.2.1+1),s.2.2.2.2))
 else
 some (.inr (s.1,s.2.2.2.2))
def ZpS:Lp:=⟨[(1,.ref 0 []),(3,.v (.sl .u8)),(35,.v (.sl ZU)),(36,.v (.int .i64)),(37,.v (.int .i64))],[.var (.v yTx) true],[(.sl .u8),(.sl ZU),(.int .i64),(.int .i64),yTx],[⟨.exit 2,[(1,.ref 0 []),(3,.v (.sl .u8))],[.var (.v yTx) true],[(.sl .u8),yTx]⟩],Zc (ZnN fuel) fuel⟩
theorem Ztb:ZpS.Ok ya (Zl ya 58) (Zk ya 58 1):=Zg (fi:={ hi:={ still:=[2,10,19,22,23,26,29,32,41,43,44,46,47,50,52]},lp:=[]}) (specs:={ l:=[Zbc,Zde,ZhY]}) (okS ⟨ZbO,Zbu,ZoR,trivial⟩) trivial (by kernel_rfl) (fun v=>by kernel_rfl)
def Zvz (F:Nat) (a0:Tx):Option ((List UInt8)):=
 (X3 F ([]:List UInt8) (a0.1.length:Int)).bind fun o429=>
 (Zc (ZnM F) F (o429,a0.1,(a0.1.length:Int),(0:Int),a0)).bind fun o433=>
 (X3 F o433.1 (o433.2.2.1.length:Int)).bind fun o434=>
 (Zc (ZnN F) F (o434,o433.2.2.1,(o433.2.2.1.length:Int),(0:Int),o433.2)).bind fun o439=>
 (X3 F o439.1 o439.2.2.2).bind fun o440=>
 some o440
def ZzD (F:Nat):Fs ya:=⟨58,[.v yTx],[],[yTx],[⟨.ret,[(0,.v (.sl .u8))],[],[(.sl .u8)]⟩],fun x=>Zvz F x⟩
def Ztc:Fs ya:=ZzD fuel
theorem ZzE:Ztc.Ok:=Ze (fi:={ hi:={ still:=[2,10,19,22,23,26,29,32,41,43,44,46,47,50,52]},lp:=[(0,ZpR),(1,ZpS)]}) (specs:={ l:=[Zbc]}) (okS ⟨ZbO,trivial⟩) ⟨Zta,Ztb,trivial⟩ (by decide+kernel) (fun x=>by kernel_rfl)
def ZKF:ByteArray:=⟨#[116,120]⟩
def ZGp (F:Nat) (a0:Tx):Option ((List UInt8)):=
 (Zdw F a0).bind fun o441=>
 if (!o441)=true then
  some ([0,0,0,0,0,0,0,0,0,0,0,0,0,0,0,0,0,0,0,0,0,0,0,0,0,0,0,0,0,0,0,0]:List UInt8)
 else
 (Zvz F a0).bind fun o442=>
 (Zkx F ZKF ([o442]:List (List UInt8))).bind fun o443=>
 some o443
def Ztd (F:Nat):Fs ya:=⟨20,[.v yTx],[],[yTx],[⟨.ret,[(0,.v (.arr 32 .u8))],[],[(.arr 32 .u8)]⟩],fun x=>ZGp F x⟩
def ZCG:Fs ya:=Ztd fuel
theorem ZzF:ZCG.Ok:=Ze (fi:={ hi:={ still:=[3,7,9]},lp:=[]}) (specs:={ l:=[Zg1,Ztc,Zg4]}) (okS ⟨Zjq,ZzE,Zjy,trivial⟩) trivial (by decide+kernel) (fun x=>by kernel_rfl)
def Zg5 (F:Nat) (a0:UInt64):Option (Bool):=
 some (decide (a0 < 2305843009213688669))
def Zte (F:Nat):Fs ya:=⟨112,[.v .u64],[],[.u64],[⟨.ret,[(0,.v .bool)],[],[.bool]⟩],fun x=>Zg5 F x⟩
def Zfx:Fs ya:=Zte fuel
theorem ZjB:Zfx.Ok:=Ze (fi:={ hi:={ still:=[2]},lp:=[]}) (specs:={ l:=[]}) (okS trivial) trivial (by decide+kernel) (fun x=>by kernel_rfl)
def ZvA (F:Nat) (a0:UInt64):Option (Bool):=
 (Zg5 F a0).bind fun o444=>
 if o444=true then
  some (a0 !=0)
 else
 some false
def ZzG (F:Nat):Fs ya:=⟨140,[.v .u64],[],[.u64],[⟨.ret,[(0,.v .bool)],[],[.bool]⟩],fun x=>ZvA F x⟩
def Ztf:Fs ya:=ZzG fuel
theorem ZzH:Ztf.Ok:=Ze (fi:={ hi:={ still:=[2,3]},lp:=[]}) (specs:={ l:=[Zfx]}) (okS ⟨ZjB,trivial⟩) trivial (by decide+kernel) (fun x=>by kernel_rfl)
def V7 (F:Nat) (a0:UInt64):Option (UInt64):=
 (Xm F a0).bind fun o445=>
 if o445=true then
  some a0
 else
 some (1:UInt64)
def Ztg (F:Nat):Fs ya:=⟨138,[.v .u64],[],[.u64],[⟨.ret,[(0,.v .u64)],[],[.u64]⟩],fun x=>V7 F x⟩
def ZbA:Fs ya:=Ztg fuel
theorem Zea:ZbA.Ok:=Ze (fi:={ hi:={ still:=[2,3]},lp:=[]}) (specs:={ l:=[Vc]}) (okS ⟨VJ,trivial⟩) trivial (by decide+kernel) (fun x=>by kernel_rfl)
def Zao (F:Nat) (a0:UInt64) (a1:UInt64):Option (UInt64):=
 (V7 F a0).bind fun o446=>
 (V2 F o446 (a1 % 2305843009213688669)).bind fun o447=>
 some o447
def Zth (F:Nat):Fs ya:=⟨95,[.v .u64,.v .u64],[],[.u64,.u64],[⟨.ret,[(0,.v .u64)],[],[.u64]⟩],fun x=>Zao F x.1 x.2⟩
def Zfy:Fs ya:=Zth fuel
theorem ZjC:Zfy.Ok:=Ze (fi:={ hi:={ still:=[4,5,6,8]},lp:=[]}) (specs:={ l:=[ZbA,Zbq]}) (okS ⟨Zea,ZdT,trivial⟩) trivial (by decide+kernel) (fun x=>by kernel_rfl)
def Y6 (F:Nat) (a0:UInt64):Option (UInt64):=
 (Zao F (4:UInt64) a0).bind fun o448=>
 some o448
def Zut (F:Nat):Fs ya:=⟨35,[.v .u64],[],[.u64],[⟨.ret,[(0,.v .u64)],[],[.u64]⟩],fun x=>Y6 F x⟩
def Zap:Fs ya:=Zut fuel
theorem ZbB:Zap.Ok:=Ze (fi:={ hi:={ still:=[2,3]},lp:=[]}) (specs:={ l:=[Zfy]}) (okS ⟨ZjC,trivial⟩) trivial (by decide+kernel) (fun x=>by kernel_rfl)
def ZjD (F:Nat) (s:(UInt64×(List UInt8)×Int×(List UInt8))):Option ((UInt64×(List UInt8)×Int×(List UInt8))⊕(UInt64×(List UInt8))):=
 if (decide (s.2.2.1 < 32))=true then
  (idx s.2.1 s.2.2.1).bind fun e449=>
  (VI F (Zx s.1 56) ((Vm s.1 8)|||(yaf e449.toNat)) (2305843009213688668:UInt64)).bind fun o450=>
  some (.inl (o450,s.2.1,wi (s.2.2.1+1),s.2.2.2))
 else
 some (.inr (s.1,s.2.2.2))
def Zlv:Lp:=⟨[(3,.v .u64),(6,.v (.arr 32 .u8)),(7,.v (.int .i64))],[.var (.v (.arr 32 .u8)) true],[.u64,(.arr 32 .u8),(.int .i64),(.arr 32 .u8)],[⟨.exit 0,[(3,.v .u64)],[.var (.v (.arr 32 .u8)) true],[.u64,(.arr 32 .u8)]⟩],Zc (ZjD fuel) fuel⟩
theorem ZoS:Zlv.Ok ya (Zl ya 142) (Zk ya 142 0):=Zg (fi:={ hi:={ still:=[2,11,16]},lp:=[]}) (specs:={ l:=[Zc6]}) (okS ⟨Zfi,trivial⟩) trivial (by kernel_rfl) (fun v=>by kernel_rfl)
def ZjE (F:Nat) (a0:(List UInt8)):Option (UInt64):=
 (Zc (ZjD F) F ((0:UInt64),a0,(0:Int),a0)).bind fun o451=>
 some (o451.1+1)
def Zuu (F:Nat):Fs ya:=⟨142,[.v (.arr 32 .u8)],[],[(.arr 32 .u8)],[⟨.ret,[(0,.v .u64)],[],[.u64]⟩],fun x=>ZjE F x⟩
def Zg6:Fs ya:=Zuu fuel
theorem Zlw:Zg6.Ok:=Ze (fi:={ hi:={ still:=[2,11,16]},lp:=[(0,Zlv)]}) (specs:={ l:=[]}) (okS trivial) ⟨ZoS,trivial⟩ (by decide+kernel) (fun x=>by kernel_rfl)
def ZjF (F:Nat) (s:(UInt64×Int×Int×(List UInt8))):Option ((UInt64×Int×Int×(List UInt8))⊕(List UInt8)):=
 if (decide (s.2.2.1 < s.2.1))=true then
  if (decide (0≤wi (56 - (wi (8*s.2.2.1)))))=true then
   let y452:UInt64:=Zx s.1 (min (wi (56 - (wi (8*s.2.2.1)))).toNat 64)
   if (inB s.2.2.1 8)=true then
    (s.2.2.2[(0+s.2.2.1.toNat)]?).bind fun e453=>
    let y454:(List UInt8):=s.2.2.2.set (0+s.2.2.1.toNat) (w8 (y452.toNat:Int))
    some (.inl (s.1,s.2.1,wi (s.2.2.1+1),y454))
   else
   none
  else
  none
 else
 some (.inr s.2.2.2)
def Zlx:Lp:=⟨[(0,.v .u64),(3,.view 0 [] 1 0 8),(7,.v (.int .i64)),(8,.v (.int .i64))],[.var (.v (.arr 8 .u8)) true],[.u64,(.int .i64),(.int .i64),(.arr 8 .u8)],[⟨.exit 0,[(3,.view 0 [] 1 0 8)],[.var (.v (.arr 8 .u8)) true],[(.arr 8 .u8)]⟩],Zc (ZjF fuel) fuel⟩
theorem ZoT:Zlx.Ok ya (Zl ya 143) (Zk ya 143 0):=Zg (fi:={ hi:={ still:=[2]},lp:=[]}) (specs:={ l:=[]}) (okS trivial) trivial (by kernel_rfl) (fun v=>by kernel_rfl)
def Ze7 (F:Nat) (a0:UInt64):Option ((List UInt8)):=
 (Zc (ZjF F) F (a0,(8:Int),(0:Int),([0,0,0,0,0,0,0,0]:List UInt8))).bind fun o455=>
 some ((o455.drop 0).take 8)
def Zuv (F:Nat):Fs ya:=⟨143,[.v .u64],[],[.u64],[⟨.ret,[(0,.v (.sl .u8))],[],[(.sl .u8)]⟩],fun x=>Ze7 F x⟩
def Zg7:Fs ya:=Zuv fuel
theorem Zly:Zg7.Ok:=Ze (fi:={ hi:={ still:=[2]},lp:=[(0,Zlx)]}) (specs:={ l:=[]}) (okS trivial) ⟨ZoT,trivial⟩ (by decide+kernel) (fun x=>by kernel_rfl)
def ZKG:ByteArray:=⟨#[115,105,103]⟩
def Zcy (F:Nat) (a0:UInt64) (a1:UInt64) (a2:(List UInt8)):Option (UInt64):=
 (Ze7 F a0).bind fun o456=>
 (Ze7 F a1).bind fun o457=>
 (Zkx F ZKG ([o456,o457,a2]:List (List UInt8))).bind fun o458=>
 (ZjE F o458).bind fun o459=>
 some o459
def ZnO (F:Nat):Fs ya:=⟨114,[.v .u64,.v .u64,.v (.arr 32 .u8)],[],[.u64,.u64,(.arr 32 .u8)],[⟨.ret,[(0,.v .u64)],[],[.u64]⟩],fun x=>Zcy F x.1 x.2.1 x.2.2⟩
def Zbh:Fs ya:=ZnO fuel
theorem Ze8:Zbh.Ok:=Ze (fi:={ hi:={ still:=[6,7,9,12,13],frz:=[11]},lp:=[]}) (specs:={ l:=[Zg7,Zg4,Zg6]}) (okS ⟨Zly,Zjy,Zlw,trivial⟩) trivial (by decide+kernel) (fun x=>by kernel_rfl)
def Zlz (F:Nat) (s:(UInt64×(List UInt64)×Int×Int)):Option ((UInt64×(List UInt64)×Int×Int)⊕UInt64):=
 if (decide (s.2.2.2 < s.2.2.1))=true then
  (idx s.2.1 s.2.2.2).bind fun e460=>
  (V7 F e460).bind fun o461=>
  (Yl F s.1 o461).bind fun o462=>
  some (.inl (o462,s.2.1,s.2.2.1,wi (s.2.2.2+1)))
 else
 some (.inr s.1)
def ZnP:Lp:=⟨[(3,.v .u64),(6,.v (.sl .u64)),(7,.v (.int .i64)),(8,.v (.int .i64))],[],[.u64,(.sl .u64),(.int .i64),(.int .i64)],[⟨.exit 0,[(3,.v .u64)],[],[.u64]⟩],Zc (Zlz fuel) fuel⟩
theorem Zqy:ZnP.Ok ya (Zl ya 113) (Zk ya 113 0):=Zg (fi:={ hi:={ still:=[2,12,13,14]},lp:=[]}) (specs:={ l:=[ZbA,Zfj]}) (okS ⟨Zea,ZiU,trivial⟩) trivial (by kernel_rfl) (fun v=>by kernel_rfl)
def Zl9 (F:Nat) (a0:(List UInt64)):Option (UInt64):=
 (Zc (Zlz F) F ((1:UInt64),a0,(a0.length:Int),(0:Int))).bind fun o463=>
 some o463
def Zxp (F:Nat):Fs ya:=⟨113,[.v (.sl .u64)],[],[(.sl .u64)],[⟨.ret,[(0,.v .u64)],[],[.u64]⟩],fun x=>Zl9 F x⟩
def ZjG:Fs ya:=Zxp fuel
theorem ZnQ:ZjG.Ok:=Ze (fi:={ hi:={ still:=[2,12,13,14]},lp:=[(0,ZnP)]}) (specs:={ l:=[]}) (okS trivial) ⟨Zqy,trivial⟩ (by decide+kernel) (fun x=>by kernel_rfl)
def Zti (F:Nat) (a0:UInt64) (a1:UInt64):Option (UInt64):=
 (Zl9 F ([a0,a1]:List UInt64)).bind fun o464=>
 some o464
def Zxq (F:Nat):Fs ya:=⟨169,[.v .u64,.v .u64],[],[.u64,.u64],[⟨.ret,[(0,.v .u64)],[],[.u64]⟩],fun x=>Zti F x.1 x.2⟩
def ZpT:Fs ya:=Zxq fuel
theorem Zxr:ZpT.Ok:=Ze (fi:={ hi:={ still:=[4,7]},lp:=[]}) (specs:={ l:=[ZjG]}) (okS ⟨ZnQ,trivial⟩) trivial (by decide+kernel) (fun x=>by kernel_rfl)
def Zga (F:Nat) (a0:UInt64):Option (UInt64):=
 some (a0 % 2305843009213688669)
def ZzI (F:Nat):Fs ya:=⟨182,[.v .u64],[],[.u64],[⟨.ret,[(0,.v .u64)],[],[.u64]⟩],fun x=>Zga F x⟩
def Zma:Fs ya:=ZzI fuel
theorem ZpU:Zma.Ok:=Ze (fi:={ hi:={ still:=[2]},lp:=[]}) (specs:={ l:=[]}) (okS trivial) trivial (by decide+kernel) (fun x=>by kernel_rfl)
def ZhZ (F:Nat) (a0:UInt64) (a1:UInt64):Option (UInt64):=
 some ((a0+a1) % 2305843009213688669)
def ZnR (F:Nat):Fs ya:=⟨183,[.v .u64,.v .u64],[],[.u64,.u64],[⟨.ret,[(0,.v .u64)],[],[.u64]⟩],fun x=>ZhZ F x.1 x.2⟩
def Zgb:Fs ya:=ZnR fuel
theorem ZnS:Zgb.Ok:=Ze (fi:={ hi:={ still:=[4]},lp:=[]}) (specs:={ l:=[]}) (okS trivial) trivial (by decide+kernel) (fun x=>by kernel_rfl)
def Ztj (F:Nat) (a0:UInt64) (a1:UInt64):Option (UInt64):=
 (Zga F a0).bind fun o465=>
 (Zga F a1).bind fun o466=>
 (ZhZ F o465 o466).bind fun o467=>
 some o467
def Zxs (F:Nat):Fs ya:=⟨170,[.v .u64,.v .u64],[],[.u64,.u64],[⟨.ret,[(0,.v .u64)],[],[.u64]⟩],fun x=>Ztj F x.1 x.2⟩
def ZpV:Fs ya:=Zxs fuel
theorem Zxt:ZpV.Ok:=Ze (fi:={ hi:={ still:=[4,5,6,7,8]},lp:=[]}) (specs:={ l:=[Zma,Zgb]}) (okS ⟨ZpU,ZnS,trivial⟩) trivial (by decide+kernel) (fun x=>by kernel_rfl)
def Zgc (F:Nat) (a0:UInt64) (a1:UInt64):Option (UInt64):=
 (ZeX F a0 a1).bind fun o468=>
 (VI F o468.1 o468.2 (2305843009213688669:UInt64)).bind fun o469=>
 some o469
def Zmb (F:Nat):Fs ya:=⟨184,[.v .u64,.v .u64],[],[.u64,.u64],[⟨.ret,[(0,.v .u64)],[],[.u64]⟩],fun x=>Zgc F x.1 x.2⟩
def Ze9:Fs ya:=Zmb fuel
theorem Zmc:Ze9.Ok:=Ze (fi:={ hi:={ still:=[4,8,9,13,14]},lp:=[]}) (specs:={ l:=[ZgQ,Zc6]}) (okS ⟨Zlg,Zfi,trivial⟩) trivial (by decide+kernel) (fun x=>by kernel_rfl)
def Ztk (F:Nat) (a0:UInt64) (a1:UInt64):Option (UInt64):=
 (Zga F a0).bind fun o470=>
 (Zga F a1).bind fun o471=>
 (Zgc F o470 o471).bind fun o472=>
 some o472
def Zxu (F:Nat):Fs ya:=⟨171,[.v .u64,.v .u64],[],[.u64,.u64],[⟨.ret,[(0,.v .u64)],[],[.u64]⟩],fun x=>Ztk F x.1 x.2⟩
def ZpW:Fs ya:=Zxu fuel
theorem Zxv:ZpW.Ok:=Ze (fi:={ hi:={ still:=[4,5,6,7,8]},lp:=[]}) (specs:={ l:=[Zma,Ze9]}) (okS ⟨ZpU,Zmc,trivial⟩) trivial (by decide+kernel) (fun x=>by kernel_rfl)
def ZnT (F:Nat) (a0:UInt64) (a1:UInt64) (a2:(List UInt8)) (a3:UInt64):Option (Sig):=
 (Y6 F a1).bind fun o473=>
 (Zti F o473 a3).bind fun o474=>
 (Y6 F a0).bind fun o475=>
 (Zcy F o474 o475 a2).bind fun o476=>
 (Ztk F o476 a0).bind fun o477=>
 (Ztj F a1 o477).bind fun o478=>
 some (o474,o478)
def Ztl (F:Nat):Fs ya:=⟨141,[.v .u64,.v .u64,.v (.arr 32 .u8),.v .u64],[],[.u64,.u64,(.arr 32 .u8),.u64],[⟨.ret,[(0,.v W5)],[],[W5]⟩],fun x=>ZnT F x.1 x.2.1 x.2.2.1 x.2.2.2⟩
def ZlA:Fs ya:=Ztl fuel
theorem Ztm:ZlA.Ok:=Ze (fi:={ hi:={ still:=[9,10,11,14,16,17,18,19,20,21,22]},lp:=[]}) (specs:={ l:=[Zap,ZpT,Zbh,ZpW,ZpV]}) (okS ⟨ZbB,Zxr,Ze8,Zxv,Zxt,trivial⟩) trivial (by decide+kernel) (fun x=>by kernel_rfl)
def ZKH:ByteArray:=⟨#[110,111,110,99,101]⟩
def Ztn (F:Nat) (a0:UInt64) (a1:(List UInt8)):Option (Sig):=
 (ZvA F a0).bind fun o479=>
 if (!o479)=true then
  some ((0:UInt64),(0:UInt64))
 else
 (Ze7 F a0).bind fun o480=>
 (Zkx F ZKH ([o480,a1]:List (List UInt8))).bind fun o481=>
 (ZjE F o481).bind fun o482=>
 (ZnT F a0 o482 a1 (1:UInt64)).bind fun o483=>
 some o483
def Zxw (F:Nat):Fs ya:=⟨101,[.v .u64,.v (.arr 32 .u8)],[],[.u64,(.arr 32 .u8)],[⟨.ret,[(0,.v W5)],[],[W5]⟩],fun x=>Ztn F x.1 x.2⟩
def ZpX:Fs ya:=Zxw fuel
theorem Zxx:ZpX.Ok:=Ze (fi:={ hi:={ still:=[5,9,10,13,14,15,16],frz:=[12]},lp:=[]}) (specs:={ l:=[Ztf,Zg7,Zg4,Zg6,ZlA]}) (okS ⟨ZzH,Zly,Zjy,Zlw,Ztm,trivial⟩) trivial (by decide+kernel) (fun x=>by kernel_rfl)
abbrev Vz:Ty:=(.st [.u64,.u64,.u64,.u64,.u64,(.arr 32 .u8)])
abbrev Kit:Type:=(UInt64×UInt64×UInt64×UInt64×UInt64×(List UInt8))
abbrev Kit.Cond (x:Kit):UInt64:=x.2.2.2.1
def Zxy (F:Nat) (a0:Kit) (a1:Tx):Option (Sig):=
 (ZGp F a1).bind fun o484=>
 (Ztn F a0.1 o484).bind fun o485=>
 some o485
def Zeb (F:Nat):Fs ya:=⟨45,[.v Vz,.v yTx],[],[Vz,yTx],[⟨.ret,[(0,.v W5)],[],[W5]⟩],fun x=>Zxy F x.1 x.2⟩
def Zuw:Fs ya:=Zeb fuel
theorem Zto:Zuw.Ok:=Ze (fi:={ hi:={ still:=[6,7,8]},lp:=[]}) (specs:={ l:=[ZCG,ZpX]}) (okS ⟨ZzF,Zxx,trivial⟩) trivial (by decide+kernel) (fun x=>by kernel_rfl)
def VR (F:Nat) (a0:(List UInt64)):Option ((List UInt64)):=
 if (apB 0 a0.length 8)=true then
  some a0
 else
 none
def ZoU (F:Nat):Fs ya:=⟨110,[.sl true .u64],[],[(.sl .u64)],[⟨.ret,[(0,.v (.sl .u64))],[],[(.sl .u64)]⟩],fun x=>VR F x⟩
def Zqz:Fs ya:=ZoU fuel
theorem ZoV:Zqz.Ok:=Ze (fi:={ hi:={ own:=[5,7],still:=[2]},lp:=[]}) (specs:={ l:=[]}) (okS trivial) trivial (by decide+kernel) (fun x=>by kernel_rfl)
def Zfa (F:Nat):Option ((List UInt64)):=
 some ([]:List UInt64)
def ZkH (F:Nat):Fs ya:=⟨110,[.nil .u64],[],[],[⟨.ret,[(0,.v (.sl .u64))],[],[(.sl .u64)]⟩],fun x=>Zfa F⟩
def Zmd:Fs ya:=ZkH fuel
theorem ZkI:Zmd.Ok:=Ze (fi:={ hi:={ own:=[5,7],still:=[2]},lp:=[]}) (specs:={ l:=[]}) (okS trivial) trivial (by decide+kernel) (fun x=>by kernel_rfl)
def Zme (F:Nat):Fs ya:=⟨110,[.v (.sl .u64)],[],[(.sl .u64)],[⟨.ret,[(0,.v (.sl .u64))],[],[(.sl .u64)]⟩],fun x=>VR F x⟩
def Zaq:Fs ya:=Zme fuel
theorem Zec:Zaq.Ok:=Zsl (t:=.u64) (xs:=[⟨.ret,[(0,.v (.sl .u64))],[],[(.sl .u64)]⟩]) (MA:=fun (x:(List UInt64))=>VR fuel x) (MB:=fun _=>Zfa fuel) ZoV ZkI rfl
def ZnU (F:Nat) (a0:(List Sig)):Option ((List Sig)):=
 if (apB 0 a0.length 16)=true then
  some a0
 else
 none
def ZBt (F:Nat):Fs ya:=⟨146,[.sl true W5],[],[(.sl W5)],[⟨.ret,[(0,.v (.sl W5))],[],[(.sl W5)]⟩],fun x=>ZnU F x⟩
def ZD0:Fs ya:=ZBt fuel
theorem ZBu:ZD0.Ok:=Ze (fi:={ hi:={ own:=[5,7],still:=[2]},lp:=[]}) (specs:={ l:=[]}) (okS trivial) trivial (by decide+kernel) (fun x=>by kernel_rfl)
def ZpY (F:Nat):Option ((List Sig)):=
 some ([]:List Sig)
def Zux (F:Nat):Fs ya:=⟨146,[.nil W5],[],[],[⟨.ret,[(0,.v (.sl W5))],[],[(.sl W5)]⟩],fun x=>ZpY F⟩
def Zxz:Fs ya:=Zux fuel
theorem Zuy:Zxz.Ok:=Ze (fi:={ hi:={ own:=[5,7],still:=[2]},lp:=[]}) (specs:={ l:=[]}) (okS trivial) trivial (by decide+kernel) (fun x=>by kernel_rfl)
def ZxA (F:Nat):Fs ya:=⟨146,[.v (.sl W5)],[],[(.sl W5)],[⟨.ret,[(0,.v (.sl W5))],[],[(.sl W5)]⟩],fun x=>ZnU F x⟩
def ZpZ:Fs ya:=ZxA fuel
theorem ZxB:ZpZ.Ok:=Zsl (t:=W5) (xs:=[⟨.ret,[(0,.v (.sl W5))],[],[(.sl W5)]⟩]) (MA:=fun (x:(List Sig))=>ZnU fuel x) (MB:=fun _=>ZpY fuel) ZBu Zuy rfl
def Zmf (F:Nat) (a0:(List In)):Option (((List Unit)×(List In))):=
 if (apB 0 a0.length 80)=true then
  some (([()]:List Unit),a0)
 else
 none
def ZxC (F:Nat):Fs ya:=⟨144,[.sl true yIn],[],[(.sl yIn)],[⟨.ret,[(0,.rw 0)],[.row yIn true 104],[(.sl (.st [])),(.sl yIn)]⟩],fun x=>Zmf F x⟩
def ZzJ:Fs ya:=ZxC fuel
theorem ZxD:ZzJ.Ok:=Ze (fi:={ hi:={ own:=[5,7],rowt:=[2,5,7]},lp:=[]}) (specs:={ l:=[]}) (okS trivial) trivial (by decide+kernel) (fun x=>by kernel_rfl)
def ZnV (F:Nat) (a0:(List In)):Option (((List Unit)×(List In))):=if a0.isEmpty=true then none else Zmf F a0
def Ztp (F:Nat):Fs ya:=⟨144,[.v (.sl yIn)],[],[(.sl yIn)],[⟨.ret,[(0,.rw 0)],[.row yIn true 104],[(.sl (.st [])),(.sl yIn)]⟩],fun x=>ZnV F x⟩
def ZlB:Fs ya:=Ztp fuel
theorem Ztq:ZlB.Ok:=Zw7 (t:=yIn) (xs:=[⟨.ret,[(0,.rw 0)],[.row yIn true 104],[(.sl (.st [])),(.sl yIn)]⟩]) (MA:=fun (x:(List In))=>Zmf fuel x) ZxD rfl (fun _ _=>rfl)
def Zcz (F:Nat) (a0:(List Out)):Option (((List Unit)×(List Out))):=
 if (apB 0 a0.length 32)=true then
  some (([()]:List Unit),a0)
 else
 none
def ZnW (F:Nat):Fs ya:=⟨145,[.sl true ZU],[],[(.sl ZU)],[⟨.ret,[(0,.rw 0)],[.row ZU true 96],[(.sl (.st [])),(.sl ZU)]⟩],fun x=>Zcz F x⟩
def ZoW:Fs ya:=ZnW fuel
theorem ZnX:ZoW.Ok:=Ze (fi:={ hi:={ own:=[5,7],rowt:=[2,5,7]},lp:=[]}) (specs:={ l:=[]}) (okS trivial) trivial (by decide+kernel) (fun x=>by kernel_rfl)
def Zfb (F:Nat) (a0:(List Out)):Option (((List Unit)×(List Out))):=if a0.isEmpty=true then none else Zcz F a0
def ZkJ (F:Nat):Fs ya:=⟨145,[.v (.sl ZU)],[],[(.sl ZU)],[⟨.ret,[(0,.rw 0)],[.row ZU true 96],[(.sl (.st [])),(.sl ZU)]⟩],fun x=>Zfb F x⟩
def Zed:Fs ya:=ZkJ fuel
theorem ZkK:Zed.Ok:=Zw7 (t:=ZU) (xs:=[⟨.ret,[(0,.rw 0)],[.row ZU true 96],[(.sl (.st [])),(.sl ZU)]⟩]) (MA:=fun (x:(List Out))=>Zcz fuel x) ZnX rfl (fun _ _=>rfl)
def Zee (F:Nat) (a0:(List ZO)):Option (((List Unit)×(List ZO))):=
 if (apB 0 a0.length 48)=true then
  some (([()]:List Unit),a0)
 else
 none
def ZoX (F:Nat):Fs ya:=⟨130,[.sl true Zw],[],[(.sl Zw)],[⟨.ret,[(0,.rw 0)],[.row Zw true 126],[(.sl (.st [])),(.sl Zw)]⟩],fun x=>Zee F x⟩
def ZqA:Fs ya:=ZoX fuel
theorem ZoY:ZqA.Ok:=Ze (fi:={ hi:={ own:=[5,7],rowt:=[2,5,7]},lp:=[]}) (specs:={ l:=[]}) (okS trivial) trivial (by decide+kernel) (fun x=>by kernel_rfl)
def Zgd (F:Nat) (a0:(List ZO)):Option (((List Unit)×(List ZO))):=if a0.isEmpty=true then none else Zee F a0
def Zmg (F:Nat):Fs ya:=⟨130,[.v (.sl Zw)],[],[(.sl Zw)],[⟨.ret,[(0,.rw 0)],[.row Zw true 126],[(.sl (.st [])),(.sl Zw)]⟩],fun x=>Zgd F x⟩
def Zfc:Fs ya:=Zmg fuel
theorem Zmh:Zfc.Ok:=Zw7 (t:=Zw) (xs:=[⟨.ret,[(0,.rw 0)],[.row Zw true 126],[(.sl (.st [])),(.sl Zw)]⟩]) (MA:=fun (x:(List ZO))=>Zee fuel x) ZoY rfl (fun _ _=>rfl)
def ZbR (F:Nat) (s:(Int×Int×Int×Tx×(List Unit)×(List In)×(List Unit)×(List Out))):Option ((Int×Int×Int×Tx×(List Unit)×(List In)×(List Unit)×(List Out))⊕(Int×Tx×(List Unit)×(List In)×(List Unit)×(List Out))):=
 if (decide (s.2.1 < s.1))=true then
  if (inB s.2.1 s.2.2.2.2.2.1.length)=true then
   (s.2.2.2.2.2.1[s.2.1.toNat]?).bind fun e522=>
   (ZnU F e522.2.2.1).bind fun o523=>
   if (inB s.2.1 s.2.2.2.2.2.1.length)=true then
    (s.2.2.2.2.2.1[s.2.1.toNat]?).bind fun e524=>
    let y525:(List In):=s.2.2.2.2.2.1.set s.2.1.toNat (e524.1,(e524.2.1,o523,e524.2.2.2))
    some (.inl (s.1,wi (s.2.1+1),s.2.2.1,s.2.2.2.1,s.2.2.2.2.1,y525,s.2.2.2.2.2.2.1,s.2.2.2.2.2.2.2))
   else
   none
  else
  none
 else
 some (.inr (s.2.2.1,s.2.2.2.1,s.2.2.2.2.1,s.2.2.2.2.2.1,s.2.2.2.2.2.2.1,s.2.2.2.2.2.2.2))
def ZcH:Lp:=⟨[(1,.ref 0 []),(2,.ref 1 []),(17,.v (.int .i64)),(18,.v (.int .i64))],[.var (.agg [.rw 2,.rw 3,.v (.int .i64)]) true,.var (.v yTx) true,.row yIn true 104,.row ZU true 96],[(.int .i64),(.int .i64),(.int .i64),yTx,(.sl (.st [])),(.sl yIn),(.sl (.st [])),(.sl ZU)],[⟨.exit 0,[(1,.ref 0 []),(2,.ref 1 [])],[.var (.agg [.rw 2,.rw 3,.v (.int .i64)]) true,.var (.v yTx) true,.row yIn true 104,.row ZU true 96],[(.int .i64),yTx,(.sl (.st [])),(.sl yIn),(.sl (.st [])),(.sl ZU)]⟩],Zc (ZbR fuel) fuel⟩
theorem Zg8:ZcH.Ok ya (Zl ya 102) (Zk ya 102 0):=Zg (fi:={ hi:={ still:=[8,11,30,48,61,69],rowt:=[5,9,12,22,49,55,67]},lp:=[]}) (specs:={ l:=[ZpZ]}) (okS ⟨ZxB,trivial⟩) trivial (by kernel_rfl) (fun v=>by kernel_rfl)
def ZbS (F:Nat) (s:(Int×Int×Int×Int×Int×Int×Tx×(List Unit)×(List In)×(List Unit)×(List Out)×(List Unit)×(List ZO))):Option ((Int×Int×Int×Int×Int×Int×Tx×(List Unit)×(List In)×(List Unit)×(List Out)×(List Unit)×(List ZO))⊕(Int×Int×Int×Int×Tx×(List Unit)×(List In)×(List Unit)×(List Out)×(List Unit)×(List ZO))):=
 if (decide (s.2.2.2.2.1 < s.2.2.2.1))=true then
  if (inB s.2.2.2.2.1 s.2.2.2.2.2.2.2.2.2.2.2.2.length)=true then
   (s.2.2.2.2.2.2.2.2.2.2.2.2[s.2.2.2.2.1.toNat]?).bind fun e529=>
   (VR F e529.1).bind fun o530=>
   if (inB s.2.2.2.2.1 s.2.2.2.2.2.2.2.2.2.2.2.2.length)=true then
    (s.2.2.2.2.2.2.2.2.2.2.2.2[s.2.2.2.2.1.toNat]?).bind fun e531=>
    let y532:(List ZO):=s.2.2.2.2.2.2.2.2.2.2.2.2.set s.2.2.2.2.1.toNat (o530,e531.2.1,e531.2.2.1,e531.2.2.2)
    some (.inl (s.1,s.2.1,s.2.2.1,s.2.2.2.1,wi (s.2.2.2.2.1+1),s.2.2.2.2.2.1,s.2.2.2.2.2.2.1,s.2.2.2.2.2.2.2.1,s.2.2.2.2.2.2.2.2.1,s.2.2.2.2.2.2.2.2.2.1,s.2.2.2.2.2.2.2.2.2.2.1,s.2.2.2.2.2.2.2.2.2.2.2.1,y532))
   else
   none
  else
  none
 else
 some (.inr (s.1,s.2.1,s.2.2.1,s.2.2.2.2.2.1,s.2.2.2.2.2.2.1,s.2.2.2.2.2.2.2.1,s.2.2.2.2.2.2.2.2.1,s.2.2.2.2.2.2.2.2.2.1,s.2.2.2.2.2.2.2.2.2.2.1,s.2.2.2.2.2.2.2.2.2.2.2.1,s.2.2.2.2.2.2.2.2.2.2.2.2))
def ZcI:Lp:=⟨[(1,.ref 0 []),(2,.ref 1 []),(4,.v (.int .i64)),(5,.rw 4),(38,.v (.int .i64)),(39,.v (.int .i64)),(51,.v (.int .i64)),(52,.v (.int .i64))],[.var (.agg [.rw 2,.rw 3,.v (.int .i64)]) true,.var (.v yTx) true,.row yIn true 104,.row ZU true 96,.row Zw true 126],[(.int .i64),(.int .i64),(.int .i64),(.int .i64),(.int .i64),(.int .i64),yTx,(.sl (.st [])),(.sl yIn),(.sl (.st [])),(.sl ZU),(.sl (.st [])),(.sl Zw)],[⟨.exit 4,[(1,.ref 0 []),(2,.ref 1 []),(4,.v (.int .i64)),(5,.rw 4),(38,.v (.int .i64)),(39,.v (.int .i64))],[.var (.agg [.rw 2,.rw 3,.v (.int .i64)]) true,.var (.v yTx) true,.row yIn true 104,.row ZU true 96,.row Zw true 126],[(.int .i64),(.int .i64),(.int .i64),(.int .i64),yTx,(.sl (.st [])),(.sl yIn),(.sl (.st [])),(.sl ZU),(.sl (.st [])),(.sl Zw)]⟩],Zc (ZbS fuel) fuel⟩
theorem Zg9:ZcI.Ok ya (Zl ya 102) (Zk ya 102 2):=Zg (fi:={ hi:={ still:=[8,11,30,48,61,69],rowt:=[5,9,12,22,49,55,67]},lp:=[]}) (specs:={ l:=[Zaq]}) (okS ⟨Zec,trivial⟩) trivial (by kernel_rfl) (fun v=>by kernel_rfl)
def ZbT (F:Nat) (s:(Int×Int×Int×Tx×(List Unit)×(List In)×(List Unit)×(List Out))):Option ((Int×Int×Int×Tx×(List Unit)×(List In)×(List Unit)×(List Out))⊕(Int×Tx×(List Unit)×(List In)×(List Unit)×(List Out))):=
 if (decide (s.2.1 < s.1))=true then
  if (inB s.2.1 s.2.2.2.2.2.2.2.length)=true then
   (s.2.2.2.2.2.2.2[s.2.1.toNat]?).bind fun e527=>
   (Zgd F e527.2).bind fun o528=>
   (Zc (ZbS F) F (s.2.1,s.1,s.2.1,(o528.2.length:Int),(0:Int),s.2.2.1,s.2.2.2.1,s.2.2.2.2.1,s.2.2.2.2.2.1,s.2.2.2.2.2.2.1,s.2.2.2.2.2.2.2,o528.1,o528.2)).bind fun o533=>
   if (inB o533.1 o533.2.2.2.2.2.2.2.2.1.length)=true then
    (o533.2.2.2.2.2.2.2.2.1[o533.1.toNat]?).bind fun e534=>
    let y535:(List Out):=o533.2.2.2.2.2.2.2.2.1.set o533.1.toNat (e534.1,o533.2.2.2.2.2.2.2.2.2.2)
    some (.inl (o533.2.1,wi (o533.2.2.1+1),o533.2.2.2.1,o533.2.2.2.2.1,o533.2.2.2.2.2.1,o533.2.2.2.2.2.2.1,o533.2.2.2.2.2.2.2.1,y535))
   else
   none
  else
  none
 else
 some (.inr (s.2.2.1,s.2.2.2.1,s.2.2.2.2.1,s.2.2.2.2.2.1,s.2.2.2.2.2.2.1,s.2.2.2.2.2.2.2))
def ZcJ:Lp:=⟨[(1,.ref 0 []),(2,.ref 1 []),(38,.v (.int .i64)),(39,.v (.int .i64))],[.var (.agg [.rw 2,.rw 3,.v (.int .i64)]) true,.var (.v yTx) true,.row yIn true 104,.row ZU true 96],[(.int .i64),(.int .i64),(.int .i64),yTx,(.sl (.st [])),(.sl yIn),(.sl (.st [])),(.sl ZU)],[⟨.exit 2,[(1,.ref 0 []),(2,.ref 1 [])],[.var (.agg [.rw 2,.rw 3,.v (.int .i64)]) true,.var (.v yTx) true,.row yIn true 104,.row ZU true 96],[(.int .i64),yTx,(.sl (.st [])),(.sl yIn),(.sl (.st [])),(.sl ZU)]⟩],Zc (ZbT fuel) fuel⟩
theorem Zha:ZcJ.Ok ya (Zl ya 102) (Zk ya 102 1):=Zg (fi:={ hi:={ still:=[8,11,30,48,61,69],rowt:=[5,9,12,22,49,55,67]},lp:=[(2,ZcI)]}) (specs:={ l:=[Zfc]}) (okS ⟨Zmh,trivial⟩) ⟨Zg9,trivial⟩ (by kernel_rfl) (fun v=>by kernel_rfl)
end
end Go.Proofs.YtmkgbalfkhaflaaGreat
end
section
set_option maxRecDepth 4000
namespace Go.Proofs.YtmkgbalfkhaflaaGreat
open Go Go.Ev
noncomputable section
def Zfd (F:Nat) (a0:Tx):Option ((Int×(List Unit)×(List In)×(List Unit)×(List Out))):=
 (ZnV F a0.1).bind fun o520=>
 (Zfb F a0.2.1).bind fun o521=>
 (Zc (ZbR F) F ((o520.2.length:Int),(0:Int),a0.2.2,(([]:List In),([]:List Out),(0:Int)),o520.1,o520.2,o521.1,o521.2)).bind fun o526=>
 (Zc (ZbT F) F ((o526.2.2.2.2.2.length:Int),(0:Int),o526.1,o526.2.1,o526.2.2.1,o526.2.2.2.1,o526.2.2.2.2.1,o526.2.2.2.2.2)).bind fun o536=>
 some (o536.1,o536.2.2.1,o536.2.2.2.1,o536.2.2.2.2.1,o536.2.2.2.2.2)
def ZkL (F:Nat):Fs ya:=⟨102,[.v yTx],[],[yTx],[⟨.ret,[(0,.agg [.rw 0,.rw 1,.v (.int .i64)])],[.row yIn true 104,.row ZU true 96],[(.int .i64),(.sl (.st [])),(.sl yIn),(.sl (.st [])),(.sl ZU)]⟩],fun x=>Zfd F x⟩
def Zef:Fs ya:=ZkL fuel
theorem ZkM:Zef.Ok:=Ze (fi:={ hi:={ still:=[8,11,30,48,61,69],rowt:=[5,9,12,22,49,55,67]},lp:=[(0,ZcH),(1,ZcJ)]}) (specs:={ l:=[ZlB,Zed]}) (okS ⟨Ztq,ZkK,trivial⟩) ⟨Zg8,Zha,trivial⟩ (by decide+kernel) (fun x=>by kernel_rfl)
def ZxE (F:Nat) (a0:Tx) (a1:Sig) (a2:Sig):Option (Tx):=
 (Zfd F a0).bind fun o540=>
 if (decide ((o540.2.2.1.length:Int) > 0))=true then
  if (inB 0 o540.2.2.1.length)=true then
   (o540.2.2.1[0]?).bind fun e541=>
   let y542:(List In):=o540.2.2.1.set 0 (e541.1,((0:Int),([a1,a2]:List Sig),(0:UInt64)))
   some (y542,o540.2.2.2.2,o540.1)
  else
  none
 else
 some (o540.2.2.1,o540.2.2.2.2,o540.1)
def Zeg (F:Nat):Fs ya:=⟨46,[.v yTx,.v W5,.v W5],[],[yTx,W5,W5],[⟨.ret,[(0,.v yTx)],[],[yTx]⟩],fun x=>ZxE F x.1 x.2.1 x.2.2⟩
def Zuz:Fs ya:=Zeg fuel
theorem Ztr:Zuz.Ok:=ZH2 (fi:={ hi:={ still:=[7],rowt:=[14],deep:=[64]},lp:=[]}) (specs:={ l:=[Zef]}) (okS ⟨ZkM,trivial⟩) trivial (by decide+kernel) (fun x=>by kernel_rfl)
def Zhb (F:Nat) (a0:(List UInt8)):Option ((List UInt8)):=
 if (apB 0 a0.length 1)=true then
  some a0
 else
 none
def Zeh (F:Nat):Fs ya:=⟨103,[.sl true .u8],[],[(.sl .u8)],[⟨.ret,[(0,.v (.sl .u8))],[],[(.sl .u8)]⟩],fun x=>Zhb F x⟩
def ZuA:Fs ya:=Zeh fuel
theorem ZjH:ZuA.Ok:=Ze (fi:={ hi:={ own:=[5,7],still:=[2]},lp:=[]}) (specs:={ l:=[]}) (okS trivial) trivial (by decide+kernel) (fun x=>by kernel_rfl)
def Zh0 (F:Nat):Option ((List UInt8)):=
 some ([]:List UInt8)
def Zar (F:Nat):Fs ya:=⟨103,[.nil .u8],[],[],[⟨.ret,[(0,.v (.sl .u8))],[],[(.sl .u8)]⟩],fun x=>Zh0 F⟩
def ZoZ:Fs ya:=Zar fuel
theorem Zfe:ZoZ.Ok:=Ze (fi:={ hi:={ own:=[5,7],still:=[2]},lp:=[]}) (specs:={ l:=[]}) (okS trivial) trivial (by decide+kernel) (fun x=>by kernel_rfl)
def Zbi (F:Nat):Fs ya:=⟨103,[.v (.sl .u8)],[],[(.sl .u8)],[⟨.ret,[(0,.v (.sl .u8))],[],[(.sl .u8)]⟩],fun x=>Zhb F x⟩
def ZqB:Fs ya:=Zbi fuel
theorem Zo0:ZqB.Ok:=Zsl (t:=.u8) (xs:=[⟨.ret,[(0,.v (.sl .u8))],[],[(.sl .u8)]⟩]) (MA:=fun (x:(List UInt8))=>Zhb fuel x) (MB:=fun _=>Zh0 fuel) ZjH Zfe rfl
def ZxF (F:Nat) (a0:Kit):Option (WC):=
 (Y6 F a0.1).bind fun o545=>
 (Y6 F a0.2.1).bind fun o546=>
 (Y6 F a0.2.2.1).bind fun o547=>
 (Y6 F a0.2.2.2.1).bind fun o548=>
 (Y6 F a0.2.2.2.2.1).bind fun o549=>
 some (o545,o546,o547,o548,o549)
def Zei (F:Nat):Fs ya:=⟨38,[.v Vz],[],[Vz],[⟨.ret,[(0,.v Vn)],[],[Vn]⟩],fun x=>ZxF F x⟩
def ZuB:Fs ya:=Zei fuel
theorem Zts:ZuB.Ok:=Ze (fi:={ hi:={ still:=[4,7,10,13,16]},lp:=[]}) (specs:={ l:=[Zap]}) (okS ⟨ZbB,trivial⟩) trivial (by decide+kernel) (fun x=>by kernel_rfl)
abbrev VS:Type:=(Z6×Kit×Int×State×(List Lock)×Int×(List Msg)×(List Msg)×Sig)
abbrev VS.Chan (x:VS):Z6:=x.1
abbrev VS.Kit (x:VS):Kit:=x.2.1
abbrev VS.State (x:VS):State:=x.2.2.2.1
abbrev VS.Sig (x:VS):Sig:=x.2.2.2.2.2.2.2.2
def ZvB (F:Nat) (a0:(List UInt64)):Option (Lock):=
 (VR F a0).bind fun o557=>
 some ([(o557,0,0,0)]:Lock)
def ZzK (F:Nat):Fs ya:=⟨53,[.v (.sl .u64)],[],[(.sl .u64)],[⟨.ret,[(0,.v ZK)],[],[ZK]⟩],fun x=>ZvB F x⟩
def Ztt:Fs ya:=ZzK fuel
theorem ZzL:Ztt.Ok:=Ze (fi:={ hi:={ still:=[3]},lp:=[]}) (specs:={ l:=[Zaq]}) (okS ⟨Zec,trivial⟩) trivial (by decide+kernel) (fun x=>by kernel_rfl)
def ZD1 (F:Nat) (a0:UInt64):Option (Lock):=
 (ZvB F ([a0]:List UInt64)).bind fun o558=>
 some o558
def ZjI (F:Nat):Fs ya:=⟨17,[.v .u64],[],[.u64],[⟨.ret,[(0,.v ZK)],[],[ZK]⟩],fun x=>ZD1 F x⟩
def ZBv:Fs ya:=ZjI fuel
theorem ZzM:ZBv.Ok:=Ze (fi:={ hi:={ still:=[4]},lp:=[]}) (specs:={ l:=[Ztt]}) (okS ⟨ZzL,trivial⟩) trivial (by decide+kernel) (fun x=>by kernel_rfl)
def Y8 (F:Nat) (s:(UInt64×Int×Int×(List UInt8))):Option ((UInt64×Int×Int×(List UInt8))⊕(UInt64×Int×(List UInt8))):=
 if (decide (s.2.2.1 ≥ 0))=true then
  if (inB s.2.1 32)=true then
   (s.2.2.2[s.2.1.toNat]?).bind fun e559=>
   let y560:UInt64:=Zx (yaf e559.toNat) (min ((w64 s.2.2.1).toNat:Int).toNat 64)
   some (.inl (((2*s.1)+(y560&&&1)) % 2305843009213688668,s.2.1,wi (s.2.2.1 - 1),s.2.2.2))
  else
  none
 else
 some (.inr (s.1,s.2.1,s.2.2.2))
def ZbU:Lp:=⟨[(1,.ref 0 []),(3,.v .u64),(4,.v (.int .i64)),(5,.v (.int .i64))],[.var (.v (.arr 32 .u8)) true],[.u64,(.int .i64),(.int .i64),(.arr 32 .u8)],[⟨.exit 2,[(1,.ref 0 []),(3,.v .u64),(4,.v (.int .i64))],[.var (.v (.arr 32 .u8)) true],[.u64,(.int .i64),(.arr 32 .u8)]⟩],Zc (Y8 fuel) fuel⟩
theorem Zge:ZbU.Ok ya (Zl ya 85) (Zk ya 85 1):=Zg (fi:={ hi:={ still:=[2]},lp:=[]}) (specs:={ l:=[]}) (okS trivial) trivial (by kernel_rfl) (fun v=>by kernel_rfl)
def Y9 (F:Nat) (s:(UInt64×Int×(List UInt8))):Option ((UInt64×Int×(List UInt8))⊕(UInt64×(List UInt8))):=
 if (decide (s.2.1 < 32))=true then
  (Zc (Y8 F) F (s.1,s.2.1,(7:Int),s.2.2)).bind fun o561=>
  some (.inl (o561.1,wi (o561.2.1+1),o561.2.2))
 else
 some (.inr (s.1,s.2.2))
def ZbV:Lp:=⟨[(1,.ref 0 []),(3,.v .u64),(4,.v (.int .i64))],[.var (.v (.arr 32 .u8)) true],[.u64,(.int .i64),(.arr 32 .u8)],[⟨.exit 0,[(3,.v .u64)],[.var (.v (.arr 32 .u8)) true],[.u64,(.arr 32 .u8)]⟩],Zc (Y9 fuel) fuel⟩
theorem Zgf:ZbV.Ok ya (Zl ya 85) (Zk ya 85 0):=Zg (fi:={ hi:={ still:=[2]},lp:=[(1,ZbU)]}) (specs:={ l:=[]}) (okS trivial) ⟨Zge,trivial⟩ (by kernel_rfl) (fun v=>by kernel_rfl)
def Yi (F:Nat) (a0:(List UInt8)):Option (UInt64):=
 (Zc (Y9 F) F ((0:UInt64),(0:Int),a0)).bind fun o562=>
 some (o562.1+1)
def ZjJ (F:Nat):Fs ya:=⟨85,[.v (.arr 32 .u8)],[],[(.arr 32 .u8)],[⟨.ret,[(0,.v .u64)],[],[.u64]⟩],fun x=>Yi F x⟩
def ZcK:Fs ya:=ZjJ fuel
theorem ZjK:ZcK.Ok:=Ze (fi:={ hi:={ still:=[2]},lp:=[(0,ZbV)]}) (specs:={ l:=[]}) (okS trivial) ⟨Zgf,trivial⟩ (by decide+kernel) (fun x=>by kernel_rfl)
def Xa (F:Nat) (s:(UInt64×Int×(List UInt8))):Option ((UInt64×Int×(List UInt8))⊕(List UInt8)):=
 if (decide (s.2.1 ≥ 0))=true then
  if (decide (0≤s.2.1))=true then
   let y563:UInt8:=w8 ((Zx s.1 (min s.2.1.toNat 64)).toNat:Int)
   if (apB s.2.2.length 1 1)=true then
    some (.inl (s.1,wi (s.2.1 - 8),s.2.2++([y563]:List UInt8)))
   else
   none
  else
  none
 else
 some (.inr s.2.2)
def ZbW:Lp:=⟨[(0,.v .u64),(3,.own 0 .u8),(4,.v (.int .i64))],[.log .u8 5],[.u64,(.int .i64),(.sl .u8)],[⟨.exit 0,[(3,.own 0 .u8)],[.log .u8 5],[(.sl .u8)]⟩],Zc (Xa fuel) fuel⟩
theorem Zgg:ZbW.Ok ya (Zl ya 164) (Zk ya 164 0):=Zg (fi:={ hi:={ own:=[3,9,15],still:=[2]},lp:=[]}) (specs:={ l:=[]}) (okS trivial) trivial (by kernel_rfl) (fun v=>by kernel_rfl)
def WW (F:Nat) (a0:UInt64):Option ((List UInt8)):=
 (Zc (Xa F) F (a0,(56:Int),([]:List UInt8))).bind fun o564=>
 some o564
def ZjL (F:Nat):Fs ya:=⟨164,[.v .u64],[],[.u64],[⟨.ret,[(0,.v (.sl .u8))],[],[(.sl .u8)]⟩],fun x=>WW F x⟩
def ZcL:Fs ya:=ZjL fuel
theorem ZjM:ZcL.Ok:=Ze (fi:={ hi:={ own:=[3,9,15],still:=[2]},lp:=[(0,ZbW)]}) (specs:={ l:=[]}) (okS trivial) ⟨Zgg,trivial⟩ (by decide+kernel) (fun x=>by kernel_rfl)
def YD (F:Nat) (s:((List UInt8)×(List UInt8))):Option (((List UInt8)×(List UInt8))⊕((List UInt8)×(List UInt8))):=
 if ((Int.tmod (s.2.length:Int) 64)!=56)=true then
  if (apB s.2.length 1 1)=true then
   some (.inl (s.1,s.2++([0]:List UInt8)))
  else
  none
 else
 some (.inr (s.1,s.2))
def Zas:Lp:=⟨[(0,.v (.sl .u8)),(3,.own 0 .u8)],[.log .u8 5],[(.sl .u8),(.sl .u8)],[⟨.exit 0,[(0,.v (.sl .u8)),(3,.own 0 .u8)],[.log .u8 5],[(.sl .u8),(.sl .u8)]⟩],Zc (YD fuel) fuel⟩
theorem Zez:Zas.Ok ya (Zl ya 179) (Zk ya 179 0):=Zg (fi:={ hi:={ own:=[3,6,8,9,11,16,18,27,33],still:=[2]},lp:=[]}) (specs:={ l:=[]}) (okS trivial) trivial (by kernel_rfl) (fun v=>by kernel_rfl)
def YE (F:Nat) (s:(UInt64×Int×(List UInt8))):Option ((UInt64×Int×(List UInt8))⊕(List UInt8)):=
 if (decide (s.2.1 ≥ 0))=true then
  if (decide (0≤s.2.1))=true then
   let y566:UInt8:=w8 ((Zx s.1 (min s.2.1.toNat 64)).toNat:Int)
   if (apB s.2.2.length 1 1)=true then
    some (.inl (s.1,wi (s.2.1 - 8),s.2.2++([y566]:List UInt8)))
   else
   none
  else
  none
 else
 some (.inr s.2.2)
def Zat:Lp:=⟨[(3,.own 0 .u8),(4,.v .u64),(5,.v (.int .i64))],[.log .u8 5],[.u64,(.int .i64),(.sl .u8)],[⟨.exit 2,[(3,.own 0 .u8)],[.log .u8 5],[(.sl .u8)]⟩],Zc (YE fuel) fuel⟩
theorem ZeA:Zat.Ok ya (Zl ya 179) (Zk ya 179 1):=Zg (fi:={ hi:={ own:=[3,6,8,9,11,16,18,27,33],still:=[2]},lp:=[]}) (specs:={ l:=[]}) (okS trivial) trivial (by kernel_rfl) (fun v=>by kernel_rfl)
def Wd (F:Nat) (a0:(List UInt8)):Option ((List UInt8)):=
 if (apB 0 a0.length 1)=true then
  if (apB a0.length 1 1)=true then
   (Zc (YD F) F (a0,a0++([128]:List UInt8))).bind fun o565=>
   (Zc (YE F) F (8*(w64 (o565.1.length:Int)),(56:Int),o565.2)).bind fun o567=>
   some o567
  else
  none
 else
 none
def Zhc (F:Nat):Fs ya:=⟨179,[.v (.sl .u8)],[],[(.sl .u8)],[⟨.ret,[(0,.v (.sl .u8))],[],[(.sl .u8)]⟩],fun x=>Wd F x⟩
def ZaH:Fs ya:=Zhc fuel
theorem Zhd:ZaH.Ok:=Ze (fi:={ hi:={ own:=[3,6,8,9,11,16,18,27,33],still:=[2]},lp:=[(0,Zas),(1,Zat)]}) (specs:={ l:=[]}) (okS trivial) ⟨Zez,ZeA,trivial⟩ (by decide+kernel) (fun x=>by kernel_rfl)
def VT (F:Nat):Option ((List UInt32)):=
 some ([1779033703,3144134277,1013904242,2773480762,1359893119,2600822924,528734635,1541459225]:List UInt32)
def Zhe (F:Nat):Fs ya:=⟨180,[],[],[],[⟨.ret,[(0,.v (.sl .u32))],[],[(.sl .u32)]⟩],fun x=>VT F⟩
def ZaI:Fs ya:=Zhe fuel
theorem Zhf:ZaI.Ok:=Ze (fi:={ hi:={ still:=[0]},lp:=[]}) (specs:={ l:=[]}) (okS trivial) trivial (by decide+kernel) (fun x=>by kernel_rfl)
def ZC (F:Nat) (a0:UInt32) (a1:Int):Option (UInt32):=
 if (decide (0≤a1))=true then
  if (decide (0≤wi (32 - a1)))=true then
   let y568:UInt32:=(ZcD a0 (min a1.toNat 32))|||(QK a0 (min (wi (32 - a1)).toNat 32))
   some y568
  else
  none
 else
 none
def ZjN (F:Nat):Fs ya:=⟨190,[.v .u32,.v (.int .i64)],[],[.u32,(.int .i64)],[⟨.ret,[(0,.v .u32)],[],[.u32]⟩],fun x=>ZC F x.1 x.2⟩
def Qf:Fs ya:=ZjN fuel
theorem ZbX:Qf.Ok:=Ze (fi:={ hi:={ still:=[4]},lp:=[]}) (specs:={ l:=[]}) (okS trivial) trivial (by decide+kernel) (fun x=>by kernel_rfl)
def YU (F:Nat) (s:((List UInt8)×Int×(List UInt32))):Option (((List UInt8)×Int×(List UInt32))⊕(List UInt32)):=
 if (decide (s.2.1 < 16))=true then
  (idx s.1 (wi (4*s.2.1))).bind fun e569=>
  (idx s.1 (wi ((wi (4*s.2.1))+1))).bind fun e570=>
  let y571:UInt32:=(QK (ybh e569.toNat) 24)|||(QK (ybh e570.toNat) 16)
  (idx s.1 (wi ((wi (4*s.2.1))+2))).bind fun e572=>
  (idx s.1 (wi ((wi (4*s.2.1))+3))).bind fun e573=>
  let y574:UInt32:=(y571|||(QK (ybh e572.toNat) 8))|||(ybh e573.toNat)
  if (apB s.2.2.length 1 4)=true then
   some (.inl (s.1,wi (s.2.1+1),s.2.2++([y574]:List UInt32)))
  else
  none
 else
 some (.inr s.2.2)
def ZaJ:Lp:=⟨[(0,.v (.sl .u8)),(3,.own 0 .u32),(4,.v (.int .i64))],[.log .u32 25],[(.sl .u8),(.int .i64),(.sl .u32)],[⟨.exit 0,[(3,.own 0 .u32)],[.log .u32 25],[(.sl .u32)]⟩],Zc (YU fuel) fuel⟩
theorem Zfz:ZaJ.Ok ya (Zl ya 188) (Zk ya 188 0):=Zg (fi:={ hi:={ own:=[3,14,49,80,97],still:=[2,64,66,72,74]},lp:=[]}) (specs:={ l:=[]}) (okS trivial) trivial (by kernel_rfl) (fun v=>by kernel_rfl)
def YV (F:Nat) (s:(Int×(List UInt32))):Option ((Int×(List UInt32))⊕(List UInt32)):=
 if (decide (s.1 < 64))=true then
  (idx s.2 (wi (s.1 - 15))).bind fun e576=>
  (idx s.2 (wi (s.1 - 2))).bind fun e577=>
  (ZC F e576 (7:Int)).bind fun o578=>
  (ZC F e576 (18:Int)).bind fun o579=>
  (ZC F e577 (17:Int)).bind fun o580=>
  (ZC F e577 (19:Int)).bind fun o581=>
  (idx s.2 (wi (s.1 - 16))).bind fun e582=>
  (idx s.2 (wi (s.1 - 7))).bind fun e583=>
  let y584:UInt32:=(e582+((o578^^^o579)^^^(ZcD e576 3)))+e583
  if (apB s.2.length 1 4)=true then
   let y585:(List UInt32):=s.2++([y584+((o580^^^o581)^^^(ZcD e577 10))]:List UInt32)
   some (.inl (wi (s.1+1),y585))
  else
  none
 else
 some (.inr s.2)
def ZaK:Lp:=⟨[(3,.own 0 .u32),(5,.v (.int .i64))],[.log .u32 25],[(.int .i64),(.sl .u32)],[⟨.exit 2,[(3,.own 0 .u32)],[.log .u32 25],[(.sl .u32)]⟩],Zc (YV fuel) fuel⟩
theorem ZfA:ZaK.Ok ya (Zl ya 188) (Zk ya 188 1):=Zg (fi:={ hi:={ own:=[3,14,49,80,97],still:=[2,64,66,72,74]},lp:=[]}) (specs:={ l:=[Qf]}) (okS ⟨ZbX,trivial⟩) trivial (by kernel_rfl) (fun v=>by kernel_rfl)
def Wt (F:Nat) (a0:(List UInt8)):Option ((List UInt32)):=
 (Zc (YU F) F (a0,(0:Int),([]:List UInt32))).bind fun o575=>
 (Zc (YV F) F ((16:Int),o575)).bind fun o586=>
 some o586
def Zh8 (F:Nat):Fs ya:=⟨188,[.v (.sl .u8)],[],[(.sl .u8)],[⟨.ret,[(0,.v (.sl .u32))],[],[(.sl .u32)]⟩],fun x=>Wt F x⟩
def ZbY:Fs ya:=Zh8 fuel
theorem Zh9:ZbY.Ok:=Ze (fi:={ hi:={ own:=[3,14,49,80,97],still:=[2,64,66,72,74]},lp:=[(0,ZaJ),(1,ZaK)]}) (specs:={ l:=[]}) (okS trivial) ⟨Zfz,ZfA,trivial⟩ (by decide+kernel) (fun x=>by kernel_rfl)
def QC (F:Nat):Option ((List UInt32)):=
 some ([1116352408,1899447441,3049323471,3921009573,961987163,1508970993,2453635748,2870763221,3624381080,310598401,607225278,1426881987,1925078388,2162078206,2614888103,3248222580,3835390401,4022224774,264347078,604807628,770255983,1249150122,1555081692,1996064986,2554220882,2821834349,2952996808,3210313671,3336571891,3584528711,113926993,338241895,666307205,773529912,1294757372,1396182291,1695183700,1986661051,2177026350,2456956037,2730485921,2820302411,3259730800,3345764771,3516065817,3600352804,4094571909,275423344,430227734,506948616,659060556,883997877,958139571,1322822218,1537002063,1747873779,1955562222,2024104815,2227730452,2361852424,2428436474,2756734187,3204031479,3329325298]:List UInt32)
def ZjO (F:Nat):Fs ya:=⟨189,[],[],[],[⟨.ret,[(0,.v (.sl .u32))],[],[(.sl .u32)]⟩],fun x=>QC F⟩
def ZcM:Fs ya:=ZjO fuel
theorem ZjP:ZcM.Ok:=Ze (fi:={ hi:={ still:=[0]},lp:=[]}) (specs:={ l:=[]}) (okS trivial) trivial (by decide+kernel) (fun x=>by kernel_rfl)
def YW (F:Nat) (s:((List UInt32)×(List UInt32)×(List UInt32)×Int×(List Unit)×(List UInt32))):Option (((List UInt32)×(List UInt32)×(List UInt32)×Int×(List Unit)×(List UInt32))⊕((List UInt32)×(List Unit)×(List UInt32))):=
 if (decide (s.2.2.2.1 < 64))=true then
  if (inB 4 s.2.2.2.2.2.length)=true then
   (s.2.2.2.2.2[4]?).bind fun e589=>
   (ZC F e589 (6:Int)).bind fun o590=>
   if (inB 4 s.2.2.2.2.2.length)=true then
    (s.2.2.2.2.2[4]?).bind fun e591=>
    (ZC F e591 (11:Int)).bind fun o592=>
    if (inB 4 s.2.2.2.2.2.length)=true then
     (s.2.2.2.2.2[4]?).bind fun e593=>
     (ZC F e593 (25:Int)).bind fun o594=>
     if (inB 4 s.2.2.2.2.2.length)=true then
      (s.2.2.2.2.2[4]?).bind fun e595=>
      if (inB 5 s.2.2.2.2.2.length)=true then
       (s.2.2.2.2.2[5]?).bind fun e596=>
       if (inB 4 s.2.2.2.2.2.length)=true then
        (s.2.2.2.2.2[4]?).bind fun e597=>
        if (inB 6 s.2.2.2.2.2.length)=true then
         (s.2.2.2.2.2[6]?).bind fun e598=>
         let y599:UInt32:=(e595&&&e596)^^^((4294967295^^^e597)&&&e598)
         if (inB 7 s.2.2.2.2.2.length)=true then
          (s.2.2.2.2.2[7]?).bind fun e600=>
          (idx s.2.2.1 s.2.2.2.1).bind fun e601=>
          let y602:UInt32:=((e600+((o590^^^o592)^^^o594))+y599)+e601
          (idx s.2.1 s.2.2.2.1).bind fun e603=>
          if (inB 0 s.2.2.2.2.2.length)=true then
           (s.2.2.2.2.2[0]?).bind fun e604=>
           (ZC F e604 (2:Int)).bind fun o605=>
           if (inB 0 s.2.2.2.2.2.length)=true then
            (s.2.2.2.2.2[0]?).bind fun e606=>
            (ZC F e606 (13:Int)).bind fun o607=>
            if (inB 0 s.2.2.2.2.2.length)=true then
             (s.2.2.2.2.2[0]?).bind fun e608=>
             (ZC F e608 (22:Int)).bind fun o609=>
             if (inB 0 s.2.2.2.2.2.length)=true then
              (s.2.2.2.2.2[0]?).bind fun e610=>
              if (inB 1 s.2.2.2.2.2.length)=true then
               (s.2.2.2.2.2[1]?).bind fun e611=>
               if (inB 0 s.2.2.2.2.2.length)=true then
                (s.2.2.2.2.2[0]?).bind fun e612=>
                if (inB 2 s.2.2.2.2.2.length)=true then
                 (s.2.2.2.2.2[2]?).bind fun e613=>
                 if (inB 1 s.2.2.2.2.2.length)=true then
                  (s.2.2.2.2.2[1]?).bind fun e614=>
                  if (inB 2 s.2.2.2.2.2.length)=true then
                   (s.2.2.2.2.2[2]?).bind fun e615=>
                   let y616:UInt32:=((e610&&&e611)^^^(e612&&&e613))^^^(e614&&&e615)
                   let y617:UInt32:=((y602+e603)+((o605^^^o607)^^^o609))+y616
                   if (inB 0 s.2.2.2.2.2.length)=true then
                    (s.2.2.2.2.2[0]?).bind fun e618=>
                    if (inB 1 s.2.2.2.2.2.length)=true then
                     (s.2.2.2.2.2[1]?).bind fun e619=>
                     if (inB 2 s.2.2.2.2.2.length)=true then
                      (s.2.2.2.2.2[2]?).bind fun e620=>
                      if (inB 3 s.2.2.2.2.2.length)=true then
                       (s.2.2.2.2.2[3]?).bind fun e621=>
                       if (inB 4 s.2.2.2.2.2.length)=true then
                        (s.2.2.2.2.2[4]?).bind fun e622=>
                        if (inB 5 s.2.2.2.2.2.length)=true then
                         (s.2.2.2.2.2[5]?).bind fun e623=>
                         if (inB 6 s.2.2.2.2.2.length)=true then
                          (s.2.2.2.2.2[6]?).bind fun e624=>
                          some (.inl (s.1,s.2.1,s.2.2.1,wi (s.2.2.2.1+1),()::s.2.2.2.2.1,([y617,e618,e619,e620,e621+(y602+e603),e622,e623,e624]:List UInt32)))
                         else
                         none
                        else
                        none
                       else
                       none
                      else
                      none
                     else
                     none
                    else
                    none
                   else
                   none
                  else
                  none
                 else
                 none
                else
                none
               else
               none
              else
              none
             else
             none
            else
            none
           else
           none
          else
          none
         else
         none
        else
        none
       else
       none
      else
      none
     else
     none
    else
    none
   else
   none
  else
  none
 else
 some (.inr (s.1,s.2.2.2.2.1,s.2.2.2.2.2))
def ZaL:Lp:=⟨[(0,.v (.sl .u32)),(5,.v (.sl .u32)),(6,.v (.sl .u32)),(7,.rw 0),(8,.v (.int .i64))],[.row .u32 true 25],[(.sl .u32),(.sl .u32),(.sl .u32),(.int .i64),(.sl (.st [])),(.sl .u32)],[⟨.exit 0,[(0,.v (.sl .u32)),(7,.rw 0)],[.row .u32 true 25],[(.sl .u32),(.sl (.st [])),(.sl .u32)]⟩],Zc (YW fuel) fuel⟩
theorem ZfB:ZaL.Ok ya (Zl ya 181) (Zk ya 181 0):=Zg (fi:={ hi:={ own:=[18,20],still:=[4,15,27,31,36,74,78,83],rowt:=[7,18,20,137,142],rew:=[(137,7)]},lp:=[]}) (specs:={ l:=[Qf]}) (okS ⟨ZbX,trivial⟩) trivial (by kernel_rfl) (fun v=>by kernel_rfl)
def YX (F:Nat) (s:((List UInt32)×Int×(List Unit)×(List UInt32))):Option (((List UInt32)×Int×(List Unit)×(List UInt32))⊕((List Unit)×(List UInt32))):=
 if (decide (s.2.1 < 8))=true then
  if (inB s.2.1 s.2.2.2.length)=true then
   (s.2.2.2[s.2.1.toNat]?).bind fun e626=>
   (idx s.1 s.2.1).bind fun e627=>
   if (inB s.2.1 s.2.2.2.length)=true then
    (s.2.2.2[s.2.1.toNat]?).bind fun e628=>
    some (.inl (s.1,wi (s.2.1+1),s.2.2.1,s.2.2.2.set s.2.1.toNat (e626+e627)))
   else
   none
  else
  none
 else
 some (.inr (s.2.2.1,s.2.2.2))
def ZaM:Lp:=⟨[(0,.v (.sl .u32)),(7,.rw 0),(14,.v (.int .i64))],[.row .u32 true 25],[(.sl .u32),(.int .i64),(.sl (.st [])),(.sl .u32)],[⟨.exit 2,[(7,.rw 0)],[.row .u32 true 25],[(.sl (.st [])),(.sl .u32)]⟩],Zc (YX fuel) fuel⟩
theorem ZfC:ZaM.Ok ya (Zl ya 181) (Zk ya 181 1):=Zg (fi:={ hi:={ own:=[18,20],still:=[4,15,27,31,36,74,78,83],rowt:=[7,18,20,137,142],rew:=[(137,7)]},lp:=[]}) (specs:={ l:=[]}) (okS trivial) trivial (by kernel_rfl) (fun v=>by kernel_rfl)
def Wu (F:Nat) (a0:(List UInt32)) (a1:(List UInt8)):Option ((List UInt32)):=
 (Wt F a1).bind fun o587=>
 (QC F).bind fun o588=>
 if (apB 0 a0.length 4)=true then
  (Zc (YW F) F (a0,o587,o588,(0:Int),([()]:List Unit),a0)).bind fun o625=>
  (Zc (YX F) F (o625.1,(0:Int),o625.2.1,o625.2.2)).bind fun o629=>
  some o629.2
 else
 none
def Zia (F:Nat):Fs ya:=⟨181,[.v (.sl .u32),.v (.sl .u8)],[],[(.sl .u32),(.sl .u8)],[⟨.ret,[(0,.v (.sl .u32))],[],[(.sl .u32)]⟩],fun x=>Wu F x.1 x.2⟩
def ZbZ:Fs ya:=Zia fuel
theorem Zib:ZbZ.Ok:=Ze (fi:={ hi:={ own:=[18,20],still:=[4,15,27,31,36,74,78,83],rowt:=[7,18,20,137,142],rew:=[(137,7)]},lp:=[(0,ZaL),(1,ZaM)]}) (specs:={ l:=[ZbY,ZcM]}) (okS ⟨Zh9,ZjP,trivial⟩) ⟨ZfB,ZfC,trivial⟩ (by decide+kernel) (fun x=>by kernel_rfl)
def Xb (F:Nat) (s:((List UInt8)×(List UInt32)×Int×(List UInt8))):Option (((List UInt8)×(List UInt32)×Int×(List UInt8))⊕((List UInt32)×(List UInt8))):=
 if (decide (s.2.2.1 < (s.1.length:Int)))=true then
  if (QS s.1.length (some s.2.2.1) (some (wi (s.2.2.1+64))))=true then
   let y632:(List UInt8):=(s.1.take ((wi (s.2.2.1+64)).toNat)).drop s.2.2.1.toNat
   (Wu F s.2.1 y632).bind fun o633=>
   some (.inl (s.1,o633,wi (s.2.2.1+64),s.2.2.2))
  else
  none
 else
 some (.inr (s.2.1,s.2.2.2))
def Zb0:Lp:=⟨[(2,.ref 0 []),(3,.v (.sl .u8)),(4,.v (.sl .u32)),(5,.v (.int .i64))],[.var (.v (.arr 32 .u8)) true],[(.sl .u8),(.sl .u32),(.int .i64),(.arr 32 .u8)],[⟨.exit 0,[(2,.ref 0 []),(4,.v (.sl .u32))],[.var (.v (.arr 32 .u8)) true],[(.sl .u32),(.arr 32 .u8)]⟩],Zc (Xb fuel) fuel⟩
theorem Zgh:Zb0.Ok ya (Zl ya 165) (Zk ya 165 0):=Zg (fi:={ hi:={ still:=[8,17,22]},lp:=[]}) (specs:={ l:=[ZbZ]}) (okS ⟨Zib,trivial⟩) trivial (by kernel_rfl) (fun v=>by kernel_rfl)
def Xc (F:Nat) (s:((List UInt32)×Int×(List UInt8)×(List UInt8))):Option (((List UInt32)×Int×(List UInt8)×(List UInt8))⊕((List UInt8)×(List UInt8))):=
 if (decide (s.2.1 < 32))=true then
  (idx s.1 (wi (Int.tdiv s.2.1 4))).bind fun e635=>
  if (decide (0≤wi (24 - (wi (8*(Int.tmod s.2.1 4))))))=true then
   let y636:UInt32:=ZcD e635 (min (wi (24 - (wi (8*(Int.tmod s.2.1 4))))).toNat 32)
   if (inB s.2.1 32)=true then
    (s.2.2.2[s.2.1.toNat]?).bind fun e637=>
    some (.inl (s.1,wi (s.2.1+1),s.2.2.1,s.2.2.2.set s.2.1.toNat (w8 (y636.toNat:Int))))
   else
   none
  else
  none
 else
 some (.inr (s.2.2.1,s.2.2.2))
def Zb1:Lp:=⟨[(2,.ref 0 []),(4,.v (.sl .u32)),(6,.ref 1 []),(7,.v (.int .i64))],[.var (.v (.arr 32 .u8)) true,.var (.v (.arr 32 .u8)) true],[(.sl .u32),(.int .i64),(.arr 32 .u8),(.arr 32 .u8)],[⟨.exit 2,[(2,.ref 0 []),(6,.ref 1 [])],[.var (.v (.arr 32 .u8)) true,.var (.v (.arr 32 .u8)) true],[(.arr 32 .u8),(.arr 32 .u8)]⟩],Zc (Xc fuel) fuel⟩
theorem Zgi:Zb1.Ok ya (Zl ya 165) (Zk ya 165 1):=Zg (fi:={ hi:={ still:=[8,17,22]},lp:=[]}) (specs:={ l:=[]}) (okS trivial) trivial (by kernel_rfl) (fun v=>by kernel_rfl)
def XT (F:Nat) (a0:(List UInt8)):Option ((List UInt8)):=
 (Wd F a0).bind fun o630=>
 (VT F).bind fun o631=>
 (Zc (Xb F) F (o630,o631,(0:Int),([0,0,0,0,0,0,0,0,0,0,0,0,0,0,0,0,0,0,0,0,0,0,0,0,0,0,0,0,0,0,0,0]:List UInt8))).bind fun o634=>
 (Zc (Xc F) F (o634.1,(0:Int),o634.2,([0,0,0,0,0,0,0,0,0,0,0,0,0,0,0,0,0,0,0,0,0,0,0,0,0,0,0,0,0,0,0,0]:List UInt8))).bind fun o638=>
 some o638.2
def VU (F:Nat):Fs ya:=⟨165,[.v (.sl .u8)],[],[(.sl .u8)],[⟨.ret,[(0,.v (.arr 32 .u8))],[],[(.arr 32 .u8)]⟩],fun x=>XT F x⟩
def ZkN:Fs ya:=VU fuel
theorem ZjQ:ZkN.Ok:=Ze (fi:={ hi:={ still:=[8,17,22]},lp:=[(0,Zb0),(1,Zb1)]}) (specs:={ l:=[ZaH,ZaI]}) (okS ⟨Zhd,Zhf,trivial⟩) ⟨Zgh,Zgi,trivial⟩ (by decide+kernel) (fun x=>by kernel_rfl)
end
end Go.Proofs.YtmkgbalfkhaflaaGreat
end
section
set_option maxRecDepth 4000
namespace Go.Ev
theorem ZCH {I X:Type} {step:I→Option (I⊕X)} {st:Nat→I} {x:X} (n:Nat) (hs:∀k,k < n→step (st k)=some (.inl (st (k+1)))) (he:step (st n)=some (.inr x)):∀(d k f:Nat),k+d=n→d < f→Zc step f (st k)=some x
 |0,k,f+1,h,_=>by
  have e:k=n:=by omega
  subst e
  unfold Zc
  rw [he,yb]
 |d+1,k,f+1,h,hf=>by
  unfold Zc
  rw [hs k (by omega),yb]
  exact ZCH n hs he d (k+1) f (by omega) (by omega)
theorem Z3 {I X:Type} {step:I→Option (I⊕X)} (n:Nat) (st:Nat→I) {x:X} (hs:∀k,k < n→step (st k)=some (.inl (st (k+1)))) (he:step (st n)=some (.inr x)) (hn:n < 18446744073709551616):
 Zc step fuel (st 0)=some x:=ZCH n hs he n 0 fuel (by omega) (by rw [Zbo];exact hn)
theorem ZzN {I X:Type} {step:I→Option (I⊕X)} {Post:X→Prop} (n:Nat) (S:Nat→I→Prop) (hs:∀k s,k < n→S k s→(∃t,step s=some (.inl t)∧S (k+1) t)∨∃x,step s=some (.inr x)∧Post x)
 (he:∀s,S n s→∃x,step s=some (.inr x)∧Post x):∀(d k f:Nat) (s:I),k+d=n→d < f→S k s→∃x,Zc step f s=some x∧Post x
 |0,k,f+1,s,h,_,hS=>by
  have e:k=n:=by omega
  subst e
  obtain ⟨x,h1,h2⟩:=he s hS
  unfold Zc
  rw [h1,yb]
  exact ⟨x,rfl,h2⟩
 |d+1,k,f+1,s,h,hf,hS=>by
  unfold Zc
  rcases hs k s (by omega) hS with ⟨t,h1,h2⟩|⟨x,h1,h2⟩
  ·rw [h1,yb]
   exact ZzN n S hs he d (k+1) f t (by omega) (by omega) h2
  ·rw [h1,yb]
   exact ⟨x,rfl,h2⟩
theorem YL {I X:Type} {step:I→Option (I⊕X)} (n:Nat) (S:Nat→I→Prop) (Post:X→Prop) {i:I} (h0:S 0 i) (hn:n < 18446744073709551616)
 (hs:∀k s,k < n→S k s→(∃t,step s=some (.inl t)∧S (k+1) t)∨∃x,step s=some (.inr x)∧Post x)
 (he:∀s,S n s→∃x,step s=some (.inr x)∧Post x):∃x,Zc step fuel i=some x∧Post x:=ZzN n S hs he n 0 fuel i (by omega) (by rw [Zbo];exact hn) h0
theorem YY {a b:Nat} (h:a < b):decide ((a:Int) < (b:Int))=true:=decide_eq_true (by omega)
theorem Yo {a:Nat}:decide ((a:Int) < (a:Int))=false:=decide_eq_false (by omega)
theorem ZE {k:Nat} (h:k < 9223372036854775807):wi ((k:Int)+1)=((k+1:Nat):Int):=by
 rw [Zy (by omega) (by omega)]
 omega
theorem ZD {α:Type} {l:List α} {k:Nat} {y:α} (h:l[k]? =some y):idx l (k:Int)=some y:=ZgN (by omega) (by simpa using h)
theorem ZvC {α:Type} {ls:List (List α)} {k:Nat} {e:List α} (h:ls[k]? =some e):(ls.take (k+1)).flatten=(ls.take k).flatten++e:=by
 rw [List.take_add_one,h]
 simp
theorem ZCI {α:Type} (ls:List (List α)) (k:Nat):(ls.take k).flatten.length≤ls.flatten.length:=by
 have h:=congrArg (fun l=>(List.flatten l).length) (ybf k ls)
 simp only [List.flatten_append,yl] at h
 omega
theorem Zhg {α:Type} {l:List α} {k:Nat} {e:α} (h:l[k]? =some e):l.take (k+1)=l.take k++[e]:=by
 rw [List.take_add_one,h]
 rfl
theorem Zq {α:Type} {l:List α} {k:Nat} (h:k < l.length):∃e,l[k]? =some e∧e∈l:=⟨l[k],yw h,List.getElem_mem h⟩
end Go.Ev
end
section
set_option maxRecDepth 4000
namespace Go.Proofs.YtmkgbalfkhaflaaGreat
open Go Go.Ev Go.Sha
theorem ZbC (x:UInt32) (n k:Nat) (h:n+k=32) (hn:0 < n) {z:Int} (hz:z=(n:Int)):∃o,ZC fuel x z=some o∧o.toNat=lo (yaa (dbl x.toNat) n):=by
 subst hz
 unfold ZC
 rw [Zy (z:=32 - (n:Int)) (by omega) (by omega),if_pos (decide_eq_true (by omega)),if_pos (decide_eq_true (by omega))]
 refine ⟨_,rfl, ?_⟩
 have e1:min ((n:Int)).toNat 32=n:=by omega
 have e2:min (32 - (n:Int)).toNat 32=k:=by omega
 rw [e1,e2,UInt32.or_comm]
 exact ZIA x h hn
theorem ZJT (a b c d:UInt8):((((QK (ybh a.toNat) 24)|||(QK (ybh b.toNat) 16))|||(QK (ybh c.toNat) 8))|||(ybh d.toNat)).toNat=((a.toNat*256+b.toNat)*256+c.toNat)*256+d.toNat:=by
 have h1:=a.toNat_lt
 have h2:=b.toNat_lt
 have h3:=c.toNat_lt
 have h4:=d.toNat_lt
 have hs:∀(x:UInt8) (n:Nat),n≤24→(QK (ybh x.toNat) n).toNat=x.toNat*2 ^ n:=by
  intro x n hn
  have hx:=x.toNat_lt
  unfold QK
  rw [ych,ych,yai (a:=x.toNat) (by omega)]
  refine yai ?_
  calc x.toNat*2 ^ n < 2 ^ 8*2 ^ n:=Nat.mul_lt_mul_of_pos_right hx (Nat.two_pow_pos n)
   _=2 ^ (8+n):=(Nat.pow_add ..).symm
   _≤2 ^ 32:=Nat.pow_le_pow_right (by omega) (by omega)
 rw [Zxm,Zxm,Zxm,hs _ _ (by omega),hs _ _ (by omega),hs _ _ (by omega),ych,yai (a:=d.toNat) (by omega)]
 have k1:Nat.lor (a.toNat*2 ^ 24) (b.toNat*2 ^ 16)=2 ^ 16*(a.toNat*256+b.toNat):=by
  rw [ybe a.toNat,show Nat.lor (2 ^ 24*a.toNat) (b.toNat*2 ^ 16)=2 ^ 24*a.toNat|||b.toNat*2 ^ 16 from rfl, ←yco (by omega)]
  omega
 have k2:Nat.lor (2 ^ 16*(a.toNat*256+b.toNat)) (c.toNat*2 ^ 8)=2 ^ 8*((a.toNat*256+b.toNat)*256+c.toNat):=by
  rw [show Nat.lor (2 ^ 16*(a.toNat*256+b.toNat)) (c.toNat*2 ^ 8)=2 ^ 16*(a.toNat*256+b.toNat)|||c.toNat*2 ^ 8 from rfl, ←yco (by omega)]
  omega
 rw [k1,k2,show Nat.lor (2 ^ 8*((a.toNat*256+b.toNat)*256+c.toNat)) d.toNat=2 ^ 8*((a.toNat*256+b.toNat)*256+c.toNat)|||d.toNat from rfl, ←yco (by omega)]
 omega
theorem ZKI (e f g:UInt32):((e&&&f)^^^((4294967295^^^e)&&&g)).toNat=ch e.toNat f.toNat g.toNat:=by
 rw [←ZKy]
 congr 1
 apply UInt32.toBitVec_inj.1
 apply BitVec.eq_of_getLsbD_eq
 intro i hi
 have h1:(4294967295:UInt32).toBitVec.getLsbD i=true:=by
  rw [show (4294967295:UInt32).toBitVec=BitVec.allOnes 32 from rfl,BitVec.getLsbD_allOnes]
  exact decide_eq_true hi
 simp only [UInt32.toBitVec_xor,UInt32.toBitVec_and,BitVec.getLsbD_xor,BitVec.getLsbD_and,h1]
 cases e.toBitVec.getLsbD i <;> cases f.toBitVec.getLsbD i <;> cases g.toBitVec.getLsbD i <;> rfl
theorem ZKJ (a b c:UInt32):(((a&&&b)^^^(a&&&c))^^^(b&&&c)).toNat=mj a.toNat b.toNat c.toNat:=by
 rw [←ZKz]
 congr 1
 apply UInt32.toBitVec_inj.1
 apply BitVec.eq_of_getLsbD_eq
 intro i hi
 simp only [UInt32.toBitVec_xor,UInt32.toBitVec_and,UInt32.toBitVec_or,BitVec.getLsbD_xor,BitVec.getLsbD_and,BitVec.getLsbD_or]
 cases a.toBitVec.getLsbD i <;> cases b.toBitVec.getLsbD i <;> cases c.toBitVec.getLsbD i <;> rfl
theorem ZGq {l:List UInt8} (h:l.length=64):∃o,Wt fuel l=some o∧o.length=64∧∀(i:Nat) x,o[i]? =some x→x.toNat=wd (ZZ (l.map yad)) i:=by
 unfold Wt
 have hset:∀(w:List UInt32) (y:UInt32),y.toNat=wd (ZZ (l.map yad)) w.length→(∀(j:Nat) x,w[j]? =some x→x.toNat=wd (ZZ (l.map yad)) j)→∀(j:Nat) x,(w++[y])[j]? =some x→x.toNat=wd (ZZ (l.map yad)) j:=by
  intro w y hy hw j x hx
  by_cases hj:j < w.length
  ·rw [List.getElem?_append_left hj] at hx
   exact hw j x hx
  ·rw [List.getElem?_append_right (by omega)] at hx
   have:j=w.length:=by
    have:=(List.getElem?_eq_some_iff.1 hx).1
    simp at this
    omega
   subst this
   rw [Nat.sub_self] at hx
   cases hx
   exact hy
 obtain ⟨w0,g1,g2,g3⟩:=YL (step:=YU fuel) 16 (fun k s=>∃w,s=(l,(k:Int),w)∧w.length=k∧∀(j:Nat) x,w[j]? =some x→x.toNat=wd (ZZ (l.map yad)) j) (fun w=>w.length=16∧∀(j:Nat) x,w[j]? =some x→x.toNat=wd (ZZ (l.map yad)) j) (i:=(l,(0:Int),([]:List UInt32))) ⟨_,rfl,rfl,fun j x hx=>by simp at hx⟩ (by omega) (by
  rintro k _ hk ⟨w,rfl,hw,hv⟩
  left
  obtain ⟨x0,q0,_⟩:=Zq (l:=l) (k:=4*k) (by omega)
  obtain ⟨x1,q1,_⟩:=Zq (l:=l) (k:=4*k+1) (by omega)
  obtain ⟨x2,q2,_⟩:=Zq (l:=l) (k:=4*k+2) (by omega)
  obtain ⟨x3,q3,_⟩:=Zq (l:=l) (k:=4*k+3) (by omega)
  unfold YU
  dsimp only
  rw [Zy (z:=4*(k:Int)) (by omega) (by omega),Zy (z:=4*(k:Int)+1) (by omega) (by omega),Zy (z:=4*(k:Int)+2) (by omega) (by omega),Zy (z:=4*(k:Int)+3) (by omega) (by omega)]
  rw [if_pos (decide_eq_true (by omega)),show 4*(k:Int)=((4*k:Nat):Int) by omega,show ((4*k:Nat):Int)+1=((4*k+1:Nat):Int) by omega,show ((4*k:Nat):Int)+2=((4*k+2:Nat):Int) by omega,show ((4*k:Nat):Int)+3=((4*k+3:Nat):Int) by omega,
   ZD q0,yb,ZD q1,yb,ZD q2,yb,ZD q3,yb,if_pos (Yy (by omega) (by omega)),ZE (by omega)]
  refine ⟨_,rfl,_,rfl,by rw [yl,List.length_singleton];omega,hset w _ ?_ hv⟩
  have mg:∀(k:Nat) (x:UInt8),l[k]? =some x→(l.map yad)[k]? =some x.toNat:=fun k x hx=>by rw [yac,hx];rfl
  have hwg:=Zjx k (l.map yad) _ _ _ _ (mg _ _ q0) (mg _ _ q1) (mg _ _ q2) (mg _ _ q3)
  rw [ZJT,hw]
  have b0:=x0.toNat_lt
  have b1:=x1.toNat_lt
  have b2:=x2.toNat_lt
  have b3:=x3.toNat_lt
  exact (Zzz _ (by omega) hwg (by omega)).symm) (by
  rintro _ ⟨w,rfl,hw,hv⟩
  unfold YU
  dsimp only
  rw [if_neg (by rw [decide_eq_true_iff];omega)]
  exact ⟨_,rfl,hw,hv⟩)
 rw [g1,yb]
 obtain ⟨w1,k1,k2,k3⟩:=YL (step:=YV fuel) 48 (fun k s=>∃w,s=(((16+k:Nat):Int),w)∧w.length=16+k∧∀(j:Nat) x,w[j]? =some x→x.toNat=wd (ZZ (l.map yad)) j) (fun w=>w.length=64∧∀(j:Nat) x,w[j]? =some x→x.toNat=wd (ZZ (l.map yad)) j) (i:=((16:Int),w0)) ⟨_,rfl,g2,g3⟩ (by omega) (by
  rintro k _ hk ⟨w,rfl,hw,hv⟩
  left
  obtain ⟨e1,he1,_⟩:=Zq (l:=w) (k:=k+1) (by omega)
  obtain ⟨e2,he2,_⟩:=Zq (l:=w) (k:=k+14) (by omega)
  obtain ⟨e3,he3,_⟩:=Zq (l:=w) (k:=k) (by omega)
  obtain ⟨e4,he4,_⟩:=Zq (l:=w) (k:=k+9) (by omega)
  obtain ⟨o1,ho1,p1⟩:=ZbC e1 7 25 rfl (by omega) (z:=7) rfl
  obtain ⟨o2,ho2,p2⟩:=ZbC e1 18 14 rfl (by omega) (z:=18) rfl
  obtain ⟨o3,ho3,p3⟩:=ZbC e2 17 15 rfl (by omega) (z:=17) rfl
  obtain ⟨o4,ho4,p4⟩:=ZbC e2 19 13 rfl (by omega) (z:=19) rfl
  unfold YV
  dsimp only
  rw [if_pos (decide_eq_true (by omega)),Zy (z:=((16+k:Nat):Int) - 15) (by omega) (by omega),Zy (z:=((16+k:Nat):Int) - 2) (by omega) (by omega),Zy (z:=((16+k:Nat):Int) - 16) (by omega) (by omega),Zy (z:=((16+k:Nat):Int) - 7) (by omega) (by omega)]
  rw [show ((16+k:Nat):Int) - 15=((k+1:Nat):Int) by omega,show ((16+k:Nat):Int) - 2=((k+14:Nat):Int) by omega,show ((16+k:Nat):Int) - 16=(k:Int) by omega,show ((16+k:Nat):Int) - 7=((k+9:Nat):Int) by omega]
  rw [ZD he1,yb,ZD he2,yb,ho1,yb,ho2,yb,ho3,yb,ho4,yb,ZD he3,yb,ZD he4,yb,
   if_pos (Yy (by omega) (by omega)),ZE (by omega)]
  refine ⟨_,rfl,_,rfl,by rw [yl,List.length_singleton];omega,hset w _ ?_ hv⟩
  have hn:=Zxn (ZZ (l.map yad)) k
  rw [←hv _ _ he1, ←hv _ _ he2, ←hv _ _ he3, ←hv _ _ he4] at hn
  rw [hw,Nat.add_comm 16 k,hn,Qc,Qc,Qc,ZKu e1 p1 p2,ZKv e2 p3 p4]
  exact ZKA ..) (by
  rintro _ ⟨w,rfl,hw,hv⟩
  unfold YV
  dsimp only
  rw [if_neg (by rw [decide_eq_true_iff];omega)]
  exact ⟨_,rfl,hw,hv⟩)
 rw [k1,yb]
 exact ⟨_,rfl,k2,k3⟩
theorem ZGr {st:List UInt32} {l:List UInt8} (hs:st.length=8) (h:l.length=64):∃o,Wu fuel st l=some o∧o.map yag=Zg3 (st.map yag) (ZZ (l.map yad)):=by
 unfold Wu
 obtain ⟨w,hw,hwl,hwv⟩:=ZGq h
 obtain ⟨k,hk,hkv⟩:∃k,QC fuel=some k∧k.map yag=ks:=⟨_,rfl,rfl⟩
 have hkl:k.length=64:=by rw [←yu (f:=yag),hkv];rfl
 generalize hws:ZZ (l.map yad)=ws at hwv
 rw [hw,yb,hk,yb,if_pos (Yy (by omega) (by omega))]
 obtain ⟨x,g1,u,v,rfl,g2,g3⟩:=YL (step:=YW fuel) 64 (fun i s=>∃u v,s=(st,w,k,(i:Int),u,v)∧v.length=8∧v.map yag=rs ws (st.map yag) i) (fun x=>∃u v,x=(st,u,v)∧v.length=8∧v.map yag=rs ws (st.map yag) 64) (i:=(st,w,k,(0:Int),([()]:List Unit),st)) ⟨_,_,rfl,hs,rfl⟩ (by omega) (by
  rintro i _ hi ⟨u,v,rfl,he,hv⟩
  left
  match v,he,hv with
  |[x0,x1,x2,x3,x4,x5,x6,x7],_,hv=>
   obtain ⟨e1,he1,_⟩:=Zq (l:=k) (k:=i) (by omega)
   obtain ⟨e2,he2,_⟩:=Zq (l:=w) (k:=i) (by omega)
   obtain ⟨o1,ho1,p1⟩:=ZbC x4 6 26 rfl (by omega) (z:=6) rfl
   obtain ⟨o2,ho2,p2⟩:=ZbC x4 11 21 rfl (by omega) (z:=11) rfl
   obtain ⟨o3,ho3,p3⟩:=ZbC x4 25 7 rfl (by omega) (z:=25) rfl
   obtain ⟨o4,ho4,p4⟩:=ZbC x0 2 30 rfl (by omega) (z:=2) rfl
   obtain ⟨o5,ho5,p5⟩:=ZbC x0 13 19 rfl (by omega) (z:=13) rfl
   obtain ⟨o6,ho6,p6⟩:=ZbC x0 22 10 rfl (by omega) (z:=22) rfl
   have hb:∀n:Nat,n < 8→inB (n:Int) ([x0,x1,x2,x3,x4,x5,x6,x7]:List UInt32).length=true:=fun n hn=>YP (by omega) (by simp;omega)
   have b0:=hb 0 (by omega)
   have b1:=hb 1 (by omega)
   have b2:=hb 2 (by omega)
   have b3:=hb 3 (by omega)
   have b4:=hb 4 (by omega)
   have b5:=hb 5 (by omega)
   have b6:=hb 6 (by omega)
   have b7:=hb 7 (by omega)
   unfold YW
   dsimp only
   generalize ZC fuel=R at ho1 ho2 ho3 ho4 ho5 ho6 ⊢
   rw [if_pos (decide_eq_true (by omega))]
   have c0:inB 0 ([x0,x1,x2,x3,x4,x5,x6,x7]:List UInt32).length=true:=b0
   have c1:inB 1 ([x0,x1,x2,x3,x4,x5,x6,x7]:List UInt32).length=true:=b1
   have c2:inB 2 ([x0,x1,x2,x3,x4,x5,x6,x7]:List UInt32).length=true:=b2
   have c3:inB 3 ([x0,x1,x2,x3,x4,x5,x6,x7]:List UInt32).length=true:=b3
   have c4:inB 4 ([x0,x1,x2,x3,x4,x5,x6,x7]:List UInt32).length=true:=b4
   have c5:inB 5 ([x0,x1,x2,x3,x4,x5,x6,x7]:List UInt32).length=true:=b5
   have c6:inB 6 ([x0,x1,x2,x3,x4,x5,x6,x7]:List UInt32).length=true:=b6
   have c7:inB 7 ([x0,x1,x2,x3,x4,x5,x6,x7]:List UInt32).length=true:=b7
   simp only [c0,c1,c2,c3,c4,c5,c6,c7,if_true,yaq,yaj,yb,ho1,ho2,ho3,ho4,ho5,ho6,ZD he1,ZD he2]
   rw [ZE (by omega)]
   refine ⟨_,rfl,_,_,rfl,rfl, ?_⟩
   rw [show rs ws (st.map yag) (i+1)=rnd (rs ws (st.map yag) i) (ks.getD i 0) (wd ws i) from rfl, ←hv]
   have hk1:ks.getD i 0=e1.toNat:=by
    rw [←hkv,ycn,yac,he1]
    rfl
   rw [hk1, ←hwv i e2 he2]
   simp only [yx,List.map_nil]
   rw [Zs4]
   have kt:((x7+((o1^^^o2)^^^o3))+((x4&&&x5)^^^((4294967295^^^x4)&&&x6))+e1+e2).toNat=lo (yn (yn (yn (yn x7.toNat (S1 x4.toNat)) (ch x4.toNat x5.toNat x6.toNat)) e1.toNat) e2.toNat):=by
    rw [Qc,Qc,Qc,Qc,ZKx x4 p1 p2 p3,ZKI]
    exact ZKB ..
   have ka:((x7+((o1^^^o2)^^^o3))+((x4&&&x5)^^^((4294967295^^^x4)&&&x6))+e1+e2+((o4^^^o5)^^^o6)+(((x0&&&x1)^^^(x0&&&x2))^^^(x1&&&x2))).toNat=lo (yn (yn (yn (yn (yn (yn x7.toNat (S1 x4.toNat)) (ch x4.toNat x5.toNat x6.toNat)) e1.toNat) e2.toNat) (S0 x0.toNat)) (mj x0.toNat x1.toNat x2.toNat)):=by
    rw [Qc,Qc,kt,ZKw x0 p4 p5 p6,ZKJ]
    exact ZKC ..
   have ke:(x3+(((x7+((o1^^^o2)^^^o3))+((x4&&&x5)^^^((4294967295^^^x4)&&&x6)))+e1+e2)).toNat=lo (yn x3.toNat (yn (yn (yn (yn x7.toNat (S1 x4.toNat)) (ch x4.toNat x5.toNat x6.toNat)) e1.toNat) e2.toNat)):=by
    rw [Qc,kt]
    exact ZKD ..
   rw [ka,ke]) (by
  rintro _ ⟨u,v,rfl,he,hv⟩
  unfold YW
  dsimp only
  rw [if_neg (by rw [decide_eq_true_iff];omega)]
  exact ⟨_,rfl,_,_,rfl,he,hv⟩)
 rw [g1,yb]
 have hml:(Zg3 (st.map yag) ws).length=8:=Zd7 (by rw [yu];exact hs)
 obtain ⟨x,q1,q2⟩:=YL (step:=YX fuel) 8 (fun i s=>∃e,s=(st,(i:Int),u,e)∧e.length=8∧∀(j:Nat) x,e[j]? =some x→if j < i then (Zg3 (st.map yag) ws)[j]? =some x.toNat else (rs ws (st.map yag) 64)[j]? =some x.toNat) (fun x=>x.2.map yag=Zg3 (st.map yag) ws) (i:=(st,(0:Int),u,v)) ⟨_,rfl,g2,fun j x hx=>by
  rw [if_neg (by omega), ←g3,yac,hx]
  rfl⟩ (by omega) (by
  rintro i _ hi ⟨e,rfl,he,hv⟩
  left
  obtain ⟨e1,he1,_⟩:=Zq (l:=e) (k:=i) (by omega)
  obtain ⟨e2,he2,_⟩:=Zq (l:=st) (k:=i) (by omega)
  unfold YX
  dsimp only
  rw [if_pos (decide_eq_true (by omega)),if_pos (YP (by omega) (by omega)),ybq,he1,yb,ZD he2,yb,if_pos (YP (by omega) (by omega)),yb,ZE (by omega)]
  refine ⟨_,rfl,_,rfl,by rw [yav];exact he, ?_⟩
  intro j x hx
  by_cases hji:j=i
  ·subst hji
   rw [ycc (by omega)] at hx
   cases hx
   rw [if_pos (by omega),Qc]
   have k1:=hv _ _ he1
   rw [if_neg (by omega)] at k1
   unfold Zg3
   rw [List.getElem?_zipWith,k1,yac,he2]
   rfl
  ·rw [ycr (Ne.symm hji)] at hx
   have k1:=hv j x hx
   by_cases hj:j < i
   ·rw [if_pos hj] at k1
    rw [if_pos (by omega)]
    exact k1
   ·rw [if_neg hj] at k1
    rw [if_neg (by omega)]
    exact k1) (by
  rintro _ ⟨e,rfl,he,hv⟩
  unfold YX
  dsimp only
  rw [if_neg (by rw [decide_eq_true_iff];omega)]
  refine ⟨_,rfl, ?_⟩
  dsimp only
  apply ybk
  intro j
  rw [yac]
  by_cases hj:j < 8
  ·obtain ⟨x,hx,_⟩:=Zq (l:=e) (k:=j) (by omega)
   have:=hv j x hx
   rw [if_pos hj] at this
   rw [hx,this]
   rfl
  ·rw [yam (by omega),yam (by omega)]
   rfl)
 dsimp only
 rw [q1,yb]
 exact ⟨_,rfl,q2⟩
def rb8 (n:Nat):List UInt8:=(be8 n).map yal
theorem ZJU (n:UInt64) {k:Nat} (hk:k < 8):(rb8 n.toNat)[k]? =some (w8 ((Zx n (56 - 8*k)).toNat:Int)):=by
 have h:∀m:Nat,w8 ((Zx n m).toNat:Int)=yal (n.toNat / 2 ^ m % 256):=by
  intro m
  unfold w8 Zx
  rw [ybc,yai (Nat.lt_of_le_of_lt (Nat.div_le_self _ _) (ybg n))]
  congr 1
 rw [h]
 match k,hk with
 |0,_=>rfl
 |1,_=>rfl
 |2,_=>rfl
 |3,_=>rfl
 |4,_=>rfl
 |5,_=>rfl
 |6,_=>rfl
 |7,_=>
  show some (yal (n.toNat % 256))=some (yal (n.toNat / 2 ^ 0 % 256))
  rw [Nat.pow_zero,Nat.div_one]
theorem ZJV {l:List UInt8} (h:l.length≤4294967296):Wd fuel l=some (l++([128]:List UInt8)++yr (zs l.length) 0++rb8 (8*l.length)):=by
 unfold Wd
 have hlt:l.length % 64 < 64:=ybd _ (by omega)
 rw [if_pos (Yy (by omega) (by omega)),if_pos (Yy (by omega) (by omega))]
 obtain ⟨x,h1,h2⟩:=YL (step:=YD fuel) (zs l.length) (fun j s=>s=(l,l++([128]:List UInt8)++yr j 0)) (fun x=>x=(l,l++([128]:List UInt8)++yr (zs l.length) 0)) (i:=(l,l++([128]:List UInt8))) (by simp) (by unfold zs;omega) (by
  rintro j _ hj rfl
  left
  unfold YD
  dsimp only
  have hl:(l++([128]:List UInt8)++yr j 0).length=l.length+1+j:=by rw [yl,yl,yci];rfl
  have hm:Int.tmod ((l++([128]:List UInt8)++yr j 0).length:Int) 64=(((l.length+1+j) % 64:Nat):Int):=by rw [hl];rfl
  rw [hm]
  unfold zs at hj
  rw [if_pos (by simp;omega),if_pos (Yy (by omega) (by omega))]
  exact ⟨_,rfl,by rw [yae,List.replicate_succ']⟩) (by
  rintro _ rfl
  unfold YD
  dsimp only
  have hl:(l++([128]:List UInt8)++yr (zs l.length) 0).length=l.length+1+zs l.length:=by rw [yl,yl,yci];rfl
  have hm:Int.tmod ((l++([128]:List UInt8)++yr (zs l.length) 0).length:Int) 64=(((l.length+1+zs l.length) % 64:Nat):Int):=by rw [hl];rfl
  rw [hm,if_neg (by simp;unfold zs;omega)]
  exact ⟨_,rfl,rfl⟩)
 rw [h1,yb,h2]
 dsimp only
 generalize hp:l++([128]:List UInt8)++yr (zs l.length) 0=p
 have hpl:p.length≤l.length+65:=by
  rw [←hp,yl,yl,yci]
  unfold zs
  simp
  omega
 have hn:(8*w64 (l.length:Int)).toNat=8*l.length:=by
  rw [UInt64.toNat_mul]
  unfold w64
  rw [ybc]
  show 8*((((l.length:Nat):Int) % 18446744073709551616).toNat % 2 ^ 64) % 2 ^ 64=_
  omega
 generalize hN:8*w64 (l.length:Int)=N at hn
 obtain ⟨x,g1,g2⟩:=YL (step:=YE fuel) 8 (fun k s=>s=(N,56 - 8*(k:Int),p++(rb8 N.toNat).take k)) (fun x=>x=p++rb8 N.toNat) (i:=(N,(56:Int),p)) (by simp) (by omega) (by
  rintro k _ hk rfl
  left
  unfold YE
  dsimp only
  rw [if_pos (decide_eq_true (by omega)),if_pos (decide_eq_true (by omega)),if_pos (Yy (by simp;omega) (by simp;omega)),Zy (z:=56 - 8*(k:Int) - 8) (by omega) (by omega)]
  refine ⟨_,rfl, ?_⟩
  rw [Zhg (ZJU N hk),show min (56 - 8*(k:Int)).toNat 64=56 - 8*k by omega,yae,show 56 - 8*((k+1:Nat):Int)=56 - 8*(k:Int) - 8 by omega]) (by
  rintro _ rfl
  unfold YE
  dsimp only
  rw [if_neg (by rw [decide_eq_true_iff];omega)]
  exact ⟨_,rfl,rfl⟩)
 rw [g1,yb,g2,hn]
theorem ZJW {l:List UInt8} (h:l.length≤4294967296):XT fuel l=some (sha l):=by
 unfold XT
 obtain ⟨f,hf,hfl⟩:∃f,VT fuel=some f∧f.map yag=Zbg:=⟨_,rfl,rfl⟩
 have hf8:f.length=8:=by rw [←yu (f:=yag),hfl];rfl
 rw [ZJV h,yb,hf,yb]
 generalize hE:l++([128]:List UInt8)++yr (zs l.length) 0++rb8 (8*l.length)=E
 have hEm:E.map yad=Zd9 l:=by
  unfold Zd9
  rw [←hE]
  simp only [yan,List.map_replicate,yx,List.map_nil,rb8,List.map_map,yae,List.singleton_append]
  have:be8 (8*l.length)=(be8 (8*l.length)).map (yad ∘ yal):=by
   simp [be8]
  rw [←this]
  simp
 have hEl:E.length=64*((l.length+72) / 64):=by rw [←yu (f:=yad),hEm,Zs7]
 generalize hz:([0,0,0,0,0,0,0,0,0,0,0,0,0,0,0,0,0,0,0,0,0,0,0,0,0,0,0,0,0,0,0,0]:List UInt8)=z
 have hzl:z.length=32:=by rw [←hz];rfl
 obtain ⟨x,h1,v,rfl,g1,g2⟩:=YL (step:=Xb fuel) ((l.length+72) / 64) (fun c s=>∃d,s=(E,d,((64*c:Nat):Int),z)∧d.length=8∧d.map yag=Zd8 c (E.map yad) Zbg) (fun x=>∃v,x=(v,z)∧v.length=8∧v.map yag=Zd8 ((l.length+72) / 64) (E.map yad) Zbg) (i:=(E,f,(0:Int),z)) ⟨_,rfl,hf8,hfl⟩ (by omega) (by
  rintro c _ hc ⟨d,rfl,hd,hv⟩
  left
  unfold Xb
  dsimp only
  obtain ⟨m,hm1,hm2⟩:=ZGr (st:=d) (l:=(E.take (64*c+64)).drop (64*c)) hd (by rw [ybn,yab];omega)
  rw [if_pos (decide_eq_true (by omega)),Zy (z:=((64*c:Nat):Int)+64) (by omega) (by omega),if_pos (by simp only [QS,yg,decide_eq_true_eq];omega),show (((64*c:Nat):Int)+64).toNat=64*c+64 by omega,ybq,hm1,yb]
  refine ⟨_,rfl,_,by rw [show ((64*c:Nat):Int)+64=((64*(c+1):Nat):Int) by omega], ?_, ?_⟩
  ·rw [←yu (f:=yag),hm2]
   exact Zd7 (by rw [yu];exact hd)
  ·rw [hm2,Zkv,hv, ←List.map_drop, ←ybv]
   congr 3
   rw [List.drop_take]
   congr 1
   omega) (by
  rintro _ ⟨d,rfl,hd,hv⟩
  unfold Xb
  dsimp only
  rw [if_neg (by rw [decide_eq_true_iff];omega)]
  exact ⟨_,rfl,_,rfl,hd,hv⟩)
 rw [h1,yb]
 dsimp only
 generalize hv2:Zd8 ((l.length+72) / 64) (E.map yad) Zbg=v2 at g2
 obtain ⟨x,k1,o,rfl,k2,k3⟩:=YL (step:=Xc fuel) 32 (fun i s=>∃o,s=(v,(i:Int),z,o)∧o.length=32∧∀(j:Nat),j < i→o[j]? =some (Go.Sha.ZGm v2 j)) (fun x=>∃o,x=(z,o)∧o.length=32∧∀(j:Nat),j < 32→o[j]? =some (Go.Sha.ZGm v2 j)) (i:=(v,(0:Int),z,z)) ⟨_,rfl,hzl,fun j hj=>by omega⟩ (by omega) (by
  rintro i _ hi ⟨o,rfl,ho,hv⟩
  left
  unfold Xc
  dsimp only
  have e1:Int.tdiv (i:Int) 4=((i / 4:Nat):Int):=rfl
  have e2:Int.tmod (i:Int) 4=((i % 4:Nat):Int):=rfl
  obtain ⟨x1,hx1,_⟩:=Zq (l:=v) (k:=i / 4) (by omega)
  obtain ⟨x2,hx2,_⟩:=Zq (l:=o) (k:=i) (by omega)
  rw [if_pos (decide_eq_true (by omega)),e1,e2,Zy (z:=((i / 4:Nat):Int)) (by omega) (by omega),Zy (z:=8*((i % 4:Nat):Int)) (by omega) (by omega),Zy (z:=24 - 8*((i % 4:Nat):Int)) (by omega) (by omega),ZD hx1,yb,if_pos (decide_eq_true (by omega)),if_pos (YP (by omega) (by omega)),ybq,hx2,yb,ZE (by omega)]
  refine ⟨_,rfl,_,rfl,by rw [yav];exact ho, ?_⟩
  intro j hj
  by_cases hji:j=i
  ·subst hji
   rw [ycc (by omega)]
   congr 1
   unfold Go.Sha.ZGm
   have hx:v2.getD (j / 4) 0=x1.toNat:=by
    rw [←g2,ycn,yac,hx1]
    rfl
   rw [hx,show min (24 - 8*((j % 4:Nat):Int)).toNat 32=24 - 8*(j % 4) by omega,Zvy]
   unfold w8
   have e3:∀m:Nat,(((m:Nat):Int) % 256).toNat=m % 256:=fun m=>by omega
   rw [e3,show yaa x1.toNat (24 - 8*(j % 4))=x1.toNat >>> (24 - 8*(j % 4)) from rfl,yct]
   exact UInt8.toNat_inj.1 (by simp)
  ·rw [ycr (Ne.symm hji)]
   exact hv j (by omega)) (by
  rintro _ ⟨o,rfl,ho,hv⟩
  unfold Xc
  dsimp only
  rw [if_neg (by rw [decide_eq_true_iff];omega)]
  exact ⟨_,rfl,_,rfl,ho,hv⟩)
 rw [k1,yb,ZBs, ←hEm,hv2]
 congr 1
 apply ybk
 intro j
 by_cases hj:j < 32
 ·rw [k3 j hj,yac,List.getElem?_range hj]
  rfl
 ·rw [yam (by show o.length≤j;omega),yam (by simp;omega)]
noncomputable def Xv (F:Nat) (a0:List UInt8):Option (List UInt8):=if decide (a0.length≤4294967296)=true then some (sha a0) else XT F a0
noncomputable def ZkO (F:Nat):Fs ya:={ VU F with M:=fun x=>Xv F x}
noncomputable def Zej:Fs ya:=ZkO fuel
theorem ZkP:Zej.Ok:=Zl0 (s:=VU fuel) ZjQ fun x=>by
 show Xv fuel x=XT fuel x
 unfold Xv
 split
 ·rename_i h
  exact (ZJW (of_decide_eq_true h)).symm
 ·rfl
theorem ZGs {l:List UInt8} (h:l.length≤4294967296):Xv fuel l=some (sha l):=if_pos (decide_eq_true h)
end Go.Proofs.YtmkgbalfkhaflaaGreat
end
section
set_option maxRecDepth 4000
namespace Go.Proofs.YtmkgbalfkhaflaaGreat
open Go Go.Ev
noncomputable section
def Yr (F:Nat) (s:(UInt64×Int×(List UInt8)×(List UInt8))):Option ((UInt64×Int×(List UInt8)×(List UInt8))⊕((List UInt8)×(List UInt8))):=
 if (decide (s.2.1 ≥ 0))=true then
  if (decide (0≤s.2.1))=true then
   let y639:UInt8:=w8 ((Zx s.1 (min s.2.1.toNat 64)).toNat:Int)
   if (apB s.2.2.2.length 1 1)=true then
    some (.inl (s.1,wi (s.2.1 - 8),s.2.2.1,s.2.2.2++([y639]:List UInt8)))
   else
   none
  else
  none
 else
 some (.inr (s.2.2.1,s.2.2.2))
def QO:Lp:=⟨[(0,.v .u64),(3,.own 1 .u8),(4,.v (.int .i64))],[.log .u8 5,.log .u8 5],[.u64,(.int .i64),(.sl .u8),(.sl .u8)],[⟨.exit 0,[(3,.own 1 .u8)],[.log .u8 5,.log .u8 5],[(.sl .u8),(.sl .u8)]⟩],Zc (Yr fuel) fuel⟩
theorem Zek:QO.Ok ya (Zl ya 164) (Zk ya 164 0):=Zg (fi:={ hi:={ own:=[2,3,9,15,16]},lp:=[]}) (specs:={ l:=[]}) (okS trivial) trivial (by kernel_rfl) (fun v=>by kernel_rfl)
def XW (F:Nat) (a0:UInt64):Option ((List UInt8)):=
 (Zc (Yr F) F (a0,(56:Int),([]:List UInt8),([]:List UInt8))).bind fun o640=>
 some o640.2
def Zgj (F:Nat):Fs ya:=⟨164,[.v .u64],[],[.u64],[⟨.ret,[(0,.own 0 .u8)],[.log .u8 5],[(.sl .u8)]⟩],fun x=>XW F x⟩
def Zau:Fs ya:=Zgj fuel
theorem Zgk:Zau.Ok:=Ze (fi:={ hi:={ own:=[2,3,9,15,16]},lp:=[(0,QO)]}) (specs:={ l:=[]}) (okS trivial) ⟨Zek,trivial⟩ (by decide+kernel) (fun x=>by kernel_rfl)
def YF (F:Nat) (s:((List (List UInt8))×Int×(List UInt8)×(List UInt8))):Option (((List (List UInt8))×Int×(List UInt8)×(List UInt8))⊕((List UInt8)×(List UInt8))):=
 if (decide (s.2.1 < (s.1.length:Int)))=true then
  (idx s.1 s.2.1).bind fun e642=>
  (WW F (w64 (e642.length:Int))).bind fun o643=>
  if (apB s.2.2.2.length o643.length 1)=true then
   (idx s.1 s.2.1).bind fun e644=>
   if (apB ((s.2.2.2++o643).length) e644.length 1)=true then
    some (.inl (s.1,wi (s.2.1+1),s.2.2.1,(s.2.2.2++o643)++e644))
   else
   none
  else
  none
 else
 some (.inr (s.2.2.1,s.2.2.2))
def ZcN:Lp:=⟨[(1,.v (.sl (.sl .u8))),(4,.ref 0 []),(5,.own 1 .u8),(6,.v (.int .i64))],[.var (.v (.arr 32 .u8)) true,.log .u8 5],[(.sl (.sl .u8)),(.int .i64),(.arr 32 .u8),(.sl .u8)],[⟨.exit 0,[(4,.ref 0 []),(5,.own 1 .u8)],[.var (.v (.arr 32 .u8)) true,.log .u8 5],[(.arr 32 .u8),(.sl .u8)]⟩],Zc (YF fuel) fuel⟩
theorem Zhh:ZcN.Ok ya (Zl ya 131) (Zk ya 131 0):=Zg (fi:={ hi:={ own:=[5,11,14,28,30,31,36],still:=[10,26,37]},lp:=[]}) (specs:={ l:=[ZcL]}) (okS ⟨ZjM,trivial⟩) trivial (by kernel_rfl) (fun v=>by kernel_rfl)
def Vs (F:Nat) (a0:ByteArray) (a1:(List (List UInt8))):Option ((List UInt8)):=
 (XW F (w64 (a0.size:Int))).bind fun o641=>
 if (decide (a0.size≤maxLen))=true then
  if (apB o641.length a0.data.toList.length 1)=true then
   (Zc (YF F) F (a1,(0:Int),([0,0,0,0,0,0,0,0,0,0,0,0,0,0,0,0,0,0,0,0,0,0,0,0,0,0,0,0,0,0,0,0]:List UInt8),o641++a0.data.toList)).bind fun o645=>
   (Xv F o645.2).bind fun o646=>
   some o646
  else
  none
 else
 none
def ZkQ (F:Nat):Fs ya:=⟨131,[.v .str,.v (.sl (.sl .u8))],[],[.str,(.sl (.sl .u8))],[⟨.ret,[(0,.v (.arr 32 .u8))],[],[(.arr 32 .u8)]⟩],fun x=>Vs F x.1 x.2⟩
def Zel:Fs ya:=ZkQ fuel
theorem ZkR:Zel.Ok:=Ze (fi:={ hi:={ own:=[5,11,14,28,30,31,36],still:=[10,26,37]},lp:=[(0,ZcN)]}) (specs:={ l:=[Zau,Zej]}) (okS ⟨Zgk,ZkP,trivial⟩) ⟨Zhh,trivial⟩ (by decide+kernel) (fun x=>by kernel_rfl)
def Ys (F:Nat) (s:(Int×(List UInt8)×(List UInt8))):Option ((Int×(List UInt8)×(List UInt8))⊕((List UInt8)×(List UInt8))):=
 if (decide (s.1 < 32))=true then
  if (inB s.1 32)=true then
   (s.2.1[s.1.toNat]?).bind fun e647=>
   if (apB s.2.2.length 1 1)=true then
    some (.inl (wi (s.1+1),s.2.1,s.2.2++([e647]:List UInt8)))
   else
   none
  else
  none
 else
 some (.inr (s.2.1,s.2.2))
def QP:Lp:=⟨[(3,.ref 0 []),(5,.own 1 .u8),(6,.v (.int .i64))],[.var (.v (.arr 32 .u8)) true,.log .u8 5],[(.int .i64),(.arr 32 .u8),(.sl .u8)],[⟨.exit 0,[(5,.own 1 .u8)],[.var (.v (.arr 32 .u8)) true,.log .u8 5],[(.arr 32 .u8),(.sl .u8)]⟩],Zc (Ys fuel) fuel⟩
theorem Zem:QP.Ok ya (Zl ya 132) (Zk ya 132 0):=Zg (fi:={ hi:={ own:=[5,7,9,14,19],still:=[4]},lp:=[]}) (specs:={ l:=[]}) (okS trivial) trivial (by kernel_rfl) (fun v=>by kernel_rfl)
def XX (F:Nat) (a0:(List UInt8)) (a1:(List UInt8)):Option ((List UInt8)):=
 if (apB 0 a0.length 1)=true then
  (Zc (Ys F) F ((0:Int),a1,a0)).bind fun o648=>
  some o648.2
 else
 none
def Zgl (F:Nat):Fs ya:=⟨132,[.v (.sl .u8),.v (.arr 32 .u8)],[],[(.sl .u8),(.arr 32 .u8)],[⟨.ret,[(0,.v (.sl .u8))],[],[(.sl .u8)]⟩],fun x=>XX F x.1 x.2⟩
def Zav:Fs ya:=Zgl fuel
theorem Zgm:Zav.Ok:=Ze (fi:={ hi:={ own:=[5,7,9,14,19],still:=[4]},lp:=[(0,QP)]}) (specs:={ l:=[]}) (okS trivial) ⟨Zem,trivial⟩ (by decide+kernel) (fun x=>by kernel_rfl)
def ZIE:ByteArray:=⟨#[107,105,116]⟩
def Z4 (F:Nat) (a0:(List UInt8)) (a1:UInt8):Option ((List UInt8)):=
 (XX F ([]:List UInt8) a0).bind fun o649=>
 (Vs F ZIE ([o649,([a1]:List UInt8)]:List (List UInt8))).bind fun o650=>
 some o650
def ZjR (F:Nat):Fs ya:=⟨86,[.v (.arr 32 .u8),.v .u8],[],[(.arr 32 .u8),.u8],[⟨.ret,[(0,.v (.arr 32 .u8))],[],[(.arr 32 .u8)]⟩],fun x=>Z4 F x.1 x.2⟩
def ZcO:Fs ya:=ZjR fuel
theorem ZjS:ZcO.Ok:=Ze (fi:={ hi:={ still:=[5,6,10]},lp:=[]}) (specs:={ l:=[Zav,Zel]}) (okS ⟨Zgm,ZkR,trivial⟩) trivial (by decide+kernel) (fun x=>by kernel_rfl)
def We (F:Nat) (a0:(List UInt8)):Option (Kit):=
 (Z4 F a0 (1:UInt8)).bind fun o651=>
 (Yi F o651).bind fun o652=>
 (Z4 F a0 (2:UInt8)).bind fun o653=>
 (Yi F o653).bind fun o654=>
 (Z4 F a0 (3:UInt8)).bind fun o655=>
 (Yi F o655).bind fun o656=>
 (Z4 F a0 (4:UInt8)).bind fun o657=>
 (Yi F o657).bind fun o658=>
 (Z4 F a0 (5:UInt8)).bind fun o659=>
 (Yi F o659).bind fun o660=>
 (Z4 F a0 (6:UInt8)).bind fun o661=>
 some (o652,o654,o656,o658,o660,o661)
def ZkS (F:Nat):Fs ya:=⟨32,[.v (.arr 32 .u8)],[],[(.arr 32 .u8)],[⟨.ret,[(0,.v Vz)],[],[Vz]⟩],fun x=>We F x⟩
def Zen:Fs ya:=ZkS fuel
theorem ZkT:Zen.Ok:=Ze (fi:={ hi:={ still:=[3,4,6,7,9,10,12,13,15,16,18]},lp:=[]}) (specs:={ l:=[ZcO,ZcK]}) (okS ⟨ZjS,ZjK,trivial⟩) trivial (by decide+kernel) (fun x=>by kernel_rfl)
def YG (F:Nat) (s:(UInt64×UInt64×UInt64)):Option ((UInt64×UInt64×UInt64)⊕UInt64):=
 if (decide (s.2.1 > 0))=true then
  if ((s.2.1 % 2)==1)=true then
   some (.inl ((s.1+s.1) % 4611686018427377339,s.2.1 / 2,(s.2.2+s.1) % 4611686018427377339))
  else
  some (.inl ((s.1+s.1) % 4611686018427377339,s.2.1 / 2,s.2.2))
 else
 some (.inr s.2.2)
def Zaw:Lp:=⟨[(0,.v .u64),(1,.v .u64),(5,.v .u64)],[],[.u64,.u64,.u64],[⟨.exit 0,[(5,.v .u64)],[],[.u64]⟩],Zc (YG fuel) fuel⟩
theorem ZeB:Zaw.Ok ya (Zl ya 168) (Zk ya 168 0):=Zg (fi:={ hi:={ still:=[4]},lp:=[]}) (specs:={ l:=[]}) (okS trivial) trivial (by kernel_rfl) (fun v=>by kernel_rfl)
def Wg (F:Nat) (a0:UInt64) (a1:UInt64):Option (UInt64):=
 (Zc (YG F) F (a0,a1,(0:UInt64))).bind fun o662=>
 some o662
def WX (F:Nat):Fs ya:=⟨168,[.v .u64,.v .u64],[],[.u64,.u64],[⟨.ret,[(0,.v .u64)],[],[.u64]⟩],fun x=>Wg F x.1 x.2⟩
def Zic:Fs ya:=WX fuel
theorem Zhi:Zic.Ok:=Ze (fi:={ hi:={ still:=[4]},lp:=[(0,Zaw)]}) (specs:={ l:=[]}) (okS trivial) ⟨ZeB,trivial⟩ (by decide+kernel) (fun x=>by kernel_rfl)
end
end Go.Proofs.YtmkgbalfkhaflaaGreat
end
section
set_option maxRecDepth 4000
namespace Go.Proofs.YtmkgbalfkhaflaaGreat
open Go Go.Ev
theorem Zo1 {z:Nat}:(yaf (z % 4611686018427377339)).toNat=z % 4611686018427377339:=by
 rw [ybc,yai]
 exact Nat.lt_trans (ybd _ (by decide)) (by decide)
theorem ZGt {a b:UInt64} (ha:a.toNat < 4611686018427377339) (hb:b.toNat < 4611686018427377339):((a+b) % 4611686018427377339).toNat=(a.toNat+b.toNat) % 4611686018427377339:=by
 rw [UInt64.toNat_mod,UInt64.toNat_add,show (4611686018427377339:UInt64).toNat=4611686018427377339 from rfl,yai (a:=a.toNat+b.toNat) (by omega)]
theorem ZjT:∀(k m:Nat) (A B O:UInt64),A.toNat < 4611686018427377339→O.toNat < 4611686018427377339→B.toNat < 2 ^ k→k < m→
 Zc (YG fuel) m (A,B,O)=some (yaf ((O.toNat+A.toNat*B.toNat) % 4611686018427377339))
 |k,0,_,_,_,_,_,_,h=>by omega
 |0,m+1,A,B,O,hA,hO,h,_=>by
  have h0:B.toNat=0:=by rw [Nat.pow_zero] at h;omega
  have hn:¬B > 0:=by
   intro h2
   have h3:0 < B.toNat:=ybs.1 h2
   omega
  have hs:YG fuel (A,B,O)=if decide (B > 0)=true then (if ((B % 2)==1)=true then some (.inl ((A+A) % 4611686018427377339,B / 2,(O+A) % 4611686018427377339)) else some (.inl ((A+A) % 4611686018427377339,B / 2,O))) else some (.inr O):=rfl
  unfold Zc
  rw [hs]
  rw [if_neg (by rw [decide_eq_true_iff];exact hn),yb,h0,Nat.mul_zero,Nat.add_zero,yai hO,UInt64.ofNat_toNat]
 |k+1,m+1,A,B,O,hA,hO,h,hm=>by
  have hs:YG fuel (A,B,O)=if decide (B > 0)=true then (if ((B % 2)==1)=true then some (.inl ((A+A) % 4611686018427377339,B / 2,(O+A) % 4611686018427377339)) else some (.inl ((A+A) % 4611686018427377339,B / 2,O))) else some (.inr O):=rfl
  unfold Zc
  rw [hs]
  by_cases h2:B > 0
  ·have h3:0 < B.toNat:=ybs.1 h2
   have hsh:(B / 2).toNat=B.toNat / 2:=by rw [UInt64.toNat_div];rfl
   have hlt:(B / 2).toNat < 2 ^ k:=by
    rw [hsh]
    rw [Nat.pow_succ] at h
    omega
   have hand:((B % 2)==1)=decide (B.toNat % 2=1):=by
    rw [Bool.eq_iff_iff,beq_iff_eq,decide_eq_true_iff, ←UInt64.toNat_inj,UInt64.toNat_mod]
    rfl
   have hA2:=ZGt hA hA
   have hAl:((A+A) % 4611686018427377339).toNat < 4611686018427377339:=by rw [hA2];exact ybd _ (by decide)
   have hB:B.toNat=2*(B.toNat / 2)+B.toNat % 2:=by omega
   rw [if_pos (decide_eq_true h2),hand]
   by_cases h4:B.toNat % 2=1
   ·have hO2:=ZGt hO hA
    have hOl:((O+A) % 4611686018427377339).toNat < 4611686018427377339:=by rw [hO2];exact ybd _ (by decide)
    rw [if_pos (decide_eq_true h4),yb]
    dsimp only
    rw [ZjT k m _ _ _ hAl hOl hlt (by omega),hA2,hO2,hsh]
    congr 2
    rw [Nat.add_mod,Nat.mod_mod,Nat.mod_mul_mod, ←Nat.add_mod]
    congr 1
    conv=>rhs;rw [hB,h4,Nat.mul_add,Nat.mul_one, ←Nat.mul_assoc]
    rw [Nat.mul_two]
    omega
   ·rw [if_neg (by rw [decide_eq_true_iff];exact h4),yb]
    dsimp only
    rw [ZjT k m _ _ _ hAl hO hlt (by omega),hA2,hsh]
    congr 2
    rw [Nat.add_mod,Nat.mod_mul_mod, ←Nat.add_mod]
    congr 1
    conv=>rhs;rw [hB,show B.toNat % 2=0 by omega,Nat.add_zero, ←Nat.mul_assoc]
    rw [Nat.mul_two]
  ·have h3:B.toNat=0:=by
    rcases Nat.eq_zero_or_pos B.toNat with h5|h5
    ·exact h5
    ·exact absurd (show (0:UInt64) < B from ybs.2 h5) h2
   rw [if_neg (by rw [decide_eq_true_iff];exact h2),yb,h3,Nat.mul_zero,Nat.add_zero,yai hO,UInt64.ofNat_toNat]
noncomputable def Zt (F:Nat) (a0:UInt64) (a1:UInt64):Option UInt64:=if decide (a0.toNat < 4611686018427377339)=true then some (yaf (a0.toNat*a1.toNat % 4611686018427377339)) else Wg F a0 a1
theorem ZD2 (a b:UInt64):Wg fuel a b=Zt fuel a b:=by
 unfold Zt
 split
 ·rename_i h
  unfold Wg
  rw [ZjT 64 fuel a b 0 (of_decide_eq_true h) (by decide) (ybg _) (by rw [Zbo];omega),yb,show (0:UInt64).toNat=0 from rfl,yax]
 ·rfl
noncomputable def Zid (F:Nat):Fs ya:={ WX F with M:=fun x=>Zt F x.1 x.2}
noncomputable def Zb2:Fs ya:=Zid fuel
theorem Zie:Zb2.Ok:=Zl0 (s:=WX fuel) Zhi fun x=>(ZD2 x.1 x.2).symm
end Go.Proofs.YtmkgbalfkhaflaaGreat
end
section
set_option maxRecDepth 4000
namespace Go.Proofs.YtmkgbalfkhaflaaGreat
open Go Go.Ev
noncomputable section
def YH (F:Nat) (s:(UInt64×UInt64×UInt64)):Option ((UInt64×UInt64×UInt64)⊕UInt64):=
 if (decide (s.2.1 > 0))=true then
  if ((s.2.1 % 2)==1)=true then
   (Zt F s.2.2 s.1).bind fun o663=>
   (Zt F s.1 s.1).bind fun o664=>
   some (.inl (o664,s.2.1 / 2,o663))
  else
  (Zt F s.1 s.1).bind fun o665=>
  some (.inl (o665,s.2.1 / 2,s.2.2))
 else
 some (.inr s.2.2)
def Zax:Lp:=⟨[(0,.v .u64),(1,.v .u64),(5,.v .u64)],[],[.u64,.u64,.u64],[⟨.exit 0,[(5,.v .u64)],[],[.u64]⟩],Zc (YH fuel) fuel⟩
theorem ZeC:Zax.Ok ya (Zl ya 139) (Zk ya 139 0):=Zg (fi:={ hi:={ still:=[4,11,12,14,15]},lp:=[]}) (specs:={ l:=[Zb2]}) (okS ⟨Zie,trivial⟩) trivial (by kernel_rfl) (fun v=>by kernel_rfl)
def Wh (F:Nat) (a0:UInt64) (a1:UInt64):Option (UInt64):=
 (Zc (YH F) F (a0,a1,(1:UInt64))).bind fun o666=>
 some o666
def WY (F:Nat):Fs ya:=⟨139,[.v .u64,.v .u64],[],[.u64,.u64],[⟨.ret,[(0,.v .u64)],[],[.u64]⟩],fun x=>Wh F x.1 x.2⟩
def Zif:Fs ya:=WY fuel
theorem Zhj:Zif.Ok:=Ze (fi:={ hi:={ still:=[4,11,12,14,15]},lp:=[(0,Zax)]}) (specs:={ l:=[]}) (okS trivial) ⟨ZeC,trivial⟩ (by decide+kernel) (fun x=>by kernel_rfl)
end
end Go.Proofs.YtmkgbalfkhaflaaGreat
end
section
set_option maxRecDepth 4000
namespace Go.Proofs.YtmkgbalfkhaflaaGreat
open Go Go.Ev
theorem Zo2:∀(k m:Nat) (A N O:UInt64),A.toNat < 4611686018427377339→O.toNat < 4611686018427377339→N.toNat < 2 ^ k→k < m→Zc (YH fuel) m (A,N,O)=some (yaf (pwm 4611686018427377339 k A.toNat N.toNat O.toNat))
 |k,0,_,_,_,_,_,_,h=>by omega
 |0,m+1,A,N,O,hA,hO,h,_=>by
  have hn:¬N > 0:=by
   intro h2
   have h3:0 < N.toNat:=ybs.1 h2
   rw [Nat.pow_zero] at h
   omega
  have hs:YH fuel (A,N,O)=if decide (N > 0)=true then (if ((N % 2)==1)=true then (Zt fuel O A).bind fun o1=>(Zt fuel A A).bind fun o2=>some (.inl (o2,N / 2,o1)) else (Zt fuel A A).bind fun o2=>some (.inl (o2,N / 2,O))) else some (.inr O):=rfl
  unfold Zc
  rw [hs]
  rw [if_neg (by rw [decide_eq_true_iff];exact hn),yb,pwm,UInt64.ofNat_toNat]
 |k+1,m+1,A,N,O,hA,hO,h,hm=>by
  have hs:YH fuel (A,N,O)=if decide (N > 0)=true then (if ((N % 2)==1)=true then (Zt fuel O A).bind fun o1=>(Zt fuel A A).bind fun o2=>some (.inl (o2,N / 2,o1)) else (Zt fuel A A).bind fun o2=>some (.inl (o2,N / 2,O))) else some (.inr O):=rfl
  unfold Zc
  rw [hs]
  by_cases h2:N > 0
  ·have hp:0 < N.toNat→pwm 4611686018427377339 (k+1) A.toNat N.toNat O.toNat=pwm 4611686018427377339 k (A.toNat*A.toNat % 4611686018427377339) (N.toNat / 2) (if N.toNat % 2=1 then O.toNat*A.toNat % 4611686018427377339 else O.toNat):=fun h=>by
    rw [pwm,if_neg (by omega)]
   have h3:0 < N.toNat:=ybs.1 h2
   have hsh:(N / 2).toNat=N.toNat / 2:=by rw [UInt64.toNat_div];rfl
   have hlt:(N / 2).toNat < 2 ^ k:=by
    rw [hsh]
    rw [Nat.pow_succ] at h
    omega
   have hand:((N % 2)==1)=decide (N.toNat % 2=1):=by
    rw [Bool.eq_iff_iff,beq_iff_eq,decide_eq_true_iff, ←UInt64.toNat_inj,UInt64.toNat_mod]
    rfl
   have ml:∀z:Nat,z % 4611686018427377339 < 4611686018427377339:=fun z=>ybd _ (by decide)
   have e1:Zt fuel A A=some (yaf (A.toNat*A.toNat % 4611686018427377339)):=by
    unfold Zt
    rw [if_pos (decide_eq_true hA)]
   have e2:Zt fuel O A=some (yaf (O.toNat*A.toNat % 4611686018427377339)):=by
    unfold Zt
    rw [if_pos (decide_eq_true hO)]
   rw [if_pos (decide_eq_true h2),hand,hp h3,e1,e2]
   by_cases h4:N.toNat % 2=1
   ·rw [if_pos (decide_eq_true h4),if_pos h4,yb,yb,yb]
    dsimp only
    rw [Zo2 k m _ _ _ (by rw [Zo1];exact ml _) (by rw [Zo1];exact ml _) hlt (by omega),Zo1,Zo1,hsh]
   ·rw [if_neg (by rw [decide_eq_true_iff];exact h4),if_neg h4,yb,yb]
    dsimp only
    rw [Zo2 k m _ _ _ (by rw [Zo1];exact ml _) hO hlt (by omega),Zo1,hsh]
  ·have h3:N.toNat=0:=by
    rcases Nat.eq_zero_or_pos N.toNat with h5|h5
    ·exact h5
    ·exact absurd (show (0:UInt64) < N from ybs.2 h5) h2
   rw [if_neg (by rw [decide_eq_true_iff];exact h2),yb,pwm,if_pos h3,UInt64.ofNat_toNat]
noncomputable def Yn (F:Nat) (a0:UInt64) (a1:UInt64):Option UInt64:=if decide (a0.toNat < 4611686018427377339)=true then some (yaf (pwm 4611686018427377339 64 a0.toNat a1.toNat 1)) else Wh F a0 a1
theorem ZD3 (a n:UInt64):Wh fuel a n=Yn fuel a n:=by
 unfold Yn
 split
 ·rename_i h
  unfold Wh
  rw [Zo2 64 fuel a n 1 (of_decide_eq_true h) (by decide) (ybg _) (by rw [Zbo];omega),yb]
  rfl
 ·rfl
noncomputable def Zig (F:Nat):Fs ya:={ WY F with M:=fun x=>Yn F x.1 x.2}
noncomputable def VV:Fs ya:=Zig fuel
theorem ZaN:VV.Ok:=Zl0 (s:=WY fuel) Zhj fun x=>(ZD3 x.1 x.2).symm
end Go.Proofs.YtmkgbalfkhaflaaGreat
end
