/- Parts of the proof, in one file. -/
import Derived.Test.YtmkgbalfkhaflaaGreatKe
open Bool renaming and_eq_true → yi
open Go.Proofs.Tryz renaming prog → ya
open Int renaming toNat_natCast → ycb
open List renaming length_append → yr, replicate → yx, length_map → yz, getElem?_eq_getElem → yac, length_cons → yad, map_cons → yaf, length_take → yag, getElem?_map → yah, append_assoc → yak, getElem?_eq_none → yao, map_append → yar, getElem?_cons_succ → yav, length_set → yaz, getElem?_cons_zero → ybk, ext_getElem? → ybl, take_append_drop → ybo, length_drop → ybs, mem_cons → ybz, map_take → yca, length_replicate → ycm, getElem?_set_self → yco, getD_eq_getElem?_getD → yct
open Nat renaming add → yq, shiftRight → yae, mod_eq_of_lt → yaj, zero_add → ybb, mod_lt → ybc, mul_comm → ybi, two_pow_add_eq_or_of_lt → ycu, shiftRight_eq_div_pow → ycx
open Option renaming bind_some → yb
open UInt32 renaming toNat → yam, ofNat → ybn, toNat_ofNat' → ycl
open UInt64 renaming ofNat → yal, toNat_ofNat' → ybe, toNat_lt → ybm, lt_iff_toNat_lt → ybv
open UInt8 renaming toNat → yai, ofNat → yaq
set_option linter.unusedVariables false
set_option linter.unusedSimpArgs false
section
set_option maxRecDepth 4000
namespace Go.Proofs.YtmkgbalfkhaflaaGreat
open Go Go.Ev
noncomputable section
def W5(F:Nat)(a0:Zz):Option ((List UInt8)):=
 (YQ F a0).bind λo159=>
 if(!o159)=true then
  some ([]:List UInt8)
 else
 (Wt F ([]:List UInt8) (a0.length:Int)).bind λo160=>
 (Zc (ZaV F) F (o160,a0,(a0.length:Int),(0:Int),a0)).bind λo169=>
 some o169.1
def ZgH(F:Nat):Fs ya:=⟨49,[.v Zp],[],[Zp],[⟨.ret,[(0,.v (.sl .u8))],[],[(.sl .u8)]⟩],λx=>W5 F x⟩
def ZaW:Fs ya:=ZgH fuel
theorem QQ:ZaW.Ok:=Zf (fi:={ hi:={ still:=[2,8,13,22,25,34,35,38,40,41,43,44,46]},lp:=[(0,ZmR)]}) (specs:={ l:=[Qw,ZbS]}) (okS ⟨VC,Zcz,trivial⟩) ⟨Zqp,trivial⟩ (by decide+kernel) (λx=>by kernel_rfl)
def ZZ(F:Nat)(a0:(List UInt8)):Option ((List UInt8)):=
 if(apB 0 a0.length 1)=true then
  some a0
 else
 none
def Wr(F:Nat):Fs ya:=⟨149,[.sl true .u8],[],[(.sl .u8)],[⟨.ret,[(0,.v (.sl .u8))],[],[(.sl .u8)]⟩],λx=>ZZ F x⟩
def ZgI:Fs ya:=Wr fuel
theorem QB:ZgI.Ok:=Zf (fi:={ hi:={ own:=[5,7],still:=[2]},lp:=[]}) (specs:={ l:=[]}) (okS trivial) trivial (by decide+kernel) (λx=>by kernel_rfl)
def Qj(F:Nat):Option ((List UInt8)):=
 some ([]:List UInt8)
def Zdg(F:Nat):Fs ya:=⟨149,[.nil .u8],[],[],[⟨.ret,[(0,.v (.sl .u8))],[],[(.sl .u8)]⟩],λx=>Qj F⟩
def Zef:Fs ya:=Zdg fuel
theorem Zdh:Zef.Ok:=Zf (fi:={ hi:={ own:=[5,7],still:=[2]},lp:=[]}) (specs:={ l:=[]}) (okS trivial) trivial (by decide+kernel) (λx=>by kernel_rfl)
def Zeg(F:Nat):Fs ya:=⟨149,[.v (.sl .u8)],[],[(.sl .u8)],[⟨.ret,[(0,.v (.sl .u8))],[],[(.sl .u8)]⟩],λx=>ZZ F x⟩
def Wd:Fs ya:=Zeg fuel
theorem VM:Wd.Ok:=Zqa (t:=.u8) (xs:=[⟨.ret,[(0,.v (.sl .u8))],[],[(.sl .u8)]⟩]) (MA:=λ(x:(List UInt8))=>ZZ fuel x) (MB:=λ_=>Qj fuel) QB Zdh rfl
abbrev Zq:Ty:=(.st [(.sl .u8),.bool])
abbrev Zu:Type:=((List UInt8)×Bool)
abbrev Zu.b(x:Zu):(List UInt8):=x.1
abbrev Zu.no(x:Zu):Bool:=x.2
def Zij(F:Nat)(a0:(List UInt8)):Option (Zu):=
 (ZZ F a0).bind λo170=>
 some (o170,false)
def ZyT(F:Nat):Fs ya:=⟨106,[.v (.sl .u8)],[],[(.sl .u8)],[⟨.ret,[(0,.ref 0 [])],[.var (.v Zq) true],[Zq]⟩],λx=>Zij F x⟩
def Zrr:Fs ya:=ZyT fuel
theorem ZyU:Zrr.Ok:=Zf (fi:={ hi:={ still:=[2,3]},lp:=[]}) (specs:={ l:=[Wd]}) (okS ⟨VM,trivial⟩) trivial (by decide+kernel) (λx=>by kernel_rfl)
def Y9(F:Nat)(s:((List UInt8)×(List UInt8)×Int×Int)):Option (((List UInt8)×(List UInt8)×Int×Int)⊕(Bool⊕Unit)):=
 if(decide (s.2.2.2 < s.2.2.1))=true then
  (idx s.1 s.2.2.2).bind λe171=>
  (idx s.2.1 s.2.2.2).bind λe172=>
  if(e171 !=e172)=true then
   some (.inr (.inl false))
  else
  some (.inl (s.1,s.2.1,s.2.2.1,wi (s.2.2.2+1)))
 else
 some (.inr (.inr ()))
def QC:Lp:=⟨[(0,.v (.sl .u8)),(1,.v (.sl .u8)),(12,.v yI),(13,.v yI)],[],[(.sl .u8),(.sl .u8),yI,yI],[⟨.ret,[(4,.v .bool)],[],[.bool]⟩,⟨.exit 0,[],[],[]⟩],Zc (Y9 fuel) fuel⟩
theorem Zdi:QC.Ok ya (Zj ya 109) (Zm ya 109 0):=Zh (fi:={ hi:={ still:=[4]},lp:=[]}) (specs:={ l:=[]}) (okS trivial) trivial (by kernel_rfl) (λv=>by kernel_rfl)
def XJ(F:Nat)(a0:(List UInt8))(a1:(List UInt8)):Option (Bool):=
 if((a0.length:Int)!=(a1.length:Int))=true then
  some false
 else
 (Zc (Y9 F) F (a0,a1,(a0.length:Int),(0:Int))).bind λo173=>
 match o173 with
 |.inl o174=>
  some o174
 |.inr o175=>
  some true
def Ws(F:Nat):Fs ya:=⟨109,[.v (.sl .u8),.v (.sl .u8)],[],[(.sl .u8),(.sl .u8)],[⟨.ret,[(0,.v .bool)],[],[.bool]⟩],λx=>XJ F x.1 x.2⟩
def QR:Fs ya:=Ws fuel
theorem QD:QR.Ok:=Zf (fi:={ hi:={ still:=[4]},lp:=[(0,QC)]}) (specs:={ l:=[]}) (okS trivial) ⟨Zdi,trivial⟩ (by decide+kernel) (λx=>by kernel_rfl)
def Xu(F:Nat)(s0:Int)(s2:Zu):Option ((Bool×Int×Zu)):=
 if(decide (s0 ≥ (s2.1.length:Int)))=true then
  some (true,s0,s2)
 else
 if(decide (s0 > 8))=true then
  some (true,s0,s2)
 else
 if(decide (s0 > 0))=true then
  (idx s2.1 s0).bind λe177=>
  some (e177==0,s0,s2)
 else
 some (false,s0,s2)
def Zkx(F:Nat):Fs ya:=⟨150,[.ref 0 [],.ref 1 []],[.var (.v yI) true,.var (.ref 2 []) true,.var (.v Zq) true],[yI,Zq],[⟨.ret,[(0,.v .bool)],[.var (.v yI) true,.var (.ref 2 []) true,.var (.v Zq) true],[.bool,yI,Zq]⟩],λx=>Xu F x.1 x.2⟩
def ZdA:Fs ya:=Zkx fuel
theorem Zky:ZdA.Ok:=Zf (fi:={ hi:={ still:=[2]},lp:=[]}) (specs:={ l:=[]}) (okS trivial) trivial (by decide+kernel) (λx=>by kernel_rfl)
def Wz(F:Nat)(s0:Zu):Option (Zu):=
 some (([]:List UInt8),true)
def Zl0(F:Nat):Fs ya:=⟨151,[.ref 0 []],[.var (.v Zq) true],[Zq],[⟨.ret,[(0,.tup [])],[.var (.v Zq) true],[Zq]⟩],λx=>Wz F x⟩
def Zab:Fs ya:=Zl0 fuel
theorem ZdB:Zab.Ok:=Zf (fi:={ hi:={},lp:=[]}) (specs:={ l:=[]}) (okS trivial) trivial (by decide+kernel) (λx=>by kernel_rfl)
def XR(F:Nat)(s:(Int×Zu×Int)):Option ((Int×Zu×Int)⊕((Int×Zu×Int)⊕(Int×Zu×Int))):=
 (Xu F s.2.2 s.2.1).bind λo178=>
 if o178.1=true then
  (Wz F o178.2.2).bind λo179=>
  some (.inr (.inl ((0:Int),o179,o178.2.1)))
 else
 (idx o178.2.2.1 o178.2.1).bind λe180=>
 if(decide (0≤wi (7*o178.2.1)))=true then
  let y181:Int:=wi (((e180 % 128).toNat:Int)*2 ^ (min (wi (7*o178.2.1)).toNat 64))
  if(decide (e180 < 128))=true then
   some (.inr (.inr (bits .or .i64 s.1 y181,o178.2.2,wi (o178.2.1+1))))
  else
  some (.inl (bits .or .i64 s.1 y181,o178.2.2,wi (o178.2.1+1)))
 else
 none
def Ze5:Lp:=⟨[(1,.ref 1 []),(3,.v yI),(4,.ref 2 []),(5,.fn 150 [.ref 2 [],.ref 1 []])],[.var (.v Zq) true,.var (.ref 0 []) true,.var (.v yI) true],[yI,Zq,yI],[⟨.ret,[(2,.v yI)],[.var (.v Zq) true,.var (.ref 0 []) true,.var (.v yI) true],[yI,Zq,yI]⟩,⟨.exit 0,[(1,.ref 1 []),(3,.v yI),(4,.ref 2 [])],[.var (.v Zq) true,.var (.ref 0 []) true,.var (.v yI) true],[yI,Zq,yI]⟩],Zc (XR fuel) fuel⟩
theorem Zjr:Ze5.Ok ya (Zj ya 107) (Zm ya 107 0):=Zh (fi:={ hi:={ still:=[2,10]},lp:=[]}) (specs:={ l:=[ZdA,Zab]}) (okS ⟨Zky,ZdB,trivial⟩) trivial (by kernel_rfl) (λv=>by kernel_rfl)
def Xv(F:Nat)(s0:Zu):Option ((Int×Zu)):=
 (Zc (XR F) F ((0:Int),s0,(0:Int))).bind λo182=>
 match o182 with
 |.inl o183=>
  some (o183.1,o183.2.1)
 |.inr o184=>
  if(Zat o184.2.1.1.length (some o184.2.2) none)=true then
   some (o184.1,(o184.2.1.1.drop o184.2.2.toNat,o184.2.1.2))
  else
  none
def ZnA(F:Nat):Fs ya:=⟨107,[.ref 0 []],[.var (.v Zq) true],[Zq],[⟨.ret,[(0,.v yI)],[.var (.v Zq) true],[yI,Zq]⟩],λx=>Xv F x⟩
def ZaX:Fs ya:=ZnA fuel
theorem Ze6:ZaX.Ok:=Zf (fi:={ hi:={ still:=[2,10]},lp:=[(0,Ze5)]}) (specs:={ l:=[]}) (okS trivial) ⟨Zjr,trivial⟩ (by decide+kernel) (λx=>by kernel_rfl)
def VN(F:Nat)(a1:Int)(s0:Zu):Option (((List UInt8)×Zu)):=
 if s0.2=true then
  (Wz F s0).bind λo187=>
  some (([]:List UInt8),o187)
 else
 if(decide (a1 > (s0.1.length:Int)))=true then
  (Wz F s0).bind λo188=>
  some (([]:List UInt8),o188)
 else
 if(Zat s0.1.length none (some a1))=true then
  (ZZ F (s0.1.take a1.toNat)).bind λo189=>
  if(Zat s0.1.length (some a1) none)=true then
   some (o189,(s0.1.drop a1.toNat,s0.2))
  else
  none
 else
 none
def Zl1(F:Nat):Fs ya:=⟨152,[.ref 0 [],.v yI],[.var (.v Zq) true],[yI,Zq],[⟨.ret,[(0,.v (.sl .u8))],[.var (.v Zq) true],[(.sl .u8),Zq]⟩],λx=>VN F x.1 x.2⟩
def Ze7:Fs ya:=Zl1 fuel
theorem Zl2:Ze7.Ok:=Zf (fi:={ hi:={ still:=[4,19,26]},lp:=[]}) (specs:={ l:=[Zab,Wd]}) (okS ⟨ZdB,VM,trivial⟩) trivial (by decide+kernel) (λx=>by kernel_rfl)
def WM(F:Nat)(s:(UInt64×(List UInt8)×Int×Int×Zu)):Option ((UInt64×(List UInt8)×Int×Int×Zu)⊕(UInt64×Zu)):=
 if(decide (s.2.2.2.1 < s.2.2.1))=true then
  (idx s.2.1 s.2.2.2.1).bind λe191=>
  some (.inl ((VJ s.1 8)|||(yal e191.toNat),s.2.1,s.2.2.1,wi (s.2.2.2.1+1),s.2.2.2.2))
 else
 some (.inr (s.1,s.2.2.2.2))
def Ze8:Lp:=⟨[(3,.v .u64),(7,.v (.sl .u8)),(8,.v yI),(9,.v yI)],[.var (.v Zq) true],[.u64,(.sl .u8),yI,yI,Zq],[⟨.exit 0,[(3,.v .u64)],[.var (.v Zq) true],[.u64,Zq]⟩],Zc (WM fuel) fuel⟩
theorem Zjs:Ze8.Ok ya (Zj ya 108) (Zm ya 108 0):=Zh (fi:={ hi:={ still:=[2,6]},lp:=[]}) (specs:={ l:=[]}) (okS trivial) trivial (by kernel_rfl) (λv=>by kernel_rfl)
def W0(F:Nat)(s0:Zu):Option ((UInt64×Zu)):=
 (VN F (8:Int) s0).bind λo190=>
 (Zc (WM F) F ((0:UInt64),o190.1,(o190.1.length:Int),(0:Int),o190.2)).bind λo192=>
 some (o192.1,o192.2)
def ZnB(F:Nat):Fs ya:=⟨108,[.ref 0 []],[.var (.v Zq) true],[Zq],[⟨.ret,[(0,.v .u64)],[.var (.v Zq) true],[.u64,Zq]⟩],λx=>W0 F x⟩
def ZaY:Fs ya:=ZnB fuel
theorem Ze9:ZaY.Ok:=Zf (fi:={ hi:={ still:=[2,6]},lp:=[(0,Ze8)]}) (specs:={ l:=[Ze7]}) (okS ⟨Zl2,trivial⟩) ⟨Zjs,trivial⟩ (by decide+kernel) (λx=>by kernel_rfl)
def QS(F:Nat)(s:((List UInt8)×Int×Int×Int×Int×Zz×Zu×(List ZC)×Int×Int×UInt64×(List UInt64))):Option (((List UInt8)×Int×Int×Int×Int×Zz×Zu×(List ZC)×Int×Int×UInt64×(List UInt64))⊕((List UInt8)×Int×Int×Zz×Zu×(List ZC)×Int×Int×UInt64×(List UInt64))):=
 if(decide (s.2.2.2.2.1 < s.2.2.2.1))=true then
  (W0 F s.2.2.2.2.2.2.1).bind λo207=>
  if(apB s.2.2.2.2.2.2.2.2.2.2.2.length 1 8)=true then
   let y208:(List UInt64):=s.2.2.2.2.2.2.2.2.2.2.2++([o207.1]:List UInt64)
   some (.inl (s.1,s.2.1,s.2.2.1,s.2.2.2.1,wi (s.2.2.2.2.1+1),s.2.2.2.2.2.1,o207.2,s.2.2.2.2.2.2.2.1,s.2.2.2.2.2.2.2.2.1,s.2.2.2.2.2.2.2.2.2.1,s.2.2.2.2.2.2.2.2.2.2.1,y208))
  else
  none
 else
 some (.inr (s.1,s.2.1,s.2.2.1,s.2.2.2.2.2.1,s.2.2.2.2.2.2.1,s.2.2.2.2.2.2.2.1,s.2.2.2.2.2.2.2.2.1,s.2.2.2.2.2.2.2.2.2.1,s.2.2.2.2.2.2.2.2.2.2.1,s.2.2.2.2.2.2.2.2.2.2.2))
def ZoV:Lp:=⟨[(0,.v (.sl .u8)),(2,.ref 0 []),(4,.ref 1 []),(5,.ref 2 []),(6,.v yI),(7,.v yI),(8,.ref 4 []),(27,.v yI),(28,.v yI)],[.var (.v Zp) true,.var (.v Zq) true,.var (.agg [.own 3 Zo]) true,.log Zo 126,.var (.agg [.own 5 .u64,.v yI,.v yI,.v .u64]) true,.log .u64 37],[(.sl .u8),yI,yI,yI,yI,Zp,Zq,(.sl Zo),yI,yI,.u64,(.sl .u64)],[⟨.exit 2,[(0,.v (.sl .u8)),(2,.ref 0 []),(4,.ref 1 []),(5,.ref 2 []),(6,.v yI),(7,.v yI),(8,.ref 4 [])],[.var (.v Zp) true,.var (.v Zq) true,.var (.agg [.own 3 Zo]) true,.log Zo 126,.var (.agg [.own 5 .u64,.v yI,.v yI,.v .u64]) true,.log .u64 37],[(.sl .u8),yI,yI,Zp,Zq,(.sl Zo),yI,yI,.u64,(.sl .u64)]⟩],Zc (QS fuel) fuel⟩
theorem Zr4:ZoV.Ok ya (Zj ya 51) (Zm ya 51 1):=Zh (fi:={ hi:={ own:=[31,35,48,51],still:=[3,10,12,19,32,38,40,44,53,57,58,59],ghost:=[(5,[([0],Zo,126)]),(8,[([0],.u64,37)])]},lp:=[]}) (specs:={ l:=[ZaY]}) (okS ⟨Ze9,trivial⟩) trivial (by kernel_rfl) (λv=>by kernel_rfl)
def Zcf(F:Nat)(s:((List UInt8)×Int×Int×Zz×Zu×(List ZC))):Option (((List UInt8)×Int×Int×Zz×Zu×(List ZC))⊕((List UInt8)×Zz×Zu×(List ZC))):=
 if(decide (s.2.2.1 < s.2.1))=true then
  (Xv F s.2.2.2.2.1).bind λo206=>
  if(s.2.2.1==4)=true then
   some (.inr (s.1,s.2.2.2.1,o206.2,s.2.2.2.2.2))
  else
  if(decide (o206.1 > 12))=true then
   some (.inr (s.1,s.2.2.2.1,o206.2,s.2.2.2.2.2))
  else
  (Zc (QS F) F (s.1,s.2.1,s.2.2.1,o206.1,(0:Int),s.2.2.2.1,o206.2,s.2.2.2.2.2,(0:Int),(0:Int),(0:UInt64),([]:List UInt64))).bind λo209=>
  (Xv F o209.2.2.2.2.1).bind λo210=>
  (Xv F o210.2).bind λo211=>
  (W0 F o211.2).bind λo212=>
  if(apB o209.2.2.2.2.2.1.length 1 48)=true then
   let y213:(List ZC):=o209.2.2.2.2.2.1++([(o209.2.2.2.2.2.2.2.2.2,o210.1,o211.1,o212.1)]:List ZC)
   some (.inl (o209.1,o209.2.1,wi (o209.2.2.1+1),o209.2.2.2.1,o212.2,y213))
  else
  none
 else
 some (.inr (s.1,s.2.2.2.1,s.2.2.2.2.1,s.2.2.2.2.2))
def ZoW:Lp:=⟨[(0,.v (.sl .u8)),(2,.ref 0 []),(4,.ref 1 []),(5,.ref 2 []),(6,.v yI),(7,.v yI)],[.var (.v Zp) true,.var (.v Zq) true,.var (.agg [.own 3 Zo]) true,.log Zo 126],[(.sl .u8),yI,yI,Zp,Zq,(.sl Zo)],[⟨.exit 0,[(0,.v (.sl .u8)),(2,.ref 0 []),(5,.ref 2 [])],[.var (.v Zp) true,.var (.v Zq) true,.var (.agg [.own 3 Zo]) true,.log Zo 126],[(.sl .u8),Zp,Zq,(.sl Zo)]⟩],Zc (Zcf fuel) fuel⟩
theorem Zr5:ZoW.Ok ya (Zj ya 51) (Zm ya 51 0):=Zh (fi:={ hi:={ own:=[31,35,48,51],still:=[3,10,12,19,32,38,40,44,53,57,58,59],ghost:=[(5,[([0],Zo,126)]),(8,[([0],.u64,37)])]},lp:=[(1,ZoV)]}) (specs:={ l:=[ZaX,ZaY]}) (okS ⟨Ze6,Ze9,trivial⟩) ⟨Zr4,trivial⟩ (by kernel_rfl) (λv=>by kernel_rfl)
def Zik(F:Nat)(a0:(List UInt8)):Option ((Zz×Bool)):=
 (Zij F a0).bind λo204=>
 (Xv F o204).bind λo205=>
 (Zc (Zcf F) F (a0,o205.1,(0:Int),([]:Zz),o205.2,([]:List ZC))).bind λo214=>
 (YQ F o214.2.2.2).bind λo215=>
 if(!o215)=true then
  some (([]:Zz),false)
 else
 (W5 F o214.2.2.2).bind λo216=>
 (XJ F o216 o214.1).bind λo217=>
 if(!o217)=true then
  some (([]:Zz),false)
 else
 some (o214.2.2.2,true)
def Zil(F:Nat):Fs ya:=⟨51,[.v (.sl .u8)],[],[(.sl .u8)],[⟨.ret,[(0,.tup [.v Zp,.v .bool])],[],[Zp,.bool]⟩],λx=>Zik F x⟩
def Zrs:Fs ya:=Zil fuel
theorem ZoX:Zrs.Ok:=Zf (fi:={ hi:={ own:=[31,35,48,51],still:=[3,10,12,19,32,38,40,44,53,57,58,59],ghost:=[(5,[([0],Zo,126)]),(8,[([0],.u64,37)])]},lp:=[(0,ZoW)]}) (specs:={ l:=[Zrr,ZaX,Qw,ZaW,QR]}) (okS ⟨ZyU,Ze6,VC,QQ,QD,trivial⟩) ⟨Zr5,trivial⟩ (by decide+kernel) (λx=>by kernel_rfl)
def VD(F:Nat)(a0:Zz):Option (Zz):=
 (W5 F a0).bind λo218=>
 (Zik F o218).bind λo219=>
 some o219.1
def Zdj(F:Nat):Fs ya:=⟨41,[.v Zp],[],[Zp],[⟨.ret,[(0,.v Zp)],[],[Zp]⟩],λx=>VD F x⟩
def Zfa:Fs ya:=Zdj fuel
theorem Zdk:Zfa.Ok:=Zf (fi:={ hi:={ still:=[6,7]},lp:=[]}) (specs:={ l:=[ZaW,Zrs]}) (okS ⟨QQ,ZoX,trivial⟩) trivial (by decide+kernel) (λx=>by kernel_rfl)
def Zi9(F:Nat)(a0:Out)(a1:Out):Option (Int):=
 some (wi (a0.1 - a1.1))
def ZoY(F:Nat):Fs ya:=⟨55,[.v Zy,.v Zy],[],[Zy,Zy],[⟨.ret,[(0,.v yI)],[],[yI]⟩],λx=>Zi9 F x.1 x.2⟩
def Zhq:Fs ya:=ZoY fuel
theorem ZoZ:Zhq.Ok:=Zf (fi:={ hi:={ still:=[4]},lp:=[]}) (specs:={ l:=[]}) (okS trivial) trivial (by decide+kernel) (λx=>by kernel_rfl)
def Zja(F:Nat)(s:(Int×Int×Int×Int×(List Unit)×(List Out))):Option ((Int×Int×Int×Int×(List Unit)×(List Out))⊕(Int×Int×Int×(List Unit)×(List Out))):=
 if(decide (s.2.2.2.1 > s.1))=true then
  if(inB s.2.2.2.1 s.2.2.2.2.2.length)=true then
   (s.2.2.2.2.2[s.2.2.2.1.toNat]?).bind λe242=>
   if(inB (wi (s.2.2.2.1 - 1)) s.2.2.2.2.2.length)=true then
    (s.2.2.2.2.2[(wi (s.2.2.2.1 - 1)).toNat]?).bind λe243=>
    (Zi9 F e242 e243).bind λo244=>
    if(decide (o244 < 0))=true then
     if(inB (wi (s.2.2.2.1 - 1)) s.2.2.2.2.2.length)=true then
      (s.2.2.2.2.2[(wi (s.2.2.2.1 - 1)).toNat]?).bind λe245=>
      if(inB s.2.2.2.1 s.2.2.2.2.2.length)=true then
       (s.2.2.2.2.2[s.2.2.2.1.toNat]?).bind λe246=>
       if(inB s.2.2.2.1 s.2.2.2.2.2.length)=true then
        (s.2.2.2.2.2[s.2.2.2.1.toNat]?).bind λe247=>
        if(inB (wi (s.2.2.2.1 - 1)) ((s.2.2.2.2.2.set s.2.2.2.1.toNat e245).length))=true then
         ((s.2.2.2.2.2.set s.2.2.2.1.toNat e245)[(wi (s.2.2.2.1 - 1)).toNat]?).bind λe248=>
         let y249:(List Out):=(s.2.2.2.2.2.set s.2.2.2.1.toNat e245).set ((wi (s.2.2.2.1 - 1)).toNat) e246
         some (.inl (s.1,s.2.1,s.2.2.1,wi (s.2.2.2.1 - 1),s.2.2.2.2.1,y249))
        else
        none
       else
       none
      else
      none
     else
     none
    else
    some (.inr (s.1,s.2.1,s.2.2.1,s.2.2.2.2.1,s.2.2.2.2.2))
   else
   none
  else
  none
 else
 some (.inr (s.1,s.2.1,s.2.2.1,s.2.2.2.2.1,s.2.2.2.2.2))
def Zkz:Lp:=⟨[(0,.rw 0),(1,.v yI),(2,.v yI),(3,.fn 55 []),(8,.v yI),(9,.v yI)],[.row Zy true 96],[yI,yI,yI,yI,(.sl (.st [])),(.sl Zy)],[⟨.exit 2,[(0,.rw 0),(1,.v yI),(2,.v yI),(3,.fn 55 []),(8,.v yI)],[.row Zy true 96],[yI,yI,yI,(.sl (.st [])),(.sl Zy)]⟩],Zc (Zja fuel) fuel⟩
theorem Zo0:Zkz.Ok ya (Zj ya 153) (Zm ya 153 1):=Zh (fi:={ hi:={ still:=[26,31],rowt:=[0,37,39]},lp:=[]}) (specs:={ l:=[Zhq]}) (okS ⟨ZoZ,trivial⟩) trivial (by kernel_rfl) (λv=>by kernel_rfl)
def Zjb(F:Nat)(s:(Int×Int×Int×(List Unit)×(List Out))):Option ((Int×Int×Int×(List Unit)×(List Out))⊕((List Unit)×(List Out))):=
 if(decide (s.2.2.1 < s.2.1))=true then
  (Zc (Zja F) F (s.1,s.2.1,s.2.2.1,s.2.2.1,s.2.2.2.1,s.2.2.2.2)).bind λo250=>
  some (.inl (o250.1,o250.2.1,wi (o250.2.2.1+1),o250.2.2.2.1,o250.2.2.2.2))
 else
 some (.inr (s.2.2.2.1,s.2.2.2.2))
def ZkA:Lp:=⟨[(0,.rw 0),(1,.v yI),(2,.v yI),(3,.fn 55 []),(8,.v yI)],[.row Zy true 96],[yI,yI,yI,(.sl (.st [])),(.sl Zy)],[⟨.exit 0,[],[.row Zy true 96],[(.sl (.st [])),(.sl Zy)]⟩],Zc (Zjb fuel) fuel⟩
theorem Zo1:ZkA.Ok ya (Zj ya 153) (Zm ya 153 0):=Zh (fi:={ hi:={ still:=[26,31],rowt:=[0,37,39]},lp:=[(1,Zkz)]}) (specs:={ l:=[]}) (okS trivial) ⟨Zo0,trivial⟩ (by kernel_rfl) (λv=>by kernel_rfl)
def Zim(F:Nat)(a1:Int)(a2:Int)(s0_0:(List Unit))(s0_1:(List Out)):Option (((List Unit)×(List Out))):=
 (Zc (Zjb F) F (a1,a2,wi (a1+1),s0_0,s0_1)).bind λo251=>
 some (o251.1,o251.2)
def Zux(F:Nat):Fs ya:=⟨153,[.rw 0,.v yI,.v yI,.fn 55 []],[.row Zy true 96],[yI,yI,(.sl (.st [])),(.sl Zy)],[⟨.ret,[(0,.tup [])],[.row Zy true 96],[(.sl (.st [])),(.sl Zy)]⟩],λx=>Zim F x.1 x.2.1 x.2.2.1 x.2.2.2⟩
def ZgJ:Fs ya:=Zux fuel
theorem ZkB:ZgJ.Ok:=Zf (fi:={ hi:={ still:=[26,31],rowt:=[0,37,39]},lp:=[(0,ZkA)]}) (specs:={ l:=[]}) (okS trivial) ⟨Zo1,trivial⟩ (by decide+kernel) (λx=>by kernel_rfl)
def Zjc(F:Nat)(s:(Int×Int×Int×Int×(List Unit)×(List Out))):Option ((Int×Int×Int×Int×(List Unit)×(List Out))⊕(Int×Int×Int×(List Unit)×(List Out))):=
 if(decide (s.2.2.2.1≤s.1))=true then
  (Zim F s.2.2.1 s.2.2.2.1 s.2.2.2.2.1 s.2.2.2.2.2).bind λo252=>
  if(decide (s.2.2.2.2.1.length=o252.1.length)&&(decide (2=2)&&decide ((yx s.2.2.2.2.2.length ()).length=o252.2.length)))=true then
   some (.inl (s.1,s.2.1,s.2.2.2.1,wi (s.2.2.2.1+s.2.1),o252.1,o252.2))
  else
  none
 else
 some (.inr (s.1,s.2.1,s.2.2.1,s.2.2.2.2.1,s.2.2.2.2.2))
def ZkC:Lp:=⟨[(0,.rw 0),(1,.v yI),(2,.fn 55 []),(6,.v yI),(7,.v yI),(8,.v yI)],[.row Zy true 96],[yI,yI,yI,yI,(.sl (.st [])),(.sl Zy)],[⟨.exit 0,[(0,.rw 0),(1,.v yI),(2,.fn 55 []),(6,.v yI),(7,.v yI)],[.row Zy true 96],[yI,yI,yI,(.sl (.st [])),(.sl Zy)]⟩],Zc (Zjc fuel) fuel⟩
theorem Zo2:ZkC.Ok ya (Zj ya 111) (Zm ya 111 0):=Zh (fi:={ hi:={ still:=[15,16,17,24,25,26,37,40,41,42,56,57,58,59],rowt:=[0,14,23,36,55]},lp:=[],gh:=[(3,.freshS 0)]}) (specs:={ l:=[ZgJ]}) (okS ⟨ZkB,trivial⟩) trivial (by kernel_rfl) (λv=>by kernel_rfl)
def Zjd(F:Nat)(s:(Int×Int×Int×Int×(List Unit)×(List Out))):Option ((Int×Int×Int×Int×(List Unit)×(List Out))⊕(Int×Int×Int×(List Unit)×(List Out))):=
 if(decide (s.2.2.2.1≤s.1))=true then
  none
 else
 some (.inr (s.1,s.2.1,s.2.2.1,s.2.2.2.2.1,s.2.2.2.2.2))
def ZkD:Lp:=⟨[(1,.v yI),(2,.fn 55 []),(6,.v yI),(7,.v yI),(8,.v yI)],[.row Zy true 96],[yI,yI,yI,yI,(.sl (.st [])),(.sl Zy)],[⟨.exit 4,[(1,.v yI),(2,.fn 55 []),(6,.v yI),(7,.v yI)],[.row Zy true 96],[yI,yI,yI,(.sl (.st [])),(.sl Zy)]⟩],Zc (Zjd fuel) fuel⟩
theorem Zo3:ZkD.Ok ya (Zj ya 111) (Zm ya 111 2):=Zh (fi:={ hi:={ still:=[15,16,17,24,25,26,37,40,41,42,56,57,58,59],rowt:=[0,14,23,36,55]},lp:=[]}) (specs:={ l:=[]}) (okS trivial) trivial (by kernel_rfl) (λv=>by kernel_rfl)
def Zje(F:Nat)(s:(Int×Int×(List Unit)×(List Out))):Option ((Int×Int×(List Unit)×(List Out))⊕((List Unit)×(List Out))):=
 if(decide (s.2.1 < s.1))=true then
  (Zc (Zjd F) F (s.1,s.2.1,(0:Int),wi (2*s.2.1),s.2.2.1,s.2.2.2)).bind λo255=>
  if(decide ((wi (o255.2.2.1+o255.2.1)) < o255.1))=true then
   none
  else
  some (.inl (o255.1,wi (o255.2.1*2),o255.2.2.2.1,o255.2.2.2.2))
 else
 some (.inr (s.2.2.1,s.2.2.2))
def ZkE:Lp:=⟨[(0,.junk),(1,.v yI),(2,.fn 55 []),(6,.v yI)],[.row Zy true 96],[yI,yI,(.sl (.st [])),(.sl Zy)],[⟨.exit 2,[],[.row Zy true 96],[(.sl (.st [])),(.sl Zy)]⟩],Zc (Zje fuel) fuel⟩
theorem Zo4:ZkE.Ok ya (Zj ya 111) (Zm ya 111 1):=Zh (fi:={ hi:={ still:=[15,16,17,24,25,26,37,40,41,42,56,57,58,59],rowt:=[0,14,23,36,55]},lp:=[(2,ZkD)]}) (specs:={ l:=[]}) (okS trivial) ⟨Zo3,trivial⟩ (by kernel_rfl) (λv=>by kernel_rfl)
def Zo5(F:Nat)(a1:Int)(s0_0:(List Unit))(s0_1:(List Out)):Option (((List Unit)×(List Out))):=
 (Zc (Zjc F) F (a1,(20:Int),(0:Int),(20:Int),s0_0,s0_1)).bind λo253=>
 (Zim F o253.2.2.1 o253.1 o253.2.2.2.1 o253.2.2.2.2).bind λo254=>
 (Zc (Zje F) F (o253.1,o253.2.1,o254.1,o254.2)).bind λo256=>
 some (o256.1,o256.2)
def Zuy(F:Nat):Fs ya:=⟨111,[.rw 0,.v yI,.fn 55 []],[.row Zy true 96],[yI,(.sl (.st [])),(.sl Zy)],[⟨.ret,[(0,.tup [])],[.row Zy true 96],[(.sl (.st [])),(.sl Zy)]⟩],λx=>Zo5 F x.1 x.2.1 x.2.2⟩
def ZmS:Fs ya:=Zuy fuel
theorem Zuz:ZmS.Ok:=Zf (fi:={ hi:={ still:=[15,16,17,24,25,26,37,40,41,42,56,57,58,59],rowt:=[0,14,23,36,55]},lp:=[(0,ZkC),(1,ZkE)]}) (specs:={ l:=[ZgJ]}) (okS ⟨ZkB,trivial⟩) ⟨Zo2,Zo4,trivial⟩ (by decide+kernel) (λx=>by kernel_rfl)
def ZA6(F:Nat)(s0_0:(List Unit))(s0_1:(List Out)):Option (((List Unit)×(List Out))):=
 (Zo5 F (s0_1.length:Int) s0_0 s0_1).bind λo257=>
 some (o257.1,o257.2)
def ZC0(F:Nat):Fs ya:=⟨54,[.rw 0,.fn 55 []],[.row Zy true 96],[(.sl (.st [])),(.sl Zy)],[⟨.ret,[(0,.tup [])],[.row Zy true 96],[(.sl (.st [])),(.sl Zy)]⟩],λx=>ZA6 F x.1 x.2⟩
def Zw5:Fs ya:=ZC0 fuel
theorem ZC1:Zw5.Ok:=Zf (fi:={ hi:={ still:=[6,7],rowt:=[0,4]},lp:=[]}) (specs:={ l:=[ZmS]}) (okS ⟨Zuz,trivial⟩) trivial (by decide+kernel) (λx=>by kernel_rfl)
def Zhr(F:Nat)(s:(Int×(List Int)×Int×ZH×State×(List Zz)×Tx×(List In)×Int×(List Unit)×(List Out))):Option ((Int×(List Int)×Int×ZH×State×(List Zz)×Tx×(List In)×Int×(List Unit)×(List Out))⊕(ZH×State×(List Zz)×Tx×(List In)×Int×(List Unit)×(List Out))):=
 if(decide (s.2.2.1 < 2))=true then
  (idx s.2.1 s.2.2.1).bind λe265=>
  if(s.2.2.1==s.2.2.2.1.2.2.2.2)=true then
   (s.2.2.2.1.2.2.2.1[0]?).bind λe266=>
   (ZaN F e266 (wi (e265 - s.1))).bind λo267=>
   if o267=true then
    (s.2.2.2.1.2.2.2.1[1]?).bind λe268=>
    (ZaN F e268 (wi (e265 - s.1))).bind λo269=>
    if o269=true then
     if(inB s.2.2.1 2)=true then
      (s.2.2.2.2.2.1[s.2.2.1.toNat]?).bind λe270=>
      (VD F e270).bind λo271=>
      if(apB s.2.2.2.2.2.2.2.2.2.2.length 1 32)=true then
       let y272:(List Out):=s.2.2.2.2.2.2.2.2.2.2++([(wi (e265 - s.1),o271)]:List Out)
       some (.inl (s.1,s.2.1,wi (s.2.2.1+1),s.2.2.2.1,s.2.2.2.2.1,s.2.2.2.2.2.1,s.2.2.2.2.2.2.1,s.2.2.2.2.2.2.2.1,s.2.2.2.2.2.2.2.2.1,()::s.2.2.2.2.2.2.2.2.2.1,y272))
      else
      none
     else
     none
    else
    some (.inl (s.1,s.2.1,wi (s.2.2.1+1),s.2.2.2.1,s.2.2.2.2.1,s.2.2.2.2.2.1,s.2.2.2.2.2.2.1,s.2.2.2.2.2.2.2.1,s.2.2.2.2.2.2.2.2.1,s.2.2.2.2.2.2.2.2.2.1,s.2.2.2.2.2.2.2.2.2.2))
   else
   some (.inl (s.1,s.2.1,wi (s.2.2.1+1),s.2.2.2.1,s.2.2.2.2.1,s.2.2.2.2.2.1,s.2.2.2.2.2.2.1,s.2.2.2.2.2.2.2.1,s.2.2.2.2.2.2.2.2.1,s.2.2.2.2.2.2.2.2.2.1,s.2.2.2.2.2.2.2.2.2.2))
  else
  (s.2.2.2.1.2.2.2.1[0]?).bind λe273=>
  (ZaN F e273 e265).bind λo274=>
  if o274=true then
   (s.2.2.2.1.2.2.2.1[1]?).bind λe275=>
   (ZaN F e275 e265).bind λo276=>
   if o276=true then
    if(inB s.2.2.1 2)=true then
     (s.2.2.2.2.2.1[s.2.2.1.toNat]?).bind λe277=>
     (VD F e277).bind λo278=>
     if(apB s.2.2.2.2.2.2.2.2.2.2.length 1 32)=true then
      let y279:(List Out):=s.2.2.2.2.2.2.2.2.2.2++([(e265,o278)]:List Out)
      some (.inl (s.1,s.2.1,wi (s.2.2.1+1),s.2.2.2.1,s.2.2.2.2.1,s.2.2.2.2.2.1,s.2.2.2.2.2.2.1,s.2.2.2.2.2.2.2.1,s.2.2.2.2.2.2.2.2.1,()::s.2.2.2.2.2.2.2.2.2.1,y279))
     else
     none
    else
    none
   else
   some (.inl (s.1,s.2.1,wi (s.2.2.1+1),s.2.2.2.1,s.2.2.2.2.1,s.2.2.2.2.2.1,s.2.2.2.2.2.2.1,s.2.2.2.2.2.2.2.1,s.2.2.2.2.2.2.2.2.1,s.2.2.2.2.2.2.2.2.2.1,s.2.2.2.2.2.2.2.2.2.2))
  else
  some (.inl (s.1,s.2.1,wi (s.2.2.1+1),s.2.2.2.1,s.2.2.2.2.1,s.2.2.2.2.2.1,s.2.2.2.2.2.2.1,s.2.2.2.2.2.2.2.1,s.2.2.2.2.2.2.2.2.1,s.2.2.2.2.2.2.2.2.2.1,s.2.2.2.2.2.2.2.2.2.2))
 else
 some (.inr (s.2.2.2.1,s.2.2.2.2.1,s.2.2.2.2.2.1,s.2.2.2.2.2.2.1,s.2.2.2.2.2.2.2.1,s.2.2.2.2.2.2.2.2.1,s.2.2.2.2.2.2.2.2.2.1,s.2.2.2.2.2.2.2.2.2.2))
def Zjf:Lp:=⟨[(3,.v yI),(4,.ref 0 []),(6,.ref 2 []),(8,.ref 3 []),(10,.ref 4 []),(46,.v (.arr 2 yI)),(47,.v yI)],[.var (.v Zl) true,.var (.v Zg) true,.var (.v (.arr 2 Zp)) true,.var (.v yTx) true,.var (.agg [.v (.sl yIn),.rw 5,.v yI]) true,.row Zy true 96],[yI,(.arr 2 yI),yI,Zl,Zg,(.arr 2 Zp),yTx,(.sl yIn),yI,(.sl (.st [])),(.sl Zy)],[⟨.exit 1,[(8,.ref 3 []),(10,.ref 4 [])],[.var (.v Zl) true,.var (.v Zg) true,.var (.v (.arr 2 Zp)) true,.var (.v yTx) true,.var (.agg [.v (.sl yIn),.rw 5,.v yI]) true,.row Zy true 96],[Zl,Zg,(.arr 2 Zp),yTx,(.sl yIn),yI,(.sl (.st [])),(.sl Zy)]⟩],Zc (Zhr fuel) fuel⟩
theorem ZnC:Zjf.Ok ya (Zj ya 18) (Zm ya 18 0):=Zh (fi:={ hi:={ own:=[71,79],still:=[9,14,15,21,26,32,33,35,36,60,61,66,67,75],rowt:=[71,79,83]},lp:=[]}) (specs:={ l:=[ZmF,Zfa]}) (okS ⟨Zua,Zdk,trivial⟩) trivial (by kernel_rfl) (λv=>by kernel_rfl)
def ZmT(F:Nat)(a0:ZH)(a1:State)(a2:(List Zz))(a3:Int):Option ((Tx×Int)):=
 (ZaT F a0 a1).bind λo259=>
 if(!o259)=true then
  some ((([]:List In),([]:List Out),(0:Int)),(14:Int))
 else
 (a2[0]?).bind λe260=>
 (YQ F e260).bind λo261=>
 if(!o261)=true then
  some ((([]:List In),([]:List Out),(0:Int)),(1:Int))
 else
 (a2[1]?).bind λe262=>
 (YQ F e262).bind λo263=>
 if(!o263)=true then
  some ((([]:List In),([]:List Out),(0:Int)),(1:Int))
 else
 (X1 F a0 a1 a0.2.2.2.2 a3).bind λo264=>
 if(!o264)=true then
  some ((([]:List In),([]:List Out),(0:Int)),(13:Int))
 else
 (Zc (Zhr F) F (a3,a1.2.1,(0:Int),a0,a1,a2,(([]:List In),([]:List Out),(0:Int)),([(a0.1,(0,[],0))]:List In),(2097154:Int),([]:List Unit),([]:List Out))).bind λo280=>
 (ZA6 F o280.2.2.2.2.2.2.1 o280.2.2.2.2.2.2.2).bind λo281=>
 if(decide (o280.2.2.2.2.2.2.1.length=o281.1.length)&&(decide (2=2)&&decide ((yx o280.2.2.2.2.2.2.2.length ()).length=o281.2.length)))=true then
  some ((o280.2.2.2.2.1,o281.2,o280.2.2.2.2.2.1),(0:Int))
 else
 none
def Zdl(F:Nat):Fs ya:=⟨18,[.v Zl,.v Zg,.v (.arr 2 Zp),.v yI],[],[Zl,Zg,(.arr 2 Zp),yI],[⟨.ret,[(0,.tup [.v yTx,.v yI])],[],[yTx,yI]⟩],λx=>ZmT F x.1 x.2.1 x.2.2.1 x.2.2.2⟩
def ZkF:Fs ya:=Zdl fuel
theorem Zjg:ZkF.Ok:=Zf (fi:={ hi:={ own:=[71,79],still:=[9,14,15,21,26,32,33,35,36,60,61,66,67,75],rowt:=[71,79,83]},lp:=[(0,Zjf)],gh:=[(10,.rowt 10 [1] Zy 96),(19,.freshDone 10 1)]}) (specs:={ l:=[ZgE,Qw,Ze3,Zw5]}) (okS ⟨Ze2,VC,Zdf,ZC1,trivial⟩) ⟨ZnC,trivial⟩ (by decide+kernel) (λx=>by kernel_rfl)
def ZkG(F:Nat)(a0:ZEe):Option (Bool):=
 if(decide (a0.1 ≥ 0))=true then
  if(decide (a0.1 < 4))=true then
   some (decide ((a0.2.1.length:Int)≤12))
  else
  some false
 else
 some false
def ZvX(F:Nat):Fs ya:=⟨73,[.v Zt7],[],[Zt7],[⟨.ret,[(0,.v .bool)],[],[.bool]⟩],λx=>ZkG F x⟩
def Zo6:Fs ya:=ZvX fuel
theorem ZvY:Zo6.Ok:=Zf (fi:={ hi:={ still:=[2]},lp:=[]}) (specs:={ l:=[]}) (okS trivial) trivial (by decide+kernel) (λx=>by kernel_rfl)
def Zo7(F:Nat)(s:((List In)×Int×Int×Tx×(List (XQ×Bool)))):Option (((List In)×Int×Int×Tx×(List (XQ×Bool)))⊕((Bool×Tx×(List (XQ×Bool)))⊕(Tx×(List (XQ×Bool))))):=
 if(decide (s.2.2.1 < s.2.1))=true then
  (idx s.1 s.2.2.1).bind λe282=>
  ZGT (Zz0 s.2.2.2.2 e282.1) (λe283=>
   if e283=true then
    some (.inr (.inl (false,s.2.2.2.1,s.2.2.2.2)))
   else
   if(decide (e282.1.2 < 0))=true then
    some (.inr (.inl (false,s.2.2.2.1,s.2.2.2.2)))
   else
   if(decide (e282.1.2 ≥ 64))=true then
    some (.inr (.inl (false,s.2.2.2.1,s.2.2.2.2)))
   else
   (ZkG F e282.2).bind λo284=>
   if(!o284)=true then
    some (.inr (.inl (false,s.2.2.2.1,s.2.2.2.2)))
   else
   some (.inl (s.1,s.2.1,wi (s.2.2.1+1),s.2.2.2.1,Zz1 s.2.2.2.2 e282.1 true))) (
   if(decide (e282.1.2 < 0))=true then
    some (.inr (.inl (false,s.2.2.2.1,s.2.2.2.2)))
   else
   if(decide (e282.1.2 ≥ 64))=true then
    some (.inr (.inl (false,s.2.2.2.1,s.2.2.2.2)))
   else
   (ZkG F e282.2).bind λo285=>
   if(!o285)=true then
    some (.inr (.inl (false,s.2.2.2.1,s.2.2.2.2)))
   else
   some (.inl (s.1,s.2.1,wi (s.2.2.1+1),s.2.2.2.1,Zz1 s.2.2.2.2 e282.1 true)))
 else
 some (.inr (.inr (s.2.2.2.1,s.2.2.2.2)))
def Zrt:Lp:=⟨[(1,.ref 0 []),(3,.mp 1),(33,.v (.sl yIn)),(34,.v yI),(35,.v yI)],[.var (.v yTx) true,.map 161 XI .bool],[(.sl yIn),yI,yI,yTx,(ZrT XI .bool)],[⟨.ret,[(2,.v .bool)],[.var (.v yTx) true,.map 161 XI .bool],[.bool,yTx,(ZrT XI .bool)]⟩,⟨.exit 0,[(1,.ref 0 [])],[.var (.v yTx) true,.map 161 XI .bool],[yTx,(ZrT XI .bool)]⟩],Zc (Zo7 fuel) fuel⟩
theorem ZuA:Zrt.Ok ya (Zj ya 25) (Zm ya 25 0):=Zh (fi:={ hi:={ still:=[2,57,73,75,83]},lp:=[]}) (specs:={ l:=[Zo6]}) (okS ⟨ZvY,trivial⟩) trivial (by kernel_rfl) (λv=>by kernel_rfl)
def Zo8(F:Nat)(s:(Int×(List Out)×Int×Int×Tx×(List (XQ×Bool)))):Option ((Int×(List Out)×Int×Int×Tx×(List (XQ×Bool)))⊕((Bool×Tx×(List (XQ×Bool)))⊕(Tx×(List (XQ×Bool))))):=
 if(decide (s.2.2.2.1 < s.2.2.1))=true then
  (idx s.2.1 s.2.2.2.1).bind λe289=>
  (Zhl F s.1 e289.1).bind λo290=>
  if(!o290.2)=true then
   some (.inr (.inl (false,s.2.2.2.2.1,s.2.2.2.2.2)))
  else
  (YQ F e289.2).bind λo291=>
  if(!o291)=true then
   some (.inr (.inl (false,s.2.2.2.2.1,s.2.2.2.2.2)))
  else
  some (.inl (o290.1,s.2.1,s.2.2.1,wi (s.2.2.2.1+1),s.2.2.2.2.1,s.2.2.2.2.2))
 else
 some (.inr (.inr (s.2.2.2.2.1,s.2.2.2.2.2)))
def Zru:Lp:=⟨[(6,.v yI),(66,.v (.sl Zy)),(67,.v yI),(68,.v yI)],[.var (.v yTx) true,.map 161 XI .bool],[yI,(.sl Zy),yI,yI,yTx,(ZrT XI .bool)],[⟨.ret,[(2,.v .bool)],[.var (.v yTx) true,.map 161 XI .bool],[.bool,yTx,(ZrT XI .bool)]⟩,⟨.exit 2,[],[.var (.v yTx) true,.map 161 XI .bool],[yTx,(ZrT XI .bool)]⟩],Zc (Zo8 fuel) fuel⟩
theorem ZuB:Zru.Ok ya (Zj ya 25) (Zm ya 25 1):=Zh (fi:={ hi:={ still:=[2,57,73,75,83]},lp:=[]}) (specs:={ l:=[Zqg,Qw]}) (okS ⟨Zum,VC,trivial⟩) trivial (by kernel_rfl) (λv=>by kernel_rfl)
def Zqq(F:Nat)(a0:Tx):Option (Bool):=
 if(decide ((a0.1.length:Int) < 1))=true then
  some false
 else
 if(decide ((a0.1.length:Int) > 64))=true then
  some false
 else
 if(decide ((a0.2.1.length:Int) > 64))=true then
  some false
 else
 if(decide (a0.2.2 < 0))=true then
  some false
 else
 (Zc (Zo7 F) F (a0.1,(a0.1.length:Int),(0:Int),a0,([]:List (XQ×Bool)))).bind λo286=>
 match o286 with
 |.inl o287=>
  some o287.1
 |.inr o288=>
  (Zc (Zo8 F) F ((0:Int),o288.1.2.1,(o288.1.2.1.length:Int),(0:Int),o288.1,o288.2)).bind λo292=>
  match o292 with
  |.inl o293=>
   some o293.1
  |.inr o294=>
   some true
def ZA7(F:Nat):Fs ya:=⟨25,[.v yTx],[],[yTx],[⟨.ret,[(0,.v .bool)],[],[.bool]⟩],λx=>Zqq F x⟩
def ZnD:Fs ya:=ZA7 fuel
theorem Zrv:ZnD.Ok:=Zf (fi:={ hi:={ still:=[2,57,73,75,83]},lp:=[(0,Zrt),(1,Zru)]}) (specs:={ l:=[]}) (okS trivial) ⟨ZuA,ZuB,trivial⟩ (by decide+kernel) (λx=>by kernel_rfl)
def ZkH(F:Nat):Option ((List UInt32)):=
 some ([1779033703,3144134277,1013904242,2773480762,1359893119,2600822924,528734635,1541459225]:List UInt32)
def ZvZ(F:Nat):Fs ya:=⟨156,[],[],[],[⟨.ret,[(0,.v (.arr 8 .u32))],[],[(.arr 8 .u32)]⟩],λx=>ZkH F⟩
def Zo9:Fs ya:=ZvZ fuel
theorem Zv0:Zo9.Ok:=Zf (fi:={ hi:={},lp:=[]}) (specs:={ l:=[]}) (okS trivial) trivial (by decide+kernel) (λx=>by kernel_rfl)
def ZP(F:Nat)(a0:UInt32)(a1:Int):Option (UInt32):=
 let y296:UInt32:=Zal a0 (min (((w64 a1)&&&31).toNat:Int).toNat 32);let y297:UInt32:=Zdy a0 (min ((32 - ((w64 a1)&&&31)).toNat:Int).toNat 32)
 some (y296|||y297)
def ZkI(F:Nat):Fs ya:=⟨177,[.v .u32,.v yI],[],[.u32,yI],[⟨.ret,[(0,.v .u32)],[],[.u32]⟩],λx=>ZP F x.1 x.2⟩
def QI:Fs ya:=ZkI fuel
theorem ZcA:QI.Ok:=Zf (fi:={ hi:={ still:=[4]},lp:=[]}) (specs:={ l:=[]}) (okS trivial) trivial (by decide+kernel) (λx=>by kernel_rfl)
def Zeh(F:Nat)(a0:(List UInt8)):Option (UInt32):=
 (idx a0 0).bind λe298=>
 (idx a0 1).bind λe299=>
 let y300:UInt32:=(Zal (ybn e298.toNat) 24)|||(Zal (ybn e299.toNat) 16)
 (idx a0 2).bind λe301=>
 (idx a0 3).bind λe302=>
 let y303:UInt32:=(y300|||(Zal (ybn e301.toNat) 8))|||(ybn e302.toNat)
 some y303
def ZuC(F:Nat):Fs ya:=⟨187,[.v (.sl .u8)],[],[(.sl .u8)],[⟨.ret,[(0,.v .u32)],[],[.u32]⟩],λx=>Zeh F x⟩
def ZmU:Fs ya:=ZuC fuel
theorem ZuD:ZmU.Ok:=Zf (fi:={ hi:={ still:=[2]},lp:=[]}) (specs:={ l:=[]}) (okS trivial) trivial (by decide+kernel) (λx=>by kernel_rfl)
def VO(F:Nat)(s:((List UInt8)×Int×(List UInt32))):Option (((List UInt8)×Int×(List UInt32))⊕(List UInt32)):=
 if(decide (s.2.1 < 64))=true then
  if(decide (s.2.1 < 16))=true then
   if(Zat s.1.length (some (wi (4*s.2.1))) none)=true then
    (Zeh F (s.1.drop ((wi (4*s.2.1)).toNat))).bind λo304=>
    if(inB s.2.1 64)=true then
     (s.2.2[s.2.1.toNat]?).bind λe305=>
     some (.inl (s.1,wi (s.2.1+1),s.2.2.set s.2.1.toNat o304))
    else
    none
   else
   none
  else
  if(inB (wi (s.2.1 - 15)) 64)=true then
   (s.2.2[(wi (s.2.1 - 15)).toNat]?).bind λe306=>
   if(inB (wi (s.2.1 - 2)) 64)=true then
    (s.2.2[(wi (s.2.1 - 2)).toNat]?).bind λe307=>
    (ZP F e306 (-7:Int)).bind λo308=>
    (ZP F e306 (-18:Int)).bind λo309=>
    (ZP F e307 (-17:Int)).bind λo310=>
    (ZP F e307 (-19:Int)).bind λo311=>
    if(inB (wi (s.2.1 - 16)) 64)=true then
     (s.2.2[(wi (s.2.1 - 16)).toNat]?).bind λe312=>
     if(inB (wi (s.2.1 - 7)) 64)=true then
      (s.2.2[(wi (s.2.1 - 7)).toNat]?).bind λe313=>
      let y314:UInt32:=(e312+((o308^^^o309)^^^(Zdy e306 3)))+e313
      if(inB s.2.1 64)=true then
       (s.2.2[s.2.1.toNat]?).bind λe315=>
       let y316:(List UInt32):=s.2.2.set s.2.1.toNat (y314+((o310^^^o311)^^^(Zdy e307 10)))
       some (.inl (s.1,wi (s.2.1+1),y316))
      else
      none
     else
     none
    else
    none
   else
   none
  else
  none
 else
 some (.inr s.2.2)
def Zhs:Lp:=⟨[(0,.v (.sl .u8)),(2,.ref 0 []),(8,.v yI)],[.var (.v (.arr 64 .u32)) true],[(.sl .u8),yI,(.arr 64 .u32)],[⟨.exit 0,[(2,.ref 0 [])],[.var (.v (.arr 64 .u32)) true],[(.arr 64 .u32)]⟩],Zc (VO fuel) fuel⟩
theorem Zl3:Zhs.Ok ya (Zj ya 175) (Zm ya 175 0):=Zh (fi:={ hi:={ still:=[17,28,30,36,38]},lp:=[]}) (specs:={ l:=[ZmU,QI]}) (okS ⟨ZuD,ZcA,trivial⟩) trivial (by kernel_rfl) (λv=>by kernel_rfl)
def ZaZ(F:Nat)(a0:(List UInt8)):Option ((List UInt32)):=
 (Zc (VO F) F (a0,(0:Int),([0,0,0,0,0,0,0,0,0,0,0,0,0,0,0,0,0,0,0,0,0,0,0,0,0,0,0,0,0,0,0,0,0,0,0,0,0,0,0,0,0,0,0,0,0,0,0,0,0,0,0,0,0,0,0,0,0,0,0,0,0,0,0,0]:List UInt32))).bind λo317=>
 some o317
def Zqr(F:Nat):Fs ya:=⟨175,[.v (.sl .u8)],[],[(.sl .u8)],[⟨.ret,[(0,.v (.arr 64 .u32))],[],[(.arr 64 .u32)]⟩],λx=>ZaZ F x⟩
def Zjh:Fs ya:=Zqr fuel
theorem Zqs:Zjh.Ok:=Zf (fi:={ hi:={ still:=[17,28,30,36,38]},lp:=[(0,Zhs)]}) (specs:={ l:=[]}) (okS trivial) ⟨Zl3,trivial⟩ (by decide+kernel) (λx=>by kernel_rfl)
def ZkJ(F:Nat):Option ((List UInt32)):=
 some ([1116352408,1899447441,3049323471,3921009573,961987163,1508970993,2453635748,2870763221,3624381080,310598401,607225278,1426881987,1925078388,2162078206,2614888103,3248222580,3835390401,4022224774,264347078,604807628,770255983,1249150122,1555081692,1996064986,2554220882,2821834349,2952996808,3210313671,3336571891,3584528711,113926993,338241895,666307205,773529912,1294757372,1396182291,1695183700,1986661051,2177026350,2456956037,2730485921,2820302411,3259730800,3345764771,3516065817,3600352804,4094571909,275423344,430227734,506948616,659060556,883997877,958139571,1322822218,1537002063,1747873779,1955562222,2024104815,2227730452,2361852424,2428436474,2756734187,3204031479,3329325298]:List UInt32)
def Zv1(F:Nat):Fs ya:=⟨176,[],[],[],[⟨.ret,[(0,.v (.arr 64 .u32))],[],[(.arr 64 .u32)]⟩],λx=>ZkJ F⟩
def Zpa:Fs ya:=Zv1 fuel
theorem Zv2:Zpa.Ok:=Zf (fi:={ hi:={},lp:=[]}) (specs:={ l:=[]}) (okS trivial) trivial (by decide+kernel) (λx=>by kernel_rfl)
def Vg(F:Nat)(s:(Int×(List UInt32)×(List UInt32)×(List UInt32)×(List UInt32)×(List UInt32))):Option ((Int×(List UInt32)×(List UInt32)×(List UInt32)×(List UInt32)×(List UInt32))⊕((List UInt32)×(List UInt32)×(List UInt32)×(List UInt32)×(List UInt32))):=
 if(decide (s.1 < 64))=true then
  (s.2.2.2.2.2[4]?).bind λe320=>
  (ZP F e320 (-6:Int)).bind λo321=>
  (s.2.2.2.2.2[4]?).bind λe322=>
  (ZP F e322 (-11:Int)).bind λo323=>
  (s.2.2.2.2.2[4]?).bind λe324=>
  (ZP F e324 (-25:Int)).bind λo325=>
  (s.2.2.2.2.2[7]?).bind λe326=>
  (s.2.2.2.2.2[6]?).bind λe327=>
  (s.2.2.2.2.2[4]?).bind λe328=>
  (s.2.2.2.2.2[5]?).bind λe329=>
  (s.2.2.2.2.2[6]?).bind λe330=>
  let y331:UInt32:=(e326+((o321^^^o323)^^^o325))+(e327^^^(e328&&&(e329^^^e330)))
  if(inB s.1 64)=true then
   (s.2.2.2.2.1[s.1.toNat]?).bind λe332=>
   if(inB s.1 64)=true then
    (s.2.2.2.1[s.1.toNat]?).bind λe333=>
    (s.2.2.2.2.2[0]?).bind λe334=>
    (ZP F e334 (-2:Int)).bind λo335=>
    (s.2.2.2.2.2[0]?).bind λe336=>
    (ZP F e336 (-13:Int)).bind λo337=>
    (s.2.2.2.2.2[0]?).bind λe338=>
    (ZP F e338 (-22:Int)).bind λo339=>
    (s.2.2.2.2.2[0]?).bind λe340=>
    (s.2.2.2.2.2[1]?).bind λe341=>
    (s.2.2.2.2.2[2]?).bind λe342=>
    (s.2.2.2.2.2[0]?).bind λe343=>
    (s.2.2.2.2.2[1]?).bind λe344=>
    let y345:UInt32:=((y331+e332)+e333)+((o335^^^o337)^^^o339);let y346:UInt32:=y345+((e340&&&e341)|||(e342&&&(e343|||e344)))
    (s.2.2.2.2.2[0]?).bind λe347=>
    (s.2.2.2.2.2[1]?).bind λe348=>
    (s.2.2.2.2.2[2]?).bind λe349=>
    (s.2.2.2.2.2[3]?).bind λe350=>
    (s.2.2.2.2.2[4]?).bind λe351=>
    (s.2.2.2.2.2[5]?).bind λe352=>
    (s.2.2.2.2.2[6]?).bind λe353=>
    some (.inl (wi (s.1+1),s.2.1,s.2.2.1,s.2.2.2.1,s.2.2.2.2.1,([y346,e347,e348,e349,e350+((y331+e332)+e333),e351,e352,e353]:List UInt32)))
   else
   none
  else
  none
 else
 some (.inr (s.2.1,s.2.2.1,s.2.2.2.1,s.2.2.2.2.1,s.2.2.2.2.2))
def Zge:Lp:=⟨[(2,.ref 0 []),(4,.ref 1 []),(5,.ref 2 []),(6,.ref 3 []),(7,.ref 4 []),(18,.v yI)],[.var (.v (.arr 8 .u32)) true,.var (.v (.arr 8 .u32)) true,.var (.v (.arr 64 .u32)) true,.var (.v (.arr 64 .u32)) true,.var (.v (.arr 8 .u32)) true],[yI,(.arr 8 .u32),(.arr 8 .u32),(.arr 64 .u32),(.arr 64 .u32),(.arr 8 .u32)],[⟨.exit 0,[(2,.ref 0 []),(4,.ref 1 []),(7,.ref 4 [])],[.var (.v (.arr 8 .u32)) true,.var (.v (.arr 8 .u32)) true,.var (.v (.arr 64 .u32)) true,.var (.v (.arr 64 .u32)) true,.var (.v (.arr 8 .u32)) true],[(.arr 8 .u32),(.arr 8 .u32),(.arr 64 .u32),(.arr 64 .u32),(.arr 8 .u32)]⟩],Zc (Vg fuel) fuel⟩
theorem ZkK:Zge.Ok ya (Zj ya 157) (Zm ya 157 0):=Zh (fi:={ hi:={ still:=[14,22,25,29,57,60,64]},lp:=[]}) (specs:={ l:=[QI]}) (okS ⟨ZcA,trivial⟩) trivial (by kernel_rfl) (λv=>by kernel_rfl)
def Vh(F:Nat)(s:(Int×(List UInt32)×(List UInt32)×(List UInt32)×(List UInt32)×(List UInt32))):Option ((Int×(List UInt32)×(List UInt32)×(List UInt32)×(List UInt32)×(List UInt32))⊕((List UInt32)×(List UInt32)×(List UInt32)×(List UInt32)×(List UInt32))):=
 if(decide (s.1 < 8))=true then
  if(inB s.1 8)=true then
   (s.2.2.2.2.2[s.1.toNat]?).bind λe355=>
   if(inB s.1 8)=true then
    (s.2.1[s.1.toNat]?).bind λe356=>
    if(inB s.1 8)=true then
     (s.2.2.2.2.2[s.1.toNat]?).bind λe357=>
     some (.inl (wi (s.1+1),s.2.1,s.2.2.1,s.2.2.2.1,s.2.2.2.2.1,s.2.2.2.2.2.set s.1.toNat (e355+e356)))
    else
    none
   else
   none
  else
  none
 else
 some (.inr (s.2.1,s.2.2.1,s.2.2.2.1,s.2.2.2.2.1,s.2.2.2.2.2))
def Zgf:Lp:=⟨[(2,.ref 0 []),(4,.ref 1 []),(7,.ref 4 []),(104,.v yI)],[.var (.v (.arr 8 .u32)) true,.var (.v (.arr 8 .u32)) true,.var (.v (.arr 64 .u32)) true,.var (.v (.arr 64 .u32)) true,.var (.v (.arr 8 .u32)) true],[yI,(.arr 8 .u32),(.arr 8 .u32),(.arr 64 .u32),(.arr 64 .u32),(.arr 8 .u32)],[⟨.exit 2,[(4,.ref 1 []),(7,.ref 4 [])],[.var (.v (.arr 8 .u32)) true,.var (.v (.arr 8 .u32)) true,.var (.v (.arr 64 .u32)) true,.var (.v (.arr 64 .u32)) true,.var (.v (.arr 8 .u32)) true],[(.arr 8 .u32),(.arr 8 .u32),(.arr 64 .u32),(.arr 64 .u32),(.arr 8 .u32)]⟩],Zc (Vh fuel) fuel⟩
theorem ZkL:Zgf.Ok ya (Zj ya 157) (Zm ya 157 1):=Zh (fi:={ hi:={ still:=[14,22,25,29,57,60,64]},lp:=[]}) (specs:={ l:=[]}) (okS trivial) trivial (by kernel_rfl) (λv=>by kernel_rfl)
def Vu(F:Nat)(a0:(List UInt32))(a1:(List UInt8)):Option ((List UInt32)):=
 (ZaZ F a1).bind λo318=>
 (ZkJ F).bind λo319=>
 (Zc (Vg F) F ((0:Int),a0,([0,0,0,0,0,0,0,0]:List UInt32),o318,o319,a0)).bind λo354=>
 (Zc (Vh F) F ((0:Int),o354.1,o354.2.1,o354.2.2.1,o354.2.2.2.1,o354.2.2.2.2)).bind λo358=>
 some o358.2.2.2.2
def Zpb(F:Nat):Fs ya:=⟨157,[.v (.arr 8 .u32),.v (.sl .u8)],[],[(.arr 8 .u32),(.sl .u8)],[⟨.ret,[(0,.v (.arr 8 .u32))],[],[(.arr 8 .u32)]⟩],λx=>Vu F x.1 x.2⟩
def ZbT:Fs ya:=Zpb fuel
theorem Zgg:ZbT.Ok:=Zf (fi:={ hi:={ still:=[14,22,25,29,57,60,64]},lp:=[(0,Zge),(1,Zgf)]}) (specs:={ l:=[Zjh,Zpa]}) (okS ⟨Zqs,Zv2,trivial⟩) ⟨ZkK,ZkL,trivial⟩ (by decide+kernel) (λx=>by kernel_rfl)
def Z0(F:Nat)(a0:(List UInt8)):Option ((List UInt8)):=
 if(apB 0 a0.length 1)=true then
  some a0
 else
 none
def Zdm(F:Nat):Fs ya:=⟨149,[.sl true .u8],[],[(.sl .u8)],[⟨.ret,[(0,.own 0 .u8)],[.log .u8 5],[(.sl .u8)]⟩],λx=>Z0 F x⟩
def Zei:Fs ya:=Zdm fuel
theorem Zdn:Zei.Ok:=Zf (fi:={ hi:={ own:=[2,5,7]},lp:=[]}) (specs:={ l:=[]}) (okS trivial) trivial (by decide+kernel) (λx=>by kernel_rfl)
def Qk(F:Nat):Option ((List UInt8)):=
 some ([]:List UInt8)
def Zdo(F:Nat):Fs ya:=⟨149,[.nil .u8],[],[],[⟨.ret,[(0,.own 0 .u8)],[.log .u8 5],[(.sl .u8)]⟩],λx=>Qk F⟩
def Zej:Fs ya:=Zdo fuel
theorem Zdp:Zej.Ok:=Zf (fi:={ hi:={ own:=[2,5,7]},lp:=[]}) (specs:={ l:=[]}) (okS trivial) trivial (by decide+kernel) (λx=>by kernel_rfl)
def ZbU(F:Nat):Fs ya:=⟨149,[.v (.sl .u8)],[],[(.sl .u8)],[⟨.ret,[(0,.own 0 .u8)],[.log .u8 5],[(.sl .u8)]⟩],λx=>Z0 F x⟩
def W6:Fs ya:=ZbU fuel
theorem ZbV:W6.Ok:=Zqa (t:=.u8) (xs:=[⟨.ret,[(0,.own 0 .u8)],[.log .u8 5],[(.sl .u8)]⟩]) (MA:=λ(x:(List UInt8))=>Z0 fuel x) (MB:=λ_=>Qk fuel) Zdn Zdp rfl
def Zcg(F:Nat)(s:((List UInt8)×(List UInt8)×(List UInt8))):Option (((List UInt8)×(List UInt8)×(List UInt8))⊕((List UInt8)×(List UInt8)×(List UInt8))):=
 if((Int.tmod (s.2.2.length:Int) 64)!=56)=true then
  if(apB s.2.2.length 1 1)=true then
   some (.inl (s.1,s.2.1,s.2.2++([0]:List UInt8)))
  else
  none
 else
 some (.inr (s.1,s.2.1,s.2.2))
def Zpc:Lp:=⟨[(0,.v (.sl .u8)),(2,.ref 0 []),(3,.own 1 .u8)],[.var (.v (.arr 32 .u8)) true,.log .u8 5],[(.sl .u8),(.arr 32 .u8),(.sl .u8)],[⟨.exit 0,[(0,.v (.sl .u8)),(2,.ref 0 []),(3,.own 1 .u8)],[.var (.v (.arr 32 .u8)) true,.log .u8 5],[(.sl .u8),(.arr 32 .u8),(.sl .u8)]⟩],Zc (Zcg fuel) fuel⟩
theorem Zr6:Zpc.Ok ya (Zj ya 117) (Zm ya 117 0):=Zh (fi:={ hi:={ own:=[3,14,16,21,23,24,28,43],still:=[13,24,27,35,37,44,46]},lp:=[]}) (specs:={ l:=[]}) (okS trivial) trivial (by kernel_rfl) (λv=>by kernel_rfl)
def Qx(F:Nat)(s:(Int×Int×(List UInt8)×(List UInt8))):Option ((Int×Int×(List UInt8)×(List UInt8))⊕((List UInt8)×(List UInt8))):=
 if(decide (s.2.1 ≥ 0))=true then
  if(decide (0≤s.2.1))=true then
   if(apB s.2.2.1.length 1 1)=true then
    let y362:(List UInt8):=s.2.2.1++([w8 (Int.fdiv s.1 (2 ^ (min s.2.1.toNat 64)))]:List UInt8)
    some (.inl (s.1,wi (s.2.1 - 8),y362,s.2.2.2))
   else
   none
  else
  none
 else
 some (.inr (s.2.2.1,s.2.2.2))
def Zji:Lp:=⟨[(0,.own 0 .u8),(1,.v yI),(5,.v yI)],[.log .u8 5,.log .u8 5],[yI,yI,(.sl .u8),(.sl .u8)],[⟨.exit 0,[(0,.own 0 .u8)],[.log .u8 5,.log .u8 5],[(.sl .u8),(.sl .u8)]⟩],Zc (Qx fuel) fuel⟩
theorem ZnE:Zji.Ok ya (Zj ya 116) (Zm ya 116 0):=Zh (fi:={ hi:={ own:=[0,4,10,16,17]},lp:=[]}) (specs:={ l:=[]}) (okS trivial) trivial (by kernel_rfl) (λv=>by kernel_rfl)
def VE(F:Nat)(a1:Int)(s0:(List UInt8)):Option ((List UInt8)):=
 (Zc (Qx F) F (a1,(56:Int),s0,([]:List UInt8))).bind λo363=>
 some o363.1
def Zdq(F:Nat):Fs ya:=⟨116,[.own 0 .u8,.v yI],[.log .u8 5],[yI,(.sl .u8)],[⟨.ret,[(0,.own 0 .u8)],[.log .u8 5],[(.sl .u8)]⟩],λx=>VE F x.1 x.2⟩
def Zfb:Fs ya:=Zdq fuel
theorem Zdr:Zfb.Ok:=Zf (fi:={ hi:={ own:=[0,4,10,16,17]},lp:=[(0,Zji)]}) (specs:={ l:=[]}) (okS trivial) ⟨ZnE,trivial⟩ (by decide+kernel) (λx=>by kernel_rfl)
def Zch(F:Nat)(s:((List UInt8)×(List UInt8)×(List UInt8)×(List UInt32))):Option (((List UInt8)×(List UInt8)×(List UInt8)×(List UInt32))⊕((List UInt8)×(List UInt8)×(List UInt32))):=
 if(decide ((s.1.length:Int) ≥ 64))=true then
  if(Zat s.1.length none (some 64))=true then
   (Vu F s.2.2.2 (s.1.take 64)).bind λo366=>
   if(Zat s.1.length (some 64) none)=true then
    some (.inl (s.1.drop 64,s.2.1,s.2.2.1,o366))
   else
   none
  else
  none
 else
 some (.inr (s.2.1,s.2.2.1,s.2.2.2))
def Zpd:Lp:=⟨[(0,.v (.sl .u8)),(2,.ref 0 []),(3,.own 1 .u8),(4,.ref 2 [])],[.var (.v (.arr 32 .u8)) true,.log .u8 5,.var (.v (.arr 8 .u32)) true],[(.sl .u8),(.arr 32 .u8),(.sl .u8),(.arr 8 .u32)],[⟨.exit 2,[(2,.ref 0 []),(3,.own 1 .u8),(4,.ref 2 [])],[.var (.v (.arr 32 .u8)) true,.log .u8 5,.var (.v (.arr 8 .u32)) true],[(.arr 32 .u8),(.sl .u8),(.arr 8 .u32)]⟩],Zc (Zch fuel) fuel⟩
theorem Zr7:Zpd.Ok ya (Zj ya 117) (Zm ya 117 1):=Zh (fi:={ hi:={ own:=[3,14,16,21,23,24,28,43],still:=[13,24,27,35,37,44,46]},lp:=[]}) (specs:={ l:=[ZbT]}) (okS ⟨Zgg,trivial⟩) trivial (by kernel_rfl) (λv=>by kernel_rfl)
def Zci(F:Nat)(s:((List UInt8)×(List UInt8)×(List UInt8)×(List UInt32))):Option (((List UInt8)×(List UInt8)×(List UInt8)×(List UInt32))⊕((List UInt8)×(List UInt8)×(List UInt32))):=
 if(decide ((s.1.length:Int) > 0))=true then
  if(Zat s.1.length none (some 64))=true then
   (Vu F s.2.2.2 (s.1.take 64)).bind λo369=>
   if(Zat s.1.length (some 64) none)=true then
    some (.inl (s.1.drop 64,s.2.1,s.2.2.1,o369))
   else
   none
  else
  none
 else
 some (.inr (s.2.1,s.2.2.1,s.2.2.2))
def Zpe:Lp:=⟨[(2,.ref 0 []),(3,.v (.sl .u8)),(4,.ref 2 [])],[.var (.v (.arr 32 .u8)) true,.log .u8 5,.var (.v (.arr 8 .u32)) true],[(.sl .u8),(.arr 32 .u8),(.sl .u8),(.arr 8 .u32)],[⟨.exit 4,[(2,.ref 0 []),(4,.ref 2 [])],[.var (.v (.arr 32 .u8)) true,.log .u8 5,.var (.v (.arr 8 .u32)) true],[(.arr 32 .u8),(.sl .u8),(.arr 8 .u32)]⟩],Zc (Zci fuel) fuel⟩
theorem Zr8:Zpe.Ok ya (Zj ya 117) (Zm ya 117 2):=Zh (fi:={ hi:={ own:=[3,14,16,21,23,24,28,43],still:=[13,24,27,35,37,44,46]},lp:=[]}) (specs:={ l:=[ZbT]}) (okS ⟨Zgg,trivial⟩) trivial (by kernel_rfl) (λv=>by kernel_rfl)
def Zcj(F:Nat)(s:(Int×(List UInt8)×(List UInt8)×(List UInt32))):Option ((Int×(List UInt8)×(List UInt8)×(List UInt32))⊕((List UInt8)×(List UInt8)×(List UInt32))):=
 if(decide (s.1 < 32))=true then
  if(inB (wi (Int.tdiv s.1 4)) 8)=true then
   (s.2.2.2[(wi (Int.tdiv s.1 4)).toNat]?).bind λe371=>
   if(decide (0≤wi (24 - (wi (8*(Int.tmod s.1 4))))))=true then
    let y372:UInt32:=Zdy e371 (min (wi (24 - (wi (8*(Int.tmod s.1 4))))).toNat 32)
    if(inB s.1 32)=true then
     (s.2.1[s.1.toNat]?).bind λe373=>
     some (.inl (wi (s.1+1),s.2.1.set s.1.toNat (w8 (y372.toNat:Int)),s.2.2.1,s.2.2.2))
    else
    none
   else
   none
  else
  none
 else
 some (.inr (s.2.1,s.2.2.1,s.2.2.2))
def Zpf:Lp:=⟨[(2,.ref 0 []),(4,.ref 2 []),(48,.v yI)],[.var (.v (.arr 32 .u8)) true,.log .u8 5,.var (.v (.arr 8 .u32)) true],[yI,(.arr 32 .u8),(.sl .u8),(.arr 8 .u32)],[⟨.exit 6,[(2,.ref 0 [])],[.var (.v (.arr 32 .u8)) true,.log .u8 5,.var (.v (.arr 8 .u32)) true],[(.arr 32 .u8),(.sl .u8),(.arr 8 .u32)]⟩],Zc (Zcj fuel) fuel⟩
theorem Zr9:Zpf.Ok ya (Zj ya 117) (Zm ya 117 3):=Zh (fi:={ hi:={ own:=[3,14,16,21,23,24,28,43],still:=[13,24,27,35,37,44,46]},lp:=[]}) (specs:={ l:=[]}) (okS trivial) trivial (by kernel_rfl) (λv=>by kernel_rfl)
def Zfc(F:Nat)(a0:(List UInt8)):Option ((List UInt8)):=
 let y359:Int:=wi ((a0.length:Int) - (Int.tmod (a0.length:Int) 64))
 if(Zat a0.length (some y359) none)=true then
  (Z0 F (a0.drop y359.toNat)).bind λo360=>
  if(apB o360.length 1 1)=true then
   (Zc (Zcg F) F (a0,([0,0,0,0,0,0,0,0,0,0,0,0,0,0,0,0,0,0,0,0,0,0,0,0,0,0,0,0,0,0,0,0]:List UInt8),o360++([128]:List UInt8))).bind λo361=>
   (VE F (wi (8*(o361.1.length:Int))) o361.2.2).bind λo364=>
   (ZkH F).bind λo365=>
   (Zc (Zch F) F (o361.1,o361.2.1,o364,o365)).bind λo367=>
   (Zc (Zci F) F (o367.2.1,o367.1,o367.2.1,o367.2.2)).bind λo370=>
   (Zc (Zcj F) F ((0:Int),o370.1,o370.2.1,o370.2.2)).bind λo374=>
   some o374.1
  else
  none
 else
 none
def Zin(F:Nat):Fs ya:=⟨117,[.v (.sl .u8)],[],[(.sl .u8)],[⟨.ret,[(0,.v (.arr 32 .u8))],[],[(.arr 32 .u8)]⟩],λx=>Zfc F x⟩
def ZA8:Fs ya:=Zin fuel
theorem ZyV:ZA8.Ok:=Zf (fi:={ hi:={ own:=[3,14,16,21,23,24,28,43],still:=[13,24,27,35,37,44,46]},lp:=[(0,Zpc),(1,Zpd),(2,Zpe),(3,Zpf)]}) (specs:={ l:=[Zfb,W6,Zo9]}) (okS ⟨Zdr,ZbV,Zv0,trivial⟩) ⟨Zr6,Zr7,Zr8,Zr9,trivial⟩ (by decide+kernel) (λx=>by kernel_rfl)
end
end Go.Proofs.YtmkgbalfkhaflaaGreat
end
section
namespace Go.Sha
open Go.Ev
noncomputable def QT{α:Type}(n:Nat)(k:Nat→α):α:=Nat.rec (motive:=λ_=>α) (k 0) (λm _=>k (Nat.succ m)) n
theorem XB{α:Type}(n:Nat)(k:Nat→α):QT n k=k n:=by cases n <;> rfl
def dbl(x:Nat):Nat:=Nat.mul x 4294967297
def s0(x:Nat):Nat:=Nat.xor (Nat.xor (yae (dbl x) 7) (yae (dbl x) 18)) (yae x 3)
def s1(x:Nat):Nat:=Nat.xor (Nat.xor (yae (dbl x) 17) (yae (dbl x) 19)) (yae x 10)
def S0(x:Nat):Nat:=Nat.xor (Nat.xor (yae (dbl x) 2) (yae (dbl x) 13)) (yae (dbl x) 22)
def S1(x:Nat):Nat:=Nat.xor (Nat.xor (yae (dbl x) 6) (yae (dbl x) 11)) (yae (dbl x) 25)
def ch(e f g:Nat):Nat:=Nat.xor g (Nat.land e (Nat.xor f g))
def mj(a b c:Nat):Nat:=Nat.lor (Nat.land a b) (Nat.land c (Nat.lor a b))
def lo(x:Nat):Nat:=Nat.mod x 4294967296
def kw(W:Nat):Nat:=lo (yq (yq (yq (yae W 480) (s0 (lo (yae W 448)))) (lo (yae W 192))) (s1 (lo (yae W 32))))
def kn(W:Nat):Nat:=Nat.mod (yq (Nat.mul W 4294967296) (kw W)) (Nat.pow 2 512)
noncomputable def kst(k:Nat)(ih:Nat→Nat→Nat→Nat→Nat→Nat→Nat→Nat→Nat→Nat)(W a b c d e f g h:Nat):Nat:=
 QT (yq (yq (yq (yq h (S1 e)) (ch e f g)) k) (yae W 480)) λt=>
     QT (lo (yq (yq t (S0 a)) (mj a b c))) λa'=>QT (lo (yq d t)) λe'=>QT (kn W) λW'=>ih W' a' a b c e' e f g
noncomputable def kgo(ks:List Nat)(K:Nat→Nat→Nat→Nat→Nat→Nat→Nat→Nat→Nat):Nat→Nat→Nat→Nat→Nat→Nat→Nat→Nat→Nat→Nat:=
 List.rec (motive:=λ_=>Nat→Nat→Nat→Nat→Nat→Nat→Nat→Nat→Nat→Nat) (λ_=>K) (λk _ ih=>kst k ih) ks
def ks:List Nat:=[1116352408,1899447441,3049323471,3921009573,961987163,1508970993,2453635748,2870763221,3624381080,310598401,607225278,1426881987,1925078388,2162078206,2614888103,3248222580,3835390401,4022224774,264347078,604807628,770255983,1249150122,1555081692,1996064986,2554220882,2821834349,2952996808,3210313671,3336571891,3584528711,113926993,338241895,666307205,773529912,1294757372,1396182291,1695183700,1986661051,2177026350,2456956037,2730485921,2820302411,3259730800,3345764771,3516065817,3600352804,4094571909,275423344,430227734,506948616,659060556,883997877,958139571,1322822218,1537002063,1747873779,1955562222,2024104815,2227730452,2361852424,2428436474,2756734187,3204031479,3329325298]
def w32(H i:Nat):Nat:=lo (yae H i)
def cat(H x:Nat):Nat:=yq (Nat.mul H 4294967296) (lo x)
noncomputable def ZJL(H B:Nat):Nat:=
 QT (w32 H 224) λa=>QT (w32 H 192) λb=>QT (w32 H 160) λc=>QT (w32 H 128) λd=>QT (w32 H 96) λe=>QT (w32 H 64) λf=>QT (w32 H 32) λg=>QT (w32 H 0) λh=>
  kgo ks (λa' b' c' d' e' f' g' h'=>cat (cat (cat (cat (cat (cat (cat (cat 0 (yq a' a)) (yq b' b)) (yq c' c)) (yq d' d)) (yq e' e)) (yq f' f)) (yq g' g)) (yq h' h)) B a b c d e f g h
noncomputable def pk(l:List Nat)(n:Nat):Nat:=List.rec (motive:=λ_=>Nat→Nat) (λn=>n) (λx _ ih n=>QT (yq (Nat.mul n 256) x) ih) l n
noncomputable def ZLw(n:Nat)(l:List Nat)(H:Nat):Nat:=
 Nat.rec (motive:=λ_=>List Nat→Nat→Nat) (λ_ H=>H) (λ_ ih l H=>QT (ZJL H (pk (l.take 64) 0)) λH'=>ih (l.drop 64) H') n l H
noncomputable def ZJM(H:Nat)(l:List Nat):List UInt8:=List.rec (motive:=λ_=>List UInt8) [] (λs _ ih=>QT (Nat.mod (yae H s) 256) λx=>yaq x::ih) l
def ZC2:List Nat:=[248,240,232,224,216,208,200,192,184,176,168,160,152,144,136,128,120,112,104,96,88,80,72,64,56,48,40,32,24,16,8,0]
def be8(n:Nat):List Nat:=[n / 2 ^ 56 % 256,n / 2 ^ 48 % 256,n / 2 ^ 40 % 256,n / 2 ^ 32 % 256,n / 2 ^ 24 % 256,n / 2 ^ 16 % 256,n / 2 ^ 8 % 256,n % 256]
def zs(n:Nat):Nat:=(119 - n % 64) % 64
def H0:Nat:=cat (cat (cat (cat (cat (cat (cat (cat 0 1779033703) 3144134277) 1013904242) 2773480762) 1359893119) 2600822924) 528734635) 1541459225
noncomputable def sha(l:List UInt8):List UInt8:=
 QT l.length λn=>QT (ZLw (Nat.div (yq n 72) 64) (l.map yai++(128::(yx (zs n) 0++be8 (8*n)))) H0) λH=>ZJM H ZC2
theorem QE(x y:UInt32):(x+y).toNat=lo (x.toNat+y.toNat):=by rw[UInt32.toNat_add];rfl
theorem ZmV(x y:UInt32):(x^^^y).toNat=Nat.xor x.toNat y.toNat:=UInt32.toNat_xor ..
theorem ZH2(x y:UInt32):(x&&&y).toNat=Nat.land x.toNat y.toNat:=UInt32.toNat_and ..
theorem ZyW(x y:UInt32):(x|||y).toNat=Nat.lor x.toNat y.toNat:=UInt32.toNat_or ..
theorem ZLx(x:UInt32):x.toNat < 4294967296:=x.toNat_lt
theorem Zw6(x:UInt32)(n:Nat):(Zdy x n).toNat=yae x.toNat n:=by
 unfold Zdy;rw[ycl,show yae x.toNat n=x.toNat >>> n from rfl,ycx]
 exact yaj (Nat.lt_of_le_of_lt (Nat.div_le_self _ _) (ZLx x))
theorem ZKf(x:Nat):lo x < 4294967296:=ybc _ (by omega)
theorem Zbi{x:Nat}(h:x < 4294967296):lo x=x:=yaj h
theorem ZKg(x:UInt32){n k:Nat}(h:n+k=32)(hn:0 < n):(Zal x k|||Zdy x n).toNat=lo (yae (dbl x.toNat) n):=by
 rw[ZyW,Zw6];unfold Zal;have hx:=ZLx x;generalize x.toNat=m at hx;have hp:2 ^ n*2 ^ k=4294967296:=by rw[←Nat.pow_add,h]
 rw[ycl,show yae m n=m >>> n from rfl,ycx,show yae (dbl m) n=(dbl m) >>> n from rfl,ycx]
 have e1:m*2 ^ k % 2 ^ 32=2 ^ k*(m % 2 ^ n):=by
  rw[show(2:Nat) ^ 32=2 ^ n*2 ^ k from hp.symm,Nat.mul_mod_mul_right]
  exact ybi ..
 have hd:m / 2 ^ n < 2 ^ k:=by
  rw[Nat.div_lt_iff_lt_mul (Nat.two_pow_pos n),ybi,hp];exact hx
 rw[e1,show Nat.lor (2 ^ k*(m % 2 ^ n)) (m / 2 ^ n)=2 ^ k*(m % 2 ^ n)|||m / 2 ^ n from rfl, ←ycu hd]
 have e2:dbl m=2 ^ n*(m*2 ^ k)+m:=by
  unfold dbl;rw[Nat.mul_left_comm,hp,show Nat.mul m 4294967297=m*4294967297 from rfl]
  omega
 rw[e2,Nat.mul_add_div (Nat.two_pow_pos n)];unfold lo;rw[show Nat.mod (m*2 ^ k+m / 2 ^ n) 4294967296=(m*2 ^ k+m / 2 ^ n) % 4294967296 from rfl,Nat.add_mod,show m*2 ^ k % 4294967296=2 ^ k*(m % 2 ^ n) from e1,yaj (a:=m / 2 ^ n) (b:=4294967296) (by rw[←hp];exact Nat.lt_of_lt_of_le hd (Nat.le_mul_of_pos_left _ (Nat.two_pow_pos n)))]
 refine(yaj ?_).symm;have hm:m % 2 ^ n < 2 ^ n:=ybc _ (Nat.two_pow_pos n)
 calc 2 ^ k*(m % 2 ^ n)+m / 2 ^ n < 2 ^ k*(m % 2 ^ n)+2 ^ k:=by omega
  _=2 ^ k*(m % 2 ^ n+1):=by rw[Nat.mul_add,Nat.mul_one]
  _≤2 ^ k*2 ^ n:=Nat.mul_le_mul_left _ hm
  _=4294967296:=by rw[ybi,hp]
theorem ZkM(x y:Nat):lo (Nat.xor x y)=Nat.xor (lo x) (lo y):=Nat.xor_mod_two_pow (n:=32)
theorem ZH3(x:UInt32)(n:Nat):lo (yae x.toNat n)=yae x.toNat n:=by
 rw[←Zw6];exact Zbi (ZLx _)
theorem ZMl(x:UInt32){a b:UInt32}(ha:a.toNat=lo (yae (dbl x.toNat) 7))(hb:b.toNat=lo (yae (dbl x.toNat) 18)):((a^^^b)^^^Zdy x 3).toNat=lo (s0 x.toNat):=by
 unfold s0;rw[ZmV,ZmV,Zw6,ha,hb,ZkM,ZkM,ZH3]
theorem ZMm(x:UInt32){a b:UInt32}(ha:a.toNat=lo (yae (dbl x.toNat) 17))(hb:b.toNat=lo (yae (dbl x.toNat) 19)):((a^^^b)^^^Zdy x 10).toNat=lo (s1 x.toNat):=by
 unfold s1;rw[ZmV,ZmV,Zw6,ha,hb,ZkM,ZkM,ZH3]
theorem ZMn(x:UInt32){a b c:UInt32}(ha:a.toNat=lo (yae (dbl x.toNat) 2))(hb:b.toNat=lo (yae (dbl x.toNat) 13))(hc:c.toNat=lo (yae (dbl x.toNat) 22)):((a^^^b)^^^c).toNat=lo (S0 x.toNat):=by
 unfold S0;rw[ZmV,ZmV,ha,hb,hc,ZkM,ZkM]
theorem ZMo(x:UInt32){a b c:UInt32}(ha:a.toNat=lo (yae (dbl x.toNat) 6))(hb:b.toNat=lo (yae (dbl x.toNat) 11))(hc:c.toNat=lo (yae (dbl x.toNat) 25)):((a^^^b)^^^c).toNat=lo (S1 x.toNat):=by
 unfold S1;rw[ZmV,ZmV,ha,hb,hc,ZkM,ZkM]
theorem ZMp(e f g:UInt32):(g^^^(e&&&(f^^^g))).toNat=ch e.toNat f.toNat g.toNat:=by
 unfold ch;rw[ZmV,ZH2,ZmV]
theorem ZMq(a b c:UInt32):((a&&&b)|||(c&&&(a|||b))).toNat=mj a.toNat b.toNat c.toNat:=by
 unfold mj;rw[ZyW,ZH2,ZH2,ZyW]
theorem ZMr(a b c d:Nat):lo (lo (lo (a+lo b)+c)+lo d)=lo (a+b+c+d):=by
 show(((a+b % 4294967296) % 4294967296+c) % 4294967296+d % 4294967296) % 4294967296=(a+b+c+d) % 4294967296;omega
theorem ZMs(a b c d e:Nat):lo (lo (lo (lo (a+lo b)+c)+d)+e)=lo (yq (yq (yq (yq a b) c) d) e):=by
 show((((a+b % 4294967296) % 4294967296+c) % 4294967296+d) % 4294967296+e) % 4294967296=(a+b+c+d+e) % 4294967296;omega
theorem ZMt(t s m:Nat):lo (lo (lo t+lo s)+m)=lo (yq (yq t s) m):=by
 show((t % 4294967296+s % 4294967296) % 4294967296+m) % 4294967296=(t+s+m) % 4294967296;omega
theorem ZMu(d t:Nat):lo (d+lo t)=lo (yq d t):=by
 show(d+t % 4294967296) % 4294967296=(d+t) % 4294967296;omega
def pw(n:Nat)(l:List Nat):Nat:=l.foldl (λn x=>n*4294967296+x) n
theorem ZC3:∀(l:List Nat)(n:Nat),(∀x,x∈l→x < 4294967296)→pw n l / 2 ^ (32*l.length)=n
 |[],n,_=>by simp[pw]
 |x::r,n,h=>by
  have ih:=ZC3 r (n*4294967296+x) (λy hy=>h y (List.mem_cons_of_mem _ hy));have hx:=h x (List.mem_cons_self ..);rw[show pw n (x::r)=pw (n*4294967296+x) r from rfl,yad,show 32*(r.length+1)=32*r.length+32 by omega,Nat.pow_add, ←Nat.div_div_eq_div_mul,ih]
  omega
theorem Zpg:∀(l:List Nat)(n:Nat),pw n l=n*2 ^ (32*l.length)+pw 0 l
 |[],n=>by simp[pw]
 |x::r,n=>by
  rw[show pw n (x::r)=pw (n*4294967296+x) r from rfl,show pw 0 (x::r)=pw (0*4294967296+x) r from rfl,Zpg r (n*4294967296+x),Zpg r (0*4294967296+x),yad,show 32*(r.length+1)=32+32*r.length by omega,Nat.pow_add,Nat.zero_mul,
   ybb,Nat.add_mul, ←Nat.mul_assoc,Nat.add_assoc]
theorem ZKh:∀(l:List Nat),(∀x,x∈l→x < 4294967296)→pw 0 l < 2 ^ (32*l.length)
 |[],_=>by simp[pw]
 |x::r,h=>by
  have ih:=ZKh r (λy hy=>h y (List.mem_cons_of_mem _ hy));have hx:=h x (List.mem_cons_self ..);rw[show pw 0 (x::r)=pw (0*4294967296+x) r from rfl,Zpg,yad,show 32*(r.length+1)=32+32*r.length by omega,Nat.pow_add,Nat.zero_mul,ybb]
  have:(x+1)*2 ^ (32*r.length)≤2 ^ 32*2 ^ (32*r.length):=Nat.mul_le_mul_right _ (by omega);rw[Nat.add_mul,Nat.one_mul] at this;omega
theorem ZKi{n x s:Nat}{r:List Nat}(h:∀y,y∈r→y < 4294967296)(hs:s=32*r.length):yae (pw n (x::r)) s=n*4294967296+x:=by
 subst hs;rw[show yae (pw n (x::r)) (32*r.length)=pw n (x::r) >>> (32*r.length) from rfl,ycx]
 exact ZC3 r (n*4294967296+x) h
theorem ZKj{n x s:Nat}{r:List Nat}(hx:x < 4294967296)(h:∀y,y∈r→y < 4294967296)(hs:s=32*r.length):lo (yae (pw n (x::r)) s)=x:=by
 rw[ZKi h hs];show(n*4294967296+x) % 4294967296=x;omega
theorem ZC4(n:Nat)(l r:List Nat):pw n (l++r)=pw (pw n l) r:=List.foldl_append ..
theorem ZEj(n x:Nat)(r:List Nat):pw n (x::r)=pw (n*4294967296+x) r:=rfl
theorem Zgh{v l r:List Nat}{x s:Nat}(e:v=l++x::r)(h:∀y,y∈v→y < 4294967296)(hs:s=32*r.length):lo (yae (pw 0 v) s)=x:=by
 rw[e] at h ⊢;rw[ZC4];exact ZKj (h x (by simp)) (λy hy=>h y (by simp[hy])) hs
def wd(ws:List Nat)(n:Nat):Nat:=if h:n < 16 then lo (ws.getD n 0) else lo (wd ws (n - 16)+s0 (wd ws (n - 15))+wd ws (n - 7)+s1 (wd ws (n - 2)))
termination_by n
decreasing_by all_goals omega
theorem ZMv(ws:List Nat)(n:Nat):wd ws n < 4294967296:=by
 rw[wd];split <;> exact ZKf _
theorem ZyX(ws:List Nat)(n:Nat):wd ws (n+16)=lo (wd ws n+s0 (wd ws (n+1))+wd ws (n+9)+s1 (wd ws (n+14))):=by
 rw[wd,dif_neg (by omega)];simp only[Nat.add_sub_cancel,show n+16 - 15=n+1 by omega,show n+16 - 7=n+9 by omega,show n+16 - 2=n+14 by omega]
def win(ws:List Nat)(i:Nat):List Nat:=[wd ws i,wd ws (i+1),wd ws (i+2),wd ws (i+3),wd ws (i+4),wd ws (i+5),wd ws (i+6),wd ws (i+7),wd ws (i+8),wd ws (i+9),wd ws (i+10),wd ws (i+11),wd ws (i+12),wd ws (i+13),wd ws (i+14),wd ws (i+15)]
theorem ZC5{ws:List Nat}{i:Nat}{l:List Nat}(h:∀x,x∈l→∃j,x=wd ws j):∀x,x∈l→x < 4294967296:=λx hx=>by
 obtain⟨j,rfl⟩:=h x hx;exact ZMv _ _
theorem ZEk(ws:List Nat)(i:Nat):yae (pw 0 (win ws i)) 480=wd ws i:=by
 have h:=ZKi (n:=0) (x:=wd ws i) (s:=480) (r:=(win ws i).tail) (ZC5 (ws:=ws) (i:=i) (λx hx=>by
  simp only[win,List.tail_cons,ybz,List.not_mem_nil,or_false] at hx;rcases hx with h|h|h|h|h|h|h|h|h|h|h|h|h|h|h <;> exact⟨_,h⟩)) rfl
 rw[Nat.zero_mul,ybb] at h;exact h
theorem ZLy(ws:List Nat)(i:Nat):kw (pw 0 (win ws i))=wd ws (i+16):=by
 have key:∀(l r:List Nat)(x s:Nat),win ws i=l++x::r→s=32*r.length→lo (yae (pw 0 (win ws i)) s)=x:=by
  intro l r x s e hs
  have hall:∀y,y∈win ws i→y < 4294967296:=ZC5 (i:=i) λx hx=>by
   simp only[win,ybz,List.not_mem_nil,or_false] at hx;rcases hx with h|h|h|h|h|h|h|h|h|h|h|h|h|h|h|h <;> exact⟨_,h⟩
  rw[e] at hall ⊢;rw[ZC4];exact ZKj (hall x (by simp)) (λy hy=>hall y (by simp[hy])) hs
 unfold kw;rw[ZEk,key [_] _ (wd ws (i+1)) 448 rfl rfl,key [_,_,_,_,_,_,_,_,_] _ (wd ws (i+9)) 192 rfl rfl,key [_,_,_,_,_,_,_,_,_,_,_,_,_,_] _ (wd ws (i+14)) 32 rfl rfl,ZyX];rfl
theorem ZJN(a b m:Nat)(h:b < 2 ^ m):Nat.mod (a*2 ^ m+b) (Nat.pow 2 m)=b:=by
 show(a*2 ^ m+b) % 2 ^ m=b;rw[ybi,Nat.mul_add_mod];exact yaj h
theorem ZLz(ws:List Nat)(i:Nat):kn (pw 0 (win ws i))=pw 0 (win ws (i+1)):=by
 have e:yq (Nat.mul (pw 0 (win ws i)) 4294967296) (kw (pw 0 (win ws i)))=pw (wd ws i) (win ws (i+1)):=by
  rw[ZLy];show pw 0 (win ws i)*4294967296+wd ws (i+16)=pw (wd ws i) (win ws (i+1));rw[show wd ws i=0*4294967296+wd ws i by omega];rfl
 unfold kn;rw[e,Zpg];have hl:(win ws (i+1)).length=16:=rfl
 have hlt:=ZKh (win ws (i+1)) (ZC5 (i:=i+1) λx hx=>by
  simp only[win,ybz,List.not_mem_nil,or_false] at hx;rcases hx with h|h|h|h|h|h|h|h|h|h|h|h|h|h|h|h <;> exact⟨_,h⟩)
 rw[show 512=32*(win ws (i+1)).length by rw[hl]];exact ZJN _ _ _ hlt
def rnd(v:List Nat)(k w:Nat):List Nat:=match v with
 |[a,b,c,d,e,f,g,h]=>[lo (yq (yq (yq (yq (yq (yq h (S1 e)) (ch e f g)) k) w) (S0 a)) (mj a b c)),a,b,c,lo (yq d (yq (yq (yq (yq h (S1 e)) (ch e f g)) k) w)),e,f,g]
 |_=>[]
def rs(ws v:List Nat):Nat→List Nat
 |0=>v
 |i+1=>rnd (rs ws v i) (ks.getD i 0) (wd ws i)
theorem ZJO{v:List Nat}(h:v.length=8)(k w:Nat):(rnd v k w).length=8:=by
 match v,h with
 |[a,b,c,d,e,f,g,h],_=>rfl
theorem ZyY{ws v:List Nat}(h:v.length=8):∀i,(rs ws v i).length=8
 |0=>h
 |i+1=>ZJO (ZyY h i) _ _
noncomputable def ZH4(f:Nat→Nat→Nat→Nat→Nat→Nat→Nat→Nat→Nat)(v:List Nat):Nat:=match v with
 |[a,b,c,d,e,f',g,h]=>f a b c d e f' g h
 |_=>0
theorem ZlQ{F:Nat→Nat→Nat→Nat→Nat→Nat→Nat→Nat→Nat}{a b c d e f g h:Nat}:ZH4 F [a,b,c,d,e,f,g,h]=F a b c d e f g h:=rfl
theorem ZH5(k:Nat)(l:List Nat)(K:Nat→Nat→Nat→Nat→Nat→Nat→Nat→Nat→Nat):kgo (k::l) K=kst k (kgo l K):=rfl
theorem ZuE(a b c d e f g h k w:Nat):rnd [a,b,c,d,e,f,g,h] k w=[lo (yq (yq (yq (yq (yq (yq h (S1 e)) (ch e f g)) k) w) (S0 a)) (mj a b c)),a,b,c,lo (yq d (yq (yq (yq (yq h (S1 e)) (ch e f g)) k) w)),e,f,g]:=rfl
theorem ZLA(k:Nat)(ih:Nat→Nat→Nat→Nat→Nat→Nat→Nat→Nat→Nat→Nat)(W a b c d e f g h:Nat):kst k ih W a b c d e f g h=
 ih (kn W) (lo (yq (yq (yq (yq (yq (yq h (S1 e)) (ch e f g)) k) (yae W 480)) (S0 a)) (mj a b c))) a b c (lo (yq d (yq (yq (yq (yq h (S1 e)) (ch e f g)) k) (yae W 480)))) e f g:=by
 unfold kst;rw[XB,XB,XB,XB]
theorem ZH6{ws v:List Nat}{K:Nat→Nat→Nat→Nat→Nat→Nat→Nat→Nat→Nat}{k w:Nat}{l:List Nat}(hv:v.length=8){W:Nat}(hW:yae W 480=w):ZH4 (kgo (k::l) K W) v=ZH4 (kgo l K (kn W)) (rnd v k w):=by
 match v,hv with
 |[a,b,c,d,e,f,g,h],_=>
  rw[ZH5,ZlQ,ZLA,hW,ZuE,ZlQ]
theorem ZEl{ws v:List Nat}{K:Nat→Nat→Nat→Nat→Nat→Nat→Nat→Nat→Nat}(hv:v.length=8):∀(m i:Nat),i+m=64→ZH4 (kgo (ks.drop i) K (pw 0 (win ws i))) (rs ws v i)=ZH4 K (rs ws v 64)
 |0,i,h=>by
  have e:i=64:=by omega
  subst e;rw[show ks.drop 64=[] from rfl]
  generalize pw 0 (win ws 64)=W
  rfl
 |m+1,i,h=>by
  have hi:i < ks.length:=by show i < 64;omega
  rw[List.drop_eq_getElem_cons hi,ZH6 (ws:=ws) (ZyY hv i) (ZEk ws i),ZLz];have:=ZEl (ws:=ws) (K:=K) hv m (i+1) (by omega);rw[show rs ws v (i+1)=rnd (rs ws v i) (ks.getD i 0) (wd ws i) from rfl,show ks.getD i 0=ks[i] by rw[yct,yac hi];rfl] at this
  exact this
def Zio(v ws:List Nat):List Nat:=List.zipWith (λx y=>lo (x+y)) (rs ws v 64) v
theorem Zfd{v ws:List Nat}(h:v.length=8):(Zio v ws).length=8:=by
 rw[Zio,List.length_zipWith,ZyY h,h];rfl
theorem ZEm{v ws:List Nat}:∀x,x∈Zio v ws→x < 4294967296:=by
 intro x hx;unfold Zio at hx;rw[List.mem_iff_getElem] at hx;obtain⟨i,hi,rfl⟩:=hx;rw[List.getElem_zipWith];exact ZKf _
theorem ZJP{v ws:List Nat}(hv:v.length=8)(hlt:∀x,x∈v→x < 4294967296)(hw:ws.length=16)(hwl:∀x,x∈ws→x < 4294967296):ZJL (pw 0 v) (pw 0 ws)=pw 0 (Zio v ws):=by
 have e0:ws=win ws 0:=by
  match ws,hw with
  |[a0,a1,a2,a3,a4,a5,a6,a7,a8,a9,a10,a11,a12,a13,a14,a15],_=>
   simp only[ybz,List.not_mem_nil,or_false,forall_eq_or_imp,forall_eq] at hwl;obtain⟨h0,h1,h2,h3,h4,h5,h6,h7,h8,h9,h10,h11,h12,h13,h14,h15⟩:=hwl;have hs:∀n,n < 16→wd [a0,a1,a2,a3,a4,a5,a6,a7,a8,a9,a10,a11,a12,a13,a14,a15] n=lo ([a0,a1,a2,a3,a4,a5,a6,a7,a8,a9,a10,a11,a12,a13,a14,a15].getD n 0):=λn hn=>by rw[wd,dif_pos hn]
   unfold win;rw[hs 0 (by omega),hs (0+1) (by omega),hs (0+2) (by omega),hs (0+3) (by omega),hs (0+4) (by omega),hs (0+5) (by omega),hs (0+6) (by omega),hs (0+7) (by omega),hs (0+8) (by omega),hs (0+9) (by omega),hs (0+10) (by omega),hs (0+11) (by omega),hs (0+12) (by omega),hs (0+13) (by omega),hs (0+14) (by omega),hs (0+15) (by omega)];show _=[lo a0,lo a1,lo a2,lo a3,lo a4,lo a5,lo a6,lo a7,lo a8,lo a9,lo a10,lo a11,lo a12,lo a13,lo a14,lo a15];rw[Zbi h0,Zbi h1,Zbi h2,Zbi h3,Zbi h4,Zbi h5,Zbi h6,Zbi h7,Zbi h8,Zbi h9,Zbi h10,Zbi h11,Zbi h12,Zbi h13,Zbi h14,Zbi h15]
 match v,hv with
 |[a,b,c,d,e,f,g,h],hv=>
  have ea:w32 (pw 0 [a,b,c,d,e,f,g,h]) 224=a:=Zgh (l:=[]) (r:=[b,c,d,e,f,g,h]) rfl hlt rfl;have eb:w32 (pw 0 [a,b,c,d,e,f,g,h]) 192=b:=Zgh (l:=[a]) (r:=[c,d,e,f,g,h]) rfl hlt rfl;have ec:w32 (pw 0 [a,b,c,d,e,f,g,h]) 160=c:=Zgh (l:=[a,b]) (r:=[d,e,f,g,h]) rfl hlt rfl;have ed:w32 (pw 0 [a,b,c,d,e,f,g,h]) 128=d:=Zgh (l:=[a,b,c]) (r:=[e,f,g,h]) rfl hlt rfl;have ee:w32 (pw 0 [a,b,c,d,e,f,g,h]) 96=e:=Zgh (l:=[a,b,c,d]) (r:=[f,g,h]) rfl hlt rfl;have ef:w32 (pw 0 [a,b,c,d,e,f,g,h]) 64=f:=Zgh (l:=[a,b,c,d,e]) (r:=[g,h]) rfl hlt rfl;have eg:w32 (pw 0 [a,b,c,d,e,f,g,h]) 32=g:=Zgh (l:=[a,b,c,d,e,f]) (r:=[h]) rfl hlt rfl;have eh:w32 (pw 0 [a,b,c,d,e,f,g,h]) 0=h:=Zgh (l:=[a,b,c,d,e,f,g]) (r:=[]) rfl hlt rfl;unfold ZJL;rw[ea,eb,ec,ed,ee,ef,eg,eh,XB,XB,XB,XB,XB,XB,XB,XB];have hr:=ZEl (ws:=ws) (v:=[a,b,c,d,e,f,g,h]) (K:=λa' b' c' d' e' f' g' h'=>cat (cat (cat (cat (cat (cat (cat (cat 0 (yq a' a)) (yq b' b)) (yq c' c)) (yq d' d)) (yq e' e)) (yq f' f)) (yq g' g)) (yq h' h)) rfl 64 0 rfl;rw[←e0,show ks.drop 0=ks from rfl,show rs ws [a,b,c,d,e,f,g,h] 0=[a,b,c,d,e,f,g,h] from rfl,ZlQ] at hr
  rw[hr];unfold Zio;generalize rs ws [a,b,c,d,e,f,g,h] 64=q,ZyY (ws:=ws) hv 64=hq
  match q,hq with
  |[a',b',c',d',e',f',g',h'],_=>
   rw[ZlQ];simp only[List.zipWith_cons_cons,List.zipWith_nil_right,ZEj,cat];rfl
theorem ZsD(x:Nat)(l:List Nat)(n:Nat):pk (x::l) n=pk l (n*256+x):=by
 show QT (yq (Nat.mul n 256) x) (pk l)=_;rw[XB];rfl
def Z2:List Nat→List Nat
 |a::b::c::d::r=>(((a*256+b)*256+c)*256+d)::Z2 r
 |_=>[]
theorem ZA9:∀(m:Nat)(l:List Nat)(n:Nat),l.length=4*m→pk l n=pw n (Z2 l)
 |0,[],n,_=>rfl
 |0,_::_,_,h=>by simp at h
 |m+1,[],_,h=>by simp at h
 |m+1,[_],_,h=>by simp at h;omega
 |m+1,[_,_],_,h=>by simp at h;omega
 |m+1,[_,_,_],_,h=>by simp at h;omega
 |m+1,a::b::c::d::r,n,h=>by
  rw[ZsD,ZsD,ZsD,ZsD,Z2];rw[ZA9 m r _ (by simp at h;omega),ZEj];have e:(((n*256+a)*256+b)*256+c)*256+d=n*4294967296+(((a*256+b)*256+c)*256+d):=by omega
  rw[e]
theorem Zrw:∀(m:Nat)(l:List Nat),l.length=4*m→(Z2 l).length=m
 |0,[],_=>rfl
 |0,_::_,h=>by simp at h
 |m+1,[],h=>by simp at h
 |m+1,[_],h=>by simp at h;omega
 |m+1,[_,_],h=>by simp at h;omega
 |m+1,[_,_,_],h=>by simp at h;omega
 |m+1,a::b::c::d::r,h=>by
  rw[Z2,yad,Zrw m r (by simp at h;omega)]
theorem ZuF:∀(m:Nat)(l:List Nat),l.length=4*m→(∀x,x∈l→x < 256)→∀x,x∈Z2 l→x < 4294967296
 |0,[],_,_,x,hx=>by simp[Z2] at hx
 |0,_::_,h,_,_,_=>by simp at h
 |m+1,[],h,_,_,_=>by simp at h
 |m+1,[_],h,_,_,_=>by simp at h;omega
 |m+1,[_,_],h,_,_,_=>by simp at h;omega
 |m+1,[_,_,_],h,_,_,_=>by simp at h;omega
 |m+1,a::b::c::d::r,h,hl,x,hx=>by
  rw[Z2] at hx;have h1:=hl a (by simp);have h2:=hl b (by simp);have h3:=hl c (by simp);have h4:=hl d (by simp);rcases ybz.1 hx with rfl|hx
  ·omega
  ·exact ZuF m r (by simp at h;omega) (λy hy=>hl y (by simp[hy])) x hx
theorem ZkN:∀(i:Nat)(l:List Nat)(a b c d:Nat),l[4*i]? =some a→l[4*i+1]? =some b→l[4*i+2]? =some c→l[4*i+3]? =some d→(Z2 l)[i]? =some (((a*256+b)*256+c)*256+d)
 |0,[],_,_,_,_,h,_,_,_=>by simp at h
 |0,[_],_,_,_,_,_,h,_,_=>by simp at h
 |0,[_,_],_,_,_,_,_,_,h,_=>by simp at h
 |0,[_,_,_],_,_,_,_,_,_,_,h=>by simp at h
 |0,a::b::c::d::r,_,_,_,_,h1,h2,h3,h4=>by
  simp at h1 h2 h3 h4;subst h1 h2 h3 h4
  rfl
 |i+1,[],_,_,_,_,h,_,_,_=>by simp at h
 |i+1,[_],_,_,_,_,h,_,_,_=>by simp[show 4*(i+1)=4*i+3+1 by omega] at h
 |i+1,[_,_],_,_,_,_,h,_,_,_=>by simp[show 4*(i+1)=4*i+2+1+1 by omega] at h
 |i+1,[_,_,_],_,_,_,_,h,_,_,_=>by simp[show 4*(i+1)=4*i+1+1+1+1 by omega] at h
 |i+1,a::b::c::d::r,_,_,_,_,h1,h2,h3,h4=>by
  rw[Z2,yav]
  exact ZkN i r _ _ _ _ (by simpa[show 4*(i+1)=4*i+1+1+1+1 by omega] using h1) (by simpa[show 4*(i+1)+1=4*i+1+1+1+1+1 by omega] using h2)
   (by simpa[show 4*(i+1)+2=4*i+2+1+1+1+1 by omega] using h3) (by simpa[show 4*(i+1)+3=4*i+3+1+1+1+1 by omega] using h4)
def Zfe:Nat→List Nat→List Nat→List Nat
 |0,_,v=>v
 |n+1,l,v=>Zfe n (l.drop 64) (Zio v (Z2 (l.take 64)))
theorem ZEn:∀(n:Nat)(l v:List Nat),l.length=64*n→(∀x,x∈l→x < 256)→v.length=8→(∀x,x∈v→x < 4294967296)→ZLw n l (pw 0 v)=pw 0 (Zfe n l v)
 |0,l,v,_,_,_,_=>rfl
 |n+1,l,v,h1,h2,h3,h4=>by
  show QT (ZJL (pw 0 v) (pk (l.take 64) 0)) (ZLw n (l.drop 64))=_;have hl:(l.take 64).length=4*16:=by rw[yag];omega
  rw[XB,ZA9 16 _ 0 hl,ZJP h3 h4 (Zrw 16 _ hl) (ZuF 16 _ hl λx hx=>h2 x (List.mem_of_mem_take hx))];exact ZEn n (l.drop 64) _ (by rw[ybs];omega) (λx hx=>h2 x (List.mem_of_mem_drop hx)) (Zfd h3) ZEm
theorem ZBa:∀(n:Nat)(l v:List Nat),v.length=8→(Zfe n l v).length=8
 |0,_,_,h=>h
 |n+1,l,v,h=>ZBa n _ _ (Zfd h)
theorem ZEo:∀(n:Nat)(l v:List Nat),(∀x,x∈v→x < 4294967296)→∀x,x∈Zfe n l v→x < 4294967296
 |0,_,_,h=>h
 |n+1,l,v,h=>ZEo n _ _ ZEm
theorem ZuG:∀(n m:Nat)(l r v:List Nat),l.length=64*n→Zfe (n+m) (l++r) v=Zfe m r (Zfe n l v)
 |0,m,l,r,v,h=>by
  have:l=[]:=List.length_eq_zero_iff.1 (by omega);subst this;rw[ybb]
  rfl
 |n+1,m,l,r,v,h=>by
  rw[show n+1+m=(n+m)+1 by omega,Zfe,List.drop_append_of_le_length (by omega),List.take_append_of_le_length (by omega),ZuG n m _ r _ (by rw[ybs];omega)];rfl
theorem ZlR:∀(c:Nat)(l v:List Nat),Zfe (c+1) l v=Zio (Zfe c l v) (Z2 ((l.drop (64*c)).take 64))
 |0,l,v=>by rw[Nat.mul_zero,List.drop_zero];rfl
 |c+1,l,v=>by
  rw[show Zfe (c+1+1) l v=Zfe (c+1) (l.drop 64) (Zio v (Z2 (l.take 64))) from rfl,ZlR c,List.drop_drop,show 64+64*c=64*(c+1) by omega]
  rfl
theorem ZBb(ws:List Nat){n x:Nat}(hn:n < 16)(h:ws[n]? =some x)(hx:x < 4294967296):wd ws n=x:=by
 rw[wd,dif_pos hn,yct,h];exact Zbi hx
def ZH7(v:List Nat)(k:Nat):UInt8:=yaq (v.getD (k / 4) 0 / 2 ^ (24 - 8*(k % 4)))
theorem ZJQ{v:List Nat}(hv:v.length=8)(hlt:∀x,x∈v→x < 4294967296):ZJM (pw 0 v) ZC2=(List.range 32).map (ZH7 v):=by
 have hgo:∀(H:Nat)(l:List Nat),ZJM H l=l.map λs=>yaq (H / 2 ^ s % 256):=by
  intro H l
  induction l with
  |nil=>rfl
  |cons s r ih=>
   show QT (Nat.mod (yae H s) 256) (λx=>yaq x::ZJM H r)=_;rw[XB,ih,yaf,show yae H s=H >>> s from rfl,ycx]
   rfl
 have hb:∀(l r:List Nat)(x j s:Nat),v=l++x::r→j≤24→s=32*r.length+j→yaq (pw 0 v / 2 ^ s % 256)=yaq (x / 2 ^ j):=by
  intro l r x j s e hj hs;have hall:=hlt;rw[e] at hall
  have h1:pw 0 v / 2 ^ (32*r.length)=pw 0 l*4294967296+x:=by
   rw[e,ZC4];exact ZC3 r _ (λy hy=>hall y (by simp[hy]))
  rw[hs,Nat.pow_add, ←Nat.div_div_eq_div_mul,h1]
  have h2:pw 0 l*4294967296+x=2 ^ j*(pw 0 l*2 ^ (24 - j)*256)+x:=by
   rw[show(4294967296:Nat)=2 ^ j*2 ^ (24 - j)*256 by rw[←Nat.pow_add,show j+(24 - j)=24 by omega]];congr 1;ac_rfl
  rw[h2,Nat.mul_add_div (Nat.two_pow_pos j),ybi (pw 0 l*2 ^ (24 - j)) 256,Nat.mul_add_mod];exact UInt8.toNat_inj.1 (by simp)
 match v,hv with
 |[a,b,c,d,e,f,g,h],_=>
  rw[hgo];simp only[ZC2,yaf,List.map_nil]
  rw[hb [] [b,c,d,e,f,g,h] a 24 248 rfl (by omega) rfl,hb [] [b,c,d,e,f,g,h] a 16 240 rfl (by omega) rfl,hb [] [b,c,d,e,f,g,h] a 8 232 rfl (by omega) rfl,hb [] [b,c,d,e,f,g,h] a 0 224 rfl (by omega) rfl,
   hb [a] [c,d,e,f,g,h] b 24 216 rfl (by omega) rfl,hb [a] [c,d,e,f,g,h] b 16 208 rfl (by omega) rfl,hb [a] [c,d,e,f,g,h] b 8 200 rfl (by omega) rfl,hb [a] [c,d,e,f,g,h] b 0 192 rfl (by omega) rfl,
   hb [a,b] [d,e,f,g,h] c 24 184 rfl (by omega) rfl,hb [a,b] [d,e,f,g,h] c 16 176 rfl (by omega) rfl,hb [a,b] [d,e,f,g,h] c 8 168 rfl (by omega) rfl,hb [a,b] [d,e,f,g,h] c 0 160 rfl (by omega) rfl,
   hb [a,b,c] [e,f,g,h] d 24 152 rfl (by omega) rfl,hb [a,b,c] [e,f,g,h] d 16 144 rfl (by omega) rfl,hb [a,b,c] [e,f,g,h] d 8 136 rfl (by omega) rfl,hb [a,b,c] [e,f,g,h] d 0 128 rfl (by omega) rfl,
   hb [a,b,c,d] [f,g,h] e 24 120 rfl (by omega) rfl,hb [a,b,c,d] [f,g,h] e 16 112 rfl (by omega) rfl,hb [a,b,c,d] [f,g,h] e 8 104 rfl (by omega) rfl,hb [a,b,c,d] [f,g,h] e 0 96 rfl (by omega) rfl,
   hb [a,b,c,d,e] [g,h] f 24 88 rfl (by omega) rfl,hb [a,b,c,d,e] [g,h] f 16 80 rfl (by omega) rfl,hb [a,b,c,d,e] [g,h] f 8 72 rfl (by omega) rfl,hb [a,b,c,d,e] [g,h] f 0 64 rfl (by omega) rfl,
   hb [a,b,c,d,e,f] [h] g 24 56 rfl (by omega) rfl,hb [a,b,c,d,e,f] [h] g 16 48 rfl (by omega) rfl,hb [a,b,c,d,e,f] [h] g 8 40 rfl (by omega) rfl,hb [a,b,c,d,e,f] [h] g 0 32 rfl (by omega) rfl,
   hb [a,b,c,d,e,f,g] [] h 24 24 rfl (by omega) rfl,hb [a,b,c,d,e,f,g] [] h 16 16 rfl (by omega) rfl,hb [a,b,c,d,e,f,g] [] h 8 8 rfl (by omega) rfl,hb [a,b,c,d,e,f,g] [] h 0 0 rfl (by omega) rfl]
  rfl
def Zff(l:List UInt8):List Nat:=l.map yai++(128::(yx (zs l.length) 0++be8 (8*l.length)))
def ZbW:List Nat:=[1779033703,3144134277,1013904242,2773480762,1359893119,2600822924,528734635,1541459225]
theorem ZuH(l:List UInt8):(Zff l).length=64*((l.length+72) / 64):=by
 unfold Zff;simp only[yr,yz,yad,ycm,be8,List.length_nil,zs];omega
theorem ZFF(l:List UInt8):∀x,x∈Zff l→x < 256:=by
 intro x hx;unfold Zff at hx;simp only[List.mem_append,List.mem_map,ybz,List.mem_replicate,be8,List.not_mem_nil,or_false] at hx;rcases hx with⟨y,_,rfl⟩|rfl|⟨_,rfl⟩|h
 ·exact y.toNat_lt
 ·omega
 ·omega
 ·rcases h with h|h|h|h|h|h|h|h <;> rw[h] <;> exact ybc _ (by omega)
theorem ZC6(l:List UInt8):sha l=(List.range 32).map (ZH7 (Zfe ((l.length+72) / 64) (Zff l) ZbW)):=by
 unfold sha
 rw[XB,XB,show H0=pw 0 ZbW from rfl,show l.map yai++(128::(yx (zs l.length) 0++be8 (8*l.length)))=Zff l from rfl,
  show Nat.div (yq l.length 72) 64=(l.length+72) / 64 from rfl]
 have hf:∀x,x∈ZbW→x < 4294967296:=by decide
 rw[ZEn _ _ _ (ZuH l) (ZFF l) rfl hf];exact ZJQ (ZBa _ _ _ rfl) (ZEo _ _ _ hf)
theorem ZMS(l:List UInt8):(sha l).length=32:=by rw[ZC6];simp
end Go.Sha
end
section
set_option maxRecDepth 4000
namespace Go.Proofs.YtmkgbalfkhaflaaGreat
open Go Go.Ev Go.Sha
theorem ZgK(x:UInt32)(n k:Nat)(h:n+k=32)(hn:0 < n){z:Int}(hz:((w64 z)&&&31).toNat=k):∃o,ZP fuel x z=some o∧o.toNat=lo (yae (dbl x.toNat) n):=by
 refine⟨_,rfl, ?_⟩;have e1:((((w64 z)&&&31).toNat:Int)).toNat=k:=by rw[hz];rfl
 have e2:(32 - ((w64 z)&&&31)).toNat=n:=by
  have h1:((w64 z)&&&31)=yal k:=UInt64.toNat_inj.1 (by rw[hz,ybe];omega);rw[h1,UInt64.toNat_sub,ybe];show(2 ^ 64 - k % 2 ^ 64+32) % 2 ^ 64=n;omega
 rw[e1,show((((32 - ((w64 z)&&&31)).toNat:Nat):Int)).toNat=n by rw[e2];rfl,Nat.min_eq_left (by omega),Nat.min_eq_left (by omega)];exact ZKg x h hn
theorem ZLB{l:List UInt8}{a b c d:UInt8}(ha:l[0]? =some a)(hb:l[1]? =some b)(hc:l[2]? =some c)(hd:l[3]? =some d):∃o,Zeh fuel l=some o∧o.toNat=((a.toNat*256+b.toNat)*256+c.toNat)*256+d.toNat:=by
 unfold Zeh;rw[Zib (i:=0) (by omega) ha,Zib (i:=1) (by omega) hb,Zib (i:=2) (by omega) hc,Zib (i:=3) (by omega) hd];refine⟨_,rfl, ?_⟩;have h1:=a.toNat_lt;have h2:=b.toNat_lt;have h3:=c.toNat_lt;have h4:=d.toNat_lt
 have hs:∀(x:UInt8)(n:Nat),n≤24→(Zal (ybn x.toNat) n).toNat=x.toNat*2 ^ n:=by
  intro x n hn;have hx:=x.toNat_lt;unfold Zal;rw[ycl,ycl,yaj (a:=x.toNat) (by omega)];refine yaj ?_
  calc x.toNat*2 ^ n < 2 ^ 8*2 ^ n:=Nat.mul_lt_mul_of_pos_right hx (Nat.two_pow_pos n)
   _=2 ^ (8+n):=(Nat.pow_add ..).symm
   _≤2 ^ 32:=Nat.pow_le_pow_right (by omega) (by omega)
 rw[ZyW,ZyW,ZyW,hs _ _ (by omega),hs _ _ (by omega),hs _ _ (by omega),ycl,yaj (a:=d.toNat) (by omega)]
 have k1:Nat.lor (a.toNat*2 ^ 24) (b.toNat*2 ^ 16)=2 ^ 16*(a.toNat*256+b.toNat):=by
  rw[ybi a.toNat,show Nat.lor (2 ^ 24*a.toNat) (b.toNat*2 ^ 16)=2 ^ 24*a.toNat|||b.toNat*2 ^ 16 from rfl, ←ycu (by omega)]
  omega
 have k2:Nat.lor (2 ^ 16*(a.toNat*256+b.toNat)) (c.toNat*2 ^ 8)=2 ^ 8*((a.toNat*256+b.toNat)*256+c.toNat):=by
  rw[show Nat.lor (2 ^ 16*(a.toNat*256+b.toNat)) (c.toNat*2 ^ 8)=2 ^ 16*(a.toNat*256+b.toNat)|||c.toNat*2 ^ 8 from rfl, ←ycu (by omega)]
  omega
 rw[k1,k2,show Nat.lor (2 ^ 8*((a.toNat*256+b.toNat)*256+c.toNat)) d.toNat=2 ^ 8*((a.toNat*256+b.toNat)*256+c.toNat)|||d.toNat from rfl, ←ycu (by omega)]
 omega
theorem ZH8{l:List UInt8}(h:l.length=64):∃o,ZaZ fuel l=some o∧o.length=64∧∀(i:Nat)x,i < 64→o[i]? =some x→x.toNat=wd (Z2 (l.map yai)) i:=by
 unfold ZaZ;generalize hz:([0,0,0,0,0,0,0,0,0,0,0,0,0,0,0,0,0,0,0,0,0,0,0,0,0,0,0,0,0,0,0,0,0,0,0,0,0,0,0,0,0,0,0,0,0,0,0,0,0,0,0,0,0,0,0,0,0,0,0,0,0,0,0,0]:List UInt32)=z;have hzl:z.length=64:=by rw[←hz];rfl
 refine Exists.elim (WW (step:=VO fuel) (λs=>s.1=l∧0≤s.2.1∧s.2.1≤64∧s.2.2.length=64∧∀(j:Nat)x,(j:Int) < s.2.1→s.2.2[j]? =some x→x.toNat=wd (Z2 (l.map yai)) j) (λs=>(64 - s.2.1).toNat)
  (λo=>o.length=64∧∀(j:Nat)x,j < 64→o[j]? =some x→x.toNat=wd (Z2 (l.map yai)) j) ?_ (l,(0:Int),z) ⟨rfl,Int.le_refl _,by dsimp only;omega,hzl,λj x hj=>by dsimp only at hj;omega⟩ (by dsimp only;omega)) ?_
 rotate_left
 ·rintro o ⟨h1,h2⟩;exact⟨o,by rw[h1];rfl,h2⟩
 ·rintro⟨b,i,w⟩ ⟨hb,h0,h64,hw,hv⟩;dsimp only at hb h0 h64 hw hv;subst hb;unfold VO;dsimp only
  have hset:∀(y:UInt32),y.toNat=wd (Z2 (b.map yai)) i.toNat→i < 64→∀(j:Nat)x,(j:Int) < i+1→(w.set i.toNat y)[j]? =some x→x.toNat=wd (Z2 (b.map yai)) j:=by
   intro y hy hi j x hj hx;by_cases hji:j=i.toNat
   ·subst hji;rw[yco (by omega)] at hx;cases hx;exact hy
   ·rw[List.getElem?_set_ne (Ne.symm hji)] at hx;exact hv j x (by omega) hx
  by_cases hi:i < 64
  ·left;rw[if_pos (decide_eq_true hi)];obtain⟨e,he⟩:=ZbN (l:=w) (i:=i.toNat) (by omega);by_cases h16:i < 16
   ·rw[if_pos (decide_eq_true h16),ZN (z:=4*i) (by omega) (by omega),if_pos (by simp only[Zat,yi,decide_eq_true_eq];omega)];have g:∀k:Nat,k < 4→∃x,b[4*i.toNat+k]? =some x:=λk hk=>ZbN (by omega);obtain⟨x0,g0⟩:=g 0 (by omega);obtain⟨x1,g1⟩:=g 1 (by omega);obtain⟨x2,g2⟩:=g 2 (by omega);obtain⟨x3,g3⟩:=g 3 (by omega);have e4:(4*i).toNat=4*i.toNat:=by omega
    obtain⟨o,ho,hoe⟩:=ZLB (l:=b.drop (4*i).toNat) (by rw[List.getElem?_drop,e4];exact g0) (by rw[List.getElem?_drop,e4];exact g1) (by rw[List.getElem?_drop,e4];exact g2) (by rw[List.getElem?_drop,e4];exact g3);rw[ho,yb,if_pos (Wb h0 (by omega)),he,yb,ZN (z:=i+1) (by omega) (by omega)];refine⟨_,rfl,⟨rfl,by dsimp only;omega,by dsimp only;omega,by dsimp only;rw[yaz];exact hw,hset o ?_ hi⟩,by dsimp only;omega⟩;have mg:∀(k:Nat)(x:UInt8),b[k]? =some x→(b.map yai)[k]? =some x.toNat:=λk x hx=>by rw[yah,hx];rfl
    have hwg:=ZkN i.toNat (b.map yai) _ _ _ _ (mg _ _ g0) (mg _ _ g1) (mg _ _ g2) (mg _ _ g3);rw[hoe];have b0:=x0.toNat_lt;have b1:=x1.toNat_lt;have b2:=x2.toNat_lt;have b3:=x3.toNat_lt;exact(ZBb _ (by omega) hwg (by omega)).symm
   ·rw[if_neg (by simpa using h16)];rw[ZN (z:=i - 15) (by omega) (by omega),ZN (z:=i - 2) (by omega) (by omega),ZN (z:=i - 16) (by omega) (by omega),ZN (z:=i - 7) (by omega) (by omega),ZN (z:=i+1) (by omega) (by omega)];obtain⟨e1,he1⟩:=ZbN (l:=w) (i:=(i - 15).toNat) (by omega);obtain⟨e2,he2⟩:=ZbN (l:=w) (i:=(i - 2).toNat) (by omega);obtain⟨e3,he3⟩:=ZbN (l:=w) (i:=(i - 16).toNat) (by omega);obtain⟨e4,he4⟩:=ZbN (l:=w) (i:=(i - 7).toNat) (by omega);have v1:=hv _ _ (by omega) he1;have v2:=hv _ _ (by omega) he2;have v3:=hv _ _ (by omega) he3;have v4:=hv _ _ (by omega) he4;rw[if_pos (Wb (by omega) (by omega)),he1,yb,if_pos (Wb (by omega) (by omega)),he2,yb];obtain⟨o1,ho1,p1⟩:=ZgK e1 7 25 rfl (by omega) (z:= -7) rfl;obtain⟨o2,ho2,p2⟩:=ZgK e1 18 14 rfl (by omega) (z:= -18) rfl;obtain⟨o3,ho3,p3⟩:=ZgK e2 17 15 rfl (by omega) (z:= -17) rfl;obtain⟨o4,ho4,p4⟩:=ZgK e2 19 13 rfl (by omega) (z:= -19) rfl;rw[ho1,yb,ho2,yb,ho3,yb,ho4,yb];rw[if_pos (Wb (by omega) (by omega)),he3,yb,if_pos (Wb (by omega) (by omega)),he4,yb]
    try dsimp only
    rw[if_pos (Wb h0 (by omega)),he,yb];refine⟨_,rfl,⟨rfl,by dsimp only;omega,by dsimp only;omega,by dsimp only;rw[yaz];exact hw,hset _ ?_ hi⟩,by dsimp only;omega⟩;have hn:=ZyX (Z2 (b.map yai)) (i - 16).toNat
    rw[show(i - 16).toNat+16=i.toNat by omega,show(i - 16).toNat+1=(i - 15).toNat by omega,show(i - 16).toNat+9=(i - 7).toNat by omega,show(i - 16).toNat+14=(i - 2).toNat by omega, ←v1, ←v2, ←v3, ←v4] at hn;rw[hn];rw[QE,QE,QE,ZMl e1 p1 p2,ZMm e2 p3 p4];exact ZMr ..
  ·right;rw[if_neg (by simpa using hi)];exact⟨_,rfl,hw,λj x hj hx=>hv j x (by omega) hx⟩
theorem ZH9{st:List UInt32}{l:List UInt8}(hs:st.length=8)(h:l.length=64):∃o,Vu fuel st l=some o∧o.map yam=Zio (st.map yam) (Z2 (l.map yai)):=by
 unfold Vu;obtain⟨w,hw,hwl,hwv⟩:=ZH8 h;obtain⟨k,hk,hkv⟩:∃k,ZkJ fuel=some k∧k.map yam=ks:=⟨_,rfl,rfl⟩;have hkl:k.length=64:=by rw[←yz (f:=yam),hkv];rfl
 generalize hws:Z2 (l.map yai)=ws at hwv;rw[hw,yb,hk,yb]
 refine Exists.elim (WW (step:=Vg fuel) (λs=>0≤s.1∧s.1≤64∧s.2.1=st∧s.2.2.2.1=w∧s.2.2.2.2.1=k∧s.2.2.2.2.2.length=8∧s.2.2.2.2.2.map yam=rs ws (st.map yam) s.1.toNat) (λs=>(64 - s.1).toNat)
  (λo=>o.1=st∧o.2.2.2.2.length=8∧o.2.2.2.2.map yam=rs ws (st.map yam) 64) ?_ ((0:Int),st,([0,0,0,0,0,0,0,0]:List UInt32),w,k,st) ⟨Int.le_refl _,by dsimp only;omega,rfl,rfl,rfl,hs,rfl⟩ (by dsimp only;omega)) ?_
 rotate_left
 ·rintro o ⟨h1,p0,p1,p2⟩;rw[h1,yb];have hml:(Zio (st.map yam) ws).length=8:=Zfd (by rw[yz];exact hs)
  refine Exists.elim (WW (step:=Vh fuel) (λs=>0≤s.1∧s.1≤8∧s.2.1=st∧s.2.2.2.2.2.length=8∧(∀(j:Nat)x,s.2.2.2.2.2[j]? =some x→if(j:Int) < s.1 then(Zio (st.map yam) ws)[j]? =some x.toNat else(rs ws (st.map yam) 64)[j]? =some x.toNat)) (λs=>(8 - s.1).toNat)
   (λo=>o.2.2.2.2.map yam=Zio (st.map yam) ws) ?_ ((0:Int),o.1,o.2.1,o.2.2.1,o.2.2.2.1,o.2.2.2.2) ⟨Int.le_refl _,by dsimp only;omega,p0,p1,λj x hx=>by
     dsimp only at hx ⊢;rw[if_neg (by omega), ←p2,yah,hx];rfl⟩ (by dsimp only;omega)) ?_
  rotate_left
  ·rintro q ⟨h2,q2⟩;rw[h2,yb];exact⟨_,rfl,q2⟩
  ·rintro⟨i,a,b,c,d,e⟩ ⟨h0,h8,ha,he,hv⟩;dsimp only at h0 h8 ha he hv;subst ha;unfold Vh;dsimp only;by_cases hi:i < 8
   ·left;obtain⟨e1,he1⟩:=ZbN (l:=e) (i:=i.toNat) (by omega);obtain⟨e2,he2⟩:=ZbN (l:=a) (i:=i.toNat) (by omega);simp only[decide_eq_true hi,if_true,Wb h0 (show i < ((8:Nat):Int) by omega),he1,he2,yb];rw[ZN (z:=i+1) (by omega) (by omega)];refine⟨_,rfl,⟨by dsimp only;omega,by dsimp only;omega,rfl,by dsimp only;rw[yaz];exact he, ?_⟩,by dsimp only;omega⟩;intro j x hx;dsimp only at hx ⊢;by_cases hji:j=i.toNat
    ·subst hji;rw[yco (by omega)] at hx;cases hx;rw[if_pos (by omega),QE];have k1:=hv _ _ he1;rw[if_neg (by omega)] at k1;unfold Zio;rw[List.getElem?_zipWith,k1,yah,he2];rfl
    ·rw[List.getElem?_set_ne (Ne.symm hji)] at hx;have k1:=hv j x hx;by_cases hj:(j:Int) < i
     ·rw[if_pos hj] at k1;rw[if_pos (by omega)];exact k1
     ·rw[if_neg hj] at k1;rw[if_neg (by omega)];exact k1
   ·right;rw[if_neg (by simpa using hi)];refine⟨_,rfl, ?_⟩;dsimp only;apply ybl;intro j;rw[yah];by_cases hj:j < 8
    ·obtain⟨x,hx⟩:=ZbN (l:=e) (i:=j) (by omega);have:=hv j x hx;rw[if_pos (by omega)] at this;rw[hx,this];rfl
    ·rw[yao (by omega),yao (by omega)];rfl
 ·rintro⟨i,a,b,c,d,e⟩ ⟨h0,h64,ha,hc,hd,he,hv⟩;dsimp only at h0 h64 ha hc hd he hv;subst ha hc hd;unfold Vg;dsimp only;by_cases hi:i < 64
  ·left
   match e,he,hv with
   |[x0,x1,x2,x3,x4,x5,x6,x7],_,hv=>
    obtain⟨e1,he1⟩:=ZbN (l:=d) (i:=i.toNat) (by omega);obtain⟨e2,he2⟩:=ZbN (l:=c) (i:=i.toNat) (by omega);obtain⟨o1,ho1,p1⟩:=ZgK x4 6 26 rfl (by omega) (z:= -6) rfl;obtain⟨o2,ho2,p2⟩:=ZgK x4 11 21 rfl (by omega) (z:= -11) rfl;obtain⟨o3,ho3,p3⟩:=ZgK x4 25 7 rfl (by omega) (z:= -25) rfl;obtain⟨o4,ho4,p4⟩:=ZgK x0 2 30 rfl (by omega) (z:= -2) rfl;obtain⟨o5,ho5,p5⟩:=ZgK x0 13 19 rfl (by omega) (z:= -13) rfl;obtain⟨o6,ho6,p6⟩:=ZgK x0 22 10 rfl (by omega) (z:= -22) rfl;generalize ZP fuel=R at ho1 ho2 ho3 ho4 ho5 ho6 ⊢;rw[if_pos (decide_eq_true hi)];simp only[ybk,yav];rw[yb,ho1,yb,yb,ho2,yb,yb,ho3,yb,yb,yb,yb,yb,yb];rw[if_pos (Wb h0 (show i < ((64:Nat):Int) by omega)),he1,yb,if_pos (Wb h0 (show i < ((64:Nat):Int) by omega)),he2,yb,yb,ho4,yb,yb,ho5,yb,yb,ho6];rw[yb,yb,yb,yb,yb,yb];rw[yb,yb,yb,yb,yb,yb,yb];rw[ZN (z:=i+1) (by omega) (by omega)];refine⟨_,rfl,⟨by dsimp only;omega,by dsimp only;omega,rfl,rfl,rfl,rfl, ?_⟩,by dsimp only;omega⟩;dsimp only;rw[show(i+1).toNat=i.toNat+1 by omega,show rs ws (a.map yam) (i.toNat+1)=rnd (rs ws (a.map yam) i.toNat) (ks.getD i.toNat 0) (wd ws i.toNat) from rfl, ←hv]
    have hk1:ks.getD i.toNat 0=e1.toNat:=by
     rw[←hkv,yct,yah,he1];rfl
    rw[hk1, ←hwv i.toNat e2 (by omega) he2];simp only[yaf,List.map_nil];rw[ZuE]
    have kt:((x7+((o1^^^o2)^^^o3))+(x6^^^(x4&&&(x5^^^x6)))+e1+e2).toNat=lo (yq (yq (yq (yq x7.toNat (S1 x4.toNat)) (ch x4.toNat x5.toNat x6.toNat)) e1.toNat) e2.toNat):=by
     rw[QE,QE,QE,QE,ZMo x4 p1 p2 p3,ZMp];exact ZMs ..
    have ka:((x7+((o1^^^o2)^^^o3))+(x6^^^(x4&&&(x5^^^x6)))+e1+e2+((o4^^^o5)^^^o6)+((x0&&&x1)|||(x2&&&(x0|||x1)))).toNat=lo (yq (yq (yq (yq (yq (yq x7.toNat (S1 x4.toNat)) (ch x4.toNat x5.toNat x6.toNat)) e1.toNat) e2.toNat) (S0 x0.toNat)) (mj x0.toNat x1.toNat x2.toNat)):=by
     rw[QE,QE,kt,ZMn x0 p4 p5 p6,ZMq];exact ZMt ..
    have ke:(x3+(((x7+((o1^^^o2)^^^o3))+(x6^^^(x4&&&(x5^^^x6))))+e1+e2)).toNat=lo (yq x3.toNat (yq (yq (yq (yq x7.toNat (S1 x4.toNat)) (ch x4.toNat x5.toNat x6.toNat)) e1.toNat) e2.toNat)):=by
     rw[QE,kt];exact ZMu ..
    rw[ka,ke]
  ·right;rw[if_neg (by simpa using hi)];have e64:i=64:=by omega
   subst e64;exact⟨_,rfl,rfl,he,hv⟩
def ZFG(n:Nat):List UInt8:=(be8 n).map yaq
theorem ZJR{n:Nat}{b:List UInt8}(h:b.length≤1000000000000):VE fuel (n:Int) b=some (b++ZFG n):=by
 unfold VE
 obtain⟨o,h1,h2⟩:=WW (step:=Qx fuel) (λs=>∃k:Nat,k≤8∧s.1=(n:Int)∧s.2.1=56 - 8*(k:Int)∧s.2.2.1=b++(ZFG n).take k) (λs=>(s.2.1+8).toNat) (λo=>o.1=b++ZFG n) (by
  rintro⟨a,i,c,d⟩ ⟨k,hk,ha,hi,hc⟩;dsimp only at ha hi hc;subst ha;unfold Qx;dsimp only;have hcl:c.length≤b.length+8:=by rw[hc,yr,yag];omega
  by_cases h0:i ≥ 0
  ·left;rw[if_pos (decide_eq_true h0),if_pos (decide_eq_true h0),if_pos (Ys (by omega) (by omega)),ZN (z:=i - 8) (by omega) (by omega)];refine⟨_,rfl,⟨k+1,by omega,rfl,by dsimp only;omega, ?_⟩,by dsimp only;omega⟩;dsimp only
   have hw:∀m:Nat,w8 (Int.fdiv (n:Int) (2 ^ m))=yaq (n / 2 ^ m % 256):=by
    intro m;unfold w8;rw[Int.fdiv_eq_ediv_of_nonneg _ (by exact Int.le_of_lt (Int.pow_pos (by omega)))];congr 1
   have hmin:min i.toNat 64=56 - 8*k:=by omega
   rw[hmin,hw,hc,yak];congr 1;have hk8:k < 8:=by omega
   match k,hk8 with
   |0,_=>rfl
   |1,_=>rfl
   |2,_=>rfl
   |3,_=>rfl
   |4,_=>rfl
   |5,_=>rfl
   |6,_=>rfl
   |7,_=>
    show _++[yaq (n / 2 ^ 0 % 256)]=_;rw[Nat.pow_zero,Nat.div_one];rfl
  ·right;rw[if_neg (by simpa using h0)];have hk8:k=8:=by omega
   subst hk8;exact⟨_,rfl,hc⟩) (((n:Int),(56:Int),b,([]:List UInt8))) ⟨0,by omega,rfl,by simp,by simp⟩ (by dsimp only;omega)
 rw[h1,yb,h2]
theorem ZLC{l:List UInt8}(h:l.length≤4294967296):Zfc fuel l=some (sha l):=by
 unfold Zfc
 have hm:Int.tmod (l.length:Int) 64=((l.length % 64:Nat):Int):=by
  rw[Int.tmod_eq_emod_of_nonneg (by omega)];omega
 have hlt:l.length % 64 < 64:=ybc _ (by omega);have hle:l.length % 64≤l.length:=Nat.mod_le _ _;rw[hm,ZN (z:=(l.length:Int) - ((l.length % 64:Nat):Int)) (by omega) (by omega)];dsimp only;rw[if_pos (by simp only[Zat,yi,decide_eq_true_eq];omega)];have hq:((l.length:Int) - ((l.length % 64:Nat):Int)).toNat=64*(l.length / 64):=by omega
 rw[hq]
 have hdl:(l.drop (64*(l.length / 64))).length=l.length % 64:=by
  rw[ybs];omega
 generalize ht:l.drop (64*(l.length / 64))=t at hdl
 have hcl:Z0 fuel t=some t:=by
  unfold Z0;rw[if_pos (Ys (by omega) (by omega))]
 rw[hcl,yb,if_pos (Ys (by omega) (by omega))];generalize hz:([0,0,0,0,0,0,0,0,0,0,0,0,0,0,0,0,0,0,0,0,0,0,0,0,0,0,0,0,0,0,0,0]:List UInt8)=z;have hzl:z.length=32:=by rw[←hz];rfl
 have hzs:zs l.length=(119 - t.length) % 64:=by unfold zs;rw[hdl]
 obtain⟨o,h1,p1,p2,p3⟩:=WW (step:=Zcg fuel) (λs=>s.1=l∧s.2.1=z∧∃j,j≤zs l.length∧s.2.2=t++([128]:List UInt8)++yx j 0) (λs=>184 - s.2.2.length)
  (λo=>o.1=l∧o.2.1=z∧o.2.2=t++([128]:List UInt8)++yx (zs l.length) 0) (by
  rintro⟨a,b,c⟩ ⟨k1,k2,j,k3,k4⟩;dsimp only at k1 k2 k3 k4;have hcl:c.length=t.length+1+j:=by rw[k4,yr,yr,ycm];rfl
  unfold Zcg;dsimp only
  have hm:Int.tmod (c.length:Int) 64=((c.length % 64:Nat):Int):=by
   rw[Int.tmod_eq_emod_of_nonneg (by omega)];omega
  rw[hm];by_cases hi:c.length % 64=56
  ·right;rw[if_neg (by simp;omega)];have:j=zs l.length:=by omega
   subst this;exact⟨_,rfl,k1,k2,k4⟩
  ·left;rw[if_pos (by simp;omega),if_pos (Ys (by omega) (by omega))];have hj:j≠zs l.length:=λe=>hi (by omega);refine⟨_,rfl,⟨k1,k2,j+1,by omega, ?_⟩, ?_⟩
   ·dsimp only;rw[k4,yak,List.replicate_succ',yak]
   ·dsimp only;rw[yr,List.length_singleton];omega) (l,z,t++([128]:List UInt8)) ⟨rfl,rfl,0,Nat.zero_le _,by simp⟩ (by dsimp only;omega)
 rw[h1,yb,p1,p2,p3,ZN (z:=8*(l.length:Int)) (by omega) (by omega),show 8*(l.length:Int)=((8*l.length:Nat):Int) by omega,ZJR (by
  rw[yr,yr,ycm];simp;omega),yb]
 obtain⟨f,hf,hfl⟩:∃f,ZkH fuel=some f∧f.map yam=ZbW:=⟨_,rfl,rfl⟩;have hf8:f.length=8:=by rw[←yz (f:=yam),hfl];rfl
 rw[hf,yb];generalize hE:t++([128]:List UInt8)++yx (zs l.length) 0++ZFG (8*l.length)=E
 have hEl:E.length=64*((t.length+72) / 64):=by
  rw[←hE];simp only[yr,ycm,List.length_singleton,ZFG,yz,be8,yad,List.length_nil];omega
 obtain⟨o3,h3,r1,r2,r3,r4⟩:=WW (step:=Zch fuel) (λs=>s.2.1=z∧s.2.2.1=E∧s.2.2.2.length=8∧∃c,c≤l.length / 64∧s.1=l.drop (64*c)∧s.2.2.2.map yam=Zfe c (l.map yai) ZbW) (λs=>s.1.length)
  (λx=>x.1=z∧x.2.1=E∧x.2.2.length=8∧x.2.2.map yam=Zfe (l.length / 64) (l.map yai) ZbW) (by
  rintro⟨a,b,c,d⟩ ⟨k1,k2,k3,j,k4,k5,k6⟩;dsimp only at k1 k2 k3 k4 k5 k6;have hal:a.length=l.length - 64*j:=by rw[k5,ybs]
  unfold Zch;dsimp only;by_cases hi:(a.length:Int) ≥ 64
  ·left;obtain⟨m,hm1,hm2⟩:=ZH9 (st:=d) (l:=a.take 64) k3 (by rw[yag];omega);rw[if_pos (decide_eq_true hi),if_pos (by simp only[Zat,yi,decide_eq_true_eq];omega),hm1,yb,if_pos (by simp only[Zat,yi,decide_eq_true_eq];omega)];refine⟨_,rfl,⟨k1,k2, ?_,j+1,by omega, ?_, ?_⟩,by dsimp only;rw[ybs];omega⟩
   ·dsimp only;rw[←yz (f:=yam),hm2];exact Zfd (by rw[yz];exact k3)
   ·dsimp only;rw[k5,List.drop_drop];congr 1
   ·dsimp only;rw[hm2,ZlR,k6,k5,yca,List.map_drop]
  ·right;rw[if_neg (by simpa using hi)];have:j=l.length / 64:=by omega
   subst this;exact⟨_,rfl,k1,k2,k3,k6⟩) (l,z,E,f) ⟨rfl,rfl,hf8,0,Nat.zero_le _,by simp,hfl⟩ (by dsimp only;omega)
 rw[h3,yb,r1,r2];generalize hv1:Zfe (l.length / 64) (l.map yai) ZbW=v1 at r4
 obtain⟨o4,h4,s1,s2,s3⟩:=WW (step:=Zci fuel) (λs=>s.2.1=z∧s.2.2.2.length=8∧∃c,c≤E.length / 64∧s.1=E.drop (64*c)∧s.2.2.2.map yam=Zfe c (E.map yai) v1) (λs=>s.1.length)
  (λx=>x.1=z∧x.2.2.length=8∧x.2.2.map yam=Zfe (E.length / 64) (E.map yai) v1) (by
  rintro⟨a,b,c,d⟩ ⟨k1,k3,j,k4,k5,k6⟩;dsimp only at k1 k3 k4 k5 k6;have hal:a.length=E.length - 64*j:=by rw[k5,ybs]
  unfold Zci;dsimp only;by_cases hi:(a.length:Int) > 0
  ·left;obtain⟨m,hm1,hm2⟩:=ZH9 (st:=d) (l:=a.take 64) k3 (by rw[yag];omega);rw[if_pos (decide_eq_true hi),if_pos (by simp only[Zat,yi,decide_eq_true_eq];omega),hm1,yb,if_pos (by simp only[Zat,yi,decide_eq_true_eq];omega)];refine⟨_,rfl,⟨k1, ?_,j+1,by omega, ?_, ?_⟩,by dsimp only;rw[ybs];omega⟩
   ·dsimp only;rw[←yz (f:=yam),hm2];exact Zfd (by rw[yz];exact k3)
   ·dsimp only;rw[k5,List.drop_drop];congr 1
   ·dsimp only;rw[hm2,ZlR,k6,k5,yca,List.map_drop]
  ·right;rw[if_neg (by simpa using hi)];have:j=E.length / 64:=by omega
   subst this;exact⟨_,rfl,k1,k3,k6⟩) (E,z,E,o3.2.2) ⟨rfl,r3,0,Nat.zero_le _,by simp,r4⟩ (by dsimp only;omega)
 rw[h4,yb];generalize hv2:Zfe (E.length / 64) (E.map yai) v1=v2 at s3
 obtain⟨o5,h5,t1,t2⟩:=WW (step:=Zcj fuel) (λs=>0≤s.1∧s.1≤32∧s.2.1.length=32∧s.2.2.2=o4.2.2∧∀(j:Nat),(j:Int) < s.1→s.2.1[j]? =some (Go.Sha.ZH7 v2 j)) (λs=>(32 - s.1).toNat)
  (λx=>x.1.length=32∧∀(j:Nat),j < 32→x.1[j]? =some (Go.Sha.ZH7 v2 j)) (by
  rintro⟨i,a,b,c⟩ ⟨h0,h32,ha,hc,hv⟩;dsimp only at h0 h32 ha hc hv;subst hc;unfold Zcj;dsimp only;by_cases hi:i < 32
  ·left;rw[if_pos (decide_eq_true hi)];have e1:Int.tdiv i 4=i / 4:=Int.tdiv_eq_ediv_of_nonneg h0;have e2:Int.tmod i 4=i % 4:=Int.tmod_eq_emod_of_nonneg h0;rw[e1,e2,ZN (z:=i / 4) (by omega) (by omega),ZN (z:=8*(i % 4)) (by omega) (by omega),ZN (z:=24 - 8*(i % 4)) (by omega) (by omega),ZN (z:=i+1) (by omega) (by omega)];obtain⟨x1,hx1⟩:=ZbN (l:=o4.2.2) (i:=(i / 4).toNat) (by omega);obtain⟨x2,hx2⟩:=ZbN (l:=a) (i:=i.toNat) (by omega);rw[if_pos (Wb (by omega) (by omega)),hx1,yb,if_pos (decide_eq_true (by omega))]
   try dsimp only
   rw[if_pos (Wb (by omega) (by omega)),hx2,yb];refine⟨_,rfl,⟨by dsimp only;omega,by dsimp only;omega,by dsimp only;rw[yaz];exact ha,rfl, ?_⟩,by dsimp only;omega⟩;intro j hj;dsimp only at hj ⊢;by_cases hji:j=i.toNat
   ·subst hji;rw[yco (by omega)];congr 1;unfold Go.Sha.ZH7
    have hx:v2.getD (i.toNat / 4) 0=x1.toNat:=by
     rw[←s3,yct,yah,show i.toNat / 4=(i / 4).toNat by omega,hx1];rfl
    rw[hx,show min (24 - 8*(i % 4)).toNat 32=24 - 8*(i.toNat % 4) by omega,Zw6];unfold w8;have e3:∀m:Nat,(((m:Nat):Int) % 256).toNat=m % 256:=λm=>by omega
    rw[e3,show yae x1.toNat (24 - 8*(i.toNat % 4))=x1.toNat >>> (24 - 8*(i.toNat % 4)) from rfl,ycx]
    exact UInt8.toNat_inj.1 (by simp)
   ·rw[List.getElem?_set_ne (Ne.symm hji)];exact hv j (by omega)
  ·right;rw[if_neg (by simpa using hi)];exact⟨_,rfl,ha,λj hj=>hv j (by omega)⟩) ((0:Int),o4.1,o4.2.1,o4.2.2) ⟨Int.le_refl _,by dsimp only;omega,by dsimp only;rw[s1];exact hzl,rfl,λj hj=>by dsimp only at hj;omega⟩ (by dsimp only;omega)
 rw[h5,yb,ZC6];congr 1
 have hpad:Zff l=(l.take (64*(l.length / 64))).map yai++E.map yai:=by
  unfold Zff;rw[←hE, ←ht];simp only[yar,List.map_replicate,yaf,List.map_nil,ZFG,List.map_map];rw[←yak, ←yak, ←yak, ←yar,ybo]
  have:be8 (8*l.length)=(be8 (8*l.length)).map (yai ∘ yaq):=by
   simp[be8]
  rw[←this];simp
 have hw:((l.take (64*(l.length / 64))).map yai).length=64*(l.length / 64):=by
  rw[yz,yag];omega
 have hv:v2=Zfe ((l.length+72) / 64) (Zff l) ZbW:=by
  rw[hpad,show(l.length+72) / 64=l.length / 64+E.length / 64 by omega,ZuG _ _ _ _ _ hw, ←hv2, ←hv1];congr 1;have:=ZuG (l.length / 64) 0 _ ((l.drop (64*(l.length / 64))).map yai) ZbW hw;rw[←yar,ybo,Nat.add_zero] at this;exact this
 rw[←hv];apply ybl;intro j;by_cases hj:j < 32
 ·rw[t2 j hj,yah,List.getElem?_range hj];rfl
 ·rw[yao (by omega),yao (by simp;omega)]
noncomputable def ZlS(F:Nat)(a0:List UInt8):Option (List UInt8):=if decide (a0.length≤4294967296)=true then some (sha a0) else Zfc F a0
noncomputable def ZBc(F:Nat):Fs ya:={ Zin F with M:=λx=>ZlS F x}
noncomputable def ZuI:Fs ya:=ZBc fuel
theorem ZBd:ZuI.Ok:=Znv (s:=Zin fuel) ZyV λx=>by
 show ZlS fuel x=Zfc fuel x;unfold ZlS;split
 ·rename_i h;exact(ZLC (of_decide_eq_true h)).symm
 ·rfl
end Go.Proofs.YtmkgbalfkhaflaaGreat
end
section
set_option maxRecDepth 4000
namespace Go.Proofs.YtmkgbalfkhaflaaGreat
open Go Go.Ev
noncomputable section
def Zph(F:Nat):Fs ya:=⟨116,[.nil .u8,.v yI],[],[yI],(Zdq F).xs,λx=>(Zdq F).M (x,([]:List UInt8))⟩
def Zht:Fs ya:=Zph fuel
theorem Zpi:Zht.Ok:=ZLg (i1:=[yI]) (i2:=[yI,(.sl .u8)]) (λx=>(x,([]:List UInt8))) Zdr (λ_=>rfl) (λ_=>⟨_,rfl⟩)
def Zpj(F:Nat)(s:((List (List UInt8))×Int×Int×(List UInt8)×(List UInt8))):Option (((List (List UInt8))×Int×Int×(List UInt8)×(List UInt8))⊕((List UInt8)×(List UInt8))):=
 if(decide (s.2.2.1 < s.2.1))=true then
  (idx s.1 s.2.2.1).bind λe376=>
  (VE F (e376.length:Int) s.2.2.2.2).bind λo377=>
  if(apB o377.length e376.length 1)=true then
   some (.inl (s.1,s.2.1,wi (s.2.2.1+1),s.2.2.2.1,o377++e376))
  else
  none
 else
 some (.inr (s.2.2.2.1,s.2.2.2.2))
def Zrx:Lp:=⟨[(4,.ref 0 []),(5,.own 1 .u8),(13,.v (.sl (.sl .u8))),(14,.v yI),(15,.v yI)],[.var (.v (.arr 32 .u8)) true,.log .u8 5],[(.sl (.sl .u8)),yI,yI,(.arr 32 .u8),(.sl .u8)],[⟨.exit 0,[(4,.ref 0 []),(5,.own 1 .u8)],[.var (.v (.arr 32 .u8)) true,.log .u8 5],[(.arr 32 .u8),(.sl .u8)]⟩],Zc (Zpj fuel) fuel⟩
theorem ZuJ:Zrx.Ok ya (Zj ya 57) (Zm ya 57 0):=Zh (fi:={ hi:={ own:=[5,10,12,19,22,24],still:=[9,19,21,26]},lp:=[]}) (specs:={ l:=[Zfb]}) (okS ⟨Zdr,trivial⟩) trivial (by kernel_rfl) (λv=>by kernel_rfl)
def ZlT(F:Nat)(a0:ByteArray)(a1:(List (List UInt8))):Option ((List UInt8)):=
 (VE F (a0.size:Int) ([]:List UInt8)).bind λo375=>
 if(apB o375.length ((Zp1 a0).length) 1)=true then
  (Zc (Zpj F) F (a1,(a1.length:Int),(0:Int),([0,0,0,0,0,0,0,0,0,0,0,0,0,0,0,0,0,0,0,0,0,0,0,0,0,0,0,0,0,0,0,0]:List UInt8),o375++(Zp1 a0))).bind λo378=>
  (ZlS F o378.2).bind λo379=>
  some o379
 else
 none
def ZBe(F:Nat):Fs ya:=⟨57,[.v .str,.v (.sl (.sl .u8))],[],[.str,(.sl (.sl .u8))],[⟨.ret,[(0,.v (.arr 32 .u8))],[],[(.arr 32 .u8)]⟩],λx=>ZlT F x.1 x.2⟩
def Zip:Fs ya:=ZBe fuel
theorem ZkO:Zip.Ok:=Zf (fi:={ hi:={ own:=[5,10,12,19,22,24],still:=[9,19,21,26]},lp:=[(0,Zrx)]}) (specs:={ l:=[Zht,ZuI]}) (okS ⟨Zpi,ZBd,trivial⟩) ⟨ZuJ,trivial⟩ (by decide+kernel) (λx=>by kernel_rfl)
def ZmW(F:Nat)(a0:(List UInt8))(a1:(List UInt8)):Option ((List UInt8)):=
 (Zaa F a0 a1).bind λo380=>
 some o380
def Zsa(F:Nat):Fs ya:=⟨118,[.v (.sl .u8),.v (.arr 32 .u8)],[],[(.sl .u8),(.arr 32 .u8)],[⟨.ret,[(0,.v (.sl .u8))],[],[(.sl .u8)]⟩],λx=>ZmW F x.1 x.2⟩
def ZkP:Fs ya:=Zsa fuel
theorem Zsb:ZkP.Ok:=Zf (fi:={ hi:={ still:=[4,5,6],frz:=[6]},lp:=[]}) (specs:={ l:=[Zgd]}) (okS ⟨Zii,trivial⟩) trivial (by decide+kernel) (λx=>by kernel_rfl)
def ZkQ(F:Nat)(a0:(List UInt8))(a1:(List UInt8)):Option ((List UInt8)):=
 (Zhp F (a1.length:Int)).bind λo381=>
 (Yu F ([a0,o381,a1]:List (List UInt8))).bind λo382=>
 some o382
def Zqt(F:Nat):Fs ya:=⟨119,[.v (.sl .u8),.v (.sl .u8)],[],[(.sl .u8),(.sl .u8)],[⟨.ret,[(0,.v (.sl .u8))],[],[(.sl .u8)]⟩],λx=>ZkQ F x.1 x.2⟩
def Zjj:Fs ya:=Zqt fuel
theorem Zqu:Zjj.Ok:=Zf (fi:={ hi:={ still:=[4,7,10]},lp:=[]}) (specs:={ l:=[Znz,Wq]}) (okS ⟨Zrq,Qh,trivial⟩) trivial (by decide+kernel) (λx=>by kernel_rfl)
def Zpk(F:Nat)(s:((List UInt8)×(List In)×Int×Int×Tx)):Option (((List UInt8)×(List In)×Int×Int×Tx)⊕((List UInt8)×Tx)):=
 if(decide (s.2.2.2.1 < s.2.2.1))=true then
  (idx s.2.1 s.2.2.2.1).bind λe384=>
  (ZmW F s.1 e384.1.1).bind λo385=>
  (Wt F o385 e384.1.2).bind λo386=>
  some (.inl (o386,s.2.1,s.2.2.1,wi (s.2.2.2.1+1),s.2.2.2.2))
 else
 some (.inr (s.1,s.2.2.2.2))
def Zry:Lp:=⟨[(1,.ref 0 []),(3,.v (.sl .u8)),(13,.v (.sl yIn)),(14,.v yI),(15,.v yI)],[.var (.v yTx) true],[(.sl .u8),(.sl yIn),yI,yI,yTx],[⟨.exit 0,[(1,.ref 0 []),(3,.v (.sl .u8))],[.var (.v yTx) true],[(.sl .u8),yTx]⟩],Zc (Zpk fuel) fuel⟩
theorem ZuK:Zry.Ok ya (Zj ya 58) (Zm ya 58 0):=Zh (fi:={ hi:={ still:=[2,10,19,22,23,26,29,32,41,43,44,46,47,50,52]},lp:=[]}) (specs:={ l:=[ZkP,ZbS]}) (okS ⟨Zsb,Zcz,trivial⟩) trivial (by kernel_rfl) (λv=>by kernel_rfl)
def Zpl(F:Nat)(s:((List UInt8)×(List Out)×Int×Int×Tx)):Option (((List UInt8)×(List Out)×Int×Int×Tx)⊕((List UInt8)×Tx)):=
 if(decide (s.2.2.2.1 < s.2.2.1))=true then
  (idx s.2.1 s.2.2.2.1).bind λe389=>
  (Wt F s.1 e389.1).bind λo390=>
  (W5 F e389.2).bind λo391=>
  (ZkQ F o390 o391).bind λo392=>
  some (.inl (o392,s.2.1,s.2.2.1,wi (s.2.2.2.1+1),s.2.2.2.2))
 else
 some (.inr (s.1,s.2.2.2.2))
def Zrz:Lp:=⟨[(1,.ref 0 []),(3,.v (.sl .u8)),(35,.v (.sl Zy)),(36,.v yI),(37,.v yI)],[.var (.v yTx) true],[(.sl .u8),(.sl Zy),yI,yI,yTx],[⟨.exit 2,[(1,.ref 0 []),(3,.v (.sl .u8))],[.var (.v yTx) true],[(.sl .u8),yTx]⟩],Zc (Zpl fuel) fuel⟩
theorem ZuL:Zrz.Ok ya (Zj ya 58) (Zm ya 58 1):=Zh (fi:={ hi:={ still:=[2,10,19,22,23,26,29,32,41,43,44,46,47,50,52]},lp:=[]}) (specs:={ l:=[ZbS,ZaW,Zjj]}) (okS ⟨Zcz,QQ,Zqu,trivial⟩) trivial (by kernel_rfl) (λv=>by kernel_rfl)
def Zw7(F:Nat)(a0:Tx):Option ((List UInt8)):=
 (Wt F ([]:List UInt8) (a0.1.length:Int)).bind λo383=>
 (Zc (Zpk F) F (o383,a0.1,(a0.1.length:Int),(0:Int),a0)).bind λo387=>
 (Wt F o387.1 (o387.2.2.1.length:Int)).bind λo388=>
 (Zc (Zpl F) F (o388,o387.2.2.1,(o387.2.2.1.length:Int),(0:Int),o387.2)).bind λo393=>
 (Wt F o393.1 o393.2.2.2).bind λo394=>
 some o394
def ZBf(F:Nat):Fs ya:=⟨58,[.v yTx],[],[yTx],[⟨.ret,[(0,.v (.sl .u8))],[],[(.sl .u8)]⟩],λx=>Zw7 F x⟩
def ZuM:Fs ya:=ZBf fuel
theorem ZBg:ZuM.Ok:=Zf (fi:={ hi:={ still:=[2,10,19,22,23,26,29,32,41,43,44,46,47,50,52]},lp:=[(0,Zry),(1,Zrz)]}) (specs:={ l:=[ZbS]}) (okS ⟨Zcz,trivial⟩) ⟨ZuK,ZuL,trivial⟩ (by decide+kernel) (λx=>by kernel_rfl)
def ZMw:ByteArray:=⟨#[116,120]⟩
def ZIa(F:Nat)(a0:Tx):Option ((List UInt8)):=
 (Zqq F a0).bind λo395=>
 if(!o395)=true then
  some ([0,0,0,0,0,0,0,0,0,0,0,0,0,0,0,0,0,0,0,0,0,0,0,0,0,0,0,0,0,0,0,0]:List UInt8)
 else
 (Zw7 F a0).bind λo396=>
 (ZlT F ZMw ([o396]:List (List UInt8))).bind λo397=>
 some o397
def ZuN(F:Nat):Fs ya:=⟨20,[.v yTx],[],[yTx],[⟨.ret,[(0,.v (.arr 32 .u8))],[],[(.arr 32 .u8)]⟩],λx=>ZIa F x⟩
def ZEp:Fs ya:=ZuN fuel
theorem ZBh:ZEp.Ok:=Zf (fi:={ hi:={ still:=[3,7,9]},lp:=[]}) (specs:={ l:=[ZnD,ZuM,Zip]}) (okS ⟨Zrv,ZBg,ZkO,trivial⟩) trivial (by decide+kernel) (λx=>by kernel_rfl)
def Ziq(F:Nat)(a0:UInt64):Option (Bool):=
 some (decide (a0 < 2305843009213688669))
def ZuO(F:Nat):Fs ya:=⟨112,[.v .u64],[],[.u64],[⟨.ret,[(0,.v .bool)],[],[.bool]⟩],λx=>Ziq F x⟩
def ZgL:Fs ya:=ZuO fuel
theorem ZkR:ZgL.Ok:=Zf (fi:={ hi:={ still:=[2]},lp:=[]}) (specs:={ l:=[]}) (okS trivial) trivial (by decide+kernel) (λx=>by kernel_rfl)
def Zw8(F:Nat)(a0:UInt64):Option (Bool):=
 (Ziq F a0).bind λo398=>
 if o398=true then
  some (a0 !=0)
 else
 some false
def ZBi(F:Nat):Fs ya:=⟨140,[.v .u64],[],[.u64],[⟨.ret,[(0,.v .bool)],[],[.bool]⟩],λx=>Zw8 F x⟩
def ZuP:Fs ya:=ZBi fuel
theorem ZBj:ZuP.Ok:=Zf (fi:={ hi:={ still:=[2,3]},lp:=[]}) (specs:={ l:=[ZgL]}) (okS ⟨ZkR,trivial⟩) trivial (by decide+kernel) (λx=>by kernel_rfl)
def Qy(F:Nat)(a0:UInt64):Option (UInt64):=
 (Xz F a0).bind λo399=>
 if o399=true then
  some a0
 else
 some (1:UInt64)
def ZuQ(F:Nat):Fs ya:=⟨138,[.v .u64],[],[.u64],[⟨.ret,[(0,.v .u64)],[],[.u64]⟩],λx=>Qy F x⟩
def Zck:Fs ya:=ZuQ fuel
theorem Zfg:Zck.Ok:=Zf (fi:={ hi:={ still:=[2,3]},lp:=[]}) (specs:={ l:=[VA]}) (okS ⟨Qd,trivial⟩) trivial (by decide+kernel) (λx=>by kernel_rfl)
def Za0(F:Nat)(a0:UInt64)(a1:UInt64):Option (UInt64):=
 (Qy F a0).bind λo400=>
 (Qv F o400 (a1 % 2305843009213688669)).bind λo401=>
 some o401
def ZuR(F:Nat):Fs ya:=⟨95,[.v .u64,.v .u64],[],[.u64,.u64],[⟨.ret,[(0,.v .u64)],[],[.u64]⟩],λx=>Za0 F x.1 x.2⟩
def ZgM:Fs ya:=ZuR fuel
theorem ZkS:ZgM.Ok:=Zf (fi:={ hi:={ still:=[4,5,6,8]},lp:=[]}) (specs:={ l:=[Zck,Zcc]}) (okS ⟨Zfg,ZeW,trivial⟩) trivial (by decide+kernel) (λx=>by kernel_rfl)
def Xi(F:Nat)(a0:UInt64):Option (UInt64):=
 (Za0 F (4:UInt64) a0).bind λo402=>
 some o402
def Zv3(F:Nat):Fs ya:=⟨35,[.v .u64],[],[.u64],[⟨.ret,[(0,.v .u64)],[],[.u64]⟩],λx=>Xi F x⟩
def Za1:Fs ya:=Zv3 fuel
theorem Zcl:Za1.Ok:=Zf (fi:={ hi:={ still:=[2,3]},lp:=[]}) (specs:={ l:=[ZgM]}) (okS ⟨ZkS,trivial⟩) trivial (by decide+kernel) (λx=>by kernel_rfl)
def Ql(F:Nat)(s:(UInt64×(List UInt8)×Int×(List UInt8))):Option ((UInt64×(List UInt8)×Int×(List UInt8))⊕(UInt64×(List UInt8))):=
 if(decide (s.2.2.1 < 32))=true then
  (idx s.2.1 s.2.2.1).bind λe403=>
  (W3 F (ZF s.1 56) ((VJ s.1 8)|||(yal e403.toNat)) (2305843009213688668:UInt64)).bind λo404=>
  some (.inl (o404,s.2.1,wi (s.2.2.1+1),s.2.2.2))
 else
 some (.inr (s.1,s.2.2.2))
def ZmX:Lp:=⟨[(3,.v .u64),(6,.v (.arr 32 .u8)),(7,.v yI)],[.var (.v (.arr 32 .u8)) true],[.u64,(.arr 32 .u8),yI,(.arr 32 .u8)],[⟨.exit 0,[(3,.v .u64)],[.var (.v (.arr 32 .u8)) true],[.u64,(.arr 32 .u8)]⟩],Zc (Ql fuel) fuel⟩
theorem Zqv:ZmX.Ok ya (Zj ya 142) (Zm ya 142 0):=Zh (fi:={ hi:={ still:=[2,11,16]},lp:=[]}) (specs:={ l:=[Zd6]}) (okS ⟨Zgy,trivial⟩) trivial (by kernel_rfl) (λv=>by kernel_rfl)
def ZcB(F:Nat)(a0:(List UInt8)):Option (UInt64):=
 (Zc (Ql F) F ((0:UInt64),a0,(0:Int),a0)).bind λo405=>
 some (o405.1+1)
def Zv4(F:Nat):Fs ya:=⟨142,[.v (.arr 32 .u8)],[],[(.arr 32 .u8)],[⟨.ret,[(0,.v .u64)],[],[.u64]⟩],λx=>ZcB F x⟩
def Zir:Fs ya:=Zv4 fuel
theorem ZmY:Zir.Ok:=Zf (fi:={ hi:={ still:=[2,11,16]},lp:=[(0,ZmX)]}) (specs:={ l:=[]}) (okS trivial) ⟨Zqv,trivial⟩ (by decide+kernel) (λx=>by kernel_rfl)
def ZkT(F:Nat)(s:(UInt64×Int×Int×(List UInt8))):Option ((UInt64×Int×Int×(List UInt8))⊕(List UInt8)):=
 if(decide (s.2.2.1 < s.2.1))=true then
  if(decide (0≤wi (56 - (wi (8*s.2.2.1)))))=true then
   let y406:UInt64:=ZF s.1 (min (wi (56 - (wi (8*s.2.2.1)))).toNat 64)
   if(inB s.2.2.1 8)=true then
    (s.2.2.2[(0+s.2.2.1.toNat)]?).bind λe407=>
    let y408:(List UInt8):=s.2.2.2.set (0+s.2.2.1.toNat) (w8 (y406.toNat:Int))
    some (.inl (s.1,s.2.1,wi (s.2.2.1+1),y408))
   else
   none
  else
  none
 else
 some (.inr s.2.2.2)
def ZmZ:Lp:=⟨[(0,.v .u64),(3,.view 0 [] 1 0 8),(7,.v yI),(8,.v yI)],[.var (.v (.arr 8 .u8)) true],[.u64,yI,yI,(.arr 8 .u8)],[⟨.exit 0,[(3,.view 0 [] 1 0 8)],[.var (.v (.arr 8 .u8)) true],[(.arr 8 .u8)]⟩],Zc (ZkT fuel) fuel⟩
theorem Zqw:ZmZ.Ok ya (Zj ya 143) (Zm ya 143 0):=Zh (fi:={ hi:={ still:=[2]},lp:=[]}) (specs:={ l:=[]}) (okS trivial) trivial (by kernel_rfl) (λv=>by kernel_rfl)
def Zgi(F:Nat)(a0:UInt64):Option ((List UInt8)):=
 (Zc (ZkT F) F (a0,(8:Int),(0:Int),([0,0,0,0,0,0,0,0]:List UInt8))).bind λo409=>
 some ((o409.drop 0).take 8)
def Zv5(F:Nat):Fs ya:=⟨143,[.v .u64],[],[.u64],[⟨.ret,[(0,.v (.sl .u8))],[],[(.sl .u8)]⟩],λx=>Zgi F x⟩
def Zis:Fs ya:=Zv5 fuel
theorem Zm0:Zis.Ok:=Zf (fi:={ hi:={ still:=[2]},lp:=[(0,ZmZ)]}) (specs:={ l:=[]}) (okS trivial) ⟨Zqw,trivial⟩ (by decide+kernel) (λx=>by kernel_rfl)
def ZMx:ByteArray:=⟨#[115,105,103]⟩
def Zds(F:Nat)(a0:UInt64)(a1:UInt64)(a2:(List UInt8)):Option (UInt64):=
 (Zgi F a0).bind λo410=>
 (Zgi F a1).bind λo411=>
 (ZlT F ZMx ([o410,o411,a2]:List (List UInt8))).bind λo412=>
 (ZcB F o412).bind λo413=>
 some o413
def Zpm(F:Nat):Fs ya:=⟨114,[.v .u64,.v .u64,.v (.arr 32 .u8)],[],[.u64,.u64,(.arr 32 .u8)],[⟨.ret,[(0,.v .u64)],[],[.u64]⟩],λx=>Zds F x.1 x.2.1 x.2.2⟩
def ZbX:Fs ya:=Zpm fuel
theorem Zgj:ZbX.Ok:=Zf (fi:={ hi:={ still:=[6,7,9,12,13],frz:=[11]},lp:=[]}) (specs:={ l:=[Zis,Zip,Zir]}) (okS ⟨Zm0,ZkO,ZmY,trivial⟩) trivial (by decide+kernel) (λx=>by kernel_rfl)
def Zm1(F:Nat)(s:(UInt64×(List UInt64)×Int×Int)):Option ((UInt64×(List UInt64)×Int×Int)⊕UInt64):=
 if(decide (s.2.2.2 < s.2.2.1))=true then
  (idx s.2.1 s.2.2.2).bind λe414=>
  (Qy F e414).bind λo415=>
  (Yl F s.1 o415).bind λo416=>
  some (.inl (o416,s.2.1,s.2.2.1,wi (s.2.2.2+1)))
 else
 some (.inr s.1)
def Zpn:Lp:=⟨[(3,.v .u64),(6,.v (.sl .u64)),(7,.v yI),(8,.v yI)],[],[.u64,(.sl .u64),yI,yI],[⟨.exit 0,[(3,.v .u64)],[],[.u64]⟩],Zc (Zm1 fuel) fuel⟩
theorem Zsc:Zpn.Ok ya (Zj ya 113) (Zm ya 113 0):=Zh (fi:={ hi:={ still:=[2,12,13,14]},lp:=[]}) (specs:={ l:=[Zck,Zgz]}) (okS ⟨Zfg,Zkn,trivial⟩) trivial (by kernel_rfl) (λv=>by kernel_rfl)
def ZnF(F:Nat)(a0:(List UInt64)):Option (UInt64):=
 (Zc (Zm1 F) F ((1:UInt64),a0,(a0.length:Int),(0:Int))).bind λo417=>
 some o417
def ZyZ(F:Nat):Fs ya:=⟨113,[.v (.sl .u64)],[],[(.sl .u64)],[⟨.ret,[(0,.v .u64)],[],[.u64]⟩],λx=>ZnF F x⟩
def ZkU:Fs ya:=ZyZ fuel
theorem Zpo:ZkU.Ok:=Zf (fi:={ hi:={ still:=[2,12,13,14]},lp:=[(0,Zpn)]}) (specs:={ l:=[]}) (okS trivial) ⟨Zsc,trivial⟩ (by decide+kernel) (λx=>by kernel_rfl)
def ZuS(F:Nat)(a0:UInt64)(a1:UInt64):Option (UInt64):=
 (ZnF F ([a0,a1]:List UInt64)).bind λo418=>
 some o418
def Zy0(F:Nat):Fs ya:=⟨169,[.v .u64,.v .u64],[],[.u64,.u64],[⟨.ret,[(0,.v .u64)],[],[.u64]⟩],λx=>ZuS F x.1 x.2⟩
def ZrA:Fs ya:=Zy0 fuel
theorem Zy1:ZrA.Ok:=Zf (fi:={ hi:={ still:=[4,7]},lp:=[]}) (specs:={ l:=[ZkU]}) (okS ⟨Zpo,trivial⟩) trivial (by decide+kernel) (λx=>by kernel_rfl)
def Zhu(F:Nat)(a0:UInt64):Option (UInt64):=
 some (a0 % 2305843009213688669)
def ZBk(F:Nat):Fs ya:=⟨182,[.v .u64],[],[.u64],[⟨.ret,[(0,.v .u64)],[],[.u64]⟩],λx=>Zhu F x⟩
def ZnG:Fs ya:=ZBk fuel
theorem ZrB:ZnG.Ok:=Zf (fi:={ hi:={ still:=[2]},lp:=[]}) (specs:={ l:=[]}) (okS trivial) trivial (by decide+kernel) (λx=>by kernel_rfl)
def Zjk(F:Nat)(a0:UInt64)(a1:UInt64):Option (UInt64):=
 some ((a0+a1) % 2305843009213688669)
def Zpp(F:Nat):Fs ya:=⟨183,[.v .u64,.v .u64],[],[.u64,.u64],[⟨.ret,[(0,.v .u64)],[],[.u64]⟩],λx=>Zjk F x.1 x.2⟩
def Zhv:Fs ya:=Zpp fuel
theorem Zpq:Zhv.Ok:=Zf (fi:={ hi:={ still:=[4]},lp:=[]}) (specs:={ l:=[]}) (okS trivial) trivial (by decide+kernel) (λx=>by kernel_rfl)
def ZuT(F:Nat)(a0:UInt64)(a1:UInt64):Option (UInt64):=
 (Zhu F a0).bind λo419=>
 (Zhu F a1).bind λo420=>
 (Zjk F o419 o420).bind λo421=>
 some o421
def Zy2(F:Nat):Fs ya:=⟨170,[.v .u64,.v .u64],[],[.u64,.u64],[⟨.ret,[(0,.v .u64)],[],[.u64]⟩],λx=>ZuT F x.1 x.2⟩
def ZrC:Fs ya:=Zy2 fuel
theorem Zy3:ZrC.Ok:=Zf (fi:={ hi:={ still:=[4,5,6,7,8]},lp:=[]}) (specs:={ l:=[ZnG,Zhv]}) (okS ⟨ZrB,Zpq,trivial⟩) trivial (by decide+kernel) (λx=>by kernel_rfl)
def Zhw(F:Nat)(a0:UInt64)(a1:UInt64):Option (UInt64):=
 (Zf8 F a0 a1).bind λo422=>
 (W3 F o422.1 o422.2 (2305843009213688669:UInt64)).bind λo423=>
 some o423
def ZnH(F:Nat):Fs ya:=⟨184,[.v .u64,.v .u64],[],[.u64,.u64],[⟨.ret,[(0,.v .u64)],[],[.u64]⟩],λx=>Zhw F x.1 x.2⟩
def Zgk:Fs ya:=ZnH fuel
theorem ZnI:Zgk.Ok:=Zf (fi:={ hi:={ still:=[4,8,9,13,14]},lp:=[]}) (specs:={ l:=[Zie,Zd6]}) (okS ⟨ZmI,Zgy,trivial⟩) trivial (by decide+kernel) (λx=>by kernel_rfl)
def ZuU(F:Nat)(a0:UInt64)(a1:UInt64):Option (UInt64):=
 (Zhu F a0).bind λo424=>
 (Zhu F a1).bind λo425=>
 (Zhw F o424 o425).bind λo426=>
 some o426
def Zy4(F:Nat):Fs ya:=⟨171,[.v .u64,.v .u64],[],[.u64,.u64],[⟨.ret,[(0,.v .u64)],[],[.u64]⟩],λx=>ZuU F x.1 x.2⟩
def ZrD:Fs ya:=Zy4 fuel
theorem Zy5:ZrD.Ok:=Zf (fi:={ hi:={ still:=[4,5,6,7,8]},lp:=[]}) (specs:={ l:=[ZnG,Zgk]}) (okS ⟨ZrB,ZnI,trivial⟩) trivial (by decide+kernel) (λx=>by kernel_rfl)
def Zpr(F:Nat)(a0:UInt64)(a1:UInt64)(a2:(List UInt8))(a3:UInt64):Option (Sig):=
 (Xi F a1).bind λo427=>
 (ZuS F o427 a3).bind λo428=>
 (Xi F a0).bind λo429=>
 (Zds F o428 o429 a2).bind λo430=>
 (ZuU F o430 a0).bind λo431=>
 (ZuT F a1 o431).bind λo432=>
 some (o428,o432)
def ZuV(F:Nat):Fs ya:=⟨141,[.v .u64,.v .u64,.v (.arr 32 .u8),.v .u64],[],[.u64,.u64,(.arr 32 .u8),.u64],[⟨.ret,[(0,.v Z9)],[],[Z9]⟩],λx=>Zpr F x.1 x.2.1 x.2.2.1 x.2.2.2⟩
def Zm2:Fs ya:=ZuV fuel
theorem ZuW:Zm2.Ok:=Zf (fi:={ hi:={ still:=[9,10,11,14,16,17,18,19,20,21,22]},lp:=[]}) (specs:={ l:=[Za1,ZrA,ZbX,ZrD,ZrC]}) (okS ⟨Zcl,Zy1,Zgj,Zy5,Zy3,trivial⟩) trivial (by decide+kernel) (λx=>by kernel_rfl)
def ZMy:ByteArray:=⟨#[110,111,110,99,101]⟩
def ZuX(F:Nat)(a0:UInt64)(a1:(List UInt8)):Option (Sig):=
 (Zw8 F a0).bind λo433=>
 if(!o433)=true then
  some ((0:UInt64),(0:UInt64))
 else
 (Zgi F a0).bind λo434=>
 (ZlT F ZMy ([o434,a1]:List (List UInt8))).bind λo435=>
 (ZcB F o435).bind λo436=>
 (Zpr F a0 o436 a1 (1:UInt64)).bind λo437=>
 some o437
def Zy6(F:Nat):Fs ya:=⟨101,[.v .u64,.v (.arr 32 .u8)],[],[.u64,(.arr 32 .u8)],[⟨.ret,[(0,.v Z9)],[],[Z9]⟩],λx=>ZuX F x.1 x.2⟩
def ZrE:Fs ya:=Zy6 fuel
theorem Zy7:ZrE.Ok:=Zf (fi:={ hi:={ still:=[5,9,10,13,14,15,16],frz:=[12]},lp:=[]}) (specs:={ l:=[ZuP,Zis,Zip,Zir,Zm2]}) (okS ⟨ZBj,Zm0,ZkO,ZmY,ZuW,trivial⟩) trivial (by decide+kernel) (λx=>by kernel_rfl)
abbrev ZR:Ty:=(.st [.u64,.u64,.u64,.u64,.u64,(.arr 32 .u8)])
abbrev Kit:Type:=(UInt64×UInt64×UInt64×UInt64×UInt64×(List UInt8))
abbrev Kit.Cond(x:Kit):UInt64:=x.2.2.2.1
def Zps(F:Nat)(a0:Kit)(a1:Tx):Option (Sig):=
 (ZIa F a1).bind λo438=>
 (ZuX F a0.1 o438).bind λo439=>
 some o439
def Zfh(F:Nat):Fs ya:=⟨45,[.v ZR,.v yTx],[],[ZR,yTx],[⟨.ret,[(0,.v Z9)],[],[Z9]⟩],λx=>Zps F x.1 x.2⟩
def Zm3:Fs ya:=Zfh fuel
theorem ZkV:Zm3.Ok:=Zf (fi:={ hi:={ still:=[6,7,8]},lp:=[]}) (specs:={ l:=[ZEp,ZrE]}) (okS ⟨ZBh,Zy7,trivial⟩) trivial (by decide+kernel) (λx=>by kernel_rfl)
def XC(F:Nat)(a0:(List UInt64)):Option ((List UInt64)):=
 if(apB 0 a0.length 8)=true then
  some a0
 else
 none
def Zqx(F:Nat):Fs ya:=⟨110,[.sl true .u64],[],[(.sl .u64)],[⟨.ret,[(0,.v (.sl .u64))],[],[(.sl .u64)]⟩],λx=>XC F x⟩
def Zsd:Fs ya:=Zqx fuel
theorem Zqy:Zsd.Ok:=Zf (fi:={ hi:={ own:=[5,7],still:=[2]},lp:=[]}) (specs:={ l:=[]}) (okS trivial) trivial (by decide+kernel) (λx=>by kernel_rfl)
def Zgl(F:Nat):Option ((List UInt64)):=
 some ([]:List UInt64)
def Zl4(F:Nat):Fs ya:=⟨110,[.nil .u64],[],[],[⟨.ret,[(0,.v (.sl .u64))],[],[(.sl .u64)]⟩],λx=>Zgl F⟩
def ZnJ:Fs ya:=Zl4 fuel
theorem Zl5:ZnJ.Ok:=Zf (fi:={ hi:={ own:=[5,7],still:=[2]},lp:=[]}) (specs:={ l:=[]}) (okS trivial) trivial (by decide+kernel) (λx=>by kernel_rfl)
def ZnK(F:Nat):Fs ya:=⟨110,[.v (.sl .u64)],[],[(.sl .u64)],[⟨.ret,[(0,.v (.sl .u64))],[],[(.sl .u64)]⟩],λx=>XC F x⟩
def XK:Fs ya:=ZnK fuel
theorem We:XK.Ok:=Zqa (t:=.u64) (xs:=[⟨.ret,[(0,.v (.sl .u64))],[],[(.sl .u64)]⟩]) (MA:=λ(x:(List UInt64))=>XC fuel x) (MB:=λ_=>Zgl fuel) Zqy Zl5 rfl
def ZBl(F:Nat)(a0:(List ZC)):Option ((List ZC)):=
 if(apB 0 a0.length 48)=true then
  some a0
 else
 none
def Zv6(F:Nat):Fs ya:=⟨130,[.sl true Zo],[],[(.sl Zo)],[⟨.ret,[(0,.v (.sl Zo))],[],[(.sl Zo)]⟩],λx=>ZBl F x⟩
def Zy8:Fs ya:=Zv6 fuel
theorem ZIM:Zy8.Ok:=Zf (fi:={ hi:={ own:=[5,7],still:=[2]},lp:=[]}) (specs:={ l:=[]}) (okS trivial) trivial (by decide+kernel) (λx=>by kernel_rfl)
def ZJS(F:Nat)(a0:(List In)):Option ((List In)):=
 if(apB 0 a0.length 80)=true then
  some a0
 else
 none
def ZFH(F:Nat):Fs ya:=⟨144,[.sl true yIn],[],[(.sl yIn)],[⟨.ret,[(0,.v (.sl yIn))],[],[(.sl yIn)]⟩],λx=>ZJS F x⟩
def ZIb:Fs ya:=ZFH fuel
theorem ZLY:ZIb.Ok:=Zf (fi:={ hi:={ own:=[5,7],still:=[2]},lp:=[]}) (specs:={ l:=[]}) (okS trivial) trivial (by decide+kernel) (λx=>by kernel_rfl)
def Zek(F:Nat)(a0:(List Out)):Option ((List Out)):=
 if(apB 0 a0.length 32)=true then
  some a0
 else
 none
def ZuY(F:Nat):Fs ya:=⟨145,[.sl true Zy],[],[(.sl Zy)],[⟨.ret,[(0,.v (.sl Zy))],[],[(.sl Zy)]⟩],λx=>Zek F x⟩
def Zv7:Fs ya:=ZuY fuel
theorem ZuZ:Zv7.Ok:=Zf (fi:={ hi:={ own:=[5,7],still:=[2]},lp:=[]}) (specs:={ l:=[]}) (okS trivial) trivial (by decide+kernel) (λx=>by kernel_rfl)
def Zjl(F:Nat):Option ((List Out)):=
 some ([]:List Out)
def Zpt(F:Nat):Fs ya:=⟨145,[.nil Zy],[],[],[⟨.ret,[(0,.v (.sl Zy))],[],[(.sl Zy)]⟩],λx=>Zjl F⟩
def Zqz:Fs ya:=Zpt fuel
theorem Zpu:Zqz.Ok:=Zf (fi:={ hi:={ own:=[5,7],still:=[2]},lp:=[]}) (specs:={ l:=[]}) (okS trivial) trivial (by decide+kernel) (λx=>by kernel_rfl)
def ZqA(F:Nat):Fs ya:=⟨145,[.v (.sl Zy)],[],[(.sl Zy)],[⟨.ret,[(0,.v (.sl Zy))],[],[(.sl Zy)]⟩],λx=>Zek F x⟩
def Zse:Fs ya:=ZqA fuel
theorem ZqB:Zse.Ok:=Zqa (t:=Zy) (xs:=[⟨.ret,[(0,.v (.sl Zy))],[],[(.sl Zy)]⟩]) (MA:=λ(x:(List Out))=>Zek fuel x) (MB:=λ_=>Zjl fuel) ZuZ Zpu rfl
def Zfi(F:Nat)(a0:(List Sig)):Option ((List Sig)):=
 if(apB 0 a0.length 16)=true then
  some a0
 else
 none
def ZC7(F:Nat):Fs ya:=⟨146,[.sl true Z9],[],[(.sl Z9)],[⟨.ret,[(0,.v (.sl Z9))],[],[(.sl Z9)]⟩],λx=>Zfi F x⟩
def ZFI:Fs ya:=ZC7 fuel
theorem ZC8:ZFI.Ok:=Zf (fi:={ hi:={ own:=[5,7],still:=[2]},lp:=[]}) (specs:={ l:=[]}) (okS trivial) trivial (by decide+kernel) (λx=>by kernel_rfl)
def ZrF(F:Nat):Option ((List Sig)):=
 some ([]:List Sig)
def Zv8(F:Nat):Fs ya:=⟨146,[.nil Z9],[],[],[⟨.ret,[(0,.v (.sl Z9))],[],[(.sl Z9)]⟩],λx=>ZrF F⟩
def Zy9:Fs ya:=Zv8 fuel
theorem Zv9:Zy9.Ok:=Zf (fi:={ hi:={ own:=[5,7],still:=[2]},lp:=[]}) (specs:={ l:=[]}) (okS trivial) trivial (by decide+kernel) (λx=>by kernel_rfl)
def Zza(F:Nat):Fs ya:=⟨146,[.v (.sl Z9)],[],[(.sl Z9)],[⟨.ret,[(0,.v (.sl Z9))],[],[(.sl Z9)]⟩],λx=>Zfi F x⟩
def ZcC:Fs ya:=Zza fuel
theorem Zel:ZcC.Ok:=Zqa (t:=Z9) (xs:=[⟨.ret,[(0,.v (.sl Z9))],[],[(.sl Z9)]⟩]) (MA:=λ(x:(List Sig))=>Zfi fuel x) (MB:=λ_=>ZrF fuel) ZC8 Zv9 rfl
def ZnL(F:Nat)(a0:(List In)):Option (((List Unit)×(List In))):=
 if(apB 0 a0.length 80)=true then
  some (([()]:List Unit),a0)
 else
 none
def Zzb(F:Nat):Fs ya:=⟨144,[.sl true yIn],[],[(.sl yIn)],[⟨.ret,[(0,.rw 0)],[.row yIn true 104],[(.sl (.st [])),(.sl yIn)]⟩],λx=>ZnL F x⟩
def ZBm:Fs ya:=Zzb fuel
theorem Zzc:ZBm.Ok:=Zf (fi:={ hi:={ own:=[5,7],rowt:=[2,5,7]},lp:=[]}) (specs:={ l:=[]}) (okS trivial) trivial (by decide+kernel) (λx=>by kernel_rfl)
def Zit(F:Nat)(a0:(List In)):Option (((List Unit)×(List In))):=if a0.isEmpty=true then none else ZnL F a0
def Zu0(F:Nat):Fs ya:=⟨144,[.v (.sl yIn)],[],[(.sl yIn)],[⟨.ret,[(0,.rw 0)],[.row yIn true 104],[(.sl (.st [])),(.sl yIn)]⟩],λx=>Zit F x⟩
def ZgN:Fs ya:=Zu0 fuel
theorem ZkW:ZgN.Ok:=ZyH (t:=yIn) (xs:=[⟨.ret,[(0,.rw 0)],[.row yIn true 104],[(.sl (.st [])),(.sl yIn)]⟩]) (MA:=λ(x:(List In))=>ZnL fuel x) Zzc rfl (λ_ _=>rfl)
def Zdt(F:Nat)(a0:(List Out)):Option (((List Unit)×(List Out))):=
 if(apB 0 a0.length 32)=true then
  some (([()]:List Unit),a0)
 else
 none
def Zpv(F:Nat):Fs ya:=⟨145,[.sl true Zy],[],[(.sl Zy)],[⟨.ret,[(0,.rw 0)],[.row Zy true 96],[(.sl (.st [])),(.sl Zy)]⟩],λx=>Zdt F x⟩
def ZqC:Fs ya:=Zpv fuel
theorem Zpw:ZqC.Ok:=Zf (fi:={ hi:={ own:=[5,7],rowt:=[2,5,7]},lp:=[]}) (specs:={ l:=[]}) (okS trivial) trivial (by decide+kernel) (λx=>by kernel_rfl)
def Zgm(F:Nat)(a0:(List Out)):Option (((List Unit)×(List Out))):=if a0.isEmpty=true then none else Zdt F a0
def Zl6(F:Nat):Fs ya:=⟨145,[.v (.sl Zy)],[],[(.sl Zy)],[⟨.ret,[(0,.rw 0)],[.row Zy true 96],[(.sl (.st [])),(.sl Zy)]⟩],λx=>Zgm F x⟩
def ZnM:Fs ya:=Zl6 fuel
theorem Zl7:ZnM.Ok:=ZyH (t:=Zy) (xs:=[⟨.ret,[(0,.rw 0)],[.row Zy true 96],[(.sl (.st [])),(.sl Zy)]⟩]) (MA:=λ(x:(List Out))=>Zdt fuel x) Zpw rfl (λ_ _=>rfl)
def Zac(F:Nat)(a0:(List Out)):Option (((List Unit)×(List Out))⊕(List Out)):=if a0.isEmpty=true then(Zek F a0).map Sum.inr else(Zgm F a0).map Sum.inl
def ZkX(F:Nat):Fs ya:=⟨145,[.v (.sl Zy)],[],[(.sl Zy)],[⟨.ret,[(0,.rw 0)],[.row Zy true 96],[(.sl (.st [])),(.sl Zy)]⟩,⟨.ret,[(0,.v (.sl Zy))],[],[(.sl Zy)]⟩],λx=>Zac F x⟩
def QJ:Fs ya:=ZkX fuel
theorem ZcD:QJ.Ok:=ZMg (ins:=[(.sl Zy)]) (λx:(List Out)=>x.isEmpty) Zl7 ZqB
def Zfj(F:Nat)(a0:(List ZC)):Option (((List Unit)×(List ZC))):=
 if(apB 0 a0.length 48)=true then
  some (([()]:List Unit),a0)
 else
 none
def ZqD(F:Nat):Fs ya:=⟨130,[.sl true Zo],[],[(.sl Zo)],[⟨.ret,[(0,.rw 0)],[.row Zo true 126],[(.sl (.st [])),(.sl Zo)]⟩],λx=>Zfj F x⟩
def Zsf:Fs ya:=ZqD fuel
theorem ZqE:Zsf.Ok:=Zf (fi:={ hi:={ own:=[5,7],rowt:=[2,5,7]},lp:=[]}) (specs:={ l:=[]}) (okS trivial) trivial (by decide+kernel) (λx=>by kernel_rfl)
def W1(F:Nat)(a0:(List ZC)):Option (((List Unit)×(List ZC))):=if a0.isEmpty=true then none else Zfj F a0
def ZnN(F:Nat):Fs ya:=⟨130,[.v (.sl Zo)],[],[(.sl Zo)],[⟨.ret,[(0,.rw 0)],[.row Zo true 126],[(.sl (.st [])),(.sl Zo)]⟩],λx=>W1 F x⟩
def WA:Fs ya:=ZnN fuel
theorem Vi:WA.Ok:=ZyH (t:=Zo) (xs:=[⟨.ret,[(0,.rw 0)],[.row Zo true 126],[(.sl (.st [])),(.sl Zo)]⟩]) (MA:=λ(x:(List ZC))=>Zfj fuel x) ZqE rfl (λ_ _=>rfl)
def Zgn(F:Nat)(s:(Int×Int×Int×Tx×(List Unit)×(List In)×(List Unit)×(List Out))):Option ((Int×Int×Int×Tx×(List Unit)×(List In)×(List Unit)×(List Out))⊕(Int×Tx×(List Unit)×(List In)×(List Unit)×(List Out))):=
 if(decide (s.2.1 < s.1))=true then
  if(inB s.2.1 s.2.2.2.2.2.1.length)=true then
   (s.2.2.2.2.2.1[s.2.1.toNat]?).bind λe461=>
   (Zfi F e461.2.2.1).bind λo462=>
   if(inB s.2.1 s.2.2.2.2.2.1.length)=true then
    (s.2.2.2.2.2.1[s.2.1.toNat]?).bind λe463=>
    let y464:(List In):=s.2.2.2.2.2.1.set s.2.1.toNat (e463.1,(e463.2.1,o462,e463.2.2.2))
    some (.inl (s.1,wi (s.2.1+1),s.2.2.1,s.2.2.2.1,s.2.2.2.2.1,y464,s.2.2.2.2.2.2.1,s.2.2.2.2.2.2.2))
   else
   none
  else
  none
 else
 some (.inr (s.2.2.1,s.2.2.2.1,s.2.2.2.2.1,s.2.2.2.2.2.1,s.2.2.2.2.2.2.1,s.2.2.2.2.2.2.2))
def Zhx:Lp:=⟨[(1,.ref 0 []),(2,.ref 1 []),(17,.v yI),(18,.v yI)],[.var (.agg [.rw 2,.rw 3,.v yI]) true,.var (.v yTx) true,.row yIn true 104,.row Zy true 96],[yI,yI,yI,yTx,(.sl (.st [])),(.sl yIn),(.sl (.st [])),(.sl Zy)],[⟨.exit 0,[(1,.ref 0 []),(2,.ref 1 [])],[.var (.agg [.rw 2,.rw 3,.v yI]) true,.var (.v yTx) true,.row yIn true 104,.row Zy true 96],[yI,yTx,(.sl (.st [])),(.sl yIn),(.sl (.st [])),(.sl Zy)]⟩],Zc (Zgn fuel) fuel⟩
theorem Zl8:Zhx.Ok ya (Zj ya 102) (Zm ya 102 0):=Zh (fi:={ hi:={ still:=[8,11,30,48,61,69],rowt:=[5,9,12,22,49,55,67],deep:=[64]},lp:=[]}) (specs:={ l:=[ZcC]}) (okS ⟨Zel,trivial⟩) trivial (by kernel_rfl) (λv=>by kernel_rfl)
def Zgo(F:Nat)(s:(Int×Int×Int×Int×Int×Int×Tx×(List Unit)×(List In)×(List Unit)×(List Out)×(List Unit)×(List ZC))):Option ((Int×Int×Int×Int×Int×Int×Tx×(List Unit)×(List In)×(List Unit)×(List Out)×(List Unit)×(List ZC))⊕(Int×Int×Int×Int×Tx×(List Unit)×(List In)×(List Unit)×(List Out)×(List Unit)×(List ZC))):=
 if(decide (s.2.2.2.2.1 < s.2.2.2.1))=true then
  if(inB s.2.2.2.2.1 s.2.2.2.2.2.2.2.2.2.2.2.2.length)=true then
   (s.2.2.2.2.2.2.2.2.2.2.2.2[s.2.2.2.2.1.toNat]?).bind λe468=>
   (XC F e468.1).bind λo469=>
   if(inB s.2.2.2.2.1 s.2.2.2.2.2.2.2.2.2.2.2.2.length)=true then
    (s.2.2.2.2.2.2.2.2.2.2.2.2[s.2.2.2.2.1.toNat]?).bind λe470=>
    let y471:(List ZC):=s.2.2.2.2.2.2.2.2.2.2.2.2.set s.2.2.2.2.1.toNat (o469,e470.2.1,e470.2.2.1,e470.2.2.2)
    some (.inl (s.1,s.2.1,s.2.2.1,s.2.2.2.1,wi (s.2.2.2.2.1+1),s.2.2.2.2.2.1,s.2.2.2.2.2.2.1,s.2.2.2.2.2.2.2.1,s.2.2.2.2.2.2.2.2.1,s.2.2.2.2.2.2.2.2.2.1,s.2.2.2.2.2.2.2.2.2.2.1,s.2.2.2.2.2.2.2.2.2.2.2.1,y471))
   else
   none
  else
  none
 else
 some (.inr (s.1,s.2.1,s.2.2.1,s.2.2.2.2.2.1,s.2.2.2.2.2.2.1,s.2.2.2.2.2.2.2.1,s.2.2.2.2.2.2.2.2.1,s.2.2.2.2.2.2.2.2.2.1,s.2.2.2.2.2.2.2.2.2.2.1,s.2.2.2.2.2.2.2.2.2.2.2.1,s.2.2.2.2.2.2.2.2.2.2.2.2))
def Zhy:Lp:=⟨[(1,.ref 0 []),(2,.ref 1 []),(4,.v yI),(5,.rw 4),(38,.v yI),(39,.v yI),(51,.v yI),(52,.v yI)],[.var (.agg [.rw 2,.rw 3,.v yI]) true,.var (.v yTx) true,.row yIn true 104,.row Zy true 96,.row Zo true 126],[yI,yI,yI,yI,yI,yI,yTx,(.sl (.st [])),(.sl yIn),(.sl (.st [])),(.sl Zy),(.sl (.st [])),(.sl Zo)],[⟨.exit 4,[(1,.ref 0 []),(2,.ref 1 []),(4,.v yI),(5,.rw 4),(38,.v yI),(39,.v yI)],[.var (.agg [.rw 2,.rw 3,.v yI]) true,.var (.v yTx) true,.row yIn true 104,.row Zy true 96,.row Zo true 126],[yI,yI,yI,yI,yTx,(.sl (.st [])),(.sl yIn),(.sl (.st [])),(.sl Zy),(.sl (.st [])),(.sl Zo)]⟩],Zc (Zgo fuel) fuel⟩
theorem Zl9:Zhy.Ok ya (Zj ya 102) (Zm ya 102 2):=Zh (fi:={ hi:={ still:=[8,11,30,48,61,69],rowt:=[5,9,12,22,49,55,67],deep:=[64]},lp:=[]}) (specs:={ l:=[XK]}) (okS ⟨We,trivial⟩) trivial (by kernel_rfl) (λv=>by kernel_rfl)
def Zgp(F:Nat)(s:(Int×Int×Int×Tx×(List Unit)×(List In)×(List Unit)×(List Out))):Option ((Int×Int×Int×Tx×(List Unit)×(List In)×(List Unit)×(List Out))⊕(Int×Tx×(List Unit)×(List In)×(List Unit)×(List Out))):=
 if(decide (s.2.1 < s.1))=true then
  if(inB s.2.1 s.2.2.2.2.2.2.2.length)=true then
   (s.2.2.2.2.2.2.2[s.2.1.toNat]?).bind λe466=>
   (W1 F e466.2).bind λo467=>
   (Zc (Zgo F) F (s.2.1,s.1,s.2.1,(o467.2.length:Int),(0:Int),s.2.2.1,s.2.2.2.1,s.2.2.2.2.1,s.2.2.2.2.2.1,s.2.2.2.2.2.2.1,s.2.2.2.2.2.2.2,o467.1,o467.2)).bind λo472=>
   if(inB o472.1 o472.2.2.2.2.2.2.2.2.1.length)=true then
    (o472.2.2.2.2.2.2.2.2.1[o472.1.toNat]?).bind λe473=>
    let y474:(List Out):=o472.2.2.2.2.2.2.2.2.1.set o472.1.toNat (e473.1,o472.2.2.2.2.2.2.2.2.2.2)
    some (.inl (o472.2.1,wi (o472.2.2.1+1),o472.2.2.2.1,o472.2.2.2.2.1,o472.2.2.2.2.2.1,o472.2.2.2.2.2.2.1,o472.2.2.2.2.2.2.2.1,y474))
   else
   none
  else
  none
 else
 some (.inr (s.2.2.1,s.2.2.2.1,s.2.2.2.2.1,s.2.2.2.2.2.1,s.2.2.2.2.2.2.1,s.2.2.2.2.2.2.2))
def Zhz:Lp:=⟨[(1,.ref 0 []),(2,.ref 1 []),(38,.v yI),(39,.v yI)],[.var (.agg [.rw 2,.rw 3,.v yI]) true,.var (.v yTx) true,.row yIn true 104,.row Zy true 96],[yI,yI,yI,yTx,(.sl (.st [])),(.sl yIn),(.sl (.st [])),(.sl Zy)],[⟨.exit 2,[(1,.ref 0 []),(2,.ref 1 [])],[.var (.agg [.rw 2,.rw 3,.v yI]) true,.var (.v yTx) true,.row yIn true 104,.row Zy true 96],[yI,yTx,(.sl (.st [])),(.sl yIn),(.sl (.st [])),(.sl Zy)]⟩],Zc (Zgp fuel) fuel⟩
theorem Zma:Zhz.Ok ya (Zj ya 102) (Zm ya 102 1):=Zh (fi:={ hi:={ still:=[8,11,30,48,61,69],rowt:=[5,9,12,22,49,55,67],deep:=[64]},lp:=[(2,Zhy)]}) (specs:={ l:=[WA]}) (okS ⟨Vi,trivial⟩) ⟨Zl9,trivial⟩ (by kernel_rfl) (λv=>by kernel_rfl)
def ZdC(F:Nat)(s:(Int×Int×(List Out)×Int×Tx×(List Unit)×(List In))):Option ((Int×Int×(List Out)×Int×Tx×(List Unit)×(List In))⊕((List Out)×Int×Tx×(List Unit)×(List In))):=
 if(decide (s.2.1 < s.1))=true then
  if(inB s.2.1 s.2.2.2.2.2.2.length)=true then
   (s.2.2.2.2.2.2[s.2.1.toNat]?).bind λe477=>
   (Zfi F e477.2.2.1).bind λo478=>
   if(inB s.2.1 s.2.2.2.2.2.2.length)=true then
    (s.2.2.2.2.2.2[s.2.1.toNat]?).bind λe479=>
    let y480:(List In):=s.2.2.2.2.2.2.set s.2.1.toNat (e479.1,(e479.2.1,o478,e479.2.2.2))
    some (.inl (s.1,wi (s.2.1+1),s.2.2.1,s.2.2.2.1,s.2.2.2.2.1,s.2.2.2.2.2.1,y480))
   else
   none
  else
  none
 else
 some (.inr (s.2.2.1,s.2.2.2.1,s.2.2.2.2.1,s.2.2.2.2.2.1,s.2.2.2.2.2.2))
def Zfk:Lp:=⟨[(1,.ref 0 []),(2,.ref 1 []),(17,.v yI),(18,.v yI)],[.var (.agg [.rw 2,.v (.sl Zy),.v yI]) true,.var (.v yTx) true,.row yIn true 104],[yI,yI,(.sl Zy),yI,yTx,(.sl (.st [])),(.sl yIn)],[⟨.exit 0,[(1,.ref 0 []),(2,.ref 1 [])],[.var (.agg [.rw 2,.v (.sl Zy),.v yI]) true,.var (.v yTx) true,.row yIn true 104],[(.sl Zy),yI,yTx,(.sl (.st [])),(.sl yIn)]⟩],Zc (ZdC fuel) fuel⟩
theorem Zjt:Zfk.Ok ya (Zj ya 102) (Zm ya 102 0):=Zh (fi:={ hi:={ still:=[8,11,30,48,61,69],rowt:=[5,9,12,22,49,55,67],deep:=[64]},lp:=[]}) (specs:={ l:=[ZcC]}) (okS ⟨Zel,trivial⟩) trivial (by kernel_rfl) (λv=>by kernel_rfl)
def Za2(F:Nat)(s:(Int×Int×Int×Int×Int×(List Out)×Int×Tx×(List Unit)×(List In)×(List Unit)×(List ZC))):Option ((Int×Int×Int×Int×Int×(List Out)×Int×Tx×(List Unit)×(List In)×(List Unit)×(List ZC))⊕(Int×Int×Int×(List Out)×Int×Tx×(List Unit)×(List In)×(List Unit)×(List ZC))):=
 if(decide (s.2.2.2.2.1 < s.2.2.2.1))=true then
  if(inB s.2.2.2.2.1 s.2.2.2.2.2.2.2.2.2.2.2.length)=true then
   (s.2.2.2.2.2.2.2.2.2.2.2[s.2.2.2.2.1.toNat]?).bind λe484=>
   (XC F e484.1).bind λo485=>
   if(inB s.2.2.2.2.1 s.2.2.2.2.2.2.2.2.2.2.2.length)=true then
    (s.2.2.2.2.2.2.2.2.2.2.2[s.2.2.2.2.1.toNat]?).bind λe486=>
    let y487:(List ZC):=s.2.2.2.2.2.2.2.2.2.2.2.set s.2.2.2.2.1.toNat (o485,e486.2.1,e486.2.2.1,e486.2.2.2)
    some (.inl (s.1,s.2.1,s.2.2.1,s.2.2.2.1,wi (s.2.2.2.2.1+1),s.2.2.2.2.2.1,s.2.2.2.2.2.2.1,s.2.2.2.2.2.2.2.1,s.2.2.2.2.2.2.2.2.1,s.2.2.2.2.2.2.2.2.2.1,s.2.2.2.2.2.2.2.2.2.2.1,y487))
   else
   none
  else
  none
 else
 some (.inr (s.1,s.2.1,s.2.2.1,s.2.2.2.2.2.1,s.2.2.2.2.2.2.1,s.2.2.2.2.2.2.2.1,s.2.2.2.2.2.2.2.2.1,s.2.2.2.2.2.2.2.2.2.1,s.2.2.2.2.2.2.2.2.2.2.1,s.2.2.2.2.2.2.2.2.2.2.2))
def Zbj:Lp:=⟨[(1,.ref 0 []),(2,.ref 1 []),(4,.v yI),(5,.rw 3),(38,.v yI),(39,.v yI),(51,.v yI),(52,.v yI)],[.var (.agg [.rw 2,.v (.sl Zy),.v yI]) true,.var (.v yTx) true,.row yIn true 104,.row Zo true 126],[yI,yI,yI,yI,yI,(.sl Zy),yI,yTx,(.sl (.st [])),(.sl yIn),(.sl (.st [])),(.sl Zo)],[⟨.exit 4,[(1,.ref 0 []),(2,.ref 1 []),(4,.v yI),(5,.rw 3),(38,.v yI),(39,.v yI)],[.var (.agg [.rw 2,.v (.sl Zy),.v yI]) true,.var (.v yTx) true,.row yIn true 104,.row Zo true 126],[yI,yI,yI,(.sl Zy),yI,yTx,(.sl (.st [])),(.sl yIn),(.sl (.st [])),(.sl Zo)]⟩],Zc (Za2 fuel) fuel⟩
theorem ZgO:Zbj.Ok ya (Zj ya 102) (Zm ya 102 2):=Zh (fi:={ hi:={ still:=[8,11,30,48,61,69],rowt:=[5,9,12,22,49,55,67],deep:=[64]},lp:=[]}) (specs:={ l:=[XK]}) (okS ⟨We,trivial⟩) trivial (by kernel_rfl) (λv=>by kernel_rfl)
def ZdD(F:Nat)(s:(Int×Int×(List Out)×Int×Tx×(List Unit)×(List In))):Option ((Int×Int×(List Out)×Int×Tx×(List Unit)×(List In))⊕((List Out)×Int×Tx×(List Unit)×(List In))):=
 if(decide (s.2.1 < s.1))=true then
  (idx s.2.2.1 s.2.1).bind λe482=>
  (W1 F e482.2).bind λo483=>
  (Zc (Za2 F) F (s.2.1,s.1,s.2.1,(o483.2.length:Int),(0:Int),s.2.2.1,s.2.2.2.1,s.2.2.2.2.1,s.2.2.2.2.2.1,s.2.2.2.2.2.2,o483.1,o483.2)).bind λo488=>
  (idx o488.2.2.2.1 o488.1).bind λe489=>
  none
 else
 some (.inr (s.2.2.1,s.2.2.2.1,s.2.2.2.2.1,s.2.2.2.2.2.1,s.2.2.2.2.2.2))
def Zfl:Lp:=⟨[(1,.ref 0 []),(2,.ref 1 []),(38,.v yI),(39,.v yI)],[.var (.agg [.rw 2,.v (.sl Zy),.v yI]) true,.var (.v yTx) true,.row yIn true 104],[yI,yI,(.sl Zy),yI,yTx,(.sl (.st [])),(.sl yIn)],[⟨.exit 2,[(1,.ref 0 []),(2,.ref 1 [])],[.var (.agg [.rw 2,.v (.sl Zy),.v yI]) true,.var (.v yTx) true,.row yIn true 104],[(.sl Zy),yI,yTx,(.sl (.st [])),(.sl yIn)]⟩],Zc (ZdD fuel) fuel⟩
theorem Zju:Zfl.Ok ya (Zj ya 102) (Zm ya 102 1):=Zh (fi:={ hi:={ still:=[8,11,30,48,61,69],rowt:=[5,9,12,22,49,55,67],deep:=[64]},lp:=[(2,Zbj)]}) (specs:={ l:=[WA]}) (okS ⟨Vi,trivial⟩) ⟨ZgO,trivial⟩ (by kernel_rfl) (λv=>by kernel_rfl)
def Zu1(F:Nat)(a0:Tx):Option (Tx):=
 (Zit F a0.1).bind λo458=>
 (Zac F a0.2.1).bind λo459=>
 match o459 with
 |.inl o460=>
  (Zc (Zgn F) F ((o458.2.length:Int),(0:Int),a0.2.2,(([]:List In),([]:List Out),(0:Int)),o458.1,o458.2,o460.1,o460.2)).bind λo465=>
  (Zc (Zgp F) F ((o465.2.2.2.2.2.length:Int),(0:Int),o465.1,o465.2.1,o465.2.2.1,o465.2.2.2.1,o465.2.2.2.2.1,o465.2.2.2.2.2)).bind λo475=>
  some (o475.2.2.2.1,o475.2.2.2.2.2,o475.1)
 |.inr o476=>
  (Zc (ZdC F) F ((o458.2.length:Int),(0:Int),o476,a0.2.2,(([]:List In),([]:List Out),(0:Int)),o458.1,o458.2)).bind λo481=>
  (Zc (ZdD F) F ((o481.1.length:Int),(0:Int),o481.1,o481.2.1,o481.2.2.1,o481.2.2.2.1,o481.2.2.2.2)).bind λo490=>
  some (o490.2.2.2.2,o490.1,o490.2.1)
def ZqF(F:Nat):Fs ya:=⟨102,[.v yTx],[],[yTx],[⟨.ret,[(0,.v yTx)],[],[yTx]⟩],λx=>Zu1 F x⟩
def Zsg:Fs ya:=ZqF fuel
theorem ZFJ:Zsg.Ok:=ZD9 (fi:={ hi:={ still:=[8,11,30,48,61,69],rowt:=[5,9,12,22,49,55,67],deep:=[64]},lp:=[(0,Zhx),(0,Zfk),(1,Zhz),(1,Zfl)]}) (specs:={ l:=[ZgN,QJ]}) (okS ⟨ZkW,ZcD,trivial⟩) ⟨Zl8,Zjt,Zma,Zju,trivial⟩ (by decide+kernel) (λx=>by kernel_rfl)
def ZcE(F:Nat)(s:(Int×Int×Int×Tx×(List Unit)×(List In)×(List Unit)×(List Out))):Option ((Int×Int×Int×Tx×(List Unit)×(List In)×(List Unit)×(List Out))⊕(Int×Tx×(List Unit)×(List In)×(List Unit)×(List Out))):=
 if(decide (s.2.1 < s.1))=true then
  if(inB s.2.1 s.2.2.2.2.2.1.length)=true then
   (s.2.2.2.2.2.1[s.2.1.toNat]?).bind λe494=>
   (Zfi F e494.2.2.1).bind λo495=>
   if(inB s.2.1 s.2.2.2.2.2.1.length)=true then
    (s.2.2.2.2.2.1[s.2.1.toNat]?).bind λe496=>
    let y497:(List In):=s.2.2.2.2.2.1.set s.2.1.toNat (e496.1,(e496.2.1,o495,e496.2.2.2))
    some (.inl (s.1,wi (s.2.1+1),s.2.2.1,s.2.2.2.1,s.2.2.2.2.1,y497,s.2.2.2.2.2.2.1,s.2.2.2.2.2.2.2))
   else
   none
  else
  none
 else
 some (.inr (s.2.2.1,s.2.2.2.1,s.2.2.2.2.1,s.2.2.2.2.2.1,s.2.2.2.2.2.2.1,s.2.2.2.2.2.2.2))
def ZdE:Lp:=⟨[(1,.ref 0 []),(2,.ref 1 []),(17,.v yI),(18,.v yI)],[.var (.agg [.rw 2,.rw 3,.v yI]) true,.var (.v yTx) true,.row yIn true 104,.row Zy true 96],[yI,yI,yI,yTx,(.sl (.st [])),(.sl yIn),(.sl (.st [])),(.sl Zy)],[⟨.exit 0,[(1,.ref 0 []),(2,.ref 1 [])],[.var (.agg [.rw 2,.rw 3,.v yI]) true,.var (.v yTx) true,.row yIn true 104,.row Zy true 96],[yI,yTx,(.sl (.st [])),(.sl yIn),(.sl (.st [])),(.sl Zy)]⟩],Zc (ZcE fuel) fuel⟩
theorem Ziu:ZdE.Ok ya (Zj ya 102) (Zm ya 102 0):=Zh (fi:={ hi:={ still:=[8,11,30,48,61,69],rowt:=[5,9,12,22,49,55,67]},lp:=[]}) (specs:={ l:=[ZcC]}) (okS ⟨Zel,trivial⟩) trivial (by kernel_rfl) (λv=>by kernel_rfl)
def ZcF(F:Nat)(s:(Int×Int×Int×Int×Int×Int×Tx×(List Unit)×(List In)×(List Unit)×(List Out)×(List Unit)×(List ZC))):Option ((Int×Int×Int×Int×Int×Int×Tx×(List Unit)×(List In)×(List Unit)×(List Out)×(List Unit)×(List ZC))⊕(Int×Int×Int×Int×Tx×(List Unit)×(List In)×(List Unit)×(List Out)×(List Unit)×(List ZC))):=
 if(decide (s.2.2.2.2.1 < s.2.2.2.1))=true then
  if(inB s.2.2.2.2.1 s.2.2.2.2.2.2.2.2.2.2.2.2.length)=true then
   (s.2.2.2.2.2.2.2.2.2.2.2.2[s.2.2.2.2.1.toNat]?).bind λe501=>
   (XC F e501.1).bind λo502=>
   if(inB s.2.2.2.2.1 s.2.2.2.2.2.2.2.2.2.2.2.2.length)=true then
    (s.2.2.2.2.2.2.2.2.2.2.2.2[s.2.2.2.2.1.toNat]?).bind λe503=>
    let y504:(List ZC):=s.2.2.2.2.2.2.2.2.2.2.2.2.set s.2.2.2.2.1.toNat (o502,e503.2.1,e503.2.2.1,e503.2.2.2)
    some (.inl (s.1,s.2.1,s.2.2.1,s.2.2.2.1,wi (s.2.2.2.2.1+1),s.2.2.2.2.2.1,s.2.2.2.2.2.2.1,s.2.2.2.2.2.2.2.1,s.2.2.2.2.2.2.2.2.1,s.2.2.2.2.2.2.2.2.2.1,s.2.2.2.2.2.2.2.2.2.2.1,s.2.2.2.2.2.2.2.2.2.2.2.1,y504))
   else
   none
  else
  none
 else
 some (.inr (s.1,s.2.1,s.2.2.1,s.2.2.2.2.2.1,s.2.2.2.2.2.2.1,s.2.2.2.2.2.2.2.1,s.2.2.2.2.2.2.2.2.1,s.2.2.2.2.2.2.2.2.2.1,s.2.2.2.2.2.2.2.2.2.2.1,s.2.2.2.2.2.2.2.2.2.2.2.1,s.2.2.2.2.2.2.2.2.2.2.2.2))
def ZdF:Lp:=⟨[(1,.ref 0 []),(2,.ref 1 []),(4,.v yI),(5,.rw 4),(38,.v yI),(39,.v yI),(51,.v yI),(52,.v yI)],[.var (.agg [.rw 2,.rw 3,.v yI]) true,.var (.v yTx) true,.row yIn true 104,.row Zy true 96,.row Zo true 126],[yI,yI,yI,yI,yI,yI,yTx,(.sl (.st [])),(.sl yIn),(.sl (.st [])),(.sl Zy),(.sl (.st [])),(.sl Zo)],[⟨.exit 4,[(1,.ref 0 []),(2,.ref 1 []),(4,.v yI),(5,.rw 4),(38,.v yI),(39,.v yI)],[.var (.agg [.rw 2,.rw 3,.v yI]) true,.var (.v yTx) true,.row yIn true 104,.row Zy true 96,.row Zo true 126],[yI,yI,yI,yI,yTx,(.sl (.st [])),(.sl yIn),(.sl (.st [])),(.sl Zy),(.sl (.st [])),(.sl Zo)]⟩],Zc (ZcF fuel) fuel⟩
theorem Ziv:ZdF.Ok ya (Zj ya 102) (Zm ya 102 2):=Zh (fi:={ hi:={ still:=[8,11,30,48,61,69],rowt:=[5,9,12,22,49,55,67]},lp:=[]}) (specs:={ l:=[XK]}) (okS ⟨We,trivial⟩) trivial (by kernel_rfl) (λv=>by kernel_rfl)
def ZcG(F:Nat)(s:(Int×Int×Int×Tx×(List Unit)×(List In)×(List Unit)×(List Out))):Option ((Int×Int×Int×Tx×(List Unit)×(List In)×(List Unit)×(List Out))⊕(Int×Tx×(List Unit)×(List In)×(List Unit)×(List Out))):=
 if(decide (s.2.1 < s.1))=true then
  if(inB s.2.1 s.2.2.2.2.2.2.2.length)=true then
   (s.2.2.2.2.2.2.2[s.2.1.toNat]?).bind λe499=>
   (W1 F e499.2).bind λo500=>
   (Zc (ZcF F) F (s.2.1,s.1,s.2.1,(o500.2.length:Int),(0:Int),s.2.2.1,s.2.2.2.1,s.2.2.2.2.1,s.2.2.2.2.2.1,s.2.2.2.2.2.2.1,s.2.2.2.2.2.2.2,o500.1,o500.2)).bind λo505=>
   if(inB o505.1 o505.2.2.2.2.2.2.2.2.1.length)=true then
    (o505.2.2.2.2.2.2.2.2.1[o505.1.toNat]?).bind λe506=>
    let y507:(List Out):=o505.2.2.2.2.2.2.2.2.1.set o505.1.toNat (e506.1,o505.2.2.2.2.2.2.2.2.2.2)
    some (.inl (o505.2.1,wi (o505.2.2.1+1),o505.2.2.2.1,o505.2.2.2.2.1,o505.2.2.2.2.2.1,o505.2.2.2.2.2.2.1,o505.2.2.2.2.2.2.2.1,y507))
   else
   none
  else
  none
 else
 some (.inr (s.2.2.1,s.2.2.2.1,s.2.2.2.2.1,s.2.2.2.2.2.1,s.2.2.2.2.2.2.1,s.2.2.2.2.2.2.2))
def ZdG:Lp:=⟨[(1,.ref 0 []),(2,.ref 1 []),(38,.v yI),(39,.v yI)],[.var (.agg [.rw 2,.rw 3,.v yI]) true,.var (.v yTx) true,.row yIn true 104,.row Zy true 96],[yI,yI,yI,yTx,(.sl (.st [])),(.sl yIn),(.sl (.st [])),(.sl Zy)],[⟨.exit 2,[(1,.ref 0 []),(2,.ref 1 [])],[.var (.agg [.rw 2,.rw 3,.v yI]) true,.var (.v yTx) true,.row yIn true 104,.row Zy true 96],[yI,yTx,(.sl (.st [])),(.sl yIn),(.sl (.st [])),(.sl Zy)]⟩],Zc (ZcG fuel) fuel⟩
theorem Ziw:ZdG.Ok ya (Zj ya 102) (Zm ya 102 1):=Zh (fi:={ hi:={ still:=[8,11,30,48,61,69],rowt:=[5,9,12,22,49,55,67]},lp:=[(2,ZdF)]}) (specs:={ l:=[WA]}) (okS ⟨Vi,trivial⟩) ⟨Ziv,trivial⟩ (by kernel_rfl) (λv=>by kernel_rfl)
def Za3(F:Nat)(s:(Int×Int×(List Out)×Int×Tx×(List Unit)×(List In))):Option ((Int×Int×(List Out)×Int×Tx×(List Unit)×(List In))⊕((List Out)×Int×Tx×(List Unit)×(List In))):=
 if(decide (s.2.1 < s.1))=true then
  if(inB s.2.1 s.2.2.2.2.2.2.length)=true then
   (s.2.2.2.2.2.2[s.2.1.toNat]?).bind λe510=>
   (Zfi F e510.2.2.1).bind λo511=>
   if(inB s.2.1 s.2.2.2.2.2.2.length)=true then
    (s.2.2.2.2.2.2[s.2.1.toNat]?).bind λe512=>
    let y513:(List In):=s.2.2.2.2.2.2.set s.2.1.toNat (e512.1,(e512.2.1,o511,e512.2.2.2))
    some (.inl (s.1,wi (s.2.1+1),s.2.2.1,s.2.2.2.1,s.2.2.2.2.1,s.2.2.2.2.2.1,y513))
   else
   none
  else
  none
 else
 some (.inr (s.2.2.1,s.2.2.2.1,s.2.2.2.2.1,s.2.2.2.2.2.1,s.2.2.2.2.2.2))
def Zbk:Lp:=⟨[(1,.ref 0 []),(2,.ref 1 []),(17,.v yI),(18,.v yI)],[.var (.agg [.rw 2,.v (.sl Zy),.v yI]) true,.var (.v yTx) true,.row yIn true 104],[yI,yI,(.sl Zy),yI,yTx,(.sl (.st [])),(.sl yIn)],[⟨.exit 0,[(1,.ref 0 []),(2,.ref 1 [])],[.var (.agg [.rw 2,.v (.sl Zy),.v yI]) true,.var (.v yTx) true,.row yIn true 104],[(.sl Zy),yI,yTx,(.sl (.st [])),(.sl yIn)]⟩],Zc (Za3 fuel) fuel⟩
theorem ZgP:Zbk.Ok ya (Zj ya 102) (Zm ya 102 0):=Zh (fi:={ hi:={ still:=[8,11,30,48,61,69],rowt:=[5,9,12,22,49,55,67]},lp:=[]}) (specs:={ l:=[ZcC]}) (okS ⟨Zel,trivial⟩) trivial (by kernel_rfl) (λv=>by kernel_rfl)
def QF(F:Nat)(s:(Int×Int×Int×Int×Int×(List Out)×Int×Tx×(List Unit)×(List In)×(List Unit)×(List ZC))):Option ((Int×Int×Int×Int×Int×(List Out)×Int×Tx×(List Unit)×(List In)×(List Unit)×(List ZC))⊕(Int×Int×Int×(List Out)×Int×Tx×(List Unit)×(List In)×(List Unit)×(List ZC))):=
 if(decide (s.2.2.2.2.1 < s.2.2.2.1))=true then
  if(inB s.2.2.2.2.1 s.2.2.2.2.2.2.2.2.2.2.2.length)=true then
   (s.2.2.2.2.2.2.2.2.2.2.2[s.2.2.2.2.1.toNat]?).bind λe517=>
   (XC F e517.1).bind λo518=>
   if(inB s.2.2.2.2.1 s.2.2.2.2.2.2.2.2.2.2.2.length)=true then
    (s.2.2.2.2.2.2.2.2.2.2.2[s.2.2.2.2.1.toNat]?).bind λe519=>
    let y520:(List ZC):=s.2.2.2.2.2.2.2.2.2.2.2.set s.2.2.2.2.1.toNat (o518,e519.2.1,e519.2.2.1,e519.2.2.2)
    some (.inl (s.1,s.2.1,s.2.2.1,s.2.2.2.1,wi (s.2.2.2.2.1+1),s.2.2.2.2.2.1,s.2.2.2.2.2.2.1,s.2.2.2.2.2.2.2.1,s.2.2.2.2.2.2.2.2.1,s.2.2.2.2.2.2.2.2.2.1,s.2.2.2.2.2.2.2.2.2.2.1,y520))
   else
   none
  else
  none
 else
 some (.inr (s.1,s.2.1,s.2.2.1,s.2.2.2.2.2.1,s.2.2.2.2.2.2.1,s.2.2.2.2.2.2.2.1,s.2.2.2.2.2.2.2.2.1,s.2.2.2.2.2.2.2.2.2.1,s.2.2.2.2.2.2.2.2.2.2.1,s.2.2.2.2.2.2.2.2.2.2.2))
def QU:Lp:=⟨[(1,.ref 0 []),(2,.ref 1 []),(4,.v yI),(5,.rw 3),(38,.v yI),(39,.v yI),(51,.v yI),(52,.v yI)],[.var (.agg [.rw 2,.v (.sl Zy),.v yI]) true,.var (.v yTx) true,.row yIn true 104,.row Zo true 126],[yI,yI,yI,yI,yI,(.sl Zy),yI,yTx,(.sl (.st [])),(.sl yIn),(.sl (.st [])),(.sl Zo)],[⟨.exit 4,[(1,.ref 0 []),(2,.ref 1 []),(4,.v yI),(5,.rw 3),(38,.v yI),(39,.v yI)],[.var (.agg [.rw 2,.v (.sl Zy),.v yI]) true,.var (.v yTx) true,.row yIn true 104,.row Zo true 126],[yI,yI,yI,(.sl Zy),yI,yTx,(.sl (.st [])),(.sl yIn),(.sl (.st [])),(.sl Zo)]⟩],Zc (QF fuel) fuel⟩
theorem Zem:QU.Ok ya (Zj ya 102) (Zm ya 102 2):=Zh (fi:={ hi:={ still:=[8,11,30,48,61,69],rowt:=[5,9,12,22,49,55,67]},lp:=[]}) (specs:={ l:=[XK]}) (okS ⟨We,trivial⟩) trivial (by kernel_rfl) (λv=>by kernel_rfl)
def Za4(F:Nat)(s:(Int×Int×(List Out)×Int×Tx×(List Unit)×(List In))):Option ((Int×Int×(List Out)×Int×Tx×(List Unit)×(List In))⊕((List Out)×Int×Tx×(List Unit)×(List In))):=
 if(decide (s.2.1 < s.1))=true then
  (idx s.2.2.1 s.2.1).bind λe515=>
  (W1 F e515.2).bind λo516=>
  (Zc (QF F) F (s.2.1,s.1,s.2.1,(o516.2.length:Int),(0:Int),s.2.2.1,s.2.2.2.1,s.2.2.2.2.1,s.2.2.2.2.2.1,s.2.2.2.2.2.2,o516.1,o516.2)).bind λo521=>
  (idx o521.2.2.2.1 o521.1).bind λe522=>
  none
 else
 some (.inr (s.2.2.1,s.2.2.2.1,s.2.2.2.2.1,s.2.2.2.2.2.1,s.2.2.2.2.2.2))
def Zbl:Lp:=⟨[(1,.ref 0 []),(2,.ref 1 []),(38,.v yI),(39,.v yI)],[.var (.agg [.rw 2,.v (.sl Zy),.v yI]) true,.var (.v yTx) true,.row yIn true 104],[yI,yI,(.sl Zy),yI,yTx,(.sl (.st [])),(.sl yIn)],[⟨.exit 2,[(1,.ref 0 []),(2,.ref 1 [])],[.var (.agg [.rw 2,.v (.sl Zy),.v yI]) true,.var (.v yTx) true,.row yIn true 104],[(.sl Zy),yI,yTx,(.sl (.st [])),(.sl yIn)]⟩],Zc (Za4 fuel) fuel⟩
theorem ZgQ:Zbl.Ok ya (Zj ya 102) (Zm ya 102 1):=Zh (fi:={ hi:={ still:=[8,11,30,48,61,69],rowt:=[5,9,12,22,49,55,67]},lp:=[(2,QU)]}) (specs:={ l:=[WA]}) (okS ⟨Vi,trivial⟩) ⟨Zem,trivial⟩ (by kernel_rfl) (λv=>by kernel_rfl)
def Zgq(F:Nat)(a0:Tx):Option ((Int×(List Unit)×(List In)×(List Unit)×(List Out))⊕((List Out)×Int×(List Unit)×(List In))):=
 (Zit F a0.1).bind λo491=>
 (Zac F a0.2.1).bind λo492=>
 match o492 with
 |.inl o493=>
  (Zc (ZcE F) F ((o491.2.length:Int),(0:Int),a0.2.2,(([]:List In),([]:List Out),(0:Int)),o491.1,o491.2,o493.1,o493.2)).bind λo498=>
  (Zc (ZcG F) F ((o498.2.2.2.2.2.length:Int),(0:Int),o498.1,o498.2.1,o498.2.2.1,o498.2.2.2.1,o498.2.2.2.2.1,o498.2.2.2.2.2)).bind λo508=>
  some (.inl (o508.1,o508.2.2.1,o508.2.2.2.1,o508.2.2.2.2.1,o508.2.2.2.2.2))
 |.inr o509=>
  (Zc (Za3 F) F ((o491.2.length:Int),(0:Int),o509,a0.2.2,(([]:List In),([]:List Out),(0:Int)),o491.1,o491.2)).bind λo514=>
  (Zc (Za4 F) F ((o514.1.length:Int),(0:Int),o514.1,o514.2.1,o514.2.2.1,o514.2.2.2.1,o514.2.2.2.2)).bind λo523=>
  some (.inr (o523.1,o523.2.1,o523.2.2.2.1,o523.2.2.2.2))
def Zmb(F:Nat):Fs ya:=⟨102,[.v yTx],[],[yTx],[⟨.ret,[(0,.agg [.rw 0,.rw 1,.v yI])],[.row yIn true 104,.row Zy true 96],[yI,(.sl (.st [])),(.sl yIn),(.sl (.st [])),(.sl Zy)]⟩,⟨.ret,[(0,.agg [.rw 0,.v (.sl Zy),.v yI])],[.row yIn true 104],[(.sl Zy),yI,(.sl (.st [])),(.sl yIn)]⟩],λx=>Zgq F x⟩
def Zfm:Fs ya:=Zmb fuel
theorem Zmc:Zfm.Ok:=Zf (fi:={ hi:={ still:=[8,11,30,48,61,69],rowt:=[5,9,12,22,49,55,67]},lp:=[(0,ZdE),(0,Zbk),(1,ZdG),(1,Zbl)]}) (specs:={ l:=[ZgN,QJ]}) (okS ⟨ZkW,ZcD,trivial⟩) ⟨Ziu,ZgP,Ziw,ZgQ,trivial⟩ (by decide+kernel) (λx=>by kernel_rfl)
def Zpx(F:Nat)(a0:Tx)(a1:Sig)(a2:Sig):Option (Tx):=
 (Zgq F a0).bind λo528=>
 match o528 with
 |.inl o529=>
  if(decide ((o529.2.2.1.length:Int) > 0))=true then
   if(inB 0 o529.2.2.1.length)=true then
    (o529.2.2.1[0]?).bind λe530=>
    let y531:(List In):=o529.2.2.1.set 0 (e530.1,((0:Int),([a1,a2]:List Sig),(0:UInt64)))
    some (y531,o529.2.2.2.2,o529.1)
   else
   none
  else
  some (o529.2.2.1,o529.2.2.2.2,o529.1)
 |.inr o532=>
  if(decide ((o532.2.2.2.length:Int) > 0))=true then
   if(inB 0 o532.2.2.2.length)=true then
    (o532.2.2.2[0]?).bind λe533=>
    let y534:(List In):=o532.2.2.2.set 0 (e533.1,((0:Int),([a1,a2]:List Sig),(0:UInt64)))
    some (y534,o532.1,o532.2.1)
   else
   none
  else
  some (o532.2.2.2,o532.1,o532.2.1)
def Zfn(F:Nat):Fs ya:=⟨46,[.v yTx,.v Z9,.v Z9],[],[yTx,Z9,Z9],[⟨.ret,[(0,.v yTx)],[],[yTx]⟩],λx=>Zpx F x.1 x.2.1 x.2.2⟩
def Zm4:Fs ya:=Zfn fuel
theorem ZkY:Zm4.Ok:=ZD9 (fi:={ hi:={ still:=[7],rowt:=[14],deep:=[64]},lp:=[]}) (specs:={ l:=[Zfm]}) (okS ⟨Zmc,trivial⟩) trivial (by decide+kernel) (λx=>by kernel_rfl)
def XV(F:Nat)(a0:(List UInt8)):Option ((List UInt8)):=
 if(apB 0 a0.length 1)=true then
  some a0
 else
 none
def Zfo(F:Nat):Fs ya:=⟨103,[.sl true .u8],[],[(.sl .u8)],[⟨.ret,[(0,.v (.sl .u8))],[],[(.sl .u8)]⟩],λx=>XV F x⟩
def Zwa:Fs ya:=Zfo fuel
theorem ZkZ:Zwa.Ok:=Zf (fi:={ hi:={ own:=[5,7],still:=[2]},lp:=[]}) (specs:={ l:=[]}) (okS trivial) trivial (by decide+kernel) (λx=>by kernel_rfl)
def Zjm(F:Nat):Option ((List UInt8)):=
 some ([]:List UInt8)
def Za5(F:Nat):Fs ya:=⟨103,[.nil .u8],[],[],[⟨.ret,[(0,.v (.sl .u8))],[],[(.sl .u8)]⟩],λx=>Zjm F⟩
def ZqG:Fs ya:=Za5 fuel
theorem Zgr:ZqG.Ok:=Zf (fi:={ hi:={ own:=[5,7],still:=[2]},lp:=[]}) (specs:={ l:=[]}) (okS trivial) trivial (by decide+kernel) (λx=>by kernel_rfl)
def ZbY(F:Nat):Fs ya:=⟨103,[.v (.sl .u8)],[],[(.sl .u8)],[⟨.ret,[(0,.v (.sl .u8))],[],[(.sl .u8)]⟩],λx=>XV F x⟩
def Zdu:Fs ya:=ZbY fuel
theorem ZbZ:Zdu.Ok:=Zqa (t:=.u8) (xs:=[⟨.ret,[(0,.v (.sl .u8))],[],[(.sl .u8)]⟩]) (MA:=λ(x:(List UInt8))=>XV fuel x) (MB:=λ_=>Zjm fuel) ZkZ Zgr rfl
def Zen(F:Nat)(a0:Kit):Option (VF):=
 (Xi F a0.1).bind λo537=>
 (Xi F a0.2.1).bind λo538=>
 (Xi F a0.2.2.1).bind λo539=>
 (Xi F a0.2.2.2.1).bind λo540=>
 (Xi F a0.2.2.2.2.1).bind λo541=>
 some (o537,o538,o539,o540,o541)
def Zfp(F:Nat):Fs ya:=⟨38,[.v ZR],[],[ZR],[⟨.ret,[(0,.v VK)],[],[VK]⟩],λx=>Zen F x⟩
def Zm5:Fs ya:=Zfp fuel
theorem Zk0:Zm5.Ok:=Zf (fi:={ hi:={ still:=[4,7,10,13,16]},lp:=[]}) (specs:={ l:=[Za1]}) (okS ⟨Zcl,trivial⟩) trivial (by decide+kernel) (λx=>by kernel_rfl)
def Vj(F:Nat)(a0:ZH)(a1:Kit)(a2:Int)(a3:State)(a4:Zz)(a5:Int):Option (Int⊕(Int×ZH×Kit×Int×Int×(List Int)×Int×(List Zz)×Int×Sig×(List ZL)×(List Msg)×(List Msg))):=
 if(decide (a2 < 0))=true then
  some (.inl (1:Int))
 else
 if(decide (a2 > 1))=true then
  some (.inl (1:Int))
 else
 (YQ F a4).bind λo542=>
 if(!o542)=true then
  some (.inl (1:Int))
 else
 (Zen F a1).bind λo543=>
 if(inB a2 2)=true then
  (a0.2.2.1[a2.toNat]?).bind λe544=>
  if(!(decide (o543=e544)))=true then
   some (.inl (1:Int))
  else
  (ZaT F a0 a3).bind λo545=>
  if(!o545)=true then
   some (.inl (14:Int))
  else
  (X1 F a0 a3 a2 a5).bind λo546=>
  if(!o546)=true then
   some (.inl (13:Int))
  else
  (VD F a4).bind λo547=>
  if(inB a2 2)=true then
   (([([]:Zz),([]:Zz)]:List Zz)[a2.toNat]?).bind λe548=>
   some (.inr ((0:Int),a0,a1,a2,a3.1,a3.2.1,a3.2.2.2,([([]:Zz),([]:Zz)]:List Zz).set a2.toNat o547,a5,((0:UInt64),(0:UInt64)),([]:List ZL),([]:List Msg),([]:List Msg)))
  else
  none
 else
 none
def Zu2(F:Nat):Fs ya:=⟨10,[.v Zl,.v ZR,.v yI,.v Zg,.v Zp,.v yI],[],[Zl,ZR,yI,Zg,Zp,yI],[⟨.ret,[(0,.tup [.ptr0,.v yI])],[],[yI]⟩,⟨.ret,[(0,.tup [.ref 0 [],.v yI])],[.var (.agg [.v Zl,.v ZR,.v yI,.agg [.v yI,.v (.arr 2 yI),.own 1 ZB,.v yI],.v (.arr 2 Zp),.v yI,.own 2 Zw,.own 3 Zw,.v Z9]) true,.log ZB 82,.log Zw 84,.log Zw 84],[yI,Zl,ZR,yI,yI,(.arr 2 yI),yI,(.arr 2 Zp),yI,Z9,(.sl ZB),(.sl Zw),(.sl Zw)]⟩],λx=>Vj F x.1 x.2.1 x.2.2.1 x.2.2.2.1 x.2.2.2.2.1 x.2.2.2.2.2⟩
def Zm6:Fs ya:=Zu2 fuel
theorem Zu3:Zm6.Ok:=Zf (fi:={ hi:={ still:=[12,13,23,28,37,38,42,43,44,45,58],ghost:=[(55,[([6],Zw,84),([7],Zw,84)])],gst:=[(48,[([2],ZB,82)])]},lp:=[],gh:=[(10,.any 14 4 (.arr 2 Zp))]}) (specs:={ l:=[Qw,Zm5,ZgE,Ze3,Zfa]}) (okS ⟨VC,Zk0,Ze2,Zdf,Zdk,trivial⟩) trivial (by decide+kernel) (λx=>by kernel_rfl)
def Zw9(F:Nat)(a0:(List UInt64)):Option (Zz):=
 (XC F a0).bind λo549=>
 some ([(o549,0,0,0)]:Zz)
def ZBn(F:Nat):Fs ya:=⟨53,[.v (.sl .u64)],[],[(.sl .u64)],[⟨.ret,[(0,.v Zp)],[],[Zp]⟩],λx=>Zw9 F x⟩
def Zu4:Fs ya:=ZBn fuel
theorem ZBo:Zu4.Ok:=Zf (fi:={ hi:={ still:=[3]},lp:=[]}) (specs:={ l:=[XK]}) (okS ⟨We,trivial⟩) trivial (by decide+kernel) (λx=>by kernel_rfl)
def ZFK(F:Nat)(a0:UInt64):Option (Zz):=
 (Zw9 F ([a0]:List UInt64)).bind λo550=>
 some o550
def Zk1(F:Nat):Fs ya:=⟨17,[.v .u64],[],[.u64],[⟨.ret,[(0,.v Zp)],[],[Zp]⟩],λx=>ZFK F x⟩
def ZC9:Fs ya:=Zk1 fuel
theorem ZBp:ZC9.Ok:=Zf (fi:={ hi:={ still:=[4]},lp:=[]}) (specs:={ l:=[Zu4]}) (okS ⟨ZBo,trivial⟩) trivial (by decide+kernel) (λx=>by kernel_rfl)
def Xk(F:Nat)(s:(UInt64×Int×Int×(List UInt8))):Option ((UInt64×Int×Int×(List UInt8))⊕(UInt64×Int×(List UInt8))):=
 if(decide (s.2.2.1 ≥ 0))=true then
  if(inB s.2.1 32)=true then
   (s.2.2.2[s.2.1.toNat]?).bind λe551=>
   let y552:UInt64:=ZF (yal e551.toNat) (min ((w64 s.2.2.1).toNat:Int).toNat 64)
   some (.inl (((2*s.1)+(y552&&&1)) % 2305843009213688668,s.2.1,wi (s.2.2.1 - 1),s.2.2.2))
  else
  none
 else
 some (.inr (s.1,s.2.1,s.2.2.2))
def ZcH:Lp:=⟨[(1,.ref 0 []),(3,.v .u64),(4,.v yI),(5,.v yI)],[.var (.v (.arr 32 .u8)) true],[.u64,yI,yI,(.arr 32 .u8)],[⟨.exit 2,[(1,.ref 0 []),(3,.v .u64),(4,.v yI)],[.var (.v (.arr 32 .u8)) true],[.u64,yI,(.arr 32 .u8)]⟩],Zc (Xk fuel) fuel⟩
theorem ZhA:ZcH.Ok ya (Zj ya 85) (Zm ya 85 1):=Zh (fi:={ hi:={ still:=[2]},lp:=[]}) (specs:={ l:=[]}) (okS trivial) trivial (by kernel_rfl) (λv=>by kernel_rfl)
def Xl(F:Nat)(s:(UInt64×Int×(List UInt8))):Option ((UInt64×Int×(List UInt8))⊕(UInt64×(List UInt8))):=
 if(decide (s.2.1 < 32))=true then
  (Zc (Xk F) F (s.1,s.2.1,(7:Int),s.2.2)).bind λo553=>
  some (.inl (o553.1,wi (o553.2.1+1),o553.2.2))
 else
 some (.inr (s.1,s.2.2))
def ZcI:Lp:=⟨[(1,.ref 0 []),(3,.v .u64),(4,.v yI)],[.var (.v (.arr 32 .u8)) true],[.u64,yI,(.arr 32 .u8)],[⟨.exit 0,[(3,.v .u64)],[.var (.v (.arr 32 .u8)) true],[.u64,(.arr 32 .u8)]⟩],Zc (Xl fuel) fuel⟩
theorem ZhB:ZcI.Ok ya (Zj ya 85) (Zm ya 85 0):=Zh (fi:={ hi:={ still:=[2]},lp:=[(1,ZcH)]}) (specs:={ l:=[]}) (okS trivial) ⟨ZhA,trivial⟩ (by kernel_rfl) (λv=>by kernel_rfl)
def Yh(F:Nat)(a0:(List UInt8)):Option (UInt64):=
 (Zc (Xl F) F ((0:UInt64),(0:Int),a0)).bind λo554=>
 some (o554.1+1)
def Zk2(F:Nat):Fs ya:=⟨85,[.v (.arr 32 .u8)],[],[(.arr 32 .u8)],[⟨.ret,[(0,.v .u64)],[],[.u64]⟩],λx=>Yh F x⟩
def ZdH:Fs ya:=Zk2 fuel
theorem Zk3:ZdH.Ok:=Zf (fi:={ hi:={ still:=[2]},lp:=[(0,ZcI)]}) (specs:={ l:=[]}) (okS trivial) ⟨ZhB,trivial⟩ (by decide+kernel) (λx=>by kernel_rfl)
def Xm(F:Nat)(s:(UInt64×Int×(List UInt8))):Option ((UInt64×Int×(List UInt8))⊕(List UInt8)):=
 if(decide (s.2.1 ≥ 0))=true then
  if(decide (0≤s.2.1))=true then
   let y555:UInt8:=w8 ((ZF s.1 (min s.2.1.toNat 64)).toNat:Int)
   if(apB s.2.2.length 1 1)=true then
    some (.inl (s.1,wi (s.2.1 - 8),s.2.2++([y555]:List UInt8)))
   else
   none
  else
  none
 else
 some (.inr s.2.2)
def ZcJ:Lp:=⟨[(0,.v .u64),(3,.own 0 .u8),(4,.v yI)],[.log .u8 5],[.u64,yI,(.sl .u8)],[⟨.exit 0,[(3,.own 0 .u8)],[.log .u8 5],[(.sl .u8)]⟩],Zc (Xm fuel) fuel⟩
theorem ZhC:ZcJ.Ok ya (Zj ya 164) (Zm ya 164 0):=Zh (fi:={ hi:={ own:=[3,9,15],still:=[2]},lp:=[]}) (specs:={ l:=[]}) (okS trivial) trivial (by kernel_rfl) (λv=>by kernel_rfl)
def Vk(F:Nat)(a0:UInt64):Option ((List UInt8)):=
 (Zc (Xm F) F (a0,(56:Int),([]:List UInt8))).bind λo556=>
 some o556
def Zk4(F:Nat):Fs ya:=⟨164,[.v .u64],[],[.u64],[⟨.ret,[(0,.v (.sl .u8))],[],[(.sl .u8)]⟩],λx=>Vk F x⟩
def ZdI:Fs ya:=Zk4 fuel
theorem Zk5:ZdI.Ok:=Zf (fi:={ hi:={ own:=[3,9,15],still:=[2]},lp:=[(0,ZcJ)]}) (specs:={ l:=[]}) (okS trivial) ⟨ZhC,trivial⟩ (by decide+kernel) (λx=>by kernel_rfl)
def YR(F:Nat)(s:((List UInt8)×(List UInt8))):Option (((List UInt8)×(List UInt8))⊕((List UInt8)×(List UInt8))):=
 if((Int.tmod (s.2.length:Int) 64)!=56)=true then
  if(apB s.2.length 1 1)=true then
   some (.inl (s.1,s.2++([0]:List UInt8)))
  else
  none
 else
 some (.inr (s.1,s.2))
def Za6:Lp:=⟨[(0,.v (.sl .u8)),(3,.own 0 .u8)],[.log .u8 5],[(.sl .u8),(.sl .u8)],[⟨.exit 0,[(0,.v (.sl .u8)),(3,.own 0 .u8)],[.log .u8 5],[(.sl .u8),(.sl .u8)]⟩],Zc (YR fuel) fuel⟩
theorem ZfJ:Za6.Ok ya (Zj ya 179) (Zm ya 179 0):=Zh (fi:={ hi:={ own:=[3,6,8,9,11,16,18,27,33],still:=[2]},lp:=[]}) (specs:={ l:=[]}) (okS trivial) trivial (by kernel_rfl) (λv=>by kernel_rfl)
def YS(F:Nat)(s:(UInt64×Int×(List UInt8))):Option ((UInt64×Int×(List UInt8))⊕(List UInt8)):=
 if(decide (s.2.1 ≥ 0))=true then
  if(decide (0≤s.2.1))=true then
   let y558:UInt8:=w8 ((ZF s.1 (min s.2.1.toNat 64)).toNat:Int)
   if(apB s.2.2.length 1 1)=true then
    some (.inl (s.1,wi (s.2.1 - 8),s.2.2++([y558]:List UInt8)))
   else
   none
  else
  none
 else
 some (.inr s.2.2)
def Za7:Lp:=⟨[(3,.own 0 .u8),(4,.v .u64),(5,.v yI)],[.log .u8 5],[.u64,yI,(.sl .u8)],[⟨.exit 2,[(3,.own 0 .u8)],[.log .u8 5],[(.sl .u8)]⟩],Zc (YS fuel) fuel⟩
theorem ZfK:Za7.Ok ya (Zj ya 179) (Zm ya 179 1):=Zh (fi:={ hi:={ own:=[3,6,8,9,11,16,18,27,33],still:=[2]},lp:=[]}) (specs:={ l:=[]}) (okS trivial) trivial (by kernel_rfl) (λv=>by kernel_rfl)
def WB(F:Nat)(a0:(List UInt8)):Option ((List UInt8)):=
 if(apB 0 a0.length 1)=true then
  if(apB a0.length 1 1)=true then
   (Zc (YR F) F (a0,a0++([128]:List UInt8))).bind λo557=>
   (Zc (YS F) F (8*(w64 (o557.1.length:Int)),(56:Int),o557.2)).bind λo559=>
   some o559
  else
  none
 else
 none
def Zix(F:Nat):Fs ya:=⟨179,[.v (.sl .u8)],[],[(.sl .u8)],[⟨.ret,[(0,.v (.sl .u8))],[],[(.sl .u8)]⟩],λx=>WB F x⟩
def Zbm:Fs ya:=Zix fuel
theorem Ziy:Zbm.Ok:=Zf (fi:={ hi:={ own:=[3,6,8,9,11,16,18,27,33],still:=[2]},lp:=[(0,Za6),(1,Za7)]}) (specs:={ l:=[]}) (okS trivial) ⟨ZfJ,ZfK,trivial⟩ (by decide+kernel) (λx=>by kernel_rfl)
def Qm(F:Nat):Option ((List UInt32)):=
 some ([1779033703,3144134277,1013904242,2773480762,1359893119,2600822924,528734635,1541459225]:List UInt32)
def Ziz(F:Nat):Fs ya:=⟨180,[],[],[],[⟨.ret,[(0,.v (.sl .u32))],[],[(.sl .u32)]⟩],λx=>Qm F⟩
def Zbn:Fs ya:=Ziz fuel
theorem ZiA:Zbn.Ok:=Zf (fi:={ hi:={ still:=[0]},lp:=[]}) (specs:={ l:=[]}) (okS trivial) trivial (by decide+kernel) (λx=>by kernel_rfl)
def ZJ(F:Nat)(a0:UInt32)(a1:Int):Option (UInt32):=
 if(decide (0≤a1))=true then
  if(decide (0≤wi (32 - a1)))=true then
   let y560:UInt32:=(Zdy a0 (min a1.toNat 32))|||(Zal a0 (min (wi (32 - a1)).toNat 32))
   some y560
  else
  none
 else
 none
def Zk6(F:Nat):Fs ya:=⟨190,[.v .u32,.v yI],[],[.u32,yI],[⟨.ret,[(0,.v .u32)],[],[.u32]⟩],λx=>ZJ F x.1 x.2⟩
def QK:Fs ya:=Zk6 fuel
theorem ZcK:QK.Ok:=Zf (fi:={ hi:={ still:=[4]},lp:=[]}) (specs:={ l:=[]}) (okS trivial) trivial (by decide+kernel) (λx=>by kernel_rfl)
def Xa(F:Nat)(s:((List UInt8)×Int×(List UInt32))):Option (((List UInt8)×Int×(List UInt32))⊕(List UInt32)):=
 if(decide (s.2.1 < 16))=true then
  (idx s.1 (wi (4*s.2.1))).bind λe561=>
  (idx s.1 (wi ((wi (4*s.2.1))+1))).bind λe562=>
  let y563:UInt32:=(Zal (ybn e561.toNat) 24)|||(Zal (ybn e562.toNat) 16)
  (idx s.1 (wi ((wi (4*s.2.1))+2))).bind λe564=>
  (idx s.1 (wi ((wi (4*s.2.1))+3))).bind λe565=>
  let y566:UInt32:=(y563|||(Zal (ybn e564.toNat) 8))|||(ybn e565.toNat)
  if(apB s.2.2.length 1 4)=true then
   some (.inl (s.1,wi (s.2.1+1),s.2.2++([y566]:List UInt32)))
  else
  none
 else
 some (.inr s.2.2)
def Zbo:Lp:=⟨[(0,.v (.sl .u8)),(3,.own 0 .u32),(4,.v yI)],[.log .u32 25],[(.sl .u8),yI,(.sl .u32)],[⟨.exit 0,[(3,.own 0 .u32)],[.log .u32 25],[(.sl .u32)]⟩],Zc (Xa fuel) fuel⟩
theorem ZgR:Zbo.Ok ya (Zj ya 188) (Zm ya 188 0):=Zh (fi:={ hi:={ own:=[3,14,49,80,97],still:=[2,64,66,72,74]},lp:=[]}) (specs:={ l:=[]}) (okS trivial) trivial (by kernel_rfl) (λv=>by kernel_rfl)
def Xb(F:Nat)(s:(Int×(List UInt32))):Option ((Int×(List UInt32))⊕(List UInt32)):=
 if(decide (s.1 < 64))=true then
  (idx s.2 (wi (s.1 - 15))).bind λe568=>
  (idx s.2 (wi (s.1 - 2))).bind λe569=>
  (ZJ F e568 (7:Int)).bind λo570=>
  (ZJ F e568 (18:Int)).bind λo571=>
  (ZJ F e569 (17:Int)).bind λo572=>
  (ZJ F e569 (19:Int)).bind λo573=>
  (idx s.2 (wi (s.1 - 16))).bind λe574=>
  (idx s.2 (wi (s.1 - 7))).bind λe575=>
  let y576:UInt32:=(e574+((o570^^^o571)^^^(Zdy e568 3)))+e575
  if(apB s.2.length 1 4)=true then
   let y577:(List UInt32):=s.2++([y576+((o572^^^o573)^^^(Zdy e569 10))]:List UInt32)
   some (.inl (wi (s.1+1),y577))
  else
  none
 else
 some (.inr s.2)
def Zbp:Lp:=⟨[(3,.own 0 .u32),(5,.v yI)],[.log .u32 25],[yI,(.sl .u32)],[⟨.exit 2,[(3,.own 0 .u32)],[.log .u32 25],[(.sl .u32)]⟩],Zc (Xb fuel) fuel⟩
theorem ZgS:Zbp.Ok ya (Zj ya 188) (Zm ya 188 1):=Zh (fi:={ hi:={ own:=[3,14,49,80,97],still:=[2,64,66,72,74]},lp:=[]}) (specs:={ l:=[QK]}) (okS ⟨ZcK,trivial⟩) trivial (by kernel_rfl) (λv=>by kernel_rfl)
def WN(F:Nat)(a0:(List UInt8)):Option ((List UInt32)):=
 (Zc (Xa F) F (a0,(0:Int),([]:List UInt32))).bind λo567=>
 (Zc (Xb F) F ((16:Int),o567)).bind λo578=>
 some o578
def Zjv(F:Nat):Fs ya:=⟨188,[.v (.sl .u8)],[],[(.sl .u8)],[⟨.ret,[(0,.v (.sl .u32))],[],[(.sl .u32)]⟩],λx=>WN F x⟩
def ZcL:Fs ya:=Zjv fuel
theorem Zjw:ZcL.Ok:=Zf (fi:={ hi:={ own:=[3,14,49,80,97],still:=[2,64,66,72,74]},lp:=[(0,Zbo),(1,Zbp)]}) (specs:={ l:=[]}) (okS trivial) ⟨ZgR,ZgS,trivial⟩ (by decide+kernel) (λx=>by kernel_rfl)
def Zad(F:Nat):Option ((List UInt32)):=
 some ([1116352408,1899447441,3049323471,3921009573,961987163,1508970993,2453635748,2870763221,3624381080,310598401,607225278,1426881987,1925078388,2162078206,2614888103,3248222580,3835390401,4022224774,264347078,604807628,770255983,1249150122,1555081692,1996064986,2554220882,2821834349,2952996808,3210313671,3336571891,3584528711,113926993,338241895,666307205,773529912,1294757372,1396182291,1695183700,1986661051,2177026350,2456956037,2730485921,2820302411,3259730800,3345764771,3516065817,3600352804,4094571909,275423344,430227734,506948616,659060556,883997877,958139571,1322822218,1537002063,1747873779,1955562222,2024104815,2227730452,2361852424,2428436474,2756734187,3204031479,3329325298]:List UInt32)
def Zk7(F:Nat):Fs ya:=⟨189,[],[],[],[⟨.ret,[(0,.v (.sl .u32))],[],[(.sl .u32)]⟩],λx=>Zad F⟩
def ZdJ:Fs ya:=Zk7 fuel
theorem Zk8:ZdJ.Ok:=Zf (fi:={ hi:={ still:=[0]},lp:=[]}) (specs:={ l:=[]}) (okS trivial) trivial (by decide+kernel) (λx=>by kernel_rfl)
def Xc(F:Nat)(s:((List UInt32)×(List UInt32)×(List UInt32)×Int×(List Unit)×(List UInt32))):Option (((List UInt32)×(List UInt32)×(List UInt32)×Int×(List Unit)×(List UInt32))⊕((List UInt32)×(List Unit)×(List UInt32))):=
 if(decide (s.2.2.2.1 < 64))=true then
  if(inB 4 s.2.2.2.2.2.length)=true then
   (s.2.2.2.2.2[4]?).bind λe581=>
   (ZJ F e581 (6:Int)).bind λo582=>
   if(inB 4 s.2.2.2.2.2.length)=true then
    (s.2.2.2.2.2[4]?).bind λe583=>
    (ZJ F e583 (11:Int)).bind λo584=>
    if(inB 4 s.2.2.2.2.2.length)=true then
     (s.2.2.2.2.2[4]?).bind λe585=>
     (ZJ F e585 (25:Int)).bind λo586=>
     if(inB 4 s.2.2.2.2.2.length)=true then
      (s.2.2.2.2.2[4]?).bind λe587=>
      if(inB 5 s.2.2.2.2.2.length)=true then
       (s.2.2.2.2.2[5]?).bind λe588=>
       if(inB 4 s.2.2.2.2.2.length)=true then
        (s.2.2.2.2.2[4]?).bind λe589=>
        if(inB 6 s.2.2.2.2.2.length)=true then
         (s.2.2.2.2.2[6]?).bind λe590=>
         let y591:UInt32:=(e587&&&e588)^^^((4294967295^^^e589)&&&e590)
         if(inB 7 s.2.2.2.2.2.length)=true then
          (s.2.2.2.2.2[7]?).bind λe592=>
          (idx s.2.2.1 s.2.2.2.1).bind λe593=>
          let y594:UInt32:=((e592+((o582^^^o584)^^^o586))+y591)+e593
          (idx s.2.1 s.2.2.2.1).bind λe595=>
          if(inB 0 s.2.2.2.2.2.length)=true then
           (s.2.2.2.2.2[0]?).bind λe596=>
           (ZJ F e596 (2:Int)).bind λo597=>
           if(inB 0 s.2.2.2.2.2.length)=true then
            (s.2.2.2.2.2[0]?).bind λe598=>
            (ZJ F e598 (13:Int)).bind λo599=>
            if(inB 0 s.2.2.2.2.2.length)=true then
             (s.2.2.2.2.2[0]?).bind λe600=>
             (ZJ F e600 (22:Int)).bind λo601=>
             if(inB 0 s.2.2.2.2.2.length)=true then
              (s.2.2.2.2.2[0]?).bind λe602=>
              if(inB 1 s.2.2.2.2.2.length)=true then
               (s.2.2.2.2.2[1]?).bind λe603=>
               if(inB 0 s.2.2.2.2.2.length)=true then
                (s.2.2.2.2.2[0]?).bind λe604=>
                if(inB 2 s.2.2.2.2.2.length)=true then
                 (s.2.2.2.2.2[2]?).bind λe605=>
                 if(inB 1 s.2.2.2.2.2.length)=true then
                  (s.2.2.2.2.2[1]?).bind λe606=>
                  if(inB 2 s.2.2.2.2.2.length)=true then
                   (s.2.2.2.2.2[2]?).bind λe607=>
                   let y608:UInt32:=((e602&&&e603)^^^(e604&&&e605))^^^(e606&&&e607);let y609:UInt32:=((y594+e595)+((o597^^^o599)^^^o601))+y608
                   if(inB 0 s.2.2.2.2.2.length)=true then
                    (s.2.2.2.2.2[0]?).bind λe610=>
                    if(inB 1 s.2.2.2.2.2.length)=true then
                     (s.2.2.2.2.2[1]?).bind λe611=>
                     if(inB 2 s.2.2.2.2.2.length)=true then
                      (s.2.2.2.2.2[2]?).bind λe612=>
                      if(inB 3 s.2.2.2.2.2.length)=true then
                       (s.2.2.2.2.2[3]?).bind λe613=>
                       if(inB 4 s.2.2.2.2.2.length)=true then
                        (s.2.2.2.2.2[4]?).bind λe614=>
                        if(inB 5 s.2.2.2.2.2.length)=true then
                         (s.2.2.2.2.2[5]?).bind λe615=>
                         if(inB 6 s.2.2.2.2.2.length)=true then
                          (s.2.2.2.2.2[6]?).bind λe616=>
                          some (.inl (s.1,s.2.1,s.2.2.1,wi (s.2.2.2.1+1),()::s.2.2.2.2.1,([y609,e610,e611,e612,e613+(y594+e595),e614,e615,e616]:List UInt32)))
                         else
                         none
                        else
                        none
                       else
                       none
                      else
                      none
                     else
                     none
                    else
                    none
                   else
                   none
                  else
                  none
                 else
                 none
                else
                none
               else
               none
              else
              none
             else
             none
            else
            none
           else
           none
          else
          none
         else
         none
        else
        none
       else
       none
      else
      none
     else
     none
    else
    none
   else
   none
  else
  none
 else
 some (.inr (s.1,s.2.2.2.2.1,s.2.2.2.2.2))
def Zbq:Lp:=⟨[(0,.v (.sl .u32)),(5,.v (.sl .u32)),(6,.v (.sl .u32)),(7,.rw 0),(8,.v yI)],[.row .u32 true 25],[(.sl .u32),(.sl .u32),(.sl .u32),yI,(.sl (.st [])),(.sl .u32)],[⟨.exit 0,[(0,.v (.sl .u32)),(7,.rw 0)],[.row .u32 true 25],[(.sl .u32),(.sl (.st [])),(.sl .u32)]⟩],Zc (Xc fuel) fuel⟩
theorem ZgT:Zbq.Ok ya (Zj ya 181) (Zm ya 181 0):=Zh (fi:={ hi:={ own:=[18,20],still:=[4,15,27,31,36,74,78,83],rowt:=[7,18,20,137,142],rew:=[(137,7)]},lp:=[]}) (specs:={ l:=[QK]}) (okS ⟨ZcK,trivial⟩) trivial (by kernel_rfl) (λv=>by kernel_rfl)
def Xd(F:Nat)(s:((List UInt32)×Int×(List Unit)×(List UInt32))):Option (((List UInt32)×Int×(List Unit)×(List UInt32))⊕((List Unit)×(List UInt32))):=
 if(decide (s.2.1 < 8))=true then
  if(inB s.2.1 s.2.2.2.length)=true then
   (s.2.2.2[s.2.1.toNat]?).bind λe618=>
   (idx s.1 s.2.1).bind λe619=>
   if(inB s.2.1 s.2.2.2.length)=true then
    (s.2.2.2[s.2.1.toNat]?).bind λe620=>
    some (.inl (s.1,wi (s.2.1+1),s.2.2.1,s.2.2.2.set s.2.1.toNat (e618+e619)))
   else
   none
  else
  none
 else
 some (.inr (s.2.2.1,s.2.2.2))
def Zbr:Lp:=⟨[(0,.v (.sl .u32)),(7,.rw 0),(14,.v yI)],[.row .u32 true 25],[(.sl .u32),yI,(.sl (.st [])),(.sl .u32)],[⟨.exit 2,[(7,.rw 0)],[.row .u32 true 25],[(.sl (.st [])),(.sl .u32)]⟩],Zc (Xd fuel) fuel⟩
theorem ZgU:Zbr.Ok ya (Zj ya 181) (Zm ya 181 1):=Zh (fi:={ hi:={ own:=[18,20],still:=[4,15,27,31,36,74,78,83],rowt:=[7,18,20,137,142],rew:=[(137,7)]},lp:=[]}) (specs:={ l:=[]}) (okS trivial) trivial (by kernel_rfl) (λv=>by kernel_rfl)
def WO(F:Nat)(a0:(List UInt32))(a1:(List UInt8)):Option ((List UInt32)):=
 (WN F a1).bind λo579=>
 (Zad F).bind λo580=>
 if(apB 0 a0.length 4)=true then
  (Zc (Xc F) F (a0,o579,o580,(0:Int),([()]:List Unit),a0)).bind λo617=>
  (Zc (Xd F) F (o617.1,(0:Int),o617.2.1,o617.2.2)).bind λo621=>
  some o621.2
 else
 none
def Zjx(F:Nat):Fs ya:=⟨181,[.v (.sl .u32),.v (.sl .u8)],[],[(.sl .u32),(.sl .u8)],[⟨.ret,[(0,.v (.sl .u32))],[],[(.sl .u32)]⟩],λx=>WO F x.1 x.2⟩
def ZcM:Fs ya:=Zjx fuel
theorem Zjy:ZcM.Ok:=Zf (fi:={ hi:={ own:=[18,20],still:=[4,15,27,31,36,74,78,83],rowt:=[7,18,20,137,142],rew:=[(137,7)]},lp:=[(0,Zbq),(1,Zbr)]}) (specs:={ l:=[ZcL,ZdJ]}) (okS ⟨Zjw,Zk8,trivial⟩) ⟨ZgT,ZgU,trivial⟩ (by decide+kernel) (λx=>by kernel_rfl)
def Xn(F:Nat)(s:((List UInt8)×(List UInt32)×Int×(List UInt8))):Option (((List UInt8)×(List UInt32)×Int×(List UInt8))⊕((List UInt32)×(List UInt8))):=
 if(decide (s.2.2.1 < (s.1.length:Int)))=true then
  if(Zat s.1.length (some s.2.2.1) (some (wi (s.2.2.1+64))))=true then
   let y624:(List UInt8):=(s.1.take ((wi (s.2.2.1+64)).toNat)).drop s.2.2.1.toNat
   (WO F s.2.1 y624).bind λo625=>
   some (.inl (s.1,o625,wi (s.2.2.1+64),s.2.2.2))
  else
  none
 else
 some (.inr (s.2.1,s.2.2.2))
def ZcN:Lp:=⟨[(2,.ref 0 []),(3,.v (.sl .u8)),(4,.v (.sl .u32)),(5,.v yI)],[.var (.v (.arr 32 .u8)) true],[(.sl .u8),(.sl .u32),yI,(.arr 32 .u8)],[⟨.exit 0,[(2,.ref 0 []),(4,.v (.sl .u32))],[.var (.v (.arr 32 .u8)) true],[(.sl .u32),(.arr 32 .u8)]⟩],Zc (Xn fuel) fuel⟩
theorem ZhD:ZcN.Ok ya (Zj ya 165) (Zm ya 165 0):=Zh (fi:={ hi:={ still:=[8,17,22]},lp:=[]}) (specs:={ l:=[ZcM]}) (okS ⟨Zjy,trivial⟩) trivial (by kernel_rfl) (λv=>by kernel_rfl)
def Xo(F:Nat)(s:((List UInt32)×Int×(List UInt8)×(List UInt8))):Option (((List UInt32)×Int×(List UInt8)×(List UInt8))⊕((List UInt8)×(List UInt8))):=
 if(decide (s.2.1 < 32))=true then
  (idx s.1 (wi (Int.tdiv s.2.1 4))).bind λe627=>
  if(decide (0≤wi (24 - (wi (8*(Int.tmod s.2.1 4))))))=true then
   let y628:UInt32:=Zdy e627 (min (wi (24 - (wi (8*(Int.tmod s.2.1 4))))).toNat 32)
   if(inB s.2.1 32)=true then
    (s.2.2.2[s.2.1.toNat]?).bind λe629=>
    some (.inl (s.1,wi (s.2.1+1),s.2.2.1,s.2.2.2.set s.2.1.toNat (w8 (y628.toNat:Int))))
   else
   none
  else
  none
 else
 some (.inr (s.2.2.1,s.2.2.2))
def ZcO:Lp:=⟨[(2,.ref 0 []),(4,.v (.sl .u32)),(6,.ref 1 []),(7,.v yI)],[.var (.v (.arr 32 .u8)) true,.var (.v (.arr 32 .u8)) true],[(.sl .u32),yI,(.arr 32 .u8),(.arr 32 .u8)],[⟨.exit 2,[(2,.ref 0 []),(6,.ref 1 [])],[.var (.v (.arr 32 .u8)) true,.var (.v (.arr 32 .u8)) true],[(.arr 32 .u8),(.arr 32 .u8)]⟩],Zc (Xo fuel) fuel⟩
theorem ZhE:ZcO.Ok ya (Zj ya 165) (Zm ya 165 1):=Zh (fi:={ hi:={ still:=[8,17,22]},lp:=[]}) (specs:={ l:=[]}) (okS trivial) trivial (by kernel_rfl) (λv=>by kernel_rfl)
def Wg(F:Nat)(a0:(List UInt8)):Option ((List UInt8)):=
 (WB F a0).bind λo622=>
 (Qm F).bind λo623=>
 (Zc (Xn F) F (o622,o623,(0:Int),([0,0,0,0,0,0,0,0,0,0,0,0,0,0,0,0,0,0,0,0,0,0,0,0,0,0,0,0,0,0,0,0]:List UInt8))).bind λo626=>
 (Zc (Xo F) F (o626.1,(0:Int),o626.2,([0,0,0,0,0,0,0,0,0,0,0,0,0,0,0,0,0,0,0,0,0,0,0,0,0,0,0,0,0,0,0,0]:List UInt8))).bind λo630=>
 some o630.2
def Qn(F:Nat):Fs ya:=⟨165,[.v (.sl .u8)],[],[(.sl .u8)],[⟨.ret,[(0,.v (.arr 32 .u8))],[],[(.arr 32 .u8)]⟩],λx=>Wg F x⟩
def Zmd:Fs ya:=Qn fuel
theorem Zk9:Zmd.Ok:=Zf (fi:={ hi:={ still:=[8,17,22]},lp:=[(0,ZcN),(1,ZcO)]}) (specs:={ l:=[Zbm,Zbn]}) (okS ⟨Ziy,ZiA,trivial⟩) ⟨ZhD,ZhE,trivial⟩ (by decide+kernel) (λx=>by kernel_rfl)
end
end Go.Proofs.YtmkgbalfkhaflaaGreat
end
section
set_option maxRecDepth 4000
namespace Go.Ev
theorem ZEq{I X:Type}{step:I→Option (I⊕X)}{st:Nat→I}{x:X}(n:Nat)(hs:∀k,k < n→step (st k)=some (.inl (st (k+1))))(he:step (st n)=some (.inr x)):∀(d k f:Nat),k+d=n→d < f→Zc step f (st k)=some x
 |0,k,f+1,h,_=>by
  have e:k=n:=by omega
  subst e;unfold Zc
  rw[he,yb]
 |d+1,k,f+1,h,hf=>by
  unfold Zc;rw[hs k (by omega),yb];exact ZEq n hs he d (k+1) f (by omega) (by omega)
theorem Y3{I X:Type}{step:I→Option (I⊕X)}(n:Nat)(st:Nat→I){x:X}(hs:∀k,k < n→step (st k)=some (.inl (st (k+1))))(he:step (st n)=some (.inr x))(hn:n < 18446744073709551616):
 Zc step fuel (st 0)=some x:=ZEq n hs he n 0 fuel (by omega) (by rw[Zd5];exact hn)
theorem ZBq{I X:Type}{step:I→Option (I⊕X)}{Post:X→Prop}(n:Nat)(S:Nat→I→Prop)(hs:∀k s,k < n→S k s→(∃t,step s=some (.inl t)∧S (k+1) t)∨∃x,step s=some (.inr x)∧Post x)
 (he:∀s,S n s→∃x,step s=some (.inr x)∧Post x):∀(d k f:Nat)(s:I),k+d=n→d < f→S k s→∃x,Zc step f s=some x∧Post x
 |0,k,f+1,s,h,_,hS=>by
  have e:k=n:=by omega
  subst e;obtain⟨x,h1,h2⟩:=he s hS;unfold Zc;rw[h1,yb]
  exact⟨x,rfl,h2⟩
 |d+1,k,f+1,s,h,hf,hS=>by
  unfold Zc;rcases hs k s (by omega) hS with⟨t,h1,h2⟩|⟨x,h1,h2⟩
  ·rw[h1,yb];exact ZBq n S hs he d (k+1) f t (by omega) (by omega) h2
  ·rw[h1,yb];exact⟨x,rfl,h2⟩
theorem Yq{I X:Type}{step:I→Option (I⊕X)}(n:Nat)(S:Nat→I→Prop)(Post:X→Prop){i:I}(h0:S 0 i)(hn:n < 18446744073709551616)
 (hs:∀k s,k < n→S k s→(∃t,step s=some (.inl t)∧S (k+1) t)∨∃x,step s=some (.inr x)∧Post x)
 (he:∀s,S n s→∃x,step s=some (.inr x)∧Post x):∃x,Zc step fuel i=some x∧Post x:=ZBq n S hs he n 0 fuel i (by omega) (by rw[Zd5];exact hn) h0
theorem YK{a b:Nat}(h:a < b):decide ((a:Int) < (b:Int))=true:=decide_eq_true (by omega)
theorem Yd{a:Nat}:decide ((a:Int) < (a:Int))=false:=decide_eq_false (by omega)
theorem ZK{k:Nat}(h:k < 9223372036854775807):wi ((k:Int)+1)=((k+1:Nat):Int):=by
 rw[ZN (by omega) (by omega)];omega
theorem ZG{α:Type}{l:List α}{k:Nat}{y:α}(h:l[k]? =some y):idx l (k:Int)=some y:=Zib (by omega) (by simpa using h)
theorem Zxa{α:Type}{ls:List (List α)}{k:Nat}{e:List α}(h:ls[k]? =some e):(ls.take (k+1)).flatten=(ls.take k).flatten++e:=by
 rw[List.take_add_one,h];simp
theorem ZEr{α:Type}(ls:List (List α))(k:Nat):(ls.take k).flatten.length≤ls.flatten.length:=by
 have h:=congrArg (λl=>(List.flatten l).length) (ybo k ls);simp only[List.flatten_append,yr] at h;omega
theorem ZiB{α:Type}{l:List α}{k:Nat}{e:α}(h:l[k]? =some e):l.take (k+1)=l.take k++[e]:=by
 rw[List.take_add_one,h];rfl
theorem Zt{α:Type}{l:List α}{k:Nat}(h:k < l.length):∃e,l[k]? =some e∧e∈l:=⟨l[k],yac h,List.getElem_mem h⟩
end Go.Ev
end
section
set_option maxRecDepth 4000
namespace Go.Proofs.YtmkgbalfkhaflaaGreat
open Go Go.Ev Go.Sha
theorem Zcm(x:UInt32)(n k:Nat)(h:n+k=32)(hn:0 < n){z:Int}(hz:z=(n:Int)):∃o,ZJ fuel x z=some o∧o.toNat=lo (yae (dbl x.toNat) n):=by
 subst hz;unfold ZJ;rw[ZN (z:=32 - (n:Int)) (by omega) (by omega),if_pos (decide_eq_true (by omega)),if_pos (decide_eq_true (by omega))];refine⟨_,rfl, ?_⟩;have e1:min ((n:Int)).toNat 32=n:=by omega
 have e2:min (32 - (n:Int)).toNat 32=k:=by omega
 rw[e1,e2,UInt32.or_comm];exact ZKg x h hn
theorem ZLD(a b c d:UInt8):((((Zal (ybn a.toNat) 24)|||(Zal (ybn b.toNat) 16))|||(Zal (ybn c.toNat) 8))|||(ybn d.toNat)).toNat=((a.toNat*256+b.toNat)*256+c.toNat)*256+d.toNat:=by
 have h1:=a.toNat_lt;have h2:=b.toNat_lt;have h3:=c.toNat_lt;have h4:=d.toNat_lt
 have hs:∀(x:UInt8)(n:Nat),n≤24→(Zal (ybn x.toNat) n).toNat=x.toNat*2 ^ n:=by
  intro x n hn;have hx:=x.toNat_lt;unfold Zal;rw[ycl,ycl,yaj (a:=x.toNat) (by omega)];refine yaj ?_
  calc x.toNat*2 ^ n < 2 ^ 8*2 ^ n:=Nat.mul_lt_mul_of_pos_right hx (Nat.two_pow_pos n)
   _=2 ^ (8+n):=(Nat.pow_add ..).symm
   _≤2 ^ 32:=Nat.pow_le_pow_right (by omega) (by omega)
 rw[ZyW,ZyW,ZyW,hs _ _ (by omega),hs _ _ (by omega),hs _ _ (by omega),ycl,yaj (a:=d.toNat) (by omega)]
 have k1:Nat.lor (a.toNat*2 ^ 24) (b.toNat*2 ^ 16)=2 ^ 16*(a.toNat*256+b.toNat):=by
  rw[ybi a.toNat,show Nat.lor (2 ^ 24*a.toNat) (b.toNat*2 ^ 16)=2 ^ 24*a.toNat|||b.toNat*2 ^ 16 from rfl, ←ycu (by omega)]
  omega
 have k2:Nat.lor (2 ^ 16*(a.toNat*256+b.toNat)) (c.toNat*2 ^ 8)=2 ^ 8*((a.toNat*256+b.toNat)*256+c.toNat):=by
  rw[show Nat.lor (2 ^ 16*(a.toNat*256+b.toNat)) (c.toNat*2 ^ 8)=2 ^ 16*(a.toNat*256+b.toNat)|||c.toNat*2 ^ 8 from rfl, ←ycu (by omega)]
  omega
 rw[k1,k2,show Nat.lor (2 ^ 8*((a.toNat*256+b.toNat)*256+c.toNat)) d.toNat=2 ^ 8*((a.toNat*256+b.toNat)*256+c.toNat)|||d.toNat from rfl, ←ycu (by omega)]
 omega
theorem ZMz(e f g:UInt32):((e&&&f)^^^((4294967295^^^e)&&&g)).toNat=ch e.toNat f.toNat g.toNat:=by
 rw[←ZMp];congr 1;apply UInt32.toBitVec_inj.1;apply BitVec.eq_of_getLsbD_eq;intro i hi
 have h1:(4294967295:UInt32).toBitVec.getLsbD i=true:=by
  rw[show(4294967295:UInt32).toBitVec=BitVec.allOnes 32 from rfl,BitVec.getLsbD_allOnes]
  exact decide_eq_true hi
 simp only[UInt32.toBitVec_xor,UInt32.toBitVec_and,BitVec.getLsbD_xor,BitVec.getLsbD_and,h1];cases e.toBitVec.getLsbD i <;> cases f.toBitVec.getLsbD i <;> cases g.toBitVec.getLsbD i <;> rfl
theorem ZMA(a b c:UInt32):(((a&&&b)^^^(a&&&c))^^^(b&&&c)).toNat=mj a.toNat b.toNat c.toNat:=by
 rw[←ZMq];congr 1;apply UInt32.toBitVec_inj.1;apply BitVec.eq_of_getLsbD_eq;intro i hi;simp only[UInt32.toBitVec_xor,UInt32.toBitVec_and,UInt32.toBitVec_or,BitVec.getLsbD_xor,BitVec.getLsbD_and,BitVec.getLsbD_or];cases a.toBitVec.getLsbD i <;> cases b.toBitVec.getLsbD i <;> cases c.toBitVec.getLsbD i <;> rfl
theorem ZIc{l:List UInt8}(h:l.length=64):∃o,WN fuel l=some o∧o.length=64∧∀(i:Nat)x,o[i]? =some x→x.toNat=wd (Z2 (l.map yai)) i:=by
 unfold WN
 have hset:∀(w:List UInt32)(y:UInt32),y.toNat=wd (Z2 (l.map yai)) w.length→(∀(j:Nat)x,w[j]? =some x→x.toNat=wd (Z2 (l.map yai)) j)→∀(j:Nat)x,(w++[y])[j]? =some x→x.toNat=wd (Z2 (l.map yai)) j:=by
  intro w y hy hw j x hx;by_cases hj:j < w.length
  ·rw[List.getElem?_append_left hj] at hx;exact hw j x hx
  ·rw[List.getElem?_append_right (by omega)] at hx
   have:j=w.length:=by
    have:=(List.getElem?_eq_some_iff.1 hx).1;simp at this;omega
   subst this;rw[Nat.sub_self] at hx;cases hx;exact hy
 obtain⟨w0,g1,g2,g3⟩:=Yq (step:=Xa fuel) 16 (λk s=>∃w,s=(l,(k:Int),w)∧w.length=k∧∀(j:Nat)x,w[j]? =some x→x.toNat=wd (Z2 (l.map yai)) j) (λw=>w.length=16∧∀(j:Nat)x,w[j]? =some x→x.toNat=wd (Z2 (l.map yai)) j) (i:=(l,(0:Int),([]:List UInt32))) ⟨_,rfl,rfl,λj x hx=>by simp at hx⟩ (by omega) (by
  rintro k _ hk ⟨w,rfl,hw,hv⟩;left;obtain⟨x0,q0,_⟩:=Zt (l:=l) (k:=4*k) (by omega);obtain⟨x1,q1,_⟩:=Zt (l:=l) (k:=4*k+1) (by omega);obtain⟨x2,q2,_⟩:=Zt (l:=l) (k:=4*k+2) (by omega);obtain⟨x3,q3,_⟩:=Zt (l:=l) (k:=4*k+3) (by omega);unfold Xa;dsimp only;rw[ZN (z:=4*(k:Int)) (by omega) (by omega),ZN (z:=4*(k:Int)+1) (by omega) (by omega),ZN (z:=4*(k:Int)+2) (by omega) (by omega),ZN (z:=4*(k:Int)+3) (by omega) (by omega)]
  rw[if_pos (decide_eq_true (by omega)),show 4*(k:Int)=((4*k:Nat):Int) by omega,show((4*k:Nat):Int)+1=((4*k+1:Nat):Int) by omega,show((4*k:Nat):Int)+2=((4*k+2:Nat):Int) by omega,show((4*k:Nat):Int)+3=((4*k+3:Nat):Int) by omega,
   ZG q0,yb,ZG q1,yb,ZG q2,yb,ZG q3,yb,if_pos (Ys (by omega) (by omega)),ZK (by omega)]
  refine⟨_,rfl,_,rfl,by rw[yr,List.length_singleton];omega,hset w _ ?_ hv⟩;have mg:∀(k:Nat)(x:UInt8),l[k]? =some x→(l.map yai)[k]? =some x.toNat:=λk x hx=>by rw[yah,hx];rfl
  have hwg:=ZkN k (l.map yai) _ _ _ _ (mg _ _ q0) (mg _ _ q1) (mg _ _ q2) (mg _ _ q3);rw[ZLD,hw];have b0:=x0.toNat_lt;have b1:=x1.toNat_lt;have b2:=x2.toNat_lt;have b3:=x3.toNat_lt;exact(ZBb _ (by omega) hwg (by omega)).symm) (by
  rintro _ ⟨w,rfl,hw,hv⟩;unfold Xa;dsimp only;rw[if_neg (by rw[decide_eq_true_iff];omega)];exact⟨_,rfl,hw,hv⟩)
 rw[g1,yb]
 obtain⟨w1,k1,k2,k3⟩:=Yq (step:=Xb fuel) 48 (λk s=>∃w,s=(((16+k:Nat):Int),w)∧w.length=16+k∧∀(j:Nat)x,w[j]? =some x→x.toNat=wd (Z2 (l.map yai)) j) (λw=>w.length=64∧∀(j:Nat)x,w[j]? =some x→x.toNat=wd (Z2 (l.map yai)) j) (i:=((16:Int),w0)) ⟨_,rfl,g2,g3⟩ (by omega) (by
  rintro k _ hk ⟨w,rfl,hw,hv⟩;left;obtain⟨e1,he1,_⟩:=Zt (l:=w) (k:=k+1) (by omega);obtain⟨e2,he2,_⟩:=Zt (l:=w) (k:=k+14) (by omega);obtain⟨e3,he3,_⟩:=Zt (l:=w) (k:=k) (by omega);obtain⟨e4,he4,_⟩:=Zt (l:=w) (k:=k+9) (by omega);obtain⟨o1,ho1,p1⟩:=Zcm e1 7 25 rfl (by omega) (z:=7) rfl;obtain⟨o2,ho2,p2⟩:=Zcm e1 18 14 rfl (by omega) (z:=18) rfl;obtain⟨o3,ho3,p3⟩:=Zcm e2 17 15 rfl (by omega) (z:=17) rfl;obtain⟨o4,ho4,p4⟩:=Zcm e2 19 13 rfl (by omega) (z:=19) rfl;unfold Xb;dsimp only;rw[if_pos (decide_eq_true (by omega)),ZN (z:=((16+k:Nat):Int) - 15) (by omega) (by omega),ZN (z:=((16+k:Nat):Int) - 2) (by omega) (by omega),ZN (z:=((16+k:Nat):Int) - 16) (by omega) (by omega),ZN (z:=((16+k:Nat):Int) - 7) (by omega) (by omega)];rw[show((16+k:Nat):Int) - 15=((k+1:Nat):Int) by omega,show((16+k:Nat):Int) - 2=((k+14:Nat):Int) by omega,show((16+k:Nat):Int) - 16=(k:Int) by omega,show((16+k:Nat):Int) - 7=((k+9:Nat):Int) by omega]
  rw[ZG he1,yb,ZG he2,yb,ho1,yb,ho2,yb,ho3,yb,ho4,yb,ZG he3,yb,ZG he4,yb,
   if_pos (Ys (by omega) (by omega)),ZK (by omega)]
  refine⟨_,rfl,_,rfl,by rw[yr,List.length_singleton];omega,hset w _ ?_ hv⟩;have hn:=ZyX (Z2 (l.map yai)) k;rw[←hv _ _ he1, ←hv _ _ he2, ←hv _ _ he3, ←hv _ _ he4] at hn;rw[hw,Nat.add_comm 16 k,hn,QE,QE,QE,ZMl e1 p1 p2,ZMm e2 p3 p4];exact ZMr ..) (by
  rintro _ ⟨w,rfl,hw,hv⟩;unfold Xb;dsimp only;rw[if_neg (by rw[decide_eq_true_iff];omega)];exact⟨_,rfl,hw,hv⟩)
 rw[k1,yb];exact⟨_,rfl,k2,k3⟩
theorem ZId{st:List UInt32}{l:List UInt8}(hs:st.length=8)(h:l.length=64):∃o,WO fuel st l=some o∧o.map yam=Zio (st.map yam) (Z2 (l.map yai)):=by
 unfold WO;obtain⟨w,hw,hwl,hwv⟩:=ZIc h;obtain⟨k,hk,hkv⟩:∃k,Zad fuel=some k∧k.map yam=ks:=⟨_,rfl,rfl⟩;have hkl:k.length=64:=by rw[←yz (f:=yam),hkv];rfl
 generalize hws:Z2 (l.map yai)=ws at hwv;rw[hw,yb,hk,yb,if_pos (Ys (by omega) (by omega))]
 obtain⟨x,g1,u,v,rfl,g2,g3⟩:=Yq (step:=Xc fuel) 64 (λi s=>∃u v,s=(st,w,k,(i:Int),u,v)∧v.length=8∧v.map yam=rs ws (st.map yam) i) (λx=>∃u v,x=(st,u,v)∧v.length=8∧v.map yam=rs ws (st.map yam) 64) (i:=(st,w,k,(0:Int),([()]:List Unit),st)) ⟨_,_,rfl,hs,rfl⟩ (by omega) (by
  rintro i _ hi ⟨u,v,rfl,he,hv⟩;left
  match v,he,hv with
  |[x0,x1,x2,x3,x4,x5,x6,x7],_,hv=>
   obtain⟨e1,he1,_⟩:=Zt (l:=k) (k:=i) (by omega);obtain⟨e2,he2,_⟩:=Zt (l:=w) (k:=i) (by omega);obtain⟨o1,ho1,p1⟩:=Zcm x4 6 26 rfl (by omega) (z:=6) rfl;obtain⟨o2,ho2,p2⟩:=Zcm x4 11 21 rfl (by omega) (z:=11) rfl;obtain⟨o3,ho3,p3⟩:=Zcm x4 25 7 rfl (by omega) (z:=25) rfl;obtain⟨o4,ho4,p4⟩:=Zcm x0 2 30 rfl (by omega) (z:=2) rfl;obtain⟨o5,ho5,p5⟩:=Zcm x0 13 19 rfl (by omega) (z:=13) rfl;obtain⟨o6,ho6,p6⟩:=Zcm x0 22 10 rfl (by omega) (z:=22) rfl;have hb:∀n:Nat,n < 8→inB (n:Int) ([x0,x1,x2,x3,x4,x5,x6,x7]:List UInt32).length=true:=λn hn=>Wb (by omega) (by simp;omega);have b0:=hb 0 (by omega);have b1:=hb 1 (by omega);have b2:=hb 2 (by omega);have b3:=hb 3 (by omega);have b4:=hb 4 (by omega);have b5:=hb 5 (by omega);have b6:=hb 6 (by omega);have b7:=hb 7 (by omega);unfold Xc;dsimp only;generalize ZJ fuel=R at ho1 ho2 ho3 ho4 ho5 ho6 ⊢;rw[if_pos (decide_eq_true (by omega))];have c0:inB 0 ([x0,x1,x2,x3,x4,x5,x6,x7]:List UInt32).length=true:=b0;have c1:inB 1 ([x0,x1,x2,x3,x4,x5,x6,x7]:List UInt32).length=true:=b1;have c2:inB 2 ([x0,x1,x2,x3,x4,x5,x6,x7]:List UInt32).length=true:=b2;have c3:inB 3 ([x0,x1,x2,x3,x4,x5,x6,x7]:List UInt32).length=true:=b3;have c4:inB 4 ([x0,x1,x2,x3,x4,x5,x6,x7]:List UInt32).length=true:=b4;have c5:inB 5 ([x0,x1,x2,x3,x4,x5,x6,x7]:List UInt32).length=true:=b5;have c6:inB 6 ([x0,x1,x2,x3,x4,x5,x6,x7]:List UInt32).length=true:=b6;have c7:inB 7 ([x0,x1,x2,x3,x4,x5,x6,x7]:List UInt32).length=true:=b7;simp only[c0,c1,c2,c3,c4,c5,c6,c7,if_true,ybk,yav,yb,ho1,ho2,ho3,ho4,ho5,ho6,ZG he1,ZG he2];rw[ZK (by omega)];refine⟨_,rfl,_,_,rfl,rfl, ?_⟩;rw[show rs ws (st.map yam) (i+1)=rnd (rs ws (st.map yam) i) (ks.getD i 0) (wd ws i) from rfl, ←hv]
   have hk1:ks.getD i 0=e1.toNat:=by
    rw[←hkv,yct,yah,he1];rfl
   rw[hk1, ←hwv i e2 he2];simp only[yaf,List.map_nil];rw[ZuE]
   have kt:((x7+((o1^^^o2)^^^o3))+((x4&&&x5)^^^((4294967295^^^x4)&&&x6))+e1+e2).toNat=lo (yq (yq (yq (yq x7.toNat (S1 x4.toNat)) (ch x4.toNat x5.toNat x6.toNat)) e1.toNat) e2.toNat):=by
    rw[QE,QE,QE,QE,ZMo x4 p1 p2 p3,ZMz];exact ZMs ..
   have ka:((x7+((o1^^^o2)^^^o3))+((x4&&&x5)^^^((4294967295^^^x4)&&&x6))+e1+e2+((o4^^^o5)^^^o6)+(((x0&&&x1)^^^(x0&&&x2))^^^(x1&&&x2))).toNat=lo (yq (yq (yq (yq (yq (yq x7.toNat (S1 x4.toNat)) (ch x4.toNat x5.toNat x6.toNat)) e1.toNat) e2.toNat) (S0 x0.toNat)) (mj x0.toNat x1.toNat x2.toNat)):=by
    rw[QE,QE,kt,ZMn x0 p4 p5 p6,ZMA];exact ZMt ..
   have ke:(x3+(((x7+((o1^^^o2)^^^o3))+((x4&&&x5)^^^((4294967295^^^x4)&&&x6)))+e1+e2)).toNat=lo (yq x3.toNat (yq (yq (yq (yq x7.toNat (S1 x4.toNat)) (ch x4.toNat x5.toNat x6.toNat)) e1.toNat) e2.toNat)):=by
    rw[QE,kt];exact ZMu ..
   rw[ka,ke]) (by
  rintro _ ⟨u,v,rfl,he,hv⟩;unfold Xc;dsimp only;rw[if_neg (by rw[decide_eq_true_iff];omega)];exact⟨_,rfl,_,_,rfl,he,hv⟩)
 rw[g1,yb];have hml:(Zio (st.map yam) ws).length=8:=Zfd (by rw[yz];exact hs)
 obtain⟨x,q1,q2⟩:=Yq (step:=Xd fuel) 8 (λi s=>∃e,s=(st,(i:Int),u,e)∧e.length=8∧∀(j:Nat)x,e[j]? =some x→if j < i then(Zio (st.map yam) ws)[j]? =some x.toNat else(rs ws (st.map yam) 64)[j]? =some x.toNat) (λx=>x.2.map yam=Zio (st.map yam) ws) (i:=(st,(0:Int),u,v)) ⟨_,rfl,g2,λj x hx=>by
  rw[if_neg (by omega), ←g3,yah,hx];rfl⟩ (by omega) (by
  rintro i _ hi ⟨e,rfl,he,hv⟩;left;obtain⟨e1,he1,_⟩:=Zt (l:=e) (k:=i) (by omega);obtain⟨e2,he2,_⟩:=Zt (l:=st) (k:=i) (by omega);unfold Xd;dsimp only;rw[if_pos (decide_eq_true (by omega)),if_pos (Wb (by omega) (by omega)),ycb,he1,yb,ZG he2,yb,if_pos (Wb (by omega) (by omega)),yb,ZK (by omega)];refine⟨_,rfl,_,rfl,by rw[yaz];exact he, ?_⟩;intro j x hx;by_cases hji:j=i
  ·subst hji;rw[yco (by omega)] at hx;cases hx;rw[if_pos (by omega),QE];have k1:=hv _ _ he1;rw[if_neg (by omega)] at k1;unfold Zio;rw[List.getElem?_zipWith,k1,yah,he2];rfl
  ·rw[List.getElem?_set_ne (Ne.symm hji)] at hx;have k1:=hv j x hx;by_cases hj:j < i
   ·rw[if_pos hj] at k1;rw[if_pos (by omega)];exact k1
   ·rw[if_neg hj] at k1;rw[if_neg (by omega)];exact k1) (by
  rintro _ ⟨e,rfl,he,hv⟩;unfold Xd;dsimp only;rw[if_neg (by rw[decide_eq_true_iff];omega)];refine⟨_,rfl, ?_⟩;dsimp only;apply ybl;intro j;rw[yah];by_cases hj:j < 8
  ·obtain⟨x,hx,_⟩:=Zt (l:=e) (k:=j) (by omega);have:=hv j x hx;rw[if_pos hj] at this;rw[hx,this];rfl
  ·rw[yao (by omega),yao (by omega)];rfl)
 dsimp only;rw[q1,yb];exact⟨_,rfl,q2⟩
def rb8(n:Nat):List UInt8:=(be8 n).map yaq
theorem ZLE(n:UInt64){k:Nat}(hk:k < 8):(rb8 n.toNat)[k]? =some (w8 ((ZF n (56 - 8*k)).toNat:Int)):=by
 have h:∀m:Nat,w8 ((ZF n m).toNat:Int)=yaq (n.toNat / 2 ^ m % 256):=by
  intro m;unfold w8 ZF;rw[ybe,yaj (Nat.lt_of_le_of_lt (Nat.div_le_self _ _) (ybm n))];congr 1
 rw[h]
 match k,hk with
 |0,_=>rfl
 |1,_=>rfl
 |2,_=>rfl
 |3,_=>rfl
 |4,_=>rfl
 |5,_=>rfl
 |6,_=>rfl
 |7,_=>
  show some (yaq (n.toNat % 256))=some (yaq (n.toNat / 2 ^ 0 % 256));rw[Nat.pow_zero,Nat.div_one]
theorem ZLF{l:List UInt8}(h:l.length≤4294967296):WB fuel l=some (l++([128]:List UInt8)++yx (zs l.length) 0++rb8 (8*l.length)):=by
 unfold WB;have hlt:l.length % 64 < 64:=ybc _ (by omega);rw[if_pos (Ys (by omega) (by omega)),if_pos (Ys (by omega) (by omega))]
 obtain⟨x,h1,h2⟩:=Yq (step:=YR fuel) (zs l.length) (λj s=>s=(l,l++([128]:List UInt8)++yx j 0)) (λx=>x=(l,l++([128]:List UInt8)++yx (zs l.length) 0)) (i:=(l,l++([128]:List UInt8))) (by simp) (by unfold zs;omega) (by
  rintro j _ hj rfl;left;unfold YR;dsimp only;have hl:(l++([128]:List UInt8)++yx j 0).length=l.length+1+j:=by rw[yr,yr,ycm];rfl
  have hm:Int.tmod ((l++([128]:List UInt8)++yx j 0).length:Int) 64=(((l.length+1+j) % 64:Nat):Int):=by rw[hl];rfl
  rw[hm];unfold zs at hj;rw[if_pos (by simp;omega),if_pos (Ys (by omega) (by omega))];exact⟨_,rfl,by rw[yak,List.replicate_succ']⟩) (by
  rintro _ rfl;unfold YR;dsimp only;have hl:(l++([128]:List UInt8)++yx (zs l.length) 0).length=l.length+1+zs l.length:=by rw[yr,yr,ycm];rfl
  have hm:Int.tmod ((l++([128]:List UInt8)++yx (zs l.length) 0).length:Int) 64=(((l.length+1+zs l.length) % 64:Nat):Int):=by rw[hl];rfl
  rw[hm,if_neg (by simp;unfold zs;omega)];exact⟨_,rfl,rfl⟩)
 rw[h1,yb,h2];dsimp only;generalize hp:l++([128]:List UInt8)++yx (zs l.length) 0=p
 have hpl:p.length≤l.length+65:=by
  rw[←hp,yr,yr,ycm];unfold zs;simp;omega
 have hn:(8*w64 (l.length:Int)).toNat=8*l.length:=by
  rw[UInt64.toNat_mul];unfold w64;rw[ybe];show 8*((((l.length:Nat):Int) % 18446744073709551616).toNat % 2 ^ 64) % 2 ^ 64=_;omega
 generalize hN:8*w64 (l.length:Int)=N at hn
 obtain⟨x,g1,g2⟩:=Yq (step:=YS fuel) 8 (λk s=>s=(N,56 - 8*(k:Int),p++(rb8 N.toNat).take k)) (λx=>x=p++rb8 N.toNat) (i:=(N,(56:Int),p)) (by simp) (by omega) (by
  rintro k _ hk rfl;left;unfold YS;dsimp only;rw[if_pos (decide_eq_true (by omega)),if_pos (decide_eq_true (by omega)),if_pos (Ys (by simp;omega) (by simp;omega)),ZN (z:=56 - 8*(k:Int) - 8) (by omega) (by omega)];refine⟨_,rfl, ?_⟩;rw[ZiB (ZLE N hk),show min (56 - 8*(k:Int)).toNat 64=56 - 8*k by omega,yak,show 56 - 8*((k+1:Nat):Int)=56 - 8*(k:Int) - 8 by omega]) (by
  rintro _ rfl;unfold YS;dsimp only;rw[if_neg (by rw[decide_eq_true_iff];omega)];exact⟨_,rfl,rfl⟩)
 rw[g1,yb,g2,hn]
theorem ZLG{l:List UInt8}(h:l.length≤4294967296):Wg fuel l=some (sha l):=by
 unfold Wg;obtain⟨f,hf,hfl⟩:∃f,Qm fuel=some f∧f.map yam=ZbW:=⟨_,rfl,rfl⟩;have hf8:f.length=8:=by rw[←yz (f:=yam),hfl];rfl
 rw[ZLF h,yb,hf,yb];generalize hE:l++([128]:List UInt8)++yx (zs l.length) 0++rb8 (8*l.length)=E
 have hEm:E.map yai=Zff l:=by
  unfold Zff;rw[←hE];simp only[yar,List.map_replicate,yaf,List.map_nil,rb8,List.map_map,yak,List.singleton_append]
  have:be8 (8*l.length)=(be8 (8*l.length)).map (yai ∘ yaq):=by
   simp[be8]
  rw[←this];simp
 have hEl:E.length=64*((l.length+72) / 64):=by rw[←yz (f:=yai),hEm,ZuH]
 generalize hz:([0,0,0,0,0,0,0,0,0,0,0,0,0,0,0,0,0,0,0,0,0,0,0,0,0,0,0,0,0,0,0,0]:List UInt8)=z;have hzl:z.length=32:=by rw[←hz];rfl
 obtain⟨x,h1,v,rfl,g1,g2⟩:=Yq (step:=Xn fuel) ((l.length+72) / 64) (λc s=>∃d,s=(E,d,((64*c:Nat):Int),z)∧d.length=8∧d.map yam=Zfe c (E.map yai) ZbW) (λx=>∃v,x=(v,z)∧v.length=8∧v.map yam=Zfe ((l.length+72) / 64) (E.map yai) ZbW) (i:=(E,f,(0:Int),z)) ⟨_,rfl,hf8,hfl⟩ (by omega) (by
  rintro c _ hc ⟨d,rfl,hd,hv⟩;left;unfold Xn;dsimp only;obtain⟨m,hm1,hm2⟩:=ZId (st:=d) (l:=(E.take (64*c+64)).drop (64*c)) hd (by rw[ybs,yag];omega);rw[if_pos (decide_eq_true (by omega)),ZN (z:=((64*c:Nat):Int)+64) (by omega) (by omega),if_pos (by simp only[Zat,yi,decide_eq_true_eq];omega),show(((64*c:Nat):Int)+64).toNat=64*c+64 by omega,ycb,hm1,yb];refine⟨_,rfl,_,by rw[show((64*c:Nat):Int)+64=((64*(c+1):Nat):Int) by omega], ?_, ?_⟩
  ·rw[←yz (f:=yam),hm2];exact Zfd (by rw[yz];exact hd)
  ·rw[hm2,ZlR,hv, ←List.map_drop, ←yca];congr 3;rw[List.drop_take];congr 1;omega) (by
  rintro _ ⟨d,rfl,hd,hv⟩;unfold Xn;dsimp only;rw[if_neg (by rw[decide_eq_true_iff];omega)];exact⟨_,rfl,_,rfl,hd,hv⟩)
 rw[h1,yb];dsimp only;generalize hv2:Zfe ((l.length+72) / 64) (E.map yai) ZbW=v2 at g2
 obtain⟨x,k1,o,rfl,k2,k3⟩:=Yq (step:=Xo fuel) 32 (λi s=>∃o,s=(v,(i:Int),z,o)∧o.length=32∧∀(j:Nat),j < i→o[j]? =some (Go.Sha.ZH7 v2 j)) (λx=>∃o,x=(z,o)∧o.length=32∧∀(j:Nat),j < 32→o[j]? =some (Go.Sha.ZH7 v2 j)) (i:=(v,(0:Int),z,z)) ⟨_,rfl,hzl,λj hj=>by omega⟩ (by omega) (by
  rintro i _ hi ⟨o,rfl,ho,hv⟩;left;unfold Xo;dsimp only;have e1:Int.tdiv (i:Int) 4=((i / 4:Nat):Int):=rfl;have e2:Int.tmod (i:Int) 4=((i % 4:Nat):Int):=rfl;obtain⟨x1,hx1,_⟩:=Zt (l:=v) (k:=i / 4) (by omega);obtain⟨x2,hx2,_⟩:=Zt (l:=o) (k:=i) (by omega);rw[if_pos (decide_eq_true (by omega)),e1,e2,ZN (z:=((i / 4:Nat):Int)) (by omega) (by omega),ZN (z:=8*((i % 4:Nat):Int)) (by omega) (by omega),ZN (z:=24 - 8*((i % 4:Nat):Int)) (by omega) (by omega),ZG hx1,yb,if_pos (decide_eq_true (by omega)),if_pos (Wb (by omega) (by omega)),ycb,hx2,yb,ZK (by omega)];refine⟨_,rfl,_,rfl,by rw[yaz];exact ho, ?_⟩;intro j hj;by_cases hji:j=i
  ·subst hji;rw[yco (by omega)];congr 1;unfold Go.Sha.ZH7
   have hx:v2.getD (j / 4) 0=x1.toNat:=by
    rw[←g2,yct,yah,hx1];rfl
   rw[hx,show min (24 - 8*((j % 4:Nat):Int)).toNat 32=24 - 8*(j % 4) by omega,Zw6];unfold w8;have e3:∀m:Nat,(((m:Nat):Int) % 256).toNat=m % 256:=λm=>by omega
   rw[e3,show yae x1.toNat (24 - 8*(j % 4))=x1.toNat >>> (24 - 8*(j % 4)) from rfl,ycx]
   exact UInt8.toNat_inj.1 (by simp)
  ·rw[List.getElem?_set_ne (Ne.symm hji)];exact hv j (by omega)) (by
  rintro _ ⟨o,rfl,ho,hv⟩;unfold Xo;dsimp only;rw[if_neg (by rw[decide_eq_true_iff];omega)];exact⟨_,rfl,_,rfl,ho,hv⟩)
 rw[k1,yb,ZC6, ←hEm,hv2];congr 1;apply ybl;intro j;by_cases hj:j < 32
 ·rw[k3 j hj,yah,List.getElem?_range hj];rfl
 ·rw[yao (by show o.length≤j;omega),yao (by simp;omega)]
noncomputable def XL(F:Nat)(a0:List UInt8):Option (List UInt8):=if decide (a0.length≤4294967296)=true then some (sha a0) else Wg F a0
noncomputable def Zme(F:Nat):Fs ya:={ Qn F with M:=λx=>XL F x}
noncomputable def Zfq:Fs ya:=Zme fuel
theorem Zmf:Zfq.Ok:=Znv (s:=Qn fuel) Zk9 λx=>by
 show XL fuel x=Wg fuel x;unfold XL;split
 ·rename_i h;exact(ZLG (of_decide_eq_true h)).symm
 ·rfl
theorem ZIe{l:List UInt8}(h:l.length≤4294967296):XL fuel l=some (sha l):=if_pos (decide_eq_true h)
end Go.Proofs.YtmkgbalfkhaflaaGreat
end
section
set_option maxRecDepth 4000
namespace Go.Proofs.YtmkgbalfkhaflaaGreat
open Go Go.Ev
noncomputable section
def Yw(F:Nat)(s:(UInt64×Int×(List UInt8)×(List UInt8))):Option ((UInt64×Int×(List UInt8)×(List UInt8))⊕((List UInt8)×(List UInt8))):=
 if(decide (s.2.1 ≥ 0))=true then
  if(decide (0≤s.2.1))=true then
   let y631:UInt8:=w8 ((ZF s.1 (min s.2.1.toNat 64)).toNat:Int)
   if(apB s.2.2.2.length 1 1)=true then
    some (.inl (s.1,wi (s.2.1 - 8),s.2.2.1,s.2.2.2++([y631]:List UInt8)))
   else
   none
  else
  none
 else
 some (.inr (s.2.2.1,s.2.2.2))
def Zao:Lp:=⟨[(0,.v .u64),(3,.own 1 .u8),(4,.v yI)],[.log .u8 5,.log .u8 5],[.u64,yI,(.sl .u8),(.sl .u8)],[⟨.exit 0,[(3,.own 1 .u8)],[.log .u8 5,.log .u8 5],[(.sl .u8),(.sl .u8)]⟩],Zc (Yw fuel) fuel⟩
theorem Zfr:Zao.Ok ya (Zj ya 164) (Zm ya 164 0):=Zh (fi:={ hi:={ own:=[2,3,9,15,16]},lp:=[]}) (specs:={ l:=[]}) (okS trivial) trivial (by kernel_rfl) (λv=>by kernel_rfl)
def Wl(F:Nat)(a0:UInt64):Option ((List UInt8)):=
 (Zc (Yw F) F (a0,(56:Int),([]:List UInt8),([]:List UInt8))).bind λo632=>
 some o632.2
def ZhF(F:Nat):Fs ya:=⟨164,[.v .u64],[],[.u64],[⟨.ret,[(0,.own 0 .u8)],[.log .u8 5],[(.sl .u8)]⟩],λx=>Wl F x⟩
def Za8:Fs ya:=ZhF fuel
theorem ZhG:Za8.Ok:=Zf (fi:={ hi:={ own:=[2,3,9,15,16]},lp:=[(0,Zao)]}) (specs:={ l:=[]}) (okS trivial) ⟨Zfr,trivial⟩ (by decide+kernel) (λx=>by kernel_rfl)
def YT(F:Nat)(s:((List (List UInt8))×Int×(List UInt8)×(List UInt8))):Option (((List (List UInt8))×Int×(List UInt8)×(List UInt8))⊕((List UInt8)×(List UInt8))):=
 if(decide (s.2.1 < (s.1.length:Int)))=true then
  (idx s.1 s.2.1).bind λe634=>
  (Vk F (w64 (e634.length:Int))).bind λo635=>
  if(apB s.2.2.2.length o635.length 1)=true then
   (idx s.1 s.2.1).bind λe636=>
   if(apB ((s.2.2.2++o635).length) e636.length 1)=true then
    some (.inl (s.1,wi (s.2.1+1),s.2.2.1,(s.2.2.2++o635)++e636))
   else
   none
  else
  none
 else
 some (.inr (s.2.2.1,s.2.2.2))
def ZdK:Lp:=⟨[(1,.v (.sl (.sl .u8))),(4,.ref 0 []),(5,.own 1 .u8),(6,.v yI)],[.var (.v (.arr 32 .u8)) true,.log .u8 5],[(.sl (.sl .u8)),yI,(.arr 32 .u8),(.sl .u8)],[⟨.exit 0,[(4,.ref 0 []),(5,.own 1 .u8)],[.var (.v (.arr 32 .u8)) true,.log .u8 5],[(.arr 32 .u8),(.sl .u8)]⟩],Zc (YT fuel) fuel⟩
theorem ZiC:ZdK.Ok ya (Zj ya 131) (Zm ya 131 0):=Zh (fi:={ hi:={ own:=[5,11,14,28,30,31,36],still:=[10,26,37]},lp:=[]}) (specs:={ l:=[ZdI]}) (okS ⟨Zk5,trivial⟩) trivial (by kernel_rfl) (λv=>by kernel_rfl)
def VP(F:Nat)(a0:ByteArray)(a1:(List (List UInt8))):Option ((List UInt8)):=
 (Wl F (w64 (a0.size:Int))).bind λo633=>
 if(decide (a0.size≤maxLen))=true then
  if(apB o633.length a0.data.toList.length 1)=true then
   (Zc (YT F) F (a1,(0:Int),([0,0,0,0,0,0,0,0,0,0,0,0,0,0,0,0,0,0,0,0,0,0,0,0,0,0,0,0,0,0,0,0]:List UInt8),o633++a0.data.toList)).bind λo637=>
   (XL F o637.2).bind λo638=>
   some o638
  else
  none
 else
 none
def Zmg(F:Nat):Fs ya:=⟨131,[.v .str,.v (.sl (.sl .u8))],[],[.str,(.sl (.sl .u8))],[⟨.ret,[(0,.v (.arr 32 .u8))],[],[(.arr 32 .u8)]⟩],λx=>VP F x.1 x.2⟩
def Zfs:Fs ya:=Zmg fuel
theorem Zmh:Zfs.Ok:=Zf (fi:={ hi:={ own:=[5,11,14,28,30,31,36],still:=[10,26,37]},lp:=[(0,ZdK)]}) (specs:={ l:=[Za8,Zfq]}) (okS ⟨ZhG,Zmf,trivial⟩) ⟨ZiC,trivial⟩ (by decide+kernel) (λx=>by kernel_rfl)
def Yx(F:Nat)(s:(Int×(List UInt8)×(List UInt8))):Option ((Int×(List UInt8)×(List UInt8))⊕((List UInt8)×(List UInt8))):=
 if(decide (s.1 < 32))=true then
  if(inB s.1 32)=true then
   (s.2.1[s.1.toNat]?).bind λe639=>
   if(apB s.2.2.length 1 1)=true then
    some (.inl (wi (s.1+1),s.2.1,s.2.2++([e639]:List UInt8)))
   else
   none
  else
  none
 else
 some (.inr (s.2.1,s.2.2))
def Zap:Lp:=⟨[(3,.ref 0 []),(5,.own 1 .u8),(6,.v yI)],[.var (.v (.arr 32 .u8)) true,.log .u8 5],[yI,(.arr 32 .u8),(.sl .u8)],[⟨.exit 0,[(5,.own 1 .u8)],[.var (.v (.arr 32 .u8)) true,.log .u8 5],[(.arr 32 .u8),(.sl .u8)]⟩],Zc (Yx fuel) fuel⟩
theorem Zft:Zap.Ok ya (Zj ya 132) (Zm ya 132 0):=Zh (fi:={ hi:={ own:=[5,7,9,14,19],still:=[4]},lp:=[]}) (specs:={ l:=[]}) (okS trivial) trivial (by kernel_rfl) (λv=>by kernel_rfl)
def Wm(F:Nat)(a0:(List UInt8))(a1:(List UInt8)):Option ((List UInt8)):=
 if(apB 0 a0.length 1)=true then
  (Zc (Yx F) F ((0:Int),a1,a0)).bind λo640=>
  some o640.2
 else
 none
def ZhH(F:Nat):Fs ya:=⟨132,[.v (.sl .u8),.v (.arr 32 .u8)],[],[(.sl .u8),(.arr 32 .u8)],[⟨.ret,[(0,.v (.sl .u8))],[],[(.sl .u8)]⟩],λx=>Wm F x.1 x.2⟩
def Za9:Fs ya:=ZhH fuel
theorem ZhI:Za9.Ok:=Zf (fi:={ hi:={ own:=[5,7,9,14,19],still:=[4]},lp:=[(0,Zap)]}) (specs:={ l:=[]}) (okS trivial) ⟨Zft,trivial⟩ (by decide+kernel) (λx=>by kernel_rfl)
def ZKk:ByteArray:=⟨#[107,105,116]⟩
def Z6(F:Nat)(a0:(List UInt8))(a1:UInt8):Option ((List UInt8)):=
 (Wm F ([]:List UInt8) a0).bind λo641=>
 (VP F ZKk ([o641,([a1]:List UInt8)]:List (List UInt8))).bind λo642=>
 some o642
def Zla(F:Nat):Fs ya:=⟨86,[.v (.arr 32 .u8),.v .u8],[],[(.arr 32 .u8),.u8],[⟨.ret,[(0,.v (.arr 32 .u8))],[],[(.arr 32 .u8)]⟩],λx=>Z6 F x.1 x.2⟩
def ZdL:Fs ya:=Zla fuel
theorem Zlb:ZdL.Ok:=Zf (fi:={ hi:={ still:=[5,6,10]},lp:=[]}) (specs:={ l:=[Za9,Zfs]}) (okS ⟨ZhI,Zmh,trivial⟩) trivial (by decide+kernel) (λx=>by kernel_rfl)
def WC(F:Nat)(a0:(List UInt8)):Option (Kit):=
 (Z6 F a0 (1:UInt8)).bind λo643=>
 (Yh F o643).bind λo644=>
 (Z6 F a0 (2:UInt8)).bind λo645=>
 (Yh F o645).bind λo646=>
 (Z6 F a0 (3:UInt8)).bind λo647=>
 (Yh F o647).bind λo648=>
 (Z6 F a0 (4:UInt8)).bind λo649=>
 (Yh F o649).bind λo650=>
 (Z6 F a0 (5:UInt8)).bind λo651=>
 (Yh F o651).bind λo652=>
 (Z6 F a0 (6:UInt8)).bind λo653=>
 some (o644,o646,o648,o650,o652,o653)
def Zmi(F:Nat):Fs ya:=⟨32,[.v (.arr 32 .u8)],[],[(.arr 32 .u8)],[⟨.ret,[(0,.v ZR)],[],[ZR]⟩],λx=>WC F x⟩
def Zfu:Fs ya:=Zmi fuel
theorem Zmj:Zfu.Ok:=Zf (fi:={ hi:={ still:=[3,4,6,7,9,10,12,13,15,16,18]},lp:=[]}) (specs:={ l:=[ZdL,ZdH]}) (okS ⟨Zlb,Zk3,trivial⟩) trivial (by decide+kernel) (λx=>by kernel_rfl)
def YU(F:Nat)(s:(UInt64×UInt64×UInt64)):Option ((UInt64×UInt64×UInt64)⊕UInt64):=
 if(decide (s.2.1 > 0))=true then
  if((s.2.1 % 2)==1)=true then
   some (.inl ((s.1+s.1) % 4611686018427377339,s.2.1 / 2,(s.2.2+s.1) % 4611686018427377339))
  else
  some (.inl ((s.1+s.1) % 4611686018427377339,s.2.1 / 2,s.2.2))
 else
 some (.inr s.2.2)
def Zba:Lp:=⟨[(0,.v .u64),(1,.v .u64),(5,.v .u64)],[],[.u64,.u64,.u64],[⟨.exit 0,[(5,.v .u64)],[],[.u64]⟩],Zc (YU fuel) fuel⟩
theorem ZfL:Zba.Ok ya (Zj ya 168) (Zm ya 168 0):=Zh (fi:={ hi:={ still:=[4]},lp:=[]}) (specs:={ l:=[]}) (okS trivial) trivial (by kernel_rfl) (λv=>by kernel_rfl)
def WD(F:Nat)(a0:UInt64)(a1:UInt64):Option (UInt64):=
 (Zc (YU F) F (a0,a1,(0:UInt64))).bind λo654=>
 some o654
def Vl(F:Nat):Fs ya:=⟨168,[.v .u64,.v .u64],[],[.u64,.u64],[⟨.ret,[(0,.v .u64)],[],[.u64]⟩],λx=>WD F x.1 x.2⟩
def Zjz:Fs ya:=Vl fuel
theorem ZiD:Zjz.Ok:=Zf (fi:={ hi:={ still:=[4]},lp:=[(0,Zba)]}) (specs:={ l:=[]}) (okS trivial) ⟨ZfL,trivial⟩ (by decide+kernel) (λx=>by kernel_rfl)
end
end Go.Proofs.YtmkgbalfkhaflaaGreat
end
section
set_option maxRecDepth 4000
namespace Go.Proofs.YtmkgbalfkhaflaaGreat
open Go Go.Ev
theorem ZqH{z:Nat}:(yal (z % 4611686018427377339)).toNat=z % 4611686018427377339:=by
 rw[ybe,yaj];exact Nat.lt_trans (ybc _ (by decide)) (by decide)
theorem ZIf{a b:UInt64}(ha:a.toNat < 4611686018427377339)(hb:b.toNat < 4611686018427377339):((a+b) % 4611686018427377339).toNat=(a.toNat+b.toNat) % 4611686018427377339:=by
 rw[UInt64.toNat_mod,UInt64.toNat_add,show(4611686018427377339:UInt64).toNat=4611686018427377339 from rfl,yaj (a:=a.toNat+b.toNat) (by omega)]
theorem Zlc:∀(k m:Nat)(A B O:UInt64),A.toNat < 4611686018427377339→O.toNat < 4611686018427377339→B.toNat < 2 ^ k→k < m→
 Zc (YU fuel) m (A,B,O)=some (yal ((O.toNat+A.toNat*B.toNat) % 4611686018427377339))
 |k,0,_,_,_,_,_,_,h=>by omega
 |0,m+1,A,B,O,hA,hO,h,_=>by
  have h0:B.toNat=0:=by rw[Nat.pow_zero] at h;omega
  have hn:¬B > 0:=by
   intro h2;have h3:0 < B.toNat:=ybv.1 h2;omega
  have hs:YU fuel (A,B,O)=if decide (B > 0)=true then(if((B % 2)==1)=true then some (.inl ((A+A) % 4611686018427377339,B / 2,(O+A) % 4611686018427377339)) else some (.inl ((A+A) % 4611686018427377339,B / 2,O))) else some (.inr O):=rfl
  unfold Zc;rw[hs]
  rw[if_neg (by rw[decide_eq_true_iff];exact hn),yb,h0,Nat.mul_zero,Nat.add_zero,yaj hO,UInt64.ofNat_toNat]
 |k+1,m+1,A,B,O,hA,hO,h,hm=>by
  have hs:YU fuel (A,B,O)=if decide (B > 0)=true then(if((B % 2)==1)=true then some (.inl ((A+A) % 4611686018427377339,B / 2,(O+A) % 4611686018427377339)) else some (.inl ((A+A) % 4611686018427377339,B / 2,O))) else some (.inr O):=rfl
  unfold Zc;rw[hs];by_cases h2:B > 0
  ·have h3:0 < B.toNat:=ybv.1 h2;have hsh:(B / 2).toNat=B.toNat / 2:=by rw[UInt64.toNat_div];rfl
   have hlt:(B / 2).toNat < 2 ^ k:=by
    rw[hsh];rw[Nat.pow_succ] at h;omega
   have hand:((B % 2)==1)=decide (B.toNat % 2=1):=by
    rw[Bool.eq_iff_iff,beq_iff_eq,decide_eq_true_iff, ←UInt64.toNat_inj,UInt64.toNat_mod];rfl
   have hA2:=ZIf hA hA;have hAl:((A+A) % 4611686018427377339).toNat < 4611686018427377339:=by rw[hA2];exact ybc _ (by decide)
   have hB:B.toNat=2*(B.toNat / 2)+B.toNat % 2:=by omega
   rw[if_pos (decide_eq_true h2),hand];by_cases h4:B.toNat % 2=1
   ·have hO2:=ZIf hO hA;have hOl:((O+A) % 4611686018427377339).toNat < 4611686018427377339:=by rw[hO2];exact ybc _ (by decide)
    rw[if_pos (decide_eq_true h4),yb];dsimp only;rw[Zlc k m _ _ _ hAl hOl hlt (by omega),hA2,hO2,hsh];congr 2;rw[Nat.add_mod,Nat.mod_mod,Nat.mod_mul_mod, ←Nat.add_mod];congr 1
    conv=>rhs;rw[hB,h4,Nat.mul_add,Nat.mul_one, ←Nat.mul_assoc]
    rw[Nat.mul_two];omega
   ·rw[if_neg (by rw[decide_eq_true_iff];exact h4),yb];dsimp only;rw[Zlc k m _ _ _ hAl hO hlt (by omega),hA2,hsh];congr 2;rw[Nat.add_mod,Nat.mod_mul_mod, ←Nat.add_mod];congr 1
    conv=>rhs;rw[hB,show B.toNat % 2=0 by omega,Nat.add_zero, ←Nat.mul_assoc]
    rw[Nat.mul_two]
  ·have h3:B.toNat=0:=by
    rcases Nat.eq_zero_or_pos B.toNat with h5|h5
    ·exact h5
    ·exact absurd (show(0:UInt64) < B from ybv.2 h5) h2
   rw[if_neg (by rw[decide_eq_true_iff];exact h2),yb,h3,Nat.mul_zero,Nat.add_zero,yaj hO,UInt64.ofNat_toNat]
noncomputable def Zx(F:Nat)(a0:UInt64)(a1:UInt64):Option UInt64:=if decide (a0.toNat < 4611686018427377339)=true then some (yal (a0.toNat*a1.toNat % 4611686018427377339)) else WD F a0 a1
theorem ZFL(a b:UInt64):WD fuel a b=Zx fuel a b:=by
 unfold Zx;split
 ·rename_i h;unfold WD;rw[Zlc 64 fuel a b 0 (of_decide_eq_true h) (by decide) (ybm _) (by rw[Zd5];omega),yb,show(0:UInt64).toNat=0 from rfl,ybb]
 ·rfl
noncomputable def ZjA(F:Nat):Fs ya:={ Vl F with M:=λx=>Zx F x.1 x.2}
noncomputable def ZcP:Fs ya:=ZjA fuel
theorem ZjB:ZcP.Ok:=Znv (s:=Vl fuel) ZiD λx=>(ZFL x.1 x.2).symm
end Go.Proofs.YtmkgbalfkhaflaaGreat
end
section
set_option maxRecDepth 4000
namespace Go.Proofs.YtmkgbalfkhaflaaGreat
open Go Go.Ev
noncomputable section
def YV(F:Nat)(s:(UInt64×UInt64×UInt64)):Option ((UInt64×UInt64×UInt64)⊕UInt64):=
 if(decide (s.2.1 > 0))=true then
  if((s.2.1 % 2)==1)=true then
   (Zx F s.2.2 s.1).bind λo655=>
   (Zx F s.1 s.1).bind λo656=>
   some (.inl (o656,s.2.1 / 2,o655))
  else
  (Zx F s.1 s.1).bind λo657=>
  some (.inl (o657,s.2.1 / 2,s.2.2))
 else
 some (.inr s.2.2)
def Zbb:Lp:=⟨[(0,.v .u64),(1,.v .u64),(5,.v .u64)],[],[.u64,.u64,.u64],[⟨.exit 0,[(5,.v .u64)],[],[.u64]⟩],Zc (YV fuel) fuel⟩
theorem ZfM:Zbb.Ok ya (Zj ya 139) (Zm ya 139 0):=Zh (fi:={ hi:={ still:=[4,11,12,14,15]},lp:=[]}) (specs:={ l:=[ZcP]}) (okS ⟨ZjB,trivial⟩) trivial (by kernel_rfl) (λv=>by kernel_rfl)
def WE(F:Nat)(a0:UInt64)(a1:UInt64):Option (UInt64):=
 (Zc (YV F) F (a0,a1,(1:UInt64))).bind λo658=>
 some o658
def Vm(F:Nat):Fs ya:=⟨139,[.v .u64,.v .u64],[],[.u64,.u64],[⟨.ret,[(0,.v .u64)],[],[.u64]⟩],λx=>WE F x.1 x.2⟩
def ZjC:Fs ya:=Vm fuel
theorem ZiE:ZjC.Ok:=Zf (fi:={ hi:={ still:=[4,11,12,14,15]},lp:=[(0,Zbb)]}) (specs:={ l:=[]}) (okS trivial) ⟨ZfM,trivial⟩ (by decide+kernel) (λx=>by kernel_rfl)
end
end Go.Proofs.YtmkgbalfkhaflaaGreat
end
section
set_option maxRecDepth 4000
namespace Go.Proofs.YtmkgbalfkhaflaaGreat
open Go Go.Ev
theorem ZqI:∀(k m:Nat)(A N O:UInt64),A.toNat < 4611686018427377339→O.toNat < 4611686018427377339→N.toNat < 2 ^ k→k < m→Zc (YV fuel) m (A,N,O)=some (yal (pwm 4611686018427377339 k A.toNat N.toNat O.toNat))
 |k,0,_,_,_,_,_,_,h=>by omega
 |0,m+1,A,N,O,hA,hO,h,_=>by
  have hn:¬N > 0:=by
   intro h2;have h3:0 < N.toNat:=ybv.1 h2;rw[Nat.pow_zero] at h;omega
  have hs:YV fuel (A,N,O)=if decide (N > 0)=true then(if((N % 2)==1)=true then(Zx fuel O A).bind λo1=>(Zx fuel A A).bind λo2=>some (.inl (o2,N / 2,o1)) else(Zx fuel A A).bind λo2=>some (.inl (o2,N / 2,O))) else some (.inr O):=rfl
  unfold Zc;rw[hs]
  rw[if_neg (by rw[decide_eq_true_iff];exact hn),yb,pwm,UInt64.ofNat_toNat]
 |k+1,m+1,A,N,O,hA,hO,h,hm=>by
  have hs:YV fuel (A,N,O)=if decide (N > 0)=true then(if((N % 2)==1)=true then(Zx fuel O A).bind λo1=>(Zx fuel A A).bind λo2=>some (.inl (o2,N / 2,o1)) else(Zx fuel A A).bind λo2=>some (.inl (o2,N / 2,O))) else some (.inr O):=rfl
  unfold Zc;rw[hs];by_cases h2:N > 0
  ·have hp:0 < N.toNat→pwm 4611686018427377339 (k+1) A.toNat N.toNat O.toNat=pwm 4611686018427377339 k (A.toNat*A.toNat % 4611686018427377339) (N.toNat / 2) (if N.toNat % 2=1 then O.toNat*A.toNat % 4611686018427377339 else O.toNat):=λh=>by
    rw[pwm,if_neg (by omega)]
   have h3:0 < N.toNat:=ybv.1 h2;have hsh:(N / 2).toNat=N.toNat / 2:=by rw[UInt64.toNat_div];rfl
   have hlt:(N / 2).toNat < 2 ^ k:=by
    rw[hsh];rw[Nat.pow_succ] at h;omega
   have hand:((N % 2)==1)=decide (N.toNat % 2=1):=by
    rw[Bool.eq_iff_iff,beq_iff_eq,decide_eq_true_iff, ←UInt64.toNat_inj,UInt64.toNat_mod];rfl
   have ml:∀z:Nat,z % 4611686018427377339 < 4611686018427377339:=λz=>ybc _ (by decide)
   have e1:Zx fuel A A=some (yal (A.toNat*A.toNat % 4611686018427377339)):=by
    unfold Zx;rw[if_pos (decide_eq_true hA)]
   have e2:Zx fuel O A=some (yal (O.toNat*A.toNat % 4611686018427377339)):=by
    unfold Zx;rw[if_pos (decide_eq_true hO)]
   rw[if_pos (decide_eq_true h2),hand,hp h3,e1,e2];by_cases h4:N.toNat % 2=1
   ·rw[if_pos (decide_eq_true h4),if_pos h4,yb,yb,yb];dsimp only;rw[ZqI k m _ _ _ (by rw[ZqH];exact ml _) (by rw[ZqH];exact ml _) hlt (by omega),ZqH,ZqH,hsh]
   ·rw[if_neg (by rw[decide_eq_true_iff];exact h4),if_neg h4,yb,yb];dsimp only;rw[ZqI k m _ _ _ (by rw[ZqH];exact ml _) hO hlt (by omega),ZqH,hsh]
  ·have h3:N.toNat=0:=by
    rcases Nat.eq_zero_or_pos N.toNat with h5|h5
    ·exact h5
    ·exact absurd (show(0:UInt64) < N from ybv.2 h5) h2
   rw[if_neg (by rw[decide_eq_true_iff];exact h2),yb,pwm,if_pos h3,UInt64.ofNat_toNat]
noncomputable def Yo(F:Nat)(a0:UInt64)(a1:UInt64):Option UInt64:=if decide (a0.toNat < 4611686018427377339)=true then some (yal (pwm 4611686018427377339 64 a0.toNat a1.toNat 1)) else WE F a0 a1
theorem ZFM(a n:UInt64):WE fuel a n=Yo fuel a n:=by
 unfold Yo;split
 ·rename_i h;unfold WE;rw[ZqI 64 fuel a n 1 (of_decide_eq_true h) (by decide) (ybm _) (by rw[Zd5];omega),yb];rfl
 ·rfl
noncomputable def ZjD(F:Nat):Fs ya:={ Vm F with M:=λx=>Yo F x.1 x.2}
noncomputable def Qo:Fs ya:=ZjD fuel
theorem Zbs:Qo.Ok:=Znv (s:=Vm fuel) ZiE λx=>(ZFM x.1 x.2).symm
end Go.Proofs.YtmkgbalfkhaflaaGreat
end
