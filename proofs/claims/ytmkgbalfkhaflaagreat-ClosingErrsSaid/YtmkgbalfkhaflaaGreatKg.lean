/- Parts of the proof, in one file. -/
import Derived.Test.YtmkgbalfkhaflaaGreatKf
open Go.Proofs.Tryz renaming prog → ya
open Int renaming toNat_natCast → ycb
open List renaming getElem?_eq_some_iff → yp, length_append → yr, nil_append → yw, getElem?_eq_getElem → yac, length_cons → yad, length_take → yag, append_assoc → yak, getElem?_append_right → yap, mem_cons_self → yat, mem_cons_of_mem → yau, mem_singleton → yay, take_length → ybt, mem_cons → ybz, getElem_of_mem → ycr
open Nat renaming mod_eq_of_lt → yaj, mod_lt → ybc, mul_comm → ybi, mul_le_mul_right → ybu, two_pow_add_eq_or_of_lt → ycu
open Option renaming bind_some → yb, bind → ybr
open UInt64 renaming ofNat → yal, toNat_ofNat' → ybe, toNat_lt → ybm, lt_iff_toNat_lt → ybv, le_iff_toNat_le → ycp
open UInt8 renaming ofNat → yaq
set_option linter.unusedVariables false
set_option linter.unusedSimpArgs false
section
set_option maxRecDepth 4000
namespace Go.Proofs.YtmkgbalfkhaflaaGreat
open Go Go.Ev
noncomputable section
def Ya(F:Nat)(a0:UInt64):Option (Bool):=
 if(decide (a0 ≥ 1))=true then
  if(decide (a0 < 4611686018427377339))=true then
   (Yo F a0 (2305843009213688669:UInt64)).bind λo659=>
   some (o659==1)
  else
  some false
 else
 some false
def ZjE(F:Nat):Fs ya:=⟨98,[.v .u64],[],[.u64],[⟨.ret,[(0,.v .bool)],[],[.bool]⟩],λx=>Ya F x⟩
def YW:Fs ya:=ZjE fuel
theorem Xp:YW.Ok:=Zf (fi:={ hi:={ still:=[2,10]},lp:=[]}) (specs:={ l:=[Qo]}) (okS ⟨Zbs,trivial⟩) trivial (by decide+kernel) (λx=>by kernel_rfl)
def WP(F:Nat)(a0:UInt64):Option (UInt64):=
 (Ya F a0).bind λo660=>
 if o660=true then
  some a0
 else
 some (1:UInt64)
def ZjF(F:Nat):Fs ya:=⟨166,[.v .u64],[],[.u64],[⟨.ret,[(0,.v .u64)],[],[.u64]⟩],λx=>WP F x⟩
def ZcQ:Fs ya:=ZjF fuel
theorem ZjG:ZcQ.Ok:=Zf (fi:={ hi:={ still:=[2,3]},lp:=[]}) (specs:={ l:=[YW]}) (okS ⟨Xp,trivial⟩) trivial (by decide+kernel) (λx=>by kernel_rfl)
def WQ(F:Nat)(a0:UInt64)(a1:UInt64):Option (UInt64):=
 (WP F a0).bind λo661=>
 (Yo F o661 (a1 % 2305843009213688669)).bind λo662=>
 some o662
def ZjH(F:Nat):Fs ya:=⟨133,[.v .u64,.v .u64],[],[.u64,.u64],[⟨.ret,[(0,.v .u64)],[],[.u64]⟩],λx=>WQ F x.1 x.2⟩
def ZcR:Fs ya:=ZjH fuel
theorem ZjI:ZcR.Ok:=Zf (fi:={ hi:={ still:=[4,5,6,8]},lp:=[]}) (specs:={ l:=[ZcQ,Qo]}) (okS ⟨ZjG,Zbs,trivial⟩) trivial (by decide+kernel) (λx=>by kernel_rfl)
def Yi(F:Nat)(a0:UInt64):Option (UInt64):=
 (WQ F (4:UInt64) a0).bind λo663=>
 some o663
def Zld(F:Nat):Fs ya:=⟨87,[.v .u64],[],[.u64],[⟨.ret,[(0,.v .u64)],[],[.u64]⟩],λx=>Yi F x⟩
def ZdM:Fs ya:=Zld fuel
theorem Zle:ZdM.Ok:=Zf (fi:={ hi:={ still:=[2,3]},lp:=[]}) (specs:={ l:=[ZcR]}) (okS ⟨ZjI,trivial⟩) trivial (by decide+kernel) (λx=>by kernel_rfl)
def WF(F:Nat)(a0:Kit):Option (VF):=
 (Yi F a0.1).bind λo664=>
 (Yi F a0.2.1).bind λo665=>
 (Yi F a0.2.2.1).bind λo666=>
 (Yi F a0.2.2.2.1).bind λo667=>
 (Yi F a0.2.2.2.2.1).bind λo668=>
 some (o664,o665,o666,o667,o668)
def ZiF(F:Nat):Fs ya:=⟨33,[.v ZR],[],[ZR],[⟨.ret,[(0,.v VK)],[],[VK]⟩],λx=>WF F x⟩
def Zbt:Fs ya:=ZiF fuel
theorem ZiG:Zbt.Ok:=Zf (fi:={ hi:={ still:=[4,7,10,13,16]},lp:=[]}) (specs:={ l:=[ZdM]}) (okS ⟨Zle,trivial⟩) trivial (by decide+kernel) (λx=>by kernel_rfl)
def ZS(F:Nat)(a0:Int)(a1:Int)(a2:Int):Option (Bool):=
 if(decide (a0 ≥ a1))=true then
  some (decide (a0≤a2))
 else
 some false
def ZnO(F:Nat):Fs ya:=⟨134,[.v yI,.v yI,.v yI],[],[yI,yI,yI],[⟨.ret,[(0,.v .bool)],[],[.bool]⟩],λx=>ZS F x.1 x.2.1 x.2.2⟩
def WG:Fs ya:=ZnO fuel
theorem Vn:WG.Ok:=Zf (fi:={ hi:={ still:=[6]},lp:=[]}) (specs:={ l:=[]}) (okS trivial) trivial (by decide+kernel) (λx=>by kernel_rfl)
def WR(F:Nat)(a0:QP):Option (Bool):=
 (ZS F a0.1 (0:Int) (65536:Int)).bind λo669=>
 if o669=true then
  (ZS F a0.2.1 a0.1 (1125899906842624:Int)).bind λo670=>
  if o670=true then
   (ZS F a0.2.2.1 (1:Int) (4096:Int)).bind λo671=>
   if o671=true then
    (ZS F a0.2.2.2.1 (0:Int) (16:Int)).bind λo672=>
    if o672=true then
     (ZS F a0.2.2.2.2.1 (1:Int) (1125899906842624:Int)).bind λo673=>
     if o673=true then
      (ZS F a0.2.2.2.2.2 (0:Int) (1125899906842624:Int)).bind λo674=>
      some o674
     else
     some false
    else
    some false
   else
   some false
  else
  some false
 else
 some false
def ZjJ(F:Nat):Fs ya:=⟨135,[.v Zc8],[],[Zc8],[⟨.ret,[(0,.v .bool)],[],[.bool]⟩],λx=>WR F x⟩
def ZcS:Fs ya:=ZjJ fuel
theorem ZjK:ZcS.Ok:=Zf (fi:={ hi:={ still:=[2,5,9,11,16,22,27,32]},lp:=[]}) (specs:={ l:=[WG]}) (okS ⟨Vn,trivial⟩) trivial (by decide+kernel) (λx=>by kernel_rfl)
def VQ(F:Nat)(a0:UInt64):Option (Bool):=
 (Ya F a0).bind λo675=>
 if o675=true then
  some (a0 !=1)
 else
 some false
def Zmk(F:Nat):Fs ya:=⟨136,[.v .u64],[],[.u64],[⟨.ret,[(0,.v .bool)],[],[.bool]⟩],λx=>VQ F x⟩
def Zfv:Fs ya:=Zmk fuel
theorem Zml:Zfv.Ok:=Zf (fi:={ hi:={ still:=[2,3]},lp:=[]}) (specs:={ l:=[YW]}) (okS ⟨Xp,trivial⟩) trivial (by decide+kernel) (λx=>by kernel_rfl)
def XD(F:Nat)(s:(Int×(List UInt64)×Int×ZH×VF)):Option ((Int×(List UInt64)×Int×ZH×VF)⊕((Int×ZH×VF)⊕(Int×ZH×VF))):=
 if(decide (s.2.2.1 < 5))=true then
  (idx s.2.1 s.2.2.1).bind λe682=>
  (VQ F e682).bind λo683=>
  if(!o683)=true then
   some (.inr (.inl ((1:Int),s.2.2.2.1,s.2.2.2.2)))
  else
  some (.inl (s.1,s.2.1,wi (s.2.2.1+1),s.2.2.2.1,s.2.2.2.2))
 else
 some (.inr (.inr (s.1,s.2.2.2.1,s.2.2.2.2)))
def ZdN:Lp:=⟨[(1,.ref 0 []),(3,.v yI),(5,.v (.sl .u64)),(6,.v yI)],[.var (.v Zl) true,.var (.v VK) true],[yI,(.sl .u64),yI,Zl,VK],[⟨.ret,[(2,.v yI)],[.var (.v Zl) true,.var (.v VK) true],[yI,Zl,VK]⟩,⟨.exit 2,[(1,.ref 0 []),(3,.v yI)],[.var (.v Zl) true,.var (.v VK) true],[yI,Zl,VK]⟩],Zc (XD fuel) fuel⟩
theorem ZiH:ZdN.Ok ya (Zj ya 88) (Zm ya 88 1):=Zh (fi:={ hi:={ still:=[2,8,14,20,46,56]},lp:=[]}) (specs:={ l:=[Zfv]}) (okS ⟨Zml,trivial⟩) trivial (by kernel_rfl) (λv=>by kernel_rfl)
def WH(F:Nat)(s:(Int×ZH)):Option ((Int×ZH)⊕((Int×ZH)⊕ZH)):=
 if(decide (s.1 < 2))=true then
  if(inB s.1 2)=true then
   (s.2.2.2.1[s.1.toNat]?).bind λe679=>
   if(inB s.1 2)=true then
    (s.2.2.2.2.1[s.1.toNat]?).bind λe680=>
    (WR F e680).bind λo681=>
    if(!o681)=true then
     some (.inr (.inl ((1:Int),s.2)))
    else
    (Zc (XD F) F (s.1,([e679.1,e679.2.1,e679.2.2.1,e679.2.2.2.1,e679.2.2.2.2]:List UInt64),(0:Int),s.2,e679)).bind λo684=>
    match o684 with
    |.inl o685=>
     some (.inr (.inl (o685.1,o685.2.1)))
    |.inr o686=>
     some (.inl (wi (o686.1+1),o686.2.1))
   else
   none
  else
  none
 else
 some (.inr (.inr s.2))
def ZdO:Lp:=⟨[(1,.ref 0 []),(3,.v yI)],[.var (.v Zl) true],[yI,Zl],[⟨.ret,[(2,.v yI)],[.var (.v Zl) true],[yI,Zl]⟩,⟨.exit 0,[(1,.ref 0 [])],[.var (.v Zl) true],[Zl]⟩],Zc (WH fuel) fuel⟩
theorem ZiI:ZdO.Ok ya (Zj ya 88) (Zm ya 88 0):=Zh (fi:={ hi:={ still:=[2,8,14,20,46,56]},lp:=[(1,ZdN)]}) (specs:={ l:=[ZcS]}) (okS ⟨ZjK,trivial⟩) ⟨ZiH,trivial⟩ (by kernel_rfl) (λv=>by kernel_rfl)
def VR(F:Nat)(a0:ZH):Option (Int):=
 (ZS F a0.2.1 (1:Int) (1125899906842624:Int)).bind λo676=>
 if(!o676)=true then
  some (1:Int)
 else
 (ZS F a0.1.2 (0:Int) (63:Int)).bind λo677=>
 if(!o677)=true then
  some (1:Int)
 else
 (ZS F a0.2.2.2.2 (0:Int) (1:Int)).bind λo678=>
 if(!o678)=true then
  some (1:Int)
 else
 (Zc (WH F) F ((0:Int),a0)).bind λo687=>
 match o687 with
 |.inl o688=>
  some o688.1
 |.inr o689=>
  (o689.2.2.2.1[0]?).bind λe690=>
  (o689.2.2.2.1[1]?).bind λe691=>
  if(decide ((wi (e690.2.1+e691.2.1)) > o689.2.1))=true then
   some (10:Int)
  else
  some (0:Int)
def Zmm(F:Nat):Fs ya:=⟨88,[.v Zl],[],[Zl],[⟨.ret,[(0,.v yI)],[],[yI]⟩],λx=>VR F x⟩
def Zfw:Fs ya:=Zmm fuel
theorem Zmn:Zfw.Ok:=Zf (fi:={ hi:={ still:=[2,8,14,20,46,56]},lp:=[(0,ZdO)]}) (specs:={ l:=[WG]}) (okS ⟨Vn,trivial⟩) ⟨ZiI,trivial⟩ (by decide+kernel) (λx=>by kernel_rfl)
def Z1(F:Nat)(a0:Int)(a1:Int)(a2:Int):Option (Bool):=
 if(decide (a0 ≥ a1))=true then
  some (decide (a0≤a2))
 else
 some false
def ZnP(F:Nat):Fs ya:=⟨89,[.v yI,.v yI,.v yI],[],[yI,yI,yI],[⟨.ret,[(0,.v .bool)],[],[.bool]⟩],λx=>Z1 F x.1 x.2.1 x.2.2⟩
def Zbc:Fs ya:=ZnP fuel
theorem Zfx:Zbc.Ok:=Zf (fi:={ hi:={ still:=[6]},lp:=[]}) (specs:={ l:=[]}) (okS trivial) trivial (by decide+kernel) (λx=>by kernel_rfl)
def Wh(F:Nat)(a0:ZL):Option (Bool):=
 (Ya F a0.2.2.2.1).bind λo692=>
 if o692=true then
  if(a0.2.2.2.1 !=1)=true then
   (Z1 F a0.1 (0:Int) (1:Int)).bind λo693=>
   if o693=true then
    (Z1 F a0.2.1 (1:Int) (1048576:Int)).bind λo694=>
    if o694=true then
     (Z1 F a0.2.2.1 (1:Int) (1125899906842624:Int)).bind λo695=>
     if o695=true then
      (Z1 F a0.2.2.2.2 (1:Int) (1048576:Int)).bind λo696=>
      some o696
     else
     some false
    else
    some false
   else
   some false
  else
  some false
 else
 some false
def Zlf(F:Nat):Fs ya:=⟨90,[.v ZB],[],[ZB],[⟨.ret,[(0,.v .bool)],[],[.bool]⟩],λx=>Wh F x⟩
def QL:Fs ya:=Zlf fuel
theorem ZcT:QL.Ok:=Zf (fi:={ hi:={ still:=[2,5,15,20,25,30]},lp:=[]}) (specs:={ l:=[YW,Zbc]}) (okS ⟨Xp,Zfx,trivial⟩) trivial (by decide+kernel) (λx=>by kernel_rfl)
def XS(F:Nat)(a0:ZL)(a1:ZL):Option (Bool):=
 if(decide (a0.1 < a1.1))=true then
  some true
 else
 if(a0.1==a1.1)=true then
  some (decide (a0.2.1 < a1.2.1))
 else
 some false
def ZjL(F:Nat):Fs ya:=⟨91,[.v ZB,.v ZB],[],[ZB,ZB],[⟨.ret,[(0,.v .bool)],[],[.bool]⟩],λx=>XS F x.1 x.2⟩
def Qp:Fs ya:=ZjL fuel
theorem Zbu:Qp.Ok:=Zf (fi:={ hi:={ still:=[4]},lp:=[]}) (specs:={ l:=[]}) (okS trivial) trivial (by decide+kernel) (λx=>by kernel_rfl)
def Yy(F:Nat)(s:(Int×Int×Int×Int×State)):Option ((Int×Int×Int×Int×State)⊕(Int×Int×State)):=
 let y697:Bool:=decide (s.2.2.2.1 < (s.2.2.2.2.2.2.1.length:Int))
 if y697=true then
  (idx s.2.2.2.2.2.2.1 s.2.2.2.1).bind λe698=>
  if(e698.1==(wi (1 - s.1)))=true then
   (idx s.2.2.2.2.2.2.1 s.2.2.2.1).bind λe699=>
   some (.inl (s.1,wi (s.2.1+1),wi (s.2.2.1+e699.2.2.1),wi (s.2.2.2.1+1),s.2.2.2.2))
  else
  some (.inl (s.1,s.2.1,s.2.2.1,wi (s.2.2.2.1+1),s.2.2.2.2))
 else
 some (.inr (s.2.1,s.2.2.1,s.2.2.2.2))
def Zaq:Lp:=⟨[(1,.v yI),(2,.ref 0 []),(6,.v yI),(7,.v yI),(8,.v yI)],[.var (.v Zg) true],[yI,yI,yI,yI,Zg],[⟨.exit 0,[(6,.v yI),(7,.v yI)],[.var (.v Zg) true],[yI,yI,Zg]⟩],Zc (Yy fuel) fuel⟩
theorem Zfy:Zaq.Ok ya (Zj ya 92) (Zm ya 92 0):=Zh (fi:={ hi:={ still:=[4,5]},lp:=[]}) (specs:={ l:=[]}) (okS trivial) trivial (by kernel_rfl) (λv=>by kernel_rfl)
def Xq(F:Nat)(a0:State)(a1:Int):Option ((Int×Int)):=
 (Zc (Yy F) F (a1,(0:Int),(0:Int),(0:Int),a0)).bind λo700=>
 some (o700.1,o700.2.1)
def ZhJ(F:Nat):Fs ya:=⟨92,[.v Zg,.v yI],[],[Zg,yI],[⟨.ret,[(0,.tup [.v yI,.v yI])],[],[yI,yI]⟩],λx=>Xq F x.1 x.2⟩
def Vo:Fs ya:=ZhJ fuel
theorem Zar:Vo.Ok:=Zf (fi:={ hi:={ still:=[4,5]},lp:=[(0,Zaq)]}) (specs:={ l:=[]}) (okS trivial) ⟨Zfy,trivial⟩ (by decide+kernel) (λx=>by kernel_rfl)
def XW(F:Nat)(s:(Int×Int×State)):Option ((Int×Int×State)⊕(Int×State)):=
 if(decide (s.2.1 < (s.2.2.2.2.1.length:Int)))=true then
  (idx s.2.2.2.2.1 s.2.1).bind λe703=>
  some (.inl (wi (s.1+e703.2.2.1),wi (s.2.1+1),s.2.2))
 else
 some (.inr (s.1,s.2.2))
def Zbv:Lp:=⟨[(1,.ref 0 []),(3,.v yI),(4,.v yI)],[.var (.v Zg) true],[yI,yI,Zg],[⟨.exit 0,[(3,.v yI)],[.var (.v Zg) true],[yI,Zg]⟩],Zc (XW fuel) fuel⟩
theorem ZgV:Zbv.Ok ya (Zj ya 93) (Zm ya 93 0):=Zh (fi:={ hi:={ still:=[2]},lp:=[]}) (specs:={ l:=[]}) (okS trivial) trivial (by kernel_rfl) (λv=>by kernel_rfl)
def WS(F:Nat)(a0:State):Option (Int):=
 (a0.2.1[0]?).bind λe701=>
 (a0.2.1[1]?).bind λe702=>
 (Zc (XW F) F (wi (e701+e702),(0:Int),a0)).bind λo704=>
 some o704.1
def ZjM(F:Nat):Fs ya:=⟨93,[.v Zg],[],[Zg],[⟨.ret,[(0,.v yI)],[],[yI]⟩],λx=>WS F x⟩
def ZcU:Fs ya:=ZjM fuel
theorem ZjN:ZcU.Ok:=Zf (fi:={ hi:={ still:=[2]},lp:=[(0,Zbv)]}) (specs:={ l:=[]}) (okS trivial) ⟨ZgV,trivial⟩ (by decide+kernel) (λx=>by kernel_rfl)
def Qq(F:Nat)(a0:Int):Option (Int):=
 (ZS F a0 (0:Int) (16:Int)).bind λo705=>
 if(!o705)=true then
  some (0:Int)
 else
 some (wi (36+(wi ((wi (4+a0))*8))))
def ZiJ(F:Nat):Fs ya:=⟨167,[.v yI],[],[yI],[⟨.ret,[(0,.v yI)],[],[yI]⟩],λx=>Qq F x⟩
def Zbw:Fs ya:=ZiJ fuel
theorem ZiK:Zbw.Ok:=Zf (fi:={ hi:={ still:=[2,3]},lp:=[]}) (specs:={ l:=[WG]}) (okS ⟨Vn,trivial⟩) trivial (by decide+kernel) (λx=>by kernel_rfl)
def VS(F:Nat)(a0:Int)(a1:Int):Option (Int):=
 (ZS F a0 (0:Int) (1000:Int)).bind λo706=>
 if(!o706)=true then
  some (0:Int)
 else
 (Qq F a1).bind λo707=>
 some (wi (a0*o707))
def Zmo(F:Nat):Fs ya:=⟨137,[.v yI,.v yI],[],[yI,yI],[⟨.ret,[(0,.v yI)],[],[yI]⟩],λx=>VS F x.1 x.2⟩
def Zfz:Fs ya:=Zmo fuel
theorem Zmp:Zfz.Ok:=Zf (fi:={ hi:={ still:=[4,5,9]},lp:=[]}) (specs:={ l:=[WG,Zbw]}) (okS ⟨Vn,ZiK,trivial⟩) trivial (by decide+kernel) (λx=>by kernel_rfl)
def YL(F:Nat)(a0:ZH)(a1:State):Option (Int):=
 (VS F a1.2.2.2 (a1.2.2.1.length:Int)).bind λo708=>
 some (wi (o708+660))
def Zlg(F:Nat):Fs ya:=⟨94,[.v Zl,.v Zg],[],[Zl,Zg],[⟨.ret,[(0,.v yI)],[],[yI]⟩],λx=>YL F x.1 x.2⟩
def QM:Fs ya:=Zlg fuel
theorem ZcV:QM.Ok:=Zf (fi:={ hi:={ still:=[4,6,9]},lp:=[]}) (specs:={ l:=[Zfz]}) (okS ⟨Zmp,trivial⟩) trivial (by decide+kernel) (λx=>by kernel_rfl)
def XX(F:Nat)(s:(Int×ZH×State)):Option ((Int×ZH×State)⊕((Bool×ZH×State)⊕(ZH×State))):=
 if(decide (s.1 < (s.2.2.2.2.1.length:Int)))=true then
  (idx s.2.2.2.2.1 s.1).bind λe716=>
  (Wh F e716).bind λo717=>
  if(!o717)=true then
   some (.inr (.inl (false,s.2.1,s.2.2)))
  else
  if(decide (s.1 > 0))=true then
   (idx s.2.2.2.2.1 (wi (s.1 - 1))).bind λe718=>
   (idx s.2.2.2.2.1 s.1).bind λe719=>
   (XS F e718 e719).bind λo720=>
   if(!o720)=true then
    some (.inr (.inl (false,s.2.1,s.2.2)))
   else
   (idx s.2.2.2.2.1 s.1).bind λe721=>
   (idx s.2.2.2.2.1 s.1).bind λe722=>
   if(inB (wi (1 - e722.1)) 2)=true then
    (s.2.1.2.2.2.1[(wi (1 - e722.1)).toNat]?).bind λe723=>
    if(decide (e721.2.2.1 < e723.2.2.2.2.1))=true then
     some (.inr (.inl (false,s.2.1,s.2.2)))
    else
    some (.inl (wi (s.1+1),s.2.1,s.2.2))
   else
   none
  else
  (idx s.2.2.2.2.1 s.1).bind λe724=>
  (idx s.2.2.2.2.1 s.1).bind λe725=>
  if(inB (wi (1 - e725.1)) 2)=true then
   (s.2.1.2.2.2.1[(wi (1 - e725.1)).toNat]?).bind λe726=>
   if(decide (e724.2.2.1 < e726.2.2.2.2.1))=true then
    some (.inr (.inl (false,s.2.1,s.2.2)))
   else
   some (.inl (wi (s.1+1),s.2.1,s.2.2))
  else
  none
 else
 some (.inr (.inr (s.2.1,s.2.2)))
def Zbx:Lp:=⟨[(2,.ref 0 []),(3,.ref 1 []),(5,.v yI)],[.var (.v Zl) true,.var (.v Zg) true],[yI,Zl,Zg],[⟨.ret,[(4,.v .bool)],[.var (.v Zl) true,.var (.v Zg) true],[.bool,Zl,Zg]⟩,⟨.exit 0,[(2,.ref 0 []),(3,.ref 1 [])],[.var (.v Zl) true,.var (.v Zg) true],[Zl,Zg]⟩],Zc (XX fuel) fuel⟩
theorem ZgW:Zbx.Ok ya (Zj ya 34) (Zm ya 34 0):=Zh (fi:={ hi:={ still:=[4,10,15,22,29,35,56,69,74,104,105,125,136,137]},lp:=[]}) (specs:={ l:=[QL,Qp]}) (okS ⟨ZcT,Zbu,trivial⟩) trivial (by kernel_rfl) (λv=>by kernel_rfl)
def XY(F:Nat)(s:(Int×ZH×State)):Option ((Int×ZH×State)⊕((Bool×ZH×State)⊕(ZH×State))):=
 if(decide (s.1 < 2))=true then
  (Xq F s.2.2 s.1).bind λo730=>
  if(inB s.1 2)=true then
   (s.2.1.2.2.2.1[s.1.toNat]?).bind λe731=>
   if(decide (o730.1 > e731.2.2.2.1))=true then
    some (.inr (.inl (false,s.2.1,s.2.2)))
   else
   if(inB s.1 2)=true then
    (s.2.1.2.2.2.1[s.1.toNat]?).bind λe732=>
    if(decide (o730.2 > e732.2.2.2.2.2))=true then
     some (.inr (.inl (false,s.2.1,s.2.2)))
    else
    some (.inl (wi (s.1+1),s.2.1,s.2.2))
   else
   none
  else
  none
 else
 some (.inr (.inr (s.2.1,s.2.2)))
def Zby:Lp:=⟨[(2,.ref 0 []),(3,.ref 1 []),(7,.v yI)],[.var (.v Zl) true,.var (.v Zg) true],[yI,Zl,Zg],[⟨.ret,[(4,.v .bool)],[.var (.v Zl) true,.var (.v Zg) true],[.bool,Zl,Zg]⟩,⟨.exit 2,[(2,.ref 0 []),(3,.ref 1 [])],[.var (.v Zl) true,.var (.v Zg) true],[Zl,Zg]⟩],Zc (XY fuel) fuel⟩
theorem ZgX:Zby.Ok ya (Zj ya 34) (Zm ya 34 1):=Zh (fi:={ hi:={ still:=[4,10,15,22,29,35,56,69,74,104,105,125,136,137]},lp:=[]}) (specs:={ l:=[Vo]}) (okS ⟨Zar,trivial⟩) trivial (by kernel_rfl) (λv=>by kernel_rfl)
def Xg(F:Nat)(a0:ZH)(a1:State):Option (Bool):=
 (VR F a0).bind λo709=>
 if(o709 !=0)=true then
  some false
 else
 (Z1 F a1.1 (0:Int) (1048576:Int)).bind λo710=>
 if(!o710)=true then
  some false
 else
 (a1.2.1[0]?).bind λe711=>
 (Z1 F e711 (0:Int) (1125899906842624:Int)).bind λo712=>
 if(!o712)=true then
  some false
 else
 (a1.2.1[1]?).bind λe713=>
 (Z1 F e713 (0:Int) (1125899906842624:Int)).bind λo714=>
 if(!o714)=true then
  some false
 else
 (Z1 F a1.2.2.2 (0:Int) (1000:Int)).bind λo715=>
 if(!o715)=true then
  some false
 else
 if(decide ((a1.2.2.1.length:Int) > 16))=true then
  some false
 else
 (Zc (XX F) F ((0:Int),a0,a1)).bind λo727=>
 match o727 with
 |.inl o728=>
  some o728.1
 |.inr o729=>
  (Zc (XY F) F ((0:Int),o729.1,o729.2)).bind λo733=>
  match o733 with
  |.inl o734=>
   some o734.1
  |.inr o735=>
   (WS F o735.2).bind λo736=>
   if(o736==o735.1.2.1)=true then
    if(inB o735.1.2.2.2.2 2)=true then
     (o735.2.2.1[o735.1.2.2.2.2.toNat]?).bind λe737=>
     (YL F o735.1 o735.2).bind λo738=>
     some (decide (e737 ≥ o738))
    else
    none
   else
   some false
def ZjO(F:Nat):Fs ya:=⟨34,[.v Zl,.v Zg],[],[Zl,Zg],[⟨.ret,[(0,.v .bool)],[],[.bool]⟩],λx=>Xg F x.1 x.2⟩
def Qr:Fs ya:=ZjO fuel
theorem Zbz:Qr.Ok:=Zf (fi:={ hi:={ still:=[4,10,15,22,29,35,56,69,74,104,105,125,136,137]},lp:=[(0,Zbx),(1,Zby)]}) (specs:={ l:=[Zfw,Zbc,ZcU,QM]}) (okS ⟨Zmn,Zfx,ZjN,ZcV,trivial⟩) ⟨ZgW,ZgX,trivial⟩ (by decide+kernel) (λx=>by kernel_rfl)
abbrev Wi:Ty:=(.st [.u8,(.int .u16),(.int .u16),.u64])
abbrev VT:Type:=(UInt8×Int×Int×UInt64)
def Qs(F:Nat)(a0:VT):Option (UInt64):=
 some (1+(a0.2.2.2 % 2305843009213688668))
def ZiL(F:Nat):Fs ya:=⟨36,[.v Wi],[],[Wi],[⟨.ret,[(0,.v .u64)],[],[.u64]⟩],λx=>Qs F x⟩
def ZbA:Fs ya:=ZiL fuel
theorem ZiM:ZbA.Ok:=Zf (fi:={ hi:={ still:=[2]},lp:=[]}) (specs:={ l:=[]}) (okS trivial) trivial (by decide+kernel) (λx=>by kernel_rfl)
def Xe(F:Nat)(s:(Int×Int×Int×State)):Option ((Int×Int×Int×State)⊕((Int×State)⊕State)):=
 if(decide (s.2.2.1 < (s.2.2.2.2.2.1.length:Int)))=true then
  (idx s.2.2.2.2.2.1 s.2.2.1).bind λe739=>
  if(e739.1==s.1)=true then
   (idx s.2.2.2.2.2.1 s.2.2.1).bind λe740=>
   if(e740.2.1==s.2.1)=true then
    some (.inr (.inl (s.2.2.1,s.2.2.2)))
   else
   some (.inl (s.1,s.2.1,wi (s.2.2.1+1),s.2.2.2))
  else
  some (.inl (s.1,s.2.1,wi (s.2.2.1+1),s.2.2.2))
 else
 some (.inr (.inr s.2.2.2))
def ZbB:Lp:=⟨[(1,.v yI),(2,.v yI),(3,.ref 0 []),(7,.v yI)],[.var (.v Zg) true],[yI,yI,yI,Zg],[⟨.ret,[(6,.v yI)],[.var (.v Zg) true],[yI,Zg]⟩,⟨.exit 0,[],[.var (.v Zg) true],[Zg]⟩],Zc (Xe fuel) fuel⟩
theorem ZgY:ZbB.Ok ya (Zj ya 96) (Zm ya 96 0):=Zh (fi:={ hi:={ still:=[6]},lp:=[]}) (specs:={ l:=[]}) (okS trivial) trivial (by kernel_rfl) (λv=>by kernel_rfl)
def WT(F:Nat)(a0:State)(a1:Int)(a2:Int):Option (Int):=
 (Zc (Xe F) F (a1,a2,(0:Int),a0)).bind λo741=>
 match o741 with
 |.inl o742=>
  some o742.1
 |.inr o743=>
  some (-1:Int)
def ZjP(F:Nat):Fs ya:=⟨96,[.v Zg,.v yI,.v yI],[],[Zg,yI,yI],[⟨.ret,[(0,.v yI)],[],[yI]⟩],λx=>WT F x.1 x.2.1 x.2.2⟩
def ZcW:Fs ya:=ZjP fuel
theorem ZjQ:ZcW.Ok:=Zf (fi:={ hi:={ still:=[6]},lp:=[(0,ZbB)]}) (specs:={ l:=[]}) (okS trivial) ⟨ZgY,trivial⟩ (by decide+kernel) (λx=>by kernel_rfl)
def Xr(F:Nat)(s:(Bool×Int×State×ZL×State×Int×(List Int)×Int×(List ZL))):Option ((Bool×Int×State×ZL×State×Int×(List Int)×Int×(List ZL))⊕(Bool×State×ZL×State×Int×(List Int)×Int×(List ZL))):=
 if(decide (s.2.1 < (s.2.2.1.2.2.1.length:Int)))=true then
  if(!s.1)=true then
   (idx s.2.2.1.2.2.1 s.2.1).bind λe744=>
   (XS F s.2.2.2.1 e744).bind λo745=>
   if o745=true then
    if(apB s.2.2.2.2.2.2.2.2.length 1 40)=true then
     (idx s.2.2.1.2.2.1 s.2.1).bind λe746=>
     if(apB ((s.2.2.2.2.2.2.2.2++([s.2.2.2.1]:List ZL)).length) 1 40)=true then
      let y747:(List ZL):=(s.2.2.2.2.2.2.2.2++([s.2.2.2.1]:List ZL))++([e746]:List ZL)
      some (.inl (true,wi (s.2.1+1),s.2.2.1,s.2.2.2.1,s.2.2.2.2.1,s.2.2.2.2.2.1,s.2.2.2.2.2.2.1,s.2.2.2.2.2.2.2.1,y747))
     else
     none
    else
    none
   else
   (idx s.2.2.1.2.2.1 s.2.1).bind λe748=>
   if(apB s.2.2.2.2.2.2.2.2.length 1 40)=true then
    some (.inl (s.1,wi (s.2.1+1),s.2.2.1,s.2.2.2.1,s.2.2.2.2.1,s.2.2.2.2.2.1,s.2.2.2.2.2.2.1,s.2.2.2.2.2.2.2.1,s.2.2.2.2.2.2.2.2++([e748]:List ZL)))
   else
   none
  else
  (idx s.2.2.1.2.2.1 s.2.1).bind λe749=>
  if(apB s.2.2.2.2.2.2.2.2.length 1 40)=true then
   some (.inl (s.1,wi (s.2.1+1),s.2.2.1,s.2.2.2.1,s.2.2.2.2.1,s.2.2.2.2.2.1,s.2.2.2.2.2.2.1,s.2.2.2.2.2.2.2.1,s.2.2.2.2.2.2.2.2++([e749]:List ZL)))
  else
  none
 else
 some (.inr (s.1,s.2.2.1,s.2.2.2.1,s.2.2.2.2.1,s.2.2.2.2.2.1,s.2.2.2.2.2.2.1,s.2.2.2.2.2.2.2.1,s.2.2.2.2.2.2.2.2))
def ZcX:Lp:=⟨[(2,.ref 0 []),(3,.ref 1 []),(4,.ref 2 []),(5,.ref 3 []),(6,.v .bool),(7,.v yI)],[.var (.v Zg) true,.var (.v ZB) true,.var (.v Zg) true,.var (.agg [.v yI,.v (.arr 2 yI),.own 4 ZB,.v yI]) true,.log ZB 82],[.bool,yI,Zg,ZB,Zg,yI,(.arr 2 yI),yI,(.sl ZB)],[⟨.exit 0,[(3,.ref 1 []),(4,.ref 2 []),(5,.ref 3 []),(6,.v .bool)],[.var (.v Zg) true,.var (.v ZB) true,.var (.v Zg) true,.var (.agg [.v yI,.v (.arr 2 yI),.own 4 ZB,.v yI]) true,.log ZB 82],[.bool,Zg,ZB,Zg,yI,(.arr 2 yI),yI,(.sl ZB)]⟩],Zc (Xr fuel) fuel⟩
theorem ZhK:ZcX.Ok ya (Zj ya 97) (Zm ya 97 0):=Zh (fi:={ hi:={ own:=[29,32,35,42,47,50],still:=[20,25],gst:=[(9,[([2],ZB,82)])]},lp:=[]}) (specs:={ l:=[Qp]}) (okS ⟨Zbu,trivial⟩) trivial (by kernel_rfl) (λv=>by kernel_rfl)
def Vp(F:Nat)(a0:State)(a1:ZL):Option (State):=
 (Zc (Xr F) F (false,(0:Int),a0,a1,((0:Int),([0,0]:List Int),([]:List ZL),(0:Int)),a0.1,a0.2.1,a0.2.2.2,([]:List ZL))).bind λo750=>
 if(!o750.1)=true then
  if(apB o750.2.2.2.2.2.2.2.length 1 40)=true then
   if(inB o750.2.2.1.1 2)=true then
    (o750.2.2.2.2.2.1[o750.2.2.1.1.toNat]?).bind λe751=>
    if(inB o750.2.2.1.1 2)=true then
     (o750.2.2.2.2.2.1[o750.2.2.1.1.toNat]?).bind λe752=>
     some (o750.2.2.2.2.1,o750.2.2.2.2.2.1.set o750.2.2.1.1.toNat (wi (e751 - o750.2.2.1.2.2.1)),o750.2.2.2.2.2.2.2++([o750.2.2.1]:List ZL),o750.2.2.2.2.2.2.1)
    else
    none
   else
   none
  else
  none
 else
 if(inB o750.2.2.1.1 2)=true then
  (o750.2.2.2.2.2.1[o750.2.2.1.1.toNat]?).bind λe753=>
  if(inB o750.2.2.1.1 2)=true then
   (o750.2.2.2.2.2.1[o750.2.2.1.1.toNat]?).bind λe754=>
   some (o750.2.2.2.2.1,o750.2.2.2.2.2.1.set o750.2.2.1.1.toNat (wi (e753 - o750.2.2.1.2.2.1)),o750.2.2.2.2.2.2.2,o750.2.2.2.2.2.2.1)
  else
  none
 else
 none
def Zlh(F:Nat):Fs ya:=⟨97,[.v Zg,.v ZB],[],[Zg,ZB],[⟨.ret,[(0,.v Zg)],[],[Zg]⟩],λx=>Vp F x.1 x.2⟩
def ZdP:Fs ya:=Zlh fuel
theorem Zli:ZdP.Ok:=Zf (fi:={ hi:={ own:=[29,32,35,42,47,50],still:=[20,25],gst:=[(9,[([2],ZB,82)])]},lp:=[(0,ZcX)]}) (specs:={ l:=[]}) (okS trivial) ⟨ZhK,trivial⟩ (by decide+kernel) (λx=>by kernel_rfl)
def VU(F:Nat)(a0:ZH)(a1:State)(a2:ZL):Option ((State×Int)):=
 (Xg F a0 a1).bind λo766=>
 (Wh F a2).bind λo767=>
 if(!o766)=true then
  some (((0:Int),([0,0]:List Int),([]:List ZL),(0:Int)),(1:Int))
 else
 if(!o767)=true then
  some (((0:Int),([0,0]:List Int),([]:List ZL),(0:Int)),(1:Int))
 else
 (WT F a1 a2.1 a2.2.1).bind λo768=>
 if(decide (o768 ≥ 0))=true then
  some (((0:Int),([0,0]:List Int),([]:List ZL),(0:Int)),(4:Int))
 else
 if(inB (wi (1 - a2.1)) 2)=true then
  (a0.2.2.2.1[(wi (1 - a2.1)).toNat]?).bind λe769=>
  (Xq F a1 (wi (1 - a2.1))).bind λo770=>
  if(decide (a2.2.2.1 < e769.2.2.2.2.1))=true then
   some (((0:Int),([0,0]:List Int),([]:List ZL),(0:Int)),(9:Int))
  else
  if((a1.2.2.1.length:Int)==16)=true then
   some (((0:Int),([0,0]:List Int),([]:List ZL),(0:Int)),(3:Int))
  else
  if(decide (o770.1 ≥ e769.2.2.2.1))=true then
   some (((0:Int),([0,0]:List Int),([]:List ZL),(0:Int)),(3:Int))
  else
  let y771:Bool:=decide ((wi (o770.2+a2.2.2.1)) > e769.2.2.2.2.2)
  if y771=true then
   some (((0:Int),([0,0]:List Int),([]:List ZL),(0:Int)),(6:Int))
  else
  (Vp F a1 a2).bind λo772=>
  (YL F a0 o772).bind λo773=>
  if(inB a2.1 2)=true then
   (o772.2.1[a2.1.toNat]?).bind λe774=>
   if(decide (e774 < 0))=true then
    some (((0:Int),([0,0]:List Int),([]:List ZL),(0:Int)),(8:Int))
   else
   if(inB a0.2.2.2.2 2)=true then
    (o772.2.1[a0.2.2.2.2.toNat]?).bind λe775=>
    if(decide (e775 < o773))=true then
     some (((0:Int),([0,0]:List Int),([]:List ZL),(0:Int)),(8:Int))
    else
    if(inB a2.1 2)=true then
     (o772.2.1[a2.1.toNat]?).bind λe776=>
     if(a2.1==a0.2.2.2.2)=true then
      if(decide ((wi (e776 - o773)) < e769.2.1))=true then
       some (((0:Int),([0,0]:List Int),([]:List ZL),(0:Int)),(10:Int))
      else
      some (o772,(0:Int))
     else
     if(decide (e776 < e769.2.1))=true then
      some (((0:Int),([0,0]:List Int),([]:List ZL),(0:Int)),(10:Int))
     else
     some (o772,(0:Int))
    else
    none
   else
   none
  else
  none
 else
 none
def Zmq(F:Nat):Fs ya:=⟨37,[.v Zl,.v Zg,.v ZB],[],[Zl,Zg,ZB],[⟨.ret,[(0,.tup [.v Zg,.v yI])],[],[Zg,yI]⟩],λx=>VU F x.1 x.2.1 x.2.2⟩
def ZfA:Fs ya:=Zmq fuel
theorem Zmr:ZfA.Ok:=Zf (fi:={ hi:={ still:=[7,16,17,19,28,30,32,43,46,75,76,78,79]},lp:=[]}) (specs:={ l:=[Qr,QL,ZcW,Vo,ZdP,QM]}) (okS ⟨Zbz,ZcT,ZjQ,Zar,Zli,ZcV,trivial⟩) trivial (by decide+kernel) (λx=>by kernel_rfl)
abbrev Zd:Ty:=(.st [(.arr 2 (.arr 32 .u8)),.u32,.u32,.u8,.u8,(.sl Wi),(.int .u16),(.arr 32 .u8)])
abbrev Corsnedlaw21Play:Type:=((List (List UInt8))×UInt32×UInt32×UInt8×UInt8×(List VT)×Int×(List UInt8))
def Xs(F:Nat)(s:(Int×Corsnedlaw21Play×ZH×(List Kit)×State×(List Kit)×ZH)):Option ((Int×Corsnedlaw21Play×ZH×(List Kit)×State×(List Kit)×ZH)⊕(Corsnedlaw21Play×ZH×(List Kit)×State×(List Kit)×ZH)):=
 if(decide (s.1 < 2))=true then
  if(inB s.1 2)=true then
   (s.2.2.2.2.2.1[s.1.toNat]?).bind λe798=>
   (WF F e798).bind λo799=>
   if(inB s.1 2)=true then
    (s.2.2.2.2.2.2.2.2.1[s.1.toNat]?).bind λe800=>
    if(inB s.1 2)=true then
     (s.2.2.2.2.2.2.2.2.2.1[s.1.toNat]?).bind λe801=>
     some (.inl (wi (s.1+1),s.2.1,s.2.2.1,s.2.2.2.1,s.2.2.2.2.1,s.2.2.2.2.2.1,(s.2.2.2.2.2.2.1,s.2.2.2.2.2.2.2.1,s.2.2.2.2.2.2.2.2.1.set s.1.toNat o799,s.2.2.2.2.2.2.2.2.2.1.set s.1.toNat ((100:Int),(200:Int),wi (5+s.1),(16:Int),(1:Int),(1125899906842624:Int)),s.2.2.2.2.2.2.2.2.2.2)))
    else
    none
   else
   none
  else
  none
 else
 some (.inr (s.2.1,s.2.2.1,s.2.2.2.1,s.2.2.2.2.1,s.2.2.2.2.2.1,s.2.2.2.2.2.2))
def ZcY:Lp:=⟨[(1,.ref 0 []),(2,.ref 1 []),(3,.ref 2 []),(4,.ref 3 []),(5,.ref 4 []),(6,.ref 5 []),(7,.v yI)],[.var (.v Zd) true,.var (.v Zl) true,.var (.v (.arr 2 ZR)) true,.var (.v Zg) true,.var (.v (.arr 2 ZR)) true,.var (.v Zl) true],[yI,Zd,Zl,(.arr 2 ZR),Zg,(.arr 2 ZR),Zl],[⟨.exit 0,[(1,.ref 0 []),(2,.ref 1 []),(3,.ref 2 []),(4,.ref 3 []),(5,.ref 4 []),(6,.ref 5 [])],[.var (.v Zd) true,.var (.v Zl) true,.var (.v (.arr 2 ZR)) true,.var (.v Zg) true,.var (.v (.arr 2 ZR)) true,.var (.v Zl) true],[Zd,Zl,(.arr 2 ZR),Zg,(.arr 2 ZR),Zl]⟩],Zc (Xs fuel) fuel⟩
theorem ZhL:ZcY.Ok ya (Zj ya 8) (Zm ya 8 0):=Zh (fi:={ hi:={ still:=[17,21,40,75,76,117,118,126,127,128]},lp:=[]}) (specs:={ l:=[Zbt]}) (okS ⟨ZiG,trivial⟩) trivial (by kernel_rfl) (λv=>by kernel_rfl)
def Yb(F:Nat)(s:(Int×Corsnedlaw21Play×ZH×(List Kit)×State×(List Kit)×ZH×State)):Option ((Int×Corsnedlaw21Play×ZH×(List Kit)×State×(List Kit)×ZH×State)⊕(Corsnedlaw21Play×ZH×(List Kit)×State×(List Kit)×ZH×State)):=
 if(decide (s.1 < (s.2.1.2.2.2.2.2.1.length:Int)))=true then
  if(decide (s.1 < 20))=true then
   (idx s.2.1.2.2.2.2.2.1 s.1).bind λe807=>
   (Qs F e807).bind λo808=>
   (Xi F o808).bind λo809=>
   (VU F s.2.2.2.2.2.2.1 s.2.2.2.2.2.2.2 (((e807.1 % 2).toNat:Int),wi (s.1+1),wi (1+(wi e807.2.1)),o809,wi (1+(wi e807.2.2.1)))).bind λo810=>
   if(o810.2==0)=true then
    some (.inl (wi (s.1+1),s.2.1,s.2.2.1,s.2.2.2.1,s.2.2.2.2.1,s.2.2.2.2.2.1,s.2.2.2.2.2.2.1,o810.1))
   else
   some (.inl (wi (s.1+1),s.2.1,s.2.2.1,s.2.2.2.1,s.2.2.2.2.1,s.2.2.2.2.2.1,s.2.2.2.2.2.2.1,s.2.2.2.2.2.2.2))
  else
  some (.inr (s.2.1,s.2.2.1,s.2.2.2.1,s.2.2.2.2.1,s.2.2.2.2.2.1,s.2.2.2.2.2.2.1,s.2.2.2.2.2.2.2))
 else
 some (.inr (s.2.1,s.2.2.1,s.2.2.2.1,s.2.2.2.2.1,s.2.2.2.2.2.1,s.2.2.2.2.2.2.1,s.2.2.2.2.2.2.2))
def ZcZ:Lp:=⟨[(1,.ref 0 []),(2,.ref 1 []),(3,.ref 2 []),(4,.ref 3 []),(5,.ref 4 []),(6,.ref 5 []),(8,.ref 6 []),(10,.v yI)],[.var (.v Zd) true,.var (.v Zl) true,.var (.v (.arr 2 ZR)) true,.var (.v Zg) true,.var (.v (.arr 2 ZR)) true,.var (.v Zl) true,.var (.v Zg) true],[yI,Zd,Zl,(.arr 2 ZR),Zg,(.arr 2 ZR),Zl,Zg],[⟨.exit 2,[(2,.ref 1 []),(3,.ref 2 []),(4,.ref 3 []),(5,.ref 4 []),(6,.ref 5 []),(8,.ref 6 [])],[.var (.v Zd) true,.var (.v Zl) true,.var (.v (.arr 2 ZR)) true,.var (.v Zg) true,.var (.v (.arr 2 ZR)) true,.var (.v Zl) true,.var (.v Zg) true],[Zd,Zl,(.arr 2 ZR),Zg,(.arr 2 ZR),Zl,Zg]⟩],Zc (Yb fuel) fuel⟩
theorem ZhM:ZcZ.Ok ya (Zj ya 8) (Zm ya 8 1):=Zh (fi:={ hi:={ still:=[17,21,40,75,76,117,118,126,127,128]},lp:=[]}) (specs:={ l:=[ZbA,Za1,ZfA]}) (okS ⟨ZiM,Zcl,Zmr,trivial⟩) trivial (by kernel_rfl) (λv=>by kernel_rfl)
def Vq(F:Nat)(a0:Corsnedlaw21Play):Option ((ZH×(List Kit)×State)):=
 (a0.1[0]?).bind λe794=>
 (WC F e794).bind λo795=>
 (a0.1[1]?).bind λe796=>
 (WC F e796).bind λo797=>
 (Zc (Xs F) F ((0:Int),a0,((([0,0,0,0,0,0,0,0,0,0,0,0,0,0,0,0,0,0,0,0,0,0,0,0,0,0,0,0,0,0,0,0]:List UInt8),(0:Int)),(0:Int),([(0,0,0,0,0),(0,0,0,0,0)]:List VF),([(0,0,0,0,0,0),(0,0,0,0,0,0)]:List QP),(0:Int)),([(0,0,0,0,0,[0,0,0,0,0,0,0,0,0,0,0,0,0,0,0,0,0,0,0,0,0,0,0,0,0,0,0,0,0,0,0,0]),(0,0,0,0,0,[0,0,0,0,0,0,0,0,0,0,0,0,0,0,0,0,0,0,0,0,0,0,0,0,0,0,0,0,0,0,0,0])]:List Kit),((0:Int),([0,0]:List Int),([]:List ZL),(0:Int)),([o795,o797]:List Kit),((([0,0,0,0,0,0,0,0,0,0,0,0,0,0,0,0,0,0,0,0,0,0,0,0,0,0,0,0,0,0,0,0]:List UInt8),(0:Int)),wi (20000+(a0.2.1.toNat:Int)),([(0,0,0,0,0),(0,0,0,0,0)]:List VF),([(0,0,0,0,0,0),(0,0,0,0,0,0)]:List QP),((a0.2.2.2.2.1 % 2).toNat:Int)))).bind λo802=>
 if((wi (o802.2.2.2.2.2.2.1+1))!=0)=true then
  let y803:Int:=Int.tmod (o802.1.2.2.1.toNat:Int) (wi (o802.2.2.2.2.2.2.1+1))
  (Xg F o802.2.2.2.2.2 (wi o802.1.2.2.2.2.2.2.1,([y803,wi (o802.2.2.2.2.2.2.1 - y803)]:List Int),([]:List ZL),((o802.1.2.2.2.1 % 8).toNat:Int))).bind λo804=>
  if(!o804)=true then
   if(inB o802.2.2.2.2.2.2.2.2.2 2)=true then
    (([y803,wi (o802.2.2.2.2.2.2.1 - y803)]:List Int)[o802.2.2.2.2.2.2.2.2.2.toNat]?).bind λe805=>
    if(inB (wi (1 - o802.2.2.2.2.2.2.2.2.2)) 2)=true then
     ((([y803,wi (o802.2.2.2.2.2.2.1 - y803)]:List Int).set o802.2.2.2.2.2.2.2.2.2.toNat o802.2.2.2.2.2.2.1)[(wi (1 - o802.2.2.2.2.2.2.2.2.2)).toNat]?).bind λe806=>
     (Zc (Yb F) F ((0:Int),o802.1,o802.2.1,o802.2.2.1,o802.2.2.2.1,o802.2.2.2.2.1,o802.2.2.2.2.2,(wi o802.1.2.2.2.2.2.2.1,(([y803,wi (o802.2.2.2.2.2.2.1 - y803)]:List Int).set o802.2.2.2.2.2.2.2.2.2.toNat o802.2.2.2.2.2.2.1).set ((wi (1 - o802.2.2.2.2.2.2.2.2.2)).toNat) (0:Int),([]:List ZL),((o802.1.2.2.2.1 % 8).toNat:Int)))).bind λo811=>
     some (o811.2.2.2.2.2.1,o811.2.2.2.2.1,o811.2.2.2.2.2.2)
    else
    none
   else
   none
  else
  (Zc (Yb F) F ((0:Int),o802.1,o802.2.1,o802.2.2.1,o802.2.2.2.1,o802.2.2.2.2.1,o802.2.2.2.2.2,(wi o802.1.2.2.2.2.2.2.1,([y803,wi (o802.2.2.2.2.2.2.1 - y803)]:List Int),([]:List ZL),((o802.1.2.2.2.1 % 8).toNat:Int)))).bind λo812=>
  some (o812.2.2.2.2.2.1,o812.2.2.2.2.1,o812.2.2.2.2.2.2)
 else
 none
def Qt(F:Nat):Fs ya:=⟨8,[.v Zd],[],[Zd],[⟨.ret,[(0,.tup [.v Zl,.v (.arr 2 ZR),.v Zg])],[],[Zl,(.arr 2 ZR),Zg]⟩],λx=>Vq F x⟩
def ZdQ:Fs ya:=Qt fuel
theorem Zc0:ZdQ.Ok:=Zf (fi:={ hi:={ still:=[17,21,40,75,76,117,118,126,127,128]},lp:=[(0,ZcY),(1,ZcZ)]}) (specs:={ l:=[Zfu,Qr]}) (okS ⟨Zmj,Zbz,trivial⟩) ⟨ZhL,ZhM,trivial⟩ (by decide+kernel) (λx=>by kernel_rfl)
def Zu5(F:Nat)(a0:UInt64):Option (UInt64):=
 (Qy F a0).bind λo876=>
 (Qv F o876 (2305843009213688668:UInt64)).bind λo877=>
 some o877
def Zzd(F:Nat):Fs ya:=⟨115,[.v .u64],[],[.u64],[⟨.ret,[(0,.v .u64)],[],[.u64]⟩],λx=>Zu5 F x⟩
def ZrG:Fs ya:=Zzd fuel
theorem Zze:ZrG.Ok:=Zf (fi:={ hi:={ still:=[2,3,4]},lp:=[]}) (specs:={ l:=[Zck,Zcc]}) (okS ⟨Zfg,ZeW,trivial⟩) trivial (by decide+kernel) (λx=>by kernel_rfl)
def Zpy(F:Nat)(a0:UInt64)(a1:(List UInt8))(a2:UInt64)(a3:Sig):Option (Bool):=
 if(a0==1)=true then
  some false
 else
 (Xz F a0).bind λo878=>
 if(!o878)=true then
  some false
 else
 (Xz F a2).bind λo879=>
 if(!o879)=true then
  some false
 else
 (Xz F a3.1).bind λo880=>
 if(!o880)=true then
  some false
 else
 (Ziq F a3.2).bind λo881=>
 if(!o881)=true then
  some false
 else
 (Zds F a3.1 a0 a1).bind λo882=>
 (Za0 F a0 o882).bind λo883=>
 (Zu5 F a2).bind λo884=>
 (ZnF F ([a3.1,o883,o884]:List UInt64)).bind λo885=>
 (Xi F a3.2).bind λo886=>
 some (o886==o885)
def Zu6(F:Nat):Fs ya:=⟨56,[.v .u64,.v (.arr 32 .u8),.v .u64,.v Z9],[],[.u64,(.arr 32 .u8),.u64,Z9],[⟨.ret,[(0,.v .bool)],[],[.bool]⟩],λx=>Zpy F x.1 x.2.1 x.2.2.1 x.2.2.2⟩
def Zm7:Fs ya:=Zu6 fuel
theorem Zu7:Zm7.Ok:=Zf (fi:={ hi:={ still:=[8,13,18,24,30,36,38,39,40,41,43,45,48]},lp:=[]}) (specs:={ l:=[VA,ZgL,ZbX,ZgM,ZrG,ZkU,Za1]}) (okS ⟨Qd,ZkR,Zgj,ZkS,Zze,Zpo,Zcl,trivial⟩) trivial (by decide+kernel) (λx=>by kernel_rfl)
def Zzf(F:Nat)(a0:UInt64)(a1:(List UInt8))(a2:Sig):Option (Bool):=
 (Zpy F a0 a1 (1:UInt64) a2).bind λo887=>
 some o887
def ZfB(F:Nat):Fs ya:=⟨19,[.v .u64,.v (.arr 32 .u8),.v Z9],[],[.u64,(.arr 32 .u8),Z9],[⟨.ret,[(0,.v .bool)],[],[.bool]⟩],λx=>Zzf F x.1 x.2.1 x.2.2⟩
def Zwb:Fs ya:=ZfB fuel
theorem Zu8:Zwb.Ok:=Zf (fi:={ hi:={ still:=[6,7,8,9]},lp:=[]}) (specs:={ l:=[Zm7]}) (okS ⟨Zu7,trivial⟩) trivial (by decide+kernel) (λx=>by kernel_rfl)
def Zzg(F:Nat)(a0:(List UInt8))(a1:(List UInt8)):Option (Bool):=
 let y888:Bool:=(Vd a0).data.toList==(Vd a1).data.toList
 some y888
def ZfC(F:Nat):Fs ya:=⟨52,[.v (.sl .u8),.v (.sl .u8)],[],[(.sl .u8),(.sl .u8)],[⟨.ret,[(0,.v .bool)],[],[.bool]⟩],λx=>Zzg F x.1 x.2⟩
def Zwc:Fs ya:=ZfC fuel
theorem Zu9:Zwc.Ok:=Zf (fi:={ hi:={ still:=[4]},lp:=[]}) (specs:={ l:=[]}) (okS trivial) trivial (by decide+kernel) (λx=>by kernel_rfl)
def Zlj(F:Nat)(s:((List Sig)×(List Sig)×Int×Int)):Option (((List Sig)×(List Sig)×Int×Int)⊕(Bool⊕Unit)):=
 if(decide (s.2.2.2 < s.2.2.1))=true then
  (idx s.1 s.2.2.2).bind λe889=>
  (idx s.2.1 s.2.2.2).bind λe890=>
  if(!(decide (e889=e890)))=true then
   some (.inr (.inl false))
  else
  some (.inl (s.1,s.2.1,s.2.2.1,wi (s.2.2.2+1)))
 else
 some (.inr (.inr ()))
def Zm8:Lp:=⟨[(0,.v (.sl Z9)),(1,.v (.sl Z9)),(12,.v yI),(13,.v yI)],[],[(.sl Z9),(.sl Z9),yI,yI],[⟨.ret,[(4,.v .bool)],[],[.bool]⟩,⟨.exit 0,[],[],[]⟩],Zc (Zlj fuel) fuel⟩
theorem ZqJ:Zm8.Ok ya (Zj ya 78) (Zm ya 78 0):=Zh (fi:={ hi:={ still:=[4]},lp:=[]}) (specs:={ l:=[]}) (okS trivial) trivial (by kernel_rfl) (λv=>by kernel_rfl)
def ZrH(F:Nat)(a0:(List Sig))(a1:(List Sig)):Option (Bool):=
 if((a0.length:Int)!=(a1.length:Int))=true then
  some false
 else
 (Zc (Zlj F) F (a0,a1,(a0.length:Int),(0:Int))).bind λo891=>
 match o891 with
 |.inl o892=>
  some o892
 |.inr o893=>
  some true
def Zwd(F:Nat):Fs ya:=⟨78,[.v (.sl Z9),.v (.sl Z9)],[],[(.sl Z9),(.sl Z9)],[⟨.ret,[(0,.v .bool)],[],[.bool]⟩],λx=>ZrH F x.1 x.2⟩
def Zpz:Fs ya:=Zwd fuel
theorem Zwe:Zpz.Ok:=Zf (fi:={ hi:={ still:=[4]},lp:=[(0,Zm8)]}) (specs:={ l:=[]}) (okS trivial) ⟨ZqJ,trivial⟩ (by decide+kernel) (λx=>by kernel_rfl)
def Zva(F:Nat)(a0:In)(a1:In):Option (Bool):=
 if(decide (a0.1=a1.1))=true then
  if(a0.2.1==a1.2.1)=true then
   if(a0.2.2.2==a1.2.2.2)=true then
    (ZrH F a0.2.2.1 a1.2.2.1).bind λo894=>
    some o894
   else
   some false
  else
  some false
 else
 some false
def Zzh(F:Nat):Fs ya:=⟨77,[.v yIn,.v yIn],[],[yIn,yIn],[⟨.ret,[(0,.v .bool)],[],[.bool]⟩],λx=>Zva F x.1 x.2⟩
def ZrI:Fs ya:=Zzh fuel
theorem Zzi:ZrI.Ok:=Zf (fi:={ hi:={ still:=[4,31,34]},lp:=[]}) (specs:={ l:=[Zpz]}) (okS ⟨Zwe,trivial⟩) trivial (by decide+kernel) (λx=>by kernel_rfl)
def ZhN(F:Nat)(s:((List UInt64)×(List UInt64)×Int×Int)):Option (((List UInt64)×(List UInt64)×Int×Int)⊕(Bool⊕Unit)):=
 if(decide (s.2.2.2 < s.2.2.1))=true then
  (idx s.1 s.2.2.2).bind λe895=>
  (idx s.2.1 s.2.2.2).bind λe896=>
  if(e895 !=e896)=true then
   some (.inr (.inl false))
  else
  some (.inl (s.1,s.2.1,s.2.2.1,wi (s.2.2.2+1)))
 else
 some (.inr (.inr ()))
def Zjn:Lp:=⟨[(0,.v (.sl .u64)),(1,.v (.sl .u64)),(12,.v yI),(13,.v yI)],[],[(.sl .u64),(.sl .u64),yI,yI],[⟨.ret,[(4,.v .bool)],[],[.bool]⟩,⟨.exit 0,[],[],[]⟩],Zc (ZhN fuel) fuel⟩
theorem ZnQ:Zjn.Ok ya (Zj ya 61) (Zm ya 61 0):=Zh (fi:={ hi:={ still:=[4]},lp:=[]}) (specs:={ l:=[]}) (okS trivial) trivial (by kernel_rfl) (λv=>by kernel_rfl)
def Zm9(F:Nat)(a0:(List UInt64))(a1:(List UInt64)):Option (Bool):=
 if((a0.length:Int)!=(a1.length:Int))=true then
  some false
 else
 (Zc (ZhN F) F (a0,a1,(a0.length:Int),(0:Int))).bind λo897=>
 match o897 with
 |.inl o898=>
  some o898
 |.inr o899=>
  some true
def Zsh(F:Nat):Fs ya:=⟨61,[.v (.sl .u64),.v (.sl .u64)],[],[(.sl .u64),(.sl .u64)],[⟨.ret,[(0,.v .bool)],[],[.bool]⟩],λx=>Zm9 F x.1 x.2⟩
def Zlk:Fs ya:=Zsh fuel
theorem Zsi:Zlk.Ok:=Zf (fi:={ hi:={ still:=[4]},lp:=[(0,Zjn)]}) (specs:={ l:=[]}) (okS trivial) ⟨ZnQ,trivial⟩ (by decide+kernel) (λx=>by kernel_rfl)
def Zvb(F:Nat)(a0:ZC)(a1:ZC):Option (Bool):=
 if(a0.2.1==a1.2.1)=true then
  if(a0.2.2.1==a1.2.2.1)=true then
   if(a0.2.2.2==a1.2.2.2)=true then
    (Zm9 F a0.1 a1.1).bind λo900=>
    some o900
   else
   some false
  else
  some false
 else
 some false
def Zzj(F:Nat):Fs ya:=⟨79,[.v Zo,.v Zo],[],[Zo,Zo],[⟨.ret,[(0,.v .bool)],[],[.bool]⟩],λx=>Zvb F x.1 x.2⟩
def ZrJ:Fs ya:=Zzj fuel
theorem Zzk:ZrJ.Ok:=Zf (fi:={ hi:={ still:=[4,26,28]},lp:=[]}) (specs:={ l:=[Zlk]}) (okS ⟨Zsi,trivial⟩) trivial (by decide+kernel) (λx=>by kernel_rfl)
def Zna(F:Nat)(s:((List In)×(List In)×Int×Int)):Option (((List In)×(List In)×Int×Int)⊕(Bool⊕Unit)):=
 if(decide (s.2.2.2 < s.2.2.1))=true then
  (idx s.2.1 s.2.2.2).bind λe901=>
  (idx s.1 s.2.2.2).bind λe902=>
  (Zva F e901 e902).bind λo903=>
  if(!o903)=true then
   some (.inr (.inl false))
  else
  some (.inl (s.1,s.2.1,s.2.2.1,wi (s.2.2.2+1)))
 else
 some (.inr (.inr ()))
def ZpA:Lp:=⟨[(1,.v (.sl yIn)),(2,.fn 77 []),(15,.v (.sl yIn)),(16,.v yI),(17,.v yI)],[],[(.sl yIn),(.sl yIn),yI,yI],[⟨.ret,[(6,.v .bool)],[],[.bool]⟩,⟨.exit 0,[],[],[]⟩],Zc (Zna fuel) fuel⟩
theorem Zsj:ZpA.Ok ya (Zj ya 81) (Zm ya 81 0):=Zh (fi:={ hi:={ still:=[6,27,28]},lp:=[]}) (specs:={ l:=[ZrI]}) (okS ⟨Zzi,trivial⟩) trivial (by kernel_rfl) (λv=>by kernel_rfl)
def Zvc(F:Nat)(a0:(List In))(a1:(List In)):Option (Bool):=
 if((a0.length:Int)!=(a1.length:Int))=true then
  some false
 else
 (Zc (Zna F) F (a1,a0,(a0.length:Int),(0:Int))).bind λo904=>
 match o904 with
 |.inl o905=>
  some o905
 |.inr o906=>
  some true
def Zzl(F:Nat):Fs ya:=⟨81,[.v (.sl yIn),.v (.sl yIn),.fn 77 []],[],[(.sl yIn),(.sl yIn)],[⟨.ret,[(0,.v .bool)],[],[.bool]⟩],λx=>Zvc F x.1 x.2⟩
def ZrK:Fs ya:=Zzl fuel
theorem Zzm:ZrK.Ok:=Zf (fi:={ hi:={ still:=[6,27,28]},lp:=[(0,ZpA)]}) (specs:={ l:=[]}) (okS trivial) ⟨Zsj,trivial⟩ (by decide+kernel) (λx=>by kernel_rfl)
def Zgs(F:Nat)(s:((List ZC)×(List ZC)×Int×Int)):Option (((List ZC)×(List ZC)×Int×Int)⊕(Bool⊕Unit)):=
 if(decide (s.2.2.2 < s.2.2.1))=true then
  (idx s.2.1 s.2.2.2).bind λe910=>
  (idx s.1 s.2.2.2).bind λe911=>
  (Zvb F e910 e911).bind λo912=>
  if(!o912)=true then
   some (.inr (.inl false))
  else
  some (.inl (s.1,s.2.1,s.2.2.1,wi (s.2.2.2+1)))
 else
 some (.inr (.inr ()))
def ZhO:Lp:=⟨[(1,.v (.sl Zo)),(2,.fn 79 []),(15,.v (.sl Zo)),(16,.v yI),(17,.v yI)],[],[(.sl Zo),(.sl Zo),yI,yI],[⟨.ret,[(6,.v .bool)],[],[.bool]⟩,⟨.exit 0,[],[],[]⟩],Zc (Zgs fuel) fuel⟩
theorem Zms:ZhO.Ok ya (Zj ya 59) (Zm ya 59 0):=Zh (fi:={ hi:={ still:=[6,27,28]},lp:=[]}) (specs:={ l:=[ZrJ]}) (okS ⟨Zzk,trivial⟩) trivial (by kernel_rfl) (λv=>by kernel_rfl)
def Zll(F:Nat)(a0:(List ZC))(a1:(List ZC)):Option (Bool):=
 if((a0.length:Int)!=(a1.length:Int))=true then
  some false
 else
 (Zc (Zgs F) F (a1,a0,(a0.length:Int),(0:Int))).bind λo913=>
 match o913 with
 |.inl o914=>
  some o914
 |.inr o915=>
  some true
def ZqK(F:Nat):Fs ya:=⟨59,[.v (.sl Zo),.v (.sl Zo),.fn 79 []],[],[(.sl Zo),(.sl Zo)],[⟨.ret,[(0,.v .bool)],[],[.bool]⟩],λx=>Zll F x.1 x.2⟩
def Zjo:Fs ya:=ZqK fuel
theorem ZqL:Zjo.Ok:=Zf (fi:={ hi:={ still:=[6,27,28]},lp:=[(0,ZhO)]}) (specs:={ l:=[]}) (okS trivial) ⟨Zms,trivial⟩ (by decide+kernel) (λx=>by kernel_rfl)
def Zvd(F:Nat)(a0:Out)(a1:Out):Option (Bool):=
 if(a0.1==a1.1)=true then
  (Zll F a0.2 a1.2).bind λo916=>
  some o916
 else
 some false
def Zzn(F:Nat):Fs ya:=⟨80,[.v Zy,.v Zy,.ref 0 []],[.var (.fn 79 []) true],[Zy,Zy],[⟨.ret,[(0,.v .bool)],[.var (.fn 79 []) true],[.bool]⟩],λx=>Zvd F x.1 x.2⟩
def ZrL:Fs ya:=Zzn fuel
theorem Zzo:ZrL.Ok:=Zf (fi:={ hi:={ still:=[5,14,17,18]},lp:=[]}) (specs:={ l:=[Zjo]}) (okS ⟨ZqL,trivial⟩) trivial (by decide+kernel) (λx=>by kernel_rfl)
def Zlm(F:Nat)(s:((List Out)×(List Out)×Int×Int)):Option (((List Out)×(List Out)×Int×Int)⊕(Bool⊕Unit)):=
 if(decide (s.2.2.2 < s.2.2.1))=true then
  (idx s.2.1 s.2.2.2).bind λe908=>
  (idx s.1 s.2.2.2).bind λe909=>
  (Zvd F e908 e909).bind λo917=>
  if(!o917)=true then
   some (.inr (.inl false))
  else
  some (.inl (s.1,s.2.1,s.2.2.1,wi (s.2.2.2+1)))
 else
 some (.inr (.inr ()))
def Znb:Lp:=⟨[(1,.v (.sl Zy)),(2,.fn 80 [.ref 0 []]),(15,.v (.sl Zy)),(16,.v yI),(17,.v yI)],[.var (.fn 79 []) true],[(.sl Zy),(.sl Zy),yI,yI],[⟨.ret,[(6,.v .bool)],[.var (.fn 79 []) true],[.bool]⟩,⟨.exit 0,[],[.var (.fn 79 []) true],[]⟩],Zc (Zlm fuel) fuel⟩
theorem ZqM:Znb.Ok ya (Zj ya 82) (Zm ya 82 0):=Zh (fi:={ hi:={ still:=[6,27,28]},lp:=[]}) (specs:={ l:=[ZrL]}) (okS ⟨Zzo,trivial⟩) trivial (by kernel_rfl) (λv=>by kernel_rfl)
def ZrM(F:Nat)(a0:(List Out))(a1:(List Out)):Option (Bool):=
 if((a0.length:Int)!=(a1.length:Int))=true then
  some false
 else
 (Zc (Zlm F) F (a1,a0,(a0.length:Int),(0:Int))).bind λo918=>
 match o918 with
 |.inl o919=>
  some o919
 |.inr o920=>
  some true
def Zwf(F:Nat):Fs ya:=⟨82,[.v (.sl Zy),.v (.sl Zy),.fn 80 [.ref 0 []]],[.var (.fn 79 []) true],[(.sl Zy),(.sl Zy)],[⟨.ret,[(0,.v .bool)],[.var (.fn 79 []) true],[.bool]⟩],λx=>ZrM F x.1 x.2⟩
def ZpB:Fs ya:=Zwf fuel
theorem Zwg:ZpB.Ok:=Zf (fi:={ hi:={ still:=[6,27,28]},lp:=[(0,Znb)]}) (specs:={ l:=[]}) (okS trivial) ⟨ZqM,trivial⟩ (by decide+kernel) (λx=>by kernel_rfl)
def ZIg(F:Nat)(a0:Tx)(a1:Tx):Option (Bool):=
 if(a0.2.2==a1.2.2)=true then
  (Zvc F a0.1 a1.1).bind λo907=>
  if o907=true then
   (ZrM F a0.2.1 a1.2.1).bind λo921=>
   some o921
  else
  some false
 else
 some false
def ZnR(F:Nat):Fs ya:=⟨29,[.v yTx,.v yTx],[],[yTx,yTx],[⟨.ret,[(0,.v .bool)],[],[.bool]⟩],λx=>ZIg F x.1 x.2⟩
def ZFN:Fs ya:=ZnR fuel
theorem ZDa:ZFN.Ok:=Zf (fi:={ hi:={ still:=[4,16,18,19,24,26,27]},lp:=[]}) (specs:={ l:=[ZrK,ZpB]}) (okS ⟨Zzm,Zwg,trivial⟩) trivial (by decide+kernel) (λx=>by kernel_rfl)
def Znc(F:Nat)(s:(Int×(List In)×Int×Int×Tx)):Option ((Int×(List In)×Int×Int×Tx)⊕(Int×Tx)):=
 if(decide (s.2.2.2.1 < s.2.2.1))=true then
  (idx s.2.1 s.2.2.2.1).bind λe923=>
  let y924:Int:=wi (s.1+(wi (10+(wi (8*(e923.2.2.1.length:Int))))))
  if(e923.2.2.2 !=0)=true then
   some (.inl (wi (y924+4),s.2.1,s.2.2.1,wi (s.2.2.2.1+1),s.2.2.2.2))
  else
  some (.inl (y924,s.2.1,s.2.2.1,wi (s.2.2.2.1+1),s.2.2.2.2))
 else
 some (.inr (s.1,s.2.2.2.2))
def ZpC:Lp:=⟨[(3,.v yI),(15,.v (.sl yIn)),(16,.v yI),(17,.v yI)],[.var (.v yTx) true],[yI,(.sl yIn),yI,yI,yTx],[⟨.exit 0,[(3,.v yI)],[.var (.v yTx) true],[yI,yTx]⟩],Zc (Znc fuel) fuel⟩
theorem Zsk:ZpC.Ok ya (Zj ya 31) (Zm ya 31 0):=Zh (fi:={ hi:={ still:=[2,6]},lp:=[]}) (specs:={ l:=[]}) (okS trivial) trivial (by kernel_rfl) (λv=>by kernel_rfl)
def ZDb(F:Nat)(a0:Tx):Option (Int):=
 (Zqq F a0).bind λo922=>
 if(!o922)=true then
  some (0:Int)
 else
 (Zc (Znc F) F (wi (10+(wi (8*(a0.2.1.length:Int)))),a0.1,(a0.1.length:Int),(0:Int),a0)).bind λo925=>
 some o925.1
def ZiN(F:Nat):Fs ya:=⟨31,[.v yTx],[],[yTx],[⟨.ret,[(0,.v yI)],[],[yI]⟩],λx=>ZDb F x⟩
def ZBr:Fs ya:=ZiN fuel
theorem Zzp:ZBr.Ok:=Zf (fi:={ hi:={ still:=[2,6]},lp:=[(0,ZpC)]}) (specs:={ l:=[ZnD]}) (okS ⟨Zrv,trivial⟩) ⟨Zsk,trivial⟩ (by decide+kernel) (λx=>by kernel_rfl)
def XE(F:Nat)(s:(Int×Zz)):Option ((Int×Zz)⊕((Bool×Zz)⊕Zz)):=
 if(decide (s.1 < (s.2.length:Int)))=true then
  if(decide (s.1 < 7))=true then
   (idx s.2 s.1).bind λe926=>
   if(decide ((e926.1.length:Int) > 20))=true then
    some (.inr (.inl (false,s.2)))
   else
   some (.inl (wi (s.1+1),s.2))
  else
  some (.inr (.inr s.2))
 else
 some (.inr (.inr s.2))
def ZdR:Lp:=⟨[(1,.ref 0 []),(3,.v yI)],[.var (.v Zp) true],[yI,Zp],[⟨.ret,[(2,.v .bool)],[.var (.v Zp) true],[.bool,Zp]⟩,⟨.exit 0,[(1,.ref 0 [])],[.var (.v Zp) true],[Zp]⟩],Zc (XE fuel) fuel⟩
theorem ZiO:ZdR.Ok ya (Zj ya 9) (Zm ya 9 0):=Zh (fi:={ hi:={ still:=[2]},lp:=[]}) (specs:={ l:=[]}) (okS trivial) trivial (by kernel_rfl) (λv=>by kernel_rfl)
def VV(F:Nat)(a0:Zz):Option (Bool):=
 (Zc (XE F) F ((0:Int),a0)).bind λo927=>
 match o927 with
 |.inl o928=>
  some o928.1
 |.inr o929=>
  some (decide ((o929.length:Int)≤6))
def Zmt(F:Nat):Fs ya:=⟨9,[.v Zp],[],[Zp],[⟨.ret,[(0,.v .bool)],[],[.bool]⟩],λx=>VV F x⟩
def ZfD:Fs ya:=Zmt fuel
theorem Zmu:ZfD.Ok:=Zf (fi:={ hi:={ still:=[2]},lp:=[(0,ZdR)]}) (specs:={ l:=[]}) (okS trivial) ⟨ZiO,trivial⟩ (by decide+kernel) (λx=>by kernel_rfl)
def YX(F:Nat)(s:(Int×ZC)):Option ((Int×ZC)⊕((Bool×ZC)⊕ZC)):=
 if(decide (s.1 < (s.2.1.length:Int)))=true then
  (idx s.2.1 s.1).bind λe930=>
  (Ya F e930).bind λo931=>
  if(!o931)=true then
   some (.inr (.inl (false,s.2)))
  else
  some (.inl (wi (s.1+1),s.2))
 else
 some (.inr (.inr s.2))
def Zbd:Lp:=⟨[(1,.ref 0 []),(3,.v yI)],[.var (.v Zo) true],[yI,Zo],[⟨.ret,[(2,.v .bool)],[.var (.v Zo) true],[.bool,Zo]⟩,⟨.exit 0,[(1,.ref 0 [])],[.var (.v Zo) true],[Zo]⟩],Zc (YX fuel) fuel⟩
theorem ZfN:Zbd.Ok ya (Zj ya 42) (Zm ya 42 0):=Zh (fi:={ hi:={ still:=[2,41,46]},lp:=[]}) (specs:={ l:=[YW]}) (okS ⟨Xp,trivial⟩) trivial (by kernel_rfl) (λv=>by kernel_rfl)
def WI(F:Nat)(a0:ZC):Option (Bool):=
 if(decide ((a0.1.length:Int) > 12))=true then
  some false
 else
 if(decide (a0.2.1 < 0))=true then
  some false
 else
 if(decide (a0.2.1 > 1048576))=true then
  some false
 else
 if(decide (a0.2.2.1 < 0))=true then
  some false
 else
 if(decide (a0.2.2.1 > 1048576))=true then
  some false
 else
 (Zc (YX F) F ((0:Int),a0)).bind λo932=>
 match o932 with
 |.inl o933=>
  some o933.1
 |.inr o934=>
  (Ya F o934.2.2.2).bind λo935=>
  if(o934.2.2.2==0)=true then
   some true
  else
  some o935
def ZiP(F:Nat):Fs ya:=⟨42,[.v Zo],[],[Zo],[⟨.ret,[(0,.v .bool)],[],[.bool]⟩],λx=>WI F x⟩
def ZbC:Fs ya:=ZiP fuel
theorem ZiQ:ZbC.Ok:=Zf (fi:={ hi:={ still:=[2,41,46]},lp:=[(0,Zbd)]}) (specs:={ l:=[YW]}) (okS ⟨Xp,trivial⟩) ⟨ZfN,trivial⟩ (by decide+kernel) (λx=>by kernel_rfl)
def Xf(F:Nat)(s:(Int×Zz)):Option ((Int×Zz)⊕((Bool×Zz)⊕Zz)):=
 if(decide (s.1 < (s.2.length:Int)))=true then
  (idx s.2 s.1).bind λe936=>
  (WI F e936).bind λo937=>
  if(!o937)=true then
   some (.inr (.inl (false,s.2)))
  else
  some (.inl (wi (s.1+1),s.2))
 else
 some (.inr (.inr s.2))
def ZbD:Lp:=⟨[(1,.ref 0 []),(3,.v yI)],[.var (.v Zp) true],[yI,Zp],[⟨.ret,[(2,.v .bool)],[.var (.v Zp) true],[.bool,Zp]⟩,⟨.exit 0,[],[.var (.v Zp) true],[Zp]⟩],Zc (Xf fuel) fuel⟩
theorem ZgZ:ZbD.Ok ya (Zj ya 11) (Zm ya 11 0):=Zh (fi:={ hi:={ still:=[2,25]},lp:=[]}) (specs:={ l:=[ZbC]}) (okS ⟨ZiQ,trivial⟩) trivial (by kernel_rfl) (λv=>by kernel_rfl)
def XT(F:Nat)(a0:Zz):Option (Bool):=
 if(decide ((a0.length:Int) < 1))=true then
  some false
 else
 if(decide ((a0.length:Int) > 4))=true then
  some false
 else
 (Zc (Xf F) F ((0:Int),a0)).bind λo938=>
 match o938 with
 |.inl o939=>
  some o939.1
 |.inr o940=>
  some true
def ZjR(F:Nat):Fs ya:=⟨11,[.v Zp],[],[Zp],[⟨.ret,[(0,.v .bool)],[],[.bool]⟩],λx=>XT F x⟩
def Zc1:Fs ya:=ZjR fuel
theorem ZjS:Zc1.Ok:=Zf (fi:={ hi:={ still:=[2,25]},lp:=[(0,ZbD)]}) (specs:={ l:=[]}) (okS trivial) ⟨ZgZ,trivial⟩ (by decide+kernel) (λx=>by kernel_rfl)
abbrev ZMB:Type:=(Out×Int)
abbrev Zey:Type:=(XQ×ZMB)
abbrev Zey.at_(x:Zey):XQ:=x.1
abbrev Zey.c(x:Zey):ZMB:=x.2
abbrev Zxb:Type:=((List Zey)×(List XQ))
abbrev Zxb.gone(x:Zxb):(List Zey):=x.1
end
end Go.Proofs.YtmkgbalfkhaflaaGreat
end
section
set_option maxRecDepth 4000
namespace Go.Proofs.YtmkgbalfkhaflaaGreat
open Go Go.Ev
theorem ZIh{m:Nat}(hm:0 < m):∀(f a n o:Nat),o < m→pwm m f a n o < m
 |0,_,_,o,h=>h
 |f+1,a,n,o,h=>by
  rw[pwm];split
  ·exact h
  ·refine ZIh hm f _ _ _ ?_;split
   ·exact ybc _ hm
   ·exact h
theorem ZIi{m:Nat}(hm:1 < m)(k a n:Nat)(h:n < 2 ^ k):pwm m k a n 1=a ^ n % m:=by
 rw[←yaj (ZIh (by omega) k a n 1 hm),ZyJ k a n 1 h,Nat.one_mul]
instance(a:Nat):Decidable (QH a):=by unfold QH;infer_instance
theorem ZLH{z:Nat}(h:z < mdl):z < 18446744073709551616:=Nat.lt_trans h (by decide)
theorem ZIj{z:Nat}(h:z < mdl):(yal z).toNat=z:=by
 rw[ybe,yaj (ZLH h)]
theorem Zzq(z:Nat):z % mdl < mdl:=ybc _ (by decide)
theorem ZBs(a n:UInt64):Qv fuel a n=some (yal (a.toNat ^ n.toNat % mdl)):=by
 unfold Qv;rw[ZIi (by decide) 64 a.toNat n.toNat (ybm n)];rfl
theorem Zxc{a n:UInt64}(h:a.toNat < mdl):Yo fuel a n=some (yal (a.toNat ^ n.toNat % mdl)):=by
 unfold Yo;rw[if_pos (decide_eq_true (show a.toNat < 4611686018427377339 from h)),ZIi (by decide) 64 a.toNat n.toNat (ybm n)]
 rfl
theorem ZIk{z:Nat}(h:z < mdl):(yal z==1)=decide (z=1):=by
 rw[Bool.eq_iff_iff,beq_iff_eq,decide_eq_true_iff, ←UInt64.toNat_inj,ZIj h];rfl
theorem ZpD(p:UInt64):Xz fuel p=some (decide (QH p.toNat)):=by
 unfold Xz;by_cases h1:0 < p.toNat
 ·rw[if_pos (decide_eq_true (show p > 0 from ybv.2 h1))]
  by_cases h2:p.toNat < mdl
  ·rw[if_pos (decide_eq_true (show p < 4611686018427377339 from ybv.2 h2)),ZBs,yb,ZIk (Zzq _)]
   congr 1;rw[decide_eq_decide];exact⟨λh=>⟨h1,h2,h⟩,λh=>h.2.2⟩
  ·rw[if_neg (by rw[decide_eq_true_iff];exact λh=>h2 (ybv.1 h)),decide_eq_false (λh=>h2 h.2.1)]
 ·rw[if_neg (by rw[decide_eq_true_iff];exact λh=>h1 (ybv.1 h)),decide_eq_false (λh=>h1 h.1)]
theorem ZhP(p:UInt64):Ya fuel p=some (decide (QH p.toNat)):=by
 unfold Ya;by_cases h1:0 < p.toNat
 ·rw[if_pos (decide_eq_true (show p ≥ 1 from ycp.2 h1))]
  by_cases h2:p.toNat < mdl
  ·rw[if_pos (decide_eq_true (show p < 4611686018427377339 from ybv.2 h2)),Zxc h2,yb,ZIk (Zzq _)]
   congr 1;rw[decide_eq_decide];exact⟨λh=>⟨h1,h2,h⟩,λh=>h.2.2⟩
  ·rw[if_neg (by rw[decide_eq_true_iff];exact λh=>h2 (ybv.1 h)),decide_eq_false (λh=>h2 h.2.1)]
 ·rw[if_neg (by rw[decide_eq_true_iff];exact λh=>h1 (ycp.1 h)),decide_eq_false (λh=>h1 h.1)]
def tk(p:UInt64):UInt64:=if QH p.toNat then p else 1
theorem ZIl(p:UInt64):QH (tk p).toNat:=by
 unfold tk;split
 ·assumption
 ·exact ZLt
theorem ZMC{p:UInt64}(h:QH p.toNat):tk p=p:=if_pos h
theorem ZIm(p:UInt64):Qy fuel p=some (tk p):=by
 unfold Qy tk;rw[ZpD,yb];by_cases h:QH p.toNat
 ·rw[if_pos (decide_eq_true h),if_pos h]
 ·rw[if_neg (by rw[decide_eq_true_iff];exact h),if_neg h]
theorem ZFO(p:UInt64):WP fuel p=some (tk p):=by
 unfold WP tk;rw[ZhP,yb];by_cases h:QH p.toNat
 ·rw[if_pos (decide_eq_true h),if_pos h]
 ·rw[if_neg (by rw[decide_eq_true_iff];exact h),if_neg h]
def sc(p:UInt64)(n:Nat):UInt64:=yal ((tk p).toNat ^ n % mdl)
theorem ZIn(p:UInt64)(n:Nat):(sc p n).toNat=(tk p).toNat ^ n % mdl:=ZIj (Zzq _)
theorem ZMD(p:UInt64)(n:Nat):QH (sc p n).toNat:=by
 rw[ZIn];exact ZLu (ZIl p) n
theorem ZIo(p:UInt64)(n:Nat):sc p (n % ord)=sc p n:=by
 unfold sc;rw[ZJK (ZIl p)]
theorem ZKl(k:UInt64):(k % 2305843009213688669).toNat=k.toNat % ord:=by
 rw[UInt64.toNat_mod];rfl
theorem ZIp(p k:UInt64):Za0 fuel p k=some (sc p k.toNat):=by
 unfold Za0;rw[ZIm,yb,ZBs,yb,ZKl, ←ZIo];rfl
theorem ZFP(p k:UInt64):WQ fuel p k=some (sc p k.toNat):=by
 unfold WQ;rw[ZFO,yb,Zxc (ZIl p).2.1,yb,ZKl, ←ZIo];rfl
def B(n:Nat):UInt64:=sc 4 n
theorem tk4:tk 4=4:=ZMC ZHY
theorem ZME(n:Nat):(B n).toNat=4 ^ n % mdl:=by
 unfold B;rw[ZIn,tk4];rfl
theorem ZLI(n:Nat):QH (B n).toNat:=ZMD 4 n
theorem ZMW{n:Nat}(h0:0 < n)(h1:n < ord):B n≠1:=λe=>ZLv h0 h1 (by rw[←ZME,e];rfl)
theorem ZlU(k:UInt64):Xi fuel k=some (B k.toNat):=by
 unfold Xi;rw[ZIp,yb];rfl
theorem Zln(k:UInt64):Yi fuel k=some (B k.toNat):=by
 unfold Yi;rw[ZFP,yb];rfl
def Key(k:UInt64):Prop:=0 < k.toNat∧k.toNat < ord
theorem ZMT{h:List UInt8}(hl:h.length=32):∃k,ZcB fuel h=some k∧Key k:=by
 unfold ZcB
 obtain⟨x,h1,h2⟩:=Yq (step:=Ql fuel) 32 (λk s=>∃n:UInt64,s=(n,h,(k:Int),h)∧n.toNat < 2305843009213688668) (λx=>x.1.toNat < 2305843009213688668) (i:=((0:UInt64),h,(0:Int),h)) ⟨0,rfl,by decide⟩ (by omega) (by
  rintro k _ hk ⟨n,rfl,hn⟩;left;obtain⟨e,he,_⟩:=Zt (l:=h) (k:=k) (by omega);unfold Ql;dsimp only;rw[if_pos (decide_eq_true (by omega)),ZG he,yb];unfold W3;rw[if_pos (by decide),yb,ZK (by omega)];refine⟨_,rfl,_,rfl, ?_⟩;rw[show(2305843009213688668:UInt64).toNat=2305843009213688668 from rfl,ybe,yaj]
  ·exact ybc _ (by decide)
  ·exact Nat.lt_trans (ybc _ (by decide)) (by decide)) (by
  rintro _ ⟨n,rfl,hn⟩;unfold Ql;dsimp only;rw[if_neg (by rw[decide_eq_true_iff];omega)];exact⟨_,rfl,hn⟩)
 rw[h1,yb];have e:(x.1+1).toNat=x.1.toNat+1:=by rw[UInt64.toNat_add,yaj (by show x.1.toNat+1 < _;omega)];rfl
 exact⟨_,rfl,by rw[e];omega,by rw[e];unfold ord;omega⟩
theorem Zlo{h:List UInt8}(hl:h.length=32):∃k,Yh fuel h=some k∧Key k:=by
 unfold Yh
 obtain⟨x,h1,h2⟩:=Yq (step:=Xl fuel) 32 (λk s=>∃n:UInt64,s=(n,(k:Int),h)∧n.toNat < 2305843009213688668) (λx=>x.1.toNat < 2305843009213688668) (i:=((0:UInt64),(0:Int),h)) ⟨0,rfl,by decide⟩ (by omega) (by
  rintro k _ hk ⟨n,rfl,hn⟩;left;obtain⟨e,he,_⟩:=Zt (l:=h) (k:=k) (by omega);unfold Xl;dsimp only;rw[if_pos (decide_eq_true (by omega))]
  obtain⟨y,g1,n2,rfl,g2⟩:=Yq (step:=Xk fuel) 8 (λj s=>∃n:UInt64,s=(n,(k:Int),7 - (j:Int),h)∧n.toNat < 2305843009213688668) (λx=>∃n:UInt64,x=(n,(k:Int),h)∧n.toNat < 2305843009213688668) (i:=(n,(k:Int),(7:Int),h)) ⟨n,rfl,hn⟩ (by omega) (by
   rintro j _ hj ⟨n,rfl,hn⟩;left;unfold Xk;dsimp only;rw[if_pos (decide_eq_true (by omega)),if_pos (Wb (by omega) (by omega)),ycb,he,yb,ZN (z:=7 - (j:Int) - 1) (by omega) (by omega)];refine⟨_,rfl,_,by rw[show(7:Int) - (j:Int) - 1=7 - ((j+1:Nat):Int) by omega], ?_⟩;rw[UInt64.toNat_mod];exact ybc _ (by decide)) (by
   rintro _ ⟨n,rfl,hn⟩;unfold Xk;dsimp only;rw[if_neg (by rw[decide_eq_true_iff];omega)];exact⟨_,rfl,_,rfl,hn⟩)
  rw[g1,yb,ZK (by omega)];exact⟨_,rfl,_,rfl,g2⟩) (by
  rintro _ ⟨n,rfl,hn⟩;unfold Xl;dsimp only;rw[if_neg (by rw[decide_eq_true_iff];omega)];exact⟨_,rfl,hn⟩)
 rw[h1,yb];have e:(x.1+1).toNat=x.1.toNat+1:=by rw[UInt64.toNat_add,yaj (by show x.1.toNat+1 < _;omega)];rfl
 exact⟨_,rfl,by rw[e];omega,by rw[e];unfold ord;omega⟩
theorem ZFQ{ls:List (List UInt8)}(h:ls.flatten.length≤1000000000)(hn:ls.length≤1000):Yu fuel ls=some ls.flatten:=by
 unfold Yu
 rw[show(ls,(0:Int),ls,(ls.length:Int),(0:Int))=(λk:Nat=>(ls,((ls.take k).flatten.length:Int),ls,(ls.length:Int),(k:Int))) 0 from rfl,
  Y3 (x:=(ls,(ls.flatten.length:Int))) ls.length (λk:Nat=>(ls,((ls.take k).flatten.length:Int),ls,(ls.length:Int),(k:Int))) ?_ ?_ (by omega),yb]
 ·have hg:ZtZ (ls.flatten.length:Int)=some []:=by
   unfold ZtZ;rw[if_pos];rw[Bool.and_eq_true];exact⟨decide_eq_true (by omega),decide_eq_true (by unfold Zs;omega)⟩
  dsimp only
  rw[hg,yb,show(ls,(ls.length:Int),(0:Int),([]:List UInt8))=(λk:Nat=>(ls,(ls.length:Int),(k:Int),(ls.take k).flatten)) 0 from rfl,
   Y3 (x:=ls.flatten) ls.length (λk:Nat=>(ls,(ls.length:Int),(k:Int),(ls.take k).flatten)) ?_ ?_ (by omega),yb]
  ·intro k hk;obtain⟨e,he,_⟩:=Zt hk;have hf:=Zxa he;have hl:=ZEr ls (k+1);rw[hf,yr] at hl;unfold Y2;dsimp only;rw[if_pos (YK hk),ZG he,yb,if_pos (Ys (by omega) (by omega)),ZK (by omega),hf]
  ·unfold Y2;dsimp only;rw[if_neg (by rw[Yd];decide),ybt]
 ·intro k hk;obtain⟨e,he,_⟩:=Zt hk;have hf:=Zxa he;have hl:=ZEr ls (k+1);rw[hf,yr] at hl;unfold YZ;dsimp only;rw[if_pos (YK hk),ZG he,yb,ZN (z:=((ls.take k).flatten.length:Int)+(e.length:Int)) (by omega) (by omega),if_neg (by rw[decide_eq_true_iff];omega),ZK (by omega),hf,yr];rfl
 ·unfold YZ;dsimp only;rw[if_neg (by rw[Yd];decide),ybt]
theorem ZEs{a b:List UInt8}(h:a.length+b.length≤1000000000):Zaa fuel a b=some (a++b):=by
 unfold Zaa;rw[ZFQ (by simp;omega) (by simp),yb];simp
def Zae(n:Nat):List UInt8:=if h:n < 128 then[yaq n] else yaq (n % 128+128)::Zae (n / 128)
termination_by n
decreasing_by omega
theorem ZiR{n:Nat}(h:n < 128):Zae n=[yaq n]:=by rw[Zae,dif_pos h]
theorem Zve{n:Nat}(h:¬n < 128):Zae n=yaq (n % 128+128)::Zae (n / 128):=by rw[Zae,dif_neg h]
theorem ZEt:∀(j n:Nat),n < 128 ^ (j+1)→(Zae n).length≤j+1
 |0,n,h=>by rw[ZiR (by omega)];exact Nat.le_refl _
 |j+1,n,h=>by
  by_cases h0:n < 128
  ·rw[ZiR h0,List.length_singleton];omega
  ·rw[Zve h0];have:=ZEt j (n / 128) (by rw[Nat.pow_succ] at h;omega);simp only[yad];omega
theorem WJ{n:Nat}(h:n≤9223372036854775807):(Zae n).length≤9:=ZEt 8 n (by omega)
theorem ZJT(n:Nat):Zae n≠[]:=by
 rw[Zae];split <;> simp
theorem ZLJ{n:Nat}(h:n≤9223372036854775807):Zhp fuel (n:Int)=some (Zae n):=by
 unfold Zhp;refine Exists.elim (WW (step:=Zee fuel) (λs=>∃m:Nat,s.1=(m:Int)∧m≤n∧s.2++Zae m=Zae n) (λs=>s.1.toNat) (λx=>∃m:Nat,x.1=(m:Int)∧m < 128∧x.2++Zae m=Zae n) ?_ ((n:Int),([]:List UInt8)) ⟨n,rfl,Nat.le_refl _,rfl⟩ (by dsimp only;omega)) ?_
 ·rintro⟨_,o⟩ ⟨m,rfl,hm,ho⟩;unfold Zee;dsimp only at ho ⊢;have hr:=congrArg List.length ho;have hl:=WJ h;rw[yr] at hr;by_cases h1:m < 128
  ·right;rw[if_neg (by rw[decide_eq_true_iff];omega)];exact⟨_,rfl,m,rfl,h1,ho⟩
  ·left;rw[if_pos (decide_eq_true (by omega)),if_pos (Ys (by omega) (by omega))];have e1:Int.tmod (m:Int) 128=((m % 128:Nat):Int):=rfl;have e2:Int.tdiv (m:Int) 128=((m / 128:Nat):Int):=rfl;rw[e1,e2,ZN (z:=((m % 128:Nat):Int)+128) (by omega) (by omega),ZN (z:=((m / 128:Nat):Int)) (by omega) (by omega)];refine⟨_,rfl,⟨m / 128,rfl,by omega, ?_⟩,by dsimp only;omega⟩;dsimp only;rw[←ho,Zve h1,yak];congr 1;rw[List.singleton_append];congr 1;unfold w8;congr 1;omega
 ·rintro⟨_,o⟩ ⟨h1,m,rfl,h2,h3⟩;dsimp only at h3 ⊢;have hr:=congrArg List.length h3;have hl:=WJ h;rw[yr] at hr;rw[h1,yb];dsimp only;rw[if_pos (Ys (by omega) (by omega)), ←h3,ZiR h2];congr 3;unfold w8;congr 1;omega
theorem Zzr{b:List UInt8}{z:Int}(h0:0≤z)(h:z≤9223372036854775807)(hb:b.length≤1000000):Wt fuel b z=some (b++Zae z.toNat):=by
 obtain⟨n,rfl⟩:=Int.eq_ofNat_of_zero_le h0;have:=WJ (n:=n) (by omega);unfold Wt;rw[if_neg (by rw[decide_eq_true_iff];omega),ZLJ (by omega),yb,ZEs (by omega),yb,ycb]
def ZpE(l:List UInt8)(n k:Nat):List UInt8:=l.take k++List.replicate (n - k) 0
theorem ZFR{l:List UInt8}{n k:Nat}(h:k < l.length)(h2:l.length≤n):(ZpE l n k)[k]? =some 0:=by
 unfold ZpE;have h3:(l.take k).length=k:=by simp;omega
 rw[yap (by omega),h3,List.getElem?_replicate];simp;omega
theorem ZFS{l:List UInt8}{n k:Nat}{d:UInt8}(hx:l[k]? =some d)(h2:l.length≤n):(ZpE l n k).set k d=ZpE l n (k+1):=by
 have h:k < l.length:=(yp.1 hx).1;have h3:(l.take k).length=k:=by simp;omega
 unfold ZpE;rw[ZiB hx,List.set_append_right _ _ (by omega),h3,Nat.sub_self];have e:n - k=(n - (k+1))+1:=by omega
 rw[e,List.replicate_succ];simp
theorem ZFT{l:List UInt8}{n:Nat}(h:l.length=n):ZpE l n n=l:=by
 unfold ZpE;rw[←h];simp
def ZqN(n:Nat):List UInt8:=(List.range 8).map λi=>yaq (n / 2 ^ (56 - 8*i))
theorem QV(n:Nat):(ZqN n).length=8:=by simp[ZqN]
theorem ZBt(n:Nat){k:Nat}(hk:k < 8):(ZqN n)[k]? =some (yaq (n / 2 ^ (56 - 8*k))):=by simp[ZqN,hk]
theorem ZIq(x:UInt64){m:Nat}:w8 ((ZF x m).toNat:Int)=yaq (x.toNat / 2 ^ m):=by
 unfold w8 ZF;have h:x.toNat / 2 ^ m < 18446744073709551616:=Nat.lt_of_le_of_lt (Nat.div_le_self ..) (ybm _);rw[ybe,yaj h];apply UInt8.toNat_inj.1;rw[UInt8.toNat_ofNat',UInt8.toNat_ofNat'];omega
theorem Zxd{b:List UInt8}(x:UInt64)(hb:b.length≤1000000):ZaU fuel b x=some (b++ZqN x.toNat):=by
 unfold ZaU
 rw[show(b,x,(0:Int),([0,0,0,0,0,0,0,0]:List UInt8))=(λk:Nat=>(b,x,(k:Int),ZpE (ZqN x.toNat) 8 k)) 0 from rfl,
  Y3 (x:=(b,ZqN x.toNat)) 8 (λk:Nat=>(b,x,(k:Int),ZpE (ZqN x.toNat) 8 k)) ?_ ?_ (by omega),yb]
 ·dsimp only;rw[ZEs (by rw[QV];omega),yb]
 ·intro k hk;unfold Q1;dsimp only;have hl:=QV x.toNat
  rw[if_pos (decide_eq_true (by omega)),ZN (z:=8*(k:Int)) (by omega) (by omega),ZN (z:=56 - 8*(k:Int)) (by omega) (by omega),if_pos (decide_eq_true (by omega)),if_pos (Wb (by omega) (by omega)),
   ycb,ZFR (by omega) (by omega),yb,ZK (by omega)]
  have e:min (56 - 8*(k:Int)).toNat 64=56 - 8*k:=by omega
  rw[e,ZIq,ZFS (ZBt _ hk) (by omega)]
 ·unfold Q1;dsimp only;rw[if_neg (by simp),ZFT (QV _)]
def Zwh(b:ZC):Prop:=b.1.length≤12∧0≤b.2.1∧b.2.1≤1048576∧0≤b.2.2.1∧b.2.2.1≤1048576
def Zwi(b:ZC):Prop:=(∀p,p∈b.1→QH p.toNat)∧(b.2.2.2≠0→QH b.2.2.2.toNat)
def Zdv(l:Zz):Prop:=0 < l.length∧l.length≤4∧∀b,b∈l→Zwh b
def ZiS(l:Zz):Prop:=∀b,b∈l→Zwi b
theorem ZDc(p:UInt64):VB fuel p=some (!decide (QH p.toNat)):=by
 unfold VB;rw[ZpD,yb]
theorem ZIr{p:UInt64}(h:QH p.toNat):VB fuel p=some false:=by rw[ZDc,decide_eq_true h];rfl
theorem ZMF{l:List UInt64}(hl:l.length≤12)(h:∀p,p∈l→QH p.toNat):ZbO fuel l=some false:=by
 unfold ZbO ZaP
 rw[show(l,(l.length:Int),(0:Int))=(λk:Nat=>(l,(l.length:Int),(k:Int))) 0 from rfl,
  Y3 (x:=.inr ()) l.length (λk:Nat=>(l,(l.length:Int),(k:Int))) ?_ ?_ (by omega),yb]
 ·rfl
 ·intro k hk;obtain⟨e,he,hm⟩:=Zt hk;unfold Y7;dsimp only;rw[if_pos (YK hk),ZG he,yb,ZIr (h e hm),yb,ZK (by omega)];rfl
 ·unfold Y7;dsimp only;rw[if_neg (by rw[Yd];decide)]
theorem Zxe{z:Int}(h0:0≤z)(h1:z≤1048576):Vf fuel z=some true:=by
 unfold Vf;rw[if_pos (decide_eq_true h0),decide_eq_true h1]
theorem ZnS{l:Zz}(h:Zdv l)(hp:ZiS l):YQ fuel l=some true:=by
 unfold YQ;obtain⟨h0,h1,h2⟩:=h
 rw[show(l,(l.length:Int),(0:Int),l)=(λk:Nat=>(l,(l.length:Int),(k:Int),l)) 0 from rfl,
  Y3 (x:=.inr l) l.length (λk:Nat=>(l,(l.length:Int),(k:Int),l)) ?_ ?_ (by omega),yb]
 ·dsimp only;rw[if_pos (decide_eq_true (by omega)),decide_eq_true (by omega)]
 ·intro k hk;obtain⟨e,he,hm⟩:=Zt hk;obtain⟨e1,e2,e3,e4,e5⟩:=h2 e hm;obtain⟨p1,p2⟩:=hp e hm;unfold Wc;dsimp only;rw[if_pos (YK hk),ZG he,yb,if_neg (by rw[decide_eq_true_iff];omega),ZMF e1 p1,yb,Zxe e2 e3,yb,Zxe e4 e5,yb,ZK (by omega),if_neg (by decide),if_neg (by decide),if_neg (by decide)];by_cases hz:e.2.2.2=0
  ·rw[if_neg (by simp[hz])]
  ·rw[if_pos (by simp[hz]),ZIr (p2 hz),yb,if_neg (by decide)]
 ·unfold Wc;dsimp only;rw[if_neg (by rw[Yd];decide)]
def cat{α:Type}(f:α→List UInt8)(l:List α):List UInt8:=(l.map f).flatten
theorem ZBu{α:Type}{f:α→List UInt8}{l:List α}{k:Nat}{e:α}(h:l[k]? =some e):cat f (l.take (k+1))=cat f (l.take k)++f e:=by
 unfold cat
 rw[ZiB h,List.map_append,List.flatten_append];simp
theorem ZBv{α:Type}{f:α→List UInt8}{l:List α}{e:α}:cat f (e::l)=f e++cat f l:=rfl
theorem Zzs{α:Type}{f:α→List UInt8}{c:Nat}:∀{l:List α},(∀x,x∈l→(f x).length≤c)→(cat f l).length≤l.length*c
 |[],_=>by simp[cat]
 |e::l,h=>by
  have h1:=h e (yat ..);have h2:=Zzs (l:=l) λx hx=>h x (yau _ hx);rw[ZBv,yr,yad,Nat.succ_mul];omega
theorem Zvf{α:Type}{f:α→List UInt8}{c n:Nat}{l:List α}(h:∀x,x∈l→(f x).length≤c)(hn:l.length≤n)(k:Nat):(cat f (l.take k)).length≤n*c:=by
 refine Nat.le_trans (Zzs λx hx=>h x (List.mem_of_mem_take hx)) (ybu c ?_);rw[yag];omega
def Zvg(p:UInt64):List UInt8:=ZqN p.toNat
def brF(b:ZC):List UInt8:=Zae b.1.length++(cat Zvg b.1++(Zae b.2.1.toNat++(Zae b.2.2.1.toNat++ZqN b.2.2.2.toNat)))
def Zas(l:Zz):List UInt8:=Zae l.length++cat brF l
theorem Zvh{l:List UInt64}(h:l.length≤12)(k:Nat):(cat Zvg (l.take k)).length≤96:=Zvf (c:=8) (λx _=>Nat.le_of_eq (QV _)) h k
theorem Zzt{b:ZC}(h:b.1.length≤12∧0≤b.2.1∧b.2.1≤1048576∧0≤b.2.2.1∧b.2.2.1≤1048576):(brF b).length≤131:=by
 have h1:=Zvh h.1 b.1.length;rw[ybt] at h1;have h2:=WJ (n:=b.1.length) (by omega);have h3:=WJ (n:=b.2.1.toNat) (by omega);have h4:=WJ (n:=b.2.2.1.toNat) (by omega);have h5:=QV b.2.2.2.toNat
 unfold brF;simp only[yr];omega
theorem ZqO{l:Zz}(h:Zdv l):(Zas l).length≤533:=by
 have h1:=Zvf (f:=brF) (c:=131) (λx hx=>Zzt (h.2.2 x hx)) h.2.1 l.length;rw[ybt] at h1;have h2:=WJ (n:=l.length) (by have:=h.2.1;omega);unfold Zas;rw[yr];omega
theorem ZFU{c:List UInt8}(hc:c.length≤100000){bs:List ZC}{n i:Int}{ks:List UInt64}{l:Zz}{e:ZC}(hk:ks.length≤12):
 Zc (Qi fuel) fuel (c,bs,n,i,ks,(ks.length:Int),(0:Int),l,e)=some (c++cat Zvg ks,bs,n,i,l,e):=by
 rw[show(c,bs,n,i,ks,(ks.length:Int),(0:Int),l,e)=(λk:Nat=>(c++cat Zvg (ks.take k),bs,n,i,ks,(ks.length:Int),(k:Int),l,e)) 0 by simp[cat]];refine Y3 ks.length (λk:Nat=>(c++cat Zvg (ks.take k),bs,n,i,ks,(ks.length:Int),(k:Int),l,e)) ?_ ?_ (by omega)
 ·intro k hk2;obtain⟨e,he,_⟩:=Zt hk2;have hl:=Zvh hk k;unfold Qi;dsimp only;rw[if_pos (YK hk2),ZG he,yb,Zxd _ (by rw[yr];omega),yb,ZK (by omega),ZBu he,yak];rfl
 ·unfold Qi;dsimp only;rw[if_neg (by rw[Yd];decide),ybt]
theorem ZiT{l:Zz}(h:Zdv l)(hp:ZiS l):W5 fuel l=some (Zas l):=by
 unfold W5;have h0:=h.2.1;have h9:=WJ (n:=l.length) (by omega);rw[ZnS h hp,yb,if_neg (by decide),Zzr (by omega) (by omega) (by simp),yb,yw,ycb]
 rw[show(Zae l.length,l,(l.length:Int),(0:Int),l)=(λk:Nat=>(Zae l.length++cat brF (l.take k),l,(l.length:Int),(k:Int),l)) 0 by simp[cat],
  Y3 (x:=(Zas l,l)) l.length (λk:Nat=>(Zae l.length++cat brF (l.take k),l,(l.length:Int),(k:Int),l)) ?_ ?_ (by omega),yb]
 ·intro k hk;obtain⟨e,he,hm⟩:=Zt hk;obtain⟨e1,e2,e3,e4,e5⟩:=h.2.2 e hm;have hl:=Zvf (f:=brF) (c:=131) (λx hx=>Zzt (h.2.2 x hx)) h.2.1 k;have hr:=WJ (n:=e.1.length) (by omega);have hr2:=WJ (n:=e.2.1.toNat) (by omega);have hr3:=WJ (n:=e.2.2.1.toNat) (by omega);have hk8:=Zvh e1 e.1.length;rw[ybt] at hk8;unfold ZaV;dsimp only
  rw[if_pos (YK hk),ZG he,yb,Zzr (by omega) (by omega) (by rw[yr];omega),yb,ycb,
   ZFU (by simp only[yr];omega) e1,yb]
  dsimp only
  rw[Zzr e2 (by omega) (by simp only[yr];omega),yb,Zzr e4 (by omega) (by simp only[yr];omega),yb,
   Zxd _ (by simp only[yr];omega),yb,ZK (by omega),ZBu he]
  unfold brF;simp only[yak]
 ·unfold ZaV;dsimp only;rw[if_neg (by rw[Yd];decide),ybt];rfl
theorem ZBw{z:Int}(h0:0≤z)(h1:z≤1125899906842624):ZeY fuel z=some true:=by
 unfold ZeY;rw[if_pos (decide_eq_true h0),decide_eq_true h1]
theorem ZJU{a b:Int}(h0:0≤a)(h1:0≤b)(h2:a+b≤1125899906842624):Zhl fuel a b=some (a+b,true):=by
 unfold Zhl;rw[ZBw h0 (by omega),yb,if_neg (by decide),ZBw h1 (by omega),yb,if_neg (by decide),ZN (z:=1125899906842624 - b) (by omega) (by omega),ZN (z:=a+b) (by omega) (by omega),if_neg (by rw[decide_eq_true_iff];omega)]
def Tm(d:Int):QP:=(100,200,d,16,1,1125899906842624)
noncomputable def Z4(k:Kit):VF:=(B k.1.toNat,B k.2.1.toNat,B k.2.2.1.toNat,B k.2.2.2.1.toNat,B k.2.2.2.2.1.toNat)
def KitOk(k:Kit):Prop:=Key k.1∧Key k.2.1∧Key k.2.2.1∧Key k.2.2.2.1∧Key k.2.2.2.2.1
def z32:List UInt8:=[0,0,0,0,0,0,0,0,0,0,0,0,0,0,0,0,0,0,0,0,0,0,0,0,0,0,0,0,0,0,0,0]
noncomputable def YM(A:Int)(k0 k1:Kit)(op:Int):ZH:=((z32,0),A,[Z4 k0,Z4 k1],[Tm 5,Tm 6],op)
structure ChOk(A:Int)(k0 k1:Kit)(op:Int):Prop where
 lo:20000≤A
 hi:A≤4300000000
 o:op=0∨op=1
 k0:KitOk k0
 k1:KitOk k1
theorem ZIs{k:UInt64}(h:Key k):B k.toNat≠1:=ZMW h.1 h.2
theorem ZLK{k:UInt64}(h:Key k):VQ fuel (B k.toNat)=some true:=by
 unfold VQ;rw[ZhP,yb,if_pos (decide_eq_true (ZLI _))];exact congrArg some (bne_iff_ne.2 (ZIs h))
theorem ZnT{k:Kit}(h:KitOk k):∀p,p∈[(Z4 k).1,(Z4 k).2.1,(Z4 k).2.2.1,(Z4 k).2.2.2.1,(Z4 k).2.2.2.2]→∃x:UInt64,Key x∧p=B x.toNat:=by
 obtain⟨h1,h2,h3,h4,h5⟩:=h;intro p hp;simp only[ybz,List.not_mem_nil,or_false] at hp;rcases hp with rfl|rfl|rfl|rfl|rfl
 ·exact⟨_,h1,rfl⟩
 ·exact⟨_,h2,rfl⟩
 ·exact⟨_,h3,rfl⟩
 ·exact⟨_,h4,rfl⟩
 ·exact⟨_,h5,rfl⟩
theorem rin{z a b:Int}(h1:a≤z)(h2:z≤b):ZS fuel z a b=some true:=by
 unfold ZS;rw[if_pos (decide_eq_true h1),decide_eq_true h2]
theorem ZBx{z a b:Int}(h1:a≤z)(h2:z≤b):Z1 fuel z a b=some true:=by
 unfold Z1;rw[if_pos (decide_eq_true h1),decide_eq_true h2]
theorem ZIt{d:Int}(h1:1≤d)(h2:d≤4096):WR fuel (Tm d)=some true:=by
 unfold WR Tm;dsimp only;rw[rin (by omega) (by omega),yb,if_pos rfl,rin (by omega) (by omega),yb,if_pos rfl,rin h1 h2,yb,if_pos rfl,rin (by omega) (by omega),yb,if_pos rfl,rin (by omega) (by omega),yb,if_pos rfl,rin (by omega) (by omega)];rfl
theorem Zxf(i:Int)(ch:ZH)(b:VF){l:List UInt64}(hl:l.length=5)(h:∀p,p∈l→∃x:UInt64,Key x∧p=B x.toNat):Zc (XD fuel) fuel (i,l,(0:Int),ch,b)=some (.inr (i,ch,b)):=by
 refine Y3 5 (λk:Nat=>(i,l,(k:Int),ch,b)) ?_ ?_ (by omega)
 ·intro k hk;obtain⟨e,he,hm⟩:=Zt (l:=l) (k:=k) (by omega);obtain⟨x,hx,rfl⟩:=h e hm;unfold XD;dsimp only;rw[if_pos (decide_eq_true (by omega)),ZG he,yb,ZLK hx,yb,if_neg (by decide),ZK (by omega)]
 ·unfold XD;dsimp only;rw[if_neg (by rw[decide_eq_true_iff];omega)]
theorem ZMX{A:Int}{k0 k1:Kit}{op:Int}(h:ChOk A k0 k1 op):VR fuel (YM A k0 k1 op)=some 0:=by
 obtain⟨h1,h2,h3,h4,h5⟩:=h;have hA:(YM A k0 k1 op).2.1=A:=rfl;have hN:(YM A k0 k1 op).1.2=0:=rfl;have hO:(YM A k0 k1 op).2.2.2.2=op:=rfl;have hT:(YM A k0 k1 op).2.2.2.1=[Tm 5,Tm 6]:=rfl;have hB:(YM A k0 k1 op).2.2.1=[Z4 k0,Z4 k1]:=rfl;unfold VR;rw[hA,hN,hO,rin (by omega) (by omega),yb,if_neg (by decide),rin (by omega) (by omega),yb,if_neg (by decide),rin (by omega) (by omega),yb,if_neg (by decide)];generalize hc:YM A k0 k1 op=c at*;rw[show((0:Int),c)=(λk:Nat=>((k:Int),c)) 0 from rfl,Y3 (x:=.inr c) 2 (λk:Nat=>((k:Int),c)) ?_ ?_ (by omega),yb]
 ·dsimp only;rw[hT];show(if decide (wi (200+200) > c.2.1)=true then some (10:Int) else some 0)=some 0
  rw[hA,ZN (by omega) (by omega),if_neg (by rw[decide_eq_true_iff];omega)]
 ·intro k hk;unfold WH;dsimp only;rw[if_pos (decide_eq_true (by omega)),if_pos (Wb (by omega) (by omega)),ycb,hB,hT]
  match k,hk with
  |0,_=>
   show(ybr (some (Z4 k0)) _)=_;rw[yb,if_pos (by decide)];show(ybr (some (Tm 5)) _)=_;rw[yb,ZIt (by omega) (by omega),yb,if_neg (by decide),Zxf _ _ _ rfl (ZnT h4),yb]
   rfl
  |1,_=>
   show(ybr (some (Z4 k1)) _)=_;rw[yb,if_pos (by decide)];show(ybr (some (Tm 6)) _)=_;rw[yb,ZIt (by omega) (by omega),yb,if_neg (by decide),Zxf _ _ _ rfl (ZnT h5),yb];rfl
 ·unfold WH;dsimp only;rw[if_neg (by rw[decide_eq_true_iff];omega)]
def CondIn(c:ZL):Prop:=(c.1=0∨c.1=1)∧1≤c.2.1∧c.2.1≤1048576∧1≤c.2.2.1∧c.2.2.1≤65536∧QH c.2.2.2.1.toNat∧c.2.2.2.1≠1∧1≤c.2.2.2.2∧c.2.2.2.2≤65536
def Ahd(a b:ZL):Prop:=a.1 < b.1∨a.1=b.1∧a.2.1 < b.2.1
instance(a b:ZL):Decidable (Ahd a b):=by unfold Ahd;infer_instance
theorem ZFV{a b c:ZL}(h:Ahd a b)(k:Ahd b c):Ahd a c:=by unfold Ahd at*;omega
theorem ZLL{a b:ZL}(h:a.2.1≠b.2.1)(k:¬Ahd a b):Ahd b a:=by unfold Ahd at*;omega
theorem Zxg(a b:ZL):XS fuel a b=some (decide (Ahd a b)):=by
 unfold XS;by_cases h1:a.1 < b.1
 ·rw[if_pos (decide_eq_true h1),decide_eq_true (p:=Ahd a b) (Or.inl h1)]
 ·rw[if_neg (by rw[decide_eq_true_iff];exact h1)];by_cases h2:a.1=b.1
  ·rw[if_pos (by rw[h2];exact beq_self_eq_true _)];congr 1;rw[decide_eq_decide];unfold Ahd;omega
  ·rw[if_neg (by rw[beq_iff_eq];exact h2),decide_eq_false (p:=Ahd a b) (by unfold Ahd;omega)]
theorem ZKm{c:ZL}(h:CondIn c):Wh fuel c=some true:=by
 obtain⟨h1,h2,h3,h4,h5,h6,h7,h8,h9⟩:=h;unfold Wh;rw[ZhP,yb,if_pos (decide_eq_true h6),if_pos (bne_iff_ne.2 h7),ZBx (by omega) (by omega),yb,if_pos rfl,ZBx h2 h3,yb,if_pos rfl,ZBx h4 (by omega),yb,if_pos rfl,ZBx h8 (by omega)];rfl
def amtC(l:List ZL):Int:=(l.map (·.2.2.1)).sum
theorem Zxh{l:List ZL}{k:Nat}{e:ZL}(h:l[k]? =some e):amtC (l.take (k+1))=amtC (l.take k)+e.2.2.1:=by
 unfold amtC;rw[ZiB h,List.map_append,List.sum_append];simp
theorem ZlV{l:List ZL}(h:∀c,c∈l→CondIn c):0≤amtC l∧amtC l≤65536*(l.length:Int):=by
 induction l with
 |nil=>exact⟨Int.le_refl _,Int.le_refl _⟩
 |cons c r ih=>
  obtain⟨h1,h2⟩:=ih λx hx=>h x (yau _ hx);have hc:=h c (yat ..);have e:amtC (c::r)=c.2.2.1+amtC r:=rfl;rw[e,yad];have:=hc.2.2.2.1;have:=hc.2.2.2.2.1;omega
theorem Zvi{l:List ZL}(h:∀c,c∈l→CondIn c)(k:Nat):0≤amtC (l.take k)∧amtC (l.take k)≤65536*(l.length:Int):=by
 have h1:=ZlV (l:=l.take k) λc hc=>h c (List.mem_of_mem_take hc);rw[yag] at h1;omega
structure StIn(A:Int)(s:State)(h0 h1:Int):Prop where
 n0:0≤s.1
 n1:s.1≤65535
 hv:s.2.1=[h0,h1]
 p0:0≤h0
 p1:0≤h1
 r0:0≤s.2.2.2
 r1:s.2.2.2≤7
 len:s.2.2.1.length≤16
 cs:∀c,c∈s.2.2.1→CondIn c
 srt:s.2.2.1.Pairwise Ahd
 tot:h0+h1+amtC s.2.2.1=A
def cost(r:Int)(n:Nat):Int:=r*(68+8*(n:Int))+660
theorem Zzu{r m:Int}(h0:0≤r)(h1:r≤7)(h2:0≤m):0≤r*m∧r*m≤7*m:=⟨Int.mul_nonneg h0 h2,Int.mul_le_mul_of_nonneg_right h1 h2⟩
theorem ZsE{r:Int}{n:Nat}(h0:0≤r)(h1:r≤7)(h2:n≤16):660≤cost r n∧cost r n≤2032:=by
 have:=Zzu (m:=68+8*(n:Int)) h0 h1 (by omega);unfold cost;omega
theorem ZMG{r:Int}{n:Nat}(h0:0≤r)(h1:r≤7)(h2:n≤16):VS fuel r (n:Int)=some (r*(68+8*(n:Int))):=by
 have:=Zzu (m:=68+8*(n:Int)) h0 h1 (by omega);unfold VS;rw[rin h0 (by omega),yb,if_neg (by decide)];unfold Qq;rw[rin (by omega) (by omega),yb,if_neg (by decide),yb,ZN (z:=4+(n:Int)) (by omega) (by omega),ZN (z:=(4+(n:Int))*8) (by omega) (by omega),ZN (z:=36+(4+(n:Int))*8) (by omega) (by omega),show 36+(4+(n:Int))*8=68+8*(n:Int) by omega,ZN (by omega) (by omega)]
theorem ZMH{A:Int}{s:State}{h0 h1:Int}(h:StIn A s h0 h1)(ch:ZH):YL fuel ch s=some (cost s.2.2.2 s.2.2.1.length):=by
 have:=ZsE h.r0 h.r1 h.len;unfold YL;unfold cost at*;rw[ZMG h.r0 h.r1 h.len,yb,ZN (by omega) (by omega)]
theorem ZLM{A:Int}{s:State}{h0 h1:Int}(h:StIn A s h0 h1)(hA:A≤4300000000):WS fuel s=some A:=by
 obtain⟨no,hv,l,r⟩:=s;obtain⟨_,_,hh,p0,p1,_,_,hl,hc,_,ht⟩:=h;dsimp only at hh hl hc ht;subst hh;unfold WS;show ybr (some h0) _=_;rw[yb];show ybr (some h1) _=_;have hb:=λk=>Zvi hc k;have hb':=ZlV hc
 rw[yb,ZN (z:=h0+h1) (by omega) (by omega),show(h0+h1,(0:Int),(no,[h0,h1],l,r))=(λk:Nat=>(h0+h1+amtC (l.take k),(k:Int),(no,[h0,h1],l,r))) 0 by simp[amtC],
  Y3 (x:=(A,(no,[h0,h1],l,r))) l.length (λk:Nat=>(h0+h1+amtC (l.take k),(k:Int),(no,[h0,h1],l,r))) ?_ ?_ (by omega),yb]
 ·intro k hk;obtain⟨e,he,hm⟩:=Zt hk;have h1:=hb k;have h2:=hb (k+1);have h3:=Zxh he;unfold XW;dsimp only;rw[if_pos (YK hk),ZG he,yb,ZN (by omega) (by omega),ZK (by omega),h3,Int.add_assoc]
 ·unfold XW;dsimp only;rw[if_neg (by rw[Yd];decide),ybt,ht]
theorem ZMI{A:Int}{s:State}{h0 h1:Int}(h:StIn A s h0 h1){to:Int}(ht:to=0∨to=1):∃n m,Xq fuel s to=some (n,m)∧0≤n∧n≤16∧0≤m∧m≤2000000:=by
 obtain⟨no,hv,l,r⟩:=s;have hl:=h.len;have hc:=h.cs;dsimp only at hl hc;unfold Xq
 obtain⟨x,g1,n,m,rfl,g2⟩:=Yq (step:=Yy fuel) l.length (λk q=>∃n m,q=(to,n,m,(k:Int),(no,hv,l,r))∧0≤n∧n≤(k:Int)∧0≤m∧m≤65536*(k:Int)) (λx=>∃n m,x=(n,m,(no,hv,l,r))∧0≤n∧n≤16∧0≤m∧m≤2000000) (i:=(to,(0:Int),(0:Int),(0:Int),(no,hv,l,r))) ⟨0,0,rfl,by omega⟩ (by omega) (by
  rintro k _ hk ⟨n,m,rfl,q⟩;left;obtain⟨e,he,hm⟩:=Zt hk;have h4:=(hc e hm).2.2.2.1;have h5:=(hc e hm).2.2.2.2.1;unfold Yy;dsimp only;rw[if_pos (YK hk),ZG he,yb,ZK (by omega)];split
  ·rw[yb,ZN (z:=n+1) (by omega) (by omega),ZN (z:=m+e.2.2.1) (by omega) (by omega)];exact⟨_,rfl,_,_,rfl,by omega⟩
  ·exact⟨_,rfl,_,_,rfl,by omega⟩) (by
  rintro _ ⟨n,m,rfl,q⟩;unfold Yy;dsimp only;rw[if_neg (by rw[Yd];decide)];exact⟨_,rfl,_,_,rfl,by omega⟩)
 rw[g1,yb];exact⟨_,_,rfl,g2⟩
def hav(op h0 h1:Int):Int:=if op=0 then h0 else h1
theorem ZDd{i:Int}(h:i=0∨i=1):∃d,([Tm 5,Tm 6]:List QP)[(wi (1 - i)).toNat]? =some (Tm d):=by
 rcases h with rfl|rfl
 ·exact⟨6,rfl⟩
 ·exact⟨5,rfl⟩
theorem ZpF{i:Int}(h:i=0∨i=1):inB (wi (1 - i)) 2=true:=by
 rcases h with rfl|rfl <;> rfl
theorem XF{i:Int}(h:i=0∨i=1):inB i 2=true:=by
 rcases h with rfl|rfl <;> rfl
theorem Zcn{op h0 h1:Int}(h:op=0∨op=1):([h0,h1]:List Int)[op.toNat]? =some (hav op h0 h1):=by
 rcases h with rfl|rfl <;> rfl
theorem Zxi{A:Int}{k0 k1:Kit}{op:Int}(h:ChOk A k0 k1 op){s:State}{h0 h1:Int}(hs:StIn A s h0 h1):Xg fuel (YM A k0 k1 op) s=some (decide (hav op h0 h1 ≥ cost s.2.2.2 s.2.2.1.length)):=by
 have hT:(YM A k0 k1 op).2.2.2.1=[Tm 5,Tm 6]:=rfl;have hA:(YM A k0 k1 op).2.1=A:=rfl;have hO:(YM A k0 k1 op).2.2.2.2=op:=rfl;have hlo:=h.lo;have hhi:=h.hi;have hco:=ZMH hs (YM A k0 k1 op);have hto:=ZLM hs h.hi;have hof:=λto ht=>ZMI hs (to:=to) ht;have hb:=ZlV hs.cs;unfold Xg;rw[ZMX h,yb,if_neg (by decide)];generalize hc:YM A k0 k1 op=c at*;obtain⟨no,hv,l,r⟩:=s;obtain⟨n0,n1,hh,p0,p1,r0,r1,hl,hcs,hsr,ht⟩:=hs;dsimp only at n0 n1 hh p0 p1 r0 r1 hl hcs hsr ht hb;subst hh;dsimp only;rw[ZBx n0 (by omega),yb,if_neg (by decide)];show ybr (some h0) _=_;rw[yb,ZBx p0 (by omega),yb,if_neg (by decide)];show ybr (some h1) _=_;rw[yb,ZBx p1 (by omega),yb,if_neg (by decide),ZBx r0 (by omega),yb,if_neg (by decide),if_neg (by rw[decide_eq_true_iff];omega)];rw[show((0:Int),c,(no,[h0,h1],l,r))=(λk:Nat=>((k:Int),c,(no,[h0,h1],l,r))) 0 from rfl,Y3 (x:=.inr (c,(no,[h0,h1],l,r))) l.length (λk:Nat=>((k:Int),c,(no,[h0,h1],l,r))) ?_ ?_ (by omega),yb]
 ·dsimp only;rw[show((0:Int),c,(no,[h0,h1],l,r))=(λk:Nat=>((k:Int),c,(no,[h0,h1],l,r))) 0 from rfl,Y3 (x:=.inr (c,(no,[h0,h1],l,r))) 2 (λk:Nat=>((k:Int),c,(no,[h0,h1],l,r))) ?_ ?_ (by omega),yb]
  ·dsimp only;rw[hto,yb,hA,if_pos (beq_self_eq_true _),hO,if_pos (XF h.o),Zcn h.o,yb,hco,yb]
  ·intro k hk;obtain⟨n,m,e1,e2,e3,e4,e5⟩:=hof (k:Int) (by omega)
   have ht:∃d,c.2.2.2.1[k]? =some (Tm d):=by
    rw[hT]
    match k,hk with
    |0,_=>exact⟨_,rfl⟩
    |1,_=>exact⟨_,rfl⟩
   obtain⟨d,hd⟩:=ht;unfold XY;dsimp only;rw[if_pos (decide_eq_true (by omega)),e1,yb,if_pos (Wb (by omega) (by omega)),ycb,hd,yb,yb,ZK (by omega)];rw[if_neg (by rw[decide_eq_true_iff];show¬n > 16;omega),if_pos (Wb (by omega) (by omega)),if_neg (by rw[decide_eq_true_iff];show¬m > 1125899906842624;omega)]
  ·unfold XY;dsimp only;rw[if_neg (by rw[decide_eq_true_iff];omega)]
 ·intro k hk;obtain⟨e,he,hm⟩:=Zt hk;obtain⟨d,hd⟩:=ZDd (hcs e hm).1;have h4:=(hcs e hm).2.2.2.1;have hlt:¬(e.2.2.1 < (Tm d).2.2.2.2.1):=by show¬(e.2.2.1 < 1);omega
  unfold XX;dsimp only;rw[if_pos (YK hk),ZG he,yb,ZKm (hcs e hm),yb,if_neg (by decide)]
  have tail:((some e).bind λe169=>(some e).bind λe170=>if(inB (wi (1 - e170.1)) 2)=true then(c.2.2.2.1[(wi (1 - e170.1)).toNat]?).bind λe171=>if(decide (e169.2.2.1 < e171.2.2.2.2.1))=true then some (.inr (.inl (false,c,(no,[h0,h1],l,r)))) else some (.inl (wi ((k:Int)+1),c,(no,[h0,h1],l,r))) else none)=some (.inl (((k+1:Nat):Int),c,(no,[h0,h1],l,r)):(Int×ZH×State)⊕((Bool×ZH×State)⊕(ZH×State))):=by
   rw[yb,yb,if_pos (ZpF (hcs e hm).1),hT,hd,yb,if_neg (by rw[decide_eq_true_iff];exact hlt),ZK (by omega)]
  by_cases h0:k=0
  ·subst h0;rw[if_neg (by rw[decide_eq_true_iff];omega)];exact tail
  ·obtain⟨f,hf,hfm⟩:=Zt (l:=l) (k:=k - 1) (by omega)
   have hah:Ahd f e:=by
    have h7:=List.pairwise_iff_getElem.1 hsr (k - 1) k (by omega) hk (by omega);rw[yac (by omega)] at hf he;cases hf;cases he;exact h7
   rw[if_pos (decide_eq_true (by omega)),ZN (z:=(k:Int) - 1) (by omega) (by omega),show(k:Int) - 1=((k - 1:Nat):Int) by omega,ZG hf,yb,yb,Zxg,yb,decide_eq_true hah,if_neg (by decide)];exact tail
 ·unfold XX;dsimp only;rw[if_neg (by rw[Yd];decide)]
theorem Zxj{lo hi:Int}{l:List Int}(hl:l.length≤100)(h:∀x,x∈l→lo≤x∧x≤hi):Yt fuel lo hi l=some true:=by
 unfold Yt XM Wp;rw[show(l,(l.length:Int),(0:Int),lo,hi)=(λk:Nat=>(l,(l.length:Int),(k:Int),lo,hi)) 0 from rfl,Y3 (x:=.inr (lo,hi)) l.length (λk:Nat=>(l,(l.length:Int),(k:Int),lo,hi)) ?_ ?_ (by omega),yb]
 ·rfl
 ·intro k hk;obtain⟨e,he,hm⟩:=Zt hk;have:=h e hm;unfold Yz Zdd;dsimp only;rw[if_pos (YK hk),ZG he,yb,if_neg (by rw[decide_eq_true_iff];omega),yb,decide_eq_false (by omega),if_neg (by simp),ZK (by omega)]
 ·unfold Yz;dsimp only;rw[if_neg (by rw[Yd];decide)]
theorem w1{lo hi z:Int}(h1:lo≤z)(h2:z≤hi):Yt fuel lo hi [z]=some true:=Zxj (by simp) λx hx=>by rw[yay.1 hx];exact⟨h1,h2⟩
theorem tin{z a b:Int}(h1:a≤z)(h2:z≤b):Y8 fuel z a b=some true:=by
 unfold Y8;rw[if_pos (decide_eq_true h1),decide_eq_true h2]
theorem ZIu{d:Int}(h1:1≤d)(h2:d≤4096):Zd8 fuel (Tm d)=some true:=by
 unfold Zd8 Tm;dsimp only;rw[tin (by omega) (by omega),yb,if_pos rfl,tin h1 h2,yb,if_pos rfl,tin (by omega) (by omega),yb,if_pos rfl,tin (by omega) (by omega),yb,if_pos rfl,tin (by omega) (by omega),yb,if_pos rfl,tin (by omega) (by omega)];rfl
theorem ZEu{k:Kit}(h:KitOk k):Zcd fuel (Z4 k)=some true:=by
 unfold Zcd ZgC ZaQ;have hb:=ZnT h;generalize hl:([(Z4 k).1,(Z4 k).2.1,(Z4 k).2.2.1,(Z4 k).2.2.2.1,(Z4 k).2.2.2.2]:List UInt64)=l at*;have h5:l.length=5:=by rw[←hl];rfl
 rw[show(l,(l.length:Int),(0:Int))=(λk:Nat=>(l,(l.length:Int),(k:Int))) 0 from rfl,Y3 (x:=.inr ()) l.length (λk:Nat=>(l,(l.length:Int),(k:Int))) ?_ ?_ (by omega),yb]
 ·rfl
 ·intro k hk;obtain⟨e,he,hm⟩:=Zt hk;obtain⟨x,hx,rfl⟩:=hb e hm;unfold Wx Zdc;dsimp only;rw[if_pos (YK hk),ZG he,yb,if_neg (by rw[beq_iff_eq];exact ZIs hx),ZpD,yb,decide_eq_true (ZLI _),yb,ZK (by omega)];rfl
 ·unfold Wx;dsimp only;rw[if_neg (by rw[Yd];decide)]
theorem ZMY{A:Int}{k0 k1:Kit}{op:Int}(h:ChOk A k0 k1 op):Zig fuel (YM A k0 k1 op)=some 0:=by
 obtain⟨h1,h2,h3,h4,h5⟩:=h;have hA:(YM A k0 k1 op).2.1=A:=rfl;have hN:(YM A k0 k1 op).1.2=0:=rfl;have hO:(YM A k0 k1 op).2.2.2.2=op:=rfl;have hT:(YM A k0 k1 op).2.2.2.1=[Tm 5,Tm 6]:=rfl;have hB:(YM A k0 k1 op).2.2.1=[Z4 k0,Z4 k1]:=rfl;unfold Zig;rw[hA,hN,hO,if_neg (by rw[decide_eq_true_iff];omega),if_neg (by rw[decide_eq_true_iff];omega),if_neg (by decide),if_neg (by decide),if_neg (by rcases h3 with rfl|rfl <;> decide)];generalize hc:YM A k0 k1 op=c at*;rw[hT,show(([Tm 5,Tm 6]:List QP),(0:Int),c)=(λk:Nat=>(([Tm 5,Tm 6]:List QP),(k:Int),c)) 0 from rfl,Y3 (x:=.inr c) 2 (λk:Nat=>(([Tm 5,Tm 6]:List QP),(k:Int),c)) ?_ ?_ (by omega),yb]
 ·dsimp only;rw[hT];rw[show([Tm 5,Tm 6]:List QP)[0]? =some (Tm 5) from rfl,yb,show([Tm 5,Tm 6]:List QP)[1]? =some (Tm 6) from rfl,yb]
  show(ybr (Zhl fuel 200 200) _)=some 0;rw[ZJU (by omega) (by omega) (by omega),yb,if_neg (by decide),hA,if_neg (by rw[decide_eq_true_iff];show¬(200+200 > A);omega)]
 ·intro k hk;unfold Zce;dsimp only;rw[if_pos (decide_eq_true (by omega)),hB]
  match k,hk with
  |0,_=>
   rw[Zib (i:=((0:Nat):Int)) (y:=Tm 5) (by omega) rfl,yb,ZIu (by omega) (by omega),yb,if_neg (by decide),if_pos (by decide)];show(ybr (some (Z4 k0)) _)=_;rw[yb,ZEu h4,yb,if_neg (by decide)]
   rfl
  |1,_=>
   rw[Zib (i:=((1:Nat):Int)) (y:=Tm 6) (by omega) rfl,yb,ZIu (by omega) (by omega),yb,if_neg (by decide),if_pos (by decide)];show(ybr (some (Z4 k1)) _)=_;rw[yb,ZEu h5,yb,if_neg (by decide)];rfl
 ·unfold Zce;dsimp only;rw[if_neg (by rw[decide_eq_true_iff];omega)]
theorem ZMJ{c:ZL}(h:CondIn c):Zf9 fuel c=some true:=by
 obtain⟨h1,h2,h3,h4,h5,h6,h7,h8,h9⟩:=h;unfold Zf9;rw[w1 (by omega) (by omega),yb,if_pos rfl,w1 h2 h3,yb,if_pos rfl,w1 h4 (by omega),yb,if_pos rfl,w1 h8 (by omega),yb,if_pos rfl,ZpD,yb,if_pos (decide_eq_true h6)];exact congrArg some (bne_iff_ne.2 h7)
theorem Zvj(a b:Int):WZ fuel a b=some (if a < b then-1 else if a > b then 1 else 0):=by
 unfold WZ ZaR;rw[yb,yb];have e:∀z:Int,(z !=z)=false:=λz=>by simp
 rw[e,e,if_neg (by decide),if_neg (by decide)];by_cases h1:a < b
 ·rw[if_pos (decide_eq_true h1),if_pos h1]
 ·rw[if_neg (by rw[decide_eq_true_iff];exact h1),if_neg h1];by_cases h2:a > b
  ·rw[if_pos (decide_eq_true h2),if_pos h2]
  ·rw[if_neg (by rw[decide_eq_true_iff];exact h2),if_neg h2]
def orL:List Int→Int
 |[]=>0
 |z::r=>if z≠0 then z else orL r
theorem ZMK{l:List Int}(hl:l.length≤100):Zga fuel l=some (orL l):=by
 have key:∀(d k f:Nat),k+d=l.length→d < f→∃x,Zc (WY fuel) f ((0:Int),l,(l.length:Int),(k:Int))=some x∧(x=.inl (orL (l.drop k))∨x=.inr 0∧orL (l.drop k)=0):=by
  intro d
  induction d with
  |zero=>
   intro k f h hf;obtain⟨f,rfl⟩:=Nat.exists_eq_succ_of_ne_zero (n:=f) (by omega);have:k=l.length:=by omega
   subst this;unfold Zc WY;dsimp only;rw[if_neg (by rw[Yd];decide),yb]
   exact⟨_,rfl,.inr ⟨rfl,by rw[List.drop_length];rfl⟩⟩
  |succ d ih=>
   intro k f h hf;obtain⟨f,rfl⟩:=Nat.exists_eq_succ_of_ne_zero (n:=f) (by omega);have hk:k < l.length:=by omega
   obtain⟨e,he,hm⟩:=Zt hk
   have hd:l.drop k=e::l.drop (k+1):=by
    rw[List.drop_eq_getElem_cons hk];rw[yac hk] at he;cases he;rfl
   rw[hd];unfold Zc WY;dsimp only;rw[if_pos (YK hk),ZG he,yb];by_cases h0:e=0
   ·subst h0;rw[if_neg (by decide),yb,ZK (by omega)];exact ih (k+1) f (by omega) (by omega)
   ·rw[if_pos (bne_iff_ne.2 h0),yb];exact⟨_,rfl,.inl (by unfold orL;rw[if_pos h0])⟩
 unfold Zga;obtain⟨x,h1,h2⟩:=key l.length 0 fuel (by omega) (by rw[Zd5];omega);rw[List.drop_zero] at h2;show ybr (Zc (WY fuel) fuel ((0:Int),l,(l.length:Int),((0:Nat):Int))) _=_;rw[h1,yb];rcases h2 with rfl|⟨rfl,h2⟩
 ·rfl
 ·rw[h2]
theorem ZLN{a b:ZL}(h:Ahd a b):∃z,Zeb fuel a b=some z∧z < 0:=by
 unfold Zeb;rw[Zvj,yb,Zvj,yb,ZMK (by simp),yb];refine⟨_,rfl, ?_⟩;unfold Ahd at h;have e2:∀x y:Int,orL [x,y]=if x≠0 then x else if y≠0 then y else 0:=λ_ _=>rfl
 rw[e2];by_cases h1:a.1 < b.1
 ·rw[if_pos h1,if_pos (by decide)];decide
 ·have e:a.1=b.1:=by omega
  rw[if_neg h1,if_neg (show¬a.1 > b.1 by omega),if_neg (by decide),if_pos (show a.2.1 < b.2.1 by omega)];decide
theorem ZMZ{r:Int}{n:Nat}(h0:0≤r)(h1:r≤7)(h2:n≤16):Zih fuel r (n:Int)=some (r*(68+8*(n:Int))):=by
 have:=Zzu (m:=68+8*(n:Int)) h0 h1 (by omega);unfold Zih;rw[if_neg (by rw[decide_eq_true_iff];omega),if_neg (by rw[decide_eq_true_iff];omega)];unfold ZgD;rw[if_neg (by rw[decide_eq_true_iff];omega),if_neg (by rw[decide_eq_true_iff];omega),yb,ZN (z:=8*(n:Int)) (by omega) (by omega),ZN (z:=68+8*(n:Int)) (by omega) (by omega),ZN (by omega) (by omega)]
theorem ZML{A:Int}{s:State}{h0 h1:Int}(h:StIn A s h0 h1)(ch:ZH):Zgc fuel ch s=some (cost s.2.2.2 s.2.2.1.length):=by
 have:=ZsE h.r0 h.r1 h.len;unfold Zgc;unfold cost at*;rw[ZMZ h.r0 h.r1 h.len,yb,ZN (by omega) (by omega)]
theorem ZLO{A:Int}{s:State}{h0 h1:Int}(h:StIn A s h0 h1)(hA:A≤4300000000):Zec fuel s=some A:=by
 obtain⟨no,hv,l,r⟩:=s;obtain⟨_,_,hh,p0,p1,_,_,hl,hc,_,ht⟩:=h;dsimp only at hh hl hc ht;subst hh;unfold Zec;show ybr (some h0) _=_;rw[yb];show ybr (some h1) _=_;have hb:=λk=>Zvi hc k;have hb':=ZlV hc;dsimp only
 rw[yb,ZN (z:=h0+h1) (by omega) (by omega),show(h0+h1,l,(l.length:Int),(0:Int),(no,[h0,h1],l,r))=(λk:Nat=>(h0+h1+amtC (l.take k),l,(l.length:Int),(k:Int),(no,[h0,h1],l,r))) 0 by simp[amtC],
  Y3 (x:=(A,(no,[h0,h1],l,r))) l.length (λk:Nat=>(h0+h1+amtC (l.take k),l,(l.length:Int),(k:Int),(no,[h0,h1],l,r))) ?_ ?_ (by omega),yb]
 ·intro k hk;obtain⟨e,he,hm⟩:=Zt hk;have h1:=hb k;have h2:=hb (k+1);have h3:=Zxh he;unfold QY;dsimp only;rw[if_pos (YK hk),ZG he,yb,ZN (by omega) (by omega),ZK (by omega),h3,Int.add_assoc]
 ·unfold QY;dsimp only;rw[if_neg (by rw[Yd];decide),ybt,ht]
theorem ZM0{A:Int}{s:State}{h0 h1:Int}(h:StIn A s h0 h1){to:Int}(ht:to=0∨to=1):∃n m,ZaS fuel s to=some (n,m)∧0≤n∧n≤16∧0≤m∧m≤2000000:=by
 obtain⟨no,hv,l,r⟩:=s;have hl:=h.len;have hc:=h.cs;dsimp only at hl hc;unfold ZaS;dsimp only
 obtain⟨x,g1,n,m,rfl,g2⟩:=Yq (step:=Wy fuel) l.length (λk q=>∃n m,q=(to,n,m,l,(l.length:Int),(k:Int),(no,hv,l,r))∧0≤n∧n≤(k:Int)∧0≤m∧m≤65536*(k:Int)) (λx=>∃n m,x=(n,m,(no,hv,l,r))∧0≤n∧n≤16∧0≤m∧m≤2000000) (i:=(to,(0:Int),(0:Int),l,(l.length:Int),(0:Int),(no,hv,l,r))) ⟨0,0,rfl,by omega⟩ (by omega) (by
  rintro k _ hk ⟨n,m,rfl,q⟩;left;obtain⟨e,he,hm⟩:=Zt hk;have h4:=(hc e hm).2.2.2.1;have h5:=(hc e hm).2.2.2.2.1;unfold Wy;dsimp only;rw[if_pos (YK hk),ZG he,yb,ZK (by omega)];split
  ·rw[ZN (z:=n+1) (by omega) (by omega),ZN (z:=m+e.2.2.1) (by omega) (by omega)];exact⟨_,rfl,_,_,rfl,by omega⟩
  ·exact⟨_,rfl,_,_,rfl,by omega⟩) (by
  rintro _ ⟨n,m,rfl,q⟩;unfold Wy;dsimp only;rw[if_neg (by rw[Yd];decide)];exact⟨_,rfl,_,_,rfl,by omega⟩)
 rw[g1,yb];exact⟨_,_,rfl,g2⟩
theorem ZLP{A:Int}{k0 k1:Kit}{op:Int}(h:ChOk A k0 k1 op){s:State}{h0 h1:Int}(hs:StIn A s h0 h1):Zed fuel (YM A k0 k1 op) s=some (decide (hav op h0 h1 ≥ cost s.2.2.2 s.2.2.1.length)):=by
 have hT:(YM A k0 k1 op).2.2.2.1=[Tm 5,Tm 6]:=rfl;have hA:(YM A k0 k1 op).2.1=A:=rfl;have hO:(YM A k0 k1 op).2.2.2.2=op:=rfl;have hlo:=h.lo;have hhi:=h.hi;have hco:=ZML hs (YM A k0 k1 op);have hto:=ZLO hs h.hi;have hof:=λto ht=>ZM0 hs (to:=to) ht;have hb:=ZlV hs.cs;unfold Zed;rw[ZMY h,yb,if_neg (by decide)];generalize hc:YM A k0 k1 op=c at*;obtain⟨no,hv,l,r⟩:=s;obtain⟨n0,n1,hh,p0,p1,r0,r1,hl,hcs,hsr,ht⟩:=hs;dsimp only at n0 n1 hh p0 p1 r0 r1 hl hcs hsr ht hb;subst hh;dsimp only;rw[w1 n0 (by omega),yb,if_neg (by decide)];show ybr (some h0) _=_;rw[yb];show ybr (some h1) _=_
 rw[yb,Zxj (l:=[h0,h1]) (by simp) (by
  intro x hx;simp only[ybz,List.not_mem_nil,or_false] at hx;rcases hx with rfl|rfl <;> omega),yb,if_neg (by decide),w1 r0 (by omega),yb,if_neg (by decide),if_neg (by rw[decide_eq_true_iff];omega)]
 rw[show(l,(l.length:Int),(0:Int),c,(no,[h0,h1],l,r))=(λk:Nat=>(l,(l.length:Int),(k:Int),c,(no,[h0,h1],l,r))) 0 from rfl,Y3 (x:=.inr (c,(no,[h0,h1],l,r))) l.length (λk:Nat=>(l,(l.length:Int),(k:Int),c,(no,[h0,h1],l,r))) ?_ ?_ (by omega),yb]
 ·dsimp only;rw[show(c.2.2.2.1,(0:Int),c,(no,[h0,h1],l,r))=(λk:Nat=>(c.2.2.2.1,(k:Int),c,(no,[h0,h1],l,r))) 0 from rfl,Y3 (x:=.inr (c,(no,[h0,h1],l,r))) 2 (λk:Nat=>(c.2.2.2.1,(k:Int),c,(no,[h0,h1],l,r))) ?_ ?_ (by omega),yb]
  ·dsimp only;rw[hto,yb,hA,if_pos (beq_self_eq_true _),hO,if_pos (XF h.o),Zcn h.o,yb,hco,yb]
  ·intro k hk;obtain⟨n,m,e1,e2,e3,e4,e5⟩:=hof (k:Int) (by omega)
   have ht:∃d,c.2.2.2.1[k]? =some (Tm d):=by
    rw[hT]
    match k,hk with
    |0,_=>exact⟨_,rfl⟩
    |1,_=>exact⟨_,rfl⟩
   obtain⟨d,hd⟩:=ht;unfold Q0;dsimp only;rw[if_pos (decide_eq_true (by omega)),ZG hd,yb,e1,yb,ZK (by omega)];rw[if_neg (by rw[decide_eq_true_iff];show¬n > 16;omega),if_neg (by rw[decide_eq_true_iff];show¬m > 1125899906842624;omega)]
  ·unfold Q0;dsimp only;rw[if_neg (by rw[decide_eq_true_iff];omega)]
 ·intro k hk;obtain⟨e,he,hm⟩:=Zt hk;obtain⟨d,hd⟩:=ZDd (hcs e hm).1;have h4:=(hcs e hm).2.2.2.1;have hlt:¬(e.2.2.1 < (Tm d).2.2.2.2.1):=by show¬(e.2.2.1 < 1);omega
  unfold QZ;dsimp only;rw[if_pos (YK hk),ZG he,yb,ZMJ (hcs e hm),yb,if_neg (by decide),if_pos (ZpF (hcs e hm).1),hT,hd,yb,if_neg (by rw[decide_eq_true_iff];exact hlt),ZK (by omega)];by_cases h0:k=0
  ·subst h0;rw[if_neg (by rw[decide_eq_true_iff];omega)]
  ·obtain⟨f,hf,hfm⟩:=Zt (l:=l) (k:=k - 1) (by omega)
   have hah:Ahd f e:=by
    have h7:=List.pairwise_iff_getElem.1 hsr (k - 1) k (by omega) hk (by omega);rw[yac (by omega)] at hf he;cases hf;cases he;exact h7
   obtain⟨z,hz,hz0⟩:=ZLN hah;rw[if_pos (decide_eq_true (by omega)),ZN (z:=(k:Int) - 1) (by omega) (by omega),show(k:Int) - 1=((k - 1:Nat):Int) by omega,ZG hf,yb,hz,yb,if_neg (by rw[decide_eq_true_iff];omega)]
 ·unfold QZ;dsimp only;rw[if_neg (by rw[Yd];decide)]
theorem Zg0{α:Type}{c:Prop}[Decidable c]{a b:Option α}{P:α→Prop}(h1:c→∃x,a=some x∧P x)(h2:¬c→∃x,b=some x∧P x):∃x,(if c then a else b)=some x∧P x:=by
 by_cases h:c
 ·rw[if_pos h];exact h1 h
 ·rw[if_neg h];exact h2 h
def ins(c:ZL):List ZL→List ZL
 |[]=>[c]
 |e::r=>if Ahd c e then c::e::r else e::ins c r
theorem ZsF{c x:ZL}:∀{l:List ZL},x∈ins c l↔x=c∨x∈l
 |[]=>by simp[ins]
 |e::r=>by
  rw[ins];split
  ·simp
  ·rw[ybz,ZsF (l:=r),ybz];constructor
   ·rintro(h|h|h) <;> simp[h]
   ·rintro(h|h|h) <;> simp[h]
theorem ZsG{c:ZL}:∀{l:List ZL},(ins c l).length=l.length+1
 |[]=>rfl
 |e::r=>by
  rw[ins];split
  ·rfl
  ·rw[yad,ZsG (l:=r),yad]
theorem Zxk(c:ZL)(l:List ZL):amtC (c::l)=c.2.2.1+amtC l:=rfl
theorem ZEv{c:ZL}:∀{l:List ZL},amtC (ins c l)=c.2.2.1+amtC l
 |[]=>rfl
 |e::r=>by
  rw[ins];split
  ·rfl
  ·rw[Zxk,ZEv (l:=r),Zxk];omega
theorem ZEw{c:ZL}:∀{l:List ZL},l.Pairwise Ahd→(∀e,e∈l→c.2.1≠e.2.1)→(ins c l).Pairwise Ahd
 |[],_,_=>by simp[ins]
 |e::r,h,hd=>by
  obtain⟨h1,h2⟩:=List.pairwise_cons.1 h;rw[ins];split
  ·rename_i ha;refine List.pairwise_cons.2 ⟨?_,h⟩;intro x hx;rcases ybz.1 hx with rfl|hx
   ·exact ha
   ·exact ZFV ha (h1 x hx)
  ·rename_i ha;refine List.pairwise_cons.2 ⟨?_,ZEw h2 λx hx=>hd x (yau _ hx)⟩;intro x hx;rcases ZsF.1 hx with rfl|hx
   ·exact ZLL (hd e (yat ..)) ha
   ·exact h1 x hx
theorem ZMM{s:State}{h0 h1:Int}(hv:s.2.1=[h0,h1])(hl:s.2.2.1.length≤16){c:ZL}(hc:CondIn c):Vp fuel s c=some (s.1,([h0,h1]:List Int).set c.1.toNat (wi (hav c.1 h0 h1 - c.2.2.1)),ins c s.2.2.1,s.2.2.2):=by
 obtain⟨no,hh,l,r⟩:=s;dsimp only at hv hl;subst hv;unfold Vp;dsimp only
 obtain⟨x,g1,d,o,rfl,g2,g3,g4⟩:=Yq (step:=Xr fuel) l.length (λk q=>∃d o,q=(d,(k:Int),(no,[h0,h1],l,r),c,((0:Int),([0,0]:List Int),([]:List ZL),(0:Int)),no,[h0,h1],r,o)∧o.length≤2*k∧(d=true→ins c l=o++l.drop k)∧(d=false→ins c l=o++ins c (l.drop k)))
  (λx=>∃d o,x=(d,(no,[h0,h1],l,r),c,((0:Int),([0,0]:List Int),([]:List ZL),(0:Int)),no,[h0,h1],r,o)∧o.length≤40∧(d=true→ins c l=o)∧(d=false→ins c l=o++[c]))
  (i:=(false,(0:Int),(no,[h0,h1],l,r),c,((0:Int),([0,0]:List Int),([]:List ZL),(0:Int)),no,[h0,h1],r,([]:List ZL))) ⟨_,_,rfl,by simp,(λh=>by cases h),λ_=>rfl⟩ (by omega) (by
  rintro k _ hk ⟨d,o,rfl,q1,q2,q3⟩;left;obtain⟨e,he,hm⟩:=Zt hk
  have hd:l.drop k=e::l.drop (k+1):=by
   rw[List.drop_eq_getElem_cons hk];rw[yac hk] at he;cases he;rfl
  rw[hd] at q2 q3;unfold Xr;dsimp only;rw[if_pos (YK hk),ZG he,yb,ZK (by omega),Zxg]
  cases d with
  |false=>
   rw[if_pos (by decide),yb];have q3:=q3 rfl;rw[ins] at q3;by_cases ha:Ahd c e
   ·rw[if_pos (decide_eq_true ha),if_pos (Ys (by omega) (by omega)),yb,if_pos (Ys (by simp;omega) (by simp;omega))];rw[if_pos ha] at q3;exact⟨_,rfl,_,_,rfl,by simp;omega,(λ_=>by rw[q3];simp),λh=>by cases h⟩
   ·rw[if_neg (by rw[decide_eq_true_iff];exact ha),yb,if_pos (Ys (by omega) (by omega))];rw[if_neg ha] at q3
    exact⟨_,rfl,_,_,rfl,by simp;omega,λh=>(by cases h),λ_=>by rw[q3];simp⟩
  |true=>
   have q2:=q2 rfl;rw[if_neg (by decide),yb,if_pos (Ys (by omega) (by omega))];exact⟨_,rfl,_,_,rfl,by simp;omega,(λ_=>by rw[q2];simp),λh=>by cases h⟩) (by
  rintro _ ⟨d,o,rfl,q1,q2,q3⟩;rw[List.drop_length] at q2 q3;unfold Xr;dsimp only;rw[if_neg (by rw[Yd];decide)];exact⟨_,rfl,_,_,rfl,by omega,(λh=>by rw[q2 h,List.append_nil]),λh=>by rw[q3 h];rfl⟩)
 rw[g1,yb];dsimp only
 cases d with
 |true=>
  rw[if_neg (by decide),if_pos (XF hc.1),Zcn hc.1,yb,if_pos (XF hc.1),yb,g3 rfl]
 |false=>
  rw[if_pos (by decide),if_pos (Ys (by omega) (by omega)),if_pos (XF hc.1),Zcn hc.1,yb,if_pos (XF hc.1),yb,g4 rfl]
theorem ZLQ{s:State}(hl:s.2.2.1.length≤16)(f i:Int):∃z,WT fuel s f i=some z:=by
 obtain⟨no,hh,l,r⟩:=s;dsimp only at hl;unfold WT
 obtain⟨x,g1,_⟩:=Yq (step:=Xe fuel) l.length (λk q=>q=(f,i,(k:Int),(no,hh,l,r))) (λ_=>True) (i:=(f,i,(0:Int),(no,hh,l,r))) rfl (by omega) (by
  rintro k _ hk rfl;obtain⟨e,he,hm⟩:=Zt hk;unfold Xe;dsimp only;rw[if_pos (YK hk),ZG he,yb,yb,ZK (by omega)];split
  ·split
   ·right;exact⟨_,rfl,trivial⟩
   ·left;exact⟨_,rfl,rfl⟩
  ·left;exact⟨_,rfl,rfl⟩) (by
  rintro _ rfl;unfold Xe;dsimp only;rw[if_neg (by rw[Yd];decide)];exact⟨_,rfl,trivial⟩)
 rw[g1,yb];cases x <;> exact⟨_,rfl⟩
structure StOk(A op:Int)(s:State):Prop where
 ex:∃h0 h1,StIn A s h0 h1∧hav op h0 h1 ≥ cost s.2.2.2 s.2.2.1.length
theorem ZM1{A:Int}{k0 k1:Kit}{op:Int}(h:ChOk A k0 k1 op){s:State}(hs:StOk A op s){c:ZL}(hc:CondIn c)(hd:∀e,e∈s.2.2.1→c.2.1≠e.2.1):
 ∃x,VU fuel (YM A k0 k1 op) s c=some x∧(x.2=0→StOk A op x.1∧x.1.2.2.1=ins c s.2.2.1∧x.1.1=s.1):=by
 obtain⟨h0,h1,hs,ho⟩:=hs;have hT:(YM A k0 k1 op).2.2.2.1=[Tm 5,Tm 6]:=rfl;have hO:(YM A k0 k1 op).2.2.2.2=op:=rfl;obtain⟨d,hd1⟩:=ZDd hc.1;obtain⟨z,hz⟩:=ZLQ hs.len c.1 c.2.1;obtain⟨n,m,e1,e2,e3,e4,e5⟩:=ZMI hs (to:=wi (1 - c.1)) (by rcases hc.1 with h|h <;> rw[h] <;> decide);have hlo:=h.lo;have hhi:=h.hi;have c4:=hc.2.2.2.1;have c5:=hc.2.2.2.2.1;have hb:=ZlV hs.cs;have hht:=hs.tot;have p0:=hs.p0;have p1:=hs.p1;have hl:=hs.len;unfold VU;rw[Zxi h hs,yb,ZKm hc,yb,decide_eq_true ho,if_neg (by decide),if_neg (by decide),hz,yb];refine Zg0 (λ_=>⟨_,rfl,λh=>absurd h (by decide)⟩) λ_=> ?_;rw[if_pos (ZpF hc.1),hT,hd1,yb,e1,yb];refine Zg0 (λ_=>⟨_,rfl,λh=>absurd h (by decide)⟩) λ_=> ?_;refine Zg0 (λ_=>⟨_,rfl,λh=>absurd h (by decide)⟩) λh16=> ?_
 have h16:s.2.2.1.length≤15:=by
  rw[beq_iff_eq] at h16;omega
 refine Zg0 (λ_=>⟨_,rfl,λh=>absurd h (by decide)⟩) λ_=> ?_;dsimp only;refine Zg0 (λ_=>⟨_,rfl,λh=>absurd h (by decide)⟩) λ_=> ?_
 have hav0:∀i:Int,0≤hav i h0 h1∧hav i h0 h1≤A:=by
  intro i;unfold hav;split <;> omega
 have hwi:wi (hav c.1 h0 h1 - c.2.2.1)=hav c.1 h0 h1 - c.2.2.1:=ZN (by have:=hav0 c.1;omega) (by have:=hav0 c.1;omega);rw[ZMM hs.hv hs.len hc,yb,hwi]
 obtain⟨g0,g1,hg,hg2⟩:∃g0 g1:Int,([h0,h1]:List Int).set c.1.toNat (hav c.1 h0 h1 - c.2.2.1)=[g0,g1]∧(g0+g1=h0+h1 - c.2.2.1∧(hav c.1 g0 g1=hav c.1 h0 h1 - c.2.2.1)∧(c.1=0→g1=h1)∧(c.1=1→g0=h0)):=by
  rcases hc.1 with h|h
  ·rw[h];exact⟨_,_,rfl,by unfold hav;simp;omega⟩
  ·rw[h];exact⟨_,_,rfl,by unfold hav;simp;omega⟩
 rw[hg]
 have hcost:YL fuel (YM A k0 k1 op) (s.1,[g0,g1],ins c s.2.2.1,s.2.2.2)=some (cost s.2.2.2 (ins c s.2.2.1).length):=by
  have:=ZsE (n:=(ins c s.2.2.1).length) hs.r0 hs.r1 (by rw[ZsG];omega);unfold YL;unfold cost at*;dsimp only;rw[ZMG hs.r0 hs.r1 (by show(ins c s.2.2.1).length≤16;rw[ZsG];omega),yb,ZN (by omega) (by omega)]
 rw[hcost,yb,if_pos (XF hc.1),Zcn hc.1,yb];refine Zg0 (λ_=>⟨_,rfl,λh=>absurd h (by decide)⟩) λhneg=> ?_;rw[hO,if_pos (XF h.o),Zcn h.o,yb];refine Zg0 (λ_=>⟨_,rfl,λh=>absurd h (by decide)⟩) λhcst=> ?_;rw[decide_eq_true_iff] at hneg hcst
 have fin:StOk A op (s.1,[g0,g1],ins c s.2.2.1,s.2.2.2):=by
  refine⟨g0,g1,⟨hs.n0,hs.n1,rfl, ?_, ?_,hs.r0,hs.r1,by show(ins c s.2.2.1).length≤16;rw[ZsG];omega, ?_,ZEw hs.srt hd, ?_⟩,by show hav op g0 g1 ≥ cost s.2.2.2 (ins c s.2.2.1).length;omega⟩
  ·rcases hc.1 with h|h
   ·rw[h] at hneg;unfold hav at hneg;simp at hneg;omega
   ·have:=hg2.2.2.2 h;omega
  ·rcases hc.1 with h|h
   ·have:=hg2.2.2.1 h;omega
   ·rw[h] at hneg;unfold hav at hneg;simp at hneg;omega
  ·intro x hx;rcases ZsF.1 hx with rfl|hx
   ·exact hc
   ·exact hs.cs x hx
  ·show g0+g1+amtC (ins c s.2.2.1)=A;rw[ZEv];omega
 rw[if_pos (XF hc.1),yb];exact Zg0 (λ_=>Zg0 (λ_=>⟨_,rfl,λh=>absurd h (by decide)⟩) λ_=>⟨_,rfl,λ_=>⟨fin,rfl,rfl⟩⟩) λ_=>Zg0 (λ_=>⟨_,rfl,λh=>absurd h (by decide)⟩) λ_=>⟨_,rfl,λ_=>⟨fin,rfl,rfl⟩⟩
theorem ZFW(n:UInt64):∃o,Vk fuel n=some o∧o.length=8:=by
 unfold Vk
 obtain⟨x,h1,h2⟩:=Yq (step:=Xm fuel) 8 (λk s=>∃c,s=(n,56 - 8*(k:Int),c)∧c.length=k) (λx=>x.length=8) (i:=(n,(56:Int),([]:List UInt8))) ⟨_,rfl,rfl⟩ (by omega) (by
  rintro k _ hk ⟨c,rfl,hc⟩;left;unfold Xm;dsimp only;rw[if_pos (decide_eq_true (by omega)),if_pos (decide_eq_true (by omega)),if_pos (Ys (by omega) (by omega)),ZN (z:=56 - 8*(k:Int) - 8) (by omega) (by omega)];exact⟨_,rfl,_,by rw[show(56:Int) - 8*(k:Int) - 8=56 - 8*((k+1:Nat):Int) by omega],by simp[hc]⟩) (by
  rintro _ ⟨c,rfl,hc⟩;unfold Xm;dsimp only;rw[if_neg (by rw[decide_eq_true_iff];omega)];exact⟨_,rfl,hc⟩)
 rw[h1,yb];exact⟨_,rfl,h2⟩
theorem ZDe(n:UInt64):∃o,Wl fuel n=some o∧o.length=8:=by
 unfold Wl
 obtain⟨x,h1,h2⟩:=Yq (step:=Yw fuel) 8 (λk s=>∃c,s=(n,56 - 8*(k:Int),c)∧c.2.length=k) (λx=>x.2.length=8) (i:=(n,(56:Int),([]:List UInt8),([]:List UInt8))) ⟨_,rfl,rfl⟩ (by omega) (by
  rintro k _ hk ⟨c,rfl,hc⟩;left;unfold Yw;dsimp only;rw[if_pos (decide_eq_true (by omega)),if_pos (decide_eq_true (by omega)),if_pos (Ys (by omega) (by omega)),ZN (z:=56 - 8*(k:Int) - 8) (by omega) (by omega)];exact⟨_,rfl,_,by rw[show(56:Int) - 8*(k:Int) - 8=56 - 8*((k+1:Nat):Int) by omega],by simp[hc]⟩) (by
  rintro _ ⟨c,rfl,hc⟩;unfold Yw;dsimp only;rw[if_neg (by rw[decide_eq_true_iff];omega)];exact⟨_,rfl,hc⟩)
 rw[h1,yb];exact⟨_,rfl,h2⟩
theorem ZIv{s:ByteArray}{ls:List (List UInt8)}(h1:s.size≤100)(h2:ls.length≤10)(h3:∀l,l∈ls→l.length≤60000):∃o,VP fuel s ls=some o∧o.length=32:=by
 unfold VP;obtain⟨o,p1,p2⟩:=ZDe (w64 (s.size:Int))
 have hsl:s.data.toList.length=s.size:=by
  rw[Array.length_toList];rfl
 rw[p1,yb,if_pos (decide_eq_true (by unfold maxLen;omega)),if_pos (Ys (by rw[hsl,p2];omega) (by rw[hsl,p2];omega))]
 obtain⟨x,g1,b,rfl,g2⟩:=Yq (step:=YT fuel) ls.length (λk q=>∃b,q=(ls,(k:Int),z32,b)∧b.length≤200+60100*k) (λx=>∃b,x=(z32,b)∧b.length≤700000) (i:=(ls,(0:Int),z32,o++s.data.toList)) ⟨_,rfl,by rw[yr,p2,hsl];omega⟩ (by omega) (by
  rintro k _ hk ⟨b,rfl,hb⟩;left;obtain⟨e,he,hm⟩:=Zt hk;have:=h3 e hm;obtain⟨q,q1,q2⟩:=ZFW (w64 (e.length:Int));unfold YT;dsimp only;rw[if_pos (YK hk),ZG he,yb,q1,yb,if_pos (Ys (by omega) (by omega)),yb,if_pos (Ys (by rw[yr];omega) (by rw[yr];omega)),ZK (by omega)];exact⟨_,rfl,_,rfl,by simp only[yr];omega⟩) (by
  rintro _ ⟨b,rfl,hb⟩;unfold YT;dsimp only;rw[if_neg (by rw[Yd];decide)];exact⟨_,rfl,_,rfl,by omega⟩)
 show∃o_1,(ybr (Zc (YT fuel) fuel (ls,(0:Int),z32,o++s.data.toList)) λo85=>(XL fuel o85.2).bind λo86=>some o86)=some o_1∧o_1.length=32;rw[g1,yb,ZIe (by show b.length≤_;omega),yb];exact⟨_,rfl,Sha.ZMS _⟩
theorem ZIw{h:List UInt8}(hl:h.length=32):∃o,Wm fuel [] h=some o∧o.length=32:=by
 unfold Wm;rw[if_pos (Ys (by simp) (by simp))]
 obtain⟨x,g1,b,rfl,g2⟩:=Yq (step:=Yx fuel) 32 (λk q=>∃b,q=((k:Int),h,b)∧b.length=k) (λx=>∃b,x=(h,b)∧b.length=32) (i:=((0:Int),h,([]:List UInt8))) ⟨_,rfl,rfl⟩ (by omega) (by
  rintro k _ hk ⟨b,rfl,hb⟩;left;obtain⟨e,he,hm⟩:=Zt (l:=h) (k:=k) (by omega);unfold Yx;dsimp only;rw[if_pos (decide_eq_true (by omega)),if_pos (Wb (by omega) (by omega)),ycb,he,yb,if_pos (Ys (by omega) (by omega)),ZK (by omega)];exact⟨_,rfl,_,rfl,by simp[hb]⟩) (by
  rintro _ ⟨b,rfl,hb⟩;unfold Yx;dsimp only;rw[if_neg (by rw[decide_eq_true_iff];omega)];exact⟨_,rfl,_,rfl,hb⟩)
 rw[g1,yb];exact⟨_,rfl,g2⟩
theorem Zxl{h:List UInt8}(hl:h.length=32)(n:UInt8):∃o,Z6 fuel h n=some o∧o.length=32:=by
 unfold Z6;obtain⟨o,h1,h2⟩:=ZIw hl
 obtain⟨p,h3,h4⟩:=ZIv (s:=ZKk) (ls:=[o,[n]]) (by decide) (by simp) (by
  intro l hl;simp only[ybz,List.not_mem_nil,or_false] at hl;rcases hl with rfl|rfl
  ·omega
  ·simp)
 rw[h1,yb,h3,yb];exact⟨_,rfl,h4⟩
theorem ZMN{h:List UInt8}(hl:h.length=32):∃k,WC fuel h=some k∧KitOk k:=by
 unfold WC;obtain⟨p1,a1,b1⟩:=Zxl hl 1;obtain⟨p2,a2,b2⟩:=Zxl hl 2;obtain⟨p3,a3,b3⟩:=Zxl hl 3;obtain⟨p4,a4,b4⟩:=Zxl hl 4;obtain⟨p5,a5,b5⟩:=Zxl hl 5;obtain⟨p6,a6,b6⟩:=Zxl hl 6;obtain⟨k1,c1,d1⟩:=Zlo b1;obtain⟨k2,c2,d2⟩:=Zlo b2;obtain⟨k3,c3,d3⟩:=Zlo b3;obtain⟨k4,c4,d4⟩:=Zlo b4;obtain⟨k5,c5,d5⟩:=Zlo b5;rw[a1,yb,c1,yb,a2,yb,c2,yb,a3,yb,c3,yb,a4,yb,c4,yb,a5,yb,c5,yb,a6,yb];exact⟨_,rfl,d1,d2,d3,d4,d5⟩
theorem ZEx(k:Kit):WF fuel k=some (Z4 k):=by
 unfold WF;rw[Zln,yb,Zln,yb,Zln,yb,Zln,yb,Zln,yb];rfl
def Sec(o:VT):UInt64:=1+o.2.2.2 % 2305843009213688668
theorem ZJV(o:VT):Key (Sec o):=by
 have h:(o.2.2.2 % 2305843009213688668).toNat < 2305843009213688668:=by
  rw[UInt64.toNat_mod];exact ybc _ (by decide)
 have e:(Sec o).toNat=1+(o.2.2.2 % 2305843009213688668).toNat:=by
  unfold Sec;rw[UInt64.toNat_add,yaj]
  ·rfl
  ·show 1+_ < _;omega
 unfold Key ord;omega
structure PlayOk(p:Corsnedlaw21Play):Prop where
 sl:p.1.length=2
 ss:∀h,h∈p.1→h.length=32
 ol:p.2.2.2.2.2.1.length≤9223372036854775807
 os:∀o,o∈p.2.2.2.2.2.1→0≤o.2.1∧o.2.1≤65535∧0≤o.2.2.1∧o.2.2.1≤65535
 n0:0≤p.2.2.2.2.2.2.1
 n1:p.2.2.2.2.2.2.1≤65535
 per:p.2.2.2.2.2.2.2.length=32
def ZIx(p:Corsnedlaw21Play)(k:Nat)(l:List ZL):Prop:=∀c,c∈l→1≤c.2.1∧c.2.1≤(k:Int)∧∃o,p.2.2.2.2.2.1[c.2.1.toNat - 1]? =some o∧c.2.2.2.1=B (Sec o).toNat
theorem ZIy(x:UInt8):(((x % 2).toNat:Nat):Int)=0∨(((x % 2).toNat:Nat):Int)=1:=by
 have:(x % 2).toNat=x.toNat % 2:=UInt8.toNat_mod ..;omega
theorem ZBy{A:Int}{k0 k1:Kit}{op:Int}(h:ChOk A k0 k1 op){p:Corsnedlaw21Play}(hp:PlayOk p){s:State}(hs:StOk A op s)(he:s.2.2.1=[])(a:ZH)(b:List Kit)(c:State)(ks:List Kit):
 ∃x,Zc (Yb fuel) fuel ((0:Int),p,a,b,c,ks,YM A k0 k1 op,s)=some x∧∃t,x=(p,a,b,c,ks,YM A k0 k1 op,t)∧StOk A op t∧ZIx p 20 t.2.2.1∧t.1=s.1:=by
 obtain⟨p1,p2,p3,p4,p5,of,p6,p7⟩:=p;have hol:=hp.ol;have hos:=hp.os;dsimp only at hol hos;refine Yq (step:=Yb fuel) 20 (λk q=>∃t,q=((k:Int),(p1,p2,p3,p4,p5,of,p6,p7),a,b,c,ks,YM A k0 k1 op,t)∧StOk A op t∧ZIx (p1,p2,p3,p4,p5,of,p6,p7) k t.2.2.1∧t.1=s.1) _ ⟨_,rfl,hs,by rw[he];intro c hc;simp at hc,rfl⟩ (by omega) ?_ ?_
 ·rintro k _ hk ⟨t,rfl,t1,t2,t3⟩
  have mono:∀{n m:Nat}{l:List ZL},n≤m→ZIx (p1,p2,p3,p4,p5,of,p6,p7) n l→ZIx (p1,p2,p3,p4,p5,of,p6,p7) m l:=λhnm ho c hc=>by
   obtain⟨q1,q2,q3⟩:=ho c hc;exact⟨q1,by omega,q3⟩
  unfold Yb;dsimp only;by_cases hkl:k < of.length
  ·left;obtain⟨o,ho,hom⟩:=Zt hkl;obtain⟨b1,b2,b3,b4⟩:=hos o hom
   have hc:CondIn (((o.1 % 2).toNat:Int),wi ((k:Int)+1),wi (1+wi o.2.1),B (Sec o).toNat,wi (1+wi o.2.2.1)):=by
    rw[ZK (by omega),ZN (z:=o.2.1) (by omega) (by omega),ZN (z:=1+o.2.1) (by omega) (by omega),ZN (z:=o.2.2.1) (by omega) (by omega),ZN (z:=1+o.2.2.1) (by omega) (by omega)];exact⟨ZIy _,by dsimp only;omega,by dsimp only;omega,by dsimp only;omega,by dsimp only;omega,ZLI _,ZIs (ZJV o),by dsimp only;omega,by dsimp only;omega⟩
   obtain⟨x,x1,x2⟩:=ZM1 h t1 hc (by
    intro e he;have:=(t2 e he).2.1;rw[ZK (by omega)];dsimp only;omega)
   have hsec:Qs fuel o=some (Sec o):=rfl;rw[if_pos (YK hkl),if_pos (decide_eq_true (by omega)),ZG ho,yb,hsec,yb,ZlU,yb,x1,yb];by_cases h0:x.2=0
   ·obtain⟨y1,y2,y3⟩:=x2 h0;rw[if_pos (by rw[h0];rfl),ZK (by omega)];refine⟨_,rfl,_,rfl,y1, ?_,by rw[y3,t3]⟩;rw[y2];intro c hc;rcases ZsF.1 hc with rfl|hc
    ·rw[ZK (by omega)];refine⟨by dsimp only;omega,by dsimp only;omega,o, ?_,rfl⟩;dsimp only;rw[show((k+1:Nat):Int).toNat - 1=k by omega];exact ho
    ·exact mono (by omega) t2 c hc
   ·rw[if_neg (by rw[beq_iff_eq];exact h0),ZK (by omega)];exact⟨_,rfl,_,rfl,t1,mono (by omega) t2,t3⟩
  ·right;rw[if_neg (by rw[decide_eq_true_iff];omega)];exact⟨_,rfl,_,rfl,t1,mono (by omega) t2,t3⟩
 ·rintro _ ⟨t,rfl,t1,t2,t3⟩;unfold Yb;dsimp only;by_cases hkl:20 < of.length
  ·rw[if_pos (YK hkl),if_neg (by rw[decide_eq_true_iff];omega)];exact⟨_,rfl,_,rfl,t1,t2,t3⟩
  ·rw[if_neg (by rw[decide_eq_true_iff];omega)];exact⟨_,rfl,_,rfl,t1,t2,t3⟩
theorem ZBz(P:Corsnedlaw21Play)(a:ZH)(b:List Kit)(c:State)(k0 k1:Kit)(A op:Int):Zc (Xs fuel) fuel ((0:Int),P,a,b,c,([k0,k1]:List Kit),((([0,0,0,0,0,0,0,0,0,0,0,0,0,0,0,0,0,0,0,0,0,0,0,0,0,0,0,0,0,0,0,0]:List UInt8),(0:Int)),A,([(0,0,0,0,0),(0,0,0,0,0)]:List VF),([(0,0,0,0,0,0),(0,0,0,0,0,0)]:List QP),op))=some (P,a,b,c,[k0,k1],YM A k0 k1 op):=by
 refine Y3 2 (λk:Nat=>((k:Int),P,a,b,c,([k0,k1]:List Kit),((z32,(0:Int)),A,([Z4 k0,Z4 k1]:List VF).take k++([(0,0,0,0,0),(0,0,0,0,0)]:List VF).drop k,([Tm 5,Tm 6]:List QP).take k++([(0,0,0,0,0,0),(0,0,0,0,0,0)]:List QP).drop k,op))) ?_ ?_ (by omega)
 ·intro k hk;unfold Xs;dsimp only
  match k,hk with
  |0,_=>
   rw[if_pos (decide_eq_true (by omega)),if_pos (Wb (by omega) (by omega))];show ybr (some k0) _=_;rw[yb,ZEx,yb]
   rfl
  |1,_=>
   rw[if_pos (decide_eq_true (by omega)),if_pos (Wb (by omega) (by omega))];show ybr (some k1) _=_;rw[yb,ZEx,yb];rfl
 ·unfold Xs;dsimp only;rw[if_neg (by rw[decide_eq_true_iff];omega)];rfl
theorem ZM2{p:Corsnedlaw21Play}(hp:PlayOk p):∃A k0 k1 op s,Vq fuel p=some (YM A k0 k1 op,[k0,k1],s)∧ChOk A k0 k1 op∧StOk A op s∧ZIx p 20 s.2.2.1:=by
 have hof:=λ{A:Int}{k0 k1:Kit}{op:Int}(h:ChOk A k0 k1 op){s:State}(hs:StOk A op s)(he:s.2.2.1=[])(a:ZH)(b:List Kit)(c:State)(ks:List Kit)=>ZBy h hp hs he a b c ks;have hn0:=hp.n0;have hn1:=hp.n1;obtain⟨sd,am,ow,ra,on,of,no,pr⟩:=p;dsimp only at hn0 hn1
 obtain⟨q0,q1,hsd⟩:∃q0 q1,sd=[q0,q1]:=by
  have:=hp.sl;dsimp only at this
  match sd,this with
  |[a,b],_=>exact⟨_,_,rfl⟩
 subst hsd;have hss:=hp.ss;obtain⟨k0,e0,f0⟩:=ZMN (hss q0 (by simp));obtain⟨k1,e1,f1⟩:=ZMN (hss q1 (by simp));have hop:=ZIy on;have ham:(am.toNat:Int)≤4294967295:=by have:=am.toNat_lt;omega
 unfold Vq;show∃A k0 k1 op s,ybr (some q0) _=_∧_;rw[yb,e0,yb];show∃A k0 k1 op s,ybr (some q1) _=_∧_;rw[yb,e1,yb];dsimp only;rw[ZN (z:=20000+(am.toNat:Int)) (by omega) (by omega)];generalize hA:20000+(am.toNat:Int)=A;generalize (((on % 2).toNat:Nat):Int)=op at hop;have hch:ChOk A k0 k1 op:=⟨by omega,by omega,hop,f0,f1⟩;rw[ZBz,yb];have hcA:(YM A k0 k1 op).2.1=A:=rfl;have hcO:(YM A k0 k1 op).2.2.2.2=op:=rfl;dsimp only;rw[hcA,hcO,ZN (z:=A+1) (by omega) (by omega),if_pos (bne_iff_ne.2 (by omega))]
 obtain⟨y,hy,hy0,hyA⟩:∃y,Int.tmod (ow.toNat:Int) (A+1)=y∧0≤y∧y≤A:=by
  refine⟨_,rfl, ?_, ?_⟩
  ·exact Int.tmod_nonneg _ (by omega)
  ·have:=Int.tmod_lt_of_pos (ow.toNat:Int) (b:=A+1) (by omega);omega
 rw[hy,ZN (z:=A - y) (by omega) (by omega),ZN (z:=no) (by omega) (by omega)]
 have hr8:(ra % 8).toNat < 8:=by
  rw[UInt8.toNat_mod];exact ybc _ (by decide)
 generalize hr:(((ra % 8).toNat:Nat):Int)=r;have hs0:StIn A (no,[y,A - y],[],r) y (A - y):=⟨hn0,hn1,rfl,hy0,by omega,by dsimp only;omega,by dsimp only;omega,by simp,λc hc=>(by simp at hc),List.Pairwise.nil,by show y+(A - y)+0=A;omega⟩;rw[show Xg fuel (YM A k0 k1 op) (no,[y,A - y],[],r)=some (decide (hav op y (A - y) ≥ cost r 0)) from Zxi hch hs0,yb]
 by_cases hco:hav op y (A - y) ≥ cost r 0
 ·rw[if_neg (by rw[decide_eq_true hco];decide)];obtain⟨x,x1,t,rfl,x2,x3,x4⟩:=hof hch (s:=(no,[y,A - y],[],r)) ⟨_,_,hs0,hco⟩ rfl _ _ _ _;rw[x1,yb];exact⟨A,k0,k1,op,t,rfl,hch,x2,x3⟩
 ·have hci:=ZsE (r:=r) (n:=0) (by omega) (by omega) (by omega);rw[if_pos (by rw[decide_eq_false hco];rfl),if_pos (XF hop),Zcn hop,yb,if_pos (ZpF hop)]
  obtain⟨g0,g1,e1,e2,e3⟩:∃g0 g1:Int,(([y,A - y]:List Int).set op.toNat A).set ((wi (1 - op)).toNat) 0=[g0,g1]∧(g0=A∧g1=0∧op=0∨g0=0∧g1=A∧op=1)∧∃z,((([y,A - y]:List Int).set op.toNat A)[(wi (1 - op)).toNat]?)=some z:=by
   rcases hop with rfl|rfl
   ·exact⟨_,_,rfl,.inl ⟨rfl,rfl,rfl⟩,_,rfl⟩
   ·exact⟨_,_,rfl,.inr ⟨rfl,rfl,rfl⟩,_,rfl⟩
  obtain⟨z,hz⟩:=e3;rw[hz,yb,e1];have hs1:StIn A (no,[g0,g1],[],r) g0 g1:=⟨hn0,hn1,rfl,by omega,by omega,by dsimp only;omega,by dsimp only;omega,by simp,λc hc=>(by simp at hc),List.Pairwise.nil,by show g0+g1+0=A;omega⟩
  have hco1:hav op g0 g1 ≥ cost r 0:=by
   unfold hav;rcases e2 with⟨u1,u2,u3⟩|⟨u1,u2,u3⟩
   ·rw[if_pos u3];omega
   ·rw[if_neg (by omega)];omega
  obtain⟨x,x1,t,rfl,x2,x3,x4⟩:=hof hch (s:=(no,[g0,g1],[],r)) ⟨_,_,hs1,hco1⟩ rfl _ _ _ _;rw[x1,yb];exact⟨A,k0,k1,op,t,rfl,hch,x2,x3⟩
def beF(l:List UInt8):Nat→Nat
 |0=>0
 |k+1=>beF l k*256+((l[k]?).map UInt8.toNat).getD 0
theorem ZIz(l:List UInt8):∀k,beF l k < 256 ^ k
 |0=>by simp[beF]
 |k+1=>by
  have:=ZIz l k
  have h:((l[k]?).map UInt8.toNat).getD 0 < 256:=by
   cases l[k]? with
   |none=>simp
   |some d=>exact d.toNat_lt
  rw[beF,Nat.pow_succ];omega
theorem ZEy(n:Nat):∀k,k≤8→n < 18446744073709551616→beF (ZqN n) k=n / 2 ^ (64 - 8*k)
 |0,_,h=>by rw[beF,Nat.div_eq_of_lt (by omega)]
 |k+1,hk,h=>by
  rw[beF,ZEy n k (by omega) h,ZBt n (by omega)];have e:(64 - 8*k)=(56 - 8*k)+8:=by omega
  have e2:64 - 8*(k+1)=56 - 8*k:=by omega
  rw[e,e2,Nat.pow_add, ←Nat.div_div_eq_div_mul];simp;omega
def Zlp(r:Zu)(n:Nat):List UInt8×Zu:=if r.2=true∨r.1.length < n then([],([],true)) else(r.1.take n,(r.1.drop n,r.2))
theorem ZEz{n:Nat}{z:Int}(h0:0≤z)(h:z≤(n:Int)):Zat n (some z) none=true:=by simp[Zat,h0,h]
theorem ZJW{n:Nat}{z:Int}(h0:0≤z)(h:z≤(n:Int)):Zat n none (some z)=true:=by simp[Zat,h0,h]
theorem ZBA{l:List UInt8}(h:l.length≤1000000000):ZZ fuel l=some l:=by
 unfold ZZ;rw[if_pos (Ys (by omega) (by omega))]
theorem ZJX{z:Int}{r:Zu}(h0:0≤z)(h:r.1.length≤1000000):VN fuel z r=some (Zlp r z.toNat):=by
 obtain⟨b,no⟩:=r;obtain⟨n,rfl⟩:=Int.eq_ofNat_of_zero_le h0;unfold VN Zlp Wz;dsimp only at h ⊢;rw[ycb];by_cases h1:no=true
 ·rw[if_pos h1,yb,if_pos (.inl h1)]
 by_cases h2:b.length < n
 ·rw[if_neg h1,if_pos (decide_eq_true (by omega)),yb,if_pos (.inr h2)]
 rw[if_neg h1,if_neg (by rw[decide_eq_true_iff];omega),if_pos (ZJW (by omega) (by omega)),ZBA (by rw[yag];omega),yb,if_pos (ZEz (by omega) (by omega)),if_neg (by rintro(h|h);exact h1 h;exact h2 h)]
theorem ZFX(r:Zu)(n:Nat):(Zlp r n).1.length≤n∧(Zlp r n).2.1.length≤r.1.length:=by
 unfold Zlp;split
 ·simp
 ·simp;omega
theorem ZIA{b r:List UInt8}{n:Nat}(h:b.length=n):Zlp (b++r,false) n=(b,(r,false)):=by
 subst h;unfold Zlp;rw[if_neg (by simp)];simp
def ZJY(r:Zu):UInt64×Zu:=(yal (beF (Zlp r 8).1 (Zlp r 8).1.length),(Zlp r 8).2)
theorem ZIB{l:List UInt8}{k:Nat}{d:UInt8}(hk:k < 8)(hx:l[k]? =some d):(VJ (yal (beF l k)) 8)|||(yal d.toNat)=yal (beF l (k+1)):=by
 have h1:=ZIz l k;have h2:256 ^ k≤256 ^ 7:=Nat.pow_le_pow_right (by omega) (by omega);have h3:=d.toNat_lt;apply UInt64.toNat_inj.1;unfold VJ
 rw[UInt64.toNat_or,ybe,ybe,ybe,ybe,yaj (a:=beF l k) (by omega),yaj (a:=d.toNat) (by omega),yaj (a:=beF l k*2 ^ 8) (by omega),beF,hx,
  ybi (beF l k) (2 ^ 8), ←ycu (by omega)]
 simp;omega
theorem ZEA{r:Zu}(h:r.1.length≤1000000):W0 fuel r=some (ZJY r):=by
 unfold W0 ZJY;rw[ZJX (by omega) h,yb];have hl:=ZFX r 8;rw[show(8:Int).toNat=8 from rfl]
 generalize Zlp r 8=q at hl;obtain⟨l,s⟩:=q;dsimp only at hl ⊢
 rw[show((0:UInt64),l,(l.length:Int),(0:Int),s)=(λk:Nat=>(yal (beF l k),l,(l.length:Int),(k:Int),s)) 0 from rfl,
  Y3 (x:=(yal (beF l l.length),s)) l.length (λk:Nat=>(yal (beF l k),l,(l.length:Int),(k:Int),s)) ?_ ?_ (by omega),yb]
 ·intro k hk;obtain⟨e,he,_⟩:=Zt hk;unfold WM;dsimp only;rw[if_pos (YK hk),ZG he,yb,ZIB (by omega) he,ZK (by omega)]
 ·unfold WM;dsimp only;rw[if_neg (by rw[Yd];decide)]
theorem ZEB(x:UInt64)(r:List UInt8):ZJY (ZqN x.toNat++r,false)=(x,(r,false)):=by
 unfold ZJY;rw[ZIA (QV _),QV];dsimp only;rw[ZEy _ 8 (by omega) (ybm _)];simp
def VW(b:List UInt8):Nat→Nat→Nat→Bool×Nat×Nat
 |0,k,_=>(false,0,k)
 |f+1,k,n=>match b[k]? with
  |none=>(false,0,k)
  |some d=>if 8 < k∨(0 < k∧d.toNat=0) then(false,0,k) else if d.toNat < 128 then(true,n+d.toNat % 128*128 ^ k,k+1) else VW b f (k+1) (n+d.toNat % 128*128 ^ k)
theorem Zvk{b:List UInt8}{f k n:Nat}(h:b.length≤k):VW b (f+1) k n=(false,0,k):=by
 simp[VW,List.getElem?_eq_none h]
theorem Zxm{b:List UInt8}{f k n:Nat}{d:UInt8}(hx:b[k]? =some d)(h:8 < k):VW b (f+1) k n=(false,0,k):=by
 simp[VW,hx,h]
theorem ZpG{b:List UInt8}{f k n:Nat}{d:UInt8}(hx:b[k]? =some d)(_:¬8 < k)(h:0 < k∧d.toNat=0):VW b (f+1) k n=(false,0,k):=by
 rw[VW,hx];exact if_pos (.inr h)
theorem ZnU{b:List UInt8}{f k n:Nat}{d:UInt8}(hx:b[k]? =some d)(h2:¬8 < k)(h3:¬(0 < k∧d.toNat=0))(h4:d.toNat < 128):VW b (f+1) k n=(true,n+d.toNat % 128*128 ^ k,k+1):=by
 rw[VW,hx];show(if 8 < k∨(0 < k∧d.toNat=0) then _ else _)=_
 rw[if_neg (by rintro(h|h);exact h2 h;exact h3 h),if_pos h4]
theorem ZnV{b:List UInt8}{f k n:Nat}{d:UInt8}(hx:b[k]? =some d)(h2:¬8 < k)(h3:¬(0 < k∧d.toNat=0))(h4:¬d.toNat < 128):VW b (f+1) k n=VW b f (k+1) (n+d.toNat % 128*128 ^ k):=by
 rw[VW,hx];show(if 8 < k∨(0 < k∧d.toNat=0) then _ else _)=_
 rw[if_neg (by rintro(h|h);exact h2 h;exact h3 h),if_neg h4]
theorem ZIC(n k:Nat)(d:UInt8)(hn:n < 128 ^ k)(hk:k≤8):n+d.toNat % 128*128 ^ k < 9223372036854775808:=by
 have h1:d.toNat % 128*128 ^ k≤127*128 ^ k:=ybu _ (by omega);have h2:128 ^ (k+1)≤128 ^ 9:=Nat.pow_le_pow_right (by omega) (by omega);rw[Nat.pow_succ] at h2;omega
theorem ZFY(n k:Nat)(d:UInt8)(hn:n < 128 ^ k):n+d.toNat % 128*128 ^ k < 128 ^ (k+1):=by
 have h1:d.toNat % 128*128 ^ k≤127*128 ^ k:=ybu _ (by omega);rw[Nat.pow_succ];omega
theorem ZBB(b:List UInt8):∀(f k n:Nat),(VW b f k n).1=true→(VW b f k n).2.2≤b.length
 |0,k,n,h=>by simp[VW] at h
 |f+1,k,n,h=>by
  by_cases h1:b.length≤k
  ·rw[Zvk h1] at h;cases h
  have hx:=yac (Nat.lt_of_not_le h1);by_cases h2:8 < k
  ·rw[Zxm hx h2] at h;cases h
  by_cases h3:0 < k∧b[k].toNat=0
  ·rw[ZpG hx h2 h3] at h;cases h
  by_cases h4:b[k].toNat < 128
  ·rw[ZnU hx h2 h3 h4];simp;omega
  ·rw[ZnV hx h2 h3 h4] at h ⊢;exact ZBB b f _ _ h
theorem ZEC{a:List UInt8}{k:Nat}{x:UInt8}{r:List UInt8}(h:a.length=k):(a++x::r)[k]? =some x:=by
 rw[yap (by omega),h,Nat.sub_self];rfl
theorem ZpH{n:Nat}(h:n < 256):(yaq n).toNat=n:=by simp[yaj h]
theorem Zxn:∀(f n:Nat)(pre rest:List UInt8)(k acc:Nat),pre.length=k→k+(Zae n).length≤9→(Zae n).length≤f→(0 < k→0 < n)→
 VW (pre++(Zae n++rest)) f k acc=(true,acc+n*128 ^ k,k+(Zae n).length)
 |0,n,pre,rest,k,acc,_,_,hf,_=>by
  have:=List.length_pos_iff.2 (ZJT n);omega
 |f+1,n,pre,rest,k,acc,hp,hk,hf,h0=>by
  by_cases h:n < 128
  ·rw[ZiR h] at hk ⊢;have hx:(pre++([yaq n]++rest))[k]? =some (yaq n):=ZEC hp;have e:(yaq n).toNat=n:=ZpH (by omega);simp at hk;rw[ZnU hx (by omega) (by rw[e];omega) (by rw[e];exact h),e,yaj h];rfl
  ·rw[Zve h] at hk hf ⊢;have hx:(pre++((yaq (n % 128+128)::Zae (n / 128))++rest))[k]? =some (yaq (n % 128+128)):=ZEC hp;have e:(yaq (n % 128+128)).toNat=n % 128+128:=ZpH (by omega);simp only[yad] at hk hf ⊢;rw[ZnV hx (by omega) (by rw[e];omega) (by rw[e];omega),e];have:=Zxn f (n / 128) (pre++[yaq (n % 128+128)]) rest (k+1) (acc+(n % 128+128) % 128*128 ^ k) (by simp[hp]) (by omega) (by omega) (by omega);rw[yak] at this;simp only[List.cons_append,yw] at this ⊢;rw[this];have e2:n=n % 128+128*(n / 128):=by omega
   have e3:(n % 128+128) % 128=n % 128:=by omega
   rw[e3,Nat.pow_succ];refine Prod.ext rfl (Prod.ext ?_ (by simp;omega));show acc+n % 128*128 ^ k+n / 128*(128 ^ k*128)=acc+n*128 ^ k;rw[show n / 128*(128 ^ k*128)=128*(n / 128)*128 ^ k by rw[ybi (128 ^ k) 128, ←Nat.mul_assoc,ybi (n / 128) 128],Nat.add_assoc, ←Nat.add_mul, ←e2]
def ZID(r:Zu):Int×Zu:=if(VW r.1 10 0 0).1=true then(((VW r.1 10 0 0).2.1:Int),(r.1.drop (VW r.1 10 0 0).2.2,r.2)) else(0,([],true))
theorem ZsH{z:Int}(h0:0≤z)(hz:z≤9223372036854775807)(rest:List UInt8):ZID (Zae z.toNat++rest,false)=(z,(rest,false)):=by
 obtain⟨n,rfl⟩:=Int.eq_ofNat_of_zero_le h0;have hl:=WJ (n:=n) (by omega);have:=Zxn 10 n [] rest 0 0 rfl (by omega) (by omega) (by omega);simp only[yw,Nat.zero_add,Nat.pow_zero,Nat.mul_one] at this;unfold ZID;rw[ycb];dsimp only;rw[this];simp
theorem ZIE{n k:Nat}{d:UInt8}(hn:n < 128 ^ k)(hk:k≤8):bits .or .i64 (n:Int) (wi (((d % 128).toNat:Int)*2 ^ (min (wi (7*(k:Int))).toNat 64)))=((n+d.toNat % 128*128 ^ k:Nat):Int):=by
 have e0:(wi (7*(k:Int)))=((7*k:Nat):Int):=by rw[ZN (by omega) (by omega)];omega
 have e1:min ((7*k:Nat):Int).toNat 64=7*k:=by omega
 have e2:128 ^ k=2 ^ (7*k):=by rw[Nat.pow_mul]
 have h1:=ZIC n k d hn hk
 have e3:((d % 128).toNat:Int)*2 ^ (7*k)=((d.toNat % 128*128 ^ k:Nat):Int):=by
  rw[e2,UInt8.toNat_mod]
  push_cast
  rfl
 rw[e0,e1,e3,ZN (by omega) (by omega)];refine Go.Ev.ZsO (op:=.or) (k:=.i64) ?_ (by omega) ⟨by show-9223372036854775808≤_;omega,by show _≤9223372036854775807;omega⟩ (by omega) ⟨by show-9223372036854775808≤_;omega,by show _≤9223372036854775807;omega⟩ ⟨by show-9223372036854775808≤_;omega,by show _≤9223372036854775807;omega⟩;show some _=some _;congr 1;simp only[ycb];rw[e2] at hn ⊢;have:=ycu hn (d.toNat % 128);rw[ybi,Nat.or_comm, ←this];omega
theorem ZpI{b:List UInt8}{no:Bool}{k:Nat}(hb:b.length≤1000000)(h:b.length≤k∨8 < k∨(0 < k∧b[k]? =some 0)):Xu fuel (k:Int) (b,no)=some (true,(k:Int),(b,no)):=by
 unfold Xu;dsimp only;by_cases h1:b.length≤k
 ·rw[if_pos (decide_eq_true (by omega))]
 rw[if_neg (by rw[decide_eq_true_iff];omega)];by_cases h2:8 < k
 ·rw[if_pos (decide_eq_true (by omega))]
 rw[if_neg (by rw[decide_eq_true_iff];omega)];rcases h with h|h|⟨h,h3⟩
 ·exact absurd h h1
 ·exact absurd h h2
 rw[if_pos (decide_eq_true (by omega)),ZG h3,yb];rfl
theorem ZFZ{b:List UInt8}{no:Bool}{k:Nat}{d:UInt8}(hb:b.length≤1000000)(hx:b[k]? =some d)(h2:¬8 < k)(h3:¬(0 < k∧d.toNat=0)):Xu fuel (k:Int) (b,no)=some (false,(k:Int),(b,no)):=by
 unfold Xu;have h1:k < b.length:=(yp.1 hx).1;dsimp only;rw[if_neg (by rw[decide_eq_true_iff];omega),if_neg (by rw[decide_eq_true_iff];omega)];by_cases h4:0 < k
 ·rw[if_pos (decide_eq_true (by omega)),ZG hx,yb]
  have:(d==0)=false:=by
   rw[beq_eq_false_iff_ne];intro h;exact h3 ⟨h4,by rw[h];rfl⟩
  rw[this]
 ·rw[if_neg (by rw[decide_eq_true_iff];omega)]
theorem ZBC{b:List UInt8}{no:Bool}(hb:b.length≤1000000):∀(f k n m:Nat),k+f=10→f < m→n < 128 ^ k→
 Zc (XR fuel) m ((n:Int),(b,no),(k:Int))=some (if(VW b f k n).1=true then .inr (((VW b f k n).2.1:Int),(b,no),((VW b f k n).2.2:Int)) else .inl ((0:Int),([],true),((VW b f k n).2.2:Int)))
 |f,k,n,0,_,h,_=>by omega
 |0,k,n,m+1,h,_,_=>by
  unfold Zc XR;dsimp only;rw[ZpI hb (.inr (.inl (by omega))),yb]
  rfl
 |f+1,k,n,m+1,h,hf,hn=>by
  unfold Zc XR;dsimp only;by_cases h1:b.length≤k
  ·rw[Zvk h1,ZpI hb (.inl h1),yb];rfl
  obtain⟨d,hx,_⟩:=Zt (l:=b) (k:=k) (by omega);by_cases h2:8 < k
  ·rw[Zxm hx h2,ZpI hb (.inr (.inl h2)),yb];rfl
  by_cases h3:0 < k∧d.toNat=0
  ·rw[ZpG hx h2 h3,ZpI hb (.inr (.inr ⟨h3.1,by rw[hx,show d=0 from UInt8.toNat_inj.1 h3.2]⟩)),yb]
   rfl
  rw[ZFZ hb hx h2 h3,yb];dsimp only
  rw[if_neg (by decide),ZG hx,yb,ZIE hn (by omega),
   if_pos (decide_eq_true (by rw[ZN (by omega) (by omega)];omega)),ZK (by omega)]
  have hlt:decide (d < 128)=decide (d.toNat < 128):=by
   rw[Bool.eq_iff_iff,decide_eq_true_iff,decide_eq_true_iff,UInt8.lt_iff_toNat_lt];rfl
  rw[hlt];by_cases h4:d.toNat < 128
  ·rw[ZnU hx h2 h3 h4,if_pos (decide_eq_true h4)];rfl
  ·rw[ZnV hx h2 h3 h4,if_neg (by rw[decide_eq_true_iff];exact h4)];exact ZBC hb f (k+1) _ m (by omega) (by omega) (ZFY n k d hn)
theorem Zzv{r:Zu}(h:r.1.length≤1000000):Xv fuel r=some (ZID r):=by
 obtain⟨b,no⟩:=r;unfold Xv ZID;dsimp only at h ⊢;have:=ZBC (no:=no) h 10 0 0 fuel (by omega) (by rw[Zd5];omega) (by omega);rw[show((0:Nat):Int)=0 from rfl] at this
 rw[this,yb];by_cases hg:(VW b 10 0 0).1=true
 ·have hl:=ZBB b 10 0 0 hg;rw[if_pos hg,if_pos hg];dsimp only;rw[if_pos (ZEz (by omega) (by omega)),ycb]
 ·rw[if_neg hg,if_neg hg]
theorem ZJZ{b:List UInt8}(h:b.length≤1000000):Zij fuel b=some (b,false):=by
 unfold Zij;rw[ZBA (by omega),yb]
theorem ZF0{l:List UInt64}(hl:l.length≤9223372036854775807):∃b,ZbO fuel l=some b∧(b=false→∀p,p∈l→QH p.toNat):=by
 unfold ZbO ZaP
 obtain⟨x,h1,h2⟩:=Yq (step:=Y7 fuel) l.length (λk s=>s=(l,(l.length:Int),(k:Int))∧∀j p,j < k→l[j]? =some p→QH p.toNat) (λx=>(∃k:Nat,x=.inl (k:Int))∨x=.inr ()∧∀p,p∈l→QH p.toNat) (i:=(l,(l.length:Int),(0:Int))) ⟨rfl,λj p hj=>by omega⟩ (by omega) (by
  rintro k _ hk ⟨rfl,hj⟩;obtain⟨e,he,_⟩:=Zt hk;unfold Y7;dsimp only;rw[if_pos (YK hk),ZG he,yb,ZDc,yb,ZK (by omega)];by_cases hp:QH e.toNat
  ·rw[decide_eq_true hp];left;refine⟨_,rfl,rfl,λj p h3 h4=> ?_⟩;by_cases h5:j < k
   ·exact hj j p h5 h4
   ·have:j=k:=by omega
    subst this;rw[he] at h4;cases h4;exact hp
  ·rw[decide_eq_false hp];right;exact⟨_,rfl,.inl ⟨k,rfl⟩⟩) (by
  rintro _ ⟨rfl,hj⟩;unfold Y7;dsimp only;rw[if_neg (by rw[Yd];decide)];refine⟨_,rfl,.inr ⟨rfl,λp hp=> ?_⟩⟩;obtain⟨j,hj1,hj2⟩:=ycr hp;exact hj j p hj1 (by rw[yac hj1,hj2]))
 rw[h1,yb];rcases h2 with⟨k,rfl⟩|⟨rfl,h2⟩
 ·dsimp only;rw[yb];refine⟨_,rfl,λh=> ?_⟩;exact absurd (of_decide_eq_false h) (by omega)
 ·exact⟨_,rfl,λ_=>h2⟩
def Zzw(l:Zz):Prop:=l.length≤9223372036854775807∧∀b,b∈l→b.1.length≤9223372036854775807
theorem ZrN(z:Int):∃b,Vf fuel z=some b∧(b=true→0≤z∧z≤1048576):=by
 unfold Vf;by_cases h:z ≥ 0
 ·rw[if_pos (decide_eq_true h)];exact⟨_,rfl,λh2=>⟨h,of_decide_eq_true h2⟩⟩
 ·rw[if_neg (by rw[decide_eq_true_iff];exact h)];exact⟨_,rfl,λh2=>by cases h2⟩
theorem Zvl{l:Zz}(hl:Zzw l):∃b,YQ fuel l=some b∧(b=true↔Zdv l∧ZiS l):=by
 have key:∃b,YQ fuel l=some b∧(b=true→Zdv l∧ZiS l):=by
  unfold YQ;obtain⟨h0,h1⟩:=hl
  obtain⟨x,hx,hp⟩:=Yq (step:=Wc fuel) l.length (λk s=>s=(l,(l.length:Int),(k:Int),l)∧∀j b,j < k→l[j]? =some b→Zwh b∧Zwi b)
   (λx=>x=.inl (false,l)∨(x=.inr l∧∀b,b∈l→Zwh b∧Zwi b)) (i:=(l,(l.length:Int),(0:Int),l)) ⟨rfl,λj b hj=>by omega⟩ (by omega) (by
   rintro k _ hk ⟨rfl,hj⟩;obtain⟨e,he,hm⟩:=Zt hk
   have hnext:(Zwh e∧Zwi e)→∀j b,j < k+1→l[j]? =some b→Zwh b∧Zwi b:=by
    intro hE j b h2 h3;by_cases h4:j < k
    ·exact hj j b h4 h3
    ·have:j=k:=by omega
     subst this;rw[he] at h3;cases h3;exact hE
   unfold Wc;dsimp only;rw[if_pos (YK hk),ZG he,yb];by_cases k1:(e.1.length:Int) > 12
   ·right;rw[if_pos (decide_eq_true k1)];exact⟨_,rfl,.inl rfl⟩
   rw[if_neg (by rw[decide_eq_true_iff];exact k1)];obtain⟨b,hb,hbp⟩:=ZF0 (h1 e hm);rw[hb,yb]
   cases b with
   |true=>right;exact⟨_,rfl,.inl rfl⟩
   |false=>
    obtain⟨c,hc,hc2⟩:=ZrN e.2.1;obtain⟨d,hd,hd2⟩:=ZrN e.2.2.1;rw[if_neg (by decide),hc,yb,hd,yb]
    cases c with
    |false=>right;exact⟨_,rfl,.inl rfl⟩
    |true=>
     cases d with
     |false=>right;exact⟨_,rfl,.inl rfl⟩
     |true=>
      have hn:=λhz:e.2.2.2≠0→QH e.2.2.2.toNat=>hnext ⟨⟨by omega,(hc2 rfl).1,(hc2 rfl).2,(hd2 rfl).1,(hd2 rfl).2⟩,hbp rfl,hz⟩;rw[if_neg (by decide),if_neg (by decide),ZK (by omega)];by_cases hz:e.2.2.2=0
      ·rw[if_neg (by rw[hz];decide)];left;exact⟨_,rfl,rfl,hn λh=>absurd hz h⟩
      ·rw[if_pos (by simp[hz]),ZDc,yb];by_cases hpt:QH e.2.2.2.toNat
       ·rw[decide_eq_true hpt];left;exact⟨_,rfl,rfl,hn λ_=>hpt⟩
       ·rw[decide_eq_false hpt];right;exact⟨_,rfl,.inl rfl⟩) (by
   rintro _ ⟨rfl,hj⟩;unfold Wc;dsimp only;rw[if_neg (by rw[Yd];decide)];refine⟨_,rfl,.inr ⟨rfl,λb hb=> ?_⟩⟩;obtain⟨j,hj1,hj2⟩:=ycr hb;exact hj j b hj1 (by rw[yac hj1,hj2]))
  rw[hx,yb];rcases hp with rfl|⟨rfl,hp⟩
  ·exact⟨_,rfl,λh=>by cases h⟩
  ·dsimp only;by_cases h2:(l.length:Int) > 0
   ·rw[if_pos (decide_eq_true h2)];refine⟨_,rfl,λh3=>⟨⟨by omega, ?_,λb hb=>(hp b hb).1⟩,λb hb=>(hp b hb).2⟩⟩;have:=of_decide_eq_true h3;omega
   ·rw[if_neg (by rw[decide_eq_true_iff];exact h2)];exact⟨_,rfl,λh=>by cases h⟩
 obtain⟨b,h1,h2⟩:=key;refine⟨b,h1,h2,λh=> ?_⟩;rw[ZnS h.1 h.2] at h1;exact(Option.some.inj h1).symm
theorem ZED{α:Type}{l:List α}{k:Nat}{e:α}(h:l[k]? =some e):l.drop k=e::l.drop (k+1):=by
 obtain⟨h1,h2⟩:=yp.1 h;rw[List.drop_eq_getElem_cons h1,h2]
theorem ZBD{α:Type}{f:α→List UInt8}{l:List α}{k:Nat}{e:α}(h:l[k]? =some e):cat f (l.drop k)=f e++cat f (l.drop (k+1)):=by
 rw[ZED h,ZBv]
theorem ZiU{α:Type}{f:α→List UInt8}{c n:Nat}{l:List α}(h:∀x,x∈l→(f x).length≤c)(hn:l.length≤n)(k:Nat):(cat f (l.drop k)).length≤n*c:=by
 refine Nat.le_trans (Zzs λx hx=>h x (List.mem_of_mem_drop hx)) (ybu c ?_);rw[List.length_drop];omega
theorem ZDf{a:List UInt8}(h:a.length≤1000000):XJ fuel a a=some true:=by
 unfold XJ;rw[if_neg (by simp),show(a,a,(a.length:Int),(0:Int))=(λk:Nat=>(a,a,(a.length:Int),(k:Int))) 0 from rfl,Y3 (x:=.inr ()) a.length (λk:Nat=>(a,a,(a.length:Int),(k:Int))) ?_ ?_ (by omega),yb]
 ·intro k hk;obtain⟨e,he,_⟩:=Zt hk;unfold Y9;dsimp only;rw[if_pos (YK hk),ZG he,yb,yb,ZK (by omega),if_neg (by simp)]
 ·unfold Y9;dsimp only;rw[if_neg (by rw[Yd];decide)]
theorem ZF1{b:List UInt8}{n i:Int}{l:Zz}{rest:List UInt8}{acc:List ZC}{i1 i2:Int}{u:UInt64}{ks:List UInt64}(hk:ks.length≤12)(hr:rest.length≤100000):
 Zc (QS fuel) fuel (b,n,i,(ks.length:Int),(0:Int),l,(cat Zvg ks++rest,false),acc,i1,i2,u,([]:List UInt64))=some (b,n,i,l,(rest,false),acc,i1,i2,u,ks):=by
 refine Y3 ks.length (λk:Nat=>(b,n,i,(ks.length:Int),(k:Int),l,(cat Zvg (ks.drop k)++rest,false),acc,i1,i2,u,ks.take k)) ?_ ?_ (by omega)
 ·intro k hk2;obtain⟨e,he,_⟩:=Zt hk2;have hl:=ZiU (f:=Zvg) (c:=8) (λx _=>Nat.le_of_eq (QV _)) hk k;unfold QS;dsimp only;rw[if_pos (YK hk2),ZEA (by dsimp only;rw[yr];omega),yb,ZBD he,yak];unfold Zvg;rw[ZEB,if_pos (Ys (by rw[yag];omega) (by rw[yag];omega)),ZK (by omega),ZiB he]
 ·unfold QS;dsimp only;rw[if_neg (by rw[Yd];decide),List.drop_length,ybt];rfl
theorem ZF2{l:Zz}(h:Zdv l)(hp:ZiS l):Zik fuel (Zas l)=some (l,true):=by
 have hlen:=ZqO h;unfold Zik;rw[ZJZ (by omega),yb,Zzv (by dsimp only;omega),yb];have h0:=h.2.1
 have e0:ZID (Zas l,false)=((l.length:Int),(cat brF l,false)):=by
  have:=ZsH (z:=(l.length:Int)) (by omega) (by omega) (cat brF l);rw[ycb] at this;exact this
 have hbl:∀k,(cat brF (l.drop k)).length≤4*131:=ZiU (λx hx=>Zzt (h.2.2 x hx)) h0;rw[e0];dsimp only;generalize hb:Zas l=b at hlen
 rw[show(b,(l.length:Int),(0:Int),([]:Zz),(cat brF l,false),([]:List ZC))=(λk:Nat=>(b,(l.length:Int),(k:Int),([]:Zz),(cat brF (l.drop k),false),l.take k)) 0 from rfl,
  Y3 (x:=(b,([]:Zz),(([]:List UInt8),false),l)) l.length (λk:Nat=>(b,(l.length:Int),(k:Int),([]:Zz),(cat brF (l.drop k),false),l.take k)) ?_ ?_ (by omega),yb]
 ·dsimp only;rw[ZnS h hp,yb,if_neg (by decide),ZiT h hp,yb,hb,ZDf (by omega),yb];rfl
 ·intro k hk;obtain⟨e,he,hm⟩:=Zt hk;obtain⟨e1,e2,e3,e4,e5⟩:=h.2.2 e hm;have hl:=hbl k;have hl2:=hbl (k+1);have r2:=WJ (n:=e.2.1.toNat) (by omega);have r3:=WJ (n:=e.2.2.1.toNat) (by omega);have r4:=QV e.2.2.2.toNat
  have hks:=ZiU (f:=Zvg) (c:=8) (l:=e.1) (λx _=>Nat.le_of_eq (QV _)) e1 0;rw[List.drop_zero] at hks;unfold Zcf;dsimp only;rw[if_pos (YK hk),Zzv (by dsimp only;omega),yb,if_neg (by rw[beq_iff_eq];omega),ZBD he];unfold brF;simp only[yak];have q1:=ZsH (z:=(e.1.length:Int)) (by omega) (by omega) (cat Zvg e.1++(Zae e.2.1.toNat++(Zae e.2.2.1.toNat++(ZqN e.2.2.2.toNat++cat brF (l.drop (k+1))))));rw[ycb] at q1;unfold brF at q1 hl2;rw[q1];dsimp only;rw[if_neg (by rw[decide_eq_true_iff];omega),ZF1 e1 (by simp only[yr];omega),yb];dsimp only;rw[Zzv (by simp only[yr];omega),yb,ZsH e2 (by omega)];dsimp only;rw[Zzv (by simp only[yr];omega),yb,ZsH e4 (by omega)];dsimp only;rw[ZEA (by simp only[yr];omega),yb,ZEB,if_pos (Ys (by rw[yag];omega) (by rw[yag];omega)),ZK (by omega),ZiB he]
 ·unfold Zcf;dsimp only;rw[if_neg (by rw[Yd];decide),List.drop_length,ybt];rfl
theorem ZJ0{l:Zz}(h:Zdv l)(hp:ZiS l):VD fuel l=some l:=by
 unfold VD;rw[ZiT h hp,yb,ZF2 h hp,yb]
theorem ZLR{A:Int}{k0 k1:Kit}{op:Int}(h:ChOk A k0 k1 op){s:State}{h0 h1:Int}(hs:StIn A s h0 h1)(hc:hav op h0 h1 ≥ cost s.2.2.2 s.2.2.1.length):ZaT fuel (YM A k0 k1 op) s=some (decide (s.2.2.1=[])):=by
 unfold ZaT
 cases hl:s.2.2.1 with
 |nil=>
  rw[if_pos (by rfl),ZLP h hs,yb,decide_eq_true hc]
  rfl
 |cons a b=>
  rw[if_neg (by rw[beq_iff_eq,yad];omega)];rfl
theorem ZJ1{A:Int}{k0 k1:Kit}{op:Int}(ho:op=0∨op=1){s:State}{h0 h1:Int}(hv:s.2.1=[h0,h1])(fee:Int):X1 fuel (YM A k0 k1 op) s op fee=some (decide (52≤fee∧fee≤hav op h0 h1)):=by
 have hO:(YM A k0 k1 op).2.2.2.2=op:=rfl;unfold X1;rw[hO,if_neg (by simp),hv,Zcn ho,if_pos (XF ho)];by_cases h:fee ≥ 52
 ·rw[if_pos (decide_eq_true h),yb];simp[h]
 ·rw[if_neg (by rw[decide_eq_true_iff];exact h),decide_eq_false (by omega)]
theorem ZJ2{A:Int}{k0 k1:Kit}{op i:Int}(hi:i≠op)(s:State)(fee:Int):X1 fuel (YM A k0 k1 op) s i fee=some (fee==0):=by
 have hO:(YM A k0 k1 op).2.2.2.2=op:=rfl;unfold X1;rw[hO,if_pos (by simpa using hi)]
end Go.Proofs.YtmkgbalfkhaflaaGreat
end
section
set_option maxRecDepth 100000
namespace Go.Proofs.YtmkgbalfkhaflaaGreat
open Go Go.Ev
noncomputable section
def his:FuncId→HI
 |7=>{ eqs:=true,own:=[],still:=[0,42,66,70,79,82,94,97,102,105,110,113,121,124,129,132,141,142,147,148,153,158,173,174,177,182,183,186,191,192,195,232,233,253],row:=[],deep:=[],frz:=[],ghost:=[],gst:=[]}
 |15=>{ eqs:=true,own:=[],still:=[7,8,20,45,48,49,50,55,56,57],row:=[],deep:=[],frz:=[],ghost:=[],gst:=[]}
 |50=>{ eqs:=true,own:=[],still:=[6],row:=[],deep:=[],frz:=[],ghost:=[],gst:=[]}
 |10=>{ eqs:=true,own:=[],still:=[12,13,23,28,37,38,42,43,44,45,58],row:=[],deep:=[],frz:=[],ghost:=[(55,[([6],Zw,84),([7],Zw,84)])],gst:=[]}
 |14=>{ eqs:=true,own:=[],still:=[2,30,33,35],row:=[],deep:=[],frz:=[],ghost:=[],gst:=[]}
 |16=>{ eqs:=true,own:=[72,134],still:=[4,5,20,30,38,40,58,62,63,65,72,73,95,97,101,102,103,105,107,122,123,124,125,127,134,135],row:=[],deep:=[],frz:=[],ghost:=[],gst:=[]}
 |13=>{ eqs:=true,own:=[3,15,17],still:=[2,15,16],row:=[],deep:=[],frz:=[],ghost:=[],gst:=[]}
 |48=>{ eqs:=true,own:=[8],still:=[8,9],row:=[],deep:=[],frz:=[],ghost:=[],gst:=[]}
 |47=>{ eqs:=true,own:=[0,16,28],still:=[4,8,10,20],row:=[],deep:=[],frz:=[],ghost:=[],gst:=[]}
 |43=>{ eqs:=true,own:=[],still:=[5,7,8],row:=[],deep:=[],frz:=[],ghost:=[],gst:=[]}
 |12=>{ eqs:=true,own:=[],still:=[3,12,19,37,38,41,43,45],row:=[],deep:=[],frz:=[],ghost:=[],gst:=[]}
 |44=>{ eqs:=true,own:=[],still:=[9,13,17,21],row:=[],deep:=[],frz:=[],ghost:=[],gst:=[]}
 |100=>{ eqs:=true,own:=[],still:=[3],row:=[],deep:=[],frz:=[],ghost:=[],gst:=[]}
 |99=>{ eqs:=true,own:=[],still:=[4,15],row:=[],deep:=[],frz:=[],ghost:=[],gst:=[]}
 |9=>{ eqs:=true,own:=[],still:=[2],row:=[],deep:=[],frz:=[],ghost:=[],gst:=[]}
 |103=>{ eqs:=true,own:=[5,7],still:=[2],row:=[],deep:=[],frz:=[],ghost:=[],gst:=[]}
 |_=>{}
def ghs:FuncId→List (Nat×GOp)
 |15=>[(8,.melt 13),(14,.nn 17)]
 |10=>[(10,.any 14 4 (.arr 2 Zp))]
 |_=>[]
def ZLS:List (Fs ya):=[Qt 18446744073709551616,Zde 18446744073709551616,Ze1 18446744073709551616,Zdj 18446744073709551616,Zdl 18446744073709551616,Zk1 18446744073709551616,ZgB 18446744073709551616,ZgH 18446744073709551616,Zil 18446744073709551616,Zfp 18446744073709551616,Zfh 18446744073709551616,Zfn 18446744073709551616,ZfB 18446744073709551616,ZuN 18446744073709551616,ZnR 18446744073709551616,ZiN 18446744073709551616,Ws 18446744073709551616,Wr 18446744073709551616,Zfo 18446744073709551616,Za5 18446744073709551616,ZbY 18446744073709551616,ZfC 18446744073709551616,Zda 18446744073709551616]
def specs:=ZLS.map Fs.fo
def ZMO:List (TypeId×String×FuncId):=[]
theorem ZIF:AllOk specs:=ZAW ⟨okN Qt Zc0,okN Zde Zdf,okN Ze1 Ze2,okN Zdj Zdk,okN Zdl Zjg,okN Zk1 ZBp,okN ZgB VC,okN ZgH QQ,okN Zil ZoX,okN Zfp Zk0,okN Zfh ZkV,okN Zfn ZkY,okN ZfB Zu8,okN ZuN ZBh,okN ZnR ZDa,okN ZiN Zzp,okN Ws QD,okN Wr QB,okN Zfo ZkZ,okN Za5 Zgr,okN ZbY ZbZ,okN ZfC Zu9,okN Zda QX,trivial⟩
theorem ZJ3:MtOk ya ZMO:=trivial
theorem ran:ZLj ya his specs ZMO 100 7 ghs=some true:=by decide+kernel
def ZLT(F:Nat):Fs ya:=⟨7,[],[],[],[⟨.ret,[(0,.v .bool)],[],[.bool]⟩],λ_=>some true⟩
def ZKn:Fs ya:=ZLT fuel
theorem ZLU:ZKn.Ok:=ZLk ZIF ZJ3 ran
end
end Go.Proofs.YtmkgbalfkhaflaaGreat
end
section
set_option maxRecDepth 4000
namespace Go.Proofs.YtmkgbalfkhaflaaGreat
open Go Go.Ev
noncomputable section
def YA(F:Nat):(Int×Int×Bool×Corsnedlaw21Play×Zz×ZH×(List Kit)×State×Kit)→Option (Int×Int×Bool×Corsnedlaw21Play×Zz×ZH×(List Kit)×State×Kit)
 |(z0,z1,z2,z3,z4,z5,z6,z7,z8)=>
 if(z0==1)=true then
  (z6[1]?).bind λe1029=>
  some (z0,z1,z2,z3,z4,z5,z6,z7,e1029)
 else
 some (z0,z1,z2,z3,z4,z5,z6,z7,z8)
def Zvm:List ESh:=[.var (.v Zd) true,.var (.v Zp) true,.var (.v Zl) true,.var (.v (.arr 2 ZR)) true,.var (.v Zg) true,.var (.v ZR) true]
def VX:Lp:=⟨[(1,.v yI),(3,.v yI),(6,.ref 1 []),(9,.v .bool),(10,.ref 2 []),(11,.ref 3 []),(12,.ref 4 []),(13,.ref 5 [])],Zvm,[yI,yI,.bool,Zd,Zp,Zl,(.arr 2 ZR),Zg,ZR],[⟨.normal,[(1,.v yI),(3,.v yI),(6,.ref 1 []),(9,.v .bool),(10,.ref 2 []),(12,.ref 4 []),(13,.ref 5 [])],Zvm,[yI,yI,.bool,Zd,Zp,Zl,(.arr 2 ZR),Zg,ZR]⟩],YA fuel⟩
theorem Zb0:VX.Is ya (Zj ya 3) (Zi1 (Wa ya 3) 7):=Zh9 (n:=0) (g:=3) (fi:={ hi:={ still:=[8,22,27,38,39,40,41,42,43,78,104,114,120,126]},lp:=[]}) (specs:={ l:=[]}) (okS trivial) trivial (by kernel_rfl) (λv=>by kernel_rfl)
def YB(F:Nat):(Int×Int×Bool×Int×Int×Corsnedlaw21Play×Zz×ZH×(List Kit)×State×Kit)→Option (Int×Bool×Int×Int×Corsnedlaw21Play×Zz×ZH×(List Kit)×State×Kit)
 |(z0,z1,z2,z3,z4,z5,z6,z7,z8,z9,z10)=>
 if(z0 !=z7.2.2.2.2)=true then
  if(z1 !=0)=true then
   some (z0,z2,z3,(13:Int),z5,z6,z7,z8,z9,z10)
  else
  if(z0==z7.2.2.2.2)=true then
   if(decide (z1 < 52))=true then
    some (z0,z2,z3,(13:Int),z5,z6,z7,z8,z9,z10)
   else
   if(inB z7.2.2.2.2 2)=true then
    (z9.2.1[z7.2.2.2.2.toNat]?).bind λe1033=>
    if(decide (z1 > e1033))=true then
     some (z0,z2,z3,(13:Int),z5,z6,z7,z8,z9,z10)
    else
    some (z0,z2,z3,z4,z5,z6,z7,z8,z9,z10)
   else
   none
  else
  some (z0,z2,z3,z4,z5,z6,z7,z8,z9,z10)
 else
 if(z0==z7.2.2.2.2)=true then
  if(decide (z1 < 52))=true then
   some (z0,z2,z3,(13:Int),z5,z6,z7,z8,z9,z10)
  else
  if(inB z7.2.2.2.2 2)=true then
   (z9.2.1[z7.2.2.2.2.toNat]?).bind λe1034=>
   if(decide (z1 > e1034))=true then
    some (z0,z2,z3,(13:Int),z5,z6,z7,z8,z9,z10)
   else
   some (z0,z2,z3,z4,z5,z6,z7,z8,z9,z10)
  else
  none
 else
 some (z0,z2,z3,z4,z5,z6,z7,z8,z9,z10)
def VY:Lp:=⟨[(1,.v yI),(3,.v yI),(6,.ref 1 []),(9,.v .bool),(10,.ref 2 []),(12,.ref 4 []),(14,.ptr0),(15,.v yI),(16,.v yI)],Zvm,[yI,yI,.bool,yI,yI,Zd,Zp,Zl,(.arr 2 ZR),Zg,ZR],[⟨.normal,[(1,.v yI),(6,.ref 1 []),(9,.v .bool),(12,.ref 4 []),(14,.ptr0),(15,.v yI),(16,.v yI)],Zvm,[yI,.bool,yI,yI,Zd,Zp,Zl,(.arr 2 ZR),Zg,ZR]⟩],YB fuel⟩
theorem Zb1:VY.Is ya (Zj ya 3) (Zi1 (Wa ya 3) 11):=Zh9 (n:=0) (g:=3) (fi:={ hi:={ still:=[8,22,27,38,39,40,41,42,43,78,104,114,120,126]},lp:=[]}) (specs:={ l:=[]}) (okS trivial) trivial (by kernel_rfl) (λv=>by kernel_rfl)
def YC(F:Nat):(Int×Bool×Int×Int×Corsnedlaw21Play×Zz×ZH×(List Kit)×State×Kit)→Option (Int×Bool×Int×Int×Corsnedlaw21Play×Zz×ZH×(List Kit)×State×Kit)
 |(z0,z1,z2,z3,z4,z5,z6,z7,z8,z9)=>
 if(decide ((z8.2.2.1.length:Int) > 0))=true then
  some (z0,z1,z2,(14:Int),z4,z5,z6,z7,z8,z9)
 else
 some (z0,z1,z2,z3,z4,z5,z6,z7,z8,z9)
def VZ:Lp:=⟨[(1,.v yI),(6,.ref 1 []),(9,.v .bool),(12,.ref 4 []),(14,.ptr0),(15,.v yI),(16,.v yI)],Zvm,[yI,.bool,yI,yI,Zd,Zp,Zl,(.arr 2 ZR),Zg,ZR],[⟨.normal,[(1,.v yI),(6,.ref 1 []),(9,.v .bool),(14,.ptr0),(15,.v yI),(16,.v yI)],Zvm,[yI,.bool,yI,yI,Zd,Zp,Zl,(.arr 2 ZR),Zg,ZR]⟩],YC fuel⟩
theorem Zb2:VZ.Is ya (Zj ya 3) (Zi1 (Wa ya 3) 13):=Zh9 (n:=0) (g:=3) (fi:={ hi:={ still:=[8,22,27,38,39,40,41,42,43,78,104,114,120,126]},lp:=[]}) (specs:={ l:=[]}) (okS trivial) trivial (by kernel_rfl) (λv=>by kernel_rfl)
def YD(F:Nat):(Int×Bool×Int×Int×Bool×Corsnedlaw21Play×Zz×ZH×(List Kit)×State×Kit)→Option (Bool×Int×Int×Corsnedlaw21Play×Zz×ZH×(List Kit)×State×Kit)
 |(z0,z1,z2,z3,z4,z5,z6,z7,z8,z9,z10)=>
 if(decide (z0 < 0))=true then
  some (z1,z2,(1:Int),z5,z6,z7,z8,z9,z10)
 else
 if(decide (z0 > 1))=true then
  some (z1,z2,(1:Int),z5,z6,z7,z8,z9,z10)
 else
 if(!z4)=true then
  some (z1,z2,(1:Int),z5,z6,z7,z8,z9,z10)
 else
 some (z1,z2,z3,z5,z6,z7,z8,z9,z10)
def V0:Lp:=⟨[(1,.v yI),(9,.v .bool),(14,.ptr0),(15,.v yI),(16,.v yI),(17,.v .bool)],Zvm,[yI,.bool,yI,yI,.bool,Zd,Zp,Zl,(.arr 2 ZR),Zg,ZR],[⟨.normal,[(9,.v .bool),(14,.ptr0),(15,.v yI),(16,.v yI)],Zvm,[.bool,yI,yI,Zd,Zp,Zl,(.arr 2 ZR),Zg,ZR]⟩],YD fuel⟩
theorem Zb3:V0.Is ya (Zj ya 3) (Zi1 (Wa ya 3) 16):=Zh9 (n:=0) (g:=3) (fi:={ hi:={ still:=[8,22,27,38,39,40,41,42,43,78,104,114,120,126]},lp:=[]}) (specs:={ l:=[]}) (okS trivial) trivial (by kernel_rfl) (λv=>by kernel_rfl)
def YE(F:Nat):(Bool×Int×Int×Corsnedlaw21Play×Zz×ZH×(List Kit)×State×Kit)→Option ((Bool×Corsnedlaw21Play×Zz×ZH×(List Kit)×State×Kit)⊕(Bool×Corsnedlaw21Play×Zz×ZH×(List Kit)×State×Kit))
 |(z0,z1,z2,z3,z4,z5,z6,z7,z8)=>
 if(z1 !=z2)=true then
  some (.inl (false,z3,z4,z5,z6,z7,z8))
 else
 if(!(true==(z1 !=0)))=true then
  some (.inl (false,z3,z4,z5,z6,z7,z8))
 else
 some (.inr (z0,z3,z4,z5,z6,z7,z8))
def V1:Lp:=⟨[(9,.v .bool),(14,.ptr0),(15,.v yI),(16,.v yI)],Zvm,[.bool,yI,yI,Zd,Zp,Zl,(.arr 2 ZR),Zg,ZR],[⟨.ret,[(8,.v .bool)],Zvm,[.bool,Zd,Zp,Zl,(.arr 2 ZR),Zg,ZR]⟩,⟨.normal,[(9,.v .bool),(14,.ptr0)],Zvm,[.bool,Zd,Zp,Zl,(.arr 2 ZR),Zg,ZR]⟩],YE fuel⟩
theorem Zb4:V1.Is ya (Zj ya 3) (Zi1 (Wa ya 3) 18):=Zh9 (n:=0) (g:=3) (fi:={ hi:={ still:=[8,22,27,38,39,40,41,42,43,78,104,114,120,126]},lp:=[]}) (specs:={ l:=[]}) (okS trivial) trivial (by kernel_rfl) (λv=>by kernel_rfl)
def YF(F:Nat):(Int×Int×Bool×Int×Int×Corsnedlaw21Play×Zz×ZH×(List Kit)×State×Kit×ZH×Kit×Int×Int×(List Int)×Int×(List Zz)×Int×Sig×(List ZL)×(List Msg)×(List Msg))→Option (Int×Bool×Int×Int×Corsnedlaw21Play×Zz×ZH×(List Kit)×State×Kit×ZH×Kit×Int×Int×(List Int)×Int×(List Zz)×Int×Sig×(List ZL)×(List Msg)×(List Msg))
 |(z0,z1,z2,z3,z4,z5,z6,z7,z8,z9,z10,z11,z12,z13,z14,z15,z16,z17,z18,z19,z20,z21,z22)=>
 if(z0 !=z7.2.2.2.2)=true then
  if(z1 !=0)=true then
   some (z0,z2,z3,(13:Int),z5,z6,z7,z8,z9,z10,z11,z12,z13,z14,z15,z16,z17,z18,z19,z20,z21,z22)
  else
  if(z0==z7.2.2.2.2)=true then
   if(decide (z1 < 52))=true then
    some (z0,z2,z3,(13:Int),z5,z6,z7,z8,z9,z10,z11,z12,z13,z14,z15,z16,z17,z18,z19,z20,z21,z22)
   else
   if(inB z7.2.2.2.2 2)=true then
    (z9.2.1[z7.2.2.2.2.toNat]?).bind λe1043=>
    if(decide (z1 > e1043))=true then
     some (z0,z2,z3,(13:Int),z5,z6,z7,z8,z9,z10,z11,z12,z13,z14,z15,z16,z17,z18,z19,z20,z21,z22)
    else
    some (z0,z2,z3,z4,z5,z6,z7,z8,z9,z10,z11,z12,z13,z14,z15,z16,z17,z18,z19,z20,z21,z22)
   else
   none
  else
  some (z0,z2,z3,z4,z5,z6,z7,z8,z9,z10,z11,z12,z13,z14,z15,z16,z17,z18,z19,z20,z21,z22)
 else
 if(z0==z7.2.2.2.2)=true then
  if(decide (z1 < 52))=true then
   some (z0,z2,z3,(13:Int),z5,z6,z7,z8,z9,z10,z11,z12,z13,z14,z15,z16,z17,z18,z19,z20,z21,z22)
  else
  if(inB z7.2.2.2.2 2)=true then
   (z9.2.1[z7.2.2.2.2.toNat]?).bind λe1044=>
   if(decide (z1 > e1044))=true then
    some (z0,z2,z3,(13:Int),z5,z6,z7,z8,z9,z10,z11,z12,z13,z14,z15,z16,z17,z18,z19,z20,z21,z22)
   else
   some (z0,z2,z3,z4,z5,z6,z7,z8,z9,z10,z11,z12,z13,z14,z15,z16,z17,z18,z19,z20,z21,z22)
  else
  none
 else
 some (z0,z2,z3,z4,z5,z6,z7,z8,z9,z10,z11,z12,z13,z14,z15,z16,z17,z18,z19,z20,z21,z22)
def Zzx:List ESh:=[.var (.v Zd) true,.var (.v Zp) true,.var (.v Zl) true,.var (.v (.arr 2 ZR)) true,.var (.v Zg) true,.var (.v ZR) true,.var (.agg [.v Zl,.v ZR,.v yI,.agg [.v yI,.v (.arr 2 yI),.own 7 ZB,.v yI],.v (.arr 2 Zp),.v yI,.own 8 Zw,.own 9 Zw,.v Z9]) true,.log ZB 82,.log Zw 84,.log Zw 84]
def V2:Lp:=⟨[(1,.v yI),(3,.v yI),(6,.ref 1 []),(9,.v .bool),(10,.ref 2 []),(12,.ref 4 []),(14,.ref 6 []),(15,.v yI),(16,.v yI)],Zzx,[yI,yI,.bool,yI,yI,Zd,Zp,Zl,(.arr 2 ZR),Zg,ZR,Zl,ZR,yI,yI,(.arr 2 yI),yI,(.arr 2 Zp),yI,Z9,(.sl ZB),(.sl Zw),(.sl Zw)],[⟨.normal,[(1,.v yI),(6,.ref 1 []),(9,.v .bool),(12,.ref 4 []),(14,.ref 6 []),(15,.v yI),(16,.v yI)],Zzx,[yI,.bool,yI,yI,Zd,Zp,Zl,(.arr 2 ZR),Zg,ZR,Zl,ZR,yI,yI,(.arr 2 yI),yI,(.arr 2 Zp),yI,Z9,(.sl ZB),(.sl Zw),(.sl Zw)]⟩],YF fuel⟩
theorem Zb5:V2.Is ya (Zj ya 3) (Zi1 (Wa ya 3) 11):=Zh9 (n:=0) (g:=3) (fi:={ hi:={ still:=[8,22,27,38,39,40,41,42,43,78,104,114,120,126]},lp:=[]}) (specs:={ l:=[]}) (okS trivial) trivial (by kernel_rfl) (λv=>by kernel_rfl)
def YG(F:Nat):(Int×Bool×Int×Int×Corsnedlaw21Play×Zz×ZH×(List Kit)×State×Kit×ZH×Kit×Int×Int×(List Int)×Int×(List Zz)×Int×Sig×(List ZL)×(List Msg)×(List Msg))→Option (Int×Bool×Int×Int×Corsnedlaw21Play×Zz×ZH×(List Kit)×State×Kit×ZH×Kit×Int×Int×(List Int)×Int×(List Zz)×Int×Sig×(List ZL)×(List Msg)×(List Msg))
 |(z0,z1,z2,z3,z4,z5,z6,z7,z8,z9,z10,z11,z12,z13,z14,z15,z16,z17,z18,z19,z20,z21)=>
 if(decide ((z8.2.2.1.length:Int) > 0))=true then
  some (z0,z1,z2,(14:Int),z4,z5,z6,z7,z8,z9,z10,z11,z12,z13,z14,z15,z16,z17,z18,z19,z20,z21)
 else
 some (z0,z1,z2,z3,z4,z5,z6,z7,z8,z9,z10,z11,z12,z13,z14,z15,z16,z17,z18,z19,z20,z21)
def V3:Lp:=⟨[(1,.v yI),(6,.ref 1 []),(9,.v .bool),(12,.ref 4 []),(14,.ref 6 []),(15,.v yI),(16,.v yI)],Zzx,[yI,.bool,yI,yI,Zd,Zp,Zl,(.arr 2 ZR),Zg,ZR,Zl,ZR,yI,yI,(.arr 2 yI),yI,(.arr 2 Zp),yI,Z9,(.sl ZB),(.sl Zw),(.sl Zw)],[⟨.normal,[(1,.v yI),(6,.ref 1 []),(9,.v .bool),(14,.ref 6 []),(15,.v yI),(16,.v yI)],Zzx,[yI,.bool,yI,yI,Zd,Zp,Zl,(.arr 2 ZR),Zg,ZR,Zl,ZR,yI,yI,(.arr 2 yI),yI,(.arr 2 Zp),yI,Z9,(.sl ZB),(.sl Zw),(.sl Zw)]⟩],YG fuel⟩
theorem Zb6:V3.Is ya (Zj ya 3) (Zi1 (Wa ya 3) 13):=Zh9 (n:=0) (g:=3) (fi:={ hi:={ still:=[8,22,27,38,39,40,41,42,43,78,104,114,120,126]},lp:=[]}) (specs:={ l:=[]}) (okS trivial) trivial (by kernel_rfl) (λv=>by kernel_rfl)
def YH(F:Nat):(Int×Bool×Int×Int×Bool×Corsnedlaw21Play×Zz×ZH×(List Kit)×State×Kit×ZH×Kit×Int×Int×(List Int)×Int×(List Zz)×Int×Sig×(List ZL)×(List Msg)×(List Msg))→Option (Bool×Int×Int×Corsnedlaw21Play×Zz×ZH×(List Kit)×State×Kit×ZH×Kit×Int×Int×(List Int)×Int×(List Zz)×Int×Sig×(List ZL)×(List Msg)×(List Msg))
 |(z0,z1,z2,z3,z4,z5,z6,z7,z8,z9,z10,z11,z12,z13,z14,z15,z16,z17,z18,z19,z20,z21,z22)=>
 if(decide (z0 < 0))=true then
  some (z1,z2,(1:Int),z5,z6,z7,z8,z9,z10,z11,z12,z13,z14,z15,z16,z17,z18,z19,z20,z21,z22)
 else
 if(decide (z0 > 1))=true then
  some (z1,z2,(1:Int),z5,z6,z7,z8,z9,z10,z11,z12,z13,z14,z15,z16,z17,z18,z19,z20,z21,z22)
 else
 if(!z4)=true then
  some (z1,z2,(1:Int),z5,z6,z7,z8,z9,z10,z11,z12,z13,z14,z15,z16,z17,z18,z19,z20,z21,z22)
 else
 some (z1,z2,z3,z5,z6,z7,z8,z9,z10,z11,z12,z13,z14,z15,z16,z17,z18,z19,z20,z21,z22)
def V4:Lp:=⟨[(1,.v yI),(9,.v .bool),(14,.ref 6 []),(15,.v yI),(16,.v yI),(17,.v .bool)],Zzx,[yI,.bool,yI,yI,.bool,Zd,Zp,Zl,(.arr 2 ZR),Zg,ZR,Zl,ZR,yI,yI,(.arr 2 yI),yI,(.arr 2 Zp),yI,Z9,(.sl ZB),(.sl Zw),(.sl Zw)],[⟨.normal,[(9,.v .bool),(14,.ref 6 []),(15,.v yI),(16,.v yI)],Zzx,[.bool,yI,yI,Zd,Zp,Zl,(.arr 2 ZR),Zg,ZR,Zl,ZR,yI,yI,(.arr 2 yI),yI,(.arr 2 Zp),yI,Z9,(.sl ZB),(.sl Zw),(.sl Zw)]⟩],YH fuel⟩
theorem Zb7:V4.Is ya (Zj ya 3) (Zi1 (Wa ya 3) 16):=Zh9 (n:=0) (g:=3) (fi:={ hi:={ still:=[8,22,27,38,39,40,41,42,43,78,104,114,120,126]},lp:=[]}) (specs:={ l:=[]}) (okS trivial) trivial (by kernel_rfl) (λv=>by kernel_rfl)
def Yr(F:Nat):(Bool×Int×Int×Corsnedlaw21Play×Zz×ZH×(List Kit)×State×Kit×ZH×Kit×Int×Int×(List Int)×Int×(List Zz)×Int×Sig×(List ZL)×(List Msg)×(List Msg))→Option ((Bool×Corsnedlaw21Play×Zz×ZH×(List Kit)×State×Kit×ZH×Kit×Int×Int×(List Int)×Int×(List Zz)×Int×Sig×(List ZL)×(List Msg)×(List Msg))⊕(Bool×Corsnedlaw21Play×Zz×ZH×(List Kit)×State×Kit×ZH×Kit×Int×Int×(List Int)×Int×(List Zz)×Int×Sig×(List ZL)×(List Msg)×(List Msg)))
 |(z0,z1,z2,z3,z4,z5,z6,z7,z8,z9,z10,z11,z12,z13,z14,z15,z16,z17,z18,z19,z20)=>
 if(z1 !=z2)=true then
  some (.inl (false,z3,z4,z5,z6,z7,z8,z9,z10,z11,z12,z13,z14,z15,z16,z17,z18,z19,z20))
 else
 if(!(false==(z1 !=0)))=true then
  some (.inl (false,z3,z4,z5,z6,z7,z8,z9,z10,z11,z12,z13,z14,z15,z16,z17,z18,z19,z20))
 else
 some (.inr (z0,z3,z4,z5,z6,z7,z8,z9,z10,z11,z12,z13,z14,z15,z16,z17,z18,z19,z20))
def Vv:Lp:=⟨[(9,.v .bool),(14,.ref 6 []),(15,.v yI),(16,.v yI)],Zzx,[.bool,yI,yI,Zd,Zp,Zl,(.arr 2 ZR),Zg,ZR,Zl,ZR,yI,yI,(.arr 2 yI),yI,(.arr 2 Zp),yI,Z9,(.sl ZB),(.sl Zw),(.sl Zw)],[⟨.ret,[(8,.v .bool)],Zzx,[.bool,Zd,Zp,Zl,(.arr 2 ZR),Zg,ZR,Zl,ZR,yI,yI,(.arr 2 yI),yI,(.arr 2 Zp),yI,Z9,(.sl ZB),(.sl Zw),(.sl Zw)]⟩,⟨.normal,[(9,.v .bool),(14,.ref 6 [])],Zzx,[.bool,Zd,Zp,Zl,(.arr 2 ZR),Zg,ZR,Zl,ZR,yI,yI,(.arr 2 yI),yI,(.arr 2 Zp),yI,Z9,(.sl ZB),(.sl Zw),(.sl Zw)]⟩],Yr fuel⟩
theorem Zbf:Vv.Is ya (Zj ya 3) (Zi1 (Wa ya 3) 18):=Zh9 (n:=0) (g:=3) (fi:={ hi:={ still:=[8,22,27,38,39,40,41,42,43,78,104,114,120,126]},lp:=[]}) (specs:={ l:=[]}) (okS trivial) trivial (by kernel_rfl) (λv=>by kernel_rfl)
def WU(F:Nat)(s0_0:ZH)(s0_1:Kit)(s0_2:Int)(s0_3:Int)(s0_4:(List Int))(s0_5:Int)(s0_6:(List Zz))(s0_7:Int)(s0_8:Sig)(s1:(List ZL))(s2:(List Msg))(s3:(List Msg)):Option ((Tx×ZH×Kit×Int×Int×(List Int)×Int×(List Zz)×Int×Sig×(List ZL)×(List Msg)×(List Msg))):=
 (ZmT F s0_0 (s0_3,s0_4,s1,s0_5) s0_6 s0_7).bind λo1053=>
 some (o1053.1,s0_0,s0_1,s0_2,s0_3,s0_4,s0_5,s0_6,s0_7,s0_8,s1,s2,s3)
def ZjT(F:Nat):Fs ya:=⟨44,[.ref 0 []],[.var (.agg [.v Zl,.v ZR,.v yI,.agg [.v yI,.v (.arr 2 yI),.own 1 ZB,.v yI],.v (.arr 2 Zp),.v yI,.own 2 Zw,.own 3 Zw,.v Z9]) true,.log ZB 82,.log Zw 84,.log Zw 84],[Zl,ZR,yI,yI,(.arr 2 yI),yI,(.arr 2 Zp),yI,Z9,(.sl ZB),(.sl Zw),(.sl Zw)],[⟨.ret,[(0,.v yTx)],[.var (.agg [.v Zl,.v ZR,.v yI,.agg [.v yI,.v (.arr 2 yI),.own 1 ZB,.v yI],.v (.arr 2 Zp),.v yI,.own 2 Zw,.own 3 Zw,.v Z9]) true,.log ZB 82,.log Zw 84,.log Zw 84],[yTx,Zl,ZR,yI,yI,(.arr 2 yI),yI,(.arr 2 Zp),yI,Z9,(.sl ZB),(.sl Zw),(.sl Zw)]⟩],λx=>WU F x.1 x.2.1 x.2.2.1 x.2.2.2.1 x.2.2.2.2.1 x.2.2.2.2.2.1 x.2.2.2.2.2.2.1 x.2.2.2.2.2.2.2.1 x.2.2.2.2.2.2.2.2.1 x.2.2.2.2.2.2.2.2.2.1 x.2.2.2.2.2.2.2.2.2.2.1 x.2.2.2.2.2.2.2.2.2.2.2⟩
def Zlq:Fs ya:=ZjT fuel
theorem ZjU:Zlq.Ok:=Zf (fi:={ hi:={ still:=[9,13,17,21]},lp:=[]}) (specs:={ l:=[ZkF]}) (okS ⟨Zjg,trivial⟩) trivial (by decide+kernel) (λx=>by kernel_rfl)
def Zc2(F:Nat)(x0:ZH)(x1:Kit)(x2:Int)(x3:Int)(x4:(List Int))(x5:Int)(x6:(List Zz))(x7:Int)(x8:Sig)(x9:(List ZL))(x10:(List Msg))(x11:(List Msg)):Option (Tx):=(WU F x0 x1 x2 x3 x4 x5 x6 x7 x8 x9 x10 x11).map λo=>o.1
def Zc3:Rs ya:=⟨44,[.ref 0 []],[.var (.agg [.v Zl,.v ZR,.v yI,.agg [.v yI,.v (.arr 2 yI),.own 1 ZB,.v yI],.v (.arr 2 Zp),.v yI,.own 2 Zw,.own 3 Zw,.v Z9]) true,.log ZB 82,.log Zw 84,.log Zw 84],[Zl,ZR,yI,yI,(.arr 2 yI),yI,(.arr 2 Zp),yI,Z9,(.sl ZB),(.sl Zw),(.sl Zw)],.v yTx,[yTx],λx=>Zc2 fuel x.1 x.2.1 x.2.2.1 x.2.2.2.1 x.2.2.2.2.1 x.2.2.2.2.2.1 x.2.2.2.2.2.2.1 x.2.2.2.2.2.2.2.1 x.2.2.2.2.2.2.2.2.1 x.2.2.2.2.2.2.2.2.2.1 x.2.2.2.2.2.2.2.2.2.2.1 x.2.2.2.2.2.2.2.2.2.2.2⟩
theorem ZhQ:Zc3.Ok:=by
 rintro⟨x0,x1,x2,x3,x4,x5,x6,x7,x8,x9,x10,x11⟩ o h;obtain⟨y,h1,h2⟩:=Zb (show(WU fuel x0 x1 x2 x3 x4 x5 x6 x7 x8 x9 x10 x11).map (λo=>o.1)=some o from h)
 have hk:y=(y.1,x0,x1,x2,x3,x4,x5,x6,x7,x8,x9,x10,x11):=by
  unfold WU at h1;obtain⟨z,g1,g2⟩:=Option.bind_eq_some_iff.1 h1;cases g2;rfl
 obtain⟨args,R,H,q1,q2,q3⟩:=ZjU (x0,x1,x2,x3,x4,x5,x6,x7,x8,x9,x10,x11) y h1;refine⟨args,R,H,q1,q2,λq hq=> ?_⟩;subst h2;obtain⟨r,e1,e2⟩:=q3 _ _ ([q.1],H) ⟨rfl,rfl⟩ (by rw[hk];cases q1;cases q2;cases hq;rfl);cases e1;exact e2
def V5(F:Nat)(s0_0:ZH)(s0_1:Kit)(s0_2:Int)(s0_3:Int)(s0_4:(List Int))(s0_5:Int)(s0_6:(List Zz))(s0_7:Int)(s0_8:Sig)(s1:(List ZL))(s2:(List Msg))(s3:(List Msg)):Option ((Tx×Bool×ZH×Kit×Int×Int×(List Int)×Int×(List Zz)×Int×Sig×(List ZL)×(List Msg)×(List Msg))):=
 (Vz F s3 (13:Int)).bind λo1060=>
 if(!o1060.2)=true then
  some ((([]:List In),([]:List Out),(0:Int)),false,s0_0,s0_1,s0_2,s0_3,s0_4,s0_5,s0_6,s0_7,s0_8,s1,s2,s3)
 else
 (Zc2 F s0_0 s0_1 s0_2 s0_3 s0_4 s0_5 s0_6 s0_7 s0_8 s1 s2 s3).bind λo1061=>
 (Zps F s0_1 o1061).bind λo1062=>
 if(inB s0_2 2)=true then
  (([s0_8,s0_8]:List Sig)[s0_2.toNat]?).bind λe1063=>
  ((([s0_8,s0_8]:List Sig).set s0_2.toNat o1062)[0]?).bind λe1064=>
  ((([s0_8,s0_8]:List Sig).set s0_2.toNat o1062)[1]?).bind λe1065=>
  (Zpx F o1061 e1064 e1065).bind λo1066=>
  some (o1066,true,s0_0,s0_1,s0_2,s0_3,s0_4,s0_5,s0_6,s0_7,s0_8,s1,s2,s3)
 else
 none
def Zmv(F:Nat):Fs ya:=⟨12,[.ref 0 []],[.var (.agg [.v Zl,.v ZR,.v yI,.agg [.v yI,.v (.arr 2 yI),.own 1 ZB,.v yI],.v (.arr 2 Zp),.v yI,.own 2 Zw,.own 3 Zw,.v Z9]) true,.log ZB 82,.log Zw 84,.log Zw 84],[Zl,ZR,yI,yI,(.arr 2 yI),yI,(.arr 2 Zp),yI,Z9,(.sl ZB),(.sl Zw),(.sl Zw)],[⟨.ret,[(0,.tup [.v yTx,.v .bool])],[.var (.agg [.v Zl,.v ZR,.v yI,.agg [.v yI,.v (.arr 2 yI),.own 1 ZB,.v yI],.v (.arr 2 Zp),.v yI,.own 2 Zw,.own 3 Zw,.v Z9]) true,.log ZB 82,.log Zw 84,.log Zw 84],[yTx,.bool,Zl,ZR,yI,yI,(.arr 2 yI),yI,(.arr 2 Zp),yI,Z9,(.sl ZB),(.sl Zw),(.sl Zw)]⟩],λx=>V5 F x.1 x.2.1 x.2.2.1 x.2.2.2.1 x.2.2.2.2.1 x.2.2.2.2.2.1 x.2.2.2.2.2.2.1 x.2.2.2.2.2.2.2.1 x.2.2.2.2.2.2.2.2.1 x.2.2.2.2.2.2.2.2.2.1 x.2.2.2.2.2.2.2.2.2.2.1 x.2.2.2.2.2.2.2.2.2.2.2⟩
def ZfE:Fs ya:=Zmv fuel
theorem Zmw:ZfE.Ok:=Zf (fi:={ hi:={ still:=[3,12,19,37,38,41,43,45]},lp:=[]}) (specs:={ l:=[ZaM,Zm3,Zm4],mt:=[],ro:=[Zc3]}) (okR ⟨QX,ZkV,ZkY,trivial⟩ trivial ⟨ZhQ,trivial⟩) trivial (by decide+kernel) (λx=>by kernel_rfl)
def Qz(F:Nat)(a1:Msg)(s0:(List Msg)):Option ((List Msg)):=
 (Vz F s0 a1.1).bind λo1069=>
 if o1069.2=true then
  some s0
 else
 (XV F a1.2.2.2.2.2.2.2.2.2.2.2.2.2).bind λo1070=>
 if(apB s0.length 1 328)=true then
  let y1071:(List Msg):=s0++([(a1.1,0,0,(0,0,0,0,0),0,[],a1.2.2.2.2.2.2.1,a1.2.2.2.2.2.2.2.1,[0,0,0,0,0,0,0,0,0,0,0,0,0,0,0,0,0,0,0,0,0,0,0,0,0,0,0,0,0,0,0,0],0,([],[],0),(0,0,0,0,0),(0,0,0,0,0,0),o1070)]:List Msg)
  some y1071
 else
 none
def ZnW(F:Nat):Fs ya:=⟨47,[.own 0 Zw,.v Zw],[.log Zw 84],[Zw,(.sl Zw)],[⟨.ret,[(0,.own 0 Zw)],[.log Zw 84],[(.sl Zw)]⟩],λx=>Qz F x.1 x.2⟩
def Zgt:Fs ya:=ZnW fuel
theorem ZnX:Zgt.Ok:=Zf (fi:={ hi:={ own:=[0,4,15,16,28],still:=[8,10,20]},lp:=[]}) (specs:={ l:=[ZaM,Zdu]}) (okS ⟨QX,ZbZ,trivial⟩) trivial (by decide+kernel) (λx=>by kernel_rfl)
def Wn(F:Nat)(s:(Int×Int×ZH×Kit×Int×Int×(List Int)×Int×(List Zz)×Int×Sig×(List ZL)×(List Msg)×(List Msg)×(List Msg))):Option ((Int×Int×ZH×Kit×Int×Int×(List Int)×Int×(List Zz)×Int×Sig×(List ZL)×(List Msg)×(List Msg)×(List Msg))⊕(ZH×Kit×Int×Int×(List Int)×Int×(List Zz)×Int×Sig×(List ZL)×(List Msg)×(List Msg)×(List Msg))):=
 if(decide (s.2.1 < s.1))=true then
  (idx s.2.2.2.2.2.2.2.2.2.2.2.2.1 s.2.1).bind λe1068=>
  (Qz F e1068 s.2.2.2.2.2.2.2.2.2.2.2.2.2.2).bind λo1072=>
  some (.inl (s.1,wi (s.2.1+1),s.2.2.1,s.2.2.2.1,s.2.2.2.2.1,s.2.2.2.2.2.1,s.2.2.2.2.2.2.1,s.2.2.2.2.2.2.2.1,s.2.2.2.2.2.2.2.2.1,s.2.2.2.2.2.2.2.2.2.1,s.2.2.2.2.2.2.2.2.2.2.1,s.2.2.2.2.2.2.2.2.2.2.2.1,s.2.2.2.2.2.2.2.2.2.2.2.2.1,s.2.2.2.2.2.2.2.2.2.2.2.2.2.1,o1072))
 else
 some (.inr (s.2.2.1,s.2.2.2.1,s.2.2.2.2.1,s.2.2.2.2.2.1,s.2.2.2.2.2.2.1,s.2.2.2.2.2.2.2.1,s.2.2.2.2.2.2.2.2.1,s.2.2.2.2.2.2.2.2.2.1,s.2.2.2.2.2.2.2.2.2.2.1,s.2.2.2.2.2.2.2.2.2.2.2.1,s.2.2.2.2.2.2.2.2.2.2.2.2.1,s.2.2.2.2.2.2.2.2.2.2.2.2.2.1,s.2.2.2.2.2.2.2.2.2.2.2.2.2.2))
def Zc4:Lp:=⟨[(3,.own 4 Zw),(9,.own 2 Zw),(10,.v yI),(11,.v yI)],[.var (.agg [.v Zl,.v ZR,.v yI,.agg [.v yI,.v (.arr 2 yI),.own 1 ZB,.v yI],.v (.arr 2 Zp),.v yI,.own 2 Zw,.own 3 Zw,.v Z9]) true,.log ZB 82,.log Zw 84,.log Zw 84,.log Zw 84],[yI,yI,Zl,ZR,yI,yI,(.arr 2 yI),yI,(.arr 2 Zp),yI,Z9,(.sl ZB),(.sl Zw),(.sl Zw),(.sl Zw)],[⟨.exit 0,[(3,.own 4 Zw)],[.var (.agg [.v Zl,.v ZR,.v yI,.agg [.v yI,.v (.arr 2 yI),.own 1 ZB,.v yI],.v (.arr 2 Zp),.v yI,.own 2 Zw,.own 3 Zw,.v Z9]) true,.log ZB 82,.log Zw 84,.log Zw 84,.log Zw 84],[Zl,ZR,yI,yI,(.arr 2 yI),yI,(.arr 2 Zp),yI,Z9,(.sl ZB),(.sl Zw),(.sl Zw),(.sl Zw)]⟩],Zc (Wn fuel) fuel⟩
theorem ZhR:Zc4.Ok ya (Zj ya 13) (Zm ya 13 0):=Zh (fi:={ hi:={ own:=[3,15,17],still:=[2,15,16]},lp:=[]}) (specs:={ l:=[Zgt]}) (okS ⟨ZnX,trivial⟩) trivial (by kernel_rfl) (λv=>by kernel_rfl)
def Xw(F:Nat)(s0_0:ZH)(s0_1:Kit)(s0_2:Int)(s0_3:Int)(s0_4:(List Int))(s0_5:Int)(s0_6:(List Zz))(s0_7:Int)(s0_8:Sig)(s1:(List ZL))(s2:(List Msg))(s3:(List Msg)):Option (((List Msg)×ZH×Kit×Int×Int×(List Int)×Int×(List Zz)×Int×Sig×(List ZL)×(List Msg)×(List Msg))):=
 (Zc (Wn F) F ((s2.length:Int),(0:Int),s0_0,s0_1,s0_2,s0_3,s0_4,s0_5,s0_6,s0_7,s0_8,s1,s2,s3,([]:List Msg))).bind λo1073=>
 some (o1073.2.2.2.2.2.2.2.2.2.2.2.2,o1073.1,o1073.2.1,o1073.2.2.1,o1073.2.2.2.1,o1073.2.2.2.2.1,o1073.2.2.2.2.2.1,o1073.2.2.2.2.2.2.1,o1073.2.2.2.2.2.2.2.1,o1073.2.2.2.2.2.2.2.2.1,o1073.2.2.2.2.2.2.2.2.2.1,o1073.2.2.2.2.2.2.2.2.2.2.1,o1073.2.2.2.2.2.2.2.2.2.2.2.1)
def Zlr(F:Nat):Fs ya:=⟨13,[.ref 0 []],[.var (.agg [.v Zl,.v ZR,.v yI,.agg [.v yI,.v (.arr 2 yI),.own 1 ZB,.v yI],.v (.arr 2 Zp),.v yI,.own 2 Zw,.own 3 Zw,.v Z9]) true,.log ZB 82,.log Zw 84,.log Zw 84],[Zl,ZR,yI,yI,(.arr 2 yI),yI,(.arr 2 Zp),yI,Z9,(.sl ZB),(.sl Zw),(.sl Zw)],[⟨.ret,[(0,.v (.sl Zw))],[.var (.agg [.v Zl,.v ZR,.v yI,.agg [.v yI,.v (.arr 2 yI),.own 1 ZB,.v yI],.v (.arr 2 Zp),.v yI,.own 2 Zw,.own 3 Zw,.v Z9]) true,.log ZB 82,.log Zw 84,.log Zw 84],[(.sl Zw),Zl,ZR,yI,yI,(.arr 2 yI),yI,(.arr 2 Zp),yI,Z9,(.sl ZB),(.sl Zw),(.sl Zw)]⟩],λx=>Xw F x.1 x.2.1 x.2.2.1 x.2.2.2.1 x.2.2.2.2.1 x.2.2.2.2.2.1 x.2.2.2.2.2.2.1 x.2.2.2.2.2.2.2.1 x.2.2.2.2.2.2.2.2.1 x.2.2.2.2.2.2.2.2.2.1 x.2.2.2.2.2.2.2.2.2.2.1 x.2.2.2.2.2.2.2.2.2.2.2⟩
def QN:Fs ya:=Zlr fuel
theorem Zc5:QN.Ok:=Zf (fi:={ hi:={ own:=[3,15,17],still:=[2,15,16]},lp:=[(0,Zc4)]}) (specs:={ l:=[]}) (okS trivial) ⟨ZhR,trivial⟩ (by decide+kernel) (λx=>by kernel_rfl)
def QA(F:Nat)(a1:Msg)(s0:(List Msg)):Option ((List Msg)):=
 (Vz F s0 a1.1).bind λo1077=>
 if o1077.2=true then
  some s0
 else
 (XV F a1.2.2.2.2.2.2.2.2.2.2.2.2.2).bind λo1078=>
 if(apB s0.length 1 328)=true then
  let y1079:(List Msg):=s0++([(a1.1,0,0,(0,0,0,0,0),0,[],a1.2.2.2.2.2.2.1,a1.2.2.2.2.2.2.2.1,[0,0,0,0,0,0,0,0,0,0,0,0,0,0,0,0,0,0,0,0,0,0,0,0,0,0,0,0,0,0,0,0],0,([],[],0),(0,0,0,0,0),(0,0,0,0,0,0),o1078)]:List Msg)
  some y1079
 else
 none
def ZnY(F:Nat):Fs ya:=⟨47,[.own 0 Zw,.v Zw],[.log Zw 84],[Zw,(.sl Zw)],[⟨.ret,[(0,.own 0 Zw)],[.log Zw 84],[(.sl Zw)]⟩],λx=>QA F x.1 x.2⟩
def Zgu:Fs ya:=ZnY fuel
theorem ZnZ:Zgu.Ok:=Zf (fi:={ hi:={ own:=[0,16,28],still:=[4,8,10,20]},lp:=[]}) (specs:={ l:=[ZaM,Zdu]}) (okS ⟨QX,ZbZ,trivial⟩) trivial (by decide+kernel) (λx=>by kernel_rfl)
def W2(F:Nat)(a1:Msg)(s0_0:ZH)(s0_1:Kit)(s0_2:Int)(s0_3:Int)(s0_4:(List Int))(s0_5:Int)(s0_6:(List Zz))(s0_7:Int)(s0_8:Sig)(s1:(List ZL))(s2:(List Msg))(s3:(List Msg)):Option ((ZH×Kit×Int×Int×(List Int)×Int×(List Zz)×Int×Sig×(List ZL)×(List Msg)×(List Msg))):=
 (QA F a1 s2).bind λo1080=>
 some (s0_0,s0_1,s0_2,s0_3,s0_4,s0_5,s0_6,s0_7,s0_8,s1,o1080,s3)
def Zn0(F:Nat):Fs ya:=⟨48,[.ref 0 [],.v Zw],[.var (.agg [.v Zl,.v ZR,.v yI,.agg [.v yI,.v (.arr 2 yI),.own 1 ZB,.v yI],.v (.arr 2 Zp),.v yI,.own 2 Zw,.own 3 Zw,.v Z9]) true,.log ZB 82,.log Zw 84,.log Zw 84],[Zw,Zl,ZR,yI,yI,(.arr 2 yI),yI,(.arr 2 Zp),yI,Z9,(.sl ZB),(.sl Zw),(.sl Zw)],[⟨.ret,[(0,.tup [])],[.var (.agg [.v Zl,.v ZR,.v yI,.agg [.v yI,.v (.arr 2 yI),.own 1 ZB,.v yI],.v (.arr 2 Zp),.v yI,.own 2 Zw,.own 3 Zw,.v Z9]) true,.log ZB 82,.log Zw 84,.log Zw 84],[Zl,ZR,yI,yI,(.arr 2 yI),yI,(.arr 2 Zp),yI,Z9,(.sl ZB),(.sl Zw),(.sl Zw)]⟩],λx=>W2 F x.1 x.2.1 x.2.2.1 x.2.2.2.1 x.2.2.2.2.1 x.2.2.2.2.2.1 x.2.2.2.2.2.2.1 x.2.2.2.2.2.2.2.1 x.2.2.2.2.2.2.2.2.1 x.2.2.2.2.2.2.2.2.2.1 x.2.2.2.2.2.2.2.2.2.2.1 x.2.2.2.2.2.2.2.2.2.2.2.1 x.2.2.2.2.2.2.2.2.2.2.2.2⟩
def Zgv:Fs ya:=Zn0 fuel
theorem Zn1:Zgv.Ok:=Zf (fi:={ hi:={ own:=[8],still:=[8,9]},lp:=[]}) (specs:={ l:=[Zgu]}) (okS ⟨ZnZ,trivial⟩) trivial (by decide+kernel) (λx=>by kernel_rfl)
def Wj(F:Nat)(s0_0:ZH)(s0_1:Kit)(s0_2:Int)(s0_3:Int)(s0_4:(List Int))(s0_5:Int)(s0_6:(List Zz))(s0_7:Int)(s0_8:Sig)(s1:(List ZL))(s2:(List Msg))(s3:(List Msg)):Option (((List Msg)×ZH×Kit×Int×Int×(List Int)×Int×(List Zz)×Int×Sig×(List ZL)×(List Msg)×(List Msg))):=
 if(s0_2==s0_0.2.2.2.2)=true then
  if(inB s0_2 2)=true then
   (s0_6[s0_2.toNat]?).bind λe1075=>
   (W5 F e1075).bind λo1076=>
   (W2 F ((12:Int),(0:Int),(0:Int),((0:Int),(0:Int),(0:Int),(0:UInt64),(0:Int)),(0:UInt64),([]:List UInt8),s0_7,((0:UInt64),(0:UInt64)),([0,0,0,0,0,0,0,0,0,0,0,0,0,0,0,0,0,0,0,0,0,0,0,0,0,0,0,0,0,0,0,0]:List UInt8),(0:UInt64),(([]:List In),([]:List Out),(0:Int)),((0:UInt64),(0:UInt64),(0:UInt64),(0:UInt64),(0:UInt64)),((0:Int),(0:Int),(0:Int),(0:Int),(0:Int),(0:Int)),o1076) s0_0 s0_1 s0_2 s0_3 s0_4 s0_5 s0_6 s0_7 s0_8 s1 s2 s3).bind λo1081=>
   (Xw F o1081.1 o1081.2.1 o1081.2.2.1 o1081.2.2.2.1 o1081.2.2.2.2.1 o1081.2.2.2.2.2.1 o1081.2.2.2.2.2.2.1 o1081.2.2.2.2.2.2.2.1 o1081.2.2.2.2.2.2.2.2.1 o1081.2.2.2.2.2.2.2.2.2.1 o1081.2.2.2.2.2.2.2.2.2.2.1 o1081.2.2.2.2.2.2.2.2.2.2.2).bind λo1082=>
   some (o1082.1,o1082.2.1,o1082.2.2.1,o1082.2.2.2.1,o1082.2.2.2.2.1,o1082.2.2.2.2.2.1,o1082.2.2.2.2.2.2.1,o1082.2.2.2.2.2.2.2.1,o1082.2.2.2.2.2.2.2.2.1,o1082.2.2.2.2.2.2.2.2.2.1,o1082.2.2.2.2.2.2.2.2.2.2.1,o1082.2.2.2.2.2.2.2.2.2.2.2.1,o1082.2.2.2.2.2.2.2.2.2.2.2.2)
  else
  none
 else
 if(inB s0_2 2)=true then
  (s0_6[s0_2.toNat]?).bind λe1083=>
  (W5 F e1083).bind λo1084=>
  (W2 F ((12:Int),(0:Int),(0:Int),((0:Int),(0:Int),(0:Int),(0:UInt64),(0:Int)),(0:UInt64),([]:List UInt8),(0:Int),((0:UInt64),(0:UInt64)),([0,0,0,0,0,0,0,0,0,0,0,0,0,0,0,0,0,0,0,0,0,0,0,0,0,0,0,0,0,0,0,0]:List UInt8),(0:UInt64),(([]:List In),([]:List Out),(0:Int)),((0:UInt64),(0:UInt64),(0:UInt64),(0:UInt64),(0:UInt64)),((0:Int),(0:Int),(0:Int),(0:Int),(0:Int),(0:Int)),o1084) s0_0 s0_1 s0_2 s0_3 s0_4 s0_5 s0_6 s0_7 s0_8 s1 s2 s3).bind λo1085=>
  (Xw F o1085.1 o1085.2.1 o1085.2.2.1 o1085.2.2.2.1 o1085.2.2.2.2.1 o1085.2.2.2.2.2.1 o1085.2.2.2.2.2.2.1 o1085.2.2.2.2.2.2.2.1 o1085.2.2.2.2.2.2.2.2.1 o1085.2.2.2.2.2.2.2.2.2.1 o1085.2.2.2.2.2.2.2.2.2.2.1 o1085.2.2.2.2.2.2.2.2.2.2.2).bind λo1086=>
  some (o1086.1,o1086.2.1,o1086.2.2.1,o1086.2.2.2.1,o1086.2.2.2.2.1,o1086.2.2.2.2.2.1,o1086.2.2.2.2.2.2.1,o1086.2.2.2.2.2.2.2.1,o1086.2.2.2.2.2.2.2.2.1,o1086.2.2.2.2.2.2.2.2.2.1,o1086.2.2.2.2.2.2.2.2.2.2.1,o1086.2.2.2.2.2.2.2.2.2.2.2.1,o1086.2.2.2.2.2.2.2.2.2.2.2.2)
 else
 none
def Zls(F:Nat):Fs ya:=⟨14,[.ref 0 []],[.var (.agg [.v Zl,.v ZR,.v yI,.agg [.v yI,.v (.arr 2 yI),.own 1 ZB,.v yI],.v (.arr 2 Zp),.v yI,.own 2 Zw,.own 3 Zw,.v Z9]) true,.log ZB 82,.log Zw 84,.log Zw 84],[Zl,ZR,yI,yI,(.arr 2 yI),yI,(.arr 2 Zp),yI,Z9,(.sl ZB),(.sl Zw),(.sl Zw)],[⟨.ret,[(0,.v (.sl Zw))],[.var (.agg [.v Zl,.v ZR,.v yI,.agg [.v yI,.v (.arr 2 yI),.own 1 ZB,.v yI],.v (.arr 2 Zp),.v yI,.own 2 Zw,.own 3 Zw,.v Z9]) true,.log ZB 82,.log Zw 84,.log Zw 84],[(.sl Zw),Zl,ZR,yI,yI,(.arr 2 yI),yI,(.arr 2 Zp),yI,Z9,(.sl ZB),(.sl Zw),(.sl Zw)]⟩],λx=>Wj F x.1 x.2.1 x.2.2.1 x.2.2.2.1 x.2.2.2.2.1 x.2.2.2.2.2.1 x.2.2.2.2.2.2.1 x.2.2.2.2.2.2.2.1 x.2.2.2.2.2.2.2.2.1 x.2.2.2.2.2.2.2.2.2.1 x.2.2.2.2.2.2.2.2.2.2.1 x.2.2.2.2.2.2.2.2.2.2.2⟩
def ZdS:Fs ya:=Zls fuel
theorem Zlt:ZdS.Ok:=Zf (fi:={ hi:={ still:=[2,30,33,35]},lp:=[]}) (specs:={ l:=[ZaW,Zgv,QN]}) (okS ⟨QQ,Zn1,Zc5,trivial⟩) trivial (by decide+kernel) (λx=>by kernel_rfl)
def Ym(F:Nat)(a0:Corsnedlaw21Play)(a1:Int)(a2:Zz)(a3:Int):Option (Bool):=
 ((some true)).bind λo1024=>
 (Vq F a0).bind λo1025=>
 (VV F a2).bind λo1027=>
 if(!o1027)=true then
  some o1024
 else
 (o1025.2.1[0]?).bind λe1028=>
 (YA F (a1,a3,o1024,a0,a2,o1025.1,o1025.2.1,o1025.2.2,e1028)).bind λo1030=>
 (Vj F o1030.2.2.2.2.2.1 o1030.2.2.2.2.2.2.2.2 o1030.1 o1030.2.2.2.2.2.2.2.1 o1030.2.2.2.2.1 o1030.2.1).bind λo1031=>
 match o1031 with
 |.inl o1032=>
  (YB F (o1030.1,o1030.2.1,o1030.2.2.1,o1032,(0:Int),o1030.2.2.2.1,o1030.2.2.2.2.1,o1030.2.2.2.2.2.1,o1030.2.2.2.2.2.2.1,o1030.2.2.2.2.2.2.2.1,o1030.2.2.2.2.2.2.2.2)).bind λo1035=>
  (YC F (o1035.1,o1035.2.1,o1035.2.2.1,o1035.2.2.2.1,o1035.2.2.2.2.1,o1035.2.2.2.2.2.1,o1035.2.2.2.2.2.2.1,o1035.2.2.2.2.2.2.2.1,o1035.2.2.2.2.2.2.2.2.1,o1035.2.2.2.2.2.2.2.2.2)).bind λo1036=>
  (XT F o1036.2.2.2.2.2.1).bind λo1037=>
  (YD F (o1036.1,o1036.2.1,o1036.2.2.1,o1036.2.2.2.1,o1037,o1036.2.2.2.2.1,o1036.2.2.2.2.2.1,o1036.2.2.2.2.2.2.1,o1036.2.2.2.2.2.2.2.1,o1036.2.2.2.2.2.2.2.2.1,o1036.2.2.2.2.2.2.2.2.2)).bind λo1038=>
  (YE F (o1038.1,o1038.2.1,o1038.2.2.1,o1038.2.2.2.1,o1038.2.2.2.2.1,o1038.2.2.2.2.2.1,o1038.2.2.2.2.2.2.1,o1038.2.2.2.2.2.2.2.1,o1038.2.2.2.2.2.2.2.2)).bind λo1039=>
  match o1039 with
  |.inl o1040=>
   some o1040.1
  |.inr o1041=>
   some o1041.1
 |.inr o1042=>
  (YF F (o1030.1,o1030.2.1,o1030.2.2.1,o1042.1,(0:Int),o1030.2.2.2.1,o1030.2.2.2.2.1,o1030.2.2.2.2.2.1,o1030.2.2.2.2.2.2.1,o1030.2.2.2.2.2.2.2.1,o1030.2.2.2.2.2.2.2.2,o1042.2.1,o1042.2.2.1,o1042.2.2.2.1,o1042.2.2.2.2.1,o1042.2.2.2.2.2.1,o1042.2.2.2.2.2.2.1,o1042.2.2.2.2.2.2.2.1,o1042.2.2.2.2.2.2.2.2.1,o1042.2.2.2.2.2.2.2.2.2.1,o1042.2.2.2.2.2.2.2.2.2.2.1,o1042.2.2.2.2.2.2.2.2.2.2.2.1,o1042.2.2.2.2.2.2.2.2.2.2.2.2)).bind λo1045=>
  (YG F (o1045.1,o1045.2.1,o1045.2.2.1,o1045.2.2.2.1,o1045.2.2.2.2.1,o1045.2.2.2.2.2.1,o1045.2.2.2.2.2.2.1,o1045.2.2.2.2.2.2.2.1,o1045.2.2.2.2.2.2.2.2.1,o1045.2.2.2.2.2.2.2.2.2.1,o1045.2.2.2.2.2.2.2.2.2.2.1,o1045.2.2.2.2.2.2.2.2.2.2.2.1,o1045.2.2.2.2.2.2.2.2.2.2.2.2.1,o1045.2.2.2.2.2.2.2.2.2.2.2.2.2.1,o1045.2.2.2.2.2.2.2.2.2.2.2.2.2.2.1,o1045.2.2.2.2.2.2.2.2.2.2.2.2.2.2.2.1,o1045.2.2.2.2.2.2.2.2.2.2.2.2.2.2.2.2.1,o1045.2.2.2.2.2.2.2.2.2.2.2.2.2.2.2.2.2.1,o1045.2.2.2.2.2.2.2.2.2.2.2.2.2.2.2.2.2.2.1,o1045.2.2.2.2.2.2.2.2.2.2.2.2.2.2.2.2.2.2.2.1,o1045.2.2.2.2.2.2.2.2.2.2.2.2.2.2.2.2.2.2.2.2.1,o1045.2.2.2.2.2.2.2.2.2.2.2.2.2.2.2.2.2.2.2.2.2)).bind λo1046=>
  (XT F o1046.2.2.2.2.2.1).bind λo1047=>
  (YH F (o1046.1,o1046.2.1,o1046.2.2.1,o1046.2.2.2.1,o1047,o1046.2.2.2.2.1,o1046.2.2.2.2.2.1,o1046.2.2.2.2.2.2.1,o1046.2.2.2.2.2.2.2.1,o1046.2.2.2.2.2.2.2.2.1,o1046.2.2.2.2.2.2.2.2.2.1,o1046.2.2.2.2.2.2.2.2.2.2.1,o1046.2.2.2.2.2.2.2.2.2.2.2.1,o1046.2.2.2.2.2.2.2.2.2.2.2.2.1,o1046.2.2.2.2.2.2.2.2.2.2.2.2.2.1,o1046.2.2.2.2.2.2.2.2.2.2.2.2.2.2.1,o1046.2.2.2.2.2.2.2.2.2.2.2.2.2.2.2.1,o1046.2.2.2.2.2.2.2.2.2.2.2.2.2.2.2.2.1,o1046.2.2.2.2.2.2.2.2.2.2.2.2.2.2.2.2.2.1,o1046.2.2.2.2.2.2.2.2.2.2.2.2.2.2.2.2.2.2.1,o1046.2.2.2.2.2.2.2.2.2.2.2.2.2.2.2.2.2.2.2.1,o1046.2.2.2.2.2.2.2.2.2.2.2.2.2.2.2.2.2.2.2.2.1,o1046.2.2.2.2.2.2.2.2.2.2.2.2.2.2.2.2.2.2.2.2.2)).bind λo1048=>
  (Yr F (o1048.1,o1048.2.1,o1048.2.2.1,o1048.2.2.2.1,o1048.2.2.2.2.1,o1048.2.2.2.2.2.1,o1048.2.2.2.2.2.2.1,o1048.2.2.2.2.2.2.2.1,o1048.2.2.2.2.2.2.2.2.1,o1048.2.2.2.2.2.2.2.2.2.1,o1048.2.2.2.2.2.2.2.2.2.2.1,o1048.2.2.2.2.2.2.2.2.2.2.2.1,o1048.2.2.2.2.2.2.2.2.2.2.2.2.1,o1048.2.2.2.2.2.2.2.2.2.2.2.2.2.1,o1048.2.2.2.2.2.2.2.2.2.2.2.2.2.2.1,o1048.2.2.2.2.2.2.2.2.2.2.2.2.2.2.2.1,o1048.2.2.2.2.2.2.2.2.2.2.2.2.2.2.2.2.1,o1048.2.2.2.2.2.2.2.2.2.2.2.2.2.2.2.2.2.1,o1048.2.2.2.2.2.2.2.2.2.2.2.2.2.2.2.2.2.2.1,o1048.2.2.2.2.2.2.2.2.2.2.2.2.2.2.2.2.2.2.2.1,o1048.2.2.2.2.2.2.2.2.2.2.2.2.2.2.2.2.2.2.2.2)).bind λo1049=>
  match o1049 with
  |.inl o1050=>
   some o1050.1
  |.inr o1051=>
   (V5 F o1051.2.2.2.2.2.2.2.1 o1051.2.2.2.2.2.2.2.2.1 o1051.2.2.2.2.2.2.2.2.2.1 o1051.2.2.2.2.2.2.2.2.2.2.1 o1051.2.2.2.2.2.2.2.2.2.2.2.1 o1051.2.2.2.2.2.2.2.2.2.2.2.2.1 o1051.2.2.2.2.2.2.2.2.2.2.2.2.2.1 o1051.2.2.2.2.2.2.2.2.2.2.2.2.2.2.1 o1051.2.2.2.2.2.2.2.2.2.2.2.2.2.2.2.1 o1051.2.2.2.2.2.2.2.2.2.2.2.2.2.2.2.2.1 o1051.2.2.2.2.2.2.2.2.2.2.2.2.2.2.2.2.2.1 o1051.2.2.2.2.2.2.2.2.2.2.2.2.2.2.2.2.2.2).bind λo1067=>
   if o1051.1=true then
    if(!o1067.2.1)=true then
     (Xw F o1067.2.2.1 o1067.2.2.2.1 o1067.2.2.2.2.1 o1067.2.2.2.2.2.1 o1067.2.2.2.2.2.2.1 o1067.2.2.2.2.2.2.2.1 o1067.2.2.2.2.2.2.2.2.1 o1067.2.2.2.2.2.2.2.2.2.1 o1067.2.2.2.2.2.2.2.2.2.2.1 o1067.2.2.2.2.2.2.2.2.2.2.2.1 o1067.2.2.2.2.2.2.2.2.2.2.2.2.1 o1067.2.2.2.2.2.2.2.2.2.2.2.2.2).bind λo1074=>
     if((o1074.1.length:Int)==0)=true then
      (Wj F o1074.2.1 o1074.2.2.1 o1074.2.2.2.1 o1074.2.2.2.2.1 o1074.2.2.2.2.2.1 o1074.2.2.2.2.2.2.1 o1074.2.2.2.2.2.2.2.1 o1074.2.2.2.2.2.2.2.2.1 o1074.2.2.2.2.2.2.2.2.2.1 o1074.2.2.2.2.2.2.2.2.2.2.1 o1074.2.2.2.2.2.2.2.2.2.2.2.1 o1074.2.2.2.2.2.2.2.2.2.2.2.2).bind λo1087=>
      if((o1087.1.length:Int)==1)=true then
       (Wj F o1087.2.1 o1087.2.2.1 o1087.2.2.2.1 o1087.2.2.2.2.1 o1087.2.2.2.2.2.1 o1087.2.2.2.2.2.2.1 o1087.2.2.2.2.2.2.2.1 o1087.2.2.2.2.2.2.2.2.1 o1087.2.2.2.2.2.2.2.2.2.1 o1087.2.2.2.2.2.2.2.2.2.2.1 o1087.2.2.2.2.2.2.2.2.2.2.2.1 o1087.2.2.2.2.2.2.2.2.2.2.2.2).bind λo1088=>
       some ((o1088.1.length:Int)==1)
      else
      some false
     else
     some false
    else
    some false
   else
   some false
def Zeo(F:Nat):Fs ya:=⟨3,[.v Zd,.v yI,.v Zp,.v yI],[],[Zd,yI,Zp,yI],[⟨.ret,[(0,.v .bool)],[],[.bool]⟩],λx=>Ym F x.1 x.2.1 x.2.2.1 x.2.2.2⟩
def ZfF:Fs ya:=Zeo fuel
theorem Zep:ZfF.Ok:=Zf (fi:={ hi:={ still:=[8,22,27,38,39,40,41,42,43,78,104,114,120,126]},lp:=[],bk:=[(7,VX),(11,VY),(13,VZ),(16,V0),(18,V1),(11,V2),(13,V3),(16,V4),(18,Vv)]}) (specs:={ l:=[ZKn,ZdQ,ZfD,Zm6,Zc1,ZfE,QN,ZdS]}) (okS ⟨ZLU,Zc0,Zmu,Zu3,ZjS,Zmw,Zc5,Zlt,trivial⟩) trivial (by decide+kernel) (λx=>by kernel_rfl) (hb:=⟨Zb0,Zb1,Zb2,Zb3,Zb4,Zb5,Zb6,Zb7,Zbf,trivial⟩)
end
end Go.Proofs.YtmkgbalfkhaflaaGreat
end
section
set_option maxRecDepth 4000
namespace Go.Proofs.YtmkgbalfkhaflaaGreat
open Go Go.Ev
theorem ZLV(l:Zz):∃b,VV fuel l=some b∧(b=true→Zzw l):=by
 unfold VV
 obtain⟨x,h1,h2⟩:=Yq (step:=XE fuel) 7 (λk s=>s=((k:Int),l)∧∀j e,j < k→l[j]? =some e→e.1.length≤20) (λx=>(∃y,x=.inl (false,y))∨x=.inr l∧∀j e,j < 7→l[j]? =some e→e.1.length≤20) (i:=((0:Int),l)) ⟨rfl,λj e hj=>by omega⟩ (by omega) (by
  rintro k _ hk ⟨rfl,hj⟩;unfold XE;dsimp only;by_cases hl:k < l.length
  ·obtain⟨e,he,_⟩:=Zt hl;rw[if_pos (YK hl),if_pos (decide_eq_true (by omega)),ZG he,yb];by_cases h20:(e.1.length:Int) > 20
   ·rw[if_pos (decide_eq_true h20)];right;exact⟨_,rfl,.inl ⟨_,rfl⟩⟩
   ·rw[if_neg (by rw[decide_eq_true_iff];exact h20),ZK (by omega)];left;refine⟨_,rfl,rfl,λj f h3 h4=> ?_⟩;by_cases h5:j < k
    ·exact hj j f h5 h4
    ·have:j=k:=by omega
     subst this;rw[he] at h4;cases h4;omega
  ·rw[if_neg (by rw[decide_eq_true_iff];omega)];right;refine⟨_,rfl,.inr ⟨rfl,λj e _ h4=> ?_⟩⟩;have:=(yp.1 h4).1;exact hj j e (by omega) h4) (by
  rintro _ ⟨rfl,hj⟩;unfold XE;dsimp only;by_cases hl:7 < l.length
  ·rw[if_pos (decide_eq_true (by omega)),if_neg (by simp)];exact⟨_,rfl,.inr ⟨rfl,hj⟩⟩
  ·rw[if_neg (by rw[decide_eq_true_iff];omega)];exact⟨_,rfl,.inr ⟨rfl,hj⟩⟩)
 rw[h1,yb];rcases h2 with⟨y,rfl⟩|⟨rfl,h2⟩
 ·exact⟨_,rfl,λh=>by cases h⟩
 ·refine⟨_,rfl,λh=> ?_⟩;have h6:=of_decide_eq_true h;refine⟨by omega,λb hb=> ?_⟩;obtain⟨j,hj1,hj2⟩:=ycr hb;have:=h2 j b (by omega) (by rw[yac hj1,hj2]);omega
theorem ZDg{b:ZC}:∃r,WI fuel b=some r∧(r=true↔Zwh b∧Zwi b):=by
 unfold WI Zwh Zwi;by_cases h1:(b.1.length:Int) > 12
 ·rw[if_pos (decide_eq_true h1)];exact⟨_,rfl,by simp;omega⟩
 rw[if_neg (by rw[decide_eq_true_iff];exact h1)];by_cases h2:b.2.1 < 0
 ·rw[if_pos (decide_eq_true h2)];exact⟨_,rfl,by simp;omega⟩
 rw[if_neg (by rw[decide_eq_true_iff];exact h2)];by_cases h3:b.2.1 > 1048576
 ·rw[if_pos (decide_eq_true h3)];exact⟨_,rfl,by simp;omega⟩
 rw[if_neg (by rw[decide_eq_true_iff];exact h3)];by_cases h4:b.2.2.1 < 0
 ·rw[if_pos (decide_eq_true h4)];exact⟨_,rfl,by simp;omega⟩
 rw[if_neg (by rw[decide_eq_true_iff];exact h4)];by_cases h5:b.2.2.1 > 1048576
 ·rw[if_pos (decide_eq_true h5)];exact⟨_,rfl,by simp;omega⟩
 rw[if_neg (by rw[decide_eq_true_iff];exact h5)]
 obtain⟨x,g1,g2⟩:=Yq (step:=YX fuel) b.1.length (λk s=>s=((k:Int),b)∧∀j p,j < k→b.1[j]? =some p→QH p.toNat) (λx=>(x=.inl (false,b)∧¬∀p,p∈b.1→QH p.toNat)∨x=.inr b∧∀p,p∈b.1→QH p.toNat) (i:=((0:Int),b)) ⟨rfl,λj p hj=>by omega⟩ (by omega) (by
  rintro k _ hk ⟨rfl,hj⟩;obtain⟨e,he,hm⟩:=Zt hk;unfold YX;dsimp only;rw[if_pos (YK hk),ZG he,yb,ZhP,yb,ZK (by omega)];by_cases hp:QH e.toNat
  ·rw[decide_eq_true hp];left;refine⟨_,rfl,rfl,λj p h3 h4=> ?_⟩;by_cases h5:j < k
   ·exact hj j p h5 h4
   ·have:j=k:=by omega
    subst this;rw[he] at h4;cases h4;exact hp
  ·rw[decide_eq_false hp];right;exact⟨_,rfl,.inl ⟨rfl,λh=>hp (h e hm)⟩⟩) (by
  rintro _ ⟨rfl,hj⟩;unfold YX;dsimp only;rw[if_neg (by rw[Yd];decide)];refine⟨_,rfl,.inr ⟨rfl,λp hp=> ?_⟩⟩;obtain⟨j,hj1,hj2⟩:=ycr hp;exact hj j p hj1 (by rw[yac hj1,hj2]))
 rw[g1,yb];have hr:b.1.length≤12∧0≤b.2.1∧b.2.1≤1048576∧0≤b.2.2.1∧b.2.2.1≤1048576:=by omega
 rcases g2 with⟨rfl,g2⟩|⟨rfl,g2⟩
 ·exact⟨_,rfl,by simp only[Bool.false_eq_true,false_iff];exact λh=>g2 h.2.1⟩
 ·dsimp only;rw[ZhP,yb];by_cases h0:b.2.2.2=0
  ·rw[if_pos (by rw[h0];rfl)];exact⟨_,rfl,⟨λ_=>⟨hr,g2,λh=>absurd h0 h⟩,λ_=>rfl⟩⟩
  ·rw[if_neg (by rw[beq_iff_eq];exact h0)];exact⟨_,rfl,⟨λh=>⟨hr,g2,λ_=>of_decide_eq_true h⟩,λh=>decide_eq_true (h.2.2 h0)⟩⟩
theorem ZIG{l:Zz}(hl:Zzw l):∃r,XT fuel l=some r∧(r=true↔Zdv l∧ZiS l):=by
 unfold XT;by_cases h1:(l.length:Int) < 1
 ·rw[if_pos (decide_eq_true h1)];exact⟨_,rfl,by unfold Zdv;simp;omega⟩
 rw[if_neg (by rw[decide_eq_true_iff];exact h1)];by_cases h2:(l.length:Int) > 4
 ·rw[if_pos (decide_eq_true h2)];exact⟨_,rfl,by unfold Zdv;simp;omega⟩
 rw[if_neg (by rw[decide_eq_true_iff];exact h2)]
 obtain⟨x,g1,g2⟩:=Yq (step:=Xf fuel) l.length (λk s=>s=((k:Int),l)∧∀j p,j < k→l[j]? =some p→Zwh p∧Zwi p) (λx=>(x=.inl (false,l)∧¬∀p,p∈l→Zwh p∧Zwi p)∨x=.inr l∧∀p,p∈l→Zwh p∧Zwi p) (i:=((0:Int),l)) ⟨rfl,λj p hj=>by omega⟩ (by omega) (by
  rintro k _ hk ⟨rfl,hj⟩;obtain⟨e,he,hm⟩:=Zt hk;obtain⟨r,r1,r2⟩:=ZDg (b:=e);unfold Xf;dsimp only;rw[if_pos (YK hk),ZG he,yb,r1,yb,ZK (by omega)]
  cases r with
  |true=>
   left;refine⟨_,rfl,rfl,λj p h3 h4=> ?_⟩;by_cases h5:j < k
   ·exact hj j p h5 h4
   ·have:j=k:=by omega
    subst this;rw[he] at h4;cases h4
    exact r2.1 rfl
  |false=>
   right;exact⟨_,rfl,.inl ⟨rfl,λh=>by have:=r2.2 (h e hm);cases this⟩⟩) (by
  rintro _ ⟨rfl,hj⟩;unfold Xf;dsimp only;rw[if_neg (by rw[Yd];decide)];refine⟨_,rfl,.inr ⟨rfl,λp hp=> ?_⟩⟩;obtain⟨j,hj1,hj2⟩:=ycr hp;exact hj j p hj1 (by rw[yac hj1,hj2]))
 rw[g1,yb];rcases g2 with⟨rfl,g2⟩|⟨rfl,g2⟩
 ·exact⟨_,rfl,by simp only[Bool.false_eq_true,false_iff];exact λh=>g2 λp hp=>⟨h.1.2.2 p hp,h.2 p hp⟩⟩
 ·exact⟨_,rfl,⟨λ_=>⟨⟨by omega,by omega,λb hb=>(g2 b hb).1⟩,λb hb=>(g2 b hb).2⟩,λ_=>rfl⟩⟩
def ZM3:Msg:=((0:Int),(0:Int),(0:Int),((0:Int),(0:Int),(0:Int),(0:UInt64),(0:Int)),(0:UInt64),([]:List UInt8),(0:Int),((0:UInt64),(0:UInt64)),([0,0,0,0,0,0,0,0,0,0,0,0,0,0,0,0,0,0,0,0,0,0,0,0,0,0,0,0,0,0,0,0]:List UInt8),(0:UInt64),(([]:List In),([]:List Out),(0:Int)),((0:UInt64),(0:UInt64),(0:UInt64),(0:UInt64),(0:UInt64)),((0:Int),(0:Int),(0:Int),(0:Int),(0:Int),(0:Int)),([]:List UInt8))
def fnd(l:List Msg)(k:Int):Option Msg:=l.find? λe=>e.1==k
theorem ZIH{l:List Msg}(hl:l.length≤1000000)(k:Int):(fnd l k=none∧Zkk fuel l k=some (-1,k))∨∃(j:Nat)(e:Msg),fnd l k=some e∧l[j]? =some e∧Zkk fuel l k=some ((j:Int),k):=by
 unfold Zkk
 obtain⟨x,g1,g2⟩:=Yq (step:=Zcw fuel) l.length (λj s=>s=(l,(l.length:Int),(j:Int),k)∧fnd l k=fnd (l.drop j) k) (λx=>(x=.inr k∧fnd l k=none)∨∃(j:Nat)(e:Msg),x=.inl ((j:Int),k)∧fnd l k=some e∧l[j]? =some e) (i:=(l,(l.length:Int),(0:Int),k)) ⟨rfl,rfl⟩ (by omega) (by
  rintro j _ hk ⟨rfl,hj⟩;obtain⟨e,he,hm⟩:=Zt hk;unfold Zcw Zc9;dsimp only;rw[if_pos (YK hk),ZG he,yb,yb,ZK (by omega)];rw[ZED he] at hj;unfold fnd at hj ⊢;rw[List.find?_cons] at hj;by_cases h:e.1=k
  ·have hb:(e.1==k)=true:=by rw[h];exact beq_self_eq_true _
   rw[hb] at hj;right;dsimp only;rw[if_pos hb];exact⟨_,rfl,.inr ⟨j,e,rfl,hj,he⟩⟩
  ·have hb:(e.1==k)=false:=by rw[beq_eq_false_iff_ne];exact h
   rw[hb] at hj;left;dsimp only;rw[if_neg (by rw[hb];decide)];exact⟨_,rfl,rfl,hj⟩) (by
  rintro _ ⟨rfl,hj⟩;unfold Zcw;dsimp only;rw[if_neg (by rw[Yd];decide)];rw[List.drop_length] at hj;exact⟨_,rfl,.inl ⟨rfl,hj⟩⟩)
 rw[g1,yb];rcases g2 with⟨rfl,g2⟩|⟨j,e,rfl,g2,g3⟩
 ·exact .inl ⟨g2,rfl⟩
 ·exact .inr ⟨j,e,g2,g3,rfl⟩
theorem Zzy{l:List Msg}(hl:l.length≤1000000)(k:Int):Vz fuel l k=some ((fnd l k).getD ZM3,(fnd l k).isSome):=by
 unfold Vz;rcases ZIH hl k with⟨h1,h2⟩|⟨j,e,h1,h2,h3⟩
 ·rw[h2,h1,yb];rfl
 ·rw[h3,h1,yb,if_neg (by rw[decide_eq_true_iff];omega),ZG h2];rfl
theorem Zxo{b:List UInt8}(h:b.length≤1000000000):XV fuel b=some b:=by
 unfold XV;rw[if_pos (Ys (by omega) (by omega))]
def ZM4(m:Msg):Msg:=(m.1,0,0,(0,0,0,0,0),0,[],m.2.2.2.2.2.2.1,m.2.2.2.2.2.2.2.1,[0,0,0,0,0,0,0,0,0,0,0,0,0,0,0,0,0,0,0,0,0,0,0,0,0,0,0,0,0,0,0,0],0,([],[],0),(0,0,0,0,0),(0,0,0,0,0,0),m.2.2.2.2.2.2.2.2.2.2.2.2.2)
def byt(m:Msg):List UInt8:=m.2.2.2.2.2.2.2.2.2.2.2.2.2
def Zc6(l:List Msg)(m:Msg):List Msg:=if(fnd l m.1).isSome=true then l else l++[ZM4 m]
theorem ZII{l:List Msg}{m:Msg}(hl:l.length≤1000000)(hm:(byt m).length≤1000000000):Qz fuel m l=some (Zc6 l m):=by
 unfold Qz Zc6;rw[Zzy hl,yb];dsimp only;split
 ·rfl
 ·have hb:XV fuel m.2.2.2.2.2.2.2.2.2.2.2.2.2=some m.2.2.2.2.2.2.2.2.2.2.2.2.2:=Zxo hm;rw[hb,yb,if_pos (Ys (by omega) (by omega))];rfl
theorem ZIJ{l:List Msg}{m:Msg}(hl:l.length≤1000000)(hm:(byt m).length≤1000000000):QA fuel m l=some (Zc6 l m):=by
 unfold QA Zc6;rw[Zzy hl,yb];dsimp only;split
 ·rfl
 ·have hb:XV fuel m.2.2.2.2.2.2.2.2.2.2.2.2.2=some m.2.2.2.2.2.2.2.2.2.2.2.2.2:=Zxo hm;rw[hb,yb,if_pos (Ys (by omega) (by omega))];rfl
def Zlu(l:List Msg):List Msg:=l.foldl Zc6 []
theorem Zxp(l:List Msg)(m:Msg):(Zc6 l m).length≤l.length+1:=by
 unfold Zc6;split <;> simp
theorem ZBE:∀(l acc:List Msg),(l.foldl Zc6 acc).length≤acc.length+l.length
 |[],acc=>by simp
 |m::r,acc=>by
  have h1:=ZBE r (Zc6 acc m);have h2:=Zxp acc m;rw[List.foldl_cons,yad];omega
theorem Zvn{l:List Msg}(hl:l.length≤100000)(hm:∀m,m∈l→(byt m).length≤1000000000)(c:ZH)(k:Kit)(me no:Int)(hv:List Int)(r:Int)(lk:List Zz)(fee:Int)(sg:Sig)(cs:List ZL)(hd:List Msg):
 Xw fuel c k me no hv r lk fee sg cs l hd=some (Zlu l,c,k,me,no,hv,r,lk,fee,sg,cs,l,hd):=by
 unfold Xw
 rw[show((l.length:Int),(0:Int),c,k,me,no,hv,r,lk,fee,sg,cs,l,hd,([]:List Msg))=(λj:Nat=>((l.length:Int),(j:Int),c,k,me,no,hv,r,lk,fee,sg,cs,l,hd,Zlu (l.take j))) 0 from rfl,
  Y3 (x:=(c,k,me,no,hv,r,lk,fee,sg,cs,l,hd,Zlu l)) l.length (λj:Nat=>((l.length:Int),(j:Int),c,k,me,no,hv,r,lk,fee,sg,cs,l,hd,Zlu (l.take j))) ?_ ?_ (by omega),yb]
 ·intro j hj;obtain⟨e,he,hme⟩:=Zt hj;have h1:=ZBE (l.take j) [];rw[yag] at h1;unfold Wn;dsimp only;rw[if_pos (YK hj),ZG he,yb,ZII (by unfold Zlu;simp at h1 ⊢;omega) (hm e hme),yb,ZK (by omega),ZiB he];unfold Zlu;rw[List.foldl_append];rfl
 ·unfold Wn;dsimp only;rw[if_neg (by rw[Yd];decide),ybt]
theorem ZF3(k:Kit):Zen fuel k=some (Z4 k):=by
 unfold Zen;rw[ZlU,yb,ZlU,yb,ZlU,yb,ZlU,yb,ZlU,yb];rfl
def ZDh(k0 k1:Kit)(me:Int):Kit:=if me=1 then k1 else k0
def ZBF(op h0 h1 me fee:Int):Bool:=if me=op then decide (52≤fee∧fee≤hav op h0 h1) else fee==0
theorem ZJ4{A:Int}{k0 k1:Kit}{op:Int}(ho:op=0∨op=1){s:State}{h0 h1:Int}(hv:s.2.1=[h0,h1])(me fee:Int):X1 fuel (YM A k0 k1 op) s me fee=some (ZBF op h0 h1 me fee):=by
 unfold ZBF;by_cases h:me=op
 ·rw[if_pos h,h,ZJ1 ho hv]
 ·rw[if_neg h,ZJ2 h]
theorem ZLW{A:Int}{k0 k1:Kit}{op:Int}(h:ChOk A k0 k1 op){s:State}{h0 h1:Int}(hs:StIn A s h0 h1)(hc:hav op h0 h1 ≥ cost s.2.2.2 s.2.2.1.length){me:Int}(hme:me=0∨me=1){l:Zz}(hl:Zzw l)(fee:Int):
 ∃r,YQ fuel l=some r∧(r=true↔Zdv l∧ZiS l)∧Vj fuel (YM A k0 k1 op) (ZDh k0 k1 me) me s l fee=
  if r=false then some (.inl 1) else if s.2.2.1≠[] then some (.inl 14) else if ZBF op h0 h1 me fee=false then some (.inl 13)
  else some (.inr (0,YM A k0 k1 op,ZDh k0 k1 me,me,s.1,s.2.1,s.2.2.2,([([]:Zz),([]:Zz)]:List Zz).set me.toNat l,fee,((0:UInt64),(0:UInt64)),([]:List ZL),([]:List Msg),([]:List Msg))):=by
 obtain⟨r,r1,r2⟩:=Zvl hl;refine⟨r,r1,r2, ?_⟩;have hB:(YM A k0 k1 op).2.2.1[me.toNat]? =some (Z4 (ZDh k0 k1 me)):=by rcases hme with rfl|rfl <;> rfl
 unfold Vj;rw[if_neg (by rw[decide_eq_true_iff];omega),if_neg (by rw[decide_eq_true_iff];omega),r1,yb]
 cases r with
 |false=>rw[if_pos (by decide),if_pos rfl]
 |true=>
  rw[if_neg (by decide),if_neg (by decide),ZF3,yb,if_pos (XF hme),hB,yb,if_neg (by simp),ZLR h hs hc,yb];by_cases hn:s.2.2.1=[]
  ·rw[if_neg (by rw[hn];decide),if_neg (by simp[hn]),ZJ4 h.o hs.hv,yb]
   cases ZBF op h0 h1 me fee with
   |false=>rw[if_pos (by decide),if_pos rfl]
   |true=>
    rw[if_neg (by decide),if_neg (by decide),ZJ0 (r2.1 rfl).1 (r2.1 rfl).2,yb,if_pos (XF hme)];have hz:([([]:Zz),([]:Zz)]:List Zz)[me.toNat]? =some []:=by rcases hme with rfl|rfl <;> rfl
    rw[hz,yb]
  ·rw[if_pos (by simp[hn]),if_pos hn]
def w13(op h0 h1 me fee w:Int):Int:=if ZBF op h0 h1 me fee=false then 13 else w
theorem ZEE{A:Int}{k0 k1:Kit}{op:Int}(ho:op=0∨op=1){s:State}{h0 h1:Int}(hv:s.2.1=[h0,h1])(me fee:Int)(hd:Bool)(e w:Int)(P:Corsnedlaw21Play)(l:Zz)(ks:List Kit)(kit:Kit):
 YB fuel (me,fee,hd,e,w,P,l,YM A k0 k1 op,ks,s,kit)=some (me,hd,e,w13 op h0 h1 me fee w,P,l,YM A k0 k1 op,ks,s,kit):=by
 have hO:(YM A k0 k1 op).2.2.2.2=op:=rfl;generalize YM A k0 k1 op=c at hO ⊢;unfold YB w13 ZBF;dsimp only;rw[hO,hv,Zcn ho,XF ho];by_cases h1':me=op
 ·by_cases h2:fee < 52
  ·simp[h1',h2,show¬(52≤fee) by omega]
  ·by_cases h3:fee > hav op h0 h1
   ·simp[h1',h2,h3]
   ·simp[h1',h2,h3]
 ·by_cases h2:fee=0
  ·simp[h1',h2]
  ·simp[h1',h2]
theorem ZEF(me:Int)(hd:Bool)(e w:Int)(P:Corsnedlaw21Play)(l:Zz)(c:ZH)(ks:List Kit)(s:State)(kit:Kit):
 YC fuel (me,hd,e,w,P,l,c,ks,s,kit)=some (me,hd,e,(if s.2.2.1≠[] then 14 else w),P,l,c,ks,s,kit):=by
 unfold YC;dsimp only
 cases h:s.2.2.1 with
 |nil=>simp
 |cons a b=>rw[if_pos (by rw[decide_eq_true_iff,yad];omega)];simp
theorem ZEG(me:Int)(hd:Bool)(e w:Int)(r:Bool)(P:Corsnedlaw21Play)(l:Zz)(c:ZH)(ks:List Kit)(s:State)(kit:Kit):
 YD fuel (me,hd,e,w,r,P,l,c,ks,s,kit)=some (hd,e,(if(me=0∨me=1)∧r=true then w else 1),P,l,c,ks,s,kit):=by
 unfold YD;dsimp only;by_cases h1:me < 0
 ·rw[if_pos (decide_eq_true h1),if_neg (by omega)]
 rw[if_neg (by rw[decide_eq_true_iff];exact h1)];by_cases h2:me > 1
 ·rw[if_pos (decide_eq_true h2),if_neg (by omega)]
 rw[if_neg (by rw[decide_eq_true_iff];exact h2)]
 cases r with
 |true=>rw[if_neg (by decide),if_pos ⟨by omega,rfl⟩]
 |false=>rw[if_pos (by decide),if_neg (by simp)]
theorem ZEH{hd:Bool}{e w:Int}(h:e=w)(h0:w≠0)(P:Corsnedlaw21Play)(l:Zz)(c:ZH)(ks:List Kit)(s:State)(kit:Kit):
 YE fuel (hd,e,w,P,l,c,ks,s,kit)=some (.inr (hd,P,l,c,ks,s,kit)):=by
 subst h;unfold YE;dsimp only;rw[if_neg (by simp),if_neg (by simp[h0])]
theorem ZMP{A:Int}{k0 k1:Kit}{op:Int}(ho:op=0∨op=1){s:State}{h0 h1:Int}(hv:s.2.1=[h0,h1])(me fee:Int)(hd:Bool)(e w:Int)(P:Corsnedlaw21Play)(l:Zz)(ks:List Kit)(kit:Kit)(x1:ZH)(x2:Kit)(x3 x4:Int)(x5:List Int)(x6:Int)(x7:List Zz)(x8:Int)(x9:Sig)(x10:List ZL)(x11 x12:List Msg):
 YF fuel (me,fee,hd,e,w,P,l,YM A k0 k1 op,ks,s,kit,x1,x2,x3,x4,x5,x6,x7,x8,x9,x10,x11,x12)=some (me,hd,e,w13 op h0 h1 me fee w,P,l,YM A k0 k1 op,ks,s,kit,x1,x2,x3,x4,x5,x6,x7,x8,x9,x10,x11,x12):=by
 have hO:(YM A k0 k1 op).2.2.2.2=op:=rfl;generalize YM A k0 k1 op=c at hO ⊢;unfold YF w13 ZBF;dsimp only;rw[hO,hv,Zcn ho,XF ho];by_cases h1':me=op
 ·by_cases h2:fee < 52
  ·simp[h1',h2,show¬(52≤fee) by omega]
  ·by_cases h3:fee > hav op h0 h1
   ·simp[h1',h2,h3]
   ·simp[h1',h2,h3]
 ·by_cases h2:fee=0
  ·simp[h1',h2]
  ·simp[h1',h2]
theorem ZMQ(me:Int)(hd:Bool)(e w:Int)(P:Corsnedlaw21Play)(l:Zz)(c:ZH)(ks:List Kit)(s:State)(kit:Kit)(x1:ZH)(x2:Kit)(x3 x4:Int)(x5:List Int)(x6:Int)(x7:List Zz)(x8:Int)(x9:Sig)(x10:List ZL)(x11 x12:List Msg):
 YG fuel (me,hd,e,w,P,l,c,ks,s,kit,x1,x2,x3,x4,x5,x6,x7,x8,x9,x10,x11,x12)=some (me,hd,e,(if s.2.2.1≠[] then 14 else w),P,l,c,ks,s,kit,x1,x2,x3,x4,x5,x6,x7,x8,x9,x10,x11,x12):=by
 unfold YG;dsimp only
 cases h:s.2.2.1 with
 |nil=>simp
 |cons a b=>rw[if_pos (by rw[decide_eq_true_iff,yad];omega)];simp
theorem ZMR(me:Int)(hd:Bool)(e w:Int)(r:Bool)(P:Corsnedlaw21Play)(l:Zz)(c:ZH)(ks:List Kit)(s:State)(kit:Kit)(x1:ZH)(x2:Kit)(x3 x4:Int)(x5:List Int)(x6:Int)(x7:List Zz)(x8:Int)(x9:Sig)(x10:List ZL)(x11 x12:List Msg):
 YH fuel (me,hd,e,w,r,P,l,c,ks,s,kit,x1,x2,x3,x4,x5,x6,x7,x8,x9,x10,x11,x12)=some (hd,e,(if(me=0∨me=1)∧r=true then w else 1),P,l,c,ks,s,kit,x1,x2,x3,x4,x5,x6,x7,x8,x9,x10,x11,x12):=by
 unfold YH;dsimp only;by_cases h1:me < 0
 ·rw[if_pos (decide_eq_true h1),if_neg (by omega)]
 rw[if_neg (by rw[decide_eq_true_iff];exact h1)];by_cases h2:me > 1
 ·rw[if_pos (decide_eq_true h2),if_neg (by omega)]
 rw[if_neg (by rw[decide_eq_true_iff];exact h2)]
 cases r with
 |true=>rw[if_neg (by decide),if_pos ⟨by omega,rfl⟩]
 |false=>rw[if_pos (by decide),if_neg (by simp)]
theorem ZLX{hd:Bool}(P:Corsnedlaw21Play)(l:Zz)(c:ZH)(ks:List Kit)(s:State)(kit:Kit)(x1:ZH)(x2:Kit)(x3 x4:Int)(x5:List Int)(x6:Int)(x7:List Zz)(x8:Int)(x9:Sig)(x10:List ZL)(x11 x12:List Msg):
 Yr fuel (hd,0,0,P,l,c,ks,s,kit,x1,x2,x3,x4,x5,x6,x7,x8,x9,x10,x11,x12)=some (.inr (hd,P,l,c,ks,s,kit,x1,x2,x3,x4,x5,x6,x7,x8,x9,x10,x11,x12)):=by
 unfold Yr;rfl
def ZfG(op me fee:Int):Int:=if me=op then fee else 0
def Zdw(rate:Int)(b:List UInt8):Msg:=(12,0,0,(0,0,0,0,0),0,[],rate,(0,0),[0,0,0,0,0,0,0,0,0,0,0,0,0,0,0,0,0,0,0,0,0,0,0,0,0,0,0,0,0,0,0,0],0,([],[],0),(0,0,0,0,0),(0,0,0,0,0,0),b)
theorem ZIK{l:List Msg}{m:Msg}(hl:l.length≤1000000)(hm:(byt m).length≤1000000000)(c:ZH)(k:Kit)(me no:Int)(hv:List Int)(r:Int)(lk:List Zz)(fee:Int)(sg:Sig)(cs:List ZL)(hd:List Msg):
 W2 fuel m c k me no hv r lk fee sg cs l hd=some (c,k,me,no,hv,r,lk,fee,sg,cs,Zc6 l m,hd):=by
 unfold W2;rw[ZIJ hl hm,yb]
theorem ZBG{A:Int}{k0 k1:Kit}{op:Int}{me:Int}(hme:me=0∨me=1){lk:List Zz}{l:Zz}(hlk:lk[me.toNat]? =some l)(h:Zdv l)(hp:ZiS l){said:List Msg}(hl:said.length≤10000)(hm:∀m,m∈said→(byt m).length≤1000000000)(k:Kit)(no:Int)(hv:List Int)(r:Int)(fee:Int)(sg:Sig)(cs:List ZL)(hd:List Msg):
 Wj fuel (YM A k0 k1 op) k me no hv r lk fee sg cs said hd=some (Zlu (Zc6 said (Zdw (ZfG op me fee) (Zas l))),YM A k0 k1 op,k,me,no,hv,r,lk,fee,sg,cs,Zc6 said (Zdw (ZfG op me fee) (Zas l)),hd):=by
 have hO:(YM A k0 k1 op).2.2.2.2=op:=rfl;have hlen:=ZqO h
 have ha:∀m:Msg,(byt m).length≤1000000000→(Zc6 said m).length≤100000∧∀x,x∈Zc6 said m→(byt x).length≤1000000000:=by
  intro m hm2;refine⟨by have:=Zxp said m;omega,λx hx=> ?_⟩;unfold Zc6 at hx;split at hx
  ·exact hm x hx
  ·rcases List.mem_append.1 hx with hx|hx
   ·exact hm x hx
   ·rw[yay.1 hx];exact hm2
 have hb:∀rate,(byt (Zdw rate (Zas l))).length≤1000000000:=λrate=>by
  show(Zas l).length≤_;omega
 unfold Wj ZfG;unfold Zdw at hb ⊢;rw[hO];generalize YM A k0 k1 op=c;by_cases he:me=op
 ·rw[if_pos (by rw[he];exact beq_self_eq_true _),if_pos (XF hme),hlk,yb,ZiT h hp,yb];rw[ZIK (by omega) (hb fee),yb];dsimp only;rw[Zvn (ha _ (hb fee)).1 (ha _ (hb fee)).2,yb,if_pos he]
 ·rw[if_neg (by rw[beq_iff_eq];exact he),if_pos (XF hme),hlk,yb,ZiT h hp,yb];rw[ZIK (by omega) (hb 0),yb];dsimp only;rw[Zvn (ha _ (hb 0)).1 (ha _ (hb 0)).2,yb,if_neg he]
theorem ZF4(c:ZH)(k:Kit)(me no:Int)(hv:List Int)(r:Int)(lk:List Zz)(fee:Int)(sg:Sig)(cs:List ZL)(said:List Msg){hd:List Msg}(hl:hd.length≤1000000)(h:fnd hd 13=none):
 V5 fuel c k me no hv r lk fee sg cs said hd=some ((([]:List In),([]:List Out),(0:Int)),false,c,k,me,no,hv,r,lk,fee,sg,cs,said,hd):=by
 unfold V5;rw[Zzy hl,yb,h];rfl
theorem ZIL{p:Corsnedlaw21Play}(hp:PlayOk p)(me:Int)(l:Zz)(fee:Int):Ym fuel p me l fee=some true:=by
 obtain⟨A,k0,k1,op,s,e1,e2,⟨h0,h1,hs,hc⟩,_⟩:=ZM2 hp;obtain⟨b,w0,v0⟩:=ZLV l;unfold Ym;rw[yb,e1,yb,w0,yb]
 cases b with
 |false=>rw[if_pos (by decide)]
 |true=>
 have v0:=v0 rfl;obtain⟨rr,rr1,rr2⟩:=ZIG v0;rw[if_neg (by decide)];dsimp only;rw[List.getElem?_cons_zero,yb]
 have hb1:YA fuel (me,fee,true,p,l,YM A k0 k1 op,[k0,k1],s,k0)=some (me,fee,true,p,l,YM A k0 k1 op,[k0,k1],s,ZDh k0 k1 me):=by
  unfold YA ZDh;dsimp only;by_cases h:me=1
  ·rw[if_pos (by rw[h];rfl),if_pos h];rfl
  ·rw[if_neg (by rw[beq_iff_eq];exact h),if_neg h]
 rw[hb1,yb];dsimp only
 have bad:∀(e:Int)(X:Option (Int⊕(Int×ZH×Kit×Int×Int×(List Int)×Int×(List Zz)×Int×Sig×(List ZL)×(List Msg)×(List Msg)))),X=some (.inl e)→e≠0→e=(if(me=0∨me=1)∧rr=true then(if s.2.2.1≠[] then 14 else w13 op h0 h1 me fee 0) else 1)→
  Vj fuel (YM A k0 k1 op) (ZDh k0 k1 me) me s l fee=X→True:=λ_ _ _ _ _ _=>trivial
 by_cases hme:me=0∨me=1
 ·obtain⟨r,r1,r2,r3⟩:=ZLW e2 hs hc hme v0 fee
  have hrr:rr=r:=by
   cases rr with
   |true=>exact(r2.2 (rr2.1 rfl)).symm
   |false=>
    cases r with
    |false=>rfl
    |true=>exact(rr2.2 (r2.1 rfl))
  subst hrr;rw[r3];by_cases c1:rr=false
  ·rw[if_pos c1,yb];dsimp only;rw[ZEE e2.o hs.hv,yb];dsimp only;rw[ZEF,yb];dsimp only;rw[rr1,yb,ZEG,yb];dsimp only;rw[ZEH (by rw[c1];simp) (by rw[c1];simp),yb]
  have c1:rr=true:=by simpa using c1
  rw[if_neg (by rw[c1];decide)];by_cases c2:s.2.2.1≠[]
  ·rw[if_pos c2,yb];dsimp only;rw[ZEE e2.o hs.hv,yb];dsimp only;rw[ZEF,yb];dsimp only;rw[rr1,yb,ZEG,yb];dsimp only;rw[if_pos c2,if_pos ⟨hme,c1⟩,ZEH rfl (by decide),yb]
  rw[if_neg c2];by_cases c3:ZBF op h0 h1 me fee=false
  ·rw[if_pos c3,yb];dsimp only;rw[ZEE e2.o hs.hv,yb];dsimp only;rw[ZEF,yb];dsimp only;rw[rr1,yb,ZEG,yb];dsimp only;rw[if_neg c2,if_pos ⟨hme,c1⟩];unfold w13;rw[if_pos c3,ZEH rfl (by decide),yb]
  rw[if_neg c3,yb];dsimp only;rw[ZMP e2.o hs.hv,yb];dsimp only;rw[ZMQ,yb];dsimp only;rw[rr1,yb,ZMR,yb];dsimp only;rw[if_neg c2,if_pos ⟨hme,c1⟩];unfold w13;rw[if_neg c3,ZLX,yb];dsimp only;have g:=rr2.1 c1;have hlk:(([([]:Zz),([]:Zz)]:List Zz).set me.toNat l)[me.toNat]? =some l:=by rcases hme with rfl|rfl <;> rfl
  have hlen:=ZqO g.1
  have hb:∀m,m∈[Zdw (ZfG op me fee) (Zas l)]→(byt m).length≤1000000000:=λm hm=>by
   rw[yay.1 hm];show(Zas l).length≤_;omega
  rw[ZF4 _ _ _ _ _ _ _ _ _ _ _ (by simp) rfl,yb];dsimp only;rw[if_pos rfl,if_pos (by decide),Zvn (by simp) (by simp),yb];dsimp only;rw[if_pos (by decide),ZBG hme hlk g.1 g.2 (by simp) (by simp),yb];dsimp only;have o1:Zc6 [] (Zdw (ZfG op me fee) (Zas l))=[Zdw (ZfG op me fee) (Zas l)]:=rfl;have o2:Zc6 [Zdw (ZfG op me fee) (Zas l)] (Zdw (ZfG op me fee) (Zas l))=[Zdw (ZfG op me fee) (Zas l)]:=rfl;have o3:Zlu [Zdw (ZfG op me fee) (Zas l)]=[Zdw (ZfG op me fee) (Zas l)]:=rfl;rw[o1,o3,if_pos (by rfl),ZBG hme hlk g.1 g.2 (by simp) hb,yb];dsimp only;rw[o2,o3];rfl
 ·have hN:Vj fuel (YM A k0 k1 op) (ZDh k0 k1 me) me s l fee=some (.inl 1):=by
   unfold Vj;by_cases hlo:me < 0
   ·rw[if_pos (decide_eq_true hlo)]
   ·rw[if_neg (by rw[decide_eq_true_iff];exact hlo),if_pos (by rw[decide_eq_true_iff];omega)]
  rw[hN,yb];dsimp only;rw[ZEE e2.o hs.hv,yb];dsimp only;rw[ZEF,yb];dsimp only;rw[rr1,yb,ZEG,yb];dsimp only;rw[ZEH (by rw[if_neg (λh=>hme h.1)]) (by rw[if_neg (λh=>hme h.1)];decide),yb]
end Go.Proofs.YtmkgbalfkhaflaaGreat
end
