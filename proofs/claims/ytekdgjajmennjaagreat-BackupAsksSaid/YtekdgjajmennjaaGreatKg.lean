/- Parts of the proof, in one file. -/
import Derived.Test.YtekdgjajmennjaaGreatKf
open Option renaming some → ab, none → ae
open Bool renaming true → af, false → ag
open Decidable renaming decide → ah
open BitVec renaming ofInt → yca
open Go.Proofs.Tryz renaming prog → yb
open Int renaming toNat_natCast → ybw
open List renaming getElem?_eq_some_iff → yo, length_append → yr, length_map → yx, replicate → yy, getElem?_eq_getElem → yac, map_cons → yad, length_take → yae, length_cons → yah, append_assoc → yak, map_append → yal, getElem?_append_right → yam, mem_cons_self → yao, mem_cons_of_mem → yas, getElem?_cons_succ → yat, mem_cons → yaw, getElem?_cons_zero → ybb, take_length → ybd, append_nil → ybg, mem_append → ybs, not_mem_nil → ycd, getElem_of_mem → ycm
open Nat renaming mod_eq_of_lt → yap, mod_lt → ybo, le_trans → ybx
open Option renaming bind_some → ya, bind_eq_some_iff → yf
open UInt64 renaming ofNat → yaf, toNat_ofNat' → ybj, toNat_lt → ycc, toNat_inj → ycp, lt_iff_toNat_lt → ycx
open UInt8 renaming ofNat → ybh
set_option linter.unusedVariables false
set_option linter.unusedSimpArgs false
section
set_option maxRecDepth 4000
namespace Go.Proofs.YtekdgjajmennjaaGreat
open Go Go.Ev
noncomputable section
def xh(F:Nat)(a0:yG):yO (Int):=
 (a0.2.1[0]?).bind λa=>
 (a0.2.1[1]?).bind λb=>
 (Zc (QP F) F (wi (a+b),a0.2.2.1,(a0.2.2.1.length:Int),0,a0)).bind λc=>
 ab c.1
def Zv2(F:Nat):Fs yb:=⟨213,[.v ZF],[],[ZF],(zN yI),λx=>xh F x⟩
def ZmF:Fs yb:=Zv2 yD
theorem Zv3:ZmF.Ok:=aR { still:=[2]} [(0,ZkM)] [] trivial ⟨ZpB,au⟩
def LU(F:Nat)(a0:Int):yO (Int):=
 if(ah (a0 < 0))=af then
  ab 0
 else
 if(ah (a0 > 16))=af then
  ab 0
 else
 ab (wi (68+(wi (8*a0))))
def Zs9(F:Nat):Fs yb:=⟨243,[.v yI],[],[yI],(zN yI),λx=>LU F x⟩
def ZkN:Fs yb:=Zs9 yD
theorem Zta:ZkN.Ok:=aR { still:=[2]} [] [] trivial
def pg(F:Nat)(a0:Int)(a1:Int):yO (Int):=
 if(ah (a0 < 0))=af then
  ab 0
 else
 if(ah (a0 > 1000))=af then
  ab 0
 else
 (LU F a1).bind λa=>
 ab (wi (a0*a))
def ZBc(F:Nat):Fs yb:=⟨216,[.v yI,.v yI],[],[yI,yI],(zN yI),λx=>pg F x.1 x.2⟩
def xi:Fs yb:=ZBc yD
theorem LV:xi.Ok:=aR { still:=[4,12]} [] [ZkN] ⟨Zta,au⟩
def xj(F:Nat)(a0:Chan)(a1:yG):yO (Int):=
 (pg F a1.2.2.2 (a1.2.2.1.length:Int)).bind λa=>
 ab (wi (a+660))
def ZxD(F:Nat):Fs yb:=⟨214,[.v Yc,.v ZF],[],[Yc,ZF],(zN yI),λx=>xj F x.1 x.2⟩
def ZpC:Fs yb:=ZxD yD
theorem ZxE:ZpC.Ok:=aR { still:=[4,6,9]} [] [xi] ⟨LV,au⟩
def XI(F:Nat)(s:(aOX×Int×Int×Chan×yG)):yO ((aOX×Int×Int×Chan×yG)⊕((Bool×Chan×yG)⊕(Chan×yG))):=
 if(ah (s.2.2.1 < s.2.1))=af then
  (idx s.1 s.2.2.1).bind λa=>
  (xb F a).bind λb=>
  if(!b)=af then
   ab (.inr (.inl (ag,s.2.2.2.1,s.2.2.2.2)))
  else
  if(ba (wi (1 - a.1)) 2)=af then
   (s.2.2.2.1.2.2.2.1[(wi (1 - a.1)).toNat]?).bind λc=>
   if(ah (a.2.2.1 < c.2.2.2.2.1))=af then
    ab (.inr (.inl (ag,s.2.2.2.1,s.2.2.2.2)))
   else
   if(ah (s.2.2.1 > 0))=af then
    (idx s.2.2.2.2.2.2.1 (wi (s.2.2.1 - 1))).bind λd=>
    (xf F d a).bind λe=>
    if(ah (e >= 0))=af then
     ab (.inr (.inl (ag,s.2.2.2.1,s.2.2.2.2)))
    else
    ab (.inl (s.1,s.2.1,wi (s.2.2.1+1),s.2.2.2.1,s.2.2.2.2))
   else
   ab (.inl (s.1,s.2.1,wi (s.2.2.1+1),s.2.2.2.1,s.2.2.2.2))
  else
  ae
 else
 ab (.inr (.inr (s.2.2.2.1,s.2.2.2.2)))
def ZkO:Lp:=⟨[(2,.ak 0 []),(3,.ak 1 []),(46,.v aOT),(47,.v yI),(48,.v yI)],[.var (.v Yc) af,.var (.v ZF) af],[aOT,yI,yI,Yc,ZF],[⟨.ret,[(4,.v .bool)],[.var (.v Yc) af,.var (.v ZF) af],[.bool,Yc,ZF]⟩,⟨.exit 0,[(2,.ak 0 []),(3,.ak 1 [])],[.var (.v Yc) af,.var (.v ZF) af],[Yc,ZF]⟩],Zc (XI yD) yD⟩
def LW:HI:={ still:=[4,11,17,28,35,53,77,78,91,92,107,118,119]}
theorem ZpD:ZkO.bA yb 147 0:=Zv LW [] [ZpA,ZmE] ⟨ZxB,Zv1,au⟩
def Wd(F:Nat)(s:((yL bu)×Int×Chan×yG)):yO (((yL bu)×Int×Chan×yG)⊕((Bool×Chan×yG)⊕(Chan×yG))):=
 if(ah (s.2.1 < 2))=af then
  (idx s.1 s.2.1).bind λa=>
  (xg F s.2.2.2 s.2.1).bind λb=>
  if(ah (b.1 > a.2.2.2.1))=af then
   ab (.inr (.inl (ag,s.2.2.1,s.2.2.2)))
  else
  if(ah (b.2 > a.2.2.2.2.2))=af then
   ab (.inr (.inl (ag,s.2.2.1,s.2.2.2)))
  else
  ab (.inl (s.1,wi (s.2.1+1),s.2.2.1,s.2.2.2))
 else
 ab (.inr (.inr (s.2.2.1,s.2.2.2)))
def ZkP:Lp:=⟨[(2,.ak 0 []),(3,.ak 1 []),(85,.v (.arr 2 iF)),(86,.v yI)],[.var (.v Yc) af,.var (.v ZF) af],[(.arr 2 iF),yI,Yc,ZF],[⟨.ret,[(4,.v .bool)],[.var (.v Yc) af,.var (.v ZF) af],[.bool,Yc,ZF]⟩,⟨.exit 2,[(2,.ak 0 []),(3,.ak 1 [])],[.var (.v Yc) af,.var (.v ZF) af],[Yc,ZF]⟩],Zc (Wd yD) yD⟩
theorem ZpE:ZkP.bA yb 147 1:=Zv LW [] [Zjj] ⟨Zq1,au⟩
def Qg(F:Nat)(a0:Chan)(a1:yG):yO (Bool):=
 (bZ F a0).bind λa=>
 if(a !=0)=af then
  ab ag
 else
 (Yy F 0 1048576 [a1.1]).bind λb=>
 if(!b)=af then
  ab ag
 else
 (a1.2.1[0]?).bind λc=>
 (a1.2.1[1]?).bind λd=>
 (Yy F 0 1125899906842624 [c,d]).bind λe=>
 if(!e)=af then
  ab ag
 else
 (Yy F 0 1000 [a1.2.2.2]).bind λf=>
 if(!f)=af then
  ab ag
 else
 if(ah ((a1.2.2.1.length:Int) > 16))=af then
  ab ag
 else
 (Zc (XI F) F (a1.2.2.1,(a1.2.2.1.length:Int),0,a0,a1)).bind λg=>
 match g with
 |.inl h=>
  ab h.1
 |.inr i=>
  (Zc (Wd F) F (i.1.2.2.2.1,0,i.1,i.2)).bind λj=>
  match j with
  |.inl k=>
   ab k.1
  |.inr l=>
   (xh F l.2).bind λm=>
   if(m==l.1.2.1)=af then
    if(ba l.1.2.2.2.2 2)=af then
     (l.2.2.1[l.1.2.2.2.2.toNat]?).bind λn=>
     (xj F l.1 l.2).bind λo=>
     ab (ah (n >= o))
    else
    ae
   else
   ab ag
def LX(F:Nat):Fs yb:=⟨147,[.v Yc,.v ZF],[],[Yc,ZF],(zN .bool),λx=>Qg F x.1 x.2⟩
def LY:Fs yb:=LX yD
theorem LZ:LY.Ok:=aR LW [(0,ZkO),(1,ZkP)] [vV,LQ,ZmF,ZpC] ⟨vW,Zjh,Zv3,ZxE,au⟩ ⟨ZpD,ZpE,au⟩
def WJ(F:Nat)(s:(yU×Int×aOz)):yO ((yU×Int×aOz)⊕aOz):=
 if(ah (s.2.1 < 8))=af then
  if(ah (0<=wi (56 - (wi (8*s.2.1)))))=af then
   let a:yU:=ZG s.1 (min (wi (56 - (wi (8*s.2.1)))).toNat 64)
   if(ba s.2.1 8)=af then
    (s.2.2[s.2.1.toNat]?).bind λb=>
    ab (.inl (s.1,wi (s.2.1+1),s.2.2.set s.2.1.toNat (w8 (a.toNat:Int))))
   else
   ae
  else
  ae
 else
 ab (.inr s.2.2)
def ZmG:Lp:=⟨[(0,.v .u64),(3,.ak 0 []),(5,.v yI)],[.var (.v aOW) af],[.u64,yI,aOW],[⟨.exit 0,[(3,.ak 0 [])],[.var (.v aOW) af],[aOW]⟩],Zc (WJ yD) yD⟩
theorem Zq2:ZmG.bA yb 242 0:=Zv { still:=[2]} [] [] trivial
def xk(F:Nat)(a0:yU):yO (aOz):=
 (Zc (WJ F) F (a0,0,[0,0,0,0,0,0,0,0])).bind λa=>
 ab ((a.drop 0).take 8)
def ZxF(F:Nat):Fs yb:=⟨242,[.v .u64],[],[.u64],(zN aOA),λx=>xk F x⟩
def ZpF:Fs yb:=ZxF yD
theorem ZxG:ZpF.Ok:=aR { still:=[2]} [(0,ZmG)] [] trivial ⟨Zq2,au⟩
def We(F:Nat)(s:(ByteArray×aOM×Int×Int×aPb)):yO ((ByteArray×aOM×Int×Int×aPb)⊕(ByteArray×aPb)):=
 if(ah (s.2.2.2.1 < s.2.2.1))=af then
  (idx s.2.1 s.2.2.2.1).bind λa=>
  (xk F a).bind λb=>
  if(cO s.2.2.2.2.length 1 24)=af then
   ab (.inl (s.1,s.2.1,s.2.2.1,wi (s.2.2.2.1+1),s.2.2.2.2++([b]:yL aOz)))
  else
  ae
 else
 ab (.inr (s.1,s.2.2.2.2))
def ZkQ:Lp:=⟨[(0,.v .str),(5,.own 0 aOA),(8,.v aOH),(9,.v yI),(10,.v yI)],[.log aOA 41],[.str,aOH,yI,yI,aPa],[⟨.exit 0,[(0,.v .str),(5,.own 0 aOA)],[.log aOA 41],[.str,aPa]⟩],Zc (We yD) yD⟩
def ZQA:HI:={ own:=[5,14,18],still:=[4,15,20,21,22]}
theorem ZpG:ZkQ.bA yb 215 0:=Zv ZQA [] [ZpF] ⟨ZxG,au⟩
def Qh(F:Nat)(a0:ByteArray)(a1:aOM):yO (yU):=
 (Zc (We F) F (a0,a1,(a1.length:Int),0,[])).bind λa=>
 (Xk F a.1 a.2).bind λb=>
 (XR F b).bind λc=>
 ab c
def Zv4(F:Nat):Fs yb:=⟨215,[.v .str,.v aOH],[],[.str,aOH],(zN .u64),λx=>Qh F x.1 x.2⟩
def MC:Fs yb:=Zv4 yD
theorem ZkR:MC.Ok:=aR ZQA [(0,ZkQ)] [X3,Qc] ⟨XQ,QD,au⟩ ⟨ZpG,au⟩
def xl:ByteArray:=⟨#[114,101,118,111,107,101]⟩
def xm(F:Nat)(a0:yU)(a1:yU):yO (yU):=
 (Qh F xl [a0,a1]).bind λa=>
 (WZ F a0 a).bind λb=>
 (Qh F xl [a1,a0]).bind λc=>
 (WZ F a1 c).bind λd=>
 (oZ F b d).bind λe=>
 ab e
def Zv5(F:Nat):Fs yb:=⟨148,[.v .u64,.v .u64],[],[.u64,.u64],(zN .u64),λx=>xm F x.1 x.2⟩
def ZmH:Fs yb:=Zv5 yD
def ZRe:HI:={ still:=[4,5,8,9,10,11,14,15,16]}
theorem Zv6:ZmH.Ok:=aR ZRe [] [MC,vY,wE] ⟨ZkR,IS,KH,au⟩
def ZK1:ByteArray:=⟨#[109,105,120]⟩
def ph(F:Nat)(a0:yU)(a1:yU):yO (yU):=
 (Qh F ZK1 [a1,a0]).bind λa=>
 (YG F a).bind λb=>
 (oZ F a0 b).bind λc=>
 ab c
def ZDC(F:Nat):Fs yb:=⟨149,[.v .u64,.v .u64],[],[.u64,.u64],(zN .u64),λx=>ph F x.1 x.2⟩
def Zv7:Fs yb:=ZDC yD
theorem ZDD:Zv7.Ok:=aR { still:=[4,5,8,9,10]} [] [MC,W0,wE] ⟨ZkR,Wv,KH,au⟩
def W9(F:Nat)(a0:bu)(a1:Int):yO (Bool):=
 ab (ah (a1 >= a0.1))
def Zv8(F:Nat):Fs yb:=⟨153,[.v iF,.v yI],[],[iF,yI],(zN .bool),λx=>W9 F x.1 x.2⟩
def MD:Fs yb:=Zv8 yD
theorem ZkS:MD.Ok:=aR { still:=[4]} [] [] trivial
def XV(F:Nat)(s:(Int×aOX×Int×Int×Chan×yG×aOX)):yO ((Int×aOX×Int×Int×Chan×yG×aOX)⊕(Chan×yG×aOX)):=
 if(ah (s.2.2.2.1 < s.2.2.1))=af then
  (idx s.2.1 s.2.2.2.1).bind λa=>
  if(ba s.1 2)=af then
   (s.2.2.2.2.1.2.2.2.1[s.1.toNat]?).bind λb=>
   (W9 F b a.2.2.1).bind λc=>
   if c=af then
    if(cO s.2.2.2.2.2.2.length 1 40)=af then
     ab (.inl (s.1,s.2.1,s.2.2.1,wi (s.2.2.2.1+1),s.2.2.2.2.1,s.2.2.2.2.2.1,s.2.2.2.2.2.2++([a]:yL Cond)))
    else
    ae
   else
   ab (.inl (s.1,s.2.1,s.2.2.1,wi (s.2.2.2.1+1),s.2.2.2.2.1,s.2.2.2.2.2.1,s.2.2.2.2.2.2))
  else
  ae
 else
 ab (.inr (s.2.2.2.2.1,s.2.2.2.2.2.1,s.2.2.2.2.2.2))
def Zjk:Lp:=⟨[(2,.v yI),(3,.ak 0 []),(7,.own 2 Xb),(11,.v aOT),(12,.v yI),(13,.v yI)],[.var (.v Yc) af,.var (.v ZF) af,.log Xb 61],[yI,aOT,yI,yI,Yc,ZF,aOT],[⟨.exit 0,[(7,.own 2 Xb)],[.var (.v Yc) af,.var (.v ZF) af,.log Xb 61],[Yc,ZF,aOT]⟩],Zc (XV yD) yD⟩
def ZQB:HI:={ own:=[7,24,27],still:=[6,20,22]}
theorem ZnQ:Zjk.bA yb 156 0:=Zv ZQB [] [MD] ⟨ZkS,au⟩
def XS(F:Nat)(a0:Chan)(a1:yG)(a2:Int):yO (aOX):=
 (Zc (XV F) F (a2,a1.2.2.1,(a1.2.2.1.length:Int),0,a0,a1,[])).bind λa=>
 ab a.2.2
def Ztb(F:Nat):Fs yb:=⟨156,[.v Yc,.v ZF,.v yI],[],[Yc,ZF,yI],(zN aOT),λx=>XS F x.1 x.2.1 x.2.2⟩
def ME:Fs yb:=Ztb yD
theorem Zjl:ME.Ok:=aR ZQB [(0,Zjk)] [] trivial ⟨ZnQ,au⟩
def Qi(F:Nat)(a0:Chan)(a1:yG)(a2:Int)(a3:Int):yO (Int):=
 if(ba a3 2)=af then
  (a1.2.1[a3.toNat]?).bind λa=>
  if(a3==a0.2.2.2.2)=af then
   (XS F a0 a1 a2).bind λb=>
   (pg F a1.2.2.2 (b.length:Int)).bind λc=>
   ab (wi (a - (wi (c+660))))
  else
  ab a
 else
 ae
def Zv9(F:Nat):Fs yb:=⟨152,[.v Yc,.v ZF,.v yI,.v yI],[],[Yc,ZF,yI,yI],(zN yI),λx=>Qi F x.1 x.2.1 x.2.2.1 x.2.2.2⟩
def ZmI:Fs yb:=Zv9 yD
theorem Zwa:ZmI.Ok:=aR { still:=[8,20,21,22,23,25]} [] [ME,xi] ⟨Zjl,LV,au⟩
def MF(F:Nat)(a0:yU)(a1:yU)(a2:Int):yO (Y9):=
 ab [([a1],0,0,0),([a0],0,a2,0)]
def ZBe(F:Nat):Fs yb:=⟨154,[.v .u64,.v .u64,.v yI],[],[.u64,.u64,yI],(zN Z1),λx=>MF F x.1 x.2.1 x.2.2⟩
def Zsq:Fs yb:=ZBe yD
theorem ZBf:Zsq.Ok:=aR {} [] [] trivial
def Xo(F:Nat)(a0:yU):yO (Y9):=
 ab [([a0],0,0,0),([],0,16,0)]
def Zwb(F:Nat):Fs yb:=⟨155,[.v .u64],[],[.u64],(zN Z1),λx=>Xo F x⟩
def ZmJ:Fs yb:=Zwb yD
theorem Zwc:ZmJ.Ok:=aR {} [] [] trivial
def MG(F:Nat)(a0:aOz)(a1:aOz):yO (Int):=
 ab (Go.Lib.compareBytes a0 a1)
def Zq3(F:Nat):Fs yb:=⟨161,[.v aOA,.v aOA],[],[aOA,aOA],(zN yI),λx=>MG F x.1 x.2⟩
def Zjm:Fs yb:=Zq3 yD
theorem Zq4:Zjm.Ok:=aR { still:=[4,5,6]} [] [] trivial
abbrev kP:Ty:=(.st [yI,Xb])
abbrev fr:Type:=(Int×Cond)
abbrev fr.Cond(x:fr):Cond:=x.2
abbrev Zm:Ty:=(.st [Zy,kP,aOB])
abbrev Zf:Type:=(Out×fr×aOz)
def xn(F:Nat)(a0:Zf)(a1:Zf):yO (Int):=
 (YB F a0.1.1 a1.1.1).bind λa=>
 (MG F a0.2.2 a1.2.2).bind λb=>
 (YB F a0.2.1.1 a1.2.1.1).bind λc=>
 (YB F a0.2.1.2.1 a1.2.1.2.1).bind λd=>
 (YB F a0.2.1.2.2.1 a1.2.1.2.2.1).bind λe=>
 (sL F [a,b,c,d,e]).bind λf=>
 ab f
def Zq5(F:Nat):Fs yb:=⟨158,[.v Zm,.v Zm],[],[Zm,Zm],(zN yI),λx=>xn F x.1 x.2⟩
def Zjn:Fs yb:=Zq5 yD
def ZRf:HI:={ still:=[4,7,10,13,15,19,22,27,31,36,40,42],cW:=[13,15]}
theorem Zq6:Zjn.Ok:=aR ZRf [] [LS,Zjm,LR] ⟨Ze8,Zq4,ZmD,au⟩
abbrev jR:Ty:=(.st [aS,(.sl kP)])
abbrev cS:Type:=(Tx×(yL fr))
def ZK2:ByteArray:=⟨#[108,111,99,107]⟩
def xo(F:Nat)(a0:Y9):yO (aOz):=
 (Xc F a0).bind λa=>
 if(!a)=af then
  ab dz
 else
 (sH F a0).bind λb=>
 (Xk F ZK2 [b]).bind λc=>
 ab c
def ZDE(F:Nat):Fs yb:=⟨151,[.v Z1],[],[Z1],(zN aOB),λx=>xo F x⟩
def Zwd:Fs yb:=ZDE yD
theorem ZDF:Zwd.Ok:=aR { still:=[3,7,9]} [] [W5,LG,X3] ⟨Wz,Zmy,XQ,au⟩
abbrev _root_.aOO:=yL Zf
def ZP(F:Nat)(a0:Int)(a1:Y9)(a2:fr)(s1_0:aOD)(s1_1:aOO):yO ((aOD×aOO)):=
 (xo F a1).bind λa=>
 if(cO s1_1.length 1 112)=af then
  let b:aOO:=s1_1++([((a0,a1),a2,a)]:yL Zf)
  ab (()::s1_0,b)
 else
 ae
abbrev _root_.aOR:Go.Ev.Ty:=.sl Zm
def Zq7(F:Nat):Fs yb:=⟨150,[.v yI,.v Z1,.v kP,.ak 0 []],[.var (.rw 1) af,.row Zm af 241],[yI,Z1,kP,aOC,aOR],[⟨.ret,[(0,.bj [])],[.var (.rw 1) af,.row Zm af 241],[aOC,aOR]⟩],λx=>ZP F x.1 x.2.1 x.2.2.1 x.2.2.2.1 x.2.2.2.2⟩
def MH:Fs yb:=Zq7 yD
theorem ZhL:MH.Ok:=aR { own:=[7,16],still:=[12]} [] [Zwd] ⟨ZDF,au⟩
abbrev dT4:Type:=(Int×Int×yU×yU×yU×aOX×Int×Int×Chan×yG×cS×aOD×aOO)
abbrev tL8:yL Ty:=[yI,yI,.u64,.u64,.u64,aOT,yI,yI,Yc,ZF,jR,aOC,aOR]
def Y8(F:Nat)(s:(Int×Int×Int×Int×aOD×aOO)):yO ((Int×Int×Int×Int×aOD×aOO)⊕(Int×Int×Int×aOD×aOO)):=
 if(ah (s.2.2.2.1 > s.1))=af then
  if(ba s.2.2.2.1 s.2.2.2.2.2.length)=af then
   (s.2.2.2.2.2[s.2.2.2.1.toNat]?).bind λa=>
   if(ba (wi (s.2.2.2.1 - 1)) s.2.2.2.2.2.length)=af then
    (s.2.2.2.2.2[(wi (s.2.2.2.1 - 1)).toNat]?).bind λb=>
    (xn F a b).bind λc=>
    if(ah (c < 0))=af then
     if(ba (wi (s.2.2.2.1 - 1)) s.2.2.2.2.2.length)=af then
      (s.2.2.2.2.2[(wi (s.2.2.2.1 - 1)).toNat]?).bind λd=>
      if(ba s.2.2.2.1 s.2.2.2.2.2.length)=af then
       (s.2.2.2.2.2[s.2.2.2.1.toNat]?).bind λe=>
       if(ba s.2.2.2.1 s.2.2.2.2.2.length)=af then
        (s.2.2.2.2.2[s.2.2.2.1.toNat]?).bind λf=>
        if(ba (wi (s.2.2.2.1 - 1)) ((s.2.2.2.2.2.set s.2.2.2.1.toNat d).length))=af then
         ((s.2.2.2.2.2.set s.2.2.2.1.toNat d)[(wi (s.2.2.2.1 - 1)).toNat]?).bind λg=>
         let h:aOO:=(s.2.2.2.2.2.set s.2.2.2.1.toNat d).set ((wi (s.2.2.2.1 - 1)).toNat) e
         ab (.inl (s.1,s.2.1,s.2.2.1,wi (s.2.2.2.1 - 1),s.2.2.2.2.1,h))
        else
        ae
       else
       ae
      else
      ae
     else
     ae
    else
    ab (.inr (s.1,s.2.1,s.2.2.1,s.2.2.2.2.1,s.2.2.2.2.2))
   else
   ae
  else
  ae
 else
 ab (.inr (s.1,s.2.1,s.2.2.1,s.2.2.2.2.1,s.2.2.2.2.2))
def Zfd:Lp:=⟨[(0,.rw 0),(1,.v yI),(2,.v yI),(3,.fn 158 []),(8,.v yI),(9,.v yI)],[.row Zm af 241],[yI,yI,yI,yI,aOC,aOR],[⟨.exit 2,[(0,.rw 0),(1,.v yI),(2,.v yI),(3,.fn 158 []),(8,.v yI)],[.row Zm af 241],[yI,yI,yI,aOC,aOR]⟩],Zc (Y8 yD) yD⟩
def MI:HI:={ still:=[26,31],bU:=[0,37,39]}
theorem Zjt:Zfd.bA yb 244 1:=Zv MI [] [Zjn] ⟨Zq6,au⟩
def Z0(F:Nat)(s:(Int×Int×Int×aOD×aOO)):yO ((Int×Int×Int×aOD×aOO)⊕(aOD×aOO)):=
 if(ah (s.2.2.1 < s.2.1))=af then
  (Zc (Y8 F) F (s.1,s.2.1,s.2.2.1,s.2.2.1,s.2.2.2.1,s.2.2.2.2)).bind λa=>
  ab (.inl (a.1,a.2.1,wi (a.2.2.1+1),a.2.2.2.1,a.2.2.2.2))
 else
 ab (.inr (s.2.2.2.1,s.2.2.2.2))
def Zfe:Lp:=⟨[(0,.rw 0),(1,.v yI),(2,.v yI),(3,.fn 158 []),(8,.v yI)],[.row Zm af 241],[yI,yI,yI,aOC,aOR],[⟨.exit 0,[],[.row Zm af 241],[aOC,aOR]⟩],Zc (Z0 yD) yD⟩
theorem Zju:Zfe.bA yb 244 0:=Zv MI [(1,Zfd)] [] trivial ⟨Zjt,au⟩
def Xl(F:Nat)(a1:Int)(a2:Int)(s0_0:aOD)(s0_1:aOO):yO ((aOD×aOO)):=
 (Zc (Z0 F) F (a1,a2,wi (a1+1),s0_0,s0_1)).bind λa=>
 ab (a.1,a.2)
def ZnS(F:Nat):Fs yb:=⟨244,[.rw 0,.v yI,.v yI,.fn 158 []],[.row Zm af 241],[yI,yI,aOC,aOR],[⟨.ret,[(0,.bj [])],[.row Zm af 241],[aOC,aOR]⟩],λx=>Xl F x.1 x.2.1 x.2.2.1 x.2.2.2⟩
def MJ:Fs yb:=ZnS yD
theorem Zff:MJ.Ok:=aR MI [(0,Zfe)] [] trivial ⟨Zju,au⟩
def YE(F:Nat)(s:(Int×Int×Int×Int×aOD×aOO)):yO ((Int×Int×Int×Int×aOD×aOO)⊕(Int×Int×Int×aOD×aOO)):=
 if(ah (s.2.2.2.1<=s.1))=af then
  (Xl F s.2.2.1 s.2.2.2.1 s.2.2.2.2.1 s.2.2.2.2.2).bind λa=>
  if(ah (s.2.2.2.2.1.length=a.1.length)&&(ah (40=40)&&ah ((yy s.2.2.2.2.2.length ()).length=a.2.length)))=af then
   ab (.inl (s.1,s.2.1,s.2.2.2.1,wi (s.2.2.2.1+s.2.1),a.1,a.2))
  else
  ae
 else
 ab (.inr (s.1,s.2.1,s.2.2.1,s.2.2.2.2.1,s.2.2.2.2.2))
def Zfg:Lp:=⟨[(0,.rw 0),(1,.v yI),(2,.fn 158 []),(6,.v yI),(7,.v yI),(8,.v yI)],[.row Zm af 241],[yI,yI,yI,yI,aOC,aOR],[⟨.exit 0,[(0,.rw 0),(1,.v yI),(2,.fn 158 []),(6,.v yI),(7,.v yI)],[.row Zm af 241],[yI,yI,yI,aOC,aOR]⟩],Zc (YE yD) yD⟩
def xq:HI:={ still:=[15,16,17,24,25,26,37,40,41,42,56,57,58,59],bU:=[0,14,23,36,55]}
theorem Zjv:Zfg.bA yb 217 0:=HD (fi:={ hi:=xq,gh:=[(3,.gC 0)]}) (aA:={ l:=[MJ]}) (jc ⟨Zff,au⟩)
def Zdo(F:Nat)(s:(Int×Int×Int×Int×aOD×aOO)):yO ((Int×Int×Int×Int×aOD×aOO)⊕(Int×Int×Int×aOD×aOO)):=
 if(ah (s.2.2.2.1<=s.1))=af then
  ae
 else
 ab (.inr (s.1,s.2.1,s.2.2.1,s.2.2.2.2.1,s.2.2.2.2.2))
def Zfh:Lp:=⟨[(1,.v yI),(2,.fn 158 []),(6,.v yI),(7,.v yI),(8,.v yI)],[.row Zm af 241],[yI,yI,yI,yI,aOC,aOR],[⟨.exit 4,[(1,.v yI),(2,.fn 158 []),(6,.v yI),(7,.v yI)],[.row Zm af 241],[yI,yI,yI,aOC,aOR]⟩],Zc (Zdo yD) yD⟩
theorem Zjw:Zfh.bA yb 217 2:=Zv xq [] [] trivial
def WC(F:Nat)(s:(Int×Int×aOD×aOO)):yO ((Int×Int×aOD×aOO)⊕(aOD×aOO)):=
 if(ah (s.2.1 < s.1))=af then
  (Zc (Zdo F) F (s.1,s.2.1,0,wi (2*s.2.1),s.2.2.1,s.2.2.2)).bind λa=>
  if(ah ((wi (a.2.2.1+a.2.1)) < a.1))=af then
   ae
  else
  ab (.inl (a.1,wi (a.2.1*2),a.2.2.2.1,a.2.2.2.2))
 else
 ab (.inr (s.2.2.1,s.2.2.2))
def Zfi:Lp:=⟨[(0,.ao),(1,.v yI),(2,.fn 158 []),(6,.v yI)],[.row Zm af 241],[yI,yI,aOC,aOR],[⟨.exit 2,[],[.row Zm af 241],[aOC,aOR]⟩],Zc (WC yD) yD⟩
theorem Zjx:Zfi.bA yb 217 1:=Zv xq [(2,Zfh)] [] trivial ⟨Zjw,au⟩
def MK(F:Nat)(a1:Int)(s0_0:aOD)(s0_1:aOO):yO ((aOD×aOO)):=
 (Zc (YE F) F (a1,20,0,20,s0_0,s0_1)).bind λa=>
 (Xl F a.2.2.1 a.1 a.2.2.2.1 a.2.2.2.2).bind λb=>
 (Zc (WC F) F (a.1,a.2.1,b.1,b.2)).bind λc=>
 ab (c.1,c.2)
def ZnT(F:Nat):Fs yb:=⟨217,[.rw 0,.v yI,.fn 158 []],[.row Zm af 241],[yI,aOC,aOR],[⟨.ret,[(0,.bj [])],[.row Zm af 241],[aOC,aOR]⟩],λx=>MK F x.1 x.2.1 x.2.2⟩
def Zgn:Fs yb:=ZnT yD
theorem ZnU:Zgn.Ok:=aR xq [(0,Zfg),(1,Zfi)] [MJ] ⟨Zff,au⟩ ⟨Zjv,Zjx,au⟩
def Wt(F:Nat)(s0_0:aOD)(s0_1:aOO):yO ((aOD×aOO)):=
 (MK F (s0_1.length:Int) s0_0 s0_1).bind λa=>
 ab (a.1,a.2)
def Zwe(F:Nat):Fs yb:=⟨157,[.rw 0,.fn 158 []],[.row Zm af 241],[aOC,aOR],[⟨.ret,[(0,.bj [])],[.row Zm af 241],[aOC,aOR]⟩],λx=>Wt F x.1 x.2⟩
def ZmK:Fs yb:=Zwe yD
theorem Zwf:ZmK.Ok:=aR { still:=[6,7],bU:=[0,4]} [] [Zgn] ⟨ZnU,au⟩
abbrev dT5:Type:=(Int×Int×Chan×yG×cS×aOD×aOO×aOK×Int×(yL fr)×aOJ)
abbrev dT6:Type:=(Chan×yG×cS×aOD×aOO×aOK×Int×(yL fr)×aOJ)
def ZQC:yL bi:=[.var (.v Yc) af,.var (.v ZF) af,.var (.v jR) af,.var (.rw 4) af,.row Zm af 241,.var (.agg [.agg [.v aOF,.own 7 Zy,.v yI],.own 6 kP]) af,.log kP 238,.log Zy 83]
abbrev tL9:yL Ty:=[Yc,ZF,jR,aOC,aOR,aOF,yI,(.sl kP),aOE]
abbrev ZRg:yL Ty:=[yI,yI,Yc,ZF,jR,aOC,aOR,aOF,yI,(.sl kP),aOE]
def YM(F:Nat)(s:dT4):yO (dT4⊕(Int×Chan×yG×cS×aOD×aOO)):=
 if(ah (s.2.2.2.2.2.2.2.1 < s.2.2.2.2.2.2.1))=af then
  (idx s.2.2.2.2.2.1 s.2.2.2.2.2.2.2.1).bind λa=>
  if(a.1==s.1)=af then
   (ZP F a.2.2.1 [([s.2.2.1],0,0,0),([s.2.2.2.2.1],0,0,a.2.2.2.1),([s.2.2.2.1],a.2.2.2.2,s.2.1,0)] (5,a) s.2.2.2.2.2.2.2.2.2.2.2.1 s.2.2.2.2.2.2.2.2.2.2.2.2).bind λb=>
   ab (.inl (s.1,s.2.1,s.2.2.1,s.2.2.2.1,s.2.2.2.2.1,s.2.2.2.2.2.1,s.2.2.2.2.2.2.1,wi (s.2.2.2.2.2.2.2.1+1),s.2.2.2.2.2.2.2.2.1,s.2.2.2.2.2.2.2.2.2.1,s.2.2.2.2.2.2.2.2.2.2.1,b.1,b.2))
  else
  (ZP F a.2.2.1 [([s.2.2.1],0,0,0),([s.2.2.2.1],0,s.2.1,a.2.2.2.1),([s.2.2.2.2.1],a.2.2.2.2,0,0)] (6,a) s.2.2.2.2.2.2.2.2.2.2.2.1 s.2.2.2.2.2.2.2.2.2.2.2.2).bind λc=>
  ab (.inl (s.1,s.2.1,s.2.2.1,s.2.2.2.1,s.2.2.2.2.1,s.2.2.2.2.2.1,s.2.2.2.2.2.2.1,wi (s.2.2.2.2.2.2.2.1+1),s.2.2.2.2.2.2.2.2.1,s.2.2.2.2.2.2.2.2.2.1,s.2.2.2.2.2.2.2.2.2.2.1,c.1,c.2))
 else
 ab (.inr (s.1,s.2.2.2.2.2.2.2.2.1,s.2.2.2.2.2.2.2.2.2.1,s.2.2.2.2.2.2.2.2.2.2.1,s.2.2.2.2.2.2.2.2.2.2.2.1,s.2.2.2.2.2.2.2.2.2.2.2.2))
abbrev zQ:List bi:=[.var (.v Yc) af,.var (.v ZF) af,.var (.v jR) af,.var (.rw 4) af,.row Zm af 241]
def ZkT:Lp:=⟨[(2,.v yI),(4,.ak 0 []),(5,.ak 1 []),(8,.ak 2 []),(11,.v yI),(12,.v .u64),(13,.v .u64),(14,.v .u64),(15,.ak 3 []),(16,.fn 150 [.ak 3 []]),(139,.v aOT),(140,.v yI),(141,.v yI)],zQ,tL8,[⟨.exit 1,[(2,.v yI),(4,.ak 0 []),(5,.ak 1 []),(8,.ak 2 []),(15,.ak 3 [])],zQ,[yI,Yc,ZF,jR,aOC,aOR]⟩],Zc (YM yD) yD⟩
def ZRh:HI:={ own:=[208,212,216,220],still:=[9,28,32,38,39,54,55,61,62,68,69,72,73,74,75,80,81,84,89,90,91,92,93,94,95,97,98,99,100,105,106,109,114,115,116,123,124,125,132,133,134,136,137,138,176,183,184],bU:=[187]}
theorem ZpI:ZkT.bA yb 81 0:=Zv ZRh [] [MH] ⟨ZhL,au⟩
def Xd(F:Nat)(s:dT5):yO (dT5⊕dT6):=
 if(ah (s.2.1 < s.1))=af then
  if(ba s.2.1 s.2.2.2.2.2.2.1.length)=af then
   (s.2.2.2.2.2.2.1[s.2.1.toNat]?).bind λa=>
   if(cO s.2.2.2.2.2.2.2.2.2.2.length 1 32)=af then
    if(cO s.2.2.2.2.2.2.2.2.2.1.length 1 48)=af then
     let b:(yL fr):=s.2.2.2.2.2.2.2.2.2.1++([a.2.1]:yL fr)
     ab (.inl (s.1,wi (s.2.1+1),s.2.2.1,s.2.2.2.1,s.2.2.2.2.1,s.2.2.2.2.2.1,s.2.2.2.2.2.2.1,s.2.2.2.2.2.2.2.1,s.2.2.2.2.2.2.2.2.1,b,s.2.2.2.2.2.2.2.2.2.2++([a.1]:yL Out)))
    else
    ae
   else
   ae
  else
  ae
 else
 ab (.inr (s.2.2.1,s.2.2.2.1,s.2.2.2.2.1,s.2.2.2.2.2.1,s.2.2.2.2.2.2.1,s.2.2.2.2.2.2.2.1,s.2.2.2.2.2.2.2.2.1,s.2.2.2.2.2.2.2.2.2.1,s.2.2.2.2.2.2.2.2.2.2))
def ZkU:Lp:=⟨[(8,.ak 2 []),(24,.ak 5 []),(200,.rw 4),(201,.v yI),(202,.v yI)],ZQC,ZRg,[⟨.exit 3,[(8,.ak 2 []),(24,.ak 5 [])],ZQC,tL9⟩],Zc (Xd yD) yD⟩
def ZQD:HI:={ own:=[208,212,216,220],still:=[9,28,32,38,39,54,55,61,62,68,69,72,73,74,75,80,81,84,89,90,91,92,93,94,95,97,98,99,100,105,106,109,114,115,116,123,124,125,132,133,134,136,137,138,176,183,184],bU:=[187],ff:=[(24,[([1],kP,238),([0,1],Zy,83)])]}
theorem ZpJ:ZkU.bA yb 81 1:=Zv ZQD [] [] trivial
def aZ(F:Nat)(a0:Chan)(a1:yG)(a2:Int)(a3:yU):yO ((cS×Int)):=
 (Qf F a2).bind λa=>
 if(!a)=af then
  ab ((([],[],0),[]),1)
 else
 (YA F a3).bind λb=>
 if(!b)=af then
  ab ((([],[],0),[]),1)
 else
 (Qg F a0 a1).bind λc=>
 if(!c)=af then
  ab ((([],[],0),[]),14)
 else
 if(ba (wi (1 - a2)) 2)=af then
  (a0.2.2.2.1[(wi (1 - a2)).toNat]?).bind λd=>
  if(ba (wi (1 - a2)) 2)=af then
   (a0.2.2.1[(wi (1 - a2)).toNat]?).bind λe=>
   (xm F e.2.2.2.2 a3).bind λf=>
   if(ba a2 2)=af then
    (a0.2.2.1[a2.toNat]?).bind λg=>
    (ph F g.2.2.2.1 a3).bind λh=>
    if(ba (wi (1 - a2)) 2)=af then
     (a0.2.2.1[(wi (1 - a2)).toNat]?).bind λi=>
     (ph F i.2.2.2.1 a3).bind λj=>
     (Qi F a0 a1 a2 a2).bind λk=>
     if(ba a2 2)=af then
      (a0.2.2.2.1[a2.toNat]?).bind λl=>
      (W9 F l k).bind λm=>
      if m=af then
       if(ba a2 2)=af then
        (a0.2.2.1[a2.toNat]?).bind λn=>
        (ph F n.2.2.1 a3).bind λo=>
        (MF F o f d.2.2.1).bind λp=>
        (ZP F k p (1,(0,0,0,0,0)) [] []).bind λq=>
        (Qi F a0 a1 a2 (wi (1 - a2))).bind λr=>
        if(ba a2 2)=af then
         (a0.2.2.2.1[a2.toNat]?).bind λs=>
         (W9 F s r).bind λt=>
         if t=af then
          if(ba (wi (1 - a2)) 2)=af then
           (a0.2.2.1[(wi (1 - a2)).toNat]?).bind λu=>
           (pd F u.2.1).bind λv=>
           (ZP F r v (2,(0,0,0,0,0)) q.1 q.2).bind λw=>
           if(ba a2 2)=af then
            (a0.2.2.1[a2.toNat]?).bind λx=>
            (Xo F x.1).bind λy=>
            (ZP F 330 y (3,(0,0,0,0,0)) w.1 w.2).bind λz=>
            if(ba (wi (1 - a2)) 2)=af then
             (a0.2.2.1[(wi (1 - a2)).toNat]?).bind λA=>
             (Xo F A.1).bind λB=>
             (ZP F 330 B (4,(0,0,0,0,0)) z.1 z.2).bind λC=>
             (XS F a0 a1 a2).bind λD=>
             (Zc (YM F) F (a2,d.2.2.1,f,h,j,D,(D.length:Int),0,a0,a1,(([],[],0),[]),C.1,C.2)).bind λE=>
             (Wt F E.2.2.2.2.1 E.2.2.2.2.2).bind λG=>
             if(ah (E.2.2.2.2.1.length=G.1.length)&&(ah (40=40)&&ah ((yy E.2.2.2.2.2.length ()).length=G.2.length)))=af then
              (Zc (Xd F) F ((G.2.length:Int),0,E.2.1,E.2.2.1,E.2.2.2.1,G.1,G.2,[(E.2.1.1,(0,[],0))],wi ((wi (2*E.2.2.1.1))+E.1),[],[])).bind λH=>
              ab (((H.2.2.2.2.2.1,H.2.2.2.2.2.2.2.2,H.2.2.2.2.2.2.1),H.2.2.2.2.2.2.2.1),0)
             else
             ae
            else
            ae
           else
           ae
          else
          ae
         else
         if(ba a2 2)=af then
          (a0.2.2.1[a2.toNat]?).bind λI=>
          (Xo F I.1).bind λJ=>
          (ZP F 330 J (3,(0,0,0,0,0)) q.1 q.2).bind λK=>
          if(ba (wi (1 - a2)) 2)=af then
           (a0.2.2.1[(wi (1 - a2)).toNat]?).bind λL=>
           (Xo F L.1).bind λM=>
           (ZP F 330 M (4,(0,0,0,0,0)) K.1 K.2).bind λN=>
           (XS F a0 a1 a2).bind λO=>
           (Zc (YM F) F (a2,d.2.2.1,f,h,j,O,(O.length:Int),0,a0,a1,(([],[],0),[]),N.1,N.2)).bind λP=>
           (Wt F P.2.2.2.2.1 P.2.2.2.2.2).bind λQ=>
           if(ah (P.2.2.2.2.1.length=Q.1.length)&&(ah (40=40)&&ah ((yy P.2.2.2.2.2.length ()).length=Q.2.length)))=af then
            (Zc (Xd F) F ((Q.2.length:Int),0,P.2.1,P.2.2.1,P.2.2.2.1,Q.1,Q.2,[(P.2.1.1,(0,[],0))],wi ((wi (2*P.2.2.1.1))+P.1),[],[])).bind λR=>
            ab (((R.2.2.2.2.2.1,R.2.2.2.2.2.2.2.2,R.2.2.2.2.2.2.1),R.2.2.2.2.2.2.2.1),0)
           else
           ae
          else
          ae
         else
         ae
        else
        ae
       else
       ae
      else
      (Qi F a0 a1 a2 (wi (1 - a2))).bind λS=>
      if(ba a2 2)=af then
       (a0.2.2.2.1[a2.toNat]?).bind λT=>
       (W9 F T S).bind λU=>
       if U=af then
        if(ba (wi (1 - a2)) 2)=af then
         (a0.2.2.1[(wi (1 - a2)).toNat]?).bind λV=>
         (pd F V.2.1).bind λW=>
         (ZP F S W (2,(0,0,0,0,0)) [] []).bind λX=>
         if(ba a2 2)=af then
          (a0.2.2.1[a2.toNat]?).bind λY=>
          (Xo F Y.1).bind λZ=>
          (ZP F 330 Z (3,(0,0,0,0,0)) X.1 X.2).bind λei=>
          if(ba (wi (1 - a2)) 2)=af then
           (a0.2.2.1[(wi (1 - a2)).toNat]?).bind λep=>
           (Xo F ep.1).bind λeu=>
           (ZP F 330 eu (4,(0,0,0,0,0)) ei.1 ei.2).bind λew=>
           (XS F a0 a1 a2).bind λez=>
           (Zc (YM F) F (a2,d.2.2.1,f,h,j,ez,(ez.length:Int),0,a0,a1,(([],[],0),[]),ew.1,ew.2)).bind λeA=>
           (Wt F eA.2.2.2.2.1 eA.2.2.2.2.2).bind λeB=>
           if(ah (eA.2.2.2.2.1.length=eB.1.length)&&(ah (40=40)&&ah ((yy eA.2.2.2.2.2.length ()).length=eB.2.length)))=af then
            (Zc (Xd F) F ((eB.2.length:Int),0,eA.2.1,eA.2.2.1,eA.2.2.2.1,eB.1,eB.2,[(eA.2.1.1,(0,[],0))],wi ((wi (2*eA.2.2.1.1))+eA.1),[],[])).bind λeC=>
            ab (((eC.2.2.2.2.2.1,eC.2.2.2.2.2.2.2.2,eC.2.2.2.2.2.2.1),eC.2.2.2.2.2.2.2.1),0)
           else
           ae
          else
          ae
         else
         ae
        else
        ae
       else
       if(ba a2 2)=af then
        (a0.2.2.1[a2.toNat]?).bind λeD=>
        (Xo F eD.1).bind λeE=>
        (ZP F 330 eE (3,(0,0,0,0,0)) [] []).bind λeG=>
        if(ba (wi (1 - a2)) 2)=af then
         (a0.2.2.1[(wi (1 - a2)).toNat]?).bind λeI=>
         (Xo F eI.1).bind λeJ=>
         (ZP F 330 eJ (4,(0,0,0,0,0)) eG.1 eG.2).bind λeK=>
         (XS F a0 a1 a2).bind λeL=>
         (Zc (YM F) F (a2,d.2.2.1,f,h,j,eL,(eL.length:Int),0,a0,a1,(([],[],0),[]),eK.1,eK.2)).bind λeM=>
         (Wt F eM.2.2.2.2.1 eM.2.2.2.2.2).bind λeN=>
         if(ah (eM.2.2.2.2.1.length=eN.1.length)&&(ah (40=40)&&ah ((yy eM.2.2.2.2.2.length ()).length=eN.2.length)))=af then
          (Zc (Xd F) F ((eN.2.length:Int),0,eM.2.1,eM.2.2.1,eM.2.2.2.1,eN.1,eN.2,[(eM.2.1.1,(0,[],0))],wi ((wi (2*eM.2.2.1.1))+eM.1),[],[])).bind λeO=>
          ab (((eO.2.2.2.2.2.1,eO.2.2.2.2.2.2.2.2,eO.2.2.2.2.2.2.1),eO.2.2.2.2.2.2.2.1),0)
         else
         ae
        else
        ae
       else
       ae
      else
      ae
     else
     ae
    else
    ae
   else
   ae
  else
  ae
 else
 ae
def ML(F:Nat):Fs yb:=⟨81,[.v Yc,.v ZF,.v yI,.v .u64],[],[Yc,ZF,yI,.u64],[⟨.ret,[(0,.bj [.v jR,.v yI])],[],[jR,yI]⟩],λx=>aZ F x.1 x.2.1 x.2.2.1 x.2.2.2⟩
def xt:Fs yb:=ML yD
theorem xu:xt.Ok:=lI (fi:={ hi:=ZQD,lp:=[(0,ZkT),(1,ZkU)],gh:=[(11,.bU 15 [] Zm 241),(31,.gD 15)]}) (aA:={ l:=[ZmB,XP,LY,ZmH,Zv7,ZmI,MD,Zsq,MH,LC,ZmJ,ME,ZmK]}) (jc ⟨ZvZ,Xt,LZ,Zv6,ZDD,Zwa,ZkS,ZBf,ZhL,LD,Zwc,Zjl,Zwf,au⟩) ⟨ZpI,ZpJ,au⟩
def MM(F:Nat)(a0:Int):yO (Int):=
 (pg F a0 16).bind λa=>
 ab (wi (a+660))
def MN(F:Nat):Fs yb:=⟨162,[.v yI],[],[yI],(zN yI),λx=>MM F x⟩
def ZhM:Fs yb:=MN yD
theorem Zgo:ZhM.Ok:=aR { still:=[2,3]} [] [xi] ⟨LV,au⟩
def MO(F:Nat):yO (Int):=
 ab 0
abbrev zT:List bi:=[.var (.agg [.v yI,.arr 21 1 [.bf,.bf,.bf,.bf,.bf,.bf,.bf,.bf,.bf,.bf,.bf,.bf,.bf,.bf,.bf,.bf,.bf,.bf,.bf,.bf,.bf]]) af]
def Ztc(F:Nat):Fs yb:=⟨163,[],[],[],[⟨.ret,[(0,.ak 0 [])],zT,[yI]⟩],λx=>MO F⟩
def ZkV:Fs yb:=Ztc yD
theorem Ztd:ZkV.Ok:=aR { still:=[0]} [] [] trivial
def xv(F:Nat)(a0:yU):yO (yU):=
 (V9 F a0).bind λa=>
 (V8 F a 2305843009213688668).bind λb=>
 ab b
def ZBg(F:Nat):Fs yb:=⟨222,[.v .u64],[],[.u64],(zN .u64),λx=>xv F x⟩
def Zsr:Fs yb:=ZBg yD
theorem ZBh:Zsr.Ok:=aR { still:=[2,3,4]} [] [vX,vT] ⟨IR,IJ,au⟩
def Va(F:Nat)(a0:yU)(a1:aOz)(a2:yU)(a3:cQ):yO (Bool):=
 if(a0==1)=af then
  ab ag
 else
 (YA F a0).bind λa=>
 if(!a)=af then
  ab ag
 else
 (YA F a2).bind λb=>
 if(!b)=af then
  ab ag
 else
 (YA F a3.1).bind λc=>
 if(!c)=af then
  ab ag
 else
 (Wn F a3.2).bind λd=>
 if(!d)=af then
  ab ag
 else
 (XG F a3.1 a0 a1).bind λe=>
 (WZ F a0 e).bind λf=>
 (xv F a2).bind λg=>
 (sE F [a3.1,f,g]).bind λh=>
 (YG F a3.2).bind λi=>
 ab (i==h)
def Zwg(F:Nat):Fs yb:=⟨166,[.v .u64,.v aOB,.v .u64,.v Wr],[],[.u64,aOB,.u64,Wr],(zN .bool),λx=>Va F x.1 x.2.1 x.2.2.1 x.2.2.2⟩
def ZmL:Fs yb:=Zwg yD
def ZRi:HI:={ still:=[8,13,18,24,30,36,38,39,40,41,43,45,48]}
theorem Zwh:ZmL.Ok:=aR ZRi [] [XP,QB,KN,vY,Zsr,KG,W0] ⟨Xt,vG,Zf8,IS,ZBh,Zpi,Wv,au⟩
def Xp(F:Nat)(a0:yU)(a1:aOz)(a2:cQ):yO (Bool):=
 (Va F a0 a1 1 a2).bind λa=>
 ab a
def MQ(F:Nat):Fs yb:=⟨83,[.v .u64,.v aOB,.v Wr],[],[.u64,aOB,Wr],(zN .bool),λx=>Xp F x.1 x.2.1 x.2.2⟩
def xw:Fs yb:=MQ yD
theorem xx:xw.Ok:=aR { still:=[6,7,8,9]} [] [ZmL] ⟨Zwh,au⟩
def Vr(F:Nat)(s0:Int):yO ((aOz×Int)):=
 (Y7 F [] s0).bind λa=>
 ab (a,s0)
def ZhN(F:Nat):Fs yb:=⟨164,[.ak 0 []],zT,[yI],[⟨.ret,[(0,.v aOA)],zT,[aOA,yI]⟩],λx=>Vr F x⟩
def Za8:Fs yb:=ZhN yD
theorem ZhO:Za8.Ok:=lI (fi:={ hi:={ still:=[2,9,20,24]},un:=22}) (aA:={ l:=[W3]}) (jc ⟨Wq,au⟩)
abbrev VZ:Ty:=(.st [yI,Xb,.u64,aOA,yI,aOA])
abbrev Ye:Type:=(Int×Cond×yU×aOz×Int×aOz)
abbrev Ye.Cond(x:Ye):Cond:=x.2.1
abbrev YR:Ty:=(.st [yI,aOZ])
abbrev Z4:Type:=(Int×aOP)
abbrev Zi:Ty:=(.st [Yc,fk,yI,ZF,(.arr 2 (.sl VZ)),YR,YR,YR,.bool,Wr,(.arr 2 .u64),(.sl aOZ),aOA])
abbrev aq:Type:=(Chan×cU×Int×yG×(yL (yL Ye))×Z4×Z4×Z4×Bool×cQ×aOM×(yL aOP)×aOz)
abbrev Z5:Ty:=(.st [Xb,yI,yI,aOA,VZ])
abbrev Zt:Type:=(Cond×Int×Int×aOz×Ye)
abbrev Zt.Cond(x:Zt):Cond:=x.1
abbrev _root_.aOY:=yL Zt
def ZX(F:Nat)(s:(Int×(yL Ye)×Int×Int×aq×aOD×aOY)):yO ((Int×(yL Ye)×Int×Int×aq×aOD×aOY)⊕(Int×aq×aOD×aOY)):=
 if(ah (s.2.2.2.1 < s.2.2.1))=af then
  (idx s.2.1 s.2.2.2.1).bind λa=>
  if(a.1==1)=af then
   if(ba (wi (1 - s.1)) 2)=af then
    (s.2.2.2.2.1.2.2.2.2.1[(wi (1 - s.1)).toNat]?).bind λb=>
    if(cO s.2.2.2.2.2.2.length 1 192)=af then
     let c:aOY:=s.2.2.2.2.2.2++([(a.2.1,s.2.2.2.1,(b.length:Int),a.2.2.2.2.2,(0,(0,0,0,0,0),0,[],0,[]))]:yL Zt)
     ab (.inl (s.1,s.2.1,s.2.2.1,wi (s.2.2.2.1+1),s.2.2.2.2.1,()::s.2.2.2.2.2.1,c))
    else
    ae
   else
   ae
  else
  ab (.inl (s.1,s.2.1,s.2.2.1,wi (s.2.2.2.1+1),s.2.2.2.2.1,s.2.2.2.2.2.1,s.2.2.2.2.2.2))
 else
 ab (.inr (s.1,s.2.2.2.2.1,s.2.2.2.2.2.1,s.2.2.2.2.2.2))
abbrev ZRj:yL Ty:=[yI,(.sl VZ),yI,yI,Zi,aOC,(.sl Z5)]
def Qn:Lp:=⟨[(0,.ak 0 []),(1,.v yI),(5,.rw 1),(16,.v (.sl VZ)),(17,.v yI),(18,.v yI)],[.var (.v Zi) af,.row Z5 af 320],ZRj,[⟨.exit 0,[(0,.ak 0 []),(1,.v yI),(5,.rw 1)],[.var (.v Zi) af,.row Z5 af 320],[yI,Zi,aOC,(.sl Z5)]⟩],Zc (ZX yD) yD⟩
def MS:HI:={ own:=[5,26,42],still:=[4],bU:=[5,26,42,65]}
theorem Zdd:Qn.bA yb 246 0:=Zv MS [] [] trivial
def ZY(F:Nat)(s:((yL Ye)×Int×Int×aq×aOD×aOY)):yO (((yL Ye)×Int×Int×aq×aOD×aOY)⊕(aq×aOD×aOY)):=
 if(ah (s.2.2.1 < s.2.1))=af then
  (idx s.1 s.2.2.1).bind λa=>
  if(a.1==2)=af then
   if(ba (wi (a.2.1.2.1 - 1)) s.2.2.2.2.2.length)=af then
    (s.2.2.2.2.2[(wi (a.2.1.2.1 - 1)).toNat]?).bind λb=>
    let c:aOY:=s.2.2.2.2.2.set ((wi (a.2.1.2.1 - 1)).toNat) (b.1,b.2.1,s.2.2.1,b.2.2.2.1,b.2.2.2.2)
    (c[(wi (a.2.1.2.1 - 1)).toNat]?).bind λd=>
    let e:aOY:=c.set ((wi (a.2.1.2.1 - 1)).toNat) (d.1,d.2.1,d.2.2.1,d.2.2.2.1,a)
    ab (.inl (s.1,s.2.1,wi (s.2.2.1+1),s.2.2.2.1,s.2.2.2.2.1,e))
   else
   ae
  else
  if(a.1==3)=af then
   if(ba (wi (a.2.1.2.1 - 1)) s.2.2.2.2.2.length)=af then
    (s.2.2.2.2.2[(wi (a.2.1.2.1 - 1)).toNat]?).bind λf=>
    let g:aOY:=s.2.2.2.2.2.set ((wi (a.2.1.2.1 - 1)).toNat) (f.1,f.2.1,s.2.2.1,f.2.2.2.1,f.2.2.2.2)
    (g[(wi (a.2.1.2.1 - 1)).toNat]?).bind λh=>
    let i:aOY:=g.set ((wi (a.2.1.2.1 - 1)).toNat) (h.1,h.2.1,h.2.2.1,h.2.2.2.1,a)
    ab (.inl (s.1,s.2.1,wi (s.2.2.1+1),s.2.2.2.1,s.2.2.2.2.1,i))
   else
   ae
  else
  ab (.inl (s.1,s.2.1,wi (s.2.2.1+1),s.2.2.2.1,s.2.2.2.2.1,s.2.2.2.2.2))
 else
 ab (.inr (s.2.2.2.1,s.2.2.2.2.1,s.2.2.2.2.2))
def Qo:Lp:=⟨[(5,.rw 1),(50,.v (.sl VZ)),(51,.v yI),(52,.v yI)],[.var (.v Zi) af,.row Z5 af 320],[(.sl VZ),yI,yI,Zi,aOC,(.sl Z5)],[⟨.exit 2,[(5,.rw 1)],[.var (.v Zi) af,.row Z5 af 320],[Zi,aOC,(.sl Z5)]⟩],Zc (ZY yD) yD⟩
theorem Zde:Qo.bA yb 246 1:=Zv MS [] [] trivial
def Yq(F:Nat)(a1:Int)(s0:aq):yO ((aOY×aq)):=
 if(ba a1 2)=af then
  (s0.2.2.2.2.1[a1.toNat]?).bind λa=>
  (Zc (ZX F) F (a1,a,(a.length:Int),0,s0,[],[])).bind λb=>
  if(ba (wi (1 - b.1)) 2)=af then
   (b.2.1.2.2.2.2.1[(wi (1 - b.1)).toNat]?).bind λc=>
   (Zc (ZY F) F (c,(c.length:Int),0,b.2.1,b.2.2.1,b.2.2.2)).bind λd=>
   ab (d.2.2,d.1)
  else
  ae
 else
 ae
def ZfA(F:Nat):Fs yb:=⟨246,[.ak 0 [],.v yI],[.var (.v Zi) af],[yI,Zi],[⟨.ret,[(0,.v (.sl Z5))],[.var (.v Zi) af],[(.sl Z5),Zi]⟩],λx=>Yq F x.1 x.2⟩
def QF:Fs yb:=ZfA yD
theorem ZfB:QF.Ok:=aR MS [(0,Qn),(1,Qo)] [] trivial ⟨Zdd,Zde,au⟩
abbrev qP:=aq×Z4×yG×Int×aOP×Int×aOX
abbrev dT7:Type:=(Int×Int×aOY×Int×Int×qP)
def YS(F:Nat)(s:dT7):yO (dT7⊕(Int×qP)):=
 if(ah (s.2.2.2.2.1 < s.2.2.2.1))=af then
  (idx s.2.2.1 s.2.2.2.2.1).bind λa=>
  if(ba s.1 2)=af then
   (s.2.2.2.2.2.2.1.2[s.1.toNat]?).bind λb=>
   if(ah (a.2.1 >= b))=af then
    ab (.inl (s.1,s.2.1,s.2.2.1,s.2.2.2.1,wi (s.2.2.2.2.1+1),s.2.2.2.2.2.1,s.2.2.2.2.2.2.1,s.2.2.2.2.2.2.2.1,s.2.2.2.2.2.2.2.2.1,s.2.2.2.2.2.2.2.2.2.1,s.2.2.2.2.2.2.2.2.2.2.1,s.2.2.2.2.2.2.2.2.2.2.2))
   else
   if(ba (wi (1 - s.1)) 2)=af then
    (s.2.2.2.2.2.2.1.2[(wi (1 - s.1)).toNat]?).bind λc=>
    if(ah (a.2.2.1 >= c))=af then
     if(ba s.1 2)=af then
      (s.2.2.2.2.2.2.2.2.2.1[s.1.toNat]?).bind λd=>
      if(ba s.1 2)=af then
       (s.2.2.2.2.2.2.2.2.2.1[s.1.toNat]?).bind λe=>
       if(cO s.2.2.2.2.2.2.2.2.2.2.2.length 1 40)=af then
        let f:aOX:=s.2.2.2.2.2.2.2.2.2.2.2++([a.1]:yL Cond)
        ab (.inl (s.1,s.2.1,s.2.2.1,s.2.2.2.1,wi (s.2.2.2.2.1+1),s.2.2.2.2.2.1,s.2.2.2.2.2.2.1,s.2.2.2.2.2.2.2.1,s.2.2.2.2.2.2.2.2.1,s.2.2.2.2.2.2.2.2.2.1.set s.1.toNat (wi (d - a.1.2.2.1)),s.2.2.2.2.2.2.2.2.2.2.1,f))
       else
       ae
      else
      ae
     else
     ae
    else
    if(a.2.2.2.2.1==2)=af then
     if(ba s.1 2)=af then
      (s.2.2.2.2.2.2.2.2.2.1[s.1.toNat]?).bind λg=>
      if(ba s.1 2)=af then
       (s.2.2.2.2.2.2.2.2.2.1[s.1.toNat]?).bind λh=>
       if(ba (wi (1 - s.1)) 2)=af then
        ((s.2.2.2.2.2.2.2.2.2.1.set s.1.toNat (wi (g - a.1.2.2.1)))[(wi (1 - s.1)).toNat]?).bind λi=>
        if(ba (wi (1 - s.1)) 2)=af then
         ((s.2.2.2.2.2.2.2.2.2.1.set s.1.toNat (wi (g - a.1.2.2.1)))[(wi (1 - s.1)).toNat]?).bind λj=>
         ab (.inl (s.1,s.2.1,s.2.2.1,s.2.2.2.1,wi (s.2.2.2.2.1+1),s.2.2.2.2.2.1,s.2.2.2.2.2.2.1,s.2.2.2.2.2.2.2.1,s.2.2.2.2.2.2.2.2.1,(s.2.2.2.2.2.2.2.2.2.1.set s.1.toNat (wi (g - a.1.2.2.1))).set ((wi (1 - s.1)).toNat) (wi (i+a.1.2.2.1)),s.2.2.2.2.2.2.2.2.2.2.1,s.2.2.2.2.2.2.2.2.2.2.2))
        else
        ae
       else
       ae
      else
      ae
     else
     ae
    else
    ab (.inl (s.1,s.2.1,s.2.2.1,s.2.2.2.1,wi (s.2.2.2.2.1+1),s.2.2.2.2.2.1,s.2.2.2.2.2.2.1,s.2.2.2.2.2.2.2.1,s.2.2.2.2.2.2.2.2.1,s.2.2.2.2.2.2.2.2.2.1,s.2.2.2.2.2.2.2.2.2.2.1,s.2.2.2.2.2.2.2.2.2.2.2))
   else
   ae
  else
  ae
 else
 ab (.inr (s.2.1,s.2.2.2.2.2.1,s.2.2.2.2.2.2.1,s.2.2.2.2.2.2.2.1,s.2.2.2.2.2.2.2.2.1,s.2.2.2.2.2.2.2.2.2.1,s.2.2.2.2.2.2.2.2.2.2.1,s.2.2.2.2.2.2.2.2.2.2.2))
def pi:yL bi:=[.var (.v Zi) af,.var (.v YR) af,.var (.v ZF) af,.var (.agg [.v yI,.v aOZ,.own 4 Xb,.v yI]) af,.log Xb 61]
abbrev ZQE:yL Ty:=[yI,Zi,YR,ZF,yI,aOZ,yI,aOT]
abbrev ZRk:yL Ty:=[yI,yI,(.sl Z5),yI,yI,Zi,YR,ZF,yI,aOZ,yI,aOT]
def Zgp:Lp:=⟨[(0,.ak 0 []),(3,.ak 1 []),(4,.ak 2 []),(5,.ak 3 []),(6,.v yI),(24,.v yI),(29,.v (.sl Z5)),(30,.v yI),(31,.v yI)],pi,ZRk,[⟨.exit 2,[(0,.ak 0 []),(3,.ak 1 []),(4,.ak 2 []),(5,.ak 3 []),(24,.v yI)],pi,ZQE⟩],Zc (YS yD) yD⟩
def xy:HI:={ own:=[63,67],still:=[27,28],ff:=[(5,[([2],Xb,61)])]}
theorem ZkW:Zgp.bA yb 220 1:=Zv xy [] [] trivial
def Yi(F:Nat)(s:(Int×qP)):yO ((Int×qP)⊕(qP)):=
 if(ah (s.1 < 2))=af then
  (Yq F s.1 s.2.1).bind λa=>
  (Zc (YS F) F (s.1,s.1,a.1,(a.1.length:Int),0,a.2,s.2.2.1,s.2.2.2.1,s.2.2.2.2.1,s.2.2.2.2.2.1,s.2.2.2.2.2.2.1,s.2.2.2.2.2.2.2)).bind λb=>
  ab (.inl (wi (b.1+1),b.2.1,b.2.2.1,b.2.2.2.1,b.2.2.2.2.1,b.2.2.2.2.2.1,b.2.2.2.2.2.2.1,b.2.2.2.2.2.2.2))
 else
 ab (.inr (s.2.1,s.2.2.1,s.2.2.2.1,s.2.2.2.2.1,s.2.2.2.2.2.1,s.2.2.2.2.2.2.1,s.2.2.2.2.2.2.2))
def Zgq:Lp:=⟨[(0,.ak 0 []),(3,.ak 1 []),(4,.ak 2 []),(5,.ak 3 []),(24,.v yI)],pi,ZQE,[⟨.exit 0,[(0,.ak 0 []),(3,.ak 1 []),(4,.ak 2 []),(5,.ak 3 [])],pi,[Zi,YR,ZF,yI,aOZ,yI,aOT]⟩],Zc (Yi yD) yD⟩
theorem ZkX:Zgq.bA yb 220 0:=Zv xy [(1,Zgp)] [QF] ⟨ZfB,au⟩ ⟨ZkW,au⟩
abbrev dT8:Type:=((yL Ye)×Int×Int×qP)
def Yx(F:Nat)(s:dT8):yO (dT8⊕(qP)):=
 if(ah (s.2.2.1 < s.2.1))=af then
  (idx s.1 s.2.2.1).bind λa=>
  if(a.1==4)=af then
   ab (.inl (s.1,s.2.1,wi (s.2.2.1+1),s.2.2.2.1,s.2.2.2.2.1,s.2.2.2.2.2.1,s.2.2.2.2.2.2.1,s.2.2.2.2.2.2.2.1,a.2.2.2.2.1,s.2.2.2.2.2.2.2.2.2))
  else
  ab (.inl (s.1,s.2.1,wi (s.2.2.1+1),s.2.2.2.1,s.2.2.2.2.1,s.2.2.2.2.2.1,s.2.2.2.2.2.2.1,s.2.2.2.2.2.2.2.1,s.2.2.2.2.2.2.2.2.1,s.2.2.2.2.2.2.2.2.2))
 else
 ab (.inr (s.2.2.2.1,s.2.2.2.2.1,s.2.2.2.2.2.1,s.2.2.2.2.2.2.1,s.2.2.2.2.2.2.2.1,s.2.2.2.2.2.2.2.2.1,s.2.2.2.2.2.2.2.2.2))
abbrev ZRl:yL Ty:=[(.sl VZ),yI,yI,Zi,YR,ZF,yI,aOZ,yI,aOT]
def Zgr:Lp:=⟨[(4,.ak 2 []),(5,.ak 3 []),(115,.v (.sl VZ)),(116,.v yI),(117,.v yI)],pi,ZRl,[⟨.exit 5,[(4,.ak 2 []),(5,.ak 3 [])],pi,[Zi,YR,ZF,yI,aOZ,yI,aOT]⟩],Zc (Yx yD) yD⟩
theorem ZkY:Zgr.bA yb 220 2:=Zv xy [] [] trivial
def XJ(F:Nat)(a1:Z4)(s0:aq):yO ((yG×aq)):=
 (Zc (Yi F) F (0,s0,a1,(0,[0,0],[],0),a1.1,s0.2.2.2.1.2.1,s0.2.2.2.1.2.2.2,[])).bind λa=>
 if(ba a.1.1.2.2.2.2 2)=af then
  (a.1.2.2.2.2.1[a.1.1.2.2.2.2.toNat]?).bind λb=>
  if(ba a.1.1.2.2.2.2 2)=af then
   (a.2.1.2[a.1.1.2.2.2.2.toNat]?).bind λc=>
   if(ei b.length ae (ab c))=af then
    (Zc (Yx F) F (b.take c.toNat,((b.take c.toNat).length:Int),0,a.1,a.2.1,a.2.2.1,a.2.2.2.1,a.2.2.2.2.1,a.2.2.2.2.2.1,a.2.2.2.2.2.2)).bind λd=>
    ab ((d.2.2.2.1,d.2.2.2.2.1,d.2.2.2.2.2.2,d.2.2.2.2.2.1),d.1)
   else
   ae
  else
  ae
 else
 ae
def ZpK(F:Nat):Fs yb:=⟨220,[.ak 0 [],.v YR],[.var (.v Zi) af],[YR,Zi],[⟨.ret,[(0,.v ZF)],[.var (.v Zi) af],[ZF,Zi]⟩],λx=>XJ F x.1 x.2⟩
def Zq8:Fs yb:=ZpK yD
theorem ZpL:Zq8.Ok:=aR xy [(0,Zgq),(2,Zgr)] [] trivial ⟨ZkX,ZkY,au⟩
def WK(F:Nat)(x0:Z4)(x1:aq):yO (yG):=(XJ F x0 x1).map λo=>o.1
def MT:Rs yb:=⟨220,[.ak 0 [],.v YR],[.var (.v Zi) af],[YR,Zi],.v ZF,[ZF],λx=>WK yD x.1 x.2⟩
def Kp{α:Type}(p:α->Prop)(x:yO α):Prop:=∀a,x=ab a->p a
theorem lO{α:Type}{p:α->Prop}{a:α}(h:p a):Kp p (ab a):=λb e=>by cases e;exact h
theorem kQ{α:Type}{p:α->Prop}:Kp p (ae:yO α):=λb e=>by cases e
theorem jS{α:Type}{p:α->Prop}{c:Prop}[Decidable c]{a b:yO α}(h:Kp p a)(k:Kp p b):Kp p (if c then a else b):=by
 split
 .exact h
 .exact k
theorem lP{α β:Type}{p:β->Prop}{x:yO α}{f:α->yO β}(h:∀a,Kp p (f a)):Kp p (x.bind f):=λb e=>by
 obtain⟨a,_,h2⟩:=yf.1 e;exact h a b h2
theorem pj{α β:Type}{p:β->Prop}{q:α->Prop}{x:yO α}{f:α->yO β}(hx:Kp q x)(h:∀a,q a->Kp p (f a)):Kp p (x.bind f):=λb e=>by
 obtain⟨a,h1,h2⟩:=yf.1 e;exact h a (hx a h1) b h2
def pm{I X:Type}(P:I->Prop)(Q:X->Prop):I⊕X->Prop
 |.inl t=>P t
 |.inr x=>Q x
theorem pn{I X:Type}{step:I->yO (I⊕X)}{P:I->Prop}{Q:X->Prop}(h:∀s,P s->Kp (pm P Q) (step s)):∀(n:Nat)(s:I),P s->Kp Q (Zc step n s)
 |0,s,_,a,e=>by cases e
 |n+1,s,hp,a,e=>by
  unfold Zc at e;obtain⟨r,r1,r2⟩:=yf.1 e;have hr:=h s hp r r1
  cases r with
  |inl t=>exact pn h n t hr a r2
  |inr x=>cases r2;exact hr
theorem ZPv(a:aq):∀s,s.2.2.2.2.1=a->Kp (pm (λt=>t.2.2.2.2.1=a) λx=>x.2.1=a) (ZX yD s):=by
 intro s h;unfold ZX;dsimp only
 repeat first|exact kQ|exact lO h|apply jS|(refine lP λ_=> ?_)
theorem ZPw(a:aq):∀s,s.2.2.2.1=a->Kp (pm (λt=>t.2.2.2.1=a) λx=>x.1=a) (ZY yD s):=by
 intro s h;unfold ZY;dsimp only
 repeat first|exact kQ|exact lO h|apply jS|(refine lP λ_=> ?_)
theorem ZQF(i:Int)(a:aq):Kp (λo=>o.2=a) (Yq yD i a):=by
 unfold Yq;refine jS (lP λe=>pj (pn (ZPv a) _ _ rfl) λo ho=>jS (lP λe2=>pj (pn (ZPw a) _ _ ho) λo2 h2=>lO h2) kQ) kQ
theorem ZPx(a:aq):∀s,s.2.2.2.2.2.1=a->Kp (pm (λt=>t.2.2.2.2.2.1=a) λx=>x.2.1=a) (YS yD s):=by
 intro s h;unfold YS;dsimp only
 repeat first|exact kQ|exact lO h|apply jS|(refine lP λ_=> ?_)
theorem ZPy(a:aq):∀s,s.2.1=a->Kp (pm (λt=>t.2.1=a) λx=>x.1=a) (Yi yD s):=by
 intro s h;unfold Yi;subst h;refine jS (pj (ZQF _ _) λo ho=>pj (pn (ZPx s.2.1) _ _ ho) λo2 h2=>lO h2) (lO rfl)
theorem ZPz(a:aq):∀s,s.2.2.2.1=a->Kp (pm (λt=>t.2.2.2.1=a) λx=>x.1=a) (Yx yD s):=by
 intro s h;unfold Yx
 repeat first|exact kQ|exact lO h|apply jS|(refine lP λ_=> ?_)
theorem ZQG(c:Z4)(a:aq):Kp (λo=>o.2=a) (XJ yD c a):=by
 unfold XJ;refine pj (pn (ZPy a) _ _ rfl) λo ho=>jS (lP λe=>jS (lP λe2=>jS (pj (pn (ZPz a) _ _ ho) λo2 h2=>lO h2) kQ) kQ) kQ
theorem Zdp:MT.Ok:=by
 rintro⟨x0,x1⟩ o h;obtain⟨y,h1,h2⟩:=Zb (show(XJ yD x0 x1).map (λo=>o.1)=ab o from h)
 have hk:y=(y.1,x1):=by
  exact Prod.ext rfl (ZQG x0 x1 y h1)
 obtain⟨args,R,H,q1,q2,q3⟩:=ZpL (x0,x1) y h1;refine⟨args,R,H,q1,q2,λq hq=> ?_⟩;subst h2;obtain⟨r,e1,e2⟩:=q3 _ _ ([q.1],H) ⟨rfl,rfl⟩ (by rw[hk];cases q1;cases q2;cases hq;rfl);cases e1;exact e2
def Qj(F:Nat)(a1:Z4)(a2:cQ)(s0:aq):yO ((Bool×aq)):=
 (be F s0.2.1 a1.1).bind λa=>
 (WK F a1 s0).bind λb=>
 (aZ F s0.1 b s0.2.2.1 a.1).bind λc=>
 if(c.2==0)=af then
  if(ba (wi (1 - s0.2.2.1)) 2)=af then
   (s0.1.2.2.1[(wi (1 - s0.2.2.1)).toNat]?).bind λd=>
   (ck F c.1.1).bind λe=>
   (Xp F d.1 e a2).bind λf=>
   ab (f,s0)
  else
  ae
 else
 ab (ag,s0)
def ZnV(F:Nat):Fs yb:=⟨165,[.ak 0 [],.v YR,.v Wr],[.var (.v Zi) af],[YR,Wr,Zi],[⟨.ret,[(0,.v .bool)],[.var (.v Zi) af],[.bool,Zi]⟩],λx=>Qj F x.1 x.2.1 x.2.2⟩
def Zgu:Fs yb:=ZnV yD
def ZRm:HI:={ still:=[6,15,17,25,26,27,28,32,33,51,53,54,55]}
theorem ZnW:Zgu.Ok:=lI (fi:={ hi:=ZRm}) (aA:={ l:=[wZ,xt,ny,xw],mt:=[],ro:=[MT]}) (FM ⟨xa,xu,nA,xx,au⟩ trivial ⟨Zdp,au⟩)
def sM(F:Nat)(a0:Chan)(a1:cU)(a2:Int)(a3:yG)(a4:aOM)(a5:cQ):yO (Int⊕(Int×aq)):=
 if((bits .andNot .i64 a2 1)!=0)=af then
  ab (.inl 1)
 else
 (Qa F a1).bind λa=>
 if(ba a2 2)=af then
  (a0.2.2.1[a2.toNat]?).bind λb=>
  if(!(ah (a=b)))=af then
   ab (.inl 1)
  else
  (a4[0]?).bind λc=>
  (YA F c).bind λd=>
  if(!d)=af then
   ab (.inl 1)
  else
  (a4[1]?).bind λe=>
  (YA F e).bind λf=>
  if(!f)=af then
   ab (.inl 1)
  else
  (bZ F a0).bind λg=>
  if(g !=0)=af then
   ab (.inl g)
  else
  (Qg F a0 a3).bind λh=>
  if(!h)=af then
   ab (.inl 1)
  else
  if(ah ((a3.2.2.1.length:Int) > 0))=af then
   ab (.inl 1)
  else
  if(a3.1 !=0)=af then
   ab (.inl 1)
  else
  if(ba a0.2.2.2.2 2)=af then
   (a3.2.1[a0.2.2.2.2.toNat]?).bind λi=>
   (MM F a3.2.2.2).bind λj=>
   if(ah (i < j))=af then
    ab (.inl 8)
   else
   (MO F).bind λk=>
   (Vr F k).bind λl=>
   (Qj F (0,[0,0]) a5 (a0,a1,a2,a3,[[],[]],(0,[0,0]),(0,[0,0]),(0,[0,0]),ag,a5,a4,[[0,0]],l.1)).bind λm=>
   if(!m.1)=af then
    ab (.inl 7)
   else
   ab (.inr (0,m.2))
  else
  ae
 else
 ae
def ZxH(F:Nat):Fs yb:=⟨82,[.v Yc,.v fk,.v yI,.v ZF,.v (.arr 2 .u64),.v Wr],[],[Yc,fk,yI,ZF,(.arr 2 .u64),Wr],[⟨.ret,[(0,.bj [.bf,.v yI])],[],[yI]⟩,⟨.ret,[(0,.bj [.ak 0 [],.v yI])],[.var (.v Zi) af],[yI,Zi]⟩],λx=>sM F x.1 x.2.1 x.2.2.1 x.2.2.2.1 x.2.2.2.2.1 x.2.2.2.2.2⟩
def ZpM:Fs yb:=ZxH yD
def ZRn:HI:={ still:=[12,13,20,30,36,40,45,46,66,77,81,85,86]}
theorem ZxI:ZpM.Ok:=aR ZRn [] [vZ,XP,vV,LY,ZhM,ZkV,Za8,Zgu] ⟨wa,Xt,vW,LZ,Zgo,Ztd,ZhO,ZnW,au⟩
abbrev ZA:Ty:=(.st [(.arr 2 aOB),(.arr 2 iF),aOZ,yI,yI])
abbrev aH:Type:=(aPb×(yL bu)×aOP×Int×Int)
abbrev aH.bu(x:aH):(yL bu):=x.2.1
def YC(F:Nat)(s:(Int×aH×(yL cU)×Chan)):yO ((Int×aH×(yL cU)×Chan)⊕((Bool×aH×(yL cU)×Chan)⊕(aH×(yL cU)×Chan))):=
 if(ah (s.1 < 2))=af then
  if(ba s.1 2)=af then
   (s.2.1.1[s.1.toNat]?).bind λa=>
   (lN F a).bind λb=>
   if(ba s.1 2)=af then
    (s.2.2.1[s.1.toNat]?).bind λc=>
    if(ba s.1 2)=af then
     ((s.2.2.1.set s.1.toNat b)[s.1.toNat]?).bind λd=>
     (Qa F d).bind λe=>
     if(ba s.1 2)=af then
      (s.2.2.2.2.2.1[s.1.toNat]?).bind λf=>
      if(ba s.1 2)=af then
       (s.2.1.2.2.1[s.1.toNat]?).bind λg=>
       if(ah (g < 0))=af then
        ab (.inr (.inl (ag,s.2.1,s.2.2.1.set s.1.toNat b,(s.2.2.2.1,s.2.2.2.2.1,s.2.2.2.2.2.1.set s.1.toNat e,s.2.2.2.2.2.2.1,s.2.2.2.2.2.2.2))))
       else
       if(ba s.1 2)=af then
        (s.2.1.2.2.1[s.1.toNat]?).bind λh=>
        if(ah (h > 1099511627776))=af then
         ab (.inr (.inl (ag,s.2.1,s.2.2.1.set s.1.toNat b,(s.2.2.2.1,s.2.2.2.2.1,s.2.2.2.2.2.1.set s.1.toNat e,s.2.2.2.2.2.2.1,s.2.2.2.2.2.2.2))))
        else
        if(ba s.1 2)=af then
         (s.2.1.2.2.1[s.1.toNat]?).bind λi=>
         ab (.inl (wi (s.1+1),s.2.1,s.2.2.1.set s.1.toNat b,(s.2.2.2.1,wi (s.2.2.2.2.1+i),s.2.2.2.2.2.1.set s.1.toNat e,s.2.2.2.2.2.2.1,s.2.2.2.2.2.2.2)))
        else
        ae
       else
       ae
      else
      ae
     else
     ae
    else
    ae
   else
   ae
  else
  ae
 else
 ab (.inr (.inr (s.2.1,s.2.2.1,s.2.2.2)))
abbrev qB:List bi:=[.var (.v ZA) af,.var (.v (.arr 2 fk)) af,.var (.v Yc) af]
def Zbm:Lp:=⟨[(1,.ak 0 []),(4,.ak 1 []),(5,.ak 2 []),(6,.v yI)],qB,[yI,ZA,(.arr 2 fk),Yc],[⟨.ret,[(2,.bf),(3,.v .bool)],qB,[.bool,ZA,(.arr 2 fk),Yc]⟩,⟨.exit 0,[(1,.ak 0 []),(4,.ak 1 []),(5,.ak 2 [])],qB,[ZA,(.arr 2 fk),Yc]⟩],Zc (YC yD) yD⟩
def ZRo:HI:={ still:=[2,3,33,39,77,85,93,98,99,100,101,106,109,110,111,114,119,121,122,123]}
theorem ZgV:Zbm.bA yb 27 0:=HD (fi:={ hi:=ZRo,un:=3}) (aA:={ l:=[ZvX,vZ]}) (jc ⟨Zsp,wa,au⟩)
def WD(F:Nat)(a0:aH):yO (Bool⊕(Bool×(yL go)×(yL go)×aq×aq)):=
 (Zc (YC F) F (0,a0,[(0,0,0,0,0,dz),(0,0,0,0,0,dz)],((dz,0),0,[(0,0,0,0,0),(0,0,0,0,0)],a0.2.1,a0.2.2.2.1))).bind λa=>
 match a with
 |.inl b=>
  ab (.inl b.1)
 |.inr c=>
  (c.2.1[0]?).bind λd=>
  (be F d 0).bind λe=>
  (c.2.1[1]?).bind λf=>
  (be F f 0).bind λg=>
  (c.2.1[1]?).bind λh=>
  (be F h 1).bind λi=>
  (aZ F c.2.2 (0,c.1.2.2.1,[],c.1.2.2.2.2) 0 e.1).bind λj=>
  (c.2.1[0]?).bind λk=>
  (c.2.1[1]?).bind λl=>
  (ck F j.1.1).bind λm=>
  (Wy F l.1 m).bind λn=>
  (sM F c.2.2 k 0 (0,c.1.2.2.1,[],c.1.2.2.2.2) [g.1,i.1] n).bind λo=>
  match o with
  |.inl p=>
   if(p !=0)=af then
    ab (.inl ag)
   else
   ab (.inl ag)
  |.inr q=>
   if(q.1 !=0)=af then
    ab (.inl ag)
   else
   (c.2.1[1]?).bind λr=>
   (be F r 0).bind λs=>
   (c.2.1[0]?).bind λt=>
   (be F t 0).bind λu=>
   (c.2.1[0]?).bind λv=>
   (be F v 1).bind λw=>
   (aZ F c.2.2 (0,c.1.2.2.1,[],c.1.2.2.2.2) 1 s.1).bind λx=>
   (c.2.1[1]?).bind λy=>
   (c.2.1[0]?).bind λz=>
   (ck F x.1.1).bind λA=>
   (Wy F z.1 A).bind λB=>
   (sM F c.2.2 y 1 (0,c.1.2.2.1,[],c.1.2.2.2.2) [u.1,w.1] B).bind λC=>
   match C with
   |.inl D=>
    if(D !=0)=af then
     ab (.inl ag)
    else
    ab (.inl ag)
   |.inr E=>
    if(E.1 !=0)=af then
     ab (.inl ag)
    else
    ab (.inr (af,[],[],q.2,E.2))
def Zjy(F:Nat):Fs yb:=⟨27,[.v ZA],[],[ZA],[⟨.ret,[(0,.bj [.bf,.v .bool])],[],[.bool]⟩,⟨.ret,[(0,.bj [.ak 0 [],.v .bool])],[.var (.agg [.arr 2 1 [.ak 1 [],.ak 2 []],.arr 2 1 [.v (.sl iG),.v (.sl iG)]]) af,.var (.v Zi) af,.var (.v Zi) af],[.bool,(.sl iG),(.sl iG),Zi,Zi]⟩],λx=>WD F x⟩
def ZcP:Fs yb:=Zjy yD
def ZRp:HI:={ still:=[2,3,33,39,77,85,93,98,99,100,101,106,109,110,111,114,119,121,122,123],ff:=[(7,[([2],Xb,61)])]}
theorem Zjz:ZcP.Ok:=lI (fi:={ hi:=ZRp,lp:=[(0,Zbm)],gh:=[(16,.dw 8)],un:=3}) (aA:={ l:=[wZ,xt,ny,sF,ZpM]}) (jc ⟨xa,xu,nA,sG,ZxI,au⟩) ⟨ZgV,au⟩
def MU(F:Nat)(a0:cU)(a1:Tx):yO (cQ):=
 (ck F a1).bind λa=>
 (Wy F a0.1 a).bind λb=>
 ab b
def MV(F:Nat):Fs yb:=⟨85,[.v fk,.v aS],[],[fk,aS],(zN Wr),λx=>MU F x.1 x.2⟩
def ZmM:Fs yb:=MV yD
theorem ZkZ:ZmM.Ok:=aR { still:=[6,7,8]} [] [ny,sF] ⟨nA,sG,au⟩
def xz(F:Nat)(a0:aOK):yO ((aOD×aOK)⊕aOK):=if a0.isEmpty=af then(wQ F a0).map Sum.inr else(wS F a0).map Sum.inl
def Zte(F:Nat):Fs yb:=⟨194,[.v aOF],[],[aOF],[⟨.ret,[(0,.rw 0)],[.row bG af 131],[aOC,aOF]⟩,⟨.ret,[(0,.v aOF)],[],[aOF]⟩],λx=>xz F x⟩
def Zk0:Fs yb:=Zte yD
theorem Ztf:Zk0.Ok:=HQ (ins:=[aOF]) (λx:aOK=>x.isEmpty) ZkF ZDx
def X5(F:Nat)(a0:aOJ):yO ((aOD×aOJ)⊕aOJ):=if a0.isEmpty=af then(sI F a0).map Sum.inr else(wU F a0).map Sum.inl
def Zq9(F:Nat):Fs yb:=⟨195,[.v aOE],[],[aOE],[⟨.ret,[(0,.rw 0)],[.row Zy af 83],[aOC,aOE]⟩,⟨.ret,[(0,.v aOE)],[],[aOE]⟩],λx=>X5 F x⟩
def Zjo:Fs yb:=Zq9 yD
theorem Zra:Zjo.Ok:=HQ (ins:=[aOE]) (λx:aOJ=>x.isEmpty) Zi9 ZA6
def Ym(F:Nat)(a0:aOI):yO ((aOD×aOI)⊕aOI):=if a0.isEmpty=af then(QO F a0).map Sum.inr else(Xw F a0).map Sum.inl
def ZhQ(F:Nat):Fs yb:=⟨172,[.v aOG],[],[aOG],[⟨.ret,[(0,.rw 0)],[.row Zg af 145],[aOC,aOG]⟩,⟨.ret,[(0,.v aOG)],[],[aOG]⟩],λx=>Ym F x⟩
def Y5:Fs yb:=ZhQ yD
theorem XE:Y5.Ok:=HQ (ins:=[aOG]) (λx:aOI=>x.isEmpty) W7 ZlV
abbrev dT9:Type:=(Int×aOI×Int×Int×Int×Int×qY)
abbrev ZRq:yL Ty:=[yI,aOG,yI,yI,yI,aS,aOC,aOF,aOC,aOE]
abbrev ZRr:yL Ty:=[yI,aOG,yI,yI,yI,yI,yI,aS,aOC,aOF,aOC,aOE]
abbrev ZQH:Type:=(Int×Int×Int×Int×Int×aOJ×Int×Tx×aOD×aOK×aOD×aOI)
abbrev ZRs:yL Ty:=[yI,yI,yI,aOE,yI,aS,aOC,aOF,aOC,aOG]
abbrev ZRt:yL Ty:=[yI,yI,yI,yI,yI,aOE,yI,aS,aOC,aOF,aOC,aOG]
abbrev ZRu:yL Ty:=[yI,aOG,yI,yI,aOE,yI,aS,aOC,aOF]
abbrev ZRv:yL Ty:=[yI,aOG,yI,yI,yI,yI,aOE,yI,aS,aOC,aOF]
abbrev ZQI:Type:=(Int×Int×Int×Int×Int×aOK×Int×Tx×aOD×aOJ×aOD×aOI)
abbrev ZRw:yL Ty:=[yI,yI,yI,aOF,yI,aS,aOC,aOE,aOC,aOG]
abbrev ZRx:yL Ty:=[yI,yI,yI,yI,yI,aOF,yI,aS,aOC,aOE,aOC,aOG]
abbrev ZRy:yL Ty:=[yI,aOG,yI,yI,aOF,yI,aS,aOC,aOE]
abbrev ZRz:yL Ty:=[yI,aOG,yI,yI,yI,yI,aOF,yI,aS,aOC,aOE]
abbrev ZRA:yL Ty:=[yI,yI,yI,yI,yI,aS,aS,aOC,aOG]
def Xx(F:Nat)(s:(Int×Int×qY)):yO ((Int×Int×qY)⊕(qY)):=
 if(ah (s.2.1 < s.1))=af then
  if(ba s.2.1 s.2.2.2.2.2.1.length)=af then
   (s.2.2.2.2.2.1[s.2.1.toNat]?).bind λa=>
   (QE F a.2.2.1).bind λb=>
   if(ba s.2.1 s.2.2.2.2.2.1.length)=af then
    (s.2.2.2.2.2.1[s.2.1.toNat]?).bind λc=>
    let d:aOK:=s.2.2.2.2.2.1.set s.2.1.toNat (c.1,(c.2.1,b,c.2.2.2))
    ab (.inl (s.1,wi (s.2.1+1),s.2.2.1,s.2.2.2.1,s.2.2.2.2.1,d,s.2.2.2.2.2.2.1,s.2.2.2.2.2.2.2))
   else
   ae
  else
  ae
 else
 ab (.inr (s.2.2.1,s.2.2.2.1,s.2.2.2.2.1,s.2.2.2.2.2.1,s.2.2.2.2.2.2.1,s.2.2.2.2.2.2.2))
def Zdq:Lp:=⟨[(1,.ak 0 []),(2,.ak 1 []),(17,.v yI),(18,.v yI)],zM,[yI,yI,yI,aS,aOC,aOF,aOC,aOE],[⟨.exit 0,[(1,.ak 0 []),(2,.ak 1 [])],zM,[yI,aS,aOC,aOF,aOC,aOE]⟩],Zc (Xx yD) yD⟩
theorem ZiE:Zdq.bA yb 168 0:=Zv fq [] [pf] ⟨sJ,au⟩
def Xy(F:Nat)(s:wV):yO (wV⊕dT2):=
 if(ah (s.2.2.2.2.1 < s.2.2.2.1))=af then
  if(ba s.2.2.2.2.1 s.2.2.2.2.2.2.2.2.2.2.2.2.length)=af then
   (s.2.2.2.2.2.2.2.2.2.2.2.2[s.2.2.2.2.1.toNat]?).bind λa=>
   (ZN F a.1).bind λb=>
   if(ba s.2.2.2.2.1 s.2.2.2.2.2.2.2.2.2.2.2.2.length)=af then
    (s.2.2.2.2.2.2.2.2.2.2.2.2[s.2.2.2.2.1.toNat]?).bind λc=>
    let d:aOI:=s.2.2.2.2.2.2.2.2.2.2.2.2.set s.2.2.2.2.1.toNat (b,c.2.1,c.2.2.1,c.2.2.2)
    ab (.inl (s.1,s.2.1,s.2.2.1,s.2.2.2.1,wi (s.2.2.2.2.1+1),s.2.2.2.2.2.1,s.2.2.2.2.2.2.1,s.2.2.2.2.2.2.2.1,s.2.2.2.2.2.2.2.2.1,s.2.2.2.2.2.2.2.2.2.1,s.2.2.2.2.2.2.2.2.2.2.1,s.2.2.2.2.2.2.2.2.2.2.2.1,d))
   else
   ae
  else
  ae
 else
 ab (.inr (s.1,s.2.1,s.2.2.1,s.2.2.2.2.2.1,s.2.2.2.2.2.2.1,s.2.2.2.2.2.2.2.1,s.2.2.2.2.2.2.2.2.1,s.2.2.2.2.2.2.2.2.2.1,s.2.2.2.2.2.2.2.2.2.2.1,s.2.2.2.2.2.2.2.2.2.2.2.1,s.2.2.2.2.2.2.2.2.2.2.2.2))
def Zdr:Lp:=⟨[(1,.ak 0 []),(2,.ak 1 []),(4,.v yI),(5,.rw 4),(38,.v yI),(39,.v yI),(51,.v yI),(52,.v yI)],zI,tL4,[⟨.exit 4,[(1,.ak 0 []),(2,.ak 1 []),(4,.v yI),(5,.rw 4),(38,.v yI),(39,.v yI)],zI,tL3⟩],Zc (Xy yD) yD⟩
theorem ZiF:Zdr.bA yb 168 2:=Zv fq [] [ZS] ⟨ZW,au⟩
def Za9(F:Nat)(s:dT9):yO (dT9⊕(Int×aOI×Int×Int×qY)):=
 if(ah (s.2.2.2.2.2.1 < s.2.2.2.2.1))=af then
  (idx s.2.1 s.2.2.2.2.2.1).bind λa=>
  (ZN F a.1).bind λb=>
  (idx s.2.1 s.2.2.2.2.2.1).bind λc=>
  ae
 else
 ab (.inr (s.1,s.2.1,s.2.2.1,s.2.2.2.1,s.2.2.2.2.2.2.1,s.2.2.2.2.2.2.2.1,s.2.2.2.2.2.2.2.2.1,s.2.2.2.2.2.2.2.2.2.1,s.2.2.2.2.2.2.2.2.2.2.1,s.2.2.2.2.2.2.2.2.2.2.2))
def Zbn:Lp:=⟨[(1,.ak 0 []),(2,.ak 1 []),(4,.v yI),(5,.v aOG),(38,.v yI),(39,.v yI),(51,.v yI),(52,.v yI)],zM,ZRr,[⟨.exit 4,[(1,.ak 0 []),(2,.ak 1 []),(4,.v yI),(5,.v aOG),(38,.v yI),(39,.v yI)],zM,ZRq⟩],Zc (Za9 yD) yD⟩
theorem ZgW:Zbn.bA yb 168 2:=Zv fq [] [ZS] ⟨ZW,au⟩
def Xz(F:Nat)(s:(Int×Int×qY)):yO ((Int×Int×qY)⊕(qY)):=
 if(ah (s.2.1 < s.1))=af then
  if(ba s.2.1 s.2.2.2.2.2.2.2.length)=af then
   (s.2.2.2.2.2.2.2[s.2.1.toNat]?).bind λa=>
   (Ym F a.2).bind λb=>
   match b with
   |.inl c=>
    (Zc (Xy F) F (s.2.1,s.1,s.2.1,(c.2.length:Int),0,s.2.2.1,s.2.2.2.1,s.2.2.2.2.1,s.2.2.2.2.2.1,s.2.2.2.2.2.2.1,s.2.2.2.2.2.2.2,c.1,c.2)).bind λd=>
    if(ba d.1 d.2.2.2.2.2.2.2.2.1.length)=af then
     (d.2.2.2.2.2.2.2.2.1[d.1.toNat]?).bind λe=>
     let f:aOJ:=d.2.2.2.2.2.2.2.2.1.set d.1.toNat (e.1,d.2.2.2.2.2.2.2.2.2.2)
     ab (.inl (d.2.1,wi (d.2.2.1+1),d.2.2.2.1,d.2.2.2.2.1,d.2.2.2.2.2.1,d.2.2.2.2.2.2.1,d.2.2.2.2.2.2.2.1,f))
    else
    ae
   |.inr g=>
    (Zc (Za9 F) F (s.2.1,g,s.1,s.2.1,(g.length:Int),0,s.2.2.1,s.2.2.2.1,s.2.2.2.2.1,s.2.2.2.2.2.1,s.2.2.2.2.2.2.1,s.2.2.2.2.2.2.2)).bind λh=>
    if(ba h.1 h.2.2.2.2.2.2.2.2.2.length)=af then
     (h.2.2.2.2.2.2.2.2.2[h.1.toNat]?).bind λi=>
     let j:aOJ:=h.2.2.2.2.2.2.2.2.2.set h.1.toNat (i.1,h.2.1)
     ab (.inl (h.2.2.1,wi (h.2.2.2.1+1),h.2.2.2.2.1,h.2.2.2.2.2.1,h.2.2.2.2.2.2.1,h.2.2.2.2.2.2.2.1,h.2.2.2.2.2.2.2.2.1,j))
    else
    ae
  else
  ae
 else
 ab (.inr (s.2.2.1,s.2.2.2.1,s.2.2.2.2.1,s.2.2.2.2.2.1,s.2.2.2.2.2.2.1,s.2.2.2.2.2.2.2))
def Zds:Lp:=⟨[(1,.ak 0 []),(2,.ak 1 []),(38,.v yI),(39,.v yI)],zM,[yI,yI,yI,aS,aOC,aOF,aOC,aOE],[⟨.exit 2,[(1,.ak 0 []),(2,.ak 1 [])],zM,[yI,aS,aOC,aOF,aOC,aOE]⟩],Zc (Xz yD) yD⟩
theorem ZiG:Zds.bA yb 168 1:=Zv fq [(2,Zdr),(2,Zbn)] [Y5] ⟨XE,au⟩ ⟨ZiF,ZgW,au⟩
abbrev qN:=Int×Int×aOJ×Int×Tx×aOD×aOK
def Y6(F:Nat)(s:(qN)):yO ((qN)⊕(aOJ×Int×Tx×aOD×aOK)):=
 if(ah (s.2.1 < s.1))=af then
  if(ba s.2.1 s.2.2.2.2.2.2.length)=af then
   (s.2.2.2.2.2.2[s.2.1.toNat]?).bind λa=>
   (QE F a.2.2.1).bind λb=>
   if(ba s.2.1 s.2.2.2.2.2.2.length)=af then
    (s.2.2.2.2.2.2[s.2.1.toNat]?).bind λc=>
    let d:aOK:=s.2.2.2.2.2.2.set s.2.1.toNat (c.1,(c.2.1,b,c.2.2.2))
    ab (.inl (s.1,wi (s.2.1+1),s.2.2.1,s.2.2.2.1,s.2.2.2.2.1,s.2.2.2.2.2.1,d))
   else
   ae
  else
  ae
 else
 ab (.inr (s.2.2.1,s.2.2.2.1,s.2.2.2.2.1,s.2.2.2.2.2.1,s.2.2.2.2.2.2))
abbrev qL:List bi:=[.var (.agg [.rw 2,.v aOE,.v yI]) af,.var (.v aS) af,.row bG af 131]
def Zbo:Lp:=⟨[(1,.ak 0 []),(2,.ak 1 []),(17,.v yI),(18,.v yI)],qL,[yI,yI,aOE,yI,aS,aOC,aOF],[⟨.exit 0,[(1,.ak 0 []),(2,.ak 1 [])],qL,[aOE,yI,aS,aOC,aOF]⟩],Zc (Y6 yD) yD⟩
theorem ZgX:Zbo.bA yb 168 0:=Zv fq [] [pf] ⟨sJ,au⟩
def Qp(F:Nat)(s:ZQH):yO (ZQH⊕(Int×Int×Int×aOJ×Int×Tx×aOD×aOK×aOD×aOI)):=
 if(ah (s.2.2.2.2.1 < s.2.2.2.1))=af then
  if(ba s.2.2.2.2.1 s.2.2.2.2.2.2.2.2.2.2.2.length)=af then
   (s.2.2.2.2.2.2.2.2.2.2.2[s.2.2.2.2.1.toNat]?).bind λa=>
   (ZN F a.1).bind λb=>
   if(ba s.2.2.2.2.1 s.2.2.2.2.2.2.2.2.2.2.2.length)=af then
    (s.2.2.2.2.2.2.2.2.2.2.2[s.2.2.2.2.1.toNat]?).bind λc=>
    let d:aOI:=s.2.2.2.2.2.2.2.2.2.2.2.set s.2.2.2.2.1.toNat (b,c.2.1,c.2.2.1,c.2.2.2)
    ab (.inl (s.1,s.2.1,s.2.2.1,s.2.2.2.1,wi (s.2.2.2.2.1+1),s.2.2.2.2.2.1,s.2.2.2.2.2.2.1,s.2.2.2.2.2.2.2.1,s.2.2.2.2.2.2.2.2.1,s.2.2.2.2.2.2.2.2.2.1,s.2.2.2.2.2.2.2.2.2.2.1,d))
   else
   ae
  else
  ae
 else
 ab (.inr (s.1,s.2.1,s.2.2.1,s.2.2.2.2.2.1,s.2.2.2.2.2.2.1,s.2.2.2.2.2.2.2.1,s.2.2.2.2.2.2.2.2.1,s.2.2.2.2.2.2.2.2.2.1,s.2.2.2.2.2.2.2.2.2.2.1,s.2.2.2.2.2.2.2.2.2.2.2))
abbrev zJ:List bi:=[.var (.agg [.rw 2,.v aOE,.v yI]) af,.var (.v aS) af,.row bG af 131,.row Zg af 145]
def QG:Lp:=⟨[(1,.ak 0 []),(2,.ak 1 []),(4,.v yI),(5,.rw 3),(38,.v yI),(39,.v yI),(51,.v yI),(52,.v yI)],zJ,ZRt,[⟨.exit 4,[(1,.ak 0 []),(2,.ak 1 []),(4,.v yI),(5,.rw 3),(38,.v yI),(39,.v yI)],zJ,ZRs⟩],Zc (Qp yD) yD⟩
theorem Zd1:QG.bA yb 168 2:=Zv fq [] [ZS] ⟨ZW,au⟩
def VB(F:Nat)(s:(Int×aOI×Int×Int×qN)):yO ((Int×aOI×Int×Int×qN)⊕(Int×aOI×qN)):=
 if(ah (s.2.2.2.2.2.1 < s.2.2.2.2.1))=af then
  (idx s.2.1 s.2.2.2.2.2.1).bind λa=>
  (ZN F a.1).bind λb=>
  (idx s.2.1 s.2.2.2.2.2.1).bind λc=>
  ae
 else
 ab (.inr (s.1,s.2.1,s.2.2.1,s.2.2.2.1,s.2.2.2.2.2.2.1,s.2.2.2.2.2.2.2.1,s.2.2.2.2.2.2.2.2.1,s.2.2.2.2.2.2.2.2.2.1,s.2.2.2.2.2.2.2.2.2.2))
def V0:Lp:=⟨[(1,.ak 0 []),(2,.ak 1 []),(4,.v yI),(5,.v aOG),(38,.v yI),(39,.v yI),(51,.v yI),(52,.v yI)],qL,ZRv,[⟨.exit 4,[(1,.ak 0 []),(2,.ak 1 []),(4,.v yI),(5,.v aOG),(38,.v yI),(39,.v yI)],qL,ZRu⟩],Zc (VB yD) yD⟩
theorem ZcQ:V0.bA yb 168 2:=Zv fq [] [ZS] ⟨ZW,au⟩
def XM(F:Nat)(s:(qN)):yO ((qN)⊕(aOJ×Int×Tx×aOD×aOK)):=
 if(ah (s.2.1 < s.1))=af then
  (idx s.2.2.1 s.2.1).bind λa=>
  (Ym F a.2).bind λb=>
  match b with
  |.inl c=>
   (Zc (Qp F) F (s.2.1,s.1,s.2.1,(c.2.length:Int),0,s.2.2.1,s.2.2.2.1,s.2.2.2.2.1,s.2.2.2.2.2.1,s.2.2.2.2.2.2,c.1,c.2)).bind λd=>
   (idx d.2.2.2.1 d.1).bind λe=>
   ae
  |.inr f=>
   (Zc (VB F) F (s.2.1,f,s.1,s.2.1,(f.length:Int),0,s.2.2.1,s.2.2.2.1,s.2.2.2.2.1,s.2.2.2.2.2.1,s.2.2.2.2.2.2)).bind λg=>
   (idx g.2.2.2.2.1 g.1).bind λh=>
   ae
 else
 ab (.inr (s.2.2.1,s.2.2.2.1,s.2.2.2.2.1,s.2.2.2.2.2.1,s.2.2.2.2.2.2))
def Zbp:Lp:=⟨[(1,.ak 0 []),(2,.ak 1 []),(38,.v yI),(39,.v yI)],qL,[yI,yI,aOE,yI,aS,aOC,aOF],[⟨.exit 2,[(1,.ak 0 []),(2,.ak 1 [])],qL,[aOE,yI,aS,aOC,aOF]⟩],Zc (XM yD) yD⟩
theorem ZgY:Zbp.bA yb 168 1:=Zv fq [(2,QG),(2,V0)] [Y5] ⟨XE,au⟩ ⟨Zd1,ZcQ,au⟩
abbrev qT:=Int×Int×aOK×Int×Tx×aOD×aOJ
def Zba(F:Nat)(s:(qT)):yO ((qT)⊕(aOK×Int×Tx×aOD×aOJ)):=
 if(ah (s.2.1 < s.1))=af then
  (idx s.2.2.1 s.2.1).bind λa=>
  (QE F a.2.2.1).bind λb=>
  (idx s.2.2.1 s.2.1).bind λc=>
  ae
 else
 ab (.inr (s.2.2.1,s.2.2.2.1,s.2.2.2.2.1,s.2.2.2.2.2.1,s.2.2.2.2.2.2))
abbrev qO:List bi:=[.var (.agg [.v aOF,.rw 2,.v yI]) af,.var (.v aS) af,.row Zy af 83]
def Zbq:Lp:=⟨[(1,.ak 0 []),(2,.ak 1 []),(17,.v yI),(18,.v yI)],qO,[yI,yI,aOF,yI,aS,aOC,aOE],[⟨.exit 0,[(1,.ak 0 []),(2,.ak 1 [])],qO,[aOF,yI,aS,aOC,aOE]⟩],Zc (Zba yD) yD⟩
theorem ZgZ:Zbq.bA yb 168 0:=Zv fq [] [pf] ⟨sJ,au⟩
def Qq(F:Nat)(s:ZQI):yO (ZQI⊕(Int×Int×Int×aOK×Int×Tx×aOD×aOJ×aOD×aOI)):=
 if(ah (s.2.2.2.2.1 < s.2.2.2.1))=af then
  if(ba s.2.2.2.2.1 s.2.2.2.2.2.2.2.2.2.2.2.length)=af then
   (s.2.2.2.2.2.2.2.2.2.2.2[s.2.2.2.2.1.toNat]?).bind λa=>
   (ZN F a.1).bind λb=>
   if(ba s.2.2.2.2.1 s.2.2.2.2.2.2.2.2.2.2.2.length)=af then
    (s.2.2.2.2.2.2.2.2.2.2.2[s.2.2.2.2.1.toNat]?).bind λc=>
    let d:aOI:=s.2.2.2.2.2.2.2.2.2.2.2.set s.2.2.2.2.1.toNat (b,c.2.1,c.2.2.1,c.2.2.2)
    ab (.inl (s.1,s.2.1,s.2.2.1,s.2.2.2.1,wi (s.2.2.2.2.1+1),s.2.2.2.2.2.1,s.2.2.2.2.2.2.1,s.2.2.2.2.2.2.2.1,s.2.2.2.2.2.2.2.2.1,s.2.2.2.2.2.2.2.2.2.1,s.2.2.2.2.2.2.2.2.2.2.1,d))
   else
   ae
  else
  ae
 else
 ab (.inr (s.1,s.2.1,s.2.2.1,s.2.2.2.2.2.1,s.2.2.2.2.2.2.1,s.2.2.2.2.2.2.2.1,s.2.2.2.2.2.2.2.2.1,s.2.2.2.2.2.2.2.2.2.1,s.2.2.2.2.2.2.2.2.2.2.1,s.2.2.2.2.2.2.2.2.2.2.2))
abbrev zK:List bi:=[.var (.agg [.v aOF,.rw 2,.v yI]) af,.var (.v aS) af,.row Zy af 83,.row Zg af 145]
def QH:Lp:=⟨[(1,.ak 0 []),(2,.ak 1 []),(4,.v yI),(5,.rw 3),(38,.v yI),(39,.v yI),(51,.v yI),(52,.v yI)],zK,ZRx,[⟨.exit 4,[(1,.ak 0 []),(2,.ak 1 []),(4,.v yI),(5,.rw 3),(38,.v yI),(39,.v yI)],zK,ZRw⟩],Zc (Qq yD) yD⟩
theorem Zd2:QH.bA yb 168 2:=Zv fq [] [ZS] ⟨ZW,au⟩
def VC(F:Nat)(s:(Int×aOI×Int×Int×qT)):yO ((Int×aOI×Int×Int×qT)⊕(Int×aOI×qT)):=
 if(ah (s.2.2.2.2.2.1 < s.2.2.2.2.1))=af then
  (idx s.2.1 s.2.2.2.2.2.1).bind λa=>
  (ZN F a.1).bind λb=>
  (idx s.2.1 s.2.2.2.2.2.1).bind λc=>
  ae
 else
 ab (.inr (s.1,s.2.1,s.2.2.1,s.2.2.2.1,s.2.2.2.2.2.2.1,s.2.2.2.2.2.2.2.1,s.2.2.2.2.2.2.2.2.1,s.2.2.2.2.2.2.2.2.2.1,s.2.2.2.2.2.2.2.2.2.2))
def V1:Lp:=⟨[(1,.ak 0 []),(2,.ak 1 []),(4,.v yI),(5,.v aOG),(38,.v yI),(39,.v yI),(51,.v yI),(52,.v yI)],qO,ZRz,[⟨.exit 4,[(1,.ak 0 []),(2,.ak 1 []),(4,.v yI),(5,.v aOG),(38,.v yI),(39,.v yI)],qO,ZRy⟩],Zc (VC yD) yD⟩
theorem ZcR:V1.bA yb 168 2:=Zv fq [] [ZS] ⟨ZW,au⟩
def Zbb(F:Nat)(s:(qT)):yO ((qT)⊕(aOK×Int×Tx×aOD×aOJ)):=
 if(ah (s.2.1 < s.1))=af then
  if(ba s.2.1 s.2.2.2.2.2.2.length)=af then
   (s.2.2.2.2.2.2[s.2.1.toNat]?).bind λa=>
   (Ym F a.2).bind λb=>
   match b with
   |.inl c=>
    (Zc (Qq F) F (s.2.1,s.1,s.2.1,(c.2.length:Int),0,s.2.2.1,s.2.2.2.1,s.2.2.2.2.1,s.2.2.2.2.2.1,s.2.2.2.2.2.2,c.1,c.2)).bind λd=>
    if(ba d.1 d.2.2.2.2.2.2.2.1.length)=af then
     (d.2.2.2.2.2.2.2.1[d.1.toNat]?).bind λe=>
     let f:aOJ:=d.2.2.2.2.2.2.2.1.set d.1.toNat (e.1,d.2.2.2.2.2.2.2.2.2)
     ab (.inl (d.2.1,wi (d.2.2.1+1),d.2.2.2.1,d.2.2.2.2.1,d.2.2.2.2.2.1,d.2.2.2.2.2.2.1,f))
    else
    ae
   |.inr g=>
    (Zc (VC F) F (s.2.1,g,s.1,s.2.1,(g.length:Int),0,s.2.2.1,s.2.2.2.1,s.2.2.2.2.1,s.2.2.2.2.2.1,s.2.2.2.2.2.2)).bind λh=>
    if(ba h.1 h.2.2.2.2.2.2.2.2.length)=af then
     (h.2.2.2.2.2.2.2.2[h.1.toNat]?).bind λi=>
     let j:aOJ:=h.2.2.2.2.2.2.2.2.set h.1.toNat (i.1,h.2.1)
     ab (.inl (h.2.2.1,wi (h.2.2.2.1+1),h.2.2.2.2.1,h.2.2.2.2.2.1,h.2.2.2.2.2.2.1,h.2.2.2.2.2.2.2.1,j))
    else
    ae
  else
  ae
 else
 ab (.inr (s.2.2.1,s.2.2.2.1,s.2.2.2.2.1,s.2.2.2.2.2.1,s.2.2.2.2.2.2))
def Zbr:Lp:=⟨[(1,.ak 0 []),(2,.ak 1 []),(38,.v yI),(39,.v yI)],qO,[yI,yI,aOF,yI,aS,aOC,aOE],[⟨.exit 2,[(1,.ak 0 []),(2,.ak 1 [])],qO,[aOF,yI,aS,aOC,aOE]⟩],Zc (Zbb yD) yD⟩
theorem Zg0:Zbr.bA yb 168 1:=Zv fq [(2,QH),(2,V1)] [Y5] ⟨XE,au⟩ ⟨Zd2,ZcR,au⟩
def Zbc(F:Nat)(s:(Int×Int×Tx×Tx)):yO ((Int×Int×Tx×Tx)⊕(Tx×Tx)):=
 if(ah (s.2.1 < s.1))=af then
  (idx s.2.2.1.1 s.2.1).bind λa=>
  (QE F a.2.2.1).bind λb=>
  (idx s.2.2.1.1 s.2.1).bind λc=>
  ae
 else
 ab (.inr (s.2.2.1,s.2.2.2))
def Zbs:Lp:=⟨[(1,.ak 0 []),(2,.ak 1 []),(17,.v yI),(18,.v yI)],[.var (.v aS) af,.var (.v aS) af],[yI,yI,aS,aS],[⟨.exit 0,[(1,.ak 0 []),(2,.ak 1 [])],[.var (.v aS) af,.var (.v aS) af],[aS,aS]⟩],Zc (Zbc yD) yD⟩
theorem Zg1:Zbs.bA yb 168 0:=Zv fq [] [pf] ⟨sJ,au⟩
def Qr(F:Nat)(s:(Int×Int×Int×Int×Int×Tx×Tx×aOD×aOI)):yO ((Int×Int×Int×Int×Int×Tx×Tx×aOD×aOI)⊕(Int×Int×Int×Tx×Tx×aOD×aOI)):=
 if(ah (s.2.2.2.2.1 < s.2.2.2.1))=af then
  if(ba s.2.2.2.2.1 s.2.2.2.2.2.2.2.2.length)=af then
   (s.2.2.2.2.2.2.2.2[s.2.2.2.2.1.toNat]?).bind λa=>
   (ZN F a.1).bind λb=>
   if(ba s.2.2.2.2.1 s.2.2.2.2.2.2.2.2.length)=af then
    (s.2.2.2.2.2.2.2.2[s.2.2.2.2.1.toNat]?).bind λc=>
    let d:aOI:=s.2.2.2.2.2.2.2.2.set s.2.2.2.2.1.toNat (b,c.2.1,c.2.2.1,c.2.2.2)
    ab (.inl (s.1,s.2.1,s.2.2.1,s.2.2.2.1,wi (s.2.2.2.2.1+1),s.2.2.2.2.2.1,s.2.2.2.2.2.2.1,s.2.2.2.2.2.2.2.1,d))
   else
   ae
  else
  ae
 else
 ab (.inr (s.1,s.2.1,s.2.2.1,s.2.2.2.2.2.1,s.2.2.2.2.2.2.1,s.2.2.2.2.2.2.2.1,s.2.2.2.2.2.2.2.2))
def QI:Lp:=⟨[(1,.ak 0 []),(2,.ak 1 []),(4,.v yI),(5,.rw 2),(38,.v yI),(39,.v yI),(51,.v yI),(52,.v yI)],[.var (.v aS) af,.var (.v aS) af,.row Zg af 145],ZRA,[⟨.exit 4,[(1,.ak 0 []),(2,.ak 1 []),(4,.v yI),(5,.rw 2),(38,.v yI),(39,.v yI)],[.var (.v aS) af,.var (.v aS) af,.row Zg af 145],[yI,yI,yI,aS,aS,aOC,aOG]⟩],Zc (Qr yD) yD⟩
theorem Zd3:QI.bA yb 168 2:=Zv fq [] [ZS] ⟨ZW,au⟩
def VD(F:Nat)(s:(Int×aOI×Int×Int×Int×Int×Tx×Tx)):yO ((Int×aOI×Int×Int×Int×Int×Tx×Tx)⊕(Int×aOI×Int×Int×Tx×Tx)):=
 if(ah (s.2.2.2.2.2.1 < s.2.2.2.2.1))=af then
  (idx s.2.1 s.2.2.2.2.2.1).bind λa=>
  (ZN F a.1).bind λb=>
  (idx s.2.1 s.2.2.2.2.2.1).bind λc=>
  ae
 else
 ab (.inr (s.1,s.2.1,s.2.2.1,s.2.2.2.1,s.2.2.2.2.2.2.1,s.2.2.2.2.2.2.2))
def V2:Lp:=⟨[(1,.ak 0 []),(2,.ak 1 []),(4,.v yI),(5,.v aOG),(38,.v yI),(39,.v yI),(51,.v yI),(52,.v yI)],[.var (.v aS) af,.var (.v aS) af],[yI,aOG,yI,yI,yI,yI,aS,aS],[⟨.exit 4,[(1,.ak 0 []),(2,.ak 1 []),(4,.v yI),(5,.v aOG),(38,.v yI),(39,.v yI)],[.var (.v aS) af,.var (.v aS) af],[yI,aOG,yI,yI,aS,aS]⟩],Zc (VD yD) yD⟩
theorem ZcS:V2.bA yb 168 2:=Zv fq [] [ZS] ⟨ZW,au⟩
def Zbd(F:Nat)(s:(Int×Int×Tx×Tx)):yO ((Int×Int×Tx×Tx)⊕(Tx×Tx)):=
 if(ah (s.2.1 < s.1))=af then
  (idx s.2.2.1.2.1 s.2.1).bind λa=>
  (Ym F a.2).bind λb=>
  match b with
  |.inl c=>
   (Zc (Qr F) F (s.2.1,s.1,s.2.1,(c.2.length:Int),0,s.2.2.1,s.2.2.2,c.1,c.2)).bind λd=>
   (idx d.2.2.2.1.2.1 d.1).bind λe=>
   ae
  |.inr f=>
   (Zc (VD F) F (s.2.1,f,s.1,s.2.1,(f.length:Int),0,s.2.2.1,s.2.2.2)).bind λg=>
   (idx g.2.2.2.2.1.2.1 g.1).bind λh=>
   ae
 else
 ab (.inr (s.2.2.1,s.2.2.2))
def Zbt:Lp:=⟨[(1,.ak 0 []),(2,.ak 1 []),(38,.v yI),(39,.v yI)],[.var (.v aS) af,.var (.v aS) af],[yI,yI,aS,aS],[⟨.exit 2,[(1,.ak 0 []),(2,.ak 1 [])],[.var (.v aS) af,.var (.v aS) af],[aS,aS]⟩],Zc (Zbd yD) yD⟩
theorem Zg2:Zbt.bA yb 168 1:=Zv fq [(2,QI),(2,V2)] [Y5] ⟨XE,au⟩ ⟨Zd3,ZcS,au⟩
def VE(F:Nat)(a0:Tx):yO ((Int×aOD×aOK×aOD×aOJ)⊕(aOJ×Int×aOD×aOK)⊕(aOK×Int×aOD×aOJ)⊕Tx):=
 (xz F a0.1).bind λa=>
 match a with
 |.inl b=>
  (X5 F a0.2.1).bind λc=>
  match c with
  |.inl d=>
   (Zc (Xx F) F ((b.2.length:Int),0,a0.2.2,([],[],0),b.1,b.2,d.1,d.2)).bind λe=>
   (Zc (Xz F) F ((e.2.2.2.2.2.length:Int),0,e.1,e.2.1,e.2.2.1,e.2.2.2.1,e.2.2.2.2.1,e.2.2.2.2.2)).bind λf=>
   ab (.inl (f.1,f.2.2.1,f.2.2.2.1,f.2.2.2.2.1,f.2.2.2.2.2))
  |.inr g=>
   (Zc (Y6 F) F ((b.2.length:Int),0,g,a0.2.2,([],[],0),b.1,b.2)).bind λh=>
   (Zc (XM F) F ((h.1.length:Int),0,h.1,h.2.1,h.2.2.1,h.2.2.2.1,h.2.2.2.2)).bind λi=>
   ab (.inr (.inl (i.1,i.2.1,i.2.2.2.1,i.2.2.2.2)))
 |.inr j=>
  (X5 F a0.2.1).bind λk=>
  match k with
  |.inl l=>
   (Zc (Zba F) F ((j.length:Int),0,j,a0.2.2,([],[],0),l.1,l.2)).bind λm=>
   (Zc (Zbb F) F ((m.2.2.2.2.length:Int),0,m.1,m.2.1,m.2.2.1,m.2.2.2.1,m.2.2.2.2)).bind λn=>
   ab (.inr (.inr (.inl (n.1,n.2.1,n.2.2.2.1,n.2.2.2.2))))
  |.inr o=>
   (Zc (Zbc F) F ((j.length:Int),0,(j,o,a0.2.2),([],[],0))).bind λp=>
   (Zc (Zbd F) F ((p.1.2.1.length:Int),0,p.1,p.2)).bind λq=>
   ab (.inr (.inr (.inr q.1)))
def ZlZ(F:Nat):Fs yb:=⟨168,[.v aS],[],[aS],[⟨.ret,[(0,.agg [.rw 0,.rw 1,.v yI])],[.row bG af 131,.row Zy af 83],[yI,aOC,aOF,aOC,aOE]⟩,⟨.ret,[(0,.agg [.rw 0,.v aOE,.v yI])],[.row bG af 131],[aOE,yI,aOC,aOF]⟩,⟨.ret,[(0,.agg [.v aOF,.rw 0,.v yI])],[.row Zy af 83],[aOF,yI,aOC,aOE]⟩,⟨.ret,[(0,.v aS)],[],[aS]⟩],λx=>VE F x⟩
def Zfm:Fs yb:=ZlZ yD
theorem Zl0:Zfm.Ok:=aR fq [(0,Zdq),(0,Zbo),(0,Zbq),(0,Zbs),(1,Zds),(1,Zbp),(1,Zbr),(1,Zbt)] [Zk0,Zjo] ⟨Ztf,Zra,au⟩ ⟨ZiE,ZgX,ZgZ,Zg1,ZiG,ZgY,Zg0,Zg2,au⟩
def xA(F:Nat)(a0:Tx)(a1:cQ)(a2:cQ):yO (Tx):=
 (VE F a0).bind λa=>
 match a with
 |.inl b=>
  if(ah ((b.2.2.1.length:Int) > 0))=af then
   if(ba 0 b.2.2.1.length)=af then
    (b.2.2.1[0]?).bind λc=>
    let d:aOK:=b.2.2.1.set 0 (c.1,((0:Int),([a1,a2]:yL cQ),(0:yU)))
    ab (d,b.2.2.2.2,b.1)
   else
   ae
  else
  ab (b.2.2.1,b.2.2.2.2,b.1)
 |.inr (.inl e)=>
  if(ah ((e.2.2.2.length:Int) > 0))=af then
   if(ba 0 e.2.2.2.length)=af then
    (e.2.2.2[0]?).bind λf=>
    let g:aOK:=e.2.2.2.set 0 (f.1,((0:Int),([a1,a2]:yL cQ),(0:yU)))
    ab (g,e.1,e.2.1)
   else
   ae
  else
  ab (e.2.2.2,e.1,e.2.1)
 |.inr (.inr (.inl h))=>
  if(ah ((h.1.length:Int) > 0))=af then
   (idx h.1 0).bind λi=>
   ae
  else
  ab (h.1,h.2.2.2,h.2.1)
 |.inr (.inr (.inr j))=>
  if(ah ((j.1.length:Int) > 0))=af then
   (idx j.1 0).bind λk=>
   ae
  else
  ab j
def MW(F:Nat):Fs yb:=⟨86,[.v aS,.v Wr,.v Wr],[],[aS,Wr,Wr],(zN aS),λx=>xA F x.1 x.2.1 x.2.2⟩
def ZmN:Fs yb:=MW yD
def ZRB:HI:={ still:=[7],bU:=[14],deep:=[45]}
theorem Zk1:ZmN.Ok:=HN (fi:={ hi:=ZRB}) (aA:={ l:=[Zfm]}) (jc ⟨Zl0,au⟩)
def Zl1(F:Nat):yO (aH):=
 ab ([[1,0,0,0,0,0,0,0,0,0,0,0,0,0,0,0,0,0,0,0,0,0,0,0,0,0,0,0,0,0,0,0],[2,0,0,0,0,0,0,0,0,0,0,0,0,0,0,0,0,0,0,0,0,0,0,0,0,0,0,0,0,0,0,0]],[(100,500,10,4,5,9000),(100,500,10,4,5,9000)],[9000,1000],0,2)
def Vs(F:Nat):Fs yb:=⟨30,[],[],[],(zN ZA),λx=>Zl1 F⟩
def Zk2:Fs yb:=Vs yD
theorem ZjA:Zk2.Ok:=aR {} [] [] trivial
def ZmO(F:Nat)(s:(Int×Int×Out×Out×aOD×aOI)):yO ((Int×Int×Out×Out×aOD×aOI)⊕(Out×Out×aOD×aOI)):=
 if(ah (s.2.1 < s.1))=af then
  if(ba s.2.1 s.2.2.2.2.2.length)=af then
   (s.2.2.2.2.2[s.2.1.toNat]?).bind λa=>
   (ZN F a.1).bind λb=>
   if(ba s.2.1 s.2.2.2.2.2.length)=af then
    (s.2.2.2.2.2[s.2.1.toNat]?).bind λc=>
    let d:aOI:=s.2.2.2.2.2.set s.2.1.toNat (b,c.2.1,c.2.2.1,c.2.2.2)
    ab (.inl (s.1,wi (s.2.1+1),s.2.2.1,s.2.2.2.1,s.2.2.2.2.1,d))
   else
   ae
  else
  ae
 else
 ab (.inr (s.2.2.1,s.2.2.2.1,s.2.2.2.2.1,s.2.2.2.2.2))
def ZpN:Lp:=⟨[(1,.ak 0 []),(2,.ak 1 []),(3,.rw 2),(10,.rw 2),(11,.v yI),(12,.v yI)],[.var (.v Zy) af,.var (.v Zy) af,.row Zg af 145],[yI,yI,Zy,Zy,aOC,aOG],[⟨.exit 0,[(1,.ak 0 []),(2,.ak 1 []),(3,.rw 2)],[.var (.v Zy) af,.var (.v Zy) af,.row Zg af 145],[Zy,Zy,aOC,aOG]⟩],Zc (ZmO yD) yD⟩
def ZQJ:HI:={ still:=[8,20],bU:=[3,9,17],deep:=[83]}
theorem Ztg:ZpN.bA yb 89 0:=Zv ZQJ [] [ZS] ⟨ZW,au⟩
def MX(F:Nat)(a0:Out):yO (Out):=
 (Xw F a0.2).bind λa=>
 (Zc (ZmO F) F ((a.2.length:Int),0,a0,(0,[]),a.1,a.2)).bind λb=>
 ab (b.1.1,b.2.2.2)
def ZBi(F:Nat):Fs yb:=⟨89,[.v Zy],[],[Zy],(zN Zy),λx=>MX F x⟩
def MY:Fs yb:=ZBi yD
theorem ZpO:MY.Ok:=HN (fi:={ hi:=ZQJ,lp:=[(0,ZpN)]}) (aA:={ l:=[Vq]}) (jc ⟨W7,au⟩) ⟨Ztg,au⟩
abbrev Xg:Ty:=(.st [Zy,yI])
abbrev fG:Type:=(Out×Int)
abbrev Q3:Ty:=(.st [Zd,Xg])
abbrev WL:Type:=(Zo×fG)
abbrev WL.c(x:WL):fG:=x.2
abbrev Zn:Ty:=(.st [(.sl Q3),aOQ])
abbrev Z6:Type:=((yL WL)×aOS)
abbrev Z6.gone(x:Z6):(yL WL):=x.1
abbrev _root_.aOV:=yL Z6
def ZmP(F:Nat)(s:(Int×aOJ×Int×Int×(yL (Zo×fG))×aOV)):yO ((Int×aOJ×Int×Int×(yL (Zo×fG))×aOV)⊕(((yL (Zo×fG))×aOV)⊕((yL (Zo×fG))×aOV))):=
 if(ah (s.2.2.2.1 < s.2.2.1))=af then
  (idx s.2.1 s.2.2.2.1).bind λa=>
  (Xc F a.2).bind λb=>
  if(!b)=af then
   ab (.inr (.inl (s.2.2.2.2.1,s.2.2.2.2.2)))
  else
  if(ah (a.1 < 0))=af then
   ab (.inr (.inl (s.2.2.2.2.1,s.2.2.2.2.2)))
  else
  if(ah (a.1 > (wi (1125899906842624 - s.1))))=af then
   ab (.inr (.inl (s.2.2.2.2.1,s.2.2.2.2.2)))
  else
  (MX F a).bind λc=>
  let d:(yL (Zo×fG)):=gv s.2.2.2.2.1 (dz,s.2.2.2.1) (c,(0:Int))
  ab (.inl (wi (s.1+a.1),s.2.1,s.2.2.1,wi (s.2.2.2.1+1),d,s.2.2.2.2.2))
 else
 ab (.inr (.inr (s.2.2.2.2.1,s.2.2.2.2.2)))
abbrev _root_.aOU:Go.Ev.Ty:=.sl Zn
def ZpP:Lp:=⟨[(3,.ak 1 []),(4,.v yI),(13,.v aOE),(14,.v yI),(15,.v yI)],[.map 178 Zd Xg,.var (.agg [.mp 0,.own 2 Zn]) af,.log Zn 190],[yI,aOE,yI,yI,(QX Zd Xg),aOU],[⟨.ret,[(2,.bf)],[.map 178 Zd Xg,.var (.agg [.mp 0,.own 2 Zn]) af,.log Zn 190],[(QX Zd Xg),aOU]⟩,⟨.exit 0,[(3,.ak 1 [])],[.map 178 Zd Xg,.var (.agg [.mp 0,.own 2 Zn]) af,.log Zn 190],[(QX Zd Xg),aOU]⟩],Zc (ZmP yD) yD⟩
def ZQK:HI:={ still:=[2,21,46],cb:=[(12,[([1],Zn,190)])]}
theorem Zth:ZpP.bA yb 33 0:=Zv ZQK [] [W5,MY] ⟨Wz,ZpO,au⟩
def ZFG(F:Nat)(a0:aOJ):yO (Unit⊕((yL (Zo×fG))×aOV)):=
 if(ah ((a0.length:Int) > 256))=af then
  ab (.inl ())
 else
 (Zc (ZmP F) F (0,a0,(a0.length:Int),0,([]:yL (Zo×fG)),[])).bind λa=>
 match a with
 |.inl b=>
  ab (.inl ())
 |.inr c=>
  ab (.inr (c.1,c.2))
abbrev qV:List bi:=[.var (.agg [.mp 1,.own 2 Zn]) af,.map 178 Zd Xg,.log Zn 190]
def MZ(F:Nat):Fs yb:=⟨33,[.v aOE],[],[aOE],[⟨.ret,[(0,.bf)],[],[]⟩,⟨.ret,[(0,.ak 0 [])],qV,[(QX Zd Xg),aOU]⟩],λx=>ZFG F x⟩
def ZDG:Fs yb:=MZ yD
theorem ZBj:ZDG.Ok:=aR ZQK [(0,ZpP)] [] trivial ⟨Zth,au⟩
def Zwi(F:Nat)(a0:yU)(a1:yU):yO (Y9):=
 (wI F [a0,a1]).bind λa=>
 ab a
def ZBk(F:Nat):Fs yb:=⟨90,[.v .u64,.v .u64],[],[.u64,.u64],(zN Z1),λx=>Zwi F x.1 x.2⟩
def Zss:Fs yb:=ZBk yD
theorem ZBl:Zss.Ok:=aR { still:=[7]} [] [LA] ⟨Zsf,au⟩
def Zti(F:Nat)(a0:Chan):yO (Y9):=
 (a0.2.2.1[0]?).bind λa=>
 (a0.2.2.1[1]?).bind λb=>
 (Zwi F a.1 b.1).bind λc=>
 ab c
def NA(F:Nat):Fs yb:=⟨34,[.v Yc],[],[Yc],(zN Z1),λx=>Zti F x⟩
def Zrb:Fs yb:=NA yD
theorem ZpQ:Zrb.Ok:=aR { still:=[6,10]} [] [Zss] ⟨ZBl,au⟩
def NB(F:Nat)(s:(aOM×Int×Int×Y9×jQ×aOz×Zx)):yO ((aOM×Int×Int×Y9×jQ×aOz×Zx)⊕((Int×Y9×jQ×aOz×Zx)⊕(Y9×jQ×aOz×Zx))):=
 if(ah (s.2.2.1 < s.2.1))=af then
  (idx s.1 s.2.2.1).bind λa=>
  (idx s.2.2.2.2.1.2.1 s.2.2.1).bind λb=>
  (Xp F a s.2.2.2.2.2.1 b).bind λc=>
  if(!c)=af then
   ab (.inr (.inl (7,s.2.2.2.1,s.2.2.2.2.1,s.2.2.2.2.2.1,s.2.2.2.2.2.2)))
  else
  ab (.inl (s.1,s.2.1,wi (s.2.2.1+1),s.2.2.2.1,s.2.2.2.2.1,s.2.2.2.2.2.1,s.2.2.2.2.2.2))
 else
 ab (.inr (.inr (s.2.2.2.1,s.2.2.2.2.1,s.2.2.2.2.2.1,s.2.2.2.2.2.2)))
abbrev zS:List bi:=[.var (.v Z1) af,.var (.v VX) af,.var (.v aOB) af,.var (.v Zg) af]
def ZpR:Lp:=⟨[(6,.ak 1 []),(7,.ak 2 []),(68,.v aOH),(69,.v yI),(70,.v yI)],zS,[aOH,yI,yI,Z1,VX,aOB,Zg],[⟨.ret,[(10,.v yI)],zS,[yI,Z1,VX,aOB,Zg]⟩,⟨.exit 1,[],zS,[Z1,VX,aOB,Zg]⟩],Zc (NB yD) yD⟩
theorem Ztj:ZpR.bA yb 173 0:=Zv { still:=[10,14,53,75,76,81]} [] [xw] ⟨xx,au⟩
def Zwj(F:Nat)(a0:Y9)(a1:jQ)(a2:aOz)(a3:Int)(a4:Int):yO (Int):=
 (Xc F a0).bind λa=>
 if(!a)=af then
  ab 1
 else
 if(ah (a1.1 < 0))=af then
  ab 1
 else
 if(ah (a1.1 >= (a0.length:Int)))=af then
  ab 1
 else
 (idx a0 a1.1).bind λb=>
 if(ah (a3 < b.2.1))=af then
  ab 11
 else
 if(ah (a4 < b.2.2.1))=af then
  ab 11
 else
 if(b.2.2.2 !=0)=af then
  (YG F a1.2.2).bind λc=>
  if(c !=b.2.2.2)=af then
   ab 23
  else
  if((a1.2.1.length:Int)!=(b.1.length:Int))=af then
   ab 7
  else
  (Zc (NB F) F (b.1,(b.1.length:Int),0,a0,a1,a2,b)).bind λd=>
  match d with
  |.inl e=>
   ab e.1
  |.inr f=>
   ab 0
 else
 if((a1.2.1.length:Int)!=(b.1.length:Int))=af then
  ab 7
 else
 (Zc (NB F) F (b.1,(b.1.length:Int),0,a0,a1,a2,b)).bind λg=>
 match g with
 |.inl h=>
  ab h.1
 |.inr i=>
  ab 0
def ZBm(F:Nat):Fs yb:=⟨173,[.v Z1,.v VX,.v aOB,.v yI,.v yI],[],[Z1,VX,aOB,yI,yI],(zN yI),λx=>Zwj F x.1 x.2.1 x.2.2.1 x.2.2.2.1 x.2.2.2.2⟩
def Zst:Fs yb:=ZBm yD
theorem ZBn:Zst.Ok:=aR { still:=[10,14,53,75,76,81]} [(0,ZpR)] [W5,W0] ⟨Wz,Wv,au⟩ ⟨Ztj,au⟩
abbrev qE:=Int×Int×(yL (Zo×fG))×aOV×Tx×aOz
abbrev ZQL:Type:=(Int×Int×aOK×qE)
abbrev ZRC:yL Ty:=[yI,yI,aOF,yI,yI,(QX Zd Xg),aOU,aS,aOB]
def xB:HI:={ still:=[6,7,21,32,55,57,58,59,63,74]}
def Zdt(F:Nat)(s:ZQL):yO (ZQL⊕((qE)⊕(Int×(yL (Zo×fG))×aOV×Tx×aOz))):=
 if(ah (s.2.2.2.2.1 < s.2.2.2.1))=af then
  (idx s.2.2.1 s.2.2.2.2.1).bind λa=>
  kE (fU s.2.2.2.2.2.1 a.1) (λb=>
   (Zwj F b.1.2 a.2 s.2.2.2.2.2.2.2.2 s.1 (wi (s.1 - b.2))).bind λc=>
   if(c !=0)=af then
    ab (.inr (.inl (0,c,s.2.2.2.2.2.1,s.2.2.2.2.2.2.1,s.2.2.2.2.2.2.2.1,s.2.2.2.2.2.2.2.2)))
   else
   ab (.inl (s.1,wi (s.2.1+b.1.1),s.2.2.1,s.2.2.2.1,wi (s.2.2.2.2.1+1),s.2.2.2.2.2.1,s.2.2.2.2.2.2.1,s.2.2.2.2.2.2.2.1,s.2.2.2.2.2.2.2.2))) (
   ab (.inr (.inl (0,5,s.2.2.2.2.2.1,s.2.2.2.2.2.2.1,s.2.2.2.2.2.2.2.1,s.2.2.2.2.2.2.2.2))))
 else
 ab (.inr (.inr (s.2.1,s.2.2.2.2.2.1,s.2.2.2.2.2.2.1,s.2.2.2.2.2.2.2.1,s.2.2.2.2.2.2.2.2)))
abbrev zG:List bi:=[.var (.agg [.mp 1,.own 2 Zn]) af,.map 178 Zd Xg,.log Zn 190,.var (.v aS) af,.var (.v aOB) af]
def Zfo:Lp:=⟨[(0,.ak 0 []),(2,.v yI),(4,.ak 3 []),(8,.ak 4 []),(9,.v yI),(35,.v aOF),(36,.v yI),(37,.v yI)],zG,ZRC,[⟨.ret,[(6,.v yI),(7,.v yI)],zG,[yI,yI,(QX Zd Xg),aOU,aS,aOB]⟩,⟨.exit 0,[(0,.ak 0 []),(4,.ak 3 []),(9,.v yI)],zG,[yI,(QX Zd Xg),aOU,aS,aOB]⟩],Zc (Zdt yD) yD⟩
theorem ZjB:Zfo.bA yb 91 0:=Zv xB [] [Zst] ⟨ZBn,au⟩
abbrev ZQM:Type:=(Int×aOS×qE)
def Zdu(F:Nat)(s:ZQM):yO (ZQM⊕((qE)⊕(Int×(yL (Zo×fG))×aOV×Tx×aOz))):=
 if(ah (s.2.2.2.1 < s.2.2.1))=af then
  (idx s.2.1 s.2.2.2.1).bind λa=>
  kE (fU s.2.2.2.2.1 a) (λb=>
   ab (.inr (.inl (0,4,s.2.2.2.2.1,s.2.2.2.2.2.1,s.2.2.2.2.2.2.1,s.2.2.2.2.2.2.2)))) (
   ab (.inl (s.1,s.2.1,s.2.2.1,wi (s.2.2.2.1+1),s.2.2.2.2.1,s.2.2.2.2.2.1,s.2.2.2.2.2.2.1,s.2.2.2.2.2.2.2)))
 else
 ab (.inr (.inr (s.1,s.2.2.2.2.1,s.2.2.2.2.2.1,s.2.2.2.2.2.2.1,s.2.2.2.2.2.2.2)))
abbrev ZRD:yL Ty:=[yI,aOQ,yI,yI,(QX Zd Xg),aOU,aS,aOB]
def Zfp:Lp:=⟨[(0,.ak 0 []),(4,.ak 3 []),(9,.v yI),(75,.v aOQ),(76,.v yI),(77,.v yI)],zG,ZRD,[⟨.ret,[(6,.v yI),(7,.v yI)],zG,[yI,yI,(QX Zd Xg),aOU,aS,aOB]⟩,⟨.exit 2,[(4,.ak 3 []),(9,.v yI)],zG,[yI,(QX Zd Xg),aOU,aS,aOB]⟩],Zc (Zdu yD) yD⟩
theorem ZjC:Zfp.bA yb 91 1:=Zv xB [] [] trivial
def Zdv(F:Nat)(s:(Int×aOJ×qE)):yO ((Int×aOJ×qE)⊕(Int×(yL (Zo×fG))×aOV×Tx×aOz)):=
 if(ah (s.2.2.2.1 < s.2.2.1))=af then
  (idx s.2.1 s.2.2.2.1).bind λa=>
  ab (.inl (wi (s.1 - a.1),s.2.1,s.2.2.1,wi (s.2.2.2.1+1),s.2.2.2.2.1,s.2.2.2.2.2.1,s.2.2.2.2.2.2.1,s.2.2.2.2.2.2.2))
 else
 ab (.inr (s.1,s.2.2.2.2.1,s.2.2.2.2.2.1,s.2.2.2.2.2.2.1,s.2.2.2.2.2.2.2))
abbrev ZRE:yL Ty:=[yI,aOE,yI,yI,(QX Zd Xg),aOU,aS,aOB]
def Zfq:Lp:=⟨[(9,.v yI),(93,.v aOE),(94,.v yI),(95,.v yI)],zG,ZRE,[⟨.exit 4,[(9,.v yI)],zG,[yI,(QX Zd Xg),aOU,aS,aOB]⟩],Zc (Zdv yD) yD⟩
theorem ZjD:Zfq.bA yb 91 2:=Zv xB [] [] trivial
def ZhR(F:Nat)(a1:Tx)(a2:Int)(s1:(yL (Zo×fG)))(s2:aOV):yO ((Int×Int×(yL (Zo×fG))×aOV)):=
 (Vo F a1).bind λa=>
 if(!a)=af then
  ab (0,1,s1,s2)
 else
 if(ah (a2 < 1))=af then
  ab (0,1,s1,s2)
 else
 if(ah (a2 > 1048576))=af then
  ab (0,1,s1,s2)
 else
 (ck F a1).bind λb=>
 (Zc (Zdt F) F (a2,0,a1.1,(a1.1.length:Int),0,s1,s2,a1,b)).bind λc=>
 match c with
 |.inl d=>
  ab (d.1,d.2.1,d.2.2.1,d.2.2.2.1)
 |.inr e=>
  (wO F e.2.2.2.1).bind λf=>
  (Zc (Zdu F) F (e.1,f,(f.length:Int),0,e.2.1,e.2.2.1,e.2.2.2.1,e.2.2.2.2)).bind λg=>
  match g with
  |.inl h=>
   ab (h.1,h.2.1,h.2.2.1,h.2.2.2.1)
  |.inr i=>
   (Zc (Zdv F) F (i.1,i.2.2.2.1.2.1,(i.2.2.2.1.2.1.length:Int),0,i.2.1,i.2.2.1,i.2.2.2.1,i.2.2.2.2)).bind λj=>
   if(ah (j.1 < 0))=af then
    ab (0,8,j.2.1,j.2.2.1)
   else
   ab (j.1,0,j.2.1,j.2.2.1)
def ZnY(F:Nat):Fs yb:=⟨91,[.ak 0 [],.v aS,.v yI],qV,[aS,yI,(QX Zd Xg),aOU],[⟨.ret,[(0,.bj [.v yI,.v yI])],qV,[yI,yI,(QX Zd Xg),aOU]⟩],λx=>ZhR F x.1 x.2.1 x.2.2.1 x.2.2.2⟩
def Zgv:Fs yb:=ZnY yD
theorem ZnZ:Zgv.Ok:=aR xB [(0,Zfo),(1,Zfp),(2,Zfq)] [Q2,ny,wP] ⟨pc,nA,LJ,au⟩ ⟨ZjB,ZjC,ZjD,au⟩
abbrev xC:Type:=(Int×aOS×Int×Int×(yL (Zo×fG))×aOV×Tx×aOS×(yL WL))
def Zdw(F:Nat)(s:xC):yO (xC⊕(Int×(yL (Zo×fG))×aOV×Tx×aOS×(yL WL))):=
 if(ah (s.2.2.2.1 < s.2.2.1))=af then
  (idx s.2.1 s.2.2.2.1).bind λa=>
  kE (fU s.2.2.2.2.1 a) (λb=>
   if(cO s.2.2.2.2.2.2.2.2.length 1 80)=af then
    let c:(yL WL):=s.2.2.2.2.2.2.2.2++([(a,b)]:yL WL)
    ab (.inl (s.1,s.2.1,s.2.2.1,wi (s.2.2.2.1+1),lj s.2.2.2.2.1 a,s.2.2.2.2.2.1,s.2.2.2.2.2.2.1,s.2.2.2.2.2.2.2.1,c))
   else
   ae) (
   if(cO s.2.2.2.2.2.2.2.2.length 1 80)=af then
    let d:(yL WL):=s.2.2.2.2.2.2.2.2++([(a,((0,[]),0))]:yL WL)
    ab (.inl (s.1,s.2.1,s.2.2.1,wi (s.2.2.2.1+1),lj s.2.2.2.2.1 a,s.2.2.2.2.2.1,s.2.2.2.2.2.2.1,s.2.2.2.2.2.2.2.1,d))
   else
   ae)
 else
 ab (.inr (s.1,s.2.2.2.2.1,s.2.2.2.2.2.1,s.2.2.2.2.2.2.1,s.2.2.2.2.2.2.2.1,s.2.2.2.2.2.2.2.2))
def xD:yL bi:=[.var (.agg [.mp 1,.own 2 Zn]) af,.map 178 Zd Xg,.log Zn 190,.var (.v aS) af,.var (.agg [.own 5 Q3,.v aOQ]) af,.log Q3 192]
abbrev ZQN:yL Ty:=[yI,aOQ,yI,yI,(QX Zd Xg),aOU,aS,aOQ,(.sl Q3)]
def Zfr:Lp:=⟨[(0,.ak 0 []),(2,.v yI),(4,.ak 3 []),(9,.ak 4 []),(28,.v aOQ),(29,.v yI),(30,.v yI)],xD,ZQN,[⟨.exit 0,[(0,.ak 0 []),(2,.v yI),(4,.ak 3 []),(9,.ak 4 [])],xD,[yI,(QX Zd Xg),aOU,aS,aOQ,(.sl Q3)]⟩],Zc (Zdw yD) yD⟩
def NC:HI:={ own:=[35,45,79,82],still:=[6,15,16,17,24,27,70],ff:=[(9,[([0],Q3,192)])]}
theorem ZjE:Zfr.bA yb 35 0:=Zv NC [] [] trivial
def Zdx(F:Nat)(s:xC):yO (xC⊕((yL (Zo×fG))×aOV×Tx×aOS×(yL WL))):=
 if(ah (s.2.2.2.1 < s.2.2.1))=af then
  (idx s.2.1 s.2.2.2.1).bind λa=>
  (idx s.2.2.2.2.2.2.1.2.1 s.2.2.2.1).bind λb=>
  (MX F b).bind λc=>
  ab (.inl (s.1,s.2.1,s.2.2.1,wi (s.2.2.2.1+1),gv s.2.2.2.2.1 a (c,s.1),s.2.2.2.2.2.1,s.2.2.2.2.2.2.1,s.2.2.2.2.2.2.2.1,s.2.2.2.2.2.2.2.2))
 else
 ab (.inr (s.2.2.2.2.1,s.2.2.2.2.2.1,s.2.2.2.2.2.2.1,s.2.2.2.2.2.2.2.1,s.2.2.2.2.2.2.2.2))
def Zfs:Lp:=⟨[(0,.ak 0 []),(2,.v yI),(4,.ak 3 []),(9,.ak 4 []),(54,.v aOQ),(55,.v yI),(56,.v yI)],xD,ZQN,[⟨.exit 2,[(0,.ak 0 []),(9,.ak 4 [])],xD,[(QX Zd Xg),aOU,aS,aOQ,(.sl Q3)]⟩],Zc (Zdx yD) yD⟩
theorem ZjF:Zfs.bA yb 35 1:=Zv NC [] [MY] ⟨ZpO,au⟩
def Zrc(F:Nat)(a1:Tx)(a2:Int)(s1:(yL (Zo×fG)))(s2:aOV):yO ((Int×(yL (Zo×fG))×aOV)):=
 (ZhR F a1 a2 s1 s2).bind λa=>
 if(a.2.1 !=0)=af then
  ab (a.2.1,a.2.2.1,a.2.2.2)
 else
 (wO F a1).bind λb=>
 (KY F a1).bind λc=>
 (Zc (Zdw F) F (a2,c,(c.length:Int),0,a.2.2.1,a.2.2.2,a1,b,[])).bind λd=>
 (Zc (Zdx F) F (d.1,d.2.2.2.2.1,(d.2.2.2.2.1.length:Int),0,d.2.1,d.2.2.1,d.2.2.2.1,d.2.2.2.2.1,d.2.2.2.2.2)).bind λe=>
 if(cO e.2.1.length 1 48)=af then
  let f:aOV:=e.2.1++([(e.2.2.2.2,e.2.2.2.1)]:yL Z6)
  ab (0,e.1,f)
 else
 ae
def Q4(F:Nat):Fs yb:=⟨35,[.ak 0 [],.v aS,.v yI],qV,[aS,yI,(QX Zd Xg),aOU],[⟨.ret,[(0,.v yI)],qV,[yI,(QX Zd Xg),aOU]⟩],λx=>Zrc F x.1 x.2.1 x.2.2.1 x.2.2.2⟩
def ZpS:Fs yb:=Q4 yD
theorem Zn0:ZpS.Ok:=aR NC [(0,Zfr),(1,Zfs)] [Zgv,wP,KZ] ⟨ZnZ,LJ,Zpo,au⟩ ⟨ZjE,ZjF,au⟩
end
end Go.Proofs.YtekdgjajmennjaaGreat
end
section
set_option maxRecDepth 4000
namespace Go.Ev
theorem ZG7{I X:Type}{step:I->yO (I⊕X)}{st:Nat->I}{x:X}(n:Nat)(hs:∀k,k < n->step (st k)=ab (.inl (st (k+1))))(he:step (st n)=ab (.inr x)):∀(d k f:Nat),k+d=n->d < f->Zc step f (st k)=ab x
 |0,k,f+1,h,_=>by
  have e:k=n:=by omega
  subst e;unfold Zc
  rw[he,ya]
 |d+1,k,f+1,h,hf=>by
  unfold Zc;rw[hs k (by omega),ya];exact ZG7 n hs he d (k+1) f (by omega) (by omega)
theorem ZT{I X:Type}{step:I->yO (I⊕X)}(n:Nat)(st:Nat->I){x:X}(hs:∀k,k < n->step (st k)=ab (.inl (st (k+1))))(he:step (st n)=ab (.inr x))(hn:n < 18446744073709551616):
 Zc step yD (st 0)=ab x:=ZG7 n hs he n 0 yD (by omega) (by rw[nh];exact hn)
theorem ZDH{I X:Type}{step:I->yO (I⊕X)}{Post:X->Prop}(n:Nat)(S:Nat->I->Prop)(hs:∀k s,k < n->S k s->(∃t,step s=ab (.inl t)/\S (k+1) t)\/∃x,step s=ab (.inr x)/\Post x)
 (he:∀s,S n s->∃x,step s=ab (.inr x)/\Post x):∀(d k f:Nat)(s:I),k+d=n->d < f->S k s->∃x,Zc step f s=ab x/\Post x
 |0,k,f+1,s,h,_,hS=>by
  have e:k=n:=by omega
  subst e;obtain⟨x,h1,h2⟩:=he s hS;unfold Zc;rw[h1,ya]
  exact⟨x,rfl,h2⟩
 |d+1,k,f+1,s,h,hf,hS=>by
  unfold Zc;rcases hs k s (by omega) hS with⟨t,h1,h2⟩|⟨x,h1,h2⟩
  .rw[h1,ya];exact ZDH n S hs he d (k+1) f t (by omega) (by omega) h2
  .rw[h1,ya];exact⟨x,rfl,h2⟩
theorem VF{I X:Type}{step:I->yO (I⊕X)}(n:Nat)(S:Nat->I->Prop)(Post:X->Prop){i:I}(h0:S 0 i)(hn:n < 18446744073709551616)
 (hs:∀k s,k < n->S k s->(∃t,step s=ab (.inl t)/\S (k+1) t)\/∃x,step s=ab (.inr x)/\Post x)
 (he:∀s,S n s->∃x,step s=ab (.inr x)/\Post x):∃x,Zc step yD i=ab x/\Post x:=ZDH n S hs he n 0 yD i (by omega) (by rw[nh];exact hn) h0
theorem XA{a b:Nat}(h:a < b):ah ((a:Int) < (b:Int))=af:=yY (by omega)
theorem YN{a:Nat}:ah ((a:Int) < (a:Int))=ag:=yZ (by omega)
theorem ZO{k:Nat}(h:k < 9223372036854775807):wi ((k:Int)+1)=((k+1:Nat):Int):=by
 rw[Yb (by omega) (by omega)];omega
theorem Yg{α:Type}{l:yL α}{k:Nat}{y:α}(h:l[k]? =ab y):idx l (k:Int)=ab y:=oT (by omega) (by simpa using h)
theorem ZyP{α:Type}{ls:yL (yL α)}{k:Nat}{e:yL α}(h:ls[k]? =ab e):(ls.take (k+1)).flatten=(ls.take k).flatten++e:=by
 rw[List.take_add_one,h];simp
theorem ZG8{α:Type}(ls:yL (yL α))(k:Nat):(ls.take k).flatten.length<=ls.flatten.length:=by
 have h:=congrArg (λl=>(List.flatten l).length) (List.take_append_drop k ls);simp only[List.flatten_append,yr]at h;omega
theorem jn{α:Type}{l:yL α}{k:Nat}{e:α}(h:l[k]? =ab e):l.take (k+1)=l.take k++[e]:=by
 rw[List.take_add_one,h];rfl
theorem Zu{α:Type}{l:yL α}{k:Nat}(h:k < l.length):∃e,l[k]? =ab e/\e∈l:=⟨l[k],yac h,List.getElem_mem h⟩
end Go.Ev
end
section
set_option maxRecDepth 4000
namespace Go.Proofs.YtekdgjajmennjaaGreat
open Go Go.Ev
theorem ZK3{m:Nat}(hm:0 < m):∀(f a n o:Nat),o < m->gn m f a n o < m
 |0,_,_,o,h=>h
 |f+1,a,n,o,h=>by
  rw[gn];split
  .exact h
  .refine ZK3 hm f _ _ _ ?_;split
   .exact ybo _ hm
   .exact h
theorem ZPB{m:Nat}(hm:1 < m)(k a n:Nat)(h:n < 2 ^ k):gn m k a n 1=a ^ n % m:=by
 rw[<-yap (ZK3 (by omega) k a n 1 hm),IF k a n 1 h,Nat.one_mul]
instance(a:Nat):Decidable (bn a):=by unfold bn;infer_instance
theorem ZPC{z:Nat}(h:z < dI):z < 18446744073709551616:=Nat.lt_trans h (by decide)
theorem sN{z:Nat}(h:z < dI):(yaf z).toNat=z:=by
 rw[ybj,yap (ZPC h)]
theorem sO(z:Nat):z % dI < dI:=ybo _ (by decide)
theorem ND(a n:yU):V8 yD a n=ab (yaf (a.toNat ^ n.toNat % dI)):=by
 unfold V8;rw[ZPB (by decide) 64 a.toNat n.toNat (ycc n)];rfl
theorem ZPD{z:Nat}(h:z < dI):(yaf z==1)=ah (z=1):=by
 rw[Bool.eq_iff_iff,yT,yN, <-ycp,sN h];rfl
theorem Xh(p:yU):YA yD p=ab (ah (bn p.toNat)):=by
 unfold YA;by_cases h1:0 < p.toNat
 .rw[yW (yY (show p > 0 from ycx.2 h1))]
  by_cases h2:p.toNat < dI
  .rw[yW (yY (show p < 4611686018427377339 from ycx.2 h2)),ND,ya,ZPD (sO _)]
   congr 1;rw[decide_eq_decide];exact⟨λh=>⟨h1,h2,h⟩,λh=>h.2.2⟩
  .rw[yX (by rw[yN];exact λh=>h2 (ycx.1 h)),yZ (λh=>h2 h.2.1)]
 .rw[yX (by rw[yN];exact λh=>h1 (ycx.1 h)),yZ (λh=>h1 h.1)]
def tk(p:yU):yU:=if bn p.toNat then p else 1
theorem sP(p:yU):bn (tk p).toNat:=by
 unfold tk;split
 .assumption
 .exact vR
theorem po{p:yU}(h:bn p.toNat):tk p=p:=yW h
theorem NE(p:yU):V9 yD p=ab (tk p):=by
 unfold V9 tk;rw[Xh,ya];by_cases h:bn p.toNat
 .rw[yW (yY h),yW h]
 .rw[yX (by rw[yN];exact h),yX h]
def sc(p:yU)(n:Nat):yU:=yaf ((tk p).toNat ^ n % dI)
theorem xE(p:yU)(n:Nat):(sc p n).toNat=(tk p).toNat ^ n % dI:=sN (sO _)
theorem ZQO(p:yU)(n:Nat):bn (sc p n).toNat:=by
 rw[xE];exact ZPh (sP p) n
theorem ZK4(p:yU)(n:Nat):sc p (n % cv)=sc p n:=by
 unfold sc;rw[ZM2 (sP p)]
theorem pp(k:yU):(k % 2305843009213688669).toNat=k.toNat % cv:=by
 rw[UInt64.toNat_mod];rfl
theorem pq(p k:yU):WZ yD p k=ab (sc p k.toNat):=by
 unfold WZ;rw[NE,ya,ND,ya,pp, <-ZK4];rfl
def B(n:Nat):yU:=sc 4 n
theorem tk4:tk 4=4:=po vS
theorem jT(n:Nat):(B n).toNat=4 ^ n % dI:=by
 unfold B;rw[xE,tk4];rfl
theorem nB(n:Nat):bn (B n).toNat:=ZQO 4 n
theorem NF(n:Nat):B (n % cv)=B n:=ZK4 4 n
theorem ZRF{n:Nat}(h0:0 < n)(h1:n < cv):B n≠1:=λe=>IG h0 h1 (by rw[<-jT,e];rfl)
theorem QQ(k:yU):YG yD k=ab (B k.toNat):=by
 unfold YG;rw[pq,ya];rfl
def ad(p q:yU):yU:=yaf ((tk p).toNat*(tk q).toNat % dI)
theorem ZK6(p q:yU):(ad p q).toNat=(tk p).toNat*(tk q).toNat % dI:=sN (sO _)
theorem ZN6(p q:yU):bn (ad p q).toNat:=by
 rw[ZK6];exact ZPg (sP p) (sP q)
theorem ZK7(a b:yU):Yn yD a b=ab (yaf (a.toNat*b.toNat % dI)):=ZDe a b
def ft:yL yU->Nat->Nat
 |[],o=>o
 |p::r,o=>ft r (o*(tk p).toNat % dI)
theorem ZG9:∀(l:yL yU)(o:Nat),o < dI->ft l o < dI
 |[],o,h=>h
 |p::r,o,h=>ZG9 r _ (sO _)
theorem xF{l:yL yU}(hl:l.length<=1000):sE yD l=ab (yaf (ft l 1)):=by
 have key:∀(k:Nat),k<=l.length->ft (l.take k) 1 < dI:=λk _=>ZG9 _ _ (by decide)
 have app:∀(l:yL yU)(p:yU)(o:Nat),ft (l++[p]) o=ft l o*(tk p).toNat % dI:=by
  intro l
  induction l with
  |nil=>intro p o;rfl
  |cons q r ih=>intro p o;exact ih p _
 unfold sE
 rw[show((1:yU),l,(l.length:Int),(0:Int))=(λk:Nat=>(yaf (ft (l.take k) 1),l,(l.length:Int),(k:Int))) 0 from rfl,
  ZT (x:=yaf (ft l 1)) l.length (λk:Nat=>(yaf (ft (l.take k) 1),l,(l.length:Int),(k:Int))) ?_ ?_ (by omega),ya]
 .intro k hk;obtain⟨e,he,_⟩:=Zu hk;unfold wD;dsimp only;rw[yW (XA hk),Yg he,ya,NE,ya,ZK7,ya,ZO (by omega),jn he,app,sN (key k (by omega))]
 .unfold wD;dsimp only;rw[yX (by rw[YN];decide),ybd]
theorem NG(p q:yU):oZ yD p q=ab (ad p q):=by
 unfold oZ;rw[xF (by simp),ya];unfold ad ft ft ft;rw[Nat.one_mul,yap (sP p).2.1]
theorem NH(p:yU):xv yD p=ab (sc p (cv - 1)):=by
 unfold xv;rw[NE,ya,ND,ya];rfl
theorem xG{z:Nat}:(yaf (z % cv)).toNat=z % cv:=by
 rw[ybj,yap (Nat.lt_trans (ybo _ (by decide)) (by decide))]
theorem sQ{z:Nat}:z % cv < cv:=ybo _ (by decide)
theorem ZNf(a b:yU):wF yD a b=ab (yaf ((a.toNat+b.toNat) % cv)):=by
 unfold wF nx KJ;rw[ya,ya,ya];congr 1;have ha:a.toNat % cv < cv:=sQ;have hb:b.toNat % cv < cv:=sQ;rw[<-ycp,pp,UInt64.toNat_add,pp,pp,xG,yap (a:=a.toNat % cv+b.toNat % cv) (by unfold cv at*;omega), <-Nat.add_mod]
theorem ZNg(a b:yU):wG yD a b=ab (yaf (a.toNat*b.toNat % cv)):=by
 unfold wG nx KK sr;rw[ya,ya,ya];dsimp only;unfold XO;rw[yW (by decide),ya,ya,ybj,ybj,pp,pp];have h:a.toNat % cv*(b.toNat % cv) < 18446744073709551616*18446744073709551616:=Nat.mul_lt_mul'' (Nat.lt_trans sQ (by decide)) (Nat.lt_trans sQ (by decide));have hz:a.toNat % cv*(b.toNat % cv) % cv=a.toNat*b.toNat % cv:=(Nat.mul_mod ..).symm;generalize a.toNat % cv*(b.toNat % cv)=z at*;have h2:z / 18446744073709551616 < 18446744073709551616:=(Nat.div_lt_iff_lt_mul (by decide)).2 h;rw[show(2305843009213688669:yU).toNat=cv from rfl]
 have e:z / 18446744073709551616 % 2 ^ 64*18446744073709551616+z % 18446744073709551616 % 2 ^ 64=z:=by omega
 rw[e,hz]
theorem sR(a:yU):Wn yD a=ab (ah (a.toNat < cv)):=by
 unfold Wn;congr 1
def Key(k:yU):Prop:=0 < k.toNat/\k.toNat < cv
theorem xH{h:yL yB}(hl:h.length=32):∃k,XR yD h=ab k/\Key k:=by
 unfold XR
 obtain⟨x,h1,h2⟩:=VF (step:=Y3 yD) 32 (λk s=>∃n:yU,s=(n,h,(k:Int),h)/\n.toNat < 2305843009213688668) (λx=>x.1.toNat < 2305843009213688668) (i:=((0:yU),h,(0:Int),h)) ⟨0,rfl,by decide⟩ (by omega) (by
  rintro k _ hk ⟨n,rfl,hn⟩;left;obtain⟨e,he,_⟩:=Zu (l:=h) (k:=k) (by omega);unfold Y3;dsimp only;rw[yW (yY (by omega)),Yg he,ya];unfold XO;rw[yW (by decide),ya,ZO (by omega)];refine⟨_,rfl,_,rfl, ?_⟩;rw[show(2305843009213688668:yU).toNat=2305843009213688668 from rfl,ybj,yap]
  .exact ybo _ (by decide)
  .exact Nat.lt_trans (ybo _ (by decide)) (by decide)) (by
  rintro _ ⟨n,rfl,hn⟩;unfold Y3;dsimp only;rw[yX (fM (by omega))];exact⟨_,rfl,hn⟩)
 rw[h1,ya];have e:(x.1+1).toNat=x.1.toNat+1:=by rw[UInt64.toNat_add,yap (by show x.1.toNat+1 < _;omega)];rfl
 exact⟨_,rfl,by rw[e];omega,by rw[e];unfold cv;omega⟩
theorem ZDJ{n:Nat}{b:yL yB}(h:b.length<=1000000):∃o,VQ yD (n:Int) b=ab o/\o.length=b.length+8:=
 ⟨_,ww (by omega),by rw[yr];rfl⟩
theorem ZHa{l:yL yB}(h:l.length<=900000):∃o,nw yD l=ab o/\o.length=32:=⟨_,ZG6 (by omega),Sha.lM l⟩
theorem ZHb{s:ByteArray}{ls:yL aOz}(h1:s.size<=100)(h2:ls.length<=10)(h3:∀l,l∈ls->l.length<=60000):∃o,Xk yD s ls=ab o/\o.length=32:=by
 unfold Xk;obtain⟨o,p1,p2⟩:=ZDJ (n:=s.size) (b:=[]) (by simp)
 have hsl:(fm s).length=s.size:=by
  unfold fm;rw[Array.length_toList];rfl
 rw[p1,ya,yW (X2 (by rw[hsl,p2];simp;omega) (by rw[hsl,p2];simp;omega))];refine Exists.elim (Wc (step:=Wp yD) (λx=>x.1=ls/\x.2.1=(ls.length:Int)/\0<=x.2.2.1/\x.2.2.1<=(ls.length:Int)/\x.2.2.2.2.length<=200+60100*x.2.2.1.toNat) (λx=>((ls.length:Int) - x.2.2.1).toNat) (λx=>x.2.length<=700000) ?_ (ls,(ls.length:Int),(0:Int),dz,o++fm s) ⟨rfl,rfl,Int.le_refl _,by dsimp only;omega,by dsimp only;rw[yr,p2,hsl];simp;omega⟩ (by dsimp only;omega)) ?_
 rotate_left
 .rintro q ⟨q1,q2⟩;rw[q1,ya];obtain⟨r,r1,r2⟩:=ZHa (l:=q.2) (by omega);rw[r1,ya];exact⟨_,rfl,r2⟩
 .rintro⟨a,n,i,c,d⟩ ⟨k1,k2,k3,k4,k5⟩;dsimp only at k1 k2 k3 k4 k5;subst k1;subst k2;unfold Wp;dsimp only;by_cases hi:i < (a.length:Int)
  .left;obtain⟨e,he⟩:=gO (l:=a) (i:=i.toNat) (by omega);have hel:=h3 e (List.mem_of_getElem? he);obtain⟨x,x1,x2⟩:=ZDJ (n:=e.length) (b:=d) (by omega);rw[yW (yY hi),oT k3 he,ya,x1,ya,yW (X2 (by omega) (by omega)),Yb (z:=i+1) (by omega) (by omega)];exact⟨_,rfl,⟨rfl,rfl,by dsimp only;omega,by dsimp only;omega,by dsimp only;rw[yr];omega⟩,by dsimp only;omega⟩
  .right;rw[yX (by simpa using hi)];exact⟨_,rfl,by dsimp only;omega⟩
theorem ZRG(m n:Nat):sc (B m) n=B (m*n):=by
 rw[<-ycp,xE,po (nB m),jT,jT,Nat.pow_mul, <-Nat.pow_mod]
theorem ZQP(z:Nat):B (yaf (z % cv)).toNat=B z:=by rw[xG,NF]
theorem ZyS{ls:yL aOz}(h:ls.flatten.length<=1000000000)(hn:ls.length<=1000):YI yD ls=ab ls.flatten:=by
 unfold YI
 rw[show(ls,(0:Int),ls,(ls.length:Int),(0:Int))=(λk:Nat=>(ls,((ls.take k).flatten.length:Int),ls,(ls.length:Int),(k:Int))) 0 from rfl,
  ZT (x:=(ls,(ls.flatten.length:Int))) ls.length (λk:Nat=>(ls,((ls.take k).flatten.length:Int),ls,(ls.length:Int),(k:Int))) ?_ ?_ (by omega),ya]
 .have hg:nj (ls.flatten.length:Int)=ab []:=by
   unfold nj;rw[yW];rw[Bool.and_eq_true];exact⟨yY (by omega),yY (by unfold Zr;omega)⟩
  dsimp only
  rw[hg,ya,show(ls,(ls.length:Int),(0:Int),([]:yL yB))=(λk:Nat=>(ls,(ls.length:Int),(k:Int),(ls.take k).flatten)) 0 from rfl,
   ZT (x:=ls.flatten) ls.length (λk:Nat=>(ls,(ls.length:Int),(k:Int),(ls.take k).flatten)) ?_ ?_ (by omega),ya]
  .intro k hk;obtain⟨e,he,_⟩:=Zu hk;have hf:=ZyP he;have hl:=ZG8 ls (k+1);rw[hf,yr]at hl;unfold Y2;dsimp only;rw[yW (XA hk),Yg he,ya,yW (X2 (by omega) (by omega)),ZO (by omega),hf]
  .unfold Y2;dsimp only;rw[yX (by rw[YN];decide),ybd]
 .intro k hk;obtain⟨e,he,_⟩:=Zu hk;have hf:=ZyP he;have hl:=ZG8 ls (k+1);rw[hf,yr]at hl;unfold YZ;dsimp only;rw[yW (XA hk),Yg he,ya,Yb (z:=((ls.take k).flatten.length:Int)+(e.length:Int)) (by omega) (by omega),yX (fM (by omega)),ZO (by omega),hf,yr];rfl
 .unfold YZ;dsimp only;rw[yX (by rw[YN];decide),ybd]
theorem NI{a b:yL yB}(h:a.length+b.length<=1000000000):QZ yD a b=ab (a++b):=by
 unfold QZ;rw[ZyS (by simp;omega) (by simp),ya];simp
def V3(n:Nat):yL yB:=if h:n < 128 then[ybh n] else ybh (n % 128+128)::V3 (n / 128)
termination_by n
decreasing_by omega
theorem NJ{n:Nat}(h:n < 128):V3 n=[ybh n]:=by rw[V3,dif_pos h]
theorem ZDK{n:Nat}(h:¬n < 128):V3 n=ybh (n % 128+128)::V3 (n / 128):=by rw[V3,dif_neg h]
theorem ZHc:∀(j n:Nat),n < 128 ^ (j+1)->(V3 n).length<=j+1
 |0,n,h=>by rw[NJ (by omega)];exact Nat.le_refl _
 |j+1,n,h=>by
  by_cases h0:n < 128
  .rw[NJ h0,List.length_singleton];omega
  .rw[ZDK h0];have:=ZHc j (n / 128) (by rw[Nat.pow_succ]at h;omega);simp only[yah];omega
theorem YJ{n:Nat}(h:n<=9223372036854775807):(V3 n).length<=9:=ZHc 8 n (by omega)
theorem ZK8{n:Nat}(h:n<=9223372036854775807):sD yD (n:Int)=ab (V3 n):=by
 unfold sD;refine Exists.elim (Wc (step:=wz yD) (λs=>∃m:Nat,s.1=(m:Int)/\m<=n/\s.2++V3 m=V3 n) (λs=>s.1.toNat) (λx=>∃m:Nat,x.1=(m:Int)/\m < 128/\x.2++V3 m=V3 n) ?_ ((n:Int),([]:yL yB)) ⟨n,rfl,Nat.le_refl _,rfl⟩ (by dsimp only;omega)) ?_
 .rintro⟨_,o⟩ ⟨m,rfl,hm,ho⟩;unfold wz;dsimp only at ho ⊢;have hr:=congrArg List.length ho;have hl:=YJ h;rw[yr]at hr;by_cases h1:m < 128
  .right;rw[yX (fM (by omega))];exact⟨_,rfl,m,rfl,h1,ho⟩
  .left;rw[yW (yY (by omega)),yW (X2 (by omega) (by omega))];have e1:Int.tmod (m:Int) 128=((m % 128:Nat):Int):=rfl;have e2:Int.tdiv (m:Int) 128=((m / 128:Nat):Int):=rfl;rw[e1,e2,Yb (z:=((m % 128:Nat):Int)+128) (by omega) (by omega),Yb (z:=((m / 128:Nat):Int)) (by omega) (by omega)];refine⟨_,rfl,⟨m / 128,rfl,by omega, ?_⟩,by dsimp only;omega⟩;dsimp only;rw[<-ho,ZDK h1,yak];congr 1;rw[List.singleton_append];congr 1;unfold w8;congr 1;omega
 .rintro⟨_,o⟩ ⟨h1,m,rfl,h2,h3⟩;dsimp only at h3 ⊢;have hr:=congrArg List.length h3;have hl:=YJ h;rw[yr]at hr;rw[h1,ya];dsimp only;rw[yW (X2 (by omega) (by omega)), <-h3,NJ h2];congr 3;unfold w8;congr 1;omega
theorem iH{b:yL yB}{z:Int}(h0:0<=z)(h:z<=9223372036854775807)(hb:b.length<=1000000):Y7 yD b z=ab (b++V3 z.toNat):=by
 obtain⟨n,rfl⟩:=Int.eq_ofNat_of_zero_le h0;have:=YJ (n:=n) (by omega);unfold Y7;rw[yX (fM (by omega)),ZK8 (by omega),ya,NI (by omega),ya,ybw]
theorem Zwo{b h:yL yB}(hb:b.length<=1000000)(hh:h.length<=1000000):Wx yD b h=ab (b++h):=by
 unfold Wx;rw[NI (by omega),ya]
theorem ZDL{b c:yL yB}(hb:b.length<=1000000)(hc:c.length<=1000000):wJ yD b c=ab (b++(V3 c.length++c)):=by
 have:=YJ (n:=c.length) (by omega);unfold wJ;rw[ZK8 (by omega),ya,ZyS (by simp;omega) (by simp),ya];simp
def jo(l:yL yB)(n k:Nat):yL yB:=l.take k++yy (n - k) 0
theorem NK{l:yL yB}{n k:Nat}(h:k < l.length)(h2:l.length<=n):(jo l n k)[k]? =ab 0:=by
 unfold jo;have h3:(l.take k).length=k:=by simp;omega
 rw[yam (by omega),h3,List.getElem?_replicate];simp;omega
theorem NL{l:yL yB}{n k:Nat}{d:yB}(hx:l[k]? =ab d)(h2:l.length<=n):(jo l n k).set k d=jo l n (k+1):=by
 have h:k < l.length:=(yo.1 hx).1;have h3:(l.take k).length=k:=by simp;omega
 unfold jo;rw[jn hx,List.set_append_right _ _ (by omega),h3,Nat.sub_self];have e:n - k=(n - (k+1))+1:=by omega
 rw[e,List.replicate_succ];simp
theorem NM{l:yL yB}{n:Nat}(h:l.length=n):jo l n n=l:=by
 unfold jo;rw[<-h];simp
def jU(n:Nat):yL yB:=(List.range 8).map λi=>ybh (n / 2 ^ (56 - 8*i))
theorem sS(n:Nat):(jU n).length=8:=by simp[jU]
theorem ZK9(n:Nat){k:Nat}(hk:k < 8):(jU n)[k]? =ab (ybh (n / 2 ^ (56 - 8*k))):=by simp[jU,hk]
theorem ZLa(x:yU){m:Nat}:w8 ((ZG x m).toNat:Int)=ybh (x.toNat / 2 ^ m):=by
 unfold w8 ZG;have h:x.toNat / 2 ^ m < 18446744073709551616:=Nat.lt_of_le_of_lt (Nat.div_le_self ..) (ycc _);rw[ybj,yap h];apply UInt8.toNat_inj.1;rw[UInt8.toNat_ofNat',UInt8.toNat_ofNat'];omega
theorem ZyT{b:yL yB}(x:yU)(hb:b.length<=1000000):Qb yD b x=ab (b++jU x.toNat):=by
 unfold Qb
 rw[show(b,x,(0:Int),([0,0,0,0,0,0,0,0]:yL yB))=(λk:Nat=>(b,x,(k:Int),jo (jU x.toNat) 8 k)) 0 from rfl,
  ZT (x:=(b,jU x.toNat)) 8 (λk:Nat=>(b,x,(k:Int),jo (jU x.toNat) 8 k)) ?_ ?_ (by omega),ya]
 .dsimp only;rw[NI (by rw[sS];omega),ya]
 .intro k hk;unfold QN;dsimp only;have hl:=sS x.toNat
  rw[yW (yY (by omega)),Yb (z:=8*(k:Int)) (by omega) (by omega),Yb (z:=56 - 8*(k:Int)) (by omega) (by omega),yW (yY (by omega)),yW (ZQ (by omega) (by omega)),
   ybw,NK (by omega) (by omega),ya,ZO (by omega)]
  have e:min (56 - 8*(k:Int)).toNat 64=56 - 8*k:=by omega
  rw[e,ZLa,NL (ZK9 _ hk) (by omega)]
 .unfold QN;dsimp only;rw[yX (by simp),NM (sS _)]
def sT(b:Zx):Prop:=b.1.length<=12/\0<=b.2.1/\b.2.1<=1048576/\0<=b.2.2.1/\b.2.2.1<=1048576
def sU(b:Zx):Prop:=(∀p,p∈b.1->bn p.toNat)/\(b.2.2.2≠0->bn b.2.2.2.toNat)
def V4(l:Y9):Prop:=0 < l.length/\l.length<=4/\∀b,b∈l->sT b
def ig(l:Y9):Prop:=∀b,b∈l->sU b
theorem NN(p:yU):Vm yD p=ab (!decide (bn p.toNat)):=by
 unfold Vm;rw[Xh,ya]
theorem ZLd{p:yU}(h:bn p.toNat):Vm yD p=ab ag:=by rw[NN,yY h];rfl
theorem ZQQ{l:yL yU}(hl:l.length<=12)(h:∀p,p∈l->bn p.toNat):Vn yD l=ab ag:=by
 unfold Vn Vz
 rw[show(l,(l.length:Int),(0:Int))=(λk:Nat=>(l,(l.length:Int),(k:Int))) 0 from rfl,
  ZT (x:=.inr ()) l.length (λk:Nat=>(l,(l.length:Int),(k:Int))) ?_ ?_ (by omega),ya]
 .rfl
 .intro k hk;obtain⟨e,he,hm⟩:=Zu hk;unfold Yw;dsimp only;rw[yW (XA hk),Yg he,ya,ZLd (h e hm),ya,ZO (by omega)];rfl
 .unfold Yw;dsimp only;rw[yX (by rw[YN];decide)]
theorem ZyU{z:Int}(h0:0<=z)(h1:z<=1048576):W4 yD z=ab af:=by
 unfold W4;rw[yW (yY h0),yY h1]
theorem Zwp{l:Y9}(h:V4 l)(hp:ig l):Xc yD l=ab af:=by
 unfold Xc;obtain⟨h0,h1,h2⟩:=h
 rw[show(l,(l.length:Int),(0:Int),l)=(λk:Nat=>(l,(l.length:Int),(k:Int),l)) 0 from rfl,
  ZT (x:=.inr l) l.length (λk:Nat=>(l,(l.length:Int),(k:Int),l)) ?_ ?_ (by omega),ya]
 .dsimp only;rw[yW (yY (by omega)),yY (by omega)]
 .intro k hk;obtain⟨e,he,hm⟩:=Zu hk;obtain⟨e1,e2,e3,e4,e5⟩:=h2 e hm;obtain⟨p1,p2⟩:=hp e hm;unfold X4;dsimp only;rw[yW (XA hk),Yg he,ya,yX (fM (by omega)),ZQQ e1 p1,ya,ZyU e2 e3,ya,ZyU e4 e5,ya,ZO (by omega),yX (by decide),yX (by decide),yX (by decide)];by_cases hz:e.2.2.2=0
  .rw[yX (by simp[hz])]
  .rw[yW (by simp[hz]),ZLd (p2 hz),ya,yX (by decide)]
 .unfold X4;dsimp only;rw[yX (by rw[YN];decide)]
def sV(t:Tx):Prop:=(∀x,x∈t.1->x.1.1.length=32)/\t.2.2<=9223372036854775807
def ZQR(x:In):Prop:=0<=x.1.2/\x.1.2 < 64/\0<=x.2.1/\x.2.1 < 4/\x.2.2.1.length<=12
def gR(o:Out):Prop:=0<=o.1/\o.1<=1125899906842624/\V4 o.2/\ig o.2
def ZQS(t:Tx):Prop:=0 < t.1.length/\t.1.length<=64/\t.2.1.length<=64/\0<=t.2.2/\(∀x,x∈t.1->ZQR x)/\∀o,o∈t.2.1->gR o
def cr{α:Type}(f:α->yL yB)(l:yL α):yL yB:=(l.map f).flatten
theorem sW{α:Type}{f:α->yL yB}{l:yL α}{k:Nat}{e:α}(h:l[k]? =ab e):cr f (l.take (k+1))=cr f (l.take k)++f e:=by
 unfold cr
 rw[jn h,yal,List.flatten_append];simp
theorem ZLf{α:Type}{f:α->yL yB}{l:yL α}{e:α}:cr f (e::l)=f e++cr f l:=rfl
theorem ZHd{α:Type}{f:α->yL yB}{c:Nat}:∀{l:yL α},(∀x,x∈l->(f x).length<=c)->(cr f l).length<=l.length*c
 |[],_=>by simp[cr]
 |e::l,h=>by
  have h1:=h e (yao ..);have h2:=ZHd (l:=l) λx hx=>h x (yas _ hx);rw[ZLf,yr,yah,Nat.succ_mul];omega
theorem pr{α:Type}{f:α->yL yB}{c n:Nat}{l:yL α}(h:∀x,x∈l->(f x).length<=c)(hn:l.length<=n)(k:Nat):(cr f (l.take k)).length<=n*c:=by
 refine ybx (ZHd λx hx=>h x (List.mem_of_mem_take hx)) (Nat.mul_le_mul_right c ?_);rw[yae];omega
def sX(p:yU):yL yB:=jU p.toNat
def lQ(b:Zx):yL yB:=V3 b.1.length++(cr sX b.1++(V3 b.2.1.toNat++(V3 b.2.2.1.toNat++jU b.2.2.2.toNat)))
def kR(l:Y9):yL yB:=V3 l.length++cr lQ l
theorem NO{l:yL yU}(h:l.length<=12)(k:Nat):(cr sX (l.take k)).length<=96:=pr (c:=8) (λx _=>Nat.le_of_eq (sS _)) h k
theorem ZHe{b:Zx}(h:b.1.length<=12/\0<=b.2.1/\b.2.1<=1048576/\0<=b.2.2.1/\b.2.2.1<=1048576):(lQ b).length<=131:=by
 have h1:=NO h.1 b.1.length;rw[ybd]at h1;have h2:=YJ (n:=b.1.length) (by omega);have h3:=YJ (n:=b.2.1.toNat) (by omega);have h4:=YJ (n:=b.2.2.1.toNat) (by omega);have h5:=sS b.2.2.2.toNat
 unfold lQ;simp only[yr];omega
theorem NP{l:Y9}(h:V4 l):(kR l).length<=533:=by
 have h1:=pr (f:=lQ) (c:=131) (λx hx=>ZHe (h.2.2 x hx)) h.2.1 l.length;rw[ybd]at h1;have h2:=YJ (n:=l.length) (by have:=h.2.1;omega);unfold kR;rw[yr];omega
theorem ZIt{c:yL yB}(hc:c.length<=100000){bs:yL Zx}{n i:Int}{ks:yL yU}{l:Y9}{e:Zx}(hk:ks.length<=12):
 Zc (VY yD) yD (c,bs,n,i,ks,(ks.length:Int),(0:Int),l,e)=ab (c++cr sX ks,bs,n,i,l,e):=by
 rw[show(c,bs,n,i,ks,(ks.length:Int),(0:Int),l,e)=(λk:Nat=>(c++cr sX (ks.take k),bs,n,i,ks,(ks.length:Int),(k:Int),l,e)) 0 by simp[cr]];refine ZT ks.length (λk:Nat=>(c++cr sX (ks.take k),bs,n,i,ks,(ks.length:Int),(k:Int),l,e)) ?_ ?_ (by omega)
 .intro k hk2;obtain⟨e,he,_⟩:=Zu hk2;have hl:=NO hk k;unfold VY;dsimp only;rw[yW (XA hk2),Yg he,ya,ZyT _ (by rw[yr];omega),ya,ZO (by omega),sW he,yak];rfl
 .unfold VY;dsimp only;rw[yX (by rw[YN];decide),ybd]
theorem Zwr{l:Y9}(h:V4 l)(hp:ig l):sH yD l=ab (kR l):=by
 unfold sH;have h0:=h.2.1;have h9:=YJ (n:=l.length) (by omega);rw[Zwp h hp,ya,yX (by decide),iH (by omega) (by omega) (by simp),ya,List.nil_append,ybw]
 rw[show(V3 l.length,l,(l.length:Int),(0:Int),l)=(λk:Nat=>(V3 l.length++cr lQ (l.take k),l,(l.length:Int),(k:Int),l)) 0 by simp[cr],
  ZT (x:=(kR l,l)) l.length (λk:Nat=>(V3 l.length++cr lQ (l.take k),l,(l.length:Int),(k:Int),l)) ?_ ?_ (by omega),ya]
 .intro k hk;obtain⟨e,he,hm⟩:=Zu hk;obtain⟨e1,e2,e3,e4,e5⟩:=h.2.2 e hm;have hl:=pr (f:=lQ) (c:=131) (λx hx=>ZHe (h.2.2 x hx)) h.2.1 k;have hr:=YJ (n:=e.1.length) (by omega);have hr2:=YJ (n:=e.2.1.toNat) (by omega);have hr3:=YJ (n:=e.2.2.1.toNat) (by omega);have hk8:=NO e1 e.1.length;rw[ybd]at hk8;unfold wK;dsimp only
  rw[yW (XA hk),Yg he,ya,iH (by omega) (by omega) (by rw[yr];omega),ya,ybw,
   ZIt (by simp only[yr];omega) e1,ya]
  dsimp only
  rw[iH e2 (by omega) (by simp only[yr];omega),ya,iH e4 (by omega) (by simp only[yr];omega),ya,
   ZyT _ (by simp only[yr];omega),ya,ZO (by omega),sW he]
  unfold lQ;simp only[yak]
 .unfold wK;dsimp only;rw[yX (by rw[YN];decide),ybd];rfl
def kS(x:In):yL yB:=x.1.1++V3 x.1.2.toNat
def lR(o:Out):yL yB:=V3 o.1.toNat++(V3 (kR o.2).length++kR o.2)
def nC(t:Tx):yL yB:=V3 t.1.length++(cr kS t.1++(V3 t.2.1.length++(cr lR t.2.1++V3 t.2.2.toNat)))
theorem ZNh{x:In}(h:x.1.1.length=32)(k:ZQR x):(kS x).length<=41:=by
 have:=YJ (n:=x.1.2.toNat) (by have:=k.2.1;omega);unfold kS;rw[yr];omega
theorem ZLh{o:Out}(k:gR o):(lR o).length<=551:=by
 have h1:=NP k.2.2.1;have h2:=YJ (n:=o.1.toNat) (by have:=k.2.1;omega);have h3:=YJ (n:=(kR o.2).length) (by omega);unfold lR;simp only[yr];omega
theorem ZLi{t:Tx}(hw:sV t)(h:ZQS t):wN yD t=ab (nC t)/\(nC t).length<=40000:=by
 obtain⟨ins,outs,note⟩:=t;obtain⟨w2,w3⟩:=hw;obtain⟨h1,h2,h3,h4,h5,h6⟩:=h;dsimp only at w2 w3 h1 h2 h3 h4 h5 h6;have li:=λk=>pr (f:=kS) (c:=41) (λx hx=>ZNh (w2 x hx) (h5 x hx)) h2 k;have lo:=λk=>pr (f:=lR) (c:=551) (λx hx=>ZLh (h6 x hx)) h3 k;have li1:=li ins.length;have lo1:=lo outs.length;rw[ybd]at li1 lo1;have r1:=YJ (n:=ins.length) (by omega);have r2:=YJ (n:=outs.length) (by omega);have r3:=YJ (n:=note.toNat) (by omega);refine⟨?_,by unfold nC;simp only[yr];omega⟩;unfold wN;dsimp only;rw[iH (by omega) (by omega) (by simp),ya,List.nil_append,ybw]
 rw[show(V3 ins.length,ins,(ins.length:Int),(0:Int),(ins,outs,note))=(λk:Nat=>(V3 ins.length++cr kS (ins.take k),ins,(ins.length:Int),(k:Int),(ins,outs,note))) 0 by simp[cr],
  ZT (x:=(V3 ins.length++cr kS ins,(ins,outs,note))) ins.length (λk:Nat=>(V3 ins.length++cr kS (ins.take k),ins,(ins.length:Int),(k:Int),(ins,outs,note))) ?_ ?_ (by omega),ya]
 .dsimp only;rw[iH (by omega) (by omega) (by rw[yr];omega),ya,ybw];generalize hp:V3 ins.length++cr kS ins++V3 outs.length=pre;have hpl:pre.length<=3000:=by rw[<-hp];simp only[yr];omega
  rw[show(pre,outs,(outs.length:Int),(0:Int),(ins,outs,note))=(λk:Nat=>(pre++cr lR (outs.take k),outs,(outs.length:Int),(k:Int),(ins,outs,note))) 0 by simp[cr],
   ZT (x:=(pre++cr lR outs,(ins,outs,note))) outs.length (λk:Nat=>(pre++cr lR (outs.take k),outs,(outs.length:Int),(k:Int),(ins,outs,note))) ?_ ?_ (by omega),ya]
  .dsimp only;rw[iH h4 w3 (by rw[yr];omega),ya, <-hp];unfold nC;simp only[yak]
  .intro k hk;obtain⟨e,he,hm⟩:=Zu hk;have hlk:=lo k;have hok:=h6 e hm;have hlo:=hok.2.2.1;have hll:=NP hlo;have hrl:=YJ (n:=e.1.toNat) (by have:=hok.2.1;omega);unfold wM;dsimp only
   rw[yW (XA hk),Yg he,ya,iH hok.1 (by have:=hok.2.1;omega) (by rw[yr];omega),ya,Zwr hok.2.2.1 hok.2.2.2,ya,
    ZDL (by simp only[yr];omega) (by omega),ya,ZO (by omega),sW he]
   unfold lR;simp only[yak]
  .unfold wM;dsimp only;rw[yX (by rw[YN];decide),ybd]
 .intro k hk;obtain⟨e,he,hm⟩:=Zu hk;have hlk:=li k;have h32:=w2 e hm;have hok:=h5 e hm;unfold wL;dsimp only
  rw[yW (XA hk),Yg he,ya,Zwo (by rw[yr];omega) (by omega),ya,iH hok.1 (by have:=hok.2.1;omega) (by simp only[yr];omega),ya,
   ZO (by omega),sW he]
  unfold kS;simp only[yak]
 .unfold wL;dsimp only;rw[yX (by rw[YN];decide),ybd]
def ep(l:yL Out):Int:=(l.map (·.1)).sum
theorem xI{l:yL Out}{k:Nat}{e:Out}(h:l[k]? =ab e):ep (l.take (k+1))=ep (l.take k)+e.1:=by
 unfold ep;rw[jn h,yal,List.sum_append];simp
def pu:yL yB:=dz
theorem ZQT{k:yU}(h:Key k):B k.toNat≠1:=ZRF h.1 h.2
def Ahd(a b:Cond):Prop:=a.1 < b.1\/a.1=b.1/\a.2.1 < b.2.1
instance(a b:Cond):Decidable (Ahd a b):=by unfold Ahd;infer_instance
def jV(h:yL yB):Nat->Nat
 |0=>0
 |k+1=>(256*jV h k+(h.getD k 0).toNat) % 2305843009213688668
theorem ZPE(h:yL yB)(k:Nat):jV h k < 2305843009213688668:=by
 cases k with
 |zero=>exact(by decide:(0:Nat) < 2305843009213688668)
 |succ k=>exact ybo _ (by decide)
def NQ(h:yL yB):yU:=yaf (jV h 32)+1
theorem ZLj{z:Nat}(h:z < 2305843009213688668):(yaf z).toNat=z:=by
 rw[ybj,yap (by omega)]
theorem ZPF(x:yU)(n:Nat):(Vv x n).toNat=x.toNat*2 ^ n % 18446744073709551616:=ybj ..
theorem ZNi(n:Nat)(b:yB)(hn:n < 2305843009213688668):((Vv (yaf n) 8)|||(yaf b.toNat)).toNat=n*256 % 18446744073709551616+b.toNat:=by
 have hb:b.toNat < 256:=b.toNat_lt;rw[UInt64.toNat_or,ZPF,ZLj hn,ybj,yap (a:=b.toNat) (by omega)];have h2:n*2 ^ 8 % 2 ^ 64=(n % 2 ^ 56)*2 ^ 8:=by omega
 rw[show n*2 ^ 8 % 18446744073709551616=(n % 2 ^ 56)*2 ^ 8 from h2,Nat.mul_comm, <-Nat.two_pow_add_eq_or_of_lt (by omega:b.toNat < 2 ^ 8)]
theorem ZHf{h:yL yB}(hl:h.length=32):XR yD h=ab (NQ h):=by
 unfold XR
 have e:=ZT (step:=Y3 yD) 32 (λk:Nat=>(yaf (jV h k),h,(k:Int),h)) (x:=(yaf (jV h 32),h)) (by
  intro k hk;obtain⟨e,he,_⟩:=Zu (l:=h) (k:=k) (by omega);unfold Y3;dsimp only;rw[yW (yY (by omega)),Yg he,ya];unfold XO;rw[yW (by decide),ya,ZO (by omega)];have hn:=ZPE h k;have hb:e.toNat < 256:=e.toNat_lt;have hd:h.getD k 0=e:=by simp[List.getD,he]
  rw[show(2305843009213688668:yU).toNat=2305843009213688668 from rfl,ZNi _ _ hn,Qu,ZLj hn]
  have h2:jV h k / 2 ^ 56*18446744073709551616+(jV h k*256 % 18446744073709551616+e.toNat)=256*jV h k+e.toNat:=by omega
  rw[h2,show jV h (k+1)=(256*jV h k+(h.getD k 0).toNat) % 2305843009213688668 from rfl,hd]) (by
  unfold Y3;dsimp only;rw[yX (fM (by omega))]) (by omega)
 have e:Zc (Y3 yD) yD ((0:yU),h,(0:Int),h)=_:=e;rw[e,ya];rfl
theorem Qk(n:Nat):(Vg n).length=8:=rfl
def px(l:yL yB):yL yB:=Vg l.length++l
def jp(s:ByteArray)(ls:yL aOz):yL yB:=Vg s.size++fm s++cr px ls
theorem ZLk(s:ByteArray):(fm s).length=s.size:=by
 unfold fm;rw[Array.length_toList];rfl
theorem ZHg{ls:yL aOz}(h2:ls.length<=10)(h3:∀l,l∈ls->l.length<=60000)(k:Nat):(cr px (ls.take k)).length<=10*60008:=
 pr (c:=60008) (λl hl=>by have:=h3 l hl;unfold px;rw[yr,Qk];omega) h2 k
theorem nD{s:ByteArray}{ls:yL aOz}(h1:s.size<=100)(h2:ls.length<=10)(h3:∀l,l∈ls->l.length<=60000):Xk yD s ls=ab (Sha.gP (jp s ls)):=by
 unfold Xk;have hs:=ZLk s;have p1:VQ yD (s.size:Int) []=ab (Vg s.size):=ww (b:=[]) (by simp);rw[p1,ya,yW (X2 (by rw[hs,Qk];omega) (by rw[hs,Qk];omega))]
 have e:=ZT (step:=Wp yD) ls.length (λk:Nat=>(ls,(ls.length:Int),(k:Int),pu,Vg s.size++fm s++cr px (ls.take k))) (x:=(pu,jp s ls)) (by
  intro k hk;obtain⟨e,he,hm⟩:=Zu hk;have:=h3 e hm;have hc:=ZHg h2 h3 k;unfold Wp;dsimp only;rw[yW (yY (by omega)),Yg he,ya,ww (by simp only[yr,Qk,hs];omega),ya,yW (X2 (by simp only[yr,Qk,hs];omega) (by simp only[yr,Qk,hs];omega)),ZO (by omega),sW he];simp only[px,yak]) (by
  unfold Wp;dsimp only;rw[yX (by rw[YN];decide),ybd];rfl) (by omega)
 rw[show cr px (ls.take 0)=[] from rfl,ybg]at e
 have e:Zc (Wp yD) yD (ls,(ls.length:Int),(0:Int),dz,Vg s.size++fm s)=_:=e;have hc:=ZHg h2 h3 ls.length;rw[ybd]at hc;rw[e,ya,ZG6 (by show(jp s ls).length<=_;unfold jp;simp only[yr,Qk,hs];omega),ya]
theorem py(a b:Int):YB yD a b=ab (if a < b then-1 else if a > b then 1 else 0):=by
 unfold YB xc;rw[ya,ya];have e:∀z:Int,(z !=z)=ag:=λz=>by simp
 rw[e,e,yX (by decide),yX (by decide)];by_cases h1:a < b
 .rw[yW (yY h1),yW h1]
 .rw[yX (by rw[yN];exact h1),yX h1];by_cases h2:a > b
  .rw[yW (yY h2),yW h2]
  .rw[yX (by rw[yN];exact h2),yX h2]
def ii:yL Int->Int
 |[]=>0
 |z::r=>if z≠0 then z else ii r
theorem ZN7{l:yL Int}(hl:l.length<=100):sL yD l=ab (ii l):=by
 have key:∀(d k f:Nat),k+d=l.length->d < f->∃x,Zc (WI yD) f ((0:Int),l,(l.length:Int),(k:Int))=ab x/\(x=.inl (ii (l.drop k))\/x=.inr 0/\ii (l.drop k)=0):=by
  intro d
  induction d with
  |zero=>
   intro k f h hf;obtain⟨f,rfl⟩:=Nat.exists_eq_succ_of_ne_zero (n:=f) (by omega);have:k=l.length:=by omega
   subst this;unfold Zc WI;dsimp only;rw[yX (by rw[YN];decide),ya]
   exact⟨_,rfl,.inr ⟨rfl,by rw[List.drop_length];rfl⟩⟩
  |succ d ih=>
   intro k f h hf;obtain⟨f,rfl⟩:=Nat.exists_eq_succ_of_ne_zero (n:=f) (by omega);have hk:k < l.length:=by omega
   obtain⟨e,he,hm⟩:=Zu hk
   have hd:l.drop k=e::l.drop (k+1):=by
    rw[List.drop_eq_getElem_cons hk];rw[yac hk]at he;cases he;rfl
   rw[hd];unfold Zc WI;dsimp only;rw[yW (XA hk),Yg he,ya];by_cases h0:e=0
   .subst h0;rw[yX (by decide),ya,ZO (by omega)];exact ih (k+1) f (by omega) (by omega)
   .rw[yW (bne_iff_ne.2 h0),ya];exact⟨_,rfl,.inl (by unfold ii;rw[yW h0])⟩
 unfold sL;obtain⟨x,h1,h2⟩:=key l.length 0 yD (by omega) (by rw[nh];omega);rw[List.drop_zero]at h2;show Option.bind (Zc (WI yD) yD ((0:Int),l,(l.length:Int),((0:Nat):Int))) _=_;rw[h1,ya];rcases h2 with rfl|⟨rfl,h2⟩
 .rfl
 .rw[h2]
theorem xJ(p q:Prop)[Decidable p][Decidable q]{b:Bool}(h:b=ah (p/\q)):(if decide p=af then ab (decide q) else ab ag)=ab b:=by
 subst h;by_cases h1:p
 .rw[yW (yY h1)];by_cases h2:q
  .rw[yY h2,yY ⟨h1,h2⟩]
  .rw[yZ h2,yZ λh=>h2 h.2]
 .rw[yX (by rw[yN];exact h1),yZ λh=>h1 h.1]
theorem ZPG(z a b:Int):Xs yD z a b=ab (ah (a<=z/\z<=b)):=xJ _ _ rfl
def bV(t:bu):Prop:=(0<=t.1/\t.1<=65536)/\(1<=t.2.2.1/\t.2.2.1<=4096)/\(0<=t.2.2.2.1/\t.2.2.2.1<=16)/\(t.1<=t.2.1/\t.2.1<=1125899906842624)/\(1<=t.2.2.2.2.1/\t.2.2.2.2.1<=1125899906842624)/\(0<=t.2.2.2.2.2/\t.2.2.2.2.2<=1125899906842624)
instance(t:bu):Decidable (bV t):=by unfold bV;infer_instance
theorem jW{p q:Prop}[Decidable p][Decidable q][Decidable (p/\q)]{x:yO Bool}(h:x=ab (decide q)):(if decide p=af then x else ab ag)=ab (ah (p/\q)):=by
 rw[h];exact xJ p q (by congr)
theorem ZLl(t:bu):vH yD t=ab (ah (bV t)):=by
 unfold vH;simp only[ZPG,ya];exact jW (jW (jW (jW (jW rfl))))
def pts(b:bt):yL yU:=[b.1,b.2.1,b.2.2.1,b.2.2.2.1,b.2.2.2.2]
def gS(p:yU):Prop:=bn p.toNat/\p≠1
instance(p:yU):Decidable (gS p):=by unfold gS;infer_instance
def fH(b:bt):Prop:=∀p,p∈pts b->gS p
instance(b:bt):Decidable (fH b):=by unfold fH;infer_instance
theorem ZLm(p:yU):QK yD p=ab (!decide (gS p)):=by
 unfold QK;rw[Xh,ya];by_cases h:p=1
 .rw[yW (beq_iff_eq.2 h),yZ (p:=gS p) λk=>k.2 h];rfl
 .rw[yX (by rw[yT];exact h)];by_cases k:bn p.toNat
  .rw[yY k,yY (p:=gS p) ⟨k,h⟩]
  .rw[yZ k,yZ (p:=gS p) λq=>k q.1]
theorem ZIu(b:bt):vU yD b=ab (ah (fH b)):=by
 unfold vU IM IL
 obtain⟨x,h1,h2⟩:=VF (step:=Wo yD) 5 (λk s=>s=(pts b,(5:Int),(k:Int))/\∀j p,j < k->(pts b)[j]? =ab p->gS p) (λx=>(∃j:Nat,x=.inl (j:Int)/\¬fH b)\/x=.inr ()/\fH b) (i:=(pts b,((pts b).length:Int),(0:Int))) ⟨rfl,λj p hj=>by omega⟩ (by omega) (by
  rintro k _ hk ⟨rfl,hj⟩;obtain⟨p,hp,hm⟩:=Zu (l:=pts b) (k:=k) hk;unfold Wo;dsimp only;rw[yW (yY (by omega)),Yg hp,ya,ZLm,ya,ZO (by omega)];by_cases h:gS p
  .left;rw[yY h,yX (by decide)];refine⟨_,rfl,rfl,λj q hjk hq=> ?_⟩;by_cases e:j=k
   .subst e;rw[hp]at hq;cases hq;exact h
   .exact hj j q (by omega) hq
  .right;rw[yZ h,yW (by decide)];exact⟨_,rfl,.inl ⟨k,rfl,λzU=>h (zU p hm)⟩⟩) (by
  rintro _ ⟨rfl,hj⟩;unfold Wo;dsimp only;rw[yX (fM (by omega))];refine⟨_,rfl,.inr ⟨rfl,λp hp=> ?_⟩⟩;obtain⟨j,hj1,hj2⟩:=ycm hp;exact hj j p hj1 (by rw[yac hj1,hj2]))
 rw[show([b.1,b.2.1,b.2.2.1,b.2.2.2.1,b.2.2.2.2]:yL yU)=pts b from rfl,h1,ya]
 rcases h2 with⟨j,rfl,h⟩|⟨rfl,h⟩
 .dsimp only;rw[ya,ya,yY (show(j:Int) >= 0 by omega),yZ h];rfl
 .dsimp only;rw[ya,ya,yY h];rfl
structure fu(ch:Chan):Prop where
 b:ch.2.2.1.length=2
 t:ch.2.2.2.1.length=2
 a0: -9223372036854775808<=ch.2.1
 a1:ch.2.1<=9223372036854775807
 n0: -9223372036854775808<=ch.1.2
 n1:ch.1.2<=9223372036854775807
 o0: -9223372036854775808<=ch.2.2.2.2
 o1:ch.2.2.2.2<=9223372036854775807
def gF(ch:Chan):Prop:=∀i:Nat,i < 2->∀t b,ch.2.2.2.1[i]? =ab t->ch.2.2.1[i]? =ab b->bV t/\fH b
open Classical in
theorem pz{α:Type}{l:yL α}(h:l.length=2):∃a b,l=[a,b]:=by
 match l,h with
 |[a,b],_=>exact⟨a,b,rfl⟩
theorem ZLn{a:Zo}{A:Int}{b0 b1:bt}{t0 t1:bu}{op:Int}:gF (a,A,[b0,b1],[t0,t1],op)↔(bV t0/\fH b0)/\bV t1/\fH b1:=by
 constructor
 .intro h;exact⟨h 0 (by omega) t0 b0 rfl rfl,h 1 (by omega) t1 b1 rfl rfl⟩
 .rintro⟨h0,h1⟩ i hi t b ht hb
  match i,hi with
  |0,_=>cases ht;cases hb;exact h0
  |1,_=>cases ht;cases hb;exact h1
theorem ZDN(ch:Chan)(l:yL bu){k:Nat}(hk:k < 2){t:bu}{b:bt}(ht:l[k]? =ab t)(hb:ch.2.2.1[k]? =ab b):
 Vl yD (l,(k:Int),ch)=ab (if bV t/\fH b then .inl (l,((k+1:Nat):Int),ch) else .inr (.inl (1,ch))):=by
 unfold Vl;dsimp only;rw[yW (yY (by omega)),Yg ht,ya,ZLl,ya,yW (ZQ (by omega) (by omega)),ybw,hb,ya,ZIu,ya,ZO (by omega)];by_cases h1:bV t
 .rw[yY h1,yX (by decide)];by_cases h2:fH b
  .rw[yY h2,yX (by decide),yW ⟨h1,h2⟩]
  .rw[yZ h2,yW (by decide),yX λh=>h2 h.2]
 .rw[yZ h1,yW (by decide),yX λh=>h1 h.1]
theorem ZLo(ch:Chan)(l:yL bu){t0 t1:bu}{b0 b1:bt}(ht:l=[t0,t1])(hb:ch.2.2.1=[b0,b1]):
 Zc (Vl yD) yD (l,(0:Int),ch)=ab (if(bV t0/\fH b0)/\bV t1/\fH b1 then .inr ch else .inl (1,ch)):=by
 subst ht;have s0:=ZDN ch [t0,t1] (k:=0) (by omega) (t:=t0) (b:=b0) rfl (by rw[hb];rfl);have s1:=ZDN ch [t0,t1] (k:=1) (by omega) (t:=t1) (b:=b1) rfl (by rw[hb];rfl);by_cases h0:bV t0/\fH b0
 .rw[yW h0]at s0;by_cases h1:bV t1/\fH b1
  .rw[yW h1]at s1;rw[yW ⟨h0,h1⟩];refine ZT 2 (λk:Nat=>([t0,t1],(k:Int),ch)) ?_ ?_ (by omega)
   .intro k hk;rcases (show k=0\/k=1 by omega) with rfl|rfl
    .exact s0
    .exact s1
   .unfold Vl;rfl
  .rw[yX h1]at s1;rw[yX λh=>h1 h.2];exact ZT 1 (λk:Nat=>([t0,t1],(k:Int),ch)) (λk hk=>by rw[show k=0 by omega];exact s0) s1 (by omega)
 .rw[yX h0]at s0;rw[yX λh=>h0 h.1];exact ZT 0 (λk:Nat=>([t0,t1],(k:Int),ch)) (λk hk=>absurd hk (by omega)) s0 (by omega)
theorem ZDO(X:BitVec 64):(X&&& ~~~(1#64))=0#64↔X=0#64\/X=1#64:=by
 constructor
 .intro h
  have hb:∀i:Nat,1<=i->X.getLsbD i=ag:=by
   intro i hi;have:=congrArg (λy=>BitVec.getLsbD y i) h;simp only[BitVec.getLsbD_and,BitVec.getLsbD_not,BitVec.getLsbD_zero]at this;by_cases h64:i < 64
   .have h1:(1#64).getLsbD i=ag:=by
     rw[BitVec.getLsbD_one];simp;omega
    rw[h1]at this;simpa[h64] using this
   .exact BitVec.getLsbD_of_ge X i (by omega)
  cases h0:X.getLsbD 0 with
  |false=>
   left;apply BitVec.eq_of_getLsbD_eq;intro i hi
   match i with
   |0=>rw[h0];simp
   |j+1=>rw[hb (j+1) (by omega)];simp
  |true=>
   right;apply BitVec.eq_of_getLsbD_eq;intro i hi
   match i with
   |0=>rw[h0];rfl
   |j+1=>
    rw[hb (j+1) (by omega),BitVec.getLsbD_one];simp
 .rintro(rfl|rfl) <;> rfl
theorem ZyV{op:Int}(o0: -9223372036854775808<=op)(o1:op<=9223372036854775807):((bits .andNot .i64 op 1)!=0)= !decide (0<=op/\op<=1):=by
 have e:bits .andNot .i64 op 1=IntKind.i64.wrap ((yca 64 op&&& ~~~(1#64)).toNat:Int):=rfl;have hlt:=(yca 64 op&&& ~~~(1#64)).isLt
 have hw:∀n:Nat,n < 18446744073709551616->(IntKind.i64.wrap (n:Int)=0↔n=0):=by
  intro n hn;have e2:IntKind.i64.wrap (n:Int)=if(ah ((n:Int) % 18446744073709551616 >= 9223372036854775808))=af then(n:Int) % 18446744073709551616 - 18446744073709551616 else(n:Int) % 18446744073709551616:=rfl
  rw[e2];by_cases hm:(n:Int) % 18446744073709551616 >= 9223372036854775808
  .rw[yW (yY hm)];omega
  .rw[yX (by rw[yN];exact hm)];omega
 have hx:(yca 64 op&&& ~~~(1#64)).toNat=0↔0<=op/\op<=1:=by
  rw[show((yca 64 op&&& ~~~(1#64)).toNat=0↔(yca 64 op&&& ~~~(1#64))=0#64) from⟨λh=>BitVec.eq_of_toNat_eq h,λh=>by rw[h];rfl⟩,ZDO]
  have hn:(yca 64 op).toNat=(op % 18446744073709551616).toNat:=by rw[BitVec.toNat_ofInt];rfl
  constructor
  .rintro(h|h)
   .have:=congrArg BitVec.toNat h;rw[hn]at this;simp at this;omega
   .have:=congrArg BitVec.toNat h;rw[hn]at this;simp at this;omega
  .rintro⟨h0,h1⟩;rcases (show op=0\/op=1 by omega) with rfl|rfl
   .exact .inl rfl
   .exact .inr rfl
 rw[e];by_cases h:0<=op/\op<=1
 .rw[yY h,(hw _ hlt).2 (hx.2 h)];rfl
 .rw[yZ h];exact bne_iff_ne.2 λk=>h (hx.1 ((hw _ hlt).1 k))
theorem NR{ch:Chan}(w:fu ch):∃e:Int,bZ yD ch=ab e/\(e=0->(1<=ch.2.1/\ch.2.1<=1125899906842624)/\(0<=ch.1.2/\ch.1.2<=63)/\(ch.2.2.2.2=0\/ch.2.2.2.2=1)/\gF ch):=by
 obtain⟨b0,b1,hb⟩:=pz w.b;obtain⟨t0,t1,ht⟩:=pz w.t;have a0:=w.a0;have o0:=w.o0;have o1:=w.o1;obtain⟨⟨id,no⟩,A,bs,ts,op⟩:=ch;dsimp only at hb ht a0 o0 o1;subst hb;subst ht;have hop:=ZyV o0 o1;unfold bZ;dsimp only;by_cases h1:1<=A/\A<=1125899906842624
 .rw[yX (show¬ah (A < 1)=af by rw[yN];omega),yX (show¬ah (A > 1125899906842624)=af by rw[yN];omega)];by_cases h2:0<=no/\no<=63
  .rw[yX (show¬ah (no < 0)=af by rw[yN];omega),yX (show¬ah (no >= 64)=af by rw[yN];omega)];rw[hop];by_cases h3:0<=op/\op<=1
   .rw[yY h3,yX (by decide),ZLo _ _ rfl rfl,ya];by_cases h4:(bV t0/\fH b0)/\bV t1/\fH b1
    .rw[yW h4];dsimp only;obtain⟨_,_,_,q0,_⟩:=h4.1.1;obtain⟨p0,_⟩:=h4.1.1;obtain⟨_,_,_,q1,_⟩:=h4.2.1;obtain⟨p1,_⟩:=h4.2.1
     have n0:nu yD t0.2.1 t1.2.1=if t0.2.1+t1.2.1<=1125899906842624 then ab (t0.2.1+t1.2.1,af) else ab (0,ag):=by
      unfold nu sv;rw[yW (yY (show t0.2.1 >= 0 by omega)),yW (yY (show t1.2.1 >= 0 by omega)),ya,ya,yY (show t0.2.1<=1125899906842624 by omega),yY (show t1.2.1<=1125899906842624 by omega),yX (by decide),yX (by decide),Yb (z:=1125899906842624 - t1.2.1) (by omega) (by omega),Yb (z:=t0.2.1+t1.2.1) (by omega) (by omega)];by_cases h:t0.2.1+t1.2.1<=1125899906842624
      .rw[yX (fM (by omega)),yW h]
      .rw[yW (yY (by omega)),yX h]
     rw[ybb,yat,ybb,ya,ya,n0];refine⟨if t0.2.1+t1.2.1 > A then 10 else 0, ?_,λ_=>⟨h1,h2,by omega,ZLn.2 h4⟩⟩
     .by_cases h5:t0.2.1+t1.2.1<=1125899906842624
      .rw[yW h5,ya,yX (show¬(!true)=af by decide)];by_cases h6:t0.2.1+t1.2.1 > A
       .rw[yW (yY h6),yW h6]
       .rw[yX (by rw[yN];exact h6),yX h6]
      .rw[yX h5,ya,yW (show(!false)=af by decide),yW (by omega)]
    .rw[yX h4];exact⟨1,rfl,λh=>absurd h (by decide)⟩
   .rw[yZ h3,yW (by decide)];exact⟨1,rfl,λh=>absurd h (by decide)⟩
  .refine⟨1, ?_,λh=>absurd h (by decide)⟩;by_cases h:no < 0
   .rw[yW (yY h)]
   .rw[yX (by rw[yN];exact h),yW (yY (by omega))]
 .refine⟨1, ?_,λh=>absurd h (by decide)⟩;by_cases h:A < 1
  .rw[yW (yY h)]
  .rw[yX (by rw[yN];exact h),yW (yY (by omega))]
theorem ZyW{lo hi:Int}{l:yL Int}(hl:l.length<=100):Yy yD lo hi l=ab (ah (∀x,x∈l->lo<=x/\x<=hi)):=by
 unfold Yy Xe XH
 obtain⟨x,h1,h2⟩:=VF (step:=Z8 yD) l.length (λk s=>s=(l,(l.length:Int),(k:Int),lo,hi)/\∀(j:Nat)z,j < k->l[j]? =ab z->lo<=z/\z<=hi) (λx=>(∃j:Nat,x=.inl ((j:Int),lo,hi)/\¬∀z,z∈l->lo<=z/\z<=hi)\/x=.inr (lo,hi)/\∀z,z∈l->lo<=z/\z<=hi) (i:=(l,(l.length:Int),(0:Int),lo,hi)) ⟨rfl,λj z hj=>by omega⟩ (by omega) (by
  rintro k _ hk ⟨rfl,hj⟩;obtain⟨z,hz,hm⟩:=Zu hk;unfold Z8 LP;dsimp only;rw[yW (XA hk),Yg hz,ya,ZO (by omega)];by_cases h:z < lo
  .right;rw[yW (yY h),ya,yW rfl];exact⟨_,rfl,.inl ⟨k,rfl,λzU=>by have:=zU z hm;omega⟩⟩
  .rw[yX (by rw[yN];exact h),ya];by_cases h':z > hi
   .right;rw[yW (yY h')];exact⟨_,rfl,.inl ⟨k,rfl,λzU=>by have:=zU z hm;omega⟩⟩
   .left;rw[yX (by rw[yN];exact h')];refine⟨_,rfl,rfl,λj q hjk hq=> ?_⟩;by_cases e:j=k
    .subst e;rw[hz]at hq;cases hq;omega
    .exact hj j q (by omega) hq) (by
  rintro _ ⟨rfl,hj⟩;unfold Z8;dsimp only;rw[yX (by rw[YN];decide)];refine⟨_,rfl,.inr ⟨rfl,λp hp=> ?_⟩⟩;obtain⟨j,hj1,hj2⟩:=ycm hp;exact hj j p hj1 (by rw[yac hj1,hj2]))
 rw[h1,ya];rcases h2 with⟨j,rfl,h⟩|⟨rfl,h⟩
 .dsimp only;rw[ya,ya,yY (show(j:Int) >= 0 by omega),yZ h];rfl
 .dsimp only;rw[ya,ya,yY h];rfl
theorem NS(lo hi z:Int):Yy yD lo hi [z]=ab (ah (lo<=z/\z<=hi)):=by
 rw[ZyW (by simp)];exact congrArg ab (decide_eq_decide.2 (by simp))
theorem ZNj(lo hi y z:Int):Yy yD lo hi [y,z]=ab (ah ((lo<=y/\y<=hi)/\lo<=z/\z<=hi)):=by
 rw[ZyW (by simp)];exact congrArg ab (decide_eq_decide.2 (by simp))
def nE(c:Cond):Prop:=(0<=c.1/\c.1<=1)/\(1<=c.2.1/\c.2.1<=1048576)/\(1<=c.2.2.1/\c.2.2.1<=1125899906842624)/\(1<=c.2.2.2.2/\c.2.2.2.2<=1048576)/\gS c.2.2.2.1
instance(c:Cond):Decidable (nE c):=by unfold nE;infer_instance
theorem ZNk(c:Cond):xb yD c=ab (ah (nE c)):=by
 unfold xb;simp only[NS,ya,Xh];refine jW (jW (jW (jW ?_)));by_cases k:bn c.2.2.2.1.toNat
 .rw[yY k,yW rfl];by_cases h:c.2.2.2.1=1
  .rw[yZ (p:=gS c.2.2.2.1) λq=>q.2 h,h];rfl
  .rw[yY (p:=gS c.2.2.2.1) ⟨k,h⟩];exact congrArg ab (bne_iff_ne.2 h)
 .rw[yZ k,yX (by decide),yZ (p:=gS c.2.2.2.1) λq=>k q.1]
def pA(a b:Cond):Prop:=a.1 < b.1\/a.1=b.1/\a.2.1 < b.2.1
instance(a b:Cond):Decidable (pA a b):=by unfold pA;infer_instance
theorem ZLp(a b:Cond):∃v,xf yD a b=ab v/\(v >= 0↔¬pA a b):=by
 unfold xf;rw[py,py,ya,ya,ZN7 (by simp),ya];refine⟨_,rfl, ?_⟩;unfold pA;by_cases h1:a.1 < b.1
 .simp only[yW h1,ii];simp[h1]
 .by_cases h2:a.1 > b.1
  .simp only[yX h1,yW h2,ii];simp;omega
  .simp only[yX h1,yX h2,ii];by_cases h3:a.2.1 < b.2.1
   .simp only[yW h3];simp;omega
   .by_cases h4:a.2.1 > b.2.1
    .simp only[yX h3,yW h4];simp;omega
    .simp only[yX h3,yX h4];simp;omega
def NT(to:Int)(o:Int×Int)(c:Cond):Int×Int:=if c.1=wi (1 - to) then(wi (o.1+1),wi (o.2+c.2.2.1)) else o
def off(to:Int)(l:yL Cond):Int×Int:=l.foldl (NT to) (0,0)
theorem ZPI{to:Int}{l:yL Cond}{k:Nat}{c:Cond}(h:l[k]? =ab c):off to (l.take (k+1))=NT to (off to (l.take k)) c:=by
 rw[jn h,off,List.foldl_append];rfl
theorem ZFM(s:yG)(to:Int)(hl:s.2.2.1.length<=1000):xg yD s to=ab (off to s.2.2.1):=by
 unfold xg;rw[show((to,(0:Int),(0:Int),s.2.2.1,(s.2.2.1.length:Int),(0:Int),s):Int×Int×Int×yL Cond×Int×Int×yG)=(λk:Nat=>(to,(off to (s.2.2.1.take k)).1,(off to (s.2.2.1.take k)).2,s.2.2.1,(s.2.2.1.length:Int),(k:Int),s)) 0 from rfl]
 rw[ZT (x:=((off to s.2.2.1).1,(off to s.2.2.1).2,s)) s.2.2.1.length (λk:Nat=>(to,(off to (s.2.2.1.take k)).1,(off to (s.2.2.1.take k)).2,s.2.2.1,(s.2.2.1.length:Int),(k:Int),s)) ?_ ?_ (by omega),ya]
 .intro k hk;obtain⟨c,hc,hm⟩:=Zu hk;unfold VA;dsimp only;rw[yW (XA hk),Yg hc,ya,ZO (by omega),ZPI hc];unfold NT;by_cases h:c.1=wi (1 - to)
  .rw[yW (beq_iff_eq.2 h),yW h]
  .rw[yX (by rw[yT];exact h),yX h]
 .unfold VA;dsimp only;rw[yX (by rw[YN];decide),ybd]
def sY(o:Int)(c:Cond):Int:=wi (o+c.2.2.1)
def eG(z:Int)(l:yL Cond):Int:=l.foldl sY z
theorem ZPJ{z:Int}{l:yL Cond}{k:Nat}{c:Cond}(h:l[k]? =ab c):eG z (l.take (k+1))=sY (eG z (l.take k)) c:=by
 rw[jn h,eG,List.foldl_append];rfl
theorem ZLr(s:yG){a b:Int}(h2:s.2.1=[a,b])(hl:s.2.2.1.length<=1000):xh yD s=ab (eG (wi (a+b)) s.2.2.1):=by
 unfold xh;rw[h2,ybb,yat,ybb,ya,ya];rw[show((wi (a+b),s.2.2.1,(s.2.2.1.length:Int),(0:Int),s):Int×yL Cond×Int×Int×yG)=(λk:Nat=>(eG (wi (a+b)) (s.2.2.1.take k),s.2.2.1,(s.2.2.1.length:Int),(k:Int),s)) 0 from rfl]
 rw[ZT (x:=(eG (wi (a+b)) s.2.2.1,s)) s.2.2.1.length (λk:Nat=>(eG (wi (a+b)) (s.2.2.1.take k),s.2.2.1,(s.2.2.1.length:Int),(k:Int),s)) ?_ ?_ (by omega),ya]
 .intro k hk;obtain⟨c,hc,hm⟩:=Zu hk;unfold QP;dsimp only;rw[yW (XA hk),Yg hc,ya,ZO (by omega),ZPJ hc];rfl
 .unfold QP;dsimp only;rw[yX (by rw[YN];decide),ybd]
def dj(r n:Int):Int:=if 0<=r/\r<=1000 then if 0<=n/\n<=16 then r*(68+8*n) else 0 else 0
theorem ZIv{r n:Int}(h1:0<=r)(h2:r<=1000)(h3:0<=n)(h4:n<=16):wi (r*(68+8*n))=r*(68+8*n):=by
 have:=Int.mul_nonneg h1 (show 0<=68+8*n by omega);have:=Int.mul_le_mul h2 (show 68+8*n<=196 by omega) (by omega) (by omega);exact Yb (by omega) (by omega)
theorem NU(r n:Int):pg yD r n=ab (dj r n):=by
 unfold pg LU dj;by_cases h1:r < 0
 .rw[yW (yY h1),yX (show¬(0<=r/\r<=1000) by omega)]
 .rw[yX (show¬ah (r < 0)=af by rw[yN];exact h1)];by_cases h2:r > 1000
  .rw[yW (yY h2),yX (show¬(0<=r/\r<=1000) by omega)]
  .rw[yX (show¬ah (r > 1000)=af by rw[yN];exact h2),yW (show 0<=r/\r<=1000 by omega)];by_cases h3:n < 0
   .rw[yW (yY h3),yX (show¬(0<=n/\n<=16) by omega),ya,Int.mul_zero];rfl
   .rw[yX (show¬ah (n < 0)=af by rw[yN];exact h3)];by_cases h4:n > 16
    .rw[yW (yY h4),yX (show¬(0<=n/\n<=16) by omega),ya,Int.mul_zero];rfl
    .rw[yX (show¬ah (n > 16)=af by rw[yN];exact h4),yW (show 0<=n/\n<=16 by omega),ya,Yb (z:=8*n) (by omega) (by omega),Yb (z:=68+8*n) (by omega) (by omega),ZIv (by omega) (by omega) (by omega) (by omega)]
theorem ZNl(ch:Chan)(s:yG):xj yD ch s=ab (wi (dj s.2.2.2 (s.2.2.1.length:Int)+660)):=by
 unfold xj;rw[NU,ya]
def cN(n:Nat)(ok:Nat->Prop):Prop:=∀k,k < n->ok k
open Classical in
theorem ZDP{I X:Type}{step:I->yO (I⊕X)}(n:Nat)(st:Nat->I)(ok:Nat->Prop)(good bad:X)
 (h1:∀k,k < n->ok k->step (st k)=ab (.inl (st (k+1)))) (h2:∀k,k < n->¬ok k->step (st k)=ab (.inr bad)) (he:step (st n)=ab (.inr good)) (hn:n < 18446744073709551616):
 Zc step yD (st 0)=ab (if cN n ok then good else bad):=by
 obtain⟨x,e,rfl⟩:=VF (step:=step) n (λk s=>s=st k/\∀j,j < k->ok j) (λx=>x=if cN n ok then good else bad) (i:=st 0) ⟨rfl,λj h=>by omega⟩ hn (by
  rintro k _ hk ⟨rfl,hj⟩;by_cases h:ok k
  .left;refine⟨_,h1 k hk h,rfl,λj hjk=> ?_⟩;by_cases e:j=k
   .rw[e];exact h
   .exact hj j (by omega)
  .right;exact⟨_,h2 k hk h,by rw[yX λq=>h (q k hk)]⟩) (by
  rintro _ ⟨rfl,hj⟩;exact⟨_,he,by rw[yW (show cN n ok from hj)]⟩)
 exact e
def cG(ch:Chan)(l:yL Cond)(k:Nat):Prop:=∀c,l[k]? =ab c->nE c/\(∀p,0 < k->l[k - 1]? =ab p->pA p c)/\∀t,ch.2.2.2.1[(1 - c.1).toNat]? =ab t->t.2.2.2.2.1<=c.2.2.1
def dm(ch:Chan)(l:yL Cond)(k:Nat):Prop:=∀t,ch.2.2.2.1[k]? =ab t->(off (k:Int) l).1<=t.2.2.2.1/\(off (k:Int) l).2<=t.2.2.2.2.2
theorem ZFO{ch:Chan}(w:ch.2.2.2.1.length=2){c:Cond}(h:0<=c.1/\c.1<=1):wi (1 - c.1)=1 - c.1/\ba (wi (1 - c.1)) 2=af/\∃t,ch.2.2.2.1[(wi (1 - c.1)).toNat]? =ab t/\ch.2.2.2.1[(1 - c.1).toNat]? =ab t:=by
 have e:wi (1 - c.1)=1 - c.1:=Yb (by omega) (by omega);rw[e];obtain⟨t,ht,_⟩:=Zu (l:=ch.2.2.2.1) (k:=(1 - c.1).toNat) (by omega);exact⟨rfl,ZQ (by omega) (by omega),t,ht,ht⟩
theorem Zwu{ch:Chan}(w:ch.2.2.2.1.length=2)(s:yG){k:Nat}(hk:k < s.2.2.1.length)(hl:s.2.2.1.length<=16):
 (cG ch s.2.2.1 k->XI yD (s.2.2.1,(s.2.2.1.length:Int),(k:Int),ch,s)=ab (.inl (s.2.2.1,(s.2.2.1.length:Int),((k+1:Nat):Int),ch,s)))/\
 (¬cG ch s.2.2.1 k->XI yD (s.2.2.1,(s.2.2.1.length:Int),(k:Int),ch,s)=ab (.inr (.inl (ag,ch,s)))):=by
 obtain⟨c,hc,hm⟩:=Zu hk;unfold XI;dsimp only;rw[yW (XA hk)];simp only[Yg hc,ya,ZNk];rw[ZO (by omega)];by_cases hf:nE c
 .rw[yY hf,yX (show¬(!true)=af by decide)];obtain⟨e,hb,t,ht,ht'⟩:=ZFO w hf.1;simp only[yW hb];rw[ht,ya];by_cases hk0:k=0
  .subst hk0;rw[yX (show¬ah (((0:Nat):Int) > 0)=af by decide)];by_cases hd:c.2.2.1 < t.2.2.2.2.1
   .have bad:¬cG ch s.2.2.1 0:=λq=>by
     have:=(q c hc).2.2 t ht';omega
    refine⟨λq=>absurd q bad,λ_=> ?_⟩;rw[yW (yY hd)]
   .have good:cG ch s.2.2.1 0:=λc' hc'=>by
     rw[hc]at hc';cases hc';refine⟨hf,λp h0=>by omega,λt' h'=> ?_⟩;rw[ht']at h';cases h';omega
    refine⟨λ_=> ?_,λq=>absurd good q⟩;rw[yX (show¬ah (c.2.2.1 < t.2.2.2.2.1)=af by rw[yN];exact hd)]
  .obtain⟨p,hp,_⟩:=Zu (l:=s.2.2.1) (k:=k - 1) (by omega)
   have ek:wi ((k:Int) - 1)=((k - 1:Nat):Int):=by
    rw[Yb (by omega) (by omega)];omega
   rw[yW (show ah ((k:Int) > 0)=af from yY (by omega)),ek,Yg hp]
   simp only[ya];obtain⟨v,hv,hv2⟩:=ZLp p c;rw[hv];simp only[ya];by_cases ha:pA p c
   .by_cases hd:c.2.2.1 < t.2.2.2.2.1
    .have bad:¬cG ch s.2.2.1 k:=λq=>by
      have:=(q c hc).2.2 t ht';omega
     refine⟨λq=>absurd q bad,λ_=> ?_⟩;rw[yW (yY hd)]
    .have good:cG ch s.2.2.1 k:=λc' hc'=>by
      rw[hc]at hc';cases hc';refine⟨hf,λp' h0 hp'=> ?_,λt' h'=> ?_⟩
      .rw[hp]at hp';cases hp';exact ha
      .rw[ht']at h';cases h';omega
     refine⟨λ_=> ?_,λq=>absurd good q⟩;rw[yX (show¬ah (c.2.2.1 < t.2.2.2.2.1)=af by rw[yN];exact hd),yX (show¬ah (v >= 0)=af by rw[yN];exact λq=>hv2.1 q ha)]
   .have bad:¬cG ch s.2.2.1 k:=λq=>ha ((q c hc).2.1 p (by omega) hp);refine⟨λq=>absurd q bad,λ_=> ?_⟩;rw[yW (show ah (v >= 0)=af from yY (hv2.2 ha))]
    by_cases hd:c.2.2.1 < t.2.2.2.2.1
    .rw[yW (yY hd)]
    .rw[yX (show¬ah (c.2.2.1 < t.2.2.2.2.1)=af by rw[yN];exact hd)]
 .have bad:¬cG ch s.2.2.1 k:=λq=>hf (q c hc).1;refine⟨λq=>absurd q bad,λ_=> ?_⟩;rw[yZ hf,yW (show(!false)=af by decide)]
open Classical in
theorem ZFP{ch:Chan}(w:ch.2.2.2.1.length=2)(s:yG)(hl:s.2.2.1.length<=16):
 Zc (XI yD) yD (s.2.2.1,(s.2.2.1.length:Int),(0:Int),ch,s)=ab (if cN s.2.2.1.length (cG ch s.2.2.1) then .inr (ch,s) else .inl (ag,ch,s)):=by
 .refine ZDP s.2.2.1.length (λk:Nat=>(s.2.2.1,(s.2.2.1.length:Int),(k:Int),ch,s)) (cG ch s.2.2.1) _ _ (λk hk h=>((Zwu w s hk hl).1 h)) (λk hk h=>((Zwu w s hk hl).2 h)) ?_ (by omega);unfold XI;dsimp only;rw[yX (by rw[YN];decide)]
theorem Zwv{ch:Chan}(w:ch.2.2.2.1.length=2)(s:yG){k:Nat}(hk:k < 2)(hl:s.2.2.1.length<=16):
 (dm ch s.2.2.1 k->Wd yD (ch.2.2.2.1,(k:Int),ch,s)=ab (.inl (ch.2.2.2.1,((k+1:Nat):Int),ch,s)))/\
 (¬dm ch s.2.2.1 k->Wd yD (ch.2.2.2.1,(k:Int),ch,s)=ab (.inr (.inl (ag,ch,s)))):=by
 obtain⟨t,ht,_⟩:=Zu (l:=ch.2.2.2.1) (k:=k) (by omega);unfold Wd;dsimp only;rw[yW (show ah ((k:Int) < 2)=af from yY (by omega)),Yg ht,ya,ZFM s _ (by omega),ya,ZO (by omega)]
 by_cases h1:(off (k:Int) s.2.2.1).1 > t.2.2.2.1
 .have bad:¬dm ch s.2.2.1 k:=λq=>by
   have:=(q t ht).1;omega
  refine⟨λq=>absurd q bad,λ_=> ?_⟩;rw[yW (yY h1)]
 .rw[yX (show¬ah ((off (k:Int) s.2.2.1).1 > t.2.2.2.1)=af by rw[yN];exact h1)];by_cases h2:(off (k:Int) s.2.2.1).2 > t.2.2.2.2.2
  .have bad:¬dm ch s.2.2.1 k:=λq=>by
    have:=(q t ht).2;omega
   refine⟨λq=>absurd q bad,λ_=> ?_⟩;rw[yW (yY h2)]
  .have good:dm ch s.2.2.1 k:=λt' h'=>by
    rw[ht]at h';cases h';omega
   refine⟨λ_=> ?_,λq=>absurd good q⟩;rw[yX (show¬ah ((off (k:Int) s.2.2.1).2 > t.2.2.2.2.2)=af by rw[yN];exact h2)]
open Classical in
theorem ZFQ{ch:Chan}(w:ch.2.2.2.1.length=2)(s:yG)(hl:s.2.2.1.length<=16):
 Zc (Wd yD) yD (ch.2.2.2.1,(0:Int),ch,s)=ab (if cN 2 (dm ch s.2.2.1) then .inr (ch,s) else .inl (ag,ch,s)):=by
 .exact ZDP 2 (λk:Nat=>(ch.2.2.2.1,(k:Int),ch,s)) (dm ch s.2.2.1) _ _ (λk hk h=>((Zwv w s hk hl).1 h)) (λk hk h=>((Zwv w s hk hl).2 h)) rfl (by omega)
structure xK(ch:Chan)(s:yG):Prop where
 am:1<=ch.2.1/\ch.2.1<=1125899906842624
 at_:0<=ch.1.2/\ch.1.2<=63
 op:ch.2.2.2.2=0\/ch.2.2.2.2=1
 side:gF ch
 no:0<=s.1/\s.1<=1048576
 gc:∃a b,s.2.1=[a,b]/\(0<=a/\a<=1125899906842624)/\(0<=b/\b<=1125899906842624)/\eG (wi (a+b)) s.2.2.1=ch.2.1/\(ch.2.2.2.2=0->a >= wi (dj s.2.2.2 (s.2.2.1.length:Int)+660))/\(ch.2.2.2.2=1->b >= wi (dj s.2.2.2 (s.2.2.1.length:Int)+660))
 rate:0<=s.2.2.2/\s.2.2.2<=1000
 len:s.2.2.1.length<=16
 conds:∀k,k < s.2.2.1.length->cG ch s.2.2.1 k
 sides:∀k,k < 2->dm ch s.2.2.1 k
theorem ZDQ{ch:Chan}(w:fu ch){s:yG}(hw:s.2.1.length=2):∃b:Bool,Qg yD ch s=ab b/\(b=af->xK ch s):=by
 obtain⟨e,f1,f3⟩:=NR w;obtain⟨a,b,hs⟩:=pz hw;unfold Qg;rw[f1,ya];by_cases he:e=0
 .subst he;obtain⟨q1,q2,q3,q4⟩:=f3 rfl;rw[yX (show¬(((0:Int)!=0)=af) by decide),NS,ya,hs];by_cases h1:0<=s.1/\s.1<=1048576
  .rw[yY h1,yX (show¬(!true)=af by decide),ybb,yat,ybb];simp only[ya,ZNj,NS];by_cases h2:0<=a/\a<=1125899906842624
   .by_cases h3:0<=b/\b<=1125899906842624
    .rw[yY (p:=(0<=a/\a<=1125899906842624)/\0<=b/\b<=1125899906842624) ⟨h2,h3⟩];rw[yX (show¬(!true)=af by decide)];by_cases h4:0<=s.2.2.2/\s.2.2.2<=1000
     .rw[yY h4,yX (show¬(!true)=af by decide)];by_cases h5:s.2.2.1.length<=16
      .have h5':¬ah ((s.2.2.1.length:Int) > 16)=af:=by rw[yN];omega
       rw[yX h5',ZFP w.t s h5,ya];by_cases h6:cN s.2.2.1.length (cG ch s.2.2.1)
       .rw[yW h6];dsimp only;rw[ZFQ w.t s h5,ya];by_cases h7:cN 2 (dm ch s.2.2.1)
        .rw[yW h7];dsimp only;rw[ZLr s hs (by omega),ya];by_cases h8:eG (wi (a+b)) s.2.2.1=ch.2.1
         .rw[yW (beq_iff_eq.2 h8),hs,ZNl];rcases q3 with q|q
          .rw[q,yW (by decide)];refine⟨ah (a >= wi (dj s.2.2.2 (s.2.2.1.length:Int)+660)),rfl,λh=>⟨q1,q2,.inl q,q4,h1,⟨a,b,hs,h2,h3,h8,λ_=>yF h,λh=> ?_⟩,h4,h5,h6,h7⟩⟩;rw[q]at h;exact absurd h (by decide)
          .rw[q,yW (by decide)];refine⟨ah (b >= wi (dj s.2.2.2 (s.2.2.1.length:Int)+660)),rfl,λh=>⟨q1,q2,.inr q,q4,h1,⟨a,b,hs,h2,h3,h8,λh=> ?_,λ_=>yF h⟩,h4,h5,h6,h7⟩⟩;rw[q]at h;exact absurd h (by decide)
         .have h8':¬(eG (wi (a+b)) s.2.2.1==ch.2.1)=af:=by rw[yT];exact h8
          rw[yX h8'];exact⟨ag,rfl,λh=>absurd h (by decide)⟩
        .rw[yX h7];exact⟨ag,rfl,λh=>absurd h (by decide)⟩
       .rw[yX h6];exact⟨ag,rfl,λh=>absurd h (by decide)⟩
      .have h5':ah ((s.2.2.1.length:Int) > 16)=af:=yY (by omega);rw[yW h5'];exact⟨ag,rfl,λh=>absurd h (by decide)⟩
     .rw[yZ h4];exact⟨ag,rfl,λh=>absurd h (by decide)⟩
    .rw[yZ (p:=(0<=a/\a<=1125899906842624)/\0<=b/\b<=1125899906842624) λq=>h3 q.2];exact⟨ag,rfl,λh=>absurd h (by decide)⟩
   .rw[yZ (p:=(0<=a/\a<=1125899906842624)/\0<=b/\b<=1125899906842624) λq=>h2 q.1];exact⟨ag,rfl,λh=>absurd h (by decide)⟩
  .rw[yZ h1];exact⟨ag,rfl,λh=>absurd h (by decide)⟩
 .have he':(e !=0)=af:=bne_iff_ne.2 he;rw[yW he'];exact⟨ag,rfl,λh=>absurd h (by decide)⟩
theorem ZLs(n:yU){k:Nat}(hk:k < 8):(Vg n.toNat)[k]? =ab (w8 ((ZG n (56 - 8*k)).toNat:Int)):=by
 have h:∀m:Nat,w8 ((ZG n m).toNat:Int)=ybh (n.toNat / 2 ^ m % 256):=by
  intro m;unfold w8 ZG;rw[ybj,yap (Nat.lt_of_le_of_lt (Nat.div_le_self _ _) (ycc n))];congr 1
 rw[h]
 match k,hk with
 |0,_=>rfl
 |1,_=>rfl
 |2,_=>rfl
 |3,_=>rfl
 |4,_=>rfl
 |5,_=>rfl
 |6,_=>rfl
 |7,_=>
  show ab (ybh (n.toNat % 256))=ab (ybh (n.toNat / 2 ^ 0 % 256));rw[Nat.pow_zero,Nat.div_one]
theorem ZIw(p:yU):xk yD p=ab (Vg p.toNat):=by
 unfold xk
 have e:=ZT (step:=WJ yD) 8 (λk:Nat=>(p,(k:Int),jo (Vg p.toNat) 8 k)) (x:=Vg p.toNat) (by
  intro k hk;have hb:(Vg p.toNat)[k]? =_:=ZLs p hk;have hl:(Vg p.toNat).length=8:=rfl;unfold WJ;dsimp only;have q1:min (56 - 8*(k:Int)).toNat 64=56 - 8*k:=by omega
  rw[yW (yY (by omega)),Yb (z:=8*(k:Int)) (by omega) (by omega),Yb (z:=56 - 8*(k:Int)) (by omega) (by omega),yW (yY (by omega)),yW (ZQ (by omega) (by omega)),ybw,NK (by omega) (by omega),ya,ZO (by omega),q1,NL hb (by omega)]) (by
  unfold WJ;dsimp only;rw[yX (fM (by omega)),NM (n:=8) (Qk _)]) (by omega)
 have e:Zc (WJ yD) yD (p,(0:Int),([0,0,0,0,0,0,0,0]:yL yB))=_:=e;rw[e,ya];rfl
noncomputable def xL(s:ByteArray)(a b:yU):yU:=NQ (Sha.gP (jp s [Vg a.toNat,Vg b.toNat]))
theorem ZNn(a b:yU):∀l,l∈[Vg a.toNat,Vg b.toNat]->l.length<=60000:=by
 intro l hl;simp only[yaw,ycd,or_false]at hl;rcases hl with rfl|rfl
 .exact ybx (Nat.le_of_eq (Qk _)) (by decide)
 .exact ybx (Nat.le_of_eq (Qk _)) (by decide)
theorem NV{s:ByteArray}(hs:s.size<=100)(a b:yU):Qh yD s [a,b]=ab (xL s a b):=by
 unfold Qh
 have e:=ZT (step:=We yD) 2 (λk:Nat=>(s,[a,b],(2:Int),(k:Int),[Vg a.toNat,Vg b.toNat].take k)) (x:=(s,[Vg a.toNat,Vg b.toNat])) (by
  intro k hk;obtain⟨p,hp,_⟩:=Zu (l:=[a,b]) (k:=k) (by simp;omega)
  have hq:[Vg a.toNat,Vg b.toNat][k]? =ab (Vg p.toNat):=by
   rcases (show k=0\/k=1 by omega) with rfl|rfl
   .cases hp;rfl
   .cases hp;rfl
  have hl:([Vg a.toNat,Vg b.toNat].take k).length<=2:=by rw[yae];exact Nat.min_le_right _ _
  unfold We;dsimp only;rw[yW (yY (by omega)),Yg hp,ya,ZIw,ya,yW (X2 (by omega) (by omega)),ZO (by omega),List.take_add_one,hq];rfl) (by
  unfold We;dsimp only;rw[yX (fM (by omega))];rfl) (by omega)
 have e:Zc (We yD) yD (s,[a,b],(([a,b]:yL yU).length:Int),(0:Int),([]:yL aOz))=_:=e;rw[e,ya];dsimp only;rw[nD hs (by simp) (ZNn a b),ya,ZHf (Sha.lM _),ya];rfl
noncomputable def dp(a p:yU):yU:=ad a (B (xL ZK1 p a).toNat)
noncomputable def fv(a p:yU):yU:=ad (sc a (xL xl a p).toNat) (sc p (xL xl p a).toNat)
theorem ZPK(a p:yU):ph yD a p=ab (dp a p):=by
 unfold ph;rw[NV (by decide),ya,QQ,ya,NG,ya];rfl
theorem ZIx(a p:yU):xm yD a p=ab (fv a p):=by
 unfold xm;rw[NV (by decide),ya,pq,ya,NV (by decide),ya,pq,ya,NG,ya];rfl
theorem NW(a p:yU):bn (dp a p).toNat:=ZN6 _ _
theorem ZHh(a p:yU):bn (fv a p).toNat:=ZN6 _ _
theorem ZIy{l:yL yU}(hl:l.length<=9223372036854775807):∃b,Vn yD l=ab b/\(b=ag->∀p,p∈l->bn p.toNat):=by
 unfold Vn Vz
 obtain⟨x,h1,h2⟩:=VF (step:=Yw yD) l.length (λk s=>s=(l,(l.length:Int),(k:Int))/\∀j p,j < k->l[j]? =ab p->bn p.toNat) (λx=>(∃k:Nat,x=.inl (k:Int))\/x=.inr ()/\∀p,p∈l->bn p.toNat) (i:=(l,(l.length:Int),(0:Int))) ⟨rfl,λj p hj=>by omega⟩ (by omega) (by
  rintro k _ hk ⟨rfl,hj⟩;obtain⟨e,he,_⟩:=Zu hk;unfold Yw;dsimp only;rw[yW (XA hk),Yg he,ya,NN,ya,ZO (by omega)];by_cases hp:bn e.toNat
  .rw[yY hp];left;refine⟨_,rfl,rfl,λj p h3 h4=> ?_⟩;by_cases h5:j < k
   .exact hj j p h5 h4
   .have:j=k:=by omega
    subst this;rw[he]at h4;cases h4;exact hp
  .rw[yZ hp];right;exact⟨_,rfl,.inl ⟨k,rfl⟩⟩) (by
  rintro _ ⟨rfl,hj⟩;unfold Yw;dsimp only;rw[yX (by rw[YN];decide)];refine⟨_,rfl,.inr ⟨rfl,λp hp=> ?_⟩⟩;obtain⟨j,hj1,hj2⟩:=ycm hp;exact hj j p hj1 (by rw[yac hj1,hj2]))
 rw[h1,ya];rcases h2 with⟨k,rfl⟩|⟨rfl,h2⟩
 .dsimp only;rw[ya];refine⟨_,rfl,λh=> ?_⟩;exact absurd (of_decide_eq_false h) (by omega)
 .exact⟨_,rfl,λ_=>h2⟩
def dJ(l:Y9):Prop:=l.length<=9223372036854775807/\∀b,b∈l->b.1.length<=9223372036854775807
theorem Zsu(z:Int):∃b,W4 yD z=ab b/\(b=af->0<=z/\z<=1048576):=by
 unfold W4;by_cases h:z >= 0
 .rw[yW (yY h)];exact⟨_,rfl,λh2=>⟨h,yF h2⟩⟩
 .rw[yX (by rw[yN];exact h)];exact⟨_,rfl,λh2=>by cases h2⟩
theorem NX{l:Y9}(hl:dJ l):∃b,Xc yD l=ab b/\(b=af↔V4 l/\ig l):=by
 have key:∃b,Xc yD l=ab b/\(b=af->V4 l/\ig l):=by
  unfold Xc;obtain⟨h0,h1⟩:=hl
  obtain⟨x,hx,hp⟩:=VF (step:=X4 yD) l.length (λk s=>s=(l,(l.length:Int),(k:Int),l)/\∀j b,j < k->l[j]? =ab b->sT b/\sU b)
   (λx=>x=.inl (ag,l)\/(x=.inr l/\∀b,b∈l->sT b/\sU b)) (i:=(l,(l.length:Int),(0:Int),l)) ⟨rfl,λj b hj=>by omega⟩ (by omega) (by
   rintro k _ hk ⟨rfl,hj⟩;obtain⟨e,he,hm⟩:=Zu hk
   have hnext:(sT e/\sU e)->∀j b,j < k+1->l[j]? =ab b->sT b/\sU b:=by
    intro hE j b h2 h3;by_cases h4:j < k
    .exact hj j b h4 h3
    .have:j=k:=by omega
     subst this;rw[he]at h3;cases h3;exact hE
   unfold X4;dsimp only;rw[yW (XA hk),Yg he,ya];by_cases k1:(e.1.length:Int) > 12
   .right;rw[yW (yY k1)];exact⟨_,rfl,.inl rfl⟩
   rw[yX (by rw[yN];exact k1)];obtain⟨b,hb,hbp⟩:=ZIy (h1 e hm);rw[hb,ya]
   cases b with
   |true=>right;exact⟨_,rfl,.inl rfl⟩
   |false=>
    obtain⟨c,hc,hc2⟩:=Zsu e.2.1;obtain⟨d,hd,hd2⟩:=Zsu e.2.2.1;rw[yX (by decide),hc,ya,hd,ya]
    cases c with
    |false=>right;exact⟨_,rfl,.inl rfl⟩
    |true=>
     cases d with
     |false=>right;exact⟨_,rfl,.inl rfl⟩
     |true=>
      have hn:=λhz:e.2.2.2≠0->bn e.2.2.2.toNat=>hnext ⟨⟨by omega,(hc2 rfl).1,(hc2 rfl).2,(hd2 rfl).1,(hd2 rfl).2⟩,hbp rfl,hz⟩;rw[yX (by decide),yX (by decide),ZO (by omega)];by_cases hz:e.2.2.2=0
      .rw[yX (by rw[hz];decide)];left;exact⟨_,rfl,rfl,hn λh=>absurd hz h⟩
      .rw[yW (by simp[hz]),NN,ya];by_cases hpt:bn e.2.2.2.toNat
       .rw[yY hpt];left;exact⟨_,rfl,rfl,hn λ_=>hpt⟩
       .rw[yZ hpt];right;exact⟨_,rfl,.inl rfl⟩) (by
   rintro _ ⟨rfl,hj⟩;unfold X4;dsimp only;rw[yX (by rw[YN];decide)];refine⟨_,rfl,.inr ⟨rfl,λb hb=> ?_⟩⟩;obtain⟨j,hj1,hj2⟩:=ycm hb;exact hj j b hj1 (by rw[yac hj1,hj2]))
  rw[hx,ya];rcases hp with rfl|⟨rfl,hp⟩
  .exact⟨_,rfl,λh=>by cases h⟩
  .dsimp only;by_cases h2:(l.length:Int) > 0
   .rw[yW (yY h2)];refine⟨_,rfl,λh3=>⟨⟨by omega, ?_,λb hb=>(hp b hb).1⟩,λb hb=>(hp b hb).2⟩⟩;have:=yF h3;omega
   .rw[yX (by rw[yN];exact h2)];exact⟨_,rfl,λh=>by cases h⟩
 obtain⟨b,h1,h2⟩:=key;refine⟨b,h1,h2,λh=> ?_⟩;rw[Zwp h.1 h.2]at h1;exact(Option.some.inj h1).symm
open Classical in
noncomputable def sZ(l:Y9):yL yB:=if V4 l/\ig l then Sha.gP (jp ZK2 [kR l]) else pu
theorem ZDR(l:Y9):(sZ l).length=32:=by
 unfold sZ;by_cases h:V4 l/\ig l
 .rw[yW h];exact Sha.lM _
 .rw[yX h];rfl
theorem ZLu{l:Y9}(h:V4 l):∀x,x∈[kR l]->x.length<=60000:=λx hx=>by
 have:=NP h;rw[List.mem_singleton.1 hx];omega
theorem ZNo{l:Y9}(hl:dJ l):xo yD l=ab (sZ l):=by
 obtain⟨b,b1,b2⟩:=NX hl;unfold xo sZ;rw[b1,ya];by_cases h:V4 l/\ig l
 .rw[b2.2 h,yX (show¬(!true)=af by decide),yW h,Zwr h.1 h.2,ya,nD (by decide) (by simp) (ZLu h.1),ya]
 .have:b=ag:=by
   cases b with
   |true=>exact absurd (b2.1 rfl) h
   |false=>rfl
  rw[this,yW (show(!false)=af by decide),yX h];rfl
abbrev ZhV:Type:=Out×fr
def WA:yL Int->yL Int->Bool
 |a::l,b::r=>ah (a < b) || (ah (a=b)&&WA l r)
 |_,_=>ag
theorem Vp{a b:Int}{l r:yL Int}:WA (a::l) (b::r)=af↔a < b\/a=b/\WA l r=af:=by
 simp[WA]
theorem Zsv:∀l,WA l l=ag
 |[]=>rfl
 |a::l=>by
  have ih:=Zsv l
  cases h:WA (a::l) (a::l) with
  |false=>rfl
  |true=>
   rcases Vp.1 h with h|h
   .omega
   .rw[ih]at h;cases h.2
theorem xM:∀{a b c:yL Int},WA a b=af->WA b c=af->WA a c=af
 |[],_,_,h,_=>by cases h
 |_::_,[],_,h,_=>by cases h
 |_::_,_::_,[],_,h=>by cases h
 |x::a,y::b,z::c,h1,h2=>by
  rw[Vp]at h1 h2 ⊢;rcases h1 with h1|⟨h1,h3⟩
  .rcases h2 with h2|⟨h2,_⟩
   .exact .inl (by omega)
   .exact .inl (by omega)
  .rcases h2 with h2|⟨h2,h4⟩
   .exact .inl (by omega)
   .exact .inr ⟨by omega,xM h3 h4⟩
theorem ZDS:∀{a b:yL Int},a.length=b.length->WA a b=ag->WA b a=ag->a=b
 |[],[],_,_,_=>rfl
 |[],_::_,h,_,_=>by cases h
 |_::_,[],h,_,_=>by cases h
 |x::a,y::b,h,h1,h2=>by
  have n1:¬(WA (x::a) (y::b)=af):=by rw[h1];decide
  have n2:¬(WA (y::b) (x::a)=af):=by rw[h2];decide
  rw[Vp]at n1 n2;have e:x=y:=by omega
  subst e
  rw[ZDS (a:=a) (b:=b) (by simpa using h) (by
   cases k:WA a b with
   |false=>rfl
   |true=>exact absurd (.inr ⟨rfl,k⟩) n1) (by
   cases k:WA b a with
   |false=>rfl
   |true=>exact absurd (.inr ⟨rfl,k⟩) n2)]
theorem ZDT:∀{u v r s:yL Int},u.length=v.length->(WA (u++r) (v++s)=af↔WA u v=af\/u=v/\WA r s=af)
 |[],[],r,s,_=>by simp[WA]
 |[],_::_,_,_,h=>by cases h
 |_::_,[],_,_,h=>by cases h
 |x::u,y::v,r,s,h=>by
  rw[List.cons_append,List.cons_append,Vp,Vp,ZDT (u:=u) (v:=v) (by simpa using h)];constructor
  .rintro(h|⟨h,h2|⟨h2,h3⟩⟩)
   .exact .inl (.inl h)
   .exact .inl (.inr ⟨h,h2⟩)
   .exact .inr ⟨by rw[h,h2],h3⟩
  .rintro((h|⟨h,h2⟩)|⟨h,h3⟩)
   .exact .inl h
   .exact .inr ⟨h,.inl h2⟩
   .cases h;exact .inr ⟨rfl,.inr ⟨rfl,h3⟩⟩
theorem ZIz{a b:yL Int}(h:WA a b=af):WA b a=ag:=by
 cases k:WA b a with
 |false=>rfl
 |true=>
  have:=xM h k;rw[Zsv]at this;cases this
def Ql{α:Type}(key:α->yL Int)(x:α):yL α->yL α
 |[]=>[x]
 |e::r=>if WA (key x) (key e)=af then x::e::r else e::Ql key x r
def nF{α:Type}(key:α->yL Int)(l:yL α):Prop:=l.Pairwise λa b=>WA (key b) (key a)=ag
theorem ZDU{α:Type}{key:α->yL Int}{x y:α}(h:WA (key x) (key y)=af):∀P:yL α,Ql key x (P++[y])=Ql key x P++[y]
 |[]=>by simp[Ql,h]
 |e::r=>by
  have ih:=ZDU h r;by_cases k:WA (key x) (key e)=af
  .simp[Ql,k]
  .simp[Ql,k,ih]
theorem ZHi{α:Type}{key:α->yL Int}{x:α}:∀P:yL α,(∀e,e∈P->WA (key x) (key e)=ag)->Ql key x P=P++[x]
 |[],_=>rfl
 |e::r,h=>by
  have ih:=ZHi r λa ha=>h a (yas _ ha);have k:=h e (yao);simp[Ql,k,ih]
theorem NY{α:Type}{key:α->yL Int}{x y:α}:∀{l:yL α},y∈Ql key x l↔y=x\/y∈l
 |[]=>by simp[Ql]
 |e::r=>by
  have ih:=NY (key:=key) (x:=x) (y:=y) (l:=r);by_cases k:WA (key x) (key e)=af
  .simp[Ql,k]
  .rw[show Ql key x (e::r)=e::Ql key x r by simp[Ql,k],yaw,yaw,ih];constructor
   .rintro(h|h|h)
    .exact .inr (.inl h)
    .exact .inl h
    .exact .inr (.inr h)
   .rintro(h|h|h)
    .exact .inr (.inl h)
    .exact .inl h
    .exact .inr (.inr h)
theorem ZDV{α:Type}{key:α->yL Int}{x:α}:∀l:yL α,(Ql key x l).length=l.length+1
 |[]=>rfl
 |e::r=>by
  have ih:=ZDV (key:=key) (x:=x) r;by_cases k:WA (key x) (key e)=af
  .simp[Ql,k]
  .simp[Ql,k,ih]
theorem ZDW{α:Type}{key:α->yL Int}{x:α}:∀{l:yL α},nF key l->nF key (Ql key x l)
 |[],_=>List.pairwise_singleton _ _
 |e::r,h=>by
  have h':=List.pairwise_cons.1 h;by_cases k:WA (key x) (key e)=af
  .rw[show Ql key x (e::r)=x::e::r by simp[Ql,k]];refine List.pairwise_cons.2 ⟨λb hb=> ?_,h⟩;rcases yaw.1 hb with rfl|hb
   .exact ZIz k
   .cases q:WA (key b) (key x) with
    |false=>rfl
    |true=>
     have:=xM q k;rw[h'.1 b hb]at this;cases this
  .rw[show Ql key x (e::r)=e::Ql key x r by simp[Ql,k]];refine List.pairwise_cons.2 ⟨λb hb=> ?_,ZDW h'.2⟩;rcases NY.1 hb with rfl|hb
   .simpa using k
   .exact h'.1 b hb
def eu{α:Type}(key:α->yL Int)(l:yL α):yL α:=l.foldl (λacc x=>Ql key x acc) []
theorem ZIA{α:Type}{key:α->yL Int}(l:yL α)(x:α):eu key (l++[x])=Ql key x (eu key l):=by
 unfold eu;rw[List.foldl_append];rfl
theorem ZLv{α:Type}{key:α->yL Int}(l:yL α):nF key (eu key l):=by
 unfold eu
 have h:∀(l acc:yL α),nF key acc->nF key (l.foldl (λacc x=>Ql key x acc) acc):=by
  intro l
  induction l with
  |nil=>exact λ_ h=>h
  |cons e r ih=>exact λacc h=>ih _ (ZDW h)
 exact h l [] List.Pairwise.nil
theorem NZ{α:Type}{key:α->yL Int}(l:yL α):(eu key l).length=l.length:=by
 unfold eu
 have h:∀(l acc:yL α),(l.foldl (λacc x=>Ql key x acc) acc).length=acc.length+l.length:=by
  intro l
  induction l with
  |nil=>exact λ_=>rfl
  |cons e r ih=>
   intro acc;rw[List.foldl_cons,ih,ZDV,yah];omega
 rw[h l []];simp
theorem ZLw{α:Type}{key:α->yL Int}{y:α}(l:yL α):y∈eu key l↔y∈l:=by
 unfold eu
 have h:∀(l acc:yL α),(y∈l.foldl (λacc x=>Ql key x acc) acc↔y∈acc\/y∈l):=by
  intro l
  induction l with
  |nil=>exact λ_=>by simp
  |cons e r ih=>
   intro acc;rw[List.foldl_cons,ih,NY,yaw];constructor
   .rintro((h|h)|h)
    .exact .inr (.inl h)
    .exact .inl h
    .exact .inr (.inr h)
   .rintro(h|h|h)
    .exact .inl (.inr h)
    .exact .inl (.inl h)
    .exact .inr h
 rw[h l []];simp
theorem ZLx{α:Type}{key:α->yL Int}{n:Nat}{x y:α}{P:yL α}(hk:∀e,e∈x::(P++[y])->(key e).length=n)(hs:nF key (P++[y]))(h:WA (key x) (key y)=ag):Ql key x (P++[y])=P++[y]++[x]:=by
 refine ZHi _ λe he=> ?_
 cases q:WA (key x) (key e) with
 |false=>rfl
 |true=>
  rcases ybs.1 he with h1|h1
  .have h2:WA (key y) (key e)=ag:=(List.pairwise_append.1 hs).2.2 e h1 y (by simp)
   cases q2:WA (key y) (key x) with
   |true=>
    rw[xM q2 q]at h2
    cases h2
   |false=>
    have:=ZDS (by rw[hk x (by simp),hk y (by simp)]) h q2;rw[<-this,q]at h2;cases h2
  .rw[List.mem_singleton.1 h1,h]at q;cases q
def bm(x:yL yB):yL Int:=x.map λb=>(b.toNat:Int)
theorem ZLy(x:yL yB):(bm x).length=x.length:=yx _
def Q5(x:Zf):yL Int:=x.1.1::(bm x.2.2++[x.2.1.1,x.2.1.2.1,x.2.1.2.2.1])
theorem ZLz{x:Zf}(h:x.2.2.length=32):(Q5 x).length=36:=by
 simp[Q5,bm,h]
theorem ZPL{a a' d d' f f' i i':Int}{u v:yL Int}(h:u.length=v.length):WA (a::(u++[d,f,i])) (a'::(v++[d',f',i']))=af↔a < a'\/a=a'/\(WA u v=af\/u=v/\(d < d'\/d=d'/\(f < f'\/f=f'/\i < i'))):=by
 rw[Vp,ZDT h,Vp,Vp,Vp];have:¬(WA [] []=af):=by decide
 simp[this]
theorem ZyY:∀{x y:yL yB},x.length=y.length->(Go.Lib.compareBytes x y < 0↔WA (bm x) (bm y)=af)/\(Go.Lib.compareBytes x y=0↔bm x=bm y)
 |[],[],_=>by simp[Go.Lib.compareBytes,bm,WA]
 |[],_::_,h=>by cases h
 |_::_,[],h=>by cases h
 |a::x,b::y,h=>by
  have ih:=ZyY (x:=x) (y:=y) (by simpa using h);have e1:bm (a::x)=(a.toNat:Int)::bm x:=rfl;have e2:bm (b::y)=(b.toNat:Int)::bm y:=rfl;rw[e1,e2,Vp,List.cons.injEq];unfold Go.Lib.compareBytes;by_cases h1:a < b
  .have h1':=UInt8.lt_iff_toNat_lt.1 h1;rw[yW h1];exact⟨⟨λ_=>.inl (by omega),λ_=>by decide⟩,⟨λh=>absurd h (by decide),λh=>by omega⟩⟩
  .have h1':¬a.toNat < b.toNat:=λq=>h1 (UInt8.lt_iff_toNat_lt.2 q);rw[yX h1];by_cases h2:b < a
   .have h2':=UInt8.lt_iff_toNat_lt.1 h2;rw[yW h2];exact⟨⟨λh=>absurd h (by decide),λh=>by omega⟩,⟨λh=>absurd h (by decide),λh=>by omega⟩⟩
   .have h2':¬b.toNat < a.toNat:=λq=>h2 (UInt8.lt_iff_toNat_lt.2 q);rw[yX h2];have e:a.toNat=b.toNat:=by omega
    refine⟨⟨λh=>.inr ⟨by omega,ih.1.1 h⟩,λh=> ?_⟩,⟨λh=>⟨by omega,ih.2.1 h⟩,λh=>ih.2.2 h.2⟩⟩;rcases h with h|h
    .omega
    .exact ih.1.2 h.2
theorem ta{c:Int}{r:yL Int}:ii (c::r) < 0↔c < 0\/c=0/\ii r < 0:=by
 rw[show ii (c::r)=if c≠0 then c else ii r from rfl]
 by_cases h:c=0
 .rw[yX (by simp[h])];constructor
  .exact λq=>.inr ⟨h,q⟩
  .rintro(q|q)
   .omega
   .exact q.2
 .rw[yW h];constructor
  .exact λq=>.inl q
  .rintro(q|q)
   .exact q
   .exact absurd q.1 h
theorem xN{a b:Int}:(if a < b then(-1:Int) else if a > b then 1 else 0) < 0↔a < b:=by
 by_cases h:a < b
 .rw[yW h];exact⟨λ_=>h,λ_=>by decide⟩
 .rw[yX h];by_cases h2:a > b
  .rw[yW h2];exact⟨λq=>absurd q (by decide),λq=>absurd q h⟩
  .rw[yX h2];exact⟨λq=>absurd q (by decide),λq=>absurd q h⟩
theorem xO{a b:Int}:(if a < b then(-1:Int) else if a > b then 1 else 0)=0↔a=b:=by
 by_cases h:a < b
 .rw[yW h];exact⟨λq=>absurd q (by decide),λq=>by omega⟩
 .rw[yX h];by_cases h2:a > b
  .rw[yW h2];exact⟨λq=>absurd q (by decide),λq=>by omega⟩
  .rw[yX h2];exact⟨λ_=>by omega,λ_=>rfl⟩
theorem ZNp{a b:Zf}(ha:a.2.2.length=32)(hb:b.2.2.length=32):∃z,xn yD a b=ab z/\(z < 0↔WA (Q5 a) (Q5 b)=af):=by
 unfold xn MG;rw[py,ya,ya,py,ya,py,ya,py,ya,ZN7 (by simp),ya];refine⟨_,rfl, ?_⟩;obtain⟨c1,c2⟩:=ZyY (x:=a.2.2) (y:=b.2.2) (by omega);unfold Q5;rw[ZPL (by rw[ZLy,ZLy];omega),ta,ta,ta,ta,ta,xN,xN,xN,xN,xO,xO,xO,xO,c1,c2];have:¬(ii [] < 0):=by decide
 simp only[this,and_false,or_false]
theorem ZLA(n:Int)(i:Nat):∀(P:yL Zf)(f:Nat)(u:yL Unit)(x:Zf)(Q:yL Zf),P.length < f->P.length+Q.length+1<=100->(∀e,e∈P++x::Q->e.2.2.length=32)->nF Q5 P->
 Zc (Y8 yD) f ((0:Int),n,(i:Int),(P.length:Int),u,P++x::Q)=ab ((0:Int),n,(i:Int),u,Ql Q5 x P++Q):=by
 intro P
 induction h:P.length generalizing P with
 |zero=>
  intro f u x Q hf hl hk hs;have:P=[]:=List.eq_nil_of_length_eq_zero h;subst this;obtain⟨f,rfl⟩:=Nat.exists_eq_succ_of_ne_zero (n:=f) (by omega);unfold Zc Y8;dsimp only;rw[yX (fM (by omega)),ya]
  rfl
 |succ j ih=>
  intro f u x Q hf hl hk hs;obtain⟨f,rfl⟩:=Nat.exists_eq_succ_of_ne_zero (n:=f) (by omega)
  obtain⟨P',y,rfl⟩:∃P' y,P=P'++[y]:=by
   have hne:P≠[]:=λe=>by rw[e]at h;cases h
   exact⟨P.dropLast,P.getLast hne,(List.dropLast_concat_getLast hne).symm⟩
  have hj:P'.length=j:=by simpa using h
  have el:P'++[y]++x::Q=P'++y::x::Q:=by simp
  have hx:(P'++y::x::Q)[j+1]? =ab x:=by
   rw[yam (by omega),show j+1 - P'.length=1 by omega];rfl
  have hy:(P'++y::x::Q)[j]? =ab y:=by
   rw[yam (by omega),show j - P'.length=0 by omega];rfl
  have zW:(P'++y::x::Q).length=j+2+Q.length:=by simp;omega
  have hset:(P'++y::x::Q).set (j+1) y=P'++y::y::Q:=by
   rw[List.set_append_right _ _ (by omega),show j+1 - P'.length=1 by omega];rfl
  have hset2:(P'++y::y::Q).set j x=P'++x::y::Q:=by
   rw[List.set_append_right _ _ (by omega),show j - P'.length=0 by omega];rfl
  have hw:(P'++y::y::Q)[j]? =ab y:=by
   rw[yam (by omega),show j - P'.length=0 by omega];rfl
  have hlen2:(P'++y::y::Q).length=j+2+Q.length:=by simp;omega
  have e1:wi (((j+1:Nat):Int) - 1)=(j:Int):=by rw[Yb (by omega) (by omega)];omega
  obtain⟨z,z1,z2⟩:=ZNp (hk x (by simp)) (hk y (by simp));rw[el]
  have hstep:Y8 yD ((0:Int),n,(i:Int),((j+1:Nat):Int),u,P'++y::x::Q)=if z < 0 then ab (.inl ((0:Int),n,(i:Int),(j:Int),u,P'++x::y::Q)) else ab (.inr ((0:Int),n,(i:Int),u,P'++y::x::Q)):=by
   unfold Y8;dsimp only;rw[yW (yY (by omega)),e1,yW (ZQ (by omega) (by omega)),ybw,ybw,hx,ya,yW (ZQ (by omega) (by omega)),hy,ya,z1,ya];by_cases h0:z < 0
   .rw[yW (yY h0),yW (ZQ (by omega) (by omega)),ya,yW (ZQ (by omega) (by omega)),ya,yW (ZQ (by omega) (by omega)),ya,hset,yW (ZQ (by omega) (by omega)),hw,ya,yW h0,hset2]
   .rw[yX (by rw[yN];exact h0),yX h0]
  unfold Zc;rw[hstep];have hs':=List.pairwise_append.1 hs;by_cases h0:z < 0
  .rw[yW h0,ya];dsimp only
   rw[ih P' hj f u x (y::Q) (by omega) (by simp;omega) (λe he=>hk e (by
    simp only[ybs,yaw,ycd,or_false]at he ⊢;rcases he with he|he|he|he
    .exact .inl (.inl he)
    .exact .inr (.inl he)
    .exact .inl (.inr he)
    .exact .inr (.inr he))) hs'.1,ZDU (z2.1 h0)]
   simp
  .rw[yX h0,ya];dsimp only
   have q:WA (Q5 x) (Q5 y)=ag:=by
    cases q:WA (Q5 x) (Q5 y) with
    |false=>rfl
    |true=>exact absurd (z2.2 q) h0
   rw[ZLx (n:=36) (λe he=>ZLz (hk e (by
    simp only[ybs,yaw,ycd,or_false]at he ⊢;rcases he with he|he|he
    .exact .inr (.inl he)
    .exact .inl (.inl he)
    .exact .inl (.inr he)))) hs q]
   simp
theorem ZIB{α:Type}{l:yL α}{k:Nat}{e:α}(h:l[k]? =ab e):l.drop k=e::l.drop (k+1):=by
 obtain⟨h1,h2⟩:=yo.1 h;rw[List.drop_eq_getElem_cons h1,h2]
theorem ZIC(u:yL Unit){l:yL Zf}(hl:l.length<=20)(hk:∀e,e∈l->e.2.2.length=32):Xl yD (0:Int) (l.length:Int) u l=ab (u,eu Q5 l):=by
 unfold Xl;rw[show wi ((0:Int)+1)=1 from rfl]
 by_cases h0:l=[]
 .subst h0
  have e:Zc (Z0 yD) yD ((0:Int),(([]:yL Zf).length:Int),(1:Int),u,([]:yL Zf))=ab (u,[]):=by
   refine ZT 0 (λk:Nat=>((0:Int),(([]:yL Zf).length:Int),(1:Int),u,([]:yL Zf))) (λk hk=>by omega) ?_ (by omega);unfold Z0;dsimp only;rw[yX (by rw[yN];simp)]
  rw[e,ya];rfl
 have hpos:0 < l.length:=List.length_pos_iff.2 h0
 have e:=ZT (step:=Z0 yD) (l.length - 1) (λk:Nat=>((0:Int),(l.length:Int),((k+1:Nat):Int),u,eu Q5 (l.take (k+1))++l.drop (k+1))) (x:=(u,eu Q5 l)) (by
  intro k hk2;obtain⟨x,hx,hm⟩:=Zu (l:=l) (k:=k+1) (by omega);have hL:(eu Q5 (l.take (k+1))).length=k+1:=by rw[NZ,yae];omega
  have hs:=ZLA (l.length:Int) (k+1) (eu Q5 (l.take (k+1))) yD u x (l.drop (k+1+1)) (by rw[nh];omega) (by rw[hL,List.length_drop];omega) (by
   intro e he;rcases ybs.1 he with h|h
   .exact hk e (List.mem_of_mem_take ((ZLw _).1 h))
   .rcases yaw.1 h with rfl|h
    .exact hk _ hm
    .exact hk e (List.mem_of_mem_drop h)) (ZLv _)
  rw[hL]at hs;unfold Z0;dsimp only;rw[yW (yY (by omega)),ZIB hx,hs,ya];dsimp only;rw[ZO (by omega),jn hx,ZIA]) (by
  unfold Z0;dsimp only;rw[yX (fM (by omega)),show l.length - 1+1=l.length by omega,ybd,List.drop_length,ybg]) (by omega)
 have e2:eu Q5 (l.take 1)++l.drop 1=l:=by
  match l,h0 with
  |a::r,_=>rfl
 have e:Zc (Z0 yD) yD ((0:Int),(l.length:Int),(1:Int),u,eu Q5 (l.take 1)++l.drop 1)=_:=e;rw[e2]at e;rw[e,ya]
theorem ZFS(u:yL Unit)(l:yL Zf){a b:Int}(h:b<=a)(h0:0<=a)(h1:a<=100):Xl yD a b u l=ab (u,l):=by
 unfold Xl;rw[Yb (z:=a+1) (by omega) (by omega)]
 have e:Zc (Z0 yD) yD (a,b,a+1,u,l)=ab (u,l):=by
  refine ZT 0 (λk:Nat=>(a,b,a+1,u,l)) (λk hk=>by omega) ?_ (by omega);unfold Z0;dsimp only;rw[yX (fM (by omega))]
 rw[e,ya]
theorem ZLB(u:yL Unit){l:yL Zf}(hl:l.length<=20)(hk:∀e,e∈l->e.2.2.length=32):Wt yD u l=ab (u,eu Q5 l):=by
 have r1:=ZIC u hl hk;have hrl:=NZ (key:=Q5) l
 have fin:Zc (WC yD) yD ((l.length:Int),(20:Int),u,eu Q5 l)=ab (u,eu Q5 l):=by
  refine ZT 0 (λk:Nat=>((l.length:Int),(20:Int),u,eu Q5 l)) (λk hk=>by omega) ?_ (by omega);unfold WC;dsimp only;rw[yX (fM (by omega))]
 unfold Wt MK;by_cases h20:l.length=20
 .have e:Zc (YE yD) yD ((l.length:Int),(20:Int),(0:Int),(20:Int),u,l)=ab ((l.length:Int),(20:Int),(20:Int),u,eu Q5 l):=by
   refine ZT 1 (λk:Nat=>if k=0 then((l.length:Int),(20:Int),(0:Int),(20:Int),u,l) else((l.length:Int),(20:Int),(20:Int),(40:Int),u,eu Q5 l)) ?_ ?_ (by omega)
   .intro k hk;have:k=0:=by omega
    subst this;rw[yW rfl,yX (by omega)];unfold YE;dsimp only;rw[h20]at r1;rw[yW (yY (by omega))];rw[show((20:Nat):Int)=20 from rfl]at r1
    rw[r1,ya];dsimp only;rw[yW (by simp[hrl])];rfl
   .rw[yX (by omega)];unfold YE;dsimp only;rw[yX (fM (by omega))]
  rw[e,ya];dsimp only;rw[ZFS u _ (by omega) (by omega) (by omega),ya];dsimp only;rw[fin,ya,ya]
 .have e:Zc (YE yD) yD ((l.length:Int),(20:Int),(0:Int),(20:Int),u,l)=ab ((l.length:Int),(20:Int),(0:Int),u,l):=by
   refine ZT 0 (λk:Nat=>((l.length:Int),(20:Int),(0:Int),(20:Int),u,l)) (λk hk=>by omega) ?_ (by omega);unfold YE;dsimp only;rw[yX (fM (by omega))]
  rw[e,ya];dsimp only;rw[r1,ya];dsimp only;rw[fin,ya,ya]
def ez(t:bu)(l:yL Cond):yL Cond:=l.filter λc=>ah (c.2.2.1 >= t.1)
theorem OA(t:bu)(l:yL Cond):(ez t l).length<=l.length:=List.length_filter_le _ _
theorem ZLC{t:bu}{l:yL Cond}{c:Cond}(h:c∈ez t l):c∈l:=(List.mem_filter.1 h).1
theorem ZNq{t:bu}{l:yL Cond}{k:Nat}{c:Cond}(h:l[k]? =ab c):ez t (l.take (k+1))=ez t (l.take k)++(if c.2.2.1 >= t.1 then[c] else[]):=by
 rw[jn h];unfold ez;rw[List.filter_append];congr 1;by_cases q:c.2.2.1 >= t.1
 .rw[yW q];simp[q]
 .rw[yX q];simp;omega
theorem ZDX{ch:Chan}{own:Int}(ho:own=0\/own=1){t:bu}(ht:ch.2.2.2.1[own.toNat]? =ab t){s:yG}(hl:s.2.2.1.length<=20):XS yD ch s own=ab (ez t s.2.2.1):=by
 have hb:ba own 2=af:=ZQ (by omega) (by omega);have hk2:∀k,(ez t (s.2.2.1.take k)).length<=20:=λk=>by have:=OA t (s.2.2.1.take k);rw[yae]at this;omega
 .unfold XS
  have e:=ZT (step:=XV yD) s.2.2.1.length (λk:Nat=>(own,s.2.2.1,(s.2.2.1.length:Int),(k:Int),ch,s,ez t (s.2.2.1.take k))) (x:=(ch,s,ez t s.2.2.1)) (by
   intro k hk;obtain⟨c,hc,_⟩:=Zu hk;have:=hk2 k;unfold XV W9;dsimp only;rw[yW (XA hk),Yg hc,ya,yW hb,ht,ya,ya,ZO (by omega),ZNq hc];by_cases q:c.2.2.1 >= t.1
   .rw[yW (yY q),yW (X2 (by omega) (by omega)),yW q]
   .rw[yX (by rw[yN];exact q),yX q,ybg]) (by
   unfold XV;dsimp only;rw[yX (by rw[YN];decide),ybd]) (by omega)
  have e:Zc (XV yD) yD (own,s.2.2.1,(s.2.2.1.length:Int),(0:Int),ch,s,([]:yL Cond))=_:=e;rw[e,ya]
def gG(op:Int)(s:yG)(of h:Int)(n:Nat):Int:=if of=op then h - (dj s.2.2.2 (n:Int)+660) else h
theorem OB{r n:Int}:0<=dj r n/\dj r n<=196000:=by
 unfold dj;by_cases h1:0<=r/\r<=1000
 .rw[yW h1];by_cases h2:0<=n/\n<=16
  .rw[yW h2];have:=Int.mul_nonneg h1.1 (show 0<=68+8*n by omega);have:=Int.mul_le_mul h1.2 (show 68+8*n<=196 by omega) (by omega) (by omega);omega
  .rw[yX h2];omega
 .rw[yX h1];omega
theorem ZHj{ch:Chan}{own of:Int}(ho:own=0\/own=1)(hf:of=0\/of=1){t:bu}(ht:ch.2.2.2.1[own.toNat]? =ab t){s:yG}(hl:s.2.2.1.length<=20){h:Int}(hh:s.2.1[of.toNat]? =ab h)(h0:0<=h)(h1:h<=1125899906842624):
 Qi yD ch s own of=ab (gG ch.2.2.2.2 s of h (ez t s.2.2.1).length):=by
 have hb:ba of 2=af:=ZQ (by omega) (by omega);have hq:=OB (r:=s.2.2.2) (n:=((ez t s.2.2.1).length:Int));unfold Qi gG;rw[yW hb,hh,ya];by_cases e:of=ch.2.2.2.2
 .rw[yW (beq_iff_eq.2 e),ZDX ho ht hl,ya,NU,ya,yW e,Yb (z:=dj s.2.2.2 ((ez t s.2.2.1).length:Int)+660) (by omega) (by omega),Yb (by omega) (by omega)]
 .rw[yX (by rw[yT];exact e),yX e]
noncomputable def gp(n:Int)(lk:Y9)(ro:fr):Zf:=((n,lk),ro,sZ lk)
def stp(x:Zf):ZhV:=(x.1,x.2.1)
theorem Qm{n:Int}{lk:Y9}(h:dJ lk)(ro:fr)(u:yL Unit){acc:yL Zf}(hl:acc.length<=100):ZP yD n lk ro u acc=ab (()::u,acc++[gp n lk ro]):=by
 unfold ZP;rw[ZNo h,ya,yW (X2 (by omega) (by omega))];rfl
def jX:Cond:=(0,0,0,0,0)
def ij(rev late:yU)(d:Int):Y9:=[([rev],0,0,0),([late],0,d,0)]
def iI(p:yU):Y9:=[([p],0,0,0)]
def gU(p:yU):Y9:=[([p],0,0,0),([],0,16,0)]
def ik(own w:Int)(rev ow pe:yU)(c:Cond):Y9:=if c.1=own then[([rev],0,0,0),([pe],0,0,c.2.2.2.1),([ow],c.2.2.2.2,w,0)] else[([rev],0,0,0),([ow],0,w,c.2.2.2.1),([pe],c.2.2.2.2,0,0)]
theorem ZNr(a b:yU)(d:Int):dJ (ij a b d):=⟨by simp[ij],λb hb=>by simp[ij]at hb;rcases hb with rfl|rfl <;> simp⟩
theorem ZHk(a:yU):dJ (iI a):=⟨by simp[iI],λb hb=>by simp[iI]at hb;rw[hb];simp⟩
theorem lS(a:yU):dJ (gU a):=⟨by simp[gU],λb hb=>by simp[gU]at hb;rcases hb with rfl|rfl <;> simp⟩
theorem ZNs(own w:Int)(rev ow pe:yU)(c:Cond):dJ (ik own w rev ow pe c):=by
 unfold ik;split
 .exact⟨by simp,λb hb=>by simp at hb;rcases hb with rfl|rfl|rfl <;> simp⟩
 .exact⟨by simp,λb hb=>by simp at hb;rcases hb with rfl|rfl|rfl <;> simp⟩
noncomputable def jq(own w:Int)(rev ow pe:yU)(c:Cond):Zf:=gp c.2.2.1 (ik own w rev ow pe c) ((if c.1=own then 5 else 6),c)
def lT(ch:Chan)(s:yG)(own:Int)(l:yL ZhV):cS:=(([(ch.1,(0,[],0))],l.map (·.1),wi (wi (2*s.1)+own)),l.map (·.2))
theorem ZLD{own w:Int}{rev ow pe:yU}{l:yL Cond}(hl:l.length<=16)(ch:Chan)(s:yG){acc:yL Zf}(hb:acc.length<=4)(ha:∀e,e∈acc->e.2.2.length=32)(u:yL Unit):
 ((Zc (YM yD) yD (own,w,rev,ow,pe,l,(l.length:Int),(0:Int),ch,s,((([]:yL In),([]:yL Out),(0:Int)),([]:yL fr)),u,acc)).bind λa=>
      (Wt yD a.2.2.2.2.1 a.2.2.2.2.2).bind λb=>
      if(ah (a.2.2.2.2.1.length=b.1.length)&&(ah (40=40)&&ah ((yy a.2.2.2.2.2.length ()).length=b.2.length)))=af then
       (Zc (Xd yD) yD ((b.2.length:Int),(0:Int),a.2.1,a.2.2.1,a.2.2.2.1,b.1,b.2,([(a.2.1.1,(0,[],0))]:yL In),wi ((wi (2*a.2.2.1.1))+a.1),([]:yL fr),([]:yL Out))).bind λd=>
       ab (((d.2.2.2.2.2.1,d.2.2.2.2.2.2.2.2,d.2.2.2.2.2.2.1),d.2.2.2.2.2.2.2.1),(0:Int))
      else
      ae)=ab (lT ch s own ((eu Q5 (acc++l.map (jq own w rev ow pe))).map stp),0):=by
 obtain⟨x,g1,u1,rfl⟩:=VF (step:=YM yD) l.length (λk q=>∃u1,q=(own,w,rev,ow,pe,l,(l.length:Int),(k:Int),ch,s,((([]:yL In),([]:yL Out),(0:Int)),([]:yL fr)),u1,acc++(l.take k).map (jq own w rev ow pe)))
  (λx=>∃u1,x=(own,ch,s,((([]:yL In),([]:yL Out),(0:Int)),([]:yL fr)),u1,acc++l.map (jq own w rev ow pe))) (i:=(own,w,rev,ow,pe,l,(l.length:Int),(0:Int),ch,s,((([]:yL In),([]:yL Out),(0:Int)),([]:yL fr)),u,acc)) ⟨u,by simp⟩ (by omega) (by
  rintro k _ hk ⟨u1,rfl⟩;left;obtain⟨e,he,hm⟩:=Zu hk
  have hal:(acc++(l.take k).map (jq own w rev ow pe)).length<=100:=by
   rw[yr,yx,yae];omega
  have hlk:=ZNs own w rev ow pe e;unfold YM;dsimp only;rw[yW (XA hk),Yg he,ya,ZO (by omega),jn he,yal];by_cases hf:e.1=own
  .have e1:ik own w rev ow pe e=[([rev],0,0,0),([pe],0,0,e.2.2.2.1),([ow],e.2.2.2.2,w,0)]:=by unfold ik;rw[yW hf]
   have e2:jq own w rev ow pe e=gp e.2.2.1 (ik own w rev ow pe e) (5,e):=by unfold jq;rw[yW hf]
   rw[e1]at hlk e2;rw[yW (by rw[hf];exact beq_self_eq_true _),Qm hlk ((5:Int),e) u1 hal,ya,yad,List.map_nil,e2,yak];exact⟨_,rfl,_,rfl⟩
  .have e1:ik own w rev ow pe e=[([rev],0,0,0),([ow],0,w,e.2.2.2.1),([pe],e.2.2.2.2,0,0)]:=by unfold ik;rw[yX hf]
   have e2:jq own w rev ow pe e=gp e.2.2.1 (ik own w rev ow pe e) (6,e):=by unfold jq;rw[yX hf]
   rw[e1]at hlk e2;rw[yX (by rw[yT];exact hf),Qm hlk ((6:Int),e) u1 hal,ya,yad,List.map_nil,e2,yak];exact⟨_,rfl,_,rfl⟩) (by
  rintro _ ⟨u1,rfl⟩;unfold YM;dsimp only;rw[yX (by rw[YN];decide),ybd];exact⟨_,rfl,_,rfl⟩)
 rw[g1,ya];unfold lT;dsimp only;generalize ha1:acc++l.map (jq own w rev ow pe)=a1
 have hal:a1.length<=20:=by
  rw[<-ha1,yr,yx];omega
 have hkk:∀e,e∈a1->e.2.2.length=32:=by
  intro e he;rw[<-ha1]at he;rcases ybs.1 he with h|h
  .exact ha e h
  .obtain⟨c,_,rfl⟩:=List.mem_map.1 h;exact ZDR _
 have hrl:=NZ (key:=Q5) a1;rw[ZLB u1 hal hkk,ya];dsimp only;rw[yW (by simp[hrl])];generalize eu Q5 a1=r at hrl;generalize wi (wi (2*s.1)+own)=nt;generalize hz:((([]:yL In),([]:yL Out),(0:Int)),([]:yL fr))=z
 rw[show((r.length:Int),(0:Int),ch,s,z,u1,r,([(ch.1,(0,[],0))]:yL In),nt,([]:yL fr),([]:yL Out))=(λk:Nat=>((r.length:Int),(k:Int),ch,s,z,u1,r,([(ch.1,(0,[],0))]:yL In),nt,(r.take k).map (λx:Zf=>x.2.1),(r.take k).map (λx:Zf=>x.1))) 0 from rfl,
  ZT (x:=(ch,s,z,u1,r,([(ch.1,(0,[],0))]:yL In),nt,r.map (λx:Zf=>x.2.1),r.map (λx:Zf=>x.1))) r.length (λk:Nat=>((r.length:Int),(k:Int),ch,s,z,u1,r,([(ch.1,(0,[],0))]:yL In),nt,(r.take k).map (λx:Zf=>x.2.1),(r.take k).map (λx:Zf=>x.1))) ?_ ?_ (by omega),ya]
 .rw[List.map_map,List.map_map];rfl
 .intro k hk;obtain⟨e,he,hm⟩:=Zu hk;unfold Xd;dsimp only;rw[yW (XA hk),yW (ZQ (by omega) (by omega)),ybw,he,ya,ZO (by omega),jn he,yW (X2 (by simp;omega) (by simp;omega)),yW (X2 (by simp;omega) (by simp;omega)),yal,yal];rfl
 .unfold Xd;dsimp only;rw[yX (by rw[YN];decide),ybd]
theorem ZNt(p:yU):pd yD p=ab (iI p):=by
 unfold pd wI ZN;rw[yW (X2 (by simp) (by simp)),ya,ya];rfl
noncomputable def lU(own:Int)(per:yU)(bo bp:bt)(to tp:bu)(a b:Int)(l:yL Cond):yL Zf:=
 ((if a >= to.1 then[gp a (ij (fv bp.2.2.2.2 per) (dp bo.2.2.1 per) tp.2.2.1) (1,jX)] else[])++(if b >= to.1 then[gp b (iI bp.2.1) (2,jX)] else[])++[gp 330 (gU bo.1) (3,jX),gp 330 (gU bp.1) (4,jX)])++l.map (jq own tp.2.2.1 (fv bp.2.2.2.2 per) (dp bo.2.2.2.1 per) (dp bp.2.2.2.1 per))
structure Sd(ch:Chan)(s:yG)(own:Int)(bo bp:bt)(to tp:bu)(hO hP:Int):Prop where
 o:own=0\/own=1
 bO:ch.2.2.1[own.toNat]? =ab bo
 bP:ch.2.2.1[(1 - own).toNat]? =ab bp
 tO:ch.2.2.2.1[own.toNat]? =ab to
 tP:ch.2.2.2.1[(1 - own).toNat]? =ab tp
 vO:s.2.1[own.toNat]? =ab hO
 vP:s.2.1[(1 - own).toNat]? =ab hP
 o0:0<=hO
 o1:hO<=1125899906842624
 p0:0<=hP
 p1:hP<=1125899906842624
theorem Sd.all{ch:Chan}{s:yG}(w:fu ch)(r:xK ch s){own:Int}(ho:own=0\/own=1):∃bo bp to tp hO hP,Sd ch s own bo bp to tp hO hP:=by
 obtain⟨b0,b1,hb⟩:=pz w.b;obtain⟨t0,t1,ht⟩:=pz w.t;obtain⟨a,b,hs,h1,h2,_⟩:=r.gc;rcases ho with rfl|rfl
 .exact⟨b0,b1,t0,t1,a,b,.inl rfl,by rw[hb];rfl,by rw[hb];rfl,by rw[ht];rfl,by rw[ht];rfl,by rw[hs];rfl,by rw[hs];rfl,h1.1,h1.2,h2.1,h2.2⟩
 .exact⟨b1,b0,t1,t0,b,a,.inr rfl,by rw[hb];rfl,by rw[hb];rfl,by rw[ht];rfl,by rw[ht];rfl,by rw[hs];rfl,by rw[hs];rfl,h2.1,h2.2,h1.1,h1.2⟩
noncomputable def nG(ch:Chan)(s:yG)(own:Int)(per:yU)(bo bp:bt)(to tp:bu)(hO hP:Int):yL Zf:=
 lU own per bo bp to tp (gG ch.2.2.2.2 s own hO (ez to s.2.2.1).length) (gG ch.2.2.2.2 s (1 - own) hP (ez to s.2.2.1).length) (ez to s.2.2.1)
theorem ZLE{ch:Chan}{s:yG}{own:Int}{per:yU}(hr:Qg yD ch s=ab af)(r:xK ch s)(hp:bn per.toNat){bo bp:bt}{to tp:bu}{hO hP:Int}(d:Sd ch s own bo bp to tp hO hP):
 aZ yD ch s own per=ab (lT ch s own ((eu Q5 (nG ch s own per bo bp to tp hO hP)).map stp),0):=by
 have hown:=d.o
 have hside:Qf yD own=ab af:=by
  unfold Qf;rcases hown with rfl|rfl <;> rfl
 have hpeer:wi (1 - own)=1 - own:=Yb (by omega) (by omega);have q1:ba (1 - own) 2=af:=ZQ (by omega) (by omega);have q2:ba own 2=af:=ZQ (by omega) (by omega);have hl20:s.2.2.1.length<=20:=by have:=r.len;omega
 have hrO:=ZHj hown hown d.tO hl20 d.vO d.o0 d.o1;have hrP:=ZHj hown (of:=1 - own) (by omega) d.tO hl20 d.vP d.p0 d.p1;have hsh:=ZDX hown d.tO hl20;unfold nG;generalize gG ch.2.2.2.2 s own hO (ez to s.2.2.1).length=a at*;generalize gG ch.2.2.2.2 s (1 - own) hP (ez to s.2.2.1).length=b at*;have hl16:(ez to s.2.2.1).length<=16:=ybx (OA _ _) r.len;have tl:=λ{acc:yL Zf}(hb:acc.length<=4)(ha:∀e,e∈acc->e.2.2.length=32)(u:yL Unit)=>ZLD (own:=own) (w:=tp.2.2.1) (rev:=fv bp.2.2.2.2 per) (ow:=dp bo.2.2.2.1 per) (pe:=dp bp.2.2.2.1 per) hl16 ch s hb ha u;have s1:∀z:Int,W9 yD to z=ab (ah (z >= to.1)):=λz=>rfl;have lateIs:∀x y:yU,MF yD x y tp.2.2.1=ab (ij y x tp.2.2.1):=λ_ _=>rfl;have ancIs:∀x:yU,Xo yD x=ab (gU x):=λ_=>rfl;have lens:∀(n:Int)(lk:Y9)(ro:fr),(gp n lk ro).2.2.length=32:=λn lk ro=>ZDR lk;unfold aZ lU;rw[hside,ya,yX (show¬(!true)=af by decide),Xh,ya,yY hp,yX (show¬(!true)=af by decide),hr,ya,yX (show¬(!true)=af by decide)];rw[show((0:Int),(0:Int),(0:Int),(0:yU),(0:Int))=jX from rfl]
 simp only[hpeer,q1,q2,if_true,d.bO,d.bP,d.tO,d.tP,ya,ZIx,ZPK,hrO,hrP,s1,lateIs,ancIs,ZNt,hsh];have lt:=λx y=>ZNr x y tp.2.2.1;by_cases ha:a >= to.1
 .rw[yW (yY ha),yW ha];simp only[Qm (lt _ _) ((1:Int),jX) [] (acc:=[]) (by simp),ya];by_cases hb:b >= to.1
  .rw[yW (yY hb),yW hb];rw[Qm (ZHk _) _ _ (by simp),ya];dsimp only;rw[Qm (lS _) _ _ (by simp),ya];dsimp only;rw[Qm (lS _) _ _ (by simp),ya];dsimp only;refine Eq.trans (tl ?_ ?_ _) ?_
   .simp
   .intro e he;simp only[ybs,yaw,ycd,or_false,false_or]at he;rcases he with((rfl|rfl)|rfl)|rfl <;> exact lens _ _ _
   .simp
  .rw[yX (by rw[yN];exact hb),yX hb];rw[Qm (lS _) _ _ (by simp),ya];dsimp only;rw[Qm (lS _) _ _ (by simp),ya];dsimp only;refine Eq.trans (tl ?_ ?_ _) ?_
   .simp
   .intro e he;simp only[ybs,yaw,ycd,or_false,false_or]at he;rcases he with(rfl|rfl)|rfl <;> exact lens _ _ _
   .simp
 .rw[yX (by rw[yN];exact ha),yX ha];by_cases hb:b >= to.1
  .rw[yW (yY hb),yW hb];rw[Qm (ZHk _) _ _ (by simp),ya];dsimp only;rw[Qm (lS _) _ _ (by simp),ya];dsimp only;rw[Qm (lS _) _ _ (by simp),ya];dsimp only;refine Eq.trans (tl ?_ ?_ _) ?_
   .simp
   .intro e he;simp only[ybs,yaw,ycd,or_false,false_or]at he;rcases he with(rfl|rfl)|rfl <;> exact lens _ _ _
   .simp
  .rw[yX (by rw[yN];exact hb),yX hb];rw[Qm (lS _) _ _ (by simp),ya];dsimp only;rw[Qm (lS _) _ _ (by simp),ya];dsimp only;refine Eq.trans (tl ?_ ?_ _) ?_
   .simp
   .intro e he;simp only[ybs,yaw,ycd,or_false,false_or]at he;rcases he with rfl|rfl <;> exact lens _ _ _
   .simp
theorem OC{own:Int}:Qf yD own=ab (ah (own=0\/own=1)):=by
 unfold Qf;by_cases h:own=0
 .rw[yW (beq_iff_eq.2 h),yY (p:=own=0\/own=1) (.inl h)]
 .rw[yX (by rw[yT];exact h)];by_cases h1:own=1
  .rw[yY (p:=own=0\/own=1) (.inr h1),h1];rfl
  .rw[yZ (p:=own=0\/own=1) (by omega)];exact congrArg ab (by simpa using h1)
def KO(own w:Int)(rev late ow pe:yU)(lk:Y9)(ro:fr):Prop:=
 (ro.1=1/\lk=ij rev late w)\/(ro.1=2\/ro.1=3\/ro.1=4)\/((ro.1=5/\ro.2.1=own\/ro.1=6/\ro.2.1=1 - own)/\lk=ik own w rev ow pe ro.2/\gS ro.2.2.2.2.1/\1<=ro.2.2.2.2.2/\ro.2.2.2.2.2<=1048576)
theorem ZyZ{α:Type}{key:α->yL Int}{x:α}:∀l:yL α,(Ql key x l).Perm (x::l)
 |[]=>.refl _
 |y::r=>by
  unfold Ql;split
  .exact .refl _
  .exact((ZyZ r).cons y).trans (.swap _ _ _)
theorem ZID{α:Type}{key:α->yL Int}(l:yL α):(eu key l).Perm l:=by
 unfold eu
 have h:∀(l acc:yL α),(l.foldl (λacc x=>Ql key x acc) acc).Perm (acc++l):=by
  intro l
  induction l with
  |nil=>intro acc;rw[ybg];exact .refl _
  |cons x r ih=>
   intro acc;exact(ih (Ql key x acc)).trans (((ZyZ acc).append_right r).trans List.perm_middle.symm)
 exact h l []
theorem ZLF{l m:yL Int}(h:l.Perm m):l.sum=m.sum:=by
 induction h with
 |nil=>rfl
 |cons x _ ih=>rw[List.sum_cons,List.sum_cons,ih]
 |swap x y l=>rw[List.sum_cons,List.sum_cons,List.sum_cons,List.sum_cons];omega
 |trans _ _ h1 h2=>exact h1.trans h2
def gH(l:yL Cond):Int:=(l.map λc=>c.2.2.1).sum
theorem ZNu{l:yL Cond}(h:∀c,c∈l->0<=c.2.2.1/\c.2.2.1<=1125899906842624):0<=gH l/\gH l<=l.length*1125899906842624:=by
 induction l with
 |nil=>simp[gH]
 |cons c r ih=>
  have h1:=h c (yao ..);have h2:=ih λx hx=>h x (yas _ hx);unfold gH at h2 ⊢;rw[yad,List.sum_cons,yah];omega
theorem ZDZ{l:yL Cond}(p:Cond->Bool)(h:∀c,c∈l->0<=c.2.2.1/\c.2.2.1<=1125899906842624):gH (l.filter p)<=gH l:=by
 induction l with
 |nil=>exact Int.le_refl _
 |cons c r ih=>
  have h1:=h c (yao ..);have h2:=ih λx hx=>h x (yas _ hx);unfold gH at h2 ⊢;rw[yad,List.sum_cons,List.filter_cons];split
  .rw[yad,List.sum_cons];omega
  .omega
theorem ZHl:∀(l:yL Cond)(z:Int),(∀c,c∈l->0<=c.2.2.1/\c.2.2.1<=1125899906842624)->0<=z->z+l.length*1125899906842624<=9223372036854775807->eG z l=z+gH l
 |[],z,_,_,_=>by simp[eG,gH]
 |c::r,z,h,h0,h1=>by
  have hc:=h c (yao ..);rw[yah]at h1
  have e:sY z c=z+c.2.2.1:=by
   unfold sY;exact Yb (by omega) (by omega)
  show eG (sY z c) r=_;rw[e,ZHl r (z+c.2.2.1) (λx hx=>h x (yas _ hx)) (by omega) (by omega)];unfold gH;rw[yad,List.sum_cons];omega
theorem ZLG{r:Int}{n m:Nat}(h0:0<=r)(h1:r<=1000)(h:n<=m)(hm:m<=16):dj r (n:Int)<=dj r (m:Int):=by
 unfold dj;rw[yW ⟨h0,h1⟩,yW ⟨by omega,by omega⟩,yW ⟨h0,h1⟩,yW ⟨by omega,by omega⟩];exact Int.mul_le_mul_of_nonneg_left (by omega) h0
structure pB(ch:Chan)(own:Int)(per:UInt64)(c:cS):Prop where
 ins:c.1.1=[(ch.1,(0,[],0))]
 aNh:0<=ch.1.2/\ch.1.2<=63
 same:c.2.length=c.1.2.1.length
 outs:c.1.2.1.length<=20
 note:0<=c.1.2.2/\c.1.2.2<=9223372036854775807
 ok:∀o,o∈c.1.2.1->gR o
 amt:ep c.1.2.1<=1125899906842624
 o:own=0\/own=1
 pt:bn per.toNat
 ex:∃bo bp tp,ch.2.2.1[own.toNat]? =ab bo/\ch.2.2.1[(1 - own).toNat]? =ab bp/\bV tp/\∀(k:Nat)ou ro,c.1.2.1[k]? =ab ou->c.2[k]? =ab ro->
  KO own tp.2.2.1 (fv bp.2.2.2.2 per) (dp bo.2.2.1 per) (dp bo.2.2.2.1 per) (dp bp.2.2.2.1 per) ou.2 ro
theorem ZPM{a b:yU}{d:Int}(h0:0<=d)(h1:d<=4096)(ha:bn a.toNat)(hb:bn b.toNat):V4 (ij a b d)/\ig (ij a b d):=by
 refine⟨⟨by simp[ij],by simp[ij],λe he=> ?_⟩,λe he=> ?_⟩
 .simp[ij]at he;rcases he with rfl|rfl <;> exact⟨by simp,by simp,by simp,by simp<;> omega,by simp<;> omega⟩
 .simp[ij]at he;rcases he with rfl|rfl
  .exact⟨λp hp=>by simp at hp;rw[hp];exact ha,λh=>absurd rfl h⟩
  .exact⟨λp hp=>by simp at hp;rw[hp];exact hb,λh=>absurd rfl h⟩
theorem ZPN{p:yU}(h:bn p.toNat):V4 (iI p)/\ig (iI p):=by
 refine⟨⟨by simp[iI],by simp[iI],λe he=> ?_⟩,λe he=> ?_⟩
 .simp[iI]at he;rw[he];exact⟨by simp,by simp,by simp,by simp,by simp⟩
 .simp[iI]at he;rw[he];exact⟨λq hq=>by simp at hq;rw[hq];exact h,λh=>absurd rfl h⟩
theorem ZLH{p:yU}(h:bn p.toNat):V4 (gU p)/\ig (gU p):=by
 refine⟨⟨by simp[gU],by simp[gU],λe he=> ?_⟩,λe he=> ?_⟩
 .simp[gU]at he;rcases he with rfl|rfl <;> exact⟨by simp,by simp,by simp,by simp,by simp⟩
 .simp[gU]at he;rcases he with rfl|rfl
  .exact⟨λq hq=>by simp at hq;rw[hq];exact h,λh=>absurd rfl h⟩
  .exact⟨λq hq=>by simp at hq,λh=>absurd rfl h⟩
theorem ZPO{own w:Int}{rev ow pe:yU}{c:Cond}(h0:0<=w)(h1:w<=4096)(hr:bn rev.toNat)(ho:bn ow.toNat)(hp:bn pe.toNat)(hc:bn c.2.2.2.1.toNat)(e0:1<=c.2.2.2.2)(e1:c.2.2.2.2<=1048576):
 V4 (ik own w rev ow pe c)/\ig (ik own w rev ow pe c):=by
 unfold ik;split
 .refine⟨⟨by simp,by simp,λe he=> ?_⟩,λe he=> ?_⟩
  .simp at he;rcases he with rfl|rfl|rfl <;> exact⟨by simp,by simp<;> omega,by simp<;> omega,by simp<;> omega,by simp<;> omega⟩
  .simp at he;rcases he with rfl|rfl|rfl
   .exact⟨λq hq=>by simp at hq;rw[hq];exact hr,λh=>absurd rfl h⟩
   .exact⟨λq hq=>by simp at hq;rw[hq];exact hp,λ_=>hc⟩
   .exact⟨λq hq=>by simp at hq;rw[hq];exact ho,λh=>absurd rfl h⟩
 .refine⟨⟨by simp,by simp,λe he=> ?_⟩,λe he=> ?_⟩
  .simp at he;rcases he with rfl|rfl|rfl <;> exact⟨by simp,by simp<;> omega,by simp<;> omega,by simp<;> omega,by simp<;> omega⟩
  .simp at he;rcases he with rfl|rfl|rfl
   .exact⟨λq hq=>by simp at hq;rw[hq];exact hr,λh=>absurd rfl h⟩
   .exact⟨λq hq=>by simp at hq;rw[hq];exact ho,λ_=>hc⟩
   .exact⟨λq hq=>by simp at hq;rw[hq];exact hp,λh=>absurd rfl h⟩
end Go.Proofs.YtekdgjajmennjaaGreat
end
