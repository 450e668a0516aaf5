/- Parts of the proof, in one file. -/
import Derived.Test.YtcbhhaigilifgaaGreatKf
open Option renaming some → ab, none → ad
open Bool renaming true → ae, false → af
open Decidable renaming decide → ag
open BitVec renaming ofInt → yca
open Go.Proofs.Tryz renaming prog → yb
open Int renaming toNat_natCast → yat
open List renaming length_append → yl, getElem?_eq_some_iff → yu, replicate → yx, nil_append → yz, length_take → yaa, getElem?_eq_getElem → yab, append_assoc → yac, length_cons → yaf, take_length → yai, getElem?_cons_succ → yak, getElem?_cons_zero → yam, getElem?_append_right → yaq, map_append → yaw, take_append_drop → ybb, append_nil → ybf, getElem_of_mem → ybg, take_of_length_le → ycc
open Nat renaming le_refl → ym, mod_eq_of_lt → yas, mul_comm → ybo, le_trans → ybt, mul_le_mul_right → ycb, two_pow_add_eq_or_of_lt → yda
open Option renaming bind_some → ya
open UInt32 renaming ofNat → ych
open UInt64 renaming ofNat → yan, toNat_ofNat' → ybi, toNat_lt → ybv, le_iff_toNat_le → ycp, lt_iff_toNat_lt → ycs
open UInt8 renaming ofNat → yap
set_option linter.unusedVariables false
set_option linter.unusedSimpArgs false
section
set_option maxRecDepth 4000
namespace Go.Proofs.YtcbhhaigilifgaaGreat
open Go Go.Ev
noncomputable section
def QJ(F:Nat)(a0:Chan)(a1:yG)(a2:Int):yO (Int):=
 if(a2==a0.2.2.2.2)=ae then
  if(bi a2 2)=ae then
   (a1.2.1[a2.toNat]?).bind λa=>
   (tF F a0 a1).bind λb=>
   ab (wi (a - b))
  else
  ad
 else
 if(bi a2 2)=ae then
  (a1.2.1[a2.toNat]?).bind λc=>
  ab c
 else
 ad
def ZnB:Fs yb:=⟨116,[.v Zi,.v Zb,.v yI],[],[Zi,Zb,yI],(zN yI),λx=>QJ yD x.1 x.2.1 x.2.2⟩
theorem Zt6:ZnB.Ok:=be { still:=[6,15,16]} [] [LJ] ⟨Zle,aw⟩
def zf(F:Nat)(a0:Chan)(a1:yG)(a2:Cond):yO ((yG×Int)):=
 (au F a0 a1).bind λa=>
 if(!a)=ae then
  ab ((0,[0,0],[],0),1)
 else
 (tC F a2).bind λb=>
 if(!b)=ae then
  ab ((0,[0,0],[],0),1)
 else
 if(bi (wi (1 - a2.1)) 2)=ae then
  (a0.2.2.2.1[(wi (1 - a2.1)).toNat]?).bind λc=>
  (QE F a1 (wi (1 - a2.1))).bind λd=>
  (yC F a1 a2.1 a2.2.1).bind λe=>
  if e.2=ae then
   ab ((0,[0,0],[],0),4)
  else
  if(ag (a2.2.2.1 < c.2.2.2.2.1))=ae then
   ab ((0,[0,0],[],0),9)
  else
  if(ag ((a1.2.2.1.length:Int) >= 16))=ae then
   ab ((0,[0,0],[],0),3)
  else
  if(ag (d.1 >= c.2.2.2.1))=ae then
   ab ((0,[0,0],[],0),3)
  else
  let f:Bool:=ag ((wi (d.2+a2.2.2.1)) > c.2.2.2.2.2)
  if f=ae then
   ab ((0,[0,0],[],0),6)
  else
  if(bi a2.1 2)=ae then
   (a1.2.1[a2.1.toNat]?).bind λg=>
   if(ag (g < a2.2.2.1))=ae then
    ab ((0,[0,0],[],0),8)
   else
   (qk F a1 a2).bind λh=>
   if(bi a2.1 2)=ae then
    (h.2.1[a2.1.toNat]?).bind λi=>
    if(bi a2.1 2)=ae then
     (h.2.1[a2.1.toNat]?).bind λj=>
     (QJ F a0 (h.1,h.2.1.set a2.1.toNat (wi (i - a2.2.2.1)),h.2.2.1,h.2.2.2) a0.2.2.2.2).bind λk=>
     if(ag (k < 0))=ae then
      ab ((0,[0,0],[],0),8)
     else
     (QJ F a0 (h.1,h.2.1.set a2.1.toNat (wi (i - a2.2.2.1)),h.2.2.1,h.2.2.2) a2.1).bind λl=>
     if(ag (l < c.2.1))=ae then
      ab ((0,[0,0],[],0),10)
     else
     ab ((h.1,h.2.1.set a2.1.toNat (wi (i - a2.2.2.1)),h.2.2.1,h.2.2.2),0)
    else
    ad
   else
   ad
  else
  ad
 else
 ad
def ZpR:Fs yb:=⟨56,[.v Zi,.v Zb,.v Zm],[],[Zi,Zb,Zm],[⟨.ret,[(0,.bp [.v Zb,.v yI])],[],[Zb,yI]⟩],λx=>zf yD x.1 x.2.1 x.2.2⟩
def ZNU:HI:={ still:=[7,14,15,19,31,34,39,41,43,88,89,102,103,105,110,111,113]}
theorem ZwW:ZpR.Ok:=be ZNU [] [VV,LB,LG,Znx,ZnA,ZnB] ⟨Vb,Zlb,Zg1,Zt0,Zt5,Zt6,aw⟩
abbrev Zp:Ty:=(.st [(.arr 2 aMU),(.arr 2 kf),aNe,yI,yI,aMT])
abbrev aC:Type:=(aNp×(yL bz)×aNd×Int×Int×aNb)
abbrev aC.bz(x:aC):(yL bz):=x.2.1
abbrev _root_.aNm:=yL dE
def Yt(F:Nat):(Int×aC×Chan×aNm×yG×aNm×Chan)->yO ((Int×aC×Chan×aNm×yG×aNm×Chan)⊕((Bool×aC×Chan×aNm×yG×aNm×Chan)⊕(aC×Chan×aNm×yG×aNm×Chan)))
 |(a,b,e,f,g,c,d)=>
 if(ag (a < 2))=ae then
  if(bi a 2)=ae then
   (b.1[a.toNat]?).bind λh=>
   (tL F h).bind λi=>
   if(bi a 2)=ae then
    (c[a.toNat]?).bind λj=>
    if(bi a 2)=ae then
     ((c.set a.toNat i)[a.toNat]?).bind λk=>
     (yA F k).bind λl=>
     if(bi a 2)=ae then
      (d.2.2.1[a.toNat]?).bind λm=>
      if(bi a 2)=ae then
       (b.2.2.1[a.toNat]?).bind λn=>
       if(ag (n < 0))=ae then
        ab (.inr (.inl (af,b,(d.1,d.2.1,d.2.2.1.set a.toNat l,d.2.2.2.1,d.2.2.2.2),c.set a.toNat i,(0,[0,0],[],0),c.set a.toNat i,(d.1,d.2.1,d.2.2.1.set a.toNat l,d.2.2.2.1,d.2.2.2.2))))
       else
       if(bi a 2)=ae then
        (b.2.2.1[a.toNat]?).bind λo=>
        if(ag (o > 1099511627776))=ae then
         ab (.inr (.inl (af,b,(d.1,d.2.1,d.2.2.1.set a.toNat l,d.2.2.2.1,d.2.2.2.2),c.set a.toNat i,(0,[0,0],[],0),c.set a.toNat i,(d.1,d.2.1,d.2.2.1.set a.toNat l,d.2.2.2.1,d.2.2.2.2))))
        else
        if(bi a 2)=ae then
         (b.2.2.1[a.toNat]?).bind λp=>
         ab (.inl (wi (a+1),b,e,f,g,c.set a.toNat i,(d.1,wi (d.2.1+p),d.2.2.1.set a.toNat l,d.2.2.2.1,d.2.2.2.2)))
        else
        ad
       else
       ad
      else
      ad
     else
     ad
    else
    ad
   else
   ad
  else
  ad
 else
 ab (.inr (.inr (b,e,f,g,c,d)))
abbrev _root_.aNh:Go.Ev.Ty:=.arr 2 QI
def MO:yL bG:=[.var (.v Zp) ae,.var (.v Zi) ae,.var (.v aNh) ae,.var (.v Zb) ae,.var (.v aNh) ae,.var (.v Zi) ae]
def Zdf:Lp:=⟨[(1,.aj 0 []),(2,.aj 1 []),(3,.aj 2 []),(4,.aj 3 []),(6,.aj 4 []),(7,.aj 5 []),(8,.v yI)],MO,[yI,Zp,Zi,aNh,Zb,aNh,Zi],[⟨.ret,[(2,.aj 1 []),(3,.aj 2 []),(4,.aj 3 []),(5,.v .bool)],MO,[.bool,Zp,Zi,aNh,Zb,aNh,Zi]⟩,⟨.exit 0,[(1,.aj 0 []),(2,.aj 1 []),(3,.aj 2 []),(4,.aj 3 []),(6,.aj 4 []),(7,.aj 5 [])],MO,[Zp,Zi,aNh,Zb,aNh,Zi]⟩],Zc (Yt yD) yD⟩
def MP:HI:={ still:=[5,26,32,69,70,85,86,91]}
theorem Zg7:Zdf.bR yb 17 0:=ZG MP [] [Zsz,Zlh] ⟨Zzj,ZsA,aw⟩
def YO(F:Nat):(Int×aC×Chan×aNm×yG×aNm×Chan×yG)->yO ((Int×aC×Chan×aNm×yG×aNm×Chan×yG)⊕(aC×Chan×aNm×yG×aNm×Chan×yG))
 |(a,b,e,f,g,h,c,d)=>
 if(ag (a < (b.2.2.2.2.2.length:Int)))=ae then
  (idx b.2.2.2.2.2 a).bind λi=>
  (zf F c d i).bind λj=>
  if(j.2==0)=ae then
   ab (.inl (wi (a+1),b,e,f,g,h,c,j.1))
  else
  ab (.inl (wi (a+1),b,e,f,g,h,c,d))
 else
 ab (.inr (b,e,f,g,h,c,d))
def ZM1:yL bG:=[.var (.v Zp) ae,.var (.v Zi) ae,.var (.v aNh) ae,.var (.v Zb) ae,.var (.v aNh) ae,.var (.v Zi) ae,.var (.v Zb) ae]
def Zdg:Lp:=⟨[(1,.aj 0 []),(2,.aj 1 []),(3,.aj 2 []),(4,.aj 3 []),(6,.aj 4 []),(7,.aj 5 []),(9,.aj 6 []),(10,.v yI)],ZM1,[yI,Zp,Zi,aNh,Zb,aNh,Zi,Zb],[⟨.exit 2,[(2,.aj 1 []),(3,.aj 2 []),(4,.aj 3 []),(6,.aj 4 []),(7,.aj 5 []),(9,.aj 6 [])],ZM1,[Zp,Zi,aNh,Zb,aNh,Zi,Zb]⟩],Zc (YO yD) yD⟩
theorem Zg8:Zdg.bR yb 17 1:=ZG MP [] [ZpR] ⟨ZwW,aw⟩
def VD(F:Nat)(a0:aC):yO ((Chan×aNm×yG×Bool)):=
 (Zc (Yt F) F (0,a0,((dt,0),0,[(0,0,0,0,0),(0,0,0,0,0)],[(0,0,0,0,0,0),(0,0,0,0,0,0)],0),[(0,0,0,0,0,dt),(0,0,0,0,0,dt)],(0,[0,0],[],0),[(0,0,0,0,0,dt),(0,0,0,0,0,dt)],((dt,0),0,[(0,0,0,0,0),(0,0,0,0,0)],a0.2.1,a0.2.2.2.1))).bind λj=>
 match j with
 |.inl (d,_,a,b,c,_,_)=>
  ab (a,b,c,d)
 |.inr (d,g,h,i,f,e)=>
  if(ag ((d.2.2.2.2.2.length:Int) > 8))=ae then
   ab (e,f,(0,d.2.2.1,[],d.2.2.2.2.1),af)
  else
  (au F e (0,d.2.2.1,[],d.2.2.2.2.1)).bind λk=>
  if(!k)=ae then
   ab (e,f,(0,d.2.2.1,[],d.2.2.2.2.1),af)
  else
  (Zc (YO F) F (0,d,g,h,i,f,e,(0,d.2.2.1,[],d.2.2.2.2.1))).bind λ(_,_,_,_,b,a,c)=>
  ab (a,b,c,ae)
def QK(F:Nat):Fs yb:=⟨17,[.v Zp],[],[Zp],[⟨.ret,[(0,.bp [.v Zi,.v aNh,.v Zb,.v .bool])],[],[Zi,aNh,Zb,.bool]⟩],λx=>VD F x⟩
def ZdH:Fs yb:=QK yD
theorem Zdh:ZdH.Ok:=be MP [(0,Zdf),(1,Zdg)] [VV] ⟨Vb,aw⟩ ⟨Zg7,Zg8,aw⟩
def MQ(F:Nat)(a0:yU):yO (Z4):=
 (xP F [a0]).bind λa=>
 ab a
def MR(F:Nat):Fs yb:=⟨18,[.v .u64],[],[.u64],(zN Ya),λx=>MQ F x⟩
def ZsF:Fs yb:=MR yD
theorem ZpS:ZsF.Ok:=be { still:=[4]} [] [LL] ⟨ZpK,aw⟩
abbrev Zv:Ty:=(.st [Zi,aNe,yI])
abbrev Zs:Type:=(Chan×aNd×Int)
abbrev Zs.Chan(x:Zs):Chan:=x.1
def Zzk(F:Nat)(a0:Chan):yO ((aMV×(yL Zs))):=
 ab ([],[(a0,[0,0],0)])
def MS(F:Nat):Fs yb:=⟨24,[.v Zi],[],[Zi],[⟨.ret,[(0,.aj 0 [])],[.var (.agg [.rw 1]) ae,.row Zv ae 112],[aMW,(.sl Zv)]⟩],λx=>Zzk F x⟩
def ZwX:Fs yb:=MS yD
theorem Zt7:ZwX.Ok:=be { still:=[2],cO:=[5]} [] [] trivial
def Zzl(F:Nat)(a0:aMP):yO (yU):=
 (Vn F a0).bind λa=>
 (Y3 F a).bind λb=>
 ab b
def MT(F:Nat):Fs yb:=⟨26,[.v aMU],[],[aMU],(zN .u64),λx=>Zzl F x⟩
def ZwY:Fs yb:=MT yD
theorem Zt8:ZwY.Ok:=be { still:=[2,3,4]} [] [qf,qh] ⟨tJ,tM,aw⟩
def ZnC(F:Nat)(a0:Int):yO (Bool):=
 if(a0==0)=ae then
  ab ae
 else
 ab (a0==1)
def Zlj:Fs yb:=⟨129,[.v yI],[],[yI],(zN .bool),λx=>ZnC yD x⟩
theorem ZsG:Zlj.Ok:=be { still:=[2]} [] [] trivial
def Zlk(F:Nat)(s:(yU×aMY×Int×Int)):yO ((yU×aMY×Int×Int)⊕yU):=
 if(ag (s.2.2.2 < s.2.2.1))=ae then
  (idx s.2.1 s.2.2.2).bind λa=>
  (qg F a).bind λb=>
  (YC F s.1 b).bind λc=>
  ab (.inl (c,s.2.1,s.2.2.1,wi (s.2.2.2+1)))
 else
 ab (.inr s.1)
def ZnD:Lp:=⟨[(3,.v .u64),(6,.v aMX),(7,.v yI),(8,.v yI)],[],[.u64,aMX,yI,yI],[⟨.exit 0,[(3,.v .u64)],[],[.u64]⟩],Zc (Zlk yD) yD⟩
theorem Zqr:ZnD.bR yb 191 0:=ZG { still:=[2,12,13,14]} [] [xY,JO] ⟨MH,Zji,aw⟩
def MU(F:Nat)(a0:aMY):yO (yU):=
 (Zc (Zlk F) F (1,a0,(a0.length:Int),0)).bind λa=>
 ab a
def MV:Fs yb:=⟨191,[.v aMX],[],[aMX],(zN .u64),λx=>MU yD x⟩
theorem ZnE:MV.Ok:=be { still:=[2,12,13,14]} [(0,ZnD)] [] trivial ⟨Zqr,aw⟩
def zg(F:Nat)(a0:yU)(a1:yU):yO (yU):=
 (MU F [a0,a1]).bind λa=>
 ab a
def zh:Fs yb:=⟨186,[.v .u64,.v .u64],[],[.u64,.u64],(zN .u64),λx=>zg yD x.1 x.2⟩
theorem MW:zh.Ok:=be { still:=[4,7]} [] [MV] ⟨ZnE,aw⟩
def ZjQ(F:Nat)(s:(yU×Int×aMP)):yO ((yU×Int×aMP)⊕aMP):=
 if(ag (s.2.1 < 8))=ae then
  if(ag (0<=wi (56 - (wi (8*s.2.1)))))=ae then
   let a:yU:=ZB s.1 (min (wi (56 - (wi (8*s.2.1)))).toNat 64)
   if(bi s.2.1 8)=ae then
    (s.2.2[s.2.1.toNat]?).bind λb=>
    ab (.inl (s.1,wi (s.2.1+1),s.2.2.set s.2.1.toNat (w8 (a.toNat:Int))))
   else
   ad
  else
  ad
 else
 ab (.inr s.2.2)
def Zll:Lp:=⟨[(0,.v .u64),(3,.aj 0 []),(5,.v yI)],[.var (.v aNn) ae],[.u64,yI,aNn],[⟨.exit 0,[(3,.aj 0 [])],[.var (.v aNn) ae],[aNn]⟩],Zc (ZjQ yD) yD⟩
theorem ZoU:Zll.bR yb 212 0:=ZG { still:=[2]} [] [] trivial
def ZpT(F:Nat)(a0:yU):yO (aMP):=
 (Zc (ZjQ F) F (a0,0,[0,0,0,0,0,0,0,0])).bind λa=>
 ab ((a.drop 0).take 8)
def ZnF:Fs yb:=⟨212,[.v .u64],[],[.u64],(zN aMQ),λx=>ZpT yD x⟩
theorem Zt9:ZnF.Ok:=be { still:=[2]} [(0,Zll)] [] trivial ⟨ZoU,aw⟩
def Ziw(F:Nat):(ByteArray×aMY×Int×Int×aNp)->yO ((ByteArray×aMY×Int×Int×aNp)⊕(ByteArray×aNp))
 |(e,c,b,a,d)=>
 if(ag (a < b))=ae then
  (idx c a).bind λf=>
  (ZpT F f).bind λg=>
  if(cj d.length 1 24)=ae then
   ab (.inl (e,c,b,wi (a+1),d++([g]:yL aMP)))
  else
  ad
 else
 ab (.inr (e,d))
def ZjR:Lp:=⟨[(0,.v .str),(5,.own 0 aMQ),(8,.v aMX),(9,.v yI),(10,.v yI)],[.log aMQ 141],[.str,aMX,yI,yI,aNq],[⟨.exit 0,[(0,.v .str),(5,.own 0 aMQ)],[.log aMQ 141],[.str,aNq]⟩],Zc (Ziw yD) yD⟩
def ZM2:HI:={ own:=[5,14,18],still:=[4,15,20,21,22]}
theorem ZnG:ZjR.bR yb 187 0:=ZG ZM2 [] [ZnF] ⟨Zt9,aw⟩
def zj(F:Nat)(a0:ByteArray)(a1:aMY):yO (yU):=
 (Zc (Ziw F) F (a0,a1,(a1.length:Int),0,[])).bind λa=>
 (VT F a.1 a.2).bind λb=>
 (Vn F b).bind λc=>
 ab c
def MX:Fs yb:=⟨187,[.v .str,.v aMX],[],[.str,aMX],(zN .u64),λx=>zj yD x.1 x.2⟩
theorem ZjS:MX.Ok:=be ZM2 [(0,ZjR)] [Qx,qf] ⟨Qy,tJ,aw⟩ ⟨ZnG,aw⟩
def ZKe:ByteArray:=⟨#[114,101,118,111,107,101]⟩
def ZnH(F:Nat)(a0:yU)(a1:yU):yO (yU):=
 (zj F ZKe [a0,a1]).bind λa=>
 (VC F a0 a).bind λb=>
 (zj F ZKe [a1,a0]).bind λc=>
 (VC F a1 c).bind λd=>
 (zg F b d).bind λe=>
 ab e
def Zlm:Fs yb:=⟨130,[.v .u64,.v .u64],[],[.u64,.u64],(zN .u64),λx=>ZnH yD x.1 x.2⟩
def ZNV:HI:={ still:=[4,5,8,9,10,11,14,15,16]}
theorem ZsH:Zlm.Ok:=be ZNV [] [MX,xZ,zh] ⟨ZjS,MI,MW,aw⟩
def ZM3:ByteArray:=⟨#[109,105,120]⟩
def zk(F:Nat)(a0:yU)(a1:yU):yO (yU):=
 (zj F ZM3 [a1,a0]).bind λa=>
 (Y3 F a).bind λb=>
 (zg F a0 b).bind λc=>
 ab c
def ZsI:Fs yb:=⟨131,[.v .u64,.v .u64],[],[.u64,.u64],(zN .u64),λx=>zk yD x.1 x.2⟩
theorem Zzm:ZsI.Ok:=be { still:=[4,5,8,9,10]} [] [MX,qh,zh] ⟨ZjS,tM,MW,aw⟩
def tP(F:Nat)(a0:bz)(a1:Int):yO (Bool):=
 ab (ag (a1 >= a0.1))
def MY:Fs yb:=⟨135,[.v kf,.v yI],[],[kf,yI],(zN .bool),λx=>tP yD x.1 x.2⟩
theorem ZjT:MY.Ok:=be { still:=[4]} [] [] trivial
def Zg9(F:Nat):(Int×aNb×Int×Int×Chan×yG×aNb)->yO ((Int×aNb×Int×Int×Chan×yG×aNb)⊕(Chan×yG×aNb))
 |(d,c,b,a,e,g,f)=>
 if(ag (a < b))=ae then
  (idx c a).bind λh=>
  if(bi d 2)=ae then
   (e.2.2.2.1[d.toNat]?).bind λi=>
   (tP F i h.2.2.1).bind λj=>
   if j=ae then
    if(cj f.length 1 40)=ae then
     ab (.inl (d,c,b,wi (a+1),e,g,f++([h]:yL Cond)))
    else
    ad
   else
   ab (.inl (d,c,b,wi (a+1),e,g,f))
  else
  ad
 else
 ab (.inr (e,g,f))
def Zix:Lp:=⟨[(2,.v yI),(3,.aj 0 []),(7,.own 2 Zm),(11,.v aMT),(12,.v yI),(13,.v yI)],[.var (.v Zi) ae,.var (.v Zb) ae,.log Zm 93],[yI,aMT,yI,yI,Zi,Zb,aMT],[⟨.exit 0,[(7,.own 2 Zm)],[.var (.v Zi) ae,.var (.v Zb) ae,.log Zm 93],[Zi,Zb,aMT]⟩],Zc (Zg9 yD) yD⟩
def ZM4:HI:={ own:=[7,24,27],still:=[6,20,22]}
theorem ZlZ:Zix.bR yb 138 0:=ZG ZM4 [] [MY] ⟨ZjT,aw⟩
def VW(F:Nat)(a0:Chan)(a1:yG)(a2:Int):yO (aNb):=
 (Zc (Zg9 F) F (a2,a1.2.2.1,(a1.2.2.1.length:Int),0,a0,a1,[])).bind λa=>
 ab a.2.2
def MZ:Fs yb:=⟨138,[.v Zi,.v Zb,.v yI],[],[Zi,Zb,yI],(zN aMT),λx=>VW yD x.1 x.2.1 x.2.2⟩
theorem Ziy:MZ.Ok:=be ZM4 [(0,Zix)] [] trivial ⟨ZlZ,aw⟩
def zl(F:Nat)(a0:Chan)(a1:yG)(a2:Int)(f:Int):yO (Int):=
 if(bi f 2)=ae then
  (a1.2.1[f.toNat]?).bind λa=>
  if(f==a0.2.2.2.2)=ae then
   (VW F a0 a1 a2).bind λb=>
   (tE F a1.2.2.2 (b.length:Int)).bind λc=>
   ab (wi (a - (wi (c+660))))
  else
  ab a
 else
 ad
def Zln:Fs yb:=⟨134,[.v Zi,.v Zb,.v yI,.v yI],[],[Zi,Zb,yI,yI],(zN yI),λx=>zl yD x.1 x.2.1 x.2.2.1 x.2.2.2⟩
theorem ZsJ:Zln.Ok:=be { still:=[8,20,21,22,23,25]} [] [MZ,LI] ⟨Ziy,Znk,aw⟩
def ZsK(F:Nat)(a0:yU)(a1:yU)(a2:Int):yO (Z4):=
 ab [([a1],0,0,0),([a0],0,a2,0)]
def ZpU:Fs yb:=⟨136,[.v .u64,.v .u64,.v yI],[],[.u64,.u64,yI],(zN Ya),λx=>ZsK yD x.1 x.2.1 x.2.2⟩
theorem ZwZ:ZpU.Ok:=be {} [] [] trivial
def Wa(F:Nat)(a0:yU):yO (Z4):=
 ab [([a0],0,0,0),([],0,16,0)]
def Zlo:Fs yb:=⟨137,[.v .u64],[],[.u64],(zN Ya),λx=>Wa yD x⟩
theorem ZsL:Zlo.Ok:=be {} [] [] trivial
def ZjU(F:Nat)(a0:aMP)(a1:aMP):yO (Int):=
 ab (Go.Lib.compareBytes a0 a1)
def Ziz:Fs yb:=⟨141,[.v aMQ,.v aMQ],[],[aMQ,aMQ],(zN yI),λx=>ZjU yD x.1 x.2⟩
theorem ZoV:Ziz.Ok:=be { still:=[4,5,6]} [] [] trivial
abbrev lL:Ty:=(.st [yI,Zm])
abbrev lM:Type:=(Int×Cond)
abbrev lM.Cond(x:lM):Cond:=x.2
abbrev Zo:Ty:=(.st [Wx,lL,aMU])
abbrev ZA:Type:=(Out×lM×aMP)
def ZjV(F:Nat)(a0:ZA)(a1:ZA):yO (Int):=
 (YD F a0.1.1 a1.1.1).bind λa=>
 (ZjU F a0.2.2 a1.2.2).bind λb=>
 (YD F a0.2.1.1 a1.2.1.1).bind λc=>
 (YD F a0.2.1.2.1 a1.2.1.2.1).bind λd=>
 (YD F a0.2.1.2.2.1 a1.2.1.2.2.1).bind λe=>
 (tD F [a,b,c,d,e]).bind λf=>
 ab f
def ZiA:Fs yb:=⟨140,[.v Zo,.v Zo],[],[Zo,Zo],(zN yI),λx=>ZjV yD x.1 x.2⟩
def ZNW:HI:={ still:=[4,7,10,13,15,19,22,27,31,36,40,42],eD:=[13,15]}
theorem ZoW:ZiA.Ok:=be ZNW [] [LD,Ziz,LC] ⟨ZeX,ZoV,Zld,aw⟩
abbrev ZF:Ty:=(.st [bu,(.sl lL)])
abbrev WW:Type:=(Tx×(yL lM))
abbrev WW.Tx(x:WW):Tx:=x.1
def ZM5:ByteArray:=⟨#[108,111,99,107]⟩
def Zu9(F:Nat)(a0:Z4):yO (aMP):=
 (XJ F a0).bind λa=>
 if(!a)=ae then
  ab dt
 else
 (qa F a0).bind λb=>
 (VT F ZM5 [b]).bind λc=>
 ab c
def ZsM:Fs yb:=⟨133,[.v Ya],[],[Ya],(zN aMU),λx=>Zu9 yD x⟩
theorem Zzn:ZsM.Ok:=be { still:=[3,7,9]} [] [Q3,xE,Qx] ⟨tf,KP,Qy,aw⟩
abbrev _root_.aNg:=yL ZA
def Yb(F:Nat)(a0:Int)(a1:Z4)(a2:lM)(g:aMV)(f:aNg):yO ((aMV×aNg)):=
 (Zu9 F a1).bind λa=>
 if(cj f.length 1 112)=ae then
  let b:aNg:=f++([((a0,a1),a2,a)]:yL ZA)
  ab (()::g,b)
 else
 ad
abbrev _root_.aNk:Go.Ev.Ty:=.sl Zo
def NA:Fs yb:=⟨132,[.v yI,.v Ya,.v lL,.aj 0 []],[.var (.rw 1) ae,.row Zo ae 234],[yI,Ya,lL,aMW,aNk],[⟨.ret,[(0,.bp [])],[.var (.rw 1) ae,.row Zo ae 234],[aMW,aNk]⟩],λx=>Yb yD x.1 x.2.1 x.2.2.1 x.2.2.2.1 x.2.2.2.2⟩
theorem Zha:NA.Ok:=be { own:=[7,16],still:=[12]} [] [ZsM] ⟨Zzn,aw⟩
abbrev dT7:Type:=(Int×Int×yU×yU×yU×aNb×Int×Int×Chan×yG×WW×aMV×aNg)
abbrev ZNX:yL Ty:=[yI,yI,.u64,.u64,.u64,aMT,yI,yI,Zi,Zb,ZF,aMW,aNk]
def ZdI(F:Nat):(Int×Int×Int×Int×aMV×aNg)->yO ((Int×Int×Int×Int×aMV×aNg)⊕(Int×Int×Int×aMV×aNg))
 |(b,d,e,a,f,c)=>
 if(ag (a > b))=ae then
  if(bi a c.length)=ae then
   (c[a.toNat]?).bind λg=>
   if(bi (wi (a - 1)) c.length)=ae then
    (c[(wi (a - 1)).toNat]?).bind λh=>
    (ZjV F g h).bind λi=>
    if(ag (i < 0))=ae then
     if(bi (wi (a - 1)) c.length)=ae then
      (c[(wi (a - 1)).toNat]?).bind λj=>
      if(bi a c.length)=ae then
       (c[a.toNat]?).bind λk=>
       if(bi a c.length)=ae then
        (c[a.toNat]?).bind λl=>
        if(bi (wi (a - 1)) ((c.set a.toNat j).length))=ae then
         ((c.set a.toNat j)[(wi (a - 1)).toNat]?).bind λm=>
         let n:aNg:=(c.set a.toNat j).set ((wi (a - 1)).toNat) k
         ab (.inl (b,d,e,wi (a - 1),f,n))
        else
        ad
       else
       ad
      else
      ad
     else
     ad
    else
    ab (.inr (b,d,e,f,c))
   else
   ad
  else
  ad
 else
 ab (.inr (b,d,e,f,c))
def Zfb:Lp:=⟨[(0,.rw 0),(1,.v yI),(2,.v yI),(3,.fn 140 []),(8,.v yI),(9,.v yI)],[.row Zo ae 234],[yI,yI,yI,yI,aMW,aNk],[⟨.exit 2,[(0,.rw 0),(1,.v yI),(2,.v yI),(3,.fn 140 []),(8,.v yI)],[.row Zo ae 234],[yI,yI,yI,aMW,aNk]⟩],Zc (ZdI yD) yD⟩
def NB:HI:={ still:=[26,31],cO:=[0,37,39]}
theorem ZiJ:Zfb.bR yb 213 1:=ZG NB [] [ZiA] ⟨ZoW,aw⟩
def ZdJ(F:Nat):(Int×Int×Int×aMV×aNg)->yO ((Int×Int×Int×aMV×aNg)⊕(aMV×aNg))
 |(h,g,f,i,j)=>
 if(ag (f < g))=ae then
  (Zc (ZdI F) F (h,g,f,f,i,j)).bind λ(a,b,c,d,e)=>
  ab (.inl (a,b,wi (c+1),d,e))
 else
 ab (.inr (i,j))
def Zfc:Lp:=⟨[(0,.rw 0),(1,.v yI),(2,.v yI),(3,.fn 140 []),(8,.v yI)],[.row Zo ae 234],[yI,yI,yI,aMW,aNk],[⟨.exit 0,[],[.row Zo ae 234],[aMW,aNk]⟩],Zc (ZdJ yD) yD⟩
theorem ZiK:Zfc.bR yb 213 0:=ZG NB [(1,Zfb)] [] trivial ⟨ZiJ,aw⟩
def NC(F:Nat)(a1:Int)(a2:Int)(f:aMV)(g:aNg):yO ((aMV×aNg)):=
 (Zc (ZdJ F) F (a1,a2,wi (a1+1),f,g)).bind λa=>
 ab (a.1,a.2)
def ND:Fs yb:=⟨213,[.rw 0,.v yI,.v yI,.fn 140 []],[.row Zo ae 234],[yI,yI,aMW,aNk],[⟨.ret,[(0,.bp [])],[.row Zo ae 234],[aMW,aNk]⟩],λx=>NC yD x.1 x.2.1 x.2.2.1 x.2.2.2⟩
theorem Zfd:ND.Ok:=be NB [(0,Zfc)] [] trivial ⟨ZiK,aw⟩
def ZdK(F:Nat):(Int×Int×Int×Int×aMV×aNg)->yO ((Int×Int×Int×Int×aMV×aNg)⊕(Int×Int×Int×aMV×aNg))
 |(b,f,c,a,d,e)=>
 if(ag (a<=b))=ae then
  (NC F c a d e).bind λg=>
  if(ag (d.length=g.1.length)&&(ag (40=40)&&ag ((yx e.length ()).length=g.2.length)))=ae then
   ab (.inl (b,f,a,wi (a+f),g.1,g.2))
  else
  ad
 else
 ab (.inr (b,f,c,d,e))
def Zfe:Lp:=⟨[(0,.rw 0),(1,.v yI),(2,.fn 140 []),(6,.v yI),(7,.v yI),(8,.v yI)],[.row Zo ae 234],[yI,yI,yI,yI,aMW,aNk],[⟨.exit 0,[(0,.rw 0),(1,.v yI),(2,.fn 140 []),(6,.v yI),(7,.v yI)],[.row Zo ae 234],[yI,yI,yI,aMW,aNk]⟩],Zc (ZdK yD) yD⟩
def zm:HI:={ still:=[15,16,17,24,25,26,37,40,41,42,56,57,58,59],cO:=[0,14,23,36,55]}
theorem ZiL:Zfe.bR yb 188 0:=IZ (fi:={ hi:=zm,gh:=[(3,.ic 0)]}) (aK:={ l:=[ND]}) (oj ⟨Zfd,aw⟩)
def ZdL(F:Nat):(Int×Int×Int×Int×aMV×aNg)->yO ((Int×Int×Int×Int×aMV×aNg)⊕(Int×Int×Int×aMV×aNg))
 |(b,c,d,a,e,f)=>
 if(ag (a<=b))=ae then
  ad
 else
 ab (.inr (b,c,d,e,f))
def Zff:Lp:=⟨[(1,.v yI),(2,.fn 140 []),(6,.v yI),(7,.v yI),(8,.v yI)],[.row Zo ae 234],[yI,yI,yI,yI,aMW,aNk],[⟨.exit 4,[(1,.v yI),(2,.fn 140 []),(6,.v yI),(7,.v yI)],[.row Zo ae 234],[yI,yI,yI,aMW,aNk]⟩],Zc (ZdL yD) yD⟩
theorem ZiM:Zff.bR yb 188 2:=ZG zm [] [] trivial
def ZdM(F:Nat)(s:(Int×Int×aMV×aNg)):yO ((Int×Int×aMV×aNg)⊕(aMV×aNg)):=
 if(ag (s.2.1 < s.1))=ae then
  (Zc (ZdL F) F (s.1,s.2.1,0,wi (2*s.2.1),s.2.2.1,s.2.2.2)).bind λ(c,b,a,d,e)=>
  if(ag ((wi (a+b)) < c))=ae then
   ad
  else
  ab (.inl (c,wi (b*2),d,e))
 else
 ab (.inr (s.2.2.1,s.2.2.2))
def Zfg:Lp:=⟨[(0,.an),(1,.v yI),(2,.fn 140 []),(6,.v yI)],[.row Zo ae 234],[yI,yI,aMW,aNk],[⟨.exit 2,[],[.row Zo ae 234],[aMW,aNk]⟩],Zc (ZdM yD) yD⟩
theorem ZiN:Zfg.bR yb 188 1:=ZG zm [(2,Zff)] [] trivial ⟨ZiM,aw⟩
def Zhb(F:Nat)(a1:Int)(h:aMV)(j:aNg):yO ((aMV×aNg)):=
 (Zc (ZdK F) F (a1,20,0,20,h,j)).bind λ(b,e,a,c,d)=>
 (NC F a b c d).bind λf=>
 (Zc (ZdM F) F (b,e,f.1,f.2)).bind λg=>
 ab (g.1,g.2)
def Zf3:Fs yb:=⟨188,[.rw 0,.v yI,.fn 140 []],[.row Zo ae 234],[yI,aMW,aNk],[⟨.ret,[(0,.bp [])],[.row Zo ae 234],[aMW,aNk]⟩],λx=>Zhb yD x.1 x.2.1 x.2.2⟩
theorem Zl0:Zf3.Ok:=be zm [(0,Zfe),(1,Zfg)] [ND] ⟨Zfd,aw⟩ ⟨ZiL,ZiN,aw⟩
def tQ(F:Nat)(g:aMV)(f:aNg):yO ((aMV×aNg)):=
 (Zhb F (f.length:Int) g f).bind λa=>
 ab (a.1,a.2)
def Zlp:Fs yb:=⟨139,[.rw 0,.fn 140 []],[.row Zo ae 234],[aMW,aNk],[⟨.ret,[(0,.bp [])],[.row Zo ae 234],[aMW,aNk]⟩],λx=>tQ yD x.1 x.2⟩
theorem ZsN:Zlp.Ok:=be { still:=[6,7],cO:=[0,4]} [] [Zf3] ⟨Zl0,aw⟩
abbrev dT8:Type:=(Int×Int×Chan×yG×WW×aMV×aNg×aMZ×Int×(yL lM)×aNf)
abbrev dT9:Type:=(Chan×yG×WW×aMV×aNg×aMZ×Int×(yL lM)×aNf)
def ZKf:yL bG:=[.var (.v Zi) ae,.var (.v Zb) ae,.var (.v ZF) ae,.var (.rw 4) ae,.row Zo ae 234,.var (.agg [.agg [.v aNc,.own 7 Wx,.v yI],.own 6 lL]) ae,.log lL 181,.log Wx 79]
abbrev ZNY:yL Ty:=[Zi,Zb,ZF,aMW,aNk,aNc,yI,(.sl lL),aNj]
abbrev ZNZ:yL Ty:=[yI,yI,Zi,Zb,ZF,aMW,aNk,aNc,yI,(.sl lL),aNj]
def VM(F:Nat):dT7->yO (dT7⊕(Int×Chan×yG×WW×aMV×aNg))
 |(d,h,e,g,f,c,b,a,k,l,m,i,j)=>
 if(ag (a < b))=ae then
  (idx c a).bind λn=>
  if(n.1==d)=ae then
   (Yb F n.2.2.1 [([e],0,0,0),([f],0,0,n.2.2.2.1),([g],n.2.2.2.2,h,0)] (5,n) i j).bind λo=>
   ab (.inl (d,h,e,g,f,c,b,wi (a+1),k,l,m,o.1,o.2))
  else
  (Yb F n.2.2.1 [([e],0,0,0),([g],0,h,n.2.2.2.1),([f],n.2.2.2.2,0,0)] (6,n) i j).bind λp=>
  ab (.inl (d,h,e,g,f,c,b,wi (a+1),k,l,m,p.1,p.2))
 else
 ab (.inr (d,k,l,m,i,j))
abbrev zT:List bG:=[.var (.v Zi) ae,.var (.v Zb) ae,.var (.v ZF) ae,.var (.rw 4) ae,.row Zo ae 234]
def ZjW:Lp:=⟨[(2,.v yI),(4,.aj 0 []),(5,.aj 1 []),(8,.aj 2 []),(11,.v yI),(12,.v .u64),(13,.v .u64),(14,.v .u64),(15,.aj 3 []),(16,.fn 132 [.aj 3 []]),(139,.v aMT),(140,.v yI),(141,.v yI)],zT,ZNX,[⟨.exit 1,[(2,.v yI),(4,.aj 0 []),(5,.aj 1 []),(8,.aj 2 []),(15,.aj 3 [])],zT,[yI,Zi,Zb,ZF,aMW,aNk]⟩],Zc (VM yD) yD⟩
def ZN0:HI:={ own:=[208,212,216,220],still:=[9,28,32,38,39,54,55,61,62,68,69,72,73,74,75,80,81,84,89,90,91,92,93,94,95,97,98,99,100,105,106,109,114,115,116,123,124,125,132,133,134,136,137,138,176,183,184],cO:=[187],gR:=[(21,[([0],.u64,27)]),(22,[([0],.u64,27)])]}
theorem ZnJ:ZjW.bR yb 72 0:=ZG ZN0 [] [NA] ⟨Zha,aw⟩
def VN(F:Nat):dT8->yO (dT8⊕dT9)
 |(b,a,f,g,h,i,c,j,k,e,d)=>
 if(ag (a < b))=ae then
  if(bi a c.length)=ae then
   (c[a.toNat]?).bind λl=>
   if(cj d.length 1 32)=ae then
    if(cj e.length 1 48)=ae then
     let m:(yL lM):=e++([l.2.1]:yL lM)
     ab (.inl (b,wi (a+1),f,g,h,i,c,j,k,m,d++([l.1]:yL Out)))
    else
    ad
   else
   ad
  else
  ad
 else
 ab (.inr (f,g,h,i,c,j,k,e,d))
def ZjX:Lp:=⟨[(8,.aj 2 []),(24,.aj 5 []),(200,.rw 4),(201,.v yI),(202,.v yI)],ZKf,ZNZ,[⟨.exit 3,[(8,.aj 2 []),(24,.aj 5 [])],ZKf,ZNY⟩],Zc (VN yD) yD⟩
def ZM6:HI:={ own:=[208,212,216,220],still:=[9,28,32,38,39,54,55,61,62,68,69,72,73,74,75,80,81,84,89,90,91,92,93,94,95,97,98,99,100,105,106,109,114,115,116,123,124,125,132,133,134,136,137,138,176,183,184],cO:=[187],gR:=[(21,[([0],.u64,27)]),(22,[([0],.u64,27)]),(24,[([1],lL,181),([0,1],Wx,79)])]}
theorem ZnK:ZjX.bR yb 72 1:=ZG ZM6 [] [] trivial
def WM(F:Nat)(a0:Chan)(a1:yG)(a2:Int)(a3:yU):yO ((WW×Int)):=
 (ZnC F a2).bind λk=>
 if(!k)=ae then
  ab ((([],[],0),[]),1)
 else
 (Xc F a3).bind λl=>
 if(!l)=ae then
  ab ((([],[],0),[]),1)
 else
 (au F a0 a1).bind λm=>
 if(!m)=ae then
  ab ((([],[],0),[]),14)
 else
 if(bi (wi (1 - a2)) 2)=ae then
  (a0.2.2.2.1[(wi (1 - a2)).toNat]?).bind λn=>
  if(bi (wi (1 - a2)) 2)=ae then
   (a0.2.2.1[(wi (1 - a2)).toNat]?).bind λo=>
   (ZnH F o.2.2.2.2 a3).bind λp=>
   if(bi a2 2)=ae then
    (a0.2.2.1[a2.toNat]?).bind λq=>
    (zk F q.2.2.2.1 a3).bind λr=>
    if(bi (wi (1 - a2)) 2)=ae then
     (a0.2.2.1[(wi (1 - a2)).toNat]?).bind λs=>
     (zk F s.2.2.2.1 a3).bind λt=>
     (zl F a0 a1 a2 a2).bind λu=>
     if(bi a2 2)=ae then
      (a0.2.2.2.1[a2.toNat]?).bind λv=>
      (tP F v u).bind λw=>
      if w=ae then
       if(bi a2 2)=ae then
        (a0.2.2.1[a2.toNat]?).bind λx=>
        (zk F x.2.2.1 a3).bind λy=>
        (ZsK F y p n.2.2.1).bind λz=>
        (Yb F u z (1,(0,0,0,0,0)) [] []).bind λA=>
        (zl F a0 a1 a2 (wi (1 - a2))).bind λB=>
        if(bi a2 2)=ae then
         (a0.2.2.2.1[a2.toNat]?).bind λC=>
         (tP F C B).bind λD=>
         if D=ae then
          if(bi (wi (1 - a2)) 2)=ae then
           (a0.2.2.1[(wi (1 - a2)).toNat]?).bind λE=>
           (MQ F E.2.1).bind λG=>
           (Yb F B G (2,(0,0,0,0,0)) A.1 A.2).bind λH=>
           if(bi a2 2)=ae then
            (a0.2.2.1[a2.toNat]?).bind λI=>
            (Wa F I.1).bind λJ=>
            (Yb F 330 J (3,(0,0,0,0,0)) H.1 H.2).bind λK=>
            if(bi (wi (1 - a2)) 2)=ae then
             (a0.2.2.1[(wi (1 - a2)).toNat]?).bind λL=>
             (Wa F L.1).bind λM=>
             (Yb F 330 M (4,(0,0,0,0,0)) K.1 K.2).bind λN=>
             (VW F a0 a1 a2).bind λO=>
             (Zc (VM F) F (a2,n.2.2.1,p,r,t,O,(O.length:Int),0,a0,a1,(([],[],0),[]),N.1,N.2)).bind λ(j,g,h,i,e,f)=>
             (tQ F e f).bind λP=>
             if(ag (e.length=P.1.length)&&(ag (40=40)&&ag ((yx f.length ()).length=P.2.length)))=ae then
              (Zc (VN F) F ((P.2.length:Int),0,g,h,i,P.1,P.2,[(g.1,(0,[],0))],wi ((wi (2*h.1))+j),[],[])).bind λ(_,_,_,_,_,a,c,d,b)=>
              ab (((a,b,c),d),0)
             else
             ad
            else
            ad
           else
           ad
          else
          ad
         else
         if(bi a2 2)=ae then
          (a0.2.2.1[a2.toNat]?).bind λQ=>
          (Wa F Q.1).bind λR=>
          (Yb F 330 R (3,(0,0,0,0,0)) A.1 A.2).bind λS=>
          if(bi (wi (1 - a2)) 2)=ae then
           (a0.2.2.1[(wi (1 - a2)).toNat]?).bind λT=>
           (Wa F T.1).bind λU=>
           (Yb F 330 U (4,(0,0,0,0,0)) S.1 S.2).bind λV=>
           (VW F a0 a1 a2).bind λW=>
           (Zc (VM F) F (a2,n.2.2.1,p,r,t,W,(W.length:Int),0,a0,a1,(([],[],0),[]),V.1,V.2)).bind λ(j,g,h,i,e,f)=>
           (tQ F e f).bind λX=>
           if(ag (e.length=X.1.length)&&(ag (40=40)&&ag ((yx f.length ()).length=X.2.length)))=ae then
            (Zc (VN F) F ((X.2.length:Int),0,g,h,i,X.1,X.2,[(g.1,(0,[],0))],wi ((wi (2*h.1))+j),[],[])).bind λ(_,_,_,_,_,a,c,d,b)=>
            ab (((a,b,c),d),0)
           else
           ad
          else
          ad
         else
         ad
        else
        ad
       else
       ad
      else
      (zl F a0 a1 a2 (wi (1 - a2))).bind λY=>
      if(bi a2 2)=ae then
       (a0.2.2.2.1[a2.toNat]?).bind λZ=>
       (tP F Z Y).bind λei=>
       if ei=ae then
        if(bi (wi (1 - a2)) 2)=ae then
         (a0.2.2.1[(wi (1 - a2)).toNat]?).bind λej=>
         (MQ F ej.2.1).bind λep=>
         (Yb F Y ep (2,(0,0,0,0,0)) [] []).bind λeu=>
         if(bi a2 2)=ae then
          (a0.2.2.1[a2.toNat]?).bind λew=>
          (Wa F ew.1).bind λez=>
          (Yb F 330 ez (3,(0,0,0,0,0)) eu.1 eu.2).bind λeA=>
          if(bi (wi (1 - a2)) 2)=ae then
           (a0.2.2.1[(wi (1 - a2)).toNat]?).bind λeB=>
           (Wa F eB.1).bind λeC=>
           (Yb F 330 eC (4,(0,0,0,0,0)) eA.1 eA.2).bind λeD=>
           (VW F a0 a1 a2).bind λeE=>
           (Zc (VM F) F (a2,n.2.2.1,p,r,t,eE,(eE.length:Int),0,a0,a1,(([],[],0),[]),eD.1,eD.2)).bind λ(j,g,h,i,e,f)=>
           (tQ F e f).bind λeG=>
           if(ag (e.length=eG.1.length)&&(ag (40=40)&&ag ((yx f.length ()).length=eG.2.length)))=ae then
            (Zc (VN F) F ((eG.2.length:Int),0,g,h,i,eG.1,eG.2,[(g.1,(0,[],0))],wi ((wi (2*h.1))+j),[],[])).bind λ(_,_,_,_,_,a,c,d,b)=>
            ab (((a,b,c),d),0)
           else
           ad
          else
          ad
         else
         ad
        else
        ad
       else
       if(bi a2 2)=ae then
        (a0.2.2.1[a2.toNat]?).bind λeI=>
        (Wa F eI.1).bind λeJ=>
        (Yb F 330 eJ (3,(0,0,0,0,0)) [] []).bind λeK=>
        if(bi (wi (1 - a2)) 2)=ae then
         (a0.2.2.1[(wi (1 - a2)).toNat]?).bind λeL=>
         (Wa F eL.1).bind λeM=>
         (Yb F 330 eM (4,(0,0,0,0,0)) eK.1 eK.2).bind λeN=>
         (VW F a0 a1 a2).bind λeO=>
         (Zc (VM F) F (a2,n.2.2.1,p,r,t,eO,(eO.length:Int),0,a0,a1,(([],[],0),[]),eN.1,eN.2)).bind λ(j,g,h,i,e,f)=>
         (tQ F e f).bind λeP=>
         if(ag (e.length=eP.1.length)&&(ag (40=40)&&ag ((yx f.length ()).length=eP.2.length)))=ae then
          (Zc (VN F) F ((eP.2.length:Int),0,g,h,i,eP.1,eP.2,[(g.1,(0,[],0))],wi ((wi (2*h.1))+j),[],[])).bind λ(_,_,_,_,_,a,c,d,b)=>
          ab (((a,b,c),d),0)
         else
         ad
        else
        ad
       else
       ad
      else
      ad
     else
     ad
    else
    ad
   else
   ad
  else
  ad
 else
 ad
def Zua:Fs yb:=⟨72,[.v Zi,.v Zb,.v yI,.v .u64],[],[Zi,Zb,yI,.u64],[⟨.ret,[(0,.bp [.v ZF,.v yI])],[],[ZF,yI]⟩],λx=>WM yD x.1 x.2.1 x.2.2.1 x.2.2.2⟩
theorem ZsO:Zua.Ok:=wS (fi:={ hi:=ZM6,lp:=[(0,ZjW),(1,ZjX)],gh:=[(11,.cO 15 [] Zo 234),(31,.ig 15)]}) (aK:={ l:=[Zlj,WS,VV,Zlm,ZsI,Zln,MY,ZpU,NA,ZsF,Zlo,MZ,Zlp]}) (oj ⟨ZsG,W9,Vb,ZsH,Zzm,ZsJ,ZjT,ZwZ,Zha,ZpS,ZsL,Ziy,ZsN,aw⟩) ⟨ZnJ,ZnK,aw⟩
def NE(F:Nat)(a0:yU):yO (Bool):=
 ab (ag (a0 < 2305843009213688669))
def NF:Fs yb:=⟨190,[.v .u64],[],[.u64],(zN .bool),λx=>NE yD x⟩
theorem ZjY:NF.Ok:=be { still:=[2]} [] [] trivial
def Zva(F:Nat)(a0:yU):yO (Bool):=
 (NE F a0).bind λa=>
 if a=ae then
  ab (a0 !=0)
 else
 ab af
def ZsP:Fs yb:=⟨143,[.v .u64],[],[.u64],(zN .bool),λx=>Zva yD x⟩
theorem Zzo:ZsP.Ok:=be { still:=[2,3]} [] [NF] ⟨ZjY,aw⟩
def ZjZ(F:Nat)(s:(yU×Int×Int×aMP)):yO ((yU×Int×Int×aMP)⊕aMP):=
 if(ag (s.2.2.1 < s.2.1))=ae then
  if(ag (0<=wi (56 - (wi (8*s.2.2.1)))))=ae then
   let a:yU:=ZB s.1 (min (wi (56 - (wi (8*s.2.2.1)))).toNat 64)
   if(bi s.2.2.1 8)=ae then
    (s.2.2.2[(0+s.2.2.1.toNat)]?).bind λb=>
    let c:aMP:=s.2.2.2.set (0+s.2.2.1.toNat) (w8 (a.toNat:Int))
    ab (.inl (s.1,s.2.1,wi (s.2.2.1+1),c))
   else
   ad
  else
  ad
 else
 ab (.inr s.2.2.2)
def Zlq:Lp:=⟨[(0,.v .u64),(3,.view 0 [] 1 0 8),(7,.v yI),(8,.v yI)],[.var (.v aNn) ae],[.u64,yI,yI,aNn],[⟨.exit 0,[(3,.view 0 [] 1 0 8)],[.var (.v aNn) ae],[aNn]⟩],Zc (ZjZ yD) yD⟩
theorem ZoX:Zlq.bR yb 145 0:=ZG { still:=[2]} [] [] trivial
def zn(F:Nat)(a0:yU):yO (aMP):=
 (Zc (ZjZ F) F (a0,8,0,[0,0,0,0,0,0,0,0])).bind λa=>
 ab ((a.drop 0).take 8)
def NG:Fs yb:=⟨145,[.v .u64],[],[.u64],(zN aMQ),λx=>zn yD x⟩
theorem Zlr:NG.Ok:=be { still:=[2]} [(0,Zlq)] [] trivial ⟨ZoX,aw⟩
def ZM7:ByteArray:=⟨#[115,105,103]⟩
def NH(F:Nat)(a0:yU)(a1:yU)(a2:aMP):yO (yU):=
 (zn F a0).bind λa=>
 (zn F a1).bind λb=>
 (VT F ZM7 [a,b,a2]).bind λc=>
 (Vn F c).bind λd=>
 ab d
def NI:Fs yb:=⟨192,[.v .u64,.v .u64,.v aMU],[],[.u64,.u64,aMU],(zN .u64),λx=>NH yD x.1 x.2.1 x.2.2⟩
def ZN1:HI:={ still:=[6,7,9,12,13],eD:=[11]}
theorem Zf5:NI.Ok:=be ZN1 [] [NG,Qx,qf] ⟨Zlr,Qy,tJ,aw⟩
def tS(F:Nat)(a0:yU):yO (yU):=
 ab (a0 % 2305843009213688669)
def NJ:Fs yb:=⟨215,[.v .u64],[],[.u64],(zN .u64),λx=>tS yD x⟩
theorem ZpV:NJ.Ok:=be { still:=[2]} [] [] trivial
def ZiB(F:Nat)(a0:yU)(a1:yU):yO (yU):=
 ab ((a0+a1) % 2305843009213688669)
def Zhd:Fs yb:=⟨216,[.v .u64,.v .u64],[],[.u64,.u64],(zN .u64),λx=>ZiB yD x.1 x.2⟩
theorem ZnL:Zhd.Ok:=be { still:=[4]} [] [] trivial
def ZsQ(F:Nat)(a0:yU)(a1:yU):yO (yU):=
 (tS F a0).bind λa=>
 (tS F a1).bind λb=>
 (ZiB F a b).bind λc=>
 ab c
def ZpW:Fs yb:=⟨194,[.v .u64,.v .u64],[],[.u64,.u64],(zN .u64),λx=>ZsQ yD x.1 x.2⟩
theorem Zw1:ZpW.Ok:=be { still:=[4,5,6,7,8]} [] [NJ,Zhd] ⟨ZpV,ZnL,aw⟩
def Zhe(F:Nat)(a0:yU)(a1:yU):yO (yU):=
 (xb F a0 a1).bind λa=>
 (Vk F a.1 a.2 2305843009213688669).bind λb=>
 ab b
def Zf6:Fs yb:=⟨217,[.v .u64,.v .u64],[],[.u64,.u64],(zN .u64),λx=>Zhe yD x.1 x.2⟩
theorem Zl2:Zf6.Ok:=be { still:=[4,8,9,13,14]} [] [JN,wZ] ⟨Zk3,JL,aw⟩
def ZsR(F:Nat)(a0:yU)(a1:yU):yO (yU):=
 (tS F a0).bind λa=>
 (tS F a1).bind λb=>
 (Zhe F a b).bind λc=>
 ab c
def ZpX:Fs yb:=⟨195,[.v .u64,.v .u64],[],[.u64,.u64],(zN .u64),λx=>ZsR yD x.1 x.2⟩
theorem Zw2:ZpX.Ok:=be { still:=[4,5,6,7,8]} [] [NJ,Zf6] ⟨ZpV,Zl2,aw⟩
def ZnM(F:Nat)(a0:yU)(a1:yU)(a2:aMP)(g:yU):yO (gr):=
 (Y3 F a1).bind λa=>
 (zg F a g).bind λb=>
 (Y3 F a0).bind λc=>
 (NH F b c a2).bind λd=>
 (ZsR F d a0).bind λe=>
 (ZsQ F a1 e).bind λf=>
 ab (b,f)
def Zls:Fs yb:=⟨144,[.v .u64,.v .u64,.v aMU,.v .u64],[],[.u64,.u64,aMU,.u64],(zN ij),λx=>ZnM yD x.1 x.2.1 x.2.2.1 x.2.2.2⟩
def ZN2:HI:={ still:=[9,10,11,14,16,17,18,19,20,21,22]}
theorem ZsS:Zls.Ok:=be ZN2 [] [qh,zh,NI,ZpX,ZpW] ⟨tM,MW,Zf5,Zw2,Zw1,aw⟩
def ZM8:ByteArray:=⟨#[110,111,110,99,101]⟩
def ZsT(F:Nat)(a0:yU)(a1:aMP):yO (gr):=
 (Zva F a0).bind λa=>
 if(!a)=ae then
  ab (0,0)
 else
 (zn F a0).bind λb=>
 (VT F ZM8 [b,a1]).bind λc=>
 (Vn F c).bind λd=>
 (ZnM F a0 d a1 1).bind λe=>
 ab e
def ZpY:Fs yb:=⟨74,[.v .u64,.v aMU],[],[.u64,aMU],(zN ij),λx=>ZsT yD x.1 x.2⟩
def ZN3:HI:={ still:=[5,9,10,13,14,15,16],eD:=[12]}
theorem Zw3:ZpY.Ok:=be ZN3 [] [ZsP,NG,Qx,qf,Zls] ⟨Zzo,Zlr,Qy,tJ,ZsS,aw⟩
def Zw4(F:Nat)(a0:dE)(a1:Tx):yO (gr):=
 (eC F a1).bind λa=>
 (ZsT F a0.1 a).bind λb=>
 ab b
def NK(F:Nat):Fs yb:=⟨31,[.v QI,.v bu],[],[QI,bu],(zN ij),λx=>Zw4 F x.1 x.2⟩
def Zub:Fs yb:=NK yD
theorem ZsU:Zub.Ok:=be { still:=[6,7,8]} [] [KT,ZpY] ⟨KU,Zw3,aw⟩
def ZsV(F:Nat)(a0:yU):yO (yU):=
 (qg F a0).bind λa=>
 (Q2 F a 2305843009213688668).bind λb=>
 ab b
def ZpZ:Fs yb:=⟨193,[.v .u64],[],[.u64],(zN .u64),λx=>ZsV yD x⟩
theorem Zw5:ZpZ.Ok:=be { still:=[2,3,4]} [] [xY,xc] ⟨MH,JT,aw⟩
def ZnN(F:Nat)(a0:yU)(a1:aMP)(a2:yU)(j:gr):yO (Bool):=
 if(a0==1)=ae then
  ab af
 else
 (Xc F a0).bind λa=>
 if(!a)=ae then
  ab af
 else
 (Xc F a2).bind λb=>
 if(!b)=ae then
  ab af
 else
 (Xc F j.1).bind λc=>
 if(!c)=ae then
  ab af
 else
 (NE F j.2).bind λd=>
 if(!d)=ae then
  ab af
 else
 (NH F j.1 a0 a1).bind λe=>
 (VC F a0 e).bind λf=>
 (ZsV F a2).bind λg=>
 (MU F [j.1,f,g]).bind λh=>
 (Y3 F j.2).bind λi=>
 ab (i==h)
def Zlt:Fs yb:=⟨142,[.v .u64,.v aMU,.v .u64,.v ij],[],[.u64,aMU,.u64,ij],(zN .bool),λx=>ZnN yD x.1 x.2.1 x.2.2.1 x.2.2.2⟩
def ZN4:HI:={ still:=[8,13,18,24,30,36,38,39,40,41,43,45,48]}
theorem ZsW:Zlt.Ok:=be ZN4 [] [WS,NF,NI,xZ,ZpZ,MV,qh] ⟨W9,ZjY,Zf5,MI,Zw5,ZnE,tM,aw⟩
def Zw6(F:Nat)(a0:yU)(a1:aMP)(a2:gr):yO (Bool):=
 (ZnN F a0 a1 1 a2).bind λa=>
 ab a
def NL(F:Nat):Fs yb:=⟨73,[.v .u64,.v aMU,.v ij],[],[.u64,aMU,ij],(zN .bool),λx=>Zw6 F x.1 x.2.1 x.2.2⟩
def Zuc:Fs yb:=NL yD
theorem ZsX:Zuc.Ok:=be { still:=[6,7,8,9]} [] [Zlt] ⟨ZsW,aw⟩
def ZkS(F:Nat):yO (aC):=
 ab ([[1,0,0,0,0,0,0,0,0,0,0,0,0,0,0,0,0,0,0,0,0,0,0,0,0,0,0,0,0,0,0,0],[2,0,0,0,0,0,0,0,0,0,0,0,0,0,0,0,0,0,0,0,0,0,0,0,0,0,0,0,0,0,0,0]],[(100,500,10,4,5,9000),(100,500,10,4,5,9000)],[6000,4000],0,0,[])
def VY(F:Nat):Fs yb:=⟨38,[],[],[],(zN Zp),λx=>ZkS F⟩
def Zj0:Fs yb:=VY yD
theorem ZiO:Zj0.Ok:=be {} [] [] trivial
def Wb(F:Nat)(s:(Int×Tx)):yO ((Int×Tx)⊕((Bool×Tx)⊕Tx)):=
 if(ag (s.1 < (s.2.1.length:Int)))=ae then
  (idx s.2.1 s.1).bind λa=>
  if(ag ((a.2.2.1.length:Int) > 14))=ae then
   ab (.inr (.inl (af,s.2)))
  else
  ab (.inl (wi (s.1+1),s.2))
 else
 ab (.inr (.inr s.2))
def Zb2:Lp:=⟨[(1,.aj 0 []),(3,.v yI)],[.var (.v bu) ae],[yI,bu],[⟨.ret,[(2,.v .bool)],[.var (.v bu) ae],[.bool,bu]⟩,⟨.exit 0,[(1,.aj 0 [])],[.var (.v bu) ae],[bu]⟩],Zc (Wb yD) yD⟩
theorem Zgv:Zb2.bR yb 39 0:=ZG { still:=[2]} [] [] trivial
def YG(F:Nat)(s:(Int×Int×Tx)):yO ((Int×Int×Tx)⊕((Bool×Tx)⊕(Int×Tx))):=
 (idx s.2.2.2.1 s.1).bind λa=>
 if(ag (s.2.1 < (a.2.length:Int)))=ae then
  (idx s.2.2.2.1 s.1).bind λb=>
  (idx b.2 s.2.1).bind λc=>
  if(ag ((c.1.length:Int) > 14))=ae then
   ab (.inr (.inl (af,s.2.2)))
  else
  ab (.inl (s.1,wi (s.2.1+1),s.2.2))
 else
 ab (.inr (.inr (s.1,s.2.2)))
def Zb3:Lp:=⟨[(1,.aj 0 []),(4,.v yI),(5,.v yI)],[.var (.v bu) ae],[yI,yI,bu],[⟨.ret,[(2,.v .bool)],[.var (.v bu) ae],[.bool,bu]⟩,⟨.exit 4,[(1,.aj 0 []),(4,.v yI)],[.var (.v bu) ae],[yI,bu]⟩],Zc (YG yD) yD⟩
theorem Zgw:Zb3.bR yb 39 2:=ZG { still:=[2]} [] [] trivial
def Yo(F:Nat)(s:(Int×Tx)):yO ((Int×Tx)⊕((Bool×Tx)⊕Tx)):=
 if(ag (s.1 < (s.2.2.1.length:Int)))=ae then
  (idx s.2.2.1 s.1).bind λa=>
  if(ag ((a.2.length:Int) > 6))=ae then
   ab (.inr (.inl (af,s.2)))
  else
  (Zc (YG F) F (s.1,0,s.2)).bind λb=>
  match b with
  |.inl c=>
   ab (.inr (.inl (c.1,c.2)))
  |.inr d=>
   ab (.inl (wi (d.1+1),d.2))
 else
 ab (.inr (.inr s.2))
def Zb4:Lp:=⟨[(1,.aj 0 []),(4,.v yI)],[.var (.v bu) ae],[yI,bu],[⟨.ret,[(2,.v .bool)],[.var (.v bu) ae],[.bool,bu]⟩,⟨.exit 2,[],[.var (.v bu) ae],[bu]⟩],Zc (Yo yD) yD⟩
theorem Zgx:Zb4.bR yb 39 1:=ZG { still:=[2]} [(2,Zb3)] [] trivial ⟨Zgw,aw⟩
def W3(F:Nat)(a0:Tx):yO (Bool):=
 if(ag ((a0.1.length:Int) > 66))=ae then
  ab af
 else
 if(ag ((a0.2.1.length:Int) > 66))=ae then
  ab af
 else
 (Zc (Wb F) F (0,a0)).bind λa=>
 match a with
 |.inl b=>
  ab b.1
 |.inr c=>
  (Zc (Yo F) F (0,c)).bind λd=>
  match d with
  |.inl e=>
   ab e.1
  |.inr f=>
   ab ae
def Zdi:Fs yb:=⟨39,[.v bu],[],[bu],(zN .bool),λx=>W3 yD x⟩
theorem ZiP:Zdi.Ok:=be { still:=[2]} [(0,Zb2),(1,Zb4)] [] trivial ⟨Zgv,Zgx,aw⟩
def Yl(F:Nat)(s:(Int×aNa)):yO ((Int×aNa)⊕((Bool×aNa)⊕aNa)):=
 if(ag (s.1 < 2))=ae then
  if(bi s.1 2)=ae then
   (s.2[s.1.toNat]?).bind λa=>
   if(ag ((a.1.length:Int) > 10))=ae then
    ab (.inr (.inl (af,s.2)))
   else
   if(bi s.1 2)=ae then
    (s.2[s.1.toNat]?).bind λb=>
    if(ag ((b.2.1.length:Int) > 10))=ae then
     ab (.inr (.inl (af,s.2)))
    else
    if(bi s.1 2)=ae then
     (s.2[s.1.toNat]?).bind λc=>
     (W3 F ([],c.2.1,0)).bind λd=>
     if(!d)=ae then
      ab (.inr (.inl (af,s.2)))
     else
     ab (.inl (wi (s.1+1),s.2))
    else
    ad
   else
   ad
  else
  ad
 else
 ab (.inr (.inr s.2))
def ZdN:Lp:=⟨[(1,.aj 0 []),(3,.v yI)],[.var (.v aMS) ae],[yI,aMS],[⟨.ret,[(2,.v .bool)],[.var (.v aMS) ae],[.bool,aMS]⟩,⟨.exit 0,[],[.var (.v aMS) ae],[aMS]⟩],Zc (Yl yD) yD⟩
theorem Zh0:ZdN.bR yb 9 0:=ZG { still:=[2,27]} [] [Zdi] ⟨ZiP,aw⟩
def Qd(F:Nat)(a0:aNa):yO (Bool):=
 (Zc (Yl F) F (0,a0)).bind λa=>
 match a with
 |.inl b=>
  ab b.1
 |.inr c=>
  ab ae
def Zfj:Fs yb:=⟨9,[.v aMS],[],[aMS],(zN .bool),λx=>Qd yD x⟩
theorem ZkT:Zfj.Ok:=be { still:=[2,27]} [(0,ZdN)] [] trivial ⟨Zh0,aw⟩
def Ve(F:Nat)(s:(aMY×aMY×Int×Int)):yO ((aMY×aMY×Int×Int)⊕(Bool⊕Unit)):=
 if(ag (s.2.2.2 < s.2.2.1))=ae then
  (idx s.1 s.2.2.2).bind λa=>
  (idx s.2.1 s.2.2.2).bind λb=>
  if(a !=b)=ae then
   ab (.inr (.inl af))
  else
  ab (.inl (s.1,s.2.1,s.2.2.1,wi (s.2.2.2+1)))
 else
 ab (.inr (.inr ()))
def ZiC:Lp:=⟨[(0,.v aMX),(1,.v aMX),(12,.v yI),(13,.v yI)],[],[aMX,aMX,yI,yI],[⟨.ret,[(4,.v .bool)],[],[.bool]⟩,⟨.exit 0,[],[],[]⟩],Zc (Ve yD) yD⟩
theorem Zl3:ZiC.bR yb 66 0:=ZG { still:=[4]} [] [] trivial
def zp(F:Nat)(a0:aMY)(a1:aMY):yO (Bool):=
 if((a0.length:Int)!=(a1.length:Int))=ae then
  ab af
 else
 (Zc (Ve F) F (a0,a1,(a0.length:Int),0)).bind λa=>
 match a with
 |.inl b=>
  ab b
 |.inr c=>
  ab ae
def Zj1:Fs yb:=⟨66,[.v aMX,.v aMX],[],[aMX,aMX],(zN .bool),λx=>zp yD x.1 x.2⟩
theorem Zqs:Zj1.Ok:=be { still:=[4]} [(0,ZiC)] [] trivial ⟨Zl3,aw⟩
def zq(F:Nat)(a0:ZR)(a1:ZR):yO (Bool):=
 (zp F a0.1 a1.1).bind λa=>
 if a=ae then
  if(a0.2.1==a1.2.1)=ae then
   if(a0.2.2.1==a1.2.2.1)=ae then
    ab (a0.2.2.2==a1.2.2.2)
   else
   ab af
  else
  ab af
 else
 ab af
def Zlu:Fs yb:=⟨65,[.v Z3,.v Z3],[],[Z3,Z3],(zN .bool),λx=>zq yD x.1 x.2⟩
theorem ZsY:Zlu.Ok:=be { still:=[4,6,8]} [] [Zj1] ⟨Zqs,aw⟩
def QL(F:Nat)(s:(aNi×aNi×Int×Int)):yO ((aNi×aNi×Int×Int)⊕(Bool⊕Unit)):=
 if(ag (s.2.2.2 < s.2.2.1))=ae then
  (idx s.2.1 s.2.2.2).bind λa=>
  (idx s.1 s.2.2.2).bind λb=>
  (zq F a b).bind λc=>
  if(!c)=ae then
   ab (.inr (.inl af))
  else
  ab (.inl (s.1,s.2.1,s.2.2.1,wi (s.2.2.2+1)))
 else
 ab (.inr (.inr ()))
def Zlv:Lp:=⟨[(1,.v aNl),(2,.fn 65 []),(15,.v aNl),(16,.v yI),(17,.v yI)],[],[aNl,aNl,yI,yI],[⟨.ret,[(6,.v .bool)],[],[.bool]⟩,⟨.exit 0,[],[],[]⟩],Zc (QL yD) yD⟩
theorem ZoY:Zlv.bR yb 64 0:=ZG { still:=[6,27,28]} [] [Zlu] ⟨ZsY,aw⟩
def NM(F:Nat)(a0:aNi)(a1:aNi):yO (Bool):=
 if((a0.length:Int)!=(a1.length:Int))=ae then
  ab af
 else
 (Zc (QL F) F (a1,a0,(a0.length:Int),0)).bind λa=>
 match a with
 |.inl b=>
  ab b
 |.inr c=>
  ab ae
def ZnO:Fs yb:=⟨64,[.v aNl,.v aNl,.fn 65 []],[],[aNl,aNl],(zN .bool),λx=>NM yD x.1 x.2⟩
theorem Zud:ZnO.Ok:=be { still:=[6,27,28]} [(0,Zlv)] [] trivial ⟨ZoY,aw⟩
def zr(F:Nat)(a0:Z4)(a1:Z4):yO (Bool):=
 (NM F a0 a1).bind λa=>
 ab a
def Zp0:Fs yb:=⟨22,[.v Ya,.v Ya],[],[Ya,Ya],(zN .bool),λx=>zr yD x.1 x.2⟩
theorem Zw7:Zp0.Ok:=be { still:=[4,6,8]} [] [ZnO] ⟨Zud,aw⟩
def NN(F:Nat)(a0:yG)(a1:aNd):yO (yG):=
 (a0.2.1[0]?).bind λa=>
 (a1[0]?).bind λb=>
 (a0.2.1[0]?).bind λc=>
 (a0.2.1[1]?).bind λd=>
 (a1[1]?).bind λe=>
 ((a0.2.1.set 0 (wi (a+b)))[1]?).bind λf=>
 if(cj 0 a0.2.2.1.length 40)=ae then
  ab (a0.1,(a0.2.1.set 0 (wi (a+b))).set 1 (wi (d+e)),a0.2.2.1,a0.2.2.2)
 else
 ad
def Z6(F:Nat)(a0:Int)(a1:Int)(a2:Int):yO (Bool):=
 if(ag (a0 >= a1))=ae then
  ab (ag (a0<=a2))
 else
 ab af
def NO(F:Nat)(a0:bz):yO (Bool):=
 (Z6 F a0.1 0 65536).bind λa=>
 if a=ae then
  (Z6 F a0.2.1 a0.1 1125899906842624).bind λb=>
  if b=ae then
   (Z6 F a0.2.2.1 1 4096).bind λc=>
   if c=ae then
    (Z6 F a0.2.2.2.1 0 16).bind λd=>
    if d=ae then
     (Z6 F a0.2.2.2.2.1 1 1125899906842624).bind λe=>
     if e=ae then
      (Z6 F a0.2.2.2.2.2 0 1125899906842624).bind λf=>
      ab f
     else
     ab af
    else
    ab af
   else
   ab af
  else
  ab af
 else
 ab af
def Zhf(F:Nat)(s:(yU×yU×yU)):yO ((yU×yU×yU)⊕yU):=
 if(ag (s.2.1 > 0))=ae then
  if((s.2.1 % 2)==1)=ae then
   ab (.inl ((s.1+s.1) % 4611686018427377339,s.2.1 / 2,(s.2.2+s.1) % 4611686018427377339))
  else
  ab (.inl ((s.1+s.1) % 4611686018427377339,s.2.1 / 2,s.2.2))
 else
 ab (.inr s.2.2)
def Zj3(F:Nat)(a0:yU)(a1:yU):yO (yU):=
 (Zc (Zhf F) F (a0,a1,0)).bind λa=>
 ab a
end
end Go.Proofs.YtcbhhaigilifgaaGreat
end
section
set_option maxRecDepth 4000
namespace Go.Proofs.YtcbhhaigilifgaaGreat
open Go Go.Ev
noncomputable def NP(F:Nat)(a0:yU)(a1:yU):yO yU:=if ag (a0.toNat < 4611686018427377339)=ae then ab (yan (a0.toNat*a1.toNat % 4611686018427377339)) else Zj3 F a0 a1
end Go.Proofs.YtcbhhaigilifgaaGreat
end
section
set_option maxRecDepth 4000
namespace Go.Proofs.YtcbhhaigilifgaaGreat
open Go Go.Ev
noncomputable section
def Zhg(F:Nat)(s:(yU×yU×yU)):yO ((yU×yU×yU)⊕yU):=
 if(ag (s.2.1 > 0))=ae then
  if((s.2.1 % 2)==1)=ae then
   (NP F s.2.2 s.1).bind λa=>
   (NP F s.1 s.1).bind λb=>
   ab (.inl (b,s.2.1 / 2,a))
  else
  (NP F s.1 s.1).bind λc=>
  ab (.inl (c,s.2.1 / 2,s.2.2))
 else
 ab (.inr s.2.2)
def Zj4(F:Nat)(a0:yU)(a1:yU):yO (yU):=
 (Zc (Zhg F) F (a0,a1,1)).bind λa=>
 ab a
end
end Go.Proofs.YtcbhhaigilifgaaGreat
end
section
set_option maxRecDepth 4000
namespace Go.Proofs.YtcbhhaigilifgaaGreat
open Go Go.Ev
noncomputable def NQ(F:Nat)(a0:yU)(a1:yU):yO yU:=if ag (a0.toNat < 4611686018427377339)=ae then ab (yan (gV 4611686018427377339 64 a0.toNat a1.toNat 1)) else Zj4 F a0 a1
end Go.Proofs.YtcbhhaigilifgaaGreat
end
section
set_option maxRecDepth 4000
namespace Go.Proofs.YtcbhhaigilifgaaGreat
open Go Go.Ev
noncomputable section
def Xp(F:Nat)(a0:yU):yO (Bool):=
 if(ag (a0 >= 1))=ae then
  if(ag (a0 < 4611686018427377339))=ae then
   (NQ F a0 2305843009213688669).bind λa=>
   ab (a==1)
  else
  ab af
 else
 ab af
def NR(F:Nat)(a0:yU):yO (Bool):=
 (Xp F a0).bind λa=>
 if a=ae then
  ab (a0 !=1)
 else
 ab af
def XN(F:Nat):(Int×aMY×Int×Chan×bn)->yO ((Int×aMY×Int×Chan×bn)⊕((Int×Chan×bn)⊕(Int×Chan×bn)))
 |(e,b,a,c,d)=>
 if(ag (a < 5))=ae then
  (idx b a).bind λf=>
  (NR F f).bind λg=>
  if(!g)=ae then
   ab (.inr (.inl (1,c,d)))
  else
  ab (.inl (e,b,wi (a+1),c,d))
 else
 ab (.inr (.inr (e,c,d)))
def XO(F:Nat)(s:(Int×Chan)):yO ((Int×Chan)⊕((Int×Chan)⊕Chan)):=
 if(ag (s.1 < 2))=ae then
  if(bi s.1 2)=ae then
   (s.2.2.2.1[s.1.toNat]?).bind λa=>
   if(bi s.1 2)=ae then
    (s.2.2.2.2.1[s.1.toNat]?).bind λb=>
    (NO F b).bind λc=>
    if(!c)=ae then
     ab (.inr (.inl (1,s.2)))
    else
    (Zc (XN F) F (s.1,[a.1,a.2.1,a.2.2.1,a.2.2.2.1,a.2.2.2.2],0,s.2,a)).bind λd=>
    match d with
    |.inl e=>
     ab (.inr (.inl (e.1,e.2.1)))
    |.inr f=>
     ab (.inl (wi (f.1+1),f.2.1))
   else
   ad
  else
  ad
 else
 ab (.inr (.inr s.2))
def Qe(F:Nat)(a0:Chan):yO (Int):=
 (Z6 F a0.2.1 1 1125899906842624).bind λa=>
 if(!a)=ae then
  ab 1
 else
 (Z6 F a0.1.2 0 63).bind λb=>
 if(!b)=ae then
  ab 1
 else
 (Z6 F a0.2.2.2.2 0 1).bind λc=>
 if(!c)=ae then
  ab 1
 else
 (Zc (XO F) F (0,a0)).bind λd=>
 match d with
 |.inl e=>
  ab e.1
 |.inr f=>
  (f.2.2.2.1[0]?).bind λg=>
  (f.2.2.2.1[1]?).bind λh=>
  if(ag ((wi (g.2.1+h.2.1)) > f.2.1))=ae then
   ab 10
  else
  ab 0
def YH(F:Nat)(a0:Int)(a1:Int)(a2:Int):yO (Bool):=
 if(ag (a0 >= a1))=ae then
  ab (ag (a0<=a2))
 else
 ab af
def NS(F:Nat)(a0:Cond):yO (Bool):=
 (Xp F a0.2.2.2.1).bind λa=>
 if a=ae then
  if(a0.2.2.2.1 !=1)=ae then
   (YH F a0.1 0 1).bind λb=>
   if b=ae then
    (YH F a0.2.1 1 1048576).bind λc=>
    if c=ae then
     (YH F a0.2.2.1 1 1125899906842624).bind λd=>
     if d=ae then
      (YH F a0.2.2.2.2 1 1048576).bind λe=>
      ab e
     else
     ab af
    else
    ab af
   else
   ab af
  else
  ab af
 else
 ab af
def NT(F:Nat)(a0:Cond)(a1:Cond):yO (Bool):=
 if(ag (a0.1 < a1.1))=ae then
  ab ae
 else
 if(a0.1==a1.1)=ae then
  ab (ag (a0.2.1 < a1.2.1))
 else
 ab af
def WX(F:Nat):(Int×Int×Int×Int×yG)->yO ((Int×Int×Int×Int×yG)⊕(Int×Int×yG))
 |(c,d,e,a,b)=>
 let f:Bool:=ag (a < (b.2.2.1.length:Int))
 if f=ae then
  (idx b.2.2.1 a).bind λg=>
  if(g.1==(wi (1 - c)))=ae then
   (idx b.2.2.1 a).bind λh=>
   ab (.inl (c,wi (d+1),wi (e+h.2.2.1),wi (a+1),b))
  else
  ab (.inl (c,d,e,wi (a+1),b))
 else
 ab (.inr (d,e,b))
def VZ(F:Nat)(a0:yG)(a1:Int):yO ((Int×Int)):=
 (Zc (WX F) F (a1,0,0,0,a0)).bind λa=>
 ab (a.1,a.2.1)
def VE(F:Nat)(s:(Int×Int×yG)):yO ((Int×Int×yG)⊕(Int×yG)):=
 if(ag (s.2.1 < (s.2.2.2.2.1.length:Int)))=ae then
  (idx s.2.2.2.2.1 s.2.1).bind λa=>
  ab (.inl (wi (s.1+a.2.2.1),wi (s.2.1+1),s.2.2))
 else
 ab (.inr (s.1,s.2.2))
def NU(F:Nat)(a0:yG):yO (Int):=
 (a0.2.1[0]?).bind λa=>
 (a0.2.1[1]?).bind λb=>
 (Zc (VE F) F (wi (a+b),0,a0)).bind λc=>
 ab c.1
def Zdj(F:Nat)(a0:Int):yO (Int):=
 (Z6 F a0 0 16).bind λa=>
 if(!a)=ae then
  ab 0
 else
 ab (wi (36+(wi ((wi (4+a0))*8))))
def NW(F:Nat)(a0:Int)(a1:Int):yO (Int):=
 (Z6 F a0 0 1000).bind λa=>
 if(!a)=ae then
  ab 0
 else
 (Zdj F a1).bind λb=>
 ab (wi (a0*b))
def NX(F:Nat)(a0:Chan)(a1:yG):yO (Int):=
 (NW F a1.2.2.2 (a1.2.2.1.length:Int)).bind λa=>
 ab (wi (a+660))
def YI(F:Nat)(s:(Int×Chan×yG)):yO ((Int×Chan×yG)⊕((Bool×Chan×yG)⊕(Chan×yG))):=
 if(ag (s.1 < (s.2.2.2.2.1.length:Int)))=ae then
  (idx s.2.2.2.2.1 s.1).bind λa=>
  (NS F a).bind λb=>
  if(!b)=ae then
   ab (.inr (.inl (af,s.2.1,s.2.2)))
  else
  if(ag (s.1 > 0))=ae then
   (idx s.2.2.2.2.1 (wi (s.1 - 1))).bind λc=>
   (idx s.2.2.2.2.1 s.1).bind λd=>
   (NT F c d).bind λe=>
   if(!e)=ae then
    ab (.inr (.inl (af,s.2.1,s.2.2)))
   else
   (idx s.2.2.2.2.1 s.1).bind λf=>
   (idx s.2.2.2.2.1 s.1).bind λg=>
   if(bi (wi (1 - g.1)) 2)=ae then
    (s.2.1.2.2.2.1[(wi (1 - g.1)).toNat]?).bind λh=>
    if(ag (f.2.2.1 < h.2.2.2.2.1))=ae then
     ab (.inr (.inl (af,s.2.1,s.2.2)))
    else
    ab (.inl (wi (s.1+1),s.2.1,s.2.2))
   else
   ad
  else
  (idx s.2.2.2.2.1 s.1).bind λi=>
  (idx s.2.2.2.2.1 s.1).bind λj=>
  if(bi (wi (1 - j.1)) 2)=ae then
   (s.2.1.2.2.2.1[(wi (1 - j.1)).toNat]?).bind λk=>
   if(ag (i.2.2.1 < k.2.2.2.2.1))=ae then
    ab (.inr (.inl (af,s.2.1,s.2.2)))
   else
   ab (.inl (wi (s.1+1),s.2.1,s.2.2))
  else
  ad
 else
 ab (.inr (.inr (s.2.1,s.2.2)))
def Xg(F:Nat)(s:(Int×Chan×yG)):yO ((Int×Chan×yG)⊕((Bool×Chan×yG)⊕(Chan×yG))):=
 if(ag (s.1 < 2))=ae then
  (VZ F s.2.2 s.1).bind λa=>
  if(bi s.1 2)=ae then
   (s.2.1.2.2.2.1[s.1.toNat]?).bind λb=>
   if(ag (a.1 > b.2.2.2.1))=ae then
    ab (.inr (.inl (af,s.2.1,s.2.2)))
   else
   if(bi s.1 2)=ae then
    (s.2.1.2.2.2.1[s.1.toNat]?).bind λc=>
    if(ag (a.2 > c.2.2.2.2.2))=ae then
     ab (.inr (.inl (af,s.2.1,s.2.2)))
    else
    ab (.inl (wi (s.1+1),s.2.1,s.2.2))
   else
   ad
  else
  ad
 else
 ab (.inr (.inr (s.2.1,s.2.2)))
def X5(F:Nat)(a0:Chan)(a1:yG):yO (Bool):=
 (Qe F a0).bind λa=>
 if(a !=0)=ae then
  ab af
 else
 (YH F a1.1 0 1048576).bind λb=>
 if(!b)=ae then
  ab af
 else
 (a1.2.1[0]?).bind λc=>
 (YH F c 0 1125899906842624).bind λd=>
 if(!d)=ae then
  ab af
 else
 (a1.2.1[1]?).bind λe=>
 (YH F e 0 1125899906842624).bind λf=>
 if(!f)=ae then
  ab af
 else
 (YH F a1.2.2.2 0 1000).bind λg=>
 if(!g)=ae then
  ab af
 else
 if(ag ((a1.2.2.1.length:Int) > 16))=ae then
  ab af
 else
 (Zc (YI F) F (0,a0,a1)).bind λh=>
 match h with
 |.inl i=>
  ab i.1
 |.inr j=>
  (Zc (Xg F) F (0,j.1,j.2)).bind λk=>
  match k with
  |.inl l=>
   ab l.1
  |.inr m=>
   (NU F m.2).bind λn=>
   if(n==m.1.2.1)=ae then
    if(bi m.1.2.2.2.2 2)=ae then
     (m.2.2.1[m.1.2.2.2.2.toNat]?).bind λo=>
     (NX F m.1 m.2).bind λp=>
     ab (ag (o >= p))
    else
    ad
   else
   ab af
def zu(F:Nat)(a0:Int)(a1:Int)(a2:Int):yO (Bool):=
 if(ag (a0 >= a1))=ae then
  ab (ag (a0<=a2))
 else
 ab af
def XU(F:Nat)(s:(Int×ZR)):yO ((Int×ZR)⊕((Bool×ZR)⊕ZR)):=
 if(ag (s.1 < (s.2.1.length:Int)))=ae then
  (idx s.2.1 s.1).bind λa=>
  (Xp F a).bind λb=>
  if(!b)=ae then
   ab (.inr (.inl (af,s.2)))
  else
  ab (.inl (wi (s.1+1),s.2))
 else
 ab (.inr (.inr s.2))
def QM(F:Nat)(a0:ZR):yO (Bool):=
 if(ag ((a0.1.length:Int) > 12))=ae then
  ab af
 else
 if(ag (a0.2.1 < 0))=ae then
  ab af
 else
 if(ag (a0.2.1 > 1048576))=ae then
  ab af
 else
 if(ag (a0.2.2.1 < 0))=ae then
  ab af
 else
 if(ag (a0.2.2.1 > 1048576))=ae then
  ab af
 else
 (Zc (XU F) F (0,a0)).bind λa=>
 match a with
 |.inl b=>
  ab b.1
 |.inr c=>
  (Xp F c.2.2.2).bind λd=>
  if(c.2.2.2==0)=ae then
   ab ae
  else
  ab d
def Wc(F:Nat)(s:(Int×Z4)):yO ((Int×Z4)⊕((Bool×Z4)⊕Z4)):=
 if(ag (s.1 < (s.2.length:Int)))=ae then
  (idx s.2 s.1).bind λa=>
  (QM F a).bind λb=>
  if(!b)=ae then
   ab (.inr (.inl (af,s.2)))
  else
  ab (.inl (wi (s.1+1),s.2))
 else
 ab (.inr (.inr s.2))
def Xq(F:Nat)(a0:Z4):yO (Bool):=
 if(ag ((a0.length:Int) < 1))=ae then
  ab af
 else
 if(ag ((a0.length:Int) > 4))=ae then
  ab af
 else
 (Zc (Wc F) F (0,a0)).bind λa=>
 match a with
 |.inl b=>
  ab b.1
 |.inr c=>
  ab ae
def XP(F:Nat)(s:(Int×ai)):yO ((Int×ai)⊕((Bool×ai)⊕ai)):=
 if(ag (s.1 < (s.2.1.length:Int)))=ae then
  (idx s.2.1 s.1).bind λa=>
  (zu F a.2 1 1099511627776).bind λb=>
  if(!b)=ae then
   ab (.inr (.inl (af,s.2)))
  else
  ab (.inl (wi (s.1+1),s.2))
 else
 ab (.inr (.inr s.2))
def XQ(F:Nat)(s:(Int×ai)):yO ((Int×ai)⊕((Bool×ai)⊕ai)):=
 if(ag (s.1 < (s.2.2.1.length:Int)))=ae then
  (idx s.2.2.1 s.1).bind λa=>
  (zu F a.1 0 1099511627776).bind λb=>
  if(!b)=ae then
   ab (.inr (.inl (af,s.2)))
  else
  (idx s.2.2.1 s.1).bind λc=>
  (Xq F c.2).bind λd=>
  if(!d)=ae then
   ab (.inr (.inl (af,s.2)))
  else
  ab (.inl (wi (s.1+1),s.2))
 else
 ab (.inr (.inr s.2))
def Qf(F:Nat)(a0:ai):yO (Bool):=
 if(ag ((a0.1.length:Int) > 8))=ae then
  ab af
 else
 if(ag ((a0.2.1.length:Int) > 8))=ae then
  ab af
 else
 (zu F a0.2.2 0 1099511627776).bind λa=>
 if(!a)=ae then
  ab af
 else
 (Zc (XP F) F (0,a0)).bind λb=>
 match b with
 |.inl c=>
  ab c.1
 |.inr d=>
  (Zc (XQ F) F (0,d)).bind λe=>
  match e with
  |.inl f=>
   ab f.1
  |.inr g=>
   ab ae
def Vf(F:Nat)(s:(Int×Int×ai)):yO ((Int×Int×ai)⊕(Int×ai)):=
 if(ag (s.2.1 < (s.2.2.1.length:Int)))=ae then
  (idx s.2.2.1 s.2.1).bind λa=>
  ab (.inl (wi (s.1+a.2),wi (s.2.1+1),s.2.2))
 else
 ab (.inr (s.1,s.2.2))
def Vg(F:Nat)(s:(Int×Int×ai)):yO ((Int×Int×ai)⊕(Int×ai)):=
 if(ag (s.2.1 < (s.2.2.2.1.length:Int)))=ae then
  (idx s.2.2.2.1 s.2.1).bind λa=>
  ab (.inl (wi (s.1 - a.1),wi (s.2.1+1),s.2.2))
 else
 ab (.inr (s.1,s.2.2))
def WN(F:Nat)(a0:ai):yO (Int):=
 (Zc (Vf F) F (wi (0 - a0.2.2),0,a0)).bind λa=>
 (Zc (Vg F) F (a.1,0,a.2)).bind λb=>
 ab b.1
def Zf7(F:Nat)(a0:aMY):yO (Z4):=
 if(cj 0 a0.length 8)=ae then
  ab [(a0,0,0,0)]
 else
 ad
def Zfk(F:Nat)(a0:yU)(a1:yU):yO (Z4):=
 (Zf7 F [a0,a1]).bind λa=>
 ab a
def V0(F:Nat)(a0:Chan):yO (Z4):=
 (a0.2.2.1[0]?).bind λa=>
 (a0.2.2.1[1]?).bind λb=>
 (Zfk F a.1 b.1).bind λc=>
 ab c
def Xy(F:Nat):(Int×Tx×Tx×Int×aNf×aMV×aMZ)->yO ((Int×Tx×Tx×Int×aNf×aMV×aMZ)⊕(Tx×Tx×Int×aNf×aMV×aMZ))
 |(a,b,d,e,f,g,c)=>
 if(ag (a < (b.1.length:Int)))=ae then
  (idx b.1 a).bind λh=>
  if(cj 0 h.2.2.1.length 16)=ae then
   if(cj c.length 1 80)=ae then
    let i:aMZ:=c++([(h.1,(h.2.1,h.2.2.1,h.2.2.2))]:yL In)
    ab (.inl (wi (a+1),b,d,e,f,()::g,i))
   else
   ad
  else
  ad
 else
 ab (.inr (b,d,e,f,g,c))
def Xz(F:Nat):(Int×Int×Tx×Tx×Int×aNf×aMV×aMZ×Int×aNi)->yO ((Int×Int×Tx×Tx×Int×aNf×aMV×aMZ×Int×aNi)⊕(Int×Tx×Tx×Int×aNf×aMV×aMZ×Int×aNi))
 |(b,c,a,e,f,g,h,i,j,d)=>
 (idx a.2.1 b).bind λk=>
 if(ag (c < (k.2.length:Int)))=ae then
  (idx a.2.1 b).bind λl=>
  (idx l.2 c).bind λm=>
  if(cj 0 m.1.length 8)=ae then
   if(cj d.length 1 48)=ae then
    let n:aNi:=d++([(m.1,m.2.1,m.2.2.1,m.2.2.2)]:yL ZR)
    ab (.inl (b,wi (c+1),a,e,f,g,h,i,j,n))
   else
   ad
  else
  ad
 else
 ab (.inr (b,a,e,f,g,h,i,j,d))
def Wv(F:Nat):(Int×Tx×Tx×Int×aNf×aMV×aMZ)->yO ((Int×Tx×Tx×Int×aNf×aMV×aMZ)⊕(Tx×Tx×Int×aNf×aMV×aMZ))
 |(j,k,l,m,n,o,p)=>
 if(ag (j < (k.2.1.length:Int)))=ae then
  (idx k.2.1 j).bind λq=>
  (Zc (Xz F) F (j,0,k,l,m,n,o,p,q.1,[])).bind λ(d,e,f,g,a,h,i,b,c)=>
  if(cj a.length 1 32)=ae then
   let r:aNf:=a++([(b,c)]:yL Out)
   ab (.inl (wi (d+1),e,f,g,r,h,i))
  else
  ad
 else
 ab (.inr (k,l,m,n,o,p))
def NY(F:Nat)(a0:Tx):yO (Tx):=
 (Zc (Xy F) F (0,a0,([],[],0),a0.2.2,[],[],[])).bind λ(d,e,f,g,h,i)=>
 (Zc (Wv F) F (0,d,e,f,g,h,i)).bind λ(_,_,c,b,_,a)=>
 ab (a,b,c)
abbrev zK:=Chan×aNa×Tx×aMZ×aNf×Int
def ZbR(F:Nat):(Int×Chan×aNa×Tx)->yO (zK)
 |(a,b,c,d)=>
 (V0 F b).bind λe=>
 ab (b,c,d,[(b.1,(0,[],0))],[(a,e)],0)
def Xh(F:Nat):(Int×Int×zK)->yO ((Int×Int×zK)⊕(Int×zK))
 |(a,c,e,b,f,d,g,h)=>
 if(bi a 2)=ae then
  (b[a.toNat]?).bind λi=>
  if(ag (c < (i.1.length:Int)))=ae then
   if(bi a 2)=ae then
    (b[a.toNat]?).bind λj=>
    (idx j.1 c).bind λk=>
    if(cj d.length 1 80)=ae then
     let l:aMZ:=d++([(k.1,(0,[],0))]:yL In)
     ab (.inl (a,wi (c+1),e,b,f,l,g,h))
    else
    ad
   else
   ad
  else
  ab (.inr (a,e,b,f,d,g,h))
 else
 ad
def YJ(F:Nat):(Int×zK)->yO ((Int×zK)⊕(zK))
 |(h,i,j,k,l,m,n)=>
 if(ag (h < 2))=ae then
  (Zc (Xh F) F (h,0,i,j,k,l,m,n)).bind λ(a,d,b,e,f,c,g)=>
  if(bi a 2)=ae then
   (b[a.toNat]?).bind λo=>
   if(cj c.length o.2.1.length 32)=ae then
    ab (.inl (wi (a+1),d,b,e,f,c++o.2.1,g))
   else
   ad
  else
  ad
 else
 ab (.inr (i,j,k,l,m,n))
def NZ(F:Nat)(a0:Chan)(a1:Int)(a2:aNa):yO (Tx):=
 (ZbR F (a1,a0,a2,([],[],0))).bind λ(d,e,f,g,h,i)=>
 (Zc (YJ F) F (0,d,e,f,g,h,i)).bind λ(_,_,_,a,b,c)=>
 (NY F (a,b,c)).bind λj=>
 ab j
def VF(F:Nat)(a0:mR):yO (Bool):=
 if(ag (a0.1 >= 0))=ae then
  if(ag (a0.1<=3))=ae then
   ab (ag ((a0.2.1.length:Int)<=12))
  else
  ab af
 else
 ab af
def YK(F:Nat)(s:(Int×Int×Tx×In)):yO ((Int×Int×Tx×In)⊕((Bool×Tx×In)⊕(Int×Tx×In))):=
 if(ag (s.2.1 < s.1))=ae then
  (idx s.2.2.1.1 s.2.1).bind λa=>
  if(ag (a.1=s.2.2.2.1))=ae then
   ab (.inr (.inl (af,s.2.2.1,s.2.2.2)))
  else
  ab (.inl (s.1,wi (s.2.1+1),s.2.2.1,s.2.2.2))
 else
 ab (.inr (.inr (s.1,s.2.2.1,s.2.2.2)))
def Xi(F:Nat)(s:(Int×Tx)):yO ((Int×Tx)⊕((Bool×Tx)⊕Tx)):=
 if(ag (s.1 < (s.2.1.length:Int)))=ae then
  (idx s.2.1 s.1).bind λa=>
  if(ag (a.1.2 < 0))=ae then
   ab (.inr (.inl (af,s.2)))
  else
  if(ag (a.1.2 > 63))=ae then
   ab (.inr (.inl (af,s.2)))
  else
  (VF F a.2).bind λb=>
  if(!b)=ae then
   ab (.inr (.inl (af,s.2)))
  else
  (Zc (YK F) F (s.1,0,s.2,a)).bind λc=>
  match c with
  |.inl d=>
   ab (.inr (.inl (d.1,d.2.1)))
  |.inr e=>
   ab (.inl (wi (e.1+1),e.2.1))
 else
 ab (.inr (.inr s.2))
def Xj(F:Nat)(s:(Int×Int×Tx)):yO ((Int×Int×Tx)⊕((Bool×Tx)⊕(Int×Tx))):=
 if(ag (s.2.1 < (s.2.2.2.1.length:Int)))=ae then
  (idx s.2.2.2.1 s.2.1).bind λa=>
  if(ag (a.1 < 0))=ae then
   ab (.inr (.inl (af,s.2.2)))
  else
  if(ag (a.1 > 1125899906842624))=ae then
   ab (.inr (.inl (af,s.2.2)))
  else
  (Xq F a.2).bind λb=>
  if(!b)=ae then
   ab (.inr (.inl (af,s.2.2)))
  else
  ab (.inl (wi (s.1+a.1),wi (s.2.1+1),s.2.2))
 else
 ab (.inr (.inr (s.1,s.2.2)))
def W4(F:Nat)(a0:Tx):yO (Bool):=
 if(ag ((a0.1.length:Int) < 1))=ae then
  ab af
 else
 if(ag ((a0.1.length:Int) > 64))=ae then
  ab af
 else
 if(ag ((a0.2.1.length:Int) > 64))=ae then
  ab af
 else
 if(ag (a0.2.2 < 0))=ae then
  ab af
 else
 (Zc (Xi F) F (0,a0)).bind λa=>
 match a with
 |.inl b=>
  ab b.1
 |.inr c=>
  (Zc (Xj F) F (0,0,c)).bind λd=>
  match d with
  |.inl e=>
   ab e.1
  |.inr f=>
   ab (ag (f.1<=1125899906842624))
def XA(F:Nat)(s:(yU×Int×aMP)):yO ((yU×Int×aMP)⊕aMP):=
 if(ag (s.2.1 >= 0))=ae then
  if(ag (0<=s.2.1))=ae then
   let a:yB:=w8 ((ZB s.1 (min s.2.1.toNat 64)).toNat:Int)
   if(cj s.2.2.length 1 1)=ae then
    ab (.inl (s.1,wi (s.2.1 - 8),s.2.2++([a]:yL yB)))
   else
   ad
  else
  ad
 else
 ab (.inr s.2.2)
def OA(F:Nat)(a0:yU):yO (aMP):=
 (Zc (XA F) F (a0,56,[])).bind λa=>
 ab a
def Zhh(F:Nat)(s:(aMP×aMP)):yO ((aMP×aMP)⊕(aMP×aMP)):=
 if((Int.tmod (s.2.length:Int) 64)!=56)=ae then
  if(cj s.2.length 1 1)=ae then
   ab (.inl (s.1,s.2++([0]:yL yB)))
  else
  ad
 else
 ab (.inr (s.1,s.2))
def Zhi(F:Nat)(s:(yU×Int×aMP)):yO ((yU×Int×aMP)⊕aMP):=
 if(ag (s.2.1 >= 0))=ae then
  if(ag (0<=s.2.1))=ae then
   let a:yB:=w8 ((ZB s.1 (min s.2.1.toNat 64)).toNat:Int)
   if(cj s.2.2.length 1 1)=ae then
    ab (.inl (s.1,wi (s.2.1 - 8),s.2.2++([a]:yL yB)))
   else
   ad
  else
  ad
 else
 ab (.inr s.2.2)
def Zj5(F:Nat)(a0:aMP):yO (aMP):=
 if(cj 0 a0.length 1)=ae then
  if(cj a0.length 1 1)=ae then
   (Zc (Zhh F) F (a0,a0++([128]:yL yB))).bind λa=>
   (Zc (Zhi F) F (8*(dy (a.1.length:Int)),56,a.2)).bind λb=>
   ab b
  else
  ad
 else
 ad
def Zj6(F:Nat):yO (aMR):=
 ab [1779033703,3144134277,1013904242,2773480762,1359893119,2600822924,528734635,1541459225]
def Yf(F:Nat)(a0:yV)(a1:Int):yO (yV):=
 if(ag (0<=a1))=ae then
  if(ag (0<=wi (32 - a1)))=ae then
   let a:yV:=(gS a0 (min a1.toNat 32))|||(hU a0 (min (wi (32 - a1)).toNat 32))
   ab a
  else
  ad
 else
 ad
def Zh2(F:Nat)(s:(aMP×Int×aMR)):yO ((aMP×Int×aMR)⊕aMR):=
 if(ag (s.2.1 < 16))=ae then
  (idx s.1 (wi (4*s.2.1))).bind λa=>
  (idx s.1 (wi ((wi (4*s.2.1))+1))).bind λb=>
  let c:yV:=(hU (ych a.toNat) 24)|||(hU (ych b.toNat) 16)
  (idx s.1 (wi ((wi (4*s.2.1))+2))).bind λd=>
  (idx s.1 (wi ((wi (4*s.2.1))+3))).bind λe=>
  let f:yV:=(c|||(hU (ych d.toNat) 8))|||(ych e.toNat)
  if(cj s.2.2.length 1 4)=ae then
   ab (.inl (s.1,wi (s.2.1+1),s.2.2++([f]:yL yV)))
  else
  ad
 else
 ab (.inr s.2.2)
def Zh3(F:Nat)(s:(Int×aMR)):yO ((Int×aMR)⊕aMR):=
 if(ag (s.1 < 64))=ae then
  (idx s.2 (wi (s.1 - 15))).bind λa=>
  (idx s.2 (wi (s.1 - 2))).bind λb=>
  (Yf F a 7).bind λc=>
  (Yf F a 18).bind λd=>
  (Yf F b 17).bind λe=>
  (Yf F b 19).bind λf=>
  (idx s.2 (wi (s.1 - 16))).bind λg=>
  (idx s.2 (wi (s.1 - 7))).bind λh=>
  let i:yV:=(g+((c^^^d)^^^(gS a 3)))+h
  if(cj s.2.length 1 4)=ae then
   let j:aMR:=s.2++([i+((e^^^f)^^^(gS b 10))]:yL yV)
   ab (.inl (wi (s.1+1),j))
  else
  ad
 else
 ab (.inr s.2)
def ZkU(F:Nat)(a0:aMP):yO (aMR):=
 (Zc (Zh2 F) F (a0,0,[])).bind λa=>
 (Zc (Zh3 F) F (16,a)).bind λb=>
 ab b
def Zl4(F:Nat):yO (aMR):=
 ab [1116352408,1899447441,3049323471,3921009573,961987163,1508970993,2453635748,2870763221,3624381080,310598401,607225278,1426881987,1925078388,2162078206,2614888103,3248222580,3835390401,4022224774,264347078,604807628,770255983,1249150122,1555081692,1996064986,2554220882,2821834349,2952996808,3210313671,3336571891,3584528711,113926993,338241895,666307205,773529912,1294757372,1396182291,1695183700,1986661051,2177026350,2456956037,2730485921,2820302411,3259730800,3345764771,3516065817,3600352804,4094571909,275423344,430227734,506948616,659060556,883997877,958139571,1322822218,1537002063,1747873779,1955562222,2024104815,2227730452,2361852424,2428436474,2756734187,3204031479,3329325298]
def Zh4(F:Nat):(aMR×aMR×aMR×Int×aMV×aMR)->yO ((aMR×aMR×aMR×Int×aMV×aMR)⊕(aMR×aMV×aMR))
 |(e,d,c,a,f,b)=>
 if(ag (a < 64))=ae then
  if(bi 4 b.length)=ae then
   (b[4]?).bind λg=>
   (Yf F g 6).bind λh=>
   if(bi 4 b.length)=ae then
    (b[4]?).bind λi=>
    (Yf F i 11).bind λj=>
    if(bi 4 b.length)=ae then
     (b[4]?).bind λk=>
     (Yf F k 25).bind λl=>
     if(bi 4 b.length)=ae then
      (b[4]?).bind λm=>
      if(bi 5 b.length)=ae then
       (b[5]?).bind λn=>
       if(bi 4 b.length)=ae then
        (b[4]?).bind λo=>
        if(bi 6 b.length)=ae then
         (b[6]?).bind λp=>
         let q:yV:=(m&&&n)^^^((4294967295^^^o)&&&p)
         if(bi 7 b.length)=ae then
          (b[7]?).bind λr=>
          (idx c a).bind λs=>
          let t:yV:=((r+((h^^^j)^^^l))+q)+s
          (idx d a).bind λu=>
          if(bi 0 b.length)=ae then
           (b[0]?).bind λv=>
           (Yf F v 2).bind λw=>
           if(bi 0 b.length)=ae then
            (b[0]?).bind λx=>
            (Yf F x 13).bind λy=>
            if(bi 0 b.length)=ae then
             (b[0]?).bind λz=>
             (Yf F z 22).bind λA=>
             if(bi 0 b.length)=ae then
              (b[0]?).bind λB=>
              if(bi 1 b.length)=ae then
               (b[1]?).bind λC=>
               if(bi 0 b.length)=ae then
                (b[0]?).bind λD=>
                if(bi 2 b.length)=ae then
                 (b[2]?).bind λE=>
                 if(bi 1 b.length)=ae then
                  (b[1]?).bind λG=>
                  if(bi 2 b.length)=ae then
                   (b[2]?).bind λH=>
                   let I:yV:=((B&&&C)^^^(D&&&E))^^^(G&&&H);let J:yV:=((t+u)+((w^^^y)^^^A))+I
                   if(bi 0 b.length)=ae then
                    (b[0]?).bind λK=>
                    if(bi 1 b.length)=ae then
                     (b[1]?).bind λL=>
                     if(bi 2 b.length)=ae then
                      (b[2]?).bind λM=>
                      if(bi 3 b.length)=ae then
                       (b[3]?).bind λN=>
                       if(bi 4 b.length)=ae then
                        (b[4]?).bind λO=>
                        if(bi 5 b.length)=ae then
                         (b[5]?).bind λP=>
                         if(bi 6 b.length)=ae then
                          (b[6]?).bind λQ=>
                          ab (.inl (e,d,c,wi (a+1),()::f,[J,K,L,M,N+(t+u),O,P,Q]))
                         else
                         ad
                        else
                        ad
                       else
                       ad
                      else
                      ad
                     else
                     ad
                    else
                    ad
                   else
                   ad
                  else
                  ad
                 else
                 ad
                else
                ad
               else
               ad
              else
              ad
             else
             ad
            else
            ad
           else
           ad
          else
          ad
         else
         ad
        else
        ad
       else
       ad
      else
      ad
     else
     ad
    else
    ad
   else
   ad
  else
  ad
 else
 ab (.inr (e,f,b))
def Zh5(F:Nat)(s:(aMR×Int×aMV×aMR)):yO ((aMR×Int×aMV×aMR)⊕(aMV×aMR)):=
 if(ag (s.2.1 < 8))=ae then
  if(bi s.2.1 s.2.2.2.length)=ae then
   (s.2.2.2[s.2.1.toNat]?).bind λa=>
   (idx s.1 s.2.1).bind λb=>
   if(bi s.2.1 s.2.2.2.length)=ae then
    (s.2.2.2[s.2.1.toNat]?).bind λc=>
    ab (.inl (s.1,wi (s.2.1+1),s.2.2.1,s.2.2.2.set s.2.1.toNat (a+b)))
   else
   ad
  else
  ad
 else
 ab (.inr (s.2.2.1,s.2.2.2))
def ZkV(F:Nat)(a0:aMR)(a1:aMP):yO (aMR):=
 (ZkU F a1).bind λa=>
 (Zl4 F).bind λb=>
 if(cj 0 a0.length 4)=ae then
  (Zc (Zh4 F) F (a0,a,b,0,[()],a0)).bind λc=>
  (Zc (Zh5 F) F (c.1,0,c.2.1,c.2.2)).bind λd=>
  ab d.2
 else
 ad
def ZiQ(F:Nat)(s:(aMP×aMR×Int×aMP)):yO ((aMP×aMR×Int×aMP)⊕(aMR×aMP)):=
 if(ag (s.2.2.1 < (s.1.length:Int)))=ae then
  if(dX s.1.length (ab s.2.2.1) (ab (wi (s.2.2.1+64))))=ae then
   let a:aMP:=(s.1.take ((wi (s.2.2.1+64)).toNat)).drop s.2.2.1.toNat
   (ZkV F s.2.1 a).bind λb=>
   ab (.inl (s.1,b,wi (s.2.2.1+64),s.2.2.2))
  else
  ad
 else
 ab (.inr (s.2.1,s.2.2.2))
def ZiR(F:Nat)(s:(aMR×Int×aMP×aMP)):yO ((aMR×Int×aMP×aMP)⊕(aMP×aMP)):=
 if(ag (s.2.1 < 32))=ae then
  (idx s.1 (wi (Int.tdiv s.2.1 4))).bind λa=>
  if(ag (0<=wi (24 - (wi (8*(Int.tmod s.2.1 4))))))=ae then
   let b:yV:=gS a (min (wi (24 - (wi (8*(Int.tmod s.2.1 4))))).toNat 32)
   if(bi s.2.1 32)=ae then
    (s.2.2.2[s.2.1.toNat]?).bind λc=>
    ab (.inl (s.1,wi (s.2.1+1),s.2.2.1,s.2.2.2.set s.2.1.toNat (w8 (b.toNat:Int))))
   else
   ad
  else
  ad
 else
 ab (.inr (s.2.2.1,s.2.2.2))
def Zl5(F:Nat)(a0:aMP):yO (aMP):=
 (Zj5 F a0).bind λa=>
 (Zj6 F).bind λb=>
 (Zc (ZiQ F) F (a,b,0,dt)).bind λc=>
 (Zc (ZiR F) F (c.1,0,c.2,dt)).bind λd=>
 ab d.2
end
end Go.Proofs.YtcbhhaigilifgaaGreat
end
section
set_option maxRecDepth 4000
namespace Go.Ev
theorem ZCG{I X:Type}{step:I->yO (I⊕X)}{st:Nat->I}{x:X}(n:Nat)(hs:∀k,k < n->step (st k)=ab (.inl (st (k+1))))(he:step (st n)=ab (.inr x)):∀(d k f:Nat),k+d=n->d < f->Zc step f (st k)=ab x
 |0,k,f+1,h,_=>by
  have e:k=n:=by omega
  subst e;unfold Zc
  rw[he,ya]
 |d+1,k,f+1,h,g=>by
  unfold Zc;rw[hs k (by omega),ya];exact ZCG n hs he d (k+1) f (by omega) (by omega)
theorem Zz{I X:Type}{step:I->yO (I⊕X)}(n:Nat)(st:Nat->I){x:X}(hs:∀k,k < n->step (st k)=ab (.inl (st (k+1))))(he:step (st n)=ab (.inr x))(hn:n < 18446744073709551616):
 Zc step yD (st 0)=ab x:=ZCG n hs he n 0 yD (by omega) (by rw[jW];exact hn)
theorem Zzp{I X:Type}{step:I->yO (I⊕X)}{Post:X->Prop}(n:Nat)(S:Nat->I->Prop)(hs:∀k s,k < n->S k s->(∃t,step s=ab (.inl t)/\S (k+1) t)\/∃x,step s=ab (.inr x)/\Post x)
 (he:∀s,S n s->∃x,step s=ab (.inr x)/\Post x):∀(d k f:Nat)(s:I),k+d=n->d < f->S k s->∃x,Zc step f s=ab x/\Post x
 |0,k,f+1,s,h,_,l=>by
  have e:k=n:=by omega
  subst e;obtain⟨x,g,j⟩:=he s l;unfold Zc;rw[g,ya]
  exact⟨x,rfl,j⟩
 |d+1,k,f+1,s,h,m,l=>by
  unfold Zc;rcases hs k s (by omega) l with⟨t,g,j⟩|⟨x,g,j⟩
  .rw[g,ya];exact Zzp n S hs he d (k+1) f t (by omega) (by omega) j
  .rw[g,ya];exact⟨x,rfl,j⟩
theorem XH{I X:Type}{step:I->yO (I⊕X)}(n:Nat)(S:Nat->I->Prop)(Post:X->Prop){i:I}(f:S 0 i)(hn:n < 18446744073709551616)
 (hs:∀k s,k < n->S k s->(∃t,step s=ab (.inl t)/\S (k+1) t)\/∃x,step s=ab (.inr x)/\Post x)
 (he:∀s,S n s->∃x,step s=ab (.inr x)/\Post x):∃x,Zc step yD i=ab x/\Post x:=Zzp n S hs he n 0 yD i (by omega) (by rw[jW];exact hn) f
theorem Zw{a b:Nat}(h:a < b):ag ((a:Int) < (b:Int))=ae:=yY (by omega)
theorem Zy{a:Nat}:ag ((a:Int) < (a:Int))=af:=yZ (by omega)
theorem Zr{k:Nat}(h:k < 9223372036854775807):wi ((k:Int)+1)=((k+1:Nat):Int):=by
 rw[ZJ (by omega) (by omega)];omega
theorem Zn{α:Type}{l:yL α}{k:Nat}{y:α}(h:l[k]? =ab y):idx l (k:Int)=ab y:=sX (by omega) (by simpa using h)
theorem Zvb{α:Type}{ls:yL (yL α)}{k:Nat}{e:yL α}(h:ls[k]? =ab e):(ls.take (k+1)).flatten=(ls.take k).flatten++e:=by
 rw[List.take_add_one,h];simp
theorem ZCH{α:Type}(ls:yL (yL α))(k:Nat):(ls.take k).flatten.length<=ls.flatten.length:=by
 have h:=congrArg (λl=>(List.flatten l).length) (ybb k ls);simp only[List.flatten_append,yl]at h;omega
theorem We{α:Type}{l:yL α}{k:Nat}{e:α}(h:l[k]? =ab e):l.take (k+1)=l.take k++[e]:=by
 rw[List.take_add_one,h];rfl
theorem Zj{α:Type}{l:yL α}{k:Nat}(h:k < l.length):∃e,l[k]? =ab e/\e∈l:=⟨l[k],yab h,List.getElem_mem h⟩
end Go.Ev
end
section
set_option maxRecDepth 4000
namespace Go.Proofs.YtcbhhaigilifgaaGreat
open Go Go.Ev Go.Sha
def rb8(n:Nat):yL yB:=(kb n).map yap
theorem ZGW(n:yU){k:Nat}(f:k < 8):(rb8 n.toNat)[k]? =ab (w8 ((ZB n (56 - 8*k)).toNat:Int)):=by
 have h:∀m:Nat,w8 ((ZB n m).toNat:Int)=yap (n.toNat / 2 ^ m % 256):=by
  intro m;unfold w8 ZB;rw[ybi,yas (Nat.lt_of_le_of_lt (Nat.div_le_self _ _) (ybv n))];congr 1
 rw[h]
 match k,f with
 |0,_=>rfl
 |1,_=>rfl
 |2,_=>rfl
 |3,_=>rfl
 |4,_=>rfl
 |5,_=>rfl
 |6,_=>rfl
 |7,_=>
  show ab (yap (n.toNat % 256))=ab (yap (n.toNat / 2 ^ 0 % 256));rw[Nat.pow_zero,Nat.div_one]
noncomputable def OB(F:Nat)(a0:yL yB):yO aMP:=if ag (a0.length<=4294967296)=ae then ab (iS a0) else Zl5 F a0
theorem ZGX{l:yL yB}(h:l.length<=4294967296):OB yD l=ab (iS l):=yW (yY h)
end Go.Proofs.YtcbhhaigilifgaaGreat
end
section
set_option maxRecDepth 4000
namespace Go.Proofs.YtcbhhaigilifgaaGreat
open Go Go.Ev
noncomputable section
def YT(F:Nat)(s:(yU×Int×aMP×aMP)):yO ((yU×Int×aMP×aMP)⊕(aMP×aMP)):=
 if(ag (s.2.1 >= 0))=ae then
  if(ag (0<=s.2.1))=ae then
   let a:yB:=w8 ((ZB s.1 (min s.2.1.toNat 64)).toNat:Int)
   if(cj s.2.2.2.length 1 1)=ae then
    ab (.inl (s.1,wi (s.2.1 - 8),s.2.2.1,s.2.2.2++([a]:yL yB)))
   else
   ad
  else
  ad
 else
 ab (.inr (s.2.2.1,s.2.2.2))
def V1(F:Nat)(a0:yU):yO (aMP):=
 (Zc (YT F) F (a0,56,[],[])).bind λa=>
 ab a.2
def Y4(F:Nat)(s:(aNp×Int×aMP×aMP)):yO ((aNp×Int×aMP×aMP)⊕(aMP×aMP)):=
 if(ag (s.2.1 < (s.1.length:Int)))=ae then
  (idx s.1 s.2.1).bind λa=>
  (OA F (dy (a.length:Int))).bind λb=>
  if(cj s.2.2.2.length b.length 1)=ae then
   (idx s.1 s.2.1).bind λc=>
   if(cj ((s.2.2.2++b).length) c.length 1)=ae then
    ab (.inl (s.1,wi (s.2.1+1),s.2.2.1,(s.2.2.2++b)++c))
   else
   ad
  else
  ad
 else
 ab (.inr (s.2.2.1,s.2.2.2))
def OC(F:Nat)(a0:ByteArray)(a1:aNp):yO (aMP):=
 (V1 F (dy (a0.size:Int))).bind λa=>
 if(ag (a0.size<=maxLen))=ae then
  if(cj a.length a0.data.toList.length 1)=ae then
   (Zc (Y4 F) F (a1,0,dt,a++a0.data.toList)).bind λb=>
   (OB F b.2).bind λc=>
   ab c
  else
  ad
 else
 ad
def WO(F:Nat)(f:Int->yO (aMP))(a0:Int):yO (aMP):=
 if(ag (a0 < 128))=ae then
  ab [w8 a0]
 else
 (f (wi (Int.tdiv a0 128))).bind λa=>
 if(cj 1 a.length 1)=ae then
  let b:aMP:=([(w8 (Int.tmod a0 128))+128]:yL yB)++a
  ab b
 else
 ad
def Qg(F k:Nat):Int->yO (aMP):=Nat.rec (motive:=λ_=>Int->yO (aMP)) (λ_=>ad) (λ_ f=>WO F f) k
def OD(F:Nat)(a0:Int):yO (aMP):=Qg F 12 a0
def Yc(F:Nat)(a0:aMP)(a1:Int):yO (aMP):=
 if(cj 0 a0.length 1)=ae then
  if(ag (a1 >= 0))=ae then
   (OD F a1).bind λa=>
   if(cj a0.length a.length 1)=ae then
    ab (a0++a)
   else
   ad
  else
  ab a0
 else
 ad
def YU(F:Nat)(s:(Int×aMP×aMP)):yO ((Int×aMP×aMP)⊕(aMP×aMP)):=
 if(ag (s.1 < 32))=ae then
  if(bi s.1 32)=ae then
   (s.2.1[s.1.toNat]?).bind λa=>
   if(cj s.2.2.length 1 1)=ae then
    ab (.inl (wi (s.1+1),s.2.1,s.2.2++([a]:yL yB)))
   else
   ad
  else
  ad
 else
 ab (.inr (s.2.1,s.2.2))
def V2(F:Nat)(a0:aMP)(a1:aMP):yO (aMP):=
 if(cj 0 a0.length 1)=ae then
  (Zc (YU F) F (0,a1,a0)).bind λa=>
  ab a.2
 else
 ad
def Zdk(F:Nat)(a0:aMP)(a1:Int):yO (aMP):=
 if(cj 0 a0.length 1)=ae then
  if(ag (a1 >= 0))=ae then
   (OD F a1).bind λa=>
   if(cj a0.length a.length 1)=ae then
    ab (a0++a)
   else
   ad
  else
  ab a0
 else
 ad
def VG(F:Nat)(a0:aMP)(a1:aMP):yO (aMP):=
 (Zdk F a0 (a1.length:Int)).bind λa=>
 if(cj a.length a1.length 1)=ae then
  ab (a++a1)
 else
 ad
def Y5(F:Nat)(s:(yU×Int×aMP)):yO ((yU×Int×aMP)⊕aMP):=
 if(ag (s.2.1 >= 0))=ae then
  let a:yU:=ZB s.1 (min ((dy (wi (8*s.2.1))).toNat:Int).toNat 64)
  if(cj s.2.2.length 1 1)=ae then
   ab (.inl (s.1,wi (s.2.1 - 1),s.2.2++([w8 (a.toNat:Int)]:yL yB)))
  else
  ad
 else
 ab (.inr s.2.2)
def WP(F:Nat)(a0:aMP)(a1:yU):yO (aMP):=
 if(cj 0 a0.length 1)=ae then
  (Zc (Y5 F) F (a1,7,a0)).bind λa=>
  ab a
 else
 ad
def Xk(F:Nat):(aMP×Int×Int×Z4×ZR)->yO ((aMP×Int×Int×Z4×ZR)⊕(aMP×Int×Z4×ZR))
 |(c,d,a,e,b)=>
 if(ag (a < (b.1.length:Int)))=ae then
  (idx b.1 a).bind λf=>
  (WP F c f).bind λg=>
  ab (.inl (g,d,wi (a+1),e,b))
 else
 ab (.inr (c,d,e,b))
def Xl(F:Nat)(s:(aMP×Int×Z4)):yO ((aMP×Int×Z4)⊕(aMP×Z4)):=
 if(ag (s.2.1 < (s.2.2.length:Int)))=ae then
  (idx s.2.2 s.2.1).bind λa=>
  (Yc F s.1 (a.1.length:Int)).bind λb=>
  (Zc (Xk F) F (b,s.2.1,0,s.2.2,a)).bind λc=>
  (Yc F c.1 c.2.2.2.2.1).bind λd=>
  (Yc F d c.2.2.2.2.2.1).bind λe=>
  (WP F e c.2.2.2.2.2.2).bind λf=>
  ab (.inl (f,wi (c.2.1+1),c.2.2.1))
 else
 ab (.inr (s.1,s.2.2))
def OE(F:Nat)(a0:Z4):yO (aMP):=
 (Xq F a0).bind λa=>
 if(!a)=ae then
  ab []
 else
 (Yc F [] (a0.length:Int)).bind λb=>
 (Zc (Xl F) F (b,0,a0)).bind λc=>
 ab c.1
def Xm(F:Nat)(s:(aMP×Int×Tx)):yO ((aMP×Int×Tx)⊕(aMP×Tx)):=
 if(ag (s.2.1 < (s.2.2.1.length:Int)))=ae then
  (idx s.2.2.1 s.2.1).bind λa=>
  (V2 F s.1 a.1.1).bind λb=>
  (idx s.2.2.1 s.2.1).bind λc=>
  (Yc F b c.1.2).bind λd=>
  ab (.inl (d,wi (s.2.1+1),s.2.2))
 else
 ab (.inr (s.1,s.2.2))
def Xn(F:Nat)(s:(aMP×Int×Tx)):yO ((aMP×Int×Tx)⊕(aMP×Tx)):=
 if(ag (s.2.1 < (s.2.2.2.1.length:Int)))=ae then
  (idx s.2.2.2.1 s.2.1).bind λa=>
  (Yc F s.1 a.1).bind λb=>
  (idx s.2.2.2.1 s.2.1).bind λc=>
  (OE F c.2).bind λd=>
  (VG F b d).bind λe=>
  ab (.inl (e,wi (s.2.1+1),s.2.2))
 else
 ab (.inr (s.1,s.2.2))
def OF(F:Nat)(a0:Tx):yO (aMP):=
 (Yc F [] (a0.1.length:Int)).bind λa=>
 (Zc (Xm F) F (a,0,a0)).bind λb=>
 (Yc F b.1 (b.2.2.1.length:Int)).bind λc=>
 (Zc (Xn F) F (c,0,b.2)).bind λd=>
 (Yc F d.1 d.2.2.2).bind λe=>
 ab e
def zw(F:Nat)(a0:Tx):yO (aMP):=
 (W4 F a0).bind λa=>
 if(!a)=ae then
  ab dt
 else
 (OF F a0).bind λb=>
 (OC F ZKd [b]).bind λc=>
 ab c
def YP(F:Nat):(Int×Chan×yG×aNa×Chan×yG×Tx×aNd)->yO ((Int×Chan×yG×aNa×Chan×yG×Tx×aNd)⊕((Int×Chan×yG×aNa×Chan×yG×Tx×aNd)⊕(Chan×yG×aNa×Chan×yG×Tx×aNd)))
 |(a,d,c,e,f,g,h,b)=>
 if(ag (a < 2))=ae then
  if(bi a 2)=ae then
   (b[a.toNat]?).bind λi=>
   if(ag (i < 0))=ae then
    if(bi a 2)=ae then
     (c.2.1[a.toNat]?).bind λj=>
     if(bi a 2)=ae then
      (b[a.toNat]?).bind λk=>
      if(bi (wi (1 - a)) 2)=ae then
       (d.2.2.2.1[(wi (1 - a)).toNat]?).bind λl=>
       if(ag ((wi (j+k)) < l.2.1))=ae then
        ab (.inr (.inl (10,d,c,e,((dt,0),0,[(0,0,0,0,0),(0,0,0,0,0)],[(0,0,0,0,0,0),(0,0,0,0,0,0)],0),(0,[0,0],[],0),([],[],0),b)))
       else
       ab (.inl (wi (a+1),d,c,e,f,g,h,b))
      else
      ad
     else
     ad
    else
    ad
   else
   ab (.inl (wi (a+1),d,c,e,f,g,h,b))
  else
  ad
 else
 ab (.inr (.inr (d,c,e,f,g,h,b)))
def Zfl(F:Nat)(a0:Chan)(a1:yG)(a2:aNa):yO ((Chan×yG×Tx×Int)):=
 (Qe F a0).bind λe=>
 if(e !=0)=ae then
  ab (((dt,0),0,[(0,0,0,0,0),(0,0,0,0,0)],[(0,0,0,0,0,0),(0,0,0,0,0,0)],0),(0,[0,0],[],0),([],[],0),e)
 else
 (X5 F a0 a1).bind λf=>
 if(!f)=ae then
  ab (((dt,0),0,[(0,0,0,0,0),(0,0,0,0,0)],[(0,0,0,0,0,0),(0,0,0,0,0,0)],0),(0,[0,0],[],0),([],[],0),14)
 else
 (a2[0]?).bind λg=>
 (Qf F g).bind λh=>
 if(!h)=ae then
  ab (((dt,0),0,[(0,0,0,0,0),(0,0,0,0,0)],[(0,0,0,0,0,0),(0,0,0,0,0,0)],0),(0,[0,0],[],0),([],[],0),1)
 else
 (a2[1]?).bind λi=>
 (Qf F i).bind λj=>
 if(!j)=ae then
  ab (((dt,0),0,[(0,0,0,0,0),(0,0,0,0,0)],[(0,0,0,0,0,0),(0,0,0,0,0,0)],0),(0,[0,0],[],0),([],[],0),1)
 else
 (a2[0]?).bind λk=>
 (WN F k).bind λl=>
 (a2[1]?).bind λm=>
 (WN F m).bind λn=>
 (a1.2.1[0]?).bind λo=>
 if(ag ((wi (o+l)) < 0))=ae then
  ab (((dt,0),0,[(0,0,0,0,0),(0,0,0,0,0)],[(0,0,0,0,0,0),(0,0,0,0,0,0)],0),(0,[0,0],[],0),([],[],0),8)
 else
 (a1.2.1[1]?).bind λp=>
 if(ag ((wi (p+n)) < 0))=ae then
  ab (((dt,0),0,[(0,0,0,0,0),(0,0,0,0,0)],[(0,0,0,0,0,0),(0,0,0,0,0,0)],0),(0,[0,0],[],0),([],[],0),8)
 else
 (Zc (YP F) F (0,a0,a1,a2,((dt,0),0,[(0,0,0,0,0),(0,0,0,0,0)],[(0,0,0,0,0,0),(0,0,0,0,0,0)],0),(0,[0,0],[],0),([],[],0),[l,n])).bind λq=>
 match q with
 |.inl (d,_,_,_,a,b,c,_)=>
  ab (a,b,c,d)
 |.inr (c,b,d,_,_,_,a)=>
  (a[0]?).bind λr=>
  (a[1]?).bind λs=>
  (NN F b a).bind λt=>
  (X5 F (c.1,wi ((wi (c.2.1+r))+s),c.2.2.1,c.2.2.2.1,c.2.2.2.2) t).bind λu=>
  if(!u)=ae then
   ab (((dt,0),0,[(0,0,0,0,0),(0,0,0,0,0)],[(0,0,0,0,0,0),(0,0,0,0,0,0)],0),(0,[0,0],[],0),([],[],0),8)
  else
  (NZ F c (wi ((wi (c.2.1+r))+s)) d).bind λv=>
  (W4 F v).bind λw=>
  if(!w)=ae then
   ab (((dt,0),0,[(0,0,0,0,0),(0,0,0,0,0)],[(0,0,0,0,0,0),(0,0,0,0,0,0)],0),(0,[0,0],[],0),([],[],0),1)
  else
  (zw F v).bind λx=>
  ab (((x,0),wi ((wi (c.2.1+r))+s),c.2.2.1,c.2.2.2.1,c.2.2.2.2),t,v,0)
end
end Go.Proofs.YtcbhhaigilifgaaGreat
end
section
set_option maxRecDepth 4000
namespace Go.Proofs.YtcbhhaigilifgaaGreat
open Go Go.Ev
theorem ZGY{m:Nat}(hm:0 < m):∀(f a n o:Nat),o < m->gV m f a n o < m
 |0,_,_,o,h=>h
 |f+1,a,n,o,h=>by
  rw[gV];split
  .exact h
  .refine ZGY hm f _ _ _ ?_;split
   .exact Nat.mod_lt _ hm
   .exact h
theorem ZGZ{m:Nat}(hm:1 < m)(k a n:Nat)(h:n < 2 ^ k):gV m k a n 1=a ^ n % m:=by
 rw[<-yas (ZGY (by omega) k a n 1 hm),ZCx k a n 1 h,Nat.one_mul]
instance(a:Nat):Decidable (eE a):=by unfold eE;infer_instance
theorem ZLP{z:Nat}(h:z < gW):z < 18446744073709551616:=Nat.lt_trans h (by decide)
theorem ZLQ{z:Nat}(h:z < gW):(yan z).toNat=z:=by
 rw[ybi,yas (ZLP h)]
theorem ZCI(z:Nat):z % gW < gW:=Nat.mod_lt _ (by decide)
theorem Zzq(a n:yU):Q2 yD a n=ab (yan (a.toNat ^ n.toNat % gW)):=by
 unfold Q2;rw[ZGZ (by decide) 64 a.toNat n.toNat (ybv n)];rfl
theorem ZD3{a n:yU}(h:a.toNat < gW):NQ yD a n=ab (yan (a.toNat ^ n.toNat % gW)):=by
 unfold NQ;rw[yW (yY (show a.toNat < 4611686018427377339 from h)),ZGZ (by decide) 64 a.toNat n.toNat (ybv n)]
 rfl
theorem ZG0{z:Nat}(h:z < gW):(yan z==1)=ag (z=1):=by
 rw[Bool.eq_iff_iff,yT,yN, <-UInt64.toNat_inj,ZLQ h];rfl
theorem zx(p:yU):Xc yD p=ab (ag (eE p.toNat)):=by
 unfold Xc;by_cases f:0 < p.toNat
 .rw[yW (yY (show p > 0 from ycs.2 f))]
  by_cases g:p.toNat < gW
  .rw[yW (yY (show p < 4611686018427377339 from ycs.2 g)),Zzq,ya,ZG0 (ZCI _)]
   congr 1;rw[decide_eq_decide];exact⟨λh=>⟨f,g,h⟩,λh=>h.2.2⟩
  .rw[yX (by rw[yN];exact λh=>g (ycs.1 h)),yZ (λh=>g h.2.1)]
 .rw[yX (by rw[yN];exact λh=>f (ycs.1 h)),yZ (λh=>f h.1)]
theorem zy(p:yU):Xp yD p=ab (ag (eE p.toNat)):=by
 unfold Xp;by_cases g:0 < p.toNat
 .rw[yW (yY (show p >= 1 from ycp.2 g))]
  by_cases f:p.toNat < gW
  .rw[yW (yY (show p < 4611686018427377339 from ycs.2 f)),ZD3 f,ya,ZG0 (ZCI _)]
   congr 1;rw[decide_eq_decide];exact⟨λh=>⟨g,f,h⟩,λh=>h.2.2⟩
  .rw[yX (by rw[yN];exact λh=>f (ycs.1 h)),yZ (λh=>f h.2.1)]
 .rw[yX (by rw[yN];exact λh=>g (ycp.1 h)),yZ (λh=>g h.1)]
def tk(p:yU):yU:=if eE p.toNat then p else 1
theorem ZM9(p:yU):eE (tk p).toNat:=by
 unfold tk;split
 .assumption
 .exact ZLw
theorem ZG1(p:yU):qg yD p=ab (tk p):=by
 unfold qg tk;rw[zx,ya];by_cases h:eE p.toNat
 .rw[yW (yY h),yW h]
 .rw[yX (by rw[yN];exact h),yX h]
def sc(p:yU)(n:Nat):yU:=yan ((tk p).toNat ^ n % gW)
theorem ZLR(p:yU)(n:Nat):sc p (n % kN)=sc p n:=by
 unfold sc;rw[ZI9 (ZM9 p)]
theorem ZNa(k:yU):(k % 2305843009213688669).toNat=k.toNat % kN:=by
 rw[UInt64.toNat_mod];rfl
theorem ZG2(p k:yU):VC yD p k=ab (sc p k.toNat):=by
 unfold VC;rw[ZG1,ya,Zzq,ya,ZNa, <-ZLR];rfl
def B(n:Nat):yU:=sc 4 n
theorem tT(k:yU):Y3 yD k=ab (B k.toNat):=by
 unfold Y3;rw[ZG2,ya];rfl
def Key(k:yU):Prop:=0 < k.toNat/\k.toNat < kN
theorem ZJt{h:yL yB}(hl:h.length=32):∃k,Vn yD h=ab k/\Key k:=by
 unfold Vn
 obtain⟨x,g,m⟩:=XH (step:=QH yD) 32 (λk s=>∃n:yU,s=(n,h,(k:Int),h)/\n.toNat < 2305843009213688668) (λx=>x.1.toNat < 2305843009213688668) (i:=((0:yU),h,(0:Int),h)) ⟨0,rfl,by decide⟩ (by omega) (by
  rintro k _ y ⟨n,rfl,f⟩;left;obtain⟨e,j,_⟩:=Zj (l:=h) (k:=k) (by omega);unfold QH;dsimp only;rw[yW (yY (by omega)),Zn j,ya];unfold Vk;rw[yW (by decide),ya,Zr (by omega)];refine⟨_,rfl,_,rfl, ?_⟩;rw[show(2305843009213688668:yU).toNat=2305843009213688668 from rfl,ybi,yas]
  .exact Nat.mod_lt _ (by decide)
  .exact Nat.lt_trans (Nat.mod_lt _ (by decide)) (by decide)) (by
  rintro _ ⟨n,rfl,f⟩;unfold QH;dsimp only;rw[yX (dj (by omega))];exact⟨_,rfl,f⟩)
 rw[g,ya];have e:(x.1+1).toNat=x.1.toNat+1:=by rw[UInt64.toNat_add,yas (by show x.1.toNat+1 < _;omega)];rfl
 exact⟨_,rfl,by rw[e];omega,by rw[e];unfold kN;omega⟩
theorem Zvc{ls:yL aMP}(h:ls.flatten.length<=1000000000)(hn:ls.length<=1000):YS yD ls=ab ls.flatten:=by
 unfold YS
 rw[show(ls,(0:Int),ls,(ls.length:Int),(0:Int))=(λk:Nat=>(ls,((ls.take k).flatten.length:Int),ls,(ls.length:Int),(k:Int))) 0 from rfl,
  Zz (x:=(ls,(ls.flatten.length:Int))) ls.length (λk:Nat=>(ls,((ls.take k).flatten.length:Int),ls,(ls.length:Int),(k:Int))) ?_ ?_ (by omega),ya]
 .have m:oq (ls.flatten.length:Int)=ab []:=by
   unfold oq;rw[yW];rw[Bool.and_eq_true];exact⟨yY (by omega),yY (by unfold Zt;omega)⟩
  dsimp only
  rw[m,ya,show(ls,(ls.length:Int),(0:Int),([]:yL yB))=(λk:Nat=>(ls,(ls.length:Int),(k:Int),(ls.take k).flatten)) 0 from rfl,
   Zz (x:=ls.flatten) ls.length (λk:Nat=>(ls,(ls.length:Int),(k:Int),(ls.take k).flatten)) ?_ ?_ (by omega),ya]
  .intro k f;obtain⟨e,g,_⟩:=Zj f;have j:=Zvb g;have l:=ZCH ls (k+1);rw[j,yl]at l;unfold Xa;dsimp only;rw[yW (Zw f),Zn g,ya,yW (ZZ (by omega) (by omega)),Zr (by omega),j]
  .unfold Xa;dsimp only;rw[yX (by rw[Zy];decide),yai]
 .intro k f;obtain⟨e,g,_⟩:=Zj f;have j:=Zvb g;have l:=ZCH ls (k+1);rw[j,yl]at l;unfold Y9;dsimp only;rw[yW (Zw f),Zn g,ya,ZJ (z:=((ls.take k).flatten.length:Int)+(e.length:Int)) (by omega) (by omega),yX (dj (by omega)),Zr (by omega),j,yl];rfl
 .unfold Y9;dsimp only;rw[yX (by rw[Zy];decide),yai]
theorem OG{a b:yL yB}(h:a.length+b.length<=1000000000):oA yD a b=ab (a++b):=by
 unfold oA;rw[Zvc (by simp;omega) (by simp),ya];simp
def Yp(n:Nat):yL yB:=if h:n < 128 then[yap n] else yap (n % 128+128)::Yp (n / 128)
termination_by n
decreasing_by omega
theorem oJ{n:Nat}(h:n < 128):Yp n=[yap n]:=by rw[Yp,dif_pos h]
theorem tU{n:Nat}(h:¬n < 128):Yp n=yap (n % 128+128)::Yp (n / 128):=by rw[Yp,dif_neg h]
theorem ZCJ:∀(j n:Nat),n < 128 ^ (j+1)->(Yp n).length<=j+1
 |0,n,h=>by rw[oJ (by omega)];exact ym _
 |j+1,n,h=>by
  by_cases f:n < 128
  .rw[oJ f,List.length_singleton];omega
  .rw[tU f];have:=ZCJ j (n / 128) (by rw[Nat.pow_succ]at h;omega);simp only[yaf];omega
theorem ZC{n:Nat}(h:n<=9223372036854775807):(Yp n).length<=9:=ZCJ 8 n (by omega)
theorem ZCK(n:Nat):Yp n≠[]:=by
 rw[Yp];split <;> simp
theorem ZG3{n:Nat}(h:n<=9223372036854775807):tx yD (n:Int)=ab (Yp n):=by
 unfold tx;refine Exists.elim (Wz (step:=xy yD) (λs=>∃m:Nat,s.1=(m:Int)/\m<=n/\s.2++Yp m=Yp n) (λs=>s.1.toNat) (λx=>∃m:Nat,x.1=(m:Int)/\m < 128/\x.2++Yp m=Yp n) ?_ ((n:Int),([]:yL yB)) ⟨n,rfl,ym _,rfl⟩ (by dsimp only;omega)) ?_
 .rintro⟨_,o⟩ ⟨m,rfl,G,f⟩;unfold xy;dsimp only at f ⊢;have j:=congrArg List.length f;have y:=ZC h;rw[yl]at j;by_cases g:m < 128
  .right;rw[yX (dj (by omega))];exact⟨_,rfl,m,rfl,g,f⟩
  .left;rw[yW (yY (by omega)),yW (ZZ (by omega) (by omega))];have A:Int.tmod (m:Int) 128=((m % 128:Nat):Int):=rfl;have E:Int.tdiv (m:Int) 128=((m / 128:Nat):Int):=rfl;rw[A,E,ZJ (z:=((m % 128:Nat):Int)+128) (by omega) (by omega),ZJ (z:=((m / 128:Nat):Int)) (by omega) (by omega)];refine⟨_,rfl,⟨m / 128,rfl,by omega, ?_⟩,by dsimp only;omega⟩;dsimp only;rw[<-f,tU g,yac];congr 1;rw[List.singleton_append];congr 1;unfold w8;congr 1;omega
 .rintro⟨_,o⟩ ⟨g,m,rfl,F,l⟩;dsimp only at l ⊢;have j:=congrArg List.length l;have y:=ZC h;rw[yl]at j;rw[g,ya];dsimp only;rw[yW (ZZ (by omega) (by omega)), <-l,oJ F];congr 3;unfold w8;congr 1;omega
theorem ki{b:yL yB}{z:Int}(f:0<=z)(h:z<=9223372036854775807)(hb:b.length<=1000000):XS yD b z=ab (b++Yp z.toNat):=by
 obtain⟨n,rfl⟩:=Int.eq_ofNat_of_zero_le f;have:=ZC (n:=n) (by omega);unfold XS;rw[yX (dj (by omega)),ZG3 (by omega),ya,OG (by omega),ya,yat]
theorem ZBn{b h:yL yB}(hb:b.length<=1000000)(f:h.length<=1000000):xz yD b h=ab (b++h):=by
 unfold xz;rw[OG (by omega),ya]
theorem Zzr{b c:yL yB}(hb:b.length<=1000000)(hc:c.length<=1000000):xA yD b c=ab (b++(Yp c.length++c)):=by
 have:=ZC (n:=c.length) (by omega);unfold xA;rw[ZG3 (by omega),ya,Zvc (by simp;omega) (by simp),ya];simp
def lN(l:yL yB)(n k:Nat):yL yB:=l.take k++yx (n - k) 0
theorem ZD4{l:yL yB}{n k:Nat}(h:k < l.length)(h2:l.length<=n):(lN l n k)[k]? =ab 0:=by
 unfold lN;have f:(l.take k).length=k:=by simp;omega
 rw[yaq (by omega),f,List.getElem?_replicate];simp;omega
theorem ZD5{l:yL yB}{n k:Nat}{d:yB}(f:l[k]? =ab d)(h2:l.length<=n):(lN l n k).set k d=lN l n (k+1):=by
 have h:k < l.length:=(yu.1 f).1;have g:(l.take k).length=k:=by simp;omega
 unfold lN;rw[We f,List.set_append_right _ _ (by omega),g,Nat.sub_self];have e:n - k=(n - (k+1))+1:=by omega
 rw[e,List.replicate_succ];simp
theorem ZD6{l:yL yB}{n:Nat}(h:l.length=n):lN l n n=l:=by
 unfold lN;rw[<-h];simp
def fz(n:Nat):yL yB:=(List.range 8).map λi=>yap (n / 2 ^ (56 - 8*i))
theorem YM(n:Nat):(fz n).length=8:=by simp[fz]
theorem zz(n:Nat){k:Nat}(f:k < 8):(fz n)[k]? =ab (yap (n / 2 ^ (56 - 8*k))):=by simp[fz,f]
theorem Zzs(x:yU){m:Nat}:w8 ((ZB x m).toNat:Int)=yap (x.toNat / 2 ^ m):=by
 unfold w8 ZB;have h:x.toNat / 2 ^ m < 18446744073709551616:=Nat.lt_of_le_of_lt (Nat.div_le_self ..) (ybv _);rw[ybi,yas h];apply UInt8.toNat_inj.1;rw[UInt8.toNat_ofNat',UInt8.toNat_ofNat'];omega
theorem tV{b:yL yB}(x:yU)(hb:b.length<=1000000):WE yD b x=ab (b++fz x.toNat):=by
 unfold WE
 rw[show(b,x,(0:Int),([0,0,0,0,0,0,0,0]:yL yB))=(λk:Nat=>(b,x,(k:Int),lN (fz x.toNat) 8 k)) 0 from rfl,
  Zz (x:=(b,fz x.toNat)) 8 (λk:Nat=>(b,x,(k:Int),lN (fz x.toNat) 8 k)) ?_ ?_ (by omega),ya]
 .dsimp only;rw[OG (by rw[YM];omega),ya]
 .intro k f;unfold xB;dsimp only;have g:=YM x.toNat
  rw[yW (yY (by omega)),ZJ (z:=8*(k:Int)) (by omega) (by omega),ZJ (z:=56 - 8*(k:Int)) (by omega) (by omega),yW (yY (by omega)),yW (X8 (by omega) (by omega)),
   yat,ZD4 (by omega) (by omega),ya,Zr (by omega)]
  have e:min (56 - 8*(k:Int)).toNat 64=56 - 8*k:=by omega
  rw[e,Zzs,ZD5 (zz _ f) (by omega)]
 .unfold xB;dsimp only;rw[yX (by simp),ZD6 (YM _)]
def lO(b:ZR):Prop:=b.1.length<=12/\0<=b.2.1/\b.2.1<=1048576/\0<=b.2.2.1/\b.2.2.1<=1048576
def lP(b:ZR):Prop:=(∀p,p∈b.1->eE p.toNat)/\(b.2.2.2≠0->eE b.2.2.2.toNat)
def Wg(l:Z4):Prop:=0 < l.length/\l.length<=4/\∀b,b∈l->lO b
def gX(l:Z4):Prop:=∀b,b∈l->lP b
theorem OH(p:yU):VS yD p=ab (!decide (eE p.toNat)):=by
 unfold VS;rw[zx,ya]
theorem ZG4{p:yU}(h:eE p.toNat):VS yD p=ab af:=by rw[OH,yY h];rfl
theorem ZNb{l:yL yU}(hl:l.length<=12)(h:∀p,p∈l->eE p.toNat):pU yD l=ab af:=by
 unfold pU xf
 rw[show(l,(l.length:Int),(0:Int))=(λk:Nat=>(l,(l.length:Int),(k:Int))) 0 from rfl,
  Zz (x:=.inr ()) l.length (λk:Nat=>(l,(l.length:Int),(k:Int))) ?_ ?_ (by omega),ya]
 .rfl
 .intro k f;obtain⟨e,g,j⟩:=Zj f;unfold Xd;dsimp only;rw[yW (Zw f),Zn g,ya,ZG4 (h e j),ya,Zr (by omega)];rfl
 .unfold Xd;dsimp only;rw[yX (by rw[Zy];decide)]
theorem Zvd{z:Int}(f:0<=z)(h1:z<=1048576):Vv yD z=ab ae:=by
 unfold Vv;rw[yW (yY f),yY h1]
theorem OI{l:Z4}(h:Wg l)(hp:gX l):XJ yD l=ab ae:=by
 unfold XJ;obtain⟨J,M,m⟩:=h
 rw[show(l,(l.length:Int),(0:Int),l)=(λk:Nat=>(l,(l.length:Int),(k:Int),l)) 0 from rfl,
  Zz (x:=.inr l) l.length (λk:Nat=>(l,(l.length:Int),(k:Int),l)) ?_ ?_ (by omega),ya]
 .dsimp only;rw[yW (yY (by omega)),yY (by omega)]
 .intro k g;obtain⟨e,y,j⟩:=Zj g;obtain⟨z,A,E,e4,F⟩:=m e j;obtain⟨G,I⟩:=hp e j;unfold Wr;dsimp only;rw[yW (Zw g),Zn y,ya,yX (dj (by omega)),ZNb z G,ya,Zvd A E,ya,Zvd e4 F,ya,Zr (by omega),yX (by decide),yX (by decide),yX (by decide)];by_cases f:e.2.2.2=0
  .rw[yX (by simp[f])]
  .rw[yW (by simp[f]),ZG4 (I f),ya,yX (by decide)]
 .unfold Wr;dsimp only;rw[yX (by rw[Zy];decide)]
def mW(t:Tx):Prop:=(∀x,x∈t.1->x.1.1.length=32)/\t.2.2<=9223372036854775807
def tW(x:In):Prop:=0<=x.1.2/\x.1.2 < 64/\0<=x.2.1/\x.2.1 < 4/\x.2.2.1.length<=12
def OJ(o:Out):Prop:=0<=o.1/\o.1<=1125899906842624/\Wg o.2/\gX o.2
def ql(t:Tx):Prop:=0 < t.1.length/\t.1.length<=64/\t.2.1.length<=64/\0<=t.2.2/\(∀x,x∈t.1->tW x)/\∀o,o∈t.2.1->OJ o
def bo{α:Type}(f:α->yL yB)(l:yL α):yL yB:=(l.map f).flatten
theorem VO{α:Type}{f:α->yL yB}{l:yL α}{k:Nat}{e:α}(h:l[k]? =ab e):bo f (l.take (k+1))=bo f (l.take k)++f e:=by
 unfold bo
 rw[We h,yaw,List.flatten_append];simp
theorem OL{α:Type}{f:α->yL yB}{l:yL α}{e:α}:bo f (e::l)=f e++bo f l:=rfl
theorem OM{α:Type}{f:α->yL yB}{c:Nat}:∀{l:yL α},(∀x,x∈l->(f x).length<=c)->(bo f l).length<=l.length*c
 |[],_=>by simp[bo]
 |e::l,h=>by
  have j:=h e (List.mem_cons_self ..);have m:=OM (l:=l) λx g=>h x (List.mem_cons_of_mem _ g);rw[OL,yl,yaf,Nat.succ_mul];omega
theorem Vh{α:Type}{f:α->yL yB}{c n:Nat}{l:yL α}(h:∀x,x∈l->(f x).length<=c)(hn:l.length<=n)(k:Nat):(bo f (l.take k)).length<=n*c:=by
 refine ybt (OM λx g=>h x (List.mem_of_mem_take g)) (ycb c ?_);rw[yaa];omega
def ik(p:yU):yL yB:=fz p.toNat
def fU(b:ZR):yL yB:=Yp b.1.length++(bo ik b.1++(Yp b.2.1.toNat++(Yp b.2.2.1.toNat++fz b.2.2.2.toNat)))
def gv(l:Z4):yL yB:=Yp l.length++bo fU l
theorem tX{l:yL yU}(h:l.length<=12)(k:Nat):(bo ik (l.take k)).length<=96:=Vh (c:=8) (λx _=>Nat.le_of_eq (YM _)) h k
theorem zA{b:ZR}(h:b.1.length<=12/\0<=b.2.1/\b.2.1<=1048576/\0<=b.2.2.1/\b.2.2.1<=1048576):(fU b).length<=131:=by
 have f:=tX h.1 b.1.length;rw[yai]at f;have g:=ZC (n:=b.1.length) (by omega);have j:=ZC (n:=b.2.1.toNat) (by omega);have l:=ZC (n:=b.2.2.1.toNat) (by omega);have m:=YM b.2.2.2.toNat
 unfold fU;simp only[yl];omega
theorem qm{l:Z4}(h:Wg l):(gv l).length<=533:=by
 have g:=Vh (f:=fU) (c:=131) (λx j=>zA (h.2.2 x j)) h.2.1 l.length;rw[yai]at g;have m:=ZC (n:=l.length) (by have:=h.2.1;omega);unfold gv;rw[yl];omega
theorem ZD8{c:yL yB}(hc:c.length<=100000){f:yL ZR}{n i:Int}{ks:yL yU}{l:Z4}{e:ZR}(j:ks.length<=12):
 Zc (QC yD) yD (c,f,n,i,ks,(ks.length:Int),(0:Int),l,e)=ab (c++bo ik ks,f,n,i,l,e):=by
 rw[show(c,f,n,i,ks,(ks.length:Int),(0:Int),l,e)=(λk:Nat=>(c++bo ik (ks.take k),f,n,i,ks,(ks.length:Int),(k:Int),l,e)) 0 by simp[bo]];refine Zz ks.length (λk:Nat=>(c++bo ik (ks.take k),f,n,i,ks,(ks.length:Int),(k:Int),l,e)) ?_ ?_ (by omega)
 .intro k g;obtain⟨e,h,_⟩:=Zj g;have m:=tX j k;unfold QC;dsimp only;rw[yW (Zw g),Zn h,ya,tV _ (by rw[yl];omega),ya,Zr (by omega),VO h,yac];rfl
 .unfold QC;dsimp only;rw[yX (by rw[Zy];decide),yai]
theorem ON{l:Z4}(h:Wg l)(hp:gX l):qa yD l=ab (gv l):=by
 unfold qa;have I:=h.2.1;have J:=ZC (n:=l.length) (by omega);rw[OI h hp,ya,yX (by decide),ki (by omega) (by omega) (by simp),ya,yz,yat]
 rw[show(Yp l.length,l,(l.length:Int),(0:Int),l)=(λk:Nat=>(Yp l.length++bo fU (l.take k),l,(l.length:Int),(k:Int),l)) 0 by simp[bo],
  Zz (x:=(gv l,l)) l.length (λk:Nat=>(Yp l.length++bo fU (l.take k),l,(l.length:Int),(k:Int),l)) ?_ ?_ (by omega),ya]
 .intro k j;obtain⟨e,m,z⟩:=Zj j;obtain⟨y,A,M,e4,Q⟩:=h.2.2 e z;have R:=Vh (f:=fU) (c:=131) (λx E=>zA (h.2.2 x E)) h.2.1 k;have S:=ZC (n:=e.1.length) (by omega);have F:=ZC (n:=e.2.1.toNat) (by omega);have G:=ZC (n:=e.2.2.1.toNat) (by omega);have g:=tX y e.1.length;rw[yai]at g;unfold xD;dsimp only
  rw[yW (Zw j),Zn m,ya,ki (by omega) (by omega) (by rw[yl];omega),ya,yat,
   ZD8 (by simp only[yl];omega) y,ya]
  dsimp only
  rw[ki A (by omega) (by simp only[yl];omega),ya,ki e4 (by omega) (by simp only[yl];omega),ya,
   tV _ (by simp only[yl];omega),ya,Zr (by omega),VO m]
  unfold fU;simp only[yac]
 .unfold xD;dsimp only;rw[yX (by rw[Zy];decide),yai];rfl
def eV(x:In):yL yB:=x.1.1++Yp x.1.2.toNat
def fL(o:Out):yL yB:=Yp o.1.toNat++(Yp (gv o.2).length++gv o.2)
def iU(t:Tx):yL yB:=Yp t.1.length++(bo eV t.1++(Yp t.2.1.length++(bo fL t.2.1++Yp t.2.2.toNat)))
def gg(s:gr):yL yB:=fz s.1.toNat++fz s.2.toNat
def fR(x:In):yL yB:=Yp x.2.1.toNat++(Yp x.2.2.1.length++(bo gg x.2.2.1++fz x.2.2.2.toNat))
def kR(t:Tx):yL yB:=iU t++bo fR t.1
theorem zC{x:In}(h:x.1.1.length=32)(k:tW x):(eV x).length<=41:=by
 have:=ZC (n:=x.1.2.toNat) (by have:=k.2.1;omega);unfold eV;rw[yl];omega
theorem zM{o:Out}(k:OJ o):(fL o).length<=551:=by
 have f:=qm k.2.2.1;have g:=ZC (n:=o.1.toNat) (by have:=k.2.1;omega);have h:=ZC (n:=(gv o.2).length) (by omega);unfold fL;simp only[yl];omega
theorem OO{l:yL gr}(h:l.length<=12)(k:Nat):(bo gg (l.take k)).length<=192:=Vh (c:=16) (λx _=>by unfold gg;rw[yl,YM,YM];exact ym _) h k
theorem zO{x:In}(k:tW x):(fR x).length<=218:=by
 obtain⟨_,_,h,j,f⟩:=k;have g:=OO f x.2.2.1.length;rw[yai]at g;have l:=ZC (n:=x.2.1.toNat) (by omega);have m:=ZC (n:=x.2.2.1.length) (by omega);have y:=YM x.2.2.2.toNat
 unfold fR;simp only[yl];omega
theorem OP{t:Tx}(Z:mW t)(h:ql t):tA yD t=ab (iU t)/\(iU t).length<=40000:=by
 obtain⟨g,outs,j⟩:=t;obtain⟨F,S⟩:=Z;obtain⟨h1,T,U,W,G,I⟩:=h;dsimp only at F S h1 T U W G I;have X:=λk=>Vh (f:=eV) (c:=41) (λx A=>zC (F x A) (G x A)) T k;have lo:=λk=>Vh (f:=fL) (c:=551) (λx A=>zM (I x A)) U k;have J:=X g.length;have M:=lo outs.length;rw[yai]at J M;have r1:=ZC (n:=g.length) (by omega);have r2:=ZC (n:=outs.length) (by omega);have r3:=ZC (n:=j.toNat) (by omega);refine⟨?_,by unfold iU;simp only[yl];omega⟩;unfold tA;dsimp only;rw[ki (by omega) (by omega) (by simp),ya,yz,yat]
 rw[show(Yp g.length,g,(g.length:Int),(0:Int),(g,outs,j))=(λk:Nat=>(Yp g.length++bo eV (g.take k),g,(g.length:Int),(k:Int),(g,outs,j))) 0 by simp[bo],
  Zz (x:=(Yp g.length++bo eV g,(g,outs,j))) g.length (λk:Nat=>(Yp g.length++bo eV (g.take k),g,(g.length:Int),(k:Int),(g,outs,j))) ?_ ?_ (by omega),ya]
 .dsimp only;rw[ki (by omega) (by omega) (by rw[yl];omega),ya,yat];generalize Y:Yp g.length++bo eV g++Yp outs.length=m;have hpl:m.length<=3000:=by rw[<-Y];simp only[yl];omega
  rw[show(m,outs,(outs.length:Int),(0:Int),(g,outs,j))=(λk:Nat=>(m++bo fL (outs.take k),outs,(outs.length:Int),(k:Int),(g,outs,j))) 0 by simp[bo],
   Zz (x:=(m++bo fL outs,(g,outs,j))) outs.length (λk:Nat=>(m++bo fL (outs.take k),outs,(outs.length:Int),(k:Int),(g,outs,j))) ?_ ?_ (by omega),ya]
  .dsimp only;rw[ki W S (by rw[yl];omega),ya, <-Y];unfold iU;simp only[yac]
  .intro k y;obtain⟨e,z,E⟩:=Zj y;have Q:=lo k;have l:=I e E;have R:=l.2.2.1;have hll:=qm R;have hrl:=ZC (n:=e.1.toNat) (by have:=l.2.1;omega);unfold xG;dsimp only
   rw[yW (Zw y),Zn z,ya,ki l.1 (by have:=l.2.1;omega) (by rw[yl];omega),ya,ON l.2.2.1 l.2.2.2,ya,
    Zzr (by simp only[yl];omega) (by omega),ya,Zr (by omega),VO z]
   unfold fL;simp only[yac]
  .unfold xG;dsimp only;rw[yX (by rw[Zy];decide),yai]
 .intro k y;obtain⟨e,z,E⟩:=Zj y;have Q:=X k;have h32:=F e E;have l:=G e E;unfold xF;dsimp only
  rw[yW (Zw y),Zn z,ya,ZBn (by rw[yl];omega) (by omega),ya,ki l.1 (by have:=l.2.1;omega) (by simp only[yl];omega),ya,
   Zr (by omega),VO z]
  unfold eV;simp only[yac]
 .unfold xF;dsimp only;rw[yX (by rw[Zy];decide),yai]
def fq(l:yL Out):Int:=(l.map (·.1)).sum
theorem tY{l:yL Out}{k:Nat}{e:Out}(h:l[k]? =ab e):fq (l.take (k+1))=fq (l.take k)+e.1:=by
 unfold fq;rw[We h,yaw,List.sum_append];simp
theorem ZG7:∀{l:yL Int},(∀x,x∈l->0<=x)->0<=l.sum
 |[],_=>by simp
 |x::r,h=>by
  have:=ZG7 (l:=r) λy f=>h y (List.mem_cons_of_mem _ f);have:=h x (List.mem_cons_self ..);rw[List.sum_cons];omega
def qn:yL yB:=dt
def Ahd(a b:Cond):Prop:=a.1 < b.1\/a.1=b.1/\a.2.1 < b.2.1
instance(a b:Cond):Decidable (Ahd a b):=by unfold Ahd;infer_instance
theorem ZD9{lo hi:Int}{l:yL Int}(hl:l.length<=100)(h:∀x,x∈l->lo<=x/\x<=hi):Ye yD lo hi l=ab ae:=by
 unfold Ye YV Xt;rw[show(l,(l.length:Int),(0:Int),lo,hi)=(λk:Nat=>(l,(l.length:Int),(k:Int),lo,hi)) 0 from rfl,Zz (x:=.inr (lo,hi)) l.length (λk:Nat=>(l,(l.length:Int),(k:Int),lo,hi)) ?_ ?_ (by omega),ya]
 .rfl
 .intro k f;obtain⟨e,g,j⟩:=Zj f;have:=h e j;unfold ZS xM;dsimp only;rw[yW (Zw f),Zn g,ya,yX (dj (by omega)),ya,yZ (by omega),yX (by simp),Zr (by omega)]
 .unfold ZS;dsimp only;rw[yX (by rw[Zy];decide)]
theorem w1{lo hi z:Int}(h1:lo<=z)(h2:z<=hi):Ye yD lo hi [z]=ab ae:=ZD9 (by simp) λx f=>by rw[List.mem_singleton.1 f];exact⟨h1,h2⟩
theorem Zs2(a b:Int):YD yD a b=ab (if a < b then-1 else if a > b then 1 else 0):=by
 unfold YD xN;rw[ya,ya];have e:∀z:Int,(z !=z)=af:=λz=>by simp
 rw[e,e,yX (by decide),yX (by decide)];by_cases f:a < b
 .rw[yW (yY f),yW f]
 .rw[yX (by rw[yN];exact f),yX f];by_cases g:a > b
  .rw[yW (yY g),yW g]
  .rw[yX (by rw[yN];exact g),yX g]
def mX:yL Int->Int
 |[]=>0
 |z::r=>if z≠0 then z else mX r
theorem ZNc{l:yL Int}(hl:l.length<=100):tD yD l=ab (mX l):=by
 have m:∀(d k f:Nat),k+d=l.length->d < f->∃x,Zc (Va yD) f ((0:Int),l,(l.length:Int),(k:Int))=ab x/\(x=.inl (mX (l.drop k))\/x=.inr 0/\mX (l.drop k)=0):=by
  intro d
  induction d with
  |zero=>
   intro k f h A;obtain⟨f,rfl⟩:=Nat.exists_eq_succ_of_ne_zero (n:=f) (by omega);have:k=l.length:=by omega
   subst this;unfold Zc Va;dsimp only;rw[yX (by rw[Zy];decide),ya]
   exact⟨_,rfl,.inr ⟨rfl,by rw[List.drop_length];rfl⟩⟩
  |succ d E=>
   intro k f h A;obtain⟨f,rfl⟩:=Nat.exists_eq_succ_of_ne_zero (n:=f) (by omega);have g:k < l.length:=by omega
   obtain⟨e,y,I⟩:=Zj g
   have F:l.drop k=e::l.drop (k+1):=by
    rw[List.drop_eq_getElem_cons g];rw[yab g]at y;cases y;rfl
   rw[F];unfold Zc Va;dsimp only;rw[yW (Zw g),Zn y,ya];by_cases z:e=0
   .subst z;rw[yX (by decide),ya,Zr (by omega)];exact E (k+1) f (by omega) (by omega)
   .rw[yW (bne_iff_ne.2 z),ya];exact⟨_,rfl,.inl (by unfold mX;rw[yW z])⟩
 unfold tD;obtain⟨x,G,j⟩:=m l.length 0 yD (by omega) (by rw[jW];omega);rw[List.drop_zero]at j;show Option.bind (Zc (Va yD) yD ((0:Int),l,(l.length:Int),((0:Nat):Int))) _=_;rw[G,ya];rcases j with rfl|⟨rfl,j⟩
 .rfl
 .rw[j]
theorem lQ(p q:Prop)[Decidable p][Decidable q]{b:Bool}(h:b=ag (p/\q)):(if decide p=ae then ab (decide q) else ab af)=ab b:=by
 subst h;by_cases f:p
 .rw[yW (yY f)];by_cases g:q
  .rw[yY g,yY ⟨f,g⟩]
  .rw[yZ g,yZ λh=>g h.2]
 .rw[yX (by rw[yN];exact f),yZ λh=>f h.1]
theorem ZLS(z a b:Int):XL yD z a b=ab (ag (a<=z/\z<=b)):=lQ _ _ rfl
theorem zQ(z a b:Int):Z6 yD z a b=ab (ag (a<=z/\z<=b)):=lQ (z >= a) (z<=b) rfl
theorem OQ(z a b:Int):YH yD z a b=ab (ag (a<=z/\z<=b)):=lQ (z >= a) (z<=b) rfl
def WY(t:bz):Prop:=(0<=t.1/\t.1<=65536)/\(1<=t.2.2.1/\t.2.2.1<=4096)/\(0<=t.2.2.2.1/\t.2.2.2.1<=16)/\(t.1<=t.2.1/\t.2.1<=1125899906842624)/\(1<=t.2.2.2.2.1/\t.2.2.2.2.1<=1125899906842624)/\(0<=t.2.2.2.2.2/\t.2.2.2.2.2<=1125899906842624)
instance(t:bz):Decidable (WY t):=by unfold WY;infer_instance
theorem Wh{p q:Prop}[Decidable p][Decidable q][Decidable (p/\q)]{x:yO Bool}(h:x=ab (decide q)):(if decide p=ae then x else ab af)=ab (ag (p/\q)):=by
 rw[h];exact lQ p q (by congr)
theorem ZG8(t:bz):xI yD t=ab (ag (WY t)):=by
 unfold xI;simp only[ZLS,ya];exact Wh (Wh (Wh (Wh (Wh rfl))))
theorem ZEa(t:bz):NO yD t=ab (ag (WY t)):=by
 unfold NO;simp only[zQ,ya];refine(Wh (Wh (Wh (Wh (Wh rfl))))).trans (congrArg ab (decide_eq_decide.2 ?_));constructor
 .rintro⟨f,g,h,j,l,m⟩;exact⟨f,h,j,g,l,m⟩
 .rintro⟨f,h,j,g,l,m⟩;exact⟨f,g,h,j,l,m⟩
def pts(b:bn):yL yU:=[b.1,b.2.1,b.2.2.1,b.2.2.2.1,b.2.2.2.2]
def go(p:yU):Prop:=eE p.toNat/\p≠1
instance(p:yU):Decidable (go p):=by unfold go;infer_instance
def QN(b:bn):Prop:=∀p,p∈pts b->go p
instance(b:bn):Decidable (QN b):=by unfold QN;infer_instance
theorem ZG9(p:yU):xJ yD p=ab (!decide (go p)):=by
 unfold xJ;rw[zx,ya];by_cases h:p=1
 .rw[yW (beq_iff_eq.2 h),yZ (p:=go p) λk=>k.2 h];rfl
 .rw[yX (by rw[yT];exact h)];by_cases k:eE p.toNat
  .rw[yY k,yY (p:=go p) ⟨k,h⟩]
  .rw[yZ k,yZ (p:=go p) λq=>k q.1]
theorem ZLT(p:yU):NR yD p=ab (ag (go p)):=by
 unfold NR;rw[zy,ya];by_cases k:eE p.toNat
 .rw[yY k,yW rfl];by_cases h:p=1
  .rw[yZ (p:=go p) λq=>q.2 h,h];rfl
  .rw[yY (p:=go p) ⟨k,h⟩];exact congrArg ab (bne_iff_ne.2 h)
 .rw[yZ k,yX (by decide),yZ (p:=go p) λq=>k q.1]
theorem ZEb(b:bn):xL yD b=ab (ag (QN b)):=by
 unfold xL KY KX
 obtain⟨x,A,E⟩:=XH (step:=XM yD) 5 (λk s=>s=(pts b,(5:Int),(k:Int))/\∀j p,j < k->(pts b)[j]? =ab p->go p) (λx=>(∃j:Nat,x=.inl (j:Int)/\¬QN b)\/x=.inr ()/\QN b) (i:=(pts b,((pts b).length:Int),(0:Int))) ⟨rfl,λj p g=>by omega⟩ (by omega) (by
  rintro k _ F ⟨rfl,g⟩;obtain⟨p,m,G⟩:=Zj (l:=pts b) (k:=k) F;unfold XM;dsimp only;rw[yW (yY (by omega)),Zn m,ya,ZG9,ya,Zr (by omega)];by_cases h:go p
  .left;rw[yY h,yX (by decide)];refine⟨_,rfl,rfl,λj q I y=> ?_⟩;by_cases e:j=k
   .subst e;rw[m]at y;cases y;exact h
   .exact g j q (by omega) y
  .right;rw[yZ h,yW (by decide)];exact⟨_,rfl,.inl ⟨k,rfl,λJ=>h (J p G)⟩⟩) (by
  rintro _ ⟨rfl,g⟩;unfold XM;dsimp only;rw[yX (dj (by omega))];refine⟨_,rfl,.inr ⟨rfl,λp m=> ?_⟩⟩;obtain⟨j,f,z⟩:=ybg m;exact g j p f (by rw[yab f,z]))
 rw[show([b.1,b.2.1,b.2.2.1,b.2.2.2.1,b.2.2.2.2]:yL yU)=pts b from rfl,A,ya]
 rcases E with⟨j,rfl,h⟩|⟨rfl,h⟩
 .dsimp only;rw[ya,ya,yY (show(j:Int) >= 0 by omega),yZ h];rfl
 .dsimp only;rw[ya,ya,yY h];rfl
theorem ZEc(i:Int)(ch:Chan)(b:bn):∃x,Zc (XN yD) yD (i,pts b,(0:Int),ch,b)=ab x/\(x=.inl (1,ch,b)/\¬QN b\/x=.inr (i,ch,b)/\QN b):=by
 refine XH (step:=XN yD) 5 (λk s=>s=(i,pts b,(k:Int),ch,b)/\∀j p,j < k->(pts b)[j]? =ab p->go p) _ (i:=(i,pts b,(0:Int),ch,b)) ⟨rfl,λj p g=>by omega⟩ (by omega) ?_ ?_
 .rintro k _ A ⟨rfl,g⟩;obtain⟨p,m,E⟩:=Zj (l:=pts b) (k:=k) A;unfold XN;dsimp only;rw[yW (yY (by omega)),Zn m,ya,ZLT,ya,Zr (by omega)];by_cases h:go p
  .left;rw[yY h,yX (by decide)];refine⟨_,rfl,rfl,λj q F y=> ?_⟩;by_cases e:j=k
   .subst e;rw[m]at y;cases y;exact h
   .exact g j q (by omega) y
  .right;rw[yZ h,yW (by decide)];exact⟨_,rfl,.inl ⟨rfl,λG=>h (G p E)⟩⟩
 .rintro _ ⟨rfl,g⟩;unfold XN;dsimp only;rw[yX (dj (by omega))];refine⟨_,rfl,.inr ⟨rfl,λp m=> ?_⟩⟩;obtain⟨j,f,z⟩:=ybg m;exact g j p f (by rw[yab f,z])
structure dV(ch:Chan):Prop where
 b:ch.2.2.1.length=2
 t:ch.2.2.2.1.length=2
 a0: -9223372036854775808<=ch.2.1
 a1:ch.2.1<=9223372036854775807
 n0: -9223372036854775808<=ch.1.2
 n1:ch.1.2<=9223372036854775807
 o0: -9223372036854775808<=ch.2.2.2.2
 o1:ch.2.2.2.2<=9223372036854775807
def gp(ch:Chan):Prop:=∀i:Nat,i < 2->∀t b,ch.2.2.2.1[i]? =ab t->ch.2.2.1[i]? =ab b->WY t/\QN b
open Classical in
theorem jt{α:Type}{l:yL α}(h:l.length=2):∃a b,l=[a,b]:=by
 match l,h with
 |[a,b],_=>exact⟨a,b,rfl⟩
theorem OR{a:ZK}{A:Int}{f g:bn}{t0 t1:bz}{op:Int}:gp (a,A,[f,g],[t0,t1],op)↔(WY t0/\QN f)/\WY t1/\QN g:=by
 constructor
 .intro h;exact⟨h 0 (by omega) t0 f rfl rfl,h 1 (by omega) t1 g rfl rfl⟩
 .rintro⟨m,y⟩ i z t b j l
  match i,z with
  |0,_=>cases j;cases l;exact m
  |1,_=>cases j;cases l;exact y
theorem Zzu(ch:Chan)(l:yL bz){k:Nat}(j:k < 2){t:bz}{b:bn}(ht:l[k]? =ab t)(hb:ch.2.2.1[k]? =ab b):
 VU yD (l,(k:Int),ch)=ab (if WY t/\QN b then .inl (l,((k+1:Nat):Int),ch) else .inr (.inl (1,ch))):=by
 unfold VU;dsimp only;rw[yW (yY (by omega)),Zn ht,ya,ZG8,ya,yW (X8 (by omega) (by omega)),yat,hb,ya,ZEb,ya,Zr (by omega)];by_cases f:WY t
 .rw[yY f,yX (by decide)];by_cases g:QN b
  .rw[yY g,yX (by decide),yW ⟨f,g⟩]
  .rw[yZ g,yW (by decide),yX λh=>g h.2]
 .rw[yZ f,yW (by decide),yX λh=>f h.1]
theorem Zve(ch:Chan){k:Nat}(l:k < 2){t:bz}{b:bn}(ht:ch.2.2.2.1[k]? =ab t)(hb:ch.2.2.1[k]? =ab b):
 XO yD ((k:Int),ch)=ab (if WY t/\QN b then .inl (((k+1:Nat):Int),ch) else .inr (.inl (1,ch))):=by
 unfold XO;dsimp only;rw[yW (yY (by omega)),yW (X8 (by omega) (by omega)),yat,hb,ya,yW (X8 (by omega) (by omega)),ht,ya,ZEa,ya];obtain⟨x,g,j⟩:=ZEc (k:Int) ch b;rw[show([b.1,b.2.1,b.2.2.1,b.2.2.2.1,b.2.2.2.2]:yL yU)=pts b from rfl,g,ya]
 by_cases f:WY t
 .rw[yY f,yX (by decide)];rcases j with⟨rfl,h⟩|⟨rfl,h⟩
  .dsimp only;rw[yX λq=>h q.2]
  .dsimp only;rw[yW ⟨f,h⟩,Zr (by omega)]
 .rw[yZ f,yW (by decide),yX λh=>f h.1]
theorem OS(ch:Chan)(l:yL bz){t0 t1:bz}{f g:bn}(ht:l=[t0,t1])(hb:ch.2.2.1=[f,g]):
 Zc (VU yD) yD (l,(0:Int),ch)=ab (if(WY t0/\QN f)/\WY t1/\QN g then .inr ch else .inl (1,ch)):=by
 subst ht;have s0:=Zzu ch [t0,t1] (k:=0) (by omega) (t:=t0) (b:=f) rfl (by rw[hb];rfl);have s1:=Zzu ch [t0,t1] (k:=1) (by omega) (t:=t1) (b:=g) rfl (by rw[hb];rfl);by_cases j:WY t0/\QN f
 .rw[yW j]at s0;by_cases m:WY t1/\QN g
  .rw[yW m]at s1;rw[yW ⟨j,m⟩];refine Zz 2 (λk:Nat=>([t0,t1],(k:Int),ch)) ?_ ?_ (by omega)
   .intro k y;rcases (show k=0\/k=1 by omega) with rfl|rfl
    .exact s0
    .exact s1
   .unfold VU;rfl
  .rw[yX m]at s1;rw[yX λh=>m h.2];exact Zz 1 (λk:Nat=>([t0,t1],(k:Int),ch)) (λk y=>by rw[show k=0 by omega];exact s0) s1 (by omega)
 .rw[yX j]at s0;rw[yX λh=>j h.1];exact Zz 0 (λk:Nat=>([t0,t1],(k:Int),ch)) (λk y=>absurd y (by omega)) s0 (by omega)
theorem ZBp(ch:Chan){t0 t1:bz}{f g:bn}(ht:ch.2.2.2.1=[t0,t1])(hb:ch.2.2.1=[f,g]):
 Zc (XO yD) yD ((0:Int),ch)=ab (if(WY t0/\QN f)/\WY t1/\QN g then .inr ch else .inl (1,ch)):=by
 have s0:=Zve ch (k:=0) (by omega) (t:=t0) (b:=f) (by rw[ht];rfl) (by rw[hb];rfl);have s1:=Zve ch (k:=1) (by omega) (t:=t1) (b:=g) (by rw[ht];rfl) (by rw[hb];rfl);by_cases j:WY t0/\QN f
 .rw[yW j]at s0;by_cases l:WY t1/\QN g
  .rw[yW l]at s1;rw[yW ⟨j,l⟩];refine Zz 2 (λk:Nat=>((k:Int),ch)) ?_ ?_ (by omega)
   .intro k m;rcases (show k=0\/k=1 by omega) with rfl|rfl
    .exact s0
    .exact s1
   .unfold XO;rfl
  .rw[yX l]at s1;rw[yX λh=>l h.2];exact Zz 1 (λk:Nat=>((k:Int),ch)) (λk m=>by rw[show k=0 by omega];exact s0) s1 (by omega)
 .rw[yX j]at s0;rw[yX λh=>j h.1];exact Zz 0 (λk:Nat=>((k:Int),ch)) (λk m=>absurd m (by omega)) s0 (by omega)
theorem Zzv(X:BitVec 64):(X&&& ~~~(1#64))=0#64↔X=0#64\/X=1#64:=by
 constructor
 .intro h
  have g:∀i:Nat,1<=i->X.getLsbD i=af:=by
   intro i l;have:=congrArg (λy=>BitVec.getLsbD y i) h;simp only[BitVec.getLsbD_and,BitVec.getLsbD_not,BitVec.getLsbD_zero]at this;by_cases f:i < 64
   .have z:(1#64).getLsbD i=af:=by
     rw[BitVec.getLsbD_one];simp;omega
    rw[z]at this;simpa[f] using this
   .exact BitVec.getLsbD_of_ge X i (by omega)
  cases m:X.getLsbD 0 with
  |false=>
   left;apply BitVec.eq_of_getLsbD_eq;intro i l
   match i with
   |0=>rw[m];simp
   |j+1=>rw[g (j+1) (by omega)];simp
  |true=>
   right;apply BitVec.eq_of_getLsbD_eq;intro i l
   match i with
   |0=>rw[m];rfl
   |j+1=>
    rw[g (j+1) (by omega),BitVec.getLsbD_one];simp
 .rintro(rfl|rfl) <;> rfl
theorem OT{op:Int}(z: -9223372036854775808<=op)(A:op<=9223372036854775807):((bits .andNot .i64 op 1)!=0)= !decide (0<=op/\op<=1):=by
 have e:bits .andNot .i64 op 1=IntKind.i64.wrap ((yca 64 op&&& ~~~(1#64)).toNat:Int):=rfl;have f:=(yca 64 op&&& ~~~(1#64)).isLt
 have j:∀n:Nat,n < 18446744073709551616->(IntKind.i64.wrap (n:Int)=0↔n=0):=by
  intro n g;have y:IntKind.i64.wrap (n:Int)=if(ag ((n:Int) % 18446744073709551616 >= 9223372036854775808))=ae then(n:Int) % 18446744073709551616 - 18446744073709551616 else(n:Int) % 18446744073709551616:=rfl
  rw[y];by_cases l:(n:Int) % 18446744073709551616 >= 9223372036854775808
  .rw[yW (yY l)];omega
  .rw[yX (by rw[yN];exact l)];omega
 have m:(yca 64 op&&& ~~~(1#64)).toNat=0↔0<=op/\op<=1:=by
  rw[show((yca 64 op&&& ~~~(1#64)).toNat=0↔(yca 64 op&&& ~~~(1#64))=0#64) from⟨λh=>BitVec.eq_of_toNat_eq h,λh=>by rw[h];rfl⟩,Zzv]
  have g:(yca 64 op).toNat=(op % 18446744073709551616).toNat:=by rw[BitVec.toNat_ofInt];rfl
  constructor
  .rintro(h|h)
   .have:=congrArg BitVec.toNat h;rw[g]at this;simp at this;omega
   .have:=congrArg BitVec.toNat h;rw[g]at this;simp at this;omega
  .rintro⟨E,F⟩;rcases (show op=0\/op=1 by omega) with rfl|rfl
   .exact .inl rfl
   .exact .inr rfl
 rw[e];by_cases h:0<=op/\op<=1
 .rw[yY h,(j _ f).2 (m.2 h)];rfl
 .rw[yZ h];exact bne_iff_ne.2 λk=>h (m.1 ((j _ f).1 k))
theorem zR{ch:Chan}(w:dV ch):∃e:Int,Wt yD ch=ab e/\Qe yD ch=ab e/\(e=0->(1<=ch.2.1/\ch.2.1<=1125899906842624)/\(0<=ch.1.2/\ch.1.2<=63)/\(ch.2.2.2.2=0\/ch.2.2.2.2=1)/\gp ch):=by
 obtain⟨Q,R,y⟩:=jt w.b;obtain⟨t0,t1,E⟩:=jt w.t;have S:=w.a0;have F:=w.o0;have G:=w.o1;obtain⟨⟨id,no⟩,A,U,ts,I⟩:=ch;dsimp only at y E S F G;subst y;subst E;have j:=OT F G;unfold Wt Qe;dsimp only;simp only[zQ,ya];by_cases l:1<=A/\A<=1125899906842624
 .rw[yX (show¬ag (A < 1)=ae by rw[yN];omega),yX (show¬ag (A > 1125899906842624)=ae by rw[yN];omega)];rw[yX (show¬(!decide (1<=A/\A<=1125899906842624))=ae by rw[yY l];decide)];by_cases m:0<=no/\no<=63
  .rw[yX (show¬ag (no < 0)=ae by rw[yN];omega),yX (show¬ag (no >= 64)=ae by rw[yN];omega)];rw[yX (show¬(!decide (0<=no/\no<=63))=ae by rw[yY m];decide),j];by_cases J:0<=I/\I<=1
   .rw[yY J,yX (by decide),yX (by decide),OS _ _ rfl rfl,ZBp _ rfl rfl,ya,ya];by_cases g:(WY t0/\QN Q)/\WY t1/\QN R
    .rw[yW g];dsimp only;obtain⟨_,_,_,W,_⟩:=g.1.1;obtain⟨X,_⟩:=g.1.1;obtain⟨_,_,_,Y,_⟩:=g.2.1;obtain⟨Z,_⟩:=g.2.1
     have T:Qt yD t0.2.1 t1.2.1=if t0.2.1+t1.2.1<=1125899906842624 then ab (t0.2.1+t1.2.1,ae) else ab (0,af):=by
      unfold Qt oz;rw[yW (yY (show t0.2.1 >= 0 by omega)),yW (yY (show t1.2.1 >= 0 by omega)),ya,ya,yY (show t0.2.1<=1125899906842624 by omega),yY (show t1.2.1<=1125899906842624 by omega),yX (by decide),yX (by decide),ZJ (z:=1125899906842624 - t1.2.1) (by omega) (by omega),ZJ (z:=t0.2.1+t1.2.1) (by omega) (by omega)];by_cases h:t0.2.1+t1.2.1<=1125899906842624
      .rw[yX (dj (by omega)),yW h]
      .rw[yW (yY (by omega)),yX h]
     rw[yam,yak,yam,ya,ya,ya,ya,T,ZJ (z:=t0.2.1+t1.2.1) (by omega) (by omega)];refine⟨if t0.2.1+t1.2.1 > A then 10 else 0, ?_, ?_,λ_=>⟨l,m,by omega,OR.2 g⟩⟩
     .by_cases M:t0.2.1+t1.2.1<=1125899906842624
      .rw[yW M,ya,yX (show¬(!true)=ae by decide)];by_cases f:t0.2.1+t1.2.1 > A
       .rw[yW (yY f),yW f]
       .rw[yX (by rw[yN];exact f),yX f]
      .rw[yX M,ya,yW (show(!false)=ae by decide),yW (by omega)]
     .by_cases f:t0.2.1+t1.2.1 > A
      .rw[yW (yY f),yW f]
      .rw[yX (by rw[yN];exact f),yX f]
    .rw[yX g];exact⟨1,rfl,rfl,λh=>absurd h (by decide)⟩
   .rw[yZ J,yW (by decide),yW (by decide)];exact⟨1,rfl,rfl,λh=>absurd h (by decide)⟩
  .rw[yW (show(!decide (0<=no/\no<=63))=ae by rw[yZ m];rfl)];refine⟨1, ?_,rfl,λh=>absurd h (by decide)⟩;by_cases h:no < 0
   .rw[yW (yY h)]
   .rw[yX (by rw[yN];exact h),yW (yY (by omega))]
 .rw[yW (show(!decide (1<=A/\A<=1125899906842624))=ae by rw[yZ l];rfl)];refine⟨1, ?_,rfl,λh=>absurd h (by decide)⟩;by_cases h:A < 1
  .rw[yW (yY h)]
  .rw[yX (by rw[yN];exact h),yW (yY (by omega))]
theorem Zvf{lo hi:Int}{l:yL Int}(hl:l.length<=100):Ye yD lo hi l=ab (ag (∀x,x∈l->lo<=x/\x<=hi)):=by
 unfold Ye YV Xt
 obtain⟨x,J,M⟩:=XH (step:=ZS yD) l.length (λk s=>s=(l,(l.length:Int),(k:Int),lo,hi)/\∀(j:Nat)z,j < k->l[j]? =ab z->lo<=z/\z<=hi) (λx=>(∃j:Nat,x=.inl ((j:Int),lo,hi)/\¬∀z,z∈l->lo<=z/\z<=hi)\/x=.inr (lo,hi)/\∀z,z∈l->lo<=z/\z<=hi) (i:=(l,(l.length:Int),(0:Int),lo,hi)) ⟨rfl,λj z g=>by omega⟩ (by omega) (by
  rintro k _ E ⟨rfl,g⟩;obtain⟨z,F,G⟩:=Zj E;unfold ZS xM;dsimp only;rw[yW (Zw E),Zn F,ya,Zr (by omega)];by_cases h:z < lo
  .right;rw[yW (yY h),ya,yW rfl];exact⟨_,rfl,.inl ⟨k,rfl,λm=>by have:=m z G;omega⟩⟩
  .rw[yX (by rw[yN];exact h),ya];by_cases I:z > hi
   .right;rw[yW (yY I)];exact⟨_,rfl,.inl ⟨k,rfl,λm=>by have:=m z G;omega⟩⟩
   .left;rw[yX (by rw[yN];exact I)];refine⟨_,rfl,rfl,λj q Q y=> ?_⟩;by_cases e:j=k
    .subst e;rw[F]at y;cases y;omega
    .exact g j q (by omega) y) (by
  rintro _ ⟨rfl,g⟩;unfold ZS;dsimp only;rw[yX (by rw[Zy];decide)];refine⟨_,rfl,.inr ⟨rfl,λp R=> ?_⟩⟩;obtain⟨j,f,A⟩:=ybg R;exact g j p f (by rw[yab f,A]))
 rw[J,ya];rcases M with⟨j,rfl,h⟩|⟨rfl,h⟩
 .dsimp only;rw[ya,ya,yY (show(j:Int) >= 0 by omega),yZ h];rfl
 .dsimp only;rw[ya,ya,yY h];rfl
theorem tZ(lo hi z:Int):Ye yD lo hi [z]=ab (ag (lo<=z/\z<=hi)):=by
 rw[Zvf (by simp)];exact congrArg ab (decide_eq_decide.2 (by simp))
theorem ZCL(lo hi y z:Int):Ye yD lo hi [y,z]=ab (ag ((lo<=y/\y<=hi)/\lo<=z/\z<=hi)):=by
 rw[Zvf (by simp)];exact congrArg ab (decide_eq_decide.2 (by simp))
def kj(c:Cond):Prop:=(0<=c.1/\c.1<=1)/\(1<=c.2.1/\c.2.1<=1048576)/\(1<=c.2.2.1/\c.2.2.1<=1125899906842624)/\(1<=c.2.2.2.2/\c.2.2.2.2<=1048576)/\go c.2.2.2.1
instance(c:Cond):Decidable (kj c):=by unfold kj;infer_instance
theorem ZCM(c:Cond):tC yD c=ab (ag (kj c)):=by
 unfold tC;simp only[tZ,ya,zx];refine Wh (Wh (Wh (Wh ?_)));by_cases k:eE c.2.2.2.1.toNat
 .rw[yY k,yW rfl];by_cases h:c.2.2.2.1=1
  .rw[yZ (p:=go c.2.2.2.1) λq=>q.2 h,h];rfl
  .rw[yY (p:=go c.2.2.2.1) ⟨k,h⟩];exact congrArg ab (bne_iff_ne.2 h)
 .rw[yZ k,yX (by decide),yZ (p:=go c.2.2.2.1) λq=>k q.1]
theorem ZHa(c:Cond):NS yD c=ab (ag (kj c)):=by
 unfold NS;simp only[OQ,ya,zy];by_cases k:eE c.2.2.2.1.toNat
 .rw[yY k,yW rfl];by_cases h:c.2.2.2.1=1
  .rw[yZ (p:=kj c) λq=>q.2.2.2.2.2 h,h];rfl
  .rw[yW (bne_iff_ne.2 h)];refine(Wh (Wh (Wh rfl))).trans (congrArg ab (decide_eq_decide.2 ?_));constructor
   .rintro⟨f,g,j,l⟩;exact⟨f,g,j,l,k,h⟩
   .rintro⟨f,g,j,l,_⟩;exact⟨f,g,j,l⟩
 .rw[yZ k,yX (by decide),yZ (p:=kj c) λq=>k q.2.2.2.2.1]
def bW(a b:Cond):Prop:=a.1 < b.1\/a.1=b.1/\a.2.1 < b.2.1
instance(a b:Cond):Decidable (bW a b):=by unfold bW;infer_instance
theorem OU(a b:Cond):∃v,qc yD a b=ab v/\(v >= 0↔¬bW a b):=by
 unfold qc;rw[Zs2,Zs2,ya,ya,ZNc (by simp),ya];refine⟨_,rfl, ?_⟩;unfold bW;by_cases f:a.1 < b.1
 .simp only[yW f,mX];simp[f]
 .by_cases h:a.1 > b.1
  .simp only[yX f,yW h,mX];simp;omega
  .simp only[yX f,yX h,mX];by_cases g:a.2.1 < b.2.1
   .simp only[yW g];simp;omega
   .by_cases j:a.2.1 > b.2.1
    .simp only[yX g,yW j];simp;omega
    .simp only[yX g,yX j];simp;omega
theorem ZEd(a b:Cond):NT yD a b=ab (ag (bW a b)):=by
 unfold NT;by_cases f:a.1 < b.1
 .rw[yW (yY f),yY (p:=bW a b) (.inl f)]
 .rw[yX (by rw[yN];exact f)];by_cases g:a.1=b.1
  .rw[yW (beq_iff_eq.2 g)];exact congrArg ab (decide_eq_decide.2 (by unfold bW;omega))
  .rw[yX (by rw[yT];exact g),yZ (p:=bW a b) (by unfold bW;omega)]
def lR(to:Int)(o:Int×Int)(c:Cond):Int×Int:=if c.1=wi (1 - to) then(wi (o.1+1),wi (o.2+c.2.2.1)) else o
def off(to:Int)(l:yL Cond):Int×Int:=l.foldl (lR to) (0,0)
theorem ZHb{to:Int}{l:yL Cond}{k:Nat}{c:Cond}(h:l[k]? =ab c):off to (l.take (k+1))=lR to (off to (l.take k)) c:=by
 rw[We h,off,List.foldl_append];rfl
theorem Zs6(s:yG)(to:Int)(hl:s.2.2.1.length<=1000):QE yD s to=ab (off to s.2.2.1):=by
 unfold QE;rw[show((to,(0:Int),(0:Int),s.2.2.1,(s.2.2.1.length:Int),(0:Int),s):Int×Int×Int×yL Cond×Int×Int×yG)=(λk:Nat=>(to,(off to (s.2.2.1.take k)).1,(off to (s.2.2.1.take k)).2,s.2.2.1,(s.2.2.1.length:Int),(k:Int),s)) 0 from rfl]
 rw[Zz (x:=((off to s.2.2.1).1,(off to s.2.2.1).2,s)) s.2.2.1.length (λk:Nat=>(to,(off to (s.2.2.1.take k)).1,(off to (s.2.2.1.take k)).2,s.2.2.1,(s.2.2.1.length:Int),(k:Int),s)) ?_ ?_ (by omega),ya]
 .intro k f;obtain⟨c,g,j⟩:=Zj f;unfold Qa;dsimp only;rw[yW (Zw f),Zn g,ya,Zr (by omega),ZHb g];unfold lR;by_cases h:c.1=wi (1 - to)
  .rw[yW (beq_iff_eq.2 h),yW h]
  .rw[yX (by rw[yT];exact h),yX h]
 .unfold Qa;dsimp only;rw[yX (by rw[Zy];decide),yai]
theorem Zzw(s:yG)(to:Int)(hl:s.2.2.1.length<=1000):VZ yD s to=ab (off to s.2.2.1):=by
 unfold VZ;rw[show((to,(0:Int),(0:Int),(0:Int),s):Int×Int×Int×Int×yG)=(λk:Nat=>(to,(off to (s.2.2.1.take k)).1,(off to (s.2.2.1.take k)).2,(k:Int),s)) 0 from rfl]
 rw[Zz (x:=((off to s.2.2.1).1,(off to s.2.2.1).2,s)) s.2.2.1.length (λk:Nat=>(to,(off to (s.2.2.1.take k)).1,(off to (s.2.2.1.take k)).2,(k:Int),s)) ?_ ?_ (by omega),ya]
 .intro k f;obtain⟨c,g,j⟩:=Zj f;unfold WX;dsimp only;rw[yW (Zw f),Zn g,ya,ya,Zr (by omega),ZHb g];unfold lR;by_cases h:c.1=wi (1 - to)
  .rw[yW (beq_iff_eq.2 h),yW h]
  .rw[yX (by rw[yT];exact h),yX h]
 .unfold WX;dsimp only;rw[yX (by rw[Zy];decide),yai]
def ZNd(o:Int)(c:Cond):Int:=wi (o+c.2.2.1)
def dm(z:Int)(l:yL Cond):Int:=l.foldl ZNd z
theorem ZHc{z:Int}{l:yL Cond}{k:Nat}{c:Cond}(h:l[k]? =ab c):dm z (l.take (k+1))=ZNd (dm z (l.take k)) c:=by
 rw[We h,dm,List.foldl_append];rfl
theorem OV(s:yG){a b:Int}(h2:s.2.1=[a,b])(hl:s.2.2.1.length<=1000):Q9 yD s=ab (dm (wi (a+b)) s.2.2.1):=by
 unfold Q9;rw[h2,yam,yak,yam,ya,ya];rw[show((wi (a+b),s.2.2.1,(s.2.2.1.length:Int),(0:Int),s):Int×yL Cond×Int×Int×yG)=(λk:Nat=>(dm (wi (a+b)) (s.2.2.1.take k),s.2.2.1,(s.2.2.1.length:Int),(k:Int),s)) 0 from rfl]
 rw[Zz (x:=(dm (wi (a+b)) s.2.2.1,s)) s.2.2.1.length (λk:Nat=>(dm (wi (a+b)) (s.2.2.1.take k),s.2.2.1,(s.2.2.1.length:Int),(k:Int),s)) ?_ ?_ (by omega),ya]
 .intro k f;obtain⟨c,g,h⟩:=Zj f;unfold xH;dsimp only;rw[yW (Zw f),Zn g,ya,Zr (by omega),ZHc g];rfl
 .unfold xH;dsimp only;rw[yX (by rw[Zy];decide),yai]
theorem ZEe(s:yG){a b:Int}(h2:s.2.1=[a,b])(hl:s.2.2.1.length<=1000):NU yD s=ab (dm (wi (a+b)) s.2.2.1):=by
 unfold NU;rw[h2,yam,yak,yam,ya,ya];rw[show((wi (a+b),(0:Int),s):Int×Int×yG)=(λk:Nat=>(dm (wi (a+b)) (s.2.2.1.take k),(k:Int),s)) 0 from rfl]
 rw[Zz (x:=(dm (wi (a+b)) s.2.2.1,s)) s.2.2.1.length (λk:Nat=>(dm (wi (a+b)) (s.2.2.1.take k),(k:Int),s)) ?_ ?_ (by omega),ya]
 .intro k f;obtain⟨c,g,h⟩:=Zj f;unfold VE;dsimp only;rw[yW (Zw f),Zn g,ya,Zr (by omega),ZHc g];rfl
 .unfold VE;dsimp only;rw[yX (by rw[Zy];decide),yai]
def di(r n:Int):Int:=if 0<=r/\r<=1000 then if 0<=n/\n<=16 then r*(68+8*n) else 0 else 0
theorem Zvg{r n:Int}(h1:0<=r)(h2:r<=1000)(h3:0<=n)(h4:n<=16):wi (r*(68+8*n))=r*(68+8*n):=by
 have:=Int.mul_nonneg h1 (show 0<=68+8*n by omega);have:=Int.mul_le_mul h2 (show 68+8*n<=196 by omega) (by omega) (by omega);exact ZJ (by omega) (by omega)
theorem ZLU(r n:Int):tE yD r n=ab (di r n):=by
 unfold tE LH di;by_cases f:r < 0
 .rw[yW (yY f),yX (show¬(0<=r/\r<=1000) by omega)]
 .rw[yX (show¬ag (r < 0)=ae by rw[yN];exact f)];by_cases g:r > 1000
  .rw[yW (yY g),yX (show¬(0<=r/\r<=1000) by omega)]
  .rw[yX (show¬ag (r > 1000)=ae by rw[yN];exact g),yW (show 0<=r/\r<=1000 by omega)];by_cases h:n < 0
   .rw[yW (yY h),yX (show¬(0<=n/\n<=16) by omega),ya,Int.mul_zero];rfl
   .rw[yX (show¬ag (n < 0)=ae by rw[yN];exact h)];by_cases j:n > 16
    .rw[yW (yY j),yX (show¬(0<=n/\n<=16) by omega),ya,Int.mul_zero];rfl
    .rw[yX (show¬ag (n > 16)=ae by rw[yN];exact j),yW (show 0<=n/\n<=16 by omega),ya,ZJ (z:=8*n) (by omega) (by omega),ZJ (z:=68+8*n) (by omega) (by omega),Zvg (by omega) (by omega) (by omega) (by omega)]
theorem ZJu(r n:Int):NW yD r n=ab (di r n):=by
 unfold NW Zdj di;rw[zQ,zQ,ya,ya];by_cases f:0<=r/\r<=1000
 .rw[yY f,yX (by decide),yW f];by_cases g:0<=n/\n<=16
  .rw[yY g,yX (by decide),yW g,ya,ZJ (z:=4+n) (by omega) (by omega),ZJ (z:=(4+n)*8) (by omega) (by omega),ZJ (z:=36+(4+n)*8) (by omega) (by omega),show(36+(4+n)*8:Int)=68+8*n by omega,Zvg f.1 f.2 g.1 g.2]
  .rw[yZ g,yW (by decide),yX g,ya,Int.mul_zero];rfl
 .rw[yZ f,yW (by decide),yX f]
theorem OW(ch:Chan)(s:yG):tF yD ch s=ab (wi (di s.2.2.2 (s.2.2.1.length:Int)+660)):=by
 unfold tF;rw[ZLU,ya]
theorem ZHd(ch:Chan)(s:yG):NX yD ch s=ab (wi (di s.2.2.2 (s.2.2.1.length:Int)+660)):=by
 unfold NX;rw[ZJu,ya]
def bA(n:Nat)(ok:Nat->Prop):Prop:=∀k,k < n->ok k
open Classical in
theorem kS{I X:Type}{step:I->yO (I⊕X)}(n:Nat)(st:Nat->I)(ok:Nat->Prop)(f g:X)
 (h1:∀k,k < n->ok k->step (st k)=ab (.inl (st (k+1)))) (h2:∀k,k < n->¬ok k->step (st k)=ab (.inr g)) (he:step (st n)=ab (.inr f)) (hn:n < 18446744073709551616):
 Zc step yD (st 0)=ab (if bA n ok then f else g):=by
 obtain⟨x,e,rfl⟩:=XH (step:=step) n (λk s=>s=st k/\∀j,j < k->ok j) (λx=>x=if bA n ok then f else g) (i:=st 0) ⟨rfl,λj h=>by omega⟩ hn (by
  rintro k _ l ⟨rfl,m⟩;by_cases h:ok k
  .left;refine⟨_,h1 k l h,rfl,λj y=> ?_⟩;by_cases e:j=k
   .rw[e];exact h
   .exact m j (by omega)
  .right;exact⟨_,h2 k l h,by rw[yX λq=>h (q k l)]⟩) (by
  rintro _ ⟨rfl,m⟩;exact⟨_,he,by rw[yW (show bA n ok from m)]⟩)
 exact e
def cm(ch:Chan)(l:yL Cond)(k:Nat):Prop:=∀c,l[k]? =ab c->kj c/\(∀p,0 < k->l[k - 1]? =ab p->bW p c)/\∀t,ch.2.2.2.1[(1 - c.1).toNat]? =ab t->t.2.2.2.2.1<=c.2.2.1
def cS(ch:Chan)(l:yL Cond)(k:Nat):Prop:=∀t,ch.2.2.2.1[k]? =ab t->(off (k:Int) l).1<=t.2.2.2.1/\(off (k:Int) l).2<=t.2.2.2.2.2
theorem Zs8{ch:Chan}(w:ch.2.2.2.1.length=2){c:Cond}(h:0<=c.1/\c.1<=1):wi (1 - c.1)=1 - c.1/\bi (wi (1 - c.1)) 2=ae/\∃t,ch.2.2.2.1[(wi (1 - c.1)).toNat]? =ab t/\ch.2.2.2.1[(1 - c.1).toNat]? =ab t:=by
 have e:wi (1 - c.1)=1 - c.1:=ZJ (by omega) (by omega);rw[e];obtain⟨t,f,_⟩:=Zj (l:=ch.2.2.2.1) (k:=(1 - c.1).toNat) (by omega);exact⟨rfl,X8 (by omega) (by omega),t,f,f⟩
theorem zS{ch:Chan}(w:ch.2.2.2.1.length=2)(s:yG){k:Nat}(I:k < s.2.2.1.length)(hl:s.2.2.1.length<=16):
 (cm ch s.2.2.1 k->XX yD (s.2.2.1,(s.2.2.1.length:Int),(k:Int),ch,s)=ab (.inl (s.2.2.1,(s.2.2.1.length:Int),((k+1:Nat):Int),ch,s))/\YI yD ((k:Int),ch,s)=ab (.inl (((k+1:Nat):Int),ch,s)))/\
 (¬cm ch s.2.2.1 k->XX yD (s.2.2.1,(s.2.2.1.length:Int),(k:Int),ch,s)=ab (.inr (.inl (af,ch,s)))/\YI yD ((k:Int),ch,s)=ab (.inr (.inl (af,ch,s)))):=by
 obtain⟨c,y,Y⟩:=Zj I;unfold XX YI;dsimp only;rw[yW (Zw I),yW (Zw I)];simp only[Zn y,ya,ZCM,ZHa];rw[Zr (by omega)];by_cases z:kj c
 .rw[yY z,yX (show¬(!true)=ae by decide),yX (show¬(!true)=ae by decide)];obtain⟨e,Q,t,R,m⟩:=Zs8 w z.1;simp only[yW Q];rw[R,ya];by_cases J:k=0
  .subst J;rw[yX (show¬ag (((0:Nat):Int) > 0)=ae by decide),yX (show¬ag (((0:Nat):Int) > 0)=ae by decide)];by_cases g:c.2.2.1 < t.2.2.2.2.1
   .have f:¬cm ch s.2.2.1 0:=λq=>by
     have:=(q c y).2.2 t m;omega
    refine⟨λq=>absurd q f,λ_=> ?_⟩;rw[yW (yY g),ya,yW (yY g)];exact⟨rfl,rfl⟩
   .have h:cm ch s.2.2.1 0:=λS j=>by
     rw[y]at j;cases j;refine⟨z,λp T=>by omega,λU E=> ?_⟩;rw[m]at E;cases E;omega
    refine⟨λ_=> ?_,λq=>absurd h q⟩;rw[yX (show¬ag (c.2.2.1 < t.2.2.2.2.1)=ae by rw[yN];exact g),ya,yX (show¬ag (c.2.2.1 < t.2.2.2.2.1)=ae by rw[yN];exact g)];exact⟨rfl,rfl⟩
  .obtain⟨p,M,_⟩:=Zj (l:=s.2.2.1) (k:=k - 1) (by omega)
   have W:wi ((k:Int) - 1)=((k - 1:Nat):Int):=by
    rw[ZJ (by omega) (by omega)];omega
   rw[yW (show ag ((k:Int) > 0)=ae from yY (by omega)),yW (show ag ((k:Int) > 0)=ae from yY (by omega)),W,Zn M,ya,ya]
   obtain⟨v,X,F⟩:=OU p c;rw[X,ya,ZEd,ya];by_cases A:bW p c
   .rw[yY A,yX (show¬(!true)=ae by decide)];by_cases g:c.2.2.1 < t.2.2.2.2.1
    .have f:¬cm ch s.2.2.1 k:=λq=>by
      have:=(q c y).2.2 t m;omega
     refine⟨λq=>absurd q f,λ_=> ?_⟩;rw[yW (yY g),ya,yW (yY g)];exact⟨rfl,rfl⟩
    .have h:cm ch s.2.2.1 k:=λS j=>by
      rw[y]at j;cases j;refine⟨z,λZ T G=> ?_,λU E=> ?_⟩
      .rw[M]at G;cases G;exact A
      .rw[m]at E;cases E;omega
     refine⟨λ_=> ?_,λq=>absurd h q⟩;rw[yX (show¬ag (c.2.2.1 < t.2.2.2.2.1)=ae by rw[yN];exact g),ya,yX (show¬ag (c.2.2.1 < t.2.2.2.2.1)=ae by rw[yN];exact g),yX (show¬ag (v >= 0)=ae by rw[yN];exact λq=>F.1 q A)];exact⟨rfl,rfl⟩
   .have f:¬cm ch s.2.2.1 k:=λq=>A ((q c y).2.1 p (by omega) M);refine⟨λq=>absurd q f,λ_=> ?_⟩;rw[yZ A,yW (show(!false)=ae by decide),yW (show ag (v >= 0)=ae from yY (F.2 A))]
    refine⟨?_,rfl⟩;by_cases g:c.2.2.1 < t.2.2.2.2.1
    .rw[yW (yY g)]
    .rw[yX (show¬ag (c.2.2.1 < t.2.2.2.2.1)=ae by rw[yN];exact g)]
 .have f:¬cm ch s.2.2.1 k:=λq=>z (q c y).1;refine⟨λq=>absurd q f,λ_=> ?_⟩;rw[yZ z,yW (show(!false)=ae by decide),yW (show(!false)=ae by decide)];exact⟨rfl,rfl⟩
open Classical in
theorem OX{ch:Chan}(w:ch.2.2.2.1.length=2)(s:yG)(hl:s.2.2.1.length<=16):
 Zc (XX yD) yD (s.2.2.1,(s.2.2.1.length:Int),(0:Int),ch,s)=ab (if bA s.2.2.1.length (cm ch s.2.2.1) then .inr (ch,s) else .inl (af,ch,s))/\
 Zc (YI yD) yD ((0:Int),ch,s)=ab (if bA s.2.2.1.length (cm ch s.2.2.1) then .inr (ch,s) else .inl (af,ch,s)):=by
 constructor
 .refine kS s.2.2.1.length (λk:Nat=>(s.2.2.1,(s.2.2.1.length:Int),(k:Int),ch,s)) (cm ch s.2.2.1) _ _ (λk f h=>((zS w s f hl).1 h).1) (λk f h=>((zS w s f hl).2 h).1) ?_ (by omega);unfold XX;dsimp only;rw[yX (by rw[Zy];decide)]
 .refine kS s.2.2.1.length (λk:Nat=>((k:Int),ch,s)) (cm ch s.2.2.1) _ _ (λk f h=>((zS w s f hl).1 h).2) (λk f h=>((zS w s f hl).2 h).2) ?_ (by omega);unfold YI;dsimp only;rw[yX (by rw[Zy];decide)]
theorem zY{ch:Chan}(w:ch.2.2.2.1.length=2)(s:yG){k:Nat}(z:k < 2)(hl:s.2.2.1.length<=16):
 (cS ch s.2.2.1 k->WA yD (ch.2.2.2.1,(k:Int),ch,s)=ab (.inl (ch.2.2.2.1,((k+1:Nat):Int),ch,s))/\Xg yD ((k:Int),ch,s)=ab (.inl (((k+1:Nat):Int),ch,s)))/\
 (¬cS ch s.2.2.1 k->WA yD (ch.2.2.2.1,(k:Int),ch,s)=ab (.inr (.inl (af,ch,s)))/\Xg yD ((k:Int),ch,s)=ab (.inr (.inl (af,ch,s)))):=by
 obtain⟨t,g,_⟩:=Zj (l:=ch.2.2.2.1) (k:=k) (by omega);unfold WA Xg;dsimp only;rw[yW (show ag ((k:Int) < 2)=ae from yY (by omega)),yW (show ag ((k:Int) < 2)=ae from yY (by omega)),Zn g,ya,Zs6 s _ (by omega),Zzw s _ (by omega),ya,ya,yW (X8 (by omega) (by omega)),yW (X8 (by omega) (by omega)),yat,g,ya,ya,Zr (by omega)]
 by_cases j:(off (k:Int) s.2.2.1).1 > t.2.2.2.1
 .have f:¬cS ch s.2.2.1 k:=λq=>by
   have:=(q t g).1;omega
  refine⟨λq=>absurd q f,λ_=> ?_⟩;rw[yW (yY j),yW (yY j)];exact⟨rfl,rfl⟩
 .rw[yX (show¬ag ((off (k:Int) s.2.2.1).1 > t.2.2.2.1)=ae by rw[yN];exact j),yX (show¬ag ((off (k:Int) s.2.2.1).1 > t.2.2.2.1)=ae by rw[yN];exact j)];by_cases m:(off (k:Int) s.2.2.1).2 > t.2.2.2.2.2
  .have f:¬cS ch s.2.2.1 k:=λq=>by
    have:=(q t g).2;omega
   refine⟨λq=>absurd q f,λ_=> ?_⟩;rw[yW (yY m),yW (yY m)];exact⟨rfl,rfl⟩
  .have h:cS ch s.2.2.1 k:=λA y=>by
    rw[g]at y;cases y;omega
   refine⟨λ_=> ?_,λq=>absurd h q⟩;rw[yX (show¬ag ((off (k:Int) s.2.2.1).2 > t.2.2.2.2.2)=ae by rw[yN];exact m),yX (show¬ag ((off (k:Int) s.2.2.1).2 > t.2.2.2.2.2)=ae by rw[yN];exact m)];exact⟨rfl,rfl⟩
open Classical in
theorem OY{ch:Chan}(w:ch.2.2.2.1.length=2)(s:yG)(hl:s.2.2.1.length<=16):
 Zc (WA yD) yD (ch.2.2.2.1,(0:Int),ch,s)=ab (if bA 2 (cS ch s.2.2.1) then .inr (ch,s) else .inl (af,ch,s))/\
 Zc (Xg yD) yD ((0:Int),ch,s)=ab (if bA 2 (cS ch s.2.2.1) then .inr (ch,s) else .inl (af,ch,s)):=by
 constructor
 .exact kS 2 (λk:Nat=>(ch.2.2.2.1,(k:Int),ch,s)) (cS ch s.2.2.1) _ _ (λk f h=>((zY w s f hl).1 h).1) (λk f h=>((zY w s f hl).2 h).1) rfl (by omega)
 .exact kS 2 (λk:Nat=>((k:Int),ch,s)) (cS ch s.2.2.1) _ _ (λk f h=>((zY w s f hl).1 h).2) (λk f h=>((zY w s f hl).2 h).2) rfl (by omega)
structure iD(ch:Chan)(s:yG):Prop where
 am:1<=ch.2.1/\ch.2.1<=1125899906842624
 at_:0<=ch.1.2/\ch.1.2<=63
 op:ch.2.2.2.2=0\/ch.2.2.2.2=1
 side:gp ch
 no:0<=s.1/\s.1<=1048576
 fM:∃a b,s.2.1=[a,b]/\(0<=a/\a<=1125899906842624)/\(0<=b/\b<=1125899906842624)/\dm (wi (a+b)) s.2.2.1=ch.2.1/\(ch.2.2.2.2=0->a >= wi (di s.2.2.2 (s.2.2.1.length:Int)+660))/\(ch.2.2.2.2=1->b >= wi (di s.2.2.2 (s.2.2.1.length:Int)+660))
 rate:0<=s.2.2.2/\s.2.2.2<=1000
 len:s.2.2.1.length<=16
 conds:∀k,k < s.2.2.1.length->cm ch s.2.2.1 k
 sides:∀k,k < 2->cS ch s.2.2.1 k
theorem ua{ch:Chan}(w:dV ch){s:yG}(R:s.2.1.length=2):∃b:Bool,au yD ch s=ab b/\X5 yD ch s=ab b/\(b=ae->iD ch s):=by
 obtain⟨e,f1,f2,f3⟩:=zR w;obtain⟨a,b,hs⟩:=jt R;unfold au X5;rw[f1,f2,ya,ya];by_cases I:e=0
 .subst I;obtain⟨J,M,S,Q⟩:=f3 rfl;rw[yX (show¬(((0:Int)!=0)=ae) by decide),yX (show¬(((0:Int)!=0)=ae) by decide),tZ,OQ,ya,ya,hs];by_cases A:0<=s.1/\s.1<=1048576
  .rw[yY A,yX (show¬(!true)=ae by decide),yX (show¬(!true)=ae by decide),yam,yak,yam];simp only[ya,ZCL,tZ,OQ];by_cases g:0<=a/\a<=1125899906842624
   .by_cases j:0<=b/\b<=1125899906842624
    .rw[yY (p:=(0<=a/\a<=1125899906842624)/\0<=b/\b<=1125899906842624) ⟨g,j⟩,yY g,yY j];rw[yX (show¬(!true)=ae by decide),yX (show¬(!true)=ae by decide),yX (show¬(!true)=ae by decide)];by_cases E:0<=s.2.2.2/\s.2.2.2<=1000
     .rw[yY E,yX (show¬(!true)=ae by decide),yX (show¬(!true)=ae by decide)];by_cases l:s.2.2.1.length<=16
      .have f:¬ag ((s.2.2.1.length:Int) > 16)=ae:=by rw[yN];omega
       rw[yX f,yX f,(OX w.t s l).1,(OX w.t s l).2,ya,ya];by_cases F:bA s.2.2.1.length (cm ch s.2.2.1)
       .rw[yW F];dsimp only;rw[(OY w.t s l).1,(OY w.t s l).2,ya,ya];by_cases G:bA 2 (cS ch s.2.2.1)
        .rw[yW G];dsimp only;rw[OV s hs (by omega),ZEe s hs (by omega),ya,ya];by_cases m:dm (wi (a+b)) s.2.2.1=ch.2.1
         .rw[yW (beq_iff_eq.2 m),yW (beq_iff_eq.2 m),hs,OW,ZHd];rcases S with q|q
          .rw[q,yW (by decide)];refine⟨ag (a >= wi (di s.2.2.2 (s.2.2.1.length:Int)+660)),rfl,rfl,λh=>⟨J,M,.inl q,Q,A,⟨a,b,hs,g,j,m,λ_=>yF h,λh=> ?_⟩,E,l,F,G⟩⟩;rw[q]at h;exact absurd h (by decide)
          .rw[q,yW (by decide)];refine⟨ag (b >= wi (di s.2.2.2 (s.2.2.1.length:Int)+660)),rfl,rfl,λh=>⟨J,M,.inr q,Q,A,⟨a,b,hs,g,j,m,λh=> ?_,λ_=>yF h⟩,E,l,F,G⟩⟩;rw[q]at h;exact absurd h (by decide)
         .have y:¬(dm (wi (a+b)) s.2.2.1==ch.2.1)=ae:=by rw[yT];exact m
          rw[yX y,yX y];exact⟨af,rfl,rfl,λh=>absurd h (by decide)⟩
        .rw[yX G];exact⟨af,rfl,rfl,λh=>absurd h (by decide)⟩
       .rw[yX F];exact⟨af,rfl,rfl,λh=>absurd h (by decide)⟩
      .have f:ag ((s.2.2.1.length:Int) > 16)=ae:=yY (by omega);rw[yW f,yW f];exact⟨af,rfl,rfl,λh=>absurd h (by decide)⟩
     .rw[yZ E];exact⟨af,rfl,rfl,λh=>absurd h (by decide)⟩
    .rw[yZ (p:=(0<=a/\a<=1125899906842624)/\0<=b/\b<=1125899906842624) λq=>j q.2,yY g,yZ j];exact⟨af,rfl,rfl,λh=>absurd h (by decide)⟩
   .rw[yZ (p:=(0<=a/\a<=1125899906842624)/\0<=b/\b<=1125899906842624) λq=>g q.1,yZ g];exact⟨af,rfl,rfl,λh=>absurd h (by decide)⟩
  .rw[yZ A];exact⟨af,rfl,rfl,λh=>absurd h (by decide)⟩
 .have z:(e !=0)=ae:=bne_iff_ne.2 I;rw[yW z,yW z];exact⟨af,rfl,rfl,λh=>absurd h (by decide)⟩
theorem Qh(n:Nat):(fp n).length=8:=rfl
theorem ZHe(n:yU):OA yD n=ab (fp n.toNat):=by
 unfold OA
 have e:=Zz (step:=XA yD) 8 (λk:Nat=>(n,56 - 8*(k:Int),(fp n.toNat).take k)) (x:=fp n.toNat) (by
  intro k f;have g:(fp n.toNat)[k]? =_:=ZGW n f;have j:((fp n.toNat).take k).length<=8:=by rw[yaa];exact ybt (Nat.min_le_right _ _) (ym _)
  unfold XA;dsimp only;have h:min (56 - 8*(k:Int)).toNat 64=56 - 8*k:=by omega
  rw[yW (yY (by omega)),yW (yY (by omega)),yW (ZZ (by omega) (by omega)),ZJ (z:=56 - 8*(k:Int) - 8) (by omega) (by omega),h,show 56 - 8*(k:Int) - 8=56 - 8*((k+1:Nat):Int) by omega,List.take_add_one,g];rfl) (by
  unfold XA;dsimp only;rw[yX (dj (by omega))];rfl) (by omega)
 have e:Zc (XA yD) yD (n,(56:Int),([]:yL yB))=_:=e;rw[e,ya]
theorem ZEf(n:yU):V1 yD n=ab (fp n.toNat):=by
 unfold V1
 have e:=Zz (step:=YT yD) 8 (λk:Nat=>(n,56 - 8*(k:Int),([]:yL yB),(fp n.toNat).take k)) (x:=(([]:yL yB),fp n.toNat)) (by
  intro k f;have g:(fp n.toNat)[k]? =_:=ZGW n f;have j:((fp n.toNat).take k).length<=8:=by rw[yaa];exact ybt (Nat.min_le_right _ _) (ym _)
  unfold YT;dsimp only;have h:min (56 - 8*(k:Int)).toNat 64=56 - 8*k:=by omega
  rw[yW (yY (by omega)),yW (yY (by omega)),yW (ZZ (by omega) (by omega)),ZJ (z:=56 - 8*(k:Int) - 8) (by omega) (by omega),h,show 56 - 8*(k:Int) - 8=56 - 8*((k+1:Nat):Int) by omega,List.take_add_one,g];rfl) (by
  unfold YT;dsimp only;rw[yX (dj (by omega))];rfl) (by omega)
 have e:Zc (YT yD) yD (n,(56:Int),([]:yL yB),([]:yL yB))=_:=e;rw[e,ya]
def lS(l:yL yB):yL yB:=fp l.length++l
def kl(s:ByteArray)(ls:yL aMP):yL yB:=fp s.size++gn s++bo lS ls
theorem Zzx(s:ByteArray):(gn s).length=s.size:=by
 unfold gn;rw[Array.length_toList];rfl
theorem AA{ls:yL aMP}(h2:ls.length<=10)(h3:∀l,l∈ls->l.length<=60000)(k:Nat):(bo lS (ls.take k)).length<=10*60008:=
 Vh (c:=60008) (λl f=>by have:=h3 l f;unfold lS;rw[yl,Qh];omega) h2 k
theorem OZ{s:ByteArray}{ls:yL aMP}(h1:s.size<=100)(h2:ls.length<=10)(h3:∀l,l∈ls->l.length<=60000):VT yD s ls=ab (Sha.iS (kl s ls)):=by
 unfold VT;have hs:=Zzx s;have h:WT yD (s.size:Int) []=ab (fp s.size):=KM (b:=[]) (by simp);rw[h,ya,yW (ZZ (by rw[hs,Qh];omega) (by rw[hs,Qh];omega))]
 have e:=Zz (step:=Q8 yD) ls.length (λk:Nat=>(ls,(ls.length:Int),(k:Int),qn,fp s.size++gn s++bo lS (ls.take k))) (x:=(qn,kl s ls)) (by
  intro k j;obtain⟨e,f,m⟩:=Zj j;have:=h3 e m;have g:=AA h2 h3 k;unfold Q8;dsimp only;rw[yW (yY (by omega)),Zn f,ya,KM (by simp only[yl,Qh,hs];omega),ya,yW (ZZ (by simp only[yl,Qh,hs];omega) (by simp only[yl,Qh,hs];omega)),Zr (by omega),VO f];simp only[lS,yac]) (by
  unfold Q8;dsimp only;rw[yX (by rw[Zy];decide),yai];rfl) (by omega)
 rw[show bo lS (ls.take 0)=[] from rfl,ybf]at e
 have e:Zc (Q8 yD) yD (ls,(ls.length:Int),(0:Int),dt,fp s.size++gn s)=_:=e;have g:=AA h2 h3 ls.length;rw[yai]at g;rw[e,ya,ZJg (by show(kl s ls).length<=_;unfold kl;simp only[yl,Qh,hs];omega),ya]
theorem ZJv{s:ByteArray}{ls:yL aMP}(h1:s.size<=100)(h2:ls.length<=10)(h3:∀l,l∈ls->l.length<=60000):OC yD s ls=ab (Sha.iS (kl s ls)):=by
 unfold OC;have hs:=Zzx s
 have w:∀n:Nat,n<=1000000->(dy (n:Int)).toNat=n:=λn m=>by
  unfold dy;rw[ybi];omega
 have hs':s.data.toList.length=s.size:=hs;rw[ZEf,ya,w _ (by omega),yW (yY (by unfold maxLen;omega)),yW (ZZ (by rw[hs',Qh];omega) (by rw[hs',Qh];omega))]
 have e:=Zz (step:=Y4 yD) ls.length (λk:Nat=>(ls,(k:Int),qn,fp s.size++gn s++bo lS (ls.take k))) (x:=(qn,kl s ls)) (by
  intro k f;obtain⟨e,g,j⟩:=Zj f;have:=h3 e j;have h:=AA h2 h3 k;unfold Y4;dsimp only;rw[yW (Zw f),Zn g,ya,ZHe,ya,w _ (by omega),yW (ZZ (by simp only[yl,Qh,hs];omega) (by simp only[yl,Qh,hs];omega)),ya,yW (ZZ (by simp only[yl,Qh,hs];omega) (by simp only[yl,Qh,hs];omega)),Zr (by omega),VO g];simp only[lS,yac]) (by
  unfold Y4;dsimp only;rw[yX (by rw[Zy];decide),yai];rfl) (by omega)
 rw[show bo lS (ls.take 0)=[] from rfl,ybf]at e
 have e:Zc (Y4 yD) yD (ls,(0:Int),qn,fp s.size++s.data.toList)=_:=e;have h:=AA h2 h3 ls.length;rw[yai]at h;show(Option.bind (Zc (Y4 yD) yD (ls,(0:Int),qn,fp s.size++s.data.toList)) λa=>(OB yD a.2).bind λb=>ab b)=_;rw[e,ya,ZGX (by show(kl s ls).length<=_;unfold kl;simp only[yl,Qh,hs];omega),ya]
theorem PA{n:Nat}(h:n < 256):w8 (n:Int)=yap n:=by
 unfold w8;congr 1;omega
theorem ZLV:∀(k n:Nat),n < 128 ^ (k+1)->n<=9223372036854775807->Qg yD (k+1) (n:Int)=ab (Yp n):=by
 intro k
 induction k with
 |zero=>
  intro n h g;have h:n < 128:=by simpa using h
  show WO yD (Qg yD 0) (n:Int)=_;unfold WO
  rw[yW (yY (by omega)),oJ h,PA (by omega)]
 |succ k j=>
  intro n h g;show WO yD (Qg yD (k+1)) (n:Int)=_;unfold WO;by_cases f:n < 128
  .rw[yW (yY (by omega)),oJ f,PA (by omega)]
  .have l:n / 128 < 128 ^ (k+1):=by
    rw[Nat.div_lt_iff_lt_mul (by decide)];rw[Nat.pow_succ]at h;exact h
   have m:wi (Int.tdiv (n:Int) 128)=((n / 128:Nat):Int):=by
    rw[show Int.tdiv (n:Int) 128=((n / 128:Nat):Int) from rfl,ZJ (by omega) (by omega)]
   have z:=ZC (n:=n / 128) (by omega);rw[yX (dj (by omega)),m,j _ l (by omega),ya,yW (ZZ (by omega) (by omega)),tU f]
   have y:w8 (Int.tmod (n:Int) 128)+128=yap (n % 128+128):=by
    rw[show Int.tmod (n:Int) 128=((n % 128:Nat):Int) from rfl,PA (by omega), <-UInt8.toNat_inj,UInt8.toNat_add,UInt8.toNat_ofNat',UInt8.toNat_ofNat']
    show(n % 128 % 256+128) % 256=_;omega
   rw[y];rfl
theorem ZJw{n:Nat}(h:n<=9223372036854775807):OD yD (n:Int)=ab (Yp n):=ZLV 11 n (by omega) h
theorem kT{b:yL yB}{z:Int}(f:0<=z)(h:z<=9223372036854775807)(hb:b.length<=1000000):Yc yD b z=ab (b++Yp z.toNat):=by
 obtain⟨n,rfl⟩:=Int.eq_ofNat_of_zero_le f;have g:=ZC (n:=n) (by omega);unfold Yc;rw[yW (ZZ (by omega) (by omega)),yW (yY (by omega)),ZJw (by omega),ya,yW (ZZ (by omega) (by omega)),yat]
theorem ZHf{b:yL yB}{z:Int}(f:0<=z)(h:z<=9223372036854775807)(hb:b.length<=1000000):Zdk yD b z=ab (b++Yp z.toNat):=kT f h hb
theorem Zta{b:yL yB}(x:yU)(hb:b.length<=1000000):WP yD b x=ab (b++fz x.toNat):=by
 unfold WP;rw[yW (ZZ (by omega) (by omega))]
 have e:=Zz (step:=Y5 yD) 8 (λk:Nat=>(x,7 - (k:Int),b++(fz x.toNat).take k)) (x:=b++fz x.toNat) (by
  intro k f;have h:((fz x.toNat).take k).length<=8:=by rw[yaa];omega
  unfold Y5;dsimp only
  have g:(min ((dy (wi (8*(7 - (k:Int))))).toNat:Int).toNat 64)=56 - 8*k:=by
   rw[ZJ (z:=8*(7 - (k:Int))) (by omega) (by omega)]
   have:(dy (8*(7 - (k:Int)))).toNat=56 - 8*k:=by
    unfold dy;rw[ybi];omega
   omega
  rw[yW (yY (by omega)),yW (ZZ (by rw[yl];omega) (by rw[yl];omega)),ZJ (z:=7 - (k:Int) - 1) (by omega) (by omega),g,Zzs,show 7 - (k:Int) - 1=7 - ((k+1:Nat):Int) by omega,List.take_add_one,zz _ f,yac];rfl) (by
  unfold Y5;dsimp only;rw[yX (dj (by omega)),ycc (by rw[YM];exact ym _)]) (by omega)
 have e:Zc (Y5 yD) yD (x,(7:Int),b++[])=_:=e;rw[ybf]at e;rw[e,ya]
theorem Zzy{b h:yL yB}(hb:b.length<=1000000)(g:h.length=32):V2 yD b h=ab (b++h):=by
 unfold V2;rw[yW (ZZ (by omega) (by omega))]
 have e:=Zz (step:=YU yD) 32 (λk:Nat=>((k:Int),h,b++h.take k)) (x:=(h,b++h)) (by
  intro k j;obtain⟨e,f,_⟩:=Zj (l:=h) (k:=k) (by omega);have m:(h.take k).length<=32:=by rw[yaa];omega
  unfold YU;dsimp only;rw[yW (yY (by omega)),yW (X8 (by omega) (by omega)),yat,f,ya,yW (ZZ (by rw[yl];omega) (by rw[yl];omega)),Zr (by omega),List.take_add_one,f,yac];rfl) (by
  unfold YU;dsimp only;rw[yX (dj (by omega)),ycc (by omega)]) (by omega)
 have e:Zc (YU yD) yD ((0:Int),h,b++[])=_:=e;rw[ybf]at e;rw[e,ya]
theorem Zxi{b c:yL yB}(hb:b.length<=1000000)(hc:c.length<=1000000):VG yD b c=ab (b++(Yp c.length++c)):=by
 unfold VG;have f:=ZC (n:=c.length) (by omega);rw[ZHf (by omega) (by omega) hb,ya,yat,yW (ZZ (by rw[yl];omega) (by rw[yl];omega)),yac]
theorem ZEg{l:yL yU}(hl:l.length<=9223372036854775807):∃b,pU yD l=ab b/\(b=af->∀p,p∈l->eE p.toNat):=by
 unfold pU xf
 obtain⟨x,G,y⟩:=XH (step:=Xd yD) l.length (λk s=>s=(l,(l.length:Int),(k:Int))/\∀j p,j < k->l[j]? =ab p->eE p.toNat) (λx=>(∃k:Nat,x=.inl (k:Int))\/x=.inr ()/\∀p,p∈l->eE p.toNat) (i:=(l,(l.length:Int),(0:Int))) ⟨rfl,λj p m=>by omega⟩ (by omega) (by
  rintro k _ E ⟨rfl,m⟩;obtain⟨e,F,_⟩:=Zj E;unfold Xd;dsimp only;rw[yW (Zw E),Zn F,ya,OH,ya,Zr (by omega)];by_cases f:eE e.toNat
  .rw[yY f];left;refine⟨_,rfl,rfl,λj p J z=> ?_⟩;by_cases I:j < k
   .exact m j p I z
   .have:j=k:=by omega
    subst this;rw[F]at z;cases z;exact f
  .rw[yZ f];right;exact⟨_,rfl,.inl ⟨k,rfl⟩⟩) (by
  rintro _ ⟨rfl,m⟩;unfold Xd;dsimp only;rw[yX (by rw[Zy];decide)];refine⟨_,rfl,.inr ⟨rfl,λp f=> ?_⟩⟩;obtain⟨j,g,A⟩:=ybg f;exact m j p g (by rw[yab g,A]))
 rw[G,ya];rcases y with⟨k,rfl⟩|⟨rfl,y⟩
 .dsimp only;rw[ya];refine⟨_,rfl,λh=> ?_⟩;exact absurd (of_decide_eq_false h) (by omega)
 .exact⟨_,rfl,λ_=>y⟩
def dO(l:Z4):Prop:=l.length<=9223372036854775807/\∀b,b∈l->b.1.length<=9223372036854775807
theorem Zp1(z:Int):∃b,Vv yD z=ab b/\(b=ae->0<=z/\z<=1048576):=by
 unfold Vv;by_cases h:z >= 0
 .rw[yW (yY h)];exact⟨_,rfl,λf=>⟨h,yF f⟩⟩
 .rw[yX (by rw[yN];exact h)];exact⟨_,rfl,λf=>by cases f⟩
theorem QO{l:Z4}(hl:dO l):∃b,XJ yD l=ab b/\(b=ae↔Wg l/\gX l):=by
 have Q:∃b,XJ yD l=ab b/\(b=ae->Wg l/\gX l):=by
  unfold XJ;obtain⟨h0,y⟩:=hl
  obtain⟨x,Y,J⟩:=XH (step:=Wr yD) l.length (λk s=>s=(l,(l.length:Int),(k:Int),l)/\∀j b,j < k->l[j]? =ab b->lO b/\lP b)
   (λx=>x=.inl (af,l)\/(x=.inr l/\∀b,b∈l->lO b/\lP b)) (i:=(l,(l.length:Int),(0:Int),l)) ⟨rfl,λj b M=>by omega⟩ (by omega) (by
   rintro k _ T ⟨rfl,M⟩;obtain⟨e,U,Z⟩:=Zj T
   have f:(lO e/\lP e)->∀j b,j < k+1->l[j]? =ab b->lO b/\lP b:=by
    intro hE j b z A;by_cases h4:j < k
    .exact M j b h4 A
    .have:j=k:=by omega
     subst this;rw[U]at A;cases A;exact hE
   unfold Wr;dsimp only;rw[yW (Zw T),Zn U,ya];by_cases W:(e.1.length:Int) > 12
   .right;rw[yW (yY W)];exact⟨_,rfl,.inl rfl⟩
   rw[yX (by rw[yN];exact W)];obtain⟨b,g,R⟩:=ZEg (y e Z);rw[g,ya]
   cases b with
   |true=>right;exact⟨_,rfl,.inl rfl⟩
   |false=>
    obtain⟨c,hc,E⟩:=Zp1 e.2.1;obtain⟨d,hd,F⟩:=Zp1 e.2.2.1;rw[yX (by decide),hc,ya,hd,ya]
    cases c with
    |false=>right;exact⟨_,rfl,.inl rfl⟩
    |true=>
     cases d with
     |false=>right;exact⟨_,rfl,.inl rfl⟩
     |true=>
      have X:=λG:e.2.2.2≠0->eE e.2.2.2.toNat=>f ⟨⟨by omega,(E rfl).1,(E rfl).2,(F rfl).1,(F rfl).2⟩,R rfl,G⟩;rw[yX (by decide),yX (by decide),Zr (by omega)];by_cases G:e.2.2.2=0
      .rw[yX (by rw[G];decide)];left;exact⟨_,rfl,rfl,X λh=>absurd G h⟩
      .rw[yW (by simp[G]),OH,ya];by_cases m:eE e.2.2.2.toNat
       .rw[yY m];left;exact⟨_,rfl,rfl,X λ_=>m⟩
       .rw[yZ m];right;exact⟨_,rfl,.inl rfl⟩) (by
   rintro _ ⟨rfl,M⟩;unfold Wr;dsimp only;rw[yX (by rw[Zy];decide)];refine⟨_,rfl,.inr ⟨rfl,λb g=> ?_⟩⟩;obtain⟨j,I,S⟩:=ybg g;exact M j b I (by rw[yab I,S]))
  rw[Y,ya];rcases J with rfl|⟨rfl,J⟩
  .exact⟨_,rfl,λh=>by cases h⟩
  .dsimp only;by_cases z:(l.length:Int) > 0
   .rw[yW (yY z)];refine⟨_,rfl,λA=>⟨⟨by omega, ?_,λb g=>(J b g).1⟩,λb g=>(J b g).2⟩⟩;have:=yF A;omega
   .rw[yX (by rw[yN];exact z)];exact⟨_,rfl,λh=>by cases h⟩
 obtain⟨b,y,z⟩:=Q;refine⟨b,y,z,λh=> ?_⟩;rw[OI h.1 h.2]at y;exact(Option.some.inj y).symm
theorem Zzz{e:ZR}(W:e.1.length<=9223372036854775807):∃b,QM yD e=ab b/\(b=ae↔lO e/\lP e):=by
 unfold QM;by_cases z:(e.1.length:Int) > 12
 .rw[yW (yY z)];exact⟨_,rfl,λh=>(by cases h),λh=>by have:=h.1.1;omega⟩
 rw[yX (by rw[yN];exact z)];by_cases A:e.2.1 < 0
 .rw[yW (yY A)];exact⟨_,rfl,λh=>(by cases h),λh=>by have:=h.1.2.1;omega⟩
 rw[yX (by rw[yN];exact A)];by_cases E:e.2.1 > 1048576
 .rw[yW (yY E)];exact⟨_,rfl,λh=>(by cases h),λh=>by have:=h.1.2.2.1;omega⟩
 rw[yX (by rw[yN];exact E)];by_cases F:e.2.2.1 < 0
 .rw[yW (yY F)];exact⟨_,rfl,λh=>(by cases h),λh=>by have:=h.1.2.2.2.1;omega⟩
 rw[yX (by rw[yN];exact F)];by_cases G:e.2.2.1 > 1048576
 .rw[yW (yY G)];exact⟨_,rfl,λh=>(by cases h),λh=>by have:=h.1.2.2.2.2;omega⟩
 rw[yX (by rw[yN];exact G)];have I:lO e:=⟨by omega,by omega,by omega,by omega,by omega⟩
 obtain⟨x,R,f⟩:=XH (step:=XU yD) e.1.length (λk s=>s=((k:Int),e)/\∀j p,j < k->e.1[j]? =ab p->eE p.toNat) (λx=>(x=.inl (af,e)/\¬lP e)\/(x=.inr e/\∀p,p∈e.1->eE p.toNat)) (i:=((0:Int),e)) ⟨rfl,λj p l=>by omega⟩ (by omega) (by
  rintro k _ J ⟨rfl,l⟩;obtain⟨d,M,S⟩:=Zj J;unfold XU;dsimp only;rw[yW (Zw J),Zn M,ya,zy,ya];by_cases g:eE d.toNat
  .left;rw[yY g,yX (by decide),Zr (by omega)];refine⟨_,rfl,rfl,λj p X y=> ?_⟩;by_cases T:j < k
   .exact l j p T y
   .have:j=k:=by omega
    subst this;rw[M]at y;cases y;exact g
  .right;rw[yZ g,yW (by decide)];exact⟨_,rfl,.inl ⟨rfl,λh=>g (h.1 d S)⟩⟩) (by
  rintro _ ⟨rfl,l⟩;unfold XU;dsimp only;rw[yX (by rw[Zy];decide)];refine⟨_,rfl,.inr ⟨rfl,λp g=> ?_⟩⟩;obtain⟨j,Q,U⟩:=ybg g;exact l j p Q (by rw[yab Q,U]))
 rw[R,ya];rcases f with⟨rfl,f⟩|⟨rfl,f⟩
 .exact⟨_,rfl,λh=>(by cases h),λh=>absurd h.2 f⟩
 .dsimp only;rw[zy,ya];by_cases m:e.2.2.2=0
  .rw[yW (beq_iff_eq.2 m)];exact⟨_,rfl,λ_=>⟨I,f,λh=>absurd m h⟩,λ_=>rfl⟩
  .rw[yX (by rw[yT];exact m)];refine⟨_,rfl,λh=>⟨I,f,λ_=>yF h⟩,λh=>yY (h.2.2 m)⟩
theorem ub{l:Z4}(hl:dO l):∃b,Xq yD l=ab b/\(b=ae↔Wg l/\gX l):=by
 obtain⟨U,w1⟩:=hl;unfold Xq;by_cases A:(l.length:Int) < 1
 .rw[yW (yY A)];exact⟨_,rfl,λh=>(by cases h),λh=>by have:=h.1.1;omega⟩
 rw[yX (by rw[yN];exact A)];by_cases E:(l.length:Int) > 4
 .rw[yW (yY E)];exact⟨_,rfl,λh=>(by cases h),λh=>by have:=h.1.2.1;omega⟩
 rw[yX (by rw[yN];exact E)]
 obtain⟨x,M,f⟩:=XH (step:=Wc yD) l.length (λk s=>s=((k:Int),l)/\∀j b,j < k->l[j]? =ab b->lO b/\lP b) (λx=>(x=.inl (af,l)/\¬(Wg l/\gX l))\/(x=.inr l/\∀b,b∈l->lO b/\lP b)) (i:=((0:Int),l)) ⟨rfl,λj p g=>by omega⟩ (by omega) (by
  rintro k _ F ⟨rfl,g⟩;obtain⟨d,G,m⟩:=Zj F;obtain⟨b,Q,I⟩:=Zzz (w1 d m);unfold Wc;dsimp only;rw[yW (Zw F),Zn G,ya,Q,ya]
  cases b with
  |true=>
   left;rw[yX (by decide),Zr (by omega)];refine⟨_,rfl,rfl,λj p W y=> ?_⟩;by_cases R:j < k
   .exact g j p R y
   .have:j=k:=by omega
    subst this;rw[G]at y;cases y
    exact I.1 rfl
  |false=>
   right;rw[yW (by decide)];exact⟨_,rfl,.inl ⟨rfl,λh=>by have:=I.2 ⟨h.1.2.2 d m,h.2 d m⟩;cases this⟩⟩) (by
  rintro _ ⟨rfl,g⟩;unfold Wc;dsimp only;rw[yX (by rw[Zy];decide)];refine⟨_,rfl,.inr ⟨rfl,λp S=> ?_⟩⟩;obtain⟨j,J,T⟩:=ybg S;exact g j p J (by rw[yab J,T]))
 rw[M,ya];rcases f with⟨rfl,f⟩|⟨rfl,f⟩
 .exact⟨_,rfl,λh=>(by cases h),λh=>absurd h f⟩
 .exact⟨_,rfl,λ_=>⟨⟨by omega,by omega,λb z=>(f b z).1⟩,λb z=>(f b z).2⟩,λ_=>rfl⟩
theorem ZHg{l:Z4}(h:Wg l)(hp:gX l):Xq yD l=ab ae:=by
 obtain⟨b,f,g⟩:=ub (l:=l) ⟨by have:=h.2.1;omega,λb j=>by have:=(h.2.2 b j).1;omega⟩;rw[f,g.2 ⟨h,hp⟩]
theorem ZBr{c:yL yB}(hc:c.length<=100000){i:Int}{l:Z4}{e:ZR}(h:e.1.length<=12):
 Zc (Xk yD) yD (c,i,(0:Int),l,e)=ab (c++bo ik e.1,i,l,e):=by
 have q:=Zz (step:=Xk yD) e.1.length (λk:Nat=>(c++bo ik (e.1.take k),i,(k:Int),l,e)) (x:=(c++bo ik e.1,i,l,e)) (by
  intro k f;obtain⟨d,g,_⟩:=Zj f;have j:=tX h k;unfold Xk;dsimp only;rw[yW (Zw f),Zn g,ya,Zta _ (by rw[yl];omega),ya,Zr (by omega),VO g,yac];rfl) (by
  unfold Xk;dsimp only;rw[yX (by rw[Zy];decide),yai]) (by omega)
 rw[show bo ik (e.1.take 0)=[] from rfl,ybf]at q
 exact q
theorem ZzA{l:Z4}(h:Wg l)(hp:gX l):OE yD l=ab (gv l):=by
 unfold OE
 have I:=h.2.1;have J:=ZC (n:=l.length) (by omega);rw[ZHg h hp,ya,yX (by decide),kT (by omega) (by omega) (by simp),ya,yz,yat]
 have q:=Zz (step:=Xl yD) l.length (λk:Nat=>(Yp l.length++bo fU (l.take k),(k:Int),l)) (x:=(gv l,l)) (by
  intro k j;obtain⟨e,m,z⟩:=Zj j;obtain⟨y,A,M,e4,Q⟩:=h.2.2 e z;have R:=Vh (f:=fU) (c:=131) (λx E=>zA (h.2.2 x E)) h.2.1 k;have S:=ZC (n:=e.1.length) (by omega);have F:=ZC (n:=e.2.1.toNat) (by omega);have G:=ZC (n:=e.2.2.1.toNat) (by omega);have g:=tX y e.1.length;rw[yai]at g;unfold Xl;dsimp only
  rw[yW (Zw j),Zn m,ya,kT (by omega) (by omega) (by rw[yl];omega),ya,yat,
   ZBr (by simp only[yl];omega) y,ya]
  dsimp only
  rw[kT A (by omega) (by simp only[yl];omega),ya,kT e4 (by omega) (by simp only[yl];omega),ya,
   Zta _ (by simp only[yl];omega),ya,Zr (by omega),VO m]
  unfold fU;simp only[yac]) (by
  unfold Xl;dsimp only;rw[yX (by rw[Zy];decide),yai];rfl) (by omega)
 rw[show bo fU (l.take 0)=[] from rfl,ybf]at q
 have q:Zc (Xl yD) yD (Yp l.length,(0:Int),l)=_:=q;rw[q,ya]
open Classical in
theorem uc{I X:Type}{step:I->yO (I⊕X)}(n:Nat)(st:Nat->I)(ok:Nat->Prop)(f:X)(l:Nat->X)
 (h1:∀k,k < n->(∀j,j < k->ok j)->ok k->step (st k)=ab (.inl (st (k+1)))) (h2:∀k,k < n->(∀j,j < k->ok j)->¬ok k->step (st k)=ab (.inr (l k))) (he:(∀j,j < n->ok j)->step (st n)=ab (.inr f)) (hn:n < 18446744073709551616):
 ∃x,Zc step yD (st 0)=ab x/\(bA n ok/\x=f\/¬bA n ok/\∃k,x=l k):=by
 refine XH (step:=step) n (λk s=>s=st k/\∀j,j < k->ok j) _ (i:=st 0) ⟨rfl,λj h=>by omega⟩ hn ?_ ?_
 .rintro k _ m ⟨rfl,g⟩;by_cases h:ok k
  .left;refine⟨_,h1 k m g h,rfl,λj y=> ?_⟩;by_cases e:j=k
   .rw[e];exact h
   .exact g j (by omega)
  .right;exact⟨_,h2 k m g h,.inr ⟨λq=>h (q k m),k,rfl⟩⟩
 .rintro _ ⟨rfl,g⟩;exact⟨_,he g,.inl ⟨g,rfl⟩⟩
theorem Zvh{K V:Type}[DecidableEq K](k:K)(v:V)(f:K):∀m:yL (K×V),ir (jj m k v) f=if f=k then ab v else ir m f
 |[]=>rfl
 |q::m=>by
  have l:=Zvh k v f m;unfold jj;by_cases h:k=q.1
  .rw[yW h];unfold ir;by_cases g:f=k
   .rw[yW g,yW g]
   .rw[yX g,yX g,yX (by rw[<-h];exact g)]
  .rw[yX h];unfold ir;by_cases j:f=q.1
   .rw[yW j,yW j,yX (by rw[j];exact λq=>h q.symm)]
   .rw[yX j,yX j,l]
def ko(l:yL In):yL (ZK×Bool):=l.foldl (λm x=>jj m x.1 ae) []
theorem ZCN{l:yL In}{k:Nat}{x:In}(h:l[k]? =ab x):ko (l.take (k+1))=jj (ko (l.take k)) x.1 ae:=by
 rw[We h,ko,List.foldl_append];rfl
theorem PB(l:yL In)(p:ZK):∀k,k<=l.length->(ir (ko (l.take k)) p=ab ae/\(∃j y,j < k/\l[j]? =ab y/\y.1=p))\/(ir (ko (l.take k)) p=ad/\∀j y,j < k->l[j]? =ab y->y.1≠p)
 |0,_=>.inr ⟨rfl,λj y h=>by omega⟩
 |k+1,E=>by
  obtain⟨x,g,_⟩:=Zj (l:=l) (k:=k) (by omega);rw[ZCN g,Zvh];by_cases h:p=x.1
  .rw[yW h];exact .inl ⟨rfl,k,x,by omega,g,h.symm⟩
  .rw[yX h];rcases PB l p k (by omega) with⟨m,j,y,z,A,f⟩|⟨m,z⟩
   .exact .inl ⟨m,j,y,by omega,A,f⟩
   .refine .inr ⟨m,λj y A f=> ?_⟩;by_cases e:j=k
    .subst e;rw[g]at f;cases f;exact λq=>h q.symm
    .exact z j y (by omega) f
def lT(w:mR):Prop:=0<=w.1/\w.1 < 4/\w.2.1.length<=12
instance(w:mR):Decidable (lT w):=by unfold lT;infer_instance
theorem ZHh(w:mR):tg yD w=ab (ag (lT w)):=by
 unfold tg;refine(Wh (q:=w.1 < 4/\(w.2.1.length:Int)<=12) (lQ _ _ rfl)).trans (congrArg ab (decide_eq_decide.2 ?_));unfold lT;omega
theorem ZCO(w:mR):VF yD w=ab (ag (lT w)):=by
 unfold VF;refine(Wh (q:=w.1<=3/\(w.2.1.length:Int)<=12) (lQ _ _ rfl)).trans (congrArg ab (decide_eq_decide.2 ?_));unfold lT;omega
def qo(l:yL In)(k:Nat):Prop:=∀x,l[k]? =ab x->(0<=x.1.2/\x.1.2 < 64)/\lT x.2/\∀j y,j < k->l[j]? =ab y->y.1≠x.1
theorem ZEi(t:Tx)(hl:t.1.length<=100):∃x,Zc (Q4 yD) yD (t.1,(t.1.length:Int),(0:Int),t,([]:yL (ZK×Bool)))=ab x/\(bA t.1.length (qo t.1)/\x=.inr (t,ko t.1)\/¬bA t.1.length (qo t.1)/\∃k:Nat,x=.inl (af,t,ko (t.1.take k))):=by
 refine uc t.1.length (λk:Nat=>(t.1,(t.1.length:Int),(k:Int),t,ko (t.1.take k))) (qo t.1) (Sum.inr (t,ko t.1)) (λk=>Sum.inl (af,t,ko (t.1.take k))) ?_ ?_ ?_ (by omega)
 .intro k g _ m;obtain⟨x,f,_⟩:=Zj g;obtain⟨R,I,J⟩:=m x f;unfold Q4;dsimp only;rw[yW (Zw g),Zn f,ya];rcases PB t.1 x.1 k (by omega) with⟨_,j,y,z,M,Q⟩|⟨h,_⟩
  .exact absurd Q (J j y z M)
  .rw[h];unfold py;dsimp only;rw[yX (show¬ag (x.1.2 < 0)=ae by rw[yN];omega),yX (show¬ag (x.1.2 >= 64)=ae by rw[yN];omega),ZHh,ya,yY I,yX (by decide),Zr (by omega),ZCN f]
 .intro k g _ A;obtain⟨x,f,_⟩:=Zj g;unfold Q4;dsimp only;rw[yW (Zw g),Zn f,ya];rcases PB t.1 x.1 k (by omega) with⟨h,_⟩|⟨h,z⟩
  .rw[h];unfold py;dsimp only;rw[yW rfl]
  .rw[h];unfold py;dsimp only;by_cases E:x.1.2 < 0
   .rw[yW (yY E)]
   .rw[yX (show¬ag (x.1.2 < 0)=ae by rw[yN];exact E)];by_cases F:x.1.2 >= 64
    .rw[yW (yY F)]
    .rw[yX (show¬ag (x.1.2 >= 64)=ae by rw[yN];exact F),ZHh,ya];by_cases G:lT x.2
     .refine absurd ?_ A;intro S l;rw[f]at l;cases l;exact⟨⟨by omega,by omega⟩,G,z⟩
     .rw[yZ G,yW (by decide)]
 .intro _;unfold Q4;dsimp only;rw[yX (by rw[Zy];decide),yai]
theorem Zvi(t:Tx){k:Nat}(M:k<=100)(G:k<=t.1.length)(x:In):∃r,Zc (YK yD) yD ((k:Int),(0:Int),t,x)=ab r/\((∀j y,j < k->t.1[j]? =ab y->y.1≠x.1)/\r=.inr ((k:Int),t,x)\/(¬∀j y,j < k->t.1[j]? =ab y->y.1≠x.1)/\r=.inl (af,t,x)):=by
 obtain⟨r,I,J⟩:=uc (step:=YK yD) k (λj:Nat=>((k:Int),(j:Int),t,x)) (λj=>∀y,t.1[j]? =ab y->y.1≠x.1) (.inr ((k:Int),t,x)) (λ_=>.inl (af,t,x)) (by
  intro j g _ z;obtain⟨y,f,_⟩:=Zj (l:=t.1) (k:=j) (by omega);unfold YK;dsimp only;rw[yW (Zw g),Zn f,ya,yX (by rw[yN];exact z y f),Zr (by omega)]) (by
  intro j g _ A;obtain⟨y,f,_⟩:=Zj (l:=t.1) (k:=j) (by omega)
  have h:y.1=x.1:=by
   by_cases h:y.1=x.1
   .exact h
   .refine absurd ?_ A;intro Q m;rw[f]at m;cases m;exact h
  unfold YK;dsimp only;rw[yW (Zw g),Zn f,ya,yW (yY h)]) (by
  intro _;unfold YK;dsimp only;rw[yX (by rw[Zy];decide)]) (by omega)
 refine⟨r,I, ?_⟩;rcases J with⟨E,F⟩|⟨E,_,F⟩
 .exact .inl ⟨λj y g f=>E j g y f,F⟩
 .exact .inr ⟨λq=>E λj g y f=>q j y g f,F⟩
theorem ZEj(t:Tx)(hl:t.1.length<=100):∃x,Zc (Xi yD) yD ((0:Int),t)=ab x/\(bA t.1.length (qo t.1)/\x=.inr t\/¬bA t.1.length (qo t.1)/\∃k:Nat,x=.inl (af,t)):=by
 refine uc t.1.length (λk:Nat=>((k:Int),t)) (qo t.1) (Sum.inr t) (λ_=>Sum.inl (af,t)) ?_ ?_ ?_ (by omega)
 .intro k f _ l;obtain⟨x,g,_⟩:=Zj f;obtain⟨I,F,G⟩:=l x g;unfold Xi;dsimp only;rw[yW (Zw f),Zn g,ya,yX (show¬ag (x.1.2 < 0)=ae by rw[yN];omega),yX (show¬ag (x.1.2 > 63)=ae by rw[yN];omega),ZCO,ya,yY F,yX (by decide)];obtain⟨r,m,⟨_,rfl⟩|⟨h,_⟩⟩:=Zvi t (k:=k) (by omega) (by omega) x
  .rw[m,ya];dsimp only;rw[Zr (by omega)]
  .exact absurd G h
 .intro k f _ y;obtain⟨x,g,_⟩:=Zj f;unfold Xi;dsimp only;rw[yW (Zw f),Zn g,ya];by_cases A:x.1.2 < 0
  .rw[yW (yY A)]
  .rw[yX (show¬ag (x.1.2 < 0)=ae by rw[yN];exact A)];by_cases E:x.1.2 > 63
   .rw[yW (yY E)]
   .rw[yX (show¬ag (x.1.2 > 63)=ae by rw[yN];exact E),ZCO,ya];by_cases z:lT x.2
    .rw[yY z,yX (by decide)];obtain⟨r,m,⟨h,rfl⟩|⟨h,rfl⟩⟩:=Zvi t (k:=k) (by omega) (by omega) x
     .refine absurd ?_ y;intro J j;rw[g]at j;cases j;exact⟨⟨by omega,by omega⟩,z,h⟩
     .rw[m,ya]
    .rw[yZ z,yW (by decide)]
 .intro _;unfold Xi;dsimp only;rw[yX (by rw[Zy];decide)]
theorem ZzB(z:Int):oz yD z=ab (ag (0<=z/\z<=1125899906842624)):=lQ (z >= 0) (z<=1125899906842624) rfl
theorem ZzC{a b:Int}(g:0<=a)(h1:a<=1125899906842624):Qt yD a b=ab (if(0<=b/\b<=1125899906842624)/\a+b<=1125899906842624 then(a+b,ae) else(0,af)):=by
 unfold Qt;rw[ZzB,ya,yY (p:=0<=a/\a<=1125899906842624) ⟨g,h1⟩,yX (show¬(!true)=ae by decide),ZzB,ya];by_cases f:0<=b/\b<=1125899906842624
 .rw[yY f,yX (show¬(!true)=ae by decide),ZJ (z:=1125899906842624 - b) (by omega) (by omega),ZJ (z:=a+b) (by omega) (by omega)];by_cases h:a+b<=1125899906842624
  .rw[yX (show¬ag (a > 1125899906842624 - b)=ae by rw[yN];omega),yW ⟨f,h⟩]
  .rw[yW (show ag (a > 1125899906842624 - b)=ae from yY (by omega)),yX λq=>h q.2]
 .rw[yZ f,yW (show(!false)=ae by decide),yX λq=>f q.1]
structure mY(t:Tx):Prop where
 ins:t.1.length<=70
 outs:t.2.1.length<=70
 iE:∀o,o∈t.2.1->dO o.2
def ZHi(o:Out):Prop:=(0<=o.1/\o.1<=1125899906842624)/\Wg o.2/\gX o.2
def ud(l:yL Out)(k:Nat):Prop:=∀o,l[k]? =ab o->ZHi o/\fq (l.take (k+1))<=1125899906842624
def ue(l:yL Out)(k:Nat):Prop:=∀o,l[k]? =ab o->ZHi o
theorem PC{l:yL Out}:∀k,k<=l.length->(∀j,j < k->ue l j)->0<=fq (l.take k)/\fq (l.take k)<=k*1125899906842624
 |0,_,_=>by simp[fq]
 |k+1,g,h=>by
  obtain⟨o,f,_⟩:=Zj (l:=l) (k:=k) (by omega);have m:=PC k (by omega) λj y=>h j (by omega);have z:=(h k (by omega) o f).1;rw[tY f];omega
theorem ZBs{t:Tx}(hl:mY t)(m:yL (ZK×Bool)):∃x,Zc (Q5 yD) yD ((0:Int),t.2.1,(t.2.1.length:Int),(0:Int),t,m)=ab x/\(bA t.2.1.length (ud t.2.1)/\x=.inr (t,m)\/¬bA t.2.1.length (ud t.2.1)/\∃k:Nat,x=.inl (af,t,m)):=by
 have S:=hl.outs
 have J:∀k,k<=t.2.1.length->(∀j,j < k->ud t.2.1 j)->0<=fq (t.2.1.take k)/\fq (t.2.1.take k)<=1125899906842624:=by
  intro k g h;refine⟨(PC k g λj y o f=>(h j y o f).1).1, ?_⟩
  cases k with
  |zero=>simp[fq]
  |succ k=>
   obtain⟨o,f,_⟩:=Zj (l:=t.2.1) (k:=k) (by omega);exact(h k (by omega) o f).2
 refine uc t.2.1.length (λk:Nat=>(fq (t.2.1.take k),t.2.1,(t.2.1.length:Int),(k:Int),t,m)) (ud t.2.1) (Sum.inr (t,m)) (λ_=>Sum.inl (af,t,m)) ?_ ?_ ?_ (by omega)
 .intro k g y A;obtain⟨o,f,E⟩:=Zj g;obtain⟨⟨Q,R⟩,M⟩:=A o f;rw[tY f]at M;obtain⟨s0,s1⟩:=J k (by omega) y;obtain⟨b,F,G⟩:=QO (hl.iE o E);unfold Q5;dsimp only;rw[yW (Zw g),Zn f,ya,ZzC s0 s1,yW ⟨Q,M⟩,ya,yX (by simp),F,ya,G.2 R,yX (by decide),Zr (by omega),tY f]
 .intro k g y I;obtain⟨o,f,E⟩:=Zj g;obtain⟨s0,s1⟩:=J k (by omega) y;obtain⟨b,F,G⟩:=QO (hl.iE o E);unfold Q5;dsimp only;rw[yW (Zw g),Zn f,ya,ZzC s0 s1,ya];by_cases c:(0<=o.1/\o.1<=1125899906842624)/\fq (t.2.1.take k)+o.1<=1125899906842624
  .rw[yW c,yX (by simp),F,ya]
   cases b with
   |true=>
    refine absurd ?_ I;intro T z;rw[f]at z;cases z;rw[tY f]
    exact⟨⟨c.1,G.1 rfl⟩,c.2⟩
   |false=>rw[yW (by decide)]
  .rw[yX c,yW (by simp)]
 .intro _;unfold Q5;dsimp only;rw[yX (by rw[Zy];decide)]
theorem ZBt{t:Tx}(hl:mY t):∃x,Zc (Xj yD) yD ((0:Int),(0:Int),t)=ab x/\(bA t.2.1.length (ue t.2.1)/\x=.inr (fq t.2.1,t)\/¬bA t.2.1.length (ue t.2.1)/\∃k:Nat,x=.inl (af,t)):=by
 have M:=hl.outs;refine uc t.2.1.length (λk:Nat=>(fq (t.2.1.take k),(k:Int),t)) (ue t.2.1) (Sum.inr (fq t.2.1,t)) (λ_=>Sum.inl (af,t)) ?_ ?_ ?_ (by omega)
 .intro k g E j;obtain⟨o,f,l⟩:=Zj g;obtain⟨Q,J⟩:=j o f;obtain⟨s0,s1⟩:=PC k (by omega) E;obtain⟨b,m,y⟩:=ub (hl.iE o l);have F:(k:Int)<=70:=by omega
  unfold Xj;dsimp only;rw[yW (Zw g),Zn f,ya,yX (show¬ag (o.1 < 0)=ae by rw[yN];omega),yX (show¬ag (o.1 > 1125899906842624)=ae by rw[yN];omega),m,ya,y.2 J,yX (by decide),Zr (by omega),tY f,ZJ (z:=fq (t.2.1.take k)+o.1) (by omega) (by omega)]
 .intro k g E A;obtain⟨o,f,l⟩:=Zj g;obtain⟨b,m,y⟩:=ub (hl.iE o l);unfold Xj;dsimp only;rw[yW (Zw g),Zn f,ya];by_cases G:o.1 < 0
  .rw[yW (yY G)]
  .rw[yX (show¬ag (o.1 < 0)=ae by rw[yN];exact G)];by_cases I:o.1 > 1125899906842624
   .rw[yW (yY I)]
   .rw[yX (show¬ag (o.1 > 1125899906842624)=ae by rw[yN];exact I),m,ya]
    cases b with
    |true=>
     refine absurd ?_ A;intro R h;rw[f]at h;cases h
     exact⟨⟨by omega,by omega⟩,y.1 rfl⟩
    |false=>rw[yW (by decide)]
 .intro _;unfold Xj;dsimp only;rw[yX (by rw[Zy];decide),yai]
theorem ZzE{l:yL Out}(hl:l.length<=70):bA l.length (ud l)↔bA l.length (ue l)/\fq l<=1125899906842624:=by
 constructor
 .intro h;refine⟨λk g o f=>(h k g o f).1, ?_⟩
  cases A:l.length with
  |zero=>
   rw[List.eq_nil_of_length_eq_zero A]
   simp[fq]
  |succ k=>
   obtain⟨o,f,_⟩:=Zj (l:=l) (k:=k) (by omega);have:=(h k (by omega) o f).2
   rwa [show k+1=l.length by omega,yai]at this
 .rintro⟨y,I⟩ k g o f;refine⟨y k g o f, ?_⟩
  have E:∀e,e∈l->0<=e.1:=by
   intro e m;obtain⟨j,z,F⟩:=ybg m;exact(y j z e (by rw[yab z,F])).1.1
  have hs:fq l=fq (l.take (k+1))+fq (l.drop (k+1)):=by
   have q:=congrArg fq (ybb (k+1) l);rw[<-q];unfold fq;rw[yaw,List.sum_append]
  have J:0<=fq (l.drop (k+1)):=ZG7 (by
   intro x G;obtain⟨e,m,rfl⟩:=List.mem_map.1 G;exact E e (List.mem_of_mem_drop m))
  omega
theorem PD{t:Tx}(hl:mY t):∃b:Bool,Q6 yD t=ab b/\W4 yD t=ab b/\(b=ae->ql t):=by
 unfold Q6 W4;by_cases Q:(t.1.length:Int) < 1
 .rw[yW (yY Q),yW (yY Q)];exact⟨af,rfl,rfl,λh=>by cases h⟩
 have m:¬ag ((t.1.length:Int) < 1)=ae:=by rw[yN];exact Q
 rw[yX m,yX m];by_cases R:(t.1.length:Int) > 64
 .rw[yW (yY R),yW (yY R)];exact⟨af,rfl,rfl,λh=>by cases h⟩
 have z:¬ag ((t.1.length:Int) > 64)=ae:=by rw[yN];exact R
 rw[yX z,yX z];by_cases S:(t.2.1.length:Int) > 64
 .rw[yW (yY S),yW (yY S)];exact⟨af,rfl,rfl,λh=>by cases h⟩
 have A:¬ag ((t.2.1.length:Int) > 64)=ae:=by rw[yN];exact S
 rw[yX A,yX A];by_cases T:t.2.2 < 0
 .rw[yW (yY T),yW (yY T)];exact⟨af,rfl,rfl,λh=>by cases h⟩
 have E:¬ag (t.2.2 < 0)=ae:=by rw[yN];exact T
 rw[yX E,yX E];have h70:=hl.ins;obtain⟨x,U,W⟩:=ZEi t (by omega);obtain⟨y,y1,F⟩:=ZEj t (by omega);rw[U,y1,ya,ya];rcases W with⟨M,rfl⟩|⟨M,k,rfl⟩
 .rcases F with⟨_,rfl⟩|⟨f,_⟩
  .dsimp only;obtain⟨x,U,W⟩:=ZBs hl (ko t.1);obtain⟨y,y1,F⟩:=ZBt hl;rw[U,y1,ya,ya];rcases W with⟨X,rfl⟩|⟨X,k,rfl⟩
   .obtain⟨G,Y⟩:=(ZzE hl.outs).1 X;rcases F with⟨_,rfl⟩|⟨g,_⟩
    .dsimp only;rw[yY Y];refine⟨ae,rfl,rfl,λ_=>⟨by omega,by omega,by omega,by omega,λx hx=> ?_,λo ho=> ?_⟩⟩
     .obtain⟨j,I,Z⟩:=ybg hx;obtain⟨J,l,_⟩:=M j I x (by rw[yab I,Z]);exact⟨J.1,J.2,l.1,l.2.1,l.2.2⟩
     .obtain⟨j,I,Z⟩:=ybg ho;obtain⟨J,l⟩:=G j I o (by rw[yab I,Z]);exact⟨J.1,J.2,l.1,l.2⟩
    .exact absurd G g
   .rcases F with⟨g,rfl⟩|⟨_,_,rfl⟩
    .dsimp only;rw[yZ (p:=fq t.2.1<=1125899906842624) λq=>X ((ZzE hl.outs).2 ⟨g,q⟩)];exact⟨af,rfl,rfl,λh=>by cases h⟩
    .exact⟨af,rfl,rfl,λh=>by cases h⟩
  .exact absurd M f
 .rcases F with⟨f,_⟩|⟨_,_,rfl⟩
  .exact absurd f M
  .exact⟨af,rfl,rfl,λh=>by cases h⟩
theorem ZEk{t:Tx}(M:mW t)(h:ql t):OF yD t=ab (iU t):=by
 obtain⟨f,outs,g⟩:=t;obtain⟨w1,F⟩:=M;obtain⟨t1,t2,t3,t4,t5,t6⟩:=h;dsimp only at w1 F t1 t2 t3 t4 t5 t6;have T:=ZC (n:=f.length) (by omega);have U:=ZC (n:=outs.length) (by omega);have G:∀k,(bo eV (f.take k)).length<=64*41:=Vh (λx m=>zC (w1 x m) (t5 x m)) t2;have co:∀k,(bo fL (outs.take k)).length<=64*551:=Vh (λx m=>zM (t6 x m)) t3;have z:=G f.length;rw[yai]at z;have A:=co outs.length;rw[yai]at A;unfold OF;dsimp only;rw[kT (by omega) (by omega) (by simp),ya,yz,yat]
 have q:=Zz (step:=Xm yD) f.length (λk:Nat=>(Yp f.length++bo eV (f.take k),(k:Int),(f,outs,g))) (x:=(Yp f.length++bo eV f,(f,outs,g))) (by
  intro k j;obtain⟨e,l,y⟩:=Zj j;have Q:=G k;have E:=w1 e y;have I:=t5 e y;unfold Xm;dsimp only;rw[yW (Zw j),Zn l,ya,Zzy (by rw[yl];omega) E,ya,ya,kT I.1 (by have:=I.2.1;omega) (by simp only[yl];omega),ya,Zr (by omega),VO l];unfold eV;simp only[yac]) (by
  unfold Xm;dsimp only;rw[yX (by rw[Zy];decide),yai]) (by omega)
 rw[show bo eV (f.take 0)=[] from rfl,ybf]at q
 have q:Zc (Xm yD) yD (Yp f.length,(0:Int),(f,outs,g))=_:=q;rw[q,ya];dsimp only;rw[kT (by omega) (by omega) (by rw[yl];omega),ya,yat]
 have p:=Zz (step:=Xn yD) outs.length (λk:Nat=>(Yp f.length++bo eV f++Yp outs.length++bo fL (outs.take k),(k:Int),(f,outs,g))) (x:=(Yp f.length++bo eV f++Yp outs.length++bo fL outs,(f,outs,g))) (by
  intro k j;obtain⟨e,l,y⟩:=Zj j;have Q:=co k;obtain⟨R,W,J,S⟩:=t6 e y;have X:=qm J;have Y:=ZC (n:=e.1.toNat) (by omega);unfold Xn;dsimp only;rw[yW (Zw j),Zn l,ya,kT R (by omega) (by simp only[yl];omega),ya,ya,ZzA J S,ya,Zxi (by simp only[yl];omega) (by omega),ya,Zr (by omega),VO l];unfold fL;simp only[yac]) (by
  unfold Xn;dsimp only;rw[yX (by rw[Zy];decide),yai]) (by omega)
 rw[show bo fL (outs.take 0)=[] from rfl,ybf]at p
 have p:Zc (Xn yD) yD (Yp f.length++bo eV f++Yp outs.length,(0:Int),(f,outs,g))=_:=p;rw[p,ya];dsimp only;rw[kT t4 F (by simp only[yl];omega),ya];unfold iU;simp only[yac]
theorem Zvj{t:Tx}(h:(iU t).length<=40000):∀x,x∈[iU t]->x.length<=60000:=λx f=>by
 rw[List.mem_singleton.1 f];omega
theorem ZEl{t:Tx}(hl:mY t)(f:mW t):∃n,eC yD t=ab n/\zw yD t=ab n/\n.length=32:=by
 obtain⟨b,j,l,m⟩:=PD hl;unfold eC zw;rw[j,l,ya,ya]
 cases b with
 |false=>exact⟨_,rfl,rfl,rfl⟩
 |true=>
  have h:=m rfl;obtain⟨y,g⟩:=OP f h;rw[yX (by decide),yX (by decide),y,ZEk f h,ya,ya,OZ (by decide) (by simp) (Zvj g),ZJv (by decide) (by simp) (Zvj g)];exact⟨_,rfl,rfl,Sha.KL _⟩
def fk(l:yL yB):Nat->Nat
 |0=>0
 |k+1=>fk l k*256+((l[k]?).map UInt8.toNat).getD 0
theorem PE(l:yL yB):∀k,fk l k < 256 ^ k
 |0=>by simp[fk]
 |k+1=>by
  have:=PE l k
  have h:((l[k]?).map UInt8.toNat).getD 0 < 256:=by
   cases l[k]? with
   |none=>simp
   |some d=>exact d.toNat_lt
  rw[fk,Nat.pow_succ];omega
theorem ZCP(n:Nat):∀k,k<=8->n < 18446744073709551616->fk (fz n) k=n / 2 ^ (64 - 8*k)
 |0,_,h=>by rw[fk,Nat.div_eq_of_lt (by omega)]
 |k+1,g,h=>by
  rw[fk,ZCP n k (by omega) h,zz n (by omega)];have e:(64 - 8*k)=(56 - 8*k)+8:=by omega
  have f:64 - 8*(k+1)=56 - 8*k:=by omega
  rw[e,f,Nat.pow_add, <-Nat.div_div_eq_div_mul];simp;omega
def VP(r:Zf)(n:Nat):yL yB×Zf:=if r.2=ae\/r.1.length < n then([],([],ae)) else(r.1.take n,(r.1.drop n,r.2))
theorem ZCQ{n:Nat}{z:Int}(f:0<=z)(h:z<=(n:Int)):dX n (ab z) ad=ae:=by simp[dX,f,h]
theorem ZJx{n:Nat}{z:Int}(f:0<=z)(h:z<=(n:Int)):dX n ad (ab z)=ae:=by simp[dX,f,h]
theorem ZzF{l:yL yB}(h:l.length<=1000000000):Yi yD l=ab l:=by
 unfold Yi;rw[yW (ZZ (by omega) (by omega))]
theorem PF{z:Int}{r:Zf}(j:0<=z)(h:r.1.length<=2000000):XT yD z r=ab (VP r z.toNat):=by
 obtain⟨b,no⟩:=r;obtain⟨n,rfl⟩:=Int.eq_ofNat_of_zero_le j;unfold XT VP WF;dsimp only at h ⊢;rw[yat];by_cases f:no=ae
 .rw[yW f,ya,yW (.inl f)]
 by_cases g:b.length < n
 .rw[yX f,yW (yY (by omega)),ya,yW (.inr g)]
 rw[yX f,yX (dj (by omega)),yW (ZJx (by omega) (by omega)),ZzF (by rw[yaa];omega),ya,yW (ZCQ (by omega) (by omega)),yX (by rintro(h|h);exact f h;exact g h)]
theorem uf(r:Zf)(n:Nat):(VP r n).1.length<=n/\(VP r n).2.1.length<=r.1.length:=by
 unfold VP;split
 .simp
 .simp;omega
theorem PG{b r:yL yB}{n:Nat}(h:b.length=n):VP (b++r,af) n=(b,(r,af)):=by
 subst h;unfold VP;rw[yX (by simp)];simp
def iF(r:Zf):yL yB×Zf:=((VP r 32).1++yx (32 - (VP r 32).1.length) 0,(VP r 32).2)
theorem ZEm(r:Zf):(iF r).1.length=32/\(iF r).2.1.length<=r.1.length:=by
 have f:=uf r 32;unfold iF;rw[yl,List.length_replicate];exact⟨by omega,f.2⟩
theorem ZHj{b r:yL yB}(h:b.length=32):iF (b++r,af)=(b,(r,af)):=by
 unfold iF;rw[PG h,h];simp
def ju(r:Zf):yU×Zf:=(yan (fk (VP r 8).1 (VP r 8).1.length),(VP r 8).2)
theorem ZHk{l:yL yB}{k:Nat}{d:yB}(g:k < 8)(f:l[k]? =ab d):(V5 (yan (fk l k)) 8)|||(yan d.toNat)=yan (fk l (k+1)):=by
 have h:=PE l k;have j:256 ^ k<=256 ^ 7:=Nat.pow_le_pow_right (by omega) (by omega);have m:=d.toNat_lt;apply UInt64.toNat_inj.1;unfold V5
 rw[UInt64.toNat_or,ybi,ybi,ybi,ybi,yas (a:=fk l k) (by omega),yas (a:=d.toNat) (by omega),yas (a:=fk l k*2 ^ 8) (by omega),fk,f,
  ybo (fk l k) (2 ^ 8), <-yda (by omega)]
 simp;omega
theorem kU{r:Zf}(h:r.1.length<=2000000):Y2 yD r=ab (ju r):=by
 unfold Y2 ju;rw[PF (by omega) h,ya];have f:=uf r 8;rw[show(8:Int).toNat=8 from rfl]
 generalize VP r 8=q at f;obtain⟨l,s⟩:=q;dsimp only at f ⊢
 rw[show((0:yU),l,(l.length:Int),(0:Int),s)=(λk:Nat=>(yan (fk l k),l,(l.length:Int),(k:Int),s)) 0 from rfl,
  Zz (x:=(yan (fk l l.length),s)) l.length (λk:Nat=>(yan (fk l k),l,(l.length:Int),(k:Int),s)) ?_ ?_ (by omega),ya]
 .intro k g;obtain⟨e,j,_⟩:=Zj g;unfold W2;dsimp only;rw[yW (Zw g),Zn j,ya,ZHk (by omega) j,Zr (by omega)]
 .unfold W2;dsimp only;rw[yX (by rw[Zy];decide)]
theorem ug(r:Zf):(ju r).2.1.length<=r.1.length:=(uf r 8).2
theorem uh(x:yU)(r:yL yB):ju (fz x.toNat++r,af)=(x,(r,af)):=by
 unfold ju;rw[PG (YM _),YM];dsimp only;rw[ZCP _ 8 (by omega) (ybv _)];simp
def Wu(b:yL yB):Nat->Nat->Nat->Bool×Nat×Nat
 |0,k,_=>(af,0,k)
 |f+1,k,n=>match b[k]? with
  |none=>(af,0,k)
  |some d=>if 8 < k\/(0 < k/\d.toNat=0) then(af,0,k) else if d.toNat < 128 then(ae,n+d.toNat % 128*128 ^ k,k+1) else Wu b f (k+1) (n+d.toNat % 128*128 ^ k)
theorem AB{b:yL yB}{f k n:Nat}(h:b.length<=k):Wu b (f+1) k n=(af,0,k):=by
 simp[Wu,List.getElem?_eq_none h]
theorem AC{b:yL yB}{f k n:Nat}{d:yB}(g:b[k]? =ab d)(h:8 < k):Wu b (f+1) k n=(af,0,k):=by
 simp[Wu,g,h]
theorem AD{b:yL yB}{f k n:Nat}{d:yB}(g:b[k]? =ab d)(_:¬8 < k)(h:0 < k/\d.toNat=0):Wu b (f+1) k n=(af,0,k):=by
 rw[Wu,g];exact yW (.inr h)
theorem ui{b:yL yB}{f k n:Nat}{d:yB}(g:b[k]? =ab d)(h2:¬8 < k)(h3:¬(0 < k/\d.toNat=0))(h4:d.toNat < 128):Wu b (f+1) k n=(ae,n+d.toNat % 128*128 ^ k,k+1):=by
 rw[Wu,g];show(if 8 < k\/(0 < k/\d.toNat=0) then _ else _)=_
 rw[yX (by rintro(h|h);exact h2 h;exact h3 h),yW h4]
theorem uj{b:yL yB}{f k n:Nat}{d:yB}(g:b[k]? =ab d)(h2:¬8 < k)(h3:¬(0 < k/\d.toNat=0))(h4:¬d.toNat < 128):Wu b (f+1) k n=Wu b f (k+1) (n+d.toNat % 128*128 ^ k):=by
 rw[Wu,g];show(if 8 < k\/(0 < k/\d.toNat=0) then _ else _)=_
 rw[yX (by rintro(h|h);exact h2 h;exact h3 h),yX h4]
theorem ZzG(n k:Nat)(d:yB)(hn:n < 128 ^ k)(g:k<=8):n+d.toNat % 128*128 ^ k < 9223372036854775808:=by
 have h:d.toNat % 128*128 ^ k<=127*128 ^ k:=ycb _ (by omega);have f:128 ^ (k+1)<=128 ^ 9:=Nat.pow_le_pow_right (by omega) (by omega);rw[Nat.pow_succ]at f;omega
theorem Zvk(n k:Nat)(d:yB)(hn:n < 128 ^ k):n+d.toNat % 128*128 ^ k < 128 ^ (k+1):=by
 have f:d.toNat % 128*128 ^ k<=127*128 ^ k:=ycb _ (by omega);rw[Nat.pow_succ];omega
theorem ZzH(b:yL yB):∀(f k n:Nat),(Wu b f k n).1=ae->(Wu b f k n).2.2<=b.length
 |0,k,n,h=>by simp[Wu]at h
 |f+1,k,n,h=>by
  by_cases m:b.length<=k
  .rw[AB m]at h;cases h
  have g:=yab (Nat.lt_of_not_le m);by_cases j:8 < k
  .rw[AC g j]at h;cases h
  by_cases l:0 < k/\b[k].toNat=0
  .rw[AD g j l]at h;cases h
  by_cases y:b[k].toNat < 128
  .rw[ui g j l y];simp;omega
  .rw[uj g j l y]at h ⊢;exact ZzH b f _ _ h
theorem ZzI(b:yL yB):∀(f k n:Nat),n < 128 ^ k->k<=9->(Wu b f k n).2.1<=9223372036854775807
 |0,k,n,h,_=>by simp[Wu]
 |f+1,k,n,h,z=>by
  by_cases m:b.length<=k
  .rw[AB m];simp
  have g:=yab (Nat.lt_of_not_le m);by_cases j:8 < k
  .rw[AC g j];simp
  by_cases l:0 < k/\b[k].toNat=0
  .rw[AD g j l];simp
  by_cases y:b[k].toNat < 128
  .rw[ui g j l y];have:=ZzG n k b[k] h (by omega);show n+b[k].toNat % 128*128 ^ k<=_;omega
  .rw[uj g j l y];exact ZzI b f _ _ (Zvk n k _ h) (by omega)
theorem ZCR{a:yL yB}{k:Nat}{x:yB}{r:yL yB}(h:a.length=k):(a++x::r)[k]? =ab x:=by
 rw[yaq (by omega),h,Nat.sub_self];rfl
theorem ZnY{n:Nat}(h:n < 256):(yap n).toNat=n:=by simp[yas h]
theorem Zvl:∀(f n:Nat)(pre yK:yL yB)(k acc:Nat),pre.length=k->k+(Yp n).length<=9->(Yp n).length<=f->(0 < k->0 < n)->
 Wu (pre++(Yp n++yK)) f k acc=(ae,acc+n*128 ^ k,k+(Yp n).length)
 |0,n,pre,yK,k,acc,_,_,j,_=>by
  have:=List.length_pos_iff.2 (ZCK n);omega
 |f+1,n,pre,yK,k,acc,l,g,j,A=>by
  by_cases h:n < 128
  .rw[oJ h]at g ⊢;have m:(pre++([yap n]++yK))[k]? =ab (yap n):=ZCR l;have e:(yap n).toNat=n:=ZnY (by omega);simp at g;rw[ui m (by omega) (by rw[e];omega) (by rw[e];exact h),e,yas h];rfl
  .rw[tU h]at g j ⊢;have m:(pre++((yap (n % 128+128)::Yp (n / 128))++yK))[k]? =ab (yap (n % 128+128)):=ZCR l;have e:(yap (n % 128+128)).toNat=n % 128+128:=ZnY (by omega);simp only[yaf]at g j ⊢;rw[uj m (by omega) (by rw[e];omega) (by rw[e];omega),e];have:=Zvl f (n / 128) (pre++[yap (n % 128+128)]) yK (k+1) (acc+(n % 128+128) % 128*128 ^ k) (by simp[l]) (by omega) (by omega) (by omega);rw[yac]at this;simp only[List.cons_append,yz]at this ⊢;rw[this];have y:n=n % 128+128*(n / 128):=by omega
   have z:(n % 128+128) % 128=n % 128:=by omega
   rw[z,Nat.pow_succ];refine Prod.ext rfl (Prod.ext ?_ (by simp;omega));show acc+n % 128*128 ^ k+n / 128*(128 ^ k*128)=acc+n*128 ^ k;rw[show n / 128*(128 ^ k*128)=128*(n / 128)*128 ^ k by rw[ybo (128 ^ k) 128, <-Nat.mul_assoc,ybo (n / 128) 128],Nat.add_assoc, <-Nat.add_mul, <-y]
def WQ(r:Zf):Int×Zf:=if(Wu r.1 10 0 0).1=ae then(((Wu r.1 10 0 0).2.1:Int),(r.1.drop (Wu r.1 10 0 0).2.2,r.2)) else(0,([],ae))
theorem kV{z:Int}(f:0<=z)(hz:z<=9223372036854775807)(yK:yL yB):WQ (Yp z.toNat++yK,af)=(z,(yK,af)):=by
 obtain⟨n,rfl⟩:=Int.eq_ofNat_of_zero_le f;have g:=ZC (n:=n) (by omega);have:=Zvl 10 n [] yK 0 0 rfl (by omega) (by omega) (by omega);simp only[yz,Nat.zero_add,Nat.pow_zero,Nat.mul_one]at this;unfold WQ;rw[yat];dsimp only;rw[this];simp
theorem QP(r:Zf):0<=(WQ r).1/\(WQ r).1<=9223372036854775807/\(WQ r).2.1.length<=r.1.length:=by
 unfold WQ;split
 .have:=ZzI r.1 10 0 0 (by omega) (by omega);refine⟨by dsimp only;omega,by dsimp only;omega, ?_⟩;rw[List.length_drop];omega
 .simp
theorem ZHl{n k:Nat}{d:yB}(hn:n < 128 ^ k)(g:k<=8):bits .or .i64 (n:Int) (wi (((d % 128).toNat:Int)*2 ^ (min (wi (7*(k:Int))).toNat 64)))=((n+d.toNat % 128*128 ^ k:Nat):Int):=by
 have h:(wi (7*(k:Int)))=((7*k:Nat):Int):=by rw[ZJ (by omega) (by omega)];omega
 have j:min ((7*k:Nat):Int).toNat 64=7*k:=by omega
 have f:128 ^ k=2 ^ (7*k):=by rw[Nat.pow_mul]
 have m:=ZzG n k d hn g
 have l:((d % 128).toNat:Int)*2 ^ (7*k)=((d.toNat % 128*128 ^ k:Nat):Int):=by
  rw[f,UInt8.toNat_mod]
  push_cast
  rfl
 rw[h,j,l,ZJ (by omega) (by omega)];refine Go.Ev.uK (op:=.or) (k:=.i64) ?_ (by omega) ⟨by show-9223372036854775808<=_;omega,by show _<=9223372036854775807;omega⟩ (by omega) ⟨by show-9223372036854775808<=_;omega,by show _<=9223372036854775807;omega⟩ ⟨by show-9223372036854775808<=_;omega,by show _<=9223372036854775807;omega⟩;show ab _=ab _;congr 1;simp only[yat];rw[f]at hn ⊢;have:=yda hn (d.toNat % 128);rw[ybo,Nat.or_comm, <-this];omega
theorem AE{b:yL yB}{no:Bool}{k:Nat}(hb:b.length<=2000000)(h:b.length<=k\/8 < k\/(0 < k/\b[k]? =ab 0)):XE yD (k:Int) (b,no)=ab (ae,(k:Int),(b,no)):=by
 unfold XE;dsimp only;by_cases f:b.length<=k
 .rw[yW (yY (by omega))]
 rw[yX (dj (by omega))];by_cases g:8 < k
 .rw[yW (yY (by omega))]
 rw[yX (dj (by omega))];rcases h with h|h|⟨h,j⟩
 .exact absurd h f
 .exact absurd h g
 rw[yW (yY (by omega)),Zn j,ya];rfl
theorem ZEn{b:yL yB}{no:Bool}{k:Nat}{d:yB}(hb:b.length<=2000000)(f:b[k]? =ab d)(h2:¬8 < k)(h3:¬(0 < k/\d.toNat=0)):XE yD (k:Int) (b,no)=ab (af,(k:Int),(b,no)):=by
 unfold XE;have j:k < b.length:=(yu.1 f).1;dsimp only;rw[yX (dj (by omega)),yX (dj (by omega))];by_cases g:0 < k
 .rw[yW (yY (by omega)),Zn f,ya]
  have:(d==0)=af:=by
   rw[beq_eq_false_iff_ne];intro h;exact h3 ⟨g,by rw[h];rfl⟩
  rw[this]
 .rw[yX (dj (by omega))]
theorem ZzJ{b:yL yB}{no:Bool}(hb:b.length<=2000000):∀(f k n m:Nat),k+f=10->f < m->n < 128 ^ k->
 Zc (X4 yD) m ((n:Int),(b,no),(k:Int))=ab (if(Wu b f k n).1=ae then .inr (((Wu b f k n).2.1:Int),(b,no),((Wu b f k n).2.2:Int)) else .inl ((0:Int),([],ae),((Wu b f k n).2.2:Int)))
 |f,k,n,0,_,h,_=>by omega
 |0,k,n,m+1,h,_,_=>by
  unfold Zc X4;dsimp only;rw[AE hb (.inr (.inl (by omega))),ya]
  rfl
 |f+1,k,n,m+1,h,G,E=>by
  unfold Zc X4;dsimp only;by_cases F:b.length<=k
  .rw[AB F,AE hb (.inl F),ya];rfl
  obtain⟨d,g,_⟩:=Zj (l:=b) (k:=k) (by omega);by_cases j:8 < k
  .rw[AC g j,AE hb (.inr (.inl j)),ya];rfl
  by_cases y:0 < k/\d.toNat=0
  .rw[AD g j y,AE hb (.inr (.inr ⟨y.1,by rw[g,show d=0 from UInt8.toNat_inj.1 y.2]⟩)),ya]
   rfl
  rw[ZEn hb g j y,ya];dsimp only
  rw[yX (by decide),Zn g,ya,ZHl E (by omega),
   yW (yY (by rw[ZJ (by omega) (by omega)];omega)),Zr (by omega)]
  have A:ag (d < 128)=ag (d.toNat < 128):=by
   rw[Bool.eq_iff_iff,yN,yN,UInt8.lt_iff_toNat_lt];rfl
  rw[A];by_cases z:d.toNat < 128
  .rw[ui g j y z,yW (yY z)];rfl
  .rw[uj g j y z,yX (by rw[yN];exact z)];exact ZzJ hb f (k+1) _ m (by omega) (by omega) (Zvk n k d E)
theorem VH{r:Zf}(h:r.1.length<=2000000):Z0 yD r=ab (WQ r):=by
 obtain⟨b,no⟩:=r;unfold Z0 WQ;dsimp only at h ⊢;have:=ZzJ (no:=no) h 10 0 0 yD (by omega) (by rw[jW];omega) (by omega);rw[show((0:Nat):Int)=0 from rfl]at this
 rw[this,ya];by_cases f:(Wu b 10 0 0).1=ae
 .have g:=ZzH b 10 0 0 f;rw[yW f,yW f];dsimp only;rw[yW (ZCQ (by omega) (by omega)),yat]
 .rw[yX f,yX f]
def QQ(r:Zf):yL yB×Zf:=if(WQ r).2.2=ae then([],(WQ r).2) else VP (WQ r).2 (WQ r).1.toNat
theorem ZBv(r:Zf):(QQ r).1.length<=r.1.length/\(QQ r).2.1.length<=r.1.length:=by
 unfold QQ;have f:=QP r;split
 .exact⟨by simp,f.2.2⟩
 .have g:=uf (WQ r).2 (WQ r).1.toNat
  refine⟨?_,by omega⟩;unfold VP;split
  .simp
  .simp only[yaa];omega
theorem ZEo{c:yL yB}(hc:c.length<=2000000)(yK:yL yB):QQ (Yp c.length++(c++yK),af)=(c,(yK,af)):=by
 unfold QQ;have:=kV (z:=(c.length:Int)) (by omega) (by omega) (c++yK);rw[yat]at this;rw[this,yX (by simp),yat,PG rfl]
theorem AF{b:yL yB}(h:b.length<=2000000):tG yD b=ab (b,af):=by
 unfold tG;rw[ZzF (by omega),ya]
theorem uk{α:Type}{l:yL α}{k:Nat}{e:α}(h:l[k]? =ab e):l.drop k=e::l.drop (k+1):=by
 obtain⟨f,g⟩:=yu.1 h;rw[List.drop_eq_getElem_cons f,g]
theorem ul{α:Type}{f:α->yL yB}{l:yL α}{k:Nat}{e:α}(h:l[k]? =ab e):bo f (l.drop k)=f e++bo f (l.drop (k+1)):=by
 rw[uk h,OL]
theorem Xo{α:Type}{f:α->yL yB}{c n:Nat}{l:yL α}(h:∀x,x∈l->(f x).length<=c)(hn:l.length<=n)(k:Nat):(bo f (l.drop k)).length<=n*c:=by
 refine ybt (OM λx g=>h x (List.mem_of_mem_drop g)) (ycb c ?_);rw[List.length_drop];omega
theorem ZEp{a b:yL yB}(h:a.length<=2000000):∃r,Z5 yD a b=ab r:=by
 unfold Z5;by_cases j:a.length=b.length
 .rw[yX (by simp[j])]
  obtain⟨x,m,_⟩:=XH (step:=ZE yD) a.length (λk s=>s=(a,b,(a.length:Int),(k:Int))) (λ_=>True) (i:=(a,b,(a.length:Int),(0:Int))) rfl (by omega) (by
   rintro k _ g rfl;obtain⟨e,z,_⟩:=Zj g;obtain⟨f,A,_⟩:=Zj (l:=b) (k:=k) (by omega);unfold ZE;dsimp only;rw[yW (Zw g),Zn z,ya,Zn A,ya,Zr (by omega)];split
   .right;exact⟨_,rfl,aw⟩
   .left;exact⟨_,rfl,rfl⟩) (by
   rintro _ rfl;unfold ZE;dsimp only;rw[yX (by rw[Zy];decide)];exact⟨_,rfl,aw⟩)
  rw[m,ya]
  cases x with
  |inl y=>exact⟨_,rfl⟩
  |inr y=>exact⟨_,rfl⟩
 .rw[yW (by simp;omega)];exact⟨_,rfl⟩
theorem Zte{a:yL yB}(h:a.length<=2000000):Z5 yD a a=ab ae:=by
 unfold Z5;rw[yX (by simp),show(a,a,(a.length:Int),(0:Int))=(λk:Nat=>(a,a,(a.length:Int),(k:Int))) 0 from rfl,Zz (x:=.inr ()) a.length (λk:Nat=>(a,a,(a.length:Int),(k:Int))) ?_ ?_ (by omega),ya]
 .intro k f;obtain⟨e,g,_⟩:=Zj f;unfold ZE;dsimp only;rw[yW (Zw f),Zn g,ya,ya,Zr (by omega),yX (by simp)]
 .unfold ZE;dsimp only;rw[yX (by rw[Zy];decide)]
theorem ZEq{b:yL yB}{n i:Int}{l:Z4}{yK:yL yB}{acc:yL ZR}{i1 i2:Int}{u:yU}{ks:yL yU}(j:ks.length<=12)(m:yK.length<=100000):
 Zc (XG yD) yD (b,n,i,(ks.length:Int),(0:Int),l,(bo ik ks++yK,af),acc,i1,i2,u,([]:yL yU))=ab (b,n,i,l,(yK,af),acc,i1,i2,u,ks):=by
 refine Zz ks.length (λk:Nat=>(b,n,i,(ks.length:Int),(k:Int),l,(bo ik (ks.drop k)++yK,af),acc,i1,i2,u,ks.take k)) ?_ ?_ (by omega)
 .intro k g;obtain⟨e,h,_⟩:=Zj g;have y:=Xo (f:=ik) (c:=8) (λx _=>Nat.le_of_eq (YM _)) j k;unfold XG;dsimp only;rw[yW (Zw g),kU (by dsimp only;rw[yl];omega),ya,ul h,yac];unfold ik;rw[uh,yW (ZZ (by rw[yaa];omega) (by rw[yaa];omega)),Zr (by omega),We h]
 .unfold XG;dsimp only;rw[yX (by rw[Zy];decide),List.drop_length,yai];rfl
theorem Zvm{l:Z4}(h:Wg l)(hp:gX l):oD yD (gv l)=ab (l,ae):=by
 have G:=qm h;unfold oD;rw[AF (by omega),ya,VH (by dsimp only;omega),ya];have I:=h.2.1
 have J:WQ (gv l,af)=((l.length:Int),(bo fU l,af)):=by
  have:=kV (z:=(l.length:Int)) (by omega) (by omega) (bo fU l);rw[yat]at this;exact this
 have g:∀k,(bo fU (l.drop k)).length<=4*131:=Xo (λx M=>zA (h.2.2 x M)) I;rw[J];dsimp only;generalize Q:gv l=b at G
 rw[show(b,(l.length:Int),(0:Int),([]:Z4),(bo fU l,af),([]:yL ZR))=(λk:Nat=>(b,(l.length:Int),(k:Int),([]:Z4),(bo fU (l.drop k),af),l.take k)) 0 from rfl,
  Zz (x:=(b,([]:Z4),(([]:yL yB),af),l)) l.length (λk:Nat=>(b,(l.length:Int),(k:Int),([]:Z4),(bo fU (l.drop k),af),l.take k)) ?_ ?_ (by omega),ya]
 .dsimp only;rw[OI h hp,ya,yX (by decide),ON h hp,ya,Q,Zte (by omega),ya];rfl
 .intro k A;obtain⟨e,E,R⟩:=Zj A;obtain⟨F,S,T,e4,U⟩:=h.2.2 e R;have W:=g k;have j:=g (k+1);have X:=ZC (n:=e.2.1.toNat) (by omega);have Y:=ZC (n:=e.2.2.1.toNat) (by omega);have Z:=YM e.2.2.2.toNat
  have m:=Xo (f:=ik) (c:=8) (l:=e.1) (λx _=>Nat.le_of_eq (YM _)) F 0;rw[List.drop_zero]at m;unfold WU;dsimp only;rw[yW (Zw A),VH (by dsimp only;omega),ya,yX (by rw[yT];omega),ul E];unfold fU;simp only[yac];have y:=kV (z:=(e.1.length:Int)) (by omega) (by omega) (bo ik e.1++(Yp e.2.1.toNat++(Yp e.2.2.1.toNat++(fz e.2.2.2.toNat++bo fU (l.drop (k+1))))));rw[yat]at y;unfold fU at y j;rw[y];dsimp only;rw[yX (dj (by omega)),ZEq F (by simp only[yl];omega),ya];dsimp only;rw[VH (by simp only[yl];omega),ya,kV S (by omega)];dsimp only;rw[VH (by simp only[yl];omega),ya,kV e4 (by omega)];dsimp only;rw[kU (by simp only[yl];omega),ya,uh,yW (ZZ (by rw[yaa];omega) (by rw[yaa];omega)),Zr (by omega),We E]
 .unfold WU;dsimp only;rw[yX (by rw[Zy];decide),List.drop_length,yai];rfl
theorem ZHm{b:yL yB}{n i m:Int}{l:Z4}{r:Zf}{acc:yL ZR}{i1 i2:Int}{u:yU}(hm:m<=12)(h:r.1.length<=2000000):
 ∃r' w,Zc (XG yD) yD (b,n,i,m,(0:Int),l,r,acc,i1,i2,u,([]:yL yU))=ab (b,n,i,l,r',acc,i1,i2,u,w)/\r'.1.length<=2000000/\w.length<=12:=by
 obtain⟨x,f,r',w,rfl,g⟩:=XH (step:=XG yD) m.toNat (λk s=>∃r' w,s=(b,n,i,m,(k:Int),l,r',acc,i1,i2,u,w)/\r'.1.length<=2000000/\w.length=k) (λx=>∃r' w,x=(b,n,i,l,r',acc,i1,i2,u,w)/\r'.1.length<=2000000/\w.length<=12)
  (i:=(b,n,i,m,(0:Int),l,r,acc,i1,i2,u,([]:yL yU))) ⟨r,[],rfl,h,rfl⟩ (by omega) (by
  rintro k _ j ⟨r',w,rfl,f,g⟩;left;have y:=ug r';unfold XG;dsimp only;rw[yW (yY (by omega)),kU f,ya,yW (ZZ (by omega) (by omega)),Zr (by omega)];exact⟨_,rfl,_,_,rfl,by omega,by simp[g]⟩) (by
  rintro _ ⟨r',w,rfl,f,g⟩;unfold XG;dsimp only;rw[yX (dj (by omega))];exact⟨_,rfl,_,_,rfl,f,by omega⟩)
 exact⟨r',w,f,g⟩
end Go.Proofs.YtcbhhaigilifgaaGreat
end
