/- Parts of the proof, in one file. -/
import Derived.Test.YtcbhhaigilifgaaGreatKf
open Option renaming some → ab, none → ad
open Bool renaming true → ae, false → af
open Decidable renaming decide → ag
open BitVec renaming ofInt → yca
open Go.Proofs.Tryz renaming prog → yb
open Int renaming toNat_natCast → yat
open List renaming length_append → ym, getElem?_eq_some_iff → yu, replicate → yx, nil_append → yz, length_take → yaa, getElem?_eq_getElem → yab, append_assoc → yac, length_cons → yag, take_length → yaj, getElem?_cons_succ → yak, getElem?_cons_zero → yam, getElem?_append_right → yaq, map_append → yau, mem_singleton → yba, take_append_drop → ybc, append_nil → ybf, getElem_of_mem → ybk, getElem?_eq_none → ybz, take_of_length_le → ycc
open Nat renaming le_refl → yl, mod_eq_of_lt → yas, mul_comm → ybo, le_trans → ybt, mul_le_mul_right → ycb, two_pow_add_eq_or_of_lt → yda
open Option renaming bind_some → ya
open UInt32 renaming ofNat → ych
open UInt64 renaming ofNat → yan, toNat_ofNat' → ybh, toNat_lt → ybv, le_iff_toNat_le → ycp, lt_iff_toNat_lt → ycs
open UInt8 renaming ofNat → yap
set_option linter.unusedVariables false
set_option linter.unusedSimpArgs false
section
set_option maxRecDepth 4000
namespace Go.Proofs.YtcbhhaigilifgaaGreat
open Go Go.Ev
noncomputable section
def Qp(F:Nat)(a0:Chan)(a1:yG)(a2:Int):yO (Int):=
 if(a2==a0.2.2.2.2)=ae then
  if(bp a2 2)=ae then
   (a1.2.1[a2.toNat]?).bind λa=>
   (th F a0 a1).bind λb=>
   ab (wi (a - b))
  else
  ad
 else
 if(bp a2 2)=ae then
  (a1.2.1[a2.toNat]?).bind λc=>
  ab c
 else
 ad
def ZmT:Fs yb:=⟨116,[.v Zi,.v Zb,.v yI],[],[Zi,Zb,yI],(zN yI),λx=>Qp yD x.1 x.2.1 x.2.2⟩
theorem Ztf:ZmT.Ok:=bg { still:=[6,15,16]} [] [KS] ⟨Zkw,aB⟩
def xS(F:Nat)(a0:Chan)(a1:yG)(a2:Cond):yO ((yG×Int)):=
 (au F a0 a1).bind λa=>
 if(!a)=ae then
  ab ((0,[0,0],[],0),1)
 else
 (te F a2).bind λb=>
 if(!b)=ae then
  ab ((0,[0,0],[],0),1)
 else
 if(bp (wi (1 - a2.1)) 2)=ae then
  (a0.2.2.2.1[(wi (1 - a2.1)).toNat]?).bind λc=>
  (Ql F a1 (wi (1 - a2.1))).bind λd=>
  (xO F a1 a2.1 a2.2.1).bind λe=>
  if e.2=ae then
   ab ((0,[0,0],[],0),4)
  else
  if(ag (a2.2.2.1 < c.2.2.2.2.1))=ae then
   ab ((0,[0,0],[],0),9)
  else
  if(ag ((a1.2.2.1.length:Int) >= 16))=ae then
   ab ((0,[0,0],[],0),3)
  else
  if(ag (d.1 >= c.2.2.2.1))=ae then
   ab ((0,[0,0],[],0),3)
  else
  let f:Bool:=ag ((wi (d.2+a2.2.2.1)) > c.2.2.2.2.2)
  if f=ae then
   ab ((0,[0,0],[],0),6)
  else
  if(bp a2.1 2)=ae then
   (a1.2.1[a2.1.toNat]?).bind λg=>
   if(ag (g < a2.2.2.1))=ae then
    ab ((0,[0,0],[],0),8)
   else
   (pY F a1 a2).bind λh=>
   if(bp a2.1 2)=ae then
    (h.2.1[a2.1.toNat]?).bind λi=>
    if(bp a2.1 2)=ae then
     (h.2.1[a2.1.toNat]?).bind λj=>
     (Qp F a0 (h.1,h.2.1.set a2.1.toNat (wi (i - a2.2.2.1)),h.2.2.1,h.2.2.2) a0.2.2.2.2).bind λk=>
     if(ag (k < 0))=ae then
      ab ((0,[0,0],[],0),8)
     else
     (Qp F a0 (h.1,h.2.1.set a2.1.toNat (wi (i - a2.2.2.1)),h.2.2.1,h.2.2.2) a2.1).bind λl=>
     if(ag (l < c.2.1))=ae then
      ab ((0,[0,0],[],0),10)
     else
     ab ((h.1,h.2.1.set a2.1.toNat (wi (i - a2.2.2.1)),h.2.2.1,h.2.2.2),0)
    else
    ad
   else
   ad
  else
  ad
 else
 ad
def Zo6:Fs yb:=⟨56,[.v Zi,.v Zb,.v Zm],[],[Zi,Zb,Zm],[⟨.ret,[(0,.bm [.v Zb,.v yI])],[],[Zb,yI]⟩],λx=>xS yD x.1 x.2.1 x.2.2⟩
def ZMQ:HI:={ still:=[7,14,15,19,31,34,39,41,43,88,89,102,103,105,110,111,113]}
theorem Zv6:Zo6.Ok:=bg ZMQ [] [ti,KL,KP,ZmP,ZmS,ZmT] ⟨Qm,Zkt,Zgq,Zs9,Zte,Ztf,aB⟩
abbrev Zw:Ty:=(.st [(.arr 2 aLy),(.arr 2 jW),aLI,yI,yI,aLx])
abbrev aE:Type:=(aLU×(yL bw)×aLC×Int×Int×aLE)
abbrev aE.bw(x:aE):(yL bw):=x.2.1
abbrev _root_.aLQ:=yL dF
def Ym(F:Nat):(Int×aE×Chan×aLQ×yG×aLQ×Chan)->yO ((Int×aE×Chan×aLQ×yG×aLQ×Chan)⊕((Bool×aE×Chan×aLQ×yG×aLQ×Chan)⊕(aE×Chan×aLQ×yG×aLQ×Chan)))
 |(a,b,e,f,g,c,d)=>
 if(ag (a < 2))=ae then
  if(bp a 2)=ae then
   (b.1[a.toNat]?).bind λh=>
   (tz F h).bind λi=>
   if(bp a 2)=ae then
    (c[a.toNat]?).bind λj=>
    if(bp a 2)=ae then
     ((c.set a.toNat i)[a.toNat]?).bind λk=>
     (xN F k).bind λl=>
     if(bp a 2)=ae then
      (d.2.2.1[a.toNat]?).bind λm=>
      if(bp a 2)=ae then
       (b.2.2.1[a.toNat]?).bind λn=>
       if(ag (n < 0))=ae then
        ab (.inr (.inl (af,b,(d.1,d.2.1,d.2.2.1.set a.toNat l,d.2.2.2.1,d.2.2.2.2),c.set a.toNat i,(0,[0,0],[],0),c.set a.toNat i,(d.1,d.2.1,d.2.2.1.set a.toNat l,d.2.2.2.1,d.2.2.2.2))))
       else
       if(bp a 2)=ae then
        (b.2.2.1[a.toNat]?).bind λo=>
        if(ag (o > 1099511627776))=ae then
         ab (.inr (.inl (af,b,(d.1,d.2.1,d.2.2.1.set a.toNat l,d.2.2.2.1,d.2.2.2.2),c.set a.toNat i,(0,[0,0],[],0),c.set a.toNat i,(d.1,d.2.1,d.2.2.1.set a.toNat l,d.2.2.2.1,d.2.2.2.2))))
        else
        if(bp a 2)=ae then
         (b.2.2.1[a.toNat]?).bind λp=>
         ab (.inl (wi (a+1),b,e,f,g,c.set a.toNat i,(d.1,wi (d.2.1+p),d.2.2.1.set a.toNat l,d.2.2.2.1,d.2.2.2.2)))
        else
        ad
       else
       ad
      else
      ad
     else
     ad
    else
    ad
   else
   ad
  else
  ad
 else
 ab (.inr (.inr (b,e,f,g,c,d)))
abbrev _root_.aLP:Go.Ev.Ty:=.arr 2 fm
def LV:yL bJ:=[.var (.v Zw) ae,.var (.v Zi) ae,.var (.v aLP) ae,.var (.v Zb) ae,.var (.v aLP) ae,.var (.v Zi) ae]
def ZcN:Lp:=⟨[(1,.ak 0 []),(2,.ak 1 []),(3,.ak 2 []),(4,.ak 3 []),(6,.ak 4 []),(7,.ak 5 []),(8,.v yI)],LV,[yI,Zw,Zi,aLP,Zb,aLP,Zi],[⟨.ret,[(2,.ak 1 []),(3,.ak 2 []),(4,.ak 3 []),(5,.v .bool)],LV,[.bool,Zw,Zi,aLP,Zb,aLP,Zi]⟩,⟨.exit 0,[(1,.ak 0 []),(2,.ak 1 []),(3,.ak 2 []),(4,.ak 3 []),(6,.ak 4 []),(7,.ak 5 [])],LV,[Zw,Zi,aLP,Zb,aLP,Zi]⟩],Zc (Ym yD) yD⟩
def LW:HI:={ still:=[5,26,32,69,70,85,86,91]}
theorem Zgw:ZcN.cj yb 17 0:=ZQ LW [] [ZrM,Zkz] ⟨Zyu,ZrN,aB⟩
def YG(F:Nat):(Int×aE×Chan×aLQ×yG×aLQ×Chan×yG)->yO ((Int×aE×Chan×aLQ×yG×aLQ×Chan×yG)⊕(aE×Chan×aLQ×yG×aLQ×Chan×yG))
 |(a,b,e,f,g,h,c,d)=>
 if(ag (a < (b.2.2.2.2.2.length:Int)))=ae then
  (idx b.2.2.2.2.2 a).bind λi=>
  (xS F c d i).bind λj=>
  if(j.2==0)=ae then
   ab (.inl (wi (a+1),b,e,f,g,h,c,j.1))
  else
  ab (.inl (wi (a+1),b,e,f,g,h,c,d))
 else
 ab (.inr (b,e,f,g,h,c,d))
def ZL3:yL bJ:=[.var (.v Zw) ae,.var (.v Zi) ae,.var (.v aLP) ae,.var (.v Zb) ae,.var (.v aLP) ae,.var (.v Zi) ae,.var (.v Zb) ae]
def ZcO:Lp:=⟨[(1,.ak 0 []),(2,.ak 1 []),(3,.ak 2 []),(4,.ak 3 []),(6,.ak 4 []),(7,.ak 5 []),(9,.ak 6 []),(10,.v yI)],ZL3,[yI,Zw,Zi,aLP,Zb,aLP,Zi,Zb],[⟨.exit 2,[(2,.ak 1 []),(3,.ak 2 []),(4,.ak 3 []),(6,.ak 4 []),(7,.ak 5 []),(9,.ak 6 [])],ZL3,[Zw,Zi,aLP,Zb,aLP,Zi,Zb]⟩],Zc (YG yD) yD⟩
theorem Zgx:ZcO.cj yb 17 1:=ZQ LW [] [Zo6] ⟨Zv6,aB⟩
def Vq(F:Nat)(a0:aE):yO ((Chan×aLQ×yG×Bool)):=
 (Zc (Ym F) F (0,a0,((dg,0),0,[(0,0,0,0,0),(0,0,0,0,0)],[(0,0,0,0,0,0),(0,0,0,0,0,0)],0),[(0,0,0,0,0,dg),(0,0,0,0,0,dg)],(0,[0,0],[],0),[(0,0,0,0,0,dg),(0,0,0,0,0,dg)],((dg,0),0,[(0,0,0,0,0),(0,0,0,0,0)],a0.2.1,a0.2.2.2.1))).bind λj=>
 match j with
 |.inl (d,_,a,b,c,_,_)=>
  ab (a,b,c,d)
 |.inr (d,g,h,i,f,e)=>
  if(ag ((d.2.2.2.2.2.length:Int) > 8))=ae then
   ab (e,f,(0,d.2.2.1,[],d.2.2.2.2.1),af)
  else
  (au F e (0,d.2.2.1,[],d.2.2.2.2.1)).bind λk=>
  if(!k)=ae then
   ab (e,f,(0,d.2.2.1,[],d.2.2.2.2.1),af)
  else
  (Zc (YG F) F (0,d,g,h,i,f,e,(0,d.2.2.1,[],d.2.2.2.2.1))).bind λ(_,_,_,_,b,a,c)=>
  ab (a,b,c,ae)
def Qq(F:Nat):Fs yb:=⟨17,[.v Zw],[],[Zw],[⟨.ret,[(0,.bm [.v Zi,.v aLP,.v Zb,.v .bool])],[],[Zi,aLP,Zb,.bool]⟩],λx=>Vq F x⟩
def Zdf:Fs yb:=Qq yD
theorem ZcP:Zdf.Ok:=bg LW [(0,ZcN),(1,ZcO)] [ti] ⟨Qm,aB⟩ ⟨Zgw,Zgx,aB⟩
def QT(F:Nat)(a0:yU):yO (ZY):=
 (tj F [a0]).bind λa=>
 ab a
def LX(F:Nat):Fs yb:=⟨18,[.v .u64],[],[.u64],(zN Yc),λx=>QT F x⟩
def LY:Fs yb:=LX yD
theorem LZ:LY.Ok:=bg { still:=[4]} [] [KU] ⟨ZoZ,aB⟩
abbrev Zu:Ty:=(.st [Zi,aLI,yI])
abbrev Zr:Type:=(Chan×aLC×Int)
abbrev Zr.Chan(x:Zr):Chan:=x.1
def Zyv(F:Nat)(a0:Chan):yO ((aLz×(yL Zr))):=
 ab ([],[(a0,[0,0],0)])
def MC(F:Nat):Fs yb:=⟨24,[.v Zi],[],[Zi],[⟨.ret,[(0,.ak 0 [])],[.var (.agg [.rw 1]) ae,.row Zu ae 112],[aLA,(.sl Zu)]⟩],λx=>Zyv F x⟩
def Zv7:Fs yb:=MC yD
theorem Ztg:Zv7.Ok:=bg { still:=[2],cL:=[5]} [] [] trivial
def Zyw(F:Nat)(a0:aLu):yO (yU):=
 (Va F a0).bind λa=>
 (YU F a).bind λb=>
 ab b
def MD(F:Nat):Fs yb:=⟨26,[.v aLy],[],[aLy],(zN .u64),λx=>Zyw F x⟩
def Zv8:Fs yb:=MD yD
theorem Zth:Zv8.Ok:=bg { still:=[2,3,4]} [] [QP,QR] ⟨tq,tA,aB⟩
def ZmU(F:Nat)(a0:Int):yO (Bool):=
 if(a0==0)=ae then
  ab ae
 else
 ab (a0==1)
def ZkB:Fs yb:=⟨129,[.v yI],[],[yI],(zN .bool),λx=>ZmU yD x⟩
theorem ZrS:ZkB.Ok:=bg { still:=[2]} [] [] trivial
def ZkC(F:Nat)(s:(yU×aLH×Int×Int)):yO ((yU×aLH×Int×Int)⊕yU):=
 if(ag (s.2.2.2 < s.2.2.1))=ae then
  (idx s.2.1 s.2.2.2).bind λa=>
  (QQ F a).bind λb=>
  (Yu F s.1 b).bind λc=>
  ab (.inl (c,s.2.1,s.2.2.1,wi (s.2.2.2+1)))
 else
 ab (.inr s.1)
def ZmV:Lp:=⟨[(3,.v .u64),(6,.v aLF),(7,.v yI),(8,.v yI)],[],[.u64,aLF,yI,yI],[⟨.exit 0,[(3,.v .u64)],[],[.u64]⟩],Zc (ZkC yD) yD⟩
theorem ZpE:ZmV.cj yb 191 0:=ZQ { still:=[2,12,13,14]} [] [xL,JB] ⟨LN,ZiC,aB⟩
def ME(F:Nat)(a0:aLH):yO (yU):=
 (Zc (ZkC F) F (1,a0,(a0.length:Int),0)).bind λa=>
 ab a
def MF:Fs yb:=⟨191,[.v aLF],[],[aLF],(zN .u64),λx=>ME yD x⟩
theorem ZmW:MF.Ok:=bg { still:=[2,12,13,14]} [(0,ZmV)] [] trivial ⟨ZpE,aB⟩
def xU(F:Nat)(a0:yU)(a1:yU):yO (yU):=
 (ME F [a0,a1]).bind λa=>
 ab a
def xV:Fs yb:=⟨186,[.v .u64,.v .u64],[],[.u64,.u64],(zN .u64),λx=>xU yD x.1 x.2⟩
theorem MG:xV.Ok:=bg { still:=[4,7]} [] [MF] ⟨ZmW,aB⟩
def Zja(F:Nat)(s:(yU×Int×aLu)):yO ((yU×Int×aLu)⊕aLu):=
 if(ag (s.2.1 < 8))=ae then
  if(ag (0<=wi (56 - (wi (8*s.2.1)))))=ae then
   let a:yU:=Zz s.1 (min (wi (56 - (wi (8*s.2.1)))).toNat 64)
   if(bp s.2.1 8)=ae then
    (s.2.2[s.2.1.toNat]?).bind λb=>
    ab (.inl (s.1,wi (s.2.1+1),s.2.2.set s.2.1.toNat (w8 (a.toNat:Int))))
   else
   ad
  else
  ad
 else
 ab (.inr s.2.2)
def ZkD:Lp:=⟨[(0,.v .u64),(3,.ak 0 []),(5,.v yI)],[.var (.v aLS) ae],[.u64,yI,aLS],[⟨.exit 0,[(3,.ak 0 [])],[.var (.v aLS) ae],[aLS]⟩],Zc (Zja yD) yD⟩
theorem Zob:ZkD.cj yb 212 0:=ZQ { still:=[2]} [] [] trivial
def Zo7(F:Nat)(a0:yU):yO (aLu):=
 (Zc (Zja F) F (a0,0,[0,0,0,0,0,0,0,0])).bind λa=>
 ab ((a.drop 0).take 8)
def ZmX:Fs yb:=⟨212,[.v .u64],[],[.u64],(zN aLv),λx=>Zo7 yD x⟩
theorem Zti:ZmX.Ok:=bg { still:=[2]} [(0,ZkD)] [] trivial ⟨Zob,aB⟩
def ZhU(F:Nat):(ByteArray×aLH×Int×Int×aLU)->yO ((ByteArray×aLH×Int×Int×aLU)⊕(ByteArray×aLU))
 |(e,c,b,a,d)=>
 if(ag (a < b))=ae then
  (idx c a).bind λf=>
  (Zo7 F f).bind λg=>
  if(cg d.length 1 24)=ae then
   ab (.inl (e,c,b,wi (a+1),d++([g]:yL aLu)))
  else
  ad
 else
 ab (.inr (e,d))
def Zjb:Lp:=⟨[(0,.v .str),(5,.own 0 aLv),(8,.v aLF),(9,.v yI),(10,.v yI)],[.log aLv 141],[.str,aLF,yI,yI,aLV],[⟨.exit 0,[(0,.v .str),(5,.own 0 aLv)],[.log aLv 141],[.str,aLV]⟩],Zc (ZhU yD) yD⟩
def ZL4:HI:={ own:=[5,14,18],still:=[4,15,20,21,22]}
theorem ZmY:Zjb.cj yb 187 0:=ZQ ZL4 [] [ZmX] ⟨Zti,aB⟩
def xW(F:Nat)(a0:ByteArray)(a1:aLH):yO (yU):=
 (Zc (ZhU F) F (a0,a1,(a1.length:Int),0,[])).bind λa=>
 (VI F a.1 a.2).bind λb=>
 (Va F b).bind λc=>
 ab c
def MH:Fs yb:=⟨187,[.v .str,.v aLF],[],[.str,aLF],(zN .u64),λx=>xW yD x.1 x.2⟩
theorem Zjc:MH.Ok:=bg ZL4 [(0,Zjb)] [Qe,QP] ⟨Qf,tq,aB⟩ ⟨ZmY,aB⟩
def ZJh:ByteArray:=⟨#[114,101,118,111,107,101]⟩
def ZmZ(F:Nat)(a0:yU)(a1:yU):yO (yU):=
 (xW F ZJh [a0,a1]).bind λa=>
 (Vp F a0 a).bind λb=>
 (xW F ZJh [a1,a0]).bind λc=>
 (Vp F a1 c).bind λd=>
 (xU F b d).bind λe=>
 ab e
def ZkE:Fs yb:=⟨130,[.v .u64,.v .u64],[],[.u64,.u64],(zN .u64),λx=>ZmZ yD x.1 x.2⟩
def ZMR:HI:={ still:=[4,5,8,9,10,11,14,15,16]}
theorem ZrT:ZkE.Ok:=bg ZMR [] [MH,xM,xV] ⟨Zjc,LO,MG,aB⟩
def ZL5:ByteArray:=⟨#[109,105,120]⟩
def xX(F:Nat)(a0:yU)(a1:yU):yO (yU):=
 (xW F ZL5 [a1,a0]).bind λa=>
 (YU F a).bind λb=>
 (xU F a0 b).bind λc=>
 ab c
def ZrU:Fs yb:=⟨131,[.v .u64,.v .u64],[],[.u64,.u64],(zN .u64),λx=>xX yD x.1 x.2⟩
theorem Zyx:ZrU.Ok:=bg { still:=[4,5,8,9,10]} [] [MH,QR,xV] ⟨Zjc,tA,MG,aB⟩
def tD(F:Nat)(a0:bw)(a1:Int):yO (Bool):=
 ab (ag (a1 >= a0.1))
def MI:Fs yb:=⟨135,[.v jW,.v yI],[],[jW,yI],(zN .bool),λx=>tD yD x.1 x.2⟩
theorem Zjd:MI.Ok:=bg { still:=[4]} [] [] trivial
def Zgy(F:Nat):(Int×aLE×Int×Int×Chan×yG×aLE)->yO ((Int×aLE×Int×Int×Chan×yG×aLE)⊕(Chan×yG×aLE))
 |(d,c,b,a,e,g,f)=>
 if(ag (a < b))=ae then
  (idx c a).bind λh=>
  if(bp d 2)=ae then
   (e.2.2.2.1[d.toNat]?).bind λi=>
   (tD F i h.2.2.1).bind λj=>
   if j=ae then
    if(cg f.length 1 40)=ae then
     ab (.inl (d,c,b,wi (a+1),e,g,f++([h]:yL Cond)))
    else
    ad
   else
   ab (.inl (d,c,b,wi (a+1),e,g,f))
  else
  ad
 else
 ab (.inr (e,g,f))
def ZhV:Lp:=⟨[(2,.v yI),(3,.ak 0 []),(7,.own 2 Zm),(11,.v aLx),(12,.v yI),(13,.v yI)],[.var (.v Zi) ae,.var (.v Zb) ae,.log Zm 93],[yI,aLx,yI,yI,Zi,Zb,aLx],[⟨.exit 0,[(7,.own 2 Zm)],[.var (.v Zi) ae,.var (.v Zb) ae,.log Zm 93],[Zi,Zb,aLx]⟩],Zc (Zgy yD) yD⟩
def ZL6:HI:={ own:=[7,24,27],still:=[6,20,22]}
theorem Zlg:ZhV.cj yb 138 0:=ZQ ZL6 [] [MI] ⟨Zjd,aB⟩
def VK(F:Nat)(a0:Chan)(a1:yG)(a2:Int):yO (aLE):=
 (Zc (Zgy F) F (a2,a1.2.2.1,(a1.2.2.1.length:Int),0,a0,a1,[])).bind λa=>
 ab a.2.2
def MJ:Fs yb:=⟨138,[.v Zi,.v Zb,.v yI],[],[Zi,Zb,yI],(zN aLx),λx=>VK yD x.1 x.2.1 x.2.2⟩
theorem ZhW:MJ.Ok:=bg ZL6 [(0,ZhV)] [] trivial ⟨Zlg,aB⟩
def xY(F:Nat)(a0:Chan)(a1:yG)(a2:Int)(f:Int):yO (Int):=
 if(bp f 2)=ae then
  (a1.2.1[f.toNat]?).bind λa=>
  if(f==a0.2.2.2.2)=ae then
   (VK F a0 a1 a2).bind λb=>
   (tg F a1.2.2.2 (b.length:Int)).bind λc=>
   ab (wi (a - (wi (c+660))))
  else
  ab a
 else
 ad
def ZkF:Fs yb:=⟨134,[.v Zi,.v Zb,.v yI,.v yI],[],[Zi,Zb,yI,yI],(zN yI),λx=>xY yD x.1 x.2.1 x.2.2.1 x.2.2.2⟩
theorem ZrV:ZkF.Ok:=bg { still:=[8,20,21,22,23,25]} [] [MJ,KR] ⟨ZhW,ZmB,aB⟩
def ZrW(F:Nat)(a0:yU)(a1:yU)(a2:Int):yO (ZY):=
 ab [([a1],0,0,0),([a0],0,a2,0)]
def Zo8:Fs yb:=⟨136,[.v .u64,.v .u64,.v yI],[],[.u64,.u64,yI],(zN Yc),λx=>ZrW yD x.1 x.2.1 x.2.2⟩
theorem Zv9:Zo8.Ok:=bg {} [] [] trivial
def X0(F:Nat)(a0:yU):yO (ZY):=
 ab [([a0],0,0,0),([],0,16,0)]
def ZkG:Fs yb:=⟨137,[.v .u64],[],[.u64],(zN Yc),λx=>X0 yD x⟩
theorem ZrX:ZkG.Ok:=bg {} [] [] trivial
def Zje(F:Nat)(a0:aLu)(a1:aLu):yO (Int):=
 ab (Go.Lib.compareBytes a0 a1)
def ZhX:Fs yb:=⟨141,[.v aLv,.v aLv],[],[aLv,aLv],(zN yI),λx=>Zje yD x.1 x.2⟩
theorem Zoc:ZhX.Ok:=bg { still:=[4,5,6]} [] [] trivial
abbrev lF:Ty:=(.st [yI,Zm])
abbrev lG:Type:=(Int×Cond)
abbrev lG.Cond(x:lG):Cond:=x.2
abbrev Zn:Ty:=(.st [Wo,lF,aLy])
abbrev Zy:Type:=(Out×lG×aLu)
def Zjf(F:Nat)(a0:Zy)(a1:Zy):yO (Int):=
 (Yw F a0.1.1 a1.1.1).bind λa=>
 (Zje F a0.2.2 a1.2.2).bind λb=>
 (Yw F a0.2.1.1 a1.2.1.1).bind λc=>
 (Yw F a0.2.1.2.1 a1.2.1.2.1).bind λd=>
 (Yw F a0.2.1.2.2.1 a1.2.1.2.2.1).bind λe=>
 (tf F [a,b,c,d,e]).bind λf=>
 ab f
def ZhY:Fs yb:=⟨140,[.v Zn,.v Zn],[],[Zn,Zn],(zN yI),λx=>Zjf yD x.1 x.2⟩
def ZMS:HI:={ still:=[4,7,10,13,15,19,22,27,31,36,40,42],eC:=[13,15]}
theorem Zod:ZhY.Ok:=bg ZMS [] [KN,ZhX,KM] ⟨Zes,Zoc,Zkv,aB⟩
abbrev ZG:Ty:=(.st [bD,(.sl lF)])
abbrev WM:Type:=(Tx×(yL lG))
abbrev WM.Tx(x:WM):Tx:=x.1
def ZL7:ByteArray:=⟨#[108,111,99,107]⟩
def Zui(F:Nat)(a0:ZY):yO (aLu):=
 (XC F a0).bind λa=>
 if(!a)=ae then
  ab dg
 else
 (pS F a0).bind λb=>
 (VI F ZL7 [b]).bind λc=>
 ab c
def ZrY:Fs yb:=⟨133,[.v Yc],[],[Yc],(zN aLy),λx=>Zui yD x⟩
theorem Zyy:ZrY.Ok:=bg { still:=[3,7,9]} [] [QI,xq,Qe] ⟨sO,KB,Qf,aB⟩
abbrev _root_.aLK:=yL Zy
def Z4(F:Nat)(a0:Int)(a1:ZY)(a2:lG)(g:aLz)(f:aLK):yO ((aLz×aLK)):=
 (Zui F a1).bind λa=>
 if(cg f.length 1 112)=ae then
  let b:aLK:=f++([((a0,a1),a2,a)]:yL Zy)
  ab (()::g,b)
 else
 ad
abbrev _root_.aLN:Go.Ev.Ty:=.sl Zn
def MK:Fs yb:=⟨132,[.v yI,.v Yc,.v lF,.ak 0 []],[.var (.rw 1) ae,.row Zn ae 234],[yI,Yc,lF,aLA,aLN],[⟨.ret,[(0,.bm [])],[.var (.rw 1) ae,.row Zn ae 234],[aLA,aLN]⟩],λx=>Z4 yD x.1 x.2.1 x.2.2.1 x.2.2.2.1 x.2.2.2.2⟩
theorem Zgz:MK.Ok:=bg { own:=[7,16],still:=[12]} [] [ZrY] ⟨Zyy,aB⟩
abbrev dT7:Type:=(Int×Int×yU×yU×yU×aLE×Int×Int×Chan×yG×WM×aLz×aLK)
abbrev ZMT:yL Ty:=[yI,yI,.u64,.u64,.u64,aLx,yI,yI,Zi,Zb,ZG,aLA,aLN]
def Zdg(F:Nat):(Int×Int×Int×Int×aLz×aLK)->yO ((Int×Int×Int×Int×aLz×aLK)⊕(Int×Int×Int×aLz×aLK))
 |(b,d,e,a,f,c)=>
 if(ag (a > b))=ae then
  if(bp a c.length)=ae then
   (c[a.toNat]?).bind λg=>
   if(bp (wi (a - 1)) c.length)=ae then
    (c[(wi (a - 1)).toNat]?).bind λh=>
    (Zjf F g h).bind λi=>
    if(ag (i < 0))=ae then
     if(bp (wi (a - 1)) c.length)=ae then
      (c[(wi (a - 1)).toNat]?).bind λj=>
      if(bp a c.length)=ae then
       (c[a.toNat]?).bind λk=>
       if(bp a c.length)=ae then
        (c[a.toNat]?).bind λl=>
        if(bp (wi (a - 1)) ((c.set a.toNat j).length))=ae then
         ((c.set a.toNat j)[(wi (a - 1)).toNat]?).bind λm=>
         let n:aLK:=(c.set a.toNat j).set ((wi (a - 1)).toNat) k
         ab (.inl (b,d,e,wi (a - 1),f,n))
        else
        ad
       else
       ad
      else
      ad
     else
     ad
    else
    ab (.inr (b,d,e,f,c))
   else
   ad
  else
  ad
 else
 ab (.inr (b,d,e,f,c))
def ZeG:Lp:=⟨[(0,.rw 0),(1,.v yI),(2,.v yI),(3,.fn 140 []),(8,.v yI),(9,.v yI)],[.row Zn ae 234],[yI,yI,yI,yI,aLA,aLN],[⟨.exit 2,[(0,.rw 0),(1,.v yI),(2,.v yI),(3,.fn 140 []),(8,.v yI)],[.row Zn ae 234],[yI,yI,yI,aLA,aLN]⟩],Zc (Zdg yD) yD⟩
def ML:HI:={ still:=[26,31],cL:=[0,37,39]}
theorem Zh4:ZeG.cj yb 213 1:=ZQ ML [] [ZhY] ⟨Zod,aB⟩
def Zdh(F:Nat):(Int×Int×Int×aLz×aLK)->yO ((Int×Int×Int×aLz×aLK)⊕(aLz×aLK))
 |(h,g,f,i,j)=>
 if(ag (f < g))=ae then
  (Zc (Zdg F) F (h,g,f,f,i,j)).bind λ(a,b,c,d,e)=>
  ab (.inl (a,b,wi (c+1),d,e))
 else
 ab (.inr (i,j))
def ZeH:Lp:=⟨[(0,.rw 0),(1,.v yI),(2,.v yI),(3,.fn 140 []),(8,.v yI)],[.row Zn ae 234],[yI,yI,yI,aLA,aLN],[⟨.exit 0,[],[.row Zn ae 234],[aLA,aLN]⟩],Zc (Zdh yD) yD⟩
theorem Zh5:ZeH.cj yb 213 0:=ZQ ML [(1,ZeG)] [] trivial ⟨Zh4,aB⟩
def MM(F:Nat)(a1:Int)(a2:Int)(f:aLz)(g:aLK):yO ((aLz×aLK)):=
 (Zc (Zdh F) F (a1,a2,wi (a1+1),f,g)).bind λa=>
 ab (a.1,a.2)
def MN:Fs yb:=⟨213,[.rw 0,.v yI,.v yI,.fn 140 []],[.row Zn ae 234],[yI,yI,aLA,aLN],[⟨.ret,[(0,.bm [])],[.row Zn ae 234],[aLA,aLN]⟩],λx=>MM yD x.1 x.2.1 x.2.2.1 x.2.2.2⟩
theorem ZeI:MN.Ok:=bg ML [(0,ZeH)] [] trivial ⟨Zh5,aB⟩
def Zdi(F:Nat):(Int×Int×Int×Int×aLz×aLK)->yO ((Int×Int×Int×Int×aLz×aLK)⊕(Int×Int×Int×aLz×aLK))
 |(b,f,c,a,d,e)=>
 if(ag (a<=b))=ae then
  (MM F c a d e).bind λg=>
  if(ag (d.length=g.1.length)&&(ag (40=40)&&ag ((yx e.length ()).length=g.2.length)))=ae then
   ab (.inl (b,f,a,wi (a+f),g.1,g.2))
  else
  ad
 else
 ab (.inr (b,f,c,d,e))
def ZeJ:Lp:=⟨[(0,.rw 0),(1,.v yI),(2,.fn 140 []),(6,.v yI),(7,.v yI),(8,.v yI)],[.row Zn ae 234],[yI,yI,yI,yI,aLA,aLN],[⟨.exit 0,[(0,.rw 0),(1,.v yI),(2,.fn 140 []),(6,.v yI),(7,.v yI)],[.row Zn ae 234],[yI,yI,yI,aLA,aLN]⟩],Zc (Zdi yD) yD⟩
def xZ:HI:={ still:=[15,16,17,24,25,26,37,40,41,42,56,57,58,59],cL:=[0,14,23,36,55]}
theorem Zh6:ZeJ.cj yb 188 0:=IL (fi:={ hi:=xZ,gh:=[(3,.gY 0)]}) (aJ:={ l:=[MN]}) (mG ⟨ZeI,aB⟩)
def Zdj(F:Nat):(Int×Int×Int×Int×aLz×aLK)->yO ((Int×Int×Int×Int×aLz×aLK)⊕(Int×Int×Int×aLz×aLK))
 |(b,c,d,a,e,f)=>
 if(ag (a<=b))=ae then
  ad
 else
 ab (.inr (b,c,d,e,f))
def ZeK:Lp:=⟨[(1,.v yI),(2,.fn 140 []),(6,.v yI),(7,.v yI),(8,.v yI)],[.row Zn ae 234],[yI,yI,yI,yI,aLA,aLN],[⟨.exit 4,[(1,.v yI),(2,.fn 140 []),(6,.v yI),(7,.v yI)],[.row Zn ae 234],[yI,yI,yI,aLA,aLN]⟩],Zc (Zdj yD) yD⟩
theorem Zh7:ZeK.cj yb 188 2:=ZQ xZ [] [] trivial
def Zdk(F:Nat)(s:(Int×Int×aLz×aLK)):yO ((Int×Int×aLz×aLK)⊕(aLz×aLK)):=
 if(ag (s.2.1 < s.1))=ae then
  (Zc (Zdj F) F (s.1,s.2.1,0,wi (2*s.2.1),s.2.2.1,s.2.2.2)).bind λ(c,b,a,d,e)=>
  if(ag ((wi (a+b)) < c))=ae then
   ad
  else
  ab (.inl (c,wi (b*2),d,e))
 else
 ab (.inr (s.2.2.1,s.2.2.2))
def ZeL:Lp:=⟨[(0,.an),(1,.v yI),(2,.fn 140 []),(6,.v yI)],[.row Zn ae 234],[yI,yI,aLA,aLN],[⟨.exit 2,[],[.row Zn ae 234],[aLA,aLN]⟩],Zc (Zdk yD) yD⟩
theorem Zh8:ZeL.cj yb 188 1:=ZQ xZ [(2,ZeK)] [] trivial ⟨Zh7,aB⟩
def ZgA(F:Nat)(a1:Int)(h:aLz)(j:aLK):yO ((aLz×aLK)):=
 (Zc (Zdi F) F (a1,20,0,20,h,j)).bind λ(b,e,a,c,d)=>
 (MM F a b c d).bind λf=>
 (Zc (Zdk F) F (b,e,f.1,f.2)).bind λg=>
 ab (g.1,g.2)
def Zfw:Fs yb:=⟨188,[.rw 0,.v yI,.fn 140 []],[.row Zn ae 234],[yI,aLA,aLN],[⟨.ret,[(0,.bm [])],[.row Zn ae 234],[aLA,aLN]⟩],λx=>ZgA yD x.1 x.2.1 x.2.2⟩
theorem Zlh:Zfw.Ok:=bg xZ [(0,ZeJ),(1,ZeL)] [MN] ⟨ZeI,aB⟩ ⟨Zh6,Zh8,aB⟩
def tE(F:Nat)(g:aLz)(f:aLK):yO ((aLz×aLK)):=
 (ZgA F (f.length:Int) g f).bind λa=>
 ab (a.1,a.2)
def ZkH:Fs yb:=⟨139,[.rw 0,.fn 140 []],[.row Zn ae 234],[aLA,aLN],[⟨.ret,[(0,.bm [])],[.row Zn ae 234],[aLA,aLN]⟩],λx=>tE yD x.1 x.2⟩
theorem ZrZ:ZkH.Ok:=bg { still:=[6,7],cL:=[0,4]} [] [Zfw] ⟨Zlh,aB⟩
abbrev dT8:Type:=(Int×Int×Chan×yG×WM×aLz×aLK×aLD×Int×(yL lG)×aLJ)
abbrev dT9:Type:=(Chan×yG×WM×aLz×aLK×aLD×Int×(yL lG)×aLJ)
def ZJi:yL bJ:=[.var (.v Zi) ae,.var (.v Zb) ae,.var (.v ZG) ae,.var (.rw 4) ae,.row Zn ae 234,.var (.agg [.agg [.v aLG,.own 7 Wo,.v yI],.own 6 lF]) ae,.log lF 181,.log Wo 79]
abbrev ZMU:yL Ty:=[Zi,Zb,ZG,aLA,aLN,aLG,yI,(.sl lF),aLM]
abbrev ZMV:yL Ty:=[yI,yI,Zi,Zb,ZG,aLA,aLN,aLG,yI,(.sl lF),aLM]
def VB(F:Nat):dT7->yO (dT7⊕(Int×Chan×yG×WM×aLz×aLK))
 |(d,h,e,g,f,c,b,a,k,l,m,i,j)=>
 if(ag (a < b))=ae then
  (idx c a).bind λn=>
  if(n.1==d)=ae then
   (Z4 F n.2.2.1 [([e],0,0,0),([f],0,0,n.2.2.2.1),([g],n.2.2.2.2,h,0)] (5,n) i j).bind λo=>
   ab (.inl (d,h,e,g,f,c,b,wi (a+1),k,l,m,o.1,o.2))
  else
  (Z4 F n.2.2.1 [([e],0,0,0),([g],0,h,n.2.2.2.1),([f],n.2.2.2.2,0,0)] (6,n) i j).bind λp=>
  ab (.inl (d,h,e,g,f,c,b,wi (a+1),k,l,m,p.1,p.2))
 else
 ab (.inr (d,k,l,m,i,j))
abbrev zT:List bJ:=[.var (.v Zi) ae,.var (.v Zb) ae,.var (.v ZG) ae,.var (.rw 4) ae,.row Zn ae 234]
def Zjg:Lp:=⟨[(2,.v yI),(4,.ak 0 []),(5,.ak 1 []),(8,.ak 2 []),(11,.v yI),(12,.v .u64),(13,.v .u64),(14,.v .u64),(15,.ak 3 []),(16,.fn 132 [.ak 3 []]),(139,.v aLx),(140,.v yI),(141,.v yI)],zT,ZMT,[⟨.exit 1,[(2,.v yI),(4,.ak 0 []),(5,.ak 1 []),(8,.ak 2 []),(15,.ak 3 [])],zT,[yI,Zi,Zb,ZG,aLA,aLN]⟩],Zc (VB yD) yD⟩
def ZMW:HI:={ own:=[208,212,216,220],still:=[9,28,32,38,39,54,55,61,62,68,69,72,73,74,75,80,81,84,89,90,91,92,93,94,95,97,98,99,100,105,106,109,114,115,116,123,124,125,132,133,134,136,137,138,176,183,184],cL:=[187],gM:=[(21,[([0],.u64,27)]),(22,[([0],.u64,27)])]}
theorem Zm1:Zjg.cj yb 72 0:=ZQ ZMW [] [MK] ⟨Zgz,aB⟩
def VC(F:Nat):dT8->yO (dT8⊕dT9)
 |(b,a,f,g,h,i,c,j,k,e,d)=>
 if(ag (a < b))=ae then
  if(bp a c.length)=ae then
   (c[a.toNat]?).bind λl=>
   if(cg d.length 1 32)=ae then
    if(cg e.length 1 48)=ae then
     let m:(yL lG):=e++([l.2.1]:yL lG)
     ab (.inl (b,wi (a+1),f,g,h,i,c,j,k,m,d++([l.1]:yL Out)))
    else
    ad
   else
   ad
  else
  ad
 else
 ab (.inr (f,g,h,i,c,j,k,e,d))
def Zjh:Lp:=⟨[(8,.ak 2 []),(24,.ak 5 []),(200,.rw 4),(201,.v yI),(202,.v yI)],ZJi,ZMV,[⟨.exit 3,[(8,.ak 2 []),(24,.ak 5 [])],ZJi,ZMU⟩],Zc (VC yD) yD⟩
def ZL8:HI:={ own:=[208,212,216,220],still:=[9,28,32,38,39,54,55,61,62,68,69,72,73,74,75,80,81,84,89,90,91,92,93,94,95,97,98,99,100,105,106,109,114,115,116,123,124,125,132,133,134,136,137,138,176,183,184],cL:=[187],gM:=[(21,[([0],.u64,27)]),(22,[([0],.u64,27)]),(24,[([1],lF,181),([0,1],Wo,79)])]}
theorem Zm2:Zjh.cj yb 72 1:=ZQ ZL8 [] [] trivial
def WD(F:Nat)(a0:Chan)(a1:yG)(a2:Int)(a3:yU):yO ((WM×Int)):=
 (ZmU F a2).bind λk=>
 if(!k)=ae then
  ab ((([],[],0),[]),1)
 else
 (Y4 F a3).bind λl=>
 if(!l)=ae then
  ab ((([],[],0),[]),1)
 else
 (au F a0 a1).bind λm=>
 if(!m)=ae then
  ab ((([],[],0),[]),14)
 else
 if(bp (wi (1 - a2)) 2)=ae then
  (a0.2.2.2.1[(wi (1 - a2)).toNat]?).bind λn=>
  if(bp (wi (1 - a2)) 2)=ae then
   (a0.2.2.1[(wi (1 - a2)).toNat]?).bind λo=>
   (ZmZ F o.2.2.2.2 a3).bind λp=>
   if(bp a2 2)=ae then
    (a0.2.2.1[a2.toNat]?).bind λq=>
    (xX F q.2.2.2.1 a3).bind λr=>
    if(bp (wi (1 - a2)) 2)=ae then
     (a0.2.2.1[(wi (1 - a2)).toNat]?).bind λs=>
     (xX F s.2.2.2.1 a3).bind λt=>
     (xY F a0 a1 a2 a2).bind λu=>
     if(bp a2 2)=ae then
      (a0.2.2.2.1[a2.toNat]?).bind λv=>
      (tD F v u).bind λw=>
      if w=ae then
       if(bp a2 2)=ae then
        (a0.2.2.1[a2.toNat]?).bind λx=>
        (xX F x.2.2.1 a3).bind λy=>
        (ZrW F y p n.2.2.1).bind λz=>
        (Z4 F u z (1,(0,0,0,0,0)) [] []).bind λA=>
        (xY F a0 a1 a2 (wi (1 - a2))).bind λB=>
        if(bp a2 2)=ae then
         (a0.2.2.2.1[a2.toNat]?).bind λC=>
         (tD F C B).bind λD=>
         if D=ae then
          if(bp (wi (1 - a2)) 2)=ae then
           (a0.2.2.1[(wi (1 - a2)).toNat]?).bind λE=>
           (QT F E.2.1).bind λG=>
           (Z4 F B G (2,(0,0,0,0,0)) A.1 A.2).bind λH=>
           if(bp a2 2)=ae then
            (a0.2.2.1[a2.toNat]?).bind λI=>
            (X0 F I.1).bind λJ=>
            (Z4 F 330 J (3,(0,0,0,0,0)) H.1 H.2).bind λK=>
            if(bp (wi (1 - a2)) 2)=ae then
             (a0.2.2.1[(wi (1 - a2)).toNat]?).bind λL=>
             (X0 F L.1).bind λM=>
             (Z4 F 330 M (4,(0,0,0,0,0)) K.1 K.2).bind λN=>
             (VK F a0 a1 a2).bind λO=>
             (Zc (VB F) F (a2,n.2.2.1,p,r,t,O,(O.length:Int),0,a0,a1,(([],[],0),[]),N.1,N.2)).bind λ(j,g,h,i,e,f)=>
             (tE F e f).bind λP=>
             if(ag (e.length=P.1.length)&&(ag (40=40)&&ag ((yx f.length ()).length=P.2.length)))=ae then
              (Zc (VC F) F ((P.2.length:Int),0,g,h,i,P.1,P.2,[(g.1,(0,[],0))],wi ((wi (2*h.1))+j),[],[])).bind λ(_,_,_,_,_,a,c,d,b)=>
              ab (((a,b,c),d),0)
             else
             ad
            else
            ad
           else
           ad
          else
          ad
         else
         if(bp a2 2)=ae then
          (a0.2.2.1[a2.toNat]?).bind λQ=>
          (X0 F Q.1).bind λR=>
          (Z4 F 330 R (3,(0,0,0,0,0)) A.1 A.2).bind λS=>
          if(bp (wi (1 - a2)) 2)=ae then
           (a0.2.2.1[(wi (1 - a2)).toNat]?).bind λT=>
           (X0 F T.1).bind λU=>
           (Z4 F 330 U (4,(0,0,0,0,0)) S.1 S.2).bind λV=>
           (VK F a0 a1 a2).bind λW=>
           (Zc (VB F) F (a2,n.2.2.1,p,r,t,W,(W.length:Int),0,a0,a1,(([],[],0),[]),V.1,V.2)).bind λ(j,g,h,i,e,f)=>
           (tE F e f).bind λX=>
           if(ag (e.length=X.1.length)&&(ag (40=40)&&ag ((yx f.length ()).length=X.2.length)))=ae then
            (Zc (VC F) F ((X.2.length:Int),0,g,h,i,X.1,X.2,[(g.1,(0,[],0))],wi ((wi (2*h.1))+j),[],[])).bind λ(_,_,_,_,_,a,c,d,b)=>
            ab (((a,b,c),d),0)
           else
           ad
          else
          ad
         else
         ad
        else
        ad
       else
       ad
      else
      (xY F a0 a1 a2 (wi (1 - a2))).bind λY=>
      if(bp a2 2)=ae then
       (a0.2.2.2.1[a2.toNat]?).bind λZ=>
       (tD F Z Y).bind λei=>
       if ei=ae then
        if(bp (wi (1 - a2)) 2)=ae then
         (a0.2.2.1[(wi (1 - a2)).toNat]?).bind λej=>
         (QT F ej.2.1).bind λep=>
         (Z4 F Y ep (2,(0,0,0,0,0)) [] []).bind λeu=>
         if(bp a2 2)=ae then
          (a0.2.2.1[a2.toNat]?).bind λew=>
          (X0 F ew.1).bind λez=>
          (Z4 F 330 ez (3,(0,0,0,0,0)) eu.1 eu.2).bind λeA=>
          if(bp (wi (1 - a2)) 2)=ae then
           (a0.2.2.1[(wi (1 - a2)).toNat]?).bind λeB=>
           (X0 F eB.1).bind λeC=>
           (Z4 F 330 eC (4,(0,0,0,0,0)) eA.1 eA.2).bind λeD=>
           (VK F a0 a1 a2).bind λeE=>
           (Zc (VB F) F (a2,n.2.2.1,p,r,t,eE,(eE.length:Int),0,a0,a1,(([],[],0),[]),eD.1,eD.2)).bind λ(j,g,h,i,e,f)=>
           (tE F e f).bind λeG=>
           if(ag (e.length=eG.1.length)&&(ag (40=40)&&ag ((yx f.length ()).length=eG.2.length)))=ae then
            (Zc (VC F) F ((eG.2.length:Int),0,g,h,i,eG.1,eG.2,[(g.1,(0,[],0))],wi ((wi (2*h.1))+j),[],[])).bind λ(_,_,_,_,_,a,c,d,b)=>
            ab (((a,b,c),d),0)
           else
           ad
          else
          ad
         else
         ad
        else
        ad
       else
       if(bp a2 2)=ae then
        (a0.2.2.1[a2.toNat]?).bind λeI=>
        (X0 F eI.1).bind λeJ=>
        (Z4 F 330 eJ (3,(0,0,0,0,0)) [] []).bind λeK=>
        if(bp (wi (1 - a2)) 2)=ae then
         (a0.2.2.1[(wi (1 - a2)).toNat]?).bind λeL=>
         (X0 F eL.1).bind λeM=>
         (Z4 F 330 eM (4,(0,0,0,0,0)) eK.1 eK.2).bind λeN=>
         (VK F a0 a1 a2).bind λeO=>
         (Zc (VB F) F (a2,n.2.2.1,p,r,t,eO,(eO.length:Int),0,a0,a1,(([],[],0),[]),eN.1,eN.2)).bind λ(j,g,h,i,e,f)=>
         (tE F e f).bind λeP=>
         if(ag (e.length=eP.1.length)&&(ag (40=40)&&ag ((yx f.length ()).length=eP.2.length)))=ae then
          (Zc (VC F) F ((eP.2.length:Int),0,g,h,i,eP.1,eP.2,[(g.1,(0,[],0))],wi ((wi (2*h.1))+j),[],[])).bind λ(_,_,_,_,_,a,c,d,b)=>
          ab (((a,b,c),d),0)
         else
         ad
        else
        ad
       else
       ad
      else
      ad
     else
     ad
    else
    ad
   else
   ad
  else
  ad
 else
 ad
def Ztj:Fs yb:=⟨72,[.v Zi,.v Zb,.v yI,.v .u64],[],[Zi,Zb,yI,.u64],[⟨.ret,[(0,.bm [.v ZG,.v yI])],[],[ZG,yI]⟩],λx=>WD yD x.1 x.2.1 x.2.2.1 x.2.2.2⟩
theorem Zr0:Ztj.Ok:=sB (fi:={ hi:=ZL8,lp:=[(0,Zjg),(1,Zjh)],gh:=[(11,.cL 15 [] Zn 234),(31,.gZ 15)]}) (aJ:={ l:=[ZkB,WI,ti,ZkE,ZrU,ZkF,MI,Zo8,MK,LY,ZkG,MJ,ZkH]}) (mG ⟨ZrS,WW,Qm,ZrT,Zyx,ZrV,Zjd,Zv9,Zgz,LZ,ZrX,ZhW,ZrZ,aB⟩) ⟨Zm1,Zm2,aB⟩
def MO(F:Nat)(a0:yU):yO (Bool):=
 ab (ag (a0 < 2305843009213688669))
def MP:Fs yb:=⟨190,[.v .u64],[],[.u64],(zN .bool),λx=>MO yD x⟩
theorem Zji:MP.Ok:=bg { still:=[2]} [] [] trivial
def Zuj(F:Nat)(a0:yU):yO (Bool):=
 (MO F a0).bind λa=>
 if a=ae then
  ab (a0 !=0)
 else
 ab af
def Zr1:Fs yb:=⟨143,[.v .u64],[],[.u64],(zN .bool),λx=>Zuj yD x⟩
theorem Zyz:Zr1.Ok:=bg { still:=[2,3]} [] [MP] ⟨Zji,aB⟩
def Zjj(F:Nat)(s:(yU×Int×Int×aLu)):yO ((yU×Int×Int×aLu)⊕aLu):=
 if(ag (s.2.2.1 < s.2.1))=ae then
  if(ag (0<=wi (56 - (wi (8*s.2.2.1)))))=ae then
   let a:yU:=Zz s.1 (min (wi (56 - (wi (8*s.2.2.1)))).toNat 64)
   if(bp s.2.2.1 8)=ae then
    (s.2.2.2[(0+s.2.2.1.toNat)]?).bind λb=>
    let c:aLu:=s.2.2.2.set (0+s.2.2.1.toNat) (w8 (a.toNat:Int))
    ab (.inl (s.1,s.2.1,wi (s.2.2.1+1),c))
   else
   ad
  else
  ad
 else
 ab (.inr s.2.2.2)
def ZkI:Lp:=⟨[(0,.v .u64),(3,.view 0 [] 1 0 8),(7,.v yI),(8,.v yI)],[.var (.v aLS) ae],[.u64,yI,yI,aLS],[⟨.exit 0,[(3,.view 0 [] 1 0 8)],[.var (.v aLS) ae],[aLS]⟩],Zc (Zjj yD) yD⟩
theorem Zoe:ZkI.cj yb 145 0:=ZQ { still:=[2]} [] [] trivial
def yA(F:Nat)(a0:yU):yO (aLu):=
 (Zc (Zjj F) F (a0,8,0,[0,0,0,0,0,0,0,0])).bind λa=>
 ab ((a.drop 0).take 8)
def MQ:Fs yb:=⟨145,[.v .u64],[],[.u64],(zN aLv),λx=>yA yD x⟩
theorem ZkJ:MQ.Ok:=bg { still:=[2]} [(0,ZkI)] [] trivial ⟨Zoe,aB⟩
def ZL9:ByteArray:=⟨#[115,105,103]⟩
def MR(F:Nat)(a0:yU)(a1:yU)(a2:aLu):yO (yU):=
 (yA F a0).bind λa=>
 (yA F a1).bind λb=>
 (VI F ZL9 [a,b,a2]).bind λc=>
 (Va F c).bind λd=>
 ab d
def MS:Fs yb:=⟨192,[.v .u64,.v .u64,.v aLy],[],[.u64,.u64,aLy],(zN .u64),λx=>MR yD x.1 x.2.1 x.2.2⟩
def ZMX:HI:={ still:=[6,7,9,12,13],eC:=[11]}
theorem Zfy:MS.Ok:=bg ZMX [] [MQ,Qe,QP] ⟨ZkJ,Qf,tq,aB⟩
def tF(F:Nat)(a0:yU):yO (yU):=
 ab (a0 % 2305843009213688669)
def MT:Fs yb:=⟨215,[.v .u64],[],[.u64],(zN .u64),λx=>tF yD x⟩
theorem Zo9:MT.Ok:=bg { still:=[2]} [] [] trivial
def ZhZ(F:Nat)(a0:yU)(a1:yU):yO (yU):=
 ab ((a0+a1) % 2305843009213688669)
def ZgC:Fs yb:=⟨216,[.v .u64,.v .u64],[],[.u64,.u64],(zN .u64),λx=>ZhZ yD x.1 x.2⟩
theorem Zm3:ZgC.Ok:=bg { still:=[4]} [] [] trivial
def Zr2(F:Nat)(a0:yU)(a1:yU):yO (yU):=
 (tF F a0).bind λa=>
 (tF F a1).bind λb=>
 (ZhZ F a b).bind λc=>
 ab c
def Zpa:Fs yb:=⟨194,[.v .u64,.v .u64],[],[.u64,.u64],(zN .u64),λx=>Zr2 yD x.1 x.2⟩
theorem Zwb:Zpa.Ok:=bg { still:=[4,5,6,7,8]} [] [MT,ZgC] ⟨Zo9,Zm3,aB⟩
def ZgD(F:Nat)(a0:yU)(a1:yU):yO (yU):=
 (wO F a0 a1).bind λa=>
 (W7 F a.1 a.2 2305843009213688669).bind λb=>
 ab b
def Zfz:Fs yb:=⟨217,[.v .u64,.v .u64],[],[.u64,.u64],(zN .u64),λx=>ZgD yD x.1 x.2⟩
theorem Zlj:Zfz.Ok:=bg { still:=[4,8,9,13,14]} [] [JA,wM] ⟨Zkk,IY,aB⟩
def Zr3(F:Nat)(a0:yU)(a1:yU):yO (yU):=
 (tF F a0).bind λa=>
 (tF F a1).bind λb=>
 (ZgD F a b).bind λc=>
 ab c
def Zpb:Fs yb:=⟨195,[.v .u64,.v .u64],[],[.u64,.u64],(zN .u64),λx=>Zr3 yD x.1 x.2⟩
theorem Zwc:Zpb.Ok:=bg { still:=[4,5,6,7,8]} [] [MT,Zfz] ⟨Zo9,Zlj,aB⟩
def Zm4(F:Nat)(a0:yU)(a1:yU)(a2:aLu)(g:yU):yO (gn):=
 (YU F a1).bind λa=>
 (xU F a g).bind λb=>
 (YU F a0).bind λc=>
 (MR F b c a2).bind λd=>
 (Zr3 F d a0).bind λe=>
 (Zr2 F a1 e).bind λf=>
 ab (b,f)
def ZkK:Fs yb:=⟨144,[.v .u64,.v .u64,.v aLy,.v .u64],[],[.u64,.u64,aLy,.u64],(zN hP),λx=>Zm4 yD x.1 x.2.1 x.2.2.1 x.2.2.2⟩
def ZMY:HI:={ still:=[9,10,11,14,16,17,18,19,20,21,22]}
theorem Zr4:ZkK.Ok:=bg ZMY [] [QR,xV,MS,Zpb,Zpa] ⟨tA,MG,Zfy,Zwc,Zwb,aB⟩
def ZMa:ByteArray:=⟨#[110,111,110,99,101]⟩
def Zr5(F:Nat)(a0:yU)(a1:aLu):yO (gn):=
 (Zuj F a0).bind λa=>
 if(!a)=ae then
  ab (0,0)
 else
 (yA F a0).bind λb=>
 (VI F ZMa [b,a1]).bind λc=>
 (Va F c).bind λd=>
 (Zm4 F a0 d a1 1).bind λe=>
 ab e
def Zpc:Fs yb:=⟨74,[.v .u64,.v aLy],[],[.u64,aLy],(zN hP),λx=>Zr5 yD x.1 x.2⟩
def ZMZ:HI:={ still:=[5,9,10,13,14,15,16],eC:=[12]}
theorem Zwd:Zpc.Ok:=bg ZMZ [] [Zr1,MQ,Qe,QP,ZkK] ⟨Zyz,ZkJ,Qf,tq,Zr4,aB⟩
def Zwe(F:Nat)(a0:dF)(a1:Tx):yO (gn):=
 (eA F a1).bind λa=>
 (Zr5 F a0.1 a).bind λb=>
 ab b
def MU(F:Nat):Fs yb:=⟨31,[.v fm,.v bD],[],[fm,bD],(zN hP),λx=>Zwe F x.1 x.2⟩
def Ztk:Fs yb:=MU yD
theorem Zr6:Ztk.Ok:=bg { still:=[6,7,8]} [] [KF,Zpc] ⟨KG,Zwd,aB⟩
def Zr7(F:Nat)(a0:yU):yO (yU):=
 (QQ F a0).bind λa=>
 (QH F a 2305843009213688668).bind λb=>
 ab b
def Zpd:Fs yb:=⟨193,[.v .u64],[],[.u64],(zN .u64),λx=>Zr7 yD x⟩
theorem Zwf:Zpd.Ok:=bg { still:=[2,3,4]} [] [xL,wP] ⟨LN,JG,aB⟩
def Zm5(F:Nat)(a0:yU)(a1:aLu)(a2:yU)(j:gn):yO (Bool):=
 if(a0==1)=ae then
  ab af
 else
 (Y4 F a0).bind λa=>
 if(!a)=ae then
  ab af
 else
 (Y4 F a2).bind λb=>
 if(!b)=ae then
  ab af
 else
 (Y4 F j.1).bind λc=>
 if(!c)=ae then
  ab af
 else
 (MO F j.2).bind λd=>
 if(!d)=ae then
  ab af
 else
 (MR F j.1 a0 a1).bind λe=>
 (Vp F a0 e).bind λf=>
 (Zr7 F a2).bind λg=>
 (ME F [j.1,f,g]).bind λh=>
 (YU F j.2).bind λi=>
 ab (i==h)
def ZkL:Fs yb:=⟨142,[.v .u64,.v aLy,.v .u64,.v hP],[],[.u64,aLy,.u64,hP],(zN .bool),λx=>Zm5 yD x.1 x.2.1 x.2.2.1 x.2.2.2⟩
def ZM0:HI:={ still:=[8,13,18,24,30,36,38,39,40,41,43,45,48]}
theorem Zr8:ZkL.Ok:=bg ZM0 [] [WI,MP,MS,xM,Zpd,MF,QR] ⟨WW,Zji,Zfy,LO,Zwf,ZmW,tA,aB⟩
def Zwg(F:Nat)(a0:yU)(a1:aLu)(a2:gn):yO (Bool):=
 (Zm5 F a0 a1 1 a2).bind λa=>
 ab a
def MV(F:Nat):Fs yb:=⟨73,[.v .u64,.v aLy,.v hP],[],[.u64,aLy,hP],(zN .bool),λx=>Zwg F x.1 x.2.1 x.2.2⟩
def Ztl:Fs yb:=MV yD
theorem Zr9:Ztl.Ok:=bg { still:=[6,7,8,9]} [] [ZkL] ⟨Zr8,aB⟩
def Zka(F:Nat):yO (aE):=
 ab ([[1,0,0,0,0,0,0,0,0,0,0,0,0,0,0,0,0,0,0,0,0,0,0,0,0,0,0,0,0,0,0,0],[2,0,0,0,0,0,0,0,0,0,0,0,0,0,0,0,0,0,0,0,0,0,0,0,0,0,0,0,0,0,0,0]],[(100,500,10,4,5,9000),(100,500,10,4,5,9000)],[6000,4000],0,0,[])
def VL(F:Nat):Fs yb:=⟨38,[],[],[],(zN Zw),λx=>Zka F⟩
def Zjk:Fs yb:=VL yD
theorem Zh9:Zjk.Ok:=bg {} [] [] trivial
def Q1(F:Nat)(a0:yG)(a1:aLC):yO (yG):=
 (a0.2.1[0]?).bind λa=>
 (a1[0]?).bind λb=>
 (a0.2.1[0]?).bind λc=>
 (a0.2.1[1]?).bind λd=>
 (a1[1]?).bind λe=>
 ((a0.2.1.set 0 (wi (a+b)))[1]?).bind λf=>
 if(cg 0 a0.2.2.1.length 40)=ae then
  ab (a0.1,(a0.2.1.set 0 (wi (a+b))).set 1 (wi (d+e)),a0.2.2.1,a0.2.2.2)
 else
 ad
def ZZ(F:Nat)(a0:Int)(a1:Int)(a2:Int):yO (Bool):=
 if(ag (a0 >= a1))=ae then
  ab (ag (a0<=a2))
 else
 ab af
def Q2(F:Nat)(a0:bw):yO (Bool):=
 (ZZ F a0.1 0 65536).bind λa=>
 if a=ae then
  (ZZ F a0.2.1 a0.1 1125899906842624).bind λb=>
  if b=ae then
   (ZZ F a0.2.2.1 1 4096).bind λc=>
   if c=ae then
    (ZZ F a0.2.2.2.1 0 16).bind λd=>
    if d=ae then
     (ZZ F a0.2.2.2.2.1 1 1125899906842624).bind λe=>
     if e=ae then
      (ZZ F a0.2.2.2.2.2 0 1125899906842624).bind λf=>
      ab f
     else
     ab af
    else
    ab af
   else
   ab af
  else
  ab af
 else
 ab af
def ZgE(F:Nat)(s:(yU×yU×yU)):yO ((yU×yU×yU)⊕yU):=
 if(ag (s.2.1 > 0))=ae then
  if((s.2.1 % 2)==1)=ae then
   ab (.inl ((s.1+s.1) % 4611686018427377339,s.2.1 / 2,(s.2.2+s.1) % 4611686018427377339))
  else
  ab (.inl ((s.1+s.1) % 4611686018427377339,s.2.1 / 2,s.2.2))
 else
 ab (.inr s.2.2)
def Zjl(F:Nat)(a0:yU)(a1:yU):yO (yU):=
 (Zc (ZgE F) F (a0,a1,0)).bind λa=>
 ab a
end
end Go.Proofs.YtcbhhaigilifgaaGreat
end
section
set_option maxRecDepth 4000
namespace Go.Proofs.YtcbhhaigilifgaaGreat
open Go Go.Ev
noncomputable def Q3(F:Nat)(a0:yU)(a1:yU):yO yU:=if ag (a0.toNat < 4611686018427377339)=ae then ab (yan (a0.toNat*a1.toNat % 4611686018427377339)) else Zjl F a0 a1
end Go.Proofs.YtcbhhaigilifgaaGreat
end
section
set_option maxRecDepth 4000
namespace Go.Proofs.YtcbhhaigilifgaaGreat
open Go Go.Ev
noncomputable section
def ZgF(F:Nat)(s:(yU×yU×yU)):yO ((yU×yU×yU)⊕yU):=
 if(ag (s.2.1 > 0))=ae then
  if((s.2.1 % 2)==1)=ae then
   (Q3 F s.2.2 s.1).bind λa=>
   (Q3 F s.1 s.1).bind λb=>
   ab (.inl (b,s.2.1 / 2,a))
  else
  (Q3 F s.1 s.1).bind λc=>
  ab (.inl (c,s.2.1 / 2,s.2.2))
 else
 ab (.inr s.2.2)
def Zjm(F:Nat)(a0:yU)(a1:yU):yO (yU):=
 (Zc (ZgF F) F (a0,a1,1)).bind λa=>
 ab a
end
end Go.Proofs.YtcbhhaigilifgaaGreat
end
section
set_option maxRecDepth 4000
namespace Go.Proofs.YtcbhhaigilifgaaGreat
open Go Go.Ev
noncomputable def Q4(F:Nat)(a0:yU)(a1:yU):yO yU:=if ag (a0.toNat < 4611686018427377339)=ae then ab (yan (gO 4611686018427377339 64 a0.toNat a1.toNat 1)) else Zjm F a0 a1
end Go.Proofs.YtcbhhaigilifgaaGreat
end
section
set_option maxRecDepth 4000
namespace Go.Proofs.YtcbhhaigilifgaaGreat
open Go Go.Ev
noncomputable section
def Xi(F:Nat)(a0:yU):yO (Bool):=
 if(ag (a0 >= 1))=ae then
  if(ag (a0 < 4611686018427377339))=ae then
   (Q4 F a0 2305843009213688669).bind λa=>
   ab (a==1)
  else
  ab af
 else
 ab af
def MW(F:Nat)(a0:yU):yO (Bool):=
 (Xi F a0).bind λa=>
 if a=ae then
  ab (a0 !=1)
 else
 ab af
def XG(F:Nat):(Int×aLH×Int×Chan×bo)->yO ((Int×aLH×Int×Chan×bo)⊕((Int×Chan×bo)⊕(Int×Chan×bo)))
 |(e,b,a,c,d)=>
 if(ag (a < 5))=ae then
  (idx b a).bind λf=>
  (MW F f).bind λg=>
  if(!g)=ae then
   ab (.inr (.inl (1,c,d)))
  else
  ab (.inl (e,b,wi (a+1),c,d))
 else
 ab (.inr (.inr (e,c,d)))
def XH(F:Nat)(s:(Int×Chan)):yO ((Int×Chan)⊕((Int×Chan)⊕Chan)):=
 if(ag (s.1 < 2))=ae then
  if(bp s.1 2)=ae then
   (s.2.2.2.1[s.1.toNat]?).bind λa=>
   if(bp s.1 2)=ae then
    (s.2.2.2.2.1[s.1.toNat]?).bind λb=>
    (Q2 F b).bind λc=>
    if(!c)=ae then
     ab (.inr (.inl (1,s.2)))
    else
    (Zc (XG F) F (s.1,[a.1,a.2.1,a.2.2.1,a.2.2.2.1,a.2.2.2.2],0,s.2,a)).bind λd=>
    match d with
    |.inl e=>
     ab (.inr (.inl (e.1,e.2.1)))
    |.inr f=>
     ab (.inl (wi (f.1+1),f.2.1))
   else
   ad
  else
  ad
 else
 ab (.inr (.inr s.2))
def V0(F:Nat)(a0:Chan):yO (Int):=
 (ZZ F a0.2.1 1 1125899906842624).bind λa=>
 if(!a)=ae then
  ab 1
 else
 (ZZ F a0.1.2 0 63).bind λb=>
 if(!b)=ae then
  ab 1
 else
 (ZZ F a0.2.2.2.2 0 1).bind λc=>
 if(!c)=ae then
  ab 1
 else
 (Zc (XH F) F (0,a0)).bind λd=>
 match d with
 |.inl e=>
  ab e.1
 |.inr f=>
  (f.2.2.2.1[0]?).bind λg=>
  (f.2.2.2.1[1]?).bind λh=>
  if(ag ((wi (g.2.1+h.2.1)) > f.2.1))=ae then
   ab 10
  else
  ab 0
def Yz(F:Nat)(a0:Int)(a1:Int)(a2:Int):yO (Bool):=
 if(ag (a0 >= a1))=ae then
  ab (ag (a0<=a2))
 else
 ab af
def MX(F:Nat)(a0:Cond):yO (Bool):=
 (Xi F a0.2.2.2.1).bind λa=>
 if a=ae then
  if(a0.2.2.2.1 !=1)=ae then
   (Yz F a0.1 0 1).bind λb=>
   if b=ae then
    (Yz F a0.2.1 1 1048576).bind λc=>
    if c=ae then
     (Yz F a0.2.2.1 1 1125899906842624).bind λd=>
     if d=ae then
      (Yz F a0.2.2.2.2 1 1048576).bind λe=>
      ab e
     else
     ab af
    else
    ab af
   else
   ab af
  else
  ab af
 else
 ab af
def Q5(F:Nat)(a0:Cond)(a1:Cond):yO (Bool):=
 if(ag (a0.1 < a1.1))=ae then
  ab ae
 else
 if(a0.1==a1.1)=ae then
  ab (ag (a0.2.1 < a1.2.1))
 else
 ab af
def WN(F:Nat):(Int×Int×Int×Int×yG)->yO ((Int×Int×Int×Int×yG)⊕(Int×Int×yG))
 |(c,d,e,a,b)=>
 let f:Bool:=ag (a < (b.2.2.1.length:Int))
 if f=ae then
  (idx b.2.2.1 a).bind λg=>
  if(g.1==(wi (1 - c)))=ae then
   (idx b.2.2.1 a).bind λh=>
   ab (.inl (c,wi (d+1),wi (e+h.2.2.1),wi (a+1),b))
  else
  ab (.inl (c,d,e,wi (a+1),b))
 else
 ab (.inr (d,e,b))
def VM(F:Nat)(a0:yG)(a1:Int):yO ((Int×Int)):=
 (Zc (WN F) F (a1,0,0,0,a0)).bind λa=>
 ab (a.1,a.2.1)
def Vr(F:Nat)(s:(Int×Int×yG)):yO ((Int×Int×yG)⊕(Int×yG)):=
 if(ag (s.2.1 < (s.2.2.2.2.1.length:Int)))=ae then
  (idx s.2.2.2.2.1 s.2.1).bind λa=>
  ab (.inl (wi (s.1+a.2.2.1),wi (s.2.1+1),s.2.2))
 else
 ab (.inr (s.1,s.2.2))
def Q6(F:Nat)(a0:yG):yO (Int):=
 (a0.2.1[0]?).bind λa=>
 (a0.2.1[1]?).bind λb=>
 (Zc (Vr F) F (wi (a+b),0,a0)).bind λc=>
 ab c.1
def ZcQ(F:Nat)(a0:Int):yO (Int):=
 (ZZ F a0 0 16).bind λa=>
 if(!a)=ae then
  ab 0
 else
 ab (wi (36+(wi ((wi (4+a0))*8))))
def MY(F:Nat)(a0:Int)(a1:Int):yO (Int):=
 (ZZ F a0 0 1000).bind λa=>
 if(!a)=ae then
  ab 0
 else
 (ZcQ F a1).bind λb=>
 ab (wi (a0*b))
def MZ(F:Nat)(a0:Chan)(a1:yG):yO (Int):=
 (MY F a1.2.2.2 (a1.2.2.1.length:Int)).bind λa=>
 ab (wi (a+660))
def YA(F:Nat)(s:(Int×Chan×yG)):yO ((Int×Chan×yG)⊕((Bool×Chan×yG)⊕(Chan×yG))):=
 if(ag (s.1 < (s.2.2.2.2.1.length:Int)))=ae then
  (idx s.2.2.2.2.1 s.1).bind λa=>
  (MX F a).bind λb=>
  if(!b)=ae then
   ab (.inr (.inl (af,s.2.1,s.2.2)))
  else
  if(ag (s.1 > 0))=ae then
   (idx s.2.2.2.2.1 (wi (s.1 - 1))).bind λc=>
   (idx s.2.2.2.2.1 s.1).bind λd=>
   (Q5 F c d).bind λe=>
   if(!e)=ae then
    ab (.inr (.inl (af,s.2.1,s.2.2)))
   else
   (idx s.2.2.2.2.1 s.1).bind λf=>
   (idx s.2.2.2.2.1 s.1).bind λg=>
   if(bp (wi (1 - g.1)) 2)=ae then
    (s.2.1.2.2.2.1[(wi (1 - g.1)).toNat]?).bind λh=>
    if(ag (f.2.2.1 < h.2.2.2.2.1))=ae then
     ab (.inr (.inl (af,s.2.1,s.2.2)))
    else
    ab (.inl (wi (s.1+1),s.2.1,s.2.2))
   else
   ad
  else
  (idx s.2.2.2.2.1 s.1).bind λi=>
  (idx s.2.2.2.2.1 s.1).bind λj=>
  if(bp (wi (1 - j.1)) 2)=ae then
   (s.2.1.2.2.2.1[(wi (1 - j.1)).toNat]?).bind λk=>
   if(ag (i.2.2.1 < k.2.2.2.2.1))=ae then
    ab (.inr (.inl (af,s.2.1,s.2.2)))
   else
   ab (.inl (wi (s.1+1),s.2.1,s.2.2))
  else
  ad
 else
 ab (.inr (.inr (s.2.1,s.2.2)))
def Y9(F:Nat)(s:(Int×Chan×yG)):yO ((Int×Chan×yG)⊕((Bool×Chan×yG)⊕(Chan×yG))):=
 if(ag (s.1 < 2))=ae then
  (VM F s.2.2 s.1).bind λa=>
  if(bp s.1 2)=ae then
   (s.2.1.2.2.2.1[s.1.toNat]?).bind λb=>
   if(ag (a.1 > b.2.2.2.1))=ae then
    ab (.inr (.inl (af,s.2.1,s.2.2)))
   else
   if(bp s.1 2)=ae then
    (s.2.1.2.2.2.1[s.1.toNat]?).bind λc=>
    if(ag (a.2 > c.2.2.2.2.2))=ae then
     ab (.inr (.inl (af,s.2.1,s.2.2)))
    else
    ab (.inl (wi (s.1+1),s.2.1,s.2.2))
   else
   ad
  else
  ad
 else
 ab (.inr (.inr (s.2.1,s.2.2)))
def XV(F:Nat)(a0:Chan)(a1:yG):yO (Bool):=
 (V0 F a0).bind λa=>
 if(a !=0)=ae then
  ab af
 else
 (Yz F a1.1 0 1048576).bind λb=>
 if(!b)=ae then
  ab af
 else
 (a1.2.1[0]?).bind λc=>
 (Yz F c 0 1125899906842624).bind λd=>
 if(!d)=ae then
  ab af
 else
 (a1.2.1[1]?).bind λe=>
 (Yz F e 0 1125899906842624).bind λf=>
 if(!f)=ae then
  ab af
 else
 (Yz F a1.2.2.2 0 1000).bind λg=>
 if(!g)=ae then
  ab af
 else
 if(ag ((a1.2.2.1.length:Int) > 16))=ae then
  ab af
 else
 (Zc (YA F) F (0,a0,a1)).bind λh=>
 match h with
 |.inl i=>
  ab i.1
 |.inr j=>
  (Zc (Y9 F) F (0,j.1,j.2)).bind λk=>
  match k with
  |.inl l=>
   ab l.1
  |.inr m=>
   (Q6 F m.2).bind λn=>
   if(n==m.1.2.1)=ae then
    if(bp m.1.2.2.2.2 2)=ae then
     (m.2.2.1[m.1.2.2.2.2.toNat]?).bind λo=>
     (MZ F m.1 m.2).bind λp=>
     ab (ag (o >= p))
    else
    ad
   else
   ab af
def QU(F:Nat)(a0:Int)(a1:Int)(a2:Int):yO (Bool):=
 if(ag (a0 >= a1))=ae then
  ab (ag (a0<=a2))
 else
 ab af
def XN(F:Nat)(s:(Int×Z3)):yO ((Int×Z3)⊕((Bool×Z3)⊕Z3)):=
 if(ag (s.1 < (s.2.1.length:Int)))=ae then
  (idx s.2.1 s.1).bind λa=>
  (Xi F a).bind λb=>
  if(!b)=ae then
   ab (.inr (.inl (af,s.2)))
  else
  ab (.inl (wi (s.1+1),s.2))
 else
 ab (.inr (.inr s.2))
def Qr(F:Nat)(a0:Z3):yO (Bool):=
 if(ag ((a0.1.length:Int) > 12))=ae then
  ab af
 else
 if(ag (a0.2.1 < 0))=ae then
  ab af
 else
 if(ag (a0.2.1 > 1048576))=ae then
  ab af
 else
 if(ag (a0.2.2.1 < 0))=ae then
  ab af
 else
 if(ag (a0.2.2.1 > 1048576))=ae then
  ab af
 else
 (Zc (XN F) F (0,a0)).bind λa=>
 match a with
 |.inl b=>
  ab b.1
 |.inr c=>
  (Xi F c.2.2.2).bind λd=>
  if(c.2.2.2==0)=ae then
   ab ae
  else
  ab d
def X2(F:Nat)(s:(Int×ZY)):yO ((Int×ZY)⊕((Bool×ZY)⊕ZY)):=
 if(ag (s.1 < (s.2.length:Int)))=ae then
  (idx s.2 s.1).bind λa=>
  (Qr F a).bind λb=>
  if(!b)=ae then
   ab (.inr (.inl (af,s.2)))
  else
  ab (.inl (wi (s.1+1),s.2))
 else
 ab (.inr (.inr s.2))
def Xj(F:Nat)(a0:ZY):yO (Bool):=
 if(ag ((a0.length:Int) < 1))=ae then
  ab af
 else
 if(ag ((a0.length:Int) > 4))=ae then
  ab af
 else
 (Zc (X2 F) F (0,a0)).bind λa=>
 match a with
 |.inl b=>
  ab b.1
 |.inr c=>
  ab ae
def XI(F:Nat)(s:(Int×ai)):yO ((Int×ai)⊕((Bool×ai)⊕ai)):=
 if(ag (s.1 < (s.2.1.length:Int)))=ae then
  (idx s.2.1 s.1).bind λa=>
  (QU F a.2 1 1099511627776).bind λb=>
  if(!b)=ae then
   ab (.inr (.inl (af,s.2)))
  else
  ab (.inl (wi (s.1+1),s.2))
 else
 ab (.inr (.inr s.2))
def XJ(F:Nat)(s:(Int×ai)):yO ((Int×ai)⊕((Bool×ai)⊕ai)):=
 if(ag (s.1 < (s.2.2.1.length:Int)))=ae then
  (idx s.2.2.1 s.1).bind λa=>
  (QU F a.1 0 1099511627776).bind λb=>
  if(!b)=ae then
   ab (.inr (.inl (af,s.2)))
  else
  (idx s.2.2.1 s.1).bind λc=>
  (Xj F c.2).bind λd=>
  if(!d)=ae then
   ab (.inr (.inl (af,s.2)))
  else
  ab (.inl (wi (s.1+1),s.2))
 else
 ab (.inr (.inr s.2))
def V1(F:Nat)(a0:ai):yO (Bool):=
 if(ag ((a0.1.length:Int) > 8))=ae then
  ab af
 else
 if(ag ((a0.2.1.length:Int) > 8))=ae then
  ab af
 else
 (QU F a0.2.2 0 1099511627776).bind λa=>
 if(!a)=ae then
  ab af
 else
 (Zc (XI F) F (0,a0)).bind λb=>
 match b with
 |.inl c=>
  ab c.1
 |.inr d=>
  (Zc (XJ F) F (0,d)).bind λe=>
  match e with
  |.inl f=>
   ab f.1
  |.inr g=>
   ab ae
def W2(F:Nat)(s:(Int×Int×ai)):yO ((Int×Int×ai)⊕(Int×ai)):=
 if(ag (s.2.1 < (s.2.2.1.length:Int)))=ae then
  (idx s.2.2.1 s.2.1).bind λa=>
  ab (.inl (wi (s.1+a.2),wi (s.2.1+1),s.2.2))
 else
 ab (.inr (s.1,s.2.2))
def W3(F:Nat)(s:(Int×Int×ai)):yO ((Int×Int×ai)⊕(Int×ai)):=
 if(ag (s.2.1 < (s.2.2.2.1.length:Int)))=ae then
  (idx s.2.2.2.1 s.2.1).bind λa=>
  ab (.inl (wi (s.1 - a.1),wi (s.2.1+1),s.2.2))
 else
 ab (.inr (s.1,s.2.2))
def WE(F:Nat)(a0:ai):yO (Int):=
 (Zc (W2 F) F (wi (0 - a0.2.2),0,a0)).bind λa=>
 (Zc (W3 F) F (a.1,0,a.2)).bind λb=>
 ab b.1
def ZfA(F:Nat)(a0:aLH):yO (ZY):=
 if(cg 0 a0.length 8)=ae then
  ab [(a0,0,0,0)]
 else
 ad
def ZeO(F:Nat)(a0:yU)(a1:yU):yO (ZY):=
 (ZfA F [a0,a1]).bind λa=>
 ab a
def VN(F:Nat)(a0:Chan):yO (ZY):=
 (a0.2.2.1[0]?).bind λa=>
 (a0.2.2.1[1]?).bind λb=>
 (ZeO F a.1 b.1).bind λc=>
 ab c
def Xq(F:Nat):(Int×Tx×Tx×Int×aLJ×aLz×aLD)->yO ((Int×Tx×Tx×Int×aLJ×aLz×aLD)⊕(Tx×Tx×Int×aLJ×aLz×aLD))
 |(a,b,d,e,f,g,c)=>
 if(ag (a < (b.1.length:Int)))=ae then
  (idx b.1 a).bind λh=>
  if(cg 0 h.2.2.1.length 16)=ae then
   if(cg c.length 1 80)=ae then
    let i:aLD:=c++([(h.1,(h.2.1,h.2.2.1,h.2.2.2))]:yL In)
    ab (.inl (wi (a+1),b,d,e,f,()::g,i))
   else
   ad
  else
  ad
 else
 ab (.inr (b,d,e,f,g,c))
def Xr(F:Nat):(Int×Int×Tx×Tx×Int×aLJ×aLz×aLD×Int×aLO)->yO ((Int×Int×Tx×Tx×Int×aLJ×aLz×aLD×Int×aLO)⊕(Int×Tx×Tx×Int×aLJ×aLz×aLD×Int×aLO))
 |(b,c,a,e,f,g,h,i,j,d)=>
 (idx a.2.1 b).bind λk=>
 if(ag (c < (k.2.length:Int)))=ae then
  (idx a.2.1 b).bind λl=>
  (idx l.2 c).bind λm=>
  if(cg 0 m.1.length 8)=ae then
   if(cg d.length 1 48)=ae then
    let n:aLO:=d++([(m.1,m.2.1,m.2.2.1,m.2.2.2)]:yL Z3)
    ab (.inl (b,wi (c+1),a,e,f,g,h,i,j,n))
   else
   ad
  else
  ad
 else
 ab (.inr (b,a,e,f,g,h,i,j,d))
def Wl(F:Nat):(Int×Tx×Tx×Int×aLJ×aLz×aLD)->yO ((Int×Tx×Tx×Int×aLJ×aLz×aLD)⊕(Tx×Tx×Int×aLJ×aLz×aLD))
 |(j,k,l,m,n,o,p)=>
 if(ag (j < (k.2.1.length:Int)))=ae then
  (idx k.2.1 j).bind λq=>
  (Zc (Xr F) F (j,0,k,l,m,n,o,p,q.1,[])).bind λ(d,e,f,g,a,h,i,b,c)=>
  if(cg a.length 1 32)=ae then
   let r:aLJ:=a++([(b,c)]:yL Out)
   ab (.inl (wi (d+1),e,f,g,r,h,i))
  else
  ad
 else
 ab (.inr (k,l,m,n,o,p))
def NA(F:Nat)(a0:Tx):yO (Tx):=
 (Zc (Xq F) F (0,a0,([],[],0),a0.2.2,[],[],[])).bind λ(d,e,f,g,h,i)=>
 (Zc (Wl F) F (0,d,e,f,g,h,i)).bind λ(_,_,c,b,_,a)=>
 ab (a,b,c)
abbrev zJ:=Chan×aLL×Tx×aLD×aLJ×Int
def Zbw(F:Nat):(Int×Chan×aLL×Tx)->yO (zJ)
 |(a,b,c,d)=>
 (VN F b).bind λe=>
 ab (b,c,d,[(b.1,(0,[],0))],[(a,e)],0)
def Xa(F:Nat):(Int×Int×zJ)->yO ((Int×Int×zJ)⊕(Int×zJ))
 |(a,c,e,b,f,d,g,h)=>
 if(bp a 2)=ae then
  (b[a.toNat]?).bind λi=>
  if(ag (c < (i.1.length:Int)))=ae then
   if(bp a 2)=ae then
    (b[a.toNat]?).bind λj=>
    (idx j.1 c).bind λk=>
    if(cg d.length 1 80)=ae then
     let l:aLD:=d++([(k.1,(0,[],0))]:yL In)
     ab (.inl (a,wi (c+1),e,b,f,l,g,h))
    else
    ad
   else
   ad
  else
  ab (.inr (a,e,b,f,d,g,h))
 else
 ad
def YB(F:Nat):(Int×zJ)->yO ((Int×zJ)⊕(zJ))
 |(h,i,j,k,l,m,n)=>
 if(ag (h < 2))=ae then
  (Zc (Xa F) F (h,0,i,j,k,l,m,n)).bind λ(a,d,b,e,f,c,g)=>
  if(bp a 2)=ae then
   (b[a.toNat]?).bind λo=>
   if(cg c.length o.2.1.length 32)=ae then
    ab (.inl (wi (a+1),d,b,e,f,c++o.2.1,g))
   else
   ad
  else
  ad
 else
 ab (.inr (i,j,k,l,m,n))
def Q7(F:Nat)(a0:Chan)(a1:Int)(a2:aLL):yO (Tx):=
 (Zbw F (a1,a0,a2,([],[],0))).bind λ(d,e,f,g,h,i)=>
 (Zc (YB F) F (0,d,e,f,g,h,i)).bind λ(_,_,_,a,b,c)=>
 (NA F (a,b,c)).bind λj=>
 ab j
def Vs(F:Nat)(a0:mM):yO (Bool):=
 if(ag (a0.1 >= 0))=ae then
  if(ag (a0.1<=3))=ae then
   ab (ag ((a0.2.1.length:Int)<=12))
  else
  ab af
 else
 ab af
def YC(F:Nat)(s:(Int×Int×Tx×In)):yO ((Int×Int×Tx×In)⊕((Bool×Tx×In)⊕(Int×Tx×In))):=
 if(ag (s.2.1 < s.1))=ae then
  (idx s.2.2.1.1 s.2.1).bind λa=>
  if(ag (a.1=s.2.2.2.1))=ae then
   ab (.inr (.inl (af,s.2.2.1,s.2.2.2)))
  else
  ab (.inl (s.1,wi (s.2.1+1),s.2.2.1,s.2.2.2))
 else
 ab (.inr (.inr (s.1,s.2.2.1,s.2.2.2)))
def Xb(F:Nat)(s:(Int×Tx)):yO ((Int×Tx)⊕((Bool×Tx)⊕Tx)):=
 if(ag (s.1 < (s.2.1.length:Int)))=ae then
  (idx s.2.1 s.1).bind λa=>
  if(ag (a.1.2 < 0))=ae then
   ab (.inr (.inl (af,s.2)))
  else
  if(ag (a.1.2 > 63))=ae then
   ab (.inr (.inl (af,s.2)))
  else
  (Vs F a.2).bind λb=>
  if(!b)=ae then
   ab (.inr (.inl (af,s.2)))
  else
  (Zc (YC F) F (s.1,0,s.2,a)).bind λc=>
  match c with
  |.inl d=>
   ab (.inr (.inl (d.1,d.2.1)))
  |.inr e=>
   ab (.inl (wi (e.1+1),e.2.1))
 else
 ab (.inr (.inr s.2))
def Xc(F:Nat)(s:(Int×Int×Tx)):yO ((Int×Int×Tx)⊕((Bool×Tx)⊕(Int×Tx))):=
 if(ag (s.2.1 < (s.2.2.2.1.length:Int)))=ae then
  (idx s.2.2.2.1 s.2.1).bind λa=>
  if(ag (a.1 < 0))=ae then
   ab (.inr (.inl (af,s.2.2)))
  else
  if(ag (a.1 > 1125899906842624))=ae then
   ab (.inr (.inl (af,s.2.2)))
  else
  (Xj F a.2).bind λb=>
  if(!b)=ae then
   ab (.inr (.inl (af,s.2.2)))
  else
  ab (.inl (wi (s.1+a.1),wi (s.2.1+1),s.2.2))
 else
 ab (.inr (.inr (s.1,s.2.2)))
def WR(F:Nat)(a0:Tx):yO (Bool):=
 if(ag ((a0.1.length:Int) < 1))=ae then
  ab af
 else
 if(ag ((a0.1.length:Int) > 64))=ae then
  ab af
 else
 if(ag ((a0.2.1.length:Int) > 64))=ae then
  ab af
 else
 if(ag (a0.2.2 < 0))=ae then
  ab af
 else
 (Zc (Xb F) F (0,a0)).bind λa=>
 match a with
 |.inl b=>
  ab b.1
 |.inr c=>
  (Zc (Xc F) F (0,0,c)).bind λd=>
  match d with
  |.inl e=>
   ab e.1
  |.inr f=>
   ab (ag (f.1<=1125899906842624))
def Xs(F:Nat)(s:(yU×Int×aLu)):yO ((yU×Int×aLu)⊕aLu):=
 if(ag (s.2.1 >= 0))=ae then
  if(ag (0<=s.2.1))=ae then
   let a:yB:=w8 ((Zz s.1 (min s.2.1.toNat 64)).toNat:Int)
   if(cg s.2.2.length 1 1)=ae then
    ab (.inl (s.1,wi (s.2.1 - 8),s.2.2++([a]:yL yB)))
   else
   ad
  else
  ad
 else
 ab (.inr s.2.2)
def NB(F:Nat)(a0:yU):yO (aLu):=
 (Zc (Xs F) F (a0,56,[])).bind λa=>
 ab a
def ZgG(F:Nat)(s:(aLu×aLu)):yO ((aLu×aLu)⊕(aLu×aLu)):=
 if((Int.tmod (s.2.length:Int) 64)!=56)=ae then
  if(cg s.2.length 1 1)=ae then
   ab (.inl (s.1,s.2++([0]:yL yB)))
  else
  ad
 else
 ab (.inr (s.1,s.2))
def ZgH(F:Nat)(s:(yU×Int×aLu)):yO ((yU×Int×aLu)⊕aLu):=
 if(ag (s.2.1 >= 0))=ae then
  if(ag (0<=s.2.1))=ae then
   let a:yB:=w8 ((Zz s.1 (min s.2.1.toNat 64)).toNat:Int)
   if(cg s.2.2.length 1 1)=ae then
    ab (.inl (s.1,wi (s.2.1 - 8),s.2.2++([a]:yL yB)))
   else
   ad
  else
  ad
 else
 ab (.inr s.2.2)
def Zjn(F:Nat)(a0:aLu):yO (aLu):=
 if(cg 0 a0.length 1)=ae then
  if(cg a0.length 1 1)=ae then
   (Zc (ZgG F) F (a0,a0++([128]:yL yB))).bind λa=>
   (Zc (ZgH F) F (8*(du (a.1.length:Int)),56,a.2)).bind λb=>
   ab b
  else
  ad
 else
 ad
def Zjo(F:Nat):yO (aLw):=
 ab [1779033703,3144134277,1013904242,2773480762,1359893119,2600822924,528734635,1541459225]
def Z8(F:Nat)(a0:yV)(a1:Int):yO (yV):=
 if(ag (0<=a1))=ae then
  if(ag (0<=wi (32 - a1)))=ae then
   let a:yV:=(gN a0 (min a1.toNat 32))|||(gV a0 (min (wi (32 - a1)).toNat 32))
   ab a
  else
  ad
 else
 ad
def Zhq(F:Nat)(s:(aLu×Int×aLw)):yO ((aLu×Int×aLw)⊕aLw):=
 if(ag (s.2.1 < 16))=ae then
  (idx s.1 (wi (4*s.2.1))).bind λa=>
  (idx s.1 (wi ((wi (4*s.2.1))+1))).bind λb=>
  let c:yV:=(gV (ych a.toNat) 24)|||(gV (ych b.toNat) 16)
  (idx s.1 (wi ((wi (4*s.2.1))+2))).bind λd=>
  (idx s.1 (wi ((wi (4*s.2.1))+3))).bind λe=>
  let f:yV:=(c|||(gV (ych d.toNat) 8))|||(ych e.toNat)
  if(cg s.2.2.length 1 4)=ae then
   ab (.inl (s.1,wi (s.2.1+1),s.2.2++([f]:yL yV)))
  else
  ad
 else
 ab (.inr s.2.2)
def Zhr(F:Nat)(s:(Int×aLw)):yO ((Int×aLw)⊕aLw):=
 if(ag (s.1 < 64))=ae then
  (idx s.2 (wi (s.1 - 15))).bind λa=>
  (idx s.2 (wi (s.1 - 2))).bind λb=>
  (Z8 F a 7).bind λc=>
  (Z8 F a 18).bind λd=>
  (Z8 F b 17).bind λe=>
  (Z8 F b 19).bind λf=>
  (idx s.2 (wi (s.1 - 16))).bind λg=>
  (idx s.2 (wi (s.1 - 7))).bind λh=>
  let i:yV:=(g+((c^^^d)^^^(gN a 3)))+h
  if(cg s.2.length 1 4)=ae then
   let j:aLw:=s.2++([i+((e^^^f)^^^(gN b 10))]:yL yV)
   ab (.inl (wi (s.1+1),j))
  else
  ad
 else
 ab (.inr s.2)
def Zkb(F:Nat)(a0:aLu):yO (aLw):=
 (Zc (Zhq F) F (a0,0,[])).bind λa=>
 (Zc (Zhr F) F (16,a)).bind λb=>
 ab b
def Zlk(F:Nat):yO (aLw):=
 ab [1116352408,1899447441,3049323471,3921009573,961987163,1508970993,2453635748,2870763221,3624381080,310598401,607225278,1426881987,1925078388,2162078206,2614888103,3248222580,3835390401,4022224774,264347078,604807628,770255983,1249150122,1555081692,1996064986,2554220882,2821834349,2952996808,3210313671,3336571891,3584528711,113926993,338241895,666307205,773529912,1294757372,1396182291,1695183700,1986661051,2177026350,2456956037,2730485921,2820302411,3259730800,3345764771,3516065817,3600352804,4094571909,275423344,430227734,506948616,659060556,883997877,958139571,1322822218,1537002063,1747873779,1955562222,2024104815,2227730452,2361852424,2428436474,2756734187,3204031479,3329325298]
def Zhs(F:Nat):(aLw×aLw×aLw×Int×aLz×aLw)->yO ((aLw×aLw×aLw×Int×aLz×aLw)⊕(aLw×aLz×aLw))
 |(e,d,c,a,f,b)=>
 if(ag (a < 64))=ae then
  if(bp 4 b.length)=ae then
   (b[4]?).bind λg=>
   (Z8 F g 6).bind λh=>
   if(bp 4 b.length)=ae then
    (b[4]?).bind λi=>
    (Z8 F i 11).bind λj=>
    if(bp 4 b.length)=ae then
     (b[4]?).bind λk=>
     (Z8 F k 25).bind λl=>
     if(bp 4 b.length)=ae then
      (b[4]?).bind λm=>
      if(bp 5 b.length)=ae then
       (b[5]?).bind λn=>
       if(bp 4 b.length)=ae then
        (b[4]?).bind λo=>
        if(bp 6 b.length)=ae then
         (b[6]?).bind λp=>
         let q:yV:=(m&&&n)^^^((4294967295^^^o)&&&p)
         if(bp 7 b.length)=ae then
          (b[7]?).bind λr=>
          (idx c a).bind λs=>
          let t:yV:=((r+((h^^^j)^^^l))+q)+s
          (idx d a).bind λu=>
          if(bp 0 b.length)=ae then
           (b[0]?).bind λv=>
           (Z8 F v 2).bind λw=>
           if(bp 0 b.length)=ae then
            (b[0]?).bind λx=>
            (Z8 F x 13).bind λy=>
            if(bp 0 b.length)=ae then
             (b[0]?).bind λz=>
             (Z8 F z 22).bind λA=>
             if(bp 0 b.length)=ae then
              (b[0]?).bind λB=>
              if(bp 1 b.length)=ae then
               (b[1]?).bind λC=>
               if(bp 0 b.length)=ae then
                (b[0]?).bind λD=>
                if(bp 2 b.length)=ae then
                 (b[2]?).bind λE=>
                 if(bp 1 b.length)=ae then
                  (b[1]?).bind λG=>
                  if(bp 2 b.length)=ae then
                   (b[2]?).bind λH=>
                   let I:yV:=((B&&&C)^^^(D&&&E))^^^(G&&&H);let J:yV:=((t+u)+((w^^^y)^^^A))+I
                   if(bp 0 b.length)=ae then
                    (b[0]?).bind λK=>
                    if(bp 1 b.length)=ae then
                     (b[1]?).bind λL=>
                     if(bp 2 b.length)=ae then
                      (b[2]?).bind λM=>
                      if(bp 3 b.length)=ae then
                       (b[3]?).bind λN=>
                       if(bp 4 b.length)=ae then
                        (b[4]?).bind λO=>
                        if(bp 5 b.length)=ae then
                         (b[5]?).bind λP=>
                         if(bp 6 b.length)=ae then
                          (b[6]?).bind λQ=>
                          ab (.inl (e,d,c,wi (a+1),()::f,[J,K,L,M,N+(t+u),O,P,Q]))
                         else
                         ad
                        else
                        ad
                       else
                       ad
                      else
                      ad
                     else
                     ad
                    else
                    ad
                   else
                   ad
                  else
                  ad
                 else
                 ad
                else
                ad
               else
               ad
              else
              ad
             else
             ad
            else
            ad
           else
           ad
          else
          ad
         else
         ad
        else
        ad
       else
       ad
      else
      ad
     else
     ad
    else
    ad
   else
   ad
  else
  ad
 else
 ab (.inr (e,f,b))
def Zht(F:Nat)(s:(aLw×Int×aLz×aLw)):yO ((aLw×Int×aLz×aLw)⊕(aLz×aLw)):=
 if(ag (s.2.1 < 8))=ae then
  if(bp s.2.1 s.2.2.2.length)=ae then
   (s.2.2.2[s.2.1.toNat]?).bind λa=>
   (idx s.1 s.2.1).bind λb=>
   if(bp s.2.1 s.2.2.2.length)=ae then
    (s.2.2.2[s.2.1.toNat]?).bind λc=>
    ab (.inl (s.1,wi (s.2.1+1),s.2.2.1,s.2.2.2.set s.2.1.toNat (a+b)))
   else
   ad
  else
  ad
 else
 ab (.inr (s.2.2.1,s.2.2.2))
def Zkc(F:Nat)(a0:aLw)(a1:aLu):yO (aLw):=
 (Zkb F a1).bind λa=>
 (Zlk F).bind λb=>
 if(cg 0 a0.length 4)=ae then
  (Zc (Zhs F) F (a0,a,b,0,[()],a0)).bind λc=>
  (Zc (Zht F) F (c.1,0,c.2.1,c.2.2)).bind λd=>
  ab d.2
 else
 ad
def Zia(F:Nat)(s:(aLu×aLw×Int×aLu)):yO ((aLu×aLw×Int×aLu)⊕(aLw×aLu)):=
 if(ag (s.2.2.1 < (s.1.length:Int)))=ae then
  if(dU s.1.length (ab s.2.2.1) (ab (wi (s.2.2.1+64))))=ae then
   let a:aLu:=(s.1.take ((wi (s.2.2.1+64)).toNat)).drop s.2.2.1.toNat
   (Zkc F s.2.1 a).bind λb=>
   ab (.inl (s.1,b,wi (s.2.2.1+64),s.2.2.2))
  else
  ad
 else
 ab (.inr (s.2.1,s.2.2.2))
def Zib(F:Nat)(s:(aLw×Int×aLu×aLu)):yO ((aLw×Int×aLu×aLu)⊕(aLu×aLu)):=
 if(ag (s.2.1 < 32))=ae then
  (idx s.1 (wi (Int.tdiv s.2.1 4))).bind λa=>
  if(ag (0<=wi (24 - (wi (8*(Int.tmod s.2.1 4))))))=ae then
   let b:yV:=gN a (min (wi (24 - (wi (8*(Int.tmod s.2.1 4))))).toNat 32)
   if(bp s.2.1 32)=ae then
    (s.2.2.2[s.2.1.toNat]?).bind λc=>
    ab (.inl (s.1,wi (s.2.1+1),s.2.2.1,s.2.2.2.set s.2.1.toNat (w8 (b.toNat:Int))))
   else
   ad
  else
  ad
 else
 ab (.inr (s.2.2.1,s.2.2.2))
def Zll(F:Nat)(a0:aLu):yO (aLu):=
 (Zjn F a0).bind λa=>
 (Zjo F).bind λb=>
 (Zc (Zia F) F (a,b,0,dg)).bind λc=>
 (Zc (Zib F) F (c.1,0,c.2,dg)).bind λd=>
 ab d.2
end
end Go.Proofs.YtcbhhaigilifgaaGreat
end
section
set_option maxRecDepth 4000
namespace Go.Ev
theorem ZBO{I X:Type}{step:I->yO (I⊕X)}{st:Nat->I}{x:X}(n:Nat)(hs:∀k,k < n->step (st k)=ab (.inl (st (k+1))))(he:step (st n)=ab (.inr x)):∀(d k f:Nat),k+d=n->d < f->Zc step f (st k)=ab x
 |0,k,f+1,h,_=>by
  have e:k=n:=by omega
  subst e;unfold Zc
  rw[he,ya]
 |d+1,k,f+1,h,g=>by
  unfold Zc;rw[hs k (by omega),ya];exact ZBO n hs he d (k+1) f (by omega) (by omega)
theorem ZD{I X:Type}{step:I->yO (I⊕X)}(n:Nat)(st:Nat->I){x:X}(hs:∀k,k < n->step (st k)=ab (.inl (st (k+1))))(he:step (st n)=ab (.inr x))(hn:n < 18446744073709551616):
 Zc step yD (st 0)=ab x:=ZBO n hs he n 0 yD (by omega) (by rw[jQ];exact hn)
theorem ZyA{I X:Type}{step:I->yO (I⊕X)}{Post:X->Prop}(n:Nat)(S:Nat->I->Prop)(hs:∀k s,k < n->S k s->(∃t,step s=ab (.inl t)/\S (k+1) t)\/∃x,step s=ab (.inr x)/\Post x)
 (he:∀s,S n s->∃x,step s=ab (.inr x)/\Post x):∀(d k f:Nat)(s:I),k+d=n->d < f->S k s->∃x,Zc step f s=ab x/\Post x
 |0,k,f+1,s,h,_,l=>by
  have e:k=n:=by omega
  subst e;obtain⟨x,g,j⟩:=he s l;unfold Zc;rw[g,ya]
  exact⟨x,rfl,j⟩
 |d+1,k,f+1,s,h,m,l=>by
  unfold Zc;rcases hs k s (by omega) l with⟨t,g,j⟩|⟨x,g,j⟩
  .rw[g,ya];exact ZyA n S hs he d (k+1) f t (by omega) (by omega) j
  .rw[g,ya];exact⟨x,rfl,j⟩
theorem Xz{I X:Type}{step:I->yO (I⊕X)}(n:Nat)(S:Nat->I->Prop)(Post:X->Prop){i:I}(f:S 0 i)(hn:n < 18446744073709551616)
 (hs:∀k s,k < n->S k s->(∃t,step s=ab (.inl t)/\S (k+1) t)\/∃x,step s=ab (.inr x)/\Post x)
 (he:∀s,S n s->∃x,step s=ab (.inr x)/\Post x):∃x,Zc step yD i=ab x/\Post x:=ZyA n S hs he n 0 yD i (by omega) (by rw[jQ];exact hn) f
theorem Zx{a b:Nat}(h:a < b):ag ((a:Int) < (b:Int))=ae:=yY (by omega)
theorem ZB{a:Nat}:ag ((a:Int) < (a:Int))=af:=yZ (by omega)
theorem Zq{k:Nat}(h:k < 9223372036854775807):wi ((k:Int)+1)=((k+1:Nat):Int):=by
 rw[ZE (by omega) (by omega)];omega
theorem Zp{α:Type}{l:yL α}{k:Nat}{y:α}(h:l[k]? =ab y):idx l (k:Int)=ab y:=sI (by omega) (by simpa using h)
theorem Zuk{α:Type}{ls:yL (yL α)}{k:Nat}{e:yL α}(h:ls[k]? =ab e):(ls.take (k+1)).flatten=(ls.take k).flatten++e:=by
 rw[List.take_add_one,h];simp
theorem ZBP{α:Type}(ls:yL (yL α))(k:Nat):(ls.take k).flatten.length<=ls.flatten.length:=by
 have h:=congrArg (λl=>(List.flatten l).length) (ybc k ls);simp only[List.flatten_append,ym]at h;omega
theorem Wm{α:Type}{l:yL α}{k:Nat}{e:α}(h:l[k]? =ab e):l.take (k+1)=l.take k++[e]:=by
 rw[List.take_add_one,h];rfl
theorem Zj{α:Type}{l:yL α}{k:Nat}(h:k < l.length):∃e,l[k]? =ab e/\e∈l:=⟨l[k],yab h,List.getElem_mem h⟩
end Go.Ev
end
section
set_option maxRecDepth 4000
namespace Go.Proofs.YtcbhhaigilifgaaGreat
open Go Go.Ev Go.Sha
def rb8(n:Nat):yL yB:=(jU n).map yap
theorem ZF3(n:yU){k:Nat}(f:k < 8):(rb8 n.toNat)[k]? =ab (w8 ((Zz n (56 - 8*k)).toNat:Int)):=by
 have h:∀m:Nat,w8 ((Zz n m).toNat:Int)=yap (n.toNat / 2 ^ m % 256):=by
  intro m;unfold w8 Zz;rw[ybh,yas (Nat.lt_of_le_of_lt (Nat.div_le_self _ _) (ybv n))];congr 1
 rw[h]
 match k,f with
 |0,_=>rfl
 |1,_=>rfl
 |2,_=>rfl
 |3,_=>rfl
 |4,_=>rfl
 |5,_=>rfl
 |6,_=>rfl
 |7,_=>
  show ab (yap (n.toNat % 256))=ab (yap (n.toNat / 2 ^ 0 % 256));rw[Nat.pow_zero,Nat.div_one]
noncomputable def NC(F:Nat)(a0:yL yB):yO aLu:=if ag (a0.length<=4294967296)=ae then ab (iM a0) else Zll F a0
theorem ZF4{l:yL yB}(h:l.length<=4294967296):NC yD l=ab (iM l):=yW (yY h)
end Go.Proofs.YtcbhhaigilifgaaGreat
end
section
set_option maxRecDepth 4000
namespace Go.Proofs.YtcbhhaigilifgaaGreat
open Go Go.Ev
noncomputable section
def YL(F:Nat)(s:(yU×Int×aLu×aLu)):yO ((yU×Int×aLu×aLu)⊕(aLu×aLu)):=
 if(ag (s.2.1 >= 0))=ae then
  if(ag (0<=s.2.1))=ae then
   let a:yB:=w8 ((Zz s.1 (min s.2.1.toNat 64)).toNat:Int)
   if(cg s.2.2.2.length 1 1)=ae then
    ab (.inl (s.1,wi (s.2.1 - 8),s.2.2.1,s.2.2.2++([a]:yL yB)))
   else
   ad
  else
  ad
 else
 ab (.inr (s.2.2.1,s.2.2.2))
def VO(F:Nat)(a0:yU):yO (aLu):=
 (Zc (YL F) F (a0,56,[],[])).bind λa=>
 ab a.2
def YV(F:Nat)(s:(aLU×Int×aLu×aLu)):yO ((aLU×Int×aLu×aLu)⊕(aLu×aLu)):=
 if(ag (s.2.1 < (s.1.length:Int)))=ae then
  (idx s.1 s.2.1).bind λa=>
  (NB F (du (a.length:Int))).bind λb=>
  if(cg s.2.2.2.length b.length 1)=ae then
   (idx s.1 s.2.1).bind λc=>
   if(cg ((s.2.2.2++b).length) c.length 1)=ae then
    ab (.inl (s.1,wi (s.2.1+1),s.2.2.1,(s.2.2.2++b)++c))
   else
   ad
  else
  ad
 else
 ab (.inr (s.2.2.1,s.2.2.2))
def ND(F:Nat)(a0:ByteArray)(a1:aLU):yO (aLu):=
 (VO F (du (a0.size:Int))).bind λa=>
 if(ag (a0.size<=maxLen))=ae then
  if(cg a.length a0.data.toList.length 1)=ae then
   (Zc (YV F) F (a1,0,dg,a++a0.data.toList)).bind λb=>
   (NC F b.2).bind λc=>
   ab c
  else
  ad
 else
 ad
def WF(F:Nat)(f:Int->yO (aLu))(a0:Int):yO (aLu):=
 if(ag (a0 < 128))=ae then
  ab [w8 a0]
 else
 (f (wi (Int.tdiv a0 128))).bind λa=>
 if(cg 1 a.length 1)=ae then
  let b:aLu:=([(w8 (Int.tmod a0 128))+128]:yL yB)++a
  ab b
 else
 ad
def V2(F k:Nat):Int->yO (aLu):=Nat.rec (motive:=λ_=>Int->yO (aLu)) (λ_=>ad) (λ_ f=>WF F f) k
def NE(F:Nat)(a0:Int):yO (aLu):=V2 F 12 a0
def Z5(F:Nat)(a0:aLu)(a1:Int):yO (aLu):=
 if(cg 0 a0.length 1)=ae then
  if(ag (a1 >= 0))=ae then
   (NE F a1).bind λa=>
   if(cg a0.length a.length 1)=ae then
    ab (a0++a)
   else
   ad
  else
  ab a0
 else
 ad
def YM(F:Nat)(s:(Int×aLu×aLu)):yO ((Int×aLu×aLu)⊕(aLu×aLu)):=
 if(ag (s.1 < 32))=ae then
  if(bp s.1 32)=ae then
   (s.2.1[s.1.toNat]?).bind λa=>
   if(cg s.2.2.length 1 1)=ae then
    ab (.inl (wi (s.1+1),s.2.1,s.2.2++([a]:yL yB)))
   else
   ad
  else
  ad
 else
 ab (.inr (s.2.1,s.2.2))
def VP(F:Nat)(a0:aLu)(a1:aLu):yO (aLu):=
 if(cg 0 a0.length 1)=ae then
  (Zc (YM F) F (0,a1,a0)).bind λa=>
  ab a.2
 else
 ad
def ZcR(F:Nat)(a0:aLu)(a1:Int):yO (aLu):=
 if(cg 0 a0.length 1)=ae then
  if(ag (a1 >= 0))=ae then
   (NE F a1).bind λa=>
   if(cg a0.length a.length 1)=ae then
    ab (a0++a)
   else
   ad
  else
  ab a0
 else
 ad
def Vt(F:Nat)(a0:aLu)(a1:aLu):yO (aLu):=
 (ZcR F a0 (a1.length:Int)).bind λa=>
 if(cg a.length a1.length 1)=ae then
  ab (a++a1)
 else
 ad
def YW(F:Nat)(s:(yU×Int×aLu)):yO ((yU×Int×aLu)⊕aLu):=
 if(ag (s.2.1 >= 0))=ae then
  let a:yU:=Zz s.1 (min ((du (wi (8*s.2.1))).toNat:Int).toNat 64)
  if(cg s.2.2.length 1 1)=ae then
   ab (.inl (s.1,wi (s.2.1 - 1),s.2.2++([w8 (a.toNat:Int)]:yL yB)))
  else
  ad
 else
 ab (.inr s.2.2)
def WG(F:Nat)(a0:aLu)(a1:yU):yO (aLu):=
 if(cg 0 a0.length 1)=ae then
  (Zc (YW F) F (a1,7,a0)).bind λa=>
  ab a
 else
 ad
def Xd(F:Nat):(aLu×Int×Int×ZY×Z3)->yO ((aLu×Int×Int×ZY×Z3)⊕(aLu×Int×ZY×Z3))
 |(c,d,a,e,b)=>
 if(ag (a < (b.1.length:Int)))=ae then
  (idx b.1 a).bind λf=>
  (WG F c f).bind λg=>
  ab (.inl (g,d,wi (a+1),e,b))
 else
 ab (.inr (c,d,e,b))
def Xe(F:Nat)(s:(aLu×Int×ZY)):yO ((aLu×Int×ZY)⊕(aLu×ZY)):=
 if(ag (s.2.1 < (s.2.2.length:Int)))=ae then
  (idx s.2.2 s.2.1).bind λa=>
  (Z5 F s.1 (a.1.length:Int)).bind λb=>
  (Zc (Xd F) F (b,s.2.1,0,s.2.2,a)).bind λc=>
  (Z5 F c.1 c.2.2.2.2.1).bind λd=>
  (Z5 F d c.2.2.2.2.2.1).bind λe=>
  (WG F e c.2.2.2.2.2.2).bind λf=>
  ab (.inl (f,wi (c.2.1+1),c.2.2.1))
 else
 ab (.inr (s.1,s.2.2))
def Q8(F:Nat)(a0:ZY):yO (aLu):=
 (Xj F a0).bind λa=>
 if(!a)=ae then
  ab []
 else
 (Z5 F [] (a0.length:Int)).bind λb=>
 (Zc (Xe F) F (b,0,a0)).bind λc=>
 ab c.1
def Xf(F:Nat)(s:(aLu×Int×Tx)):yO ((aLu×Int×Tx)⊕(aLu×Tx)):=
 if(ag (s.2.1 < (s.2.2.1.length:Int)))=ae then
  (idx s.2.2.1 s.2.1).bind λa=>
  (VP F s.1 a.1.1).bind λb=>
  (idx s.2.2.1 s.2.1).bind λc=>
  (Z5 F b c.1.2).bind λd=>
  ab (.inl (d,wi (s.2.1+1),s.2.2))
 else
 ab (.inr (s.1,s.2.2))
def Xg(F:Nat)(s:(aLu×Int×Tx)):yO ((aLu×Int×Tx)⊕(aLu×Tx)):=
 if(ag (s.2.1 < (s.2.2.2.1.length:Int)))=ae then
  (idx s.2.2.2.1 s.2.1).bind λa=>
  (Z5 F s.1 a.1).bind λb=>
  (idx s.2.2.2.1 s.2.1).bind λc=>
  (Q8 F c.2).bind λd=>
  (Vt F b d).bind λe=>
  ab (.inl (e,wi (s.2.1+1),s.2.2))
 else
 ab (.inr (s.1,s.2.2))
def Q9(F:Nat)(a0:Tx):yO (aLu):=
 (Z5 F [] (a0.1.length:Int)).bind λa=>
 (Zc (Xf F) F (a,0,a0)).bind λb=>
 (Z5 F b.1 (b.2.2.1.length:Int)).bind λc=>
 (Zc (Xg F) F (c,0,b.2)).bind λd=>
 (Z5 F d.1 d.2.2.2).bind λe=>
 ab e
def QV(F:Nat)(a0:Tx):yO (aLu):=
 (WR F a0).bind λa=>
 if(!a)=ae then
  ab dg
 else
 (Q9 F a0).bind λb=>
 (ND F ZJg [b]).bind λc=>
 ab c
def YH(F:Nat):(Int×Chan×yG×aLL×Chan×yG×Tx×aLC)->yO ((Int×Chan×yG×aLL×Chan×yG×Tx×aLC)⊕((Int×Chan×yG×aLL×Chan×yG×Tx×aLC)⊕(Chan×yG×aLL×Chan×yG×Tx×aLC)))
 |(a,d,c,e,f,g,h,b)=>
 if(ag (a < 2))=ae then
  if(bp a 2)=ae then
   (b[a.toNat]?).bind λi=>
   if(ag (i < 0))=ae then
    if(bp a 2)=ae then
     (c.2.1[a.toNat]?).bind λj=>
     if(bp a 2)=ae then
      (b[a.toNat]?).bind λk=>
      if(bp (wi (1 - a)) 2)=ae then
       (d.2.2.2.1[(wi (1 - a)).toNat]?).bind λl=>
       if(ag ((wi (j+k)) < l.2.1))=ae then
        ab (.inr (.inl (10,d,c,e,((dg,0),0,[(0,0,0,0,0),(0,0,0,0,0)],[(0,0,0,0,0,0),(0,0,0,0,0,0)],0),(0,[0,0],[],0),([],[],0),b)))
       else
       ab (.inl (wi (a+1),d,c,e,f,g,h,b))
      else
      ad
     else
     ad
    else
    ad
   else
   ab (.inl (wi (a+1),d,c,e,f,g,h,b))
  else
  ad
 else
 ab (.inr (.inr (d,c,e,f,g,h,b)))
def ZeP(F:Nat)(a0:Chan)(a1:yG)(a2:aLL):yO ((Chan×yG×Tx×Int)):=
 (V0 F a0).bind λe=>
 if(e !=0)=ae then
  ab (((dg,0),0,[(0,0,0,0,0),(0,0,0,0,0)],[(0,0,0,0,0,0),(0,0,0,0,0,0)],0),(0,[0,0],[],0),([],[],0),e)
 else
 (XV F a0 a1).bind λf=>
 if(!f)=ae then
  ab (((dg,0),0,[(0,0,0,0,0),(0,0,0,0,0)],[(0,0,0,0,0,0),(0,0,0,0,0,0)],0),(0,[0,0],[],0),([],[],0),14)
 else
 (a2[0]?).bind λg=>
 (V1 F g).bind λh=>
 if(!h)=ae then
  ab (((dg,0),0,[(0,0,0,0,0),(0,0,0,0,0)],[(0,0,0,0,0,0),(0,0,0,0,0,0)],0),(0,[0,0],[],0),([],[],0),1)
 else
 (a2[1]?).bind λi=>
 (V1 F i).bind λj=>
 if(!j)=ae then
  ab (((dg,0),0,[(0,0,0,0,0),(0,0,0,0,0)],[(0,0,0,0,0,0),(0,0,0,0,0,0)],0),(0,[0,0],[],0),([],[],0),1)
 else
 (a2[0]?).bind λk=>
 (WE F k).bind λl=>
 (a2[1]?).bind λm=>
 (WE F m).bind λn=>
 (a1.2.1[0]?).bind λo=>
 if(ag ((wi (o+l)) < 0))=ae then
  ab (((dg,0),0,[(0,0,0,0,0),(0,0,0,0,0)],[(0,0,0,0,0,0),(0,0,0,0,0,0)],0),(0,[0,0],[],0),([],[],0),8)
 else
 (a1.2.1[1]?).bind λp=>
 if(ag ((wi (p+n)) < 0))=ae then
  ab (((dg,0),0,[(0,0,0,0,0),(0,0,0,0,0)],[(0,0,0,0,0,0),(0,0,0,0,0,0)],0),(0,[0,0],[],0),([],[],0),8)
 else
 (Zc (YH F) F (0,a0,a1,a2,((dg,0),0,[(0,0,0,0,0),(0,0,0,0,0)],[(0,0,0,0,0,0),(0,0,0,0,0,0)],0),(0,[0,0],[],0),([],[],0),[l,n])).bind λq=>
 match q with
 |.inl (d,_,_,_,a,b,c,_)=>
  ab (a,b,c,d)
 |.inr (c,b,d,_,_,_,a)=>
  (a[0]?).bind λr=>
  (a[1]?).bind λs=>
  (Q1 F b a).bind λt=>
  (XV F (c.1,wi ((wi (c.2.1+r))+s),c.2.2.1,c.2.2.2.1,c.2.2.2.2) t).bind λu=>
  if(!u)=ae then
   ab (((dg,0),0,[(0,0,0,0,0),(0,0,0,0,0)],[(0,0,0,0,0,0),(0,0,0,0,0,0)],0),(0,[0,0],[],0),([],[],0),8)
  else
  (Q7 F c (wi ((wi (c.2.1+r))+s)) d).bind λv=>
  (WR F v).bind λw=>
  if(!w)=ae then
   ab (((dg,0),0,[(0,0,0,0,0),(0,0,0,0,0)],[(0,0,0,0,0,0),(0,0,0,0,0,0)],0),(0,[0,0],[],0),([],[],0),1)
  else
  (QV F v).bind λx=>
  ab (((x,0),wi ((wi (c.2.1+r))+s),c.2.2.1,c.2.2.2.1,c.2.2.2.2),t,v,0)
end
end Go.Proofs.YtcbhhaigilifgaaGreat
end
section
set_option maxRecDepth 4000
namespace Go.Proofs.YtcbhhaigilifgaaGreat
open Go Go.Ev
theorem ZF5{m:Nat}(hm:0 < m):∀(f a n o:Nat),o < m->gO m f a n o < m
 |0,_,_,o,h=>h
 |f+1,a,n,o,h=>by
  rw[gO];split
  .exact h
  .refine ZF5 hm f _ _ _ ?_;split
   .exact Nat.mod_lt _ hm
   .exact h
theorem ZF6{m:Nat}(hm:1 < m)(k a n:Nat)(h:n < 2 ^ k):gO m k a n 1=a ^ n % m:=by
 rw[<-yas (ZF5 (by omega) k a n 1 hm),ZBF k a n 1 h,Nat.one_mul]
instance(a:Nat):Decidable (eD a):=by unfold eD;infer_instance
theorem ZKT{z:Nat}(h:z < gP):z < 18446744073709551616:=Nat.lt_trans h (by decide)
theorem ZKU{z:Nat}(h:z < gP):(yan z).toNat=z:=by
 rw[ybh,yas (ZKT h)]
theorem ZBQ(z:Nat):z % gP < gP:=Nat.mod_lt _ (by decide)
theorem ZyB(a n:yU):QH yD a n=ab (yan (a.toNat ^ n.toNat % gP)):=by
 unfold QH;rw[ZF6 (by decide) 64 a.toNat n.toNat (ybv n)];rfl
theorem ZDd{a n:yU}(h:a.toNat < gP):Q4 yD a n=ab (yan (a.toNat ^ n.toNat % gP)):=by
 unfold Q4;rw[yW (yY (show a.toNat < 4611686018427377339 from h)),ZF6 (by decide) 64 a.toNat n.toNat (ybv n)]
 rfl
theorem ZF7{z:Nat}(h:z < gP):(yan z==1)=ag (z=1):=by
 rw[Bool.eq_iff_iff,yT,yN, <-UInt64.toNat_inj,ZKU h];rfl
theorem yC(p:yU):Y4 yD p=ab (ag (eD p.toNat)):=by
 unfold Y4;by_cases f:0 < p.toNat
 .rw[yW (yY (show p > 0 from ycs.2 f))]
  by_cases g:p.toNat < gP
  .rw[yW (yY (show p < 4611686018427377339 from ycs.2 g)),ZyB,ya,ZF7 (ZBQ _)]
   congr 1;rw[decide_eq_decide];exact⟨λh=>⟨f,g,h⟩,λh=>h.2.2⟩
  .rw[yX (by rw[yN];exact λh=>g (ycs.1 h)),yZ (λh=>g h.2.1)]
 .rw[yX (by rw[yN];exact λh=>f (ycs.1 h)),yZ (λh=>f h.1)]
theorem za(p:yU):Xi yD p=ab (ag (eD p.toNat)):=by
 unfold Xi;by_cases g:0 < p.toNat
 .rw[yW (yY (show p >= 1 from ycp.2 g))]
  by_cases f:p.toNat < gP
  .rw[yW (yY (show p < 4611686018427377339 from ycs.2 f)),ZDd f,ya,ZF7 (ZBQ _)]
   congr 1;rw[decide_eq_decide];exact⟨λh=>⟨g,f,h⟩,λh=>h.2.2⟩
  .rw[yX (by rw[yN];exact λh=>f (ycs.1 h)),yZ (λh=>f h.2.1)]
 .rw[yX (by rw[yN];exact λh=>g (ycp.1 h)),yZ (λh=>g h.1)]
def tk(p:yU):yU:=if eD p.toNat then p else 1
theorem ZMb(p:yU):eD (tk p).toNat:=by
 unfold tk;split
 .assumption
 .exact ZKA
theorem ZF8(p:yU):QQ yD p=ab (tk p):=by
 unfold QQ tk;rw[yC,ya];by_cases h:eD p.toNat
 .rw[yW (yY h),yW h]
 .rw[yX (by rw[yN];exact h),yX h]
def sc(p:yU)(n:Nat):yU:=yan ((tk p).toNat ^ n % gP)
theorem ZKV(p:yU)(n:Nat):sc p (n % kJ)=sc p n:=by
 unfold sc;rw[ZIh (ZMb p)]
theorem ZMc(k:yU):(k % 2305843009213688669).toNat=k.toNat % kJ:=by
 rw[UInt64.toNat_mod];rfl
theorem ZF9(p k:yU):Vp yD p k=ab (sc p k.toNat):=by
 unfold Vp;rw[ZF8,ya,ZyB,ya,ZMc, <-ZKV];rfl
def B(n:Nat):yU:=sc 4 n
theorem tG(k:yU):YU yD k=ab (B k.toNat):=by
 unfold YU;rw[ZF9,ya];rfl
def Key(k:yU):Prop:=0 < k.toNat/\k.toNat < kJ
theorem ZIB{h:yL yB}(hl:h.length=32):∃k,Va yD h=ab k/\Key k:=by
 unfold Va
 obtain⟨x,g,m⟩:=Xz (step:=Qo yD) 32 (λk s=>∃n:yU,s=(n,h,(k:Int),h)/\n.toNat < 2305843009213688668) (λx=>x.1.toNat < 2305843009213688668) (i:=((0:yU),h,(0:Int),h)) ⟨0,rfl,by decide⟩ (by omega) (by
  rintro k _ y ⟨n,rfl,f⟩;left;obtain⟨e,j,_⟩:=Zj (l:=h) (k:=k) (by omega);unfold Qo;dsimp only;rw[yW (yY (by omega)),Zp j,ya];unfold W7;rw[yW (by decide),ya,Zq (by omega)];refine⟨_,rfl,_,rfl, ?_⟩;rw[show(2305843009213688668:yU).toNat=2305843009213688668 from rfl,ybh,yas]
  .exact Nat.mod_lt _ (by decide)
  .exact Nat.lt_trans (Nat.mod_lt _ (by decide)) (by decide)) (by
  rintro _ ⟨n,rfl,f⟩;unfold Qo;dsimp only;rw[yX (dn (by omega))];exact⟨_,rfl,f⟩)
 rw[g,ya];have e:(x.1+1).toNat=x.1.toNat+1:=by rw[UInt64.toNat_add,yas (by show x.1.toNat+1 < _;omega)];rfl
 exact⟨_,rfl,by rw[e];omega,by rw[e];unfold kJ;omega⟩
theorem Zul{ls:yL aLu}(h:ls.flatten.length<=1000000000)(hn:ls.length<=1000):YK yD ls=ab ls.flatten:=by
 unfold YK
 rw[show(ls,(0:Int),ls,(ls.length:Int),(0:Int))=(λk:Nat=>(ls,((ls.take k).flatten.length:Int),ls,(ls.length:Int),(k:Int))) 0 from rfl,
  ZD (x:=(ls,(ls.flatten.length:Int))) ls.length (λk:Nat=>(ls,((ls.take k).flatten.length:Int),ls,(ls.length:Int),(k:Int))) ?_ ?_ (by omega),ya]
 .have m:og (ls.flatten.length:Int)=ab []:=by
   unfold og;rw[yW];rw[Bool.and_eq_true];exact⟨yY (by omega),yY (by unfold Zs;omega)⟩
  dsimp only
  rw[m,ya,show(ls,(ls.length:Int),(0:Int),([]:yL yB))=(λk:Nat=>(ls,(ls.length:Int),(k:Int),(ls.take k).flatten)) 0 from rfl,
   ZD (x:=ls.flatten) ls.length (λk:Nat=>(ls,(ls.length:Int),(k:Int),(ls.take k).flatten)) ?_ ?_ (by omega),ya]
  .intro k f;obtain⟨e,g,_⟩:=Zj f;have j:=Zuk g;have l:=ZBP ls (k+1);rw[j,ym]at l;unfold Y2;dsimp only;rw[yW (Zx f),Zp g,ya,yW (ZS (by omega) (by omega)),Zq (by omega),j]
  .unfold Y2;dsimp only;rw[yX (by rw[ZB];decide),yaj]
 .intro k f;obtain⟨e,g,_⟩:=Zj f;have j:=Zuk g;have l:=ZBP ls (k+1);rw[j,ym]at l;unfold YZ;dsimp only;rw[yW (Zx f),Zp g,ya,ZE (z:=((ls.take k).flatten.length:Int)+(e.length:Int)) (by omega) (by omega),yX (dn (by omega)),Zq (by omega),j,ym];rfl
 .unfold YZ;dsimp only;rw[yX (by rw[ZB];decide),yaj]
theorem NF{a b:yL yB}(h:a.length+b.length<=1000000000):oo yD a b=ab (a++b):=by
 unfold oo;rw[Zul (by simp;omega) (by simp),ya];simp
def Yi(n:Nat):yL yB:=if h:n < 128 then[yap n] else yap (n % 128+128)::Yi (n / 128)
termination_by n
decreasing_by omega
theorem oC{n:Nat}(h:n < 128):Yi n=[yap n]:=by rw[Yi,dif_pos h]
theorem tH{n:Nat}(h:¬n < 128):Yi n=yap (n % 128+128)::Yi (n / 128):=by rw[Yi,dif_neg h]
theorem ZBR:∀(j n:Nat),n < 128 ^ (j+1)->(Yi n).length<=j+1
 |0,n,h=>by rw[oC (by omega)];exact yl _
 |j+1,n,h=>by
  by_cases f:n < 128
  .rw[oC f,List.length_singleton];omega
  .rw[tH f];have:=ZBR j (n / 128) (by rw[Nat.pow_succ]at h;omega);simp only[yag];omega
theorem ZA{n:Nat}(h:n<=9223372036854775807):(Yi n).length<=9:=ZBR 8 n (by omega)
theorem ZBS(n:Nat):Yi n≠[]:=by
 rw[Yi];split <;> simp
theorem ZGa{n:Nat}(h:n<=9223372036854775807):sY yD (n:Int)=ab (Yi n):=by
 unfold sY;refine Exists.elim (Wr (step:=xj yD) (λs=>∃m:Nat,s.1=(m:Int)/\m<=n/\s.2++Yi m=Yi n) (λs=>s.1.toNat) (λx=>∃m:Nat,x.1=(m:Int)/\m < 128/\x.2++Yi m=Yi n) ?_ ((n:Int),([]:yL yB)) ⟨n,rfl,yl _,rfl⟩ (by dsimp only;omega)) ?_
 .rintro⟨_,o⟩ ⟨m,rfl,G,f⟩;unfold xj;dsimp only at f ⊢;have j:=congrArg List.length f;have y:=ZA h;rw[ym]at j;by_cases g:m < 128
  .right;rw[yX (dn (by omega))];exact⟨_,rfl,m,rfl,g,f⟩
  .left;rw[yW (yY (by omega)),yW (ZS (by omega) (by omega))];have A:Int.tmod (m:Int) 128=((m % 128:Nat):Int):=rfl;have E:Int.tdiv (m:Int) 128=((m / 128:Nat):Int):=rfl;rw[A,E,ZE (z:=((m % 128:Nat):Int)+128) (by omega) (by omega),ZE (z:=((m / 128:Nat):Int)) (by omega) (by omega)];refine⟨_,rfl,⟨m / 128,rfl,by omega, ?_⟩,by dsimp only;omega⟩;dsimp only;rw[<-f,tH g,yac];congr 1;rw[List.singleton_append];congr 1;unfold w8;congr 1;omega
 .rintro⟨_,o⟩ ⟨g,m,rfl,F,l⟩;dsimp only at l ⊢;have j:=congrArg List.length l;have y:=ZA h;rw[ym]at j;rw[g,ya];dsimp only;rw[yW (ZS (by omega) (by omega)), <-l,oC F];congr 3;unfold w8;congr 1;omega
theorem jZ{b:yL yB}{z:Int}(f:0<=z)(h:z<=9223372036854775807)(hb:b.length<=1000000):XL yD b z=ab (b++Yi z.toNat):=by
 obtain⟨n,rfl⟩:=Int.eq_ofNat_of_zero_le f;have:=ZA (n:=n) (by omega);unfold XL;rw[yX (dn (by omega)),ZGa (by omega),ya,NF (by omega),ya,yat]
theorem ZAw{b h:yL yB}(hb:b.length<=1000000)(f:h.length<=1000000):xk yD b h=ab (b++h):=by
 unfold xk;rw[NF (by omega),ya]
theorem ZyC{b c:yL yB}(hb:b.length<=1000000)(hc:c.length<=1000000):xl yD b c=ab (b++(Yi c.length++c)):=by
 have:=ZA (n:=c.length) (by omega);unfold xl;rw[ZGa (by omega),ya,Zul (by simp;omega) (by simp),ya];simp
def lH(l:yL yB)(n k:Nat):yL yB:=l.take k++yx (n - k) 0
theorem ZDe{l:yL yB}{n k:Nat}(h:k < l.length)(h2:l.length<=n):(lH l n k)[k]? =ab 0:=by
 unfold lH;have f:(l.take k).length=k:=by simp;omega
 rw[yaq (by omega),f,List.getElem?_replicate];simp;omega
theorem ZDf{l:yL yB}{n k:Nat}{d:yB}(f:l[k]? =ab d)(h2:l.length<=n):(lH l n k).set k d=lH l n (k+1):=by
 have h:k < l.length:=(yu.1 f).1;have g:(l.take k).length=k:=by simp;omega
 unfold lH;rw[Wm f,List.set_append_right _ _ (by omega),g,Nat.sub_self];have e:n - k=(n - (k+1))+1:=by omega
 rw[e,List.replicate_succ];simp
theorem ZDg{l:yL yB}{n:Nat}(h:l.length=n):lH l n n=l:=by
 unfold lH;rw[<-h];simp
def fv(n:Nat):yL yB:=(List.range 8).map λi=>yap (n / 2 ^ (56 - 8*i))
theorem YE(n:Nat):(fv n).length=8:=by simp[fv]
theorem zb(n:Nat){k:Nat}(f:k < 8):(fv n)[k]? =ab (yap (n / 2 ^ (56 - 8*k))):=by simp[fv,f]
theorem ZyD(x:yU){m:Nat}:w8 ((Zz x m).toNat:Int)=yap (x.toNat / 2 ^ m):=by
 unfold w8 Zz;have h:x.toNat / 2 ^ m < 18446744073709551616:=Nat.lt_of_le_of_lt (Nat.div_le_self ..) (ybv _);rw[ybh,yas h];apply UInt8.toNat_inj.1;rw[UInt8.toNat_ofNat',UInt8.toNat_ofNat'];omega
theorem tI{b:yL yB}(x:yU)(hb:b.length<=1000000):Ww yD b x=ab (b++fv x.toNat):=by
 unfold Ww
 rw[show(b,x,(0:Int),([0,0,0,0,0,0,0,0]:yL yB))=(λk:Nat=>(b,x,(k:Int),lH (fv x.toNat) 8 k)) 0 from rfl,
  ZD (x:=(b,fv x.toNat)) 8 (λk:Nat=>(b,x,(k:Int),lH (fv x.toNat) 8 k)) ?_ ?_ (by omega),ya]
 .dsimp only;rw[NF (by rw[YE];omega),ya]
 .intro k f;unfold xm
  dsimp only;have g:=YE x.toNat
  rw[yW (yY (by omega)),ZE (z:=8*(k:Int)) (by omega) (by omega),ZE (z:=56 - 8*(k:Int)) (by omega) (by omega),yW (yY (by omega)),yW (XY (by omega) (by omega)),
   yat,ZDe (by omega) (by omega),ya,Zq (by omega)]
  have e:min (56 - 8*(k:Int)).toNat 64=56 - 8*k:=by omega
  rw[e,ZyD,ZDf (zb _ f) (by omega)]
 .unfold xm
  dsimp only;rw[yX (by simp),ZDg (YE _)]
def lI(b:Z3):Prop:=b.1.length<=12/\0<=b.2.1/\b.2.1<=1048576/\0<=b.2.2.1/\b.2.2.1<=1048576
def lJ(b:Z3):Prop:=(∀p,p∈b.1->eD p.toNat)/\(b.2.2.2≠0->eD b.2.2.2.toNat)
def Wq(l:ZY):Prop:=0 < l.length/\l.length<=4/\∀b,b∈l->lI b
def gQ(l:ZY):Prop:=∀b,b∈l->lJ b
theorem NG(p:yU):VH yD p=ab (!decide (eD p.toNat)):=by
 unfold VH;rw[yC,ya]
theorem ZGb{p:yU}(h:eD p.toNat):VH yD p=ab af:=by rw[NG,yY h];rfl
theorem ZMd{l:yL yU}(hl:l.length<=12)(h:∀p,p∈l->eD p.toNat):pM yD l=ab af:=by
 unfold pM wQ
 rw[show(l,(l.length:Int),(0:Int))=(λk:Nat=>(l,(l.length:Int),(k:Int))) 0 from rfl,
  ZD (x:=.inr ()) l.length (λk:Nat=>(l,(l.length:Int),(k:Int))) ?_ ?_ (by omega),ya]
 .rfl
 .intro k f;obtain⟨e,g,j⟩:=Zj f;unfold Y5;dsimp only;rw[yW (Zx f),Zp g,ya,ZGb (h e j),ya,Zq (by omega)];rfl
 .unfold Y5;dsimp only;rw[yX (by rw[ZB];decide)]
theorem Zum{z:Int}(f:0<=z)(h1:z<=1048576):Vi yD z=ab ae:=by
 unfold Vi;rw[yW (yY f),yY h1]
theorem NH{l:ZY}(h:Wq l)(hp:gQ l):XC yD l=ab ae:=by
 unfold XC;obtain⟨M,Q,m⟩:=h
 rw[show(l,(l.length:Int),(0:Int),l)=(λk:Nat=>(l,(l.length:Int),(k:Int),l)) 0 from rfl,
  ZD (x:=.inr l) l.length (λk:Nat=>(l,(l.length:Int),(k:Int),l)) ?_ ?_ (by omega),ya]
 .dsimp only;rw[yW (yY (by omega)),yY (by omega)]
 .intro k g;obtain⟨e,y,j⟩:=Zj g;obtain⟨z,A,E,e4,F⟩:=m e j;obtain⟨G,I⟩:=hp e j;unfold Wg;dsimp only;rw[yW (Zx g),Zp y,ya,yX (dn (by omega)),ZMd z G,ya,Zum A E,ya,Zum e4 F,ya,Zq (by omega),yX (by decide),yX (by decide),yX (by decide)];by_cases f:e.2.2.2=0
  .rw[yX (by simp[f])]
  .rw[yW (by simp[f]),ZGb (I f),ya,yX (by decide)]
 .unfold Wg;dsimp only;rw[yX (by rw[ZB];decide)]
def mR(t:Tx):Prop:=(∀x,x∈t.1->x.1.1.length=32)/\t.2.2<=9223372036854775807
def tJ(x:In):Prop:=0<=x.1.2/\x.1.2 < 64/\0<=x.2.1/\x.2.1 < 4/\x.2.2.1.length<=12
def NI(o:Out):Prop:=0<=o.1/\o.1<=1125899906842624/\Wq o.2/\gQ o.2
def pZ(t:Tx):Prop:=0 < t.1.length/\t.1.length<=64/\t.2.1.length<=64/\0<=t.2.2/\(∀x,x∈t.1->tJ x)/\∀o,o∈t.2.1->NI o
def bj{α:Type}(f:α->yL yB)(l:yL α):yL yB:=(l.map f).flatten
theorem VD{α:Type}{f:α->yL yB}{l:yL α}{k:Nat}{e:α}(h:l[k]? =ab e):bj f (l.take (k+1))=bj f (l.take k)++f e:=by
 unfold bj
 rw[Wm h,yau,List.flatten_append];simp
theorem NJ{α:Type}{f:α->yL yB}{l:yL α}{e:α}:bj f (e::l)=f e++bj f l:=rfl
theorem NK{α:Type}{f:α->yL yB}{c:Nat}:∀{l:yL α},(∀x,x∈l->(f x).length<=c)->(bj f l).length<=l.length*c
 |[],_=>by simp[bj]
 |e::l,h=>by
  have j:=h e (List.mem_cons_self ..);have m:=NK (l:=l) λx g=>h x (List.mem_cons_of_mem _ g);rw[NJ,ym,yag,Nat.succ_mul];omega
theorem W4{α:Type}{f:α->yL yB}{c n:Nat}{l:yL α}(h:∀x,x∈l->(f x).length<=c)(hn:l.length<=n)(k:Nat):(bj f (l.take k)).length<=n*c:=by
 refine ybt (NK λx g=>h x (List.mem_of_mem_take g)) (ycb c ?_);rw[yaa];omega
def hU(p:yU):yL yB:=fv p.toNat
def fN(b:Z3):yL yB:=Yi b.1.length++(bj hU b.1++(Yi b.2.1.toNat++(Yi b.2.2.1.toNat++fv b.2.2.2.toNat)))
def gp(l:ZY):yL yB:=Yi l.length++bj fN l
theorem tK{l:yL yU}(h:l.length<=12)(k:Nat):(bj hU (l.take k)).length<=96:=W4 (c:=8) (λx _=>Nat.le_of_eq (YE _)) h k
theorem zc{b:Z3}(h:b.1.length<=12/\0<=b.2.1/\b.2.1<=1048576/\0<=b.2.2.1/\b.2.2.1<=1048576):(fN b).length<=131:=by
 have f:=tK h.1 b.1.length;rw[yaj]at f;have g:=ZA (n:=b.1.length) (by omega);have j:=ZA (n:=b.2.1.toNat) (by omega);have l:=ZA (n:=b.2.2.1.toNat) (by omega);have m:=YE b.2.2.2.toNat
 unfold fN;simp only[ym];omega
theorem qa{l:ZY}(h:Wq l):(gp l).length<=533:=by
 have g:=W4 (f:=fN) (c:=131) (λx j=>zc (h.2.2 x j)) h.2.1 l.length;rw[yaj]at g;have m:=ZA (n:=l.length) (by have:=h.2.1;omega);unfold gp;rw[ym];omega
theorem ZDi{c:yL yB}(hc:c.length<=100000){f:yL Z3}{n i:Int}{ks:yL yU}{l:ZY}{e:Z3}(j:ks.length<=12):
 Zc (Qj yD) yD (c,f,n,i,ks,(ks.length:Int),(0:Int),l,e)=ab (c++bj hU ks,f,n,i,l,e):=by
 rw[show(c,f,n,i,ks,(ks.length:Int),(0:Int),l,e)=(λk:Nat=>(c++bj hU (ks.take k),f,n,i,ks,(ks.length:Int),(k:Int),l,e)) 0 by simp[bj]];refine ZD ks.length (λk:Nat=>(c++bj hU (ks.take k),f,n,i,ks,(ks.length:Int),(k:Int),l,e)) ?_ ?_ (by omega)
 .intro k g;obtain⟨e,h,_⟩:=Zj g;have m:=tK j k;unfold Qj;dsimp only;rw[yW (Zx g),Zp h,ya,tI _ (by rw[ym];omega),ya,Zq (by omega),VD h,yac];rfl
 .unfold Qj;dsimp only;rw[yX (by rw[ZB];decide),yaj]
theorem NL{l:ZY}(h:Wq l)(hp:gQ l):pS yD l=ab (gp l):=by
 unfold pS;have I:=h.2.1;have M:=ZA (n:=l.length) (by omega);rw[NH h hp,ya,yX (by decide),jZ (by omega) (by omega) (by simp),ya,yz,yat]
 rw[show(Yi l.length,l,(l.length:Int),(0:Int),l)=(λk:Nat=>(Yi l.length++bj fN (l.take k),l,(l.length:Int),(k:Int),l)) 0 by simp[bj],
  ZD (x:=(gp l,l)) l.length (λk:Nat=>(Yi l.length++bj fN (l.take k),l,(l.length:Int),(k:Int),l)) ?_ ?_ (by omega),ya]
 .intro k j;obtain⟨e,m,z⟩:=Zj j;obtain⟨y,A,Q,e4,R⟩:=h.2.2 e z;have S:=W4 (f:=fN) (c:=131) (λx E=>zc (h.2.2 x E)) h.2.1 k;have T:=ZA (n:=e.1.length) (by omega);have F:=ZA (n:=e.2.1.toNat) (by omega);have G:=ZA (n:=e.2.2.1.toNat) (by omega);have g:=tK y e.1.length;rw[yaj]at g;unfold xo;dsimp only
  rw[yW (Zx j),Zp m,ya,jZ (by omega) (by omega) (by rw[ym];omega),ya,yat,
   ZDi (by simp only[ym];omega) y,ya]
  dsimp only
  rw[jZ A (by omega) (by simp only[ym];omega),ya,jZ e4 (by omega) (by simp only[ym];omega),ya,
   tI _ (by simp only[ym];omega),ya,Zq (by omega),VD m]
  unfold fN;simp only[yac]
 .unfold xo;dsimp only;rw[yX (by rw[ZB];decide),yaj];rfl
def eS(x:In):yL yB:=x.1.1++Yi x.1.2.toNat
def fH(o:Out):yL yB:=Yi o.1.toNat++(Yi (gp o.2).length++gp o.2)
def iO(t:Tx):yL yB:=Yi t.1.length++(bj eS t.1++(Yi t.2.1.length++(bj fH t.2.1++Yi t.2.2.toNat)))
def fX(s:gn):yL yB:=fv s.1.toNat++fv s.2.toNat
def fK(x:In):yL yB:=Yi x.2.1.toNat++(Yi x.2.2.1.length++(bj fX x.2.2.1++fv x.2.2.2.toNat))
def kN(t:Tx):yL yB:=iO t++bj fK t.1
theorem ze{x:In}(h:x.1.1.length=32)(k:tJ x):(eS x).length<=41:=by
 have:=ZA (n:=x.1.2.toNat) (by have:=k.2.1;omega);unfold eS;rw[ym];omega
theorem zf{o:Out}(k:NI o):(fH o).length<=551:=by
 have f:=qa k.2.2.1;have g:=ZA (n:=o.1.toNat) (by have:=k.2.1;omega);have h:=ZA (n:=(gp o.2).length) (by omega);unfold fH;simp only[ym];omega
theorem NM{l:yL gn}(h:l.length<=12)(k:Nat):(bj fX (l.take k)).length<=192:=W4 (c:=16) (λx _=>by unfold fX;rw[ym,YE,YE];exact yl _) h k
theorem zg{x:In}(k:tJ x):(fK x).length<=218:=by
 obtain⟨_,_,h,j,f⟩:=k;have g:=NM f x.2.2.1.length;rw[yaj]at g;have l:=ZA (n:=x.2.1.toNat) (by omega);have m:=ZA (n:=x.2.2.1.length) (by omega);have y:=YE x.2.2.2.toNat
 unfold fK;simp only[ym];omega
theorem NN{t:Tx}(hw:mR t)(h:pZ t):ta yD t=ab (iO t)/\(iO t).length<=40000:=by
 obtain⟨g,outs,j⟩:=t;obtain⟨F,T⟩:=hw;obtain⟨h1,U,W,X,G,I⟩:=h;dsimp only at F T h1 U W X G I;have Y:=λk=>W4 (f:=eS) (c:=41) (λx A=>ze (F x A) (G x A)) U k;have lo:=λk=>W4 (f:=fH) (c:=551) (λx A=>zf (I x A)) W k;have M:=Y g.length;have Q:=lo outs.length;rw[yaj]at M Q;have r1:=ZA (n:=g.length) (by omega);have r2:=ZA (n:=outs.length) (by omega);have r3:=ZA (n:=j.toNat) (by omega);refine⟨?_,by unfold iO;simp only[ym];omega⟩;unfold ta;dsimp only;rw[jZ (by omega) (by omega) (by simp),ya,yz,yat]
 rw[show(Yi g.length,g,(g.length:Int),(0:Int),(g,outs,j))=(λk:Nat=>(Yi g.length++bj eS (g.take k),g,(g.length:Int),(k:Int),(g,outs,j))) 0 by simp[bj],
  ZD (x:=(Yi g.length++bj eS g,(g,outs,j))) g.length (λk:Nat=>(Yi g.length++bj eS (g.take k),g,(g.length:Int),(k:Int),(g,outs,j))) ?_ ?_ (by omega),ya]
 .dsimp only;rw[jZ (by omega) (by omega) (by rw[ym];omega),ya,yat];generalize Z:Yi g.length++bj eS g++Yi outs.length=m;have hpl:m.length<=3000:=by rw[<-Z];simp only[ym];omega
  rw[show(m,outs,(outs.length:Int),(0:Int),(g,outs,j))=(λk:Nat=>(m++bj fH (outs.take k),outs,(outs.length:Int),(k:Int),(g,outs,j))) 0 by simp[bj],
   ZD (x:=(m++bj fH outs,(g,outs,j))) outs.length (λk:Nat=>(m++bj fH (outs.take k),outs,(outs.length:Int),(k:Int),(g,outs,j))) ?_ ?_ (by omega),ya]
  .dsimp only;rw[jZ X T (by rw[ym];omega),ya, <-Z];unfold iO;simp only[yac]
  .intro k y;obtain⟨e,z,E⟩:=Zj y;have R:=lo k;have l:=I e E;have S:=l.2.2.1;have hll:=qa S;have hrl:=ZA (n:=e.1.toNat) (by have:=l.2.1;omega);unfold xt;dsimp only
   rw[yW (Zx y),Zp z,ya,jZ l.1 (by have:=l.2.1;omega) (by rw[ym];omega),ya,NL l.2.2.1 l.2.2.2,ya,
    ZyC (by simp only[ym];omega) (by omega),ya,Zq (by omega),VD z]
   unfold fH;simp only[yac]
  .unfold xt;dsimp only;rw[yX (by rw[ZB];decide),yaj]
 .intro k y;obtain⟨e,z,E⟩:=Zj y;have R:=Y k;have h32:=F e E;have l:=G e E;unfold xr;dsimp only
  rw[yW (Zx y),Zp z,ya,ZAw (by rw[ym];omega) (by omega),ya,jZ l.1 (by have:=l.2.1;omega) (by simp only[ym];omega),ya,
   Zq (by omega),VD z]
  unfold eS;simp only[yac]
 .unfold xr;dsimp only;rw[yX (by rw[ZB];decide),yaj]
def fp(l:yL Out):Int:=(l.map (·.1)).sum
theorem tL{l:yL Out}{k:Nat}{e:Out}(h:l[k]? =ab e):fp (l.take (k+1))=fp (l.take k)+e.1:=by
 unfold fp;rw[Wm h,yau,List.sum_append];simp
theorem ZGe:∀{l:yL Int},(∀x,x∈l->0<=x)->0<=l.sum
 |[],_=>by simp
 |x::r,h=>by
  have:=ZGe (l:=r) λy f=>h y (List.mem_cons_of_mem _ f);have:=h x (List.mem_cons_self ..);rw[List.sum_cons];omega
def qb:yL yB:=dg
def Ahd(a b:Cond):Prop:=a.1 < b.1\/a.1=b.1/\a.2.1 < b.2.1
instance(a b:Cond):Decidable (Ahd a b):=by unfold Ahd;infer_instance
theorem ZDj{lo hi:Int}{l:yL Int}(hl:l.length<=100)(h:∀x,x∈l->lo<=x/\x<=hi):Z7 yD lo hi l=ab ae:=by
 unfold Z7 YO Xm;rw[show(l,(l.length:Int),(0:Int),lo,hi)=(λk:Nat=>(l,(l.length:Int),(k:Int),lo,hi)) 0 from rfl,ZD (x:=.inr (lo,hi)) l.length (λk:Nat=>(l,(l.length:Int),(k:Int),lo,hi)) ?_ ?_ (by omega),ya]
 .rfl
 .intro k f;obtain⟨e,g,j⟩:=Zj f;have:=h e j;unfold ZP xB;dsimp only;rw[yW (Zx f),Zp g,ya,yX (dn (by omega)),ya,yZ (by omega),yX (by simp),Zq (by omega)]
 .unfold ZP;dsimp only;rw[yX (by rw[ZB];decide)]
theorem w1{lo hi z:Int}(h1:lo<=z)(h2:z<=hi):Z7 yD lo hi [z]=ab ae:=ZDj (by simp) λx f=>by rw[yba.1 f];exact⟨h1,h2⟩
theorem Zsd(a b:Int):Yw yD a b=ab (if a < b then-1 else if a > b then 1 else 0):=by
 unfold Yw xC;rw[ya,ya];have e:∀z:Int,(z !=z)=af:=λz=>by simp
 rw[e,e,yX (by decide),yX (by decide)];by_cases f:a < b
 .rw[yW (yY f),yW f]
 .rw[yX (by rw[yN];exact f),yX f];by_cases g:a > b
  .rw[yW (yY g),yW g]
  .rw[yX (by rw[yN];exact g),yX g]
def mS:yL Int->Int
 |[]=>0
 |z::r=>if z≠0 then z else mS r
theorem ZMe{l:yL Int}(hl:l.length<=100):tf yD l=ab (mS l):=by
 have m:∀(d k f:Nat),k+d=l.length->d < f->∃x,Zc (WX yD) f ((0:Int),l,(l.length:Int),(k:Int))=ab x/\(x=.inl (mS (l.drop k))\/x=.inr 0/\mS (l.drop k)=0):=by
  intro d
  induction d with
  |zero=>
   intro k f h A;obtain⟨f,rfl⟩:=Nat.exists_eq_succ_of_ne_zero (n:=f) (by omega);have:k=l.length:=by omega
   subst this;unfold Zc WX;dsimp only;rw[yX (by rw[ZB];decide),ya]
   exact⟨_,rfl,.inr ⟨rfl,by rw[List.drop_length];rfl⟩⟩
  |succ d E=>
   intro k f h A;obtain⟨f,rfl⟩:=Nat.exists_eq_succ_of_ne_zero (n:=f) (by omega);have g:k < l.length:=by omega
   obtain⟨e,y,I⟩:=Zj g
   have F:l.drop k=e::l.drop (k+1):=by
    rw[List.drop_eq_getElem_cons g];rw[yab g]at y;cases y;rfl
   rw[F];unfold Zc WX;dsimp only;rw[yW (Zx g),Zp y,ya];by_cases z:e=0
   .subst z;rw[yX (by decide),ya,Zq (by omega)];exact E (k+1) f (by omega) (by omega)
   .rw[yW (bne_iff_ne.2 z),ya];exact⟨_,rfl,.inl (by unfold mS;rw[yW z])⟩
 unfold tf;obtain⟨x,G,j⟩:=m l.length 0 yD (by omega) (by rw[jQ];omega);rw[List.drop_zero]at j;show Option.bind (Zc (WX yD) yD ((0:Int),l,(l.length:Int),((0:Nat):Int))) _=_;rw[G,ya];rcases j with rfl|⟨rfl,j⟩
 .rfl
 .rw[j]
theorem lK(p q:Prop)[Decidable p][Decidable q]{b:Bool}(h:b=ag (p/\q)):(if decide p=ae then ab (decide q) else ab af)=ab b:=by
 subst h;by_cases f:p
 .rw[yW (yY f)];by_cases g:q
  .rw[yY g,yY ⟨f,g⟩]
  .rw[yZ g,yZ λh=>g h.2]
 .rw[yX (by rw[yN];exact f),yZ λh=>f h.1]
theorem ZKW(z a b:Int):XE yD z a b=ab (ag (a<=z/\z<=b)):=lK _ _ rfl
theorem zh(z a b:Int):ZZ yD z a b=ab (ag (a<=z/\z<=b)):=lK (z >= a) (z<=b) rfl
theorem NO(z a b:Int):Yz yD z a b=ab (ag (a<=z/\z<=b)):=lK (z >= a) (z<=b) rfl
def WO(t:bw):Prop:=(0<=t.1/\t.1<=65536)/\(1<=t.2.2.1/\t.2.2.1<=4096)/\(0<=t.2.2.2.1/\t.2.2.2.1<=16)/\(t.1<=t.2.1/\t.2.1<=1125899906842624)/\(1<=t.2.2.2.2.1/\t.2.2.2.2.1<=1125899906842624)/\(0<=t.2.2.2.2.2/\t.2.2.2.2.2<=1125899906842624)
instance(t:bw):Decidable (WO t):=by unfold WO;infer_instance
theorem X3{p q:Prop}[Decidable p][Decidable q][Decidable (p/\q)]{x:yO Bool}(h:x=ab (decide q)):(if decide p=ae then x else ab af)=ab (ag (p/\q)):=by
 rw[h];exact lK p q (by congr)
theorem ZGf(t:bw):xx yD t=ab (ag (WO t)):=by
 unfold xx;simp only[ZKW,ya];exact X3 (X3 (X3 (X3 (X3 rfl))))
theorem ZDk(t:bw):Q2 yD t=ab (ag (WO t)):=by
 unfold Q2;simp only[zh,ya];refine(X3 (X3 (X3 (X3 (X3 rfl))))).trans (congrArg ab (decide_eq_decide.2 ?_));constructor
 .rintro⟨f,g,h,j,l,m⟩;exact⟨f,h,j,g,l,m⟩
 .rintro⟨f,h,j,g,l,m⟩;exact⟨f,g,h,j,l,m⟩
def pts(b:bo):yL yU:=[b.1,b.2.1,b.2.2.1,b.2.2.2.1,b.2.2.2.2]
def gj(p:yU):Prop:=eD p.toNat/\p≠1
instance(p:yU):Decidable (gj p):=by unfold gj;infer_instance
def Qs(b:bo):Prop:=∀p,p∈pts b->gj p
instance(b:bo):Decidable (Qs b):=by unfold Qs;infer_instance
theorem ZGg(p:yU):xy yD p=ab (!decide (gj p)):=by
 unfold xy;rw[yC,ya];by_cases h:p=1
 .rw[yW (beq_iff_eq.2 h),yZ (p:=gj p) λk=>k.2 h];rfl
 .rw[yX (by rw[yT];exact h)];by_cases k:eD p.toNat
  .rw[yY k,yY (p:=gj p) ⟨k,h⟩]
  .rw[yZ k,yZ (p:=gj p) λq=>k q.1]
theorem ZKX(p:yU):MW yD p=ab (ag (gj p)):=by
 unfold MW;rw[za,ya];by_cases k:eD p.toNat
 .rw[yY k,yW rfl];by_cases h:p=1
  .rw[yZ (p:=gj p) λq=>q.2 h,h];rfl
  .rw[yY (p:=gj p) ⟨k,h⟩];exact congrArg ab (bne_iff_ne.2 h)
 .rw[yZ k,yX (by decide),yZ (p:=gj p) λq=>k q.1]
theorem ZDl(b:bo):xA yD b=ab (ag (Qs b)):=by
 unfold xA KI KH
 obtain⟨x,A,E⟩:=Xz (step:=XF yD) 5 (λk s=>s=(pts b,(5:Int),(k:Int))/\∀j p,j < k->(pts b)[j]? =ab p->gj p) (λx=>(∃j:Nat,x=.inl (j:Int)/\¬Qs b)\/x=.inr ()/\Qs b) (i:=(pts b,((pts b).length:Int),(0:Int))) ⟨rfl,λj p g=>by omega⟩ (by omega) (by
  rintro k _ F ⟨rfl,g⟩;obtain⟨p,m,G⟩:=Zj (l:=pts b) (k:=k) F;unfold XF;dsimp only;rw[yW (yY (by omega)),Zp m,ya,ZGg,ya,Zq (by omega)];by_cases h:gj p
  .left;rw[yY h,yX (by decide)];refine⟨_,rfl,rfl,λj q I y=> ?_⟩;by_cases e:j=k
   .subst e;rw[m]at y;cases y;exact h
   .exact g j q (by omega) y
  .right;rw[yZ h,yW (by decide)];exact⟨_,rfl,.inl ⟨k,rfl,λM=>h (M p G)⟩⟩) (by
  rintro _ ⟨rfl,g⟩;unfold XF;dsimp only;rw[yX (dn (by omega))];refine⟨_,rfl,.inr ⟨rfl,λp m=> ?_⟩⟩;obtain⟨j,f,z⟩:=ybk m;exact g j p f (by rw[yab f,z]))
 rw[show([b.1,b.2.1,b.2.2.1,b.2.2.2.1,b.2.2.2.2]:yL yU)=pts b from rfl,A,ya]
 rcases E with⟨j,rfl,h⟩|⟨rfl,h⟩
 .dsimp only;rw[ya,ya,yY (show(j:Int) >= 0 by omega),yZ h];rfl
 .dsimp only;rw[ya,ya,yY h];rfl
theorem ZDm(i:Int)(ch:Chan)(b:bo):∃x,Zc (XG yD) yD (i,pts b,(0:Int),ch,b)=ab x/\(x=.inl (1,ch,b)/\¬Qs b\/x=.inr (i,ch,b)/\Qs b):=by
 refine Xz (step:=XG yD) 5 (λk s=>s=(i,pts b,(k:Int),ch,b)/\∀j p,j < k->(pts b)[j]? =ab p->gj p) _ (i:=(i,pts b,(0:Int),ch,b)) ⟨rfl,λj p g=>by omega⟩ (by omega) ?_ ?_
 .rintro k _ A ⟨rfl,g⟩;obtain⟨p,m,E⟩:=Zj (l:=pts b) (k:=k) A;unfold XG;dsimp only;rw[yW (yY (by omega)),Zp m,ya,ZKX,ya,Zq (by omega)];by_cases h:gj p
  .left;rw[yY h,yX (by decide)];refine⟨_,rfl,rfl,λj q F y=> ?_⟩;by_cases e:j=k
   .subst e;rw[m]at y;cases y;exact h
   .exact g j q (by omega) y
  .right;rw[yZ h,yW (by decide)];exact⟨_,rfl,.inl ⟨rfl,λG=>h (G p E)⟩⟩
 .rintro _ ⟨rfl,g⟩;unfold XG;dsimp only;rw[yX (dn (by omega))];refine⟨_,rfl,.inr ⟨rfl,λp m=> ?_⟩⟩;obtain⟨j,f,z⟩:=ybk m;exact g j p f (by rw[yab f,z])
structure dC(ch:Chan):Prop where
 b:ch.2.2.1.length=2
 t:ch.2.2.2.1.length=2
 a0: -9223372036854775808<=ch.2.1
 a1:ch.2.1<=9223372036854775807
 n0: -9223372036854775808<=ch.1.2
 n1:ch.1.2<=9223372036854775807
 o0: -9223372036854775808<=ch.2.2.2.2
 o1:ch.2.2.2.2<=9223372036854775807
def gk(ch:Chan):Prop:=∀i:Nat,i < 2->∀t b,ch.2.2.2.1[i]? =ab t->ch.2.2.1[i]? =ab b->WO t/\Qs b
open Classical in
theorem kb{α:Type}{l:yL α}(h:l.length=2):∃a b,l=[a,b]:=by
 match l,h with
 |[a,b],_=>exact⟨a,b,rfl⟩
theorem NP{a:ZL}{A:Int}{f g:bo}{t0 t1:bw}{op:Int}:gk (a,A,[f,g],[t0,t1],op)↔(WO t0/\Qs f)/\WO t1/\Qs g:=by
 constructor
 .intro h;exact⟨h 0 (by omega) t0 f rfl rfl,h 1 (by omega) t1 g rfl rfl⟩
 .rintro⟨m,y⟩ i z t b j l
  match i,z with
  |0,_=>cases j;cases l;exact m
  |1,_=>cases j;cases l;exact y
theorem ZyF(ch:Chan)(l:yL bw){k:Nat}(j:k < 2){t:bw}{b:bo}(ht:l[k]? =ab t)(hb:ch.2.2.1[k]? =ab b):
 VJ yD (l,(k:Int),ch)=ab (if WO t/\Qs b then .inl (l,((k+1:Nat):Int),ch) else .inr (.inl (1,ch))):=by
 unfold VJ;dsimp only;rw[yW (yY (by omega)),Zp ht,ya,ZGf,ya,yW (XY (by omega) (by omega)),yat,hb,ya,ZDl,ya,Zq (by omega)];by_cases f:WO t
 .rw[yY f,yX (by decide)];by_cases g:Qs b
  .rw[yY g,yX (by decide),yW ⟨f,g⟩]
  .rw[yZ g,yW (by decide),yX λh=>g h.2]
 .rw[yZ f,yW (by decide),yX λh=>f h.1]
theorem Zun(ch:Chan){k:Nat}(l:k < 2){t:bw}{b:bo}(ht:ch.2.2.2.1[k]? =ab t)(hb:ch.2.2.1[k]? =ab b):
 XH yD ((k:Int),ch)=ab (if WO t/\Qs b then .inl (((k+1:Nat):Int),ch) else .inr (.inl (1,ch))):=by
 unfold XH;dsimp only;rw[yW (yY (by omega)),yW (XY (by omega) (by omega)),yat,hb,ya,yW (XY (by omega) (by omega)),ht,ya,ZDk,ya];obtain⟨x,g,j⟩:=ZDm (k:Int) ch b;rw[show([b.1,b.2.1,b.2.2.1,b.2.2.2.1,b.2.2.2.2]:yL yU)=pts b from rfl,g,ya]
 by_cases f:WO t
 .rw[yY f,yX (by decide)];rcases j with⟨rfl,h⟩|⟨rfl,h⟩
  .dsimp only;rw[yX λq=>h q.2]
  .dsimp only;rw[yW ⟨f,h⟩,Zq (by omega)]
 .rw[yZ f,yW (by decide),yX λh=>f h.1]
theorem NQ(ch:Chan)(l:yL bw){t0 t1:bw}{f g:bo}(ht:l=[t0,t1])(hb:ch.2.2.1=[f,g]):
 Zc (VJ yD) yD (l,(0:Int),ch)=ab (if(WO t0/\Qs f)/\WO t1/\Qs g then .inr ch else .inl (1,ch)):=by
 subst ht;have s0:=ZyF ch [t0,t1] (k:=0) (by omega) (t:=t0) (b:=f) rfl (by rw[hb];rfl);have s1:=ZyF ch [t0,t1] (k:=1) (by omega) (t:=t1) (b:=g) rfl (by rw[hb];rfl);by_cases j:WO t0/\Qs f
 .rw[yW j]at s0;by_cases m:WO t1/\Qs g
  .rw[yW m]at s1;rw[yW ⟨j,m⟩];refine ZD 2 (λk:Nat=>([t0,t1],(k:Int),ch)) ?_ ?_ (by omega)
   .intro k y;rcases (show k=0\/k=1 by omega) with rfl|rfl
    .exact s0
    .exact s1
   .unfold VJ;rfl
  .rw[yX m]at s1;rw[yX λh=>m h.2];exact ZD 1 (λk:Nat=>([t0,t1],(k:Int),ch)) (λk y=>by rw[show k=0 by omega];exact s0) s1 (by omega)
 .rw[yX j]at s0;rw[yX λh=>j h.1];exact ZD 0 (λk:Nat=>([t0,t1],(k:Int),ch)) (λk y=>absurd y (by omega)) s0 (by omega)
theorem ZAy(ch:Chan){t0 t1:bw}{f g:bo}(ht:ch.2.2.2.1=[t0,t1])(hb:ch.2.2.1=[f,g]):
 Zc (XH yD) yD ((0:Int),ch)=ab (if(WO t0/\Qs f)/\WO t1/\Qs g then .inr ch else .inl (1,ch)):=by
 have s0:=Zun ch (k:=0) (by omega) (t:=t0) (b:=f) (by rw[ht];rfl) (by rw[hb];rfl);have s1:=Zun ch (k:=1) (by omega) (t:=t1) (b:=g) (by rw[ht];rfl) (by rw[hb];rfl);by_cases j:WO t0/\Qs f
 .rw[yW j]at s0;by_cases l:WO t1/\Qs g
  .rw[yW l]at s1;rw[yW ⟨j,l⟩];refine ZD 2 (λk:Nat=>((k:Int),ch)) ?_ ?_ (by omega)
   .intro k m;rcases (show k=0\/k=1 by omega) with rfl|rfl
    .exact s0
    .exact s1
   .unfold XH;rfl
  .rw[yX l]at s1;rw[yX λh=>l h.2];exact ZD 1 (λk:Nat=>((k:Int),ch)) (λk m=>by rw[show k=0 by omega];exact s0) s1 (by omega)
 .rw[yX j]at s0;rw[yX λh=>j h.1];exact ZD 0 (λk:Nat=>((k:Int),ch)) (λk m=>absurd m (by omega)) s0 (by omega)
theorem ZyG(X:BitVec 64):(X&&& ~~~(1#64))=0#64↔X=0#64\/X=1#64:=by
 constructor
 .intro h
  have g:∀i:Nat,1<=i->X.getLsbD i=af:=by
   intro i l;have:=congrArg (λy=>BitVec.getLsbD y i) h;simp only[BitVec.getLsbD_and,BitVec.getLsbD_not,BitVec.getLsbD_zero]at this;by_cases f:i < 64
   .have z:(1#64).getLsbD i=af:=by
     rw[BitVec.getLsbD_one];simp;omega
    rw[z]at this;simpa[f] using this
   .exact BitVec.getLsbD_of_ge X i (by omega)
  cases m:X.getLsbD 0 with
  |false=>
   left;apply BitVec.eq_of_getLsbD_eq;intro i l
   match i with
   |0=>rw[m];simp
   |j+1=>rw[g (j+1) (by omega)];simp
  |true=>
   right;apply BitVec.eq_of_getLsbD_eq;intro i l
   match i with
   |0=>rw[m];rfl
   |j+1=>
    rw[g (j+1) (by omega),BitVec.getLsbD_one];simp
 .rintro(rfl|rfl) <;> rfl
theorem NR{op:Int}(z: -9223372036854775808<=op)(A:op<=9223372036854775807):((bits .andNot .i64 op 1)!=0)= !decide (0<=op/\op<=1):=by
 have e:bits .andNot .i64 op 1=IntKind.i64.wrap ((yca 64 op&&& ~~~(1#64)).toNat:Int):=rfl;have f:=(yca 64 op&&& ~~~(1#64)).isLt
 have j:∀n:Nat,n < 18446744073709551616->(IntKind.i64.wrap (n:Int)=0↔n=0):=by
  intro n g;have y:IntKind.i64.wrap (n:Int)=if(ag ((n:Int) % 18446744073709551616 >= 9223372036854775808))=ae then(n:Int) % 18446744073709551616 - 18446744073709551616 else(n:Int) % 18446744073709551616:=rfl
  rw[y];by_cases l:(n:Int) % 18446744073709551616 >= 9223372036854775808
  .rw[yW (yY l)];omega
  .rw[yX (by rw[yN];exact l)];omega
 have m:(yca 64 op&&& ~~~(1#64)).toNat=0↔0<=op/\op<=1:=by
  rw[show((yca 64 op&&& ~~~(1#64)).toNat=0↔(yca 64 op&&& ~~~(1#64))=0#64) from⟨λh=>BitVec.eq_of_toNat_eq h,λh=>by rw[h];rfl⟩,ZyG]
  have g:(yca 64 op).toNat=(op % 18446744073709551616).toNat:=by rw[BitVec.toNat_ofInt];rfl
  constructor
  .rintro(h|h)
   .have:=congrArg BitVec.toNat h;rw[g]at this;simp at this;omega
   .have:=congrArg BitVec.toNat h;rw[g]at this;simp at this;omega
  .rintro⟨E,F⟩;rcases (show op=0\/op=1 by omega) with rfl|rfl
   .exact .inl rfl
   .exact .inr rfl
 rw[e];by_cases h:0<=op/\op<=1
 .rw[yY h,(j _ f).2 (m.2 h)];rfl
 .rw[yZ h];exact bne_iff_ne.2 λk=>h (m.1 ((j _ f).1 k))
theorem zj{ch:Chan}(w:dC ch):∃e:Int,Wi yD ch=ab e/\V0 yD ch=ab e/\(e=0->(1<=ch.2.1/\ch.2.1<=1125899906842624)/\(0<=ch.1.2/\ch.1.2<=63)/\(ch.2.2.2.2=0\/ch.2.2.2.2=1)/\gk ch):=by
 obtain⟨R,S,y⟩:=kb w.b;obtain⟨t0,t1,E⟩:=kb w.t;have T:=w.a0;have F:=w.o0;have G:=w.o1;obtain⟨⟨id,no⟩,A,W,ts,I⟩:=ch;dsimp only at y E T F G;subst y;subst E;have j:=NR F G;unfold Wi V0;dsimp only;simp only[zh,ya];by_cases l:1<=A/\A<=1125899906842624
 .rw[yX (show¬ag (A < 1)=ae by rw[yN];omega),yX (show¬ag (A > 1125899906842624)=ae by rw[yN];omega)];rw[yX (show¬(!decide (1<=A/\A<=1125899906842624))=ae by rw[yY l];decide)];by_cases m:0<=no/\no<=63
  .rw[yX (show¬ag (no < 0)=ae by rw[yN];omega),yX (show¬ag (no >= 64)=ae by rw[yN];omega)];rw[yX (show¬(!decide (0<=no/\no<=63))=ae by rw[yY m];decide),j];by_cases M:0<=I/\I<=1
   .rw[yY M,yX (by decide),yX (by decide),NQ _ _ rfl rfl,ZAy _ rfl rfl,ya,ya];by_cases g:(WO t0/\Qs R)/\WO t1/\Qs S
    .rw[yW g];dsimp only;obtain⟨_,_,_,X,_⟩:=g.1.1;obtain⟨Y,_⟩:=g.1.1;obtain⟨_,_,_,Z,_⟩:=g.2.1;obtain⟨p1,_⟩:=g.2.1
     have U:Qa yD t0.2.1 t1.2.1=if t0.2.1+t1.2.1<=1125899906842624 then ab (t0.2.1+t1.2.1,ae) else ab (0,af):=by
      unfold Qa om;rw[yW (yY (show t0.2.1 >= 0 by omega)),yW (yY (show t1.2.1 >= 0 by omega)),ya,ya,yY (show t0.2.1<=1125899906842624 by omega),yY (show t1.2.1<=1125899906842624 by omega),yX (by decide),yX (by decide),ZE (z:=1125899906842624 - t1.2.1) (by omega) (by omega),ZE (z:=t0.2.1+t1.2.1) (by omega) (by omega)];by_cases h:t0.2.1+t1.2.1<=1125899906842624
      .rw[yX (dn (by omega)),yW h]
      .rw[yW (yY (by omega)),yX h]
     rw[yam,yak,yam,ya,ya,ya,ya,U,ZE (z:=t0.2.1+t1.2.1) (by omega) (by omega)];refine⟨if t0.2.1+t1.2.1 > A then 10 else 0, ?_, ?_,λ_=>⟨l,m,by omega,NP.2 g⟩⟩
     .by_cases Q:t0.2.1+t1.2.1<=1125899906842624
      .rw[yW Q,ya,yX (show¬(!true)=ae by decide)];by_cases f:t0.2.1+t1.2.1 > A
       .rw[yW (yY f),yW f]
       .rw[yX (by rw[yN];exact f),yX f]
      .rw[yX Q,ya,yW (show(!false)=ae by decide),yW (by omega)]
     .by_cases f:t0.2.1+t1.2.1 > A
      .rw[yW (yY f),yW f]
      .rw[yX (by rw[yN];exact f),yX f]
    .rw[yX g];exact⟨1,rfl,rfl,λh=>absurd h (by decide)⟩
   .rw[yZ M,yW (by decide),yW (by decide)];exact⟨1,rfl,rfl,λh=>absurd h (by decide)⟩
  .rw[yW (show(!decide (0<=no/\no<=63))=ae by rw[yZ m];rfl)];refine⟨1, ?_,rfl,λh=>absurd h (by decide)⟩;by_cases h:no < 0
   .rw[yW (yY h)]
   .rw[yX (by rw[yN];exact h),yW (yY (by omega))]
 .rw[yW (show(!decide (1<=A/\A<=1125899906842624))=ae by rw[yZ l];rfl)];refine⟨1, ?_,rfl,λh=>absurd h (by decide)⟩;by_cases h:A < 1
  .rw[yW (yY h)]
  .rw[yX (by rw[yN];exact h),yW (yY (by omega))]
theorem Zuo{lo hi:Int}{l:yL Int}(hl:l.length<=100):Z7 yD lo hi l=ab (ag (∀x,x∈l->lo<=x/\x<=hi)):=by
 unfold Z7 YO Xm
 obtain⟨x,M,Q⟩:=Xz (step:=ZP yD) l.length (λk s=>s=(l,(l.length:Int),(k:Int),lo,hi)/\∀(j:Nat)z,j < k->l[j]? =ab z->lo<=z/\z<=hi) (λx=>(∃j:Nat,x=.inl ((j:Int),lo,hi)/\¬∀z,z∈l->lo<=z/\z<=hi)\/x=.inr (lo,hi)/\∀z,z∈l->lo<=z/\z<=hi) (i:=(l,(l.length:Int),(0:Int),lo,hi)) ⟨rfl,λj z g=>by omega⟩ (by omega) (by
  rintro k _ E ⟨rfl,g⟩;obtain⟨z,F,G⟩:=Zj E;unfold ZP xB;dsimp only;rw[yW (Zx E),Zp F,ya,Zq (by omega)];by_cases h:z < lo
  .right;rw[yW (yY h),ya,yW rfl];exact⟨_,rfl,.inl ⟨k,rfl,λm=>by have:=m z G;omega⟩⟩
  .rw[yX (by rw[yN];exact h),ya];by_cases I:z > hi
   .right;rw[yW (yY I)];exact⟨_,rfl,.inl ⟨k,rfl,λm=>by have:=m z G;omega⟩⟩
   .left;rw[yX (by rw[yN];exact I)];refine⟨_,rfl,rfl,λj q R y=> ?_⟩;by_cases e:j=k
    .subst e;rw[F]at y;cases y;omega
    .exact g j q (by omega) y) (by
  rintro _ ⟨rfl,g⟩;unfold ZP;dsimp only;rw[yX (by rw[ZB];decide)];refine⟨_,rfl,.inr ⟨rfl,λp S=> ?_⟩⟩;obtain⟨j,f,A⟩:=ybk S;exact g j p f (by rw[yab f,A]))
 rw[M,ya];rcases Q with⟨j,rfl,h⟩|⟨rfl,h⟩
 .dsimp only;rw[ya,ya,yY (show(j:Int) >= 0 by omega),yZ h];rfl
 .dsimp only;rw[ya,ya,yY h];rfl
theorem tM(lo hi z:Int):Z7 yD lo hi [z]=ab (ag (lo<=z/\z<=hi)):=by
 rw[Zuo (by simp)];exact congrArg ab (decide_eq_decide.2 (by simp))
theorem ZBT(lo hi y z:Int):Z7 yD lo hi [y,z]=ab (ag ((lo<=y/\y<=hi)/\lo<=z/\z<=hi)):=by
 rw[Zuo (by simp)];exact congrArg ab (decide_eq_decide.2 (by simp))
def kc(c:Cond):Prop:=(0<=c.1/\c.1<=1)/\(1<=c.2.1/\c.2.1<=1048576)/\(1<=c.2.2.1/\c.2.2.1<=1125899906842624)/\(1<=c.2.2.2.2/\c.2.2.2.2<=1048576)/\gj c.2.2.2.1
instance(c:Cond):Decidable (kc c):=by unfold kc;infer_instance
theorem ZBU(c:Cond):te yD c=ab (ag (kc c)):=by
 unfold te;simp only[tM,ya,yC];refine X3 (X3 (X3 (X3 ?_)));by_cases k:eD c.2.2.2.1.toNat
 .rw[yY k,yW rfl];by_cases h:c.2.2.2.1=1
  .rw[yZ (p:=gj c.2.2.2.1) λq=>q.2 h,h];rfl
  .rw[yY (p:=gj c.2.2.2.1) ⟨k,h⟩];exact congrArg ab (bne_iff_ne.2 h)
 .rw[yZ k,yX (by decide),yZ (p:=gj c.2.2.2.1) λq=>k q.1]
theorem ZGh(c:Cond):MX yD c=ab (ag (kc c)):=by
 unfold MX;simp only[NO,ya,za];by_cases k:eD c.2.2.2.1.toNat
 .rw[yY k,yW rfl];by_cases h:c.2.2.2.1=1
  .rw[yZ (p:=kc c) λq=>q.2.2.2.2.2 h,h];rfl
  .rw[yW (bne_iff_ne.2 h)];refine(X3 (X3 (X3 rfl))).trans (congrArg ab (decide_eq_decide.2 ?_));constructor
   .rintro⟨f,g,j,l⟩;exact⟨f,g,j,l,k,h⟩
   .rintro⟨f,g,j,l,_⟩;exact⟨f,g,j,l⟩
 .rw[yZ k,yX (by decide),yZ (p:=kc c) λq=>k q.2.2.2.2.1]
def bV(a b:Cond):Prop:=a.1 < b.1\/a.1=b.1/\a.2.1 < b.2.1
instance(a b:Cond):Decidable (bV a b):=by unfold bV;infer_instance
theorem NS(a b:Cond):∃v,QO yD a b=ab v/\(v >= 0↔¬bV a b):=by
 unfold QO;rw[Zsd,Zsd,ya,ya,ZMe (by simp),ya];refine⟨_,rfl, ?_⟩;unfold bV;by_cases f:a.1 < b.1
 .simp only[yW f,mS];simp[f]
 .by_cases h:a.1 > b.1
  .simp only[yX f,yW h,mS];simp;omega
  .simp only[yX f,yX h,mS];by_cases g:a.2.1 < b.2.1
   .simp only[yW g];simp;omega
   .by_cases j:a.2.1 > b.2.1
    .simp only[yX g,yW j];simp;omega
    .simp only[yX g,yX j];simp;omega
theorem ZDn(a b:Cond):Q5 yD a b=ab (ag (bV a b)):=by
 unfold Q5;by_cases f:a.1 < b.1
 .rw[yW (yY f),yY (p:=bV a b) (.inl f)]
 .rw[yX (by rw[yN];exact f)];by_cases g:a.1=b.1
  .rw[yW (beq_iff_eq.2 g)];exact congrArg ab (decide_eq_decide.2 (by unfold bV;omega))
  .rw[yX (by rw[yT];exact g),yZ (p:=bV a b) (by unfold bV;omega)]
def lL(to:Int)(o:Int×Int)(c:Cond):Int×Int:=if c.1=wi (1 - to) then(wi (o.1+1),wi (o.2+c.2.2.1)) else o
def off(to:Int)(l:yL Cond):Int×Int:=l.foldl (lL to) (0,0)
theorem ZGi{to:Int}{l:yL Cond}{k:Nat}{c:Cond}(h:l[k]? =ab c):off to (l.take (k+1))=lL to (off to (l.take k)) c:=by
 rw[Wm h,off,List.foldl_append];rfl
theorem Zsh(s:yG)(to:Int)(hl:s.2.2.1.length<=1000):Ql yD s to=ab (off to s.2.2.1):=by
 unfold Ql;rw[show((to,(0:Int),(0:Int),s.2.2.1,(s.2.2.1.length:Int),(0:Int),s):Int×Int×Int×yL Cond×Int×Int×yG)=(λk:Nat=>(to,(off to (s.2.2.1.take k)).1,(off to (s.2.2.1.take k)).2,s.2.2.1,(s.2.2.1.length:Int),(k:Int),s)) 0 from rfl]
 rw[ZD (x:=((off to s.2.2.1).1,(off to s.2.2.1).2,s)) s.2.2.1.length (λk:Nat=>(to,(off to (s.2.2.1.take k)).1,(off to (s.2.2.1.take k)).2,s.2.2.1,(s.2.2.1.length:Int),(k:Int),s)) ?_ ?_ (by omega),ya]
 .intro k f;obtain⟨c,g,j⟩:=Zj f;unfold VX;dsimp only;rw[yW (Zx f),Zp g,ya,Zq (by omega),ZGi g];unfold lL;by_cases h:c.1=wi (1 - to)
  .rw[yW (beq_iff_eq.2 h),yW h]
  .rw[yX (by rw[yT];exact h),yX h]
 .unfold VX;dsimp only;rw[yX (by rw[ZB];decide),yaj]
theorem ZyH(s:yG)(to:Int)(hl:s.2.2.1.length<=1000):VM yD s to=ab (off to s.2.2.1):=by
 unfold VM;rw[show((to,(0:Int),(0:Int),(0:Int),s):Int×Int×Int×Int×yG)=(λk:Nat=>(to,(off to (s.2.2.1.take k)).1,(off to (s.2.2.1.take k)).2,(k:Int),s)) 0 from rfl]
 rw[ZD (x:=((off to s.2.2.1).1,(off to s.2.2.1).2,s)) s.2.2.1.length (λk:Nat=>(to,(off to (s.2.2.1.take k)).1,(off to (s.2.2.1.take k)).2,(k:Int),s)) ?_ ?_ (by omega),ya]
 .intro k f;obtain⟨c,g,j⟩:=Zj f;unfold WN;dsimp only;rw[yW (Zx f),Zp g,ya,ya,Zq (by omega),ZGi g];unfold lL;by_cases h:c.1=wi (1 - to)
  .rw[yW (beq_iff_eq.2 h),yW h]
  .rw[yX (by rw[yT];exact h),yX h]
 .unfold WN;dsimp only;rw[yX (by rw[ZB];decide),yaj]
def ZMf(o:Int)(c:Cond):Int:=wi (o+c.2.2.1)
def dy(z:Int)(l:yL Cond):Int:=l.foldl ZMf z
theorem ZGj{z:Int}{l:yL Cond}{k:Nat}{c:Cond}(h:l[k]? =ab c):dy z (l.take (k+1))=ZMf (dy z (l.take k)) c:=by
 rw[Wm h,dy,List.foldl_append];rfl
theorem ZyI(s:yG){a b:Int}(h2:s.2.1=[a,b])(hl:s.2.2.1.length<=1000):xw yD s=ab (dy (wi (a+b)) s.2.2.1):=by
 unfold xw;rw[h2,yam,yak,yam,ya,ya];rw[show((wi (a+b),s.2.2.1,(s.2.2.1.length:Int),(0:Int),s):Int×yL Cond×Int×Int×yG)=(λk:Nat=>(dy (wi (a+b)) (s.2.2.1.take k),s.2.2.1,(s.2.2.1.length:Int),(k:Int),s)) 0 from rfl]
 rw[ZD (x:=(dy (wi (a+b)) s.2.2.1,s)) s.2.2.1.length (λk:Nat=>(dy (wi (a+b)) (s.2.2.1.take k),s.2.2.1,(s.2.2.1.length:Int),(k:Int),s)) ?_ ?_ (by omega),ya]
 .intro k f;obtain⟨c,g,h⟩:=Zj f;unfold xv;dsimp only;rw[yW (Zx f),Zp g,ya,Zq (by omega),ZGj g];rfl
 .unfold xv;dsimp only;rw[yX (by rw[ZB];decide),yaj]
theorem ZDo(s:yG){a b:Int}(h2:s.2.1=[a,b])(hl:s.2.2.1.length<=1000):Q6 yD s=ab (dy (wi (a+b)) s.2.2.1):=by
 unfold Q6;rw[h2,yam,yak,yam,ya,ya];rw[show((wi (a+b),(0:Int),s):Int×Int×yG)=(λk:Nat=>(dy (wi (a+b)) (s.2.2.1.take k),(k:Int),s)) 0 from rfl]
 rw[ZD (x:=(dy (wi (a+b)) s.2.2.1,s)) s.2.2.1.length (λk:Nat=>(dy (wi (a+b)) (s.2.2.1.take k),(k:Int),s)) ?_ ?_ (by omega),ya]
 .intro k f;obtain⟨c,g,h⟩:=Zj f;unfold Vr;dsimp only;rw[yW (Zx f),Zp g,ya,Zq (by omega),ZGj g];rfl
 .unfold Vr;dsimp only;rw[yX (by rw[ZB];decide),yaj]
def df(r n:Int):Int:=if 0<=r/\r<=1000 then if 0<=n/\n<=16 then r*(68+8*n) else 0 else 0
theorem Zup{r n:Int}(h1:0<=r)(h2:r<=1000)(h3:0<=n)(h4:n<=16):wi (r*(68+8*n))=r*(68+8*n):=by
 have:=Int.mul_nonneg h1 (show 0<=68+8*n by omega);have:=Int.mul_le_mul h2 (show 68+8*n<=196 by omega) (by omega) (by omega);exact ZE (by omega) (by omega)
theorem ZKY(r n:Int):tg yD r n=ab (df r n):=by
 unfold tg KQ df;by_cases f:r < 0
 .rw[yW (yY f),yX (show¬(0<=r/\r<=1000) by omega)]
 .rw[yX (show¬ag (r < 0)=ae by rw[yN];exact f)];by_cases g:r > 1000
  .rw[yW (yY g),yX (show¬(0<=r/\r<=1000) by omega)]
  .rw[yX (show¬ag (r > 1000)=ae by rw[yN];exact g),yW (show 0<=r/\r<=1000 by omega)];by_cases h:n < 0
   .rw[yW (yY h),yX (show¬(0<=n/\n<=16) by omega),ya,Int.mul_zero];rfl
   .rw[yX (show¬ag (n < 0)=ae by rw[yN];exact h)];by_cases j:n > 16
    .rw[yW (yY j),yX (show¬(0<=n/\n<=16) by omega),ya,Int.mul_zero];rfl
    .rw[yX (show¬ag (n > 16)=ae by rw[yN];exact j),yW (show 0<=n/\n<=16 by omega),ya,ZE (z:=8*n) (by omega) (by omega),ZE (z:=68+8*n) (by omega) (by omega),Zup (by omega) (by omega) (by omega) (by omega)]
theorem ZIC(r n:Int):MY yD r n=ab (df r n):=by
 unfold MY ZcQ df;rw[zh,zh,ya,ya];by_cases f:0<=r/\r<=1000
 .rw[yY f,yX (by decide),yW f];by_cases g:0<=n/\n<=16
  .rw[yY g,yX (by decide),yW g,ya,ZE (z:=4+n) (by omega) (by omega),ZE (z:=(4+n)*8) (by omega) (by omega),ZE (z:=36+(4+n)*8) (by omega) (by omega),show(36+(4+n)*8:Int)=68+8*n by omega,Zup f.1 f.2 g.1 g.2]
  .rw[yZ g,yW (by decide),yX g,ya,Int.mul_zero];rfl
 .rw[yZ f,yW (by decide),yX f]
theorem NT(ch:Chan)(s:yG):th yD ch s=ab (wi (df s.2.2.2 (s.2.2.1.length:Int)+660)):=by
 unfold th;rw[ZKY,ya]
theorem ZGk(ch:Chan)(s:yG):MZ yD ch s=ab (wi (df s.2.2.2 (s.2.2.1.length:Int)+660)):=by
 unfold MZ;rw[ZIC,ya]
def bA(n:Nat)(ok:Nat->Prop):Prop:=∀k,k < n->ok k
open Classical in
theorem mT{I X:Type}{step:I->yO (I⊕X)}(n:Nat)(st:Nat->I)(ok:Nat->Prop)(f g:X)
 (h1:∀k,k < n->ok k->step (st k)=ab (.inl (st (k+1)))) (h2:∀k,k < n->¬ok k->step (st k)=ab (.inr g)) (he:step (st n)=ab (.inr f)) (hn:n < 18446744073709551616):
 Zc step yD (st 0)=ab (if bA n ok then f else g):=by
 obtain⟨x,e,rfl⟩:=Xz (step:=step) n (λk s=>s=st k/\∀j,j < k->ok j) (λx=>x=if bA n ok then f else g) (i:=st 0) ⟨rfl,λj h=>by omega⟩ hn (by
  rintro k _ l ⟨rfl,m⟩;by_cases h:ok k
  .left;refine⟨_,h1 k l h,rfl,λj y=> ?_⟩;by_cases e:j=k
   .rw[e];exact h
   .exact m j (by omega)
  .right;exact⟨_,h2 k l h,by rw[yX λq=>h (q k l)]⟩) (by
  rintro _ ⟨rfl,m⟩;exact⟨_,he,by rw[yW (show bA n ok from m)]⟩)
 exact e
def cm(ch:Chan)(l:yL Cond)(k:Nat):Prop:=∀c,l[k]? =ab c->kc c/\(∀p,0 < k->l[k - 1]? =ab p->bV p c)/\∀t,ch.2.2.2.1[(1 - c.1).toNat]? =ab t->t.2.2.2.2.1<=c.2.2.1
def cQ(ch:Chan)(l:yL Cond)(k:Nat):Prop:=∀t,ch.2.2.2.1[k]? =ab t->(off (k:Int) l).1<=t.2.2.2.1/\(off (k:Int) l).2<=t.2.2.2.2.2
theorem Zsi{ch:Chan}(w:ch.2.2.2.1.length=2){c:Cond}(h:0<=c.1/\c.1<=1):wi (1 - c.1)=1 - c.1/\bp (wi (1 - c.1)) 2=ae/\∃t,ch.2.2.2.1[(wi (1 - c.1)).toNat]? =ab t/\ch.2.2.2.1[(1 - c.1).toNat]? =ab t:=by
 have e:wi (1 - c.1)=1 - c.1:=ZE (by omega) (by omega);rw[e];obtain⟨t,f,_⟩:=Zj (l:=ch.2.2.2.1) (k:=(1 - c.1).toNat) (by omega);exact⟨rfl,XY (by omega) (by omega),t,f,f⟩
theorem zk{ch:Chan}(w:ch.2.2.2.1.length=2)(s:yG){k:Nat}(I:k < s.2.2.1.length)(hl:s.2.2.1.length<=16):
 (cm ch s.2.2.1 k->XP yD (s.2.2.1,(s.2.2.1.length:Int),(k:Int),ch,s)=ab (.inl (s.2.2.1,(s.2.2.1.length:Int),((k+1:Nat):Int),ch,s))/\YA yD ((k:Int),ch,s)=ab (.inl (((k+1:Nat):Int),ch,s)))/\
 (¬cm ch s.2.2.1 k->XP yD (s.2.2.1,(s.2.2.1.length:Int),(k:Int),ch,s)=ab (.inr (.inl (af,ch,s)))/\YA yD ((k:Int),ch,s)=ab (.inr (.inl (af,ch,s)))):=by
 obtain⟨c,y,Z⟩:=Zj I;unfold XP YA;dsimp only;rw[yW (Zx I),yW (Zx I)];simp only[Zp y,ya,ZBU,ZGh];rw[Zq (by omega)];by_cases z:kc c
 .rw[yY z,yX (show¬(!true)=ae by decide),yX (show¬(!true)=ae by decide)];obtain⟨e,R,t,S,m⟩:=Zsi w z.1;simp only[yW R];rw[S,ya];by_cases M:k=0
  .subst M;rw[yX (show¬ag (((0:Nat):Int) > 0)=ae by decide),yX (show¬ag (((0:Nat):Int) > 0)=ae by decide)];by_cases g:c.2.2.1 < t.2.2.2.2.1
   .have f:¬cm ch s.2.2.1 0:=λq=>by
     have:=(q c y).2.2 t m;omega
    refine⟨λq=>absurd q f,λ_=> ?_⟩;rw[yW (yY g),ya,yW (yY g)];exact⟨rfl,rfl⟩
   .have h:cm ch s.2.2.1 0:=λT j=>by
     rw[y]at j;cases j;refine⟨z,λp U=>by omega,λW E=> ?_⟩;rw[m]at E;cases E;omega
    refine⟨λ_=> ?_,λq=>absurd h q⟩;rw[yX (show¬ag (c.2.2.1 < t.2.2.2.2.1)=ae by rw[yN];exact g),ya,yX (show¬ag (c.2.2.1 < t.2.2.2.2.1)=ae by rw[yN];exact g)];exact⟨rfl,rfl⟩
  .obtain⟨p,Q,_⟩:=Zj (l:=s.2.2.1) (k:=k - 1) (by omega)
   have X:wi ((k:Int) - 1)=((k - 1:Nat):Int):=by
    rw[ZE (by omega) (by omega)];omega
   rw[yW (show ag ((k:Int) > 0)=ae from yY (by omega)),yW (show ag ((k:Int) > 0)=ae from yY (by omega)),X,Zp Q,ya,ya]
   obtain⟨v,Y,F⟩:=NS p c;rw[Y,ya,ZDn,ya];by_cases A:bV p c
   .rw[yY A,yX (show¬(!true)=ae by decide)];by_cases g:c.2.2.1 < t.2.2.2.2.1
    .have f:¬cm ch s.2.2.1 k:=λq=>by
      have:=(q c y).2.2 t m;omega
     refine⟨λq=>absurd q f,λ_=> ?_⟩;rw[yW (yY g),ya,yW (yY g)];exact⟨rfl,rfl⟩
    .have h:cm ch s.2.2.1 k:=λT j=>by
      rw[y]at j;cases j;refine⟨z,λp' U G=> ?_,λW E=> ?_⟩
      .rw[Q]at G;cases G;exact A
      .rw[m]at E;cases E;omega
     refine⟨λ_=> ?_,λq=>absurd h q⟩;rw[yX (show¬ag (c.2.2.1 < t.2.2.2.2.1)=ae by rw[yN];exact g),ya,yX (show¬ag (c.2.2.1 < t.2.2.2.2.1)=ae by rw[yN];exact g),yX (show¬ag (v >= 0)=ae by rw[yN];exact λq=>F.1 q A)];exact⟨rfl,rfl⟩
   .have f:¬cm ch s.2.2.1 k:=λq=>A ((q c y).2.1 p (by omega) Q);refine⟨λq=>absurd q f,λ_=> ?_⟩;rw[yZ A,yW (show(!false)=ae by decide),yW (show ag (v >= 0)=ae from yY (F.2 A))]
    refine⟨?_,rfl⟩;by_cases g:c.2.2.1 < t.2.2.2.2.1
    .rw[yW (yY g)]
    .rw[yX (show¬ag (c.2.2.1 < t.2.2.2.2.1)=ae by rw[yN];exact g)]
 .have f:¬cm ch s.2.2.1 k:=λq=>z (q c y).1;refine⟨λq=>absurd q f,λ_=> ?_⟩;rw[yZ z,yW (show(!false)=ae by decide),yW (show(!false)=ae by decide)];exact⟨rfl,rfl⟩
open Classical in
theorem NU{ch:Chan}(w:ch.2.2.2.1.length=2)(s:yG)(hl:s.2.2.1.length<=16):
 Zc (XP yD) yD (s.2.2.1,(s.2.2.1.length:Int),(0:Int),ch,s)=ab (if bA s.2.2.1.length (cm ch s.2.2.1) then .inr (ch,s) else .inl (af,ch,s))/\
 Zc (YA yD) yD ((0:Int),ch,s)=ab (if bA s.2.2.1.length (cm ch s.2.2.1) then .inr (ch,s) else .inl (af,ch,s)):=by
 constructor
 .refine mT s.2.2.1.length (λk:Nat=>(s.2.2.1,(s.2.2.1.length:Int),(k:Int),ch,s)) (cm ch s.2.2.1) _ _ (λk f h=>((zk w s f hl).1 h).1) (λk f h=>((zk w s f hl).2 h).1) ?_ (by omega);unfold XP;dsimp only;rw[yX (by rw[ZB];decide)]
 .refine mT s.2.2.1.length (λk:Nat=>((k:Int),ch,s)) (cm ch s.2.2.1) _ _ (λk f h=>((zk w s f hl).1 h).2) (λk f h=>((zk w s f hl).2 h).2) ?_ (by omega);unfold YA;dsimp only;rw[yX (by rw[ZB];decide)]
theorem zl{ch:Chan}(w:ch.2.2.2.1.length=2)(s:yG){k:Nat}(z:k < 2)(hl:s.2.2.1.length<=16):
 (cQ ch s.2.2.1 k->Ws yD (ch.2.2.2.1,(k:Int),ch,s)=ab (.inl (ch.2.2.2.1,((k+1:Nat):Int),ch,s))/\Y9 yD ((k:Int),ch,s)=ab (.inl (((k+1:Nat):Int),ch,s)))/\
 (¬cQ ch s.2.2.1 k->Ws yD (ch.2.2.2.1,(k:Int),ch,s)=ab (.inr (.inl (af,ch,s)))/\Y9 yD ((k:Int),ch,s)=ab (.inr (.inl (af,ch,s)))):=by
 obtain⟨t,g,_⟩:=Zj (l:=ch.2.2.2.1) (k:=k) (by omega);unfold Ws Y9;dsimp only;rw[yW (show ag ((k:Int) < 2)=ae from yY (by omega)),yW (show ag ((k:Int) < 2)=ae from yY (by omega)),Zp g,ya,Zsh s _ (by omega),ZyH s _ (by omega),ya,ya,yW (XY (by omega) (by omega)),yW (XY (by omega) (by omega)),yat,g,ya,ya,Zq (by omega)]
 by_cases j:(off (k:Int) s.2.2.1).1 > t.2.2.2.1
 .have f:¬cQ ch s.2.2.1 k:=λq=>by
   have:=(q t g).1;omega
  refine⟨λq=>absurd q f,λ_=> ?_⟩;rw[yW (yY j),yW (yY j)];exact⟨rfl,rfl⟩
 .rw[yX (show¬ag ((off (k:Int) s.2.2.1).1 > t.2.2.2.1)=ae by rw[yN];exact j),yX (show¬ag ((off (k:Int) s.2.2.1).1 > t.2.2.2.1)=ae by rw[yN];exact j)];by_cases m:(off (k:Int) s.2.2.1).2 > t.2.2.2.2.2
  .have f:¬cQ ch s.2.2.1 k:=λq=>by
    have:=(q t g).2;omega
   refine⟨λq=>absurd q f,λ_=> ?_⟩;rw[yW (yY m),yW (yY m)];exact⟨rfl,rfl⟩
  .have h:cQ ch s.2.2.1 k:=λA y=>by
    rw[g]at y;cases y;omega
   refine⟨λ_=> ?_,λq=>absurd h q⟩;rw[yX (show¬ag ((off (k:Int) s.2.2.1).2 > t.2.2.2.2.2)=ae by rw[yN];exact m),yX (show¬ag ((off (k:Int) s.2.2.1).2 > t.2.2.2.2.2)=ae by rw[yN];exact m)];exact⟨rfl,rfl⟩
open Classical in
theorem NW{ch:Chan}(w:ch.2.2.2.1.length=2)(s:yG)(hl:s.2.2.1.length<=16):
 Zc (Ws yD) yD (ch.2.2.2.1,(0:Int),ch,s)=ab (if bA 2 (cQ ch s.2.2.1) then .inr (ch,s) else .inl (af,ch,s))/\
 Zc (Y9 yD) yD ((0:Int),ch,s)=ab (if bA 2 (cQ ch s.2.2.1) then .inr (ch,s) else .inl (af,ch,s)):=by
 constructor
 .exact mT 2 (λk:Nat=>(ch.2.2.2.1,(k:Int),ch,s)) (cQ ch s.2.2.1) _ _ (λk f h=>((zl w s f hl).1 h).1) (λk f h=>((zl w s f hl).2 h).1) rfl (by omega)
 .exact mT 2 (λk:Nat=>((k:Int),ch,s)) (cQ ch s.2.2.1) _ _ (λk f h=>((zl w s f hl).1 h).2) (λk f h=>((zl w s f hl).2 h).2) rfl (by omega)
structure iv(ch:Chan)(s:yG):Prop where
 am:1<=ch.2.1/\ch.2.1<=1125899906842624
 at_:0<=ch.1.2/\ch.1.2<=63
 op:ch.2.2.2.2=0\/ch.2.2.2.2=1
 side:gk ch
 no:0<=s.1/\s.1<=1048576
 fY:∃a b,s.2.1=[a,b]/\(0<=a/\a<=1125899906842624)/\(0<=b/\b<=1125899906842624)/\dy (wi (a+b)) s.2.2.1=ch.2.1/\(ch.2.2.2.2=0->a >= wi (df s.2.2.2 (s.2.2.1.length:Int)+660))/\(ch.2.2.2.2=1->b >= wi (df s.2.2.2 (s.2.2.1.length:Int)+660))
 rate:0<=s.2.2.2/\s.2.2.2<=1000
 len:s.2.2.1.length<=16
 conds:∀k,k < s.2.2.1.length->cm ch s.2.2.1 k
 sides:∀k,k < 2->cQ ch s.2.2.1 k
theorem tN{ch:Chan}(w:dC ch){s:yG}(S:s.2.1.length=2):∃b:Bool,au yD ch s=ab b/\XV yD ch s=ab b/\(b=ae->iv ch s):=by
 obtain⟨e,f1,f2,f3⟩:=zj w;obtain⟨a,b,hs⟩:=kb S;unfold au XV;rw[f1,f2,ya,ya];by_cases I:e=0
 .subst I;obtain⟨M,Q,T,R⟩:=f3 rfl;rw[yX (show¬(((0:Int)!=0)=ae) by decide),yX (show¬(((0:Int)!=0)=ae) by decide),tM,NO,ya,ya,hs];by_cases A:0<=s.1/\s.1<=1048576
  .rw[yY A,yX (show¬(!true)=ae by decide),yX (show¬(!true)=ae by decide),yam,yak,yam];simp only[ya,ZBT,tM,NO];by_cases g:0<=a/\a<=1125899906842624
   .by_cases j:0<=b/\b<=1125899906842624
    .rw[yY (p:=(0<=a/\a<=1125899906842624)/\0<=b/\b<=1125899906842624) ⟨g,j⟩,yY g,yY j];rw[yX (show¬(!true)=ae by decide),yX (show¬(!true)=ae by decide),yX (show¬(!true)=ae by decide)];by_cases E:0<=s.2.2.2/\s.2.2.2<=1000
     .rw[yY E,yX (show¬(!true)=ae by decide),yX (show¬(!true)=ae by decide)];by_cases l:s.2.2.1.length<=16
      .have f:¬ag ((s.2.2.1.length:Int) > 16)=ae:=by rw[yN];omega
       rw[yX f,yX f,(NU w.t s l).1,(NU w.t s l).2,ya,ya];by_cases F:bA s.2.2.1.length (cm ch s.2.2.1)
       .rw[yW F];dsimp only;rw[(NW w.t s l).1,(NW w.t s l).2,ya,ya];by_cases G:bA 2 (cQ ch s.2.2.1)
        .rw[yW G];dsimp only;rw[ZyI s hs (by omega),ZDo s hs (by omega),ya,ya];by_cases m:dy (wi (a+b)) s.2.2.1=ch.2.1
         .rw[yW (beq_iff_eq.2 m),yW (beq_iff_eq.2 m),hs,NT,ZGk];rcases T with q|q
          .rw[q,yW (by decide)];refine⟨ag (a >= wi (df s.2.2.2 (s.2.2.1.length:Int)+660)),rfl,rfl,λh=>⟨M,Q,.inl q,R,A,⟨a,b,hs,g,j,m,λ_=>yF h,λh=> ?_⟩,E,l,F,G⟩⟩;rw[q]at h;exact absurd h (by decide)
          .rw[q,yW (by decide)];refine⟨ag (b >= wi (df s.2.2.2 (s.2.2.1.length:Int)+660)),rfl,rfl,λh=>⟨M,Q,.inr q,R,A,⟨a,b,hs,g,j,m,λh=> ?_,λ_=>yF h⟩,E,l,F,G⟩⟩;rw[q]at h;exact absurd h (by decide)
         .have y:¬(dy (wi (a+b)) s.2.2.1==ch.2.1)=ae:=by rw[yT];exact m
          rw[yX y,yX y];exact⟨af,rfl,rfl,λh=>absurd h (by decide)⟩
        .rw[yX G];exact⟨af,rfl,rfl,λh=>absurd h (by decide)⟩
       .rw[yX F];exact⟨af,rfl,rfl,λh=>absurd h (by decide)⟩
      .have f:ag ((s.2.2.1.length:Int) > 16)=ae:=yY (by omega);rw[yW f,yW f];exact⟨af,rfl,rfl,λh=>absurd h (by decide)⟩
     .rw[yZ E];exact⟨af,rfl,rfl,λh=>absurd h (by decide)⟩
    .rw[yZ (p:=(0<=a/\a<=1125899906842624)/\0<=b/\b<=1125899906842624) λq=>j q.2,yY g,yZ j];exact⟨af,rfl,rfl,λh=>absurd h (by decide)⟩
   .rw[yZ (p:=(0<=a/\a<=1125899906842624)/\0<=b/\b<=1125899906842624) λq=>g q.1,yZ g];exact⟨af,rfl,rfl,λh=>absurd h (by decide)⟩
  .rw[yZ A];exact⟨af,rfl,rfl,λh=>absurd h (by decide)⟩
 .have z:(e !=0)=ae:=bne_iff_ne.2 I;rw[yW z,yW z];exact⟨af,rfl,rfl,λh=>absurd h (by decide)⟩
theorem V3(n:Nat):(fl n).length=8:=rfl
theorem ZGl(n:yU):NB yD n=ab (fl n.toNat):=by
 unfold NB
 have e:=ZD (step:=Xs yD) 8 (λk:Nat=>(n,56 - 8*(k:Int),(fl n.toNat).take k)) (x:=fl n.toNat) (by
  intro k f;have g:(fl n.toNat)[k]? =_:=ZF3 n f;have j:((fl n.toNat).take k).length<=8:=by rw[yaa];exact ybt (Nat.min_le_right _ _) (yl _)
  unfold Xs;dsimp only;have h:min (56 - 8*(k:Int)).toNat 64=56 - 8*k:=by omega
  rw[yW (yY (by omega)),yW (yY (by omega)),yW (ZS (by omega) (by omega)),ZE (z:=56 - 8*(k:Int) - 8) (by omega) (by omega),h,show 56 - 8*(k:Int) - 8=56 - 8*((k+1:Nat):Int) by omega,List.take_add_one,g];rfl) (by
  unfold Xs;dsimp only;rw[yX (dn (by omega))];rfl) (by omega)
 have e:Zc (Xs yD) yD (n,(56:Int),([]:yL yB))=_:=e;rw[e,ya]
theorem ZDp(n:yU):VO yD n=ab (fl n.toNat):=by
 unfold VO
 have e:=ZD (step:=YL yD) 8 (λk:Nat=>(n,56 - 8*(k:Int),([]:yL yB),(fl n.toNat).take k)) (x:=(([]:yL yB),fl n.toNat)) (by
  intro k f;have g:(fl n.toNat)[k]? =_:=ZF3 n f;have j:((fl n.toNat).take k).length<=8:=by rw[yaa];exact ybt (Nat.min_le_right _ _) (yl _)
  unfold YL;dsimp only;have h:min (56 - 8*(k:Int)).toNat 64=56 - 8*k:=by omega
  rw[yW (yY (by omega)),yW (yY (by omega)),yW (ZS (by omega) (by omega)),ZE (z:=56 - 8*(k:Int) - 8) (by omega) (by omega),h,show 56 - 8*(k:Int) - 8=56 - 8*((k+1:Nat):Int) by omega,List.take_add_one,g];rfl) (by
  unfold YL;dsimp only;rw[yX (dn (by omega))];rfl) (by omega)
 have e:Zc (YL yD) yD (n,(56:Int),([]:yL yB),([]:yL yB))=_:=e;rw[e,ya]
def lM(l:yL yB):yL yB:=fl l.length++l
def kf(s:ByteArray)(ls:yL aLu):yL yB:=fl s.size++gi s++bj lM ls
theorem ZyJ(s:ByteArray):(gi s).length=s.size:=by
 unfold gi;rw[Array.length_toList];rfl
theorem zm{ls:yL aLu}(h2:ls.length<=10)(h3:∀l,l∈ls->l.length<=60000)(k:Nat):(bj lM (ls.take k)).length<=10*60008:=
 W4 (c:=60008) (λl f=>by have:=h3 l f;unfold lM;rw[ym,V3];omega) h2 k
theorem NX{s:ByteArray}{ls:yL aLu}(h1:s.size<=100)(h2:ls.length<=10)(h3:∀l,l∈ls->l.length<=60000):VI yD s ls=ab (Sha.iM (kf s ls)):=by
 unfold VI;have hs:=ZyJ s;have h:WJ yD (s.size:Int) []=ab (fl s.size):=JY (b:=[]) (by simp);rw[h,ya,yW (ZS (by rw[hs,V3];omega) (by rw[hs,V3];omega))]
 have e:=ZD (step:=QN yD) ls.length (λk:Nat=>(ls,(ls.length:Int),(k:Int),qb,fl s.size++gi s++bj lM (ls.take k))) (x:=(qb,kf s ls)) (by
  intro k j;obtain⟨e,f,m⟩:=Zj j;have:=h3 e m;have g:=zm h2 h3 k;unfold QN;dsimp only;rw[yW (yY (by omega)),Zp f,ya,JY (by simp only[ym,V3,hs];omega),ya,yW (ZS (by simp only[ym,V3,hs];omega) (by simp only[ym,V3,hs];omega)),Zq (by omega),VD f];simp only[lM,yac]) (by
  unfold QN;dsimp only;rw[yX (by rw[ZB];decide),yaj];rfl) (by omega)
 rw[show bj lM (ls.take 0)=[] from rfl,ybf]at e
 have e:Zc (QN yD) yD (ls,(ls.length:Int),(0:Int),dg,fl s.size++gi s)=_:=e;have g:=zm h2 h3 ls.length;rw[yaj]at g;rw[e,ya,ZIo (by show(kf s ls).length<=_;unfold kf;simp only[ym,V3,hs];omega),ya]
theorem ZID{s:ByteArray}{ls:yL aLu}(h1:s.size<=100)(h2:ls.length<=10)(h3:∀l,l∈ls->l.length<=60000):ND yD s ls=ab (Sha.iM (kf s ls)):=by
 unfold ND;have hs:=ZyJ s
 have w:∀n:Nat,n<=1000000->(du (n:Int)).toNat=n:=λn m=>by
  unfold du;rw[ybh];omega
 have hs':s.data.toList.length=s.size:=hs;rw[ZDp,ya,w _ (by omega),yW (yY (by unfold maxLen;omega)),yW (ZS (by rw[hs',V3];omega) (by rw[hs',V3];omega))]
 have e:=ZD (step:=YV yD) ls.length (λk:Nat=>(ls,(k:Int),qb,fl s.size++gi s++bj lM (ls.take k))) (x:=(qb,kf s ls)) (by
  intro k f;obtain⟨e,g,j⟩:=Zj f;have:=h3 e j;have h:=zm h2 h3 k;unfold YV;dsimp only;rw[yW (Zx f),Zp g,ya,ZGl,ya,w _ (by omega),yW (ZS (by simp only[ym,V3,hs];omega) (by simp only[ym,V3,hs];omega)),ya,yW (ZS (by simp only[ym,V3,hs];omega) (by simp only[ym,V3,hs];omega)),Zq (by omega),VD g];simp only[lM,yac]) (by
  unfold YV;dsimp only;rw[yX (by rw[ZB];decide),yaj];rfl) (by omega)
 rw[show bj lM (ls.take 0)=[] from rfl,ybf]at e
 have e:Zc (YV yD) yD (ls,(0:Int),qb,fl s.size++s.data.toList)=_:=e;have h:=zm h2 h3 ls.length;rw[yaj]at h;show(Option.bind (Zc (YV yD) yD (ls,(0:Int),qb,fl s.size++s.data.toList)) λa=>(NC yD a.2).bind λb=>ab b)=_;rw[e,ya,ZF4 (by show(kf s ls).length<=_;unfold kf;simp only[ym,V3,hs];omega),ya]
theorem NY{n:Nat}(h:n < 256):w8 (n:Int)=yap n:=by
 unfold w8;congr 1;omega
theorem ZKZ:∀(k n:Nat),n < 128 ^ (k+1)->n<=9223372036854775807->V2 yD (k+1) (n:Int)=ab (Yi n):=by
 intro k
 induction k with
 |zero=>
  intro n h g;have h:n < 128:=by simpa using h
  show WF yD (V2 yD 0) (n:Int)=_;unfold WF
  rw[yW (yY (by omega)),oC h,NY (by omega)]
 |succ k j=>
  intro n h g;show WF yD (V2 yD (k+1)) (n:Int)=_;unfold WF;by_cases f:n < 128
  .rw[yW (yY (by omega)),oC f,NY (by omega)]
  .have l:n / 128 < 128 ^ (k+1):=by
    rw[Nat.div_lt_iff_lt_mul (by decide)];rw[Nat.pow_succ]at h;exact h
   have m:wi (Int.tdiv (n:Int) 128)=((n / 128:Nat):Int):=by
    rw[show Int.tdiv (n:Int) 128=((n / 128:Nat):Int) from rfl,ZE (by omega) (by omega)]
   have z:=ZA (n:=n / 128) (by omega);rw[yX (dn (by omega)),m,j _ l (by omega),ya,yW (ZS (by omega) (by omega)),tH f]
   have y:w8 (Int.tmod (n:Int) 128)+128=yap (n % 128+128):=by
    rw[show Int.tmod (n:Int) 128=((n % 128:Nat):Int) from rfl,NY (by omega), <-UInt8.toNat_inj,UInt8.toNat_add,UInt8.toNat_ofNat',UInt8.toNat_ofNat']
    show(n % 128 % 256+128) % 256=_;omega
   rw[y];rfl
theorem ZIE{n:Nat}(h:n<=9223372036854775807):NE yD (n:Int)=ab (Yi n):=ZKZ 11 n (by omega) h
theorem kO{b:yL yB}{z:Int}(f:0<=z)(h:z<=9223372036854775807)(hb:b.length<=1000000):Z5 yD b z=ab (b++Yi z.toNat):=by
 obtain⟨n,rfl⟩:=Int.eq_ofNat_of_zero_le f;have g:=ZA (n:=n) (by omega);unfold Z5;rw[yW (ZS (by omega) (by omega)),yW (yY (by omega)),ZIE (by omega),ya,yW (ZS (by omega) (by omega)),yat]
theorem ZGm{b:yL yB}{z:Int}(f:0<=z)(h:z<=9223372036854775807)(hb:b.length<=1000000):ZcR yD b z=ab (b++Yi z.toNat):=kO f h hb
theorem Zsk{b:yL yB}(x:yU)(hb:b.length<=1000000):WG yD b x=ab (b++fv x.toNat):=by
 unfold WG;rw[yW (ZS (by omega) (by omega))]
 have e:=ZD (step:=YW yD) 8 (λk:Nat=>(x,7 - (k:Int),b++(fv x.toNat).take k)) (x:=b++fv x.toNat) (by
  intro k f;have h:((fv x.toNat).take k).length<=8:=by rw[yaa];omega
  unfold YW;dsimp only
  have g:(min ((du (wi (8*(7 - (k:Int))))).toNat:Int).toNat 64)=56 - 8*k:=by
   rw[ZE (z:=8*(7 - (k:Int))) (by omega) (by omega)]
   have:(du (8*(7 - (k:Int)))).toNat=56 - 8*k:=by
    unfold du;rw[ybh];omega
   omega
  rw[yW (yY (by omega)),yW (ZS (by rw[ym];omega) (by rw[ym];omega)),ZE (z:=7 - (k:Int) - 1) (by omega) (by omega),g,ZyD,show 7 - (k:Int) - 1=7 - ((k+1:Nat):Int) by omega,List.take_add_one,zb _ f,yac];rfl) (by
  unfold YW;dsimp only;rw[yX (dn (by omega)),ycc (by rw[YE];exact yl _)]) (by omega)
 have e:Zc (YW yD) yD (x,(7:Int),b++[])=_:=e;rw[ybf]at e;rw[e,ya]
theorem ZyK{b h:yL yB}(hb:b.length<=1000000)(g:h.length=32):VP yD b h=ab (b++h):=by
 unfold VP;rw[yW (ZS (by omega) (by omega))]
 have e:=ZD (step:=YM yD) 32 (λk:Nat=>((k:Int),h,b++h.take k)) (x:=(h,b++h)) (by
  intro k j;obtain⟨e,f,_⟩:=Zj (l:=h) (k:=k) (by omega);have m:(h.take k).length<=32:=by rw[yaa];omega
  unfold YM;dsimp only;rw[yW (yY (by omega)),yW (XY (by omega) (by omega)),yat,f,ya,yW (ZS (by rw[ym];omega) (by rw[ym];omega)),Zq (by omega),List.take_add_one,f,yac];rfl) (by
  unfold YM;dsimp only;rw[yX (dn (by omega)),ycc (by omega)]) (by omega)
 have e:Zc (YM yD) yD ((0:Int),h,b++[])=_:=e;rw[ybf]at e;rw[e,ya]
theorem Zwr{b c:yL yB}(hb:b.length<=1000000)(hc:c.length<=1000000):Vt yD b c=ab (b++(Yi c.length++c)):=by
 unfold Vt;have f:=ZA (n:=c.length) (by omega);rw[ZGm (by omega) (by omega) hb,ya,yat,yW (ZS (by rw[ym];omega) (by rw[ym];omega)),yac]
theorem ZDq{l:yL yU}(hl:l.length<=9223372036854775807):∃b,pM yD l=ab b/\(b=af->∀p,p∈l->eD p.toNat):=by
 unfold pM wQ
 obtain⟨x,G,y⟩:=Xz (step:=Y5 yD) l.length (λk s=>s=(l,(l.length:Int),(k:Int))/\∀j p,j < k->l[j]? =ab p->eD p.toNat) (λx=>(∃k:Nat,x=.inl (k:Int))\/x=.inr ()/\∀p,p∈l->eD p.toNat) (i:=(l,(l.length:Int),(0:Int))) ⟨rfl,λj p m=>by omega⟩ (by omega) (by
  rintro k _ E ⟨rfl,m⟩;obtain⟨e,F,_⟩:=Zj E;unfold Y5;dsimp only;rw[yW (Zx E),Zp F,ya,NG,ya,Zq (by omega)];by_cases f:eD e.toNat
  .rw[yY f];left;refine⟨_,rfl,rfl,λj p M z=> ?_⟩;by_cases I:j < k
   .exact m j p I z
   .have:j=k:=by omega
    subst this;rw[F]at z;cases z;exact f
  .rw[yZ f];right;exact⟨_,rfl,.inl ⟨k,rfl⟩⟩) (by
  rintro _ ⟨rfl,m⟩;unfold Y5;dsimp only;rw[yX (by rw[ZB];decide)];refine⟨_,rfl,.inr ⟨rfl,λp f=> ?_⟩⟩;obtain⟨j,g,A⟩:=ybk f;exact m j p g (by rw[yab g,A]))
 rw[G,ya];rcases y with⟨k,rfl⟩|⟨rfl,y⟩
 .dsimp only;rw[ya];refine⟨_,rfl,λh=> ?_⟩;exact absurd (of_decide_eq_false h) (by omega)
 .exact⟨_,rfl,λ_=>y⟩
def eB(l:ZY):Prop:=l.length<=9223372036854775807/\∀b,b∈l->b.1.length<=9223372036854775807
theorem Zpe(z:Int):∃b,Vi yD z=ab b/\(b=ae->0<=z/\z<=1048576):=by
 unfold Vi;by_cases h:z >= 0
 .rw[yW (yY h)];exact⟨_,rfl,λf=>⟨h,yF f⟩⟩
 .rw[yX (by rw[yN];exact h)];exact⟨_,rfl,λf=>by cases f⟩
theorem Qt{l:ZY}(hl:eB l):∃b,XC yD l=ab b/\(b=ae↔Wq l/\gQ l):=by
 have R:∃b,XC yD l=ab b/\(b=ae->Wq l/\gQ l):=by
  unfold XC;obtain⟨h0,y⟩:=hl
  obtain⟨x,Z,M⟩:=Xz (step:=Wg yD) l.length (λk s=>s=(l,(l.length:Int),(k:Int),l)/\∀j b,j < k->l[j]? =ab b->lI b/\lJ b)
   (λx=>x=.inl (af,l)\/(x=.inr l/\∀b,b∈l->lI b/\lJ b)) (i:=(l,(l.length:Int),(0:Int),l)) ⟨rfl,λj b Q=>by omega⟩ (by omega) (by
   rintro k _ U ⟨rfl,Q⟩;obtain⟨e,W,hm⟩:=Zj U
   have f:(lI e/\lJ e)->∀j b,j < k+1->l[j]? =ab b->lI b/\lJ b:=by
    intro hE j b z A;by_cases h4:j < k
    .exact Q j b h4 A
    .have:j=k:=by omega
     subst this;rw[W]at A;cases A;exact hE
   unfold Wg;dsimp only;rw[yW (Zx U),Zp W,ya];by_cases X:(e.1.length:Int) > 12
   .right;rw[yW (yY X)];exact⟨_,rfl,.inl rfl⟩
   rw[yX (by rw[yN];exact X)];obtain⟨b,g,S⟩:=ZDq (y e hm);rw[g,ya]
   cases b with
   |true=>right;exact⟨_,rfl,.inl rfl⟩
   |false=>
    obtain⟨c,hc,E⟩:=Zpe e.2.1;obtain⟨d,hd,F⟩:=Zpe e.2.2.1;rw[yX (by decide),hc,ya,hd,ya]
    cases c with
    |false=>right;exact⟨_,rfl,.inl rfl⟩
    |true=>
     cases d with
     |false=>right;exact⟨_,rfl,.inl rfl⟩
     |true=>
      have Y:=λG:e.2.2.2≠0->eD e.2.2.2.toNat=>f ⟨⟨by omega,(E rfl).1,(E rfl).2,(F rfl).1,(F rfl).2⟩,S rfl,G⟩;rw[yX (by decide),yX (by decide),Zq (by omega)];by_cases G:e.2.2.2=0
      .rw[yX (by rw[G];decide)];left;exact⟨_,rfl,rfl,Y λh=>absurd G h⟩
      .rw[yW (by simp[G]),NG,ya];by_cases m:eD e.2.2.2.toNat
       .rw[yY m];left;exact⟨_,rfl,rfl,Y λ_=>m⟩
       .rw[yZ m];right;exact⟨_,rfl,.inl rfl⟩) (by
   rintro _ ⟨rfl,Q⟩;unfold Wg;dsimp only;rw[yX (by rw[ZB];decide)];refine⟨_,rfl,.inr ⟨rfl,λb g=> ?_⟩⟩;obtain⟨j,I,T⟩:=ybk g;exact Q j b I (by rw[yab I,T]))
  rw[Z,ya];rcases M with rfl|⟨rfl,M⟩
  .exact⟨_,rfl,λh=>by cases h⟩
  .dsimp only;by_cases z:(l.length:Int) > 0
   .rw[yW (yY z)];refine⟨_,rfl,λA=>⟨⟨by omega, ?_,λb g=>(M b g).1⟩,λb g=>(M b g).2⟩⟩;have:=yF A;omega
   .rw[yX (by rw[yN];exact z)];exact⟨_,rfl,λh=>by cases h⟩
 obtain⟨b,y,z⟩:=R;refine⟨b,y,z,λh=> ?_⟩;rw[NH h.1 h.2]at y;exact(Option.some.inj y).symm
theorem ZyL{e:Z3}(X:e.1.length<=9223372036854775807):∃b,Qr yD e=ab b/\(b=ae↔lI e/\lJ e):=by
 unfold Qr;by_cases z:(e.1.length:Int) > 12
 .rw[yW (yY z)];exact⟨_,rfl,λh=>(by cases h),λh=>by have:=h.1.1;omega⟩
 rw[yX (by rw[yN];exact z)];by_cases A:e.2.1 < 0
 .rw[yW (yY A)];exact⟨_,rfl,λh=>(by cases h),λh=>by have:=h.1.2.1;omega⟩
 rw[yX (by rw[yN];exact A)];by_cases E:e.2.1 > 1048576
 .rw[yW (yY E)];exact⟨_,rfl,λh=>(by cases h),λh=>by have:=h.1.2.2.1;omega⟩
 rw[yX (by rw[yN];exact E)];by_cases F:e.2.2.1 < 0
 .rw[yW (yY F)];exact⟨_,rfl,λh=>(by cases h),λh=>by have:=h.1.2.2.2.1;omega⟩
 rw[yX (by rw[yN];exact F)];by_cases G:e.2.2.1 > 1048576
 .rw[yW (yY G)];exact⟨_,rfl,λh=>(by cases h),λh=>by have:=h.1.2.2.2.2;omega⟩
 rw[yX (by rw[yN];exact G)];have I:lI e:=⟨by omega,by omega,by omega,by omega,by omega⟩
 obtain⟨x,S,f⟩:=Xz (step:=XN yD) e.1.length (λk s=>s=((k:Int),e)/\∀j p,j < k->e.1[j]? =ab p->eD p.toNat) (λx=>(x=.inl (af,e)/\¬lJ e)\/(x=.inr e/\∀p,p∈e.1->eD p.toNat)) (i:=((0:Int),e)) ⟨rfl,λj p l=>by omega⟩ (by omega) (by
  rintro k _ M ⟨rfl,l⟩;obtain⟨d,Q,T⟩:=Zj M;unfold XN;dsimp only;rw[yW (Zx M),Zp Q,ya,za,ya];by_cases g:eD d.toNat
  .left;rw[yY g,yX (by decide),Zq (by omega)];refine⟨_,rfl,rfl,λj p Y y=> ?_⟩;by_cases U:j < k
   .exact l j p U y
   .have:j=k:=by omega
    subst this;rw[Q]at y;cases y;exact g
  .right;rw[yZ g,yW (by decide)];exact⟨_,rfl,.inl ⟨rfl,λh=>g (h.1 d T)⟩⟩) (by
  rintro _ ⟨rfl,l⟩;unfold XN;dsimp only;rw[yX (by rw[ZB];decide)];refine⟨_,rfl,.inr ⟨rfl,λp g=> ?_⟩⟩;obtain⟨j,R,W⟩:=ybk g;exact l j p R (by rw[yab R,W]))
 rw[S,ya];rcases f with⟨rfl,f⟩|⟨rfl,f⟩
 .exact⟨_,rfl,λh=>(by cases h),λh=>absurd h.2 f⟩
 .dsimp only;rw[za,ya];by_cases m:e.2.2.2=0
  .rw[yW (beq_iff_eq.2 m)];exact⟨_,rfl,λ_=>⟨I,f,λh=>absurd m h⟩,λ_=>rfl⟩
  .rw[yX (by rw[yT];exact m)];refine⟨_,rfl,λh=>⟨I,f,λ_=>yF h⟩,λh=>yY (h.2.2 m)⟩
theorem tO{l:ZY}(hl:eB l):∃b,Xj yD l=ab b/\(b=ae↔Wq l/\gQ l):=by
 obtain⟨W,w1⟩:=hl;unfold Xj;by_cases A:(l.length:Int) < 1
 .rw[yW (yY A)];exact⟨_,rfl,λh=>(by cases h),λh=>by have:=h.1.1;omega⟩
 rw[yX (by rw[yN];exact A)];by_cases E:(l.length:Int) > 4
 .rw[yW (yY E)];exact⟨_,rfl,λh=>(by cases h),λh=>by have:=h.1.2.1;omega⟩
 rw[yX (by rw[yN];exact E)]
 obtain⟨x,Q,f⟩:=Xz (step:=X2 yD) l.length (λk s=>s=((k:Int),l)/\∀j b,j < k->l[j]? =ab b->lI b/\lJ b) (λx=>(x=.inl (af,l)/\¬(Wq l/\gQ l))\/(x=.inr l/\∀b,b∈l->lI b/\lJ b)) (i:=((0:Int),l)) ⟨rfl,λj p g=>by omega⟩ (by omega) (by
  rintro k _ F ⟨rfl,g⟩;obtain⟨d,G,m⟩:=Zj F;obtain⟨b,R,I⟩:=ZyL (w1 d m);unfold X2;dsimp only;rw[yW (Zx F),Zp G,ya,R,ya]
  cases b with
  |true=>
   left;rw[yX (by decide),Zq (by omega)];refine⟨_,rfl,rfl,λj p X y=> ?_⟩;by_cases S:j < k
   .exact g j p S y
   .have:j=k:=by omega
    subst this;rw[G]at y;cases y
    exact I.1 rfl
  |false=>
   right;rw[yW (by decide)];exact⟨_,rfl,.inl ⟨rfl,λh=>by have:=I.2 ⟨h.1.2.2 d m,h.2 d m⟩;cases this⟩⟩) (by
  rintro _ ⟨rfl,g⟩;unfold X2;dsimp only;rw[yX (by rw[ZB];decide)];refine⟨_,rfl,.inr ⟨rfl,λp T=> ?_⟩⟩;obtain⟨j,M,U⟩:=ybk T;exact g j p M (by rw[yab M,U]))
 rw[Q,ya];rcases f with⟨rfl,f⟩|⟨rfl,f⟩
 .exact⟨_,rfl,λh=>(by cases h),λh=>absurd h f⟩
 .exact⟨_,rfl,λ_=>⟨⟨by omega,by omega,λb z=>(f b z).1⟩,λb z=>(f b z).2⟩,λ_=>rfl⟩
theorem ZGn{l:ZY}(h:Wq l)(hp:gQ l):Xj yD l=ab ae:=by
 obtain⟨b,f,g⟩:=tO (l:=l) ⟨by have:=h.2.1;omega,λb j=>by have:=(h.2.2 b j).1;omega⟩;rw[f,g.2 ⟨h,hp⟩]
theorem ZAA{c:yL yB}(hc:c.length<=100000){i:Int}{l:ZY}{e:Z3}(h:e.1.length<=12):
 Zc (Xd yD) yD (c,i,(0:Int),l,e)=ab (c++bj hU e.1,i,l,e):=by
 have q:=ZD (step:=Xd yD) e.1.length (λk:Nat=>(c++bj hU (e.1.take k),i,(k:Int),l,e)) (x:=(c++bj hU e.1,i,l,e)) (by
  intro k f;obtain⟨d,g,_⟩:=Zj f;have j:=tK h k;unfold Xd;dsimp only;rw[yW (Zx f),Zp g,ya,Zsk _ (by rw[ym];omega),ya,Zq (by omega),VD g,yac];rfl) (by
  unfold Xd;dsimp only;rw[yX (by rw[ZB];decide),yaj]) (by omega)
 rw[show bj hU (e.1.take 0)=[] from rfl,ybf]at q
 exact q
theorem ZyM{l:ZY}(h:Wq l)(hp:gQ l):Q8 yD l=ab (gp l):=by
 unfold Q8;have I:=h.2.1;have M:=ZA (n:=l.length) (by omega);rw[ZGn h hp,ya,yX (by decide),kO (by omega) (by omega) (by simp),ya,yz,yat]
 have q:=ZD (step:=Xe yD) l.length (λk:Nat=>(Yi l.length++bj fN (l.take k),(k:Int),l)) (x:=(gp l,l)) (by
  intro k j;obtain⟨e,m,z⟩:=Zj j;obtain⟨y,A,Q,e4,R⟩:=h.2.2 e z;have S:=W4 (f:=fN) (c:=131) (λx E=>zc (h.2.2 x E)) h.2.1 k;have T:=ZA (n:=e.1.length) (by omega);have F:=ZA (n:=e.2.1.toNat) (by omega);have G:=ZA (n:=e.2.2.1.toNat) (by omega);have g:=tK y e.1.length;rw[yaj]at g;unfold Xe;dsimp only
  rw[yW (Zx j),Zp m,ya,kO (by omega) (by omega) (by rw[ym];omega),ya,yat,
   ZAA (by simp only[ym];omega) y,ya]
  dsimp only
  rw[kO A (by omega) (by simp only[ym];omega),ya,kO e4 (by omega) (by simp only[ym];omega),ya,
   Zsk _ (by simp only[ym];omega),ya,Zq (by omega),VD m]
  unfold fN;simp only[yac]) (by
  unfold Xe;dsimp only;rw[yX (by rw[ZB];decide),yaj];rfl) (by omega)
 rw[show bj fN (l.take 0)=[] from rfl,ybf]at q
 have q:Zc (Xe yD) yD (Yi l.length,(0:Int),l)=_:=q;rw[q,ya]
open Classical in
theorem tP{I X:Type}{step:I->yO (I⊕X)}(n:Nat)(st:Nat->I)(ok:Nat->Prop)(f:X)(l:Nat->X)
 (h1:∀k,k < n->(∀j,j < k->ok j)->ok k->step (st k)=ab (.inl (st (k+1)))) (h2:∀k,k < n->(∀j,j < k->ok j)->¬ok k->step (st k)=ab (.inr (l k))) (he:(∀j,j < n->ok j)->step (st n)=ab (.inr f)) (hn:n < 18446744073709551616):
 ∃x,Zc step yD (st 0)=ab x/\(bA n ok/\x=f\/¬bA n ok/\∃k,x=l k):=by
 refine Xz (step:=step) n (λk s=>s=st k/\∀j,j < k->ok j) _ (i:=st 0) ⟨rfl,λj h=>by omega⟩ hn ?_ ?_
 .rintro k _ m ⟨rfl,g⟩;by_cases h:ok k
  .left;refine⟨_,h1 k m g h,rfl,λj y=> ?_⟩;by_cases e:j=k
   .rw[e];exact h
   .exact g j (by omega)
  .right;exact⟨_,h2 k m g h,.inr ⟨λq=>h (q k m),k,rfl⟩⟩
 .rintro _ ⟨rfl,g⟩;exact⟨_,he g,.inl ⟨g,rfl⟩⟩
theorem Zuq{K V:Type}[DecidableEq K](k:K)(v:V)(f:K):∀m:yL (K×V),ii (jg m k v) f=if f=k then ab v else ii m f
 |[]=>rfl
 |q::m=>by
  have l:=Zuq k v f m;unfold jg;by_cases h:k=q.1
  .rw[yW h];unfold ii;by_cases g:f=k
   .rw[yW g,yW g]
   .rw[yX g,yX g,yX (by rw[<-h];exact g)]
  .rw[yX h];unfold ii;by_cases j:f=q.1
   .rw[yW j,yW j,yX (by rw[j];exact λq=>h q.symm)]
   .rw[yX j,yX j,l]
def kg(l:yL In):yL (ZL×Bool):=l.foldl (λm x=>jg m x.1 ae) []
theorem ZBV{l:yL In}{k:Nat}{x:In}(h:l[k]? =ab x):kg (l.take (k+1))=jg (kg (l.take k)) x.1 ae:=by
 rw[Wm h,kg,List.foldl_append];rfl
theorem NZ(l:yL In)(p:ZL):∀k,k<=l.length->(ii (kg (l.take k)) p=ab ae/\(∃j y,j < k/\l[j]? =ab y/\y.1=p))\/(ii (kg (l.take k)) p=ad/\∀j y,j < k->l[j]? =ab y->y.1≠p)
 |0,_=>.inr ⟨rfl,λj y h=>by omega⟩
 |k+1,E=>by
  obtain⟨x,g,_⟩:=Zj (l:=l) (k:=k) (by omega);rw[ZBV g,Zuq];by_cases h:p=x.1
  .rw[yW h];exact .inl ⟨rfl,k,x,by omega,g,h.symm⟩
  .rw[yX h];rcases NZ l p k (by omega) with⟨m,j,y,z,A,f⟩|⟨m,z⟩
   .exact .inl ⟨m,j,y,by omega,A,f⟩
   .refine .inr ⟨m,λj y A f=> ?_⟩;by_cases e:j=k
    .subst e;rw[g]at f;cases f;exact λq=>h q.symm
    .exact z j y (by omega) f
def lN(w:mM):Prop:=0<=w.1/\w.1 < 4/\w.2.1.length<=12
instance(w:mM):Decidable (lN w):=by unfold lN;infer_instance
theorem ZGo(w:mM):sP yD w=ab (ag (lN w)):=by
 unfold sP;refine(X3 (q:=w.1 < 4/\(w.2.1.length:Int)<=12) (lK _ _ rfl)).trans (congrArg ab (decide_eq_decide.2 ?_));unfold lN;omega
theorem ZBW(w:mM):Vs yD w=ab (ag (lN w)):=by
 unfold Vs;refine(X3 (q:=w.1<=3/\(w.2.1.length:Int)<=12) (lK _ _ rfl)).trans (congrArg ab (decide_eq_decide.2 ?_));unfold lN;omega
def qc(l:yL In)(k:Nat):Prop:=∀x,l[k]? =ab x->(0<=x.1.2/\x.1.2 < 64)/\lN x.2/\∀j y,j < k->l[j]? =ab y->y.1≠x.1
theorem ZDs(t:Tx)(hl:t.1.length<=100):∃x,Zc (QJ yD) yD (t.1,(t.1.length:Int),(0:Int),t,([]:yL (ZL×Bool)))=ab x/\(bA t.1.length (qc t.1)/\x=.inr (t,kg t.1)\/¬bA t.1.length (qc t.1)/\∃k:Nat,x=.inl (af,t,kg (t.1.take k))):=by
 refine tP t.1.length (λk:Nat=>(t.1,(t.1.length:Int),(k:Int),t,kg (t.1.take k))) (qc t.1) (Sum.inr (t,kg t.1)) (λk=>Sum.inl (af,t,kg (t.1.take k))) ?_ ?_ ?_ (by omega)
 .intro k g _ m;obtain⟨x,f,_⟩:=Zj g;obtain⟨S,I,M⟩:=m x f;unfold QJ;dsimp only;rw[yW (Zx g),Zp f,ya];rcases NZ t.1 x.1 k (by omega) with⟨_,j,y,z,Q,R⟩|⟨h,_⟩
  .exact absurd R (M j y z Q)
  .rw[h];unfold pm;dsimp only;rw[yX (show¬ag (x.1.2 < 0)=ae by rw[yN];omega),yX (show¬ag (x.1.2 >= 64)=ae by rw[yN];omega),ZGo,ya,yY I,yX (by decide),Zq (by omega),ZBV f]
 .intro k g _ A;obtain⟨x,f,_⟩:=Zj g;unfold QJ;dsimp only;rw[yW (Zx g),Zp f,ya];rcases NZ t.1 x.1 k (by omega) with⟨h,_⟩|⟨h,z⟩
  .rw[h];unfold pm;dsimp only;rw[yW rfl]
  .rw[h];unfold pm;dsimp only;by_cases E:x.1.2 < 0
   .rw[yW (yY E)]
   .rw[yX (show¬ag (x.1.2 < 0)=ae by rw[yN];exact E)];by_cases F:x.1.2 >= 64
    .rw[yW (yY F)]
    .rw[yX (show¬ag (x.1.2 >= 64)=ae by rw[yN];exact F),ZGo,ya];by_cases G:lN x.2
     .refine absurd ?_ A;intro T l;rw[f]at l;cases l;exact⟨⟨by omega,by omega⟩,G,z⟩
     .rw[yZ G,yW (by decide)]
 .intro _;unfold QJ;dsimp only;rw[yX (by rw[ZB];decide),yaj]
theorem Zur(t:Tx){k:Nat}(Q:k<=100)(G:k<=t.1.length)(x:In):∃r,Zc (YC yD) yD ((k:Int),(0:Int),t,x)=ab r/\((∀j y,j < k->t.1[j]? =ab y->y.1≠x.1)/\r=.inr ((k:Int),t,x)\/(¬∀j y,j < k->t.1[j]? =ab y->y.1≠x.1)/\r=.inl (af,t,x)):=by
 obtain⟨r,I,M⟩:=tP (step:=YC yD) k (λj:Nat=>((k:Int),(j:Int),t,x)) (λj=>∀y,t.1[j]? =ab y->y.1≠x.1) (.inr ((k:Int),t,x)) (λ_=>.inl (af,t,x)) (by
  intro j g _ z;obtain⟨y,f,_⟩:=Zj (l:=t.1) (k:=j) (by omega);unfold YC;dsimp only;rw[yW (Zx g),Zp f,ya,yX (by rw[yN];exact z y f),Zq (by omega)]) (by
  intro j g _ A;obtain⟨y,f,_⟩:=Zj (l:=t.1) (k:=j) (by omega)
  have h:y.1=x.1:=by
   by_cases h:y.1=x.1
   .exact h
   .refine absurd ?_ A;intro R m;rw[f]at m;cases m;exact h
  unfold YC;dsimp only;rw[yW (Zx g),Zp f,ya,yW (yY h)]) (by
  intro _;unfold YC;dsimp only;rw[yX (by rw[ZB];decide)]) (by omega)
 refine⟨r,I, ?_⟩;rcases M with⟨E,F⟩|⟨E,_,F⟩
 .exact .inl ⟨λj y g f=>E j g y f,F⟩
 .exact .inr ⟨λq=>E λj g y f=>q j y g f,F⟩
theorem ZDt(t:Tx)(hl:t.1.length<=100):∃x,Zc (Xb yD) yD ((0:Int),t)=ab x/\(bA t.1.length (qc t.1)/\x=.inr t\/¬bA t.1.length (qc t.1)/\∃k:Nat,x=.inl (af,t)):=by
 refine tP t.1.length (λk:Nat=>((k:Int),t)) (qc t.1) (Sum.inr t) (λ_=>Sum.inl (af,t)) ?_ ?_ ?_ (by omega)
 .intro k f _ l;obtain⟨x,g,_⟩:=Zj f;obtain⟨I,F,G⟩:=l x g;unfold Xb;dsimp only;rw[yW (Zx f),Zp g,ya,yX (show¬ag (x.1.2 < 0)=ae by rw[yN];omega),yX (show¬ag (x.1.2 > 63)=ae by rw[yN];omega),ZBW,ya,yY F,yX (by decide)];obtain⟨r,m,⟨_,rfl⟩|⟨h,_⟩⟩:=Zur t (k:=k) (by omega) (by omega) x
  .rw[m,ya];dsimp only;rw[Zq (by omega)]
  .exact absurd G h
 .intro k f _ y;obtain⟨x,g,_⟩:=Zj f;unfold Xb;dsimp only;rw[yW (Zx f),Zp g,ya];by_cases A:x.1.2 < 0
  .rw[yW (yY A)]
  .rw[yX (show¬ag (x.1.2 < 0)=ae by rw[yN];exact A)];by_cases E:x.1.2 > 63
   .rw[yW (yY E)]
   .rw[yX (show¬ag (x.1.2 > 63)=ae by rw[yN];exact E),ZBW,ya];by_cases z:lN x.2
    .rw[yY z,yX (by decide)];obtain⟨r,m,⟨h,rfl⟩|⟨h,rfl⟩⟩:=Zur t (k:=k) (by omega) (by omega) x
     .refine absurd ?_ y;intro M j;rw[g]at j;cases j;exact⟨⟨by omega,by omega⟩,z,h⟩
     .rw[m,ya]
    .rw[yZ z,yW (by decide)]
 .intro _;unfold Xb;dsimp only;rw[yX (by rw[ZB];decide)]
theorem ZyN(z:Int):om yD z=ab (ag (0<=z/\z<=1125899906842624)):=lK (z >= 0) (z<=1125899906842624) rfl
theorem ZyO{a b:Int}(g:0<=a)(h1:a<=1125899906842624):Qa yD a b=ab (if(0<=b/\b<=1125899906842624)/\a+b<=1125899906842624 then(a+b,ae) else(0,af)):=by
 unfold Qa;rw[ZyN,ya,yY (p:=0<=a/\a<=1125899906842624) ⟨g,h1⟩,yX (show¬(!true)=ae by decide),ZyN,ya];by_cases f:0<=b/\b<=1125899906842624
 .rw[yY f,yX (show¬(!true)=ae by decide),ZE (z:=1125899906842624 - b) (by omega) (by omega),ZE (z:=a+b) (by omega) (by omega)];by_cases h:a+b<=1125899906842624
  .rw[yX (show¬ag (a > 1125899906842624 - b)=ae by rw[yN];omega),yW ⟨f,h⟩]
  .rw[yW (show ag (a > 1125899906842624 - b)=ae from yY (by omega)),yX λq=>h q.2]
 .rw[yZ f,yW (show(!false)=ae by decide),yX λq=>f q.1]
structure oD(t:Tx):Prop where
 ins:t.1.length<=70
 outs:t.2.1.length<=70
 iw:∀o,o∈t.2.1->eB o.2
def ZGp(o:Out):Prop:=(0<=o.1/\o.1<=1125899906842624)/\Wq o.2/\gQ o.2
def tQ(l:yL Out)(k:Nat):Prop:=∀o,l[k]? =ab o->ZGp o/\fp (l.take (k+1))<=1125899906842624
def tS(l:yL Out)(k:Nat):Prop:=∀o,l[k]? =ab o->ZGp o
theorem OA{l:yL Out}:∀k,k<=l.length->(∀j,j < k->tS l j)->0<=fp (l.take k)/\fp (l.take k)<=k*1125899906842624
 |0,_,_=>by simp[fp]
 |k+1,g,h=>by
  obtain⟨o,f,_⟩:=Zj (l:=l) (k:=k) (by omega);have m:=OA k (by omega) λj y=>h j (by omega);have z:=(h k (by omega) o f).1;rw[tL f];omega
theorem ZAB{t:Tx}(hl:oD t)(m:yL (ZL×Bool)):∃x,Zc (QK yD) yD ((0:Int),t.2.1,(t.2.1.length:Int),(0:Int),t,m)=ab x/\(bA t.2.1.length (tQ t.2.1)/\x=.inr (t,m)\/¬bA t.2.1.length (tQ t.2.1)/\∃k:Nat,x=.inl (af,t,m)):=by
 have T:=hl.outs
 have M:∀k,k<=t.2.1.length->(∀j,j < k->tQ t.2.1 j)->0<=fp (t.2.1.take k)/\fp (t.2.1.take k)<=1125899906842624:=by
  intro k g h;refine⟨(OA k g λj y o f=>(h j y o f).1).1, ?_⟩
  cases k with
  |zero=>simp[fp]
  |succ k=>
   obtain⟨o,f,_⟩:=Zj (l:=t.2.1) (k:=k) (by omega);exact(h k (by omega) o f).2
 refine tP t.2.1.length (λk:Nat=>(fp (t.2.1.take k),t.2.1,(t.2.1.length:Int),(k:Int),t,m)) (tQ t.2.1) (Sum.inr (t,m)) (λ_=>Sum.inl (af,t,m)) ?_ ?_ ?_ (by omega)
 .intro k g y A;obtain⟨o,f,E⟩:=Zj g;obtain⟨⟨R,S⟩,Q⟩:=A o f;rw[tL f]at Q;obtain⟨s0,s1⟩:=M k (by omega) y;obtain⟨b,F,G⟩:=Qt (hl.iw o E);unfold QK;dsimp only;rw[yW (Zx g),Zp f,ya,ZyO s0 s1,yW ⟨R,Q⟩,ya,yX (by simp),F,ya,G.2 S,yX (by decide),Zq (by omega),tL f]
 .intro k g y I;obtain⟨o,f,E⟩:=Zj g;obtain⟨s0,s1⟩:=M k (by omega) y;obtain⟨b,F,G⟩:=Qt (hl.iw o E);unfold QK;dsimp only;rw[yW (Zx g),Zp f,ya,ZyO s0 s1,ya];by_cases c:(0<=o.1/\o.1<=1125899906842624)/\fp (t.2.1.take k)+o.1<=1125899906842624
  .rw[yW c,yX (by simp),F,ya]
   cases b with
   |true=>
    refine absurd ?_ I;intro U z;rw[f]at z;cases z;rw[tL f]
    exact⟨⟨c.1,G.1 rfl⟩,c.2⟩
   |false=>rw[yW (by decide)]
  .rw[yX c,yW (by simp)]
 .intro _;unfold QK;dsimp only;rw[yX (by rw[ZB];decide)]
theorem ZAC{t:Tx}(hl:oD t):∃x,Zc (Xc yD) yD ((0:Int),(0:Int),t)=ab x/\(bA t.2.1.length (tS t.2.1)/\x=.inr (fp t.2.1,t)\/¬bA t.2.1.length (tS t.2.1)/\∃k:Nat,x=.inl (af,t)):=by
 have Q:=hl.outs;refine tP t.2.1.length (λk:Nat=>(fp (t.2.1.take k),(k:Int),t)) (tS t.2.1) (Sum.inr (fp t.2.1,t)) (λ_=>Sum.inl (af,t)) ?_ ?_ ?_ (by omega)
 .intro k g E j;obtain⟨o,f,l⟩:=Zj g;obtain⟨R,M⟩:=j o f;obtain⟨s0,s1⟩:=OA k (by omega) E;obtain⟨b,m,y⟩:=tO (hl.iw o l);have F:(k:Int)<=70:=by omega
  unfold Xc;dsimp only;rw[yW (Zx g),Zp f,ya,yX (show¬ag (o.1 < 0)=ae by rw[yN];omega),yX (show¬ag (o.1 > 1125899906842624)=ae by rw[yN];omega),m,ya,y.2 M,yX (by decide),Zq (by omega),tL f,ZE (z:=fp (t.2.1.take k)+o.1) (by omega) (by omega)]
 .intro k g E A;obtain⟨o,f,l⟩:=Zj g;obtain⟨b,m,y⟩:=tO (hl.iw o l);unfold Xc;dsimp only;rw[yW (Zx g),Zp f,ya];by_cases G:o.1 < 0
  .rw[yW (yY G)]
  .rw[yX (show¬ag (o.1 < 0)=ae by rw[yN];exact G)];by_cases I:o.1 > 1125899906842624
   .rw[yW (yY I)]
   .rw[yX (show¬ag (o.1 > 1125899906842624)=ae by rw[yN];exact I),m,ya]
    cases b with
    |true=>
     refine absurd ?_ A;intro S h;rw[f]at h;cases h
     exact⟨⟨by omega,by omega⟩,y.1 rfl⟩
    |false=>rw[yW (by decide)]
 .intro _;unfold Xc;dsimp only;rw[yX (by rw[ZB];decide),yaj]
theorem ZyQ{l:yL Out}(hl:l.length<=70):bA l.length (tQ l)↔bA l.length (tS l)/\fp l<=1125899906842624:=by
 constructor
 .intro h;refine⟨λk g o f=>(h k g o f).1, ?_⟩
  cases A:l.length with
  |zero=>
   rw[List.eq_nil_of_length_eq_zero A]
   simp[fp]
  |succ k=>
   obtain⟨o,f,_⟩:=Zj (l:=l) (k:=k) (by omega);have:=(h k (by omega) o f).2
   rwa [show k+1=l.length by omega,yaj]at this
 .rintro⟨y,I⟩ k g o f;refine⟨y k g o f, ?_⟩
  have E:∀e,e∈l->0<=e.1:=by
   intro e m;obtain⟨j,z,F⟩:=ybk m;exact(y j z e (by rw[yab z,F])).1.1
  have hs:fp l=fp (l.take (k+1))+fp (l.drop (k+1)):=by
   have q:=congrArg fp (ybc (k+1) l);rw[<-q];unfold fp;rw[yau,List.sum_append]
  have M:0<=fp (l.drop (k+1)):=ZGe (by
   intro x G;obtain⟨e,m,rfl⟩:=List.mem_map.1 G;exact E e (List.mem_of_mem_drop m))
  omega
theorem OB{t:Tx}(hl:oD t):∃b:Bool,QL yD t=ab b/\WR yD t=ab b/\(b=ae->pZ t):=by
 unfold QL WR;by_cases R:(t.1.length:Int) < 1
 .rw[yW (yY R),yW (yY R)];exact⟨af,rfl,rfl,λh=>by cases h⟩
 have m:¬ag ((t.1.length:Int) < 1)=ae:=by rw[yN];exact R
 rw[yX m,yX m];by_cases S:(t.1.length:Int) > 64
 .rw[yW (yY S),yW (yY S)];exact⟨af,rfl,rfl,λh=>by cases h⟩
 have z:¬ag ((t.1.length:Int) > 64)=ae:=by rw[yN];exact S
 rw[yX z,yX z];by_cases T:(t.2.1.length:Int) > 64
 .rw[yW (yY T),yW (yY T)];exact⟨af,rfl,rfl,λh=>by cases h⟩
 have A:¬ag ((t.2.1.length:Int) > 64)=ae:=by rw[yN];exact T
 rw[yX A,yX A];by_cases U:t.2.2 < 0
 .rw[yW (yY U),yW (yY U)];exact⟨af,rfl,rfl,λh=>by cases h⟩
 have E:¬ag (t.2.2 < 0)=ae:=by rw[yN];exact U
 rw[yX E,yX E];have h70:=hl.ins;obtain⟨x,W,X⟩:=ZDs t (by omega);obtain⟨y,y1,F⟩:=ZDt t (by omega);rw[W,y1,ya,ya];rcases X with⟨Q,rfl⟩|⟨Q,k,rfl⟩
 .rcases F with⟨_,rfl⟩|⟨f,_⟩
  .dsimp only;obtain⟨x,W,X⟩:=ZAB hl (kg t.1);obtain⟨y,y1,F⟩:=ZAC hl;rw[W,y1,ya,ya];rcases X with⟨Y,rfl⟩|⟨Y,k,rfl⟩
   .obtain⟨G,Z⟩:=(ZyQ hl.outs).1 Y;rcases F with⟨_,rfl⟩|⟨g,_⟩
    .dsimp only;rw[yY Z];refine⟨ae,rfl,rfl,λ_=>⟨by omega,by omega,by omega,by omega,λx hx=> ?_,λo ho=> ?_⟩⟩
     .obtain⟨j,I,j2⟩:=ybk hx;obtain⟨M,l,_⟩:=Q j I x (by rw[yab I,j2]);exact⟨M.1,M.2,l.1,l.2.1,l.2.2⟩
     .obtain⟨j,I,j2⟩:=ybk ho;obtain⟨M,l⟩:=G j I o (by rw[yab I,j2]);exact⟨M.1,M.2,l.1,l.2⟩
    .exact absurd G g
   .rcases F with⟨g,rfl⟩|⟨_,_,rfl⟩
    .dsimp only;rw[yZ (p:=fp t.2.1<=1125899906842624) λq=>Y ((ZyQ hl.outs).2 ⟨g,q⟩)];exact⟨af,rfl,rfl,λh=>by cases h⟩
    .exact⟨af,rfl,rfl,λh=>by cases h⟩
  .exact absurd Q f
 .rcases F with⟨f,_⟩|⟨_,_,rfl⟩
  .exact absurd f Q
  .exact⟨af,rfl,rfl,λh=>by cases h⟩
theorem ZDu{t:Tx}(Q:mR t)(h:pZ t):Q9 yD t=ab (iO t):=by
 obtain⟨f,outs,g⟩:=t;obtain⟨w1,F⟩:=Q;obtain⟨t1,t2,t3,t4,t5,t6⟩:=h;dsimp only at w1 F t1 t2 t3 t4 t5 t6;have U:=ZA (n:=f.length) (by omega);have W:=ZA (n:=outs.length) (by omega);have G:∀k,(bj eS (f.take k)).length<=64*41:=W4 (λx m=>ze (w1 x m) (t5 x m)) t2;have co:∀k,(bj fH (outs.take k)).length<=64*551:=W4 (λx m=>zf (t6 x m)) t3;have z:=G f.length;rw[yaj]at z;have A:=co outs.length;rw[yaj]at A;unfold Q9;dsimp only;rw[kO (by omega) (by omega) (by simp),ya,yz,yat]
 have q:=ZD (step:=Xf yD) f.length (λk:Nat=>(Yi f.length++bj eS (f.take k),(k:Int),(f,outs,g))) (x:=(Yi f.length++bj eS f,(f,outs,g))) (by
  intro k j;obtain⟨e,l,y⟩:=Zj j;have R:=G k;have E:=w1 e y;have I:=t5 e y;unfold Xf;dsimp only;rw[yW (Zx j),Zp l,ya,ZyK (by rw[ym];omega) E,ya,ya,kO I.1 (by have:=I.2.1;omega) (by simp only[ym];omega),ya,Zq (by omega),VD l];unfold eS;simp only[yac]) (by
  unfold Xf;dsimp only;rw[yX (by rw[ZB];decide),yaj]) (by omega)
 rw[show bj eS (f.take 0)=[] from rfl,ybf]at q
 have q:Zc (Xf yD) yD (Yi f.length,(0:Int),(f,outs,g))=_:=q;rw[q,ya];dsimp only;rw[kO (by omega) (by omega) (by rw[ym];omega),ya,yat]
 have p:=ZD (step:=Xg yD) outs.length (λk:Nat=>(Yi f.length++bj eS f++Yi outs.length++bj fH (outs.take k),(k:Int),(f,outs,g))) (x:=(Yi f.length++bj eS f++Yi outs.length++bj fH outs,(f,outs,g))) (by
  intro k j;obtain⟨e,l,y⟩:=Zj j;have R:=co k;obtain⟨S,X,M,T⟩:=t6 e y;have Y:=qa M;have Z:=ZA (n:=e.1.toNat) (by omega);unfold Xg;dsimp only;rw[yW (Zx j),Zp l,ya,kO S (by omega) (by simp only[ym];omega),ya,ya,ZyM M T,ya,Zwr (by simp only[ym];omega) (by omega),ya,Zq (by omega),VD l];unfold fH;simp only[yac]) (by
  unfold Xg;dsimp only;rw[yX (by rw[ZB];decide),yaj]) (by omega)
 rw[show bj fH (outs.take 0)=[] from rfl,ybf]at p
 have p:Zc (Xg yD) yD (Yi f.length++bj eS f++Yi outs.length,(0:Int),(f,outs,g))=_:=p;rw[p,ya];dsimp only;rw[kO t4 F (by simp only[ym];omega),ya];unfold iO;simp only[yac]
theorem Zus{t:Tx}(h:(iO t).length<=40000):∀x,x∈[iO t]->x.length<=60000:=λx f=>by
 rw[yba.1 f];omega
theorem ZDv{t:Tx}(hl:oD t)(f:mR t):∃n,eA yD t=ab n/\QV yD t=ab n/\n.length=32:=by
 obtain⟨b,j,l,m⟩:=OB hl;unfold eA QV;rw[j,l,ya,ya]
 cases b with
 |false=>exact⟨_,rfl,rfl,rfl⟩
 |true=>
  have h:=m rfl;obtain⟨y,g⟩:=NN f h;rw[yX (by decide),yX (by decide),y,ZDu f h,ya,ya,NX (by decide) (by simp) (Zus g),ZID (by decide) (by simp) (Zus g)];exact⟨_,rfl,rfl,Sha.JX _⟩
def fh(l:yL yB):Nat->Nat
 |0=>0
 |k+1=>fh l k*256+((l[k]?).map UInt8.toNat).getD 0
theorem OC(l:yL yB):∀k,fh l k < 256 ^ k
 |0=>by simp[fh]
 |k+1=>by
  have:=OC l k
  have h:((l[k]?).map UInt8.toNat).getD 0 < 256:=by
   cases l[k]? with
   |none=>simp
   |some d=>exact d.toNat_lt
  rw[fh,Nat.pow_succ];omega
theorem ZBX(n:Nat):∀k,k<=8->n < 18446744073709551616->fh (fv n) k=n / 2 ^ (64 - 8*k)
 |0,_,h=>by rw[fh,Nat.div_eq_of_lt (by omega)]
 |k+1,g,h=>by
  rw[fh,ZBX n k (by omega) h,zb n (by omega)];have e:(64 - 8*k)=(56 - 8*k)+8:=by omega
  have f:64 - 8*(k+1)=56 - 8*k:=by omega
  rw[e,f,Nat.pow_add, <-Nat.div_div_eq_div_mul];simp;omega
def VE(r:Ze)(n:Nat):yL yB×Ze:=if r.2=ae\/r.1.length < n then([],([],ae)) else(r.1.take n,(r.1.drop n,r.2))
theorem ZBY{n:Nat}{z:Int}(f:0<=z)(h:z<=(n:Int)):dU n (ab z) ad=ae:=by simp[dU,f,h]
theorem ZIF{n:Nat}{z:Int}(f:0<=z)(h:z<=(n:Int)):dU n ad (ab z)=ae:=by simp[dU,f,h]
theorem ZyR{l:yL yB}(h:l.length<=1000000000):Yd yD l=ab l:=by
 unfold Yd;rw[yW (ZS (by omega) (by omega))]
theorem OD{z:Int}{r:Ze}(j:0<=z)(h:r.1.length<=2000000):XM yD z r=ab (VE r z.toNat):=by
 obtain⟨b,no⟩:=r;obtain⟨n,rfl⟩:=Int.eq_ofNat_of_zero_le j;unfold XM VE Wx;dsimp only at h ⊢;rw[yat];by_cases f:no=ae
 .rw[yW f,ya,yW (.inl f)]
 by_cases g:b.length < n
 .rw[yX f,yW (yY (by omega)),ya,yW (.inr g)]
 rw[yX f,yX (dn (by omega)),yW (ZIF (by omega) (by omega)),ZyR (by rw[yaa];omega),ya,yW (ZBY (by omega) (by omega)),yX (by rintro(h|h);exact f h;exact g h)]
theorem tT(r:Ze)(n:Nat):(VE r n).1.length<=n/\(VE r n).2.1.length<=r.1.length:=by
 unfold VE;split
 .simp
 .simp;omega
theorem OE{b r:yL yB}{n:Nat}(h:b.length=n):VE (b++r,af) n=(b,(r,af)):=by
 subst h;unfold VE;rw[yX (by simp)];simp
def iy(r:Ze):yL yB×Ze:=((VE r 32).1++yx (32 - (VE r 32).1.length) 0,(VE r 32).2)
theorem ZDw(r:Ze):(iy r).1.length=32/\(iy r).2.1.length<=r.1.length:=by
 have f:=tT r 32;unfold iy;rw[ym,List.length_replicate];exact⟨by omega,f.2⟩
theorem ZGq{b r:yL yB}(h:b.length=32):iy (b++r,af)=(b,(r,af)):=by
 unfold iy;rw[OE h,h];simp
def jp(r:Ze):yU×Ze:=(yan (fh (VE r 8).1 (VE r 8).1.length),(VE r 8).2)
theorem ZGr{l:yL yB}{k:Nat}{d:yB}(g:k < 8)(f:l[k]? =ab d):(VS (yan (fh l k)) 8)|||(yan d.toNat)=yan (fh l (k+1)):=by
 have h:=OC l k;have j:256 ^ k<=256 ^ 7:=Nat.pow_le_pow_right (by omega) (by omega);have m:=d.toNat_lt;apply UInt64.toNat_inj.1;unfold VS
 rw[UInt64.toNat_or,ybh,ybh,ybh,ybh,yas (a:=fh l k) (by omega),yas (a:=d.toNat) (by omega),yas (a:=fh l k*2 ^ 8) (by omega),fh,f,
  ybo (fh l k) (2 ^ 8), <-yda (by omega)]
 simp;omega
theorem kP{r:Ze}(h:r.1.length<=2000000):YT yD r=ab (jp r):=by
 unfold YT jp;rw[OD (by omega) h,ya];have f:=tT r 8;rw[show(8:Int).toNat=8 from rfl]
 generalize VE r 8=q at f;obtain⟨l,s⟩:=q;dsimp only at f ⊢
 rw[show((0:yU),l,(l.length:Int),(0:Int),s)=(λk:Nat=>(yan (fh l k),l,(l.length:Int),(k:Int),s)) 0 from rfl,
  ZD (x:=(yan (fh l l.length),s)) l.length (λk:Nat=>(yan (fh l k),l,(l.length:Int),(k:Int),s)) ?_ ?_ (by omega),ya]
 .intro k g;obtain⟨e,j,_⟩:=Zj g;unfold WQ;dsimp only;rw[yW (Zx g),Zp j,ya,ZGr (by omega) j,Zq (by omega)]
 .unfold WQ;dsimp only;rw[yX (by rw[ZB];decide)]
theorem tU(r:Ze):(jp r).2.1.length<=r.1.length:=(tT r 8).2
theorem tV(x:yU)(r:yL yB):jp (fv x.toNat++r,af)=(x,(r,af)):=by
 unfold jp;rw[OE (YE _),YE];dsimp only;rw[ZBX _ 8 (by omega) (ybv _)];simp
def Wj(b:yL yB):Nat->Nat->Nat->Bool×Nat×Nat
 |0,k,_=>(af,0,k)
 |f+1,k,n=>match b[k]? with
  |none=>(af,0,k)
  |some d=>if 8 < k\/(0 < k/\d.toNat=0) then(af,0,k) else if d.toNat < 128 then(ae,n+d.toNat % 128*128 ^ k,k+1) else Wj b f (k+1) (n+d.toNat % 128*128 ^ k)
theorem zn{b:yL yB}{f k n:Nat}(h:b.length<=k):Wj b (f+1) k n=(af,0,k):=by
 simp[Wj,ybz h]
theorem zp{b:yL yB}{f k n:Nat}{d:yB}(g:b[k]? =ab d)(h:8 < k):Wj b (f+1) k n=(af,0,k):=by
 simp[Wj,g,h]
theorem zq{b:yL yB}{f k n:Nat}{d:yB}(g:b[k]? =ab d)(_:¬8 < k)(h:0 < k/\d.toNat=0):Wj b (f+1) k n=(af,0,k):=by
 rw[Wj,g];exact yW (.inr h)
theorem tW{b:yL yB}{f k n:Nat}{d:yB}(g:b[k]? =ab d)(h2:¬8 < k)(h3:¬(0 < k/\d.toNat=0))(h4:d.toNat < 128):Wj b (f+1) k n=(ae,n+d.toNat % 128*128 ^ k,k+1):=by
 rw[Wj,g];show(if 8 < k\/(0 < k/\d.toNat=0) then _ else _)=_
 rw[yX (by rintro(h|h);exact h2 h;exact h3 h),yW h4]
theorem tX{b:yL yB}{f k n:Nat}{d:yB}(g:b[k]? =ab d)(h2:¬8 < k)(h3:¬(0 < k/\d.toNat=0))(h4:¬d.toNat < 128):Wj b (f+1) k n=Wj b f (k+1) (n+d.toNat % 128*128 ^ k):=by
 rw[Wj,g];show(if 8 < k\/(0 < k/\d.toNat=0) then _ else _)=_
 rw[yX (by rintro(h|h);exact h2 h;exact h3 h),yX h4]
theorem ZyS(n k:Nat)(d:yB)(hn:n < 128 ^ k)(g:k<=8):n+d.toNat % 128*128 ^ k < 9223372036854775808:=by
 have h:d.toNat % 128*128 ^ k<=127*128 ^ k:=ycb _ (by omega);have f:128 ^ (k+1)<=128 ^ 9:=Nat.pow_le_pow_right (by omega) (by omega);rw[Nat.pow_succ]at f;omega
theorem Zut(n k:Nat)(d:yB)(hn:n < 128 ^ k):n+d.toNat % 128*128 ^ k < 128 ^ (k+1):=by
 have f:d.toNat % 128*128 ^ k<=127*128 ^ k:=ycb _ (by omega);rw[Nat.pow_succ];omega
theorem ZyT(b:yL yB):∀(f k n:Nat),(Wj b f k n).1=ae->(Wj b f k n).2.2<=b.length
 |0,k,n,h=>by simp[Wj]at h
 |f+1,k,n,h=>by
  by_cases m:b.length<=k
  .rw[zn m]at h;cases h
  have g:=yab (Nat.lt_of_not_le m);by_cases j:8 < k
  .rw[zp g j]at h;cases h
  by_cases l:0 < k/\b[k].toNat=0
  .rw[zq g j l]at h;cases h
  by_cases y:b[k].toNat < 128
  .rw[tW g j l y];simp;omega
  .rw[tX g j l y]at h ⊢;exact ZyT b f _ _ h
theorem ZyU(b:yL yB):∀(f k n:Nat),n < 128 ^ k->k<=9->(Wj b f k n).2.1<=9223372036854775807
 |0,k,n,h,_=>by simp[Wj]
 |f+1,k,n,h,z=>by
  by_cases m:b.length<=k
  .rw[zn m];simp
  have g:=yab (Nat.lt_of_not_le m);by_cases j:8 < k
  .rw[zp g j];simp
  by_cases l:0 < k/\b[k].toNat=0
  .rw[zq g j l];simp
  by_cases y:b[k].toNat < 128
  .rw[tW g j l y];have:=ZyS n k b[k] h (by omega);show n+b[k].toNat % 128*128 ^ k<=_;omega
  .rw[tX g j l y];exact ZyU b f _ _ (Zut n k _ h) (by omega)
theorem ZBZ{a:yL yB}{k:Nat}{x:yB}{r:yL yB}(h:a.length=k):(a++x::r)[k]? =ab x:=by
 rw[yaq (by omega),h,Nat.sub_self];rfl
theorem Znf{n:Nat}(h:n < 256):(yap n).toNat=n:=by simp[yas h]
theorem Zuu:∀(f n:Nat)(pre yK:yL yB)(k acc:Nat),pre.length=k->k+(Yi n).length<=9->(Yi n).length<=f->(0 < k->0 < n)->
 Wj (pre++(Yi n++yK)) f k acc=(ae,acc+n*128 ^ k,k+(Yi n).length)
 |0,n,pre,yK,k,acc,_,_,j,_=>by
  have:=List.length_pos_iff.2 (ZBS n);omega
 |f+1,n,pre,yK,k,acc,l,g,j,A=>by
  by_cases h:n < 128
  .rw[oC h]at g ⊢;have m:(pre++([yap n]++yK))[k]? =ab (yap n):=ZBZ l;have e:(yap n).toNat=n:=Znf (by omega);simp at g;rw[tW m (by omega) (by rw[e];omega) (by rw[e];exact h),e,yas h];rfl
  .rw[tH h]at g j ⊢;have m:(pre++((yap (n % 128+128)::Yi (n / 128))++yK))[k]? =ab (yap (n % 128+128)):=ZBZ l;have e:(yap (n % 128+128)).toNat=n % 128+128:=Znf (by omega);simp only[yag]at g j ⊢;rw[tX m (by omega) (by rw[e];omega) (by rw[e];omega),e];have:=Zuu f (n / 128) (pre++[yap (n % 128+128)]) yK (k+1) (acc+(n % 128+128) % 128*128 ^ k) (by simp[l]) (by omega) (by omega) (by omega);rw[yac]at this;simp only[List.cons_append,yz]at this ⊢;rw[this];have y:n=n % 128+128*(n / 128):=by omega
   have z:(n % 128+128) % 128=n % 128:=by omega
   rw[z,Nat.pow_succ];refine Prod.ext rfl (Prod.ext ?_ (by simp;omega));show acc+n % 128*128 ^ k+n / 128*(128 ^ k*128)=acc+n*128 ^ k;rw[show n / 128*(128 ^ k*128)=128*(n / 128)*128 ^ k by rw[ybo (128 ^ k) 128, <-Nat.mul_assoc,ybo (n / 128) 128],Nat.add_assoc, <-Nat.add_mul, <-y]
def WH(r:Ze):Int×Ze:=if(Wj r.1 10 0 0).1=ae then(((Wj r.1 10 0 0).2.1:Int),(r.1.drop (Wj r.1 10 0 0).2.2,r.2)) else(0,([],ae))
theorem kQ{z:Int}(f:0<=z)(hz:z<=9223372036854775807)(yK:yL yB):WH (Yi z.toNat++yK,af)=(z,(yK,af)):=by
 obtain⟨n,rfl⟩:=Int.eq_ofNat_of_zero_le f;have g:=ZA (n:=n) (by omega);have:=Zuu 10 n [] yK 0 0 rfl (by omega) (by omega) (by omega);simp only[yz,Nat.zero_add,Nat.pow_zero,Nat.mul_one]at this;unfold WH;rw[yat];dsimp only;rw[this];simp
theorem Qu(r:Ze):0<=(WH r).1/\(WH r).1<=9223372036854775807/\(WH r).2.1.length<=r.1.length:=by
 unfold WH;split
 .have:=ZyU r.1 10 0 0 (by omega) (by omega);refine⟨by dsimp only;omega,by dsimp only;omega, ?_⟩;rw[List.length_drop];omega
 .simp
theorem ZGs{n k:Nat}{d:yB}(hn:n < 128 ^ k)(g:k<=8):bits .or .i64 (n:Int) (wi (((d % 128).toNat:Int)*2 ^ (min (wi (7*(k:Int))).toNat 64)))=((n+d.toNat % 128*128 ^ k:Nat):Int):=by
 have h:(wi (7*(k:Int)))=((7*k:Nat):Int):=by rw[ZE (by omega) (by omega)];omega
 have j:min ((7*k:Nat):Int).toNat 64=7*k:=by omega
 have f:128 ^ k=2 ^ (7*k):=by rw[Nat.pow_mul]
 have m:=ZyS n k d hn g
 have l:((d % 128).toNat:Int)*2 ^ (7*k)=((d.toNat % 128*128 ^ k:Nat):Int):=by
  rw[f,UInt8.toNat_mod]
  push_cast
  rfl
 rw[h,j,l,ZE (by omega) (by omega)];refine Go.Ev.ux (op:=.or) (k:=.i64) ?_ (by omega) ⟨by show-9223372036854775808<=_;omega,by show _<=9223372036854775807;omega⟩ (by omega) ⟨by show-9223372036854775808<=_;omega,by show _<=9223372036854775807;omega⟩ ⟨by show-9223372036854775808<=_;omega,by show _<=9223372036854775807;omega⟩;show ab _=ab _;congr 1;simp only[yat];rw[f]at hn ⊢;have:=yda hn (d.toNat % 128);rw[ybo,Nat.or_comm, <-this];omega
theorem zr{b:yL yB}{no:Bool}{k:Nat}(hb:b.length<=2000000)(h:b.length<=k\/8 < k\/(0 < k/\b[k]? =ab 0)):Xw yD (k:Int) (b,no)=ab (ae,(k:Int),(b,no)):=by
 unfold Xw;dsimp only;by_cases f:b.length<=k
 .rw[yW (yY (by omega))]
 rw[yX (dn (by omega))];by_cases g:8 < k
 .rw[yW (yY (by omega))]
 rw[yX (dn (by omega))];rcases h with h|h|⟨h,j⟩
 .exact absurd h f
 .exact absurd h g
 rw[yW (yY (by omega)),Zp j,ya];rfl
theorem ZDx{b:yL yB}{no:Bool}{k:Nat}{d:yB}(hb:b.length<=2000000)(f:b[k]? =ab d)(h2:¬8 < k)(h3:¬(0 < k/\d.toNat=0)):Xw yD (k:Int) (b,no)=ab (af,(k:Int),(b,no)):=by
 unfold Xw;have j:k < b.length:=(yu.1 f).1;dsimp only;rw[yX (dn (by omega)),yX (dn (by omega))];by_cases g:0 < k
 .rw[yW (yY (by omega)),Zp f,ya]
  have:(d==0)=af:=by
   rw[beq_eq_false_iff_ne];intro h;exact h3 ⟨g,by rw[h];rfl⟩
  rw[this]
 .rw[yX (dn (by omega))]
theorem ZyV{b:yL yB}{no:Bool}(hb:b.length<=2000000):∀(f k n m:Nat),k+f=10->f < m->n < 128 ^ k->
 Zc (XU yD) m ((n:Int),(b,no),(k:Int))=ab (if(Wj b f k n).1=ae then .inr (((Wj b f k n).2.1:Int),(b,no),((Wj b f k n).2.2:Int)) else .inl ((0:Int),([],ae),((Wj b f k n).2.2:Int)))
 |f,k,n,0,_,h,_=>by omega
 |0,k,n,m+1,h,_,_=>by
  unfold Zc XU;dsimp only;rw[zr hb (.inr (.inl (by omega))),ya]
  rfl
 |f+1,k,n,m+1,h,G,E=>by
  unfold Zc XU;dsimp only;by_cases F:b.length<=k
  .rw[zn F,zr hb (.inl F),ya];rfl
  obtain⟨d,g,_⟩:=Zj (l:=b) (k:=k) (by omega);by_cases j:8 < k
  .rw[zp g j,zr hb (.inr (.inl j)),ya];rfl
  by_cases y:0 < k/\d.toNat=0
  .rw[zq g j y,zr hb (.inr (.inr ⟨y.1,by rw[g,show d=0 from UInt8.toNat_inj.1 y.2]⟩)),ya]
   rfl
  rw[ZDx hb g j y,ya];dsimp only
  rw[yX (by decide),Zp g,ya,ZGs E (by omega),
   yW (yY (by rw[ZE (by omega) (by omega)];omega)),Zq (by omega)]
  have A:ag (d < 128)=ag (d.toNat < 128):=by
   rw[Bool.eq_iff_iff,yN,yN,UInt8.lt_iff_toNat_lt];rfl
  rw[A];by_cases z:d.toNat < 128
  .rw[tW g j y z,yW (yY z)];rfl
  .rw[tX g j y z,yX (by rw[yN];exact z)];exact ZyV hb f (k+1) _ m (by omega) (by omega) (Zut n k d E)
theorem Vu{r:Ze}(h:r.1.length<=2000000):ZU yD r=ab (WH r):=by
 obtain⟨b,no⟩:=r;unfold ZU WH;dsimp only at h ⊢;have:=ZyV (no:=no) h 10 0 0 yD (by omega) (by rw[jQ];omega) (by omega);rw[show((0:Nat):Int)=0 from rfl]at this
 rw[this,ya];by_cases f:(Wj b 10 0 0).1=ae
 .have g:=ZyT b 10 0 0 f;rw[yW f,yW f];dsimp only;rw[yW (ZBY (by omega) (by omega)),yat]
 .rw[yX f,yX f]
def Qv(r:Ze):yL yB×Ze:=if(WH r).2.2=ae then([],(WH r).2) else VE (WH r).2 (WH r).1.toNat
theorem ZAE(r:Ze):(Qv r).1.length<=r.1.length/\(Qv r).2.1.length<=r.1.length:=by
 unfold Qv;have f:=Qu r;split
 .exact⟨by simp,f.2.2⟩
 .have g:=tT (WH r).2 (WH r).1.toNat
  refine⟨?_,by omega⟩;unfold VE;split
  .simp
  .simp only[yaa];omega
theorem ZDy{c:yL yB}(hc:c.length<=2000000)(yK:yL yB):Qv (Yi c.length++(c++yK),af)=(c,(yK,af)):=by
 unfold Qv;have:=kQ (z:=(c.length:Int)) (by omega) (by omega) (c++yK);rw[yat]at this;rw[this,yX (by simp),yat,OE rfl]
theorem zu{b:yL yB}(h:b.length<=2000000):tm yD b=ab (b,af):=by
 unfold tm;rw[ZyR (by omega),ya]
theorem tY{α:Type}{l:yL α}{k:Nat}{e:α}(h:l[k]? =ab e):l.drop k=e::l.drop (k+1):=by
 obtain⟨f,g⟩:=yu.1 h;rw[List.drop_eq_getElem_cons f,g]
theorem tZ{α:Type}{f:α->yL yB}{l:yL α}{k:Nat}{e:α}(h:l[k]? =ab e):bj f (l.drop k)=f e++bj f (l.drop (k+1)):=by
 rw[tY h,NJ]
theorem Xh{α:Type}{f:α->yL yB}{c n:Nat}{l:yL α}(h:∀x,x∈l->(f x).length<=c)(hn:l.length<=n)(k:Nat):(bj f (l.drop k)).length<=n*c:=by
 refine ybt (NK λx g=>h x (List.mem_of_mem_drop g)) (ycb c ?_);rw[List.length_drop];omega
theorem ZDz{a b:yL yB}(h:a.length<=2000000):∃r,ZX yD a b=ab r:=by
 unfold ZX;by_cases j:a.length=b.length
 .rw[yX (by simp[j])]
  obtain⟨x,m,_⟩:=Xz (step:=ZF yD) a.length (λk s=>s=(a,b,(a.length:Int),(k:Int))) (λ_=>True) (i:=(a,b,(a.length:Int),(0:Int))) rfl (by omega) (by
   rintro k _ g rfl;obtain⟨e,z,_⟩:=Zj g;obtain⟨f,A,_⟩:=Zj (l:=b) (k:=k) (by omega);unfold ZF;dsimp only;rw[yW (Zx g),Zp z,ya,Zp A,ya,Zq (by omega)];split
   .right;exact⟨_,rfl,aB⟩
   .left;exact⟨_,rfl,rfl⟩) (by
   rintro _ rfl;unfold ZF;dsimp only;rw[yX (by rw[ZB];decide)];exact⟨_,rfl,aB⟩)
  rw[m,ya]
  cases x with
  |inl y=>exact⟨_,rfl⟩
  |inr y=>exact⟨_,rfl⟩
 .rw[yW (by simp;omega)];exact⟨_,rfl⟩
theorem Zso{a:yL yB}(h:a.length<=2000000):ZX yD a a=ab ae:=by
 unfold ZX;rw[yX (by simp),show(a,a,(a.length:Int),(0:Int))=(λk:Nat=>(a,a,(a.length:Int),(k:Int))) 0 from rfl,ZD (x:=.inr ()) a.length (λk:Nat=>(a,a,(a.length:Int),(k:Int))) ?_ ?_ (by omega),ya]
 .intro k f;obtain⟨e,g,_⟩:=Zj f;unfold ZF;dsimp only;rw[yW (Zx f),Zp g,ya,ya,Zq (by omega),yX (by simp)]
 .unfold ZF;dsimp only;rw[yX (by rw[ZB];decide)]
theorem ZDA{b:yL yB}{n i:Int}{l:ZY}{yK:yL yB}{acc:yL Z3}{i1 i2:Int}{u:yU}{ks:yL yU}(j:ks.length<=12)(m:yK.length<=100000):
 Zc (Xy yD) yD (b,n,i,(ks.length:Int),(0:Int),l,(bj hU ks++yK,af),acc,i1,i2,u,([]:yL yU))=ab (b,n,i,l,(yK,af),acc,i1,i2,u,ks):=by
 refine ZD ks.length (λk:Nat=>(b,n,i,(ks.length:Int),(k:Int),l,(bj hU (ks.drop k)++yK,af),acc,i1,i2,u,ks.take k)) ?_ ?_ (by omega)
 .intro k g;obtain⟨e,h,_⟩:=Zj g;have y:=Xh (f:=hU) (c:=8) (λx _=>Nat.le_of_eq (YE _)) j k;unfold Xy;dsimp only;rw[yW (Zx g),kP (by dsimp only;rw[ym];omega),ya,tZ h,yac];unfold hU;rw[tV,yW (ZS (by rw[yaa];omega) (by rw[yaa];omega)),Zq (by omega),Wm h]
 .unfold Xy;dsimp only;rw[yX (by rw[ZB];decide),List.drop_length,yaj];rfl
theorem Zuv{l:ZY}(h:Wq l)(hp:gQ l):ot yD (gp l)=ab (l,ae):=by
 have G:=qa h;unfold ot;rw[zu (by omega),ya,Vu (by dsimp only;omega),ya];have I:=h.2.1
 have M:WH (gp l,af)=((l.length:Int),(bj fN l,af)):=by
  have:=kQ (z:=(l.length:Int)) (by omega) (by omega) (bj fN l);rw[yat]at this;exact this
 have g:∀k,(bj fN (l.drop k)).length<=4*131:=Xh (λx Q=>zc (h.2.2 x Q)) I;rw[M];dsimp only;generalize R:gp l=b at G
 rw[show(b,(l.length:Int),(0:Int),([]:ZY),(bj fN l,af),([]:yL Z3))=(λk:Nat=>(b,(l.length:Int),(k:Int),([]:ZY),(bj fN (l.drop k),af),l.take k)) 0 from rfl,
  ZD (x:=(b,([]:ZY),(([]:yL yB),af),l)) l.length (λk:Nat=>(b,(l.length:Int),(k:Int),([]:ZY),(bj fN (l.drop k),af),l.take k)) ?_ ?_ (by omega),ya]
 .dsimp only;rw[NH h hp,ya,yX (by decide),NL h hp,ya,R,Zso (by omega),ya];rfl
 .intro k A;obtain⟨e,E,S⟩:=Zj A;obtain⟨F,T,U,e4,W⟩:=h.2.2 e S;have X:=g k;have j:=g (k+1);have Y:=ZA (n:=e.2.1.toNat) (by omega);have Z:=ZA (n:=e.2.2.1.toNat) (by omega);have r4:=YE e.2.2.2.toNat
  have m:=Xh (f:=hU) (c:=8) (l:=e.1) (λx _=>Nat.le_of_eq (YE _)) F 0;rw[List.drop_zero]at m;unfold WK;dsimp only;rw[yW (Zx A),Vu (by dsimp only;omega),ya,yX (by rw[yT];omega),tZ E];unfold fN;simp only[yac];have y:=kQ (z:=(e.1.length:Int)) (by omega) (by omega) (bj hU e.1++(Yi e.2.1.toNat++(Yi e.2.2.1.toNat++(fv e.2.2.2.toNat++bj fN (l.drop (k+1))))));rw[yat]at y;unfold fN at y j;rw[y];dsimp only;rw[yX (dn (by omega)),ZDA F (by simp only[ym];omega),ya];dsimp only;rw[Vu (by simp only[ym];omega),ya,kQ T (by omega)];dsimp only;rw[Vu (by simp only[ym];omega),ya,kQ e4 (by omega)];dsimp only;rw[kP (by simp only[ym];omega),ya,tV,yW (ZS (by rw[yaa];omega) (by rw[yaa];omega)),Zq (by omega),Wm E]
 .unfold WK;dsimp only;rw[yX (by rw[ZB];decide),List.drop_length,yaj];rfl
theorem ZGt{b:yL yB}{n i m:Int}{l:ZY}{r:Ze}{acc:yL Z3}{i1 i2:Int}{u:yU}(hm:m<=12)(h:r.1.length<=2000000):
 ∃r' w,Zc (Xy yD) yD (b,n,i,m,(0:Int),l,r,acc,i1,i2,u,([]:yL yU))=ab (b,n,i,l,r',acc,i1,i2,u,w)/\r'.1.length<=2000000/\w.length<=12:=by
 obtain⟨x,f,r',w,rfl,g⟩:=Xz (step:=Xy yD) m.toNat (λk s=>∃r' w,s=(b,n,i,m,(k:Int),l,r',acc,i1,i2,u,w)/\r'.1.length<=2000000/\w.length=k) (λx=>∃r' w,x=(b,n,i,l,r',acc,i1,i2,u,w)/\r'.1.length<=2000000/\w.length<=12)
  (i:=(b,n,i,m,(0:Int),l,r,acc,i1,i2,u,([]:yL yU))) ⟨r,[],rfl,h,rfl⟩ (by omega) (by
  rintro k _ j ⟨r',w,rfl,f,g⟩;left;have y:=tU r';unfold Xy;dsimp only;rw[yW (yY (by omega)),kP f,ya,yW (ZS (by omega) (by omega)),Zq (by omega)];exact⟨_,rfl,_,_,rfl,by omega,by simp[g]⟩) (by
  rintro _ ⟨r',w,rfl,f,g⟩;unfold Xy;dsimp only;rw[yX (dn (by omega))];exact⟨_,rfl,_,_,rfl,f,by omega⟩)
 exact⟨r',w,f,g⟩
theorem ZGu{a b:yL yB}(h:a.length<=2000000):ZX yD a b=ab (ag (a=b)):=by
 obtain⟨r,I⟩:=ZDz (a:=a) (b:=b) h;by_cases g:a=b
 .subst g;rw[Zso h,yY rfl]
 .rw[yZ g];unfold ZX;by_cases y:a.length=b.length
  .rw[yX (by simp[y])]
   obtain⟨x,F,G⟩:=Xz (step:=ZF yD) a.length (λk s=>s=(a,b,(a.length:Int),(k:Int))/\a.take k=b.take k) (λx=>x=.inl af) (i:=(a,b,(a.length:Int),(0:Int))) ⟨rfl,rfl⟩ (by omega) (by
    rintro k _ z ⟨rfl,m⟩;obtain⟨e,A,_⟩:=Zj z;obtain⟨f,E,_⟩:=Zj (l:=b) (k:=k) (by omega);unfold ZF;dsimp only;rw[yW (Zx z),Zp A,ya,Zp E,ya,Zq (by omega)];by_cases j:e=f
    .left;rw[yX (by simp[j])];exact⟨_,rfl,rfl,by rw[List.take_add_one,List.take_add_one,m,A,E,j]⟩
    .right;rw[yW (bne_iff_ne.2 j)];exact⟨_,rfl,rfl⟩) (by
    rintro _ ⟨rfl,m⟩;rw[yaj,y,yaj]at m;exact absurd m g)
   rw[F,ya,G]
  .rw[yW (by simp;omega)]
theorem Zwu{b:yL yB}(hb:b.length<=2000000):∃l ok,ot yD b=ab (l,ok)/\(ok=ae->Wq l/\gQ l/\gp l=b)/\(ok=af->l=[]):=by
 unfold ot;rw[zu hb,ya,Vu hb,ya];have z:=Qu (b,af);generalize WH (b,af)=q at z;obtain⟨n,r⟩:=q;dsimp only at z ⊢
 obtain⟨x,A,Z,f,rfl,E,j⟩:=Xz (step:=WK yD) (min n.toNat 4) (λk s=>∃r f,s=(b,n,(k:Int),([]:ZY),r,f)/\r.1.length<=2000000/\f.length=k/\∀e,e∈f->e.1.length<=12) (λx=>∃r f,x=(b,([]:ZY),r,f)/\f.length<=4/\∀e,e∈f->e.1.length<=12)
  (i:=(b,n,(0:Int),([]:ZY),r,([]:yL Z3))) ⟨r,[],rfl,by omega,rfl,λe he=>by cases he⟩ (by omega) (by
  rintro k _ y ⟨r,f,rfl,A,E,j⟩;have hl:=Qu r;unfold WK;dsimp only;rw[yW (yY (by omega)),Vu A,ya,yX (by rw[yT];omega)];by_cases g:(WH r).1 > 12
  .right;rw[yW (yY g)];exact⟨_,rfl,_,_,rfl,by omega,j⟩
  .left;rw[yX (by rw[yN];exact g)];obtain⟨F,w,R,S,T⟩:=ZGt (b:=b) (n:=n) (i:=(k:Int)) (m:=(WH r).1) (l:=[]) (r:=(WH r).2) (acc:=f) (i1:=0) (i2:=0) (u:=0) (by omega) (by omega);have U:=Qu F;have W:=Qu (WH F).2;have X:=tU (WH (WH F).2).2;rw[R,ya];dsimp only;rw[Vu S,ya,Vu (by omega),ya,kP (by omega),ya,yW (ZS (by omega) (by omega)),Zq (by omega)];refine⟨_,rfl,_,_,rfl,by omega,by simp[E],λe he=> ?_⟩;rcases List.mem_append.1 he with he|he
   .exact j e he
   .rw[yba.1 he];exact T) (by
  rintro _ ⟨r,f,rfl,A,E,j⟩;unfold WK;dsimp only;by_cases Q:((min n.toNat 4:Nat):Int) < n
  .rw[yW (yY Q),Vu A,ya,yW (by rw[yT];omega)];exact⟨_,rfl,_,_,rfl,by omega,j⟩
  .rw[yX (by rw[yN];exact Q)];exact⟨_,rfl,_,_,rfl,by omega,j⟩)
 rw[A,ya];dsimp only;have Y:eB f:=⟨by omega,λe he=>by have:=j e he;omega⟩;obtain⟨k,G,I⟩:=Qt Y;rw[G,ya]
 cases k with
 |false=>exact⟨_,_,rfl,λh=>(by cases h),λ_=>rfl⟩
 |true=>
  have y:=I.1 rfl;have zW:=qa y.1;rw[yX (by decide),NL y.1 y.2,ya,ZGu (by omega),ya];by_cases M:gp f=b
  .rw[yY M,yX (by decide)];exact⟨_,_,rfl,λ_=>⟨y.1,y.2,M⟩,λh=>(by cases h)⟩
  .rw[yZ M,yW (by decide)];exact⟨_,_,rfl,λh=>(by cases h),λ_=>rfl⟩
open Classical in
noncomputable def mU(b:yL yB):ZY×Bool:=if h:∃l,Wq l/\gQ l/\gp l=b then(h.choose,ae) else([],af)
theorem ZIG{b:yL yB}(hb:b.length<=2000000):ot yD b=ab (mU b):=by
 obtain⟨l,f,g,j,m⟩:=Zwu hb;unfold mU;by_cases h:∃l,Wq l/\gQ l/\gp l=b
 .obtain⟨y,z,A⟩:=h.choose_spec;have:=Zuv y z;rw[A]at this;rw[dif_pos h,this]
 .rw[dif_neg h,g]
  cases f with
  |false=>rw[m rfl]
  |true=>exact absurd ⟨l,j rfl⟩ h
theorem OF{r:Ze}{n:Nat}(h:(VE r n).2.2=af):r.2=af/\r.1=(VE r n).1++(VE r n).2.1/\(VE r n).1.length=n:=by
 unfold VE at h ⊢;by_cases c:r.2=ae\/r.1.length < n
 .rw[yW c]at h;cases h
 .rw[yX c]at h ⊢;have f:¬r.2=ae:=λq=>c (.inl q);have g:¬r.1.length < n:=λq=>c (.inr q);refine⟨by simpa using f,(ybc n r.1).symm, ?_⟩;show(r.1.take n).length=n;rw[yaa];omega
theorem ZDB{r:Ze}(h:(iy r).2.2=af):r.2=af/\r.1=(iy r).1++(iy r).2.1:=by
 obtain⟨f,g,j⟩:=OF (r:=r) (n:=32) h;refine⟨f, ?_⟩;unfold iy;rw[j,Nat.sub_self,List.replicate_zero,ybf];exact g
theorem ZGv:∀(l:yL yB),l.length<=8->∀k,k<=l.length->∀j,j < k->∃d,l[j]? =ab d/\fh l k / 256 ^ (k - 1 - j) % 256=d.toNat:=by
 intro l E k
 induction k with
 |zero=>intro _ j h;omega
 |succ k m=>
  intro F j h;obtain⟨d,g,_⟩:=Zj (l:=l) (k:=k) (by omega)
  have e:fh l (k+1)=fh l k*256+d.toNat:=by
   show fh l k*256+((l[k]?).map UInt8.toNat).getD 0=_;rw[g];rfl
  have y:d.toNat < 256:=UInt8.toNat_lt d;by_cases f:j=k
  .subst f;refine⟨d,g, ?_⟩;rw[e,show j+1 - 1 - j=0 by omega,Nat.pow_zero,Nat.div_one];omega
  .obtain⟨c,z,A⟩:=m (by omega) j (by omega);refine⟨c,z, ?_⟩;rw[e,show k+1 - 1 - j=(k - 1 - j)+1 by omega,Nat.pow_succ,ybo (256 ^ (k - 1 - j)), <-Nat.div_div_eq_div_mul,show(fh l k*256+d.toNat) / 256=fh l k by omega];exact A
theorem ZGw{l:yL yB}(h:l.length=8):fv (fh l 8)=l:=by
 apply List.ext_getElem?;intro j;by_cases f:j < 8
 .obtain⟨d,d1,d2⟩:=ZGv l (by omega) 8 (by omega) j f;rw[zb _ f,d1];refine congrArg ab (UInt8.toNat_inj.1 ?_);rw[UInt8.toNat_ofNat']
  rw[<-d2,show(2:Nat) ^ (56 - 8*j)=256 ^ (8 - 1 - j) by
   rw[show(256:Nat)=2 ^ 8 from rfl, <-Nat.pow_mul]
   congr 1;omega]
 .rw[ybz (by rw[YE];omega),ybz (by omega)]
theorem ZGx{r:Ze}(h:(jp r).2.2=af):r.2=af/\r.1=fv (jp r).1.toNat++(jp r).2.1:=by
 obtain⟨g,j,f⟩:=OF (r:=r) (n:=8) h;refine⟨g, ?_⟩;unfold jp;dsimp only;rw[f];have l:=OC (VE r 8).1 8
 rw[show(yan (fh (VE r 8).1 8)).toNat=fh (VE r 8).1 8 by
  rw[ybh];exact yas (Nat.lt_of_lt_of_eq l (by decide)),ZGw f]
 exact j
theorem Zuw(b:yL yB):∀(f k n:Nat),(Wj b f k n).1=ae->∃m,(Wj b f k n).2.1=n+m*128 ^ k/\b.drop k=Yi m++b.drop (Wj b f k n).2.2/\(0 < k->0 < m)
 |0,k,n,h=>by simp[Wj]at h
 |f+1,k,n,h=>by
  by_cases z:b.length<=k
  .rw[zn z]at h;cases h
  have g:=yab (Nat.lt_of_not_le z);generalize b[k]=d at g;have G:=UInt8.toNat_lt d;by_cases j:8 < k
  .rw[zp g j]at h;cases h
  by_cases y:0 < k/\d.toNat=0
  .rw[zq g j y]at h;cases h
  by_cases l:d.toNat < 128
  .rw[tW g j y l];refine⟨d.toNat,by dsimp only;rw[yas l], ?_,λI=>by omega⟩;dsimp only;rw[oC l,tY g];simp
  .rw[tX g j y l]at h ⊢;obtain⟨m,E,F,A⟩:=Zuw b f (k+1) _ h;have A:=A (by omega);refine⟨d.toNat % 128+m*128, ?_, ?_,λ_=>by omega⟩
   .rw[E,Nat.add_mul,Nat.pow_succ,Nat.mul_assoc,ybo 128,Nat.add_assoc]
   .rw[tH (by omega),show(d.toNat % 128+m*128) / 128=m by omega,show(d.toNat % 128+m*128) % 128+128=d.toNat by omega,tY g,F];simp
theorem ZyW{r:Ze}(h:(WH r).2.2=af):r.2=af/\r.1=Yi (WH r).1.toNat++(WH r).2.1:=by
 unfold WH at h ⊢;by_cases c:(Wj r.1 10 0 0).1=ae
 .rw[yW c]at h ⊢;obtain⟨m,f,g,_⟩:=Zuw r.1 10 0 0 c;refine⟨h, ?_⟩;dsimp only;rw[f,Nat.pow_zero,Nat.mul_one,Nat.zero_add,yat];exact g
 .rw[yX c]at h;cases h
theorem ZAF{r:Ze}(h:(Qv r).2.2=af):r.2=af/\r.1=Yi (Qv r).1.length++((Qv r).1++(Qv r).2.1):=by
 unfold Qv at h ⊢;by_cases c:(WH r).2.2=ae
 .rw[yW c]at h;dsimp only at h;rw[c]at h;cases h
 .rw[yX c]at h ⊢;obtain⟨m,f,g⟩:=OF h;obtain⟨j,l⟩:=ZyW (r:=r) (by simpa using c);refine⟨j, ?_⟩;rw[g, <-f];exact l
end Go.Proofs.YtcbhhaigilifgaaGreat
end
