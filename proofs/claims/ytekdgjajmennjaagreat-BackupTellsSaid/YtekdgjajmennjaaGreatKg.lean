/- Parts of the proof, in one file. -/
import Derived.Test.YtekdgjajmennjaaGreatKf
open Option renaming some → ab, none → ae
open Bool renaming true → af, false → ag
open Decidable renaming decide → ah
open BitVec renaming ofInt → ycb
open Go.Proofs.Tryz renaming prog → yb
open Int renaming toNat_natCast → yap
open List renaming length_append → yl, getElem?_eq_some_iff → yo, replicate → yw, length_take → yx, nil_append → yy, length_map → yab, getElem?_eq_getElem → yac, append_assoc → yad, take_length → yai, getElem?_map → yak, map_append → yao, getElem?_append_right → yaq, append_nil → yar, getElem?_cons_succ → yay, length_set → yba, take_append_drop → ybd, getElem_of_mem → ybg, getElem?_eq_none → ybl, getElem?_cons_zero → ybm, take_of_length_le → ybs, getElem?_set_self → ycj, length_replicate → ycs, getD_eq_getElem?_getD → ycz
open Nat renaming le_refl → yj, add → yr, mod_eq_of_lt → yaf, mod_lt → ybb, mul_comm → ybi, le_trans → ybk, mul_mod → ybr, add_zero → ybu, two_pow_add_eq_or_of_lt → ycw
open Option renaming bind_some → ya
open UInt32 renaming toNat → yal, ofNat → ybq, toNat_ofNat' → ycq
open UInt64 renaming ofNat → yv, toNat_ofNat' → yan, toNat_lt → ybt, toNat_inj → ybz, lt_iff_toNat_lt → ycc, le_iff_toNat_le → ycp
open UInt8 renaming toNat → yaj, ofNat → yav
set_option linter.unusedVariables false
set_option linter.unusedSimpArgs false
section
set_option maxRecDepth 4000
namespace Go.Proofs.YtekdgjajmennjaaGreat
open Go Go.Ev
noncomputable section
def Y7(F:Nat)(a0:yU):yO (Bool):=
 if(ah (a0 >= 1))=af then
  if(ah (a0 < 4611686018427377339))=af then
   (Y6 F a0 2305843009213688669).bind λa=>
   ab (a==1)
  else
  ab ag
 else
 ab ag
def WK:Fs yb:=⟨197,[.v .u64],[],[.u64],(zP .bool),λx=>Y7 yD x⟩
theorem VD:WK.Ok:=aF { still:=[2,10]} [] [RR] ⟨ZeA,ao⟩
def BM(F:Nat)(a0:yU):yO (Bool):=
 (Y7 F a0).bind λa=>
 if a=af then
  ab (a0 !=1)
 else
 ab ag
def ZjQ:Fs yb:=⟨138,[.v .u64],[],[.u64],(zP .bool),λx=>BM yD x⟩
theorem ZrY:ZjQ.Ok:=aF { still:=[2,3]} [] [WK] ⟨VD,ao⟩
def XI(F:Nat)(s:(Int×aSy×Int×Chan×aN)):yO ((Int×aSy×Int×Chan×aN)⊕((Int×Chan×aN)⊕(Int×Chan×aN))):=
 if(ah (s.2.2.1 < 5))=af then
  (idx s.2.1 s.2.2.1).bind λa=>
  (BM F a).bind λb=>
  if(!b)=af then
   ab (.inr (.inl (1,s.2.2.2.1,s.2.2.2.2)))
  else
  ab (.inl (s.1,s.2.1,wi (s.2.2.1+1),s.2.2.2.1,s.2.2.2.2))
 else
 ab (.inr (.inr (s.1,s.2.2.2.1,s.2.2.2.2)))
def Zhy:Lp:=⟨[(1,.am 0 []),(3,.v yI),(5,.v aSt),(6,.v yI)],[.var (.v Z0) af,.var (.v VX) af],[yI,aSt,yI,Z0,VX],[⟨.ret,[(2,.v yI)],[.var (.v Z0) af,.var (.v VX) af],[yI,Z0,VX]⟩,⟨.exit 2,[(1,.am 0 []),(3,.v yI)],[.var (.v Z0) af,.var (.v VX) af],[yI,Z0,VX]⟩],Zb (XI yD) yD⟩
theorem Zn5:Zhy.aT yb 65 1:=Zm { still:=[2,8,14,20,46,56]} [] [ZjQ] ⟨ZrY,ao⟩
def XJ(F:Nat)(s:(Int×Chan)):yO ((Int×Chan)⊕((Int×Chan)⊕Chan)):=
 if(ah (s.1 < 2))=af then
  if(aS s.1 2)=af then
   (s.2.2.2.1[s.1.toNat]?).bind λa=>
   if(aS s.1 2)=af then
    (s.2.2.2.2.1[s.1.toNat]?).bind λb=>
    (Qn F b).bind λc=>
    if(!c)=af then
     ab (.inr (.inl (1,s.2)))
    else
    (Zb (XI F) F (s.1,[a.1,a.2.1,a.2.2.1,a.2.2.2.1,a.2.2.2.2],0,s.2,a)).bind λd=>
    match d with
    |.inl e=>
     ab (.inr (.inl (e.1,e.2.1)))
    |.inr f=>
     ab (.inl (wi (f.1+1),f.2.1))
   else
   ae
  else
  ae
 else
 ab (.inr (.inr s.2))
def Zhz:Lp:=⟨[(1,.am 0 []),(3,.v yI)],[.var (.v Z0) af],[yI,Z0],[⟨.ret,[(2,.v yI)],[.var (.v Z0) af],[yI,Z0]⟩,⟨.exit 0,[(1,.am 0 [])],[.var (.v Z0) af],[Z0]⟩],Zb (XJ yD) yD⟩
theorem Zn6:Zhz.aT yb 65 0:=Zm { still:=[2,8,14,20,46,56]} [(1,Zhy)] [Zgl] ⟨Zpf,ao⟩ ⟨Zn5,ao⟩
def BN(F:Nat)(a0:Chan):yO (Int):=
 (Yj F a0.2.1 1 1125899906842624).bind λa=>
 if(!a)=af then
  ab 1
 else
 (Yj F a0.1.2 0 63).bind λb=>
 if(!b)=af then
  ab 1
 else
 (Yj F a0.2.2.2.2 0 1).bind λc=>
 if(!c)=af then
  ab 1
 else
 (Zb (XJ F) F (0,a0)).bind λd=>
 match d with
 |.inl e=>
  ab e.1
 |.inr f=>
  (f.2.2.2.1[0]?).bind λg=>
  (f.2.2.2.1[1]?).bind λh=>
  let i:Bool:=ah ((wi (g.2.1+h.2.1)) > f.2.1)
  if i=af then
   ab 10
  else
  ab 0
def ZjR:Fs yb:=⟨65,[.v Z0],[],[Z0],(zP yI),λx=>BN yD x⟩
theorem ZrZ:ZjR.Ok:=aF { still:=[2,8,14,20,46,56]} [(0,Zhz)] [RL] ⟨ZjP,ao⟩ ⟨Zn6,ao⟩
def W1(F:Nat)(a0:yU):yO (Bool):=
 ab (ah (a0 < 2305843009213688669))
def RU:Fs yb:=⟨66,[.v .u64],[],[.u64],(zP .bool),λx=>W1 yD x⟩
theorem ZeB:RU.Ok:=aF { still:=[2]} [] [] trivial
def X9(F:Nat)(a0:yU):yO (yU):=
 (Y7 F a0).bind λa=>
 if a=af then
  ab a0
 else
 ab 1
def RV:Fs yb:=⟨237,[.v .u64],[],[.u64],(zP .u64),λx=>X9 yD x⟩
theorem ZeC:RV.Ok:=aF { still:=[2,3]} [] [WK] ⟨VD,ao⟩
def Qo(F:Nat)(a0:yU)(a1:yU):yO (yU):=
 (X9 F a0).bind λa=>
 (Y6 F a (a1 % 2305843009213688669)).bind λb=>
 ab b
def Zgm:Fs yb:=⟨204,[.v .u64,.v .u64],[],[.u64,.u64],(zP .u64),λx=>Qo yD x.1 x.2⟩
theorem Zpk:Zgm.Ok:=aF { still:=[4,5,6,8]} [] [RV,RR] ⟨ZeC,ZeA,ao⟩
def Yd(F:Nat)(a0:yU):yO (yU):=
 (Qo F 4 a0).bind λa=>
 ab a
def RW:Fs yb:=⟨139,[.v .u64],[],[.u64],(zP .u64),λx=>Yd yD x⟩
theorem Zgn:RW.Ok:=aF { still:=[2,3]} [] [Zgm] ⟨Zpk,ao⟩
def V5(F:Nat)(a0:dV):yO (aN):=
 (Yd F a0.1).bind λa=>
 (Yd F a0.2.1).bind λb=>
 (Yd F a0.2.2.1).bind λc=>
 (Yd F a0.2.2.2.1).bind λd=>
 (Yd F a0.2.2.2.2.1).bind λe=>
 ab (a,b,c,d,e)
def ZeD:Fs yb:=⟨67,[.v fN],[],[fN],(zP VX),λx=>V5 yD x⟩
theorem Zn7:ZeD.Ok:=aF { still:=[4,7,10,13,16]} [] [RW] ⟨Zgn,ao⟩
def YS(F:Nat)(s:(aSy×Int×aj)):yO ((aSy×Int×aj)⊕((Bool×aj)⊕aj)):=
 if(ah (s.2.1 < 5))=af then
  (idx s.1 s.2.1).bind λa=>
  (W1 F a).bind λb=>
  if(!b)=af then
   ab (.inr (.inl (ag,s.2.2)))
  else
  ab (.inl (s.1,wi (s.2.1+1),s.2.2))
 else
 ab (.inr (.inr s.2.2))
def ZeE:Lp:=⟨[(1,.am 0 []),(3,.v aSt),(4,.v yI)],[.var (.v Zc) af],[aSt,yI,Zc],[⟨.ret,[(2,.v .bool)],[.var (.v Zc) af],[.bool,Zc]⟩,⟨.exit 0,[(1,.am 0 [])],[.var (.v Zc) af],[Zc]⟩],Zb (YS yD) yD⟩
theorem ZlI:ZeE.aT yb 18 0:=Zm { still:=[2,6,62,66]} [] [RU] ⟨ZeB,ao⟩
def YA(F:Nat)(a0:aj):yO (Bool):=
 (BN F a0.1).bind λa=>
 if(a !=0)=af then
  ab ag
 else
 if(ah (a0.2.2.1 < 0))=af then
  ab ag
 else
 if(ah (a0.2.2.1 > 1))=af then
  ab ag
 else
 if(ah (a0.2.2.2.1 < 0))=af then
  ab ag
 else
 if(ah (a0.2.2.2.1 > 1048576))=af then
  ab ag
 else
 if(ah (a0.2.2.2.2 < 0))=af then
  ab ag
 else
 if(ah (a0.2.2.2.2 > 1048576))=af then
  ab ag
 else
 (Zb (YS F) F ([a0.2.1.1,a0.2.1.2.1,a0.2.1.2.2.1,a0.2.1.2.2.2.1,a0.2.1.2.2.2.2.1],0,a0)).bind λb=>
 match b with
 |.inl c=>
  ab c.1
 |.inr d=>
  (V5 F d.2.1).bind λe=>
  if(aS d.2.2.1 2)=af then
   (d.1.2.2.1[d.2.2.1.toNat]?).bind λf=>
   ab (ah (e=f))
  else
  ae
def XK:Fs yb:=⟨18,[.v Zc],[],[Zc],(zP .bool),λx=>YA yD x⟩
theorem Wl:XK.Ok:=aF { still:=[2,6,62,66]} [(0,ZeE)] [ZjR,ZeD] ⟨ZrZ,Zn7,ao⟩ ⟨ZlI,ao⟩
def Wm(F:Nat)(s:(aSl×aSl×Int×aSl)):yO ((aSl×aSl×Int×aSl)⊕aSl):=
 if(ah (s.2.2.1 < (s.1.length:Int)))=af then
  (idx s.1 s.2.2.1).bind λa=>
  (idx s.2.1 s.2.2.1).bind λb=>
  if(bN s.2.2.2.length 1 1)=af then
   ab (.inl (s.1,s.2.1,wi (s.2.2.1+1),s.2.2.2++([a^^^b]:yL yB)))
  else
  ae
 else
 ab (.inr s.2.2.2)
def Zgo:Lp:=⟨[(0,.v aSm),(1,.v aSm),(5,.own 0 .u8),(6,.v yI)],[.log .u8 5],[aSm,aSm,yI,aSm],[⟨.exit 0,[(5,.own 0 .u8)],[.log .u8 5],[aSm]⟩],Zb (Wm yD) yD⟩
theorem ZmI:Zgo.aT yb 99 0:=Zm { own:=[5,13,24],still:=[4]} [] [] trivial
def BO(F:Nat)(a0:aSl)(a1:aSl):yO (aSl):=
 (Zb (Wm F) F (a0,a1,0,[])).bind λa=>
 ab a
def ZhA:Fs yb:=⟨99,[.v aSm,.v aSm],[],[aSm,aSm],(zP aSm),λx=>BO yD x.1 x.2⟩
theorem ZqQ:ZhA.Ok:=aF { own:=[5,13,24],still:=[4]} [(0,Zgo)] [] trivial ⟨ZmI,ao⟩
def Wn(F:Nat)(s:(yU×Int×aSl)):yO ((yU×Int×aSl)⊕aSl):=
 if(ah (s.2.1 >= 0))=af then
  if(ah (0<=s.2.1))=af then
   let a:yB:=w8 ((ZJ s.1 (min s.2.1.toNat 64)).toNat:Int)
   if(bN s.2.2.length 1 1)=af then
    ab (.inl (s.1,wi (s.2.1 - 8),s.2.2++([a]:yL yB)))
   else
   ae
  else
  ae
 else
 ab (.inr s.2.2)
def Zgp:Lp:=⟨[(0,.v .u64),(3,.own 0 .u8),(4,.v yI)],[.log .u8 5],[.u64,yI,aSm],[⟨.exit 0,[(3,.own 0 .u8)],[.log .u8 5],[aSm]⟩],Zb (Wn yD) yD⟩
theorem ZmJ:Zgp.aT yb 118 0:=Zm { own:=[3,9,15],still:=[2]} [] [] trivial
def WB(F:Nat)(a0:yU):yO (aSl):=
 (Zb (Wn F) F (a0,56,[])).bind λa=>
 ab a
def Qp:Fs yb:=⟨118,[.v .u64],[],[.u64],(zP aSm),λx=>WB yD x⟩
theorem RX:Qp.Ok:=aF { own:=[3,9,15],still:=[2]} [(0,Zgp)] [] trivial ⟨ZmJ,ao⟩
def XL(F:Nat)(s:(aSl×aSl)):yO ((aSl×aSl)⊕(aSl×aSl)):=
 if((Int.tmod (s.2.length:Int) 64)!=56)=af then
  if(bN s.2.length 1 1)=af then
   ab (.inl (s.1,s.2++([0]:yL yB)))
  else
  ae
 else
 ab (.inr (s.1,s.2))
def Zd6:Lp:=⟨[(0,.v aSm),(3,.own 0 .u8)],[.log .u8 5],[aSm,aSm],[⟨.exit 0,[(0,.v aSm),(3,.own 0 .u8)],[.log .u8 5],[aSm,aSm]⟩],Zb (XL yD) yD⟩
def RY:HI:={ own:=[3,6,8,9,11,16,18,27,33],still:=[2]}
theorem Zkn:Zd6.aT yb 226 0:=Zm RY [] [] trivial
def XM(F:Nat)(s:(yU×Int×aSl)):yO ((yU×Int×aSl)⊕aSl):=
 if(ah (s.2.1 >= 0))=af then
  if(ah (0<=s.2.1))=af then
   let a:yB:=w8 ((ZJ s.1 (min s.2.1.toNat 64)).toNat:Int)
   if(bN s.2.2.length 1 1)=af then
    ab (.inl (s.1,wi (s.2.1 - 8),s.2.2++([a]:yL yB)))
   else
   ae
  else
  ae
 else
 ab (.inr s.2.2)
def Zd7:Lp:=⟨[(3,.own 0 .u8),(4,.v .u64),(5,.v yI)],[.log .u8 5],[.u64,yI,aSm],[⟨.exit 2,[(3,.own 0 .u8)],[.log .u8 5],[aSm]⟩],Zb (XM yD) yD⟩
theorem Zko:Zd7.aT yb 226 1:=Zm RY [] [] trivial
def V6(F:Nat)(a0:aSl):yO (aSl):=
 if(bN 0 a0.length 1)=af then
  if(bN a0.length 1 1)=af then
   (Zb (XL F) F (a0,a0++([128]:yL yB))).bind λa=>
   (Zb (XM F) F (8*(cD (a.1.length:Int)),56,a.2)).bind λb=>
   ab b
  else
  ae
 else
 ae
def ZeF:Fs yb:=⟨226,[.v aSm],[],[aSm],(zP aSm),λx=>V6 yD x⟩
theorem Zn8:ZeF.Ok:=aF RY [(0,Zd6),(1,Zd7)] [] trivial ⟨Zkn,Zko,ao⟩
def RZ(F:Nat):yO (aSr):=
 ab [1779033703,3144134277,1013904242,2773480762,1359893119,2600822924,528734635,1541459225]
def ZeG:Fs yb:=⟨227,[],[],[],(zP (.sl .u32)),λx=>RZ yD⟩
theorem Zn9:ZeG.Ok:=aF { still:=[0]} [] [] trivial
def ZM(F:Nat)(a0:yV)(a1:Int):yO (yV):=
 if(ah (0<=a1))=af then
  if(ah (0<=wi (32 - a1)))=af then
   let a:yV:=(gx a0 (min a1.toNat 32))|||(fB a0 (min (wi (32 - a1)).toNat 32))
   ab a
  else
  ae
 else
 ae
def SA:Fs yb:=⟨252,[.v .u32,.v yI],[],[.u32,yI],(zP .u32),λx=>ZM yD x.1 x.2⟩
theorem Zgq:SA.Ok:=aF { still:=[4]} [] [] trivial
def X1(F:Nat)(s:(aSl×Int×aSr)):yO ((aSl×Int×aSr)⊕aSr):=
 if(ah (s.2.1 < 16))=af then
  (idx s.1 (wi (4*s.2.1))).bind λa=>
  (idx s.1 (wi ((wi (4*s.2.1))+1))).bind λb=>
  let c:yV:=(fB (ybq a.toNat) 24)|||(fB (ybq b.toNat) 16)
  (idx s.1 (wi ((wi (4*s.2.1))+2))).bind λd=>
  (idx s.1 (wi ((wi (4*s.2.1))+3))).bind λe=>
  let f:yV:=(c|||(fB (ybq d.toNat) 8))|||(ybq e.toNat)
  if(bN s.2.2.length 1 4)=af then
   ab (.inl (s.1,wi (s.2.1+1),s.2.2++([f]:yL yV)))
  else
  ae
 else
 ab (.inr s.2.2)
def ZeH:Lp:=⟨[(0,.v aSm),(3,.own 0 .u32),(4,.v yI)],[.log .u32 301],[aSm,yI,(.sl .u32)],[⟨.exit 0,[(3,.own 0 .u32)],[.log .u32 301],[(.sl .u32)]⟩],Zb (X1 yD) yD⟩
def SB:HI:={ own:=[3,14,49,80,97],still:=[2,64,66,72,74]}
theorem ZlJ:ZeH.aT yb 250 0:=Zm SB [] [] trivial
def X2(F:Nat)(s:(Int×aSr)):yO ((Int×aSr)⊕aSr):=
 if(ah (s.1 < 64))=af then
  (idx s.2 (wi (s.1 - 15))).bind λa=>
  (idx s.2 (wi (s.1 - 2))).bind λb=>
  (ZM F a 7).bind λc=>
  (ZM F a 18).bind λd=>
  (ZM F b 17).bind λe=>
  (ZM F b 19).bind λf=>
  (idx s.2 (wi (s.1 - 16))).bind λg=>
  (idx s.2 (wi (s.1 - 7))).bind λh=>
  let i:yV:=(g+((c^^^d)^^^(gx a 3)))+h
  if(bN s.2.length 1 4)=af then
   let j:aSr:=s.2++([i+((e^^^f)^^^(gx b 10))]:yL yV)
   ab (.inl (wi (s.1+1),j))
  else
  ae
 else
 ab (.inr s.2)
def ZeI:Lp:=⟨[(3,.own 0 .u32),(5,.v yI)],[.log .u32 301],[yI,(.sl .u32)],[⟨.exit 2,[(3,.own 0 .u32)],[.log .u32 301],[(.sl .u32)]⟩],Zb (X2 yD) yD⟩
theorem ZlK:ZeI.aT yb 250 1:=Zm SB [] [SA] ⟨Zgq,ao⟩
def Qq(F:Nat)(a0:aSl):yO (aSr):=
 (Zb (X1 F) F (a0,0,[])).bind λa=>
 (Zb (X2 F) F (16,a)).bind λb=>
 ab b
def Zgr:Fs yb:=⟨250,[.v aSm],[],[aSm],(zP (.sl .u32)),λx=>Qq yD x⟩
theorem Zpl:Zgr.Ok:=aF SB [(0,ZeH),(1,ZeI)] [] trivial ⟨ZlJ,ZlK,ao⟩
def SC(F:Nat):yO (aSr):=
 ab [1116352408,1899447441,3049323471,3921009573,961987163,1508970993,2453635748,2870763221,3624381080,310598401,607225278,1426881987,1925078388,2162078206,2614888103,3248222580,3835390401,4022224774,264347078,604807628,770255983,1249150122,1555081692,1996064986,2554220882,2821834349,2952996808,3210313671,3336571891,3584528711,113926993,338241895,666307205,773529912,1294757372,1396182291,1695183700,1986661051,2177026350,2456956037,2730485921,2820302411,3259730800,3345764771,3516065817,3600352804,4094571909,275423344,430227734,506948616,659060556,883997877,958139571,1322822218,1537002063,1747873779,1955562222,2024104815,2227730452,2361852424,2428436474,2756734187,3204031479,3329325298]
def ZhB:Fs yb:=⟨251,[],[],[],(zP (.sl .u32)),λx=>SC yD⟩
theorem ZqR:ZhB.Ok:=aF { still:=[0]} [] [] trivial
def X3(F:Nat)(s:(aSr×aSr×aSr×Int×aSp×aSr)):yO ((aSr×aSr×aSr×Int×aSp×aSr)⊕(aSr×aSp×aSr)):=
 if(ah (s.2.2.2.1 < 64))=af then
  if(aS 4 s.2.2.2.2.2.length)=af then
   (s.2.2.2.2.2[4]?).bind λa=>
   (ZM F a 6).bind λb=>
   if(aS 4 s.2.2.2.2.2.length)=af then
    (s.2.2.2.2.2[4]?).bind λc=>
    (ZM F c 11).bind λd=>
    if(aS 4 s.2.2.2.2.2.length)=af then
     (s.2.2.2.2.2[4]?).bind λe=>
     (ZM F e 25).bind λf=>
     if(aS 4 s.2.2.2.2.2.length)=af then
      (s.2.2.2.2.2[4]?).bind λg=>
      if(aS 5 s.2.2.2.2.2.length)=af then
       (s.2.2.2.2.2[5]?).bind λh=>
       if(aS 4 s.2.2.2.2.2.length)=af then
        (s.2.2.2.2.2[4]?).bind λi=>
        if(aS 6 s.2.2.2.2.2.length)=af then
         (s.2.2.2.2.2[6]?).bind λj=>
         let k:yV:=(g&&&h)^^^((4294967295^^^i)&&&j)
         if(aS 7 s.2.2.2.2.2.length)=af then
          (s.2.2.2.2.2[7]?).bind λl=>
          (idx s.2.2.1 s.2.2.2.1).bind λm=>
          let n:yV:=((l+((b^^^d)^^^f))+k)+m
          (idx s.2.1 s.2.2.2.1).bind λo=>
          if(aS 0 s.2.2.2.2.2.length)=af then
           (s.2.2.2.2.2[0]?).bind λp=>
           (ZM F p 2).bind λq=>
           if(aS 0 s.2.2.2.2.2.length)=af then
            (s.2.2.2.2.2[0]?).bind λr=>
            (ZM F r 13).bind λt=>
            if(aS 0 s.2.2.2.2.2.length)=af then
             (s.2.2.2.2.2[0]?).bind λu=>
             (ZM F u 22).bind λv=>
             if(aS 0 s.2.2.2.2.2.length)=af then
              (s.2.2.2.2.2[0]?).bind λw=>
              if(aS 1 s.2.2.2.2.2.length)=af then
               (s.2.2.2.2.2[1]?).bind λx=>
               if(aS 0 s.2.2.2.2.2.length)=af then
                (s.2.2.2.2.2[0]?).bind λy=>
                if(aS 2 s.2.2.2.2.2.length)=af then
                 (s.2.2.2.2.2[2]?).bind λz=>
                 if(aS 1 s.2.2.2.2.2.length)=af then
                  (s.2.2.2.2.2[1]?).bind λA=>
                  if(aS 2 s.2.2.2.2.2.length)=af then
                   (s.2.2.2.2.2[2]?).bind λB=>
                   let C:yV:=((w&&&x)^^^(y&&&z))^^^(A&&&B);let D:yV:=((n+o)+((q^^^t)^^^v))+C
                   if(aS 0 s.2.2.2.2.2.length)=af then
                    (s.2.2.2.2.2[0]?).bind λE=>
                    if(aS 1 s.2.2.2.2.2.length)=af then
                     (s.2.2.2.2.2[1]?).bind λG=>
                     if(aS 2 s.2.2.2.2.2.length)=af then
                      (s.2.2.2.2.2[2]?).bind λH=>
                      if(aS 3 s.2.2.2.2.2.length)=af then
                       (s.2.2.2.2.2[3]?).bind λI=>
                       if(aS 4 s.2.2.2.2.2.length)=af then
                        (s.2.2.2.2.2[4]?).bind λJ=>
                        if(aS 5 s.2.2.2.2.2.length)=af then
                         (s.2.2.2.2.2[5]?).bind λK=>
                         if(aS 6 s.2.2.2.2.2.length)=af then
                          (s.2.2.2.2.2[6]?).bind λL=>
                          ab (.inl (s.1,s.2.1,s.2.2.1,wi (s.2.2.2.1+1),()::s.2.2.2.2.1,[D,E,G,H,I+(n+o),J,K,L]))
                         else
                         ae
                        else
                        ae
                       else
                       ae
                      else
                      ae
                     else
                     ae
                    else
                    ae
                   else
                   ae
                  else
                  ae
                 else
                 ae
                else
                ae
               else
               ae
              else
              ae
             else
             ae
            else
            ae
           else
           ae
          else
          ae
         else
         ae
        else
        ae
       else
       ae
      else
      ae
     else
     ae
    else
    ae
   else
   ae
  else
  ae
 else
 ab (.inr (s.1,s.2.2.2.2.1,s.2.2.2.2.2))
def ZeJ:Lp:=⟨[(0,.v (.sl .u32)),(5,.v (.sl .u32)),(6,.v (.sl .u32)),(7,.rw 0),(8,.v yI)],[.row .u32 af 301],[(.sl .u32),(.sl .u32),(.sl .u32),yI,aSo,(.sl .u32)],[⟨.exit 0,[(0,.v (.sl .u32)),(7,.rw 0)],[.row .u32 af 301],[(.sl .u32),aSo,(.sl .u32)]⟩],Zb (X3 yD) yD⟩
def SD:HI:={ own:=[18,20],still:=[4,15,27,31,36,74,78,83],bM:=[7,18,20,137,142],rew:=[(137,7)]}
theorem ZlL:ZeJ.aT yb 228 0:=Zm SD [] [SA] ⟨Zgq,ao⟩
def X4(F:Nat)(s:(aSr×Int×aSp×aSr)):yO ((aSr×Int×aSp×aSr)⊕(aSp×aSr)):=
 if(ah (s.2.1 < 8))=af then
  if(aS s.2.1 s.2.2.2.length)=af then
   (s.2.2.2[s.2.1.toNat]?).bind λa=>
   (idx s.1 s.2.1).bind λb=>
   if(aS s.2.1 s.2.2.2.length)=af then
    (s.2.2.2[s.2.1.toNat]?).bind λc=>
    ab (.inl (s.1,wi (s.2.1+1),s.2.2.1,s.2.2.2.set s.2.1.toNat (a+b)))
   else
   ae
  else
  ae
 else
 ab (.inr (s.2.2.1,s.2.2.2))
def ZeK:Lp:=⟨[(0,.v (.sl .u32)),(7,.rw 0),(14,.v yI)],[.row .u32 af 301],[(.sl .u32),yI,aSo,(.sl .u32)],[⟨.exit 2,[(7,.rw 0)],[.row .u32 af 301],[aSo,(.sl .u32)]⟩],Zb (X4 yD) yD⟩
theorem ZlM:ZeK.aT yb 228 1:=Zm SD [] [] trivial
def Qr(F:Nat)(a0:aSr)(a1:aSl):yO (aSr):=
 (Qq F a1).bind λa=>
 (SC F).bind λb=>
 if(bN 0 a0.length 4)=af then
  (Zb (X3 F) F (a0,a,b,0,[()],a0)).bind λc=>
  (Zb (X4 F) F (c.1,0,c.2.1,c.2.2)).bind λd=>
  ab d.2
 else
 ae
def Zgs:Fs yb:=⟨228,[.v (.sl .u32),.v aSm],[],[(.sl .u32),aSm],(zP (.sl .u32)),λx=>Qr yD x.1 x.2⟩
theorem Zpm:Zgs.Ok:=aF SD [(0,ZeJ),(1,ZeK)] [Zgr,ZhB] ⟨Zpl,ZqR,ao⟩ ⟨ZlL,ZlM,ao⟩
def Wo(F:Nat)(s:(aSl×aSr×Int×aSl)):yO ((aSl×aSr×Int×aSl)⊕(aSr×aSl)):=
 if(ah (s.2.2.1 < (s.1.length:Int)))=af then
  if(Q0 s.1.length (ab s.2.2.1) (ab (wi (s.2.2.1+64))))=af then
   let a:aSl:=(s.1.take ((wi (s.2.2.1+64)).toNat)).drop s.2.2.1.toNat
   (Qr F s.2.1 a).bind λb=>
   ab (.inl (s.1,b,wi (s.2.2.1+64),s.2.2.2))
  else
  ae
 else
 ab (.inr (s.2.1,s.2.2.2))
def Zgt:Lp:=⟨[(2,.am 0 []),(3,.v aSm),(4,.v (.sl .u32)),(5,.v yI)],[.var (.v aSn) af],[aSm,(.sl .u32),yI,aSn],[⟨.exit 0,[(2,.am 0 []),(4,.v (.sl .u32))],[.var (.v aSn) af],[(.sl .u32),aSn]⟩],Zb (Wo yD) yD⟩
theorem ZmK:Zgt.aT yb 178 0:=Zm { still:=[8,17,22]} [] [Zgs] ⟨Zpm,ao⟩
def Wp(F:Nat)(s:(aSr×Int×aSl×aSl)):yO ((aSr×Int×aSl×aSl)⊕(aSl×aSl)):=
 if(ah (s.2.1 < 32))=af then
  (idx s.1 (wi (Int.tdiv s.2.1 4))).bind λa=>
  if(ah (0<=wi (24 - (wi (8*(Int.tmod s.2.1 4))))))=af then
   let b:yV:=gx a (min (wi (24 - (wi (8*(Int.tmod s.2.1 4))))).toNat 32)
   if(aS s.2.1 32)=af then
    (s.2.2.2[s.2.1.toNat]?).bind λc=>
    ab (.inl (s.1,wi (s.2.1+1),s.2.2.1,s.2.2.2.set s.2.1.toNat (w8 (b.toNat:Int))))
   else
   ae
  else
  ae
 else
 ab (.inr (s.2.2.1,s.2.2.2))
def Zgu:Lp:=⟨[(2,.am 0 []),(4,.v (.sl .u32)),(6,.am 1 []),(7,.v yI)],qX,[(.sl .u32),yI,aSn,aSn],[⟨.exit 2,[(2,.am 0 []),(6,.am 1 [])],qX,[aSn,aSn]⟩],Zb (Wp yD) yD⟩
theorem ZmL:Zgu.aT yb 178 1:=Zm { still:=[8,17,22]} [] [] trivial
def Vw(F:Nat)(a0:aSl):yO (aSl):=
 (V6 F a0).bind λa=>
 (RZ F).bind λb=>
 (Zb (Wo F) F (a,b,0,ct)).bind λc=>
 (Zb (Wp F) F (c.1,0,c.2,ct)).bind λd=>
 ab d.2
def SE(F:Nat):Fs yb:=⟨178,[.v aSm],[],[aSm],(zP aSn),λx=>Vw F x⟩
def Zr0:Fs yb:=SE yD
theorem ZqS:Zr0.Ok:=aF { still:=[8,17,22]} [(0,Zgt),(1,Zgu)] [ZeF,ZeG] ⟨Zn8,Zn9,ao⟩ ⟨ZmK,ZmL,ao⟩
end
end Go.Proofs.YtekdgjajmennjaaGreat
end
section
set_option maxRecDepth 4000
namespace Go.Ev
theorem ZKF{I X:Type}{step:I->yO (I⊕X)}{st:Nat->I}{x:X}(n:Nat)(hs:∀k,k < n->step (st k)=ab (.inl (st (k+1))))(he:step (st n)=ab (.inr x)):∀(d k f:Nat),k+d=n->d < f->Zb step f (st k)=ab x
 |0,k,f+1,h,_=>by
  have e:k=n:=by omega
  subst e;unfold Zb
  rw[he,ya]
 |d+1,k,f+1,h,hf=>by
  unfold Zb;rw[hs k (by omega),ya];exact ZKF n hs he d (k+1) f (by omega) (by omega)
theorem Zu{I X:Type}{step:I->yO (I⊕X)}(n:Nat)(st:Nat->I){x:X}(hs:∀k,k < n->step (st k)=ab (.inl (st (k+1))))(he:step (st n)=ab (.inr x))(hn:n < 18446744073709551616):
 Zb step yD (st 0)=ab x:=ZKF n hs he n 0 yD (by omega) (by rw[lr];exact hn)
theorem ZHe{I X:Type}{step:I->yO (I⊕X)}{Post:X->Prop}(n:Nat)(S:Nat->I->Prop)(hs:∀k s,k < n->S k s->(∃t,step s=ab (.inl t)/\S (k+1) t)\/∃x,step s=ab (.inr x)/\Post x)
 (he:∀s,S n s->∃x,step s=ab (.inr x)/\Post x):∀(d k f:Nat)(s:I),k+d=n->d < f->S k s->∃x,Zb step f s=ab x/\Post x
 |0,k,f+1,s,h,_,hS=>by
  have e:k=n:=by omega
  subst e;obtain⟨x,h1,h2⟩:=he s hS;unfold Zb;rw[h1,ya]
  exact⟨x,rfl,h2⟩
 |d+1,k,f+1,s,h,hf,hS=>by
  unfold Zb;rcases hs k s (by omega) hS with⟨t,h1,h2⟩|⟨x,h1,h2⟩
  .rw[h1,ya];exact ZHe n S hs he d (k+1) f t (by omega) (by omega) h2
  .rw[h1,ya];exact⟨x,rfl,h2⟩
theorem Yn{I X:Type}{step:I->yO (I⊕X)}(n:Nat)(S:Nat->I->Prop)(Post:X->Prop){i:I}(h0:S 0 i)(hn:n < 18446744073709551616)
 (hs:∀k s,k < n->S k s->(∃t,step s=ab (.inl t)/\S (k+1) t)\/∃x,step s=ab (.inr x)/\Post x)
 (he:∀s,S n s->∃x,step s=ab (.inr x)/\Post x):∃x,Zb step yD i=ab x/\Post x:=ZHe n S hs he n 0 yD i (by omega) (by rw[lr];exact hn) h0
theorem ZE{a b:Nat}(h:a < b):ah ((a:Int) < (b:Int))=af:=yY (by omega)
theorem ZA{a:Nat}:ah ((a:Int) < (a:Int))=ag:=yZ (by omega)
theorem Zn{k:Nat}(h:k < 9223372036854775807):wi ((k:Int)+1)=((k+1:Nat):Int):=by
 rw[ZT (by omega) (by omega)];omega
theorem Zj{α:Type}{l:yL α}{k:Nat}{y:α}(h:l[k]? =ab y):idx l (k:Int)=ab y:=pM (by omega) (by simpa using h)
theorem ZDa{α:Type}{ls:yL (yL α)}{k:Nat}{e:yL α}(h:ls[k]? =ab e):(ls.take (k+1)).flatten=(ls.take k).flatten++e:=by
 rw[List.take_add_one,h];simp
theorem ZKG{α:Type}(ls:yL (yL α))(k:Nat):(ls.take k).flatten.length<=ls.flatten.length:=by
 have h:=congrArg (λl=>(List.flatten l).length) (ybd k ls);simp only[List.flatten_append,yl]at h;omega
theorem XU{α:Type}{l:yL α}{k:Nat}{e:α}(h:l[k]? =ab e):l.take (k+1)=l.take k++[e]:=by
 rw[List.take_add_one,h];rfl
theorem Zf{α:Type}{l:yL α}{k:Nat}(h:k < l.length):∃e,l[k]? =ab e/\e∈l:=⟨l[k],yac h,List.getElem_mem h⟩
end Go.Ev
end
section
set_option maxRecDepth 4000
namespace Go.Proofs.YtekdgjajmennjaaGreat
open Go Go.Ev Go.Sha
theorem ku(x:yV)(n k:Nat)(h:n+k=32)(hn:0 < n){z:Int}(hz:z=(n:Int)):∃o,ZM yD x z=ab o/\o.toNat=lo (Nat.shiftRight (ew x.toNat) n):=by
 subst hz;unfold ZM;rw[ZT (z:=32 - (n:Int)) (by omega) (by omega),yW (yY (by omega)),yW (yY (by omega))];refine⟨_,rfl, ?_⟩;have e1:min ((n:Int)).toNat 32=n:=by omega
 have e2:min (32 - (n:Int)).toNat 32=k:=by omega
 rw[e1,e2,UInt32.or_comm];exact ZRM x h hn
theorem ZTm(a b c d:yB):((((fB (ybq a.toNat) 24)|||(fB (ybq b.toNat) 16))|||(fB (ybq c.toNat) 8))|||(ybq d.toNat)).toNat=((a.toNat*256+b.toNat)*256+c.toNat)*256+d.toNat:=by
 have h1:=a.toNat_lt;have h2:=b.toNat_lt;have h3:=c.toNat_lt;have h4:=d.toNat_lt
 have hs:∀(x:yB)(n:Nat),n<=24->(fB (ybq x.toNat) n).toNat=x.toNat*2 ^ n:=by
  intro x n hn;have hx:=x.toNat_lt;unfold fB;rw[ycq,ycq,yaf (a:=x.toNat) (by omega)];refine yaf ?_
  calc x.toNat*2 ^ n < 2 ^ 8*2 ^ n:=Nat.mul_lt_mul_of_pos_right hx (Nat.two_pow_pos n)
   _=2 ^ (8+n):=(Nat.pow_add ..).symm
   _<=2 ^ 32:=Nat.pow_le_pow_right (by omega) (by omega)
 rw[lx,lx,lx,hs _ _ (by omega),hs _ _ (by omega),hs _ _ (by omega),ycq,yaf (a:=d.toNat) (by omega)]
 have k1:Nat.lor (a.toNat*2 ^ 24) (b.toNat*2 ^ 16)=2 ^ 16*(a.toNat*256+b.toNat):=by
  rw[ybi a.toNat,show Nat.lor (2 ^ 24*a.toNat) (b.toNat*2 ^ 16)=2 ^ 24*a.toNat|||b.toNat*2 ^ 16 from rfl, <-ycw (by omega)]
  omega
 have k2:Nat.lor (2 ^ 16*(a.toNat*256+b.toNat)) (c.toNat*2 ^ 8)=2 ^ 8*((a.toNat*256+b.toNat)*256+c.toNat):=by
  rw[show Nat.lor (2 ^ 16*(a.toNat*256+b.toNat)) (c.toNat*2 ^ 8)=2 ^ 16*(a.toNat*256+b.toNat)|||c.toNat*2 ^ 8 from rfl, <-ycw (by omega)]
  omega
 rw[k1,k2,show Nat.lor (2 ^ 8*((a.toNat*256+b.toNat)*256+c.toNat)) d.toNat=2 ^ 8*((a.toNat*256+b.toNat)*256+c.toNat)|||d.toNat from rfl, <-ycw (by omega)]
 omega
theorem ZUE(e f g:yV):((e&&&f)^^^((4294967295^^^e)&&&g)).toNat=ch e.toNat f.toNat g.toNat:=by
 rw[<-ZUf];congr 1;apply UInt32.toBitVec_inj.1;apply BitVec.eq_of_getLsbD_eq;intro i hi
 have h1:(4294967295:yV).toBitVec.getLsbD i=af:=by
  rw[show(4294967295:yV).toBitVec=BitVec.allOnes 32 from rfl,BitVec.getLsbD_allOnes]
  exact yY hi
 simp only[UInt32.toBitVec_xor,UInt32.toBitVec_and,BitVec.getLsbD_xor,BitVec.getLsbD_and,h1];cases e.toBitVec.getLsbD i <;> cases f.toBitVec.getLsbD i <;> cases g.toBitVec.getLsbD i <;> rfl
theorem ZUF(a b c:yV):(((a&&&b)^^^(a&&&c))^^^(b&&&c)).toNat=mj a.toNat b.toNat c.toNat:=by
 rw[<-ZUg];congr 1;apply UInt32.toBitVec_inj.1;apply BitVec.eq_of_getLsbD_eq;intro i hi;simp only[UInt32.toBitVec_xor,UInt32.toBitVec_and,UInt32.toBitVec_or,BitVec.getLsbD_xor,BitVec.getLsbD_and,BitVec.getLsbD_or];cases a.toBitVec.getLsbD i <;> cases b.toBitVec.getLsbD i <;> cases c.toBitVec.getLsbD i <;> rfl
theorem ZOQ{l:yL yB}(h:l.length=64):∃o,Qq yD l=ab o/\o.length=64/\∀(i:Nat)x,o[i]? =ab x->x.toNat=wd (Yk (l.map yaj)) i:=by
 unfold Qq
 have hset:∀(w:yL yV)(y:yV),y.toNat=wd (Yk (l.map yaj)) w.length->(∀(j:Nat)x,w[j]? =ab x->x.toNat=wd (Yk (l.map yaj)) j)->∀(j:Nat)x,(w++[y])[j]? =ab x->x.toNat=wd (Yk (l.map yaj)) j:=by
  intro w y hy hw j x hx;by_cases hj:j < w.length
  .rw[List.getElem?_append_left hj]at hx;exact hw j x hx
  .rw[yaq (by omega)]at hx
   have:j=w.length:=by
    have:=(yo.1 hx).1;simp at this;omega
   subst this;rw[Nat.sub_self]at hx;cases hx;exact hy
 obtain⟨w0,g1,g2,g3⟩:=Yn (step:=X1 yD) 16 (λk s=>∃w,s=(l,(k:Int),w)/\w.length=k/\∀(j:Nat)x,w[j]? =ab x->x.toNat=wd (Yk (l.map yaj)) j) (λw=>w.length=16/\∀(j:Nat)x,w[j]? =ab x->x.toNat=wd (Yk (l.map yaj)) j) (i:=(l,(0:Int),([]:yL yV))) ⟨_,rfl,rfl,λj x hx=>by simp at hx⟩ (by omega) (by
  rintro k _ hk ⟨w,rfl,hw,hv⟩;left;obtain⟨x0,q0,_⟩:=Zf (l:=l) (k:=4*k) (by omega);obtain⟨x1,q1,_⟩:=Zf (l:=l) (k:=4*k+1) (by omega);obtain⟨x2,q2,_⟩:=Zf (l:=l) (k:=4*k+2) (by omega);obtain⟨x3,q3,_⟩:=Zf (l:=l) (k:=4*k+3) (by omega);unfold X1;dsimp only;rw[ZT (z:=4*(k:Int)) (by omega) (by omega),ZT (z:=4*(k:Int)+1) (by omega) (by omega),ZT (z:=4*(k:Int)+2) (by omega) (by omega),ZT (z:=4*(k:Int)+3) (by omega) (by omega)]
  rw[yW (yY (by omega)),show 4*(k:Int)=((4*k:Nat):Int) by omega,show((4*k:Nat):Int)+1=((4*k+1:Nat):Int) by omega,show((4*k:Nat):Int)+2=((4*k+2:Nat):Int) by omega,show((4*k:Nat):Int)+3=((4*k+3:Nat):Int) by omega,
   Zj q0,ya,Zj q1,ya,Zj q2,ya,Zj q3,ya,yW (ZL (by omega) (by omega)),Zn (by omega)]
  refine⟨_,rfl,_,rfl,by rw[yl,List.length_singleton];omega,hset w _ ?_ hv⟩;have mg:∀(k:Nat)(x:yB),l[k]? =ab x->(l.map yaj)[k]? =ab x.toNat:=λk x hx=>by rw[yak,hx];rfl
  have hwg:=MY k (l.map yaj) _ _ _ _ (mg _ _ q0) (mg _ _ q1) (mg _ _ q2) (mg _ _ q3);rw[ZTm,hw];have b0:=x0.toNat_lt;have b1:=x1.toNat_lt;have b2:=x2.toNat_lt;have b3:=x3.toNat_lt;exact(ZG1 _ (by omega) hwg (by omega)).symm) (by
  rintro _ ⟨w,rfl,hw,hv⟩;unfold X1;dsimp only;rw[yX (cE (by omega))];exact⟨_,rfl,hw,hv⟩)
 rw[g1,ya]
 obtain⟨w1,k1,k2,k3⟩:=Yn (step:=X2 yD) 48 (λk s=>∃w,s=(((16+k:Nat):Int),w)/\w.length=16+k/\∀(j:Nat)x,w[j]? =ab x->x.toNat=wd (Yk (l.map yaj)) j) (λw=>w.length=64/\∀(j:Nat)x,w[j]? =ab x->x.toNat=wd (Yk (l.map yaj)) j) (i:=((16:Int),w0)) ⟨_,rfl,g2,g3⟩ (by omega) (by
  rintro k _ hk ⟨w,rfl,hw,hv⟩;left;obtain⟨e1,he1,_⟩:=Zf (l:=w) (k:=k+1) (by omega);obtain⟨e2,he2,_⟩:=Zf (l:=w) (k:=k+14) (by omega);obtain⟨e3,he3,_⟩:=Zf (l:=w) (k:=k) (by omega);obtain⟨e4,he4,_⟩:=Zf (l:=w) (k:=k+9) (by omega);obtain⟨o1,ho1,p1⟩:=ku e1 7 25 rfl (by omega) (z:=7) rfl;obtain⟨o2,ho2,p2⟩:=ku e1 18 14 rfl (by omega) (z:=18) rfl;obtain⟨o3,ho3,p3⟩:=ku e2 17 15 rfl (by omega) (z:=17) rfl;obtain⟨o4,ho4,p4⟩:=ku e2 19 13 rfl (by omega) (z:=19) rfl;unfold X2;dsimp only;rw[yW (yY (by omega)),ZT (z:=((16+k:Nat):Int) - 15) (by omega) (by omega),ZT (z:=((16+k:Nat):Int) - 2) (by omega) (by omega),ZT (z:=((16+k:Nat):Int) - 16) (by omega) (by omega),ZT (z:=((16+k:Nat):Int) - 7) (by omega) (by omega)];rw[show((16+k:Nat):Int) - 15=((k+1:Nat):Int) by omega,show((16+k:Nat):Int) - 2=((k+14:Nat):Int) by omega,show((16+k:Nat):Int) - 16=(k:Int) by omega,show((16+k:Nat):Int) - 7=((k+9:Nat):Int) by omega]
  rw[Zj he1,ya,Zj he2,ya,ho1,ya,ho2,ya,ho3,ya,ho4,ya,Zj he3,ya,Zj he4,ya,
   yW (ZL (by omega) (by omega)),Zn (by omega)]
  refine⟨_,rfl,_,rfl,by rw[yl,List.length_singleton];omega,hset w _ ?_ hv⟩;have hn:=MV (Yk (l.map yaj)) k;rw[<-hv _ _ he1, <-hv _ _ he2, <-hv _ _ he3, <-hv _ _ he4]at hn;rw[hw,Nat.add_comm 16 k,hn,fl,fl,fl,ZUb e1 p1 p2,ZUc e2 p3 p4];exact ZUh ..) (by
  rintro _ ⟨w,rfl,hw,hv⟩;unfold X2;dsimp only;rw[yX (cE (by omega))];exact⟨_,rfl,hw,hv⟩)
 rw[k1,ya];exact⟨_,rfl,k2,k3⟩
theorem ZOR{st:yL yV}{l:yL yB}(hs:st.length=8)(h:l.length=64):∃o,Qr yD st l=ab o/\o.map yal=fI (st.map yal) (Yk (l.map yaj)):=by
 unfold Qr;obtain⟨w,hw,hwl,hwv⟩:=ZOQ h;obtain⟨k,hk,hkv⟩:∃k,SC yD=ab k/\k.map yal=ks:=⟨_,rfl,rfl⟩;have hkl:k.length=64:=by rw[<-yab (f:=yal),hkv];rfl
 generalize hws:Yk (l.map yaj)=ws at hwv;rw[hw,ya,hk,ya,yW (ZL (by omega) (by omega))]
 obtain⟨x,g1,u,v,rfl,g2,g3⟩:=Yn (step:=X3 yD) 64 (λi s=>∃u v,s=(st,w,k,(i:Int),u,v)/\v.length=8/\v.map yal=rs ws (st.map yal) i) (λx=>∃u v,x=(st,u,v)/\v.length=8/\v.map yal=rs ws (st.map yal) 64) (i:=(st,w,k,(0:Int),([()]:yL Unit),st)) ⟨_,_,rfl,hs,rfl⟩ (by omega) (by
  rintro i _ hi ⟨u,v,rfl,he,hv⟩;left
  match v,he,hv with
  |[x0,x1,x2,x3,x4,x5,x6,x7],_,hv=>
   obtain⟨e1,he1,_⟩:=Zf (l:=k) (k:=i) (by omega);obtain⟨e2,he2,_⟩:=Zf (l:=w) (k:=i) (by omega);obtain⟨o1,ho1,p1⟩:=ku x4 6 26 rfl (by omega) (z:=6) rfl;obtain⟨o2,ho2,p2⟩:=ku x4 11 21 rfl (by omega) (z:=11) rfl;obtain⟨o3,ho3,p3⟩:=ku x4 25 7 rfl (by omega) (z:=25) rfl;obtain⟨o4,ho4,p4⟩:=ku x0 2 30 rfl (by omega) (z:=2) rfl;obtain⟨o5,ho5,p5⟩:=ku x0 13 19 rfl (by omega) (z:=13) rfl;obtain⟨o6,ho6,p6⟩:=ku x0 22 10 rfl (by omega) (z:=22) rfl;have hb:∀n:Nat,n < 8->aS (n:Int) ([x0,x1,x2,x3,x4,x5,x6,x7]:yL yV).length=af:=λn hn=>ZV (by omega) (by simp;omega);have b0:=hb 0 (by omega);have b1:=hb 1 (by omega);have b2:=hb 2 (by omega);have b3:=hb 3 (by omega);have b4:=hb 4 (by omega);have b5:=hb 5 (by omega);have b6:=hb 6 (by omega);have b7:=hb 7 (by omega);unfold X3;dsimp only;generalize ZM yD=R at ho1 ho2 ho3 ho4 ho5 ho6 ⊢;rw[yW (yY (by omega))];have c0:aS 0 ([x0,x1,x2,x3,x4,x5,x6,x7]:yL yV).length=af:=b0;have c1:aS 1 ([x0,x1,x2,x3,x4,x5,x6,x7]:yL yV).length=af:=b1;have c2:aS 2 ([x0,x1,x2,x3,x4,x5,x6,x7]:yL yV).length=af:=b2;have c3:aS 3 ([x0,x1,x2,x3,x4,x5,x6,x7]:yL yV).length=af:=b3;have c4:aS 4 ([x0,x1,x2,x3,x4,x5,x6,x7]:yL yV).length=af:=b4;have c5:aS 5 ([x0,x1,x2,x3,x4,x5,x6,x7]:yL yV).length=af:=b5;have c6:aS 6 ([x0,x1,x2,x3,x4,x5,x6,x7]:yL yV).length=af:=b6;have c7:aS 7 ([x0,x1,x2,x3,x4,x5,x6,x7]:yL yV).length=af:=b7;simp only[c0,c1,c2,c3,c4,c5,c6,c7,if_true,ybm,yay,ya,ho1,ho2,ho3,ho4,ho5,ho6,Zj he1,Zj he2];rw[Zn (by omega)];refine⟨_,rfl,_,_,rfl,rfl, ?_⟩;rw[show rs ws (st.map yal) (i+1)=ou (rs ws (st.map yal) i) (ks.getD i 0) (wd ws i) from rfl, <-hv]
   have hk1:ks.getD i 0=e1.toNat:=by
    rw[<-hkv,ycz,yak,he1];rfl
   rw[hk1, <-hwv i e2 he2];simp only[List.map_cons,List.map_nil];rw[MX]
   have kt:((x7+((o1^^^o2)^^^o3))+((x4&&&x5)^^^((4294967295^^^x4)&&&x6))+e1+e2).toNat=lo (yr (yr (yr (yr x7.toNat (S1 x4.toNat)) (ch x4.toNat x5.toNat x6.toNat)) e1.toNat) e2.toNat):=by
    rw[fl,fl,fl,fl,ZUe x4 p1 p2 p3,ZUE];exact ZUi ..
   have ka:((x7+((o1^^^o2)^^^o3))+((x4&&&x5)^^^((4294967295^^^x4)&&&x6))+e1+e2+((o4^^^o5)^^^o6)+(((x0&&&x1)^^^(x0&&&x2))^^^(x1&&&x2))).toNat=lo (yr (yr (yr (yr (yr (yr x7.toNat (S1 x4.toNat)) (ch x4.toNat x5.toNat x6.toNat)) e1.toNat) e2.toNat) (S0 x0.toNat)) (mj x0.toNat x1.toNat x2.toNat)):=by
    rw[fl,fl,kt,ZUd x0 p4 p5 p6,ZUF];exact ZUj ..
   have ke:(x3+(((x7+((o1^^^o2)^^^o3))+((x4&&&x5)^^^((4294967295^^^x4)&&&x6)))+e1+e2)).toNat=lo (yr x3.toNat (yr (yr (yr (yr x7.toNat (S1 x4.toNat)) (ch x4.toNat x5.toNat x6.toNat)) e1.toNat) e2.toNat)):=by
    rw[fl,kt];exact ZUk ..
   rw[ka,ke]) (by
  rintro _ ⟨u,v,rfl,he,hv⟩;unfold X3;dsimp only;rw[yX (cE (by omega))];exact⟨_,rfl,_,_,rfl,he,hv⟩)
 rw[g1,ya];have hml:(fI (st.map yal) ws).length=8:=ov (by rw[yab];exact hs)
 obtain⟨x,q1,q2⟩:=Yn (step:=X4 yD) 8 (λi s=>∃e,s=(st,(i:Int),u,e)/\e.length=8/\∀(j:Nat)x,e[j]? =ab x->if j < i then(fI (st.map yal) ws)[j]? =ab x.toNat else(rs ws (st.map yal) 64)[j]? =ab x.toNat) (λx=>x.2.map yal=fI (st.map yal) ws) (i:=(st,(0:Int),u,v)) ⟨_,rfl,g2,λj x hx=>by
  rw[yX (by omega), <-g3,yak,hx];rfl⟩ (by omega) (by
  rintro i _ hi ⟨e,rfl,he,hv⟩;left;obtain⟨e1,he1,_⟩:=Zf (l:=e) (k:=i) (by omega);obtain⟨e2,he2,_⟩:=Zf (l:=st) (k:=i) (by omega);unfold X4;dsimp only;rw[yW (yY (by omega)),yW (ZV (by omega) (by omega)),yap,he1,ya,Zj he2,ya,yW (ZV (by omega) (by omega)),ya,Zn (by omega)];refine⟨_,rfl,_,rfl,by rw[yba];exact he, ?_⟩;intro j x hx;by_cases hji:j=i
  .subst hji;rw[ycj (by omega)]at hx;cases hx;rw[yW (by omega),fl];have k1:=hv _ _ he1;rw[yX (by omega)]at k1;unfold fI;rw[List.getElem?_zipWith,k1,yak,he2];rfl
  .rw[List.getElem?_set_ne (Ne.symm hji)]at hx;have k1:=hv j x hx;by_cases hj:j < i
   .rw[yW hj]at k1;rw[yW (by omega)];exact k1
   .rw[yX hj]at k1;rw[yX (by omega)];exact k1) (by
  rintro _ ⟨e,rfl,he,hv⟩;unfold X4;dsimp only;rw[yX (cE (by omega))];refine⟨_,rfl, ?_⟩;dsimp only;apply List.ext_getElem?;intro j;rw[yak];by_cases hj:j < 8
  .obtain⟨x,hx,_⟩:=Zf (l:=e) (k:=j) (by omega);have:=hv j x hx;rw[yW hj]at this;rw[hx,this];rfl
  .rw[ybl (by omega),ybl (by omega)];rfl)
 dsimp only;rw[q1,ya];exact⟨_,rfl,q2⟩
def qm(n:Nat):yL yB:=(ic n).map yav
theorem BP(n:yU){k:Nat}(hk:k < 8):(qm n.toNat)[k]? =ab (w8 ((ZJ n (56 - 8*k)).toNat:Int)):=by
 have h:∀m:Nat,w8 ((ZJ n m).toNat:Int)=yav (n.toNat / 2 ^ m % 256):=by
  intro m;unfold w8 ZJ;rw[yan,yaf (Nat.lt_of_le_of_lt (Nat.div_le_self _ _) (ybt n))];congr 1
 rw[h]
 match k,hk with
 |0,_=>rfl
 |1,_=>rfl
 |2,_=>rfl
 |3,_=>rfl
 |4,_=>rfl
 |5,_=>rfl
 |6,_=>rfl
 |7,_=>
  show ab (yav (n.toNat % 256))=ab (yav (n.toNat / 2 ^ 0 % 256));rw[Nat.pow_zero,Nat.div_one]
theorem ZTn{l:yL yB}(h:l.length<=4294967296):V6 yD l=ab (l++([128]:yL yB)++yw (zs l.length) 0++qm (8*l.length)):=by
 unfold V6;have hlt:l.length % 64 < 64:=ybb _ (by omega);rw[yW (ZL (by omega) (by omega)),yW (ZL (by omega) (by omega))]
 obtain⟨x,h1,h2⟩:=Yn (step:=XL yD) (zs l.length) (λj s=>s=(l,l++([128]:yL yB)++yw j 0)) (λx=>x=(l,l++([128]:yL yB)++yw (zs l.length) 0)) (i:=(l,l++([128]:yL yB))) (by simp) (by unfold zs;omega) (by
  rintro j _ hj rfl;left;unfold XL;dsimp only;have hl:(l++([128]:yL yB)++yw j 0).length=l.length+1+j:=by rw[yl,yl,ycs];rfl
  have hm:Int.tmod ((l++([128]:yL yB)++yw j 0).length:Int) 64=(((l.length+1+j) % 64:Nat):Int):=by rw[hl];rfl
  rw[hm];unfold zs at hj;rw[yW (by simp;omega),yW (ZL (by omega) (by omega))];exact⟨_,rfl,by rw[yad,List.replicate_succ']⟩) (by
  rintro _ rfl;unfold XL;dsimp only;have hl:(l++([128]:yL yB)++yw (zs l.length) 0).length=l.length+1+zs l.length:=by rw[yl,yl,ycs];rfl
  have hm:Int.tmod ((l++([128]:yL yB)++yw (zs l.length) 0).length:Int) 64=(((l.length+1+zs l.length) % 64:Nat):Int):=by rw[hl];rfl
  rw[hm,yX (by simp;unfold zs;omega)];exact⟨_,rfl,rfl⟩)
 rw[h1,ya,h2];dsimp only;generalize hp:l++([128]:yL yB)++yw (zs l.length) 0=p
 have hpl:p.length<=l.length+65:=by
  rw[<-hp,yl,yl,ycs];unfold zs;simp;omega
 have hn:(8*cD (l.length:Int)).toNat=8*l.length:=by
  rw[UInt64.toNat_mul];unfold cD;rw[yan];show 8*((((l.length:Nat):Int) % 18446744073709551616).toNat % 2 ^ 64) % 2 ^ 64=_;omega
 generalize hN:8*cD (l.length:Int)=N at hn
 obtain⟨x,g1,g2⟩:=Yn (step:=XM yD) 8 (λk s=>s=(N,56 - 8*(k:Int),p++(qm N.toNat).take k)) (λx=>x=p++qm N.toNat) (i:=(N,(56:Int),p)) (by simp) (by omega) (by
  rintro k _ hk rfl;left;unfold XM;dsimp only;rw[yW (yY (by omega)),yW (yY (by omega)),yW (ZL (by simp;omega) (by simp;omega)),ZT (z:=56 - 8*(k:Int) - 8) (by omega) (by omega)];refine⟨_,rfl, ?_⟩;rw[XU (BP N hk),show min (56 - 8*(k:Int)).toNat 64=56 - 8*k by omega,yad,show 56 - 8*((k+1:Nat):Int)=56 - 8*(k:Int) - 8 by omega]) (by
  rintro _ rfl;unfold XM;dsimp only;rw[yX (cE (by omega))];exact⟨_,rfl,rfl⟩)
 rw[g1,ya,g2,hn]
theorem ZTo{l:yL yB}(h:l.length<=4294967296):Vw yD l=ab (fO l):=by
 unfold Vw;obtain⟨f,hf,hfl⟩:∃f,RZ yD=ab f/\f.map yal=iB:=⟨_,rfl,rfl⟩;have hf8:f.length=8:=by rw[<-yab (f:=yal),hfl];rfl
 rw[ZTn h,ya,hf,ya];generalize hE:l++([128]:yL yB)++yw (zs l.length) 0++qm (8*l.length)=E
 have hEm:E.map yaj=jL l:=by
  unfold jL;rw[<-hE];simp only[yao,List.map_replicate,List.map_cons,List.map_nil,qm,List.map_map,yad,List.singleton_append]
  have:ic (8*l.length)=(ic (8*l.length)).map (yaj ∘ yav):=by
   simp[ic]
  rw[<-this];simp
 have hEl:E.length=64*((l.length+72) / 64):=by rw[<-yab (f:=yaj),hEm,ZAA]
 generalize hz:ct=z;have hzl:z.length=32:=by rw[<-hz];rfl
 obtain⟨x,h1,v,rfl,g1,g2⟩:=Yn (step:=Wo yD) ((l.length+72) / 64) (λc s=>∃d,s=(E,d,((64*c:Nat):Int),z)/\d.length=8/\d.map yal=fb c (E.map yaj) iB) (λx=>∃v,x=(v,z)/\v.length=8/\v.map yal=fb ((l.length+72) / 64) (E.map yaj) iB) (i:=(E,f,(0:Int),z)) ⟨_,rfl,hf8,hfl⟩ (by omega) (by
  rintro c _ hc ⟨d,rfl,hd,hv⟩;left;unfold Wo;dsimp only;obtain⟨m,hm1,hm2⟩:=ZOR (st:=d) (l:=(E.take (64*c+64)).drop (64*c)) hd (by rw[List.length_drop,yx];omega);rw[yW (yY (by omega)),ZT (z:=((64*c:Nat):Int)+64) (by omega) (by omega),yW (by simp only[Q0,Bool.and_eq_true,yP];omega),show(((64*c:Nat):Int)+64).toNat=64*c+64 by omega,yap,hm1,ya];refine⟨_,rfl,_,by rw[show((64*c:Nat):Int)+64=((64*(c+1):Nat):Int) by omega], ?_, ?_⟩
  .rw[<-yab (f:=yal),hm2];exact ov (by rw[yab];exact hd)
  .rw[hm2,xZ,hv, <-List.map_drop, <-List.map_take];congr 3;rw[List.drop_take];congr 1;omega) (by
  rintro _ ⟨d,rfl,hd,hv⟩;unfold Wo;dsimp only;rw[yX (cE (by omega))];exact⟨_,rfl,_,rfl,hd,hv⟩)
 rw[h1,ya];dsimp only;generalize hv2:fb ((l.length+72) / 64) (E.map yaj) iB=v2 at g2
 obtain⟨x,k1,o,rfl,k2,k3⟩:=Yn (step:=Wp yD) 32 (λi s=>∃o,s=(v,(i:Int),z,o)/\o.length=32/\∀(j:Nat),j < i->o[j]? =ab (Go.Sha.mL v2 j)) (λx=>∃o,x=(z,o)/\o.length=32/\∀(j:Nat),j < 32->o[j]? =ab (Go.Sha.mL v2 j)) (i:=(v,(0:Int),z,z)) ⟨_,rfl,hzl,λj hj=>by omega⟩ (by omega) (by
  rintro i _ hi ⟨o,rfl,ho,hv⟩;left;unfold Wp;dsimp only;have e1:Int.tdiv (i:Int) 4=((i / 4:Nat):Int):=rfl;have e2:Int.tmod (i:Int) 4=((i % 4:Nat):Int):=rfl;obtain⟨x1,hx1,_⟩:=Zf (l:=v) (k:=i / 4) (by omega);obtain⟨x2,hx2,_⟩:=Zf (l:=o) (k:=i) (by omega);rw[yW (yY (by omega)),e1,e2,ZT (z:=((i / 4:Nat):Int)) (by omega) (by omega),ZT (z:=8*((i % 4:Nat):Int)) (by omega) (by omega),ZT (z:=24 - 8*((i % 4:Nat):Int)) (by omega) (by omega),Zj hx1,ya,yW (yY (by omega)),yW (ZV (by omega) (by omega)),yap,hx2,ya,Zn (by omega)];refine⟨_,rfl,_,rfl,by rw[yba];exact ho, ?_⟩;intro j hj;by_cases hji:j=i
  .subst hji;rw[ycj (by omega)];congr 1;unfold Go.Sha.mL
   have hx:v2.getD (j / 4) 0=x1.toNat:=by
    rw[<-g2,ycz,yak,hx1];rfl
   rw[hx,show min (24 - 8*((j % 4:Nat):Int)).toNat 32=24 - 8*(j % 4) by omega,pU];unfold w8;have e3:∀m:Nat,(((m:Nat):Int) % 256).toNat=m % 256:=λm=>by omega
   rw[e3,show Nat.shiftRight x1.toNat (24 - 8*(j % 4))=x1.toNat >>> (24 - 8*(j % 4)) from rfl,Nat.shiftRight_eq_div_pow]
   exact UInt8.toNat_inj.1 (by simp)
  .rw[List.getElem?_set_ne (Ne.symm hji)];exact hv j (by omega)) (by
  rintro _ ⟨o,rfl,ho,hv⟩;unfold Wp;dsimp only;rw[yX (cE (by omega))];exact⟨_,rfl,_,rfl,ho,hv⟩)
 rw[k1,ya,NA, <-hEm,hv2];congr 1;apply List.ext_getElem?;intro j;by_cases hj:j < 32
 .rw[k3 j hj,yak,List.getElem?_range hj];rfl
 .rw[ybl (by show o.length<=j;omega),ybl (by simp;omega)]
noncomputable def WP(F:Nat)(a0:yL yB):yO aSl:=if ah (a0.length<=4294967296)=af then ab (fO a0) else Vw F a0
noncomputable def Zr1(F:Nat):Fs yb:={ SE F with M:=λx=>WP F x}
noncomputable def ZjS:Fs yb:=Zr1 yD
theorem Zr2:ZjS.Ok:=ot (s:=SE yD) ZqS λx=>by
 show WP yD x=Vw yD x;unfold WP;split
 .rename_i h;exact(ZTo (yF h)).symm
 .rfl
theorem ZOS{l:yL yB}(h:l.length<=4294967296):WP yD l=ab (fO l):=yW (yY h)
end Go.Proofs.YtekdgjajmennjaaGreat
end
section
set_option maxRecDepth 4000
namespace Go.Proofs.YtekdgjajmennjaaGreat
open Go Go.Ev
noncomputable section
def Xq(F:Nat)(s:(yU×Int×aSl×aSl)):yO ((yU×Int×aSl×aSl)⊕(aSl×aSl)):=
 if(ah (s.2.1 >= 0))=af then
  if(ah (0<=s.2.1))=af then
   let a:yB:=w8 ((ZJ s.1 (min s.2.1.toNat 64)).toNat:Int)
   if(bN s.2.2.2.length 1 1)=af then
    ab (.inl (s.1,wi (s.2.1 - 8),s.2.2.1,s.2.2.2++([a]:yL yB)))
   else
   ae
  else
  ae
 else
 ab (.inr (s.2.2.1,s.2.2.2))
def Zc9:Lp:=⟨[(0,.v .u64),(3,.own 1 .u8),(4,.v yI)],[.log .u8 5,.log .u8 5],[.u64,yI,aSm,aSm],[⟨.exit 0,[(3,.own 1 .u8)],[.log .u8 5,.log .u8 5],[aSm,aSm]⟩],Zb (Xq yD) yD⟩
theorem ZjT:Zc9.aT yb 118 0:=Zm { own:=[2,3,9,15,16]} [] [] trivial
def VE(F:Nat)(a0:yU):yO (aSl):=
 (Zb (Xq F) F (a0,56,[],[])).bind λa=>
 ab a.2
def Zd8:Fs yb:=⟨118,[.v .u64],[],[.u64],[⟨.ret,[(0,.own 0 .u8)],[.log .u8 5],[aSm]⟩],λx=>VE yD x⟩
theorem ZmM:Zd8.Ok:=aF { own:=[2,3,9,15,16]} [(0,Zc9)] [] trivial ⟨ZjT,ao⟩
def YP(F:Nat)(s:(aSM×Int×aSl×aSl)):yO ((aSM×Int×aSl×aSl)⊕(aSl×aSl)):=
 if(ah (s.2.1 < (s.1.length:Int)))=af then
  (idx s.1 s.2.1).bind λa=>
  (WB F (cD (a.length:Int))).bind λb=>
  if(bN s.2.2.2.length b.length 1)=af then
   (idx s.1 s.2.1).bind λc=>
   if(bN ((s.2.2.2++b).length) c.length 1)=af then
    ab (.inl (s.1,wi (s.2.1+1),s.2.2.1,(s.2.2.2++b)++c))
   else
   ae
  else
  ae
 else
 ab (.inr (s.2.2.1,s.2.2.2))
def ZhC:Lp:=⟨[(1,.v aSL),(4,.am 0 []),(5,.own 1 .u8),(6,.v yI)],qY,[aSL,yI,aSn,aSm],[⟨.exit 0,[(4,.am 0 []),(5,.own 1 .u8)],qY,[aSn,aSm]⟩],Zb (YP yD) yD⟩
def ZUG:HI:={ own:=[5,11,14,28,30,31,36],still:=[10,26,37]}
theorem Zoa:ZhC.aT yb 101 0:=Zm ZUG [] [Qp] ⟨RX,ao⟩
def YD(F:Nat)(a0:ByteArray)(a1:aSM):yO (aSl):=
 (VE F (cD (a0.size:Int))).bind λa=>
 if(ah (a0.size<=maxLen))=af then
  if(bN a.length a0.data.toList.length 1)=af then
   (Zb (YP F) F (a1,0,ct,a++a0.data.toList)).bind λb=>
   (WP F b.2).bind λc=>
   ab c
  else
  ae
 else
 ae
def XA:Fs yb:=⟨101,[.v .str,.v aSL],[],[.str,aSL],(zP aSn),λx=>YD yD x.1 x.2⟩
theorem Wa:XA.Ok:=aF ZUG [(0,ZhC)] [Zd8,ZjS] ⟨ZmM,Zr2,ao⟩ ⟨Zoa,ao⟩
def X5(F:Nat)(s:(yU×Int×aSl)):yO ((yU×Int×aSl)⊕aSl):=
 if(ah (s.2.1 < 8))=af then
  let a:yU:=ZJ s.1 (min ((cD (wi (56 - (wi (8*s.2.1))))).toNat:Int).toNat 64)
  if(bN s.2.2.length 1 1)=af then
   ab (.inl (s.1,wi (s.2.1+1),s.2.2++([w8 (a.toNat:Int)]:yL yB)))
  else
  ae
 else
 ab (.inr s.2.2)
def ZeL:Lp:=⟨[(0,.v .u64),(3,.own 0 .u8),(4,.v yI)],[.log .u8 5],[.u64,yI,aSm],[⟨.exit 0,[(3,.own 0 .u8)],[.log .u8 5],[aSm]⟩],Zb (X5 yD) yD⟩
theorem ZlN:ZeL.aT yb 177 0:=Zm { own:=[3,9,18],still:=[2]} [] [] trivial
def Qs(F:Nat)(a0:yU):yO (aSl):=
 (Zb (X5 F) F (a0,0,[])).bind λa=>
 ab a
def Zgv:Fs yb:=⟨177,[.v .u64],[],[.u64],(zP aSm),λx=>Qs yD x⟩
theorem Zpn:Zgv.Ok:=aF { own:=[3,9,18],still:=[2]} [(0,ZeL)] [] trivial ⟨ZlN,ao⟩
def SF:HI:={ own:=[5,36,41],still:=[4,22,24],cK:=[21]}
def YH(F:Nat)(s:(Int×yU×Int×aSl×aSl×aSl)):yO ((Int×yU×Int×aSl×aSl×aSl)⊕(Int×yU×aSl×aSl×aSl)):=
 if(ah (s.2.2.1 < 32))=af then
  if(ah ((s.2.2.2.2.1.length:Int) < s.1))=af then
   if(aS s.2.2.1 32)=af then
    (s.2.2.2.2.2[s.2.2.1.toNat]?).bind λa=>
    if(bN s.2.2.2.2.1.length 1 1)=af then
     ab (.inl (s.1,s.2.1,wi (s.2.2.1+1),s.2.2.2.1,s.2.2.2.2.1++([a]:yL yB),s.2.2.2.2.2))
    else
    ae
   else
   ae
  else
  ab (.inr (s.1,s.2.1,s.2.2.2.1,s.2.2.2.2.1,s.2.2.2.2.2))
 else
 ab (.inr (s.1,s.2.1,s.2.2.2.1,s.2.2.2.2.1,s.2.2.2.2.2))
def Zd9:Lp:=⟨[(1,.v yI),(2,.am 0 []),(5,.own 1 .u8),(6,.v .u64),(7,.am 2 []),(8,.v yI)],[.var (.v aSn) ag,.log .u8 5,.var (.v aSn) af],[yI,.u64,yI,aSn,aSm,aSn],[⟨.exit 2,[(1,.v yI),(2,.am 0 []),(5,.own 1 .u8),(6,.v .u64)],[.var (.v aSn) ag,.log .u8 5,.var (.v aSn) af],[yI,.u64,aSn,aSm,aSn]⟩],Zb (YH yD) yD⟩
theorem Zkp:Zd9.aT yb 100 1:=Zm SF [] [] trivial
def XN(F:Nat)(s:(Int×yU×aSl×aSl)):yO ((Int×yU×aSl×aSl)⊕(aSl×aSl)):=
 if(ah ((s.2.2.2.length:Int) < s.1))=af then
  (Qs F s.2.1).bind λa=>
  (YD F tF [s.2.2.1,a]).bind λb=>
  (Zb (YH F) F (s.1,s.2.1,0,s.2.2.1,s.2.2.2,b)).bind λc=>
  ab (.inl (c.1,c.2.1+1,c.2.2.1,c.2.2.2.1))
 else
 ab (.inr (s.2.2.1,s.2.2.2))
def Zea:Lp:=⟨[(1,.v yI),(2,.am 0 []),(5,.own 1 .u8),(6,.v .u64)],[.var (.v aSn) ag,.log .u8 5],[yI,.u64,aSn,aSm],[⟨.exit 0,[(5,.own 1 .u8)],[.var (.v aSn) ag,.log .u8 5],[aSn,aSm]⟩],Zb (XN yD) yD⟩
theorem Zkq:Zea.aT yb 100 0:=Zm SF [(1,Zd9)] [Zgv,XA] ⟨Zpn,Wa,ao⟩ ⟨Zkp,ao⟩
def WL(F:Nat)(a0:aSl)(a1:Int):yO (aSl):=
 if(ah (a1 < 0))=af then
  ab []
 else
 if(ah (a1 > 65536))=af then
  ab []
 else
 (Zb (XN F) F (a1,0,a0,[])).bind λa=>
 ab a.2
def SG:Fs yb:=⟨100,[.v aSn,.v yI],[],[aSn,yI],(zP aSm),λx=>WL yD x.1 x.2⟩
theorem Zeb:SG.Ok:=aF SF [(0,Zea)] [] trivial ⟨Zkq,ao⟩
def Xr(F:Nat)(s:(aSl×aSl×Int×aSl×aSl)):yO ((aSl×aSl×Int×aSl×aSl)⊕(aSl×aSl)):=
 if(ah (s.2.2.1 < (s.1.length:Int)))=af then
  (idx s.1 s.2.2.1).bind λa=>
  (idx s.2.1 s.2.2.1).bind λb=>
  if(bN s.2.2.2.2.length 1 1)=af then
   ab (.inl (s.1,s.2.1,wi (s.2.2.1+1),s.2.2.2.1,s.2.2.2.2++([a^^^b]:yL yB)))
  else
  ae
 else
 ab (.inr (s.2.2.2.1,s.2.2.2.2))
def Zda:Lp:=⟨[(0,.v aSm),(1,.v aSm),(5,.own 1 .u8),(6,.v yI)],[.log .u8 5,.log .u8 5],[aSm,aSm,yI,aSm,aSm],[⟨.exit 0,[(5,.own 1 .u8)],[.log .u8 5,.log .u8 5],[aSm,aSm]⟩],Zb (Xr yD) yD⟩
theorem ZjU:Zda.aT yb 99 0:=Zm { own:=[4,5,13,24,25]} [] [] trivial
def VF(F:Nat)(a0:aSl)(a1:aSl):yO (aSl):=
 (Zb (Xr F) F (a0,a1,0,[],[])).bind λa=>
 ab a.2
def Zec:Fs yb:=⟨99,[.v aSm,.v aSm],[],[aSm,aSm],[⟨.ret,[(0,.own 0 .u8)],[.log .u8 5],[aSm]⟩],λx=>VF yD x.1 x.2⟩
theorem ZmN:Zec.Ok:=aF { own:=[4,5,13,24,25]} [(0,Zda)] [] trivial ⟨ZjU,ao⟩
def Vx(F:Nat)(a0:aSl)(a1:aSl):yO (aSl):=
 if(ah ((a1.length:Int) > 65536))=af then
  ab []
 else
 (WL F a0 (a1.length:Int)).bind λa=>
 (VF F a1 a).bind λb=>
 (YD F NE [a0,b]).bind λc=>
 if(bN b.length ((c.take 8).length) 1)=af then
  ab (b++(c.take 8))
 else
 ae
def SH:Fs yb:=⟨38,[.v aSn,.v aSm],[],[aSn,aSm],(zP aSm),λx=>Vx yD x.1 x.2⟩
def ZVu:HI:={ own:=[5,15,20,22],still:=[4,10,11,13,14,18],cK:=[16,21]}
theorem Zgw:SH.Ok:=aF ZVu [] [SG,Zec,XA] ⟨Zeb,ZmN,Wa,ao⟩
def WQ(F:Nat)(rc:Int->yO (aSl))(a0:Int):yO (aSl):=
 if(ah (a0 < 128))=af then
  ab [w8 a0]
 else
 (rc (wi (Int.tdiv a0 128))).bind λa=>
 if(bN 1 a.length 1)=af then
  let b:aSl:=([(w8 (Int.tmod a0 128))+128]:yL yB)++a
  ab b
 else
 ae
def BQ(rc:Int->yO (aSl)):Fs yb:=⟨229,[.v yI],[],[yI],(zP aSm),λx=>rc x⟩
def ZVv:HI:={ own:=[3,13,14,18],still:=[2,16]}
theorem Zpo(rc:Int->yO (aSl))(hr:(BQ rc).Ok):(BQ (WQ yD rc)).Ok:=aF ZVv [] [(BQ rc)] ⟨hr,ao⟩
def V7(F k:Nat):Int->yO (aSl):=Nat.rec (motive:=λ_=>Int->yO (aSl)) (λ_=>ae) (λ_ ih=>WQ F ih) k
theorem Zgx:∀k,(BQ (V7 yD k)).Ok
 |0=>λx o h=>by cases (show ae=ab o from h)
 |k+1=>Zpo _ (Zgx k)
def BR(F:Nat)(a0:Int):yO (aSl):=V7 F 12 a0
def SI:Fs yb:=⟨229,[.v yI],[],[yI],(zP aSm),λx=>BR yD x⟩
theorem ZhD:SI.Ok:=Zgx 12
def ZX(F:Nat)(a0:aSl)(a1:Int):yO (aSl):=
 if(bN 0 a0.length 1)=af then
  if(ah (a1 >= 0))=af then
   (BR F a1).bind λa=>
   if(bN a0.length a.length 1)=af then
    ab (a0++a)
   else
   ae
  else
  ab a0
 else
 ae
def XB:Fs yb:=⟨179,[.v aSm,.v yI],[],[aSm,yI],(zP aSm),λx=>ZX yD x.1 x.2⟩
def ZVw:HI:={ own:=[5,6,8,11,14],still:=[4,12]}
theorem Wb:XB.Ok:=aF ZVw [] [SI] ⟨ZhD,ao⟩
def Xc(F:Nat)(s:(aSl×aSA×Int)):yO ((aSl×aSA×Int)⊕aSl):=
 if(ah (s.2.2 < (s.2.1.length:Int)))=af then
  (idx s.2.1 s.2.2).bind λa=>
  (ZX F s.1 a).bind λb=>
  ab (.inl (b,s.2.1,wi (s.2.2+1)))
 else
 ab (.inr s.1)
def Zgy:Lp:=⟨[(0,.v aSm),(1,.v aSz),(5,.v yI)],[],[aSm,aSz,yI],[⟨.exit 0,[(0,.v aSm)],[],[aSm]⟩],Zb (Xc yD) yD⟩
theorem ZmO:Zgy.aT yb 102 0:=Zm { still:=[4,12,16]} [] [XB] ⟨Wb,ao⟩
def XC(F:Nat)(a0:aSl)(a1:aSA):yO (aSl):=
 (Zb (Xc F) F (a0,a1,0)).bind λa=>
 ab a
def Qt:Fs yb:=⟨102,[.v aSm,.v aSz],[],[aSm,aSz],(zP aSm),λx=>XC yD x.1 x.2⟩
theorem SJ:Qt.Ok:=aF { still:=[4,12,16]} [(0,Zgy)] [] trivial ⟨ZmO,ao⟩
def Yt(F:Nat)(s:(Int×aSl×aSl)):yO ((Int×aSl×aSl)⊕(aSl×aSl)):=
 if(ah (s.1 < 32))=af then
  if(aS s.1 32)=af then
   (s.2.1[s.1.toNat]?).bind λa=>
   if(bN s.2.2.length 1 1)=af then
    ab (.inl (wi (s.1+1),s.2.1,s.2.2++([a]:yL yB)))
   else
   ae
  else
  ae
 else
 ab (.inr (s.2.1,s.2.2))
def Zdb:Lp:=⟨[(3,.am 0 []),(5,.own 1 .u8),(6,.v yI)],qY,[yI,aSn,aSm],[⟨.exit 0,[(5,.own 1 .u8)],qY,[aSn,aSm]⟩],Zb (Yt yD) yD⟩
def ZUH:HI:={ own:=[5,7,9,14,19],still:=[4]}
theorem ZjV:Zdb.aT yb 103 0:=Zm ZUH [] [] trivial
def YB(F:Nat)(a0:aSl)(a1:aSl):yO (aSl):=
 if(bN 0 a0.length 1)=af then
  (Zb (Yt F) F (0,a1,a0)).bind λa=>
  ab a.2
 else
 ae
def W3:Fs yb:=⟨103,[.v aSm,.v aSn],[],[aSm,aSn],(zP aSm),λx=>YB yD x.1 x.2⟩
theorem QK:W3.Ok:=aF ZUH [(0,Zdb)] [] trivial ⟨ZjV,ao⟩
def YI(F:Nat)(s:(yU×Int×aSl)):yO ((yU×Int×aSl)⊕aSl):=
 if(ah (s.2.1 >= 0))=af then
  let a:yU:=ZJ s.1 (min ((cD (wi (8*s.2.1))).toNat:Int).toNat 64)
  if(bN s.2.2.length 1 1)=af then
   ab (.inl (s.1,wi (s.2.1 - 1),s.2.2++([w8 (a.toNat:Int)]:yL yB)))
  else
  ae
 else
 ab (.inr s.2.2)
def Zed:Lp:=⟨[(1,.v .u64),(5,.own 0 .u8),(6,.v yI)],[.log .u8 5],[.u64,yI,aSm],[⟨.exit 0,[(5,.own 0 .u8)],[.log .u8 5],[aSm]⟩],Zb (YI yD) yD⟩
def ZUI:HI:={ own:=[5,7,9,14,22],still:=[4]}
theorem Zkr:Zed.aT yb 180 0:=Zm ZUI [] [] trivial
def XO(F:Nat)(a0:aSl)(a1:yU):yO (aSl):=
 if(bN 0 a0.length 1)=af then
  (Zb (YI F) F (a1,7,a0)).bind λa=>
  ab a
 else
 ae
def VG:Fs yb:=⟨180,[.v aSm,.v .u64],[],[aSm,.u64],(zP aSm),λx=>XO yD x.1 x.2⟩
theorem SK:VG.Ok:=aF ZUI [(0,Zed)] [] trivial ⟨Zkr,ao⟩
def Xd(F:Nat)(s:(aSl×aSy×Int)):yO ((aSl×aSy×Int)⊕aSl):=
 if(ah (s.2.2 < (s.2.1.length:Int)))=af then
  (idx s.2.1 s.2.2).bind λa=>
  (XO F s.1 a).bind λb=>
  ab (.inl (b,s.2.1,wi (s.2.2+1)))
 else
 ab (.inr s.1)
def Zgz:Lp:=⟨[(0,.v aSm),(1,.v aSt),(5,.v yI)],[],[aSm,aSt,yI],[⟨.exit 0,[(0,.v aSm)],[],[aSm]⟩],Zb (Xd yD) yD⟩
theorem ZmP:Zgz.aT yb 104 0:=Zm { still:=[4,12,16]} [] [VG] ⟨SK,ao⟩
def Vy(F:Nat)(a0:aSl)(a1:aSy):yO (aSl):=
 (Zb (Xd F) F (a0,a1,0)).bind λa=>
 ab a
def SL:Fs yb:=⟨104,[.v aSm,.v aSt],[],[aSm,aSt],(zP aSm),λx=>Vy yD x.1 x.2⟩
theorem ZgA:SL.Ok:=aF { still:=[4,12,16]} [(0,Zgz)] [] trivial ⟨ZmP,ao⟩
def YQ(F:Nat)(s:(aSl×Int×aj)):yO ((aSl×Int×aj)⊕(aSl×aj)):=
 if(ah (s.2.1 < 2))=af then
  if(aS s.2.1 2)=af then
   (s.2.2.1.2.2.1[s.2.1.toNat]?).bind λa=>
   if(aS s.2.1 2)=af then
    (s.2.2.1.2.2.2.1[s.2.1.toNat]?).bind λb=>
    (Vy F s.1 [a.1,a.2.1,a.2.2.1,a.2.2.2.1,a.2.2.2.2]).bind λc=>
    (XC F c [b.1,b.2.1,b.2.2.1,b.2.2.2.1,b.2.2.2.2.1,b.2.2.2.2.2]).bind λd=>
    ab (.inl (d,wi (s.2.1+1),s.2.2))
   else
   ae
  else
  ae
 else
 ab (.inr (s.1,s.2.2))
def ZhE:Lp:=⟨[(1,.am 0 []),(3,.v aSm),(4,.v yI)],[.var (.v Zc) af],[aSm,yI,Zc],[⟨.exit 0,[(1,.am 0 []),(3,.v aSm)],[.var (.v Zc) af],[aSm,Zc]⟩],Zb (YQ yD) yD⟩
def ZUJ:HI:={ still:=[2,13,15,19,21,32,48,59,61,74,76,92,94,97]}
theorem Zob:ZhE.aT yb 39 0:=Zm ZUJ [] [SL,Qt] ⟨ZgA,SJ,ao⟩
def V8(F:Nat)(a0:aj):yO (aSl):=
 (XC F [] [a0.2.2.1,a0.2.2.2.1,a0.2.2.2.2]).bind λa=>
 (YB F a a0.1.1.1).bind λb=>
 (XC F b [a0.1.1.2,a0.1.2.1,a0.1.2.2.2.2]).bind λc=>
 (Zb (YQ F) F (c,0,a0)).bind λd=>
 (Vy F d.1 [d.2.2.1.1,d.2.2.1.2.1,d.2.2.1.2.2.1,d.2.2.1.2.2.2.1,d.2.2.1.2.2.2.2.1]).bind λe=>
 (YB F e d.2.2.1.2.2.2.2.2).bind λf=>
 ab f
def SM:Fs yb:=⟨39,[.v Zc],[],[Zc],(zP aSm),λx=>V8 yD x⟩
theorem ZhF:SM.Ok:=aF ZUJ [(0,ZhE)] [Qt,W3,SL] ⟨SJ,QK,ZgA,ao⟩ ⟨Zob,ao⟩
def BS(F:Nat)(a0:aSl)(a1:aj):yO ((aSl×Int)):=
 (YA F a1).bind λa=>
 if(!a)=af then
  ab ([],1)
 else
 (V8 F a1).bind λb=>
 (Vx F a0 b).bind λc=>
 ab (c,0)
def ZhG:Fs yb:=⟨9,[.v aSn,.v Zc],[],[aSn,Zc],[⟨.ret,[(0,.bi [.v aSm,.v yI])],[],[aSm,yI]⟩],λx=>BS yD x.1 x.2⟩
theorem ZqT:ZhG.Ok:=aF { still:=[4,5,7,11,12,13]} [] [XK,SM,SH] ⟨Wl,ZhF,Zgw,ao⟩
def Wq(F:Nat)(s:(aSl×aSl×Int)):yO ((aSl×aSl×Int)⊕(Bool⊕Unit)):=
 if(ah (s.2.2 < (s.1.length:Int)))=af then
  (idx s.1 s.2.2).bind λa=>
  (idx s.2.1 s.2.2).bind λb=>
  if(a !=b)=af then
   ab (.inr (.inl ag))
  else
  ab (.inl (s.1,s.2.1,wi (s.2.2+1)))
 else
 ab (.inr (.inr ()))
def ZgB:Lp:=⟨[(0,.v aSm),(1,.v aSm),(5,.v yI)],[],[aSm,aSm,yI],[⟨.ret,[(4,.v .bool)],[],[.bool]⟩,⟨.exit 0,[],[],[]⟩],Zb (Wq yD) yD⟩
theorem ZmQ:ZgB.aT yb 16 0:=Zm { still:=[4]} [] [] trivial
def Vz(F:Nat)(a0:aSl)(a1:aSl):yO (Bool):=
 if((a0.length:Int)!=(a1.length:Int))=af then
  ab ag
 else
 (Zb (Wq F) F (a0,a1,0)).bind λa=>
 match a with
 |.inl b=>
  ab b
 |.inr c=>
  ab af
def SN:Fs yb:=⟨16,[.v aSm,.v aSm],[],[aSm,aSm],(zP .bool),λx=>Vz yD x.1 x.2⟩
theorem ZgC:SN.Ok:=aF { still:=[4]} [(0,ZgB)] [] trivial ⟨ZmQ,ao⟩
def BT(F:Nat)(a0:aSl)(a1:aSl):yO ((aSl×Bool)):=
 if(ah ((wi ((a1.length:Int) - 8)) < 0))=af then
  ab ([],ag)
 else
 if(ah ((wi ((a1.length:Int) - 8)) > 65536))=af then
  ab ([],ag)
 else
 if(Q0 a1.length ae (ab (wi ((a1.length:Int) - 8))))=af then
  (WL F a0 (wi ((a1.length:Int) - 8))).bind λa=>
  (BO F (a1.take ((wi ((a1.length:Int) - 8)).toNat)) a).bind λb=>
  (Vx F a0 b).bind λc=>
  let d:Bool:= !((bytesOf c).data.toList==(bytesOf a1).data.toList)
  if d=af then
   ab ([],ag)
  else
  ab (b,af)
 else
 ae
def ZhH:Fs yb:=⟨47,[.v aSn,.v aSm],[],[aSn,aSm],[⟨.ret,[(0,.bi [.v aSm,.v .bool])],[],[aSm,.bool]⟩],λx=>BT yD x.1 x.2⟩
def ZVx:HI:={ still:=[4,5,19,20,21,22,24,25]}
theorem ZqU:ZhH.Ok:=aF ZVx [] [SG,ZhA,SH] ⟨Zeb,ZqQ,Zgw,ao⟩
def BU(F:Nat)(a0:aSl):yO (ai):=
 if(bN 0 a0.length 1)=af then
  ab (a0,ag)
 else
 ae
def ZhI:Fs yb:=⟨48,[.v aSm],[],[aSm],[⟨.ret,[(0,.am 0 [])],[.var (.v Ze) af],[Ze]⟩],λx=>BU yD x⟩
theorem ZqV:ZhI.Ok:=aF { own:=[3,5],still:=[2]} [] [] trivial
def Z8(F:Nat)(s0:ai):yO (ai):=
 ab ([],af)
def X6:Fs yb:=⟨109,[.am 0 []],[.var (.v Ze) af],[Ze],[⟨.ret,[(0,.bi [])],[.var (.v Ze) af],[Ze]⟩],λx=>Z8 yD x⟩
theorem W4:X6.Ok:=aF {} [] [] trivial
def ZK(F:Nat)(s:(Int×Int×Int×ai)):yO ((Int×Int×Int×ai)⊕((Int×ai)⊕ai)):=
 if(ah (s.2.2.1 < (s.2.2.2.1.length:Int)))=af then
  if(ah (s.2.2.1 < 9))=af then
   (idx s.2.2.2.1 s.2.2.1).bind λa=>
   if((a.toNat:Int)==0)=af then
    if(ah (s.2.2.1 > 0))=af then
     (Z8 F s.2.2.2).bind λb=>
     ab (.inr (.inl (0,b)))
    else
    let c:Int:=wi (s.1+(wi ((Int.tmod (a.toNat:Int) 128)*s.2.1)))
    if(ah ((a.toNat:Int) < 128))=af then
     if(Q0 s.2.2.2.1.length (ab (wi (s.2.2.1+1))) ae)=af then
      ab (.inr (.inl (c,(s.2.2.2.1.drop ((wi (s.2.2.1+1)).toNat),s.2.2.2.2))))
     else
     ae
    else
    ab (.inl (c,wi (128*s.2.1),wi (s.2.2.1+1),s.2.2.2))
   else
   let d:Int:=wi (s.1+(wi ((Int.tmod (a.toNat:Int) 128)*s.2.1)))
   if(ah ((a.toNat:Int) < 128))=af then
    if(Q0 s.2.2.2.1.length (ab (wi (s.2.2.1+1))) ae)=af then
     ab (.inr (.inl (d,(s.2.2.2.1.drop ((wi (s.2.2.1+1)).toNat),s.2.2.2.2))))
    else
    ae
   else
   ab (.inl (d,wi (128*s.2.1),wi (s.2.2.1+1),s.2.2.2))
  else
  ab (.inr (.inr s.2.2.2))
 else
 ab (.inr (.inr s.2.2.2))
def ZbC:Lp:=⟨[(0,.am 0 []),(3,.v yI),(4,.v yI),(5,.v yI)],[.var (.v Ze) af],[yI,yI,yI,Ze],[⟨.ret,[(2,.v yI)],[.var (.v Ze) af],[yI,Ze]⟩,⟨.exit 0,[(0,.am 0 [])],[.var (.v Ze) af],[Ze]⟩],Zb (ZK yD) yD⟩
theorem ZgD:ZbC.aT yb 49 0:=Zm { still:=[2,34,57]} [] [X6] ⟨W4,ao⟩
def Zt(F:Nat)(s0:ai):yO ((Int×ai)):=
 (Zb (ZK F) F (0,1,0,s0)).bind λa=>
 match a with
 |.inl b=>
  ab (b.1,b.2)
 |.inr c=>
  (Z8 F c).bind λd=>
  ab (0,d)
def VL:Fs yb:=⟨49,[.am 0 []],[.var (.v Ze) af],[Ze],[⟨.ret,[(0,.v yI)],[.var (.v Ze) af],[yI,Ze]⟩],λx=>Zt yD x⟩
theorem ZbD:VL.Ok:=aF { still:=[2,34,57]} [(0,ZbC)] [X6] ⟨W4,ao⟩ ⟨ZgD,ao⟩
def Y3(F:Nat)(a1:Int)(s0:ai):yO ((aSl×ai)):=
 if s0.2=af then
  (Z8 F s0).bind λa=>
  ab ([],a)
 else
 if(ah (a1 > (s0.1.length:Int)))=af then
  (Z8 F s0).bind λb=>
  ab ([],b)
 else
 if(Q0 s0.1.length ae (ab a1))=af then
  if(bN 0 ((s0.1.take a1.toNat).length) 1)=af then
   if(Q0 s0.1.length (ab a1) ae)=af then
    ab (s0.1.take a1.toNat,(s0.1.drop a1.toNat,s0.2))
   else
   ae
  else
  ae
 else
 ae
def VA:Fs yb:=⟨110,[.am 0 [],.v yI],[.var (.v Ze) af],[yI,Ze],[⟨.ret,[(0,.v aSm)],[.var (.v Ze) af],[aSm,Ze]⟩],λx=>Y3 yD x.1 x.2⟩
theorem ZaV:VA.Ok:=aF { own:=[21,28],still:=[4,19]} [] [X6] ⟨W4,ao⟩
def Yp(F:Nat)(s:(aSl×Int×ai×aSl×aSl)):yO ((aSl×Int×ai×aSl×aSl)⊕(ai×aSl×aSl)):=
 if(ah (s.2.1 < (s.1.length:Int)))=af then
  (idx s.1 s.2.1).bind λa=>
  if(aS s.2.1 32)=af then
   (s.2.2.2.2[s.2.1.toNat]?).bind λb=>
   ab (.inl (s.1,wi (s.2.1+1),s.2.2.1,s.2.2.2.1,s.2.2.2.2.set s.2.1.toNat a))
  else
  ae
 else
 ab (.inr (s.2.2.1,s.2.2.2.1,s.2.2.2.2))
def ZaW:Lp:=⟨[(2,.am 1 []),(3,.v aSm),(4,.am 2 []),(5,.v yI)],[.var (.v Ze) af,.var (.v aSn) af,.var (.v aSn) af],[aSm,yI,Ze,aSn,aSn],[⟨.exit 0,[(2,.am 1 []),(4,.am 2 [])],[.var (.v Ze) af,.var (.v aSn) af,.var (.v aSn) af],[Ze,aSn,aSn]⟩],Zb (Yp yD) yD⟩
theorem Zfp:ZaW.aT yb 50 0:=Zm { still:=[6]} [] [] trivial
def Yl(F:Nat)(s0:ai):yO ((aSl×ai)):=
 (Y3 F 32 s0).bind λa=>
 (Zb (Yp F) F (a.1,0,a.2,ct,ct)).bind λb=>
 ab (b.2.2,b.1)
def ZbE:Fs yb:=⟨50,[.am 0 []],[.var (.v Ze) af],[Ze],[⟨.ret,[(0,.v aSn)],[.var (.v Ze) af],[aSn,Ze]⟩],λx=>Yl yD x⟩
theorem Zin:ZbE.Ok:=aF { still:=[6]} [(0,ZaW)] [VA] ⟨ZaV,ao⟩ ⟨Zfp,ao⟩
def Yf(F:Nat)(s:(aSl×yU×Int×ai)):yO ((aSl×yU×Int×ai)⊕(yU×ai)):=
 if(ah (s.2.2.1 < (s.1.length:Int)))=af then
  (idx s.1 s.2.2.1).bind λa=>
  ab (.inl (s.1,(256*s.2.1)+(yv a.toNat),wi (s.2.2.1+1),s.2.2.2))
 else
 ab (.inr (s.2.1,s.2.2.2))
def ZbF:Lp:=⟨[(3,.v aSm),(4,.v .u64),(5,.v yI)],[.var (.v Ze) af],[aSm,.u64,yI,Ze],[⟨.exit 0,[(4,.v .u64)],[.var (.v Ze) af],[.u64,Ze]⟩],Zb (Yf yD) yD⟩
theorem ZgE:ZbF.aT yb 51 0:=Zm { still:=[2,6]} [] [] trivial
def Zx(F:Nat)(s0:ai):yO ((yU×ai)):=
 (Y3 F 8 s0).bind λa=>
 (Zb (Yf F) F (a.1,0,0,a.2)).bind λb=>
 ab (b.1,b.2)
def VM:Fs yb:=⟨51,[.am 0 []],[.var (.v Ze) af],[Ze],[⟨.ret,[(0,.v .u64)],[.var (.v Ze) af],[.u64,Ze]⟩],λx=>Zx yD x⟩
theorem ZbG:VM.Ok:=aF { still:=[2,6]} [(0,ZbF)] [VA] ⟨ZaV,ao⟩ ⟨ZgE,ao⟩
def Xe(F:Nat):(aSl×Bool×Int×aSl×aj×ai×aj)->yO ((aSl×Bool×Int×aSl×aj×ai×aj)⊕(aSl×Bool×aSl×aj×ai×aj))
 |(d,e,a,f,g,b,c)=>
 if(ah (a < 2))=af then
  (Zx F b).bind λh=>
  if(aS a 2)=af then
   (c.1.2.2.1[a.toNat]?).bind λi=>
   (Zx F h.2).bind λj=>
   if(aS a 2)=af then
    ((c.1.2.2.1.set a.toNat (h.1,i.2.1,i.2.2.1,i.2.2.2.1,i.2.2.2.2))[a.toNat]?).bind λk=>
    (Zx F j.2).bind λl=>
    if(aS a 2)=af then
     (((c.1.2.2.1.set a.toNat (h.1,i.2.1,i.2.2.1,i.2.2.2.1,i.2.2.2.2)).set a.toNat (k.1,j.1,k.2.2.1,k.2.2.2.1,k.2.2.2.2))[a.toNat]?).bind λm=>
     (Zx F l.2).bind λn=>
     if(aS a 2)=af then
      ((((c.1.2.2.1.set a.toNat (h.1,i.2.1,i.2.2.1,i.2.2.2.1,i.2.2.2.2)).set a.toNat (k.1,j.1,k.2.2.1,k.2.2.2.1,k.2.2.2.2)).set a.toNat (m.1,m.2.1,l.1,m.2.2.2.1,m.2.2.2.2))[a.toNat]?).bind λo=>
      (Zx F n.2).bind λp=>
      if(aS a 2)=af then
       (((((c.1.2.2.1.set a.toNat (h.1,i.2.1,i.2.2.1,i.2.2.2.1,i.2.2.2.2)).set a.toNat (k.1,j.1,k.2.2.1,k.2.2.2.1,k.2.2.2.2)).set a.toNat (m.1,m.2.1,l.1,m.2.2.2.1,m.2.2.2.2)).set a.toNat (o.1,o.2.1,o.2.2.1,n.1,o.2.2.2.2))[a.toNat]?).bind λq=>
       (Zt F p.2).bind λr=>
       if(aS a 2)=af then
        (c.1.2.2.2.1[a.toNat]?).bind λs=>
        (Zt F r.2).bind λt=>
        if(aS a 2)=af then
         ((c.1.2.2.2.1.set a.toNat (r.1,s.2.1,s.2.2.1,s.2.2.2.1,s.2.2.2.2.1,s.2.2.2.2.2))[a.toNat]?).bind λu=>
         (Zt F t.2).bind λv=>
         if(aS a 2)=af then
          (((c.1.2.2.2.1.set a.toNat (r.1,s.2.1,s.2.2.1,s.2.2.2.1,s.2.2.2.2.1,s.2.2.2.2.2)).set a.toNat (u.1,t.1,u.2.2.1,u.2.2.2.1,u.2.2.2.2.1,u.2.2.2.2.2))[a.toNat]?).bind λw=>
          (Zt F v.2).bind λx=>
          if(aS a 2)=af then
           ((((c.1.2.2.2.1.set a.toNat (r.1,s.2.1,s.2.2.1,s.2.2.2.1,s.2.2.2.2.1,s.2.2.2.2.2)).set a.toNat (u.1,t.1,u.2.2.1,u.2.2.2.1,u.2.2.2.2.1,u.2.2.2.2.2)).set a.toNat (w.1,w.2.1,v.1,w.2.2.2.1,w.2.2.2.2.1,w.2.2.2.2.2))[a.toNat]?).bind λy=>
           (Zt F x.2).bind λz=>
           if(aS a 2)=af then
            (((((c.1.2.2.2.1.set a.toNat (r.1,s.2.1,s.2.2.1,s.2.2.2.1,s.2.2.2.2.1,s.2.2.2.2.2)).set a.toNat (u.1,t.1,u.2.2.1,u.2.2.2.1,u.2.2.2.2.1,u.2.2.2.2.2)).set a.toNat (w.1,w.2.1,v.1,w.2.2.2.1,w.2.2.2.2.1,w.2.2.2.2.2)).set a.toNat (y.1,y.2.1,y.2.2.1,x.1,y.2.2.2.2.1,y.2.2.2.2.2))[a.toNat]?).bind λA=>
            (Zt F z.2).bind λB=>
            if(aS a 2)=af then
             ((((((c.1.2.2.2.1.set a.toNat (r.1,s.2.1,s.2.2.1,s.2.2.2.1,s.2.2.2.2.1,s.2.2.2.2.2)).set a.toNat (u.1,t.1,u.2.2.1,u.2.2.2.1,u.2.2.2.2.1,u.2.2.2.2.2)).set a.toNat (w.1,w.2.1,v.1,w.2.2.2.1,w.2.2.2.2.1,w.2.2.2.2.2)).set a.toNat (y.1,y.2.1,y.2.2.1,x.1,y.2.2.2.2.1,y.2.2.2.2.2)).set a.toNat (A.1,A.2.1,A.2.2.1,A.2.2.2.1,z.1,A.2.2.2.2.2))[a.toNat]?).bind λC=>
             ab (.inl (d,e,wi (a+1),f,g,B.2,((c.1.1,c.1.2.1,((((c.1.2.2.1.set a.toNat (h.1,i.2.1,i.2.2.1,i.2.2.2.1,i.2.2.2.2)).set a.toNat (k.1,j.1,k.2.2.1,k.2.2.2.1,k.2.2.2.2)).set a.toNat (m.1,m.2.1,l.1,m.2.2.2.1,m.2.2.2.2)).set a.toNat (o.1,o.2.1,o.2.2.1,n.1,o.2.2.2.2)).set a.toNat (q.1,q.2.1,q.2.2.1,q.2.2.2.1,p.1),(((((c.1.2.2.2.1.set a.toNat (r.1,s.2.1,s.2.2.1,s.2.2.2.1,s.2.2.2.2.1,s.2.2.2.2.2)).set a.toNat (u.1,t.1,u.2.2.1,u.2.2.2.1,u.2.2.2.2.1,u.2.2.2.2.2)).set a.toNat (w.1,w.2.1,v.1,w.2.2.2.1,w.2.2.2.2.1,w.2.2.2.2.2)).set a.toNat (y.1,y.2.1,y.2.2.1,x.1,y.2.2.2.2.1,y.2.2.2.2.2)).set a.toNat (A.1,A.2.1,A.2.2.1,A.2.2.2.1,z.1,A.2.2.2.2.2)).set a.toNat (C.1,C.2.1,C.2.2.1,C.2.2.2.1,C.2.2.2.2.1,B.1),c.1.2.2.2.2),c.2.1,c.2.2.1,c.2.2.2.1,c.2.2.2.2)))
            else
            ae
           else
           ae
          else
          ae
         else
         ae
        else
        ae
       else
       ae
      else
      ae
     else
     ae
    else
    ae
   else
   ae
  else
  ae
 else
 ab (.inr (d,e,f,g,b,c))
def ZgF:Lp:=⟨[(4,.am 1 []),(6,.v aSm),(7,.v .bool),(8,.am 2 []),(9,.am 3 []),(10,.v yI)],zR,[aSm,.bool,yI,aSn,Zc,Ze,Zc],[⟨.exit 0,[(4,.am 1 []),(6,.v aSm),(7,.v .bool),(8,.am 2 []),(9,.am 3 [])],zR,[aSm,.bool,aSn,Zc,Ze,Zc]⟩],Zb (Xe yD) yD⟩
def ZUK:HI:={ still:=[5,12,13,17,19,22,25,28,33,38,42,51,58,65,72,79,86,93,100,107,114,121,127,131,135,139,143,147,168,173,174,175]}
theorem ZmR:ZgF.aT yb 11 0:=Zm ZUK [] [VM,VL] ⟨ZbG,ZbD,ao⟩
def BV(F:Nat)(a0:aSl)(a1:aSl):yO ((aj×Bool)):=
 (BT F a0 a1).bind λe=>
 (BU F e.1).bind λf=>
 (Zt F f).bind λg=>
 (Zt F g.2).bind λh=>
 (Zt F h.2).bind λi=>
 (Yl F i.2).bind λj=>
 (Zt F j.2).bind λk=>
 (Zt F k.2).bind λl=>
 (Zt F l.2).bind λm=>
 (Zb (Xe F) F (e.1,e.2,0,a0,(((ct,0),0,[(0,0,0,0,0),(0,0,0,0,0)],[(0,0,0,0,0,0),(0,0,0,0,0,0)],0),(0,0,0,0,0,ct),0,0,0),m.2,(((j.1,k.1),l.1,[(0,0,0,0,0),(0,0,0,0,0)],[(0,0,0,0,0,0),(0,0,0,0,0,0)],m.1),(0,0,0,0,0,ct),g.1,h.1,i.1))).bind λ(d,b,_,_,a,c)=>
 (Zx F a).bind λn=>
 (Zx F n.2).bind λo=>
 (Zx F o.2).bind λp=>
 (Zx F p.2).bind λq=>
 (Zx F q.2).bind λr=>
 (Yl F r.2).bind λs=>
 if(!b)=af then
  ab ((((ct,0),0,[(0,0,0,0,0),(0,0,0,0,0)],[(0,0,0,0,0,0),(0,0,0,0,0,0)],0),(0,0,0,0,0,ct),0,0,0),ag)
 else
 if s.2.2=af then
  ab ((((ct,0),0,[(0,0,0,0,0),(0,0,0,0,0)],[(0,0,0,0,0,0),(0,0,0,0,0,0)],0),(0,0,0,0,0,ct),0,0,0),ag)
 else
 if(ah ((s.2.1.length:Int) > 0))=af then
  ab ((((ct,0),0,[(0,0,0,0,0),(0,0,0,0,0)],[(0,0,0,0,0,0),(0,0,0,0,0,0)],0),(0,0,0,0,0,ct),0,0,0),ag)
 else
 (YA F (c.1,(n.1,o.1,p.1,q.1,r.1,s.1),c.2.2.1,c.2.2.2.1,c.2.2.2.2)).bind λt=>
 if(!t)=af then
  ab ((((ct,0),0,[(0,0,0,0,0),(0,0,0,0,0)],[(0,0,0,0,0,0),(0,0,0,0,0,0)],0),(0,0,0,0,0,ct),0,0,0),ag)
 else
 (V8 F (c.1,(n.1,o.1,p.1,q.1,r.1,s.1),c.2.2.1,c.2.2.2.1,c.2.2.2.2)).bind λu=>
 (Vz F u d).bind λv=>
 if(!v)=af then
  ab ((((ct,0),0,[(0,0,0,0,0),(0,0,0,0,0)],[(0,0,0,0,0,0),(0,0,0,0,0,0)],0),(0,0,0,0,0,ct),0,0,0),ag)
 else
 ab ((c.1,(n.1,o.1,p.1,q.1,r.1,s.1),c.2.2.1,c.2.2.2.1,c.2.2.2.2),af)
def ZhJ:Fs yb:=⟨11,[.v aSn,.v aSm],[],[aSn,aSm],[⟨.ret,[(0,.bi [.v Zc,.v .bool])],[],[Zc,.bool]⟩],λx=>BV yD x.1 x.2⟩
theorem ZqW:ZhJ.Ok:=aF ZUK [(0,ZgF)] [ZhH,ZhI,VL,ZbE,VM,XK,SM,SN] ⟨ZqU,ZqV,ZbD,Zin,ZbG,Wl,ZhF,ZgC,ao⟩ ⟨ZmR,ao⟩
def BW(F:Nat)(a0:yU):yO (Bool):=
 (W1 F a0).bind λa=>
 if a=af then
  ab (a0 !=0)
 else
 ab ag
def ZjW:Fs yb:=⟨116,[.v .u64],[],[.u64],(zP .bool),λx=>BW yD x⟩
theorem Zr3:ZjW.Ok:=aF { still:=[2,3]} [] [RU] ⟨ZeB,ao⟩
def Xf(F:Nat)(s:(yU×Int×Int×aSl)):yO ((yU×Int×Int×aSl)⊕(yU×Int×aSl)):=
 if(ah (s.2.2.1 >= 0))=af then
  if(aS s.2.1 32)=af then
   (s.2.2.2[s.2.1.toNat]?).bind λa=>
   let b:yU:=ZJ (yv a.toNat) (min ((cD s.2.2.1).toNat:Int).toNat 64);let c:yU:=((2*s.1)+(b&&&1)) % 2305843009213688668
   ab (.inl (c,s.2.1,wi (s.2.2.1 - 1),s.2.2.2))
  else
  ae
 else
 ab (.inr (s.1,s.2.1,s.2.2.2))
def ZgG:Lp:=⟨[(1,.am 0 []),(3,.v .u64),(4,.v yI),(5,.v yI)],[.var (.v aSn) af],[.u64,yI,yI,aSn],[⟨.exit 2,[(1,.am 0 []),(3,.v .u64),(4,.v yI)],[.var (.v aSn) af],[.u64,yI,aSn]⟩],Zb (Xf yD) yD⟩
theorem ZmS:ZgG.aT yb 117 1:=Zm { still:=[2]} [] [] trivial
def Xg(F:Nat)(s:(yU×Int×aSl)):yO ((yU×Int×aSl)⊕(yU×aSl)):=
 if(ah (s.2.1 < 32))=af then
  (Zb (Xf F) F (s.1,s.2.1,7,s.2.2)).bind λa=>
  ab (.inl (a.1,wi (a.2.1+1),a.2.2))
 else
 ab (.inr (s.1,s.2.2))
def ZgH:Lp:=⟨[(1,.am 0 []),(3,.v .u64),(4,.v yI)],[.var (.v aSn) af],[.u64,yI,aSn],[⟨.exit 0,[(3,.v .u64)],[.var (.v aSn) af],[.u64,aSn]⟩],Zb (Xg yD) yD⟩
theorem ZmT:ZgH.aT yb 117 0:=Zm { still:=[2]} [(1,ZgG)] [] trivial ⟨ZmS,ao⟩
def VB(F:Nat)(a0:aSl):yO (yU):=
 (Zb (Xg F) F (0,0,a0)).bind λa=>
 ab (a.1+1)
def SP:Fs yb:=⟨117,[.v aSn],[],[aSn],(zP .u64),λx=>VB yD x⟩
theorem ZgI:SP.Ok:=aF { still:=[2]} [(0,ZgH)] [] trivial ⟨ZmT,ao⟩
def BX(F:Nat)(a0:yU)(a1:yU):yO (yU):=
 (X9 F a0).bind λa=>
 (X9 F a1).bind λb=>
 (Zy F a b).bind λc=>
 ab c
def ZjX:Fs yb:=⟨188,[.v .u64,.v .u64],[],[.u64,.u64],(zP .u64),λx=>BX yD x.1 x.2⟩
theorem Zr4:ZjX.Ok:=aF { still:=[4,5,6,7,8]} [] [RV,RO] ⟨ZeC,Zez,ao⟩
def Qu(F:Nat)(a0:yU):yO (aSl):=
 (WB F a0).bind λa=>
 ab a
def ZgJ:Fs yb:=⟨238,[.v .u64],[],[.u64],(zP aSm),λx=>Qu yD x⟩
theorem Zpp:ZgJ.Ok:=aF { still:=[2,3]} [] [Qp] ⟨RX,ao⟩
def WR(F:Nat)(a0:yU)(a1:yU)(a2:aSl):yO (yU):=
 (Qu F a0).bind λa=>
 (Qu F a1).bind λb=>
 (YD F zy [a,b,a2]).bind λc=>
 (VB F c).bind λd=>
 ab d
def Zcm:Fs yb:=⟨189,[.v .u64,.v .u64,.v aSn],[],[.u64,.u64,aSn],(zP .u64),λx=>WR yD x.1 x.2.1 x.2.2⟩
theorem Zks:Zcm.Ok:=aF ZUp [] [ZgJ,XA,SP] ⟨Zpp,Wa,ZgI,ao⟩
def Vl(F:Nat)(a0:yU):yO (yU):=
 ab (a0 % 2305843009213688669)
def SQ:Fs yb:=⟨239,[.v .u64],[],[.u64],(zP .u64),λx=>Vl yD x⟩
theorem ZjY:SQ.Ok:=aF { still:=[2]} [] [] trivial
def SR(F:Nat)(a0:yU)(a1:yU):yO (yU):=
 (Vl F a0).bind λa=>
 (Vl F a1).bind λb=>
 ab ((a+b) % 2305843009213688669)
def ZjZ:Fs yb:=⟨190,[.v .u64,.v .u64],[],[.u64,.u64],(zP .u64),λx=>SR yD x.1 x.2⟩
theorem Zr5:ZjZ.Ok:=aF { still:=[4,5,7]} [] [SQ] ⟨ZjY,ao⟩
def WM(F:Nat)(s:(yU×yU×yU)):yO ((yU×yU×yU)⊕yU):=
 if(ah (s.2.1 > 0))=af then
  if((s.2.1 % 2)==1)=af then
   ab (.inl ((s.1+s.1) % 2305843009213688669,s.2.1 / 2,(s.2.2+s.1) % 2305843009213688669))
  else
  ab (.inl ((s.1+s.1) % 2305843009213688669,s.2.1 / 2,s.2.2))
 else
 ab (.inr s.2.2)
def ZhK:Lp:=⟨[(5,.v .u64),(6,.v .u64),(7,.v .u64)],[],[.u64,.u64,.u64],[⟨.exit 0,[(7,.v .u64)],[],[.u64]⟩],Zb (WM yD) yD⟩
theorem Zoc:ZhK.aT yb 191 0:=Zm { still:=[4,8,10]} [] [] trivial
def BY(F:Nat)(a0:yU)(a1:yU):yO (yU):=
 (Vl F a0).bind λa=>
 (Vl F a1).bind λb=>
 (Zb (WM F) F (a,b,0)).bind λc=>
 ab c
def Zj0:Fs yb:=⟨191,[.v .u64,.v .u64],[],[.u64,.u64],(zP .u64),λx=>BY yD x.1 x.2⟩
theorem Zr6:Zj0.Ok:=aF { still:=[4,8,10]} [(0,ZhK)] [SQ] ⟨ZjY,ao⟩ ⟨Zoc,ao⟩
def SS(F:Nat)(a0:yU)(a1:yU)(a2:aSl)(a3:yU):yO (dQ):=
 (Yd F a1).bind λa=>
 (BX F a a3).bind λb=>
 (Yd F a0).bind λc=>
 (WR F b c a2).bind λd=>
 (BY F a0 d).bind λe=>
 (SR F a1 e).bind λf=>
 ab (b,f)
def ZhL:Fs yb:=⟨119,[.v .u64,.v .u64,.v aSn,.v .u64],[],[.u64,.u64,aSn,.u64],(zP WV),λx=>SS yD x.1 x.2.1 x.2.2.1 x.2.2.2⟩
def ZVy:HI:={ still:=[11,12,13,15,16,17,18,21,22,23,24]}
theorem ZqX:ZhL.Ok:=aF ZVy [] [RW,ZjX,Zcm,Zj0,ZjZ] ⟨Zgn,Zr4,Zks,Zr6,Zr5,ao⟩
def VC(F:Nat)(a0:yU)(a1:aSl):yO (dQ):=
 (BW F a0).bind λa=>
 if(!a)=af then
  ab (0,0)
 else
 (WB F a0).bind λb=>
 (YD F zA [b,a1]).bind λc=>
 (VB F c).bind λd=>
 (SS F a0 d a1 1).bind λe=>
 ab e
def ST:Fs yb:=⟨54,[.v .u64,.v aSn],[],[.u64,aSn],(zP WV),λx=>VC yD x.1 x.2⟩
def ZVz:HI:={ still:=[6,10,13,14,16,17,18],cK:=[12]}
theorem ZgK:ST.Ok:=aF ZVz [] [ZjW,Qp,XA,SP,ZhL] ⟨Zr3,RX,Wa,ZgI,ZqX,ao⟩
def VH(F:Nat)(a0:Chan)(a1:Int):yO (aSl):=
 (YB F [] a0.1.1).bind λa=>
 (XC F a [a0.1.2,a1]).bind λb=>
 (YD F OE [b]).bind λc=>
 ab c
def Zeg:Fs yb:=⟨55,[.v Z0,.v yI],[],[Z0,yI],(zP aSn),λx=>VH yD x.1 x.2⟩
theorem ZmU:Zeg.Ok:=aF { still:=[6,9,11,16,18]} [] [W3,Qt,XA] ⟨QK,SJ,Wa,ao⟩
def BZ(F:Nat)(a0:aj):yO (fJ):=
 (YA F a0).bind λa=>
 if(!a)=af then
  ab (0,0,0,(0,0,0,0,0),0,[],0,(0,0),ct,0,([],[],0),(0,0,0,0,0),(0,0,0,0,0,0),[])
 else
 (VH F a0.1 a0.2.2.1).bind λb=>
 (VC F a0.2.1.1 b).bind λc=>
 ab (12,a0.1.1.2,a0.2.2.1,(0,0,0,0,0),0,[],0,c,a0.1.1.1,0,([],[],0),(0,0,0,0,0),(0,0,0,0,0,0),[])
def Zj1:Fs yb:=⟨13,[.v Zc],[],[Zc],(zP iW),λx=>BZ yD x⟩
def ZVA:HI:={ still:=[4,21,23,25,26],eJ:=[(2,[([10,0],bj,131),([10,1],Zw,83)])]}
theorem Zr7:Zj1.Ok:=aF ZVA [] [XK,Zeg,ST] ⟨Wl,ZmU,ZgK,ao⟩
def XP(F:Nat)(s:(Int×Zq)):yO ((Int×Zq)⊕((Bool×Zq)⊕Zq)):=
 if(ah (s.1 < (s.2.1.length:Int)))=af then
  (idx s.2.1 s.1).bind λa=>
  (Y7 F a).bind λb=>
  if(!b)=af then
   ab (.inr (.inl (ag,s.2)))
  else
  ab (.inl (wi (s.1+1),s.2))
 else
 ab (.inr (.inr s.2))
def Zeh:Lp:=⟨[(1,.am 0 []),(3,.v yI)],[.var (.v Zg) af],[yI,Zg],[⟨.ret,[(2,.v .bool)],[.var (.v Zg) af],[.bool,Zg]⟩,⟨.exit 0,[(1,.am 0 [])],[.var (.v Zg) af],[Zg]⟩],Zb (XP yD) yD⟩
theorem Zkt:Zeh.aT yb 128 0:=Zm { still:=[2,41,46]} [] [WK] ⟨VD,ao⟩
def V9(F:Nat)(a0:Zq):yO (Bool):=
 if(ah ((a0.1.length:Int) > 12))=af then
  ab ag
 else
 if(ah (a0.2.1 < 0))=af then
  ab ag
 else
 if(ah (a0.2.1 > 1048576))=af then
  ab ag
 else
 if(ah (a0.2.2.1 < 0))=af then
  ab ag
 else
 if(ah (a0.2.2.1 > 1048576))=af then
  ab ag
 else
 (Zb (XP F) F (0,a0)).bind λa=>
 match a with
 |.inl b=>
  ab b.1
 |.inr c=>
  (Y7 F c.2.2.2).bind λd=>
  if(c.2.2.2==0)=af then
   ab af
  else
  ab d
def ZeM:Fs yb:=⟨128,[.v Zg],[],[Zg],(zP .bool),λx=>V9 yD x⟩
theorem Zod:ZeM.Ok:=aF { still:=[2,41,46]} [(0,Zeh)] [WK] ⟨VD,ao⟩ ⟨Zkt,ao⟩
def X7(F:Nat)(s:(Int×ZG)):yO ((Int×ZG)⊕((Bool×ZG)⊕ZG)):=
 if(ah (s.1 < (s.2.length:Int)))=af then
  (idx s.2 s.1).bind λa=>
  (V9 F a).bind λb=>
  if(!b)=af then
   ab (.inr (.inl (ag,s.2)))
  else
  ab (.inl (wi (s.1+1),s.2))
 else
 ab (.inr (.inr s.2))
def ZeN:Lp:=⟨[(1,.am 0 []),(3,.v yI)],[.var (.v Zk) af],[yI,Zk],[⟨.ret,[(2,.v .bool)],[.var (.v Zk) af],[.bool,Zk]⟩,⟨.exit 0,[],[.var (.v Zk) af],[Zk]⟩],Zb (X7 yD) yD⟩
theorem ZlO:ZeN.aT yb 58 0:=Zm { still:=[2,25]} [] [ZeM] ⟨Zod,ao⟩
def Y8(F:Nat)(a0:ZG):yO (Bool):=
 if(ah ((a0.length:Int) < 1))=af then
  ab ag
 else
 if(ah ((a0.length:Int) > 4))=af then
  ab ag
 else
 (Zb (X7 F) F (0,a0)).bind λa=>
 match a with
 |.inl b=>
  ab b.1
 |.inr c=>
  ab af
def Qa:Fs yb:=⟨58,[.v Zk],[],[Zk],(zP .bool),λx=>Y8 yD x⟩
theorem SU:Qa.Ok:=aF { still:=[2,25]} [(0,ZeN)] [] trivial ⟨ZlO,ao⟩
def W5(F:Nat)(a0:XT):yO (Bool):=
 if(ah (a0.1 >= 0))=af then
  if(ah (a0.1<=3))=af then
   ab (ah ((a0.2.1.length:Int)<=12))
  else
  ab ag
 else
 ab ag
def Zdc:Fs yb:=⟨141,[.v Ya],[],[Ya],(zP .bool),λx=>W5 yD x⟩
theorem ZlP:Zdc.Ok:=aF { still:=[2]} [] [] trivial
def Yo(F:Nat)(s:(Int×Int×Tx×In)):yO ((Int×Int×Tx×In)⊕((Bool×Tx×In)⊕(Int×Tx×In))):=
 if(ah (s.2.1 < s.1))=af then
  (idx s.2.2.1.1 s.2.1).bind λa=>
  if(ah (a.1=s.2.2.2.1))=af then
   ab (.inr (.inl (ag,s.2.2.1,s.2.2.2)))
  else
  ab (.inl (s.1,wi (s.2.1+1),s.2.2.1,s.2.2.2))
 else
 ab (.inr (.inr (s.1,s.2.2.1,s.2.2.2)))
def ZeO:Lp:=⟨[(1,.am 0 []),(3,.v yI),(4,.am 1 []),(5,.v yI)],[.var (.v ax) af,.var (.v bj) af],[yI,yI,ax,bj],[⟨.ret,[(2,.v .bool)],[.var (.v ax) af,.var (.v bj) af],[.bool,ax,bj]⟩,⟨.exit 2,[(1,.am 0 []),(3,.v yI)],[.var (.v ax) af,.var (.v bj) af],[yI,ax,bj]⟩],Zb (Yo yD) yD⟩
theorem ZlQ:ZeO.aT yb 70 1:=Zm { still:=[2,54,94]} [] [] trivial
def YT(F:Nat)(s:(Int×Tx)):yO ((Int×Tx)⊕((Bool×Tx)⊕Tx)):=
 if(ah (s.1 < (s.2.1.length:Int)))=af then
  (idx s.2.1 s.1).bind λa=>
  if(ah (a.1.2 < 0))=af then
   ab (.inr (.inl (ag,s.2)))
  else
  if(ah (a.1.2 > 63))=af then
   ab (.inr (.inl (ag,s.2)))
  else
  (W5 F a.2).bind λb=>
  if(!b)=af then
   ab (.inr (.inl (ag,s.2)))
  else
  (Zb (Yo F) F (s.1,0,s.2,a)).bind λc=>
  match c with
  |.inl d=>
   ab (.inr (.inl (d.1,d.2.1)))
  |.inr e=>
   ab (.inl (wi (e.1+1),e.2.1))
 else
 ab (.inr (.inr s.2))
def ZeP:Lp:=⟨[(1,.am 0 []),(3,.v yI)],[.var (.v ax) af],[yI,ax],[⟨.ret,[(2,.v .bool)],[.var (.v ax) af],[.bool,ax]⟩,⟨.exit 0,[(1,.am 0 [])],[.var (.v ax) af],[ax]⟩],Zb (YT yD) yD⟩
theorem ZlR:ZeP.aT yb 70 0:=Zm { still:=[2,54,94]} [(1,ZeO)] [Zdc] ⟨ZlP,ao⟩ ⟨ZlQ,ao⟩
def YU(F:Nat)(s:(Int×Int×Tx)):yO ((Int×Int×Tx)⊕((Bool×Tx)⊕(Int×Tx))):=
 if(ah (s.2.1 < (s.2.2.2.1.length:Int)))=af then
  (idx s.2.2.2.1 s.2.1).bind λa=>
  if(ah (a.1 < 0))=af then
   ab (.inr (.inl (ag,s.2.2)))
  else
  if(ah (a.1 > 1125899906842624))=af then
   ab (.inr (.inl (ag,s.2.2)))
  else
  (Y8 F a.2).bind λb=>
  if(!b)=af then
   ab (.inr (.inl (ag,s.2.2)))
  else
  ab (.inl (wi (s.1+a.1),wi (s.2.1+1),s.2.2))
 else
 ab (.inr (.inr (s.1,s.2.2)))
def ZeQ:Lp:=⟨[(1,.am 0 []),(6,.v yI),(7,.v yI)],[.var (.v ax) af],[yI,yI,ax],[⟨.ret,[(2,.v .bool)],[.var (.v ax) af],[.bool,ax]⟩,⟨.exit 4,[(6,.v yI)],[.var (.v ax) af],[yI,ax]⟩],Zb (YU yD) yD⟩
theorem ZlS:ZeQ.aT yb 70 2:=Zm { still:=[2,54,94]} [] [Qa] ⟨SU,ao⟩
def Y9(F:Nat)(a0:Tx):yO (Bool):=
 if(ah ((a0.1.length:Int) < 1))=af then
  ab ag
 else
 if(ah ((a0.1.length:Int) > 64))=af then
  ab ag
 else
 if(ah ((a0.2.1.length:Int) > 64))=af then
  ab ag
 else
 if(ah (a0.2.2 < 0))=af then
  ab ag
 else
 (Zb (YT F) F (0,a0)).bind λa=>
 match a with
 |.inl b=>
  ab b.1
 |.inr c=>
  (Zb (YU F) F (0,0,c)).bind λd=>
  match d with
  |.inl e=>
   ab e.1
  |.inr f=>
   ab (ah (f.1<=1125899906842624))
def Qb:Fs yb:=⟨70,[.v ax],[],[ax],(zP .bool),λx=>Y9 yD x⟩
theorem SV:Qb.Ok:=aF { still:=[2,54,94]} [(0,ZeP),(2,ZeQ)] [] trivial ⟨ZlR,ZlS,ao⟩
def Xh(F:Nat)(s:(Int×Int×ZG×ZG×Zq×Zq)):yO ((Int×Int×ZG×ZG×Zq×Zq)⊕((Bool×ZG×ZG×Zq×Zq)⊕(Int×ZG×ZG×Zq×Zq))):=
 if(ah (s.2.1 < (s.2.2.2.2.1.1.length:Int)))=af then
  (idx s.2.2.2.2.1.1 s.2.1).bind λa=>
  (idx s.2.2.2.2.2.1 s.2.1).bind λb=>
  if(a !=b)=af then
   ab (.inr (.inl (ag,s.2.2.1,s.2.2.2.1,s.2.2.2.2.1,s.2.2.2.2.2)))
  else
  ab (.inl (s.1,wi (s.2.1+1),s.2.2.1,s.2.2.2.1,s.2.2.2.2.1,s.2.2.2.2.2))
 else
 ab (.inr (.inr (s.1,s.2.2.1,s.2.2.2.1,s.2.2.2.2.1,s.2.2.2.2.2)))
abbrev qU:List bf:=[.var (.v Zk) af,.var (.v Zk) af,.var (.v Zg) af,.var (.v Zg) af]
def ZgL:Lp:=⟨[(2,.am 0 []),(3,.am 1 []),(5,.v yI),(6,.am 2 []),(7,.am 3 []),(8,.v yI)],qU,[yI,yI,Zk,Zk,Zg,Zg],[⟨.ret,[(4,.v .bool)],qU,[.bool,Zk,Zk,Zg,Zg]⟩,⟨.exit 2,[(2,.am 0 []),(3,.am 1 []),(5,.v yI)],qU,[yI,Zk,Zk,Zg,Zg]⟩],Zb (Xh yD) yD⟩
theorem ZmV:ZgL.aT yb 71 1:=Zm { still:=[4]} [] [] trivial
def Wr(F:Nat)(s:(Int×ZG×ZG)):yO ((Int×ZG×ZG)⊕((Bool×ZG×ZG)⊕(ZG×ZG))):=
 if(ah (s.1 < (s.2.1.length:Int)))=af then
  (idx s.2.1 s.1).bind λa=>
  (idx s.2.2 s.1).bind λb=>
  if((a.1.length:Int)!=(b.1.length:Int))=af then
   ab (.inr (.inl (ag,s.2.1,s.2.2)))
  else
  if(a.2.1 !=b.2.1)=af then
   ab (.inr (.inl (ag,s.2.1,s.2.2)))
  else
  if(a.2.2.1 !=b.2.2.1)=af then
   ab (.inr (.inl (ag,s.2.1,s.2.2)))
  else
  if(a.2.2.2 !=b.2.2.2)=af then
   ab (.inr (.inl (ag,s.2.1,s.2.2)))
  else
  (Zb (Xh F) F (s.1,0,s.2.1,s.2.2,a,b)).bind λc=>
  match c with
  |.inl d=>
   ab (.inr (.inl (d.1,d.2.1,d.2.2.1)))
  |.inr e=>
   ab (.inl (wi (e.1+1),e.2.1,e.2.2.1))
 else
 ab (.inr (.inr (s.2.1,s.2.2)))
def ZgM:Lp:=⟨[(2,.am 0 []),(3,.am 1 []),(5,.v yI)],[.var (.v Zk) af,.var (.v Zk) af],[yI,Zk,Zk],[⟨.ret,[(4,.v .bool)],[.var (.v Zk) af,.var (.v Zk) af],[.bool,Zk,Zk]⟩,⟨.exit 0,[],[.var (.v Zk) af,.var (.v Zk) af],[Zk,Zk]⟩],Zb (Wr yD) yD⟩
theorem ZmW:ZgM.aT yb 71 0:=Zm { still:=[4]} [(1,ZgL)] [] trivial ⟨ZmV,ao⟩
def CA(F:Nat)(a0:ZG)(a1:ZG):yO (Bool):=
 if((a0.length:Int)!=(a1.length:Int))=af then
  ab ag
 else
 (Zb (Wr F) F (0,a0,a1)).bind λa=>
 match a with
 |.inl b=>
  ab b.1
 |.inr c=>
  ab af
def ZhM:Fs yb:=⟨71,[.v Zk,.v Zk],[],[Zk,Zk],(zP .bool),λx=>CA yD x.1 x.2⟩
theorem ZqY:ZhM.Ok:=aF { still:=[4]} [(0,ZgM)] [] trivial ⟨ZmW,ao⟩
def SW(F:Nat)(a0:aSy):yO (ZG):=
 if(bN 0 a0.length 8)=af then
  ab [(a0,0,0,0)]
 else
 ae
def Zj2:Fs yb:=⟨142,[.v aSt],[],[aSt],(zP Zk),λx=>SW yD x⟩
theorem Zr8:Zj2.Ok:=aF { own:=[3,5]} [] [] trivial
def CB(F:Nat)(a0:yU):yO (ZG):=
 (SW F [a0]).bind λa=>
 ab a
def Zj3:Fs yb:=⟨72,[.v .u64],[],[.u64],(zP Zk),λx=>CB yD x⟩
theorem Zr9:Zj3.Ok:=aF { still:=[4]} [] [Zj2] ⟨Zr8,ao⟩
def YV(F:Nat)(s:(Bool×Int×aj×Tx)):yO ((Bool×Int×aj×Tx)⊕(Bool×aj×Tx)):=
 if(ah (s.2.1 < (s.2.2.2.1.length:Int)))=af then
  if s.1=af then
   ab (.inl (af,wi (s.2.1+1),s.2.2.1,s.2.2.2))
  else
  (idx s.2.2.2.1 s.2.1).bind λa=>
  ab (.inl (ah (a.1=s.2.2.1.1.1),wi (s.2.1+1),s.2.2.1,s.2.2.2))
 else
 ab (.inr (s.1,s.2.2.1,s.2.2.2))
def ZeR:Lp:=⟨[(2,.am 0 []),(3,.am 1 []),(7,.v .bool),(8,.v yI)],[.var (.v Zc) af,.var (.v ax) af],[.bool,yI,Zc,ax],[⟨.exit 0,[(2,.am 0 []),(3,.am 1 []),(7,.v .bool)],[.var (.v Zc) af,.var (.v ax) af],[.bool,Zc,ax]⟩],Zb (YV yD) yD⟩
def SX:HI:={ own:=[9,68,71],still:=[4,12,14,57,64,65]}
theorem ZlT:ZeR.aT yb 21 0:=Zm SX [] [] trivial
def Yc(F:Nat):(Bool×Int×aj×Tx×aSA)->yO ((Bool×Int×aj×Tx×aSA)⊕(aj×Tx×aSA))
 |(c,a,d,b,e)=>
 if(ah (a < (b.2.1.length:Int)))=af then
  if c=af then
   (idx b.2.1 a).bind λf=>
   if(aS d.2.2.1 2)=af then
    (d.1.2.2.1[d.2.2.1.toNat]?).bind λg=>
    (CB F g.2.1).bind λh=>
    (CA F f.2 h).bind λi=>
    if i=af then
     if(bN e.length 1 8)=af then
      ab (.inl (c,wi (a+1),d,b,e++([a]:yL Int)))
     else
     ae
    else
    ab (.inl (c,wi (a+1),d,b,e))
   else
   ae
  else
  ab (.inr (d,b,e))
 else
 ab (.inr (d,b,e))
def ZeS:Lp:=⟨[(2,.am 0 []),(3,.am 1 []),(7,.v .bool),(9,.own 2 yI),(10,.v yI)],[.var (.v Zc) af,.var (.v ax) af,.log yI 3],[.bool,yI,Zc,ax,aSz],[⟨.exit 2,[(9,.own 2 yI)],[.var (.v Zc) af,.var (.v ax) af,.log yI 3],[Zc,ax,aSz]⟩],Zb (Yc yD) yD⟩
theorem ZlU:ZeS.aT yb 21 1:=Zm SX [] [Zj3,ZhM] ⟨Zr9,ZqY,ao⟩
def Wc(F:Nat)(a0:aj)(a1:Tx):yO (aSA):=
 (YA F a0).bind λa=>
 (Y9 F a1).bind λb=>
 if(!a)=af then
  ab []
 else
 if(!b)=af then
  ab []
 else
 (Zb (YV F) F (ag,0,a0,a1)).bind λc=>
 (Zb (Yc F) F (c.1,0,c.2.1,c.2.2,[])).bind λd=>
 ab d.2.2
def SY:Fs yb:=⟨21,[.v Zc,.v ax],[],[Zc,ax],(zP aSz),λx=>Wc yD x.1 x.2⟩
theorem ZeT:SY.Ok:=aF SX [(0,ZeR),(1,ZeS)] [XK,Qb] ⟨Wl,SV,ao⟩ ⟨ZlT,ZlU,ao⟩
def SZ(F:Nat)(a0:aSl)(a1:Int):yO (aSl):=
 if(bN 0 a0.length 1)=af then
  if(ah (a1 >= 0))=af then
   (BR F a1).bind λa=>
   if(bN a0.length a.length 1)=af then
    ab (a0++a)
   else
   ae
  else
  ab a0
 else
 ae
def ZeU:Fs yb:=⟨179,[.v aSm,.v yI],[],[aSm,yI],[⟨.ret,[(0,.own 0 .u8)],[.log .u8 5],[aSm]⟩],λx=>SZ yD x.1 x.2⟩
def ZVB:HI:={ own:=[4,5,6,8,11,14,15],still:=[12]}
theorem Zoe:ZeU.Ok:=aF ZVB [] [SI] ⟨ZhD,ao⟩
def W6(F:Nat)(a0:aSl)(a1:aSl):yO (aSl):=
 (SZ F a0 (a1.length:Int)).bind λa=>
 if(bN a.length a1.length 1)=af then
  ab (a++a1)
 else
 ae
def Zdd:Fs yb:=⟨198,[.v aSm,.v aSm],[],[aSm,aSm],(zP aSm),λx=>W6 yD x.1 x.2⟩
def ZVC:HI:={ own:=[5,9,10,12],still:=[4,6,8]}
theorem ZlV:Zdd.Ok:=aF ZVC [] [ZeU] ⟨Zoe,ao⟩
def YW(F:Nat)(s:(aSl×Int×Int×ZG×Zq)):yO ((aSl×Int×Int×ZG×Zq)⊕(aSl×Int×ZG×Zq)):=
 if(ah (s.2.2.1 < (s.2.2.2.2.1.length:Int)))=af then
  (idx s.2.2.2.2.1 s.2.2.1).bind λa=>
  (XO F s.1 a).bind λb=>
  ab (.inl (b,s.2.1,wi (s.2.2.1+1),s.2.2.2.1,s.2.2.2.2))
 else
 ab (.inr (s.1,s.2.1,s.2.2.2.1,s.2.2.2.2))
def ZeV:Lp:=⟨[(1,.am 0 []),(3,.v aSm),(4,.v yI),(5,.am 1 []),(6,.v yI)],[.var (.v Zk) af,.var (.v Zg) af],[aSm,yI,yI,Zk,Zg],[⟨.exit 2,[(1,.am 0 []),(3,.v aSm),(4,.v yI),(5,.am 1 [])],[.var (.v Zk) af,.var (.v Zg) af],[aSm,yI,Zk,Zg]⟩],Zb (YW yD) yD⟩
def TA:HI:={ still:=[2,7,12,26,29,38,43,45,47,49,51,53,55]}
theorem ZlW:ZeV.aT yb 199 1:=Zm TA [] [VG] ⟨SK,ao⟩
def X8(F:Nat)(s:(aSl×Int×ZG)):yO ((aSl×Int×ZG)⊕(aSl×ZG)):=
 if(ah (s.2.1 < (s.2.2.length:Int)))=af then
  (idx s.2.2 s.2.1).bind λa=>
  (ZX F s.1 (a.1.length:Int)).bind λb=>
  (Zb (YW F) F (b,s.2.1,0,s.2.2,a)).bind λc=>
  (ZX F c.1 c.2.2.2.2.1).bind λd=>
  (ZX F d c.2.2.2.2.2.1).bind λe=>
  (XO F e c.2.2.2.2.2.2).bind λf=>
  ab (.inl (f,wi (c.2.1+1),c.2.2.1))
 else
 ab (.inr (s.1,s.2.2))
def ZeW:Lp:=⟨[(1,.am 0 []),(3,.v aSm),(4,.v yI)],[.var (.v Zk) af],[aSm,yI,Zk],[⟨.exit 0,[(3,.v aSm)],[.var (.v Zk) af],[aSm,Zk]⟩],Zb (X8 yD) yD⟩
theorem ZlX:ZeW.aT yb 199 0:=Zm TA [(1,ZeV)] [XB,VG] ⟨Wb,SK,ao⟩ ⟨ZlW,ao⟩
def Qv(F:Nat)(a0:ZG):yO (aSl):=
 (Y8 F a0).bind λa=>
 if(!a)=af then
  ab []
 else
 (ZX F [] (a0.length:Int)).bind λb=>
 (Zb (X8 F) F (b,0,a0)).bind λc=>
 ab c.1
def ZgN:Fs yb:=⟨199,[.v Zk],[],[Zk],(zP aSm),λx=>Qv yD x⟩
theorem Zpq:ZgN.Ok:=aF TA [(0,ZeW)] [Qa,XB] ⟨SU,Wb,ao⟩ ⟨ZlX,ao⟩
def YX(F:Nat)(s:(aSl×Int×Tx)):yO ((aSl×Int×Tx)⊕(aSl×Tx)):=
 if(ah (s.2.1 < (s.2.2.1.length:Int)))=af then
  (idx s.2.2.1 s.2.1).bind λa=>
  (YB F s.1 a.1.1).bind λb=>
  (idx s.2.2.1 s.2.1).bind λc=>
  (ZX F b c.1.2).bind λd=>
  ab (.inl (d,wi (s.2.1+1),s.2.2))
 else
 ab (.inr (s.1,s.2.2))
def ZeX:Lp:=⟨[(1,.am 0 []),(3,.v aSm),(4,.v yI)],[.var (.v ax) af],[aSm,yI,ax],[⟨.exit 0,[(1,.am 0 []),(3,.v aSm)],[.var (.v ax) af],[aSm,ax]⟩],Zb (YX yD) yD⟩
def TB:HI:={ still:=[2,8,17,24,26,33,35,38,47,53,55,61,62,64,66]}
theorem ZlY:ZeX.aT yb 129 0:=Zm TB [] [W3,XB] ⟨QK,Wb,ao⟩
def YY(F:Nat)(s:(aSl×Int×Tx)):yO ((aSl×Int×Tx)⊕(aSl×Tx)):=
 if(ah (s.2.1 < (s.2.2.2.1.length:Int)))=af then
  (idx s.2.2.2.1 s.2.1).bind λa=>
  (ZX F s.1 a.1).bind λb=>
  (idx s.2.2.2.1 s.2.1).bind λc=>
  (Qv F c.2).bind λd=>
  (W6 F b d).bind λe=>
  ab (.inl (e,wi (s.2.1+1),s.2.2))
 else
 ab (.inr (s.1,s.2.2))
def ZeY:Lp:=⟨[(1,.am 0 []),(3,.v aSm),(5,.v yI)],[.var (.v ax) af],[aSm,yI,ax],[⟨.exit 2,[(1,.am 0 []),(3,.v aSm)],[.var (.v ax) af],[aSm,ax]⟩],Zb (YY yD) yD⟩
theorem ZlZ:ZeY.aT yb 129 1:=Zm TB [] [XB,ZgN,Zdd] ⟨Wb,Zpq,ZlV,ao⟩
def Qw(F:Nat)(a0:Tx):yO (aSl):=
 (ZX F [] (a0.1.length:Int)).bind λa=>
 (Zb (YX F) F (a,0,a0)).bind λb=>
 (ZX F b.1 (b.2.2.1.length:Int)).bind λc=>
 (Zb (YY F) F (c,0,b.2)).bind λd=>
 (ZX F d.1 d.2.2.2).bind λe=>
 ab e
def ZgO:Fs yb:=⟨129,[.v ax],[],[ax],(zP aSm),λx=>Qw yD x⟩
theorem Zpr:ZgO.Ok:=aF TB [(0,ZeX),(1,ZeY)] [XB] ⟨Wb,ao⟩ ⟨ZlY,ZlZ,ao⟩
def WC(F:Nat)(a0:Tx):yO (aSl):=
 (Y9 F a0).bind λa=>
 if(!a)=af then
  ab ct
 else
 (Qw F a0).bind λb=>
 (YD F OW [b]).bind λc=>
 ab c
def TC:Fs yb:=⟨59,[.v ax],[],[ax],(zP aSn),λx=>WC yD x⟩
theorem Zj4:TC.Ok:=aF { still:=[3,7,9]} [] [Qb,ZgO,XA] ⟨SV,Zpr,Wa,ao⟩
def ZVD:HI:={ own:=[25,29,33,36,74,77,81,84,88,91],eJ:=[(3,[([1],Zw,83)])]}
def ZUL:yL bf:=[.var (.v ax) af,.var (.v ax) af,.var (.agg [.rw 4,.own 3 Zw,.v yI]) af,.log Zw 83,.row bj af 131,.var (.agg [.v yI,.agg [.own 6 Zg]]) af,.log Zg 145]
abbrev ZVE:yL Ty:=[yI,ax,ax,yI,aSq,aSo,aSs,yI,aSw]
abbrev ZVF:yL Ty:=[yI,yI,ax,ax,yI,aSq,aSo,aSs,yI,aSw]
def TE:HI:={ own:=[25,29,33,36,74,77,81,84,88,91],eJ:=[(3,[([1],Zw,83)]),(7,[([1,0],Zg,145)])]}
def Yu(F:Nat):(Int×Tx×Tx×Int×aSv×aSp×aSu)->yO ((Int×Tx×Tx×Int×aSv×aSp×aSu)⊕(Tx×Tx×Int×aSv×aSp×aSu))
 |(a,b,d,e,f,g,c)=>
 if(ah (a < (b.1.length:Int)))=af then
  (idx b.1 a).bind λh=>
  if(bN 0 h.2.2.1.length 16)=af then
   if(bN c.length 1 80)=af then
    let i:aSu:=c++([(h.1,(h.2.1,h.2.2.1,h.2.2.2))]:yL In)
    ab (.inl (wi (a+1),b,d,e,f,()::g,i))
   else
   ae
  else
  ae
 else
 ab (.inr (b,d,e,f,g,c))
abbrev zD:List bf:=[.var (.v ax) af,.var (.v ax) af,.var (.agg [.rw 4,.own 3 Zw,.v yI]) af,.log Zw 83,.row bj af 131]
def Zde:Lp:=⟨[(1,.am 0 []),(2,.am 1 []),(3,.am 2 []),(4,.v yI)],zD,[yI,ax,ax,yI,aSq,aSo,aSs],[⟨.exit 0,[(1,.am 0 []),(2,.am 1 []),(3,.am 2 [])],zD,[ax,ax,yI,aSq,aSo,aSs]⟩],Zb (Yu yD) yD⟩
theorem Zj5:Zde.aT yb 130 0:=Zm ZVD [] [] trivial
def Yw(F:Nat):(Int×Int×Tx×Tx×Int×aSv×aSp×aSu×Int×aSx)->yO ((Int×Int×Tx×Tx×Int×aSv×aSp×aSu×Int×aSx)⊕(Int×Tx×Tx×Int×aSv×aSp×aSu×Int×aSx))
 |(b,c,a,e,f,g,h,i,j,d)=>
 (idx a.2.1 b).bind λk=>
 if(ah (c < (k.2.length:Int)))=af then
  (idx a.2.1 b).bind λl=>
  (idx l.2 c).bind λm=>
  if(bN 0 m.1.length 8)=af then
   if(bN d.length 1 48)=af then
    let n:aSx:=d++([(m.1,m.2.1,m.2.2.1,m.2.2.2)]:yL Zq)
    ab (.inl (b,wi (c+1),a,e,f,g,h,i,j,n))
   else
   ae
  else
  ae
 else
 ab (.inr (b,a,e,f,g,h,i,j,d))
def Zdf:Lp:=⟨[(1,.am 0 []),(2,.am 1 []),(3,.am 2 []),(6,.v yI),(7,.am 5 []),(8,.v yI)],ZUL,ZVF,[⟨.exit 4,[(1,.am 0 []),(2,.am 1 []),(3,.am 2 []),(6,.v yI),(7,.am 5 [])],ZUL,ZVE⟩],Zb (Yw yD) yD⟩
theorem Zj6:Zdf.aT yb 130 2:=Zm TE [] [] trivial
def Xs(F:Nat):(Int×Tx×Tx×Int×aSv×aSp×aSu)->yO ((Int×Tx×Tx×Int×aSv×aSp×aSu)⊕(Tx×Tx×Int×aSv×aSp×aSu))
 |(j,k,l,m,n,o,p)=>
 if(ah (j < (k.2.1.length:Int)))=af then
  (idx k.2.1 j).bind λq=>
  (Zb (Yw F) F (j,0,k,l,m,n,o,p,q.1,[])).bind λ(d,e,f,g,a,h,i,b,c)=>
  if(bN a.length 1 32)=af then
   let r:aSv:=a++([(b,c)]:yL Out)
   ab (.inl (wi (d+1),e,f,g,r,h,i))
  else
  ae
 else
 ab (.inr (k,l,m,n,o,p))
def Zdg:Lp:=⟨[(1,.am 0 []),(2,.am 1 []),(3,.am 2 []),(6,.v yI)],zD,[yI,ax,ax,yI,aSq,aSo,aSs],[⟨.exit 2,[(2,.am 1 []),(3,.am 2 [])],zD,[ax,ax,yI,aSq,aSo,aSs]⟩],Zb (Xs yD) yD⟩
theorem Zj7:Zdg.aT yb 130 1:=Zm TE [(2,Zdf)] [] trivial ⟨Zj6,ao⟩
def Ws(F:Nat)(a0:Tx):yO ((Int×aSp×aSu×aSv)):=
 (Zb (Yu F) F (0,a0,([],[],0),a0.2.2,[],[],[])).bind λ(e,f,g,h,i,j)=>
 (Zb (Xs F) F (0,e,f,g,h,i,j)).bind λ(_,_,a,d,b,c)=>
 ab (a,b,c,d)
def Zek:Fs yb:=⟨130,[.v ax],[],[ax],[⟨.ret,[(0,.agg [.rw 0,.own 1 Zw,.v yI])],[.row bj af 131,.log Zw 83],[yI,aSo,aSs,aSq]⟩],λx=>Ws yD x⟩
theorem ZmX:Zek.Ok:=pI (fi:={ hi:=TE,lp:=[(0,Zde),(1,Zdg)],gh:=[(3,.bM 3 [0] bj 131)]}) (aB:={ l:=[]}) (iw trivial) ⟨Zj5,Zj7,ao⟩
def Wt(F:Nat):(Int×aSy×qF)->yO ((Int×aSy×qF)⊕((qF)⊕(qF)))
 |(h,b,a,c,i,d,e,f,g)=>
 if(ah (a < (b.length:Int)))=af then
  (idx b a).bind λj=>
  if(j==0)=af then
   ab (.inr (.inl (1,c,([],[],0),d,e,f,g)))
  else
  (idx b a).bind λk=>
  if(ah (k >= 2305843009213688669))=af then
   ab (.inr (.inl (1,c,([],[],0),d,e,f,g)))
  else
  (idx b a).bind λl=>
  (VC F l g).bind λm=>
  if(bN f.length 1 16)=af then
   ab (.inl (h,b,wi (a+1),c,i,d,e,f++([m]:yL dQ),g))
  else
  ae
 else
 ab (.inr (.inr (h,c,i,d,e,f,g)))
def ZgP:Lp:=⟨[(1,.v yI),(3,.v aSt),(5,.am 0 []),(10,.am 1 []),(12,.am 2 []),(13,.am 4 []),(14,.v yI)],zN,[yI,aSt,yI,ax,ax,yI,.u64,aSK,aSn],[⟨.ret,[(10,.am 1 []),(11,.v yI)],zN,[yI,ax,ax,yI,.u64,aSK,aSn]⟩,⟨.exit 0,[(1,.v yI),(5,.am 0 []),(10,.am 1 []),(12,.am 2 [])],zN,[yI,ax,ax,yI,.u64,aSK,aSn]⟩],Zb (Wt yD) yD⟩
def ZUM:HI:={ own:=[69,77],still:=[11,16,47,73,74,79],bM:=[82],deep:=[45,52],eJ:=[(12,[([1],WV,63)])]}
theorem ZmY:ZgP.aT yb 60 0:=Zm ZUM [] [ST] ⟨ZgK,ao⟩
def CC(F:Nat)(a0:Tx)(a1:Int)(a2:Int)(a3:aSy)(a4:yU):yO ((Tx×Int)):=
 (Y9 F a0).bind λf=>
 if(!f)=af then
  ab (([],[],0),1)
 else
 if(ah (a1 < 0))=af then
  ab (([],[],0),1)
 else
 if(ah (a1 >= (a0.1.length:Int)))=af then
  ab (([],[],0),1)
 else
 if(ah (a2 < 0))=af then
  ab (([],[],0),1)
 else
 if(ah (a2 > 3))=af then
  ab (([],[],0),1)
 else
 if(ah ((a3.length:Int) > 12))=af then
  ab (([],[],0),1)
 else
 (WC F a0).bind λg=>
 (Zb (Wt F) F (a1,a3,0,a0,([],[],0),a2,a4,[],g)).bind λh=>
 match h with
 |.inl (b,_,a,_,_,_,_)=>
  ab (a,b)
 |.inr (b,a,_,c,e,d,_)=>
  (Ws F a).bind λi=>
  if(aS b i.2.2.1.length)=af then
   (i.2.2.1[b.toNat]?).bind λj=>
   let k:aSu:=i.2.2.1.set b.toNat (j.1,(c,d,e))
   ab ((k,i.2.2.2,i.1),0)
  else
  ae
def ZhN:Fs yb:=⟨60,[.v ax,.v yI,.v yI,.v aSt,.v .u64],[],[ax,yI,yI,aSt,.u64],[⟨.ret,[(0,.bi [.v ax,.v yI])],[],[ax,yI]⟩],λx=>CC yD x.1 x.2.1 x.2.2.1 x.2.2.2.1 x.2.2.2.2⟩
theorem ZqZ:ZhN.Ok:=xn (fi:={ hi:=ZUM,lp:=[(0,ZgP)]}) (aB:={ l:=[Qb,TC,Zek]}) (iw ⟨SV,Zj4,ZmX,ao⟩) ⟨ZmY,ao⟩
def YZ(F:Nat):(Int×aSA×Int×Int×aj×Tx×ZG×Tx×Int×aSu×aSv)->yO ((Int×aSA×Int×Int×aj×Tx×ZG×Tx×Int×aSu×aSv)⊕(Int×aSA×Int×aj×Tx×ZG×Tx×Int×aSu×aSv))
 |(e,b,f,a,g,c,h,i,j,d,k)=>
 if(ah (a < (b.length:Int)))=af then
  (idx b a).bind λl=>
  (idx c.2.1 l).bind λm=>
  (WC F c).bind λn=>
  (idx b a).bind λo=>
  if(bN d.length 1 80)=af then
   let p:aSu:=d++([((n,o),(0,[],0))]:yL In)
   ab (.inl (e,b,wi (f+m.1),wi (a+1),g,c,h,i,j,p,k))
  else
  ae
 else
 ab (.inr (e,b,f,g,c,h,i,j,d,k))
abbrev ZVG:yL Ty:=[yI,aSz,yI,yI,Zc,ax,Zk,ax,yI,aSs,aSq]
def ZeZ:Lp:=⟨[(3,.v yI),(4,.am 0 []),(5,.am 1 []),(6,.am 2 []),(8,.am 3 []),(11,.v aSz),(12,.v yI),(13,.am 4 []),(14,.v yI)],AX,ZVG,[⟨.exit 0,[(3,.v yI),(4,.am 0 []),(6,.am 2 []),(8,.am 3 []),(11,.v aSz),(12,.v yI),(13,.am 4 [])],AX,tL6⟩],Zb (YZ yD) yD⟩
def TF:HI:={ own:=[52,62],still:=[9,18,27,28,53,82,83,87],bP:=[(13,[([0],bj,131),([1],Zw,83)])]}
theorem Zl0:ZeZ.aT yb 15 0:=Zm TF [] [TC] ⟨Zj4,ao⟩
def Y2(F:Nat):(aSA×Int×qD)->yO ((aSA×Int×qD)⊕(qD))
 |(b,a,d,e,f,g,c,h,i)=>
 if(ah (a < (b.length:Int)))=af then
  (CC F c a 0 [d.2.1.2.1] 0).bind λj=>
  ab (.inl (b,wi (a+1),d,e,f,g,j.1,h,i))
 else
 ab (.inr (d,e,f,g,c,h,i))
def Ze0:Lp:=⟨[(4,.am 0 []),(8,.am 3 []),(11,.v aSz),(13,.am 4 []),(15,.v yI)],zT,[aSz,yI,Zc,ax,Zk,ax,ax,aSs,aSq],[⟨.exit 2,[(8,.am 3 []),(13,.am 4 [])],zT,[Zc,ax,Zk,ax,ax,aSs,aSq]⟩],Zb (Y2 yD) yD⟩
theorem Zl1:Ze0.aT yb 15 1:=Zm TF [] [ZhN] ⟨ZqZ,ao⟩
def Qx(F:Nat)(a0:aj)(a1:Tx)(a2:ZG)(a3:Int):yO ((Tx×Int)):=
 (Y8 F a2).bind λl=>
 if(!l)=af then
  ab (([],[],0),1)
 else
 if(ah (a3 < 0))=af then
  ab (([],[],0),1)
 else
 (Wc F a0 a1).bind λm=>
 if((m.length:Int)==0)=af then
  ab (([],[],0),5)
 else
 (Zb (YZ F) F (a3,m,0,0,a0,a1,a2,([],[],0),0,[],[])).bind λ(c,d,b,e,f,g,h,j,i,k)=>
 if(ah (b < c))=af then
  ab (([],[],0),8)
 else
 (Zb (Y2 F) F (d,0,e,f,g,h,(i,[(wi (b - c),g)],j),i,k)).bind λ(_,_,_,_,a,_,_)=>
 ab (a,0)
def ZgQ:Fs yb:=⟨15,[.v Zc,.v ax,.v Zk,.v yI],[],[Zc,ax,Zk,yI],[⟨.ret,[(0,.bi [.v ax,.v yI])],[],[ax,yI]⟩],λx=>Qx yD x.1 x.2.1 x.2.2.1 x.2.2.2⟩
theorem Zps:ZgQ.Ok:=pI (fi:={ hi:=TF,lp:=[(0,ZeZ),(1,Ze0)],gh:=[(22,.flat 13)]}) (aB:={ l:=[Qa,SY]}) (iw ⟨SU,ZeT,ao⟩) ⟨Zl0,Zl1,ao⟩
def Xi(F:Nat)(s:(aSA×aSA×Int)):yO ((aSA×aSA×Int)⊕(Bool⊕Unit)):=
 if(ah (s.2.2 < (s.1.length:Int)))=af then
  (idx s.1 s.2.2).bind λa=>
  (idx s.2.1 s.2.2).bind λb=>
  if(a !=b)=af then
   ab (.inr (.inl ag))
  else
  ab (.inl (s.1,s.2.1,wi (s.2.2+1)))
 else
 ab (.inr (.inr ()))
def ZgR:Lp:=⟨[(0,.v aSz),(1,.v aSz),(5,.v yI)],[],[aSz,aSz,yI],[⟨.ret,[(4,.v .bool)],[],[.bool]⟩,⟨.exit 0,[],[],[]⟩],Zb (Xi yD) yD⟩
theorem ZmZ:ZgR.aT yb 19 0:=Zm { still:=[4]} [] [] trivial
def CD(F:Nat)(a0:aSA)(a1:aSA):yO (Bool):=
 if((a0.length:Int)!=(a1.length:Int))=af then
  ab ag
 else
 (Zb (Xi F) F (a0,a1,0)).bind λa=>
 match a with
 |.inl b=>
  ab b
 |.inr c=>
  ab af
def ZhO:Fs yb:=⟨19,[.v aSz,.v aSz],[],[aSz,aSz],(zP .bool),λx=>CD yD x.1 x.2⟩
theorem Zq0:ZhO.Ok:=aF { still:=[4]} [(0,ZgR)] [] trivial ⟨ZmZ,ao⟩
def Yx(F:Nat)(s:(Int×XT×XT)):yO ((Int×XT×XT)⊕((Bool×XT×XT)⊕(XT×XT))):=
 if(ah (s.1 < (s.2.1.2.1.length:Int)))=af then
  (idx s.2.1.2.1 s.1).bind λa=>
  (idx s.2.2.2.1 s.1).bind λb=>
  if(!(ah (a=b)))=af then
   ab (.inr (.inl (ag,s.2.1,s.2.2)))
  else
  ab (.inl (wi (s.1+1),s.2.1,s.2.2))
 else
 ab (.inr (.inr (s.2.1,s.2.2)))
def Zdh:Lp:=⟨[(2,.am 0 []),(3,.am 1 []),(5,.v yI)],[.var (.v Ya) af,.var (.v Ya) af],[yI,Ya,Ya],[⟨.ret,[(4,.v .bool)],[.var (.v Ya) af,.var (.v Ya) af],[.bool,Ya,Ya]⟩,⟨.exit 0,[],[.var (.v Ya) af,.var (.v Ya) af],[Ya,Ya]⟩],Zb (Yx yD) yD⟩
theorem Zj8:Zdh.aT yb 73 0:=Zm { still:=[4]} [] [] trivial
def VI(F:Nat)(a0:XT)(a1:XT):yO (Bool):=
 if(a0.1 !=a1.1)=af then
  ab ag
 else
 if(a0.2.2 !=a1.2.2)=af then
  ab ag
 else
 if((a0.2.1.length:Int)!=(a1.2.1.length:Int))=af then
  ab ag
 else
 (Zb (Yx F) F (0,a0,a1)).bind λa=>
 match a with
 |.inl b=>
  ab b.1
 |.inr c=>
  ab af
def Zel:Fs yb:=⟨73,[.v Ya,.v Ya],[],[Ya,Ya],(zP .bool),λx=>VI yD x.1 x.2⟩
theorem Zm0:Zel.Ok:=aF { still:=[4]} [(0,Zdh)] [] trivial ⟨Zj8,ao⟩
def Xj(F:Nat)(s:(Int×Int×ZG×ZG×Zq×Zq)):yO ((Int×Int×ZG×ZG×Zq×Zq)⊕((Bool×ZG×ZG×Zq×Zq)⊕(Int×ZG×ZG×Zq×Zq))):=
 if(ah (s.2.1 < (s.2.2.2.2.1.1.length:Int)))=af then
  (idx s.2.2.2.2.1.1 s.2.1).bind λa=>
  (idx s.2.2.2.2.2.1 s.2.1).bind λb=>
  if(a !=b)=af then
   ab (.inr (.inl (ag,s.2.2.1,s.2.2.2.1,s.2.2.2.2.1,s.2.2.2.2.2)))
  else
  ab (.inl (s.1,wi (s.2.1+1),s.2.2.1,s.2.2.2.1,s.2.2.2.2.1,s.2.2.2.2.2))
 else
 ab (.inr (.inr (s.1,s.2.2.1,s.2.2.2.1,s.2.2.2.2.1,s.2.2.2.2.2)))
def ZgS:Lp:=⟨[(2,.am 0 []),(3,.am 1 []),(5,.v yI),(6,.am 2 []),(7,.am 3 []),(8,.v yI)],qU,[yI,yI,Zk,Zk,Zg,Zg],[⟨.ret,[(4,.v .bool)],qU,[.bool,Zk,Zk,Zg,Zg]⟩,⟨.exit 2,[(2,.am 0 []),(3,.am 1 []),(5,.v yI)],qU,[yI,Zk,Zk,Zg,Zg]⟩],Zb (Xj yD) yD⟩
theorem Zm1:ZgS.aT yb 74 1:=Zm { still:=[4]} [] [] trivial
def Xk(F:Nat)(s:(Int×ZG×ZG)):yO ((Int×ZG×ZG)⊕((Bool×ZG×ZG)⊕(ZG×ZG))):=
 if(ah (s.1 < (s.2.1.length:Int)))=af then
  (idx s.2.1 s.1).bind λa=>
  (idx s.2.2 s.1).bind λb=>
  if(a.2.1 !=b.2.1)=af then
   ab (.inr (.inl (ag,s.2.1,s.2.2)))
  else
  if(a.2.2.1 !=b.2.2.1)=af then
   ab (.inr (.inl (ag,s.2.1,s.2.2)))
  else
  if(a.2.2.2 !=b.2.2.2)=af then
   ab (.inr (.inl (ag,s.2.1,s.2.2)))
  else
  if((a.1.length:Int)!=(b.1.length:Int))=af then
   ab (.inr (.inl (ag,s.2.1,s.2.2)))
  else
  (Zb (Xj F) F (s.1,0,s.2.1,s.2.2,a,b)).bind λc=>
  match c with
  |.inl d=>
   ab (.inr (.inl (d.1,d.2.1,d.2.2.1)))
  |.inr e=>
   ab (.inl (wi (e.1+1),e.2.1,e.2.2.1))
 else
 ab (.inr (.inr (s.2.1,s.2.2)))
def ZgT:Lp:=⟨[(2,.am 0 []),(3,.am 1 []),(5,.v yI)],[.var (.v Zk) af,.var (.v Zk) af],[yI,Zk,Zk],[⟨.ret,[(4,.v .bool)],[.var (.v Zk) af,.var (.v Zk) af],[.bool,Zk,Zk]⟩,⟨.exit 0,[],[.var (.v Zk) af,.var (.v Zk) af],[Zk,Zk]⟩],Zb (Xk yD) yD⟩
theorem Zm2:ZgT.aT yb 74 0:=Zm { still:=[4]} [(1,ZgS)] [] trivial ⟨Zm1,ao⟩
def CE(F:Nat)(a0:ZG)(a1:ZG):yO (Bool):=
 if((a0.length:Int)!=(a1.length:Int))=af then
  ab ag
 else
 (Zb (Xk F) F (0,a0,a1)).bind λa=>
 match a with
 |.inl b=>
  ab b.1
 |.inr c=>
  ab af
def ZhP:Fs yb:=⟨74,[.v Zk,.v Zk],[],[Zk,Zk],(zP .bool),λx=>CE yD x.1 x.2⟩
theorem Zq1:ZhP.Ok:=aF { still:=[4]} [(0,ZgT)] [] trivial ⟨Zm2,ao⟩
def Xl(F:Nat)(s:(Int×Tx×Tx)):yO ((Int×Tx×Tx)⊕((Bool×Tx×Tx)⊕(Tx×Tx))):=
 if(ah (s.1 < (s.2.1.1.length:Int)))=af then
  (idx s.2.1.1 s.1).bind λa=>
  (idx s.2.2.1 s.1).bind λb=>
  if(!(ah (a.1=b.1)))=af then
   ab (.inr (.inl (ag,s.2.1,s.2.2)))
  else
  (idx s.2.1.1 s.1).bind λc=>
  (idx s.2.2.1 s.1).bind λd=>
  (VI F c.2 d.2).bind λe=>
  if(!e)=af then
   ab (.inr (.inl (ag,s.2.1,s.2.2)))
  else
  ab (.inl (wi (s.1+1),s.2.1,s.2.2))
 else
 ab (.inr (.inr (s.2.1,s.2.2)))
def ZgU:Lp:=⟨[(2,.am 0 []),(3,.am 1 []),(5,.v yI)],[.var (.v ax) af,.var (.v ax) af],[yI,ax,ax],[⟨.ret,[(4,.v .bool)],[.var (.v ax) af,.var (.v ax) af],[.bool,ax,ax]⟩,⟨.exit 0,[(2,.am 0 []),(3,.am 1 [])],[.var (.v ax) af,.var (.v ax) af],[ax,ax]⟩],Zb (Xl yD) yD⟩
theorem Zm3:ZgU.aT yb 22 0:=Zm { still:=[4,56,62,92,98]} [] [Zel] ⟨Zm0,ao⟩
def Xm(F:Nat)(s:(Int×Tx×Tx)):yO ((Int×Tx×Tx)⊕((Bool×Tx×Tx)⊕(Tx×Tx))):=
 if(ah (s.1 < (s.2.1.2.1.length:Int)))=af then
  (idx s.2.1.2.1 s.1).bind λa=>
  (idx s.2.2.2.1 s.1).bind λb=>
  if(a.1 !=b.1)=af then
   ab (.inr (.inl (ag,s.2.1,s.2.2)))
  else
  (idx s.2.1.2.1 s.1).bind λc=>
  (idx s.2.2.2.1 s.1).bind λd=>
  (CE F c.2 d.2).bind λe=>
  if(!e)=af then
   ab (.inr (.inl (ag,s.2.1,s.2.2)))
  else
  ab (.inl (wi (s.1+1),s.2.1,s.2.2))
 else
 ab (.inr (.inr (s.2.1,s.2.2)))
def ZgV:Lp:=⟨[(2,.am 0 []),(3,.am 1 []),(6,.v yI)],[.var (.v ax) af,.var (.v ax) af],[yI,ax,ax],[⟨.ret,[(4,.v .bool)],[.var (.v ax) af,.var (.v ax) af],[.bool,ax,ax]⟩,⟨.exit 2,[],[.var (.v ax) af,.var (.v ax) af],[ax,ax]⟩],Zb (Xm yD) yD⟩
theorem Zm4:ZgV.aT yb 22 1:=Zm { still:=[4,56,62,92,98]} [] [ZhP] ⟨Zq1,ao⟩
def WD(F:Nat)(a0:Tx)(a1:Tx):yO (Bool):=
 if(a0.2.2 !=a1.2.2)=af then
  ab ag
 else
 if((a0.1.length:Int)!=(a1.1.length:Int))=af then
  ab ag
 else
 if((a0.2.1.length:Int)!=(a1.2.1.length:Int))=af then
  ab ag
 else
 (Zb (Xl F) F (0,a0,a1)).bind λa=>
 match a with
 |.inl b=>
  ab b.1
 |.inr c=>
  (Zb (Xm F) F (0,c.1,c.2)).bind λd=>
  match d with
  |.inl e=>
   ab e.1
  |.inr f=>
   ab af
def ZhQ:Fs yb:=⟨22,[.v ax,.v ax],[],[ax,ax],(zP .bool),λx=>WD yD x.1 x.2⟩
theorem Zq2:ZhQ.Ok:=aF { still:=[4,56,62,92,98]} [(0,ZgU),(1,ZgV)] [] trivial ⟨Zm3,Zm4,ao⟩
end
end Go.Proofs.YtekdgjajmennjaaGreat
end
section
set_option maxRecDepth 4000
namespace Go.Proofs.YtekdgjajmennjaaGreat
open Go Go.Ev
theorem ZOT{m:Nat}(hm:0 < m):∀(f a n o:Nat),o < m->fa m f a n o < m
 |0,_,_,o,h=>h
 |f+1,a,n,o,h=>by
  rw[fa];split
  .exact h
  .refine ZOT hm f _ _ _ ?_;split
   .exact ybb _ hm
   .exact h
theorem ZOU{m:Nat}(hm:1 < m)(k a n:Nat)(h:n < 2 ^ k):fa m k a n 1=a ^ n % m:=by
 rw[<-yaf (ZOT (by omega) k a n 1 hm),LN k a n 1 h,Nat.one_mul]
instance(a:Nat):Decidable (cZ a):=by unfold cZ;infer_instance
theorem ZTv{z:Nat}(h:z < dw):z < 18446744073709551616:=Nat.lt_trans h (by decide)
theorem ul{z:Nat}(h:z < dw):(yv z).toNat=z:=by
 rw[yan,yaf (ZTv h)]
theorem qn(z:Nat):z % dw < dw:=ybb _ (by decide)
theorem TG(a n:yU):pP yD a n=ab (yv (a.toNat ^ n.toNat % dw)):=by
 unfold pP;rw[ZOU (by decide) 64 a.toNat n.toNat (ybt n)];rfl
theorem ZDb{a n:yU}(h:a.toNat < dw):Y6 yD a n=ab (yv (a.toNat ^ n.toNat % dw)):=by
 unfold Y6;rw[yW (yY (show a.toNat < 4611686018427377339 from h)),ZOU (by decide) 64 a.toNat n.toNat (ybt n)]
 rfl
theorem ZOV{z:Nat}(h:z < dw):(yv z==1)=ah (z=1):=by
 rw[Bool.eq_iff_iff,yT,yN, <-ybz,ul h];rfl
theorem qo(p:yU):XX yD p=ab (ah (cZ p.toNat)):=by
 unfold XX;by_cases h1:0 < p.toNat
 .rw[yW (yY (show p > 0 from ycc.2 h1))]
  by_cases h2:p.toNat < dw
  .rw[yW (yY (show p < 4611686018427377339 from ycc.2 h2)),TG,ya,ZOV (qn _)]
   congr 1;rw[decide_eq_decide];exact⟨λh=>⟨h1,h2,h⟩,λh=>h.2.2⟩
  .rw[yX (by rw[yN];exact λh=>h2 (ycc.1 h)),yZ (λh=>h2 h.2.1)]
 .rw[yX (by rw[yN];exact λh=>h1 (ycc.1 h)),yZ (λh=>h1 h.1)]
theorem CF(p:yU):Y7 yD p=ab (ah (cZ p.toNat)):=by
 unfold Y7;by_cases h1:0 < p.toNat
 .rw[yW (yY (show p >= 1 from ycp.2 h1))]
  by_cases h2:p.toNat < dw
  .rw[yW (yY (show p < 4611686018427377339 from ycc.2 h2)),ZDb h2,ya,ZOV (qn _)]
   congr 1;rw[decide_eq_decide];exact⟨λh=>⟨h1,h2,h⟩,λh=>h.2.2⟩
  .rw[yX (by rw[yN];exact λh=>h2 (ycc.1 h)),yZ (λh=>h2 h.2.1)]
 .rw[yX (by rw[yN];exact λh=>h1 (ycp.1 h)),yZ (λh=>h1 h.1)]
def tk(p:yU):yU:=if cZ p.toNat then p else 1
theorem um(p:yU):cZ (tk p).toNat:=by
 unfold tk;split
 .assumption
 .exact LO
theorem qp{p:yU}(h:cZ p.toNat):tk p=p:=yW h
theorem TH(p:yU):pS yD p=ab (tk p):=by
 unfold pS tk;rw[qo,ya];by_cases h:cZ p.toNat
 .rw[yW (yY h),yW h]
 .rw[yX (by rw[yN];exact h),yX h]
theorem TI(p:yU):X9 yD p=ab (tk p):=by
 unfold X9 tk;rw[CF,ya];by_cases h:cZ p.toNat
 .rw[yW (yY h),yW h]
 .rw[yX (by rw[yN];exact h),yX h]
def sc(p:yU)(n:Nat):yU:=yv ((tk p).toNat ^ n % dw)
theorem CH(p:yU)(n:Nat):(sc p n).toNat=(tk p).toNat ^ n % dw:=ul (qn _)
theorem ZUN(p:yU)(n:Nat):cZ (sc p n).toNat:=by
 rw[CH];exact ZS2 (um p) n
theorem TJ(p:yU)(n:Nat):sc p (n % bO)=sc p n:=by
 unfold sc;rw[ZQN (um p)]
theorem jN(k:yU):(k % 2305843009213688669).toNat=k.toNat % bO:=by
 rw[UInt64.toNat_mod];rfl
theorem ZHg(p k:yU):Q2 yD p k=ab (sc p k.toNat):=by
 unfold Q2;rw[TH,ya,TG,ya,jN, <-TJ];rfl
theorem ZL3(p k:yU):Qo yD p k=ab (sc p k.toNat):=by
 unfold Qo;rw[TI,ya,ZDb (um p).2.1,ya,jN, <-TJ];rfl
def B(n:Nat):yU:=sc 4 n
theorem tk4:tk 4=4:=qp ZOz
theorem lB(n:Nat):(B n).toNat=4 ^ n % dw:=by
 unfold B;rw[CH,tk4];rfl
theorem mO(n:Nat):cZ (B n).toNat:=ZUN 4 n
theorem TK(n:Nat):B (n % bO)=B n:=TJ 4 n
theorem ZVH{n:Nat}(h0:0 < n)(h1:n < bO):B n≠1:=λe=>ZS3 h0 h1 (by rw[<-lB,e];rfl)
theorem kv(k:yU):Xb yD k=ab (B k.toNat):=by
 unfold Xb;rw[ZHg,ya];rfl
theorem oE(k:yU):Yd yD k=ab (B k.toNat):=by
 unfold Yd;rw[ZL3,ya];rfl
def ad(p q:yU):yU:=yv ((tk p).toNat*(tk q).toNat % dw)
theorem ZTw(p q:yU):(ad p q).toNat=(tk p).toNat*(tk q).toNat % dw:=ul (qn _)
theorem ZOX(a b:yU):YC yD a b=ab (yv (a.toNat*b.toNat % dw)):=ZGW a b
def gy:yL yU->Nat->Nat
 |[],o=>o
 |p::r,o=>gy r (o*(tk p).toNat % dw)
theorem ZKH:∀(l:yL yU)(o:Nat),o < dw->gy l o < dw
 |[],o,h=>h
 |p::r,o,h=>ZKH r _ (qn _)
theorem ZOY{l:yL yU}(hl:l.length<=1000):tQ yD l=ab (yv (gy l 1)):=by
 have key:∀(k:Nat),k<=l.length->gy (l.take k) 1 < dw:=λk _=>ZKH _ _ (by decide)
 have app:∀(l:yL yU)(p:yU)(o:Nat),gy (l++[p]) o=gy l o*(tk p).toNat % dw:=by
  intro l
  induction l with
  |nil=>intro p o;rfl
  |cons q r ih=>intro p o;exact ih p _
 unfold tQ
 rw[show((1:yU),l,(l.length:Int),(0:Int))=(λk:Nat=>(yv (gy (l.take k) 1),l,(l.length:Int),(k:Int))) 0 from rfl,
  Zu (x:=yv (gy l 1)) l.length (λk:Nat=>(yv (gy (l.take k) 1),l,(l.length:Int),(k:Int))) ?_ ?_ (by omega),ya]
 .intro k hk;obtain⟨e,he,_⟩:=Zf hk;unfold zr;dsimp only;rw[yW (ZE hk),Zj he,ya,TH,ya,ZOX,ya,Zn (by omega),XU he,app,ul (key k (by omega))]
 .unfold zr;dsimp only;rw[yX (by rw[ZA];decide),yai]
theorem ZOZ(p q:yU):pX yD p q=ab (ad p q):=by
 unfold pX;rw[ZOY (by simp),ya];unfold ad gy gy gy;rw[Nat.one_mul,yaf (um p).2.1]
theorem ZTx(p:yU):BH yD p=ab (sc p (bO - 1)):=by
 unfold BH;rw[TH,ya,TG,ya];rfl
theorem uo{z:Nat}:(yv (z % bO)).toNat=z % bO:=by
 rw[yan,yaf (Nat.lt_trans (ybb _ (by decide)) (by decide))]
theorem kz{z:Nat}:z % bO < bO:=ybb _ (by decide)
theorem TL(a b:yU):zw yD a b=ab (yv ((a.toNat+b.toNat) % bO)):=by
 unfold zw oA NZ;rw[ya,ya,ya];congr 1;have ha:a.toNat % bO < bO:=kz;have hb:b.toNat % bO < bO:=kz;rw[<-ybz,jN,UInt64.toNat_add,jN,jN,uo,yaf (a:=a.toNat % bO+b.toNat % bO) (by unfold bO at*;omega), <-Nat.add_mod]
theorem ZKI(a b:yU):zx yD a b=ab (yv (a.toNat*b.toNat % bO)):=by
 unfold zx oA OA tC;rw[ya,ya,ya];dsimp only;unfold Va;rw[yW (by decide),ya,ya,yan,yan,jN,jN];have h:a.toNat % bO*(b.toNat % bO) < 18446744073709551616*18446744073709551616:=Nat.mul_lt_mul'' (Nat.lt_trans kz (by decide)) (Nat.lt_trans kz (by decide));have hz:a.toNat % bO*(b.toNat % bO) % bO=a.toNat*b.toNat % bO:=(ybr ..).symm;generalize a.toNat % bO*(b.toNat % bO)=z at*;have h2:z / 18446744073709551616 < 18446744073709551616:=(Nat.div_lt_iff_lt_mul (by decide)).2 h;rw[show(2305843009213688669:yU).toNat=bO from rfl]
 have e:z / 18446744073709551616 % 2 ^ 64*18446744073709551616+z % 18446744073709551616 % 2 ^ 64=z:=by omega
 rw[e,hz]
theorem qq(a:yU):VW yD a=ab (ah (a.toNat < bO)):=by
 unfold VW;congr 1
def Key(k:yU):Prop:=0 < k.toNat/\k.toNat < bO
theorem ZKJ{h:yL yB}(hl:h.length=32):∃k,Vc yD h=ab k/\Key k:=by
 unfold Vc
 obtain⟨x,h1,h2⟩:=Yn (step:=XY yD) 32 (λk s=>∃n:yU,s=(n,h,(k:Int),h)/\n.toNat < 2305843009213688668) (λx=>x.1.toNat < 2305843009213688668) (i:=((0:yU),h,(0:Int),h)) ⟨0,rfl,by decide⟩ (by omega) (by
  rintro k _ hk ⟨n,rfl,hn⟩;left;obtain⟨e,he,_⟩:=Zf (l:=h) (k:=k) (by omega);unfold XY;dsimp only;rw[yW (yY (by omega)),Zj he,ya];unfold Va;rw[yW (by decide),ya,Zn (by omega)];refine⟨_,rfl,_,rfl, ?_⟩;rw[show(2305843009213688668:yU).toNat=2305843009213688668 from rfl,yan,yaf]
  .exact ybb _ (by decide)
  .exact Nat.lt_trans (ybb _ (by decide)) (by decide)) (by
  rintro _ ⟨n,rfl,hn⟩;unfold XY;dsimp only;rw[yX (cE (by omega))];exact⟨_,rfl,hn⟩)
 rw[h1,ya];have e:(x.1+1).toNat=x.1.toNat+1:=by rw[UInt64.toNat_add,yaf (by show x.1.toNat+1 < _;omega)];rfl
 exact⟨_,rfl,by rw[e];omega,by rw[e];unfold bO;omega⟩
theorem ZHi{n:Nat}{b:yL yB}(h:b.length<=1000000):∃o,mI yD (n:Int) b=ab o/\o.length=b.length+8:=
 ⟨_,yA (by omega),by rw[yl];rfl⟩
theorem ZQZ{l:yL yB}(h:l.length<=900000):∃o,ow yD l=ab o/\o.length=32:=⟨_,ZKC (by omega),Sha.iV l⟩
theorem ZKK{s:ByteArray}{ls:yL aSl}(h1:s.size<=100)(h2:ls.length<=10)(h3:∀l,l∈ls->l.length<=60000):∃o,Ww yD s ls=ab o/\o.length=32:=by
 unfold Ww;obtain⟨o,p1,p2⟩:=ZHi (n:=s.size) (b:=[]) (by simp)
 have hsl:(fg s).length=s.size:=by
  unfold fg;rw[Array.length_toList];rfl
 rw[p1,ya,yW (ZL (by rw[hsl,p2];simp;omega) (by rw[hsl,p2];simp;omega))];refine Exists.elim (VO (step:=VZ yD) (λx=>x.1=ls/\x.2.1=(ls.length:Int)/\0<=x.2.2.1/\x.2.2.1<=(ls.length:Int)/\x.2.2.2.2.length<=200+60100*x.2.2.1.toNat) (λx=>((ls.length:Int) - x.2.2.1).toNat) (λx=>x.2.length<=700000) ?_ (ls,(ls.length:Int),(0:Int),ct,o++fg s) ⟨rfl,rfl,Int.le_refl _,by dsimp only;omega,by dsimp only;rw[yl,p2,hsl];simp;omega⟩ (by dsimp only;omega)) ?_
 rotate_left
 .rintro q ⟨q1,q2⟩;rw[q1,ya];obtain⟨r,r1,r2⟩:=ZQZ (l:=q.2) (by omega);rw[r1,ya];exact⟨_,rfl,r2⟩
 .rintro⟨a,n,i,c,d⟩ ⟨k1,k2,k3,k4,k5⟩;dsimp only at k1 k2 k3 k4 k5;subst k1;subst k2;unfold VZ;dsimp only;by_cases hi:i < (a.length:Int)
  .left;obtain⟨e,he⟩:=iA (l:=a) (i:=i.toNat) (by omega);have hel:=h3 e (List.mem_of_getElem? he);obtain⟨x,x1,x2⟩:=ZHi (n:=e.length) (b:=d) (by omega);rw[yW (yY hi),pM k3 he,ya,x1,ya,yW (ZL (by omega) (by omega)),ZT (z:=i+1) (by omega) (by omega)];exact⟨_,rfl,⟨rfl,rfl,by dsimp only;omega,by dsimp only;omega,by dsimp only;rw[yl];omega⟩,by dsimp only;omega⟩
  .right;rw[yX (by simpa using hi)];exact⟨_,rfl,by dsimp only;omega⟩
theorem ZVI(m n:Nat):sc (B m) n=B (m*n):=by
 rw[<-ybz,CH,qp (mO m),lB,lB,Nat.pow_mul, <-Nat.pow_mod]
theorem ZUO(z:Nat):B (yv (z % bO)).toNat=B z:=by rw[uo,TK]
theorem ZDd{ls:yL aSl}(h:ls.flatten.length<=1000000000)(hn:ls.length<=1000):Xo yD ls=ab ls.flatten:=by
 unfold Xo
 rw[show(ls,(0:Int),ls,(ls.length:Int),(0:Int))=(λk:Nat=>(ls,((ls.take k).flatten.length:Int),ls,(ls.length:Int),(k:Int))) 0 from rfl,
  Zu (x:=(ls,(ls.flatten.length:Int))) ls.length (λk:Nat=>(ls,((ls.take k).flatten.length:Int),ls,(ls.length:Int),(k:Int))) ?_ ?_ (by omega),ya]
 .have hg:om (ls.flatten.length:Int)=ab []:=by
   unfold om;rw[yW];rw[Bool.and_eq_true];exact⟨yY (by omega),yY (by unfold Zv;omega)⟩
  dsimp only
  rw[hg,ya,show(ls,(ls.length:Int),(0:Int),([]:yL yB))=(λk:Nat=>(ls,(ls.length:Int),(k:Int),(ls.take k).flatten)) 0 from rfl,
   Zu (x:=ls.flatten) ls.length (λk:Nat=>(ls,(ls.length:Int),(k:Int),(ls.take k).flatten)) ?_ ?_ (by omega),ya]
  .intro k hk;obtain⟨e,he,_⟩:=Zf hk;have hf:=ZDa he;have hl:=ZKG ls (k+1);rw[hf,yl]at hl;unfold XS;dsimp only;rw[yW (ZE hk),Zj he,ya,yW (ZL (by omega) (by omega)),Zn (by omega),hf]
  .unfold XS;dsimp only;rw[yX (by rw[ZA];decide),yai]
 .intro k hk;obtain⟨e,he,_⟩:=Zf hk;have hf:=ZDa he;have hl:=ZKG ls (k+1);rw[hf,yl]at hl;unfold XR;dsimp only;rw[yW (ZE hk),Zj he,ya,ZT (z:=((ls.take k).flatten.length:Int)+(e.length:Int)) (by omega) (by omega),yX (cE (by omega)),Zn (by omega),hf,yl];rfl
 .unfold XR;dsimp only;rw[yX (by rw[ZA];decide),yai]
theorem TM{a b:yL yB}(h:a.length+b.length<=1000000000):oz yD a b=ab (a++b):=by
 unfold oz;rw[ZDd (by simp;omega) (by simp),ya];simp
def Xa(n:Nat):yL yB:=if h:n < 128 then[yav n] else yav (n % 128+128)::Xa (n / 128)
termination_by n
decreasing_by omega
theorem qr{n:Nat}(h:n < 128):Xa n=[yav n]:=by rw[Xa,dif_pos h]
theorem CI{n:Nat}(h:¬n < 128):Xa n=yav (n % 128+128)::Xa (n / 128):=by rw[Xa,dif_neg h]
theorem ZKL:∀(j n:Nat),n < 128 ^ (j+1)->(Xa n).length<=j+1
 |0,n,h=>by rw[qr (by omega)];exact yj _
 |j+1,n,h=>by
  by_cases h0:n < 128
  .rw[qr h0,List.length_singleton];omega
  .rw[CI h0];have:=ZKL j (n / 128) (by rw[Nat.pow_succ]at h;omega);simp only[List.length_cons];omega
theorem Z4{n:Nat}(h:n<=9223372036854775807):(Xa n).length<=9:=ZKL 8 n (by omega)
theorem ZO0{n:Nat}(h:n<=9223372036854775807):tN yD (n:Int)=ab (Xa n):=by
 unfold tN;refine Exists.elim (VO (step:=zj yD) (λs=>∃m:Nat,s.1=(m:Int)/\m<=n/\s.2++Xa m=Xa n) (λs=>s.1.toNat) (λx=>∃m:Nat,x.1=(m:Int)/\m < 128/\x.2++Xa m=Xa n) ?_ ((n:Int),([]:yL yB)) ⟨n,rfl,yj _,rfl⟩ (by dsimp only;omega)) ?_
 .rintro⟨_,o⟩ ⟨m,rfl,hm,ho⟩;unfold zj;dsimp only at ho ⊢;have hr:=congrArg List.length ho;have hl:=Z4 h;rw[yl]at hr;by_cases h1:m < 128
  .right;rw[yX (cE (by omega))];exact⟨_,rfl,m,rfl,h1,ho⟩
  .left;rw[yW (yY (by omega)),yW (ZL (by omega) (by omega))];have e1:Int.tmod (m:Int) 128=((m % 128:Nat):Int):=rfl;have e2:Int.tdiv (m:Int) 128=((m / 128:Nat):Int):=rfl;rw[e1,e2,ZT (z:=((m % 128:Nat):Int)+128) (by omega) (by omega),ZT (z:=((m / 128:Nat):Int)) (by omega) (by omega)];refine⟨_,rfl,⟨m / 128,rfl,by omega, ?_⟩,by dsimp only;omega⟩;dsimp only;rw[<-ho,CI h1,yad];congr 1;rw[List.singleton_append];congr 1;unfold w8;congr 1;omega
 .rintro⟨_,o⟩ ⟨h1,m,rfl,h2,h3⟩;dsimp only at h3 ⊢;have hr:=congrArg List.length h3;have hl:=Z4 h;rw[yl]at hr;rw[h1,ya];dsimp only;rw[yW (ZL (by omega) (by omega)), <-h3,qr h2];congr 3;unfold w8;congr 1;omega
theorem iX{b:yL yB}{z:Int}(h0:0<=z)(h:z<=9223372036854775807)(hb:b.length<=1000000):Wx yD b z=ab (b++Xa z.toNat):=by
 obtain⟨n,rfl⟩:=Int.eq_ofNat_of_zero_le h0;have:=Z4 (n:=n) (by omega);unfold Wx;rw[yX (cE (by omega)),ZO0 (by omega),ya,TM (by omega),ya,yap]
theorem CJ{b h:yL yB}(hb:b.length<=1000000)(hh:h.length<=1000000):Qh yD b h=ab (b++h):=by
 unfold Qh;rw[TM (by omega),ya]
theorem ZHj{b c:yL yB}(hb:b.length<=1000000)(hc:c.length<=1000000):AG yD b c=ab (b++(Xa c.length++c)):=by
 have:=Z4 (n:=c.length) (by omega);unfold AG;rw[ZO0 (by omega),ya,ZDd (by simp;omega) (by simp),ya];simp
def gn(l:yL yB)(n k:Nat):yL yB:=l.take k++yw (n - k) 0
theorem CK{l:yL yB}{n k:Nat}(h:k < l.length)(h2:l.length<=n):(gn l n k)[k]? =ab 0:=by
 unfold gn;have h3:(l.take k).length=k:=by simp;omega
 rw[yaq (by omega),h3,List.getElem?_replicate];simp;omega
theorem CL{l:yL yB}{n k:Nat}{d:yB}(hx:l[k]? =ab d)(h2:l.length<=n):(gn l n k).set k d=gn l n (k+1):=by
 have h:k < l.length:=(yo.1 hx).1;have h3:(l.take k).length=k:=by simp;omega
 unfold gn;rw[XU hx,List.set_append_right _ _ (by omega),h3,Nat.sub_self];have e:n - k=(n - (k+1))+1:=by omega
 rw[e,List.replicate_succ];simp
theorem TN{l:yL yB}{n:Nat}(h:l.length=n):gn l n n=l:=by
 unfold gn;rw[<-h];simp
def dx(n:Nat):yL yB:=(List.range 8).map λi=>yav (n / 2 ^ (56 - 8*i))
theorem QL(n:Nat):(dx n).length=8:=by simp[dx]
theorem uq(n:Nat){k:Nat}(hk:k < 8):(dx n)[k]? =ab (yav (n / 2 ^ (56 - 8*k))):=by simp[dx,hk]
theorem CM(x:yU){m:Nat}:w8 ((ZJ x m).toNat:Int)=yav (x.toNat / 2 ^ m):=by
 unfold w8 ZJ;have h:x.toNat / 2 ^ m < 18446744073709551616:=Nat.lt_of_le_of_lt (Nat.div_le_self ..) (ybt _);rw[yan,yaf h];apply UInt8.toNat_inj.1;rw[UInt8.toNat_ofNat',UInt8.toNat_ofNat'];omega
theorem TO{b:yL yB}(x:yU)(hb:b.length<=1000000):pW yD b x=ab (b++dx x.toNat):=by
 unfold pW
 rw[show(b,x,(0:Int),([0,0,0,0,0,0,0,0]:yL yB))=(λk:Nat=>(b,x,(k:Int),gn (dx x.toNat) 8 k)) 0 from rfl,
  Zu (x:=(b,dx x.toNat)) 8 (λk:Nat=>(b,x,(k:Int),gn (dx x.toNat) 8 k)) ?_ ?_ (by omega),ya]
 .dsimp only;rw[TM (by rw[QL];omega),ya]
 .intro k hk;unfold zk;dsimp only;have hl:=QL x.toNat
  rw[yW (yY (by omega)),ZT (z:=8*(k:Int)) (by omega) (by omega),ZT (z:=56 - 8*(k:Int)) (by omega) (by omega),yW (yY (by omega)),yW (ZV (by omega) (by omega)),
   yap,CK (by omega) (by omega),ya,Zn (by omega)]
  have e:min (56 - 8*(k:Int)).toNat 64=56 - 8*k:=by omega
  rw[e,CM,CL (uq _ hk) (by omega)]
 .unfold zk;dsimp only;rw[yX (by simp),TN (QL _)]
def lC(b:Zq):Prop:=b.1.length<=12/\0<=b.2.1/\b.2.1<=1048576/\0<=b.2.2.1/\b.2.2.1<=1048576
def lD(b:Zq):Prop:=(∀p,p∈b.1->cZ p.toNat)/\(b.2.2.2≠0->cZ b.2.2.2.toNat)
def iC(l:ZG):Prop:=0 < l.length/\l.length<=4/\∀b,b∈l->lC b
def kA(l:ZG):Prop:=∀b,b∈l->lD b
theorem TQ(p:yU):pZ yD p=ab (!decide (cZ p.toNat)):=by
 unfold pZ;rw[qo,ya]
theorem ZO1{p:yU}(h:cZ p.toNat):pZ yD p=ab ag:=by rw[TQ,yY h];rfl
theorem ZUP{l:yL yU}(hl:l.length<=12)(h:∀p,p∈l->cZ p.toNat):qa yD l=ab ag:=by
 unfold qa AB
 rw[show(l,(l.length:Int),(0:Int))=(λk:Nat=>(l,(l.length:Int),(k:Int))) 0 from rfl,
  Zu (x:=.inr ()) l.length (λk:Nat=>(l,(l.length:Int),(k:Int))) ?_ ?_ (by omega),ya]
 .rfl
 .intro k hk;obtain⟨e,he,hm⟩:=Zf hk;unfold YO;dsimp only;rw[yW (ZE hk),Zj he,ya,ZO1 (h e hm),ya,Zn (by omega)];rfl
 .unfold YO;dsimp only;rw[yX (by rw[ZA];decide)]
theorem ZDe{z:Int}(h0:0<=z)(h1:z<=1048576):Q8 yD z=ab af:=by
 unfold Q8;rw[yW (yY h0),yY h1]
theorem ZBb{l:ZG}(h:iC l)(hp:kA l):Wd yD l=ab af:=by
 unfold Wd;obtain⟨h0,h1,h2⟩:=h
 rw[show(l,(l.length:Int),(0:Int),l)=(λk:Nat=>(l,(l.length:Int),(k:Int),l)) 0 from rfl,
  Zu (x:=.inr l) l.length (λk:Nat=>(l,(l.length:Int),(k:Int),l)) ?_ ?_ (by omega),ya]
 .dsimp only;rw[yW (yY (by omega)),yY (by omega)]
 .intro k hk;obtain⟨e,he,hm⟩:=Zf hk;obtain⟨e1,e2,e3,e4,e5⟩:=h2 e hm;obtain⟨p1,p2⟩:=hp e hm;unfold Vv;dsimp only;rw[yW (ZE hk),Zj he,ya,yX (cE (by omega)),ZUP e1 p1,ya,ZDe e2 e3,ya,ZDe e4 e5,ya,Zn (by omega),yX (by decide),yX (by decide),yX (by decide)];by_cases hz:e.2.2.2=0
  .rw[yX (by simp[hz])]
  .rw[yW (by simp[hz]),ZO1 (p2 hz),ya,yX (by decide)]
 .unfold Vv;dsimp only;rw[yX (by rw[ZA];decide)]
def kB(t:Tx):Prop:=(∀x,x∈t.1->x.1.1.length=32)/\t.2.2<=9223372036854775807
def ZUQ(x:In):Prop:=0<=x.1.2/\x.1.2 < 64/\0<=x.2.1/\x.2.1 < 4/\x.2.2.1.length<=12
def qt(o:Out):Prop:=0<=o.1/\o.1<=1125899906842624/\iC o.2/\kA o.2
def ur(t:Tx):Prop:=0 < t.1.length/\t.1.length<=64/\t.2.1.length<=64/\0<=t.2.2/\(∀x,x∈t.1->ZUQ x)/\∀o,o∈t.2.1->qt o
def bA{α:Type}(f:α->yL yB)(l:yL α):yL yB:=(l.map f).flatten
theorem Qc{α:Type}{f:α->yL yB}{l:yL α}{k:Nat}{e:α}(h:l[k]? =ab e):bA f (l.take (k+1))=bA f (l.take k)++f e:=by
 unfold bA
 rw[XU h,yao,List.flatten_append];simp
theorem ZO3{α:Type}{f:α->yL yB}{l:yL α}{e:α}:bA f (e::l)=f e++bA f l:=rfl
theorem ZKM{α:Type}{f:α->yL yB}{c:Nat}:∀{l:yL α},(∀x,x∈l->(f x).length<=c)->(bA f l).length<=l.length*c
 |[],_=>by simp[bA]
 |e::l,h=>by
  have h1:=h e (List.mem_cons_self ..);have h2:=ZKM (l:=l) λx hx=>h x (List.mem_cons_of_mem _ hx);rw[ZO3,yl,List.length_cons,Nat.succ_mul];omega
theorem jO{α:Type}{f:α->yL yB}{c n:Nat}{l:yL α}(h:∀x,x∈l->(f x).length<=c)(hn:l.length<=n)(k:Nat):(bA f (l.take k)).length<=n*c:=by
 refine ybk (ZKM λx hx=>h x (List.mem_of_mem_take hx)) (Nat.mul_le_mul_right c ?_);rw[yx];omega
def lE(p:yU):yL yB:=dx p.toNat
def iY(b:Zq):yL yB:=Xa b.1.length++(bA lE b.1++(Xa b.2.1.toNat++(Xa b.2.2.1.toNat++dx b.2.2.2.toNat)))
def lF(l:ZG):yL yB:=Xa l.length++bA iY l
theorem uu{l:yL yU}(h:l.length<=12)(k:Nat):(bA lE (l.take k)).length<=96:=jO (c:=8) (λx _=>Nat.le_of_eq (QL _)) h k
theorem TS{b:Zq}(h:b.1.length<=12/\0<=b.2.1/\b.2.1<=1048576/\0<=b.2.2.1/\b.2.2.1<=1048576):(iY b).length<=131:=by
 have h1:=uu h.1 b.1.length;rw[yai]at h1;have h2:=Z4 (n:=b.1.length) (by omega);have h3:=Z4 (n:=b.2.1.toNat) (by omega);have h4:=Z4 (n:=b.2.2.1.toNat) (by omega);have h5:=QL b.2.2.2.toNat
 unfold iY;simp only[yl];omega
theorem TT{l:ZG}(h:iC l):(lF l).length<=533:=by
 have h1:=jO (f:=iY) (c:=131) (λx hx=>TS (h.2.2 x hx)) h.2.1 l.length;rw[yai]at h1;have h2:=Z4 (n:=l.length) (by have:=h.2.1;omega);unfold lF;rw[yl];omega
theorem ZL4{c:yL yB}(hc:c.length<=100000){bs:yL Zq}{n i:Int}{ks:yL yU}{l:ZG}{e:Zq}(hk:ks.length<=12):
 Zb (tW yD) yD (c,bs,n,i,ks,(ks.length:Int),(0:Int),l,e)=ab (c++bA lE ks,bs,n,i,l,e):=by
 rw[show(c,bs,n,i,ks,(ks.length:Int),(0:Int),l,e)=(λk:Nat=>(c++bA lE (ks.take k),bs,n,i,ks,(ks.length:Int),(k:Int),l,e)) 0 by simp[bA]];refine Zu ks.length (λk:Nat=>(c++bA lE (ks.take k),bs,n,i,ks,(ks.length:Int),(k:Int),l,e)) ?_ ?_ (by omega)
 .intro k hk2;obtain⟨e,he,_⟩:=Zf hk2;have hl:=uu hk k;unfold tW;dsimp only;rw[yW (ZE hk2),Zj he,ya,TO _ (by rw[yl];omega),ya,Zn (by omega),Qc he,yad];rfl
 .unfold tW;dsimp only;rw[yX (by rw[ZA];decide),yai]
theorem ZJb{l:ZG}(h:iC l)(hp:kA l):tX yD l=ab (lF l):=by
 unfold tX;have h0:=h.2.1;have h9:=Z4 (n:=l.length) (by omega);rw[ZBb h hp,ya,yX (by decide),iX (by omega) (by omega) (by simp),ya,yy,yap]
 rw[show(Xa l.length,l,(l.length:Int),(0:Int),l)=(λk:Nat=>(Xa l.length++bA iY (l.take k),l,(l.length:Int),(k:Int),l)) 0 by simp[bA],
  Zu (x:=(lF l,l)) l.length (λk:Nat=>(Xa l.length++bA iY (l.take k),l,(l.length:Int),(k:Int),l)) ?_ ?_ (by omega),ya]
 .intro k hk;obtain⟨e,he,hm⟩:=Zf hk;obtain⟨e1,e2,e3,e4,e5⟩:=h.2.2 e hm;have hl:=jO (f:=iY) (c:=131) (λx hx=>TS (h.2.2 x hx)) h.2.1 k;have hr:=Z4 (n:=e.1.length) (by omega);have hr2:=Z4 (n:=e.2.1.toNat) (by omega);have hr3:=Z4 (n:=e.2.2.1.toNat) (by omega);have hk8:=uu e1 e.1.length;rw[yai]at hk8;unfold AH;dsimp only
  rw[yW (ZE hk),Zj he,ya,iX (by omega) (by omega) (by rw[yl];omega),ya,yap,
   ZL4 (by simp only[yl];omega) e1,ya]
  dsimp only
  rw[iX e2 (by omega) (by simp only[yl];omega),ya,iX e4 (by omega) (by simp only[yl];omega),ya,
   TO _ (by simp only[yl];omega),ya,Zn (by omega),Qc he]
  unfold iY;simp only[yad]
 .unfold AH;dsimp only;rw[yX (by rw[ZA];decide),yai];rfl
def fQ(x:In):yL yB:=x.1.1++Xa x.1.2.toNat
def iD(o:Out):yL yB:=Xa o.1.toNat++(Xa (lF o.2).length++lF o.2)
def iZ(t:Tx):yL yB:=Xa t.1.length++(bA fQ t.1++(Xa t.2.1.length++(bA iD t.2.1++Xa t.2.2.toNat)))
theorem ZKN{x:In}(h:x.1.1.length=32)(k:ZUQ x):(fQ x).length<=41:=by
 have:=Z4 (n:=x.1.2.toNat) (by have:=k.2.1;omega);unfold fQ;rw[yl];omega
theorem ZHk{o:Out}(k:qt o):(iD o).length<=551:=by
 have h1:=TT k.2.2.1;have h2:=Z4 (n:=o.1.toNat) (by have:=k.2.1;omega);have h3:=Z4 (n:=(lF o.2).length) (by omega);unfold iD;simp only[yl];omega
theorem TU{t:Tx}(hw:kB t)(h:ur t):AK yD t=ab (iZ t)/\(iZ t).length<=40000:=by
 obtain⟨ins,outs,note⟩:=t;obtain⟨w2,w3⟩:=hw;obtain⟨h1,h2,h3,h4,h5,h6⟩:=h;dsimp only at w2 w3 h1 h2 h3 h4 h5 h6;have li:=λk=>jO (f:=fQ) (c:=41) (λx hx=>ZKN (w2 x hx) (h5 x hx)) h2 k;have lo:=λk=>jO (f:=iD) (c:=551) (λx hx=>ZHk (h6 x hx)) h3 k;have li1:=li ins.length;have lo1:=lo outs.length;rw[yai]at li1 lo1;have r1:=Z4 (n:=ins.length) (by omega);have r2:=Z4 (n:=outs.length) (by omega);have r3:=Z4 (n:=note.toNat) (by omega);refine⟨?_,by unfold iZ;simp only[yl];omega⟩;unfold AK;dsimp only;rw[iX (by omega) (by omega) (by simp),ya,yy,yap]
 rw[show(Xa ins.length,ins,(ins.length:Int),(0:Int),(ins,outs,note))=(λk:Nat=>(Xa ins.length++bA fQ (ins.take k),ins,(ins.length:Int),(k:Int),(ins,outs,note))) 0 by simp[bA],
  Zu (x:=(Xa ins.length++bA fQ ins,(ins,outs,note))) ins.length (λk:Nat=>(Xa ins.length++bA fQ (ins.take k),ins,(ins.length:Int),(k:Int),(ins,outs,note))) ?_ ?_ (by omega),ya]
 .dsimp only;rw[iX (by omega) (by omega) (by rw[yl];omega),ya,yap];generalize hp:Xa ins.length++bA fQ ins++Xa outs.length=pre;have hpl:pre.length<=3000:=by rw[<-hp];simp only[yl];omega
  rw[show(pre,outs,(outs.length:Int),(0:Int),(ins,outs,note))=(λk:Nat=>(pre++bA iD (outs.take k),outs,(outs.length:Int),(k:Int),(ins,outs,note))) 0 by simp[bA],
   Zu (x:=(pre++bA iD outs,(ins,outs,note))) outs.length (λk:Nat=>(pre++bA iD (outs.take k),outs,(outs.length:Int),(k:Int),(ins,outs,note))) ?_ ?_ (by omega),ya]
  .dsimp only;rw[iX h4 w3 (by rw[yl];omega),ya, <-hp];unfold iZ;simp only[yad]
  .intro k hk;obtain⟨e,he,hm⟩:=Zf hk;have hlk:=lo k;have hok:=h6 e hm;have hlo:=hok.2.2.1;have hll:=TT hlo;have hrl:=Z4 (n:=e.1.toNat) (by have:=hok.2.1;omega);unfold AJ;dsimp only
   rw[yW (ZE hk),Zj he,ya,iX hok.1 (by have:=hok.2.1;omega) (by rw[yl];omega),ya,ZJb hok.2.2.1 hok.2.2.2,ya,
    ZHj (by simp only[yl];omega) (by omega),ya,Zn (by omega),Qc he]
   unfold iD;simp only[yad]
  .unfold AJ;dsimp only;rw[yX (by rw[ZA];decide),yai]
 .intro k hk;obtain⟨e,he,hm⟩:=Zf hk;have hlk:=li k;have h32:=w2 e hm;have hok:=h5 e hm;unfold AI;dsimp only
  rw[yW (ZE hk),Zj he,ya,CJ (by rw[yl];omega) (by omega),ya,iX hok.1 (by have:=hok.2.1;omega) (by simp only[yl];omega),ya,
   Zn (by omega),Qc he]
  unfold fQ;simp only[yad]
 .unfold AI;dsimp only;rw[yX (by rw[ZA];decide),yai]
def QM(l:yL Out):Int:=(l.map (·.1)).sum
theorem qu{l:yL Out}{k:Nat}{e:Out}(h:l[k]? =ab e):QM (l.take (k+1))=QM (l.take k)+e.1:=by
 unfold QM;rw[XU h,yao,List.sum_append];simp
theorem TW:∀{l:yL Int},(∀x,x∈l->0<=x)->0<=l.sum
 |[],_=>by simp
 |x::r,h=>by
  have:=TW (l:=r) λy hy=>h y (List.mem_cons_of_mem _ hy);have:=h x (List.mem_cons_self ..);rw[List.sum_cons];omega
theorem ZKO{l:yL Out}(h:∀o,o∈l->qt o)(k:Nat):0<=QM (l.take k)/\QM (l.take k)<=QM l:=by
 have h1:∀(l:yL Out),(∀o,o∈l->qt o)->0<=QM l:=λl h=>TW λx hx=>by
  obtain⟨o,ho,rfl⟩:=List.mem_map.1 hx;exact(h o ho).1
 refine⟨h1 _ λo ho=>h o (List.mem_of_mem_take ho), ?_⟩;have:=h1 (l.drop k) λo ho=>h o (List.mem_of_mem_drop ho)
 have e:QM l=QM (l.take k)+QM (l.drop k):=by
  unfold QM;rw[<-List.sum_append, <-yao,ybd]
 omega
def qv:yL yB:=ct
theorem ZUR{k:yU}(h:Key k):B k.toNat≠1:=ZVH h.1 h.2
def Ahd(a b:Cond):Prop:=a.1 < b.1\/a.1=b.1/\a.2.1 < b.2.1
instance(a b:Cond):Decidable (Ahd a b):=by unfold Ahd;infer_instance
def fc(h:yL yB):Nat->Nat
 |0=>0
 |k+1=>(256*fc h k+(h.getD k 0).toNat) % 2305843009213688668
theorem ZO4(h:yL yB)(k:Nat):fc h k < 2305843009213688668:=by
 cases k with
 |zero=>exact(by decide:(0:Nat) < 2305843009213688668)
 |succ k=>exact ybb _ (by decide)
def CN(h:yL yB):yU:=yv (fc h 32)+1
theorem CO{z:Nat}(h:z < 2305843009213688668):(yv z).toNat=z:=by
 rw[yan,yaf (by omega)]
theorem ZTy(x:yU)(n:Nat):(QP x n).toNat=x.toNat*2 ^ n % 18446744073709551616:=yan ..
theorem ZQ0(n:Nat)(b:yB)(hn:n < 2305843009213688668):((QP (yv n) 8)|||(yv b.toNat)).toNat=n*256 % 18446744073709551616+b.toNat:=by
 have hb:b.toNat < 256:=b.toNat_lt;rw[UInt64.toNat_or,ZTy,CO hn,yan,yaf (a:=b.toNat) (by omega)];have h2:n*2 ^ 8 % 2 ^ 64=(n % 2 ^ 56)*2 ^ 8:=by omega
 rw[show n*2 ^ 8 % 18446744073709551616=(n % 2 ^ 56)*2 ^ 8 from h2,ybi, <-ycw (by omega:b.toNat < 2 ^ 8)]
theorem ZKP{h:yL yB}(hl:h.length=32):Vc yD h=ab (CN h):=by
 unfold Vc
 have e:=Zu (step:=XY yD) 32 (λk:Nat=>(yv (fc h k),h,(k:Int),h)) (x:=(yv (fc h 32),h)) (by
  intro k hk;obtain⟨e,he,_⟩:=Zf (l:=h) (k:=k) (by omega);unfold XY;dsimp only;rw[yW (yY (by omega)),Zj he,ya];unfold Va;rw[yW (by decide),ya,Zn (by omega)];have hn:=ZO4 h k;have hb:e.toNat < 256:=e.toNat_lt;have hd:h.getD k 0=e:=by simp[List.getD,he]
  rw[show(2305843009213688668:yU).toNat=2305843009213688668 from rfl,ZQ0 _ _ hn,gm,CO hn]
  have h2:fc h k / 2 ^ 56*18446744073709551616+(fc h k*256 % 18446744073709551616+e.toNat)=256*fc h k+e.toNat:=by omega
  rw[h2,show fc h (k+1)=(256*fc h k+(h.getD k 0).toNat) % 2305843009213688668 from rfl,hd]) (by
  unfold XY;dsimp only;rw[yX (cE (by omega))]) (by omega)
 have e:Zb (XY yD) yD ((0:yU),h,(0:Int),h)=_:=e;rw[e,ya];rfl
theorem ZHl{h:yL yB}(hl:h.length=32):VB yD h=ab (CN h):=by
 unfold VB
 have e:=Zu (step:=Xg yD) 32 (λk:Nat=>(yv (fc h k),(k:Int),h)) (x:=(yv (fc h 32),h)) (by
  intro k hk;obtain⟨e,he,_⟩:=Zf (l:=h) (k:=k) (by omega);have hb:e.toNat < 256:=e.toNat_lt;have hd:h.getD k 0=e:=by simp[List.getD,he]
  have hn:=ZO4 h k;unfold Xg;dsimp only;rw[yW (yY (by omega))]
  have g:=Zu (step:=Xf yD) 8 (λj:Nat=>(yv ((2 ^ j*fc h k+e.toNat / 2 ^ (8 - j)) % 2305843009213688668),(k:Int),7 - (j:Int),h)) (x:=(yv ((256*fc h k+e.toNat) % 2305843009213688668),(k:Int),h)) (by
   intro j hj;unfold Xf;dsimp only;rw[yW (yY (by omega)),yW (ZV (by omega) (by omega)),yap,he,ya,ZT (z:=7 - (j:Int) - 1) (by omega) (by omega)]
   have q1:(min ((cD (7 - (j:Int))).toNat:Int).toNat 64)=7 - j:=by
    have:(cD (7 - (j:Int))).toNat=7 - j:=by
     unfold cD;rw[yan];omega
    omega
   rw[q1,show(7:Int) - (j:Int) - 1=7 - ((j+1:Nat):Int) by omega];refine congrArg (λx=>ab (Sum.inl (x,(k:Int),7 - ((j+1:Nat):Int),h))) ?_;have m1:(2 ^ j*fc h k+e.toNat / 2 ^ (8 - j)) % 2305843009213688668 < 2305843009213688668:=ybb _ (by decide);rw[<-ybz,UInt64.toNat_mod,UInt64.toNat_add,UInt64.toNat_mul,CO m1,CO (ybb _ (by decide)),UInt64.toNat_and,gm,yan,yaf (a:=e.toNat) (by omega)];rw[show(1:yU).toNat=1 from rfl,Nat.and_one_is_mod,show(2:yU).toNat=2 from rfl,show(2305843009213688668:yU).toNat=2305843009213688668 from rfl]
   have m2:e.toNat / 2 ^ (8 - (j+1))=2*(e.toNat / 2 ^ (8 - j))+e.toNat / 2 ^ (7 - j) % 2:=by
    rw[show 8 - (j+1)=7 - j by omega,show 8 - j=(7 - j)+1 by omega,Nat.pow_succ, <-Nat.div_div_eq_div_mul];omega
   have m3:2 ^ (j+1)*fc h k=2*(2 ^ j*fc h k):=by rw[Nat.pow_succ,ybi (2 ^ j) 2,Nat.mul_assoc]
   rw[m2,m3];generalize 2 ^ j*fc h k=u at*;generalize e.toNat / 2 ^ (8 - j)=v at*;generalize e.toNat / 2 ^ (7 - j)=t at*;omega) (by
   unfold Xf;dsimp only;rw[yX (cE (by omega))];simp) (by omega)
  rw[show(2 ^ 0*fc h k+e.toNat / 2 ^ (8 - 0)) % 2305843009213688668=fc h k by
   rw[show 2 ^ (8 - 0)=256 from rfl,Nat.div_eq_of_lt hb,Nat.pow_zero,Nat.one_mul,ybu,yaf hn]]at g
  have g:Zb (Xf yD) yD (yv (fc h k),(k:Int),(7:Int),h)=_:=g;rw[g,ya,Zn (by omega),show fc h (k+1)=(256*fc h k+(h.getD k 0).toNat) % 2305843009213688668 from rfl,hd]) (by
  unfold Xg;dsimp only;rw[yX (cE (by omega))]) (by omega)
 have e:Zb (Xg yD) yD ((0:yU),(0:Int),h)=_:=e;rw[e,ya];rfl
theorem WG(n:Nat):(dB n).length=8:=rfl
theorem CP(n:yU):WB yD n=ab (dB n.toNat):=by
 unfold WB
 have e:=Zu (step:=Wn yD) 8 (λk:Nat=>(n,56 - 8*(k:Int),(dB n.toNat).take k)) (x:=dB n.toNat) (by
  intro k hk;have hb:(dB n.toNat)[k]? =_:=BP n hk;have hl:((dB n.toNat).take k).length<=8:=by rw[yx];exact ybk (Nat.min_le_right _ _) (yj _)
  unfold Wn;dsimp only;have q1:min (56 - 8*(k:Int)).toNat 64=56 - 8*k:=by omega
  rw[yW (yY (by omega)),yW (yY (by omega)),yW (ZL (by omega) (by omega)),ZT (z:=56 - 8*(k:Int) - 8) (by omega) (by omega),q1,show 56 - 8*(k:Int) - 8=56 - 8*((k+1:Nat):Int) by omega,List.take_add_one,hb];rfl) (by
  unfold Wn;dsimp only;rw[yX (cE (by omega))];rfl) (by omega)
 grind
theorem ZL5(n:yU):VE yD n=ab (dB n.toNat):=by
 unfold VE
 have e:=Zu (step:=Xq yD) 8 (λk:Nat=>(n,56 - 8*(k:Int),([]:yL yB),(dB n.toNat).take k)) (x:=(([]:yL yB),dB n.toNat)) (by
  intro k hk;have hb:(dB n.toNat)[k]? =_:=BP n hk;have hl:((dB n.toNat).take k).length<=8:=by rw[yx];exact ybk (Nat.min_le_right _ _) (yj _)
  unfold Xq;dsimp only;have q1:min (56 - 8*(k:Int)).toNat 64=56 - 8*k:=by omega
  rw[yW (yY (by omega)),yW (yY (by omega)),yW (ZL (by omega) (by omega)),ZT (z:=56 - 8*(k:Int) - 8) (by omega) (by omega),q1,show 56 - 8*(k:Int) - 8=56 - 8*((k+1:Nat):Int) by omega,List.take_add_one,hb];rfl) (by
  unfold Xq;dsimp only;rw[yX (cE (by omega))];rfl) (by omega)
 grind
def lG(l:yL yB):yL yB:=dB l.length++l
def gz(s:ByteArray)(ls:yL aSl):yL yB:=dB s.size++fg s++bA lG ls
theorem ZHm(s:ByteArray):(fg s).length=s.size:=by
 unfold fg;simp_all
theorem CQ{ls:yL aSl}(h2:ls.length<=10)(h3:∀l,l∈ls->l.length<=60000)(k:Nat):(bA lG (ls.take k)).length<=10*60008:=
 jO (c:=60008) (λl hl=>by have:=h3 l hl;unfold lG;rw[yl,WG];omega) h2 k
theorem mP{s:ByteArray}{ls:yL aSl}(h1:s.size<=100)(h2:ls.length<=10)(h3:∀l,l∈ls->l.length<=60000):Ww yD s ls=ab (Sha.fO (gz s ls)):=by
 unfold Ww;have hs:=ZHm s;have p1:mI yD (s.size:Int) []=ab (dB s.size):=yA (b:=[]) (by simp);rw[p1,ya,yW (ZL (by rw[hs,WG];omega) (by rw[hs,WG];omega))]
 have e:=Zu (step:=VZ yD) ls.length (λk:Nat=>(ls,(ls.length:Int),(k:Int),qv,dB s.size++fg s++bA lG (ls.take k))) (x:=(qv,gz s ls)) (by
  intro k hk;obtain⟨e,he,hm⟩:=Zf hk;have:=h3 e hm;have hc:=CQ h2 h3 k;unfold VZ;dsimp only;rw[yW (yY (by omega)),Zj he,ya,yA (by simp only[yl,WG,hs];omega),ya,yW (ZL (by simp only[yl,WG,hs];omega) (by simp only[yl,WG,hs];omega)),Zn (by omega),Qc he];simp only[lG,yad]) (by
  unfold VZ;dsimp only;rw[yX (by rw[ZA];decide),yai];rfl) (by omega)
 rw[show bA lG (ls.take 0)=[] from rfl,yar]at e
 have e:Zb (VZ yD) yD (ls,(ls.length:Int),(0:Int),ct,dB s.size++fg s)=_:=e;have hc:=CQ h2 h3 ls.length;rw[yai]at hc;rw[e,ya,ZKC (by show(gz s ls).length<=_;unfold gz;simp only[yl,WG,hs];omega),ya]
theorem qw{s:ByteArray}{ls:yL aSl}(h1:s.size<=100)(h2:ls.length<=10)(h3:∀l,l∈ls->l.length<=60000):YD yD s ls=ab (Sha.fO (gz s ls)):=by
 unfold YD;have hs:=ZHm s
 have w:∀n:Nat,n<=1000000->(cD (n:Int)).toNat=n:=λn hn=>by
  unfold cD;rw[yan];omega
 have hs':s.data.toList.length=s.size:=hs;rw[ZL5,ya,w _ (by omega),yW (yY (by unfold maxLen;omega)),yW (ZL (by rw[hs',WG];omega) (by rw[hs',WG];omega))]
 have e:=Zu (step:=YP yD) ls.length (λk:Nat=>(ls,(k:Int),qv,dB s.size++fg s++bA lG (ls.take k))) (x:=(qv,gz s ls)) (by
  intro k hk;obtain⟨e,he,hm⟩:=Zf hk;have:=h3 e hm;have hc:=CQ h2 h3 k;unfold YP;dsimp only;rw[yW (ZE hk),Zj he,ya,CP,ya,w _ (by omega),yW (ZL (by simp only[yl,WG,hs];omega) (by simp only[yl,WG,hs];omega)),ya,yW (ZL (by simp only[yl,WG,hs];omega) (by simp only[yl,WG,hs];omega)),Zn (by omega),Qc he];simp only[lG,yad]) (by
  unfold YP;dsimp only;rw[yX (by rw[ZA];decide),yai];rfl) (by omega)
 rw[show bA lG (ls.take 0)=[] from rfl,yar]at e
 have e:Zb (YP yD) yD (ls,(0:Int),qv,dB s.size++s.data.toList)=_:=e;have hc:=CQ h2 h3 ls.length;rw[yai]at hc;show(Option.bind (Zb (YP yD) yD (ls,(0:Int),qv,dB s.size++s.data.toList)) λa=>(WP yD a.2).bind λb=>ab b)=_;rw[e,ya,ZOS (by show(gz s ls).length<=_;unfold gz;simp only[yl,WG,hs];omega),ya]
theorem TX{n:Nat}(h:n < 256):w8 (n:Int)=yav n:=by
 unfold w8;congr 1;omega
theorem ZTz:∀(k n:Nat),n < 128 ^ (k+1)->n<=9223372036854775807->V7 yD (k+1) (n:Int)=ab (Xa n):=by
 intro k
 induction k with
 |zero=>
  intro n h h2;have h:n < 128:=by simpa using h
  show WQ yD (V7 yD 0) (n:Int)=_;unfold WQ
  rw[yW (yY (by omega)),qr h,TX (by omega)]
 |succ k ih=>
  intro n h h2;show WQ yD (V7 yD (k+1)) (n:Int)=_;unfold WQ;by_cases h0:n < 128
  .rw[yW (yY (by omega)),qr h0,TX (by omega)]
  .have hd:n / 128 < 128 ^ (k+1):=by
    rw[Nat.div_lt_iff_lt_mul (by decide)];rw[Nat.pow_succ]at h;exact h
   have e1:wi (Int.tdiv (n:Int) 128)=((n / 128:Nat):Int):=by
    rw[show Int.tdiv (n:Int) 128=((n / 128:Nat):Int) from rfl,ZT (by omega) (by omega)]
   have hl:=Z4 (n:=n / 128) (by omega);rw[yX (cE (by omega)),e1,ih _ hd (by omega),ya,yW (ZL (by omega) (by omega)),CI h0]
   have e2:w8 (Int.tmod (n:Int) 128)+128=yav (n % 128+128):=by
    rw[show Int.tmod (n:Int) 128=((n % 128:Nat):Int) from rfl,TX (by omega), <-UInt8.toNat_inj,UInt8.toNat_add,UInt8.toNat_ofNat',UInt8.toNat_ofNat']
    show(n % 128 % 256+128) % 256=_;omega
   rw[e2];rfl
theorem ZQ1{n:Nat}(h:n<=9223372036854775807):BR yD (n:Int)=ab (Xa n):=ZTz 11 n (by omega) h
theorem jP{b:yL yB}{z:Int}(h0:0<=z)(h:z<=9223372036854775807)(hb:b.length<=1000000):ZX yD b z=ab (b++Xa z.toNat):=by
 obtain⟨n,rfl⟩:=Int.eq_ofNat_of_zero_le h0;have hl:=Z4 (n:=n) (by omega);unfold ZX;rw[yW (ZL (by omega) (by omega)),yW (yY (by omega)),ZQ1 (by omega),ya,yW (ZL (by omega) (by omega)),yap]
theorem ZO5{b:yL yB}{z:Int}(h0:0<=z)(h:z<=9223372036854775807)(hb:b.length<=1000000):SZ yD b z=ab (b++Xa z.toNat):=jP h0 h hb
theorem TY{b:yL yB}(x:yU)(hb:b.length<=1000000):XO yD b x=ab (b++dx x.toNat):=by
 unfold XO;rw[yW (ZL (by omega) (by omega))]
 have e:=Zu (step:=YI yD) 8 (λk:Nat=>(x,7 - (k:Int),b++(dx x.toNat).take k)) (x:=b++dx x.toNat) (by
  intro k hk;have hl:((dx x.toNat).take k).length<=8:=by rw[yx];omega
  unfold YI;dsimp only
  have q1:(min ((cD (wi (8*(7 - (k:Int))))).toNat:Int).toNat 64)=56 - 8*k:=by
   rw[ZT (z:=8*(7 - (k:Int))) (by omega) (by omega)]
   have:(cD (8*(7 - (k:Int)))).toNat=56 - 8*k:=by
    unfold cD;rw[yan];omega
   omega
  rw[yW (yY (by omega)),yW (ZL (by rw[yl];omega) (by rw[yl];omega)),ZT (z:=7 - (k:Int) - 1) (by omega) (by omega),q1,CM,show 7 - (k:Int) - 1=7 - ((k+1:Nat):Int) by omega,List.take_add_one,uq _ hk,yad];rfl) (by
  unfold YI;dsimp only;rw[yX (cE (by omega)),ybs (by rw[QL];exact yj _)]) (by omega)
 have e:Zb (YI yD) yD (x,(7:Int),b++[])=_:=e;rw[yar]at e;rw[e,ya]
theorem CR{b h:yL yB}(hb:b.length<=1000000)(hh:h.length=32):YB yD b h=ab (b++h):=by
 unfold YB;rw[yW (ZL (by omega) (by omega))]
 have e:=Zu (step:=Yt yD) 32 (λk:Nat=>((k:Int),h,b++h.take k)) (x:=(h,b++h)) (by
  intro k hk;obtain⟨e,he,_⟩:=Zf (l:=h) (k:=k) (by omega);have hl:(h.take k).length<=32:=by rw[yx];omega
  unfold Yt;dsimp only;rw[yW (yY (by omega)),yW (ZV (by omega) (by omega)),yap,he,ya,yW (ZL (by rw[yl];omega) (by rw[yl];omega)),Zn (by omega),List.take_add_one,he,yad];rfl) (by
  unfold Yt;dsimp only;rw[yX (cE (by omega)),ybs (by omega)]) (by omega)
 have e:Zb (Yt yD) yD ((0:Int),h,b++[])=_:=e;rw[yar]at e;rw[e,ya]
theorem ZFi{b c:yL yB}(hb:b.length<=1000000)(hc:c.length<=1000000):W6 yD b c=ab (b++(Xa c.length++c)):=by
 unfold W6;have hl:=Z4 (n:=c.length) (by omega);rw[ZO5 (by omega) (by omega) hb,ya,yap,yW (ZL (by rw[yl];omega) (by rw[yl];omega)),yad]
theorem ZQ2(a b:yU):SR yD a b=ab (yv ((a.toNat+b.toNat) % bO)):=by
 rw[<-TL];rfl
theorem ZBd(a:yU):W1 yD a=ab (ah (a.toNat < bO)):=by
 unfold W1;congr 1
theorem ZTA(o x h M:Nat):((o+x) % M+(x+x) % M*h) % M=(o+x*(2*h+1)) % M:=by
 rw[Nat.add_mod,Nat.mod_mod,ybr,Nat.mod_mod, <-ybr, <-Nat.add_mod];congr 1;rw[Nat.add_mul,Nat.mul_add,Nat.mul_one,Nat.mul_left_comm];omega
theorem ZQ3(o x h M:Nat):(o+(x+x) % M*h) % M=(o+x*(2*h)) % M:=by
 rw[Nat.add_mod,ybr,Nat.mod_mod, <-ybr, <-Nat.add_mod];congr 1;rw[Nat.add_mul,Nat.mul_left_comm];omega
theorem ZQ4(a b:yU):BY yD a b=ab (yv (a.toNat*b.toNat % bO)):=by
 unfold BY Vl;rw[ya,ya];have hM:(2305843009213688669:yU).toNat=bO:=rfl;have hO:bO=2305843009213688669:=rfl
 have addm:∀u v:yU,u.toNat < bO->v.toNat < bO->((u+v) % 2305843009213688669).toNat=(u.toNat+v.toNat) % bO:=λu v hu hv=>by
  rw[UInt64.toNat_mod,UInt64.toNat_add,hM,yaf (a:=u.toNat+v.toNat) (by omega)]
 obtain⟨x,h1,h2⟩:=Yn (step:=WM yD) 64 (λk s=>∃x y o:yU,s=(x,y,o)/\x.toNat < bO/\o.toNat < bO/\y.toNat < 2 ^ (64 - k)/\(o.toNat+x.toNat*y.toNat) % bO=a.toNat*b.toNat % bO) (λr=>r.toNat=a.toNat*b.toNat % bO)
  (i:=(a % 2305843009213688669,b % 2305843009213688669,(0:yU))) ⟨_,_,_,rfl,by rw[jN];exact kz,by decide,by rw[jN];have:b.toNat % bO < bO:=kz;omega,by rw[jN,jN,show(0:yU).toNat=0 from rfl,Nat.zero_add, <-ybr]⟩ (by omega) (by
  rintro k _ hk ⟨x,y,o,rfl,hx,ho,hy,he⟩;unfold WM;dsimp only;by_cases h0:y.toNat=0
  .right;rw[yX (by rw[yN];show¬(0:yU).toNat < y.toNat;rw[h0];decide)];exact⟨_,rfl,by rw[h0,Nat.mul_zero,ybu,yaf ho]at he;exact he⟩
  .left;have hy2:(y / 2).toNat=y.toNat / 2:=by rw[UInt64.toNat_div];rfl
   have hyk:(y / 2).toNat < 2 ^ (64 - (k+1)):=by
    rw[hy2,Nat.div_lt_iff_lt_mul (by decide), <-Nat.pow_succ];have:(64 - (k+1)).succ=64 - k:=by omega
    rw[this];exact hy
   have hxx:=addm x x hx hx;rw[yW (show ah (y > 0)=af from yY (show(0:yU).toNat < y.toNat from Nat.pos_of_ne_zero h0))]
   have hm:((y % 2)==1)=ah (y.toNat % 2=1):=by
    have e:(y % 2).toNat=y.toNat % 2:=by rw[UInt64.toNat_mod];rfl
    by_cases h1:y.toNat % 2=1
    .rw[yY h1,yT, <-ybz,e,h1];rfl
    .rw[yZ h1,beq_eq_false_iff_ne];intro h2;rw[h2]at e;exact h1 e.symm
   rw[hm];have hd:y.toNat=2*(y.toNat / 2)+y.toNat % 2:=by omega
   by_cases h1:y.toNat % 2=1
   .rw[yW (yY h1)];have hox:=addm o x ho hx;refine⟨_,rfl,_,_,_,rfl,by rw[hxx];exact kz,by rw[hox];exact kz,hyk, ?_⟩;rw[hxx,hox,hy2,ZTA, <-he];rw[h1]at hd;rw[<-hd]
   .rw[yX (by rw[yN];exact h1)];refine⟨_,rfl,_,_,_,rfl,by rw[hxx];exact kz,ho,hyk, ?_⟩;rw[hxx,hy2,ZQ3, <-he];have h2:y.toNat % 2=0:=by omega
    rw[h2,ybu]at hd;rw[<-hd]) (by
  rintro _ ⟨x,y,o,rfl,hx,ho,hy,he⟩;have h0:y.toNat=0:=by simpa using hy
  unfold WM;dsimp only;rw[yX (by rw[yN];show¬(0:yU).toNat < y.toNat;rw[h0];decide)];exact⟨_,rfl,by rw[h0,Nat.mul_zero,ybu,yaf ho]at he;exact he⟩)
 rw[h1,ya];congr 1;rw[<-ybz,h2,uo]
theorem ZL6{lo hi:Int}{l:yL Int}(hl:l.length<=100)(h:∀x,x∈l->lo<=x/\x<=hi):Xp yD lo hi l=ab af:=by
 unfold Xp We WW;rw[show(l,(l.length:Int),(0:Int),lo,hi)=(λk:Nat=>(l,(l.length:Int),(k:Int),lo,hi)) 0 from rfl,Zu (x:=.inr (lo,hi)) l.length (λk:Nat=>(l,(l.length:Int),(k:Int),lo,hi)) ?_ ?_ (by omega),ya]
 .rfl
 .intro k hk;obtain⟨e,he,hm⟩:=Zf hk;have:=h e hm;unfold YK PE;dsimp only;rw[yW (ZE hk),Zj he,ya,yX (cE (by omega)),ya,yZ (by omega),yX (by simp),Zn (by omega)]
 .unfold YK;dsimp only;rw[yX (by rw[ZA];decide)]
theorem w1{lo hi z:Int}(h1:lo<=z)(h2:z<=hi):Xp yD lo hi [z]=ab af:=ZL6 (by simp) λx hx=>by rw[List.mem_singleton.1 hx];exact⟨h1,h2⟩
theorem TZ{z a b:Int}(h1:a<=z)(h2:z<=b):Xn yD z a b=ab af:=by
 unfold Xn;rw[yW (yY h1),yY h2]
theorem qx(p q:Prop)[Decidable p][Decidable q]{b:Bool}(h:b=ah (p/\q)):(if decide p=af then ab (decide q) else ab ag)=ab b:=by
 subst h;by_cases h1:p
 .rw[yW (yY h1)];by_cases h2:q
  .rw[yY h2,yY ⟨h1,h2⟩]
  .rw[yZ h2,yZ λh=>h2 h.2]
 .rw[yX (by rw[yN];exact h1),yZ λh=>h1 h.1]
theorem ZTB(z a b:Int):Xn yD z a b=ab (ah (a<=z/\z<=b)):=qx _ _ rfl
def W7(t:aX):Prop:=(0<=t.1/\t.1<=65536)/\(1<=t.2.2.1/\t.2.2.1<=4096)/\(0<=t.2.2.2.1/\t.2.2.2.1<=16)/\(t.1<=t.2.1/\t.2.1<=1125899906842624)/\(1<=t.2.2.2.2.1/\t.2.2.2.2.1<=1125899906842624)/\(0<=t.2.2.2.2.2/\t.2.2.2.2.2<=1125899906842624)
instance(t:aX):Decidable (W7 t):=by unfold W7;infer_instance
theorem ja{p q:Prop}[Decidable p][Decidable q][Decidable (p/\q)]{x:yO Bool}(h:x=ab (decide q)):(if decide p=af then x else ab ag)=ab (ah (p/\q)):=by
 rw[h];exact qx p q (by congr)
theorem ZO6(t:aX):xu yD t=ab (ah (W7 t)):=by
 unfold xu;simp only[ZTB,ya];exact ja (ja (ja (ja (ja rfl))))
def pts(b:aN):yL yU:=[b.1,b.2.1,b.2.2.1,b.2.2.2.1,b.2.2.2.2]
def gA(p:yU):Prop:=cZ p.toNat/\p≠1
instance(p:yU):Decidable (gA p):=by unfold gA;infer_instance
def eN(b:aN):Prop:=∀p,p∈pts b->gA p
instance(b:aN):Decidable (eN b):=by unfold eN;infer_instance
theorem ZO7(p:yU):xD yD p=ab (!decide (gA p)):=by
 unfold xD;rw[qo,ya];by_cases h:p=1
 .rw[yW (beq_iff_eq.2 h),yZ (p:=gA p) λk=>k.2 h];rfl
 .rw[yX (by rw[yT];exact h)];by_cases k:cZ p.toNat
  .rw[yY k,yY (p:=gA p) ⟨k,h⟩]
  .rw[yZ k,yZ (p:=gA p) λq=>k q.1]
theorem ZL7(b:aN):xE yD b=ab (ah (eN b)):=by
 unfold xE LV LU
 obtain⟨x,h1,h2⟩:=Yn (step:=VY yD) 5 (λk s=>s=(pts b,(5:Int),(k:Int))/\∀j p,j < k->(pts b)[j]? =ab p->gA p) (λx=>(∃j:Nat,x=.inl (j:Int)/\¬eN b)\/x=.inr ()/\eN b) (i:=(pts b,((pts b).length:Int),(0:Int))) ⟨rfl,λj p hj=>by omega⟩ (by omega) (by
  rintro k _ hk ⟨rfl,hj⟩;obtain⟨p,hp,hm⟩:=Zf (l:=pts b) (k:=k) hk;unfold VY;dsimp only;rw[yW (yY (by omega)),Zj hp,ya,ZO7,ya,Zn (by omega)];by_cases h:gA p
  .left;rw[yY h,yX (by decide)];refine⟨_,rfl,rfl,λj q hjk hq=> ?_⟩;by_cases e:j=k
   .subst e;rw[hp]at hq;cases hq;exact h
   .exact hj j q (by omega) hq
  .right;rw[yZ h,yW (by decide)];exact⟨_,rfl,.inl ⟨k,rfl,λzO=>h (zO p hm)⟩⟩) (by
  rintro _ ⟨rfl,hj⟩;unfold VY;dsimp only;rw[yX (cE (by omega))];refine⟨_,rfl,.inr ⟨rfl,λp hp=> ?_⟩⟩;obtain⟨j,hj1,hj2⟩:=ybg hp;exact hj j p hj1 (by rw[yac hj1,hj2]))
 rw[show([b.1,b.2.1,b.2.2.1,b.2.2.2.1,b.2.2.2.2]:yL yU)=pts b from rfl,h1,ya]
 rcases h2 with⟨j,rfl,h⟩|⟨rfl,h⟩
 .dsimp only;rw[ya,ya,yY (show(j:Int) >= 0 by omega),yZ h];rfl
 .dsimp only;rw[ya,ya,yY h];rfl
structure dR(ch:Chan):Prop where
 b:ch.2.2.1.length=2
 t:ch.2.2.2.1.length=2
 a0: -9223372036854775808<=ch.2.1
 a1:ch.2.1<=9223372036854775807
 n0: -9223372036854775808<=ch.1.2
 n1:ch.1.2<=9223372036854775807
 o0: -9223372036854775808<=ch.2.2.2.2
 o1:ch.2.2.2.2<=9223372036854775807
def UA(ch:Chan):Prop:=∀i:Nat,i < 2->∀t b,ch.2.2.2.1[i]? =ab t->ch.2.2.1[i]? =ab b->W7 t/\eN b
open Classical in
theorem qy{α:Type}{l:yL α}(h:l.length=2):∃a b,l=[a,b]:=by
 match l,h with
 |[a,b],_=>exact⟨a,b,rfl⟩
theorem ZHn{a:al}{A:Int}{b0 b1:aN}{t0 t1:aX}{op:Int}:UA (a,A,[b0,b1],[t0,t1],op)↔(W7 t0/\eN b0)/\W7 t1/\eN b1:=by
 constructor
 .intro h;exact⟨h 0 (by omega) t0 b0 rfl rfl,h 1 (by omega) t1 b1 rfl rfl⟩
 .rintro⟨h0,h1⟩ i hi t b ht hb;grind
theorem ZHo(ch:Chan)(l:yL aX){k:Nat}(hk:k < 2){t:aX}{b:aN}(ht:l[k]? =ab t)(hb:ch.2.2.1[k]? =ab b):
 pR yD (l,(k:Int),ch)=ab (if W7 t/\eN b then .inl (l,((k+1:Nat):Int),ch) else .inr (.inl (1,ch))):=by
 unfold pR;dsimp only;rw[yW (yY (by omega)),Zj ht,ya,ZO6,ya,yW (ZV (by omega) (by omega)),yap,hb,ya,ZL7,ya,Zn (by omega)]
 all_goals grind
theorem ZHp(ch:Chan)(l:yL aX){t0 t1:aX}{b0 b1:aN}(ht:l=[t0,t1])(hb:ch.2.2.1=[b0,b1]):
 Zb (pR yD) yD (l,(0:Int),ch)=ab (if(W7 t0/\eN b0)/\W7 t1/\eN b1 then .inr ch else .inl (1,ch)):=by
 subst ht;have s0:=ZHo ch [t0,t1] (k:=0) (by omega) (t:=t0) (b:=b0) rfl (by rw[hb];rfl);have s1:=ZHo ch [t0,t1] (k:=1) (by omega) (t:=t1) (b:=b1) rfl (by rw[hb];rfl);by_cases h0:W7 t0/\eN b0
 .rw[yW h0]at s0;by_cases h1:W7 t1/\eN b1
  .rw[yW h1]at s1;rw[yW ⟨h0,h1⟩];refine Zu 2 (λk:Nat=>([t0,t1],(k:Int),ch)) ?_ ?_ (by omega)
   .all_goals grind
   .unfold pR;rfl
  .rw[yX h1]at s1;rw[yX λh=>h1 h.2];exact Zu 1 (λk:Nat=>([t0,t1],(k:Int),ch)) (λk hk=>by rw[show k=0 by omega];exact s0) s1 (by omega)
 .rw[yX h0]at s0;rw[yX λh=>h0 h.1];exact Zu 0 (λk:Nat=>([t0,t1],(k:Int),ch)) (λk hk=>absurd hk (by omega)) s0 (by omega)
theorem ZHq(X:BitVec 64):(X&&& ~~~(1#64))=0#64↔X=0#64\/X=1#64:=by
 constructor
 .intro h
  have hb:∀i:Nat,1<=i->X.getLsbD i=ag:=by
   intro i hi;have:=congrArg (λy=>BitVec.getLsbD y i) h;simp only[BitVec.getLsbD_and,BitVec.getLsbD_not,BitVec.getLsbD_zero]at this
   all_goals grind
  cases h0:X.getLsbD 0 with
  |false=>
   left;apply BitVec.eq_of_getLsbD_eq;intro i hi
   match i with
   |0=>rw[h0];simp
   |j+1=>rw[hb (j+1) (by omega)];simp
  |true=>
   right;apply BitVec.eq_of_getLsbD_eq;intro i hi
   match i with
   |0=>rw[h0];rfl
   |j+1=>
    rw[hb (j+1) (by omega),BitVec.getLsbD_one];simp
 grind
theorem ZDg{op:Int}(o0: -9223372036854775808<=op)(o1:op<=9223372036854775807):((bits .andNot .i64 op 1)!=0)= !decide (0<=op/\op<=1):=by
 have e:bits .andNot .i64 op 1=IntKind.i64.wrap ((ycb 64 op&&& ~~~(1#64)).toNat:Int):=rfl;have hlt:=(ycb 64 op&&& ~~~(1#64)).isLt
 have hw:∀n:Nat,n < 18446744073709551616->(IntKind.i64.wrap (n:Int)=0↔n=0):=by
  intro n hn;have e2:IntKind.i64.wrap (n:Int)=if(ah ((n:Int) % 18446744073709551616 >= 9223372036854775808))=af then(n:Int) % 18446744073709551616 - 18446744073709551616 else(n:Int) % 18446744073709551616:=rfl
  all_goals grind
 have hx:(ycb 64 op&&& ~~~(1#64)).toNat=0↔0<=op/\op<=1:=by
  rw[show((ycb 64 op&&& ~~~(1#64)).toNat=0↔(ycb 64 op&&& ~~~(1#64))=0#64) from⟨λh=>BitVec.eq_of_toNat_eq h,λh=>by rw[h];rfl⟩,ZHq]
  have hn:(ycb 64 op).toNat=(op % 18446744073709551616).toNat:=by rw[BitVec.toNat_ofInt];rfl
  constructor
  .all_goals grind
  .rintro⟨h0,h1⟩;rcases (show op=0\/op=1 by omega) with rfl|rfl
   all_goals grind
 all_goals grind
theorem ZO8{ch:Chan}(w:dR ch):∃e:Int,mH yD ch=ab e/\(e=0->(1<=ch.2.1/\ch.2.1<=1125899906842624)/\(0<=ch.1.2/\ch.1.2<=63)/\(ch.2.2.2.2=0\/ch.2.2.2.2=1)/\UA ch):=by
 obtain⟨b0,b1,hb⟩:=qy w.b;obtain⟨t0,t1,ht⟩:=qy w.t;have a0:=w.a0;have o0:=w.o0;have o1:=w.o1;obtain⟨⟨id,no⟩,A,bs,ts,op⟩:=ch;dsimp only at hb ht a0 o0 o1;subst hb;subst ht;have hop:=ZDg o0 o1;unfold mH;dsimp only;by_cases h1:1<=A/\A<=1125899906842624
 .rw[yX (show¬ah (A < 1)=af by rw[yN];omega),yX (show¬ah (A > 1125899906842624)=af by rw[yN];omega)];by_cases h2:0<=no/\no<=63
  .rw[yX (show¬ah (no < 0)=af by rw[yN];omega),yX (show¬ah (no >= 64)=af by rw[yN];omega)];rw[hop];by_cases h3:0<=op/\op<=1
   .rw[yY h3,yX (by decide),ZHp _ _ rfl rfl,ya];by_cases h4:(W7 t0/\eN b0)/\W7 t1/\eN b1
    .rw[yW h4];dsimp only;obtain⟨_,_,_,q0,_⟩:=h4.1.1;obtain⟨p0,_⟩:=h4.1.1;obtain⟨_,_,_,q1,_⟩:=h4.2.1;obtain⟨p1,_⟩:=h4.2.1
     have n0:lw yD t0.2.1 t1.2.1=if t0.2.1+t1.2.1<=1125899906842624 then ab (t0.2.1+t1.2.1,af) else ab (0,ag):=by
      unfold lw pQ;rw[yW (yY (show t0.2.1 >= 0 by omega)),yW (yY (show t1.2.1 >= 0 by omega)),ya,ya,yY (show t0.2.1<=1125899906842624 by omega),yY (show t1.2.1<=1125899906842624 by omega),yX (by decide),yX (by decide),ZT (z:=1125899906842624 - t1.2.1) (by omega) (by omega),ZT (z:=t0.2.1+t1.2.1) (by omega) (by omega)]
      all_goals grind
     rw[ybm,yay,ybm,ya,ya,n0];refine⟨if t0.2.1+t1.2.1 > A then 10 else 0, ?_,λ_=>⟨h1,h2,by omega,ZHn.2 h4⟩⟩
     grind
    .rw[yX h4];grind
   .rw[yZ h3,yW (by decide)];grind
  .refine⟨1, ?_,λh=>absurd h (by decide)⟩
   all_goals grind
 .refine⟨1, ?_,λh=>absurd h (by decide)⟩
  all_goals grind
def ZRR(c:Cond):Prop:=(0<=c.1/\c.1<=1)/\(1<=c.2.1/\c.2.1<=1048576)/\(1<=c.2.2.1/\c.2.2.1<=1125899906842624)/\(1<=c.2.2.2.2/\c.2.2.2.2<=1048576)/\gA c.2.2.2.1
instance(c:Cond):Decidable (ZRR c):=by unfold ZRR;infer_instance
def ZRS(a b:Cond):Prop:=a.1 < b.1\/a.1=b.1/\a.2.1 < b.2.1
instance(a b:Cond):Decidable (ZRS a b):=by unfold ZRS;infer_instance
def cb(n:Nat)(ok:Nat->Prop):Prop:=∀k,k < n->ok k
open Classical in
open Classical in
open Classical in
theorem ZL8{l:yL yU}(hl:l.length<=9223372036854775807):∃b,qa yD l=ab b/\(b=ag->∀p,p∈l->cZ p.toNat):=by
 unfold qa AB
 obtain⟨x,h1,h2⟩:=Yn (step:=YO yD) l.length (λk s=>s=(l,(l.length:Int),(k:Int))/\∀j p,j < k->l[j]? =ab p->cZ p.toNat) (λx=>(∃k:Nat,x=.inl (k:Int))\/x=.inr ()/\∀p,p∈l->cZ p.toNat) (i:=(l,(l.length:Int),(0:Int))) ⟨rfl,λj p hj=>by omega⟩ (by omega) (by
  rintro k _ hk ⟨rfl,hj⟩;obtain⟨e,he,_⟩:=Zf hk;unfold YO;dsimp only;rw[yW (ZE hk),Zj he,ya,TQ,ya,Zn (by omega)];by_cases hp:cZ e.toNat
  .rw[yY hp];left;refine⟨_,rfl,rfl,λj p h3 h4=> ?_⟩;by_cases h5:j < k
   .exact hj j p h5 h4
   .have:j=k:=by omega
    subst this;rw[he]at h4;cases h4;exact hp
  .rw[yZ hp];right;exact⟨_,rfl,.inl ⟨k,rfl⟩⟩) (by
  rintro _ ⟨rfl,hj⟩;unfold YO;dsimp only;rw[yX (by rw[ZA];decide)];refine⟨_,rfl,.inr ⟨rfl,λp hp=> ?_⟩⟩;obtain⟨j,hj1,hj2⟩:=ybg hp;exact hj j p hj1 (by rw[yac hj1,hj2]))
 rw[h1,ya];rcases h2 with⟨k,rfl⟩|⟨rfl,h2⟩
 all_goals simp_all
def dq(l:ZG):Prop:=l.length<=9223372036854775807/\∀b,b∈l->b.1.length<=9223372036854775807
theorem ZxQ(z:Int):∃b,Q8 yD z=ab b/\(b=af->0<=z/\z<=1048576):=by
 unfold Q8;by_cases h:z >= 0
 .simp_all
 .rw[yX (by rw[yN];exact h)];grind
theorem UB{l:ZG}(hl:dq l):∃b,Wd yD l=ab b/\(b=af↔iC l/\kA l):=by
 have key:∃b,Wd yD l=ab b/\(b=af->iC l/\kA l):=by
  unfold Wd;obtain⟨h0,h1⟩:=hl
  obtain⟨x,hx,hp⟩:=Yn (step:=Vv yD) l.length (λk s=>s=(l,(l.length:Int),(k:Int),l)/\∀j b,j < k->l[j]? =ab b->lC b/\lD b)
   (λx=>x=.inl (ag,l)\/(x=.inr l/\∀b,b∈l->lC b/\lD b)) (i:=(l,(l.length:Int),(0:Int),l)) ⟨rfl,λj b hj=>by omega⟩ (by omega) (by
   rintro k _ hk ⟨rfl,hj⟩;obtain⟨e,he,hm⟩:=Zf hk
   have hnext:(lC e/\lD e)->∀j b,j < k+1->l[j]? =ab b->lC b/\lD b:=by
    all_goals grind
   unfold Vv;dsimp only;rw[yW (ZE hk),Zj he,ya];by_cases k1:(e.1.length:Int) > 12
   .right;rw[yW (yY k1)];exact⟨_,rfl,.inl rfl⟩
   rw[yX (by rw[yN];exact k1)];obtain⟨b,hb,hbp⟩:=ZL8 (h1 e hm);rw[hb,ya]
   cases b with
   |true=>right;exact⟨_,rfl,.inl rfl⟩
   |false=>
    obtain⟨c,hc,hc2⟩:=ZxQ e.2.1;obtain⟨d,hd,hd2⟩:=ZxQ e.2.2.1;rw[yX (by decide),hc,ya,hd,ya]
    cases c with
    |false=>right;exact⟨_,rfl,.inl rfl⟩
    |true=>
     cases d with
     |false=>right;exact⟨_,rfl,.inl rfl⟩
     |true=>
      have hn:=λhz:e.2.2.2≠0->cZ e.2.2.2.toNat=>hnext ⟨⟨by omega,(hc2 rfl).1,(hc2 rfl).2,(hd2 rfl).1,(hd2 rfl).2⟩,hbp rfl,hz⟩;rw[yX (by decide),yX (by decide),Zn (by omega)];by_cases hz:e.2.2.2=0
      .rw[yX (by rw[hz];decide)];left;exact⟨_,rfl,rfl,hn λh=>absurd hz h⟩
      .rw[yW (by simp[hz]),TQ,ya];by_cases hpt:cZ e.2.2.2.toNat
       .rw[yY hpt];left;exact⟨_,rfl,rfl,hn λ_=>hpt⟩
       .rw[yZ hpt];right;exact⟨_,rfl,.inl rfl⟩) (by
   rintro _ ⟨rfl,hj⟩;unfold Vv;dsimp only;rw[yX (by rw[ZA];decide)];refine⟨_,rfl,.inr ⟨rfl,λb hb=> ?_⟩⟩;obtain⟨j,hj1,hj2⟩:=ybg hb;exact hj j b hj1 (by rw[yac hj1,hj2]))
  rw[hx,ya];rcases hp with rfl|⟨rfl,hp⟩
  .grind
  .dsimp only;by_cases h2:(l.length:Int) > 0
   .rw[yW (yY h2)];refine⟨_,rfl,λh3=>⟨⟨by omega, ?_,λb hb=>(hp b hb).1⟩,λb hb=>(hp b hb).2⟩⟩;grind
   simp_all
 obtain⟨b,h1,h2⟩:=key;refine⟨b,h1,h2,λh=> ?_⟩;rw[ZBb h.1 h.2]at h1;grind
theorem ZHr{e:Zq}(hw:e.1.length<=9223372036854775807):∃b,V9 yD e=ab b/\(b=af↔lC e/\lD e):=by
 unfold V9;by_cases c1:(e.1.length:Int) > 12
 .rw[yW (yY c1)];exact⟨_,rfl,λh=>(by cases h),λh=>by have:=h.1.1;omega⟩
 rw[yX (by rw[yN];exact c1)];by_cases c2:e.2.1 < 0
 .rw[yW (yY c2)];exact⟨_,rfl,λh=>(by cases h),λh=>by have:=h.1.2.1;omega⟩
 rw[yX (by rw[yN];exact c2)];by_cases c3:e.2.1 > 1048576
 .rw[yW (yY c3)];exact⟨_,rfl,λh=>(by cases h),λh=>by have:=h.1.2.2.1;omega⟩
 rw[yX (by rw[yN];exact c3)];by_cases c4:e.2.2.1 < 0
 .rw[yW (yY c4)];exact⟨_,rfl,λh=>(by cases h),λh=>by have:=h.1.2.2.2.1;omega⟩
 rw[yX (by rw[yN];exact c4)];by_cases c5:e.2.2.1 > 1048576
 .rw[yW (yY c5)];exact⟨_,rfl,λh=>(by cases h),λh=>by have:=h.1.2.2.2.2;omega⟩
 rw[yX (by rw[yN];exact c5)];have ok:lC e:=⟨by omega,by omega,by omega,by omega,by omega⟩
 obtain⟨x,h1,h2⟩:=Yn (step:=XP yD) e.1.length (λk s=>s=((k:Int),e)/\∀j p,j < k->e.1[j]? =ab p->cZ p.toNat) (λx=>(x=.inl (ag,e)/\¬lD e)\/(x=.inr e/\∀p,p∈e.1->cZ p.toNat)) (i:=((0:Int),e)) ⟨rfl,λj p hj=>by omega⟩ (by omega) (by
  rintro k _ hk ⟨rfl,hj⟩;obtain⟨d,hd,hm⟩:=Zf hk;unfold XP;dsimp only;rw[yW (ZE hk),Zj hd,ya,CF,ya];by_cases hp:cZ d.toNat
  .left;rw[yY hp,yX (by decide),Zn (by omega)];refine⟨_,rfl,rfl,λj p h3 h4=> ?_⟩;by_cases h5:j < k
   .exact hj j p h5 h4
   .have:j=k:=by omega
    subst this;rw[hd]at h4;cases h4;exact hp
  .right;rw[yZ hp,yW (by decide)];exact⟨_,rfl,.inl ⟨rfl,λh=>hp (h.1 d hm)⟩⟩) (by
  rintro _ ⟨rfl,hj⟩;unfold XP;dsimp only;rw[yX (by rw[ZA];decide)];refine⟨_,rfl,.inr ⟨rfl,λp hp=> ?_⟩⟩;obtain⟨j,j1,j2⟩:=ybg hp;exact hj j p j1 (by rw[yac j1,j2]))
 rw[h1,ya];rcases h2 with⟨rfl,h2⟩|⟨rfl,h2⟩
 .grind
 .dsimp only;rw[CF,ya];by_cases h0:e.2.2.2=0
  .rw[yW (beq_iff_eq.2 h0)];exact⟨_,rfl,λ_=>⟨ok,h2,λh=>absurd h0 h⟩,λ_=>rfl⟩
  .rw[yX (by rw[yT];exact h0)];refine⟨_,rfl,λh=>⟨ok,h2,λ_=>yF h⟩,λh=>yY (h.2.2 h0)⟩
theorem CS{l:ZG}(hl:dq l):∃b,Y8 yD l=ab b/\(b=af↔iC l/\kA l):=by
 obtain⟨w0,w1⟩:=hl;unfold Y8;by_cases c1:(l.length:Int) < 1
 .rw[yW (yY c1)];exact⟨_,rfl,λh=>(by cases h),λh=>by have:=h.1.1;omega⟩
 rw[yX (by rw[yN];exact c1)];by_cases c2:(l.length:Int) > 4
 .rw[yW (yY c2)];exact⟨_,rfl,λh=>(by cases h),λh=>by have:=h.1.2.1;omega⟩
 rw[yX (by rw[yN];exact c2)]
 obtain⟨x,h1,h2⟩:=Yn (step:=X7 yD) l.length (λk s=>s=((k:Int),l)/\∀j b,j < k->l[j]? =ab b->lC b/\lD b) (λx=>(x=.inl (ag,l)/\¬(iC l/\kA l))\/(x=.inr l/\∀b,b∈l->lC b/\lD b)) (i:=((0:Int),l)) ⟨rfl,λj p hj=>by omega⟩ (by omega) (by
  rintro k _ hk ⟨rfl,hj⟩;obtain⟨d,hd,hm⟩:=Zf hk;obtain⟨b,b1,b2⟩:=ZHr (w1 d hm);unfold X7;dsimp only;rw[yW (ZE hk),Zj hd,ya,b1,ya]
  cases b with
  |true=>
   left;rw[yX (by decide),Zn (by omega)];refine⟨_,rfl,rfl,λj p h3 h4=> ?_⟩;by_cases h5:j < k
   .exact hj j p h5 h4
   .have:j=k:=by omega
    subst this;rw[hd]at h4;cases h4
    exact b2.1 rfl
  |false=>
   right;rw[yW (by decide)];exact⟨_,rfl,.inl ⟨rfl,λh=>by have:=b2.2 ⟨h.1.2.2 d hm,h.2 d hm⟩;cases this⟩⟩) (by
  rintro _ ⟨rfl,hj⟩;unfold X7;dsimp only;rw[yX (by rw[ZA];decide)];refine⟨_,rfl,.inr ⟨rfl,λp hp=> ?_⟩⟩;obtain⟨j,j1,j2⟩:=ybg hp;exact hj j p j1 (by rw[yac j1,j2]))
 rw[h1,ya];rcases h2 with⟨rfl,h2⟩|⟨rfl,h2⟩
 .grind
 .exact⟨_,rfl,λ_=>⟨⟨by omega,by omega,λb hb=>(h2 b hb).1⟩,λb hb=>(h2 b hb).2⟩,λ_=>rfl⟩
theorem ZO9{l:ZG}(h:iC l)(hp:kA l):Y8 yD l=ab af:=by
 obtain⟨b,b1,b2⟩:=CS (l:=l) ⟨by have:=h.2.1;omega,λb hb=>by have:=(h.2.2 b hb).1;omega⟩;grind
theorem ZJe{c:yL yB}(hc:c.length<=100000){i:Int}{l:ZG}{e:Zq}(hk:e.1.length<=12):
 Zb (YW yD) yD (c,i,(0:Int),l,e)=ab (c++bA lE e.1,i,l,e):=by
 have q:=Zu (step:=YW yD) e.1.length (λk:Nat=>(c++bA lE (e.1.take k),i,(k:Int),l,e)) (x:=(c++bA lE e.1,i,l,e)) (by
  intro k hk2;obtain⟨d,hd,_⟩:=Zf hk2;have hl:=uu hk k;unfold YW;dsimp only;rw[yW (ZE hk2),Zj hd,ya,TY _ (by rw[yl];omega),ya,Zn (by omega),Qc hd,yad];rfl) (by
  unfold YW;dsimp only;rw[yX (by rw[ZA];decide),yai]) (by omega)
 rw[show bA lE (e.1.take 0)=[] from rfl,yar]at q
 exact q
theorem ZHs{l:ZG}(h:iC l)(hp:kA l):Qv yD l=ab (lF l):=by
 unfold Qv;have h0:=h.2.1;have h9:=Z4 (n:=l.length) (by omega);rw[ZO9 h hp,ya,yX (by decide),jP (by omega) (by omega) (by simp),ya,yy,yap]
 have q:=Zu (step:=X8 yD) l.length (λk:Nat=>(Xa l.length++bA iY (l.take k),(k:Int),l)) (x:=(lF l,l)) (by
  intro k hk;obtain⟨e,he,hm⟩:=Zf hk;obtain⟨e1,e2,e3,e4,e5⟩:=h.2.2 e hm;have hl:=jO (f:=iY) (c:=131) (λx hx=>TS (h.2.2 x hx)) h.2.1 k;have hr:=Z4 (n:=e.1.length) (by omega);have hr2:=Z4 (n:=e.2.1.toNat) (by omega);have hr3:=Z4 (n:=e.2.2.1.toNat) (by omega);have hk8:=uu e1 e.1.length;rw[yai]at hk8;unfold X8;dsimp only
  rw[yW (ZE hk),Zj he,ya,jP (by omega) (by omega) (by rw[yl];omega),ya,yap,
   ZJe (by simp only[yl];omega) e1,ya]
  dsimp only
  rw[jP e2 (by omega) (by simp only[yl];omega),ya,jP e4 (by omega) (by simp only[yl];omega),ya,
   TY _ (by simp only[yl];omega),ya,Zn (by omega),Qc he]
  unfold iY;simp only[yad]) (by
  unfold X8;dsimp only;rw[yX (by rw[ZA];decide),yai];rfl) (by omega)
 rw[show bA iY (l.take 0)=[] from rfl,yar]at q
 grind
open Classical in
theorem uv{I X:Type}{step:I->yO (I⊕X)}(n:Nat)(st:Nat->I)(ok:Nat->Prop)(good:X)(bad:Nat->X)
 (h1:∀k,k < n->(∀j,j < k->ok j)->ok k->step (st k)=ab (.inl (st (k+1)))) (h2:∀k,k < n->(∀j,j < k->ok j)->¬ok k->step (st k)=ab (.inr (bad k))) (he:(∀j,j < n->ok j)->step (st n)=ab (.inr good)) (hn:n < 18446744073709551616):
 ∃x,Zb step yD (st 0)=ab x/\(cb n ok/\x=good\/¬cb n ok/\∃k,x=bad k):=by
 refine Yn (step:=step) n (λk s=>s=st k/\∀j,j < k->ok j) _ (i:=st 0) ⟨rfl,λj h=>by omega⟩ hn ?_ ?_
 .rintro k _ hk ⟨rfl,hj⟩;by_cases h:ok k
  .all_goals grind
  .right;exact⟨_,h2 k hk hj h,.inr ⟨λq=>h (q k hk),k,rfl⟩⟩
 .rintro _ ⟨rfl,hj⟩;exact⟨_,he hj,.inl ⟨hj,rfl⟩⟩
theorem ZDh{K V:Type}[DecidableEq K](k:K)(v:V)(k':K):∀m:yL (K×V),fY (gU m k v) k'=if k'=k then ab v else fY m k'
 |[]=>rfl
 |q::m=>by
  have ih:=ZDh k v k' m;unfold gU;by_cases h:k=q.1
  .rw[yW h];unfold fY
   all_goals grind
  .rw[yX h];unfold fY
   all_goals grind
def gN(l:yL In):yL (al×Bool):=l.foldl (λm x=>gU m x.1 af) []
theorem ZKQ{l:yL In}{k:Nat}{x:In}(h:l[k]? =ab x):gN (l.take (k+1))=gU (gN (l.take k)) x.1 af:=by
 rw[XU h,gN,List.foldl_append];rfl
theorem UC(l:yL In)(p:al):∀k,k<=l.length->(fY (gN (l.take k)) p=ab af/\(∃j y,j < k/\l[j]? =ab y/\y.1=p))\/(fY (gN (l.take k)) p=ae/\∀j y,j < k->l[j]? =ab y->y.1≠p)
 |0,_=>.inr ⟨rfl,λj y h=>by omega⟩
 |k+1,hk=>by
  obtain⟨x,hx,_⟩:=Zf (l:=l) (k:=k) (by omega);rw[ZKQ hx,ZDh];by_cases h:p=x.1
  .grind
  .rw[yX h];rcases UC l p k (by omega) with⟨h1,j,y,h2,h3,h4⟩|⟨h1,h2⟩
   all_goals grind
def cV(w:XT):Prop:=0<=w.1/\w.1 < 4/\w.2.1.length<=12
instance(w:XT):Decidable (cV w):=by unfold cV;infer_instance
theorem UD(w:XT):qb yD w=ab (ah (cV w)):=by
 unfold qb;refine(ja (q:=w.1 < 4/\(w.2.1.length:Int)<=12) (qx _ _ rfl)).trans (congrArg ab (decide_eq_decide.2 ?_));unfold cV;omega
theorem ZKR(w:XT):W5 yD w=ab (ah (cV w)):=by
 unfold W5;refine(ja (q:=w.1<=3/\(w.2.1.length:Int)<=12) (qx _ _ rfl)).trans (congrArg ab (decide_eq_decide.2 ?_));unfold cV;omega
def fK(l:yL In)(k:Nat):Prop:=∀x,l[k]? =ab x->(0<=x.1.2/\x.1.2 < 64)/\cV x.2/\∀j y,j < k->l[j]? =ab y->y.1≠x.1
theorem UE(t:Tx)(hl:t.1.length<=100):∃x,Zb (qc yD) yD (t.1,(t.1.length:Int),(0:Int),t,([]:yL (al×Bool)))=ab x/\(cb t.1.length (fK t.1)/\x=.inr (t,gN t.1)\/¬cb t.1.length (fK t.1)/\∃k:Nat,x=.inl (ag,t,gN (t.1.take k))):=by
 refine uv t.1.length (λk:Nat=>(t.1,(t.1.length:Int),(k:Int),t,gN (t.1.take k))) (fK t.1) (Sum.inr (t,gN t.1)) (λk=>Sum.inl (ag,t,gN (t.1.take k))) ?_ ?_ ?_ (by omega)
 .intro k hk _ hok;obtain⟨x,hx,_⟩:=Zf hk;obtain⟨o1,o2,o3⟩:=hok x hx;unfold qc;dsimp only;rw[yW (ZE hk),Zj hx,ya];rcases UC t.1 x.1 k (by omega) with⟨_,j,y,h2,h3,h4⟩|⟨h1,_⟩
  .grind
  .rw[h1];unfold lb;dsimp only;rw[yX (show¬ah (x.1.2 < 0)=af by rw[yN];omega),yX (show¬ah (x.1.2 >= 64)=af by rw[yN];omega),UD,ya,yY o2,yX (by decide),Zn (by omega),ZKQ hx]
 .intro k hk _ hno;obtain⟨x,hx,_⟩:=Zf hk;unfold qc;dsimp only;rw[yW (ZE hk),Zj hx,ya];rcases UC t.1 x.1 k (by omega) with⟨h1,_⟩|⟨h1,h2⟩
  .rw[h1];unfold lb;grind
  .rw[h1];unfold lb;dsimp only;by_cases c1:x.1.2 < 0
   .grind
   .rw[yX (show¬ah (x.1.2 < 0)=af by rw[yN];exact c1)];by_cases c2:x.1.2 >= 64
    .grind
    .rw[yX (show¬ah (x.1.2 >= 64)=af by rw[yN];exact c2),UD,ya];by_cases c3:cV x.2
     .refine absurd ?_ hno;intro x' hx';grind
     grind
 .intro _;unfold qc;grind
theorem ZDi(t:Tx){k:Nat}(hk:k<=100)(hkl:k<=t.1.length)(x:In):∃r,Zb (Yo yD) yD ((k:Int),(0:Int),t,x)=ab r/\((∀j y,j < k->t.1[j]? =ab y->y.1≠x.1)/\r=.inr ((k:Int),t,x)\/(¬∀j y,j < k->t.1[j]? =ab y->y.1≠x.1)/\r=.inl (ag,t,x)):=by
 obtain⟨r,r1,r2⟩:=uv (step:=Yo yD) k (λj:Nat=>((k:Int),(j:Int),t,x)) (λj=>∀y,t.1[j]? =ab y->y.1≠x.1) (.inr ((k:Int),t,x)) (λ_=>.inl (ag,t,x)) (by
  intro j hj _ hok;obtain⟨y,hy,_⟩:=Zf (l:=t.1) (k:=j) (by omega);unfold Yo;dsimp only;rw[yW (ZE hj),Zj hy,ya,yX (by rw[yN];exact hok y hy),Zn (by omega)]) (by
  intro j hj _ hno;obtain⟨y,hy,_⟩:=Zf (l:=t.1) (k:=j) (by omega)
  have h:y.1=x.1:=by
   all_goals grind
  unfold Yo;dsimp only;rw[yW (ZE hj),Zj hy,ya,yW (yY h)]) (by
  intro _;unfold Yo;dsimp only;rw[yX (by rw[ZA];decide)]) (by omega)
 refine⟨r,r1, ?_⟩;rcases r2 with⟨h1,h2⟩|⟨h1,_,h2⟩
 .exact .inl ⟨λj y hj hy=>h1 j hj y hy,h2⟩
 .exact .inr ⟨λq=>h1 λj hj y hy=>q j y hj hy,h2⟩
theorem ZL9(t:Tx)(hl:t.1.length<=100):∃x,Zb (YT yD) yD ((0:Int),t)=ab x/\(cb t.1.length (fK t.1)/\x=.inr t\/¬cb t.1.length (fK t.1)/\∃k:Nat,x=.inl (ag,t)):=by
 refine uv t.1.length (λk:Nat=>((k:Int),t)) (fK t.1) (Sum.inr t) (λ_=>Sum.inl (ag,t)) ?_ ?_ ?_ (by omega)
 .intro k hk _ hok;obtain⟨x,hx,_⟩:=Zf hk;obtain⟨o1,o2,o3⟩:=hok x hx;unfold YT;dsimp only;rw[yW (ZE hk),Zj hx,ya,yX (show¬ah (x.1.2 < 0)=af by rw[yN];omega),yX (show¬ah (x.1.2 > 63)=af by rw[yN];omega),ZKR,ya,yY o2,yX (by decide)];obtain⟨r,r1,⟨_,rfl⟩|⟨h,_⟩⟩:=ZDi t (k:=k) (by omega) (by omega) x
  .rw[r1,ya];dsimp only;rw[Zn (by omega)]
  grind
 .intro k hk _ hno;obtain⟨x,hx,_⟩:=Zf hk;unfold YT;dsimp only;rw[yW (ZE hk),Zj hx,ya];by_cases c1:x.1.2 < 0
  .grind
  .rw[yX (show¬ah (x.1.2 < 0)=af by rw[yN];exact c1)];by_cases c2:x.1.2 > 63
   .grind
   .rw[yX (show¬ah (x.1.2 > 63)=af by rw[yN];exact c2),ZKR,ya];by_cases c3:cV x.2
    .rw[yY c3,yX (by decide)];obtain⟨r,r1,⟨h,rfl⟩|⟨h,rfl⟩⟩:=ZDi t (k:=k) (by omega) (by omega) x
     .refine absurd ?_ hno;intro x' hx';grind
     grind
    grind
 .intro _;unfold YT;grind
theorem ZHt(z:Int):pQ yD z=ab (ah (0<=z/\z<=1125899906842624)):=qx (z >= 0) (z<=1125899906842624) rfl
theorem ZHu{a b:Int}(h0:0<=a)(h1:a<=1125899906842624):lw yD a b=ab (if(0<=b/\b<=1125899906842624)/\a+b<=1125899906842624 then(a+b,af) else(0,ag)):=by
 unfold lw;rw[ZHt,ya,yY (p:=0<=a/\a<=1125899906842624) ⟨h0,h1⟩,yX (show¬(!true)=af by decide),ZHt,ya];by_cases hb:0<=b/\b<=1125899906842624
 .rw[yY hb,yX (show¬(!true)=af by decide),ZT (z:=1125899906842624 - b) (by omega) (by omega),ZT (z:=a+b) (by omega) (by omega)]
  all_goals grind
 grind
structure jQ(t:Tx):Prop where
 ins:t.1.length<=70
 outs:t.2.1.length<=70
 ig:∀o,o∈t.2.1->dq o.2
def iE(o:Out):Prop:=(0<=o.1/\o.1<=1125899906842624)/\iC o.2/\kA o.2
def eG(l:yL Out)(k:Nat):Prop:=∀o,l[k]? =ab o->iE o/\QM (l.take (k+1))<=1125899906842624
def uw(l:yL Out)(k:Nat):Prop:=∀o,l[k]? =ab o->iE o
theorem ux{l:yL Out}:∀k,k<=l.length->(∀j,j < k->uw l j)->0<=QM (l.take k)/\QM (l.take k)<=k*1125899906842624
 |0,_,_=>by simp[QM]
 |k+1,hk,h=>by
  obtain⟨o,ho,_⟩:=Zf (l:=l) (k:=k) (by omega);have ih:=ux k (by omega) λj hj=>h j (by omega);have hc:=(h k (by omega) o ho).1;rw[qu ho];omega
theorem UF{t:Tx}(hl:jQ t)(m:yL (al×Bool)):∃x,Zb (qd yD) yD ((0:Int),t.2.1,(t.2.1.length:Int),(0:Int),t,m)=ab x/\(cb t.2.1.length (eG t.2.1)/\x=.inr (t,m)\/¬cb t.2.1.length (eG t.2.1)/\∃k:Nat,x=.inl (ag,t,m)):=by
 have hw:=hl.outs
 have sm:∀k,k<=t.2.1.length->(∀j,j < k->eG t.2.1 j)->0<=QM (t.2.1.take k)/\QM (t.2.1.take k)<=1125899906842624:=by
  intro k hk h;refine⟨(ux k hk λj hj o ho=>(h j hj o ho).1).1, ?_⟩
  cases k with
  |zero=>simp[QM]
  |succ k=>
   obtain⟨o,ho,_⟩:=Zf (l:=t.2.1) (k:=k) (by omega);exact(h k (by omega) o ho).2
 refine uv t.2.1.length (λk:Nat=>(QM (t.2.1.take k),t.2.1,(t.2.1.length:Int),(k:Int),t,m)) (eG t.2.1) (Sum.inr (t,m)) (λ_=>Sum.inl (ag,t,m)) ?_ ?_ ?_ (by omega)
 .intro k hk hj hok;obtain⟨o,ho,hm⟩:=Zf hk;obtain⟨⟨o1,o2⟩,o3⟩:=hok o ho;rw[qu ho]at o3;obtain⟨s0,s1⟩:=sm k (by omega) hj;obtain⟨b,b1,b2⟩:=UB (hl.ig o hm);unfold qd;dsimp only;rw[yW (ZE hk),Zj ho,ya,ZHu s0 s1,yW ⟨o1,o3⟩,ya,yX (by simp),b1,ya,b2.2 o2,yX (by decide),Zn (by omega),qu ho]
 .intro k hk hj hno;obtain⟨o,ho,hm⟩:=Zf hk;obtain⟨s0,s1⟩:=sm k (by omega) hj;obtain⟨b,b1,b2⟩:=UB (hl.ig o hm);unfold qd;dsimp only;rw[yW (ZE hk),Zj ho,ya,ZHu s0 s1,ya];by_cases c:(0<=o.1/\o.1<=1125899906842624)/\QM (t.2.1.take k)+o.1<=1125899906842624
  .rw[yW c,yX (by simp),b1,ya]
   cases b with
   |true=>
    refine absurd ?_ hno;intro o' ho';rw[ho]at ho';cases ho';rw[qu ho]
    exact⟨⟨c.1,b2.1 rfl⟩,c.2⟩
   |false=>rw[yW (by decide)]
  grind
 .intro _;unfold qd;grind
theorem ZJg{t:Tx}(hl:jQ t):∃x,Zb (YU yD) yD ((0:Int),(0:Int),t)=ab x/\(cb t.2.1.length (uw t.2.1)/\x=.inr (QM t.2.1,t)\/¬cb t.2.1.length (uw t.2.1)/\∃k:Nat,x=.inl (ag,t)):=by
 have hw:=hl.outs;refine uv t.2.1.length (λk:Nat=>(QM (t.2.1.take k),(k:Int),t)) (uw t.2.1) (Sum.inr (QM t.2.1,t)) (λ_=>Sum.inl (ag,t)) ?_ ?_ ?_ (by omega)
 .intro k hk hj hok;obtain⟨o,ho,hm⟩:=Zf hk;obtain⟨o1,o2⟩:=hok o ho;obtain⟨s0,s1⟩:=ux k (by omega) hj;obtain⟨b,b1,b2⟩:=CS (hl.ig o hm);have hk70:(k:Int)<=70:=by omega
  unfold YU;dsimp only;rw[yW (ZE hk),Zj ho,ya,yX (show¬ah (o.1 < 0)=af by rw[yN];omega),yX (show¬ah (o.1 > 1125899906842624)=af by rw[yN];omega),b1,ya,b2.2 o2,yX (by decide),Zn (by omega),qu ho,ZT (z:=QM (t.2.1.take k)+o.1) (by omega) (by omega)]
 .intro k hk hj hno;obtain⟨o,ho,hm⟩:=Zf hk;obtain⟨b,b1,b2⟩:=CS (hl.ig o hm);unfold YU;dsimp only;rw[yW (ZE hk),Zj ho,ya];by_cases c1:o.1 < 0
  .grind
  .rw[yX (show¬ah (o.1 < 0)=af by rw[yN];exact c1)];by_cases c2:o.1 > 1125899906842624
   .grind
   .rw[yX (show¬ah (o.1 > 1125899906842624)=af by rw[yN];exact c2),b1,ya]
    cases b with
    |true=>
     refine absurd ?_ hno;intro o' ho';rw[ho]at ho';cases ho'
     exact⟨⟨by omega,by omega⟩,b2.1 rfl⟩
    |false=>rw[yW (by decide)]
 .intro _;unfold YU;grind
theorem ZHv{l:yL Out}(hl:l.length<=70):cb l.length (eG l)↔cb l.length (uw l)/\QM l<=1125899906842624:=by
 constructor
 .intro h;refine⟨λk hk o ho=>(h k hk o ho).1, ?_⟩
  cases hn:l.length with
  |zero=>
   rw[List.eq_nil_of_length_eq_zero hn]
   simp[QM]
  |succ k=>
   obtain⟨o,ho,_⟩:=Zf (l:=l) (k:=k) (by omega);have:=(h k (by omega) o ho).2
   rwa [show k+1=l.length by omega,yai]at this
 .rintro⟨h1,h2⟩ k hk o ho;refine⟨h1 k hk o ho, ?_⟩
  have zO:∀e,e∈l->0<=e.1:=by
   intro e he;obtain⟨j,j1,j2⟩:=ybg he;exact(h1 j j1 e (by rw[yac j1,j2])).1.1
  have hs:QM l=QM (l.take (k+1))+QM (l.drop (k+1)):=by
   have q:=congrArg QM (ybd (k+1) l);rw[<-q];unfold QM;grind
  have hd:0<=QM (l.drop (k+1)):=TW (by
   intro x hx;obtain⟨e,he,rfl⟩:=List.mem_map.1 hx;exact zO e (List.mem_of_mem_drop he))
  omega
theorem UG{t:Tx}(hl:jQ t):∃b:Bool,bc yD t=ab b/\Y9 yD t=ab b/\(b=af->ur t):=by
 unfold bc Y9;by_cases c1:(t.1.length:Int) < 1
 .simp_all
 have c1':¬ah ((t.1.length:Int) < 1)=af:=by rw[yN];exact c1
 rw[yX c1',yX c1'];by_cases c2:(t.1.length:Int) > 64
 .simp_all
 have c2':¬ah ((t.1.length:Int) > 64)=af:=by rw[yN];exact c2
 rw[yX c2',yX c2'];by_cases c3:(t.2.1.length:Int) > 64
 .simp_all
 have c3':¬ah ((t.2.1.length:Int) > 64)=af:=by rw[yN];exact c3
 rw[yX c3',yX c3'];by_cases c4:t.2.2 < 0
 .simp_all
 have c4':¬ah (t.2.2 < 0)=af:=by rw[yN];exact c4
 rw[yX c4',yX c4'];have h70:=hl.ins;obtain⟨x,x1,x2⟩:=UE t (by omega);obtain⟨y,y1,y2⟩:=ZL9 t (by omega);rw[x1,y1,ya,ya];rcases x2 with⟨hI,rfl⟩|⟨hI,k,rfl⟩
 .rcases y2 with⟨_,rfl⟩|⟨hI',_⟩
  .dsimp only;obtain⟨x,x1,x2⟩:=UF hl (gN t.1);obtain⟨y,y1,y2⟩:=ZJg hl;rw[x1,y1,ya,ya];rcases x2 with⟨hO,rfl⟩|⟨hO,k,rfl⟩
   .obtain⟨hO1,hO2⟩:=(ZHv hl.outs).1 hO;rcases y2 with⟨_,rfl⟩|⟨hO',_⟩
    .dsimp only;rw[yY hO2];refine⟨af,rfl,rfl,λ_=>⟨by omega,by omega,by omega,by omega,λx hx=> ?_,λo ho=> ?_⟩⟩
     .obtain⟨j,j1,j2⟩:=ybg hx;obtain⟨q1,q2,_⟩:=hI j j1 x (by rw[yac j1,j2]);exact⟨q1.1,q1.2,q2.1,q2.2.1,q2.2.2⟩
     .obtain⟨j,j1,j2⟩:=ybg ho;obtain⟨q1,q2⟩:=hO1 j j1 o (by rw[yac j1,j2]);exact⟨q1.1,q1.2,q2.1,q2.2⟩
    grind
   .rcases y2 with⟨hO',rfl⟩|⟨_,_,rfl⟩
    .dsimp only;rw[yZ (p:=QM t.2.1<=1125899906842624) λq=>hO ((ZHv hl.outs).2 ⟨hO',q⟩)];grind
    grind
  grind
 grind
theorem ZMa{t:Tx}(hw:kB t)(h:ur t):Qw yD t=ab (iZ t):=by
 obtain⟨ins,outs,note⟩:=t;obtain⟨w1,w2⟩:=hw;obtain⟨t1,t2,t3,t4,t5,t6⟩:=h;dsimp only at w1 w2 t1 t2 t3 t4 t5 t6;have r1:=Z4 (n:=ins.length) (by omega);have r2:=Z4 (n:=outs.length) (by omega);have ci:∀k,(bA fQ (ins.take k)).length<=64*41:=jO (λx hx=>ZKN (w1 x hx) (t5 x hx)) t2;have co:∀k,(bA iD (outs.take k)).length<=64*551:=jO (λx hx=>ZHk (t6 x hx)) t3;have ci':=ci ins.length;rw[yai]at ci';have co':=co outs.length;rw[yai]at co';unfold Qw;dsimp only;rw[jP (by omega) (by omega) (by simp),ya,yy,yap]
 have q:=Zu (step:=YX yD) ins.length (λk:Nat=>(Xa ins.length++bA fQ (ins.take k),(k:Int),(ins,outs,note))) (x:=(Xa ins.length++bA fQ ins,(ins,outs,note))) (by
  intro k hk;obtain⟨e,he,hm⟩:=Zf hk;have hc:=ci k;have h32:=w1 e hm;have hi:=t5 e hm;unfold YX;dsimp only;rw[yW (ZE hk),Zj he,ya,CR (by rw[yl];omega) h32,ya,ya,jP hi.1 (by have:=hi.2.1;omega) (by simp only[yl];omega),ya,Zn (by omega),Qc he];unfold fQ;simp only[yad]) (by
  unfold YX;dsimp only;rw[yX (by rw[ZA];decide),yai]) (by omega)
 rw[show bA fQ (ins.take 0)=[] from rfl,yar]at q
 have q:Zb (YX yD) yD (Xa ins.length,(0:Int),(ins,outs,note))=_:=q;rw[q,ya];dsimp only;rw[jP (by omega) (by omega) (by rw[yl];omega),ya,yap]
 have p:=Zu (step:=YY yD) outs.length (λk:Nat=>(Xa ins.length++bA fQ ins++Xa outs.length++bA iD (outs.take k),(k:Int),(ins,outs,note))) (x:=(Xa ins.length++bA fQ ins++Xa outs.length++bA iD outs,(ins,outs,note))) (by
  intro k hk;obtain⟨e,he,hm⟩:=Zf hk;have hc:=co k;obtain⟨o1,o2,o3,o4⟩:=t6 e hm;have hl:=TT o3;have hr:=Z4 (n:=e.1.toNat) (by omega);unfold YY;dsimp only;rw[yW (ZE hk),Zj he,ya,jP o1 (by omega) (by simp only[yl];omega),ya,ya,ZHs o3 o4,ya,ZFi (by simp only[yl];omega) (by omega),ya,Zn (by omega),Qc he];unfold iD;simp only[yad]) (by
  unfold YY;dsimp only;rw[yX (by rw[ZA];decide),yai]) (by omega)
 rw[show bA iD (outs.take 0)=[] from rfl,yar]at p
 have p:Zb (YY yD) yD (Xa ins.length++bA fQ ins++Xa outs.length,(0:Int),(ins,outs,note))=_:=p;rw[p,ya];dsimp only;rw[jP t4 w2 (by simp only[yl];omega),ya];unfold iZ;grind
noncomputable def gO(t:Tx):yL yB:=Sha.fO (gz OW [iZ t])
theorem CT{t:Tx}(h:(iZ t).length<=40000):∀x,x∈[iZ t]->x.length<=60000:=λx hx=>by
 grind
theorem ZDj{t:Tx}(hl:jQ t)(hw:kB t):∃n,jM yD t=ab n/\WC yD t=ab n/\n.length=32:=by
 obtain⟨b,b1,b2,b3⟩:=UG hl;unfold jM WC;rw[b1,b2,ya,ya]
 cases b with
 |false=>exact⟨_,rfl,rfl,rfl⟩
 |true=>
  have h:=b3 rfl;obtain⟨p1,p2⟩:=TU hw h;rw[yX (by decide),yX (by decide),p1,ZMa hw h,ya,ya,mP (by decide) (by simp) (CT p2),qw (by decide) (by simp) (CT p2)];exact⟨_,rfl,rfl,Sha.iV _⟩
theorem UH(p:yU):∃o,QT yD p=ab o/\o.length=8:=by
 unfold QT
 obtain⟨x,h1,h2⟩:=Yn (step:=XZ yD) 8 (λk s=>∃c,s=(p,(8:Int),(k:Int),c)/\c.length=8) (λx=>x.length=8) (i:=(p,(8:Int),(0:Int),([0,0,0,0,0,0,0,0]:yL yB))) ⟨_,rfl,rfl⟩ (by omega) (by
  rintro k _ hk ⟨c,rfl,hc⟩;left;obtain⟨e,he,_⟩:=Zf (l:=c) (k:=k) (by omega);unfold XZ;dsimp only;rw[yW (yY (by omega)),ZT (z:=8*(k:Int)) (by omega) (by omega),ZT (z:=56 - 8*(k:Int)) (by omega) (by omega),yW (yY (by omega)),yW (ZV (by omega) (by omega)),yap,Nat.zero_add,he,ya,Zn (by omega)];exact⟨_,rfl,_,rfl,by rw[yba];exact hc⟩) (by
  rintro _ ⟨c,rfl,hc⟩;unfold XZ;dsimp only;rw[yX (cE (by omega))];exact⟨_,rfl,hc⟩)
 grind
theorem ZPa(r p:yU){m:yL yB}(hm:m.length=32):∃k,WU yD r p m=ab k:=by
 unfold WU;obtain⟨a,a1,a2⟩:=UH r;obtain⟨b,b1,b2⟩:=UH p
 obtain⟨c,c1,c2⟩:=ZKK (s:=zy) (ls:=[a,b,m]) (by decide) (by simp) (by
  intro l hl;simp only[List.mem_cons,List.not_mem_nil,or_false]at hl;rcases hl with rfl|rfl|rfl <;> omega)
 obtain⟨k,k1,k2⟩:=ZKJ c2;grind
theorem UI:tk 1=1:=qp LO
theorem ZTC(n:Nat):sc 1 n=1:=by
 rw[<-ybz,CH,UI,show(1:yU).toNat=1 from rfl,Nat.one_pow]
 rfl
theorem UJ(p:yU)(h:cZ p.toNat):ad p 1=p:=by
 rw[<-ybz,ZTw,qp h,UI];show p.toNat*1 % dw=_;rw[Nat.mul_one,yaf h.2.1]
instance(k:yU):Decidable (Key k):=by unfold Key;infer_instance
theorem UK(k:yU):tP yD k=ab (ah (Key k)):=by
 unfold tP;rw[qq,ya];by_cases h:k.toNat < bO
 .rw[yW (yY h)];congr 1;by_cases h0:k=0
  .subst h0;rw[yZ (by unfold Key;exact λh=>absurd h.1 (by decide))];rfl
  .have:0 < k.toNat:=by
    rcases Nat.eq_zero_or_pos k.toNat with h1|h1
    .exact absurd (ybz.1 h1) h0
    .exact h1
   rw[yY (p:=Key k) ⟨this,h⟩];grind
 .rw[yX (by rw[yN];exact h),yZ (λhk=>h hk.2)]
theorem ZQ5{k:yU}(hk:Key k){m:yL yB}(hm:m.length=32):∃s,Q7 yD k m=ab s/\uk yD (B k.toNat) m s=ab af:=by
 obtain⟨a,a1,a2⟩:=UH k
 obtain⟨c,c1,c2⟩:=ZKK (s:=zA) (ls:=[a,m]) (by decide) (by simp) (by
  intro l hl;simp only[List.mem_cons,List.not_mem_nil,or_false]at hl;rcases hl with rfl|rfl <;> omega)
 obtain⟨n,n1,n2⟩:=ZKJ c2;obtain⟨x,x1⟩:=ZPa (B n.toNat) (B k.toNat) hm;refine⟨(B n.toNat,yv ((n.toNat+(yv (x.toNat*k.toNat % bO)).toNat) % bO)), ?_, ?_⟩
 .unfold Q7;rw[UK,ya,yY hk,yX (by decide),a1,ya,c1,ya,n1,ya];unfold zz;rw[kv,ya,ZOZ,UJ _ (mO _),ya,kv,ya,x1,ya,ZKI,ya,TL,ya];rfl
 .unfold uk PW
  have hr:VW yD (yv ((n.toNat+(yv (x.toNat*k.toNat % bO)).toNat) % bO))=ab af:=by
   rw[qq,uo,yY kz]
  dsimp only;rw[yX (by rw[yT];exact ZUR hk),qo,yY (mO _),ya,yX (by decide),qo,yY (show cZ (1:yU).toNat from LO),ya,yX (by decide),qo,yY (mO _),ya,yX (by decide),hr,ya,yX (by decide),x1,ya,ZHg,ya,ZTx,ya,ZOY (by simp),ya,kv,ya,ya]
  refine congrArg ab ?_;rw[yT,ZUO,uo,ZVI, <-ybz,lB]
  have e1:(tk (sc 1 (bO - 1))).toNat=1:=by
   rw[ZTC,UI];rfl
  unfold gy gy gy gy;rw[ul (qn _),qp (mO _),qp (mO _),e1,Nat.one_mul,Nat.mul_one,lB,lB,Nat.mod_mod,Nat.mod_mod, <-ybr, <-Nat.pow_add];rw[ybi k.toNat, <-lB, <-lB, <-TK,Nat.add_mod_mod,TK]
end Go.Proofs.YtekdgjajmennjaaGreat
end
