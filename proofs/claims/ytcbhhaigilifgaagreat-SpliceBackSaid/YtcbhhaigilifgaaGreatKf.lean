/- Parts of the proof, in one file. -/
import Derived.Test.YtcbhhaigilifgaaGreatKe
open Option renaming some → ab, none → ad
open Bool renaming true → ae, false → af
open Decidable renaming decide → ag
open Bool renaming and_eq_true → yi, or_false → ycj
open Go.Proofs.Tryz renaming prog → yb
open List renaming length_append → ym, range → yo, getElem?_eq_some_iff → yu, replicate → yx, length_take → yaa, append_assoc → yac, length_map → yad, length_cons → yag, map_cons → yah, getElem?_cons_succ → yak, all_eq_true → yal, getElem?_cons_zero → yam, getElem?_map → yao, map_append → yau, length_drop → yaz, take_append_drop → ybc, mem_range → ybq, mem_cons → ybs, length_set → ybu, getElem?_eq_none → ybz, getD_eq_getElem?_getD → ycx, length_singleton → ycy
open Nat renaming le_refl → yl, add → yy, shiftRight → yai, zero_add → yar, mod_eq_of_lt → yas, mul_comm → ybo, two_pow_add_eq_or_of_lt → yda
open Option renaming bind_some → ya, bind_eq_some_iff → yf, map_some → yae
open Option.some renaming injEq → yn
open Prod.mk renaming injEq → yq
open UInt32 renaming toNat → ybm, ofNat → ych, toNat_ofNat' → ycv
open UInt64 renaming ofNat → yan, toNat_ofNat' → ybh, toNat_lt → ybv, lt_iff_toNat_lt → ycs
open UInt8 renaming ofNat → yap, toNat → ybg
set_option linter.unusedVariables false
set_option linter.unusedSimpArgs false
section
set_option maxRecDepth 4000
namespace Go.Proofs.YtcbhhaigilifgaaGreat
open Go Go.Ev
theorem JE{z:Nat}:(yan (z % 4611686018427377339)).toNat=z % 4611686018427377339:=by
 rw[ybh,yas];exact Nat.lt_trans (Nat.mod_lt _ (by decide)) (by decide)
theorem ZFO(a b:yU):Yu yD a b=ab (yan (a.toNat*b.toNat % 4611686018427377339)):=by
 unfold Yu wO;rw[ya];dsimp only;unfold W7;rw[yW (by decide),ya,ybh,ybh];have h:a.toNat*b.toNat < 18446744073709551616*18446744073709551616:=Nat.mul_lt_mul'' (ybv a) (ybv b);have f:a.toNat*b.toNat / 18446744073709551616 < 18446744073709551616:=(Nat.div_lt_iff_lt_mul (by decide)).2 h;generalize a.toNat*b.toNat=z at*;rw[show(4611686018427377339:yU).toNat=4611686018427377339 from rfl]
 have e:z / 18446744073709551616 % 2 ^ 64*18446744073709551616+z % 18446744073709551616 % 2 ^ 64=z:=by omega
 rw[e]
theorem JF:∀(k m:Nat)(A N O:yU),N.toNat < 2 ^ k->k < m->Zc (WV yD) m (A,N,O)=ab (yan (gO 4611686018427377339 k A.toNat N.toNat O.toNat))
 |k,0,_,_,_,_,h=>by omega
 |0,m+1,A,N,O,h,_=>by
  have G:¬N > 0:=by
   intro j;have z:0 < N.toNat:=ycs.1 j;rw[Nat.pow_zero]at h;omega
  have hs:WV yD (A,N,O)=if ag (N > 0)=ae then(if((N&&&1)==1)=ae then(Yu yD O A).bind λF=>(Yu yD A A).bind λf=>ab (.inl (f,Zz N 1,F)) else(Yu yD A A).bind λf=>ab (.inl (f,Zz N 1,O))) else ab (.inr O):=rfl
  unfold Zc;rw[hs]
  rw[yX (by rw[yN];exact G),ya,gO,UInt64.ofNat_toNat]
 |k+1,m+1,A,N,O,h,M=>by
  have hs:WV yD (A,N,O)=if ag (N > 0)=ae then(if((N&&&1)==1)=ae then(Yu yD O A).bind λF=>(Yu yD A A).bind λf=>ab (.inl (f,Zz N 1,F)) else(Yu yD A A).bind λf=>ab (.inl (f,Zz N 1,O))) else ab (.inr O):=rfl
  unfold Zc;rw[hs];by_cases j:N > 0
  .have I:0 < N.toNat->gO 4611686018427377339 (k+1) A.toNat N.toNat O.toNat=gO 4611686018427377339 k (A.toNat*A.toNat % 4611686018427377339) (N.toNat / 2) (if N.toNat % 2=1 then O.toNat*A.toNat % 4611686018427377339 else O.toNat):=λh=>by
    rw[gO,yX (by omega)]
   have z:0 < N.toNat:=ycs.1 j
   have g:(Zz N 1).toNat=N.toNat / 2:=by
    unfold Zz;rw[ybh,yas (Nat.lt_of_le_of_lt (Nat.div_le_self ..) (ybv _))]
   have l:(Zz N 1).toNat < 2 ^ k:=by
    rw[g];rw[Nat.pow_succ]at h;omega
   have y:((N&&&1)==1)=ag (N.toNat % 2=1):=by
    rw[Bool.eq_iff_iff,yT,yN, <-UInt64.toNat_inj,UInt64.toNat_and];exact Iff.of_eq (congrArg (· =1) (Nat.and_one_is_mod _))
   rw[yW (yY j),y,I z];simp only[ZFO];by_cases E:N.toNat % 2=1
   .rw[yW (yY E),yW E,ya,ya,ya];dsimp only;rw[JF k m _ _ _ l (by omega),JE,JE,g]
   .rw[yX (by rw[yN];exact E),yX E,ya,ya];dsimp only;rw[JF k m _ _ _ l (by omega),JE,g]
  .have z:N.toNat=0:=by
    rcases Nat.eq_zero_or_pos N.toNat with h5|h5
    .exact h5
    .exact absurd (show(0:yU) < N from ycs.2 h5) j
   rw[yX (by rw[yN];exact j),ya,gO,yW z,UInt64.ofNat_toNat]
theorem ZFP(a n:yU):JC yD a n=ab (yan (gO 4611686018427377339 64 a.toNat n.toNat 1)):=by
 unfold JC;rw[JF 64 yD a n 1 (ybv _) (by rw[jQ];omega),ya];rfl
noncomputable def QH(F:Nat)(a0:yU)(a1:yU):yO yU:=ab (yan (gO 4611686018427377339 64 a0.toNat a1.toNat 1))
noncomputable def Zrm(F:Nat):Fs yb:={ JD F with M:=λx=>QH F x.1 x.2}
noncomputable def wP:Fs yb:=Zrm yD
theorem JG:wP.Ok:=wJ (s:=JD yD) Zpp λx=>(ZFP x.1 x.2).symm
end Go.Proofs.YtcbhhaigilifgaaGreat
end
section
set_option maxRecDepth 4000
namespace Go.Proofs.YtcbhhaigilifgaaGreat
open Go Go.Ev
noncomputable section
def Y4(F:Nat)(a0:yU):yO (Bool):=
 if(ag (a0 > 0))=ae then
  if(ag (a0 < 4611686018427377339))=ae then
   (QH F a0 2305843009213688669).bind λa=>
   ab (a==1)
  else
  ab af
 else
 ab af
def WI:Fs yb:=⟨78,[.v .u64],[],[.u64],(zN .bool),λx=>Y4 yD x⟩
theorem WW:WI.Ok:=bg { still:=[2,10]} [] [wP] ⟨JG,aB⟩
def VH(F:Nat)(a0:yU):yO (Bool):=
 (Y4 F a0).bind λa=>
 ab (!a)
def JH:Fs yb:=⟨146,[.v .u64],[],[.u64],(zN .bool),λx=>VH yD x⟩
theorem ZhI:JH.Ok:=bg { still:=[2,3]} [] [WI] ⟨WW,aB⟩
def Vi(F:Nat)(a0:Int):yO (Bool):=
 if(ag (a0 >= 0))=ae then
  ab (ag (a0<=1048576))
 else
 ab af
def Zkl:Fs yb:=⟨148,[.v yI],[],[yI],(zN .bool),λx=>Vi yD x⟩
theorem Zrn:Zkl.Ok:=bg { still:=[2]} [] [] trivial
abbrev _root_.aLF:Go.Ev.Ty:=.sl .u64
abbrev YN:Ty:=(.st [aLF,yI,yI,.u64])
abbrev _root_.aLH:=yL yU
abbrev Z3:Type:=(aLH×Int×Int×yU)
abbrev _root_.aLR:Go.Ev.Ty:=.sl YN
abbrev Yc:Ty:=(.st [aLR])
abbrev _root_.aLO:=yL Z3
abbrev ZY:Type:=aLO
def Y5(F:Nat)(s:(aLH×Int×Int)):yO ((aLH×Int×Int)⊕(Int⊕Unit)):=
 if(ag (s.2.2 < s.2.1))=ae then
  (idx s.1 s.2.2).bind λa=>
  (VH F a).bind λb=>
  if b=ae then
   ab (.inr (.inl s.2.2))
  else
  ab (.inl (s.1,s.2.1,wi (s.2.2+1)))
 else
 ab (.inr (.inr ()))
def Zgg:Lp:=⟨[(0,.v aLF),(1,.fn 146 []),(7,.v yI),(8,.v yI)],[],[aLF,yI,yI],[⟨.ret,[(4,.v yI)],[],[yI]⟩,⟨.exit 0,[],[],[]⟩],Zc (Y5 yD) yD⟩
theorem Zj3:Zgg.cj yb 196 0:=ZQ { still:=[4,15]} [] [JH] ⟨ZhI,aB⟩
def wQ(F:Nat)(a0:aLH):yO (Int):=
 (Zc (Y5 F) F (a0,(a0.length:Int),0)).bind λa=>
 match a with
 |.inl b=>
  ab b
 |.inr c=>
  ab (-1)
def ZhJ:Fs yb:=⟨196,[.v aLF,.fn 146 []],[],[aLF],(zN yI),λx=>wQ yD x⟩
theorem ZnX:ZhJ.Ok:=bg { still:=[4,15]} [(0,Zgg)] [] trivial ⟨Zj3,aB⟩
def pM(F:Nat)(a0:aLH):yO (Bool):=
 (wQ F a0).bind λa=>
 ab (ag (a >= 0))
def ZoN:Fs yb:=⟨147,[.v aLF,.fn 146 []],[],[aLF],(zN .bool),λx=>pM yD x⟩
theorem ZvY:ZoN.Ok:=bg { still:=[4,5,6]} [] [ZhJ] ⟨ZnX,aB⟩
def Wg(F:Nat)(s:(aLO×Int×Int×ZY)):yO ((aLO×Int×Int×ZY)⊕((Bool×ZY)⊕ZY)):=
 if(ag (s.2.2.1 < s.2.1))=ae then
  (idx s.1 s.2.2.1).bind λa=>
  if(ag ((a.1.length:Int) > 12))=ae then
   ab (.inr (.inl (af,s.2.2.2)))
  else
  (pM F a.1).bind λb=>
  if b=ae then
   ab (.inr (.inl (af,s.2.2.2)))
  else
  (Vi F a.2.1).bind λc=>
  if(!c)=ae then
   ab (.inr (.inl (af,s.2.2.2)))
  else
  (Vi F a.2.2.1).bind λd=>
  if(!d)=ae then
   ab (.inr (.inl (af,s.2.2.2)))
  else
  if(a.2.2.2 !=0)=ae then
   (VH F a.2.2.2).bind λe=>
   if e=ae then
    ab (.inr (.inl (af,s.2.2.2)))
   else
   ab (.inl (s.1,s.2.1,wi (s.2.2.1+1),s.2.2.2))
  else
  ab (.inl (s.1,s.2.1,wi (s.2.2.1+1),s.2.2.2))
 else
 ab (.inr (.inr s.2.2.2))
def Zkm:Lp:=⟨[(1,.ak 0 []),(3,.fn 146 []),(7,.v aLR),(8,.v yI),(9,.v yI)],[.var (.v Yc) ae],[aLR,yI,yI,Yc],[⟨.ret,[(2,.v .bool)],[.var (.v Yc) ae],[.bool,Yc]⟩,⟨.exit 0,[(1,.ak 0 [])],[.var (.v Yc) ae],[Yc]⟩],Zc (Wg yD) yD⟩
theorem ZnY:Zkm.cj yb 75 0:=ZQ { still:=[2,19,20,25,31,42]} [] [ZoN,Zkl,JH] ⟨ZvY,Zrn,ZhI,aB⟩
def XC(F:Nat)(a0:ZY):yO (Bool):=
 (Zc (Wg F) F (a0,(a0.length:Int),0,a0)).bind λa=>
 match a with
 |.inl b=>
  ab b.1
 |.inr c=>
  if(ag ((c.length:Int) > 0))=ae then
   ab (ag ((c.length:Int)<=4))
  else
  ab af
def QI:Fs yb:=⟨75,[.v Yc],[],[Yc],(zN .bool),λx=>XC yD x⟩
theorem sO:QI.Ok:=bg { still:=[2,19,20,25,31,42]} [(0,Zkm)] [] trivial ⟨ZnY,aB⟩
def om(F:Nat)(a0:Int):yO (Bool):=
 if(ag (a0 >= 0))=ae then
  ab (ag (a0<=1125899906842624))
 else
 ab af
def ZoO:Fs yb:=⟨158,[.v yI],[],[yI],(zN .bool),λx=>om yD x⟩
theorem ZvZ:ZoO.Ok:=bg { still:=[2]} [] [] trivial
def Qa(F:Nat)(a0:Int)(a1:Int):yO ((Int×Bool)):=
 (om F a0).bind λa=>
 if(!a)=ae then
  ab (0,af)
 else
 (om F a1).bind λb=>
 if(!b)=ae then
  ab (0,af)
 else
 if(ag (a0 > (wi (1125899906842624 - a1))))=ae then
  ab (0,af)
 else
 ab (wi (a0+a1),ae)
def JI:Fs yb:=⟨85,[.v yI,.v yI],[],[yI,yI],[⟨.ret,[(0,.bm [.v yI,.v .bool])],[],[yI,.bool]⟩],λx=>Qa yD x.1 x.2⟩
theorem Zro:JI.Ok:=bg { still:=[4,5,6,10]} [] [ZoO] ⟨ZvZ,aB⟩
abbrev hP:Ty:=(.st [.u64,.u64])
abbrev gn:Type:=(yU×yU)
abbrev wR:Ty:=(.st [yI,(.sl hP),.u64])
abbrev mM:Type:=(Int×(yL gn)×yU)
def sP(F:Nat)(a0:mM):yO (Bool):=
 if(ag (a0.1 >= 0))=ae then
  if(ag (a0.1 < 4))=ae then
   ab (ag ((a0.2.1.length:Int)<=12))
  else
  ab af
 else
 ab af
def Zmj:Fs yb:=⟨118,[.v wR],[],[wR],(zN .bool),λx=>sP yD x⟩
theorem Zs1:Zmj.Ok:=bg { still:=[2]} [] [] trivial
abbrev _root_.aLy:Go.Ev.Ty:=.arr 32 .u8
abbrev ZO:Ty:=(.st [aLy,yI])
abbrev ZL:Type:=(aLu×Int)
abbrev cN:Ty:=(.st [ZO,wR])
abbrev In:Type:=(ZL×mM)
abbrev Wo:Ty:=(.st [yI,Yc])
abbrev Out:Type:=(Int×ZY)
abbrev _root_.aLG:Go.Ev.Ty:=.sl cN
abbrev _root_.aLM:Go.Ev.Ty:=.sl Wo
abbrev bD:Ty:=(.st [aLG,aLM,yI])
abbrev _root_.aLD:=yL In
abbrev _root_.aLJ:=yL Out
abbrev Tx:Type:=(aLD×aLJ×Int)
def QJ(F:Nat):(aLD×Int×Int×Tx×(yL (ZL×Bool)))->yO ((aLD×Int×Int×Tx×(yL (ZL×Bool)))⊕((Bool×Tx×(yL (ZL×Bool)))⊕(Tx×(yL (ZL×Bool)))))
 |(c,b,a,e,d)=>
 if(ag (a < b))=ae then
  (idx c a).bind λf=>
  pm (ii d f.1) (λg=>
   if g=ae then
    ab (.inr (.inl (af,e,d)))
   else
   if(ag (f.1.2 < 0))=ae then
    ab (.inr (.inl (af,e,d)))
   else
   if(ag (f.1.2 >= 64))=ae then
    ab (.inr (.inl (af,e,d)))
   else
   (sP F f.2).bind λh=>
   if(!h)=ae then
    ab (.inr (.inl (af,e,d)))
   else
   ab (.inl (c,b,wi (a+1),e,jg d f.1 ae))) (
   if(ag (f.1.2 < 0))=ae then
    ab (.inr (.inl (af,e,d)))
   else
   if(ag (f.1.2 >= 64))=ae then
    ab (.inr (.inl (af,e,d)))
   else
   (sP F f.2).bind λi=>
   if(!i)=ae then
    ab (.inr (.inl (af,e,d)))
   else
   ab (.inl (c,b,wi (a+1),e,jg d f.1 ae)))
 else
 ab (.inr (.inr (e,d)))
def ZoP:Lp:=⟨[(1,.ak 0 []),(3,.mp 1),(33,.v aLG),(34,.v yI),(35,.v yI)],[.var (.v bD) ae,.map 219 ZO .bool],[aLG,yI,yI,bD,(jk ZO .bool)],[⟨.ret,[(2,.v .bool)],[.var (.v bD) ae,.map 219 ZO .bool],[.bool,bD,(jk ZO .bool)]⟩,⟨.exit 0,[(1,.ak 0 [])],[.var (.v bD) ae,.map 219 ZO .bool],[bD,(jk ZO .bool)]⟩],Zc (QJ yD) yD⟩
theorem Zrp:ZoP.cj yb 58 0:=ZQ { still:=[2,57,73,75,83]} [] [Zmj] ⟨Zs1,aB⟩
def QK(F:Nat):(Int×aLJ×Int×Int×Tx×(yL (ZL×Bool)))->yO ((Int×aLJ×Int×Int×Tx×(yL (ZL×Bool)))⊕((Bool×Tx×(yL (ZL×Bool)))⊕(Tx×(yL (ZL×Bool)))))
 |(d,c,b,a,e,f)=>
 if(ag (a < b))=ae then
  (idx c a).bind λg=>
  (Qa F d g.1).bind λh=>
  if(!h.2)=ae then
   ab (.inr (.inl (af,e,f)))
  else
  (XC F g.2).bind λi=>
  if(!i)=ae then
   ab (.inr (.inl (af,e,f)))
  else
  ab (.inl (h.1,c,b,wi (a+1),e,f))
 else
 ab (.inr (.inr (e,f)))
def ZoQ:Lp:=⟨[(6,.v yI),(66,.v aLM),(67,.v yI),(68,.v yI)],[.var (.v bD) ae,.map 219 ZO .bool],[yI,aLM,yI,yI,bD,(jk ZO .bool)],[⟨.ret,[(2,.v .bool)],[.var (.v bD) ae,.map 219 ZO .bool],[.bool,bD,(jk ZO .bool)]⟩,⟨.exit 2,[],[.var (.v bD) ae,.map 219 ZO .bool],[bD,(jk ZO .bool)]⟩],Zc (QK yD) yD⟩
theorem Zrq:ZoQ.cj yb 58 1:=ZQ { still:=[2,57,73,75,83]} [] [JI,QI] ⟨Zro,sO,aB⟩
def QL(F:Nat)(a0:Tx):yO (Bool):=
 if(ag ((a0.1.length:Int) < 1))=ae then
  ab af
 else
 if(ag ((a0.1.length:Int) > 64))=ae then
  ab af
 else
 if(ag ((a0.2.1.length:Int) > 64))=ae then
  ab af
 else
 if(ag (a0.2.2 < 0))=ae then
  ab af
 else
 (Zc (QJ F) F (a0.1,(a0.1.length:Int),0,a0,([]:yL (ZL×Bool)))).bind λa=>
 match a with
 |.inl b=>
  ab b.1
 |.inr c=>
  (Zc (QK F) F (0,c.1.2.1,(c.1.2.1.length:Int),0,c.1,c.2)).bind λd=>
  match d with
  |.inl e=>
   ab e.1
  |.inr f=>
   ab ae
def sQ:Fs yb:=⟨58,[.v bD],[],[bD],(zN .bool),λx=>QL yD x⟩
theorem wS:sQ.Ok:=bg { still:=[2,57,73,75,83]} [(0,ZoP),(1,ZoQ)] [] trivial ⟨Zrp,Zrq,aB⟩
def Yd(F:Nat)(a0:aLu):yO (aLu):=
 if(cg 0 a0.length 1)=ae then
  ab a0
 else
 ad
abbrev _root_.aLv:Go.Ev.Ty:=.sl .u8
def ZfI:Fs yb:=⟨160,[.sl ae .u8],[],[aLv],(zN aLv),λx=>Yd yD x⟩
theorem ZeW:ZfI.Ok:=bg { own:=[5,7],still:=[2]} [] [] trivial
def Qb(F:Nat):yO (aLu):=
 ab []
def Zdv:Fs yb:=⟨160,[.nil .u8],[],[],(zN aLv),λx=>Qb yD⟩
theorem ZcY:Zdv.Ok:=bg { own:=[5,7],still:=[2]} [] [] trivial
def Wh:Fs yb:=⟨160,[.v aLv],[],[aLv],(zN aLv),λx=>Yd yD x⟩
theorem VU:Wh.Ok:=sC (t:=.u8) (xs:=(zN aLv)) (MA:=λ(x:aLu)=>Yd yD x) (MB:=λ_=>Qb yD) ZeW ZcY rfl
abbrev _root_.aLw:=yL yV
def JJ(F:Nat):yO (aLw):=
 ab [1779033703,3144134277,1013904242,2773480762,1359893119,2600822924,528734635,1541459225]
def Zmk:Fs yb:=⟨197,[],[],[],(zN (.arr 8 .u32)),λx=>JJ yD⟩
theorem Zs2:Zmk.Ok:=bg {} [] [] trivial
def ZK(F:Nat)(a0:yV)(a1:Int):yO (yV):=
 let a:yV:=gV a0 (min (((du a1)&&&31).toNat:Int).toNat 32);let b:yV:=gN a0 (min ((32 - ((du a1)&&&31)).toNat:Int).toNat 32)
 ab (a|||b)
def QZ:Fs yb:=⟨220,[.v .u32,.v yI],[],[.u32,yI],(zN .u32),λx=>ZK yD x.1 x.2⟩
theorem ZcF:QZ.Ok:=bg { still:=[4]} [] [] trivial
def wT(F:Nat)(a0:aLu):yO (yV):=
 (idx a0 0).bind λa=>
 (idx a0 1).bind λb=>
 let c:yV:=(gV (ych a.toNat) 24)|||(gV (ych b.toNat) 16)
 (idx a0 2).bind λd=>
 (idx a0 3).bind λe=>
 let f:yV:=(c|||(gV (ych d.toNat) 8))|||(ych e.toNat)
 ab f
def Zkn:Fs yb:=⟨230,[.v aLv],[],[aLv],(zN .u32),λx=>wT yD x⟩
theorem Zrr:Zkn.Ok:=bg { still:=[2]} [] [] trivial
def VV(F:Nat)(s:(aLu×Int×aLw)):yO ((aLu×Int×aLw)⊕aLw):=
 if(ag (s.2.1 < 64))=ae then
  if(ag (s.2.1 < 16))=ae then
   if(dU s.1.length (ab (wi (4*s.2.1))) ad)=ae then
    (wT F (s.1.drop ((wi (4*s.2.1)).toNat))).bind λa=>
    if(bp s.2.1 64)=ae then
     (s.2.2[s.2.1.toNat]?).bind λb=>
     ab (.inl (s.1,wi (s.2.1+1),s.2.2.set s.2.1.toNat a))
    else
    ad
   else
   ad
  else
  if(bp (wi (s.2.1 - 15)) 64)=ae then
   (s.2.2[(wi (s.2.1 - 15)).toNat]?).bind λc=>
   if(bp (wi (s.2.1 - 2)) 64)=ae then
    (s.2.2[(wi (s.2.1 - 2)).toNat]?).bind λd=>
    (ZK F c (-7)).bind λe=>
    (ZK F c (-18)).bind λf=>
    (ZK F d (-17)).bind λg=>
    (ZK F d (-19)).bind λh=>
    if(bp (wi (s.2.1 - 16)) 64)=ae then
     (s.2.2[(wi (s.2.1 - 16)).toNat]?).bind λi=>
     if(bp (wi (s.2.1 - 7)) 64)=ae then
      (s.2.2[(wi (s.2.1 - 7)).toNat]?).bind λj=>
      let k:yV:=((i+((e^^^f)^^^(gN c 3)))+j)+((g^^^h)^^^(gN d 10))
      if(bp s.2.1 64)=ae then
       (s.2.2[s.2.1.toNat]?).bind λl=>
       ab (.inl (s.1,wi (s.2.1+1),s.2.2.set s.2.1.toNat k))
      else
      ad
     else
     ad
    else
    ad
   else
   ad
  else
  ad
 else
 ab (.inr s.2.2)
def Zgh:Lp:=⟨[(0,.v aLv),(2,.ak 0 []),(8,.v yI)],[.var (.v (.arr 64 .u32)) ae],[aLv,yI,(.arr 64 .u32)],[⟨.exit 0,[(2,.ak 0 [])],[.var (.v (.arr 64 .u32)) ae],[(.arr 64 .u32)]⟩],Zc (VV yD) yD⟩
theorem Zj4:Zgh.cj yb 218 0:=ZQ { still:=[17,28,30,36,38]} [] [Zkn,QZ] ⟨Zrr,ZcF,aB⟩
def wU(F:Nat)(a0:aLu):yO (aLw):=
 (Zc (VV F) F (a0,0,[0,0,0,0,0,0,0,0,0,0,0,0,0,0,0,0,0,0,0,0,0,0,0,0,0,0,0,0,0,0,0,0,0,0,0,0,0,0,0,0,0,0,0,0,0,0,0,0,0,0,0,0,0,0,0,0,0,0,0,0,0,0,0,0])).bind λa=>
 ab a
def ZhK:Fs yb:=⟨218,[.v aLv],[],[aLv],(zN (.arr 64 .u32)),λx=>wU yD x⟩
theorem Zn0:ZhK.Ok:=bg { still:=[17,28,30,36,38]} [(0,Zgh)] [] trivial ⟨Zj4,aB⟩
def JK(F:Nat):yO (aLw):=
 ab [1116352408,1899447441,3049323471,3921009573,961987163,1508970993,2453635748,2870763221,3624381080,310598401,607225278,1426881987,1925078388,2162078206,2614888103,3248222580,3835390401,4022224774,264347078,604807628,770255983,1249150122,1555081692,1996064986,2554220882,2821834349,2952996808,3210313671,3336571891,3584528711,113926993,338241895,666307205,773529912,1294757372,1396182291,1695183700,1986661051,2177026350,2456956037,2730485921,2820302411,3259730800,3345764771,3516065817,3600352804,4094571909,275423344,430227734,506948616,659060556,883997877,958139571,1322822218,1537002063,1747873779,1955562222,2024104815,2227730452,2361852424,2428436474,2756734187,3204031479,3329325298]
def Zml:Fs yb:=⟨219,[],[],[],(zN (.arr 64 .u32)),λx=>JK yD⟩
theorem Zs3:Zml.Ok:=bg {} [] [] trivial
def Vj(F:Nat):(Int×aLw×aLw×aLw×aLw×aLw)->yO ((Int×aLw×aLw×aLw×aLw×aLw)⊕(aLw×aLw×aLw×aLw×aLw))
 |(a,e,f,d,c,b)=>
 if(ag (a < 64))=ae then
  (b[4]?).bind λg=>
  (ZK F g (-6)).bind λh=>
  (b[4]?).bind λi=>
  (ZK F i (-11)).bind λj=>
  (b[4]?).bind λk=>
  (ZK F k (-25)).bind λl=>
  (b[7]?).bind λm=>
  (b[6]?).bind λn=>
  (b[4]?).bind λo=>
  (b[5]?).bind λp=>
  (b[6]?).bind λq=>
  let r:yV:=(m+((h^^^j)^^^l))+(n^^^(o&&&(p^^^q)))
  if(bp a 64)=ae then
   (c[a.toNat]?).bind λs=>
   if(bp a 64)=ae then
    (d[a.toNat]?).bind λt=>
    (b[0]?).bind λu=>
    (ZK F u (-2)).bind λv=>
    (b[0]?).bind λw=>
    (ZK F w (-13)).bind λx=>
    (b[0]?).bind λy=>
    (ZK F y (-22)).bind λz=>
    (b[0]?).bind λA=>
    (b[1]?).bind λB=>
    (b[2]?).bind λC=>
    (b[0]?).bind λD=>
    (b[1]?).bind λE=>
    let G:yV:=((r+s)+t)+((v^^^x)^^^z);let H:yV:=G+((A&&&B)|||(C&&&(D|||E)))
    (b[0]?).bind λI=>
    (b[1]?).bind λJ=>
    (b[2]?).bind λK=>
    (b[3]?).bind λL=>
    (b[4]?).bind λM=>
    (b[5]?).bind λN=>
    (b[6]?).bind λO=>
    ab (.inl (wi (a+1),e,f,d,c,[H,I,J,K,L+((r+s)+t),M,N,O]))
   else
   ad
  else
  ad
 else
 ab (.inr (e,f,d,c,b))
def wV:yL bJ:=[.var (.v (.arr 8 .u32)) ae,.var (.v (.arr 8 .u32)) ae,.var (.v (.arr 64 .u32)) ae,.var (.v (.arr 64 .u32)) ae,.var (.v (.arr 8 .u32)) ae]
def Zfk:Lp:=⟨[(2,.ak 0 []),(4,.ak 1 []),(5,.ak 2 []),(6,.ak 3 []),(7,.ak 4 []),(18,.v yI)],wV,[yI,(.arr 8 .u32),(.arr 8 .u32),(.arr 64 .u32),(.arr 64 .u32),(.arr 8 .u32)],[⟨.exit 0,[(2,.ak 0 []),(4,.ak 1 []),(7,.ak 4 [])],wV,[(.arr 8 .u32),(.arr 8 .u32),(.arr 64 .u32),(.arr 64 .u32),(.arr 8 .u32)]⟩],Zc (Vj yD) yD⟩
def jn:HI:={ still:=[14,22,25,29,57,60,64]}
theorem ZiF:Zfk.cj yb 198 0:=ZQ jn [] [QZ] ⟨ZcF,aB⟩
def Vk(F:Nat):(Int×aLw×aLw×aLw×aLw×aLw)->yO ((Int×aLw×aLw×aLw×aLw×aLw)⊕(aLw×aLw×aLw×aLw×aLw))
 |(a,c,d,e,f,b)=>
 if(ag (a < 8))=ae then
  if(bp a 8)=ae then
   (b[a.toNat]?).bind λg=>
   if(bp a 8)=ae then
    (c[a.toNat]?).bind λh=>
    if(bp a 8)=ae then
     (b[a.toNat]?).bind λi=>
     ab (.inl (wi (a+1),c,d,e,f,b.set a.toNat (g+h)))
    else
    ad
   else
   ad
  else
  ad
 else
 ab (.inr (c,d,e,f,b))
def Zfl:Lp:=⟨[(2,.ak 0 []),(4,.ak 1 []),(7,.ak 4 []),(104,.v yI)],wV,[yI,(.arr 8 .u32),(.arr 8 .u32),(.arr 64 .u32),(.arr 64 .u32),(.arr 8 .u32)],[⟨.exit 2,[(4,.ak 1 []),(7,.ak 4 [])],wV,[(.arr 8 .u32),(.arr 8 .u32),(.arr 64 .u32),(.arr 64 .u32),(.arr 8 .u32)]⟩],Zc (Vk yD) yD⟩
theorem ZiG:Zfl.cj yb 198 1:=ZQ jn [] [] trivial
def Vz(F:Nat)(a0:aLw)(a1:aLu):yO (aLw):=
 (wU F a1).bind λg=>
 (JK F).bind λh=>
 (Zc (Vj F) F (0,a0,[0,0,0,0,0,0,0,0],g,h,a0)).bind λ(b,c,d,e,f)=>
 (Zc (Vk F) F (0,b,c,d,e,f)).bind λ(_,_,_,_,a)=>
 ab a
def JL:Fs yb:=⟨198,[.v (.arr 8 .u32),.v aLv],[],[(.arr 8 .u32),aLv],(zN (.arr 8 .u32)),λx=>Vz yD x.1 x.2⟩
theorem Zfm:JL.Ok:=bg jn [(0,Zfk),(1,Zfl)] [ZhK,Zml] ⟨Zn0,Zs3,aB⟩ ⟨ZiF,ZiG,aB⟩
def Ye(F:Nat)(a0:aLu):yO (aLu):=
 if(cg 0 a0.length 1)=ae then
  ab a0
 else
 ad
def Zdx:Fs yb:=⟨160,[.sl ae .u8],[],[aLv],[⟨.ret,[(0,.own 0 .u8)],[.log .u8 5],[aLv]⟩],λx=>Ye yD x⟩
theorem ZcZ:Zdx.Ok:=bg { own:=[2,5,7]} [] [] trivial
def Qc(F:Nat):yO (aLu):=
 ab []
def Zdy:Fs yb:=⟨160,[.nil .u8],[],[],[⟨.ret,[(0,.own 0 .u8)],[.log .u8 5],[aLv]⟩],λx=>Qc yD⟩
theorem Zc0:Zdy.Ok:=bg { own:=[2,5,7]} [] [] trivial
def W8:Fs yb:=⟨160,[.v aLv],[],[aLv],[⟨.ret,[(0,.own 0 .u8)],[.log .u8 5],[aLv]⟩],λx=>Ye yD x⟩
theorem ZbW:W8.Ok:=sC (t:=.u8) (xs:=[⟨.ret,[(0,.own 0 .u8)],[.log .u8 5],[aLv]⟩]) (MA:=λ(x:aLu)=>Ye yD x) (MB:=λ_=>Qc yD) ZcZ Zc0 rfl
def wW(F:Nat)(s:(aLu×aLu×aLu)):yO ((aLu×aLu×aLu)⊕(aLu×aLu×aLu)):=
 if((Int.tmod (s.2.2.length:Int) 64)!=56)=ae then
  if(cg s.2.2.length 1 1)=ae then
   ab (.inl (s.1,s.2.1,s.2.2++([0]:yL yB)))
  else
  ad
 else
 ab (.inr (s.1,s.2.1,s.2.2))
abbrev zG:List bJ:=[.var (.v aLy) ae,.log .u8 5]
def Zmm:Lp:=⟨[(0,.v aLv),(2,.ak 0 []),(3,.own 1 .u8)],zG,[aLv,aLy,aLv],[⟨.exit 0,[(0,.v aLv),(2,.ak 0 []),(3,.own 1 .u8)],zG,[aLv,aLy,aLv]⟩],Zc (wW yD) yD⟩
def lB:HI:={ own:=[3,14,16,21,23,24,28,43],still:=[13,24,27,35,37,44,46]}
theorem Zpq:Zmm.cj yb 150 0:=ZQ lB [] [] trivial
def QM(F:Nat)(s:(Int×Int×aLu×aLu)):yO ((Int×Int×aLu×aLu)⊕(aLu×aLu)):=
 if(ag (s.2.1 >= 0))=ae then
  if(ag (0<=s.2.1))=ae then
   if(cg s.2.2.1.length 1 1)=ae then
    let a:aLu:=s.2.2.1++([w8 (Int.fdiv s.1 (2 ^ (min s.2.1.toNat 64)))]:yL yB)
    ab (.inl (s.1,wi (s.2.1 - 8),a,s.2.2.2))
   else
   ad
  else
  ad
 else
 ab (.inr (s.2.2.1,s.2.2.2))
def ZhL:Lp:=⟨[(0,.own 0 .u8),(1,.v yI),(5,.v yI)],[.log .u8 5,.log .u8 5],[yI,yI,aLv,aLv],[⟨.exit 0,[(0,.own 0 .u8)],[.log .u8 5,.log .u8 5],[aLv,aLv]⟩],Zc (QM yD) yD⟩
theorem Zk4:ZhL.cj yb 149 0:=ZQ { own:=[0,4,10,16,17]} [] [] trivial
def WJ(F:Nat)(a1:Int)(s0:aLu):yO (aLu):=
 (Zc (QM F) F (a1,56,s0,[])).bind λa=>
 ab a.1
def Qd:Fs yb:=⟨149,[.own 0 .u8,.v yI],[.log .u8 5],[yI,aLv],[⟨.ret,[(0,.own 0 .u8)],[.log .u8 5],[aLv]⟩],λx=>WJ yD x.1 x.2⟩
theorem JM:Qd.Ok:=bg { own:=[0,4,10,16,17]} [(0,ZhL)] [] trivial ⟨Zk4,aB⟩
def wX(F:Nat)(s:(aLu×aLu×aLu×aLw)):yO ((aLu×aLu×aLu×aLw)⊕(aLu×aLu×aLw)):=
 if(ag ((s.1.length:Int) >= 64))=ae then
  if(dU s.1.length ad (ab 64))=ae then
   (Vz F s.2.2.2 (s.1.take 64)).bind λa=>
   if(dU s.1.length (ab 64) ad)=ae then
    ab (.inl (s.1.drop 64,s.2.1,s.2.2.1,a))
   else
   ad
  else
  ad
 else
 ab (.inr (s.2.1,s.2.2.1,s.2.2.2))
abbrev zE:List bJ:=[.var (.v aLy) ae,.log .u8 5,.var (.v (.arr 8 .u32)) ae]
def Zmn:Lp:=⟨[(0,.v aLv),(2,.ak 0 []),(3,.own 1 .u8),(4,.ak 2 [])],zE,[aLv,aLy,aLv,(.arr 8 .u32)],[⟨.exit 2,[(2,.ak 0 []),(3,.own 1 .u8),(4,.ak 2 [])],zE,[aLy,aLv,(.arr 8 .u32)]⟩],Zc (wX yD) yD⟩
theorem Zpr:Zmn.cj yb 150 1:=ZQ lB [] [JL] ⟨Zfm,aB⟩
def wY(F:Nat)(s:(aLu×aLu×aLu×aLw)):yO ((aLu×aLu×aLu×aLw)⊕(aLu×aLu×aLw)):=
 if(ag ((s.1.length:Int) > 0))=ae then
  if(dU s.1.length ad (ab 64))=ae then
   (Vz F s.2.2.2 (s.1.take 64)).bind λa=>
   if(dU s.1.length (ab 64) ad)=ae then
    ab (.inl (s.1.drop 64,s.2.1,s.2.2.1,a))
   else
   ad
  else
  ad
 else
 ab (.inr (s.2.1,s.2.2.1,s.2.2.2))
def Zmo:Lp:=⟨[(2,.ak 0 []),(3,.v aLv),(4,.ak 2 [])],zE,[aLv,aLy,aLv,(.arr 8 .u32)],[⟨.exit 4,[(2,.ak 0 []),(4,.ak 2 [])],zE,[aLy,aLv,(.arr 8 .u32)]⟩],Zc (wY yD) yD⟩
theorem Zps:Zmo.cj yb 150 2:=ZQ lB [] [JL] ⟨Zfm,aB⟩
def wZ(F:Nat)(s:(Int×aLu×aLu×aLw)):yO ((Int×aLu×aLu×aLw)⊕(aLu×aLu×aLw)):=
 if(ag (s.1 < 32))=ae then
  if(bp (wi (Int.tdiv s.1 4)) 8)=ae then
   (s.2.2.2[(wi (Int.tdiv s.1 4)).toNat]?).bind λa=>
   if(ag (0<=wi (24 - (wi (8*(Int.tmod s.1 4))))))=ae then
    let b:yV:=gN a (min (wi (24 - (wi (8*(Int.tmod s.1 4))))).toNat 32)
    if(bp s.1 32)=ae then
     (s.2.1[s.1.toNat]?).bind λc=>
     ab (.inl (wi (s.1+1),s.2.1.set s.1.toNat (w8 (b.toNat:Int)),s.2.2.1,s.2.2.2))
    else
    ad
   else
   ad
  else
  ad
 else
 ab (.inr (s.2.1,s.2.2.1,s.2.2.2))
def Zmp:Lp:=⟨[(2,.ak 0 []),(4,.ak 2 []),(48,.v yI)],zE,[yI,aLy,aLv,(.arr 8 .u32)],[⟨.exit 6,[(2,.ak 0 [])],zE,[aLy,aLv,(.arr 8 .u32)]⟩],Zc (wZ yD) yD⟩
theorem Zpt:Zmp.cj yb 150 3:=ZQ lB [] [] trivial
def sR(F:Nat)(a0:aLu):yO (aLu):=
 let a:Int:=wi ((a0.length:Int) - (Int.tmod (a0.length:Int) 64))
 if(dU a0.length (ab a) ad)=ae then
  (Ye F (a0.drop a.toNat)).bind λb=>
  if(cg b.length 1 1)=ae then
   (Zc (wW F) F (a0,dg,b++([128]:yL yB))).bind λc=>
   (WJ F (wi (8*(c.1.length:Int))) c.2.2).bind λd=>
   (JJ F).bind λe=>
   (Zc (wX F) F (c.1,c.2.1,d,e)).bind λf=>
   (Zc (wY F) F (f.2.1,f.1,f.2.1,f.2.2)).bind λg=>
   (Zc (wZ F) F (0,g.1,g.2.1,g.2.2)).bind λh=>
   ab h.1
  else
  ad
 else
 ad
def JN(F:Nat):Fs yb:=⟨150,[.v aLv],[],[aLv],(zN aLy),λx=>sR F x⟩
def Zyj:Fs yb:=JN yD
theorem Zv0:Zyj.Ok:=bg lB [(0,Zmm),(1,Zmn),(2,Zmo),(3,Zmp)] [Qd,W8,Zmk] ⟨JM,ZbW,Zs2,aB⟩ ⟨Zpq,Zpr,Zps,Zpt,aB⟩
end
end Go.Proofs.YtcbhhaigilifgaaGreat
end
section
namespace Go.Sha
open Go.Ev
noncomputable def fM{α:Type}(n:Nat)(k:Nat->α):α:=Nat.rec (motive:=λ_=>α) (k 0) (λm _=>k (Nat.succ m)) n
theorem XD{α:Type}(n:Nat)(k:Nat->α):fM n k=k n:=by cases n <;> rfl
def fg(x:Nat):Nat:=Nat.mul x 4294967297
def s0(x:Nat):Nat:=Nat.xor (Nat.xor (yai (fg x) 7) (yai (fg x) 18)) (yai x 3)
def s1(x:Nat):Nat:=Nat.xor (Nat.xor (yai (fg x) 17) (yai (fg x) 19)) (yai x 10)
def S0(x:Nat):Nat:=Nat.xor (Nat.xor (yai (fg x) 2) (yai (fg x) 13)) (yai (fg x) 22)
def S1(x:Nat):Nat:=Nat.xor (Nat.xor (yai (fg x) 6) (yai (fg x) 11)) (yai (fg x) 25)
def ch(e f g:Nat):Nat:=Nat.xor g (Nat.land e (Nat.xor f g))
def mj(a b c:Nat):Nat:=Nat.lor (Nat.land a b) (Nat.land c (Nat.lor a b))
def lo(x:Nat):Nat:=Nat.mod x 4294967296
def kw(W:Nat):Nat:=lo (yy (yy (yy (yai W 480) (s0 (lo (yai W 448)))) (lo (yai W 192))) (s1 (lo (yai W 32))))
def kn(W:Nat):Nat:=Nat.mod (yy (Nat.mul W 4294967296) (kw W)) (Nat.pow 2 512)
noncomputable def xa(k:Nat)(j:Nat->Nat->Nat->Nat->Nat->Nat->Nat->Nat->Nat->Nat)(W a b c d e f g h:Nat):Nat:=
 fM (yy (yy (yy (yy h (S1 e)) (ch e f g)) k) (yai W 480)) λt=>
     fM (lo (yy (yy t (S0 a)) (mj a b c))) λl=>fM (lo (yy d t)) λm=>fM (kn W) λW'=>j W' l a b c m e f g
noncomputable def pN(ks:yL Nat)(K:Nat->Nat->Nat->Nat->Nat->Nat->Nat->Nat->Nat):Nat->Nat->Nat->Nat->Nat->Nat->Nat->Nat->Nat->Nat:=
 List.rec (motive:=λ_=>Nat->Nat->Nat->Nat->Nat->Nat->Nat->Nat->Nat->Nat) (λ_=>K) (λk _ f=>xa k f) ks
def ks:yL Nat:=[1116352408,1899447441,3049323471,3921009573,961987163,1508970993,2453635748,2870763221,3624381080,310598401,607225278,1426881987,1925078388,2162078206,2614888103,3248222580,3835390401,4022224774,264347078,604807628,770255983,1249150122,1555081692,1996064986,2554220882,2821834349,2952996808,3210313671,3336571891,3584528711,113926993,338241895,666307205,773529912,1294757372,1396182291,1695183700,1986661051,2177026350,2456956037,2730485921,2820302411,3259730800,3345764771,3516065817,3600352804,4094571909,275423344,430227734,506948616,659060556,883997877,958139571,1322822218,1537002063,1747873779,1955562222,2024104815,2227730452,2361852424,2428436474,2756734187,3204031479,3329325298]
def w32(H i:Nat):Nat:=lo (yai H i)
def bj(H x:Nat):Nat:=yy (Nat.mul H 4294967296) (lo x)
noncomputable def xb(H B:Nat):Nat:=
 fM (w32 H 224) λa=>fM (w32 H 192) λb=>fM (w32 H 160) λc=>fM (w32 H 128) λd=>fM (w32 H 96) λe=>fM (w32 H 64) λf=>fM (w32 H 32) λg=>fM (w32 H 0) λh=>
  pN ks (λj l m y z A E F=>bj (bj (bj (bj (bj (bj (bj (bj 0 (yy j a)) (yy l b)) (yy m c)) (yy y d)) (yy z e)) (yy A f)) (yy E g)) (yy F h)) B a b c d e f g h
noncomputable def pk(l:yL Nat)(n:Nat):Nat:=List.rec (motive:=λ_=>Nat->Nat) (λn=>n) (λx _ f n=>fM (yy (Nat.mul n 256) x) f) l n
noncomputable def JO(n:Nat)(l:yL Nat)(H:Nat):Nat:=
 Nat.rec (motive:=λ_=>yL Nat->Nat->Nat) (λ_ H=>H) (λ_ f l H=>fM (xb H (pk (l.take 64) 0)) λH'=>f (l.drop 64) H') n l H
noncomputable def outs(H:Nat)(l:yL Nat):yL yB:=List.rec (motive:=λ_=>yL yB) [] (λs _ f=>fM (Nat.mod (yai H s) 256) λx=>yap x::f) l
def JP:yL Nat:=[248,240,232,224,216,208,200,192,184,176,168,160,152,144,136,128,120,112,104,96,88,80,72,64,56,48,40,32,24,16,8,0]
def jU(n:Nat):yL Nat:=[n / 2 ^ 56 % 256,n / 2 ^ 48 % 256,n / 2 ^ 40 % 256,n / 2 ^ 32 % 256,n / 2 ^ 24 % 256,n / 2 ^ 16 % 256,n / 2 ^ 8 % 256,n % 256]
def zs(n:Nat):Nat:=(119 - n % 64) % 64
def H0:Nat:=bj (bj (bj (bj (bj (bj (bj (bj 0 1779033703) 3144134277) 1013904242) 2773480762) 1359893119) 2600822924) 528734635) 1541459225
noncomputable def iM(l:yL yB):yL yB:=
 fM l.length λn=>fM (JO (Nat.div (yy n 72) 64) (l.map ybg++(128::(yx (zs n) 0++jU (8*n)))) H0) λH=>outs H JP
theorem jV(x y:yV):(x+y).toNat=lo (x.toNat+y.toNat):=by rw[UInt32.toNat_add];rfl
theorem kK(x y:yV):(x^^^y).toNat=Nat.xor x.toNat y.toNat:=UInt32.toNat_xor ..
theorem JQ(x y:yV):(x&&&y).toNat=Nat.land x.toNat y.toNat:=UInt32.toNat_and ..
theorem pO(x y:yV):(x|||y).toNat=Nat.lor x.toNat y.toNat:=UInt32.toNat_or ..
theorem JR(x:yV):x.toNat < 4294967296:=x.toNat_lt
theorem sS(x:yV)(n:Nat):(gN x n).toNat=yai x.toNat n:=by
 unfold gN;rw[ycv,show yai x.toNat n=x.toNat >>> n from rfl,Nat.shiftRight_eq_div_pow]
 exact yas (Nat.lt_of_le_of_lt (Nat.div_le_self _ _) (JR x))
theorem ZJc(x:Nat):lo x < 4294967296:=Nat.mod_lt _ (by omega)
theorem go{x:Nat}(h:x < 4294967296):lo x=x:=yas h
theorem ZLG(x:yV){n k:Nat}(h:n+k=32)(hn:0 < n):(gV x k|||gN x n).toNat=lo (yai (fg x.toNat) n):=by
 rw[pO,sS];unfold gV;have g:=JR x;generalize x.toNat=m at g;have f:2 ^ n*2 ^ k=4294967296:=by rw[<-Nat.pow_add,h]
 rw[ycv,show yai m n=m >>> n from rfl,Nat.shiftRight_eq_div_pow,show yai (fg m) n=(fg m) >>> n from rfl,Nat.shiftRight_eq_div_pow]
 have j:m*2 ^ k % 2 ^ 32=2 ^ k*(m % 2 ^ n):=by
  rw[show(2:Nat) ^ 32=2 ^ n*2 ^ k from f.symm,Nat.mul_mod_mul_right]
  exact ybo ..
 have l:m / 2 ^ n < 2 ^ k:=by
  rw[Nat.div_lt_iff_lt_mul (Nat.two_pow_pos n),ybo,f];exact g
 rw[j,show Nat.lor (2 ^ k*(m % 2 ^ n)) (m / 2 ^ n)=2 ^ k*(m % 2 ^ n)|||m / 2 ^ n from rfl, <-yda l]
 have y:fg m=2 ^ n*(m*2 ^ k)+m:=by
  unfold fg;rw[Nat.mul_left_comm,f,show Nat.mul m 4294967297=m*4294967297 from rfl]
  omega
 rw[y,Nat.mul_add_div (Nat.two_pow_pos n)];unfold lo;rw[show Nat.mod (m*2 ^ k+m / 2 ^ n) 4294967296=(m*2 ^ k+m / 2 ^ n) % 4294967296 from rfl,Nat.add_mod,show m*2 ^ k % 4294967296=2 ^ k*(m % 2 ^ n) from j,yas (a:=m / 2 ^ n) (b:=4294967296) (by rw[<-f];exact Nat.lt_of_lt_of_le l (Nat.le_mul_of_pos_left _ (Nat.two_pow_pos n)))]
 refine(yas ?_).symm;have z:m % 2 ^ n < 2 ^ n:=Nat.mod_lt _ (Nat.two_pow_pos n)
 calc 2 ^ k*(m % 2 ^ n)+m / 2 ^ n < 2 ^ k*(m % 2 ^ n)+2 ^ k:=by omega
  _=2 ^ k*(m % 2 ^ n+1):=by rw[Nat.mul_add,Nat.mul_one]
  _<=2 ^ k*2 ^ n:=Nat.mul_le_mul_left _ z
  _=4294967296:=by rw[ybo,f]
theorem mN(x y:Nat):lo (Nat.xor x y)=Nat.xor (lo x) (lo y):=Nat.xor_mod_two_pow (n:=32)
theorem ZFR(x:yV)(n:Nat):lo (yai x.toNat n)=yai x.toNat n:=by
 rw[<-sS];exact go (JR _)
theorem ZMx(x:yV){a b:yV}(ha:a.toNat=lo (yai (fg x.toNat) 7))(hb:b.toNat=lo (yai (fg x.toNat) 18)):((a^^^b)^^^gN x 3).toNat=lo (s0 x.toNat):=by
 unfold s0;rw[kK,kK,sS,ha,hb,mN,mN,ZFR]
theorem ZMy(x:yV){a b:yV}(ha:a.toNat=lo (yai (fg x.toNat) 17))(hb:b.toNat=lo (yai (fg x.toNat) 19)):((a^^^b)^^^gN x 10).toNat=lo (s1 x.toNat):=by
 unfold s1;rw[kK,kK,sS,ha,hb,mN,mN,ZFR]
theorem ZMz(x:yV){a b c:yV}(ha:a.toNat=lo (yai (fg x.toNat) 2))(hb:b.toNat=lo (yai (fg x.toNat) 13))(hc:c.toNat=lo (yai (fg x.toNat) 22)):((a^^^b)^^^c).toNat=lo (S0 x.toNat):=by
 unfold S0;rw[kK,kK,ha,hb,hc,mN,mN]
theorem ZMA(x:yV){a b c:yV}(ha:a.toNat=lo (yai (fg x.toNat) 6))(hb:b.toNat=lo (yai (fg x.toNat) 11))(hc:c.toNat=lo (yai (fg x.toNat) 25)):((a^^^b)^^^c).toNat=lo (S1 x.toNat):=by
 unfold S1;rw[kK,kK,ha,hb,hc,mN,mN]
theorem ZMB(e f g:yV):(g^^^(e&&&(f^^^g))).toNat=ch e.toNat f.toNat g.toNat:=by
 unfold ch;rw[kK,JQ,kK]
theorem ZMC(a b c:yV):((a&&&b)|||(c&&&(a|||b))).toNat=mj a.toNat b.toNat c.toNat:=by
 unfold mj;rw[pO,JQ,JQ,pO]
theorem ZMD(a b c d:Nat):lo (lo (lo (a+lo b)+c)+lo d)=lo (a+b+c+d):=by
 show(((a+b % 4294967296) % 4294967296+c) % 4294967296+d % 4294967296) % 4294967296=(a+b+c+d) % 4294967296;omega
theorem ZME(a b c d e:Nat):lo (lo (lo (lo (a+lo b)+c)+d)+e)=lo (yy (yy (yy (yy a b) c) d) e):=by
 show((((a+b % 4294967296) % 4294967296+c) % 4294967296+d) % 4294967296+e) % 4294967296=(a+b+c+d+e) % 4294967296;omega
theorem ZMF(t s m:Nat):lo (lo (lo t+lo s)+m)=lo (yy (yy t s) m):=by
 show((t % 4294967296+s % 4294967296) % 4294967296+m) % 4294967296=(t+s+m) % 4294967296;omega
theorem ZMG(d t:Nat):lo (d+lo t)=lo (yy d t):=by
 show(d+t % 4294967296) % 4294967296=(d+t) % 4294967296;omega
def pw(n:Nat)(l:yL Nat):Nat:=l.foldl (λn x=>n*4294967296+x) n
theorem JS:∀(l:yL Nat)(n:Nat),(∀x,x∈l->x < 4294967296)->pw n l / 2 ^ (32*l.length)=n
 |[],n,_=>by simp[pw]
 |x::r,n,h=>by
  have f:=JS r (n*4294967296+x) (λy g=>h y (List.mem_cons_of_mem _ g));have j:=h x (List.mem_cons_self ..);rw[show pw n (x::r)=pw (n*4294967296+x) r from rfl,yag,show 32*(r.length+1)=32*r.length+32 by omega,Nat.pow_add, <-Nat.div_div_eq_div_mul,f]
  omega
theorem xc:∀(l:yL Nat)(n:Nat),pw n l=n*2 ^ (32*l.length)+pw 0 l
 |[],n=>by simp[pw]
 |x::r,n=>by
  rw[show pw n (x::r)=pw (n*4294967296+x) r from rfl,show pw 0 (x::r)=pw (0*4294967296+x) r from rfl,xc r (n*4294967296+x),xc r (0*4294967296+x),yag,show 32*(r.length+1)=32+32*r.length by omega,Nat.pow_add,Nat.zero_mul,
   yar,Nat.add_mul, <-Nat.mul_assoc,Nat.add_assoc]
theorem ZJd:∀(l:yL Nat),(∀x,x∈l->x < 4294967296)->pw 0 l < 2 ^ (32*l.length)
 |[],_=>by simp[pw]
 |x::r,h=>by
  have g:=ZJd r (λy f=>h y (List.mem_cons_of_mem _ f));have j:=h x (List.mem_cons_self ..);rw[show pw 0 (x::r)=pw (0*4294967296+x) r from rfl,xc,yag,show 32*(r.length+1)=32+32*r.length by omega,Nat.pow_add,Nat.zero_mul,yar]
  have:(x+1)*2 ^ (32*r.length)<=2 ^ 32*2 ^ (32*r.length):=Nat.mul_le_mul_right _ (by omega);rw[Nat.add_mul,Nat.one_mul]at this;omega
theorem ZJe{n x s:Nat}{r:yL Nat}(h:∀y,y∈r->y < 4294967296)(hs:s=32*r.length):yai (pw n (x::r)) s=n*4294967296+x:=by
 subst hs;rw[show yai (pw n (x::r)) (32*r.length)=pw n (x::r) >>> (32*r.length) from rfl,Nat.shiftRight_eq_div_pow]
 exact JS r (n*4294967296+x) h
theorem ZJf{n x s:Nat}{r:yL Nat}(f:x < 4294967296)(h:∀y,y∈r->y < 4294967296)(hs:s=32*r.length):lo (yai (pw n (x::r)) s)=x:=by
 rw[ZJe h hs];show(n*4294967296+x) % 4294967296=x;omega
theorem JT(n:Nat)(l r:yL Nat):pw n (l++r)=pw (pw n l) r:=List.foldl_append ..
theorem ZBG(n x:Nat)(r:yL Nat):pw n (x::r)=pw (n*4294967296+x) r:=rfl
theorem mO{v l r:yL Nat}{x s:Nat}(e:v=l++x::r)(h:∀y,y∈v->y < 4294967296)(hs:s=32*r.length):lo (yai (pw 0 v) s)=x:=by
 rw[e]at h ⊢;rw[JT];exact ZJf (h x (by simp)) (λy f=>h y (by simp[f])) hs
def wd(ws:yL Nat)(n:Nat):Nat:=if h:n < 16 then lo (ws.getD n 0) else lo (wd ws (n - 16)+s0 (wd ws (n - 15))+wd ws (n - 7)+s1 (wd ws (n - 2)))
termination_by n
decreasing_by all_goals omega
theorem ZLH(ws:yL Nat)(n:Nat):wd ws n < 4294967296:=by
 rw[wd];split <;> exact ZJc _
theorem ZBH(ws:yL Nat)(n:Nat):wd ws (n+16)=lo (wd ws n+s0 (wd ws (n+1))+wd ws (n+9)+s1 (wd ws (n+14))):=by
 rw[wd,dif_neg (by omega)];simp only[Nat.add_sub_cancel,show n+16 - 15=n+1 by omega,show n+16 - 7=n+9 by omega,show n+16 - 2=n+14 by omega]
def win(ws:yL Nat)(i:Nat):yL Nat:=[wd ws i,wd ws (i+1),wd ws (i+2),wd ws (i+3),wd ws (i+4),wd ws (i+5),wd ws (i+6),wd ws (i+7),wd ws (i+8),wd ws (i+9),wd ws (i+10),wd ws (i+11),wd ws (i+12),wd ws (i+13),wd ws (i+14),wd ws (i+15)]
theorem JU{ws:yL Nat}{i:Nat}{l:yL Nat}(h:∀x,x∈l->∃j,x=wd ws j):∀x,x∈l->x < 4294967296:=λx f=>by
 obtain⟨j,rfl⟩:=h x f;exact ZLH _ _
theorem ZBI(ws:yL Nat)(i:Nat):yai (pw 0 (win ws i)) 480=wd ws i:=by
 have h:=ZJe (n:=0) (x:=wd ws i) (s:=480) (r:=(win ws i).tail) (JU (ws:=ws) (i:=i) (λx f=>by
  simp only[win,List.tail_cons,ybs,List.not_mem_nil,or_false]at f;rcases f with h|h|h|h|h|h|h|h|h|h|h|h|h|h|h <;> exact⟨_,h⟩)) rfl
 rw[Nat.zero_mul,yar]at h;exact h
theorem ZKD(ws:yL Nat)(i:Nat):kw (pw 0 (win ws i))=wd ws (i+16):=by
 have f:∀(l r:yL Nat)(x s:Nat),win ws i=l++x::r->s=32*r.length->lo (yai (pw 0 (win ws i)) s)=x:=by
  intro l r x s e hs
  have g:∀y,y∈win ws i->y < 4294967296:=JU (i:=i) λx j=>by
   simp only[win,ybs,List.not_mem_nil,or_false]at j;rcases j with h|h|h|h|h|h|h|h|h|h|h|h|h|h|h|h <;> exact⟨_,h⟩
  rw[e]at g ⊢;rw[JT];exact ZJf (g x (by simp)) (λy m=>g y (by simp[m])) hs
 unfold kw;rw[ZBI,f [_] _ (wd ws (i+1)) 448 rfl rfl,f [_,_,_,_,_,_,_,_,_] _ (wd ws (i+9)) 192 rfl rfl,f [_,_,_,_,_,_,_,_,_,_,_,_,_,_] _ (wd ws (i+14)) 32 rfl rfl,ZBH];rfl
theorem ZIk(a b m:Nat)(h:b < 2 ^ m):Nat.mod (a*2 ^ m+b) (Nat.pow 2 m)=b:=by
 show(a*2 ^ m+b) % 2 ^ m=b;rw[ybo,Nat.mul_add_mod];exact yas h
theorem ZKE(ws:yL Nat)(i:Nat):kn (pw 0 (win ws i))=pw 0 (win ws (i+1)):=by
 have e:yy (Nat.mul (pw 0 (win ws i)) 4294967296) (kw (pw 0 (win ws i)))=pw (wd ws i) (win ws (i+1)):=by
  rw[ZKD];show pw 0 (win ws i)*4294967296+wd ws (i+16)=pw (wd ws i) (win ws (i+1));rw[show wd ws i=0*4294967296+wd ws i by omega];rfl
 unfold kn;rw[e,xc];have j:(win ws (i+1)).length=16:=rfl
 have f:=ZJd (win ws (i+1)) (JU (i:=i+1) λx g=>by
  simp only[win,ybs,List.not_mem_nil,or_false]at g;rcases g with h|h|h|h|h|h|h|h|h|h|h|h|h|h|h|h <;> exact⟨_,h⟩)
 rw[show 512=32*(win ws (i+1)).length by rw[j]];exact ZIk _ _ _ f
def pP(v:yL Nat)(k w:Nat):yL Nat:=match v with
 |[a,b,c,d,e,f,g,h]=>[lo (yy (yy (yy (yy (yy (yy h (S1 e)) (ch e f g)) k) w) (S0 a)) (mj a b c)),a,b,c,lo (yy d (yy (yy (yy (yy h (S1 e)) (ch e f g)) k) w)),e,f,g]
 |_=>[]
def rs(ws v:yL Nat):Nat->yL Nat
 |0=>v
 |i+1=>pP (rs ws v i) (ks.getD i 0) (wd ws i)
theorem ZIl{v:yL Nat}(h:v.length=8)(k w:Nat):(pP v k w).length=8:=by
 match v,h with
 |[a,b,c,d,e,f,g,h],_=>rfl
theorem xf{ws v:yL Nat}(h:v.length=8):∀i,(rs ws v i).length=8
 |0=>h
 |i+1=>ZIl (xf h i) _ _
noncomputable def sU(f:Nat->Nat->Nat->Nat->Nat->Nat->Nat->Nat->Nat)(v:yL Nat):Nat:=match v with
 |[a,b,c,d,e,j,g,h]=>f a b c d e j g h
 |_=>0
theorem xg{F:Nat->Nat->Nat->Nat->Nat->Nat->Nat->Nat->Nat}{a b c d e f g h:Nat}:sU F [a,b,c,d,e,f,g,h]=F a b c d e f g h:=rfl
theorem ZFT(k:Nat)(l:yL Nat)(K:Nat->Nat->Nat->Nat->Nat->Nat->Nat->Nat->Nat):pN (k::l) K=xa k (pN l K):=rfl
theorem Zyl(a b c d e f g h k w:Nat):pP [a,b,c,d,e,f,g,h] k w=[lo (yy (yy (yy (yy (yy (yy h (S1 e)) (ch e f g)) k) w) (S0 a)) (mj a b c)),a,b,c,lo (yy d (yy (yy (yy (yy h (S1 e)) (ch e f g)) k) w)),e,f,g]:=rfl
theorem ZKF(k:Nat)(j:Nat->Nat->Nat->Nat->Nat->Nat->Nat->Nat->Nat->Nat)(W a b c d e f g h:Nat):xa k j W a b c d e f g h=
 j (kn W) (lo (yy (yy (yy (yy (yy (yy h (S1 e)) (ch e f g)) k) (yai W 480)) (S0 a)) (mj a b c))) a b c (lo (yy d (yy (yy (yy (yy h (S1 e)) (ch e f g)) k) (yai W 480)))) e f g:=by
 unfold xa;rw[XD,XD,XD,XD]
theorem ZFU{ws v:yL Nat}{K:Nat->Nat->Nat->Nat->Nat->Nat->Nat->Nat->Nat}{k w:Nat}{l:yL Nat}(hv:v.length=8){W:Nat}(j:yai W 480=w):sU (pN (k::l) K W) v=sU (pN l K (kn W)) (pP v k w):=by
 match v,hv with
 |[a,b,c,d,e,f,g,h],_=>
  rw[ZFT,xg,ZKF,j,Zyl,xg]
theorem ZBJ{ws v:yL Nat}{K:Nat->Nat->Nat->Nat->Nat->Nat->Nat->Nat->Nat}(hv:v.length=8):∀(m i:Nat),i+m=64->sU (pN (ks.drop i) K (pw 0 (win ws i))) (rs ws v i)=sU K (rs ws v 64)
 |0,i,h=>by
  have e:i=64:=by omega
  subst e;rw[show ks.drop 64=[] from rfl]
  generalize pw 0 (win ws 64)=W
  rfl
 |m+1,i,h=>by
  have f:i < ks.length:=by show i < 64;omega
  rw[List.drop_eq_getElem_cons f,ZFU (ws:=ws) (xf hv i) (ZBI ws i),ZKE];have:=ZBJ (ws:=ws) (K:=K) hv m (i+1) (by omega);rw[show rs ws v (i+1)=pP (rs ws v i) (ks.getD i 0) (wd ws i) from rfl,show ks.getD i 0=ks[i] by rw[ycx,List.getElem?_eq_getElem f];rfl]at this
  exact this
def iu(v ws:yL Nat):yL Nat:=List.zipWith (λx y=>lo (x+y)) (rs ws v 64) v
theorem sV{v ws:yL Nat}(h:v.length=8):(iu v ws).length=8:=by
 rw[iu,List.length_zipWith,xf h,h];rfl
theorem ZBK{v ws:yL Nat}:∀x,x∈iu v ws->x < 4294967296:=by
 intro x f;unfold iu at f;rw[List.mem_iff_getElem]at f;obtain⟨i,g,rfl⟩:=f;rw[List.getElem_zipWith];exact ZJc _
theorem ZIm{v ws:yL Nat}(hv:v.length=8)(j:∀x,x∈v->x < 4294967296)(hw:ws.length=16)(G:∀x,x∈ws->x < 4294967296):xb (pw 0 v) (pw 0 ws)=pw 0 (iu v ws):=by
 have e0:ws=win ws 0:=by
  match ws,hw with
  |[I,M,Q,R,S,T,U,W,X,Y,m,y,z,A,E,F],_=>
   simp only[ybs,List.not_mem_nil,or_false,forall_eq_or_imp,forall_eq]at G;obtain⟨h0,h1,h2,h3,h4,h5,h6,h7,h8,h9,Z,h11,h12,h13,h14,h15⟩:=G;have hs:∀n,n < 16->wd [I,M,Q,R,S,T,U,W,X,Y,m,y,z,A,E,F] n=lo ([I,M,Q,R,S,T,U,W,X,Y,m,y,z,A,E,F].getD n 0):=λn hn=>by rw[wd,dif_pos hn]
   unfold win;rw[hs 0 (by omega),hs (0+1) (by omega),hs (0+2) (by omega),hs (0+3) (by omega),hs (0+4) (by omega),hs (0+5) (by omega),hs (0+6) (by omega),hs (0+7) (by omega),hs (0+8) (by omega),hs (0+9) (by omega),hs (0+10) (by omega),hs (0+11) (by omega),hs (0+12) (by omega),hs (0+13) (by omega),hs (0+14) (by omega),hs (0+15) (by omega)];show _=[lo I,lo M,lo Q,lo R,lo S,lo T,lo U,lo W,lo X,lo Y,lo m,lo y,lo z,lo A,lo E,lo F];rw[go h0,go h1,go h2,go h3,go h4,go h5,go h6,go h7,go h8,go h9,go Z,go h11,go h12,go h13,go h14,go h15]
 match v,hv with
 |[a,b,c,d,e,f,g,h],hv=>
  have ea:w32 (pw 0 [a,b,c,d,e,f,g,h]) 224=a:=mO (l:=[]) (r:=[b,c,d,e,f,g,h]) rfl j rfl;have eb:w32 (pw 0 [a,b,c,d,e,f,g,h]) 192=b:=mO (l:=[a]) (r:=[c,d,e,f,g,h]) rfl j rfl;have ec:w32 (pw 0 [a,b,c,d,e,f,g,h]) 160=c:=mO (l:=[a,b]) (r:=[d,e,f,g,h]) rfl j rfl;have ed:w32 (pw 0 [a,b,c,d,e,f,g,h]) 128=d:=mO (l:=[a,b,c]) (r:=[e,f,g,h]) rfl j rfl;have ee:w32 (pw 0 [a,b,c,d,e,f,g,h]) 96=e:=mO (l:=[a,b,c,d]) (r:=[f,g,h]) rfl j rfl;have ef:w32 (pw 0 [a,b,c,d,e,f,g,h]) 64=f:=mO (l:=[a,b,c,d,e]) (r:=[g,h]) rfl j rfl;have eg:w32 (pw 0 [a,b,c,d,e,f,g,h]) 32=g:=mO (l:=[a,b,c,d,e,f]) (r:=[h]) rfl j rfl;have eh:w32 (pw 0 [a,b,c,d,e,f,g,h]) 0=h:=mO (l:=[a,b,c,d,e,f,g]) (r:=[]) rfl j rfl;unfold xb;rw[ea,eb,ec,ed,ee,ef,eg,eh,XD,XD,XD,XD,XD,XD,XD,XD];have hr:=ZBJ (ws:=ws) (v:=[a,b,c,d,e,f,g,h]) (K:=λa' b' c' d' e' f' g' h'=>bj (bj (bj (bj (bj (bj (bj (bj 0 (yy a' a)) (yy b' b)) (yy c' c)) (yy d' d)) (yy e' e)) (yy f' f)) (yy g' g)) (yy h' h)) rfl 64 0 rfl;rw[<-e0,show ks.drop 0=ks from rfl,show rs ws [a,b,c,d,e,f,g,h] 0=[a,b,c,d,e,f,g,h] from rfl,xg]at hr
  rw[hr];unfold iu;generalize rs ws [a,b,c,d,e,f,g,h] 64=q,xf (ws:=ws) hv 64=hq
  match q,hq with
  |[a',b',c',d',e',f',g',h'],_=>
   rw[xg];simp only[List.zipWith_cons_cons,List.zipWith_nil_right,ZBG,bj];rfl
theorem xh(x:Nat)(l:yL Nat)(n:Nat):pk (x::l) n=pk l (n*256+x):=by
 show fM (yy (Nat.mul n 256) x) (pk l)=_;rw[XD];rfl
def Xx:yL Nat->yL Nat
 |a::b::c::d::r=>(((a*256+b)*256+c)*256+d)::Xx r
 |_=>[]
theorem Zym:∀(m:Nat)(l:yL Nat)(n:Nat),l.length=4*m->pk l n=pw n (Xx l)
 |0,[],n,_=>rfl
 |0,_::_,_,h=>by simp at h
 |m+1,[],_,h=>by simp at h
 |m+1,[_],_,h=>by simp at h;omega
 |m+1,[_,_],_,h=>by simp at h;omega
 |m+1,[_,_,_],_,h=>by simp at h;omega
 |m+1,a::b::c::d::r,n,h=>by
  rw[xh,xh,xh,xh,Xx];rw[Zym m r _ (by simp at h;omega),ZBG];have e:(((n*256+a)*256+b)*256+c)*256+d=n*4294967296+(((a*256+b)*256+c)*256+d):=by omega
  rw[e]
theorem ZoR:∀(m:Nat)(l:yL Nat),l.length=4*m->(Xx l).length=m
 |0,[],_=>rfl
 |0,_::_,h=>by simp at h
 |m+1,[],h=>by simp at h
 |m+1,[_],h=>by simp at h;omega
 |m+1,[_,_],h=>by simp at h;omega
 |m+1,[_,_,_],h=>by simp at h;omega
 |m+1,a::b::c::d::r,h=>by
  rw[Xx,yag,ZoR m r (by simp at h;omega)]
theorem Zrs:∀(m:Nat)(l:yL Nat),l.length=4*m->(∀x,x∈l->x < 256)->∀x,x∈Xx l->x < 4294967296
 |0,[],_,_,x,hx=>by simp[Xx]at hx
 |0,_::_,h,_,_,_=>by simp at h
 |m+1,[],h,_,_,_=>by simp at h
 |m+1,[_],h,_,_,_=>by simp at h;omega
 |m+1,[_,_],h,_,_,_=>by simp at h;omega
 |m+1,[_,_,_],h,_,_,_=>by simp at h;omega
 |m+1,a::b::c::d::r,h,f,x,hx=>by
  rw[Xx]at hx;have j:=f a (by simp);have z:=f b (by simp);have A:=f c (by simp);have E:=f d (by simp);rcases ybs.1 hx with rfl|hx
  .omega
  .exact Zrs m r (by simp at h;omega) (λy g=>f y (by simp[g])) x hx
theorem ZoS:∀(i:Nat)(l:yL Nat)(a b c d:Nat),l[4*i]? =ab a->l[4*i+1]? =ab b->l[4*i+2]? =ab c->l[4*i+3]? =ab d->(Xx l)[i]? =ab (((a*256+b)*256+c)*256+d)
 |0,[],_,_,_,_,h,_,_,_=>by simp at h
 |0,[_],_,_,_,_,_,h,_,_=>by simp at h
 |0,[_,_],_,_,_,_,_,_,h,_=>by simp at h
 |0,[_,_,_],_,_,_,_,_,_,_,h=>by simp at h
 |0,a::b::c::d::r,_,_,_,_,f,g,j,m=>by
  simp at f g j m;subst f g j m
  rfl
 |i+1,[],_,_,_,_,h,_,_,_=>by simp at h
 |i+1,[_],_,_,_,_,h,_,_,_=>by simp[show 4*(i+1)=4*i+3+1 by omega]at h
 |i+1,[_,_],_,_,_,_,h,_,_,_=>by simp[show 4*(i+1)=4*i+2+1+1 by omega]at h
 |i+1,[_,_,_],_,_,_,_,h,_,_,_=>by simp[show 4*(i+1)=4*i+1+1+1+1 by omega]at h
 |i+1,a::b::c::d::r,_,_,_,_,f,g,j,m=>by
  rw[Xx,yak]
  exact ZoS i r _ _ _ _ (by simpa[show 4*(i+1)=4*i+1+1+1+1 by omega] using f) (by simpa[show 4*(i+1)+1=4*i+1+1+1+1+1 by omega] using g)
   (by simpa[show 4*(i+1)+2=4*i+2+1+1+1+1 by omega] using j) (by simpa[show 4*(i+1)+3=4*i+3+1+1+1+1 by omega] using m)
def fW:Nat->yL Nat->yL Nat->yL Nat
 |0,_,v=>v
 |n+1,l,v=>fW n (l.drop 64) (iu v (Xx (l.take 64)))
theorem ZBL:∀(n:Nat)(l v:yL Nat),l.length=64*n->(∀x,x∈l->x < 256)->v.length=8->(∀x,x∈v->x < 4294967296)->JO n l (pw 0 v)=pw 0 (fW n l v)
 |0,l,v,_,_,_,_=>rfl
 |n+1,l,v,y,h,j,m=>by
  show fM (xb (pw 0 v) (pk (l.take 64) 0)) (JO n (l.drop 64))=_;have f:(l.take 64).length=4*16:=by rw[yaa];omega
  rw[XD,Zym 16 _ 0 f,ZIm j m (ZoR 16 _ f) (Zrs 16 _ f λx g=>h x (List.mem_of_mem_take g))];exact ZBL n (l.drop 64) _ (by rw[yaz];omega) (λx g=>h x (List.mem_of_mem_drop g)) (sV j) ZBK
theorem Zyn:∀(n:Nat)(l v:yL Nat),v.length=8->(fW n l v).length=8
 |0,_,_,h=>h
 |n+1,l,v,h=>Zyn n _ _ (sV h)
theorem ZBM:∀(n:Nat)(l v:yL Nat),(∀x,x∈v->x < 4294967296)->∀x,x∈fW n l v->x < 4294967296
 |0,_,_,h=>h
 |n+1,l,v,h=>ZBM n _ _ ZBK
theorem JV:∀(n m:Nat)(l r v:yL Nat),l.length=64*n->fW (n+m) (l++r) v=fW m r (fW n l v)
 |0,m,l,r,v,h=>by
  have:l=[]:=List.length_eq_zero_iff.1 (by omega);subst this;rw[yar]
  rfl
 |n+1,m,l,r,v,h=>by
  rw[show n+1+m=(n+m)+1 by omega,fW,List.drop_append_of_le_length (by omega),List.take_append_of_le_length (by omega),JV n m _ r _ (by rw[yaz];omega)];rfl
theorem JW:∀(c:Nat)(l v:yL Nat),fW (c+1) l v=iu (fW c l v) (Xx ((l.drop (64*c)).take 64))
 |0,l,v=>by rw[Nat.mul_zero,List.drop_zero];rfl
 |c+1,l,v=>by
  rw[show fW (c+1+1) l v=fW (c+1) (l.drop 64) (iu v (Xx (l.take 64))) from rfl,JW c,List.drop_drop,show 64+64*c=64*(c+1) by omega]
  rfl
theorem ZFV(ws:yL Nat){n x:Nat}(hn:n < 16)(h:ws[n]? =ab x)(f:x < 4294967296):wd ws n=x:=by
 rw[wd,dif_pos hn,ycx,h];exact go f
def sW(v:yL Nat)(k:Nat):yB:=yap (v.getD (k / 4) 0 / 2 ^ (24 - 8*(k % 4)))
theorem ZIn{v:yL Nat}(hv:v.length=8)(z:∀x,x∈v->x < 4294967296):outs (pw 0 v) JP=(yo 32).map (sW v):=by
 have A:∀(H:Nat)(l:yL Nat),outs H l=l.map λs=>yap (H / 2 ^ s % 256):=by
  intro H l
  induction l with
  |nil=>rfl
  |cons s r F=>
   show fM (Nat.mod (yai H s) 256) (λx=>yap x::outs H r)=_;rw[XD,F,yah,show yai H s=H >>> s from rfl,Nat.shiftRight_eq_div_pow]
   rfl
 have m:∀(l r:yL Nat)(x j s:Nat),v=l++x::r->j<=24->s=32*r.length+j->yap (pw 0 v / 2 ^ s % 256)=yap (x / 2 ^ j):=by
  intro l r x j s e Q hs;have E:=z;rw[e]at E
  have G:pw 0 v / 2 ^ (32*r.length)=pw 0 l*4294967296+x:=by
   rw[e,JT];exact JS r _ (λy I=>E y (by simp[I]))
  rw[hs,Nat.pow_add, <-Nat.div_div_eq_div_mul,G]
  have M:pw 0 l*4294967296+x=2 ^ j*(pw 0 l*2 ^ (24 - j)*256)+x:=by
   rw[show(4294967296:Nat)=2 ^ j*2 ^ (24 - j)*256 by rw[<-Nat.pow_add,show j+(24 - j)=24 by omega]];congr 1;ac_rfl
  rw[M,Nat.mul_add_div (Nat.two_pow_pos j),ybo (pw 0 l*2 ^ (24 - j)) 256,Nat.mul_add_mod];exact UInt8.toNat_inj.1 (by simp)
 match v,hv with
 |[a,b,c,d,e,f,g,h],_=>
  rw[A];simp only[JP,yah,List.map_nil]
  rw[m [] [b,c,d,e,f,g,h] a 24 248 rfl (by omega) rfl,m [] [b,c,d,e,f,g,h] a 16 240 rfl (by omega) rfl,m [] [b,c,d,e,f,g,h] a 8 232 rfl (by omega) rfl,m [] [b,c,d,e,f,g,h] a 0 224 rfl (by omega) rfl,
   m [a] [c,d,e,f,g,h] b 24 216 rfl (by omega) rfl,m [a] [c,d,e,f,g,h] b 16 208 rfl (by omega) rfl,m [a] [c,d,e,f,g,h] b 8 200 rfl (by omega) rfl,m [a] [c,d,e,f,g,h] b 0 192 rfl (by omega) rfl,
   m [a,b] [d,e,f,g,h] c 24 184 rfl (by omega) rfl,m [a,b] [d,e,f,g,h] c 16 176 rfl (by omega) rfl,m [a,b] [d,e,f,g,h] c 8 168 rfl (by omega) rfl,m [a,b] [d,e,f,g,h] c 0 160 rfl (by omega) rfl,
   m [a,b,c] [e,f,g,h] d 24 152 rfl (by omega) rfl,m [a,b,c] [e,f,g,h] d 16 144 rfl (by omega) rfl,m [a,b,c] [e,f,g,h] d 8 136 rfl (by omega) rfl,m [a,b,c] [e,f,g,h] d 0 128 rfl (by omega) rfl,
   m [a,b,c,d] [f,g,h] e 24 120 rfl (by omega) rfl,m [a,b,c,d] [f,g,h] e 16 112 rfl (by omega) rfl,m [a,b,c,d] [f,g,h] e 8 104 rfl (by omega) rfl,m [a,b,c,d] [f,g,h] e 0 96 rfl (by omega) rfl,
   m [a,b,c,d,e] [g,h] f 24 88 rfl (by omega) rfl,m [a,b,c,d,e] [g,h] f 16 80 rfl (by omega) rfl,m [a,b,c,d,e] [g,h] f 8 72 rfl (by omega) rfl,m [a,b,c,d,e] [g,h] f 0 64 rfl (by omega) rfl,
   m [a,b,c,d,e,f] [h] g 24 56 rfl (by omega) rfl,m [a,b,c,d,e,f] [h] g 16 48 rfl (by omega) rfl,m [a,b,c,d,e,f] [h] g 8 40 rfl (by omega) rfl,m [a,b,c,d,e,f] [h] g 0 32 rfl (by omega) rfl,
   m [a,b,c,d,e,f,g] [] h 24 24 rfl (by omega) rfl,m [a,b,c,d,e,f,g] [] h 16 16 rfl (by omega) rfl,m [a,b,c,d,e,f,g] [] h 8 8 rfl (by omega) rfl,m [a,b,c,d,e,f,g] [] h 0 0 rfl (by omega) rfl]
  rfl
def lC(l:yL yB):yL Nat:=l.map ybg++(128::(yx (zs l.length) 0++jU (8*l.length)))
def lD:yL Nat:=[1779033703,3144134277,1013904242,2773480762,1359893119,2600822924,528734635,1541459225]
theorem ZAs(l:yL yB):(lC l).length=64*((l.length+72) / 64):=by
 unfold lC;simp only[ym,yad,yag,List.length_replicate,jU,List.length_nil,zs];omega
theorem ZDa(l:yL yB):∀x,x∈lC l->x < 256:=by
 intro x f;unfold lC at f;simp only[List.mem_append,List.mem_map,ybs,List.mem_replicate,jU,List.not_mem_nil,or_false]at f;rcases f with⟨y,_,rfl⟩|rfl|⟨_,rfl⟩|h
 .exact y.toNat_lt
 .omega
 .omega
 .rcases h with h|h|h|h|h|h|h|h <;> rw[h] <;> exact Nat.mod_lt _ (by omega)
theorem ZFX(l:yL yB):iM l=(yo 32).map (sW (fW ((l.length+72) / 64) (lC l) lD)):=by
 unfold iM
 rw[XD,XD,show H0=pw 0 lD from rfl,show l.map ybg++(128::(yx (zs l.length) 0++jU (8*l.length)))=lC l from rfl,
  show Nat.div (yy l.length 72) 64=(l.length+72) / 64 from rfl]
 have f:∀x,x∈lD->x < 4294967296:=by decide
 rw[ZBL _ _ _ (ZAs l) (ZDa l) rfl f];exact ZIn (Zyn _ _ _ rfl) (ZBM _ _ _ f)
theorem JX(l:yL yB):(iM l).length=32:=by rw[ZFX];simp
end Go.Sha
end
section
set_option maxRecDepth 4000
namespace Go.Proofs.YtcbhhaigilifgaaGreat
open Go Go.Ev Go.Sha
theorem kL(x:yV)(n k:Nat)(h:n+k=32)(hn:0 < n){z:Int}(hz:((du z)&&&31).toNat=k):∃o,ZK yD x z=ab o/\o.toNat=lo (yai (fg x.toNat) n):=by
 refine⟨_,rfl, ?_⟩;have f:((((du z)&&&31).toNat:Int)).toNat=k:=by rw[hz];rfl
 have g:(32 - ((du z)&&&31)).toNat=n:=by
  have j:((du z)&&&31)=yan k:=UInt64.toNat_inj.1 (by rw[hz,ybh];omega);rw[j,UInt64.toNat_sub,ybh];grind
 rw[f,show((((32 - ((du z)&&&31)).toNat:Nat):Int)).toNat=n by rw[g];rfl,Nat.min_eq_left (by omega),Nat.min_eq_left (by omega)];exact ZLG x h hn
theorem ZKG{l:yL yB}{a b c d:yB}(ha:l[0]? =ab a)(hb:l[1]? =ab b)(hc:l[2]? =ab c)(hd:l[3]? =ab d):∃o,wT yD l=ab o/\o.toNat=((a.toNat*256+b.toNat)*256+c.toNat)*256+d.toNat:=by
 unfold wT;rw[sI (i:=0) (by omega) ha,sI (i:=1) (by omega) hb,sI (i:=2) (by omega) hc,sI (i:=3) (by omega) hd];refine⟨_,rfl, ?_⟩;have j:=a.toNat_lt;have m:=b.toNat_lt;have y:=c.toNat_lt;have z:=d.toNat_lt
 have hs:∀(x:yB)(n:Nat),n<=24->(gV (ych x.toNat) n).toNat=x.toNat*2 ^ n:=by
  intro x n A;have f:=x.toNat_lt;unfold gV;rw[ycv,ycv,yas (a:=x.toNat) (by omega)];refine yas ?_
  calc x.toNat*2 ^ n < 2 ^ 8*2 ^ n:=Nat.mul_lt_mul_of_pos_right f (Nat.two_pow_pos n)
   _=2 ^ (8+n):=(Nat.pow_add ..).symm
   _<=2 ^ 32:=Nat.pow_le_pow_right (by omega) (by omega)
 rw[pO,pO,pO,hs _ _ (by omega),hs _ _ (by omega),hs _ _ (by omega),ycv,yas (a:=d.toNat) (by omega)]
 have g:Nat.lor (a.toNat*2 ^ 24) (b.toNat*2 ^ 16)=2 ^ 16*(a.toNat*256+b.toNat):=by
  rw[ybo a.toNat,show Nat.lor (2 ^ 24*a.toNat) (b.toNat*2 ^ 16)=2 ^ 24*a.toNat|||b.toNat*2 ^ 16 from rfl, <-yda (by omega)]
  omega
 have h:Nat.lor (2 ^ 16*(a.toNat*256+b.toNat)) (c.toNat*2 ^ 8)=2 ^ 8*((a.toNat*256+b.toNat)*256+c.toNat):=by
  rw[show Nat.lor (2 ^ 16*(a.toNat*256+b.toNat)) (c.toNat*2 ^ 8)=2 ^ 16*(a.toNat*256+b.toNat)|||c.toNat*2 ^ 8 from rfl, <-yda (by omega)]
  omega
 rw[g,h,show Nat.lor (2 ^ 8*((a.toNat*256+b.toNat)*256+c.toNat)) d.toNat=2 ^ 8*((a.toNat*256+b.toNat)*256+c.toNat)|||d.toNat from rfl, <-yda (by omega)]
 omega
theorem ZFY{l:yL yB}(h:l.length=64):∃o,wU yD l=ab o/\o.length=64/\∀(i:Nat)x,i < 64->o[i]? =ab x->x.toNat=wd (Xx (l.map ybg)) i:=by
 unfold wU;generalize hz:([0,0,0,0,0,0,0,0,0,0,0,0,0,0,0,0,0,0,0,0,0,0,0,0,0,0,0,0,0,0,0,0,0,0,0,0,0,0,0,0,0,0,0,0,0,0,0,0,0,0,0,0,0,0,0,0,0,0,0,0,0,0,0,0]:yL yV)=z;have Q:z.length=64:=by rw[<-hz];rfl
 refine Exists.elim (Wr (step:=VV yD) (λs=>s.1=l/\0<=s.2.1/\s.2.1<=64/\s.2.2.length=64/\∀(j:Nat)x,(j:Int) < s.2.1->s.2.2[j]? =ab x->x.toNat=wd (Xx (l.map ybg)) j) (λs=>(64 - s.2.1).toNat)
  (λo=>o.length=64/\∀(j:Nat)x,j < 64->o[j]? =ab x->x.toNat=wd (Xx (l.map ybg)) j) ?_ (l,(0:Int),z) ⟨rfl,Int.le_refl _,by dsimp only;omega,Q,λj x hj=>by dsimp only at hj;omega⟩ (by dsimp only;omega)) ?_
 rotate_left
 .grind
 .rintro⟨b,i,w⟩ ⟨hb,R,S,T,m⟩;dsimp only at hb R S T m;subst hb;unfold VV;dsimp only
  have f:∀(y:yV),y.toNat=wd (Xx (b.map ybg)) i.toNat->i < 64->∀(j:Nat)x,(j:Int) < i+1->(w.set i.toNat y)[j]? =ab x->x.toNat=wd (Xx (b.map ybg)) j:=by
   all_goals grind
  by_cases U:i < 64
  .left;rw[yW (yY U)];obtain⟨e,he⟩:=jm (l:=w) (i:=i.toNat) (by omega);by_cases A:i < 16
   .rw[yW (yY A),ZE (z:=4*i) (by omega) (by omega),yW (by simp only[dU,yi,yP];omega)];have g:∀k:Nat,k < 4->∃x,b[4*i.toNat+k]? =ab x:=λk hk=>jm (by omega);obtain⟨x0,g0⟩:=g 0 (by omega);obtain⟨x1,g1⟩:=g 1 (by omega);obtain⟨x2,g2⟩:=g 2 (by omega);obtain⟨x3,g3⟩:=g 3 (by omega);have e4:(4*i).toNat=4*i.toNat:=by omega
    obtain⟨o,ho,W⟩:=ZKG (l:=b.drop (4*i).toNat) (by rw[List.getElem?_drop,e4];exact g0) (by rw[List.getElem?_drop,e4];exact g1) (by rw[List.getElem?_drop,e4];exact g2) (by rw[List.getElem?_drop,e4];exact g3);rw[ho,ya,yW (XY R (by omega)),he,ya,ZE (z:=i+1) (by omega) (by omega)];refine⟨_,rfl,⟨rfl,by dsimp only;omega,by dsimp only;omega,by dsimp only;rw[ybu];exact T,f o ?_ U⟩,by dsimp only;omega⟩;have M:∀(k:Nat)(x:yB),b[k]? =ab x->(b.map ybg)[k]? =ab x.toNat:=λk x hx=>by rw[yao,hx];rfl
    have X:=ZoS i.toNat (b.map ybg) _ _ _ _ (M _ _ g0) (M _ _ g1) (M _ _ g2) (M _ _ g3);rw[W];have b0:=x0.toNat_lt;have b1:=x1.toNat_lt;have b2:=x2.toNat_lt;have b3:=x3.toNat_lt;exact(ZFV _ (by omega) X (by omega)).symm
   .rw[yX (by simpa using A)];rw[ZE (z:=i - 15) (by omega) (by omega),ZE (z:=i - 2) (by omega) (by omega),ZE (z:=i - 16) (by omega) (by omega),ZE (z:=i - 7) (by omega) (by omega),ZE (z:=i+1) (by omega) (by omega)];obtain⟨Y,E⟩:=jm (l:=w) (i:=(i - 15).toNat) (by omega);obtain⟨Z,F⟩:=jm (l:=w) (i:=(i - 2).toNat) (by omega);obtain⟨e3,G⟩:=jm (l:=w) (i:=(i - 16).toNat) (by omega);obtain⟨e4,I⟩:=jm (l:=w) (i:=(i - 7).toNat) (by omega);have v1:=m _ _ (by omega) E;have v2:=m _ _ (by omega) F;have v3:=m _ _ (by omega) G;have v4:=m _ _ (by omega) I;rw[yW (XY (by omega) (by omega)),E,ya,yW (XY (by omega) (by omega)),F,ya];obtain⟨o1,ho1,p1⟩:=kL Y 7 25 rfl (by omega) (z:= -7) rfl;obtain⟨o2,ho2,p2⟩:=kL Y 18 14 rfl (by omega) (z:= -18) rfl;obtain⟨o3,ho3,p3⟩:=kL Z 17 15 rfl (by omega) (z:= -17) rfl;obtain⟨o4,ho4,p4⟩:=kL Z 19 13 rfl (by omega) (z:= -19) rfl;rw[ho1,ya,ho2,ya,ho3,ya,ho4,ya];rw[yW (XY (by omega) (by omega)),G,ya,yW (XY (by omega) (by omega)),I,ya]
    try dsimp only
    rw[yW (XY R (by omega)),he,ya];refine⟨_,rfl,⟨rfl,by dsimp only;omega,by dsimp only;omega,by dsimp only;rw[ybu];exact T,f _ ?_ U⟩,by dsimp only;omega⟩;have hn:=ZBH (Xx (b.map ybg)) (i - 16).toNat
    rw[show(i - 16).toNat+16=i.toNat by omega,show(i - 16).toNat+1=(i - 15).toNat by omega,show(i - 16).toNat+9=(i - 7).toNat by omega,show(i - 16).toNat+14=(i - 2).toNat by omega, <-v1, <-v2, <-v3, <-v4]at hn;rw[hn];rw[jV,jV,jV,ZMx Y p1 p2,ZMy Z p3 p4];exact ZMD ..
  grind
theorem ZFZ{st:yL yV}{l:yL yB}(hs:st.length=8)(h:l.length=64):∃o,Vz yD st l=ab o/\o.map ybm=iu (st.map ybm) (Xx (l.map ybg)):=by
 unfold Vz;obtain⟨w,hw,hwl,W⟩:=ZFY h;obtain⟨k,hk,hkv⟩:∃k,JK yD=ab k/\k.map ybm=ks:=⟨_,rfl,rfl⟩;have hkl:k.length=64:=by rw[<-yad (f:=ybm),hkv];rfl
 generalize hws:Xx (l.map ybg)=m at W;rw[hw,ya,hk,ya]
 refine Exists.elim (Wr (step:=Vj yD) (λs=>0<=s.1/\s.1<=64/\s.2.1=st/\s.2.2.2.1=w/\s.2.2.2.2.1=k/\s.2.2.2.2.2.length=8/\s.2.2.2.2.2.map ybm=rs m (st.map ybm) s.1.toNat) (λs=>(64 - s.1).toNat)
  (λo=>o.1=st/\o.2.2.2.2.length=8/\o.2.2.2.2.map ybm=rs m (st.map ybm) 64) ?_ ((0:Int),st,([0,0,0,0,0,0,0,0]:yL yV),w,k,st) ⟨Int.le_refl _,by dsimp only;omega,rfl,rfl,rfl,hs,rfl⟩ (by dsimp only;omega)) ?_
 rotate_left
 .rintro o ⟨h1,p0,p1,p2⟩;rw[h1,ya];have hml:(iu (st.map ybm) m).length=8:=sV (by rw[yad];exact hs)
  refine Exists.elim (Wr (step:=Vk yD) (λs=>0<=s.1/\s.1<=8/\s.2.1=st/\s.2.2.2.2.2.length=8/\(∀(j:Nat)x,s.2.2.2.2.2[j]? =ab x->if(j:Int) < s.1 then(iu (st.map ybm) m)[j]? =ab x.toNat else(rs m (st.map ybm) 64)[j]? =ab x.toNat)) (λs=>(8 - s.1).toNat)
   (λo=>o.2.2.2.2.map ybm=iu (st.map ybm) m) ?_ ((0:Int),o.1,o.2.1,o.2.2.1,o.2.2.2.1,o.2.2.2.2) ⟨Int.le_refl _,by dsimp only;omega,p0,p1,λj x Q=>by
     dsimp only at Q ⊢;rw[yX (by omega), <-p2,yao,Q];rfl⟩ (by dsimp only;omega)) ?_
  rotate_left
  .grind
  .rintro⟨i,a,b,c,d,e⟩ ⟨S,h8,X,Y,M⟩;dsimp only at S h8 X Y M;subst X;unfold Vk;dsimp only;by_cases Z:i < 8
   .left;obtain⟨F,y⟩:=jm (l:=e) (i:=i.toNat) (by omega);obtain⟨G,A⟩:=jm (l:=a) (i:=i.toNat) (by omega);simp only[yY Z,if_true,XY S (show i < ((8:Nat):Int) by omega),y,A,ya];rw[ZE (z:=i+1) (by omega) (by omega)];refine⟨_,rfl,⟨by dsimp only;omega,by dsimp only;omega,rfl,by dsimp only;rw[ybu];exact Y, ?_⟩,by dsimp only;omega⟩;intro j x Q;dsimp only at Q ⊢;by_cases hji:j=i.toNat
    .subst hji;rw[List.getElem?_set_self (by omega)]at Q;cases Q;rw[yW (by omega),jV];have k1:=M _ _ y;rw[yX (by omega)]at k1;unfold iu;grind
    grind
   .right;rw[yX (by simpa using Z)];refine⟨_,rfl, ?_⟩;dsimp only;apply List.ext_getElem?
    all_goals grind
 .rintro⟨i,a,b,c,d,e⟩ ⟨S,h64,X,hc,hd,Y,M⟩;dsimp only at S h64 X hc hd Y M;subst X hc hd;unfold Vj;dsimp only;by_cases Z:i < 64
  .left
   match e,Y,M with
   |[I,x1,x2,x3,g,T,E,U],_,M=>
    obtain⟨F,y⟩:=jm (l:=d) (i:=i.toNat) (by omega);obtain⟨G,A⟩:=jm (l:=c) (i:=i.toNat) (by omega);obtain⟨o1,ho1,p1⟩:=kL g 6 26 rfl (by omega) (z:= -6) rfl;obtain⟨o2,ho2,p2⟩:=kL g 11 21 rfl (by omega) (z:= -11) rfl;obtain⟨o3,ho3,p3⟩:=kL g 25 7 rfl (by omega) (z:= -25) rfl;obtain⟨o4,ho4,p4⟩:=kL I 2 30 rfl (by omega) (z:= -2) rfl;obtain⟨o5,ho5,p5⟩:=kL I 13 19 rfl (by omega) (z:= -13) rfl;obtain⟨o6,ho6,p6⟩:=kL I 22 10 rfl (by omega) (z:= -22) rfl;generalize ZK yD=R at ho1 ho2 ho3 ho4 ho5 ho6 ⊢;rw[yW (yY Z)];simp only[yam,yak];rw[ya,ho1,ya,ya,ho2,ya,ya,ho3,ya,ya,ya,ya,ya,ya];rw[yW (XY S (show i < ((64:Nat):Int) by omega)),y,ya,yW (XY S (show i < ((64:Nat):Int) by omega)),A,ya,ya,ho4,ya,ya,ho5,ya,ya,ho6];rw[ya,ya,ya,ya,ya,ya];rw[ya,ya,ya,ya,ya,ya,ya];rw[ZE (z:=i+1) (by omega) (by omega)];refine⟨_,rfl,⟨by dsimp only;omega,by dsimp only;omega,rfl,rfl,rfl,rfl, ?_⟩,by dsimp only;omega⟩;dsimp only;rw[show(i+1).toNat=i.toNat+1 by omega,show rs m (a.map ybm) (i.toNat+1)=pP (rs m (a.map ybm) i.toNat) (ks.getD i.toNat 0) (wd m i.toNat) from rfl, <-M]
    have hk1:ks.getD i.toNat 0=F.toNat:=by
     grind
    rw[hk1, <-W i.toNat G (by omega) A];simp only[yah,List.map_nil];rw[Zyl]
    have kt:((U+((o1^^^o2)^^^o3))+(E^^^(g&&&(T^^^E)))+F+G).toNat=lo (yy (yy (yy (yy U.toNat (S1 g.toNat)) (ch g.toNat T.toNat E.toNat)) F.toNat) G.toNat):=by
     rw[jV,jV,jV,jV,ZMA g p1 p2 p3,ZMB];exact ZME ..
    have ka:((U+((o1^^^o2)^^^o3))+(E^^^(g&&&(T^^^E)))+F+G+((o4^^^o5)^^^o6)+((I&&&x1)|||(x2&&&(I|||x1)))).toNat=lo (yy (yy (yy (yy (yy (yy U.toNat (S1 g.toNat)) (ch g.toNat T.toNat E.toNat)) F.toNat) G.toNat) (S0 I.toNat)) (mj I.toNat x1.toNat x2.toNat)):=by
     rw[jV,jV,kt,ZMz I p4 p5 p6,ZMC];exact ZMF ..
    have ke:(x3+(((U+((o1^^^o2)^^^o3))+(E^^^(g&&&(T^^^E))))+F+G)).toNat=lo (yy x3.toNat (yy (yy (yy (yy U.toNat (S1 g.toNat)) (ch g.toNat T.toNat E.toNat)) F.toNat) G.toNat)):=by
     rw[jV,kt];exact ZMG ..
    rw[ka,ke]
  .right;rw[yX (by simpa using Z)];grind
def fl(n:Nat):yL yB:=(jU n).map yap
theorem JY{n:Nat}{b:yL yB}(h:b.length<=1000000000000):WJ yD (n:Int) b=ab (b++fl n):=by
 unfold WJ
 obtain⟨o,A,E⟩:=Wr (step:=QM yD) (λs=>∃k:Nat,k<=8/\s.1=(n:Int)/\s.2.1=56 - 8*(k:Int)/\s.2.2.1=b++(fl n).take k) (λs=>(s.2.1+8).toNat) (λo=>o.1=b++fl n) (by
  rintro⟨a,i,c,d⟩ ⟨k,M,y,F,j⟩;dsimp only at y F j;subst y;unfold QM;dsimp only;have G:c.length<=b.length+8:=by rw[j,ym,yaa];omega
  by_cases l:i >= 0
  .left;rw[yW (yY l),yW (yY l),yW (ZS (by omega) (by omega)),ZE (z:=i - 8) (by omega) (by omega)];refine⟨_,rfl,⟨k+1,by omega,rfl,by dsimp only;omega, ?_⟩,by dsimp only;omega⟩;dsimp only
   have I:∀m:Nat,w8 (Int.fdiv (n:Int) (2 ^ m))=yap (n / 2 ^ m % 256):=by
    intro m;unfold w8;rw[Int.fdiv_eq_ediv_of_nonneg _ (by exact Int.le_of_lt (Int.pow_pos (by omega)))];congr 1
   have g:min i.toNat 64=56 - 8*k:=by omega
   rw[g,I,j,yac];congr 1;have f:k < 8:=by omega
   match k,f with
   |0,_=>rfl
   |1,_=>rfl
   |2,_=>rfl
   |3,_=>rfl
   |4,_=>rfl
   |5,_=>rfl
   |6,_=>rfl
   |7,_=>
    show _++[yap (n / 2 ^ 0 % 256)]=_;rw[Nat.pow_zero,Nat.div_one];rfl
  .right;rw[yX (by simpa using l)];have f:k=8:=by omega
   subst f;exact⟨_,rfl,j⟩) (((n:Int),(56:Int),b,([]:yL yB))) ⟨0,by omega,rfl,by simp,by simp⟩ (by dsimp only;omega)
 rw[A,ya,E]
theorem ZKH{l:yL yB}(h:l.length<=4294967296):sR yD l=ab (iM l):=by
 unfold sR
 have hm:Int.tmod (l.length:Int) 64=((l.length % 64:Nat):Int):=by
  rw[Int.tmod_eq_emod_of_nonneg (by omega)];omega
 have hlt:l.length % 64 < 64:=Nat.mod_lt _ (by omega);have hle:l.length % 64<=l.length:=Nat.mod_le _ _;rw[hm,ZE (z:=(l.length:Int) - ((l.length % 64:Nat):Int)) (by omega) (by omega)];dsimp only;rw[yW (by simp only[dU,yi,yP];omega)];have hq:((l.length:Int) - ((l.length % 64:Nat):Int)).toNat=64*(l.length / 64):=by omega
 rw[hq]
 have T:(l.drop (64*(l.length / 64))).length=l.length % 64:=by
  rw[yaz];omega
 generalize ht:l.drop (64*(l.length / 64))=t at T
 have U:Ye yD t=ab t:=by
  unfold Ye;rw[yW (ZS (by omega) (by omega))]
 rw[U,ya,yW (ZS (by omega) (by omega))];generalize hz:dg=z;have hzl:z.length=32:=by rw[<-hz];rfl
 have hzs:zs l.length=(119 - t.length) % 64:=by unfold zs;rw[T]
 obtain⟨o,h1,p1,p2,p3⟩:=Wr (step:=wW yD) (λs=>s.1=l/\s.2.1=z/\∃j,j<=zs l.length/\s.2.2=t++([128]:yL yB)++yx j 0) (λs=>184 - s.2.2.length)
  (λo=>o.1=l/\o.2.1=z/\o.2.2=t++([128]:yL yB)++yx (zs l.length) 0) (by
  rintro⟨a,b,c⟩ ⟨g,Q,j,y,I⟩;dsimp only at g Q y I;have U:c.length=t.length+1+j:=by rw[I,ym,ym,List.length_replicate];rfl
  unfold wW;dsimp only
  have hm:Int.tmod (c.length:Int) 64=((c.length % 64:Nat):Int):=by
   rw[Int.tmod_eq_emod_of_nonneg (by omega)];omega
  rw[hm];by_cases F:c.length % 64=56
  .right;rw[yX (by simp;omega)];have:j=zs l.length:=by omega
   subst this;exact⟨_,rfl,g,Q,I⟩
  .left;rw[yW (by simp;omega),yW (ZS (by omega) (by omega))];have M:j≠zs l.length:=λe=>F (by omega);refine⟨_,rfl,⟨g,Q,j+1,by omega, ?_⟩, ?_⟩
   .dsimp only;rw[I,yac,List.replicate_succ',yac]
   .dsimp only;rw[ym,ycy];omega) (l,z,t++([128]:yL yB)) ⟨rfl,rfl,0,Nat.zero_le _,by simp⟩ (by dsimp only;omega)
 rw[h1,ya,p1,p2,p3,ZE (z:=8*(l.length:Int)) (by omega) (by omega),show 8*(l.length:Int)=((8*l.length:Nat):Int) by omega,JY (by
  rw[ym,ym,List.length_replicate];simp;omega),ya]
 obtain⟨f,hf,W⟩:∃f,JJ yD=ab f/\f.map ybm=lD:=⟨_,rfl,rfl⟩;have hf8:f.length=8:=by rw[<-yad (f:=ybm),W];rfl
 rw[hf,ya];generalize hE:t++([128]:yL yB)++yx (zs l.length) 0++fl (8*l.length)=E
 have hEl:E.length=64*((t.length+72) / 64):=by
  rw[<-hE];simp only[ym,List.length_replicate,ycy,fl,yad,jU,yag,List.length_nil];omega
 obtain⟨o3,h3,r1,r2,r3,r4⟩:=Wr (step:=wX yD) (λs=>s.2.1=z/\s.2.2.1=E/\s.2.2.2.length=8/\∃c,c<=l.length / 64/\s.1=l.drop (64*c)/\s.2.2.2.map ybm=fW c (l.map ybg) lD) (λs=>s.1.length)
  (λx=>x.1=z/\x.2.1=E/\x.2.2.length=8/\x.2.2.map ybm=fW (l.length / 64) (l.map ybg) lD) (by
  rintro⟨a,b,c,d⟩ ⟨g,Q,y,j,I,G,R⟩;dsimp only at g Q y I G R;have hal:a.length=l.length - 64*j:=by rw[G,yaz]
  unfold wX;dsimp only;by_cases F:(a.length:Int) >= 64
  .left;obtain⟨m,S,A⟩:=ZFZ (st:=d) (l:=a.take 64) y (by rw[yaa];omega);rw[yW (yY F),yW (by simp only[dU,yi,yP];omega),S,ya,yW (by simp only[dU,yi,yP];omega)];refine⟨_,rfl,⟨g,Q, ?_,j+1,by omega, ?_, ?_⟩,by dsimp only;rw[yaz];omega⟩
   .dsimp only;rw[<-yad (f:=ybm),A];exact sV (by rw[yad];exact y)
   .dsimp only;rw[G,List.drop_drop];congr 1
   .dsimp only;rw[A,JW,R,G,List.map_take,List.map_drop]
  .right;rw[yX (by simpa using F)];have:j=l.length / 64:=by omega
   subst this;exact⟨_,rfl,g,Q,y,R⟩) (l,z,E,f) ⟨rfl,rfl,hf8,0,Nat.zero_le _,by simp,W⟩ (by dsimp only;omega)
 rw[h3,ya,r1,r2];generalize hv1:fW (l.length / 64) (l.map ybg) lD=v1 at r4
 obtain⟨X,h4,s1,s2,s3⟩:=Wr (step:=wY yD) (λs=>s.2.1=z/\s.2.2.2.length=8/\∃c,c<=E.length / 64/\s.1=E.drop (64*c)/\s.2.2.2.map ybm=fW c (E.map ybg) v1) (λs=>s.1.length)
  (λx=>x.1=z/\x.2.2.length=8/\x.2.2.map ybm=fW (E.length / 64) (E.map ybg) v1) (by
  rintro⟨a,b,c,d⟩ ⟨g,y,j,I,G,R⟩;dsimp only at g y I G R;have hal:a.length=E.length - 64*j:=by rw[G,yaz]
  unfold wY;dsimp only;by_cases F:(a.length:Int) > 0
  .left;obtain⟨m,S,A⟩:=ZFZ (st:=d) (l:=a.take 64) y (by rw[yaa];omega);rw[yW (yY F),yW (by simp only[dU,yi,yP];omega),S,ya,yW (by simp only[dU,yi,yP];omega)];refine⟨_,rfl,⟨g, ?_,j+1,by omega, ?_, ?_⟩,by dsimp only;rw[yaz];omega⟩
   .dsimp only;rw[<-yad (f:=ybm),A];exact sV (by rw[yad];exact y)
   .dsimp only;rw[G,List.drop_drop];congr 1
   .dsimp only;rw[A,JW,R,G,List.map_take,List.map_drop]
  .right;rw[yX (by simpa using F)];have:j=E.length / 64:=by omega
   subst this;exact⟨_,rfl,g,y,R⟩) (E,z,E,o3.2.2) ⟨rfl,r3,0,Nat.zero_le _,by simp,r4⟩ (by dsimp only;omega)
 rw[h4,ya];generalize hv2:fW (E.length / 64) (E.map ybg) v1=v2 at s3
 obtain⟨o5,h5,t1,t2⟩:=Wr (step:=wZ yD) (λs=>0<=s.1/\s.1<=32/\s.2.1.length=32/\s.2.2.2=X.2.2/\∀(j:Nat),(j:Int) < s.1->s.2.1[j]? =ab (Go.Sha.sW v2 j)) (λs=>(32 - s.1).toNat)
  (λx=>x.1.length=32/\∀(j:Nat),j < 32->x.1[j]? =ab (Go.Sha.sW v2 j)) (by
  rintro⟨i,a,b,c⟩ ⟨h0,h32,ha,hc,Y⟩;dsimp only at h0 h32 ha hc Y;subst hc;unfold wZ;dsimp only;by_cases F:i < 32
  .left;rw[yW (yY F)];have e1:Int.tdiv i 4=i / 4:=Int.tdiv_eq_ediv_of_nonneg h0;have e2:Int.tmod i 4=i % 4:=Int.tmod_eq_emod_of_nonneg h0;rw[e1,e2,ZE (z:=i / 4) (by omega) (by omega),ZE (z:=8*(i % 4)) (by omega) (by omega),ZE (z:=24 - 8*(i % 4)) (by omega) (by omega),ZE (z:=i+1) (by omega) (by omega)];obtain⟨x1,Z⟩:=jm (l:=X.2.2) (i:=(i / 4).toNat) (by omega);obtain⟨x2,hx2⟩:=jm (l:=a) (i:=i.toNat) (by omega);rw[yW (XY (by omega) (by omega)),Z,ya,yW (yY (by omega))]
   try dsimp only
   rw[yW (XY (by omega) (by omega)),hx2,ya];refine⟨_,rfl,⟨by dsimp only;omega,by dsimp only;omega,by dsimp only;rw[ybu];exact ha,rfl, ?_⟩,by dsimp only;omega⟩;intro j M;dsimp only at M ⊢;by_cases hji:j=i.toNat
   .subst hji;rw[List.getElem?_set_self (by omega)];congr 1;unfold Go.Sha.sW
    have hx:v2.getD (i.toNat / 4) 0=x1.toNat:=by
     rw[<-s3,ycx,yao,show i.toNat / 4=(i / 4).toNat by omega,Z];rfl
    rw[hx,show min (24 - 8*(i % 4)).toNat 32=24 - 8*(i.toNat % 4) by omega,sS];unfold w8;have e3:∀m:Nat,(((m:Nat):Int) % 256).toNat=m % 256:=λm=>by omega
    rw[e3,show yai x1.toNat (24 - 8*(i.toNat % 4))=x1.toNat >>> (24 - 8*(i.toNat % 4)) from rfl,Nat.shiftRight_eq_div_pow]
    exact UInt8.toNat_inj.1 (by simp)
   .rw[List.getElem?_set_ne (Ne.symm hji)];exact Y j (by omega)
  .right;rw[yX (by simpa using F)];exact⟨_,rfl,ha,λj M=>Y j (by omega)⟩) ((0:Int),X.1,X.2.1,X.2.2) ⟨Int.le_refl _,by dsimp only;omega,by dsimp only;rw[s1];exact hzl,rfl,λj M=>by dsimp only at M;omega⟩ (by dsimp only;omega)
 rw[h5,ya,ZFX];congr 1
 have hpad:lC l=(l.take (64*(l.length / 64))).map ybg++E.map ybg:=by
  unfold lC;rw[<-hE, <-ht];simp only[yau,List.map_replicate,yah,List.map_nil,fl,List.map_map];rw[<-yac, <-yac, <-yac, <-yau,ybc]
  have:jU (8*l.length)=(jU (8*l.length)).map (ybg ∘ yap):=by
   simp[jU]
  rw[<-this];simp
 have hw:((l.take (64*(l.length / 64))).map ybg).length=64*(l.length / 64):=by
  rw[yad,yaa];omega
 have Y:v2=fW ((l.length+72) / 64) (lC l) lD:=by
  rw[hpad,show(l.length+72) / 64=l.length / 64+E.length / 64 by omega,JV _ _ _ _ _ hw, <-hv2, <-hv1];congr 1;have:=JV (l.length / 64) 0 _ ((l.drop (64*(l.length / 64))).map ybg) lD hw;rw[<-yau,ybc,Nat.add_zero]at this;exact this
 rw[<-Y];apply List.ext_getElem?;intro j;by_cases M:j < 32
 .rw[t2 j M,yao,List.getElem?_range M];rfl
 .rw[ybz (by omega),ybz (by simp;omega)]
noncomputable def sX(F:Nat)(a0:yL yB):yO aLu:=if ag (a0.length<=4294967296)=ae then ab (iM a0) else sR F a0
noncomputable def Zyo(F:Nat):Fs yb:={ JN F with M:=λx=>sX F x}
noncomputable def Zru:Fs yb:=Zyo yD
theorem Zyp:Zru.Ok:=wJ (s:=JN yD) Zv0 λx=>by
 show sX yD x=sR yD x;unfold sX;split
 .rename_i h;exact(ZKH (yF h)).symm
 .rfl
theorem ZIo{l:yL yB}(h:l.length<=4294967296):sX yD l=ab (iM l):=yW (yY h)
end Go.Proofs.YtcbhhaigilifgaaGreat
end
section
set_option maxRecDepth 4000
namespace Go.Proofs.YtcbhhaigilifgaaGreat
open Go Go.Ev
noncomputable section
def Zgk:Fs yb:=⟨149,[.nil .u8,.v yI],[],[yI],Qd.xs,λx=>Qd.M (x,([]:yL yB))⟩
theorem Zms:Zgk.Ok:=ZKl (i1:=[yI]) (i2:=[yI,aLv]) (λx=>(x,([]:yL yB))) JM (λ_=>rfl) (λ_=>⟨_,rfl⟩)
abbrev _root_.aLU:=yL aLu
def QN(F:Nat):(aLU×Int×Int×aLu×aLu)->yO ((aLU×Int×Int×aLu×aLu)⊕(aLu×aLu))
 |(c,b,a,e,d)=>
 if(ag (a < b))=ae then
  (idx c a).bind λf=>
  (WJ F (f.length:Int) d).bind λg=>
  if(cg g.length f.length 1)=ae then
   ab (.inl (c,b,wi (a+1),e,g++f))
  else
  ad
 else
 ab (.inr (e,d))
abbrev _root_.aLV:Go.Ev.Ty:=.sl aLv
def ZoT:Lp:=⟨[(4,.ak 0 []),(5,.own 1 .u8),(13,.v aLV),(14,.v yI),(15,.v yI)],zG,[aLV,yI,yI,aLy,aLv],[⟨.exit 0,[(4,.ak 0 []),(5,.own 1 .u8)],zG,[aLy,aLv]⟩],Zc (QN yD) yD⟩
def pQ:HI:={ own:=[5,10,12,19,22,24],still:=[9,19,21,26]}
theorem Zrv:ZoT.cj yb 76 0:=ZQ pQ [] [Qd] ⟨JM,aB⟩
def VI(F:Nat)(a0:ByteArray)(a1:aLU):yO (aLu):=
 (WJ F (a0.size:Int) []).bind λa=>
 if(cg a.length ((gi a0).length) 1)=ae then
  (Zc (QN F) F (a1,(a1.length:Int),0,dg,a++(gi a0))).bind λb=>
  (sX F b.2).bind λc=>
  ab c
 else
 ad
def Qe:Fs yb:=⟨76,[.v .str,.v aLV],[],[.str,aLV],(zN aLy),λx=>VI yD x.1 x.2⟩
theorem Qf:Qe.Ok:=bg pQ [(0,ZoT)] [Zgk,Zru] ⟨Zms,Zyp,aB⟩ ⟨Zrv,aB⟩
def YZ(F:Nat):(aLU×Int×aLU×Int×Int)->yO ((aLU×Int×aLU×Int×Int)⊕(aLU×Int))
 |(e,d,c,b,a)=>
 if(ag (a < b))=ae then
  (idx c a).bind λf=>
  if(ag ((wi (d+(f.length:Int))) < 0))=ae then
   ad
  else
  ab (.inl (e,wi (d+(f.length:Int)),c,b,wi (a+1)))
 else
 ab (.inr (e,d))
def Qg:Lp:=⟨[(0,.v aLV),(3,.v yI),(9,.v aLV),(10,.v yI),(11,.v yI)],[],[aLV,yI,aLV,yI,yI],[⟨.exit 0,[(0,.v aLV),(3,.v yI)],[],[aLV,yI]⟩],Zc (YZ yD) yD⟩
def hi3:HI:={ own:=[6,24,31,33],still:=[2,23]}
theorem ZcG:Qg.cj yb 199 0:=ZQ hi3 [] [] trivial
def ZaW:Fs yb:=⟨221,[.nil .u8,.v yI],[],[.int .i64],[⟨.ret,[(0,.own 0 .u8)],[.log .u8 5],[.sl .u8]⟩],og⟩
theorem ZfK:ZaW.Ok:=ZH8 ZFF
def Y2(F:Nat)(s:(aLU×Int×Int×aLu)):yO ((aLU×Int×Int×aLu)⊕aLu):=
 if(ag (s.2.2.1 < s.2.1))=ae then
  (idx s.1 s.2.2.1).bind λa=>
  if(cg s.2.2.2.length a.length 1)=ae then
   ab (.inl (s.1,s.2.1,wi (s.2.2.1+1),s.2.2.2++a))
  else
  ad
 else
 ab (.inr s.2.2.2)
def Qh:Lp:=⟨[(6,.own 0 .u8),(25,.v aLV),(26,.v yI),(27,.v yI)],[.log .u8 5],[aLV,yI,yI,aLv],[⟨.exit 2,[(6,.own 0 .u8)],[.log .u8 5],[aLv]⟩],Zc (Y2 yD) yD⟩
theorem ZcH:Qh.cj yb 199 1:=ZQ hi3 [] [] trivial
def YK(F:Nat)(a0:aLU):yO (aLu):=
 (Zc (YZ F) F (a0,0,a0,(a0.length:Int),0)).bind λa=>
 (og a.2).bind λb=>
 (Zc (Y2 F) F (a.1,(a.1.length:Int),0,b)).bind λc=>
 ab c
def Wp:Fs yb:=⟨199,[.v aLV],[],[aLV],(zN aLv),λx=>YK yD x⟩
theorem Qi:Wp.Ok:=bg hi3 [(0,Qg),(1,Qh)] [ZaW] ⟨ZfK,aB⟩ ⟨ZcG,ZcH,aB⟩
def oo(F:Nat)(a0:aLu)(a1:aLu):yO (aLu):=
 (YK F [a0,a1]).bind λa=>
 ab a
def xi:Fs yb:=⟨165,[.v aLv,.v aLv],[],[aLv,aLv],(zN aLv),λx=>oo yD x.1 x.2⟩
theorem JZ:xi.Ok:=bg { still:=[4,7]} [] [Wp] ⟨Qi,aB⟩
def xj(F:Nat)(s:(Int×aLu)):yO ((Int×aLu)⊕(Int×aLu)):=
 if(ag (s.1 >= 128))=ae then
  if(cg s.2.length 1 1)=ae then
   let a:aLu:=s.2++([w8 (wi ((Int.tmod s.1 128)+128))]:yL yB)
   ab (.inl (wi (Int.tdiv s.1 128),a))
  else
  ad
 else
 ab (.inr (s.1,s.2))
def ZoU:Lp:=⟨[(0,.v yI),(3,.own 0 .u8)],[.log .u8 5],[yI,aLv],[⟨.exit 0,[(0,.v yI),(3,.own 0 .u8)],[.log .u8 5],[yI,aLv]⟩],Zc (xj yD) yD⟩
def hi4:HI:={ own:=[3,8,14,15,19],still:=[2]}
theorem Zrw:ZoU.cj yb 166 0:=ZQ hi4 [] [] trivial
def sY(F:Nat)(a0:Int):yO (aLu):=
 (Zc (xj F) F (a0,[])).bind λa=>
 if(cg a.2.length 1 1)=ae then
  ab (a.2++([w8 a.1]:yL yB))
 else
 ad
def KA:Fs yb:=⟨166,[.v yI],[],[yI],(zN aLv),λx=>sY yD x⟩
theorem ZoV:KA.Ok:=bg hi4 [(0,ZoU)] [] trivial ⟨Zrw,aB⟩
def XL(F:Nat)(a0:aLu)(a1:Int):yO (aLu):=
 if(ag (a1 < 0))=ae then
  (oo F a0 []).bind λa=>
  ab a
 else
 (sY F a1).bind λb=>
 (oo F a0 b).bind λc=>
 ab c
def oq:Fs yb:=⟨96,[.v aLv,.v yI],[],[aLv,yI],(zN aLv),λx=>XL yD x.1 x.2⟩
theorem pR:oq.Ok:=bg { still:=[4,7,9,10,11]} [] [xi,KA] ⟨JZ,ZoV,aB⟩
def xk(F:Nat)(a0:aLu)(a1:aLu):yO (aLu):=
 (oo F a0 a1).bind λa=>
 ab a
def ZiK:Fs yb:=⟨151,[.v aLv,.v aLy],[],[aLv,aLy],(zN aLv),λx=>xk yD x.1 x.2⟩
theorem Zpu:ZiK.Ok:=bg { still:=[4,5,6],eC:=[6]} [] [xi] ⟨JZ,aB⟩
def xl(F:Nat)(a0:aLu)(a1:aLu):yO (aLu):=
 (sY F (a1.length:Int)).bind λa=>
 (YK F [a0,a,a1]).bind λb=>
 ab b
def ZhM:Fs yb:=⟨152,[.v aLv,.v aLv],[],[aLv,aLv],(zN aLv),λx=>xl yD x.1 x.2⟩
theorem Zn2:ZhM.Ok:=bg { still:=[4,7,10]} [] [KA,Wp] ⟨ZoV,Qi,aB⟩
def xm(F:Nat)(s:(aLu×yU×Int×aLu)):yO ((aLu×yU×Int×aLu)⊕(aLu×aLu)):=
 if(ag (s.2.2.1 < 8))=ae then
  if(ag (0<=wi (56 - (wi (8*s.2.2.1)))))=ae then
   let a:yU:=Zz s.2.1 (min (wi (56 - (wi (8*s.2.2.1)))).toNat 64)
   if(bp s.2.2.1 8)=ae then
    (s.2.2.2[s.2.2.1.toNat]?).bind λb=>
    let c:aLu:=s.2.2.2.set s.2.2.1.toNat (w8 (a.toNat:Int))
    ab (.inl (s.1,s.2.1,wi (s.2.2.1+1),c))
   else
   ad
  else
  ad
 else
 ab (.inr (s.1,s.2.2.2))
abbrev _root_.aLS:Go.Ev.Ty:=.arr 8 .u8
def ZiL:Lp:=⟨[(0,.v aLv),(1,.v .u64),(5,.ak 0 []),(7,.v yI)],[.var (.v aLS) ae],[aLv,.u64,yI,aLS],[⟨.exit 0,[(0,.v aLv),(5,.ak 0 [])],[.var (.v aLS) ae],[aLv,aLS]⟩],Zc (xm yD) yD⟩
theorem Zmt:ZiL.cj yb 97 0:=ZQ { still:=[4,19,20],eC:=[20]} [] [] trivial
def Ww(F:Nat)(a0:aLu)(a1:yU):yO (aLu):=
 (Zc (xm F) F (a0,a1,0,[0,0,0,0,0,0,0,0])).bind λa=>
 (oo F a.1 a.2).bind λb=>
 ab b
def sZ:Fs yb:=⟨97,[.v aLv,.v .u64],[],[aLv,.u64],(zN aLv),λx=>Ww yD x.1 x.2⟩
theorem xn:sZ.Ok:=bg { still:=[4,19,20],eC:=[20]} [(0,ZiL)] [xi] ⟨JZ,aB⟩ ⟨Zmt,aB⟩
def Qj(F:Nat):(aLu×aLO×Int×Int×aLH×Int×Int×ZY×Z3)->yO ((aLu×aLO×Int×Int×aLH×Int×Int×ZY×Z3)⊕(aLu×aLO×Int×Int×ZY×Z3))
 |(d,e,f,g,c,b,a,h,i)=>
 if(ag (a < b))=ae then
  (idx c a).bind λj=>
  (Ww F d j).bind λk=>
  ab (.inl (k,e,f,g,c,b,wi (a+1),h,i))
 else
 ab (.inr (d,e,f,g,h,i))
abbrev tL0:yL Ty:=[aLv,aLR,yI,yI,aLF,yI,yI,Yc,YN]
def Zkp:Lp:=⟨[(3,.v aLv),(5,.ak 1 []),(16,.v aLR),(17,.v yI),(18,.v yI),(28,.v aLF),(29,.v yI),(30,.v yI)],[.var (.v Yc) ae,.var (.v YN) ae],tL0,[⟨.exit 2,[(3,.v aLv),(5,.ak 1 []),(16,.v aLR),(17,.v yI),(18,.v yI)],[.var (.v Yc) ae,.var (.v YN) ae],[aLv,aLR,yI,yI,Yc,YN]⟩],Zc (Qj yD) yD⟩
def hi5:HI:={ still:=[2,8,13,22,25,34,35,38,40,41,43,44,46]}
theorem Zn3:Zkp.cj yb 153 1:=ZQ hi5 [] [sZ] ⟨xn,aB⟩
def xo(F:Nat):(aLu×aLO×Int×Int×ZY)->yO ((aLu×aLO×Int×Int×ZY)⊕(aLu×ZY))
 |(j,i,h,g,k)=>
 if(ag (g < h))=ae then
  (idx i g).bind λl=>
  (XL F j (l.1.length:Int)).bind λm=>
  (Zc (Qj F) F (m,i,h,g,l.1,(l.1.length:Int),0,k,l)).bind λ(a,c,d,e,f,b)=>
  (XL F a b.2.1).bind λn=>
  (XL F n b.2.2.1).bind λo=>
  (Ww F o b.2.2.2).bind λp=>
  ab (.inl (p,c,d,wi (e+1),f))
 else
 ab (.inr (j,k))
def Zkq:Lp:=⟨[(3,.v aLv),(16,.v aLR),(17,.v yI),(18,.v yI)],[.var (.v Yc) ae],[aLv,aLR,yI,yI,Yc],[⟨.exit 0,[(3,.v aLv)],[.var (.v Yc) ae],[aLv,Yc]⟩],Zc (xo yD) yD⟩
theorem Zn4:Zkq.cj yb 153 0:=ZQ hi5 [(1,Zkp)] [oq,sZ] ⟨pR,xn,aB⟩ ⟨Zn3,aB⟩
def pS(F:Nat)(a0:ZY):yO (aLu):=
 (XC F a0).bind λa=>
 if(!a)=ae then
  ab []
 else
 (XL F [] (a0.length:Int)).bind λb=>
 (Zc (xo F) F (b,a0,(a0.length:Int),0,a0)).bind λc=>
 ab c.1
def xq:Fs yb:=⟨153,[.v Yc],[],[Yc],(zN aLv),λx=>pS yD x⟩
theorem KB:xq.Ok:=bg hi5 [(0,Zkq)] [QI,oq] ⟨sO,pR,aB⟩ ⟨Zn4,aB⟩
def xr(F:Nat):(aLu×aLD×Int×Int×Tx)->yO ((aLu×aLD×Int×Int×Tx)⊕(aLu×Tx))
 |(d,c,b,a,e)=>
 if(ag (a < b))=ae then
  (idx c a).bind λf=>
  (xk F d f.1.1).bind λg=>
  (XL F g f.1.2).bind λh=>
  ab (.inl (h,c,b,wi (a+1),e))
 else
 ab (.inr (d,e))
def ZoW:Lp:=⟨[(1,.ak 0 []),(3,.v aLv),(13,.v aLG),(14,.v yI),(15,.v yI)],[.var (.v bD) ae],[aLv,aLG,yI,yI,bD],[⟨.exit 0,[(1,.ak 0 []),(3,.v aLv)],[.var (.v bD) ae],[aLv,bD]⟩],Zc (xr yD) yD⟩
def KC:HI:={ still:=[2,10,19,22,23,26,29,32,41,43,44,46,47,50,52]}
theorem Zrx:ZoW.cj yb 77 0:=ZQ KC [] [ZiK,oq] ⟨Zpu,pR,aB⟩
def xt(F:Nat):(aLu×aLJ×Int×Int×Tx)->yO ((aLu×aLJ×Int×Int×Tx)⊕(aLu×Tx))
 |(d,c,b,a,e)=>
 if(ag (a < b))=ae then
  (idx c a).bind λf=>
  (XL F d f.1).bind λg=>
  (pS F f.2).bind λh=>
  (xl F g h).bind λi=>
  ab (.inl (i,c,b,wi (a+1),e))
 else
 ab (.inr (d,e))
def ZoX:Lp:=⟨[(1,.ak 0 []),(3,.v aLv),(35,.v aLM),(36,.v yI),(37,.v yI)],[.var (.v bD) ae],[aLv,aLM,yI,yI,bD],[⟨.exit 2,[(1,.ak 0 []),(3,.v aLv)],[.var (.v bD) ae],[aLv,bD]⟩],Zc (xt yD) yD⟩
theorem Zry:ZoX.cj yb 77 1:=ZQ KC [] [oq,xq,ZhM] ⟨pR,KB,Zn2,aB⟩
def ta(F:Nat)(a0:Tx):yO (aLu):=
 (XL F [] (a0.1.length:Int)).bind λa=>
 (Zc (xr F) F (a,a0.1,(a0.1.length:Int),0,a0)).bind λb=>
 (XL F b.1 (b.2.2.1.length:Int)).bind λc=>
 (Zc (xt F) F (c,b.2.2.1,(b.2.2.1.length:Int),0,b.2)).bind λd=>
 (XL F d.1 d.2.2.2).bind λe=>
 ab e
def KD:Fs yb:=⟨77,[.v bD],[],[bD],(zN aLv),λx=>ta yD x⟩
theorem ZoY:KD.Ok:=bg KC [(0,ZoW),(1,ZoX)] [oq] ⟨pR,aB⟩ ⟨Zrx,Zry,aB⟩
def ZJg:ByteArray:=⟨#[116,120]⟩
def eA(F:Nat)(a0:Tx):yO (aLu):=
 (QL F a0).bind λa=>
 if(!a)=ae then
  ab dg
 else
 (ta F a0).bind λb=>
 (VI F ZJg [b]).bind λc=>
 ab c
def KE(F:Nat):Fs yb:=⟨33,[.v bD],[],[bD],(zN aLy),λx=>eA F x⟩
def KF:Fs yb:=KE yD
theorem KG:KF.Ok:=bg { still:=[3,7,9]} [] [sQ,KD,Qe] ⟨wS,ZoY,Qf,aB⟩
def pT(F:Nat):(Int×Int×Tx×(yL ZL)×aLu)->yO ((Int×Int×Tx×(yL ZL)×aLu)⊕(Tx×(yL ZL)×aLu))
 |(b,a,e,c,d)=>
 if(ag (a < b))=ae then
  if(cg c.length 1 40)=ae then
   let f:(yL ZL):=c++([(d,a)]:yL ZL)
   ab (.inl (b,wi (a+1),e,f,d))
  else
  ad
 else
 ab (.inr (e,c,d))
def ZrB:Lp:=⟨[(2,.own 1 ZO),(3,.ak 2 []),(12,.v yI),(13,.v yI)],[.var (.v bD) ae,.log ZO 25,.var (.v aLy) ae],[yI,yI,bD,(.sl ZO),aLy],[⟨.exit 0,[(2,.own 1 ZO)],[.var (.v bD) ae,.log ZO 25,.var (.v aLy) ae],[bD,(.sl ZO),aLy]⟩],Zc (pT yD) yD⟩
def td:HI:={ own:=[2,16,21,23],still:=[2,5,7]}
theorem Zs4:ZrB.cj yb 19 0:=ZQ td [] [] trivial
def xu(F:Nat)(a0:Tx):yO ((yL ZL)):=
 (eA F a0).bind λa=>
 (QL F a0).bind λb=>
 if(!b)=ae then
  ab []
 else
 (Zc (pT F) F ((a0.2.1.length:Int),0,a0,[],a)).bind λc=>
 ab c.2.1
def Zuf:Fs yb:=⟨19,[.v bD],[],[bD],(zN (.sl ZO)),λx=>xu yD x⟩
theorem ZAt:Zuf.Ok:=bg td [(0,ZrB)] [KF,sQ] ⟨KG,wS,aB⟩ ⟨Zs4,aB⟩
def xv(F:Nat):(Int×aLE×Int×Int×yG)->yO ((Int×aLE×Int×Int×yG)⊕(Int×yG))
 |(d,c,b,a,e)=>
 if(ag (a < b))=ae then
  (idx c a).bind λf=>
  ab (.inl (wi (d+f.2.2.1),c,b,wi (a+1),e))
 else
 ab (.inr (d,e))
def ZiM:Lp:=⟨[(3,.v yI),(14,.v aLx),(15,.v yI),(16,.v yI)],[.var (.v Zb) ae],[yI,aLx,yI,yI,Zb],[⟨.exit 0,[(3,.v yI)],[.var (.v Zb) ae],[yI,Zb]⟩],Zc (xv yD) yD⟩
theorem Zmv:ZiM.cj yb 21 0:=ZQ { still:=[2]} [] [] trivial
def xw(F:Nat)(a0:yG):yO (Int):=
 (a0.2.1[0]?).bind λa=>
 (a0.2.1[1]?).bind λb=>
 (Zc (xv F) F (wi (a+b),a0.2.2.1,(a0.2.2.1.length:Int),0,a0)).bind λc=>
 ab c.1
def Zkr:Fs yb:=⟨21,[.v Zb],[],[Zb],(zN yI),λx=>xw yD x⟩
theorem ZrC:Zkr.Ok:=bg { still:=[2]} [(0,ZiM)] [] trivial ⟨Zmv,aB⟩
def XE(F:Nat)(a0:Int)(a1:Int)(a2:Int):yO (Bool):=
 if(ag (a1<=a0))=ae then
  ab (ag (a0<=a2))
 else
 ab af
def ZhN:Fs yb:=⟨156,[.v yI,.v yI,.v yI],[],[yI,yI,yI],(zN .bool),λx=>XE yD x.1 x.2.1 x.2.2⟩
theorem Zn5:ZhN.Ok:=bg { still:=[6]} [] [] trivial
abbrev jW:Ty:=(.st [yI,yI,yI,yI,yI,yI])
abbrev bw:Type:=(Int×Int×Int×Int×Int×Int)
def xx(F:Nat)(a0:bw):yO (Bool):=
 (XE F a0.1 0 65536).bind λa=>
 if a=ae then
  (XE F a0.2.2.1 1 4096).bind λb=>
  if b=ae then
   (XE F a0.2.2.2.1 0 16).bind λc=>
   if c=ae then
    (XE F a0.2.1 a0.1 1125899906842624).bind λd=>
    if d=ae then
     (XE F a0.2.2.2.2.1 1 1125899906842624).bind λe=>
     if e=ae then
      (XE F a0.2.2.2.2.2 0 1125899906842624).bind λf=>
      ab f
     else
     ab af
    else
    ab af
   else
   ab af
  else
  ab af
 else
 ab af
def Zks:Fs yb:=⟨83,[.v jW],[],[jW],(zN .bool),λx=>xx yD x⟩
def hi8:HI:={ still:=[2,7,12,18,25,27,33,39]}
theorem ZrD:Zks.Ok:=bg hi8 [] [ZhN] ⟨Zn5,aB⟩
def xy(F:Nat)(a0:yU):yO (Bool):=
 if(a0==1)=ae then
  ab ae
 else
 (Y4 F a0).bind λa=>
 ab (!a)
def Zgn:Fs yb:=⟨157,[.v .u64],[],[.u64],(zN .bool),λx=>xy yD x⟩
theorem Zmw:Zgn.Ok:=bg { still:=[2,6]} [] [WI] ⟨WW,aB⟩
abbrev xz:Ty:=(.st [.u64,.u64,.u64,.u64,.u64])
abbrev bo:Type:=(yU×yU×yU×yU×yU)
abbrev bo.Cond(x:bo):yU:=x.2.2.2.1
def XF(F:Nat)(s:(aLH×Int×Int)):yO ((aLH×Int×Int)⊕(Int⊕Unit)):=
 if(ag (s.2.2 < s.2.1))=ae then
  (idx s.1 s.2.2).bind λa=>
  (xy F a).bind λb=>
  if b=ae then
   ab (.inr (.inl s.2.2))
  else
  ab (.inl (s.1,s.2.1,wi (s.2.2+1)))
 else
 ab (.inr (.inr ()))
def Zdb:Lp:=⟨[(0,.v aLF),(1,.fn 157 []),(7,.v yI),(8,.v yI)],[],[aLF,yI,yI],[⟨.ret,[(4,.v yI)],[],[yI]⟩,⟨.exit 0,[],[],[]⟩],Zc (XF yD) yD⟩
theorem Zhg:Zdb.cj yb 196 0:=ZQ { still:=[4,15]} [] [Zgn] ⟨Zmw,aB⟩
def KH(F:Nat)(a0:aLH):yO (Int):=
 (Zc (XF F) F (a0,(a0.length:Int),0)).bind λa=>
 match a with
 |.inl b=>
  ab b
 |.inr c=>
  ab (-1)
def Zeq:Fs yb:=⟨196,[.v aLF,.fn 157 []],[],[aLF],(zN yI),λx=>KH yD x⟩
theorem Zj5:Zeq.Ok:=bg { still:=[4,15]} [(0,Zdb)] [] trivial ⟨Zhg,aB⟩
def KI(F:Nat)(a0:aLH):yO (Bool):=
 (KH F a0).bind λa=>
 ab (ag (a >= 0))
def ZiN:Fs yb:=⟨147,[.v aLF,.fn 157 []],[],[aLF],(zN .bool),λx=>KI yD x⟩
theorem Zpv:ZiN.Ok:=bg { still:=[4,5,6]} [] [Zeq] ⟨Zj5,aB⟩
def xA(F:Nat)(a0:bo):yO (Bool):=
 (KI F [a0.1,a0.2.1,a0.2.2.1,a0.2.2.2.1,a0.2.2.2.2]).bind λa=>
 ab (!a)
def ZiO:Fs yb:=⟨84,[.v xz],[],[xz],(zN .bool),λx=>xA yD x⟩
theorem Zpw:ZiO.Ok:=bg { still:=[2,14,15]} [] [ZiN] ⟨Zpv,aB⟩
abbrev Zi:Ty:=(.st [ZO,yI,(.arr 2 xz),(.arr 2 jW),yI])
abbrev Chan:Type:=(ZL×Int×(yL bo)×(yL bw)×Int)
abbrev Chan.bo(x:Chan):(yL bo):=x.2.2.1
abbrev Chan.bw(x:Chan):(yL bw):=x.2.2.2.1
def VJ(F:Nat)(s:((yL bw)×Int×Chan)):yO (((yL bw)×Int×Chan)⊕((Int×Chan)⊕Chan)):=
 if(ag (s.2.1 < 2))=ae then
  (idx s.1 s.2.1).bind λa=>
  (xx F a).bind λb=>
  if(!b)=ae then
   ab (.inr (.inl (1,s.2.2)))
  else
  if(bp s.2.1 2)=ae then
   (s.2.2.2.2.1[s.2.1.toNat]?).bind λc=>
   (xA F c).bind λd=>
   if(!d)=ae then
    ab (.inr (.inl (1,s.2.2)))
   else
   ab (.inl (s.1,wi (s.2.1+1),s.2.2))
  else
  ad
 else
 ab (.inr (.inr s.2.2))
def Zmy:Lp:=⟨[(1,.ak 0 []),(34,.v (.arr 2 jW)),(35,.v yI)],[.var (.v Zi) ae],[(.arr 2 jW),yI,Zi],[⟨.ret,[(2,.v yI)],[.var (.v Zi) ae],[yI,Zi]⟩,⟨.exit 0,[(1,.ak 0 [])],[.var (.v Zi) ae],[Zi]⟩],Zc (VJ yD) yD⟩
theorem Zpx:Zmy.cj yb 40 0:=ZQ { still:=[2,39,46,55,59]} [] [Zks,ZiO] ⟨ZrD,Zpw,aB⟩
def Wi(F:Nat)(a0:Chan):yO (Int):=
 if(ag (a0.2.1 < 1))=ae then
  ab 1
 else
 if(ag (a0.2.1 > 1125899906842624))=ae then
  ab 1
 else
 if(ag (a0.1.2 < 0))=ae then
  ab 1
 else
 if(ag (a0.1.2 >= 64))=ae then
  ab 1
 else
 if((bits .andNot .i64 a0.2.2.2.2 1)!=0)=ae then
  ab 1
 else
 (Zc (VJ F) F (a0.2.2.2.1,0,a0)).bind λa=>
 match a with
 |.inl b=>
  ab b.1
 |.inr c=>
  (c.2.2.2.1[0]?).bind λd=>
  (c.2.2.2.1[1]?).bind λe=>
  (Qa F d.2.1 e.2.1).bind λf=>
  if(!f.2)=ae then
   ab 10
  else
  if(ag (f.1 > c.2.1))=ae then
   ab 10
  else
  ab 0
def KJ:Fs yb:=⟨40,[.v Zi],[],[Zi],(zN yI),λx=>Wi yD x⟩
theorem Zmz:KJ.Ok:=bg { still:=[2,39,46,55,59]} [(0,Zmy)] [JI] ⟨Zro,aB⟩ ⟨Zpx,aB⟩
def xB(F:Nat)(a0:Int)(s0:Int)(s1:Int):yO ((Bool×Int×Int)):=
 if(ag (a0 < s0))=ae then
  ab (ae,s0,s1)
 else
 ab (ag (a0 > s1),s0,s1)
def Zgo:Fs yb:=⟨120,[.v yI,.ak 0 [],.ak 1 []],[.var (.v yI) ae,.var (.v yI) ae],[yI,yI,yI],[⟨.ret,[(0,.v .bool)],[.var (.v yI) ae,.var (.v yI) ae],[.bool,yI,yI]⟩],λx=>xB yD x.1 x.2.1 x.2.2⟩
theorem ZmA:Zgo.Ok:=bg { still:=[4]} [] [] trivial
def ZP(F:Nat):(aLC×Int×Int×Int×Int)->yO ((aLC×Int×Int×Int×Int)⊕((Int×Int×Int)⊕(Int×Int)))
 |(c,b,a,d,e)=>
 if(ag (a < b))=ae then
  (idx c a).bind λf=>
  (xB F f d e).bind λg=>
  if g.1=ae then
   ab (.inr (.inl (a,g.2.1,g.2.2)))
  else
  ab (.inl (c,b,wi (a+1),g.2.1,g.2.2))
 else
 ab (.inr (.inr (d,e)))
abbrev _root_.aLT:Go.Ev.Ty:=.sl yI
def VW:Lp:=⟨[(0,.v aLT),(1,.fn 120 [.ak 0 [],.ak 1 []]),(7,.v yI),(8,.v yI)],[.var (.v yI) ae,.var (.v yI) ae],[aLT,yI,yI,yI,yI],[⟨.ret,[(4,.v yI)],[.var (.v yI) ae,.var (.v yI) ae],[yI,yI,yI]⟩,⟨.exit 0,[],[.var (.v yI) ae,.var (.v yI) ae],[yI,yI]⟩],Zc (ZP yD) yD⟩
theorem ZbX:VW.cj yb 181 0:=ZQ { still:=[4,15]} [] [Zgo] ⟨ZmA,aB⟩
def Xm(F:Nat)(a0:aLC)(s0:Int)(s1:Int):yO ((Int×Int×Int)):=
 (Zc (ZP F) F (a0,(a0.length:Int),0,s0,s1)).bind λa=>
 match a with
 |.inl b=>
  ab (b.1,b.2.1,b.2.2)
 |.inr c=>
  ab ((-1),c.1,c.2)
def Qk:Fs yb:=⟨181,[.v aLT,.fn 120 [.ak 0 [],.ak 1 []]],[.var (.v yI) ae,.var (.v yI) ae],[aLT,yI,yI],[⟨.ret,[(0,.v yI)],[.var (.v yI) ae,.var (.v yI) ae],[yI,yI,yI]⟩],λx=>Xm yD x.1 x.2.1 x.2.2⟩
theorem ZdF:Qk.Ok:=bg { still:=[4,15]} [(0,VW)] [] trivial ⟨ZbX,aB⟩
def YO(F:Nat)(a0:aLC)(s0:Int)(s1:Int):yO ((Bool×Int×Int)):=
 (Xm F a0 s0 s1).bind λa=>
 ab (ag (a.1 >= 0),a.2.1,a.2.2)
def W9:Fs yb:=⟨119,[.v aLT,.fn 120 [.ak 0 [],.ak 1 []]],[.var (.v yI) ae,.var (.v yI) ae],[aLT,yI,yI],[⟨.ret,[(0,.v .bool)],[.var (.v yI) ae,.var (.v yI) ae],[.bool,yI,yI]⟩],λx=>YO yD x.1 x.2.1 x.2.2⟩
theorem ZbY:W9.Ok:=bg { still:=[4,5,6]} [] [Qk] ⟨ZdF,aB⟩
def Z7(F:Nat)(a0:Int)(a1:Int)(a2:aLC):yO (Bool):=
 (YO F a2 a0 a1).bind λa=>
 ab (!a.1)
def KK:Fs yb:=⟨59,[.v yI,.v yI,.v aLT],[],[yI,yI,aLT],(zN .bool),λx=>Z7 yD x.1 x.2.1 x.2.2⟩
theorem ZhO:KK.Ok:=bg { still:=[6,7,8]} [] [W9] ⟨ZbY,aB⟩
def te(F:Nat)(a0:Cond):yO (Bool):=
 (Z7 F 0 1 [a0.1]).bind λa=>
 if a=ae then
  (Z7 F 1 1048576 [a0.2.1]).bind λb=>
  if b=ae then
   (Z7 F 1 1125899906842624 [a0.2.2.1]).bind λc=>
   if c=ae then
    (Z7 F 1 1048576 [a0.2.2.2.2]).bind λd=>
    if d=ae then
     (Y4 F a0.2.2.2.1).bind λe=>
     if e=ae then
      ab (a0.2.2.2.1 !=1)
     else
     ab af
    else
    ab af
   else
   ab af
  else
  ab af
 else
 ab af
def KL:Fs yb:=⟨60,[.v Zm],[],[Zm],(zN .bool),λx=>te yD x⟩
theorem Zkt:KL.Ok:=bg { still:=[2,5,10,16,22,27]} [] [KK,WI] ⟨ZhO,WW,aB⟩
def WX(F:Nat)(s:(Int×aLC×Int×Int)):yO ((Int×aLC×Int×Int)⊕(Int⊕Int)):=
 if(ag (s.2.2.2 < s.2.2.1))=ae then
  (idx s.2.1 s.2.2.2).bind λa=>
  if(a !=s.1)=ae then
   ab (.inr (.inl a))
  else
  ab (.inl (s.1,s.2.1,s.2.2.1,wi (s.2.2.2+1)))
 else
 ab (.inr (.inr s.1))
def Zku:Lp:=⟨[(3,.v yI),(6,.v aLT),(7,.v yI),(8,.v yI)],[],[yI,aLT,yI,yI],[⟨.ret,[(2,.v yI)],[],[yI]⟩,⟨.exit 0,[(3,.v yI)],[],[yI]⟩],Zc (WX yD) yD⟩
theorem Zn6:Zku.cj yb 121 0:=ZQ { still:=[2]} [] [] trivial
def tf(F:Nat)(a0:aLC):yO (Int):=
 (Zc (WX F) F (0,a0,(a0.length:Int),0)).bind λa=>
 match a with
 |.inl b=>
  ab b
 |.inr c=>
  ab c
def KM:Fs yb:=⟨121,[.v aLT],[],[aLT],(zN yI),λx=>tf yD x⟩
theorem Zkv:KM.Ok:=bg { still:=[2]} [(0,Zku)] [] trivial ⟨Zn6,aB⟩
def xC(F:Nat)(a0:Int):yO (Bool):=
 ab (a0 !=a0)
def ZhP:Fs yb:=⟨182,[.v yI],[],[yI],(zN .bool),λx=>xC yD x⟩
theorem Zn7:ZhP.Ok:=bg { still:=[2]} [] [] trivial
def Yw(F:Nat)(a0:Int)(a1:Int):yO (Int):=
 (xC F a0).bind λa=>
 (xC F a1).bind λb=>
 if a=ae then
  if b=ae then
   ab 0
  else
  ab (-1)
 else
 if b=ae then
  ab 1
 else
 if(ag (a0 < a1))=ae then
  ab (-1)
 else
 if(ag (a0 > a1))=ae then
  ab 1
 else
 ab 0
def KN:Fs yb:=⟨122,[.v yI,.v yI],[],[yI,yI],(zN yI),λx=>Yw yD x.1 x.2⟩
theorem Zes:KN.Ok:=bg { still:=[4,7,9]} [] [ZhP] ⟨Zn7,aB⟩
def QO(F:Nat)(a0:Cond)(a1:Cond):yO (Int):=
 (Yw F a0.1 a1.1).bind λa=>
 (Yw F a0.2.1 a1.2.1).bind λb=>
 (tf F [a,b]).bind λc=>
 ab c
def xD:Fs yb:=⟨61,[.v Zm,.v Zm],[],[Zm,Zm],(zN yI),λx=>QO yD x.1 x.2⟩
theorem KO:xD.Ok:=bg { still:=[4,6,8,11,13,15]} [] [KN,KM] ⟨Zes,Zkv,aB⟩
def VX(F:Nat):(Int×Int×Int×aLE×Int×Int×yG)->yO ((Int×Int×Int×aLE×Int×Int×yG)⊕(Int×Int×yG))
 |(d,e,f,c,b,a,g)=>
 if(ag (a < b))=ae then
  (idx c a).bind λh=>
  if(h.1==(wi (1 - d)))=ae then
   ab (.inl (d,wi (e+1),wi (f+h.2.2.1),c,b,wi (a+1),g))
  else
  ab (.inl (d,e,f,c,b,wi (a+1),g))
 else
 ab (.inr (e,f,g))
def Zgp:Lp:=⟨[(1,.v yI),(6,.v yI),(7,.v yI),(11,.v aLx),(12,.v yI),(13,.v yI)],[.var (.v Zb) ae],[yI,yI,yI,aLx,yI,yI,Zb],[⟨.exit 0,[(6,.v yI),(7,.v yI)],[.var (.v Zb) ae],[yI,yI,Zb]⟩],Zc (VX yD) yD⟩
theorem Zj6:Zgp.cj yb 62 0:=ZQ { still:=[4,5]} [] [] trivial
def Ql(F:Nat)(a0:yG)(a1:Int):yO ((Int×Int)):=
 (Zc (VX F) F (a1,0,0,a0.2.2.1,(a0.2.2.1.length:Int),0,a0)).bind λa=>
 ab (a.1,a.2.1)
def KP:Fs yb:=⟨62,[.v Zb,.v yI],[],[Zb,yI],[⟨.ret,[(0,.bm [.v yI,.v yI])],[],[yI,yI]⟩],λx=>Ql yD x.1 x.2⟩
theorem Zgq:KP.Ok:=bg { still:=[4,5]} [(0,Zgp)] [] trivial ⟨Zj6,aB⟩
def KQ(F:Nat)(a0:Int):yO (Int):=
 if(ag (a0 < 0))=ae then
  ab 0
 else
 if(ag (a0 > 16))=ae then
  ab 0
 else
 ab (wi (68+(wi (8*a0))))
def ZiQ:Fs yb:=⟨183,[.v yI],[],[yI],(zN yI),λx=>KQ yD x⟩
theorem Zpy:ZiQ.Ok:=bg { still:=[2]} [] [] trivial
def tg(F:Nat)(a0:Int)(a1:Int):yO (Int):=
 if(ag (a0 < 0))=ae then
  ab 0
 else
 if(ag (a0 > 1000))=ae then
  ab 0
 else
 (KQ F a1).bind λa=>
 ab (wi (a0*a))
def KR:Fs yb:=⟨123,[.v yI,.v yI],[],[yI,yI],(zN yI),λx=>tg yD x.1 x.2⟩
theorem ZmB:KR.Ok:=bg { still:=[4,12]} [] [ZiQ] ⟨Zpy,aB⟩
def th(F:Nat)(a0:Chan)(a1:yG):yO (Int):=
 (tg F a1.2.2.2 (a1.2.2.1.length:Int)).bind λa=>
 ab (wi (a+660))
def KS:Fs yb:=⟨63,[.v Zi,.v Zb],[],[Zi,Zb],(zN yI),λx=>th yD x.1 x.2⟩
theorem Zkw:KS.Ok:=bg { still:=[4,6,9]} [] [KR] ⟨ZmB,aB⟩
def XP(F:Nat):(aLE×Int×Int×Chan×yG)->yO ((aLE×Int×Int×Chan×yG)⊕((Bool×Chan×yG)⊕(Chan×yG)))
 |(c,b,a,d,e)=>
 if(ag (a < b))=ae then
  (idx c a).bind λf=>
  (te F f).bind λg=>
  if(!g)=ae then
   ab (.inr (.inl (af,d,e)))
  else
  if(bp (wi (1 - f.1)) 2)=ae then
   (d.2.2.2.1[(wi (1 - f.1)).toNat]?).bind λh=>
   if(ag (f.2.2.1 < h.2.2.2.2.1))=ae then
    ab (.inr (.inl (af,d,e)))
   else
   if(ag (a > 0))=ae then
    (idx e.2.2.1 (wi (a - 1))).bind λi=>
    (QO F i f).bind λj=>
    if(ag (j >= 0))=ae then
     ab (.inr (.inl (af,d,e)))
    else
    ab (.inl (c,b,wi (a+1),d,e))
   else
   ab (.inl (c,b,wi (a+1),d,e))
  else
  ad
 else
 ab (.inr (.inr (d,e)))
def ZiS:Lp:=⟨[(2,.ak 0 []),(3,.ak 1 []),(46,.v aLx),(47,.v yI),(48,.v yI)],[.var (.v Zi) ae,.var (.v Zb) ae],[aLx,yI,yI,Zi,Zb],[⟨.ret,[(4,.v .bool)],[.var (.v Zi) ae,.var (.v Zb) ae],[.bool,Zi,Zb]⟩,⟨.exit 0,[(2,.ak 0 []),(3,.ak 1 [])],[.var (.v Zi) ae,.var (.v Zb) ae],[Zi,Zb]⟩],Zc (XP yD) yD⟩
def KT:HI:={ still:=[4,11,17,28,35,53,77,78,91,92,107,118,119]}
theorem ZmC:ZiS.cj yb 20 0:=ZQ KT [] [KL,xD] ⟨Zkt,KO,aB⟩
def Ws(F:Nat)(s:((yL bw)×Int×Chan×yG)):yO (((yL bw)×Int×Chan×yG)⊕((Bool×Chan×yG)⊕(Chan×yG))):=
 if(ag (s.2.1 < 2))=ae then
  (idx s.1 s.2.1).bind λa=>
  (Ql F s.2.2.2 s.2.1).bind λb=>
  if(ag (b.1 > a.2.2.2.1))=ae then
   ab (.inr (.inl (af,s.2.2.1,s.2.2.2)))
  else
  if(ag (b.2 > a.2.2.2.2.2))=ae then
   ab (.inr (.inl (af,s.2.2.1,s.2.2.2)))
  else
  ab (.inl (s.1,wi (s.2.1+1),s.2.2.1,s.2.2.2))
 else
 ab (.inr (.inr (s.2.2.1,s.2.2.2)))
def ZiT:Lp:=⟨[(2,.ak 0 []),(3,.ak 1 []),(85,.v (.arr 2 jW)),(86,.v yI)],[.var (.v Zi) ae,.var (.v Zb) ae],[(.arr 2 jW),yI,Zi,Zb],[⟨.ret,[(4,.v .bool)],[.var (.v Zi) ae,.var (.v Zb) ae],[.bool,Zi,Zb]⟩,⟨.exit 2,[(2,.ak 0 []),(3,.ak 1 [])],[.var (.v Zi) ae,.var (.v Zb) ae],[Zi,Zb]⟩],Zc (Ws yD) yD⟩
theorem ZmD:ZiT.cj yb 20 1:=ZQ KT [] [KP] ⟨Zgq,aB⟩
def au(F:Nat)(a0:Chan)(a1:yG):yO (Bool):=
 (Wi F a0).bind λa=>
 if(a !=0)=ae then
  ab af
 else
 (Z7 F 0 1048576 [a1.1]).bind λb=>
 if(!b)=ae then
  ab af
 else
 (a1.2.1[0]?).bind λc=>
 (a1.2.1[1]?).bind λd=>
 (Z7 F 0 1125899906842624 [c,d]).bind λe=>
 if(!e)=ae then
  ab af
 else
 (Z7 F 0 1000 [a1.2.2.2]).bind λf=>
 if(!f)=ae then
  ab af
 else
 if(ag ((a1.2.2.1.length:Int) > 16))=ae then
  ab af
 else
 (Zc (XP F) F (a1.2.2.1,(a1.2.2.1.length:Int),0,a0,a1)).bind λg=>
 match g with
 |.inl h=>
  ab h.1
 |.inr i=>
  (Zc (Ws F) F (i.1.2.2.2.1,0,i.1,i.2)).bind λj=>
  match j with
  |.inl k=>
   ab k.1
  |.inr l=>
   (xw F l.2).bind λm=>
   if(m==l.1.2.1)=ae then
    if(bp l.1.2.2.2.2 2)=ae then
     (l.2.2.1[l.1.2.2.2.2.toNat]?).bind λn=>
     (th F l.1 l.2).bind λo=>
     ab (ag (n >= o))
    else
    ad
   else
   ab af
def ti:Fs yb:=⟨20,[.v Zi,.v Zb],[],[Zi,Zb],(zN .bool),λx=>au yD x.1 x.2⟩
theorem Qm:ti.Ok:=bg KT [(0,ZiS),(1,ZiT)] [KJ,KK,Zkr,KS] ⟨Zmz,ZhO,ZrC,Zkw,aB⟩ ⟨ZmC,ZmD,aB⟩
def WY(F:Nat)(a0:aLH):yO (aLH):=
 if(cg 0 a0.length 8)=ae then
  ab a0
 else
 ad
def Zpz:Fs yb:=⟨117,[.sl ae .u64],[],[aLF],(zN aLF),λx=>WY yD x⟩
theorem Zn8:Zpz.Ok:=bg { own:=[5,7],still:=[2]} [] [] trivial
def Zfp(F:Nat):yO (aLH):=
 ab []
def Zk7:Fs yb:=⟨117,[.nil .u64],[],[],(zN aLF),λx=>Zfp yD⟩
theorem Zj7:Zk7.Ok:=bg { own:=[5,7],still:=[2]} [] [] trivial
def Zfq:Fs yb:=⟨117,[.v aLF],[],[aLF],(zN aLF),λx=>WY yD x⟩
theorem Zk8:Zfq.Ok:=sC (t:=.u64) (xs:=(zN aLF)) (MA:=λ(x:aLH)=>WY yD x) (MB:=λ_=>Zfp yD) Zn8 Zj7 rfl
def tj(F:Nat)(a0:aLH):yO (ZY):=
 (WY F a0).bind λa=>
 ab [(a,0,0,0)]
def KU:Fs yb:=⟨57,[.v aLF],[],[aLF],(zN Yc),λx=>tj yD x⟩
theorem ZoZ:KU.Ok:=bg { still:=[3]} [] [Zfq] ⟨Zk8,aB⟩
def KV(F:Nat)(a0:yU)(a1:yU):yO (ZY):=
 (tj F [a0,a1]).bind λa=>
 ab a
def Zo0:Fs yb:=⟨67,[.v .u64,.v .u64],[],[.u64,.u64],(zN Yc),λx=>KV yD x.1 x.2⟩
theorem Zv4:Zo0.Ok:=bg { still:=[7]} [] [KU] ⟨ZoZ,aB⟩
def VA(F:Nat)(a0:Chan):yO (ZY):=
 (a0.2.2.1[0]?).bind λa=>
 (a0.2.2.1[1]?).bind λb=>
 (KV F a.1 b.1).bind λc=>
 ab c
def Zn9:Fs yb:=⟨23,[.v Zi],[],[Zi],(zN Yc),λx=>VA yD x⟩
theorem ZmE:Zn9.Ok:=bg { still:=[6,10]} [] [Zo0] ⟨Zv4,aB⟩
def Xp(F:Nat)(a0:Int)(a1:Int):yO (Bool):=
 if(ag (a1<=a0))=ae then
  ab (ag (a0<=1099511627776))
 else
 ab af
def XZ:Fs yb:=⟨159,[.v yI,.v yI],[],[yI,yI],(zN .bool),λx=>Xp yD x.1 x.2⟩
theorem WZ:XZ.Ok:=bg { still:=[4]} [] [] trivial
abbrev Qn:Ty:=(.st [ZO,yI])
abbrev Y6:Type:=(ZL×Int)
abbrev Zf:Ty:=(.st [(.sl Qn),aLM,yI])
abbrev ai:Type:=((yL Y6)×aLJ×Int)
def Yx(F:Nat):(Int×(yL Y6)×Int×Int×ai)->yO ((Int×(yL Y6)×Int×Int×ai)⊕((Int×Bool×ai)⊕(Int×ai)))
 |(e,c,b,a,d)=>
 if(ag (a < b))=ae then
  (idx c a).bind λf=>
  (Xp F f.2 1).bind λg=>
  if(!g)=ae then
   ab (.inr (.inl (0,af,d)))
  else
  ab (.inl (wi (e+f.2),c,b,wi (a+1),d))
 else
 ab (.inr (.inr (e,d)))
def ZbF:Lp:=⟨[(1,.ak 0 []),(2,.v yI),(4,.fn 159 []),(30,.v (.sl Qn)),(31,.v yI),(32,.v yI)],[.var (.v Zf) ae],[yI,(.sl Qn),yI,yI,Zf],[⟨.ret,[(2,.v yI),(3,.v .bool)],[.var (.v Zf) ae],[yI,.bool,Zf]⟩,⟨.exit 0,[(1,.ak 0 []),(2,.v yI),(4,.fn 159 [])],[.var (.v Zf) ae],[yI,Zf]⟩],Zc (Yx yD) yD⟩
theorem ZfO:ZbF.cj yb 86 0:=ZQ { still:=[2,3,22,38,55,60]} [] [XZ] ⟨WZ,aB⟩
def Yy(F:Nat):(Int×aLJ×Int×Int×ai)->yO ((Int×aLJ×Int×Int×ai)⊕((Int×Bool×ai)⊕(Int×ai)))
 |(e,c,b,a,d)=>
 if(ag (a < b))=ae then
  (idx c a).bind λf=>
  (Xp F f.1 0).bind λg=>
  if(!g)=ae then
   ab (.inr (.inl (0,af,d)))
  else
  (XC F f.2).bind λh=>
  if(!h)=ae then
   ab (.inr (.inl (0,af,d)))
  else
  ab (.inl (wi (e - f.1),c,b,wi (a+1),d))
 else
 ab (.inr (.inr (e,d)))
def ZbG:Lp:=⟨[(2,.v yI),(4,.fn 159 []),(47,.v aLM),(48,.v yI),(49,.v yI)],[.var (.v Zf) ae],[yI,aLM,yI,yI,Zf],[⟨.ret,[(2,.v yI),(3,.v .bool)],[.var (.v Zf) ae],[yI,.bool,Zf]⟩,⟨.exit 2,[(2,.v yI)],[.var (.v Zf) ae],[yI,Zf]⟩],Zc (Yy yD) yD⟩
theorem ZfP:ZbG.cj yb 86 1:=ZQ { still:=[2,3,22,38,55,60]} [] [XZ,QI] ⟨WZ,sO,aB⟩
def XT(F:Nat)(a0:ai):yO ((Int×Bool)):=
 if(ag ((a0.1.length:Int) > 8))=ae then
  ab (0,af)
 else
 if(ag ((a0.2.1.length:Int) > 8))=ae then
  ab (0,af)
 else
 (Xp F a0.2.2 0).bind λa=>
 if(!a)=ae then
  ab (0,af)
 else
 (Zc (Yx F) F (wi (0 - a0.2.2),a0.1,(a0.1.length:Int),0,a0)).bind λb=>
 match b with
 |.inl c=>
  ab (c.1,c.2.1)
 |.inr d=>
  (Zc (Yy F) F (d.1,d.2.2.1,(d.2.2.1.length:Int),0,d.2)).bind λe=>
  match e with
  |.inl f=>
   ab (f.1,f.2.1)
  |.inr g=>
   ab (g.1,ae)
def ZcL:Fs yb:=⟨86,[.v Zf],[],[Zf],[⟨.ret,[(0,.bm [.v yI,.v .bool])],[],[yI,.bool]⟩],λx=>XT yD x⟩
theorem Zh1:ZcL.Ok:=bg { still:=[2,3,22,38,55,60]} [(0,ZbF),(1,ZbG)] [XZ] ⟨WZ,aB⟩ ⟨ZfO,ZfP,aB⟩
abbrev _root_.aLL:=yL ai
def YQ(F:Nat)(s:(aLL×Int×aLL×aLC)):yO ((aLL×Int×aLL×aLC)⊕((Bool×aLL×aLC)⊕(aLL×aLC))):=
 if(ag (s.2.1 < 2))=ae then
  (idx s.1 s.2.1).bind λa=>
  (XT F a).bind λb=>
  if(bp s.2.1 2)=ae then
   (s.2.2.2[s.2.1.toNat]?).bind λc=>
   if(!b.2)=ae then
    ab (.inr (.inl (af,s.2.2.1,[0,0])))
   else
   ab (.inl (s.1,wi (s.2.1+1),s.2.2.1,s.2.2.2.set s.2.1.toNat b.1))
  else
  ad
 else
 ab (.inr (.inr (s.2.2.1,s.2.2.2)))
abbrev _root_.aLB:Go.Ev.Ty:=.arr 2 Zf
abbrev zD:List bJ:=[.var (.v aLB) ae,.var (.v aLI) ae]
def Zfr:Lp:=⟨[(2,.ak 1 []),(6,.v aLB),(7,.v yI)],zD,[aLB,yI,aLB,aLI],[⟨.ret,[(2,.ak 1 []),(3,.v .bool)],zD,[.bool,aLB,aLI]⟩,⟨.exit 0,[(2,.ak 1 [])],zD,[aLB,aLI]⟩],Zc (YQ yD) yD⟩
theorem ZiU:Zfr.cj yb 41 0:=ZQ { still:=[3,13]} [] [ZcL] ⟨Zh1,aB⟩
def xE(F:Nat)(a0:aLL):yO ((aLC×Bool)):=
 (Zc (YQ F) F (a0,0,a0,[0,0])).bind λa=>
 match a with
 |.inl b=>
  ab (b.2.2,b.1)
 |.inr c=>
  ab (c.2,ae)
def KW(F:Nat):Fs yb:=⟨41,[.v aLB],[],[aLB],[⟨.ret,[(0,.bm [.v aLI,.v .bool])],[],[aLI,.bool]⟩],λx=>xE F x⟩
def Zgs:Fs yb:=KW yD
theorem Zfs:Zgs.Ok:=bg { still:=[3,13]} [(0,Zfr)] [] trivial ⟨ZiU,aB⟩
abbrev Zg:Ty:=(.st [aLv,.bool])
abbrev Ze:Type:=(aLu×Bool)
abbrev Ze.b(x:Ze):aLu:=x.1
abbrev Ze.no(x:Ze):Bool:=x.2
def tm(F:Nat)(a0:aLu):yO (Ze):=
 (Yd F a0).bind λa=>
 ab (a,af)
def KX:Fs yb:=⟨87,[.v aLv],[],[aLv],[⟨.ret,[(0,.ak 0 [])],[.var (.v Zg) ae],[Zg]⟩],λx=>tm yD x⟩
theorem ZmF:KX.Ok:=bg { still:=[2,3]} [] [Wh] ⟨VU,aB⟩
def ZF(F:Nat)(s:(aLu×aLu×Int×Int)):yO ((aLu×aLu×Int×Int)⊕(Bool⊕Unit)):=
 if(ag (s.2.2.2 < s.2.2.1))=ae then
  (idx s.1 s.2.2.2).bind λa=>
  (idx s.2.1 s.2.2.2).bind λb=>
  if(a !=b)=ae then
   ab (.inr (.inl af))
  else
  ab (.inl (s.1,s.2.1,s.2.2.1,wi (s.2.2.2+1)))
 else
 ab (.inr (.inr ()))
def QX:Lp:=⟨[(0,.v aLv),(1,.v aLv),(12,.v yI),(13,.v yI)],[],[aLv,aLv,yI,yI],[⟨.ret,[(4,.v .bool)],[],[.bool]⟩,⟨.exit 0,[],[],[]⟩],Zc (ZF yD) yD⟩
theorem Zc4:QX.cj yb 164 0:=ZQ { still:=[4]} [] [] trivial
def ZX(F:Nat)(a0:aLu)(a1:aLu):yO (Bool):=
 if((a0.length:Int)!=(a1.length:Int))=ae then
  ab af
 else
 (Zc (ZF F) F (a0,a1,(a0.length:Int),0)).bind λa=>
 match a with
 |.inl b=>
  ab b
 |.inr c=>
  ab ae
def Zal:Fs yb:=⟨164,[.v aLv,.v aLv],[],[aLv,aLv],(zN .bool),λx=>ZX yD x.1 x.2⟩
theorem ZeX:Zal.Ok:=bg { still:=[4]} [(0,QX)] [] trivial ⟨Zc4,aB⟩
def Xw(F:Nat)(s0:Int)(f:Ze):yO ((Bool×Int×Ze)):=
 if(ag (s0 >= (f.1.length:Int)))=ae then
  ab (ae,s0,f)
 else
 if(ag (s0 > 8))=ae then
  ab (ae,s0,f)
 else
 if(ag (s0 > 0))=ae then
  (idx f.1 s0).bind λa=>
  ab (a==0,s0,f)
 else
 ab (af,s0,f)
def Zdc:Fs yb:=⟨161,[.ak 0 [],.ak 1 []],[.var (.v yI) ae,.var (.ak 2 []) ae,.var (.v Zg) ae],[yI,Zg],[⟨.ret,[(0,.v .bool)],[.var (.v yI) ae,.var (.ak 2 []) ae,.var (.v Zg) ae],[.bool,yI,Zg]⟩],λx=>Xw yD x.1 x.2⟩
theorem ZiW:Zdc.Ok:=bg { still:=[2]} [] [] trivial
def Wx(F:Nat)(s0:Ze):yO (Ze):=
 ab ([],ae)
def KY:Fs yb:=⟨162,[.ak 0 []],[.var (.v Zg) ae],[Zg],[⟨.ret,[(0,.bm [])],[.var (.v Zg) ae],[Zg]⟩],λx=>Wx yD x⟩
theorem Zdd:KY.Ok:=bg {} [] [] trivial
def XU(F:Nat)(s:(Int×Ze×Int)):yO ((Int×Ze×Int)⊕((Int×Ze×Int)⊕(Int×Ze×Int))):=
 (Xw F s.2.2 s.2.1).bind λa=>
 if a.1=ae then
  (Wx F a.2.2).bind λb=>
  ab (.inr (.inl (0,b,a.2.1)))
 else
 (idx a.2.2.1 a.2.1).bind λc=>
 if(ag (0<=wi (7*a.2.1)))=ae then
  let d:Int:=wi (((c % 128).toNat:Int)*2 ^ (min (wi (7*a.2.1)).toNat 64))
  if(ag (c < 128))=ae then
   ab (.inr (.inr (bits .or .i64 s.1 d,a.2.2,wi (a.2.1+1))))
  else
  ab (.inl (bits .or .i64 s.1 d,a.2.2,wi (a.2.1+1)))
 else
 ad
abbrev zF:List bJ:=[.var (.v Zg) ae,.var (.ak 0 []) ae,.var (.v yI) ae]
def Zew:Lp:=⟨[(1,.ak 1 []),(3,.v yI),(4,.ak 2 []),(5,.fn 161 [.ak 2 [],.ak 1 []])],zF,[yI,Zg,yI],[⟨.ret,[(2,.v yI)],zF,[yI,Zg,yI]⟩,⟨.exit 0,[(1,.ak 1 []),(3,.v yI),(4,.ak 2 [])],zF,[yI,Zg,yI]⟩],Zc (XU yD) yD⟩
theorem Zh2:Zew.cj yb 89 0:=ZQ { still:=[2,10]} [] [Zdc,KY] ⟨ZiW,Zdd,aB⟩
def ZU(F:Nat)(s0:Ze):yO ((Int×Ze)):=
 (Zc (XU F) F (0,s0,0)).bind λa=>
 match a with
 |.inl b=>
  ab (b.1,b.2.1)
 |.inr c=>
  if(dU c.2.1.1.length (ab c.2.2) ad)=ae then
   ab (c.1,(c.2.1.1.drop c.2.2.toNat,c.2.1.2))
  else
  ad
def Yn:Fs yb:=⟨89,[.ak 0 []],[.var (.v Zg) ae],[Zg],[⟨.ret,[(0,.v yI)],[.var (.v Zg) ae],[yI,Zg]⟩],λx=>ZU yD x⟩
theorem Ys:Yn.Ok:=bg { still:=[2,10]} [(0,Zew)] [] trivial ⟨Zh2,aB⟩
def XM(F:Nat)(a1:Int)(s0:Ze):yO ((aLu×Ze)):=
 if s0.2=ae then
  (Wx F s0).bind λa=>
  ab ([],a)
 else
 if(ag (a1 > (s0.1.length:Int)))=ae then
  (Wx F s0).bind λb=>
  ab ([],b)
 else
 if(dU s0.1.length ad (ab a1))=ae then
  (Yd F (s0.1.take a1.toNat)).bind λc=>
  if(dU s0.1.length (ab a1) ad)=ae then
   ab (c,(s0.1.drop a1.toNat,s0.2))
  else
  ad
 else
 ad
def Vl:Fs yb:=⟨163,[.ak 0 [],.v yI],[.var (.v Zg) ae],[yI,Zg],[⟨.ret,[(0,.v aLv)],[.var (.v Zg) ae],[aLv,Zg]⟩],λx=>XM yD x.1 x.2⟩
theorem Q0:Vl.Ok:=bg { still:=[4,19,26]} [] [KY,Wh] ⟨Zdd,VU,aB⟩
def WQ(F:Nat):(yU×aLu×Int×Int×Ze)->yO ((yU×aLu×Int×Int×Ze)⊕(yU×Ze))
 |(d,c,b,a,e)=>
 if(ag (a < b))=ae then
  (idx c a).bind λf=>
  ab (.inl ((VS d 8)|||(yan f.toNat),c,b,wi (a+1),e))
 else
 ab (.inr (d,e))
def Zex:Lp:=⟨[(3,.v .u64),(7,.v aLv),(8,.v yI),(9,.v yI)],[.var (.v Zg) ae],[.u64,aLv,yI,yI,Zg],[⟨.exit 0,[(3,.v .u64)],[.var (.v Zg) ae],[.u64,Zg]⟩],Zc (WQ yD) yD⟩
theorem Zh3:Zex.cj yb 93 0:=ZQ { still:=[2,6]} [] [] trivial
def YT(F:Nat)(s0:Ze):yO ((yU×Ze)):=
 (XM F 8 s0).bind λa=>
 (Zc (WQ F) F (0,a.1,(a.1.length:Int),0,a.2)).bind λb=>
 ab (b.1,b.2)
def Wy:Fs yb:=⟨93,[.ak 0 []],[.var (.v Zg) ae],[Zg],[⟨.ret,[(0,.v .u64)],[.var (.v Zg) ae],[.u64,Zg]⟩],λx=>YT yD x⟩
theorem Vm:Wy.Ok:=bg { still:=[2,6]} [(0,Zex)] [Vl] ⟨Q0,aB⟩ ⟨Zh3,aB⟩
abbrev dT0:Type:=(aLu×Int×Int×Int×Int×ZY×Ze×aLO×Int×Int×yU×aLH)
def ZLI:yL bJ:=[.var (.v Yc) ae,.var (.v Zg) ae,.var (.agg [.own 3 YN]) ae,.log YN 163,.var (.agg [.own 5 .u64,.v yI,.v yI,.v .u64]) ae,.log .u64 27]
abbrev tL1:yL Ty:=[aLv,yI,yI,Yc,Zg,aLR,yI,yI,.u64,aLF]
abbrev tL2:yL Ty:=[aLv,yI,yI,yI,yI,Yc,Zg,aLR,yI,yI,.u64,aLF]
def KZ:HI:={ own:=[31,35,48,51],still:=[3,10,12,19,32,38,40,44,53,57,58,59],cq:=[(5,[([0],YN,163)]),(8,[([0],.u64,27)])]}
def Xy(F:Nat):dT0->yO (dT0⊕(aLu×Int×Int×ZY×Ze×aLO×Int×Int×yU×aLH))
 |(e,f,g,b,a,h,c,i,j,k,l,d)=>
 if(ag (a < b))=ae then
  (YT F c).bind λm=>
  if(cg d.length 1 8)=ae then
   let n:aLH:=d++([m.1]:yL yU)
   ab (.inl (e,f,g,b,wi (a+1),h,m.2,i,j,k,l,n))
  else
  ad
 else
 ab (.inr (e,f,g,h,c,i,j,k,l,d))
def ZmG:Lp:=⟨[(0,.v aLv),(2,.ak 0 []),(4,.ak 1 []),(5,.ak 2 []),(6,.v yI),(7,.v yI),(8,.ak 4 []),(27,.v yI),(28,.v yI)],ZLI,tL2,[⟨.exit 2,[(0,.v aLv),(2,.ak 0 []),(4,.ak 1 []),(5,.ak 2 []),(6,.v yI),(7,.v yI),(8,.ak 4 [])],ZLI,tL1⟩],Zc (Xy yD) yD⟩
theorem ZpA:ZmG.cj yb 91 1:=ZQ KZ [] [Wy] ⟨Vm,aB⟩
def WK(F:Nat):(aLu×Int×Int×ZY×Ze×aLO)->yO ((aLu×Int×Int×ZY×Ze×aLO)⊕(aLu×ZY×Ze×aLO))
 |(k,i,h,l,j,m)=>
 if(ag (h < i))=ae then
  (ZU F j).bind λn=>
  if(h==4)=ae then
   ab (.inr (k,l,n.2,m))
  else
  if(ag (n.1 > 12))=ae then
   ab (.inr (k,l,n.2,m))
  else
  (Zc (Xy F) F (k,i,h,n.1,0,l,n.2,m,0,0,0,[])).bind λ(d,e,f,g,a,b,_,_,_,c)=>
  (ZU F a).bind λo=>
  (ZU F o.2).bind λp=>
  (YT F p.2).bind λq=>
  if(cg b.length 1 48)=ae then
   let r:aLO:=b++([(c,o.1,p.1,q.1)]:yL Z3)
   ab (.inl (d,e,wi (f+1),g,q.2,r))
  else
  ad
 else
 ab (.inr (k,l,j,m))
def ZmH:Lp:=⟨[(0,.v aLv),(2,.ak 0 []),(4,.ak 1 []),(5,.ak 2 []),(6,.v yI),(7,.v yI)],[.var (.v Yc) ae,.var (.v Zg) ae,.var (.agg [.own 3 YN]) ae,.log YN 163],[aLv,yI,yI,Yc,Zg,aLR],[⟨.exit 0,[(0,.v aLv),(2,.ak 0 []),(5,.ak 2 [])],[.var (.v Yc) ae,.var (.v Zg) ae,.var (.agg [.own 3 YN]) ae,.log YN 163],[aLv,Yc,Zg,aLR]⟩],Zc (WK yD) yD⟩
theorem ZpB:ZmH.cj yb 91 0:=ZQ KZ [(1,ZmG)] [Yn,Wy] ⟨Ys,Vm,aB⟩ ⟨ZpA,aB⟩
def ot(F:Nat)(a0:aLu):yO ((ZY×Bool)):=
 (tm F a0).bind λa=>
 (ZU F a).bind λb=>
 (Zc (WK F) F (a0,b.1,0,[],b.2,[])).bind λc=>
 (XC F c.2.2.2).bind λd=>
 if(!d)=ae then
  ab ([],af)
 else
 (pS F c.2.2.2).bind λe=>
 (ZX F e c.1).bind λf=>
 if(!f)=ae then
  ab ([],af)
 else
 ab (c.2.2.2,ae)
def Zo1:Fs yb:=⟨91,[.v aLv],[],[aLv],[⟨.ret,[(0,.bm [.v Yc,.v .bool])],[],[Yc,.bool]⟩],λx=>ot yD x⟩
theorem Zv5:Zo1.Ok:=bg KZ [(0,ZmH)] [KX,Yn,QI,xq,Zal] ⟨ZmF,Ys,sO,KB,ZeX,aB⟩ ⟨ZpB,aB⟩
def pU(F:Nat)(a0:Int)(s1:Ze):yO ((Int×Ze)):=
 (ZU F s1).bind λa=>
 if(ag (a.1 > a0))=ae then
  ab ((-1),a.2)
 else
 ab (a.1,a.2)
def LA:Fs yb:=⟨88,[.v yI,.ak 0 []],[.var (.ak 1 []) ae,.var (.v Zg) ae],[yI,Zg],[⟨.ret,[(0,.v yI)],[.var (.ak 1 []) ae,.var (.v Zg) ae],[yI,Zg]⟩],λx=>pU yD x.1 x.2⟩
theorem ZmI:LA.Ok:=bg { still:=[3,5]} [] [Yn] ⟨Ys,aB⟩
def VY(F:Nat)(s0:Ze):yO ((aLu×Ze)):=
 (XM F 32 s0).bind λa=>
 if(ag (a.1.length<=32)&&ag (0+32<=32))=ae then
  let b:aLu:=dg.take 0++(a.1++dg.drop (0+a.1.length))
  ab (b,a.2)
 else
 ad
def Zey:Fs yb:=⟨90,[.ak 0 []],[.var (.v Zg) ae],[Zg],[⟨.ret,[(0,.v aLy)],[.var (.v Zg) ae],[aLy,Zg]⟩],λx=>VY yD x⟩
theorem Zj8:Zey.Ok:=bg { still:=[5]} [] [Vl] ⟨Q0,aB⟩
abbrev zH:=Tx×Int×aLJ×aLz×aLD×aLD×Ze
def Wz(F:Nat):(Int×Int×Int×zH)->yO ((Int×Int×Int×zH)⊕(Int×zH))
 |(f,b,a,g,h,i,j,d,e,c)=>
 if(ag (a < b))=ae then
  (VY F c).bind λk=>
  (ZU F k.2).bind λl=>
  if(cg (d.length+e.length) 1 80)=ae then
   let m:aLD:=e++([((k.1,l.1),(0,[],0))]:yL In)
   ab (.inl (f,b,wi (a+1),g,h,i,()::j,d,m,l.2))
  else
  ad
 else
 ab (.inr (f,g,h,i,j,d,e,c))
def mP:yL bJ:=[.var (.v bD) ae,.var (.agg [.rw 3,.own 2 Wo,.v yI]) ae,.log Wo 79,.aR cN [1,1] ae 91,.var (.v Zg) ae,.var (.ak 4 []) ae]
abbrev tL3:yL Ty:=[yI,yI,yI,bD,yI,aLM,aLA,aLG,aLG,Zg]
def ZrE:Lp:=⟨[(2,.ak 0 []),(4,.ak 1 []),(5,.ak 5 []),(6,.fn 88 [.ak 5 []]),(7,.v yI),(20,.v yI),(21,.v yI)],mP,tL3,[⟨.exit 0,[(2,.ak 0 []),(4,.ak 1 []),(5,.ak 5 []),(6,.fn 88 [.ak 5 []]),(7,.v yI)],mP,[yI,bD,yI,aLM,aLA,aLG,aLG,Zg]⟩],Zc (Wz yD) yD⟩
def ZMH:HI:={ own:=[24,32,55,58,92,99],still:=[3,15,25,27,40,44,45,61,76,93,95,104,116,121,126],cL:=[24,32,71],cq:=[(4,[([1],Wo,79)])],lits:=[31]}
theorem Zs5:ZrE.cj yb 42 0:=ZQ ZMH [] [Zey,Yn] ⟨Zj8,Ys,aB⟩
def Vn(F:Nat)(s0:Ze):yO ((aLu×Ze)):=
 (ZU F s0).bind λa=>
 if a.2.2=ae then
  ab ([],a.2)
 else
 (XM F a.1 a.2).bind λb=>
 ab (b.1,b.2)
def Zde:Fs yb:=⟨92,[.ak 0 []],[.var (.v Zg) ae],[Zg],[⟨.ret,[(0,.v aLv)],[.var (.v Zg) ae],[aLv,Zg]⟩],λx=>Vn yD x⟩
theorem ZiY:Zde.Ok:=bg { still:=[2,4,10,11]} [] [Yn,Vl] ⟨Ys,Q0,aB⟩
def WA(F:Nat):(Int×Int×Int×Int×zH)->yO ((Int×Int×Int×Int×zH)⊕((Bool×zH)⊕(Int×Int×zH)))
 |(i,j,b,a,k,d,e,f,g,h,c)=>
 if(ag (a < b))=ae then
  (ZU F c).bind λl=>
  (Vn F l.2).bind λm=>
  (ot F m.1).bind λn=>
  if(!n.2)=ae then
   ab (.inr (.inl (af,([],[],0),d,e,f,g,h,m.2)))
  else
  if(cg e.length 1 32)=ae then
   let o:aLJ:=e++([(l.1,n.1)]:yL Out)
   ab (.inl (i,j,b,wi (a+1),k,d,o,f,g,h,m.2))
  else
  ad
 else
 ab (.inr (.inr (i,j,k,d,e,f,g,h,c)))
abbrev tL4:yL Ty:=[yI,yI,bD,yI,aLM,aLA,aLG,aLG,Zg]
abbrev tL5:yL Ty:=[yI,yI,yI,yI,bD,yI,aLM,aLA,aLG,aLG,Zg]
def ZrF:Lp:=⟨[(2,.ak 0 []),(4,.ak 1 []),(5,.ak 5 []),(6,.fn 88 [.ak 5 []]),(7,.v yI),(8,.v yI),(37,.v yI),(38,.v yI)],mP,tL5,[⟨.ret,[(2,.ak 0 []),(3,.v .bool)],mP,[.bool,bD,yI,aLM,aLA,aLG,aLG,Zg]⟩,⟨.exit 2,[(2,.ak 0 []),(4,.ak 1 []),(5,.ak 5 []),(6,.fn 88 [.ak 5 []]),(7,.v yI),(8,.v yI)],mP,tL4⟩],Zc (WA yD) yD⟩
def xF:HI:={ own:=[24,32,55,58,92,99],still:=[3,15,25,27,40,44,45,61,76,93,95,104,116,121,126],cL:=[24,32,71],cq:=[(4,[([1],Wo,79)])],gM:=[(9,[([1,0],YN,163)])],lits:=[31]}
theorem Zs6:ZrF.cj yb 42 1:=ZQ xF [] [Yn,Zde,Zo1] ⟨Ys,ZiY,Zv5,aB⟩
abbrev dT1:Type:=(Int×Int×Int×Int×Int×Int×Int×Tx×Int×aLJ×aLz×aLD×aLD×ZL×Int×yU×Ze×(yL gn))
abbrev dT2:Type:=(Int×Int×Int×Int×Int×Tx×Int×aLJ×aLz×aLD×aLD×ZL×Int×yU×Ze×(yL gn))
def WB(F:Nat):dT1->yO (dT1⊕dT2)
 |(g,h,c,i,j,b,a,k,l,m,n,d,o,p,q,r,e,f)=>
 if(ag (a < b))=ae then
  if(ag (c.toNat=d.length))=ae then
   (YT F e).bind λs=>
   (YT F s.2).bind λt=>
   if(cg f.length 1 16)=ae then
    let u:(yL gn):=f++([(s.1,t.1)]:yL gn)
    if(ag (c.toNat=d.length))=ae then
     ab (.inl (g,h,(c.toNat:Int),i,j,b,wi (a+1),k,l,m,n,d,o,p,q,r,t.2,u))
    else
    ad
   else
   ad
  else
  ad
 else
 ab (.inr (g,h,(c.toNat:Int),i,j,k,l,m,n,d,o,p,q,r,e,f))
def ZLJ:yL bJ:=[.var (.v bD) ae,.var (.agg [.rw 3,.own 2 Wo,.v yI]) ae,.log Wo 79,.bL cN [1,1] ae 91 (.agg [.v ZO,.agg [.v yI,.own 6 hP,.v .u64]]),.var (.v Zg) ae,.var (.ak 4 []) ae,.log hP 117]
abbrev tL6:yL Ty:=[yI,yI,yI,yI,yI,bD,yI,aLM,aLA,aLG,aLG,ZO,yI,.u64,Zg,(.sl hP)]
abbrev tL7:yL Ty:=[yI,yI,yI,yI,yI,yI,yI,bD,yI,aLM,aLA,aLG,aLG,ZO,yI,.u64,Zg,(.sl hP)]
def ZrG:Lp:=⟨[(2,.ak 0 []),(4,.ak 1 []),(5,.ak 5 []),(6,.fn 88 [.ak 5 []]),(7,.v yI),(8,.v yI),(13,.rp 3 36 [.gf 1 33]),(66,.v yI),(67,.v yI),(85,.v yI),(86,.v yI)],ZLJ,tL7,[⟨.exit 6,[(2,.ak 0 []),(4,.ak 1 []),(5,.ak 5 []),(6,.fn 88 [.ak 5 []]),(7,.v yI),(8,.v yI),(13,.rp 3 36 [.gf 1 33]),(66,.v yI),(67,.v yI)],ZLJ,tL6⟩],Zc (WB yD) yD⟩
theorem Zs7:ZrG.cj yb 42 3:=ZQ xF [] [Wy] ⟨Vm,aB⟩
def WC(F:Nat):(Int×Int×Int×Int×zH)->yO ((Int×Int×Int×Int×zH)⊕((Bool×zH)⊕(Int×Int×zH)))
 |(y,z,q,p,A,v,w,x,r,t,u)=>
 if(ag (p < q))=ae then
  if(ag (p=(r.length:Int)))=ae then
   wr t λE G=>
    if(bp p (r.length+(G.length+1)))=ae then
     (ZU F u).bind λs=>
     if(ag (p.toNat=r.length))=ae then
      (pU F 12 s.2).bind λB=>
      if(ag (B.1 < 0))=ae then
       ab (.inr (.inl (af,([],[],0),v,w,x,r++([(E.1,(s.1,[],E.2.2.2))]:yL In),G,B.2)))
      else
      (Zc (WB F) F (y,z,(p.toNat:Int),q,p,B.1,0,A,v,w,x,r,G,E.1,s.1,E.2.2.2,B.2,[])).bind λ(d,e,b,f,g,h,i,j,k,c,o,l,m,_,a,n)=>
      (YT F a).bind λC=>
      if(ag (b.toNat=c.length))=ae then
       ab (.inl (d,e,f,wi (g+1),h,i,j,k,c++([(l,(m,n,C.1))]:yL In),o,C.2))
      else
      ad
     else
     ad
    else
    ad
  else
  ad
 else
 ab (.inr (.inr (y,z,A,v,w,x,r,t,u)))
def ZrH:Lp:=⟨[(2,.ak 0 []),(4,.ak 1 []),(5,.ak 5 []),(6,.fn 88 [.ak 5 []]),(7,.v yI),(8,.v yI),(66,.v yI),(67,.v yI)],mP,tL5,[⟨.ret,[(2,.ak 0 []),(3,.v .bool)],mP,[.bool,bD,yI,aLM,aLA,aLG,aLG,Zg]⟩,⟨.exit 4,[(2,.ak 0 []),(4,.ak 1 []),(5,.ak 5 []),(7,.v yI),(8,.v yI)],mP,tL4⟩],Zc (WC yD) yD⟩
theorem Zs8:ZrH.cj yb 42 2:=IL (fi:={ hi:=xF,lp:=[(3,ZrG)],gh:=[(4,.focus 12 hP 117)]}) (aJ:={ l:=[Yn,LA,Wy]}) (mG ⟨Ys,ZmI,Vm,aB⟩) ⟨Zs7,aB⟩
def xG(F:Nat)(s0:Ze):yO ((Bool×Ze)):=
 ab (!s0.2,s0)
def Zgt:Fs yb:=⟨94,[.ak 0 []],[.var (.v Zg) ae],[Zg],[⟨.ret,[(0,.v .bool)],[.var (.v Zg) ae],[.bool,Zg]⟩],λx=>xG yD x⟩
theorem ZmJ:Zgt.Ok:=bg { still:=[2]} [] [] trivial
def VZ(F:Nat)(s0:Ze):yO ((Int×Ze)):=
 ab ((s0.1.length:Int),s0)
def Zez:Fs yb:=⟨95,[.ak 0 []],[.var (.v Zg) ae],[Zg],[⟨.ret,[(0,.v yI)],[.var (.v Zg) ae],[yI,Zg]⟩],λx=>VZ yD x⟩
theorem Zj9:Zez.Ok:=bg { still:=[2]} [] [] trivial
def ov(F:Nat)(a0:aLu):yO ((Tx×Bool)):=
 (tm F a0).bind λs=>
 (pU F 64 s).bind λy=>
 (Zc (Wz F) F (y.1,y.1,0,([],[],0),0,[],[],[],[],y.2)).bind λ(q,r,t,u,v,w,x,p)=>
 (pU F 64 p).bind λz=>
 (Zc (WA F) F (q,z.1,z.1,0,r,t,u,v,w,x,z.2)).bind λA=>
 match A with
 |.inl (b,a,_,_,_,_,_,_)=>
  ab (a,b)
 |.inr (k,l,m,_,n,o,i,j,h)=>
  (ZU F h).bind λB=>
  let C:Int:=(((i.length+j.length):Nat):Int)
  (Zc (WC F) F (k,l,C,0,m,B.1,n,o,i,j,B.2)).bind λD=>
  match D with
  |.inl (b,a,_,_,_,_,_,_)=>
   ab (a,b)
  |.inr (b,c,_,g,f,_,e,a,d)=>
   if a.isEmpty=ae then
    if(ag (b < 0))=ae then
     ab (([],[],0),af)
    else
    if(ag (c < 0))=ae then
     ab (([],[],0),af)
    else
    (xG F d).bind λE=>
    if(!E.1)=ae then
     ab (([],[],0),af)
    else
    (VZ F E.2).bind λG=>
    if(ag (G.1 > 0))=ae then
     ab (([],[],0),af)
    else
    (QL F (e,f,g)).bind λH=>
    if(!H)=ae then
     ab (([],[],0),af)
    else
    ab ((e,f,g),ae)
   else
   ad
def Zug:Fs yb:=⟨42,[.v aLv],[],[aLv],[⟨.ret,[(0,.bm [.v bD,.v .bool])],[],[bD,.bool]⟩],λx=>ov yD x⟩
theorem ZAu:Zug.Ok:=sB (fi:={ hi:=xF,lp:=[(0,ZrE),(1,ZrF),(2,ZrH)],gh:=[(2,.rows 4 [0] cN 91 [1,1]),(41,.done 4)]}) (aJ:={ l:=[KX,LA,Yn,Zgt,Zez,sQ]}) (mG ⟨ZmF,ZmI,Ys,ZmJ,Zj9,wS,aB⟩) ⟨Zs5,Zs6,Zs8,aB⟩
def xH(F:Nat):(aLu×aLD×Int×Int×(yL gn)×Int×Int×Tx×In)->yO ((aLu×aLD×Int×Int×(yL gn)×Int×Int×Tx×In)⊕(aLu×aLD×Int×Int×Tx×In))
 |(d,e,f,g,c,b,a,h,i)=>
 if(ag (a < b))=ae then
  (idx c a).bind λj=>
  (Ww F d j.1).bind λk=>
  (Ww F k j.2).bind λl=>
  ab (.inl (l,e,f,g,c,b,wi (a+1),h,i))
 else
 ab (.inr (d,e,f,g,h,i))
def Zo2:Lp:=⟨[(3,.v aLv),(5,.ak 1 []),(14,.v aLG),(15,.v yI),(16,.v yI),(32,.v (.sl hP)),(33,.v yI),(34,.v yI)],[.var (.v bD) ae,.var (.v cN) ae],[aLv,aLG,yI,yI,(.sl hP),yI,yI,bD,cN],[⟨.exit 2,[(3,.v aLv),(5,.ak 1 []),(14,.v aLG),(15,.v yI),(16,.v yI)],[.var (.v bD) ae,.var (.v cN) ae],[aLv,aLG,yI,yI,bD,cN]⟩],Zc (xH yD) yD⟩
def LB:HI:={ still:=[2,8,11,20,23,24,28,38,40,41,43,46,49]}
theorem ZrI:Zo2.cj yb 43 1:=ZQ LB [] [sZ] ⟨xn,aB⟩
def xI(F:Nat):(aLu×aLD×Int×Int×Tx)->yO ((aLu×aLD×Int×Int×Tx)⊕(aLu×Tx))
 |(j,i,h,g,k)=>
 if(ag (g < h))=ae then
  (idx i g).bind λl=>
  (XL F j l.2.1).bind λm=>
  (XL F m (l.2.2.1.length:Int)).bind λn=>
  (Zc (xH F) F (n,i,h,g,l.2.2.1,(l.2.2.1.length:Int),0,k,l)).bind λ(a,c,d,e,f,b)=>
  (Ww F a b.2.2.2).bind λo=>
  ab (.inl (o,c,d,wi (e+1),f))
 else
 ab (.inr (j,k))
def Zo3:Lp:=⟨[(3,.v aLv),(14,.v aLG),(15,.v yI),(16,.v yI)],[.var (.v bD) ae],[aLv,aLG,yI,yI,bD],[⟨.exit 0,[(3,.v aLv)],[.var (.v bD) ae],[aLv,bD]⟩],Zc (xI yD) yD⟩
theorem ZrJ:Zo3.cj yb 43 0:=ZQ LB [(1,Zo2)] [oq,sZ] ⟨pR,xn,aB⟩ ⟨ZrI,aB⟩
def pV(F:Nat)(a0:Tx):yO (aLu):=
 (QL F a0).bind λa=>
 if(!a)=ae then
  ab []
 else
 (ta F a0).bind λb=>
 (Zc (xI F) F (b,a0.1,(a0.1.length:Int),0,a0)).bind λc=>
 ab c.1
def ZrK:Fs yb:=⟨43,[.v bD],[],[bD],(zN aLv),λx=>pV yD x⟩
theorem Zyr:ZrK.Ok:=bg LB [(0,Zo3)] [sQ,KD] ⟨wS,ZoY,aB⟩ ⟨ZrJ,aB⟩
def XQ(F:Nat):(aLC×Int×Chan×yG×aLL×Chan×yG×Tx×aLC×yG)->yO ((aLC×Int×Chan×yG×aLL×Chan×yG×Tx×aLC×yG)⊕((Int×Chan×yG×aLL×Chan×yG×Tx×aLC×yG)⊕(Chan×yG×aLL×Chan×yG×Tx×aLC×yG)))
 |(b,a,d,e,f,g,h,i,j,c)=>
 if(ag (a < 2))=ae then
  (idx b a).bind λk=>
  if(ag (k < 0))=ae then
   if(bp a 2)=ae then
    (c.2.1[a.toNat]?).bind λl=>
    if(bp (wi (1 - a)) 2)=ae then
     (d.2.2.2.1[(wi (1 - a)).toNat]?).bind λm=>
     if(ag (l < m.2.1))=ae then
      ab (.inr (.inl (10,d,e,f,g,h,i,j,c)))
     else
     ab (.inl (b,wi (a+1),d,e,f,g,h,i,j,c))
    else
    ad
   else
   ad
  else
  ab (.inl (b,wi (a+1),d,e,f,g,h,i,j,c))
 else
 ab (.inr (.inr (d,e,f,g,h,i,j,c)))
def LC:yL bJ:=[.var (.v Zi) ae,.var (.v Zb) ae,.var (.v aLB) ae,.var (.v Zi) ae,.var (.v Zb) ae,.var (.v bD) ae,.var (.v aLI) ae,.var (.v Zb) ae]
abbrev tL8:yL Ty:=[yI,Zi,Zb,aLB,Zi,Zb,bD,aLI,Zb]
abbrev tL9:yL Ty:=[aLI,yI,Zi,Zb,aLB,Zi,Zb,bD,aLI,Zb]
def ZiZ:Lp:=⟨[(3,.ak 0 []),(5,.ak 2 []),(6,.ak 3 []),(7,.ak 4 []),(8,.ak 5 []),(11,.ak 6 []),(13,.ak 7 []),(62,.v aLI),(63,.v yI)],LC,tL9,[⟨.ret,[(6,.ak 3 []),(7,.ak 4 []),(8,.ak 5 []),(9,.v yI)],LC,tL8⟩,⟨.exit 0,[(3,.ak 0 []),(5,.ak 2 []),(6,.ak 3 []),(7,.ak 4 []),(8,.ak 5 []),(11,.ak 6 []),(13,.ak 7 [])],LC,[Zi,Zb,aLB,Zi,Zb,bD,aLI,Zb]⟩],Zc (XQ yD) yD⟩
def xJ:HI:={ own:=[106,112,126,131,135,138],still:=[9,23,31,32,39,48,49,96,97,109,142,143,152]}
theorem ZmK:ZiZ.cj yb 10 0:=ZQ xJ [] [] trivial
abbrev dT3:Type:=(Chan×yG×aLL×Chan×yG×Tx×aLC×yG×Chan×aLD×aLJ×Int)
end
end Go.Proofs.YtcbhhaigilifgaaGreat
end
section
set_option maxRecDepth 10000
namespace Go.Proofs.YtcbhhaigilifgaaGreat
open Go Go.Ev
noncomputable section
theorem ZLK{ops:Array Oper}{n:Nat}(hn:ops.size=n)(h:((yo n).all λi=>(yo n).all λj=>aT ops.toList i==ad || !(aT ops.toList i==aT ops.toList j) || decide (i=j))=ae):
 ∀i j,i < ops.size->j < ops.size->aT ops.toList i≠ad->aT ops.toList i=aT ops.toList j->i=j:=by
 rw[hn];intro i j f g;have l:=yal.1 (yal.1 h i (ybq.2 f)) j (ybq.2 g)
 all_goals grind
abbrev xK(f:ZL):In:=(f,(0,[],0))
abbrev tn(m:Int)(l:ZY):Out:=(m,l)
abbrev ZLL(c:Chan)(m:Int):Chan:=(c.1,m,c.2.2)
noncomputable def LD:Pl:=match bf yb 91 with|.p (.agg [_,w])=>w|_=>default
noncomputable def LF(f:ZL):Pl:=.agg [ZO.enc f,LD]
theorem ZBN(f:ZL):bI (LF f) (cN.enc (xK f)):=by
 have h:LD.soft=wR.enc ((0,[],0):mM):=by kernel_rfl
 exact bI.jx (bi.cons (bI.refl _) (bi.cons (h ▸ lX LD) bi.nil))
noncomputable def ltZ:yL Pl:=match bf yb 49 with|.p (.agg z)=>z|_=>[]
theorem ZF0{g:FuncId}{M:Ty.aO [Zi]->yO (cv.sum (zN Yc))}(h:Fs.Ok (⟨g,[.v Zi],[],[Zi],(zN Yc),M⟩:Fs yb)){a:Chan}{l:ZY}(hM:M a=ab l):
 ca yb g [.p (Zi.enc a)] [] (.p (Yc.enc l)) []:=by
 obtain⟨m,R,H,f,y,z⟩:=h a l hM;have j:Sh.fills [.v Zi] (dB [Zi] a)=ab ([.p (.v Zi a)],[]):=by kernel_rfl
 have f:=j.symm.trans f;cases f;cases y;obtain⟨r,A,E⟩:=z _ _ ([.p (.v Yc l)],[]) ⟨rfl,rfl⟩ (by kernel_rfl);cases A;exact E
theorem ZIs{ops:Array Oper}{X:Nat->Bool}(hc:jC ops X){i j:Nat}(hi:i < ops.size)(he:bT (ba ops i) j=ae)(g:X j=af):X i=af:=by
 cases h:X i with
 |false=>rfl
 |true=>
  have l:ops[i]? =ab (ba ops i):=by
   unfold ba;simp_all
  unfold bT at he;obtain⟨x,m,f⟩:=Array.any_eq_true'.1 he;simp only[yi,yT]at f;have:=hc i _ l h x m f.2;rw[f.1,g]at this;cases this
noncomputable def jX:Array Oper:=match io (ZR yb 10) 29 with|.region _ ops _=>ops|_=> #[]
noncomputable def ZMI:Nat:=match io (ZR yb 10) 29 with|.region id _ _=>id|_=>0
theorem ZIt:io (ZR yb 10) 29=.region ZMI jX ae:=by kernel_rfl
theorem tp:jX.size=13:=by kernel_rfl
noncomputable def ow(a:Chan)(c2:Chan)(l:ZY)(m:Int)(e1 e2 f e4 e5 g h:aq):Nat->Dv
 |0=>.ak 0 0 [0]
 |1=>.p (ZO.enc a.1)
 |2=>.p (LF a.1)
 |3=>.own 9 ad cN.size [cN.enc (xK a.1)]
 |4=>.ak 8 33 [1]
 |5=>.p (.int .i64 m)
 |6=>.p (Zi.enc a)
 |7=>.p (Yc.enc l)
 |8=>.p (Wo.enc (tn m l))
 |9=>.own 10 ad Wo.size [Wo.enc (tn m l)]
 |10=>.agg [.own 9 ad cN.size [cN.enc (xK a.1)],.own 10 ad Wo.size [Wo.enc (tn m l)],.p (.int .i64 0)]
 |11=>.ak 11 0 []
 |_=>.an
noncomputable def jY(a:Chan)(c2:Chan)(l:ZY)(m:Int)(e1 e2 h e4 e5 j y:aq)(z A f g:Bool):yL aq:=aq.var (.p (Zi.enc a)) ae::e1::e2::h::e4::e5::j::y::aq.var (.p (Zi.enc (ZLL c2 m))) ae::(match z with|true=>aq.log cN.size 91 [cN.enc (xK a.1)]|false=>.gone)::(match A with|true=>aq.log Wo.size 79 [Wo.enc (tn m l)]|false=>.gone)::(match g with|true=>aq.var (ow a c2 l m e1 e2 h e4 e5 j y 10) ae|false=>(match f with|true=>aq.var (bf yb 49) ae|false=>.gone))::[]
noncomputable def LG(a:Chan)(c2:Chan)(l:ZY)(m:Int)(e1 e2 f e4 e5 g h:aq):yL aq:=aq.var (.p (Zi.enc a)) ae::e1::e2::f::e4::e5::g::h::aq.var (.p (Zi.enc (ZLL c2 m))) ae::[]
noncomputable def fF(a:Chan)(c2:Chan)(l:ZY)(m:Int)(e1 e2 f e4 e5 g h:aq)(X:Nat->Bool):yL aq:=jY a c2 l m e1 e2 f e4 e5 g h (X 3) (X 9) (X 11) (X 12)
theorem lE(a:Chan)(c2:Chan)(l:ZY)(m:Int)(e1 e2 f e4 e5 g h:aq){X:Nat->Bool}{i:Nat}(h1:3≠i)(h2:9≠i)(h3:11≠i)(h4:12≠i):fF a c2 l m e1 e2 f e4 e5 g h (λj=>X j || decide (j=i))=fF a c2 l m e1 e2 f e4 e5 g h X:=by
 unfold fF;grind
noncomputable def LH:Nat->yL Nat×yL Nat
 |0=>([],[3])
 |1=>([0],[])
 |2=>([1],[])
 |3=>([2],[])
 |4=>([],[16])
 |5=>([4],[])
 |6=>([],[3])
 |7=>([6],[])
 |8=>([5,7],[])
 |9=>([8],[])
 |10=>([3,9],[])
 |11=>([],[])
 |12=>([10,11],[])
 |_=>([],[])
noncomputable def oz(a:Chan)(c2:Chan)(l:ZY)(m:Int)(e1 e2 f e4 e5 g h:aq):yL Dv:=((yo 160).map λs=>match s with|3=>.ak 0 0 []|5=>.ak 2 0 []|6=>.ak 3 0 []|7=>.ak 4 0 []|8=>.ak 5 0 []|13=>.ak 7 0 []|16=>.ak 8 0 []|_=>Dv.an)
noncomputable def ZLM(a:Chan)(c2:Chan)(l:ZY)(m:Int)(e1 e2 f e4 e5 g h:aq):yL Dv:=dq (oz a c2 l m e1 e2 f e4 e5 g h).length (aT jX.toList) (ow a c2 l m e1 e2 f e4 e5 g h) (oz a c2 l m e1 e2 f e4 e5 g h) [11] [5,6,7,8,13,16]
abbrev iN(a:Chan)(c2:Chan)(l:ZY)(m:Int)(e1 e2 f e4 e5 g h:aq)(i:Nat):Prop:=∀X:Nat->Bool,X i=af->(∀j,bT (ba jX i) j=ae->X j=ae)->jC jX X->∀(J':Sg)(y:Act),Ok J'->J'.H=fF a c2 l m e1 e2 f e4 e5 g h X->
 aC J' (dq (oz a c2 l m e1 e2 f e4 e5 g h).length (aT jX.toList) (ow a c2 l m e1 e2 f e4 e5 g h) (oz a c2 l m e1 e2 f e4 e5 g h) (LH i).1 (LH i).2) y->YD yb (ba jX i) y J' (ow a c2 l m e1 e2 f e4 e5 g h i) (fF a c2 l m e1 e2 f e4 e5 g h (λj=>X j || decide (j=i)))
theorem ZLN(a:Chan)(c2:Chan)(l:ZY)(m:Int)(e1 e2 f e4 e5 g h:aq):iN a c2 l m e1 e2 f e4 e5 g h 0:=by
 intro X A E F J' G y j z;rw[lE a c2 l m e1 e2 f e4 e5 g h (by decide) (by decide) (by decide) (by decide), <-j];exact Yl (hs:=[]) (C:=[]) (hs':=[]) y z (by rw[j];kernel_rfl) trivial
theorem ZLO(a:Chan)(c2:Chan)(l:ZY)(m:Int)(e1 e2 f e4 e5 g h:aq):iN a c2 l m e1 e2 f e4 e5 g h 1:=by
 intro X A E F J' G y j z;rw[lE a c2 l m e1 e2 f e4 e5 g h (by decide) (by decide) (by decide) (by decide), <-j];exact Yl (hs:=[]) (C:=[(0:Nat)=0]) (hs':=[]) y z (by rw[j];kernel_rfl) ⟨rfl,aB⟩
theorem ZLP(a:Chan)(c2:Chan)(l:ZY)(m:Int)(e1 e2 f e4 e5 g h:aq):iN a c2 l m e1 e2 f e4 e5 g h 2:=by
 intro X A E F J' G y j z;rw[lE a c2 l m e1 e2 f e4 e5 g h (by decide) (by decide) (by decide) (by decide), <-j];exact Yl (hs:=[]) (C:=[]) (hs':=[]) y z (by rw[j];kernel_rfl) trivial
theorem ZLQ(a:Chan)(c2:Chan)(l:ZY)(m:Int)(e1 e2 g e4 e5 y z:aq):iN a c2 l m e1 e2 g e4 e5 y z 3:=by
 intro X G S T J' U I E M;have Q:fF a c2 l m e1 e2 g e4 e5 y z X=jY a c2 l m e1 e2 g e4 e5 y z af (X 9) (X 11) (X 12):=by unfold fF;rw[G]
 have R:fF a c2 l m e1 e2 g e4 e5 y z (λj=>X j || decide (j=3))=jY a c2 l m e1 e2 g e4 e5 y z ae (X 9) (X 11) (X 12):=by
  unfold fF;grind
 rw[R];rw[Q]at E
 obtain⟨A,F⟩:∃A,yb.info? 91=ab A:=by
  cases h:yb.info? 91 with
  |none=>have:=(by kernel_rfl:(yb.info? 91).isSome=ae);rw[h]at this;cases this
  |some A=>exact⟨A,rfl⟩
 have f:(yb.info? 91).map (λi=>(cu i,i.size))=ab (ae,cN.size):=by kernel_rfl
 rw[F]at f;simp only[yae,yn,yq]at f;have h:=CD (P:=yb) (o:=ba jX 3) (t:=47) (e:=91) (i:=A) (len:=1) (id:=9) (parts:= #[(0,.tmp 105)]) (xs:=[LF a.1]) I M (by rw[E];kernel_rfl) (by kernel_rfl) (by kernel_rfl) F f.1 (by rw[f.2];decide) (by rw[f.2];decide) (by kernel_rfl);rw[f.2,E]at h;exact Ve (Ve h (Wk.jB (bi.cons (ZBN a.1) bi.nil)) (bX.bE _ _ (.log (bi.cons (ZBN a.1) bi.nil)))) (Wk.refl _) (bX.of_eq (by kernel_rfl))
theorem ZLR(a:Chan)(c2:Chan)(l:ZY)(m:Int)(e1 e2 f e4 e5 g h:aq):iN a c2 l m e1 e2 f e4 e5 g h 4:=by
 intro X A E F J' G y j z;rw[lE a c2 l m e1 e2 f e4 e5 g h (by decide) (by decide) (by decide) (by decide), <-j];exact Yl (hs:=[]) (C:=[]) (hs':=[]) y z (by rw[j];kernel_rfl) trivial
theorem ZLS(a:Chan)(c2:Chan)(l:ZY)(m:Int)(e1 e2 f e4 e5 g h:aq):iN a c2 l m e1 e2 f e4 e5 g h 5:=by
 intro X A E F J' G y j z;rw[lE a c2 l m e1 e2 f e4 e5 g h (by decide) (by decide) (by decide) (by decide), <-j];exact Yl (hs:=[]) (C:=[(33:Nat)=33]) (hs':=[]) y z (by rw[j];kernel_rfl) ⟨rfl,aB⟩
theorem ZLT(a:Chan)(c2:Chan)(l:ZY)(m:Int)(e1 e2 f e4 e5 g h:aq):iN a c2 l m e1 e2 f e4 e5 g h 6:=by
 intro X A E F J' G y j z;rw[lE a c2 l m e1 e2 f e4 e5 g h (by decide) (by decide) (by decide) (by decide), <-j];exact Yl (hs:=[]) (C:=[(0:Nat)=0]) (hs':=[]) y z (by rw[j];kernel_rfl) ⟨rfl,aB⟩
theorem ZLU(a:Chan)(c2:Chan)(l:ZY)(m:Int)(e1 e2 f e4 e5 g h:aq)(y:ca yb 23 [.p (Zi.enc a)] [] (.p (Yc.enc l)) []):iN a c2 l m e1 e2 f e4 e5 g h 7:=by
 intro X E F G J' I z j A;rw[lE a c2 l m e1 e2 f e4 e5 g h (by decide) (by decide) (by decide) (by decide), <-j];exact Yl (hs:=[.call (.p (Yc.enc l)) [] []]) (C:=[ca yb 23 [.p (Zi.enc a)] [] (.p (Yc.enc l)) []]) (hs':=[]) z A (by rw[j];kernel_rfl) ⟨y,aB⟩
theorem ZLV(a:Chan)(c2:Chan)(l:ZY)(m:Int)(e1 e2 f e4 e5 g h:aq):iN a c2 l m e1 e2 f e4 e5 g h 8:=by
 intro X A E F J' G y j z;rw[lE a c2 l m e1 e2 f e4 e5 g h (by decide) (by decide) (by decide) (by decide), <-j];exact Yl (hs:=[]) (C:=[]) (hs':=[]) y z (by rw[j];kernel_rfl) trivial
theorem ZLW(a:Chan)(c2:Chan)(l:ZY)(m:Int)(e1 e2 g e4 e5 y z:aq):iN a c2 l m e1 e2 g e4 e5 y z 9:=by
 intro X G S T J' U I E M;have Q:fF a c2 l m e1 e2 g e4 e5 y z X=jY a c2 l m e1 e2 g e4 e5 y z (X 3) af (X 11) (X 12):=by unfold fF;rw[G]
 have R:fF a c2 l m e1 e2 g e4 e5 y z (λj=>X j || decide (j=9))=jY a c2 l m e1 e2 g e4 e5 y z (X 3) ae (X 11) (X 12):=by
  unfold fF;grind
 rw[R];rw[Q]at E
 obtain⟨A,F⟩:∃A,yb.info? 79=ab A:=by
  cases h:yb.info? 79 with
  |none=>have:=(by kernel_rfl:(yb.info? 79).isSome=ae);rw[h]at this;cases this
  |some A=>exact⟨A,rfl⟩
 have f:(yb.info? 79).map (λi=>(cu i,i.size))=ab (ae,Wo.size):=by kernel_rfl
 rw[F]at f;simp only[yae,yn,yq]at f;have h:=CD (P:=yb) (o:=ba jX 9) (t:=41) (e:=79) (i:=A) (len:=1) (id:=10) (parts:= #[(0,.tmp 111)]) (xs:=[Wo.enc (tn m l)]) I M (by rw[E];kernel_rfl) (by kernel_rfl) (by kernel_rfl) F f.1 (by rw[f.2];decide) (by rw[f.2];decide) (by kernel_rfl);rw[f.2,E]at h;exact Ve (Ve h (Wk.jB (bi.refl _)) (bX.bE _ _ (.log (bi.refl _)))) (Wk.refl _) (bX.of_eq (by kernel_rfl))
theorem ZKM(a:Chan)(c2:Chan)(l:ZY)(m:Int)(e1 e2 f e4 e5 g h:aq):iN a c2 l m e1 e2 f e4 e5 g h 10:=by
 intro X A E F J' G j y z;rw[lE a c2 l m e1 e2 f e4 e5 g h (by decide) (by decide) (by decide) (by decide), <-y];exact Zxd (P:=yb) (zs:=ltZ) j z (parts:= #[(0,.tmp 106),(1,.tmp 112)]) (by kernel_rfl) Tryz.underlying49 (by kernel_rfl) (by kernel_rfl) (by kernel_rfl)
theorem ZKN(a:Chan)(c2:Chan)(l:ZY)(m:Int)(e1 e2 f e4 e5 g y:aq):iN a c2 l m e1 e2 f e4 e5 g y 11:=by
 intro X E T I J' M Q A U;have hs:X 12=af:=ZIs I (i:=12) (j:=11) (by rw[tp];decide) (by kernel_rfl) E;have R:fF a c2 l m e1 e2 f e4 e5 g y X=jY a c2 l m e1 e2 f e4 e5 g y (X 3) (X 9) af af:=by unfold fF;rw[E,hs]
 have S:fF a c2 l m e1 e2 f e4 e5 g y (λj=>X j || decide (j=11))=jY a c2 l m e1 e2 f e4 e5 g y (X 3) (X 9) ae af:=by
  unfold fF;grind
 rw[S];rw[R]at A
 obtain⟨z,F⟩:∃z,yb.info? 49=ab z:=by
  cases h:yb.info? 49 with
  |none=>have:=(by kernel_rfl:(yb.info? 49).isSome=ae);rw[h]at this;cases this
  |some z=>exact⟨z,rfl⟩
 have G:(yb.info? 49).map (λi=>i.zero.isSome)=ab ae:=by kernel_rfl
 rw[F]at G;have h:=BJ (P:=yb) (o:=ba jX 11) (a:=M) (t:=49) (i:=z) (id:=11) Q (by rw[A];kernel_rfl) (by kernel_rfl) F (by simpa using G) (by kernel_rfl) (by kernel_rfl);rw[A]at h;exact Ve h (Wk.refl _) (bX.of_eq (by kernel_rfl))
theorem ZKO(a:Chan)(c2:Chan)(l:ZY)(m:Int)(e1 e2 f e4 e5 g z:aq):iN a c2 l m e1 e2 f e4 e5 g z 12:=by
 intro X F A U J' W G E I;have M:=A 3 (by kernel_rfl);have Q:=A 9 (by kernel_rfl);have R:=A 11 (by kernel_rfl);have S:fF a c2 l m e1 e2 f e4 e5 g z X=jY a c2 l m e1 e2 f e4 e5 g z ae ae ae af:=by unfold fF;rw[F,M,Q,R]
 have T:fF a c2 l m e1 e2 f e4 e5 g z (λj=>X j || decide (j=12))=jY a c2 l m e1 e2 f e4 e5 g z ae ae ae ae:=by
  unfold fF;grind
 rw[T];rw[S]at E;have h:=vh (P:=yb) (o:=ba jX 12) (t:=49) (x:=.tmp 17) (y:=.tmp 113) (id:=11) (off:=0) (yQ:=[]) (dd:=bf yb 49) (sub:=bf yb 49) (new:=ow a c2 l m e1 e2 f e4 e5 g z 10) (dd':=ow a c2 l m e1 e2 f e4 e5 g z 10) (C1:=[]) (off':=0) (hs:=[]) (hs':=[]) G I (by kernel_rfl) (by kernel_rfl) (by rw[E];kernel_rfl) (by kernel_rfl) trivial rfl (by kernel_rfl) (by kernel_rfl) (by kernel_rfl) (by kernel_rfl) (by kernel_rfl) (by kernel_rfl);rw[E]at h;exact Ve h (Wk.refl _) (bX.of_eq (by kernel_rfl))
theorem ZIu(a:Chan)(c2:Chan)(l:ZY)(m:Int)(e1 e2 f e4 e5 g j:aq)(z:ca yb 23 [.p (Zi.enc a)] [] (.p (Yc.enc l)) []):Xn yb (io (ZR yb 10) 29) (oz a c2 l m e1 e2 f e4 e5 g j) (LG a c2 l m e1 e2 f e4 e5 g j) .normal (ZLM a c2 l m e1 e2 f e4 e5 g j) (jY a c2 l m e1 e2 f e4 e5 g j ae ae ae ae):=by
 rw[ZIt];refine CE (k:=3) (ts:=oz a c2 l m e1 e2 f e4 e5 g j) (H0:=LG a c2 l m e1 e2 f e4 e5 g j) (by kernel_rfl) (ow a c2 l m e1 e2 f e4 e5 g j) (fF a c2 l m e1 e2 f e4 e5 g j) LH (ZLK tp (by kernel_rfl)) (by kernel_rfl) (by rw[tp];kernel_rfl) (by kernel_rfl) (λX A=> ?_) [11] [5,6,7,8,13,16] (by kernel_rfl) (by kernel_rfl) (λi y=> ?_)
 .unfold fF;rw[tp]at A;grind
 .rw[tp]at y
  match i,y with
  |0,_=>exact ZLN a c2 l m e1 e2 f e4 e5 g j
  |1,_=>exact ZLO a c2 l m e1 e2 f e4 e5 g j
  |2,_=>exact ZLP a c2 l m e1 e2 f e4 e5 g j
  |3,_=>exact ZLQ a c2 l m e1 e2 f e4 e5 g j
  |4,_=>exact ZLR a c2 l m e1 e2 f e4 e5 g j
  |5,_=>exact ZLS a c2 l m e1 e2 f e4 e5 g j
  |6,_=>exact ZLT a c2 l m e1 e2 f e4 e5 g j
  |7,_=>exact ZLU a c2 l m e1 e2 f e4 e5 g j z
  |8,_=>exact ZLV a c2 l m e1 e2 f e4 e5 g j
  |9,_=>exact ZLW a c2 l m e1 e2 f e4 e5 g j
  |10,_=>exact ZKM a c2 l m e1 e2 f e4 e5 g j
  |11,_=>exact ZKN a c2 l m e1 e2 f e4 e5 g j
  |12,_=>exact ZKO a c2 l m e1 e2 f e4 e5 g j
  |_+13,h=>exact absurd h (by omega)
end
end Go.Proofs.YtcbhhaigilifgaaGreat
end
section
set_option maxRecDepth 4000
namespace Go.Proofs.YtcbhhaigilifgaaGreat
open Go Go.Ev
noncomputable section
def LI(F:Nat):(Chan×yG×aLL×Chan×yG×Tx×aLC×yG×Chan)->yO dT3
 |(a,b,c,d,e,f,g,h,i)=>
 (VA F a).bind λj=>
 ab (a,b,c,d,e,f,g,h,i,[(a.1,(0,[],0))],[(i.2.1,j)],0)
def LJ:yL bJ:=[.var (.v Zi) ae,.var (.v Zb) ae,.var (.v aLB) ae,.var (.v Zi) ae,.var (.v Zb) ae,.var (.v bD) ae,.var (.v aLI) ae,.var (.v Zb) ae,.var (.v Zi) ae,.log cN 91,.log Wo 79,.var (.agg [.own 9 cN,.own 10 Wo,.v yI]) ae]
abbrev ZLX:yL Ty:=[Zi,Zb,aLB,Zi,Zb,bD,aLI,Zb,Zi,aLG,aLM,yI]
def ZMJ:yL bJ:=[.var (.v Zi) ae,.var (.v Zb) ae,.var (.v aLB) ae,.var (.v Zi) ae,.var (.v Zb) ae,.var (.v bD) ae,.var (.v aLI) ae,.var (.v Zb) ae,.var (.v Zi) ae]
def Zi1:Lp:=⟨[(3,.ak 0 []),(5,.ak 2 []),(6,.ak 3 []),(7,.ak 4 []),(8,.ak 5 []),(13,.ak 7 []),(16,.ak 8 [])],ZMJ,[Zi,Zb,aLB,Zi,Zb,bD,aLI,Zb,Zi],[⟨.normal,[(5,.ak 2 []),(6,.ak 3 []),(7,.ak 4 []),(8,.ak 5 []),(13,.ak 7 []),(16,.ak 8 []),(17,.ak 11 [])],LJ,ZLX⟩],LI yD⟩
theorem ZmM:Zi1.Is yb (iq yb 10) (io (ZR yb 10) 29):=by
 intro v o z s hs e vs A g hs';obtain⟨z0,h,z2,z3,z4,j,m,y,f⟩:=v;obtain⟨l,E,F⟩:=yf.1 (show(VA yD z0).bind _=ab o from z)
 cases F;obtain⟨rfl,rfl⟩:=g;have r:=ZIu z0 f l f.2.1 (.var (.p (Ty.enc Zb h)) ae) (.var (.p (Ty.enc aLB z2)) ae) (.var (.p (Ty.enc Zi z3)) ae) (.var (.p (Ty.enc Zb z4)) ae) (.var (.p (Ty.enc bD j)) ae) (.var (.p (Ty.enc aLI m)) ae) (.var (.p (Ty.enc Zb y)) ae) (ZF0 ZmE E);have t1:Option.map (λ(s:yL TD×yL ah)=>(TD.aG (lk s.2) s.1,aK s.2)) (ab s)=ab (oz z0 f l f.2.1 (.var (.p (Ty.enc Zb h)) ae) (.var (.p (Ty.enc aLB z2)) ae) (.var (.p (Ty.enc Zi z3)) ae) (.var (.p (Ty.enc Zb z4)) ae) (.var (.p (Ty.enc bD j)) ae) (.var (.p (Ty.enc aLI m)) ae) (.var (.p (Ty.enc Zb y)) ae),LG z0 f l f.2.1 (.var (.p (Ty.enc Zb h)) ae) (.var (.p (Ty.enc aLB z2)) ae) (.var (.p (Ty.enc Zi z3)) ae) (.var (.p (Ty.enc Zb z4)) ae) (.var (.p (Ty.enc bD j)) ae) (.var (.p (Ty.enc aLI m)) ae) (.var (.p (Ty.enc Zb y)) ae)):=by rw[<-hs];kernel_rfl
 have t2:Option.map (λ(s:yL TD×yL ah)=>(TD.aG (lk s.2) s.1,aK s.2)) (ab A)=ab (ZLM z0 f l f.2.1 (.var (.p (Ty.enc Zb h)) ae) (.var (.p (Ty.enc aLB z2)) ae) (.var (.p (Ty.enc Zi z3)) ae) (.var (.p (Ty.enc Zb z4)) ae) (.var (.p (Ty.enc bD j)) ae) (.var (.p (Ty.enc aLI m)) ae) (.var (.p (Ty.enc Zb y)) ae),jY z0 f l f.2.1 (.var (.p (Ty.enc Zb h)) ae) (.var (.p (Ty.enc aLB z2)) ae) (.var (.p (Ty.enc Zi z3)) ae) (.var (.p (Ty.enc Zb z4)) ae) (.var (.p (Ty.enc bD j)) ae) (.var (.p (Ty.enc aLI m)) ae) (.var (.p (Ty.enc Zb y)) ae) ae ae ae ae):=by rw[<-hs'];kernel_rfl
 simp only[yae,yn,yq]at t1 t2;rw[t1.1,t1.2,t2.1,t2.2];exact r
abbrev LK:Type:=(aLL×Int×(yL Y6)×Int×Int×Chan×yG×aLL×Chan×yG×Tx×aLC×yG×Chan×aLD×aLJ×Int×ai)
abbrev dT5:Type:=(aLL×Int×Chan×yG×aLL×Chan×yG×Tx×aLC×yG×Chan×aLD×aLJ×Int×ai)
def Wt(F:Nat):LK->yO (LK⊕dT5)
 |(e,f,c,b,a,g,h,i,j,k,l,m,n,o,d,p,q,r)=>
 if(ag (a < b))=ae then
  (idx c a).bind λs=>
  if(cg d.length 1 80)=ae then
   let t:aLD:=d++([(s.1,(0,[],0))]:yL In)
   ab (.inl (e,f,c,b,wi (a+1),g,h,i,j,k,l,m,n,o,t,p,q,r))
  else
  ad
 else
 ab (.inr (e,f,g,h,i,j,k,l,m,n,o,d,p,q,r))
def ZLY:yL bJ:=[.var (.v Zi) ae,.var (.v Zb) ae,.var (.v aLB) ae,.var (.v Zi) ae,.var (.v Zb) ae,.var (.v bD) ae,.var (.v aLI) ae,.var (.v Zb) ae,.var (.v Zi) ae,.log cN 91,.log Wo 79,.var (.agg [.own 9 cN,.own 10 Wo,.v yI]) ae,.var (.v Zf) ae]
abbrev ZMK:yL Ty:=[aLB,yI,Zi,Zb,aLB,Zi,Zb,bD,aLI,Zb,Zi,aLG,aLM,yI,Zf]
abbrev ZML:yL Ty:=[aLB,yI,(.sl Qn),yI,yI,Zi,Zb,aLB,Zi,Zb,bD,aLI,Zb,Zi,aLG,aLM,yI,Zf]
def Zi2:Lp:=⟨[(6,.ak 3 []),(7,.ak 4 []),(8,.ak 5 []),(13,.ak 7 []),(16,.ak 8 []),(17,.ak 11 []),(19,.ak 12 []),(114,.v aLB),(115,.v yI),(119,.v (.sl Qn)),(120,.v yI),(121,.v yI)],ZLY,ZML,[⟨.exit 4,[(6,.ak 3 []),(7,.ak 4 []),(8,.ak 5 []),(13,.ak 7 []),(16,.ak 8 []),(17,.ak 11 []),(19,.ak 12 []),(114,.v aLB),(115,.v yI)],ZLY,ZMK⟩],Zc (Wt yD) yD⟩
theorem ZmN:Zi2.cj yb 10 2:=ZQ xJ [] [] trivial
abbrev dT6:Type:=(aLL×Int×Chan×yG×aLL×Chan×yG×Tx×aLC×yG×Chan×aLD×aLJ×Int)
def XR(F:Nat):dT6->yO (dT6⊕dT3)
 |(q,p,r,t,u,v,w,x,y,z,A,B,C,D)=>
 if(ag (p < 2))=ae then
  (idx q p).bind λs=>
  (Zc (Wt F) F (q,p,s.1,(s.1.length:Int),0,r,t,u,v,w,x,y,z,A,B,C,D,s)).bind λ(c,d,e,f,g,h,i,j,k,l,m,n,a,o,b)=>
  if(cg a.length b.2.1.length 32)=ae then
   let E:aLJ:=a++b.2.1
   ab (.inl (c,wi (d+1),e,f,g,h,i,j,k,l,m,n,E,o))
  else
  ad
 else
 ab (.inr (r,t,u,v,w,x,y,z,A,B,C,D))
abbrev ZMM:yL Ty:=[aLB,yI,Zi,Zb,aLB,Zi,Zb,bD,aLI,Zb,Zi,aLG,aLM,yI]
def Zi3:Lp:=⟨[(6,.ak 3 []),(7,.ak 4 []),(8,.ak 5 []),(13,.ak 7 []),(16,.ak 8 []),(17,.ak 11 []),(114,.v aLB),(115,.v yI)],LJ,ZMM,[⟨.exit 2,[(6,.ak 3 []),(7,.ak 4 []),(8,.ak 5 []),(13,.ak 7 []),(16,.ak 8 []),(17,.ak 11 [])],LJ,ZLX⟩],Zc (XR yD) yD⟩
theorem ZmO:Zi3.cj yb 10 1:=ZQ xJ [(2,Zi2)] [] trivial ⟨ZmN,aB⟩
def Ya(F:Nat)(a0:Chan)(a1:yG)(a2:aLL):yO ((Chan×yG×Tx×Int)):=
 (Wi F a0).bind λs=>
 if(s !=0)=ae then
  ab (((dg,0),0,[(0,0,0,0,0),(0,0,0,0,0)],[(0,0,0,0,0,0),(0,0,0,0,0,0)],0),(0,[0,0],[],0),([],[],0),s)
 else
 (au F a0 a1).bind λD=>
 if(!D)=ae then
  ab (((dg,0),0,[(0,0,0,0,0),(0,0,0,0,0)],[(0,0,0,0,0,0),(0,0,0,0,0,0)],0),(0,[0,0],[],0),([],[],0),14)
 else
 (xE F a2).bind λE=>
 if(!E.2)=ae then
  ab (((dg,0),0,[(0,0,0,0,0),(0,0,0,0,0)],[(0,0,0,0,0,0),(0,0,0,0,0,0)],0),(0,[0,0],[],0),([],[],0),1)
 else
 (ZN F a1 E.1).bind λG=>
 (G.2.1[0]?).bind λH=>
 (G.2.1[1]?).bind λI=>
 if(ag ((vF H I) < 0))=ae then
  ab (((dg,0),0,[(0,0,0,0,0),(0,0,0,0,0)],[(0,0,0,0,0,0),(0,0,0,0,0,0)],0),(0,[0,0],[],0),([],[],0),8)
 else
 (Zc (XQ F) F (E.1,0,a0,a1,a2,((dg,0),0,[(0,0,0,0,0),(0,0,0,0,0)],[(0,0,0,0,0,0),(0,0,0,0,0,0)],0),(0,[0,0],[],0),([],[],0),E.1,G)).bind λJ=>
 match J with
 |.inl (d,_,_,_,a,b,c,_,_)=>
  ab (a,b,c,d)
 |.inr (w,B,C,y,z,A,v,x)=>
  (v[0]?).bind λK=>
  (v[1]?).bind λL=>
  (au F (w.1,wi (w.2.1+(wi (K+L))),w.2.2.1,w.2.2.2.1,w.2.2.2.2) x).bind λM=>
  if(!M)=ae then
   ab (y,z,A,8)
  else
  (LI F (w,B,C,y,z,A,v,x,(w.1,wi (w.2.1+(wi (K+L))),w.2.2.1,w.2.2.2.1,w.2.2.2.2))).bind λ(j,k,i,l,m,n,o,p,q,r,t,u)=>
  (Zc (XR F) F (i,0,j,k,i,l,m,n,o,p,q,r,t,u)).bind λ(_,_,_,d,e,f,_,h,g,a,b,c)=>
  (pV F (a,b,c)).bind λN=>
  (ov F N).bind λO=>
  if(!O.2)=ae then
   ab (d,e,f,1)
  else
  (xu F O.1).bind λP=>
  (idx P 0).bind λQ=>
  ab ((Q,g.2.1,g.2.2.1,g.2.2.2.1,g.2.2.2.2),h,O.1,0)
def LL(F:Nat):Fs yb:=⟨10,[.v Zi,.v Zb,.v aLB],[],[Zi,Zb,aLB],[⟨.ret,[(0,.bm [.v Zi,.v Zb,.v bD,.v yI])],[],[Zi,Zb,bD,yI]⟩],λx=>Ya F x.1 x.2.1 x.2.2⟩
def Zkx:Fs yb:=LL yD
theorem LM:Zkx.Ok:=sB (fi:={ hi:=xJ,lp:=[(0,ZiZ),(1,Zi3)],bk:=[(29,Zi1)]}) (aJ:={ l:=[KJ,ti,Zgs,Ziz,ZrK,Zug,Zuf]}) (mG ⟨Zmz,Qm,Zfs,ZhG,Zyr,ZAu,ZAt,aB⟩) ⟨ZmK,ZmO,aB⟩ (hb:=⟨ZmM,aB⟩)
def Qo(F:Nat)(s:(yU×aLu×Int×aLu)):yO ((yU×aLu×Int×aLu)⊕(yU×aLu)):=
 if(ag (s.2.2.1 < 32))=ae then
  (idx s.2.1 s.2.2.1).bind λa=>
  (W7 F (Zz s.1 56) ((VS s.1 8)|||(yan a.toNat)) 2305843009213688668).bind λb=>
  ab (.inl (b,s.2.1,wi (s.2.2.1+1),s.2.2.2))
 else
 ab (.inr (s.1,s.2.2.2))
def Zky:Lp:=⟨[(3,.v .u64),(6,.v aLy),(7,.v yI)],[.var (.v aLy) ae],[.u64,aLy,yI,aLy],[⟨.exit 0,[(3,.v .u64)],[.var (.v aLy) ae],[.u64,aLy]⟩],Zc (Qo yD) yD⟩
theorem Zoa:Zky.cj yb 70 0:=ZQ { still:=[2,11,16]} [] [wM] ⟨IY,aB⟩
def Va(F:Nat)(a0:aLu):yO (yU):=
 (Zc (Qo F) F (0,a0,0,a0)).bind λa=>
 ab (a.1+1)
def QP:Fs yb:=⟨70,[.v aLy],[],[aLy],(zN .u64),λx=>Va yD x⟩
theorem tq:QP.Ok:=bg { still:=[2,11,16]} [(0,Zky)] [] trivial ⟨Zoa,aB⟩
abbrev fm:Ty:=(.st [.u64,.u64,.u64,.u64,.u64,aLy])
abbrev dF:Type:=(yU×yU×yU×yU×yU×aLu)
abbrev dF.Cond(x:dF):yU:=x.2.2.2.1
def tx:ByteArray:=⟨#[107,105,116]⟩
def Vo(F:Nat)(s:(Int×aLu×dF×aLH)):yO ((Int×aLu×dF×aLH)⊕(aLu×dF×aLH)):=
 if(ag (s.1 < 5))=ae then
  (VI F tx [s.2.1,[w8 (wi (s.1+1))]]).bind λa=>
  (Va F a).bind λb=>
  if(bp s.1 5)=ae then
   (s.2.2.2[s.1.toNat]?).bind λc=>
   ab (.inl (wi (s.1+1),s.2.1,s.2.2.1,s.2.2.2.set s.1.toNat b))
  else
  ad
 else
 ab (.inr (s.2.1,s.2.2.1,s.2.2.2))
def Zo4:Lp:=⟨[(1,.ak 0 []),(2,.ak 1 []),(3,.ak 2 []),(5,.v yI)],[.var (.v aLy) af,.var (.v fm) ae,.var (.v (.arr 5 .u64)) ae],[yI,aLy,fm,(.arr 5 .u64)],[⟨.exit 0,[(1,.ak 0 []),(2,.ak 1 []),(3,.ak 2 [])],[.var (.v aLy) af,.var (.v fm) ae,.var (.v (.arr 5 .u64)) ae],[aLy,fm,(.arr 5 .u64)]⟩],Zc (Vo yD) yD⟩
def ZLZ:HI:={ still:=[14,15,31],eC:=[9,29]}
theorem ZrL:Zo4.cj yb 54 0:=ZQ ZLZ [] [Qe,QP] ⟨Qf,tq,aB⟩
def tz(F:Nat)(a0:aLu):yO (dF):=
 (Zc (Vo F) F (0,a0,(0,0,0,0,0,dg),[0,0,0,0,0])).bind λa=>
 (a.2.2[0]?).bind λb=>
 (a.2.2[1]?).bind λc=>
 (a.2.2[2]?).bind λd=>
 (a.2.2[3]?).bind λe=>
 (a.2.2[4]?).bind λf=>
 (VI F tx [a.1,[6]]).bind λg=>
 ab (b,c,d,e,f,g)
def ZrM:Fs yb:=⟨54,[.v aLy],[],[aLy],(zN fm),λx=>tz yD x⟩
theorem Zyu:ZrM.Ok:=bg ZLZ [(0,Zo4)] [Qe] ⟨Qf,aB⟩ ⟨ZrL,aB⟩
def QQ(F:Nat)(a0:yU):yO (yU):=
 (Y4 F a0).bind λa=>
 if a=ae then
  ab a0
 else
 ab 1
def xL:Fs yb:=⟨184,[.v .u64],[],[.u64],(zN .u64),λx=>QQ yD x⟩
theorem LN:xL.Ok:=bg { still:=[2,3]} [] [WI] ⟨WW,aB⟩
def Vp(F:Nat)(a0:yU)(a1:yU):yO (yU):=
 (QQ F a0).bind λa=>
 (QH F a (a1 % 2305843009213688669)).bind λb=>
 ab b
def xM:Fs yb:=⟨126,[.v .u64,.v .u64],[],[.u64,.u64],(zN .u64),λx=>Vp yD x.1 x.2⟩
theorem LO:xM.Ok:=bg { still:=[4,5,6,8]} [] [xL,wP] ⟨LN,JG,aB⟩
def YU(F:Nat)(a0:yU):yO (yU):=
 (Vp F 4 a0).bind λa=>
 ab a
def QR:Fs yb:=⟨69,[.v .u64],[],[.u64],(zN .u64),λx=>YU yD x⟩
theorem tA:QR.Ok:=bg { still:=[2,3]} [] [xM] ⟨LO,aB⟩
def xN(F:Nat)(a0:dF):yO (bo):=
 (YU F a0.1).bind λa=>
 (YU F a0.2.1).bind λb=>
 (YU F a0.2.2.1).bind λc=>
 (YU F a0.2.2.2.1).bind λd=>
 (YU F a0.2.2.2.2.1).bind λe=>
 ab (a,b,c,d,e)
def Zkz:Fs yb:=⟨55,[.v fm],[],[fm],(zN xz),λx=>xN yD x⟩
theorem ZrN:Zkz.Ok:=bg { still:=[4,7,10,13,16]} [] [QR] ⟨tA,aB⟩
def LP(F:Nat)(a0:Cond)(s0:Int)(s1:Int):yO ((Bool×Int×Int)):=
 if(a0.1==s0)=ae then
  ab (a0.2.1==s1,s0,s1)
 else
 ab (af,s0,s1)
def Zi4:Fs yb:=⟨178,[.v Zm,.ak 0 [],.ak 1 []],[.var (.v yI) ae,.var (.v yI) ae],[Zm,yI,yI],[⟨.ret,[(0,.v .bool)],[.var (.v yI) ae,.var (.v yI) ae],[.bool,yI,yI]⟩],λx=>LP yD x.1 x.2.1 x.2.2⟩
theorem ZpC:Zi4.Ok:=bg { still:=[4]} [] [] trivial
def W0(F:Nat):(aLE×Int×Int×Int×Int)->yO ((aLE×Int×Int×Int×Int)⊕((Int×Int×Int)⊕(Int×Int)))
 |(c,b,a,d,e)=>
 if(ag (a < b))=ae then
  (idx c a).bind λf=>
  (LP F f d e).bind λg=>
  if g.1=ae then
   ab (.inr (.inl (a,g.2.1,g.2.2)))
  else
  ab (.inl (c,b,wi (a+1),g.2.1,g.2.2))
 else
 ab (.inr (.inr (d,e)))
def ZhQ:Lp:=⟨[(0,.v aLx),(1,.fn 178 [.ak 0 [],.ak 1 []]),(7,.v yI),(8,.v yI)],[.var (.v yI) ae,.var (.v yI) ae],[aLx,yI,yI,yI,yI],[⟨.ret,[(4,.v yI)],[.var (.v yI) ae,.var (.v yI) ae],[yI,yI,yI]⟩,⟨.exit 0,[],[.var (.v yI) ae,.var (.v yI) ae],[yI,yI]⟩],Zc (W0 yD) yD⟩
theorem Zlb:ZhQ.cj yb 177 0:=ZQ { still:=[4,15]} [] [Zi4] ⟨ZpC,aB⟩
def LQ(F:Nat)(a0:aLE)(s0:Int)(s1:Int):yO ((Int×Int×Int)):=
 (Zc (W0 F) F (a0,(a0.length:Int),0,s0,s1)).bind λa=>
 match a with
 |.inl b=>
  ab (b.1,b.2.1,b.2.2)
 |.inr c=>
  ab ((-1),c.1,c.2)
def Zi5:Fs yb:=⟨177,[.v aLx,.fn 178 [.ak 0 [],.ak 1 []]],[.var (.v yI) ae,.var (.v yI) ae],[aLx,yI,yI],[⟨.ret,[(0,.v yI)],[.var (.v yI) ae,.var (.v yI) ae],[yI,yI,yI]⟩],λx=>LQ yD x.1 x.2.1 x.2.2⟩
theorem ZpD:Zi5.Ok:=bg { still:=[4,15]} [(0,ZhQ)] [] trivial ⟨Zlb,aB⟩
def xO(F:Nat)(a0:yG)(a1:Int)(a2:Int):yO ((Cond×Bool)):=
 (LQ F a0.2.2.1 a1 a2).bind λa=>
 if(ag (a.1 < 0))=ae then
  ab ((0,0,0,0,0),af)
 else
 (idx a0.2.2.1 a.1).bind λb=>
 ab (b,ae)
def ZmP:Fs yb:=⟨114,[.v Zb,.v yI,.v yI],[],[Zb,yI,yI],[⟨.ret,[(0,.bm [.v Zm,.v .bool])],[],[Zm,.bool]⟩],λx=>xO yD x.1 x.2.1 x.2.2⟩
theorem Zs9:ZmP.Ok:=bg { still:=[7,10,11]} [] [Zi5] ⟨ZpD,aB⟩
def ZMN:HI:={ own:=[0,23,25,34,40,60],still:=[6,61,66,91,92]}
def QS(F:Nat):(aLE×Int×Int×Int×Cond)->yO ((aLE×Int×Int×Int×Cond)⊕(aLE×Int×Int×Cond))
 |(c,e,a,b,d)=>
 if(ag (a < b))=ae then
  let f:Int:=wi ((Zz (du (wi (a+b))) 1).toNat:Int)
  (idx c f).bind λg=>
  (QO F g d).bind λh=>
  if(ag (h < 0))=ae then
   ab (.inl (c,e,wi (f+1),b,d))
  else
  ab (.inl (c,e,a,f,d))
 else
 ab (.inr (c,e,a,d))
def ZhR:Lp:=⟨[(0,.v aLx),(2,.fn 61 []),(4,.ak 0 []),(8,.v yI),(9,.v yI),(10,.v yI)],[.var (.v Zm) ae],[aLx,yI,yI,yI,Zm],[⟨.exit 0,[(0,.v aLx),(2,.fn 61 []),(4,.ak 0 []),(8,.v yI),(9,.v yI)],[.var (.v Zm) ae],[aLx,yI,yI,Zm]⟩],Zc (QS yD) yD⟩
theorem Zlc:ZhR.cj yb 179 0:=ZQ { still:=[6,7,28,29,44,45]} [] [xD] ⟨KO,aB⟩
def WL(F:Nat)(a0:aLE)(a1:Cond):yO ((Int×Bool)):=
 (Zc (QS F) F (a0,(a0.length:Int),0,(a0.length:Int),a1)).bind λa=>
 if(ag (a.2.2.1 < a.2.1))=ae then
  (idx a.1 a.2.2.1).bind λb=>
  (QO F b a.2.2.2).bind λc=>
  ab (a.2.2.1,c==0)
 else
 ab (a.2.2.1,af)
def Zi6:Fs yb:=⟨179,[.v aLx,.v Zm,.fn 61 []],[],[aLx,Zm],[⟨.ret,[(0,.bm [.v yI,.v .bool])],[],[yI,.bool]⟩],λx=>WL yD x.1 x.2⟩
theorem ZhS:Zi6.Ok:=bg { still:=[6,7,28,29,44,45]} [(0,ZhR)] [xD] ⟨KO,aB⟩ ⟨Zlc,aB⟩
def Y8(F:Nat)(a0:aLE):yO (aLE):=
 if(cg 0 a0.length 40)=ae then
  ab a0
 else
 ad
def Zta:Fs yb:=⟨53,[.sl ae Zm],[],[aLx],[⟨.ret,[(0,.own 0 Zm)],[.log Zm 93],[aLx]⟩],λx=>Y8 yD x⟩
theorem ZrO:Zta.Ok:=bg { own:=[2,5,7]} [] [] trivial
def ZmQ(F:Nat):yO (aLE):=
 ab []
def Ztb:Fs yb:=⟨53,[.nil Zm],[],[],[⟨.ret,[(0,.own 0 Zm)],[.log Zm 93],[aLx]⟩],λx=>ZmQ yD⟩
theorem ZrP:Ztb.Ok:=bg { own:=[2,5,7]} [] [] trivial
def ZhT:Fs yb:=⟨53,[.v aLx],[],[aLx],[⟨.ret,[(0,.own 0 Zm)],[.log Zm 93],[aLx]⟩],λx=>Y8 yD x⟩
theorem Zgv:ZhT.Ok:=sC (t:=Zm) (xs:=[⟨.ret,[(0,.own 0 Zm)],[.log Zm 93],[aLx]⟩]) (MA:=λ(x:aLE)=>Y8 yD x) (MB:=λ_=>ZmQ yD) ZrO ZrP rfl
def LR(F:Nat)(a1:Int)(a2:aLE)(s0:aLE):yO (aLE):=
 if(dU s0.length (ab a1) ad)=ae then
  if((a2.length:Int)==0)=ae then
   ab s0
  else
  if(a1==(s0.length:Int))=ae then
   if(cg s0.length a2.length 40)=ae then
    ab (s0++a2)
   else
   ad
  else
  ad
 else
 ad
def Zfu:Fs yb:=⟨180,[.own 0 Zm,.v yI,.v aLx],[.log Zm 93],[yI,aLx,aLx],[⟨.ret,[(0,.own 0 Zm)],[.log Zm 93],[aLx]⟩],λx=>LR yD x.1 x.2.1 x.2.2⟩
theorem Zld:Zfu.Ok:=bg ZMN [] [] trivial
def LS(F:Nat)(a0:yG)(a1:Cond):yO (yG):=
 (WL F a0.2.2.1 a1).bind λa=>
 (Y8 F a0.2.2.1).bind λb=>
 (LR F a.1 [a1] b).bind λc=>
 ab (a0.1,a0.2.1,c,a0.2.2.2)
def ZrQ(F:Nat):Fs yb:=⟨115,[.v Zb,.v Zm],[],[Zb,Zm],(zN Zb),λx=>LS F x.1 x.2⟩
def Ztc:Fs yb:=ZrQ yD
def ZMO:HI:={ own:=[16],still:=[9,10,15,16,17,19]}
theorem ZrR:Ztc.Ok:=bg ZMO [] [Zfu,Zi6,ZhT] ⟨Zld,ZhS,Zgv,aB⟩
end
end Go.Proofs.YtcbhhaigilifgaaGreat
end
section
set_option maxRecDepth 10000
namespace Go.Proofs.YtcbhhaigilifgaaGreat
open Go Go.Ev
noncomputable section
theorem ZIv{P:Program}{g:FuncId}{args:yL Dv}{s e:Nat}{v:Nat}{xs:yL Pl}(h:ca P g args [] (.own 0 ad s xs) [.log s e xs])(M:xs≠[])(hf:Pl.aS xs=ae):
 ca P g args [] (.rv 0 v s 0 xs.length) [.row v s ae e (.p (.arr xs.length s xs))]:=by
 intro J vs ok X yM;refine Calls.mono (h J vs ok X yM) ?_;rintro e' w' ⟨u,J',rfl,rfl,G,f,l,hr⟩;have Q:J.m=[]:=List.eq_nil_of_length_eq_zero (by rw[ok.len,X];rfl);obtain⟨Y,A,c,rfl,T,h3,h4,h5,h6,e0,ys0,Z,h8,h9⟩:=QA hr;rw[G]at Z;simp only[yam,yn,aq.log.injEq,true_and]at Z;obtain⟨rfl,rfl⟩:=Z;rcases h9 rfl with⟨_,rfl,_⟩|⟨b,R,z,rfl,E,hcs⟩
 .obtain⟨_,_,_,h,_⟩:=h6 M;cases h
 have U:=l.dD 0 _ _ (by rw[G];rfl) z;rcases U with⟨h,_⟩|⟨y,cur',cap,h,g3,g4,g5,g6,g7,g8⟩
 .cases h
 cases h;rw[E]at g3;cases g3;let J2:Sg:={ J' with H:=[.row v s ae e (.p (.arr xs.length s xs))]}
 have only:∀(i y:Nat),J'.m[i]? =ab (ab y)->i=0:=by
  intro i y h;have:i < J'.H.length:=by rw[<-l.len];exact(yu.1 h).1
  rw[G]at this;simpa using this
 have hnew:J.w.heap.size<=b:=by
  rcases f.same 0 b z with h|h
  .rw[Q]at h;cases h
  .exact h
 have S:∀y o,y≠b->J'.be y o->J2.be y o:=by
  intro y o M hs;refine⟨hs.1,λid e j T=> ?_⟩;have:=only id y j;subst this;have I:J'.m[0]? =ab (ab y):=j;rw[z]at I;cases I;exact absurd rfl M
 refine⟨_,J2,rfl,rfl,rfl, ?_, ?_, ?_⟩
 .refine⟨⟨λy o u j T=> ?_,λid y j _=> ?_,λid s' len A c' j=> ?_,λid y j _=> ?_,λid v s st e d j=>by rw[X]at j;cases j⟩,f.F,f.B,f.os,f.tape,f.output,f.size,f.block,f.same,f.len⟩
  .obtain⟨k1,k2⟩:=f.leaf.cells y o u j T;exact⟨k1,S y o (by have:=X6 j;omega) k2⟩
  .rw[Q]at j;cases j
  .obtain⟨e,ys,k,_⟩:=j;rw[X]at k;cases k
  .rw[Q]at j;cases j
 .refine⟨?_,l.inj,l.lt,λi e0 a j T=> ?_,l.new,l.own⟩
  .show J'.m.length=1;rw[l.len,G];rfl
  .have hi:i=0:=by
    have:i < [aq.row v s ae e (.p (.arr xs.length s xs))].length:=(yu.1 j).1;simpa using this
   subst hi;have I:ab (aq.row v s ae e (.p (.arr xs.length s xs)))=ab e0:=j;cases I;have W:J'.m[0]? =ab a:=T;rw[z]at W;cases W;refine⟨xs.length,by simp[aR],.inr ⟨b,R,_,rfl,E,g4,g5,g6, ?_⟩⟩;show yH J2 (.p (.arr xs.length s xs)) (R.toList.take (xs.length*s));simp only[yH,aA];exact⟨zP,Y,dt xs _ hf g8⟩
 .rw[Zh (by rfl)];simp only[yH];exact⟨_,c,rfl,T,h3,λh=>(by cases h),λ_=>⟨_,_,rfl⟩,v,s,ae,e,_,rfl,yl _,λ_=>⟨rfl,.inr ⟨b,R,z,E,by rw[hcs,yar],λ_=>by simp⟩⟩⟩
theorem ZF1{l:yL Cond}{c:Cond}{o:Int×Bool}(h:WL yD l c=ab o):ca yb 179 [.p (Ty.enc aLx l),.p (Zm.enc c),.fn 61 []] [] (.bm [.p (.int .i64 o.1),.p (.bool o.2)]) []:=by
 obtain⟨g,R,H,f,j,m⟩:=ZhS (l,c) o h;have f:=(show Sh.fills [.v aLx,.v Zm,.fn 61 []] (dB [.sl Zm,Zm] (l,c))=ab ([.p (.v aLx l),.p (.v Zm c),.fn 61 []],[]) by kernel_rfl).symm.trans f;cases f;cases j;obtain⟨r,y,z⟩:=m _ _ ([.bm [.p (.v (.int .i64) o.1),.p (.v .bool o.2)]],[]) ⟨rfl,rfl⟩ (by kernel_rfl);cases y;exact z
theorem ZDb{l f:yL Cond}(h:Y8 yD l=ab f):ca yb 53 [.p (Ty.enc aLx l)] [] (.own 0 ad 5 (f.map Zm.enc)) [.log 5 93 (f.map Zm.enc)]:=by
 obtain⟨j,R,H,g,m,y⟩:=Zgv l f h;have g:=(show Sh.fills [.v aLx] (dB [.sl Zm] l)=ab ([.p (.v aLx l)],[]) by kernel_rfl).symm.trans g;cases g;cases m;obtain⟨r,z,A⟩:=y _ _ ([.own 0 ad Zm ad],[.log Zm 93 f]) ⟨rfl,rfl⟩ (by kernel_rfl);cases z;exact A
theorem Zuh{α:Type}(f:α->Pl)(h:∀x,(f x).flat=ae):∀l:yL α,Pl.aS (l.map f)=ae
 |[]=>rfl
 |x::r=>by
  show((f x).flat&&Pl.aS (r.map f))=ae;rw[h x,Zuh f h r];rfl
theorem ZAv(l:yL Cond):Pl.aS (l.map Zm.enc)=ae:=Zuh _ (λx=>rfl) l
theorem ZIw{α β:Type}(f:α->β)(l:yL α)(k:Nat)(c:α)(g:k<=l.length):(((l.map f).take k++f c::(l.map f).drop k).drop 0).take (l.length+1)=(l.take k++c::l.drop k).map f:=by
 rw[List.drop_zero,List.take_of_length_le (by simp only[ym,yaa,yag,yaz,yad];omega),yau,List.map_take,yah,List.map_drop]
noncomputable def oA(i:Nat):Array Oper:=match i,ZR yb 115 with
 |0,.seq (.region _ o _) _=>o
 |1,.seq _ (.seq (.region _ o _) _)=>o
 |2,.seq _ (.seq _ (.seq (.region _ o _) _))=>o
 |3,.seq _ (.seq _ (.seq _ (.seq (.region _ o _) _)))=>o
 |_,_=> #[]
noncomputable def kM:Array Oper:=oA 2
theorem ZIx:ZR yb 115=.seq (.region 0 (oA 0) af) (.seq (.region 1 (oA 1) af) (.seq (.region 2 kM ae) (.seq (.region 3 (oA 3) af) .ret))):=by kernel_rfl
theorem xP:kM.size=9:=by kernel_rfl
section
variable(s:yG)(c:Cond)(k:Nat)(b:Bool)
noncomputable def ZMP:yL Dv:=[.p (Zb.enc s),.p (Zm.enc c)]++yx 21 .an
noncomputable def ZL0:yL Dv:=[.p (Zb.enc s),.p (Zm.enc c),.ak 0 0 [],.ak 1 0 [],.ak 2 0 []]++yx 18 .an
noncomputable def xQ:Dv:=.bm [.p (.int .i64 (k:Int)),.p (.bool b)]
noncomputable def pW:yL Dv:=[.p (Zb.enc s),.p (Zm.enc c),.ak 0 0 [],.ak 1 0 [],.ak 2 0 [],.p (.int .i64 (k:Int)),.p (.bool b),xQ k b,.ak 0 3 [2],.p (Ty.enc aLx s.2.2.1),.p (Zm.enc c),xQ k b,.p (.int .i64 (k:Int)),.p (.bool b)]++yx 9 .an
noncomputable def tB:aq:=.var (bf yb 39) ae
noncomputable def oB(l:yL Cond):yL Pl:=(l.map Zm.enc).take k++Zm.enc c::(l.map Zm.enc).drop k
noncomputable def LU(l:yL Cond):Nat->Dv
 |0=>.ak 0 3 [2]
 |1=>.p (Ty.enc aLx s.2.2.1)
 |2=>.rv 3 0 5 0 l.length
 |3=>.p (.int .i64 (k:Int))
 |4=>.p (Zm.enc c)
 |5=>.own 4 (ab ae) 5 [Zm.enc c]
 |6=>.rv 3 1 5 0 (l.length+1)
 |7=>.ak 0 3 [2]
 |_=>.an
noncomputable def pX(l:yL Cond):Dv:=.agg [.p (.int .i64 s.1),.p (Ty.enc (.arr 2 (.int .i64)) s.2.1),.rv 3 1 5 0 (l.length+1),.p (.int .i64 s.2.2.2)]
noncomputable def jo(l:yL Cond)(f g b2 h:Bool):yL aq:=(match f with|true=>aq.var (pX s l) ae|false=>aq.var (.p (Zb.enc s)) ae)::aq.var (.p (Zm.enc c)) ae::tB::
 (match g with|true=>aq.row 1 5 ae 93 (.p (.arr (l.length+1) 5 (oB c k l)))|false=>(match b2 with|true=>aq.row 0 5 ae 93 (.p (.arr l.length 5 (l.map Zm.enc)))|false=>.gone))::
 (match h with|true=>aq.log 5 93 [Zm.enc c]|false=>.gone)::[]
noncomputable def fG(l:yL Cond)(X:Nat->Bool):yL aq:=jo s c k l (X 8) (X 6) (X 2) (X 5)
end
noncomputable def wqS:Nat->yL Nat×yL Nat
 |0=>([],[2])
 |1=>([0],[])
 |2=>([1],[])
 |3=>([],[5])
 |4=>([],[3])
 |5=>([4],[])
 |6=>([2,3,5],[])
 |7=>([],[2])
 |8=>([7,6],[])
 |_=>([],[])
theorem tC{s:yG}{c:Cond}{k:Nat}{l:yL Cond}{X:Nat->Bool}{i:Nat}(h1:8≠i)(h2:6≠i)(h3:2≠i)(h4:5≠i):fG s c k l (λj=>X j || decide (j=i))=fG s c k l X:=by
 unfold fG;simp only[yZ h1,yZ h2,yZ h3,yZ h4,ycj]
theorem ZL1{ops:Array Oper}{n:Nat}(hn:ops.size=n)(h:((yo n).all λi=>(yo n).all λj=>aT ops.toList i==ad || !(aT ops.toList i==aT ops.toList j) || decide (i=j))=ae):
 ∀i j,i < ops.size->j < ops.size->aT ops.toList i≠ad->aT ops.toList i=aT ops.toList j->i=j:=by
 rw[hn];intro i j l m;have h1:=yal.1 (yal.1 h i (ybq.2 l)) j (ybq.2 m);intro g f;rw[f]at g;simp only[Bool.or_eq_true,yP,yT,Bool.not_eq_true',beq_eq_false_iff_ne]at h1;rcases h1 with(h1|h1)|h1
 .exact absurd (f.symm.trans h1) g
 .exact absurd f h1
 .exact h1
theorem mQ{i:Nat}(h:i < 9):i < kM.size:=by rw[xP];exact h
theorem ZIy{s:yG}{c:Cond}{k:Nat}{b:Bool}{l:yL Cond}(hk:k<=l.length)(hn:l.length<=1000)(hl:l≠[])(hC:Y8 yD s.2.2.1=ab l):
 Xn yb (.region 2 kM ae) (pW s c k b) [.var (.p (Zb.enc s)) ae,.var (.p (Zm.enc c)) ae,tB] .normal (dq (pW s c k b).length (aT kM.toList) (LU s c k l) (pW s c k b) [] [2,4]) (jo s c k l ae ae ae ae):=by
 have U:=ZIv (v:=0) (ZDb hC) (λh=>hl (List.map_eq_nil_iff.1 h)) (ZAv l);have hlm:(l.map Zm.enc).length=l.length:=yad _;rw[hlm]at U;refine CE (k:=2) (by kernel_rfl) (LU s c k l) (fG s c k l) wqS (ZL1 xP (by kernel_rfl)) (by kernel_rfl) (by rw[xP];kernel_rfl) (by kernel_rfl) (λX z=> ?_) [] [2,4] (by kernel_rfl) (by kernel_rfl) (λi hi=> ?_)
 .unfold fG;rw[z 8 (mQ (by decide)),z 6 (mQ (by decide)),z 2 (mQ (by decide)),z 5 (mQ (by decide))]
 .rw[xP]at hi;intro X z he hc J' a' A m E;have p21:X 1=af->X 2=af:=λh=>qQ hc (mQ (by decide)) (by kernel_rfl) h;have I:X 2=af->X 6=af:=λh=>qQ hc (mQ (by decide)) (by kernel_rfl) h;have W:X 5=af->X 6=af:=λh=>qQ hc (mQ (by decide)) (by kernel_rfl) h;have F:X 6=af->X 8=af:=λh=>qQ hc (mQ (by decide)) (by kernel_rfl) h
  match i,hi with
  |0,_=>
   rw[tC (by decide) (by decide) (by decide) (by decide), <-m]
   exact Yl (hs:=[]) (C:=[]) (hs':=[]) A E (by rw[m];kernel_rfl) trivial
  |1,_=>
   rw[tC (by decide) (by decide) (by decide) (by decide), <-m];have e:fG s c k l X=jo s c k l af (X 6) (X 2) (X 5):=by unfold fG;rw[F (I (p21 z))]
   rw[e]at m
   exact Yl (hs:=[]) (C:=[(3:Nat)=3]) (hs':=[]) A E (by rw[m];kernel_rfl) ⟨rfl,aB⟩
  |3,_=>
   rw[tC (by decide) (by decide) (by decide) (by decide), <-m]
   exact Yl (hs:=[.raw]) (C:=[]) (hs':=[]) A E (by rw[m];kernel_rfl) trivial
  |4,_=>
   rw[tC (by decide) (by decide) (by decide) (by decide), <-m]
   exact Yl (hs:=[]) (C:=[(0:Nat)=0]) (hs':=[]) A E (by rw[m];kernel_rfl) ⟨rfl,aB⟩
  |7,_=>
   rw[tC (by decide) (by decide) (by decide) (by decide), <-m]
   exact Yl (hs:=[]) (C:=[]) (hs':=[]) A E (by rw[m];kernel_rfl) trivial
  |2,_=>
   have M:=I z;have G:=F M;have Q:fG s c k l X=jo s c k l af af af (X 5):=by unfold fG;rw[G,M,z]
   have R:fG s c k l (λj=>X j || decide (j=2))=jo s c k l af af ae (X 5):=by
    unfold fG;simp(decide:=true) only[z,M,G,Bool.false_or,ycj,decide_true,decide_false]
   rw[R];rw[Q]at m
   have h:=uQ (P:=yb) (o:=ba kM 2) (c:=⟨.value (.func 53), #[.tmp 15], #[37]⟩) (f:=.func 53) (g:=53) (cap:=[]) (ids:=[3]) (Hin:=[.gone]) (H':=[.row 0 5 ae 93 (.p (.arr l.length 5 (l.map Zm.enc)))]) (Hb:=[.row 0 5 ae 93 (.p (.arr l.length 5 (l.map Zm.enc)))]) (r:=.rv 0 0 5 0 l.length) (r':=.rv 3 0 5 0 l.length) (args':=[.p (Ty.enc aLx s.2.2.1)])
    A E (by kernel_rfl) rfl (by kernel_rfl) (by kernel_rfl) (by kernel_rfl) (by kernel_rfl) (yl _) (by kernel_rfl) (by rw[m];kernel_rfl) (by kernel_rfl) (by kernel_rfl) (UK U ⟨[.p (Ty.enc aLx s.2.2.1)],by kernel_rfl⟩)
   rw[m]at h
   exact Ve h (Wk.refl _) (bX.of_eq (by kernel_rfl))
  |5,_=>
   have M:=W z;have G:=F M;have Q:fG s c k l X=jo s c k l af af (X 2) af:=by unfold fG;rw[G,M,z]
   have R:fG s c k l (λj=>X j || decide (j=5))=jo s c k l af af (X 2) ae:=by
    unfold fG;simp(decide:=true) only[z,M,G,Bool.false_or,ycj,decide_true,decide_false]
   rw[R];rw[Q]at m;obtain⟨it,hi,hz,S,_⟩:=CK;have h:=CD (P:=yb) (o:=ba kM 5) (t:=37) (e:=93) (i:=it) (len:=1) (id:=4) (parts:= #[(0,.tmp 18)]) (xs:=[Zm.enc c]) A E (by rw[m];kernel_rfl) (by kernel_rfl) (by kernel_rfl) hi hz (by rw[S];decide) (by rw[S];decide) (by kernel_rfl);rw[S,m]at h
   exact Ve h (Wk.refl _) (bX.of_eq (by kernel_rfl))
  |6,_=>
   have Y:=he 2 (by kernel_rfl);have Z:=he 5 (by kernel_rfl);have G:=F z;have Q:fG s c k l X=jo s c k l af af ae ae:=by unfold fG;rw[G,z,Y,Z]
   have R:fG s c k l (λj=>X j || decide (j=6))=jo s c k l af ae ae ae:=by
    unfold fG;simp(decide:=true) only[z,Y,Z,G,Bool.false_or,ycj,Bool.true_or,decide_true,decide_false]
   rw[R];rw[Q]at m;have hins:=ZHp (xs:=l.map Zm.enc) (x:=Zm.enc c) (k:=k) (n:=l.length) (v:=0) (nn:=ab ae) hk (yad _) hn
   have h:=uQ (P:=yb) (o:=ba kM 6) (c:=⟨.value (.func 180), #[.tmp 16,.tmp 17,.tmp 19], #[37,3,37]⟩) (f:=.func 180) (g:=180) (cap:=[]) (ids:=[3,4]) (Hin:=[.row 0 5 ae 93 (.p (.arr l.length 5 (l.map Zm.enc))),.log 5 93 [Zm.enc c]]) (H':=[.row 1 5 ae 93 (.p (.arr (l.length+1) 5 (oB c k l))),.log 5 93 [Zm.enc c]]) (Hb:=[.row 1 5 ae 93 (.p (.arr (l.length+1) 5 (oB c k l))),.log 5 93 [Zm.enc c]]) (r:=.rv 0 1 5 0 (l.length+1)) (r':=.rv 3 1 5 0 (l.length+1)) (args':=[.rv 0 0 5 0 l.length,.p (.int .i64 (k:Int)),.own 1 (ab ae) 5 [Zm.enc c]])
    A E (by kernel_rfl) rfl (by kernel_rfl) (by kernel_rfl) (by kernel_rfl) (by kernel_rfl) (yl _) (by kernel_rfl) (by rw[m];kernel_rfl) (by kernel_rfl) (by kernel_rfl) hins
   rw[m]at h
   exact Ve h (Wk.refl _) (bX.of_eq (by kernel_rfl))
  |8,_=>
   have T:=he 6 (by kernel_rfl)
   have Y:X 2=ae:=by
    cases h:X 2 with
    |true=>rfl
    |false=>rw[I h]at T;cases T
   have Z:X 5=ae:=by
    cases h:X 5 with
    |true=>rfl
    |false=>rw[W h]at T;cases T
   have Q:fG s c k l X=jo s c k l af ae ae ae:=by unfold fG;rw[z,T,Y,Z]
   have R:fG s c k l (λj=>X j || decide (j=8))=jo s c k l ae ae ae ae:=by
    unfold fG;simp(decide:=true) only[z,Y,Z,T,Bool.false_or,ycj,Bool.true_or,decide_true,decide_false]
   rw[R];rw[Q]at m;have h:=vh (P:=yb) (o:=ba kM 8) (t:=37) (x:=.tmp 21) (y:=.tmp 20) (id:=0) (off:=3) (yQ:=[2]) (dd:=.p (Zb.enc s)) (sub:=.p (Ty.enc aLx s.2.2.1)) (new:=.rv 3 1 5 0 (l.length+1)) (dd':=pX s l) (C1:=[]) (off':=3) (hs:=[]) (hs':=[]) A E (by kernel_rfl) (by kernel_rfl) (by rw[m];kernel_rfl) (by kernel_rfl) trivial rfl (by kernel_rfl) (by kernel_rfl) (by kernel_rfl) (by kernel_rfl) (by kernel_rfl) (by kernel_rfl);rw[m]at h
   exact Ve h (Wk.refl _) (bX.of_eq (by kernel_rfl))
  |_+9,h=>exact absurd h (by omega)
theorem ZF2{s:yG}{c:Cond}{k:Nat}{b:Bool}{l:yL Cond}(z:k<=l.length)(hn:l.length<=1000)(hl:l≠[])(A:WL yD s.2.2.1 c=ab ((k:Int),b))(hC:Y8 yD s.2.2.1=ab l):
 ca yb 115 [.p (Zb.enc s),.p (Zm.enc c)] [] (.p (Zb.enc (s.1,s.2.1,l.take k++c::l.drop k,s.2.2.2))) []:=by
 obtain⟨fn,E,j⟩:∃fn,yb.funcs[115]? =ab fn/\fn.body=ab (ZR yb 115)/\fn.ntmps=23/\fn.results= #[.cell 4 39]:=by
  have h:(yb.funcs[115]?).map (λfn=>(fn.body,fn.ntmps,fn.results))=ab (ab (ZR yb 115),23, #[.cell 4 39]):=by kernel_rfl
  obtain⟨fn,m,f⟩:=Option.map_eq_some_iff.1 h;simp only[yq]at f;exact⟨fn,m,f.1,f.2.1,f.2.2⟩
 have F:Xn yb (.region 0 (oA 0) af) (ZMP s c) [] .normal (ZL0 s c) [.var (.p (Zb.enc s)) ae,.var (.p (Zm.enc c)) ae,tB]:=qT (hs:=[.raw,.raw,.raw]) (C:=[]) (hs':=[]) (by kernel_rfl) trivial
 have G:Xn yb (.region 1 (oA 1) af) (ZL0 s c) [.var (.p (Zb.enc s)) ae,.var (.p (Zm.enc c)) ae,tB] .normal (pW s c k b) [.var (.p (Zb.enc s)) ae,.var (.p (Zm.enc c)) ae,tB]:=
  qT (hs:=[.call (xQ k b) [] [],.raw,.raw,.raw]) (C:=[(3:Nat)=3,(0:Nat)=0,ca yb 179 [.p (Ty.enc aLx s.2.2.1),.p (Zm.enc c),.fn 61 []] [] (xQ k b) []]) (hs':=[]) (by kernel_rfl) ⟨rfl,rfl,ZF1 A,aB⟩
 have I:=ZIy (b:=b) (c:=c) z hn hl hC;let T3:yL Dv:=dq (pW s c k b).length (aT kM.toList) (LU s c k l) (pW s c k b) [] [2,4];let H3:yL aq:=[aq.var (pX s l) ae,aq.var (.p (Zm.enc c)) ae,aq.var (pX s l) ae,aq.row 1 5 ae 93 (.p (.arr (l.length+1) 5 (oB c k l))),aq.log 5 93 [Zm.enc c]];have M:Xn yb (.region 3 (oA 3) af) T3 (jo s c k l ae ae ae ae) .normal (T3.set 22 (pX s l)) H3:=qT (hs:=[.raw]) (C:=[(0:Nat)=0,(0:Nat)=0]) (hs':=[]) (by kernel_rfl) ⟨rfl,rfl,aB⟩
 have g:ca yb 115 [.p (Zb.enc s),.p (Zm.enc c)] [] (.agg [.p (.int .i64 s.1),.p (Ty.enc (.arr 2 (.int .i64)) s.2.1),.rv 0 1 5 0 (l.length+1),.p (.int .i64 s.2.2.2)]) [aq.row 1 5 ae 93 (.p (.arr (l.length+1) 5 (oB c k l)))]:=by
  refine qS (ts':=T3.set 22 (pX s l)) (H1:=H3) (ex:=.ret) (keep:=[3]) (hs:=[]) (C:=[(0:Nat)=0]) E j.1 ?_ (.inl rfl) ?_ ⟨rfl,aB⟩
  .rw[j.2.1,ZIx];exact pD F (pD G (pD I (pD M Zx6)))
  .unfold fin;rw[j.2.2]
   kernel_rfl
 have Q:((oB c k l).drop 0).take (l.length+1)=(l.take k++c::l.drop k).map Zm.enc:=ZIw _ l k c z
 have R:=ZEo (H':=[aq.row 1 5 af 93 (.p (.arr (l.length+1) 5 (oB c k l)))]) (r':=.p (Zb.enc (s.1,s.2.1,l.take k++c::l.drop k,s.2.2.2))) g (.cons .lock .nil) (.one (.deep (.agg rfl (λi d y m f=>match i,m,f with
  |0,rfl,rfl=>.p _
  |1,rfl,rfl=>.p _
  |2,rfl,rfl=>(show cV _ (.rv 0 1 5 0 (l.length+1)) (.sl ad 5 ((l.take k++c::l.drop k).map Zm.enc)) from Q ▸ .vt (N:=l.length+1) rfl (by omega))
  |3,rfl,rfl=>.p _
  |_+4,h,_=>by cases h))))
 exact ZFC (keep:=[]) R rfl rfl (by kernel_rfl)
noncomputable def ZL2(s:yG)(c:Cond)(k:Nat)(l:yL Cond):yG:=(s.1,s.2.1,l.take k++c::l.drop k,s.2.2.2)
noncomputable def xR(o:Int)(l:yL Cond)(c:Cond):yO aLE:=if(ag (0<=o)&&(ag (o<=(l.length:Int))&&ag (l.length<=1000)))=ae then ab (l.take o.toNat++c::l.drop o.toNat) else ad
noncomputable def pY(F:Nat)(a0:yG)(a1:Cond):yO (yG):=
 if a0.2.2.1.isEmpty=ae then LS F a0 a1 else
 (WL F a0.2.2.1 a1).bind λo=>
 (Y8 F a0.2.2.1).bind λl=>
 if l.isEmpty=ae then ad else(xR o.1 l a1).bind λl=>ab (a0.1,a0.2.1,l,a0.2.2.2)
noncomputable def Ztd(F:Nat):Fs yb:=⟨115,[.v Zb,.v Zm],[],[Zb,Zm],(zN Zb),λx=>pY F x.1 x.2⟩
noncomputable def ZmS:Fs yb:=Ztd yD
theorem Zte:ZmS.Ok:=by
 rintro⟨s,c⟩ o f;have f:pY yD s c=ab o:=f;unfold pY at f;split at f
 .exact ZrR (s,c) o f
 .obtain⟨q,A,f⟩:=yf.1 f;obtain⟨l,E,f⟩:=yf.1 f;split at f
  .cases f
  .rename_i g;obtain⟨G,j,f⟩:=yf.1 f;unfold xR at j;split at j
   .rename_i y;simp only[yi,yP]at y;cases j;cases f;obtain⟨k,z⟩:∃k:Nat,q.1=(k:Int):=⟨q.1.toNat,by omega⟩;obtain⟨I,b⟩:=q;dsimp only at z;subst z;have F:=ZF2 (s:=s) (c:=c) (k:=k) (b:=b) (l:=l) (by omega) y.2.2 (by intro h;rw[h]at g;exact g rfl) A E;refine⟨[.p (.v Zb s),.p (.v Zm c)],[],[],by kernel_rfl,rfl,λx vs M hs m=> ?_⟩;obtain⟨rfl,rfl⟩:=hs;have m:=m.symm.trans (show VT 1 [(0,.v Zb)] [] (dB [Zb] (ZL2 s c k l))=ab ([.p (.v Zb (ZL2 s c k l))],[]) by kernel_rfl);cases m;exact⟨_,rfl,F⟩
   .cases j
end
end Go.Proofs.YtcbhhaigilifgaaGreat
end
