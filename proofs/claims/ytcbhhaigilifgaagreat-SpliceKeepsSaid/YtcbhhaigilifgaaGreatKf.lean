/- Parts of the proof, in one file. -/
import Derived.Test.YtcbhhaigilifgaaGreatKe
open Option renaming some → ab, none → ad
open Bool renaming true → ae, false → af
open Decidable renaming decide → ag
open Bool renaming and_eq_true → yi, or_false → ycj
open Go.Proofs.Tryz renaming prog → yb
open List renaming length_append → yl, range → yo, getElem?_eq_some_iff → yu, replicate → yx, length_take → yaa, append_assoc → yac, length_map → yad, length_cons → yaf, map_cons → yah, getElem?_cons_succ → yak, all_eq_true → yal, getElem?_cons_zero → yam, getElem?_map → yao, map_append → yaw, length_drop → yaz, take_append_drop → ybb, mem_cons → ybp, mem_range → ybr, length_set → ybu, getElem?_eq_none → ybz, getD_eq_getElem?_getD → ycx, length_singleton → ycy
open Nat renaming le_refl → ym, add → yy, shiftRight → yaj, zero_add → yar, mod_eq_of_lt → yas, mul_comm → ybo, two_pow_add_eq_or_of_lt → yda
open Option renaming bind_some → ya, bind_eq_some_iff → yf, map_some → yae
open Option.some renaming injEq → yn
open Prod.mk renaming injEq → yq
open UInt32 renaming toNat → ybm, ofNat → ych, toNat_ofNat' → ycv
open UInt64 renaming ofNat → yan, toNat_ofNat' → ybi, toNat_lt → ybv, lt_iff_toNat_lt → ycs
open UInt8 renaming ofNat → yap, toNat → ybh
set_option linter.unusedVariables false
set_option linter.unusedSimpArgs false
section
set_option maxRecDepth 4000
namespace Go.Proofs.YtcbhhaigilifgaaGreat
open Go Go.Ev
theorem JR{z:Nat}:(yan (z % 4611686018427377339)).toNat=z % 4611686018427377339:=by
 rw[ybi,yas];exact Nat.lt_trans (Nat.mod_lt _ (by decide)) (by decide)
theorem ZGH(a b:yU):YC yD a b=ab (yan (a.toNat*b.toNat % 4611686018427377339)):=by
 unfold YC xb;rw[ya];dsimp only;unfold Vk;rw[yW (by decide),ya,ybi,ybi];have h:a.toNat*b.toNat < 18446744073709551616*18446744073709551616:=Nat.mul_lt_mul'' (ybv a) (ybv b);have f:a.toNat*b.toNat / 18446744073709551616 < 18446744073709551616:=(Nat.div_lt_iff_lt_mul (by decide)).2 h;generalize a.toNat*b.toNat=z at*;rw[show(4611686018427377339:yU).toNat=4611686018427377339 from rfl]
 have e:z / 18446744073709551616 % 2 ^ 64*18446744073709551616+z % 18446744073709551616 % 2 ^ 64=z:=by omega
 rw[e]
theorem JS:∀(k m:Nat)(A N O:yU),N.toNat < 2 ^ k->k < m->Zc (W8 yD) m (A,N,O)=ab (yan (gV 4611686018427377339 k A.toNat N.toNat O.toNat))
 |k,0,_,_,_,_,h=>by omega
 |0,m+1,A,N,O,h,_=>by
  have G:¬N > 0:=by
   intro j;have z:0 < N.toNat:=ycs.1 j;rw[Nat.pow_zero]at h;omega
  have hs:W8 yD (A,N,O)=if ag (N > 0)=ae then(if((N&&&1)==1)=ae then(YC yD O A).bind λF=>(YC yD A A).bind λf=>ab (.inl (f,ZB N 1,F)) else(YC yD A A).bind λf=>ab (.inl (f,ZB N 1,O))) else ab (.inr O):=rfl
  unfold Zc;rw[hs]
  rw[yX (by rw[yN];exact G),ya,gV,UInt64.ofNat_toNat]
 |k+1,m+1,A,N,O,h,J=>by
  have hs:W8 yD (A,N,O)=if ag (N > 0)=ae then(if((N&&&1)==1)=ae then(YC yD O A).bind λF=>(YC yD A A).bind λf=>ab (.inl (f,ZB N 1,F)) else(YC yD A A).bind λf=>ab (.inl (f,ZB N 1,O))) else ab (.inr O):=rfl
  unfold Zc;rw[hs];by_cases j:N > 0
  .have I:0 < N.toNat->gV 4611686018427377339 (k+1) A.toNat N.toNat O.toNat=gV 4611686018427377339 k (A.toNat*A.toNat % 4611686018427377339) (N.toNat / 2) (if N.toNat % 2=1 then O.toNat*A.toNat % 4611686018427377339 else O.toNat):=λh=>by
    rw[gV,yX (by omega)]
   have z:0 < N.toNat:=ycs.1 j
   have g:(ZB N 1).toNat=N.toNat / 2:=by
    unfold ZB;rw[ybi,yas (Nat.lt_of_le_of_lt (Nat.div_le_self ..) (ybv _))]
   have l:(ZB N 1).toNat < 2 ^ k:=by
    rw[g];rw[Nat.pow_succ]at h;omega
   have y:((N&&&1)==1)=ag (N.toNat % 2=1):=by
    rw[Bool.eq_iff_iff,yT,yN, <-UInt64.toNat_inj,UInt64.toNat_and];exact Iff.of_eq (congrArg (· =1) (Nat.and_one_is_mod _))
   rw[yW (yY j),y,I z];simp only[ZGH];by_cases E:N.toNat % 2=1
   .rw[yW (yY E),yW E,ya,ya,ya];dsimp only;rw[JS k m _ _ _ l (by omega),JR,JR,g]
   .rw[yX (by rw[yN];exact E),yX E,ya,ya];dsimp only;rw[JS k m _ _ _ l (by omega),JR,g]
  .have z:N.toNat=0:=by
    rcases Nat.eq_zero_or_pos N.toNat with h5|h5
    .exact h5
    .exact absurd (show(0:yU) < N from ycs.2 h5) j
   rw[yX (by rw[yN];exact j),ya,gV,yW z,UInt64.ofNat_toNat]
theorem ZGI(a n:yU):JP yD a n=ab (yan (gV 4611686018427377339 64 a.toNat n.toNat 1)):=by
 unfold JP;rw[JS 64 yD a n 1 (ybv _) (by rw[jW];omega),ya];rfl
noncomputable def Q2(F:Nat)(a0:yU)(a1:yU):yO yU:=ab (yan (gV 4611686018427377339 64 a0.toNat a1.toNat 1))
noncomputable def Zr9(F:Nat):Fs yb:={ JQ F with M:=λx=>Q2 F x.1 x.2}
noncomputable def xc:Fs yb:=Zr9 yD
theorem JT:xc.Ok:=wW (s:=JQ yD) Zqc λx=>(ZGI x.1 x.2).symm
end Go.Proofs.YtcbhhaigilifgaaGreat
end
section
set_option maxRecDepth 4000
namespace Go.Proofs.YtcbhhaigilifgaaGreat
open Go Go.Ev
noncomputable section
def Xc(F:Nat)(a0:yU):yO (Bool):=
 if(ag (a0 > 0))=ae then
  if(ag (a0 < 4611686018427377339))=ae then
   (Q2 F a0 2305843009213688669).bind λa=>
   ab (a==1)
  else
  ab af
 else
 ab af
def WS:Fs yb:=⟨78,[.v .u64],[],[.u64],(zN .bool),λx=>Xc yD x⟩
theorem W9:WS.Ok:=be { still:=[2,10]} [] [xc] ⟨JT,aw⟩
def VS(F:Nat)(a0:yU):yO (Bool):=
 (Xc F a0).bind λa=>
 ab (!a)
def JU:Fs yb:=⟨146,[.v .u64],[],[.u64],(zN .bool),λx=>VS yD x⟩
theorem Zik:JU.Ok:=be { still:=[2,3]} [] [WS] ⟨W9,aw⟩
def Vv(F:Nat)(a0:Int):yO (Bool):=
 if(ag (a0 >= 0))=ae then
  ab (ag (a0<=1048576))
 else
 ab af
def Zk4:Fs yb:=⟨148,[.v yI],[],[yI],(zN .bool),λx=>Vv yD x⟩
theorem Zsa:Zk4.Ok:=be { still:=[2]} [] [] trivial
abbrev _root_.aMX:Go.Ev.Ty:=.sl .u64
abbrev Z3:Ty:=(.st [aMX,yI,yI,.u64])
abbrev _root_.aMY:=yL yU
abbrev ZR:Type:=(aMY×Int×Int×yU)
abbrev _root_.aNl:Go.Ev.Ty:=.sl Z3
abbrev Ya:Ty:=(.st [aNl])
abbrev _root_.aNi:=yL ZR
abbrev Z4:Type:=aNi
def Xd(F:Nat)(s:(aMY×Int×Int)):yO ((aMY×Int×Int)⊕(Int⊕Unit)):=
 if(ag (s.2.2 < s.2.1))=ae then
  (idx s.1 s.2.2).bind λa=>
  (VS F a).bind λb=>
  if b=ae then
   ab (.inr (.inl s.2.2))
  else
  ab (.inl (s.1,s.2.1,wi (s.2.2+1)))
 else
 ab (.inr (.inr ()))
def ZgR:Lp:=⟨[(0,.v aMX),(1,.fn 146 []),(7,.v yI),(8,.v yI)],[],[aMX,yI,yI],[⟨.ret,[(4,.v yI)],[],[yI]⟩,⟨.exit 0,[],[],[]⟩],Zc (Xd yD) yD⟩
theorem ZkL:ZgR.bR yb 196 0:=ZG { still:=[4,15]} [] [JU] ⟨Zik,aw⟩
def xf(F:Nat)(a0:aMY):yO (Int):=
 (Zc (Xd F) F (a0,(a0.length:Int),0)).bind λa=>
 match a with
 |.inl b=>
  ab b
 |.inr c=>
  ab (-1)
def Zil:Fs yb:=⟨196,[.v aMX,.fn 146 []],[],[aMX],(zN yI),λx=>xf yD x⟩
theorem ZoF:Zil.Ok:=be { still:=[4,15]} [(0,ZgR)] [] trivial ⟨ZkL,aw⟩
def pU(F:Nat)(a0:aMY):yO (Bool):=
 (xf F a0).bind λa=>
 ab (ag (a >= 0))
def Zpy:Fs yb:=⟨147,[.v aMX,.fn 146 []],[],[aMX],(zN .bool),λx=>pU yD x⟩
theorem ZwO:Zpy.Ok:=be { still:=[4,5,6]} [] [Zil] ⟨ZoF,aw⟩
def Wr(F:Nat)(s:(aNi×Int×Int×Z4)):yO ((aNi×Int×Int×Z4)⊕((Bool×Z4)⊕Z4)):=
 if(ag (s.2.2.1 < s.2.1))=ae then
  (idx s.1 s.2.2.1).bind λa=>
  if(ag ((a.1.length:Int) > 12))=ae then
   ab (.inr (.inl (af,s.2.2.2)))
  else
  (pU F a.1).bind λb=>
  if b=ae then
   ab (.inr (.inl (af,s.2.2.2)))
  else
  (Vv F a.2.1).bind λc=>
  if(!c)=ae then
   ab (.inr (.inl (af,s.2.2.2)))
  else
  (Vv F a.2.2.1).bind λd=>
  if(!d)=ae then
   ab (.inr (.inl (af,s.2.2.2)))
  else
  if(a.2.2.2 !=0)=ae then
   (VS F a.2.2.2).bind λe=>
   if e=ae then
    ab (.inr (.inl (af,s.2.2.2)))
   else
   ab (.inl (s.1,s.2.1,wi (s.2.2.1+1),s.2.2.2))
  else
  ab (.inl (s.1,s.2.1,wi (s.2.2.1+1),s.2.2.2))
 else
 ab (.inr (.inr s.2.2.2))
def Zk5:Lp:=⟨[(1,.aj 0 []),(3,.fn 146 []),(7,.v aNl),(8,.v yI),(9,.v yI)],[.var (.v Ya) ae],[aNl,yI,yI,Ya],[⟨.ret,[(2,.v .bool)],[.var (.v Ya) ae],[.bool,Ya]⟩,⟨.exit 0,[(1,.aj 0 [])],[.var (.v Ya) ae],[Ya]⟩],Zc (Wr yD) yD⟩
theorem ZoG:Zk5.bR yb 75 0:=ZG { still:=[2,19,20,25,31,42]} [] [Zpy,Zk4,JU] ⟨ZwO,Zsa,Zik,aw⟩
def XJ(F:Nat)(a0:Z4):yO (Bool):=
 (Zc (Wr F) F (a0,(a0.length:Int),0,a0)).bind λa=>
 match a with
 |.inl b=>
  ab b.1
 |.inr c=>
  if(ag ((c.length:Int) > 0))=ae then
   ab (ag ((c.length:Int)<=4))
  else
  ab af
def Q3:Fs yb:=⟨75,[.v Ya],[],[Ya],(zN .bool),λx=>XJ yD x⟩
theorem tf:Q3.Ok:=be { still:=[2,19,20,25,31,42]} [(0,Zk5)] [] trivial ⟨ZoG,aw⟩
def oz(F:Nat)(a0:Int):yO (Bool):=
 if(ag (a0 >= 0))=ae then
  ab (ag (a0<=1125899906842624))
 else
 ab af
def Zpz:Fs yb:=⟨158,[.v yI],[],[yI],(zN .bool),λx=>oz yD x⟩
theorem ZwP:Zpz.Ok:=be { still:=[2]} [] [] trivial
def Qt(F:Nat)(a0:Int)(a1:Int):yO ((Int×Bool)):=
 (oz F a0).bind λa=>
 if(!a)=ae then
  ab (0,af)
 else
 (oz F a1).bind λb=>
 if(!b)=ae then
  ab (0,af)
 else
 if(ag (a0 > (wi (1125899906842624 - a1))))=ae then
  ab (0,af)
 else
 ab (wi (a0+a1),ae)
def JV:Fs yb:=⟨85,[.v yI,.v yI],[],[yI,yI],[⟨.ret,[(0,.bp [.v yI,.v .bool])],[],[yI,.bool]⟩],λx=>Qt yD x.1 x.2⟩
theorem Zsb:JV.Ok:=be { still:=[4,5,6,10]} [] [Zpz] ⟨ZwP,aw⟩
abbrev ij:Ty:=(.st [.u64,.u64])
abbrev gr:Type:=(yU×yU)
abbrev xg:Ty:=(.st [yI,(.sl ij),.u64])
abbrev mR:Type:=(Int×(yL gr)×yU)
def tg(F:Nat)(a0:mR):yO (Bool):=
 if(ag (a0.1 >= 0))=ae then
  if(ag (a0.1 < 4))=ae then
   ab (ag ((a0.2.1.length:Int)<=12))
  else
  ab af
 else
 ab af
def Zm3:Fs yb:=⟨118,[.v xg],[],[xg],(zN .bool),λx=>tg yD x⟩
theorem ZtS:Zm3.Ok:=be { still:=[2]} [] [] trivial
abbrev _root_.aMU:Go.Ev.Ty:=.arr 32 .u8
abbrev ZQ:Ty:=(.st [aMU,yI])
abbrev ZK:Type:=(aMP×Int)
abbrev cQ:Ty:=(.st [ZQ,xg])
abbrev In:Type:=(ZK×mR)
abbrev Wx:Ty:=(.st [yI,Ya])
abbrev Out:Type:=(Int×Z4)
abbrev _root_.aNc:Go.Ev.Ty:=.sl cQ
abbrev _root_.aNj:Go.Ev.Ty:=.sl Wx
abbrev bu:Ty:=(.st [aNc,aNj,yI])
abbrev _root_.aMZ:=yL In
abbrev _root_.aNf:=yL Out
abbrev Tx:Type:=(aMZ×aNf×Int)
def Q4(F:Nat):(aMZ×Int×Int×Tx×(yL (ZK×Bool)))->yO ((aMZ×Int×Int×Tx×(yL (ZK×Bool)))⊕((Bool×Tx×(yL (ZK×Bool)))⊕(Tx×(yL (ZK×Bool)))))
 |(c,b,a,e,d)=>
 if(ag (a < b))=ae then
  (idx c a).bind λf=>
  py (ir d f.1) (λg=>
   if g=ae then
    ab (.inr (.inl (af,e,d)))
   else
   if(ag (f.1.2 < 0))=ae then
    ab (.inr (.inl (af,e,d)))
   else
   if(ag (f.1.2 >= 64))=ae then
    ab (.inr (.inl (af,e,d)))
   else
   (tg F f.2).bind λh=>
   if(!h)=ae then
    ab (.inr (.inl (af,e,d)))
   else
   ab (.inl (c,b,wi (a+1),e,jj d f.1 ae))) (
   if(ag (f.1.2 < 0))=ae then
    ab (.inr (.inl (af,e,d)))
   else
   if(ag (f.1.2 >= 64))=ae then
    ab (.inr (.inl (af,e,d)))
   else
   (tg F f.2).bind λi=>
   if(!i)=ae then
    ab (.inr (.inl (af,e,d)))
   else
   ab (.inl (c,b,wi (a+1),e,jj d f.1 ae)))
 else
 ab (.inr (.inr (e,d)))
def ZpA:Lp:=⟨[(1,.aj 0 []),(3,.mp 1),(33,.v aNc),(34,.v yI),(35,.v yI)],[.var (.v bu) ae,.map 219 ZQ .bool],[aNc,yI,yI,bu,(jn ZQ .bool)],[⟨.ret,[(2,.v .bool)],[.var (.v bu) ae,.map 219 ZQ .bool],[.bool,bu,(jn ZQ .bool)]⟩,⟨.exit 0,[(1,.aj 0 [])],[.var (.v bu) ae,.map 219 ZQ .bool],[bu,(jn ZQ .bool)]⟩],Zc (Q4 yD) yD⟩
theorem Zsc:ZpA.bR yb 58 0:=ZG { still:=[2,57,73,75,83]} [] [Zm3] ⟨ZtS,aw⟩
def Q5(F:Nat):(Int×aNf×Int×Int×Tx×(yL (ZK×Bool)))->yO ((Int×aNf×Int×Int×Tx×(yL (ZK×Bool)))⊕((Bool×Tx×(yL (ZK×Bool)))⊕(Tx×(yL (ZK×Bool)))))
 |(d,c,b,a,e,f)=>
 if(ag (a < b))=ae then
  (idx c a).bind λg=>
  (Qt F d g.1).bind λh=>
  if(!h.2)=ae then
   ab (.inr (.inl (af,e,f)))
  else
  (XJ F g.2).bind λi=>
  if(!i)=ae then
   ab (.inr (.inl (af,e,f)))
  else
  ab (.inl (h.1,c,b,wi (a+1),e,f))
 else
 ab (.inr (.inr (e,f)))
def ZpB:Lp:=⟨[(6,.v yI),(66,.v aNj),(67,.v yI),(68,.v yI)],[.var (.v bu) ae,.map 219 ZQ .bool],[yI,aNj,yI,yI,bu,(jn ZQ .bool)],[⟨.ret,[(2,.v .bool)],[.var (.v bu) ae,.map 219 ZQ .bool],[.bool,bu,(jn ZQ .bool)]⟩,⟨.exit 2,[],[.var (.v bu) ae,.map 219 ZQ .bool],[bu,(jn ZQ .bool)]⟩],Zc (Q5 yD) yD⟩
theorem Zsd:ZpB.bR yb 58 1:=ZG { still:=[2,57,73,75,83]} [] [JV,Q3] ⟨Zsb,tf,aw⟩
def Q6(F:Nat)(a0:Tx):yO (Bool):=
 if(ag ((a0.1.length:Int) < 1))=ae then
  ab af
 else
 if(ag ((a0.1.length:Int) > 64))=ae then
  ab af
 else
 if(ag ((a0.2.1.length:Int) > 64))=ae then
  ab af
 else
 if(ag (a0.2.2 < 0))=ae then
  ab af
 else
 (Zc (Q4 F) F (a0.1,(a0.1.length:Int),0,a0,([]:yL (ZK×Bool)))).bind λa=>
 match a with
 |.inl b=>
  ab b.1
 |.inr c=>
  (Zc (Q5 F) F (0,c.1.2.1,(c.1.2.1.length:Int),0,c.1,c.2)).bind λd=>
  match d with
  |.inl e=>
   ab e.1
  |.inr f=>
   ab ae
def th:Fs yb:=⟨58,[.v bu],[],[bu],(zN .bool),λx=>Q6 yD x⟩
theorem xh:th.Ok:=be { still:=[2,57,73,75,83]} [(0,ZpA),(1,ZpB)] [] trivial ⟨Zsc,Zsd,aw⟩
def Yi(F:Nat)(a0:aMP):yO (aMP):=
 if(cj 0 a0.length 1)=ae then
  ab a0
 else
 ad
abbrev _root_.aMQ:Go.Ev.Ty:=.sl .u8
def Zgf:Fs yb:=⟨160,[.sl ae .u8],[],[aMQ],(zN aMQ),λx=>Yi yD x⟩
theorem Zft:Zgf.Ok:=be { own:=[5,7],still:=[2]} [] [] trivial
def Qu(F:Nat):yO (aMP):=
 ab []
def ZdY:Fs yb:=⟨160,[.nil .u8],[],[],(zN aMQ),λx=>Qu yD⟩
theorem Zdq:ZdY.Ok:=be { own:=[5,7],still:=[2]} [] [] trivial
def Ws:Fs yb:=⟨160,[.v aMQ],[],[aMQ],(zN aMQ),λx=>Yi yD x⟩
theorem V7:Ws.Ok:=sQ (t:=.u8) (xs:=(zN aMQ)) (MA:=λ(x:aMP)=>Yi yD x) (MB:=λ_=>Qu yD) Zft Zdq rfl
abbrev _root_.aMR:=yL yV
def JW(F:Nat):yO (aMR):=
 ab [1779033703,3144134277,1013904242,2773480762,1359893119,2600822924,528734635,1541459225]
def Zm4:Fs yb:=⟨197,[],[],[],(zN (.arr 8 .u32)),λx=>JW yD⟩
theorem ZtT:Zm4.Ok:=be {} [] [] trivial
def ZN(F:Nat)(a0:yV)(a1:Int):yO (yV):=
 let a:yV:=hU a0 (min (((dy a1)&&&31).toNat:Int).toNat 32);let b:yV:=gS a0 (min ((32 - ((dy a1)&&&31)).toNat:Int).toNat 32)
 ab (a|||b)
def JX:Fs yb:=⟨220,[.v .u32,.v yI],[],[.u32,yI],(zN .u32),λx=>ZN yD x.1 x.2⟩
theorem Zc8:JX.Ok:=be { still:=[4]} [] [] trivial
def xi(F:Nat)(a0:aMP):yO (yV):=
 (idx a0 0).bind λa=>
 (idx a0 1).bind λb=>
 let c:yV:=(hU (ych a.toNat) 24)|||(hU (ych b.toNat) 16)
 (idx a0 2).bind λd=>
 (idx a0 3).bind λe=>
 let f:yV:=(c|||(hU (ych d.toNat) 8))|||(ych e.toNat)
 ab f
def Zk6:Fs yb:=⟨230,[.v aMQ],[],[aMQ],(zN .u32),λx=>xi yD x⟩
theorem Zse:Zk6.Ok:=be { still:=[2]} [] [] trivial
def V8(F:Nat)(s:(aMP×Int×aMR)):yO ((aMP×Int×aMR)⊕aMR):=
 if(ag (s.2.1 < 64))=ae then
  if(ag (s.2.1 < 16))=ae then
   if(dX s.1.length (ab (wi (4*s.2.1))) ad)=ae then
    (xi F (s.1.drop ((wi (4*s.2.1)).toNat))).bind λa=>
    if(bi s.2.1 64)=ae then
     (s.2.2[s.2.1.toNat]?).bind λb=>
     ab (.inl (s.1,wi (s.2.1+1),s.2.2.set s.2.1.toNat a))
    else
    ad
   else
   ad
  else
  if(bi (wi (s.2.1 - 15)) 64)=ae then
   (s.2.2[(wi (s.2.1 - 15)).toNat]?).bind λc=>
   if(bi (wi (s.2.1 - 2)) 64)=ae then
    (s.2.2[(wi (s.2.1 - 2)).toNat]?).bind λd=>
    (ZN F c (-7)).bind λe=>
    (ZN F c (-18)).bind λf=>
    (ZN F d (-17)).bind λg=>
    (ZN F d (-19)).bind λh=>
    if(bi (wi (s.2.1 - 16)) 64)=ae then
     (s.2.2[(wi (s.2.1 - 16)).toNat]?).bind λi=>
     if(bi (wi (s.2.1 - 7)) 64)=ae then
      (s.2.2[(wi (s.2.1 - 7)).toNat]?).bind λj=>
      let k:yV:=((i+((e^^^f)^^^(gS c 3)))+j)+((g^^^h)^^^(gS d 10))
      if(bi s.2.1 64)=ae then
       (s.2.2[s.2.1.toNat]?).bind λl=>
       ab (.inl (s.1,wi (s.2.1+1),s.2.2.set s.2.1.toNat k))
      else
      ad
     else
     ad
    else
    ad
   else
   ad
  else
  ad
 else
 ab (.inr s.2.2)
def ZgS:Lp:=⟨[(0,.v aMQ),(2,.aj 0 []),(8,.v yI)],[.var (.v (.arr 64 .u32)) ae],[aMQ,yI,(.arr 64 .u32)],[⟨.exit 0,[(2,.aj 0 [])],[.var (.v (.arr 64 .u32)) ae],[(.arr 64 .u32)]⟩],Zc (V8 yD) yD⟩
theorem ZkM:ZgS.bR yb 218 0:=ZG { still:=[17,28,30,36,38]} [] [Zk6,JX] ⟨Zse,Zc8,aw⟩
def xj(F:Nat)(a0:aMP):yO (aMR):=
 (Zc (V8 F) F (a0,0,[0,0,0,0,0,0,0,0,0,0,0,0,0,0,0,0,0,0,0,0,0,0,0,0,0,0,0,0,0,0,0,0,0,0,0,0,0,0,0,0,0,0,0,0,0,0,0,0,0,0,0,0,0,0,0,0,0,0,0,0,0,0,0,0])).bind λa=>
 ab a
def Zim:Fs yb:=⟨218,[.v aMQ],[],[aMQ],(zN (.arr 64 .u32)),λx=>xj yD x⟩
theorem ZoI:Zim.Ok:=be { still:=[17,28,30,36,38]} [(0,ZgS)] [] trivial ⟨ZkM,aw⟩
def JY(F:Nat):yO (aMR):=
 ab [1116352408,1899447441,3049323471,3921009573,961987163,1508970993,2453635748,2870763221,3624381080,310598401,607225278,1426881987,1925078388,2162078206,2614888103,3248222580,3835390401,4022224774,264347078,604807628,770255983,1249150122,1555081692,1996064986,2554220882,2821834349,2952996808,3210313671,3336571891,3584528711,113926993,338241895,666307205,773529912,1294757372,1396182291,1695183700,1986661051,2177026350,2456956037,2730485921,2820302411,3259730800,3345764771,3516065817,3600352804,4094571909,275423344,430227734,506948616,659060556,883997877,958139571,1322822218,1537002063,1747873779,1955562222,2024104815,2227730452,2361852424,2428436474,2756734187,3204031479,3329325298]
def Zm5:Fs yb:=⟨219,[],[],[],(zN (.arr 64 .u32)),λx=>JY yD⟩
theorem ZtU:Zm5.Ok:=be {} [] [] trivial
def Vw(F:Nat):(Int×aMR×aMR×aMR×aMR×aMR)->yO ((Int×aMR×aMR×aMR×aMR×aMR)⊕(aMR×aMR×aMR×aMR×aMR))
 |(a,e,f,d,c,b)=>
 if(ag (a < 64))=ae then
  (b[4]?).bind λg=>
  (ZN F g (-6)).bind λh=>
  (b[4]?).bind λi=>
  (ZN F i (-11)).bind λj=>
  (b[4]?).bind λk=>
  (ZN F k (-25)).bind λl=>
  (b[7]?).bind λm=>
  (b[6]?).bind λn=>
  (b[4]?).bind λo=>
  (b[5]?).bind λp=>
  (b[6]?).bind λq=>
  let r:yV:=(m+((h^^^j)^^^l))+(n^^^(o&&&(p^^^q)))
  if(bi a 64)=ae then
   (c[a.toNat]?).bind λs=>
   if(bi a 64)=ae then
    (d[a.toNat]?).bind λt=>
    (b[0]?).bind λu=>
    (ZN F u (-2)).bind λv=>
    (b[0]?).bind λw=>
    (ZN F w (-13)).bind λx=>
    (b[0]?).bind λy=>
    (ZN F y (-22)).bind λz=>
    (b[0]?).bind λA=>
    (b[1]?).bind λB=>
    (b[2]?).bind λC=>
    (b[0]?).bind λD=>
    (b[1]?).bind λE=>
    let G:yV:=((r+s)+t)+((v^^^x)^^^z);let H:yV:=G+((A&&&B)|||(C&&&(D|||E)))
    (b[0]?).bind λI=>
    (b[1]?).bind λJ=>
    (b[2]?).bind λK=>
    (b[3]?).bind λL=>
    (b[4]?).bind λM=>
    (b[5]?).bind λN=>
    (b[6]?).bind λO=>
    ab (.inl (wi (a+1),e,f,d,c,[H,I,J,K,L+((r+s)+t),M,N,O]))
   else
   ad
  else
  ad
 else
 ab (.inr (e,f,d,c,b))
def xk:yL bG:=[.var (.v (.arr 8 .u32)) ae,.var (.v (.arr 8 .u32)) ae,.var (.v (.arr 64 .u32)) ae,.var (.v (.arr 64 .u32)) ae,.var (.v (.arr 8 .u32)) ae]
def ZfQ:Lp:=⟨[(2,.aj 0 []),(4,.aj 1 []),(5,.aj 2 []),(6,.aj 3 []),(7,.aj 4 []),(18,.v yI)],xk,[yI,(.arr 8 .u32),(.arr 8 .u32),(.arr 64 .u32),(.arr 64 .u32),(.arr 8 .u32)],[⟨.exit 0,[(2,.aj 0 []),(4,.aj 1 []),(7,.aj 4 [])],xk,[(.arr 8 .u32),(.arr 8 .u32),(.arr 64 .u32),(.arr 64 .u32),(.arr 8 .u32)]⟩],Zc (Vw yD) yD⟩
def jq:HI:={ still:=[14,22,25,29,57,60,64]}
theorem Zjl:ZfQ.bR yb 198 0:=ZG jq [] [JX] ⟨Zc8,aw⟩
def Vx(F:Nat):(Int×aMR×aMR×aMR×aMR×aMR)->yO ((Int×aMR×aMR×aMR×aMR×aMR)⊕(aMR×aMR×aMR×aMR×aMR))
 |(a,c,d,e,f,b)=>
 if(ag (a < 8))=ae then
  if(bi a 8)=ae then
   (b[a.toNat]?).bind λg=>
   if(bi a 8)=ae then
    (c[a.toNat]?).bind λh=>
    if(bi a 8)=ae then
     (b[a.toNat]?).bind λi=>
     ab (.inl (wi (a+1),c,d,e,f,b.set a.toNat (g+h)))
    else
    ad
   else
   ad
  else
  ad
 else
 ab (.inr (c,d,e,f,b))
def ZfR:Lp:=⟨[(2,.aj 0 []),(4,.aj 1 []),(7,.aj 4 []),(104,.v yI)],xk,[yI,(.arr 8 .u32),(.arr 8 .u32),(.arr 64 .u32),(.arr 64 .u32),(.arr 8 .u32)],[⟨.exit 2,[(4,.aj 1 []),(7,.aj 4 [])],xk,[(.arr 8 .u32),(.arr 8 .u32),(.arr 64 .u32),(.arr 64 .u32),(.arr 8 .u32)]⟩],Zc (Vx yD) yD⟩
theorem Zjm:ZfR.bR yb 198 1:=ZG jq [] [] trivial
def VL(F:Nat)(a0:aMR)(a1:aMP):yO (aMR):=
 (xj F a1).bind λg=>
 (JY F).bind λh=>
 (Zc (Vw F) F (0,a0,[0,0,0,0,0,0,0,0],g,h,a0)).bind λ(b,c,d,e,f)=>
 (Zc (Vx F) F (0,b,c,d,e,f)).bind λ(_,_,_,_,a)=>
 ab a
def JZ:Fs yb:=⟨198,[.v (.arr 8 .u32),.v aMQ],[],[(.arr 8 .u32),aMQ],(zN (.arr 8 .u32)),λx=>VL yD x.1 x.2⟩
theorem ZfS:JZ.Ok:=be jq [(0,ZfQ),(1,ZfR)] [Zim,Zm5] ⟨ZoI,ZtU,aw⟩ ⟨Zjl,Zjm,aw⟩
def Yj(F:Nat)(a0:aMP):yO (aMP):=
 if(cj 0 a0.length 1)=ae then
  ab a0
 else
 ad
def Zd0:Fs yb:=⟨160,[.sl ae .u8],[],[aMQ],[⟨.ret,[(0,.own 0 .u8)],[.log .u8 5],[aMQ]⟩],λx=>Yj yD x⟩
theorem Zdr:Zd0.Ok:=be { own:=[2,5,7]} [] [] trivial
def Qv(F:Nat):yO (aMP):=
 ab []
def Zd1:Fs yb:=⟨160,[.nil .u8],[],[],[⟨.ret,[(0,.own 0 .u8)],[.log .u8 5],[aMQ]⟩],λx=>Qv yD⟩
theorem Zds:Zd1.Ok:=be { own:=[2,5,7]} [] [] trivial
def Vl:Fs yb:=⟨160,[.v aMQ],[],[aMQ],[⟨.ret,[(0,.own 0 .u8)],[.log .u8 5],[aMQ]⟩],λx=>Yj yD x⟩
theorem Zck:Vl.Ok:=sQ (t:=.u8) (xs:=[⟨.ret,[(0,.own 0 .u8)],[.log .u8 5],[aMQ]⟩]) (MA:=λ(x:aMP)=>Yj yD x) (MB:=λ_=>Qv yD) Zdr Zds rfl
def xl(F:Nat)(s:(aMP×aMP×aMP)):yO ((aMP×aMP×aMP)⊕(aMP×aMP×aMP)):=
 if((Int.tmod (s.2.2.length:Int) 64)!=56)=ae then
  if(cj s.2.2.length 1 1)=ae then
   ab (.inl (s.1,s.2.1,s.2.2++([0]:yL yB)))
  else
  ad
 else
 ab (.inr (s.1,s.2.1,s.2.2))
abbrev zG:List bG:=[.var (.v aMU) ae,.log .u8 5]
def Zm6:Lp:=⟨[(0,.v aMQ),(2,.aj 0 []),(3,.own 1 .u8)],zG,[aMQ,aMU,aMQ],[⟨.exit 0,[(0,.v aMQ),(2,.aj 0 []),(3,.own 1 .u8)],zG,[aMQ,aMU,aMQ]⟩],Zc (xl yD) yD⟩
def lH:HI:={ own:=[3,14,16,21,23,24,28,43],still:=[13,24,27,35,37,44,46]}
theorem Zqd:Zm6.bR yb 150 0:=ZG lH [] [] trivial
def Q7(F:Nat)(s:(Int×Int×aMP×aMP)):yO ((Int×Int×aMP×aMP)⊕(aMP×aMP)):=
 if(ag (s.2.1 >= 0))=ae then
  if(ag (0<=s.2.1))=ae then
   if(cj s.2.2.1.length 1 1)=ae then
    let a:aMP:=s.2.2.1++([w8 (Int.fdiv s.1 (2 ^ (min s.2.1.toNat 64)))]:yL yB)
    ab (.inl (s.1,wi (s.2.1 - 8),a,s.2.2.2))
   else
   ad
  else
  ad
 else
 ab (.inr (s.2.2.1,s.2.2.2))
def Zin:Lp:=⟨[(0,.own 0 .u8),(1,.v yI),(5,.v yI)],[.log .u8 5,.log .u8 5],[yI,yI,aMQ,aMQ],[⟨.exit 0,[(0,.own 0 .u8)],[.log .u8 5,.log .u8 5],[aMQ,aMQ]⟩],Zc (Q7 yD) yD⟩
theorem ZlO:Zin.bR yb 149 0:=ZG { own:=[0,4,10,16,17]} [] [] trivial
def WT(F:Nat)(a1:Int)(s0:aMP):yO (aMP):=
 (Zc (Q7 F) F (a1,56,s0,[])).bind λa=>
 ab a.1
def Qw:Fs yb:=⟨149,[.own 0 .u8,.v yI],[.log .u8 5],[yI,aMQ],[⟨.ret,[(0,.own 0 .u8)],[.log .u8 5],[aMQ]⟩],λx=>WT yD x.1 x.2⟩
theorem KA:Qw.Ok:=be { own:=[0,4,10,16,17]} [(0,Zin)] [] trivial ⟨ZlO,aw⟩
def xm(F:Nat)(s:(aMP×aMP×aMP×aMR)):yO ((aMP×aMP×aMP×aMR)⊕(aMP×aMP×aMR)):=
 if(ag ((s.1.length:Int) >= 64))=ae then
  if(dX s.1.length ad (ab 64))=ae then
   (VL F s.2.2.2 (s.1.take 64)).bind λa=>
   if(dX s.1.length (ab 64) ad)=ae then
    ab (.inl (s.1.drop 64,s.2.1,s.2.2.1,a))
   else
   ad
  else
  ad
 else
 ab (.inr (s.2.1,s.2.2.1,s.2.2.2))
abbrev zE:List bG:=[.var (.v aMU) ae,.log .u8 5,.var (.v (.arr 8 .u32)) ae]
def Zm7:Lp:=⟨[(0,.v aMQ),(2,.aj 0 []),(3,.own 1 .u8),(4,.aj 2 [])],zE,[aMQ,aMU,aMQ,(.arr 8 .u32)],[⟨.exit 2,[(2,.aj 0 []),(3,.own 1 .u8),(4,.aj 2 [])],zE,[aMU,aMQ,(.arr 8 .u32)]⟩],Zc (xm yD) yD⟩
theorem Zqe:Zm7.bR yb 150 1:=ZG lH [] [JZ] ⟨ZfS,aw⟩
def xn(F:Nat)(s:(aMP×aMP×aMP×aMR)):yO ((aMP×aMP×aMP×aMR)⊕(aMP×aMP×aMR)):=
 if(ag ((s.1.length:Int) > 0))=ae then
  if(dX s.1.length ad (ab 64))=ae then
   (VL F s.2.2.2 (s.1.take 64)).bind λa=>
   if(dX s.1.length (ab 64) ad)=ae then
    ab (.inl (s.1.drop 64,s.2.1,s.2.2.1,a))
   else
   ad
  else
  ad
 else
 ab (.inr (s.2.1,s.2.2.1,s.2.2.2))
def Zm8:Lp:=⟨[(2,.aj 0 []),(3,.v aMQ),(4,.aj 2 [])],zE,[aMQ,aMU,aMQ,(.arr 8 .u32)],[⟨.exit 4,[(2,.aj 0 []),(4,.aj 2 [])],zE,[aMU,aMQ,(.arr 8 .u32)]⟩],Zc (xn yD) yD⟩
theorem Zqf:Zm8.bR yb 150 2:=ZG lH [] [JZ] ⟨ZfS,aw⟩
def xo(F:Nat)(s:(Int×aMP×aMP×aMR)):yO ((Int×aMP×aMP×aMR)⊕(aMP×aMP×aMR)):=
 if(ag (s.1 < 32))=ae then
  if(bi (wi (Int.tdiv s.1 4)) 8)=ae then
   (s.2.2.2[(wi (Int.tdiv s.1 4)).toNat]?).bind λa=>
   if(ag (0<=wi (24 - (wi (8*(Int.tmod s.1 4))))))=ae then
    let b:yV:=gS a (min (wi (24 - (wi (8*(Int.tmod s.1 4))))).toNat 32)
    if(bi s.1 32)=ae then
     (s.2.1[s.1.toNat]?).bind λc=>
     ab (.inl (wi (s.1+1),s.2.1.set s.1.toNat (w8 (b.toNat:Int)),s.2.2.1,s.2.2.2))
    else
    ad
   else
   ad
  else
  ad
 else
 ab (.inr (s.2.1,s.2.2.1,s.2.2.2))
def Zm9:Lp:=⟨[(2,.aj 0 []),(4,.aj 2 []),(48,.v yI)],zE,[yI,aMU,aMQ,(.arr 8 .u32)],[⟨.exit 6,[(2,.aj 0 [])],zE,[aMU,aMQ,(.arr 8 .u32)]⟩],Zc (xo yD) yD⟩
theorem Zqg:Zm9.bR yb 150 3:=ZG lH [] [] trivial
def ti(F:Nat)(a0:aMP):yO (aMP):=
 let a:Int:=wi ((a0.length:Int) - (Int.tmod (a0.length:Int) 64))
 if(dX a0.length (ab a) ad)=ae then
  (Yj F (a0.drop a.toNat)).bind λb=>
  if(cj b.length 1 1)=ae then
   (Zc (xl F) F (a0,dt,b++([128]:yL yB))).bind λc=>
   (WT F (wi (8*(c.1.length:Int))) c.2.2).bind λd=>
   (JW F).bind λe=>
   (Zc (xm F) F (c.1,c.2.1,d,e)).bind λf=>
   (Zc (xn F) F (f.2.1,f.1,f.2.1,f.2.2)).bind λg=>
   (Zc (xo F) F (0,g.1,g.2.1,g.2.2)).bind λh=>
   ab h.1
  else
  ad
 else
 ad
def KB(F:Nat):Fs yb:=⟨150,[.v aMQ],[],[aMQ],(zN aMU),λx=>ti F x⟩
def Zy8:Fs yb:=KB yD
theorem ZwQ:Zy8.Ok:=be lH [(0,Zm6),(1,Zm7),(2,Zm8),(3,Zm9)] [Qw,Vl,Zm4] ⟨KA,Zck,ZtT,aw⟩ ⟨Zqd,Zqe,Zqf,Zqg,aw⟩
end
end Go.Proofs.YtcbhhaigilifgaaGreat
end
section
namespace Go.Sha
open Go.Ev
noncomputable def fT{α:Type}(n:Nat)(k:Nat->α):α:=Nat.rec (motive:=λ_=>α) (k 0) (λm _=>k (Nat.succ m)) n
theorem XK{α:Type}(n:Nat)(k:Nat->α):fT n k=k n:=by cases n <;> rfl
def fj(x:Nat):Nat:=Nat.mul x 4294967297
def s0(x:Nat):Nat:=Nat.xor (Nat.xor (yaj (fj x) 7) (yaj (fj x) 18)) (yaj x 3)
def s1(x:Nat):Nat:=Nat.xor (Nat.xor (yaj (fj x) 17) (yaj (fj x) 19)) (yaj x 10)
def S0(x:Nat):Nat:=Nat.xor (Nat.xor (yaj (fj x) 2) (yaj (fj x) 13)) (yaj (fj x) 22)
def S1(x:Nat):Nat:=Nat.xor (Nat.xor (yaj (fj x) 6) (yaj (fj x) 11)) (yaj (fj x) 25)
def ch(e f g:Nat):Nat:=Nat.xor g (Nat.land e (Nat.xor f g))
def mj(a b c:Nat):Nat:=Nat.lor (Nat.land a b) (Nat.land c (Nat.lor a b))
def lo(x:Nat):Nat:=Nat.mod x 4294967296
def kw(W:Nat):Nat:=lo (yy (yy (yy (yaj W 480) (s0 (lo (yaj W 448)))) (lo (yaj W 192))) (s1 (lo (yaj W 32))))
def kn(W:Nat):Nat:=Nat.mod (yy (Nat.mul W 4294967296) (kw W)) (Nat.pow 2 512)
noncomputable def xq(k:Nat)(j:Nat->Nat->Nat->Nat->Nat->Nat->Nat->Nat->Nat->Nat)(W a b c d e f g h:Nat):Nat:=
 fT (yy (yy (yy (yy h (S1 e)) (ch e f g)) k) (yaj W 480)) λt=>
     fT (lo (yy (yy t (S0 a)) (mj a b c))) λl=>fT (lo (yy d t)) λm=>fT (kn W) λW'=>j W' l a b c m e f g
noncomputable def pV(ks:yL Nat)(K:Nat->Nat->Nat->Nat->Nat->Nat->Nat->Nat->Nat):Nat->Nat->Nat->Nat->Nat->Nat->Nat->Nat->Nat->Nat:=
 List.rec (motive:=λ_=>Nat->Nat->Nat->Nat->Nat->Nat->Nat->Nat->Nat->Nat) (λ_=>K) (λk _ f=>xq k f) ks
def ks:yL Nat:=[1116352408,1899447441,3049323471,3921009573,961987163,1508970993,2453635748,2870763221,3624381080,310598401,607225278,1426881987,1925078388,2162078206,2614888103,3248222580,3835390401,4022224774,264347078,604807628,770255983,1249150122,1555081692,1996064986,2554220882,2821834349,2952996808,3210313671,3336571891,3584528711,113926993,338241895,666307205,773529912,1294757372,1396182291,1695183700,1986661051,2177026350,2456956037,2730485921,2820302411,3259730800,3345764771,3516065817,3600352804,4094571909,275423344,430227734,506948616,659060556,883997877,958139571,1322822218,1537002063,1747873779,1955562222,2024104815,2227730452,2361852424,2428436474,2756734187,3204031479,3329325298]
def w32(H i:Nat):Nat:=lo (yaj H i)
def bo(H x:Nat):Nat:=yy (Nat.mul H 4294967296) (lo x)
noncomputable def xr(H B:Nat):Nat:=
 fT (w32 H 224) λa=>fT (w32 H 192) λb=>fT (w32 H 160) λc=>fT (w32 H 128) λd=>fT (w32 H 96) λe=>fT (w32 H 64) λf=>fT (w32 H 32) λg=>fT (w32 H 0) λh=>
  pV ks (λj l m y z A E F=>bo (bo (bo (bo (bo (bo (bo (bo 0 (yy j a)) (yy l b)) (yy m c)) (yy y d)) (yy z e)) (yy A f)) (yy E g)) (yy F h)) B a b c d e f g h
noncomputable def pk(l:yL Nat)(n:Nat):Nat:=List.rec (motive:=λ_=>Nat->Nat) (λn=>n) (λx _ f n=>fT (yy (Nat.mul n 256) x) f) l n
noncomputable def KC(n:Nat)(l:yL Nat)(H:Nat):Nat:=
 Nat.rec (motive:=λ_=>yL Nat->Nat->Nat) (λ_ H=>H) (λ_ f l H=>fT (xr H (pk (l.take 64) 0)) λH'=>f (l.drop 64) H') n l H
noncomputable def outs(H:Nat)(l:yL Nat):yL yB:=List.rec (motive:=λ_=>yL yB) [] (λs _ f=>fT (Nat.mod (yaj H s) 256) λx=>yap x::f) l
def KD:yL Nat:=[248,240,232,224,216,208,200,192,184,176,168,160,152,144,136,128,120,112,104,96,88,80,72,64,56,48,40,32,24,16,8,0]
def kb(n:Nat):yL Nat:=[n / 2 ^ 56 % 256,n / 2 ^ 48 % 256,n / 2 ^ 40 % 256,n / 2 ^ 32 % 256,n / 2 ^ 24 % 256,n / 2 ^ 16 % 256,n / 2 ^ 8 % 256,n % 256]
def zs(n:Nat):Nat:=(119 - n % 64) % 64
def H0:Nat:=bo (bo (bo (bo (bo (bo (bo (bo 0 1779033703) 3144134277) 1013904242) 2773480762) 1359893119) 2600822924) 528734635) 1541459225
noncomputable def iS(l:yL yB):yL yB:=
 fT l.length λn=>fT (KC (Nat.div (yy n 72) 64) (l.map ybh++(128::(yx (zs n) 0++kb (8*n)))) H0) λH=>outs H KD
theorem kc(x y:yV):(x+y).toNat=lo (x.toNat+y.toNat):=by rw[UInt32.toNat_add];rfl
theorem kO(x y:yV):(x^^^y).toNat=Nat.xor x.toNat y.toNat:=UInt32.toNat_xor ..
theorem KE(x y:yV):(x&&&y).toNat=Nat.land x.toNat y.toNat:=UInt32.toNat_and ..
theorem pW(x y:yV):(x|||y).toNat=Nat.lor x.toNat y.toNat:=UInt32.toNat_or ..
theorem KF(x:yV):x.toNat < 4294967296:=x.toNat_lt
theorem tj(x:yV)(n:Nat):(gS x n).toNat=yaj x.toNat n:=by
 unfold gS;rw[ycv,show yaj x.toNat n=x.toNat >>> n from rfl,Nat.shiftRight_eq_div_pow]
 exact yas (Nat.lt_of_le_of_lt (Nat.div_le_self _ _) (KF x))
theorem ZJ9(x:Nat):lo x < 4294967296:=Nat.mod_lt _ (by omega)
theorem gu{x:Nat}(h:x < 4294967296):lo x=x:=yas h
theorem ZME(x:yV){n k:Nat}(h:n+k=32)(hn:0 < n):(hU x k|||gS x n).toNat=lo (yaj (fj x.toNat) n):=by
 rw[pW,tj];unfold hU;have g:=KF x;generalize x.toNat=m at g;have f:2 ^ n*2 ^ k=4294967296:=by rw[<-Nat.pow_add,h]
 rw[ycv,show yaj m n=m >>> n from rfl,Nat.shiftRight_eq_div_pow,show yaj (fj m) n=(fj m) >>> n from rfl,Nat.shiftRight_eq_div_pow]
 have j:m*2 ^ k % 2 ^ 32=2 ^ k*(m % 2 ^ n):=by
  rw[show(2:Nat) ^ 32=2 ^ n*2 ^ k from f.symm,Nat.mul_mod_mul_right]
  exact ybo ..
 have l:m / 2 ^ n < 2 ^ k:=by
  rw[Nat.div_lt_iff_lt_mul (Nat.two_pow_pos n),ybo,f];exact g
 rw[j,show Nat.lor (2 ^ k*(m % 2 ^ n)) (m / 2 ^ n)=2 ^ k*(m % 2 ^ n)|||m / 2 ^ n from rfl, <-yda l]
 have y:fj m=2 ^ n*(m*2 ^ k)+m:=by
  unfold fj;rw[Nat.mul_left_comm,f,show Nat.mul m 4294967297=m*4294967297 from rfl]
  omega
 rw[y,Nat.mul_add_div (Nat.two_pow_pos n)];unfold lo;rw[show Nat.mod (m*2 ^ k+m / 2 ^ n) 4294967296=(m*2 ^ k+m / 2 ^ n) % 4294967296 from rfl,Nat.add_mod,show m*2 ^ k % 4294967296=2 ^ k*(m % 2 ^ n) from j,yas (a:=m / 2 ^ n) (b:=4294967296) (by rw[<-f];exact Nat.lt_of_lt_of_le l (Nat.le_mul_of_pos_left _ (Nat.two_pow_pos n)))]
 refine(yas ?_).symm;have z:m % 2 ^ n < 2 ^ n:=Nat.mod_lt _ (Nat.two_pow_pos n)
 calc 2 ^ k*(m % 2 ^ n)+m / 2 ^ n < 2 ^ k*(m % 2 ^ n)+2 ^ k:=by omega
  _=2 ^ k*(m % 2 ^ n+1):=by rw[Nat.mul_add,Nat.mul_one]
  _<=2 ^ k*2 ^ n:=Nat.mul_le_mul_left _ z
  _=4294967296:=by rw[ybo,f]
theorem mS(x y:Nat):lo (Nat.xor x y)=Nat.xor (lo x) (lo y):=Nat.xor_mod_two_pow (n:=32)
theorem ZGK(x:yV)(n:Nat):lo (yaj x.toNat n)=yaj x.toNat n:=by
 rw[<-tj];exact gu (KF _)
theorem ZNB(x:yV){a b:yV}(ha:a.toNat=lo (yaj (fj x.toNat) 7))(hb:b.toNat=lo (yaj (fj x.toNat) 18)):((a^^^b)^^^gS x 3).toNat=lo (s0 x.toNat):=by
 unfold s0;rw[kO,kO,tj,ha,hb,mS,mS,ZGK]
theorem ZNC(x:yV){a b:yV}(ha:a.toNat=lo (yaj (fj x.toNat) 17))(hb:b.toNat=lo (yaj (fj x.toNat) 19)):((a^^^b)^^^gS x 10).toNat=lo (s1 x.toNat):=by
 unfold s1;rw[kO,kO,tj,ha,hb,mS,mS,ZGK]
theorem ZND(x:yV){a b c:yV}(ha:a.toNat=lo (yaj (fj x.toNat) 2))(hb:b.toNat=lo (yaj (fj x.toNat) 13))(hc:c.toNat=lo (yaj (fj x.toNat) 22)):((a^^^b)^^^c).toNat=lo (S0 x.toNat):=by
 unfold S0;rw[kO,kO,ha,hb,hc,mS,mS]
theorem ZNE(x:yV){a b c:yV}(ha:a.toNat=lo (yaj (fj x.toNat) 6))(hb:b.toNat=lo (yaj (fj x.toNat) 11))(hc:c.toNat=lo (yaj (fj x.toNat) 25)):((a^^^b)^^^c).toNat=lo (S1 x.toNat):=by
 unfold S1;rw[kO,kO,ha,hb,hc,mS,mS]
theorem ZNF(e f g:yV):(g^^^(e&&&(f^^^g))).toNat=ch e.toNat f.toNat g.toNat:=by
 unfold ch;rw[kO,KE,kO]
theorem ZNG(a b c:yV):((a&&&b)|||(c&&&(a|||b))).toNat=mj a.toNat b.toNat c.toNat:=by
 unfold mj;rw[pW,KE,KE,pW]
theorem ZNH(a b c d:Nat):lo (lo (lo (a+lo b)+c)+lo d)=lo (a+b+c+d):=by
 show(((a+b % 4294967296) % 4294967296+c) % 4294967296+d % 4294967296) % 4294967296=(a+b+c+d) % 4294967296;omega
theorem ZNI(a b c d e:Nat):lo (lo (lo (lo (a+lo b)+c)+d)+e)=lo (yy (yy (yy (yy a b) c) d) e):=by
 show((((a+b % 4294967296) % 4294967296+c) % 4294967296+d) % 4294967296+e) % 4294967296=(a+b+c+d+e) % 4294967296;omega
theorem ZNJ(t s m:Nat):lo (lo (lo t+lo s)+m)=lo (yy (yy t s) m):=by
 show((t % 4294967296+s % 4294967296) % 4294967296+m) % 4294967296=(t+s+m) % 4294967296;omega
theorem ZNK(d t:Nat):lo (d+lo t)=lo (yy d t):=by
 show(d+t % 4294967296) % 4294967296=(d+t) % 4294967296;omega
def pw(n:Nat)(l:yL Nat):Nat:=l.foldl (λn x=>n*4294967296+x) n
theorem KG:∀(l:yL Nat)(n:Nat),(∀x,x∈l->x < 4294967296)->pw n l / 2 ^ (32*l.length)=n
 |[],n,_=>by simp[pw]
 |x::r,n,h=>by
  have f:=KG r (n*4294967296+x) (λy g=>h y (List.mem_cons_of_mem _ g));have j:=h x (List.mem_cons_self ..);rw[show pw n (x::r)=pw (n*4294967296+x) r from rfl,yaf,show 32*(r.length+1)=32*r.length+32 by omega,Nat.pow_add, <-Nat.div_div_eq_div_mul,f]
  omega
theorem xt:∀(l:yL Nat)(n:Nat),pw n l=n*2 ^ (32*l.length)+pw 0 l
 |[],n=>by simp[pw]
 |x::r,n=>by
  rw[show pw n (x::r)=pw (n*4294967296+x) r from rfl,show pw 0 (x::r)=pw (0*4294967296+x) r from rfl,xt r (n*4294967296+x),xt r (0*4294967296+x),yaf,show 32*(r.length+1)=32+32*r.length by omega,Nat.pow_add,Nat.zero_mul,
   yar,Nat.add_mul, <-Nat.mul_assoc,Nat.add_assoc]
theorem ZKa:∀(l:yL Nat),(∀x,x∈l->x < 4294967296)->pw 0 l < 2 ^ (32*l.length)
 |[],_=>by simp[pw]
 |x::r,h=>by
  have g:=ZKa r (λy f=>h y (List.mem_cons_of_mem _ f));have j:=h x (List.mem_cons_self ..);rw[show pw 0 (x::r)=pw (0*4294967296+x) r from rfl,xt,yaf,show 32*(r.length+1)=32+32*r.length by omega,Nat.pow_add,Nat.zero_mul,yar]
  have:(x+1)*2 ^ (32*r.length)<=2 ^ 32*2 ^ (32*r.length):=Nat.mul_le_mul_right _ (by omega);rw[Nat.add_mul,Nat.one_mul]at this;omega
theorem ZKb{n x s:Nat}{r:yL Nat}(h:∀y,y∈r->y < 4294967296)(hs:s=32*r.length):yaj (pw n (x::r)) s=n*4294967296+x:=by
 subst hs;rw[show yaj (pw n (x::r)) (32*r.length)=pw n (x::r) >>> (32*r.length) from rfl,Nat.shiftRight_eq_div_pow]
 exact KG r (n*4294967296+x) h
theorem ZKc{n x s:Nat}{r:yL Nat}(f:x < 4294967296)(h:∀y,y∈r->y < 4294967296)(hs:s=32*r.length):lo (yaj (pw n (x::r)) s)=x:=by
 rw[ZKb h hs];show(n*4294967296+x) % 4294967296=x;omega
theorem KH(n:Nat)(l r:yL Nat):pw n (l++r)=pw (pw n l) r:=List.foldl_append ..
theorem ZCy(n x:Nat)(r:yL Nat):pw n (x::r)=pw (n*4294967296+x) r:=rfl
theorem mT{v l r:yL Nat}{x s:Nat}(e:v=l++x::r)(h:∀y,y∈v->y < 4294967296)(hs:s=32*r.length):lo (yaj (pw 0 v) s)=x:=by
 rw[e]at h ⊢;rw[KH];exact ZKc (h x (by simp)) (λy f=>h y (by simp[f])) hs
def wd(ws:yL Nat)(n:Nat):Nat:=if h:n < 16 then lo (ws.getD n 0) else lo (wd ws (n - 16)+s0 (wd ws (n - 15))+wd ws (n - 7)+s1 (wd ws (n - 2)))
termination_by n
decreasing_by all_goals omega
theorem ZMF(ws:yL Nat)(n:Nat):wd ws n < 4294967296:=by
 rw[wd];split <;> exact ZJ9 _
theorem ZCz(ws:yL Nat)(n:Nat):wd ws (n+16)=lo (wd ws n+s0 (wd ws (n+1))+wd ws (n+9)+s1 (wd ws (n+14))):=by
 rw[wd,dif_neg (by omega)];simp only[Nat.add_sub_cancel,show n+16 - 15=n+1 by omega,show n+16 - 7=n+9 by omega,show n+16 - 2=n+14 by omega]
def win(ws:yL Nat)(i:Nat):yL Nat:=[wd ws i,wd ws (i+1),wd ws (i+2),wd ws (i+3),wd ws (i+4),wd ws (i+5),wd ws (i+6),wd ws (i+7),wd ws (i+8),wd ws (i+9),wd ws (i+10),wd ws (i+11),wd ws (i+12),wd ws (i+13),wd ws (i+14),wd ws (i+15)]
theorem KI{ws:yL Nat}{i:Nat}{l:yL Nat}(h:∀x,x∈l->∃j,x=wd ws j):∀x,x∈l->x < 4294967296:=λx f=>by
 obtain⟨j,rfl⟩:=h x f;exact ZMF _ _
theorem ZCA(ws:yL Nat)(i:Nat):yaj (pw 0 (win ws i)) 480=wd ws i:=by
 have h:=ZKb (n:=0) (x:=wd ws i) (s:=480) (r:=(win ws i).tail) (KI (ws:=ws) (i:=i) (λx f=>by
  simp only[win,List.tail_cons,ybp,List.not_mem_nil,or_false]at f;rcases f with h|h|h|h|h|h|h|h|h|h|h|h|h|h|h <;> exact⟨_,h⟩)) rfl
 rw[Nat.zero_mul,yar]at h;exact h
theorem ZLz(ws:yL Nat)(i:Nat):kw (pw 0 (win ws i))=wd ws (i+16):=by
 have f:∀(l r:yL Nat)(x s:Nat),win ws i=l++x::r->s=32*r.length->lo (yaj (pw 0 (win ws i)) s)=x:=by
  intro l r x s e hs
  have g:∀y,y∈win ws i->y < 4294967296:=KI (i:=i) λx j=>by
   simp only[win,ybp,List.not_mem_nil,or_false]at j;rcases j with h|h|h|h|h|h|h|h|h|h|h|h|h|h|h|h <;> exact⟨_,h⟩
  rw[e]at g ⊢;rw[KH];exact ZKc (g x (by simp)) (λy m=>g y (by simp[m])) hs
 unfold kw;rw[ZCA,f [_] _ (wd ws (i+1)) 448 rfl rfl,f [_,_,_,_,_,_,_,_,_] _ (wd ws (i+9)) 192 rfl rfl,f [_,_,_,_,_,_,_,_,_,_,_,_,_,_] _ (wd ws (i+14)) 32 rfl rfl,ZCz];rfl
theorem ZJc(a b m:Nat)(h:b < 2 ^ m):Nat.mod (a*2 ^ m+b) (Nat.pow 2 m)=b:=by
 show(a*2 ^ m+b) % 2 ^ m=b;rw[ybo,Nat.mul_add_mod];exact yas h
theorem ZLA(ws:yL Nat)(i:Nat):kn (pw 0 (win ws i))=pw 0 (win ws (i+1)):=by
 have e:yy (Nat.mul (pw 0 (win ws i)) 4294967296) (kw (pw 0 (win ws i)))=pw (wd ws i) (win ws (i+1)):=by
  rw[ZLz];show pw 0 (win ws i)*4294967296+wd ws (i+16)=pw (wd ws i) (win ws (i+1));rw[show wd ws i=0*4294967296+wd ws i by omega];rfl
 unfold kn;rw[e,xt];have j:(win ws (i+1)).length=16:=rfl
 have f:=ZKa (win ws (i+1)) (KI (i:=i+1) λx g=>by
  simp only[win,ybp,List.not_mem_nil,or_false]at g;rcases g with h|h|h|h|h|h|h|h|h|h|h|h|h|h|h|h <;> exact⟨_,h⟩)
 rw[show 512=32*(win ws (i+1)).length by rw[j]];exact ZJc _ _ _ f
def pX(v:yL Nat)(k w:Nat):yL Nat:=match v with
 |[a,b,c,d,e,f,g,h]=>[lo (yy (yy (yy (yy (yy (yy h (S1 e)) (ch e f g)) k) w) (S0 a)) (mj a b c)),a,b,c,lo (yy d (yy (yy (yy (yy h (S1 e)) (ch e f g)) k) w)),e,f,g]
 |_=>[]
def rs(ws v:yL Nat):Nat->yL Nat
 |0=>v
 |i+1=>pX (rs ws v i) (ks.getD i 0) (wd ws i)
theorem ZJd{v:yL Nat}(h:v.length=8)(k w:Nat):(pX v k w).length=8:=by
 match v,h with
 |[a,b,c,d,e,f,g,h],_=>rfl
theorem xu{ws v:yL Nat}(h:v.length=8):∀i,(rs ws v i).length=8
 |0=>h
 |i+1=>ZJd (xu h i) _ _
noncomputable def tm(f:Nat->Nat->Nat->Nat->Nat->Nat->Nat->Nat->Nat)(v:yL Nat):Nat:=match v with
 |[a,b,c,d,e,j,g,h]=>f a b c d e j g h
 |_=>0
theorem xv{F:Nat->Nat->Nat->Nat->Nat->Nat->Nat->Nat->Nat}{a b c d e f g h:Nat}:tm F [a,b,c,d,e,f,g,h]=F a b c d e f g h:=rfl
theorem ZGM(k:Nat)(l:yL Nat)(K:Nat->Nat->Nat->Nat->Nat->Nat->Nat->Nat->Nat):pV (k::l) K=xq k (pV l K):=rfl
theorem Zza(a b c d e f g h k w:Nat):pX [a,b,c,d,e,f,g,h] k w=[lo (yy (yy (yy (yy (yy (yy h (S1 e)) (ch e f g)) k) w) (S0 a)) (mj a b c)),a,b,c,lo (yy d (yy (yy (yy (yy h (S1 e)) (ch e f g)) k) w)),e,f,g]:=rfl
theorem ZLB(k:Nat)(j:Nat->Nat->Nat->Nat->Nat->Nat->Nat->Nat->Nat->Nat)(W a b c d e f g h:Nat):xq k j W a b c d e f g h=
 j (kn W) (lo (yy (yy (yy (yy (yy (yy h (S1 e)) (ch e f g)) k) (yaj W 480)) (S0 a)) (mj a b c))) a b c (lo (yy d (yy (yy (yy (yy h (S1 e)) (ch e f g)) k) (yaj W 480)))) e f g:=by
 unfold xq;rw[XK,XK,XK,XK]
theorem ZGN{ws v:yL Nat}{K:Nat->Nat->Nat->Nat->Nat->Nat->Nat->Nat->Nat}{k w:Nat}{l:yL Nat}(hv:v.length=8){W:Nat}(j:yaj W 480=w):tm (pV (k::l) K W) v=tm (pV l K (kn W)) (pX v k w):=by
 match v,hv with
 |[a,b,c,d,e,f,g,h],_=>
  rw[ZGM,xv,ZLB,j,Zza,xv]
theorem ZCB{ws v:yL Nat}{K:Nat->Nat->Nat->Nat->Nat->Nat->Nat->Nat->Nat}(hv:v.length=8):∀(m i:Nat),i+m=64->tm (pV (ks.drop i) K (pw 0 (win ws i))) (rs ws v i)=tm K (rs ws v 64)
 |0,i,h=>by
  have e:i=64:=by omega
  subst e;rw[show ks.drop 64=[] from rfl]
  generalize pw 0 (win ws 64)=W
  rfl
 |m+1,i,h=>by
  have f:i < ks.length:=by show i < 64;omega
  rw[List.drop_eq_getElem_cons f,ZGN (ws:=ws) (xu hv i) (ZCA ws i),ZLA];have:=ZCB (ws:=ws) (K:=K) hv m (i+1) (by omega);rw[show rs ws v (i+1)=pX (rs ws v i) (ks.getD i 0) (wd ws i) from rfl,show ks.getD i 0=ks[i] by rw[ycx,List.getElem?_eq_getElem f];rfl]at this
  exact this
def iC(v ws:yL Nat):yL Nat:=List.zipWith (λx y=>lo (x+y)) (rs ws v 64) v
theorem tn{v ws:yL Nat}(h:v.length=8):(iC v ws).length=8:=by
 rw[iC,List.length_zipWith,xu h,h];rfl
theorem ZCC{v ws:yL Nat}:∀x,x∈iC v ws->x < 4294967296:=by
 intro x f;unfold iC at f;rw[List.mem_iff_getElem]at f;obtain⟨i,g,rfl⟩:=f;rw[List.getElem_zipWith];exact ZJ9 _
theorem ZJe{v ws:yL Nat}(hv:v.length=8)(j:∀x,x∈v->x < 4294967296)(hw:ws.length=16)(G:∀x,x∈ws->x < 4294967296):xr (pw 0 v) (pw 0 ws)=pw 0 (iC v ws):=by
 have e0:ws=win ws 0:=by
  match ws,hw with
  |[I,J,M,Q,R,S,T,U,W,X,m,y,z,A,E,F],_=>
   simp only[ybp,List.not_mem_nil,or_false,forall_eq_or_imp,forall_eq]at G;obtain⟨h0,h1,h2,h3,h4,h5,h6,h7,h8,h9,Y,Z,h12,h13,h14,h15⟩:=G;have hs:∀n,n < 16->wd [I,J,M,Q,R,S,T,U,W,X,m,y,z,A,E,F] n=lo ([I,J,M,Q,R,S,T,U,W,X,m,y,z,A,E,F].getD n 0):=λn hn=>by rw[wd,dif_pos hn]
   unfold win;rw[hs 0 (by omega),hs (0+1) (by omega),hs (0+2) (by omega),hs (0+3) (by omega),hs (0+4) (by omega),hs (0+5) (by omega),hs (0+6) (by omega),hs (0+7) (by omega),hs (0+8) (by omega),hs (0+9) (by omega),hs (0+10) (by omega),hs (0+11) (by omega),hs (0+12) (by omega),hs (0+13) (by omega),hs (0+14) (by omega),hs (0+15) (by omega)];show _=[lo I,lo J,lo M,lo Q,lo R,lo S,lo T,lo U,lo W,lo X,lo m,lo y,lo z,lo A,lo E,lo F];rw[gu h0,gu h1,gu h2,gu h3,gu h4,gu h5,gu h6,gu h7,gu h8,gu h9,gu Y,gu Z,gu h12,gu h13,gu h14,gu h15]
 match v,hv with
 |[a,b,c,d,e,f,g,h],hv=>
  have ea:w32 (pw 0 [a,b,c,d,e,f,g,h]) 224=a:=mT (l:=[]) (r:=[b,c,d,e,f,g,h]) rfl j rfl;have eb:w32 (pw 0 [a,b,c,d,e,f,g,h]) 192=b:=mT (l:=[a]) (r:=[c,d,e,f,g,h]) rfl j rfl;have ec:w32 (pw 0 [a,b,c,d,e,f,g,h]) 160=c:=mT (l:=[a,b]) (r:=[d,e,f,g,h]) rfl j rfl;have ed:w32 (pw 0 [a,b,c,d,e,f,g,h]) 128=d:=mT (l:=[a,b,c]) (r:=[e,f,g,h]) rfl j rfl;have ee:w32 (pw 0 [a,b,c,d,e,f,g,h]) 96=e:=mT (l:=[a,b,c,d]) (r:=[f,g,h]) rfl j rfl;have ef:w32 (pw 0 [a,b,c,d,e,f,g,h]) 64=f:=mT (l:=[a,b,c,d,e]) (r:=[g,h]) rfl j rfl;have eg:w32 (pw 0 [a,b,c,d,e,f,g,h]) 32=g:=mT (l:=[a,b,c,d,e,f]) (r:=[h]) rfl j rfl;have eh:w32 (pw 0 [a,b,c,d,e,f,g,h]) 0=h:=mT (l:=[a,b,c,d,e,f,g]) (r:=[]) rfl j rfl;unfold xr;rw[ea,eb,ec,ed,ee,ef,eg,eh,XK,XK,XK,XK,XK,XK,XK,XK];have hr:=ZCB (ws:=ws) (v:=[a,b,c,d,e,f,g,h]) (K:=λa' b' c' d' e' f' g' h'=>bo (bo (bo (bo (bo (bo (bo (bo 0 (yy a' a)) (yy b' b)) (yy c' c)) (yy d' d)) (yy e' e)) (yy f' f)) (yy g' g)) (yy h' h)) rfl 64 0 rfl;rw[<-e0,show ks.drop 0=ks from rfl,show rs ws [a,b,c,d,e,f,g,h] 0=[a,b,c,d,e,f,g,h] from rfl,xv]at hr
  rw[hr];unfold iC;generalize rs ws [a,b,c,d,e,f,g,h] 64=q,xu (ws:=ws) hv 64=hq
  match q,hq with
  |[a',b',c',d',e',f',g',h'],_=>
   rw[xv];simp only[List.zipWith_cons_cons,List.zipWith_nil_right,ZCy,bo];rfl
theorem xw(x:Nat)(l:yL Nat)(n:Nat):pk (x::l) n=pk l (n*256+x):=by
 show fT (yy (Nat.mul n 256) x) (pk l)=_;rw[XK];rfl
def XF:yL Nat->yL Nat
 |a::b::c::d::r=>(((a*256+b)*256+c)*256+d)::XF r
 |_=>[]
theorem Zzb:∀(m:Nat)(l:yL Nat)(n:Nat),l.length=4*m->pk l n=pw n (XF l)
 |0,[],n,_=>rfl
 |0,_::_,_,h=>by simp at h
 |m+1,[],_,h=>by simp at h
 |m+1,[_],_,h=>by simp at h;omega
 |m+1,[_,_],_,h=>by simp at h;omega
 |m+1,[_,_,_],_,h=>by simp at h;omega
 |m+1,a::b::c::d::r,n,h=>by
  rw[xw,xw,xw,xw,XF];rw[Zzb m r _ (by simp at h;omega),ZCy];have e:(((n*256+a)*256+b)*256+c)*256+d=n*4294967296+(((a*256+b)*256+c)*256+d):=by omega
  rw[e]
theorem ZpC:∀(m:Nat)(l:yL Nat),l.length=4*m->(XF l).length=m
 |0,[],_=>rfl
 |0,_::_,h=>by simp at h
 |m+1,[],h=>by simp at h
 |m+1,[_],h=>by simp at h;omega
 |m+1,[_,_],h=>by simp at h;omega
 |m+1,[_,_,_],h=>by simp at h;omega
 |m+1,a::b::c::d::r,h=>by
  rw[XF,yaf,ZpC m r (by simp at h;omega)]
theorem Zsf:∀(m:Nat)(l:yL Nat),l.length=4*m->(∀x,x∈l->x < 256)->∀x,x∈XF l->x < 4294967296
 |0,[],_,_,x,hx=>by simp[XF]at hx
 |0,_::_,h,_,_,_=>by simp at h
 |m+1,[],h,_,_,_=>by simp at h
 |m+1,[_],h,_,_,_=>by simp at h;omega
 |m+1,[_,_],h,_,_,_=>by simp at h;omega
 |m+1,[_,_,_],h,_,_,_=>by simp at h;omega
 |m+1,a::b::c::d::r,h,f,x,hx=>by
  rw[XF]at hx;have j:=f a (by simp);have z:=f b (by simp);have A:=f c (by simp);have E:=f d (by simp);rcases ybp.1 hx with rfl|hx
  .omega
  .exact Zsf m r (by simp at h;omega) (λy g=>f y (by simp[g])) x hx
theorem ZpD:∀(i:Nat)(l:yL Nat)(a b c d:Nat),l[4*i]? =ab a->l[4*i+1]? =ab b->l[4*i+2]? =ab c->l[4*i+3]? =ab d->(XF l)[i]? =ab (((a*256+b)*256+c)*256+d)
 |0,[],_,_,_,_,h,_,_,_=>by simp at h
 |0,[_],_,_,_,_,_,h,_,_=>by simp at h
 |0,[_,_],_,_,_,_,_,_,h,_=>by simp at h
 |0,[_,_,_],_,_,_,_,_,_,_,h=>by simp at h
 |0,a::b::c::d::r,_,_,_,_,f,g,j,m=>by
  simp at f g j m;subst f g j m
  rfl
 |i+1,[],_,_,_,_,h,_,_,_=>by simp at h
 |i+1,[_],_,_,_,_,h,_,_,_=>by simp[show 4*(i+1)=4*i+3+1 by omega]at h
 |i+1,[_,_],_,_,_,_,h,_,_,_=>by simp[show 4*(i+1)=4*i+2+1+1 by omega]at h
 |i+1,[_,_,_],_,_,_,_,h,_,_,_=>by simp[show 4*(i+1)=4*i+1+1+1+1 by omega]at h
 |i+1,a::b::c::d::r,_,_,_,_,f,g,j,m=>by
  rw[XF,yak]
  exact ZpD i r _ _ _ _ (by simpa[show 4*(i+1)=4*i+1+1+1+1 by omega] using f) (by simpa[show 4*(i+1)+1=4*i+1+1+1+1+1 by omega] using g)
   (by simpa[show 4*(i+1)+2=4*i+2+1+1+1+1 by omega] using j) (by simpa[show 4*(i+1)+3=4*i+3+1+1+1+1 by omega] using m)
def gf:Nat->yL Nat->yL Nat->yL Nat
 |0,_,v=>v
 |n+1,l,v=>gf n (l.drop 64) (iC v (XF (l.take 64)))
theorem ZCD:∀(n:Nat)(l v:yL Nat),l.length=64*n->(∀x,x∈l->x < 256)->v.length=8->(∀x,x∈v->x < 4294967296)->KC n l (pw 0 v)=pw 0 (gf n l v)
 |0,l,v,_,_,_,_=>rfl
 |n+1,l,v,y,h,j,m=>by
  show fT (xr (pw 0 v) (pk (l.take 64) 0)) (KC n (l.drop 64))=_;have f:(l.take 64).length=4*16:=by rw[yaa];omega
  rw[XK,Zzb 16 _ 0 f,ZJe j m (ZpC 16 _ f) (Zsf 16 _ f λx g=>h x (List.mem_of_mem_take g))];exact ZCD n (l.drop 64) _ (by rw[yaz];omega) (λx g=>h x (List.mem_of_mem_drop g)) (tn j) ZCC
theorem Zzc:∀(n:Nat)(l v:yL Nat),v.length=8->(gf n l v).length=8
 |0,_,_,h=>h
 |n+1,l,v,h=>Zzc n _ _ (tn h)
theorem ZCE:∀(n:Nat)(l v:yL Nat),(∀x,x∈v->x < 4294967296)->∀x,x∈gf n l v->x < 4294967296
 |0,_,_,h=>h
 |n+1,l,v,h=>ZCE n _ _ ZCC
theorem KJ:∀(n m:Nat)(l r v:yL Nat),l.length=64*n->gf (n+m) (l++r) v=gf m r (gf n l v)
 |0,m,l,r,v,h=>by
  have:l=[]:=List.length_eq_zero_iff.1 (by omega);subst this;rw[yar]
  rfl
 |n+1,m,l,r,v,h=>by
  rw[show n+1+m=(n+m)+1 by omega,gf,List.drop_append_of_le_length (by omega),List.take_append_of_le_length (by omega),KJ n m _ r _ (by rw[yaz];omega)];rfl
theorem KK:∀(c:Nat)(l v:yL Nat),gf (c+1) l v=iC (gf c l v) (XF ((l.drop (64*c)).take 64))
 |0,l,v=>by rw[Nat.mul_zero,List.drop_zero];rfl
 |c+1,l,v=>by
  rw[show gf (c+1+1) l v=gf (c+1) (l.drop 64) (iC v (XF (l.take 64))) from rfl,KK c,List.drop_drop,show 64+64*c=64*(c+1) by omega]
  rfl
theorem ZGO(ws:yL Nat){n x:Nat}(hn:n < 16)(h:ws[n]? =ab x)(f:x < 4294967296):wd ws n=x:=by
 rw[wd,dif_pos hn,ycx,h];exact gu f
def tp(v:yL Nat)(k:Nat):yB:=yap (v.getD (k / 4) 0 / 2 ^ (24 - 8*(k % 4)))
theorem ZJf{v:yL Nat}(hv:v.length=8)(z:∀x,x∈v->x < 4294967296):outs (pw 0 v) KD=(yo 32).map (tp v):=by
 have A:∀(H:Nat)(l:yL Nat),outs H l=l.map λs=>yap (H / 2 ^ s % 256):=by
  intro H l
  induction l with
  |nil=>rfl
  |cons s r F=>
   show fT (Nat.mod (yaj H s) 256) (λx=>yap x::outs H r)=_;rw[XK,F,yah,show yaj H s=H >>> s from rfl,Nat.shiftRight_eq_div_pow]
   rfl
 have m:∀(l r:yL Nat)(x j s:Nat),v=l++x::r->j<=24->s=32*r.length+j->yap (pw 0 v / 2 ^ s % 256)=yap (x / 2 ^ j):=by
  intro l r x j s e M hs;have E:=z;rw[e]at E
  have G:pw 0 v / 2 ^ (32*r.length)=pw 0 l*4294967296+x:=by
   rw[e,KH];exact KG r _ (λy I=>E y (by simp[I]))
  rw[hs,Nat.pow_add, <-Nat.div_div_eq_div_mul,G]
  have J:pw 0 l*4294967296+x=2 ^ j*(pw 0 l*2 ^ (24 - j)*256)+x:=by
   rw[show(4294967296:Nat)=2 ^ j*2 ^ (24 - j)*256 by rw[<-Nat.pow_add,show j+(24 - j)=24 by omega]];congr 1;ac_rfl
  rw[J,Nat.mul_add_div (Nat.two_pow_pos j),ybo (pw 0 l*2 ^ (24 - j)) 256,Nat.mul_add_mod];exact UInt8.toNat_inj.1 (by simp)
 match v,hv with
 |[a,b,c,d,e,f,g,h],_=>
  rw[A];simp only[KD,yah,List.map_nil]
  rw[m [] [b,c,d,e,f,g,h] a 24 248 rfl (by omega) rfl,m [] [b,c,d,e,f,g,h] a 16 240 rfl (by omega) rfl,m [] [b,c,d,e,f,g,h] a 8 232 rfl (by omega) rfl,m [] [b,c,d,e,f,g,h] a 0 224 rfl (by omega) rfl,
   m [a] [c,d,e,f,g,h] b 24 216 rfl (by omega) rfl,m [a] [c,d,e,f,g,h] b 16 208 rfl (by omega) rfl,m [a] [c,d,e,f,g,h] b 8 200 rfl (by omega) rfl,m [a] [c,d,e,f,g,h] b 0 192 rfl (by omega) rfl,
   m [a,b] [d,e,f,g,h] c 24 184 rfl (by omega) rfl,m [a,b] [d,e,f,g,h] c 16 176 rfl (by omega) rfl,m [a,b] [d,e,f,g,h] c 8 168 rfl (by omega) rfl,m [a,b] [d,e,f,g,h] c 0 160 rfl (by omega) rfl,
   m [a,b,c] [e,f,g,h] d 24 152 rfl (by omega) rfl,m [a,b,c] [e,f,g,h] d 16 144 rfl (by omega) rfl,m [a,b,c] [e,f,g,h] d 8 136 rfl (by omega) rfl,m [a,b,c] [e,f,g,h] d 0 128 rfl (by omega) rfl,
   m [a,b,c,d] [f,g,h] e 24 120 rfl (by omega) rfl,m [a,b,c,d] [f,g,h] e 16 112 rfl (by omega) rfl,m [a,b,c,d] [f,g,h] e 8 104 rfl (by omega) rfl,m [a,b,c,d] [f,g,h] e 0 96 rfl (by omega) rfl,
   m [a,b,c,d,e] [g,h] f 24 88 rfl (by omega) rfl,m [a,b,c,d,e] [g,h] f 16 80 rfl (by omega) rfl,m [a,b,c,d,e] [g,h] f 8 72 rfl (by omega) rfl,m [a,b,c,d,e] [g,h] f 0 64 rfl (by omega) rfl,
   m [a,b,c,d,e,f] [h] g 24 56 rfl (by omega) rfl,m [a,b,c,d,e,f] [h] g 16 48 rfl (by omega) rfl,m [a,b,c,d,e,f] [h] g 8 40 rfl (by omega) rfl,m [a,b,c,d,e,f] [h] g 0 32 rfl (by omega) rfl,
   m [a,b,c,d,e,f,g] [] h 24 24 rfl (by omega) rfl,m [a,b,c,d,e,f,g] [] h 16 16 rfl (by omega) rfl,m [a,b,c,d,e,f,g] [] h 8 8 rfl (by omega) rfl,m [a,b,c,d,e,f,g] [] h 0 0 rfl (by omega) rfl]
  rfl
def lI(l:yL yB):yL Nat:=l.map ybh++(128::(yx (zs l.length) 0++kb (8*l.length)))
def lJ:yL Nat:=[1779033703,3144134277,1013904242,2773480762,1359893119,2600822924,528734635,1541459225]
theorem ZBk(l:yL yB):(lI l).length=64*((l.length+72) / 64):=by
 unfold lI;simp only[yl,yad,yaf,List.length_replicate,kb,List.length_nil,zs];omega
theorem ZD0(l:yL yB):∀x,x∈lI l->x < 256:=by
 intro x f;unfold lI at f;simp only[List.mem_append,List.mem_map,ybp,List.mem_replicate,kb,List.not_mem_nil,or_false]at f;rcases f with⟨y,_,rfl⟩|rfl|⟨_,rfl⟩|h
 .exact y.toNat_lt
 .omega
 .omega
 .rcases h with h|h|h|h|h|h|h|h <;> rw[h] <;> exact Nat.mod_lt _ (by omega)
theorem ZGQ(l:yL yB):iS l=(yo 32).map (tp (gf ((l.length+72) / 64) (lI l) lJ)):=by
 unfold iS
 rw[XK,XK,show H0=pw 0 lJ from rfl,show l.map ybh++(128::(yx (zs l.length) 0++kb (8*l.length)))=lI l from rfl,
  show Nat.div (yy l.length 72) 64=(l.length+72) / 64 from rfl]
 have f:∀x,x∈lJ->x < 4294967296:=by decide
 rw[ZCD _ _ _ (ZBk l) (ZD0 l) rfl f];exact ZJf (Zzc _ _ _ rfl) (ZCE _ _ _ f)
theorem KL(l:yL yB):(iS l).length=32:=by rw[ZGQ];simp
end Go.Sha
end
section
set_option maxRecDepth 4000
namespace Go.Proofs.YtcbhhaigilifgaaGreat
open Go Go.Ev Go.Sha
theorem kP(x:yV)(n k:Nat)(h:n+k=32)(hn:0 < n){z:Int}(hz:((dy z)&&&31).toNat=k):∃o,ZN yD x z=ab o/\o.toNat=lo (yaj (fj x.toNat) n):=by
 refine⟨_,rfl, ?_⟩;have f:((((dy z)&&&31).toNat:Int)).toNat=k:=by rw[hz];rfl
 have g:(32 - ((dy z)&&&31)).toNat=n:=by
  have j:((dy z)&&&31)=yan k:=UInt64.toNat_inj.1 (by rw[hz,ybi];omega);rw[j,UInt64.toNat_sub,ybi];grind
 rw[f,show((((32 - ((dy z)&&&31)).toNat:Nat):Int)).toNat=n by rw[g];rfl,Nat.min_eq_left (by omega),Nat.min_eq_left (by omega)];exact ZME x h hn
theorem ZLC{l:yL yB}{a b c d:yB}(ha:l[0]? =ab a)(hb:l[1]? =ab b)(hc:l[2]? =ab c)(hd:l[3]? =ab d):∃o,xi yD l=ab o/\o.toNat=((a.toNat*256+b.toNat)*256+c.toNat)*256+d.toNat:=by
 unfold xi;rw[sX (i:=0) (by omega) ha,sX (i:=1) (by omega) hb,sX (i:=2) (by omega) hc,sX (i:=3) (by omega) hd];refine⟨_,rfl, ?_⟩;have j:=a.toNat_lt;have m:=b.toNat_lt;have y:=c.toNat_lt;have z:=d.toNat_lt
 have hs:∀(x:yB)(n:Nat),n<=24->(hU (ych x.toNat) n).toNat=x.toNat*2 ^ n:=by
  intro x n A;have f:=x.toNat_lt;unfold hU;rw[ycv,ycv,yas (a:=x.toNat) (by omega)];refine yas ?_
  calc x.toNat*2 ^ n < 2 ^ 8*2 ^ n:=Nat.mul_lt_mul_of_pos_right f (Nat.two_pow_pos n)
   _=2 ^ (8+n):=(Nat.pow_add ..).symm
   _<=2 ^ 32:=Nat.pow_le_pow_right (by omega) (by omega)
 rw[pW,pW,pW,hs _ _ (by omega),hs _ _ (by omega),hs _ _ (by omega),ycv,yas (a:=d.toNat) (by omega)]
 have g:Nat.lor (a.toNat*2 ^ 24) (b.toNat*2 ^ 16)=2 ^ 16*(a.toNat*256+b.toNat):=by
  rw[ybo a.toNat,show Nat.lor (2 ^ 24*a.toNat) (b.toNat*2 ^ 16)=2 ^ 24*a.toNat|||b.toNat*2 ^ 16 from rfl, <-yda (by omega)]
  omega
 have h:Nat.lor (2 ^ 16*(a.toNat*256+b.toNat)) (c.toNat*2 ^ 8)=2 ^ 8*((a.toNat*256+b.toNat)*256+c.toNat):=by
  rw[show Nat.lor (2 ^ 16*(a.toNat*256+b.toNat)) (c.toNat*2 ^ 8)=2 ^ 16*(a.toNat*256+b.toNat)|||c.toNat*2 ^ 8 from rfl, <-yda (by omega)]
  omega
 rw[g,h,show Nat.lor (2 ^ 8*((a.toNat*256+b.toNat)*256+c.toNat)) d.toNat=2 ^ 8*((a.toNat*256+b.toNat)*256+c.toNat)|||d.toNat from rfl, <-yda (by omega)]
 omega
theorem ZGR{l:yL yB}(h:l.length=64):∃o,xj yD l=ab o/\o.length=64/\∀(i:Nat)x,i < 64->o[i]? =ab x->x.toNat=wd (XF (l.map ybh)) i:=by
 unfold xj;generalize hz:([0,0,0,0,0,0,0,0,0,0,0,0,0,0,0,0,0,0,0,0,0,0,0,0,0,0,0,0,0,0,0,0,0,0,0,0,0,0,0,0,0,0,0,0,0,0,0,0,0,0,0,0,0,0,0,0,0,0,0,0,0,0,0,0]:yL yV)=z;have M:z.length=64:=by rw[<-hz];rfl
 refine Exists.elim (Wz (step:=V8 yD) (λs=>s.1=l/\0<=s.2.1/\s.2.1<=64/\s.2.2.length=64/\∀(j:Nat)x,(j:Int) < s.2.1->s.2.2[j]? =ab x->x.toNat=wd (XF (l.map ybh)) j) (λs=>(64 - s.2.1).toNat)
  (λo=>o.length=64/\∀(j:Nat)x,j < 64->o[j]? =ab x->x.toNat=wd (XF (l.map ybh)) j) ?_ (l,(0:Int),z) ⟨rfl,Int.le_refl _,by dsimp only;omega,M,λj x hj=>by dsimp only at hj;omega⟩ (by dsimp only;omega)) ?_
 rotate_left
 .grind
 .rintro⟨b,i,w⟩ ⟨hb,Q,R,S,m⟩;dsimp only at hb Q R S m;subst hb;unfold V8;dsimp only
  have f:∀(y:yV),y.toNat=wd (XF (b.map ybh)) i.toNat->i < 64->∀(j:Nat)x,(j:Int) < i+1->(w.set i.toNat y)[j]? =ab x->x.toNat=wd (XF (b.map ybh)) j:=by
   all_goals grind
  by_cases T:i < 64
  .left;rw[yW (yY T)];obtain⟨e,he⟩:=jp (l:=w) (i:=i.toNat) (by omega);by_cases A:i < 16
   .rw[yW (yY A),ZJ (z:=4*i) (by omega) (by omega),yW (by simp only[dX,yi,yP];omega)];have g:∀k:Nat,k < 4->∃x,b[4*i.toNat+k]? =ab x:=λk hk=>jp (by omega);obtain⟨x0,g0⟩:=g 0 (by omega);obtain⟨x1,g1⟩:=g 1 (by omega);obtain⟨x2,g2⟩:=g 2 (by omega);obtain⟨x3,g3⟩:=g 3 (by omega);have e4:(4*i).toNat=4*i.toNat:=by omega
    obtain⟨o,ho,U⟩:=ZLC (l:=b.drop (4*i).toNat) (by rw[List.getElem?_drop,e4];exact g0) (by rw[List.getElem?_drop,e4];exact g1) (by rw[List.getElem?_drop,e4];exact g2) (by rw[List.getElem?_drop,e4];exact g3);rw[ho,ya,yW (X8 Q (by omega)),he,ya,ZJ (z:=i+1) (by omega) (by omega)];refine⟨_,rfl,⟨rfl,by dsimp only;omega,by dsimp only;omega,by dsimp only;rw[ybu];exact S,f o ?_ T⟩,by dsimp only;omega⟩;have J:∀(k:Nat)(x:yB),b[k]? =ab x->(b.map ybh)[k]? =ab x.toNat:=λk x hx=>by rw[yao,hx];rfl
    have W:=ZpD i.toNat (b.map ybh) _ _ _ _ (J _ _ g0) (J _ _ g1) (J _ _ g2) (J _ _ g3);rw[U];have b0:=x0.toNat_lt;have b1:=x1.toNat_lt;have b2:=x2.toNat_lt;have b3:=x3.toNat_lt;exact(ZGO _ (by omega) W (by omega)).symm
   .rw[yX (by simpa using A)];rw[ZJ (z:=i - 15) (by omega) (by omega),ZJ (z:=i - 2) (by omega) (by omega),ZJ (z:=i - 16) (by omega) (by omega),ZJ (z:=i - 7) (by omega) (by omega),ZJ (z:=i+1) (by omega) (by omega)];obtain⟨X,E⟩:=jp (l:=w) (i:=(i - 15).toNat) (by omega);obtain⟨Y,F⟩:=jp (l:=w) (i:=(i - 2).toNat) (by omega);obtain⟨e3,G⟩:=jp (l:=w) (i:=(i - 16).toNat) (by omega);obtain⟨e4,I⟩:=jp (l:=w) (i:=(i - 7).toNat) (by omega);have v1:=m _ _ (by omega) E;have v2:=m _ _ (by omega) F;have v3:=m _ _ (by omega) G;have v4:=m _ _ (by omega) I;rw[yW (X8 (by omega) (by omega)),E,ya,yW (X8 (by omega) (by omega)),F,ya];obtain⟨o1,Z,p1⟩:=kP X 7 25 rfl (by omega) (z:= -7) rfl;obtain⟨o2,ho2,p2⟩:=kP X 18 14 rfl (by omega) (z:= -18) rfl;obtain⟨o3,ho3,p3⟩:=kP Y 17 15 rfl (by omega) (z:= -17) rfl;obtain⟨o4,ho4,p4⟩:=kP Y 19 13 rfl (by omega) (z:= -19) rfl;rw[Z,ya,ho2,ya,ho3,ya,ho4,ya];rw[yW (X8 (by omega) (by omega)),G,ya,yW (X8 (by omega) (by omega)),I,ya]
    try dsimp only
    rw[yW (X8 Q (by omega)),he,ya];refine⟨_,rfl,⟨rfl,by dsimp only;omega,by dsimp only;omega,by dsimp only;rw[ybu];exact S,f _ ?_ T⟩,by dsimp only;omega⟩;have hn:=ZCz (XF (b.map ybh)) (i - 16).toNat
    rw[show(i - 16).toNat+16=i.toNat by omega,show(i - 16).toNat+1=(i - 15).toNat by omega,show(i - 16).toNat+9=(i - 7).toNat by omega,show(i - 16).toNat+14=(i - 2).toNat by omega, <-v1, <-v2, <-v3, <-v4]at hn;rw[hn];rw[kc,kc,kc,ZNB X p1 p2,ZNC Y p3 p4];exact ZNH ..
  grind
theorem ZGS{st:yL yV}{l:yL yB}(hs:st.length=8)(h:l.length=64):∃o,VL yD st l=ab o/\o.map ybm=iC (st.map ybm) (XF (l.map ybh)):=by
 unfold VL;obtain⟨w,hw,hwl,U⟩:=ZGR h;obtain⟨k,hk,hkv⟩:∃k,JY yD=ab k/\k.map ybm=ks:=⟨_,rfl,rfl⟩;have hkl:k.length=64:=by rw[<-yad (f:=ybm),hkv];rfl
 generalize hws:XF (l.map ybh)=m at U;rw[hw,ya,hk,ya]
 refine Exists.elim (Wz (step:=Vw yD) (λs=>0<=s.1/\s.1<=64/\s.2.1=st/\s.2.2.2.1=w/\s.2.2.2.2.1=k/\s.2.2.2.2.2.length=8/\s.2.2.2.2.2.map ybm=rs m (st.map ybm) s.1.toNat) (λs=>(64 - s.1).toNat)
  (λo=>o.1=st/\o.2.2.2.2.length=8/\o.2.2.2.2.map ybm=rs m (st.map ybm) 64) ?_ ((0:Int),st,([0,0,0,0,0,0,0,0]:yL yV),w,k,st) ⟨Int.le_refl _,by dsimp only;omega,rfl,rfl,rfl,hs,rfl⟩ (by dsimp only;omega)) ?_
 rotate_left
 .rintro o ⟨h1,p0,p1,p2⟩;rw[h1,ya];have hml:(iC (st.map ybm) m).length=8:=tn (by rw[yad];exact hs)
  refine Exists.elim (Wz (step:=Vx yD) (λs=>0<=s.1/\s.1<=8/\s.2.1=st/\s.2.2.2.2.2.length=8/\(∀(j:Nat)x,s.2.2.2.2.2[j]? =ab x->if(j:Int) < s.1 then(iC (st.map ybm) m)[j]? =ab x.toNat else(rs m (st.map ybm) 64)[j]? =ab x.toNat)) (λs=>(8 - s.1).toNat)
   (λo=>o.2.2.2.2.map ybm=iC (st.map ybm) m) ?_ ((0:Int),o.1,o.2.1,o.2.2.1,o.2.2.2.1,o.2.2.2.2) ⟨Int.le_refl _,by dsimp only;omega,p0,p1,λj x M=>by
     dsimp only at M ⊢;rw[yX (by omega), <-p2,yao,M];rfl⟩ (by dsimp only;omega)) ?_
  rotate_left
  .grind
  .rintro⟨i,a,b,c,d,e⟩ ⟨Q,h8,W,X,J⟩;dsimp only at Q h8 W X J;subst W;unfold Vx;dsimp only;by_cases Y:i < 8
   .left;obtain⟨F,y⟩:=jp (l:=e) (i:=i.toNat) (by omega);obtain⟨G,A⟩:=jp (l:=a) (i:=i.toNat) (by omega);simp only[yY Y,if_true,X8 Q (show i < ((8:Nat):Int) by omega),y,A,ya];rw[ZJ (z:=i+1) (by omega) (by omega)];refine⟨_,rfl,⟨by dsimp only;omega,by dsimp only;omega,rfl,by dsimp only;rw[ybu];exact X, ?_⟩,by dsimp only;omega⟩;intro j x M;dsimp only at M ⊢;by_cases hji:j=i.toNat
    .subst hji;rw[List.getElem?_set_self (by omega)]at M;cases M;rw[yW (by omega),kc];have k1:=J _ _ y;rw[yX (by omega)]at k1;unfold iC;grind
    grind
   .right;rw[yX (by simpa using Y)];refine⟨_,rfl, ?_⟩;dsimp only;apply List.ext_getElem?
    all_goals grind
 .rintro⟨i,a,b,c,d,e⟩ ⟨Q,h64,W,hc,hd,X,J⟩;dsimp only at Q h64 W hc hd X J;subst W hc hd;unfold Vw;dsimp only;by_cases Y:i < 64
  .left
   match e,X,J with
   |[I,x1,x2,x3,g,S,E,T],_,J=>
    obtain⟨F,y⟩:=jp (l:=d) (i:=i.toNat) (by omega);obtain⟨G,A⟩:=jp (l:=c) (i:=i.toNat) (by omega);obtain⟨o1,Z,p1⟩:=kP g 6 26 rfl (by omega) (z:= -6) rfl;obtain⟨o2,ho2,p2⟩:=kP g 11 21 rfl (by omega) (z:= -11) rfl;obtain⟨o3,ho3,p3⟩:=kP g 25 7 rfl (by omega) (z:= -25) rfl;obtain⟨o4,ho4,p4⟩:=kP I 2 30 rfl (by omega) (z:= -2) rfl;obtain⟨o5,ho5,p5⟩:=kP I 13 19 rfl (by omega) (z:= -13) rfl;obtain⟨o6,ho6,p6⟩:=kP I 22 10 rfl (by omega) (z:= -22) rfl;generalize ZN yD=R at Z ho2 ho3 ho4 ho5 ho6 ⊢;rw[yW (yY Y)];simp only[yam,yak];rw[ya,Z,ya,ya,ho2,ya,ya,ho3,ya,ya,ya,ya,ya,ya];rw[yW (X8 Q (show i < ((64:Nat):Int) by omega)),y,ya,yW (X8 Q (show i < ((64:Nat):Int) by omega)),A,ya,ya,ho4,ya,ya,ho5,ya,ya,ho6];rw[ya,ya,ya,ya,ya,ya];rw[ya,ya,ya,ya,ya,ya,ya];rw[ZJ (z:=i+1) (by omega) (by omega)];refine⟨_,rfl,⟨by dsimp only;omega,by dsimp only;omega,rfl,rfl,rfl,rfl, ?_⟩,by dsimp only;omega⟩;dsimp only;rw[show(i+1).toNat=i.toNat+1 by omega,show rs m (a.map ybm) (i.toNat+1)=pX (rs m (a.map ybm) i.toNat) (ks.getD i.toNat 0) (wd m i.toNat) from rfl, <-J]
    have hk1:ks.getD i.toNat 0=F.toNat:=by
     grind
    rw[hk1, <-U i.toNat G (by omega) A];simp only[yah,List.map_nil];rw[Zza]
    have kt:((T+((o1^^^o2)^^^o3))+(E^^^(g&&&(S^^^E)))+F+G).toNat=lo (yy (yy (yy (yy T.toNat (S1 g.toNat)) (ch g.toNat S.toNat E.toNat)) F.toNat) G.toNat):=by
     rw[kc,kc,kc,kc,ZNE g p1 p2 p3,ZNF];exact ZNI ..
    have ka:((T+((o1^^^o2)^^^o3))+(E^^^(g&&&(S^^^E)))+F+G+((o4^^^o5)^^^o6)+((I&&&x1)|||(x2&&&(I|||x1)))).toNat=lo (yy (yy (yy (yy (yy (yy T.toNat (S1 g.toNat)) (ch g.toNat S.toNat E.toNat)) F.toNat) G.toNat) (S0 I.toNat)) (mj I.toNat x1.toNat x2.toNat)):=by
     rw[kc,kc,kt,ZND I p4 p5 p6,ZNG];exact ZNJ ..
    have ke:(x3+(((T+((o1^^^o2)^^^o3))+(E^^^(g&&&(S^^^E))))+F+G)).toNat=lo (yy x3.toNat (yy (yy (yy (yy T.toNat (S1 g.toNat)) (ch g.toNat S.toNat E.toNat)) F.toNat) G.toNat)):=by
     rw[kc,kt];exact ZNK ..
    rw[ka,ke]
  .right;rw[yX (by simpa using Y)];grind
def fp(n:Nat):yL yB:=(kb n).map yap
theorem KM{n:Nat}{b:yL yB}(h:b.length<=1000000000000):WT yD (n:Int) b=ab (b++fp n):=by
 unfold WT
 obtain⟨o,A,E⟩:=Wz (step:=Q7 yD) (λs=>∃k:Nat,k<=8/\s.1=(n:Int)/\s.2.1=56 - 8*(k:Int)/\s.2.2.1=b++(fp n).take k) (λs=>(s.2.1+8).toNat) (λo=>o.1=b++fp n) (by
  rintro⟨a,i,c,d⟩ ⟨k,J,y,F,j⟩;dsimp only at y F j;subst y;unfold Q7;dsimp only;have G:c.length<=b.length+8:=by rw[j,yl,yaa];omega
  by_cases l:i >= 0
  .left;rw[yW (yY l),yW (yY l),yW (ZZ (by omega) (by omega)),ZJ (z:=i - 8) (by omega) (by omega)];refine⟨_,rfl,⟨k+1,by omega,rfl,by dsimp only;omega, ?_⟩,by dsimp only;omega⟩;dsimp only
   have I:∀m:Nat,w8 (Int.fdiv (n:Int) (2 ^ m))=yap (n / 2 ^ m % 256):=by
    intro m;unfold w8;rw[Int.fdiv_eq_ediv_of_nonneg _ (by exact Int.le_of_lt (Int.pow_pos (by omega)))];congr 1
   have g:min i.toNat 64=56 - 8*k:=by omega
   rw[g,I,j,yac];congr 1;have f:k < 8:=by omega
   match k,f with
   |0,_=>rfl
   |1,_=>rfl
   |2,_=>rfl
   |3,_=>rfl
   |4,_=>rfl
   |5,_=>rfl
   |6,_=>rfl
   |7,_=>
    show _++[yap (n / 2 ^ 0 % 256)]=_;rw[Nat.pow_zero,Nat.div_one];rfl
  .right;rw[yX (by simpa using l)];have f:k=8:=by omega
   subst f;exact⟨_,rfl,j⟩) (((n:Int),(56:Int),b,([]:yL yB))) ⟨0,by omega,rfl,by simp,by simp⟩ (by dsimp only;omega)
 rw[A,ya,E]
theorem ZLD{l:yL yB}(h:l.length<=4294967296):ti yD l=ab (iS l):=by
 unfold ti
 have hm:Int.tmod (l.length:Int) 64=((l.length % 64:Nat):Int):=by
  rw[Int.tmod_eq_emod_of_nonneg (by omega)];omega
 have hlt:l.length % 64 < 64:=Nat.mod_lt _ (by omega);have hle:l.length % 64<=l.length:=Nat.mod_le _ _;rw[hm,ZJ (z:=(l.length:Int) - ((l.length % 64:Nat):Int)) (by omega) (by omega)];dsimp only;rw[yW (by simp only[dX,yi,yP];omega)];have hq:((l.length:Int) - ((l.length % 64:Nat):Int)).toNat=64*(l.length / 64):=by omega
 rw[hq]
 have S:(l.drop (64*(l.length / 64))).length=l.length % 64:=by
  rw[yaz];omega
 generalize ht:l.drop (64*(l.length / 64))=t at S
 have T:Yj yD t=ab t:=by
  unfold Yj;rw[yW (ZZ (by omega) (by omega))]
 rw[T,ya,yW (ZZ (by omega) (by omega))];generalize hz:dt=z;have hzl:z.length=32:=by rw[<-hz];rfl
 have hzs:zs l.length=(119 - t.length) % 64:=by unfold zs;rw[S]
 obtain⟨o,h1,p1,p2,p3⟩:=Wz (step:=xl yD) (λs=>s.1=l/\s.2.1=z/\∃j,j<=zs l.length/\s.2.2=t++([128]:yL yB)++yx j 0) (λs=>184 - s.2.2.length)
  (λo=>o.1=l/\o.2.1=z/\o.2.2=t++([128]:yL yB)++yx (zs l.length) 0) (by
  rintro⟨a,b,c⟩ ⟨g,M,j,y,I⟩;dsimp only at g M y I;have T:c.length=t.length+1+j:=by rw[I,yl,yl,List.length_replicate];rfl
  unfold xl;dsimp only
  have hm:Int.tmod (c.length:Int) 64=((c.length % 64:Nat):Int):=by
   rw[Int.tmod_eq_emod_of_nonneg (by omega)];omega
  rw[hm];by_cases F:c.length % 64=56
  .right;rw[yX (by simp;omega)];have:j=zs l.length:=by omega
   subst this;exact⟨_,rfl,g,M,I⟩
  .left;rw[yW (by simp;omega),yW (ZZ (by omega) (by omega))];have J:j≠zs l.length:=λe=>F (by omega);refine⟨_,rfl,⟨g,M,j+1,by omega, ?_⟩, ?_⟩
   .dsimp only;rw[I,yac,List.replicate_succ',yac]
   .dsimp only;rw[yl,ycy];omega) (l,z,t++([128]:yL yB)) ⟨rfl,rfl,0,Nat.zero_le _,by simp⟩ (by dsimp only;omega)
 rw[h1,ya,p1,p2,p3,ZJ (z:=8*(l.length:Int)) (by omega) (by omega),show 8*(l.length:Int)=((8*l.length:Nat):Int) by omega,KM (by
  rw[yl,yl,List.length_replicate];simp;omega),ya]
 obtain⟨f,hf,U⟩:∃f,JW yD=ab f/\f.map ybm=lJ:=⟨_,rfl,rfl⟩;have hf8:f.length=8:=by rw[<-yad (f:=ybm),U];rfl
 rw[hf,ya];generalize hE:t++([128]:yL yB)++yx (zs l.length) 0++fp (8*l.length)=E
 have hEl:E.length=64*((t.length+72) / 64):=by
  rw[<-hE];simp only[yl,List.length_replicate,ycy,fp,yad,kb,yaf,List.length_nil];omega
 obtain⟨o3,h3,r1,r2,r3,r4⟩:=Wz (step:=xm yD) (λs=>s.2.1=z/\s.2.2.1=E/\s.2.2.2.length=8/\∃c,c<=l.length / 64/\s.1=l.drop (64*c)/\s.2.2.2.map ybm=gf c (l.map ybh) lJ) (λs=>s.1.length)
  (λx=>x.1=z/\x.2.1=E/\x.2.2.length=8/\x.2.2.map ybm=gf (l.length / 64) (l.map ybh) lJ) (by
  rintro⟨a,b,c,d⟩ ⟨g,M,y,j,I,G,Q⟩;dsimp only at g M y I G Q;have hal:a.length=l.length - 64*j:=by rw[G,yaz]
  unfold xm;dsimp only;by_cases F:(a.length:Int) >= 64
  .left;obtain⟨m,R,A⟩:=ZGS (st:=d) (l:=a.take 64) y (by rw[yaa];omega);rw[yW (yY F),yW (by simp only[dX,yi,yP];omega),R,ya,yW (by simp only[dX,yi,yP];omega)];refine⟨_,rfl,⟨g,M, ?_,j+1,by omega, ?_, ?_⟩,by dsimp only;rw[yaz];omega⟩
   .dsimp only;rw[<-yad (f:=ybm),A];exact tn (by rw[yad];exact y)
   .dsimp only;rw[G,List.drop_drop];congr 1
   .dsimp only;rw[A,KK,Q,G,List.map_take,List.map_drop]
  .right;rw[yX (by simpa using F)];have:j=l.length / 64:=by omega
   subst this;exact⟨_,rfl,g,M,y,Q⟩) (l,z,E,f) ⟨rfl,rfl,hf8,0,Nat.zero_le _,by simp,U⟩ (by dsimp only;omega)
 rw[h3,ya,r1,r2];generalize hv1:gf (l.length / 64) (l.map ybh) lJ=v1 at r4
 obtain⟨W,h4,s1,s2,s3⟩:=Wz (step:=xn yD) (λs=>s.2.1=z/\s.2.2.2.length=8/\∃c,c<=E.length / 64/\s.1=E.drop (64*c)/\s.2.2.2.map ybm=gf c (E.map ybh) v1) (λs=>s.1.length)
  (λx=>x.1=z/\x.2.2.length=8/\x.2.2.map ybm=gf (E.length / 64) (E.map ybh) v1) (by
  rintro⟨a,b,c,d⟩ ⟨g,y,j,I,G,Q⟩;dsimp only at g y I G Q;have hal:a.length=E.length - 64*j:=by rw[G,yaz]
  unfold xn;dsimp only;by_cases F:(a.length:Int) > 0
  .left;obtain⟨m,R,A⟩:=ZGS (st:=d) (l:=a.take 64) y (by rw[yaa];omega);rw[yW (yY F),yW (by simp only[dX,yi,yP];omega),R,ya,yW (by simp only[dX,yi,yP];omega)];refine⟨_,rfl,⟨g, ?_,j+1,by omega, ?_, ?_⟩,by dsimp only;rw[yaz];omega⟩
   .dsimp only;rw[<-yad (f:=ybm),A];exact tn (by rw[yad];exact y)
   .dsimp only;rw[G,List.drop_drop];congr 1
   .dsimp only;rw[A,KK,Q,G,List.map_take,List.map_drop]
  .right;rw[yX (by simpa using F)];have:j=E.length / 64:=by omega
   subst this;exact⟨_,rfl,g,y,Q⟩) (E,z,E,o3.2.2) ⟨rfl,r3,0,Nat.zero_le _,by simp,r4⟩ (by dsimp only;omega)
 rw[h4,ya];generalize hv2:gf (E.length / 64) (E.map ybh) v1=v2 at s3
 obtain⟨o5,h5,t1,t2⟩:=Wz (step:=xo yD) (λs=>0<=s.1/\s.1<=32/\s.2.1.length=32/\s.2.2.2=W.2.2/\∀(j:Nat),(j:Int) < s.1->s.2.1[j]? =ab (Go.Sha.tp v2 j)) (λs=>(32 - s.1).toNat)
  (λx=>x.1.length=32/\∀(j:Nat),j < 32->x.1[j]? =ab (Go.Sha.tp v2 j)) (by
  rintro⟨i,a,b,c⟩ ⟨h0,h32,ha,hc,X⟩;dsimp only at h0 h32 ha hc X;subst hc;unfold xo;dsimp only;by_cases F:i < 32
  .left;rw[yW (yY F)];have e1:Int.tdiv i 4=i / 4:=Int.tdiv_eq_ediv_of_nonneg h0;have e2:Int.tmod i 4=i % 4:=Int.tmod_eq_emod_of_nonneg h0;rw[e1,e2,ZJ (z:=i / 4) (by omega) (by omega),ZJ (z:=8*(i % 4)) (by omega) (by omega),ZJ (z:=24 - 8*(i % 4)) (by omega) (by omega),ZJ (z:=i+1) (by omega) (by omega)];obtain⟨x1,Y⟩:=jp (l:=W.2.2) (i:=(i / 4).toNat) (by omega);obtain⟨x2,hx2⟩:=jp (l:=a) (i:=i.toNat) (by omega);rw[yW (X8 (by omega) (by omega)),Y,ya,yW (yY (by omega))]
   try dsimp only
   rw[yW (X8 (by omega) (by omega)),hx2,ya];refine⟨_,rfl,⟨by dsimp only;omega,by dsimp only;omega,by dsimp only;rw[ybu];exact ha,rfl, ?_⟩,by dsimp only;omega⟩;intro j J;dsimp only at J ⊢;by_cases Z:j=i.toNat
   .subst Z;rw[List.getElem?_set_self (by omega)];congr 1;unfold Go.Sha.tp
    have hx:v2.getD (i.toNat / 4) 0=x1.toNat:=by
     rw[<-s3,ycx,yao,show i.toNat / 4=(i / 4).toNat by omega,Y];rfl
    rw[hx,show min (24 - 8*(i % 4)).toNat 32=24 - 8*(i.toNat % 4) by omega,tj];unfold w8;have e3:∀m:Nat,(((m:Nat):Int) % 256).toNat=m % 256:=λm=>by omega
    rw[e3,show yaj x1.toNat (24 - 8*(i.toNat % 4))=x1.toNat >>> (24 - 8*(i.toNat % 4)) from rfl,Nat.shiftRight_eq_div_pow]
    exact UInt8.toNat_inj.1 (by simp)
   .rw[List.getElem?_set_ne (Ne.symm Z)];exact X j (by omega)
  .right;rw[yX (by simpa using F)];exact⟨_,rfl,ha,λj J=>X j (by omega)⟩) ((0:Int),W.1,W.2.1,W.2.2) ⟨Int.le_refl _,by dsimp only;omega,by dsimp only;rw[s1];exact hzl,rfl,λj J=>by dsimp only at J;omega⟩ (by dsimp only;omega)
 rw[h5,ya,ZGQ];congr 1
 have hpad:lI l=(l.take (64*(l.length / 64))).map ybh++E.map ybh:=by
  unfold lI;rw[<-hE, <-ht];simp only[yaw,List.map_replicate,yah,List.map_nil,fp,List.map_map];rw[<-yac, <-yac, <-yac, <-yaw,ybb]
  have:kb (8*l.length)=(kb (8*l.length)).map (ybh ∘ yap):=by
   simp[kb]
  rw[<-this];simp
 have hw:((l.take (64*(l.length / 64))).map ybh).length=64*(l.length / 64):=by
  rw[yad,yaa];omega
 have X:v2=gf ((l.length+72) / 64) (lI l) lJ:=by
  rw[hpad,show(l.length+72) / 64=l.length / 64+E.length / 64 by omega,KJ _ _ _ _ _ hw, <-hv2, <-hv1];congr 1;have:=KJ (l.length / 64) 0 _ ((l.drop (64*(l.length / 64))).map ybh) lJ hw;rw[<-yaw,ybb,Nat.add_zero]at this;exact this
 rw[<-X];apply List.ext_getElem?;intro j;by_cases J:j < 32
 .rw[t2 j J,yao,List.getElem?_range J];rfl
 .rw[ybz (by omega),ybz (by simp;omega)]
noncomputable def tq(F:Nat)(a0:yL yB):yO aMP:=if ag (a0.length<=4294967296)=ae then ab (iS a0) else ti F a0
noncomputable def Zzd(F:Nat):Fs yb:={ KB F with M:=λx=>tq F x}
noncomputable def Zsh:Fs yb:=Zzd yD
theorem Zze:Zsh.Ok:=wW (s:=KB yD) ZwQ λx=>by
 show tq yD x=ti yD x;unfold tq;split
 .rename_i h;exact(ZLD (yF h)).symm
 .rfl
theorem ZJg{l:yL yB}(h:l.length<=4294967296):tq yD l=ab (iS l):=yW (yY h)
end Go.Proofs.YtcbhhaigilifgaaGreat
end
section
set_option maxRecDepth 4000
namespace Go.Proofs.YtcbhhaigilifgaaGreat
open Go Go.Ev
noncomputable section
def ZgV:Fs yb:=⟨149,[.nil .u8,.v yI],[],[yI],Qw.xs,λx=>Qw.M (x,([]:yL yB))⟩
theorem Znc:ZgV.Ok:=ZLh (i1:=[yI]) (i2:=[yI,aMQ]) (λx=>(x,([]:yL yB))) KA (λ_=>rfl) (λ_=>⟨_,rfl⟩)
abbrev _root_.aNp:=yL aMP
def Q8(F:Nat):(aNp×Int×Int×aMP×aMP)->yO ((aNp×Int×Int×aMP×aMP)⊕(aMP×aMP))
 |(c,b,a,e,d)=>
 if(ag (a < b))=ae then
  (idx c a).bind λf=>
  (WT F (f.length:Int) d).bind λg=>
  if(cj g.length f.length 1)=ae then
   ab (.inl (c,b,wi (a+1),e,g++f))
  else
  ad
 else
 ab (.inr (e,d))
abbrev _root_.aNq:Go.Ev.Ty:=.sl aMQ
def ZpE:Lp:=⟨[(4,.aj 0 []),(5,.own 1 .u8),(13,.v aNq),(14,.v yI),(15,.v yI)],zG,[aNq,yI,yI,aMU,aMQ],[⟨.exit 0,[(4,.aj 0 []),(5,.own 1 .u8)],zG,[aMU,aMQ]⟩],Zc (Q8 yD) yD⟩
def pY:HI:={ own:=[5,10,12,19,22,24],still:=[9,19,21,26]}
theorem Zsi:ZpE.bR yb 76 0:=ZG pY [] [Qw] ⟨KA,aw⟩
def VT(F:Nat)(a0:ByteArray)(a1:aNp):yO (aMP):=
 (WT F (a0.size:Int) []).bind λa=>
 if(cj a.length ((gn a0).length) 1)=ae then
  (Zc (Q8 F) F (a1,(a1.length:Int),0,dt,a++(gn a0))).bind λb=>
  (tq F b.2).bind λc=>
  ab c
 else
 ad
def Qx:Fs yb:=⟨76,[.v .str,.v aNq],[],[.str,aNq],(zN aMU),λx=>VT yD x.1 x.2⟩
theorem Qy:Qx.Ok:=be pY [(0,ZpE)] [ZgV,Zsh] ⟨Znc,Zze,aw⟩ ⟨Zsi,aw⟩
def Y9(F:Nat):(aNp×Int×aNp×Int×Int)->yO ((aNp×Int×aNp×Int×Int)⊕(aNp×Int))
 |(e,d,c,b,a)=>
 if(ag (a < b))=ae then
  (idx c a).bind λf=>
  if(ag ((wi (d+(f.length:Int))) < 0))=ae then
   ad
  else
  ab (.inl (e,wi (d+(f.length:Int)),c,b,wi (a+1)))
 else
 ab (.inr (e,d))
def Qz:Lp:=⟨[(0,.v aNq),(3,.v yI),(9,.v aNq),(10,.v yI),(11,.v yI)],[],[aNq,yI,aNq,yI,yI],[⟨.exit 0,[(0,.v aNq),(3,.v yI)],[],[aNq,yI]⟩],Zc (Y9 yD) yD⟩
def hi3:HI:={ own:=[6,24,31,33],still:=[2,23]}
theorem Zc9:Qz.bR yb 199 0:=ZG hi3 [] [] trivial
def Zbi:Fs yb:=⟨221,[.nil .u8,.v yI],[],[.int .i64],[⟨.ret,[(0,.own 0 .u8)],[.log .u8 5],[.sl .u8]⟩],oq⟩
theorem Zgh:Zbi.Ok:=ZI0 ZGy
def Xa(F:Nat)(s:(aNp×Int×Int×aMP)):yO ((aNp×Int×Int×aMP)⊕aMP):=
 if(ag (s.2.2.1 < s.2.1))=ae then
  (idx s.1 s.2.2.1).bind λa=>
  if(cj s.2.2.2.length a.length 1)=ae then
   ab (.inl (s.1,s.2.1,wi (s.2.2.1+1),s.2.2.2++a))
  else
  ad
 else
 ab (.inr s.2.2.2)
def QA:Lp:=⟨[(6,.own 0 .u8),(25,.v aNq),(26,.v yI),(27,.v yI)],[.log .u8 5],[aNq,yI,yI,aMQ],[⟨.exit 2,[(6,.own 0 .u8)],[.log .u8 5],[aMQ]⟩],Zc (Xa yD) yD⟩
theorem Zda:QA.bR yb 199 1:=ZG hi3 [] [] trivial
def YS(F:Nat)(a0:aNp):yO (aMP):=
 (Zc (Y9 F) F (a0,0,a0,(a0.length:Int),0)).bind λa=>
 (oq a.2).bind λb=>
 (Zc (Xa F) F (a.1,(a.1.length:Int),0,b)).bind λc=>
 ab c
def Wy:Fs yb:=⟨199,[.v aNq],[],[aNq],(zN aMQ),λx=>YS yD x⟩
theorem QB:Wy.Ok:=be hi3 [(0,Qz),(1,QA)] [Zbi] ⟨Zgh,aw⟩ ⟨Zc9,Zda,aw⟩
def oA(F:Nat)(a0:aMP)(a1:aMP):yO (aMP):=
 (YS F [a0,a1]).bind λa=>
 ab a
def xx:Fs yb:=⟨165,[.v aMQ,.v aMQ],[],[aMQ,aMQ],(zN aMQ),λx=>oA yD x.1 x.2⟩
theorem KN:xx.Ok:=be { still:=[4,7]} [] [Wy] ⟨QB,aw⟩
def xy(F:Nat)(s:(Int×aMP)):yO ((Int×aMP)⊕(Int×aMP)):=
 if(ag (s.1 >= 128))=ae then
  if(cj s.2.length 1 1)=ae then
   let a:aMP:=s.2++([w8 (wi ((Int.tmod s.1 128)+128))]:yL yB)
   ab (.inl (wi (Int.tdiv s.1 128),a))
  else
  ad
 else
 ab (.inr (s.1,s.2))
def ZpF:Lp:=⟨[(0,.v yI),(3,.own 0 .u8)],[.log .u8 5],[yI,aMQ],[⟨.exit 0,[(0,.v yI),(3,.own 0 .u8)],[.log .u8 5],[yI,aMQ]⟩],Zc (xy yD) yD⟩
def hi4:HI:={ own:=[3,8,14,15,19],still:=[2]}
theorem Zsj:ZpF.bR yb 166 0:=ZG hi4 [] [] trivial
def tx(F:Nat)(a0:Int):yO (aMP):=
 (Zc (xy F) F (a0,[])).bind λa=>
 if(cj a.2.length 1 1)=ae then
  ab (a.2++([w8 a.1]:yL yB))
 else
 ad
def KO:Fs yb:=⟨166,[.v yI],[],[yI],(zN aMQ),λx=>tx yD x⟩
theorem ZpG:KO.Ok:=be hi4 [(0,ZpF)] [] trivial ⟨Zsj,aw⟩
def XS(F:Nat)(a0:aMP)(a1:Int):yO (aMP):=
 if(ag (a1 < 0))=ae then
  (oA F a0 []).bind λa=>
  ab a
 else
 (tx F a1).bind λb=>
 (oA F a0 b).bind λc=>
 ab c
def oB:Fs yb:=⟨96,[.v aMQ,.v yI],[],[aMQ,yI],(zN aMQ),λx=>XS yD x.1 x.2⟩
theorem pZ:oB.Ok:=be { still:=[4,7,9,10,11]} [] [xx,KO] ⟨KN,ZpG,aw⟩
def xz(F:Nat)(a0:aMP)(a1:aMP):yO (aMP):=
 (oA F a0 a1).bind λa=>
 ab a
def Zjq:Fs yb:=⟨151,[.v aMQ,.v aMU],[],[aMQ,aMU],(zN aMQ),λx=>xz yD x.1 x.2⟩
theorem Zqh:Zjq.Ok:=be { still:=[4,5,6],eD:=[6]} [] [xx] ⟨KN,aw⟩
def xA(F:Nat)(a0:aMP)(a1:aMP):yO (aMP):=
 (tx F (a1.length:Int)).bind λa=>
 (YS F [a0,a,a1]).bind λb=>
 ab b
def Zio:Fs yb:=⟨152,[.v aMQ,.v aMQ],[],[aMQ,aMQ],(zN aMQ),λx=>xA yD x.1 x.2⟩
theorem ZoK:Zio.Ok:=be { still:=[4,7,10]} [] [KO,Wy] ⟨ZpG,QB,aw⟩
def xB(F:Nat)(s:(aMP×yU×Int×aMP)):yO ((aMP×yU×Int×aMP)⊕(aMP×aMP)):=
 if(ag (s.2.2.1 < 8))=ae then
  if(ag (0<=wi (56 - (wi (8*s.2.2.1)))))=ae then
   let a:yU:=ZB s.2.1 (min (wi (56 - (wi (8*s.2.2.1)))).toNat 64)
   if(bi s.2.2.1 8)=ae then
    (s.2.2.2[s.2.2.1.toNat]?).bind λb=>
    let c:aMP:=s.2.2.2.set s.2.2.1.toNat (w8 (a.toNat:Int))
    ab (.inl (s.1,s.2.1,wi (s.2.2.1+1),c))
   else
   ad
  else
  ad
 else
 ab (.inr (s.1,s.2.2.2))
abbrev _root_.aNn:Go.Ev.Ty:=.arr 8 .u8
def Zjr:Lp:=⟨[(0,.v aMQ),(1,.v .u64),(5,.aj 0 []),(7,.v yI)],[.var (.v aNn) ae],[aMQ,.u64,yI,aNn],[⟨.exit 0,[(0,.v aMQ),(5,.aj 0 [])],[.var (.v aNn) ae],[aMQ,aNn]⟩],Zc (xB yD) yD⟩
theorem Znd:Zjr.bR yb 97 0:=ZG { still:=[4,19,20],eD:=[20]} [] [] trivial
def WE(F:Nat)(a0:aMP)(a1:yU):yO (aMP):=
 (Zc (xB F) F (a0,a1,0,[0,0,0,0,0,0,0,0])).bind λa=>
 (oA F a.1 a.2).bind λb=>
 ab b
def tz:Fs yb:=⟨97,[.v aMQ,.v .u64],[],[aMQ,.u64],(zN aMQ),λx=>WE yD x.1 x.2⟩
theorem xC:tz.Ok:=be { still:=[4,19,20],eD:=[20]} [(0,Zjr)] [xx] ⟨KN,aw⟩ ⟨Znd,aw⟩
def QC(F:Nat):(aMP×aNi×Int×Int×aMY×Int×Int×Z4×ZR)->yO ((aMP×aNi×Int×Int×aMY×Int×Int×Z4×ZR)⊕(aMP×aNi×Int×Int×Z4×ZR))
 |(d,e,f,g,c,b,a,h,i)=>
 if(ag (a < b))=ae then
  (idx c a).bind λj=>
  (WE F d j).bind λk=>
  ab (.inl (k,e,f,g,c,b,wi (a+1),h,i))
 else
 ab (.inr (d,e,f,g,h,i))
abbrev tL0:yL Ty:=[aMQ,aNl,yI,yI,aMX,yI,yI,Ya,Z3]
def Zk8:Lp:=⟨[(3,.v aMQ),(5,.aj 1 []),(16,.v aNl),(17,.v yI),(18,.v yI),(28,.v aMX),(29,.v yI),(30,.v yI)],[.var (.v Ya) ae,.var (.v Z3) ae],tL0,[⟨.exit 2,[(3,.v aMQ),(5,.aj 1 []),(16,.v aNl),(17,.v yI),(18,.v yI)],[.var (.v Ya) ae,.var (.v Z3) ae],[aMQ,aNl,yI,yI,Ya,Z3]⟩],Zc (QC yD) yD⟩
def hi5:HI:={ still:=[2,8,13,22,25,34,35,38,40,41,43,44,46]}
theorem ZoL:Zk8.bR yb 153 1:=ZG hi5 [] [tz] ⟨xC,aw⟩
def xD(F:Nat):(aMP×aNi×Int×Int×Z4)->yO ((aMP×aNi×Int×Int×Z4)⊕(aMP×Z4))
 |(j,i,h,g,k)=>
 if(ag (g < h))=ae then
  (idx i g).bind λl=>
  (XS F j (l.1.length:Int)).bind λm=>
  (Zc (QC F) F (m,i,h,g,l.1,(l.1.length:Int),0,k,l)).bind λ(a,c,d,e,f,b)=>
  (XS F a b.2.1).bind λn=>
  (XS F n b.2.2.1).bind λo=>
  (WE F o b.2.2.2).bind λp=>
  ab (.inl (p,c,d,wi (e+1),f))
 else
 ab (.inr (j,k))
def Zk9:Lp:=⟨[(3,.v aMQ),(16,.v aNl),(17,.v yI),(18,.v yI)],[.var (.v Ya) ae],[aMQ,aNl,yI,yI,Ya],[⟨.exit 0,[(3,.v aMQ)],[.var (.v Ya) ae],[aMQ,Ya]⟩],Zc (xD yD) yD⟩
theorem ZoM:Zk9.bR yb 153 0:=ZG hi5 [(1,Zk8)] [oB,tz] ⟨pZ,xC,aw⟩ ⟨ZoL,aw⟩
def qa(F:Nat)(a0:Z4):yO (aMP):=
 (XJ F a0).bind λa=>
 if(!a)=ae then
  ab []
 else
 (XS F [] (a0.length:Int)).bind λb=>
 (Zc (xD F) F (b,a0,(a0.length:Int),0,a0)).bind λc=>
 ab c.1
def xE:Fs yb:=⟨153,[.v Ya],[],[Ya],(zN aMQ),λx=>qa yD x⟩
theorem KP:xE.Ok:=be hi5 [(0,Zk9)] [Q3,oB] ⟨tf,pZ,aw⟩ ⟨ZoM,aw⟩
def xF(F:Nat):(aMP×aMZ×Int×Int×Tx)->yO ((aMP×aMZ×Int×Int×Tx)⊕(aMP×Tx))
 |(d,c,b,a,e)=>
 if(ag (a < b))=ae then
  (idx c a).bind λf=>
  (xz F d f.1.1).bind λg=>
  (XS F g f.1.2).bind λh=>
  ab (.inl (h,c,b,wi (a+1),e))
 else
 ab (.inr (d,e))
def ZpH:Lp:=⟨[(1,.aj 0 []),(3,.v aMQ),(13,.v aNc),(14,.v yI),(15,.v yI)],[.var (.v bu) ae],[aMQ,aNc,yI,yI,bu],[⟨.exit 0,[(1,.aj 0 []),(3,.v aMQ)],[.var (.v bu) ae],[aMQ,bu]⟩],Zc (xF yD) yD⟩
def KQ:HI:={ still:=[2,10,19,22,23,26,29,32,41,43,44,46,47,50,52]}
theorem Zsk:ZpH.bR yb 77 0:=ZG KQ [] [Zjq,oB] ⟨Zqh,pZ,aw⟩
def xG(F:Nat):(aMP×aNf×Int×Int×Tx)->yO ((aMP×aNf×Int×Int×Tx)⊕(aMP×Tx))
 |(d,c,b,a,e)=>
 if(ag (a < b))=ae then
  (idx c a).bind λf=>
  (XS F d f.1).bind λg=>
  (qa F f.2).bind λh=>
  (xA F g h).bind λi=>
  ab (.inl (i,c,b,wi (a+1),e))
 else
 ab (.inr (d,e))
def ZpI:Lp:=⟨[(1,.aj 0 []),(3,.v aMQ),(35,.v aNj),(36,.v yI),(37,.v yI)],[.var (.v bu) ae],[aMQ,aNj,yI,yI,bu],[⟨.exit 2,[(1,.aj 0 []),(3,.v aMQ)],[.var (.v bu) ae],[aMQ,bu]⟩],Zc (xG yD) yD⟩
theorem Zsl:ZpI.bR yb 77 1:=ZG KQ [] [oB,xE,Zio] ⟨pZ,KP,ZoK,aw⟩
def tA(F:Nat)(a0:Tx):yO (aMP):=
 (XS F [] (a0.1.length:Int)).bind λa=>
 (Zc (xF F) F (a,a0.1,(a0.1.length:Int),0,a0)).bind λb=>
 (XS F b.1 (b.2.2.1.length:Int)).bind λc=>
 (Zc (xG F) F (c,b.2.2.1,(b.2.2.1.length:Int),0,b.2)).bind λd=>
 (XS F d.1 d.2.2.2).bind λe=>
 ab e
def KR:Fs yb:=⟨77,[.v bu],[],[bu],(zN aMQ),λx=>tA yD x⟩
theorem ZpJ:KR.Ok:=be KQ [(0,ZpH),(1,ZpI)] [oB] ⟨pZ,aw⟩ ⟨Zsk,Zsl,aw⟩
def ZKd:ByteArray:=⟨#[116,120]⟩
def eC(F:Nat)(a0:Tx):yO (aMP):=
 (Q6 F a0).bind λa=>
 if(!a)=ae then
  ab dt
 else
 (tA F a0).bind λb=>
 (VT F ZKd [b]).bind λc=>
 ab c
def KS(F:Nat):Fs yb:=⟨33,[.v bu],[],[bu],(zN aMU),λx=>eC F x⟩
def KT:Fs yb:=KS yD
theorem KU:KT.Ok:=be { still:=[3,7,9]} [] [th,KR,Qx] ⟨xh,ZpJ,Qy,aw⟩
def qb(F:Nat):(Int×Int×Tx×(yL ZK)×aMP)->yO ((Int×Int×Tx×(yL ZK)×aMP)⊕(Tx×(yL ZK)×aMP))
 |(b,a,e,c,d)=>
 if(ag (a < b))=ae then
  if(cj c.length 1 40)=ae then
   let f:(yL ZK):=c++([(d,a)]:yL ZK)
   ab (.inl (b,wi (a+1),e,f,d))
  else
  ad
 else
 ab (.inr (e,c,d))
def Zso:Lp:=⟨[(2,.own 1 ZQ),(3,.aj 2 []),(12,.v yI),(13,.v yI)],[.var (.v bu) ae,.log ZQ 25,.var (.v aMU) ae],[yI,yI,bu,(.sl ZQ),aMU],[⟨.exit 0,[(2,.own 1 ZQ)],[.var (.v bu) ae,.log ZQ 25,.var (.v aMU) ae],[bu,(.sl ZQ),aMU]⟩],Zc (qb yD) yD⟩
def tB:HI:={ own:=[2,16,21,23],still:=[2,5,7]}
theorem ZtV:Zso.bR yb 19 0:=ZG tB [] [] trivial
def oC(F:Nat)(a0:Tx):yO ((yL ZK)):=
 (eC F a0).bind λa=>
 (Q6 F a0).bind λb=>
 if(!b)=ae then
  ab []
 else
 (Zc (qb F) F ((a0.2.1.length:Int),0,a0,[],a)).bind λc=>
 ab c.2.1
def KV:Fs yb:=⟨19,[.v bu],[],[bu],(zN (.sl ZQ)),λx=>oC yD x⟩
theorem Zsp:KV.Ok:=be tB [(0,Zso)] [KT,th] ⟨KU,xh,aw⟩ ⟨ZtV,aw⟩
def xH(F:Nat):(Int×aNb×Int×Int×yG)->yO ((Int×aNb×Int×Int×yG)⊕(Int×yG))
 |(d,c,b,a,e)=>
 if(ag (a < b))=ae then
  (idx c a).bind λf=>
  ab (.inl (wi (d+f.2.2.1),c,b,wi (a+1),e))
 else
 ab (.inr (d,e))
def Zjs:Lp:=⟨[(3,.v yI),(14,.v aMT),(15,.v yI),(16,.v yI)],[.var (.v Zb) ae],[yI,aMT,yI,yI,Zb],[⟨.exit 0,[(3,.v yI)],[.var (.v Zb) ae],[yI,Zb]⟩],Zc (xH yD) yD⟩
theorem Zne:Zjs.bR yb 21 0:=ZG { still:=[2]} [] [] trivial
def Q9(F:Nat)(a0:yG):yO (Int):=
 (a0.2.1[0]?).bind λa=>
 (a0.2.1[1]?).bind λb=>
 (Zc (xH F) F (wi (a+b),a0.2.2.1,(a0.2.2.1.length:Int),0,a0)).bind λc=>
 ab c.1
def KW:Fs yb:=⟨21,[.v Zb],[],[Zb],(zN yI),λx=>Q9 yD x⟩
theorem Zjt:KW.Ok:=be { still:=[2]} [(0,Zjs)] [] trivial ⟨Zne,aw⟩
def XL(F:Nat)(a0:Int)(a1:Int)(a2:Int):yO (Bool):=
 if(ag (a1<=a0))=ae then
  ab (ag (a0<=a2))
 else
 ab af
def Zip:Fs yb:=⟨156,[.v yI,.v yI,.v yI],[],[yI,yI,yI],(zN .bool),λx=>XL yD x.1 x.2.1 x.2.2⟩
theorem ZoO:Zip.Ok:=be { still:=[6]} [] [] trivial
abbrev kf:Ty:=(.st [yI,yI,yI,yI,yI,yI])
abbrev bz:Type:=(Int×Int×Int×Int×Int×Int)
def xI(F:Nat)(a0:bz):yO (Bool):=
 (XL F a0.1 0 65536).bind λa=>
 if a=ae then
  (XL F a0.2.2.1 1 4096).bind λb=>
  if b=ae then
   (XL F a0.2.2.2.1 0 16).bind λc=>
   if c=ae then
    (XL F a0.2.1 a0.1 1125899906842624).bind λd=>
    if d=ae then
     (XL F a0.2.2.2.2.1 1 1125899906842624).bind λe=>
     if e=ae then
      (XL F a0.2.2.2.2.2 0 1125899906842624).bind λf=>
      ab f
     else
     ab af
    else
    ab af
   else
   ab af
  else
  ab af
 else
 ab af
def Zla:Fs yb:=⟨83,[.v kf],[],[kf],(zN .bool),λx=>xI yD x⟩
def hi8:HI:={ still:=[2,7,12,18,25,27,33,39]}
theorem Zsq:Zla.Ok:=be hi8 [] [Zip] ⟨ZoO,aw⟩
def xJ(F:Nat)(a0:yU):yO (Bool):=
 if(a0==1)=ae then
  ab ae
 else
 (Xc F a0).bind λa=>
 ab (!a)
def ZgY:Fs yb:=⟨157,[.v .u64],[],[.u64],(zN .bool),λx=>xJ yD x⟩
theorem Znf:ZgY.Ok:=be { still:=[2,6]} [] [WS] ⟨W9,aw⟩
abbrev xK:Ty:=(.st [.u64,.u64,.u64,.u64,.u64])
abbrev bn:Type:=(yU×yU×yU×yU×yU)
abbrev bn.Cond(x:bn):yU:=x.2.2.2.1
def XM(F:Nat)(s:(aMY×Int×Int)):yO ((aMY×Int×Int)⊕(Int⊕Unit)):=
 if(ag (s.2.2 < s.2.1))=ae then
  (idx s.1 s.2.2).bind λa=>
  (xJ F a).bind λb=>
  if b=ae then
   ab (.inr (.inl s.2.2))
  else
  ab (.inl (s.1,s.2.1,wi (s.2.2+1)))
 else
 ab (.inr (.inr ()))
def ZdD:Lp:=⟨[(0,.v aMX),(1,.fn 157 []),(7,.v yI),(8,.v yI)],[],[aMX,yI,yI],[⟨.ret,[(4,.v yI)],[],[yI]⟩,⟨.exit 0,[],[],[]⟩],Zc (XM yD) yD⟩
theorem ZhQ:ZdD.bR yb 196 0:=ZG { still:=[4,15]} [] [ZgY] ⟨Znf,aw⟩
def KX(F:Nat)(a0:aMY):yO (Int):=
 (Zc (XM F) F (a0,(a0.length:Int),0)).bind λa=>
 match a with
 |.inl b=>
  ab b
 |.inr c=>
  ab (-1)
def ZeV:Fs yb:=⟨196,[.v aMX,.fn 157 []],[],[aMX],(zN yI),λx=>KX yD x⟩
theorem ZkN:ZeV.Ok:=be { still:=[4,15]} [(0,ZdD)] [] trivial ⟨ZhQ,aw⟩
def KY(F:Nat)(a0:aMY):yO (Bool):=
 (KX F a0).bind λa=>
 ab (ag (a >= 0))
def Zju:Fs yb:=⟨147,[.v aMX,.fn 157 []],[],[aMX],(zN .bool),λx=>KY yD x⟩
theorem Zqi:Zju.Ok:=be { still:=[4,5,6]} [] [ZeV] ⟨ZkN,aw⟩
def xL(F:Nat)(a0:bn):yO (Bool):=
 (KY F [a0.1,a0.2.1,a0.2.2.1,a0.2.2.2.1,a0.2.2.2.2]).bind λa=>
 ab (!a)
def Zjv:Fs yb:=⟨84,[.v xK],[],[xK],(zN .bool),λx=>xL yD x⟩
theorem Zqj:Zjv.Ok:=be { still:=[2,14,15]} [] [Zju] ⟨Zqi,aw⟩
abbrev Zi:Ty:=(.st [ZQ,yI,(.arr 2 xK),(.arr 2 kf),yI])
abbrev Chan:Type:=(ZK×Int×(yL bn)×(yL bz)×Int)
abbrev Chan.bn(x:Chan):(yL bn):=x.2.2.1
abbrev Chan.bz(x:Chan):(yL bz):=x.2.2.2.1
def VU(F:Nat)(s:((yL bz)×Int×Chan)):yO (((yL bz)×Int×Chan)⊕((Int×Chan)⊕Chan)):=
 if(ag (s.2.1 < 2))=ae then
  (idx s.1 s.2.1).bind λa=>
  (xI F a).bind λb=>
  if(!b)=ae then
   ab (.inr (.inl (1,s.2.2)))
  else
  if(bi s.2.1 2)=ae then
   (s.2.2.2.2.1[s.2.1.toNat]?).bind λc=>
   (xL F c).bind λd=>
   if(!d)=ae then
    ab (.inr (.inl (1,s.2.2)))
   else
   ab (.inl (s.1,wi (s.2.1+1),s.2.2))
  else
  ad
 else
 ab (.inr (.inr s.2.2))
def Znh:Lp:=⟨[(1,.aj 0 []),(34,.v (.arr 2 kf)),(35,.v yI)],[.var (.v Zi) ae],[(.arr 2 kf),yI,Zi],[⟨.ret,[(2,.v yI)],[.var (.v Zi) ae],[yI,Zi]⟩,⟨.exit 0,[(1,.aj 0 [])],[.var (.v Zi) ae],[Zi]⟩],Zc (VU yD) yD⟩
theorem Zqk:Znh.bR yb 40 0:=ZG { still:=[2,39,46,55,59]} [] [Zla,Zjv] ⟨Zsq,Zqj,aw⟩
def Wt(F:Nat)(a0:Chan):yO (Int):=
 if(ag (a0.2.1 < 1))=ae then
  ab 1
 else
 if(ag (a0.2.1 > 1125899906842624))=ae then
  ab 1
 else
 if(ag (a0.1.2 < 0))=ae then
  ab 1
 else
 if(ag (a0.1.2 >= 64))=ae then
  ab 1
 else
 if((bits .andNot .i64 a0.2.2.2.2 1)!=0)=ae then
  ab 1
 else
 (Zc (VU F) F (a0.2.2.2.1,0,a0)).bind λa=>
 match a with
 |.inl b=>
  ab b.1
 |.inr c=>
  (c.2.2.2.1[0]?).bind λd=>
  (c.2.2.2.1[1]?).bind λe=>
  (Qt F d.2.1 e.2.1).bind λf=>
  if(!f.2)=ae then
   ab 10
  else
  if(ag (f.1 > c.2.1))=ae then
   ab 10
  else
  ab 0
def KZ:Fs yb:=⟨40,[.v Zi],[],[Zi],(zN yI),λx=>Wt yD x⟩
theorem Zni:KZ.Ok:=be { still:=[2,39,46,55,59]} [(0,Znh)] [JV] ⟨Zsb,aw⟩ ⟨Zqk,aw⟩
def xM(F:Nat)(a0:Int)(s0:Int)(s1:Int):yO ((Bool×Int×Int)):=
 if(ag (a0 < s0))=ae then
  ab (ae,s0,s1)
 else
 ab (ag (a0 > s1),s0,s1)
def ZgZ:Fs yb:=⟨120,[.v yI,.aj 0 [],.aj 1 []],[.var (.v yI) ae,.var (.v yI) ae],[yI,yI,yI],[⟨.ret,[(0,.v .bool)],[.var (.v yI) ae,.var (.v yI) ae],[.bool,yI,yI]⟩],λx=>xM yD x.1 x.2.1 x.2.2⟩
theorem Znj:ZgZ.Ok:=be { still:=[4]} [] [] trivial
def ZS(F:Nat):(aNd×Int×Int×Int×Int)->yO ((aNd×Int×Int×Int×Int)⊕((Int×Int×Int)⊕(Int×Int)))
 |(c,b,a,d,e)=>
 if(ag (a < b))=ae then
  (idx c a).bind λf=>
  (xM F f d e).bind λg=>
  if g.1=ae then
   ab (.inr (.inl (a,g.2.1,g.2.2)))
  else
  ab (.inl (c,b,wi (a+1),g.2.1,g.2.2))
 else
 ab (.inr (.inr (d,e)))
abbrev _root_.aNo:Go.Ev.Ty:=.sl yI
def V9:Lp:=⟨[(0,.v aNo),(1,.fn 120 [.aj 0 [],.aj 1 []]),(7,.v yI),(8,.v yI)],[.var (.v yI) ae,.var (.v yI) ae],[aNo,yI,yI,yI,yI],[⟨.ret,[(4,.v yI)],[.var (.v yI) ae,.var (.v yI) ae],[yI,yI,yI]⟩,⟨.exit 0,[],[.var (.v yI) ae,.var (.v yI) ae],[yI,yI]⟩],Zc (ZS yD) yD⟩
theorem Zcl:V9.bR yb 181 0:=ZG { still:=[4,15]} [] [ZgZ] ⟨Znj,aw⟩
def Xt(F:Nat)(a0:aNd)(s0:Int)(s1:Int):yO ((Int×Int×Int)):=
 (Zc (ZS F) F (a0,(a0.length:Int),0,s0,s1)).bind λa=>
 match a with
 |.inl b=>
  ab (b.1,b.2.1,b.2.2)
 |.inr c=>
  ab ((-1),c.1,c.2)
def QD:Fs yb:=⟨181,[.v aNo,.fn 120 [.aj 0 [],.aj 1 []]],[.var (.v yI) ae,.var (.v yI) ae],[aNo,yI,yI],[⟨.ret,[(0,.v yI)],[.var (.v yI) ae,.var (.v yI) ae],[yI,yI,yI]⟩],λx=>Xt yD x.1 x.2.1 x.2.2⟩
theorem Zd7:QD.Ok:=be { still:=[4,15]} [(0,V9)] [] trivial ⟨Zcl,aw⟩
def YV(F:Nat)(a0:aNd)(s0:Int)(s1:Int):yO ((Bool×Int×Int)):=
 (Xt F a0 s0 s1).bind λa=>
 ab (ag (a.1 >= 0),a.2.1,a.2.2)
def Vm:Fs yb:=⟨119,[.v aNo,.fn 120 [.aj 0 [],.aj 1 []]],[.var (.v yI) ae,.var (.v yI) ae],[aNo,yI,yI],[⟨.ret,[(0,.v .bool)],[.var (.v yI) ae,.var (.v yI) ae],[.bool,yI,yI]⟩],λx=>YV yD x.1 x.2.1 x.2.2⟩
theorem Zcm:Vm.Ok:=be { still:=[4,5,6]} [] [QD] ⟨Zd7,aw⟩
def Ye(F:Nat)(a0:Int)(a1:Int)(a2:aNd):yO (Bool):=
 (YV F a2 a0 a1).bind λa=>
 ab (!a.1)
def LA:Fs yb:=⟨59,[.v yI,.v yI,.v aNo],[],[yI,yI,aNo],(zN .bool),λx=>Ye yD x.1 x.2.1 x.2.2⟩
theorem Ziq:LA.Ok:=be { still:=[6,7,8]} [] [Vm] ⟨Zcm,aw⟩
def tC(F:Nat)(a0:Cond):yO (Bool):=
 (Ye F 0 1 [a0.1]).bind λa=>
 if a=ae then
  (Ye F 1 1048576 [a0.2.1]).bind λb=>
  if b=ae then
   (Ye F 1 1125899906842624 [a0.2.2.1]).bind λc=>
   if c=ae then
    (Ye F 1 1048576 [a0.2.2.2.2]).bind λd=>
    if d=ae then
     (Xc F a0.2.2.2.1).bind λe=>
     if e=ae then
      ab (a0.2.2.2.1 !=1)
     else
     ab af
    else
    ab af
   else
   ab af
  else
  ab af
 else
 ab af
def LB:Fs yb:=⟨60,[.v Zm],[],[Zm],(zN .bool),λx=>tC yD x⟩
theorem Zlb:LB.Ok:=be { still:=[2,5,10,16,22,27]} [] [LA,WS] ⟨Ziq,W9,aw⟩
def Va(F:Nat)(s:(Int×aNd×Int×Int)):yO ((Int×aNd×Int×Int)⊕(Int⊕Int)):=
 if(ag (s.2.2.2 < s.2.2.1))=ae then
  (idx s.2.1 s.2.2.2).bind λa=>
  if(a !=s.1)=ae then
   ab (.inr (.inl a))
  else
  ab (.inl (s.1,s.2.1,s.2.2.1,wi (s.2.2.2+1)))
 else
 ab (.inr (.inr s.1))
def Zlc:Lp:=⟨[(3,.v yI),(6,.v aNo),(7,.v yI),(8,.v yI)],[],[yI,aNo,yI,yI],[⟨.ret,[(2,.v yI)],[],[yI]⟩,⟨.exit 0,[(3,.v yI)],[],[yI]⟩],Zc (Va yD) yD⟩
theorem ZoP:Zlc.bR yb 121 0:=ZG { still:=[2]} [] [] trivial
def tD(F:Nat)(a0:aNd):yO (Int):=
 (Zc (Va F) F (0,a0,(a0.length:Int),0)).bind λa=>
 match a with
 |.inl b=>
  ab b
 |.inr c=>
  ab c
def LC:Fs yb:=⟨121,[.v aNo],[],[aNo],(zN yI),λx=>tD yD x⟩
theorem Zld:LC.Ok:=be { still:=[2]} [(0,Zlc)] [] trivial ⟨ZoP,aw⟩
def xN(F:Nat)(a0:Int):yO (Bool):=
 ab (a0 !=a0)
def Zir:Fs yb:=⟨182,[.v yI],[],[yI],(zN .bool),λx=>xN yD x⟩
theorem ZoQ:Zir.Ok:=be { still:=[2]} [] [] trivial
def YD(F:Nat)(a0:Int)(a1:Int):yO (Int):=
 (xN F a0).bind λa=>
 (xN F a1).bind λb=>
 if a=ae then
  if b=ae then
   ab 0
  else
  ab (-1)
 else
 if b=ae then
  ab 1
 else
 if(ag (a0 < a1))=ae then
  ab (-1)
 else
 if(ag (a0 > a1))=ae then
  ab 1
 else
 ab 0
def LD:Fs yb:=⟨122,[.v yI,.v yI],[],[yI,yI],(zN yI),λx=>YD yD x.1 x.2⟩
theorem ZeX:LD.Ok:=be { still:=[4,7,9]} [] [Zir] ⟨ZoQ,aw⟩
def qc(F:Nat)(a0:Cond)(a1:Cond):yO (Int):=
 (YD F a0.1 a1.1).bind λa=>
 (YD F a0.2.1 a1.2.1).bind λb=>
 (tD F [a,b]).bind λc=>
 ab c
def xO:Fs yb:=⟨61,[.v Zm,.v Zm],[],[Zm,Zm],(zN yI),λx=>qc yD x.1 x.2⟩
theorem LF:xO.Ok:=be { still:=[4,6,8,11,13,15]} [] [LD,LC] ⟨ZeX,Zld,aw⟩
def Qa(F:Nat):(Int×Int×Int×aNb×Int×Int×yG)->yO ((Int×Int×Int×aNb×Int×Int×yG)⊕(Int×Int×yG))
 |(d,e,f,c,b,a,g)=>
 if(ag (a < b))=ae then
  (idx c a).bind λh=>
  if(h.1==(wi (1 - d)))=ae then
   ab (.inl (d,wi (e+1),wi (f+h.2.2.1),c,b,wi (a+1),g))
  else
  ab (.inl (d,e,f,c,b,wi (a+1),g))
 else
 ab (.inr (e,f,g))
def Zg0:Lp:=⟨[(1,.v yI),(6,.v yI),(7,.v yI),(11,.v aMT),(12,.v yI),(13,.v yI)],[.var (.v Zb) ae],[yI,yI,yI,aMT,yI,yI,Zb],[⟨.exit 0,[(6,.v yI),(7,.v yI)],[.var (.v Zb) ae],[yI,yI,Zb]⟩],Zc (Qa yD) yD⟩
theorem ZkO:Zg0.bR yb 62 0:=ZG { still:=[4,5]} [] [] trivial
def QE(F:Nat)(a0:yG)(a1:Int):yO ((Int×Int)):=
 (Zc (Qa F) F (a1,0,0,a0.2.2.1,(a0.2.2.1.length:Int),0,a0)).bind λa=>
 ab (a.1,a.2.1)
def LG:Fs yb:=⟨62,[.v Zb,.v yI],[],[Zb,yI],[⟨.ret,[(0,.bp [.v yI,.v yI])],[],[yI,yI]⟩],λx=>QE yD x.1 x.2⟩
theorem Zg1:LG.Ok:=be { still:=[4,5]} [(0,Zg0)] [] trivial ⟨ZkO,aw⟩
def LH(F:Nat)(a0:Int):yO (Int):=
 if(ag (a0 < 0))=ae then
  ab 0
 else
 if(ag (a0 > 16))=ae then
  ab 0
 else
 ab (wi (68+(wi (8*a0))))
def Zjx:Fs yb:=⟨183,[.v yI],[],[yI],(zN yI),λx=>LH yD x⟩
theorem Zql:Zjx.Ok:=be { still:=[2]} [] [] trivial
def tE(F:Nat)(a0:Int)(a1:Int):yO (Int):=
 if(ag (a0 < 0))=ae then
  ab 0
 else
 if(ag (a0 > 1000))=ae then
  ab 0
 else
 (LH F a1).bind λa=>
 ab (wi (a0*a))
def LI:Fs yb:=⟨123,[.v yI,.v yI],[],[yI,yI],(zN yI),λx=>tE yD x.1 x.2⟩
theorem Znk:LI.Ok:=be { still:=[4,12]} [] [Zjx] ⟨Zql,aw⟩
def tF(F:Nat)(a0:Chan)(a1:yG):yO (Int):=
 (tE F a1.2.2.2 (a1.2.2.1.length:Int)).bind λa=>
 ab (wi (a+660))
def LJ:Fs yb:=⟨63,[.v Zi,.v Zb],[],[Zi,Zb],(zN yI),λx=>tF yD x.1 x.2⟩
theorem Zle:LJ.Ok:=be { still:=[4,6,9]} [] [LI] ⟨Znk,aw⟩
def XX(F:Nat):(aNb×Int×Int×Chan×yG)->yO ((aNb×Int×Int×Chan×yG)⊕((Bool×Chan×yG)⊕(Chan×yG)))
 |(c,b,a,d,e)=>
 if(ag (a < b))=ae then
  (idx c a).bind λf=>
  (tC F f).bind λg=>
  if(!g)=ae then
   ab (.inr (.inl (af,d,e)))
  else
  if(bi (wi (1 - f.1)) 2)=ae then
   (d.2.2.2.1[(wi (1 - f.1)).toNat]?).bind λh=>
   if(ag (f.2.2.1 < h.2.2.2.2.1))=ae then
    ab (.inr (.inl (af,d,e)))
   else
   if(ag (a > 0))=ae then
    (idx e.2.2.1 (wi (a - 1))).bind λi=>
    (qc F i f).bind λj=>
    if(ag (j >= 0))=ae then
     ab (.inr (.inl (af,d,e)))
    else
    ab (.inl (c,b,wi (a+1),d,e))
   else
   ab (.inl (c,b,wi (a+1),d,e))
  else
  ad
 else
 ab (.inr (.inr (d,e)))
def Zjz:Lp:=⟨[(2,.aj 0 []),(3,.aj 1 []),(46,.v aMT),(47,.v yI),(48,.v yI)],[.var (.v Zi) ae,.var (.v Zb) ae],[aMT,yI,yI,Zi,Zb],[⟨.ret,[(4,.v .bool)],[.var (.v Zi) ae,.var (.v Zb) ae],[.bool,Zi,Zb]⟩,⟨.exit 0,[(2,.aj 0 []),(3,.aj 1 [])],[.var (.v Zi) ae,.var (.v Zb) ae],[Zi,Zb]⟩],Zc (XX yD) yD⟩
def LK:HI:={ still:=[4,11,17,28,35,53,77,78,91,92,107,118,119]}
theorem Znl:Zjz.bR yb 20 0:=ZG LK [] [LB,xO] ⟨Zlb,LF,aw⟩
def WA(F:Nat)(s:((yL bz)×Int×Chan×yG)):yO (((yL bz)×Int×Chan×yG)⊕((Bool×Chan×yG)⊕(Chan×yG))):=
 if(ag (s.2.1 < 2))=ae then
  (idx s.1 s.2.1).bind λa=>
  (QE F s.2.2.2 s.2.1).bind λb=>
  if(ag (b.1 > a.2.2.2.1))=ae then
   ab (.inr (.inl (af,s.2.2.1,s.2.2.2)))
  else
  if(ag (b.2 > a.2.2.2.2.2))=ae then
   ab (.inr (.inl (af,s.2.2.1,s.2.2.2)))
  else
  ab (.inl (s.1,wi (s.2.1+1),s.2.2.1,s.2.2.2))
 else
 ab (.inr (.inr (s.2.2.1,s.2.2.2)))
def ZjA:Lp:=⟨[(2,.aj 0 []),(3,.aj 1 []),(85,.v (.arr 2 kf)),(86,.v yI)],[.var (.v Zi) ae,.var (.v Zb) ae],[(.arr 2 kf),yI,Zi,Zb],[⟨.ret,[(4,.v .bool)],[.var (.v Zi) ae,.var (.v Zb) ae],[.bool,Zi,Zb]⟩,⟨.exit 2,[(2,.aj 0 []),(3,.aj 1 [])],[.var (.v Zi) ae,.var (.v Zb) ae],[Zi,Zb]⟩],Zc (WA yD) yD⟩
theorem Znm:ZjA.bR yb 20 1:=ZG LK [] [LG] ⟨Zg1,aw⟩
def au(F:Nat)(a0:Chan)(a1:yG):yO (Bool):=
 (Wt F a0).bind λa=>
 if(a !=0)=ae then
  ab af
 else
 (Ye F 0 1048576 [a1.1]).bind λb=>
 if(!b)=ae then
  ab af
 else
 (a1.2.1[0]?).bind λc=>
 (a1.2.1[1]?).bind λd=>
 (Ye F 0 1125899906842624 [c,d]).bind λe=>
 if(!e)=ae then
  ab af
 else
 (Ye F 0 1000 [a1.2.2.2]).bind λf=>
 if(!f)=ae then
  ab af
 else
 if(ag ((a1.2.2.1.length:Int) > 16))=ae then
  ab af
 else
 (Zc (XX F) F (a1.2.2.1,(a1.2.2.1.length:Int),0,a0,a1)).bind λg=>
 match g with
 |.inl h=>
  ab h.1
 |.inr i=>
  (Zc (WA F) F (i.1.2.2.2.1,0,i.1,i.2)).bind λj=>
  match j with
  |.inl k=>
   ab k.1
  |.inr l=>
   (Q9 F l.2).bind λm=>
   if(m==l.1.2.1)=ae then
    if(bi l.1.2.2.2.2 2)=ae then
     (l.2.2.1[l.1.2.2.2.2.toNat]?).bind λn=>
     (tF F l.1 l.2).bind λo=>
     ab (ag (n >= o))
    else
    ad
   else
   ab af
def VV:Fs yb:=⟨20,[.v Zi,.v Zb],[],[Zi,Zb],(zN .bool),λx=>au yD x.1 x.2⟩
theorem Vb:VV.Ok:=be LK [(0,Zjz),(1,ZjA)] [KZ,LA,KW,LJ] ⟨Zni,Ziq,Zjt,Zle,aw⟩ ⟨Znl,Znm,aw⟩
def QF(F:Nat)(a0:aMY):yO (aMY):=
 if(cj 0 a0.length 8)=ae then
  ab a0
 else
 ad
def Zqm:Fs yb:=⟨117,[.sl ae .u64],[],[aMX],(zN aMX),λx=>QF yD x⟩
theorem ZoR:Zqm.Ok:=be { own:=[5,7],still:=[2]} [] [] trivial
def ZfV(F:Nat):yO (aMY):=
 ab []
def ZlR:Fs yb:=⟨117,[.nil .u64],[],[],(zN aMX),λx=>ZfV yD⟩
theorem ZkP:ZlR.Ok:=be { own:=[5,7],still:=[2]} [] [] trivial
def ZfW:Fs yb:=⟨117,[.v aMX],[],[aMX],(zN aMX),λx=>QF yD x⟩
theorem ZlS:ZfW.Ok:=sQ (t:=.u64) (xs:=(zN aMX)) (MA:=λ(x:aMY)=>QF yD x) (MB:=λ_=>ZfV yD) ZoR ZkP rfl
def xP(F:Nat)(a0:aMY):yO (Z4):=
 (QF F a0).bind λa=>
 ab [(a,0,0,0)]
def LL:Fs yb:=⟨57,[.v aMX],[],[aMX],(zN Ya),λx=>xP yD x⟩
theorem ZpK:LL.Ok:=be { still:=[3]} [] [ZfW] ⟨ZlS,aw⟩
def LM(F:Nat)(a0:yU)(a1:yU):yO (Z4):=
 (xP F [a0,a1]).bind λa=>
 ab a
def ZpL:Fs yb:=⟨67,[.v .u64,.v .u64],[],[.u64,.u64],(zN Ya),λx=>LM yD x.1 x.2⟩
theorem ZwU:ZpL.Ok:=be { still:=[7]} [] [LL] ⟨ZpK,aw⟩
def XY(F:Nat)(a0:Chan):yO (Z4):=
 (a0.2.2.1[0]?).bind λa=>
 (a0.2.2.1[1]?).bind λb=>
 (LM F a.1 b.1).bind λc=>
 ab c
def Zg2:Fs yb:=⟨23,[.v Zi],[],[Zi],(zN Ya),λx=>XY yD x⟩
theorem ZfX:Zg2.Ok:=be { still:=[6,10]} [] [ZpL] ⟨ZwU,aw⟩
def Xx(F:Nat)(a0:Int)(a1:Int):yO (Bool):=
 if(ag (a1<=a0))=ae then
  ab (ag (a0<=1099511627776))
 else
 ab af
def X9:Fs yb:=⟨159,[.v yI,.v yI],[],[yI,yI],(zN .bool),λx=>Xx yD x.1 x.2⟩
theorem Vc:X9.Ok:=be { still:=[4]} [] [] trivial
abbrev QG:Ty:=(.st [ZQ,yI])
abbrev Xe:Type:=(ZK×Int)
abbrev Zd:Ty:=(.st [(.sl QG),aNj,yI])
abbrev ai:Type:=((yL Xe)×aNf×Int)
def YE(F:Nat):(Int×(yL Xe)×Int×Int×ai)->yO ((Int×(yL Xe)×Int×Int×ai)⊕((Int×Bool×ai)⊕(Int×ai)))
 |(e,c,b,a,d)=>
 if(ag (a < b))=ae then
  (idx c a).bind λf=>
  (Xx F f.2 1).bind λg=>
  if(!g)=ae then
   ab (.inr (.inl (0,af,d)))
  else
  ab (.inl (wi (e+f.2),c,b,wi (a+1),d))
 else
 ab (.inr (.inr (e,d)))
def Zb0:Lp:=⟨[(1,.aj 0 []),(2,.v yI),(4,.fn 159 []),(30,.v (.sl QG)),(31,.v yI),(32,.v yI)],[.var (.v Zd) ae],[yI,(.sl QG),yI,yI,Zd],[⟨.ret,[(2,.v yI),(3,.v .bool)],[.var (.v Zd) ae],[yI,.bool,Zd]⟩,⟨.exit 0,[(1,.aj 0 []),(2,.v yI),(4,.fn 159 [])],[.var (.v Zd) ae],[yI,Zd]⟩],Zc (YE yD) yD⟩
theorem Zgm:Zb0.bR yb 86 0:=ZG { still:=[2,3,22,38,55,60]} [] [X9] ⟨Vc,aw⟩
def YF(F:Nat):(Int×aNf×Int×Int×ai)->yO ((Int×aNf×Int×Int×ai)⊕((Int×Bool×ai)⊕(Int×ai)))
 |(e,c,b,a,d)=>
 if(ag (a < b))=ae then
  (idx c a).bind λf=>
  (Xx F f.1 0).bind λg=>
  if(!g)=ae then
   ab (.inr (.inl (0,af,d)))
  else
  (XJ F f.2).bind λh=>
  if(!h)=ae then
   ab (.inr (.inl (0,af,d)))
  else
  ab (.inl (wi (e - f.1),c,b,wi (a+1),d))
 else
 ab (.inr (.inr (e,d)))
def Zb1:Lp:=⟨[(2,.v yI),(4,.fn 159 []),(47,.v aNj),(48,.v yI),(49,.v yI)],[.var (.v Zd) ae],[yI,aNj,yI,yI,Zd],[⟨.ret,[(2,.v yI),(3,.v .bool)],[.var (.v Zd) ae],[yI,.bool,Zd]⟩,⟨.exit 2,[(2,.v yI)],[.var (.v Zd) ae],[yI,Zd]⟩],Zc (YF yD) yD⟩
theorem Zgn:Zb1.bR yb 86 1:=ZG { still:=[2,3,22,38,55,60]} [] [X9,Q3] ⟨Vc,tf,aw⟩
def X3(F:Nat)(a0:ai):yO ((Int×Bool)):=
 if(ag ((a0.1.length:Int) > 8))=ae then
  ab (0,af)
 else
 if(ag ((a0.2.1.length:Int) > 8))=ae then
  ab (0,af)
 else
 (Xx F a0.2.2 0).bind λa=>
 if(!a)=ae then
  ab (0,af)
 else
 (Zc (YE F) F (wi (0 - a0.2.2),a0.1,(a0.1.length:Int),0,a0)).bind λb=>
 match b with
 |.inl c=>
  ab (c.1,c.2.1)
 |.inr d=>
  (Zc (YF F) F (d.1,d.2.2.1,(d.2.2.1.length:Int),0,d.2)).bind λe=>
  match e with
  |.inl f=>
   ab (f.1,f.2.1)
  |.inr g=>
   ab (g.1,ae)
def Zde:Fs yb:=⟨86,[.v Zd],[],[Zd],[⟨.ret,[(0,.bp [.v yI,.v .bool])],[],[yI,.bool]⟩],λx=>X3 yD x⟩
theorem ZiG:Zde.Ok:=be { still:=[2,3,22,38,55,60]} [(0,Zb0),(1,Zb1)] [X9] ⟨Vc,aw⟩ ⟨Zgm,Zgn,aw⟩
abbrev _root_.aNa:=yL ai
def YX(F:Nat)(s:(aNa×Int×aNa×aNd)):yO ((aNa×Int×aNa×aNd)⊕((Bool×aNa×aNd)⊕(aNa×aNd))):=
 if(ag (s.2.1 < 2))=ae then
  (idx s.1 s.2.1).bind λa=>
  (X3 F a).bind λb=>
  if(bi s.2.1 2)=ae then
   (s.2.2.2[s.2.1.toNat]?).bind λc=>
   if(!b.2)=ae then
    ab (.inr (.inl (af,s.2.2.1,[0,0])))
   else
   ab (.inl (s.1,wi (s.2.1+1),s.2.2.1,s.2.2.2.set s.2.1.toNat b.1))
  else
  ad
 else
 ab (.inr (.inr (s.2.2.1,s.2.2.2)))
abbrev _root_.aMS:Go.Ev.Ty:=.arr 2 Zd
abbrev zD:List bG:=[.var (.v aMS) ae,.var (.v aNe) ae]
def ZfY:Lp:=⟨[(2,.aj 1 []),(6,.v aMS),(7,.v yI)],zD,[aMS,yI,aMS,aNe],[⟨.ret,[(2,.aj 1 []),(3,.v .bool)],zD,[.bool,aMS,aNe]⟩,⟨.exit 0,[(2,.aj 1 [])],zD,[aMS,aNe]⟩],Zc (YX yD) yD⟩
theorem ZjB:ZfY.bR yb 41 0:=ZG { still:=[3,13]} [] [Zde] ⟨ZiG,aw⟩
def xQ(F:Nat)(a0:aNa):yO ((aNd×Bool)):=
 (Zc (YX F) F (a0,0,a0,[0,0])).bind λa=>
 match a with
 |.inl b=>
  ab (b.2.2,b.1)
 |.inr c=>
  ab (c.2,ae)
def LN(F:Nat):Fs yb:=⟨41,[.v aMS],[],[aMS],[⟨.ret,[(0,.bp [.v aNe,.v .bool])],[],[aNe,.bool]⟩],λx=>xQ F x⟩
def Zg3:Fs yb:=LN yD
theorem ZfZ:Zg3.Ok:=be { still:=[3,13]} [(0,ZfY)] [] trivial ⟨ZjB,aw⟩
abbrev Zg:Ty:=(.st [aMQ,.bool])
abbrev Zf:Type:=(aMP×Bool)
abbrev Zf.b(x:Zf):aMP:=x.1
abbrev Zf.no(x:Zf):Bool:=x.2
def tG(F:Nat)(a0:aMP):yO (Zf):=
 (Yi F a0).bind λa=>
 ab (a,af)
def LO:Fs yb:=⟨87,[.v aMQ],[],[aMQ],[⟨.ret,[(0,.aj 0 [])],[.var (.v Zg) ae],[Zg]⟩],λx=>tG yD x⟩
theorem Znn:LO.Ok:=be { still:=[2,3]} [] [Ws] ⟨V7,aw⟩
def ZE(F:Nat)(s:(aMP×aMP×Int×Int)):yO ((aMP×aMP×Int×Int)⊕(Bool⊕Unit)):=
 if(ag (s.2.2.2 < s.2.2.1))=ae then
  (idx s.1 s.2.2.2).bind λa=>
  (idx s.2.1 s.2.2.2).bind λb=>
  if(a !=b)=ae then
   ab (.inr (.inl af))
  else
  ab (.inl (s.1,s.2.1,s.2.2.1,wi (s.2.2.2+1)))
 else
 ab (.inr (.inr ()))
def Zai:Lp:=⟨[(0,.v aMQ),(1,.v aMQ),(12,.v yI),(13,.v yI)],[],[aMQ,aMQ,yI,yI],[⟨.ret,[(4,.v .bool)],[],[.bool]⟩,⟨.exit 0,[],[],[]⟩],Zc (ZE yD) yD⟩
theorem Zdw:Zai.bR yb 164 0:=ZG { still:=[4]} [] [] trivial
def Z5(F:Nat)(a0:aMP)(a1:aMP):yO (Bool):=
 if((a0.length:Int)!=(a1.length:Int))=ae then
  ab af
 else
 (Zc (ZE F) F (a0,a1,(a0.length:Int),0)).bind λa=>
 match a with
 |.inl b=>
  ab b
 |.inr c=>
  ab ae
def ZaF:Fs yb:=⟨164,[.v aMQ,.v aMQ],[],[aMQ,aMQ],(zN .bool),λx=>Z5 yD x.1 x.2⟩
theorem Zfu:ZaF.Ok:=be { still:=[4]} [(0,Zai)] [] trivial ⟨Zdw,aw⟩
def XE(F:Nat)(s0:Int)(f:Zf):yO ((Bool×Int×Zf)):=
 if(ag (s0 >= (f.1.length:Int)))=ae then
  ab (ae,s0,f)
 else
 if(ag (s0 > 8))=ae then
  ab (ae,s0,f)
 else
 if(ag (s0 > 0))=ae then
  (idx f.1 s0).bind λa=>
  ab (a==0,s0,f)
 else
 ab (af,s0,f)
def ZdE:Fs yb:=⟨161,[.aj 0 [],.aj 1 []],[.var (.v yI) ae,.var (.aj 2 []) ae,.var (.v Zg) ae],[yI,Zg],[⟨.ret,[(0,.v .bool)],[.var (.v yI) ae,.var (.aj 2 []) ae,.var (.v Zg) ae],[.bool,yI,Zg]⟩],λx=>XE yD x.1 x.2⟩
theorem ZjD:ZdE.Ok:=be { still:=[2]} [] [] trivial
def WF(F:Nat)(s0:Zf):yO (Zf):=
 ab ([],ae)
def LP:Fs yb:=⟨162,[.aj 0 []],[.var (.v Zg) ae],[Zg],[⟨.ret,[(0,.bp [])],[.var (.v Zg) ae],[Zg]⟩],λx=>WF yD x⟩
theorem ZdF:LP.Ok:=be {} [] [] trivial
def X4(F:Nat)(s:(Int×Zf×Int)):yO ((Int×Zf×Int)⊕((Int×Zf×Int)⊕(Int×Zf×Int))):=
 (XE F s.2.2 s.2.1).bind λa=>
 if a.1=ae then
  (WF F a.2.2).bind λb=>
  ab (.inr (.inl (0,b,a.2.1)))
 else
 (idx a.2.2.1 a.2.1).bind λc=>
 if(ag (0<=wi (7*a.2.1)))=ae then
  let d:Int:=wi (((c % 128).toNat:Int)*2 ^ (min (wi (7*a.2.1)).toNat 64))
  if(ag (c < 128))=ae then
   ab (.inr (.inr (bits .or .i64 s.1 d,a.2.2,wi (a.2.1+1))))
  else
  ab (.inl (bits .or .i64 s.1 d,a.2.2,wi (a.2.1+1)))
 else
 ad
abbrev zF:List bG:=[.var (.v Zg) ae,.var (.aj 0 []) ae,.var (.v yI) ae]
def Ze1:Lp:=⟨[(1,.aj 1 []),(3,.v yI),(4,.aj 2 []),(5,.fn 161 [.aj 2 [],.aj 1 []])],zF,[yI,Zg,yI],[⟨.ret,[(2,.v yI)],zF,[yI,Zg,yI]⟩,⟨.exit 0,[(1,.aj 1 []),(3,.v yI),(4,.aj 2 [])],zF,[yI,Zg,yI]⟩],Zc (X4 yD) yD⟩
theorem ZiH:Ze1.bR yb 89 0:=ZG { still:=[2,10]} [] [ZdE,LP] ⟨ZjD,ZdF,aw⟩
def Z0(F:Nat)(s0:Zf):yO ((Int×Zf)):=
 (Zc (X4 F) F (0,s0,0)).bind λa=>
 match a with
 |.inl b=>
  ab (b.1,b.2.1)
 |.inr c=>
  if(dX c.2.1.1.length (ab c.2.2) ad)=ae then
   ab (c.1,(c.2.1.1.drop c.2.2.toNat,c.2.1.2))
  else
  ad
def Yu:Fs yb:=⟨89,[.aj 0 []],[.var (.v Zg) ae],[Zg],[⟨.ret,[(0,.v yI)],[.var (.v Zg) ae],[yI,Zg]⟩],λx=>Z0 yD x⟩
theorem YA:Yu.Ok:=be { still:=[2,10]} [(0,Ze1)] [] trivial ⟨ZiH,aw⟩
def XT(F:Nat)(a1:Int)(s0:Zf):yO ((aMP×Zf)):=
 if s0.2=ae then
  (WF F s0).bind λa=>
  ab ([],a)
 else
 if(ag (a1 > (s0.1.length:Int)))=ae then
  (WF F s0).bind λb=>
  ab ([],b)
 else
 if(dX s0.1.length ad (ab a1))=ae then
  (Yi F (s0.1.take a1.toNat)).bind λc=>
  if(dX s0.1.length (ab a1) ad)=ae then
   ab (c,(s0.1.drop a1.toNat,s0.2))
  else
  ad
 else
 ad
def Vy:Fs yb:=⟨163,[.aj 0 [],.v yI],[.var (.v Zg) ae],[yI,Zg],[⟨.ret,[(0,.v aMQ)],[.var (.v Zg) ae],[aMQ,Zg]⟩],λx=>XT yD x.1 x.2⟩
theorem LQ:Vy.Ok:=be { still:=[4,19,26]} [] [LP,Ws] ⟨ZdF,V7,aw⟩
def W2(F:Nat):(yU×aMP×Int×Int×Zf)->yO ((yU×aMP×Int×Int×Zf)⊕(yU×Zf))
 |(d,c,b,a,e)=>
 if(ag (a < b))=ae then
  (idx c a).bind λf=>
  ab (.inl ((V5 d 8)|||(yan f.toNat),c,b,wi (a+1),e))
 else
 ab (.inr (d,e))
def Ze2:Lp:=⟨[(3,.v .u64),(7,.v aMQ),(8,.v yI),(9,.v yI)],[.var (.v Zg) ae],[.u64,aMQ,yI,yI,Zg],[⟨.exit 0,[(3,.v .u64)],[.var (.v Zg) ae],[.u64,Zg]⟩],Zc (W2 yD) yD⟩
theorem ZiI:Ze2.bR yb 93 0:=ZG { still:=[2,6]} [] [] trivial
def Y2(F:Nat)(s0:Zf):yO ((yU×Zf)):=
 (XT F 8 s0).bind λa=>
 (Zc (W2 F) F (0,a.1,(a.1.length:Int),0,a.2)).bind λb=>
 ab (b.1,b.2)
def WG:Fs yb:=⟨93,[.aj 0 []],[.var (.v Zg) ae],[Zg],[⟨.ret,[(0,.v .u64)],[.var (.v Zg) ae],[.u64,Zg]⟩],λx=>Y2 yD x⟩
theorem Vz:WG.Ok:=be { still:=[2,6]} [(0,Ze2)] [Vy] ⟨LQ,aw⟩ ⟨ZiI,aw⟩
abbrev dT0:Type:=(aMP×Int×Int×Int×Int×Z4×Zf×aNi×Int×Int×yU×aMY)
def ZMG:yL bG:=[.var (.v Ya) ae,.var (.v Zg) ae,.var (.agg [.own 3 Z3]) ae,.log Z3 163,.var (.agg [.own 5 .u64,.v yI,.v yI,.v .u64]) ae,.log .u64 27]
abbrev tL1:yL Ty:=[aMQ,yI,yI,Ya,Zg,aNl,yI,yI,.u64,aMX]
abbrev tL2:yL Ty:=[aMQ,yI,yI,yI,yI,Ya,Zg,aNl,yI,yI,.u64,aMX]
def LR:HI:={ own:=[31,35,48,51],still:=[3,10,12,19,32,38,40,44,53,57,58,59],cq:=[(5,[([0],Z3,163)]),(8,[([0],.u64,27)])]}
def XG(F:Nat):dT0->yO (dT0⊕(aMP×Int×Int×Z4×Zf×aNi×Int×Int×yU×aMY))
 |(e,f,g,b,a,h,c,i,j,k,l,d)=>
 if(ag (a < b))=ae then
  (Y2 F c).bind λm=>
  if(cj d.length 1 8)=ae then
   let n:aMY:=d++([m.1]:yL yU)
   ab (.inl (e,f,g,b,wi (a+1),h,m.2,i,j,k,l,n))
  else
  ad
 else
 ab (.inr (e,f,g,h,c,i,j,k,l,d))
def Zno:Lp:=⟨[(0,.v aMQ),(2,.aj 0 []),(4,.aj 1 []),(5,.aj 2 []),(6,.v yI),(7,.v yI),(8,.aj 4 []),(27,.v yI),(28,.v yI)],ZMG,tL2,[⟨.exit 2,[(0,.v aMQ),(2,.aj 0 []),(4,.aj 1 []),(5,.aj 2 []),(6,.v yI),(7,.v yI),(8,.aj 4 [])],ZMG,tL1⟩],Zc (XG yD) yD⟩
theorem Zqn:Zno.bR yb 91 1:=ZG LR [] [WG] ⟨Vz,aw⟩
def WU(F:Nat):(aMP×Int×Int×Z4×Zf×aNi)->yO ((aMP×Int×Int×Z4×Zf×aNi)⊕(aMP×Z4×Zf×aNi))
 |(k,i,h,l,j,m)=>
 if(ag (h < i))=ae then
  (Z0 F j).bind λn=>
  if(h==4)=ae then
   ab (.inr (k,l,n.2,m))
  else
  if(ag (n.1 > 12))=ae then
   ab (.inr (k,l,n.2,m))
  else
  (Zc (XG F) F (k,i,h,n.1,0,l,n.2,m,0,0,0,[])).bind λ(d,e,f,g,a,b,_,_,_,c)=>
  (Z0 F a).bind λo=>
  (Z0 F o.2).bind λp=>
  (Y2 F p.2).bind λq=>
  if(cj b.length 1 48)=ae then
   let r:aNi:=b++([(c,o.1,p.1,q.1)]:yL ZR)
   ab (.inl (d,e,wi (f+1),g,q.2,r))
  else
  ad
 else
 ab (.inr (k,l,j,m))
def Znp:Lp:=⟨[(0,.v aMQ),(2,.aj 0 []),(4,.aj 1 []),(5,.aj 2 []),(6,.v yI),(7,.v yI)],[.var (.v Ya) ae,.var (.v Zg) ae,.var (.agg [.own 3 Z3]) ae,.log Z3 163],[aMQ,yI,yI,Ya,Zg,aNl],[⟨.exit 0,[(0,.v aMQ),(2,.aj 0 []),(5,.aj 2 [])],[.var (.v Ya) ae,.var (.v Zg) ae,.var (.agg [.own 3 Z3]) ae,.log Z3 163],[aMQ,Ya,Zg,aNl]⟩],Zc (WU yD) yD⟩
theorem Zqo:Znp.bR yb 91 0:=ZG LR [(1,Zno)] [Yu,WG] ⟨YA,Vz,aw⟩ ⟨Zqn,aw⟩
def oD(F:Nat)(a0:aMP):yO ((Z4×Bool)):=
 (tG F a0).bind λa=>
 (Z0 F a).bind λb=>
 (Zc (WU F) F (a0,b.1,0,[],b.2,[])).bind λc=>
 (XJ F c.2.2.2).bind λd=>
 if(!d)=ae then
  ab ([],af)
 else
 (qa F c.2.2.2).bind λe=>
 (Z5 F e c.1).bind λf=>
 if(!f)=ae then
  ab ([],af)
 else
 ab (c.2.2.2,ae)
def ZpM:Fs yb:=⟨91,[.v aMQ],[],[aMQ],[⟨.ret,[(0,.bp [.v Ya,.v .bool])],[],[Ya,.bool]⟩],λx=>oD yD x⟩
theorem ZwV:ZpM.Ok:=be LR [(0,Znp)] [LO,Yu,Q3,xE,ZaF] ⟨Znn,YA,tf,KP,Zfu,aw⟩ ⟨Zqo,aw⟩
def qd(F:Nat)(a0:Int)(s1:Zf):yO ((Int×Zf)):=
 (Z0 F s1).bind λa=>
 if(ag (a.1 > a0))=ae then
  ab ((-1),a.2)
 else
 ab (a.1,a.2)
def LS:Fs yb:=⟨88,[.v yI,.aj 0 []],[.var (.aj 1 []) ae,.var (.v Zg) ae],[yI,Zg],[⟨.ret,[(0,.v yI)],[.var (.aj 1 []) ae,.var (.v Zg) ae],[yI,Zg]⟩],λx=>qd yD x.1 x.2⟩
theorem Znq:LS.Ok:=be { still:=[3,5]} [] [Yu] ⟨YA,aw⟩
def Qb(F:Nat)(s0:Zf):yO ((aMP×Zf)):=
 (XT F 32 s0).bind λa=>
 if(ag (a.1.length<=32)&&ag (0+32<=32))=ae then
  let b:aMP:=dt.take 0++(a.1++dt.drop (0+a.1.length))
  ab (b,a.2)
 else
 ad
def Ze3:Fs yb:=⟨90,[.aj 0 []],[.var (.v Zg) ae],[Zg],[⟨.ret,[(0,.v aMU)],[.var (.v Zg) ae],[aMU,Zg]⟩],λx=>Qb yD x⟩
theorem ZkQ:Ze3.Ok:=be { still:=[5]} [] [Vy] ⟨LQ,aw⟩
abbrev zI:=Tx×Int×aNf×aMV×aMZ×aMZ×Zf
def WH(F:Nat):(Int×Int×Int×zI)->yO ((Int×Int×Int×zI)⊕(Int×zI))
 |(f,b,a,g,h,i,j,d,e,c)=>
 if(ag (a < b))=ae then
  (Qb F c).bind λk=>
  (Z0 F k.2).bind λl=>
  if(cj (d.length+e.length) 1 80)=ae then
   let m:aMZ:=e++([((k.1,l.1),(0,[],0))]:yL In)
   ab (.inl (f,b,wi (a+1),g,h,i,()::j,d,m,l.2))
  else
  ad
 else
 ab (.inr (f,g,h,i,j,d,e,c))
def mU:yL bG:=[.var (.v bu) ae,.var (.agg [.rw 3,.own 2 Wx,.v yI]) ae,.log Wx 79,.aR cQ [1,1] ae 91,.var (.v Zg) ae,.var (.aj 4 []) ae]
abbrev tL3:yL Ty:=[yI,yI,yI,bu,yI,aNj,aMW,aNc,aNc,Zg]
def Zsr:Lp:=⟨[(2,.aj 0 []),(4,.aj 1 []),(5,.aj 5 []),(6,.fn 88 [.aj 5 []]),(7,.v yI),(20,.v yI),(21,.v yI)],mU,tL3,[⟨.exit 0,[(2,.aj 0 []),(4,.aj 1 []),(5,.aj 5 []),(6,.fn 88 [.aj 5 []]),(7,.v yI)],mU,[yI,bu,yI,aNj,aMW,aNc,aNc,Zg]⟩],Zc (WH yD) yD⟩
def ZNL:HI:={ own:=[24,32,55,58,92,99],still:=[3,15,25,27,40,44,45,61,76,93,95,104,116,121,126],cO:=[24,32,71],cq:=[(4,[([1],Wx,79)])],lits:=[31]}
theorem ZtW:Zsr.bR yb 42 0:=ZG ZNL [] [Ze3,Yu] ⟨ZkQ,YA,aw⟩
def VA(F:Nat)(s0:Zf):yO ((aMP×Zf)):=
 (Z0 F s0).bind λa=>
 if a.2.2=ae then
  ab ([],a.2)
 else
 (XT F a.1 a.2).bind λb=>
 ab (b.1,b.2)
def ZdG:Fs yb:=⟨92,[.aj 0 []],[.var (.v Zg) ae],[Zg],[⟨.ret,[(0,.v aMQ)],[.var (.v Zg) ae],[aMQ,Zg]⟩],λx=>VA yD x⟩
theorem ZjF:ZdG.Ok:=be { still:=[2,4,10,11]} [] [Yu,Vy] ⟨YA,LQ,aw⟩
def WI(F:Nat):(Int×Int×Int×Int×zI)->yO ((Int×Int×Int×Int×zI)⊕((Bool×zI)⊕(Int×Int×zI)))
 |(i,j,b,a,k,d,e,f,g,h,c)=>
 if(ag (a < b))=ae then
  (Z0 F c).bind λl=>
  (VA F l.2).bind λm=>
  (oD F m.1).bind λn=>
  if(!n.2)=ae then
   ab (.inr (.inl (af,([],[],0),d,e,f,g,h,m.2)))
  else
  if(cj e.length 1 32)=ae then
   let o:aNf:=e++([(l.1,n.1)]:yL Out)
   ab (.inl (i,j,b,wi (a+1),k,d,o,f,g,h,m.2))
  else
  ad
 else
 ab (.inr (.inr (i,j,k,d,e,f,g,h,c)))
abbrev tL4:yL Ty:=[yI,yI,bu,yI,aNj,aMW,aNc,aNc,Zg]
abbrev tL5:yL Ty:=[yI,yI,yI,yI,bu,yI,aNj,aMW,aNc,aNc,Zg]
def Zss:Lp:=⟨[(2,.aj 0 []),(4,.aj 1 []),(5,.aj 5 []),(6,.fn 88 [.aj 5 []]),(7,.v yI),(8,.v yI),(37,.v yI),(38,.v yI)],mU,tL5,[⟨.ret,[(2,.aj 0 []),(3,.v .bool)],mU,[.bool,bu,yI,aNj,aMW,aNc,aNc,Zg]⟩,⟨.exit 2,[(2,.aj 0 []),(4,.aj 1 []),(5,.aj 5 []),(6,.fn 88 [.aj 5 []]),(7,.v yI),(8,.v yI)],mU,tL4⟩],Zc (WI yD) yD⟩
def xR:HI:={ own:=[24,32,55,58,92,99],still:=[3,15,25,27,40,44,45,61,76,93,95,104,116,121,126],cO:=[24,32,71],cq:=[(4,[([1],Wx,79)])],gR:=[(9,[([1,0],Z3,163)])],lits:=[31]}
theorem ZtX:Zss.bR yb 42 1:=ZG xR [] [Yu,ZdG,ZpM] ⟨YA,ZjF,ZwV,aw⟩
abbrev dT1:Type:=(Int×Int×Int×Int×Int×Int×Int×Tx×Int×aNf×aMV×aMZ×aMZ×ZK×Int×yU×Zf×(yL gr))
abbrev dT2:Type:=(Int×Int×Int×Int×Int×Tx×Int×aNf×aMV×aMZ×aMZ×ZK×Int×yU×Zf×(yL gr))
def WJ(F:Nat):dT1->yO (dT1⊕dT2)
 |(g,h,c,i,j,b,a,k,l,m,n,d,o,p,q,r,e,f)=>
 if(ag (a < b))=ae then
  if(ag (c.toNat=d.length))=ae then
   (Y2 F e).bind λs=>
   (Y2 F s.2).bind λt=>
   if(cj f.length 1 16)=ae then
    let u:(yL gr):=f++([(s.1,t.1)]:yL gr)
    if(ag (c.toNat=d.length))=ae then
     ab (.inl (g,h,(c.toNat:Int),i,j,b,wi (a+1),k,l,m,n,d,o,p,q,r,t.2,u))
    else
    ad
   else
   ad
  else
  ad
 else
 ab (.inr (g,h,(c.toNat:Int),i,j,k,l,m,n,d,o,p,q,r,e,f))
def ZMH:yL bG:=[.var (.v bu) ae,.var (.agg [.rw 3,.own 2 Wx,.v yI]) ae,.log Wx 79,.bL cQ [1,1] ae 91 (.agg [.v ZQ,.agg [.v yI,.own 6 ij,.v .u64]]),.var (.v Zg) ae,.var (.aj 4 []) ae,.log ij 117]
abbrev tL6:yL Ty:=[yI,yI,yI,yI,yI,bu,yI,aNj,aMW,aNc,aNc,ZQ,yI,.u64,Zg,(.sl ij)]
abbrev tL7:yL Ty:=[yI,yI,yI,yI,yI,yI,yI,bu,yI,aNj,aMW,aNc,aNc,ZQ,yI,.u64,Zg,(.sl ij)]
def Zst:Lp:=⟨[(2,.aj 0 []),(4,.aj 1 []),(5,.aj 5 []),(6,.fn 88 [.aj 5 []]),(7,.v yI),(8,.v yI),(13,.rp 3 36 [.gk 1 33]),(66,.v yI),(67,.v yI),(85,.v yI),(86,.v yI)],ZMH,tL7,[⟨.exit 6,[(2,.aj 0 []),(4,.aj 1 []),(5,.aj 5 []),(6,.fn 88 [.aj 5 []]),(7,.v yI),(8,.v yI),(13,.rp 3 36 [.gk 1 33]),(66,.v yI),(67,.v yI)],ZMH,tL6⟩],Zc (WJ yD) yD⟩
theorem ZtY:Zst.bR yb 42 3:=ZG xR [] [WG] ⟨Vz,aw⟩
def WK(F:Nat):(Int×Int×Int×Int×zI)->yO ((Int×Int×Int×Int×zI)⊕((Bool×zI)⊕(Int×Int×zI)))
 |(y,z,q,p,A,v,w,x,r,t,u)=>
 if(ag (p < q))=ae then
  if(ag (p=(r.length:Int)))=ae then
   wG t λE G=>
    if(bi p (r.length+(G.length+1)))=ae then
     (Z0 F u).bind λs=>
     if(ag (p.toNat=r.length))=ae then
      (qd F 12 s.2).bind λB=>
      if(ag (B.1 < 0))=ae then
       ab (.inr (.inl (af,([],[],0),v,w,x,r++([(E.1,(s.1,[],E.2.2.2))]:yL In),G,B.2)))
      else
      (Zc (WJ F) F (y,z,(p.toNat:Int),q,p,B.1,0,A,v,w,x,r,G,E.1,s.1,E.2.2.2,B.2,[])).bind λ(d,e,b,f,g,h,i,j,k,c,o,l,m,_,a,n)=>
      (Y2 F a).bind λC=>
      if(ag (b.toNat=c.length))=ae then
       ab (.inl (d,e,f,wi (g+1),h,i,j,k,c++([(l,(m,n,C.1))]:yL In),o,C.2))
      else
      ad
     else
     ad
    else
    ad
  else
  ad
 else
 ab (.inr (.inr (y,z,A,v,w,x,r,t,u)))
def Zsu:Lp:=⟨[(2,.aj 0 []),(4,.aj 1 []),(5,.aj 5 []),(6,.fn 88 [.aj 5 []]),(7,.v yI),(8,.v yI),(66,.v yI),(67,.v yI)],mU,tL5,[⟨.ret,[(2,.aj 0 []),(3,.v .bool)],mU,[.bool,bu,yI,aNj,aMW,aNc,aNc,Zg]⟩,⟨.exit 4,[(2,.aj 0 []),(4,.aj 1 []),(5,.aj 5 []),(7,.v yI),(8,.v yI)],mU,tL4⟩],Zc (WK yD) yD⟩
theorem ZtZ:Zsu.bR yb 42 2:=IZ (fi:={ hi:=xR,lp:=[(3,Zst)],gh:=[(4,.focus 12 ij 117)]}) (aK:={ l:=[Yu,LS,WG]}) (oj ⟨YA,Znq,Vz,aw⟩) ⟨ZtY,aw⟩
def xS(F:Nat)(s0:Zf):yO ((Bool×Zf)):=
 ab (!s0.2,s0)
def Zg4:Fs yb:=⟨94,[.aj 0 []],[.var (.v Zg) ae],[Zg],[⟨.ret,[(0,.v .bool)],[.var (.v Zg) ae],[.bool,Zg]⟩],λx=>xS yD x⟩
theorem Znr:Zg4.Ok:=be { still:=[2]} [] [] trivial
def Qc(F:Nat)(s0:Zf):yO ((Int×Zf)):=
 ab ((s0.1.length:Int),s0)
def Ze4:Fs yb:=⟨95,[.aj 0 []],[.var (.v Zg) ae],[Zg],[⟨.ret,[(0,.v yI)],[.var (.v Zg) ae],[yI,Zg]⟩],λx=>Qc yD x⟩
theorem ZkR:Ze4.Ok:=be { still:=[2]} [] [] trivial
def oE(F:Nat)(a0:aMP):yO ((Tx×Bool)):=
 (tG F a0).bind λs=>
 (qd F 64 s).bind λy=>
 (Zc (WH F) F (y.1,y.1,0,([],[],0),0,[],[],[],[],y.2)).bind λ(q,r,t,u,v,w,x,p)=>
 (qd F 64 p).bind λz=>
 (Zc (WI F) F (q,z.1,z.1,0,r,t,u,v,w,x,z.2)).bind λA=>
 match A with
 |.inl (b,a,_,_,_,_,_,_)=>
  ab (a,b)
 |.inr (k,l,m,_,n,o,i,j,h)=>
  (Z0 F h).bind λB=>
  let C:Int:=(((i.length+j.length):Nat):Int)
  (Zc (WK F) F (k,l,C,0,m,B.1,n,o,i,j,B.2)).bind λD=>
  match D with
  |.inl (b,a,_,_,_,_,_,_)=>
   ab (a,b)
  |.inr (b,c,_,g,f,_,e,a,d)=>
   if a.isEmpty=ae then
    if(ag (b < 0))=ae then
     ab (([],[],0),af)
    else
    if(ag (c < 0))=ae then
     ab (([],[],0),af)
    else
    (xS F d).bind λE=>
    if(!E.1)=ae then
     ab (([],[],0),af)
    else
    (Qc F E.2).bind λG=>
    if(ag (G.1 > 0))=ae then
     ab (([],[],0),af)
    else
    (Q6 F (e,f,g)).bind λH=>
    if(!H)=ae then
     ab (([],[],0),af)
    else
    ab ((e,f,g),ae)
   else
   ad
def Zu7:Fs yb:=⟨42,[.v aMQ],[],[aMQ],[⟨.ret,[(0,.bp [.v bu,.v .bool])],[],[bu,.bool]⟩],λx=>oE yD x⟩
theorem ZBl:Zu7.Ok:=wS (fi:={ hi:=xR,lp:=[(0,Zsr),(1,Zss),(2,Zsu)],gh:=[(2,.rows 4 [0] cQ 91 [1,1]),(41,.done 4)]}) (aK:={ l:=[LO,LS,Yu,Zg4,Ze4,th]}) (oj ⟨Znn,Znq,YA,Znr,ZkR,xh,aw⟩) ⟨ZtW,ZtX,ZtZ,aw⟩
def xU(F:Nat):(aMP×aMZ×Int×Int×(yL gr)×Int×Int×Tx×In)->yO ((aMP×aMZ×Int×Int×(yL gr)×Int×Int×Tx×In)⊕(aMP×aMZ×Int×Int×Tx×In))
 |(d,e,f,g,c,b,a,h,i)=>
 if(ag (a < b))=ae then
  (idx c a).bind λj=>
  (WE F d j.1).bind λk=>
  (WE F k j.2).bind λl=>
  ab (.inl (l,e,f,g,c,b,wi (a+1),h,i))
 else
 ab (.inr (d,e,f,g,h,i))
def ZpN:Lp:=⟨[(3,.v aMQ),(5,.aj 1 []),(14,.v aNc),(15,.v yI),(16,.v yI),(32,.v (.sl ij)),(33,.v yI),(34,.v yI)],[.var (.v bu) ae,.var (.v cQ) ae],[aMQ,aNc,yI,yI,(.sl ij),yI,yI,bu,cQ],[⟨.exit 2,[(3,.v aMQ),(5,.aj 1 []),(14,.v aNc),(15,.v yI),(16,.v yI)],[.var (.v bu) ae,.var (.v cQ) ae],[aMQ,aNc,yI,yI,bu,cQ]⟩],Zc (xU yD) yD⟩
def LU:HI:={ still:=[2,8,11,20,23,24,28,38,40,41,43,46,49]}
theorem Zsv:ZpN.bR yb 43 1:=ZG LU [] [tz] ⟨xC,aw⟩
def xV(F:Nat):(aMP×aMZ×Int×Int×Tx)->yO ((aMP×aMZ×Int×Int×Tx)⊕(aMP×Tx))
 |(j,i,h,g,k)=>
 if(ag (g < h))=ae then
  (idx i g).bind λl=>
  (XS F j l.2.1).bind λm=>
  (XS F m (l.2.2.1.length:Int)).bind λn=>
  (Zc (xU F) F (n,i,h,g,l.2.2.1,(l.2.2.1.length:Int),0,k,l)).bind λ(a,c,d,e,f,b)=>
  (WE F a b.2.2.2).bind λo=>
  ab (.inl (o,c,d,wi (e+1),f))
 else
 ab (.inr (j,k))
def ZpO:Lp:=⟨[(3,.v aMQ),(14,.v aNc),(15,.v yI),(16,.v yI)],[.var (.v bu) ae],[aMQ,aNc,yI,yI,bu],[⟨.exit 0,[(3,.v aMQ)],[.var (.v bu) ae],[aMQ,bu]⟩],Zc (xV yD) yD⟩
theorem Zsw:ZpO.bR yb 43 0:=ZG LU [(1,ZpN)] [oB,tz] ⟨pZ,xC,aw⟩ ⟨Zsv,aw⟩
def qe(F:Nat)(a0:Tx):yO (aMP):=
 (Q6 F a0).bind λa=>
 if(!a)=ae then
  ab []
 else
 (tA F a0).bind λb=>
 (Zc (xV F) F (b,a0.1,(a0.1.length:Int),0,a0)).bind λc=>
 ab c.1
def Zsx:Fs yb:=⟨43,[.v bu],[],[bu],(zN aMQ),λx=>qe yD x⟩
theorem Zzg:Zsx.Ok:=be LU [(0,ZpO)] [th,KR] ⟨xh,ZpJ,aw⟩ ⟨Zsw,aw⟩
def XZ(F:Nat):(aNd×Int×Chan×yG×aNa×Chan×yG×Tx×aNd×yG)->yO ((aNd×Int×Chan×yG×aNa×Chan×yG×Tx×aNd×yG)⊕((Int×Chan×yG×aNa×Chan×yG×Tx×aNd×yG)⊕(Chan×yG×aNa×Chan×yG×Tx×aNd×yG)))
 |(b,a,d,e,f,g,h,i,j,c)=>
 if(ag (a < 2))=ae then
  (idx b a).bind λk=>
  if(ag (k < 0))=ae then
   if(bi a 2)=ae then
    (c.2.1[a.toNat]?).bind λl=>
    if(bi (wi (1 - a)) 2)=ae then
     (d.2.2.2.1[(wi (1 - a)).toNat]?).bind λm=>
     if(ag (l < m.2.1))=ae then
      ab (.inr (.inl (10,d,e,f,g,h,i,j,c)))
     else
     ab (.inl (b,wi (a+1),d,e,f,g,h,i,j,c))
    else
    ad
   else
   ad
  else
  ab (.inl (b,wi (a+1),d,e,f,g,h,i,j,c))
 else
 ab (.inr (.inr (d,e,f,g,h,i,j,c)))
def LV:yL bG:=[.var (.v Zi) ae,.var (.v Zb) ae,.var (.v aMS) ae,.var (.v Zi) ae,.var (.v Zb) ae,.var (.v bu) ae,.var (.v aNe) ae,.var (.v Zb) ae]
abbrev tL8:yL Ty:=[yI,Zi,Zb,aMS,Zi,Zb,bu,aNe,Zb]
abbrev tL9:yL Ty:=[aNe,yI,Zi,Zb,aMS,Zi,Zb,bu,aNe,Zb]
def ZjG:Lp:=⟨[(3,.aj 0 []),(5,.aj 2 []),(6,.aj 3 []),(7,.aj 4 []),(8,.aj 5 []),(11,.aj 6 []),(13,.aj 7 []),(62,.v aNe),(63,.v yI)],LV,tL9,[⟨.ret,[(6,.aj 3 []),(7,.aj 4 []),(8,.aj 5 []),(9,.v yI)],LV,tL8⟩,⟨.exit 0,[(3,.aj 0 []),(5,.aj 2 []),(6,.aj 3 []),(7,.aj 4 []),(8,.aj 5 []),(11,.aj 6 []),(13,.aj 7 [])],LV,[Zi,Zb,aMS,Zi,Zb,bu,aNe,Zb]⟩],Zc (XZ yD) yD⟩
def xW:HI:={ own:=[106,112,126,131,135,138],still:=[9,23,31,32,39,48,49,96,97,109,142,143,152]}
theorem Zns:ZjG.bR yb 10 0:=ZG xW [] [] trivial
abbrev dT3:Type:=(Chan×yG×aNa×Chan×yG×Tx×aNd×yG×Chan×aMZ×aNf×Int)
end
end Go.Proofs.YtcbhhaigilifgaaGreat
end
section
set_option maxRecDepth 10000
namespace Go.Proofs.YtcbhhaigilifgaaGreat
open Go Go.Ev
noncomputable section
theorem ZMI{ops:Array Oper}{n:Nat}(hn:ops.size=n)(h:((yo n).all λi=>(yo n).all λj=>aT ops.toList i==ad || !(aT ops.toList i==aT ops.toList j) || decide (i=j))=ae):
 ∀i j,i < ops.size->j < ops.size->aT ops.toList i≠ad->aT ops.toList i=aT ops.toList j->i=j:=by
 rw[hn];intro i j f g;have l:=yal.1 (yal.1 h i (ybr.2 f)) j (ybr.2 g)
 all_goals grind
abbrev xX(f:ZK):In:=(f,(0,[],0))
abbrev tH(m:Int)(l:Z4):Out:=(m,l)
abbrev ZMJ(c:Chan)(m:Int):Chan:=(c.1,m,c.2.2)
noncomputable def LW:Pl:=match bg yb 91 with|.p (.agg [_,w])=>w|_=>default
noncomputable def LX(f:ZK):Pl:=.agg [ZQ.enc f,LW]
theorem ZCF(f:ZK):bJ (LX f) (cQ.enc (xX f)):=by
 have h:LW.soft=xg.enc ((0,[],0):mR):=by kernel_rfl
 exact bJ.jD (bm.cons (bJ.refl _) (bm.cons (h ▸ mf LW) bm.nil))
noncomputable def ltZ:yL Pl:=match bg yb 49 with|.p (.agg z)=>z|_=>[]
theorem ZGT{g:FuncId}{M:Ty.aO [Zi]->yO (cw.sum (zN Ya))}(h:Fs.Ok (⟨g,[.v Zi],[],[Zi],(zN Ya),M⟩:Fs yb)){a:Chan}{l:Z4}(hM:M a=ab l):
 ce yb g [.p (Zi.enc a)] [] (.p (Ya.enc l)) []:=by
 obtain⟨m,R,H,f,y,z⟩:=h a l hM;have j:Sh.fills [.v Zi] (dD [Zi] a)=ab ([.p (.v Zi a)],[]):=by kernel_rfl
 have f:=j.symm.trans f;cases f;cases y;obtain⟨r,A,E⟩:=z _ _ ([.p (.v Ya l)],[]) ⟨rfl,rfl⟩ (by kernel_rfl);cases A;exact E
theorem ZJk{ops:Array Oper}{X:Nat->Bool}(hc:jI ops X){i j:Nat}(hi:i < ops.size)(he:bU (ba ops i) j=ae)(g:X j=af):X i=af:=by
 cases h:X i with
 |false=>rfl
 |true=>
  have l:ops[i]? =ab (ba ops i):=by
   unfold ba;simp_all
  unfold bU at he;obtain⟨x,m,f⟩:=Array.any_eq_true'.1 he;simp only[yi,yT]at f;have:=hc i _ l h x m f.2;rw[f.1,g]at this;cases this
noncomputable def kg:Array Oper:=match iz (ZX yb 10) 29 with|.region _ ops _=>ops|_=> #[]
noncomputable def ZNM:Nat:=match iz (ZX yb 10) 29 with|.region id _ _=>id|_=>0
theorem ZJl:iz (ZX yb 10) 29=.region ZNM kg ae:=by kernel_rfl
theorem tI:kg.size=13:=by kernel_rfl
noncomputable def oF(a:Chan)(c2:Chan)(l:Z4)(m:Int)(e1 e2 f e4 e5 g h:aq):Nat->Dv
 |0=>.aj 0 0 [0]
 |1=>.p (ZQ.enc a.1)
 |2=>.p (LX a.1)
 |3=>.own 9 ad cQ.size [cQ.enc (xX a.1)]
 |4=>.aj 8 33 [1]
 |5=>.p (.int .i64 m)
 |6=>.p (Zi.enc a)
 |7=>.p (Ya.enc l)
 |8=>.p (Wx.enc (tH m l))
 |9=>.own 10 ad Wx.size [Wx.enc (tH m l)]
 |10=>.agg [.own 9 ad cQ.size [cQ.enc (xX a.1)],.own 10 ad Wx.size [Wx.enc (tH m l)],.p (.int .i64 0)]
 |11=>.aj 11 0 []
 |_=>.an
noncomputable def kh(a:Chan)(c2:Chan)(l:Z4)(m:Int)(e1 e2 h e4 e5 j y:aq)(z A f g:Bool):yL aq:=aq.var (.p (Zi.enc a)) ae::e1::e2::h::e4::e5::j::y::aq.var (.p (Zi.enc (ZMJ c2 m))) ae::(match z with|true=>aq.log cQ.size 91 [cQ.enc (xX a.1)]|false=>.gone)::(match A with|true=>aq.log Wx.size 79 [Wx.enc (tH m l)]|false=>.gone)::(match g with|true=>aq.var (oF a c2 l m e1 e2 h e4 e5 j y 10) ae|false=>(match f with|true=>aq.var (bg yb 49) ae|false=>.gone))::[]
noncomputable def LY(a:Chan)(c2:Chan)(l:Z4)(m:Int)(e1 e2 f e4 e5 g h:aq):yL aq:=aq.var (.p (Zi.enc a)) ae::e1::e2::f::e4::e5::g::h::aq.var (.p (Zi.enc (ZMJ c2 m))) ae::[]
noncomputable def fJ(a:Chan)(c2:Chan)(l:Z4)(m:Int)(e1 e2 f e4 e5 g h:aq)(X:Nat->Bool):yL aq:=kh a c2 l m e1 e2 f e4 e5 g h (X 3) (X 9) (X 11) (X 12)
theorem lK(a:Chan)(c2:Chan)(l:Z4)(m:Int)(e1 e2 f e4 e5 g h:aq){X:Nat->Bool}{i:Nat}(h1:3≠i)(h2:9≠i)(h3:11≠i)(h4:12≠i):fJ a c2 l m e1 e2 f e4 e5 g h (λj=>X j || decide (j=i))=fJ a c2 l m e1 e2 f e4 e5 g h X:=by
 unfold fJ;grind
noncomputable def LZ:Nat->yL Nat×yL Nat
 |0=>([],[3])
 |1=>([0],[])
 |2=>([1],[])
 |3=>([2],[])
 |4=>([],[16])
 |5=>([4],[])
 |6=>([],[3])
 |7=>([6],[])
 |8=>([5,7],[])
 |9=>([8],[])
 |10=>([3,9],[])
 |11=>([],[])
 |12=>([10,11],[])
 |_=>([],[])
noncomputable def oG(a:Chan)(c2:Chan)(l:Z4)(m:Int)(e1 e2 f e4 e5 g h:aq):yL Dv:=((yo 160).map λs=>match s with|3=>.aj 0 0 []|5=>.aj 2 0 []|6=>.aj 3 0 []|7=>.aj 4 0 []|8=>.aj 5 0 []|13=>.aj 7 0 []|16=>.aj 8 0 []|_=>Dv.an)
noncomputable def ZMK(a:Chan)(c2:Chan)(l:Z4)(m:Int)(e1 e2 f e4 e5 g h:aq):yL Dv:=dw (oG a c2 l m e1 e2 f e4 e5 g h).length (aT kg.toList) (oF a c2 l m e1 e2 f e4 e5 g h) (oG a c2 l m e1 e2 f e4 e5 g h) [11] [5,6,7,8,13,16]
abbrev iT(a:Chan)(c2:Chan)(l:Z4)(m:Int)(e1 e2 f e4 e5 g h:aq)(i:Nat):Prop:=∀X:Nat->Bool,X i=af->(∀j,bU (ba kg i) j=ae->X j=ae)->jI kg X->∀(y:Sg)(z:Act),Ok y->y.H=fJ a c2 l m e1 e2 f e4 e5 g h X->
 aD y (dw (oG a c2 l m e1 e2 f e4 e5 g h).length (aT kg.toList) (oF a c2 l m e1 e2 f e4 e5 g h) (oG a c2 l m e1 e2 f e4 e5 g h) (LZ i).1 (LZ i).2) z->YL yb (ba kg i) z y (oF a c2 l m e1 e2 f e4 e5 g h i) (fJ a c2 l m e1 e2 f e4 e5 g h (λj=>X j || decide (j=i)))
theorem ZML(a:Chan)(c2:Chan)(l:Z4)(m:Int)(e1 e2 f e4 e5 g h:aq):iT a c2 l m e1 e2 f e4 e5 g h 0:=by
 intro X A E F G I y j z;rw[lK a c2 l m e1 e2 f e4 e5 g h (by decide) (by decide) (by decide) (by decide), <-j];exact Ys (hs:=[]) (C:=[]) (hs':=[]) y z (by rw[j];kernel_rfl) trivial
theorem ZMM(a:Chan)(c2:Chan)(l:Z4)(m:Int)(e1 e2 f e4 e5 g h:aq):iT a c2 l m e1 e2 f e4 e5 g h 1:=by
 intro X A E F G I y j z;rw[lK a c2 l m e1 e2 f e4 e5 g h (by decide) (by decide) (by decide) (by decide), <-j];exact Ys (hs:=[]) (C:=[(0:Nat)=0]) (hs':=[]) y z (by rw[j];kernel_rfl) ⟨rfl,aw⟩
theorem ZMN(a:Chan)(c2:Chan)(l:Z4)(m:Int)(e1 e2 f e4 e5 g h:aq):iT a c2 l m e1 e2 f e4 e5 g h 2:=by
 intro X A E F G I y j z;rw[lK a c2 l m e1 e2 f e4 e5 g h (by decide) (by decide) (by decide) (by decide), <-j];exact Ys (hs:=[]) (C:=[]) (hs':=[]) y z (by rw[j];kernel_rfl) trivial
theorem ZMO(a:Chan)(c2:Chan)(l:Z4)(m:Int)(e1 e2 g e4 e5 y z:aq):iT a c2 l m e1 e2 g e4 e5 y z 3:=by
 intro X G R S T U I E J;have M:fJ a c2 l m e1 e2 g e4 e5 y z X=kh a c2 l m e1 e2 g e4 e5 y z af (X 9) (X 11) (X 12):=by unfold fJ;rw[G]
 have Q:fJ a c2 l m e1 e2 g e4 e5 y z (λj=>X j || decide (j=3))=kh a c2 l m e1 e2 g e4 e5 y z ae (X 9) (X 11) (X 12):=by
  unfold fJ;grind
 rw[Q];rw[M]at E
 obtain⟨A,F⟩:∃A,yb.info? 91=ab A:=by
  cases h:yb.info? 91 with
  |none=>have:=(by kernel_rfl:(yb.info? 91).isSome=ae);rw[h]at this;cases this
  |some A=>exact⟨A,rfl⟩
 have f:(yb.info? 91).map (λi=>(cu i,i.size))=ab (ae,cQ.size):=by kernel_rfl
 rw[F]at f;simp only[yae,yn,yq]at f;have h:=CS (P:=yb) (o:=ba kg 3) (t:=47) (e:=91) (i:=A) (len:=1) (id:=9) (parts:= #[(0,.tmp 105)]) (xs:=[LX a.1]) I J (by rw[E];kernel_rfl) (by kernel_rfl) (by kernel_rfl) F f.1 (by rw[f.2];decide) (by rw[f.2];decide) (by kernel_rfl);rw[f.2,E]at h;exact Vr (Vr h (Wk.jH (bm.cons (ZCF a.1) bm.nil)) (bZ.bE _ _ (.log (bm.cons (ZCF a.1) bm.nil)))) (Wk.refl _) (bZ.of_eq (by kernel_rfl))
theorem ZMP(a:Chan)(c2:Chan)(l:Z4)(m:Int)(e1 e2 f e4 e5 g h:aq):iT a c2 l m e1 e2 f e4 e5 g h 4:=by
 intro X A E F G I y j z;rw[lK a c2 l m e1 e2 f e4 e5 g h (by decide) (by decide) (by decide) (by decide), <-j];exact Ys (hs:=[]) (C:=[]) (hs':=[]) y z (by rw[j];kernel_rfl) trivial
theorem ZMQ(a:Chan)(c2:Chan)(l:Z4)(m:Int)(e1 e2 f e4 e5 g h:aq):iT a c2 l m e1 e2 f e4 e5 g h 5:=by
 intro X A E F G I y j z;rw[lK a c2 l m e1 e2 f e4 e5 g h (by decide) (by decide) (by decide) (by decide), <-j];exact Ys (hs:=[]) (C:=[(33:Nat)=33]) (hs':=[]) y z (by rw[j];kernel_rfl) ⟨rfl,aw⟩
theorem ZMR(a:Chan)(c2:Chan)(l:Z4)(m:Int)(e1 e2 f e4 e5 g h:aq):iT a c2 l m e1 e2 f e4 e5 g h 6:=by
 intro X A E F G I y j z;rw[lK a c2 l m e1 e2 f e4 e5 g h (by decide) (by decide) (by decide) (by decide), <-j];exact Ys (hs:=[]) (C:=[(0:Nat)=0]) (hs':=[]) y z (by rw[j];kernel_rfl) ⟨rfl,aw⟩
theorem ZMS(a:Chan)(c2:Chan)(l:Z4)(m:Int)(e1 e2 f e4 e5 g h:aq)(y:ce yb 23 [.p (Zi.enc a)] [] (.p (Ya.enc l)) []):iT a c2 l m e1 e2 f e4 e5 g h 7:=by
 intro X E F G I J z j A;rw[lK a c2 l m e1 e2 f e4 e5 g h (by decide) (by decide) (by decide) (by decide), <-j];exact Ys (hs:=[.call (.p (Ya.enc l)) [] []]) (C:=[ce yb 23 [.p (Zi.enc a)] [] (.p (Ya.enc l)) []]) (hs':=[]) z A (by rw[j];kernel_rfl) ⟨y,aw⟩
theorem ZMT(a:Chan)(c2:Chan)(l:Z4)(m:Int)(e1 e2 f e4 e5 g h:aq):iT a c2 l m e1 e2 f e4 e5 g h 8:=by
 intro X A E F G I y j z;rw[lK a c2 l m e1 e2 f e4 e5 g h (by decide) (by decide) (by decide) (by decide), <-j];exact Ys (hs:=[]) (C:=[]) (hs':=[]) y z (by rw[j];kernel_rfl) trivial
theorem ZMU(a:Chan)(c2:Chan)(l:Z4)(m:Int)(e1 e2 g e4 e5 y z:aq):iT a c2 l m e1 e2 g e4 e5 y z 9:=by
 intro X G R S T U I E J;have M:fJ a c2 l m e1 e2 g e4 e5 y z X=kh a c2 l m e1 e2 g e4 e5 y z (X 3) af (X 11) (X 12):=by unfold fJ;rw[G]
 have Q:fJ a c2 l m e1 e2 g e4 e5 y z (λj=>X j || decide (j=9))=kh a c2 l m e1 e2 g e4 e5 y z (X 3) ae (X 11) (X 12):=by
  unfold fJ;grind
 rw[Q];rw[M]at E
 obtain⟨A,F⟩:∃A,yb.info? 79=ab A:=by
  cases h:yb.info? 79 with
  |none=>have:=(by kernel_rfl:(yb.info? 79).isSome=ae);rw[h]at this;cases this
  |some A=>exact⟨A,rfl⟩
 have f:(yb.info? 79).map (λi=>(cu i,i.size))=ab (ae,Wx.size):=by kernel_rfl
 rw[F]at f;simp only[yae,yn,yq]at f;have h:=CS (P:=yb) (o:=ba kg 9) (t:=41) (e:=79) (i:=A) (len:=1) (id:=10) (parts:= #[(0,.tmp 111)]) (xs:=[Wx.enc (tH m l)]) I J (by rw[E];kernel_rfl) (by kernel_rfl) (by kernel_rfl) F f.1 (by rw[f.2];decide) (by rw[f.2];decide) (by kernel_rfl);rw[f.2,E]at h;exact Vr (Vr h (Wk.jH (bm.refl _)) (bZ.bE _ _ (.log (bm.refl _)))) (Wk.refl _) (bZ.of_eq (by kernel_rfl))
theorem ZLI(a:Chan)(c2:Chan)(l:Z4)(m:Int)(e1 e2 f e4 e5 g h:aq):iT a c2 l m e1 e2 f e4 e5 g h 10:=by
 intro X A E F G I j y z;rw[lK a c2 l m e1 e2 f e4 e5 g h (by decide) (by decide) (by decide) (by decide), <-y];exact Zx3 (P:=yb) (zs:=ltZ) j z (parts:= #[(0,.tmp 106),(1,.tmp 112)]) (by kernel_rfl) Tryz.underlying49 (by kernel_rfl) (by kernel_rfl) (by kernel_rfl)
theorem ZLJ(a:Chan)(c2:Chan)(l:Z4)(m:Int)(e1 e2 f e4 e5 g y:aq):iT a c2 l m e1 e2 f e4 e5 g y 11:=by
 intro X E S I T J M A U;have hs:X 12=af:=ZJk I (i:=12) (j:=11) (by rw[tI];decide) (by kernel_rfl) E;have Q:fJ a c2 l m e1 e2 f e4 e5 g y X=kh a c2 l m e1 e2 f e4 e5 g y (X 3) (X 9) af af:=by unfold fJ;rw[E,hs]
 have R:fJ a c2 l m e1 e2 f e4 e5 g y (λj=>X j || decide (j=11))=kh a c2 l m e1 e2 f e4 e5 g y (X 3) (X 9) ae af:=by
  unfold fJ;grind
 rw[R];rw[Q]at A
 obtain⟨z,F⟩:∃z,yb.info? 49=ab z:=by
  cases h:yb.info? 49 with
  |none=>have:=(by kernel_rfl:(yb.info? 49).isSome=ae);rw[h]at this;cases this
  |some z=>exact⟨z,rfl⟩
 have G:(yb.info? 49).map (λi=>i.zero.isSome)=ab ae:=by kernel_rfl
 rw[F]at G;have h:=BX (P:=yb) (o:=ba kg 11) (a:=J) (t:=49) (i:=z) (id:=11) M (by rw[A];kernel_rfl) (by kernel_rfl) F (by simpa using G) (by kernel_rfl) (by kernel_rfl);rw[A]at h;exact Vr h (Wk.refl _) (bZ.of_eq (by kernel_rfl))
theorem ZLK(a:Chan)(c2:Chan)(l:Z4)(m:Int)(e1 e2 f e4 e5 g z:aq):iT a c2 l m e1 e2 f e4 e5 g z 12:=by
 intro X F A T U W G E I;have J:=A 3 (by kernel_rfl);have M:=A 9 (by kernel_rfl);have Q:=A 11 (by kernel_rfl);have R:fJ a c2 l m e1 e2 f e4 e5 g z X=kh a c2 l m e1 e2 f e4 e5 g z ae ae ae af:=by unfold fJ;rw[F,J,M,Q]
 have S:fJ a c2 l m e1 e2 f e4 e5 g z (λj=>X j || decide (j=12))=kh a c2 l m e1 e2 f e4 e5 g z ae ae ae ae:=by
  unfold fJ;grind
 rw[S];rw[R]at E;have h:=vv (P:=yb) (o:=ba kg 12) (t:=49) (x:=.tmp 17) (y:=.tmp 113) (id:=11) (off:=0) (yQ:=[]) (dd:=bg yb 49) (sub:=bg yb 49) (new:=oF a c2 l m e1 e2 f e4 e5 g z 10) (dd':=oF a c2 l m e1 e2 f e4 e5 g z 10) (C1:=[]) (off':=0) (hs:=[]) (hs':=[]) G I (by kernel_rfl) (by kernel_rfl) (by rw[E];kernel_rfl) (by kernel_rfl) trivial rfl (by kernel_rfl) (by kernel_rfl) (by kernel_rfl) (by kernel_rfl) (by kernel_rfl) (by kernel_rfl);rw[E]at h;exact Vr h (Wk.refl _) (bZ.of_eq (by kernel_rfl))
theorem ZJm(a:Chan)(c2:Chan)(l:Z4)(m:Int)(e1 e2 f e4 e5 g j:aq)(z:ce yb 23 [.p (Zi.enc a)] [] (.p (Ya.enc l)) []):Xv yb (iz (ZX yb 10) 29) (oG a c2 l m e1 e2 f e4 e5 g j) (LY a c2 l m e1 e2 f e4 e5 g j) .normal (ZMK a c2 l m e1 e2 f e4 e5 g j) (kh a c2 l m e1 e2 f e4 e5 g j ae ae ae ae):=by
 rw[ZJl];refine CT (k:=3) (ts:=oG a c2 l m e1 e2 f e4 e5 g j) (H0:=LY a c2 l m e1 e2 f e4 e5 g j) (by kernel_rfl) (oF a c2 l m e1 e2 f e4 e5 g j) (fJ a c2 l m e1 e2 f e4 e5 g j) LZ (ZMI tI (by kernel_rfl)) (by kernel_rfl) (by rw[tI];kernel_rfl) (by kernel_rfl) (λX A=> ?_) [11] [5,6,7,8,13,16] (by kernel_rfl) (by kernel_rfl) (λi y=> ?_)
 .unfold fJ;rw[tI]at A;grind
 .rw[tI]at y
  match i,y with
  |0,_=>exact ZML a c2 l m e1 e2 f e4 e5 g j
  |1,_=>exact ZMM a c2 l m e1 e2 f e4 e5 g j
  |2,_=>exact ZMN a c2 l m e1 e2 f e4 e5 g j
  |3,_=>exact ZMO a c2 l m e1 e2 f e4 e5 g j
  |4,_=>exact ZMP a c2 l m e1 e2 f e4 e5 g j
  |5,_=>exact ZMQ a c2 l m e1 e2 f e4 e5 g j
  |6,_=>exact ZMR a c2 l m e1 e2 f e4 e5 g j
  |7,_=>exact ZMS a c2 l m e1 e2 f e4 e5 g j z
  |8,_=>exact ZMT a c2 l m e1 e2 f e4 e5 g j
  |9,_=>exact ZMU a c2 l m e1 e2 f e4 e5 g j
  |10,_=>exact ZLI a c2 l m e1 e2 f e4 e5 g j
  |11,_=>exact ZLJ a c2 l m e1 e2 f e4 e5 g j
  |12,_=>exact ZLK a c2 l m e1 e2 f e4 e5 g j
  |_+13,h=>exact absurd h (by omega)
end
end Go.Proofs.YtcbhhaigilifgaaGreat
end
section
set_option maxRecDepth 4000
namespace Go.Proofs.YtcbhhaigilifgaaGreat
open Go Go.Ev
noncomputable section
def MC(F:Nat):(Chan×yG×aNa×Chan×yG×Tx×aNd×yG×Chan)->yO dT3
 |(a,b,c,d,e,f,g,h,i)=>
 (XY F a).bind λj=>
 ab (a,b,c,d,e,f,g,h,i,[(a.1,(0,[],0))],[(i.2.1,j)],0)
def MD:yL bG:=[.var (.v Zi) ae,.var (.v Zb) ae,.var (.v aMS) ae,.var (.v Zi) ae,.var (.v Zb) ae,.var (.v bu) ae,.var (.v aNe) ae,.var (.v Zb) ae,.var (.v Zi) ae,.log cQ 91,.log Wx 79,.var (.agg [.own 9 cQ,.own 10 Wx,.v yI]) ae]
abbrev ZMV:yL Ty:=[Zi,Zb,aMS,Zi,Zb,bu,aNe,Zb,Zi,aNc,aNj,yI]
def ZNN:yL bG:=[.var (.v Zi) ae,.var (.v Zb) ae,.var (.v aMS) ae,.var (.v Zi) ae,.var (.v Zb) ae,.var (.v bu) ae,.var (.v aNe) ae,.var (.v Zb) ae,.var (.v Zi) ae]
def ZjI:Lp:=⟨[(3,.aj 0 []),(5,.aj 2 []),(6,.aj 3 []),(7,.aj 4 []),(8,.aj 5 []),(13,.aj 7 []),(16,.aj 8 [])],ZNN,[Zi,Zb,aMS,Zi,Zb,bu,aNe,Zb,Zi],[⟨.normal,[(5,.aj 2 []),(6,.aj 3 []),(7,.aj 4 []),(8,.aj 5 []),(13,.aj 7 []),(16,.aj 8 []),(17,.aj 11 [])],MD,ZMV⟩],MC yD⟩
theorem Znu:ZjI.Is yb (iA yb 10) (iz (ZX yb 10) 29):=by
 intro v o z s hs e vs A g hs';obtain⟨z0,h,z2,z3,z4,j,m,y,f⟩:=v;obtain⟨l,E,F⟩:=yf.1 (show(XY yD z0).bind _=ab o from z)
 cases F;obtain⟨rfl,rfl⟩:=g;have r:=ZJm z0 f l f.2.1 (.var (.p (Ty.enc Zb h)) ae) (.var (.p (Ty.enc aMS z2)) ae) (.var (.p (Ty.enc Zi z3)) ae) (.var (.p (Ty.enc Zb z4)) ae) (.var (.p (Ty.enc bu j)) ae) (.var (.p (Ty.enc aNe m)) ae) (.var (.p (Ty.enc Zb y)) ae) (ZGT ZfX E);have t1:Option.map (λ(s:yL TD×yL ah)=>(TD.aG (lk s.2) s.1,aJ s.2)) (ab s)=ab (oG z0 f l f.2.1 (.var (.p (Ty.enc Zb h)) ae) (.var (.p (Ty.enc aMS z2)) ae) (.var (.p (Ty.enc Zi z3)) ae) (.var (.p (Ty.enc Zb z4)) ae) (.var (.p (Ty.enc bu j)) ae) (.var (.p (Ty.enc aNe m)) ae) (.var (.p (Ty.enc Zb y)) ae),LY z0 f l f.2.1 (.var (.p (Ty.enc Zb h)) ae) (.var (.p (Ty.enc aMS z2)) ae) (.var (.p (Ty.enc Zi z3)) ae) (.var (.p (Ty.enc Zb z4)) ae) (.var (.p (Ty.enc bu j)) ae) (.var (.p (Ty.enc aNe m)) ae) (.var (.p (Ty.enc Zb y)) ae)):=by rw[<-hs];kernel_rfl
 have t2:Option.map (λ(s:yL TD×yL ah)=>(TD.aG (lk s.2) s.1,aJ s.2)) (ab A)=ab (ZMK z0 f l f.2.1 (.var (.p (Ty.enc Zb h)) ae) (.var (.p (Ty.enc aMS z2)) ae) (.var (.p (Ty.enc Zi z3)) ae) (.var (.p (Ty.enc Zb z4)) ae) (.var (.p (Ty.enc bu j)) ae) (.var (.p (Ty.enc aNe m)) ae) (.var (.p (Ty.enc Zb y)) ae),kh z0 f l f.2.1 (.var (.p (Ty.enc Zb h)) ae) (.var (.p (Ty.enc aMS z2)) ae) (.var (.p (Ty.enc Zi z3)) ae) (.var (.p (Ty.enc Zb z4)) ae) (.var (.p (Ty.enc bu j)) ae) (.var (.p (Ty.enc aNe m)) ae) (.var (.p (Ty.enc Zb y)) ae) ae ae ae ae):=by rw[<-hs'];kernel_rfl
 simp only[yae,yn,yq]at t1 t2;rw[t1.1,t1.2,t2.1,t2.2];exact r
abbrev ME:Type:=(aNa×Int×(yL Xe)×Int×Int×Chan×yG×aNa×Chan×yG×Tx×aNd×yG×Chan×aMZ×aNf×Int×ai)
abbrev dT5:Type:=(aNa×Int×Chan×yG×aNa×Chan×yG×Tx×aNd×yG×Chan×aMZ×aNf×Int×ai)
def WB(F:Nat):ME->yO (ME⊕dT5)
 |(e,f,c,b,a,g,h,i,j,k,l,m,n,o,d,p,q,r)=>
 if(ag (a < b))=ae then
  (idx c a).bind λs=>
  if(cj d.length 1 80)=ae then
   let t:aMZ:=d++([(s.1,(0,[],0))]:yL In)
   ab (.inl (e,f,c,b,wi (a+1),g,h,i,j,k,l,m,n,o,t,p,q,r))
  else
  ad
 else
 ab (.inr (e,f,g,h,i,j,k,l,m,n,o,d,p,q,r))
def ZMW:yL bG:=[.var (.v Zi) ae,.var (.v Zb) ae,.var (.v aMS) ae,.var (.v Zi) ae,.var (.v Zb) ae,.var (.v bu) ae,.var (.v aNe) ae,.var (.v Zb) ae,.var (.v Zi) ae,.log cQ 91,.log Wx 79,.var (.agg [.own 9 cQ,.own 10 Wx,.v yI]) ae,.var (.v Zd) ae]
abbrev ZNO:yL Ty:=[aMS,yI,Zi,Zb,aMS,Zi,Zb,bu,aNe,Zb,Zi,aNc,aNj,yI,Zd]
abbrev ZNP:yL Ty:=[aMS,yI,(.sl QG),yI,yI,Zi,Zb,aMS,Zi,Zb,bu,aNe,Zb,Zi,aNc,aNj,yI,Zd]
def ZjJ:Lp:=⟨[(6,.aj 3 []),(7,.aj 4 []),(8,.aj 5 []),(13,.aj 7 []),(16,.aj 8 []),(17,.aj 11 []),(19,.aj 12 []),(114,.v aMS),(115,.v yI),(119,.v (.sl QG)),(120,.v yI),(121,.v yI)],ZMW,ZNP,[⟨.exit 4,[(6,.aj 3 []),(7,.aj 4 []),(8,.aj 5 []),(13,.aj 7 []),(16,.aj 8 []),(17,.aj 11 []),(19,.aj 12 []),(114,.v aMS),(115,.v yI)],ZMW,ZNO⟩],Zc (WB yD) yD⟩
theorem Znv:ZjJ.bR yb 10 2:=ZG xW [] [] trivial
abbrev dT6:Type:=(aNa×Int×Chan×yG×aNa×Chan×yG×Tx×aNd×yG×Chan×aMZ×aNf×Int)
def X0(F:Nat):dT6->yO (dT6⊕dT3)
 |(q,p,r,t,u,v,w,x,y,z,A,B,C,D)=>
 if(ag (p < 2))=ae then
  (idx q p).bind λs=>
  (Zc (WB F) F (q,p,s.1,(s.1.length:Int),0,r,t,u,v,w,x,y,z,A,B,C,D,s)).bind λ(c,d,e,f,g,h,i,j,k,l,m,n,a,o,b)=>
  if(cj a.length b.2.1.length 32)=ae then
   let E:aNf:=a++b.2.1
   ab (.inl (c,wi (d+1),e,f,g,h,i,j,k,l,m,n,E,o))
  else
  ad
 else
 ab (.inr (r,t,u,v,w,x,y,z,A,B,C,D))
abbrev ZNQ:yL Ty:=[aMS,yI,Zi,Zb,aMS,Zi,Zb,bu,aNe,Zb,Zi,aNc,aNj,yI]
def ZjK:Lp:=⟨[(6,.aj 3 []),(7,.aj 4 []),(8,.aj 5 []),(13,.aj 7 []),(16,.aj 8 []),(17,.aj 11 []),(114,.v aMS),(115,.v yI)],MD,ZNQ,[⟨.exit 2,[(6,.aj 3 []),(7,.aj 4 []),(8,.aj 5 []),(13,.aj 7 []),(16,.aj 8 []),(17,.aj 11 [])],MD,ZMV⟩],Zc (X0 yD) yD⟩
theorem Znw:ZjK.bR yb 10 1:=ZG xW [(2,ZjJ)] [] trivial ⟨Znv,aw⟩
def WL(F:Nat)(a0:Chan)(a1:yG)(a2:aNa):yO ((Chan×yG×Tx×Int)):=
 (Wt F a0).bind λs=>
 if(s !=0)=ae then
  ab (((dt,0),0,[(0,0,0,0,0),(0,0,0,0,0)],[(0,0,0,0,0,0),(0,0,0,0,0,0)],0),(0,[0,0],[],0),([],[],0),s)
 else
 (au F a0 a1).bind λD=>
 if(!D)=ae then
  ab (((dt,0),0,[(0,0,0,0,0),(0,0,0,0,0)],[(0,0,0,0,0,0),(0,0,0,0,0,0)],0),(0,[0,0],[],0),([],[],0),14)
 else
 (xQ F a2).bind λE=>
 if(!E.2)=ae then
  ab (((dt,0),0,[(0,0,0,0,0),(0,0,0,0,0)],[(0,0,0,0,0,0),(0,0,0,0,0,0)],0),(0,[0,0],[],0),([],[],0),1)
 else
 (ZP F a1 E.1).bind λG=>
 (G.2.1[0]?).bind λH=>
 (G.2.1[1]?).bind λI=>
 if(ag ((vR H I) < 0))=ae then
  ab (((dt,0),0,[(0,0,0,0,0),(0,0,0,0,0)],[(0,0,0,0,0,0),(0,0,0,0,0,0)],0),(0,[0,0],[],0),([],[],0),8)
 else
 (Zc (XZ F) F (E.1,0,a0,a1,a2,((dt,0),0,[(0,0,0,0,0),(0,0,0,0,0)],[(0,0,0,0,0,0),(0,0,0,0,0,0)],0),(0,[0,0],[],0),([],[],0),E.1,G)).bind λJ=>
 match J with
 |.inl (d,_,_,_,a,b,c,_,_)=>
  ab (a,b,c,d)
 |.inr (w,B,C,y,z,A,v,x)=>
  (v[0]?).bind λK=>
  (v[1]?).bind λL=>
  (au F (w.1,wi (w.2.1+(wi (K+L))),w.2.2.1,w.2.2.2.1,w.2.2.2.2) x).bind λM=>
  if(!M)=ae then
   ab (y,z,A,8)
  else
  (MC F (w,B,C,y,z,A,v,x,(w.1,wi (w.2.1+(wi (K+L))),w.2.2.1,w.2.2.2.1,w.2.2.2.2))).bind λ(j,k,i,l,m,n,o,p,q,r,t,u)=>
  (Zc (X0 F) F (i,0,j,k,i,l,m,n,o,p,q,r,t,u)).bind λ(_,_,_,d,e,f,_,h,g,a,b,c)=>
  (qe F (a,b,c)).bind λN=>
  (oE F N).bind λO=>
  if(!O.2)=ae then
   ab (d,e,f,1)
  else
  (oC F O.1).bind λP=>
  (idx P 0).bind λQ=>
  ab ((Q,g.2.1,g.2.2.1,g.2.2.2.1,g.2.2.2.2),h,O.1,0)
def MF(F:Nat):Fs yb:=⟨10,[.v Zi,.v Zb,.v aMS],[],[Zi,Zb,aMS],[⟨.ret,[(0,.bp [.v Zi,.v Zb,.v bu,.v yI])],[],[Zi,Zb,bu,yI]⟩],λx=>WL F x.1 x.2.1 x.2.2⟩
def Zlf:Fs yb:=MF yD
theorem MG:Zlf.Ok:=wS (fi:={ hi:=xW,lp:=[(0,ZjG),(1,ZjK)],bk:=[(29,ZjI)]}) (aK:={ l:=[KZ,VV,Zg3,Zjf,Zsx,Zu7,KV]}) (oj ⟨Zni,Vb,ZfZ,Zii,Zzg,ZBl,Zsp,aw⟩) ⟨Zns,Znw,aw⟩ (hb:=⟨Znu,aw⟩)
def QH(F:Nat)(s:(yU×aMP×Int×aMP)):yO ((yU×aMP×Int×aMP)⊕(yU×aMP)):=
 if(ag (s.2.2.1 < 32))=ae then
  (idx s.2.1 s.2.2.1).bind λa=>
  (Vk F (ZB s.1 56) ((V5 s.1 8)|||(yan a.toNat)) 2305843009213688668).bind λb=>
  ab (.inl (b,s.2.1,wi (s.2.2.1+1),s.2.2.2))
 else
 ab (.inr (s.1,s.2.2.2))
def Zlg:Lp:=⟨[(3,.v .u64),(6,.v aMU),(7,.v yI)],[.var (.v aMU) ae],[.u64,aMU,yI,aMU],[⟨.exit 0,[(3,.v .u64)],[.var (.v aMU) ae],[.u64,aMU]⟩],Zc (QH yD) yD⟩
theorem ZoS:Zlg.bR yb 70 0:=ZG { still:=[2,11,16]} [] [wZ] ⟨JL,aw⟩
def Vn(F:Nat)(a0:aMP):yO (yU):=
 (Zc (QH F) F (0,a0,0,a0)).bind λa=>
 ab (a.1+1)
def qf:Fs yb:=⟨70,[.v aMU],[],[aMU],(zN .u64),λx=>Vn yD x⟩
theorem tJ:qf.Ok:=be { still:=[2,11,16]} [(0,Zlg)] [] trivial ⟨ZoS,aw⟩
abbrev QI:Ty:=(.st [.u64,.u64,.u64,.u64,.u64,aMU])
abbrev dE:Type:=(yU×yU×yU×yU×yU×aMP)
abbrev dE.Cond(x:dE):yU:=x.2.2.2.1
def tK:ByteArray:=⟨#[107,105,116]⟩
def VB(F:Nat)(s:(Int×aMP×dE×aMY)):yO ((Int×aMP×dE×aMY)⊕(aMP×dE×aMY)):=
 if(ag (s.1 < 5))=ae then
  (VT F tK [s.2.1,[w8 (wi (s.1+1))]]).bind λa=>
  (Vn F a).bind λb=>
  if(bi s.1 5)=ae then
   (s.2.2.2[s.1.toNat]?).bind λc=>
   ab (.inl (wi (s.1+1),s.2.1,s.2.2.1,s.2.2.2.set s.1.toNat b))
  else
  ad
 else
 ab (.inr (s.2.1,s.2.2.1,s.2.2.2))
def ZpP:Lp:=⟨[(1,.aj 0 []),(2,.aj 1 []),(3,.aj 2 []),(5,.v yI)],[.var (.v aMU) af,.var (.v QI) ae,.var (.v (.arr 5 .u64)) ae],[yI,aMU,QI,(.arr 5 .u64)],[⟨.exit 0,[(1,.aj 0 []),(2,.aj 1 []),(3,.aj 2 [])],[.var (.v aMU) af,.var (.v QI) ae,.var (.v (.arr 5 .u64)) ae],[aMU,QI,(.arr 5 .u64)]⟩],Zc (VB yD) yD⟩
def ZMX:HI:={ still:=[14,15,31],eD:=[9,29]}
theorem Zsy:ZpP.bR yb 54 0:=ZG ZMX [] [Qx,qf] ⟨Qy,tJ,aw⟩
def tL(F:Nat)(a0:aMP):yO (dE):=
 (Zc (VB F) F (0,a0,(0,0,0,0,0,dt),[0,0,0,0,0])).bind λa=>
 (a.2.2[0]?).bind λb=>
 (a.2.2[1]?).bind λc=>
 (a.2.2[2]?).bind λd=>
 (a.2.2[3]?).bind λe=>
 (a.2.2[4]?).bind λf=>
 (VT F tK [a.1,[6]]).bind λg=>
 ab (b,c,d,e,f,g)
def Zsz:Fs yb:=⟨54,[.v aMU],[],[aMU],(zN QI),λx=>tL yD x⟩
theorem Zzj:Zsz.Ok:=be ZMX [(0,ZpP)] [Qx] ⟨Qy,aw⟩ ⟨Zsy,aw⟩
def qg(F:Nat)(a0:yU):yO (yU):=
 (Xc F a0).bind λa=>
 if a=ae then
  ab a0
 else
 ab 1
def xY:Fs yb:=⟨184,[.v .u64],[],[.u64],(zN .u64),λx=>qg yD x⟩
theorem MH:xY.Ok:=be { still:=[2,3]} [] [WS] ⟨W9,aw⟩
def VC(F:Nat)(a0:yU)(a1:yU):yO (yU):=
 (qg F a0).bind λa=>
 (Q2 F a (a1 % 2305843009213688669)).bind λb=>
 ab b
def xZ:Fs yb:=⟨126,[.v .u64,.v .u64],[],[.u64,.u64],(zN .u64),λx=>VC yD x.1 x.2⟩
theorem MI:xZ.Ok:=be { still:=[4,5,6,8]} [] [xY,xc] ⟨MH,JT,aw⟩
def Y3(F:Nat)(a0:yU):yO (yU):=
 (VC F 4 a0).bind λa=>
 ab a
def qh:Fs yb:=⟨69,[.v .u64],[],[.u64],(zN .u64),λx=>Y3 yD x⟩
theorem tM:qh.Ok:=be { still:=[2,3]} [] [xZ] ⟨MI,aw⟩
def yA(F:Nat)(a0:dE):yO (bn):=
 (Y3 F a0.1).bind λa=>
 (Y3 F a0.2.1).bind λb=>
 (Y3 F a0.2.2.1).bind λc=>
 (Y3 F a0.2.2.2.1).bind λd=>
 (Y3 F a0.2.2.2.2.1).bind λe=>
 ab (a,b,c,d,e)
def Zlh:Fs yb:=⟨55,[.v QI],[],[QI],(zN xK),λx=>yA yD x⟩
theorem ZsA:Zlh.Ok:=be { still:=[4,7,10,13,16]} [] [qh] ⟨tM,aw⟩
def MJ(F:Nat)(a0:Cond)(s0:Int)(s1:Int):yO ((Bool×Int×Int)):=
 if(a0.1==s0)=ae then
  ab (a0.2.1==s1,s0,s1)
 else
 ab (af,s0,s1)
def ZjL:Fs yb:=⟨178,[.v Zm,.aj 0 [],.aj 1 []],[.var (.v yI) ae,.var (.v yI) ae],[Zm,yI,yI],[⟨.ret,[(0,.v .bool)],[.var (.v yI) ae,.var (.v yI) ae],[.bool,yI,yI]⟩],λx=>MJ yD x.1 x.2.1 x.2.2⟩
theorem Zqp:ZjL.Ok:=be { still:=[4]} [] [] trivial
def Vd(F:Nat):(aNb×Int×Int×Int×Int)->yO ((aNb×Int×Int×Int×Int)⊕((Int×Int×Int)⊕(Int×Int)))
 |(c,b,a,d,e)=>
 if(ag (a < b))=ae then
  (idx c a).bind λf=>
  (MJ F f d e).bind λg=>
  if g.1=ae then
   ab (.inr (.inl (a,g.2.1,g.2.2)))
  else
  ab (.inl (c,b,wi (a+1),g.2.1,g.2.2))
 else
 ab (.inr (.inr (d,e)))
def Zis:Lp:=⟨[(0,.v aMT),(1,.fn 178 [.aj 0 [],.aj 1 []]),(7,.v yI),(8,.v yI)],[.var (.v yI) ae,.var (.v yI) ae],[aMT,yI,yI,yI,yI],[⟨.ret,[(4,.v yI)],[.var (.v yI) ae,.var (.v yI) ae],[yI,yI,yI]⟩,⟨.exit 0,[],[.var (.v yI) ae,.var (.v yI) ae],[yI,yI]⟩],Zc (Vd yD) yD⟩
theorem ZlV:Zis.bR yb 177 0:=ZG { still:=[4,15]} [] [ZjL] ⟨Zqp,aw⟩
def MK(F:Nat)(a0:aNb)(s0:Int)(s1:Int):yO ((Int×Int×Int)):=
 (Zc (Vd F) F (a0,(a0.length:Int),0,s0,s1)).bind λa=>
 match a with
 |.inl b=>
  ab (b.1,b.2.1,b.2.2)
 |.inr c=>
  ab ((-1),c.1,c.2)
def ZjM:Fs yb:=⟨177,[.v aMT,.fn 178 [.aj 0 [],.aj 1 []]],[.var (.v yI) ae,.var (.v yI) ae],[aMT,yI,yI],[⟨.ret,[(0,.v yI)],[.var (.v yI) ae,.var (.v yI) ae],[yI,yI,yI]⟩],λx=>MK yD x.1 x.2.1 x.2.2⟩
theorem Zqq:ZjM.Ok:=be { still:=[4,15]} [(0,Zis)] [] trivial ⟨ZlV,aw⟩
def yC(F:Nat)(a0:yG)(a1:Int)(a2:Int):yO ((Cond×Bool)):=
 (MK F a0.2.2.1 a1 a2).bind λa=>
 if(ag (a.1 < 0))=ae then
  ab ((0,0,0,0,0),af)
 else
 (idx a0.2.2.1 a.1).bind λb=>
 ab (b,ae)
def Znx:Fs yb:=⟨114,[.v Zb,.v yI,.v yI],[],[Zb,yI,yI],[⟨.ret,[(0,.bp [.v Zm,.v .bool])],[],[Zm,.bool]⟩],λx=>yC yD x.1 x.2.1 x.2.2⟩
theorem Zt0:Znx.Ok:=be { still:=[7,10,11]} [] [ZjM] ⟨Zqq,aw⟩
def ZNR:HI:={ own:=[0,23,25,34,40,60],still:=[6,61,66,91,92]}
def za(F:Nat):(aNb×Int×Int×Int×Cond)->yO ((aNb×Int×Int×Int×Cond)⊕(aNb×Int×Int×Cond))
 |(c,e,a,b,d)=>
 if(ag (a < b))=ae then
  let f:Int:=wi ((ZB (dy (wi (a+b))) 1).toNat:Int)
  (idx c f).bind λg=>
  (qc F g d).bind λh=>
  if(ag (h < 0))=ae then
   ab (.inl (c,e,wi (f+1),b,d))
  else
  ab (.inl (c,e,a,f,d))
 else
 ab (.inr (c,e,a,d))
def Zit:Lp:=⟨[(0,.v aMT),(2,.fn 61 []),(4,.aj 0 []),(8,.v yI),(9,.v yI),(10,.v yI)],[.var (.v Zm) ae],[aMT,yI,yI,yI,Zm],[⟨.exit 0,[(0,.v aMT),(2,.fn 61 []),(4,.aj 0 []),(8,.v yI),(9,.v yI)],[.var (.v Zm) ae],[aMT,yI,yI,Zm]⟩],Zc (za yD) yD⟩
theorem ZlW:Zit.bR yb 179 0:=ZG { still:=[6,7,28,29,44,45]} [] [xO] ⟨LF,aw⟩
def WV(F:Nat)(a0:aNb)(a1:Cond):yO ((Int×Bool)):=
 (Zc (za F) F (a0,(a0.length:Int),0,(a0.length:Int),a1)).bind λa=>
 if(ag (a.2.2.1 < a.2.1))=ae then
  (idx a.1 a.2.2.1).bind λb=>
  (qc F b a.2.2.2).bind λc=>
  ab (a.2.2.1,c==0)
 else
 ab (a.2.2.1,af)
def ZjN:Fs yb:=⟨179,[.v aMT,.v Zm,.fn 61 []],[],[aMT,Zm],[⟨.ret,[(0,.bp [.v yI,.v .bool])],[],[yI,.bool]⟩],λx=>WV yD x.1 x.2⟩
theorem Ziu:ZjN.Ok:=be { still:=[6,7,28,29,44,45]} [(0,Zit)] [xO] ⟨LF,aw⟩ ⟨ZlW,aw⟩
def Xf(F:Nat)(a0:aNb):yO (aNb):=
 if(cj 0 a0.length 40)=ae then
  ab a0
 else
 ad
def Zt1:Fs yb:=⟨53,[.sl ae Zm],[],[aMT],[⟨.ret,[(0,.own 0 Zm)],[.log Zm 93],[aMT]⟩],λx=>Xf yD x⟩
theorem ZsB:Zt1.Ok:=be { own:=[2,5,7]} [] [] trivial
def Zny(F:Nat):yO (aNb):=
 ab []
def Zt2:Fs yb:=⟨53,[.nil Zm],[],[],[⟨.ret,[(0,.own 0 Zm)],[.log Zm 93],[aMT]⟩],λx=>Zny yD⟩
theorem ZsC:Zt2.Ok:=be { own:=[2,5,7]} [] [] trivial
def Ziv:Fs yb:=⟨53,[.v aMT],[],[aMT],[⟨.ret,[(0,.own 0 Zm)],[.log Zm 93],[aMT]⟩],λx=>Xf yD x⟩
theorem Zg6:Ziv.Ok:=sQ (t:=Zm) (xs:=[⟨.ret,[(0,.own 0 Zm)],[.log Zm 93],[aMT]⟩]) (MA:=λ(x:aNb)=>Xf yD x) (MB:=λ_=>Zny yD) ZsB ZsC rfl
def ML(F:Nat)(a1:Int)(a2:aNb)(s0:aNb):yO (aNb):=
 if(dX s0.length (ab a1) ad)=ae then
  if((a2.length:Int)==0)=ae then
   ab s0
  else
  if(a1==(s0.length:Int))=ae then
   if(cj s0.length a2.length 40)=ae then
    ab (s0++a2)
   else
   ad
  else
  ad
 else
 ad
def Zf1:Fs yb:=⟨180,[.own 0 Zm,.v yI,.v aMT],[.log Zm 93],[yI,aMT,aMT],[⟨.ret,[(0,.own 0 Zm)],[.log Zm 93],[aMT]⟩],λx=>ML yD x.1 x.2.1 x.2.2⟩
theorem ZlX:Zf1.Ok:=be ZNR [] [] trivial
def MM(F:Nat)(a0:yG)(a1:Cond):yO (yG):=
 (WV F a0.2.2.1 a1).bind λa=>
 (Xf F a0.2.2.1).bind λb=>
 (ML F a.1 [a1] b).bind λc=>
 ab (a0.1,a0.2.1,c,a0.2.2.2)
def ZsD(F:Nat):Fs yb:=⟨115,[.v Zb,.v Zm],[],[Zb,Zm],(zN Zb),λx=>MM F x.1 x.2⟩
def Zt3:Fs yb:=ZsD yD
def ZNS:HI:={ own:=[16],still:=[9,10,15,16,17,19]}
theorem ZsE:Zt3.Ok:=be ZNS [] [Zf1,ZjN,Ziv] ⟨ZlX,Ziu,Zg6,aw⟩
end
end Go.Proofs.YtcbhhaigilifgaaGreat
end
section
set_option maxRecDepth 10000
namespace Go.Proofs.YtcbhhaigilifgaaGreat
open Go Go.Ev
noncomputable section
theorem ZJn{P:Program}{g:FuncId}{args:yL Dv}{s e:Nat}{v:Nat}{xs:yL Pl}(h:ce P g args [] (.own 0 ad s xs) [.log s e xs])(J:xs≠[])(hf:Pl.aS xs=ae):
 ce P g args [] (.rv 0 v s 0 xs.length) [.row v s ae e (.p (.arr xs.length s xs))]:=by
 intro σ vs ok X yM;refine Calls.mono (h σ vs ok X yM) ?_;rintro e' w' ⟨u,M,rfl,rfl,G,f,l,hr⟩;have Q:σ.m=[]:=List.eq_nil_of_length_eq_zero (by rw[ok.len,X];rfl);obtain⟨Y,A,c,rfl,T,h3,h4,h5,h6,e0,ys0,Z,h8,h9⟩:=QV hr;rw[G]at Z;simp only[yam,yn,aq.log.injEq,true_and]at Z;obtain⟨rfl,rfl⟩:=Z;rcases h9 rfl with⟨_,rfl,_⟩|⟨b,R,z,rfl,E,hcs⟩
 .obtain⟨_,_,_,h,_⟩:=h6 J;cases h
 have U:=l.dF 0 _ _ (by rw[G];rfl) z;rcases U with⟨h,_⟩|⟨y,cur',cap,h,g3,g4,g5,g6,g7,g8⟩
 .cases h
 cases h;rw[E]at g3;cases g3;let σ2:Sg:={ M with H:=[.row v s ae e (.p (.arr xs.length s xs))]}
 have only:∀(i y:Nat),M.m[i]? =ab (ab y)->i=0:=by
  intro i y h;have:i < M.H.length:=by rw[<-l.len];exact(yu.1 h).1
  rw[G]at this;simpa using this
 have hnew:σ.w.heap.size<=b:=by
  rcases f.same 0 b z with h|h
  .rw[Q]at h;cases h
  .exact h
 have S:∀y o,y≠b->M.bf y o->σ2.bf y o:=by
  intro y o J hs;refine⟨hs.1,λid e j T=> ?_⟩;have:=only id y j;subst this;have I:M.m[0]? =ab (ab y):=j;rw[z]at I;cases I;exact absurd rfl J
 refine⟨_,σ2,rfl,rfl,rfl, ?_, ?_, ?_⟩
 .refine⟨⟨λy o u j T=> ?_,λid y j _=> ?_,λid s' len A c' j=> ?_,λid y j _=> ?_,λid v s st e d j=>by rw[X]at j;cases j⟩,f.F,f.B,f.os,f.tape,f.output,f.size,f.block,f.same,f.len⟩
  .obtain⟨k1,k2⟩:=f.leaf.cells y o u j T;exact⟨k1,S y o (by have:=Wj j;omega) k2⟩
  .rw[Q]at j;cases j
  .obtain⟨e,ys,k,_⟩:=j;rw[X]at k;cases k
  .rw[Q]at j;cases j
 .refine⟨?_,l.inj,l.lt,λi e0 a j T=> ?_,l.new,l.own⟩
  .show M.m.length=1;rw[l.len,G];rfl
  .have hi:i=0:=by
    have:i < [aq.row v s ae e (.p (.arr xs.length s xs))].length:=(yu.1 j).1;simpa using this
   subst hi;have I:ab (aq.row v s ae e (.p (.arr xs.length s xs)))=ab e0:=j;cases I;have W:M.m[0]? =ab a:=T;rw[z]at W;cases W;refine⟨xs.length,by simp[aR],.inr ⟨b,R,_,rfl,E,g4,g5,g6, ?_⟩⟩;show yH σ2 (.p (.arr xs.length s xs)) (R.toList.take (xs.length*s));simp only[yH,aB];exact⟨zP,Y,dx xs _ hf g8⟩
 .rw[Zh (by rfl)];simp only[yH];exact⟨_,c,rfl,T,h3,λh=>(by cases h),λ_=>⟨_,_,rfl⟩,v,s,ae,e,_,rfl,ym _,λ_=>⟨rfl,.inr ⟨b,R,z,E,by rw[hcs,yar],λ_=>by simp⟩⟩⟩
theorem ZGU{l:yL Cond}{c:Cond}{o:Int×Bool}(h:WV yD l c=ab o):ce yb 179 [.p (Ty.enc aMT l),.p (Zm.enc c),.fn 61 []] [] (.bp [.p (.int .i64 o.1),.p (.bool o.2)]) []:=by
 obtain⟨g,R,H,f,j,m⟩:=Ziu (l,c) o h;have f:=(show Sh.fills [.v aMT,.v Zm,.fn 61 []] (dD [.sl Zm,Zm] (l,c))=ab ([.p (.v aMT l),.p (.v Zm c),.fn 61 []],[]) by kernel_rfl).symm.trans f;cases f;cases j;obtain⟨r,y,z⟩:=m _ _ ([.bp [.p (.v (.int .i64) o.1),.p (.v .bool o.2)]],[]) ⟨rfl,rfl⟩ (by kernel_rfl);cases y;exact z
theorem ZD1{l f:yL Cond}(h:Xf yD l=ab f):ce yb 53 [.p (Ty.enc aMT l)] [] (.own 0 ad 5 (f.map Zm.enc)) [.log 5 93 (f.map Zm.enc)]:=by
 obtain⟨j,R,H,g,m,y⟩:=Zg6 l f h;have g:=(show Sh.fills [.v aMT] (dD [.sl Zm] l)=ab ([.p (.v aMT l)],[]) by kernel_rfl).symm.trans g;cases g;cases m;obtain⟨r,z,A⟩:=y _ _ ([.own 0 ad Zm ad],[.log Zm 93 f]) ⟨rfl,rfl⟩ (by kernel_rfl);cases z;exact A
theorem Zu8{α:Type}(f:α->Pl)(h:∀x,(f x).flat=ae):∀l:yL α,Pl.aS (l.map f)=ae
 |[]=>rfl
 |x::r=>by
  show((f x).flat&&Pl.aS (r.map f))=ae;rw[h x,Zu8 f h r];rfl
theorem ZBm(l:yL Cond):Pl.aS (l.map Zm.enc)=ae:=Zu8 _ (λx=>rfl) l
theorem ZJo{α β:Type}(f:α->β)(l:yL α)(k:Nat)(c:α)(g:k<=l.length):(((l.map f).take k++f c::(l.map f).drop k).drop 0).take (l.length+1)=(l.take k++c::l.drop k).map f:=by
 rw[List.drop_zero,List.take_of_length_le (by simp only[yl,yaa,yaf,yaz,yad];omega),yaw,List.map_take,yah,List.map_drop]
noncomputable def oH(i:Nat):Array Oper:=match i,ZX yb 115 with
 |0,.seq (.region _ o _) _=>o
 |1,.seq _ (.seq (.region _ o _) _)=>o
 |2,.seq _ (.seq _ (.seq (.region _ o _) _))=>o
 |3,.seq _ (.seq _ (.seq _ (.seq (.region _ o _) _)))=>o
 |_,_=> #[]
noncomputable def kQ:Array Oper:=oH 2
theorem ZJp:ZX yb 115=.seq (.region 0 (oH 0) af) (.seq (.region 1 (oH 1) af) (.seq (.region 2 kQ ae) (.seq (.region 3 (oH 3) af) .ret))):=by kernel_rfl
theorem zb:kQ.size=9:=by kernel_rfl
section
variable(s:yG)(c:Cond)(k:Nat)(b:Bool)
noncomputable def ZNT:yL Dv:=[.p (Zb.enc s),.p (Zm.enc c)]++yx 21 .an
noncomputable def ZMY:yL Dv:=[.p (Zb.enc s),.p (Zm.enc c),.aj 0 0 [],.aj 1 0 [],.aj 2 0 []]++yx 18 .an
noncomputable def zc:Dv:=.bp [.p (.int .i64 (k:Int)),.p (.bool b)]
noncomputable def qi:yL Dv:=[.p (Zb.enc s),.p (Zm.enc c),.aj 0 0 [],.aj 1 0 [],.aj 2 0 [],.p (.int .i64 (k:Int)),.p (.bool b),zc k b,.aj 0 3 [2],.p (Ty.enc aMT s.2.2.1),.p (Zm.enc c),zc k b,.p (.int .i64 (k:Int)),.p (.bool b)]++yx 9 .an
noncomputable def tN:aq:=.var (bg yb 39) ae
noncomputable def oI(l:yL Cond):yL Pl:=(l.map Zm.enc).take k++Zm.enc c::(l.map Zm.enc).drop k
noncomputable def MN(l:yL Cond):Nat->Dv
 |0=>.aj 0 3 [2]
 |1=>.p (Ty.enc aMT s.2.2.1)
 |2=>.rv 3 0 5 0 l.length
 |3=>.p (.int .i64 (k:Int))
 |4=>.p (Zm.enc c)
 |5=>.own 4 (ab ae) 5 [Zm.enc c]
 |6=>.rv 3 1 5 0 (l.length+1)
 |7=>.aj 0 3 [2]
 |_=>.an
noncomputable def qj(l:yL Cond):Dv:=.agg [.p (.int .i64 s.1),.p (Ty.enc (.arr 2 (.int .i64)) s.2.1),.rv 3 1 5 0 (l.length+1),.p (.int .i64 s.2.2.2)]
noncomputable def jr(l:yL Cond)(f g b2 h:Bool):yL aq:=(match f with|true=>aq.var (qj s l) ae|false=>aq.var (.p (Zb.enc s)) ae)::aq.var (.p (Zm.enc c)) ae::tN::
 (match g with|true=>aq.row 1 5 ae 93 (.p (.arr (l.length+1) 5 (oI c k l)))|false=>(match b2 with|true=>aq.row 0 5 ae 93 (.p (.arr l.length 5 (l.map Zm.enc)))|false=>.gone))::
 (match h with|true=>aq.log 5 93 [Zm.enc c]|false=>.gone)::[]
noncomputable def fK(l:yL Cond)(X:Nat->Bool):yL aq:=jr s c k l (X 8) (X 6) (X 2) (X 5)
end
noncomputable def wqS:Nat->yL Nat×yL Nat
 |0=>([],[2])
 |1=>([0],[])
 |2=>([1],[])
 |3=>([],[5])
 |4=>([],[3])
 |5=>([4],[])
 |6=>([2,3,5],[])
 |7=>([],[2])
 |8=>([7,6],[])
 |_=>([],[])
theorem tO{s:yG}{c:Cond}{k:Nat}{l:yL Cond}{X:Nat->Bool}{i:Nat}(h1:8≠i)(h2:6≠i)(h3:2≠i)(h4:5≠i):fK s c k l (λj=>X j || decide (j=i))=fK s c k l X:=by
 unfold fK;simp only[yZ h1,yZ h2,yZ h3,yZ h4,ycj]
theorem ZMZ{ops:Array Oper}{n:Nat}(hn:ops.size=n)(h:((yo n).all λi=>(yo n).all λj=>aT ops.toList i==ad || !(aT ops.toList i==aT ops.toList j) || decide (i=j))=ae):
 ∀i j,i < ops.size->j < ops.size->aT ops.toList i≠ad->aT ops.toList i=aT ops.toList j->i=j:=by
 rw[hn];intro i j l m;have h1:=yal.1 (yal.1 h i (ybr.2 l)) j (ybr.2 m);intro g f;rw[f]at g;simp only[Bool.or_eq_true,yP,yT,Bool.not_eq_true',beq_eq_false_iff_ne]at h1;rcases h1 with(h1|h1)|h1
 .exact absurd (f.symm.trans h1) g
 .exact absurd f h1
 .exact h1
theorem mV{i:Nat}(h:i < 9):i < kQ.size:=by rw[zb];exact h
theorem ZJq{s:yG}{c:Cond}{k:Nat}{b:Bool}{l:yL Cond}(hk:k<=l.length)(hn:l.length<=1000)(hl:l≠[])(hC:Xf yD s.2.2.1=ab l):
 Xv yb (.region 2 kQ ae) (qi s c k b) [.var (.p (Zb.enc s)) ae,.var (.p (Zm.enc c)) ae,tN] .normal (dw (qi s c k b).length (aT kQ.toList) (MN s c k l) (qi s c k b) [] [2,4]) (jr s c k l ae ae ae ae):=by
 have T:=ZJn (v:=0) (ZD1 hC) (λh=>hl (List.map_eq_nil_iff.1 h)) (ZBm l);have hlm:(l.map Zm.enc).length=l.length:=yad _;rw[hlm]at T;refine CT (k:=2) (by kernel_rfl) (MN s c k l) (fK s c k l) wqS (ZMZ zb (by kernel_rfl)) (by kernel_rfl) (by rw[zb];kernel_rfl) (by kernel_rfl) (λX z=> ?_) [] [2,4] (by kernel_rfl) (by kernel_rfl) (λi hi=> ?_)
 .unfold fK;rw[z 8 (mV (by decide)),z 6 (mV (by decide)),z 2 (mV (by decide)),z 5 (mV (by decide))]
 .rw[zb]at hi;intro X z he hc σ' a' A m E;have p21:X 1=af->X 2=af:=λh=>rj hc (mV (by decide)) (by kernel_rfl) h;have I:X 2=af->X 6=af:=λh=>rj hc (mV (by decide)) (by kernel_rfl) h;have U:X 5=af->X 6=af:=λh=>rj hc (mV (by decide)) (by kernel_rfl) h;have F:X 6=af->X 8=af:=λh=>rj hc (mV (by decide)) (by kernel_rfl) h
  match i,hi with
  |0,_=>
   rw[tO (by decide) (by decide) (by decide) (by decide), <-m]
   exact Ys (hs:=[]) (C:=[]) (hs':=[]) A E (by rw[m];kernel_rfl) trivial
  |1,_=>
   rw[tO (by decide) (by decide) (by decide) (by decide), <-m];have e:fK s c k l X=jr s c k l af (X 6) (X 2) (X 5):=by unfold fK;rw[F (I (p21 z))]
   rw[e]at m
   exact Ys (hs:=[]) (C:=[(3:Nat)=3]) (hs':=[]) A E (by rw[m];kernel_rfl) ⟨rfl,aw⟩
  |3,_=>
   rw[tO (by decide) (by decide) (by decide) (by decide), <-m]
   exact Ys (hs:=[.raw]) (C:=[]) (hs':=[]) A E (by rw[m];kernel_rfl) trivial
  |4,_=>
   rw[tO (by decide) (by decide) (by decide) (by decide), <-m]
   exact Ys (hs:=[]) (C:=[(0:Nat)=0]) (hs':=[]) A E (by rw[m];kernel_rfl) ⟨rfl,aw⟩
  |7,_=>
   rw[tO (by decide) (by decide) (by decide) (by decide), <-m]
   exact Ys (hs:=[]) (C:=[]) (hs':=[]) A E (by rw[m];kernel_rfl) trivial
  |2,_=>
   have J:=I z;have G:=F J;have M:fK s c k l X=jr s c k l af af af (X 5):=by unfold fK;rw[G,J,z]
   have Q:fK s c k l (λj=>X j || decide (j=2))=jr s c k l af af ae (X 5):=by
    unfold fK;simp(decide:=true) only[z,J,G,Bool.false_or,ycj,decide_true,decide_false]
   rw[Q];rw[M]at m
   have h:=vg (P:=yb) (o:=ba kQ 2) (c:=⟨.value (.func 53), #[.tmp 15], #[37]⟩) (f:=.func 53) (g:=53) (cap:=[]) (ids:=[3]) (Hin:=[.gone]) (H':=[.row 0 5 ae 93 (.p (.arr l.length 5 (l.map Zm.enc)))]) (Hb:=[.row 0 5 ae 93 (.p (.arr l.length 5 (l.map Zm.enc)))]) (r:=.rv 0 0 5 0 l.length) (r':=.rv 3 0 5 0 l.length) (args':=[.p (Ty.enc aMT s.2.2.1)])
    A E (by kernel_rfl) rfl (by kernel_rfl) (by kernel_rfl) (by kernel_rfl) (by kernel_rfl) (ym _) (by kernel_rfl) (by rw[m];kernel_rfl) (by kernel_rfl) (by kernel_rfl) (ZxY T ⟨[.p (Ty.enc aMT s.2.2.1)],by kernel_rfl⟩)
   rw[m]at h
   exact Vr h (Wk.refl _) (bZ.of_eq (by kernel_rfl))
  |5,_=>
   have J:=U z;have G:=F J;have M:fK s c k l X=jr s c k l af af (X 2) af:=by unfold fK;rw[G,J,z]
   have Q:fK s c k l (λj=>X j || decide (j=5))=jr s c k l af af (X 2) ae:=by
    unfold fK;simp(decide:=true) only[z,J,G,Bool.false_or,ycj,decide_true,decide_false]
   rw[Q];rw[M]at m;obtain⟨it,hi,hz,R,_⟩:=CY;have h:=CS (P:=yb) (o:=ba kQ 5) (t:=37) (e:=93) (i:=it) (len:=1) (id:=4) (parts:= #[(0,.tmp 18)]) (xs:=[Zm.enc c]) A E (by rw[m];kernel_rfl) (by kernel_rfl) (by kernel_rfl) hi hz (by rw[R];decide) (by rw[R];decide) (by kernel_rfl);rw[R,m]at h
   exact Vr h (Wk.refl _) (bZ.of_eq (by kernel_rfl))
  |6,_=>
   have W:=he 2 (by kernel_rfl);have Y:=he 5 (by kernel_rfl);have G:=F z;have M:fK s c k l X=jr s c k l af af ae ae:=by unfold fK;rw[G,z,W,Y]
   have Q:fK s c k l (λj=>X j || decide (j=6))=jr s c k l af ae ae ae:=by
    unfold fK;simp(decide:=true) only[z,W,Y,G,Bool.false_or,ycj,Bool.true_or,decide_true,decide_false]
   rw[Q];rw[M]at m;have Z:=ZIh (xs:=l.map Zm.enc) (x:=Zm.enc c) (k:=k) (n:=l.length) (v:=0) (nn:=ab ae) hk (yad _) hn
   have h:=vg (P:=yb) (o:=ba kQ 6) (c:=⟨.value (.func 180), #[.tmp 16,.tmp 17,.tmp 19], #[37,3,37]⟩) (f:=.func 180) (g:=180) (cap:=[]) (ids:=[3,4]) (Hin:=[.row 0 5 ae 93 (.p (.arr l.length 5 (l.map Zm.enc))),.log 5 93 [Zm.enc c]]) (H':=[.row 1 5 ae 93 (.p (.arr (l.length+1) 5 (oI c k l))),.log 5 93 [Zm.enc c]]) (Hb:=[.row 1 5 ae 93 (.p (.arr (l.length+1) 5 (oI c k l))),.log 5 93 [Zm.enc c]]) (r:=.rv 0 1 5 0 (l.length+1)) (r':=.rv 3 1 5 0 (l.length+1)) (args':=[.rv 0 0 5 0 l.length,.p (.int .i64 (k:Int)),.own 1 (ab ae) 5 [Zm.enc c]])
    A E (by kernel_rfl) rfl (by kernel_rfl) (by kernel_rfl) (by kernel_rfl) (by kernel_rfl) (ym _) (by kernel_rfl) (by rw[m];kernel_rfl) (by kernel_rfl) (by kernel_rfl) Z
   rw[m]at h
   exact Vr h (Wk.refl _) (bZ.of_eq (by kernel_rfl))
  |8,_=>
   have S:=he 6 (by kernel_rfl)
   have W:X 2=ae:=by
    cases h:X 2 with
    |true=>rfl
    |false=>rw[I h]at S;cases S
   have Y:X 5=ae:=by
    cases h:X 5 with
    |true=>rfl
    |false=>rw[U h]at S;cases S
   have M:fK s c k l X=jr s c k l af ae ae ae:=by unfold fK;rw[z,S,W,Y]
   have Q:fK s c k l (λj=>X j || decide (j=8))=jr s c k l ae ae ae ae:=by
    unfold fK;simp(decide:=true) only[z,W,Y,S,Bool.false_or,ycj,Bool.true_or,decide_true,decide_false]
   rw[Q];rw[M]at m;have h:=vv (P:=yb) (o:=ba kQ 8) (t:=37) (x:=.tmp 21) (y:=.tmp 20) (id:=0) (off:=3) (yQ:=[2]) (dd:=.p (Zb.enc s)) (sub:=.p (Ty.enc aMT s.2.2.1)) (new:=.rv 3 1 5 0 (l.length+1)) (dd':=qj s l) (C1:=[]) (off':=3) (hs:=[]) (hs':=[]) A E (by kernel_rfl) (by kernel_rfl) (by rw[m];kernel_rfl) (by kernel_rfl) trivial rfl (by kernel_rfl) (by kernel_rfl) (by kernel_rfl) (by kernel_rfl) (by kernel_rfl) (by kernel_rfl);rw[m]at h
   exact Vr h (Wk.refl _) (bZ.of_eq (by kernel_rfl))
  |_+9,h=>exact absurd h (by omega)
theorem ZGV{s:yG}{c:Cond}{k:Nat}{b:Bool}{l:yL Cond}(z:k<=l.length)(hn:l.length<=1000)(hl:l≠[])(A:WV yD s.2.2.1 c=ab ((k:Int),b))(hC:Xf yD s.2.2.1=ab l):
 ce yb 115 [.p (Zb.enc s),.p (Zm.enc c)] [] (.p (Zb.enc (s.1,s.2.1,l.take k++c::l.drop k,s.2.2.2))) []:=by
 obtain⟨fn,E,j⟩:∃fn,yb.funcs[115]? =ab fn/\fn.body=ab (ZX yb 115)/\fn.ntmps=23/\fn.results= #[.cell 4 39]:=by
  have h:(yb.funcs[115]?).map (λfn=>(fn.body,fn.ntmps,fn.results))=ab (ab (ZX yb 115),23, #[.cell 4 39]):=by kernel_rfl
  obtain⟨fn,m,f⟩:=Option.map_eq_some_iff.1 h;simp only[yq]at f;exact⟨fn,m,f.1,f.2.1,f.2.2⟩
 have F:Xv yb (.region 0 (oH 0) af) (ZNT s c) [] .normal (ZMY s c) [.var (.p (Zb.enc s)) ae,.var (.p (Zm.enc c)) ae,tN]:=ru (hs:=[.raw,.raw,.raw]) (C:=[]) (hs':=[]) (by kernel_rfl) trivial
 have G:Xv yb (.region 1 (oH 1) af) (ZMY s c) [.var (.p (Zb.enc s)) ae,.var (.p (Zm.enc c)) ae,tN] .normal (qi s c k b) [.var (.p (Zb.enc s)) ae,.var (.p (Zm.enc c)) ae,tN]:=
  ru (hs:=[.call (zc k b) [] [],.raw,.raw,.raw]) (C:=[(3:Nat)=3,(0:Nat)=0,ce yb 179 [.p (Ty.enc aMT s.2.2.1),.p (Zm.enc c),.fn 61 []] [] (zc k b) []]) (hs':=[]) (by kernel_rfl) ⟨rfl,rfl,ZGU A,aw⟩
 have I:=ZJq (b:=b) (c:=c) z hn hl hC;let T3:yL Dv:=dw (qi s c k b).length (aT kQ.toList) (MN s c k l) (qi s c k b) [] [2,4];let H3:yL aq:=[aq.var (qj s l) ae,aq.var (.p (Zm.enc c)) ae,aq.var (qj s l) ae,aq.row 1 5 ae 93 (.p (.arr (l.length+1) 5 (oI c k l))),aq.log 5 93 [Zm.enc c]];have J:Xv yb (.region 3 (oH 3) af) T3 (jr s c k l ae ae ae ae) .normal (T3.set 22 (qj s l)) H3:=ru (hs:=[.raw]) (C:=[(0:Nat)=0,(0:Nat)=0]) (hs':=[]) (by kernel_rfl) ⟨rfl,rfl,aw⟩
 have g:ce yb 115 [.p (Zb.enc s),.p (Zm.enc c)] [] (.agg [.p (.int .i64 s.1),.p (Ty.enc (.arr 2 (.int .i64)) s.2.1),.rv 0 1 5 0 (l.length+1),.p (.int .i64 s.2.2.2)]) [aq.row 1 5 ae 93 (.p (.arr (l.length+1) 5 (oI c k l)))]:=by
  refine rm (ts':=T3.set 22 (qj s l)) (H1:=H3) (ex:=.ret) (keep:=[3]) (hs:=[]) (C:=[(0:Nat)=0]) E j.1 ?_ (.inl rfl) ?_ ⟨rfl,aw⟩
  .rw[j.2.1,ZJp];exact pL F (pL G (pL I (pL J ZyW)))
  .unfold fin;rw[j.2.2]
   kernel_rfl
 have M:((oI c k l).drop 0).take (l.length+1)=(l.take k++c::l.drop k).map Zm.enc:=ZJo _ l k c z
 have Q:=ZFh (H':=[aq.row 1 5 af 93 (.p (.arr (l.length+1) 5 (oI c k l)))]) (r':=.p (Zb.enc (s.1,s.2.1,l.take k++c::l.drop k,s.2.2.2))) g (.cons .lock .nil) (.one (.deep (.agg rfl (λi d y m f=>match i,m,f with
  |0,rfl,rfl=>.p _
  |1,rfl,rfl=>.p _
  |2,rfl,rfl=>(show cY _ (.rv 0 1 5 0 (l.length+1)) (.sl ad 5 ((l.take k++c::l.drop k).map Zm.enc)) from M ▸ .vG (N:=l.length+1) rfl (by omega))
  |3,rfl,rfl=>.p _
  |_+4,h,_=>by cases h))))
 exact ZGv (keep:=[]) Q rfl rfl (by kernel_rfl)
noncomputable def ZM0(s:yG)(c:Cond)(k:Nat)(l:yL Cond):yG:=(s.1,s.2.1,l.take k++c::l.drop k,s.2.2.2)
noncomputable def ze(o:Int)(l:yL Cond)(c:Cond):yO aNb:=if(ag (0<=o)&&(ag (o<=(l.length:Int))&&ag (l.length<=1000)))=ae then ab (l.take o.toNat++c::l.drop o.toNat) else ad
noncomputable def qk(F:Nat)(a0:yG)(a1:Cond):yO (yG):=
 if a0.2.2.1.isEmpty=ae then MM F a0 a1 else
 (WV F a0.2.2.1 a1).bind λo=>
 (Xf F a0.2.2.1).bind λl=>
 if l.isEmpty=ae then ad else(ze o.1 l a1).bind λl=>ab (a0.1,a0.2.1,l,a0.2.2.2)
noncomputable def Zt4(F:Nat):Fs yb:=⟨115,[.v Zb,.v Zm],[],[Zb,Zm],(zN Zb),λx=>qk F x.1 x.2⟩
noncomputable def ZnA:Fs yb:=Zt4 yD
theorem Zt5:ZnA.Ok:=by
 rintro⟨s,c⟩ o f;have f:qk yD s c=ab o:=f;unfold qk at f;split at f
 .exact ZsE (s,c) o f
 .obtain⟨q,A,f⟩:=yf.1 f;obtain⟨l,E,f⟩:=yf.1 f;split at f
  .cases f
  .rename_i g;obtain⟨G,j,f⟩:=yf.1 f;unfold ze at j;split at j
   .rename_i y;simp only[yi,yP]at y;cases j;cases f;obtain⟨k,z⟩:∃k:Nat,q.1=(k:Int):=⟨q.1.toNat,by omega⟩;obtain⟨I,b⟩:=q;dsimp only at z;subst z;have F:=ZGV (s:=s) (c:=c) (k:=k) (b:=b) (l:=l) (by omega) y.2.2 (by intro h;rw[h]at g;exact g rfl) A E;refine⟨[.p (.v Zb s),.p (.v Zm c)],[],[],by kernel_rfl,rfl,λx vs J hs m=> ?_⟩;obtain⟨rfl,rfl⟩:=hs;have m:=m.symm.trans (show V6 1 [(0,.v Zb)] [] (dD [Zb] (ZM0 s c k l))=ab ([.p (.v Zb (ZM0 s c k l))],[]) by kernel_rfl);cases m;exact⟨_,rfl,F⟩
   .cases j
end
end Go.Proofs.YtcbhhaigilifgaaGreat
end
