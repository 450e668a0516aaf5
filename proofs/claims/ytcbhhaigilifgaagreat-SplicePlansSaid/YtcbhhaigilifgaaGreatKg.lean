/- Parts of the proof, in one file. -/
import Derived.Test.YtcbhhaigilifgaaGreatKf
open Option renaming some → ab, none → ad
open Bool renaming true → ae, false → af
open Decidable renaming decide → ag
open BitVec renaming ofInt → ybz
open Go.Proofs.Tryz renaming prog → yb
open Int renaming toNat_natCast → yau
open List renaming length_append → yl, getElem?_eq_some_iff → yu, replicate → yx, nil_append → yz, length_map → yaa, append_assoc → yab, length_take → yac, getElem?_eq_getElem → yad, getElem?_map → yak, take_length → yal, getElem?_cons_succ → yaq, getElem?_append_right → yas, map_append → yat, getElem?_cons_zero → yav, append_nil → yba, take_append_drop → ybg, getElem_of_mem → ybi, getElem?_eq_none → ybk, take_of_length_le → ycj, getD_eq_getElem?_getD → ycu, length_replicate → yda, length_singleton → ydb
open Nat renaming le_refl → ym, add → yw, mod_eq_of_lt → yap, le_trans → ybr, two_pow_add_eq_or_of_lt → ycz
open Option renaming bind_some → ya, map_some → yae
open Option.some renaming injEq → yo
open Prod.mk renaming injEq → yq
open UInt32 renaming toNat → yam, ofNat → ybn, toNat_ofNat' → ycp
open UInt64 renaming ofNat → yao, toNat_ofNat' → ybe, toNat_lt → ybm, lt_iff_toNat_lt → yca, le_iff_toNat_le → ycs
open UInt8 renaming toNat → yaj, ofNat → yar
set_option linter.unusedVariables false
set_option linter.unusedSimpArgs false
section
set_option maxRecDepth 4000
namespace Go.Proofs.YtcbhhaigilifgaaGreat
open Go Go.Ev
noncomputable section
def Y4(F:Nat)(a0:yU):yO (Bool):=
 if(ag (a0 >= 1))=ae then
  if(ag (a0 < 4611686018427377339))=ae then
   (XM F a0 2305843009213688669).bind λa=>
   ab (a==1)
  else
  ab af
 else
 ab af
def Wl:Fs yb:=⟨167,[.v .u64],[],[.u64],(zN .bool),λx=>Y4 yD x⟩
theorem W4:Wl.Ok:=aQ { still:=[2,10]} [] [ZeD] ⟨ZlJ,ao⟩
def Q1(F:Nat)(a0:yU):yO (Bool):=
 (Y4 F a0).bind λa=>
 if a=ae then
  ab (a0 !=1)
 else
 ab af
def Zhj:Fs yb:=⟨100,[.v .u64],[],[.u64],(zN .bool),λx=>Q1 yD x⟩
theorem Zn4:Zhj.Ok:=aQ { still:=[2,3]} [] [Wl] ⟨W4,ao⟩
def Xq(F:Nat):(Int×aQq×Int×Chan×bp)->yO ((Int×aQq×Int×Chan×bp)⊕((Int×Chan×bp)⊕(Int×Chan×bp)))
 |(e,b,a,c,d)=>
 if(ag (a < 5))=ae then
  (idx b a).bind λf=>
  (Q1 F f).bind λg=>
  if(!g)=ae then
   ab (.inr (.inl (1,c,d)))
  else
  ab (.inl (e,b,wi (a+1),c,d))
 else
 ab (.inr (.inr (e,c,d)))
def Zfv:Lp:=⟨[(1,.aj 0 []),(3,.v yI),(5,.v aQk),(6,.v yI)],[.var (.v Zf) ae,.var (.v jR) ae],[yI,aQk,yI,Zf,jR],[⟨.ret,[(2,.v yI)],[.var (.v Zf) ae,.var (.v jR) ae],[yI,Zf,jR]⟩,⟨.exit 2,[(1,.aj 0 []),(3,.v yI)],[.var (.v Zf) ae,.var (.v jR) ae],[yI,Zf,jR]⟩],Zd (Xq yD) yD⟩
theorem ZkK:Zfv.bt yb 44 1:=Zt { still:=[2,8,14,20,46,56]} [] [Zhj] ⟨Zn4,ao⟩
def Xr(F:Nat)(s:(Int×Chan)):yO ((Int×Chan)⊕((Int×Chan)⊕Chan)):=
 if(ag (s.1 < 2))=ae then
  if(bi s.1 2)=ae then
   (s.2.2.2.1[s.1.toNat]?).bind λa=>
   if(bi s.1 2)=ae then
    (s.2.2.2.2.1[s.1.toNat]?).bind λb=>
    (VO F b).bind λc=>
    if(!c)=ae then
     ab (.inr (.inl (1,s.2)))
    else
    (Zd (Xq F) F (s.1,[a.1,a.2.1,a.2.2.1,a.2.2.2.1,a.2.2.2.2],0,s.2,a)).bind λd=>
    match d with
    |.inl e=>
     ab (.inr (.inl (e.1,e.2.1)))
    |.inr f=>
     ab (.inl (wi (f.1+1),f.2.1))
   else
   ad
  else
  ad
 else
 ab (.inr (.inr s.2))
def Zfw:Lp:=⟨[(1,.aj 0 []),(3,.v yI)],[.var (.v Zf) ae],[yI,Zf],[⟨.ret,[(2,.v yI)],[.var (.v Zf) ae],[yI,Zf]⟩,⟨.exit 0,[(1,.aj 0 [])],[.var (.v Zf) ae],[Zf]⟩],Zd (Xr yD) yD⟩
theorem ZkL:Zfw.bt yb 44 0:=Zt { still:=[2,8,14,20,46,56]} [(1,Zfv)] [ZeB] ⟨ZlD,ao⟩ ⟨ZkK,ao⟩
def Vx(F:Nat)(a0:Chan):yO (Int):=
 (Z1 F a0.2.1 1 1125899906842624).bind λa=>
 if(!a)=ae then
  ab 1
 else
 (Z1 F a0.1.2 0 63).bind λb=>
 if(!b)=ae then
  ab 1
 else
 (Z1 F a0.2.2.2.2 0 1).bind λc=>
 if(!c)=ae then
  ab 1
 else
 (Zd (Xr F) F (0,a0)).bind λd=>
 match d with
 |.inl e=>
  ab e.1
 |.inr f=>
  (f.2.2.2.1[0]?).bind λg=>
  (f.2.2.2.1[1]?).bind λh=>
  if(ag ((wi (g.2.1+h.2.1)) > f.2.1))=ae then
   ab 10
  else
  ab 0
def NJ:Fs yb:=⟨44,[.v Zf],[],[Zf],(zN yI),λx=>Vx yD x⟩
theorem Zfx:NJ.Ok:=aQ { still:=[2,8,14,20,46,56]} [(0,Zfw)] [Vu] ⟨Ql,ao⟩ ⟨ZkL,ao⟩
def Yt(F:Nat)(a0:Int)(a1:Int)(a2:Int):yO (Bool):=
 if(ag (a0 >= a1))=ae then
  ab (ag (a0<=a2))
 else
 ab af
def NK:Fs yb:=⟨101,[.v yI,.v yI,.v yI],[],[yI,yI,yI],(zN .bool),λx=>Yt yD x.1 x.2.1 x.2.2⟩
theorem Zhk:NK.Ok:=aQ { still:=[6]} [] [] trivial
def Qo(F:Nat)(a0:Cond):yO (Bool):=
 (Y4 F a0.2.2.2.1).bind λa=>
 if a=ae then
  if(a0.2.2.2.1 !=1)=ae then
   (Yt F a0.1 0 1).bind λb=>
   if b=ae then
    (Yt F a0.2.1 1 1048576).bind λc=>
    if c=ae then
     (Yt F a0.2.2.1 1 1125899906842624).bind λd=>
     if d=ae then
      (Yt F a0.2.2.2.2 1 1048576).bind λe=>
      ab e
     else
     ab af
    else
    ab af
   else
   ab af
  else
  ab af
 else
 ab af
def Zfy:Fs yb:=⟨102,[.v Zy],[],[Zy],(zN .bool),λx=>Qo yD x⟩
theorem Zm2:Zfy.Ok:=aQ { still:=[2,5,15,20,25,30]} [] [Wl,NK] ⟨W4,Zhk,ao⟩
def VP(F:Nat)(a0:Cond)(a1:Cond):yO (Bool):=
 if(ag (a0.1 < a1.1))=ae then
  ab ae
 else
 if(a0.1==a1.1)=ae then
  ab (ag (a0.2.1 < a1.2.1))
 else
 ab af
def ZeE:Fs yb:=⟨103,[.v Zy,.v Zy],[],[Zy,Zy],(zN .bool),λx=>VP yD x.1 x.2⟩
theorem ZlK:ZeE.Ok:=aQ { still:=[4]} [] [] trivial
def Wb(F:Nat):(Int×Int×Int×Int×yG)->yO ((Int×Int×Int×Int×yG)⊕(Int×Int×yG))
 |(c,d,e,a,b)=>
 let f:Bool:=ag (a < (b.2.2.1.length:Int))
 if f=ae then
  (idx b.2.2.1 a).bind λg=>
  if(g.1==(wi (1 - c)))=ae then
   (idx b.2.2.1 a).bind λh=>
   ab (.inl (c,wi (d+1),wi (e+h.2.2.1),wi (a+1),b))
  else
  ab (.inl (c,d,e,wi (a+1),b))
 else
 ab (.inr (d,e,b))
def ZbY:Lp:=⟨[(1,.v yI),(2,.aj 0 []),(6,.v yI),(7,.v yI),(8,.v yI)],[.var (.v Zc) ae],[yI,yI,yI,yI,Zc],[⟨.exit 0,[(6,.v yI),(7,.v yI)],[.var (.v Zc) ae],[yI,yI,Zc]⟩],Zd (Wb yD) yD⟩
theorem Zhl:ZbY.bt yb 104 0:=Zt { still:=[4,5]} [] [] trivial
def W5(F:Nat)(a0:yG)(a1:Int):yO ((Int×Int)):=
 (Zd (Wb F) F (a1,0,0,0,a0)).bind λa=>
 ab (a.1,a.2.1)
def Zcz:Fs yb:=⟨104,[.v Zc,.v yI],[],[Zc,yI],[⟨.ret,[(0,.bm [.v yI,.v yI])],[],[yI,yI]⟩],λx=>W5 yD x.1 x.2⟩
theorem ZjM:Zcz.Ok:=aQ { still:=[4,5]} [(0,ZbY)] [] trivial ⟨Zhl,ao⟩
def WO(F:Nat)(s:(Int×Int×yG)):yO ((Int×Int×yG)⊕(Int×yG)):=
 if(ag (s.2.1 < (s.2.2.2.2.1.length:Int)))=ae then
  (idx s.2.2.2.2.1 s.2.1).bind λa=>
  ab (.inl (wi (s.1+a.2.2.1),wi (s.2.1+1),s.2.2))
 else
 ab (.inr (s.1,s.2.2))
def Zc0:Lp:=⟨[(1,.aj 0 []),(3,.v yI),(4,.v yI)],[.var (.v Zc) ae],[yI,yI,Zc],[⟨.exit 0,[(3,.v yI)],[.var (.v Zc) ae],[yI,Zc]⟩],Zd (WO yD) yD⟩
theorem ZiK:Zc0.bt yb 105 0:=Zt { still:=[2]} [] [] trivial
def VQ(F:Nat)(a0:yG):yO (Int):=
 (a0.2.1[0]?).bind λa=>
 (a0.2.1[1]?).bind λb=>
 (Zd (WO F) F (wi (a+b),0,a0)).bind λc=>
 ab c.1
def ZeF:Fs yb:=⟨105,[.v Zc],[],[Zc],(zN yI),λx=>VQ yD x⟩
theorem ZlL:ZeF.Ok:=aQ { still:=[2]} [(0,Zc0)] [] trivial ⟨ZiK,ao⟩
def NL(F:Nat)(a0:Int):yO (Int):=
 (Z1 F a0 0 16).bind λa=>
 if(!a)=ae then
  ab 0
 else
 ab (wi (36+(wi ((wi (4+a0))*8))))
def Zc1:Fs yb:=⟨202,[.v yI],[],[yI],(zN yI),λx=>NL yD x⟩
theorem ZkM:Zc1.Ok:=aQ { still:=[2,3]} [] [Vu] ⟨Ql,ao⟩
def Q2(F:Nat)(a0:Int)(a1:Int):yO (Int):=
 (Z1 F a0 0 1000).bind λa=>
 if(!a)=ae then
  ab 0
 else
 (NL F a1).bind λb=>
 ab (wi (a0*b))
def Zhm:Fs yb:=⟨168,[.v yI,.v yI],[],[yI,yI],(zN yI),λx=>Q2 yD x.1 x.2⟩
theorem Zn5:Zhm.Ok:=aQ { still:=[4,5,9]} [] [Vu,Zc1] ⟨Ql,ZkM,ao⟩
def Qp(F:Nat)(a0:Chan)(a1:yG):yO (Int):=
 (Q2 F a1.2.2.2 (a1.2.2.1.length:Int)).bind λa=>
 ab (wi (a+660))
def Zfz:Fs yb:=⟨106,[.v Zf,.v Zc],[],[Zf,Zc],(zN yI),λx=>Qp yD x.1 x.2⟩
theorem Zm3:Zfz.Ok:=aQ { still:=[4,6,9]} [] [Zhm] ⟨Zn5,ao⟩
def Yq(F:Nat)(s:(Int×Chan×yG)):yO ((Int×Chan×yG)⊕((Bool×Chan×yG)⊕(Chan×yG))):=
 if(ag (s.1 < (s.2.2.2.2.1.length:Int)))=ae then
  (idx s.2.2.2.2.1 s.1).bind λa=>
  (Qo F a).bind λb=>
  if(!b)=ae then
   ab (.inr (.inl (af,s.2.1,s.2.2)))
  else
  if(ag (s.1 > 0))=ae then
   (idx s.2.2.2.2.1 (wi (s.1 - 1))).bind λc=>
   (idx s.2.2.2.2.1 s.1).bind λd=>
   (VP F c d).bind λe=>
   if(!e)=ae then
    ab (.inr (.inl (af,s.2.1,s.2.2)))
   else
   (idx s.2.2.2.2.1 s.1).bind λf=>
   (idx s.2.2.2.2.1 s.1).bind λg=>
   if(bi (wi (1 - g.1)) 2)=ae then
    (s.2.1.2.2.2.1[(wi (1 - g.1)).toNat]?).bind λh=>
    if(ag (f.2.2.1 < h.2.2.2.2.1))=ae then
     ab (.inr (.inl (af,s.2.1,s.2.2)))
    else
    ab (.inl (wi (s.1+1),s.2.1,s.2.2))
   else
   ad
  else
  (idx s.2.2.2.2.1 s.1).bind λi=>
  (idx s.2.2.2.2.1 s.1).bind λj=>
  if(bi (wi (1 - j.1)) 2)=ae then
   (s.2.1.2.2.2.1[(wi (1 - j.1)).toNat]?).bind λk=>
   if(ag (i.2.2.1 < k.2.2.2.2.1))=ae then
    ab (.inr (.inl (af,s.2.1,s.2.2)))
   else
   ab (.inl (wi (s.1+1),s.2.1,s.2.2))
  else
  ad
 else
 ab (.inr (.inr (s.2.1,s.2.2)))
def Zc2:Lp:=⟨[(2,.aj 0 []),(3,.aj 1 []),(5,.v yI)],[.var (.v Zf) ae,.var (.v Zc) ae],[yI,Zf,Zc],[⟨.ret,[(4,.v .bool)],[.var (.v Zf) ae,.var (.v Zc) ae],[.bool,Zf,Zc]⟩,⟨.exit 0,[(2,.aj 0 []),(3,.aj 1 [])],[.var (.v Zf) ae,.var (.v Zc) ae],[Zf,Zc]⟩],Zd (Yq yD) yD⟩
def NM:HI:={ still:=[4,10,15,22,29,35,56,69,74,104,105,125,136,137]}
theorem ZiL:Zc2.bt yb 45 0:=Zt NM [] [Zfy,ZeE] ⟨Zm2,ZlK,ao⟩
def YS(F:Nat)(s:(Int×Chan×yG)):yO ((Int×Chan×yG)⊕((Bool×Chan×yG)⊕(Chan×yG))):=
 if(ag (s.1 < 2))=ae then
  (W5 F s.2.2 s.1).bind λa=>
  if(bi s.1 2)=ae then
   (s.2.1.2.2.2.1[s.1.toNat]?).bind λb=>
   if(ag (a.1 > b.2.2.2.1))=ae then
    ab (.inr (.inl (af,s.2.1,s.2.2)))
   else
   if(bi s.1 2)=ae then
    (s.2.1.2.2.2.1[s.1.toNat]?).bind λc=>
    if(ag (a.2 > c.2.2.2.2.2))=ae then
     ab (.inr (.inl (af,s.2.1,s.2.2)))
    else
    ab (.inl (wi (s.1+1),s.2.1,s.2.2))
   else
   ad
  else
  ad
 else
 ab (.inr (.inr (s.2.1,s.2.2)))
def Zc3:Lp:=⟨[(2,.aj 0 []),(3,.aj 1 []),(7,.v yI)],[.var (.v Zf) ae,.var (.v Zc) ae],[yI,Zf,Zc],[⟨.ret,[(4,.v .bool)],[.var (.v Zf) ae,.var (.v Zc) ae],[.bool,Zf,Zc]⟩,⟨.exit 2,[(2,.aj 0 []),(3,.aj 1 [])],[.var (.v Zf) ae,.var (.v Zc) ae],[Zf,Zc]⟩],Zd (YS yD) yD⟩
theorem ZiM:Zc3.bt yb 45 1:=Zt NM [] [Zcz] ⟨ZjM,ao⟩
def XN(F:Nat)(a0:Chan)(a1:yG):yO (Bool):=
 (Vx F a0).bind λa=>
 if(a !=0)=ae then
  ab af
 else
 (Yt F a1.1 0 1048576).bind λb=>
 if(!b)=ae then
  ab af
 else
 (a1.2.1[0]?).bind λc=>
 (Yt F c 0 1125899906842624).bind λd=>
 if(!d)=ae then
  ab af
 else
 (a1.2.1[1]?).bind λe=>
 (Yt F e 0 1125899906842624).bind λf=>
 if(!f)=ae then
  ab af
 else
 (Yt F a1.2.2.2 0 1000).bind λg=>
 if(!g)=ae then
  ab af
 else
 if(ag ((a1.2.2.1.length:Int) > 16))=ae then
  ab af
 else
 (Zd (Yq F) F (0,a0,a1)).bind λh=>
 match h with
 |.inl i=>
  ab i.1
 |.inr j=>
  (Zd (YS F) F (0,j.1,j.2)).bind λk=>
  match k with
  |.inl l=>
   ab l.1
  |.inr m=>
   (VQ F m.2).bind λn=>
   if(n==m.1.2.1)=ae then
    if(bi m.1.2.2.2.2 2)=ae then
     (m.2.2.1[m.1.2.2.2.2.toNat]?).bind λo=>
     (Qp F m.1 m.2).bind λp=>
     ab (ag (o >= p))
    else
    ad
   else
   ab af
def ZeG:Fs yb:=⟨45,[.v Zf,.v Zc],[],[Zf,Zc],(zN .bool),λx=>XN yD x.1 x.2⟩
theorem ZlM:ZeG.Ok:=aQ NM [(0,Zc2),(1,Zc3)] [NJ,NK,ZeF,Zfz] ⟨Zfx,Zhk,ZlL,Zm3,ao⟩ ⟨ZiL,ZiM,ao⟩
def V2(F:Nat)(a0:Int)(a1:Int)(a2:Int):yO (Bool):=
 if(ag (a0 >= a1))=ae then
  ab (ag (a0<=a2))
 else
 ab af
def Q3:Fs yb:=⟨107,[.v yI,.v yI,.v yI],[],[yI,yI,yI],(zN .bool),λx=>V2 yD x.1 x.2.1 x.2.2⟩
theorem NN:Q3.Ok:=aQ { still:=[6]} [] [] trivial
def Xs(F:Nat)(s:(Int×ZW)):yO ((Int×ZW)⊕((Bool×ZW)⊕ZW)):=
 if(ag (s.1 < (s.2.1.length:Int)))=ae then
  (idx s.2.1 s.1).bind λa=>
  (Y4 F a).bind λb=>
  if(!b)=ae then
   ab (.inr (.inl (af,s.2)))
  else
  ab (.inl (wi (s.1+1),s.2))
 else
 ab (.inr (.inr s.2))
def ZcA:Lp:=⟨[(1,.aj 0 []),(3,.v yI)],[.var (.v ZB) ae],[yI,ZB],[⟨.ret,[(2,.v .bool)],[.var (.v ZB) ae],[.bool,ZB]⟩,⟨.exit 0,[(1,.aj 0 [])],[.var (.v ZB) ae],[ZB]⟩],Zd (Xs yD) yD⟩
theorem ZhE:ZcA.bt yb 169 0:=Zt { still:=[2,41,46]} [] [Wl] ⟨W4,ao⟩
def Vy(F:Nat)(a0:ZW):yO (Bool):=
 if(ag ((a0.1.length:Int) > 12))=ae then
  ab af
 else
 if(ag (a0.2.1 < 0))=ae then
  ab af
 else
 if(ag (a0.2.1 > 1048576))=ae then
  ab af
 else
 if(ag (a0.2.2.1 < 0))=ae then
  ab af
 else
 if(ag (a0.2.2.1 > 1048576))=ae then
  ab af
 else
 (Zd (Xs F) F (0,a0)).bind λa=>
 match a with
 |.inl b=>
  ab b.1
 |.inr c=>
  (Y4 F c.2.2.2).bind λd=>
  if(c.2.2.2==0)=ae then
   ab ae
  else
  ab d
def Zc4:Fs yb:=⟨169,[.v ZB],[],[ZB],(zN .bool),λx=>Vy yD x⟩
theorem ZkN:Zc4.Ok:=aQ { still:=[2,41,46]} [(0,ZcA)] [Wl] ⟨W4,ao⟩ ⟨ZhE,ao⟩
def XF(F:Nat)(s:(Int×ZC)):yO ((Int×ZC)⊕((Bool×ZC)⊕ZC)):=
 if(ag (s.1 < (s.2.length:Int)))=ae then
  (idx s.2 s.1).bind λa=>
  (Vy F a).bind λb=>
  if(!b)=ae then
   ab (.inr (.inl (af,s.2)))
  else
  ab (.inl (wi (s.1+1),s.2))
 else
 ab (.inr (.inr s.2))
def Zc5:Lp:=⟨[(1,.aj 0 []),(3,.v yI)],[.var (.v Zv) ae],[yI,Zv],[⟨.ret,[(2,.v .bool)],[.var (.v Zv) ae],[.bool,Zv]⟩,⟨.exit 0,[],[.var (.v Zv) ae],[Zv]⟩],Zd (XF yD) yD⟩
theorem ZiN:Zc5.bt yb 108 0:=Zt { still:=[2,25]} [] [Zc4] ⟨ZkN,ao⟩
def Y5(F:Nat)(a0:ZC):yO (Bool):=
 if(ag ((a0.length:Int) < 1))=ae then
  ab af
 else
 if(ag ((a0.length:Int) > 4))=ae then
  ab af
 else
 (Zd (XF F) F (0,a0)).bind λa=>
 match a with
 |.inl b=>
  ab b.1
 |.inr c=>
  ab ae
def Vz:Fs yb:=⟨108,[.v Zv],[],[Zv],(zN .bool),λx=>Y5 yD x⟩
theorem QN:Vz.Ok:=aQ { still:=[2,25]} [(0,Zc5)] [] trivial ⟨ZiN,ao⟩
def Xt(F:Nat)(s:(Int×ah)):yO ((Int×ah)⊕((Bool×ah)⊕ah)):=
 if(ag (s.1 < (s.2.1.length:Int)))=ae then
  (idx s.2.1 s.1).bind λa=>
  (V2 F a.2 1 1099511627776).bind λb=>
  if(!b)=ae then
   ab (.inr (.inl (af,s.2)))
  else
  ab (.inl (wi (s.1+1),s.2))
 else
 ab (.inr (.inr s.2))
def ZfA:Lp:=⟨[(1,.aj 0 []),(3,.v yI)],[.var (.v Za) ae],[yI,Za],[⟨.ret,[(2,.v .bool)],[.var (.v Za) ae],[.bool,Za]⟩,⟨.exit 0,[(1,.aj 0 [])],[.var (.v Za) ae],[Za]⟩],Zd (Xt yD) yD⟩
theorem ZkO:ZfA.bt yb 46 0:=Zt { still:=[2,17,33,48,57]} [] [Q3] ⟨NN,ao⟩
def Xu(F:Nat)(s:(Int×ah)):yO ((Int×ah)⊕((Bool×ah)⊕ah)):=
 if(ag (s.1 < (s.2.2.1.length:Int)))=ae then
  (idx s.2.2.1 s.1).bind λa=>
  (V2 F a.1 0 1099511627776).bind λb=>
  if(!b)=ae then
   ab (.inr (.inl (af,s.2)))
  else
  (idx s.2.2.1 s.1).bind λc=>
  (Y5 F c.2).bind λd=>
  if(!d)=ae then
   ab (.inr (.inl (af,s.2)))
  else
  ab (.inl (wi (s.1+1),s.2))
 else
 ab (.inr (.inr s.2))
def ZfB:Lp:=⟨[(1,.aj 0 []),(4,.v yI)],[.var (.v Za) ae],[yI,Za],[⟨.ret,[(2,.v .bool)],[.var (.v Za) ae],[.bool,Za]⟩,⟨.exit 2,[],[.var (.v Za) ae],[Za]⟩],Zd (Xu yD) yD⟩
theorem ZkP:ZfB.bt yb 46 1:=Zt { still:=[2,17,33,48,57]} [] [Q3,Vz] ⟨NN,QN,ao⟩
def VA(F:Nat)(a0:ah):yO (Bool):=
 if(ag ((a0.1.length:Int) > 8))=ae then
  ab af
 else
 if(ag ((a0.2.1.length:Int) > 8))=ae then
  ab af
 else
 (V2 F a0.2.2 0 1099511627776).bind λa=>
 if(!a)=ae then
  ab af
 else
 (Zd (Xt F) F (0,a0)).bind λb=>
 match b with
 |.inl c=>
  ab c.1
 |.inr d=>
  (Zd (Xu F) F (0,d)).bind λe=>
  match e with
  |.inl f=>
   ab f.1
  |.inr g=>
   ab ae
def Zhn:Fs yb:=⟨46,[.v Za],[],[Za],(zN .bool),λx=>VA yD x⟩
theorem Zn6:Zhn.Ok:=aQ { still:=[2,17,33,48,57]} [(0,ZfA),(1,ZfB)] [Q3] ⟨NN,ao⟩ ⟨ZkO,ZkP,ao⟩
def Ws(F:Nat)(s:(Int×Int×ah)):yO ((Int×Int×ah)⊕(Int×ah)):=
 if(ag (s.2.1 < (s.2.2.1.length:Int)))=ae then
  (idx s.2.2.1 s.2.1).bind λa=>
  ab (.inl (wi (s.1+a.2),wi (s.2.1+1),s.2.2))
 else
 ab (.inr (s.1,s.2.2))
def ZcB:Lp:=⟨[(1,.aj 0 []),(3,.v yI),(4,.v yI)],[.var (.v Za) ae],[yI,yI,Za],[⟨.exit 0,[(1,.aj 0 []),(3,.v yI)],[.var (.v Za) ae],[yI,Za]⟩],Zd (Ws yD) yD⟩
theorem ZhF:ZcB.bt yb 47 0:=Zt { still:=[2]} [] [] trivial
def Wt(F:Nat)(s:(Int×Int×ah)):yO ((Int×Int×ah)⊕(Int×ah)):=
 if(ag (s.2.1 < (s.2.2.2.1.length:Int)))=ae then
  (idx s.2.2.2.1 s.2.1).bind λa=>
  ab (.inl (wi (s.1 - a.1),wi (s.2.1+1),s.2.2))
 else
 ab (.inr (s.1,s.2.2))
def ZcC:Lp:=⟨[(1,.aj 0 []),(3,.v yI),(5,.v yI)],[.var (.v Za) ae],[yI,yI,Za],[⟨.exit 2,[(3,.v yI)],[.var (.v Za) ae],[yI,Za]⟩],Zd (Wt yD) yD⟩
theorem ZhG:ZcC.bt yb 47 1:=Zt { still:=[2]} [] [] trivial
def Wm(F:Nat)(a0:ah):yO (Int):=
 (Zd (Ws F) F (wi (0 - a0.2.2),0,a0)).bind λa=>
 (Zd (Wt F) F (a.1,0,a.2)).bind λb=>
 ab b.1
def Zc6:Fs yb:=⟨47,[.v Za],[],[Za],(zN yI),λx=>Wm yD x⟩
theorem ZkQ:Zc6.Ok:=aQ { still:=[2]} [(0,ZcB),(1,ZcC)] [] trivial ⟨ZhF,ZhG,ao⟩
def NO(F:Nat)(a0:aQq):yO (ZC):=
 if(cf 0 a0.length 8)=ae then
  ab [(a0,0,0,0)]
 else
 ad
def Zho:Fs yb:=⟨203,[.v aQk],[],[aQk],(zN Zv),λx=>NO yD x⟩
theorem Zn7:Zho.Ok:=aQ { own:=[3,5]} [] [] trivial
def NP(F:Nat)(a0:yU)(a1:yU):yO (ZC):=
 (NO F [a0,a1]).bind λa=>
 ab a
def ZfC:Fs yb:=⟨170,[.v .u64,.v .u64],[],[.u64,.u64],(zN Zv),λx=>NP yD x.1 x.2⟩
theorem Zm4:ZfC.Ok:=aQ { still:=[7]} [] [Zho] ⟨Zn7,ao⟩
def XT(F:Nat)(a0:Chan):yO (ZC):=
 (a0.2.2.1[0]?).bind λa=>
 (a0.2.2.1[1]?).bind λb=>
 (NP F a.1 b.1).bind λc=>
 ab c
def ZkR:Fs yb:=⟨109,[.v Zf],[],[Zf],(zN Zv),λx=>XT yD x⟩
theorem ZjN:ZkR.Ok:=aQ { still:=[6,10]} [] [ZfC] ⟨Zm4,ao⟩
def ZM6:yL bC:=[.var (.v aJ) ae,.var (.v aJ) ae,.var (.agg [.rw 4,.own 3 Yn,.v yI]) ae,.log Yn 79,.row bP ae 91,.var (.agg [.v yI,.agg [.own 6 ZB]]) ae,.log ZB 163]
abbrev ZQ1:yL Ty:=[yI,aJ,aJ,yI,aQp,aQf,aQi,yI,aQw]
abbrev ZQ2:yL Ty:=[yI,yI,aJ,aJ,yI,aQp,aQf,aQi,yI,aQw]
def Y6(F:Nat):(Int×Tx×Tx×Int×aQr×aQh×aQm)->yO ((Int×Tx×Tx×Int×aQr×aQh×aQm)⊕(Tx×Tx×Int×aQr×aQh×aQm))
 |(a,b,d,e,f,g,c)=>
 if(ag (a < (b.1.length:Int)))=ae then
  (idx b.1 a).bind λh=>
  if(cf 0 h.2.2.1.length 16)=ae then
   if(cf c.length 1 80)=ae then
    let i:aQm:=c++([(h.1,(h.2.1,h.2.2.1,h.2.2.2))]:yL In)
    ab (.inl (wi (a+1),b,d,e,f,()::g,i))
   else
   ad
  else
  ad
 else
 ab (.inr (b,d,e,f,g,c))
abbrev zT:List bC:=[.var (.v aJ) ae,.var (.v aJ) ae,.var (.agg [.rw 4,.own 3 Yn,.v yI]) ae,.log Yn 79,.row bP ae 91]
def ZeH:Lp:=⟨[(1,.aj 0 []),(2,.aj 1 []),(3,.aj 2 []),(4,.v yI)],zT,[yI,aJ,aJ,yI,aQp,aQf,aQi],[⟨.exit 0,[(1,.aj 0 []),(2,.aj 1 []),(3,.aj 2 [])],zT,[aJ,aJ,yI,aQp,aQf,aQi]⟩],Zd (Y6 yD) yD⟩
def ZQ3:HI:={ own:=[25,29,33,36,74,77,81,84,88,91],deep:=[49],gf:=[(3,[([1],Yn,79)])]}
theorem ZjO:ZeH.bt yb 110 0:=Zt ZQ3 [] [] trivial
def Y8(F:Nat):(Int×Int×Tx×Tx×Int×aQr×aQh×aQm×Int×aQu)->yO ((Int×Int×Tx×Tx×Int×aQr×aQh×aQm×Int×aQu)⊕(Int×Tx×Tx×Int×aQr×aQh×aQm×Int×aQu))
 |(b,c,a,e,f,g,h,i,j,d)=>
 (idx a.2.1 b).bind λk=>
 if(ag (c < (k.2.length:Int)))=ae then
  (idx a.2.1 b).bind λl=>
  (idx l.2 c).bind λm=>
  if(cf 0 m.1.length 8)=ae then
   if(cf d.length 1 48)=ae then
    let n:aQu:=d++([(m.1,m.2.1,m.2.2.1,m.2.2.2)]:yL ZW)
    ab (.inl (b,wi (c+1),a,e,f,g,h,i,j,n))
   else
   ad
  else
  ad
 else
 ab (.inr (b,a,e,f,g,h,i,j,d))
def ZeI:Lp:=⟨[(1,.aj 0 []),(2,.aj 1 []),(3,.aj 2 []),(6,.v yI),(7,.aj 5 []),(8,.v yI)],ZM6,ZQ2,[⟨.exit 4,[(1,.aj 0 []),(2,.aj 1 []),(3,.aj 2 []),(6,.v yI),(7,.aj 5 [])],ZM6,ZQ1⟩],Zd (Y8 yD) yD⟩
def NQ:HI:={ own:=[25,29,33,36,74,77,81,84,88,91],deep:=[49],gf:=[(3,[([1],Yn,79)]),(7,[([1,0],ZB,163)])]}
theorem ZjP:ZeI.bt yb 110 2:=Zt NQ [] [] trivial
def XU(F:Nat):(Int×Tx×Tx×Int×aQr×aQh×aQm)->yO ((Int×Tx×Tx×Int×aQr×aQh×aQm)⊕(Tx×Tx×Int×aQr×aQh×aQm))
 |(j,k,l,m,n,o,p)=>
 if(ag (j < (k.2.1.length:Int)))=ae then
  (idx k.2.1 j).bind λq=>
  (Zd (Y8 F) F (j,0,k,l,m,n,o,p,q.1,[])).bind λ(d,e,f,g,a,h,i,b,c)=>
  if(cf a.length 1 32)=ae then
   let r:aQr:=a++([(b,c)]:yL Out)
   ab (.inl (wi (d+1),e,f,g,r,h,i))
  else
  ad
 else
 ab (.inr (k,l,m,n,o,p))
def ZeJ:Lp:=⟨[(1,.aj 0 []),(2,.aj 1 []),(3,.aj 2 []),(6,.v yI)],zT,[yI,aJ,aJ,yI,aQp,aQf,aQi],[⟨.exit 2,[(2,.aj 1 []),(3,.aj 2 [])],zT,[aJ,aJ,yI,aQp,aQf,aQi]⟩],Zd (XU yD) yD⟩
theorem ZjQ:ZeJ.bt yb 110 1:=Zt NQ [(2,ZeI)] [] trivial ⟨ZjP,ao⟩
def Qq(F:Nat)(a0:Tx):yO (Tx):=
 (Zd (Y6 F) F (0,a0,([],[],0),a0.2.2,[],[],[])).bind λ(d,e,f,g,h,i)=>
 (Zd (XU F) F (0,d,e,f,g,h,i)).bind λ(_,_,c,b,_,a)=>
 ab (a,b,c)
def ZfD:Fs yb:=⟨110,[.v aJ],[],[aJ],(zN aJ),λx=>Qq yD x⟩
theorem Zm5:ZfD.Ok:=ZL1 (fi:={ hi:=NQ,lp:=[(0,ZeH),(1,ZeJ)],gh:=[(3,.cE 3 [0] bP 91)]}) (aF:={ l:=[]}) (kB trivial) ⟨ZjO,ZjQ,ao⟩
end
end Go.Proofs.YtcbhhaigilifgaaGreat
end
section
set_option maxRecDepth 10000
namespace Go.Proofs.YtcbhhaigilifgaaGreat
open Go Go.Ev
noncomputable section
noncomputable def jU:Array Oper:=match QT (ZL yb 48) 1 with|.region _ ops _=>ops|_=> #[]
noncomputable def ZQ4:Nat:=match QT (ZL yb 48) 1 with|.region id _ _=>id|_=>0
theorem ZMi:QT (ZL yb 48) 1=.region ZQ4 jU ae:=by kernel_rfl
theorem tV:jU.size=12:=by kernel_rfl
noncomputable def oL(a:Chan)(l:ZC)(m:Int)(e1 e2:aq):Nat->Dv
 |0=>.aj 0 0 [0]
 |1=>.p (ZQ.enc a.1)
 |2=>.p (tM a.1)
 |3=>.own 3 ad bP.size [bP.enc (oI a.1)]
 |4=>.p (.int .i64 m)
 |5=>.p (Zf.enc a)
 |6=>.p (Zv.enc l)
 |7=>.p (Yn.enc (kI m l))
 |8=>.own 4 ad Yn.size [Yn.enc (kI m l)]
 |9=>.agg [.own 3 ad bP.size [bP.enc (oI a.1)],.own 4 ad Yn.size [Yn.enc (kI m l)],.p (.int .i64 0)]
 |10=>.aj 5 0 []
 |_=>.ak
noncomputable def jV(a:Chan)(l:ZC)(m:Int)(e1 e2:aq)(h j f g:Bool):yL aq:=aq.var (.p (Zf.enc a)) ae::e1::e2::(match h with|true=>aq.log bP.size 91 [bP.enc (oI a.1)]|false=>.gone)::(match j with|true=>aq.log Yn.size 79 [Yn.enc (kI m l)]|false=>.gone)::(match g with|true=>aq.var (oL a l m e1 e2 9) ae|false=>(match f with|true=>aq.var (bf yb 49) ae|false=>.gone))::[]
noncomputable def NR(a:Chan)(l:ZC)(m:Int)(e1 e2:aq):yL aq:=aq.var (.p (Zf.enc a)) ae::e1::e2::[]
noncomputable def ft(a:Chan)(l:ZC)(m:Int)(e1 e2:aq)(X:Nat->Bool):yL aq:=jV a l m e1 e2 (X 3) (X 8) (X 10) (X 11)
theorem mU(a:Chan)(l:ZC)(m:Int)(e1 e2:aq){X:Nat->Bool}{i:Nat}(h1:3≠i)(h2:8≠i)(h3:10≠i)(h4:11≠i):ft a l m e1 e2 (λj=>X j || decide (j=i))=ft a l m e1 e2 X:=by
 unfold ft;grind
noncomputable def NS:Nat->yL Nat×yL Nat
 |0=>([],[3])
 |1=>([0],[])
 |2=>([1],[])
 |3=>([2],[])
 |4=>([],[1])
 |5=>([],[3])
 |6=>([5],[])
 |7=>([4,6],[])
 |8=>([7],[])
 |9=>([3,8],[])
 |10=>([],[])
 |11=>([9,10],[])
 |_=>([],[])
noncomputable def oM(a:Chan)(l:ZC)(m:Int)(e1 e2:aq):yL Dv:=((List.range 57).map λs=>match s with|1=>.p (.int .i64 m)|3=>.aj 0 0 []|5=>.aj 1 0 []|6=>.aj 2 0 []|_=>Dv.ak)
noncomputable def ZP3(a:Chan)(l:ZC)(m:Int)(e1 e2:aq):yL Dv:=dg (oM a l m e1 e2).length (aX jU.toList) (oL a l m e1 e2) (oM a l m e1 e2) [10] [5,6]
abbrev jp(a:Chan)(l:ZC)(m:Int)(e1 e2:aq)(i:Nat):Prop:=∀X:Nat->Bool,X i=af->(∀j,bS (be jU i) j=ae->X j=ae)->jf jU X->∀(J':Sg)(f:Act),Ok J'->J'.H=ft a l m e1 e2 X->
 aB J' (dg (oM a l m e1 e2).length (aX jU.toList) (oL a l m e1 e2) (oM a l m e1 e2) (NS i).1 (NS i).2) f->YZ yb (be jU i) f J' (oL a l m e1 e2 i) (ft a l m e1 e2 (λj=>X j || decide (j=i)))
theorem ZP4(a:Chan)(l:ZC)(m:Int)(e1 e2:aq):jp a l m e1 e2 0:=by
 intro X j y z J' A g f h;rw[mU a l m e1 e2 (by decide) (by decide) (by decide) (by decide), <-f];exact Ye (hs:=[]) (C:=[]) (hs':=[]) g h (by rw[f];kernel_rfl) trivial
theorem ZP5(a:Chan)(l:ZC)(m:Int)(e1 e2:aq):jp a l m e1 e2 1:=by
 intro X j y z J' A g f h;rw[mU a l m e1 e2 (by decide) (by decide) (by decide) (by decide), <-f];exact Ye (hs:=[]) (C:=[(0:Nat)=0]) (hs':=[]) g h (by rw[f];kernel_rfl) ⟨rfl,ao⟩
theorem ZP6(a:Chan)(l:ZC)(m:Int)(e1 e2:aq):jp a l m e1 e2 2:=by
 intro X j y z J' A g f h;rw[mU a l m e1 e2 (by decide) (by decide) (by decide) (by decide), <-f];exact Ye (hs:=[]) (C:=[]) (hs':=[]) g h (by rw[f];kernel_rfl) trivial
theorem ZP7(a:Chan)(l:ZC)(m:Int)(e1 e2:aq):jp a l m e1 e2 3:=by
 intro X A I M J' Q B y E;have F:ft a l m e1 e2 X=jV a l m e1 e2 af (X 8) (X 10) (X 11):=by unfold ft;rw[A]
 have G:ft a l m e1 e2 (λj=>X j || decide (j=3))=jV a l m e1 e2 ae (X 8) (X 10) (X 11):=by
  unfold ft;grind
 rw[G];rw[F]at y
 obtain⟨g,z⟩:∃g,yb.info? 91=ab g:=by
  cases h:yb.info? 91 with
  |none=>have:=(by kernel_rfl:(yb.info? 91).isSome=ae);rw[h]at this;cases this
  |some g=>exact⟨g,rfl⟩
 have f:(yb.info? 91).map (λi=>(cq i,i.size))=ab (ae,bP.size):=by kernel_rfl
 rw[z]at f;simp only[yae,yo,yq]at f;have h:=vy (P:=yb) (o:=be jU 3) (t:=47) (e:=91) (i:=g) (len:=1) (id:=3) (parts:= #[(0,.tmp 12)]) (xs:=[tM a.1]) B E (by rw[y];kernel_rfl) (by kernel_rfl) (by kernel_rfl) z f.1 (by rw[f.2];decide) (by rw[f.2];decide) (by kernel_rfl);rw[f.2,y]at h;exact Vg (Vg h (Wk.fT (aY.cons (za a.1) aY.nil)) (ca.bA _ _ (.log (aY.cons (za a.1) aY.nil)))) (Wk.refl _) (ca.of_eq (by kernel_rfl))
theorem ZP8(a:Chan)(l:ZC)(m:Int)(e1 e2:aq):jp a l m e1 e2 4:=by
 intro X j y z J' A g f h;rw[mU a l m e1 e2 (by decide) (by decide) (by decide) (by decide), <-f];exact Ye (hs:=[.raw]) (C:=[]) (hs':=[]) g h (by rw[f];kernel_rfl) trivial
theorem ZP9(a:Chan)(l:ZC)(m:Int)(e1 e2:aq):jp a l m e1 e2 5:=by
 intro X j y z J' A g f h;rw[mU a l m e1 e2 (by decide) (by decide) (by decide) (by decide), <-f];exact Ye (hs:=[]) (C:=[(0:Nat)=0]) (hs':=[]) g h (by rw[f];kernel_rfl) ⟨rfl,ao⟩
theorem ZQa(a:Chan)(l:ZC)(m:Int)(e1 e2:aq)(g:bZ yb 109 [.p (Zf.enc a)] [] (.p (Zv.enc l)) []):jp a l m e1 e2 6:=by
 intro X y z A J' B h f j;rw[mU a l m e1 e2 (by decide) (by decide) (by decide) (by decide), <-f];exact Ye (hs:=[.call (.p (Zv.enc l)) [] []]) (C:=[bZ yb 109 [.p (Zf.enc a)] [] (.p (Zv.enc l)) []]) (hs':=[]) h j (by rw[f];kernel_rfl) ⟨g,ao⟩
theorem ZQb(a:Chan)(l:ZC)(m:Int)(e1 e2:aq):jp a l m e1 e2 7:=by
 intro X j y z J' A g f h;rw[mU a l m e1 e2 (by decide) (by decide) (by decide) (by decide), <-f];exact Ye (hs:=[]) (C:=[]) (hs':=[]) g h (by rw[f];kernel_rfl) trivial
theorem ZQc(a:Chan)(l:ZC)(m:Int)(e1 e2:aq):jp a l m e1 e2 8:=by
 intro X A I M J' Q B y E;have F:ft a l m e1 e2 X=jV a l m e1 e2 (X 3) af (X 10) (X 11):=by unfold ft;rw[A]
 have G:ft a l m e1 e2 (λj=>X j || decide (j=8))=jV a l m e1 e2 (X 3) ae (X 10) (X 11):=by
  unfold ft;grind
 rw[G];rw[F]at y
 obtain⟨g,z⟩:∃g,yb.info? 79=ab g:=by
  cases h:yb.info? 79 with
  |none=>have:=(by kernel_rfl:(yb.info? 79).isSome=ae);rw[h]at this;cases this
  |some g=>exact⟨g,rfl⟩
 have f:(yb.info? 79).map (λi=>(cq i,i.size))=ab (ae,Yn.size):=by kernel_rfl
 rw[z]at f;simp only[yae,yo,yq]at f;have h:=vy (P:=yb) (o:=be jU 8) (t:=41) (e:=79) (i:=g) (len:=1) (id:=4) (parts:= #[(0,.tmp 17)]) (xs:=[Yn.enc (kI m l)]) B E (by rw[y];kernel_rfl) (by kernel_rfl) (by kernel_rfl) z f.1 (by rw[f.2];decide) (by rw[f.2];decide) (by kernel_rfl);rw[f.2,y]at h;exact Vg (Vg h (Wk.fT (aY.refl _)) (ca.bA _ _ (.log (aY.refl _)))) (Wk.refl _) (ca.of_eq (by kernel_rfl))
theorem ZQd(a:Chan)(l:ZC)(m:Int)(e1 e2:aq):jp a l m e1 e2 9:=by
 intro X j y z J' A f g h;rw[mU a l m e1 e2 (by decide) (by decide) (by decide) (by decide), <-g];exact Zsp (P:=yb) (zs:=ltZ) f h (parts:= #[(0,.tmp 13),(1,.tmp 18)]) (by kernel_rfl) Tryz.underlying49 (by kernel_rfl) (by kernel_rfl) (by kernel_rfl)
theorem ZOC(a:Chan)(l:ZC)(m:Int)(e1 e2:aq):jp a l m e1 e2 10:=by
 intro X y M B J' E F g Q;have hs:X 11=af:=ZFL B (i:=11) (j:=10) (by rw[tV];decide) (by kernel_rfl) y;have G:ft a l m e1 e2 X=jV a l m e1 e2 (X 3) (X 8) af af:=by unfold ft;rw[y,hs]
 have I:ft a l m e1 e2 (λj=>X j || decide (j=10))=jV a l m e1 e2 (X 3) (X 8) ae af:=by
  unfold ft;grind
 rw[I];rw[G]at g
 obtain⟨f,z⟩:∃f,yb.info? 49=ab f:=by
  cases h:yb.info? 49 with
  |none=>have:=(by kernel_rfl:(yb.info? 49).isSome=ae);rw[h]at this;cases this
  |some f=>exact⟨f,rfl⟩
 have A:(yb.info? 49).map (λi=>i.zero.isSome)=ab ae:=by kernel_rfl
 rw[z]at A;have h:=va (P:=yb) (o:=be jU 10) (a:=E) (t:=49) (i:=f) (id:=5) F (by rw[g];kernel_rfl) (by kernel_rfl) z (by simpa using A) (by kernel_rfl) (by kernel_rfl);rw[g]at h;exact Vg h (Wk.refl _) (ca.of_eq (by kernel_rfl))
theorem ZOD(a:Chan)(l:ZC)(m:Int)(e1 e2:aq):jp a l m e1 e2 11:=by
 intro X z f Q J' R A g B;have E:=f 3 (by kernel_rfl);have F:=f 8 (by kernel_rfl);have G:=f 10 (by kernel_rfl);have I:ft a l m e1 e2 X=jV a l m e1 e2 ae ae ae af:=by unfold ft;rw[z,E,F,G]
 have M:ft a l m e1 e2 (λj=>X j || decide (j=11))=jV a l m e1 e2 ae ae ae ae:=by
  unfold ft;grind
 rw[M];rw[I]at g;have h:=vx (P:=yb) (o:=be jU 11) (t:=49) (x:=.tmp 7) (y:=.tmp 19) (id:=5) (off:=0) (yQ:=[]) (dd:=bf yb 49) (sub:=bf yb 49) (new:=oL a l m e1 e2 9) (dd':=oL a l m e1 e2 9) (C1:=[]) (off':=0) (hs:=[]) (hs':=[]) A B (by kernel_rfl) (by kernel_rfl) (by rw[g];kernel_rfl) (by kernel_rfl) trivial rfl (by kernel_rfl) (by kernel_rfl) (by kernel_rfl) (by kernel_rfl) (by kernel_rfl) (by kernel_rfl);rw[g]at h;exact Vg h (Wk.refl _) (ca.of_eq (by kernel_rfl))
theorem ZMj(a:Chan)(l:ZC)(m:Int)(e1 e2:aq)(g:bZ yb 109 [.p (Zf.enc a)] [] (.p (Zv.enc l)) []):XZ yb (QT (ZL yb 48) 1) (oM a l m e1 e2) (NR a l m e1 e2) .normal (ZP3 a l m e1 e2) (jV a l m e1 e2 ae ae ae ae):=by
 rw[ZMi];refine CI (k:=3) (ts:=oM a l m e1 e2) (H0:=NR a l m e1 e2) (by kernel_rfl) (oL a l m e1 e2) (ft a l m e1 e2) NS (ZM2 tV (by kernel_rfl)) (by kernel_rfl) (by rw[tV];kernel_rfl) (by kernel_rfl) (λX j=> ?_) [10] [5,6] (by kernel_rfl) (by kernel_rfl) (λi f=> ?_)
 .unfold ft;rw[tV]at j;grind
 .rw[tV]at f
  match i,f with
  |0,_=>exact ZP4 a l m e1 e2
  |1,_=>exact ZP5 a l m e1 e2
  |2,_=>exact ZP6 a l m e1 e2
  |3,_=>exact ZP7 a l m e1 e2
  |4,_=>exact ZP8 a l m e1 e2
  |5,_=>exact ZP9 a l m e1 e2
  |6,_=>exact ZQa a l m e1 e2 g
  |7,_=>exact ZQb a l m e1 e2
  |8,_=>exact ZQc a l m e1 e2
  |9,_=>exact ZQd a l m e1 e2
  |10,_=>exact ZOC a l m e1 e2
  |11,_=>exact ZOD a l m e1 e2
  |_+12,h=>exact absurd h (by omega)
end
end Go.Proofs.YtcbhhaigilifgaaGreat
end
section
set_option maxRecDepth 4000
namespace Go.Proofs.YtcbhhaigilifgaaGreat
open Go Go.Ev
noncomputable section
abbrev zQ:=Chan×aQg×Tx×aQm×aQr×Int
def Qr(F:Nat):(Int×Chan×aQg×Tx)->yO (zQ)
 |(a,b,c,d)=>
 (XT F b).bind λe=>
 ab (b,c,d,[(b.1,(0,[],0))],[(a,e)],0)
def tW:yL bC:=[.var (.v Zf) ae,.var (.v aQc) ae,.var (.v aJ) ae,.log bP 91,.log Yn 79,.var (.agg [.own 3 bP,.own 4 Yn,.v yI]) ae]
def Zc7:Lp:=⟨[(1,.v yI),(3,.aj 0 []),(5,.aj 1 []),(6,.aj 2 [])],[.var (.v Zf) ae,.var (.v aQc) ae,.var (.v aJ) ae],[yI,Zf,aQc,aJ],[⟨.normal,[(5,.aj 1 []),(6,.aj 2 []),(7,.aj 5 [])],tW,[Zf,aQc,aJ,aQi,aQp,yI]⟩],Qr yD⟩
theorem ZiO:Zc7.Is yb (VF yb 48) (QT (ZL yb 48) 1):=by
 intro v o g s hs e vs h f hs';obtain⟨z0,z1,z2,z3⟩:=v;obtain⟨l,j,m⟩:=Option.bind_eq_some_iff.1 (show(XT yD z1).bind _=ab o from g)
 cases m;obtain⟨rfl,rfl⟩:=f;have r:=ZMj z1 l z0 (.var (.p (Ty.enc aQc z2)) ae) (.var (.p (Ty.enc aJ z3)) ae) (ZCh ZjN j);have t1:Option.map (λ(s:yL TD×yL ai)=>(TD.aE (lk s.2) s.1,aG s.2)) (ab s)=ab (oM z1 l z0 (.var (.p (Ty.enc aQc z2)) ae) (.var (.p (Ty.enc aJ z3)) ae),NR z1 l z0 (.var (.p (Ty.enc aQc z2)) ae) (.var (.p (Ty.enc aJ z3)) ae)):=by rw[<-hs];kernel_rfl
 have t2:Option.map (λ(s:yL TD×yL ai)=>(TD.aE (lk s.2) s.1,aG s.2)) (ab h)=ab (ZP3 z1 l z0 (.var (.p (Ty.enc aQc z2)) ae) (.var (.p (Ty.enc aJ z3)) ae),jV z1 l z0 (.var (.p (Ty.enc aQc z2)) ae) (.var (.p (Ty.enc aJ z3)) ae) ae ae ae ae):=by rw[<-hs'];kernel_rfl
 simp only[yae,yo,yq]at t1 t2;rw[t1.1,t1.2,t2.1,t2.2];exact r
def YT(F:Nat):(Int×Int×zQ)->yO ((Int×Int×zQ)⊕(Int×zQ))
 |(a,c,e,b,f,d,g,h)=>
 if(bi a 2)=ae then
  (b[a.toNat]?).bind λi=>
  if(ag (c < (i.1.length:Int)))=ae then
   if(bi a 2)=ae then
    (b[a.toNat]?).bind λj=>
    (idx j.1 c).bind λk=>
    if(cf d.length 1 80)=ae then
     let l:aQm:=d++([(k.1,(0,[],0))]:yL In)
     ab (.inl (a,wi (c+1),e,b,f,l,g,h))
    else
    ad
   else
   ad
  else
  ab (.inr (a,e,b,f,d,g,h))
 else
 ad
def Zc8:Lp:=⟨[(5,.aj 1 []),(6,.aj 2 []),(7,.aj 5 []),(8,.v yI),(9,.v yI)],tW,[yI,yI,Zf,aQc,aJ,aQi,aQp,yI],[⟨.exit 2,[(5,.aj 1 []),(6,.aj 2 []),(7,.aj 5 []),(8,.v yI)],tW,[yI,Zf,aQc,aJ,aQi,aQp,yI]⟩],Zd (YT yD) yD⟩
def NT:HI:={ own:=[13,18,34,45,48,53],still:=[15,55]}
theorem ZiP:Zc8.bt yb 48 1:=Zt NT [] [] trivial
def Yr(F:Nat):(Int×zQ)->yO ((Int×zQ)⊕(zQ))
 |(h,i,j,k,l,m,n)=>
 if(ag (h < 2))=ae then
  (Zd (YT F) F (h,0,i,j,k,l,m,n)).bind λ(a,d,b,e,f,c,g)=>
  if(bi a 2)=ae then
   (b[a.toNat]?).bind λo=>
   if(cf c.length o.2.1.length 32)=ae then
    ab (.inl (wi (a+1),d,b,e,f,c++o.2.1,g))
   else
   ad
  else
  ad
 else
 ab (.inr (i,j,k,l,m,n))
def Zc9:Lp:=⟨[(5,.aj 1 []),(6,.aj 2 []),(7,.aj 5 []),(8,.v yI)],tW,[yI,Zf,aQc,aJ,aQi,aQp,yI],[⟨.exit 0,[(6,.aj 2 []),(7,.aj 5 [])],tW,[Zf,aQc,aJ,aQi,aQp,yI]⟩],Zd (Yr yD) yD⟩
theorem ZiQ:Zc9.bt yb 48 0:=Zt NT [(1,Zc8)] [] trivial ⟨ZiP,ao⟩
def VR(F:Nat)(a0:Chan)(a1:Int)(a2:aQg):yO (Tx):=
 (Qr F (a1,a0,a2,([],[],0))).bind λ(d,e,f,g,h,i)=>
 (Zd (Yr F) F (0,d,e,f,g,h,i)).bind λ(_,_,_,a,b,c)=>
 (Qq F (a,b,c)).bind λj=>
 ab j
def ZeK:Fs yb:=⟨48,[.v Zf,.v yI,.v aQc],[],[Zf,yI,aQc],(zN aJ),λx=>VR yD x.1 x.2.1 x.2.2⟩
theorem ZlN:ZeK.Ok:=pX (fi:={ hi:=NT,lp:=[(0,Zc9)],bk:=[(1,Zc7)]}) (aF:={ l:=[ZfD]}) (kB ⟨Zm5,ao⟩) ⟨ZiQ,ao⟩ (hb:=⟨ZiO,ao⟩)
def WP(F:Nat)(a0:WK):yO (Bool):=
 if(ag (a0.1 >= 0))=ae then
  if(ag (a0.1<=3))=ae then
   ab (ag ((a0.2.1.length:Int)<=12))
  else
  ab af
 else
 ab af
def ZbZ:Fs yb:=⟨111,[.v Y2],[],[Y2],(zN .bool),λx=>WP yD x⟩
theorem ZiR:ZbZ.Ok:=aQ { still:=[2]} [] [] trivial
def Ys(F:Nat)(s:(Int×Int×Tx×In)):yO ((Int×Int×Tx×In)⊕((Bool×Tx×In)⊕(Int×Tx×In))):=
 if(ag (s.2.1 < s.1))=ae then
  (idx s.2.2.1.1 s.2.1).bind λa=>
  if(ag (a.1=s.2.2.2.1))=ae then
   ab (.inr (.inl (af,s.2.2.1,s.2.2.2)))
  else
  ab (.inl (s.1,wi (s.2.1+1),s.2.2.1,s.2.2.2))
 else
 ab (.inr (.inr (s.1,s.2.2.1,s.2.2.2)))
def Zda:Lp:=⟨[(1,.aj 0 []),(3,.v yI),(4,.aj 1 []),(5,.v yI)],[.var (.v aJ) ae,.var (.v bP) ae],[yI,yI,aJ,bP],[⟨.ret,[(2,.v .bool)],[.var (.v aJ) ae,.var (.v bP) ae],[.bool,aJ,bP]⟩,⟨.exit 2,[(1,.aj 0 []),(3,.v yI)],[.var (.v aJ) ae,.var (.v bP) ae],[yI,aJ,bP]⟩],Zd (Ys yD) yD⟩
theorem ZiS:Zda.bt yb 49 1:=Zt { still:=[2,54,94]} [] [] trivial
def YU(F:Nat)(s:(Int×Tx)):yO ((Int×Tx)⊕((Bool×Tx)⊕Tx)):=
 if(ag (s.1 < (s.2.1.length:Int)))=ae then
  (idx s.2.1 s.1).bind λa=>
  if(ag (a.1.2 < 0))=ae then
   ab (.inr (.inl (af,s.2)))
  else
  if(ag (a.1.2 > 63))=ae then
   ab (.inr (.inl (af,s.2)))
  else
  (WP F a.2).bind λb=>
  if(!b)=ae then
   ab (.inr (.inl (af,s.2)))
  else
  (Zd (Ys F) F (s.1,0,s.2,a)).bind λc=>
  match c with
  |.inl d=>
   ab (.inr (.inl (d.1,d.2.1)))
  |.inr e=>
   ab (.inl (wi (e.1+1),e.2.1))
 else
 ab (.inr (.inr s.2))
def Zdb:Lp:=⟨[(1,.aj 0 []),(3,.v yI)],[.var (.v aJ) ae],[yI,aJ],[⟨.ret,[(2,.v .bool)],[.var (.v aJ) ae],[.bool,aJ]⟩,⟨.exit 0,[(1,.aj 0 [])],[.var (.v aJ) ae],[aJ]⟩],Zd (YU yD) yD⟩
theorem ZiT:Zdb.bt yb 49 0:=Zt { still:=[2,54,94]} [(1,Zda)] [ZbZ] ⟨ZiR,ao⟩ ⟨ZiS,ao⟩
def YV(F:Nat)(s:(Int×Int×Tx)):yO ((Int×Int×Tx)⊕((Bool×Tx)⊕(Int×Tx))):=
 if(ag (s.2.1 < (s.2.2.2.1.length:Int)))=ae then
  (idx s.2.2.2.1 s.2.1).bind λa=>
  if(ag (a.1 < 0))=ae then
   ab (.inr (.inl (af,s.2.2)))
  else
  if(ag (a.1 > 1125899906842624))=ae then
   ab (.inr (.inl (af,s.2.2)))
  else
  (Y5 F a.2).bind λb=>
  if(!b)=ae then
   ab (.inr (.inl (af,s.2.2)))
  else
  ab (.inl (wi (s.1+a.1),wi (s.2.1+1),s.2.2))
 else
 ab (.inr (.inr (s.1,s.2.2)))
def Zdc:Lp:=⟨[(1,.aj 0 []),(6,.v yI),(7,.v yI)],[.var (.v aJ) ae],[yI,yI,aJ],[⟨.ret,[(2,.v .bool)],[.var (.v aJ) ae],[.bool,aJ]⟩,⟨.exit 4,[(6,.v yI)],[.var (.v aJ) ae],[yI,aJ]⟩],Zd (YV yD) yD⟩
theorem ZiU:Zdc.bt yb 49 2:=Zt { still:=[2,54,94]} [] [Vz] ⟨QN,ao⟩
def WH(F:Nat)(a0:Tx):yO (Bool):=
 if(ag ((a0.1.length:Int) < 1))=ae then
  ab af
 else
 if(ag ((a0.1.length:Int) > 64))=ae then
  ab af
 else
 if(ag ((a0.2.1.length:Int) > 64))=ae then
  ab af
 else
 if(ag (a0.2.2 < 0))=ae then
  ab af
 else
 (Zd (YU F) F (0,a0)).bind λa=>
 match a with
 |.inl b=>
  ab b.1
 |.inr c=>
  (Zd (YV F) F (0,0,c)).bind λd=>
  match d with
  |.inl e=>
   ab e.1
  |.inr f=>
   ab (ag (f.1<=1125899906842624))
def NU:Fs yb:=⟨49,[.v aJ],[],[aJ],(zN .bool),λx=>WH yD x⟩
theorem Zdd:NU.Ok:=aQ { still:=[2,54,94]} [(0,Zdb),(2,Zdc)] [] trivial ⟨ZiT,ZiU,ao⟩
def XV(F:Nat)(s:(yU×Int×aQa)):yO ((yU×Int×aQa)⊕aQa):=
 if(ag (s.2.1 >= 0))=ae then
  if(ag (0<=s.2.1))=ae then
   let a:yB:=w8 ((ZE s.1 (min s.2.1.toNat 64)).toNat:Int)
   if(cf s.2.2.length 1 1)=ae then
    ab (.inl (s.1,wi (s.2.1 - 8),s.2.2++([a]:yL yB)))
   else
   ad
  else
  ad
 else
 ab (.inr s.2.2)
def ZeL:Lp:=⟨[(0,.v .u64),(3,.own 0 .u8),(4,.v yI)],[.log .u8 5],[.u64,yI,aQb],[⟨.exit 0,[(3,.own 0 .u8)],[.log .u8 5],[aQb]⟩],Zd (XV yD) yD⟩
theorem ZjR:ZeL.bt yb 171 0:=Zt { own:=[3,9,15],still:=[2]} [] [] trivial
def Qs(F:Nat)(a0:yU):yO (aQa):=
 (Zd (XV F) F (a0,56,[])).bind λa=>
 ab a
def ZfE:Fs yb:=⟨171,[.v .u64],[],[.u64],(zN aQb),λx=>Qs yD x⟩
theorem Zm7:ZfE.Ok:=aQ { own:=[3,9,15],still:=[2]} [(0,ZeL)] [] trivial ⟨ZjR,ao⟩
def Xv(F:Nat)(s:(aQa×aQa)):yO ((aQa×aQa)⊕(aQa×aQa)):=
 if((Int.tmod (s.2.length:Int) 64)!=56)=ae then
  if(cf s.2.length 1 1)=ae then
   ab (.inl (s.1,s.2++([0]:yL yB)))
  else
  ad
 else
 ab (.inr (s.1,s.2))
def ZcE:Lp:=⟨[(0,.v aQb),(3,.own 0 .u8)],[.log .u8 5],[aQb,aQb],[⟨.exit 0,[(0,.v aQb),(3,.own 0 .u8)],[.log .u8 5],[aQb,aQb]⟩],Zd (Xv yD) yD⟩
def NW:HI:={ own:=[3,6,8,9,11,16,18,27,33],still:=[2]}
theorem ZhH:ZcE.bt yb 204 0:=Zt NW [] [] trivial
def Xw(F:Nat)(s:(yU×Int×aQa)):yO ((yU×Int×aQa)⊕aQa):=
 if(ag (s.2.1 >= 0))=ae then
  if(ag (0<=s.2.1))=ae then
   let a:yB:=w8 ((ZE s.1 (min s.2.1.toNat 64)).toNat:Int)
   if(cf s.2.2.length 1 1)=ae then
    ab (.inl (s.1,wi (s.2.1 - 8),s.2.2++([a]:yL yB)))
   else
   ad
  else
  ad
 else
 ab (.inr s.2.2)
def ZcF:Lp:=⟨[(3,.own 0 .u8),(4,.v .u64),(5,.v yI)],[.log .u8 5],[.u64,yI,aQb],[⟨.exit 2,[(3,.own 0 .u8)],[.log .u8 5],[aQb]⟩],Zd (Xw yD) yD⟩
theorem ZhI:ZcF.bt yb 204 1:=Zt NW [] [] trivial
def VB(F:Nat)(a0:aQa):yO (aQa):=
 if(cf 0 a0.length 1)=ae then
  if(cf a0.length 1 1)=ae then
   (Zd (Xv F) F (a0,a0++([128]:yL yB))).bind λa=>
   (Zd (Xw F) F (8*(dj (a.1.length:Int)),56,a.2)).bind λb=>
   ab b
  else
  ad
 else
 ad
def Zde:Fs yb:=⟨204,[.v aQb],[],[aQb],(zN aQb),λx=>VB yD x⟩
theorem ZkS:Zde.Ok:=aQ NW [(0,ZcE),(1,ZcF)] [] trivial ⟨ZhH,ZhI,ao⟩
def NX(F:Nat):yO (aQd):=
 ab [1779033703,3144134277,1013904242,2773480762,1359893119,2600822924,528734635,1541459225]
def Zdf:Fs yb:=⟨205,[],[],[],(zN (.sl .u32)),λx=>NX yD⟩
theorem ZkT:Zdf.Ok:=aQ { still:=[0]} [] [] trivial
def ZK(F:Nat)(a0:yV)(a1:Int):yO (yV):=
 if(ag (0<=a1))=ae then
  if(ag (0<=wi (32 - a1)))=ae then
   let a:yV:=(gJ a0 (min a1.toNat 32))|||(fP a0 (min (wi (32 - a1)).toNat 32))
   ab a
  else
  ad
 else
 ad
def NY:Fs yb:=⟨226,[.v .u32,.v yI],[],[.u32,yI],(zN .u32),λx=>ZK yD x.1 x.2⟩
theorem ZeM:NY.Ok:=aQ { still:=[4]} [] [] trivial
def XG(F:Nat)(s:(aQa×Int×aQd)):yO ((aQa×Int×aQd)⊕aQd):=
 if(ag (s.2.1 < 16))=ae then
  (idx s.1 (wi (4*s.2.1))).bind λa=>
  (idx s.1 (wi ((wi (4*s.2.1))+1))).bind λb=>
  let c:yV:=(fP (ybn a.toNat) 24)|||(fP (ybn b.toNat) 16)
  (idx s.1 (wi ((wi (4*s.2.1))+2))).bind λd=>
  (idx s.1 (wi ((wi (4*s.2.1))+3))).bind λe=>
  let f:yV:=(c|||(fP (ybn d.toNat) 8))|||(ybn e.toNat)
  if(cf s.2.2.length 1 4)=ae then
   ab (.inl (s.1,wi (s.2.1+1),s.2.2++([f]:yL yV)))
  else
  ad
 else
 ab (.inr s.2.2)
def Zdg:Lp:=⟨[(0,.v aQb),(3,.own 0 .u32),(4,.v yI)],[.log .u32 278],[aQb,yI,(.sl .u32)],[⟨.exit 0,[(3,.own 0 .u32)],[.log .u32 278],[(.sl .u32)]⟩],Zd (XG yD) yD⟩
def NZ:HI:={ own:=[3,14,49,80,97],still:=[2,64,66,72,74]}
theorem ZiV:Zdg.bt yb 224 0:=Zt NZ [] [] trivial
def XH(F:Nat)(s:(Int×aQd)):yO ((Int×aQd)⊕aQd):=
 if(ag (s.1 < 64))=ae then
  (idx s.2 (wi (s.1 - 15))).bind λa=>
  (idx s.2 (wi (s.1 - 2))).bind λb=>
  (ZK F a 7).bind λc=>
  (ZK F a 18).bind λd=>
  (ZK F b 17).bind λe=>
  (ZK F b 19).bind λf=>
  (idx s.2 (wi (s.1 - 16))).bind λg=>
  (idx s.2 (wi (s.1 - 7))).bind λh=>
  let i:yV:=(g+((c^^^d)^^^(gJ a 3)))+h
  if(cf s.2.length 1 4)=ae then
   let j:aQd:=s.2++([i+((e^^^f)^^^(gJ b 10))]:yL yV)
   ab (.inl (wi (s.1+1),j))
  else
  ad
 else
 ab (.inr s.2)
def Zdh:Lp:=⟨[(3,.own 0 .u32),(5,.v yI)],[.log .u32 278],[yI,(.sl .u32)],[⟨.exit 2,[(3,.own 0 .u32)],[.log .u32 278],[(.sl .u32)]⟩],Zd (XH yD) yD⟩
theorem ZiW:Zdh.bt yb 224 1:=Zt NZ [] [NY] ⟨ZeM,ao⟩
def VS(F:Nat)(a0:aQa):yO (aQd):=
 (Zd (XG F) F (a0,0,[])).bind λa=>
 (Zd (XH F) F (16,a)).bind λb=>
 ab b
def ZeN:Fs yb:=⟨224,[.v aQb],[],[aQb],(zN (.sl .u32)),λx=>VS yD x⟩
theorem ZlO:ZeN.Ok:=aQ NZ [(0,Zdg),(1,Zdh)] [] trivial ⟨ZiV,ZiW,ao⟩
def OA(F:Nat):yO (aQd):=
 ab [1116352408,1899447441,3049323471,3921009573,961987163,1508970993,2453635748,2870763221,3624381080,310598401,607225278,1426881987,1925078388,2162078206,2614888103,3248222580,3835390401,4022224774,264347078,604807628,770255983,1249150122,1555081692,1996064986,2554220882,2821834349,2952996808,3210313671,3336571891,3584528711,113926993,338241895,666307205,773529912,1294757372,1396182291,1695183700,1986661051,2177026350,2456956037,2730485921,2820302411,3259730800,3345764771,3516065817,3600352804,4094571909,275423344,430227734,506948616,659060556,883997877,958139571,1322822218,1537002063,1747873779,1955562222,2024104815,2227730452,2361852424,2428436474,2756734187,3204031479,3329325298]
def ZfF:Fs yb:=⟨225,[],[],[],(zN (.sl .u32)),λx=>OA yD⟩
theorem Zm8:ZfF.Ok:=aQ { still:=[0]} [] [] trivial
def XI(F:Nat):(aQd×aQd×aQd×Int×aQh×aQd)->yO ((aQd×aQd×aQd×Int×aQh×aQd)⊕(aQd×aQh×aQd))
 |(e,d,c,a,f,b)=>
 if(ag (a < 64))=ae then
  if(bi 4 b.length)=ae then
   (b[4]?).bind λg=>
   (ZK F g 6).bind λh=>
   if(bi 4 b.length)=ae then
    (b[4]?).bind λi=>
    (ZK F i 11).bind λj=>
    if(bi 4 b.length)=ae then
     (b[4]?).bind λk=>
     (ZK F k 25).bind λl=>
     if(bi 4 b.length)=ae then
      (b[4]?).bind λm=>
      if(bi 5 b.length)=ae then
       (b[5]?).bind λn=>
       if(bi 4 b.length)=ae then
        (b[4]?).bind λo=>
        if(bi 6 b.length)=ae then
         (b[6]?).bind λp=>
         let q:yV:=(m&&&n)^^^((4294967295^^^o)&&&p)
         if(bi 7 b.length)=ae then
          (b[7]?).bind λr=>
          (idx c a).bind λs=>
          let t:yV:=((r+((h^^^j)^^^l))+q)+s
          (idx d a).bind λu=>
          if(bi 0 b.length)=ae then
           (b[0]?).bind λv=>
           (ZK F v 2).bind λw=>
           if(bi 0 b.length)=ae then
            (b[0]?).bind λx=>
            (ZK F x 13).bind λy=>
            if(bi 0 b.length)=ae then
             (b[0]?).bind λz=>
             (ZK F z 22).bind λA=>
             if(bi 0 b.length)=ae then
              (b[0]?).bind λB=>
              if(bi 1 b.length)=ae then
               (b[1]?).bind λC=>
               if(bi 0 b.length)=ae then
                (b[0]?).bind λD=>
                if(bi 2 b.length)=ae then
                 (b[2]?).bind λE=>
                 if(bi 1 b.length)=ae then
                  (b[1]?).bind λG=>
                  if(bi 2 b.length)=ae then
                   (b[2]?).bind λH=>
                   let I:yV:=((B&&&C)^^^(D&&&E))^^^(G&&&H);let J:yV:=((t+u)+((w^^^y)^^^A))+I
                   if(bi 0 b.length)=ae then
                    (b[0]?).bind λK=>
                    if(bi 1 b.length)=ae then
                     (b[1]?).bind λL=>
                     if(bi 2 b.length)=ae then
                      (b[2]?).bind λM=>
                      if(bi 3 b.length)=ae then
                       (b[3]?).bind λN=>
                       if(bi 4 b.length)=ae then
                        (b[4]?).bind λO=>
                        if(bi 5 b.length)=ae then
                         (b[5]?).bind λP=>
                         if(bi 6 b.length)=ae then
                          (b[6]?).bind λQ=>
                          ab (.inl (e,d,c,wi (a+1),()::f,[J,K,L,M,N+(t+u),O,P,Q]))
                         else
                         ad
                        else
                        ad
                       else
                       ad
                      else
                      ad
                     else
                     ad
                    else
                    ad
                   else
                   ad
                  else
                  ad
                 else
                 ad
                else
                ad
               else
               ad
              else
              ad
             else
             ad
            else
            ad
           else
           ad
          else
          ad
         else
         ad
        else
        ad
       else
       ad
      else
      ad
     else
     ad
    else
    ad
   else
   ad
  else
  ad
 else
 ab (.inr (e,f,b))
def Zdi:Lp:=⟨[(0,.v (.sl .u32)),(5,.v (.sl .u32)),(6,.v (.sl .u32)),(7,.rw 0),(8,.v yI)],[.row .u32 ae 278],[(.sl .u32),(.sl .u32),(.sl .u32),yI,aQf,(.sl .u32)],[⟨.exit 0,[(0,.v (.sl .u32)),(7,.rw 0)],[.row .u32 ae 278],[(.sl .u32),aQf,(.sl .u32)]⟩],Zd (XI yD) yD⟩
def OB:HI:={ own:=[18,20],still:=[4,15,27,31,36,74,78,83],cE:=[7,18,20,137,142],rew:=[(137,7)]}
theorem ZiX:Zdi.bt yb 206 0:=Zt OB [] [NY] ⟨ZeM,ao⟩
def XJ(F:Nat)(s:(aQd×Int×aQh×aQd)):yO ((aQd×Int×aQh×aQd)⊕(aQh×aQd)):=
 if(ag (s.2.1 < 8))=ae then
  if(bi s.2.1 s.2.2.2.length)=ae then
   (s.2.2.2[s.2.1.toNat]?).bind λa=>
   (idx s.1 s.2.1).bind λb=>
   if(bi s.2.1 s.2.2.2.length)=ae then
    (s.2.2.2[s.2.1.toNat]?).bind λc=>
    ab (.inl (s.1,wi (s.2.1+1),s.2.2.1,s.2.2.2.set s.2.1.toNat (a+b)))
   else
   ad
  else
  ad
 else
 ab (.inr (s.2.2.1,s.2.2.2))
def Zdj:Lp:=⟨[(0,.v (.sl .u32)),(7,.rw 0),(14,.v yI)],[.row .u32 ae 278],[(.sl .u32),yI,aQf,(.sl .u32)],[⟨.exit 2,[(7,.rw 0)],[.row .u32 ae 278],[aQf,(.sl .u32)]⟩],Zd (XJ yD) yD⟩
theorem ZiY:Zdj.bt yb 206 1:=Zt OB [] [] trivial
def VT(F:Nat)(a0:aQd)(a1:aQa):yO (aQd):=
 (VS F a1).bind λa=>
 (OA F).bind λb=>
 if(cf 0 a0.length 4)=ae then
  (Zd (XI F) F (a0,a,b,0,[()],a0)).bind λc=>
  (Zd (XJ F) F (c.1,0,c.2.1,c.2.2)).bind λd=>
  ab d.2
 else
 ad
def ZeO:Fs yb:=⟨206,[.v (.sl .u32),.v aQb],[],[(.sl .u32),aQb],(zN (.sl .u32)),λx=>VT yD x.1 x.2⟩
theorem ZlP:ZeO.Ok:=aQ OB [(0,Zdi),(1,Zdj)] [ZeN,ZfF] ⟨ZlO,Zm8,ao⟩ ⟨ZiX,ZiY,ao⟩
def XW(F:Nat)(s:(aQa×aQd×Int×aQa)):yO ((aQa×aQd×Int×aQa)⊕(aQd×aQa)):=
 if(ag (s.2.2.1 < (s.1.length:Int)))=ae then
  if(dL s.1.length (ab s.2.2.1) (ab (wi (s.2.2.1+64))))=ae then
   let a:aQa:=(s.1.take ((wi (s.2.2.1+64)).toNat)).drop s.2.2.1.toNat
   (VT F s.2.1 a).bind λb=>
   ab (.inl (s.1,b,wi (s.2.2.1+64),s.2.2.2))
  else
  ad
 else
 ab (.inr (s.2.1,s.2.2.2))
def ZeP:Lp:=⟨[(2,.aj 0 []),(3,.v aQb),(4,.v (.sl .u32)),(5,.v yI)],[.var (.v aQe) ae],[aQb,(.sl .u32),yI,aQe],[⟨.exit 0,[(2,.aj 0 []),(4,.v (.sl .u32))],[.var (.v aQe) ae],[(.sl .u32),aQe]⟩],Zd (XW yD) yD⟩
theorem ZjS:ZeP.bt yb 172 0:=Zt { still:=[8,17,22]} [] [ZeO] ⟨ZlP,ao⟩
def XX(F:Nat)(s:(aQd×Int×aQa×aQa)):yO ((aQd×Int×aQa×aQa)⊕(aQa×aQa)):=
 if(ag (s.2.1 < 32))=ae then
  (idx s.1 (wi (Int.tdiv s.2.1 4))).bind λa=>
  if(ag (0<=wi (24 - (wi (8*(Int.tmod s.2.1 4))))))=ae then
   let b:yV:=gJ a (min (wi (24 - (wi (8*(Int.tmod s.2.1 4))))).toNat 32)
   if(bi s.2.1 32)=ae then
    (s.2.2.2[s.2.1.toNat]?).bind λc=>
    ab (.inl (s.1,wi (s.2.1+1),s.2.2.1,s.2.2.2.set s.2.1.toNat (w8 (b.toNat:Int))))
   else
   ad
  else
  ad
 else
 ab (.inr (s.2.2.1,s.2.2.2))
def ZeQ:Lp:=⟨[(2,.aj 0 []),(4,.v (.sl .u32)),(6,.aj 1 []),(7,.v yI)],[.var (.v aQe) ae,.var (.v aQe) ae],[(.sl .u32),yI,aQe,aQe],[⟨.exit 2,[(2,.aj 0 []),(6,.aj 1 [])],[.var (.v aQe) ae,.var (.v aQe) ae],[aQe,aQe]⟩],Zd (XX yD) yD⟩
theorem ZjT:ZeQ.bt yb 172 1:=Zt { still:=[8,17,22]} [] [] trivial
def W2(F:Nat)(a0:aQa):yO (aQa):=
 (VB F a0).bind λa=>
 (NX F).bind λb=>
 (Zd (XW F) F (a,b,0,dn)).bind λc=>
 (Zd (XX F) F (c.1,0,c.2,dn)).bind λd=>
 ab d.2
def OC(F:Nat):Fs yb:=⟨172,[.v aQb],[],[aQb],(zN aQe),λx=>W2 F x⟩
def Zn8:Fs yb:=OC yD
theorem Zm9:Zn8.Ok:=aQ { still:=[8,17,22]} [(0,ZeP),(1,ZeQ)] [Zde,Zdf] ⟨ZkS,ZkT,ao⟩ ⟨ZjS,ZjT,ao⟩
end
end Go.Proofs.YtcbhhaigilifgaaGreat
end
section
set_option maxRecDepth 4000
namespace Go.Ev
theorem ZFM{I X:Type}{step:I->yO (I⊕X)}{st:Nat->I}{x:X}(n:Nat)(hs:∀k,k < n->step (st k)=ab (.inl (st (k+1))))(he:step (st n)=ab (.inr x)):∀(d k f:Nat),k+d=n->d < f->Zd step f (st k)=ab x
 |0,k,f+1,h,_=>by
  have e:k=n:=by omega
  subst e;unfold Zd
  rw[he,ya]
 |d+1,k,f+1,h,g=>by
  unfold Zd;rw[hs k (by omega),ya];exact ZFM n hs he d (k+1) f (by omega) (by omega)
theorem ZA{I X:Type}{step:I->yO (I⊕X)}(n:Nat)(st:Nat->I){x:X}(hs:∀k,k < n->step (st k)=ab (.inl (st (k+1))))(he:step (st n)=ab (.inr x))(f:n < 18446744073709551616):
 Zd step yD (st 0)=ab x:=ZFM n hs he n 0 yD (by omega) (by rw[iI];exact f)
theorem ZCp{I X:Type}{step:I->yO (I⊕X)}{Post:X->Prop}(n:Nat)(S:Nat->I->Prop)(hs:∀k s,k < n->S k s->(∃t,step s=ab (.inl t)/\S (k+1) t)\/∃x,step s=ab (.inr x)/\Post x)
 (he:∀s,S n s->∃x,step s=ab (.inr x)/\Post x):∀(d k f:Nat)(s:I),k+d=n->d < f->S k s->∃x,Zd step f s=ab x/\Post x
 |0,k,f+1,s,h,_,l=>by
  have e:k=n:=by omega
  subst e;obtain⟨x,g,j⟩:=he s l;unfold Zd;rw[g,ya]
  exact⟨x,rfl,j⟩
 |d+1,k,f+1,s,h,m,l=>by
  unfold Zd;rcases hs k s (by omega) l with⟨t,g,j⟩|⟨x,g,j⟩
  .rw[g,ya];exact ZCp n S hs he d (k+1) f t (by omega) (by omega) j
  .rw[g,ya];exact⟨x,rfl,j⟩
theorem Xi{I X:Type}{step:I->yO (I⊕X)}(n:Nat)(S:Nat->I->Prop)(Post:X->Prop){i:I}(f:S 0 i)(g:n < 18446744073709551616)
 (hs:∀k s,k < n->S k s->(∃t,step s=ab (.inl t)/\S (k+1) t)\/∃x,step s=ab (.inr x)/\Post x)
 (he:∀s,S n s->∃x,step s=ab (.inr x)/\Post x):∃x,Zd step yD i=ab x/\Post x:=ZCp n S hs he n 0 yD i (by omega) (by rw[iI];exact g) f
theorem Zw{a b:Nat}(h:a < b):ag ((a:Int) < (b:Int))=ae:=yY (by omega)
theorem ZN{a:Nat}:ag ((a:Int) < (a:Int))=af:=yZ (by omega)
theorem Zp{k:Nat}(h:k < 9223372036854775807):wi ((k:Int)+1)=((k+1:Nat):Int):=by
 rw[ZY (by omega) (by omega)];omega
theorem Zl{α:Type}{l:yL α}{k:Nat}{y:α}(h:l[k]? =ab y):idx l (k:Int)=ab y:=sW (by omega) (by simpa using h)
theorem Zyg{α:Type}{ls:yL (yL α)}{k:Nat}{e:yL α}(h:ls[k]? =ab e):(ls.take (k+1)).flatten=(ls.take k).flatten++e:=by
 rw[List.take_add_one,h];simp
theorem ZFN{α:Type}(ls:yL (yL α))(k:Nat):(ls.take k).flatten.length<=ls.flatten.length:=by
 have h:=congrArg (λl=>(List.flatten l).length) (ybg k ls);simp only[List.flatten_append,yl]at h;omega
theorem Wu{α:Type}{l:yL α}{k:Nat}{e:α}(h:l[k]? =ab e):l.take (k+1)=l.take k++[e]:=by
 rw[List.take_add_one,h];rfl
theorem Zi{α:Type}{l:yL α}{k:Nat}(h:k < l.length):∃e,l[k]? =ab e/\e∈l:=⟨l[k],yad h,List.getElem_mem h⟩
end Go.Ev
end
section
set_option maxRecDepth 4000
namespace Go.Proofs.YtcbhhaigilifgaaGreat
open Go Go.Ev Go.Sha
theorem kJ(x:yV)(n k:Nat)(h:n+k=32)(f:0 < n){z:Int}(hz:z=(n:Int)):∃o,ZK yD x z=ab o/\o.toNat=lo (Nat.shiftRight (eD x.toNat) n):=by
 subst hz;unfold ZK;rw[ZY (z:=32 - (n:Int)) (by omega) (by omega),yW (yY (by omega)),yW (yY (by omega))];refine⟨_,rfl, ?_⟩;have g:min ((n:Int)).toNat 32=n:=by omega
 have j:min (32 - (n:Int)).toNat 32=k:=by omega
 rw[g,j,UInt32.or_comm];exact ZMX x h f
theorem ZOI(a b c d:yB):((((fP (ybn a.toNat) 24)|||(fP (ybn b.toNat) 16))|||(fP (ybn c.toNat) 8))|||(ybn d.toNat)).toNat=((a.toNat*256+b.toNat)*256+c.toNat)*256+d.toNat:=by
 have j:=a.toNat_lt;have l:=b.toNat_lt;have m:=c.toNat_lt;have y:=d.toNat_lt
 have hs:∀(x:yB)(n:Nat),n<=24->(fP (ybn x.toNat) n).toNat=x.toNat*2 ^ n:=by
  intro x n z;have f:=x.toNat_lt;unfold fP;rw[ycp,ycp,yap (a:=x.toNat) (by omega)];refine yap ?_
  calc x.toNat*2 ^ n < 2 ^ 8*2 ^ n:=Nat.mul_lt_mul_of_pos_right f (Nat.two_pow_pos n)
   _=2 ^ (8+n):=(Nat.pow_add ..).symm
   _<=2 ^ 32:=Nat.pow_le_pow_right (by omega) (by omega)
 rw[lI,lI,lI,hs _ _ (by omega),hs _ _ (by omega),hs _ _ (by omega),ycp,yap (a:=d.toNat) (by omega)]
 have g:Nat.lor (a.toNat*2 ^ 24) (b.toNat*2 ^ 16)=2 ^ 16*(a.toNat*256+b.toNat):=by
  rw[Nat.mul_comm a.toNat,show Nat.lor (2 ^ 24*a.toNat) (b.toNat*2 ^ 16)=2 ^ 24*a.toNat|||b.toNat*2 ^ 16 from rfl, <-ycz (by omega)]
  omega
 have h:Nat.lor (2 ^ 16*(a.toNat*256+b.toNat)) (c.toNat*2 ^ 8)=2 ^ 8*((a.toNat*256+b.toNat)*256+c.toNat):=by
  rw[show Nat.lor (2 ^ 16*(a.toNat*256+b.toNat)) (c.toNat*2 ^ 8)=2 ^ 16*(a.toNat*256+b.toNat)|||c.toNat*2 ^ 8 from rfl, <-ycz (by omega)]
  omega
 rw[g,h,show Nat.lor (2 ^ 8*((a.toNat*256+b.toNat)*256+c.toNat)) d.toNat=2 ^ 8*((a.toNat*256+b.toNat)*256+c.toNat)|||d.toNat from rfl, <-ycz (by omega)]
 omega
theorem ZQe(e f g:yV):((e&&&f)^^^((4294967295^^^e)&&&g)).toNat=ch e.toNat f.toNat g.toNat:=by
 rw[<-ZPx];congr 1;apply UInt32.toBitVec_inj.1;apply BitVec.eq_of_getLsbD_eq;intro i h
 have j:(4294967295:yV).toBitVec.getLsbD i=ae:=by
  rw[show(4294967295:yV).toBitVec=BitVec.allOnes 32 from rfl,BitVec.getLsbD_allOnes]
  exact yY h
 simp only[UInt32.toBitVec_xor,UInt32.toBitVec_and,BitVec.getLsbD_xor,BitVec.getLsbD_and,j];cases e.toBitVec.getLsbD i <;> cases f.toBitVec.getLsbD i <;> cases g.toBitVec.getLsbD i <;> rfl
theorem ZQf(a b c:yV):(((a&&&b)^^^(a&&&c))^^^(b&&&c)).toNat=mj a.toNat b.toNat c.toNat:=by
 rw[<-ZPy];congr 1;apply UInt32.toBitVec_inj.1;apply BitVec.eq_of_getLsbD_eq;intro i f;simp only[UInt32.toBitVec_xor,UInt32.toBitVec_and,UInt32.toBitVec_or,BitVec.getLsbD_xor,BitVec.getLsbD_and,BitVec.getLsbD_or];cases a.toBitVec.getLsbD i <;> cases b.toBitVec.getLsbD i <;> cases c.toBitVec.getLsbD i <;> rfl
theorem ZJR{l:yL yB}(h:l.length=64):∃o,VS yD l=ab o/\o.length=64/\∀(i:Nat)x,o[i]? =ab x->x.toNat=wd (Yi (l.map yaj)) i:=by
 unfold VS
 have A:∀(w:yL yV)(y:yV),y.toNat=wd (Yi (l.map yaj)) w.length->(∀(j:Nat)x,w[j]? =ab x->x.toNat=wd (Yi (l.map yaj)) j)->∀(j:Nat)x,(w++[y])[j]? =ab x->x.toNat=wd (Yi (l.map yaj)) j:=by
  intro w y hy m j x g;by_cases hj:j < w.length
  .rw[List.getElem?_append_left hj]at g;exact m j x g
  .rw[yas (by omega)]at g
   have:j=w.length:=by
    have:=(yu.1 g).1;simp at this;omega
   subst this;rw[Nat.sub_self]at g;cases g;exact hy
 obtain⟨w0,g1,g2,g3⟩:=Xi (step:=XG yD) 16 (λk s=>∃w,s=(l,(k:Int),w)/\w.length=k/\∀(j:Nat)x,w[j]? =ab x->x.toNat=wd (Yi (l.map yaj)) j) (λw=>w.length=16/\∀(j:Nat)x,w[j]? =ab x->x.toNat=wd (Yi (l.map yaj)) j) (i:=(l,(0:Int),([]:yL yV))) ⟨_,rfl,rfl,λj x g=>by simp at g⟩ (by omega) (by
  rintro k _ hk ⟨w,rfl,m,f⟩;left;obtain⟨x0,X,_⟩:=Zi (l:=l) (k:=4*k) (by omega);obtain⟨x1,Y,_⟩:=Zi (l:=l) (k:=4*k+1) (by omega);obtain⟨x2,Z,_⟩:=Zi (l:=l) (k:=4*k+2) (by omega);obtain⟨x3,q3,_⟩:=Zi (l:=l) (k:=4*k+3) (by omega);unfold XG;dsimp only;rw[ZY (z:=4*(k:Int)) (by omega) (by omega),ZY (z:=4*(k:Int)+1) (by omega) (by omega),ZY (z:=4*(k:Int)+2) (by omega) (by omega),ZY (z:=4*(k:Int)+3) (by omega) (by omega)]
  rw[yW (yY (by omega)),show 4*(k:Int)=((4*k:Nat):Int) by omega,show((4*k:Nat):Int)+1=((4*k+1:Nat):Int) by omega,show((4*k:Nat):Int)+2=((4*k+2:Nat):Int) by omega,show((4*k:Nat):Int)+3=((4*k+3:Nat):Int) by omega,
   Zl X,ya,Zl Y,ya,Zl Z,ya,Zl q3,ya,yW (ZT (by omega) (by omega)),Zp (by omega)]
  refine⟨_,rfl,_,rfl,by rw[yl,ydb];omega,A w _ ?_ f⟩;have I:∀(k:Nat)(x:yB),l[k]? =ab x->(l.map yaj)[k]? =ab x.toNat:=λk x g=>by rw[yak,g];rfl
  have M:=KJ k (l.map yaj) _ _ _ _ (I _ _ X) (I _ _ Y) (I _ _ Z) (I _ _ q3);rw[ZOI,m];have b0:=x0.toNat_lt;have b1:=x1.toNat_lt;have b2:=x2.toNat_lt;have b3:=x3.toNat_lt;exact(ZCc _ (by omega) M (by omega)).symm) (by
  rintro _ ⟨w,rfl,m,f⟩;unfold XG;dsimp only;rw[yX (cZ (by omega))];exact⟨_,rfl,m,f⟩)
 rw[g1,ya]
 obtain⟨w1,k1,k2,k3⟩:=Xi (step:=XH yD) 48 (λk s=>∃w,s=(((16+k:Nat):Int),w)/\w.length=16+k/\∀(j:Nat)x,w[j]? =ab x->x.toNat=wd (Yi (l.map yaj)) j) (λw=>w.length=64/\∀(j:Nat)x,w[j]? =ab x->x.toNat=wd (Yi (l.map yaj)) j) (i:=((16:Int),w0)) ⟨_,rfl,g2,g3⟩ (by omega) (by
  rintro k _ hk ⟨w,rfl,m,f⟩;left;obtain⟨Q,B,_⟩:=Zi (l:=w) (k:=k+1) (by omega);obtain⟨R,E,_⟩:=Zi (l:=w) (k:=k+14) (by omega);obtain⟨e3,F,_⟩:=Zi (l:=w) (k:=k) (by omega);obtain⟨e4,G,_⟩:=Zi (l:=w) (k:=k+9) (by omega);obtain⟨o1,S,p1⟩:=kJ Q 7 25 rfl (by omega) (z:=7) rfl;obtain⟨o2,T,p2⟩:=kJ Q 18 14 rfl (by omega) (z:=18) rfl;obtain⟨o3,U,p3⟩:=kJ R 17 15 rfl (by omega) (z:=17) rfl;obtain⟨o4,W,p4⟩:=kJ R 19 13 rfl (by omega) (z:=19) rfl;unfold XH;dsimp only;rw[yW (yY (by omega)),ZY (z:=((16+k:Nat):Int) - 15) (by omega) (by omega),ZY (z:=((16+k:Nat):Int) - 2) (by omega) (by omega),ZY (z:=((16+k:Nat):Int) - 16) (by omega) (by omega),ZY (z:=((16+k:Nat):Int) - 7) (by omega) (by omega)];rw[show((16+k:Nat):Int) - 15=((k+1:Nat):Int) by omega,show((16+k:Nat):Int) - 2=((k+14:Nat):Int) by omega,show((16+k:Nat):Int) - 16=(k:Int) by omega,show((16+k:Nat):Int) - 7=((k+9:Nat):Int) by omega]
  rw[Zl B,ya,Zl E,ya,S,ya,T,ya,U,ya,W,ya,Zl F,ya,Zl G,ya,
   yW (ZT (by omega) (by omega)),Zp (by omega)]
  refine⟨_,rfl,_,rfl,by rw[yl,ydb];omega,A w _ ?_ f⟩;have hn:=KG (Yi (l.map yaj)) k;rw[<-f _ _ B, <-f _ _ E, <-f _ _ F, <-f _ _ G]at hn;rw[m,Nat.add_comm 16 k,hn,fy,fy,fy,ZPt Q p1 p2,ZPu R p3 p4];exact ZPz ..) (by
  rintro _ ⟨w,rfl,m,f⟩;unfold XH;dsimp only;rw[yX (cZ (by omega))];exact⟨_,rfl,m,f⟩)
 rw[k1,ya];exact⟨_,rfl,k2,k3⟩
theorem ZJS{st:yL yV}{l:yL yB}(hs:st.length=8)(h:l.length=64):∃o,VT yD st l=ab o/\o.map yam=fZ (st.map yam) (Yi (l.map yaj)):=by
 unfold VT;obtain⟨w,hw,hwl,hwv⟩:=ZJR h;obtain⟨k,hk,hkv⟩:∃k,OA yD=ab k/\k.map yam=ks:=⟨_,rfl,rfl⟩;have hkl:k.length=64:=by rw[<-yaa (f:=yam),hkv];rfl
 generalize hws:Yi (l.map yaj)=S at hwv;rw[hw,ya,hk,ya,yW (ZT (by omega) (by omega))]
 obtain⟨x,g1,u,v,rfl,g2,g3⟩:=Xi (step:=XI yD) 64 (λi s=>∃u v,s=(st,w,k,(i:Int),u,v)/\v.length=8/\v.map yam=rs S (st.map yam) i) (λx=>∃u v,x=(st,u,v)/\v.length=8/\v.map yam=rs S (st.map yam) 64) (i:=(st,w,k,(0:Int),([()]:yL Unit),st)) ⟨_,_,rfl,hs,rfl⟩ (by omega) (by
  rintro i _ hi ⟨u,v,rfl,Z,Q⟩;left
  match v,Z,Q with
  |[m,E,F,G,g,y,A,B],_,Q=>
   obtain⟨U,I,_⟩:=Zi (l:=k) (k:=i) (by omega);obtain⟨W,M,_⟩:=Zi (l:=w) (k:=i) (by omega);obtain⟨o1,ho1,p1⟩:=kJ g 6 26 rfl (by omega) (z:=6) rfl;obtain⟨o2,ho2,p2⟩:=kJ g 11 21 rfl (by omega) (z:=11) rfl;obtain⟨o3,ho3,p3⟩:=kJ g 25 7 rfl (by omega) (z:=25) rfl;obtain⟨o4,ho4,p4⟩:=kJ m 2 30 rfl (by omega) (z:=2) rfl;obtain⟨o5,ho5,p5⟩:=kJ m 13 19 rfl (by omega) (z:=13) rfl;obtain⟨o6,ho6,p6⟩:=kJ m 22 10 rfl (by omega) (z:=22) rfl;have X:∀n:Nat,n < 8->bi (n:Int) ([m,E,F,G,g,y,A,B]:yL yV).length=ae:=λn hn=>Wy (by omega) (by simp;omega);have b0:=X 0 (by omega);have b1:=X 1 (by omega);have b2:=X 2 (by omega);have b3:=X 3 (by omega);have b4:=X 4 (by omega);have b5:=X 5 (by omega);have b6:=X 6 (by omega);have b7:=X 7 (by omega);unfold XI;dsimp only;generalize ZK yD=R at ho1 ho2 ho3 ho4 ho5 ho6 ⊢;rw[yW (yY (by omega))];have c0:bi 0 ([m,E,F,G,g,y,A,B]:yL yV).length=ae:=b0;have c1:bi 1 ([m,E,F,G,g,y,A,B]:yL yV).length=ae:=b1;have c2:bi 2 ([m,E,F,G,g,y,A,B]:yL yV).length=ae:=b2;have c3:bi 3 ([m,E,F,G,g,y,A,B]:yL yV).length=ae:=b3;have c4:bi 4 ([m,E,F,G,g,y,A,B]:yL yV).length=ae:=b4;have c5:bi 5 ([m,E,F,G,g,y,A,B]:yL yV).length=ae:=b5;have c6:bi 6 ([m,E,F,G,g,y,A,B]:yL yV).length=ae:=b6;have c7:bi 7 ([m,E,F,G,g,y,A,B]:yL yV).length=ae:=b7;simp only[c0,c1,c2,c3,c4,c5,c6,c7,if_true,yav,yaq,ya,ho1,ho2,ho3,ho4,ho5,ho6,Zl I,Zl M];rw[Zp (by omega)];refine⟨_,rfl,_,_,rfl,rfl, ?_⟩;rw[show rs S (st.map yam) (i+1)=oB (rs S (st.map yam) i) (ks.getD i 0) (wd S i) from rfl, <-Q]
   have hk1:ks.getD i 0=U.toNat:=by
    rw[<-hkv,ycu,yak,I];rfl
   rw[hk1, <-hwv i W M];simp only[List.map_cons,List.map_nil];rw[KI]
   have kt:((B+((o1^^^o2)^^^o3))+((g&&&y)^^^((4294967295^^^g)&&&A))+U+W).toNat=lo (yw (yw (yw (yw B.toNat (S1 g.toNat)) (ch g.toNat y.toNat A.toNat)) U.toNat) W.toNat):=by
    rw[fy,fy,fy,fy,ZPw g p1 p2 p3,ZQe];exact ZPA ..
   have ka:((B+((o1^^^o2)^^^o3))+((g&&&y)^^^((4294967295^^^g)&&&A))+U+W+((o4^^^o5)^^^o6)+(((m&&&E)^^^(m&&&F))^^^(E&&&F))).toNat=lo (yw (yw (yw (yw (yw (yw B.toNat (S1 g.toNat)) (ch g.toNat y.toNat A.toNat)) U.toNat) W.toNat) (S0 m.toNat)) (mj m.toNat E.toNat F.toNat)):=by
    rw[fy,fy,kt,ZPv m p4 p5 p6,ZQf];exact ZPB ..
   have ke:(G+(((B+((o1^^^o2)^^^o3))+((g&&&y)^^^((4294967295^^^g)&&&A)))+U+W)).toNat=lo (yw G.toNat (yw (yw (yw (yw B.toNat (S1 g.toNat)) (ch g.toNat y.toNat A.toNat)) U.toNat) W.toNat)):=by
    rw[fy,kt];exact ZPC ..
   rw[ka,ke]) (by
  rintro _ ⟨u,v,rfl,Z,Q⟩;unfold XI;dsimp only;rw[yX (cZ (by omega))];exact⟨_,rfl,_,_,rfl,Z,Q⟩)
 rw[g1,ya];have hml:(fZ (st.map yam) S).length=8:=oC (by rw[yaa];exact hs)
 obtain⟨x,q1,q2⟩:=Xi (step:=XJ yD) 8 (λi s=>∃e,s=(st,(i:Int),u,e)/\e.length=8/\∀(j:Nat)x,e[j]? =ab x->if j < i then(fZ (st.map yam) S)[j]? =ab x.toNat else(rs S (st.map yam) 64)[j]? =ab x.toNat) (λx=>x.2.map yam=fZ (st.map yam) S) (i:=(st,(0:Int),u,v)) ⟨_,rfl,g2,λj x T=>by
  rw[yX (by omega), <-g3,yak,T];rfl⟩ (by omega) (by
  rintro i _ hi ⟨e,rfl,Z,Q⟩;left;obtain⟨U,I,_⟩:=Zi (l:=e) (k:=i) (by omega);obtain⟨W,M,_⟩:=Zi (l:=st) (k:=i) (by omega);unfold XJ;dsimp only;rw[yW (yY (by omega)),yW (Wy (by omega) (by omega)),yau,I,ya,Zl M,ya,yW (Wy (by omega) (by omega)),ya,Zp (by omega)];refine⟨_,rfl,_,rfl,by rw[List.length_set];exact Z, ?_⟩;intro j x T;by_cases hji:j=i
  .subst hji;rw[List.getElem?_set_self (by omega)]at T;cases T;rw[yW (by omega),fy];have Y:=Q _ _ I;rw[yX (by omega)]at Y;unfold fZ;rw[List.getElem?_zipWith,Y,yak,M];rfl
  .rw[List.getElem?_set_ne (Ne.symm hji)]at T;have Y:=Q j x T;by_cases hj:j < i
   .rw[yW hj]at Y;rw[yW (by omega)];exact Y
   .rw[yX hj]at Y;rw[yX (by omega)];exact Y) (by
  rintro _ ⟨e,rfl,Z,Q⟩;unfold XJ;dsimp only;rw[yX (cZ (by omega))];refine⟨_,rfl, ?_⟩;dsimp only;apply List.ext_getElem?;intro j;rw[yak];by_cases hj:j < 8
  .obtain⟨x,T,_⟩:=Zi (l:=e) (k:=j) (by omega);have:=Q j x T;rw[yW hj]at this;rw[T,this];rfl
  .rw[ybk (by omega),ybk (by omega)];rfl)
 dsimp only;rw[q1,ya];exact⟨_,rfl,q2⟩
def qw(n:Nat):yL yB:=(ij n).map yar
theorem OD(n:yU){k:Nat}(f:k < 8):(qw n.toNat)[k]? =ab (w8 ((ZE n (56 - 8*k)).toNat:Int)):=by
 have h:∀m:Nat,w8 ((ZE n m).toNat:Int)=yar (n.toNat / 2 ^ m % 256):=by
  intro m;unfold w8 ZE;rw[ybe,yap (Nat.lt_of_le_of_lt (Nat.div_le_self _ _) (ybm n))];congr 1
 rw[h]
 match k,f with
 |0,_=>rfl
 |1,_=>rfl
 |2,_=>rfl
 |3,_=>rfl
 |4,_=>rfl
 |5,_=>rfl
 |6,_=>rfl
 |7,_=>
  show ab (yar (n.toNat % 256))=ab (yar (n.toNat / 2 ^ 0 % 256));rw[Nat.pow_zero,Nat.div_one]
theorem ZOJ{l:yL yB}(h:l.length<=4294967296):VB yD l=ab (l++([128]:yL yB)++yx (zs l.length) 0++qw (8*l.length)):=by
 unfold VB;have y:l.length % 64 < 64:=Nat.mod_lt _ (by omega);rw[yW (ZT (by omega) (by omega)),yW (ZT (by omega) (by omega))]
 obtain⟨x,A,B⟩:=Xi (step:=Xv yD) (zs l.length) (λj s=>s=(l,l++([128]:yL yB)++yx j 0)) (λx=>x=(l,l++([128]:yL yB)++yx (zs l.length) 0)) (i:=(l,l++([128]:yL yB))) (by simp) (by unfold zs;omega) (by
  rintro j _ E rfl;left;unfold Xv;dsimp only;have f:(l++([128]:yL yB)++yx j 0).length=l.length+1+j:=by rw[yl,yl,yda];rfl
  have g:Int.tmod ((l++([128]:yL yB)++yx j 0).length:Int) 64=(((l.length+1+j) % 64:Nat):Int):=by rw[f];rfl
  rw[g];unfold zs at E;rw[yW (by simp;omega),yW (ZT (by omega) (by omega))];exact⟨_,rfl,by rw[yab,List.replicate_succ']⟩) (by
  rintro _ rfl;unfold Xv;dsimp only;have f:(l++([128]:yL yB)++yx (zs l.length) 0).length=l.length+1+zs l.length:=by rw[yl,yl,yda];rfl
  have g:Int.tmod ((l++([128]:yL yB)++yx (zs l.length) 0).length:Int) 64=(((l.length+1+zs l.length) % 64:Nat):Int):=by rw[f];rfl
  rw[g,yX (by simp;unfold zs;omega)];exact⟨_,rfl,rfl⟩)
 rw[A,ya,B];dsimp only;generalize F:l++([128]:yL yB)++yx (zs l.length) 0=p
 have G:p.length<=l.length+65:=by
  rw[<-F,yl,yl,yda];unfold zs;simp;omega
 have m:(8*dj (l.length:Int)).toNat=8*l.length:=by
  rw[UInt64.toNat_mul];unfold dj;rw[ybe];show 8*((((l.length:Nat):Int) % 18446744073709551616).toNat % 2 ^ 64) % 2 ^ 64=_;omega
 generalize R:8*dj (l.length:Int)=N at m
 obtain⟨x,I,M⟩:=Xi (step:=Xw yD) 8 (λk s=>s=(N,56 - 8*(k:Int),p++(qw N.toNat).take k)) (λx=>x=p++qw N.toNat) (i:=(N,(56:Int),p)) (by simp) (by omega) (by
  rintro k _ Q rfl;left;unfold Xw;dsimp only;rw[yW (yY (by omega)),yW (yY (by omega)),yW (ZT (by simp;omega) (by simp;omega)),ZY (z:=56 - 8*(k:Int) - 8) (by omega) (by omega)];refine⟨_,rfl, ?_⟩;rw[Wu (OD N Q),show min (56 - 8*(k:Int)).toNat 64=56 - 8*k by omega,yab,show 56 - 8*((k+1:Nat):Int)=56 - 8*(k:Int) - 8 by omega]) (by
  rintro _ rfl;unfold Xw;dsimp only;rw[yX (cZ (by omega))];exact⟨_,rfl,rfl⟩)
 rw[I,ya,M,m]
theorem ZOK{l:yL yB}(h:l.length<=4294967296):W2 yD l=ab (jP l):=by
 unfold W2;obtain⟨f,hf,y⟩:∃f,NX yD=ab f/\f.map yam=iJ:=⟨_,rfl,rfl⟩;have Q:f.length=8:=by rw[<-yaa (f:=yam),y];rfl
 rw[ZOJ h,ya,hf,ya];generalize hE:l++([128]:yL yB)++yx (zs l.length) 0++qw (8*l.length)=E
 have A:E.map yaj=jQ l:=by
  unfold jQ;rw[<-hE];simp only[yat,List.map_replicate,List.map_cons,List.map_nil,qw,List.map_map,yab,List.singleton_append]
  have:ij (8*l.length)=(ij (8*l.length)).map (yaj ∘ yar):=by
   simp[ij]
  rw[<-this];simp
 have hEl:E.length=64*((l.length+72) / 64):=by rw[<-yaa (f:=yaj),A,Zvv]
 generalize hz:dn=z;have R:z.length=32:=by rw[<-hz];rfl
 obtain⟨x,h1,v,rfl,g1,Z⟩:=Xi (step:=XW yD) ((l.length+72) / 64) (λc s=>∃d,s=(E,d,((64*c:Nat):Int),z)/\d.length=8/\d.map yam=fm c (E.map yaj) iJ) (λx=>∃v,x=(v,z)/\v.length=8/\v.map yam=fm ((l.length+72) / 64) (E.map yaj) iJ) (i:=(E,f,(0:Int),z)) ⟨_,rfl,Q,y⟩ (by omega) (by
  rintro c _ hc ⟨d,rfl,I,g⟩;left;unfold XW;dsimp only;obtain⟨m,S,B⟩:=ZJS (st:=d) (l:=(E.take (64*c+64)).drop (64*c)) I (by rw[List.length_drop,yac];omega);rw[yW (yY (by omega)),ZY (z:=((64*c:Nat):Int)+64) (by omega) (by omega),yW (by simp only[dL,Bool.and_eq_true,yP];omega),show(((64*c:Nat):Int)+64).toNat=64*c+64 by omega,yau,S,ya];refine⟨_,rfl,_,by rw[show((64*c:Nat):Int)+64=((64*(c+1):Nat):Int) by omega], ?_, ?_⟩
  .rw[<-yaa (f:=yam),B];exact oC (by rw[yaa];exact I)
  .rw[B,xz,g, <-List.map_drop, <-List.map_take];congr 3;rw[List.drop_take];congr 1;omega) (by
  rintro _ ⟨d,rfl,I,g⟩;unfold XW;dsimp only;rw[yX (cZ (by omega))];exact⟨_,rfl,_,rfl,I,g⟩)
 rw[h1,ya];dsimp only;generalize T:fm ((l.length+72) / 64) (E.map yaj) iJ=U at Z
 obtain⟨x,k1,o,rfl,k2,k3⟩:=Xi (step:=XX yD) 32 (λi s=>∃o,s=(v,(i:Int),z,o)/\o.length=32/\∀(j:Nat),j < i->o[j]? =ab (Go.Sha.mR U j)) (λx=>∃o,x=(z,o)/\o.length=32/\∀(j:Nat),j < 32->o[j]? =ab (Go.Sha.mR U j)) (i:=(v,(0:Int),z,z)) ⟨_,rfl,R,λj M=>by omega⟩ (by omega) (by
  rintro i _ hi ⟨o,rfl,W,g⟩;left;unfold XX;dsimp only;have e1:Int.tdiv (i:Int) 4=((i / 4:Nat):Int):=rfl;have e2:Int.tmod (i:Int) 4=((i % 4:Nat):Int):=rfl;obtain⟨X,F,_⟩:=Zi (l:=v) (k:=i / 4) (by omega);obtain⟨x2,Y,_⟩:=Zi (l:=o) (k:=i) (by omega);rw[yW (yY (by omega)),e1,e2,ZY (z:=((i / 4:Nat):Int)) (by omega) (by omega),ZY (z:=8*((i % 4:Nat):Int)) (by omega) (by omega),ZY (z:=24 - 8*((i % 4:Nat):Int)) (by omega) (by omega),Zl F,ya,yW (yY (by omega)),yW (Wy (by omega) (by omega)),yau,Y,ya,Zp (by omega)];refine⟨_,rfl,_,rfl,by rw[List.length_set];exact W, ?_⟩;intro j M;by_cases G:j=i
  .subst G;rw[List.getElem?_set_self (by omega)];congr 1;unfold Go.Sha.mR
   have hx:U.getD (j / 4) 0=X.toNat:=by
    rw[<-Z,ycu,yak,F];rfl
   rw[hx,show min (24 - 8*((j % 4:Nat):Int)).toNat 32=24 - 8*(j % 4) by omega,qj];unfold w8;have e3:∀m:Nat,(((m:Nat):Int) % 256).toNat=m % 256:=λm=>by omega
   rw[e3,show Nat.shiftRight X.toNat (24 - 8*(j % 4))=X.toNat >>> (24 - 8*(j % 4)) from rfl,Nat.shiftRight_eq_div_pow]
   exact UInt8.toNat_inj.1 (by simp)
  .rw[List.getElem?_set_ne (Ne.symm G)];exact g j (by omega)) (by
  rintro _ ⟨o,rfl,W,g⟩;unfold XX;dsimp only;rw[yX (cZ (by omega))];exact⟨_,rfl,_,rfl,W,g⟩)
 rw[k1,ya,KL, <-A,T];congr 1;apply List.ext_getElem?;intro j;by_cases M:j < 32
 .rw[k3 j M,yak,List.getElem?_range M];rfl
 .rw[ybk (by show o.length<=j;omega),ybk (by simp;omega)]
noncomputable def Wv(F:Nat)(a0:yL yB):yO aQa:=if ag (a0.length<=4294967296)=ae then ab (jP a0) else W2 F a0
noncomputable def Zn9(F:Nat):Fs yb:={ OC F with M:=λx=>Wv F x}
noncomputable def Zhp:Fs yb:=Zn9 yD
theorem Zoa:Zhp.Ok:=ov (s:=OC yD) Zm9 λx=>by
 show Wv yD x=W2 yD x;unfold Wv;split
 .rename_i h;exact(ZOK (yF h)).symm
 .rfl
theorem ZJT{l:yL yB}(h:l.length<=4294967296):Wv yD l=ab (jP l):=yW (yY h)
end Go.Proofs.YtcbhhaigilifgaaGreat
end
section
set_option maxRecDepth 4000
namespace Go.Proofs.YtcbhhaigilifgaaGreat
open Go Go.Ev
noncomputable section
def Xg(F:Nat)(s:(yU×Int×aQa×aQa)):yO ((yU×Int×aQa×aQa)⊕(aQa×aQa)):=
 if(ag (s.2.1 >= 0))=ae then
  if(ag (0<=s.2.1))=ae then
   let a:yB:=w8 ((ZE s.1 (min s.2.1.toNat 64)).toNat:Int)
   if(cf s.2.2.2.length 1 1)=ae then
    ab (.inl (s.1,wi (s.2.1 - 8),s.2.2.1,s.2.2.2++([a]:yL yB)))
   else
   ad
  else
  ad
 else
 ab (.inr (s.2.2.1,s.2.2.2))
def Zb0:Lp:=⟨[(0,.v .u64),(3,.own 1 .u8),(4,.v yI)],[.log .u8 5,.log .u8 5],[.u64,yI,aQb,aQb],[⟨.exit 0,[(3,.own 1 .u8)],[.log .u8 5,.log .u8 5],[aQb,aQb]⟩],Zd (Xg yD) yD⟩
theorem Zhq:Zb0.bt yb 171 0:=Zt { own:=[2,3,9,15,16]} [] [] trivial
def W6(F:Nat)(a0:yU):yO (aQa):=
 (Zd (Xg F) F (a0,56,[],[])).bind λa=>
 ab a.2
def ZcG:Fs yb:=⟨171,[.v .u64],[],[.u64],[⟨.ret,[(0,.own 0 .u8)],[.log .u8 5],[aQb]⟩],λx=>W6 yD x⟩
theorem ZjU:ZcG.Ok:=aQ { own:=[2,3,9,15,16]} [(0,Zb0)] [] trivial ⟨Zhq,ao⟩
def YK(F:Nat)(s:(aQB×Int×aQa×aQa)):yO ((aQB×Int×aQa×aQa)⊕(aQa×aQa)):=
 if(ag (s.2.1 < (s.1.length:Int)))=ae then
  (idx s.1 s.2.1).bind λa=>
  (Qs F (dj (a.length:Int))).bind λb=>
  if(cf s.2.2.2.length b.length 1)=ae then
   (idx s.1 s.2.1).bind λc=>
   if(cf ((s.2.2.2++b).length) c.length 1)=ae then
    ab (.inl (s.1,wi (s.2.1+1),s.2.2.1,(s.2.2.2++b)++c))
   else
   ad
  else
  ad
 else
 ab (.inr (s.2.2.1,s.2.2.2))
def ZfG:Lp:=⟨[(1,.v aQA),(4,.aj 0 []),(5,.own 1 .u8),(6,.v yI)],zJ,[aQA,yI,aQe,aQb],[⟨.exit 0,[(4,.aj 0 []),(5,.own 1 .u8)],zJ,[aQe,aQb]⟩],Zd (YK yD) yD⟩
def ZQg:HI:={ own:=[5,11,14,28,30,31,36],still:=[10,26,37]}
theorem ZkU:ZfG.bt yb 112 0:=Zt ZQg [] [ZfE] ⟨Zm7,ao⟩
def Q4(F:Nat)(a0:ByteArray)(a1:aQB):yO (aQa):=
 (W6 F (dj (a0.size:Int))).bind λa=>
 if(ag (a0.size<=maxLen))=ae then
  if(cf a.length a0.data.toList.length 1)=ae then
   (Zd (YK F) F (a1,0,dn,a++a0.data.toList)).bind λb=>
   (Wv F b.2).bind λc=>
   ab c
  else
  ad
 else
 ad
def Zhr:Fs yb:=⟨112,[.v .str,.v aQA],[],[.str,aQA],(zN aQe),λx=>Q4 yD x.1 x.2⟩
theorem Zob:Zhr.Ok:=aQ ZQg [(0,ZfG)] [ZcG,Zhp] ⟨ZjU,Zoa,ao⟩ ⟨ZkU,ao⟩
def Ww(F:Nat)(f:Int->yO (aQa))(a0:Int):yO (aQa):=
 if(ag (a0 < 128))=ae then
  ab [w8 a0]
 else
 (f (wi (Int.tdiv a0 128))).bind λa=>
 if(cf 1 a.length 1)=ae then
  let b:aQa:=([(w8 (Int.tmod a0 128))+128]:yL yB)++a
  ab b
 else
 ad
def Qt(f:Int->yO (aQa)):Fs yb:=⟨207,[.v yI],[],[yI],(zN aQb),λx=>f x⟩
def ZQ5:HI:={ own:=[3,13,14,18],still:=[2,16]}
theorem ZlQ(f:Int->yO (aQa))(g:(Qt f).Ok):(Qt (Ww yD f)).Ok:=aQ ZQ5 [] [(Qt f)] ⟨g,ao⟩
def VC(F k:Nat):Int->yO (aQa):=Nat.rec (motive:=λ_=>Int->yO (aQa)) (λ_=>ad) (λ_ f=>Ww F f) k
theorem ZeR:∀k,(Qt (VC yD k)).Ok
 |0=>λx o h=>by cases (show ad=ab o from h)
 |k+1=>ZlQ _ (ZeR k)
def Q5(F:Nat)(a0:Int):yO (aQa):=VC F 12 a0
def OE:Fs yb:=⟨207,[.v yI],[],[yI],(zN aQb),λx=>Q5 yD x⟩
theorem ZfH:OE.Ok:=ZeR 12
def Z2(F:Nat)(a0:aQa)(a1:Int):yO (aQa):=
 if(cf 0 a0.length 1)=ae then
  if(ag (a1 >= 0))=ae then
   (Q5 F a1).bind λa=>
   if(cf a0.length a.length 1)=ae then
    ab (a0++a)
   else
   ad
  else
  ab a0
 else
 ad
def X6:Fs yb:=⟨173,[.v aQb,.v yI],[],[aQb,yI],(zN aQb),λx=>Z2 yD x.1 x.2⟩
def ZQ6:HI:={ own:=[5,6,8,11,14],still:=[4,12]}
theorem WI:X6.Ok:=aQ ZQ6 [] [OE] ⟨ZfH,ao⟩
def Yu(F:Nat)(s:(Int×aQa×aQa)):yO ((Int×aQa×aQa)⊕(aQa×aQa)):=
 if(ag (s.1 < 32))=ae then
  if(bi s.1 32)=ae then
   (s.2.1[s.1.toNat]?).bind λa=>
   if(cf s.2.2.length 1 1)=ae then
    ab (.inl (wi (s.1+1),s.2.1,s.2.2++([a]:yL yB)))
   else
   ad
  else
  ad
 else
 ab (.inr (s.2.1,s.2.2))
def Zb1:Lp:=⟨[(3,.aj 0 []),(5,.own 1 .u8),(6,.v yI)],zJ,[yI,aQe,aQb],[⟨.exit 0,[(5,.own 1 .u8)],zJ,[aQe,aQb]⟩],Zd (Yu yD) yD⟩
def ZQh:HI:={ own:=[5,7,9,14,19],still:=[4]}
theorem Zhs:Zb1.bt yb 174 0:=Zt ZQh [] [] trivial
def W7(F:Nat)(a0:aQa)(a1:aQa):yO (aQa):=
 if(cf 0 a0.length 1)=ae then
  (Zd (Yu F) F (0,a1,a0)).bind λa=>
  ab a.2
 else
 ad
def ZcH:Fs yb:=⟨174,[.v aQb,.v aQe],[],[aQb,aQe],(zN aQb),λx=>W7 yD x.1 x.2⟩
theorem ZjV:ZcH.Ok:=aQ ZQh [(0,Zb1)] [] trivial ⟨Zhs,ao⟩
def OF(F:Nat)(a0:aQa)(a1:Int):yO (aQa):=
 if(cf 0 a0.length 1)=ae then
  if(ag (a1 >= 0))=ae then
   (Q5 F a1).bind λa=>
   if(cf a0.length a.length 1)=ae then
    ab (a0++a)
   else
   ad
  else
  ab a0
 else
 ad
def Zdk:Fs yb:=⟨173,[.v aQb,.v yI],[],[aQb,yI],[⟨.ret,[(0,.own 0 .u8)],[.log .u8 5],[aQb]⟩],λx=>OF yD x.1 x.2⟩
def ZQ7:HI:={ own:=[4,5,6,8,11,14,15],still:=[12]}
theorem ZkV:Zdk.Ok:=aQ ZQ7 [] [OE] ⟨ZfH,ao⟩
def WQ(F:Nat)(a0:aQa)(a1:aQa):yO (aQa):=
 (OF F a0 (a1.length:Int)).bind λa=>
 if(cf a.length a1.length 1)=ae then
  ab (a++a1)
 else
 ad
def Zb2:Fs yb:=⟨175,[.v aQb,.v aQb],[],[aQb,aQb],(zN aQb),λx=>WQ yD x.1 x.2⟩
def ZQ8:HI:={ own:=[5,9,10,12],still:=[4,6,8]}
theorem ZiZ:Zb2.Ok:=aQ ZQ8 [] [Zdk] ⟨ZkV,ao⟩
def YB(F:Nat)(s:(yU×Int×aQa)):yO ((yU×Int×aQa)⊕aQa):=
 if(ag (s.2.1 >= 0))=ae then
  let a:yU:=ZE s.1 (min ((dj (wi (8*s.2.1))).toNat:Int).toNat 64)
  if(cf s.2.2.length 1 1)=ae then
   ab (.inl (s.1,wi (s.2.1 - 1),s.2.2++([w8 (a.toNat:Int)]:yL yB)))
  else
  ad
 else
 ab (.inr s.2.2)
def ZcI:Lp:=⟨[(1,.v .u64),(5,.own 0 .u8),(6,.v yI)],[.log .u8 5],[.u64,yI,aQb],[⟨.exit 0,[(5,.own 0 .u8)],[.log .u8 5],[aQb]⟩],Zd (YB yD) yD⟩
def ZQi:HI:={ own:=[5,7,9,14,22],still:=[4]}
theorem ZhJ:ZcI.bt yb 208 0:=Zt ZQi [] [] trivial
def Wn(F:Nat)(a0:aQa)(a1:yU):yO (aQa):=
 if(cf 0 a0.length 1)=ae then
  (Zd (YB F) F (a1,7,a0)).bind λa=>
  ab a
 else
 ad
def QO:Fs yb:=⟨208,[.v aQb,.v .u64],[],[aQb,.u64],(zN aQb),λx=>Wn yD x.1 x.2⟩
theorem ZcJ:QO.Ok:=aQ ZQi [(0,ZcI)] [] trivial ⟨ZhJ,ao⟩
def YW(F:Nat):(aQa×Int×Int×ZC×ZW)->yO ((aQa×Int×Int×ZC×ZW)⊕(aQa×Int×ZC×ZW))
 |(c,d,a,e,b)=>
 if(ag (a < (b.1.length:Int)))=ae then
  (idx b.1 a).bind λf=>
  (Wn F c f).bind λg=>
  ab (.inl (g,d,wi (a+1),e,b))
 else
 ab (.inr (c,d,e,b))
def Zdl:Lp:=⟨[(1,.aj 0 []),(3,.v aQb),(4,.v yI),(5,.aj 1 []),(6,.v yI)],[.var (.v Zv) ae,.var (.v ZB) ae],[aQb,yI,yI,Zv,ZB],[⟨.exit 2,[(1,.aj 0 []),(3,.v aQb),(4,.v yI),(5,.aj 1 [])],[.var (.v Zv) ae,.var (.v ZB) ae],[aQb,yI,Zv,ZB]⟩],Zd (YW yD) yD⟩
def OG:HI:={ still:=[2,7,12,26,29,38,43,45,47,49,51,53,55]}
theorem Zi0:Zdl.bt yb 176 1:=Zt OG [] [QO] ⟨ZcJ,ao⟩
def XK(F:Nat)(s:(aQa×Int×ZC)):yO ((aQa×Int×ZC)⊕(aQa×ZC)):=
 if(ag (s.2.1 < (s.2.2.length:Int)))=ae then
  (idx s.2.2 s.2.1).bind λa=>
  (Z2 F s.1 (a.1.length:Int)).bind λb=>
  (Zd (YW F) F (b,s.2.1,0,s.2.2,a)).bind λc=>
  (Z2 F c.1 c.2.2.2.2.1).bind λd=>
  (Z2 F d c.2.2.2.2.2.1).bind λe=>
  (Wn F e c.2.2.2.2.2.2).bind λf=>
  ab (.inl (f,wi (c.2.1+1),c.2.2.1))
 else
 ab (.inr (s.1,s.2.2))
def Zdm:Lp:=⟨[(1,.aj 0 []),(3,.v aQb),(4,.v yI)],[.var (.v Zv) ae],[aQb,yI,Zv],[⟨.exit 0,[(3,.v aQb)],[.var (.v Zv) ae],[aQb,Zv]⟩],Zd (XK yD) yD⟩
theorem Zi1:Zdm.bt yb 176 0:=Zt OG [(1,Zdl)] [X6,QO] ⟨WI,ZcJ,ao⟩ ⟨Zi0,ao⟩
def VU(F:Nat)(a0:ZC):yO (aQa):=
 (Y5 F a0).bind λa=>
 if(!a)=ae then
  ab []
 else
 (Z2 F [] (a0.length:Int)).bind λb=>
 (Zd (XK F) F (b,0,a0)).bind λc=>
 ab c.1
def ZeS:Fs yb:=⟨176,[.v Zv],[],[Zv],(zN aQb),λx=>VU yD x⟩
theorem ZlR:ZeS.Ok:=aQ OG [(0,Zdm)] [Vz,X6] ⟨QN,WI,ao⟩ ⟨Zi1,ao⟩
def YX(F:Nat)(s:(aQa×Int×Tx)):yO ((aQa×Int×Tx)⊕(aQa×Tx)):=
 if(ag (s.2.1 < (s.2.2.1.length:Int)))=ae then
  (idx s.2.2.1 s.2.1).bind λa=>
  (W7 F s.1 a.1.1).bind λb=>
  (idx s.2.2.1 s.2.1).bind λc=>
  (Z2 F b c.1.2).bind λd=>
  ab (.inl (d,wi (s.2.1+1),s.2.2))
 else
 ab (.inr (s.1,s.2.2))
def Zdn:Lp:=⟨[(1,.aj 0 []),(3,.v aQb),(4,.v yI)],[.var (.v aJ) ae],[aQb,yI,aJ],[⟨.exit 0,[(1,.aj 0 []),(3,.v aQb)],[.var (.v aJ) ae],[aQb,aJ]⟩],Zd (YX yD) yD⟩
def OH:HI:={ still:=[2,8,17,24,26,33,35,38,47,53,55,61,62,64,66]}
theorem Zi2:Zdn.bt yb 113 0:=Zt OH [] [ZcH,X6] ⟨ZjV,WI,ao⟩
def YY(F:Nat)(s:(aQa×Int×Tx)):yO ((aQa×Int×Tx)⊕(aQa×Tx)):=
 if(ag (s.2.1 < (s.2.2.2.1.length:Int)))=ae then
  (idx s.2.2.2.1 s.2.1).bind λa=>
  (Z2 F s.1 a.1).bind λb=>
  (idx s.2.2.2.1 s.2.1).bind λc=>
  (VU F c.2).bind λd=>
  (WQ F b d).bind λe=>
  ab (.inl (e,wi (s.2.1+1),s.2.2))
 else
 ab (.inr (s.1,s.2.2))
def Zdo:Lp:=⟨[(1,.aj 0 []),(3,.v aQb),(5,.v yI)],[.var (.v aJ) ae],[aQb,yI,aJ],[⟨.exit 2,[(1,.aj 0 []),(3,.v aQb)],[.var (.v aJ) ae],[aQb,aJ]⟩],Zd (YY yD) yD⟩
theorem Zi3:Zdo.bt yb 113 1:=Zt OH [] [X6,ZeS,Zb2] ⟨WI,ZlR,ZiZ,ao⟩
def VV(F:Nat)(a0:Tx):yO (aQa):=
 (Z2 F [] (a0.1.length:Int)).bind λa=>
 (Zd (YX F) F (a,0,a0)).bind λb=>
 (Z2 F b.1 (b.2.2.1.length:Int)).bind λc=>
 (Zd (YY F) F (c,0,b.2)).bind λd=>
 (Z2 F d.1 d.2.2.2).bind λe=>
 ab e
def ZeT:Fs yb:=⟨113,[.v aJ],[],[aJ],(zN aQb),λx=>VV yD x⟩
theorem ZlS:ZeT.Ok:=aQ OH [(0,Zdn),(1,Zdo)] [X6] ⟨WI,ao⟩ ⟨Zi2,Zi3,ao⟩
def V3(F:Nat)(a0:Tx):yO (aQa):=
 (WH F a0).bind λa=>
 if(!a)=ae then
  ab dn
 else
 (VV F a0).bind λb=>
 (Q4 F ZM1 [b]).bind λc=>
 ab c
def Zil:Fs yb:=⟨50,[.v aJ],[],[aJ],(zN aQe),λx=>V3 yD x⟩
theorem Zpn:Zil.Ok:=aQ { still:=[3,7,9]} [] [NU,ZeT,Zhr] ⟨Zdd,ZlS,Zob,ao⟩
def Yy(F:Nat):(Int×Chan×yG×aQg×Chan×yG×Tx×aQo)->yO ((Int×Chan×yG×aQg×Chan×yG×Tx×aQo)⊕((Int×Chan×yG×aQg×Chan×yG×Tx×aQo)⊕(Chan×yG×aQg×Chan×yG×Tx×aQo)))
 |(a,d,c,e,f,g,h,b)=>
 if(ag (a < 2))=ae then
  if(bi a 2)=ae then
   (b[a.toNat]?).bind λi=>
   if(ag (i < 0))=ae then
    if(bi a 2)=ae then
     (c.2.1[a.toNat]?).bind λj=>
     if(bi a 2)=ae then
      (b[a.toNat]?).bind λk=>
      if(bi (wi (1 - a)) 2)=ae then
       (d.2.2.2.1[(wi (1 - a)).toNat]?).bind λl=>
       if(ag ((wi (j+k)) < l.2.1))=ae then
        ab (.inr (.inl (10,d,c,e,((dn,0),0,[(0,0,0,0,0),(0,0,0,0,0)],[(0,0,0,0,0,0),(0,0,0,0,0,0)],0),(0,[0,0],[],0),([],[],0),b)))
       else
       ab (.inl (wi (a+1),d,c,e,f,g,h,b))
      else
      ad
     else
     ad
    else
    ad
   else
   ab (.inl (wi (a+1),d,c,e,f,g,h,b))
  else
  ad
 else
 ab (.inr (.inr (d,c,e,f,g,h,b)))
def OI:yL bC:=[.var (.v Zf) ae,.var (.v Zc) ae,.var (.v aQc) ae,.var (.v Zf) ae,.var (.v Zc) ae,.var (.v aJ) ae,.var (.v aQl) ae]
def ZeU:Lp:=⟨[(3,.aj 0 []),(4,.aj 1 []),(5,.aj 2 []),(6,.aj 3 []),(7,.aj 4 []),(8,.aj 5 []),(11,.aj 6 []),(12,.v yI)],OI,[yI,Zf,Zc,aQc,Zf,Zc,aJ,aQl],[⟨.ret,[(6,.aj 3 []),(7,.aj 4 []),(8,.aj 5 []),(9,.v yI)],OI,[yI,Zf,Zc,aQc,Zf,Zc,aJ,aQl]⟩,⟨.exit 0,[(3,.aj 0 []),(4,.aj 1 []),(5,.aj 2 []),(6,.aj 3 []),(7,.aj 4 []),(8,.aj 5 []),(11,.aj 6 [])],OI,[Zf,Zc,aQc,Zf,Zc,aJ,aQl]⟩],Zd (Yy yD) yD⟩
def ZQj:HI:={ still:=[9,16,24,25,32,37,45,48,108,109,111,112,118,120,121,123,129]}
theorem ZjW:ZeU.bt yb 11 0:=Zt ZQj [] [] trivial
def X7(F:Nat)(a0:Chan)(a1:yG)(a2:aQg):yO ((Chan×yG×Tx×Int)):=
 (Vx F a0).bind λe=>
 if(e !=0)=ae then
  ab (((dn,0),0,[(0,0,0,0,0),(0,0,0,0,0)],[(0,0,0,0,0,0),(0,0,0,0,0,0)],0),(0,[0,0],[],0),([],[],0),e)
 else
 (XN F a0 a1).bind λf=>
 if(!f)=ae then
  ab (((dn,0),0,[(0,0,0,0,0),(0,0,0,0,0)],[(0,0,0,0,0,0),(0,0,0,0,0,0)],0),(0,[0,0],[],0),([],[],0),14)
 else
 (a2[0]?).bind λg=>
 (VA F g).bind λh=>
 if(!h)=ae then
  ab (((dn,0),0,[(0,0,0,0,0),(0,0,0,0,0)],[(0,0,0,0,0,0),(0,0,0,0,0,0)],0),(0,[0,0],[],0),([],[],0),1)
 else
 (a2[1]?).bind λi=>
 (VA F i).bind λj=>
 if(!j)=ae then
  ab (((dn,0),0,[(0,0,0,0,0),(0,0,0,0,0)],[(0,0,0,0,0,0),(0,0,0,0,0,0)],0),(0,[0,0],[],0),([],[],0),1)
 else
 (a2[0]?).bind λk=>
 (Wm F k).bind λl=>
 (a2[1]?).bind λm=>
 (Wm F m).bind λn=>
 (a1.2.1[0]?).bind λo=>
 if(ag ((wi (o+l)) < 0))=ae then
  ab (((dn,0),0,[(0,0,0,0,0),(0,0,0,0,0)],[(0,0,0,0,0,0),(0,0,0,0,0,0)],0),(0,[0,0],[],0),([],[],0),8)
 else
 (a1.2.1[1]?).bind λp=>
 if(ag ((wi (p+n)) < 0))=ae then
  ab (((dn,0),0,[(0,0,0,0,0),(0,0,0,0,0)],[(0,0,0,0,0,0),(0,0,0,0,0,0)],0),(0,[0,0],[],0),([],[],0),8)
 else
 (Zd (Yy F) F (0,a0,a1,a2,((dn,0),0,[(0,0,0,0,0),(0,0,0,0,0)],[(0,0,0,0,0,0),(0,0,0,0,0,0)],0),(0,[0,0],[],0),([],[],0),[l,n])).bind λq=>
 match q with
 |.inl (d,_,_,_,a,b,c,_)=>
  ab (a,b,c,d)
 |.inr (c,b,d,_,_,_,a)=>
  (a[0]?).bind λr=>
  (a[1]?).bind λs=>
  (WG F b a).bind λt=>
  (XN F (c.1,wi ((wi (c.2.1+r))+s),c.2.2.1,c.2.2.2.1,c.2.2.2.2) t).bind λu=>
  if(!u)=ae then
   ab (((dn,0),0,[(0,0,0,0,0),(0,0,0,0,0)],[(0,0,0,0,0,0),(0,0,0,0,0,0)],0),(0,[0,0],[],0),([],[],0),8)
  else
  (VR F c (wi ((wi (c.2.1+r))+s)) d).bind λv=>
  (WH F v).bind λw=>
  if(!w)=ae then
   ab (((dn,0),0,[(0,0,0,0,0),(0,0,0,0,0)],[(0,0,0,0,0,0),(0,0,0,0,0,0)],0),(0,[0,0],[],0),([],[],0),1)
  else
  (V3 F v).bind λx=>
  ab (((x,0),wi ((wi (c.2.1+r))+s),c.2.2.1,c.2.2.2.1,c.2.2.2.2),t,v,0)
def Zoc:Fs yb:=⟨11,[.v Zf,.v Zc,.v aQc],[],[Zf,Zc,aQc],[⟨.ret,[(0,.bm [.v Zf,.v Zc,.v aJ,.v yI])],[],[Zf,Zc,aJ,yI]⟩],λx=>X7 yD x.1 x.2.1 x.2.2⟩
theorem Zna:Zoc.Ok:=aQ ZQj [(0,ZeU)] [NJ,ZeG,Zhn,Zc6,NG,ZeK,NU,Zil] ⟨Zfx,ZlM,Zn6,ZkQ,ZcZ,ZlN,Zdd,Zpn,ao⟩ ⟨ZjW,ao⟩
def YC(F:Nat):(Int×Int×aQg×aQg×aQg×(yL Yo))->yO ((Int×Int×aQg×aQg×aQg×(yL Yo))⊕(Int×aQg×aQg×aQg×(yL Yo)))
 |(a,c,b,e,f,d)=>
 if(bi a 2)=ae then
  (b[a.toNat]?).bind λg=>
  if(ag (c < (g.1.length:Int)))=ae then
   if(bi a 2)=ae then
    (b[a.toNat]?).bind λh=>
    (idx h.1 c).bind λi=>
    if(cf d.length 1 48)=ae then
     ab (.inl (a,wi (c+1),b,e,f,d++([i]:yL Yo)))
    else
    ad
   else
   ad
  else
  ab (.inr (a,b,e,f,d))
 else
 ad
abbrev ZQ9:yL Ty:=[yI,yI,aQc,aQc,aQc,(.sl Xm)]
abbrev zE:List bC:=[.var (.v aQc) ae,.var (.v aQc) ae,.var (.v aQc) ae,.log Xm 146]
def ZcK:Lp:=⟨[(1,.aj 0 []),(2,.aj 1 []),(3,.aj 2 []),(4,.v yI),(5,.own 3 Xm),(6,.v yI)],zE,ZQ9,[⟨.exit 2,[(1,.aj 0 []),(2,.aj 1 []),(3,.aj 2 []),(4,.v yI),(5,.own 3 Xm)],zE,[yI,aQc,aQc,aQc,(.sl Xm)]⟩],Zd (YC yD) yD⟩
theorem ZhK:ZcK.bt yb 12 1:=Zt { own:=[5,20,29,32,37]} [] [] trivial
def YD(F:Nat)(s:(Int×aQg×aQg×aQg)):yO ((Int×aQg×aQg×aQg)⊕(aQg×aQg×aQg)):=
 if(ag (s.1 < 2))=ae then
  (Zd (YC F) F (s.1,0,s.2.1,s.2.2.1,s.2.2.2,[])).bind λ(a,b,e,c,d)=>
  if(bi a 2)=ae then
   (b[a.toNat]?).bind λf=>
   if(cf 0 f.2.1.length 32)=ae then
    if(bi a 2)=ae then
     (b[a.toNat]?).bind λg=>
     if(bi a 2)=ae then
      (c[a.toNat]?).bind λh=>
      let i:aQg:=c.set a.toNat (d,f.2.1,g.2.2)
      ab (.inl (wi (a+1),b,e,i))
     else
     ad
    else
    ad
   else
   ad
  else
  ad
 else
 ab (.inr (s.2.1,s.2.2.1,s.2.2.2))
def ZcL:Lp:=⟨[(1,.aj 0 []),(2,.aj 1 []),(3,.aj 2 []),(4,.v yI)],[.var (.v aQc) ae,.var (.v aQc) ae,.var (.v aQc) ae],[yI,aQc,aQc,aQc],[⟨.exit 0,[(2,.aj 1 []),(3,.aj 2 [])],[.var (.v aQc) ae,.var (.v aQc) ae,.var (.v aQc) ae],[aQc,aQc,aQc]⟩],Zd (YD yD) yD⟩
theorem ZhL:ZcL.bt yb 12 0:=Zt { own:=[5,20,29,32,37]} [(1,ZcK)] [] trivial ⟨ZhK,ao⟩
def YL(F:Nat)(a0:aQg):yO (aQg):=
 (Zd (YD F) F (0,a0,[([],[],0),([],[],0)],[([],[],0),([],[],0)])).bind λa=>
 ab a.2.2
def ZlT:Fs yb:=⟨12,[.v aQc],[],[aQc],(zN aQc),λx=>YL yD x⟩
theorem ZkW:ZlT.Ok:=aQ { own:=[5,20,29,32,37]} [(0,ZcL)] [] trivial ⟨ZhL,ao⟩
def XY(F:Nat)(s:(Int×yG×yG)):yO ((Int×yG×yG)⊕((Bool×yG×yG)⊕(yG×yG))):=
 if(ag (s.1 < (s.2.1.2.2.1.length:Int)))=ae then
  (idx s.2.1.2.2.1 s.1).bind λa=>
  (idx s.2.2.2.2.1 s.1).bind λb=>
  if(!(ag (a=b)))=ae then
   ab (.inr (.inl (af,s.2.1,s.2.2)))
  else
  ab (.inl (wi (s.1+1),s.2.1,s.2.2))
 else
 ab (.inr (.inr (s.2.1,s.2.2)))
def ZeV:Lp:=⟨[(2,.aj 0 []),(3,.aj 1 []),(5,.v yI)],[.var (.v Zc) ae,.var (.v Zc) ae],[yI,Zc,Zc],[⟨.ret,[(4,.v .bool)],[.var (.v Zc) ae,.var (.v Zc) ae],[.bool,Zc,Zc]⟩,⟨.exit 0,[],[.var (.v Zc) ae,.var (.v Zc) ae],[Zc,Zc]⟩],Zd (XY yD) yD⟩
theorem ZjX:ZeV.bt yb 13 0:=Zt { still:=[4]} [] [] trivial
def X8(F:Nat)(a0:yG)(a1:yG):yO (Bool):=
 if(a0.1 !=a1.1)=ae then
  ab af
 else
 if(!(ag (a0.2.1=a1.2.1)))=ae then
  ab af
 else
 if(a0.2.2.2 !=a1.2.2.2)=ae then
  ab af
 else
 let a:Bool:=(a0.2.2.1.length:Int)!=(a1.2.2.1.length:Int)
 if a=ae then
  ab af
 else
 (Zd (XY F) F (0,a0,a1)).bind λb=>
 match b with
 |.inl c=>
  ab c.1
 |.inr d=>
  ab ae
def ZfI:Fs yb:=⟨13,[.v Zc,.v Zc],[],[Zc,Zc],(zN .bool),λx=>X8 yD x.1 x.2⟩
theorem Znb:ZfI.Ok:=aQ { still:=[4]} [(0,ZeV)] [] trivial ⟨ZjX,ao⟩
def Yw(F:Nat)(s:(Int×WK×WK)):yO ((Int×WK×WK)⊕((Bool×WK×WK)⊕(WK×WK))):=
 if(ag (s.1 < (s.2.1.2.1.length:Int)))=ae then
  (idx s.2.1.2.1 s.1).bind λa=>
  (idx s.2.2.2.1 s.1).bind λb=>
  if(!(ag (a=b)))=ae then
   ab (.inr (.inl (af,s.2.1,s.2.2)))
  else
  ab (.inl (wi (s.1+1),s.2.1,s.2.2))
 else
 ab (.inr (.inr (s.2.1,s.2.2)))
def Zb3:Lp:=⟨[(2,.aj 0 []),(3,.aj 1 []),(5,.v yI)],[.var (.v Y2) ae,.var (.v Y2) ae],[yI,Y2,Y2],[⟨.ret,[(4,.v .bool)],[.var (.v Y2) ae,.var (.v Y2) ae],[.bool,Y2,Y2]⟩,⟨.exit 0,[],[.var (.v Y2) ae,.var (.v Y2) ae],[Y2,Y2]⟩],Zd (Yw yD) yD⟩
theorem Zht:Zb3.bt yb 51 0:=Zt { still:=[4]} [] [] trivial
def W8(F:Nat)(a0:WK)(a1:WK):yO (Bool):=
 if(a0.1 !=a1.1)=ae then
  ab af
 else
 if(a0.2.2 !=a1.2.2)=ae then
  ab af
 else
 if((a0.2.1.length:Int)!=(a1.2.1.length:Int))=ae then
  ab af
 else
 (Zd (Yw F) F (0,a0,a1)).bind λa=>
 match a with
 |.inl b=>
  ab b.1
 |.inr c=>
  ab ae
def ZcM:Fs yb:=⟨51,[.v Y2,.v Y2],[],[Y2,Y2],(zN .bool),λx=>W8 yD x.1 x.2⟩
theorem ZjY:ZcM.Ok:=aQ { still:=[4]} [(0,Zb3)] [] trivial ⟨Zht,ao⟩
def Y9(F:Nat):(Int×Int×ZC×ZC×ZW×ZW)->yO ((Int×Int×ZC×ZC×ZW×ZW)⊕((Bool×ZC×ZC×ZW×ZW)⊕(Int×ZC×ZC×ZW×ZW)))
 |(f,a,d,e,b,c)=>
 if(ag (a < (b.1.length:Int)))=ae then
  (idx b.1 a).bind λg=>
  (idx c.1 a).bind λh=>
  if(g !=h)=ae then
   ab (.inr (.inl (af,d,e,b,c)))
  else
  ab (.inl (f,wi (a+1),d,e,b,c))
 else
 ab (.inr (.inr (f,d,e,b,c)))
abbrev zD:List bC:=[.var (.v Zv) ae,.var (.v Zv) ae,.var (.v ZB) ae,.var (.v ZB) ae]
def ZeW:Lp:=⟨[(2,.aj 0 []),(3,.aj 1 []),(5,.v yI),(6,.aj 2 []),(7,.aj 3 []),(8,.v yI)],zD,[yI,yI,Zv,Zv,ZB,ZB],[⟨.ret,[(4,.v .bool)],zD,[.bool,Zv,Zv,ZB,ZB]⟩,⟨.exit 2,[(2,.aj 0 []),(3,.aj 1 []),(5,.v yI)],zD,[yI,Zv,Zv,ZB,ZB]⟩],Zd (Y9 yD) yD⟩
theorem ZjZ:ZeW.bt yb 52 1:=Zt { still:=[4]} [] [] trivial
def Xa(F:Nat)(s:(Int×ZC×ZC)):yO ((Int×ZC×ZC)⊕((Bool×ZC×ZC)⊕(ZC×ZC))):=
 if(ag (s.1 < (s.2.1.length:Int)))=ae then
  (idx s.2.1 s.1).bind λd=>
  (idx s.2.2 s.1).bind λe=>
  if(d.2.1 !=e.2.1)=ae then
   ab (.inr (.inl (af,s.2.1,s.2.2)))
  else
  if(d.2.2.1 !=e.2.2.1)=ae then
   ab (.inr (.inl (af,s.2.1,s.2.2)))
  else
  if(d.2.2.2 !=e.2.2.2)=ae then
   ab (.inr (.inl (af,s.2.1,s.2.2)))
  else
  if((d.1.length:Int)!=(e.1.length:Int))=ae then
   ab (.inr (.inl (af,s.2.1,s.2.2)))
  else
  (Zd (Y9 F) F (s.1,0,s.2.1,s.2.2,d,e)).bind λf=>
  match f with
  |.inl (a,b,c,_,_)=>
   ab (.inr (.inl (a,b,c)))
  |.inr (a,b,c,_,_)=>
   ab (.inl (wi (a+1),b,c))
 else
 ab (.inr (.inr (s.2.1,s.2.2)))
def ZeX:Lp:=⟨[(2,.aj 0 []),(3,.aj 1 []),(5,.v yI)],[.var (.v Zv) ae,.var (.v Zv) ae],[yI,Zv,Zv],[⟨.ret,[(4,.v .bool)],[.var (.v Zv) ae,.var (.v Zv) ae],[.bool,Zv,Zv]⟩,⟨.exit 0,[],[.var (.v Zv) ae,.var (.v Zv) ae],[Zv,Zv]⟩],Zd (Xa yD) yD⟩
theorem Zj0:ZeX.bt yb 52 0:=Zt { still:=[4]} [(1,ZeW)] [] trivial ⟨ZjZ,ao⟩
def Qu(F:Nat)(a0:ZC)(a1:ZC):yO (Bool):=
 if((a0.length:Int)!=(a1.length:Int))=ae then
  ab af
 else
 (Zd (Xa F) F (0,a0,a1)).bind λa=>
 match a with
 |.inl b=>
  ab b.1
 |.inr c=>
  ab ae
def ZfJ:Fs yb:=⟨52,[.v Zv,.v Zv],[],[Zv,Zv],(zN .bool),λx=>Qu yD x.1 x.2⟩
theorem Znc:ZfJ.Ok:=aQ { still:=[4]} [(0,ZeX)] [] trivial ⟨Zj0,ao⟩
def Xb(F:Nat)(s:(Int×Tx×Tx)):yO ((Int×Tx×Tx)⊕((Bool×Tx×Tx)⊕(Tx×Tx))):=
 if(ag (s.1 < (s.2.1.1.length:Int)))=ae then
  (idx s.2.1.1 s.1).bind λa=>
  (idx s.2.2.1 s.1).bind λb=>
  if(!(ag (a.1=b.1)))=ae then
   ab (.inr (.inl (af,s.2.1,s.2.2)))
  else
  (idx s.2.1.1 s.1).bind λc=>
  (idx s.2.2.1 s.1).bind λd=>
  (W8 F c.2 d.2).bind λe=>
  if(!e)=ae then
   ab (.inr (.inl (af,s.2.1,s.2.2)))
  else
  ab (.inl (wi (s.1+1),s.2.1,s.2.2))
 else
 ab (.inr (.inr (s.2.1,s.2.2)))
def ZeY:Lp:=⟨[(2,.aj 0 []),(3,.aj 1 []),(5,.v yI)],[.var (.v aJ) ae,.var (.v aJ) ae],[yI,aJ,aJ],[⟨.ret,[(4,.v .bool)],[.var (.v aJ) ae,.var (.v aJ) ae],[.bool,aJ,aJ]⟩,⟨.exit 0,[(2,.aj 0 []),(3,.aj 1 [])],[.var (.v aJ) ae,.var (.v aJ) ae],[aJ,aJ]⟩],Zd (Xb yD) yD⟩
theorem Zj1:ZeY.bt yb 14 0:=Zt { still:=[4,56,62,92,98]} [] [ZcM] ⟨ZjY,ao⟩
def Xc(F:Nat)(s:(Int×Tx×Tx)):yO ((Int×Tx×Tx)⊕((Bool×Tx×Tx)⊕(Tx×Tx))):=
 if(ag (s.1 < (s.2.1.2.1.length:Int)))=ae then
  (idx s.2.1.2.1 s.1).bind λa=>
  (idx s.2.2.2.1 s.1).bind λb=>
  if(a.1 !=b.1)=ae then
   ab (.inr (.inl (af,s.2.1,s.2.2)))
  else
  (idx s.2.1.2.1 s.1).bind λc=>
  (idx s.2.2.2.1 s.1).bind λd=>
  (Qu F c.2 d.2).bind λe=>
  if(!e)=ae then
   ab (.inr (.inl (af,s.2.1,s.2.2)))
  else
  ab (.inl (wi (s.1+1),s.2.1,s.2.2))
 else
 ab (.inr (.inr (s.2.1,s.2.2)))
def ZeZ:Lp:=⟨[(2,.aj 0 []),(3,.aj 1 []),(6,.v yI)],[.var (.v aJ) ae,.var (.v aJ) ae],[yI,aJ,aJ],[⟨.ret,[(4,.v .bool)],[.var (.v aJ) ae,.var (.v aJ) ae],[.bool,aJ,aJ]⟩,⟨.exit 2,[],[.var (.v aJ) ae,.var (.v aJ) ae],[aJ,aJ]⟩],Zd (Xc yD) yD⟩
theorem Zj2:ZeZ.bt yb 14 1:=Zt { still:=[4,56,62,92,98]} [] [ZfJ] ⟨Znc,ao⟩
def X9(F:Nat)(a0:Tx)(a1:Tx):yO (Bool):=
 if(a0.2.2 !=a1.2.2)=ae then
  ab af
 else
 if((a0.1.length:Int)!=(a1.1.length:Int))=ae then
  ab af
 else
 if((a0.2.1.length:Int)!=(a1.2.1.length:Int))=ae then
  ab af
 else
 (Zd (Xb F) F (0,a0,a1)).bind λa=>
 match a with
 |.inl b=>
  ab b.1
 |.inr c=>
  (Zd (Xc F) F (0,c.1,c.2)).bind λd=>
  match d with
  |.inl e=>
   ab e.1
  |.inr f=>
   ab ae
def ZfK:Fs yb:=⟨14,[.v aJ,.v aJ],[],[aJ,aJ],(zN .bool),λx=>X9 yD x.1 x.2⟩
theorem Znd:ZfK.Ok:=aQ { still:=[4,56,62,92,98]} [(0,ZeY),(1,ZeZ)] [] trivial ⟨Zj1,Zj2,ao⟩
end
end Go.Proofs.YtcbhhaigilifgaaGreat
end
section
set_option maxRecDepth 4000
namespace Go.Proofs.YtcbhhaigilifgaaGreat
open Go Go.Ev
theorem ZJV{m:Nat}(hm:0 < m):∀(f a n o:Nat),o < m->fx m f a n o < m
 |0,_,_,o,h=>h
 |f+1,a,n,o,h=>by
  rw[fx];split
  .exact h
  .refine ZJV hm f _ _ _ ?_;split
   .exact Nat.mod_lt _ hm
   .exact h
theorem ZJW{m:Nat}(hm:1 < m)(k a n:Nat)(h:n < 2 ^ k):fx m k a n 1=a ^ n % m:=by
 rw[<-yap (ZJV (by omega) k a n 1 hm),ZFE k a n 1 h,Nat.one_mul]
instance(a:Nat):Decidable (eS a):=by unfold eS;infer_instance
theorem ZON{z:Nat}(h:z < jn):z < 18446744073709551616:=Nat.lt_trans h (by decide)
theorem ZOO{z:Nat}(h:z < jn):(yao z).toNat=z:=by
 rw[ybe,yap (ZON h)]
theorem ZFO(z:Nat):z % jn < jn:=Nat.mod_lt _ (by decide)
theorem ZJX(a n:yU):qd yD a n=ab (yao (a.toNat ^ n.toNat % jn)):=by
 unfold qd;rw[ZJW (by decide) 64 a.toNat n.toNat (ybm n)];rfl
theorem ZG3{a n:yU}(h:a.toNat < jn):XM yD a n=ab (yao (a.toNat ^ n.toNat % jn)):=by
 unfold XM;rw[yW (yY (show a.toNat < 4611686018427377339 from h)),ZJW (by decide) 64 a.toNat n.toNat (ybm n)]
 rfl
theorem ZJY{z:Nat}(h:z < jn):(yao z==1)=ag (z=1):=by
 rw[Bool.eq_iff_iff,yT,yN, <-UInt64.toNat_inj,ZOO h];rfl
theorem OJ(p:yU):XD yD p=ab (ag (eS p.toNat)):=by
 unfold XD;by_cases f:0 < p.toNat
 .rw[yW (yY (show p > 0 from yca.2 f))]
  by_cases g:p.toNat < jn
  .rw[yW (yY (show p < 4611686018427377339 from yca.2 g)),ZJX,ya,ZJY (ZFO _)]
   congr 1;rw[decide_eq_decide];exact⟨λh=>⟨f,g,h⟩,λh=>h.2.2⟩
  .rw[yX (by rw[yN];exact λh=>g (yca.1 h)),yZ (λh=>g h.2.1)]
 .rw[yX (by rw[yN];exact λh=>f (yca.1 h)),yZ (λh=>f h.1)]
theorem zp(p:yU):Y4 yD p=ab (ag (eS p.toNat)):=by
 unfold Y4;by_cases g:0 < p.toNat
 .rw[yW (yY (show p >= 1 from ycs.2 g))]
  by_cases f:p.toNat < jn
  .rw[yW (yY (show p < 4611686018427377339 from yca.2 f)),ZG3 f,ya,ZJY (ZFO _)]
   congr 1;rw[decide_eq_decide];exact⟨λh=>⟨g,f,h⟩,λh=>h.2.2⟩
  .rw[yX (by rw[yN];exact λh=>f (yca.1 h)),yZ (λh=>f h.2.1)]
 .rw[yX (by rw[yN];exact λh=>g (ycs.1 h)),yZ (λh=>g h.1)]
theorem Zyh{ls:yL aQa}(h:ls.flatten.length<=1000000000)(y:ls.length<=1000):Xf yD ls=ab ls.flatten:=by
 unfold Xf
 rw[show(ls,(0:Int),ls,(ls.length:Int),(0:Int))=(λk:Nat=>(ls,((ls.take k).flatten.length:Int),ls,(ls.length:Int),(k:Int))) 0 from rfl,
  ZA (x:=(ls,(ls.flatten.length:Int))) ls.length (λk:Nat=>(ls,((ls.take k).flatten.length:Int),ls,(ls.length:Int),(k:Int))) ?_ ?_ (by omega),ya]
 .have m:om (ls.flatten.length:Int)=ab []:=by
   unfold om;rw[yW];rw[Bool.and_eq_true];exact⟨yY (by omega),yY (by unfold Zr;omega)⟩
  dsimp only
  rw[m,ya,show(ls,(ls.length:Int),(0:Int),([]:yL yB))=(λk:Nat=>(ls,(ls.length:Int),(k:Int),(ls.take k).flatten)) 0 from rfl,
   ZA (x:=ls.flatten) ls.length (λk:Nat=>(ls,(ls.length:Int),(k:Int),(ls.take k).flatten)) ?_ ?_ (by omega),ya]
  .intro k f;obtain⟨e,g,_⟩:=Zi f;have j:=Zyg g;have l:=ZFN ls (k+1);rw[j,yl]at l;unfold XB;dsimp only;rw[yW (Zw f),Zl g,ya,yW (ZT (by omega) (by omega)),Zp (by omega),j]
  .unfold XB;dsimp only;rw[yX (by rw[ZN];decide),yal]
 .intro k f;obtain⟨e,g,_⟩:=Zi f;have j:=Zyg g;have l:=ZFN ls (k+1);rw[j,yl]at l;unfold XA;dsimp only;rw[yW (Zw f),Zl g,ya,ZY (z:=((ls.take k).flatten.length:Int)+(e.length:Int)) (by omega) (by omega),yX (cZ (by omega)),Zp (by omega),j,yl];rfl
 .unfold XA;dsimp only;rw[yX (by rw[ZN];decide),yal]
theorem OL{a b:yL yB}(h:a.length+b.length<=1000000000):oE yD a b=ab (a++b):=by
 unfold oE;rw[Zyh (by simp;omega) (by simp),ya];simp
def Yz(n:Nat):yL yB:=if h:n < 128 then[yar n] else yar (n % 128+128)::Yz (n / 128)
termination_by n
decreasing_by omega
theorem oN{n:Nat}(h:n < 128):Yz n=[yar n]:=by rw[Yz,dif_pos h]
theorem tX{n:Nat}(h:¬n < 128):Yz n=yar (n % 128+128)::Yz (n / 128):=by rw[Yz,dif_neg h]
theorem ZFP:∀(j n:Nat),n < 128 ^ (j+1)->(Yz n).length<=j+1
 |0,n,h=>by rw[oN (by omega)];exact ym _
 |j+1,n,h=>by
  by_cases f:n < 128
  .rw[oN f,ydb];omega
  .rw[tX f];have:=ZFP j (n / 128) (by rw[Nat.pow_succ]at h;omega);simp only[List.length_cons];omega
theorem ZG{n:Nat}(h:n<=9223372036854775807):(Yz n).length<=9:=ZFP 8 n (by omega)
theorem ZFQ(n:Nat):Yz n≠[]:=by
 rw[Yz];split <;> simp
theorem ZJZ{n:Nat}(h:n<=9223372036854775807):tq yD (n:Int)=ab (Yz n):=by
 unfold tq;refine Exists.elim (VX (step:=xC yD) (λs=>∃m:Nat,s.1=(m:Int)/\m<=n/\s.2++Yz m=Yz n) (λs=>s.1.toNat) (λx=>∃m:Nat,x.1=(m:Int)/\m < 128/\x.2++Yz m=Yz n) ?_ ((n:Int),([]:yL yB)) ⟨n,rfl,ym _,rfl⟩ (by dsimp only;omega)) ?_
 .rintro⟨_,o⟩ ⟨m,rfl,F,f⟩;unfold xC;dsimp only at f ⊢;have j:=congrArg List.length f;have y:=ZG h;rw[yl]at j;by_cases g:m < 128
  .right;rw[yX (cZ (by omega))];exact⟨_,rfl,m,rfl,g,f⟩
  .left;rw[yW (yY (by omega)),yW (ZT (by omega) (by omega))];have A:Int.tmod (m:Int) 128=((m % 128:Nat):Int):=rfl;have B:Int.tdiv (m:Int) 128=((m / 128:Nat):Int):=rfl;rw[A,B,ZY (z:=((m % 128:Nat):Int)+128) (by omega) (by omega),ZY (z:=((m / 128:Nat):Int)) (by omega) (by omega)];refine⟨_,rfl,⟨m / 128,rfl,by omega, ?_⟩,by dsimp only;omega⟩;dsimp only;rw[<-f,tX g,yab];congr 1;rw[List.singleton_append];congr 1;unfold w8;congr 1;omega
 .rintro⟨_,o⟩ ⟨g,m,rfl,E,l⟩;dsimp only at l ⊢;have j:=congrArg List.length l;have y:=ZG h;rw[yl]at j;rw[g,ya];dsimp only;rw[yW (ZT (by omega) (by omega)), <-l,oN E];congr 3;unfold w8;congr 1;omega
theorem jW{b:yL yB}{z:Int}(f:0<=z)(h:z<=9223372036854775807)(hb:b.length<=1000000):Wq yD b z=ab (b++Yz z.toNat):=by
 obtain⟨n,rfl⟩:=Int.eq_ofNat_of_zero_le f;have:=ZG (n:=n) (by omega);unfold Wq;rw[yX (cZ (by omega)),ZJZ (by omega),ya,OL (by omega),ya,yau]
theorem ZEr{b h:yL yB}(hb:b.length<=1000000)(f:h.length<=1000000):xD yD b h=ab (b++h):=by
 unfold xD;rw[OL (by omega),ya]
theorem ZCq{b c:yL yB}(hb:b.length<=1000000)(hc:c.length<=1000000):xE yD b c=ab (b++(Yz c.length++c)):=by
 have:=ZG (n:=c.length) (by omega);unfold xE;rw[ZJZ (by omega),ya,Zyh (by simp;omega) (by simp),ya];simp
def lM(l:yL yB)(n k:Nat):yL yB:=l.take k++yx (n - k) 0
theorem ZG4{l:yL yB}{n k:Nat}(h:k < l.length)(h2:l.length<=n):(lM l n k)[k]? =ab 0:=by
 unfold lM;have f:(l.take k).length=k:=by simp;omega
 rw[yas (by omega),f,List.getElem?_replicate];simp;omega
theorem ZG5{l:yL yB}{n k:Nat}{d:yB}(f:l[k]? =ab d)(h2:l.length<=n):(lM l n k).set k d=lM l n (k+1):=by
 have h:k < l.length:=(yu.1 f).1;have g:(l.take k).length=k:=by simp;omega
 unfold lM;rw[Wu f,List.set_append_right _ _ (by omega),g,Nat.sub_self];have e:n - k=(n - (k+1))+1:=by omega
 rw[e,List.replicate_succ];simp
theorem ZG6{l:yL yB}{n:Nat}(h:l.length=n):lM l n n=l:=by
 unfold lM;rw[<-h];simp
def fa(n:Nat):yL yB:=(List.range 8).map λi=>yar (n / 2 ^ (56 - 8*i))
theorem Y3(n:Nat):(fa n).length=8:=by simp[fa]
theorem zq(n:Nat){k:Nat}(f:k < 8):(fa n)[k]? =ab (yar (n / 2 ^ (56 - 8*k))):=by simp[fa,f]
theorem ZCr(x:yU){m:Nat}:w8 ((ZE x m).toNat:Int)=yar (x.toNat / 2 ^ m):=by
 unfold w8 ZE;have h:x.toNat / 2 ^ m < 18446744073709551616:=Nat.lt_of_le_of_lt (Nat.div_le_self ..) (ybm _);rw[ybe,yap h];apply UInt8.toNat_inj.1;rw[UInt8.toNat_ofNat',UInt8.toNat_ofNat'];omega
theorem tY{b:yL yB}(x:yU)(hb:b.length<=1000000):Vl yD b x=ab (b++fa x.toNat):=by
 unfold Vl
 rw[show(b,x,(0:Int),([0,0,0,0,0,0,0,0]:yL yB))=(λk:Nat=>(b,x,(k:Int),lM (fa x.toNat) 8 k)) 0 from rfl,
  ZA (x:=(b,fa x.toNat)) 8 (λk:Nat=>(b,x,(k:Int),lM (fa x.toNat) 8 k)) ?_ ?_ (by omega),ya]
 .dsimp only;rw[OL (by rw[Y3];omega),ya]
 .intro k f;unfold xF;dsimp only;have g:=Y3 x.toNat
  rw[yW (yY (by omega)),ZY (z:=8*(k:Int)) (by omega) (by omega),ZY (z:=56 - 8*(k:Int)) (by omega) (by omega),yW (yY (by omega)),yW (Wy (by omega) (by omega)),
   yau,ZG4 (by omega) (by omega),ya,Zp (by omega)]
  have e:min (56 - 8*(k:Int)).toNat 64=56 - 8*k:=by omega
  rw[e,ZCr,ZG5 (zq _ f) (by omega)]
 .unfold xF;dsimp only;rw[yX (by simp),ZG6 (Y3 _)]
def lN(b:ZW):Prop:=b.1.length<=12/\0<=b.2.1/\b.2.1<=1048576/\0<=b.2.2.1/\b.2.2.1<=1048576
def lO(b:ZW):Prop:=(∀p,p∈b.1->eS p.toNat)/\(b.2.2.2≠0->eS b.2.2.2.toNat)
def Vb(l:ZC):Prop:=0 < l.length/\l.length<=4/\∀b,b∈l->lN b
def gK(l:ZC):Prop:=∀b,b∈l->lO b
theorem OM(p:yU):QI yD p=ab (!decide (eS p.toNat)):=by
 unfold QI;rw[OJ,ya]
theorem ZJ0{p:yU}(h:eS p.toNat):QI yD p=ab af:=by rw[OM,yY h];rfl
theorem ZQk{l:yL yU}(hl:l.length<=12)(h:∀p,p∈l->eS p.toNat):qe yD l=ab af:=by
 unfold qe xh
 rw[show(l,(l.length:Int),(0:Int))=(λk:Nat=>(l,(l.length:Int),(k:Int))) 0 from rfl,
  ZA (x:=.inr ()) l.length (λk:Nat=>(l,(l.length:Int),(k:Int))) ?_ ?_ (by omega),ya]
 .rfl
 .intro k f;obtain⟨e,g,j⟩:=Zi f;unfold XE;dsimp only;rw[yW (Zw f),Zl g,ya,ZJ0 (h e j),ya,Zp (by omega)];rfl
 .unfold XE;dsimp only;rw[yX (by rw[ZN];decide)]
theorem Zyi{z:Int}(f:0<=z)(h1:z<=1048576):Qf yD z=ab ae:=by
 unfold Qf;rw[yW (yY f),yY h1]
theorem ON{l:ZC}(h:Vb l)(hp:gK l):We yD l=ab ae:=by
 unfold We;obtain⟨G,I,m⟩:=h
 rw[show(l,(l.length:Int),(0:Int),l)=(λk:Nat=>(l,(l.length:Int),(k:Int),l)) 0 from rfl,
  ZA (x:=.inr l) l.length (λk:Nat=>(l,(l.length:Int),(k:Int),l)) ?_ ?_ (by omega),ya]
 .dsimp only;rw[yW (yY (by omega)),yY (by omega)]
 .intro k g;obtain⟨e,y,j⟩:=Zi g;obtain⟨z,A,B,e4,e5⟩:=m e j;obtain⟨E,F⟩:=hp e j;unfold WZ;dsimp only;rw[yW (Zw g),Zl y,ya,yX (cZ (by omega)),ZQk z E,ya,Zyi A B,ya,Zyi e4 e5,ya,Zp (by omega),yX (by decide),yX (by decide),yX (by decide)];by_cases f:e.2.2.2=0
  .rw[yX (by simp[f])]
  .rw[yW (by simp[f]),ZJ0 (F f),ya,yX (by decide)]
 .unfold WZ;dsimp only;rw[yX (by rw[ZN];decide)]
def mV(t:Tx):Prop:=(∀x,x∈t.1->x.1.1.length=32)/\t.2.2<=9223372036854775807
def tZ(x:In):Prop:=0<=x.1.2/\x.1.2 < 64/\0<=x.2.1/\x.2.1 < 4/\x.2.2.1.length<=12
def OO(o:Out):Prop:=0<=o.1/\o.1<=1125899906842624/\Vb o.2/\gK o.2
def oO(t:Tx):Prop:=0 < t.1.length/\t.1.length<=64/\t.2.1.length<=64/\0<=t.2.2/\(∀x,x∈t.1->tZ x)/\∀o,o∈t.2.1->OO o
def bn{α:Type}(f:α->yL yB)(l:yL α):yL yB:=(l.map f).flatten
theorem QE{α:Type}{f:α->yL yB}{l:yL α}{k:Nat}{e:α}(h:l[k]? =ab e):bn f (l.take (k+1))=bn f (l.take k)++f e:=by
 unfold bn
 rw[Wu h,yat,List.flatten_append];simp
theorem OP{α:Type}{f:α->yL yB}{l:yL α}{e:α}:bn f (e::l)=f e++bn f l:=rfl
theorem OQ{α:Type}{f:α->yL yB}{c:Nat}:∀{l:yL α},(∀x,x∈l->(f x).length<=c)->(bn f l).length<=l.length*c
 |[],_=>by simp[bn]
 |e::l,h=>by
  have j:=h e (List.mem_cons_self ..);have m:=OQ (l:=l) λx g=>h x (List.mem_cons_of_mem _ g);rw[OP,yl,List.length_cons,Nat.succ_mul];omega
theorem V4{α:Type}{f:α->yL yB}{c n:Nat}{l:yL α}(h:∀x,x∈l->(f x).length<=c)(j:l.length<=n)(k:Nat):(bn f (l.take k)).length<=n*c:=by
 refine ybr (OQ λx g=>h x (List.mem_of_mem_take g)) (Nat.mul_le_mul_right c ?_);rw[yac];omega
def gV(p:yU):yL yB:=fa p.toNat
def fE(b:ZW):yL yB:=Yz b.1.length++(bn gV b.1++(Yz b.2.1.toNat++(Yz b.2.2.1.toNat++fa b.2.2.2.toNat)))
def gk(l:ZC):yL yB:=Yz l.length++bn fE l
theorem ua{l:yL yU}(h:l.length<=12)(k:Nat):(bn gV (l.take k)).length<=96:=V4 (c:=8) (λx _=>Nat.le_of_eq (Y3 _)) h k
theorem zr{b:ZW}(h:b.1.length<=12/\0<=b.2.1/\b.2.1<=1048576/\0<=b.2.2.1/\b.2.2.1<=1048576):(fE b).length<=131:=by
 have f:=ua h.1 b.1.length;rw[yal]at f;have g:=ZG (n:=b.1.length) (by omega);have j:=ZG (n:=b.2.1.toNat) (by omega);have l:=ZG (n:=b.2.2.1.toNat) (by omega);have m:=Y3 b.2.2.2.toNat
 unfold fE;simp only[yl];omega
theorem qx{l:ZC}(h:Vb l):(gk l).length<=533:=by
 have g:=V4 (f:=fE) (c:=131) (λx j=>zr (h.2.2 x j)) h.2.1 l.length;rw[yal]at g;have m:=ZG (n:=l.length) (by have:=h.2.1;omega);unfold gk;rw[yl];omega
theorem ZG7{c:yL yB}(hc:c.length<=100000){f:yL ZW}{n i:Int}{ks:yL yU}{l:ZC}{e:ZW}(j:ks.length<=12):
 Zd (tz yD) yD (c,f,n,i,ks,(ks.length:Int),(0:Int),l,e)=ab (c++bn gV ks,f,n,i,l,e):=by
 rw[show(c,f,n,i,ks,(ks.length:Int),(0:Int),l,e)=(λk:Nat=>(c++bn gV (ks.take k),f,n,i,ks,(ks.length:Int),(k:Int),l,e)) 0 by simp[bn]];refine ZA ks.length (λk:Nat=>(c++bn gV (ks.take k),f,n,i,ks,(ks.length:Int),(k:Int),l,e)) ?_ ?_ (by omega)
 .intro k g;obtain⟨e,h,_⟩:=Zi g;have m:=ua j k;unfold tz;dsimp only;rw[yW (Zw g),Zl h,ya,tY _ (by rw[yl];omega),ya,Zp (by omega),QE h,yab];rfl
 .unfold tz;dsimp only;rw[yX (by rw[ZN];decide),yal]
theorem OR{l:ZC}(h:Vb l)(hp:gK l):qm yD l=ab (gk l):=by
 unfold qm;have G:=h.2.1;have I:=ZG (n:=l.length) (by omega);rw[ON h hp,ya,yX (by decide),jW (by omega) (by omega) (by simp),ya,yz,yau]
 rw[show(Yz l.length,l,(l.length:Int),(0:Int),l)=(λk:Nat=>(Yz l.length++bn fE (l.take k),l,(l.length:Int),(k:Int),l)) 0 by simp[bn],
  ZA (x:=(gk l,l)) l.length (λk:Nat=>(Yz l.length++bn fE (l.take k),l,(l.length:Int),(k:Int),l)) ?_ ?_ (by omega),ya]
 .intro k j;obtain⟨e,m,z⟩:=Zi j;obtain⟨y,A,M,e4,e5⟩:=h.2.2 e z;have Q:=V4 (f:=fE) (c:=131) (λx B=>zr (h.2.2 x B)) h.2.1 k;have R:=ZG (n:=e.1.length) (by omega);have E:=ZG (n:=e.2.1.toNat) (by omega);have F:=ZG (n:=e.2.2.1.toNat) (by omega);have g:=ua y e.1.length;rw[yal]at g;unfold xH;dsimp only
  rw[yW (Zw j),Zl m,ya,jW (by omega) (by omega) (by rw[yl];omega),ya,yau,
   ZG7 (by simp only[yl];omega) y,ya]
  dsimp only
  rw[jW A (by omega) (by simp only[yl];omega),ya,jW e4 (by omega) (by simp only[yl];omega),ya,
   tY _ (by simp only[yl];omega),ya,Zp (by omega),QE m]
  unfold fE;simp only[yab]
 .unfold xH;dsimp only;rw[yX (by rw[ZN];decide),yal];rfl
def eE(x:In):yL yB:=x.1.1++Yz x.1.2.toNat
def fu(o:Out):yL yB:=Yz o.1.toNat++(Yz (gk o.2).length++gk o.2)
def iM(t:Tx):yL yB:=Yz t.1.length++(bn eE t.1++(Yz t.2.1.length++(bn fu t.2.1++Yz t.2.2.toNat)))
def fR(s:gi):yL yB:=fa s.1.toNat++fa s.2.toNat
def fz(x:In):yL yB:=Yz x.2.1.toNat++(Yz x.2.2.1.length++(bn fR x.2.2.1++fa x.2.2.2.toNat))
def kK(t:Tx):yL yB:=iM t++bn fz t.1
theorem zu{x:In}(h:x.1.1.length=32)(k:tZ x):(eE x).length<=41:=by
 have:=ZG (n:=x.1.2.toNat) (by have:=k.2.1;omega);unfold eE;rw[yl];omega
theorem zw{o:Out}(k:OO o):(fu o).length<=551:=by
 have f:=qx k.2.2.1;have g:=ZG (n:=o.1.toNat) (by have:=k.2.1;omega);have h:=ZG (n:=(gk o.2).length) (by omega);unfold fu;simp only[yl];omega
theorem OS{l:yL gi}(h:l.length<=12)(k:Nat):(bn fR (l.take k)).length<=192:=V4 (c:=16) (λx _=>by unfold fR;rw[yl,Y3,Y3];exact ym _) h k
theorem zx{x:In}(k:tZ x):(fz x).length<=218:=by
 obtain⟨_,_,h,j,f⟩:=k;have g:=OS f x.2.2.1.length;rw[yal]at g;have l:=ZG (n:=x.2.1.toNat) (by omega);have m:=ZG (n:=x.2.2.1.length) (by omega);have y:=Y3 x.2.2.2.toNat
 unfold fz;simp only[yl];omega
theorem OT{t:Tx}(Y:mV t)(h:oO t):tA yD t=ab (iM t)/\(iM t).length<=40000:=by
 obtain⟨g,outs,j⟩:=t;obtain⟨w2,R⟩:=Y;obtain⟨Z,S,T,U,E,F⟩:=h;dsimp only at w2 R Z S T U E F;have W:=λk=>V4 (f:=eE) (c:=41) (λx A=>zu (w2 x A) (E x A)) S k;have lo:=λk=>V4 (f:=fu) (c:=551) (λx A=>zw (F x A)) T k;have G:=W g.length;have I:=lo outs.length;rw[yal]at G I;have r1:=ZG (n:=g.length) (by omega);have r2:=ZG (n:=outs.length) (by omega);have r3:=ZG (n:=j.toNat) (by omega);refine⟨?_,by unfold iM;simp only[yl];omega⟩;unfold tA;dsimp only;rw[jW (by omega) (by omega) (by simp),ya,yz,yau]
 rw[show(Yz g.length,g,(g.length:Int),(0:Int),(g,outs,j))=(λk:Nat=>(Yz g.length++bn eE (g.take k),g,(g.length:Int),(k:Int),(g,outs,j))) 0 by simp[bn],
  ZA (x:=(Yz g.length++bn eE g,(g,outs,j))) g.length (λk:Nat=>(Yz g.length++bn eE (g.take k),g,(g.length:Int),(k:Int),(g,outs,j))) ?_ ?_ (by omega),ya]
 .dsimp only;rw[jW (by omega) (by omega) (by rw[yl];omega),ya,yau];generalize X:Yz g.length++bn eE g++Yz outs.length=m;have hpl:m.length<=3000:=by rw[<-X];simp only[yl];omega
  rw[show(m,outs,(outs.length:Int),(0:Int),(g,outs,j))=(λk:Nat=>(m++bn fu (outs.take k),outs,(outs.length:Int),(k:Int),(g,outs,j))) 0 by simp[bn],
   ZA (x:=(m++bn fu outs,(g,outs,j))) outs.length (λk:Nat=>(m++bn fu (outs.take k),outs,(outs.length:Int),(k:Int),(g,outs,j))) ?_ ?_ (by omega),ya]
  .dsimp only;rw[jW U R (by rw[yl];omega),ya, <-X];unfold iM;simp only[yab]
  .intro k y;obtain⟨e,z,B⟩:=Zi y;have M:=lo k;have l:=F e B;have Q:=l.2.2.1;have hll:=qx Q;have hrl:=ZG (n:=e.1.toNat) (by have:=l.2.1;omega);unfold xK;dsimp only
   rw[yW (Zw y),Zl z,ya,jW l.1 (by have:=l.2.1;omega) (by rw[yl];omega),ya,OR l.2.2.1 l.2.2.2,ya,
    ZCq (by simp only[yl];omega) (by omega),ya,Zp (by omega),QE z]
   unfold fu;simp only[yab]
  .unfold xK;dsimp only;rw[yX (by rw[ZN];decide),yal]
 .intro k y;obtain⟨e,z,B⟩:=Zi y;have M:=W k;have h32:=w2 e B;have l:=E e B;unfold xJ;dsimp only
  rw[yW (Zw y),Zl z,ya,ZEr (by rw[yl];omega) (by omega),ya,jW l.1 (by have:=l.2.1;omega) (by simp only[yl];omega),ya,
   Zp (by omega),QE z]
  unfold eE;simp only[yab]
 .unfold xJ;dsimp only;rw[yX (by rw[ZN];decide),yal]
def eW(l:yL Out):Int:=(l.map (·.1)).sum
theorem ub{l:yL Out}{k:Nat}{e:Out}(h:l[k]? =ab e):eW (l.take (k+1))=eW (l.take k)+e.1:=by
 unfold eW;rw[Wu h,yat,List.sum_append];simp
theorem ZJ3:∀{l:yL Int},(∀x,x∈l->0<=x)->0<=l.sum
 |[],_=>by simp
 |x::r,h=>by
  have:=ZJ3 (l:=r) λy f=>h y (List.mem_cons_of_mem _ f);have:=h x (List.mem_cons_self ..);rw[List.sum_cons];omega
def qy:yL yB:=dn
def Ahd(a b:Cond):Prop:=a.1 < b.1\/a.1=b.1/\a.2.1 < b.2.1
instance(a b:Cond):Decidable (Ahd a b):=by unfold Ahd;infer_instance
theorem ZG8{lo hi:Int}{l:yL Int}(hl:l.length<=100)(h:∀x,x∈l->lo<=x/\x<=hi):Ya yD lo hi l=ab ae:=by
 unfold Ya Xh XP;rw[show(l,(l.length:Int),(0:Int),lo,hi)=(λk:Nat=>(l,(l.length:Int),(k:Int),lo,hi)) 0 from rfl,ZA (x:=.inr (lo,hi)) l.length (λk:Nat=>(l,(l.length:Int),(k:Int),lo,hi)) ?_ ?_ (by omega),ya]
 .rfl
 .intro k f;obtain⟨e,g,j⟩:=Zi f;have:=h e j;unfold ZX xR;dsimp only;rw[yW (Zw f),Zl g,ya,yX (cZ (by omega)),ya,yZ (by omega),yX (by simp),Zp (by omega)]
 .unfold ZX;dsimp only;rw[yX (by rw[ZN];decide)]
theorem w1{lo hi z:Int}(h1:lo<=z)(h2:z<=hi):Ya yD lo hi [z]=ab ae:=ZG8 (by simp) λx f=>by rw[List.mem_singleton.1 f];exact⟨h1,h2⟩
theorem Zwg(a b:Int):YO yD a b=ab (if a < b then-1 else if a > b then 1 else 0):=by
 unfold YO xS;rw[ya,ya];have e:∀z:Int,(z !=z)=af:=λz=>by simp
 rw[e,e,yX (by decide),yX (by decide)];by_cases f:a < b
 .rw[yW (yY f),yW f]
 .rw[yX (by rw[yN];exact f),yX f];by_cases g:a > b
  .rw[yW (yY g),yW g]
  .rw[yX (by rw[yN];exact g),yX g]
def mW:yL Int->Int
 |[]=>0
 |z::r=>if z≠0 then z else mW r
theorem ZQl{l:yL Int}(hl:l.length<=100):tE yD l=ab (mW l):=by
 have m:∀(d k f:Nat),k+d=l.length->d < f->∃x,Zd (V0 yD) f ((0:Int),l,(l.length:Int),(k:Int))=ab x/\(x=.inl (mW (l.drop k))\/x=.inr 0/\mW (l.drop k)=0):=by
  intro d
  induction d with
  |zero=>
   intro k f h A;obtain⟨f,rfl⟩:=Nat.exists_eq_succ_of_ne_zero (n:=f) (by omega);have:k=l.length:=by omega
   subst this;unfold Zd V0;dsimp only;rw[yX (by rw[ZN];decide),ya]
   exact⟨_,rfl,.inr ⟨rfl,by rw[List.drop_length];rfl⟩⟩
  |succ d B=>
   intro k f h A;obtain⟨f,rfl⟩:=Nat.exists_eq_succ_of_ne_zero (n:=f) (by omega);have g:k < l.length:=by omega
   obtain⟨e,y,G⟩:=Zi g
   have E:l.drop k=e::l.drop (k+1):=by
    rw[List.drop_eq_getElem_cons g];rw[yad g]at y;cases y;rfl
   rw[E];unfold Zd V0;dsimp only;rw[yW (Zw g),Zl y,ya];by_cases z:e=0
   .subst z;rw[yX (by decide),ya,Zp (by omega)];exact B (k+1) f (by omega) (by omega)
   .rw[yW (bne_iff_ne.2 z),ya];exact⟨_,rfl,.inl (by unfold mW;rw[yW z])⟩
 unfold tE;obtain⟨x,F,j⟩:=m l.length 0 yD (by omega) (by rw[iI];omega);rw[List.drop_zero]at j;show Option.bind (Zd (V0 yD) yD ((0:Int),l,(l.length:Int),((0:Nat):Int))) _=_;rw[F,ya];rcases j with rfl|⟨rfl,j⟩
 .rfl
 .rw[j]
theorem lP(p q:Prop)[Decidable p][Decidable q]{b:Bool}(h:b=ag (p/\q)):(if decide p=ae then ab (decide q) else ab af)=ab b:=by
 subst h;by_cases f:p
 .rw[yW (yY f)];by_cases g:q
  .rw[yY g,yY ⟨f,g⟩]
  .rw[yZ g,yZ λh=>g h.2]
 .rw[yX (by rw[yN];exact f),yZ λh=>f h.1]
theorem ZOP(z a b:Int):Wh yD z a b=ab (ag (a<=z/\z<=b)):=lP _ _ rfl
theorem zy(z a b:Int):Z1 yD z a b=ab (ag (a<=z/\z<=b)):=lP (z >= a) (z<=b) rfl
theorem OU(z a b:Int):Yt yD z a b=ab (ag (a<=z/\z<=b)):=lP (z >= a) (z<=b) rfl
def V5(t:bD):Prop:=(0<=t.1/\t.1<=65536)/\(1<=t.2.2.1/\t.2.2.1<=4096)/\(0<=t.2.2.2.1/\t.2.2.2.1<=16)/\(t.1<=t.2.1/\t.2.1<=1125899906842624)/\(1<=t.2.2.2.2.1/\t.2.2.2.2.1<=1125899906842624)/\(0<=t.2.2.2.2.2/\t.2.2.2.2.2<=1125899906842624)
instance(t:bD):Decidable (V5 t):=by unfold V5;infer_instance
theorem WR{p q:Prop}[Decidable p][Decidable q][Decidable (p/\q)]{x:yO Bool}(h:x=ab (decide q)):(if decide p=ae then x else ab af)=ab (ag (p/\q)):=by
 rw[h];exact lP p q (by congr)
theorem ZJ4(t:bD):xO yD t=ab (ag (V5 t)):=by
 unfold xO;simp only[ZOP,ya];exact WR (WR (WR (WR (WR rfl))))
theorem ZG9(t:bD):VO yD t=ab (ag (V5 t)):=by
 unfold VO;simp only[zy,ya];refine(WR (WR (WR (WR (WR rfl))))).trans (congrArg ab (decide_eq_decide.2 ?_));constructor
 .rintro⟨f,g,h,j,l,m⟩;exact⟨f,h,j,g,l,m⟩
 .rintro⟨f,h,j,g,l,m⟩;exact⟨f,g,h,j,l,m⟩
def pts(b:bp):yL yU:=[b.1,b.2.1,b.2.2.1,b.2.2.2.1,b.2.2.2.2]
def gb(p:yU):Prop:=eS p.toNat/\p≠1
instance(p:yU):Decidable (gb p):=by unfold gb;infer_instance
def fA(b:bp):Prop:=∀p,p∈pts b->gb p
instance(b:bp):Decidable (fA b):=by unfold fA;infer_instance
theorem ZJ5(p:yU):xP yD p=ab (!decide (gb p)):=by
 unfold xP;rw[OJ,ya];by_cases h:p=1
 .rw[yW (beq_iff_eq.2 h),yZ (p:=gb p) λk=>k.2 h];rfl
 .rw[yX (by rw[yT];exact h)];by_cases k:eS p.toNat
  .rw[yY k,yY (p:=gb p) ⟨k,h⟩]
  .rw[yZ k,yZ (p:=gb p) λq=>k q.1]
theorem ZOQ(p:yU):Q1 yD p=ab (ag (gb p)):=by
 unfold Q1;rw[zp,ya];by_cases k:eS p.toNat
 .rw[yY k,yW rfl];by_cases h:p=1
  .rw[yZ (p:=gb p) λq=>q.2 h,h];rfl
  .rw[yY (p:=gb p) ⟨k,h⟩];exact congrArg ab (bne_iff_ne.2 h)
 .rw[yZ k,yX (by decide),yZ (p:=gb p) λq=>k q.1]
theorem ZHa(b:bp):xQ yD b=ab (ag (fA b)):=by
 unfold xQ KW KV
 obtain⟨x,A,B⟩:=Xi (step:=Wi yD) 5 (λk s=>s=(pts b,(5:Int),(k:Int))/\∀j p,j < k->(pts b)[j]? =ab p->gb p) (λx=>(∃j:Nat,x=.inl (j:Int)/\¬fA b)\/x=.inr ()/\fA b) (i:=(pts b,((pts b).length:Int),(0:Int))) ⟨rfl,λj p g=>by omega⟩ (by omega) (by
  rintro k _ E ⟨rfl,g⟩;obtain⟨p,m,F⟩:=Zi (l:=pts b) (k:=k) E;unfold Wi;dsimp only;rw[yW (yY (by omega)),Zl m,ya,ZJ5,ya,Zp (by omega)];by_cases h:gb p
  .left;rw[yY h,yX (by decide)];refine⟨_,rfl,rfl,λj q G y=> ?_⟩;by_cases e:j=k
   .subst e;rw[m]at y;cases y;exact h
   .exact g j q (by omega) y
  .right;rw[yZ h,yW (by decide)];exact⟨_,rfl,.inl ⟨k,rfl,λI=>h (I p F)⟩⟩) (by
  rintro _ ⟨rfl,g⟩;unfold Wi;dsimp only;rw[yX (cZ (by omega))];refine⟨_,rfl,.inr ⟨rfl,λp m=> ?_⟩⟩;obtain⟨j,f,z⟩:=ybi m;exact g j p f (by rw[yad f,z]))
 rw[show([b.1,b.2.1,b.2.2.1,b.2.2.2.1,b.2.2.2.2]:yL yU)=pts b from rfl,A,ya]
 rcases B with⟨j,rfl,h⟩|⟨rfl,h⟩
 .dsimp only;rw[ya,ya,yY (show(j:Int) >= 0 by omega),yZ h];rfl
 .dsimp only;rw[ya,ya,yY h];rfl
theorem ZHb(i:Int)(ch:Chan)(b:bp):∃x,Zd (Xq yD) yD (i,pts b,(0:Int),ch,b)=ab x/\(x=.inl (1,ch,b)/\¬fA b\/x=.inr (i,ch,b)/\fA b):=by
 refine Xi (step:=Xq yD) 5 (λk s=>s=(i,pts b,(k:Int),ch,b)/\∀j p,j < k->(pts b)[j]? =ab p->gb p) _ (i:=(i,pts b,(0:Int),ch,b)) ⟨rfl,λj p g=>by omega⟩ (by omega) ?_ ?_
 .rintro k _ A ⟨rfl,g⟩;obtain⟨p,m,B⟩:=Zi (l:=pts b) (k:=k) A;unfold Xq;dsimp only;rw[yW (yY (by omega)),Zl m,ya,ZOQ,ya,Zp (by omega)];by_cases h:gb p
  .left;rw[yY h,yX (by decide)];refine⟨_,rfl,rfl,λj q E y=> ?_⟩;by_cases e:j=k
   .subst e;rw[m]at y;cases y;exact h
   .exact g j q (by omega) y
  .right;rw[yZ h,yW (by decide)];exact⟨_,rfl,.inl ⟨rfl,λF=>h (F p B)⟩⟩
 .rintro _ ⟨rfl,g⟩;unfold Xq;dsimp only;rw[yX (cZ (by omega))];refine⟨_,rfl,.inr ⟨rfl,λp m=> ?_⟩⟩;obtain⟨j,f,z⟩:=ybi m;exact g j p f (by rw[yad f,z])
structure iN(ch:Chan):Prop where
 b:ch.2.2.1.length=2
 t:ch.2.2.2.1.length=2
 a0: -9223372036854775808<=ch.2.1
 a1:ch.2.1<=9223372036854775807
 n0: -9223372036854775808<=ch.1.2
 n1:ch.1.2<=9223372036854775807
 o0: -9223372036854775808<=ch.2.2.2.2
 o1:ch.2.2.2.2<=9223372036854775807
def gW(ch:Chan):Prop:=∀i:Nat,i < 2->∀t b,ch.2.2.2.1[i]? =ab t->ch.2.2.1[i]? =ab b->V5 t/\fA b
open Classical in
theorem oP{α:Type}{l:yL α}(h:l.length=2):∃a b,l=[a,b]:=by
 match l,h with
 |[a,b],_=>exact⟨a,b,rfl⟩
theorem ZJ6{a:ZO}{A:Int}{f g:bp}{t0 t1:bD}{op:Int}:gW (a,A,[f,g],[t0,t1],op)↔(V5 t0/\fA f)/\V5 t1/\fA g:=by
 constructor
 .intro h;exact⟨h 0 (by omega) t0 f rfl rfl,h 1 (by omega) t1 g rfl rfl⟩
 .rintro⟨j,l⟩ i m t b y z;grind
theorem ZCt(ch:Chan)(l:yL bD){k:Nat}(f:k < 2){t:bD}{b:bp}(ht:l[k]? =ab t)(hb:ch.2.2.1[k]? =ab b):
 QK yD (l,(k:Int),ch)=ab (if V5 t/\fA b then .inl (l,((k+1:Nat):Int),ch) else .inr (.inl (1,ch))):=by
 unfold QK;dsimp only;rw[yW (yY (by omega)),Zl ht,ya,ZJ4,ya,yW (Wy (by omega) (by omega)),yau,hb,ya,ZHa,ya,Zp (by omega)]
 all_goals grind
theorem Zyj(ch:Chan){k:Nat}(l:k < 2){t:bD}{b:bp}(ht:ch.2.2.2.1[k]? =ab t)(hb:ch.2.2.1[k]? =ab b):
 Xr yD ((k:Int),ch)=ab (if V5 t/\fA b then .inl (((k+1:Nat):Int),ch) else .inr (.inl (1,ch))):=by
 unfold Xr;dsimp only;rw[yW (yY (by omega)),yW (Wy (by omega) (by omega)),yau,hb,ya,yW (Wy (by omega) (by omega)),ht,ya,ZG9,ya];obtain⟨x,g,j⟩:=ZHb (k:Int) ch b;rw[show([b.1,b.2.1,b.2.2.1,b.2.2.2.1,b.2.2.2.2]:yL yU)=pts b from rfl,g,ya]
 by_cases f:V5 t
 .rw[yY f,yX (by decide)];rcases j with⟨rfl,h⟩|⟨rfl,h⟩
  .dsimp only;rw[yX λq=>h q.2]
  .dsimp only;rw[yW ⟨f,h⟩,Zp (by omega)]
 .rw[yZ f,yW (by decide),yX λh=>f h.1]
theorem ZJ7(ch:Chan)(l:yL bD){t0 t1:bD}{f g:bp}(ht:l=[t0,t1])(hb:ch.2.2.1=[f,g]):
 Zd (QK yD) yD (l,(0:Int),ch)=ab (if(V5 t0/\fA f)/\V5 t1/\fA g then .inr ch else .inl (1,ch)):=by
 subst ht;have s0:=ZCt ch [t0,t1] (k:=0) (by omega) (t:=t0) (b:=f) rfl (by rw[hb];rfl);have s1:=ZCt ch [t0,t1] (k:=1) (by omega) (t:=t1) (b:=g) rfl (by rw[hb];rfl);by_cases j:V5 t0/\fA f
 .rw[yW j]at s0;by_cases m:V5 t1/\fA g
  .rw[yW m]at s1;rw[yW ⟨j,m⟩];refine ZA 2 (λk:Nat=>([t0,t1],(k:Int),ch)) ?_ ?_ (by omega)
   .all_goals grind
   .unfold QK;rfl
  .rw[yX m]at s1;rw[yX λh=>m h.2];exact ZA 1 (λk:Nat=>([t0,t1],(k:Int),ch)) (λk y=>by rw[show k=0 by omega];exact s0) s1 (by omega)
 .rw[yX j]at s0;rw[yX λh=>j h.1];exact ZA 0 (λk:Nat=>([t0,t1],(k:Int),ch)) (λk y=>absurd y (by omega)) s0 (by omega)
theorem ZEu(ch:Chan){t0 t1:bD}{f g:bp}(ht:ch.2.2.2.1=[t0,t1])(hb:ch.2.2.1=[f,g]):
 Zd (Xr yD) yD ((0:Int),ch)=ab (if(V5 t0/\fA f)/\V5 t1/\fA g then .inr ch else .inl (1,ch)):=by
 have s0:=Zyj ch (k:=0) (by omega) (t:=t0) (b:=f) (by rw[ht];rfl) (by rw[hb];rfl);have s1:=Zyj ch (k:=1) (by omega) (t:=t1) (b:=g) (by rw[ht];rfl) (by rw[hb];rfl);by_cases j:V5 t0/\fA f
 .rw[yW j]at s0;by_cases l:V5 t1/\fA g
  .rw[yW l]at s1;rw[yW ⟨j,l⟩];refine ZA 2 (λk:Nat=>((k:Int),ch)) ?_ ?_ (by omega)
   .intro k m;rcases (show k=0\/k=1 by omega) with rfl|rfl
    .exact s0
    .exact s1
   .unfold Xr;rfl
  .rw[yX l]at s1;rw[yX λh=>l h.2];exact ZA 1 (λk:Nat=>((k:Int),ch)) (λk m=>by rw[show k=0 by omega];exact s0) s1 (by omega)
 .rw[yX j]at s0;rw[yX λh=>j h.1];exact ZA 0 (λk:Nat=>((k:Int),ch)) (λk m=>absurd m (by omega)) s0 (by omega)
theorem ZCu(X:BitVec 64):(X&&& ~~~(1#64))=0#64↔X=0#64\/X=1#64:=by
 constructor
 .intro h
  have f:∀i:Nat,1<=i->X.getLsbD i=af:=by
   intro i g;have:=congrArg (λy=>BitVec.getLsbD y i) h;simp only[BitVec.getLsbD_and,BitVec.getLsbD_not,BitVec.getLsbD_zero]at this
   all_goals grind
  cases l:X.getLsbD 0 with
  |false=>
   left;apply BitVec.eq_of_getLsbD_eq;intro i g
   match i with
   |0=>rw[l];simp
   |j+1=>rw[f (j+1) (by omega)];simp
  |true=>
   right;apply BitVec.eq_of_getLsbD_eq;intro i g
   match i with
   |0=>rw[l];rfl
   |j+1=>
    rw[f (j+1) (by omega),BitVec.getLsbD_one];simp
 grind
theorem ZHc{op:Int}(j: -9223372036854775808<=op)(l:op<=9223372036854775807):((bits .andNot .i64 op 1)!=0)= !decide (0<=op/\op<=1):=by
 have e:bits .andNot .i64 op 1=IntKind.i64.wrap ((ybz 64 op&&& ~~~(1#64)).toNat:Int):=rfl;have f:=(ybz 64 op&&& ~~~(1#64)).isLt
 have m:∀n:Nat,n < 18446744073709551616->(IntKind.i64.wrap (n:Int)=0↔n=0):=by
  intro n g;have y:IntKind.i64.wrap (n:Int)=if(ag ((n:Int) % 18446744073709551616 >= 9223372036854775808))=ae then(n:Int) % 18446744073709551616 - 18446744073709551616 else(n:Int) % 18446744073709551616:=rfl
  all_goals grind
 have z:(ybz 64 op&&& ~~~(1#64)).toNat=0↔0<=op/\op<=1:=by
  rw[show((ybz 64 op&&& ~~~(1#64)).toNat=0↔(ybz 64 op&&& ~~~(1#64))=0#64) from⟨λh=>BitVec.eq_of_toNat_eq h,λh=>by rw[h];rfl⟩,ZCu]
  have g:(ybz 64 op).toNat=(op % 18446744073709551616).toNat:=by rw[BitVec.toNat_ofInt];rfl
  constructor
  .all_goals grind
  .rintro⟨A,B⟩;rcases (show op=0\/op=1 by omega) with rfl|rfl
   all_goals grind
 all_goals grind
theorem ZJ8{ch:Chan}(w:iN ch):∃e:Int,tC yD ch=ab e/\Vx yD ch=ab e/\(e=0->(1<=ch.2.1/\ch.2.1<=1125899906842624)/\(0<=ch.1.2/\ch.1.2<=63)/\(ch.2.2.2.2=0\/ch.2.2.2.2=1)/\gW ch):=by
 obtain⟨Q,R,y⟩:=oP w.b;obtain⟨t0,t1,B⟩:=oP w.t;have S:=w.a0;have E:=w.o0;have F:=w.o1;obtain⟨⟨id,no⟩,A,U,ts,G⟩:=ch;dsimp only at y B S E F;subst y;subst B;have j:=ZHc E F;unfold tC Vx;dsimp only;simp only[zy,ya];by_cases l:1<=A/\A<=1125899906842624
 .rw[yX (show¬ag (A < 1)=ae by rw[yN];omega),yX (show¬ag (A > 1125899906842624)=ae by rw[yN];omega)];rw[yX (show¬(!decide (1<=A/\A<=1125899906842624))=ae by rw[yY l];decide)];by_cases m:0<=no/\no<=63
  .rw[yX (show¬ag (no < 0)=ae by rw[yN];omega),yX (show¬ag (no >= 64)=ae by rw[yN];omega)];rw[yX (show¬(!decide (0<=no/\no<=63))=ae by rw[yY m];decide),j];by_cases I:0<=G/\G<=1
   .rw[yY I,yX (by decide),yX (by decide),ZJ7 _ _ rfl rfl,ZEu _ rfl rfl,ya,ya];by_cases g:(V5 t0/\fA Q)/\V5 t1/\fA R
    .rw[yW g];dsimp only;obtain⟨_,_,_,W,_⟩:=g.1.1;obtain⟨X,_⟩:=g.1.1;obtain⟨_,_,_,Y,_⟩:=g.2.1;obtain⟨Z,_⟩:=g.2.1
     have T:oz yD t0.2.1 t1.2.1=if t0.2.1+t1.2.1<=1125899906842624 then ab (t0.2.1+t1.2.1,ae) else ab (0,af):=by
      unfold oz th;rw[yW (yY (show t0.2.1 >= 0 by omega)),yW (yY (show t1.2.1 >= 0 by omega)),ya,ya,yY (show t0.2.1<=1125899906842624 by omega),yY (show t1.2.1<=1125899906842624 by omega),yX (by decide),yX (by decide),ZY (z:=1125899906842624 - t1.2.1) (by omega) (by omega),ZY (z:=t0.2.1+t1.2.1) (by omega) (by omega)];by_cases h:t0.2.1+t1.2.1<=1125899906842624
      .rw[yX (cZ (by omega)),yW h]
      .rw[yW (yY (by omega)),yX h]
     rw[yav,yaq,yav,ya,ya,ya,ya,T,ZY (z:=t0.2.1+t1.2.1) (by omega) (by omega)];refine⟨if t0.2.1+t1.2.1 > A then 10 else 0, ?_, ?_,λ_=>⟨l,m,by omega,ZJ6.2 g⟩⟩
     .by_cases M:t0.2.1+t1.2.1<=1125899906842624
      .rw[yW M,ya,yX (show¬(!true)=ae by decide)];by_cases f:t0.2.1+t1.2.1 > A
       .rw[yW (yY f),yW f]
       .rw[yX (by rw[yN];exact f),yX f]
      .rw[yX M,ya,yW (show(!false)=ae by decide),yW (by omega)]
     .by_cases f:t0.2.1+t1.2.1 > A
      .rw[yW (yY f),yW f]
      .rw[yX (by rw[yN];exact f),yX f]
    .rw[yX g];exact⟨1,rfl,rfl,λh=>absurd h (by decide)⟩
   .rw[yZ I,yW (by decide),yW (by decide)];exact⟨1,rfl,rfl,λh=>absurd h (by decide)⟩
  .rw[yW (show(!decide (0<=no/\no<=63))=ae by rw[yZ m];rfl)];refine⟨1, ?_,rfl,λh=>absurd h (by decide)⟩;by_cases h:no < 0
   .rw[yW (yY h)]
   .rw[yX (by rw[yN];exact h),yW (yY (by omega))]
 .rw[yW (show(!decide (1<=A/\A<=1125899906842624))=ae by rw[yZ l];rfl)];refine⟨1, ?_,rfl,λh=>absurd h (by decide)⟩;by_cases h:A < 1
  .rw[yW (yY h)]
  .rw[yX (by rw[yN];exact h),yW (yY (by omega))]
theorem Zyk{lo hi:Int}{l:yL Int}(hl:l.length<=100):Ya yD lo hi l=ab (ag (∀x,x∈l->lo<=x/\x<=hi)):=by
 unfold Ya Xh XP
 obtain⟨x,I,M⟩:=Xi (step:=ZX yD) l.length (λk s=>s=(l,(l.length:Int),(k:Int),lo,hi)/\∀(j:Nat)z,j < k->l[j]? =ab z->lo<=z/\z<=hi) (λx=>(∃j:Nat,x=.inl ((j:Int),lo,hi)/\¬∀z,z∈l->lo<=z/\z<=hi)\/x=.inr (lo,hi)/\∀z,z∈l->lo<=z/\z<=hi) (i:=(l,(l.length:Int),(0:Int),lo,hi)) ⟨rfl,λj z g=>by omega⟩ (by omega) (by
  rintro k _ B ⟨rfl,g⟩;obtain⟨z,E,F⟩:=Zi B;unfold ZX xR;dsimp only;rw[yW (Zw B),Zl E,ya,Zp (by omega)];by_cases h:z < lo
  .right;rw[yW (yY h),ya,yW rfl];exact⟨_,rfl,.inl ⟨k,rfl,λm=>by have:=m z F;omega⟩⟩
  .rw[yX (by rw[yN];exact h),ya];by_cases G:z > hi
   .right;rw[yW (yY G)];exact⟨_,rfl,.inl ⟨k,rfl,λm=>by have:=m z F;omega⟩⟩
   .left;rw[yX (by rw[yN];exact G)];refine⟨_,rfl,rfl,λj q Q y=> ?_⟩;by_cases e:j=k
    .subst e;rw[E]at y;cases y;omega
    .exact g j q (by omega) y) (by
  rintro _ ⟨rfl,g⟩;unfold ZX;dsimp only;rw[yX (by rw[ZN];decide)];refine⟨_,rfl,.inr ⟨rfl,λp R=> ?_⟩⟩;obtain⟨j,f,A⟩:=ybi R;exact g j p f (by rw[yad f,A]))
 rw[I,ya];rcases M with⟨j,rfl,h⟩|⟨rfl,h⟩
 .dsimp only;rw[ya,ya,yY (show(j:Int) >= 0 by omega),yZ h];rfl
 .dsimp only;rw[ya,ya,yY h];rfl
theorem OV(lo hi z:Int):Ya yD lo hi [z]=ab (ag (lo<=z/\z<=hi)):=by
 rw[Zyk (by simp)];simp_all
theorem ZMk(lo hi y z:Int):Ya yD lo hi [y,z]=ab (ag ((lo<=y/\y<=hi)/\lo<=z/\z<=hi)):=by
 rw[Zyk (by simp)];simp_all
def mX(c:Cond):Prop:=(0<=c.1/\c.1<=1)/\(1<=c.2.1/\c.2.1<=1048576)/\(1<=c.2.2.1/\c.2.2.1<=1125899906842624)/\(1<=c.2.2.2.2/\c.2.2.2.2<=1048576)/\gb c.2.2.2.1
instance(c:Cond):Decidable (mX c):=by unfold mX;infer_instance
theorem ZMl(c:Cond):tD yD c=ab (ag (mX c)):=by
 unfold tD;simp only[OV,ya,OJ];refine WR (WR (WR (WR ?_)));by_cases k:eS c.2.2.2.1.toNat
 .rw[yY k,yW rfl];by_cases h:c.2.2.2.1=1
  .rw[yZ (p:=gb c.2.2.2.1) λq=>q.2 h,h];rfl
  .rw[yY (p:=gb c.2.2.2.1) ⟨k,h⟩];exact congrArg ab (bne_iff_ne.2 h)
 .rw[yZ k,yX (by decide),yZ (p:=gb c.2.2.2.1) λq=>k q.1]
theorem ZJ9(c:Cond):Qo yD c=ab (ag (mX c)):=by
 unfold Qo;simp only[OU,ya,zp];by_cases k:eS c.2.2.2.1.toNat
 .rw[yY k,yW rfl];by_cases h:c.2.2.2.1=1
  .rw[yZ (p:=mX c) λq=>q.2.2.2.2.2 h,h];rfl
  .rw[yW (bne_iff_ne.2 h)];refine(WR (WR (WR rfl))).trans (congrArg ab (decide_eq_decide.2 ?_));constructor
   .rintro⟨f,g,j,l⟩;exact⟨f,g,j,l,k,h⟩
   .rintro⟨f,g,j,l,_⟩;exact⟨f,g,j,l⟩
 .rw[yZ k,yX (by decide),yZ (p:=mX c) λq=>k q.2.2.2.2.1]
def jX(a b:Cond):Prop:=a.1 < b.1\/a.1=b.1/\a.2.1 < b.2.1
instance(a b:Cond):Decidable (jX a b):=by unfold jX;infer_instance
theorem ZKa(a b:Cond):∃v,qo yD a b=ab v/\(v >= 0↔¬jX a b):=by
 unfold qo;rw[Zwg,Zwg,ya,ya,ZQl (by simp),ya];refine⟨_,rfl, ?_⟩;unfold jX;by_cases f:a.1 < b.1
 .simp only[yW f,mW];simp[f]
 .by_cases g:a.1 > b.1
  .simp only[yX f,yW g,mW];simp;omega
  .simp only[yX f,yX g,mW]
   all_goals grind
theorem ZHd(a b:Cond):VP yD a b=ab (ag (jX a b)):=by
 unfold VP;by_cases f:a.1 < b.1
 .rw[yW (yY f),yY (p:=jX a b) (.inl f)]
 .rw[yX (by rw[yN];exact f)];by_cases g:a.1=b.1
  .rw[yW (beq_iff_eq.2 g)];exact congrArg ab (decide_eq_decide.2 (by unfold jX;omega))
  .rw[yX (by rw[yT];exact g),yZ (p:=jX a b) (by unfold jX;omega)]
def zz(to:Int)(o:Int×Int)(c:Cond):Int×Int:=if c.1=wi (1 - to) then(wi (o.1+1),wi (o.2+c.2.2.1)) else o
def off(to:Int)(l:yL Cond):Int×Int:=l.foldl (zz to) (0,0)
theorem ZKb{to:Int}{l:yL Cond}{k:Nat}{c:Cond}(h:l[k]? =ab c):off to (l.take (k+1))=zz to (off to (l.take k)) c:=by
 rw[Wu h,off,List.foldl_append];rfl
theorem ZEv(s:yG)(to:Int)(hl:s.2.2.1.length<=1000):tF yD s to=ab (off to s.2.2.1):=by
 unfold tF;rw[show((to,(0:Int),(0:Int),s.2.2.1,(s.2.2.1.length:Int),(0:Int),s):Int×Int×Int×yL Cond×Int×Int×yG)=(λk:Nat=>(to,(off to (s.2.2.1.take k)).1,(off to (s.2.2.1.take k)).2,s.2.2.1,(s.2.2.1.length:Int),(k:Int),s)) 0 from rfl]
 rw[ZA (x:=((off to s.2.2.1).1,(off to s.2.2.1).2,s)) s.2.2.1.length (λk:Nat=>(to,(off to (s.2.2.1.take k)).1,(off to (s.2.2.1.take k)).2,s.2.2.1,(s.2.2.1.length:Int),(k:Int),s)) ?_ ?_ (by omega),ya]
 .intro k f;obtain⟨c,g,h⟩:=Zi f;unfold QX;dsimp only;rw[yW (Zw f),Zl g,ya,Zp (by omega),ZKb g];unfold zz
  all_goals grind
 .unfold QX;grind
theorem ZCv(s:yG)(to:Int)(hl:s.2.2.1.length<=1000):W5 yD s to=ab (off to s.2.2.1):=by
 unfold W5;rw[show((to,(0:Int),(0:Int),(0:Int),s):Int×Int×Int×Int×yG)=(λk:Nat=>(to,(off to (s.2.2.1.take k)).1,(off to (s.2.2.1.take k)).2,(k:Int),s)) 0 from rfl]
 rw[ZA (x:=((off to s.2.2.1).1,(off to s.2.2.1).2,s)) s.2.2.1.length (λk:Nat=>(to,(off to (s.2.2.1.take k)).1,(off to (s.2.2.1.take k)).2,(k:Int),s)) ?_ ?_ (by omega),ya]
 .intro k f;obtain⟨c,g,j⟩:=Zi f;unfold Wb;dsimp only;rw[yW (Zw f),Zl g,ya,ya,Zp (by omega),ZKb g];unfold zz;by_cases h:c.1=wi (1 - to)
  .rw[yW (beq_iff_eq.2 h),yW h]
  .rw[yX (by rw[yT];exact h),yX h]
 .unfold Wb;dsimp only;rw[yX (by rw[ZN];decide),yal]
def ZQm(o:Int)(c:Cond):Int:=wi (o+c.2.2.1)
def ej(z:Int)(l:yL Cond):Int:=l.foldl ZQm z
theorem ZKc{z:Int}{l:yL Cond}{k:Nat}{c:Cond}(h:l[k]? =ab c):ej z (l.take (k+1))=ZQm (ej z (l.take k)) c:=by
 rw[Wu h,ej,List.foldl_append];rfl
theorem ZKd(s:yG){a b:Int}(h2:s.2.1=[a,b])(hl:s.2.2.1.length<=1000):xN yD s=ab (ej (wi (a+b)) s.2.2.1):=by
 unfold xN;rw[h2,yav,yaq,yav,ya,ya];rw[show((wi (a+b),s.2.2.1,(s.2.2.1.length:Int),(0:Int),s):Int×yL Cond×Int×Int×yG)=(λk:Nat=>(ej (wi (a+b)) (s.2.2.1.take k),s.2.2.1,(s.2.2.1.length:Int),(k:Int),s)) 0 from rfl]
 rw[ZA (x:=(ej (wi (a+b)) s.2.2.1,s)) s.2.2.1.length (λk:Nat=>(ej (wi (a+b)) (s.2.2.1.take k),s.2.2.1,(s.2.2.1.length:Int),(k:Int),s)) ?_ ?_ (by omega),ya]
 .intro k f;obtain⟨c,g,h⟩:=Zi f;unfold xM;dsimp only;rw[yW (Zw f),Zl g,ya,Zp (by omega),ZKc g];rfl
 .unfold xM;grind
theorem ZHe(s:yG){a b:Int}(h2:s.2.1=[a,b])(hl:s.2.2.1.length<=1000):VQ yD s=ab (ej (wi (a+b)) s.2.2.1):=by
 unfold VQ;rw[h2,yav,yaq,yav,ya,ya];rw[show((wi (a+b),(0:Int),s):Int×Int×yG)=(λk:Nat=>(ej (wi (a+b)) (s.2.2.1.take k),(k:Int),s)) 0 from rfl]
 rw[ZA (x:=(ej (wi (a+b)) s.2.2.1,s)) s.2.2.1.length (λk:Nat=>(ej (wi (a+b)) (s.2.2.1.take k),(k:Int),s)) ?_ ?_ (by omega),ya]
 .intro k f;obtain⟨c,g,h⟩:=Zi f;unfold WO;dsimp only;rw[yW (Zw f),Zl g,ya,Zp (by omega),ZKc g];rfl
 .unfold WO;dsimp only;rw[yX (by rw[ZN];decide),yal]
def fF(r n:Int):Int:=if 0<=r/\r<=1000 then if 0<=n/\n<=16 then r*(68+8*n) else 0 else 0
theorem Zyl{r n:Int}(h1:0<=r)(h2:r<=1000)(h3:0<=n)(h4:n<=16):wi (r*(68+8*n))=r*(68+8*n):=by
 have:=Int.mul_nonneg h1 (show 0<=68+8*n by omega);have:=Int.mul_le_mul h2 (show 68+8*n<=196 by omega) (by omega) (by omega);exact ZY (by omega) (by omega)
theorem ZOR(r n:Int):tG yD r n=ab (fF r n):=by
 unfold tG LF fF;by_cases h:r < 0
 .grind
 .rw[yX (show¬ag (r < 0)=ae by rw[yN];exact h)];by_cases j:r > 1000
  .grind
  .rw[yX (show¬ag (r > 1000)=ae by rw[yN];exact j),yW (show 0<=r/\r<=1000 by omega)];by_cases f:n < 0
   .rw[yW (yY f),yX (show¬(0<=n/\n<=16) by omega),ya,Int.mul_zero];rfl
   .rw[yX (show¬ag (n < 0)=ae by rw[yN];exact f)];by_cases g:n > 16
    .rw[yW (yY g),yX (show¬(0<=n/\n<=16) by omega),ya,Int.mul_zero];rfl
    .rw[yX (show¬ag (n > 16)=ae by rw[yN];exact g),yW (show 0<=n/\n<=16 by omega),ya,ZY (z:=8*n) (by omega) (by omega),ZY (z:=68+8*n) (by omega) (by omega),Zyl (by omega) (by omega) (by omega) (by omega)]
theorem ZMn(r n:Int):Q2 yD r n=ab (fF r n):=by
 unfold Q2 NL fF;rw[zy,zy,ya,ya];by_cases f:0<=r/\r<=1000
 .rw[yY f,yX (by decide),yW f];by_cases g:0<=n/\n<=16
  .rw[yY g,yX (by decide),yW g,ya,ZY (z:=4+n) (by omega) (by omega),ZY (z:=(4+n)*8) (by omega) (by omega),ZY (z:=36+(4+n)*8) (by omega) (by omega),show(36+(4+n)*8:Int)=68+8*n by omega,Zyl f.1 f.2 g.1 g.2]
  .rw[yZ g,yW (by decide),yX g,ya,Int.mul_zero];rfl
 .rw[yZ f,yW (by decide),yX f]
theorem ZMo(ch:Chan)(s:yG):tH yD ch s=ab (wi (fF s.2.2.2 (s.2.2.1.length:Int)+660)):=by
 unfold tH;rw[ZOR,ya]
theorem ZKe(ch:Chan)(s:yG):Qp yD ch s=ab (wi (fF s.2.2.2 (s.2.2.1.length:Int)+660)):=by
 unfold Qp;rw[ZMn,ya]
def bz(n:Nat)(ok:Nat->Prop):Prop:=∀k,k < n->ok k
open Classical in
theorem kL{I X:Type}{step:I->yO (I⊕X)}(n:Nat)(st:Nat->I)(ok:Nat->Prop)(f g:X)
 (h1:∀k,k < n->ok k->step (st k)=ab (.inl (st (k+1)))) (h2:∀k,k < n->¬ok k->step (st k)=ab (.inr g)) (he:step (st n)=ab (.inr f)) (y:n < 18446744073709551616):
 Zd step yD (st 0)=ab (if bz n ok then f else g):=by
 obtain⟨x,e,rfl⟩:=Xi (step:=step) n (λk s=>s=st k/\∀j,j < k->ok j) (λx=>x=if bz n ok then f else g) (i:=st 0) ⟨rfl,λj h=>by omega⟩ y (by
  rintro k _ l ⟨rfl,m⟩;by_cases h:ok k
  .left;refine⟨_,h1 k l h,rfl,λj z=> ?_⟩;by_cases e:j=k
   .rw[e];exact h
   .exact m j (by omega)
  .right;exact⟨_,h2 k l h,by rw[yX λq=>h (q k l)]⟩) (by
  rintro _ ⟨rfl,m⟩;exact⟨_,he,by rw[yW (show bz n ok from m)]⟩)
 exact e
def cB(ch:Chan)(l:yL Cond)(k:Nat):Prop:=∀c,l[k]? =ab c->mX c/\(∀p,0 < k->l[k - 1]? =ab p->jX p c)/\∀t,ch.2.2.2.1[(1 - c.1).toNat]? =ab t->t.2.2.2.2.1<=c.2.2.1
def cX(ch:Chan)(l:yL Cond)(k:Nat):Prop:=∀t,ch.2.2.2.1[k]? =ab t->(off (k:Int) l).1<=t.2.2.2.1/\(off (k:Int) l).2<=t.2.2.2.2.2
theorem ZEw{ch:Chan}(w:ch.2.2.2.1.length=2){c:Cond}(h:0<=c.1/\c.1<=1):wi (1 - c.1)=1 - c.1/\bi (wi (1 - c.1)) 2=ae/\∃t,ch.2.2.2.1[(wi (1 - c.1)).toNat]? =ab t/\ch.2.2.2.1[(1 - c.1).toNat]? =ab t:=by
 have e:wi (1 - c.1)=1 - c.1:=ZY (by omega) (by omega);rw[e];obtain⟨t,f,_⟩:=Zi (l:=ch.2.2.2.1) (k:=(1 - c.1).toNat) (by omega);exact⟨rfl,Wy (by omega) (by omega),t,f,f⟩
theorem zA{ch:Chan}(w:ch.2.2.2.1.length=2)(s:yG){k:Nat}(G:k < s.2.2.1.length)(hl:s.2.2.1.length<=16):
 (cB ch s.2.2.1 k->Wz yD (s.2.2.1,(s.2.2.1.length:Int),(k:Int),ch,s)=ab (.inl (s.2.2.1,(s.2.2.1.length:Int),((k+1:Nat):Int),ch,s))/\Yq yD ((k:Int),ch,s)=ab (.inl (((k+1:Nat):Int),ch,s)))/\
 (¬cB ch s.2.2.1 k->Wz yD (s.2.2.1,(s.2.2.1.length:Int),(k:Int),ch,s)=ab (.inr (.inl (af,ch,s)))/\Yq yD ((k:Int),ch,s)=ab (.inr (.inl (af,ch,s)))):=by
 obtain⟨c,y,Y⟩:=Zi G;unfold Wz Yq;dsimp only;rw[yW (Zw G),yW (Zw G)];simp only[Zl y,ya,ZMl,ZJ9];rw[Zp (by omega)];by_cases z:mX c
 .rw[yY z,yX (show¬(!true)=ae by decide),yX (show¬(!true)=ae by decide)];obtain⟨e,Q,t,R,m⟩:=ZEw w z.1;simp only[yW Q];rw[R,ya];by_cases I:k=0
  .subst I;rw[yX (show¬ag (((0:Nat):Int) > 0)=ae by decide),yX (show¬ag (((0:Nat):Int) > 0)=ae by decide)];by_cases g:c.2.2.1 < t.2.2.2.2.1
   .have f:¬cB ch s.2.2.1 0:=λq=>by
     have:=(q c y).2.2 t m;omega
    refine⟨λq=>absurd q f,λ_=> ?_⟩;rw[yW (yY g),ya,yW (yY g)];exact⟨rfl,rfl⟩
   .have h:cB ch s.2.2.1 0:=λS j=>by
     rw[y]at j;cases j;refine⟨z,λp T=>by omega,λU B=> ?_⟩;rw[m]at B;cases B;omega
    refine⟨λ_=> ?_,λq=>absurd h q⟩;rw[yX (show¬ag (c.2.2.1 < t.2.2.2.2.1)=ae by rw[yN];exact g),ya,yX (show¬ag (c.2.2.1 < t.2.2.2.2.1)=ae by rw[yN];exact g)];exact⟨rfl,rfl⟩
  .obtain⟨p,M,_⟩:=Zi (l:=s.2.2.1) (k:=k - 1) (by omega)
   have W:wi ((k:Int) - 1)=((k - 1:Nat):Int):=by
    rw[ZY (by omega) (by omega)];omega
   rw[yW (show ag ((k:Int) > 0)=ae from yY (by omega)),yW (show ag ((k:Int) > 0)=ae from yY (by omega)),W,Zl M,ya,ya]
   obtain⟨v,X,E⟩:=ZKa p c;rw[X,ya,ZHd,ya];by_cases A:jX p c
   .rw[yY A,yX (show¬(!true)=ae by decide)];by_cases g:c.2.2.1 < t.2.2.2.2.1
    .have f:¬cB ch s.2.2.1 k:=λq=>by
      have:=(q c y).2.2 t m;omega
     refine⟨λq=>absurd q f,λ_=> ?_⟩;rw[yW (yY g),ya,yW (yY g)];exact⟨rfl,rfl⟩
    .have h:cB ch s.2.2.1 k:=λS j=>by
      rw[y]at j;cases j;refine⟨z,λZ T F=> ?_,λU B=> ?_⟩
      .rw[M]at F;cases F;exact A
      .rw[m]at B;cases B;omega
     refine⟨λ_=> ?_,λq=>absurd h q⟩;rw[yX (show¬ag (c.2.2.1 < t.2.2.2.2.1)=ae by rw[yN];exact g),ya,yX (show¬ag (c.2.2.1 < t.2.2.2.2.1)=ae by rw[yN];exact g),yX (show¬ag (v >= 0)=ae by rw[yN];exact λq=>E.1 q A)];exact⟨rfl,rfl⟩
   .have f:¬cB ch s.2.2.1 k:=λq=>A ((q c y).2.1 p (by omega) M);refine⟨λq=>absurd q f,λ_=> ?_⟩;rw[yZ A,yW (show(!false)=ae by decide),yW (show ag (v >= 0)=ae from yY (E.2 A))]
    refine⟨?_,rfl⟩;by_cases g:c.2.2.1 < t.2.2.2.2.1
    .rw[yW (yY g)]
    .rw[yX (show¬ag (c.2.2.1 < t.2.2.2.2.1)=ae by rw[yN];exact g)]
 .have f:¬cB ch s.2.2.1 k:=λq=>z (q c y).1;refine⟨λq=>absurd q f,λ_=> ?_⟩;rw[yZ z,yW (show(!false)=ae by decide),yW (show(!false)=ae by decide)];exact⟨rfl,rfl⟩
open Classical in
theorem Zwh{ch:Chan}(w:ch.2.2.2.1.length=2)(s:yG)(hl:s.2.2.1.length<=16):
 Zd (Wz yD) yD (s.2.2.1,(s.2.2.1.length:Int),(0:Int),ch,s)=ab (if bz s.2.2.1.length (cB ch s.2.2.1) then .inr (ch,s) else .inl (af,ch,s))/\
 Zd (Yq yD) yD ((0:Int),ch,s)=ab (if bz s.2.2.1.length (cB ch s.2.2.1) then .inr (ch,s) else .inl (af,ch,s)):=by
 constructor
 .refine kL s.2.2.1.length (λk:Nat=>(s.2.2.1,(s.2.2.1.length:Int),(k:Int),ch,s)) (cB ch s.2.2.1) _ _ (λk f h=>((zA w s f hl).1 h).1) (λk f h=>((zA w s f hl).2 h).1) ?_ (by omega);unfold Wz;dsimp only;rw[yX (by rw[ZN];decide)]
 .refine kL s.2.2.1.length (λk:Nat=>((k:Int),ch,s)) (cB ch s.2.2.1) _ _ (λk f h=>((zA w s f hl).1 h).2) (λk f h=>((zA w s f hl).2 h).2) ?_ (by omega);unfold Yq;dsimp only;rw[yX (by rw[ZN];decide)]
theorem zC{ch:Chan}(w:ch.2.2.2.1.length=2)(s:yG){k:Nat}(z:k < 2)(hl:s.2.2.1.length<=16):
 (cX ch s.2.2.1 k->Vc yD (ch.2.2.2.1,(k:Int),ch,s)=ab (.inl (ch.2.2.2.1,((k+1:Nat):Int),ch,s))/\YS yD ((k:Int),ch,s)=ab (.inl (((k+1:Nat):Int),ch,s)))/\
 (¬cX ch s.2.2.1 k->Vc yD (ch.2.2.2.1,(k:Int),ch,s)=ab (.inr (.inl (af,ch,s)))/\YS yD ((k:Int),ch,s)=ab (.inr (.inl (af,ch,s)))):=by
 obtain⟨t,g,_⟩:=Zi (l:=ch.2.2.2.1) (k:=k) (by omega);unfold Vc YS;dsimp only;rw[yW (show ag ((k:Int) < 2)=ae from yY (by omega)),yW (show ag ((k:Int) < 2)=ae from yY (by omega)),Zl g,ya,ZEv s _ (by omega),ZCv s _ (by omega),ya,ya,yW (Wy (by omega) (by omega)),yW (Wy (by omega) (by omega)),yau,g,ya,ya,Zp (by omega)]
 by_cases j:(off (k:Int) s.2.2.1).1 > t.2.2.2.1
 .have f:¬cX ch s.2.2.1 k:=λq=>by
   have:=(q t g).1;omega
  refine⟨λq=>absurd q f,λ_=> ?_⟩;rw[yW (yY j),yW (yY j)];exact⟨rfl,rfl⟩
 .rw[yX (show¬ag ((off (k:Int) s.2.2.1).1 > t.2.2.2.1)=ae by rw[yN];exact j),yX (show¬ag ((off (k:Int) s.2.2.1).1 > t.2.2.2.1)=ae by rw[yN];exact j)];by_cases m:(off (k:Int) s.2.2.1).2 > t.2.2.2.2.2
  .have f:¬cX ch s.2.2.1 k:=λq=>by
    have:=(q t g).2;omega
   refine⟨λq=>absurd q f,λ_=> ?_⟩;rw[yW (yY m),yW (yY m)];exact⟨rfl,rfl⟩
  .have h:cX ch s.2.2.1 k:=λA y=>by
    rw[g]at y;cases y;omega
   refine⟨λ_=> ?_,λq=>absurd h q⟩;rw[yX (show¬ag ((off (k:Int) s.2.2.1).2 > t.2.2.2.2.2)=ae by rw[yN];exact m),yX (show¬ag ((off (k:Int) s.2.2.1).2 > t.2.2.2.2.2)=ae by rw[yN];exact m)];exact⟨rfl,rfl⟩
open Classical in
theorem Zwi{ch:Chan}(w:ch.2.2.2.1.length=2)(s:yG)(hl:s.2.2.1.length<=16):
 Zd (Vc yD) yD (ch.2.2.2.1,(0:Int),ch,s)=ab (if bz 2 (cX ch s.2.2.1) then .inr (ch,s) else .inl (af,ch,s))/\
 Zd (YS yD) yD ((0:Int),ch,s)=ab (if bz 2 (cX ch s.2.2.1) then .inr (ch,s) else .inl (af,ch,s)):=by
 constructor
 .exact kL 2 (λk:Nat=>(ch.2.2.2.1,(k:Int),ch,s)) (cX ch s.2.2.1) _ _ (λk f h=>((zC w s f hl).1 h).1) (λk f h=>((zC w s f hl).2 h).1) rfl (by omega)
 .exact kL 2 (λk:Nat=>((k:Int),ch,s)) (cX ch s.2.2.1) _ _ (λk f h=>((zC w s f hl).1 h).2) (λk f h=>((zC w s f hl).2 h).2) rfl (by omega)
structure OW(ch:Chan)(s:yG):Prop where
 am:1<=ch.2.1/\ch.2.1<=1125899906842624
 at_:0<=ch.1.2/\ch.1.2<=63
 op:ch.2.2.2.2=0\/ch.2.2.2.2=1
 side:gW ch
 no:0<=s.1/\s.1<=1048576
 uc:∃a b,s.2.1=[a,b]/\(0<=a/\a<=1125899906842624)/\(0<=b/\b<=1125899906842624)/\ej (wi (a+b)) s.2.2.1=ch.2.1/\(ch.2.2.2.2=0->a >= wi (fF s.2.2.2 (s.2.2.1.length:Int)+660))/\(ch.2.2.2.2=1->b >= wi (fF s.2.2.2 (s.2.2.1.length:Int)+660))
 rate:0<=s.2.2.2/\s.2.2.2<=1000
 len:s.2.2.1.length<=16
 conds:∀k,k < s.2.2.1.length->cB ch s.2.2.1 k
 sides:∀k,k < 2->cX ch s.2.2.1 k
theorem ZCw{ch:Chan}(w:iN ch){s:yG}(R:s.2.1.length=2):∃b:Bool,aL yD ch s=ab b/\XN yD ch s=ab b/\(b=ae->OW ch s):=by
 obtain⟨e,f1,f2,f3⟩:=ZJ8 w;obtain⟨a,b,hs⟩:=oP R;unfold aL XN;rw[f1,f2,ya,ya];by_cases G:e=0
 .subst G;obtain⟨I,M,S,Q⟩:=f3 rfl;rw[yX (show¬(((0:Int)!=0)=ae) by decide),yX (show¬(((0:Int)!=0)=ae) by decide),OV,OU,ya,ya,hs];by_cases A:0<=s.1/\s.1<=1048576
  .rw[yY A,yX (show¬(!true)=ae by decide),yX (show¬(!true)=ae by decide),yav,yaq,yav];simp only[ya,ZMk,OV,OU];by_cases g:0<=a/\a<=1125899906842624
   .by_cases j:0<=b/\b<=1125899906842624
    .rw[yY (p:=(0<=a/\a<=1125899906842624)/\0<=b/\b<=1125899906842624) ⟨g,j⟩,yY g,yY j];rw[yX (show¬(!true)=ae by decide),yX (show¬(!true)=ae by decide),yX (show¬(!true)=ae by decide)];by_cases B:0<=s.2.2.2/\s.2.2.2<=1000
     .rw[yY B,yX (show¬(!true)=ae by decide),yX (show¬(!true)=ae by decide)];by_cases l:s.2.2.1.length<=16
      .have f:¬ag ((s.2.2.1.length:Int) > 16)=ae:=by rw[yN];omega
       rw[yX f,yX f,(Zwh w.t s l).1,(Zwh w.t s l).2,ya,ya];by_cases E:bz s.2.2.1.length (cB ch s.2.2.1)
       .rw[yW E];dsimp only;rw[(Zwi w.t s l).1,(Zwi w.t s l).2,ya,ya];by_cases F:bz 2 (cX ch s.2.2.1)
        .rw[yW F];dsimp only;rw[ZKd s hs (by omega),ZHe s hs (by omega),ya,ya];by_cases m:ej (wi (a+b)) s.2.2.1=ch.2.1
         .rw[yW (beq_iff_eq.2 m),yW (beq_iff_eq.2 m),hs,ZMo,ZKe];rcases S with q|q
          .rw[q,yW (by decide)];refine⟨ag (a >= wi (fF s.2.2.2 (s.2.2.1.length:Int)+660)),rfl,rfl,λh=>⟨I,M,.inl q,Q,A,⟨a,b,hs,g,j,m,λ_=>yF h,λh=> ?_⟩,B,l,E,F⟩⟩;rw[q]at h;exact absurd h (by decide)
          .rw[q,yW (by decide)];refine⟨ag (b >= wi (fF s.2.2.2 (s.2.2.1.length:Int)+660)),rfl,rfl,λh=>⟨I,M,.inr q,Q,A,⟨a,b,hs,g,j,m,λh=> ?_,λ_=>yF h⟩,B,l,E,F⟩⟩;rw[q]at h;exact absurd h (by decide)
         .have y:¬(ej (wi (a+b)) s.2.2.1==ch.2.1)=ae:=by rw[yT];exact m
          rw[yX y,yX y];exact⟨af,rfl,rfl,λh=>absurd h (by decide)⟩
        .rw[yX F];exact⟨af,rfl,rfl,λh=>absurd h (by decide)⟩
       .rw[yX E];exact⟨af,rfl,rfl,λh=>absurd h (by decide)⟩
      .have f:ag ((s.2.2.1.length:Int) > 16)=ae:=yY (by omega);rw[yW f,yW f];exact⟨af,rfl,rfl,λh=>absurd h (by decide)⟩
     .rw[yZ B];exact⟨af,rfl,rfl,λh=>absurd h (by decide)⟩
    .rw[yZ (p:=(0<=a/\a<=1125899906842624)/\0<=b/\b<=1125899906842624) λq=>j q.2,yY g,yZ j];exact⟨af,rfl,rfl,λh=>absurd h (by decide)⟩
   .rw[yZ (p:=(0<=a/\a<=1125899906842624)/\0<=b/\b<=1125899906842624) λq=>g q.1,yZ g];exact⟨af,rfl,rfl,λh=>absurd h (by decide)⟩
  .rw[yZ A];exact⟨af,rfl,rfl,λh=>absurd h (by decide)⟩
 .have z:(e !=0)=ae:=bne_iff_ne.2 G;rw[yW z,yW z];exact⟨af,rfl,rfl,λh=>absurd h (by decide)⟩
theorem Q6(n:Nat):(eU n).length=8:=rfl
theorem ZKf(n:yU):Qs yD n=ab (eU n.toNat):=by
 unfold Qs
 have e:=ZA (step:=XV yD) 8 (λk:Nat=>(n,56 - 8*(k:Int),(eU n.toNat).take k)) (x:=eU n.toNat) (by
  intro k f;have g:(eU n.toNat)[k]? =_:=OD n f;have j:((eU n.toNat).take k).length<=8:=by rw[yac];exact ybr (Nat.min_le_right _ _) (ym _)
  unfold XV;dsimp only;have h:min (56 - 8*(k:Int)).toNat 64=56 - 8*k:=by omega
  rw[yW (yY (by omega)),yW (yY (by omega)),yW (ZT (by omega) (by omega)),ZY (z:=56 - 8*(k:Int) - 8) (by omega) (by omega),h,show 56 - 8*(k:Int) - 8=56 - 8*((k+1:Nat):Int) by omega,List.take_add_one,g];rfl) (by
  unfold XV;dsimp only;rw[yX (cZ (by omega))];rfl) (by omega)
 grind
theorem ZHf(n:yU):W6 yD n=ab (eU n.toNat):=by
 unfold W6
 have e:=ZA (step:=Xg yD) 8 (λk:Nat=>(n,56 - 8*(k:Int),([]:yL yB),(eU n.toNat).take k)) (x:=(([]:yL yB),eU n.toNat)) (by
  intro k f;have g:(eU n.toNat)[k]? =_:=OD n f;have j:((eU n.toNat).take k).length<=8:=by rw[yac];exact ybr (Nat.min_le_right _ _) (ym _)
  unfold Xg;dsimp only;have h:min (56 - 8*(k:Int)).toNat 64=56 - 8*k:=by omega
  rw[yW (yY (by omega)),yW (yY (by omega)),yW (ZT (by omega) (by omega)),ZY (z:=56 - 8*(k:Int) - 8) (by omega) (by omega),h,show 56 - 8*(k:Int) - 8=56 - 8*((k+1:Nat):Int) by omega,List.take_add_one,g];rfl) (by
  unfold Xg;dsimp only;rw[yX (cZ (by omega))];rfl) (by omega)
 grind
def lQ(l:yL yB):yL yB:=eU l.length++l
def mY(s:ByteArray)(ls:yL aQa):yL yB:=eU s.size++fX s++bn lQ ls
theorem ZCy(s:ByteArray):(fX s).length=s.size:=by
 unfold fX;simp_all
theorem zO{ls:yL aQa}(h2:ls.length<=10)(h3:∀l,l∈ls->l.length<=60000)(k:Nat):(bn lQ (ls.take k)).length<=10*60008:=
 V4 (c:=60008) (λl f=>by have:=h3 l f;unfold lQ;rw[yl,Q6];omega) h2 k
theorem ZOS{s:ByteArray}{ls:yL aQa}(h1:s.size<=100)(h2:ls.length<=10)(h3:∀l,l∈ls->l.length<=60000):QJ yD s ls=ab (Sha.jP (mY s ls)):=by
 unfold QJ;have hs:=ZCy s;have h:VH yD (s.size:Int) []=ab (eU s.size):=KM (b:=[]) (by simp);rw[h,ya,yW (ZT (by rw[hs,Q6];omega) (by rw[hs,Q6];omega))]
 have e:=ZA (step:=qk yD) ls.length (λk:Nat=>(ls,(ls.length:Int),(k:Int),qy,eU s.size++fX s++bn lQ (ls.take k))) (x:=(qy,mY s ls)) (by
  intro k j;obtain⟨e,f,m⟩:=Zi j;have:=h3 e m;have g:=zO h2 h3 k;unfold qk;dsimp only;rw[yW (yY (by omega)),Zl f,ya,KM (by simp only[yl,Q6,hs];omega),ya,yW (ZT (by simp only[yl,Q6,hs];omega) (by simp only[yl,Q6,hs];omega)),Zp (by omega),QE f];simp only[lQ,yab]) (by
  unfold qk;dsimp only;rw[yX (by rw[ZN];decide),yal];rfl) (by omega)
 rw[show bn lQ (ls.take 0)=[] from rfl,yba]at e
 have e:Zd (qk yD) yD (ls,(ls.length:Int),(0:Int),dn,eU s.size++fX s)=_:=e;have g:=zO h2 h3 ls.length;rw[yal]at g;rw[e,ya,ZMc (by show(mY s ls).length<=_;unfold mY;simp only[yl,Q6,hs];omega),ya]
theorem ZMp{s:ByteArray}{ls:yL aQa}(h1:s.size<=100)(h2:ls.length<=10)(h3:∀l,l∈ls->l.length<=60000):Q4 yD s ls=ab (Sha.jP (mY s ls)):=by
 unfold Q4;have hs:=ZCy s
 have w:∀n:Nat,n<=1000000->(dj (n:Int)).toNat=n:=λn m=>by
  unfold dj;rw[ybe];omega
 have hs':s.data.toList.length=s.size:=hs;rw[ZHf,ya,w _ (by omega),yW (yY (by unfold maxLen;omega)),yW (ZT (by rw[hs',Q6];omega) (by rw[hs',Q6];omega))]
 have e:=ZA (step:=YK yD) ls.length (λk:Nat=>(ls,(k:Int),qy,eU s.size++fX s++bn lQ (ls.take k))) (x:=(qy,mY s ls)) (by
  intro k f;obtain⟨e,g,j⟩:=Zi f;have:=h3 e j;have h:=zO h2 h3 k;unfold YK;dsimp only;rw[yW (Zw f),Zl g,ya,ZKf,ya,w _ (by omega),yW (ZT (by simp only[yl,Q6,hs];omega) (by simp only[yl,Q6,hs];omega)),ya,yW (ZT (by simp only[yl,Q6,hs];omega) (by simp only[yl,Q6,hs];omega)),Zp (by omega),QE g];simp only[lQ,yab]) (by
  unfold YK;dsimp only;rw[yX (by rw[ZN];decide),yal];rfl) (by omega)
 rw[show bn lQ (ls.take 0)=[] from rfl,yba]at e
 have e:Zd (YK yD) yD (ls,(0:Int),qy,eU s.size++s.data.toList)=_:=e;have h:=zO h2 h3 ls.length;rw[yal]at h;show(Option.bind (Zd (YK yD) yD (ls,(0:Int),qy,eU s.size++s.data.toList)) λa=>(Wv yD a.2).bind λb=>ab b)=_;rw[e,ya,ZJT (by show(mY s ls).length<=_;unfold mY;simp only[yl,Q6,hs];omega),ya]
theorem OX{n:Nat}(h:n < 256):w8 (n:Int)=yar n:=by
 unfold w8;congr 1;omega
theorem ZOT:∀(k n:Nat),n < 128 ^ (k+1)->n<=9223372036854775807->VC yD (k+1) (n:Int)=ab (Yz n):=by
 intro k
 induction k with
 |zero=>
  intro n h g;have h:n < 128:=by simpa using h
  show Ww yD (VC yD 0) (n:Int)=_;unfold Ww
  rw[yW (yY (by omega)),oN h,OX (by omega)]
 |succ k j=>
  intro n h g;show Ww yD (VC yD (k+1)) (n:Int)=_;unfold Ww;by_cases f:n < 128
  .rw[yW (yY (by omega)),oN f,OX (by omega)]
  .have l:n / 128 < 128 ^ (k+1):=by
    rw[Nat.div_lt_iff_lt_mul (by decide)];rw[Nat.pow_succ]at h;exact h
   have m:wi (Int.tdiv (n:Int) 128)=((n / 128:Nat):Int):=by
    rw[show Int.tdiv (n:Int) 128=((n / 128:Nat):Int) from rfl,ZY (by omega) (by omega)]
   have z:=ZG (n:=n / 128) (by omega);rw[yX (cZ (by omega)),m,j _ l (by omega),ya,yW (ZT (by omega) (by omega)),tX f]
   have y:w8 (Int.tmod (n:Int) 128)+128=yar (n % 128+128):=by
    rw[show Int.tmod (n:Int) 128=((n % 128:Nat):Int) from rfl,OX (by omega), <-UInt8.toNat_inj,UInt8.toNat_add,UInt8.toNat_ofNat',UInt8.toNat_ofNat']
    show(n % 128 % 256+128) % 256=_;omega
   rw[y];rfl
theorem ZMq{n:Nat}(h:n<=9223372036854775807):Q5 yD (n:Int)=ab (Yz n):=ZOT 11 n (by omega) h
theorem kM{b:yL yB}{z:Int}(f:0<=z)(h:z<=9223372036854775807)(hb:b.length<=1000000):Z2 yD b z=ab (b++Yz z.toNat):=by
 obtain⟨n,rfl⟩:=Int.eq_ofNat_of_zero_le f;have g:=ZG (n:=n) (by omega);unfold Z2;rw[yW (ZT (by omega) (by omega)),yW (yY (by omega)),ZMq (by omega),ya,yW (ZT (by omega) (by omega)),yau]
theorem ZKg{b:yL yB}{z:Int}(f:0<=z)(h:z<=9223372036854775807)(hb:b.length<=1000000):OF yD b z=ab (b++Yz z.toNat):=kM f h hb
theorem Zwj{b:yL yB}(x:yU)(hb:b.length<=1000000):Wn yD b x=ab (b++fa x.toNat):=by
 unfold Wn;rw[yW (ZT (by omega) (by omega))]
 have e:=ZA (step:=YB yD) 8 (λk:Nat=>(x,7 - (k:Int),b++(fa x.toNat).take k)) (x:=b++fa x.toNat) (by
  intro k f;have h:((fa x.toNat).take k).length<=8:=by rw[yac];omega
  unfold YB;dsimp only
  have g:(min ((dj (wi (8*(7 - (k:Int))))).toNat:Int).toNat 64)=56 - 8*k:=by
   rw[ZY (z:=8*(7 - (k:Int))) (by omega) (by omega)]
   have:(dj (8*(7 - (k:Int)))).toNat=56 - 8*k:=by
    unfold dj;rw[ybe];omega
   omega
  rw[yW (yY (by omega)),yW (ZT (by rw[yl];omega) (by rw[yl];omega)),ZY (z:=7 - (k:Int) - 1) (by omega) (by omega),g,ZCr,show 7 - (k:Int) - 1=7 - ((k+1:Nat):Int) by omega,List.take_add_one,zq _ f,yab];rfl) (by
  unfold YB;dsimp only;rw[yX (cZ (by omega)),ycj (by rw[Y3];exact ym _)]) (by omega)
 have e:Zd (YB yD) yD (x,(7:Int),b++[])=_:=e;rw[yba]at e;rw[e,ya]
theorem ZCz{b h:yL yB}(hb:b.length<=1000000)(g:h.length=32):W7 yD b h=ab (b++h):=by
 unfold W7;rw[yW (ZT (by omega) (by omega))]
 have e:=ZA (step:=Yu yD) 32 (λk:Nat=>((k:Int),h,b++h.take k)) (x:=(h,b++h)) (by
  intro k j;obtain⟨e,f,_⟩:=Zi (l:=h) (k:=k) (by omega);have m:(h.take k).length<=32:=by rw[yac];omega
  unfold Yu;dsimp only;rw[yW (yY (by omega)),yW (Wy (by omega) (by omega)),yau,f,ya,yW (ZT (by rw[yl];omega) (by rw[yl];omega)),Zp (by omega),List.take_add_one,f,yab];rfl) (by
  unfold Yu;dsimp only;rw[yX (cZ (by omega)),ycj (by omega)]) (by omega)
 have e:Zd (Yu yD) yD ((0:Int),h,b++[])=_:=e;rw[yba]at e;rw[e,ya]
theorem ZAq{b c:yL yB}(hb:b.length<=1000000)(hc:c.length<=1000000):WQ yD b c=ab (b++(Yz c.length++c)):=by
 unfold WQ;have f:=ZG (n:=c.length) (by omega);rw[ZKg (by omega) (by omega) hb,ya,yau,yW (ZT (by rw[yl];omega) (by rw[yl];omega)),yab]
theorem ZHg{l:yL yU}(hl:l.length<=9223372036854775807):∃b,qe yD l=ab b/\(b=af->∀p,p∈l->eS p.toNat):=by
 unfold qe xh
 obtain⟨x,F,y⟩:=Xi (step:=XE yD) l.length (λk s=>s=(l,(l.length:Int),(k:Int))/\∀j p,j < k->l[j]? =ab p->eS p.toNat) (λx=>(∃k:Nat,x=.inl (k:Int))\/x=.inr ()/\∀p,p∈l->eS p.toNat) (i:=(l,(l.length:Int),(0:Int))) ⟨rfl,λj p m=>by omega⟩ (by omega) (by
  rintro k _ B ⟨rfl,m⟩;obtain⟨e,E,_⟩:=Zi B;unfold XE;dsimp only;rw[yW (Zw B),Zl E,ya,OM,ya,Zp (by omega)];by_cases f:eS e.toNat
  .rw[yY f];left;refine⟨_,rfl,rfl,λj p I z=> ?_⟩;by_cases G:j < k
   .exact m j p G z
   .have:j=k:=by omega
    subst this;rw[E]at z;cases z;exact f
  .rw[yZ f];right;exact⟨_,rfl,.inl ⟨k,rfl⟩⟩) (by
  rintro _ ⟨rfl,m⟩;unfold XE;dsimp only;rw[yX (by rw[ZN];decide)];refine⟨_,rfl,.inr ⟨rfl,λp f=> ?_⟩⟩;obtain⟨j,g,A⟩:=ybi f;exact m j p g (by rw[yad g,A]))
 rw[F,ya];rcases y with⟨k,rfl⟩|⟨rfl,y⟩
 .dsimp only;rw[ya];refine⟨_,rfl,λh=> ?_⟩;exact absurd (of_decide_eq_false h) (by omega)
 .exact⟨_,rfl,λ_=>y⟩
def dE(l:ZC):Prop:=l.length<=9223372036854775807/\∀b,b∈l->b.1.length<=9223372036854775807
theorem Zs8(z:Int):∃b,Qf yD z=ab b/\(b=ae->0<=z/\z<=1048576):=by
 unfold Qf;by_cases h:z >= 0
 .simp_all
 .rw[yX (by rw[yN];exact h)];grind
theorem ud{l:ZC}(hl:dE l):∃b,We yD l=ab b/\(b=ae↔Vb l/\gK l):=by
 have G:∃b,We yD l=ab b/\(b=ae->Vb l/\gK l):=by
  unfold We;obtain⟨h0,E⟩:=hl
  obtain⟨x,W,F⟩:=Xi (step:=WZ yD) l.length (λk s=>s=(l,(l.length:Int),(k:Int),l)/\∀j b,j < k->l[j]? =ab b->lN b/\lO b)
   (λx=>x=.inl (af,l)\/(x=.inr l/\∀b,b∈l->lN b/\lO b)) (i:=(l,(l.length:Int),(0:Int),l)) ⟨rfl,λj b I=>by omega⟩ (by omega) (by
   rintro k _ S ⟨rfl,I⟩;obtain⟨e,X,Y⟩:=Zi S
   have f:(lN e/\lO e)->∀j b,j < k+1->l[j]? =ab b->lN b/\lO b:=by
    all_goals grind
   unfold WZ;dsimp only;rw[yW (Zw S),Zl X,ya];by_cases T:(e.1.length:Int) > 12
   .right;rw[yW (yY T)];exact⟨_,rfl,.inl rfl⟩
   rw[yX (by rw[yN];exact T)];obtain⟨b,g,M⟩:=ZHg (E e Y);rw[g,ya]
   cases b with
   |true=>right;exact⟨_,rfl,.inl rfl⟩
   |false=>
    obtain⟨c,Z,y⟩:=Zs8 e.2.1;obtain⟨d,hd,z⟩:=Zs8 e.2.2.1;rw[yX (by decide),Z,ya,hd,ya]
    cases c with
    |false=>right;exact⟨_,rfl,.inl rfl⟩
    |true=>
     cases d with
     |false=>right;exact⟨_,rfl,.inl rfl⟩
     |true=>
      have U:=λA:e.2.2.2≠0->eS e.2.2.2.toNat=>f ⟨⟨by omega,(y rfl).1,(y rfl).2,(z rfl).1,(z rfl).2⟩,M rfl,A⟩;rw[yX (by decide),yX (by decide),Zp (by omega)];by_cases A:e.2.2.2=0
      .rw[yX (by rw[A];decide)];left;exact⟨_,rfl,rfl,U λh=>absurd A h⟩
      .rw[yW (by simp[A]),OM,ya];by_cases m:eS e.2.2.2.toNat
       .rw[yY m];left;exact⟨_,rfl,rfl,U λ_=>m⟩
       .rw[yZ m];right;exact⟨_,rfl,.inl rfl⟩) (by
   rintro _ ⟨rfl,I⟩;unfold WZ;dsimp only;rw[yX (by rw[ZN];decide)];refine⟨_,rfl,.inr ⟨rfl,λb g=> ?_⟩⟩;obtain⟨j,B,Q⟩:=ybi g;exact I j b B (by rw[yad B,Q]))
  rw[W,ya];rcases F with rfl|⟨rfl,F⟩
  .grind
  .dsimp only;by_cases R:(l.length:Int) > 0
   .rw[yW (yY R)];refine⟨_,rfl,λh3=>⟨⟨by omega, ?_,λb g=>(F b g).1⟩,λb g=>(F b g).2⟩⟩;grind
   simp_all
 obtain⟨b,E,R⟩:=G;refine⟨b,E,R,λh=> ?_⟩;rw[ON h.1 h.2]at E;grind
theorem ZCA{e:ZW}(W:e.1.length<=9223372036854775807):∃b,Vy yD e=ab b/\(b=ae↔lN e/\lO e):=by
 unfold Vy;by_cases z:(e.1.length:Int) > 12
 .rw[yW (yY z)];exact⟨_,rfl,λh=>(by cases h),λh=>by have:=h.1.1;omega⟩
 rw[yX (by rw[yN];exact z)];by_cases A:e.2.1 < 0
 .rw[yW (yY A)];exact⟨_,rfl,λh=>(by cases h),λh=>by have:=h.1.2.1;omega⟩
 rw[yX (by rw[yN];exact A)];by_cases B:e.2.1 > 1048576
 .rw[yW (yY B)];exact⟨_,rfl,λh=>(by cases h),λh=>by have:=h.1.2.2.1;omega⟩
 rw[yX (by rw[yN];exact B)];by_cases E:e.2.2.1 < 0
 .rw[yW (yY E)];exact⟨_,rfl,λh=>(by cases h),λh=>by have:=h.1.2.2.2.1;omega⟩
 rw[yX (by rw[yN];exact E)];by_cases F:e.2.2.1 > 1048576
 .rw[yW (yY F)];exact⟨_,rfl,λh=>(by cases h),λh=>by have:=h.1.2.2.2.2;omega⟩
 rw[yX (by rw[yN];exact F)];have G:lN e:=⟨by omega,by omega,by omega,by omega,by omega⟩
 obtain⟨x,R,g⟩:=Xi (step:=Xs yD) e.1.length (λk s=>s=((k:Int),e)/\∀j p,j < k->e.1[j]? =ab p->eS p.toNat) (λx=>(x=.inl (af,e)/\¬lO e)\/(x=.inr e/\∀p,p∈e.1->eS p.toNat)) (i:=((0:Int),e)) ⟨rfl,λj p l=>by omega⟩ (by omega) (by
  rintro k _ I ⟨rfl,l⟩;obtain⟨d,M,S⟩:=Zi I;unfold Xs;dsimp only;rw[yW (Zw I),Zl M,ya,zp,ya];by_cases f:eS d.toNat
  .left;rw[yY f,yX (by decide),Zp (by omega)];refine⟨_,rfl,rfl,λj p X y=> ?_⟩;by_cases T:j < k
   .exact l j p T y
   .have:j=k:=by omega
    subst this;rw[M]at y;cases y;exact f
  .right;rw[yZ f,yW (by decide)];exact⟨_,rfl,.inl ⟨rfl,λh=>f (h.1 d S)⟩⟩) (by
  rintro _ ⟨rfl,l⟩;unfold Xs;dsimp only;rw[yX (by rw[ZN];decide)];refine⟨_,rfl,.inr ⟨rfl,λp f=> ?_⟩⟩;obtain⟨j,Q,U⟩:=ybi f;exact l j p Q (by rw[yad Q,U]))
 rw[R,ya];rcases g with⟨rfl,g⟩|⟨rfl,g⟩
 .grind
 .dsimp only;rw[zp,ya];by_cases m:e.2.2.2=0
  .rw[yW (beq_iff_eq.2 m)];exact⟨_,rfl,λ_=>⟨G,g,λh=>absurd m h⟩,λ_=>rfl⟩
  .rw[yX (by rw[yT];exact m)];refine⟨_,rfl,λh=>⟨G,g,λ_=>yF h⟩,λh=>yY (h.2.2 m)⟩
theorem ue{l:ZC}(hl:dE l):∃b,Y5 yD l=ab b/\(b=ae↔Vb l/\gK l):=by
 obtain⟨U,w1⟩:=hl;unfold Y5;by_cases A:(l.length:Int) < 1
 .rw[yW (yY A)];exact⟨_,rfl,λh=>(by cases h),λh=>by have:=h.1.1;omega⟩
 rw[yX (by rw[yN];exact A)];by_cases B:(l.length:Int) > 4
 .rw[yW (yY B)];exact⟨_,rfl,λh=>(by cases h),λh=>by have:=h.1.2.1;omega⟩
 rw[yX (by rw[yN];exact B)]
 obtain⟨x,M,f⟩:=Xi (step:=XF yD) l.length (λk s=>s=((k:Int),l)/\∀j b,j < k->l[j]? =ab b->lN b/\lO b) (λx=>(x=.inl (af,l)/\¬(Vb l/\gK l))\/(x=.inr l/\∀b,b∈l->lN b/\lO b)) (i:=((0:Int),l)) ⟨rfl,λj p g=>by omega⟩ (by omega) (by
  rintro k _ E ⟨rfl,g⟩;obtain⟨d,F,m⟩:=Zi E;obtain⟨b,Q,G⟩:=ZCA (w1 d m);unfold XF;dsimp only;rw[yW (Zw E),Zl F,ya,Q,ya]
  cases b with
  |true=>
   left;rw[yX (by decide),Zp (by omega)];refine⟨_,rfl,rfl,λj p W y=> ?_⟩;by_cases R:j < k
   .exact g j p R y
   .have:j=k:=by omega
    subst this;rw[F]at y;cases y
    exact G.1 rfl
  |false=>
   right;rw[yW (by decide)];exact⟨_,rfl,.inl ⟨rfl,λh=>by have:=G.2 ⟨h.1.2.2 d m,h.2 d m⟩;cases this⟩⟩) (by
  rintro _ ⟨rfl,g⟩;unfold XF;dsimp only;rw[yX (by rw[ZN];decide)];refine⟨_,rfl,.inr ⟨rfl,λp S=> ?_⟩⟩;obtain⟨j,I,T⟩:=ybi S;exact g j p I (by rw[yad I,T]))
 rw[M,ya];rcases f with⟨rfl,f⟩|⟨rfl,f⟩
 .grind
 .exact⟨_,rfl,λ_=>⟨⟨by omega,by omega,λb z=>(f b z).1⟩,λb z=>(f b z).2⟩,λ_=>rfl⟩
theorem ZKh{l:ZC}(h:Vb l)(hp:gK l):Y5 yD l=ab ae:=by
 obtain⟨b,g,j⟩:=ue (l:=l) ⟨by have:=h.2.1;omega,λb f=>by have:=(h.2.2 b f).1;omega⟩;grind
theorem ZEx{c:yL yB}(hc:c.length<=100000){i:Int}{l:ZC}{e:ZW}(h:e.1.length<=12):
 Zd (YW yD) yD (c,i,(0:Int),l,e)=ab (c++bn gV e.1,i,l,e):=by
 have q:=ZA (step:=YW yD) e.1.length (λk:Nat=>(c++bn gV (e.1.take k),i,(k:Int),l,e)) (x:=(c++bn gV e.1,i,l,e)) (by
  intro k f;obtain⟨d,g,_⟩:=Zi f;have j:=ua h k;unfold YW;dsimp only;rw[yW (Zw f),Zl g,ya,Zwj _ (by rw[yl];omega),ya,Zp (by omega),QE g,yab];rfl) (by
  unfold YW;dsimp only;rw[yX (by rw[ZN];decide),yal]) (by omega)
 rw[show bn gV (e.1.take 0)=[] from rfl,yba]at q
 exact q
theorem ZCB{l:ZC}(h:Vb l)(hp:gK l):VU yD l=ab (gk l):=by
 unfold VU;have G:=h.2.1;have I:=ZG (n:=l.length) (by omega);rw[ZKh h hp,ya,yX (by decide),kM (by omega) (by omega) (by simp),ya,yz,yau]
 have q:=ZA (step:=XK yD) l.length (λk:Nat=>(Yz l.length++bn fE (l.take k),(k:Int),l)) (x:=(gk l,l)) (by
  intro k j;obtain⟨e,m,z⟩:=Zi j;obtain⟨y,A,M,e4,e5⟩:=h.2.2 e z;have Q:=V4 (f:=fE) (c:=131) (λx B=>zr (h.2.2 x B)) h.2.1 k;have R:=ZG (n:=e.1.length) (by omega);have E:=ZG (n:=e.2.1.toNat) (by omega);have F:=ZG (n:=e.2.2.1.toNat) (by omega);have g:=ua y e.1.length;rw[yal]at g;unfold XK;dsimp only
  rw[yW (Zw j),Zl m,ya,kM (by omega) (by omega) (by rw[yl];omega),ya,yau,
   ZEx (by simp only[yl];omega) y,ya]
  dsimp only
  rw[kM A (by omega) (by simp only[yl];omega),ya,kM e4 (by omega) (by simp only[yl];omega),ya,
   Zwj _ (by simp only[yl];omega),ya,Zp (by omega),QE m]
  unfold fE;simp only[yab]) (by
  unfold XK;dsimp only;rw[yX (by rw[ZN];decide),yal];rfl) (by omega)
 rw[show bn fE (l.take 0)=[] from rfl,yba]at q
 grind
open Classical in
theorem uf{I X:Type}{step:I->yO (I⊕X)}(n:Nat)(st:Nat->I)(ok:Nat->Prop)(f:X)(g:Nat->X)
 (h1:∀k,k < n->(∀j,j < k->ok j)->ok k->step (st k)=ab (.inl (st (k+1)))) (h2:∀k,k < n->(∀j,j < k->ok j)->¬ok k->step (st k)=ab (.inr (g k))) (he:(∀j,j < n->ok j)->step (st n)=ab (.inr f)) (y:n < 18446744073709551616):
 ∃x,Zd step yD (st 0)=ab x/\(bz n ok/\x=f\/¬bz n ok/\∃k,x=g k):=by
 refine Xi (step:=step) n (λk s=>s=st k/\∀j,j < k->ok j) _ (i:=st 0) ⟨rfl,λj h=>by omega⟩ y ?_ ?_
 .rintro k _ m ⟨rfl,l⟩;by_cases h:ok k
  .all_goals grind
  .right;exact⟨_,h2 k m l h,.inr ⟨λq=>h (q k m),k,rfl⟩⟩
 .rintro _ ⟨rfl,l⟩;exact⟨_,he l,.inl ⟨l,rfl⟩⟩
theorem Zym{K V:Type}[DecidableEq K](k:K)(v:V)(f:K):∀m:yL (K×V),hP (jg m k v) f=if f=k then ab v else hP m f
 |[]=>rfl
 |q::m=>by
  have g:=Zym k v f m;unfold jg;by_cases h:k=q.1
  .rw[yW h];unfold hP
   all_goals grind
  .rw[yX h];unfold hP
   all_goals grind
def jY(l:yL In):yL (ZO×Bool):=l.foldl (λm x=>jg m x.1 ae) []
theorem ZFR{l:yL In}{k:Nat}{x:In}(h:l[k]? =ab x):jY (l.take (k+1))=jg (jY (l.take k)) x.1 ae:=by
 rw[Wu h,jY,List.foldl_append];rfl
theorem OY(l:yL In)(p:ZO):∀k,k<=l.length->(hP (jY (l.take k)) p=ab ae/\(∃j y,j < k/\l[j]? =ab y/\y.1=p))\/(hP (jY (l.take k)) p=ad/\∀j y,j < k->l[j]? =ab y->y.1≠p)
 |0,_=>.inr ⟨rfl,λj y h=>by omega⟩
 |k+1,z=>by
  obtain⟨x,f,_⟩:=Zi (l:=l) (k:=k) (by omega);rw[ZFR f,Zym];by_cases h:p=x.1
  .grind
  .rw[yX h];rcases OY l p k (by omega) with⟨g,j,y,m,A,B⟩|⟨g,m⟩
   all_goals grind
def lR(w:WK):Prop:=0<=w.1/\w.1 < 4/\w.2.1.length<=12
instance(w:WK):Decidable (lR w):=by unfold lR;infer_instance
theorem ZKi(w:WK):ti yD w=ab (ag (lR w)):=by
 unfold ti;refine(WR (q:=w.1 < 4/\(w.2.1.length:Int)<=12) (lP _ _ rfl)).trans (congrArg ab (decide_eq_decide.2 ?_));unfold lR;omega
theorem ZFS(w:WK):WP yD w=ab (ag (lR w)):=by
 unfold WP;refine(WR (q:=w.1<=3/\(w.2.1.length:Int)<=12) (lP _ _ rfl)).trans (congrArg ab (decide_eq_decide.2 ?_));unfold lR;omega
def qz(l:yL In)(k:Nat):Prop:=∀x,l[k]? =ab x->(0<=x.1.2/\x.1.2 < 64)/\lR x.2/\∀j y,j < k->l[j]? =ab y->y.1≠x.1
theorem ZHi(t:Tx)(hl:t.1.length<=100):∃x,Zd (qg yD) yD (t.1,(t.1.length:Int),(0:Int),t,([]:yL (ZO×Bool)))=ab x/\(bz t.1.length (qz t.1)/\x=.inr (t,jY t.1)\/¬bz t.1.length (qz t.1)/\∃k:Nat,x=.inl (af,t,jY (t.1.take k))):=by
 refine uf t.1.length (λk:Nat=>(t.1,(t.1.length:Int),(k:Int),t,jY (t.1.take k))) (qz t.1) (Sum.inr (t,jY t.1)) (λk=>Sum.inl (af,t,jY (t.1.take k))) ?_ ?_ ?_ (by omega)
 .intro k f _ l;obtain⟨x,g,_⟩:=Zi f;obtain⟨G,z,I⟩:=l x g;unfold qg;dsimp only;rw[yW (Zw f),Zl g,ya];rcases OY t.1 x.1 k (by omega) with⟨_,j,y,A,M,Q⟩|⟨h,_⟩
  .grind
  .rw[h];unfold pD;dsimp only;rw[yX (show¬ag (x.1.2 < 0)=ae by rw[yN];omega),yX (show¬ag (x.1.2 >= 64)=ae by rw[yN];omega),ZKi,ya,yY z,yX (by decide),Zp (by omega),ZFR g]
 .intro k f _ m;obtain⟨x,g,_⟩:=Zi f;unfold qg;dsimp only;rw[yW (Zw f),Zl g,ya];rcases OY t.1 x.1 k (by omega) with⟨h,_⟩|⟨h,A⟩
  .rw[h];unfold pD;grind
  .rw[h];unfold pD;dsimp only;by_cases B:x.1.2 < 0
   .grind
   .rw[yX (show¬ag (x.1.2 < 0)=ae by rw[yN];exact B)];by_cases E:x.1.2 >= 64
    .grind
    .rw[yX (show¬ag (x.1.2 >= 64)=ae by rw[yN];exact E),ZKi,ya];by_cases R:lR x.2
     .refine absurd ?_ m;intro S F;grind
     grind
 .intro _;unfold qg;grind
theorem Zyn(t:Tx){k:Nat}(I:k<=100)(B:k<=t.1.length)(x:In):∃r,Zd (Ys yD) yD ((k:Int),(0:Int),t,x)=ab r/\((∀j y,j < k->t.1[j]? =ab y->y.1≠x.1)/\r=.inr ((k:Int),t,x)\/(¬∀j y,j < k->t.1[j]? =ab y->y.1≠x.1)/\r=.inl (af,t,x)):=by
 obtain⟨r,E,F⟩:=uf (step:=Ys yD) k (λj:Nat=>((k:Int),(j:Int),t,x)) (λj=>∀y,t.1[j]? =ab y->y.1≠x.1) (.inr ((k:Int),t,x)) (λ_=>.inl (af,t,x)) (by
  intro j g _ m;obtain⟨y,f,_⟩:=Zi (l:=t.1) (k:=j) (by omega);unfold Ys;dsimp only;rw[yW (Zw g),Zl f,ya,yX (by rw[yN];exact m y f),Zp (by omega)]) (by
  intro j g _ G;obtain⟨y,f,_⟩:=Zi (l:=t.1) (k:=j) (by omega)
  have h:y.1=x.1:=by
   all_goals grind
  unfold Ys;dsimp only;rw[yW (Zw g),Zl f,ya,yW (yY h)]) (by
  intro _;unfold Ys;dsimp only;rw[yX (by rw[ZN];decide)]) (by omega)
 refine⟨r,E, ?_⟩;rcases F with⟨z,A⟩|⟨z,_,A⟩
 .exact .inl ⟨λj y g f=>z j g y f,A⟩
 .exact .inr ⟨λq=>z λj g y f=>q j y g f,A⟩
theorem ZHj(t:Tx)(hl:t.1.length<=100):∃x,Zd (YU yD) yD ((0:Int),t)=ab x/\(bz t.1.length (qz t.1)/\x=.inr t\/¬bz t.1.length (qz t.1)/\∃k:Nat,x=.inl (af,t)):=by
 refine uf t.1.length (λk:Nat=>((k:Int),t)) (qz t.1) (Sum.inr t) (λ_=>Sum.inl (af,t)) ?_ ?_ ?_ (by omega)
 .intro k f _ j;obtain⟨x,g,_⟩:=Zi f;obtain⟨F,y,G⟩:=j x g;unfold YU;dsimp only;rw[yW (Zw f),Zl g,ya,yX (show¬ag (x.1.2 < 0)=ae by rw[yN];omega),yX (show¬ag (x.1.2 > 63)=ae by rw[yN];omega),ZFS,ya,yY y,yX (by decide)];obtain⟨r,m,⟨_,rfl⟩|⟨h,_⟩⟩:=Zyn t (k:=k) (by omega) (by omega) x
  .rw[m,ya];dsimp only;rw[Zp (by omega)]
  grind
 .intro k f _ l;obtain⟨x,g,_⟩:=Zi f;unfold YU;dsimp only;rw[yW (Zw f),Zl g,ya];by_cases z:x.1.2 < 0
  .grind
  .rw[yX (show¬ag (x.1.2 < 0)=ae by rw[yN];exact z)];by_cases A:x.1.2 > 63
   .grind
   .rw[yX (show¬ag (x.1.2 > 63)=ae by rw[yN];exact A),ZFS,ya];by_cases B:lR x.2
    .rw[yY B,yX (by decide)];obtain⟨r,m,⟨h,rfl⟩|⟨h,rfl⟩⟩:=Zyn t (k:=k) (by omega) (by omega) x
     .refine absurd ?_ l;intro I E;grind
     grind
    grind
 .intro _;unfold YU;grind
theorem ZCC(z:Int):th yD z=ab (ag (0<=z/\z<=1125899906842624)):=lP (z >= 0) (z<=1125899906842624) rfl
theorem ZCD{a b:Int}(f:0<=a)(h1:a<=1125899906842624):oz yD a b=ab (if(0<=b/\b<=1125899906842624)/\a+b<=1125899906842624 then(a+b,ae) else(0,af)):=by
 unfold oz;rw[ZCC,ya,yY (p:=0<=a/\a<=1125899906842624) ⟨f,h1⟩,yX (show¬(!true)=ae by decide),ZCC,ya];by_cases g:0<=b/\b<=1125899906842624
 .rw[yY g,yX (show¬(!true)=ae by decide),ZY (z:=1125899906842624 - b) (by omega) (by omega),ZY (z:=a+b) (by omega) (by omega)]
  all_goals grind
 grind
structure oQ(t:Tx):Prop where
 ins:t.1.length<=70
 outs:t.2.1.length<=70
 ik:∀o,o∈t.2.1->dE o.2
def ZKj(o:Out):Prop:=(0<=o.1/\o.1<=1125899906842624)/\Vb o.2/\gK o.2
def ug(l:yL Out)(k:Nat):Prop:=∀o,l[k]? =ab o->ZKj o/\eW (l.take (k+1))<=1125899906842624
def uh(l:yL Out)(k:Nat):Prop:=∀o,l[k]? =ab o->ZKj o
theorem OZ{l:yL Out}:∀k,k<=l.length->(∀j,j < k->uh l j)->0<=eW (l.take k)/\eW (l.take k)<=k*1125899906842624
 |0,_,_=>by simp[eW]
 |k+1,g,h=>by
  obtain⟨o,f,_⟩:=Zi (l:=l) (k:=k) (by omega);have m:=OZ k (by omega) λj y=>h j (by omega);have z:=(h k (by omega) o f).1;rw[ub f];omega
theorem ZEy{t:Tx}(hl:oQ t)(m:yL (ZO×Bool)):∃x,Zd (qh yD) yD ((0:Int),t.2.1,(t.2.1.length:Int),(0:Int),t,m)=ab x/\(bz t.2.1.length (ug t.2.1)/\x=.inr (t,m)\/¬bz t.2.1.length (ug t.2.1)/\∃k:Nat,x=.inl (af,t,m)):=by
 have S:=hl.outs
 have I:∀k,k<=t.2.1.length->(∀j,j < k->ug t.2.1 j)->0<=eW (t.2.1.take k)/\eW (t.2.1.take k)<=1125899906842624:=by
  intro k g h;refine⟨(OZ k g λj y o f=>(h j y o f).1).1, ?_⟩
  cases k with
  |zero=>simp[eW]
  |succ k=>
   obtain⟨o,f,_⟩:=Zi (l:=t.2.1) (k:=k) (by omega);exact(h k (by omega) o f).2
 refine uf t.2.1.length (λk:Nat=>(eW (t.2.1.take k),t.2.1,(t.2.1.length:Int),(k:Int),t,m)) (ug t.2.1) (Sum.inr (t,m)) (λ_=>Sum.inl (af,t,m)) ?_ ?_ ?_ (by omega)
 .intro k g y A;obtain⟨o,f,B⟩:=Zi g;obtain⟨⟨Q,R⟩,M⟩:=A o f;rw[ub f]at M;obtain⟨s0,s1⟩:=I k (by omega) y;obtain⟨b,E,F⟩:=ud (hl.ik o B);unfold qh;dsimp only;rw[yW (Zw g),Zl f,ya,ZCD s0 s1,yW ⟨Q,M⟩,ya,yX (by simp),E,ya,F.2 R,yX (by decide),Zp (by omega),ub f]
 .intro k g y G;obtain⟨o,f,B⟩:=Zi g;obtain⟨s0,s1⟩:=I k (by omega) y;obtain⟨b,E,F⟩:=ud (hl.ik o B);unfold qh;dsimp only;rw[yW (Zw g),Zl f,ya,ZCD s0 s1,ya];by_cases c:(0<=o.1/\o.1<=1125899906842624)/\eW (t.2.1.take k)+o.1<=1125899906842624
  .rw[yW c,yX (by simp),E,ya]
   cases b with
   |true=>
    refine absurd ?_ G;intro T z;rw[f]at z;cases z;rw[ub f]
    exact⟨⟨c.1,F.1 rfl⟩,c.2⟩
   |false=>rw[yW (by decide)]
  grind
 .intro _;unfold qh;grind
theorem ZEz{t:Tx}(hl:oQ t):∃x,Zd (YV yD) yD ((0:Int),(0:Int),t)=ab x/\(bz t.2.1.length (uh t.2.1)/\x=.inr (eW t.2.1,t)\/¬bz t.2.1.length (uh t.2.1)/\∃k:Nat,x=.inl (af,t)):=by
 have M:=hl.outs;refine uf t.2.1.length (λk:Nat=>(eW (t.2.1.take k),(k:Int),t)) (uh t.2.1) (Sum.inr (eW t.2.1,t)) (λ_=>Sum.inl (af,t)) ?_ ?_ ?_ (by omega)
 .intro k g B j;obtain⟨o,f,l⟩:=Zi g;obtain⟨Q,F⟩:=j o f;obtain⟨s0,s1⟩:=OZ k (by omega) B;obtain⟨b,m,y⟩:=ue (hl.ik o l);have E:(k:Int)<=70:=by omega
  unfold YV;dsimp only;rw[yW (Zw g),Zl f,ya,yX (show¬ag (o.1 < 0)=ae by rw[yN];omega),yX (show¬ag (o.1 > 1125899906842624)=ae by rw[yN];omega),m,ya,y.2 F,yX (by decide),Zp (by omega),ub f,ZY (z:=eW (t.2.1.take k)+o.1) (by omega) (by omega)]
 .intro k g B A;obtain⟨o,f,l⟩:=Zi g;obtain⟨b,m,y⟩:=ue (hl.ik o l);unfold YV;dsimp only;rw[yW (Zw g),Zl f,ya];by_cases G:o.1 < 0
  .grind
  .rw[yX (show¬ag (o.1 < 0)=ae by rw[yN];exact G)];by_cases I:o.1 > 1125899906842624
   .grind
   .rw[yX (show¬ag (o.1 > 1125899906842624)=ae by rw[yN];exact I),m,ya]
    cases b with
    |true=>
     refine absurd ?_ A;intro R h;rw[f]at h;cases h
     exact⟨⟨by omega,by omega⟩,y.1 rfl⟩
    |false=>rw[yW (by decide)]
 .intro _;unfold YV;grind
theorem ZCF{l:yL Out}(hl:l.length<=70):bz l.length (ug l)↔bz l.length (uh l)/\eW l<=1125899906842624:=by
 constructor
 .intro h;refine⟨λk g o f=>(h k g o f).1, ?_⟩
  cases A:l.length with
  |zero=>
   rw[List.eq_nil_of_length_eq_zero A]
   simp[eW]
  |succ k=>
   obtain⟨o,f,_⟩:=Zi (l:=l) (k:=k) (by omega);have:=(h k (by omega) o f).2
   rwa [show k+1=l.length by omega,yal]at this
 .rintro⟨y,G⟩ k g o f;refine⟨y k g o f, ?_⟩
  have B:∀e,e∈l->0<=e.1:=by
   intro e m;obtain⟨j,z,E⟩:=ybi m;exact(y j z e (by rw[yad z,E])).1.1
  have hs:eW l=eW (l.take (k+1))+eW (l.drop (k+1)):=by
   have q:=congrArg eW (ybg (k+1) l);rw[<-q];unfold eW;grind
  have I:0<=eW (l.drop (k+1)):=ZJ3 (by
   intro x F;obtain⟨e,m,rfl⟩:=List.mem_map.1 F;exact B e (List.mem_of_mem_drop m))
  omega
theorem PA{t:Tx}(hl:oQ t):∃b:Bool,lH yD t=ab b/\WH yD t=ab b/\(b=ae->oO t):=by
 unfold lH WH;by_cases T:(t.1.length:Int) < 1
 .simp_all
 have g:¬ag ((t.1.length:Int) < 1)=ae:=by rw[yN];exact T
 rw[yX g,yX g];by_cases U:(t.1.length:Int) > 64
 .simp_all
 have h:¬ag ((t.1.length:Int) > 64)=ae:=by rw[yN];exact U
 rw[yX h,yX h];by_cases W:(t.2.1.length:Int) > 64
 .simp_all
 have l:¬ag ((t.2.1.length:Int) > 64)=ae:=by rw[yN];exact W
 rw[yX l,yX l];by_cases X:t.2.2 < 0
 .simp_all
 have m:¬ag (t.2.2 < 0)=ae:=by rw[yN];exact X
 rw[yX m,yX m];have Y:=hl.ins;obtain⟨x,F,G⟩:=ZHi t (by omega);obtain⟨y,y1,E⟩:=ZHj t (by omega);rw[F,y1,ya,ya];rcases G with⟨S,rfl⟩|⟨S,k,rfl⟩
 .rcases E with⟨_,rfl⟩|⟨Z,_⟩
  .dsimp only;obtain⟨x,F,G⟩:=ZEy hl (jY t.1);obtain⟨y,y1,E⟩:=ZEz hl;rw[F,y1,ya,ya];rcases G with⟨I,rfl⟩|⟨I,k,rfl⟩
   .obtain⟨M,Q⟩:=(ZCF hl.outs).1 I;rcases E with⟨_,rfl⟩|⟨z,_⟩
    .dsimp only;rw[yY Q];refine⟨ae,rfl,rfl,λ_=>⟨by omega,by omega,by omega,by omega,λx hx=> ?_,λo ho=> ?_⟩⟩
     .obtain⟨j,A,R⟩:=ybi hx;obtain⟨B,f,_⟩:=S j A x (by rw[yad A,R]);exact⟨B.1,B.2,f.1,f.2.1,f.2.2⟩
     .obtain⟨j,A,R⟩:=ybi ho;obtain⟨B,f⟩:=M j A o (by rw[yad A,R]);exact⟨B.1,B.2,f.1,f.2⟩
    grind
   .rcases E with⟨z,rfl⟩|⟨_,_,rfl⟩
    .dsimp only;rw[yZ (p:=eW t.2.1<=1125899906842624) λq=>I ((ZCF hl.outs).2 ⟨z,q⟩)];grind
    grind
  grind
 grind
theorem ZHk{t:Tx}(I:mV t)(h:oO t):VV yD t=ab (iM t):=by
 obtain⟨f,outs,g⟩:=t;obtain⟨w1,w2⟩:=I;obtain⟨t1,t2,t3,t4,t5,t6⟩:=h;dsimp only at w1 w2 t1 t2 t3 t4 t5 t6;have S:=ZG (n:=f.length) (by omega);have T:=ZG (n:=outs.length) (by omega);have E:∀k,(bn eE (f.take k)).length<=64*41:=V4 (λx m=>zu (w1 x m) (t5 x m)) t2;have co:∀k,(bn fu (outs.take k)).length<=64*551:=V4 (λx m=>zw (t6 x m)) t3;have z:=E f.length;rw[yal]at z;have A:=co outs.length;rw[yal]at A;unfold VV;dsimp only;rw[kM (by omega) (by omega) (by simp),ya,yz,yau]
 have q:=ZA (step:=YX yD) f.length (λk:Nat=>(Yz f.length++bn eE (f.take k),(k:Int),(f,outs,g))) (x:=(Yz f.length++bn eE f,(f,outs,g))) (by
  intro k j;obtain⟨e,l,y⟩:=Zi j;have M:=E k;have B:=w1 e y;have F:=t5 e y;unfold YX;dsimp only;rw[yW (Zw j),Zl l,ya,ZCz (by rw[yl];omega) B,ya,ya,kM F.1 (by have:=F.2.1;omega) (by simp only[yl];omega),ya,Zp (by omega),QE l];unfold eE;simp only[yab]) (by
  unfold YX;dsimp only;rw[yX (by rw[ZN];decide),yal]) (by omega)
 rw[show bn eE (f.take 0)=[] from rfl,yba]at q
 have q:Zd (YX yD) yD (Yz f.length,(0:Int),(f,outs,g))=_:=q;rw[q,ya];dsimp only;rw[kM (by omega) (by omega) (by rw[yl];omega),ya,yau]
 have p:=ZA (step:=YY yD) outs.length (λk:Nat=>(Yz f.length++bn eE f++Yz outs.length++bn fu (outs.take k),(k:Int),(f,outs,g))) (x:=(Yz f.length++bn eE f++Yz outs.length++bn fu outs,(f,outs,g))) (by
  intro k j;obtain⟨e,l,y⟩:=Zi j;have M:=co k;obtain⟨Q,U,G,R⟩:=t6 e y;have W:=qx G;have X:=ZG (n:=e.1.toNat) (by omega);unfold YY;dsimp only;rw[yW (Zw j),Zl l,ya,kM Q (by omega) (by simp only[yl];omega),ya,ya,ZCB G R,ya,ZAq (by simp only[yl];omega) (by omega),ya,Zp (by omega),QE l];unfold fu;simp only[yab]) (by
  unfold YY;dsimp only;rw[yX (by rw[ZN];decide),yal]) (by omega)
 rw[show bn fu (outs.take 0)=[] from rfl,yba]at p
 have p:Zd (YY yD) yD (Yz f.length++bn eE f++Yz outs.length,(0:Int),(f,outs,g))=_:=p;rw[p,ya];dsimp only;rw[kM t4 w2 (by simp only[yl];omega),ya];unfold iM;grind
theorem Zyo{t:Tx}(h:(iM t).length<=40000):∀x,x∈[iM t]->x.length<=60000:=λx f=>by
 grind
theorem ZHl{t:Tx}(hl:oQ t)(f:mV t):∃n,dW yD t=ab n/\V3 yD t=ab n/\n.length=32:=by
 obtain⟨b,j,l,m⟩:=PA hl;unfold dW V3;rw[j,l,ya,ya]
 cases b with
 |false=>exact⟨_,rfl,rfl,rfl⟩
 |true=>
  have h:=m rfl;obtain⟨y,g⟩:=OT f h;rw[yX (by decide),yX (by decide),y,ZHk f h,ya,ya,ZOS (by decide) (by simp) (Zyo g),ZMp (by decide) (by simp) (Zyo g)];exact⟨_,rfl,rfl,Sha.ZQE _⟩
end Go.Proofs.YtcbhhaigilifgaaGreat
end
