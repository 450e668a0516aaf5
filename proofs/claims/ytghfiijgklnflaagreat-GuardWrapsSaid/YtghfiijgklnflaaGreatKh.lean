/- Parts of the proof, in one file. -/
import Derived.Test.YtghfiijgklnflaaGreatKg
open Option renaming some → ab, none → ad
open Bool renaming true → ae, false → af
open Decidable renaming decide → ag
open Bool renaming and_eq_true → yi
open Go.Proofs.Tryz renaming prog → yc
open Int renaming toNat_natCast → yal
open List renaming length_append → yn, getElem?_eq_some_iff → yp, nil_append → yw, length_map → yx, length_take → yy, replicate → yab, append_assoc → yac, getElem?_eq_getElem → yae, take_length → yag, length_cons → yam, getElem?_append_right → yan, map_append → yaq, getElem?_eq_none → yat, mem_singleton → yav, append_nil → ybb, length_drop → ybf, mem_map → ybj, take_append_drop → ybk, eq_nil_of_length_eq_zero → ybo, take_of_length_le → ybs, length_nil → yce, length → ycf, mem_append → ycm, getElem_of_mem → ycn, length_replicate → ycp, drop_length → ydc
open Nat renaming le_refl → ym, mod_eq_of_lt → yas, zero_add → yau, mul_comm → ybu, le_trans → ybv, mul_le_mul_right → ycb, two_pow_add_eq_or_of_lt → ydf
open Option renaming bind_some → ya
open Option.some renaming inj → ybp
open UInt64 renaming ofNat → yai, toNat_ofNat' → yaz, toNat_lt → ybx, lt_iff_toNat_lt → ych, le_iff_toNat_le → ycy, toNat_inj → ycz
open UInt8 renaming ofNat → yaw
set_option linter.unusedVariables false
set_option linter.unusedSimpArgs false
section
set_option maxRecDepth 4000
namespace Go.Proofs.YtghfiijgklnflaaGreat
open Go Go.Ev
noncomputable section
def W3(F:Nat)(a0:aGO):yO ((Z3×Bool)):=
 (W2 F a0).bind λa=>
 (XC F a).bind λb=>
 (Y7 F b.1).bind λc=>
 if(!c)=ae then
  ab ([],af)
 else
 (WD F b.1).bind λd=>
 let e:Bool:= !((bytesOf d).data.toList==(bytesOf a0).data.toList)
 if e=ae then
  ab ([],af)
 else
 ab (b.1,ae)
def ZlN(F:Nat):Fs yc:=⟨123,[.v aGP],[],[aGP],[⟨.ret,[(0,.bf [.v ZA,.v .bool])],[],[ZA,.bool]⟩],λx=>W3 F x⟩
def Ze3:Fs yc:=ZlN yD
theorem ZlO:Ze3.Ok:=aX { still:=[3,5,6,8,12]} [] [KR,ZcQ,Vu,KK] ⟨Zeh,ZjO,QB,ZcK,aw⟩
def Zq(F:Nat)(s0:Zc):yO ((Bool×Zc)):=
 ab (!s0.2,s0)
def ZgV(F:Nat):Fs yc:=⟨121,[.am 0 []],[.var (.v Zb) ae],[Zb],[⟨.ret,[(0,.v .bool)],[.var (.v Zb) ae],[.bool,Zb]⟩],λx=>Zq F x⟩
def YE:Fs yc:=ZgV yD
theorem Y4:YE.Ok:=aX { still:=[2]} [] [] trivial
def Yz(F:Nat):(aGO×Int×Zc×aGO×aGO)->yO ((aGO×Int×Zc×aGO×aGO)⊕(Zc×aGO×aGO))
 |(b,a,d,e,c)=>
 if(ag (a < (b.length:Int)))=ae then
  (idx b a).bind λf=>
  if(bK a 32)=ae then
   (c[a.toNat]?).bind λg=>
   ab (.inl (b,wi (a+1),d,e,c.set a.toNat f))
  else
  ad
 else
 ab (.inr (d,e,c))
def QP:Lp:=⟨[(2,.am 1 []),(3,.v aGP),(4,.am 2 []),(5,.v yI)],[.var (.v Zb) ae,.var (.v aGQ) ae,.var (.v aGQ) ae],[aGP,yI,Zb,aGQ,aGQ],[⟨.exit 0,[(2,.am 1 []),(4,.am 2 [])],[.var (.v Zb) ae,.var (.v aGQ) ae,.var (.v aGQ) ae],[Zb,aGQ,aGQ]⟩],Ze (Yz yD) yD⟩
theorem Zde:QP.bq yc 122 0:=Zx { still:=[6]} [] [] trivial
def X0(F:Nat)(s0:Zc):yO ((aGO×Zc)):=
 (Yr F 32 s0).bind λa=>
 (Ze (Yz F) F (a.1,0,a.2,gk,gk)).bind λb=>
 ab (b.2.2,b.1)
def Zfz(F:Nat):Fs yc:=⟨122,[.am 0 []],[.var (.v Zb) ae],[Zb],[⟨.ret,[(0,.v aGQ)],[.var (.v Zb) ae],[aGQ,Zb]⟩],λx=>X0 F x⟩
def Zal:Fs yc:=Zfz yD
theorem ZfA:Zal.Ok:=aX { still:=[6]} [(0,QP)] [XT] ⟨WN,aw⟩ ⟨Zde,aw⟩
abbrev zM:=Tx×Zc×Int×aHb×aGV×aHa
def Z4(F:Nat):(aGO×Int×Int×zM)->yO ((aGO×Int×Int×zM)⊕(aGO×zM))
 |(e,b,a,f,c,g,h,i,d)=>
 if(ag (a < b))=ae then
  if(ag (a < 65))=ae then
   (Zq F c).bind λj=>
   if j.1=ae then
    (X0 F j.2).bind λk=>
    (Zr F k.2).bind λl=>
    if(bU d.length 1 80)=ae then
     let m:aHa:=d++([((k.1,l.1),(0,[],0))]:yL In)
     ab (.inl (e,b,wi (a+1),f,l.2,g,h,()::i,m))
    else
    ad
   else
   ab (.inr (e,f,j.2,g,h,i,d))
  else
  ab (.inr (e,f,c,g,h,i,d))
 else
 ab (.inr (e,f,c,g,h,i,d))
abbrev ZN2:yL Ty:=[aGP,yI,yI,aQ,Zb,yI,aGX,aGS,aGT]
abbrev zE:List bh:=[.var (.v aQ) ae,.var (.v Zb) ae,.var (.agg [.rw 4,.own 3 Wo,.v yI]) ae,.log Wo 130,.row bX ae 123]
def Zek:Lp:=⟨[(0,.v aGP),(2,.am 0 []),(4,.am 1 []),(5,.am 2 []),(6,.v yI),(7,.v yI)],zE,ZN2,[⟨.exit 0,[(0,.v aGP),(2,.am 0 []),(4,.am 1 []),(5,.am 2 [])],zE,[aGP,aQ,Zb,yI,aGX,aGS,aGT]⟩],Ze (Z4 yD) yD⟩
def ZOm:HI:={ own:=[33,41,73,76],still:=[3,14,17,27,34,36,43,53,58,62,63,78,87,95,99,103,108,113],bj:=[33,41,93],cO:=[(5,[([1],Wo,130)])]}
theorem ZiG:Zek.bq yc 69 0:=Zx ZOm [] [YE,Zal,ZU] ⟨Y4,ZfA,Z2,aw⟩
def XV(F:Nat)(s0:Zc):yO ((aGO×Zc)):=
 (Zr F s0).bind λa=>
 if a.2.2=ae then
  ab ([],a.2)
 else
 (Yr F a.1 a.2).bind λb=>
 ab (b.1,b.2)
def ZeJ(F:Nat):Fs yc:=⟨124,[.am 0 []],[.var (.v Zb) ae],[Zb],[⟨.ret,[(0,.v aGP)],[.var (.v Zb) ae],[aGP,Zb]⟩],λx=>XV F x⟩
def QQ:Fs yc:=ZeJ yD
theorem ZeK:QQ.Ok:=aX { still:=[2,4,10,11]} [] [ZU,XT] ⟨Z2,WN,aw⟩
def Z5(F:Nat):(aGO×Int×Int×zM)->yO ((aGO×Int×Int×zM)⊕((Bool×zM)⊕(aGO×zM)))
 |(h,b,a,i,c,d,e,f,g)=>
 if(ag (a < b))=ae then
  if(ag (a < 65))=ae then
   (Zq F c).bind λj=>
   if j.1=ae then
    (Zr F j.2).bind λk=>
    (XV F k.2).bind λl=>
    (W3 F l.1).bind λm=>
    if(!m.2)=ae then
     ab (.inr (.inl (af,([],[],0),l.2,d,e,f,g)))
    else
    if(bU e.length 1 32)=ae then
     let n:aHb:=e++([(k.1,m.1)]:yL Out)
     ab (.inl (h,b,wi (a+1),i,l.2,d,n,f,g))
    else
    ad
   else
   ab (.inr (.inr (h,i,j.2,d,e,f,g)))
  else
  ab (.inr (.inr (h,i,c,d,e,f,g)))
 else
 ab (.inr (.inr (h,i,c,d,e,f,g)))
def Zel:Lp:=⟨[(0,.v aGP),(2,.am 0 []),(4,.am 1 []),(5,.am 2 []),(8,.v yI),(9,.v yI)],zE,ZN2,[⟨.ret,[(2,.am 0 []),(3,.v .bool)],zE,[.bool,aQ,Zb,yI,aGX,aGS,aGT]⟩,⟨.exit 2,[(0,.v aGP),(2,.am 0 []),(4,.am 1 []),(5,.am 2 [])],zE,[aGP,aQ,Zb,yI,aGX,aGS,aGT]⟩],Ze (Z5 yD) yD⟩
def KT:HI:={ own:=[33,41,73,76],still:=[3,14,17,27,34,36,43,53,58,62,63,78,87,95,99,103,108,113],bj:=[33,41,93],cO:=[(5,[([1],Wo,130)]),(10,[([1,0],Zp,133)])]}
theorem ZiH:Zel.bq yc 69 1:=Zx KT [] [YE,ZU,QQ,Ze3] ⟨Y4,Z2,ZeK,ZlO,aw⟩
def ZW(F:Nat):(Int×Int×Zc×Xl×Int×yU×aHd)->yO ((Int×Int×Zc×Xl×Int×yU×aHd)⊕(Zc×Xl×Int×yU×aHd))
 |(b,a,c,e,f,g,d)=>
 if(ag (a < b))=ae then
  if(ag (a < 13))=ae then
   (Zq F c).bind λh=>
   if h.1=ae then
    (ZV F h.2).bind λi=>
    (ZV F i.2).bind λj=>
    if(bU d.length 1 16)=ae then
     ab (.inl (b,wi (a+1),j.2,e,f,g,d++([(i.1,j.1)]:yL dz)))
    else
    ad
   else
   ab (.inr (h.2,e,f,g,d))
  else
  ab (.inr (c,e,f,g,d))
 else
 ab (.inr (c,e,f,g,d))
abbrev zD:List bh:=[.var (.v Zb) ae,.var (.v Z1) ae,.var (.agg [.v yI,.own 3 fb,.v .u64]) ae,.log fb 140]
def ZbF:Lp:=⟨[(0,.am 0 []),(2,.am 1 []),(3,.am 2 []),(4,.v yI),(5,.v yI)],zD,[yI,yI,Zb,Z1,yI,.u64,aHc],[⟨.exit 0,[(0,.am 0 []),(2,.am 1 []),(3,.am 2 [])],zD,[Zb,Z1,yI,.u64,aHc]⟩],Ze (ZW yD) yD⟩
def ZN3:HI:={ own:=[25,32],still:=[6,9,19,26,28,34],cO:=[(3,[([1],fb,140)])]}
theorem Zgy:ZbF.bq yc 125 0:=Zx ZN3 [] [YE,Y3] ⟨Y4,XU,aw⟩
def Xa(F:Nat)(s0:Zc):yO ((Xl×Zc)):=
 (Zr F s0).bind λd=>
 (Zr F d.2).bind λe=>
 (Ze (ZW F) F (e.1,0,e.2,(0,[],0),d.1,0,[])).bind λ(a,_,b,_,c)=>
 (ZV F a).bind λf=>
 ab ((b,c,f.1),f.2)
def ZiI(F:Nat):Fs yc:=⟨125,[.am 0 []],[.var (.v Zb) ae],[Zb],[⟨.ret,[(0,.v Z1)],[.var (.v Zb) ae],[Z1,Zb]⟩],λx=>Xa F x⟩
def Zci:Fs yc:=ZiI yD
theorem ZiJ:Zci.Ok:=aX ZN3 [(0,ZbF)] [ZU,Y3] ⟨Z2,XU,aw⟩ ⟨Zgy,aw⟩
def Z6(F:Nat):(aGO×Int×zM)->yO ((aGO×Int×zM)⊕(aGO×zM))
 |(d,a,e,c,f,g,h,b)=>
 if(ag (a < (b.length:Int)))=ae then
  (Zq F c).bind λi=>
  if i.1=ae then
   (Xa F i.2).bind λj=>
   if(bK a b.length)=ae then
    (b[a.toNat]?).bind λk=>
    ab (.inl (d,wi (a+1),e,j.2,f,g,h,b.set a.toNat (k.1,j.1)))
   else
   ad
  else
  ab (.inr (d,e,i.2,f,g,h,b))
 else
 ab (.inr (d,e,c,f,g,h,b))
def Zem:Lp:=⟨[(0,.v aGP),(2,.am 0 []),(4,.am 1 []),(5,.am 2 []),(13,.v yI)],zE,[aGP,yI,aQ,Zb,yI,aGX,aGS,aGT],[⟨.exit 4,[(0,.v aGP),(2,.am 0 []),(4,.am 1 []),(5,.am 2 [])],zE,[aGP,aQ,Zb,yI,aGX,aGS,aGT]⟩],Ze (Z6 yD) yD⟩
theorem ZiK:Zem.bq yc 69 2:=Zx KT [] [YE,Zci] ⟨Y4,ZiJ,aw⟩
def X1(F:Nat)(s0:Zc):yO ((Int×Zc)):=
 ab ((s0.1.length:Int),s0)
def ZfB(F:Nat):Fs yc:=⟨126,[.am 0 []],[.var (.v Zb) ae],[Zb],[⟨.ret,[(0,.v yI)],[.var (.v Zb) ae],[yI,Zb]⟩],λx=>X1 F x⟩
def Zam:Fs yc:=ZfB yD
theorem ZfC:Zam.Ok:=aX { still:=[2]} [] [] trivial
def Xr(F:Nat)(a0:aGO):yO ((Tx×Bool)):=
 (W2 F a0).bind λs=>
 (Zr F s).bind λt=>
 (Ze (Z4 F) F (a0,t.1,0,([],[],0),t.2,0,[],[],[])).bind λ(m,n,l,o,p,q,r)=>
 (Zr F l).bind λu=>
 (Ze (Z5 F) F (m,u.1,0,n,u.2,o,p,q,r)).bind λv=>
 match v with
 |.inl (b,a,_,_,_,_,_)=>
  ab (a,b)
 |.inr (g,h,f,_,i,j,k)=>
  (Zr F f).bind λw=>
  (Ze (Z6 F) F (g,0,h,w.2,w.1,i,j,k)).bind λ(e,_,a,d,c,_,b)=>
  (Zq F a).bind λx=>
  if(!x.1)=ae then
   ab (([],[],0),af)
  else
  (X1 F x.2).bind λy=>
  if(ag (y.1 > 0))=ae then
   ab (([],[],0),af)
  else
  (ZF F (b,c,d)).bind λz=>
  if(!z)=ae then
   ab (([],[],0),af)
  else
  (XZ F (b,c,d)).bind λA=>
  let B:Bool:= !((bytesOf A).data.toList==(bytesOf e).data.toList)
  if B=ae then
   ab (([],[],0),af)
  else
  ab ((b,c,d),ae)
def ZlP(F:Nat):Fs yc:=⟨69,[.v aGP],[],[aGP],[⟨.ret,[(0,.bf [.v aQ,.v .bool])],[],[aQ,.bool]⟩],λx=>Xr F x⟩
def Ze4:Fs yc:=ZlP yD
theorem ZlQ:Ze4.Ok:=GK (fi:={ hi:=KT,lp:=[(0,Zek),(1,Zel),(2,Zem)],gh:=[(3,.bj 5 [0] bX 123),(28,.done 5)]}) (aD:={ l:=[KR,ZU,YE,Zam,Vv,KN]}) (rh ⟨Zeh,Z2,Y4,ZfC,QC,ZcP,aw⟩) ⟨ZiG,ZiH,ZiK,aw⟩
def Qq(F:Nat)(a0:Vb)(a1:aGO):yO ((Tx×Bool)):=
 (Vx F a1).bind λa=>
 (Qp F a a0.2).bind λb=>
 if(!b.2)=ae then
  ab (([],[],0),af)
 else
 (Xr F b.1).bind λc=>
 (YR F c.1 a1).bind λd=>
 if(!d.2)=ae then
  ab (([],[],0),af)
 else
 (Wg F a0 d.1).bind λe=>
 if(!e)=ae then
  ab (([],[],0),af)
 else
 ab (c.1,ae)
def ZlR(F:Nat):Fs yc:=⟨34,[.v ZY,.v aGQ],[],[ZY,aGQ],[⟨.ret,[(0,.bf [.v aQ,.v .bool])],[],[aQ,.bool]⟩],λx=>Qq F x.1 x.2⟩
def Ze5:Fs yc:=ZlR yD
def ZOn:HI:={ still:=[5,13,14,16,24,29,30,37,38]}
theorem ZlS:Ze5.Ok:=aX ZOn [] [KE,Ze2,Ze4,KP,KQ] ⟨ZeX,ZlL,ZlQ,Zee,Zeg,aw⟩
def YF(F:Nat)(s:(Int×Xl×Xl)):yO ((Int×Xl×Xl)⊕((Bool×Xl×Xl)⊕(Xl×Xl))):=
 if(ag (s.1 < (s.2.1.2.1.length:Int)))=ae then
  (idx s.2.1.2.1 s.1).bind λa=>
  (idx s.2.2.2.1 s.1).bind λb=>
  if(!(ag (a=b)))=ae then
   ab (.inr (.inl (af,s.2.1,s.2.2)))
  else
  ab (.inl (wi (s.1+1),s.2.1,s.2.2))
 else
 ab (.inr (.inr (s.2.1,s.2.2)))
def ZbG:Lp:=⟨[(2,.am 0 []),(3,.am 1 []),(5,.v yI)],[.var (.v Z1) ae,.var (.v Z1) ae],[yI,Z1,Z1],[⟨.ret,[(4,.v .bool)],[.var (.v Z1) ae,.var (.v Z1) ae],[.bool,Z1,Z1]⟩,⟨.exit 0,[],[.var (.v Z1) ae,.var (.v Z1) ae],[Z1,Z1]⟩],Ze (YF yD) yD⟩
theorem Zgz:ZbG.bq yc 85 0:=Zx { still:=[4]} [] [] trivial
def W8(F:Nat)(a0:Xl)(a1:Xl):yO (Bool):=
 if(a0.1 !=a1.1)=ae then
  ab af
 else
 if(a0.2.2 !=a1.2.2)=ae then
  ab af
 else
 if((a0.2.1.length:Int)!=(a1.2.1.length:Int))=ae then
  ab af
 else
 (Ze (YF F) F (0,a0,a1)).bind λa=>
 match a with
 |.inl b=>
  ab b.1
 |.inr c=>
  ab ae
def ZiL(F:Nat):Fs yc:=⟨85,[.v Z1,.v Z1],[],[Z1,Z1],(zP .bool),λx=>W8 F x.1 x.2⟩
def Zcj:Fs yc:=ZiL yD
theorem ZiM:Zcj.Ok:=aX { still:=[4]} [(0,ZbG)] [] trivial ⟨Zgz,aw⟩
def Xb(F:Nat):(Int×Int×Z3×Z3×Zz×Zz)->yO ((Int×Int×Z3×Z3×Zz×Zz)⊕((Bool×Z3×Z3×Zz×Zz)⊕(Int×Z3×Z3×Zz×Zz)))
 |(f,a,d,e,b,c)=>
 if(ag (a < (b.1.length:Int)))=ae then
  (idx b.1 a).bind λg=>
  (idx c.1 a).bind λh=>
  if(g !=h)=ae then
   ab (.inr (.inl (af,d,e,b,c)))
  else
  ab (.inl (f,wi (a+1),d,e,b,c))
 else
 ab (.inr (.inr (f,d,e,b,c)))
abbrev zG:List bh:=[.var (.v ZA) ae,.var (.v ZA) ae,.var (.v Zp) ae,.var (.v Zp) ae]
def Zen:Lp:=⟨[(2,.am 0 []),(3,.am 1 []),(5,.v yI),(6,.am 2 []),(7,.am 3 []),(8,.v yI)],zG,[yI,yI,ZA,ZA,Zp,Zp],[⟨.ret,[(4,.v .bool)],zG,[.bool,ZA,ZA,Zp,Zp]⟩,⟨.exit 2,[(2,.am 0 []),(3,.am 1 []),(5,.v yI)],zG,[yI,ZA,ZA,Zp,Zp]⟩],Ze (Xb yD) yD⟩
theorem ZiN:Zen.bq yc 86 1:=Zx { still:=[4]} [] [] trivial
def Xc(F:Nat)(s:(Int×Z3×Z3)):yO ((Int×Z3×Z3)⊕((Bool×Z3×Z3)⊕(Z3×Z3))):=
 if(ag (s.1 < (s.2.1.length:Int)))=ae then
  (idx s.2.1 s.1).bind λd=>
  (idx s.2.2 s.1).bind λe=>
  if(d.2.1 !=e.2.1)=ae then
   ab (.inr (.inl (af,s.2.1,s.2.2)))
  else
  if(d.2.2.1 !=e.2.2.1)=ae then
   ab (.inr (.inl (af,s.2.1,s.2.2)))
  else
  if(d.2.2.2 !=e.2.2.2)=ae then
   ab (.inr (.inl (af,s.2.1,s.2.2)))
  else
  if((d.1.length:Int)!=(e.1.length:Int))=ae then
   ab (.inr (.inl (af,s.2.1,s.2.2)))
  else
  (Ze (Xb F) F (s.1,0,s.2.1,s.2.2,d,e)).bind λf=>
  match f with
  |.inl (a,b,c,_,_)=>
   ab (.inr (.inl (a,b,c)))
  |.inr (a,b,c,_,_)=>
   ab (.inl (wi (a+1),b,c))
 else
 ab (.inr (.inr (s.2.1,s.2.2)))
def Zeo:Lp:=⟨[(2,.am 0 []),(3,.am 1 []),(5,.v yI)],[.var (.v ZA) ae,.var (.v ZA) ae],[yI,ZA,ZA],[⟨.ret,[(4,.v .bool)],[.var (.v ZA) ae,.var (.v ZA) ae],[.bool,ZA,ZA]⟩,⟨.exit 0,[],[.var (.v ZA) ae,.var (.v ZA) ae],[ZA,ZA]⟩],Ze (Xc yD) yD⟩
theorem ZiO:Zeo.bq yc 86 0:=Zx { still:=[4]} [(1,Zen)] [] trivial ⟨ZiN,aw⟩
def Qr(F:Nat)(a0:Z3)(a1:Z3):yO (Bool):=
 if((a0.length:Int)!=(a1.length:Int))=ae then
  ab af
 else
 (Ze (Xc F) F (0,a0,a1)).bind λa=>
 match a with
 |.inl b=>
  ab b.1
 |.inr c=>
  ab ae
def ZlT(F:Nat):Fs yc:=⟨86,[.v ZA,.v ZA],[],[ZA,ZA],(zP .bool),λx=>Qr F x.1 x.2⟩
def Ze6:Fs yc:=ZlT yD
theorem ZlU:Ze6.Ok:=aX { still:=[4]} [(0,Zeo)] [] trivial ⟨ZiO,aw⟩
def Xd(F:Nat)(s:(Int×Tx×Tx)):yO ((Int×Tx×Tx)⊕((Bool×Tx×Tx)⊕(Tx×Tx))):=
 if(ag (s.1 < (s.2.1.1.length:Int)))=ae then
  (idx s.2.1.1 s.1).bind λa=>
  (idx s.2.2.1 s.1).bind λb=>
  if(!(ag (a.1=b.1)))=ae then
   ab (.inr (.inl (af,s.2.1,s.2.2)))
  else
  (idx s.2.1.1 s.1).bind λc=>
  (idx s.2.2.1 s.1).bind λd=>
  (W8 F c.2 d.2).bind λe=>
  if(!e)=ae then
   ab (.inr (.inl (af,s.2.1,s.2.2)))
  else
  ab (.inl (wi (s.1+1),s.2.1,s.2.2))
 else
 ab (.inr (.inr (s.2.1,s.2.2)))
def Zep:Lp:=⟨[(2,.am 0 []),(3,.am 1 []),(5,.v yI)],[.var (.v aQ) ae,.var (.v aQ) ae],[yI,aQ,aQ],[⟨.ret,[(4,.v .bool)],[.var (.v aQ) ae,.var (.v aQ) ae],[.bool,aQ,aQ]⟩,⟨.exit 0,[(2,.am 0 []),(3,.am 1 [])],[.var (.v aQ) ae,.var (.v aQ) ae],[aQ,aQ]⟩],Ze (Xd yD) yD⟩
theorem ZiP:Zep.bq yc 36 0:=Zx { still:=[4,56,62,92,98]} [] [Zcj] ⟨ZiM,aw⟩
def Xe(F:Nat)(s:(Int×Tx×Tx)):yO ((Int×Tx×Tx)⊕((Bool×Tx×Tx)⊕(Tx×Tx))):=
 if(ag (s.1 < (s.2.1.2.1.length:Int)))=ae then
  (idx s.2.1.2.1 s.1).bind λa=>
  (idx s.2.2.2.1 s.1).bind λb=>
  if(a.1 !=b.1)=ae then
   ab (.inr (.inl (af,s.2.1,s.2.2)))
  else
  (idx s.2.1.2.1 s.1).bind λc=>
  (idx s.2.2.2.1 s.1).bind λd=>
  (Qr F c.2 d.2).bind λe=>
  if(!e)=ae then
   ab (.inr (.inl (af,s.2.1,s.2.2)))
  else
  ab (.inl (wi (s.1+1),s.2.1,s.2.2))
 else
 ab (.inr (.inr (s.2.1,s.2.2)))
def Zeq:Lp:=⟨[(2,.am 0 []),(3,.am 1 []),(6,.v yI)],[.var (.v aQ) ae,.var (.v aQ) ae],[yI,aQ,aQ],[⟨.ret,[(4,.v .bool)],[.var (.v aQ) ae,.var (.v aQ) ae],[.bool,aQ,aQ]⟩,⟨.exit 2,[],[.var (.v aQ) ae,.var (.v aQ) ae],[aQ,aQ]⟩],Ze (Xe yD) yD⟩
theorem ZiQ:Zeq.bq yc 36 1:=Zx { still:=[4,56,62,92,98]} [] [Ze6] ⟨ZlU,aw⟩
def Wh(F:Nat)(a0:Tx)(a1:Tx):yO (Bool):=
 if(a0.2.2 !=a1.2.2)=ae then
  ab af
 else
 if((a0.1.length:Int)!=(a1.1.length:Int))=ae then
  ab af
 else
 if((a0.2.1.length:Int)!=(a1.2.1.length:Int))=ae then
  ab af
 else
 (Ze (Xd F) F (0,a0,a1)).bind λa=>
 match a with
 |.inl b=>
  ab b.1
 |.inr c=>
  (Ze (Xe F) F (0,c.1,c.2)).bind λd=>
  match d with
  |.inl e=>
   ab e.1
  |.inr f=>
   ab ae
def ZlV(F:Nat):Fs yc:=⟨36,[.v aQ,.v aQ],[],[aQ,aQ],(zP .bool),λx=>Wh F x.1 x.2⟩
def Ze7:Fs yc:=ZlV yD
theorem ZlW:Ze7.Ok:=aX { still:=[4,56,62,92,98]} [(0,Zep),(1,Zeq)] [] trivial ⟨ZiP,ZiQ,aw⟩
def Zo9(F:Nat)(a0:aGO)(a1:aGO):yO (Bool):=
 let a:Bool:=(bytesOf a0).data.toList==(bytesOf a1).data.toList
 ab a
def Zua(F:Nat):Fs yc:=⟨73,[.v aGP,.v aGP],[],[aGP,aGP],(zP .bool),λx=>Zo9 F x.1 x.2⟩
def Znd:Fs yc:=Zua yD
theorem Zub:Znd.Ok:=aX { still:=[4]} [] [] trivial
def ZA9(F:Nat)(a0:Vb)(a1:Vb):yO (Bool):=
 if(ag (a0.1=a1.1))=ae then
  (Zo9 F a0.2 a1.2).bind λa=>
  ab a
 else
 ab af
def KU(F:Nat):Fs yc:=⟨152,[.v ZY,.v ZY],[],[ZY,ZY],(zP .bool),λx=>ZA9 F x.1 x.2⟩
def ZyO:Fs yc:=KU yD
theorem Zvj:ZyO.Ok:=aX { still:=[4,12,14]} [] [Znd] ⟨Zub,aw⟩
end
end Go.Proofs.YtghfiijgklnflaaGreat
end
section
set_option maxRecDepth 4000
namespace Go.Proofs.YtghfiijgklnflaaGreat
open Go Go.Ev
theorem ZI1{m:Nat}(hm:0 < m):∀(f a n o:Nat),o < m->eV m f a n o < m
 |0,_,_,o,h=>h
 |f+1,a,n,o,h=>by
  rw[eV];split
  .exact h
  .refine ZI1 hm f _ _ _ ?_;split
   .exact Nat.mod_lt _ hm
   .exact h
theorem ZI2{m:Nat}(hm:1 < m)(k a n:Nat)(h:n < 2 ^ k):eV m k a n 1=a ^ n % m:=by
 rw[<-yas (ZI1 (by omega) k a n 1 hm),ZEC k a n 1 h,Nat.one_mul]
instance(a:Nat):Decidable (fN a):=by unfold fN;infer_instance
theorem ZNd{z:Nat}(h:z < iC):z < 18446744073709551616:=Nat.lt_trans h (by decide)
theorem ZNe{z:Nat}(h:z < iC):(yai z).toNat=z:=by
 rw[yaz,yas (ZNd h)]
theorem ZEF(z:Nat):z % iC < iC:=Nat.mod_lt _ (by decide)
theorem ZI3(a n:yU):we yD a n=ab (yai (a.toNat ^ n.toNat % iC)):=by
 unfold we;rw[ZI2 (by decide) 64 a.toNat n.toNat (ybx n)];rfl
theorem ZFT{a n:yU}(h:a.toNat < iC):XX yD a n=ab (yai (a.toNat ^ n.toNat % iC)):=by
 unfold XX;rw[yW (yY (show a.toNat < 4611686018427377339 from h)),ZI2 (by decide) 64 a.toNat n.toNat (ybx n)]
 rfl
theorem ZI4{z:Nat}(h:z < iC):(yai z==1)=ag (z=1):=by
 rw[Bool.eq_iff_iff,yT,yN, <-ycz,ZNe h];rfl
theorem ZI5(p:yU):wg yD p=ab (ag (fN p.toNat)):=by
 unfold wg;by_cases c:0 < p.toNat
 .rw[yW (yY (show p > 0 from ych.2 c))]
  by_cases e:p.toNat < iC
  .rw[yW (yY (show p < 4611686018427377339 from ych.2 e)),ZI3,ya,ZI4 (ZEF _)]
   congr 1;rw[decide_eq_decide];exact⟨λh=>⟨c,e,h⟩,λh=>h.2.2⟩
  .rw[yX (by rw[yN];exact λh=>e (ych.1 h)),yZ (λh=>e h.2.1)]
 .rw[yX (by rw[yN];exact λh=>c (ych.1 h)),yZ (λh=>c h.1)]
theorem ZwA(p:yU):WC yD p=ab (ag (fN p.toNat)):=by
 unfold WC;by_cases e:0 < p.toNat
 .rw[yW (yY (show p >= 1 from ycy.2 e))]
  by_cases c:p.toNat < iC
  .rw[yW (yY (show p < 4611686018427377339 from ych.2 c)),ZFT c,ya,ZI4 (ZEF _)]
   congr 1;rw[decide_eq_decide];exact⟨λh=>⟨e,c,h⟩,λh=>h.2.2⟩
  .rw[yX (by rw[yN];exact λh=>c (ych.1 h)),yZ (λh=>c h.2.1)]
 .rw[yX (by rw[yN];exact λh=>e (ycy.1 h)),yZ (λh=>e h.1)]
theorem ZwB{c:yL aGO}(h:c.flatten.length<=1000000000)(s:c.length<=1000):Xh yD c=ab c.flatten:=by
 unfold Xh
 rw[show(c,(0:Int),c,(c.length:Int),(0:Int))=(λk:Nat=>(c,((c.take k).flatten.length:Int),c,(c.length:Int),(k:Int))) 0 from rfl,
  Zy (x:=(c,(c.flatten.length:Int))) c.length (λk:Nat=>(c,((c.take k).flatten.length:Int),c,(c.length:Int),(k:Int))) ?_ ?_ (by omega),ya]
 .have m:nq (c.flatten.length:Int)=ab []:=by
   unfold nq;rw[yW];rw[yi];exact⟨yY (by omega),yY (by unfold Zn;omega)⟩
  dsimp only
  rw[m,ya,show(c,(c.length:Int),(0:Int),([]:yL yB))=(λk:Nat=>(c,(c.length:Int),(k:Int),(c.take k).flatten)) 0 from rfl,
   Zy (x:=c.flatten) c.length (λk:Nat=>(c,(c.length:Int),(k:Int),(c.take k).flatten)) ?_ ?_ (by omega),ya]
  .intro k f;obtain⟨e,g,_⟩:=Zf f;have j:=Zwz g;have l:=ZEE c (k+1);rw[j,yn]at l;unfold XG;dsimp only;rw[yW (Zw f),Zm g,ya,yW (ZL (by omega) (by omega)),Zl (by omega),j]
  .unfold XG;dsimp only;rw[yX (by rw[Zs];decide),yag]
 .intro k f;obtain⟨e,g,_⟩:=Zf f;have j:=Zwz g;have l:=ZEE c (k+1);rw[j,yn]at l;unfold XF;dsimp only;rw[yW (Zw f),Zm g,ya,Yf (z:=((c.take k).flatten.length:Int)+(e.length:Int)) (by omega) (by omega),yX (cf (by omega)),Zl (by omega),j,yn];rfl
 .unfold XF;dsimp only;rw[yX (by rw[Zs];decide),yag]
theorem KV{a b:yL yB}(h:a.length+b.length<=1000000000):nC yD a b=ab (a++b):=by
 unfold nC;rw[ZwB (by simp;omega) (by simp),ya];simp
def Yg(n:Nat):yL yB:=if h:n < 128 then[yaw n] else yaw (n % 128+128)::Yg (n / 128)
termination_by n
decreasing_by omega
theorem nI{n:Nat}(h:n < 128):Yg n=[yaw n]:=by rw[Yg,dif_pos h]
theorem sq{n:Nat}(h:¬n < 128):Yg n=yaw (n % 128+128)::Yg (n / 128):=by rw[Yg,dif_neg h]
theorem ZEG:∀(j n:Nat),n < 128 ^ (j+1)->(Yg n).length<=j+1
 |0,n,h=>by rw[nI (by omega)];exact ym _
 |j+1,n,h=>by
  by_cases c:n < 128
  .rw[nI c,List.length_singleton];omega
  .rw[sq c];have:=ZEG j (n / 128) (by rw[Nat.pow_succ]at h;omega);simp only[yam];omega
theorem Zt{n:Nat}(h:n<=9223372036854775807):(Yg n).length<=9:=ZEG 8 n (by omega)
theorem ZK3(n:Nat):Yg n≠[]:=by
 rw[Yg];split <;> simp
theorem ZI6{n:Nat}(h:n<=9223372036854775807):sg yD (n:Int)=ab (Yg n):=by
 unfold sg;refine Exists.elim (VT (step:=wo yD) (λs=>∃m:Nat,s.1=(m:Int)/\m<=n/\s.2++Yg m=Yg n) (λs=>s.1.toNat) (λx=>∃m:Nat,x.1=(m:Int)/\m < 128/\x.2++Yg m=Yg n) ?_ ((n:Int),([]:yL yB)) ⟨n,rfl,ym _,rfl⟩ (by dsimp only;omega)) ?_
 .rintro⟨_,o⟩ ⟨m,rfl,A,c⟩;unfold wo;dsimp only at c ⊢;have f:=congrArg ycf c;have j:=Zt h;rw[yn]at f;by_cases e:m < 128
  .right;rw[yX (cf (by omega))];exact⟨_,rfl,m,rfl,e,c⟩
  .left;rw[yW (yY (by omega)),yW (ZL (by omega) (by omega))];have l:Int.tmod (m:Int) 128=((m % 128:Nat):Int):=rfl;have t:Int.tdiv (m:Int) 128=((m / 128:Nat):Int):=rfl;rw[l,t,Yf (z:=((m % 128:Nat):Int)+128) (by omega) (by omega),Yf (z:=((m / 128:Nat):Int)) (by omega) (by omega)];refine⟨_,rfl,⟨m / 128,rfl,by omega, ?_⟩,by dsimp only;omega⟩;dsimp only;rw[<-c,sq e,yac];congr 1;rw[List.singleton_append];congr 1;unfold w8;congr 1;omega
 .rintro⟨_,o⟩ ⟨e,m,rfl,y,g⟩;dsimp only at g ⊢;have f:=congrArg ycf g;have j:=Zt h;rw[yn]at f;rw[e,ya];dsimp only;rw[yW (ZL (by omega) (by omega)), <-g,nI y];congr 3;unfold w8;congr 1;omega
theorem jf{b:yL yB}{z:Int}(c:0<=z)(h:z<=9223372036854775807)(hb:b.length<=1000000):Wt yD b z=ab (b++Yg z.toNat):=by
 obtain⟨n,rfl⟩:=Int.eq_ofNat_of_zero_le c;have:=Zt (n:=n) (by omega);unfold Wt;rw[yX (cf (by omega)),ZI6 (by omega),ya,KV (by omega),ya,yal]
theorem ZDh{b h:yL yB}(hb:b.length<=1000000)(c:h.length<=1000000):wq yD b h=ab (b++h):=by
 unfold wq;rw[KV (by omega),ya]
theorem ZBa{b c:yL yB}(hb:b.length<=1000000)(hc:c.length<=1000000):wr yD b c=ab (b++(Yg c.length++c)):=by
 have:=Zt (n:=c.length) (by omega);unfold wr;rw[ZI6 (by omega),ya,ZwB (by simp;omega) (by simp),ya];simp
def gf(l:yL yB)(n k:Nat):yL yB:=l.take k++yab (n - k) 0
theorem wO{l:yL yB}{n k:Nat}(h:k < l.length)(h2:l.length<=n):(gf l n k)[k]? =ab 0:=by
 unfold gf;have c:(l.take k).length=k:=by simp;omega
 rw[yan (by omega),c,List.getElem?_replicate];simp;omega
theorem wP{l:yL yB}{n k:Nat}{d:yB}(hx:l[k]? =ab d)(h2:l.length<=n):(gf l n k).set k d=gf l n (k+1):=by
 have h:k < l.length:=(yp.1 hx).1;have c:(l.take k).length=k:=by simp;omega
 unfold gf;rw[XH hx,List.set_append_right _ _ (by omega),c,Nat.sub_self];have e:n - k=(n - (k+1))+1:=by omega
 rw[e,List.replicate_succ];simp
theorem KW{l:yL yB}{n:Nat}(h:l.length=n):gf l n n=l:=by
 unfold gf;rw[<-h];simp
def QE(n:Nat):yL yB:=(List.range 8).map λi=>yaw (n / 2 ^ (56 - 8*i))
theorem ZO(n:Nat):(QE n).length=8:=by simp[QE]
theorem pj(n:Nat){k:Nat}(c:k < 8):(QE n)[k]? =ab (yaw (n / 2 ^ (56 - 8*k))):=by simp[QE,c]
theorem wQ(x:yU){m:Nat}:w8 ((ZI x m).toNat:Int)=yaw (x.toNat / 2 ^ m):=by
 unfold w8 ZI;have h:x.toNat / 2 ^ m < 18446744073709551616:=Nat.lt_of_le_of_lt (Nat.div_le_self ..) (ybx _);rw[yaz,yas h];apply UInt8.toNat_inj.1;rw[UInt8.toNat_ofNat',UInt8.toNat_ofNat'];omega
theorem sr{b:yL yB}(x:yU)(hb:b.length<=1000000):Vk yD b x=ab (b++QE x.toNat):=by
 unfold Vk
 rw[show(b,x,(0:Int),([0,0,0,0,0,0,0,0]:yL yB))=(λk:Nat=>(b,x,(k:Int),gf (QE x.toNat) 8 k)) 0 from rfl,
  Zy (x:=(b,QE x.toNat)) 8 (λk:Nat=>(b,x,(k:Int),gf (QE x.toNat) 8 k)) ?_ ?_ (by omega),ya]
 .dsimp only;rw[KV (by rw[ZO];omega),ya]
 .intro k c;unfold wt;dsimp only;have f:=ZO x.toNat
  rw[yW (yY (by omega)),Yf (z:=8*(k:Int)) (by omega) (by omega),Yf (z:=56 - 8*(k:Int)) (by omega) (by omega),yW (yY (by omega)),yW (XI (by omega) (by omega)),
   yal,wO (by omega) (by omega),ya,Zl (by omega)]
  have e:min (56 - 8*(k:Int)).toNat 64=56 - 8*k:=by omega
  rw[e,wQ,wP (pj _ c) (by omega)]
 .unfold wt;dsimp only;rw[yX (by simp),KW (ZO _)]
def kN(b:Zz):Prop:=b.1.length<=12/\0<=b.2.1/\b.2.1<=1048576/\0<=b.2.2.1/\b.2.2.1<=1048576
def kO(b:Zz):Prop:=(∀p,p∈b.1->fN p.toNat)/\(b.2.2.2≠0->fN b.2.2.2.toNat)
def W4(l:Z3):Prop:=0 < l.length/\l.length<=4/\∀b,b∈l->kN b
def QF(l:Z3):Prop:=∀b,b∈l->kO b
theorem KX(p:yU):QA yD p=ab (!decide (fN p.toNat)):=by
 unfold QA;rw[ZI5,ya]
theorem ZI7{p:yU}(h:fN p.toNat):QA yD p=ab af:=by rw[KX,yY h];rfl
theorem ZN4{l:yL yU}(hl:l.length<=12)(h:∀p,p∈l->fN p.toNat):oX yD l=ab af:=by
 unfold oX wh
 rw[show(l,(l.length:Int),(0:Int))=(λk:Nat=>(l,(l.length:Int),(k:Int))) 0 from rfl,
  Zy (x:=.inr ()) l.length (λk:Nat=>(l,(l.length:Int),(k:Int))) ?_ ?_ (by omega),ya]
 .rfl
 .intro k c;obtain⟨e,f,g⟩:=Zf c;unfold XK;dsimp only;rw[yW (Zw c),Zm f,ya,ZI7 (h e g),ya,Zl (by omega)];rfl
 .unfold XK;dsimp only;rw[yX (by rw[Zs];decide)]
theorem ZwC{z:Int}(c:0<=z)(h1:z<=1048576):Qd yD z=ab ae:=by
 unfold Qd;rw[yW (yY c),yY h1]
theorem KY{l:Z3}(h:W4 l)(hp:QF l):Vj yD l=ab ae:=by
 unfold Vj;obtain⟨G,I,j⟩:=h
 rw[show(l,(l.length:Int),(0:Int),l)=(λk:Nat=>(l,(l.length:Int),(k:Int),l)) 0 from rfl,
  Zy (x:=.inr l) l.length (λk:Nat=>(l,(l.length:Int),(k:Int),l)) ?_ ?_ (by omega),ya]
 .dsimp only;rw[yW (yY (by omega)),yY (by omega)]
 .intro k f;obtain⟨e,m,g⟩:=Zf f;obtain⟨s,t,y,z,A⟩:=j e g;obtain⟨E,F⟩:=hp e g;unfold WZ;dsimp only;rw[yW (Zw f),Zm m,ya,yX (cf (by omega)),ZN4 s E,ya,ZwC t y,ya,ZwC z A,ya,Zl (by omega),yX (by decide),yX (by decide),yX (by decide)];by_cases c:e.2.2.2=0
  .rw[yX (by simp[c])]
  .rw[yW (by simp[c]),ZI7 (F c),ya,yX (by decide)]
 .unfold WZ;dsimp only;rw[yX (by rw[Zs];decide)]
def jN(t:Tx):Prop:=(∀x,x∈t.1->x.1.1.length=32)/\t.2.2<=9223372036854775807
def lR(x:In):Prop:=0<=x.1.2/\x.1.2 < 64/\0<=x.2.1/\x.2.1 < 4/\x.2.2.1.length<=12
def wR(o:Out):Prop:=0<=o.1/\o.1<=1125899906842624/\W4 o.2/\QF o.2
def jO(t:Tx):Prop:=0 < t.1.length/\t.1.length<=64/\t.2.1.length<=64/\0<=t.2.2/\(∀x,x∈t.1->lR x)/\∀o,o∈t.2.1->wR o
def aP{α:Type}(f:α->yL yB)(l:yL α):yL yB:=(l.map f).flatten
theorem Vz{α:Type}{f:α->yL yB}{l:yL α}{k:Nat}{e:α}(h:l[k]? =ab e):aP f (l.take (k+1))=aP f (l.take k)++f e:=by
 unfold aP
 rw[XH h,yaq,List.flatten_append];simp
theorem KZ{α:Type}{f:α->yL yB}{l:yL α}{e:α}:aP f (e::l)=f e++aP f l:=rfl
theorem LA{α:Type}{f:α->yL yB}{c:Nat}:∀{l:yL α},(∀x,x∈l->(f x).length<=c)->(aP f l).length<=l.length*c
 |[],_=>by simp[aP]
 |e::l,h=>by
  have j:=h e (List.mem_cons_self ..);have m:=LA (l:=l) λx g=>h x (List.mem_cons_of_mem _ g);rw[KZ,yn,yam,Nat.succ_mul];omega
theorem W5{α:Type}{f:α->yL yB}{c n:Nat}{l:yL α}(h:∀x,x∈l->(f x).length<=c)(g:l.length<=n)(k:Nat):(aP f (l.take k)).length<=n*c:=by
 refine ybv (LA λx e=>h x (List.mem_of_mem_take e)) (ycb c ?_);rw[yy];omega
def fc(p:yU):yL yB:=QE p.toNat
def dJ(b:Zz):yL yB:=Yg b.1.length++(aP fc b.1++(Yg b.2.1.toNat++(Yg b.2.2.1.toNat++QE b.2.2.2.toNat)))
def V2(l:Z3):yL yB:=Yg l.length++aP dJ l
theorem su{l:yL yU}(h:l.length<=12)(k:Nat):(aP fc (l.take k)).length<=96:=W5 (c:=8) (λx _=>Nat.le_of_eq (ZO _)) h k
theorem sv{b:Zz}(h:b.1.length<=12/\0<=b.2.1/\b.2.1<=1048576/\0<=b.2.2.1/\b.2.2.1<=1048576):(dJ b).length<=131:=by
 have c:=su h.1 b.1.length;rw[yag]at c;have e:=Zt (n:=b.1.length) (by omega);have f:=Zt (n:=b.2.1.toNat) (by omega);have g:=Zt (n:=b.2.2.1.toNat) (by omega);have j:=ZO b.2.2.2.toNat
 unfold dJ;simp only[yn];omega
theorem lS{l:Z3}(h:W4 l):(V2 l).length<=533:=by
 have e:=W5 (f:=dJ) (c:=131) (λx g=>sv (h.2.2 x g)) h.2.1 l.length;rw[yag]at e;have j:=Zt (n:=l.length) (by have:=h.2.1;omega);unfold V2;rw[yn];omega
theorem ZFU{c:yL yB}(hc:c.length<=100000){f:yL Zz}{n i:Int}{ks:yL yU}{l:Z3}{e:Zz}(j:ks.length<=12):
 Ze (si yD) yD (c,f,n,i,ks,(ks.length:Int),(0:Int),l,e)=ab (c++aP fc ks,f,n,i,l,e):=by
 rw[show(c,f,n,i,ks,(ks.length:Int),(0:Int),l,e)=(λk:Nat=>(c++aP fc (ks.take k),f,n,i,ks,(ks.length:Int),(k:Int),l,e)) 0 by simp[aP]];refine Zy ks.length (λk:Nat=>(c++aP fc (ks.take k),f,n,i,ks,(ks.length:Int),(k:Int),l,e)) ?_ ?_ (by omega)
 .intro k g;obtain⟨e,h,_⟩:=Zf g;have m:=su j k;unfold si;dsimp only;rw[yW (Zw g),Zm h,ya,sr _ (by rw[yn];omega),ya,Zl (by omega),Vz h,yac];rfl
 .unfold si;dsimp only;rw[yX (by rw[Zs];decide),yag]
theorem LB{l:Z3}(h:W4 l)(hp:QF l):sj yD l=ab (V2 l):=by
 unfold sj;have G:=h.2.1;have I:=Zt (n:=l.length) (by omega);rw[KY h hp,ya,yX (by decide),jf (by omega) (by omega) (by simp),ya,yw,yal]
 rw[show(Yg l.length,l,(l.length:Int),(0:Int),l)=(λk:Nat=>(Yg l.length++aP dJ (l.take k),l,(l.length:Int),(k:Int),l)) 0 by simp[aP],
  Zy (x:=(V2 l,l)) l.length (λk:Nat=>(Yg l.length++aP dJ (l.take k),l,(l.length:Int),(k:Int),l)) ?_ ?_ (by omega),ya]
 .intro k j;obtain⟨e,m,t⟩:=Zf j;obtain⟨s,y,M,z,Q⟩:=h.2.2 e t;have S:=W5 (f:=dJ) (c:=131) (λx A=>sv (h.2.2 x A)) h.2.1 k;have T:=Zt (n:=e.1.length) (by omega);have E:=Zt (n:=e.2.1.toNat) (by omega);have F:=Zt (n:=e.2.2.1.toNat) (by omega);have g:=su s e.1.length;rw[yag]at g;unfold wv;dsimp only
  rw[yW (Zw j),Zm m,ya,jf (by omega) (by omega) (by rw[yn];omega),ya,yal,
   ZFU (by simp only[yn];omega) s,ya]
  dsimp only
  rw[jf y (by omega) (by simp only[yn];omega),ya,jf z (by omega) (by simp only[yn];omega),ya,
   sr _ (by simp only[yn];omega),ya,Zl (by omega),Vz m]
  unfold dJ;simp only[yac]
 .unfold wv;dsimp only;rw[yX (by rw[Zs];decide),yag];rfl
def dq(x:In):yL yB:=x.1.1++Yg x.1.2.toNat
def dG(o:Out):yL yB:=Yg o.1.toNat++(Yg (V2 o.2).length++V2 o.2)
def iD(t:Tx):yL yB:=Yg t.1.length++(aP dq t.1++(Yg t.2.1.length++(aP dG t.2.1++Yg t.2.2.toNat)))
def dx(s:dz):yL yB:=QE s.1.toNat++QE s.2.toNat
def QS(x:In):yL yB:=Yg x.2.1.toNat++(Yg x.2.2.1.length++(aP dx x.2.2.1++QE x.2.2.2.toNat))
def dA(t:Tx):yL yB:=iD t++aP QS t.1
theorem pn{x:In}(h:x.1.1.length=32)(k:lR x):(dq x).length<=41:=by
 have:=Zt (n:=x.1.2.toNat) (by have:=k.2.1;omega);unfold dq;rw[yn];omega
theorem po{o:Out}(k:wR o):(dG o).length<=551:=by
 have c:=lS k.2.2.1;have e:=Zt (n:=o.1.toNat) (by have:=k.2.1;omega);have f:=Zt (n:=(V2 o.2).length) (by omega);unfold dG;simp only[yn];omega
theorem sx{l:yL dz}(h:l.length<=12)(k:Nat):(aP dx (l.take k)).length<=192:=W5 (c:=16) (λx _=>by unfold dx;rw[yn,ZO,ZO];exact ym _) h k
theorem pp{x:In}(k:lR x):(QS x).length<=218:=by
 obtain⟨_,_,f,g,c⟩:=k;have e:=sx c x.2.2.1.length;rw[yag]at e;have h:=Zt (n:=x.2.1.toNat) (by omega);have j:=Zt (n:=x.2.2.1.length) (by omega);have l:=ZO x.2.2.2.toNat
 unfold QS;simp only[yn];omega
theorem LC{t:Tx}(hw:jN t)(h:jO t):wy yD t=ab (iD t)/\(iD t).length<=40000:=by
 obtain⟨g,outs,j⟩:=t;obtain⟨E,T⟩:=hw;obtain⟨h1,U,W,X,F,G⟩:=h;dsimp only at E T h1 U W X F G;have Y:=λk=>W5 (f:=dq) (c:=41) (λx z=>pn (E x z) (F x z)) U k;have lo:=λk=>W5 (f:=dG) (c:=551) (λx z=>po (G x z)) W k;have I:=Y g.length;have M:=lo outs.length;rw[yag]at I M;have r1:=Zt (n:=g.length) (by omega);have r2:=Zt (n:=outs.length) (by omega);have r3:=Zt (n:=j.toNat) (by omega);refine⟨?_,by unfold iD;simp only[yn];omega⟩;unfold wy;dsimp only;rw[jf (by omega) (by omega) (by simp),ya,yw,yal]
 rw[show(Yg g.length,g,(g.length:Int),(0:Int),(g,outs,j))=(λk:Nat=>(Yg g.length++aP dq (g.take k),g,(g.length:Int),(k:Int),(g,outs,j))) 0 by simp[aP],
  Zy (x:=(Yg g.length++aP dq g,(g,outs,j))) g.length (λk:Nat=>(Yg g.length++aP dq (g.take k),g,(g.length:Int),(k:Int),(g,outs,j))) ?_ ?_ (by omega),ya]
 .dsimp only;rw[jf (by omega) (by omega) (by rw[yn];omega),ya,yal];generalize Z:Yg g.length++aP dq g++Yg outs.length=m;have hpl:m.length<=3000:=by rw[<-Z];simp only[yn];omega
  rw[show(m,outs,(outs.length:Int),(0:Int),(g,outs,j))=(λk:Nat=>(m++aP dG (outs.take k),outs,(outs.length:Int),(k:Int),(g,outs,j))) 0 by simp[aP],
   Zy (x:=(m++aP dG outs,(g,outs,j))) outs.length (λk:Nat=>(m++aP dG (outs.take k),outs,(outs.length:Int),(k:Int),(g,outs,j))) ?_ ?_ (by omega),ya]
  .dsimp only;rw[jf X T (by rw[yn];omega),ya, <-Z];unfold iD;simp only[yac]
  .intro k s;obtain⟨e,y,A⟩:=Zf s;have Q:=lo k;have l:=G e A;have S:=l.2.2.1;have hll:=lS S;have hrl:=Zt (n:=e.1.toNat) (by have:=l.2.1;omega);unfold wx;dsimp only
   rw[yW (Zw s),Zm y,ya,jf l.1 (by have:=l.2.1;omega) (by rw[yn];omega),ya,LB l.2.2.1 l.2.2.2,ya,
    ZBa (by simp only[yn];omega) (by omega),ya,Zl (by omega),Vz y]
   unfold dG;simp only[yac]
  .unfold wx;dsimp only;rw[yX (by rw[Zs];decide),yag]
 .intro k s;obtain⟨e,y,A⟩:=Zf s;have Q:=Y k;have h32:=E e A;have l:=F e A;unfold ww;dsimp only
  rw[yW (Zw s),Zm y,ya,ZDh (by rw[yn];omega) (by omega),ya,jf l.1 (by have:=l.2.1;omega) (by simp only[yn];omega),ya,
   Zl (by omega),Vz y]
  unfold dq;simp only[yac]
 .unfold ww;dsimp only;rw[yX (by rw[Zs];decide),yag]
def eu(l:yL Out):Int:=(l.map (·.1)).sum
theorem sy{l:yL Out}{k:Nat}{e:Out}(h:l[k]? =ab e):eu (l.take (k+1))=eu (l.take k)+e.1:=by
 unfold eu;rw[XH h,yaq,List.sum_append];simp
theorem ZI8:∀{l:yL Int},(∀x,x∈l->0<=x)->0<=l.sum
 |[],_=>by simp
 |x::r,h=>by
  have:=ZI8 (l:=r) λy c=>h y (List.mem_cons_of_mem _ c);have:=h x (List.mem_cons_self ..);rw[List.sum_cons];omega
def pq:yL yB:=gk
theorem QR(n:Nat):(ep n).length=8:=rfl
theorem ZI9(n:yU):Qj yD n=ab (ep n.toNat):=by
 unfold Qj
 have e:=Zy (step:=Y8 yD) 8 (λk:Nat=>(n,56 - 8*(k:Int),(ep n.toNat).take k)) (x:=ep n.toNat) (by
  intro k c;have f:(ep n.toNat)[k]? =_:=KD n c;have h:((ep n.toNat).take k).length<=8:=by rw[yy];exact ybv (Nat.min_le_right _ _) (ym _)
  unfold Y8;dsimp only;have g:min (56 - 8*(k:Int)).toNat 64=56 - 8*k:=by omega
  rw[yW (yY (by omega)),yW (yY (by omega)),yW (ZL (by omega) (by omega)),Yf (z:=56 - 8*(k:Int) - 8) (by omega) (by omega),g,show 56 - 8*(k:Int) - 8=56 - 8*((k+1:Nat):Int) by omega,List.take_add_one,f];rfl) (by
  unfold Y8;dsimp only;rw[yX (cf (by omega))];rfl) (by omega)
 have e:Ze (Y8 yD) yD (n,(56:Int),([]:yL yB))=_:=e;rw[e,ya]
theorem ZFV(n:yU):W6 yD n=ab (ep n.toNat):=by
 unfold W6
 have e:=Zy (step:=YC yD) 8 (λk:Nat=>(n,56 - 8*(k:Int),([]:yL yB),(ep n.toNat).take k)) (x:=(([]:yL yB),ep n.toNat)) (by
  intro k c;have f:(ep n.toNat)[k]? =_:=KD n c;have h:((ep n.toNat).take k).length<=8:=by rw[yy];exact ybv (Nat.min_le_right _ _) (ym _)
  unfold YC;dsimp only;have g:min (56 - 8*(k:Int)).toNat 64=56 - 8*k:=by omega
  rw[yW (yY (by omega)),yW (yY (by omega)),yW (ZL (by omega) (by omega)),Yf (z:=56 - 8*(k:Int) - 8) (by omega) (by omega),g,show 56 - 8*(k:Int) - 8=56 - 8*((k+1:Nat):Int) by omega,List.take_add_one,f];rfl) (by
  unfold YC;dsimp only;rw[yX (cf (by omega))];rfl) (by omega)
 have e:Ze (YC yD) yD (n,(56:Int),([]:yL yB),([]:yL yB))=_:=e;rw[e,ya]
def kP(l:yL yB):yL yB:=ep l.length++l
def gr(s:ByteArray)(c:yL aGO):yL yB:=ep s.size++fD s++aP kP c
theorem ZBc(s:ByteArray):(fD s).length=s.size:=by
 unfold fD;rw[Array.length_toList];rfl
theorem wS{e:yL aGO}(h2:e.length<=10)(h3:∀l,l∈e->l.length<=60000)(k:Nat):(aP kP (e.take k)).length<=10*60008:=
 W5 (c:=60008) (λl f=>by have:=h3 l f;unfold kP;rw[yn,QR];omega) h2 k
theorem wT{s:ByteArray}{c:yL aGO}(h1:s.size<=100)(h2:c.length<=10)(h3:∀l,l∈c->l.length<=60000):lO yD s c=ab (Sha.fL (gr s c)):=by
 unfold lO;have hs:=ZBc s;have h:VF yD (s.size:Int) []=ab (ep s.size):=HR (b:=[]) (by simp);rw[h,ya,yW (ZL (by rw[hs,QR];omega) (by rw[hs,QR];omega))]
 have e:=Zy (step:=oS yD) c.length (λk:Nat=>(c,(c.length:Int),(k:Int),pq,ep s.size++fD s++aP kP (c.take k))) (x:=(pq,gr s c)) (by
  intro k j;obtain⟨e,f,m⟩:=Zf j;have:=h3 e m;have g:=wS h2 h3 k;unfold oS;dsimp only;rw[yW (yY (by omega)),Zm f,ya,HR (by simp only[yn,QR,hs];omega),ya,yW (ZL (by simp only[yn,QR,hs];omega) (by simp only[yn,QR,hs];omega)),Zl (by omega),Vz f];simp only[kP,yac]) (by
  unfold oS;dsimp only;rw[yX (by rw[Zs];decide),yag];rfl) (by omega)
 rw[show aP kP (c.take 0)=[] from rfl,ybb]at e
 have e:Ze (oS yD) yD (c,(c.length:Int),(0:Int),gk,ep s.size++fD s)=_:=e;have g:=wS h2 h3 c.length;rw[yag]at g;rw[e,ya,ZK1 (by show(gr s c).length<=_;unfold gr;simp only[yn,QR,hs];omega),ya]
theorem sA{s:ByteArray}{c:yL aGO}(h1:s.size<=100)(h2:c.length<=10)(h3:∀l,l∈c->l.length<=60000):XQ yD s c=ab (Sha.fL (gr s c)):=by
 unfold XQ;have hs:=ZBc s
 have w:∀n:Nat,n<=1000000->(cK (n:Int)).toNat=n:=λn m=>by
  unfold cK;rw[yaz];omega
 have hs':s.data.toList.length=s.size:=hs;rw[ZFV,ya,w _ (by omega),yW (yY (by unfold maxLen;omega)),yW (ZL (by rw[hs',QR];omega) (by rw[hs',QR];omega))]
 have e:=Zy (step:=YQ yD) c.length (λk:Nat=>(c,(k:Int),pq,ep s.size++fD s++aP kP (c.take k))) (x:=(pq,gr s c)) (by
  intro k f;obtain⟨e,g,j⟩:=Zf f;have:=h3 e j;have h:=wS h2 h3 k;unfold YQ;dsimp only;rw[yW (Zw f),Zm g,ya,ZI9,ya,w _ (by omega),yW (ZL (by simp only[yn,QR,hs];omega) (by simp only[yn,QR,hs];omega)),ya,yW (ZL (by simp only[yn,QR,hs];omega) (by simp only[yn,QR,hs];omega)),Zl (by omega),Vz g];simp only[kP,yac]) (by
  unfold YQ;dsimp only;rw[yX (by rw[Zs];decide),yag];rfl) (by omega)
 rw[show aP kP (c.take 0)=[] from rfl,ybb]at e
 have e:Ze (YQ yD) yD (c,(0:Int),pq,ep s.size++s.data.toList)=_:=e;have h:=wS h2 h3 c.length;rw[yag]at h;show(Option.bind (Ze (YQ yD) yD (c,(0:Int),pq,ep s.size++s.data.toList)) λa=>(Wv yD a.2).bind λb=>ab b)=_;rw[e,ya,ZI0 (by show(gr s c).length<=_;unfold gr;simp only[yn,QR,hs];omega),ya]
theorem LD{n:Nat}(h:n < 256):w8 (n:Int)=yaw n:=by
 unfold w8;congr 1;omega
theorem ZNf:∀(k n:Nat),n < 128 ^ (k+1)->n<=9223372036854775807->Vy yD (k+1) (n:Int)=ab (Yg n):=by
 intro k
 induction k with
 |zero=>
  intro n h e;have h:n < 128:=by simpa using h
  show Ww yD (Vy yD 0) (n:Int)=_;unfold Ww
  rw[yW (yY (by omega)),nI h,LD (by omega)]
 |succ k f=>
  intro n h e;show Ww yD (Vy yD (k+1)) (n:Int)=_;unfold Ww;by_cases c:n < 128
  .rw[yW (yY (by omega)),nI c,LD (by omega)]
  .have g:n / 128 < 128 ^ (k+1):=by
    rw[Nat.div_lt_iff_lt_mul (by decide)];rw[Nat.pow_succ]at h;exact h
   have j:wi (Int.tdiv (n:Int) 128)=((n / 128:Nat):Int):=by
    rw[show Int.tdiv (n:Int) 128=((n / 128:Nat):Int) from rfl,Yf (by omega) (by omega)]
   have m:=Zt (n:=n / 128) (by omega);rw[yX (cf (by omega)),j,f _ g (by omega),ya,yW (ZL (by omega) (by omega)),sq c]
   have l:w8 (Int.tmod (n:Int) 128)+128=yaw (n % 128+128):=by
    rw[show Int.tmod (n:Int) 128=((n % 128:Nat):Int) from rfl,LD (by omega), <-UInt8.toNat_inj,UInt8.toNat_add,UInt8.toNat_ofNat',UInt8.toNat_ofNat']
    show(n % 128 % 256+128) % 256=_;omega
   rw[l];rfl
theorem ZK4{n:Nat}(h:n<=9223372036854775807):QO yD (n:Int)=ab (Yg n):=ZNf 11 n (by omega) h
theorem iE{b:yL yB}{z:Int}(c:0<=z)(h:z<=9223372036854775807)(hb:b.length<=1000000):ZP yD b z=ab (b++Yg z.toNat):=by
 obtain⟨n,rfl⟩:=Int.eq_ofNat_of_zero_le c;have e:=Zt (n:=n) (by omega);unfold ZP;rw[yW (ZL (by omega) (by omega)),yW (yY (by omega)),ZK4 (by omega),ya,yW (ZL (by omega) (by omega)),yal]
theorem ZJa{b:yL yB}{z:Int}(c:0<=z)(h:z<=9223372036854775807)(hb:b.length<=1000000):KI yD b z=ab (b++Yg z.toNat):=iE c h hb
theorem sB{b:yL yB}(x:yU)(hb:b.length<=1000000):Yq yD b x=ab (b++QE x.toNat):=by
 unfold Yq;rw[yW (ZL (by omega) (by omega))]
 have e:=Zy (step:=YK yD) 8 (λk:Nat=>(x,7 - (k:Int),b++(QE x.toNat).take k)) (x:=b++QE x.toNat) (by
  intro k c;have g:((QE x.toNat).take k).length<=8:=by rw[yy];omega
  unfold YK;dsimp only
  have f:(min ((cK (wi (8*(7 - (k:Int))))).toNat:Int).toNat 64)=56 - 8*k:=by
   rw[Yf (z:=8*(7 - (k:Int))) (by omega) (by omega)]
   have:(cK (8*(7 - (k:Int)))).toNat=56 - 8*k:=by
    unfold cK;rw[yaz];omega
   omega
  rw[yW (yY (by omega)),yW (ZL (by rw[yn];omega) (by rw[yn];omega)),Yf (z:=7 - (k:Int) - 1) (by omega) (by omega),f,wQ,show 7 - (k:Int) - 1=7 - ((k+1:Nat):Int) by omega,List.take_add_one,pj _ c,yac];rfl) (by
  unfold YK;dsimp only;rw[yX (cf (by omega)),ybs (by rw[ZO];exact ym _)]) (by omega)
 have e:Ze (YK yD) yD (x,(7:Int),b++[])=_:=e;rw[ybb]at e;rw[e,ya]
theorem LF{b h:yL yB}(hb:b.length<=1000000)(f:h.length=32):Y9 yD b h=ab (b++h):=by
 unfold Y9;rw[yW (ZL (by omega) (by omega))]
 have e:=Zy (step:=YD yD) 32 (λk:Nat=>((k:Int),h,b++h.take k)) (x:=(h,b++h)) (by
  intro k g;obtain⟨e,c,_⟩:=Zf (l:=h) (k:=k) (by omega);have j:(h.take k).length<=32:=by rw[yy];omega
  unfold YD;dsimp only;rw[yW (yY (by omega)),yW (XI (by omega) (by omega)),yal,c,ya,yW (ZL (by rw[yn];omega) (by rw[yn];omega)),Zl (by omega),List.take_add_one,c,yac];rfl) (by
  unfold YD;dsimp only;rw[yX (cf (by omega)),ybs (by omega)]) (by omega)
 have e:Ze (YD yD) yD ((0:Int),h,b++[])=_:=e;rw[ybb]at e;rw[e,ya]
theorem ZyV{b c:yL yB}(hb:b.length<=1000000)(hc:c.length<=1000000):WI yD b c=ab (b++(Yg c.length++c)):=by
 unfold WI;have e:=Zt (n:=c.length) (by omega);rw[ZJa (by omega) (by omega) hb,ya,yal,yW (ZL (by rw[yn];omega) (by rw[yn];omega)),yac]
def dH(l:yL yB):Nat->Nat
 |0=>0
 |k+1=>dH l k*256+((l[k]?).map UInt8.toNat).getD 0
theorem wU(l:yL yB):∀k,dH l k < 256 ^ k
 |0=>by simp[dH]
 |k+1=>by
  have:=wU l k
  have h:((l[k]?).map UInt8.toNat).getD 0 < 256:=by
   cases l[k]? with
   |none=>simp
   |some d=>exact d.toNat_lt
  rw[dH,Nat.pow_succ];omega
theorem ZEI(n:Nat):∀k,k<=8->n < 18446744073709551616->dH (QE n) k=n / 2 ^ (64 - 8*k)
 |0,_,h=>by rw[dH,Nat.div_eq_of_lt (by omega)]
 |k+1,f,h=>by
  rw[dH,ZEI n k (by omega) h,pj n (by omega)];have e:(64 - 8*k)=(56 - 8*k)+8:=by omega
  have c:64 - 8*(k+1)=56 - 8*k:=by omega
  rw[e,c,Nat.pow_add, <-Nat.div_div_eq_div_mul];simp;omega
def Va(r:Zc)(n:Nat):yL yB×Zc:=if r.2=ae\/r.1.length < n then([],([],ae)) else(r.1.take n,(r.1.drop n,r.2))
theorem sC{n:Nat}{z:Int}(c:0<=z)(h:z<=(n:Int)):VQ n (ab z) ad=ae:=by simp[VQ,c,h]
theorem sD{n:Nat}{z:Int}(c:0<=z)(h:z<=(n:Int)):VQ n ad (ab z)=ae:=by simp[VQ,c,h]
theorem ZBd{l:yL yB}(h:l.length<=1000000000):Yj yD l=ab l:=by
 unfold Yj;rw[yW (ZL (by omega) (by omega))]
theorem LG{z:Int}{r:Zc}(f:0<=z)(h:r.1.length<=2000000):Wu yD z r=ab (Va r z.toNat):=by
 obtain⟨b,no⟩:=r;obtain⟨n,rfl⟩:=Int.eq_ofNat_of_zero_le f;unfold Wu Va Vl;dsimp only at h ⊢;rw[yal];by_cases c:no=ae
 .rw[yW c,ya,yW (.inl c)]
 by_cases e:b.length < n
 .rw[yX c,yW (yY (by omega)),ya,yW (.inr e)]
 rw[yX c,yX (cf (by omega)),yW (sD (by omega) (by omega)),ZBd (by rw[yy];omega),ya,yW (sC (by omega) (by omega)),yX (by rintro(h|h);exact c h;exact e h)]
theorem nJ(r:Zc)(n:Nat):(Va r n).1.length<=n/\(Va r n).2.1.length<=r.1.length:=by
 unfold Va;split
 .simp
 .simp;omega
theorem LH{b r:yL yB}{n:Nat}(h:b.length=n):Va (b++r,af) n=(b,(r,af)):=by
 subst h;unfold Va;rw[yX (by simp)];simp
def gg(r:Zc):yL yB×Zc:=((Va r 32).1++yab (32 - (Va r 32).1.length) 0,(Va r 32).2)
theorem ZwD(r:Zc):(gg r).1.length=32/\(gg r).2.1.length<=r.1.length:=by
 have c:=nJ r 32;unfold gg;rw[yn,ycp];exact⟨by omega,c.2⟩
theorem ZBe{b r:yL yB}(h:b.length=32):gg (b++r,af)=(b,(r,af)):=by
 unfold gg;rw[LH h,h];simp
def gF(r:Zc):yU×Zc:=(yai (dH (Va r 8).1 (Va r 8).1.length),(Va r 8).2)
theorem ZJb{l:yL yB}{k:Nat}{d:yB}(c:k < 8)(hx:l[k]? =ab d):(QZ (yai (dH l k)) 8)|||(yai d.toNat)=yai (dH l (k+1)):=by
 have e:=wU l k;have f:256 ^ k<=256 ^ 7:=Nat.pow_le_pow_right (by omega) (by omega);have g:=d.toNat_lt;apply ycz.1;unfold QZ
 rw[UInt64.toNat_or,yaz,yaz,yaz,yaz,yas (a:=dH l k) (by omega),yas (a:=d.toNat) (by omega),yas (a:=dH l k*2 ^ 8) (by omega),dH,hx,
  ybu (dH l k) (2 ^ 8), <-ydf (by omega)]
 simp;omega
theorem jP{r:Zc}(h:r.1.length<=2000000):Xv yD r=ab (gF r):=by
 unfold Xv gF;rw[LG (by omega) h,ya];have c:=nJ r 8;rw[show(8:Int).toNat=8 from rfl]
 generalize Va r 8=q at c;obtain⟨l,s⟩:=q;dsimp only at c ⊢
 rw[show((0:yU),l,(l.length:Int),(0:Int),s)=(λk:Nat=>(yai (dH l k),l,(l.length:Int),(k:Int),s)) 0 from rfl,
  Zy (x:=(yai (dH l l.length),s)) l.length (λk:Nat=>(yai (dH l k),l,(l.length:Int),(k:Int),s)) ?_ ?_ (by omega),ya]
 .intro k f;obtain⟨e,g,_⟩:=Zf f;unfold VJ;dsimp only;rw[yW (Zw f),Zm g,ya,ZJb (by omega) g,Zl (by omega)]
 .unfold VJ;dsimp only;rw[yX (by rw[Zs];decide)]
theorem jQ(r:Zc):(gF r).2.1.length<=r.1.length:=(nJ r 8).2
theorem jR(x:yU)(r:yL yB):gF (QE x.toNat++r,af)=(x,(r,af)):=by
 unfold gF;rw[LH (ZO _),ZO];dsimp only;rw[ZEI _ 8 (by omega) (ybx _)];simp
def X9(b:yL yB):Nat->Nat->Nat->Bool×Nat×Nat
 |0,k,_=>(af,0,k)
 |f+1,k,n=>match b[k]? with
  |none=>(af,0,k)
  |some d=>if 8 < k\/(0 < k/\d.toNat=0) then(af,0,k) else if d.toNat < 128 then(ae,n+d.toNat % 128*128 ^ k,k+1) else X9 b f (k+1) (n+d.toNat % 128*128 ^ k)
theorem sE{b:yL yB}{f k n:Nat}(h:b.length<=k):X9 b (f+1) k n=(af,0,k):=by
 simp[X9,yat h]
theorem sF{b:yL yB}{f k n:Nat}{d:yB}(hx:b[k]? =ab d)(h:8 < k):X9 b (f+1) k n=(af,0,k):=by
 simp[X9,hx,h]
theorem sG{b:yL yB}{f k n:Nat}{d:yB}(hx:b[k]? =ab d)(_:¬8 < k)(h:0 < k/\d.toNat=0):X9 b (f+1) k n=(af,0,k):=by
 rw[X9,hx];exact yW (.inr h)
theorem pr{b:yL yB}{f k n:Nat}{d:yB}(hx:b[k]? =ab d)(h2:¬8 < k)(h3:¬(0 < k/\d.toNat=0))(h4:d.toNat < 128):X9 b (f+1) k n=(ae,n+d.toNat % 128*128 ^ k,k+1):=by
 rw[X9,hx];show(if 8 < k\/(0 < k/\d.toNat=0) then _ else _)=_
 rw[yX (by rintro(h|h);exact h2 h;exact h3 h),yW h4]
theorem pt{b:yL yB}{f k n:Nat}{d:yB}(hx:b[k]? =ab d)(h2:¬8 < k)(h3:¬(0 < k/\d.toNat=0))(h4:¬d.toNat < 128):X9 b (f+1) k n=X9 b f (k+1) (n+d.toNat % 128*128 ^ k):=by
 rw[X9,hx];show(if 8 < k\/(0 < k/\d.toNat=0) then _ else _)=_
 rw[yX (by rintro(h|h);exact h2 h;exact h3 h),yX h4]
theorem LI(n k:Nat)(d:yB)(e:n < 128 ^ k)(f:k<=8):n+d.toNat % 128*128 ^ k < 9223372036854775808:=by
 have g:d.toNat % 128*128 ^ k<=127*128 ^ k:=ycb _ (by omega);have c:128 ^ (k+1)<=128 ^ 9:=Nat.pow_le_pow_right (by omega) (by omega);rw[Nat.pow_succ]at c;omega
theorem LJ(n k:Nat)(d:yB)(c:n < 128 ^ k):n+d.toNat % 128*128 ^ k < 128 ^ (k+1):=by
 have e:d.toNat % 128*128 ^ k<=127*128 ^ k:=ycb _ (by omega);rw[Nat.pow_succ];omega
theorem ZBf(b:yL yB):∀(f k n:Nat),(X9 b f k n).1=ae->(X9 b f k n).2.2<=b.length
 |0,k,n,h=>by simp[X9]at h
 |f+1,k,n,h=>by
  by_cases j:b.length<=k
  .rw[sE j]at h;cases h
  have c:=yae (Nat.lt_of_not_le j);by_cases e:8 < k
  .rw[sF c e]at h;cases h
  by_cases g:0 < k/\b[k].toNat=0
  .rw[sG c e g]at h;cases h
  by_cases l:b[k].toNat < 128
  .rw[pr c e g l];simp;omega
  .rw[pt c e g l]at h ⊢;exact ZBf b f _ _ h
theorem ZBg(b:yL yB):∀(f k n:Nat),n < 128 ^ k->k<=9->(X9 b f k n).2.1<=9223372036854775807
 |0,k,n,h,_=>by simp[X9]
 |f+1,k,n,h,m=>by
  by_cases j:b.length<=k
  .rw[sE j];simp
  have c:=yae (Nat.lt_of_not_le j);by_cases e:8 < k
  .rw[sF c e];simp
  by_cases g:0 < k/\b[k].toNat=0
  .rw[sG c e g];simp
  by_cases l:b[k].toNat < 128
  .rw[pr c e g l];have:=LI n k b[k] h (by omega);show n+b[k].toNat % 128*128 ^ k<=_;omega
  .rw[pt c e g l];exact ZBg b f _ _ (LJ n k _ h) (by omega)
theorem ZEJ{a:yL yB}{k:Nat}{x:yB}{r:yL yB}(h:a.length=k):(a++x::r)[k]? =ab x:=by
 rw[yan (by omega),h,Nat.sub_self];rfl
theorem Zpf{n:Nat}(h:n < 256):(yaw n).toNat=n:=by simp[yas h]
theorem ZwE:∀(f n:Nat)(pre yJ:yL yB)(k acc:Nat),pre.length=k->k+(Yg n).length<=9->(Yg n).length<=f->(0 < k->0 < n)->
 X9 (pre++(Yg n++yJ)) f k acc=(ae,acc+n*128 ^ k,k+(Yg n).length)
 |0,n,pre,yJ,k,acc,_,_,g,_=>by
  have:=List.length_pos_iff.2 (ZK3 n);omega
 |f+1,n,pre,yJ,k,acc,j,c,g,t=>by
  by_cases h:n < 128
  .rw[nI h]at c ⊢;have l:(pre++([yaw n]++yJ))[k]? =ab (yaw n):=ZEJ j;have e:(yaw n).toNat=n:=Zpf (by omega);simp at c;rw[pr l (by omega) (by rw[e];omega) (by rw[e];exact h),e,yas h];rfl
  .rw[sq h]at c g ⊢;have l:(pre++((yaw (n % 128+128)::Yg (n / 128))++yJ))[k]? =ab (yaw (n % 128+128)):=ZEJ j;have e:(yaw (n % 128+128)).toNat=n % 128+128:=Zpf (by omega);simp only[yam]at c g ⊢;rw[pt l (by omega) (by rw[e];omega) (by rw[e];omega),e];have:=ZwE f (n / 128) (pre++[yaw (n % 128+128)]) yJ (k+1) (acc+(n % 128+128) % 128*128 ^ k) (by simp[j]) (by omega) (by omega) (by omega);rw[yac]at this;simp only[List.cons_append,yw]at this ⊢;rw[this];have m:n=n % 128+128*(n / 128):=by omega
   have s:(n % 128+128) % 128=n % 128:=by omega
   rw[s,Nat.pow_succ];refine Prod.ext rfl (Prod.ext ?_ (by simp;omega));show acc+n % 128*128 ^ k+n / 128*(128 ^ k*128)=acc+n*128 ^ k;rw[show n / 128*(128 ^ k*128)=128*(n / 128)*128 ^ k by rw[ybu (128 ^ k) 128, <-Nat.mul_assoc,ybu (n / 128) 128],Nat.add_assoc, <-Nat.add_mul, <-m]
def Xj(r:Zc):Int×Zc:=if(X9 r.1 10 0 0).1=ae then(((X9 r.1 10 0 0).2.1:Int),(r.1.drop (X9 r.1 10 0 0).2.2,r.2)) else(0,([],ae))
theorem Wl{z:Int}(c:0<=z)(hz:z<=9223372036854775807)(yJ:yL yB):Xj (Yg z.toNat++yJ,af)=(z,(yJ,af)):=by
 obtain⟨n,rfl⟩:=Int.eq_ofNat_of_zero_le c;have e:=Zt (n:=n) (by omega);have:=ZwE 10 n [] yJ 0 0 rfl (by omega) (by omega) (by omega);simp only[yw,yau,Nat.pow_zero,Nat.mul_one]at this;unfold Xj;rw[yal];dsimp only;rw[this];simp
theorem YS(r:Zc):0<=(Xj r).1/\(Xj r).1<=9223372036854775807/\(Xj r).2.1.length<=r.1.length:=by
 unfold Xj;split
 .have:=ZBg r.1 10 0 0 (by omega) (by omega);refine⟨by dsimp only;omega,by dsimp only;omega, ?_⟩;rw[ybf];omega
 .simp
theorem ZJc{n k:Nat}{d:yB}(c:n < 128 ^ k)(f:k<=8):bits .or .i64 (n:Int) (wi (((d % 128).toNat:Int)*2 ^ (min (wi (7*(k:Int))).toNat 64)))=((n+d.toNat % 128*128 ^ k:Nat):Int):=by
 have g:(wi (7*(k:Int)))=((7*k:Nat):Int):=by rw[Yf (by omega) (by omega)];omega
 have h:min ((7*k:Nat):Int).toNat 64=7*k:=by omega
 have e:128 ^ k=2 ^ (7*k):=by rw[Nat.pow_mul]
 have l:=LI n k d c f
 have j:((d % 128).toNat:Int)*2 ^ (7*k)=((d.toNat % 128*128 ^ k:Nat):Int):=by
  rw[e,UInt8.toNat_mod]
  push_cast
  rfl
 rw[g,h,j,Yf (by omega) (by omega)];refine Go.Ev.td (op:=.or) (k:=.i64) ?_ (by omega) ⟨by show-9223372036854775808<=_;omega,by show _<=9223372036854775807;omega⟩ (by omega) ⟨by show-9223372036854775808<=_;omega,by show _<=9223372036854775807;omega⟩ ⟨by show-9223372036854775808<=_;omega,by show _<=9223372036854775807;omega⟩;show ab _=ab _;congr 1;simp only[yal];rw[e]at c ⊢;have:=ydf c (d.toNat % 128);rw[ybu,Nat.or_comm, <-this];omega
theorem wV{b:yL yB}{no:Bool}{k:Nat}(hb:b.length<=2000000)(h:b.length<=k\/8 < k\/(0 < k/\b[k]? =ab 0)):We yD (k:Int) (b,no)=ab (ae,(k:Int),(b,no)):=by
 unfold We;dsimp only;by_cases c:b.length<=k
 .rw[yW (yY (by omega))]
 rw[yX (cf (by omega))];by_cases e:8 < k
 .rw[yW (yY (by omega))]
 rw[yX (cf (by omega))];rcases h with h|h|⟨h,f⟩
 .exact absurd h c
 .exact absurd h e
 rw[yW (yY (by omega)),Zm f,ya];rfl
theorem ZFW{b:yL yB}{no:Bool}{k:Nat}{d:yB}(hb:b.length<=2000000)(hx:b[k]? =ab d)(h2:¬8 < k)(h3:¬(0 < k/\d.toNat=0)):We yD (k:Int) (b,no)=ab (af,(k:Int),(b,no)):=by
 unfold We;have e:k < b.length:=(yp.1 hx).1;dsimp only;rw[yX (cf (by omega)),yX (cf (by omega))];by_cases c:0 < k
 .rw[yW (yY (by omega)),Zm hx,ya]
  have:(d==0)=af:=by
   rw[beq_eq_false_iff_ne];intro h;exact h3 ⟨c,by rw[h];rfl⟩
  rw[this]
 .rw[yX (cf (by omega))]
theorem ZBh{b:yL yB}{no:Bool}(hb:b.length<=2000000):∀(f k n m:Nat),k+f=10->f < m->n < 128 ^ k->
 Ze (WB yD) m ((n:Int),(b,no),(k:Int))=ab (if(X9 b f k n).1=ae then .inr (((X9 b f k n).2.1:Int),(b,no),((X9 b f k n).2.2:Int)) else .inl ((0:Int),([],ae),((X9 b f k n).2.2:Int)))
 |f,k,n,0,_,h,_=>by omega
 |0,k,n,m+1,h,_,_=>by
  unfold Ze WB;dsimp only;rw[wV hb (.inr (.inl (by omega))),ya]
  rfl
 |f+1,k,n,m+1,h,y,t=>by
  unfold Ze WB;dsimp only;by_cases x:b.length<=k
  .rw[sE x,wV hb (.inl x),ya];rfl
  obtain⟨d,c,_⟩:=Zf (l:=b) (k:=k) (by omega);by_cases e:8 < k
  .rw[sF c e,wV hb (.inr (.inl e)),ya];rfl
  by_cases g:0 < k/\d.toNat=0
  .rw[sG c e g,wV hb (.inr (.inr ⟨g.1,by rw[c,show d=0 from UInt8.toNat_inj.1 g.2]⟩)),ya]
   rfl
  rw[ZFW hb c e g,ya];dsimp only
  rw[yX (by decide),Zm c,ya,ZJc t (by omega),
   yW (yY (by rw[Yf (by omega) (by omega)];omega)),Zl (by omega)]
  have s:ag (d < 128)=ag (d.toNat < 128):=by
   rw[Bool.eq_iff_iff,yN,yN,UInt8.lt_iff_toNat_lt];rfl
  rw[s];by_cases j:d.toNat < 128
  .rw[pr c e g j,yW (yY j)];rfl
  .rw[pt c e g j,yX (by rw[yN];exact j)];exact ZBh hb f (k+1) _ m (by omega) (by omega) (LJ n k d t)
theorem Qs{r:Zc}(h:r.1.length<=2000000):ZX yD r=ab (Xj r):=by
 obtain⟨b,no⟩:=r;unfold ZX Xj;dsimp only at h ⊢;have:=ZBh (no:=no) h 10 0 0 yD (by omega) (by rw[kJ];omega) (by omega);rw[show((0:Nat):Int)=0 from rfl]at this
 rw[this,ya];by_cases c:(X9 b 10 0 0).1=ae
 .have e:=ZBf b 10 0 0 c;rw[yW c,yW c];dsimp only;rw[yW (sC (by omega) (by omega)),yal]
 .rw[yX c,yX c]
def VX(r:Zc):yL yB×Zc:=if(Xj r).2.2=ae then([],(Xj r).2) else Va (Xj r).2 (Xj r).1.toNat
theorem Zug(r:Zc):(VX r).1.length<=r.1.length/\(VX r).2.1.length<=r.1.length:=by
 unfold VX;have c:=YS r;split
 .exact⟨by simp,c.2.2⟩
 .have e:=nJ (Xj r).2 (Xj r).1.toNat
  refine⟨?_,by omega⟩;unfold Va;split
  .simp
  .simp only[yy];omega
theorem ZwF{c:yL yB}(hc:c.length<=2000000)(yJ:yL yB):VX (Yg c.length++(c++yJ),af)=(c,(yJ,af)):=by
 unfold VX;have:=Wl (z:=(c.length:Int)) (by omega) (by omega) (c++yJ);rw[yal]at this;rw[this,yX (by simp),yal,LH rfl]
theorem wW{b:yL yB}(h:b.length<=2000000):so yD b=ab (b,af):=by
 unfold so;rw[ZBd (by omega),ya]
theorem ZFX{l:yL yU}(hl:l.length<=9223372036854775807):∃b,oX yD l=ab b/\(b=af->∀p,p∈l->fN p.toNat):=by
 unfold oX wh
 obtain⟨x,E,m⟩:=Yo (step:=XK yD) l.length (λk s=>s=(l,(l.length:Int),(k:Int))/\∀j p,j < k->l[j]? =ab p->fN p.toNat) (λx=>(∃k:Nat,x=.inl (k:Int))\/x=.inr ()/\∀p,p∈l->fN p.toNat) (i:=(l,(l.length:Int),(0:Int))) ⟨rfl,λj p g=>by omega⟩ (by omega) (by
  rintro k _ z ⟨rfl,g⟩;obtain⟨e,A,_⟩:=Zf z;unfold XK;dsimp only;rw[yW (Zw z),Zm A,ya,KX,ya,Zl (by omega)];by_cases c:fN e.toNat
  .rw[yY c];left;refine⟨_,rfl,rfl,λj p G t=> ?_⟩;by_cases F:j < k
   .exact g j p F t
   .have:j=k:=by omega
    subst this;rw[A]at t;cases t;exact c
  .rw[yZ c];right;exact⟨_,rfl,.inl ⟨k,rfl⟩⟩) (by
  rintro _ ⟨rfl,g⟩;unfold XK;dsimp only;rw[yX (by rw[Zs];decide)];refine⟨_,rfl,.inr ⟨rfl,λp c=> ?_⟩⟩;obtain⟨j,f,y⟩:=ycn c;exact g j p f (by rw[yae f,y]))
 rw[E,ya];rcases m with⟨k,rfl⟩|⟨rfl,m⟩
 .dsimp only;rw[ya];refine⟨_,rfl,λh=> ?_⟩;exact absurd (of_decide_eq_false h) (by omega)
 .exact⟨_,rfl,λ_=>m⟩
def cE(l:Z3):Prop:=l.length<=9223372036854775807/\∀b,b∈l->b.1.length<=9223372036854775807
theorem Zq9(z:Int):∃b,Qd yD z=ab b/\(b=ae->0<=z/\z<=1048576):=by
 unfold Qd;by_cases h:z >= 0
 .rw[yW (yY h)];exact⟨_,rfl,λc=>⟨h,yF c⟩⟩
 .rw[yX (by rw[yN];exact h)];exact⟨_,rfl,λc=>by cases c⟩
theorem LK{l:Z3}(hl:cE l):∃b,Vj yD l=ab b/\(b=ae↔W4 l/\QF l):=by
 have Q:∃b,Vj yD l=ab b/\(b=ae->W4 l/\QF l):=by
  unfold Vj;obtain⟨h0,t⟩:=hl
  obtain⟨x,Z,I⟩:=Yo (step:=WZ yD) l.length (λk s=>s=(l,(l.length:Int),(k:Int),l)/\∀j b,j < k->l[j]? =ab b->kN b/\kO b)
   (λx=>x=.inl (af,l)\/(x=.inr l/\∀b,b∈l->kN b/\kO b)) (i:=(l,(l.length:Int),(0:Int),l)) ⟨rfl,λj b M=>by omega⟩ (by omega) (by
   rintro k _ U ⟨rfl,M⟩;obtain⟨e,W,hm⟩:=Zf U
   have f:(kN e/\kO e)->∀j b,j < k+1->l[j]? =ab b->kN b/\kO b:=by
    intro hE j b y z;by_cases h4:j < k
    .exact M j b h4 z
    .have:j=k:=by omega
     subst this;rw[W]at z;cases z;exact hE
   unfold WZ;dsimp only;rw[yW (Zw U),Zm W,ya];by_cases X:(e.1.length:Int) > 12
   .right;rw[yW (yY X)];exact⟨_,rfl,.inl rfl⟩
   rw[yX (by rw[yN];exact X)];obtain⟨b,g,S⟩:=ZFX (t e hm);rw[g,ya]
   cases b with
   |true=>right;exact⟨_,rfl,.inl rfl⟩
   |false=>
    obtain⟨c,hc,A⟩:=Zq9 e.2.1;obtain⟨d,hd,E⟩:=Zq9 e.2.2.1;rw[yX (by decide),hc,ya,hd,ya]
    cases c with
    |false=>right;exact⟨_,rfl,.inl rfl⟩
    |true=>
     cases d with
     |false=>right;exact⟨_,rfl,.inl rfl⟩
     |true=>
      have Y:=λF:e.2.2.2≠0->fN e.2.2.2.toNat=>f ⟨⟨by omega,(A rfl).1,(A rfl).2,(E rfl).1,(E rfl).2⟩,S rfl,F⟩;rw[yX (by decide),yX (by decide),Zl (by omega)];by_cases F:e.2.2.2=0
      .rw[yX (by rw[F];decide)];left;exact⟨_,rfl,rfl,Y λh=>absurd F h⟩
      .rw[yW (by simp[F]),KX,ya];by_cases m:fN e.2.2.2.toNat
       .rw[yY m];left;exact⟨_,rfl,rfl,Y λ_=>m⟩
       .rw[yZ m];right;exact⟨_,rfl,.inl rfl⟩) (by
   rintro _ ⟨rfl,M⟩;unfold WZ;dsimp only;rw[yX (by rw[Zs];decide)];refine⟨_,rfl,.inr ⟨rfl,λb g=> ?_⟩⟩;obtain⟨j,G,T⟩:=ycn g;exact M j b G (by rw[yae G,T]))
  rw[Z,ya];rcases I with rfl|⟨rfl,I⟩
  .exact⟨_,rfl,λh=>by cases h⟩
  .dsimp only;by_cases y:(l.length:Int) > 0
   .rw[yW (yY y)];refine⟨_,rfl,λz=>⟨⟨by omega, ?_,λb g=>(I b g).1⟩,λb g=>(I b g).2⟩⟩;have:=yF z;omega
   .rw[yX (by rw[yN];exact y)];exact⟨_,rfl,λh=>by cases h⟩
 obtain⟨b,t,y⟩:=Q;refine⟨b,t,y,λh=> ?_⟩;rw[KY h.1 h.2]at t;exact(ybp t).symm
theorem lT{α:Type}{l:yL α}{k:Nat}{e:α}(h:l[k]? =ab e):l.drop k=e::l.drop (k+1):=by
 obtain⟨c,f⟩:=yp.1 h;rw[List.drop_eq_getElem_cons c,f]
theorem jg{α:Type}{f:α->yL yB}{l:yL α}{k:Nat}{e:α}(h:l[k]? =ab e):aP f (l.drop k)=f e++aP f (l.drop (k+1)):=by
 rw[lT h,KZ]
theorem ZS{α:Type}{f:α->yL yB}{c n:Nat}{l:yL α}(h:∀x,x∈l->(f x).length<=c)(g:l.length<=n)(k:Nat):(aP f (l.drop k)).length<=n*c:=by
 refine ybv (LA λx e=>h x (List.mem_of_mem_drop e)) (ycb c ?_);rw[ybf];omega
theorem ZFY{a b:yL yB}(h:a.length<=2000000):∃r,Z8 yD a b=ab r:=by
 unfold Z8;by_cases g:a.length=b.length
 .rw[yX (by simp[g])]
  obtain⟨x,j,_⟩:=Yo (step:=ZM yD) a.length (λk s=>s=(a,b,(a.length:Int),(k:Int))) (λ_=>True) (i:=(a,b,(a.length:Int),(0:Int))) rfl (by omega) (by
   rintro k _ c rfl;obtain⟨e,m,_⟩:=Zf c;obtain⟨f,t,_⟩:=Zf (l:=b) (k:=k) (by omega);unfold ZM;dsimp only;rw[yW (Zw c),Zm m,ya,Zm t,ya,Zl (by omega)];split
   .right;exact⟨_,rfl,aw⟩
   .left;exact⟨_,rfl,rfl⟩) (by
   rintro _ rfl;unfold ZM;dsimp only;rw[yX (by rw[Zs];decide)];exact⟨_,rfl,aw⟩)
  rw[j,ya]
  cases x with
  |inl y=>exact⟨_,rfl⟩
  |inr y=>exact⟨_,rfl⟩
 .rw[yW (by simp;omega)];exact⟨_,rfl⟩
theorem Zuh{a:yL yB}(h:a.length<=2000000):Z8 yD a a=ab ae:=by
 unfold Z8;rw[yX (by simp),show(a,a,(a.length:Int),(0:Int))=(λk:Nat=>(a,a,(a.length:Int),(k:Int))) 0 from rfl,Zy (x:=.inr ()) a.length (λk:Nat=>(a,a,(a.length:Int),(k:Int))) ?_ ?_ (by omega),ya]
 .intro k c;obtain⟨e,f,_⟩:=Zf c;unfold ZM;dsimp only;rw[yW (Zw c),Zm f,ya,ya,Zl (by omega),yX (by simp)]
 .unfold ZM;dsimp only;rw[yX (by rw[Zs];decide)]
theorem ZFZ{b:yL yB}{n i:Int}{l:Z3}{yJ:yL yB}{acc:yL Zz}{i1 i2:Int}{u:yU}{ks:yL yU}(j:ks.length<=12)(m:yJ.length<=100000):
 Ze (Wj yD) yD (b,n,i,(ks.length:Int),(0:Int),l,(aP fc ks++yJ,af),acc,i1,i2,u,([]:yL yU))=ab (b,n,i,l,(yJ,af),acc,i1,i2,u,ks):=by
 refine Zy ks.length (λk:Nat=>(b,n,i,(ks.length:Int),(k:Int),l,(aP fc (ks.drop k)++yJ,af),acc,i1,i2,u,ks.take k)) ?_ ?_ (by omega)
 .intro k g;obtain⟨e,h,_⟩:=Zf g;have s:=ZS (f:=fc) (c:=8) (λx _=>Nat.le_of_eq (ZO _)) j k;unfold Wj;dsimp only;rw[yW (Zw g),jP (by dsimp only;rw[yn];omega),ya,jg h,yac];unfold fc;rw[jR,yW (ZL (by rw[yy];omega) (by rw[yy];omega)),Zl (by omega),XH h]
 .unfold Wj;dsimp only;rw[yX (by rw[Zs];decide),ydc,yag];rfl
theorem LL{l:Z3}(h:W4 l)(hp:QF l):nE yD (V2 l)=ab (l,ae):=by
 have E:=lS h;unfold nE;rw[wW (by omega),ya,Qs (by dsimp only;omega),ya];have F:=h.2.1
 have G:Xj (V2 l,af)=((l.length:Int),(aP dJ l,af)):=by
  have:=Wl (z:=(l.length:Int)) (by omega) (by omega) (aP dJ l);rw[yal]at this;exact this
 have g:∀k,(aP dJ (l.drop k)).length<=4*131:=ZS (λx I=>sv (h.2.2 x I)) F;rw[G];dsimp only;generalize M:V2 l=b at E
 rw[show(b,(l.length:Int),(0:Int),([]:Z3),(aP dJ l,af),([]:yL Zz))=(λk:Nat=>(b,(l.length:Int),(k:Int),([]:Z3),(aP dJ (l.drop k),af),l.take k)) 0 from rfl,
  Zy (x:=(b,([]:Z3),(([]:yL yB),af),l)) l.length (λk:Nat=>(b,(l.length:Int),(k:Int),([]:Z3),(aP dJ (l.drop k),af),l.take k)) ?_ ?_ (by omega),ya]
 .dsimp only;rw[KY h hp,ya,yX (by decide),LB h hp,ya,M,Zuh (by omega),ya];rfl
 .intro k t;obtain⟨e,y,Q⟩:=Zf t;obtain⟨A,S,U,T,W⟩:=h.2.2 e Q;have X:=g k;have j:=g (k+1);have Y:=Zt (n:=e.2.1.toNat) (by omega);have Z:=Zt (n:=e.2.2.1.toNat) (by omega);have r4:=ZO e.2.2.2.toNat
  have m:=ZS (f:=fc) (c:=8) (l:=e.1) (λx _=>Nat.le_of_eq (ZO _)) A 0;rw[List.drop_zero]at m;unfold VG;dsimp only;rw[yW (Zw t),Qs (by dsimp only;omega),ya,yX (by rw[yT];omega),jg y];unfold dJ;simp only[yac];have s:=Wl (z:=(e.1.length:Int)) (by omega) (by omega) (aP fc e.1++(Yg e.2.1.toNat++(Yg e.2.2.1.toNat++(QE e.2.2.2.toNat++aP dJ (l.drop (k+1))))));rw[yal]at s;unfold dJ at s j;rw[s];dsimp only;rw[yX (cf (by omega)),ZFZ A (by simp only[yn];omega),ya];dsimp only;rw[Qs (by simp only[yn];omega),ya,Wl S (by omega)];dsimp only;rw[Qs (by simp only[yn];omega),ya,Wl T (by omega)];dsimp only;rw[jP (by simp only[yn];omega),ya,jR,yW (ZL (by rw[yy];omega) (by rw[yy];omega)),Zl (by omega),XH y]
 .unfold VG;dsimp only;rw[yX (by rw[Zs];decide),ydc,yag];rfl
theorem ZF0{b:yL yB}{no:Bool}(hb:b.length<=2000000){k n:Nat}{d:yB}(hx:b[k]? =ab d)(h2:k<=8)(h3:¬(0 < k/\d.toNat=0))(g:n < 128 ^ k):
 ZJ yD ((n:Int),((128 ^ k:Nat):Int),(k:Int),(b,no))=ab (if d.toNat < 128 then .inr (.inl (((n+d.toNat % 128*128 ^ k:Nat):Int),(b.drop (k+1),no))) else .inl (((n+d.toNat % 128*128 ^ k:Nat):Int),wi (128*((128 ^ k:Nat):Int)),((k+1:Nat):Int),(b,no))):=by
 have m:k < b.length:=(yp.1 hx).1;have s:=LI n k d g h2
 have h:wi ((n:Int)+(wi ((Int.tmod (d.toNat:Int) 128)*((128 ^ k:Nat):Int))))=((n+d.toNat % 128*128 ^ k:Nat):Int):=by
  have j:Int.tmod (d.toNat:Int) 128*((128 ^ k:Nat):Int)=((d.toNat % 128*128 ^ k:Nat):Int):=by
   rw[show Int.tmod (d.toNat:Int) 128=((d.toNat % 128:Nat):Int) from rfl]
   push_cast
   rfl
  rw[j,Yf (z:=((d.toNat % 128*128 ^ k:Nat):Int)) (by omega) (by omega),Yf (by omega) (by omega)]
  push_cast
  rfl
 have c:VQ b.length (ab ((k+1:Nat):Int)) ad=ae:=sC (by omega) (by omega);unfold ZJ;dsimp only;rw[yW (yY (by omega)),yW (yY (by omega)),Zm hx,ya,h,Zl (by omega)]
 have e:(if(ag ((d.toNat:Int) < 128))=ae then if(VQ b.length (ab ((k+1:Nat):Int)) ad)=ae then ab (Sum.inr (Sum.inl (((n+d.toNat % 128*128 ^ k:Nat):Int),(b.drop (((k+1:Nat):Int).toNat),no)))) else ad else ab (Sum.inl (((n+d.toNat % 128*128 ^ k:Nat):Int),wi (128*((128 ^ k:Nat):Int)),((k+1:Nat):Int),(b,no))):yO ((Int×Int×Int×Zc)⊕((Int×Zc)⊕Zc)))=ab (if d.toNat < 128 then .inr (.inl (((n+d.toNat % 128*128 ^ k:Nat):Int),(b.drop (k+1),no))) else .inl (((n+d.toNat % 128*128 ^ k:Nat):Int),wi (128*((128 ^ k:Nat):Int)),((k+1:Nat):Int),(b,no))):=by
  by_cases f:d.toNat < 128
  .rw[yW (yY (by omega)),yW c,yW f,yal]
  .rw[yX (cf (by omega)),yX f]
 by_cases l:d.toNat=0
 .rw[yW (by rw[l];rfl),yX (cf (by omega))];exact e
 .rw[yX (by simp;omega)];exact e
theorem ZwG{b:yL yB}{no:Bool}(hb:b.length<=2000000):∀(f k n m:Nat)(z:Int),k+f=10->f < m->n < 128 ^ k->(k<=8->z=((128 ^ k:Nat):Int))->
 ∃o,Ze (ZJ yD) m ((n:Int),z,(k:Int),(b,no))=ab o/\((X9 b f k n).1=ae->o=.inl (((X9 b f k n).2.1:Int),(b.drop (X9 b f k n).2.2,no)))/\((X9 b f k n).1=af->o=.inl ((0:Int),([],ae))\/o=.inr (b,no))
 |f,k,n,0,_,_,h,_,_=>by omega
 |0,k,n,m+1,z,h,_,_,_=>by
  unfold Ze ZJ;dsimp only;refine⟨.inr (b,no), ?_,λc=>by simp[X9]at c,λ_=>.inr rfl⟩;by_cases j:(k:Int) < (b.length:Int)
  .rw[yW (yY j),yX (cf (by omega))];rfl
  .rw[yX (by rw[yN];exact j)]
   rfl
 |f+1,k,n,m+1,z,h,F,y,x=>by
  by_cases j:b.length<=k
  .rw[sE j];unfold Ze ZJ;dsimp only;rw[yX (cf (by omega))];exact⟨_,rfl,λc=>(by cases c),λ_=>.inr rfl⟩
  obtain⟨d,e,_⟩:=Zf (l:=b) (k:=k) (by omega);by_cases s:8 < k
  .rw[sF e s];unfold Ze ZJ;dsimp only;rw[yW (yY (by omega)),yX (cf (by omega))];exact⟨_,rfl,λc=>(by cases c),λ_=>.inr rfl⟩
  have x:=x (by omega);subst x;by_cases g:0 < k/\d.toNat=0
  .rw[sG e s g];unfold Ze ZJ Z9;dsimp only;rw[yW (yY (by omega)),yW (yY (by omega)),Zm e,ya,yW (by rw[g.2];rfl),yW (yY (by omega))];exact⟨_,rfl,λc=>(by cases c),λ_=>.inl rfl⟩
  unfold Ze;rw[ZF0 hb e (by omega) g y,ya];by_cases t:d.toNat < 128
  .rw[pr e s g t,yW t];exact⟨_,rfl,λ_=>rfl,λc=>(by cases c)⟩
  .rw[pt e s g t,yX t];refine ZwG hb f (k+1) _ m _ (by omega) (by omega) (LJ n k d y) (λA=> ?_);have G:128 ^ (k+1)<=128 ^ 8:=Nat.pow_le_pow_right (by omega) A
   have E:(128:Int)*((128 ^ k:Nat):Int)=((128 ^ (k+1):Nat):Int):=by
    rw[Nat.pow_succ]
    push_cast
    omega
   rw[E,Yf (by omega) (by omega)]
theorem XW{r:Zc}(h:r.1.length<=2000000):Zr yD r=ab (Xj r):=by
 obtain⟨b,no⟩:=r;obtain⟨o,e,f,g⟩:=ZwG (no:=no) h 10 0 0 yD 1 (by omega) (by rw[kJ];omega) (by omega) (λ_=>rfl);unfold Zr Xj;rw[show((0:Int),(1:Int),(0:Int),(b,no))=(((0:Nat):Int),(1:Int),((0:Nat):Int),(b,no)) from rfl,e,ya]
 dsimp only
 cases c:(X9 b 10 0 0).1 with
 |true=>rw[f c,yW rfl]
 |false=>
  rw[yX (by decide)];rcases g c with rfl|rfl <;> rfl
theorem LM{z:Int}{r:Zc}(c:0<=z)(h:r.1.length<=2000000):Yr yD z r=ab (Va r z.toNat):=by
 obtain⟨b,no⟩:=r;obtain⟨n,rfl⟩:=Int.eq_ofNat_of_zero_le c;unfold Yr Va Z9;dsimp only at h ⊢
 cases no with
 |true=>rw[yW rfl,yW (.inl rfl)];rfl
 |false=>
  rw[yX (by decide),yal];by_cases e:b.length < n
  .rw[yW (yY (by omega)),yW (.inr e)];rfl
  .rw[yX (cf (by omega)),yW (sD (by omega) (by omega)),yW (ZL (by rw[yy];omega) (by rw[yy];omega)),yW (sC (by omega) (by omega)),yX (by simp;omega)]
theorem jS{r:Zc}(h:r.1.length<=2000000):ZV yD r=ab (gF r):=by
 unfold ZV gF;rw[LM (by omega) h,ya,show(8:Int).toNat=8 from rfl]
 have g:=(nJ r 8).1;generalize (Va r 8).1=l at g;generalize (Va r 8).2=q
 have e:=Zy (step:=Ye yD) l.length (λk:Nat=>(l,yai (dH l k),(k:Int),q)) (x:=(yai (dH l l.length),q)) (by
  intro k c;obtain⟨d,f,_⟩:=Zf c;unfold Ye;dsimp only;rw[yW (Zw c),Zm f,ya,Zl (by omega)]
  have j:256*yai (dH l k)+yai d.toNat=yai (dH l (k+1)):=by
   have m:=wU l k;have s:256 ^ k<=256 ^ 7:=Nat.pow_le_pow_right (by omega) (by omega);have t:=d.toNat_lt;apply ycz.1;rw[UInt64.toNat_add,UInt64.toNat_mul,yaz,yaz,yaz,dH,f];show(256*_ % _+_) % _=_;simp;omega
  rw[j]) (by
  unfold Ye;dsimp only;rw[yX (by rw[Zs];decide)]) (by omega)
 have e:Ze (Ye yD) yD (l,(0:yU),(0:Int),q)=_:=e;rw[e,ya]
theorem ZBi{e:Zz}(W:e.1.length<=9223372036854775807):∃b,Vt yD e=ab b/\(b=ae↔kN e/\kO e):=by
 unfold Vt;by_cases t:(e.1.length:Int) > 12
 .rw[yW (yY t)];exact⟨_,rfl,λh=>(by cases h),λh=>by have:=h.1.1;omega⟩
 rw[yX (by rw[yN];exact t)];by_cases y:e.2.1 < 0
 .rw[yW (yY y)];exact⟨_,rfl,λh=>(by cases h),λh=>by have:=h.1.2.1;omega⟩
 rw[yX (by rw[yN];exact y)];by_cases z:e.2.1 > 1048576
 .rw[yW (yY z)];exact⟨_,rfl,λh=>(by cases h),λh=>by have:=h.1.2.2.1;omega⟩
 rw[yX (by rw[yN];exact z)];by_cases A:e.2.2.1 < 0
 .rw[yW (yY A)];exact⟨_,rfl,λh=>(by cases h),λh=>by have:=h.1.2.2.2.1;omega⟩
 rw[yX (by rw[yN];exact A)];by_cases E:e.2.2.1 > 1048576
 .rw[yW (yY E)];exact⟨_,rfl,λh=>(by cases h),λh=>by have:=h.1.2.2.2.2;omega⟩
 rw[yX (by rw[yN];exact E)];have F:kN e:=⟨by omega,by omega,by omega,by omega,by omega⟩
 obtain⟨x,Q,c⟩:=Yo (step:=Xy yD) e.1.length (λk s=>s=((k:Int),e)/\∀j p,j < k->e.1[j]? =ab p->fN p.toNat) (λx=>(x=.inl (af,e)/\¬kO e)\/(x=.inr e/\∀p,p∈e.1->fN p.toNat)) (i:=((0:Int),e)) ⟨rfl,λj p g=>by omega⟩ (by omega) (by
  rintro k _ G ⟨rfl,g⟩;obtain⟨d,I,S⟩:=Zf G;unfold Xy;dsimp only;rw[yW (Zw G),Zm I,ya,ZwA,ya];by_cases f:fN d.toNat
  .left;rw[yY f,yX (by decide),Zl (by omega)];refine⟨_,rfl,rfl,λj p X m=> ?_⟩;by_cases T:j < k
   .exact g j p T m
   .have:j=k:=by omega
    subst this;rw[I]at m;cases m;exact f
  .right;rw[yZ f,yW (by decide)];exact⟨_,rfl,.inl ⟨rfl,λh=>f (h.1 d S)⟩⟩) (by
  rintro _ ⟨rfl,g⟩;unfold Xy;dsimp only;rw[yX (by rw[Zs];decide)];refine⟨_,rfl,.inr ⟨rfl,λp f=> ?_⟩⟩;obtain⟨j,M,U⟩:=ycn f;exact g j p M (by rw[yae M,U]))
 rw[Q,ya];rcases c with⟨rfl,c⟩|⟨rfl,c⟩
 .exact⟨_,rfl,λh=>(by cases h),λh=>absurd h.2 c⟩
 .dsimp only;rw[ZwA,ya];by_cases l:e.2.2.2=0
  .rw[yW (beq_iff_eq.2 l)];exact⟨_,rfl,λ_=>⟨F,c,λh=>absurd l h⟩,λ_=>rfl⟩
  .rw[yX (by rw[yT];exact l)];refine⟨_,rfl,λh=>⟨F,c,λ_=>yF h⟩,λh=>yY (h.2.2 l)⟩
theorem wX{l:Z3}(hl:cE l):∃b,Y7 yD l=ab b/\(b=ae↔W4 l/\QF l):=by
 obtain⟨U,G⟩:=hl;unfold Y7;by_cases t:(l.length:Int) < 1
 .rw[yW (yY t)];exact⟨_,rfl,λh=>(by cases h),λh=>by have:=h.1.1;omega⟩
 rw[yX (by rw[yN];exact t)];by_cases y:(l.length:Int) > 4
 .rw[yW (yY y)];exact⟨_,rfl,λh=>(by cases h),λh=>by have:=h.1.2.1;omega⟩
 rw[yX (by rw[yN];exact y)]
 obtain⟨x,I,c⟩:=Yo (step:=XL yD) l.length (λk s=>s=((k:Int),l)/\∀j b,j < k->l[j]? =ab b->kN b/\kO b) (λx=>(x=.inl (af,l)/\¬(W4 l/\QF l))\/(x=.inr l/\∀b,b∈l->kN b/\kO b)) (i:=((0:Int),l)) ⟨rfl,λj p e=>by omega⟩ (by omega) (by
  rintro k _ z ⟨rfl,e⟩;obtain⟨d,A,f⟩:=Zf z;obtain⟨b,M,E⟩:=ZBi (G d f);unfold XL;dsimp only;rw[yW (Zw z),Zm A,ya,M,ya]
  cases b with
  |true=>
   left;rw[yX (by decide),Zl (by omega)];refine⟨_,rfl,rfl,λj p W g=> ?_⟩;by_cases Q:j < k
   .exact e j p Q g
   .have:j=k:=by omega
    subst this;rw[A]at g;cases g
    exact E.1 rfl
  |false=>
   right;rw[yW (by decide)];exact⟨_,rfl,.inl ⟨rfl,λh=>by have:=E.2 ⟨h.1.2.2 d f,h.2 d f⟩;cases this⟩⟩) (by
  rintro _ ⟨rfl,e⟩;unfold XL;dsimp only;rw[yX (by rw[Zs];decide)];refine⟨_,rfl,.inr ⟨rfl,λp S=> ?_⟩⟩;obtain⟨j,F,T⟩:=ycn S;exact e j p F (by rw[yae F,T]))
 rw[I,ya];rcases c with⟨rfl,c⟩|⟨rfl,c⟩
 .exact⟨_,rfl,λh=>(by cases h),λh=>absurd h c⟩
 .exact⟨_,rfl,λ_=>⟨⟨by omega,by omega,λb m=>(c b m).1⟩,λb m=>(c b m).2⟩,λ_=>rfl⟩
theorem ZBj{l:Z3}(h:W4 l)(hp:QF l):Y7 yD l=ab ae:=by
 obtain⟨b,c,e⟩:=wX (l:=l) ⟨by have:=h.2.1;omega,λb f=>by have:=(h.2.2 b f).1;omega⟩;rw[c,e.2 ⟨h,hp⟩]
theorem ZDj{c:yL yB}(hc:c.length<=100000){i:Int}{l:Z3}{e:Zz}(h:e.1.length<=12):
 Ze (YX yD) yD (c,i,(0:Int),l,e)=ab (c++aP fc e.1,i,l,e):=by
 have q:=Zy (step:=YX yD) e.1.length (λk:Nat=>(c++aP fc (e.1.take k),i,(k:Int),l,e)) (x:=(c++aP fc e.1,i,l,e)) (by
  intro k f;obtain⟨d,g,_⟩:=Zf f;have j:=su h k;unfold YX;dsimp only;rw[yW (Zw f),Zm g,ya,sB _ (by rw[yn];omega),ya,Zl (by omega),Vz g,yac];rfl) (by
  unfold YX;dsimp only;rw[yX (by rw[Zs];decide),yag]) (by omega)
 rw[show aP fc (e.1.take 0)=[] from rfl,ybb]at q
 exact q
theorem LN{l:Z3}(h:W4 l)(hp:QF l):WD yD l=ab (V2 l):=by
 unfold WD;have G:=h.2.1;have I:=Zt (n:=l.length) (by omega);rw[ZBj h hp,ya,yX (by decide),iE (by omega) (by omega) (by simp),ya,yw,yal]
 have q:=Zy (step:=YY yD) l.length (λk:Nat=>(Yg l.length++aP dJ (l.take k),(k:Int),l)) (x:=(V2 l,l)) (by
  intro k j;obtain⟨e,m,t⟩:=Zf j;obtain⟨s,y,M,z,Q⟩:=h.2.2 e t;have S:=W5 (f:=dJ) (c:=131) (λx A=>sv (h.2.2 x A)) h.2.1 k;have T:=Zt (n:=e.1.length) (by omega);have E:=Zt (n:=e.2.1.toNat) (by omega);have F:=Zt (n:=e.2.2.1.toNat) (by omega);have g:=su s e.1.length;rw[yag]at g;unfold YY;dsimp only
  rw[yW (Zw j),Zm m,ya,iE (by omega) (by omega) (by rw[yn];omega),ya,yal,
   ZDj (by simp only[yn];omega) s,ya]
  dsimp only
  rw[iE y (by omega) (by simp only[yn];omega),ya,iE z (by omega) (by simp only[yn];omega),ya,
   sB _ (by simp only[yn];omega),ya,Zl (by omega),Vz m]
  unfold dJ;simp only[yac]) (by
  unfold YY;dsimp only;rw[yX (by rw[Zs];decide),yag];rfl) (by omega)
 rw[show aP dJ (l.take 0)=[] from rfl,ybb]at q
 have q:Ze (YY yD) yD (Yg l.length,(0:Int),l)=_:=q;rw[q,ya]
theorem ZJd{b:yL yB}{n i m:Int}{l:Z3}{r:Zc}{acc:yL Zz}{i1 i2:Int}{u:yU}(hm:m<=12)(f:r.1.length<=2000000):
 ∃r' w,Ze (Wj yD) yD (b,n,i,m,(0:Int),l,r,acc,i1,i2,u,([]:yL yU))=ab (b,n,i,l,r',acc,i1,i2,u,w)/\r'.1.length<=2000000/\w.length<=12:=by
 obtain⟨x,c,r',w,rfl,e⟩:=Yo (step:=Wj yD) m.toNat (λk s=>∃r' w,s=(b,n,i,m,(k:Int),l,r',acc,i1,i2,u,w)/\r'.1.length<=2000000/\w.length=k) (λx=>∃r' w,x=(b,n,i,l,r',acc,i1,i2,u,w)/\r'.1.length<=2000000/\w.length<=12)
  (i:=(b,n,i,m,(0:Int),l,r,acc,i1,i2,u,([]:yL yU))) ⟨r,[],rfl,f,rfl⟩ (by omega) (by
  rintro k _ g ⟨r',w,rfl,c,e⟩;left;have h:=jQ r';unfold Wj;dsimp only;rw[yW (yY (by omega)),jP c,ya,yW (ZL (by omega) (by omega)),Zl (by omega)];exact⟨_,rfl,_,_,rfl,by omega,by simp[e]⟩) (by
  rintro _ ⟨r',w,rfl,c,e⟩;unfold Wj;dsimp only;rw[yX (cf (by omega))];exact⟨_,rfl,_,_,rfl,c,by omega⟩)
 exact⟨r',w,c,e⟩
theorem ZJe{a b:yL yB}(h:a.length<=2000000):Z8 yD a b=ab (ag (a=b)):=by
 obtain⟨r,F⟩:=ZFY (a:=a) (b:=b) h;by_cases c:a=b
 .subst c;rw[Zuh h,yY rfl]
 .rw[yZ c];unfold Z8;by_cases m:a.length=b.length
  .rw[yX (by simp[m])]
   obtain⟨x,A,E⟩:=Yo (step:=ZM yD) a.length (λk s=>s=(a,b,(a.length:Int),(k:Int))/\a.take k=b.take k) (λx=>x=.inl af) (i:=(a,b,(a.length:Int),(0:Int))) ⟨rfl,rfl⟩ (by omega) (by
    rintro k _ t ⟨rfl,j⟩;obtain⟨e,y,_⟩:=Zf t;obtain⟨f,z,_⟩:=Zf (l:=b) (k:=k) (by omega);unfold ZM;dsimp only;rw[yW (Zw t),Zm y,ya,Zm z,ya,Zl (by omega)];by_cases g:e=f
    .left;rw[yX (by simp[g])];exact⟨_,rfl,rfl,by rw[List.take_add_one,List.take_add_one,j,y,z,g]⟩
    .right;rw[yW (bne_iff_ne.2 g)];exact⟨_,rfl,rfl⟩) (by
    rintro _ ⟨rfl,j⟩;rw[yag,m,yag]at j;exact absurd j c)
   rw[A,ya,E]
  .rw[yW (by simp;omega)]
theorem ZyY{b:yL yB}(hb:b.length<=2000000):∃l ok,nE yD b=ab (l,ok)/\(ok=ae->W4 l/\QF l/\V2 l=b)/\(ok=af->l=[]):=by
 unfold nE;rw[wW hb,ya,Qs hb,ya];have t:=YS (b,af);generalize Xj (b,af)=q at t;obtain⟨n,r⟩:=q;dsimp only at t ⊢
 obtain⟨x,y,Y,c,rfl,z,g⟩:=Yo (step:=VG yD) (min n.toNat 4) (λk s=>∃r c,s=(b,n,(k:Int),([]:Z3),r,c)/\r.1.length<=2000000/\c.length=k/\∀e,e∈c->e.1.length<=12) (λx=>∃r c,x=(b,([]:Z3),r,c)/\c.length<=4/\∀e,e∈c->e.1.length<=12)
  (i:=(b,n,(0:Int),([]:Z3),r,([]:yL Zz))) ⟨r,[],rfl,by omega,rfl,λe he=>by cases he⟩ (by omega) (by
  rintro k _ j ⟨r,c,rfl,y,z,g⟩;have Z:=YS r;unfold VG;dsimp only;rw[yW (yY (by omega)),Qs y,ya,yX (by rw[yT];omega)];by_cases f:(Xj r).1 > 12
  .right;rw[yW (yY f)];exact⟨_,rfl,_,_,rfl,by omega,g⟩
  .left;rw[yX (by rw[yN];exact f)];obtain⟨A,w,M,Q,S⟩:=ZJd (b:=b) (n:=n) (i:=(k:Int)) (m:=(Xj r).1) (l:=[]) (r:=(Xj r).2) (acc:=c) (i1:=0) (i2:=0) (u:=0) (by omega) (by omega);have T:=YS A;have U:=YS (Xj A).2;have W:=jQ (Xj (Xj A).2).2;rw[M,ya];dsimp only;rw[Qs Q,ya,Qs (by omega),ya,jP (by omega),ya,yW (ZL (by omega) (by omega)),Zl (by omega)];refine⟨_,rfl,_,_,rfl,by omega,by simp[z],λe he=> ?_⟩;rcases ycm.1 he with he|he
   .exact g e he
   .rw[yav.1 he];exact S) (by
  rintro _ ⟨r,c,rfl,y,z,g⟩;unfold VG;dsimp only;by_cases I:((min n.toNat 4:Nat):Int) < n
  .rw[yW (yY I),Qs y,ya,yW (by rw[yT];omega)];exact⟨_,rfl,_,_,rfl,by omega,g⟩
  .rw[yX (by rw[yN];exact I)];exact⟨_,rfl,_,_,rfl,by omega,g⟩)
 rw[y,ya];dsimp only;have X:cE c:=⟨by omega,λe he=>by have:=g e he;omega⟩;obtain⟨k,E,F⟩:=LK X;rw[E,ya]
 cases k with
 |false=>exact⟨_,_,rfl,λh=>(by cases h),λ_=>rfl⟩
 |true=>
  have j:=F.1 rfl;have zV:=lS j.1;rw[yX (by decide),LB j.1 j.2,ya,ZJe (by omega),ya];by_cases G:V2 c=b
  .rw[yY G,yX (by decide)];exact⟨_,_,rfl,λ_=>⟨j.1,j.2,G⟩,λh=>(by cases h)⟩
  .rw[yZ G,yW (by decide)];exact⟨_,_,rfl,λh=>(by cases h),λ_=>rfl⟩
open Classical in
noncomputable def iF(b:yL yB):Z3×Bool:=if h:∃l,W4 l/\QF l/\V2 l=b then(h.choose,ae) else([],af)
theorem ZEK{b:yL yB}(hb:b.length<=2000000):nE yD b=ab (iF b):=by
 obtain⟨l,c,e,f,g⟩:=ZyY hb;unfold iF;by_cases h:∃l,W4 l/\QF l/\V2 l=b
 .obtain⟨j,m,s⟩:=h.choose_spec;have:=LL j m;rw[s]at this;rw[dif_pos h,this]
 .rw[dif_neg h,e]
  cases c with
  |false=>rw[g rfl]
  |true=>exact absurd ⟨l,f rfl⟩ h
theorem ZF1{n i m:Int}{l:Z3}{r:Zc}{acc:yL Zz}{i1 i2:Int}{u:yU}(g:r.1.length<=2000000):
 ∃r' w,Ze (ZT yD) yD (n,i,m,(0:Int),r,l,acc,i1,i2,u,([]:yL yU))=ab (n,i,r',l,acc,i1,i2,u,w)/\r'.1.length<=2000000/\w.length<=13:=by
 obtain⟨x,c,r',w,rfl,e⟩:=Yo (step:=ZT yD) (min m.toNat 13) (λk s=>∃r' w,s=(n,i,m,(k:Int),r',l,acc,i1,i2,u,w)/\r'.1.length<=2000000/\w.length=k) (λx=>∃r' w,x=(n,i,r',l,acc,i1,i2,u,w)/\r'.1.length<=2000000/\w.length<=13)
  (i:=(n,i,m,(0:Int),r,l,acc,i1,i2,u,([]:yL yU))) ⟨r,[],rfl,g,rfl⟩ (by omega) (by
  rintro k _ h ⟨r',w,rfl,c,e⟩;left;have j:=jQ r';unfold ZT;dsimp only;rw[yW (yY (by omega)),yW (yY (by omega)),jS c,ya,yW (ZL (by omega) (by omega)),Zl (by omega)];exact⟨_,rfl,_,_,rfl,by omega,by simp[e]⟩) (by
  rintro _ ⟨r',w,rfl,c,e⟩;unfold ZT;dsimp only;by_cases f:((min m.toNat 13:Nat):Int) < m
  .rw[yW (yY f),yX (cf (by omega))];exact⟨_,rfl,_,_,rfl,c,by omega⟩
  .rw[yX (by rw[yN];exact f)];exact⟨_,rfl,_,_,rfl,c,by omega⟩)
 exact⟨r',w,c,e⟩
theorem ZBk{r:Zc}(A:r.1.length<=2000000):∃l r',XC yD r=ab (l,r')/\l.length<=5/\∀e,e∈l->e.1.length<=13:=by
 unfold XC;have g:=YS r;rw[XW A,ya];generalize Xj r=q at g;obtain⟨n,y⟩:=q;dsimp only at g ⊢
 obtain⟨x,h,r',c,rfl,j,f⟩:=Yo (step:=Yl yD) (min n.toNat 5) (λk s=>∃r c,s=(n,(k:Int),r,([]:Z3),c)/\r.1.length<=2000000/\c.length=k/\∀e,e∈c->e.1.length<=13) (λx=>∃r c,x=(r,([]:Z3),c)/\c.length<=5/\∀e,e∈c->e.1.length<=13)
  (i:=(n,(0:Int),y,([]:Z3),([]:yL Zz))) ⟨y,[],rfl,by omega,rfl,λe he=>by cases he⟩ (by omega) (by
  rintro k _ S ⟨r,c,rfl,h,j,f⟩;left;have T:=YS r;unfold Yl;dsimp only;rw[yW (yY (by omega)),yW (yY (by omega)),XW h,ya];obtain⟨t,w,E,F,G⟩:=ZF1 (n:=n) (i:=(k:Int)) (m:=(Xj r).1) (l:=[]) (r:=(Xj r).2) (acc:=c) (i1:=0) (i2:=0) (u:=0) (by omega);have I:=YS t;have M:=YS (Xj t).2;have Q:=jQ (Xj (Xj t).2).2;rw[E,ya];dsimp only;rw[XW F,ya,XW (by omega),ya,jS (by omega),ya,yW (ZL (by omega) (by omega)),Zl (by omega)];refine⟨_,rfl,_,_,rfl,by omega,by simp[j],λe he=> ?_⟩;rcases ycm.1 he with he|he
  .exact f e he
  .rw[yav.1 he];exact G) (by
  rintro _ ⟨r,c,rfl,h,j,f⟩;unfold Yl;dsimp only;by_cases z:((min n.toNat 5:Nat):Int) < n
  .rw[yW (yY z),yX (cf (by omega))];exact⟨_,rfl,_,_,rfl,by omega,f⟩
  .rw[yX (by rw[yN];exact z)];exact⟨_,rfl,_,_,rfl,by omega,f⟩)
 rw[h,ya];exact⟨_,_,rfl,j,f⟩
theorem ZDk{n i:Int}{l:Z3}{yJ:yL yB}{acc:yL Zz}{i1 i2:Int}{u:yU}{ks:yL yU}(j:ks.length<=12)(m:yJ.length<=100000):
 Ze (ZT yD) yD (n,i,(ks.length:Int),(0:Int),(aP fc ks++yJ,af),l,acc,i1,i2,u,([]:yL yU))=ab (n,i,(yJ,af),l,acc,i1,i2,u,ks):=by
 refine Zy ks.length (λk:Nat=>(n,i,(ks.length:Int),(k:Int),(aP fc (ks.drop k)++yJ,af),l,acc,i1,i2,u,ks.take k)) ?_ ?_ (by omega)
 .intro k g;obtain⟨e,h,_⟩:=Zf g;have s:=ZS (f:=fc) (c:=8) (λx _=>Nat.le_of_eq (ZO _)) j k;unfold ZT;dsimp only;rw[yW (Zw g),yW (yY (by omega)),jS (by dsimp only;rw[yn];omega),ya,jg h,yac];unfold fc;rw[jR,yW (ZL (by rw[yy];omega) (by rw[yy];omega)),Zl (by omega),XH h]
 .unfold ZT;dsimp only;rw[yX (by rw[Zs];decide),ydc,yag];rfl
theorem ZyZ{l:Z3}(h:W4 l)(hp:QF l):XC yD (V2 l,af)=ab (l,([],af)):=by
 have S:=lS h;unfold XC;rw[XW (by dsimp only;omega),ya];have E:=h.2.1
 have F:Xj (V2 l,af)=((l.length:Int),(aP dJ l,af)):=by
  have:=Wl (z:=(l.length:Int)) (by omega) (by omega) (aP dJ l);rw[yal]at this;exact this
 have g:∀k,(aP dJ (l.drop k)).length<=4*131:=ZS (λx G=>sv (h.2.2 x G)) E;rw[F];dsimp only
 rw[show((l.length:Int),(0:Int),(aP dJ l,af),([]:Z3),([]:yL Zz))=(λk:Nat=>((l.length:Int),(k:Int),(aP dJ (l.drop k),af),([]:Z3),l.take k)) 0 from rfl,
  Zy (x:=((([]:yL yB),af),([]:Z3),l)) l.length (λk:Nat=>((l.length:Int),(k:Int),(aP dJ (l.drop k),af),([]:Z3),l.take k)) ?_ ?_ (by omega),ya]
 .intro k t;obtain⟨e,y,I⟩:=Zf t;obtain⟨A,M,T,Q,U⟩:=h.2.2 e I;have W:=g k;have j:=g (k+1);have X:=Zt (n:=e.2.1.toNat) (by omega);have Y:=Zt (n:=e.2.2.1.toNat) (by omega);have Z:=ZO e.2.2.2.toNat
  have m:=ZS (f:=fc) (c:=8) (l:=e.1) (λx _=>Nat.le_of_eq (ZO _)) A 0;rw[List.drop_zero]at m;unfold Yl;dsimp only;rw[yW (Zw t),yW (yY (by omega)),XW (by dsimp only;omega),ya,jg y];unfold dJ;simp only[yac];have s:=Wl (z:=(e.1.length:Int)) (by omega) (by omega) (aP fc e.1++(Yg e.2.1.toNat++(Yg e.2.2.1.toNat++(QE e.2.2.2.toNat++aP dJ (l.drop (k+1))))));rw[yal]at s;unfold dJ at s j;rw[s];dsimp only;rw[ZDk A (by simp only[yn];omega),ya];dsimp only;rw[XW (by simp only[yn];omega),ya,Wl M (by omega)];dsimp only;rw[XW (by simp only[yn];omega),ya,Wl Q (by omega)];dsimp only;rw[jS (by simp only[yn];omega),ya,jR,yW (ZL (by rw[yy];omega) (by rw[yy];omega)),Zl (by omega),XH y]
 .unfold Yl;dsimp only;rw[yX (by rw[Zs];decide),ydc,yag];rfl
theorem sH(a b:yL yB):((bytesOf a).data.toList==(bytesOf b).data.toList)=ag (a=b):=by
 have:(bytesOf a).data.toList=a/\(bytesOf b).data.toList=b:=⟨rfl,rfl⟩;rw[this.1,this.2];by_cases h:a=b
 .rw[yY h,beq_iff_eq.2 h]
 .rw[yZ h,beq_eq_false_iff_ne.2 h]
theorem wY{b:yL yB}(h:b.length<=2000000):W2 yD b=ab (b,af):=by
 unfold W2;rw[yW (ZL (by omega) (by omega))]
theorem ZBl{b:yL yB}(hb:b.length<=2000000):W3 yD b=ab (iF b):=by
 unfold iF;by_cases h:∃l,W4 l/\QF l/\V2 l=b
 .obtain⟨c,f,g⟩:=h.choose_spec;rw[dif_pos h];have j:=ZyZ c f;have m:=LN c f;have s:=ZBj c f;generalize h.choose=l at c f g j m s;unfold W3;rw[wY hb,ya, <-g,j,ya];dsimp only;rw[s,ya,yX (by decide),m,ya,sH,yY rfl];rfl
 .rw[dif_neg h];obtain⟨l,I,y,M,A⟩:=ZBk (r:=(b,af)) hb;obtain⟨z,E,F⟩:=wX (l:=l) ⟨by omega,λe G=>by have:=A e G;omega⟩;unfold W3;rw[wY hb,ya,y,ya];dsimp only;rw[E,ya]
  cases z with
  |false=>rfl
  |true=>
   obtain⟨t,x⟩:=F.1 rfl;rw[yX (by decide),LN t x,ya,sH,yZ (λe=>h ⟨l,t,x,e⟩)];rfl
theorem ZF2{t:Tx}(M:jN t)(h:jO t):VP yD t=ab (iD t):=by
 obtain⟨c,outs,f⟩:=t;obtain⟨s,E⟩:=M;obtain⟨t1,t2,t3,t4,t5,t6⟩:=h;dsimp only at s E t1 t2 t3 t4 t5 t6;have U:=Zt (n:=c.length) (by omega);have W:=Zt (n:=outs.length) (by omega);have F:∀k,(aP dq (c.take k)).length<=64*41:=W5 (λx l=>pn (s x l) (t5 x l)) t2;have co:∀k,(aP dG (outs.take k)).length<=64*551:=W5 (λx l=>po (t6 x l)) t3;have y:=F c.length;rw[yag]at y;have z:=co outs.length;rw[yag]at z;unfold VP;dsimp only;rw[iE (by omega) (by omega) (by simp),ya,yw,yal]
 have q:=Zy (step:=YZ yD) c.length (λk:Nat=>(Yg c.length++aP dq (c.take k),(k:Int),(c,outs,f))) (x:=(Yg c.length++aP dq c,(c,outs,f))) (by
  intro k g;obtain⟨e,j,m⟩:=Zf g;have Q:=F k;have A:=s e m;have G:=t5 e m;unfold YZ;dsimp only;rw[yW (Zw g),Zm j,ya,LF (by rw[yn];omega) A,ya,ya,iE G.1 (by have:=G.2.1;omega) (by simp only[yn];omega),ya,Zl (by omega),Vz j];unfold dq;simp only[yac]) (by
  unfold YZ;dsimp only;rw[yX (by rw[Zs];decide),yag]) (by omega)
 rw[show aP dq (c.take 0)=[] from rfl,ybb]at q
 have q:Ze (YZ yD) yD (Yg c.length,(0:Int),(c,outs,f))=_:=q;rw[q,ya];dsimp only;rw[iE (by omega) (by omega) (by rw[yn];omega),ya,yal]
 have p:=Zy (step:=Y2 yD) outs.length (λk:Nat=>(Yg c.length++aP dq c++Yg outs.length++aP dG (outs.take k),(k:Int),(c,outs,f))) (x:=(Yg c.length++aP dq c++Yg outs.length++aP dG outs,(c,outs,f))) (by
  intro k g;obtain⟨e,j,m⟩:=Zf g;have Q:=co k;obtain⟨S,X,I,T⟩:=t6 e m;have Y:=lS I;have Z:=Zt (n:=e.1.toNat) (by omega);unfold Y2;dsimp only;rw[yW (Zw g),Zm j,ya,iE S (by omega) (by simp only[yn];omega),ya,ya,LN I T,ya,ZyV (by simp only[yn];omega) (by omega),ya,Zl (by omega),Vz j];unfold dG;simp only[yac]) (by
  unfold Y2;dsimp only;rw[yX (by rw[Zs];decide),yag]) (by omega)
 rw[show aP dG (outs.take 0)=[] from rfl,ybb]at p
 have p:Ze (Y2 yD) yD (Yg c.length++aP dq c++Yg outs.length,(0:Int),(c,outs,f))=_:=p;rw[p,ya];dsimp only;rw[iE t4 E (by simp only[yn];omega),ya];unfold iD;simp only[yac]
theorem wZ(p q:Prop)[Decidable p][Decidable q]{b:Bool}(h:b=ag (p/\q)):(if decide p=ae then ab (decide q) else ab af)=ab b:=by
 subst h;by_cases c:p
 .rw[yW (yY c)];by_cases e:q
  .rw[yY e,yY ⟨c,e⟩]
  .rw[yZ e,yZ λh=>e h.2]
 .rw[yX (by rw[yN];exact c),yZ λh=>c h.1]
theorem ZEL{p q:Prop}[Decidable p][Decidable q][Decidable (p/\q)]{x:yO Bool}(h:x=ab (decide q)):(if decide p=ae then x else ab af)=ab (ag (p/\q)):=by
 rw[h];exact wZ p q (by congr)
def fO(n:Nat)(ok:Nat->Prop):Prop:=∀k,k < n->ok k
theorem sI{I X:Type}{step:I->yO (I⊕X)}(n:Nat)(st:Nat->I)(ok:Nat->Prop)(c:X)(g:Nat->X)
 (h1:∀k,k < n->(∀j,j < k->ok j)->ok k->step (st k)=ab (.inl (st (k+1)))) (h2:∀k,k < n->(∀j,j < k->ok j)->¬ok k->step (st k)=ab (.inr (g k))) (he:(∀j,j < n->ok j)->step (st n)=ab (.inr c)) (m:n < 18446744073709551616):
 ∃x,Ze step yD (st 0)=ab x/\(fO n ok/\x=c\/¬fO n ok/\∃k,x=g k):=by
 refine Yo (step:=step) n (λk s=>s=st k/\∀j,j < k->ok j) _ (i:=st 0) ⟨rfl,λj h=>by omega⟩ m ?_ ?_
 .rintro k _ l ⟨rfl,f⟩;by_cases h:ok k
  .left;refine⟨_,h1 k l f h,rfl,λj t=> ?_⟩;by_cases e:j=k
   .rw[e];exact h
   .exact f j (by omega)
  .right;exact⟨_,h2 k l f h,.inr ⟨λq=>h (q k l),k,rfl⟩⟩
 .rintro _ ⟨rfl,f⟩;exact⟨_,he f,.inl ⟨f,rfl⟩⟩
theorem ZwH{K V:Type}[DecidableEq K](k:K)(v:V)(c:K):∀m:yL (K×V),gx (fB m k v) c=if c=k then ab v else gx m c
 |[]=>rfl
 |q::m=>by
  have g:=ZwH k v c m;unfold fB;by_cases h:k=q.1
  .rw[yW h];unfold gx;by_cases e:c=k
   .rw[yW e,yW e]
   .rw[yX e,yX e,yX (by rw[<-h];exact e)]
  .rw[yX h];unfold gx;by_cases f:c=q.1
   .rw[yW f,yW f,yX (by rw[f];exact λq=>h q.symm)]
   .rw[yX f,yX f,g]
def jh(l:yL In):yL (Xg×Bool):=l.foldl (λm x=>fB m x.1 ae) []
theorem ZEM{l:yL In}{k:Nat}{x:In}(h:l[k]? =ab x):jh (l.take (k+1))=fB (jh (l.take k)) x.1 ae:=by
 rw[XH h,jh,List.foldl_append];rfl
theorem LO(l:yL In)(p:Xg):∀k,k<=l.length->(gx (jh (l.take k)) p=ab ae/\(∃j y,j < k/\l[j]? =ab y/\y.1=p))\/(gx (jh (l.take k)) p=ad/\∀j y,j < k->l[j]? =ab y->y.1≠p)
 |0,_=>.inr ⟨rfl,λj y h=>by omega⟩
 |k+1,t=>by
  obtain⟨x,f,_⟩:=Zf (l:=l) (k:=k) (by omega);rw[ZEM f,ZwH];by_cases h:p=x.1
  .rw[yW h];exact .inl ⟨rfl,k,x,by omega,f,h.symm⟩
  .rw[yX h];rcases LO l p k (by omega) with⟨g,j,y,m,s,c⟩|⟨g,m⟩
   .exact .inl ⟨g,j,y,by omega,s,c⟩
   .refine .inr ⟨g,λj y s c=> ?_⟩;by_cases e:j=k
    .subst e;rw[f]at c;cases c;exact λq=>h q.symm
    .exact m j y (by omega) c
def kQ(w:Xl):Prop:=0<=w.1/\w.1 < 4/\w.2.1.length<=12
instance(w:Xl):Decidable (kQ w):=by unfold kQ;infer_instance
theorem ZJf(w:Xl):sb yD w=ab (ag (kQ w)):=by
 unfold sb;refine(ZEL (q:=w.1 < 4/\(w.2.1.length:Int)<=12) (wZ _ _ rfl)).trans (congrArg ab (decide_eq_decide.2 ?_));unfold kQ;omega
theorem ZEN(w:Xl):WG yD w=ab (ag (kQ w)):=by
 unfold WG;refine(ZEL (q:=w.1<=3/\(w.2.1.length:Int)<=12) (wZ _ _ rfl)).trans (congrArg ab (decide_eq_decide.2 ?_));unfold kQ;omega
def pu(l:yL In)(k:Nat):Prop:=∀x,l[k]? =ab x->(0<=x.1.2/\x.1.2 < 64)/\kQ x.2/\∀j y,j < k->l[j]? =ab y->y.1≠x.1
theorem ZF4(t:Tx)(hl:t.1.length<=100):∃x,Ze (oY yD) yD (t.1,(t.1.length:Int),(0:Int),t,([]:yL (Xg×Bool)))=ab x/\(fO t.1.length (pu t.1)/\x=.inr (t,jh t.1)\/¬fO t.1.length (pu t.1)/\∃k:Nat,x=.inl (af,t,jh (t.1.take k))):=by
 refine sI t.1.length (λk:Nat=>(t.1,(t.1.length:Int),(k:Int),t,jh (t.1.take k))) (pu t.1) (Sum.inr (t,jh t.1)) (λk=>Sum.inl (af,t,jh (t.1.take k))) ?_ ?_ ?_ (by omega)
 .intro k e _ h;obtain⟨x,c,_⟩:=Zf e;obtain⟨M,E,F⟩:=h x c;unfold oY;dsimp only;rw[yW (Zw e),Zm c,ya];rcases LO t.1 x.1 k (by omega) with⟨_,j,y,l,G,I⟩|⟨f,_⟩
  .exact absurd I (F j y l G)
  .rw[f];unfold lw;dsimp only;rw[yX (show¬ag (x.1.2 < 0)=ae by rw[yN];omega),yX (show¬ag (x.1.2 >= 64)=ae by rw[yN];omega),ZJf,ya,yY E,yX (by decide),Zl (by omega),ZEM c]
 .intro k e _ m;obtain⟨x,c,_⟩:=Zf e;unfold oY;dsimp only;rw[yW (Zw e),Zm c,ya];rcases LO t.1 x.1 k (by omega) with⟨f,_⟩|⟨f,l⟩
  .rw[f];unfold lw;dsimp only;rw[yW rfl]
  .rw[f];unfold lw;dsimp only;by_cases s:x.1.2 < 0
   .rw[yW (yY s)]
   .rw[yX (show¬ag (x.1.2 < 0)=ae by rw[yN];exact s)];by_cases z:x.1.2 >= 64
    .rw[yW (yY z)]
    .rw[yX (show¬ag (x.1.2 >= 64)=ae by rw[yN];exact z),ZJf,ya];by_cases A:kQ x.2
     .refine absurd ?_ m;intro Q g;rw[c]at g;cases g;exact⟨⟨by omega,by omega⟩,A,l⟩
     .rw[yZ A,yW (by decide)]
 .intro _;unfold oY;dsimp only;rw[yX (by rw[Zs];decide),yag]
theorem ZwI(t:Tx){k:Nat}(G:k<=100)(A:k<=t.1.length)(x:In):∃r,Ze (Yy yD) yD ((k:Int),(0:Int),t,x)=ab r/\((∀j y,j < k->t.1[j]? =ab y->y.1≠x.1)/\r=.inr ((k:Int),t,x)\/(¬∀j y,j < k->t.1[j]? =ab y->y.1≠x.1)/\r=.inl (af,t,x)):=by
 obtain⟨r,E,F⟩:=sI (step:=Yy yD) k (λj:Nat=>((k:Int),(j:Int),t,x)) (λj=>∀y,t.1[j]? =ab y->y.1≠x.1) (.inr ((k:Int),t,x)) (λ_=>.inl (af,t,x)) (by
  intro j e _ g;obtain⟨y,c,_⟩:=Zf (l:=t.1) (k:=j) (by omega);unfold Yy;dsimp only;rw[yW (Zw e),Zm c,ya,yX (by rw[yN];exact g y c),Zl (by omega)]) (by
  intro j e _ m;obtain⟨y,c,_⟩:=Zf (l:=t.1) (k:=j) (by omega)
  have h:y.1=x.1:=by
   by_cases h:y.1=x.1
   .exact h
   .refine absurd ?_ m;intro I f;rw[c]at f;cases f;exact h
  unfold Yy;dsimp only;rw[yW (Zw e),Zm c,ya,yW (yY h)]) (by
  intro _;unfold Yy;dsimp only;rw[yX (by rw[Zs];decide)]) (by omega)
 refine⟨r,E, ?_⟩;rcases F with⟨s,z⟩|⟨s,_,z⟩
 .exact .inl ⟨λj y e c=>s j e y c,z⟩
 .exact .inr ⟨λq=>s λj e y c=>q j y e c,z⟩
theorem ZF5(t:Tx)(hl:t.1.length<=100):∃x,Ze (YV yD) yD ((0:Int),t)=ab x/\(fO t.1.length (pu t.1)/\x=.inr t\/¬fO t.1.length (pu t.1)/\∃k:Nat,x=.inl (af,t)):=by
 refine sI t.1.length (λk:Nat=>((k:Int),t)) (pu t.1) (Sum.inr t) (λ_=>Sum.inl (af,t)) ?_ ?_ ?_ (by omega)
 .intro k c _ g;obtain⟨x,e,_⟩:=Zf c;obtain⟨E,z,A⟩:=g x e;unfold YV;dsimp only;rw[yW (Zw c),Zm e,ya,yX (show¬ag (x.1.2 < 0)=ae by rw[yN];omega),yX (show¬ag (x.1.2 > 63)=ae by rw[yN];omega),ZEN,ya,yY z,yX (by decide)];obtain⟨r,j,⟨_,rfl⟩|⟨h,_⟩⟩:=ZwI t (k:=k) (by omega) (by omega) x
  .rw[j,ya];dsimp only;rw[Zl (by omega)]
  .exact absurd A h
 .intro k c _ l;obtain⟨x,e,_⟩:=Zf c;unfold YV;dsimp only;rw[yW (Zw c),Zm e,ya];by_cases s:x.1.2 < 0
  .rw[yW (yY s)]
  .rw[yX (show¬ag (x.1.2 < 0)=ae by rw[yN];exact s)];by_cases y:x.1.2 > 63
   .rw[yW (yY y)]
   .rw[yX (show¬ag (x.1.2 > 63)=ae by rw[yN];exact y),ZEN,ya];by_cases m:kQ x.2
    .rw[yY m,yX (by decide)];obtain⟨r,j,⟨h,rfl⟩|⟨h,rfl⟩⟩:=ZwI t (k:=k) (by omega) (by omega) x
     .refine absurd ?_ l;intro F f;rw[e]at f;cases f;exact⟨⟨by omega,by omega⟩,m,h⟩
     .rw[j,ya]
    .rw[yZ m,yW (by decide)]
 .intro _;unfold YV;dsimp only;rw[yX (by rw[Zs];decide)]
theorem ZBm(z:Int):vY yD z=ab (ag (0<=z/\z<=1125899906842624)):=wZ (z >= 0) (z<=1125899906842624) rfl
theorem ZBn{a b:Int}(e:0<=a)(h1:a<=1125899906842624):vZ yD a b=ab (if(0<=b/\b<=1125899906842624)/\a+b<=1125899906842624 then(a+b,ae) else(0,af)):=by
 unfold vZ;rw[ZBm,ya,yY (p:=0<=a/\a<=1125899906842624) ⟨e,h1⟩,yX (show¬(!true)=ae by decide),ZBm,ya];by_cases c:0<=b/\b<=1125899906842624
 .rw[yY c,yX (show¬(!true)=ae by decide),Yf (z:=1125899906842624 - b) (by omega) (by omega),Yf (z:=a+b) (by omega) (by omega)];by_cases h:a+b<=1125899906842624
  .rw[yX (show¬ag (a > 1125899906842624 - b)=ae by rw[yN];omega),yW ⟨c,h⟩]
  .rw[yW (show ag (a > 1125899906842624 - b)=ae from yY (by omega)),yX λq=>h q.2]
 .rw[yZ c,yW (show(!false)=ae by decide),yX λq=>c q.1]
structure LP(t:Tx):Prop where
 ins:t.1.length<=70
 outs:t.2.1.length<=70
 gN:∀o,o∈t.2.1->cE o.2
def ZJg(o:Out):Prop:=(0<=o.1/\o.1<=1125899906842624)/\W4 o.2/\QF o.2
def sJ(l:yL Out)(k:Nat):Prop:=∀o,l[k]? =ab o->ZJg o/\eu (l.take (k+1))<=1125899906842624
def sK(l:yL Out)(k:Nat):Prop:=∀o,l[k]? =ab o->ZJg o
theorem LQ{l:yL Out}:∀k,k<=l.length->(∀j,j < k->sK l j)->0<=eu (l.take k)/\eu (l.take k)<=k*1125899906842624
 |0,_,_=>by simp[eu]
 |k+1,e,h=>by
  obtain⟨o,c,_⟩:=Zf (l:=l) (k:=k) (by omega);have f:=LQ k (by omega) λj g=>h j (by omega);have m:=(h k (by omega) o c).1;rw[sy c];omega
theorem ZDl{t:Tx}(hl:LP t)(m:yL (Xg×Bool)):∃x,Ze (oZ yD) yD ((0:Int),t.2.1,(t.2.1.length:Int),(0:Int),t,m)=ab x/\(fO t.2.1.length (sJ t.2.1)/\x=.inr (t,m)\/¬fO t.2.1.length (sJ t.2.1)/\∃k:Nat,x=.inl (af,t,m)):=by
 have S:=hl.outs
 have G:∀k,k<=t.2.1.length->(∀j,j < k->sJ t.2.1 j)->0<=eu (t.2.1.take k)/\eu (t.2.1.take k)<=1125899906842624:=by
  intro k f h;refine⟨(LQ k f λj g o e=>(h j g o e).1).1, ?_⟩
  cases k with
  |zero=>simp[eu]
  |succ k=>
   obtain⟨o,e,_⟩:=Zf (l:=t.2.1) (k:=k) (by omega);exact(h k (by omega) o e).2
 refine sI t.2.1.length (λk:Nat=>(eu (t.2.1.take k),t.2.1,(t.2.1.length:Int),(k:Int),t,m)) (sJ t.2.1) (Sum.inr (t,m)) (λ_=>Sum.inl (af,t,m)) ?_ ?_ ?_ (by omega)
 .intro k f g y;obtain⟨o,e,z⟩:=Zf f;obtain⟨⟨M,Q⟩,I⟩:=y o e;rw[sy e]at I;obtain⟨s0,s1⟩:=G k (by omega) g;obtain⟨b,A,E⟩:=LK (hl.gN o z);unfold oZ;dsimp only;rw[yW (Zw f),Zm e,ya,ZBn s0 s1,yW ⟨M,I⟩,ya,yX (by simp),A,ya,E.2 Q,yX (by decide),Zl (by omega),sy e]
 .intro k f g F;obtain⟨o,e,z⟩:=Zf f;obtain⟨s0,s1⟩:=G k (by omega) g;obtain⟨b,A,E⟩:=LK (hl.gN o z);unfold oZ;dsimp only;rw[yW (Zw f),Zm e,ya,ZBn s0 s1,ya];by_cases c:(0<=o.1/\o.1<=1125899906842624)/\eu (t.2.1.take k)+o.1<=1125899906842624
  .rw[yW c,yX (by simp),A,ya]
   cases b with
   |true=>
    refine absurd ?_ F;intro T s;rw[e]at s;cases s;rw[sy e]
    exact⟨⟨c.1,E.1 rfl⟩,c.2⟩
   |false=>rw[yW (by decide)]
  .rw[yX c,yW (by simp)]
 .intro _;unfold oZ;dsimp only;rw[yX (by rw[Zs];decide)]
theorem ZDm{t:Tx}(hl:LP t):∃x,Ze (YW yD) yD ((0:Int),(0:Int),t)=ab x/\(fO t.2.1.length (sK t.2.1)/\x=.inr (eu t.2.1,t)\/¬fO t.2.1.length (sK t.2.1)/\∃k:Nat,x=.inl (af,t)):=by
 have G:=hl.outs;refine sI t.2.1.length (λk:Nat=>(eu (t.2.1.take k),(k:Int),t)) (sK t.2.1) (Sum.inr (eu t.2.1,t)) (λ_=>Sum.inl (af,t)) ?_ ?_ ?_ (by omega)
 .intro k e s g;obtain⟨o,c,h⟩:=Zf e;obtain⟨I,F⟩:=g o c;obtain⟨s0,s1⟩:=LQ k (by omega) s;obtain⟨b,j,l⟩:=wX (hl.gN o h);have y:(k:Int)<=70:=by omega
  unfold YW;dsimp only;rw[yW (Zw e),Zm c,ya,yX (show¬ag (o.1 < 0)=ae by rw[yN];omega),yX (show¬ag (o.1 > 1125899906842624)=ae by rw[yN];omega),j,ya,l.2 F,yX (by decide),Zl (by omega),sy c,Yf (z:=eu (t.2.1.take k)+o.1) (by omega) (by omega)]
 .intro k e s m;obtain⟨o,c,h⟩:=Zf e;obtain⟨b,j,l⟩:=wX (hl.gN o h);unfold YW;dsimp only;rw[yW (Zw e),Zm c,ya];by_cases A:o.1 < 0
  .rw[yW (yY A)]
  .rw[yX (show¬ag (o.1 < 0)=ae by rw[yN];exact A)];by_cases E:o.1 > 1125899906842624
   .rw[yW (yY E)]
   .rw[yX (show¬ag (o.1 > 1125899906842624)=ae by rw[yN];exact E),j,ya]
    cases b with
    |true=>
     refine absurd ?_ m;intro M f;rw[c]at f;cases f
     exact⟨⟨by omega,by omega⟩,l.1 rfl⟩
    |false=>rw[yW (by decide)]
 .intro _;unfold YW;dsimp only;rw[yX (by rw[Zs];decide),yag]
theorem ZBp{l:yL Out}(hl:l.length<=70):fO l.length (sJ l)↔fO l.length (sK l)/\eu l<=1125899906842624:=by
 constructor
 .intro h;refine⟨λk f o c=>(h k f o c).1, ?_⟩
  cases t:l.length with
  |zero=>
   rw[ybo t]
   simp[eu]
  |succ k=>
   obtain⟨o,c,_⟩:=Zf (l:=l) (k:=k) (by omega);have:=(h k (by omega) o c).2
   rwa [show k+1=l.length by omega,yag]at this
 .rintro⟨m,E⟩ k f o c;refine⟨m k f o c, ?_⟩
  have y:∀e,e∈l->0<=e.1:=by
   intro e g;obtain⟨j,s,z⟩:=ycn g;exact(m j s e (by rw[yae s,z])).1.1
  have hs:eu l=eu (l.take (k+1))+eu (l.drop (k+1)):=by
   have q:=congrArg eu (ybk (k+1) l);rw[<-q];unfold eu;rw[yaq,List.sum_append]
  have F:0<=eu (l.drop (k+1)):=ZI8 (by
   intro x A;obtain⟨e,g,rfl⟩:=ybj.1 A;exact y e (List.mem_of_mem_drop g))
  omega
theorem xa{t:Tx}(hl:LP t):∃b:Bool,WS yD t=ab b/\ZF yD t=ab b/\(b=ae->jO t):=by
 unfold WS ZF;by_cases I:(t.1.length:Int) < 1
 .rw[yW (yY I),yW (yY I)];exact⟨af,rfl,rfl,λh=>by cases h⟩
 have g:¬ag ((t.1.length:Int) < 1)=ae:=by rw[yN];exact I
 rw[yX g,yX g];by_cases M:(t.1.length:Int) > 64
 .rw[yW (yY M),yW (yY M)];exact⟨af,rfl,rfl,λh=>by cases h⟩
 have l:¬ag ((t.1.length:Int) > 64)=ae:=by rw[yN];exact M
 rw[yX l,yX l];by_cases Q:(t.2.1.length:Int) > 64
 .rw[yW (yY Q),yW (yY Q)];exact⟨af,rfl,rfl,λh=>by cases h⟩
 have m:¬ag ((t.2.1.length:Int) > 64)=ae:=by rw[yN];exact Q
 rw[yX m,yX m];by_cases S:t.2.2 < 0
 .rw[yW (yY S),yW (yY S)];exact⟨af,rfl,rfl,λh=>by cases h⟩
 have s:¬ag (t.2.2 < 0)=ae:=by rw[yN];exact S
 rw[yX s,yX s];have Z:=hl.ins;obtain⟨x,T,U⟩:=ZF4 t (by omega);obtain⟨y,y1,z⟩:=ZF5 t (by omega);rw[T,y1,ya,ya];rcases U with⟨G,rfl⟩|⟨G,k,rfl⟩
 .rcases z with⟨_,rfl⟩|⟨c,_⟩
  .dsimp only;obtain⟨x,T,U⟩:=ZDl hl (jh t.1);obtain⟨y,y1,z⟩:=ZDm hl;rw[T,y1,ya,ya];rcases U with⟨W,rfl⟩|⟨W,k,rfl⟩
   .obtain⟨A,X⟩:=(ZBp hl.outs).1 W;rcases z with⟨_,rfl⟩|⟨e,_⟩
    .dsimp only;rw[yY X];refine⟨ae,rfl,rfl,λ_=>⟨by omega,by omega,by omega,by omega,λx hx=> ?_,λo ho=> ?_⟩⟩
     .obtain⟨j,E,Y⟩:=ycn hx;obtain⟨F,f,_⟩:=G j E x (by rw[yae E,Y]);exact⟨F.1,F.2,f.1,f.2.1,f.2.2⟩
     .obtain⟨j,E,Y⟩:=ycn ho;obtain⟨F,f⟩:=A j E o (by rw[yae E,Y]);exact⟨F.1,F.2,f.1,f.2⟩
    .exact absurd A e
   .rcases z with⟨e,rfl⟩|⟨_,_,rfl⟩
    .dsimp only;rw[yZ (p:=eu t.2.1<=1125899906842624) λq=>W ((ZBp hl.outs).2 ⟨e,q⟩)];exact⟨af,rfl,rfl,λh=>by cases h⟩
    .exact⟨af,rfl,rfl,λh=>by cases h⟩
  .exact absurd G c
 .rcases z with⟨c,_⟩|⟨_,_,rfl⟩
  .exact absurd c G
  .exact⟨af,rfl,rfl,λh=>by cases h⟩
theorem LR{r:Zc}{n:Nat}(h:(Va r n).2.2=af):r.2=af/\r.1=(Va r n).1++(Va r n).2.1/\(Va r n).1.length=n:=by
 unfold Va at h ⊢;by_cases c:r.2=ae\/r.1.length < n
 .rw[yW c]at h;cases h
 .rw[yX c]at h ⊢;have e:¬r.2=ae:=λq=>c (.inl q);have f:¬r.1.length < n:=λq=>c (.inr q);refine⟨by simpa using e,(ybk n r.1).symm, ?_⟩;show(r.1.take n).length=n;rw[yy];omega
theorem ZF6{r:Zc}(h:(gg r).2.2=af):r.2=af/\r.1=(gg r).1++(gg r).2.1:=by
 obtain⟨c,e,f⟩:=LR (r:=r) (n:=32) h;refine⟨c, ?_⟩;unfold gg;rw[f,Nat.sub_self,List.replicate_zero,ybb];exact e
theorem ZJh:∀(l:yL yB),l.length<=8->∀k,k<=l.length->∀j,j < k->∃d,l[j]? =ab d/\dH l k / 256 ^ (k - 1 - j) % 256=d.toNat:=by
 intro l y k
 induction k with
 |zero=>intro _ j h;omega
 |succ k m=>
  intro z j h;obtain⟨d,g,_⟩:=Zf (l:=l) (k:=k) (by omega)
  have e:dH l (k+1)=dH l k*256+d.toNat:=by
   show dH l k*256+((l[k]?).map UInt8.toNat).getD 0=_;rw[g];rfl
  have s:d.toNat < 256:=UInt8.toNat_lt d;by_cases f:j=k
  .subst f;refine⟨d,g, ?_⟩;rw[e,show j+1 - 1 - j=0 by omega,Nat.pow_zero,Nat.div_one];omega
  .obtain⟨c,t,x⟩:=m (by omega) j (by omega);refine⟨c,t, ?_⟩;rw[e,show k+1 - 1 - j=(k - 1 - j)+1 by omega,Nat.pow_succ,ybu (256 ^ (k - 1 - j)), <-Nat.div_div_eq_div_mul,show(dH l k*256+d.toNat) / 256=dH l k by omega];exact x
theorem ZJi{l:yL yB}(h:l.length=8):QE (dH l 8)=l:=by
 apply List.ext_getElem?;intro j;by_cases c:j < 8
 .obtain⟨d,d1,d2⟩:=ZJh l (by omega) 8 (by omega) j c;rw[pj _ c,d1];refine congrArg ab (UInt8.toNat_inj.1 ?_);rw[UInt8.toNat_ofNat']
  rw[<-d2,show(2:Nat) ^ (56 - 8*j)=256 ^ (8 - 1 - j) by
   rw[show(256:Nat)=2 ^ 8 from rfl, <-Nat.pow_mul]
   congr 1;omega]
 .rw[yat (by rw[ZO];omega),yat (by omega)]
theorem ZJj{r:Zc}(h:(gF r).2.2=af):r.2=af/\r.1=QE (gF r).1.toNat++(gF r).2.1:=by
 obtain⟨e,f,c⟩:=LR (r:=r) (n:=8) h;refine⟨e, ?_⟩;unfold gF;dsimp only;rw[c];have g:=wU (Va r 8).1 8
 rw[show(yai (dH (Va r 8).1 8)).toNat=dH (Va r 8).1 8 by
  rw[yaz];exact yas (Nat.lt_of_lt_of_eq g (by decide)),ZJi c]
 exact f
theorem ZwJ(b:yL yB):∀(f k n:Nat),(X9 b f k n).1=ae->∃m,(X9 b f k n).2.1=n+m*128 ^ k/\b.drop k=Yg m++b.drop (X9 b f k n).2.2/\(0 < k->0 < m)
 |0,k,n,h=>by simp[X9]at h
 |f+1,k,n,h=>by
  by_cases l:b.length<=k
  .rw[sE l]at h;cases h
  have c:=yae (Nat.lt_of_not_le l);generalize b[k]=d at c;have y:=UInt8.toNat_lt d;by_cases e:8 < k
  .rw[sF c e]at h;cases h
  by_cases j:0 < k/\d.toNat=0
  .rw[sG c e j]at h;cases h
  by_cases g:d.toNat < 128
  .rw[pr c e j g];refine⟨d.toNat,by dsimp only;rw[yas g], ?_,λz=>by omega⟩;dsimp only;rw[nI g,lT c];simp
  .rw[pt c e j g]at h ⊢;obtain⟨m,t,x,s⟩:=ZwJ b f (k+1) _ h;have s:=s (by omega);refine⟨d.toNat % 128+m*128, ?_, ?_,λ_=>by omega⟩
   .rw[t,Nat.add_mul,Nat.pow_succ,Nat.mul_assoc,ybu 128,Nat.add_assoc]
   .rw[sq (by omega),show(d.toNat % 128+m*128) / 128=m by omega,show(d.toNat % 128+m*128) % 128+128=d.toNat by omega,lT c,x];simp
theorem ZBq{r:Zc}(h:(Xj r).2.2=af):r.2=af/\r.1=Yg (Xj r).1.toNat++(Xj r).2.1:=by
 unfold Xj at h ⊢;by_cases c:(X9 r.1 10 0 0).1=ae
 .rw[yW c]at h ⊢;obtain⟨m,e,f,_⟩:=ZwJ r.1 10 0 0 c;refine⟨h, ?_⟩;dsimp only;rw[e,Nat.pow_zero,Nat.mul_one,yau,yal];exact f
 .rw[yX c]at h;cases h
theorem ZDn{r:Zc}(h:(VX r).2.2=af):r.2=af/\r.1=Yg (VX r).1.length++((VX r).1++(VX r).2.1):=by
 unfold VX at h ⊢;by_cases c:(Xj r).2.2=ae
 .rw[yW c]at h;dsimp only at h;rw[c]at h;cases h
 .rw[yX c]at h ⊢;obtain⟨l,e,f⟩:=LR h;obtain⟨g,j⟩:=ZBq (r:=r) (by simpa using c);refine⟨g, ?_⟩;rw[f, <-e];exact j
theorem ZBr{r:Zc}(h:r.1.length<=2000000):QM yD r=ab (gg r):=by
 unfold QM gg;rw[LG (by omega) h,ya];have c:=nJ r 32;rw[show(32:Int).toNat=32 from rfl,yW (by rw[yi];exact⟨yY c.1,rfl⟩)]
 generalize (Va r 32).1=l at c;rw[List.take_zero,yw,show gk=yab 32 0 from rfl,List.drop_replicate,yau]
theorem ZBs{r:Zc}(h:r.1.length<=2000000):Qg yD r=ab (VX r):=by
 unfold Qg VX;have e:=YS r;rw[Qs h,ya];by_cases c:(Xj r).2.2=ae
 .rw[yW c,yW c]
 .rw[yX c,yX c,LG e.1 (by omega),ya]
theorem xb{α:Type}{f:α->yL yB}{l:yL α}{e:α}:aP f (l++[e])=aP f l++f e:=by
 unfold aP
 rw[yaq,List.flatten_append];simp
def ew(r r':Zc)(c:yL yB):Prop:=r'.2=af->r.2=af/\r.1=c++r'.1
theorem ew.refl(r:Zc):ew r r []:=λh=>⟨h,rfl⟩
theorem ew.trans{a b c:Zc}{x y:yL yB}(h:ew a b x)(k:ew b c y):ew a c (x++y):=λq=>by
 obtain⟨e,f⟩:=k q;obtain⟨g,j⟩:=h e;exact⟨g,by rw[j,f,yac]⟩
theorem sL(r:Zc):ew r (Xj r).2 (Yg (Xj r).1.toNat):=λh=>ZBq h
theorem ZJk(r:Zc):ew r (gg r).2 (gg r).1:=λh=>ZF6 h
theorem LS(r:Zc):ew r (gF r).2 (QE (gF r).1.toNat):=λh=>ZJj h
theorem ZF7(r:Zc):ew r (VX r).2 (Yg (VX r).1.length++(VX r).1):=λh=>by
 obtain⟨c,e⟩:=ZDn h;exact⟨c,by rw[yac];exact e⟩
def gi(m:Int)(r:Zc):Int×Zc:=(if(Xj r).1 > m then-1 else(Xj r).1,(Xj r).2)
theorem px{m:Int}{r:Zc}(h:r.1.length<=2000000):pc yD m r=ab (gi m r):=by
 unfold pc gi;rw[Qs h,ya];by_cases c:(Xj r).1 > m
 .rw[yW (yY c),yW c]
 .rw[yX (by rw[yN];exact c),yX c]
theorem LU{m:Int}(c:0<=m)(r:Zc):(gi m r).1<=m/\ -1<=(gi m r).1/\(gi m r).2.1.length<=r.1.length:=by
 have h:=YS r;unfold gi;dsimp only;split <;> omega
theorem LV{m z:Int}(c:0<=z)(h1:z<=m)(hm:m<=1000)(yJ:yL yB):gi m (Yg z.toNat++yJ,af)=(z,(yJ,af)):=by
 unfold gi;rw[Wl c (by omega),yX (by omega)]
theorem LW{m:Int}(r:Zc)(h:0<=(gi m r).1):ew r (gi m r).2 (Yg (gi m r).1.toNat):=by
 unfold gi at h ⊢;by_cases c:(Xj r).1 > m
 .rw[yW c]at h;omega
 .rw[yX c];exact sL r
theorem ZJl{b:yL yB}(h:(iF b).2=ae):W4 (iF b).1/\QF (iF b).1/\V2 (iF b).1=b:=by
 unfold iF at h ⊢;split
 .rename_i q;exact q.choose_spec
 .rename_i q;rw[dif_neg q]at h;cases h
theorem ZNg{n0 n nt:Int}{T:Tx}{r:Zc}(m:n<=64)(g:r.1.length<=2000000):
 ∃v ins r',Ze (Vn yD) yD (n0,n,(0:Int),T,nt,([]:yL Out),([]:yL Unit),([]:yL In),([]:yL In),r)=ab (n0,T,nt,([]:yL Out),v,([]:yL In),ins,r')/\r'.1.length<=2000000/\ins.length=n.toNat/\(∀x,x∈ins->x.1.1.length=32)/\ew r r' (aP dq ins):=by
 obtain⟨x,c,v,ins,r',rfl,e⟩:=Yo (step:=Vn yD) n.toNat (λk s=>∃v ins r',s=(n0,n,(k:Int),T,nt,([]:yL Out),v,([]:yL In),ins,r')/\r'.1.length<=2000000/\ins.length=k/\(∀x,x∈ins->x.1.1.length=32)/\ew r r' (aP dq ins))
  (λx=>∃v ins r',x=(n0,T,nt,([]:yL Out),v,([]:yL In),ins,r')/\r'.1.length<=2000000/\ins.length=n.toNat/\(∀x,x∈ins->x.1.1.length=32)/\ew r r' (aP dq ins)) (i:=(n0,n,(0:Int),T,nt,([]:yL Out),([]:yL Unit),([]:yL In),([]:yL In),r)) ⟨[],[],r,rfl,g,rfl,(λx hx=>by cases hx),ew.refl r⟩ (by omega) (by
  rintro k _ t ⟨v,ins,r',rfl,c,e,f,h⟩;left;have j:=ZwD r';have l:=YS (gg r').2;unfold Vn;dsimp only;rw[yW (yY (by omega)),ZBr c,ya,Qs (by omega),ya,yW (ZL (by simp;omega) (by simp;omega)),Zl (by omega)];refine⟨_,rfl,_,_,_,rfl,by omega,by simp[e],λx hx=> ?_, ?_⟩
  .rcases ycm.1 hx with hx|hx
   .exact f x hx
   .rw[yav.1 hx];exact j.1
  .rw[xb];exact h.trans ((ZJk r').trans (sL _))) (by
  rintro _ ⟨v,ins,r',rfl,c,e,f⟩;unfold Vn;dsimp only;rw[yX (cf (by omega))];exact⟨_,rfl,_,_,_,rfl,c,e,f⟩)
 exact⟨v,ins,r',c,e⟩
theorem ZK5{n0 m0 m nt:Int}{T:Tx}{v:yL Unit}{ins:yL In}{r:Zc}(hm:m<=64)(g:r.1.length<=2000000):
 ∃x,Ze (Vo yD) yD (n0,m0,m,(0:Int),T,nt,([]:yL Out),v,([]:yL In),ins,r)=ab x/\
  ((∃y,x=.inl (af,(([]:yL In),([]:yL Out),(0:Int)),y))\/∃outs r',x=.inr (n0,m0,T,nt,outs,v,([]:yL In),ins,r')/\r'.1.length<=2000000/\outs.length=m.toNat/\(∀o,o∈outs->W4 o.2)/\ew r r' (aP dG outs)):=by
 refine Yo (step:=Vo yD) m.toNat (λk s=>∃outs r',s=(n0,m0,m,(k:Int),T,nt,outs,v,([]:yL In),ins,r')/\r'.1.length<=2000000/\outs.length=k/\(∀o,o∈outs->W4 o.2)/\ew r r' (aP dG outs)) _ ⟨[],r,rfl,g,rfl,(λx h=>by cases h),ew.refl r⟩ (by omega) ?_ ?_
 .rintro k _ F ⟨outs,r',rfl,c,e,f,j⟩;have G:=YS r';have l:=Zug (Xj r').2;have t:=ZEK (b:=(VX (Xj r').2).1) (by omega);unfold Vo;dsimp only;rw[yW (yY (by omega)),Qs c,ya,ZBs (by omega),ya,t,ya]
  cases z:(iF (VX (Xj r').2).1).2 with
  |false=>right;exact⟨_,rfl,.inl ⟨_,rfl⟩⟩
  |true=>
   left;obtain⟨A,I,E⟩:=ZJl z;rw[yX (by simp),yW (ZL (by omega) (by omega)),Zl (by omega)];refine⟨_,rfl,_,_,rfl,by omega,by simp[e],λo ho=> ?_, ?_⟩
   .rcases ycm.1 ho with ho|ho
    .exact f o ho
    .rw[yav.1 ho];exact A
   .rw[xb];refine j.trans ?_;unfold dG;dsimp only;rw[E];exact(sL r').trans (ZF7 _)
 .rintro _ ⟨outs,r',rfl,c,e,f⟩;unfold Vo;dsimp only;rw[yX (cf (by omega))];exact⟨_,rfl,.inr ⟨_,_,rfl,c,e,f⟩⟩
theorem ZK6{n0 m0 i0 len i s nt:Int}{T:Tx}{outs:yL Out}{v:yL Unit}{pre post:yL In}{fr:Xg}{br:Int}{sec:yU}{r:Zc}(hs:s<=12)(hi:i0.toNat=pre.length)(j:r.1.length<=2000000):
 ∃r' w,Ze (Vp yD) yD (n0,m0,i0,len,i,s,(0:Int),T,nt,outs,v,pre,post,fr,br,sec,r,([]:yL dz))=ab (n0,m0,(i0.toNat:Int),len,i,T,nt,outs,v,pre,post,fr,br,sec,r',w)/\r'.1.length<=2000000/\w.length=s.toNat/\ew r r' (aP dx w):=by
 obtain⟨x,c,r',w,rfl,e⟩:=Yo (step:=Vp yD) s.toNat (λk t=>∃f r' w,t=(n0,m0,f,len,i,s,(k:Int),T,nt,outs,v,pre,post,fr,br,sec,r',w)/\f.toNat=pre.length/\r'.1.length<=2000000/\w.length=k/\ew r r' (aP dx w))
  (λx=>∃r' w,x=(n0,m0,(i0.toNat:Int),len,i,T,nt,outs,v,pre,post,fr,br,sec,r',w)/\r'.1.length<=2000000/\w.length=s.toNat/\ew r r' (aP dx w)) (i:=(n0,m0,i0,len,i,s,(0:Int),T,nt,outs,v,pre,post,fr,br,sec,r,([]:yL dz))) ⟨i0,r,[],rfl,hi,j,rfl,ew.refl r⟩ (by omega) (by
  rintro k _ m ⟨f,r',w,rfl,g,c,e,h⟩;left;have y:=jQ r';have l:=jQ (gF r').2;unfold Vp;dsimp only;rw[yW (yY (by omega)),yW (yY g),jP c,ya,jP (by omega),ya,yW (ZL (by omega) (by omega)),Zl (by omega),g,yW (yY rfl)];refine⟨_,rfl,((pre.length:Nat):Int),_,_,rfl,by omega,by omega,by simp[e], ?_⟩;rw[xb];exact h.trans ((LS r').trans (LS _))) (by
  rintro _ ⟨f,r',w,rfl,g,c,e,h⟩;unfold Vp;dsimp only;rw[yX (cf (by omega)),g,hi];exact⟨_,rfl,_,_,rfl,c,e,h⟩)
 exact⟨r',w,c,e⟩
theorem ZK7{n0 m0 nt:Int}{T:Tx}{outs:yL Out}{v:yL Unit}{ins:yL In}{r:Zc}(S:ins.length<=64)(z:r.1.length<=2000000):
 ∃x,Ze (Vq yD) yD (n0,m0,((ins.length:Nat):Int),(0:Int),T,nt,outs,v,([]:yL In),ins,r)=ab x/\
  ((∃y,x=.inl (af,(([]:yL In),([]:yL Out),(0:Int)),y))\/∃pre r',x=.inr (n0,m0,T,nt,outs,v,pre,([]:yL In),r')/\r'.1.length<=2000000/\pre.map (λx=>x.1)=ins.map (λx=>x.1)/\ew r r' (aP QS pre)):=by
 refine Yo (step:=Vq yD) ins.length (λk s=>∃pre c r',s=(n0,m0,((ins.length:Nat):Int),(k:Int),T,nt,outs,v,pre,c,r')/\r'.1.length<=2000000/\pre.length=k/\pre.length+c.length=ins.length/\(pre++c).map (λx=>x.1)=ins.map (λx=>x.1)/\ew r r' (aP QS pre)) _
  ⟨[],ins,r,rfl,z,rfl,by simp,rfl,ew.refl r⟩ (by omega) ?_ ?_
 .rintro k _ A ⟨pre,c,r',rfl,h,l,f,g,j⟩
  cases c with
  |nil=>rw[yce]at f;omega
  |cons e c=>
   rw[yam]at f;have U:=YS r';have E:=LU (m:=12) (by omega) (Xj r').2;unfold Vq;dsimp only[uX];rw[yW (Zw A),yW (yY (by omega)),yW (XI (by omega) (by omega)),Qs h,ya,yW (yY (by omega)),px (by omega),ya];by_cases hs:(gi 12 (Xj r').2).1 < 0
   .right;rw[yW (yY hs)];exact⟨_,rfl,.inl ⟨_,rfl⟩⟩
   left;obtain⟨t,w,F,G,I,M⟩:=ZK6 (n0:=n0) (m0:=m0) (i0:=(((k:Int).toNat:Nat):Int)) (len:=((ins.length:Nat):Int)) (i:=(k:Int)) (s:=(gi 12 (Xj r').2).1) (nt:=nt) (T:=T) (outs:=outs) (v:=v) (pre:=pre) (post:=c) (fr:=e.1) (br:=(Xj r').1) (sec:=e.2.2.2) (r:=(gi 12 (Xj r').2).2) (by omega) (by omega) (by omega);have Q:=jQ t;rw[yX (by rw[yN];exact hs),F,ya];dsimp only;rw[jP G,ya,yW (yY (by omega)),Zl (by omega)];refine⟨_,rfl,_,_,_,rfl,by omega,by simp[l],by simp;omega, ?_, ?_⟩
   .rw[<-g];simp
   .rw[xb];refine j.trans ?_;unfold QS;dsimp only;rw[I];exact(sL r').trans ((LW _ (by omega)).trans (M.trans (LS t)))
 .rintro _ ⟨pre,c,r',rfl,h,l,f,g,j⟩
  cases c with
  |cons e c=>rw[yam]at f;omega
  |nil=>
   unfold Vq;dsimp only;rw[yX (by rw[Zs];decide)];rw[ybb]at g;exact⟨_,rfl,.inr ⟨_,_,rfl,h,g,j⟩⟩
def fz(t:Tx):Prop:=WS yD t=ab ae/\jO t/\jN t
theorem ZDo{b:yL yB}(hb:b.length<=2000000):∃t ok,nF yD b=ab (t,ok)/\(ok=ae->fz t/\dA t=b)/\(ok=af->t=([],[],0)):=by
 unfold nF;have E:=LU (m:=64) (by omega) (b,af);dsimp only at E;rw[wW hb,ya,px (by dsimp only;omega),ya];have F:=LW (m:=64) (b,af);generalize gi 64 (b,af)=q at E F;obtain⟨n,r0⟩:=q;dsimp only at E F ⊢;obtain⟨v,c,G,h1,h2,h3,h4,h5⟩:=ZNg (n0:=n) (n:=n) (nt:=0) (T:=(([]:yL In),([]:yL Out),(0:Int))) (r:=r0) (by omega) (by omega);have s:=LU (m:=64) (by omega) G;rw[h1,ya];dsimp only;rw[px h2,ya];have I:=LW (m:=64) G;generalize gi 64 G=q at s I;obtain⟨m,r2⟩:=q;dsimp only at s I ⊢;obtain⟨x,q1,M⟩:=ZK5 (n0:=n) (m0:=m) (m:=m) (nt:=0) (T:=(([]:yL In),([]:yL Out),(0:Int))) (v:=v) (ins:=c) (r:=r2) (by omega) (by omega);rw[q1,ya];rcases M with⟨y,rfl⟩|⟨outs,Q,rfl,M,q3,q4,q5⟩
 .exact⟨_,_,rfl,λh=>(by cases h),λ_=>rfl⟩
 dsimp only;have g:=YS Q;have j:=sL Q;rw[Qs M,ya,yce,yau];generalize Xj Q=q at g j;obtain⟨f,r4⟩:=q;dsimp only at g j ⊢;obtain⟨z,p1,p2⟩:=ZK7 (n0:=n) (m0:=m) (nt:=f) (T:=(([]:yL In),([]:yL Out),(0:Int))) (outs:=outs) (v:=v) (ins:=c) (r:=r4) (by omega) (by omega);rw[p1,ya];rcases p2 with⟨y,rfl⟩|⟨l,S,rfl,p2,U,p4⟩
 .exact⟨_,_,rfl,λh=>(by cases h),λ_=>rfl⟩
 dsimp only;rw[yW (by rfl)];unfold wD QN
 have W:l.length=c.length:=by
  have:=congrArg ycf U
  rwa [yx,yx]at this
 have X:∀o,o∈outs->cE o.2:=λo ho=>by
  obtain⟨g1,A,g3⟩:=q4 o ho;exact⟨by omega,λb hb=>by have:=(g3 b hb).1;omega⟩
 obtain⟨k,hk,_,Y⟩:=xa (t:=(l,outs,f)) ⟨by dsimp only;omega,by dsimp only;omega,X⟩;rw[ya,ya,hk,ya];by_cases c1:n < 0
 .rw[yW (yY c1)];exact⟨_,_,rfl,λh=>(by cases h),λ_=>rfl⟩
 rw[yX (by rw[yN];exact c1)];by_cases c2:m < 0
 .rw[yW (yY c2)];exact⟨_,_,rfl,λh=>(by cases h),λ_=>rfl⟩
 rw[yX (by rw[yN];exact c2)]
 cases c3:S.2 with
 |true=>
  rw[yW (by rfl)]
  exact⟨_,_,rfl,λh=>(by cases h),λ_=>rfl⟩
 |false=>
  rw[yX (by simp)];by_cases c4:(S.1.length:Int) > 0
  .rw[yW (yY c4)];exact⟨_,_,rfl,λh=>(by cases h),λ_=>rfl⟩
  rw[yX (by rw[yN];exact c4)]
  cases k with
  |false=>
   rw[yW (by decide)]
   exact⟨_,_,rfl,λh=>(by cases h),λ_=>rfl⟩
  |true=>
   rw[yX (by decide)];refine⟨_,_,rfl,λ_=>⟨⟨hk,Y rfl,⟨λx hx=> ?_,g.2.1⟩⟩, ?_⟩,λh=>by cases h⟩
   .have Z:x.1∈c.map (λx=>x.1):=by
     rw[<-U];exact ybj.2 ⟨x,hx,rfl⟩
    obtain⟨y,hy,hyx⟩:=ybj.1 Z;rw[<-hyx];exact h4 y hy
   .obtain⟨g1,A⟩:=((F (by omega)).trans (h5.trans ((I (by omega)).trans (q5.trans (j.trans p4))))) c3;have h0:S.1=[]:=ybo (by omega);rw[h0,ybb]at A;dsimp only at A
    have e:∀a:yL In,aP dq a=((a.map λx=>x.1).map λp:Xg=>p.1++Yg p.2.toNat).flatten:=λa=>by
     unfold aP
     rw[List.map_map];rfl
    rw[A];unfold dA iD;dsimp only;rw[e l,e c,U,W,h3,q3];simp only[yac]
def ji(x:In):In:=(x.1,(0,[],0))
theorem ZJm{n0 nt:Int}{T:Tx}{ins:yL In}{yJ:yL yB}(m:ins.length<=64)(h:∀x,x∈ins->x.1.1.length=32)(hok:∀x,x∈ins->lR x)(A:yJ.length<=100000):
 Ze (Vn yD) yD (n0,(ins.length:Int),(0:Int),T,nt,([]:yL Out),([]:yL Unit),([]:yL In),([]:yL In),(aP dq ins++yJ,af))=ab (n0,T,nt,([]:yL Out),yab ins.length (),([]:yL In),ins.map ji,(yJ,af)):=by
 refine Zy ins.length (λk:Nat=>(n0,(ins.length:Int),(k:Int),T,nt,([]:yL Out),yab k (),([]:yL In),(ins.take k).map ji,(aP dq (ins.drop k)++yJ,af))) ?_ ?_ (by omega)
 .intro k s;obtain⟨e,t,y⟩:=Zf s;have E:=ZS (f:=dq) (c:=41) (λx g=>pn (h x g) (hok x g)) m k;have j:=ZS (f:=dq) (c:=41) (λx g=>pn (h x g) (hok x g)) m (k+1);obtain⟨z,F,_⟩:=hok e y;have G:=Zt (n:=e.1.2.toNat) (by omega);have l:=h e y;unfold Vn;dsimp only;rw[yW (Zw s),ZBr (by simp only[yn];omega),ya,jg t];unfold dq at j ⊢;rw[yac,yac,ZBe l];dsimp only;rw[Qs (by simp only[yn];omega),ya,Wl z (by omega),yW (ZL (by simp;omega) (by simp;omega)),Zl (by omega),XH t,yaq];rfl
 .unfold Vn;dsimp only;rw[yX (by rw[Zs];decide),ydc,yag];rfl
theorem ZF8{n0 m0 nt:Int}{T:Tx}{v:yL Unit}{ins:yL In}{outs:yL Out}{yJ:yL yB}(j:outs.length<=64)(hok:∀x,x∈outs->wR x)(E:yJ.length<=100000):
 Ze (Vo yD) yD (n0,m0,(outs.length:Int),(0:Int),T,nt,([]:yL Out),v,([]:yL In),ins,(aP dG outs++yJ,af))=ab (.inr (n0,m0,T,nt,outs,v,([]:yL In),ins,(yJ,af))):=by
 refine Zy outs.length (λk:Nat=>(n0,m0,(outs.length:Int),(k:Int),T,nt,outs.take k,v,([]:yL In),ins,(aP dG (outs.drop k)++yJ,af))) ?_ ?_ (by omega)
 .intro k l;obtain⟨e,m,t⟩:=Zf l;have F:=ZS (f:=dG) (c:=551) (λx g=>po (hok x g)) j k;have h:=ZS (f:=dG) (c:=551) (λx g=>po (hok x g)) j (k+1);obtain⟨y,G,s,z⟩:=hok e t;have A:=lS s;have I:=Zt (n:=e.1.toNat) (by omega);have M:=Zt (n:=(V2 e.2).length) (by omega);unfold Vo;dsimp only;rw[yW (Zw l),Qs (by simp only[yn];omega),ya,jg m];unfold dG at h ⊢;simp only[yac];rw[Wl y (by omega)];dsimp only;rw[ZBs (by simp only[yn];omega),ya,ZwF (by omega)];dsimp only;rw[LL s z,ya];dsimp only;rw[yX (by decide),yW (ZL (by rw[yy];omega) (by rw[yy];omega)),Zl (by omega),XH m]
 .unfold Vo;dsimp only;rw[yX (by rw[Zs];decide),ydc,yag];rfl
theorem ZF9{n0 m0 len i nt:Int}{T:Tx}{outs:yL Out}{v:yL Unit}{pre post:yL In}{fr:Xg}{br:Int}{sec:yU}{l:yL dz}{yJ:yL yB}(hs:l.length<=12)(s:yJ.length<=100000):
 Ze (Vp yD) yD (n0,m0,((pre.length:Nat):Int),len,i,(l.length:Int),(0:Int),T,nt,outs,v,pre,post,fr,br,sec,(aP dx l++yJ,af),([]:yL dz))=ab (n0,m0,((pre.length:Nat):Int),len,i,T,nt,outs,v,pre,post,fr,br,sec,(yJ,af),l):=by
 refine Zy l.length (λk:Nat=>(n0,m0,((pre.length:Nat):Int),len,i,(l.length:Int),(k:Int),T,nt,outs,v,pre,post,fr,br,sec,(aP dx (l.drop k)++yJ,af),l.take k)) ?_ ?_ (by omega)
 .intro k j;obtain⟨e,m,t⟩:=Zf j;have g:∀x,x∈l->(dx x).length<=16:=λx _=>by unfold dx;rw[yn,ZO,ZO];exact ym _
  have y:=ZS (f:=dx) (c:=16) g hs k;have h:=ZS (f:=dx) (c:=16) g hs (k+1);have z:=ZO e.2.toNat
  unfold Vp;dsimp only;rw[yW (Zw j),yW (yY (yal _)),jP (by simp only[yn];omega),ya,jg m];unfold dx at h ⊢;rw[yac,yac,jR];dsimp only;rw[jP (by simp only[yn];omega),ya,jR,yW (ZL (by rw[yy];omega) (by rw[yy];omega)),yW (yY (yal _)),Zl (by omega),XH m,yal]
 .unfold Vp;dsimp only;rw[yX (by rw[Zs];decide),ydc,yag,yal];rfl
theorem ZGa{n0 m0 nt:Int}{T:Tx}{outs:yL Out}{v:yL Unit}{ins:yL In}(t:ins.length<=64)(hok:∀x,x∈ins->lR x):
 Ze (Vq yD) yD (n0,m0,((ins.length:Nat):Int),(0:Int),T,nt,outs,v,([]:yL In),ins.map ji,(aP QS ins,af))=ab (.inr (n0,m0,T,nt,outs,v,ins,([]:yL In),([],af))):=by
 refine Zy ins.length (λk:Nat=>(n0,m0,((ins.length:Nat):Int),(k:Int),T,nt,outs,v,ins.take k,(ins.drop k).map ji,(aP QS (ins.drop k),af))) ?_ ?_ (by omega)
 .intro k y;obtain⟨e,g,E⟩:=Zf y;have M:=ZS (f:=QS) (c:=218) (λx h=>pp (hok x h)) t k;have j:=ZS (f:=QS) (c:=218) (λx h=>pp (hok x h)) t (k+1);obtain⟨_,_,F,Q,A⟩:=hok e E;have hs:=W5 (f:=dx) (c:=16) (λs _=>by unfold dx;rw[yn,ZO,ZO];exact ym _) A e.2.2.1.length;rw[yag]at hs;have S:=Zt (n:=e.2.1.toNat) (by omega);have U:=Zt (n:=e.2.2.1.length) (by omega);have W:=ZO e.2.2.2.toNat
  have G:(ins.take k).length=k:=by rw[yy];omega
  unfold Vq;dsimp only;rw[yW (Zw y),yW (yY (by omega)),lT g,List.map_cons];dsimp only[uX];rw[yW (XI (by omega) (by rw[yx,ybf,G];omega)),Qs (by rw[<-lT g];dsimp only;omega),ya,yW (yY (by omega)),KZ];unfold QS at j ⊢;simp only[yac];rw[Wl F (by omega)];dsimp only;rw[px (by simp only[yn];omega),ya];have l:=LV (m:=12) (z:=(e.2.2.1.length:Int)) (by omega) (by omega) (by omega) (aP dx e.2.2.1++(QE e.2.2.2.toNat++aP QS (ins.drop (k+1))));rw[yal]at l;unfold QS at l;rw[l];dsimp only;rw[yX (cf (by omega))];have I:(((k:Int).toNat:Nat):Int)=(((ins.take k).length:Nat):Int):=by omega
  rw[I,ZF9 A (by simp only[yn];omega),ya];dsimp only;rw[jP (by simp only[yn];omega),ya,jR,yW (yY (by omega)),Zl (by omega),XH g];rfl
 .unfold Vq;dsimp only;rw[yX (by rw[Zs];decide),ydc,yag];rfl
theorem LX{t:Tx}(e:jN t)(h:jO t):(dA t).length<=60000:=by
 have l:=(LC e h).2;have g:=W5 (f:=QS) (c:=218) (λx j=>pp (h.2.2.2.2.1 x j)) h.2.1 t.1.length;rw[yag]at g;unfold dA;rw[yn];omega
theorem LY{t:Tx}(I:fz t):nF yD (dA t)=ab (t,ae):=by
 obtain⟨M,h,j⟩:=I;have l:=LX j h;obtain⟨c,outs,e⟩:=t;obtain⟨s,x⟩:=j;obtain⟨Q,f,y,A,g,E⟩:=h;dsimp only at s x Q f y A g E;unfold nF;rw[wW (by omega),ya,px (by dsimp only;omega),ya];unfold dA iD at l ⊢;simp only[yac,yn]at l ⊢;have F:=LV (m:=64) (z:=(c.length:Int)) (by omega) (by omega) (by omega) (aP dq c++(Yg outs.length++(aP dG outs++(Yg e.toNat++aP QS c))));rw[yal]at F;rw[F];dsimp only;rw[ZJm f s g (by simp only[yn];omega),ya];dsimp only;have G:=LV (m:=64) (z:=(outs.length:Int)) (by omega) (by omega) (by omega) (aP dG outs++(Yg e.toNat++aP QS c));rw[yal]at G;rw[px (by simp only[yn];omega),ya,G];dsimp only;rw[ZF8 y E (by simp only[yn];omega),ya];dsimp only;rw[Qs (by simp only[yn];omega),ya,Wl A x,yce,yau,yx];dsimp only;rw[ZGa f g,ya];dsimp only;rw[yW List.isEmpty_nil,yX (cf (by omega)),yX (cf (by omega))];unfold wD QN;rw[ya,yX (by decide),ya,yX (by decide),M,ya,yX (by decide)]
theorem ZEO{t u:Tx}(ht:fz t)(hu:fz u)(h:dA t=dA u):t=u:=by
 have c:=LY ht;rw[h,LY hu]at c;cases c;rfl
open Classical in
noncomputable def py(b:yL yB):Tx×Bool:=if h:∃t,fz t/\dA t=b then(h.choose,ae) else(([],[],0),af)
theorem xc{b:yL yB}{t:Tx}(h:fz t/\dA t=b):py b=(t,ae):=by
 have c:∃t,fz t/\dA t=b:=⟨t,h⟩;unfold py;rw[dif_pos c,ZEO c.choose_spec.1 h.1 (c.choose_spec.2.trans h.2.symm)]
theorem xf{b:yL yB}(h:¬∃t,fz t/\dA t=b):py b=(([],[],0),af):=by
 unfold py;rw[dif_neg h]
theorem ZJn{b:yL yB}(hb:b.length<=2000000):nF yD b=ab (py b):=by
 obtain⟨t,g,c,h,j⟩:=ZDo hb;rw[c]
 cases g with
 |true=>rw[xc (h rfl)]
 |false=>
  rw[j rfl];by_cases f:∃t,fz t/\dA t=b
  .obtain⟨u,l,e⟩:=f;have:=LY l;rw[e,c]at this;cases this
  .rw[xf f]
theorem sM{a b:yL yB}(ha:a.length<=60000)(hb:b.length<=60000):∀l,l∈[a,b]->l.length<=60000:=by
 intro l c;simp only[List.mem_cons,List.not_mem_nil,or_false]at c;rcases c with rfl|rfl <;> assumption
noncomputable def kR(key:yL yB)(i:Nat):yL yB:=Sha.fL (gr rZ [key,QE i])
theorem LZ(key:yL yB)(i:Nat):(kR key i).length=32:=Sha.oR _
noncomputable def dP(key:yL yB):Nat->yL yB
 |0=>[]
 |k+1=>dP key k++kR key k
theorem jT(key:yL yB):∀k,(dP key k).length=32*k
 |0=>rfl
 |k+1=>by
  show(dP key k++kR key k).length=_;rw[yn,jT key k,LZ];omega
theorem ZEP(key:yL yB)(k:Nat):∀d,∃r,dP key (k+d)=dP key k++r
 |0=>⟨[],by simp⟩
 |d+1=>by
  obtain⟨r,h⟩:=ZEP key k d
  exact⟨r++kR key (k+d),by
   show dP key (k+d)++kR key (k+d)=_;rw[h,yac]⟩
theorem ZBt(key:yL yB){n k m:Nat}(h1:n<=32*k)(h2:n<=32*m):(dP key k).take n=(dP key m).take n:=by
 have one:∀a b,a<=b->n<=32*a->(dP key b).take n=(dP key a).take n:=by
  intro a b e f;obtain⟨r,c⟩:=ZEP key a (b - a);rw[show a+(b - a)=b by omega]at c;rw[c,List.take_append_of_le_length (by rw[jT];exact f)]
 rcases Nat.le_total k m with h|h
 .exact(one k m h h1).symm
 .exact one m k h h2
noncomputable def eW(key:yL yB)(n:Nat):yL yB:=(dP key n).take n
theorem jU(key:yL yB)(n:Nat):(eW key n).length=n:=by
 unfold eW;rw[yy,jT];omega
theorem ZK8{no:yU}{key:yL yB}(c:key.length<=50000):vS yD no key=ab (kR key no.toNat,no+1,key):=by
 unfold vS;generalize gk=z
 rw[show((0:Int),no,key,z,([0,0,0,0,0,0,0,0]:yL yB))=(λk:Nat=>((k:Int),no,key,z,gf (QE no.toNat) 8 k)) 0 from rfl,
  Zy (x:=(no,key,z,QE no.toNat)) 8 (λk:Nat=>((k:Int),no,key,z,gf (QE no.toNat) 8 k)) ?_ ?_ (by omega),ya]
 .dsimp only;rw[wT (by decide) (by simp) (sM (by omega) (by rw[ZO];omega)),ya];rfl
 .intro k c;unfold Qc;dsimp only;have f:=ZO no.toNat
  rw[yW (yY (by omega)),Yf (z:=8*(k:Int)) (by omega) (by omega),Yf (z:=56 - 8*(k:Int)) (by omega) (by omega),yW (yY (by omega)),yW (XI (by omega) (by omega)),
   yal,wO (by omega) (by omega),ya,Zl (by omega)]
  have e:min (56 - 8*(k:Int)).toNat 64=56 - 8*k:=by omega
  rw[e,wQ,wP (pj _ c) (by omega)]
 .unfold Qc;dsimp only;rw[yX (by simp),KW (ZO _)]
theorem ZwK{key:yL yB}{n:Nat}(g:key.length<=50000)(z:n<=65536):∃v,Qw yD key (n:Int)=ab (v,eW key n):=by
 unfold Qw HZ
 have h:(ae&&hT (wi ((n:Int)+32)) 1)=ae:=by
  rw[Yf (by omega) (by omega),Bool.true_and];unfold hT kq;rw[yi,yi];exact⟨yY (by omega),yY (by unfold Zn;omega),yY (by unfold maxLen;omega)⟩
 rw[yX (cf (by omega)),yX (cf (by omega)),yW h,ya];dsimp only
 obtain⟨x,j,v,m,no,rfl,l⟩:=Yo (step:=WY yD) 2049 (λk s=>∃v,s=((n:Int),key,([]:yL Unit),([]:yL yB),v,dP key k,yai k,key)) (λx=>∃v m no,x=((n:Int),key,([]:yL Unit),([]:yL yB),v,dP key m,no,key)/\n<=32*m) (i:=((n:Int),key,([]:yL Unit),([]:yL yB),([]:yL Unit),([]:yL yB),(0:yU),key)) ⟨_,rfl⟩ (by omega) (by
  rintro k _ t ⟨v,rfl⟩;have c:=jT key k;unfold WY;dsimp only;by_cases f:((dP key k).length:Int) < (n:Int)
  .left
   have e:(yai k).toNat=k:=by
    rw[yaz];exact yas (by omega)
   have y:yai k+1=yai (k+1):=by
    apply ycz.1;rw[UInt64.toNat_add,e,yaz];rfl
   rw[yW (yY f),ZK8 g,ya,e,y];dsimp only;rw[yW (ZL (by rw[LZ];omega) (by rw[LZ];omega))];exact⟨_,rfl,_,rfl⟩
  .right;rw[yX (by rw[yN];exact f)];exact⟨_,rfl,_,_,_,rfl,by omega⟩) (by
  rintro _ ⟨v,rfl⟩;have c:=jT key 2049;unfold WY;dsimp only;rw[yX (cf (by omega))];exact⟨_,rfl,_,_,_,rfl,by omega⟩)
 rw[j,ya];dsimp only;have c:=jT key m;rw[yW (by rw[yi];exact⟨yY (by omega),yY (by omega)⟩),yal];refine⟨_,congrArg ab (congrArg (Prod.mk _) ?_)⟩;exact ZBt key l (by omega)
def QT(s b:yL yB):yL yB:=List.zipWith (· ^^^ ·) s b
def ig(s b:yL yB)(k:Nat):yL yB:=(QT s b).take k++s.drop k
theorem VA{s b:yL yB}(h:s.length=b.length):(QT s b).length=b.length:=by unfold QT;rw[List.length_zipWith];omega
theorem ZBu{s b:yL yB}{k:Nat}{x:yB}(h:s.length=b.length)(hx:s[k]? =ab x):(ig s b k)[k]? =ab x:=by
 have c:=(yp.1 hx).1;have e:=VA h;unfold ig;rw[yan (by rw[yy];omega),yy,List.getElem?_drop];rw[<-hx];congr 1;omega
theorem ZBv{s b:yL yB}{k:Nat}{x y:yB}(h:s.length=b.length)(hx:s[k]? =ab x)(c:b[k]? =ab y):(ig s b k).set k (x^^^y)=ig s b (k+1):=by
 have f:=(yp.1 hx).1;have g:=VA h
 have e:(QT s b)[k]? =ab (x^^^y):=by
  unfold QT;rw[List.getElem?_zipWith,hx,c]
 unfold ig;rw[XH e,List.set_append_right _ _ (by rw[yy];omega),yy,lT hx,yac];congr 1;rw[show k - min k (QT s b).length=0 by omega];rfl
theorem xg{s b:yL yB}{k:Nat}(h:s.length=b.length):(ig s b k).length=b.length:=by
 have c:=VA h;unfold ig;rw[yn,yy,ybf];omega
theorem xh:∀{s b:yL yB},s.length=b.length->QT s (QT s b)=b
 |[],[],_=>rfl
 |x::s,y::b,h=>by
  have c:=xh (s:=s) (b:=b) (by simpa using h);unfold QT at c ⊢;rw[List.zipWith_cons_cons,List.zipWith_cons_cons,c];congr 1;rw[<-UInt8.xor_assoc,UInt8.xor_self,UInt8.zero_xor]
theorem ZK9{key b:yL yB}(e:key.length<=50000)(hb:b.length<=65536):vU yD key b=ab (QT (eW key b.length) b):=by
 obtain⟨v,h⟩:=ZwK e hb;have c:=jU key b.length;generalize eW key b.length=s at h c;unfold vU;rw[h,ya];dsimp only
 rw[show(b,(b.length:Int),(0:Int),key,v,s)=(λk:Nat=>(b,(b.length:Int),(k:Int),key,v,ig s b k)) 0 from rfl,
  Zy (x:=(key,v,QT s b)) b.length (λk:Nat=>(b,(b.length:Int),(k:Int),key,v,ig s b k)) ?_ ?_ (by omega),ya]
 .intro k e;obtain⟨y,f,_⟩:=Zf e;obtain⟨x,g,_⟩:=Zf (l:=s) (k:=k) (by omega);unfold vT;dsimp only;rw[yW (Zw e),yW (XI (by omega) (by rw[xg c];omega)),yal,ZBu c g,ya,Zm f,ya,ya,Zl (by omega),ZBv c g f,yW (XI (by omega) (by rw[xg c];omega))]
 .unfold vT;dsimp only;rw[yX (by rw[Zs];decide)];unfold ig;rw[ybs (by rw[VA c];exact ym _),List.drop_of_length_le (by omega),ybb]
noncomputable def jj(key h:yL yB):yL yB:=(Sha.fL (gr IC [key,h])).take 8
theorem sN(key h:yL yB):(jj key h).length=8:=by
 unfold jj;rw[yy,Sha.oR];rfl
theorem Zuo{key h:yL yB}(e:key.length<=50000)(c:h.length<=60000):sa yD key h=ab (jj key h):=by
 unfold sa;rw[wT (by decide) (by simp) (sM (by omega) c),ya];have:=sN key h;unfold jj at this ⊢;rw[yW (yY (by omega)),List.take_take,Nat.min_self]
noncomputable def gO(key b:yL yB):yL yB×Bool:=if 8<=b.length/\jj key (b.take (b.length - 8))=b.drop (b.length - 8) then(QT (eW key (b.length - 8)) (b.take (b.length - 8)),ae) else([],af)
theorem ZLa{key b:yL yB}(f:key.length<=50000)(hb:b.length<=50000):wB yD key b=ab (gO key b):=by
 unfold wB gO;rw[Yf (z:=(b.length:Int) - 8) (by omega) (by omega)];by_cases g:(b.length:Int) - 8 < 0
 .rw[yW (yY g),yX λq=>by omega]
 have e:((b.length:Int) - 8).toNat=b.length - 8:=by omega
 rw[yX (by rw[yN];exact g),yX (cf (by omega)),yW (sD (by omega) (by omega)),e,Zuo f (by rw[yy];omega),ya,yW (sC (by omega) (by omega)),yW (yY (by rw[ybf];omega)),ybs (l:=b.drop (b.length - 8)) (by rw[ybf];omega)];dsimp only;by_cases c:jj key (b.take (b.length - 8))=b.drop (b.length - 8)
 .have h:(b.take (b.length - 8)).length=b.length - 8:=by rw[yy];omega
  rw[yY c,yX (by decide),yW (sD (by omega) (by omega)),ZK9 f (by omega),ya,yW ⟨by omega,c⟩,h]
 .rw[yZ c,yW (by decide),yX λq=>c q.2]
theorem xi:∀s b:yL yB,QT s b=QT b s
 |[],[]=>rfl
 |[],_::_=>rfl
 |_::_,[]=>rfl
 |x::s,y::b=>by
  have c:=xi s b;unfold QT at c ⊢;rw[List.zipWith_cons_cons,List.zipWith_cons_cons,c,UInt8.xor_comm]
theorem ZBw{s b:yL yB}{k:Nat}{x y:yB}(hx:s[k]? =ab x)(c:b[k]? =ab y):(QT s b)[k]? =ab (x^^^y):=by
 unfold QT;rw[List.getElem?_zipWith,hx,c]
theorem ZJo{a b:yL yB}(h:a.length=b.length)(hl:a.length<=1000000):Ql yD a b=ab (QT a b):=by
 unfold Ql;have j:=VA h
 have e:=Zy (step:=X6 yD) a.length (λk:Nat=>(a,b,(k:Int),(QT a b).take k)) (x:=QT a b) (by
  intro k c;obtain⟨x,f,_⟩:=Zf (l:=a) (k:=k) c;obtain⟨y,g,_⟩:=Zf (l:=b) (k:=k) (by omega);unfold X6;dsimp only;rw[yW (Zw c),Zm f,ya,Zm g,ya,yW (ZL (by rw[yy];omega) (by rw[yy];omega)),Zl (by omega),XH (ZBw f g)]) (by
  unfold X6;dsimp only;rw[yX (by rw[Zs];decide),ybs (by omega)]) (by omega)
 rw[List.take_zero]at e;exact(congrArg (Option.bind · _) e).trans rfl
theorem ZwL{a b:yL yB}(h:a.length=b.length)(hl:a.length<=1000000):W7 yD a b=ab (QT a b):=by
 unfold W7;have j:=VA h
 have e:=Zy (step:=Xi yD) a.length (λk:Nat=>(a,b,(k:Int),([]:yL yB),(QT a b).take k)) (x:=(([]:yL yB),QT a b)) (by
  intro k c;obtain⟨x,f,_⟩:=Zf (l:=a) (k:=k) c;obtain⟨y,g,_⟩:=Zf (l:=b) (k:=k) (by omega);unfold Xi;dsimp only;rw[yW (Zw c),Zm f,ya,Zm g,ya,yW (ZL (by rw[yy];omega) (by rw[yy];omega)),Zl (by omega),XH (ZBw f g)]) (by
  unfold Xi;dsimp only;rw[yX (by rw[Zs];decide),ybs (by omega)]) (by omega)
 rw[List.take_zero]at e;exact(congrArg (Option.bind · _) e).trans rfl
theorem ZGb(n:yU):VO yD n=ab (QE n.toNat):=by
 unfold VO
 have e:=Zy (step:=XR yD) 8 (λk:Nat=>(n,(k:Int),(QE n.toNat).take k)) (x:=QE n.toNat) (by
  intro k c;unfold XR;dsimp only
  have f:(min ((cK (wi (56 - wi (8*(k:Int))))).toNat:Int).toNat 64)=56 - 8*k:=by
   rw[Yf (z:=8*(k:Int)) (by omega) (by omega),Yf (z:=56 - 8*(k:Int)) (by omega) (by omega)]
   have:(cK (56 - 8*(k:Int))).toNat=56 - 8*k:=by
    unfold cK;rw[yaz];omega
   omega
  rw[yW (yY (by omega)),yW (ZL (by rw[yy];omega) (by rw[yy];omega)),Zl (by omega),f,wQ,XH (pj _ c)]) (by
  unfold XR;dsimp only;rw[yX (cf (by omega)),ybs (by rw[ZO];exact ym _)]) (by omega)
 rw[List.take_zero]at e;exact(congrArg (Option.bind · _) e).trans rfl
theorem ZDp{n k:Nat}{key h:yL yB}{i:yU}(E:n<=65536)(F:32*k < n)(G:h.length=32)(he:kR key k=h):
 ∃y,Ze (YJ yD) yD ((n:Int),i,(0:Int),key,dP key k,h)=ab ((n:Int),i,key,(dP key (k+1)).take n,y):=by
 have m:=jT key k
 have hs:dP key (k+1)=dP key k++h:=by
  show dP key k++kR key k=_;rw[he]
 have z:=jT key (k+1)
 obtain⟨x,A,y,rfl⟩:=Yo (step:=YJ yD) 32 (λj s=>s=((n:Int),i,(j:Int),key,(dP key (k+1)).take (32*k+j),h)/\32*k+j<=n) (λx=>∃y,x=((n:Int),i,key,(dP key (k+1)).take n,y))
  (i:=((n:Int),i,(0:Int),key,dP key k,h)) ⟨by rw[Nat.add_zero,hs, <-m,List.take_left' rfl];rfl,by omega⟩ (by omega) (by
  rintro j _ I ⟨rfl,f⟩;unfold YJ;dsimp only;rw[yW (yY (by omega))];have e:((dP key (k+1)).take (32*k+j)).length=32*k+j:=by rw[yy];omega
  by_cases c:32*k+j < n
  .left;obtain⟨x,t,_⟩:=Zf (l:=h) (k:=j) (by omega)
   have g:(dP key (k+1))[32*k+j]? =ab x:=by
    rw[hs,yan (by omega),m, <-t];congr 1;omega
   rw[e,yW (yY (by omega)),yW (XI (by omega) (by omega)),yal,t,ya,yW (ZL (by omega) (by omega)),Zl (by omega), <-XH g];exact⟨_,rfl,rfl,by omega⟩
  .right;rw[e,yX (cf (by omega)),show 32*k+j=n by omega];exact⟨_,rfl,_,rfl⟩) (by
  rintro _ ⟨rfl,f⟩;unfold YJ;dsimp only;rw[yX (cf (by omega)),ybs (l:=dP key (k+1)) (i:=32*k+32) (by omega),ybs (l:=dP key (k+1)) (i:=n) (by omega)];exact⟨_,rfl,_,rfl⟩)
 exact⟨y,A⟩
theorem MC{key:yL yB}{n:Nat}(z:key.length<=50000)(f:n<=65536):Wp yD key (n:Int)=ab (eW key n):=by
 unfold Wp;rw[yX (cf (by omega)),yX (cf (by omega))]
 obtain⟨x,g,m,rfl,h⟩:=Yo (step:=XB yD) 2049 (λk s=>s=((n:Int),yai k,key,(dP key k).take n)) (λx=>∃m,x=(key,(dP key m).take n)/\n<=32*m) (i:=((n:Int),(0:yU),key,([]:yL yB))) (by
  show _=((n:Int),(0:yU),key,([]:yL yB).take n);rw[List.take_nil]) (by omega) (by
  rintro k _ j rfl;have l:=jT key k;unfold XB;dsimp only;by_cases c:32*k < n
  .left
   have e:(yai k).toNat=k:=by
    rw[yaz];exact yas (by omega)
   have t:yai k+1=yai (k+1):=by
    apply ycz.1;rw[UInt64.toNat_add,e,yaz];rfl
   have hs:kR key k=Sha.fL (gr rZ [key,QE k]):=rfl;obtain⟨y,q⟩:=ZDp (i:=yai k) f c (Sha.oR (gr rZ [key,QE k])) hs;rw[ybs (by omega),yW (yY (by omega)),ZGb,ya,e,sA (by decide) (by simp) (sM (by omega) (by rw[ZO];omega)),ya,q,ya, <-t];exact⟨_,rfl,rfl⟩
  .right;rw[yX (by rw[yN,yy];omega)];exact⟨_,rfl,_,rfl,by omega⟩) (by
  rintro _ rfl;have l:=jT key 2049;unfold XB;dsimp only;rw[yX (by rw[yN,yy];omega)];exact⟨_,rfl,_,rfl,by omega⟩)
 rw[g,ya];exact congrArg ab (ZBt key h (by omega))
noncomputable def fA(key plain:yL yB):yL yB:=QT (eW key plain.length) plain++jj key (QT (eW key plain.length) plain)
theorem ZJp{key plain:yL yB}(e:key.length<=50000)(hp:plain.length<=59000):Xp yD key plain=ab (fA key plain):=by
 unfold Xp fA;have c:=jU key plain.length;have g:=VA c;rw[yX (cf (by omega)),MC e (by omega),ya,ZwL c.symm (by omega),ya,xi plain,sA (by decide) (by simp) (sM (by omega) (by omega)),ya];have f:=sN key (QT (eW key plain.length) plain);unfold jj at f ⊢;rw[yW (ZL (by omega) (by omega))]
theorem ZGc{key b:yL yB}(f:key.length<=50000)(hb:b.length<=50000):Qp yD key b=ab (gO key b):=by
 unfold Qp gO;rw[Yf (z:=(b.length:Int) - 8) (by omega) (by omega)];by_cases g:(b.length:Int) - 8 < 0
 .rw[yW (yY g),yX λq=>by omega]
 have e:((b.length:Int) - 8).toNat=b.length - 8:=by omega
 have j:(b.length:Int) - 8=((b.length - 8:Nat):Int):=by omega
 have h:(b.take (b.length - 8)).length=b.length - 8:=by rw[yy];omega
 have hs:=jU key (b.length - 8);have l:=VA (s:=eW key (b.length - 8)) (b:=b.take (b.length - 8)) (by omega);have m:QT (eW key (b.length - 8)) (QT (eW key (b.length - 8)) (b.take (b.length - 8)))=b.take (b.length - 8):=xh (by omega);rw[yX (by rw[yN];exact g),yX (cf (by omega)),yW (sD (by omega) (by omega)),e,j,MC f (by omega),ya,ZJo (by omega) (by omega),ya,xi (b.take (b.length - 8)),ZJp f (by omega),ya];dsimp only;rw[sH];unfold fA;rw[l,h,m];by_cases c:jj key (b.take (b.length - 8))=b.drop (b.length - 8)
 .rw[c,ybk,yY rfl,yX (by decide),yW ⟨by omega,rfl⟩]
 .rw[yZ λq=>c (by
   have:=congrArg (List.drop (b.length - 8)) q
   rwa [List.drop_left' h]at this),yW (by decide),yX λq=>c q.2]
theorem MD{t:Tx}(y:jN t)(Q:ZF yD t=ab ae)(h:jO t):XZ yD t=ab (dA t):=by
 have S:=ZF2 y h;have T:=(LC y h).2;unfold XZ;rw[Q,ya,yX (by decide),S,ya];unfold dA;generalize iD t=m at T;obtain⟨g,outs,l⟩:=t;obtain⟨h1,z,h3,h4,s,h6⟩:=h;dsimp only at z s ⊢;have U:=λk=>W5 (f:=QS) (c:=218) (λx W=>pp (s x W)) z k
 rw[show(m,(0:Int),(g,outs,l))=(λk:Nat=>(m++aP QS (g.take k),(k:Int),(g,outs,l))) 0 by simp[aP],
  Zy (x:=(m++aP QS g,(g,outs,l))) g.length (λk:Nat=>(m++aP QS (g.take k),(k:Int),(g,outs,l))) ?_ ?_ (by omega),ya]
 .intro k A;obtain⟨e,E,X⟩:=Zf A;have Y:=U k;obtain⟨_,_,Z,k2,F⟩:=s e X;have r1:=Zt (n:=e.2.1.toNat) (by omega);have r2:=Zt (n:=e.2.2.1.length) (by omega);unfold WL;dsimp only;rw[yW (Zw A),Zm E,ya,iE Z (by omega) (by rw[yn];omega),ya,iE (by omega) (by omega) (by simp only[yn];omega),ya,yal];generalize G:m++aP QS (g.take k)++Yg e.2.1.toNat++Yg e.2.2.1.length=q;have hql:q.length<=60000:=by rw[<-G];simp only[yn];omega
  rw[show(q,(k:Int),(0:Int),(g,outs,l),e.2)=(λj:Nat=>(q++aP dx (e.2.2.1.take j),(k:Int),(j:Int),(g,outs,l),e.2)) 0 by simp[aP],
   Zy (x:=(q++aP dx e.2.2.1,(k:Int),(g,outs,l),e.2)) e.2.2.1.length (λj:Nat=>(q++aP dx (e.2.2.1.take j),(k:Int),(j:Int),(g,outs,l),e.2)) ?_ ?_ (by omega),ya]
  .have hs:=sx F e.2.2.1.length;rw[yag]at hs;dsimp only;rw[sB _ (by rw[yn];omega),ya,Zl (by omega),Vz E, <-G];unfold QS;simp only[yac]
  .intro j I;obtain⟨f,M,_⟩:=Zf I;have hs:=sx F j;have hu:=ZO f.1.toNat
   unfold WK;dsimp only;rw[yW (Zw I),Zm M,ya,sB _ (by rw[yn];omega),ya,ya,sB _ (by simp only[yn];omega),ya,Zl (by omega),Vz M];unfold dx;simp only[yac]
  .unfold WK;dsimp only;rw[yX (by rw[Zs];decide),yag]
 .unfold WL;dsimp only;rw[yX (by rw[Zs];decide),yag]
theorem ZwM{r:Zc}(h:r.1.length<=2000000):X0 yD r=ab (gg r):=by
 unfold X0 gg;rw[LM (by omega) h,ya];have c:=nJ r 32;rw[show(32:Int).toNat=32 from rfl]
 generalize Va r 32=q at c;obtain⟨l,g⟩:=q;dsimp only at c ⊢
 have e:=Zy (step:=Yz yD) l.length (λk:Nat=>(l,(k:Int),g,yab 32 (0:yB),gf l 32 k)) (x:=(g,yab 32 (0:yB),gf l 32 l.length)) (by
  intro k f;obtain⟨e,j,_⟩:=Zf f;unfold Yz;dsimp only;have m:(gf l 32 k).length=32:=by unfold gf;rw[yn,yy,ycp];omega
  simp only[Zw f,if_true,Zm j,ya,XI (show(0:Int)<=(k:Int) by omega) (show(k:Int) < ((32:Nat):Int) by omega),yal,wO f c.1,Zl (show k < 9223372036854775807 by omega),wP j c.1]) (by
  unfold Yz;dsimp only;rw[yX (by rw[Zs];decide)]) (by omega)
 refine(congrArg (Option.bind · _) e).trans ?_;unfold gf;rw[yag];rfl
theorem Zup{r:Zc}(h:r.1.length<=2000000):XV yD r=ab (VX r):=by
 unfold XV VX;have e:=YS r;rw[XW h,ya];by_cases c:(Xj r).2.2=ae
 .rw[yW c,yW c]
 .rw[yX c,yX c,LM e.1 (by omega),ya]
theorem ZJq{b:yL yB}{n nt:Int}{T:Tx}{outs:yL Out}{r:Zc}(h:r.1.length<=2000000):
 ∃v ins r',Ze (Z4 yD) yD (b,n,(0:Int),T,r,nt,outs,([]:yL Unit),([]:yL In))=ab (b,T,r',nt,outs,v,ins)/\r'.1.length<=2000000/\ins.length<=65/\∀x,x∈ins->x.1.1.length=32:=by
 obtain⟨x,e,v,ins,r',rfl,g⟩:=Yo (step:=Z4 yD) 65 (λk s=>∃v ins r',s=(b,n,(k:Int),T,r',nt,outs,v,ins)/\r'.1.length<=2000000/\ins.length=k/\∀x,x∈ins->x.1.1.length=32)
  (λx=>∃v ins r',x=(b,T,r',nt,outs,v,ins)/\r'.1.length<=2000000/\ins.length<=65/\∀x,x∈ins->x.1.1.length=32) (i:=(b,n,(0:Int),T,r,nt,outs,([]:yL Unit),([]:yL In))) ⟨[],[],r,rfl,h,rfl,λx hx=>by cases hx⟩ (by omega) (by
  rintro k _ m ⟨v,ins,r',rfl,e,g,f⟩;unfold Z4 Zq;dsimp only;by_cases c:(k:Int) < n
  .rw[yW (yY c),yW (yY (by omega)),ya];dsimp only
   cases t:r'.2 with
   |true=>right;rw[yX (by decide)];exact⟨_,rfl,_,_,_,rfl,e,by omega,f⟩
   |false=>
    left;have j:=ZwD r';have l:=YS (gg r').2;rw[yW (by decide),ZwM e,ya,XW (by omega),ya,yW (ZL (by omega) (by omega)),Zl (by omega)];refine⟨_,rfl,_,_,_,rfl,by omega,by simp[g],λx hx=> ?_⟩;rcases ycm.1 hx with hx|hx
    .exact f x hx
    .rw[yav.1 hx];exact j.1
  .right;rw[yX (by rw[yN];exact c)];exact⟨_,rfl,_,_,_,rfl,e,by omega,f⟩) (by
  rintro _ ⟨v,ins,r',rfl,e,g,f⟩;unfold Z4;dsimp only;rw[yX (c:=ag (((65:Nat):Int) < 65)=ae) (by decide),ite_self];exact⟨_,rfl,_,_,_,rfl,e,by omega,f⟩)
 exact⟨v,ins,r',e,g⟩
theorem ZGd{b:yL yB}{m nt:Int}{T:Tx}{v:yL Unit}{ins:yL In}{r:Zc}(h:r.1.length<=2000000):
 ∃x,Ze (Z5 yD) yD (b,m,(0:Int),T,r,nt,([]:yL Out),v,ins)=ab x/\((∃y,x=.inl (af,(([]:yL In),([]:yL Out),(0:Int)),y))\/∃outs r',x=.inr (b,T,r',nt,outs,v,ins)/\r'.1.length<=2000000/\outs.length<=65/\∀o,o∈outs->W4 o.2):=by
 refine Yo (step:=Z5 yD) 65 (λk s=>∃outs r',s=(b,m,(k:Int),T,r',nt,outs,v,ins)/\r'.1.length<=2000000/\outs.length=k/\∀o,o∈outs->W4 o.2) _ ⟨[],r,rfl,h,rfl,λx j=>by cases j⟩ (by omega) ?_ ?_
 .rintro k _ A ⟨outs,r',rfl,e,g,f⟩;unfold Z5 Zq;dsimp only;by_cases c:(k:Int) < m
  .rw[yW (yY c),yW (yY (by omega)),ya];dsimp only
   cases ho:r'.2 with
   |true=>right;rw[yX (by decide)];exact⟨_,rfl,.inr ⟨_,_,rfl,e,by omega,f⟩⟩
   |false=>
    have E:=YS r';have l:=Zug (Xj r').2;rw[yW (by decide),XW e,ya,Zup (by omega),ya,ZBl (by omega),ya]
    cases t:(iF (VX (Xj r').2).1).2 with
    |false=>right;exact⟨_,rfl,.inl ⟨_,rfl⟩⟩
    |true=>
     left;obtain⟨z,F,G⟩:=ZJl t;rw[yX (by simp),yW (ZL (by omega) (by omega)),Zl (by omega)];refine⟨_,rfl,_,_,rfl,by omega,by simp[g],λo ho=> ?_⟩;rcases ycm.1 ho with ho|ho
     .exact f o ho
     .rw[yav.1 ho];exact z
  .right;rw[yX (by rw[yN];exact c)];exact⟨_,rfl,.inr ⟨_,_,rfl,e,by omega,f⟩⟩
 .rintro _ ⟨outs,r',rfl,e,g,f⟩;unfold Z5;dsimp only;rw[yX (c:=ag (((65:Nat):Int) < 65)=ae) (by decide),ite_self];exact⟨_,rfl,.inr ⟨_,_,rfl,e,by omega,f⟩⟩
theorem ZJr{r:Zc}(j:r.1.length<=2000000):∃w r',Xa yD r=ab (w,r')/\r'.1.length<=2000000/\w.2.1.length<=13:=by
 unfold Xa;have l:=YS r;have e:=YS (Xj r).2;rw[XW j,ya,XW (by omega),ya];generalize Xj (Xj r).2=q at e;obtain⟨s,h⟩:=q;dsimp only at e ⊢
 obtain⟨x,f,r',w,rfl,g,m⟩:=Yo (step:=ZW yD) 13 (λk t=>∃r' w,t=(s,(k:Int),r',((0:Int),([]:yL dz),(0:yU)),(Xj r).1,(0:yU),w)/\r'.1.length<=2000000/\w.length=k)
  (λx=>∃r' w,x=(r',((0:Int),([]:yL dz),(0:yU)),(Xj r).1,(0:yU),w)/\r'.1.length<=2000000/\w.length<=13) (i:=(s,(0:Int),h,((0:Int),([]:yL dz),(0:yU)),(Xj r).1,(0:yU),([]:yL dz))) ⟨h,[],rfl,by omega,rfl⟩ (by omega) (by
  rintro k _ z ⟨r',w,rfl,f,g⟩;unfold ZW Zq;dsimp only;by_cases c:(k:Int) < s
  .rw[yW (yY c),yW (yY (by omega)),ya];dsimp only
   cases A:r'.2 with
   |true=>right;rw[yX (by decide)];exact⟨_,rfl,_,_,rfl,f,by omega⟩
   |false=>
    left;have l:=jQ r';have e:=jQ (gF r').2;rw[yW (by decide),jS f,ya,jS (by omega),ya,yW (ZL (by omega) (by omega)),Zl (by omega)];exact⟨_,rfl,_,_,rfl,by omega,by simp[g]⟩
  .right;rw[yX (by rw[yN];exact c)];exact⟨_,rfl,_,_,rfl,f,by omega⟩) (by
  rintro _ ⟨r',w,rfl,f,g⟩;unfold ZW;dsimp only;rw[yX (c:=ag (((13:Nat):Int) < 13)=ae) (by decide),ite_self];exact⟨_,rfl,_,_,rfl,f,by omega⟩)
 have y:=jQ r';rw[f,ya];dsimp only;rw[jS g,ya];exact⟨_,_,rfl,by omega,m⟩
theorem ZGe{b:yL yB}{nt:Int}{T:Tx}{outs:yL Out}{v:yL Unit}{ins:yL In}{r:Zc}(E:ins.length<=65)(m:r.1.length<=2000000):
 ∃c r',Ze (Z6 yD) yD (b,(0:Int),T,r,nt,outs,v,ins)=ab (b,T,r',nt,outs,v,c)/\r'.1.length<=2000000/\c.map (λx=>x.1)=ins.map (λx=>x.1):=by
 obtain⟨x,g,c,r',rfl,f⟩:=Yo (step:=Z6 yD) ins.length (λk s=>∃c r',s=(b,(k:Int),T,r',nt,outs,v,c)/\r'.1.length<=2000000/\c.map (λx=>x.1)=ins.map (λx=>x.1))
  (λx=>∃c r',x=(b,T,r',nt,outs,v,c)/\r'.1.length<=2000000/\c.map (λx=>x.1)=ins.map (λx=>x.1)) (i:=(b,(0:Int),T,r,nt,outs,v,ins)) ⟨ins,r,rfl,m,rfl⟩ (by omega) (by
  rintro k _ F ⟨c,r',rfl,g,f⟩
  have t:c.length=ins.length:=by
   have:=congrArg ycf f
   rwa [yx,yx]at this
  unfold Z6 Zq;dsimp only;rw[yW (yY (by omega)),ya];dsimp only
  cases G:r'.2 with
  |true=>right;rw[yX (by decide)];exact⟨_,rfl,_,_,rfl,g,f⟩
  |false=>
   left;obtain⟨w,I,y,z,M⟩:=ZJr g;obtain⟨e,h,_⟩:=Zf (l:=c) (k:=k) (by omega);rw[yW (by decide),y,ya,yW (XI (by omega) (by omega)),yal,h,ya,Zl (by omega)];refine⟨_,rfl,_,_,rfl,z, ?_⟩;rw[<-f,List.map_set];apply List.ext_getElem?;intro j;rw[List.getElem?_set];split
   .rename_i A;subst A;rw[yW (by rw[yx];omega),List.getElem?_map,h];rfl
   .rfl) (by
  rintro _ ⟨c,r',rfl,g,f⟩
  have t:c.length=ins.length:=by
   have:=congrArg ycf f
   rwa [yx,yx]at this
  unfold Z6;dsimp only;rw[yX (cf (by omega))];exact⟨_,rfl,_,_,rfl,g,f⟩)
 exact⟨c,r',g,f⟩
theorem ZBx{b:yL yB}(hb:b.length<=2000000):∃t ok,Xr yD b=ab (t,ok)/\(ok=ae->fz t/\dA t=b)/\(ok=af->t=([],[],0)):=by
 unfold Xr;rw[wY hb,ya,XW hb,ya];have I:=YS (b,af);generalize Xj (b,af)=q at I;obtain⟨n,Z⟩:=q;dsimp only at I ⊢;obtain⟨v,e,M,h1,h2,h3,h4⟩:=ZJq (b:=b) (n:=n) (nt:=0) (T:=(([]:yL In),([]:yL Out),(0:Int))) (outs:=[]) (r:=Z) (by omega);rw[h1,ya];dsimp only;have j:=YS M;rw[XW h2,ya];generalize Xj M=q at j;obtain⟨m,r3⟩:=q;dsimp only at j ⊢;obtain⟨x,q1,s⟩:=ZGd (b:=b) (m:=m) (nt:=0) (T:=(([]:yL In),([]:yL Out),(0:Int))) (v:=v) (ins:=e) (r:=r3) (by omega);rw[q1,ya];rcases s with⟨y,rfl⟩|⟨outs,Q,rfl,s,q3,q4⟩
 .exact⟨_,_,rfl,(λh=>by cases h),λ_=>rfl⟩
 dsimp only;have g:=YS Q;rw[XW s,ya];generalize Xj Q=q at g;obtain⟨c,r5⟩:=q;dsimp only at g ⊢;obtain⟨f,S,p1,p2,U⟩:=ZGe (b:=b) (nt:=c) (T:=(([]:yL In),([]:yL Out),(0:Int))) (outs:=outs) (v:=v) (ins:=e) (r:=r5) (by omega) (by omega);rw[p1,ya];unfold Zq X1;dsimp only
 have hpl:f.length=e.length:=by
  have:=congrArg ycf U
  rwa [yx,yx]at this
 have z:∀o,o∈outs->cE o.2:=λo ho=>by
  obtain⟨g1,g2,g3⟩:=q4 o ho;exact⟨by omega,λb hb=>by have:=(g3 b hb).1;omega⟩
 obtain⟨k,A,W,l⟩:=xa (t:=(f,outs,c)) ⟨by dsimp only;omega,by dsimp only;omega,z⟩;rw[ya,ya,W,ya];dsimp only
 cases c3:S.2 with
 |true=>
  rw[yW (by decide)]
  exact⟨_,_,rfl,(λh=>by cases h),λ_=>rfl⟩
 |false=>
  rw[yX (by decide)];by_cases X:(S.1.length:Int) > 0
  .rw[yW (yY X)];exact⟨_,_,rfl,(λh=>by cases h),λ_=>rfl⟩
  rw[yX (by rw[yN];exact X)]
  cases k with
  |false=>
   rw[yW (by decide)]
   exact⟨_,_,rfl,(λh=>by cases h),λ_=>rfl⟩
  |true=>
   have Y:jN (f,outs,c):=⟨λx hx=>by
    have E:x.1∈e.map (λx=>x.1):=by
     rw[<-U];exact ybj.2 ⟨x,hx,rfl⟩
    obtain⟨y,hy,F⟩:=ybj.1 E;rw[<-F];exact h4 y hy,g.2.1⟩
   rw[yX (by decide),MD Y W (l rfl),ya];rw[sH];by_cases G:dA (f,outs,c)=b
   .rw[yY G,yX (by decide)];exact⟨_,_,rfl,(λ_=>⟨⟨A,l rfl,Y⟩,G⟩),λh=>by cases h⟩
   .rw[yZ G,yW (by decide)];exact⟨_,_,rfl,(λh=>by cases h),λ_=>rfl⟩
theorem ZGf{b:yL yB}{nt:Int}{T:Tx}{outs:yL Out}{ins:yL In}{yJ:yL yB}(m:ins.length<=64)(h:∀x,x∈ins->x.1.1.length=32)(hok:∀x,x∈ins->lR x)(A:yJ.length<=100000):
 Ze (Z4 yD) yD (b,(ins.length:Int),(0:Int),T,(aP dq ins++yJ,af),nt,outs,([]:yL Unit),([]:yL In))=ab (b,T,(yJ,af),nt,outs,yab ins.length (),ins.map ji):=by
 refine Zy ins.length (λk:Nat=>(b,(ins.length:Int),(k:Int),T,(aP dq (ins.drop k)++yJ,af),nt,outs,yab k (),(ins.take k).map ji)) ?_ ?_ (by omega)
 .intro k s;obtain⟨e,t,y⟩:=Zf s;have E:=ZS (f:=dq) (c:=41) (λx g=>pn (h x g) (hok x g)) m k;have j:=ZS (f:=dq) (c:=41) (λx g=>pn (h x g) (hok x g)) m (k+1);obtain⟨z,F,_⟩:=hok e y;have G:=Zt (n:=e.1.2.toNat) (by omega);have l:=h e y;unfold Z4 Zq;dsimp only;rw[yW (Zw s),yW (yY (by omega)),ya,yW (by rfl),ZwM (by simp only[yn];omega),ya,jg t];unfold dq at j ⊢;rw[yac,yac,ZBe l];dsimp only;rw[XW (by simp only[yn];omega),ya,Wl z (by omega),yW (ZL (by simp;omega) (by simp;omega)),Zl (by omega),XH t,yaq];rfl
 .unfold Z4;dsimp only;rw[yX (by rw[Zs];decide),ydc,yag];rfl
theorem ZDq{b:yL yB}{nt:Int}{T:Tx}{v:yL Unit}{ins:yL In}{outs:yL Out}{yJ:yL yB}(m:outs.length<=64)(hok:∀x,x∈outs->wR x)(G:yJ.length<=100000):
 Ze (Z5 yD) yD (b,(outs.length:Int),(0:Int),T,(aP dG outs++yJ,af),nt,([]:yL Out),v,ins)=ab (.inr (b,T,(yJ,af),nt,outs,v,ins)):=by
 refine Zy outs.length (λk:Nat=>(b,(outs.length:Int),(k:Int),T,(aP dG (outs.drop k)++yJ,af),nt,outs.take k,v,ins)) ?_ ?_ (by omega)
 .intro k s;obtain⟨e,t,z⟩:=Zf s;have I:=ZS (f:=dG) (c:=551) (λx g=>po (hok x g)) m k;have h:=ZS (f:=dG) (c:=551) (λx g=>po (hok x g)) m (k+1);obtain⟨A,M,j,y⟩:=hok e z;have E:=lS j;have Q:=Zt (n:=e.1.toNat) (by omega);have S:=Zt (n:=(V2 e.2).length) (by omega);unfold Z5 Zq;dsimp only;rw[yW (Zw s),yW (yY (by omega)),ya,yW (by rfl),XW (by simp only[yn];omega),ya,jg t];unfold dG at h ⊢;simp only[yac];rw[Wl A (by omega)];dsimp only;rw[Zup (by simp only[yn];omega),ya,ZwF (by omega)];dsimp only;have g:∃l,W4 l/\QF l/\V2 l=V2 e.2:=⟨e.2,j,y,rfl⟩
  have F:iF (V2 e.2)=(e.2,ae):=by
   have:=ZEK (b:=V2 e.2) (by omega);rw[LL j y]at this;exact(ybp this).symm
  rw[ZBl (by omega),ya,F];dsimp only;rw[yX (by decide),yW (ZL (by rw[yy];omega) (by rw[yy];omega)),Zl (by omega),XH t]
 .unfold Z5;dsimp only;rw[yX (by rw[Zs];decide),ydc,yag];rfl
theorem ZGg{x:In}{yJ:yL yB}(hok:lR x)(S:yJ.length<=100000):Xa yD (QS x++yJ,af)=ab (x.2,(yJ,af)):=by
 obtain⟨_,_,t,G,j⟩:=hok;have hs:=W5 (f:=dx) (c:=16) (λs _=>by unfold dx;rw[yn,ZO,ZO];exact ym _) j x.2.2.1.length;rw[yag]at hs;have I:=Zt (n:=x.2.1.toNat) (by omega);have M:=Zt (n:=x.2.2.1.length) (by omega);have Q:=ZO x.2.2.2.toNat
 obtain⟨T,y,l,g⟩:=x;unfold Xa QS;dsimp only at t G j hs I M Q ⊢;simp only[yac];rw[XW (by simp only[yn];omega),ya,Wl t (by omega)];dsimp only;have A:=Wl (z:=(l.length:Int)) (by omega) (by omega) (aP dx l++(QE g.toNat++yJ));rw[yal]at A;rw[XW (by simp only[yn];omega),ya,A];dsimp only
 have e:=Zy (step:=ZW yD) l.length (λk:Nat=>((l.length:Int),(k:Int),(aP dx (l.drop k)++(QE g.toNat++yJ),af),((0:Int),([]:yL dz),(0:yU)),y,(0:yU),l.take k)) (x:=((QE g.toNat++yJ,af),((0:Int),([]:yL dz),(0:yU)),y,(0:yU),l)) (by
  intro k E;obtain⟨e,F,U⟩:=Zf E;have h:∀x,x∈l->(dx x).length<=16:=λx _=>by unfold dx;rw[yn,ZO,ZO];exact ym _
  have W:=ZS (f:=dx) (c:=16) h j k;have m:=ZS (f:=dx) (c:=16) h j (k+1);have X:=ZO e.2.toNat
  unfold ZW Zq;dsimp only;rw[yW (Zw E),yW (yY (by omega)),ya,yW (by rfl),jS (by simp only[yn];omega),ya,jg F];unfold dx at m ⊢;rw[yac,yac,jR];dsimp only;rw[jS (by simp only[yn];omega),ya,jR,yW (ZL (by rw[yy];omega) (by rw[yy];omega)),Zl (by omega),XH F]) (by
  unfold ZW;dsimp only;rw[yX (by rw[Zs];decide),ydc,yag];rfl) (by omega)
 refine(congrArg (Option.bind · _) e).trans ?_;rw[ya,jS (by simp only[yn];omega),ya,jR]
theorem ZDr{b:yL yB}{nt:Int}{T:Tx}{outs:yL Out}{v:yL Unit}{ins:yL In}(l:ins.length<=64)(hok:∀x,x∈ins->lR x):
 Ze (Z6 yD) yD (b,(0:Int),T,(aP QS ins,af),nt,outs,v,ins.map ji)=ab (b,T,([],af),nt,outs,v,ins):=by
 refine Zy ins.length (λk:Nat=>(b,(k:Int),T,(aP QS (ins.drop k),af),nt,outs,v,ins.take k++(ins.drop k).map ji)) ?_ ?_ (by omega)
 .intro k j;obtain⟨e,g,m⟩:=Zf j;have s:=ZS (f:=QS) (c:=218) (λx t=>pp (hok x t)) l (k+1);have h:(ins.take k).length=k:=by rw[yy];omega
  have y:(ins.take k++(ins.drop k).map ji).length=ins.length:=by rw[yn,yx,ybf,h];omega
  have z:(ins.take k++(ins.drop k).map ji)[k]? =ab (ji e):=by
   rw[yan (by omega),h,Nat.sub_self,lT g];rfl
  unfold Z6 Zq;dsimp only;rw[y,yW (Zw j),ya,yW (by rfl)];dsimp only;rw[jg g,ZGg (hok e m) (by omega),ya,yW (XI (by omega) (by omega)),yal,z,ya,Zl (by omega)];dsimp only;rw[List.set_append_right _ _ (by omega),h,Nat.sub_self,lT g,List.map_cons,List.set_cons_zero,XH g,yac];rfl
 .unfold Z6;dsimp only;rw[ydc,yag,List.map_nil,ybb,yX (by rw[Zs];decide)];rfl
theorem ZJs{t:Tx}(W:fz t):Xr yD (dA t)=ab (t,ae):=by
 obtain⟨X,h,x⟩:=W;have F:=LX x h
 have y:∀o,o∈t.2.1->cE o.2:=λo Y=>by
  obtain⟨_,_,g,_⟩:=h.2.2.2.2.2 o Y;obtain⟨g1,g2,Z⟩:=g;exact⟨by omega,λb s=>by have:=(Z b s).1;omega⟩
 have j:ZF yD t=ab ae:=by
  obtain⟨k,l,hk,_⟩:=xa (t:=t) ⟨by have:=h.2.1;omega,by have:=h.2.2.1;omega,y⟩;rw[X]at l;cases l;exact hk
 have s:=MD x j h;obtain⟨c,outs,e⟩:=t;obtain⟨G,I⟩:=x;obtain⟨h1,A,M,Q,E,S⟩:=h;dsimp only at G I h1 A M Q E S;unfold Xr;rw[wY (by omega),ya,XW (by dsimp only;omega),ya];generalize hB:dA (c,outs,e)=bs at F s ⊢
 have m:bs=Yg c.length++(aP dq c++(Yg outs.length++(aP dG outs++(Yg e.toNat++aP QS c)))):=by
  rw[<-hB];unfold dA iD;simp only[yac]
 have f:=F;rw[m]at f;simp only[yn]at f;have T:=Wl (z:=(c.length:Int)) (by omega) (by omega) (aP dq c++(Yg outs.length++(aP dG outs++(Yg e.toNat++aP QS c))));rw[yal, <-m]at T;rw[T];dsimp only;rw[ZGf A G E (by simp only[yn];omega),ya];dsimp only;have U:=Wl (z:=(outs.length:Int)) (by omega) (by omega) (aP dG outs++(Yg e.toNat++aP QS c));rw[yal]at U;rw[XW (by simp only[yn];omega),ya,U];dsimp only;rw[ZDq M S (by simp only[yn];omega),ya];dsimp only;rw[XW (by simp only[yn];omega),ya,Wl Q I];dsimp only;rw[ZDr A E,ya];unfold Zq X1;dsimp only;rw[ya,yX (by decide),ya,yX (by decide),j,ya,yX (by decide),s,ya,sH,yY rfl,yX (by decide)]
theorem ZGh{b:yL yB}(hb:b.length<=2000000):Xr yD b=ab (py b):=by
 obtain⟨t,f,e,g,h⟩:=ZBx hb
 cases f with
 |true=>rw[e,xc (g rfl)]
 |false=>
  by_cases c:∃t,fz t/\dA t=b
  .obtain⟨u,j,l⟩:=c;have:=ZJs j;rw[l,e]at this;cases this
  .rw[e,h rfl,xf c]
theorem Zra{t:Tx}(hl:∀o,o∈t.2.1->cE o.2):∃b:Bool,WS yD t=ab b/\ZF yD t=ab b/\(b=ae->jO t):=by
 by_cases c:t.1.length<=64/\t.2.1.length<=64
 .exact xa ⟨by omega,by omega,hl⟩
 .refine⟨af, ?_, ?_,λh=>by cases h⟩
  .unfold WS;by_cases e:(t.1.length:Int) < 1
   .rw[yW (yY e)]
   by_cases f:(t.1.length:Int) > 64
   .rw[yW (c:=ag ((t.1.length:Int) > 64)=ae) (yY f),ite_self]
   rw[yX (by rw[yN];exact e),yX (by rw[yN];exact f),yW (yY (by omega))]
  .unfold ZF;by_cases e:(t.1.length:Int) < 1
   .rw[yW (yY e)]
   by_cases f:(t.1.length:Int) > 64
   .rw[yW (c:=ag ((t.1.length:Int) > 64)=ae) (yY f),ite_self]
   rw[yX (by rw[yN];exact e),yX (by rw[yN];exact f),yW (yY (by omega))]
theorem xj{a:yL yB}(ha:a.length<=60000):∀l,l∈[a]->l.length<=60000:=λl c=>by rw[yav.1 c];exact ha
noncomputable def nK(id:yL yB):yL yB:=(Sha.fL (gr rX [id])).take 16
noncomputable def gj(id:yL yB):yL yB:=Sha.fL (gr HV [id])
theorem ME(id:yL yB):(gj id).length=32:=Sha.oR _
theorem xk{id:yL yB}(h:id.length=32):V0 yD id=ab (nK id):=by
 unfold V0;rw[wT (by decide) (by simp) (xj (by omega)),ya,yW (by rw[yy,Sha.oR];decide),List.take_take];rfl
theorem MF{id:yL yB}(h:id.length=32):rY yD id=ab (gj id):=by
 unfold rY;rw[wT (by decide) (by simp) (xj (by omega)),ya];rfl
theorem ZBy{id:yL yB}(h:id.length=32):Qk yD id=ab (nK id):=by
 unfold Qk;rw[LF (by simp) h,ya,yw,sA (by decide) (by simp) (xj (by omega)),ya];unfold nK;have hs:(Sha.fL (gr rX [id])).length=32:=Sha.oR _;generalize Sha.fL (gr rX [id])=s at hs;have c:(s.take 16).length=16:=by rw[yy];omega
 have e:=Zy (step:=X5 yD) 16 (λk:Nat=>((k:Int),id,yab 16 (0:yB),s,gf (s.take 16) 16 k)) (x:=(id,yab 16 (0:yB),s,s.take 16)) (by
  intro k j;obtain⟨e,g,_⟩:=Zf (l:=s) (k:=k) (by omega);have f:(s.take 16)[k]? =ab e:=by rw[List.getElem?_take,yW j,g]
  unfold X5;dsimp only;rw[yW (yY (by omega)),yW (XI (by omega) (by omega)),yal,g,ya,yW (XI (by omega) (by omega)),wO (by omega) (by omega),ya,Zl (by omega),wP f (by omega)]) (by
  unfold X5;dsimp only;rw[yX (cf (by omega)),KW c]) (by omega)
 exact(congrArg (Option.bind · _) e).trans rfl
theorem MG{id:yL yB}(h:id.length=32):Vx yD id=ab (gj id):=by
 unfold Vx;rw[LF (by simp) h,ya,yw,sA (by decide) (by simp) (xj (by omega)),ya];rfl
theorem ZJt{a b:yL yB}(h:a.length<=1000000):Qo yD a b=ab (ag (a=b)):=by
 unfold Qo;by_cases g:a.length=b.length
 .rw[yX (by simp[g])]
  obtain⟨x,t,e⟩:=Yo (step:=X8 yD) a.length (λk s=>s=(a,b,(k:Int))/\a.take k=b.take k) (λx=>(x=.inl af/\a≠b)\/(x=.inr ()/\a=b)) (i:=(a,b,(0:Int))) ⟨rfl,by rw[List.take_zero,List.take_zero]⟩ (by omega) (by
   rintro k _ m ⟨rfl,e⟩;obtain⟨x,f,_⟩:=Zf (l:=a) (k:=k) m;obtain⟨y,j,_⟩:=Zf (l:=b) (k:=k) (by omega);unfold X8;dsimp only;rw[yW (Zw m),Zm f,ya,Zm j,ya];by_cases c:x=y
   .left;rw[yX (by simp[c]),Zl (by omega)];exact⟨_,rfl,rfl,by rw[XH f,XH j,e,c]⟩
   .right;rw[yW (by simp[c])];exact⟨_,rfl,.inl ⟨rfl,λq=>c (by rw[q,j]at f;exact(ybp f).symm)⟩⟩) (by
   rintro _ ⟨rfl,e⟩;unfold X8;dsimp only;rw[yX (by rw[Zs];decide)];rw[yag,g,yag]at e;exact⟨_,rfl,.inr ⟨rfl,e⟩⟩)
  rw[t,ya];rcases e with⟨rfl,e⟩|⟨rfl,e⟩
  .rw[yZ e]
  .rw[yY e]
 .rw[yW (by simp;omega),yZ λq=>g (by rw[q])]
theorem ZGi{w:Xl}(hl:w.2.1.length<=1000000):W8 yD w w=ab ae:=by
 unfold W8
 have q:=Zy (step:=YF yD) w.2.1.length (λk:Nat=>((k:Int),w,w)) (x:=.inr (w,w)) (by
  intro k c;obtain⟨e,f,_⟩:=Zf c;unfold YF;dsimp only;rw[yW (Zw c),Zm f,ya,ya,yX (by simp),Zl (by omega)]) (by
  unfold YF;dsimp only;rw[yX (by rw[Zs];decide)]) (by omega)
 have q:Ze (YF yD) yD ((0:Int),w,w)=_:=q;rw[yX (by simp),yX (by simp),yX (by simp),q,ya]
theorem ZDt{l:Z3}(hl:l.length<=1000000)(g:∀b,b∈l->b.1.length<=1000000):Qr yD l l=ab ae:=by
 unfold Qr
 have q:=Zy (step:=Xc yD) l.length (λk:Nat=>((k:Int),l,l)) (x:=.inr (l,l)) (by
  intro k c;obtain⟨e,h,m⟩:=Zf c;have t:=g e m
  have p:=Zy (step:=Xb yD) e.1.length (λj:Nat=>((k:Int),(j:Int),l,l,e,e)) (x:=.inr ((k:Int),l,l,e,e)) (by
   intro j f;obtain⟨d,s,_⟩:=Zf f;unfold Xb;dsimp only;rw[yW (Zw f),Zm s,ya,ya,yX (by simp),Zl (by omega)]) (by
   unfold Xb;dsimp only;rw[yX (by rw[Zs];decide)]) (by omega)
  have p:Ze (Xb yD) yD ((k:Int),(0:Int),l,l,e,e)=_:=p;unfold Xc;dsimp only;rw[yW (Zw c),Zm h,ya,ya,yX (by simp),yX (by simp),yX (by simp),yX (by simp),p,ya];dsimp only;rw[Zl (by omega)]) (by
  unfold Xc;dsimp only;rw[yX (by rw[Zs];decide)]) (by omega)
 have q:Ze (Xc yD) yD ((0:Int),l,l)=_:=q;rw[yX (by simp),q,ya]
theorem Zuq{t:Tx}(h1:t.1.length<=1000000)(h2:t.2.1.length<=1000000)(h3:∀x,x∈t.1->x.2.2.1.length<=1000000)(h4:∀o,o∈t.2.1->o.2.length<=1000000/\∀b,b∈o.2->b.1.length<=1000000):Wh yD t t=ab ae:=by
 unfold Wh
 have q:=Zy (step:=Xd yD) t.1.length (λk:Nat=>((k:Int),t,t)) (x:=.inr (t,t)) (by
  intro k c;obtain⟨e,f,g⟩:=Zf c;unfold Xd;dsimp only;rw[yW (Zw c),Zm f,ya,ya,yX (by simp),ya,ya,ZGi (h3 e g),ya,yX (by decide),Zl (by omega)]) (by
  unfold Xd;dsimp only;rw[yX (by rw[Zs];decide)]) (by omega)
 have q:Ze (Xd yD) yD ((0:Int),t,t)=_:=q
 have p:=Zy (step:=Xe yD) t.2.1.length (λk:Nat=>((k:Int),t,t)) (x:=.inr (t,t)) (by
  intro k c;obtain⟨e,f,g⟩:=Zf c;obtain⟨h,j⟩:=h4 e g;unfold Xe;dsimp only;rw[yW (Zw c),Zm f,ya,ya,yX (by simp),ya,ya,ZDt h j,ya,yX (by decide),Zl (by omega)]) (by
  unfold Xe;dsimp only;rw[yX (by rw[Zs];decide)]) (by omega)
 have p:Ze (Xe yD) yD ((0:Int),t,t)=_:=p;rw[yX (by simp),yX (by simp),yX (by simp),q,ya];dsimp only;rw[p,ya]
end Go.Proofs.YtghfiijgklnflaaGreat
end
section
set_option maxRecDepth 4000
namespace Go.Proofs.YtghfiijgklnflaaGreat
open Go Go.Ev
open Classical in
theorem MH{I X:Type}{step:I->yO (I⊕X)}(n:Nat)(st:Nat->I)(ok:Nat->Prop)(c f:X)
 (h1:∀k,k < n->ok k->step (st k)=ab (.inl (st (k+1)))) (h2:∀k,k < n->¬ok k->step (st k)=ab (.inr f)) (he:step (st n)=ab (.inr c)) (m:n < 18446744073709551616):
 Ze step yD (st 0)=ab (if fO n ok then c else f):=by
 obtain⟨x,e,rfl⟩:=Yo (step:=step) n (λk s=>s=st k/\∀j,j < k->ok j) (λx=>x=if fO n ok then c else f) (i:=st 0) ⟨rfl,λj h=>by omega⟩ m (by
  rintro k _ g ⟨rfl,l⟩;by_cases h:ok k
  .left;refine⟨_,h1 k g h,rfl,λj t=> ?_⟩;by_cases e:j=k
   .rw[e];exact h
   .exact l j (by omega)
  .right;exact⟨_,h2 k g h,by rw[yX λq=>h (q k g)]⟩) (by
  rintro _ ⟨rfl,l⟩;exact⟨_,he,by rw[yW (show fO n ok from l)]⟩)
 exact e
open Classical in
theorem ZBz(t:Tx){k:Nat}{o:Out}(ho:t.2.1[k]? =ab o)(hl:o.2.length<=6):Ze (YU yD) yD ((k:Int),(0:Int),t)=ab (if fO o.2.length (λj=>∀b,o.2[j]? =ab b->b.1.length<=14) then .inr ((k:Int),t) else .inl (af,t)):=by
 refine MH o.2.length (λj:Nat=>((k:Int),(j:Int),t)) _ _ _ (λj c h=> ?_) (λj c h=> ?_) ?_ (by omega)
 .obtain⟨b,e,g⟩:=Zf c;have:=h b e;unfold YU;dsimp only;rw[Zm ho,ya,yW (Zw c),ya,Zm e,ya,yX (cf (by omega)),Zl (by omega)]
 .obtain⟨b,e,g⟩:=Zf c
  have l:¬b.1.length<=14:=λq=>h λm f=>by
   rw[e]at f;cases f;exact q
  unfold YU;dsimp only;rw[Zm ho,ya,yW (Zw c),ya,Zm e,ya,yW (yY (by omega))]
 .unfold YU;dsimp only;rw[Zm ho,ya,yX (by rw[Zs];decide)]
theorem ZGj(t:Tx):∃x,Ze (Yw yD) yD ((0:Int),t)=ab x/\(x=.inr t\/x=.inl (af,t))\/66 < t.1.length:=by
 classical
 by_cases l:t.1.length<=66
 .have g:=MH (step:=Yw yD) t.1.length (λk:Nat=>((k:Int),t)) (λk=>∀x,t.1[k]? =ab x->x.2.2.1.length<=14) (.inr t) (.inl (af,t)) (λk c h=>by
   obtain⟨x,e,j⟩:=Zf c;have hs:=h x e;unfold Yw;dsimp only;rw[yW (Zw c),Zm e,ya,yX (cf (by omega)),Zl (by omega)]) (λk c h=>by
   obtain⟨x,e,j⟩:=Zf c
   have m:¬x.2.2.1.length<=14:=λq=>h λs f=>by
    rw[e]at f;cases f;exact q
   unfold Yw;dsimp only;rw[yW (Zw c),Zm e,ya,yW (yY (by omega))]) (by
   unfold Yw;dsimp only;rw[yX (by rw[Zs];decide)]) (by omega)
  refine⟨_,.inl ⟨g, ?_⟩⟩;split
  .exact .inl rfl
  .exact .inr rfl
 .exact⟨.inr t,.inr (by omega)⟩
def MI(o:Out):Prop:=o.2.length<=6/\fO o.2.length (λj=>∀b,o.2[j]? =ab b->b.1.length<=14)
theorem ZGk(t:Tx):∃b,VK yD t=ab b/\(b=ae->∀o,o∈t.2.1->cE o.2):=by
 classical
 unfold VK;by_cases g:(t.1.length:Int) > 66
 .rw[yW (yY g)];exact⟨_,rfl,λh=>by cases h⟩
 rw[yX (by rw[yN];exact g)];by_cases l:(t.2.1.length:Int) > 66
 .rw[yW (yY l)];exact⟨_,rfl,λh=>by cases h⟩
 rw[yX (by rw[yN];exact l)];obtain⟨x,⟨m,rfl|rfl⟩|s⟩:=ZGj t
 .rw[m,ya];dsimp only
  have f:=MH (step:=Yx yD) t.2.1.length (λk:Nat=>((k:Int),t)) (λk=>∀o,t.2.1[k]? =ab o->MI o) (.inr t) (.inl (af,t)) (λk e h=>by
   obtain⟨o,c,E⟩:=Zf e;have hs:=h o c;unfold Yx;dsimp only;rw[yW (Zw e),Zm c,ya,yX (by rw[yN];have:=hs.1;omega),ZBz t c hs.1,ya,yW hs.2];dsimp only;rw[Zl (by omega)]) (λk e h=>by
   obtain⟨o,c,E⟩:=Zf e
   have F:¬MI o:=λq=>h λQ y=>by
    rw[c]at y;cases y;exact q
   unfold Yx;dsimp only;rw[yW (Zw e),Zm c,ya];by_cases z:o.2.length<=6
   .rw[yX (cf (by omega)),ZBz t c z,ya,yX λq=>F ⟨z,q⟩]
   .rw[yW (yY (by omega))]) (by
   unfold Yx;dsimp only;rw[yX (by rw[Zs];decide)]) (by omega)
  have f:Ze (Yx yD) yD ((0:Int),t)=_:=f;rw[f,ya];by_cases h:fO t.2.1.length (λk=>∀o,t.2.1[k]? =ab o->MI o)
  .rw[yW h];refine⟨ae,rfl,λ_ o c=> ?_⟩;obtain⟨k,e,G⟩:=List.mem_iff_getElem.1 c;obtain⟨s1,I⟩:=h k e o (by rw[yae e,G]);refine⟨by omega,λb s=> ?_⟩;obtain⟨j,A,M⟩:=List.mem_iff_getElem.1 s;have:=I j A b (by rw[yae A,M]);omega
  .rw[yX h];exact⟨af,rfl,λq=>by cases q⟩
 .rw[m,ya];exact⟨af,rfl,λq=>by cases q⟩
 .omega
theorem ZGl{l:yL dz}(h:l.length<=1000000):wE yD l l=ab ae:=by
 unfold wE
 have q:=Zy (step:=pd yD) l.length (λk:Nat=>(l,l,(l.length:Int),(k:Int))) (x:=.inr ()) (by
  intro k c;obtain⟨e,f,_⟩:=Zf c;unfold pd;dsimp only;rw[yW (Zw c),Zm f,ya,ya,yX (by simp),Zl (by omega)]) (by
  unfold pd;dsimp only;rw[yX (by rw[Zs];decide)]) (by omega)
 have q:Ze (pd yD) yD (l,l,(l.length:Int),(0:Int))=_:=q;rw[yX (by simp),q,ya]
theorem ZGm{l:yL yU}(h:l.length<=1000000):wG yD l l=ab ae:=by
 unfold wG
 have q:=Zy (step:=WT yD) l.length (λk:Nat=>(l,l,(l.length:Int),(k:Int))) (x:=.inr ()) (by
  intro k c;obtain⟨e,f,_⟩:=Zf c;unfold WT;dsimp only;rw[yW (Zw c),Zm f,ya,ya,yX (by simp),Zl (by omega)]) (by
  unfold WT;dsimp only;rw[yX (by rw[Zs];decide)]) (by omega)
 have q:Ze (WT yD) yD (l,l,(l.length:Int),(0:Int))=_:=q;rw[yX (by simp),q,ya]
theorem ZLb{x:In}(h:x.2.2.1.length<=1000000):wF yD x x=ab ae:=by
 unfold wF;rw[yW (yY rfl),yW (beq_self_eq_true _),yW (beq_self_eq_true _),ZGl h,ya]
theorem ZLc{x:Zz}(h:x.1.length<=1000000):wH yD x x=ab ae:=by
 unfold wH;rw[yW (beq_self_eq_true _),yW (beq_self_eq_true _),yW (beq_self_eq_true _),ZGm h,ya]
theorem ZJv{l:yL Zz}(h:l.length<=1000000)(f:∀x,x∈l->x.1.length<=1000000):wJ yD l l=ab ae:=by
 unfold wJ
 have q:=Zy (step:=VV yD) l.length (λk:Nat=>(l,l,(l.length:Int),(k:Int))) (x:=.inr ()) (by
  intro k c;obtain⟨e,g,j⟩:=Zf c;unfold VV;dsimp only;rw[yW (Zw c),Zm g,ya,ya,ZLc (f e j),ya,yX (by simp),Zl (by omega)]) (by
  unfold VV;dsimp only;rw[yX (by rw[Zs];decide)]) (by omega)
 have q:Ze (VV yD) yD (l,l,(l.length:Int),(0:Int))=_:=q;rw[yX (by simp),q,ya]
theorem ZJw{x:Out}(h:x.2.length<=1000000)(c:∀b,b∈x.2->b.1.length<=1000000):wK yD x x=ab ae:=by
 unfold wK;rw[yW (beq_self_eq_true _),ZJv h c,ya]
theorem ZJx{l:yL In}(h:l.length<=1000000)(f:∀x,x∈l->x.2.2.1.length<=1000000):wI yD l l=ab ae:=by
 unfold wI
 have q:=Zy (step:=pf yD) l.length (λk:Nat=>(l,l,(l.length:Int),(k:Int))) (x:=.inr ()) (by
  intro k c;obtain⟨e,g,j⟩:=Zf c;unfold pf;dsimp only;rw[yW (Zw c),Zm g,ya,ya,ZLb (f e j),ya,yX (by simp),Zl (by omega)]) (by
  unfold pf;dsimp only;rw[yX (by rw[Zs];decide)]) (by omega)
 have q:Ze (pf yD) yD (l,l,(l.length:Int),(0:Int))=_:=q;rw[yX (by simp),q,ya]
theorem ZGn{l:yL Out}(h:l.length<=1000000)(f:∀x,x∈l->x.2.length<=1000000/\∀b,b∈x.2->b.1.length<=1000000):wL yD l l=ab ae:=by
 unfold wL
 have q:=Zy (step:=pg yD) l.length (λk:Nat=>(l,l,(l.length:Int),(k:Int))) (x:=.inr ()) (by
  intro k c;obtain⟨e,j,g⟩:=Zf c;unfold pg;dsimp only;rw[yW (Zw c),Zm j,ya,ya,ZJw (f e g).1 (f e g).2,ya,yX (by simp),Zl (by omega)]) (by
  unfold pg;dsimp only;rw[yX (by rw[Zs];decide)]) (by omega)
 have q:Ze (pg yD) yD (l,l,(l.length:Int),(0:Int))=_:=q;rw[yX (by simp),q,ya]
theorem ZLd{t:Tx}(h1:t.1.length<=1000000)(h2:t.2.1.length<=1000000)(h3:∀x,x∈t.1->x.2.2.1.length<=1000000)(h4:∀o,o∈t.2.1->o.2.length<=1000000/\∀b,b∈o.2->b.1.length<=1000000):nH yD t t=ab ae:=by
 unfold nH;rw[yW (beq_self_eq_true _),ZJx h1 h3,ya,yW rfl,ZGn h2 h4,ya]
theorem ZJy{key b:yL yB}(e:key.length<=50000)(hb:b.length<=60000):∃v,vW yD key b=ab (v,QT (eW key b.length) b):=by
 obtain⟨v,f⟩:=ZwK e (n:=b.length) (by omega);have c:=jU key b.length;generalize hs:eW key b.length=s at f c ⊢;refine⟨v, ?_⟩;unfold vW;rw[f,ya];dsimp only
 rw[show(b,(b.length:Int),(0:Int),key,([]:yL Unit),([]:yL yB),v,s)=(λk:Nat=>(b,(b.length:Int),(k:Int),key,([]:yL Unit),([]:yL yB),v,ig s b k)) 0 from rfl,
  Zy (x:=(key,([]:yL Unit),([]:yL yB),v,QT s b)) b.length (λk:Nat=>(b,(b.length:Int),(k:Int),key,([]:yL Unit),([]:yL yB),v,ig s b k)) ?_ ?_ (by omega),ya]
 .intro k e;obtain⟨y,g,_⟩:=Zf e;obtain⟨x,h,_⟩:=Zf (l:=s) (k:=k) (by omega);unfold vV;dsimp only;rw[yW (Zw e),yW (XI (by omega) (by rw[xg c];omega)),yal,ZBu c h,ya,Zm g,ya,ya,Zl (by omega),ZBv c h g,yW (XI (by omega) (by rw[xg c];omega))]
 .unfold vV;dsimp only;rw[yX (by rw[Zs];decide)];unfold ig;rw[ybs (by rw[VA c];exact ym _),List.drop_of_length_le (by omega),ybb]
theorem ZEQ{key b:yL yB}(c:key.length<=50000)(hb:b.length<=60000):vX yD key b=ab (fA key b):=by
 obtain⟨v,e⟩:=ZJy c (b:=b) (by omega);have f:=VA (jU key b.length);have g:=sN key (QT (eW key b.length) b);unfold vX;rw[yX (cf (by omega)),e,ya];dsimp only;rw[Zuo c (by omega),ya,yW (ZL (by omega) (by omega))];rfl
theorem xl(key b:yL yB):(fA key b).length=b.length+8:=by
 have c:=VA (jU key b.length);have e:=sN key (QT (eW key b.length) b);unfold fA;rw[yn];omega
theorem ZwN{key plain:yL yB}(e:key.length<=50000)(hp:plain.length<=60000):Xp yD key plain=ab (fA key plain):=by
 unfold Xp fA;have c:=jU key plain.length;have g:=VA c;rw[yX (cf (by omega)),MC e (by omega),ya,ZwL c.symm (by omega),ya,xi plain,sA (by decide) (by simp) (sM (by omega) (by omega)),ya];have f:=sN key (QT (eW key plain.length) plain);unfold jj at f ⊢;rw[yW (ZL (by omega) (by omega))]
theorem ZJz{t:Tx}(M:jN t)(Q:WS yD t=ab ae)(h:jO t):sk yD t=ab (dA t):=by
 obtain⟨S,T⟩:=LC M h;unfold sk;rw[Q,ya,yX (by decide),S,ya];unfold dA;generalize iD t=m at T;obtain⟨g,outs,l⟩:=t;obtain⟨h1,y,h3,h4,s,h6⟩:=h;dsimp only at y s ⊢;have U:=λk=>W5 (f:=QS) (c:=218) (λx W=>pp (s x W)) y k
 rw[show(m,g,(g.length:Int),(0:Int),(g,outs,l))=(λk:Nat=>(m++aP QS (g.take k),g,(g.length:Int),(k:Int),(g,outs,l))) 0 by simp[aP],
  Zy (x:=(m++aP QS g,(g,outs,l))) g.length (λk:Nat=>(m++aP QS (g.take k),g,(g.length:Int),(k:Int),(g,outs,l))) ?_ ?_ (by omega),ya]
 .intro k z;obtain⟨e,A,X⟩:=Zf z;have Y:=U k;obtain⟨_,_,Z,k2,E⟩:=s e X;have r1:=Zt (n:=e.2.1.toNat) (by omega);have r2:=Zt (n:=e.2.2.1.length) (by omega);unfold wA;dsimp only;rw[yW (Zw z),Zm A,ya,jf Z (by omega) (by rw[yn];omega),ya,jf (by omega) (by omega) (by simp only[yn];omega),ya,yal];generalize F:m++aP QS (g.take k)++Yg e.2.1.toNat++Yg e.2.2.1.length=q;have hql:q.length<=60000:=by rw[<-F];simp only[yn];omega
  rw[show(q,g,(g.length:Int),(k:Int),e.2.2.1,(e.2.2.1.length:Int),(0:Int),(g,outs,l),e)=(λj:Nat=>(q++aP dx (e.2.2.1.take j),g,(g.length:Int),(k:Int),e.2.2.1,(e.2.2.1.length:Int),(j:Int),(g,outs,l),e)) 0 by simp[aP],
   Zy (x:=(q++aP dx e.2.2.1,g,(g.length:Int),(k:Int),(g,outs,l),e)) e.2.2.1.length (λj:Nat=>(q++aP dx (e.2.2.1.take j),g,(g.length:Int),(k:Int),e.2.2.1,(e.2.2.1.length:Int),(j:Int),(g,outs,l),e)) ?_ ?_ (by omega),ya]
  .have hs:=sx E e.2.2.1.length;rw[yag]at hs;dsimp only;rw[sr _ (by rw[yn];omega),ya,Zl (by omega),Vz A, <-F];unfold QS;simp only[yac]
  .intro j G;obtain⟨f,I,_⟩:=Zf G;have hs:=sx E j;have hu:=ZO f.1.toNat
   unfold wz;dsimp only;rw[yW (Zw G),Zm I,ya,sr _ (by rw[yn];omega),ya,sr _ (by simp only[yn];omega),ya,Zl (by omega),Vz I];unfold dx;simp only[yac]
  .unfold wz;dsimp only;rw[yX (by rw[Zs];decide),yag]
 .unfold wA;dsimp only;rw[yX (by rw[Zs];decide),yag]
end Go.Proofs.YtghfiijgklnflaaGreat
end
