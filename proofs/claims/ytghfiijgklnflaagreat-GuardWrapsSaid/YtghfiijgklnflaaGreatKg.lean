/- Parts of the proof, in one file. -/
import Derived.Test.YtghfiijgklnflaaGreatKf
open Option renaming some → ab, none → ad
open Bool renaming true → ae, false → af
open Decidable renaming decide → ag
open Bool renaming eq_iff_iff → ycq
open Go.Proofs.Tryz renaming prog → yc
open Int renaming toNat_natCast → yal
open List renaming length_append → yn, length_map → yx, replicate → yab, append_assoc → yac, getElem?_map → yah, getElem?_eq_none → yat, length_replicate → ycp, getElem?_set_self → ycw, getD_eq_getElem?_getD → ydg
open Nat renaming add → yv, mod_eq_of_lt → yas, mul_comm → ybu, add_zero → ycl, eq_zero_or_pos → ycu, lt_of_le_of_lt → ydd, two_pow_add_eq_or_of_lt → ydf
open Option renaming bind_some → ya
open UInt32 renaming toNat → yar, ofNat → yby, toNat_ofNat' → yct
open UInt64 renaming ofNat → yai, toNat_ofNat' → yaz, toNat_lt → ybx, lt_iff_toNat_lt → ych, le_iff_toNat_le → ycy, toNat_inj → ycz
open UInt8 renaming toNat → yao, ofNat → yaw
set_option linter.unusedVariables false
set_option linter.unusedSimpArgs false
section
set_option maxRecDepth 4000
namespace Go.Proofs.YtghfiijgklnflaaGreat
open Go Go.Ev
noncomputable section
def ZoJ(F:Nat):Fs yc:=⟨103,[.nil .u8,.v yI],[],[yI],(GZ F).xs,λx=>(GZ F).M (x,([]:yL yB))⟩
def Zim:Fs yc:=ZoJ yD
theorem ZoK:Zim.Ok:=ZMA (i1:=[yI]) (i2:=[yI,aGP]) (λx=>(x,([]:yL yB))) HB (λ_=>rfl) (λ_=>⟨_,rfl⟩)
abbrev _root_.aHh:=yL aGO
def oS(F:Nat):(aHh×Int×Int×aGO×aGO)->yO ((aHh×Int×Int×aGO×aGO)⊕(aGO×aGO))
 |(c,b,a,e,d)=>
 if(ag (a < b))=ae then
  (idx c a).bind λf=>
  (VF F (f.length:Int) d).bind λg=>
  if(bU g.length f.length 1)=ae then
   ab (.inl (c,b,wi (a+1),e,g++f))
  else
  ad
 else
 ab (.inr (e,d))
abbrev _root_.aHg:Go.Ev.Ty:=.sl aGP
def ZqM:Lp:=⟨[(4,.am 0 []),(5,.own 1 .u8),(13,.v aHg),(14,.v yI),(15,.v yI)],zJ,[aHg,yI,yI,aGQ,aGP],[⟨.exit 0,[(4,.am 0 []),(5,.own 1 .u8)],zJ,[aGQ,aGP]⟩],Ze (oS yD) yD⟩
def vP:HI:={ own:=[5,10,12,19,22,24],still:=[9,19,21,26]}
theorem ZtD:ZqM.bq yc 61 0:=Zx vP [] [HA] ⟨HB,aw⟩
def lO(F:Nat)(a0:ByteArray)(a1:aHh):yO (aGO):=
 (VF F (a0.size:Int) []).bind λa=>
 if(bU a.length ((fD a0).length) 1)=ae then
  (Ze (oS F) F (a1,(a1.length:Int),0,gk,a++(fD a0))).bind λb=>
  (rW F b.2).bind λc=>
  ab c
 else
 ad
def HT(F:Nat):Fs yc:=⟨61,[.v .str,.v aHg],[],[.str,aHg],(zP aGQ),λx=>lO F x.1 x.2⟩
def oT:Fs yc:=HT yD
theorem oU:oT.Ok:=aX vP [(0,ZqM)] [Zim,ZtC] ⟨ZoK,ZqL,aw⟩ ⟨ZtD,aw⟩
def rX:ByteArray:=⟨#[104,105,110,116]⟩
def V0(F:Nat)(a0:aGO):yO (aGO):=
 (lO F rX [a0]).bind λa=>
 if(ag (16<=(a.take 16).length))=ae then
  ab ((a.take 16).take 16)
 else
 ad
abbrev _root_.aHe:Go.Ev.Ty:=.arr 16 .u8
def HU(F:Nat):Fs yc:=⟨12,[.v aGQ],[],[aGQ],(zP aHe),λx=>V0 F x⟩
def vQ:Fs yc:=HU yD
theorem vR:vQ.Ok:=aX { still:=[5],bS:=[4,7]} [] [oT] ⟨oU,aw⟩
abbrev ZY:Ty:=(.st [aHe,aGP])
abbrev Vb:Type:=(aGO×aGO)
def ZoL:Fs yc:=⟨64,[.rw 0,.v yI,.v yI],[.row ZY ae 36],[yI,yI,aGS,(.sl ZY)],[⟨.ret,[(0,.rw 0)],[.row ZY ae 36],[aGS,(.sl ZY)]⟩],λx=>vy (t:=ZY) x.1 x.2.1 x.2.2.1 x.2.2.2⟩
def ZmZ(F:Nat):Fs yc:=ZoL
theorem ZuT:ZoL.Ok:=ZML (z:=.agg [.arr 16 1 (yab 16 (.int .u8 0)),.sl ad 1 []]) (λi N c=>by kernel_rfl)
def HV:ByteArray:=⟨#[116,111,119,101,114]⟩
def rY(F:Nat)(a0:aGO):yO (aGO):=
 (lO F HV [a0]).bind λa=>
 ab a
def HW(F:Nat):Fs yc:=⟨14,[.v aGQ],[],[aGQ],(zP aGQ),λx=>rY F x⟩
def HX:Fs yc:=HW yD
theorem HY:HX.Ok:=aX { still:=[4],bS:=[3]} [] [oT] ⟨oU,aw⟩
def HZ(F:Nat)(a0:aGO):yO ((yU×aGO)):=
 ab (0,a0)
def Zyp(F:Nat):Fs yc:=⟨195,[.v aGQ],[],[aGQ],[⟨.ret,[(0,.fn 201 [.am 0 [],.am 1 []])],[.var (.v .u64) ae,.var (.v aGQ) ae],[.u64,aGQ]⟩],λx=>HZ F x⟩
def ZqN:Fs yc:=Zyp yD
theorem Zyq:ZqN.Ok:=aX { still:=[2]} [] [] trivial
def rZ:ByteArray:=⟨#[115,116,114,101,97,109]⟩
def Qc(F:Nat):(Int×yU×aGO×aGO×aGO)->yO ((Int×yU×aGO×aGO×aGO)⊕(yU×aGO×aGO×aGO))
 |(a,b,d,e,c)=>
 if(ag (a < 8))=ae then
  if(ag (0<=wi (56 - (wi (8*a)))))=ae then
   let f:yU:=ZI b (min (wi (56 - (wi (8*a)))).toNat 64)
   if(bK a 8)=ae then
    (c[a.toNat]?).bind λg=>
    ab (.inl (wi (a+1),b,d,e,c.set a.toNat (w8 (f.toNat:Int))))
   else
   ad
  else
  ad
 else
 ab (.inr (b,d,e,c))
abbrev _root_.aHf:Go.Ev.Ty:=.arr 8 .u8
abbrev zF:List bh:=[.var (.v .u64) ae,.var (.v aGQ) af,.var (.v aGQ) ae,.var (.v aHf) ae]
def Zhj:Lp:=⟨[(0,.am 0 []),(1,.am 1 []),(2,.am 2 []),(3,.am 3 []),(5,.v yI)],zF,[yI,.u64,aGQ,aGQ,aHf],[⟨.exit 0,[(0,.am 0 []),(1,.am 1 []),(2,.am 2 []),(3,.am 3 [])],zF,[.u64,aGQ,aGQ,aHf]⟩],Ze (Qc yD) yD⟩
theorem Zk8:Zhj.bq yc 201 0:=Zx { still:=[21],bS:=[19,20]} [] [] trivial
def vS(F:Nat)(s0:yU)(s1:aGO):yO ((aGO×yU×aGO)):=
 (Ze (Qc F) F (0,s0,s1,gk,[0,0,0,0,0,0,0,0])).bind λa=>
 (lO F rZ [a.2.1,a.2.2.2]).bind λb=>
 ab (b,a.1+1,a.2.1)
def ZoM(F:Nat):Fs yc:=⟨201,[.am 0 [],.am 1 []],[.var (.v .u64) ae,.var (.v aGQ) af],[.u64,aGQ],[⟨.ret,[(0,.v aGQ)],[.var (.v .u64) ae,.var (.v aGQ) af],[aGQ,.u64,aGQ]⟩],λx=>vS F x.1 x.2⟩
def Zin:Fs yc:=ZoM yD
theorem ZoN:Zin.Ok:=aX { still:=[21],bS:=[19,20]} [(0,Zhj)] [oT] ⟨oU,aw⟩ ⟨Zk8,aw⟩
abbrev IA:Type:=(Int×aGO×aGV×aGO×aGV×aGO×yU×aGO)
def WY(F:Nat):IA->yO (IA⊕IA)
 |(b,e,f,g,h,a,c,d)=>
 if(ag ((a.length:Int) < b))=ae then
  (vS F c d).bind λi=>
  if(bU a.length i.1.length 1)=ae then
   ab (.inl (b,e,f,g,()::h,a++i.1,i.2.1,i.2.2))
  else
  ad
 else
 ab (.inr (b,e,f,g,h,a,c,d))
abbrev tL0:yL Ty:=[yI,aGQ,aGS,aGP,aGS,aGP,.u64,aGQ]
abbrev zT:List bh:=[.var (.v aGQ) ae,.row .u8 ae 5,.row .u8 ae 5,.var (.v .u64) ae,.var (.v aGQ) af]
def Zhk:Lp:=⟨[(1,.v yI),(5,.rw 2),(6,.fn 201 [.am 3 [],.am 4 []])],zT,tL0,[⟨.exit 0,[(1,.v yI),(5,.rw 2)],zT,tL0⟩],Ze (WY yD) yD⟩
def hi4:HI:={ own:=[5,16,25,27],still:=[17],bj:=[4,5,16,25,27,28,30],bS:=[26]}
theorem Zk9:Zhk.bq yc 175 0:=Zx hi4 [] [Zin] ⟨ZoN,aw⟩
def Qw(F:Nat)(a0:aGO)(a1:Int):yO ((aGV×aGO)):=
 if(ag (a1 < 0))=ae then
  ab ([],[])
 else
 if(ag (a1 > 65536))=ae then
  ab ([],[])
 else
 if(ae&&(hT (wi (a1+32)) 1))=ae then
  (HZ F a0).bind λd=>
  (Ze (WY F) F (a1,a0,[],[],[],[],d.1,d.2)).bind λ(a,_,_,_,c,b,_,_)=>
  if(ag (0<=a)&&ag (a.toNat<=b.length))=ae then
   ab (c,b.take a.toNat)
  else
  ad
 else
 ad
def ZoO(F:Nat):Fs yc:=⟨175,[.v aGQ,.v yI],[],[aGQ,yI],[⟨.ret,[(0,.rw 0)],[.row .u8 ae 5],[aGS,aGP]⟩],λx=>Qw F x.1 x.2⟩
def IB:Fs yc:=ZoO yD
theorem Zhl:IB.Ok:=aX hi4 [(0,Zhk)] [ZqN] ⟨Zyq,aw⟩ ⟨Zk9,aw⟩
def vT(F:Nat):(aGO×Int×Int×aGO×aGV×aGO)->yO ((aGO×Int×Int×aGO×aGV×aGO)⊕(aGO×aGV×aGO))
 |(d,b,a,e,f,c)=>
 if(ag (a < b))=ae then
  if(bK a c.length)=ae then
   (c[a.toNat]?).bind λg=>
   (idx d a).bind λh=>
   if(bK a c.length)=ae then
    (c[a.toNat]?).bind λi=>
    ab (.inl (d,b,wi (a+1),e,f,c.set a.toNat (g^^^h)))
   else
   ad
  else
  ad
 else
 ab (.inr (e,f,c))
def ZoP:Lp:=⟨[(1,.v aGP),(5,.rw 1),(12,.v yI),(13,.v yI)],[.var (.v aGQ) ae,.row .u8 ae 5],[aGP,yI,yI,aGQ,aGS,aGP],[⟨.exit 0,[(5,.rw 1)],[.var (.v aGQ) ae,.row .u8 ae 5],[aGQ,aGS,aGP]⟩],Ze (vT yD) yD⟩
def hi5:HI:={ still:=[4,7,9],bj:=[5,10,16]}
theorem Zrm:ZoP.bq yc 133 0:=Zx hi5 [] [] trivial
def vU(F:Nat)(a0:aGO)(a1:aGO):yO (aGO):=
 (Qw F a0 (a1.length:Int)).bind λa=>
 (Ze (vT F) F (a1,(a1.length:Int),0,a0,a.1,a.2)).bind λb=>
 ab b.2.2
def Zyr(F:Nat):Fs yc:=⟨133,[.v aGQ,.v aGP],[],[aGQ,aGP],(zP aGP),λx=>vU F x.1 x.2⟩
def ZqO:Fs yc:=Zyr yD
theorem Zys:ZqO.Ok:=aX hi5 [(0,ZoP)] [IB] ⟨Zhl,aw⟩ ⟨Zrm,aw⟩
def IC:ByteArray:=⟨#[115,101,97,108]⟩
def sa(F:Nat)(a0:aGO)(a1:aGO):yO (aGO):=
 (lO F IC [a0,a1]).bind λa=>
 if(ag (8<=(a.take 8).length))=ae then
  ab ((a.take 8).take 8)
 else
 ad
def ZAU(F:Nat):Fs yc:=⟨134,[.v aGQ,.v aGP],[],[aGQ,aGP],(zP aHf),λx=>sa F x.1 x.2⟩
def ID:Fs yc:=ZAU yD
theorem ZqP:ID.Ok:=aX { still:=[8],bS:=[6,10]} [] [oT] ⟨oU,aw⟩
def vV(F:Nat):(aGO×Int×Int×aGO×aGV×aGO×aGV×aGO)->yO ((aGO×Int×Int×aGO×aGV×aGO×aGV×aGO)⊕(aGO×aGV×aGO×aGV×aGO))
 |(d,b,a,e,f,g,h,c)=>
 if(ag (a < b))=ae then
  if(bK a c.length)=ae then
   (c[a.toNat]?).bind λi=>
   (idx d a).bind λj=>
   if(bK a c.length)=ae then
    (c[a.toNat]?).bind λk=>
    let l:aGO:=c.set a.toNat (i^^^j)
    ab (.inl (d,b,wi (a+1),e,f,g,h,l))
   else
   ad
  else
  ad
 else
 ab (.inr (e,f,g,h,c))
abbrev tL1:yL Ty:=[aGP,yI,yI,aGQ,aGS,aGP,aGS,aGP]
def ZjX:Lp:=⟨[(1,.v aGP),(5,.rw 2),(12,.v yI),(13,.v yI)],[.var (.v aGQ) ae,.row .u8 ae 5,.row .u8 ae 5],tL1,[⟨.exit 0,[(5,.rw 2)],[.var (.v aGQ) ae,.row .u8 ae 5,.row .u8 ae 5],[aGQ,aGS,aGP,aGS,aGP]⟩],Ze (vV yD) yD⟩
def hi6:HI:={ still:=[7,9],bj:=[4,5,10,16,27]}
theorem ZnD:ZjX.bq yc 133 0:=Zx hi6 [] [] trivial
def vW(F:Nat)(a0:aGO)(a1:aGO):yO ((aGV×aGO)):=
 (Qw F a0 (a1.length:Int)).bind λc=>
 (Ze (vV F) F (a1,(a1.length:Int),0,a0,[],[],c.1,c.2)).bind λ(_,_,_,a,b)=>
 ab (a,b)
def Zrn(F:Nat):Fs yc:=⟨133,[.v aGQ,.v aGP],[],[aGQ,aGP],[⟨.ret,[(0,.rw 0)],[.row .u8 ae 5],[aGS,aGP]⟩],λx=>vW F x.1 x.2⟩
def Zla:Fs yc:=Zrn yD
theorem Zro:Zla.Ok:=aX hi6 [(0,ZjX)] [IB] ⟨Zhl,aw⟩ ⟨ZnD,aw⟩
def vX(F:Nat)(a0:aGO)(a1:aGO):yO (aGO):=
 if(ag ((a1.length:Int) > 65536))=ae then
  ab []
 else
 (vW F a0 a1).bind λa=>
 (sa F a0 a.2).bind λb=>
 if(bU a.2.length b.length 1)=ae then
  ab (a.2++b)
 else
 ad
def Zyt(F:Nat):Fs yc:=⟨77,[.v aGQ,.v aGP],[],[aGQ,aGP],(zP aGP),λx=>vX F x.1 x.2⟩
def ZqQ:Fs yc:=Zyt yD
def hi7:HI:={ own:=[5,12,16,18],still:=[4,10,11,13,14],bS:=[17]}
theorem Zyu:ZqQ.Ok:=aX hi7 [] [Zla,ID] ⟨Zro,ZqP,aw⟩
abbrev fb:Ty:=(.st [.u64,.u64])
abbrev dz:Type:=(yU×yU)
abbrev dz.R(x:dz):yU:=x.1
abbrev _root_.aHc:Go.Ev.Ty:=.sl fb
abbrev Z1:Ty:=(.st [yI,aHc,.u64])
abbrev _root_.aHd:=yL dz
abbrev Xl:Type:=(Int×aHd×yU)
def sb(F:Nat)(a0:Xl):yO (Bool):=
 if(ag (a0.1 >= 0))=ae then
  if(ag (a0.1 < 4))=ae then
   ab (ag ((a0.2.1.length:Int)<=12))
  else
  ab af
 else
 ab af
def ZuU(F:Nat):Fs yc:=⟨137,[.v Z1],[],[Z1],(zP .bool),λx=>sb F x⟩
def ZoQ:Fs yc:=ZuU yD
theorem ZuV:ZoQ.Ok:=aX { still:=[2]} [] [] trivial
def vY(F:Nat)(a0:Int):yO (Bool):=
 if(ag (a0 >= 0))=ae then
  ab (ag (a0<=1125899906842624))
 else
 ab af
def Zyv(F:Nat):Fs yc:=⟨178,[.v yI],[],[yI],(zP .bool),λx=>vY F x⟩
def ZqR:Fs yc:=Zyv yD
theorem Zyw:ZqR.Ok:=aX { still:=[2]} [] [] trivial
def vZ(F:Nat)(a0:Int)(a1:Int):yO ((Int×Bool)):=
 (vY F a0).bind λa=>
 if(!a)=ae then
  ab (0,af)
 else
 (vY F a1).bind λb=>
 if(!b)=ae then
  ab (0,af)
 else
 if(ag (a0 > (wi (1125899906842624 - a1))))=ae then
  ab (0,af)
 else
 ab (wi (a0+a1),ae)
def ZC8(F:Nat):Fs yc:=⟨138,[.v yI,.v yI],[],[yI,yI],[⟨.ret,[(0,.bf [.v yI,.v .bool])],[],[yI,.bool]⟩],λx=>vZ F x.1 x.2⟩
def Zws:Fs yc:=ZC8 yD
theorem ZC9:Zws.Ok:=aX { still:=[4,5,6,10]} [] [ZqR] ⟨Zyw,aw⟩
def wa(F:Nat)(a0:yU)(a1:yU):yO ((yU×yU)):=
 let a:yU:=ZI ((a0&&&4294967295)*(a1&&&4294967295)) 32;let b:yU:=(((ZI a0 32)*(a1&&&4294967295))+a)&&&4294967295;let c:yU:=ZI (((ZI a0 32)*(a1&&&4294967295))+a) 32;let d:yU:=ZI (b+((a0&&&4294967295)*(ZI a1 32))) 32
 ab ((((ZI a0 32)*(ZI a1 32))+c)+d,a0*a1)
def IE(F:Nat):Fs yc:=⟨203,[.v .u64,.v .u64],[],[.u64,.u64],[⟨.ret,[(0,.bf [.v .u64,.v .u64])],[],[.u64,.u64]⟩],λx=>wa F x.1 x.2⟩
def ZuW:Fs yc:=IE yD
theorem ZtE:ZuW.Ok:=aX { still:=[4,5]} [] [] trivial
end
end Go.Proofs.YtghfiijgklnflaaGreat
end
section
namespace Go.Ev
theorem wb(a m:yU):(a - a / m*m).toNat=a.toNat % m.toNat:=by
 have e:a.toNat / m.toNat*m.toNat<=a.toNat:=Nat.div_mul_le_self _ _;have g:=ybx a
 have c:(a / m*m).toNat=a.toNat / m.toNat*m.toNat:=by
  rw[UInt64.toNat_mul,UInt64.toNat_div,yas (by omega)]
 have f:(a / m*m)<=a:=by rw[ycy,c];exact e
 rw[UInt64.toNat_sub_of_le _ _ f,c];have:=Nat.div_add_mod a.toNat m.toNat
 rw[ybu]at this;omega
theorem je(x:yU):(x&&&4294967295).toNat=x.toNat % 4294967296:=by
 rw[UInt64.toNat_and];exact Nat.and_two_pow_sub_one_eq_mod x.toNat 32
theorem gE(x:yU)(n:Nat):(ZI x n).toNat=x.toNat / 2 ^ n:=by
 unfold ZI;rw[yaz,yas (ydd (Nat.div_le_self ..) (ybx _))]
theorem oV{x y:yU}(h:x.toNat+y.toNat < 18446744073709551616):(x+y).toNat=x.toNat+y.toNat:=by
 rw[UInt64.toNat_add,yas h]
theorem oW{x y:yU}(h:x.toNat*y.toNat < 18446744073709551616):(x*y).toNat=x.toNat*y.toNat:=by
 rw[UInt64.toNat_mul,yas h]
theorem sd{a b:Nat}(ha:a < 4294967296)(hb:b < 4294967296):a*b<=18446744065119617025:=Nat.mul_le_mul (Nat.le_of_lt_succ ha) (Nat.le_of_lt_succ hb)
end Go.Ev
end
section
set_option maxRecDepth 4000
namespace Go.Proofs.YtghfiijgklnflaaGreat
open Go Go.Ev
theorem ZIN(x y:yU):∃h l,wa yD x y=ab (h,l)/\h.toNat*18446744073709551616+l.toNat=x.toNat*y.toNat:=by
 unfold wa;refine⟨_,_,rfl, ?_⟩;have hx:=ybx x;have hy:=ybx y;have t:x.toNat % 4294967296 < 4294967296:=Nat.mod_lt _ (by decide);have z:y.toNat % 4294967296 < 4294967296:=Nat.mod_lt _ (by decide);have E:x.toNat / 4294967296 < 4294967296:=by omega
 have F:y.toNat / 4294967296 < 4294967296:=by omega
 have Y:x.toNat=x.toNat / 4294967296*4294967296+x.toNat % 4294967296:=by omega
 have Z:y.toNat=y.toNat / 4294967296*4294967296+y.toNat % 4294967296:=by omega
 generalize g:x.toNat / 4294967296=e at*;generalize j:x.toNat % 4294967296=f at*;generalize m:y.toNat / 4294967296=y1 at*;generalize s:y.toNat % 4294967296=y0 at*;have p00:=sd t z;have p10:=sd E z;have p01:=sd t F;have p11:=sd E F
 have prod:x.toNat*y.toNat=e*y1*18446744073709551616+(e*y0+f*y1)*4294967296+f*y0:=by
  rw[Y,Z,Nat.add_mul,Nat.mul_add,Nat.mul_add]
  have e1:e*4294967296*(y1*4294967296)=e*y1*18446744073709551616:=by
   rw[Nat.mul_assoc,Nat.mul_left_comm 4294967296 y1, <-Nat.mul_assoc]
  have e2:e*4294967296*y0=e*y0*4294967296:=by rw[Nat.mul_right_comm]
  have e3:f*(y1*4294967296)=f*y1*4294967296:=by rw[Nat.mul_assoc]
  rw[e1,e2,e3];omega
 have Q:((x&&&4294967295)*(y&&&4294967295)).toNat=f*y0:=by
  rw[oW (by rw[je,je,j,s];omega),je,je,j,s]
 have G:((ZI x 32)*(y&&&4294967295)).toNat=e*y0:=by
  rw[oW (by rw[gE,je,show(2:Nat) ^ 32=4294967296 from rfl,g,s];omega),gE,je,show(2:Nat) ^ 32=4294967296 from rfl,g,s]
 have I:((x&&&4294967295)*(ZI y 32)).toNat=f*y1:=by
  rw[oW (by rw[gE,je,show(2:Nat) ^ 32=4294967296 from rfl,j,m];omega),gE,je,show(2:Nat) ^ 32=4294967296 from rfl,j,m]
 have M:((ZI x 32)*(ZI y 32)).toNat=e*y1:=by
  rw[oW (by rw[gE,gE,show(2:Nat) ^ 32=4294967296 from rfl,g,m];omega),gE,gE,show(2:Nat) ^ 32=4294967296 from rfl,g,m]
 generalize hA:((x&&&4294967295)*(y&&&4294967295):yU)=A at*;generalize hB:((ZI x 32)*(y&&&4294967295):yU)=B at*;generalize hC:((x&&&4294967295)*(ZI y 32):yU)=C at*;generalize hD:((ZI x 32)*(ZI y 32):yU)=D at*;have s1:(ZI A 32).toNat=f*y0 / 4294967296:=by rw[gE,Q]
 have S:(B+ZI A 32).toNat=e*y0+f*y0 / 4294967296:=by rw[oV (by rw[G,s1];omega),G,s1]
 have T:((B+ZI A 32)&&&4294967295).toNat=(e*y0+f*y0 / 4294967296) % 4294967296:=by rw[je,S]
 have U:(ZI (B+ZI A 32) 32).toNat=(e*y0+f*y0 / 4294967296) / 4294967296:=by rw[gE,S]
 have s5:(((B+ZI A 32)&&&4294967295)+C).toNat=(e*y0+f*y0 / 4294967296) % 4294967296+f*y1:=by rw[oV (by rw[T,I];omega),T,I]
 have W:(ZI (((B+ZI A 32)&&&4294967295)+C) 32).toNat=((e*y0+f*y0 / 4294967296) % 4294967296+f*y1) / 4294967296:=by rw[gE,s5]
 have X:(D+ZI (B+ZI A 32) 32).toNat=e*y1+(e*y0+f*y0 / 4294967296) / 4294967296:=by rw[oV (by rw[M,U];omega),M,U]
 have s8:(x*y).toNat=x.toNat*y.toNat % 18446744073709551616:=UInt64.toNat_mul ..
 have s9:((D+ZI (B+ZI A 32) 32)+ZI (((B+ZI A 32)&&&4294967295)+C) 32).toNat=e*y1+(e*y0+f*y0 / 4294967296) / 4294967296+((e*y0+f*y0 / 4294967296) % 4294967296+f*y1) / 4294967296:=by
  rw[oV (by rw[X,W];omega),X,W]
 rw[s9,s8,prod];generalize f*y0=a at*;generalize e*y0=b at*;generalize f*y1=c at*;generalize e*y1=d at*;omega
theorem ZIO(x y:yU):wa yD x y=ab (yai (x.toNat*y.toNat / 18446744073709551616),yai (x.toNat*y.toNat % 18446744073709551616)):=by
 obtain⟨h,l,e,k⟩:=ZIN x y;have c:=ybx l;rw[e, <-k,show(h.toNat*18446744073709551616+l.toNat) / 18446744073709551616=h.toNat by omega,show(h.toNat*18446744073709551616+l.toNat) % 18446744073709551616=l.toNat by omega,UInt64.ofNat_toNat,UInt64.ofNat_toNat]
noncomputable def IF(F:Nat)(a0:yU)(a1:yU):yO (yU×yU):=ab (yai (a0.toNat*a1.toNat / 18446744073709551616),yai (a0.toNat*a1.toNat % 18446744073709551616))
noncomputable def ZuX(F:Nat):Fs yc:={ IE F with M:=λx=>IF F x.1 x.2}
noncomputable def ZoS:Fs yc:=ZuX yD
theorem ZuY:ZoS.Ok:=nw (s:=IE yD) ZtE λx=>(ZIO x.1 x.2).symm
end Go.Proofs.YtghfiijgklnflaaGreat
end
section
set_option maxRecDepth 4000
namespace Go.Proofs.YtghfiijgklnflaaGreat
open Go Go.Ev
noncomputable section
def lP:ByteArray:=⟨#[0,1,2,2,3,3,3,3,4,4,4,4,4,4,4,4,5,5,5,5,5,5,5,5,5,5,5,5,5,5,5,5,6,6,6,6,6,6,6,6,6,6,6,6,6,6,6,6,6,6,6,6,6,6,6,6,6,6,6,6,6,6,6,6,7,7,7,7,7,7,7,7,7,7,7,7,7,7,7,7,7,7,7,7,7,7,7,7,7,7,7,7,7,7,7,7,7,7,7,7,7,7,7,7,7,7,7,7,7,7,7,7,7,7,7,7,7,7,7,7,7,7,7,7,7,7,7,7,8,8,8,8,8,8,8,8,8,8,8,8,8,8,8,8,8,8,8,8,8,8,8,8,8,8,8,8,8,8,8,8,8,8,8,8,8,8,8,8,8,8,8,8,8,8,8,8,8,8,8,8,8,8,8,8,8,8,8,8,8,8,8,8,8,8,8,8,8,8,8,8,8,8,8,8,8,8,8,8,8,8,8,8,8,8,8,8,8,8,8,8,8,8,8,8,8,8,8,8,8,8,8,8,8,8,8,8,8,8,8,8,8,8,8,8,8,8,8,8,8,8,8,8,8,8,8,8]⟩
def ZqT(F:Nat)(a0:yU):yO (Int):=
 if(ag (a0 >= 4294967296))=ae then
  if(ag ((ZI a0 32) >= 65536))=ae then
   if(ag ((ZI (ZI a0 32) 16) >= 256))=ae then
    let a:yB:=w8 ((ZI (ZI (ZI a0 32) 16) 8).toNat:Int)
    (idx (fD lP) (a.toNat:Int)).bind λb=>
    ab (wi (56+(b.toNat:Int)))
   else
   (idx (fD lP) ((w8 ((ZI (ZI a0 32) 16).toNat:Int)).toNat:Int)).bind λc=>
   ab (wi (48+(c.toNat:Int)))
  else
  if(ag ((ZI a0 32) >= 256))=ae then
   (idx (fD lP) ((w8 ((ZI (ZI a0 32) 8).toNat:Int)).toNat:Int)).bind λd=>
   ab (wi (40+(d.toNat:Int)))
  else
  (idx (fD lP) ((w8 ((ZI a0 32).toNat:Int)).toNat:Int)).bind λe=>
  ab (wi (32+(e.toNat:Int)))
 else
 if(ag (a0 >= 65536))=ae then
  if(ag ((ZI a0 16) >= 256))=ae then
   (idx (fD lP) ((w8 ((ZI (ZI a0 16) 8).toNat:Int)).toNat:Int)).bind λf=>
   ab (wi (24+(f.toNat:Int)))
  else
  (idx (fD lP) ((w8 ((ZI a0 16).toNat:Int)).toNat:Int)).bind λg=>
  ab (wi (16+(g.toNat:Int)))
 else
 if(ag (a0 >= 256))=ae then
  (idx (fD lP) ((w8 ((ZI a0 8).toNat:Int)).toNat:Int)).bind λh=>
  ab (wi (8+(h.toNat:Int)))
 else
 (idx (fD lP) ((w8 (a0.toNat:Int)).toNat:Int)).bind λi=>
 ab (wi (0+(i.toNat:Int)))
def ZuZ(F:Nat):Fs yc:=⟨208,[.v .u64],[],[.u64],(zP yI),λx=>ZqT F x⟩
def ZoT:Fs yc:=ZuZ yD
theorem Zu0:ZoT.Ok:=aX { still:=[2]} [] [] trivial
def YO(F:Nat)(a0:yU):yO (Int):=
 (ZqT F a0).bind λa=>
 ab (wi (64 - a))
def Zjo(F:Nat):Fs yc:=⟨207,[.v .u64],[],[.u64],(zP yI),λx=>YO F x⟩
def Zcp:Fs yc:=Zjo yD
theorem Zjp:Zcp.Ok:=aX { still:=[2,3]} [] [ZoT] ⟨Zu0,aw⟩
abbrev zQ:=yU×yU×yU×yU×yU×yU×yU×yU
def Q5(F:Nat):(yU×zQ)->yO ((yU×zQ)⊕(zQ))
 |(d,e,c,f,g,h,i,a,b)=>
 if(ag (a >= 4294967296))=ae then
  let j:Bool:=ag ((b+c) >= 4294967296)
  if j=ae then
   ab (.inr (d,e,c,f,g,h,i,a - 1))
  else
  ab (.inl (d,e,c,f,g,h,i,a - 1,b+c))
 else
 let k:Bool:=ag ((a*f) > ((4294967296*b)+h))
 if k=ae then
  let l:Bool:=ag ((b+c) >= 4294967296)
  if l=ae then
   ab (.inr (d,e,c,f,g,h,i,a - 1))
  else
  ab (.inl (d,e,c,f,g,h,i,a - 1,b+c))
 else
 ab (.inr (d,e,c,f,g,h,i,a))
def Zm0:Lp:=⟨[(2,.v .u64),(8,.v .u64),(9,.v .u64),(10,.v .u64),(11,.v .u64),(13,.v .u64),(14,.v .u64),(15,.v .u64),(16,.v .u64)],[],[.u64,.u64,.u64,.u64,.u64,.u64,.u64,.u64,.u64],[⟨.exit 0,[(2,.v .u64),(8,.v .u64),(9,.v .u64),(10,.v .u64),(11,.v .u64),(13,.v .u64),(14,.v .u64),(15,.v .u64)],[],[.u64,.u64,.u64,.u64,.u64,.u64,.u64,.u64]⟩],Ze (Q5 yD) yD⟩
theorem ZpW:Zm0.bq yc 206 0:=Zx { still:=[6,7,34]} [] [] trivial
def Q6(F:Nat):(yU×zQ)->yO ((yU×zQ)⊕(yU×yU×yU×yU×yU×yU))
 |(d,e,c,i,f,g,b,h,a)=>
 if(ag (a >= 4294967296))=ae then
  let j:Bool:=ag ((b+c) >= 4294967296)
  if j=ae then
   ab (.inr (d,e,f,g,h,a - 1))
  else
  ab (.inl (d,e,c,i,f,g,b+c,h,a - 1))
 else
 let k:Bool:=ag ((a*i) > ((4294967296*b)+f))
 if k=ae then
  let l:Bool:=ag ((b+c) >= 4294967296)
  if l=ae then
   ab (.inr (d,e,f,g,h,a - 1))
  else
  ab (.inl (d,e,c,i,f,g,b+c,h,a - 1))
 else
 ab (.inr (d,e,f,g,h,a))
def Zm1:Lp:=⟨[(2,.v .u64),(8,.v .u64),(9,.v .u64),(10,.v .u64),(14,.v .u64),(15,.v .u64),(16,.v .u64),(17,.v .u64),(18,.v .u64)],[],[.u64,.u64,.u64,.u64,.u64,.u64,.u64,.u64,.u64],[⟨.exit 2,[(2,.v .u64),(8,.v .u64),(14,.v .u64),(15,.v .u64),(17,.v .u64),(18,.v .u64)],[],[.u64,.u64,.u64,.u64,.u64,.u64]⟩],Ze (Q6 yD) yD⟩
theorem ZpX:Zm1.bq yc 206 1:=Zx { still:=[6,7,34]} [] [] trivial
def wc(F:Nat)(a0:yU)(a1:yU)(a2:yU):yO ((yU×yU)):=
 if(a2==0)=ae then
  ad
 else
 if(ag (a2<=a0))=ae then
  ad
 else
 if(a0==0)=ae then
  if(a2 !=0)=ae then
   if(a2 !=0)=ae then
    ab (a1 / a2,a1 % a2)
   else
   ad
  else
  ad
 else
 (YO F a2).bind λo=>
 let p:yU:=ZI (QZ a2 (min ((cK o).toNat:Int).toNat 64)) 32;let q:yU:=(QZ a2 (min ((cK o).toNat:Int).toNat 64))&&&4294967295;let r:yU:=ZI a1 (min ((64 - (cK o)).toNat:Int).toNat 64);let s:yU:=(QZ a0 (min ((cK o).toNat:Int).toNat 64))|||r;let t:yU:=ZI (QZ a1 (min ((cK o).toNat:Int).toNat 64)) 32;let u:yU:=(QZ a1 (min ((cK o).toNat:Int).toNat 64))&&&4294967295
 if(p !=0)=ae then
  (Ze (Q5 F) F (QZ a2 (min ((cK o).toNat:Int).toNat 64),cK o,p,q,s,t,u,s / p,s - ((s / p)*p))).bind λ(j,l,k,m,g,h,n,i)=>
  let v:yU:=((g*4294967296)+h) - (i*j)
  if(k !=0)=ae then
   (Ze (Q6 F) F (j,l,k,m,n,i,v - ((v / k)*k),v,v / k)).bind λ(d,f,b,e,a,c)=>
   let w:yU:=((a*4294967296)+b) - (c*d)
   ab ((e*4294967296)+c,ZI w (min (f.toNat:Int).toNat 64))
  else
  ad
 else
 ad
def Zu1(F:Nat):Fs yc:=⟨206,[.v .u64,.v .u64,.v .u64],[],[.u64,.u64,.u64],[⟨.ret,[(0,.bf [.v .u64,.v .u64])],[],[.u64,.u64]⟩],λx=>wc F x.1 x.2.1 x.2.2⟩
def ZoU:Fs yc:=Zu1 yD
theorem Zu2:ZoU.Ok:=aX { still:=[6,7,34]} [(0,Zm0),(1,Zm1)] [Zcp] ⟨Zjp,aw⟩ ⟨ZpW,ZpX,aw⟩
def se(F:Nat)(a0:yU)(a1:yU)(a2:yU):yO (yU):=
 if(a2 !=0)=ae then
  (wc F (a0 % a2) a1 a2).bind λa=>
  ab a.2
 else
 ad
def IG(F:Nat):Fs yc:=⟨204,[.v .u64,.v .u64,.v .u64],[],[.u64,.u64,.u64],(zP .u64),λx=>se F x.1 x.2.1 x.2.2⟩
def Zu3:Fs yc:=IG yD
theorem ZtF:Zu3.Ok:=aX { still:=[6,12,13,14]} [] [ZoU] ⟨Zu2,aw⟩
end
end Go.Proofs.YtghfiijgklnflaaGreat
end
section
set_option maxRecDepth 4000
namespace Go.Proofs.YtghfiijgklnflaaGreat
open Go Go.Ev
section
variable{y1 y0 u d q r:Nat}
theorem ZNQ(h:q*y1+r=u)(hc:4294967296*r+d < q*y0):u*4294967296+d < q*(y1*4294967296+y0):=by
 grind
theorem IH(h:q*y1+r=u)(hc:q*y0<=4294967296*r+d):q*(y1*4294967296+y0)<=u*4294967296+d:=by
 grind
theorem ZMT(hu:u < y1*4294967296+y0)(hd:d < 4294967296):(u*4294967296+d) / (y1*4294967296+y0) < 4294967296:=by
 rw[Nat.div_lt_iff_lt_mul (by omega)];omega
theorem ZEA(h:q*y1+r=u)(hq:1<=q):(q - 1)*y1+(r+y1)=u:=by
 have e:q*y1=(q - 1)*y1+y1:=by
  rw[<-Nat.succ_mul];congr 1;omega
 omega
theorem ZIQ(hu:u < y1*4294967296+y0)(c:y0 < 4294967296)(h:q*y1+r=u)(e:4294967296<=r):q*y0<=4294967296*r+d:=by
 by_cases f:q < 4294967296
 .have:q*y0<=4294967295*4294967295:=Nat.mul_le_mul (by omega) (by omega);omega
 .have:4294967296*y1<=q*y1:=Nat.mul_le_mul_right _ (by omega);omega
end
theorem II{q T Y:Nat}(c:0 < Y)(h1:T / Y<=q)(h2:q*Y<=T):q=T / Y:=Nat.le_antisymm ((Nat.le_div_iff_mul_le c).2 h2) h1
theorem ZAV{y1 y0 u d:Nat}{Q R Y0 Y1 D:yU}(l:Y1.toNat=y1)(f:Y0.toNat=y0)(hD:D.toNat=d)(h1:y1 < 4294967296)(A:y0 < 4294967296)(hd:d < 4294967296)(hu:u < y1*4294967296+y0)
 (e:Q.toNat*y1+R.toNat=u) (I:R.toNat < 4294967296) (s:(u*4294967296+d) / (y1*4294967296+y0)<=Q.toNat):
 ((Q >= 4294967296\/(Q*Y0 > (4294967296*R)+D))/\(u*4294967296+d) / (y1*4294967296+y0)<=(Q - 1).toNat/\(Q - 1).toNat*y1+(R+Y1).toNat=u/\(R+Y1).toNat=R.toNat+y1)\/
 (¬Q >= 4294967296/\¬(Q*Y0 > (4294967296*R)+D)/\Q.toNat=(u*4294967296+d) / (y1*4294967296+y0)):=by
 have c:(R+Y1).toNat=R.toNat+y1:=by rw[oV (by omega),l]
 have E:((4294967296*R)+D).toNat=4294967296*R.toNat+d:=by
  have m:(4294967296*R:yU).toNat=4294967296*R.toNat:=by
   rw[oW (by show 4294967296*R.toNat < _;omega)];rfl
  rw[oV (by rw[m];omega),m,hD]
 have dec:1<=Q.toNat->(Q - 1).toNat=Q.toNat - 1:=λh=>by
  rw[UInt64.toNat_sub_of_le _ _ (by rw[ycy];exact h)];rfl
 by_cases g:Q >= 4294967296
 .left
  have y:4294967296<=Q.toNat:=by
   rw[ge_iff_le,ycy]at g;exact g
  have:=ZMT hu hd;refine⟨.inl g,by rw[dec (by omega)];omega, ?_,c⟩;rw[dec (by omega),c];exact ZEA e (by omega)
 have y:Q.toNat < 4294967296:=by
  rw[ge_iff_le,ycy]at g;grind
 have z:(Q*Y0).toNat=Q.toNat*y0:=by
  have:=sd y A;rw[oW (by rw[f];omega),f]
 by_cases j:Q*Y0 > (4294967296*R)+D
 .left
  have t:4294967296*R.toNat+d < Q.toNat*y0:=by
   have:=ych.1 j;grind
  have x:1<=Q.toNat:=by
   all_goals grind
  have F:=ZNQ (d:=d) e t;have G:(u*4294967296+d) / (y1*4294967296+y0) < Q.toNat:=(Nat.div_lt_iff_lt_mul (by omega)).2 F;refine⟨.inr j,by rw[dec x];omega, ?_,c⟩;rw[dec x,c];exact ZEA e x
 .right
  have t:Q.toNat*y0<=4294967296*R.toNat+d:=by
   have:¬(((4294967296*R)+D).toNat < (Q*Y0).toNat):=λh=>j (ych.2 h);grind
  exact⟨g,j,II (by omega) s (IH e t)⟩
theorem ZNR{y1 y0 u d:Nat}{Yv N Y1 Y0 U D E Q R:yU}(t:Y1.toNat=y1)(y:Y0.toNat=y0)(hD:D.toNat=d)(h1:y1 < 4294967296)(h3:0 < y1)(A:y0 < 4294967296)(hd:d < 4294967296)(hu:u < y1*4294967296+y0)
 (e:Q.toNat*y1+R.toNat=u) (z:R.toNat < 4294967296) (f:(u*4294967296+d) / (y1*4294967296+y0)<=Q.toNat):
 ∃q:yU,Ze (Q5 yD) yD (Yv,N,Y1,Y0,U,D,E,Q,R)=ab (Yv,N,Y1,Y0,U,D,E,q)/\q.toNat=(u*4294967296+d) / (y1*4294967296+y0):=by
 obtain⟨x,M,q,rfl,S⟩:=VT (step:=Q5 yD) (λs=>∃Q R:yU,s=(Yv,N,Y1,Y0,U,D,E,Q,R)/\Q.toNat*y1+R.toNat=u/\R.toNat < 4294967296/\(u*4294967296+d) / (y1*4294967296+y0)<=Q.toNat)
  (λs=>4294967296 - s.2.2.2.2.2.2.2.2.toNat) (λx=>∃q:yU,x=(Yv,N,Y1,Y0,U,D,E,q)/\q.toNat=(u*4294967296+d) / (y1*4294967296+y0)) (by
  rintro _ ⟨Q,R,rfl,e,z,f⟩;unfold Q5;dsimp only;rcases ZAV t y hD h1 A hd hu e z f with⟨c,G,F,T⟩|⟨m,I,k⟩
  .have g:(∃j,(if ag (R+Y1 >= 4294967296)=ae then ab (Sum.inr (Yv,N,Y1,Y0,U,D,E,Q - 1)) else ab (Sum.inl (Yv,N,Y1,Y0,U,D,E,Q - 1,R+Y1)):yO ((yU×zQ)⊕(zQ)))=ab (.inl j)/\
    (∃Q R:yU,j=(Yv,N,Y1,Y0,U,D,E,Q,R)/\Q.toNat*y1+R.toNat=u/\R.toNat < 4294967296/\(u*4294967296+d) / (y1*4294967296+y0)<=Q.toNat)/\4294967296 - j.2.2.2.2.2.2.2.2.toNat < 4294967296 - R.toNat)\/
    (∃x,(if ag (R+Y1 >= 4294967296)=ae then ab (Sum.inr (Yv,N,Y1,Y0,U,D,E,Q - 1)) else ab (Sum.inl (Yv,N,Y1,Y0,U,D,E,Q - 1,R+Y1)):yO ((yU×zQ)⊕(zQ)))=ab (.inr x)/\
    ∃q:yU,x=(Yv,N,Y1,Y0,U,D,E,q)/\q.toNat=(u*4294967296+d) / (y1*4294967296+y0)):=by
    by_cases h:R+Y1 >= 4294967296
    .right;rw[yW (yY h)]
     have l:4294967296<=(R+Y1).toNat:=by
      rw[ge_iff_le,ycy]at h;exact h
     exact⟨_,rfl,_,rfl,II (by omega) G (IH F (ZIQ hu A F l))⟩
    .left;rw[yX (by rw[yN];exact h)]
     have l:(R+Y1).toNat < 4294967296:=by
      rw[ge_iff_le,ycy]at h;grind
     grind
   rcases c with c|c
   .rw[yW (yY c)];exact g
   .by_cases m:Q >= 4294967296
    .rw[yW (yY m)];exact g
    .rw[yX (by rw[yN];exact m),yW (yY c)];exact g
  .right;rw[yX (by rw[yN];exact m),yX (by rw[yN];exact I)];exact⟨_,rfl,_,rfl,k⟩) (Yv,N,Y1,Y0,U,D,E,Q,R) ⟨Q,R,rfl,e,z,f⟩ (by dsimp only;omega)
 grind
theorem ZNS{y1 y0 u d:Nat}{Yv N Y1 Y0 U D E Q R:yU}(t:Y1.toNat=y1)(y:Y0.toNat=y0)(hD:D.toNat=d)(h1:y1 < 4294967296)(h3:0 < y1)(A:y0 < 4294967296)(hd:d < 4294967296)(hu:u < y1*4294967296+y0)
 (e:Q.toNat*y1+R.toNat=u) (z:R.toNat < 4294967296) (f:(u*4294967296+d) / (y1*4294967296+y0)<=Q.toNat):
 ∃q:yU,Ze (Q6 yD) yD (Yv,N,Y1,Y0,D,E,R,U,Q)=ab (Yv,N,D,E,U,q)/\q.toNat=(u*4294967296+d) / (y1*4294967296+y0):=by
 obtain⟨x,M,q,rfl,S⟩:=VT (step:=Q6 yD) (λs=>∃Q R:yU,s=(Yv,N,Y1,Y0,D,E,R,U,Q)/\Q.toNat*y1+R.toNat=u/\R.toNat < 4294967296/\(u*4294967296+d) / (y1*4294967296+y0)<=Q.toNat)
  (λs=>4294967296 - s.2.2.2.2.2.2.1.toNat) (λx=>∃q:yU,x=(Yv,N,D,E,U,q)/\q.toNat=(u*4294967296+d) / (y1*4294967296+y0)) (by
  rintro _ ⟨Q,R,rfl,e,z,f⟩;unfold Q6;dsimp only;rcases ZAV t y hD h1 A hd hu e z f with⟨c,G,F,T⟩|⟨m,I,k⟩
  .have g:(∃j,(if ag (R+Y1 >= 4294967296)=ae then ab (Sum.inr (Yv,N,D,E,U,Q - 1)) else ab (Sum.inl (Yv,N,Y1,Y0,D,E,R+Y1,U,Q - 1)):yO ((yU×zQ)⊕(yU×yU×yU×yU×yU×yU)))=ab (.inl j)/\
    (∃Q R:yU,j=(Yv,N,Y1,Y0,D,E,R,U,Q)/\Q.toNat*y1+R.toNat=u/\R.toNat < 4294967296/\(u*4294967296+d) / (y1*4294967296+y0)<=Q.toNat)/\4294967296 - j.2.2.2.2.2.2.1.toNat < 4294967296 - R.toNat)\/
    (∃x,(if ag (R+Y1 >= 4294967296)=ae then ab (Sum.inr (Yv,N,D,E,U,Q - 1)) else ab (Sum.inl (Yv,N,Y1,Y0,D,E,R+Y1,U,Q - 1)):yO ((yU×zQ)⊕(yU×yU×yU×yU×yU×yU)))=ab (.inr x)/\
    ∃q:yU,x=(Yv,N,D,E,U,q)/\q.toNat=(u*4294967296+d) / (y1*4294967296+y0)):=by
    by_cases h:R+Y1 >= 4294967296
    .right;rw[yW (yY h)]
     have l:4294967296<=(R+Y1).toNat:=by
      rw[ge_iff_le,ycy]at h;exact h
     exact⟨_,rfl,_,rfl,II (by omega) G (IH F (ZIQ hu A F l))⟩
    .left;rw[yX (by rw[yN];exact h)]
     have l:(R+Y1).toNat < 4294967296:=by
      rw[ge_iff_le,ycy]at h;grind
     grind
   rcases c with c|c
   .rw[yW (yY c)];exact g
   .by_cases m:Q >= 4294967296
    .rw[yW (yY m)];exact g
    .rw[yX (by rw[yN];exact m),yW (yY c)];exact g
  .right;rw[yX (by rw[yN];exact m),yX (by rw[yN];exact I)];exact⟨_,rfl,_,rfl,k⟩) (Yv,N,Y1,Y0,D,E,R,U,Q) ⟨Q,R,rfl,e,z,f⟩ (by dsimp only;omega)
 grind
theorem ZEB{A B:yU}{a b:Nat}(c:A.toNat=a % 18446744073709551616)(hB:B.toNat=b % 18446744073709551616)(h:b<=a)(hd:a - b < 18446744073709551616):(A - B).toNat=a - b:=by
 rw[UInt64.toNat_sub,c,hB];omega
theorem ZqU(u y1:Nat):u / y1*y1+u % y1=u:=by
 have:=Nat.div_add_mod u y1;grind
theorem ZIR{u y1 y0 d:Nat}(h1:0 < y1)(hd:d < 4294967296):(u*4294967296+d) / (y1*4294967296+y0)<=u / y1:=by
 have h:(u*4294967296+d) / (y1*4294967296+y0)<=(u*4294967296+d) / (y1*4294967296):=Nat.div_le_div_left (by omega) (by omega)
 have e:(u*4294967296+d) / (y1*4294967296)=u / y1:=by
  rw[ybu y1, <-Nat.div_div_eq_div_mul];congr 1;omega
 omega
theorem ZIS{a b y:yU}{s:Nat}{Y:yU}(S:y≠0)(hs:YO yD y=ab (s:Int))(s0:0 < s)(s1:s < 64)(hY:QZ y s=Y)(l:Y.toNat=y.toNat*2 ^ s)(hY63:9223372036854775808<=Y.toNat)(ha:a.toNat < y.toNat):
 ∃q r,wc yD a b y=ab (q,r)/\r.toNat=(a.toNat*18446744073709551616+b.toNat) % y.toNat:=by
 have T:¬(y<=a):=by
  rw[ycy];omega
 unfold wc;rw[yX (by rw[yT];exact S),yX (by rw[yN];exact T)];by_cases h0:a=0
 .subst h0;rw[yW (by decide),yW (by rw[yE];exact S),yW (by rw[yE];exact S)];refine⟨_,_,rfl, ?_⟩;simp_all
 rw[yX (by rw[yT];exact h0),hs,ya];dsimp only
 have w:cK (s:Int)=yai s:=by
  unfold cK;congr 1;omega
 have W:(cK (s:Int)).toNat=s:=by rw[w,yaz,yas (by omega)]
 have e1:min ((cK (s:Int)).toNat:Int).toNat 64=s:=by rw[W];omega
 have e2:(64 - cK (s:Int)).toNat=64 - s:=by
  rw[UInt64.toNat_sub_of_le _ _ (by rw[ycy,W];show s<=64;omega),W];rfl
 have e3:min ((64 - cK (s:Int)).toNat:Int).toNat 64=64 - s:=by rw[e2];omega
 rw[e1,e3,hY];have hYl:=ybx Y;have hb:=ybx b
 have F:2 ^ (64 - s)*2 ^ s=18446744073709551616:=by
  rw[<-Nat.pow_add];grind
 have X:0 < 2 ^ s:=Nat.pow_pos (by decide);obtain⟨y1,Z⟩:∃y1,y1=Y.toNat / 4294967296:=⟨_,rfl⟩;obtain⟨y0,hy0⟩:∃y0,y0=Y.toNat % 4294967296:=⟨_,rfl⟩;have g:Y.toNat=y1*4294967296+y0:=by omega
 have c:(ZI Y 32).toNat=y1:=by rw[gE,Z]
 have m:(Y&&&4294967295).toNat=y0:=by rw[je,hy0]
 have G:y1 < 4294967296:=by omega
 have g1:2147483648<=y1:=by omega
 have l0:y0 < 4294967296:=by omega
 have hash:a.toNat*2 ^ s < Y.toNat:=by rw[l];exact Nat.mul_lt_mul_of_pos_right ha X
 have bd:b.toNat / 2 ^ (64 - s) < 2 ^ s:=by
  rw[Nat.div_lt_iff_lt_mul (Nat.pow_pos (by decide)),ybu,F];exact hb
 have z:((QZ a s)|||(ZI b (64 - s))).toNat=a.toNat*2 ^ s+b.toNat / 2 ^ (64 - s):=by
  rw[UInt64.toNat_or,gE];unfold QZ;rw[yaz,yas (by omega),ybu, <-ydf bd]
 have t10:(QZ b s).toNat=b.toNat*2 ^ s % 18446744073709551616:=by
  unfold QZ;rw[yaz]
 obtain⟨u,hu⟩:∃u,u=a.toNat*2 ^ s+b.toNat / 2 ^ (64 - s):=⟨_,rfl⟩;obtain⟨v,hv⟩:∃v,v=b.toNat*2 ^ s % 18446744073709551616:=⟨_,rfl⟩;rw[<-hu]at z;rw[<-hv]at t10
 have hbs:b.toNat*2 ^ s=b.toNat / 2 ^ (64 - s)*18446744073709551616+v:=by
  have h1:=Nat.div_add_mod (b.toNat*2 ^ s) 18446744073709551616
  have h2:b.toNat*2 ^ s / 18446744073709551616=b.toNat / 2 ^ (64 - s):=by
   rw[<-F];exact Nat.mul_div_mul_right _ _ X
  rw[h2, <-hv]at h1;omega
 have hN:(a.toNat*18446744073709551616+b.toNat)*2 ^ s=u*18446744073709551616+v:=by
  rw[Nat.add_mul,hbs,hu,Nat.mul_right_comm];omega
 have uY:u < y1*4294967296+y0:=by
  rw[<-g,hu,l];have h1:(a.toNat+1)*2 ^ s<=y.toNat*2 ^ s:=Nat.mul_le_mul_right _ ha;rw[Nat.add_mul,Nat.one_mul]at h1;omega
 have hvl:v < 18446744073709551616:=by rw[hv];exact Nat.mod_lt _ (by decide)
 obtain⟨d1,hd1⟩:∃d1,d1=v / 4294967296:=⟨_,rfl⟩;obtain⟨d0,hd0⟩:∃d0,d0=v % 4294967296:=⟨_,rfl⟩;have t:(ZI (QZ b s) 32).toNat=d1:=by rw[gE,t10,hd1]
 have x:((QZ b s)&&&4294967295).toNat=d0:=by rw[je,t10,hd0]
 generalize ((QZ a s)|||(ZI b (64 - s)):yU)=U at z ⊢;generalize (ZI (QZ b s) 32:yU)=D1 at t ⊢;generalize ((QZ b s)&&&4294967295:yU)=D0 at x ⊢;generalize (ZI Y 32:yU)=Y1 at c ⊢;generalize (Y&&&4294967295:yU)=Y0 at m ⊢
 have j:(Y1 !=0)=ae:=by
  rw[yE];intro h;rw[h]at c;have:(0:yU).toNat=0:=rfl;omega
 rw[yW j]
 have f1:(U / Y1).toNat*y1+(U - U / Y1*Y1).toNat=u:=by
  rw[wb,UInt64.toNat_div,z,c];exact ZqU u y1
 have f2:(U - U / Y1*Y1).toNat < 4294967296:=by
  rw[wb,z,c];exact Nat.lt_trans (Nat.mod_lt _ (by omega)) G
 have f3:(u*4294967296+d1) / (y1*4294967296+y0)<=(U / Y1).toNat:=by
  rw[UInt64.toNat_div,z,c];exact ZIR (by omega) (by omega)
 obtain⟨I,k1,M⟩:=ZNR (Yv:=Y) (N:=cK (s:Int)) (U:=U) (E:=D0) c m t G (by omega) l0 (by omega) uY f1 f2 f3;rw[k1,ya];dsimp only;rw[yW j];have m1:=Nat.div_add_mod (u*4294967296+d1) Y.toNat
 have m2:(u*4294967296+d1) % Y.toNat < Y.toNat:=Nat.mod_lt _ (by omega);rw[<-g]at M
 have A:(((U*4294967296)+D1) - (I*Y)).toNat=(u*4294967296+d1) % Y.toNat:=by
  rw[ZEB (a:=u*4294967296+d1) (b:=I.toNat*Y.toNat) ?_ ?_ ?_ ?_]
  .rw[M,ybu ((u*4294967296+d1) / Y.toNat)];omega
  .rw[UInt64.toNat_add,UInt64.toNat_mul,z,t,show(4294967296:yU).toNat=4294967296 from rfl]
   omega
  .rw[UInt64.toNat_mul]
  .rw[M,ybu ((u*4294967296+d1) / Y.toNat)];omega
  .rw[M,ybu ((u*4294967296+d1) / Y.toNat)];omega
 obtain⟨f,hu2⟩:∃f,f=(u*4294967296+d1) % Y.toNat:=⟨_,rfl⟩;rw[<-hu2]at A m2 m1;generalize (((U*4294967296)+D1) - (I*Y):yU)=V at A ⊢
 have f4:(V / Y1).toNat*y1+(V - V / Y1*Y1).toNat=f:=by
  rw[wb,UInt64.toNat_div,A,c];exact ZqU f y1
 have f5:(V - V / Y1*Y1).toNat < 4294967296:=by
  rw[wb,A,c];exact Nat.lt_trans (Nat.mod_lt _ (by omega)) G
 have f6:(f*4294967296+d0) / (y1*4294967296+y0)<=(V / Y1).toNat:=by
  rw[UInt64.toNat_div,A,c];exact ZIR (by omega) (by omega)
 obtain⟨q0,k3,Q⟩:=ZNS (Yv:=Y) (N:=cK (s:Int)) (U:=V) (E:=I) c m x G (by omega) l0 (by omega) (by rw[<-g];exact m2) f4 f5 f6;rw[k3,ya];refine⟨_,_,rfl, ?_⟩;dsimp only;rw[e1,gE];rw[<-g]at Q;have m3:=Nat.div_add_mod (f*4294967296+d0) Y.toNat
 have m4:(f*4294967296+d0) % Y.toNat < Y.toNat:=Nat.mod_lt _ (by omega)
 have tr:(((V*4294967296)+D0) - (q0*Y)).toNat=(f*4294967296+d0) % Y.toNat:=by
  rw[ZEB (a:=f*4294967296+d0) (b:=q0.toNat*Y.toNat) ?_ ?_ ?_ ?_]
  .rw[Q,ybu ((f*4294967296+d0) / Y.toNat)];omega
  .rw[UInt64.toNat_add,UInt64.toNat_mul,A,x,show(4294967296:yU).toNat=4294967296 from rfl]
   omega
  .rw[UInt64.toNat_mul]
  .rw[Q,ybu ((f*4294967296+d0) / Y.toNat)];omega
  .rw[Q,ybu ((f*4294967296+d0) / Y.toNat)];omega
 rw[tr]
 have hNm:((a.toNat*18446744073709551616+b.toNat)*2 ^ s) % Y.toNat=(f*4294967296+d0) % Y.toNat:=by
  have e:(a.toNat*18446744073709551616+b.toNat)*2 ^ s=f*4294967296+d0+Y.toNat*((u*4294967296+d1) / Y.toNat*4294967296):=by
   rw[hN, <-Nat.mul_assoc];omega
  rw[e,Nat.add_mul_mod_self_left]
 rw[<-hNm,l,Nat.mul_mod_mul_right,Nat.mul_div_cancel _ X]
theorem IJ{y Y:yU}{s:Nat}(a b:yU)(f:y≠0)(hs:YO yD y=ab (s:Int))(s0:0 < s)(s1:s < 64)(h:QZ y s=Y)(e:Y.toNat=y.toNat*2 ^ s)(c:9223372036854775808<=Y.toNat):
 se yD a b y=ab (yai ((a.toNat*18446744073709551616+b.toNat) % y.toNat)):=by
 have j:0 < y.toNat:=by
  all_goals grind
 obtain⟨q,r,l,g⟩:=ZIS (a:=a % y) (b:=b) f hs s0 s1 h e c (by rw[UInt64.toNat_mod];exact Nat.mod_lt _ j);unfold se;rw[yW (by rw[yE];exact f),l,ya];dsimp only;rw[UInt64.toNat_mod,Nat.add_mod,Nat.mod_mul_mod, <-Nat.add_mod]at g;rw[<-g,UInt64.ofNat_toNat]
theorem ZMU:YO yD 4611686018427377339=ab ((2:Nat):Int):=by kernel_rfl
theorem ZMV:YO yD 2305843009213688669=ab ((3:Nat):Int):=by kernel_rfl
theorem ZMW:YO yD 2305843009213688668=ab ((3:Nat):Int):=by kernel_rfl
noncomputable def sf(F:Nat)(a0:yU)(a1:yU)(a2:yU):yO yU:=
 if(a2==4611686018427377339 || (a2==2305843009213688669 || a2==2305843009213688668))=ae then ab (yai ((a0.toNat*18446744073709551616+a1.toNat) % a2.toNat)) else se F a0 a1 a2
theorem ZIT(a b y:yU):se yD a b y=sf yD a b y:=by
 unfold sf;split
 .rename_i h;simp only[Bool.or_eq_true,yT]at h;rcases h with rfl|rfl|rfl
  .exact IJ (Y:=18446744073709509356) (s:=2) a b (by decide) ZMU (by decide) (by decide) (by kernel_rfl) (by decide) (by decide)
  .exact IJ (Y:=18446744073709509352) (s:=3) a b (by decide) ZMV (by decide) (by decide) (by kernel_rfl) (by decide) (by decide)
  .exact IJ (Y:=18446744073709509344) (s:=3) a b (by decide) ZMW (by decide) (by decide) (by kernel_rfl) (by decide) (by decide)
 .rfl
noncomputable def Zu4(F:Nat):Fs yc:={ IG F with M:=λx=>sf F x.1 x.2.1 x.2.2}
noncomputable def ZoV:Fs yc:=Zu4 yD
theorem Zu5:ZoV.Ok:=nw (s:=IG yD) ZtF λx=>(ZIT x.1 x.2.1 x.2.2).symm
end Go.Proofs.YtghfiijgklnflaaGreat
end
section
set_option maxRecDepth 4000
namespace Go.Proofs.YtghfiijgklnflaaGreat
open Go Go.Ev
noncomputable section
def Xm(F:Nat)(a0:yU)(a1:yU):yO (yU):=
 (IF F a0 a1).bind λa=>
 (sf F a.1 a.2 4611686018427377339).bind λb=>
 ab b
def ZtG(F:Nat):Fs yc:=⟨198,[.v .u64,.v .u64],[],[.u64,.u64],(zP .u64),λx=>Xm F x.1 x.2⟩
def Zm2:Fs yc:=ZtG yD
theorem ZtH:Zm2.Ok:=aX { still:=[4,8,9,13,14]} [] [ZoS,ZoV] ⟨ZuY,Zu5,aw⟩
def VU(F:Nat)(s:(yU×yU×yU)):yO ((yU×yU×yU)⊕yU):=
 if(ag (s.2.1 > 0))=ae then
  if((s.2.1&&&1)==1)=ae then
   (Xm F s.2.2 s.1).bind λa=>
   (Xm F s.1 s.1).bind λb=>
   ab (.inl (b,ZI s.2.1 1,a))
  else
  (Xm F s.1 s.1).bind λc=>
  ab (.inl (c,ZI s.2.1 1,s.2.2))
 else
 ab (.inr s.2.2)
def ZjY:Lp:=⟨[(0,.v .u64),(1,.v .u64),(5,.v .u64)],[],[.u64,.u64,.u64],[⟨.exit 0,[(5,.v .u64)],[],[.u64]⟩],Ze (VU yD) yD⟩
theorem ZnE:ZjY.bq yc 190 0:=Zx { still:=[4,13,14,16,17]} [] [Zm2] ⟨ZtH,aw⟩
def IK(F:Nat)(a0:yU)(a1:yU):yO (yU):=
 (Ze (VU F) F (a0,a1,1)).bind λa=>
 ab a
def IL(F:Nat):Fs yc:=⟨190,[.v .u64,.v .u64],[],[.u64,.u64],(zP .u64),λx=>IK F x.1 x.2⟩
def ZtI:Fs yc:=IL yD
theorem Zrp:ZtI.Ok:=aX { still:=[4,13,14,16,17]} [(0,ZjY)] [] trivial ⟨ZnE,aw⟩
end
end Go.Proofs.YtghfiijgklnflaaGreat
end
section
namespace Go.Ev
def eV(m:Nat):Nat->Nat->Nat->Nat->Nat
 |0,_,_,o=>o
 |f+1,a,n,o=>if n=0 then o else eV m f (a*a % m) (n / 2) (if n % 2=1 then o*a % m else o)
theorem ZEC{m:Nat}:∀(k a n o:Nat),n < 2 ^ k->eV m k a n o % m=o*a ^ n % m
 |0,a,n,o,h=>by
  have:n=0:=by rw[Nat.pow_zero]at h;omega
  subst this
  rw[eV,Nat.pow_zero,Nat.mul_one]
 |k+1,a,n,o,h=>by
  rw[eV];by_cases c:n=0
  .rw[yW c,c,Nat.pow_zero,Nat.mul_one]
  rw[yX c,ZEC k _ _ _ (by rw[Nat.pow_succ]at h;omega)]
  have e:a ^ n=(a*a) ^ (n / 2)*a ^ (n % 2):=by
   rw[<-Nat.pow_two, <-Nat.pow_mul, <-Nat.pow_add];congr 1;omega
  have f:(a*a % m) ^ (n / 2) % m=(a*a) ^ (n / 2) % m:=(Nat.pow_mod ..).symm;rw[e];split
  .rename_i g;rw[g,Nat.pow_one,Nat.mul_mod,f, <-Nat.mul_mod,Nat.mul_mod,Nat.mod_mod, <-Nat.mul_mod];congr 1;rw[Nat.mul_assoc,ybu a]
  .rename_i g;have:n % 2=0:=by omega
   rw[this,Nat.pow_zero,Nat.mul_one,Nat.mul_mod,f, <-Nat.mul_mod]
def ord:Nat:=2305843009213688669
def iC:Nat:=4611686018427377339
def fN(a:Nat):Prop:=0 < a/\a < iC/\a ^ ord % iC=1
end Go.Ev
end
section
set_option maxRecDepth 4000
namespace Go.Proofs.YtghfiijgklnflaaGreat
open Go Go.Ev
theorem IM{z:Nat}:(yai (z % 4611686018427377339)).toNat=z % 4611686018427377339:=by
 rw[yaz,yas];exact Nat.lt_trans (Nat.mod_lt _ (by decide)) (by decide)
theorem ZIV(a b:yU):Xm yD a b=ab (yai (a.toNat*b.toNat % 4611686018427377339)):=by
 unfold Xm IF;rw[ya];dsimp only;unfold sf;rw[yW (by decide),ya,yaz,yaz];have h:a.toNat*b.toNat < 18446744073709551616*18446744073709551616:=Nat.mul_lt_mul'' (ybx a) (ybx b);have c:a.toNat*b.toNat / 18446744073709551616 < 18446744073709551616:=(Nat.div_lt_iff_lt_mul (by decide)).2 h;generalize a.toNat*b.toNat=z at*;rw[show(4611686018427377339:yU).toNat=4611686018427377339 from rfl]
 have e:z / 18446744073709551616 % 2 ^ 64*18446744073709551616+z % 18446744073709551616 % 2 ^ 64=z:=by omega
 rw[e]
theorem IN:∀(k m:Nat)(A N O:yU),N.toNat < 2 ^ k->k < m->Ze (VU yD) m (A,N,O)=ab (yai (eV 4611686018427377339 k A.toNat N.toNat O.toNat))
 |k,0,_,_,_,_,h=>by omega
 |0,m+1,A,N,O,h,_=>by
  have x:¬N > 0:=by
   intro f;have l:0 < N.toNat:=ych.1 f;rw[Nat.pow_zero]at h;omega
  have hs:VU yD (A,N,O)=if ag (N > 0)=ae then(if((N&&&1)==1)=ae then(Xm yD O A).bind λt=>(Xm yD A A).bind λc=>ab (.inl (c,ZI N 1,t)) else(Xm yD A A).bind λc=>ab (.inl (c,ZI N 1,O))) else ab (.inr O):=rfl
  unfold Ze;rw[hs]
  rw[yX (by rw[yN];exact x),ya,eV,UInt64.ofNat_toNat]
 |k+1,m+1,A,N,O,h,z=>by
  have hs:VU yD (A,N,O)=if ag (N > 0)=ae then(if((N&&&1)==1)=ae then(Xm yD O A).bind λt=>(Xm yD A A).bind λc=>ab (.inl (c,ZI N 1,t)) else(Xm yD A A).bind λc=>ab (.inl (c,ZI N 1,O))) else ab (.inr O):=rfl
  unfold Ze;rw[hs];by_cases f:N > 0
  .have y:0 < N.toNat->eV 4611686018427377339 (k+1) A.toNat N.toNat O.toNat=eV 4611686018427377339 k (A.toNat*A.toNat % 4611686018427377339) (N.toNat / 2) (if N.toNat % 2=1 then O.toNat*A.toNat % 4611686018427377339 else O.toNat):=λh=>by
    rw[eV,yX (by omega)]
   have l:0 < N.toNat:=ych.1 f
   have e:(ZI N 1).toNat=N.toNat / 2:=by
    unfold ZI;rw[yaz,yas (ydd (Nat.div_le_self ..) (ybx _))]
   have g:(ZI N 1).toNat < 2 ^ k:=by
    rw[e];rw[Nat.pow_succ]at h;omega
   have j:((N&&&1)==1)=ag (N.toNat % 2=1):=by
    rw[ycq,yT,yN, <-ycz,UInt64.toNat_and];exact Iff.of_eq (congrArg (· =1) (Nat.and_one_is_mod _))
   rw[yW (yY f),j,y l];simp only[ZIV];by_cases s:N.toNat % 2=1
   .rw[yW (yY s),yW s,ya,ya,ya];dsimp only;rw[IN k m _ _ _ g (by omega),IM,IM,e]
   .rw[yX (by rw[yN];exact s),yX s,ya,ya];dsimp only;rw[IN k m _ _ _ g (by omega),IM,e]
  .have l:N.toNat=0:=by
    rcases ycu N.toNat with h5|h5
    .exact h5
    .exact absurd (show(0:yU) < N from ych.2 h5) f
   rw[yX (by rw[yN];exact f),ya,eV,yW l,UInt64.ofNat_toNat]
theorem ZIW(a n:yU):IK yD a n=ab (yai (eV 4611686018427377339 64 a.toNat n.toNat 1)):=by
 unfold IK;rw[IN 64 yD a n 1 (ybx _) (by rw[kJ];omega),ya];rfl
noncomputable def we(F:Nat)(a0:yU)(a1:yU):yO yU:=ab (yai (eV 4611686018427377339 64 a0.toNat a1.toNat 1))
noncomputable def ZtK(F:Nat):Fs yc:={ IL F with M:=λx=>we F x.1 x.2}
noncomputable def Zm3:Fs yc:=ZtK yD
theorem ZtL:Zm3.Ok:=nw (s:=IL yD) Zrp λx=>(ZIW x.1 x.2).symm
end Go.Proofs.YtghfiijgklnflaaGreat
end
section
set_option maxRecDepth 4000
namespace Go.Proofs.YtghfiijgklnflaaGreat
open Go Go.Ev
noncomputable section
def wg(F:Nat)(a0:yU):yO (Bool):=
 if(ag (a0 > 0))=ae then
  if(ag (a0 < 4611686018427377339))=ae then
   (we F a0 2305843009213688669).bind λa=>
   ab (a==1)
  else
  ab af
 else
 ab af
def ZtM(F:Nat):Fs yc:=⟨180,[.v .u64],[],[.u64],(zP .bool),λx=>wg F x⟩
def Zm4:Fs yc:=ZtM yD
theorem ZtN:Zm4.Ok:=aX { still:=[2,10]} [] [Zm3] ⟨ZtL,aw⟩
def QA(F:Nat)(a0:yU):yO (Bool):=
 (wg F a0).bind λa=>
 ab (!a)
def Zrq(F:Nat):Fs yc:=⟨179,[.v .u64],[],[.u64],(zP .bool),λx=>QA F x⟩
def IP:Fs yc:=Zrq yD
theorem ZjZ:IP.Ok:=aX { still:=[2,3]} [] [Zm4] ⟨ZtN,aw⟩
def Qd(F:Nat)(a0:Int):yO (Bool):=
 if(ag (a0 >= 0))=ae then
  ab (ag (a0<=1048576))
 else
 ab af
def ZtO(F:Nat):Fs yc:=⟨182,[.v yI],[],[yI],(zP .bool),λx=>Qd F x⟩
def Zm5:Fs yc:=ZtO yD
theorem ZtP:Zm5.Ok:=aX { still:=[2]} [] [] trivial
abbrev _root_.aGU:Go.Ev.Ty:=.sl .u64
abbrev Zp:Ty:=(.st [aGU,yI,yI,.u64])
abbrev _root_.aGY:=yL yU
abbrev Zz:Type:=(aGY×Int×Int×yU)
abbrev _root_.aGZ:Go.Ev.Ty:=.sl Zp
abbrev ZA:Ty:=(.st [aGZ])
abbrev _root_.aGW:=yL Zz
abbrev Z3:Type:=aGW
def XK(F:Nat)(s:(aGY×Int×Int)):yO ((aGY×Int×Int)⊕(Int⊕Unit)):=
 if(ag (s.2.2 < s.2.1))=ae then
  (idx s.1 s.2.2).bind λa=>
  (QA F a).bind λb=>
  if b=ae then
   ab (.inr (.inl s.2.2))
  else
  ab (.inl (s.1,s.2.1,wi (s.2.2+1)))
 else
 ab (.inr (.inr ()))
def Zip:Lp:=⟨[(0,.v aGU),(1,.fn 179 []),(7,.v yI),(8,.v yI)],[],[aGU,yI,yI],[⟨.ret,[(4,.v yI)],[],[yI]⟩,⟨.exit 0,[],[],[]⟩],Ze (XK yD) yD⟩
theorem Zmx:Zip.bq yc 196 0:=Zx { still:=[4,15]} [] [IP] ⟨ZjZ,aw⟩
def wh(F:Nat)(a0:aGY):yO (Int):=
 (Ze (XK F) F (a0,(a0.length:Int),0)).bind λa=>
 match a with
 |.inl b=>
  ab b
 |.inr c=>
  ab (-1)
def ZpY(F:Nat):Fs yc:=⟨196,[.v aGU,.fn 179 []],[],[aGU],(zP yI),λx=>wh F x⟩
def Zj0:Fs yc:=ZpY yD
theorem ZpZ:Zj0.Ok:=aX { still:=[4,15]} [(0,Zip)] [] trivial ⟨Zmx,aw⟩
def oX(F:Nat)(a0:aGY):yO (Bool):=
 (wh F a0).bind λa=>
 ab (ag (a >= 0))
def Zyy(F:Nat):Fs yc:=⟨181,[.v aGU,.fn 179 []],[],[aGU],(zP .bool),λx=>oX F x⟩
def ZqV:Fs yc:=Zyy yD
theorem Zyz:ZqV.Ok:=aX { still:=[4,5,6]} [] [Zj0] ⟨ZpZ,aw⟩
def WZ(F:Nat)(s:(aGW×Int×Int×Z3)):yO ((aGW×Int×Int×Z3)⊕((Bool×Z3)⊕Z3)):=
 if(ag (s.2.2.1 < s.2.1))=ae then
  (idx s.1 s.2.2.1).bind λa=>
  if(ag ((a.1.length:Int) > 12))=ae then
   ab (.inr (.inl (af,s.2.2.2)))
  else
  (oX F a.1).bind λb=>
  if b=ae then
   ab (.inr (.inl (af,s.2.2.2)))
  else
  (Qd F a.2.1).bind λc=>
  if(!c)=ae then
   ab (.inr (.inl (af,s.2.2.2)))
  else
  (Qd F a.2.2.1).bind λd=>
  if(!d)=ae then
   ab (.inr (.inl (af,s.2.2.2)))
  else
  if(a.2.2.2 !=0)=ae then
   (QA F a.2.2.2).bind λe=>
   if e=ae then
    ab (.inr (.inl (af,s.2.2.2)))
   else
   ab (.inl (s.1,s.2.1,wi (s.2.2.1+1),s.2.2.2))
  else
  ab (.inl (s.1,s.2.1,wi (s.2.2.1+1),s.2.2.2))
 else
 ab (.inr (.inr s.2.2.2))
def Zm6:Lp:=⟨[(1,.am 0 []),(3,.fn 179 []),(7,.v aGZ),(8,.v yI),(9,.v yI)],[.var (.v ZA) ae],[aGZ,yI,yI,ZA],[⟨.ret,[(2,.v .bool)],[.var (.v ZA) ae],[.bool,ZA]⟩,⟨.exit 0,[(1,.am 0 [])],[.var (.v ZA) ae],[ZA]⟩],Ze (WZ yD) yD⟩
theorem Zp0:Zm6.bq yc 139 0:=Zx { still:=[2,19,20,25,31,42]} [] [ZqV,Zm5,IP] ⟨Zyz,ZtP,ZjZ,aw⟩
def Vj(F:Nat)(a0:Z3):yO (Bool):=
 (Ze (WZ F) F (a0,(a0.length:Int),0,a0)).bind λa=>
 match a with
 |.inl b=>
  ab b.1
 |.inr c=>
  if(ag ((c.length:Int) > 0))=ae then
   ab (ag ((c.length:Int)<=4))
  else
  ab af
def Zu6(F:Nat):Fs yc:=⟨139,[.v ZA],[],[ZA],(zP .bool),λx=>Vj F x⟩
def wj:Fs yc:=Zu6 yD
theorem IQ:wj.Ok:=aX { still:=[2,19,20,25,31,42]} [(0,Zm6)] [] trivial ⟨Zp0,aw⟩
abbrev Xu:Ty:=(.st [aGQ,yI])
abbrev Xg:Type:=(aGO×Int)
abbrev Xg.N(x:Xg):Int:=x.2
abbrev bX:Ty:=(.st [Xu,Z1])
abbrev In:Type:=(Xg×Xl)
abbrev Wo:Ty:=(.st [yI,ZA])
abbrev Out:Type:=(Int×Z3)
abbrev _root_.aGT:Go.Ev.Ty:=.sl bX
abbrev _root_.aGX:Go.Ev.Ty:=.sl Wo
abbrev aQ:Ty:=(.st [aGT,aGX,yI])
abbrev _root_.aHa:=yL In
abbrev _root_.aHb:=yL Out
abbrev Tx:Type:=(aHa×aHb×Int)
def oY(F:Nat):(aHa×Int×Int×Tx×(yL (Xg×Bool)))->yO ((aHa×Int×Int×Tx×(yL (Xg×Bool)))⊕((Bool×Tx×(yL (Xg×Bool)))⊕(Tx×(yL (Xg×Bool)))))
 |(c,b,a,e,d)=>
 if(ag (a < b))=ae then
  (idx c a).bind λf=>
  lw (gx d f.1) (λg=>
   if g=ae then
    ab (.inr (.inl (af,e,d)))
   else
   if(ag (f.1.2 < 0))=ae then
    ab (.inr (.inl (af,e,d)))
   else
   if(ag (f.1.2 >= 64))=ae then
    ab (.inr (.inl (af,e,d)))
   else
   (sb F f.2).bind λh=>
   if(!h)=ae then
    ab (.inr (.inl (af,e,d)))
   else
   ab (.inl (c,b,wi (a+1),e,fB d f.1 ae))) (
   if(ag (f.1.2 < 0))=ae then
    ab (.inr (.inl (af,e,d)))
   else
   if(ag (f.1.2 >= 64))=ae then
    ab (.inr (.inl (af,e,d)))
   else
   (sb F f.2).bind λi=>
   if(!i)=ae then
    ab (.inr (.inl (af,e,d)))
   else
   ab (.inl (c,b,wi (a+1),e,fB d f.1 ae)))
 else
 ab (.inr (.inr (e,d)))
def ZqW:Lp:=⟨[(1,.am 0 []),(3,.mp 1),(33,.v aGT),(34,.v yI),(35,.v yI)],[.var (.v aQ) ae,.map 195 Xu .bool],[aGT,yI,yI,aQ,(iy Xu .bool)],[⟨.ret,[(2,.v .bool)],[.var (.v aQ) ae,.map 195 Xu .bool],[.bool,aQ,(iy Xu .bool)]⟩,⟨.exit 0,[(1,.am 0 [])],[.var (.v aQ) ae,.map 195 Xu .bool],[aQ,(iy Xu .bool)]⟩],Ze (oY yD) yD⟩
theorem ZtQ:ZqW.bq yc 79 0:=Zx { still:=[2,57,73,75,83]} [] [ZoQ] ⟨ZuV,aw⟩
def oZ(F:Nat):(Int×aHb×Int×Int×Tx×(yL (Xg×Bool)))->yO ((Int×aHb×Int×Int×Tx×(yL (Xg×Bool)))⊕((Bool×Tx×(yL (Xg×Bool)))⊕(Tx×(yL (Xg×Bool)))))
 |(d,c,b,a,e,f)=>
 if(ag (a < b))=ae then
  (idx c a).bind λg=>
  (vZ F d g.1).bind λh=>
  if(!h.2)=ae then
   ab (.inr (.inl (af,e,f)))
  else
  (Vj F g.2).bind λi=>
  if(!i)=ae then
   ab (.inr (.inl (af,e,f)))
  else
  ab (.inl (h.1,c,b,wi (a+1),e,f))
 else
 ab (.inr (.inr (e,f)))
def ZqX:Lp:=⟨[(6,.v yI),(66,.v aGX),(67,.v yI),(68,.v yI)],[.var (.v aQ) ae,.map 195 Xu .bool],[yI,aGX,yI,yI,aQ,(iy Xu .bool)],[⟨.ret,[(2,.v .bool)],[.var (.v aQ) ae,.map 195 Xu .bool],[.bool,aQ,(iy Xu .bool)]⟩,⟨.exit 2,[],[.var (.v aQ) ae,.map 195 Xu .bool],[aQ,(iy Xu .bool)]⟩],Ze (oZ yD) yD⟩
theorem ZtR:ZqX.bq yc 79 1:=Zx { still:=[2,57,73,75,83]} [] [Zws,wj] ⟨ZC9,IQ,aw⟩
def WS(F:Nat)(a0:Tx):yO (Bool):=
 if(ag ((a0.1.length:Int) < 1))=ae then
  ab af
 else
 if(ag ((a0.1.length:Int) > 64))=ae then
  ab af
 else
 if(ag ((a0.2.1.length:Int) > 64))=ae then
  ab af
 else
 if(ag (a0.2.2 < 0))=ae then
  ab af
 else
 (Ze (oY F) F (a0.1,(a0.1.length:Int),0,a0,([]:yL (Xg×Bool)))).bind λa=>
 match a with
 |.inl b=>
  ab b.1
 |.inr c=>
  (Ze (oZ F) F (0,c.1.2.1,(c.1.2.1.length:Int),0,c.1,c.2)).bind λd=>
  match d with
  |.inl e=>
   ab e.1
  |.inr f=>
   ab ae
def IR(F:Nat):Fs yc:=⟨79,[.v aQ],[],[aQ],(zP .bool),λx=>WS F x⟩
def wl:Fs yc:=IR yD
theorem wm:wl.Ok:=aX { still:=[2,57,73,75,83]} [(0,ZqW),(1,ZqX)] [] trivial ⟨ZtQ,ZtR,aw⟩
def XF(F:Nat):(aHh×Int×aHh×Int×Int)->yO ((aHh×Int×aHh×Int×Int)⊕(aHh×Int))
 |(e,d,c,b,a)=>
 if(ag (a < b))=ae then
  (idx c a).bind λf=>
  if(ag ((wi (d+(f.length:Int))) < 0))=ae then
   ad
  else
  ab (.inl (e,wi (d+(f.length:Int)),c,b,wi (a+1)))
 else
 ab (.inr (e,d))
def Q7:Lp:=⟨[(0,.v aHg),(3,.v yI),(9,.v aHg),(10,.v yI),(11,.v yI)],[],[aHg,yI,aHg,yI,yI],[⟨.exit 0,[(0,.v aHg),(3,.v yI)],[],[aHg,yI]⟩],Ze (XF yD) yD⟩
def IS:HI:={ own:=[6,24,31,33],still:=[2,23]}
theorem ZdV:Q7.bq yc 192 0:=Zx IS [] [] trivial
def Zbw:Fs yc:=⟨199,[.nil .u8,.v yI],[],[.int .i64],[⟨.ret,[(0,.own 0 .u8)],[.log .u8 5],[.sl .u8]⟩],nq⟩
theorem ZhE:Zbw.Ok:=ZKJ ZIC
def XG(F:Nat)(s:(aHh×Int×Int×aGO)):yO ((aHh×Int×Int×aGO)⊕aGO):=
 if(ag (s.2.2.1 < s.2.1))=ae then
  (idx s.1 s.2.2.1).bind λa=>
  if(bU s.2.2.2.length a.length 1)=ae then
   ab (.inl (s.1,s.2.1,wi (s.2.2.1+1),s.2.2.2++a))
  else
  ad
 else
 ab (.inr s.2.2.2)
def Q8:Lp:=⟨[(6,.own 0 .u8),(25,.v aHg),(26,.v yI),(27,.v yI)],[.log .u8 5],[aHg,yI,yI,aGP],[⟨.exit 2,[(6,.own 0 .u8)],[.log .u8 5],[aGP]⟩],Ze (XG yD) yD⟩
theorem ZdW:Q8.bq yc 192 1:=Zx IS [] [] trivial
def Xh(F:Nat)(a0:aHh):yO (aGO):=
 (Ze (XF F) F (a0,0,a0,(a0.length:Int),0)).bind λa=>
 (nq a.2).bind λb=>
 (Ze (XG F) F (a.1,(a.1.length:Int),0,b)).bind λc=>
 ab c
def Zgg(F:Nat):Fs yc:=⟨192,[.v aHg],[],[aHg],(zP aGP),λx=>Xh F x⟩
def Vc:Fs yc:=Zgg yD
theorem Q9:Vc.Ok:=aX IS [(0,Q7),(1,Q8)] [Zbw] ⟨ZhE,aw⟩ ⟨ZdV,ZdW,aw⟩
def nC(F:Nat)(a0:aGO)(a1:aGO):yO (aGO):=
 (Xh F [a0,a1]).bind λa=>
 ab a
def ZyA(F:Nat):Fs yc:=⟨176,[.v aGP,.v aGP],[],[aGP,aGP],(zP aGP),λx=>nC F x.1 x.2⟩
def wn:Fs yc:=ZyA yD
theorem IT:wn.Ok:=aX { still:=[4,7]} [] [Vc] ⟨Q9,aw⟩
def wo(F:Nat)(s:(Int×aGO)):yO ((Int×aGO)⊕(Int×aGO)):=
 if(ag (s.1 >= 128))=ae then
  if(bU s.2.length 1 1)=ae then
   let a:aGO:=s.2++([w8 (wi ((Int.tmod s.1 128)+128))]:yL yB)
   ab (.inl (wi (Int.tdiv s.1 128),a))
  else
  ad
 else
 ab (.inr (s.1,s.2))
def ZqY:Lp:=⟨[(0,.v yI),(3,.own 0 .u8)],[.log .u8 5],[yI,aGP],[⟨.exit 0,[(0,.v yI),(3,.own 0 .u8)],[.log .u8 5],[yI,aGP]⟩],Ze (wo yD) yD⟩
def hi9:HI:={ own:=[3,8,14,15,19],still:=[2]}
theorem ZtS:ZqY.bq yc 177 0:=Zx hi9 [] [] trivial
def sg(F:Nat)(a0:Int):yO (aGO):=
 (Ze (wo F) F (a0,[])).bind λa=>
 if(bU a.2.length 1 1)=ae then
  ab (a.2++([w8 a.1]:yL yB))
 else
 ad
def ZAW(F:Nat):Fs yc:=⟨177,[.v yI],[],[yI],(zP aGP),λx=>sg F x⟩
def IU:Fs yc:=ZAW yD
theorem ZqZ:IU.Ok:=aX hi9 [(0,ZqY)] [] trivial ⟨ZtS,aw⟩
def Wt(F:Nat)(a0:aGO)(a1:Int):yO (aGO):=
 if(ag (a1 < 0))=ae then
  (nC F a0 []).bind λa=>
  ab a
 else
 (sg F a1).bind λb=>
 (nC F a0 b).bind λc=>
 ab c
def ZAX(F:Nat):Fs yc:=⟨135,[.v aGP,.v yI],[],[aGP,yI],(zP aGP),λx=>Wt F x.1 x.2⟩
def nD:Fs yc:=ZAX yD
theorem pb:nD.Ok:=aX { still:=[4,7,9,10,11]} [] [wn,IU] ⟨IT,ZqZ,aw⟩
def wq(F:Nat)(a0:aGO)(a1:aGO):yO (aGO):=
 (nC F a0 a1).bind λa=>
 ab a
def Zrr(F:Nat):Fs yc:=⟨158,[.v aGP,.v aGQ],[],[aGP,aGQ],(zP aGP),λx=>wq F x.1 x.2⟩
def Zlf:Fs yc:=Zrr yD
theorem Zrs:Zlf.Ok:=aX { still:=[4,5,6],bS:=[6]} [] [wn] ⟨IT,aw⟩
def wr(F:Nat)(a0:aGO)(a1:aGO):yO (aGO):=
 (sg F (a1.length:Int)).bind λa=>
 (Xh F [a0,a,a1]).bind λb=>
 ab b
def Zp1(F:Nat):Fs yc:=⟨159,[.v aGP,.v aGP],[],[aGP,aGP],(zP aGP),λx=>wr F x.1 x.2⟩
def Zj1:Fs yc:=Zp1 yD
theorem Zp2:Zj1.Ok:=aX { still:=[4,7,10]} [] [IU,Vc] ⟨ZqZ,Q9,aw⟩
def wt(F:Nat)(s:(aGO×yU×Int×aGO)):yO ((aGO×yU×Int×aGO)⊕(aGO×aGO)):=
 if(ag (s.2.2.1 < 8))=ae then
  if(ag (0<=wi (56 - (wi (8*s.2.2.1)))))=ae then
   let a:yU:=ZI s.2.1 (min (wi (56 - (wi (8*s.2.2.1)))).toNat 64)
   if(bK s.2.2.1 8)=ae then
    (s.2.2.2[s.2.2.1.toNat]?).bind λb=>
    let c:aGO:=s.2.2.2.set s.2.2.1.toNat (w8 (a.toNat:Int))
    ab (.inl (s.1,s.2.1,wi (s.2.2.1+1),c))
   else
   ad
  else
  ad
 else
 ab (.inr (s.1,s.2.2.2))
def Zlg:Lp:=⟨[(0,.v aGP),(1,.v .u64),(5,.am 0 []),(7,.v yI)],[.var (.v aHf) ae],[aGP,.u64,yI,aHf],[⟨.exit 0,[(0,.v aGP),(5,.am 0 [])],[.var (.v aHf) ae],[aGP,aHf]⟩],Ze (wt yD) yD⟩
theorem ZoW:Zlg.bq yc 136 0:=Zx { still:=[4,19,20],bS:=[20]} [] [] trivial
def Vk(F:Nat)(a0:aGO)(a1:yU):yO (aGO):=
 (Ze (wt F) F (a0,a1,0,[0,0,0,0,0,0,0,0])).bind λa=>
 (nC F a.1 a.2).bind λb=>
 ab b
def ZtT(F:Nat):Fs yc:=⟨136,[.v aGP,.v .u64],[],[aGP,.u64],(zP aGP),λx=>Vk F x.1 x.2⟩
def sh:Fs yc:=ZtT yD
theorem wu:sh.Ok:=aX { still:=[4,19,20],bS:=[20]} [(0,Zlg)] [wn] ⟨IT,aw⟩ ⟨ZoW,aw⟩
def si(F:Nat):(aGO×aGW×Int×Int×aGY×Int×Int×Z3×Zz)->yO ((aGO×aGW×Int×Int×aGY×Int×Int×Z3×Zz)⊕(aGO×aGW×Int×Int×Z3×Zz))
 |(d,e,f,g,c,b,a,h,i)=>
 if(ag (a < b))=ae then
  (idx c a).bind λj=>
  (Vk F d j).bind λk=>
  ab (.inl (k,e,f,g,c,b,wi (a+1),h,i))
 else
 ab (.inr (d,e,f,g,h,i))
abbrev tL2:yL Ty:=[aGP,aGZ,yI,yI,aGU,yI,yI,ZA,Zp]
def Zm7:Lp:=⟨[(3,.v aGP),(5,.am 1 []),(16,.v aGZ),(17,.v yI),(18,.v yI),(28,.v aGU),(29,.v yI),(30,.v yI)],[.var (.v ZA) ae,.var (.v Zp) ae],tL2,[⟨.exit 2,[(3,.v aGP),(5,.am 1 []),(16,.v aGZ),(17,.v yI),(18,.v yI)],[.var (.v ZA) ae,.var (.v Zp) ae],[aGP,aGZ,yI,yI,ZA,Zp]⟩],Ze (si yD) yD⟩
def IV:HI:={ still:=[2,8,13,22,25,34,35,38,40,41,43,44,46]}
theorem Zp3:Zm7.bq yc 160 1:=Zx IV [] [sh] ⟨wu,aw⟩
def wv(F:Nat):(aGO×aGW×Int×Int×Z3)->yO ((aGO×aGW×Int×Int×Z3)⊕(aGO×Z3))
 |(j,i,h,g,k)=>
 if(ag (g < h))=ae then
  (idx i g).bind λl=>
  (Wt F j (l.1.length:Int)).bind λm=>
  (Ze (si F) F (m,i,h,g,l.1,(l.1.length:Int),0,k,l)).bind λ(a,c,d,e,f,b)=>
  (Wt F a b.2.1).bind λn=>
  (Wt F n b.2.2.1).bind λo=>
  (Vk F o b.2.2.2).bind λp=>
  ab (.inl (p,c,d,wi (e+1),f))
 else
 ab (.inr (j,k))
def Zm8:Lp:=⟨[(3,.v aGP),(16,.v aGZ),(17,.v yI),(18,.v yI)],[.var (.v ZA) ae],[aGP,aGZ,yI,yI,ZA],[⟨.exit 0,[(3,.v aGP)],[.var (.v ZA) ae],[aGP,ZA]⟩],Ze (wv yD) yD⟩
theorem Zp4:Zm8.bq yc 160 0:=Zx IV [(1,Zm7)] [nD,sh] ⟨pb,wu,aw⟩ ⟨Zp3,aw⟩
def sj(F:Nat)(a0:Z3):yO (aGO):=
 (Vj F a0).bind λa=>
 if(!a)=ae then
  ab []
 else
 (Wt F [] (a0.length:Int)).bind λb=>
 (Ze (wv F) F (b,a0,(a0.length:Int),0,a0)).bind λc=>
 ab c.1
def Zu7(F:Nat):Fs yc:=⟨160,[.v ZA],[],[ZA],(zP aGP),λx=>sj F x⟩
def IW:Fs yc:=Zu7 yD
theorem Zm9:IW.Ok:=aX IV [(0,Zm8)] [wj,nD] ⟨IQ,pb,aw⟩ ⟨Zp4,aw⟩
def ww(F:Nat):(aGO×aHa×Int×Int×Tx)->yO ((aGO×aHa×Int×Int×Tx)⊕(aGO×Tx))
 |(d,c,b,a,e)=>
 if(ag (a < b))=ae then
  (idx c a).bind λf=>
  (wq F d f.1.1).bind λg=>
  (Wt F g f.1.2).bind λh=>
  ab (.inl (h,c,b,wi (a+1),e))
 else
 ab (.inr (d,e))
def Zq0:Lp:=⟨[(1,.am 0 []),(3,.v aGP),(13,.v aGT),(14,.v yI),(15,.v yI)],[.var (.v aQ) ae],[aGP,aGT,yI,yI,aQ],[⟨.exit 0,[(1,.am 0 []),(3,.v aGP)],[.var (.v aQ) ae],[aGP,aQ]⟩],Ze (ww yD) yD⟩
def IX:HI:={ still:=[2,10,19,22,23,26,29,32,41,43,44,46,47,50,52]}
theorem ZtU:Zq0.bq yc 111 0:=Zx IX [] [Zlf,nD] ⟨Zrs,pb,aw⟩
def wx(F:Nat):(aGO×aHb×Int×Int×Tx)->yO ((aGO×aHb×Int×Int×Tx)⊕(aGO×Tx))
 |(d,c,b,a,e)=>
 if(ag (a < b))=ae then
  (idx c a).bind λf=>
  (Wt F d f.1).bind λg=>
  (sj F f.2).bind λh=>
  (wr F g h).bind λi=>
  ab (.inl (i,c,b,wi (a+1),e))
 else
 ab (.inr (d,e))
def Zq1:Lp:=⟨[(1,.am 0 []),(3,.v aGP),(35,.v aGX),(36,.v yI),(37,.v yI)],[.var (.v aQ) ae],[aGP,aGX,yI,yI,aQ],[⟨.exit 2,[(1,.am 0 []),(3,.v aGP)],[.var (.v aQ) ae],[aGP,aQ]⟩],Ze (wx yD) yD⟩
theorem ZtV:Zq1.bq yc 111 1:=Zx IX [] [nD,IW,Zj1] ⟨pb,Zm9,Zp2,aw⟩
def wy(F:Nat)(a0:Tx):yO (aGO):=
 (Wt F [] (a0.1.length:Int)).bind λa=>
 (Ze (ww F) F (a,a0.1,(a0.1.length:Int),0,a0)).bind λb=>
 (Wt F b.1 (b.2.2.1.length:Int)).bind λc=>
 (Ze (wx F) F (c,b.2.2.1,(b.2.2.1.length:Int),0,b.2)).bind λd=>
 (Wt F d.1 d.2.2.2).bind λe=>
 ab e
def ZAY(F:Nat):Fs yc:=⟨111,[.v aQ],[],[aQ],(zP aGP),λx=>wy F x⟩
def ZtW:Fs yc:=ZAY yD
theorem ZAZ:ZtW.Ok:=aX IX [(0,Zq0),(1,Zq1)] [nD] ⟨pb,aw⟩ ⟨ZtU,ZtV,aw⟩
def wz(F:Nat):(aGO×aHa×Int×Int×aHd×Int×Int×Tx×In)->yO ((aGO×aHa×Int×Int×aHd×Int×Int×Tx×In)⊕(aGO×aHa×Int×Int×Tx×In))
 |(d,e,f,g,c,b,a,h,i)=>
 if(ag (a < b))=ae then
  (idx c a).bind λj=>
  (Vk F d j.1).bind λk=>
  (Vk F k j.2).bind λl=>
  ab (.inl (l,e,f,g,c,b,wi (a+1),h,i))
 else
 ab (.inr (d,e,f,g,h,i))
def Zq2:Lp:=⟨[(3,.v aGP),(5,.am 1 []),(14,.v aGT),(15,.v yI),(16,.v yI),(32,.v aHc),(33,.v yI),(34,.v yI)],[.var (.v aQ) ae,.var (.v bX) ae],[aGP,aGT,yI,yI,aHc,yI,yI,aQ,bX],[⟨.exit 2,[(3,.v aGP),(5,.am 1 []),(14,.v aGT),(15,.v yI),(16,.v yI)],[.var (.v aQ) ae,.var (.v bX) ae],[aGP,aGT,yI,yI,aQ,bX]⟩],Ze (wz yD) yD⟩
def IY:HI:={ still:=[2,8,11,20,23,24,28,38,40,41,43,46,49]}
theorem ZtX:Zq2.bq yc 78 1:=Zx IY [] [sh] ⟨wu,aw⟩
def wA(F:Nat):(aGO×aHa×Int×Int×Tx)->yO ((aGO×aHa×Int×Int×Tx)⊕(aGO×Tx))
 |(j,i,h,g,k)=>
 if(ag (g < h))=ae then
  (idx i g).bind λl=>
  (Wt F j l.2.1).bind λm=>
  (Wt F m (l.2.2.1.length:Int)).bind λn=>
  (Ze (wz F) F (n,i,h,g,l.2.2.1,(l.2.2.1.length:Int),0,k,l)).bind λ(a,c,d,e,f,b)=>
  (Vk F a b.2.2.2).bind λo=>
  ab (.inl (o,c,d,wi (e+1),f))
 else
 ab (.inr (j,k))
def Zq3:Lp:=⟨[(3,.v aGP),(14,.v aGT),(15,.v yI),(16,.v yI)],[.var (.v aQ) ae],[aGP,aGT,yI,yI,aQ],[⟨.exit 0,[(3,.v aGP)],[.var (.v aQ) ae],[aGP,aQ]⟩],Ze (wA yD) yD⟩
theorem ZtY:Zq3.bq yc 78 0:=Zx IY [(1,Zq2)] [nD,sh] ⟨pb,wu,aw⟩ ⟨ZtX,aw⟩
def sk(F:Nat)(a0:Tx):yO (aGO):=
 (WS F a0).bind λa=>
 if(!a)=ae then
  ab []
 else
 (wy F a0).bind λb=>
 (Ze (wA F) F (b,a0.1,(a0.1.length:Int),0,a0)).bind λc=>
 ab c.1
def ZA0(F:Nat):Fs yc:=⟨78,[.v aQ],[],[aQ],(zP aGP),λx=>sk F x⟩
def ZtZ:Fs yc:=ZA0 yD
theorem ZA1:ZtZ.Ok:=aX IY [(0,Zq3)] [wl,ZtW] ⟨wm,ZAZ,aw⟩ ⟨ZtY,aw⟩
def sn(F:Nat)(a0:Vb):yO (Bool):=
 if(ag ((a0.2.length:Int) > 0))=ae then
  ab (ag ((a0.2.length:Int)<=8192))
 else
 ab af
def IZ(F:Nat):Fs yc:=⟨80,[.v ZY],[],[ZY],(zP .bool),λx=>sn F x⟩
def JA:Fs yc:=IZ yD
theorem JB:JA.Ok:=aX { still:=[2]} [] [] trivial
def V1(F:Nat)(a0:Tx)(a1:aGO):yO ((Vb×Bool)):=
 (V0 F a1).bind λa=>
 (rY F a1).bind λb=>
 (sk F a0).bind λc=>
 (vX F b c).bind λd=>
 (WS F a0).bind λe=>
 if(!e)=ae then
  ab (([0,0,0,0,0,0,0,0,0,0,0,0,0,0,0,0],[]),af)
 else
 (sn F (a,d)).bind λf=>
 if(!f)=ae then
  ab (([0,0,0,0,0,0,0,0,0,0,0,0,0,0,0,0],[]),af)
 else
 ab ((a,d),ae)
def JC(F:Nat):Fs yc:=⟨31,[.v aQ,.v aGQ],[],[aQ,aGQ],[⟨.ret,[(0,.bf [.v ZY,.v .bool])],[],[ZY,.bool]⟩],λx=>V1 F x.1 x.2⟩
def ZoX:Fs yc:=JC yD
def ZOb:HI:={ still:=[5,7,9,10,11,12,15,19]}
theorem Zna:ZoX.Ok:=aX ZOb [] [vQ,HX,ZtZ,ZqQ,wl,JA] ⟨vR,HY,ZA1,Zyu,wm,JB,aw⟩
def wB(F:Nat)(a0:aGO)(a1:aGO):yO ((aGO×Bool)):=
 if(ag ((wi ((a1.length:Int) - 8)) < 0))=ae then
  ab ([],af)
 else
 if(ag ((wi ((a1.length:Int) - 8)) > 65536))=ae then
  ab ([],af)
 else
 if(VQ a1.length ad (ab (wi ((a1.length:Int) - 8))))=ae then
  (sa F a0 (a1.take ((wi ((a1.length:Int) - 8)).toNat))).bind λa=>
  if(VQ a1.length (ab (wi ((a1.length:Int) - 8))) ad)=ae then
   if(ag (8<=(a1.drop ((wi ((a1.length:Int) - 8)).toNat)).length))=ae then
    let b:Bool:= !(ag (a=(a1.drop ((wi ((a1.length:Int) - 8)).toNat)).take 8))
    if b=ae then
     ab ([],af)
    else
    if(VQ a1.length ad (ab (wi ((a1.length:Int) - 8))))=ae then
     (vU F a0 (a1.take ((wi ((a1.length:Int) - 8)).toNat))).bind λc=>
     ab (c,ae)
    else
    ad
   else
   ad
  else
  ad
 else
 ad
def JD(F:Nat):Fs yc:=⟨83,[.v aGQ,.v aGP],[],[aGQ,aGP],[⟨.ret,[(0,.bf [.v aGP,.v .bool])],[],[aGP,.bool]⟩],λx=>wB F x.1 x.2⟩
def Zq4:Fs yc:=JD yD
theorem ZoY:Zq4.Ok:=aX { still:=[4,5,17,20,29,32]} [] [ID,ZqO] ⟨ZqP,Zys,aw⟩
abbrev Zb:Ty:=(.st [aGP,.bool])
abbrev Zc:Type:=(aGO×Bool)
abbrev Zc.b(x:Zc):aGO:=x.1
abbrev Zc.no(x:Zc):Bool:=x.2
def so(F:Nat)(a0:aGO):yO (Zc):=
 (Yj F a0).bind λa=>
 ab (a,af)
def ZyB(F:Nat):Fs yc:=⟨140,[.v aGP],[],[aGP],[⟨.ret,[(0,.am 0 [])],[.var (.v Zb) ae],[Zb]⟩],λx=>so F x⟩
def JE:Fs yc:=ZyB yD
theorem ZoZ:JE.Ok:=aX { still:=[2,3]} [] [WX] ⟨QK,aw⟩
def ZM(F:Nat)(s:(aGO×aGO×Int×Int)):yO ((aGO×aGO×Int×Int)⊕(Bool⊕Unit)):=
 if(ag (s.2.2.2 < s.2.2.1))=ae then
  (idx s.1 s.2.2.2).bind λa=>
  (idx s.2.1 s.2.2.2).bind λb=>
  if(a !=b)=ae then
   ab (.inr (.inl af))
  else
  ab (.inl (s.1,s.2.1,s.2.2.1,wi (s.2.2.2+1)))
 else
 ab (.inr (.inr ()))
def ZaC:Lp:=⟨[(0,.v aGP),(1,.v aGP),(12,.v yI),(13,.v yI)],[],[aGP,aGP,yI,yI],[⟨.ret,[(4,.v .bool)],[],[.bool]⟩,⟨.exit 0,[],[],[]⟩],Ze (ZM yD) yD⟩
theorem ZeI:ZaC.bq yc 186 0:=Zx { still:=[4]} [] [] trivial
def Z8(F:Nat)(a0:aGO)(a1:aGO):yO (Bool):=
 if((a0.length:Int)!=(a1.length:Int))=ae then
  ab af
 else
 (Ze (ZM F) F (a0,a1,(a0.length:Int),0)).bind λa=>
 match a with
 |.inl b=>
  ab b
 |.inr c=>
  ab ae
def ZgJ(F:Nat):Fs yc:=⟨186,[.v aGP,.v aGP],[],[aGP,aGP],(zP .bool),λx=>Z8 F x.1 x.2⟩
def ZaT:Fs yc:=ZgJ yD
theorem ZgK:ZaT.Ok:=aX { still:=[4]} [(0,ZaC)] [] trivial ⟨ZeI,aw⟩
def We(F:Nat)(s0:Int)(c:Zc):yO ((Bool×Int×Zc)):=
 if(ag (s0 >= (c.1.length:Int)))=ae then
  ab (ae,s0,c)
 else
 if(ag (s0 > 8))=ae then
  ab (ae,s0,c)
 else
 if(ag (s0 > 0))=ae then
  (idx c.1 s0).bind λa=>
  ab (a==0,s0,c)
 else
 ab (af,s0,c)
def Zlj(F:Nat):Fs yc:=⟨183,[.am 0 [],.am 1 []],[.var (.v yI) ae,.var (.am 2 []) ae,.var (.v Zb) ae],[yI,Zb],[⟨.ret,[(0,.v .bool)],[.var (.v yI) ae,.var (.am 2 []) ae,.var (.v Zb) ae],[.bool,yI,Zb]⟩],λx=>We F x.1 x.2⟩
def ZeQ:Fs yc:=Zlj yD
theorem Zlk:ZeQ.Ok:=aX { still:=[2]} [] [] trivial
def Vl(F:Nat)(s0:Zc):yO (Zc):=
 ab ([],ae)
def Zmy(F:Nat):Fs yc:=⟨184,[.am 0 []],[.var (.v Zb) ae],[Zb],[⟨.ret,[(0,.bf [])],[.var (.v Zb) ae],[Zb]⟩],λx=>Vl F x⟩
def JF:Fs yc:=Zmy yD
theorem ZeR:JF.Ok:=aX {} [] [] trivial
def WB(F:Nat)(s:(Int×Zc×Int)):yO ((Int×Zc×Int)⊕((Int×Zc×Int)⊕(Int×Zc×Int))):=
 (We F s.2.2 s.2.1).bind λa=>
 if a.1=ae then
  (Vl F a.2.2).bind λb=>
  ab (.inr (.inl (0,b,a.2.1)))
 else
 (idx a.2.2.1 a.2.1).bind λc=>
 if(ag (0<=wi (7*a.2.1)))=ae then
  let d:Int:=wi (((c % 128).toNat:Int)*2 ^ (min (wi (7*a.2.1)).toNat 64))
  if(ag (c < 128))=ae then
   ab (.inr (.inr (bits .or .i64 s.1 d,a.2.2,wi (a.2.1+1))))
  else
  ab (.inl (bits .or .i64 s.1 d,a.2.2,wi (a.2.1+1)))
 else
 ad
abbrev zI:List bh:=[.var (.v Zb) ae,.var (.am 0 []) ae,.var (.v yI) ae]
def Zgj:Lp:=⟨[(1,.am 1 []),(3,.v yI),(4,.am 2 []),(5,.fn 183 [.am 2 [],.am 1 []])],zI,[yI,Zb,yI],[⟨.ret,[(2,.v yI)],zI,[yI,Zb,yI]⟩,⟨.exit 0,[(1,.am 1 []),(3,.v yI),(4,.am 2 [])],zI,[yI,Zb,yI]⟩],Ze (WB yD) yD⟩
theorem Zj7:Zgj.bq yc 142 0:=Zx { still:=[2,10]} [] [ZeQ,JF] ⟨Zlk,ZeR,aw⟩
def ZX(F:Nat)(s0:Zc):yO ((Int×Zc)):=
 (Ze (WB F) F (0,s0,0)).bind λa=>
 match a with
 |.inl b=>
  ab (b.1,b.2.1)
 |.inr c=>
  if(VQ c.2.1.1.length (ab c.2.2) ad)=ae then
   ab (c.1,(c.2.1.1.drop c.2.2.toNat,c.2.1.2))
  else
  ad
def ZnG(F:Nat):Fs yc:=⟨142,[.am 0 []],[.var (.v Zb) ae],[Zb],[⟨.ret,[(0,.v yI)],[.var (.v Zb) ae],[yI,Zb]⟩],λx=>ZX F x⟩
def YG:Fs yc:=ZnG yD
theorem YP:YG.Ok:=aX { still:=[2,10]} [(0,Zgj)] [] trivial ⟨Zj7,aw⟩
def Wu(F:Nat)(a1:Int)(s0:Zc):yO ((aGO×Zc)):=
 if s0.2=ae then
  (Vl F s0).bind λa=>
  ab ([],a)
 else
 if(ag (a1 > (s0.1.length:Int)))=ae then
  (Vl F s0).bind λb=>
  ab ([],b)
 else
 if(VQ s0.1.length ad (ab a1))=ae then
  (Yj F (s0.1.take a1.toNat)).bind λc=>
  if(VQ s0.1.length (ab a1) ad)=ae then
   ab (c,(s0.1.drop a1.toNat,s0.2))
  else
  ad
 else
 ad
def Zmz(F:Nat):Fs yc:=⟨185,[.am 0 [],.v yI],[.var (.v Zb) ae],[yI,Zb],[⟨.ret,[(0,.v aGP)],[.var (.v Zb) ae],[aGP,Zb]⟩],λx=>Wu F x.1 x.2⟩
def Qe:Fs yc:=Zmz yD
theorem JG:Qe.Ok:=aX { still:=[4,19,26]} [] [JF,WX] ⟨ZeR,QK,aw⟩
def VJ(F:Nat):(yU×aGO×Int×Int×Zc)->yO ((yU×aGO×Int×Int×Zc)⊕(yU×Zc))
 |(d,c,b,a,e)=>
 if(ag (a < b))=ae then
  (idx c a).bind λf=>
  ab (.inl ((QZ d 8)|||(yai f.toNat),c,b,wi (a+1),e))
 else
 ab (.inr (d,e))
def Zgk:Lp:=⟨[(3,.v .u64),(7,.v aGP),(8,.v yI),(9,.v yI)],[.var (.v Zb) ae],[.u64,aGP,yI,yI,Zb],[⟨.exit 0,[(3,.v .u64)],[.var (.v Zb) ae],[.u64,Zb]⟩],Ze (VJ yD) yD⟩
theorem Zj8:Zgk.bq yc 146 0:=Zx { still:=[2,6]} [] [] trivial
def Xv(F:Nat)(s0:Zc):yO ((yU×Zc)):=
 (Wu F 8 s0).bind λa=>
 (Ze (VJ F) F (0,a.1,(a.1.length:Int),0,a.2)).bind λb=>
 ab (b.1,b.2)
def ZnH(F:Nat):Fs yc:=⟨146,[.am 0 []],[.var (.v Zb) ae],[Zb],[⟨.ret,[(0,.v .u64)],[.var (.v Zb) ae],[.u64,Zb]⟩],λx=>Xv F x⟩
def Vm:Fs yc:=ZnH yD
theorem Qf:Vm.Ok:=aX { still:=[2,6]} [(0,Zgk)] [Qe] ⟨JG,aw⟩ ⟨Zj8,aw⟩
abbrev dT1:Type:=(aGO×Int×Int×Int×Int×Z3×Zc×aGW×Int×Int×yU×aGY)
def ZNT:yL bh:=[.var (.v ZA) ae,.var (.v Zb) ae,.var (.agg [.own 3 Zp]) ae,.log Zp 133,.var (.agg [.own 5 .u64,.v yI,.v yI,.v .u64]) ae,.log .u64 128]
abbrev tL3:yL Ty:=[aGP,yI,yI,ZA,Zb,aGZ,yI,yI,.u64,aGU]
abbrev tL4:yL Ty:=[aGP,yI,yI,yI,yI,ZA,Zb,aGZ,yI,yI,.u64,aGU]
def JH:HI:={ own:=[31,35,48,51],still:=[3,10,12,19,32,38,40,44,53,57,58,59],aZ:=[(5,[([0],Zp,133)]),(8,[([0],.u64,128)])]}
def Wj(F:Nat):dT1->yO (dT1⊕(aGO×Int×Int×Z3×Zc×aGW×Int×Int×yU×aGY))
 |(e,f,g,b,a,h,c,i,j,k,l,d)=>
 if(ag (a < b))=ae then
  (Xv F c).bind λm=>
  if(bU d.length 1 8)=ae then
   let n:aGY:=d++([m.1]:yL yU)
   ab (.inl (e,f,g,b,wi (a+1),h,m.2,i,j,k,l,n))
  else
  ad
 else
 ab (.inr (e,f,g,h,c,i,j,k,l,d))
def Zo0:Lp:=⟨[(0,.v aGP),(2,.am 0 []),(4,.am 1 []),(5,.am 2 []),(6,.v yI),(7,.v yI),(8,.am 4 []),(27,.v yI),(28,.v yI)],ZNT,tL4,[⟨.exit 2,[(0,.v aGP),(2,.am 0 []),(4,.am 1 []),(5,.am 2 []),(6,.v yI),(7,.v yI),(8,.am 4 [])],ZNT,tL3⟩],Ze (Wj yD) yD⟩
theorem Zrt:Zo0.bq yc 144 1:=Zx JH [] [Vm] ⟨Qf,aw⟩
def VG(F:Nat):(aGO×Int×Int×Z3×Zc×aGW)->yO ((aGO×Int×Int×Z3×Zc×aGW)⊕(aGO×Z3×Zc×aGW))
 |(k,i,h,l,j,m)=>
 if(ag (h < i))=ae then
  (ZX F j).bind λn=>
  if(h==4)=ae then
   ab (.inr (k,l,n.2,m))
  else
  if(ag (n.1 > 12))=ae then
   ab (.inr (k,l,n.2,m))
  else
  (Ze (Wj F) F (k,i,h,n.1,0,l,n.2,m,0,0,0,[])).bind λ(d,e,f,g,a,b,_,_,_,c)=>
  (ZX F a).bind λo=>
  (ZX F o.2).bind λp=>
  (Xv F p.2).bind λq=>
  if(bU b.length 1 48)=ae then
   let r:aGW:=b++([(c,o.1,p.1,q.1)]:yL Zz)
   ab (.inl (d,e,wi (f+1),g,q.2,r))
  else
  ad
 else
 ab (.inr (k,l,j,m))
def Zo1:Lp:=⟨[(0,.v aGP),(2,.am 0 []),(4,.am 1 []),(5,.am 2 []),(6,.v yI),(7,.v yI)],[.var (.v ZA) ae,.var (.v Zb) ae,.var (.agg [.own 3 Zp]) ae,.log Zp 133],[aGP,yI,yI,ZA,Zb,aGZ],[⟨.exit 0,[(0,.v aGP),(2,.am 0 []),(5,.am 2 [])],[.var (.v ZA) ae,.var (.v Zb) ae,.var (.agg [.own 3 Zp]) ae,.log Zp 133],[aGP,ZA,Zb,aGZ]⟩],Ze (VG yD) yD⟩
theorem Zru:Zo1.bq yc 144 0:=Zx JH [(1,Zo0)] [YG,Vm] ⟨YP,Qf,aw⟩ ⟨Zrt,aw⟩
def nE(F:Nat)(a0:aGO):yO ((Z3×Bool)):=
 (so F a0).bind λa=>
 (ZX F a).bind λb=>
 (Ze (VG F) F (a0,b.1,0,[],b.2,[])).bind λc=>
 (Vj F c.2.2.2).bind λd=>
 if(!d)=ae then
  ab ([],af)
 else
 (sj F c.2.2.2).bind λe=>
 (Z8 F e c.1).bind λf=>
 if(!f)=ae then
  ab ([],af)
 else
 ab (c.2.2.2,ae)
def ZyC(F:Nat):Fs yc:=⟨144,[.v aGP],[],[aGP],[⟨.ret,[(0,.bf [.v ZA,.v .bool])],[],[ZA,.bool]⟩],λx=>nE F x⟩
def Zq5:Fs yc:=ZyC yD
theorem ZyD:Zq5.Ok:=aX JH [(0,Zo1)] [JE,YG,wj,IW,ZaT] ⟨ZoZ,YP,IQ,Zm9,ZgK,aw⟩ ⟨Zru,aw⟩
def pc(F:Nat)(a0:Int)(s1:Zc):yO ((Int×Zc)):=
 (ZX F s1).bind λa=>
 if(ag (a.1 > a0))=ae then
  ab ((-1),a.2)
 else
 ab (a.1,a.2)
def ZyE(F:Nat):Fs yc:=⟨141,[.v yI,.am 0 []],[.var (.am 1 []) ae,.var (.v Zb) ae],[yI,Zb],[⟨.ret,[(0,.v yI)],[.var (.am 1 []) ae,.var (.v Zb) ae],[yI,Zb]⟩],λx=>pc F x.1 x.2⟩
def JI:Fs yc:=ZyE yD
theorem Zo2:JI.Ok:=aX { still:=[3,5]} [] [YG] ⟨YP,aw⟩
def QM(F:Nat)(s0:Zc):yO ((aGO×Zc)):=
 (Wu F 32 s0).bind λa=>
 if(ag (a.1.length<=32)&&ag (0+32<=32))=ae then
  let b:aGO:=gk.take 0++(a.1++gk.drop (0+a.1.length))
  ab (b,a.2)
 else
 ad
def ZmA(F:Nat):Fs yc:=⟨143,[.am 0 []],[.var (.v Zb) ae],[Zb],[⟨.ret,[(0,.v aGQ)],[.var (.v Zb) ae],[aGQ,Zb]⟩],λx=>QM F x⟩
def Zgl:Fs yc:=ZmA yD
theorem ZmB:Zgl.Ok:=aX { still:=[5]} [] [Qe] ⟨JG,aw⟩
abbrev zK:=Tx×Int×aHb×aGV×aHa×aHa×Zc
def Vn(F:Nat):(Int×Int×Int×zK)->yO ((Int×Int×Int×zK)⊕(Int×zK))
 |(f,b,a,g,h,i,j,d,e,c)=>
 if(ag (a < b))=ae then
  (QM F c).bind λk=>
  (ZX F k.2).bind λl=>
  if(bU (d.length+e.length) 1 80)=ae then
   let m:aHa:=e++([((k.1,l.1),(0,[],0))]:yL In)
   ab (.inl (f,b,wi (a+1),g,h,i,()::j,d,m,l.2))
  else
  ad
 else
 ab (.inr (f,g,h,i,j,d,e,c))
def lQ:yL bh:=[.var (.v aQ) ae,.var (.agg [.rw 3,.own 2 Wo,.v yI]) ae,.log Wo 130,.aJ bX [1,1] ae 123,.var (.v Zb) ae,.var (.am 4 []) ae]
abbrev tL5:yL Ty:=[yI,yI,yI,aQ,yI,aGX,aGS,aGT,aGT,Zb]
def Zt0:Lp:=⟨[(2,.am 0 []),(4,.am 1 []),(5,.am 5 []),(6,.fn 141 [.am 5 []]),(7,.v yI),(20,.v yI),(21,.v yI)],lQ,tL5,[⟨.exit 0,[(2,.am 0 []),(4,.am 1 []),(5,.am 5 []),(6,.fn 141 [.am 5 []]),(7,.v yI)],lQ,[yI,aQ,yI,aGX,aGS,aGT,aGT,Zb]⟩],Ze (Vn yD) yD⟩
def ZOc:HI:={ own:=[24,32,55,58,92,99],still:=[3,15,25,27,40,44,45,61,76,93,95,104,116,121,126],bj:=[24,32,71],aZ:=[(4,[([1],Wo,130)])],lits:=[31]}
theorem Zu8:Zt0.bq yc 84 0:=Zx ZOc [] [Zgl,YG] ⟨ZmB,YP,aw⟩
def Qg(F:Nat)(s0:Zc):yO ((aGO×Zc)):=
 (ZX F s0).bind λa=>
 if a.2.2=ae then
  ab ([],a.2)
 else
 (Wu F a.1 a.2).bind λb=>
 ab (b.1,b.2)
def Zlm(F:Nat):Fs yc:=⟨145,[.am 0 []],[.var (.v Zb) ae],[Zb],[⟨.ret,[(0,.v aGP)],[.var (.v Zb) ae],[aGP,Zb]⟩],λx=>Qg F x⟩
def ZeS:Fs yc:=Zlm yD
theorem Zln:ZeS.Ok:=aX { still:=[2,4,10,11]} [] [YG,Qe] ⟨YP,JG,aw⟩
def Vo(F:Nat):(Int×Int×Int×Int×zK)->yO ((Int×Int×Int×Int×zK)⊕((Bool×zK)⊕(Int×Int×zK)))
 |(i,j,b,a,k,d,e,f,g,h,c)=>
 if(ag (a < b))=ae then
  (ZX F c).bind λl=>
  (Qg F l.2).bind λm=>
  (nE F m.1).bind λn=>
  if(!n.2)=ae then
   ab (.inr (.inl (af,([],[],0),d,e,f,g,h,m.2)))
  else
  if(bU e.length 1 32)=ae then
   let o:aHb:=e++([(l.1,n.1)]:yL Out)
   ab (.inl (i,j,b,wi (a+1),k,d,o,f,g,h,m.2))
  else
  ad
 else
 ab (.inr (.inr (i,j,k,d,e,f,g,h,c)))
abbrev tL6:yL Ty:=[yI,yI,aQ,yI,aGX,aGS,aGT,aGT,Zb]
abbrev tL7:yL Ty:=[yI,yI,yI,yI,aQ,yI,aGX,aGS,aGT,aGT,Zb]
def Zt1:Lp:=⟨[(2,.am 0 []),(4,.am 1 []),(5,.am 5 []),(6,.fn 141 [.am 5 []]),(7,.v yI),(8,.v yI),(37,.v yI),(38,.v yI)],lQ,tL7,[⟨.ret,[(2,.am 0 []),(3,.v .bool)],lQ,[.bool,aQ,yI,aGX,aGS,aGT,aGT,Zb]⟩,⟨.exit 2,[(2,.am 0 []),(4,.am 1 []),(5,.am 5 []),(6,.fn 141 [.am 5 []]),(7,.v yI),(8,.v yI)],lQ,tL6⟩],Ze (Vo yD) yD⟩
def wC:HI:={ own:=[24,32,55,58,92,99],still:=[3,15,25,27,40,44,45,61,76,93,95,104,116,121,126],bj:=[24,32,71],aZ:=[(4,[([1],Wo,130)])],cO:=[(9,[([1,0],Zp,133)])],lits:=[31]}
theorem Zu9:Zt1.bq yc 84 1:=Zx wC [] [YG,ZeS,Zq5] ⟨YP,Zln,ZyD,aw⟩
abbrev dT2:Type:=(Int×Int×Int×Int×Int×Int×Int×Tx×Int×aHb×aGV×aHa×aHa×Xg×Int×yU×Zc×aHd)
abbrev dT3:Type:=(Int×Int×Int×Int×Int×Tx×Int×aHb×aGV×aHa×aHa×Xg×Int×yU×Zc×aHd)
def Vp(F:Nat):dT2->yO (dT2⊕dT3)
 |(g,h,c,i,j,b,a,k,l,m,n,d,o,p,q,r,e,f)=>
 if(ag (a < b))=ae then
  if(ag (c.toNat=d.length))=ae then
   (Xv F e).bind λs=>
   (Xv F s.2).bind λt=>
   if(bU f.length 1 16)=ae then
    let u:aHd:=f++([(s.1,t.1)]:yL dz)
    if(ag (c.toNat=d.length))=ae then
     ab (.inl (g,h,(c.toNat:Int),i,j,b,wi (a+1),k,l,m,n,d,o,p,q,r,t.2,u))
    else
    ad
   else
   ad
  else
  ad
 else
 ab (.inr (g,h,(c.toNat:Int),i,j,k,l,m,n,d,o,p,q,r,e,f))
def ZNU:yL bh:=[.var (.v aQ) ae,.var (.agg [.rw 3,.own 2 Wo,.v yI]) ae,.log Wo 130,.bz bX [1,1] ae 123 (.agg [.v Xu,.agg [.v yI,.own 6 fb,.v .u64]]),.var (.v Zb) ae,.var (.am 4 []) ae,.log fb 140]
abbrev tL8:yL Ty:=[yI,yI,yI,yI,yI,aQ,yI,aGX,aGS,aGT,aGT,Xu,yI,.u64,Zb,aHc]
abbrev tL9:yL Ty:=[yI,yI,yI,yI,yI,yI,yI,aQ,yI,aGX,aGS,aGT,aGT,Xu,yI,.u64,Zb,aHc]
def Zt2:Lp:=⟨[(2,.am 0 []),(4,.am 1 []),(5,.am 5 []),(6,.fn 141 [.am 5 []]),(7,.v yI),(8,.v yI),(13,.rp 3 36 [.fC 1 33]),(66,.v yI),(67,.v yI),(85,.v yI),(86,.v yI)],ZNU,tL9,[⟨.exit 6,[(2,.am 0 []),(4,.am 1 []),(5,.am 5 []),(6,.fn 141 [.am 5 []]),(7,.v yI),(8,.v yI),(13,.rp 3 36 [.fC 1 33]),(66,.v yI),(67,.v yI)],ZNU,tL8⟩],Ze (Vp yD) yD⟩
theorem Zva:Zt2.bq yc 84 3:=Zx wC [] [Vm] ⟨Qf,aw⟩
def Vq(F:Nat):(Int×Int×Int×Int×zK)->yO ((Int×Int×Int×Int×zK)⊕((Bool×zK)⊕(Int×Int×zK)))
 |(y,z,q,p,A,v,w,x,r,t,u)=>
 if(ag (p < q))=ae then
  if(ag (p=(r.length:Int)))=ae then
   uX t λE G=>
    if(bK p (r.length+(G.length+1)))=ae then
     (ZX F u).bind λs=>
     if(ag (p.toNat=r.length))=ae then
      (pc F 12 s.2).bind λB=>
      if(ag (B.1 < 0))=ae then
       ab (.inr (.inl (af,([],[],0),v,w,x,r++([(E.1,(s.1,[],E.2.2.2))]:yL In),G,B.2)))
      else
      (Ze (Vp F) F (y,z,(p.toNat:Int),q,p,B.1,0,A,v,w,x,r,G,E.1,s.1,E.2.2.2,B.2,[])).bind λ(d,e,b,f,g,h,i,j,k,c,o,l,m,_,a,n)=>
      (Xv F a).bind λC=>
      if(ag (b.toNat=c.length))=ae then
       ab (.inl (d,e,f,wi (g+1),h,i,j,k,c++([(l,(m,n,C.1))]:yL In),o,C.2))
      else
      ad
     else
     ad
    else
    ad
  else
  ad
 else
 ab (.inr (.inr (y,z,A,v,w,x,r,t,u)))
def Zt3:Lp:=⟨[(2,.am 0 []),(4,.am 1 []),(5,.am 5 []),(6,.fn 141 [.am 5 []]),(7,.v yI),(8,.v yI),(66,.v yI),(67,.v yI)],lQ,tL7,[⟨.ret,[(2,.am 0 []),(3,.v .bool)],lQ,[.bool,aQ,yI,aGX,aGS,aGT,aGT,Zb]⟩,⟨.exit 4,[(2,.am 0 []),(4,.am 1 []),(5,.am 5 []),(7,.v yI),(8,.v yI)],lQ,tL6⟩],Ze (Vq yD) yD⟩
theorem Zvb:Zt3.bq yc 84 2:=ZEm (fi:={ hi:=wC,lp:=[(3,Zt2)],gh:=[(4,.focus 12 fb 140)]}) (aD:={ l:=[YG,JI,Vm]}) (rh ⟨YP,Zo2,Qf,aw⟩) ⟨Zva,aw⟩
def wD(F:Nat)(s0:Zc):yO ((Bool×Zc)):=
 ab (!s0.2,s0)
def Zo3(F:Nat):Fs yc:=⟨147,[.am 0 []],[.var (.v Zb) ae],[Zb],[⟨.ret,[(0,.v .bool)],[.var (.v Zb) ae],[.bool,Zb]⟩],λx=>wD F x⟩
def Zis:Fs yc:=Zo3 yD
theorem Zo4:Zis.Ok:=aX { still:=[2]} [] [] trivial
def QN(F:Nat)(s0:Zc):yO ((Int×Zc)):=
 ab ((s0.1.length:Int),s0)
def ZmC(F:Nat):Fs yc:=⟨148,[.am 0 []],[.var (.v Zb) ae],[Zb],[⟨.ret,[(0,.v yI)],[.var (.v Zb) ae],[yI,Zb]⟩],λx=>QN F x⟩
def Zgm:Fs yc:=ZmC yD
theorem ZmD:Zgm.Ok:=aX { still:=[2]} [] [] trivial
def nF(F:Nat)(a0:aGO):yO ((Tx×Bool)):=
 (so F a0).bind λs=>
 (pc F 64 s).bind λy=>
 (Ze (Vn F) F (y.1,y.1,0,([],[],0),0,[],[],[],[],y.2)).bind λ(q,r,t,u,v,w,x,p)=>
 (pc F 64 p).bind λz=>
 (Ze (Vo F) F (q,z.1,z.1,0,r,t,u,v,w,x,z.2)).bind λA=>
 match A with
 |.inl (b,a,_,_,_,_,_,_)=>
  ab (a,b)
 |.inr (k,l,m,_,n,o,i,j,h)=>
  (ZX F h).bind λB=>
  let C:Int:=(((i.length+j.length):Nat):Int)
  (Ze (Vq F) F (k,l,C,0,m,B.1,n,o,i,j,B.2)).bind λD=>
  match D with
  |.inl (b,a,_,_,_,_,_,_)=>
   ab (a,b)
  |.inr (b,c,_,g,f,_,e,a,d)=>
   if a.isEmpty=ae then
    if(ag (b < 0))=ae then
     ab (([],[],0),af)
    else
    if(ag (c < 0))=ae then
     ab (([],[],0),af)
    else
    (wD F d).bind λE=>
    if(!E.1)=ae then
     ab (([],[],0),af)
    else
    (QN F E.2).bind λG=>
    if(ag (G.1 > 0))=ae then
     ab (([],[],0),af)
    else
    (WS F (e,f,g)).bind λH=>
    if(!H)=ae then
     ab (([],[],0),af)
    else
    ab ((e,f,g),ae)
   else
   ad
def JJ(F:Nat):Fs yc:=⟨84,[.v aGP],[],[aGP],[⟨.ret,[(0,.bf [.v aQ,.v .bool])],[],[aQ,.bool]⟩],λx=>nF F x⟩
def Zwt:Fs yc:=JJ yD
theorem Zt4:Zwt.Ok:=GK (fi:={ hi:=wC,lp:=[(0,Zt0),(1,Zt1),(2,Zt3)],gh:=[(2,.rows 4 [0] bX 123 [1,1]),(41,.done 4)]}) (aD:={ l:=[JE,JI,YG,Zis,Zgm,wl]}) (rh ⟨ZoZ,Zo2,YP,Zo4,ZmD,wm,aw⟩) ⟨Zu8,Zu9,Zvb,aw⟩
def nG(F:Nat)(a0:Vb)(a1:aGO):yO ((Tx×Bool)):=
 (rY F a1).bind λa=>
 (wB F a a0.2).bind λb=>
 if(!b.2)=ae then
  ab (([],[],0),af)
 else
 (sn F a0).bind λc=>
 if(!c)=ae then
  ab (([],[],0),af)
 else
 (V0 F a1).bind λd=>
 if(!(ag (a0.1=d)))=ae then
  ab (([],[],0),af)
 else
 (nF F b.1).bind λe=>
 ab (e.1,e.2)
def JK(F:Nat):Fs yc:=⟨33,[.v ZY,.v aGQ],[],[ZY,aGQ],[⟨.ret,[(0,.bf [.v aQ,.v .bool])],[],[aQ,.bool]⟩],λx=>nG F x.1 x.2⟩
def Zo5:Fs yc:=JK yD
theorem Znb:Zo5.Ok:=aX { still:=[5,9,10,12,19,26,31]} [] [HX,Zq4,JA,vQ,Zwt] ⟨HY,ZoY,JB,vR,Zt4,aw⟩
def pd(F:Nat)(s:(aHd×aHd×Int×Int)):yO ((aHd×aHd×Int×Int)⊕(Bool⊕Unit)):=
 if(ag (s.2.2.2 < s.2.2.1))=ae then
  (idx s.1 s.2.2.2).bind λa=>
  (idx s.2.1 s.2.2.2).bind λb=>
  if(!(ag (a=b)))=ae then
   ab (.inr (.inl af))
  else
  ab (.inl (s.1,s.2.1,s.2.2.1,wi (s.2.2.2+1)))
 else
 ab (.inr (.inr ()))
def Zt5:Lp:=⟨[(0,.v aHc),(1,.v aHc),(12,.v yI),(13,.v yI)],[],[aHc,aHc,yI,yI],[⟨.ret,[(4,.v .bool)],[],[.bool]⟩,⟨.exit 0,[],[],[]⟩],Ze (pd yD) yD⟩
theorem Zvc:Zt5.bq yc 88 0:=Zx { still:=[4]} [] [] trivial
def wE(F:Nat)(a0:aHd)(a1:aHd):yO (Bool):=
 if((a0.length:Int)!=(a1.length:Int))=ae then
  ab af
 else
 (Ze (pd F) F (a0,a1,(a0.length:Int),0)).bind λa=>
 match a with
 |.inl b=>
  ab b
 |.inr c=>
  ab ae
def ZDb(F:Nat):Fs yc:=⟨88,[.v aHc,.v aHc],[],[aHc,aHc],(zP .bool),λx=>wE F x.1 x.2⟩
def Zwu:Fs yc:=ZDb yD
theorem ZDc:Zwu.Ok:=aX { still:=[4]} [(0,Zt5)] [] trivial ⟨Zvc,aw⟩
def wF(F:Nat)(a0:In)(a1:In):yO (Bool):=
 if(ag (a0.1=a1.1))=ae then
  if(a0.2.1==a1.2.1)=ae then
   if(a0.2.2.2==a1.2.2.2)=ae then
    (wE F a0.2.2.1 a1.2.2.1).bind λa=>
    ab a
   else
   ab af
  else
  ab af
 else
 ab af
def ZyF(F:Nat):Fs yc:=⟨87,[.v bX,.v bX],[],[bX,bX],(zP .bool),λx=>wF F x.1 x.2⟩
def Zq6:Fs yc:=ZyF yD
theorem ZyG:Zq6.Ok:=aX { still:=[4,31,34]} [] [Zwu] ⟨ZDc,aw⟩
def WT(F:Nat)(s:(aGY×aGY×Int×Int)):yO ((aGY×aGY×Int×Int)⊕(Bool⊕Unit)):=
 if(ag (s.2.2.2 < s.2.2.1))=ae then
  (idx s.1 s.2.2.2).bind λa=>
  (idx s.2.1 s.2.2.2).bind λb=>
  if(a !=b)=ae then
   ab (.inr (.inl af))
  else
  ab (.inl (s.1,s.2.1,s.2.2.1,wi (s.2.2.2+1)))
 else
 ab (.inr (.inr ()))
def Zj2:Lp:=⟨[(0,.v aGU),(1,.v aGU),(12,.v yI),(13,.v yI)],[],[aGU,aGU,yI,yI],[⟨.ret,[(4,.v .bool)],[],[.bool]⟩,⟨.exit 0,[],[],[]⟩],Ze (WT yD) yD⟩
theorem ZnJ:Zj2.bq yc 90 0:=Zx { still:=[4]} [] [] trivial
def wG(F:Nat)(a0:aGY)(a1:aGY):yO (Bool):=
 if((a0.length:Int)!=(a1.length:Int))=ae then
  ab af
 else
 (Ze (WT F) F (a0,a1,(a0.length:Int),0)).bind λa=>
 match a with
 |.inl b=>
  ab b
 |.inr c=>
  ab ae
def Zrv(F:Nat):Fs yc:=⟨90,[.v aGU,.v aGU],[],[aGU,aGU],(zP .bool),λx=>wG F x.1 x.2⟩
def Zlo:Fs yc:=Zrv yD
theorem Zrw:Zlo.Ok:=aX { still:=[4]} [(0,Zj2)] [] trivial ⟨ZnJ,aw⟩
def wH(F:Nat)(a0:Zz)(a1:Zz):yO (Bool):=
 if(a0.2.1==a1.2.1)=ae then
  if(a0.2.2.1==a1.2.2.1)=ae then
   if(a0.2.2.2==a1.2.2.2)=ae then
    (wG F a0.1 a1.1).bind λa=>
    ab a
   else
   ab af
  else
  ab af
 else
 ab af
def ZyH(F:Nat):Fs yc:=⟨89,[.v Zp,.v Zp],[],[Zp,Zp],(zP .bool),λx=>wH F x.1 x.2⟩
def Zq7:Fs yc:=ZyH yD
theorem ZyI:Zq7.Ok:=aX { still:=[4,26,28]} [] [Zlo] ⟨Zrw,aw⟩
def pf(F:Nat)(s:(aHa×aHa×Int×Int)):yO ((aHa×aHa×Int×Int)⊕(Bool⊕Unit)):=
 if(ag (s.2.2.2 < s.2.2.1))=ae then
  (idx s.2.1 s.2.2.2).bind λa=>
  (idx s.1 s.2.2.2).bind λb=>
  (wF F a b).bind λc=>
  if(!c)=ae then
   ab (.inr (.inl af))
  else
  ab (.inl (s.1,s.2.1,s.2.2.1,wi (s.2.2.2+1)))
 else
 ab (.inr (.inr ()))
def Zwv:Lp:=⟨[(1,.v aGT),(2,.fn 87 []),(15,.v aGT),(16,.v yI),(17,.v yI)],[],[aGT,aGT,yI,yI],[⟨.ret,[(6,.v .bool)],[],[.bool]⟩,⟨.exit 0,[],[],[]⟩],Ze (pf yD) yD⟩
theorem ZyJ:Zwv.bq yc 93 0:=Zx { still:=[6,27,28]} [] [Zq6] ⟨ZyG,aw⟩
def wI(F:Nat)(a0:aHa)(a1:aHa):yO (Bool):=
 if((a0.length:Int)!=(a1.length:Int))=ae then
  ab af
 else
 (Ze (pf F) F (a1,a0,(a0.length:Int),0)).bind λa=>
 match a with
 |.inl b=>
  ab b
 |.inr c=>
  ab ae
def ZFO(F:Nat):Fs yc:=⟨93,[.v aGT,.v aGT,.fn 87 []],[],[aGT,aGT],(zP .bool),λx=>wI F x.1 x.2⟩
def ZA3:Fs yc:=ZFO yD
theorem ZFP:ZA3.Ok:=aX { still:=[6,27,28]} [(0,Zwv)] [] trivial ⟨ZyJ,aw⟩
def VV(F:Nat)(s:(aGW×aGW×Int×Int)):yO ((aGW×aGW×Int×Int)⊕(Bool⊕Unit)):=
 if(ag (s.2.2.2 < s.2.2.1))=ae then
  (idx s.2.1 s.2.2.2).bind λa=>
  (idx s.1 s.2.2.2).bind λb=>
  (wH F a b).bind λc=>
  if(!c)=ae then
   ab (.inr (.inl af))
  else
  ab (.inl (s.1,s.2.1,s.2.2.1,wi (s.2.2.2+1)))
 else
 ab (.inr (.inr ()))
def Znc:Lp:=⟨[(1,.v aGZ),(2,.fn 89 []),(15,.v aGZ),(16,.v yI),(17,.v yI)],[],[aGZ,aGZ,yI,yI],[⟨.ret,[(6,.v .bool)],[],[.bool]⟩,⟨.exit 0,[],[],[]⟩],Ze (VV yD) yD⟩
theorem Zp5:Znc.bq yc 92 0:=Zx { still:=[6,27,28]} [] [Zq7] ⟨ZyI,aw⟩
def wJ(F:Nat)(a0:aGW)(a1:aGW):yO (Bool):=
 if((a0.length:Int)!=(a1.length:Int))=ae then
  ab af
 else
 (Ze (VV F) F (a1,a0,(a0.length:Int),0)).bind λa=>
 match a with
 |.inl b=>
  ab b
 |.inr c=>
  ab ae
def Zvd(F:Nat):Fs yc:=⟨92,[.v aGZ,.v aGZ,.fn 89 []],[],[aGZ,aGZ],(zP .bool),λx=>wJ F x.1 x.2⟩
def Zo7:Fs yc:=Zvd yD
theorem Zve:Zo7.Ok:=aX { still:=[6,27,28]} [(0,Znc)] [] trivial ⟨Zp5,aw⟩
def wK(F:Nat)(a0:Out)(a1:Out):yO (Bool):=
 if(a0.1==a1.1)=ae then
  (wJ F a0.2 a1.2).bind λa=>
  ab a
 else
 ab af
def ZyK(F:Nat):Fs yc:=⟨91,[.v Wo,.v Wo,.am 0 []],[.var (.fn 89 []) ae],[Wo,Wo],[⟨.ret,[(0,.v .bool)],[.var (.fn 89 []) ae],[.bool]⟩],λx=>wK F x.1 x.2⟩
def Zq8:Fs yc:=ZyK yD
theorem ZyL:Zq8.Ok:=aX { still:=[5,14,17,18]} [] [Zo7] ⟨Zve,aw⟩
def pg(F:Nat)(s:(aHb×aHb×Int×Int)):yO ((aHb×aHb×Int×Int)⊕(Bool⊕Unit)):=
 if(ag (s.2.2.2 < s.2.2.1))=ae then
  (idx s.2.1 s.2.2.2).bind λa=>
  (idx s.1 s.2.2.2).bind λb=>
  (wK F a b).bind λc=>
  if(!c)=ae then
   ab (.inr (.inl af))
  else
  ab (.inl (s.1,s.2.1,s.2.2.1,wi (s.2.2.2+1)))
 else
 ab (.inr (.inr ()))
def Zt6:Lp:=⟨[(1,.v aGX),(2,.fn 91 [.am 0 []]),(15,.v aGX),(16,.v yI),(17,.v yI)],[.var (.fn 89 []) ae],[aGX,aGX,yI,yI],[⟨.ret,[(6,.v .bool)],[.var (.fn 89 []) ae],[.bool]⟩,⟨.exit 0,[],[.var (.fn 89 []) ae],[]⟩],Ze (pg yD) yD⟩
theorem Zvf:Zt6.bq yc 94 0:=Zx { still:=[6,27,28]} [] [Zq8] ⟨ZyL,aw⟩
def wL(F:Nat)(a0:aHb)(a1:aHb):yO (Bool):=
 if((a0.length:Int)!=(a1.length:Int))=ae then
  ab af
 else
 (Ze (pg F) F (a1,a0,(a0.length:Int),0)).bind λa=>
 match a with
 |.inl b=>
  ab b
 |.inr c=>
  ab ae
def ZDd(F:Nat):Fs yc:=⟨94,[.v aGX,.v aGX,.fn 91 [.am 0 []]],[.var (.fn 89 []) ae],[aGX,aGX],[⟨.ret,[(0,.v .bool)],[.var (.fn 89 []) ae],[.bool]⟩],λx=>wL F x.1 x.2⟩
def Zww:Fs yc:=ZDd yD
theorem ZDe:Zww.Ok:=aX { still:=[6,27,28]} [(0,Zt6)] [] trivial ⟨Zvf,aw⟩
def nH(F:Nat)(a0:Tx)(a1:Tx):yO (Bool):=
 if(a0.2.2==a1.2.2)=ae then
  (wI F a0.1 a1.1).bind λa=>
  if a=ae then
   (wL F a0.2.1 a1.2.1).bind λb=>
   ab b
  else
  ab af
 else
 ab af
def JL(F:Nat):Fs yc:=⟨37,[.v aQ,.v aQ],[],[aQ,aQ],(zP .bool),λx=>nH F x.1 x.2⟩
def Zwx:Fs yc:=JL yD
def ZOd:HI:={ still:=[4,16,18,19,24,26,27]}
theorem Zt7:Zwx.Ok:=aX ZOd [] [ZA3,Zww] ⟨ZFP,ZDe,aw⟩
def Zcq(F:Nat)(s:((yL Int)×(yL Int)×Int)):yO (((yL Int)×(yL Int)×Int)⊕(Bool⊕Unit)):=
 if(ag (s.2.2 < (s.1.length:Int)))=ae then
  (idx s.1 s.2.2).bind λa=>
  (idx s.2.1 s.2.2).bind λb=>
  if(a !=b)=ae then
   ab (.inr (.inl af))
  else
  ab (.inl (s.1,s.2.1,wi (s.2.2+1)))
 else
 ab (.inr (.inr ()))
def ZdY:Lp:=⟨[(0,.v (.sl yI)),(1,.v (.sl yI)),(5,.v yI)],[],[(.sl yI),(.sl yI),yI],[⟨.ret,[(4,.v .bool)],[],[.bool]⟩,⟨.exit 0,[],[],[]⟩],Ze (Zcq yD) yD⟩
theorem Zit:ZdY.bq yc 40 0:=Zx { still:=[4]} [] [] trivial
def ZnL(F:Nat)(a0:(yL Int))(a1:(yL Int)):yO (Bool):=
 if((a0.length:Int)!=(a1.length:Int))=ae then
  ab af
 else
 (Ze (Zcq F) F (a0,a1,0)).bind λa=>
 match a with
 |.inl b=>
  ab b
 |.inr c=>
  ab ae
def JM(F:Nat):Fs yc:=⟨40,[.v (.sl yI),.v (.sl yI)],[],[(.sl yI),(.sl yI)],(zP .bool),λx=>ZnL F x.1 x.2⟩
def ZmE:Fs yc:=JM yD
theorem Zlp:ZmE.Ok:=aX { still:=[4]} [(0,ZdY)] [] trivial ⟨Zit,aw⟩
def wM(F:Nat)(a0:aGO):yO (aGO):=
 if(bU 0 a0.length 1)=ae then
  ab a0
 else
 ad
def JN(F:Nat):Fs yc:=⟨74,[.sl ae .u8],[],[aGP],(zP aGP),λx=>wM F x⟩
def Zvg:Fs yc:=JN yD
theorem Zlq:Zvg.Ok:=aX { own:=[5,7],still:=[2]} [] [] trivial
def Zj3(F:Nat):yO (aGO):=
 ab []
def JO(F:Nat):Fs yc:=⟨74,[.nil .u8],[],[],(zP aGP),λx=>Zj3 F⟩
def Zp6:Fs yc:=JO yD
theorem Zhq:Zp6.Ok:=aX { own:=[5,7],still:=[2]} [] [] trivial
def JP(F:Nat):Fs yc:=⟨74,[.v aGP],[],[aGP],(zP aGP),λx=>wM F x⟩
def Zj4:Fs yc:=JP yD
theorem Ziu:Zj4.Ok:=vp (t:=.u8) (xs:=(zP aGP)) (MA:=λ(x:aGO)=>wM yD x) (MB:=λ_=>Zj3 yD) Zlq Zhq rfl
def ZA4(F:Nat)(a0:Vb):yO (Vb):=
 (wM F a0.2).bind λa=>
 ab (a0.1,a)
def JQ(F:Nat):Fs yc:=⟨100,[.v ZY],[],[ZY],(zP ZY),λx=>ZA4 F x⟩
def ZyM:Fs yc:=JQ yD
theorem Zvh:ZyM.Ok:=aX { still:=[4]} [] [Zj4] ⟨Ziu,aw⟩
def ZNV:ByteArray:=⟨#[112,114,111,118,101]⟩
def ZyN(F:Nat)(a0:aGO)(a1:Vb):yO (aGO):=
 (lO F ZNV [a0,a1.2]).bind λa=>
 ab a
def JR(F:Nat):Fs yc:=⟨16,[.v aGQ,.v ZY],[],[aGQ,ZY],(zP aGQ),λx=>ZyN F x.1 x.2⟩
def Zvi:Fs yc:=JR yD
theorem Zt8:Zvi.Ok:=aX { still:=[8],bS:=[5]} [] [oT] ⟨oU,aw⟩
def wN(F:Nat)(a0:aGY):yO (aGY):=
 if(bU 0 a0.length 8)=ae then
  ab a0
 else
 ad
def Zp7(F:Nat):Fs yc:=⟨174,[.sl ae .u64],[],[aGU],(zP aGU),λx=>wN F x⟩
def Zrx:Fs yc:=Zp7 yD
theorem Zp8:Zrx.Ok:=aX { own:=[5,7],still:=[2]} [] [] trivial
def Zhr(F:Nat):yO (aGY):=
 ab []
def ZmF(F:Nat):Fs yc:=⟨174,[.nil .u64],[],[],(zP aGU),λx=>Zhr F⟩
def ZnM:Fs yc:=ZmF yD
theorem ZmG:ZnM.Ok:=aX { own:=[5,7],still:=[2]} [] [] trivial
def ZnN(F:Nat):Fs yc:=⟨174,[.v aGU],[],[aGU],(zP aGU),λx=>wN F x⟩
def Zhs:Fs yc:=ZnN yD
theorem ZnO:Zhs.Ok:=vp (t:=.u64) (xs:=(zP aGU)) (MA:=λ(x:aGY)=>wN yD x) (MB:=λ_=>Zhr yD) Zp8 ZmG rfl
def Zwy(F:Nat)(a0:aGY):yO (Z3):=
 (wN F a0).bind λa=>
 ab [(a,0,0,0)]
def ZA5(F:Nat):Fs yc:=⟨132,[.v aGU],[],[aGU],(zP ZA),λx=>Zwy F x⟩
def Zt9:Fs yc:=ZA5 yD
theorem ZA6:Zt9.Ok:=aX { still:=[3]} [] [Zhs] ⟨ZnO,aw⟩
def ZFQ(F:Nat)(a0:yU):yO (Z3):=
 (Zwy F [a0]).bind λa=>
 ab a
def JS(F:Nat):Fs yc:=⟨76,[.v .u64],[],[.u64],(zP ZA),λx=>ZFQ F x⟩
def ZDf:Fs yc:=JS yD
theorem ZA7:ZDf.Ok:=aX { still:=[4]} [] [Zt9] ⟨ZA6,aw⟩
def Yw(F:Nat)(s:(Int×Tx)):yO ((Int×Tx)⊕((Bool×Tx)⊕Tx)):=
 if(ag (s.1 < (s.2.1.length:Int)))=ae then
  (idx s.2.1 s.1).bind λa=>
  if(ag ((a.2.2.1.length:Int) > 14))=ae then
   ab (.inr (.inl (af,s.2)))
  else
  ab (.inl (wi (s.1+1),s.2))
 else
 ab (.inr (.inr s.2))
def Zcr:Lp:=⟨[(1,.am 0 []),(3,.v yI)],[.var (.v aQ) ae],[yI,aQ],[⟨.ret,[(2,.v .bool)],[.var (.v aQ) ae],[.bool,aQ]⟩,⟨.exit 0,[(1,.am 0 [])],[.var (.v aQ) ae],[aQ]⟩],Ze (Yw yD) yD⟩
theorem ZhI:Zcr.bq yc 30 0:=Zx { still:=[2]} [] [] trivial
def YU(F:Nat)(s:(Int×Int×Tx)):yO ((Int×Int×Tx)⊕((Bool×Tx)⊕(Int×Tx))):=
 (idx s.2.2.2.1 s.1).bind λa=>
 if(ag (s.2.1 < (a.2.length:Int)))=ae then
  (idx s.2.2.2.1 s.1).bind λb=>
  (idx b.2 s.2.1).bind λc=>
  if(ag ((c.1.length:Int) > 14))=ae then
   ab (.inr (.inl (af,s.2.2)))
  else
  ab (.inl (s.1,wi (s.2.1+1),s.2.2))
 else
 ab (.inr (.inr (s.1,s.2.2)))
def Zcs:Lp:=⟨[(1,.am 0 []),(4,.v yI),(5,.v yI)],[.var (.v aQ) ae],[yI,yI,aQ],[⟨.ret,[(2,.v .bool)],[.var (.v aQ) ae],[.bool,aQ]⟩,⟨.exit 4,[(1,.am 0 []),(4,.v yI)],[.var (.v aQ) ae],[yI,aQ]⟩],Ze (YU yD) yD⟩
theorem ZhJ:Zcs.bq yc 30 2:=Zx { still:=[2]} [] [] trivial
def Yx(F:Nat)(s:(Int×Tx)):yO ((Int×Tx)⊕((Bool×Tx)⊕Tx)):=
 if(ag (s.1 < (s.2.2.1.length:Int)))=ae then
  (idx s.2.2.1 s.1).bind λa=>
  if(ag ((a.2.length:Int) > 6))=ae then
   ab (.inr (.inl (af,s.2)))
  else
  (Ze (YU F) F (s.1,0,s.2)).bind λb=>
  match b with
  |.inl c=>
   ab (.inr (.inl (c.1,c.2)))
  |.inr d=>
   ab (.inl (wi (d.1+1),d.2))
 else
 ab (.inr (.inr s.2))
def Zct:Lp:=⟨[(1,.am 0 []),(4,.v yI)],[.var (.v aQ) ae],[yI,aQ],[⟨.ret,[(2,.v .bool)],[.var (.v aQ) ae],[.bool,aQ]⟩,⟨.exit 2,[],[.var (.v aQ) ae],[aQ]⟩],Ze (Yx yD) yD⟩
theorem ZhK:Zct.bq yc 30 1:=Zx { still:=[2]} [(2,Zcs)] [] trivial ⟨ZhJ,aw⟩
def VK(F:Nat)(a0:Tx):yO (Bool):=
 if(ag ((a0.1.length:Int) > 66))=ae then
  ab af
 else
 if(ag ((a0.2.1.length:Int) > 66))=ae then
  ab af
 else
 (Ze (Yw F) F (0,a0)).bind λa=>
 match a with
 |.inl b=>
  ab b.1
 |.inr c=>
  (Ze (Yx F) F (0,c)).bind λd=>
  match d with
  |.inl e=>
   ab e.1
  |.inr f=>
   ab ae
def Zj9(F:Nat):Fs yc:=⟨30,[.v aQ],[],[aQ],(zP .bool),λx=>VK F x⟩
def ZdZ:Fs yc:=Zj9 yD
theorem Zka:ZdZ.Ok:=aX { still:=[2]} [(0,Zcr),(1,Zct)] [] trivial ⟨ZhI,ZhK,aw⟩
def WG(F:Nat)(a0:Xl):yO (Bool):=
 if(ag (a0.1 >= 0))=ae then
  if(ag (a0.1<=3))=ae then
   ab (ag ((a0.2.1.length:Int)<=12))
  else
  ab af
 else
 ab af
def ZhL(F:Nat):Fs yc:=⟨113,[.v Z1],[],[Z1],(zP .bool),λx=>WG F x⟩
def ZbA:Fs yc:=ZhL yD
theorem ZhM:ZbA.Ok:=aX { still:=[2]} [] [] trivial
def Xw(F:Nat)(s:(yU×yU×yU)):yO ((yU×yU×yU)⊕yU):=
 if(ag (s.2.1 > 0))=ae then
  if((s.2.1 % 2)==1)=ae then
   ab (.inl ((s.1+s.1) % 4611686018427377339,s.2.1 / 2,(s.2.2+s.1) % 4611686018427377339))
  else
  ab (.inl ((s.1+s.1) % 4611686018427377339,s.2.1 / 2,s.2.2))
 else
 ab (.inr s.2.2)
def Zb4:Lp:=⟨[(0,.v .u64),(1,.v .u64),(5,.v .u64)],[],[.u64,.u64,.u64],[⟨.exit 0,[(5,.v .u64)],[],[.u64]⟩],Ze (Xw yD) yD⟩
theorem ZgL:Zb4.bq yc 205 0:=Zx { still:=[4]} [] [] trivial
def Vr(F:Nat)(a0:yU)(a1:yU):yO (yU):=
 (Ze (Xw F) F (a0,a1,0)).bind λa=>
 ab a
def Qh(F:Nat):Fs yc:=⟨205,[.v .u64,.v .u64],[],[.u64,.u64],(zP .u64),λx=>Vr F x.1 x.2⟩
def Zkb:Fs yc:=Qh yD
theorem ZjA:Zkb.Ok:=aX { still:=[4]} [(0,Zb4)] [] trivial ⟨ZgL,aw⟩
end
end Go.Proofs.YtghfiijgklnflaaGreat
end
section
set_option maxRecDepth 4000
namespace Go.Proofs.YtghfiijgklnflaaGreat
open Go Go.Ev
theorem ph{z:Nat}:(yai (z % 4611686018427377339)).toNat=z % 4611686018427377339:=by
 rw[yaz,yas];exact Nat.lt_trans (Nat.mod_lt _ (by decide)) (by decide)
theorem ZIX{a b:yU}(ha:a.toNat < 4611686018427377339)(hb:b.toNat < 4611686018427377339):((a+b) % 4611686018427377339).toNat=(a.toNat+b.toNat) % 4611686018427377339:=by
 rw[UInt64.toNat_mod,UInt64.toNat_add,show(4611686018427377339:yU).toNat=4611686018427377339 from rfl,yas (a:=a.toNat+b.toNat) (by omega)]
theorem JT:∀(k m:Nat)(A B O:yU),A.toNat < 4611686018427377339->O.toNat < 4611686018427377339->B.toNat < 2 ^ k->k < m->
 Ze (Xw yD) m (A,B,O)=ab (yai ((O.toNat+A.toNat*B.toNat) % 4611686018427377339))
 |k,0,_,_,_,_,_,_,h=>by omega
 |0,m+1,A,B,O,x,g,h,_=>by
  have G:B.toNat=0:=by rw[Nat.pow_zero]at h;omega
  have I:¬B > 0:=by
   intro f;have y:0 < B.toNat:=ych.1 f;omega
  have hs:Xw yD (A,B,O)=if ag (B > 0)=ae then(if((B % 2)==1)=ae then ab (.inl ((A+A) % 4611686018427377339,B / 2,(O+A) % 4611686018427377339)) else ab (.inl ((A+A) % 4611686018427377339,B / 2,O))) else ab (.inr O):=rfl
  unfold Ze;rw[hs]
  rw[yX (by rw[yN];exact I),ya,G,Nat.mul_zero,ycl,yas g,UInt64.ofNat_toNat]
 |k+1,m+1,A,B,O,x,g,h,M=>by
  have hs:Xw yD (A,B,O)=if ag (B > 0)=ae then(if((B % 2)==1)=ae then ab (.inl ((A+A) % 4611686018427377339,B / 2,(O+A) % 4611686018427377339)) else ab (.inl ((A+A) % 4611686018427377339,B / 2,O))) else ab (.inr O):=rfl
  unfold Ze;rw[hs];by_cases f:B > 0
  .have y:0 < B.toNat:=ych.1 f;have c:(B / 2).toNat=B.toNat / 2:=by rw[UInt64.toNat_div];rfl
   have j:(B / 2).toNat < 2 ^ k:=by
    rw[c];rw[Nat.pow_succ]at h;omega
   have l:((B % 2)==1)=ag (B.toNat % 2=1):=by
    rw[ycq,yT,yN, <-ycz,UInt64.toNat_mod];rfl
   have e:=ZIX x x;have s:((A+A) % 4611686018427377339).toNat < 4611686018427377339:=by rw[e];exact Nat.mod_lt _ (by decide)
   have F:B.toNat=2*(B.toNat / 2)+B.toNat % 2:=by omega
   rw[yW (yY f),l];by_cases z:B.toNat % 2=1
   .have t:=ZIX g x;have E:((O+A) % 4611686018427377339).toNat < 4611686018427377339:=by rw[t];exact Nat.mod_lt _ (by decide)
    rw[yW (yY z),ya];dsimp only;rw[JT k m _ _ _ s E j (by omega),e,t,c];congr 2;rw[Nat.add_mod,Nat.mod_mod,Nat.mod_mul_mod, <-Nat.add_mod];congr 1
    conv=>rhs;rw[F,z,Nat.mul_add,Nat.mul_one, <-Nat.mul_assoc]
    rw[Nat.mul_two];omega
   .rw[yX (by rw[yN];exact z),ya];dsimp only;rw[JT k m _ _ _ s g j (by omega),e,c];congr 2;rw[Nat.add_mod,Nat.mod_mul_mod, <-Nat.add_mod];congr 1
    conv=>rhs;rw[F,show B.toNat % 2=0 by omega,ycl, <-Nat.mul_assoc]
    rw[Nat.mul_two]
  .have y:B.toNat=0:=by
    rcases ycu B.toNat with h5|h5
    .exact h5
    .exact absurd (show(0:yU) < B from ych.2 h5) f
   rw[yX (by rw[yN];exact f),ya,y,Nat.mul_zero,ycl,yas g,UInt64.ofNat_toNat]
noncomputable def Zv(F:Nat)(a0:yU)(a1:yU):yO yU:=if ag (a0.toNat < 4611686018427377339)=ae then ab (yai (a0.toNat*a1.toNat % 4611686018427377339)) else Vr F a0 a1
theorem ZFR(a b:yU):Vr yD a b=Zv yD a b:=by
 unfold Zv;split
 .rename_i h;unfold Vr;rw[JT 64 yD a b 0 (yF h) (by decide) (ybx _) (by rw[kJ];omega),ya,show(0:yU).toNat=0 from rfl,Nat.zero_add]
 .rfl
noncomputable def Zkc(F:Nat):Fs yc:={ Qh F with M:=λx=>Zv F x.1 x.2}
noncomputable def Zd0:Fs yc:=Zkc yD
theorem Zkd:Zd0.Ok:=nw (s:=Qh yD) ZjA λx=>(ZFR x.1 x.2).symm
end Go.Proofs.YtghfiijgklnflaaGreat
end
section
set_option maxRecDepth 4000
namespace Go.Proofs.YtghfiijgklnflaaGreat
open Go Go.Ev
noncomputable section
def Xx(F:Nat)(s:(yU×yU×yU)):yO ((yU×yU×yU)⊕yU):=
 if(ag (s.2.1 > 0))=ae then
  if((s.2.1 % 2)==1)=ae then
   (Zv F s.2.2 s.1).bind λa=>
   (Zv F s.1 s.1).bind λb=>
   ab (.inl (b,s.2.1 / 2,a))
  else
  (Zv F s.1 s.1).bind λc=>
  ab (.inl (c,s.2.1 / 2,s.2.2))
 else
 ab (.inr s.2.2)
def Zb5:Lp:=⟨[(0,.v .u64),(1,.v .u64),(5,.v .u64)],[],[.u64,.u64,.u64],[⟨.exit 0,[(5,.v .u64)],[],[.u64]⟩],Ze (Xx yD) yD⟩
theorem ZgM:Zb5.bq yc 200 0:=Zx { still:=[4,11,12,14,15]} [] [Zd0] ⟨Zkd,aw⟩
def Vs(F:Nat)(a0:yU)(a1:yU):yO (yU):=
 (Ze (Xx F) F (a0,a1,1)).bind λa=>
 ab a
def Qi(F:Nat):Fs yc:=⟨200,[.v .u64,.v .u64],[],[.u64,.u64],(zP .u64),λx=>Vs F x.1 x.2⟩
def Zke:Fs yc:=Qi yD
theorem ZjB:Zke.Ok:=aX { still:=[4,11,12,14,15]} [(0,Zb5)] [] trivial ⟨ZgM,aw⟩
end
end Go.Proofs.YtghfiijgklnflaaGreat
end
section
set_option maxRecDepth 4000
namespace Go.Proofs.YtghfiijgklnflaaGreat
open Go Go.Ev
theorem JU:∀(k m:Nat)(A N O:yU),A.toNat < 4611686018427377339->O.toNat < 4611686018427377339->N.toNat < 2 ^ k->k < m->Ze (Xx yD) m (A,N,O)=ab (yai (eV 4611686018427377339 k A.toNat N.toNat O.toNat))
 |k,0,_,_,_,_,_,_,h=>by omega
 |0,m+1,A,N,O,E,t,h,_=>by
  have F:¬N > 0:=by
   intro f;have l:0 < N.toNat:=ych.1 f;rw[Nat.pow_zero]at h;omega
  have hs:Xx yD (A,N,O)=if ag (N > 0)=ae then(if((N % 2)==1)=ae then(Zv yD O A).bind λx=>(Zv yD A A).bind λc=>ab (.inl (c,N / 2,x)) else(Zv yD A A).bind λc=>ab (.inl (c,N / 2,O))) else ab (.inr O):=rfl
  unfold Ze;rw[hs]
  rw[yX (by rw[yN];exact F),ya,eV,UInt64.ofNat_toNat]
 |k+1,m+1,A,N,O,E,t,h,Q=>by
  have hs:Xx yD (A,N,O)=if ag (N > 0)=ae then(if((N % 2)==1)=ae then(Zv yD O A).bind λx=>(Zv yD A A).bind λc=>ab (.inl (c,N / 2,x)) else(Zv yD A A).bind λc=>ab (.inl (c,N / 2,O))) else ab (.inr O):=rfl
  unfold Ze;rw[hs];by_cases f:N > 0
  .have G:0 < N.toNat->eV 4611686018427377339 (k+1) A.toNat N.toNat O.toNat=eV 4611686018427377339 k (A.toNat*A.toNat % 4611686018427377339) (N.toNat / 2) (if N.toNat % 2=1 then O.toNat*A.toNat % 4611686018427377339 else O.toNat):=λh=>by
    rw[eV,yX (by omega)]
   have l:0 < N.toNat:=ych.1 f;have e:(N / 2).toNat=N.toNat / 2:=by rw[UInt64.toNat_div];rfl
   have g:(N / 2).toNat < 2 ^ k:=by
    rw[e];rw[Nat.pow_succ]at h;omega
   have j:((N % 2)==1)=ag (N.toNat % 2=1):=by
    rw[ycq,yT,yN, <-ycz,UInt64.toNat_mod];rfl
   have y:∀z:Nat,z % 4611686018427377339 < 4611686018427377339:=λz=>Nat.mod_lt _ (by decide)
   have I:Zv yD A A=ab (yai (A.toNat*A.toNat % 4611686018427377339)):=by
    unfold Zv;rw[yW (yY E)]
   have M:Zv yD O A=ab (yai (O.toNat*A.toNat % 4611686018427377339)):=by
    unfold Zv;rw[yW (yY t)]
   rw[yW (yY f),j,G l,I,M];by_cases s:N.toNat % 2=1
   .rw[yW (yY s),yW s,ya,ya,ya];dsimp only;rw[JU k m _ _ _ (by rw[ph];exact y _) (by rw[ph];exact y _) g (by omega),ph,ph,e]
   .rw[yX (by rw[yN];exact s),yX s,ya,ya];dsimp only;rw[JU k m _ _ _ (by rw[ph];exact y _) t g (by omega),ph,e]
  .have l:N.toNat=0:=by
    rcases ycu N.toNat with h5|h5
    .exact h5
    .exact absurd (show(0:yU) < N from ych.2 h5) f
   rw[yX (by rw[yN];exact f),ya,eV,yW l,UInt64.ofNat_toNat]
noncomputable def XX(F:Nat)(a0:yU)(a1:yU):yO yU:=if ag (a0.toNat < 4611686018427377339)=ae then ab (yai (eV 4611686018427377339 64 a0.toNat a1.toNat 1)) else Vs F a0 a1
theorem ZFS(a n:yU):Vs yD a n=XX yD a n:=by
 unfold XX;split
 .rename_i h;unfold Vs;rw[JU 64 yD a n 1 (yF h) (by decide) (ybx _) (by rw[kJ];omega),ya];rfl
 .rfl
noncomputable def Zkf(F:Nat):Fs yc:={ Qi F with M:=λx=>XX F x.1 x.2}
noncomputable def Zd1:Fs yc:=Zkf yD
theorem Zkg:Zd1.Ok:=nw (s:=Qi yD) ZjB λx=>(ZFS x.1 x.2).symm
end Go.Proofs.YtghfiijgklnflaaGreat
end
section
set_option maxRecDepth 4000
namespace Go.Proofs.YtghfiijgklnflaaGreat
open Go Go.Ev
noncomputable section
def WC(F:Nat)(a0:yU):yO (Bool):=
 if(ag (a0 >= 1))=ae then
  if(ag (a0 < 4611686018427377339))=ae then
   (XX F a0 2305843009213688669).bind λa=>
   ab (a==1)
  else
  ab af
 else
 ab af
def Zkh(F:Nat):Fs yc:=⟨193,[.v .u64],[],[.u64],(zP .bool),λx=>WC F x⟩
def JV:Fs yc:=Zkh yD
theorem Zcu:JV.Ok:=aX { still:=[2,10]} [] [Zd1] ⟨Zkg,aw⟩
def Xy(F:Nat)(s:(Int×Zz)):yO ((Int×Zz)⊕((Bool×Zz)⊕Zz)):=
 if(ag (s.1 < (s.2.1.length:Int)))=ae then
  (idx s.2.1 s.1).bind λa=>
  (WC F a).bind λb=>
  if(!b)=ae then
   ab (.inr (.inl (af,s.2)))
  else
  ab (.inl (wi (s.1+1),s.2))
 else
 ab (.inr (.inr s.2))
def Zb6:Lp:=⟨[(1,.am 0 []),(3,.v yI)],[.var (.v Zp) ae],[yI,Zp],[⟨.ret,[(2,.v .bool)],[.var (.v Zp) ae],[.bool,Zp]⟩,⟨.exit 0,[(1,.am 0 [])],[.var (.v Zp) ae],[Zp]⟩],Ze (Xy yD) yD⟩
theorem ZgN:Zb6.bq yc 161 0:=Zx { still:=[2,41,46]} [] [JV] ⟨Zcu,aw⟩
def Vt(F:Nat)(a0:Zz):yO (Bool):=
 if(ag ((a0.1.length:Int) > 12))=ae then
  ab af
 else
 if(ag (a0.2.1 < 0))=ae then
  ab af
 else
 if(ag (a0.2.1 > 1048576))=ae then
  ab af
 else
 if(ag (a0.2.2.1 < 0))=ae then
  ab af
 else
 if(ag (a0.2.2.1 > 1048576))=ae then
  ab af
 else
 (Ze (Xy F) F (0,a0)).bind λa=>
 match a with
 |.inl b=>
  ab b.1
 |.inr c=>
  (WC F c.2.2.2).bind λd=>
  if(c.2.2.2==0)=ae then
   ab ae
  else
  ab d
def ZjC(F:Nat):Fs yc:=⟨161,[.v Zp],[],[Zp],(zP .bool),λx=>Vt F x⟩
def Zcv:Fs yc:=ZjC yD
theorem ZjD:Zcv.Ok:=aX { still:=[2,41,46]} [(0,Zb6)] [JV] ⟨Zcu,aw⟩ ⟨ZgN,aw⟩
def XL(F:Nat)(s:(Int×Z3)):yO ((Int×Z3)⊕((Bool×Z3)⊕Z3)):=
 if(ag (s.1 < (s.2.length:Int)))=ae then
  (idx s.2 s.1).bind λa=>
  (Vt F a).bind λb=>
  if(!b)=ae then
   ab (.inr (.inl (af,s.2)))
  else
  ab (.inl (wi (s.1+1),s.2))
 else
 ab (.inr (.inr s.2))
def Zcw:Lp:=⟨[(1,.am 0 []),(3,.v yI)],[.var (.v ZA) ae],[yI,ZA],[⟨.ret,[(2,.v .bool)],[.var (.v ZA) ae],[.bool,ZA]⟩,⟨.exit 0,[],[.var (.v ZA) ae],[ZA]⟩],Ze (XL yD) yD⟩
theorem ZhN:Zcw.bq yc 114 0:=Zx { still:=[2,25]} [] [Zcv] ⟨ZjD,aw⟩
def Y7(F:Nat)(a0:Z3):yO (Bool):=
 if(ag ((a0.length:Int) < 1))=ae then
  ab af
 else
 if(ag ((a0.length:Int) > 4))=ae then
  ab af
 else
 (Ze (XL F) F (0,a0)).bind λa=>
 match a with
 |.inl b=>
  ab b.1
 |.inr c=>
  ab ae
def Zki(F:Nat):Fs yc:=⟨114,[.v ZA],[],[ZA],(zP .bool),λx=>Y7 F x⟩
def Vu:Fs yc:=Zki yD
theorem QB:Vu.Ok:=aX { still:=[2,25]} [(0,Zcw)] [] trivial ⟨ZhN,aw⟩
def Yy(F:Nat)(s:(Int×Int×Tx×In)):yO ((Int×Int×Tx×In)⊕((Bool×Tx×In)⊕(Int×Tx×In))):=
 if(ag (s.2.1 < s.1))=ae then
  (idx s.2.2.1.1 s.2.1).bind λa=>
  if(ag (a.1=s.2.2.2.1))=ae then
   ab (.inr (.inl (af,s.2.2.1,s.2.2.2)))
  else
  ab (.inl (s.1,wi (s.2.1+1),s.2.2.1,s.2.2.2))
 else
 ab (.inr (.inr (s.1,s.2.2.1,s.2.2.2)))
def Zcx:Lp:=⟨[(1,.am 0 []),(3,.v yI),(4,.am 1 []),(5,.v yI)],[.var (.v aQ) ae,.var (.v bX) ae],[yI,yI,aQ,bX],[⟨.ret,[(2,.v .bool)],[.var (.v aQ) ae,.var (.v bX) ae],[.bool,aQ,bX]⟩,⟨.exit 2,[(1,.am 0 []),(3,.v yI)],[.var (.v aQ) ae,.var (.v bX) ae],[yI,aQ,bX]⟩],Ze (Yy yD) yD⟩
theorem ZhO:Zcx.bq yc 66 1:=Zx { still:=[2,54,94]} [] [] trivial
def YV(F:Nat)(s:(Int×Tx)):yO ((Int×Tx)⊕((Bool×Tx)⊕Tx)):=
 if(ag (s.1 < (s.2.1.length:Int)))=ae then
  (idx s.2.1 s.1).bind λa=>
  if(ag (a.1.2 < 0))=ae then
   ab (.inr (.inl (af,s.2)))
  else
  if(ag (a.1.2 > 63))=ae then
   ab (.inr (.inl (af,s.2)))
  else
  (WG F a.2).bind λb=>
  if(!b)=ae then
   ab (.inr (.inl (af,s.2)))
  else
  (Ze (Yy F) F (s.1,0,s.2,a)).bind λc=>
  match c with
  |.inl d=>
   ab (.inr (.inl (d.1,d.2.1)))
  |.inr e=>
   ab (.inl (wi (e.1+1),e.2.1))
 else
 ab (.inr (.inr s.2))
def Zcy:Lp:=⟨[(1,.am 0 []),(3,.v yI)],[.var (.v aQ) ae],[yI,aQ],[⟨.ret,[(2,.v .bool)],[.var (.v aQ) ae],[.bool,aQ]⟩,⟨.exit 0,[(1,.am 0 [])],[.var (.v aQ) ae],[aQ]⟩],Ze (YV yD) yD⟩
theorem ZhP:Zcy.bq yc 66 0:=Zx { still:=[2,54,94]} [(1,Zcx)] [ZbA] ⟨ZhM,aw⟩ ⟨ZhO,aw⟩
def YW(F:Nat)(s:(Int×Int×Tx)):yO ((Int×Int×Tx)⊕((Bool×Tx)⊕(Int×Tx))):=
 if(ag (s.2.1 < (s.2.2.2.1.length:Int)))=ae then
  (idx s.2.2.2.1 s.2.1).bind λa=>
  if(ag (a.1 < 0))=ae then
   ab (.inr (.inl (af,s.2.2)))
  else
  if(ag (a.1 > 1125899906842624))=ae then
   ab (.inr (.inl (af,s.2.2)))
  else
  (Y7 F a.2).bind λb=>
  if(!b)=ae then
   ab (.inr (.inl (af,s.2.2)))
  else
  ab (.inl (wi (s.1+a.1),wi (s.2.1+1),s.2.2))
 else
 ab (.inr (.inr (s.1,s.2.2)))
def Zcz:Lp:=⟨[(1,.am 0 []),(6,.v yI),(7,.v yI)],[.var (.v aQ) ae],[yI,yI,aQ],[⟨.ret,[(2,.v .bool)],[.var (.v aQ) ae],[.bool,aQ]⟩,⟨.exit 4,[(6,.v yI)],[.var (.v aQ) ae],[yI,aQ]⟩],Ze (YW yD) yD⟩
theorem ZhQ:Zcz.bq yc 66 2:=Zx { still:=[2,54,94]} [] [Vu] ⟨QB,aw⟩
def ZF(F:Nat)(a0:Tx):yO (Bool):=
 if(ag ((a0.1.length:Int) < 1))=ae then
  ab af
 else
 if(ag ((a0.1.length:Int) > 64))=ae then
  ab af
 else
 if(ag ((a0.2.1.length:Int) > 64))=ae then
  ab af
 else
 if(ag (a0.2.2 < 0))=ae then
  ab af
 else
 (Ze (YV F) F (0,a0)).bind λa=>
 match a with
 |.inl b=>
  ab b.1
 |.inr c=>
  (Ze (YW F) F (0,0,c)).bind λd=>
  match d with
  |.inl e=>
   ab e.1
  |.inr f=>
   ab (ag (f.1<=1125899906842624))
def Zkj(F:Nat):Fs yc:=⟨66,[.v aQ],[],[aQ],(zP .bool),λx=>ZF F x⟩
def Vv:Fs yc:=Zkj yD
theorem QC:Vv.Ok:=aX { still:=[2,54,94]} [(0,Zcy),(2,Zcz)] [] trivial ⟨ZhP,ZhQ,aw⟩
def Xz(F:Nat)(s:(aGO×aGO)):yO ((aGO×aGO)⊕(aGO×aGO)):=
 if((Int.tmod (s.2.length:Int) 64)!=56)=ae then
  if(bU s.2.length 1 1)=ae then
   ab (.inl (s.1,s.2++([0]:yL yB)))
  else
  ad
 else
 ab (.inr (s.1,s.2))
def Zb7:Lp:=⟨[(0,.v aGP),(3,.own 0 .u8)],[.log .u8 5],[aGP,aGP],[⟨.exit 0,[(0,.v aGP),(3,.own 0 .u8)],[.log .u8 5],[aGP,aGP]⟩],Ze (Xz yD) yD⟩
def JW:HI:={ own:=[3,6,8,9,11,16,18,27,33],still:=[2]}
theorem ZgO:Zb7.bq yc 128 0:=Zx JW [] [] trivial
def XA(F:Nat)(s:(yU×Int×aGO)):yO ((yU×Int×aGO)⊕aGO):=
 if(ag (s.2.1 >= 0))=ae then
  if(ag (0<=s.2.1))=ae then
   let a:yB:=w8 ((ZI s.1 (min s.2.1.toNat 64)).toNat:Int)
   if(bU s.2.2.length 1 1)=ae then
    ab (.inl (s.1,wi (s.2.1 - 8),s.2.2++([a]:yL yB)))
   else
   ad
  else
  ad
 else
 ab (.inr s.2.2)
def Zb8:Lp:=⟨[(3,.own 0 .u8),(4,.v .u64),(5,.v yI)],[.log .u8 5],[.u64,yI,aGP],[⟨.exit 2,[(3,.own 0 .u8)],[.log .u8 5],[aGP]⟩],Ze (XA yD) yD⟩
theorem ZgP:Zb8.bq yc 128 1:=Zx JW [] [] trivial
def Vw(F:Nat)(a0:aGO):yO (aGO):=
 if(bU 0 a0.length 1)=ae then
  if(bU a0.length 1 1)=ae then
   (Ze (Xz F) F (a0,a0++([128]:yL yB))).bind λa=>
   (Ze (XA F) F (8*(cK (a.1.length:Int)),56,a.2)).bind λb=>
   ab b
  else
  ad
 else
 ad
def ZjE(F:Nat):Fs yc:=⟨128,[.v aGP],[],[aGP],(zP aGP),λx=>Vw F x⟩
def ZcA:Fs yc:=ZjE yD
theorem ZjF:ZcA.Ok:=aX JW [(0,Zb7),(1,Zb8)] [] trivial ⟨ZgO,ZgP,aw⟩
def JX(F:Nat):yO (aGR):=
 ab [1779033703,3144134277,1013904242,2773480762,1359893119,2600822924,528734635,1541459225]
def ZjG(F:Nat):Fs yc:=⟨129,[],[],[],(zP (.sl .u32)),λx=>JX F⟩
def ZcB:Fs yc:=ZjG yD
theorem ZjH:ZcB.Ok:=aX { still:=[0]} [] [] trivial
def ZN(F:Nat)(a0:yV)(a1:Int):yO (yV):=
 if(ag (0<=a1))=ae then
  if(ag (0<=wi (32 - a1)))=ae then
   let a:yV:=(gq a0 (min a1.toNat 32))|||(fq a0 (min (wi (32 - a1)).toNat 32))
   ab a
  else
  ad
 else
 ad
def Zlt(F:Nat):Fs yc:=⟨173,[.v .u32,.v yI],[],[.u32,yI],(zP .u32),λx=>ZN F x.1 x.2⟩
def JY:Fs yc:=Zlt yD
theorem Zd2:JY.Ok:=aX { still:=[4]} [] [] trivial
def XM(F:Nat)(s:(aGO×Int×aGR)):yO ((aGO×Int×aGR)⊕aGR):=
 if(ag (s.2.1 < 16))=ae then
  (idx s.1 (wi (4*s.2.1))).bind λa=>
  (idx s.1 (wi ((wi (4*s.2.1))+1))).bind λb=>
  let c:yV:=(fq (yby a.toNat) 24)|||(fq (yby b.toNat) 16)
  (idx s.1 (wi ((wi (4*s.2.1))+2))).bind λd=>
  (idx s.1 (wi ((wi (4*s.2.1))+3))).bind λe=>
  let f:yV:=(c|||(fq (yby d.toNat) 8))|||(yby e.toNat)
  if(bU s.2.2.length 1 4)=ae then
   ab (.inl (s.1,wi (s.2.1+1),s.2.2++([f]:yL yV)))
  else
  ad
 else
 ab (.inr s.2.2)
def ZcC:Lp:=⟨[(0,.v aGP),(3,.own 0 .u32),(4,.v yI)],[.log .u32 160],[aGP,yI,(.sl .u32)],[⟨.exit 0,[(3,.own 0 .u32)],[.log .u32 160],[(.sl .u32)]⟩],Ze (XM yD) yD⟩
def JZ:HI:={ own:=[3,14,49,80,97],still:=[2,64,66,72,74]}
theorem ZhR:ZcC.bq yc 171 0:=Zx JZ [] [] trivial
def XN(F:Nat)(s:(Int×aGR)):yO ((Int×aGR)⊕aGR):=
 if(ag (s.1 < 64))=ae then
  (idx s.2 (wi (s.1 - 15))).bind λa=>
  (idx s.2 (wi (s.1 - 2))).bind λb=>
  (ZN F a 7).bind λc=>
  (ZN F a 18).bind λd=>
  (ZN F b 17).bind λe=>
  (ZN F b 19).bind λf=>
  (idx s.2 (wi (s.1 - 16))).bind λg=>
  (idx s.2 (wi (s.1 - 7))).bind λh=>
  let i:yV:=(g+((c^^^d)^^^(gq a 3)))+h
  if(bU s.2.length 1 4)=ae then
   let j:aGR:=s.2++([i+((e^^^f)^^^(gq b 10))]:yL yV)
   ab (.inl (wi (s.1+1),j))
  else
  ad
 else
 ab (.inr s.2)
def ZcD:Lp:=⟨[(3,.own 0 .u32),(5,.v yI)],[.log .u32 160],[yI,(.sl .u32)],[⟨.exit 2,[(3,.own 0 .u32)],[.log .u32 160],[(.sl .u32)]⟩],Ze (XN yD) yD⟩
theorem ZhS:ZcD.bq yc 171 1:=Zx JZ [] [JY] ⟨Zd2,aw⟩
def VL(F:Nat)(a0:aGO):yO (aGR):=
 (Ze (XM F) F (a0,0,[])).bind λa=>
 (Ze (XN F) F (16,a)).bind λb=>
 ab b
def Zkk(F:Nat):Fs yc:=⟨171,[.v aGP],[],[aGP],(zP (.sl .u32)),λx=>VL F x⟩
def Zd3:Fs yc:=Zkk yD
theorem Zkl:Zd3.Ok:=aX JZ [(0,ZcC),(1,ZcD)] [] trivial ⟨ZhR,ZhS,aw⟩
def KA(F:Nat):yO (aGR):=
 ab [1116352408,1899447441,3049323471,3921009573,961987163,1508970993,2453635748,2870763221,3624381080,310598401,607225278,1426881987,1925078388,2162078206,2614888103,3248222580,3835390401,4022224774,264347078,604807628,770255983,1249150122,1555081692,1996064986,2554220882,2821834349,2952996808,3210313671,3336571891,3584528711,113926993,338241895,666307205,773529912,1294757372,1396182291,1695183700,1986661051,2177026350,2456956037,2730485921,2820302411,3259730800,3345764771,3516065817,3600352804,4094571909,275423344,430227734,506948616,659060556,883997877,958139571,1322822218,1537002063,1747873779,1955562222,2024104815,2227730452,2361852424,2428436474,2756734187,3204031479,3329325298]
def Zlu(F:Nat):Fs yc:=⟨172,[],[],[],(zP (.sl .u32)),λx=>KA F⟩
def ZeT:Fs yc:=Zlu yD
theorem Zlv:ZeT.Ok:=aX { still:=[0]} [] [] trivial
def XO(F:Nat):(aGR×aGR×aGR×Int×aGV×aGR)->yO ((aGR×aGR×aGR×Int×aGV×aGR)⊕(aGR×aGV×aGR))
 |(e,d,c,a,f,b)=>
 if(ag (a < 64))=ae then
  if(bK 4 b.length)=ae then
   (b[4]?).bind λg=>
   (ZN F g 6).bind λh=>
   if(bK 4 b.length)=ae then
    (b[4]?).bind λi=>
    (ZN F i 11).bind λj=>
    if(bK 4 b.length)=ae then
     (b[4]?).bind λk=>
     (ZN F k 25).bind λl=>
     if(bK 4 b.length)=ae then
      (b[4]?).bind λm=>
      if(bK 5 b.length)=ae then
       (b[5]?).bind λn=>
       if(bK 4 b.length)=ae then
        (b[4]?).bind λo=>
        if(bK 6 b.length)=ae then
         (b[6]?).bind λp=>
         let q:yV:=(m&&&n)^^^((4294967295^^^o)&&&p)
         if(bK 7 b.length)=ae then
          (b[7]?).bind λr=>
          (idx c a).bind λs=>
          let t:yV:=((r+((h^^^j)^^^l))+q)+s
          (idx d a).bind λu=>
          if(bK 0 b.length)=ae then
           (b[0]?).bind λv=>
           (ZN F v 2).bind λw=>
           if(bK 0 b.length)=ae then
            (b[0]?).bind λx=>
            (ZN F x 13).bind λy=>
            if(bK 0 b.length)=ae then
             (b[0]?).bind λz=>
             (ZN F z 22).bind λA=>
             if(bK 0 b.length)=ae then
              (b[0]?).bind λB=>
              if(bK 1 b.length)=ae then
               (b[1]?).bind λC=>
               if(bK 0 b.length)=ae then
                (b[0]?).bind λD=>
                if(bK 2 b.length)=ae then
                 (b[2]?).bind λE=>
                 if(bK 1 b.length)=ae then
                  (b[1]?).bind λG=>
                  if(bK 2 b.length)=ae then
                   (b[2]?).bind λH=>
                   let I:yV:=((B&&&C)^^^(D&&&E))^^^(G&&&H);let J:yV:=((t+u)+((w^^^y)^^^A))+I
                   if(bK 0 b.length)=ae then
                    (b[0]?).bind λK=>
                    if(bK 1 b.length)=ae then
                     (b[1]?).bind λL=>
                     if(bK 2 b.length)=ae then
                      (b[2]?).bind λM=>
                      if(bK 3 b.length)=ae then
                       (b[3]?).bind λN=>
                       if(bK 4 b.length)=ae then
                        (b[4]?).bind λO=>
                        if(bK 5 b.length)=ae then
                         (b[5]?).bind λP=>
                         if(bK 6 b.length)=ae then
                          (b[6]?).bind λQ=>
                          ab (.inl (e,d,c,wi (a+1),()::f,[J,K,L,M,N+(t+u),O,P,Q]))
                         else
                         ad
                        else
                        ad
                       else
                       ad
                      else
                      ad
                     else
                     ad
                    else
                    ad
                   else
                   ad
                  else
                  ad
                 else
                 ad
                else
                ad
               else
               ad
              else
              ad
             else
             ad
            else
            ad
           else
           ad
          else
          ad
         else
         ad
        else
        ad
       else
       ad
      else
      ad
     else
     ad
    else
    ad
   else
   ad
  else
  ad
 else
 ab (.inr (e,f,b))
def ZcE:Lp:=⟨[(0,.v (.sl .u32)),(5,.v (.sl .u32)),(6,.v (.sl .u32)),(7,.rw 0),(8,.v yI)],[.row .u32 ae 160],[(.sl .u32),(.sl .u32),(.sl .u32),yI,aGS,(.sl .u32)],[⟨.exit 0,[(0,.v (.sl .u32)),(7,.rw 0)],[.row .u32 ae 160],[(.sl .u32),aGS,(.sl .u32)]⟩],Ze (XO yD) yD⟩
def KB:HI:={ own:=[18,20],still:=[4,15,27,31,36,74,78,83],bj:=[7,18,20,137,142],ST:=[(137,7)]}
theorem ZhT:ZcE.bq yc 130 0:=Zx KB [] [JY] ⟨Zd2,aw⟩
def XP(F:Nat)(s:(aGR×Int×aGV×aGR)):yO ((aGR×Int×aGV×aGR)⊕(aGV×aGR)):=
 if(ag (s.2.1 < 8))=ae then
  if(bK s.2.1 s.2.2.2.length)=ae then
   (s.2.2.2[s.2.1.toNat]?).bind λa=>
   (idx s.1 s.2.1).bind λb=>
   if(bK s.2.1 s.2.2.2.length)=ae then
    (s.2.2.2[s.2.1.toNat]?).bind λc=>
    ab (.inl (s.1,wi (s.2.1+1),s.2.2.1,s.2.2.2.set s.2.1.toNat (a+b)))
   else
   ad
  else
  ad
 else
 ab (.inr (s.2.2.1,s.2.2.2))
def ZcF:Lp:=⟨[(0,.v (.sl .u32)),(7,.rw 0),(14,.v yI)],[.row .u32 ae 160],[(.sl .u32),yI,aGS,(.sl .u32)],[⟨.exit 2,[(7,.rw 0)],[.row .u32 ae 160],[aGS,(.sl .u32)]⟩],Ze (XP yD) yD⟩
theorem ZhU:ZcF.bq yc 130 1:=Zx KB [] [] trivial
def VM(F:Nat)(a0:aGR)(a1:aGO):yO (aGR):=
 (VL F a1).bind λa=>
 (KA F).bind λb=>
 if(bU 0 a0.length 4)=ae then
  (Ze (XO F) F (a0,a,b,0,[()],a0)).bind λc=>
  (Ze (XP F) F (c.1,0,c.2.1,c.2.2)).bind λd=>
  ab d.2
 else
 ad
def Zkm(F:Nat):Fs yc:=⟨130,[.v (.sl .u32),.v aGP],[],[(.sl .u32),aGP],(zP (.sl .u32)),λx=>VM F x.1 x.2⟩
def Zd4:Fs yc:=Zkm yD
theorem Zkn:Zd4.Ok:=aX KB [(0,ZcE),(1,ZcF)] [Zd3,ZeT] ⟨Zkl,Zlv,aw⟩ ⟨ZhT,ZhU,aw⟩
def X3(F:Nat)(s:(aGO×aGR×Int×aGO)):yO ((aGO×aGR×Int×aGO)⊕(aGR×aGO)):=
 if(ag (s.2.2.1 < (s.1.length:Int)))=ae then
  if(VQ s.1.length (ab s.2.2.1) (ab (wi (s.2.2.1+64))))=ae then
   let a:aGO:=(s.1.take ((wi (s.2.2.1+64)).toNat)).drop s.2.2.1.toNat
   (VM F s.2.1 a).bind λb=>
   ab (.inl (s.1,b,wi (s.2.2.1+64),s.2.2.2))
  else
  ad
 else
 ab (.inr (s.2.1,s.2.2.2))
def Zd5:Lp:=⟨[(2,.am 0 []),(3,.v aGP),(4,.v (.sl .u32)),(5,.v yI)],[.var (.v aGQ) ae],[aGP,(.sl .u32),yI,aGQ],[⟨.exit 0,[(2,.am 0 []),(4,.v (.sl .u32))],[.var (.v aGQ) ae],[(.sl .u32),aGQ]⟩],Ze (X3 yD) yD⟩
theorem Ziv:Zd5.bq yc 70 0:=Zx { still:=[8,17,22]} [] [Zd4] ⟨Zkn,aw⟩
def X4(F:Nat)(s:(aGR×Int×aGO×aGO)):yO ((aGR×Int×aGO×aGO)⊕(aGO×aGO)):=
 if(ag (s.2.1 < 32))=ae then
  (idx s.1 (wi (Int.tdiv s.2.1 4))).bind λa=>
  if(ag (0<=wi (24 - (wi (8*(Int.tmod s.2.1 4))))))=ae then
   let b:yV:=gq a (min (wi (24 - (wi (8*(Int.tmod s.2.1 4))))).toNat 32)
   if(bK s.2.1 32)=ae then
    (s.2.2.2[s.2.1.toNat]?).bind λc=>
    ab (.inl (s.1,wi (s.2.1+1),s.2.2.1,s.2.2.2.set s.2.1.toNat (w8 (b.toNat:Int))))
   else
   ad
  else
  ad
 else
 ab (.inr (s.2.2.1,s.2.2.2))
def Zd6:Lp:=⟨[(2,.am 0 []),(4,.v (.sl .u32)),(6,.am 1 []),(7,.v yI)],[.var (.v aGQ) ae,.var (.v aGQ) ae],[(.sl .u32),yI,aGQ,aGQ],[⟨.exit 2,[(2,.am 0 []),(6,.am 1 [])],[.var (.v aGQ) ae,.var (.v aGQ) ae],[aGQ,aGQ]⟩],Ze (X4 yD) yD⟩
theorem Ziw:Zd6.bq yc 70 1:=Zx { still:=[8,17,22]} [] [] trivial
def W0(F:Nat)(a0:aGO):yO (aGO):=
 (Vw F a0).bind λa=>
 (JX F).bind λb=>
 (Ze (X3 F) F (a,b,0,gk)).bind λc=>
 (Ze (X4 F) F (c.1,0,c.2,gk)).bind λd=>
 ab d.2
def KC(F:Nat):Fs yc:=⟨70,[.v aGP],[],[aGP],(zP aGQ),λx=>W0 F x⟩
def ZmH:Fs yc:=KC yD
theorem Zlw:ZmH.Ok:=aX { still:=[8,17,22]} [(0,Zd5),(1,Zd6)] [ZcA,ZcB] ⟨ZjF,ZjH,aw⟩ ⟨Ziv,Ziw,aw⟩
end
end Go.Proofs.YtghfiijgklnflaaGreat
end
section
set_option maxRecDepth 4000
namespace Go.Ev
theorem ZED{I X:Type}{step:I->yO (I⊕X)}{st:Nat->I}{x:X}(n:Nat)(hs:∀k,k < n->step (st k)=ab (.inl (st (k+1))))(he:step (st n)=ab (.inr x)):∀(d k f:Nat),k+d=n->d < f->Ze step f (st k)=ab x
 |0,k,f+1,h,_=>by
  have e:k=n:=by omega
  subst e;unfold Ze
  rw[he,ya]
 |d+1,k,f+1,h,c=>by
  unfold Ze;rw[hs k (by omega),ya];exact ZED n hs he d (k+1) f (by omega) (by omega)
theorem Zy{I X:Type}{step:I->yO (I⊕X)}(n:Nat)(st:Nat->I){x:X}(hs:∀k,k < n->step (st k)=ab (.inl (st (k+1))))(he:step (st n)=ab (.inr x))(c:n < 18446744073709551616):
 Ze step yD (st 0)=ab x:=ZED n hs he n 0 yD (by omega) (by rw[kJ];exact c)
theorem ZA8{I X:Type}{step:I->yO (I⊕X)}{Post:X->Prop}(n:Nat)(S:Nat->I->Prop)(hs:∀k s,k < n->S k s->(∃t,step s=ab (.inl t)/\S (k+1) t)\/∃x,step s=ab (.inr x)/\Post x)
 (he:∀s,S n s->∃x,step s=ab (.inr x)/\Post x):∀(d k f:Nat)(s:I),k+d=n->d < f->S k s->∃x,Ze step f s=ab x/\Post x
 |0,k,f+1,s,h,_,j=>by
  have e:k=n:=by omega
  subst e;obtain⟨x,c,g⟩:=he s j;unfold Ze;rw[c,ya]
  exact⟨x,rfl,g⟩
 |d+1,k,f+1,s,h,l,j=>by
  unfold Ze;rcases hs k s (by omega) j with⟨t,c,g⟩|⟨x,c,g⟩
  .rw[c,ya];exact ZA8 n S hs he d (k+1) f t (by omega) (by omega) g
  .rw[c,ya];exact⟨x,rfl,g⟩
theorem Yo{I X:Type}{step:I->yO (I⊕X)}(n:Nat)(S:Nat->I->Prop)(Post:X->Prop){i:I}(c:S 0 i)(e:n < 18446744073709551616)
 (hs:∀k s,k < n->S k s->(∃t,step s=ab (.inl t)/\S (k+1) t)\/∃x,step s=ab (.inr x)/\Post x)
 (he:∀s,S n s->∃x,step s=ab (.inr x)/\Post x):∃x,Ze step yD i=ab x/\Post x:=ZA8 n S hs he n 0 yD i (by omega) (by rw[kJ];exact e) c
theorem Zw{a b:Nat}(h:a < b):ag ((a:Int) < (b:Int))=ae:=yY (by omega)
theorem Zs{a:Nat}:ag ((a:Int) < (a:Int))=af:=yZ (by omega)
theorem Zl{k:Nat}(h:k < 9223372036854775807):wi ((k:Int)+1)=((k+1:Nat):Int):=by
 rw[Yf (by omega) (by omega)];omega
theorem Zm{α:Type}{l:yL α}{k:Nat}{y:α}(h:l[k]? =ab y):idx l (k:Int)=ab y:=rQ (by omega) (by simpa using h)
theorem Zwz{α:Type}{c:yL (yL α)}{k:Nat}{e:yL α}(h:c[k]? =ab e):(c.take (k+1)).flatten=(c.take k).flatten++e:=by
 rw[List.take_add_one,h];simp
theorem ZEE{α:Type}(c:yL (yL α))(k:Nat):(c.take k).flatten.length<=c.flatten.length:=by
 have h:=congrArg (λl=>(List.flatten l).length) (List.take_append_drop k c);simp only[List.flatten_append,yn]at h;omega
theorem XH{α:Type}{l:yL α}{k:Nat}{e:α}(h:l[k]? =ab e):l.take (k+1)=l.take k++[e]:=by
 rw[List.take_add_one,h];rfl
theorem Zf{α:Type}{l:yL α}{k:Nat}(h:k < l.length):∃e,l[k]? =ab e/\e∈l:=⟨l[k],List.getElem?_eq_getElem h,List.getElem_mem h⟩
end Go.Ev
end
section
set_option maxRecDepth 4000
namespace Go.Proofs.YtghfiijgklnflaaGreat
open Go Go.Ev Go.Sha
theorem jM(x:yV)(n k:Nat)(h:n+k=32)(c:0 < n){z:Int}(hz:z=(n:Int)):∃o,ZN yD x z=ab o/\o.toNat=lo (Nat.shiftRight (dU x.toNat) n):=by
 subst hz;unfold ZN;rw[Yf (z:=32 - (n:Int)) (by omega) (by omega),yW (yY (by omega)),yW (yY (by omega))];refine⟨_,rfl, ?_⟩;have e:min ((n:Int)).toNat 32=n:=by omega
 have f:min (32 - (n:Int)).toNat 32=k:=by omega
 rw[e,f,UInt32.or_comm];exact ZLv x h c
theorem ZM4(a b c d:yB):((((fq (yby a.toNat) 24)|||(fq (yby b.toNat) 16))|||(fq (yby c.toNat) 8))|||(yby d.toNat)).toNat=((a.toNat*256+b.toNat)*256+c.toNat)*256+d.toNat:=by
 have h:=a.toNat_lt;have j:=b.toNat_lt;have l:=c.toNat_lt;have m:=d.toNat_lt
 have hs:∀(x:yB)(n:Nat),n<=24->(fq (yby x.toNat) n).toNat=x.toNat*2 ^ n:=by
  intro x n s;have e:=x.toNat_lt;unfold fq;rw[yct,yct,yas (a:=x.toNat) (by omega)];refine yas ?_
  calc x.toNat*2 ^ n < 2 ^ 8*2 ^ n:=Nat.mul_lt_mul_of_pos_right e (Nat.two_pow_pos n)
   _=2 ^ (8+n):=(Nat.pow_add ..).symm
   _<=2 ^ 32:=Nat.pow_le_pow_right (by omega) (by omega)
 rw[kM,kM,kM,hs _ _ (by omega),hs _ _ (by omega),hs _ _ (by omega),yct,yas (a:=d.toNat) (by omega)]
 have f:Nat.lor (a.toNat*2 ^ 24) (b.toNat*2 ^ 16)=2 ^ 16*(a.toNat*256+b.toNat):=by
  rw[ybu a.toNat,show Nat.lor (2 ^ 24*a.toNat) (b.toNat*2 ^ 16)=2 ^ 24*a.toNat|||b.toNat*2 ^ 16 from rfl, <-ydf (by omega)]
  omega
 have g:Nat.lor (2 ^ 16*(a.toNat*256+b.toNat)) (c.toNat*2 ^ 8)=2 ^ 8*((a.toNat*256+b.toNat)*256+c.toNat):=by
  rw[show Nat.lor (2 ^ 16*(a.toNat*256+b.toNat)) (c.toNat*2 ^ 8)=2 ^ 16*(a.toNat*256+b.toNat)|||c.toNat*2 ^ 8 from rfl, <-ydf (by omega)]
  omega
 rw[f,g,show Nat.lor (2 ^ 8*((a.toNat*256+b.toNat)*256+c.toNat)) d.toNat=2 ^ 8*((a.toNat*256+b.toNat)*256+c.toNat)|||d.toNat from rfl, <-ydf (by omega)]
 omega
theorem ZNW(e f g:yV):((e&&&f)^^^((4294967295^^^e)&&&g)).toNat=ch e.toNat f.toNat g.toNat:=by
 rw[<-ZNJ];congr 1;apply UInt32.toBitVec_inj.1;apply BitVec.eq_of_getLsbD_eq;intro i c
 have h:(4294967295:yV).toBitVec.getLsbD i=ae:=by
  rw[show(4294967295:yV).toBitVec=BitVec.allOnes 32 from rfl,BitVec.getLsbD_allOnes]
  exact yY c
 simp only[UInt32.toBitVec_xor,UInt32.toBitVec_and,BitVec.getLsbD_xor,BitVec.getLsbD_and,h];cases e.toBitVec.getLsbD i <;> cases f.toBitVec.getLsbD i <;> cases g.toBitVec.getLsbD i <;> rfl
theorem ZNX(a b c:yV):(((a&&&b)^^^(a&&&c))^^^(b&&&c)).toNat=mj a.toNat b.toNat c.toNat:=by
 rw[<-ZNK];congr 1;apply UInt32.toBitVec_inj.1;apply BitVec.eq_of_getLsbD_eq;intro i e;simp only[UInt32.toBitVec_xor,UInt32.toBitVec_and,UInt32.toBitVec_or,BitVec.getLsbD_xor,BitVec.getLsbD_and,BitVec.getLsbD_or];cases a.toBitVec.getLsbD i <;> cases b.toBitVec.getLsbD i <;> cases c.toBitVec.getLsbD i <;> rfl
theorem ZIY{l:yL yB}(h:l.length=64):∃o,VL yD l=ab o/\o.length=64/\∀(i:Nat)x,o[i]? =ab x->x.toNat=wd (Yn (l.map yao)) i:=by
 unfold VL
 have g:∀(w:yL yV)(y:yV),y.toNat=wd (Yn (l.map yao)) w.length->(∀(j:Nat)x,w[j]? =ab x->x.toNat=wd (Yn (l.map yao)) j)->∀(j:Nat)x,(w++[y])[j]? =ab x->x.toNat=wd (Yn (l.map yao)) j:=by
  intro w y hy f j x e;by_cases hj:j < w.length
  .rw[List.getElem?_append_left hj]at e;exact f j x e
  .rw[List.getElem?_append_right (by omega)]at e
   have:j=w.length:=by
    have:=(List.getElem?_eq_some_iff.1 e).1;simp at this;omega
   subst this;rw[Nat.sub_self]at e;cases e;exact hy
 obtain⟨w0,g1,g2,g3⟩:=Yo (step:=XM yD) 16 (λk s=>∃w,s=(l,(k:Int),w)/\w.length=k/\∀(j:Nat)x,w[j]? =ab x->x.toNat=wd (Yn (l.map yao)) j) (λw=>w.length=16/\∀(j:Nat)x,w[j]? =ab x->x.toNat=wd (Yn (l.map yao)) j) (i:=(l,(0:Int),([]:yL yV))) ⟨_,rfl,rfl,λj x e=>by simp at e⟩ (by omega) (by
  rintro k _ hk ⟨w,rfl,f,c⟩;left;obtain⟨x0,W,_⟩:=Zf (l:=l) (k:=4*k) (by omega);obtain⟨x1,X,_⟩:=Zf (l:=l) (k:=4*k+1) (by omega);obtain⟨x2,Y,_⟩:=Zf (l:=l) (k:=4*k+2) (by omega);obtain⟨x3,Z,_⟩:=Zf (l:=l) (k:=4*k+3) (by omega);unfold XM;dsimp only;rw[Yf (z:=4*(k:Int)) (by omega) (by omega),Yf (z:=4*(k:Int)+1) (by omega) (by omega),Yf (z:=4*(k:Int)+2) (by omega) (by omega),Yf (z:=4*(k:Int)+3) (by omega) (by omega)]
  rw[yW (yY (by omega)),show 4*(k:Int)=((4*k:Nat):Int) by omega,show((4*k:Nat):Int)+1=((4*k+1:Nat):Int) by omega,show((4*k:Nat):Int)+2=((4*k+2:Nat):Int) by omega,show((4*k:Nat):Int)+3=((4*k+3:Nat):Int) by omega,
   Zm W,ya,Zm X,ya,Zm Y,ya,Zm Z,ya,yW (ZL (by omega) (by omega)),Zl (by omega)]
  refine⟨_,rfl,_,rfl,by rw[yn,List.length_singleton];omega,g w _ ?_ c⟩;have F:∀(k:Nat)(x:yB),l[k]? =ab x->(l.map yao)[k]? =ab x.toNat:=λk x e=>by rw[yah,e];rfl
  have G:=HO k (l.map yao) _ _ _ _ (F _ _ W) (F _ _ X) (F _ _ Y) (F _ _ Z);rw[ZM4,f];have b0:=x0.toNat_lt;have b1:=x1.toNat_lt;have b2:=x2.toNat_lt;have b3:=x3.toNat_lt;exact(ZAR _ (by omega) G (by omega)).symm) (by
  rintro _ ⟨w,rfl,f,c⟩;unfold XM;dsimp only;rw[yX (cf (by omega))];exact⟨_,rfl,f,c⟩)
 rw[g1,ya]
 obtain⟨w1,k1,k2,k3⟩:=Yo (step:=XN yD) 48 (λk s=>∃w,s=(((16+k:Nat):Int),w)/\w.length=16+k/\∀(j:Nat)x,w[j]? =ab x->x.toNat=wd (Yn (l.map yao)) j) (λw=>w.length=64/\∀(j:Nat)x,w[j]? =ab x->x.toNat=wd (Yn (l.map yao)) j) (i:=((16:Int),w0)) ⟨_,rfl,g2,g3⟩ (by omega) (by
  rintro k _ hk ⟨w,rfl,f,c⟩;left;obtain⟨I,m,_⟩:=Zf (l:=w) (k:=k+1) (by omega);obtain⟨M,t,_⟩:=Zf (l:=w) (k:=k+14) (by omega);obtain⟨e3,A,_⟩:=Zf (l:=w) (k:=k) (by omega);obtain⟨e4,E,_⟩:=Zf (l:=w) (k:=k+9) (by omega);obtain⟨o1,Q,p1⟩:=jM I 7 25 rfl (by omega) (z:=7) rfl;obtain⟨o2,S,p2⟩:=jM I 18 14 rfl (by omega) (z:=18) rfl;obtain⟨o3,T,p3⟩:=jM M 17 15 rfl (by omega) (z:=17) rfl;obtain⟨o4,U,p4⟩:=jM M 19 13 rfl (by omega) (z:=19) rfl;unfold XN;dsimp only;rw[yW (yY (by omega)),Yf (z:=((16+k:Nat):Int) - 15) (by omega) (by omega),Yf (z:=((16+k:Nat):Int) - 2) (by omega) (by omega),Yf (z:=((16+k:Nat):Int) - 16) (by omega) (by omega),Yf (z:=((16+k:Nat):Int) - 7) (by omega) (by omega)];rw[show((16+k:Nat):Int) - 15=((k+1:Nat):Int) by omega,show((16+k:Nat):Int) - 2=((k+14:Nat):Int) by omega,show((16+k:Nat):Int) - 16=(k:Int) by omega,show((16+k:Nat):Int) - 7=((k+9:Nat):Int) by omega]
  rw[Zm m,ya,Zm t,ya,Q,ya,S,ya,T,ya,U,ya,Zm A,ya,Zm E,ya,
   yW (ZL (by omega) (by omega)),Zl (by omega)]
  refine⟨_,rfl,_,rfl,by rw[yn,List.length_singleton];omega,g w _ ?_ c⟩;have hn:=HL (Yn (l.map yao)) k;rw[<-c _ _ m, <-c _ _ t, <-c _ _ A, <-c _ _ E]at hn;rw[f,Nat.add_comm 16 k,hn,eU,eU,eU,ZNF I p1 p2,ZNG M p3 p4];exact ZNL ..) (by
  rintro _ ⟨w,rfl,f,c⟩;unfold XN;dsimp only;rw[yX (cf (by omega))];exact⟨_,rfl,f,c⟩)
 rw[k1,ya];exact⟨_,rfl,k2,k3⟩
theorem ZIZ{st:yL yV}{l:yL yB}(hs:st.length=8)(h:l.length=64):∃o,VM yD st l=ab o/\o.map yar=fF (st.map yar) (Yn (l.map yao)):=by
 unfold VM;obtain⟨w,hw,hwl,Z⟩:=ZIY h;obtain⟨k,hk,hkv⟩:∃k,KA yD=ab k/\k.map yar=ks:=⟨_,rfl,rfl⟩;have hkl:k.length=64:=by rw[<-yx (f:=yar),hkv];rfl
 generalize hws:Yn (l.map yao)=Q at Z;rw[hw,ya,hk,ya,yW (ZL (by omega) (by omega))]
 obtain⟨x,g1,u,v,rfl,g2,g3⟩:=Yo (step:=XO yD) 64 (λi s=>∃u v,s=(st,w,k,(i:Int),u,v)/\v.length=8/\v.map yar=rs Q (st.map yar) i) (λx=>∃u v,x=(st,u,v)/\v.length=8/\v.map yar=rs Q (st.map yar) 64) (i:=(st,w,k,(0:Int),([()]:yL Unit),st)) ⟨_,_,rfl,hs,rfl⟩ (by omega) (by
  rintro i _ hi ⟨u,v,rfl,Y,M⟩;left
  match v,Y,M with
  |[g,A,E,F,c,m,t,y],_,M=>
   obtain⟨T,G,_⟩:=Zf (l:=k) (k:=i) (by omega);obtain⟨U,I,_⟩:=Zf (l:=w) (k:=i) (by omega);obtain⟨o1,ho1,p1⟩:=jM c 6 26 rfl (by omega) (z:=6) rfl;obtain⟨o2,ho2,p2⟩:=jM c 11 21 rfl (by omega) (z:=11) rfl;obtain⟨o3,ho3,p3⟩:=jM c 25 7 rfl (by omega) (z:=25) rfl;obtain⟨o4,ho4,p4⟩:=jM g 2 30 rfl (by omega) (z:=2) rfl;obtain⟨o5,ho5,p5⟩:=jM g 13 19 rfl (by omega) (z:=13) rfl;obtain⟨o6,ho6,p6⟩:=jM g 22 10 rfl (by omega) (z:=22) rfl;have W:∀n:Nat,n < 8->bK (n:Int) ([g,A,E,F,c,m,t,y]:yL yV).length=ae:=λn hn=>XI (by omega) (by simp;omega);have b0:=W 0 (by omega);have b1:=W 1 (by omega);have b2:=W 2 (by omega);have b3:=W 3 (by omega);have b4:=W 4 (by omega);have b5:=W 5 (by omega);have b6:=W 6 (by omega);have b7:=W 7 (by omega);unfold XO;dsimp only;generalize ZN yD=R at ho1 ho2 ho3 ho4 ho5 ho6 ⊢;rw[yW (yY (by omega))];have c0:bK 0 ([g,A,E,F,c,m,t,y]:yL yV).length=ae:=b0;have c1:bK 1 ([g,A,E,F,c,m,t,y]:yL yV).length=ae:=b1;have c2:bK 2 ([g,A,E,F,c,m,t,y]:yL yV).length=ae:=b2;have c3:bK 3 ([g,A,E,F,c,m,t,y]:yL yV).length=ae:=b3;have c4:bK 4 ([g,A,E,F,c,m,t,y]:yL yV).length=ae:=b4;have c5:bK 5 ([g,A,E,F,c,m,t,y]:yL yV).length=ae:=b5;have c6:bK 6 ([g,A,E,F,c,m,t,y]:yL yV).length=ae:=b6;have c7:bK 7 ([g,A,E,F,c,m,t,y]:yL yV).length=ae:=b7;simp only[c0,c1,c2,c3,c4,c5,c6,c7,if_true,List.getElem?_cons_zero,List.getElem?_cons_succ,ya,ho1,ho2,ho3,ho4,ho5,ho6,Zm G,Zm I];rw[Zl (by omega)];refine⟨_,rfl,_,_,rfl,rfl, ?_⟩;rw[show rs Q (st.map yar) (i+1)=nA (rs Q (st.map yar) i) (ks.getD i 0) (wd Q i) from rfl, <-M]
   have hk1:ks.getD i 0=T.toNat:=by
    rw[<-hkv,ydg,yah,G];rfl
   rw[hk1, <-Z i U I];simp only[List.map_cons,List.map_nil];rw[HN]
   have kt:((y+((o1^^^o2)^^^o3))+((c&&&m)^^^((4294967295^^^c)&&&t))+T+U).toNat=lo (yv (yv (yv (yv y.toNat (S1 c.toNat)) (ch c.toNat m.toNat t.toNat)) T.toNat) U.toNat):=by
    rw[eU,eU,eU,eU,ZNI c p1 p2 p3,ZNW];exact ZNM ..
   have ka:((y+((o1^^^o2)^^^o3))+((c&&&m)^^^((4294967295^^^c)&&&t))+T+U+((o4^^^o5)^^^o6)+(((g&&&A)^^^(g&&&E))^^^(A&&&E))).toNat=lo (yv (yv (yv (yv (yv (yv y.toNat (S1 c.toNat)) (ch c.toNat m.toNat t.toNat)) T.toNat) U.toNat) (S0 g.toNat)) (mj g.toNat A.toNat E.toNat)):=by
    rw[eU,eU,kt,ZNH g p4 p5 p6,ZNX];exact ZNN ..
   have ke:(F+(((y+((o1^^^o2)^^^o3))+((c&&&m)^^^((4294967295^^^c)&&&t)))+T+U)).toNat=lo (yv F.toNat (yv (yv (yv (yv y.toNat (S1 c.toNat)) (ch c.toNat m.toNat t.toNat)) T.toNat) U.toNat)):=by
    rw[eU,kt];exact ZNO ..
   rw[ka,ke]) (by
  rintro _ ⟨u,v,rfl,Y,M⟩;unfold XO;dsimp only;rw[yX (cf (by omega))];exact⟨_,rfl,_,_,rfl,Y,M⟩)
 rw[g1,ya];have hml:(fF (st.map yar) Q).length=8:=nB (by rw[yx];exact hs)
 obtain⟨x,q1,q2⟩:=Yo (step:=XP yD) 8 (λi s=>∃e,s=(st,(i:Int),u,e)/\e.length=8/\∀(j:Nat)x,e[j]? =ab x->if j < i then(fF (st.map yar) Q)[j]? =ab x.toNat else(rs Q (st.map yar) 64)[j]? =ab x.toNat) (λx=>x.2.map yar=fF (st.map yar) Q) (i:=(st,(0:Int),u,v)) ⟨_,rfl,g2,λj x S=>by
  rw[yX (by omega), <-g3,yah,S];rfl⟩ (by omega) (by
  rintro i _ hi ⟨e,rfl,Y,M⟩;left;obtain⟨T,G,_⟩:=Zf (l:=e) (k:=i) (by omega);obtain⟨U,I,_⟩:=Zf (l:=st) (k:=i) (by omega);unfold XP;dsimp only;rw[yW (yY (by omega)),yW (XI (by omega) (by omega)),yal,G,ya,Zm I,ya,yW (XI (by omega) (by omega)),ya,Zl (by omega)];refine⟨_,rfl,_,rfl,by rw[List.length_set];exact Y, ?_⟩;intro j x S;by_cases hji:j=i
  .subst hji;rw[ycw (by omega)]at S;cases S;rw[yW (by omega),eU];have X:=M _ _ G;rw[yX (by omega)]at X;unfold fF;rw[List.getElem?_zipWith,X,yah,I];rfl
  .rw[List.getElem?_set_ne (Ne.symm hji)]at S;have X:=M j x S;by_cases hj:j < i
   .rw[yW hj]at X;rw[yW (by omega)];exact X
   .rw[yX hj]at X;rw[yX (by omega)];exact X) (by
  rintro _ ⟨e,rfl,Y,M⟩;unfold XP;dsimp only;rw[yX (cf (by omega))];refine⟨_,rfl, ?_⟩;dsimp only;apply List.ext_getElem?;intro j;rw[yah];by_cases hj:j < 8
  .obtain⟨x,S,_⟩:=Zf (l:=e) (k:=j) (by omega);have:=M j x S;rw[yW hj]at this;rw[S,this];rfl
  .rw[yat (by omega),yat (by omega)];rfl)
 dsimp only;rw[q1,ya];exact⟨_,rfl,q2⟩
def pi(n:Nat):yL yB:=(gM n).map yaw
theorem KD(n:yU){k:Nat}(c:k < 8):(pi n.toNat)[k]? =ab (w8 ((ZI n (56 - 8*k)).toNat:Int)):=by
 have h:∀m:Nat,w8 ((ZI n m).toNat:Int)=yaw (n.toNat / 2 ^ m % 256):=by
  intro m;unfold w8 ZI;rw[yaz,yas (ydd (Nat.div_le_self _ _) (ybx n))];congr 1
 rw[h]
 match k,c with
 |0,_=>rfl
 |1,_=>rfl
 |2,_=>rfl
 |3,_=>rfl
 |4,_=>rfl
 |5,_=>rfl
 |6,_=>rfl
 |7,_=>
  show ab (yaw (n.toNat % 256))=ab (yaw (n.toNat / 2 ^ 0 % 256));rw[Nat.pow_zero,Nat.div_one]
theorem ZM5{l:yL yB}(h:l.length<=4294967296):Vw yD l=ab (l++([128]:yL yB)++yab (zs l.length) 0++pi (8*l.length)):=by
 unfold Vw;have g:l.length % 64 < 64:=Nat.mod_lt _ (by omega);rw[yW (ZL (by omega) (by omega)),yW (ZL (by omega) (by omega))]
 obtain⟨x,m,t⟩:=Yo (step:=Xz yD) (zs l.length) (λj s=>s=(l,l++([128]:yL yB)++yab j 0)) (λx=>x=(l,l++([128]:yL yB)++yab (zs l.length) 0)) (i:=(l,l++([128]:yL yB))) (by simp) (by unfold zs;omega) (by
  rintro j _ y rfl;left;unfold Xz;dsimp only;have c:(l++([128]:yL yB)++yab j 0).length=l.length+1+j:=by rw[yn,yn,ycp];rfl
  have e:Int.tmod ((l++([128]:yL yB)++yab j 0).length:Int) 64=(((l.length+1+j) % 64:Nat):Int):=by rw[c];rfl
  rw[e];unfold zs at y;rw[yW (by simp;omega),yW (ZL (by omega) (by omega))];exact⟨_,rfl,by rw[yac,List.replicate_succ']⟩) (by
  rintro _ rfl;unfold Xz;dsimp only;have c:(l++([128]:yL yB)++yab (zs l.length) 0).length=l.length+1+zs l.length:=by rw[yn,yn,ycp];rfl
  have e:Int.tmod ((l++([128]:yL yB)++yab (zs l.length) 0).length:Int) 64=(((l.length+1+zs l.length) % 64:Nat):Int):=by rw[c];rfl
  rw[e,yX (by simp;unfold zs;omega)];exact⟨_,rfl,rfl⟩)
 rw[m,ya,t];dsimp only;generalize A:l++([128]:yL yB)++yab (zs l.length) 0=p
 have E:p.length<=l.length+65:=by
  rw[<-A,yn,yn,ycp];unfold zs;simp;omega
 have f:(8*cK (l.length:Int)).toNat=8*l.length:=by
  rw[UInt64.toNat_mul];unfold cK;rw[yaz];show 8*((((l.length:Nat):Int) % 18446744073709551616).toNat % 2 ^ 64) % 2 ^ 64=_;omega
 generalize M:8*cK (l.length:Int)=N at f
 obtain⟨x,F,G⟩:=Yo (step:=XA yD) 8 (λk s=>s=(N,56 - 8*(k:Int),p++(pi N.toNat).take k)) (λx=>x=p++pi N.toNat) (i:=(N,(56:Int),p)) (by simp) (by omega) (by
  rintro k _ I rfl;left;unfold XA;dsimp only;rw[yW (yY (by omega)),yW (yY (by omega)),yW (ZL (by simp;omega) (by simp;omega)),Yf (z:=56 - 8*(k:Int) - 8) (by omega) (by omega)];refine⟨_,rfl, ?_⟩;rw[XH (KD N I),show min (56 - 8*(k:Int)).toNat 64=56 - 8*k by omega,yac,show 56 - 8*((k+1:Nat):Int)=56 - 8*(k:Int) - 8 by omega]) (by
  rintro _ rfl;unfold XA;dsimp only;rw[yX (cf (by omega))];exact⟨_,rfl,rfl⟩)
 rw[F,ya,G,f]
theorem ZM6{l:yL yB}(h:l.length<=4294967296):W0 yD l=ab (fL l):=by
 unfold W0;obtain⟨f,hf,g⟩:∃f,JX yD=ab f/\f.map yar=ib:=⟨_,rfl,rfl⟩;have M:f.length=8:=by rw[<-yx (f:=yar),g];rfl
 rw[ZM5 h,ya,hf,ya];generalize hE:l++([128]:yL yB)++yab (zs l.length) 0++pi (8*l.length)=E
 have t:E.map yao=jd l:=by
  unfold jd;rw[<-hE];simp only[List.map_append,List.map_replicate,List.map_cons,List.map_nil,pi,List.map_map,yac,List.singleton_append]
  have:gM (8*l.length)=(gM (8*l.length)).map (yao ∘ yaw):=by
   simp[gM]
  rw[<-this];simp
 have hEl:E.length=64*((l.length+72) / 64):=by rw[<-yx (f:=yao),t,ZtB]
 generalize hz:gk=z;have Q:z.length=32:=by rw[<-hz];rfl
 obtain⟨x,h1,v,rfl,g1,Z⟩:=Yo (step:=X3 yD) ((l.length+72) / 64) (λc s=>∃d,s=(E,d,((64*c:Nat):Int),z)/\d.length=8/\d.map yar=eR c (E.map yao) ib) (λx=>∃v,x=(v,z)/\v.length=8/\v.map yar=eR ((l.length+72) / 64) (E.map yao) ib) (i:=(E,f,(0:Int),z)) ⟨_,rfl,M,g⟩ (by omega) (by
  rintro c _ hc ⟨d,rfl,G,e⟩;left;unfold X3;dsimp only;obtain⟨m,S,y⟩:=ZIZ (st:=d) (l:=(E.take (64*c+64)).drop (64*c)) G (by rw[List.length_drop,List.length_take];omega);rw[yW (yY (by omega)),Yf (z:=((64*c:Nat):Int)+64) (by omega) (by omega),yW (by simp only[VQ,Bool.and_eq_true,yP];omega),show(((64*c:Nat):Int)+64).toNat=64*c+64 by omega,yal,S,ya];refine⟨_,rfl,_,by rw[show((64*c:Nat):Int)+64=((64*(c+1):Nat):Int) by omega], ?_, ?_⟩
  .rw[<-yx (f:=yar),y];exact nB (by rw[yx];exact G)
  .rw[y,vO,e, <-List.map_drop, <-List.map_take];congr 3;rw[List.drop_take];congr 1;omega) (by
  rintro _ ⟨d,rfl,G,e⟩;unfold X3;dsimp only;rw[yX (cf (by omega))];exact⟨_,rfl,_,rfl,G,e⟩)
 rw[h1,ya];dsimp only;generalize T:eR ((l.length+72) / 64) (E.map yao) ib=U at Z
 obtain⟨x,k1,o,rfl,k2,k3⟩:=Yo (step:=X4 yD) 32 (λi s=>∃o,s=(v,(i:Int),z,o)/\o.length=32/\∀(j:Nat),j < i->o[j]? =ab (Go.Sha.lN U j)) (λx=>∃o,x=(z,o)/\o.length=32/\∀(j:Nat),j < 32->o[j]? =ab (Go.Sha.lN U j)) (i:=(v,(0:Int),z,z)) ⟨_,rfl,Q,λj I=>by omega⟩ (by omega) (by
  rintro i _ hi ⟨o,rfl,W,e⟩;left;unfold X4;dsimp only;have e1:Int.tdiv (i:Int) 4=((i / 4:Nat):Int):=rfl;have e2:Int.tmod (i:Int) 4=((i % 4:Nat):Int):=rfl;obtain⟨X,A,_⟩:=Zf (l:=v) (k:=i / 4) (by omega);obtain⟨x2,Y,_⟩:=Zf (l:=o) (k:=i) (by omega);rw[yW (yY (by omega)),e1,e2,Yf (z:=((i / 4:Nat):Int)) (by omega) (by omega),Yf (z:=8*((i % 4:Nat):Int)) (by omega) (by omega),Yf (z:=24 - 8*((i % 4:Nat):Int)) (by omega) (by omega),Zm A,ya,yW (yY (by omega)),yW (XI (by omega) (by omega)),yal,Y,ya,Zl (by omega)];refine⟨_,rfl,_,rfl,by rw[List.length_set];exact W, ?_⟩;intro j I;by_cases F:j=i
  .subst F;rw[ycw (by omega)];congr 1;unfold Go.Sha.lN
   have hx:U.getD (j / 4) 0=X.toNat:=by
    rw[<-Z,ydg,yah,A];rfl
   rw[hx,show min (24 - 8*((j % 4:Nat):Int)).toNat 32=24 - 8*(j % 4) by omega,oQ];unfold w8;have e3:∀m:Nat,(((m:Nat):Int) % 256).toNat=m % 256:=λm=>by omega
   rw[e3,show Nat.shiftRight X.toNat (24 - 8*(j % 4))=X.toNat >>> (24 - 8*(j % 4)) from rfl,Nat.shiftRight_eq_div_pow]
   exact UInt8.toNat_inj.1 (by simp)
  .rw[List.getElem?_set_ne (Ne.symm F)];exact e j (by omega)) (by
  rintro _ ⟨o,rfl,W,e⟩;unfold X4;dsimp only;rw[yX (cf (by omega))];exact⟨_,rfl,_,rfl,W,e⟩)
 rw[k1,ya,HQ, <-t,T];congr 1;apply List.ext_getElem?;intro j;by_cases I:j < 32
 .rw[k3 j I,yah,List.getElem?_range I];rfl
 .rw[yat (by show o.length<=j;omega),yat (by simp;omega)]
noncomputable def Wv(F:Nat)(a0:yL yB):yO aGO:=if ag (a0.length<=4294967296)=ae then ab (fL a0) else W0 F a0
noncomputable def ZmI(F:Nat):Fs yc:={ KC F with M:=λx=>Wv F x}
noncomputable def Zgr:Fs yc:=ZmI yD
theorem ZmJ:Zgr.Ok:=nw (s:=KC yD) Zlw λx=>by
 show Wv yD x=W0 yD x;unfold Wv;split
 .rename_i h;exact(ZM6 (yF h)).symm
 .rfl
theorem ZI0{l:yL yB}(h:l.length<=4294967296):Wv yD l=ab (fL l):=yW (yY h)
end Go.Proofs.YtghfiijgklnflaaGreat
end
section
set_option maxRecDepth 4000
namespace Go.Proofs.YtghfiijgklnflaaGreat
open Go Go.Ev
noncomputable section
def Y8(F:Nat)(s:(yU×Int×aGO)):yO ((yU×Int×aGO)⊕aGO):=
 if(ag (s.2.1 >= 0))=ae then
  if(ag (0<=s.2.1))=ae then
   let a:yB:=w8 ((ZI s.1 (min s.2.1.toNat 64)).toNat:Int)
   if(bU s.2.2.length 1 1)=ae then
    ab (.inl (s.1,wi (s.2.1 - 8),s.2.2++([a]:yL yB)))
   else
   ad
  else
  ad
 else
 ab (.inr s.2.2)
def Zd7:Lp:=⟨[(0,.v .u64),(3,.own 0 .u8),(4,.v yI)],[.log .u8 5],[.u64,yI,aGP],[⟨.exit 0,[(3,.own 0 .u8)],[.log .u8 5],[aGP]⟩],Ze (Y8 yD) yD⟩
theorem Zix:Zd7.bq yc 112 0:=Zx { own:=[3,9,15],still:=[2]} [] [] trivial
def Qj(F:Nat)(a0:yU):yO (aGO):=
 (Ze (Y8 F) F (a0,56,[])).bind λa=>
 ab a
def Zlx(F:Nat):Fs yc:=⟨112,[.v .u64],[],[.u64],(zP aGP),λx=>Qj F x⟩
def ZeU:Fs yc:=Zlx yD
theorem Zly:ZeU.Ok:=aX { own:=[3,9,15],still:=[2]} [(0,Zd7)] [] trivial ⟨Zix,aw⟩
def YC(F:Nat)(s:(yU×Int×aGO×aGO)):yO ((yU×Int×aGO×aGO)⊕(aGO×aGO)):=
 if(ag (s.2.1 >= 0))=ae then
  if(ag (0<=s.2.1))=ae then
   let a:yB:=w8 ((ZI s.1 (min s.2.1.toNat 64)).toNat:Int)
   if(bU s.2.2.2.length 1 1)=ae then
    ab (.inl (s.1,wi (s.2.1 - 8),s.2.2.1,s.2.2.2++([a]:yL yB)))
   else
   ad
  else
  ad
 else
 ab (.inr (s.2.2.1,s.2.2.2))
def ZbB:Lp:=⟨[(0,.v .u64),(3,.own 1 .u8),(4,.v yI)],[.log .u8 5,.log .u8 5],[.u64,yI,aGP,aGP],[⟨.exit 0,[(3,.own 1 .u8)],[.log .u8 5,.log .u8 5],[aGP,aGP]⟩],Ze (YC yD) yD⟩
theorem Zgs:ZbB.bq yc 112 0:=Zx { own:=[2,3,9,15,16]} [] [] trivial
def W6(F:Nat)(a0:yU):yO (aGO):=
 (Ze (YC F) F (a0,56,[],[])).bind λa=>
 ab a.2
def Ziy(F:Nat):Fs yc:=⟨112,[.v .u64],[],[.u64],[⟨.ret,[(0,.own 0 .u8)],[.log .u8 5],[aGP]⟩],λx=>W6 F x⟩
def Zb9:Fs yc:=Ziy yD
theorem Ziz:Zb9.Ok:=aX { own:=[2,3,9,15,16]} [(0,ZbB)] [] trivial ⟨Zgs,aw⟩
def YQ(F:Nat)(s:(aHh×Int×aGO×aGO)):yO ((aHh×Int×aGO×aGO)⊕(aGO×aGO)):=
 if(ag (s.2.1 < (s.1.length:Int)))=ae then
  (idx s.1 s.2.1).bind λa=>
  (Qj F (cK (a.length:Int))).bind λb=>
  if(bU s.2.2.2.length b.length 1)=ae then
   (idx s.1 s.2.1).bind λc=>
   if(bU ((s.2.2.2++b).length) c.length 1)=ae then
    ab (.inl (s.1,wi (s.2.1+1),s.2.2.1,(s.2.2.2++b)++c))
   else
   ad
  else
  ad
 else
 ab (.inr (s.2.2.1,s.2.2.2))
def ZeV:Lp:=⟨[(1,.v aHg),(4,.am 0 []),(5,.own 1 .u8),(6,.v yI)],zJ,[aHg,yI,aGQ,aGP],[⟨.exit 0,[(4,.am 0 []),(5,.own 1 .u8)],zJ,[aGQ,aGP]⟩],Ze (YQ yD) yD⟩
def ZNY:HI:={ own:=[5,11,14,28,30,31,36],still:=[10,26,37]}
theorem ZjI:ZeV.bq yc 62 0:=Zx ZNY [] [ZeU] ⟨Zly,aw⟩
def XQ(F:Nat)(a0:ByteArray)(a1:aHh):yO (aGO):=
 (W6 F (cK (a0.size:Int))).bind λa=>
 if(ag (a0.size<=maxLen))=ae then
  if(bU a.length a0.data.toList.length 1)=ae then
   (Ze (YQ F) F (a1,0,gk,a++a0.data.toList)).bind λb=>
   (Wv F b.2).bind λc=>
   ab c
  else
  ad
 else
 ad
def ZmK(F:Nat):Fs yc:=⟨62,[.v .str,.v aHg],[],[.str,aHg],(zP aGQ),λx=>XQ F x.1 x.2⟩
def W1:Fs yc:=ZmK yD
theorem VN:W1.Ok:=aX ZNY [(0,ZeV)] [Zb9,Zgr] ⟨Ziz,ZmJ,aw⟩ ⟨ZjI,aw⟩
def YD(F:Nat)(s:(Int×aGO×aGO)):yO ((Int×aGO×aGO)⊕(aGO×aGO)):=
 if(ag (s.1 < 32))=ae then
  if(bK s.1 32)=ae then
   (s.2.1[s.1.toNat]?).bind λa=>
   if(bU s.2.2.length 1 1)=ae then
    ab (.inl (wi (s.1+1),s.2.1,s.2.2++([a]:yL yB)))
   else
   ad
  else
  ad
 else
 ab (.inr (s.2.1,s.2.2))
def ZbC:Lp:=⟨[(3,.am 0 []),(5,.own 1 .u8),(6,.v yI)],zJ,[yI,aGQ,aGP],[⟨.exit 0,[(5,.own 1 .u8)],zJ,[aGQ,aGP]⟩],Ze (YD yD) yD⟩
def ZNZ:HI:={ own:=[5,7,9,14,19],still:=[4]}
theorem Zgt:ZbC.bq yc 63 0:=Zx ZNZ [] [] trivial
def Y9(F:Nat)(a0:aGO)(a1:aGO):yO (aGO):=
 if(bU 0 a0.length 1)=ae then
  (Ze (YD F) F (0,a1,a0)).bind λa=>
  ab a.2
 else
 ad
def ZiA(F:Nat):Fs yc:=⟨63,[.v aGP,.v aGQ],[],[aGP,aGQ],(zP aGP),λx=>Y9 F x.1 x.2⟩
def WH:Fs yc:=ZiA yD
theorem VW:WH.Ok:=aX ZNZ [(0,ZbC)] [] trivial ⟨Zgt,aw⟩
def X5(F:Nat):(Int×aGO×aGO×aGO×aGO)->yO ((Int×aGO×aGO×aGO×aGO)⊕(aGO×aGO×aGO×aGO))
 |(a,d,e,b,c)=>
 if(ag (a < 16))=ae then
  if(bK a 32)=ae then
   (b[a.toNat]?).bind λf=>
   if(bK a 16)=ae then
    (c[a.toNat]?).bind λg=>
    ab (.inl (wi (a+1),d,e,b,c.set a.toNat f))
   else
   ad
  else
  ad
 else
 ab (.inr (d,e,b,c))
abbrev zN:List bh:=[.var (.v aGQ) ae,.var (.v aHe) ae,.var (.v aGQ) ae,.var (.v aHe) ae]
def Zd8:Lp:=⟨[(2,.am 1 []),(3,.am 2 []),(4,.am 3 []),(5,.v yI)],zN,[yI,aGQ,aHe,aGQ,aHe],[⟨.exit 0,[(2,.am 1 []),(4,.am 3 [])],zN,[aGQ,aHe,aGQ,aHe]⟩],Ze (X5 yD) yD⟩
theorem ZiB:Zd8.bq yc 13 0:=Zx { still:=[6,7,9]} [] [] trivial
def Qk(F:Nat)(a0:aGO):yO (aGO):=
 (Y9 F [] a0).bind λa=>
 (XQ F rX [a]).bind λb=>
 (Ze (X5 F) F (0,a0,[0,0,0,0,0,0,0,0,0,0,0,0,0,0,0,0],b,[0,0,0,0,0,0,0,0,0,0,0,0,0,0,0,0])).bind λc=>
 ab c.2.2.2
def Zlz(F:Nat):Fs yc:=⟨13,[.v aGQ],[],[aGQ],(zP aHe),λx=>Qk F x⟩
def ZeW:Fs yc:=Zlz yD
theorem ZlA:ZeW.Ok:=aX { still:=[6,7,9]} [(0,Zd8)] [WH,W1] ⟨VW,VN,aw⟩ ⟨ZiB,aw⟩
def Vx(F:Nat)(a0:aGO):yO (aGO):=
 (Y9 F [] a0).bind λa=>
 (XQ F HV [a]).bind λb=>
 ab b
def ZmL(F:Nat):Fs yc:=⟨15,[.v aGQ],[],[aGQ],(zP aGQ),λx=>Vx F x⟩
def KE:Fs yc:=ZmL yD
theorem ZeX:KE.Ok:=aX { still:=[3,4,6]} [] [WH,W1] ⟨VW,VN,aw⟩
def X6(F:Nat)(s:(aGO×aGO×Int×aGO)):yO ((aGO×aGO×Int×aGO)⊕aGO):=
 if(ag (s.2.2.1 < (s.1.length:Int)))=ae then
  (idx s.1 s.2.2.1).bind λa=>
  (idx s.2.1 s.2.2.1).bind λb=>
  if(bU s.2.2.2.length 1 1)=ae then
   ab (.inl (s.1,s.2.1,wi (s.2.2.1+1),s.2.2.2++([a^^^b]:yL yB)))
  else
  ad
 else
 ab (.inr s.2.2.2)
def Zd9:Lp:=⟨[(0,.v aGP),(1,.v aGP),(5,.own 0 .u8),(6,.v yI)],[.log .u8 5],[aGP,aGP,yI,aGP],[⟨.exit 0,[(5,.own 0 .u8)],[.log .u8 5],[aGP]⟩],Ze (X6 yD) yD⟩
theorem ZiC:Zd9.bq yc 116 0:=Zx { own:=[5,13,24],still:=[4]} [] [] trivial
def Ql(F:Nat)(a0:aGO)(a1:aGO):yO (aGO):=
 (Ze (X6 F) F (a0,a1,0,[])).bind λa=>
 ab a
def ZlB(F:Nat):Fs yc:=⟨116,[.v aGP,.v aGP],[],[aGP,aGP],(zP aGP),λx=>Ql F x.1 x.2⟩
def ZeY:Fs yc:=ZlB yD
theorem ZlC:ZeY.Ok:=aX { own:=[5,13,24],still:=[4]} [(0,Zd9)] [] trivial ⟨ZiC,aw⟩
def XR(F:Nat)(s:(yU×Int×aGO)):yO ((yU×Int×aGO)⊕aGO):=
 if(ag (s.2.1 < 8))=ae then
  let a:yU:=ZI s.1 (min ((cK (wi (56 - (wi (8*s.2.1))))).toNat:Int).toNat 64)
  if(bU s.2.2.length 1 1)=ae then
   ab (.inl (s.1,wi (s.2.1+1),s.2.2++([w8 (a.toNat:Int)]:yL yB)))
  else
  ad
 else
 ab (.inr s.2.2)
def ZcG:Lp:=⟨[(0,.v .u64),(3,.own 0 .u8),(4,.v yI)],[.log .u8 5],[.u64,yI,aGP],[⟨.exit 0,[(3,.own 0 .u8)],[.log .u8 5],[aGP]⟩],Ze (XR yD) yD⟩
theorem ZhV:ZcG.bq yc 165 0:=Zx { own:=[3,9,18],still:=[2]} [] [] trivial
def VO(F:Nat)(a0:yU):yO (aGO):=
 (Ze (XR F) F (a0,0,[])).bind λa=>
 ab a
def Zko(F:Nat):Fs yc:=⟨165,[.v .u64],[],[.u64],(zP aGP),λx=>VO F x⟩
def Zea:Fs yc:=Zko yD
theorem Zkp:Zea.Ok:=aX { own:=[3,9,18],still:=[2]} [(0,ZcG)] [] trivial ⟨ZhV,aw⟩
def KF:HI:={ own:=[5,36,41],still:=[4,22,24],bS:=[21]}
def YJ(F:Nat):(Int×yU×Int×aGO×aGO×aGO)->yO ((Int×yU×Int×aGO×aGO×aGO)⊕(Int×yU×aGO×aGO×aGO))
 |(c,e,a,f,b,d)=>
 if(ag (a < 32))=ae then
  if(ag ((b.length:Int) < c))=ae then
   if(bK a 32)=ae then
    (d[a.toNat]?).bind λg=>
    if(bU b.length 1 1)=ae then
     ab (.inl (c,e,wi (a+1),f,b++([g]:yL yB),d))
    else
    ad
   else
   ad
  else
  ab (.inr (c,e,f,b,d))
 else
 ab (.inr (c,e,f,b,d))
def Zca:Lp:=⟨[(1,.v yI),(2,.am 0 []),(5,.own 1 .u8),(6,.v .u64),(7,.am 2 []),(8,.v yI)],[.var (.v aGQ) af,.log .u8 5,.var (.v aGQ) ae],[yI,.u64,yI,aGQ,aGP,aGQ],[⟨.exit 2,[(1,.v yI),(2,.am 0 []),(5,.own 1 .u8),(6,.v .u64)],[.var (.v aGQ) af,.log .u8 5,.var (.v aGQ) ae],[yI,.u64,aGQ,aGP,aGQ]⟩],Ze (YJ yD) yD⟩
theorem ZgQ:Zca.bq yc 117 1:=Zx KF [] [] trivial
def XB(F:Nat)(s:(Int×yU×aGO×aGO)):yO ((Int×yU×aGO×aGO)⊕(aGO×aGO)):=
 if(ag ((s.2.2.2.length:Int) < s.1))=ae then
  (VO F s.2.1).bind λe=>
  (XQ F rZ [s.2.2.1,e]).bind λf=>
  (Ze (YJ F) F (s.1,s.2.1,0,s.2.2.1,s.2.2.2,f)).bind λ(a,b,c,d,_)=>
  ab (.inl (a,b+1,c,d))
 else
 ab (.inr (s.2.2.1,s.2.2.2))
def Zcb:Lp:=⟨[(1,.v yI),(2,.am 0 []),(5,.own 1 .u8),(6,.v .u64)],[.var (.v aGQ) af,.log .u8 5],[yI,.u64,aGQ,aGP],[⟨.exit 0,[(5,.own 1 .u8)],[.var (.v aGQ) af,.log .u8 5],[aGQ,aGP]⟩],Ze (XB yD) yD⟩
theorem ZgR:Zcb.bq yc 117 0:=Zx KF [(1,Zca)] [Zea,W1] ⟨Zkp,VN,aw⟩ ⟨ZgQ,aw⟩
def Wp(F:Nat)(a0:aGO)(a1:Int):yO (aGO):=
 if(ag (a1 < 0))=ae then
  ab []
 else
 if(ag (a1 > 65536))=ae then
  ab []
 else
 (Ze (XB F) F (a1,0,a0,[])).bind λa=>
 ab a.2
def ZjJ(F:Nat):Fs yc:=⟨117,[.v aGQ,.v yI],[],[aGQ,yI],(zP aGP),λx=>Wp F x.1 x.2⟩
def QD:Fs yc:=ZjJ yD
theorem Zcc:QD.Ok:=aX KF [(0,Zcb)] [] trivial ⟨ZgR,aw⟩
def Xi(F:Nat):(aGO×aGO×Int×aGO×aGO)->yO ((aGO×aGO×Int×aGO×aGO)⊕(aGO×aGO))
 |(b,c,a,e,d)=>
 if(ag (a < (b.length:Int)))=ae then
  (idx b a).bind λf=>
  (idx c a).bind λg=>
  if(bU d.length 1 1)=ae then
   ab (.inl (b,c,wi (a+1),e,d++([f^^^g]:yL yB)))
  else
  ad
 else
 ab (.inr (e,d))
def ZbD:Lp:=⟨[(0,.v aGP),(1,.v aGP),(5,.own 1 .u8),(6,.v yI)],[.log .u8 5,.log .u8 5],[aGP,aGP,yI,aGP,aGP],[⟨.exit 0,[(5,.own 1 .u8)],[.log .u8 5,.log .u8 5],[aGP,aGP]⟩],Ze (Xi yD) yD⟩
theorem Zgu:ZbD.bq yc 116 0:=Zx { own:=[4,5,13,24,25]} [] [] trivial
def W7(F:Nat)(a0:aGO)(a1:aGO):yO (aGO):=
 (Ze (Xi F) F (a0,a1,0,[],[])).bind λa=>
 ab a.2
def ZiD(F:Nat):Fs yc:=⟨116,[.v aGP,.v aGP],[],[aGP,aGP],[⟨.ret,[(0,.own 0 .u8)],[.log .u8 5],[aGP]⟩],λx=>W7 F x.1 x.2⟩
def Zcd:Fs yc:=ZiD yD
theorem ZiE:Zcd.Ok:=aX { own:=[4,5,13,24,25]} [(0,ZbD)] [] trivial ⟨Zgu,aw⟩
def Xp(F:Nat)(a0:aGO)(a1:aGO):yO (aGO):=
 if(ag ((a1.length:Int) > 65536))=ae then
  ab []
 else
 (Wp F a0 (a1.length:Int)).bind λa=>
 (W7 F a1 a).bind λb=>
 (XQ F IC [a0,b]).bind λc=>
 if(bU b.length ((c.take 8).length) 1)=ae then
  ab (b++(c.take 8))
 else
 ad
def ZlD(F:Nat):Fs yc:=⟨118,[.v aGQ,.v aGP],[],[aGQ,aGP],(zP aGP),λx=>Xp F x.1 x.2⟩
def KG:Fs yc:=ZlD yD
def ZOe:HI:={ own:=[5,15,20,22],still:=[4,10,11,13,14,18],bS:=[16,21]}
theorem Zeb:KG.Ok:=aX ZOe [] [QD,Zcd,W1] ⟨Zcc,ZiE,VN,aw⟩
def Ww(F:Nat)(c:Int->yO (aGO))(a0:Int):yO (aGO):=
 if(ag (a0 < 128))=ae then
  ab [w8 a0]
 else
 (c (wi (Int.tdiv a0 128))).bind λa=>
 if(bU 1 a.length 1)=ae then
  let b:aGO:=([(w8 (Int.tmod a0 128))+128]:yL yB)++a
  ab b
 else
 ad
def Qm(c:Int->yO (aGO)):Fs yc:=⟨194,[.v yI],[],[yI],(zP aGP),λx=>c x⟩
def ZOf:HI:={ own:=[3,13,14,18],still:=[2,16]}
theorem Zkq(c:Int->yO (aGO))(e:(Qm c).Ok):(Qm (Ww yD c)).Ok:=aX ZOf [] [(Qm c)] ⟨e,aw⟩
def Vy(F k:Nat):Int->yO (aGO):=Nat.rec (motive:=λ_=>Int->yO (aGO)) (λ_=>ad) (λ_ c=>Ww F c) k
theorem Zec:∀k,(Qm (Vy yD k)).Ok
 |0=>λx o h=>by cases (show ad=ab o from h)
 |k+1=>Zkq _ (Zec k)
def QO(F:Nat)(a0:Int):yO (aGO):=Vy F 12 a0
def ZmM(F:Nat):Fs yc:=⟨194,[.v yI],[],[yI],(zP aGP),λx=>QO F x⟩
def KH:Fs yc:=ZmM yD
theorem ZeZ:KH.Ok:=Zec 12
def ZP(F:Nat)(a0:aGO)(a1:Int):yO (aGO):=
 if(bU 0 a0.length 1)=ae then
  if(ag (a1 >= 0))=ae then
   (QO F a1).bind λa=>
   if(bU a0.length a.length 1)=ae then
    ab (a0++a)
   else
   ad
  else
  ab a0
 else
 ad
def ZmN(F:Nat):Fs yc:=⟨162,[.v aGP,.v yI],[],[aGP,yI],(zP aGP),λx=>ZP F x.1 x.2⟩
def Xq:Fs yc:=ZmN yD
def ZOg:HI:={ own:=[5,6,8,11,14],still:=[4,12]}
theorem XY:Xq.Ok:=aX ZOg [] [KH] ⟨ZeZ,aw⟩
def KI(F:Nat)(a0:aGO)(a1:Int):yO (aGO):=
 if(bU 0 a0.length 1)=ae then
  if(ag (a1 >= 0))=ae then
   (QO F a1).bind λa=>
   if(bU a0.length a.length 1)=ae then
    ab (a0++a)
   else
   ad
  else
  ab a0
 else
 ad
def ZjK(F:Nat):Fs yc:=⟨162,[.v aGP,.v yI],[],[aGP,yI],[⟨.ret,[(0,.own 0 .u8)],[.log .u8 5],[aGP]⟩],λx=>KI F x.1 x.2⟩
def ZcH:Fs yc:=ZjK yD
def ZOh:HI:={ own:=[4,5,6,8,11,14,15],still:=[12]}
theorem ZjL:ZcH.Ok:=aX ZOh [] [KH] ⟨ZeZ,aw⟩
def WI(F:Nat)(a0:aGO)(a1:aGO):yO (aGO):=
 (KI F a0 (a1.length:Int)).bind λa=>
 if(bU a.length a1.length 1)=ae then
  ab (a++a1)
 else
 ad
def ZhW(F:Nat):Fs yc:=⟨163,[.v aGP,.v aGP],[],[aGP,aGP],(zP aGP),λx=>WI F x.1 x.2⟩
def ZbE:Fs yc:=ZhW yD
def ZOi:HI:={ own:=[5,9,10,12],still:=[4,6,8]}
theorem ZhX:ZbE.Ok:=aX ZOi [] [ZcH] ⟨ZjL,aw⟩
def YK(F:Nat)(s:(yU×Int×aGO)):yO ((yU×Int×aGO)⊕aGO):=
 if(ag (s.2.1 >= 0))=ae then
  let a:yU:=ZI s.1 (min ((cK (wi (8*s.2.1))).toNat:Int).toNat 64)
  if(bU s.2.2.length 1 1)=ae then
   ab (.inl (s.1,wi (s.2.1 - 1),s.2.2++([w8 (a.toNat:Int)]:yL yB)))
  else
  ad
 else
 ab (.inr s.2.2)
def Zce:Lp:=⟨[(1,.v .u64),(5,.own 0 .u8),(6,.v yI)],[.log .u8 5],[.u64,yI,aGP],[⟨.exit 0,[(5,.own 0 .u8)],[.log .u8 5],[aGP]⟩],Ze (YK yD) yD⟩
def ZN0:HI:={ own:=[5,7,9,14,22],still:=[4]}
theorem ZgS:Zce.bq yc 170 0:=Zx ZN0 [] [] trivial
def Yq(F:Nat)(a0:aGO)(a1:yU):yO (aGO):=
 if(bU 0 a0.length 1)=ae then
  (Ze (YK F) F (a1,7,a0)).bind λa=>
  ab a
 else
 ad
def ZjM(F:Nat):Fs yc:=⟨170,[.v aGP,.v .u64],[],[aGP,.u64],(zP aGP),λx=>Yq F x.1 x.2⟩
def X7:Fs yc:=ZjM yD
theorem WJ:X7.Ok:=aX ZN0 [(0,Zce)] [] trivial ⟨ZgS,aw⟩
def YX(F:Nat):(aGO×Int×Int×Z3×Zz)->yO ((aGO×Int×Int×Z3×Zz)⊕(aGO×Int×Z3×Zz))
 |(c,d,a,e,b)=>
 if(ag (a < (b.1.length:Int)))=ae then
  (idx b.1 a).bind λf=>
  (Yq F c f).bind λg=>
  ab (.inl (g,d,wi (a+1),e,b))
 else
 ab (.inr (c,d,e,b))
def ZcI:Lp:=⟨[(1,.am 0 []),(3,.v aGP),(4,.v yI),(5,.am 1 []),(6,.v yI)],[.var (.v ZA) ae,.var (.v Zp) ae],[aGP,yI,yI,ZA,Zp],[⟨.exit 2,[(1,.am 0 []),(3,.v aGP),(4,.v yI),(5,.am 1 [])],[.var (.v ZA) ae,.var (.v Zp) ae],[aGP,yI,ZA,Zp]⟩],Ze (YX yD) yD⟩
def KJ:HI:={ still:=[2,7,12,26,29,38,43,45,47,49,51,53,55]}
theorem ZhY:ZcI.bq yc 164 1:=Zx KJ [] [X7] ⟨WJ,aw⟩
def YY(F:Nat)(s:(aGO×Int×Z3)):yO ((aGO×Int×Z3)⊕(aGO×Z3)):=
 if(ag (s.2.1 < (s.2.2.length:Int)))=ae then
  (idx s.2.2 s.2.1).bind λa=>
  (ZP F s.1 (a.1.length:Int)).bind λb=>
  (Ze (YX F) F (b,s.2.1,0,s.2.2,a)).bind λc=>
  (ZP F c.1 c.2.2.2.2.1).bind λd=>
  (ZP F d c.2.2.2.2.2.1).bind λe=>
  (Yq F e c.2.2.2.2.2.2).bind λf=>
  ab (.inl (f,wi (c.2.1+1),c.2.2.1))
 else
 ab (.inr (s.1,s.2.2))
def ZcJ:Lp:=⟨[(1,.am 0 []),(3,.v aGP),(4,.v yI)],[.var (.v ZA) ae],[aGP,yI,ZA],[⟨.exit 0,[(3,.v aGP)],[.var (.v ZA) ae],[aGP,ZA]⟩],Ze (YY yD) yD⟩
theorem ZhZ:ZcJ.bq yc 164 0:=Zx KJ [(1,ZcI)] [Xq,X7] ⟨XY,WJ,aw⟩ ⟨ZhY,aw⟩
def WD(F:Nat)(a0:Z3):yO (aGO):=
 (Y7 F a0).bind λa=>
 if(!a)=ae then
  ab []
 else
 (ZP F [] (a0.length:Int)).bind λb=>
 (Ze (YY F) F (b,0,a0)).bind λc=>
 ab c.1
def Zkr(F:Nat):Fs yc:=⟨164,[.v ZA],[],[ZA],(zP aGP),λx=>WD F x⟩
def KK:Fs yc:=Zkr yD
theorem ZcK:KK.Ok:=aX KJ [(0,ZcJ)] [Vu,Xq] ⟨QB,XY,aw⟩ ⟨ZhZ,aw⟩
def YZ(F:Nat)(s:(aGO×Int×Tx)):yO ((aGO×Int×Tx)⊕(aGO×Tx)):=
 if(ag (s.2.1 < (s.2.2.1.length:Int)))=ae then
  (idx s.2.2.1 s.2.1).bind λa=>
  (Y9 F s.1 a.1.1).bind λb=>
  (idx s.2.2.1 s.2.1).bind λc=>
  (ZP F b c.1.2).bind λd=>
  ab (.inl (d,wi (s.2.1+1),s.2.2))
 else
 ab (.inr (s.1,s.2.2))
def ZcL:Lp:=⟨[(1,.am 0 []),(3,.v aGP),(4,.v yI)],[.var (.v aQ) ae],[aGP,yI,aQ],[⟨.exit 0,[(1,.am 0 []),(3,.v aGP)],[.var (.v aQ) ae],[aGP,aQ]⟩],Ze (YZ yD) yD⟩
def KL:HI:={ still:=[2,8,17,24,26,33,35,38,47,53,55,61,62,64,66]}
theorem Zh0:ZcL.bq yc 115 0:=Zx KL [] [WH,Xq] ⟨VW,XY,aw⟩
def Y2(F:Nat)(s:(aGO×Int×Tx)):yO ((aGO×Int×Tx)⊕(aGO×Tx)):=
 if(ag (s.2.1 < (s.2.2.2.1.length:Int)))=ae then
  (idx s.2.2.2.1 s.2.1).bind λa=>
  (ZP F s.1 a.1).bind λb=>
  (idx s.2.2.2.1 s.2.1).bind λc=>
  (WD F c.2).bind λd=>
  (WI F b d).bind λe=>
  ab (.inl (e,wi (s.2.1+1),s.2.2))
 else
 ab (.inr (s.1,s.2.2))
def ZcM:Lp:=⟨[(1,.am 0 []),(3,.v aGP),(5,.v yI)],[.var (.v aQ) ae],[aGP,yI,aQ],[⟨.exit 2,[(1,.am 0 []),(3,.v aGP)],[.var (.v aQ) ae],[aGP,aQ]⟩],Ze (Y2 yD) yD⟩
theorem Zh1:ZcM.bq yc 115 1:=Zx KL [] [Xq,KK,ZbE] ⟨XY,ZcK,ZhX,aw⟩
def VP(F:Nat)(a0:Tx):yO (aGO):=
 (ZP F [] (a0.1.length:Int)).bind λa=>
 (Ze (YZ F) F (a,0,a0)).bind λb=>
 (ZP F b.1 (b.2.2.1.length:Int)).bind λc=>
 (Ze (Y2 F) F (c,0,b.2)).bind λd=>
 (ZP F d.1 d.2.2.2).bind λe=>
 ab e
def Zks(F:Nat):Fs yc:=⟨115,[.v aQ],[],[aQ],(zP aGP),λx=>VP F x⟩
def Zed:Fs yc:=Zks yD
theorem Zkt:Zed.Ok:=aX KL [(0,ZcL),(1,ZcM)] [Xq] ⟨XY,aw⟩ ⟨Zh0,Zh1,aw⟩
def WK(F:Nat):(aGO×Int×Int×Tx×Xl)->yO ((aGO×Int×Int×Tx×Xl)⊕(aGO×Int×Tx×Xl))
 |(c,d,a,e,b)=>
 if(ag (a < (b.2.1.length:Int)))=ae then
  (idx b.2.1 a).bind λf=>
  (Yq F c f.1).bind λg=>
  (idx b.2.1 a).bind λh=>
  (Yq F g h.2).bind λi=>
  ab (.inl (i,d,wi (a+1),e,b))
 else
 ab (.inr (c,d,e,b))
def ZcN:Lp:=⟨[(1,.am 0 []),(3,.v aGP),(4,.v yI),(5,.am 1 []),(6,.v yI)],[.var (.v aQ) ae,.var (.v Z1) ae],[aGP,yI,yI,aQ,Z1],[⟨.exit 2,[(1,.am 0 []),(3,.v aGP),(4,.v yI),(5,.am 1 [])],[.var (.v aQ) ae,.var (.v Z1) ae],[aGP,yI,aQ,Z1]⟩],Ze (WK yD) yD⟩
def KM:HI:={ still:=[2,7,10,25,27,29,32,41,47,49,55,57,59]}
theorem Zh2:ZcN.bq yc 127 1:=Zx KM [] [X7] ⟨WJ,aw⟩
def WL(F:Nat)(s:(aGO×Int×Tx)):yO ((aGO×Int×Tx)⊕(aGO×Tx)):=
 if(ag (s.2.1 < (s.2.2.1.length:Int)))=ae then
  (idx s.2.2.1 s.2.1).bind λa=>
  (ZP F s.1 a.2.1).bind λb=>
  (ZP F b (a.2.2.1.length:Int)).bind λc=>
  (Ze (WK F) F (c,s.2.1,0,s.2.2,a.2)).bind λd=>
  (Yq F d.1 d.2.2.2.2.2).bind λe=>
  ab (.inl (e,wi (d.2.1+1),d.2.2.1))
 else
 ab (.inr (s.1,s.2.2))
def ZcO:Lp:=⟨[(1,.am 0 []),(3,.v aGP),(4,.v yI)],[.var (.v aQ) ae],[aGP,yI,aQ],[⟨.exit 0,[(3,.v aGP)],[.var (.v aQ) ae],[aGP,aQ]⟩],Ze (WL yD) yD⟩
theorem Zh3:ZcO.bq yc 127 0:=Zx KM [(1,ZcN)] [Xq,X7] ⟨XY,WJ,aw⟩ ⟨Zh2,aw⟩
def XZ(F:Nat)(a0:Tx):yO (aGO):=
 (ZF F a0).bind λa=>
 if(!a)=ae then
  ab []
 else
 (VP F a0).bind λb=>
 (Ze (WL F) F (b,0,a0)).bind λc=>
 ab c.1
def Zku(F:Nat):Fs yc:=⟨127,[.v aQ],[],[aQ],(zP aGP),λx=>XZ F x⟩
def KN:Fs yc:=Zku yD
theorem ZcP:KN.Ok:=aX KM [(0,ZcO)] [Vv,Zed] ⟨QC,Zkt,aw⟩ ⟨Zh3,aw⟩
def Qn(F:Nat)(a0:Tx)(a1:aGO):yO (Vb):=
 (Qk F a1).bind λa=>
 (Vx F a1).bind λb=>
 (XZ F a0).bind λc=>
 (Xp F b c).bind λd=>
 ab (a,d)
def ZlE(F:Nat):Fs yc:=⟨81,[.v aQ,.v aGQ],[],[aQ,aGQ],(zP ZY),λx=>Qn F x.1 x.2⟩
def Ze0:Fs yc:=ZlE yD
theorem ZlF:Ze0.Ok:=aX { still:=[5,7,8,9,10]} [] [ZeW,KE,KN,KG] ⟨ZlA,ZeX,ZcP,Zeb,aw⟩
def KO(F:Nat)(a0:Vb):yO (Bool):=
 if(ag ((a0.2.length:Int) >= 1))=ae then
  ab (ag ((a0.2.length:Int)<=8192))
 else
 ab af
def ZmO(F:Nat):Fs yc:=⟨82,[.v ZY],[],[ZY],(zP .bool),λx=>KO F x⟩
def Zgv:Fs yc:=ZmO yD
theorem ZmP:Zgv.Ok:=aX { still:=[2]} [] [] trivial
def YR(F:Nat)(a0:Tx)(a1:aGO):yO ((Vb×Bool)):=
 (ZF F a0).bind λa=>
 (Qn F a0 a1).bind λb=>
 if(!a)=ae then
  ab (([0,0,0,0,0,0,0,0,0,0,0,0,0,0,0,0],[]),af)
 else
 (KO F b).bind λc=>
 if(!c)=ae then
  ab (([0,0,0,0,0,0,0,0,0,0,0,0,0,0,0,0],[]),af)
 else
 ab (b,ae)
def ZlG(F:Nat):Fs yc:=⟨32,[.v aQ,.v aGQ],[],[aQ,aGQ],[⟨.ret,[(0,.bf [.v ZY,.v .bool])],[],[ZY,.bool]⟩],λx=>YR F x.1 x.2⟩
def KP:Fs yc:=ZlG yD
theorem Zee:KP.Ok:=aX { still:=[5,8,10,11,16]} [] [Vv,Ze0,Zgv] ⟨QC,ZlF,ZmP,aw⟩
def X8(F:Nat)(s:(aGO×aGO×Int)):yO ((aGO×aGO×Int)⊕(Bool⊕Unit)):=
 if(ag (s.2.2 < (s.1.length:Int)))=ae then
  (idx s.1 s.2.2).bind λa=>
  (idx s.2.1 s.2.2).bind λb=>
  if(a !=b)=ae then
   ab (.inr (.inl af))
  else
  ab (.inl (s.1,s.2.1,wi (s.2.2+1)))
 else
 ab (.inr (.inr ()))
def Zef:Lp:=⟨[(0,.v aGP),(1,.v aGP),(5,.v yI)],[],[aGP,aGP,yI],[⟨.ret,[(4,.v .bool)],[],[.bool]⟩,⟨.exit 0,[],[],[]⟩],Ze (X8 yD) yD⟩
theorem ZiF:Zef.bq yc 75 0:=Zx { still:=[4]} [] [] trivial
def Qo(F:Nat)(a0:aGO)(a1:aGO):yO (Bool):=
 if((a0.length:Int)!=(a1.length:Int))=ae then
  ab af
 else
 (Ze (X8 F) F (a0,a1,0)).bind λa=>
 match a with
 |.inl b=>
  ab b
 |.inr c=>
  ab ae
def ZlH(F:Nat):Fs yc:=⟨75,[.v aGP,.v aGP],[],[aGP,aGP],(zP .bool),λx=>Qo F x.1 x.2⟩
def Ze1:Fs yc:=ZlH yD
theorem ZlI:Ze1.Ok:=aX { still:=[4]} [(0,Zef)] [] trivial ⟨ZiF,aw⟩
def Wg(F:Nat)(a0:Vb)(a1:Vb):yO (Bool):=
 (Qo F a0.2 a1.2).bind λa=>
 if a=ae then
  ab (ag (a0.1=a1.1))
 else
 ab af
def ZlJ(F:Nat):Fs yc:=⟨35,[.v ZY,.v ZY],[],[ZY,ZY],(zP .bool),λx=>Wg F x.1 x.2⟩
def KQ:Fs yc:=ZlJ yD
theorem Zeg:KQ.Ok:=aX { still:=[4,7,9]} [] [Ze1] ⟨ZlI,aw⟩
def Qp(F:Nat)(a0:aGO)(a1:aGO):yO ((aGO×Bool)):=
 if(ag ((wi ((a1.length:Int) - 8)) < 0))=ae then
  ab ([],af)
 else
 if(ag ((wi ((a1.length:Int) - 8)) > 65536))=ae then
  ab ([],af)
 else
 if(VQ a1.length ad (ab (wi ((a1.length:Int) - 8))))=ae then
  (Wp F a0 (wi ((a1.length:Int) - 8))).bind λa=>
  (Ql F (a1.take ((wi ((a1.length:Int) - 8)).toNat)) a).bind λb=>
  (Xp F a0 b).bind λc=>
  let d:Bool:= !((bytesOf c).data.toList==(bytesOf a1).data.toList)
  if d=ae then
   ab ([],af)
  else
  ab (b,ae)
 else
 ad
def ZlK(F:Nat):Fs yc:=⟨68,[.v aGQ,.v aGP],[],[aGQ,aGP],[⟨.ret,[(0,.bf [.v aGP,.v .bool])],[],[aGP,.bool]⟩],λx=>Qp F x.1 x.2⟩
def Ze2:Fs yc:=ZlK yD
def ZOj:HI:={ still:=[4,5,19,20,21,22,24,25]}
theorem ZlL:Ze2.Ok:=aX ZOj [] [QD,ZeY,KG] ⟨Zcc,ZlC,Zeb,aw⟩
def W2(F:Nat)(a0:aGO):yO (Zc):=
 if(bU 0 a0.length 1)=ae then
  ab (a0,af)
 else
 ad
def ZlM(F:Nat):Fs yc:=⟨119,[.v aGP],[],[aGP],[⟨.ret,[(0,.am 0 [])],[.var (.v Zb) ae],[Zb]⟩],λx=>W2 F x⟩
def KR:Fs yc:=ZlM yD
theorem Zeh:KR.Ok:=aX { own:=[3,5],still:=[2]} [] [] trivial
def Z9(F:Nat)(s0:Zc):yO (Zc):=
 ab ([],ae)
def Zfx(F:Nat):Fs yc:=⟨166,[.am 0 []],[.var (.v Zb) ae],[Zb],[⟨.ret,[(0,.bf [])],[.var (.v Zb) ae],[Zb]⟩],λx=>Z9 F x⟩
def XS:Fs yc:=Zfx yD
theorem WM:XS.Ok:=aX {} [] [] trivial
def ZJ(F:Nat)(s:(Int×Int×Int×Zc)):yO ((Int×Int×Int×Zc)⊕((Int×Zc)⊕Zc)):=
 if(ag (s.2.2.1 < (s.2.2.2.1.length:Int)))=ae then
  if(ag (s.2.2.1 < 9))=ae then
   (idx s.2.2.2.1 s.2.2.1).bind λa=>
   if((a.toNat:Int)==0)=ae then
    if(ag (s.2.2.1 > 0))=ae then
     (Z9 F s.2.2.2).bind λb=>
     ab (.inr (.inl (0,b)))
    else
    let c:Int:=wi (s.1+(wi ((Int.tmod (a.toNat:Int) 128)*s.2.1)))
    if(ag ((a.toNat:Int) < 128))=ae then
     if(VQ s.2.2.2.1.length (ab (wi (s.2.2.1+1))) ad)=ae then
      ab (.inr (.inl (c,(s.2.2.2.1.drop ((wi (s.2.2.1+1)).toNat),s.2.2.2.2))))
     else
     ad
    else
    ab (.inl (c,wi (128*s.2.1),wi (s.2.2.1+1),s.2.2.2))
   else
   let d:Int:=wi (s.1+(wi ((Int.tmod (a.toNat:Int) 128)*s.2.1)))
   if(ag ((a.toNat:Int) < 128))=ae then
    if(VQ s.2.2.2.1.length (ab (wi (s.2.2.1+1))) ad)=ae then
     ab (.inr (.inl (d,(s.2.2.2.1.drop ((wi (s.2.2.1+1)).toNat),s.2.2.2.2))))
    else
    ad
   else
   ab (.inl (d,wi (128*s.2.1),wi (s.2.2.1+1),s.2.2.2))
  else
  ab (.inr (.inr s.2.2.2))
 else
 ab (.inr (.inr s.2.2.2))
def Zaj:Lp:=⟨[(0,.am 0 []),(3,.v yI),(4,.v yI),(5,.v yI)],[.var (.v Zb) ae],[yI,yI,yI,Zb],[⟨.ret,[(2,.v yI)],[.var (.v Zb) ae],[yI,Zb]⟩,⟨.exit 0,[(0,.am 0 [])],[.var (.v Zb) ae],[Zb]⟩],Ze (ZJ yD) yD⟩
theorem Zei:Zaj.bq yc 120 0:=Zx { still:=[2,34,57]} [] [XS] ⟨WM,aw⟩
def Zr(F:Nat)(s0:Zc):yO ((Int×Zc)):=
 (Ze (ZJ F) F (0,1,0,s0)).bind λa=>
 match a with
 |.inl b=>
  ab (b.1,b.2)
 |.inr c=>
  (Z9 F c).bind λd=>
  ab (0,d)
def Zgw(F:Nat):Fs yc:=⟨120,[.am 0 []],[.var (.v Zb) ae],[Zb],[⟨.ret,[(0,.v yI)],[.var (.v Zb) ae],[yI,Zb]⟩],λx=>Zr F x⟩
def ZU:Fs yc:=Zgw yD
theorem Z2:ZU.Ok:=aX { still:=[2,34,57]} [(0,Zaj)] [XS] ⟨WM,aw⟩ ⟨Zei,aw⟩
def Yr(F:Nat)(a1:Int)(s0:Zc):yO ((aGO×Zc)):=
 if s0.2=ae then
  (Z9 F s0).bind λa=>
  ab ([],a)
 else
 if(ag (a1 > (s0.1.length:Int)))=ae then
  (Z9 F s0).bind λb=>
  ab ([],b)
 else
 if(VQ s0.1.length ad (ab a1))=ae then
  if(bU 0 ((s0.1.take a1.toNat).length) 1)=ae then
   if(VQ s0.1.length (ab a1) ad)=ae then
    ab (s0.1.take a1.toNat,(s0.1.drop a1.toNat,s0.2))
   else
   ad
  else
  ad
 else
 ad
def Zfy(F:Nat):Fs yc:=⟨167,[.am 0 [],.v yI],[.var (.v Zb) ae],[yI,Zb],[⟨.ret,[(0,.v aGP)],[.var (.v Zb) ae],[aGP,Zb]⟩],λx=>Yr F x.1 x.2⟩
def XT:Fs yc:=Zfy yD
theorem WN:XT.Ok:=aX { own:=[21,28],still:=[4,19]} [] [XS] ⟨WM,aw⟩
def Ye(F:Nat)(s:(aGO×yU×Int×Zc)):yO ((aGO×yU×Int×Zc)⊕(yU×Zc)):=
 if(ag (s.2.2.1 < (s.1.length:Int)))=ae then
  (idx s.1 s.2.2.1).bind λa=>
  ab (.inl (s.1,(256*s.2.1)+(yai a.toNat),wi (s.2.2.1+1),s.2.2.2))
 else
 ab (.inr (s.2.1,s.2.2.2))
def Zak:Lp:=⟨[(3,.v aGP),(4,.v .u64),(5,.v yI)],[.var (.v Zb) ae],[aGP,.u64,yI,Zb],[⟨.exit 0,[(4,.v .u64)],[.var (.v Zb) ae],[.u64,Zb]⟩],Ze (Ye yD) yD⟩
theorem Zej:Zak.bq yc 169 0:=Zx { still:=[2,6]} [] [] trivial
def ZV(F:Nat)(s0:Zc):yO ((yU×Zc)):=
 (Yr F 8 s0).bind λa=>
 (Ze (Ye F) F (a.1,0,0,a.2)).bind λb=>
 ab (b.1,b.2)
def Zgx(F:Nat):Fs yc:=⟨169,[.am 0 []],[.var (.v Zb) ae],[Zb],[⟨.ret,[(0,.v .u64)],[.var (.v Zb) ae],[.u64,Zb]⟩],λx=>ZV F x⟩
def Y3:Fs yc:=Zgx yD
theorem XU:Y3.Ok:=aX { still:=[2,6]} [(0,Zak)] [XT] ⟨WN,aw⟩ ⟨Zej,aw⟩
def ZT(F:Nat):(Int×Int×Int×Int×Zc×Z3×aGW×Int×Int×yU×aGY)->yO ((Int×Int×Int×Int×Zc×Z3×aGW×Int×Int×yU×aGY)⊕(Int×Int×Zc×Z3×aGW×Int×Int×yU×aGY))
 |(e,f,b,a,c,g,h,i,j,k,d)=>
 if(ag (a < b))=ae then
  if(ag (a < 13))=ae then
   (ZV F c).bind λl=>
   if(bU d.length 1 8)=ae then
    let m:aGY:=d++([l.1]:yL yU)
    ab (.inl (e,f,b,wi (a+1),l.2,g,h,i,j,k,m))
   else
   ad
  else
  ab (.inr (e,f,c,g,h,i,j,k,d))
 else
 ab (.inr (e,f,c,g,h,i,j,k,d))
def ZN1:yL bh:=[.var (.v Zb) ae,.var (.v ZA) ae,.var (.agg [.own 3 Zp]) ae,.log Zp 133,.var (.agg [.own 5 .u64,.v yI,.v yI,.v .u64]) ae,.log .u64 128]
abbrev ZOk:yL Ty:=[yI,yI,Zb,ZA,aGZ,yI,yI,.u64,aGU]
abbrev ZOl:yL Ty:=[yI,yI,yI,yI,Zb,ZA,aGZ,yI,yI,.u64,aGU]
def Zcg:Lp:=⟨[(0,.am 0 []),(2,.am 1 []),(3,.am 2 []),(4,.v yI),(5,.v yI),(6,.am 4 []),(7,.v yI),(8,.v yI)],ZN1,ZOl,[⟨.exit 2,[(0,.am 0 []),(2,.am 1 []),(3,.am 2 []),(4,.v yI),(5,.v yI),(6,.am 4 [])],ZN1,ZOk⟩],Ze (ZT yD) yD⟩
def KS:HI:={ own:=[32,36,48,51],still:=[9,20,33,38,41,44],aZ:=[(3,[([0],Zp,133)]),(6,[([0],.u64,128)])]}
theorem ZgT:Zcg.bq yc 168 1:=Zx KS [] [Y3] ⟨XU,aw⟩
def Yl(F:Nat):(Int×Int×Zc×Z3×aGW)->yO ((Int×Int×Zc×Z3×aGW)⊕(Zc×Z3×aGW))
 |(h,g,i,j,k)=>
 if(ag (g < h))=ae then
  if(ag (g < 5))=ae then
   (Zr F i).bind λl=>
   (Ze (ZT F) F (h,g,l.1,0,l.2,j,k,0,0,0,[])).bind λ(d,e,a,f,b,_,_,_,c)=>
   (Zr F a).bind λm=>
   (Zr F m.2).bind λn=>
   (ZV F n.2).bind λo=>
   if(bU b.length 1 48)=ae then
    let p:aGW:=b++([(c,m.1,n.1,o.1)]:yL Zz)
    ab (.inl (d,wi (e+1),o.2,f,p))
   else
   ad
  else
  ab (.inr (i,j,k))
 else
 ab (.inr (i,j,k))
def Zch:Lp:=⟨[(0,.am 0 []),(2,.am 1 []),(3,.am 2 []),(4,.v yI),(5,.v yI)],[.var (.v Zb) ae,.var (.v ZA) ae,.var (.agg [.own 3 Zp]) ae,.log Zp 133],[yI,yI,Zb,ZA,aGZ],[⟨.exit 0,[(2,.am 1 []),(3,.am 2 [])],[.var (.v Zb) ae,.var (.v ZA) ae,.var (.agg [.own 3 Zp]) ae,.log Zp 133],[Zb,ZA,aGZ]⟩],Ze (Yl yD) yD⟩
theorem ZgU:Zch.bq yc 168 0:=Zx KS [(1,Zcg)] [ZU,Y3] ⟨Z2,XU,aw⟩ ⟨ZgT,aw⟩
def XC(F:Nat)(s0:Zc):yO ((Z3×Zc)):=
 (Zr F s0).bind λa=>
 (Ze (Yl F) F (a.1,0,a.2,[],[])).bind λb=>
 ab (b.2.2,b.1)
def ZjN(F:Nat):Fs yc:=⟨168,[.am 0 []],[.var (.v Zb) ae],[Zb],[⟨.ret,[(0,.v ZA)],[.var (.v Zb) ae],[ZA,Zb]⟩],λx=>XC F x⟩
def ZcQ:Fs yc:=ZjN yD
theorem ZjO:ZcQ.Ok:=aX KS [(0,Zch)] [ZU] ⟨Z2,aw⟩ ⟨ZgU,aw⟩
end
end Go.Proofs.YtghfiijgklnflaaGreat
end
