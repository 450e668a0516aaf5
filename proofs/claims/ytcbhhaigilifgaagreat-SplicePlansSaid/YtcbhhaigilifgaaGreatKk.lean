/- Parts of the proof, in one file. -/
import Derived.Test.YtcbhhaigilifgaaGreatKj
open Option renaming some → ab, none → ad
open Bool renaming true → ae, false → af
open Decidable renaming decide → ag
open Go.Proofs.Tryz renaming prog → yb
open Option renaming bind_eq_some_iff → yf
set_option linter.unusedVariables false
section
set_option maxRecDepth 4000
namespace Go.Proofs.YtcbhhaigilifgaaGreat
open Go Go.Ev
noncomputable section
def WC(F:Nat):(Bool×Int×Chan×yG×aQg×Chan×yG×Tx)->yO (Bool×Int×Int×Chan×yG×aQg×Chan×yG×Tx×Chan×yG×Tx)
 |(a,b,c,d,e,f,g,h)=>
 (YL F e).bind λi=>
 (X7 F c d i).bind λj=>
 ab (a,b,j.2.2.2,c,d,e,f,g,h,j.1,j.2.1,j.2.2.1)
def ZQD:yL bC:=[.var (.v Zf) ae,.var (.v Zc) ae,.var (.v aQc) ae,.var (.v Zf) ae,.var (.v Zc) ae,.var (.v aJ) ae,.var (.v Zf) ae,.var (.v Zc) ae,.var (.v aJ) ae]
abbrev ZRe:yL Ty:=[.bool,yI,yI,Zf,Zc,aQc,Zf,Zc,aJ,Zf,Zc,aJ]
def Q7:Lp:=⟨[(3,.aj 0 []),(4,.aj 1 []),(5,.aj 2 []),(7,.v .bool),(8,.aj 3 []),(9,.aj 4 []),(10,.aj 5 []),(11,.v yI)],[.var (.v Zf) ae,.var (.v Zc) ae,.var (.v aQc) ae,.var (.v Zf) ae,.var (.v Zc) ae,.var (.v aJ) ae],[.bool,yI,Zf,Zc,aQc,Zf,Zc,aJ],[⟨.normal,[(4,.aj 1 []),(5,.aj 2 []),(7,.v .bool),(8,.aj 3 []),(9,.aj 4 []),(10,.aj 5 []),(11,.v yI),(12,.aj 6 []),(13,.aj 7 []),(14,.aj 8 []),(15,.v yI)],ZQD,ZRe⟩],WC yD⟩
theorem ZdS:Q7.Is yb (VF yb 3) (QT (ZL yb 3) 6):=by
 intro v o m s hs e vs y f hs';obtain⟨z0,z1,z2,z3,z4,g,h,j⟩:=v;obtain⟨w2,z,l⟩:=yf.1 (show(YL yD z4).bind _=ab o from m)
 obtain⟨q,A,l⟩:=yf.1 l;cases l;obtain⟨rfl,rfl⟩:=f;have r:=ZMN z2 z3 z4 w2 q z0 z1 (.var (.p (Ty.enc Zf g)) ae) (.var (.p (Ty.enc Zc h)) ae) (.var (.p (Ty.enc aJ j)) ae) z A;have t1:Option.map (λ(s:yL TD×yL ai)=>(TD.aE (lk s.2) s.1,aG s.2)) (ab s)=ab (AR z0 z1,AQ z2 z3 z4 (.var (.p (Ty.enc Zf g)) ae) (.var (.p (Ty.enc Zc h)) ae) (.var (.p (Ty.enc aJ j)) ae)):=by rw[<-hs];kernel_rfl
 have t2:Option.map (λ(s:yL TD×yL ai)=>(TD.aE (lk s.2) s.1,aG s.2)) (ab y)=ab (ZQC z2 z3 z4 w2 q z0 z1 (.var (.p (Ty.enc Zf g)) ae) (.var (.p (Ty.enc Zc h)) ae) (.var (.p (Ty.enc aJ j)) ae),AQ z2 z3 z4 (.var (.p (Ty.enc Zf g)) ae) (.var (.p (Ty.enc Zc h)) ae) (.var (.p (Ty.enc aJ j)) ae)++(RT q).map λv=>.var (.p v.p) ae):=by rw[<-hs'];kernel_rfl
 simp only[Option.map_some,Option.some.injEq,Prod.mk.injEq]at t1 t2;rw[t1.1,t1.2,t2.1,t2.2];exact r
instance aum:DecidableEq bp:=inferInstance
instance aun:DecidableEq bD:=inferInstance
instance auo:DecidableEq ((yL bD)×Int):=inferInstance
instance aup:DecidableEq ((yL bp)×(yL bD)×Int):=inferInstance
instance auq:DecidableEq Chan:=inferInstance
def XQ(F:Nat)(a0:Chan)(a1:yG)(a2:aQg):yO (Bool):=
 ((ab ae)).bind λl=>
 (Q0 F a2).bind λm=>
 if(!m)=ae then
  ab l
 else
 if(ag ((a1.2.2.1.length:Int) > 20))=ae then
  ab l
 else
 (Vs F a0 a1 a2).bind λn=>
 (WC F (l,n.2.2.2,a0,a1,a2,n.1,n.2.1,n.2.2.1)).bind λ(k,c,d,_,j,i,a,e,g,b,f,h)=>
 let o:Bool:= !(ag (a=b))
 if o=ae then
  ab af
 else
 if(c !=d)=ae then
  ab af
 else
 (X8 F e f).bind λp=>
 if(!p)=ae then
  ab af
 else
 (X9 F g h).bind λq=>
 if(!q)=ae then
  ab af
 else
 (i[0]?).bind λr=>
 (i[1]?).bind λs=>
 (j.2.1[0]?).bind λt=>
 if(ag (t < 0))=ae then
  ab k
 else
 (j.2.1[0]?).bind λu=>
 if(ag (u > 1125899906842624))=ae then
  ab k
 else
 (j.2.1[1]?).bind λv=>
 if(ag (v < 0))=ae then
  ab k
 else
 (j.2.1[1]?).bind λw=>
 if(ag (w > 1125899906842624))=ae then
  ab k
 else
 if k=ae then
  (ZP F j [bits .and .i64 r.2.2 1023,bits .and .i64 s.2.2 1023]).bind λx=>
  (WG F j [bits .and .i64 r.2.2 1023,bits .and .i64 s.2.2 1023]).bind λy=>
  (X8 F x y).bind λz=>
  ab z
 else
 ab af
def Zhy:Fs yb:=⟨3,[.v Zf,.v Zc,.v aQc],[],[Zf,Zc,aQc],(zN .bool),λx=>XQ yD x.1 x.2.1 x.2.2⟩
def ZRf:HI:={ still:=[6,18,29,30,31,38,39,40,41,56,57,62,63,101,102,103,104,105,106]}
theorem Zgh:Zhy.Ok:=pX (fi:={ hi:=ZRf,bk:=[(6,Q7)]}) (aF:={ l:=[ZNk,Zhi,Zoy,ZfI,ZfK,JD,NG]}) (kB ⟨ZPc,Zn3,MD,Znb,Znd,JE,ZcZ,ao⟩) (hb:=⟨ZdS,ao⟩)
end
end Go.Proofs.YtcbhhaigilifgaaGreat
end
