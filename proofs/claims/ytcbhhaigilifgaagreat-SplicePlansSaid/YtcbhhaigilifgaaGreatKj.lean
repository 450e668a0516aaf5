/- Parts of the proof, in one file. -/
import Derived.Test.YtcbhhaigilifgaaGreatKi
open Option renaming some → ab, none → ad
open Bool renaming true → ae, false → af
open Decidable renaming decide → ag
open Go.Proofs.Tryz renaming prog → yb
set_option linter.unusedVariables false
set_option linter.unusedSimpArgs false
section
set_option maxRecDepth 10000
namespace Go.Proofs.YtcbhhaigilifgaaGreat
open Go Go.Ev
noncomputable section
theorem ZK0{w w2:yL ah}(h:YL yD w=ab w2):bZ yb 12 [.p (Ty.enc aQc w)] [] (.p (Ty.enc aQc w2)) []:=by
 obtain⟨g,R,H,f,j,l⟩:=ZkW w w2 h;have f:=(show Sh.fills [.v aQc] (dq [aQc] w)=ab ([.p (.v aQc w)],[]) by kernel_rfl).symm.trans f;cases f;cases j;obtain⟨r,m,y⟩:=l _ _ ([.p (.v aQc w2)],[]) ⟨rfl,rfl⟩ (by kernel_rfl);cases m;exact y
theorem ZHE{c:Chan}{s:yG}{w2:yL ah}{q:Chan×yG×Tx×Int}(h:X7 yD c s w2=ab q):bZ yb 11 [.p (Zf.enc c),.p (Zc.enc s),.p (Ty.enc aQc w2)] [] (.bm [.p (Zf.enc q.1),.p (Zc.enc q.2.1),.p (aJ.enc q.2.2.1),.p (.int .i64 q.2.2.2)]) []:=by
 obtain⟨g,R,H,f,j,l⟩:=Zna (c,s,w2) q h;have f:=(show Sh.fills [.v Zf,.v Zc,.v aQc] (dq [Zf,Zc,aQc] (c,s,w2))=ab ([.p (.v Zf c),.p (.v Zc s),.p (.v aQc w2)],[]) by kernel_rfl).symm.trans f;cases f;cases j;obtain⟨r,m,y⟩:=l _ _ ([.bm [.p (.v Zf q.1),.p (.v Zc q.2.1),.p (.v aJ q.2.2.1),.p (.v (.int .i64) q.2.2.2)]],[]) ⟨rfl,rfl⟩ (by kernel_rfl);cases m;exact y
noncomputable def RQ:Array Oper:=match QT (ZL yb 3) 6 with|.region _ ops _=>ops|_=> #[]
noncomputable def ZRd:Nat:=match QT (ZL yb 3) 6 with|.region id _ _=>id|_=>0
theorem ZMM:QT (ZL yb 3) 6=.region ZRd RQ ae:=by kernel_rfl
theorem RR:RQ.size=17:=by kernel_rfl
section
variable(c:Chan)(s:yG)(w w2:yL ah)(q:Chan×yG×Tx×Int)(z0:Bool)(z1:Int)(e4 e5 e6:aq)
noncomputable def pbD:Nat->Dv
 |0=>.p (Zf.enc c)
 |1=>.p (Zc.enc s)
 |2=>.p (Ty.enc aQc w)
 |3=>.p (Ty.enc aQc w2)
 |4=>.bm [.p (Zf.enc q.1),.p (Zc.enc q.2.1),.p (aJ.enc q.2.2.1),.p (.int .i64 q.2.2.2)]
 |5=>.bm [.p (Zf.enc q.1),.p (Zc.enc q.2.1),.p (aJ.enc q.2.2.1),.p (.int .i64 q.2.2.2)]
 |6=>.p (Zf.enc q.1)
 |7=>.p (Zc.enc q.2.1)
 |8=>.p (aJ.enc q.2.2.1)
 |9=>.p (.int .i64 q.2.2.2)
 |10=>.aj 6 0 []
 |11=>.aj 7 0 []
 |12=>.aj 8 0 []
 |13=>.ak
 |14=>.ak
 |15=>.ak
 |16=>.p (.int .i64 q.2.2.2)
 |_=>.ak
noncomputable def RT:yL NV:=[⟨10,13,35,Zf.enc q.1,.tmp 12,.tmp 43⟩,⟨11,14,39,Zc.enc q.2.1,.tmp 13,.tmp 44⟩,⟨12,15,49,aJ.enc q.2.2.1,.tmp 14,.tmp 45⟩]
noncomputable def AQ:yL aq:=[aq.var (.p (Zf.enc c)) ae,aq.var (.p (Zc.enc s)) ae,aq.var (.p (Ty.enc aQc w)) ae,e4,e5,e6]
noncomputable def AR:yL Dv:=(List.range 109).map λs=>match s with|3=>.aj 0 0 []|4=>.aj 1 0 []|5=>.aj 2 0 []|7=>.p (.bool z0)|8=>.aj 3 0 []|9=>.aj 4 0 []|10=>.aj 5 0 []|11=>.p (.int .i64 z1)|_=>Dv.ak
end
noncomputable def pbS:Nat->yL Nat×yL Nat
 |0=>([],[3])
 |1=>([],[4])
 |2=>([],[5])
 |3=>([2],[])
 |4=>([0,1,3],[])
 |5=>([4],[])
 |6=>([5],[])
 |7=>([5],[])
 |8=>([5],[])
 |9=>([5],[])
 |13=>([10,6],[])
 |14=>([11,7],[])
 |15=>([12,8],[])
 |16=>([9],[])
 |_=>([],[])
abbrev ZQC(c:Chan)(s:yG)(w w2:yL ah)(q:Chan×yG×Tx×Int)(z0:Bool)(z1:Int)(e4 e5 e6:aq):yL Dv:=dg (AR z0 z1).length (aX RQ.toList) (pbD c s w w2 q) (AR z0 z1) [10,11,12,16] [4,5,7,8,9,10,11]
theorem ZMN(c:Chan)(s:yG)(w w2:yL ah)(q:Chan×yG×Tx×Int)(z0:Bool)(z1:Int)(e4 e5 e6:aq)(g:YL yD w=ab w2)(j:X7 yD c s w2=ab q):XZ yb (QT (ZL yb 3) 6) (AR z0 z1) (AQ c s w e4 e5 e6) .normal (ZQC c s w w2 q z0 z1 e4 e5 e6) (AQ c s w e4 e5 e6++(RT q).map λv=>.var (.p v.p) ae):=by
 rw[ZMM];refine Zyy (by kernel_rfl) (pbD c s w w2 q) (RT q) pbS (by rw[RR];kernel_rfl) (by kernel_rfl) (by rw[RR];kernel_rfl) [10,11,12,16] [4,5,7,8,9,10,11] (by kernel_rfl) (by kernel_rfl) (by kernel_rfl) (λi f l Z=> ?_) (λk v m=> ?_)
 .rw[RR]at f
  match i,f,l with
  |0,_,_=>exact⟨[],[(0:Nat)=0],by kernel_rfl,by omega,ao⟩
  |1,_,_=>exact⟨[],[(0:Nat)=0],by kernel_rfl,by omega,ao⟩
  |2,_,_=>exact⟨[],[(0:Nat)=0],by kernel_rfl,by omega,ao⟩
  |3,_,_=>exact⟨[.call (.p (Ty.enc aQc w2)) [] []],[bZ yb 12 [.p (Ty.enc aQc w)] [] (.p (Ty.enc aQc w2)) []],by kernel_rfl,ZK0 g,ao⟩
  |4,_,_=>exact⟨[.call (.bm [.p (Zf.enc q.1),.p (Zc.enc q.2.1),.p (aJ.enc q.2.2.1),.p (.int .i64 q.2.2.2)]) [] []],[bZ yb 11 [.p (Zf.enc c),.p (Zc.enc s),.p (Ty.enc aQc w2)] [] (.bm [.p (Zf.enc q.1),.p (Zc.enc q.2.1),.p (aJ.enc q.2.2.1),.p (.int .i64 q.2.2.2)]) []],by kernel_rfl,ZHE j,ao⟩
  |5,_,_=>exact⟨[.raw],[],by kernel_rfl,ao⟩
  |6,_,_=>exact⟨[],[],by kernel_rfl,ao⟩
  |7,_,_=>exact⟨[],[],by kernel_rfl,ao⟩
  |8,_,_=>exact⟨[],[],by kernel_rfl,ao⟩
  |9,_,_=>exact⟨[],[],by kernel_rfl,ao⟩
  |10,_,h=>exact absurd (show ae=af from h) (by decide)
  |11,_,h=>exact absurd (show ae=af from h) (by decide)
  |12,_,h=>exact absurd (show ae=af from h) (by decide)
  |13,_,h=>exact absurd (show ae=af from h) (by decide)
  |14,_,h=>exact absurd (show ae=af from h) (by decide)
  |15,_,h=>exact absurd (show ae=af from h) (by decide)
  |16,_,_=>exact⟨[.raw],[],by kernel_rfl,ao⟩
  |_+17,h,_=>exact absurd h (by omega)
 .match k,m with
  |0,rfl=>exact⟨by kernel_rfl,by kernel_rfl,by kernel_rfl,by kernel_rfl,by kernel_rfl,by kernel_rfl,by kernel_rfl,by kernel_rfl,by kernel_rfl,by kernel_rfl,by kernel_rfl,by kernel_rfl,by kernel_rfl⟩
  |1,rfl=>exact⟨by kernel_rfl,by kernel_rfl,by kernel_rfl,by kernel_rfl,by kernel_rfl,by kernel_rfl,by kernel_rfl,by kernel_rfl,by kernel_rfl,by kernel_rfl,by kernel_rfl,by kernel_rfl,by kernel_rfl⟩
  |2,rfl=>exact⟨by kernel_rfl,by kernel_rfl,by kernel_rfl,by kernel_rfl,by kernel_rfl,by kernel_rfl,by kernel_rfl,by kernel_rfl,by kernel_rfl,by kernel_rfl,by kernel_rfl,by kernel_rfl,by kernel_rfl⟩
  |_+3,h=>cases h
end
end Go.Proofs.YtcbhhaigilifgaaGreat
end
