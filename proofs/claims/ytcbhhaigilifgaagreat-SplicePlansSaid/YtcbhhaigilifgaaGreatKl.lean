/- Parts of the proof, in one file. -/
import Derived.Test.YtcbhhaigilifgaaGreatKk
open Option renaming some → ab, none → ad
open Bool renaming true → ae, false → af
open Decidable renaming decide → ag
open Option renaming bind_some → ya
set_option linter.unusedVariables false
set_option linter.unusedSimpArgs false
section
set_option maxRecDepth 4000
namespace Go.Proofs.YtcbhhaigilifgaaGreat
open Go Go.Ev
theorem ZHF{t:Tx}(h:oO t):X9 yD t t=ab ae:=by
 obtain⟨z,A,B,E,f,g⟩:=h;refine Zwq (by omega) (by omega) (λx j=> ?_) λo l=> ?_
 .obtain⟨_,_,_,_,q⟩:=f x j;omega
 .obtain⟨_,_,⟨F,G,m⟩,_⟩:=g o l;refine⟨by omega,λb y=> ?_⟩;have:=(m b y).1;omega
theorem ZEL{ch:Chan}{s:yG}{x y:ah}{r:kb}(h:ZM7 ch s x y r):X8 yD r.2.1 r.2.1=ab ae/\X9 yD r.2.2.1 r.2.2.1=ab ae:=by
 rcases h with h|⟨_,⟨_,g,j⟩,_⟩
 .obtain⟨a,b,m,z,id,_,_,_,e,_,_,_,_,l,_⟩:=h.ex;have A:=h.st.len;subst e;exact⟨PL (by show s.2.2.1.length<=1000;omega),ZHF l.2.1⟩
 .rw[g,j];exact⟨PL (by show([]:yL Cond).length<=1000;simp),Zwq (by show([]:yL In).length<=1000000;simp) (by show([]:yL Out).length<=1000000;simp) (λx f=>by cases f) (λx f=>by cases f)⟩
theorem ZHG{ch:Chan}(w:iN ch)(A:ch.1.1.length=32){s:yG}(hs:s.2.1.length=2){l:yL ah}(hl:l.length=2)(h:∀x,x∈l->oS x):XQ yD ch s l=ab ae:=by
 obtain⟨x,y,rfl⟩:=oP hl;obtain⟨a,b,g⟩:=oP hs;unfold XQ;obtain⟨f,f1,f2⟩:=ZOW x y;rw[ya,f1,ya]
 cases f with
 |false=>rw[yW (by decide)]
 |true=>
  obtain⟨j,m⟩:=f2 rfl;rw[yX (by decide)];by_cases z:(s.2.2.1.length:Int) > 20
  .rw[yW (yY z)]
  rw[yX (show¬ag ((s.2.2.1.length:Int) > 20)=ae by rw[yN];exact z)];obtain⟨r,B,E,F⟩:=ZHA w A hs j.wf m.wf (h x (by simp)) (h y (by simp));obtain⟨G,I⟩:=ZEL F;unfold WC;dsimp only;rw[B,ya,ZHy j m,ya,E,ya,ya];dsimp only;rw[yX (by simp),yX (by simp),G,ya,yX (show¬(!true)=ae by decide),I,ya,yX (show¬(!true)=ae by decide),g];simp only[List.getElem?_cons_zero,List.getElem?_cons_succ,ya];by_cases d1:a < 0
  .rw[yW (yY d1)]
  rw[yX (show¬ag (a < 0)=ae by rw[yN];exact d1)];by_cases d2:a > 1125899906842624
  .rw[yW (yY d2)]
  rw[yX (show¬ag (a > 1125899906842624)=ae by rw[yN];exact d2)];by_cases d3:b < 0
  .rw[yW (yY d3)]
  rw[yX (show¬ag (b < 0)=ae by rw[yN];exact d3)];by_cases d4:b > 1125899906842624
  .rw[yW (yY d4)]
  rw[yX (show¬ag (b > 1125899906842624)=ae by rw[yN];exact d4),yW trivial,ZCT g (by omega),Zyv g (by omega),ya,ya,PL (by show s.2.2.1.length<=1000;omega),ya]
end Go.Proofs.YtcbhhaigilifgaaGreat
end
