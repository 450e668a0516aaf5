/- Parts of the proof, in one file. -/
import Derived.Test.YtcbhhaigilifgaaGreatKj
open Option renaming some → ab, none → ad
open Bool renaming true → ae, false → af
open Decidable renaming decide → ag
open List renaming getElem?_cons_succ → yak, getElem?_cons_zero → yam, mem_singleton → yba
open Option renaming bind_some → ya
set_option linter.unusedVariables false
set_option linter.unusedSimpArgs false
section
set_option maxRecDepth 4000
namespace Go.Proofs.YtcbhhaigilifgaaGreat
open Go Go.Ev
theorem AI:Vv (([],[],0):ai):=λo h=>by cases h
theorem AJ:kh (([],[],0):ai):=λo h=>by cases h
abbrev ul(f g:Int):ai:=([((cO,7),f)],[],g)
abbrev PU(f g:Int):ai:=([],[(f,[([4],0,0,0)])],g)
theorem ZJw(a f:Int):Vv (ul a f):=λo h=>by cases h
theorem ZJx(a f:Int):kh (ul a f):=λo h=>by
 have:=yba.1 h;rw[this];rfl
theorem ZG9(a f:Int):kh (PU a f):=λo h=>by cases h
theorem ZHa(a f:Int):Vv (PU a f):=λo h=>by
 have:=yba.1 h;rw[this]
 exact⟨by simp,λb g=>by
  rw[yba.1 g];simp⟩
theorem ql:bz (([],[],0):ai)=0:=by simp[bz,fZ,iR]
theorem AK(a f:Int):bz (ul a f)=a - f:=by simp[bz,fZ,iR]
theorem AL(a f:Int):bz (PU a f)=0 - f - a:=by simp[bz,fZ,iR]
theorem AM{ch:Chan}(w:dC ch)(z:ch.1.1.length=32){s:yG}(hs:s.2.1.length=2){x y:ai}(A:Vv x)(E:Vv y)(F:kh x)(G:kh y):∃r,Ya yD ch s [x,y]=ab r/\(r.2.2.2=0->∃a b,s.2.1=[a,b]/\r.2.1.2.1=[a+bz x,b+bz y]/\r.1.2.1=ch.2.1+(bz x+bz y)/\aP x/\aP y/\(0<=a/\a<=1125899906842624)/\(0<=b/\b<=1125899906842624)/\(1<=ch.2.1/\ch.2.1<=1125899906842624)/\
 r.2.2.1.2.1.length=1+(x.2.1.length+y.2.1.length)/\(∀o,(x.2.1++y.2.1)[0]? =ab o->r.2.2.1.2.1[1]? =ab o)/\dC r.1/\r.1.1.1.length=32/\r.2.1.2.1.length=2/\au yD r.1 r.2.1=ab ae)/\(au yD ch s=ab ae->r.2.2.2≠14):=by
 obtain⟨r,I,_,l⟩:=ZDJ w z hs A E F G;refine⟨r,I,λM=> ?_,λQ=> ?_⟩
 .rcases l with d|⟨h,_⟩
  .obtain⟨a,b,f,g,id,m,e2,R,rfl,p0,p1,rt,j,tR,_⟩:=d.ex;obtain⟨S,T,e4,U,W,_⟩:=d.st.fY;rw[m]at e4
   obtain⟨rfl,rfl⟩:a=S/\b=T:=by
    simp only[List.cons.injEq,and_true]at e4;exact e4
   have cx:=zA d.wx;have cy:=zA d.wy;have X:=d.st.am;have Y:dC (zC ch (ch.2.1+(bz x+bz y))):=⟨w.b,w.t,by show-9223372036854775808<=ch.2.1+(bz x+bz y);omega,by show ch.2.1+(bz x+bz y)<=9223372036854775807;omega,w.n0,w.n1,w.o0,w.o1⟩;obtain⟨f1,_,f3⟩:=ZAL Y rt j (id:=id) (n:=0) (by omega) (c2:=((id,0),ch.2.1+(bz x+bz y),ch.2.2.1,ch.2.2.2.1,ch.2.2.2.2)) rfl;refine⟨a,b,m,rfl,rfl,d.wx,d.wy,U,W,X, ?_,λo Z=> ?_,f3,R,rfl,f1⟩
   .show(X4 f g _ x y).length=_;unfold X4;rw[List.length_cons,List.length_append];omega
   .show(X4 f g _ x y)[1]? =_;unfold X4;rw[yak];exact Z
  .exact absurd M h
 .rcases l with d|⟨_,_,h⟩
  .obtain⟨a,b,f,g,id,_,_,_,rfl,_⟩:=d.ex;exact show(0:Int)≠14 by decide
  .exact h Q
theorem ZHb{x:aE}(wx:ki x){j f g h:Int}(ha: -9223372036854775808<=f/\f<=9223372036854775807)(hf: -9223372036854775808<=g/\g<=9223372036854775807)(ho: -9223372036854775808<=h/\h<=9223372036854775807):
 XA yD x j f g h=ab ae:=by
 obtain⟨r,m1,m2⟩:=ZDN wx;unfold XA;rw[ya,m1,ya];obtain⟨ch,kits,s,ok⟩:=r
 cases ok with
 |false=>rw[yW (by rfl)]
 |true=>
  rw[yX (show¬(!true)=ae by decide)];have m:=m2 rfl;dsimp only at m ⊢;have hh:ch.1.1.length=32:=by rw[m.OU];rfl
  have A:=ZK8 4;by_cases s0:j=0
  .subst s0;rw[yX (show¬(((0:Int)!=0)=ae) by decide),yW (show((0:Int)==0)=ae by decide)];obtain⟨r,M,Q,_⟩:=AM m.wf hh m.h2 (ZJw f g) AI (ZJx f g) AJ;rw[M,ya];by_cases l:r.2.2.2=0
   case neg=>rw[yW (bne_iff_ne.2 l)]
   rw[yX (by rw[l];decide),A,ya];obtain⟨a,b,R,S,T,E,F,ra,rb,am,e4,_,U,W,X,rt⟩:=Q l;obtain⟨q,Y,Z,q3⟩:=AM U W X (ZHa f h) AI (ZG9 f h) AJ;rw[Y,ya];by_cases y:q.2.2.2=0
   case neg=>rw[yW (bne_iff_ne.2 y),yW rfl,bne_iff_ne.2 (q3 rt)]
   rw[yX (by rw[y];decide)];obtain⟨c,d,f1,f2,f3,G,I,_,_,_,f4,f5,_⟩:=Z y;rw[S]at f1
   obtain⟨rfl,rfl⟩:a+bz (ul f g)=c/\b+bz (([],[],0):ai)=d:=by
    simp only[List.cons.injEq,and_true]at f1;exact f1
   have v1:=E.dW;have v2:=G.dW;dsimp only at v1 v2;rw[R,yam,ya,ya];rw[AK,ql,AL]at f2;rw[AL,ql,T,AK,ql]at f3;rw[ZE (z:=a - g) (by omega) (by omega),ZE (z:=a - g - h) (by omega) (by omega),ZE (z:=ch.2.1 - g) (by omega) (by omega),ZE (z:=ch.2.1 - g - h) (by omega) (by omega),yW rfl]
   rw[yW (yY (show q.2.1.2.1=([a,b]:yL Int).set 0 (a - g - h) by
    rw[f2];show[_,_]=[_,_];congr 1
    .omega
    .congr 1;omega))]
   rw[yW (beq_iff_eq.2 (show q.1.2.1=ch.2.1 - g - h by omega)),yW (beq_iff_eq.2 (show(q.2.2.1.2.1.length:Int)=2 by rw[f4];rfl)),show(1:Int)=((1:Nat):Int) from rfl,Zp (f5 _ rfl),ya]
   exact congrArg ab (beq_iff_eq.2 rfl)
  .rw[yW (bne_iff_ne.2 s0)];by_cases s1:j=1
   case neg=>rw[yW (bne_iff_ne.2 s1)]
   subst s1;rw[yX (show¬(((1:Int)!=1)=ae) by decide),yX (show¬(((1:Int)==0)=ae) by decide),yW (show((1:Int)==1)=ae by decide)];obtain⟨r,M,Q,_⟩:=AM m.wf hh m.h2 AI (ZJw f g) AJ (ZJx f g);rw[M,ya];by_cases l:r.2.2.2=0
   case neg=>rw[yW (bne_iff_ne.2 l)]
   rw[yX (by rw[l];decide),A,ya];obtain⟨a,b,R,S,T,E,F,ra,rb,am,e4,_,U,W,X,rt⟩:=Q l;obtain⟨q,Y,Z,q3⟩:=AM U W X AI (ZHa f h) AJ (ZG9 f h);rw[Y,ya];by_cases y:q.2.2.2=0
   case neg=>rw[yW (bne_iff_ne.2 y),yW rfl,bne_iff_ne.2 (q3 rt)]
   rw[yX (by rw[y];decide)];obtain⟨c,d,f1,f2,f3,G,I,_,_,_,f4,f5,_⟩:=Z y;rw[S]at f1
   obtain⟨rfl,rfl⟩:a+bz (([],[],0):ai)=c/\b+bz (ul f g)=d:=by
    simp only[List.cons.injEq,and_true]at f1;exact f1
   have v1:=F.dW;have v2:=I.dW;dsimp only at v1 v2;rw[R,yak,yam,ya,ya];rw[AK,ql,AL]at f2;rw[AL,ql,T,AK,ql]at f3;rw[ZE (z:=b - g) (by omega) (by omega),ZE (z:=b - g - h) (by omega) (by omega),ZE (z:=ch.2.1 - g) (by omega) (by omega),ZE (z:=ch.2.1 - g - h) (by omega) (by omega),yW rfl]
   rw[yW (yY (show q.2.1.2.1=([a,b]:yL Int).set 1 (b - g - h) by
    rw[f2];show[_,_]=[_,_];congr 1
    .omega
    .congr 1;omega))]
   rw[yW (beq_iff_eq.2 (show q.1.2.1=ch.2.1 - g - h by omega)),yW (beq_iff_eq.2 (show(q.2.2.1.2.1.length:Int)=2 by rw[f4];rfl)),show(1:Int)=((1:Nat):Int) from rfl,Zp (f5 _ rfl),ya]
   exact congrArg ab (beq_iff_eq.2 rfl)
end Go.Proofs.YtcbhhaigilifgaaGreat
end
