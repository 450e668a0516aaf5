/- Parts of the proof, in one file. -/
import Derived.Test.YtghfiijgklnflaaGreatKj
open Option renaming some → ab, none → ad
open Bool renaming true → ae, false → af
open Decidable renaming decide → ag
open Option renaming bind_some → ya
set_option linter.unusedVariables false
set_option linter.unusedSimpArgs false
section
set_option maxRecDepth 4000
namespace Go.Proofs.YtghfiijgklnflaaGreat
open Go Go.Ev
theorem ZJB(k x:yL yB):(fA k x).take ((fA k x).length - 8)=QT (eW k x.length) x/\(fA k x).drop ((fA k x).length - 8)=jj k (QT (eW k x.length) x):=by
 have c:=VA (jU k x.length);rw[xl];unfold fA;rw[show x.length+8 - 8=(QT (eW k x.length) x).length by omega];exact⟨List.take_left,List.drop_left⟩
theorem xm(k x:yL yB):gO k (fA k x)=(x,ae):=by
 obtain⟨c,e⟩:=ZJB k x;have f:=xl k x;unfold gO;rw[yW ⟨by omega,by rw[c,e]⟩,c,f,show x.length+8 - 8=x.length by omega,xh (jU k x.length)]
theorem ZNk{k b x:yL yB}(h:gO k b=(x,ae)):fA k x=b:=by
 unfold gO at h;split at h
 .rename_i e;obtain⟨j,f⟩:=e;simp only[Prod.mk.injEq,and_true]at h;have c:(eW k (b.length - 8)).length=(b.take (b.length - 8)).length:=by rw[jU,List.length_take];omega
  have g:x.length=b.length - 8:=by rw[<-h,VA c,List.length_take];omega
  unfold fA;rw[g, <-h,xh c,f,List.take_append_drop]
 .cases h
theorem ZGo{t:Tx}(h:jO t):∀o,o∈t.2.1->cE o.2:=λo e=>by
 obtain⟨_,_,_,_,_,f⟩:=h;have c:=(f o e).2.2.1;exact⟨by have:=c.2.1;omega,λb g=>by have:=(c.2.2 b g).1;omega⟩
def sO:Vb:=([0,0,0,0,0,0,0,0,0,0,0,0,0,0,0,0],[])
noncomputable def fP(id:yL yB)(t:Tx):Vb:=(nK id,fA (gj id) (dA t))
theorem ZGp{t:Tx}(h:fz t):ZF yD t=ab ae:=by
 obtain⟨b,c,e,_⟩:=Zra (ZGo h.2.1);rw[h.1]at c;cases c;exact e
theorem xn{t:Tx}{id:yL yB}(h:fz t)(hid:id.length=32):V1 yD t id=ab (if(fP id t).2.length<=8192 then(fP id t,ae) else(sO,af))/\YR yD t id=ab (if(fP id t).2.length<=8192 then(fP id t,ae) else(sO,af)):=by
 have f:=ZGp h;have j:=ME id;have g:=LX h.2.2 h.2.1;have hs:=xl (gj id) (dA t);have e:(fP id t).2.length=(fA (gj id) (dA t)).length:=rfl;constructor
 .unfold V1 sn;rw[xk hid,ya,MF hid,ya,ZJz h.2.2 h.1 h.2.1,ya,ZEQ (by omega) g,ya,h.1,ya,yX (by decide)];dsimp only;rw[yW (yY (by omega)),ya];by_cases c:(fA (gj id) (dA t)).length<=8192
  .rw[yX (by rw[yY (by omega)];decide),yW (by rw[e];exact c)];rfl
  .rw[yW (by rw[yZ (by omega)];rfl),yX (by rw[e];exact c)];rfl
 .unfold YR KO Qn;rw[f,ya,ZBy hid,ya,MG hid,ya,MD h.2.2 f h.2.1,ya,ZwN (by omega) g,ya,ya,yX (by decide)];dsimp only;rw[yW (yY (by omega)),ya];by_cases c:(fA (gj id) (dA t)).length<=8192
  .rw[yX (by rw[yY (by omega)];decide),yW (by rw[e];exact c)];rfl
  .rw[yW (by rw[yZ (by omega)];rfl),yX (by rw[e];exact c)];rfl
theorem MJ{t:Tx}{id:yL yB}(h1:WS yD t=ab af)(h2:ZF yD t=ab af)(hid:id.length=32):V1 yD t id=ab (sO,af)/\YR yD t id=ab (sO,af):=by
 have c:=ME id;constructor
 .unfold V1 sk;rw[xk hid,ya,MF hid,ya,h1,ya,yW (show(!false)=ae from rfl),ya,ZEQ (by omega) (by simp),ya,ya,yW (show(!false)=ae from rfl)]
  rfl
 .unfold YR Qn XZ;rw[h2,ya,ZBy hid,ya,MG hid,ya,ya,yW (show(!false)=ae from rfl),ya,ZwN (by omega) (by simp),ya,ya,yW (show(!false)=ae from rfl)]
  rfl
theorem ZGq{t:Tx}{id:yL yB}(h:jN t)(hl:∀o,o∈t.2.1->cE o.2)(hid:id.length=32):
 ∃q,V1 yD t id=ab q/\YR yD t id=ab q/\(q=(sO,af)\/fz t/\(fP id t).2.length<=8192/\q=(fP id t,ae)):=by
 obtain⟨b,f,j,l⟩:=Zra hl
 cases b with
 |false=>
  obtain⟨c,e⟩:=MJ f j hid
  exact⟨_,c,e,.inl rfl⟩
 |true=>
  have g:fz t:=⟨f,l rfl,h⟩;obtain⟨c,e⟩:=xn g hid;refine⟨_,c,e, ?_⟩;split
  .rename_i m;exact .inr ⟨g,m,rfl⟩
  .exact .inl rfl
def sP:Tx:=([],[],0)
theorem xo:WS yD sP=ab af/\ZF yD sP=ab af:=by
 constructor
 .unfold WS;rfl
 .unfold ZF;rfl
theorem MK{a b:Vb}(h:a.2.length<=1000000):Wg yD a b=ab (ag (a=b)):=by
 unfold Wg;rw[ZJt h,ya];obtain⟨g,e⟩:=a;obtain⟨j,f⟩:=b;dsimp only;by_cases c:e=f
 .rw[yW (yY c)];exact congrArg ab (decide_eq_decide.2 ⟨λh=>by rw[h,c],λh=>(Prod.mk.inj h).1⟩)
 .rw[yX (by rw[yN];exact c)];exact congrArg ab (yZ λh=>c (Prod.mk.inj h).2).symm
theorem ZwO{p:Vb}{id:yL yB}(hid:id.length=32)(hp:p.2.length<=8200):
 ∃r,nG yD p id=ab r/\Qq yD p id=ab r/\(r=(sP,af)\/∃t,fz t/\p=fP id t/\p.2.length<=8192/\r=(t,ae))/\∀t,fz t->p=fP id t->p.2.length<=8192->r=(t,ae):=by
 have G:=ME id;have I:=ZLa (key:=gj id) (b:=p.2) (by omega) (by omega);have A:=ZGc (key:=gj id) (b:=p.2) (by omega) (by omega);unfold nG Qq sn;rw[MF hid,ya,I,ya,MG hid,ya,A,ya]
 cases c:(gO (gj id) p.2).2 with
 |false=>
  rw[yW (show(!false)=ae from rfl),yW (show(!false)=ae from rfl)]
  refine⟨_,rfl,rfl,.inl rfl,λt g e _=> ?_⟩;rw[e]at c;unfold fP at c;rw[xm]at c
  cases c
 |true=>
  have E:gO (gj id) p.2=((gO (gj id) p.2).1,ae):=by rw[<-c]
  generalize M:(gO (gj id) p.2).1=x at E;have hs:=ZNk E;have F:=xl (gj id) x;rw[hs]at F;rw[yX (show¬(!true)=ae by decide),yX (show¬(!true)=ae by decide),yW (yY (by omega)),ya,xk hid,ya,ZJn (by omega),ya,ZGh (by omega),ya];by_cases s:p.2.length<=8192
  .rw[yX (by rw[yY (by omega)];decide)];by_cases l:∃t,fz t/\dA t=x
   .obtain⟨t,g,rfl⟩:=l;rw[xc ⟨g,rfl⟩];obtain⟨_,f⟩:=xn g hid;have e:(fP id t).2=p.2:=hs;rw[yW (by rw[e];exact s)]at f;dsimp only;rw[f,ya,yX (show¬(!true)=ae by decide)];dsimp only;rw[MK (by omega),ya];have y:p.1=nK id↔p=fP id t:=⟨λh=>Prod.ext (show p.1=(fP id t).1 from h) e.symm,λh=>by rw[h];rfl⟩
    by_cases j:p.1=nK id
    .rw[yX (by rw[yY j];decide),yX (by rw[yY (y.1 j)];decide)];refine⟨_,rfl,rfl,.inr ⟨t,g,y.1 j,s,rfl⟩,λu z m _=> ?_⟩
     have:dA u=dA t:=by
      have:=congrArg (λq:Vb=>gO (gj id) q.2) (m.symm.trans (y.1 j));unfold fP at this;dsimp only at this;rw[xm,xm]at this;exact(Prod.mk.inj this).1
     rw[ZEO z g this]
    .rw[yW (by rw[yZ j];rfl),yW (by rw[yZ λh=>j (y.2 h)];rfl)];exact⟨_,rfl,rfl,.inl rfl,λu z m _=>absurd (by rw[m];rfl) j⟩
   .rw[xf l];obtain⟨_,f⟩:=MJ xo.1 xo.2 hid;unfold sP at f;dsimp only;rw[f,ya,yW (show(!false)=ae from rfl)]
    refine⟨_, ?_,rfl,.inl rfl,λu z m _=>absurd ⟨u,z, ?_⟩ l⟩
    .split <;> rfl
    .have:=congrArg (λq:Vb=>gO (gj id) q.2) m;unfold fP at this;dsimp only at this;rw[xm,E]at this;exact(Prod.mk.inj this).1.symm
  .rw[yW (by rw[yZ (by omega)];rfl)];refine⟨_,rfl, ?_,.inl rfl,λ_ _ _ h=>absurd h s⟩;by_cases l:∃t,fz t/\dA t=x
   .obtain⟨t,g,rfl⟩:=l;rw[xc ⟨g,rfl⟩];obtain⟨_,f⟩:=xn g hid;have e:(fP id t).2=p.2:=hs;rw[yX (by rw[e];exact s)]at f;dsimp only;rw[f,ya,yW (show(!false)=ae from rfl)]
   .rw[xf l];obtain⟨_,f⟩:=MJ xo.1 xo.2 hid;unfold sP at f;dsimp only;rw[f,ya,yW (show(!false)=ae from rfl)]
theorem ZBC{t:Tx}(h:jO t):nH yD t t=ab ae/\Wh yD t t=ab ae:=by
 obtain⟨A,E,F,G,l,m⟩:=h;have c:t.1.length<=1000000:=by omega
 have e:t.2.1.length<=1000000:=by omega
 have f:∀x,x∈t.1->x.2.2.1.length<=1000000:=λx s=>by have:=(l x s).2.2.2.2;omega
 have g:∀o,o∈t.2.1->o.2.length<=1000000/\∀b,b∈o.2->b.1.length<=1000000:=λo y=>by
  have j:=(m o y).2.2.1;exact⟨by have:=j.2.1;omega,λb z=>by have:=(j.2.2 b z).1;omega⟩
 exact⟨ZLd c e f g,Zuq c e f g⟩
theorem ZGr{t:Tx}{id:yL yB}{p:Vb}(s:jN t)(hid:id.length=32):Wm yD t id p=ab ae:=by
 unfold Wm;obtain⟨b,y,z⟩:=ZGk t;rw[ya,y,ya]
 cases b with
 |false=>rfl
 |true=>
 rw[yX (by decide)];by_cases j:(p.2.length:Int) > 8200
 .rw[yW (yY j)]
 rw[yX (by rw[yN];exact j)];obtain⟨q,A,E,l⟩:=ZGq s (z rfl) hid;obtain⟨r,F,G,m,T⟩:=ZwO (p:=p) hid (by omega)
 have I:q.1.2.length<=1000000:=by
  rcases l with rfl|⟨_,f,rfl⟩
  .decide
  .dsimp only;omega
 have M:Wh yD r.1 r.1=ab ae:=by
  rcases m with rfl|⟨u,e,_,_,rfl⟩
  .exact Zuq (by decide) (by decide) (λx h=>by cases h) (λx h=>by cases h)
  .exact(ZBC e.2.1).2
 rw[A,ya,E,ya,F,ya,G,ya,MK I,ya,M,ya,yX (by simp),yX (by simp),yX (by decide),yX (by simp)]
 have tail:(if(!q.2)=ae then
  if ae=ae then ab ((q.1.2.length:Int)==0) else ab af
  else
   (nG yD q.1 id).bind λa=>
   if ae=ae then
    if a.2=ae then
     (nH yD a.1 t).bind λc=>
     if c=ae then
      (V0 yD id).bind λd=>
      if(ag (q.1.1=d))=ae then
       ab (ag ((q.1.2.length:Int)<=8192))
      else
      ab af
     else
     ab af
    else
    ab af
   else
   ab af)=ab ae:=by
  rcases l with rfl|⟨e,f,rfl⟩
  .rw[yW (show(!false)=ae from rfl),yW (show ae=ae from rfl)]
   rfl
  .rw[yX (show¬(!true)=ae by decide)];obtain⟨U,g,_,_,Q⟩:=ZwO (p:=fP id t) hid (by omega);have:=Q t e rfl f;subst this;dsimp only;rw[g,ya,yW (show ae=ae from rfl),yW (show ae=ae from rfl),(ZBC e.2.1).1,ya,yW (show ae=ae from rfl),xk hid,ya,yW (yY (show(fP id t).1=nK id from rfl))]
   exact congrArg ab (yY (by omega))
 rcases m with rfl|⟨u,e,f,S,rfl⟩
 .rw[yX (by decide)];exact tail
 .rw[yW (show ae=ae from rfl)]
  obtain⟨g,_⟩:=xn e hid;rw[<-f,yW S]at g;dsimp only;rw[g,ya];dsimp only;rw[MK (by omega),ya,yX (by decide),yX (by simp)];exact tail
end Go.Proofs.YtghfiijgklnflaaGreat
end
