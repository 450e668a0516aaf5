/- Parts of the proof, in one file. -/
import Derived.Test.YtcbhhaigilifgaaGreatKj
open Option renaming some → ab, none → ad
open Bool renaming true → ae, false → af
open Decidable renaming decide → ag
open List renaming length_cons → yaf, take_length → yai
open Option renaming bind_some → ya
set_option linter.unusedVariables false
set_option linter.unusedSimpArgs false
section
set_option maxRecDepth 4000
namespace Go.Proofs.YtcbhhaigilifgaaGreat
open Go Go.Ev
abbrev qB:Type:=zH
theorem ZMh(hd:Bool)(f:Int){i:Int}(R:qB){w:ai}(h1:bi i 2=ae)(h2:R.2.1[i.toNat]? =ab w)(hl:w.1.length<=10)(z m:Int):
 Zc (ZT yD) yD (hd,z,f,i,m,(0:Int),R)=ab (hd,fu z w.1,f,i,fu m w.1,R):=by
 have h:=Zz (step:=ZT yD) w.1.length (λk:Nat=>(hd,fu z (w.1.take k),f,i,fu m (w.1.take k),(k:Int),R)) (x:=(hd,fu z w.1,f,i,fu m w.1,R)) (λk j=>by
  obtain⟨c,g,_⟩:=Zj j;unfold ZT;dsimp only;rw[yW h1,h2,ya,yW (Zw j),yW h1,ya,Zn g,ya,yW h1,ya,Zn g,ya,Zr (by omega),AI g,AI g]) (by
  unfold ZT;dsimp only;rw[yW h1,h2,ya,yX (by rw[Zy];decide),yai]) (by omega)
 exact h
theorem ZJ0(hd:Bool)(f:Int){i:Int}(R:qB){w:ai}(h1:bi i 2=ae)(h2:R.2.1[i.toNat]? =ab w)(hl:w.2.1.length<=10)(z m:Int):
 Zc (ZU yD) yD (hd,z,f,i,m,(0:Int),R)=ab (hd,z,f,i,gM m w.2.1,R):=by
 have h:=Zz (step:=ZU yD) w.2.1.length (λk:Nat=>(hd,z,f,i,gM m (w.2.1.take k),(k:Int),R)) (x:=(hd,z,f,i,gM m w.2.1,R)) (λk g=>by
  obtain⟨c,j,_⟩:=Zj g;unfold ZU;dsimp only;rw[yW h1,h2,ya,yW (Zw g),yW h1,ya,Zn j,ya,Zr (by omega),PM j]) (by
  unfold ZU;dsimp only;rw[yW h1,h2,ya,yX (by rw[Zy];decide),yai]) (by omega)
 exact h
theorem Zz4(hd:Bool)(f:Int){i:Int}(R:qB){w:ai}(g:ag (i < 2)=ae)(h1:bi i 2=ae)(h2:R.2.1[i.toNat]? =ab w)(ok:aQ w){z:Int}(hz:0<=z/\z<=2251799813685248){a:Int}(ha:R.2.2.2.2.1.2.1[i.toNat]? =ab a)(hb:R.2.2.2.2.2.2.1.2.1[i.toNat]? =ab (a+bh w))(h:0<=a/\a<=1125899906842624):
 ZV yD (hd,z,f,i,R)=ab (.inl (hd,z+eM w.1,f,wi (i+1),R)):=by
 unfold ZV;dsimp only;rw[yW g,yW h1,h2,ya];have j:=ok.n1;have E:=ok.n2;have l:Zc (ZT yD) yD (hd,z,f,i,wi (0 - w.2.2),(0:Int),R)=ab (hd,fu z w.1,f,i,fu (wi (0 - w.2.2)) w.1,R):=ZMh hd f R h1 h2 (by omega) z _;obtain⟨m,y,F,G,I,J⟩:=qt ok;obtain⟨s1,_,_⟩:=PN w.1 z ok.nc j (by omega) (by omega);have M:=uq ok;rw[l,ya];dsimp only;have A:Zc (ZU yD) yD (hd,fu z w.1,f,i,fu (wi (0 - w.2.2)) w.1,(0:Int),R)=ab (hd,fu z w.1,f,i,gM (fu (wi (0 - w.2.2)) w.1) w.2.1,R):=ZJ0 hd f R h1 h2 (by omega) _ _;rw[A,ya];dsimp only;rw[m,y,s1,yW h1,hb,ya,yW h1,ha,ya,ZJ (z:=a+bh w) (by omega) (by omega),yX (by simp)]
def wpS(z:Int)(l:yL Out):Int:=l.foldl (λa c=>wi (a+c.1)) z
theorem ZMi{z:Int}{l:yL Out}{k:Nat}{c:Out}(h:l[k]? =ab c):wpS z (l.take (k+1))=wi (wpS z (l.take k)+c.1):=by
 rw[We h,wpS,List.foldl_append];rfl
theorem ZC1:∀(l:yL Out)(z:Int),(∀c,c∈l->0<=c.1/\c.1<=2251799813685248)->l.length<=100->0<=z->z+l.length*2251799813685248<=4611686018427387904->wpS z l=z+fN l
 |[],z,_,_,_,_=>by simp[wpS,fN]
 |c::l,z,h,f,m,g=>by
  have y:=h c List.mem_cons_self;rw[yaf]at f g;have e:wpS z (c::l)=wpS (wi (z+c.1)) l:=rfl;have w:wi (z+c.1)=z+c.1:=ZJ (by omega) (by omega);have i:=ZC1 l (z+c.1) (λx j=>h x (List.mem_cons_of_mem _ j)) (by omega) (by omega) (by omega);have s:fN (c::l)=c.1+fN l:=by simp[fN]
  rw[e,w,i,s];omega
theorem ZH2(l m:yL Out):fN (l++m)=fN l+fN m:=by simp[fN]
theorem ZMj(hd:Bool)(z f:Int)(R:qB)(hl:R.2.2.2.2.2.2.2.2.1.length<=100):Zc (ZH yD) yD (hd,z,f,(0:Int),R)=ab (hd,z,wpS f R.2.2.2.2.2.2.2.2.1,R):=by
 have h:=Zz (step:=ZH yD) R.2.2.2.2.2.2.2.2.1.length (λk:Nat=>(hd,z,wpS f (R.2.2.2.2.2.2.2.2.1.take k),(k:Int),R)) (x:=(hd,z,wpS f R.2.2.2.2.2.2.2.2.1,R)) (λk g=>by
  obtain⟨c,j,_⟩:=Zj g;unfold ZH;dsimp only;rw[yW (Zw g),Zn j,ya,Zr (by omega),ZMi j]) (by
  unfold ZH;dsimp only;rw[yX (by rw[Zy];decide),yai]) (by omega)
 exact h
theorem ZH3(hd:Bool)(R:qB)(h:R.2.2.2.2.2.2.1.2.2.1=R.2.2.2.2.1.2.2.1)(hl:R.2.2.2.2.1.2.2.1.length<=100):Zc (ZW yD) yD (hd,(0:Int),R)=ab (.inr (hd,R)):=by
 have h:=Zz (step:=ZW yD) R.2.2.2.2.1.2.2.1.length (λk:Nat=>(hd,(k:Int),R)) (x:=.inr (hd,R)) (λk f=>by
  obtain⟨c,g,_⟩:=Zj f;unfold ZW;dsimp only;rw[h,yW (Zw f),Zn g,ya,ya,yY rfl,yX (by decide),Zr (by omega)]) (by
  unfold ZW;dsimp only;rw[h,yX (by rw[Zy];decide)]) (by omega)
 exact h
theorem ZEJ{x:aC}(wx:kp x){l:yL ai}(hl:l.length=2)(X:∀y,y∈l->oL y):Xu yD x l=ab ae:=by
 obtain⟨v,y,rfl⟩:=jt hl;obtain⟨r,m1,m2⟩:=ZED wx;obtain⟨f,f1,f2⟩:=ZLY v y;unfold Xu;rw[ya,m1,ya];obtain⟨ch,A,s,ok⟩:=r
 cases ok with
 |false=>rw[yW (by rfl)]
 |true=>
 rw[yX (show¬(!true)=ae by decide),f1,ya];have m:=m2 rfl;dsimp only at m ⊢;have hh:ch.1.1.length=32:=by rw[m.PY];rfl
 cases f with
 |false=>rw[yW (by decide)]
 |true=>
 obtain⟨Y,Z⟩:=f2 rfl;rw[yX (show¬(!true)=ae by decide)];obtain⟨r,r1,_,r3⟩:=ZEz m.wf hh m.h2 Y.wf Z.wf (X v (by simp)) (X y (by simp));rw[r1,ya];rcases r3 with d|⟨h0,⟨h1,h2,h3⟩,_⟩
 case inr=>
  rw[yW (bne_iff_ne.2 h0),yW rfl,h1,h3];rw[yW (yY rfl)];rfl
 obtain⟨a,b,g,h,id,I,e2,e3,e4,p0,p1,rt,E,tR,hid⟩:=d.ex;obtain⟨a',b',J,ra,rb,_⟩:=d.st.fM;rw[I]at J
 obtain⟨rfl,rfl⟩:a=a'/\b=b':=by
  simp only[List.cons.injEq,and_true]at J;exact J
 have cv:=uq d.wx;have cy:=uq d.wy;have am:=d.st.am;obtain⟨_,_,iv1,iv2,ov1,ov2⟩:=qt d.wx;obtain⟨_,_,iy1,iy2,oy1,oy2⟩:=qt d.wy;have fv:=d.wx.qr;have fy:=d.wy.qr;have hM:(1:Int)<=ch.2.1+(bh v+bh y)/\ch.2.1+(bh v+bh y)<=1125899906842624:=E.am;have tl:mY (cJ ch g h (ch.2.1+(bh v+bh y)) v y):=ZKg d.wx d.wy Y.wf Z.wf;obtain⟨n,n1,_,_,M⟩:=ZCU tR tl;rw[hid]at n1;cases n1;have w':dV (AJ ch (ch.2.1+(bh v+bh y))):=⟨m.wf.b,m.wf.t,by show-9223372036854775808<=ch.2.1+(bh v+bh y);omega,by show ch.2.1+(bh v+bh y)<=9223372036854775807;omega,m.wf.n0,m.wf.n1,m.wf.o0,m.wf.o1⟩;obtain⟨g1,g2,_⟩:=ZBC w' rt E (id:=id) (n:=0) (by omega) (c2:=((id,0),ch.2.1+(bh v+bh y),ch.2.2.1,ch.2.2.2.1,ch.2.2.2.2)) rfl;have Q:((s.1,[a+bh v,b+bh y],s.2.2.1,s.2.2.2):yG).2.1=[a+bh v,b+bh y]:=rfl;obtain⟨a2,b2,e6,_,_,S,_,_⟩:=g2.fM
 obtain⟨rfl,rfl⟩:a+bh v=a2/\b+bh y=b2:=by
  simp only[List.cons.injEq,and_true]at e6;exact e6
 have few:=m.few;rw[e4];dsimp only
 have lo:(cJ ch g h (ch.2.1+(bh v+bh y)) v y).2.1.length=v.2.1.length+y.2.1.length+1:=by
  show(WR g h _ v y).length=_;unfold WR;rw[yaf,List.length_append]
 have li:(cJ ch g h (ch.2.1+(bh v+bh y)) v y).1.length=v.1.length+y.1.length+1:=by
  show(il ch v y).length=_;unfold il;rw[yaf,List.length_append,VX,VX]
 have lm:(jv id (cJ ch g h (ch.2.1+(bh v+bh y)) v y).2.1.length).length=v.2.1.length+y.2.1.length+1:=by
  rw[lo];unfold jv;rw[List.length_map,List.length_range]
 rw[yX (show¬(((0:Int)!=0)=ae) by decide),yX (by rw[yT,lo];omega),yX (by rw[yT,li];omega),M,ya,yX (by rw[yT,lm];omega)];simp only[List.getElem?_cons_zero,List.getElem?_cons_succ,ya];rw[ZJ (z:=v.2.2+y.2.2) (by omega) (by omega)];generalize U:cJ ch g h (ch.2.1+(bh v+bh y)) v y=T;rw[U]at M lm lo li;let R:qB:=(x,[v,y],ch,A,s,((id,0),ch.2.1+(bh v+bh y),ch.2.2.1,ch.2.2.2.1,ch.2.2.2.2),(s.1,[a+bh v,b+bh y],s.2.2.1,s.2.2.2),T);have l0:=Zz4 ae (v.2.2+y.2.2) (i:=0) R (w:=v) (by decide) (by decide) rfl d.wx (z:=ch.2.1) (by omega) (a:=a) (by show s.2.1[_]? =_;rw[I];rfl) rfl ra;have l1:=Zz4 ae (v.2.2+y.2.2) (i:=1) R (w:=y) (by decide) (by decide) rfl d.wy (z:=ch.2.1+eM v.1) (by omega) (a:=b) (by show s.2.1[_]? =_;rw[I];rfl) rfl rb
 have l2:ZV yD (ae,ch.2.1+eM v.1+eM y.1,v.2.2+y.2.2,(2:Int),R)=ab (.inr (.inr (ae,ch.2.1+eM v.1+eM y.1,v.2.2+y.2.2,R))):=by
  unfold ZV;dsimp only;rw[yX (show¬(ag ((2:Int) < 2)=ae) by decide)]
 have l3:=na l0 l1 l2;show Option.bind (Zc (ZV yD) yD (ae,ch.2.1,v.2.2+y.2.2,(0:Int),R)) _=_;rw[l3,ya];dsimp only
 have l4:Zc (ZH yD) yD (ae,ch.2.1+eM v.1+eM y.1,v.2.2+y.2.2,(0:Int),R)=_:=ZMj ae _ _ R (by
  show T.2.1.length<=100;have:=d.wx.n2;have:=d.wy.n2;omega)
 show Option.bind (Zc (ZH yD) yD (ae,ch.2.1+eM v.1+eM y.1,v.2.2+y.2.2,(0:Int),R)) _=_;rw[l4,ya];dsimp only;have j:T.2.1=(ch.2.1+(bh v+bh y),WZ g h)::(v.2.1++y.2.1):=by rw[<-U];rfl
 have W:T.1=gY ch.1::(XV v.1++XV y.1):=by rw[<-U];rfl
 have F:wpS (v.2.2+y.2.2) R.2.2.2.2.2.2.2.2.1=ch.2.1+eM v.1+eM y.1:=by
  show wpS (v.2.2+y.2.2) T.2.1=_;have n2v:=d.wx.n2;have n2y:=d.wy.n2
  rw[ZC1 T.2.1 _ (λo ho=>by
   rw[j]at ho;rcases List.mem_cons.1 ho with rfl|ho
   .dsimp only;omega
   .rcases List.mem_append.1 ho with ho|ho
    .have:=(d.wx.fO o ho).1;omega
    .have:=(d.wy.fO o ho).1;omega) (by omega) (by omega) (by omega),j]
  have s:fN ((ch.2.1+(bh v+bh y),WZ g h)::(v.2.1++y.2.1))=ch.2.1+(bh v+bh y)+(fN v.2.1+fN y.2.1):=by
   rw[<-ZH2];simp[fN]
  rw[s];unfold bh;omega
 rw[F,yX (by simp)];show(if((s.2.2.1.length:Int)!=(s.2.2.1.length:Int))=ae then ab af else _)=_
 rw[yX (by simp)];show Option.bind (au yD ((id,0),ch.2.1+(bh v+bh y),ch.2.2.1,ch.2.2.2.1,ch.2.2.2.2) (s.1,[a+bh v,b+bh y],s.2.2.1,s.2.2.2)) _=_;rw[g1,ya,yX (show¬(!true)=ae by decide)];show Option.bind (Q9 yD (s.1,[a+bh v,b+bh y],s.2.2.1,s.2.2.2)) _=_;rw[OV _ Q (by show s.2.2.1.length<=1000;omega),ya];have G:dm (wi (a+bh v+(b+bh y))) s.2.2.1=ch.2.1+(bh v+bh y):=S;show(if((dm (wi (a+bh v+(b+bh y))) s.2.2.1 !=ch.2.1+(bh v+bh y))=ae) then ab af else _)=_
 rw[G,yX (by simp)];have i0:idx T.2.1 0=ab (ch.2.1+(bh v+bh y),WZ g h):=by rw[j];rfl
 show Option.bind (idx T.2.1 0) _=_;rw[i0,ya];show(if((ch.2.1+(bh v+bh y)!=ch.2.1+(bh v+bh y))=ae) then ab af else _)=_
 rw[yX (by simp),ya];show Option.bind (XY yD ((id,0),ch.2.1+(bh v+bh y),ch.2.2.1,ch.2.2.2.1,ch.2.2.2.2)) _=_;rw[(PP (ch:=((id,0),ch.2.1+(bh v+bh y),ch.2.2.1,ch.2.2.2.1,ch.2.2.2.2)) e2).1,ya];dsimp only;rw[ZJK (ZJL g h),ya,yX (show¬(!true)=ae by decide)];show Option.bind (oC yD T) _=_;rw[M,ya]
 have ix:idx (jv id T.2.1.length) 0=ab (id,0):=by
  rw[lo];unfold jv;rw[List.range_succ_eq_map,List.map_cons];rfl
 rw[ix,ya];show(if(!(ag (((id,0):ZK)=(id,0))))=ae then ab af else _)=_
 rw[yY rfl,yX (by decide)];have i1:idx T.1 0=ab (gY ch.1):=by rw[W];rfl
 show Option.bind (idx T.1 0) _=_;rw[i1,ya];show(if(!(ag (ch.1=ch.1)))=ae then ab af else _)=_
 rw[yY rfl,yX (by decide)];have l5:=ZH3 ae R rfl (by show s.2.2.1.length<=100;omega);show Option.bind (Zc (ZW yD) yD (ae,(0:Int),R)) _=_;rw[l5,ya];dsimp only;rw[yW rfl];exact congrArg ab (yY rfl)
end Go.Proofs.YtcbhhaigilifgaaGreat
end
