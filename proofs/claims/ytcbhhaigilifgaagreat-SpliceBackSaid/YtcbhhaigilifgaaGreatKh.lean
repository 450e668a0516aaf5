/- Parts of the proof, in one file. -/
import Derived.Test.YtcbhhaigilifgaaGreatKg
open Option renaming some → ab, none → ad
open Bool renaming true → ae, false → af
open Decidable renaming decide → ag
open Array renaming replicate → ycg, getElem?_eq_getElem → ycl, getElem?_eq_some_iff → yco, getD_eq_getD_getElem? → ycu, getElem?_setIfInBounds → ycz
open Bool renaming and_eq_true → yi, or_false → ycj
open Go renaming Program → yg, Value → yh, Oper → yj, World → yr
open Go.Proofs.Tryz renaming prog → yb
open Int renaming toNat_natCast → yat
open List renaming length_append → ym, range → yo, getElem?_eq_some_iff → yu, replicate → yx, length_take → yaa, getElem?_eq_getElem → yab, append_assoc → yac, length_map → yad, length_cons → yag, take_length → yaj, getElem?_cons_succ → yak, all_eq_true → yal, getElem?_cons_zero → yam, getElem?_append_right → yaq, map_append → yau, mem_cons_self → yav, mem_cons_of_mem → yaw, length_drop → yaz, mem_singleton → yba, take_append_drop → ybc, getElem?_append_left → ybe, append_nil → ybf, mem_of_getElem? → ybj, getElem_of_mem → ybk, mem_range → ybq, mem_cons → ybs, mem_map → ybw, mem_append → ycm, length_nil → ycn, getD_eq_getElem?_getD → ycx, length_singleton → ycy
open Nat renaming le_refl → yl, zero_add → yar, le_trans → ybt
open Option renaming bind_some → ya, bind_eq_some_iff → yf
open Option.some renaming inj → ybl
open Prod.mk renaming injEq → yq
set_option linter.unusedVariables false
set_option linter.unusedSimpArgs false
section
set_option maxRecDepth 4000
namespace Go.Proofs.YtcbhhaigilifgaaGreat
open Go Go.Ev
theorem ZyX{r:Ze}(h:r.1.length<=2000000):VY yD r=ab (iy r):=by
 unfold VY iy;rw[OD (by omega) h,ya];have f:=tT r 32;rw[show(32:Int).toNat=32 from rfl,yW (by rw[yi];exact⟨yY f.1,rfl⟩)]
 generalize (VE r 32).1=l at f;rw[List.take_zero,List.nil_append,show dg=yx 32 0 from rfl,List.drop_replicate,yar]
theorem ZyY{r:Ze}(h:r.1.length<=2000000):Vn yD r=ab (Qv r):=by
 unfold Vn Qv;have g:=Qu r;rw[Vu h,ya];by_cases f:(WH r).2.2=ae
 .rw[yW f,yW f]
 .rw[yX f,yX f,OD g.1 (by omega),ya]
theorem zw{α:Type}{f:α->yL yB}{l:yL α}{e:α}:bj f (l++[e])=bj f l++f e:=by
 unfold bj
 rw[yau,List.flatten_append];simp
def fq(r r':Ze)(f:yL yB):Prop:=r'.2=af->r.2=af/\r.1=f++r'.1
theorem fq.refl(r:Ze):fq r r []:=λh=>⟨h,rfl⟩
theorem fq.trans{a b c:Ze}{x y:yL yB}(h:fq a b x)(k:fq b c y):fq a c (x++y):=λq=>by
 obtain⟨f,g⟩:=k q;obtain⟨j,l⟩:=h f;exact⟨j,by rw[l,g,yac]⟩
theorem ua(r:Ze):fq r (WH r).2 (Yi (WH r).1.toNat):=λh=>ZyW h
theorem ZGy(r:Ze):fq r (iy r).2 (iy r).1:=λh=>ZDB h
theorem OG(r:Ze):fq r (jp r).2 (fv (jp r).1.toNat):=λh=>ZGx h
theorem ZDC(r:Ze):fq r (Qv r).2 (Yi (Qv r).1.length++(Qv r).1):=λh=>by
 obtain⟨f,g⟩:=ZAF h;exact⟨f,by rw[yac];exact g⟩
def gH(m:Int)(r:Ze):Int×Ze:=(if(WH r).1 > m then-1 else(WH r).1,(WH r).2)
theorem qd{m:Int}{r:Ze}(h:r.1.length<=2000000):pU yD m r=ab (gH m r):=by
 unfold pU gH;rw[Vu h,ya];by_cases f:(WH r).1 > m
 .rw[yW (yY f),yW f]
 .rw[yX (by rw[yN];exact f),yX f]
theorem OH{m:Int}(f:0<=m)(r:Ze):(gH m r).1<=m/\ -1<=(gH m r).1/\(gH m r).2.1.length<=r.1.length:=by
 have h:=Qu r;unfold gH;dsimp only;split <;> omega
theorem OI{m z:Int}(f:0<=z)(h1:z<=m)(hm:m<=1000)(yK:yL yB):gH m (Yi z.toNat++yK,af)=(z,(yK,af)):=by
 unfold gH;rw[kQ f (by omega),yX (by omega)]
theorem OJ{m:Int}(r:Ze)(h:0<=(gH m r).1):fq r (gH m r).2 (Yi (gH m r).1.toNat):=by
 unfold gH at h ⊢;by_cases c:(WH r).1 > m
 .rw[yW c]at h;omega
 .rw[yX c];exact ua r
theorem ZK0{b:yL yB}(h:(mU b).2=ae):Wq (mU b).1/\gQ (mU b).1/\gp (mU b).1=b:=by
 unfold mU at h ⊢;split
 .rename_i q;exact q.choose_spec
 .rename_i q;rw[dif_neg q]at h;cases h
theorem ZK1{n0 n nt:Int}{T:Tx}{r:Ze}(hn:n<=64)(j:r.1.length<=2000000):
 ∃v ins r',Zc (Wz yD) yD (n0,n,(0:Int),T,nt,([]:yL Out),([]:yL Unit),([]:yL In),([]:yL In),r)=ab (n0,T,nt,([]:yL Out),v,([]:yL In),ins,r')/\r'.1.length<=2000000/\ins.length=n.toNat/\(∀x,x∈ins->x.1.1.length=32)/\fq r r' (bj eS ins):=by
 obtain⟨x,f,v,ins,r',rfl,g⟩:=Xz (step:=Wz yD) n.toNat (λk s=>∃v ins r',s=(n0,n,(k:Int),T,nt,([]:yL Out),v,([]:yL In),ins,r')/\r'.1.length<=2000000/\ins.length=k/\(∀x,x∈ins->x.1.1.length=32)/\fq r r' (bj eS ins))
  (λx=>∃v ins r',x=(n0,T,nt,([]:yL Out),v,([]:yL In),ins,r')/\r'.1.length<=2000000/\ins.length=n.toNat/\(∀x,x∈ins->x.1.1.length=32)/\fq r r' (bj eS ins)) (i:=(n0,n,(0:Int),T,nt,([]:yL Out),([]:yL Unit),([]:yL In),([]:yL In),r)) ⟨[],[],r,rfl,j,rfl,(λx hx=>by cases hx),fq.refl r⟩ (by omega) (by
  rintro k _ z ⟨v,ins,r',rfl,f,g,h,l⟩;left;have m:=ZDw r';have y:=Qu (iy r').2;unfold Wz;dsimp only;rw[yW (yY (by omega)),ZyX f,ya,Vu (by omega),ya,yW (ZS (by simp;omega) (by simp;omega)),Zq (by omega)];refine⟨_,rfl,_,_,_,rfl,by omega,by simp[g],λx hx=> ?_, ?_⟩
  .rcases ycm.1 hx with hx|hx
   .exact h x hx
   .rw[yba.1 hx];exact m.1
  .rw[zw];exact l.trans ((ZGy r').trans (ua _))) (by
  rintro _ ⟨v,ins,r',rfl,f,g,h⟩;unfold Wz;dsimp only;rw[yX (dn (by omega))];exact⟨_,rfl,_,_,_,rfl,f,g,h⟩)
 exact⟨v,ins,r',f,g⟩
theorem ZIH{n0 m0 m nt:Int}{T:Tx}{v:yL Unit}{ins:yL In}{r:Ze}(hm:m<=64)(j:r.1.length<=2000000):
 ∃x,Zc (WA yD) yD (n0,m0,m,(0:Int),T,nt,([]:yL Out),v,([]:yL In),ins,r)=ab x/\
  ((∃y,x=.inl (af,(([]:yL In),([]:yL Out),(0:Int)),y))\/∃outs r',x=.inr (n0,m0,T,nt,outs,v,([]:yL In),ins,r')/\r'.1.length<=2000000/\outs.length=m.toNat/\(∀o,o∈outs->Wq o.2)/\fq r r' (bj fH outs)):=by
 refine Xz (step:=WA yD) m.toNat (λk s=>∃outs r',s=(n0,m0,m,(k:Int),T,nt,outs,v,([]:yL In),ins,r')/\r'.1.length<=2000000/\outs.length=k/\(∀o,o∈outs->Wq o.2)/\fq r r' (bj fH outs)) _ ⟨[],r,rfl,j,rfl,(λx l=>by cases l),fq.refl r⟩ (by omega) ?_ ?_
 .rintro k _ M ⟨outs,r',rfl,f,g,h,z⟩;have Q:=Qu r';have A:=ZAE (WH r').2;have E:=ZIG (b:=(Qv (WH r').2).1) (by omega);unfold WA;dsimp only;rw[yW (yY (by omega)),Vu f,ya,ZyY (by omega),ya,E,ya]
  cases F:(mU (Qv (WH r').2).1).2 with
  |false=>right;exact⟨_,rfl,.inl ⟨_,rfl⟩⟩
  |true=>
   left;obtain⟨G,R,I⟩:=ZK0 F;rw[yX (by simp),yW (ZS (by omega) (by omega)),Zq (by omega)];refine⟨_,rfl,_,_,rfl,by omega,by simp[g],λo ho=> ?_, ?_⟩
   .rcases ycm.1 ho with ho|ho
    .exact h o ho
    .rw[yba.1 ho];exact G
   .rw[zw];refine z.trans ?_;unfold fH;dsimp only;rw[I];exact(ua r').trans (ZDC _)
 .rintro _ ⟨outs,r',rfl,f,g,h⟩;unfold WA;dsimp only;rw[yX (dn (by omega))];exact⟨_,rfl,.inr ⟨_,_,rfl,f,g,h⟩⟩
theorem ZII{n0 m0 i0 len i s nt:Int}{T:Tx}{outs:yL Out}{v:yL Unit}{pre post:yL In}{fr:ZL}{br:Int}{sec:yU}{r:Ze}(hs:s<=12)(hi:i0.toNat=pre.length)(m:r.1.length<=2000000):
 ∃r' w,Zc (WB yD) yD (n0,m0,i0,len,i,s,(0:Int),T,nt,outs,v,pre,post,fr,br,sec,r,([]:yL gn))=ab (n0,m0,(i0.toNat:Int),len,i,T,nt,outs,v,pre,post,fr,br,sec,r',w)/\r'.1.length<=2000000/\w.length=s.toNat/\fq r r' (bj fX w):=by
 obtain⟨x,f,r',w,rfl,g⟩:=Xz (step:=WB yD) s.toNat (λk t=>∃h r' w,t=(n0,m0,h,len,i,s,(k:Int),T,nt,outs,v,pre,post,fr,br,sec,r',w)/\h.toNat=pre.length/\r'.1.length<=2000000/\w.length=k/\fq r r' (bj fX w))
  (λx=>∃r' w,x=(n0,m0,(i0.toNat:Int),len,i,T,nt,outs,v,pre,post,fr,br,sec,r',w)/\r'.1.length<=2000000/\w.length=s.toNat/\fq r r' (bj fX w)) (i:=(n0,m0,i0,len,i,s,(0:Int),T,nt,outs,v,pre,post,fr,br,sec,r,([]:yL gn))) ⟨i0,r,[],rfl,hi,m,rfl,fq.refl r⟩ (by omega) (by
  rintro k _ z ⟨h,r',w,rfl,j,f,g,l⟩;left;have A:=tU r';have y:=tU (jp r').2;unfold WB;dsimp only;rw[yW (yY (by omega)),yW (yY j),kP f,ya,kP (by omega),ya,yW (ZS (by omega) (by omega)),Zq (by omega),j,yW (yY rfl)];refine⟨_,rfl,((pre.length:Nat):Int),_,_,rfl,by omega,by omega,by simp[g], ?_⟩;rw[zw];exact l.trans ((OG r').trans (OG _))) (by
  rintro _ ⟨h,r',w,rfl,j,f,g,l⟩;unfold WB;dsimp only;rw[yX (dn (by omega)),j,hi];exact⟨_,rfl,_,_,rfl,f,g,l⟩)
 exact⟨r',w,f,g⟩
theorem ZIJ{n0 m0 nt:Int}{T:Tx}{outs:yL Out}{v:yL Unit}{ins:yL In}{r:Ze}(hn:ins.length<=64)(E:r.1.length<=2000000):
 ∃x,Zc (WC yD) yD (n0,m0,((ins.length:Nat):Int),(0:Int),T,nt,outs,v,([]:yL In),ins,r)=ab x/\
  ((∃y,x=.inl (af,(([]:yL In),([]:yL Out),(0:Int)),y))\/∃pre r',x=.inr (n0,m0,T,nt,outs,v,pre,([]:yL In),r')/\r'.1.length<=2000000/\pre.map (λx=>x.1)=ins.map (λx=>x.1)/\fq r r' (bj fK pre)):=by
 refine Xz (step:=WC yD) ins.length (λk s=>∃pre f r',s=(n0,m0,((ins.length:Nat):Int),(k:Int),T,nt,outs,v,pre,f,r')/\r'.1.length<=2000000/\pre.length=k/\pre.length+f.length=ins.length/\(pre++f).map (λx=>x.1)=ins.map (λx=>x.1)/\fq r r' (bj fK pre)) _
  ⟨[],ins,r,rfl,E,rfl,by simp,rfl,fq.refl r⟩ (by omega) ?_ ?_
 .rintro k _ F ⟨pre,f,r',rfl,j,z,g,h,l⟩
  cases f with
  |nil=>rw[ycn]at g;omega
  |cons e f=>
   rw[yag]at g;have S:=Qu r';have G:=OH (m:=12) (by omega) (WH r').2;unfold WC;dsimp only[wr];rw[yW (Zx F),yW (yY (by omega)),yW (XY (by omega) (by omega)),Vu j,ya,yW (yY (by omega)),qd (by omega),ya];by_cases hs:(gH 12 (WH r').2).1 < 0
   .right;rw[yW (yY hs)];exact⟨_,rfl,.inl ⟨_,rfl⟩⟩
   left;obtain⟨A,w,I,M,Q,e4⟩:=ZII (n0:=n0) (m0:=m0) (i0:=(((k:Int).toNat:Nat):Int)) (len:=((ins.length:Nat):Int)) (i:=(k:Int)) (s:=(gH 12 (WH r').2).1) (nt:=nt) (T:=T) (outs:=outs) (v:=v) (pre:=pre) (post:=f) (fr:=e.1) (br:=(WH r').1) (sec:=e.2.2.2) (r:=(gH 12 (WH r').2).2) (by omega) (by omega) (by omega);have R:=tU A;rw[yX (by rw[yN];exact hs),I,ya];dsimp only;rw[kP M,ya,yW (yY (by omega)),Zq (by omega)];refine⟨_,rfl,_,_,_,rfl,by omega,by simp[z],by simp;omega, ?_, ?_⟩
   .rw[<-h];simp
   .rw[zw];refine l.trans ?_;unfold fK;dsimp only;rw[Q];exact(ua r').trans ((OJ _ (by omega)).trans (e4.trans (OG A)))
 .rintro _ ⟨pre,f,r',rfl,j,z,g,h,l⟩
  cases f with
  |cons e f=>rw[yag]at g;omega
  |nil=>
   unfold WC;dsimp only;rw[yX (by rw[ZB];decide)];rw[ybf]at h;exact⟨_,rfl,.inr ⟨_,_,rfl,j,h,l⟩⟩
def ub(t:Tx):Prop:=QL yD t=ab ae/\pZ t/\mR t
theorem ZAG{b:yL yB}(hb:b.length<=2000000):∃t ok,ov yD b=ab (t,ok)/\(ok=ae->ub t/\kN t=b)/\(ok=af->t=([],[],0)):=by
 unfold ov;have G:=OH (m:=64) (by omega) (b,af);dsimp only at G;rw[zu hb,ya,qd (by dsimp only;omega),ya];have I:=OJ (m:=64) (b,af);generalize gH 64 (b,af)=q at G I;obtain⟨n,r0⟩:=q;dsimp only at G I ⊢;obtain⟨v,f,M,h1,h2,h3,h4,h5⟩:=ZK1 (n0:=n) (n:=n) (nt:=0) (T:=(([]:yL In),([]:yL Out),(0:Int))) (r:=r0) (by omega) (by omega);have E:=OH (m:=64) (by omega) M;rw[h1,ya];dsimp only;rw[qd h2,ya];have Q:=OJ (m:=64) M;generalize gH 64 M=q at E Q;obtain⟨m,r2⟩:=q;dsimp only at E Q ⊢;obtain⟨x,q1,R⟩:=ZIH (n0:=n) (m0:=m) (m:=m) (nt:=0) (T:=(([]:yL In),([]:yL Out),(0:Int))) (v:=v) (ins:=f) (r:=r2) (by omega) (by omega);rw[q1,ya];rcases R with⟨y,rfl⟩|⟨outs,S,rfl,R,q3,q4,q5⟩
 .exact⟨_,_,rfl,λh=>(by cases h),λ_=>rfl⟩
 dsimp only;have j:=Qu S;have l:=ua S;rw[Vu R,ya,ycn,yar];generalize WH S=q at j l;obtain⟨g,r4⟩:=q;dsimp only at j l ⊢;obtain⟨z,p1,p2⟩:=ZIJ (n0:=n) (m0:=m) (nt:=g) (T:=(([]:yL In),([]:yL Out),(0:Int))) (outs:=outs) (v:=v) (ins:=f) (r:=r4) (by omega) (by omega);rw[p1,ya];rcases p2 with⟨y,rfl⟩|⟨A,U,rfl,p2,W,p4⟩
 .exact⟨_,_,rfl,λh=>(by cases h),λ_=>rfl⟩
 dsimp only;rw[yW (by rfl)];unfold xG VZ
 have X:A.length=f.length:=by
  have:=congrArg List.length W
  rwa [yad,yad]at this
 have Y:∀o,o∈outs->eB o.2:=λo ho=>by
  obtain⟨g1,F,g3⟩:=q4 o ho;exact⟨by omega,λb hb=>by have:=(g3 b hb).1;omega⟩
 obtain⟨k,hk,_,Z⟩:=OB (t:=(A,outs,g)) ⟨by dsimp only;omega,by dsimp only;omega,Y⟩;rw[ya,ya,hk,ya];by_cases c1:n < 0
 .rw[yW (yY c1)];exact⟨_,_,rfl,λh=>(by cases h),λ_=>rfl⟩
 rw[yX (by rw[yN];exact c1)];by_cases c2:m < 0
 .rw[yW (yY c2)];exact⟨_,_,rfl,λh=>(by cases h),λ_=>rfl⟩
 rw[yX (by rw[yN];exact c2)]
 cases c3:U.2 with
 |true=>
  rw[yW (by rfl)]
  exact⟨_,_,rfl,λh=>(by cases h),λ_=>rfl⟩
 |false=>
  rw[yX (by simp)];by_cases c4:(U.1.length:Int) > 0
  .rw[yW (yY c4)];exact⟨_,_,rfl,λh=>(by cases h),λ_=>rfl⟩
  rw[yX (by rw[yN];exact c4)]
  cases k with
  |false=>
   rw[yW (by decide)]
   exact⟨_,_,rfl,λh=>(by cases h),λ_=>rfl⟩
  |true=>
   rw[yX (by decide)];refine⟨_,_,rfl,λ_=>⟨⟨hk,Z rfl,⟨λx hx=> ?_,j.2.1⟩⟩, ?_⟩,λh=>by cases h⟩
   .have hx':x.1∈f.map (λx=>x.1):=by
     rw[<-W];exact ybw.2 ⟨x,hx,rfl⟩
    obtain⟨y,hy,hyx⟩:=ybw.1 hx';rw[<-hyx];exact h4 y hy
   .obtain⟨g1,F⟩:=((I (by omega)).trans (h5.trans ((Q (by omega)).trans (q5.trans (l.trans p4))))) c3;have h0:U.1=[]:=List.eq_nil_of_length_eq_zero (by omega);rw[h0,ybf]at F;dsimp only at F
    have e:∀a:yL In,bj eS a=((a.map λx=>x.1).map λp:ZL=>p.1++Yi p.2.toNat).flatten:=λa=>by
     unfold bj
     rw[List.map_map];rfl
    rw[F];unfold kN iO;dsimp only;rw[e A,e f,W,X,h3,q3];simp only[yac]
def zx(x:In):In:=(x.1,(0,[],0))
theorem ZGz{n0 nt:Int}{T:Tx}{ins:yL In}{yK:yL yB}(hn:ins.length<=64)(j:∀x,x∈ins->x.1.1.length=32)(g:∀x,x∈ins->tJ x)(F:yK.length<=100000):
 Zc (Wz yD) yD (n0,(ins.length:Int),(0:Int),T,nt,([]:yL Out),([]:yL Unit),([]:yL In),([]:yL In),(bj eS ins++yK,af))=ab (n0,T,nt,([]:yL Out),yx ins.length (),([]:yL In),ins.map zx,(yK,af)):=by
 refine ZD ins.length (λk:Nat=>(n0,(ins.length:Int),(k:Int),T,nt,([]:yL Out),yx k (),([]:yL In),(ins.take k).map zx,(bj eS (ins.drop k)++yK,af))) ?_ ?_ (by omega)
 .intro k y;obtain⟨e,z,A⟩:=Zj y;have G:=Xh (f:=eS) (c:=41) (λx h=>ze (j x h) (g x h)) hn k;have l:=Xh (f:=eS) (c:=41) (λx h=>ze (j x h) (g x h)) hn (k+1);obtain⟨E,I,_⟩:=g e A;have M:=ZA (n:=e.1.2.toNat) (by omega);have m:=j e A;unfold Wz;dsimp only;rw[yW (Zx y),ZyX (by simp only[ym];omega),ya,tZ z];unfold eS at l ⊢;rw[yac,yac,ZGq m];dsimp only;rw[Vu (by simp only[ym];omega),ya,kQ E (by omega),yW (ZS (by simp;omega) (by simp;omega)),Zq (by omega),Wm z,yau];rfl
 .unfold Wz;dsimp only;rw[yX (by rw[ZB];decide),List.drop_length,yaj];rfl
theorem ZDD{n0 m0 nt:Int}{T:Tx}{v:yL Unit}{ins:yL In}{outs:yL Out}{yK:yL yB}(hn:outs.length<=64)(g:∀x,x∈outs->NI x)(G:yK.length<=100000):
 Zc (WA yD) yD (n0,m0,(outs.length:Int),(0:Int),T,nt,([]:yL Out),v,([]:yL In),ins,(bj fH outs++yK,af))=ab (.inr (n0,m0,T,nt,outs,v,([]:yL In),ins,(yK,af))):=by
 refine ZD outs.length (λk:Nat=>(n0,m0,(outs.length:Int),(k:Int),T,nt,outs.take k,v,([]:yL In),ins,(bj fH (outs.drop k)++yK,af))) ?_ ?_ (by omega)
 .intro k l;obtain⟨e,m,z⟩:=Zj l;have I:=Xh (f:=fH) (c:=551) (λx h=>zf (g x h)) hn k;have j:=Xh (f:=fH) (c:=551) (λx h=>zf (g x h)) hn (k+1);obtain⟨A,M,y,E⟩:=g e z;have F:=qa y;have Q:=ZA (n:=e.1.toNat) (by omega);have R:=ZA (n:=(gp e.2).length) (by omega);unfold WA;dsimp only;rw[yW (Zx l),Vu (by simp only[ym];omega),ya,tZ m];unfold fH at j ⊢;simp only[yac];rw[kQ A (by omega)];dsimp only;rw[ZyY (by simp only[ym];omega),ya,ZDy (by omega)];dsimp only;rw[Zuv y E,ya];dsimp only;rw[yX (by decide),yW (ZS (by rw[yaa];omega) (by rw[yaa];omega)),Zq (by omega),Wm m]
 .unfold WA;dsimp only;rw[yX (by rw[ZB];decide),List.drop_length,yaj];rfl
theorem ZDE{n0 m0 len i nt:Int}{T:Tx}{outs:yL Out}{v:yL Unit}{pre post:yL In}{fr:ZL}{br:Int}{sec:yU}{l:yL gn}{yK:yL yB}(hs:l.length<=12)(y:yK.length<=100000):
 Zc (WB yD) yD (n0,m0,((pre.length:Nat):Int),len,i,(l.length:Int),(0:Int),T,nt,outs,v,pre,post,fr,br,sec,(bj fX l++yK,af),([]:yL gn))=ab (n0,m0,((pre.length:Nat):Int),len,i,T,nt,outs,v,pre,post,fr,br,sec,(yK,af),l):=by
 refine ZD l.length (λk:Nat=>(n0,m0,((pre.length:Nat):Int),len,i,(l.length:Int),(k:Int),T,nt,outs,v,pre,post,fr,br,sec,(bj fX (l.drop k)++yK,af),l.take k)) ?_ ?_ (by omega)
 .intro k j;obtain⟨e,m,z⟩:=Zj j;have g:∀x,x∈l->(fX x).length<=16:=λx _=>by unfold fX;rw[ym,YE,YE];exact yl _
  have A:=Xh (f:=fX) (c:=16) g hs k;have h:=Xh (f:=fX) (c:=16) g hs (k+1);have E:=YE e.2.toNat
  unfold WB;dsimp only;rw[yW (Zx j),yW (yY (yat _)),kP (by simp only[ym];omega),ya,tZ m];unfold fX at h ⊢;rw[yac,yac,tV];dsimp only;rw[kP (by simp only[ym];omega),ya,tV,yW (ZS (by rw[yaa];omega) (by rw[yaa];omega)),yW (yY (yat _)),Zq (by omega),Wm m,yat]
 .unfold WB;dsimp only;rw[yX (by rw[ZB];decide),List.drop_length,yaj,yat];rfl
theorem ZDF{n0 m0 nt:Int}{T:Tx}{outs:yL Out}{v:yL Unit}{ins:yL In}(hn:ins.length<=64)(g:∀x,x∈ins->tJ x):
 Zc (WC yD) yD (n0,m0,((ins.length:Nat):Int),(0:Int),T,nt,outs,v,([]:yL In),ins.map zx,(bj fK ins,af))=ab (.inr (n0,m0,T,nt,outs,v,ins,([]:yL In),([],af))):=by
 refine ZD ins.length (λk:Nat=>(n0,m0,((ins.length:Nat):Int),(k:Int),T,nt,outs,v,ins.take k,(ins.drop k).map zx,(bj fK (ins.drop k),af))) ?_ ?_ (by omega)
 .intro k A;obtain⟨e,h,F⟩:=Zj A;have Q:=Xh (f:=fK) (c:=218) (λx j=>zg (g x j)) hn k;have l:=Xh (f:=fK) (c:=218) (λx j=>zg (g x j)) hn (k+1);obtain⟨_,_,G,R,E⟩:=g e F;have hs:=W4 (f:=fX) (c:=16) (λs _=>by unfold fX;rw[ym,YE,YE];exact yl _) E e.2.2.1.length;rw[yaj]at hs;have S:=ZA (n:=e.2.1.toNat) (by omega);have U:=ZA (n:=e.2.2.1.length) (by omega);have W:=YE e.2.2.2.toNat
  have I:(ins.take k).length=k:=by rw[yaa];omega
  unfold WC;dsimp only;rw[yW (Zx A),yW (yY (by omega)),tY h,List.map_cons];dsimp only[wr];rw[yW (XY (by omega) (by rw[yad,yaz,I];omega)),Vu (by rw[<-tY h];dsimp only;omega),ya,yW (yY (by omega)),NJ];unfold fK at l ⊢;simp only[yac];rw[kQ G (by omega)];dsimp only;rw[qd (by simp only[ym];omega),ya];have y:=OI (m:=12) (z:=(e.2.2.1.length:Int)) (by omega) (by omega) (by omega) (bj fX e.2.2.1++(fv e.2.2.2.toNat++bj fK (ins.drop (k+1))));rw[yat]at y;unfold fK at y;rw[y];dsimp only;rw[yX (dn (by omega))];have M:(((k:Int).toNat:Nat):Int)=(((ins.take k).length:Nat):Int):=by omega
  rw[M,ZDE E (by simp only[ym];omega),ya];dsimp only;rw[kP (by simp only[ym];omega),ya,tV,yW (yY (by omega)),Zq (by omega),Wm h];rfl
 .unfold WC;dsimp only;rw[yX (by rw[ZB];decide),List.drop_length,yaj];rfl
theorem ZIK{t:Tx}(g:mR t)(h:pZ t):(kN t).length<=60000:=by
 have m:=(NN g h).2;have j:=W4 (f:=fK) (c:=218) (λx l=>zg (h.2.2.2.2.1 x l)) h.2.1 t.1.length;rw[yaj]at j;unfold kN;rw[ym];omega
theorem ZIL{t:Tx}(S:ub t):ov yD (kN t)=ab (t,ae):=by
 obtain⟨T,h,y⟩:=S;have A:=ZIK y h;obtain⟨f,outs,g⟩:=t;obtain⟨E,F⟩:=y;obtain⟨U,j,G,I,l,M⟩:=h;dsimp only at E F U j G I l M;unfold ov;rw[zu (by omega),ya,qd (by dsimp only;omega),ya];unfold kN iO at A ⊢;simp only[yac,ym]at A ⊢;have Q:=OI (m:=64) (z:=(f.length:Int)) (by omega) (by omega) (by omega) (bj eS f++(Yi outs.length++(bj fH outs++(Yi g.toNat++bj fK f))));rw[yat]at Q;rw[Q];dsimp only;rw[ZGz j E l (by simp only[ym];omega),ya];dsimp only;have R:=OI (m:=64) (z:=(outs.length:Int)) (by omega) (by omega) (by omega) (bj fH outs++(Yi g.toNat++bj fK f));rw[yat]at R;rw[qd (by simp only[ym];omega),ya,R];dsimp only;rw[ZDD G M (by simp only[ym];omega),ya];dsimp only;rw[Vu (by simp only[ym];omega),ya,kQ I F,ycn,yar,yad];dsimp only;rw[ZDF j l,ya];dsimp only;rw[yW List.isEmpty_nil,yX (dn (by omega)),yX (dn (by omega))];unfold xG VZ;rw[ya,yX (by decide),ya,yX (by decide),T,ya,yX (by decide)]
open Classical in
theorem zy{I X:Type}{step:I->yO (I⊕X)}{a:I}{x:X}(h1:step a=ab (.inr x)):Zc step yD a=ab x:=by
 rw[jQ,show(18446744073709551616:Nat)=18446744073709551613+1+1+1 from rfl,Zc,h1]
 rfl
theorem zz{I X:Type}{step:I->yO (I⊕X)}{a b:I}{x:X}(h1:step a=ab (.inl b))(h2:step b=ab (.inr x)):Zc step yD a=ab x:=by
 rw[jQ,show(18446744073709551616:Nat)=18446744073709551613+1+1+1 from rfl,Zc,h1,ya]
 dsimp only;rw[Zc,h2];rfl
theorem qe{I X:Type}{step:I->yO (I⊕X)}{a b c:I}{x:X}(h1:step a=ab (.inl b))(h2:step b=ab (.inl c))(h3:step c=ab (.inr x)):Zc step yD a=ab x:=by
 rw[jQ,show(18446744073709551616:Nat)=18446744073709551613+1+1+1 from rfl,Zc,h1,ya]
 dsimp only;rw[Zc,h2,ya];dsimp only;rw[Zc,h3];rfl
def iP(z:Int)(l:yL Y6):Int:=l.foldl (λa c=>wi (a+c.2)) z
def iQ(z:Int)(l:yL Out):Int:=l.foldl (λa c=>wi (a - c.1)) z
theorem ZGA{z:Int}{l:yL Y6}{k:Nat}{c:Y6}(h:l[k]? =ab c):iP z (l.take (k+1))=wi (iP z (l.take k)+c.2):=by
 rw[Wm h,iP,List.foldl_append];rfl
theorem ZGB{z:Int}{l:yL Out}{k:Nat}{c:Out}(h:l[k]? =ab c):iQ z (l.take (k+1))=wi (iQ z (l.take k) - c.1):=by
 rw[Wm h,iQ,List.foldl_append];rfl
def fZ(l:yL Y6):Int:=(l.map λc=>c.2).sum
def iR(l:yL Out):Int:=(l.map λc=>c.1).sum
theorem ZB3:∀(l:yL Y6)(z:Int),(∀c,c∈l->1<=c.2/\c.2<=1099511627776)->l.length<=8-> -9007199254740992<=z->z+l.length*1099511627776<=9007199254740992->iP z l=z+fZ l/\0<=fZ l/\fZ l<=l.length*1099511627776
 |[],z,_,_,_,_=>by simp[iP,fZ]
 |c::l,z,h,f,y,g=>by
  have A:=h c yav;have j:l.length+1<=8:=f;rw[yag]at g;have e:iP z (c::l)=iP (wi (z+c.2)) l:=rfl;have w:wi (z+c.2)=z+c.2:=ZE (by omega) (by omega);obtain⟨E,F,G⟩:=ZB3 l (z+c.2) (λx m=>h x (yaw _ m)) (by omega) (by omega) (by omega);have s:fZ (c::l)=c.2+fZ l:=by simp[fZ]
  grind
theorem ZB4:∀(l:yL Out)(z:Int),(∀c,c∈l->0<=c.1/\c.1<=1099511627776)->l.length<=8->z<=9007199254740992-> -9007199254740992<=z - l.length*1099511627776->iQ z l=z - iR l/\0<=iR l/\iR l<=l.length*1099511627776
 |[],z,_,_,_,_=>by simp[iQ,iR]
 |c::l,z,h,f,y,g=>by
  have A:=h c yav;have j:l.length+1<=8:=f;rw[yag]at g;have e:iQ z (c::l)=iQ (wi (z - c.1)) l:=rfl;have w:wi (z - c.1)=z - c.1:=ZE (by omega) (by omega);obtain⟨E,F,G⟩:=ZB4 l (z - c.1) (λx m=>h x (yaw _ m)) (by omega) (by omega) (by omega);have s:iR (c::l)=c.1+iR l:=by simp[iR]
  grind
def gI(c:Y6):Prop:=1<=c.2/\c.2<=1099511627776
def eU(o:Out):Prop:=(0<=o.1/\o.1<=1099511627776)/\Wq o.2/\gQ o.2
structure aP(x:ai):Prop where
 n1:x.1.length<=8
 n2:x.2.1.length<=8
 dW:0<=x.2.2/\x.2.2<=1099511627776
 ins:bA x.1.length λk=>∀c,x.1[k]? =ab c->gI c
 outs:bA x.2.1.length λk=>∀c,x.2.1[k]? =ab c->eU c
theorem aP.uc{x:ai}(h:aP x):∀c,c∈x.1->1<=c.2/\c.2<=1099511627776:=λc g=>by
 obtain⟨j,f,l⟩:=ybk g;exact h.ins j f c (by rw[yab f,l])
theorem aP.ia{x:ai}(h:aP x):∀c,c∈x.2.1->eU c:=λc g=>by
 obtain⟨j,f,l⟩:=ybk g;exact h.outs j f c (by rw[yab f,l])
def bz(x:ai):Int:=fZ x.1 - x.2.2 - iR x.2.1
theorem OL{x:ai}(h:aP x):iP (wi (0 - x.2.2)) x.1=fZ x.1 - x.2.2/\iQ (fZ x.1 - x.2.2) x.2.1=bz x/\0<=fZ x.1/\fZ x.1<=8796093022208/\0<=iR x.2.1/\iR x.2.1<=8796093022208:=by
 have f:=h.dW;have g:=h.n1;have j:=h.n2;have w:wi (0 - x.2.2)=0 - x.2.2:=ZE (by omega) (by omega);obtain⟨l,m,E⟩:=ZB3 x.1 (0 - x.2.2) h.uc g (by omega) (by omega);obtain⟨y,z,F⟩:=ZB4 x.2.1 (fZ x.1 - x.2.2) (λc A=>(h.ia c A).1) j (by omega) (by omega);rw[w,l];refine⟨by omega, ?_,m,by omega,z,by omega⟩;rw[y];rfl
theorem zA{x:ai}(h:aP x): -9895604649984<=bz x/\bz x<=8796093022208:=by
 obtain⟨_,_,a,b,c,d⟩:=OL h;have f:=h.dW;unfold bz;omega
theorem ud(n f:Int):Xp yD n f=ab (ag (f<=n/\n<=1099511627776)):=lK _ _ rfl
theorem ue(n a b:Int):QU yD n a b=ab (ag (a<=n/\n<=b)):=lK _ _ rfl
open Classical in
theorem ZGC(x:ai)(hl:x.1.length<=8)(z:Int):Zc (Yx yD) yD (z,x.1,(x.1.length:Int),(0:Int),x)=
 ab (if bA x.1.length (λk=>∀c,x.1[k]? =ab c->gI c) then .inr (iP z x.1,x) else .inl (0,af,x)):=by
 refine mT x.1.length (λk:Nat=>(iP z (x.1.take k),x.1,(x.1.length:Int),(k:Int),x)) _ _ _ (λk g h=> ?_) (λk g h=> ?_) ?_ (by omega)
 .obtain⟨c,f,l⟩:=Zj g;unfold Yx;dsimp only;rw[yW (Zx g),Zp f,ya,ud,ya,yY (show 1<=c.2/\c.2<=1099511627776 from h c f),yX (by decide),Zq (by omega),ZGA f]
 .obtain⟨c,f,l⟩:=Zj g
  have m:¬(1<=c.2/\c.2<=1099511627776):=λq=>h λy j=>by
   rw[f]at j;cases j;exact q
  unfold Yx;dsimp only;rw[yW (Zx g),Zp f,ya,ud,ya,yZ m,yW (by decide)]
 .unfold Yx;grind
def Vv(x:ai):Prop:=∀o,o∈x.2.1->eB o.2
open Classical in
theorem ZDG(x:ai)(hl:x.2.1.length<=8)(y:Vv x)(z:Int):Zc (Yy yD) yD (z,x.2.1,(x.2.1.length:Int),(0:Int),x)=
 ab (if bA x.2.1.length (λk=>∀c,x.2.1[k]? =ab c->eU c) then .inr (iQ z x.2.1,x) else .inl (0,af,x)):=by
 refine mT x.2.1.length (λk:Nat=>(iQ z (x.2.1.take k),x.2.1,(x.2.1.length:Int),(k:Int),x)) _ _ _ (λk g h=> ?_) (λk g h=> ?_) ?_ (by omega)
 .obtain⟨c,f,j⟩:=Zj g;obtain⟨b,l,m⟩:=Qt (y c j);have A:=h c f;have E:b=ae:=m.2 A.2;subst E;unfold Yy;dsimp only;rw[yW (Zx g),Zp f,ya,ud,ya,yY A.1,yX (by decide),l,ya,yX (by decide),Zq (by omega),ZGB f]
 .obtain⟨c,f,j⟩:=Zj g;obtain⟨b,l,m⟩:=Qt (y c j);unfold Yy;dsimp only;rw[yW (Zx g),Zp f,ya,ud,ya];by_cases q:0<=c.1/\c.1<=1099511627776
  .rw[yY q,yX (by decide),l,ya]
   have E:b=af:=by
    cases b with
    |false=>rfl
    |true=>exact absurd (λG F=>by
      rw[f]at F;cases F;exact⟨q,m.1 rfl⟩) h
   grind
  grind
 .unfold Yy;grind
open Classical in
theorem Zuy{x:ai}(y:Vv x):XT yD x=ab (if aP x then(bz x,ae) else(0,af)):=by
 unfold XT;by_cases j:x.1.length<=8
 .rw[yX (dn (by omega))];by_cases l:x.2.1.length<=8
  .rw[yX (dn (by omega)),ud,ya];by_cases f:0<=x.2.2/\x.2.2<=1099511627776
   .rw[yY f,yX (by decide),ZGC x j,ya];by_cases g:bA x.1.length (λk=>∀c,x.1[k]? =ab c->gI c)
    .rw[yW g];dsimp only;rw[ZDG x l y,ya];by_cases h:bA x.2.1.length (λk=>∀c,x.2.1[k]? =ab c->eU c)
     .have m:aP x:=⟨j,l,f,g,h⟩;obtain⟨z,A,_⟩:=OL m;rw[yW h,yW m];dsimp only;rw[z,A]
     .rw[yX h,yX λq:aP x=>h q.outs]
    .rw[yX g,yX λq:aP x=>g q.ins]
   .rw[yZ f,yW (by decide),yX λq:aP x=>f q.dW]
  .rw[yW (yY (by omega)),yX λq:aP x=>l q.n2]
 .rw[yW (yY (by omega)),yX λq:aP x=>j q.n1]
open Classical in
theorem Zy0(x:ai)(hl:x.1.length<=8):Zc (XI yD) yD ((0:Int),x)=ab (if bA x.1.length (λk=>∀c,x.1[k]? =ab c->gI c) then .inr x else .inl (af,x)):=by
 refine mT x.1.length (λk:Nat=>((k:Int),x)) _ _ _ (λk f h=> ?_) (λk f h=> ?_) ?_ (by omega)
 .obtain⟨c,g,l⟩:=Zj f;unfold XI;dsimp only;rw[yW (Zx f),Zp g,ya,ue,ya,yY (show 1<=c.2/\c.2<=1099511627776 from h c g),yX (by decide),Zq (by omega)]
 .obtain⟨c,g,l⟩:=Zj f
  have m:¬(1<=c.2/\c.2<=1099511627776):=λq=>h λy j=>by
   rw[g]at j;cases j;exact q
  unfold XI;dsimp only;rw[yW (Zx f),Zp g,ya,ue,ya,yZ m,yW (by decide)]
 .unfold XI;grind
open Classical in
theorem Zwy(x:ai)(hl:x.2.1.length<=8)(y:Vv x):Zc (XJ yD) yD ((0:Int),x)=ab (if bA x.2.1.length (λk=>∀c,x.2.1[k]? =ab c->eU c) then .inr x else .inl (af,x)):=by
 refine mT x.2.1.length (λk:Nat=>((k:Int),x)) _ _ _ (λk f h=> ?_) (λk f h=> ?_) ?_ (by omega)
 .obtain⟨c,g,j⟩:=Zj f;obtain⟨b,l,m⟩:=tO (y c j);have z:=h c g;have A:b=ae:=m.2 z.2;subst A;unfold XJ;dsimp only;rw[yW (Zx f),Zp g,ya,ue,ya,yY z.1,yX (by decide),ya,l,ya,yX (by decide),Zq (by omega)]
 .obtain⟨c,g,j⟩:=Zj f;obtain⟨b,l,m⟩:=tO (y c j);unfold XJ;dsimp only;rw[yW (Zx f),Zp g,ya,ue,ya];by_cases q:0<=c.1/\c.1<=1099511627776
  .rw[yY q,yX (by decide),ya,l,ya]
   have A:b=af:=by
    cases b with
    |false=>rfl
    |true=>exact absurd (λF E=>by
      rw[g]at E;cases E;exact⟨q,m.1 rfl⟩) h
   grind
  grind
 .unfold XJ;grind
open Classical in
theorem ZGD{x:ai}(m:Vv x):V1 yD x=ab (ag (aP x)):=by
 unfold V1;by_cases j:x.1.length<=8
 .rw[yX (dn (by omega))];by_cases l:x.2.1.length<=8
  .rw[yX (dn (by omega)),ue,ya];by_cases f:0<=x.2.2/\x.2.2<=1099511627776
   .rw[yY f,yX (by decide),Zy0 x j,ya];by_cases g:bA x.1.length (λk=>∀c,x.1[k]? =ab c->gI c)
    .rw[yW g];dsimp only;rw[Zwy x l m,ya];by_cases h:bA x.2.1.length (λk=>∀c,x.2.1[k]? =ab c->eU c)
     .rw[yW h,yY (show aP x from⟨j,l,f,g,h⟩)]
     .rw[yX h,yZ λq:aP x=>h q.outs]
    .rw[yX g,yZ λq:aP x=>g q.ins]
   .rw[yZ f,yW (by decide),yZ λq:aP x=>f q.dW]
  .rw[yW (yY (by omega)),yZ λq:aP x=>l q.n2]
 .rw[yW (yY (by omega)),yZ λq:aP x=>j q.n1]
theorem Zsr{x:ai}(ok:aP x):WE yD x=ab (bz x):=by
 have m:=ok.n1;have y:=ok.n2;obtain⟨h,j,_⟩:=OL ok;unfold WE;rw[show((wi (0 - x.2.2),(0:Int),x):Int×Int×ai)=(λk:Nat=>(iP (wi (0 - x.2.2)) (x.1.take k),(k:Int),x)) 0 from rfl]
 rw[ZD (x:=(iP (wi (0 - x.2.2)) x.1,x)) x.1.length (λk:Nat=>(iP (wi (0 - x.2.2)) (x.1.take k),(k:Int),x)) ?_ ?_ (by omega),ya]
 .dsimp only;rw[h];rw[show((fZ x.1 - x.2.2,(0:Int),x):Int×Int×ai)=(λk:Nat=>(iQ (fZ x.1 - x.2.2) (x.2.1.take k),(k:Int),x)) 0 from rfl]
  rw[ZD (x:=(iQ (fZ x.1 - x.2.2) x.2.1,x)) x.2.1.length (λk:Nat=>(iQ (fZ x.1 - x.2.2) (x.2.1.take k),(k:Int),x)) ?_ ?_ (by omega),ya]
  .rw[j]
  .intro k f;obtain⟨c,g,l⟩:=Zj f;unfold W3;dsimp only;rw[yW (Zx f),Zp g,ya,Zq (by omega),ZGB g]
  .unfold W3;grind
 .intro k f;obtain⟨c,g,l⟩:=Zj f;unfold W2;dsimp only;rw[yW (Zx f),Zp g,ya,Zq (by omega),ZGA g]
 .unfold W2;grind
open Classical in
theorem ZAI{x y:ai}(f:Vv x)(g:Vv y):xE yD [x,y]=ab (if aP x/\aP y then([bz x,bz y],ae) else([0,0],af)):=by
 unfold xE;have st:∀(i:Int)(d:yL Int),YQ yD ([x,y],i,[x,y],d)=if(ag (i < 2))=ae then(idx [x,y] i).bind λa=>(XT yD a).bind λb=>if(bp i 2)=ae then(d[i.toNat]?).bind λc=>if(!b.2)=ae then ab (.inr (.inl (af,[x,y],[0,0]))) else ab (.inl ([x,y],wi (i+1),[x,y],d.set i.toNat b.1)) else ad else ab (.inr (.inr ([x,y],d))):=λi d=>rfl
 have s0:YQ yD ([x,y],0,[x,y],[0,0])=if aP x then ab (.inl ([x,y],1,[x,y],[bz x,0])) else ab (.inr (.inl (af,[x,y],[0,0]))):=by
  rw[st,yW (by decide),show idx [x,y] 0=ab x from rfl,ya,Zuy f,ya,yW (by decide)]
  by_cases h:aP x
  .rw[yW h,yW h];rfl
  .rw[yX h,yX h];rfl
 have s1:YQ yD ([x,y],1,[x,y],[bz x,0])=if aP y then ab (.inl ([x,y],2,[x,y],[bz x,bz y])) else ab (.inr (.inl (af,[x,y],[0,0]))):=by
  rw[st,yW (by decide),show idx [x,y] 1=ab y from rfl,ya,Zuy g,ya,yW (by decide)]
  by_cases h:aP y
  .rw[yW h,yW h];rfl
  .rw[yX h,yX h];rfl
 have j:YQ yD ([x,y],2,[x,y],[bz x,bz y])=ab (.inr (.inr ([x,y],[bz x,bz y]))):=by
  grind
 have l:Zc (YQ yD) yD ([x,y],0,[x,y],[0,0])=ab (if aP x/\aP y then .inr ([x,y],[bz x,bz y]) else .inl (af,[x,y],[0,0])):=by
  by_cases h:aP x
  .rw[yW h]at s0;by_cases k:aP y
   .rw[yW k]at s1;rw[yW ⟨h,k⟩,qe s0 s1 j]
   .rw[yX k]at s1;rw[yX λq=>k q.2,zz s0 s1]
  .rw[yX h]at s0;rw[yX λq=>h q.1,zy s0]
 rw[l,ya];by_cases h:aP x/\aP y
 .rw[yW h,yW h]
 .rw[yX h,yX h]
end Go.Proofs.YtcbhhaigilifgaaGreat
end
section
set_option maxRecDepth 4000
namespace Go.Proofs.YtcbhhaigilifgaaGreat
open Go Go.Ev
open Classical in
def uf(s:yG)(a b m n:Int):yG:=(s.1,[wi (a+m),wi (b+n)],s.2.2.1,s.2.2.2)
theorem ZGE{s:yG}{a b:Int}(hs:s.2.1=[a,b])(hl:s.2.2.1.length<=1000)(m n:Int):ZN yD s [m,n]=ab (uf s a b m n):=by
 unfold ZN sL;rw[hs];simp only[yam,yak,List.set_cons_zero,List.set_cons_succ,ya];rw[yW (ZS (by omega) (by omega)),ya];rfl
theorem ZDH{s:yG}{a b:Int}(hs:s.2.1=[a,b])(hl:s.2.2.1.length<=1000)(m n:Int):Q1 yD s [m,n]=ab (uf s a b m n):=by
 unfold Q1;rw[hs];simp only[yam,yak,List.set_cons_zero,List.set_cons_succ,ya];rw[yW (ZS (by omega) (by omega))];rfl
theorem ZAJ{ins:yL In}(i1:ins.length<=70)(F:∀x,x∈ins->x.2.2.1.length<=12){outs:yL Out}(h1:outs.length<=70)(ho:∀o,o∈outs->Wq o.2)(f:Int):NA yD (ins,outs,f)=ab (ins,outs,f):=by
 unfold NA;dsimp only;generalize I:(([]:yL In),([]:yL Out),(0:Int))=z
 have l:=ZD (step:=Xq yD) ins.length (λk:Nat=>((k:Int),(ins,outs,f),z,f,([]:yL Out),yx k (),ins.take k)) (x:=((ins,outs,f),z,f,([]:yL Out),yx ins.length (),ins)) (by
  intro k h;obtain⟨x,g,em⟩:=Zj h;have hs:=F x em;unfold Xq;dsimp only;rw[yW (Zx h),Zp g,ya,yW (ZS (by omega) (by omega)),yW (ZS (by rw[yaa];omega) (by rw[yaa];omega)),Zq (by omega),Wm g];rfl) (by
  unfold Xq;dsimp only;rw[yX (by rw[ZB];decide),yaj]) (by omega)
 have l:Zc (Xq yD) yD ((0:Int),(ins,outs,f),z,f,([]:yL Out),([]:yL Unit),([]:yL In))=_:=l;rw[l,ya];dsimp only;generalize yx ins.length ()=u
 have M:=ZD (step:=Wl yD) outs.length (λk:Nat=>((k:Int),(ins,outs,f),z,f,outs.take k,u,ins)) (x:=((ins,outs,f),z,f,outs,u,ins)) (by
  intro k h;obtain⟨o,g,em⟩:=Zj h;obtain⟨Q,R,G⟩:=ho o em;unfold Wl;dsimp only;rw[yW (Zx h),Zp g,ya]
  have m:=ZD (step:=Xr yD) o.2.length (λj:Nat=>((k:Int),(j:Int),(ins,outs,f),z,f,outs.take k,u,ins,o.1,o.2.take j)) (x:=((k:Int),(ins,outs,f),z,f,outs.take k,u,ins,o.1,o.2)) (by
   intro j A;obtain⟨b,E,y⟩:=Zj A;obtain⟨S,_⟩:=G b y;unfold Xr;dsimp only;rw[Zp g,ya,yW (Zx A),ya,Zp E,ya,yW (ZS (by omega) (by omega)),yW (ZS (by rw[yaa];omega) (by rw[yaa];omega)),Zq (by omega),Wm E]) (by
   unfold Xr;dsimp only;rw[Zp g,ya,yX (by rw[ZB];decide),yaj]) (by omega)
  have m:Zc (Xr yD) yD ((k:Int),(0:Int),(ins,outs,f),z,f,outs.take k,u,ins,o.1,([]:yL Z3))=_:=m;rw[m,ya];dsimp only;rw[yW (ZS (by rw[yaa];omega) (by rw[yaa];omega)),Zq (by omega),Wm g]) (by
  unfold Wl;dsimp only;rw[yX (by rw[ZB];decide),yaj]) (by omega)
 grind
end Go.Proofs.YtcbhhaigilifgaaGreat
end
section
set_option maxRecDepth 4000
namespace Go.Proofs.YtcbhhaigilifgaaGreat
open Go Go.Ev
theorem ZGF{t:Tx}(Q:mR t)(R:QL yD t=ab ae)(h:pZ t):pV yD t=ab (kN t):=by
 obtain⟨S,T⟩:=NN Q h;unfold pV;rw[R,ya,yX (by decide),S,ya];unfold kN;generalize iO t=m at T;obtain⟨g,outs,l⟩:=t;obtain⟨h1,z,h3,h4,y,h6⟩:=h;dsimp only at z y ⊢;have U:=λk=>W4 (f:=fK) (c:=218) (λx W=>zg (y x W)) z k
 rw[show(m,g,(g.length:Int),(0:Int),(g,outs,l))=(λk:Nat=>(m++bj fK (g.take k),g,(g.length:Int),(k:Int),(g,outs,l))) 0 by simp[bj],
  ZD (x:=(m++bj fK g,(g,outs,l))) g.length (λk:Nat=>(m++bj fK (g.take k),g,(g.length:Int),(k:Int),(g,outs,l))) ?_ ?_ (by omega),ya]
 .intro k A;obtain⟨e,E,X⟩:=Zj A;have Y:=U k;obtain⟨_,_,Z,k2,F⟩:=y e X;have r1:=ZA (n:=e.2.1.toNat) (by omega);have r2:=ZA (n:=e.2.2.1.length) (by omega);unfold xI;dsimp only;rw[yW (Zx A),Zp E,ya,jZ Z (by omega) (by rw[ym];omega),ya,jZ (by omega) (by omega) (by simp only[ym];omega),ya,yat];generalize G:m++bj fK (g.take k)++Yi e.2.1.toNat++Yi e.2.2.1.length=q;have hql:q.length<=60000:=by rw[<-G];simp only[ym];omega
  rw[show(q,g,(g.length:Int),(k:Int),e.2.2.1,(e.2.2.1.length:Int),(0:Int),(g,outs,l),e)=(λj:Nat=>(q++bj fX (e.2.2.1.take j),g,(g.length:Int),(k:Int),e.2.2.1,(e.2.2.1.length:Int),(j:Int),(g,outs,l),e)) 0 by simp[bj],
   ZD (x:=(q++bj fX e.2.2.1,g,(g.length:Int),(k:Int),(g,outs,l),e)) e.2.2.1.length (λj:Nat=>(q++bj fX (e.2.2.1.take j),g,(g.length:Int),(k:Int),e.2.2.1,(e.2.2.1.length:Int),(j:Int),(g,outs,l),e)) ?_ ?_ (by omega),ya]
  .have hs:=NM F e.2.2.1.length;rw[yaj]at hs;dsimp only;rw[tI _ (by rw[ym];omega),ya,Zq (by omega),VD E, <-G];unfold fK;grind
  .intro j I;obtain⟨f,M,_⟩:=Zj I;have hs:=NM F j;have hu:=YE f.1.toNat
   unfold xH;dsimp only;rw[yW (Zx I),Zp M,ya,tI _ (by rw[ym];omega),ya,tI _ (by simp only[ym];omega),ya,Zq (by omega),VD M];unfold fX;grind
  .unfold xH;grind
 .unfold xI;grind
def iz(f:ZL):In:=(f,(0,[],0))
def X8(l:yL Y6):yL In:=l.map λc=>iz c.1
def fO(f g:bo):ZY:=[([f.1,g.1],0,0,0)]
def iS(ch:Chan)(x y:ai):yL In:=iz ch.1::(X8 x.1++X8 y.1)
def X4(f g:bo)(m:Int)(x y:ai):yL Out:=(m,fO f g)::(x.2.1++y.2.1)
def dm(ch:Chan)(f g:bo)(m:Int)(x y:ai):Tx:=(iS ch x y,X4 f g m x y,0)
theorem Zuz{ch:Chan}{f g:bo}(hb:ch.2.2.1=[f,g]):VA yD ch=ab (fO f g)/\VN yD ch=ab (fO f g):=by
 unfold VA VN KV ZeO tj ZfA WY;rw[hb,yam,yak,yam];simp only[ya];rw[yW (ZS (by simp) (by simp))];exact⟨rfl,rfl⟩
theorem Zy1{l:yL Y6}{k:Nat}{c:Y6}(h:l[k]? =ab c):X8 (l.take (k+1))=X8 (l.take k)++[iz c.1]:=by
 rw[Wm h,X8,yau];rfl
theorem mV(l:yL Y6):(X8 l).length=l.length:=yad _
theorem ZK2(ch:Chan)(a:yL ai)(z:Tx)(ins:yL In)(outs:yL Out)(n:Int){i:Int}{x:ai}(h1:bp i 2=ae)(h2:a[i.toNat]? =ab x)(hl:x.1.length<=10)(hi:ins.length<=20):
 Zc (Xa yD) yD (i,(0:Int),ch,a,z,ins,outs,n)=ab (i,ch,a,z,ins++X8 x.1,outs,n):=by
 rw[show((i,(0:Int),ch,a,z,ins,outs,n):Int×Int×Chan×yL ai×Tx×yL In×yL Out×Int)=(λk:Nat=>(i,(k:Int),ch,a,z,ins++X8 (x.1.take k),outs,n)) 0 by simp[X8]];refine ZD (step:=Xa yD) x.1.length (λk:Nat=>(i,(k:Int),ch,a,z,ins++X8 (x.1.take k),outs,n)) (λk f=> ?_) ?_ (by omega)
 .obtain⟨c,g,h⟩:=Zj f;unfold Xa;dsimp only;rw[yW h1,h2,ya,yW (Zx f),yW h1,ya,Zp g,ya,yW (ZS (by rw[ym,mV,yaa];omega) (by rw[ym,mV,yaa];omega)),Zq (by omega),Zy1 g,yac];rfl
 .unfold Xa;grind
theorem Zy2(ch:Chan)(a:yL ai)(z:Tx)(ins:yL In)(outs:yL Out)(n:Int){i:Int}{x:ai}(f:ag (i < 2)=ae)(h1:bp i 2=ae)(h2:a[i.toNat]? =ab x)(hl:x.1.length<=10)(hl2:x.2.1.length<=10)(hi:ins.length<=20)(ho:outs.length<=20):
 YB yD (i,ch,a,z,ins,outs,n)=ab (.inl (wi (i+1),ch,a,z,ins++X8 x.1,outs++x.2.1,n)):=by
 unfold YB;dsimp only;rw[yW f,ZK2 ch a z ins outs n h1 h2 hl hi,ya];dsimp only;rw[yW h1,h2,ya,yW (ZS (by omega) (by omega))]
theorem ZGG{ch:Chan}{f g:bo}(hb:ch.2.2.1=[f,g])(m:Int){x y:ai}(h:aP x)(j:aP y)(A:Wq (fO f g)):Q7 yD ch m [x,y]=ab (dm ch f g m x y):=by
 have I:=h.n1;have M:=h.n2;have y1:=j.n1;have Q:=j.n2;unfold Q7 Zbw;dsimp only;rw[(Zuz hb).2,ya,ya];have s0:=Zy2 ch [x,y] ([],[],0) [iz ch.1] [(m,fO f g)] 0 (i:=0) (x:=x) (by decide) (by decide) rfl (by omega) (by omega) (by simp) (by simp);have s1:=Zy2 ch [x,y] ([],[],0) ([iz ch.1]++X8 x.1) ([(m,fO f g)]++x.2.1) 0 (i:=1) (x:=y) (by decide) (by decide) rfl (by omega) (by omega) (by rw[ym,mV,ycy];omega) (by rw[ym,ycy];omega)
 have E:YB yD ((2:Int),ch,[x,y],(([],[],0):Tx),[iz ch.1]++X8 x.1++X8 y.1,[(m,fO f g)]++x.2.1++y.2.1,(0:Int))=ab (.inr (ch,[x,y],([],[],0),[iz ch.1]++X8 x.1++X8 y.1,[(m,fO f g)]++x.2.1++y.2.1,0)):=by
  unfold YB;grind
 have l:=qe s0 s1 E;have l:Zc (YB yD) yD ((0:Int),ch,[x,y],(([],[],0):Tx),[((ch.1,(0,[],0)):In)],[((m,fO f g):Out)],(0:Int))=_:=l;rw[l,ya];dsimp only;have F:[iz ch.1]++X8 x.1++X8 y.1=iS ch x y:=by simp[iS]
 have G:[(m,fO f g)]++x.2.1++y.2.1=X4 f g m x y:=by simp[X4]
 rw[F,G,ZAJ (by unfold iS;simp only[yag,ym,mV];omega) (λi z=> ?_) (by unfold X4;simp only[yag,ym];omega) (λo ho=> ?_)]
 .rfl
 .unfold iS X8 at z;simp only[ybs,ycm,ybw]at z;rcases z with rfl|⟨c,_,rfl⟩|⟨c,_,rfl⟩ <;> simp[iz]
 .unfold X4 at ho;simp only[ybs,ycm]at ho;rcases ho with rfl|ho|ho
  .exact A
  .exact(h.ia o ho).2.1
  .exact(j.ia o ho).2.1
theorem ZK3(a b:yL ai)(i:Int)(x:ai)(c:Chan)(s:yG)(f:Chan)(st:yG)(t0:Tx)(g:yL Int)(mv:yG)(h:Chan)(ins:yL In)(outs:yL Out)(n:Int)(hl:x.1.length<=10)(hi:ins.length<=20):
 Zc (Wt yD) yD (a,i,x.1,(x.1.length:Int),(0:Int),c,s,b,f,st,t0,g,mv,h,ins,outs,n,x)=ab (a,i,c,s,b,f,st,t0,g,mv,h,ins++X8 x.1,outs,n,x):=by
 rw[show((a,i,x.1,(x.1.length:Int),(0:Int),c,s,b,f,st,t0,g,mv,h,ins,outs,n,x):LK)=(λk:Nat=>(a,i,x.1,(x.1.length:Int),(k:Int),c,s,b,f,st,t0,g,mv,h,ins++X8 (x.1.take k),outs,n,x)) 0 by simp[X8]];refine ZD (step:=Wt yD) x.1.length (λk:Nat=>(a,i,x.1,(x.1.length:Int),(k:Int),c,s,b,f,st,t0,g,mv,h,ins++X8 (x.1.take k),outs,n,x)) (λk j=> ?_) ?_ (by omega)
 .obtain⟨e,l,m⟩:=Zj j;unfold Wt;dsimp only;rw[yW (Zx j),Zp l,ya,yW (ZS (by rw[ym,mV,yaa];omega) (by rw[ym,mV,yaa];omega)),Zq (by omega),Zy1 l,yac];rfl
 .unfold Wt;grind
theorem Zy3(a b:yL ai)(c:Chan)(s:yG)(f:Chan)(st:yG)(t0:Tx)(g:yL Int)(mv:yG)(h:Chan)(ins:yL In)(outs:yL Out)(n:Int){i:Int}{x:ai}(j:ag (i < 2)=ae)(h2:idx a i=ab x)(hl:x.1.length<=10)(hl2:x.2.1.length<=10)(hi:ins.length<=20)(ho:outs.length<=20):
 XR yD (a,i,c,s,b,f,st,t0,g,mv,h,ins,outs,n)=ab (.inl (a,wi (i+1),c,s,b,f,st,t0,g,mv,h,ins++X8 x.1,outs++x.2.1,n)):=by
 unfold XR;dsimp only;rw[yW j,h2,ya,ZK3 a b i x c s f st t0 g mv h ins outs n hl hi,ya];dsimp only;rw[yW (ZS (by omega) (by omega))]
theorem ZGH(c:Chan)(s:yG)(h:Chan)(st:yG)(t0:Tx)(j:yL Int)(mv:yG)(z:Chan)(f g:bo)(m:Int){x y:ai}(A:aP x)(E:aP y):
 Zc (XR yD) yD ([x,y],(0:Int),c,s,[x,y],h,st,t0,j,mv,z,[((c.1,(0,[],0)):In)],[((m,fO f g):Out)],(0:Int))=ab (c,s,[x,y],h,st,t0,j,mv,z,iS c x y,X4 f g m x y,0):=by
 have M:=A.n1;have Q:=A.n2;have y1:=E.n1;have R:=E.n2;have s0:=Zy3 [x,y] [x,y] c s h st t0 j mv z [iz c.1] [(m,fO f g)] 0 (i:=0) (x:=x) (by decide) rfl (by omega) (by omega) (by simp) (by simp);have s1:=Zy3 [x,y] [x,y] c s h st t0 j mv z ([iz c.1]++X8 x.1) ([(m,fO f g)]++x.2.1) 0 (i:=1) (x:=y) (by decide) rfl (by omega) (by omega) (by rw[ym,mV,ycy];omega) (by rw[ym,ycy];omega)
 have F:XR yD ([x,y],(2:Int),c,s,[x,y],h,st,t0,j,mv,z,[iz c.1]++X8 x.1++X8 y.1,[(m,fO f g)]++x.2.1++y.2.1,(0:Int))=ab (.inr (c,s,[x,y],h,st,t0,j,mv,z,[iz c.1]++X8 x.1++X8 y.1,[(m,fO f g)]++x.2.1++y.2.1,0)):=by
  unfold XR;grind
 have l:=qe s0 s1 F;have G:[iz c.1]++X8 x.1++X8 y.1=iS c x y:=by simp[iS]
 have I:[(m,fO f g)]++x.2.1++y.2.1=X4 f g m x y:=by simp[X4]
 rw[G,I]at l;exact l
def kh(x:ai):Prop:=∀c,c∈x.1->c.1.1.length=32
theorem ZMg{ch:Chan}{f g:bo}{m:Int}{x y:ai}(h:aP x)(j:aP y)(l:Vv x)(z:Vv y):oD (dm ch f g m x y):=by
 have A:=h.n1;have E:=h.n2;have y1:=j.n1;have F:=j.n2;refine⟨?_, ?_,λo ho=> ?_⟩
 .show(iS ch x y).length<=70;unfold iS;simp only[yag,ym,mV];omega
 .show(X4 f g m x y).length<=70;unfold X4;grind
 .have ho:o∈X4 f g m x y:=ho;unfold X4 at ho;simp only[ybs,ycm]at ho;rcases ho with rfl|ho|ho
  .unfold eB fO;simp
  .exact l o ho
  .exact z o ho
theorem ZMh{ch:Chan}{h j:bo}{m:Int}{x y:ai}(l:ch.1.1.length=32)(z:kh x)(A:kh y):mR (dm ch h j m x y):=by
 refine⟨λi f=> ?_,by show(0:Int)<=9223372036854775807;decide⟩;have f:i∈iS ch x y:=f;unfold iS X8 at f;simp only[ybs,ycm,ybw]at f;rcases f with rfl|⟨c,g,rfl⟩|⟨c,g,rfl⟩
 .exact l
 .exact z c g
 .exact A c g
def mW(n:yL yB)(k:Nat):yL ZL:=(yo k).map λ(j:Nat)=>((n,(j:Int)):ZL)
theorem ZIM{t:Tx}(f:ub t)(hl:oD t):∃n,eA yD t=ab n/\QV yD t=ab n/\n.length=32/\xu yD t=ab (mW n t.2.1.length):=by
 obtain⟨n,g,h,j⟩:=ZDv hl f.2.2;have m:=hl.2;refine⟨n,g,h,j, ?_⟩;unfold xu;rw[g,f.1,ya,ya,yX (by decide)]
 have q:=ZD (step:=pT yD) t.2.1.length (λk:Nat=>((t.2.1.length:Int),(k:Int),t,mW n k,n)) (x:=(t,mW n t.2.1.length,n)) (λk l=>by
  unfold pT;dsimp only;rw[yW (Zx l),yW (ZS (by simp[mW];omega) (by simp[mW];omega)),Zq (by omega)];unfold mW;rw[List.range_succ,yau];rfl) (by
  unfold pT;dsimp only;rw[yX (by rw[ZB];decide)]) (by omega)
 have q:Zc (pT yD) yD ((t.2.1.length:Int),(0:Int),t,([]:yL ZL),n)=_:=q;grind
theorem ZGI:∃t,ov yD []=ab (t,af):=by
 obtain⟨t,f,g,h,_⟩:=ZAG (b:=[]) (by simp)
 cases f with
 |false=>exact⟨t,g⟩
 |true=>
  obtain⟨l,j⟩:=h rfl;have:(kN t).length=0:=by rw[j];rfl
  unfold kN iO at this;simp only[ym]at this;have:=List.length_pos_iff.2 (ZBS t.1.length);omega
abbrev qf:Chan:=((dg,0),0,[(0,0,0,0,0),(0,0,0,0,0)],[(0,0,0,0,0,0),(0,0,0,0,0,0)],0)
abbrev qg:yG:=(0,[0,0],[],0)
abbrev qh:Tx:=([],[],0)
abbrev mX:Type:=Chan×yG×Tx×Int
def zC(ch:Chan)(m:Int):Chan:=(ch.1,m,ch.2.2.1,ch.2.2.2.1,ch.2.2.2.2)
def lO(t0 t1:bw)(a b m n:Int):Prop:=(m < 0/\a < t1.2.1)\/(n < 0/\b < t0.2.1)
theorem Zy4{d mh:yL Int}{m a:Int}(ch:Chan)(s:yG)(w:yL ai)(f:Chan)(st:yG)(t0:Tx)(g:yL Int)(mv:yG){i:Int}{t:bw}(h:ag (i < 2)=ae)(h1:bp i 2=ae)(hd:idx d i=ab m)(ha:mv.2.1[i.toNat]? =ab a)(h2:bp (wi (1 - i)) 2=ae)(ht:ch.2.2.2.1[(wi (1 - i)).toNat]? =ab t):
 XQ yD (d,i,ch,s,w,f,st,t0,g,mv)=ab (if m < 0/\a < t.2.1 then .inr (.inl (10,ch,s,w,f,st,t0,g,mv)) else .inl (d,wi (i+1),ch,s,w,f,st,t0,g,mv)):=by
 unfold XQ
 all_goals grind
open Classical in
theorem ZGJ{t0 t1:bw}{a b m n:Int}(ch:Chan)(s:yG)(w:yL ai)(f:Chan)(st:yG)(z:Tx)(g:yL Int)(mv:yG)(ht:ch.2.2.2.1=[t0,t1])(hm:mv.2.1=[a,b]):
 Zc (XQ yD) yD ([m,n],(0:Int),ch,s,w,f,st,z,g,mv)=ab (if lO t0 t1 a b m n then .inl (10,ch,s,w,f,st,z,g,mv) else .inr (ch,s,w,f,st,z,g,mv)):=by
 have s0:=Zy4 (d:=[m,n]) (mh:=[]) ch s w f st z g mv (i:=0) (m:=m) (a:=a) (t:=t1) (by decide) (by decide) rfl (by rw[hm];rfl) (by decide) (by rw[ht];rfl);have s1:=Zy4 (d:=[m,n]) (mh:=[]) ch s w f st z g mv (i:=1) (m:=n) (a:=b) (t:=t0) (by decide) (by decide) rfl (by rw[hm];rfl) (by decide) (by rw[ht];rfl)
 have l:XQ yD ([m,n],(2:Int),ch,s,w,f,st,z,g,mv)=ab (.inr (.inr (ch,s,w,f,st,z,g,mv))):=by
  unfold XQ;grind
 by_cases h:m < 0/\a < t1.2.1
 .rw[yW h]at s0;rw[yW (show lO t0 t1 a b m n from .inl h),zy s0]
 .rw[yX h]at s0;by_cases j:n < 0/\b < t0.2.1
  .rw[yW j]at s1;rw[yW (show lO t0 t1 a b m n from .inr j),zz s0 s1]
  .rw[yX j]at s1;rw[yX (show¬lO t0 t1 a b m n from λq=>q.elim h j),qe s0 s1 l]
theorem ZuA{m a:Int}(ch:Chan)(s:yG)(w:yL ai)(g:Chan)(st:yG)(z:Tx)(f:yL Int){i:Int}{t:bw}(h:ag (i < 2)=ae)(h1:bp i 2=ae)(hd:f[i.toNat]? =ab m)(ha:s.2.1[i.toNat]? =ab a)(h2:bp (wi (1 - i)) 2=ae)(ht:ch.2.2.2.1[(wi (1 - i)).toNat]? =ab t):
 YH yD (i,ch,s,w,g,st,z,f)=ab (if m < 0/\wi (a+m) < t.2.1 then .inr (.inl (10,ch,s,w,qf,qg,qh,f)) else .inl (wi (i+1),ch,s,w,g,st,z,f)):=by
 unfold YH
 all_goals grind
open Classical in
theorem ZDI{t0 t1:bw}{a b m n:Int}(ch:Chan)(s:yG)(w:yL ai)(f:Chan)(st:yG)(z:Tx)(ht:ch.2.2.2.1=[t0,t1])(hm:s.2.1=[a,b]):
 Zc (YH yD) yD ((0:Int),ch,s,w,f,st,z,[m,n])=ab (if lO t0 t1 (wi (a+m)) (wi (b+n)) m n then .inl (10,ch,s,w,qf,qg,qh,[m,n]) else .inr (ch,s,w,f,st,z,[m,n])):=by
 have s0:=ZuA ch s w f st z [m,n] (i:=0) (m:=m) (a:=a) (t:=t1) (by decide) (by decide) rfl (by rw[hm];rfl) (by decide) (by rw[ht];rfl);have s1:=ZuA ch s w f st z [m,n] (i:=1) (m:=n) (a:=b) (t:=t0) (by decide) (by decide) rfl (by rw[hm];rfl) (by decide) (by rw[ht];rfl)
 have j:YH yD ((2:Int),ch,s,w,f,st,z,[m,n])=ab (.inr (.inr (ch,s,w,f,st,z,[m,n]))):=by
  unfold YH;grind
 by_cases g:m < 0/\wi (a+m) < t1.2.1
 .rw[yW g]at s0;rw[yW (show lO t0 t1 (wi (a+m)) (wi (b+n)) m n from .inl g),zy s0]
 .rw[yX g]at s0;by_cases h:n < 0/\wi (b+n) < t0.2.1
  .rw[yW h]at s1;rw[yW (show lO t0 t1 (wi (a+m)) (wi (b+n)) m n from .inr h),zz s0 s1]
  .rw[yX h]at s1;rw[yX (show¬lO t0 t1 (wi (a+m)) (wi (b+n)) m n from λq=>q.elim g h),qe s0 s1 j]
structure OM(ch:Chan)(s:yG)(x y:ai)(r:mX):Prop where
 right0:au yD ch s=ab ae
 st:iv ch s
 wx:aP x
 wy:aP y
 ex:∃a b b0 b1 id,s.2.1=[a,b]/\ch.2.2.1=[b0,b1]/\List.length (α:=UInt8) id=32/\r=(((id,0),ch.2.1+(bz x+bz y),ch.2.2.1,ch.2.2.2.1,ch.2.2.2.2),(s.1,[a+bz x,b+bz y],s.2.2.1,s.2.2.2),dm ch b0 b1 (ch.2.1+(bz x+bz y)) x y,0)/\0<=a+bz x/\0<=b+bz y/\
  au yD (zC ch (ch.2.1+(bz x+bz y))) (s.1,[a+bz x,b+bz y],s.2.2.1,s.2.2.2)=ab ae/\iv (zC ch (ch.2.1+(bz x+bz y))) (s.1,[a+bz x,b+bz y],s.2.2.1,s.2.2.2)/\ub (dm ch b0 b1 (ch.2.1+(bz x+bz y)) x y)/\eA yD (dm ch b0 b1 (ch.2.1+(bz x+bz y)) x y)=ab id
def ZMi(ch:Chan)(s:yG)(x y:ai)(r:mX):Prop:=OM ch s x y r\/r.2.2.2≠0/\(r.1=qf/\r.2.1=qg/\r.2.2.1=qh)/\(au yD ch s=ab ae->r.2.2.2≠14)
theorem ON{a b:Int}:vF a b < 0↔a < 0\/b < 0:=by
 unfold vF;grind
open Classical in
theorem ZDJ{ch:Chan}(w:dC ch)(hh:ch.1.1.length=32){s:yG}(hs:s.2.1.length=2){x y:ai}(X:Vv x)(Y:Vv y)(kx:kh x)(ky:kh y):
 ∃r,Ya yD ch s [x,y]=ab r/\ZeP yD ch s [x,y]=ab r/\ZMi ch s x y r:=by
 obtain⟨e,f1,f2,f3⟩:=zj w;obtain⟨b,Z,g2,g3⟩:=tN w hs;unfold Ya ZeP;rw[f1,f2,ya,ya];by_cases he:e=0
 case neg=>
  have A:(e !=0)=ae:=bne_iff_ne.2 he;rw[yW A,yW A]
  exact⟨_,rfl,rfl,.inr ⟨he,⟨rfl,rfl,rfl⟩,λq=>by
   unfold au at q;rw[f1,ya,yW A]at q;exact absurd (ybl q) (by decide)⟩⟩
 subst he;rw[yX (show¬(((0:Int)!=0)=ae) by decide),yX (show¬(((0:Int)!=0)=ae) by decide),Z,g2,ya,ya]
 cases b with
 |false=>
  rw[yW (by decide),yW (by decide)]
  exact⟨_,rfl,rfl,.inr ⟨by decide,⟨rfl,rfl,rfl⟩,λq=>absurd (ybl (Z.symm.trans q)) (by decide)⟩⟩
 |true=>
  have F:=g3 rfl;rw[yX (by decide),yX (by decide),ZAI X Y,ya];simp only[yam,yak,ya];rw[ZGD X,ZGD Y];simp only[ya];by_cases h:aP x
  case neg=>
   rw[yX (show¬(aP x/\aP y) from λq=>h q.1),yW (show(!false)=ae by decide),yZ h,yW (show(!false)=ae by decide)]
   exact⟨_,rfl,rfl,.inr ⟨by decide,⟨rfl,rfl,rfl⟩,λ_=>by decide⟩⟩
  by_cases m:aP y
  case neg=>
   rw[yX (show¬(aP x/\aP y) from λq=>m q.2),yW (show(!false)=ae by decide),yY h,yX (show¬(!true)=ae by decide),yZ m,yW (show(!false)=ae by decide)]
   exact⟨_,rfl,rfl,.inr ⟨by decide,⟨rfl,rfl,rfl⟩,λ_=>by decide⟩⟩
  rw[yW (show aP x/\aP y from⟨h,m⟩),yX (show¬(!true)=ae by decide),yY h,yX (show¬(!true)=ae by decide),yY m,yX (show¬(!true)=ae by decide),Zsr h,Zsr m]
  simp only[ya];obtain⟨a,b,j,ha,hb,tot,_,_⟩:=F.fY;have hl:=F.len;have cx:=zA h;have cy:=zA m;have am:=F.am;have S:wi (a+bz x)=a+bz x:=ZE (by omega) (by omega);have T:wi (b+bz y)=b+bz y:=ZE (by omega) (by omega);rw[ZGE j (by omega),ya];have G:(uf s a b (bz x) (bz y)).2.1=[a+bz x,b+bz y]:=by rw[<-S, <-T];rfl
  have I:uf s a b (bz x) (bz y)=(s.1,[a+bz x,b+bz y],s.2.2.1,s.2.2.2):=by rw[<-S, <-T];rfl
  rw[G,j];simp only[yam,yak,ya];rw[S,T];by_cases c0:a+bz x < 0
  .rw[yW (yY (ON.2 (.inl c0))),yW (yY c0)];exact⟨_,rfl,rfl,.inr ⟨by decide,⟨rfl,rfl,rfl⟩,λ_=>by decide⟩⟩
  rw[yX (show¬ag (a+bz x < 0)=ae by rw[yN];exact c0)];by_cases c1:b+bz y < 0
  .rw[yW (yY (ON.2 (.inr c1))),yW (yY c1)];exact⟨_,rfl,rfl,.inr ⟨by decide,⟨rfl,rfl,rfl⟩,λ_=>by decide⟩⟩
  rw[yX (show¬ag (b+bz y < 0)=ae by rw[yN];exact c1),yX (by rw[yN,ON];omega)];obtain⟨t0,t1,U⟩:=kb w.t;obtain⟨f,g,l⟩:=kb w.b;rw[ZGJ ch s [x,y] qf qg qh [bz x,bz y] (uf s a b (bz x) (bz y)) U G,ZDI ch s [x,y] qf qg qh U j,S,T,ya,ya];by_cases W:lO t0 t1 (a+bz x) (b+bz y) (bz x) (bz y)
  .rw[yW W,yW W];exact⟨_,rfl,rfl,.inr ⟨show(10:Int)≠0 by decide,⟨rfl,rfl,rfl⟩,λ_=>show(10:Int)≠14 by decide⟩⟩
  rw[yX W,yX W];simp only[yam,yak,ya];rw[ZDH j (by omega),ya,I];have e1:wi (ch.2.1+wi (bz x+bz y))=ch.2.1+(bz x+bz y):=by rw[ZE (z:=bz x+bz y) (by omega) (by omega),ZE (by omega) (by omega)]
  have e2:wi (wi (ch.2.1+bz x)+bz y)=ch.2.1+(bz x+bz y):=by rw[ZE (z:=ch.2.1+bz x) (by omega) (by omega),ZE (by omega) (by omega),Int.add_assoc]
  rw[e1,e2];generalize hM:ch.2.1+(bz x+bz y)=M;have w':dC (zC ch M):=⟨w.b,w.t,by show-9223372036854775808<=M;omega,by show M<=9223372036854775807;omega,w.n0,w.n1,w.o0,w.o1⟩;obtain⟨bb,k1,k2,k3⟩:=tN w' (s:=(s.1,[a+bz x,b+bz y],s.2.2.1,s.2.2.2)) rfl;have Q:au yD (ch.1,M,ch.2.2.1,ch.2.2.2.1,ch.2.2.2.2) (s.1,[a+bz x,b+bz y],s.2.2.1,s.2.2.2)=ab bb:=k1;have k2':XV yD (ch.1,M,ch.2.2.1,ch.2.2.2.1,ch.2.2.2.2) (s.1,[a+bz x,b+bz y],s.2.2.1,s.2.2.2)=ab bb:=k2;rw[Q,k2',ya,ya]
  cases bb with
  |false=>
   rw[yW (by decide),yW (by decide)]
   exact⟨_,rfl,rfl,.inr ⟨by decide,⟨rfl,rfl,rfl⟩,λ_=>by decide⟩⟩
  |true=>
   have sr2:=k3 rfl
   have pt:(eD f.1.toNat)/\eD g.1.toNat:=by
    have q0:=F.side 0 (by omega) t0 f (by rw[U];rfl) (by rw[l];rfl);have q1:=F.side 1 (by omega) t1 g (by rw[U];rfl) (by rw[l];rfl);exact⟨(q0.2 f.1 (by simp[pts])).1,(q1.2 g.1 (by simp[pts])).1⟩
   have lok:Wq (fO f g):=by
    refine⟨by simp[fO],by simp[fO],λq hq=> ?_⟩;unfold fO at hq;rw[yba.1 hq];exact⟨by simp,show(0:Int)<=0 by decide,show(0:Int)<=1048576 by decide,show(0:Int)<=0 by decide,show(0:Int)<=1048576 by decide⟩
   rw[yX (by decide),yX (by decide)];unfold LI;dsimp only;rw[(Zuz l).1,ya,ya];dsimp only;rw[ZGH ch s qf qg qh [bz x,bz y] _ _ f g M h m,ya,ZGG l M h m lok,ya];dsimp only;have tl:oD (dm ch f g M x y):=ZMg h m X Y;have tw:mR (dm ch f g M x y):=ZMh hh kx ky;obtain⟨tb,E,t2',R⟩:=OB tl;have fold:((iS ch x y,X4 f g M x y,0):Tx)=dm ch f g M x y:=rfl;rw[fold,t2',ya]
   cases tb with
   |false=>
    have hby:pV yD (dm ch f g M x y)=ab []:=by
     unfold pV;rw[E,ya,yW (by decide)]
    obtain⟨t,ht'⟩:=ZGI;rw[hby,ya,ht',ya,yW (show(!false)=ae by decide),yW (by decide)]
    exact⟨_,rfl,rfl,.inr ⟨by decide,⟨rfl,rfl,rfl⟩,λ_=>by decide⟩⟩
   |true=>
    have tR:ub (dm ch f g M x y):=⟨E,R rfl,tw⟩;obtain⟨id,i1,i2,i3,i4⟩:=ZIM tR tl
    have hix:idx (mW id (dm ch f g M x y).2.1.length) 0=ab (id,0):=by
     have:(dm ch f g M x y).2.1.length=(x.2.1++y.2.1).length+1:=by
      show(X4 f g M x y).length=_;unfold X4;rw[yag]
     rw[this];unfold mW;rw[List.range_succ_eq_map,List.map_cons];rfl
    rw[ZGF tw E (R rfl),ya,ZIL tR,ya,yX (show¬(!true)=ae by decide),yX (by decide),i4,ya,hix,ya,i2,ya];refine⟨_,rfl,rfl,.inl ⟨Z,F,h,m,a,b,f,g,id,j,l,i3, ?_⟩⟩;rw[hM];exact⟨rfl,by omega,by omega,Q,sr2,tR,i1⟩
theorem ZK4{ch:Chan}(w:dC ch){t0 t1:bw}(ht:ch.2.2.2.1=[t0,t1])(h1:1<=ch.2.1/\ch.2.1<=1125899906842624)(h2:0<=ch.1.2/\ch.1.2<=63)(h3:ch.2.2.2.2=0\/ch.2.2.2.2=1)(h4:gk ch)(h5:t0.2.1+t1.2.1<=ch.2.1):
 Wi yD ch=ab 0:=by
 obtain⟨F,G,h⟩:=kb w.b;have y:=w.a0;have j:=w.o0;have l:=w.o1;obtain⟨⟨id,no⟩,A,I,ts,m⟩:=ch;dsimp only at h ht y j l h1 h2 h3 h5;subst h;subst ht;have g:=NR j l;unfold Wi;dsimp only;have f:=NP.1 h4;rw[yX (show¬ag (A < 1)=ae by rw[yN];omega),yX (show¬ag (A > 1125899906842624)=ae by rw[yN];omega)];rw[yX (show¬ag (no < 0)=ae by rw[yN];omega),yX (show¬ag (no >= 64)=ae by rw[yN];omega),g];rw[yY (show 0<=m/\m<=1 by omega),yX (by decide),NQ _ _ rfl rfl,ya,yW f];dsimp only;obtain⟨_,_,_,M,_⟩:=f.1.1;obtain⟨Q,_⟩:=f.1.1;obtain⟨_,_,_,R,_⟩:=f.2.1;obtain⟨S,_⟩:=f.2.1
 have E:Qa yD t0.2.1 t1.2.1=ab (t0.2.1+t1.2.1,ae):=by
  unfold Qa om;rw[yW (yY (show t0.2.1 >= 0 by omega)),yW (yY (show t1.2.1 >= 0 by omega)),ya,ya,yY (show t0.2.1<=1125899906842624 by omega),yY (show t1.2.1<=1125899906842624 by omega),yX (by decide),yX (by decide),ZE (z:=1125899906842624 - t1.2.1) (by omega) (by omega),ZE (z:=t0.2.1+t1.2.1) (by omega) (by omega)];rw[yX (dn (by omega))]
 rw[yam,yak,yam,ya,ya,E,ya,yX (show¬(!true)=ae by decide),yX (dn (by omega))]
theorem ZIN{ch:Chan}(w:dC ch){t0 t1:bw}(ht:ch.2.2.2.1=[t0,t1])(h:Wi yD ch=ab 0):t0.2.1+t1.2.1<=ch.2.1:=by
 obtain⟨e,f1,_,f3⟩:=zj w;have F:e=0:=ybl (f1.symm.trans h);obtain⟨G,I,M,Q⟩:=f3 F;obtain⟨U,W,j⟩:=kb w.b;have R:=w.a0;have l:=w.o0;have m:=w.o1;obtain⟨⟨id,no⟩,A,X,ts,y⟩:=ch;dsimp only at j ht R l m G I M;subst j;subst ht;have g:=NR l m;unfold Wi at h;dsimp only at h;have f:=NP.1 Q;rw[yX (show¬ag (A < 1)=ae by rw[yN];omega),yX (show¬ag (A > 1125899906842624)=ae by rw[yN];omega)]at h;rw[yX (show¬ag (no < 0)=ae by rw[yN];omega),yX (show¬ag (no >= 64)=ae by rw[yN];omega),g]at h;rw[yY (show 0<=y/\y<=1 by omega),yX (by decide),NQ _ _ rfl rfl,ya,yW f]at h;dsimp only at h;obtain⟨_,_,_,Y,_⟩:=f.1.1;obtain⟨Z,_⟩:=f.1.1;obtain⟨_,_,_,q1,_⟩:=f.2.1;obtain⟨p1,_⟩:=f.2.1
 have S:Qa yD t0.2.1 t1.2.1=if t0.2.1+t1.2.1<=1125899906842624 then ab (t0.2.1+t1.2.1,ae) else ab (0,af):=by
  unfold Qa om;rw[yW (yY (show t0.2.1 >= 0 by omega)),yW (yY (show t1.2.1 >= 0 by omega)),ya,ya,yY (show t0.2.1<=1125899906842624 by omega),yY (show t1.2.1<=1125899906842624 by omega),yX (by decide),yX (by decide),ZE (z:=1125899906842624 - t1.2.1) (by omega) (by omega),ZE (z:=t0.2.1+t1.2.1) (by omega) (by omega)];by_cases h:t0.2.1+t1.2.1<=1125899906842624
  .rw[yX (dn (by omega)),yW h]
  .rw[yW (yY (by omega)),yX h]
 rw[yam,yak,yam,ya,ya,S]at h;show t0.2.1+t1.2.1<=A;by_cases E:t0.2.1+t1.2.1<=1125899906842624
 .rw[yW E,ya,yX (show¬(!true)=ae by decide)]at h;by_cases T:t0.2.1+t1.2.1 > A
  .rw[yW (yY T)]at h;exact absurd (ybl h) (by decide)
  .omega
 .rw[yX E,ya,yW (show(!false)=ae by decide)]at h;exact absurd (ybl h) (by decide)
theorem ZuB{ch:Chan}(w:dC ch){s:yG}(h:au yD ch s=ab ae):Wi yD ch=ab 0:=by
 obtain⟨e,f1,_,_⟩:=zj w;unfold au at h;rw[f1,ya]at h;by_cases f:e=0
 .rw[f1,f]
 .rw[yW (bne_iff_ne.2 f)]at h;exact absurd (ybl h) (by decide)
theorem Zy5{ch:Chan}(w:dC ch){s:yG}(f:Wi yD ch=ab 0)(h:iv ch s):au yD ch s=ab ae:=by
 obtain⟨a,b,hs,l,m,g,y,z⟩:=h.fY;unfold au;rw[f,ya,yX (show¬(((0:Int)!=0)=ae) by decide),tM,ya,hs,yY h.no,yX (show¬(!true)=ae by decide),yam,yak,yam];simp only[ya,ZBT,tM]
 have j:¬ag ((s.2.2.1.length:Int) > 16)=ae:=by
  have:=h.len;rw[yN];omega
 rw[yY (p:=(0<=a/\a<=1125899906842624)/\0<=b/\b<=1125899906842624) ⟨l,m⟩,yX (show¬(!true)=ae by decide),yY h.rate,yX (show¬(!true)=ae by decide),yX j,(NU w.t s h.len).1,ya,yW (show bA _ (cm ch s.2.2.1) from h.conds)]
 dsimp only;rw[(NW w.t s h.len).1,ya,yW (show bA 2 (cQ ch s.2.2.1) from h.sides)]
 dsimp only;rw[ZyI s hs (by have:=h.len;omega),ya,yW (beq_iff_eq.2 g),hs,NT];rcases h.op with q|q
 .rw[q,yW (by decide)];exact congrArg ab (yY (y q))
 .rw[q,yW (by decide)];exact congrArg ab (yY (z q))
def dX(l:yL Cond):Int:=(l.map λc=>c.2.2.1).sum
theorem OO:∀(l:yL Cond),(∀c,c∈l->1<=c.2.2.1/\c.2.2.1<=1125899906842624)->0<=dX l/\dX l<=l.length*1125899906842624
 |[],_=>by simp[dX]
 |c::l,h=>by
  have g:=h c yav;have j:=OO l λx f=>h x (yaw _ f);have e:dX (c::l)=c.2.2.1+dX l:=by simp[dX]
  rw[e,yag];omega
theorem OP:∀(l:yL Cond)(z:Int),(∀c,c∈l->1<=c.2.2.1/\c.2.2.1<=1125899906842624)->l.length<=17->0<=z->z+l.length*1125899906842624<=9007199254740992000->dy z l=z+dX l
 |[],z,_,_,_,_=>by simp[dy,dX]
 |c::l,z,h,f,m,g=>by
  have y:=h c yav;rw[yag]at f g;have w:wi (z+c.2.2.1)=z+c.2.2.1:=ZE (by omega) (by omega);have e:dy z (c::l)=dy (wi (z+c.2.2.1)) l:=rfl;have i:=OP l (z+c.2.2.1) (λx j=>h x (yaw _ j)) (by omega) (by omega) (by omega);have s:dX (c::l)=c.2.2.1+dX l:=by simp[dX]
  rw[e,w,i,s];omega
theorem zK(l m:yL Cond):dX (l++m)=dX l+dX m:=by simp[dX]
theorem ZGK(l:yL Cond)(k:Nat)(c:Cond):dX (l.take k++c::l.drop k)=dX l+c.2.2.1:=by
 have h:=zK (l.take k) (l.drop k);rw[ybc]at h;have e:dX (c::l.drop k)=c.2.2.1+dX (l.drop k):=by simp[dX]
 rw[zK,e,h];omega
def VQ(to:Int)(l:yL Cond):yL Cond:=l.filter λc=>ag (c.1=wi (1 - to))
theorem OQ(to:Int):∀(l:yL Cond)(o:Int×Int),(∀c,c∈l->1<=c.2.2.1/\c.2.2.1<=1125899906842624)->l.length<=17->0<=o.1->o.1<=1000->0<=o.2->o.2+l.length*1125899906842624<=9007199254740992000->o.1+l.length<=1000->
 l.foldl (lL to) o=(o.1+((VQ to l).length:Int),o.2+dX (VQ to l))
 |[],o,_,_,_,_,_,_,_=>by simp[VQ,dX]
 |c::l,o,h,m,y,z,A,E,F=>by
  have I:=h c yav;rw[yag]at m E F;rw[List.foldl_cons];by_cases e:c.1=wi (1 - to)
  .have f:lL to o c=(o.1+1,o.2+c.2.2.1):=by
    unfold lL;rw[yW e,ZE (by omega) (by omega),ZE (by omega) (by omega)]
   have g:VQ to (c::l)=c::VQ to l:=by simp[VQ,e]
   have G:dX (c::VQ to l)=c.2.2.1+dX (VQ to l):=by simp[dX]
   rw[f,OQ to l _ (λx j=>h x (yaw _ j)) (by omega) (by dsimp only;omega) (by dsimp only;omega) (by dsimp only;omega) (by dsimp only;omega) (by dsimp only;omega),g,G,yag];dsimp only;refine Prod.ext ?_ ?_
   .show o.1+1+_=o.1+_;omega
   .show o.2+_+_=o.2+_;omega
  .have f:lL to o c=o:=by
    unfold lL;rw[yX e]
   have g:VQ to (c::l)=VQ to l:=by simp[VQ,e]
   rw[f,OQ to l o (λx j=>h x (yaw _ j)) (by omega) y z A (by omega) (by omega),g]
theorem zM(to:Int){l:yL Cond}(h:∀c,c∈l->1<=c.2.2.1/\c.2.2.1<=1125899906842624)(hl:l.length<=17):off to l=(((VQ to l).length:Int),dX (VQ to l)):=by
 have:=OQ to l (0,0) h hl (by decide) (by decide) (by decide) (by dsimp only;omega) (by dsimp only;omega);unfold off;rw[this];simp
theorem ZGL(to:Int)(l:yL Cond)(k:Nat)(c:Cond):((VQ to (l.take k++c::l.drop k)).length:Int)=(VQ to l).length+(if c.1=wi (1 - to) then 1 else 0)/\dX (VQ to (l.take k++c::l.drop k))=dX (VQ to l)+(if c.1=wi (1 - to) then c.2.2.1 else 0):=by
 have h:VQ to l=VQ to (l.take k)++VQ to (l.drop k):=by
  unfold VQ;rw[<-List.filter_append,ybc]
 have g:VQ to (l.take k++c::l.drop k)=VQ to (l.take k)++VQ to (c::l.drop k):=by
  unfold VQ;rw[List.filter_append]
 rw[g,h,zK,zK];by_cases e:c.1=wi (1 - to)
 .have f:VQ to (c::l.drop k)=c::VQ to (l.drop k):=by simp[VQ,e]
  have j:dX (c::VQ to (l.drop k))=c.2.2.1+dX (VQ to (l.drop k)):=by simp[dX]
  rw[f,j,yW e,yW e];simp only[ym,yag];omega
 .have f:VQ to (c::l.drop k)=VQ to (l.drop k):=by simp[VQ,e]
  rw[f,yX e,yX e];simp only[ym];omega
def zO(l:yL Cond)(f i:Int):Prop:=∃c,c∈l/\c.1=f/\c.2.1=i
theorem ZIP(s:yG)(f i:Int)(hl:s.2.2.1.length<=1000):∃c b,xO yD s f i=ab (c,b)/\(b=ae↔zO s.2.2.1 f i):=by
 obtain⟨x,e,M⟩:=Xz (step:=W0 yD) s.2.2.1.length (λk st=>st=(s.2.2.1,(s.2.2.1.length:Int),(k:Int),f,i)/\∀j,j < k->∀c,s.2.2.1[j]? =ab c->¬(c.1=f/\c.2.1=i))
  (λx=>(x=.inr (f,i)/\¬zO s.2.2.1 f i)\/∃(k:Nat)(c:Cond),s.2.2.1[k]? =ab c/\(c.1=f/\c.2.1=i)/\x=.inl ((k:Int),f,i)) (i:=(s.2.2.1,(s.2.2.1.length:Int),(0:Int),f,i)) ⟨rfl,λj h=>by omega⟩ (by omega) (by
    rintro k _ F ⟨rfl,m⟩;obtain⟨c,l,G⟩:=Zj F;unfold W0;dsimp only;rw[yW (Zx F),Zp l,ya];unfold LP;by_cases y:c.1=f
    .rw[yW (beq_iff_eq.2 y),ya];dsimp only;by_cases z:c.2.1=i
     .rw[yW (beq_iff_eq.2 z)];exact .inr ⟨_,rfl,.inr ⟨k,c,l,⟨y,z⟩,rfl⟩⟩
     .rw[yX (show¬(c.2.1==i)=ae by rw[yT];exact z),Zq (by omega)];refine .inl ⟨_,rfl,rfl,λj A E g=> ?_⟩;by_cases e:j=k
      .subst e;rw[l]at g;cases g;exact λq=>z q.2
      .exact m j (by omega) E g
    .rw[yX (show¬(c.1==f)=ae by rw[yT];exact y),ya];dsimp only;rw[yX (by decide),Zq (by omega)];refine .inl ⟨_,rfl,rfl,λj A E g=> ?_⟩;by_cases e:j=k
     .subst e;rw[l]at g;cases g;exact λq=>y q.1
     .exact m j (by omega) E g) (by
    rintro _ ⟨rfl,m⟩;unfold W0;dsimp only;rw[yX (by rw[ZB];decide)];refine⟨_,rfl,.inl ⟨rfl, ?_⟩⟩;rintro⟨c,G,h⟩;obtain⟨j,I,Q⟩:=ybk G;exact m j I c (by rw[yab I,Q]) h)
 unfold xO LQ;rw[e,ya];rcases M with⟨rfl,h⟩|⟨k,c,l,R,rfl⟩
 .dsimp only;rw[ya,yW (show ag ((-1:Int) < 0)=ae by decide)];exact⟨_,af,rfl,by simpa using h⟩
 .dsimp only;rw[ya];dsimp only;rw[yX (dn (by omega)),Zp l,ya];exact⟨_,ae,rfl,by simpa using⟨c,ybj l,R⟩⟩
theorem ZK5{a b:Nat}(h:a+b<=100000):wi ((Zz (du (wi ((a:Int)+(b:Int)))) 1).toNat:Int)=(((a+b) / 2:Nat):Int):=by
 rw[ZE (z:=(a:Int)+(b:Int)) (by omega) (by omega),QY]
 have e:(du ((a:Int)+(b:Int))).toNat=a+b:=by
  unfold du;rw[UInt64.toNat_ofNat'];omega
 rw[e,ZE (by omega) (by omega)]
def OR(l:yL Cond):Prop:=∀(p q:Nat)(x y:Cond),p < q->l[p]? =ab x->l[q]? =ab y->bV x y
theorem OS{a b c:Cond}(h:bV a b)(k:bV b c):bV a c:=by
 unfold bV at*;omega
structure zQ(l:List Cond)(c:Cond)(k:Nat):Prop where
 le:k<=l.length
 lo:∀p x,p < k->l[p]? =ab x->bV x c
 hi:∀p x,k<=p->l[p]? =ab x->¬bV x c
theorem ZGM{l:yL Cond}(hl:l.length<=1000)(j:OR l)(c:Cond):∃(k:Nat)(b:Bool),WL yD l c=ab ((k:Int),b)/\zQ l c k:=by
 obtain⟨o,e,k,rfl,F⟩:=Wr (step:=QS yD) (λst=>∃a b:Nat,st=(l,(l.length:Int),(a:Int),(b:Int),c)/\a<=b/\b<=l.length/\(∀p x,p < a->l[p]? =ab x->bV x c)/\∀p x,b<=p->l[p]? =ab x->¬bV x c)
  (λst=>(st.2.2.2.1 - st.2.2.1).toNat) (λo=>∃k:Nat,o=(l,(l.length:Int),(k:Int),c)/\zQ l c k) (by
    rintro _ ⟨a,b,rfl,U,G,I,M⟩;unfold QS;dsimp only;by_cases z:a < b
    .left;rw[yW (Zx z),ZK5 (by omega)];have S:(a+b) / 2 < l.length:=by omega
     obtain⟨x,f,_⟩:=Zj S;rw[Zp f,ya];obtain⟨v,A,E⟩:=NS x c;rw[A,ya];by_cases Q:v < 0
     .rw[yW (yY Q),Zq (by omega)]
      have m:bV x c:=Classical.byContradiction λq=>by
       have:=E.2 q;omega
      refine⟨_,rfl,⟨(a+b) / 2+1,b,rfl,by omega,G,λp y T g=> ?_,M⟩,by dsimp only;omega⟩;by_cases e:p=(a+b) / 2
      .subst e;rw[f]at g;cases g;exact m
      .exact OS (j p _ _ _ (by omega) g f) m
     .rw[yX (by rw[yN];exact Q)];have m:¬bV x c:=E.1 (by omega);refine⟨_,rfl,⟨a,(a+b) / 2,rfl,by omega,by omega,I,λp y T g q=> ?_⟩,by dsimp only;omega⟩;by_cases e:p=(a+b) / 2
      .subst e;rw[f]at g;cases g;exact m q
      .exact m (OS (j _ p _ _ (by omega) f g) q)
    .right;have:a=b:=by omega
     subst this;rw[yX (by rw[ZB];decide)]
     exact⟨_,rfl,a,rfl,G,I,M⟩) (l,(l.length:Int),(0:Int),(l.length:Int),c) ⟨0,l.length,rfl,by omega,by omega,λp x h=>by omega,λp x h f=>by
      have:=(yu.1 f).1;omega⟩ (by dsimp only;omega)
 unfold WL;rw[e,ya];dsimp only;by_cases R:k < l.length
 .obtain⟨x,f,_⟩:=Zj R;obtain⟨v,A,E⟩:=NS x c;rw[yW (Zx R),Zp f,ya,A,ya];exact⟨k,_,rfl,F⟩
 .rw[yX (dn (by omega))];exact⟨k,_,rfl,F⟩
def qi(s:yG)(c:Cond)(k:Nat):yG:=(s.1,s.2.1,s.2.2.1.take k++c::s.2.2.1.drop k,s.2.2.2)
theorem ZIQ{s:yG}(hl:s.2.2.1.length<=16)(h:OR s.2.2.1)(c:Cond):∃k,pY yD s c=ab (qi s c k)/\zQ s.2.2.1 c k:=by
 obtain⟨k,b,j,l⟩:=ZGM (by omega) h c;refine⟨k, ?_,l⟩;unfold pY;by_cases f:s.2.2.1=[]
 .rw[f,yW (by rfl)]
  have m:k=0:=by
   have:=l.le;rw[f]at this;simpa using this
  subst m;unfold LS;rw[f]at j;rw[f,j,ya];unfold Y8;rw[yW (by decide),ya];unfold LR;rw[yW (show dU ([]:yL Cond).length (ab ((0:Nat):Int)) ad=ae by decide),yX (show¬((([c]:yL Cond).length:Int)==0)=ae by rw[yT];simp),yW (show((((0:Nat):Int))==(([]:yL Cond).length:Int))=ae by decide),yW (show cg ([]:yL Cond).length ([c]:yL Cond).length 40=ae from ZS (by simp) (by simp)),ya]
  unfold qi;rw[f];rfl
 .have g:¬s.2.2.1.isEmpty=ae:=by
   rw[List.isEmpty_iff];exact f
  rw[yX g,j,ya]
  have y:Y8 yD s.2.2.1=ab s.2.2.1:=by
   unfold Y8;rw[yW (ZS (by omega) (by omega))]
  have z:xR (k:Int) s.2.2.1 c=ab (s.2.2.1.take k++c::s.2.2.1.drop k):=by
   unfold xR;have:=l.le;rw[yW (by rw[yi,yi,yP,yP,yP];omega),yat]
  rw[y,ya,yX g,z,ya];rfl
theorem ZGN{l:yL Cond}{c:Cond}{k:Nat}(h:k<=l.length)(j:Nat):(l.take k++c::l.drop k)[j]? =if j < k then l[j]? else if j=k then ab c else l[j - 1]? :=by
 have y:(l.take k).length=k:=by rw[yaa,Nat.min_eq_left h]
 by_cases f:j < k
 .rw[yW f,ybe (by omega),List.getElem?_take,yW f]
 .rw[yX f,yaq (by omega),y];by_cases g:j=k
  .rw[yW g,g,Nat.sub_self];rfl
  .rw[yX g];obtain⟨m,z⟩:∃m,j - k=m+1:=⟨j - k - 1,by omega⟩;rw[z,yak,List.getElem?_drop];congr 1;omega
theorem OT{ch:Chan}{s:yG}(h:iv ch s):OR s.2.2.1:=by
 have m:∀d p x y,s.2.2.1[p]? =ab x->s.2.2.1[p+d+1]? =ab y->bV x y:=by
  intro d
  induction d with
  |zero=>
   intro p x y j f;have g:=(yu.1 f).1
   exact(h.conds (p+0+1) g y f).2.1 x (by omega) (by simpa using j)
  |succ d E=>
   intro p x y j f;have g:=(yu.1 f).1;obtain⟨z,A,_⟩:=Zj (l:=s.2.2.1) (k:=p+d+1) (by omega);exact OS (E p x z j A) ((h.conds (p+(d+1)+1) g y f).2.1 z (by omega) (by rw[show p+(d+1)+1 - 1=p+d+1 by omega];exact A))
 intro p q x y F j f;obtain⟨d,rfl⟩:∃d,q=p+d+1:=⟨q - p - 1,by omega⟩;exact m d p x y j f
theorem zR{ch:Chan}{s:yG}(h:iv ch s):∀c,c∈s.2.2.1->kc c:=λc g=>by
 obtain⟨j,f,l⟩:=ybk g;exact(h.conds j f c (by rw[yab f,l])).1
theorem ZK6(r n:Int):0<=df r n/\df r n<=196000:=by
 unfold df;split
 .rename_i h;split
  .rename_i k;obtain⟨f,g⟩:=h;obtain⟨j,l⟩:=k;have m:0<=r*(68+8*n):=Int.mul_nonneg f (by omega);have y:r*(68+8*n)<=1000*(68+8*n):=Int.mul_le_mul_of_nonneg_right g (by omega);omega
  .omega
 .omega
theorem ZIR{ch:Chan}{s:yG}(h:iv ch s){a b:Int}(M:s.2.1=[a,b]){c:Cond}(Q:kc c)(R:¬zO s.2.2.1 c.1 c.2.1){k:Nat}(y:zQ s.2.2.1 c k)(hl:s.2.2.1.length < 16){t:bw}(ht:ch.2.2.2.1[(1 - c.1).toNat]? =ab t)
 (w2:ch.2.2.2.1.length=2) (h1:t.2.2.2.2.1<=c.2.2.1) (h2:(off (1 - c.1) s.2.2.1).1 < t.2.2.2.1) (h3:(off (1 - c.1) s.2.2.1).2+c.2.2.1<=t.2.2.2.2.2) {l b':Int} (hh:(c.1=0/\l=a - c.2.2.1/\b'=b)\/(c.1=1/\l=a/\b'=b - c.2.2.1)) (ha':0<=l) (hb':0<=b')
 (A:ch.2.2.2.2=0->l >= wi (df s.2.2.2 ((s.2.2.1.length+1:Nat):Int)+660)) (E:ch.2.2.2.2=1->b' >= wi (df s.2.2.2 ((s.2.2.1.length+1:Nat):Int)+660)):
 iv ch (s.1,[l,b'],s.2.2.1.take k++c::s.2.2.1.drop k,s.2.2.2):=by
 obtain⟨a0,b0,e,ra,rb,S,_,_⟩:=h.fY;rw[M]at e
 obtain⟨rfl,rfl⟩:a=a0/\b=b0:=by
  simp only[List.cons.injEq,and_true]at e;exact e
 have F:∀x,x∈s.2.2.1->1<=x.2.2.1/\x.2.2.1<=1125899906842624:=λx f=>(zR h x f).2.2.1
 have hm:∀x,x∈s.2.2.1.take k++c::s.2.2.1.drop k->x∈s.2.2.1\/x=c:=λx f=>by
  rcases ycm.1 f with q|q
  .exact .inl (List.mem_of_mem_take q)
  .rcases ybs.1 q with q|q
   .exact .inr q
   .exact .inl (List.mem_of_mem_drop q)
 have G:∀x,x∈s.2.2.1.take k++c::s.2.2.1.drop k->1<=x.2.2.1/\x.2.2.1<=1125899906842624:=λx f=>by
  rcases hm x f with q|rfl
  .exact F x q
  .exact Q.2.2.1
 have len:(s.2.2.1.take k++c::s.2.2.1.drop k).length=s.2.2.1.length+1:=by
  have:=y.le;simp only[ym,yaa,yag,yaz];omega
 have cs:=OO s.2.2.1 F;have T:wi (a+b)=a+b:=ZE (by omega) (by omega);have c1:=Q.2.2.1;rw[T,OP _ _ F (by omega) (by omega) (by omega)]at S;refine⟨h.am,h.at_,h.op,h.side,h.no,⟨l,b',rfl,by omega,by omega, ?_, ?_, ?_⟩,h.rate, ?_, ?_, ?_⟩
 .show dy (wi (l+b')) (s.2.2.1.take k++c::s.2.2.1.drop k)=ch.2.1;rw[ZE (z:=l+b') (by omega) (by omega),OP _ _ G (by omega) (by omega) (by rw[len];omega),ZGK];omega
 .show _->l >= wi (df s.2.2.2 (((s.2.2.1.take k++c::s.2.2.1.drop k).length:Nat):Int)+660);rw[len];exact A
 .show _->b' >= wi (df s.2.2.2 (((s.2.2.1.take k++c::s.2.2.1.drop k).length:Nat):Int)+660);rw[len];exact E
 .show(s.2.2.1.take k++c::s.2.2.1.drop k).length<=16;omega
 .show∀j,j < (s.2.2.1.take k++c::s.2.2.1.drop k).length->cm ch (s.2.2.1.take k++c::s.2.2.1.drop k) j;intro j hj x f;rw[ZGN y.le]at f;rw[len]at hj;refine⟨?_, ?_, ?_⟩
  .by_cases q:j < k
   .rw[yW q]at f;exact zR h x (ybj f)
   .rw[yX q]at f;by_cases r:j=k
    .rw[yW r]at f;cases f;exact Q
    .rw[yX r]at f;exact zR h x (ybj f)
  .intro p hp0 m;rw[ZGN y.le]at m;by_cases q:j < k
   .rw[yW q]at f;rw[yW (by omega)]at m;exact OT h _ _ _ _ (by omega) m f
   .rw[yX q]at f;by_cases r:j=k
    .rw[yW r]at f;cases f;rw[yW (by omega)]at m;exact y.lo _ _ (by omega) m
    .rw[yX r]at f;by_cases u:j - 1=k
     .rw[yX (by omega),yW u]at m;cases m;have n1:=y.hi (j - 1) x (by omega) f;have n2:¬(x.1=c.1/\x.2.1=c.2.1):=λq=>R ⟨x,ybj f,q⟩;unfold bV at*;omega
     .rw[yX (by omega),yX u]at m;exact OT h _ _ _ _ (by omega) m f
  .intro U g;by_cases q:x=c
   .subst q;rw[ht]at g;cases g;exact h1
   .have W:x∈s.2.2.1:=by
     by_cases Y:j < k
     .rw[yW Y]at f;exact ybj f
     .rw[yX Y]at f;by_cases r:j=k
      .rw[yW r]at f;cases f;exact absurd rfl q
      .rw[yX r]at f;exact ybj f
    obtain⟨i,Z,i2⟩:=ybk W;exact(h.conds i Z x (by rw[yab Z,i2])).2.2 U g
 .intro i hi U g;have I:=h.sides i hi U g;rw[zM _ F (by omega)]at I;show(off (i:Int) (s.2.2.1.take k++c::s.2.2.1.drop k)).1<=_/\_;rw[zM _ G (by omega)];obtain⟨o1,o2⟩:=ZGL (i:Int) s.2.2.1 k c;dsimp only at I ⊢;rw[o1,o2];have X:wi (1 - (i:Int))=1 - i:=ZE (by omega) (by omega);by_cases q:c.1=wi (1 - (i:Int))
  .rw[yW q,yW q];rw[X]at q;have e1:1 - c.1=(i:Int):=by omega
   rw[e1]at ht h2 h3;rw[yat,g]at ht;cases ht;rw[zM _ F (by omega)]at h2 h3;dsimp only at h2 h3;omega
  .rw[yX q,yX q];omega
theorem ZB5{ch:Chan}{s:yG}{i:Int}(hi:i=0\/i=1){m:Int}(hm:s.2.1[i.toNat]? =ab m):Qp yD ch s i=ab (if i=ch.2.2.2.2 then wi (m - wi (df s.2.2.2 (s.2.2.1.length:Int)+660)) else m):=by
 unfold Qp;have f:bp i 2=ae:=XY (by omega) (by omega);by_cases h:i=ch.2.2.2.2
 .rw[yW (beq_iff_eq.2 h),yW f,hm,ya,NT,ya,yW h]
 .rw[yX (by rw[yT];exact h),yW f,hm,ya,yX h]
theorem ZK7{ch:Chan}(w:dC ch){s:yG}(hs:s.2.1.length=2)(c:Cond):∃t e,xS yD ch s c=ab (t,e)/\(e=0->au yD ch t=ab ae/\iv ch t/\t.2.1.length=2/\t.2.2.1.length=s.2.2.1.length+1):=by
 obtain⟨br,Z,_,g3⟩:=tN w hs;unfold xS;rw[Z,ya]
 cases br with
 |false=>
  rw[yW (by decide)]
  exact⟨_,_,rfl,λh=>absurd h (by decide)⟩
 |true=>
  have h:=g3 rfl;rw[yX (by decide),ZBU,ya];by_cases E:kc c
  case neg=>
   rw[yZ E,yW (by decide)];exact⟨_,_,rfl,λh=>absurd h (by decide)⟩
  obtain⟨w1,w2,t,w3,w4⟩:=Zsi w.t E.1;have len:=h.len;have A:bp c.1 2=ae:=XY E.1.1 (by have:=E.1.2;omega);obtain⟨a,b,j⟩:=kb hs;obtain⟨fcx,fb,f1,f2⟩:=ZIP s c.1 c.2.1 (by omega);rw[yY E,yX (by decide),yW w2,w3,ya,Zsh _ _ (by omega),ya,f1,ya]
  cases fb with
  |true=>
   rw[yW (by rfl)]
   exact⟨_,_,rfl,λh=>absurd h (by decide)⟩
  |false=>
   have Q:¬zO s.2.2.1 c.1 c.2.1:=λq=>absurd (f2.2 q) (by decide);rw[yX (show¬(af=ae) by decide)];by_cases q1:c.2.2.1 < t.2.2.2.2.1
   .rw[yW (yY q1)];exact⟨_,_,rfl,λh=>absurd h (by decide)⟩
   rw[yX (by rw[yN];exact q1)];by_cases q2:(s.2.2.1.length:Int) >= 16
   .rw[yW (yY q2)];exact⟨_,_,rfl,λh=>absurd h (by decide)⟩
   rw[yX (by rw[yN];exact q2)];by_cases R:(off (wi (1 - c.1)) s.2.2.1).1 >= t.2.2.2.1
   .rw[yW (yY R)];exact⟨_,_,rfl,λh=>absurd h (by decide)⟩
   rw[yX (by rw[yN];exact R)];dsimp only;by_cases M:wi ((off (wi (1 - c.1)) s.2.2.1).2+c.2.2.1) > t.2.2.2.2.2
   .rw[yW (yY M)];exact⟨_,_,rfl,λh=>absurd h (by decide)⟩
   rw[yX (by rw[yN];exact M),yW A];have am:∀x,x∈s.2.2.1->1<=x.2.2.1/\x.2.2.1<=1125899906842624:=λx S=>(zR h x S).2.2.1;have ob:(off (wi (1 - c.1)) s.2.2.1)=(((VQ (wi (1 - c.1)) s.2.2.1).length:Int),dX (VQ (wi (1 - c.1)) s.2.2.1)):=zM _ am (by omega);have oc:=OO (VQ (wi (1 - c.1)) s.2.2.1) λx S=>am x (List.mem_filter.1 S).1;have ol:(VQ (wi (1 - c.1)) s.2.2.1).length<=s.2.2.1.length:=List.length_filter_le _ _;have c1:=E.2.2.1;rw[ZE (z:=(off (wi (1 - c.1)) s.2.2.1).2+c.2.2.1) (by rw[ob];dsimp only;omega) (by rw[ob];dsimp only;omega)]at M;rw[w1]at R M;obtain⟨k,k1,k2⟩:=ZIQ len (OT h) c;have fb:=ZK6 s.2.2.2 ((s.2.2.1.length+1:Nat):Int);have g:wi (df s.2.2.2 ((s.2.2.1.length+1:Nat):Int)+660)=df s.2.2.2 ((s.2.2.1.length+1:Nat):Int)+660:=ZE (by omega) (by omega);obtain⟨a0,b0,T,ra,rb,_,_,_⟩:=h.fY;rw[j]at T
   obtain⟨rfl,rfl⟩:a=a0/\b=b0:=by
    simp only[List.cons.injEq,and_true]at T;exact T
   have ln:(qi s c k).2.2.1.length=s.2.2.1.length+1:=by
    have:=k2.le;unfold qi;simp only[ym,yaa,yag,yaz];omega
   have fin:∀(l y m:Int),(c.1=0/\l=a - c.2.2.1/\y=b)\/(c.1=1/\l=a/\y=b - c.2.2.1)->0<=l->0<=y->([l,y]:yL Int)[c.1.toNat]? =ab m->
    ∃G e',((Qp yD ch (s.1,[l,y],s.2.2.1.take k++c::s.2.2.1.drop k,s.2.2.2) ch.2.2.2.2).bind λd=>if ag (d < 0)=ae then ab (((0,[0,0],[],0):yG),(8:Int)) else
     (Qp yD ch (s.1,[l,y],s.2.2.1.take k++c::s.2.2.1.drop k,s.2.2.2) c.1).bind λf=>if ag (f < t.2.1)=ae then ab (((0,[0,0],[],0):yG),(10:Int)) else ab (((s.1,[l,y],s.2.2.1.take k++c::s.2.2.1.drop k,s.2.2.2):yG),(0:Int)))=ab (G,e')/\
     (e'=0->au yD ch G=ab ae/\iv ch G/\G.2.1.length=2/\G.2.2.1.length=s.2.2.1.length+1):=by
    intro l y m hh U W hm
    obtain⟨n,F⟩:∃n,([l,y]:yL Int)[ch.2.2.2.2.toNat]? =ab n:=by
     rcases h.op with q|q
     .rw[q];exact⟨l,rfl⟩
     .rw[q];exact⟨y,rfl⟩
    rw[ZB5 h.op (show((s.1,[l,y],s.2.2.1.take k++c::s.2.2.1.drop k,s.2.2.2):yG).2.1[ch.2.2.2.2.toNat]? =ab n from F),ya,yW rfl]
    have X:(s.2.2.1.take k++c::s.2.2.1.drop k).length=s.2.2.1.length+1:=ln;dsimp only;rw[X,g]
    have nb: -1125899906842624<=n/\n<=1125899906842624:=by
     rcases h.op with q|q
     .rw[q]at F;cases F;omega
     .rw[q]at F;cases F;omega
    rw[ZE (z:=n - (df s.2.2.2 ((s.2.2.1.length+1:Nat):Int)+660)) (by omega) (by omega)];by_cases q5:n - (df s.2.2.2 ((s.2.2.1.length+1:Nat):Int)+660) < 0
    .rw[yW (yY q5)];exact⟨_,_,rfl,λh=>absurd h (by decide)⟩
    rw[yX (by rw[yN];exact q5),ZB5 (by have:=E.1;omega) (show((s.1,[l,y],s.2.2.1.take k++c::s.2.2.1.drop k,s.2.2.2):yG).2.1[c.1.toNat]? =ab m from hm),ya]
    generalize (if c.1=ch.2.2.2.2 then _ else m)=f
    by_cases q7:f < t.2.1
    .rw[yW (yY q7)];exact⟨_,_,rfl,λh=>absurd h (by decide)⟩
    .rw[yX (by rw[yN];exact q7)];have st:=ZIR h j E Q k2 (by omega) w4 w.t (by omega) (by omega) (by omega) hh U W (λq=>by rw[q]at F;cases F;rw[g];omega) (λq=>by rw[q]at F;cases F;rw[g];omega);exact⟨_,_,rfl,λ_=>⟨Zy5 w (ZuB w Z) st,st,rfl,ln⟩⟩
   rcases (show c.1=0\/c.1=1 by have:=E.1;omega) with q|q
   .rw[j];rw[show([a,b]:yL Int)[c.1.toNat]? =ab a by rw[q];rfl,ya];by_cases I:a < c.2.2.1
    .rw[yW (yY I)];exact⟨_,_,rfl,λh=>absurd h (by decide)⟩
    rw[yX (by rw[yN];exact I),k1,ya,yW A];have Y:(qi s c k).2.1=[a,b]:=j;rw[Y,show([a,b]:yL Int)[c.1.toNat]? =ab a by rw[q];rfl,ya,yW A,ya,ZE (z:=a - c.2.2.1) (by omega) (by omega),show([a,b]:yL Int).set c.1.toNat (a - c.2.2.1)=[a - c.2.2.1,b] by rw[q];rfl];exact fin _ _ (a - c.2.2.1) (.inl ⟨q,rfl,rfl⟩) (by omega) (by omega) (by rw[q];rfl)
   .rw[j];rw[show([a,b]:yL Int)[c.1.toNat]? =ab b by rw[q];rfl,ya];by_cases I:b < c.2.2.1
    .rw[yW (yY I)];exact⟨_,_,rfl,λh=>absurd h (by decide)⟩
    rw[yX (by rw[yN];exact I),k1,ya,yW A];have Y:(qi s c k).2.1=[a,b]:=j;rw[Y,show([a,b]:yL Int)[c.1.toNat]? =ab b by rw[q];rfl,ya,yW A,ya,ZE (z:=b - c.2.2.1) (by omega) (by omega),show([a,b]:yL Int).set c.1.toNat (b - c.2.2.1)=[a,b - c.2.2.1] by rw[q];rfl];exact fin _ _ (b - c.2.2.1) (.inr ⟨q,rfl,rfl⟩) (by omega) (by omega) (by rw[q];rfl)
def kys(k:dF):yL yU:=[k.1,k.2.1,k.2.2.1,k.2.2.2.1,k.2.2.2.2.1]
theorem ZGO{seed:yL yB}(hs:seed.length=32)(z:dF):∃all,Zc (Vo yD) yD ((0:Int),seed,z,([0,0,0,0,0]:yL yU))=ab (seed,z,all)/\all.length=5/\∀e,e∈all->Key e:=by
 obtain⟨x,E,all,rfl,F,G⟩:=Xz (step:=Vo yD) 5 (λk s=>∃all,s=((k:Int),seed,z,all)/\all.length=5/\∀j e,j < k->all[j]? =ab e->Key e) (λx=>∃all,x=(seed,z,all)/\all.length=5/\∀e,e∈all->Key e)
  (i:=((0:Int),seed,z,([0,0,0,0,0]:yL yU))) ⟨_,rfl,rfl,λj e h=>by omega⟩ (by omega) (by
  rintro k _ T ⟨all,rfl,m,y⟩;obtain⟨U,A,_⟩:=Zj (l:=all) (k:=k) (by omega);obtain⟨q,I,M⟩:=ZIB (h:=Sha.iM (kf tx [seed,[w8 (((k+1:Nat):Int))]])) (Sha.JX _);left;unfold Vo;dsimp only
  rw[yW (yY (by omega)),Zq (by omega),NX (by decide) (by simp) (by
   intro l g;simp only[ybs,List.not_mem_nil,or_false]at g;rcases g with rfl|rfl
   .omega
   .simp),ya,I,ya,yW (XY (by omega) (by omega)),yat,A,ya]
  refine⟨_,rfl,_,rfl,by rw[List.length_set];exact m,λj e Q f=> ?_⟩;by_cases c:j=k
  .subst c;rw[List.getElem?_set_self (by omega)]at f;cases f;exact M
  .rw[List.getElem?_set_ne (Ne.symm c)]at f;exact y j e (by omega) f) (by
  rintro _ ⟨all,rfl,m,y⟩;unfold Vo;dsimp only;rw[yX (show¬ag (((5:Nat):Int) < 5)=ae by decide)];refine⟨_,rfl,all,rfl,m,λe f=> ?_⟩;obtain⟨j,R,S⟩:=ybk f;exact y j e (by omega) (by rw[<-S];exact yab R))
 exact⟨all,E,F,G⟩
structure oE(k:dF):Prop where
 key:∀e,e∈kys k->Key e
 len:k.2.2.2.2.2.length=32
theorem ZGP{seed:yL yB}(hs:seed.length=32):∃k,tz yD seed=ab k/\oE k:=by
 obtain⟨all,g,h,j⟩:=ZGO hs (0,0,0,0,0,yx 32 0)
 obtain⟨a,b,c,d,e,rfl⟩:∃a b c d e,all=[a,b,c,d,e]:=by
  match all,h with
  |[a,b,c,d,e],_=>exact⟨a,b,c,d,e,rfl⟩
 unfold tz;refine⟨(a,b,c,d,e,Sha.iM (kf tx [seed,[6]])), ?_,⟨j,show(Sha.iM (kf tx [seed,[6]])).length=32 from Sha.JX _⟩⟩
 have g:Zc (Vo yD) yD ((0:Int),seed,((0,0,0,0,0,dg):dF),([0,0,0,0,0]:yL yU))=_:=g;rw[g,ya];dsimp only
 rw[show([a,b,c,d,e]:yL yU)[0]? =ab a from rfl,ya,show([a,b,c,d,e]:yL yU)[1]? =ab b from rfl,ya,show([a,b,c,d,e]:yL yU)[2]? =ab c from rfl,ya,show([a,b,c,d,e]:yL yU)[3]? =ab d from rfl,ya,show([a,b,c,d,e]:yL yU)[4]? =ab e from rfl,ya,NX (by decide) (by simp) (by
  intro l f;simp only[ybs,List.not_mem_nil,or_false]at f;rcases f with rfl|rfl
  .omega
  .simp),ya]
noncomputable def eV(k:dF):bo:=(B k.1.toNat,B k.2.1.toNat,B k.2.2.1.toNat,B k.2.2.2.1.toNat,B k.2.2.2.2.1.toNat)
theorem ZDL(k:dF):xN yD k=ab (eV k):=by
 unfold xN;rw[tG,ya,tG,ya,tG,ya,tG,ya,tG,ya];rfl
structure ki(x:aE):Prop where
 s2:x.1.length=2
 s32:∀a,a∈x.1->List.length a=32
 t2:x.2.1.length=2
 h2:x.2.2.1.length=2
 hb:∀a,a∈x.2.2.1-> -9223372036854775808<=a/\a<=9223372036854775807
 ob: -9223372036854775808<=x.2.2.2.1/\x.2.2.2.1<=9223372036854775807
abbrev cO:yL yB:=dg
theorem Zsu{x:aE}{i:Int}(l:ag (i < 2)=ae)(h1:bp i 2=ae){seed:yL yB}(hs:x.1[i.toNat]? =ab seed){m:Int}(hm:x.2.2.1[i.toNat]? =ab m){g:dF}(z:tz yD seed=ab g)(j:Chan)(z2:yL dF)(z3:yG)
 {kits:yL dF} (f:i.toNat < kits.length) {ch:Chan} (hb:i.toNat < ch.2.2.1.length):(0<=m/\m<=1099511627776->Ym yD (i,x,j,z2,z3,kits,ch)=ab (.inl (wi (i+1),x,j,z2,z3,kits.set i.toNat g,(ch.1,wi (ch.2.1+m),ch.2.2.1.set i.toNat (eV g),ch.2.2.2.1,ch.2.2.2.2))))/\
  (¬(0<=m/\m<=1099511627776)->∃y,Ym yD (i,x,j,z2,z3,kits,ch)=ab (.inr (.inl (af,y)))):=by
 unfold Ym;dsimp only;rw[yW l,yW h1,hs,ya,z,ya,yW h1,yab f,ya,yW h1,List.getElem?_set_self f,ya,ZDL,ya,yW h1,yab hb,ya,yW h1,hm,ya];constructor
 .intro h;rw[yX (dn (by omega)),yW h1,ya,yX (dn (by omega)),yW h1,ya]
 .intro h;by_cases c:m < 0
  .rw[yW (yY c)];exact⟨_,rfl⟩
  .rw[yX (by rw[yN];exact c),yW h1,ya,yW (yY (by omega))];exact⟨_,rfl⟩
structure oF(x:aE)(ch:Chan)(kits:List dF)(s:yG):Prop where
 kt:∃k0 k1,kits=[k0,k1]/\oE k0/\oE k1/\ch.2.2.1=[eV k0,eV k1]
 OU:ch.1=(cO,0)
 wf:dC ch
 right:au yD ch s=ab ae
 st:iv ch s
 h2:s.2.1.length=2
 few:s.2.2.1.length<=8
theorem ZDM{x:aE}{ch:Chan}(w:dC ch)(hl:x.2.2.2.2.2.length<=8)(f:Chan)(z2:yL dF)(z3:yG)(kits:yL dF){s:yG}(j:au yD ch s=ab ae)(hs:s.2.1.length=2)(E:s.2.2.1.length=0):
 ∃t,Zc (YG yD) yD ((0:Int),x,f,z2,z3,kits,ch,s)=ab (x,f,z2,z3,kits,ch,t)/\au yD ch t=ab ae/\t.2.1.length=2/\t.2.2.1.length<=8:=by
 obtain⟨_,e,t,rfl,h⟩:=Xz (step:=YG yD) x.2.2.2.2.2.length (λk u=>∃t:yG,u=((k:Int),x,f,z2,z3,kits,ch,t)/\au yD ch t=ab ae/\t.2.1.length=2/\t.2.2.1.length<=k)
  (λu=>∃t:yG,u=(x,f,z2,z3,kits,ch,t)/\au yD ch t=ab ae/\t.2.1.length=2/\t.2.2.1.length<=8) (i:=((0:Int),x,f,z2,z3,kits,ch,s)) ⟨s,rfl,j,hs,by omega⟩ (by omega) (by
    rintro k _ g ⟨t,rfl,t1,t2,t3⟩;obtain⟨c,l,_⟩:=Zj g;obtain⟨u,e,m,y⟩:=ZK7 w t2 c;unfold YG;dsimp only;rw[yW (Zx g),Zp l,ya,m,ya];dsimp only;by_cases h:e=0
    .rw[yW (beq_iff_eq.2 h),Zq (by omega)];obtain⟨z,_,A,F⟩:=y h;exact .inl ⟨_,rfl,u,rfl,z,A,by omega⟩
    .rw[yX (by rw[yT];exact h),Zq (by omega)];exact .inl ⟨_,rfl,t,rfl,t1,t2,by omega⟩) (by
    rintro _ ⟨t,rfl,t1,t2,t3⟩;unfold YG;dsimp only;rw[yX (by rw[ZB];decide)];exact⟨_,rfl,t,rfl,t1,t2,by omega⟩)
 exact⟨t,e,h⟩
theorem ZDN{x:aE}(j:ki x):∃r,Vq yD x=ab r/\(r.2.2.2=ae->oF x r.1 r.2.1 r.2.2.1):=by
 obtain⟨s0,s1,hs⟩:=kb j.s2;obtain⟨f,g,E⟩:=kb j.h2;obtain⟨l,F,G⟩:=ZGP (j.s32 s0 (by rw[hs];simp));obtain⟨z,I,M⟩:=ZGP (j.s32 s1 (by rw[hs];simp));have b0:=j.hb f (by rw[E];simp);have b1:=j.hb g (by rw[E];simp);unfold Vq;have Q:=Zsu (x:=x) (i:=0) (by decide) (by decide) (seed:=s0) (by rw[hs];rfl) (m:=f) (by rw[E];rfl) F ((cO,0),0,[(0,0,0,0,0),(0,0,0,0,0)],[(0,0,0,0,0,0),(0,0,0,0,0,0)],0) [(0,0,0,0,0,cO),(0,0,0,0,0,cO)] (0,[0,0],[],0) (kits:=[(0,0,0,0,0,cO),(0,0,0,0,0,cO)]) (by decide) (ch:=((cO,0),0,[(0,0,0,0,0),(0,0,0,0,0)],x.2.1,x.2.2.2.1)) (by show(0:Nat) < 2;decide);by_cases R:0<=f/\f<=1099511627776
 case neg=>
  obtain⟨y,S⟩:=Q.2 R;rw[zy S,ya];exact⟨_,rfl,λh=>absurd (show af=ae from h) (by decide)⟩
 have X:=Zsu (x:=x) (i:=1) (by decide) (by decide) (seed:=s1) (by rw[hs];rfl) (m:=g) (by rw[E];rfl) I ((cO,0),0,[(0,0,0,0,0),(0,0,0,0,0)],[(0,0,0,0,0,0),(0,0,0,0,0,0)],0) [(0,0,0,0,0,cO),(0,0,0,0,0,cO)] (0,[0,0],[],0) (kits:=[l,(0,0,0,0,0,cO)]) (by show(1:Nat) < 2;decide) (ch:=((cO,0),wi (0+f),[eV l,(0,0,0,0,0)],x.2.1,x.2.2.2.1)) (by show(1:Nat) < 2;decide);by_cases Y:0<=g/\g<=1099511627776
 case neg=>
  obtain⟨y,S⟩:=X.2 Y;rw[zz (Q.1 R) S,ya];exact⟨_,rfl,λh=>absurd (show af=ae from h) (by decide)⟩
 have e0:wi (0+f)=f:=by rw[ZE (by omega) (by omega)];omega
 have e1:wi (wi (0+f)+g)=f+g:=by rw[e0,ZE (by omega) (by omega)]
 have r2:Ym yD ((2:Int),x,(((cO,0),0,[(0,0,0,0,0),(0,0,0,0,0)],[(0,0,0,0,0,0),(0,0,0,0,0,0)],0):Chan),([(0,0,0,0,0,cO),(0,0,0,0,0,cO)]:yL dF),((0,[0,0],[],0):yG),[l,z],(((cO,0),wi (wi (0+f)+g),[eV l,eV z],x.2.1,x.2.2.2.1):Chan))=ab (.inr (.inr (x,((cO,0),0,[(0,0,0,0,0),(0,0,0,0,0)],[(0,0,0,0,0,0),(0,0,0,0,0,0)],0),[(0,0,0,0,0,cO),(0,0,0,0,0,cO)],(0,[0,0],[],0),[l,z],((cO,0),wi (wi (0+f)+g),[eV l,eV z],x.2.1,x.2.2.2.1)))):=by
  unfold Ym;dsimp only;rw[yX (show¬(ag ((2:Int) < 2)=ae) by decide)]
 rw[qe (Q.1 R) (X.1 Y) r2,ya,e1];dsimp only;generalize T:(((cO,0),f+g,[eV l,eV z],x.2.1,x.2.2.2.1):Chan)=ch
 have w:dC ch:=by
  subst T;exact⟨rfl,j.t2,by show-9223372036854775808<=f+g;omega,by show f+g<=9223372036854775807;omega,by show-9223372036854775808<=(0:Int);decide,by show(0:Int)<=9223372036854775807;decide,j.ob.1,j.ob.2⟩
 have hf:ch.1=(cO,0):=by subst T;rfl
 have U:ch.2.2.1=[eV l,eV z]:=by subst T;rfl
 by_cases Z:(x.2.2.2.2.2.length:Int) > 8
 .rw[yW (yY Z)];exact⟨_,rfl,λh=>absurd (show af=ae from h) (by decide)⟩
 rw[yX (by rw[yN];exact Z)];have h2:((0,x.2.2.1,[],x.2.2.2.2.1):yG).2.1.length=2:=j.h2;obtain⟨b,g1,_,_⟩:=tN w h2;rw[g1,ya]
 cases b with
 |false=>
  rw[yW (by decide)]
  exact⟨_,rfl,λh=>absurd (show af=ae from h) (by decide)⟩
 |true=>
  rw[yX (by decide)];obtain⟨t,t1,t2,t3,t4⟩:=ZDM (x:=x) w (by omega) ((cO,0),0,[(0,0,0,0,0),(0,0,0,0,0)],[(0,0,0,0,0,0),(0,0,0,0,0,0)],0) [(0,0,0,0,0,cO),(0,0,0,0,0,cO)] (0,[0,0],[],0) [l,z] g1 h2 rfl;rw[t1,ya];dsimp only;refine⟨_,rfl,λ_=>⟨⟨l,z,rfl,G,M,U⟩,hf,w,t2, ?_,t3,t4⟩⟩;obtain⟨b',A,_,W⟩:=tN w t3;rw[t2]at A;exact W (ybl A).symm
theorem ZK8(p:yU):QT yD p=ab [([p],0,0,0)]:=by
 unfold QT tj WY;rw[yW (ZS (by simp) (by simp)),ya,ya]
theorem ZAL{ch:Chan}(w:dC ch){s:yG}(h:au yD ch s=ab ae)(st:iv ch s){id:yL yB}{n:Int}(hn:0<=n/\n<=63){c2:Chan}(hc:c2=((id,n),ch.2)):au yD c2 s=ab ae/\iv c2 s/\dC c2:=by
 subst hc;have g:dC (((id,n),ch.2):Chan):=⟨w.b,w.t,w.a0,w.a1,by show-9223372036854775808<=n;omega,by show n<=9223372036854775807;omega,w.o0,w.o1⟩;obtain⟨t0,t1,j⟩:=kb w.t;have f:iv (((id,n),ch.2):Chan) s:=⟨st.am,hn,st.op,st.side,st.no,st.fY,st.rate,st.len,st.conds,st.sides⟩;exact⟨Zy5 g (ZK4 g (t0:=t0) (t1:=t1) j st.am hn st.op st.side (ZIN w j (ZuB w h))) f,f,g⟩
end Go.Proofs.YtcbhhaigilifgaaGreat
end
section
namespace Go.Ev
open Go.RowKit
abbrev Wd(ro:yO Nat):Fence:={ Fence.wide with round:=ro}
section
variable{P:yg}{ro:yO Nat}{n:Nat}
theorem ZIS{row:String}{args:Array yh}{w:yr}{R:yh->yr->Prop}(h:Rows P row args w R):RowsIn (Wd ro) n P row args w R:=
 λc f _=>let ⟨v,g,r,s⟩:=h c f;⟨v,g,r,stepsIn_wide.2 s⟩
theorem ZGQ{f:FuncId}{args:Array yh}{w:yr}{R:Ending->yr->Prop}(h:Calls P f args w R):CallsIn (Wd ro) n P f args w R:=(callsIn_wide (n:=n)).2 h
theorem OV{o:yj}{a0 a:Act}{w:yr}{K:Act->yr->Prop}{Q:Exit->Act->yr->Prop}(m:∀c,o.op≠ .defer c)(ht:a.tmps=a0.tmps)
 (h:o.wp P a0 w (λa1 w1=>a1.defers=a0.defers/\K { a1 with defers:=a.defers} w1) (λe a1 w1=>Q e { a1 with defers:=a.defers} w1)):o.wpIn (Wd ro) n P a w K Q:=by
 unfold Oper.wpIn;refine⟨λf _=>trivial, ?_⟩;rw[Oper.semAt_plain _ _ _ m]
 have j:a.eval=a0.eval:=by
  cases a;cases a0;simp only at ht;subst ht;rfl
 have g:∀v,a.put o.dst v={ a0.put o.dst v with defers:=a.defers}:=by
  intro v;cases a;cases a0;simp only at ht;subst ht;unfold Act.put;grind
 have E:{ a0 with defers:=a.defers}=a:=by
  cases a;cases a0;grind
 rw[j];unfold Oper.wp at h;generalize (execOp a0.eval o).run P w=r at h ⊢
 cases r with
 |ok x F=>
  cases x with
  |value v=>simp only[Oper.upon,Oper.uponIn]at h ⊢;rw[g];exact h.2
  |skip=>simp only[Oper.upon,Oper.uponIn]at h ⊢;rw[g];exact h.2
  |defer d=>
   simp only[Oper.upon]at h;have z:=h.1;unfold Act.put at z
   cases G:o.dst <;> rw[G]at z <;> simp at z
  |enter f y=>
   simp only[Oper.upon,Oper.uponIn]at h ⊢;refine⟨λA=>by simp[Fence.wide]at A,ZGQ (Calls.mono h λe l j=> ?_)⟩
   cases e with
   |returned v=>
    show K (a.put o.dst v) l;rw[g]
    exact j.2
   |panicked c=>
    have j:Q (Exit.panic c) { a0 with defers:=a.defers} l:=j;rw[E]at j
    exact j
   |outgrown=>
    obtain⟨a1,w1,q⟩:=j
    exact⟨_,_,q⟩
  |row row y=>
   simp only[Oper.upon,Oper.uponIn]at h ⊢;refine⟨λA=>by simp[Fence.wide]at A,ZIS (Rows.mono h λv l j=> ?_)⟩;rw[g]
   exact j.2
  |_=>exact h.elim
 |halt x F=>
  cases x <;> simp only[Oper.upon,Oper.uponIn]at h ⊢
  all_goals first|exact h|(rw[E]at h;exact h)
theorem OW{o:yj}{a:Act}{J:Sg}{d:Dv}{H':yL aq}{K:Act->yr->Prop}{Q:Exit->Act->yr->Prop}(f:∀c,o.op≠ .defer c)(h:YD P o { a with defers:=[]} J d H')
 (g:∀v J',J'.H=H'->To J J'->Ok J'->yJ J' d v->K (a.put o.dst v) J'.w):o.wpIn (Wd ro) n P a J.w K Q:=
 OV (a0:={ a with defers:=[]}) f rfl (h _ _ λv J' e to j l=>by
  refine⟨by unfold Act.put;cases o.dst <;> rfl, ?_⟩;have:({ ({ a with defers:=[]}:Act).put o.dst v with defers:=a.defers}:Act)=a.put o.dst v:=by unfold Act.put;cases o.dst <;> rfl
  rw[this];exact g v J' e to j l)
def QW(o:yj):Bool:=match o.op with
 |.defer _=>af
 |_=>ae
theorem qj{o:yj}(h:QW o=ae):∀c,o.op≠ .defer c:=λc e=>by
 unfold QW at h;grind
theorem Qw{a:Act}{d:yO Tmp}{v:yh}:(a.put d v).defers=a.defers:=by
 unfold Act.put;grind
theorem OX{a:Act}{d:yO Tmp}{v:yh}:({ a with defers:=[]}:Act).put d v={ a.put d v with defers:=[]}:=by
 unfold Act.put;grind
theorem OY{ops:Array yj}(T:yL Nat){Q:Exit->Act->yr->Prop}{ts':yL Dv}{yK:yL yj}:∀(l:yL yj)(ts:yL Dv)(J:Sg)(a:Act)(hs hs':yL ao)(C:yL Prop)(H':yL aq),
 Ok J->aC J ts { a with defers:=[]}->cz P ops l ts J.H hs=ab (C,ts',H',hs')->aX C->l.all QW=ae->l.all (λo=>match o.dst with|some d=> !T.contains d|none=>ae)=ae->
 (∀A J',(∀t,t∈T->A.tmps[t]? =a.tmps[t]?)->J'.H=H'->To J J'->Ok J'->aC J' ts' { A with defers:=[]}->A.defers=a.defers->wpListIn (Wd ro) n P ops Q yK A J'.w)->wpListIn (Wd ro) n P ops Q (l++yK) a J.w
 |[],ts,J,a,hs,hs',C,H',I,M,h,hc,E,R,S=>by
  simp only[cz,Option.some.injEq,yq]at h;obtain⟨rfl,rfl,rfl,rfl⟩:=h
  exact S a J (λ_ _=>rfl) rfl (To.refl J) I M rfl
 |o::l,ts,J,a,hs,hs',C,H',I,M,h,hc,E,R,S=>by
  simp only[cz]at h;split at h
  .rename_i C1 d H1 U h1;split at h
   .rename_i C2 ts2 H2 W h2;simp only[Option.some.injEq,yq]at h;obtain⟨rfl,rfl,rfl,rfl⟩:=h;obtain⟨c1,c2⟩:=Zl.1 hc;simp only[List.all_cons,yi]at E R
    have X:∀v t,t∈T->(a.put o.dst v).tmps[t]? =a.tmps[t]? :=by
     intro v t Y;unfold Act.put;grind
    have next:∀v J',J'.H=H1->To J J'->Ok J'->aC J' (fL ts o.dst d) (({ a with defers:=[]}:Act).put o.dst v)->wpListIn (Wd ro) n P ops Q (l++yK) (a.put o.dst v) J'.w:=by
     intro v J' Z to j g;rw[OX]at g;refine OY T l _ J' _ U W C2 H2 j g (by rw[Z];exact h2) c2 E.2 R.2 λA J2 hk e2 to2 ok2 m hd=> ?_;exact S A J2 (λt Y=>(hk t Y).trans (X v t Y)) e2 (to.trans to2) ok2 m (by rw[hd,Qw])
    show if Region.wanted o (yielded ops a.tmps) then _ else _
    have y:=uT (P:=P) (ops:=ops) I M h1 c1 (λF w1=>F.defers=[]/\wpListIn (Wd ro) n P ops Q (l++yK) { F with defers:=a.defers} w1) (λe F w1=>Q e { F with defers:=a.defers} w1) (λv J' Z to j g=>by
     refine⟨Qw, ?_⟩;have:=next v J' Z to j g
     have e:({ ({ a with defers:=[]}:Act).put o.dst v with defers:=a.defers}:Act)=a.put o.dst v:=by unfold Act.put;cases o.dst <;> rfl
     rw[e];exact this)
    by_cases G:Region.wanted o (yielded ops a.tmps)=ae
    .rw[yW G];have z:Region.wanted o (yielded ops ({ a with defers:=[]}:Act).tmps)=ae:=G;rw[yW z]at y;exact OV (a0:={ a with defers:=[]}) (qj E.1) rfl y
    .rw[yX G];have z:¬Region.wanted o (yielded ops ({ a with defers:=[]}:Act).tmps)=ae:=G;rw[yX z]at y;refine⟨λf _=>trivial, ?_⟩;have e:({ ({ a with defers:=[]}:Act).put o.dst undef with defers:=a.defers}:Act)=a.put o.dst undef:=by unfold Act.put;cases o.dst <;> rfl
     simp_all
   .cases h
  .cases h
theorem ug{ops:Array yj}(T:yL Nat){Q:Exit->Act->yr->Prop}{ts':yL Dv}(l:yL yj)(ts:yL Dv)(J:Sg)(a:Act)(hs hs':yL ao)(C:yL Prop)(H':yL aq)
 (ok:Ok J) (g:aC J ts { a with defers:=[]}) (h:cz P ops l ts J.H hs=ab (C,ts',H',hs')) (hc:aX C) (hl:l.all QW=ae) (j:l.all (λo=>match o.dst with|some d=> !T.contains d|none=>ae)=ae)
 (m:∀f J',(∀t,t∈T->f.tmps[t]? =a.tmps[t]?)->J'.H=H'->To J J'->Ok J'->aC J' ts' { f with defers:=[]}->f.defers=a.defers->Q .normal f J'.w):wpListIn (Wd ro) n P ops Q l a J.w:=by
 have:=OY (P:=P) (ro:=ro) (n:=n) (ops:=ops) (Q:=Q) (yK:=[]) T l ts J a hs hs' C H' ok g h hc hl j m;grind
def bC(P:yg)(ro:yO Nat)(c:Code)(ts:yL Dv)(H:yL aq)(ex:Ex)(ts':yL Dv)(H':yL aq):Prop:=
 ∀(n:Nat)(J:Sg)(a:Act),Ok J->J.H=H->aC J ts { a with defers:=[]}->
  c.wpIn (Wd ro) n P (λe f g=>e=ex.to/\f.defers=a.defers/\∃J',J'.w=g/\J'.H=H'/\To J J'/\Ok J'/\aC J' ts' { f with defers:=[]}) a J.w
theorem YX{ops:Array yj}{id:Nat}{ts ts':yL Dv}{H H':yL aq}{hs hs':yL ao}{C:yL Prop}(h:cz P ops ops.toList ts H hs=ab (C,ts',H',hs'))(hc:aX C)(hl:ops.toList.all QW=ae):
 bC P ro (.region id ops af) ts H .normal ts' H':=λn J a j l m=>
 wpIn_region_list (ug [] ops.toList ts J a hs hs' C H' j m (by rw[l];exact h) hc hl (by rw[yal];intro o _;cases o.dst <;> rfl) λz J' _ e to g f y=>⟨rfl,y,J',rfl,e,to,g,f⟩)
theorem ZIT{ops:Array yj}{id:Nat}{l:yL yj}{o:yj}{ts ts1:yL Dv}{H H1 H':yL aq}{hs:yL ao}{C:yL Prop}{d:Dv}(hl:ops.toList=l++[o])(h:cz P ops l ts H hs=ab (C,ts1,H1,[]))(hc:aX C)(hn:l.all QW=ae)
 (F:o.guard=ad) (hd:QW o=ae) (j:∀(J:Sg)(a:Act),Ok J->J.H=H1->aC J ts1 a->YD P o a J d H'):bC P ro (.region id ops af) ts H .normal (fL ts1 o.dst d) H':=λn J a G I M=>by
 refine wpIn_region_list ?_;rw[hl];refine OY [] l ts J a hs [] C H1 G M (by rw[I];exact h) hc hn (by rw[yal];intro o _;cases o.dst <;> rfl) λQ J1 _ R m y f z=> ?_;refine wpListIn_plain F λK S=> ?_;refine OW (qj hd) (j J1 { Q with defers:=[]} y R f) λv J2 T g A U=>S _ _ ?_;have E:=kz (o:=o) (f.to g.leaf) U;rw[OX]at E;exact⟨rfl,Qw.trans z,J2,rfl,T,m.trans g,A,E⟩
theorem iT{x y:Code}{ts ts1 ts':yL Dv}{H H1 H':yL aq}{ex:Ex}(h:bC P ro x ts H .normal ts1 H1)(k:bC P ro y ts1 H1 ex ts' H'):bC P ro (.seq x y) ts H ex ts' H':=λn J a E F G=>by
 refine wpIn_seq (wpIn_mono (h n J a E F G) ?_);rintro e I w1 ⟨rfl,M,J1,rfl,Q,j,l,f⟩;refine wpIn_mono (k n J1 I l Q f) ?_;rintro e S T ⟨rfl,m,J2,rfl,R,z,A,g⟩;exact⟨rfl,m.trans M,J2,rfl,R,j.trans z,A,g⟩
theorem ZIU{x y:Code}{ts ts':yL Dv}{H H':yL aq}{ex:Ex}(h:bC P ro x ts H ex ts' H')(l:ex≠ .normal):bC P ro (.seq x y) ts H ex ts' H':=λn J a A E F=>by
 refine wpIn_seq (wpIn_mono (h n J a A E F) ?_);rintro e G w1 ⟨rfl,m,J1,rfl,z,g,j,f⟩
 cases ex with
 |normal=>exact absurd rfl l
 |exit id=>exact⟨rfl,m,J1,rfl,z,g,j,f⟩
 |ret=>exact⟨rfl,m,J1,rfl,z,g,j,f⟩
theorem uh{t:Tmp}{x y:Code}{b:Bool}{ts ts':yL Dv}{H H':yL aq}{ex:Ex}(hb:ts[t]? =ab (.p (.bool b)))(h:bC P ro (if b then x else y) ts H ex ts' H'):bC P ro (.cond (.tmp t) x y) ts H ex ts' H':=λn J a g j f=>
 wpIn_cond (t:=b) (Yh (f.at_ t _ hb)) (h n J a g j f)
theorem OZ{ts:yL Dv}{H:yL aq}:bC P ro .skip ts H .normal ts H:=λn J a f g h=>wpIn_skip ⟨rfl,rfl,J,rfl,g,To.refl J,f,h⟩
theorem PA{ts:yL Dv}{H:yL aq}:bC P ro .ret ts H .ret ts H:=λn J a f g h=>wpIn_ret ⟨rfl,rfl,J,rfl,g,To.refl J,f,h⟩
theorem PB{id:Nat}{c:Code}{ts ts':yL Dv}{H H':yL aq}{ex:Ex}(h:bC P ro c ts H ex ts' H')(m:∀j,ex≠ .exit j):bC P ro (.block id c) ts H ex ts' H':=λn J a A E F=>by
 refine wpIn_block (wpIn_mono (h n J a A E F) ?_);rintro e G w1 ⟨rfl,y,J1,rfl,z,g,l,f⟩
 cases ex with
 |normal=>exact⟨rfl,y,J1,rfl,z,g,l,f⟩
 |exit id=>exact absurd rfl (m id)
 |ret=>exact⟨rfl,y,J1,rfl,z,g,l,f⟩
end
end Go.Ev
namespace Go.Ev
open Go.RowKit
theorem ZuC{J:Sg}{l:Nat}{o:Obj}(o':Obj)(ok:Ok J)(hn:∀(id:Nat),J.m[id]? ≠ab (ab l))(ho:J.w.heap[l]? =ab o)(hc:o.isCells=af):
 ck J { J with w:=J.w.putObj l o'}/\Ok { J with w:=J.w.putObj l o'}:=by
 have j:∀b,b≠l->(J.w.putObj l o').heap[b]? =J.w.heap[b]? :=λb j=>World.putObj_heap_other j;have F:∀(id b:Nat),J.m[id]? =ab (ab b)->(J.w.putObj l o').heap[b]? =J.w.heap[b]? :=λid b h=>j b λe=>hn id (e ▸ h)
 have y:ck J { J with w:=J.w.putObj l o'}:=by
  refine⟨λb x v f g=>⟨?_,g⟩,λid b f g=>⟨f,g⟩,λid s len A c f=> ?_,λid b f g=>⟨f,g⟩,λid v s st e d h=>⟨v,st,d,h,yl _,λ_=>⟨rfl,λb z j hc=>⟨z,(F id b j).trans hc,rfl⟩⟩⟩⟩
  .show(J.w.putObj l o').cell? ⟨b,x,ad⟩=ab v
   have E:b≠l:=λe=>by
    subst e;unfold World.cell? at f;rw[ho]at f;cases o <;> simp_all[Obj.isCells]
   rw[World.cell?_of_block (w:=J.w) (j b E)];exact f
  .obtain⟨e,I,g,M,Q⟩:=f;refine⟨e,I,g,M,λR=> ?_⟩
   all_goals grind
 exact⟨y,⟨ok.len,ok.inj,λi b h=>by show b < (J.w.putObj l o').heap.size;rw[World.putObj_size];exact ok.lt i b h,λi e a f g=>nu y (λb j=>F i b (by rw[g,j])) (ok.dD i e a f g),
  λb h=>ok.new b (by have G:(J.w.putObj l o').heap.size<=b:=h;rw[World.putObj_size]at G;exact G),ok.own⟩⟩
structure St(Jb:Sg)(l D:Nat)(r:Loop)(J:Sg):Prop where
 to:To Jb J
 ok:Ok J
 bl:Jb.w.heap.size<=l
 bd:Jb.w.heap.size<=D
 ne:D≠l
 nl:∀(id:Nat),J.m[id]? ≠ab (ab l)
 nd:∀(id:Nat),J.m[id]? ≠ab (ab D)
 hl:J.w.heap[l]? =ab (.loop r)
 hd:J.w.heap[D]? =ab (.deferred (ab []))
theorem zS{J J':Sg}(to:To J J'){b:Nat}(hb:b < J.w.heap.size)(hn:∀(id:Nat),J.m[id]? ≠ab (ab b)):∀(id:Nat),J'.m[id]? ≠ab (ab b):=λid h=>by
 rcases to.same id b h with h1|h1
 all_goals grind
theorem oG{w:yr}{b:Nat}{o:Obj}(h:w.heap[b]? =ab o):b < w.heap.size:=(yco.1 h).1
theorem St.step{Jb J J':Sg}{l D:Nat}{r:Loop}(h:St Jb l D r J)(to:To J J')(ok:Ok J'):St Jb l D r J' where
 to:=h.to.trans to
 ok:=ok
 bl:=h.bl
 bd:=h.bd
 ne:=h.ne
 nl:=zS to (oG h.hl) h.nl
 nd:=zS to (oG h.hd) h.nd
 hl:=(to.block l (oG h.hl) h.nl).trans h.hl
 hd:=(to.block D (oG h.hd) h.nd).trans h.hd
theorem St.turn{Jb J:Sg}{l D:Nat}{r:Loop}(h:St Jb l D r J)(r':Loop):St Jb l D r' { J with w:=J.w.putObj l (.loop r')}/\ck J { J with w:=J.w.putObj l (.loop r')}:=by
 obtain⟨f,g⟩:=ZuC (.loop r') h.ok h.nl h.hl rfl;refine⟨⟨⟨h.to.leaf.trans f,h.to.F,h.to.B,h.to.os,h.to.tape,h.to.output, ?_,λb j m=> ?_,h.to.same,h.to.len⟩,g,h.bl,h.bd,h.ne,h.nl,h.nd, ?_, ?_⟩,f⟩
 .show _<=(J.w.putObj l (.loop r')).heap.size;rw[World.putObj_size];exact h.to.size
 .have:b≠l:=by have:=h.bl;omega
  exact(World.putObj_heap_other this).trans (h.to.block b j m)
 .exact World.putObj_heap_same (oG h.hl)
 .exact(World.putObj_heap_other h.ne).trans h.hd
theorem St.drop{Jb J:Sg}{l D:Nat}{r:Loop}{H:yL aq}(h:St Jb l D r J)(g:Ok Jb)(keep:yL Nat)(ho:once (yo Jb.H.length++keep)=ae)(f:aQ J.H (yo Jb.H.length++keep) (yo Jb.H.length++keep)=ab H):
 St Jb l D r (gy J (yo Jb.H.length++keep) H):=by
 have y:∀b,(∀(id:Nat),J.m[id]? ≠ab (ab b))->∀(id:Nat),(gy J (yo Jb.H.length++keep) H).m[id]? ≠ab (ab b):=λb z id e=>by
  obtain⟨j,_,A⟩:=nI e;exact z j A
 exact⟨oY g h.to ho f,oX h.ok ho f,h.bl,h.bd,h.ne,y l h.nl,y D h.nd,h.hl,h.hd⟩
section
variable{P:yg}{n:Nat}
theorem ZGS{Jb J:Sg}{l D:Nat}{r:Loop}{tsR ts1 G:yL Dv}{H H1 H2:yL aq}{ex:Ex}{tmps:Array yh}(st:St Jb l D r J)(I:r.state=.ready)(hH:J.H=H)(X:aC J tsR { tmps:=tmps,defers:=[]})
 (ha:bC P (ab l) r.assign tsR H .normal ts1 H1) (hb:bC P (ab l) r.body ts1 H1 ex G H2) (M:ex=.normal\/ex=.ret) (R:Ending->yr->Prop)
 (T:∀J',St Jb l D { r with state:=if ex=.normal then .ready else .done,pending:=if ex=.normal then ad else ab .ret} J'->ck J J'->J'.H=H2->R (.returned (.bool (ag (ex=.normal)))) J'.w):
 RoundIn (Wd ad) n P l r.fn tmps r.assign r.body J.w R:=by
 refine roundIn_of_wpIn trivial ?_;refine wpIn_mono (ha n J _ st.ok hH X) ?_;rintro e Y w1 ⟨rfl,Z,J1,rfl,e1,y,Q,z⟩;have A:=st.step y Q;obtain⟨E,g⟩:=A.turn { r with state:=.busy};refine⟨_,run_beginRound A.hl I, ?_⟩;refine wpIn_mono (hb n { J1 with w:=J1.w.putObj l (.loop { r with state:=.busy})} Y E.ok e1 (z.to g)) ?_;rintro e a2 w3 ⟨rfl,hd2,J3,rfl,U,F,S,W⟩;have j:=E.step F S;have h:ck J J3:=(y.leaf.trans g).trans F.leaf;rcases M with rfl|rfl
 .obtain⟨m,f⟩:=j.turn { r with state:=.ready,pending:=ad};exact⟨_,_,run_endRound ad j.hl,T { J3 with w:=J3.w.putObj l (.loop { r with state:=.ready,pending:=ad})} m (h.trans f) U⟩
 .obtain⟨m,f⟩:=j.turn { r with state:=.done,pending:=ab .ret};exact⟨_,_,run_endRound (ab .ret) j.hl,T { J3 with w:=J3.w.putObj l (.loop { r with state:=.done,pending:=ab .ret})} m (h.trans f) U⟩
theorem ZIV{F:Fence}{ops:Array yj}{id:Nat}{a:Act}{w:yr}{Q:Exit->Act->yr->Prop}(hm:P.follows .mixedOrders=ae)(z:Qz ops.toList 0=ae)(Inv:(Nat->Bool)->Act->yr->Prop)
 (h0:Inv (λ_=>af) a { w with drawn:=w.drawn+1})
 (step:∀(X:Nat->Bool)(i:Nat)(o:yj)(a:Act)(w:yr),ops[i]? =ab o->X i=af->(∀e,e∈o.after->Region.binds .any e=ae->X e.on=ae)->jC ops X->Inv X a w->
   o.guard=ad/\∀(K:Act->yr->Prop),(∀A w',Inv (λj=>X j || decide (j=i)) A w'->K A w')->o.wpIn F n P a w K Q)
 (hQ:∀X A w',(∀j,j < ops.size->X j=ae)->Inv X A w'->Q .normal A w'):(Code.region id ops ae).wpIn F n P Q a w:=by
 refine wpIn_region_any hm ?_
 have S:∀(yD:Nat)(f:Array Bool)(a:Act)(w:yr),f.size=ops.size->gL (λj=>f.getD j af) ops.size<=yD->jC ops (λj=>f.getD j af)->
  Inv (λj=>f.getD j af) a w->wpAnyIn F n P .any ops Q yD f a w:=by
  intro yD
  induction yD with
  |zero=>
   intro f a w T E G g;have zU:=va (Nat.le_zero.1 E);refine⟨?_,hQ _ a w zU g⟩;apply List.eq_nil_iff_forall_not_mem.2;intro j l;obtain⟨h1,o,R,_⟩:=mem_ready.1 l;have hjn:j < ops.size:=(yco.1 R).1;have h2:=zU j hjn;have U:j < f.size:=by omega
   simp only[Array.getD,U,dif_pos]at h1 h2;rw[h1]at h2
   cases h2
  |succ yD ih=>
   intro f a w T E G g;refine⟨λhr=> ?_,λi hi=> ?_⟩
   .have zU:∀j,j < ops.size->f.getD j af=ae:=by
     intro j
     induction j using Nat.strongRecOn with
     |_ j ihj=>
      intro l
      cases hx:f.getD j af with
      |true=>rfl
      |false=>
       have U:j < f.size:=by omega
       have hjo:ops[j]? =ab ops[j]:=ycl l
       have:j∈Region.ready .any ops f:=by
        refine mem_ready.2 ⟨?_,ops[j],hjo,λe he hb=> ?_⟩
        .grind
        .have hlt:=vg ops.toList 0 z j ops[j] (by simp) e he hb;grind
       rw[hr]at this;cases this
    exact hQ _ a w zU g
   .obtain⟨h1,o,R,h⟩:=mem_ready.1 hi;have hin:i < ops.size:=(yco.1 R).1;have eX:i < f.size:=by omega
    let X:Nat->Bool:=λj=>f.getD j af
    have W:X i=af:=by
     grind
    have hgetset:∀j,(f.setIfInBounds i ae).getD j af=(X j || decide (j=i)):=by
     intro j;by_cases m:j=i
     .simp_all
     .simp only[X,ycu,ycz,m,decide_false,ycj];grind
    have Z:(λj=>(f.setIfInBounds i ae).getD j af)=λj=>X j || decide (j=i):=funext hgetset;obtain⟨hg,hop⟩:=step X i o a w R W h G g;have hw:Region.wanted o (yielded ops a.tmps)=ae:=by simp[Region.wanted,hg]
    show wpOpIn F n P ops Q i _ a w;unfold wpOpIn;simp only[R,hw,if_true];refine hop _ λA w' I=>ih _ A w' (by simpa using T) ?_ ?_ ?_
    .have:=vf (Y:=λj=>(f.setIfInBounds i ae).getD j af) W hin (λj _=>hgetset j);have hX':gL X ops.size<=yD+1:=E;omega
    .intro j o' l hx e he hb;show(f.setIfInBounds i ae).getD e.on af=ae;rw[hgetset];have M:(f.setIfInBounds i ae).getD j af=ae:=hx;rw[hgetset]at M;by_cases m:j=i
     .subst m;rw[R]at l;cases l;have:X e.on=ae:=h e he hb;rw[this];rfl
     .simp only[m,decide_false,ycj]at M;have:X e.on=ae:=G j o' l M e he hb;rw[this];rfl
    .rw[Z];exact I
 have y:∀j,(ycg ops.size af).getD j af=af:=by
  intro j;by_cases l:j < ops.size <;> simp[Array.getD,l]
 have hff:(λj=>(ycg ops.size af).getD j af)=λ_=>af:=funext y;refine S ops.size (ycg ops.size af) a _ (by simp) ve ?_ ?_
 .intro i o _ hx;grind
 grind
end
end Go.Ev
namespace Go.Ev
open Go.RowKit
section
variable{P:yg}
theorem Zy6{fn:Func}{J J':Sg}{a:Act}{ts':yL Dv}{H1 H':yL aq}{r:Dv}{keep:yL Nat}{hs:yL ao}{C:yL Prop}(ok:Ok J)(to:To J J')(ok':Ok J')(e1:J'.H=H1)(m:aC J' ts' { a with defers:=[]})
 (g:fin P fn ts' H1 J.H.length keep hs=ab (C,r,H')) (hc:aX C):
 ∃v,(results fn a.tmps).run P J'.w=.ok v J'.w/\∃J'',J''.w=J'.w/\J''.H=H'/\To J J''/\Ok J''/\yJ J'' r v:=by
 unfold fin at g;split at g
 .rename_i C1 A l;dsimp only at g
  have E:∀r,(kU A).rn (bc (yo J.H.length++keep))=ab r\/(kU (A.map Dv.arg)).rn (bc (yo J.H.length++keep))=ab r->once (yo J.H.length++keep)=ae->
   aQ H1 (yo J.H.length++keep) (yo J.H.length++keep)=ab H'->aX C1->∃v,(results fn a.tmps).run P J'.w=.ok v J'.w/\
    ∃J'',J''.w=J'.w/\J''.H=H'/\To J J''/\Ok J''/\yJ J'' r v:=by
   intro r hrn j f z;rw[<-e1]at l f;obtain⟨y,G,F⟩:=vk (P:=P) ok' m _ _ _ _ l z;refine⟨if h:y.toArray.size=1 then y.toArray[0] else .tuple y.toArray, ?_,gy J' (yo J.H.length++keep) H',rfl,rfl, ?_,oX ok' j f, ?_⟩
   .rw[UW,Sem.run_bind, <-Array.toArray_toList (xs:=fn.results),List.mapM_toArray];simp_all
   .exact oY ok to j f
   .rcases hrn with hrn|hrn
    .exact kY (jD f) hrn (vl F)
    .refine kY (jD f) hrn (vl ?_);exact SL F
  all_goals grind
 .cases g
def PC(J J':Sg)(f:yL Deferred):Prop:=
 f=[]\/∃D,f=[{ target:=.collected D,args:= #[]}]/\J.w.heap.size<=D/\(∀(id:Nat),J'.m[id]? ≠ab (ab D))/\J'.w.heap[D]? =ab (.deferred (ab []))
theorem ZuD{g:FuncId}{fn:Func}{c:Code}{args:yL Dv}{H H':yL aq}{r:Dv}(hf:P.funcs[g]? =ab fn)(hb:fn.body=ab c)
 (hr:∀(n:Nat)(J:Sg)(a:Act),Ok J->J.H=H->aC J (args++yx (fn.ntmps - args.length) .an) { a with defers:=[]}->a.defers=[]->
   c.wpIn (Wd ad) n P (λe W w'=>(e=.ret\/e=.normal)/\∃J' ts' H1 keep hs C,J'.w=w'/\To J J'/\Ok J'/\J'.H=H1/\aC J' ts' { W with defers:=[]}/\fin P fn ts' H1 H.length keep hs=ab (C,r,H')/\aX C/\PC J J' W.defers) a J.w):ca P g args H r H':=by
 intro J vs M Q y;refine(callsIn_wide (n:=0)).1 (callsIn_of_wp_marks (F:=Wd ad) hf hb trivial ?_ rfl);have hl:=uB y
 have yM:aC J (args++yx (fn.ntmps - args.length) .an) { tmps:=vs.toArray++ycg (fn.ntmps - vs.toArray.size) undef,defers:=[]}:=by
  refine⟨by simp[hl],λi d E=> ?_,rfl⟩;rcases Nat.lt_or_ge i args.length with h1|h1
  .rw[ybe h1]at E;obtain⟨v,m,G⟩:=uC y E
   have I:(vs.toArray++ycg (fn.ntmps - vs.toArray.size) undef)[i]? =ab v:=by
    grind
   simp_all
  .rw[yaq h1]at E;have:=List.eq_of_mem_replicate (ybj E);rw[this];exact Yk
 refine wpIn_mono (hr 0 J { tmps:=vs.toArray++ycg (fn.ntmps - vs.toArray.size) undef,defers:=[]} M Q yM rfl) ?_;rintro e a w' ⟨he,J',ts',H1,keep,hs,C,rfl,to,z,X,f,h,Y,A⟩
 have j:LeavesInM (Wd ad) 0 P fn a.tmps (λe w'=>∃v J'',e=.returned v/\J''.w=w'/\J''.H=H'/\To J J''/\Ok J''/\yJ J'' r v) a.defers .returning J'.w:=by
  rcases A with A|⟨D,A,hD,hn,Z⟩
  .rw[A];obtain⟨v,h1,J'',m,G,I,R,S⟩:=Zy6 (a:=a) M to z X f (by rw[Q];exact h) Y;exact⟨v,h1,v,J'',rfl,m,G,I,R,S⟩
  .rw[A];obtain⟨l,T⟩:=ZuC (.deferred ad) z hn Z rfl
   have U:To J { J' with w:=J'.w.putObj D (.deferred ad)}:=⟨to.leaf.trans l,to.F,to.B,to.os,to.tape,to.output,(by
    show _<=(J'.w.putObj D (.deferred ad)).heap.size;rw[World.putObj_size];exact to.size),λb h1 m=>(World.putObj_heap_other (by omega)).trans (to.block b h1 m),to.same,to.len⟩
   obtain⟨v,h1,J'',m,G,I,R,S⟩:=Zy6 (J':={ J' with w:=J'.w.putObj D (.deferred ad)}) (a:=a) M U T X (f.to l) (by rw[Q];exact h) Y;exact⟨by simp,.inl ⟨D,_,rfl,run_takeDeferred Z,v,h1,v,J'',rfl,m,G,I,R,S⟩⟩
 rcases he with rfl|rfl
 .exact j
 .exact j
end
end Go.Ev
end
section
set_option maxRecDepth 10000
namespace Go.Proofs.YtcbhhaigilifgaaGreat
open Go Go.Ev
noncomputable def ib:Array yj:=match ZR yb 128 with|.seq (.region _ o _) _=>o|_=> #[]
noncomputable def iU:Array yj:=match ZR yb 128 with|.seq _ (.block _ (.loop (.seq (.region _ o _) _)))=>o|_=> #[]
noncomputable def dS:Array yj:=match ZR yb 128 with|.seq _ (.block _ (.loop (.seq _ (.seq _ (.seq (.block _ (.seq (.region _ o _) _)) _)))))=>o|_=> #[]
noncomputable def cn:Array yj:=match ZR yb 128 with|.seq _ (.block _ (.loop (.seq _ (.seq _ (.seq (.block _ (.seq _ (.seq (.region _ o _) _))) _)))))=>o|_=> #[]
noncomputable def iV:Array yj:=match ZR yb 128 with|.seq _ (.block _ (.loop (.seq _ (.seq _ (.seq _ (.region _ o _))))))=>o|_=> #[]
noncomputable def PD:Code:=.seq (.region 1 iU af) (.seq (.cond (.tmp 12) .skip (.exit 0)) (.seq (.block 1 (.seq (.region 2 dS af) (.seq (.region 3 cn ae) (.cond (.tmp 23) .ret .skip)))) (.region 4 iV af)))
theorem ZB6:∃fn,yb.funcs[128]? =ab fn/\fn.body=ab (.seq (.region 0 ib af) (.block 0 (.loop PD)))/\fn.ntmps=25/\fn.results= #[]:=by
 have h:(yb.funcs[128]?).map (λfn=>(fn.body,fn.ntmps,fn.results))=ab (ab (.seq (.region 0 ib af) (.block 0 (.loop PD))),25, #[]):=by kernel_rfl
 obtain⟨fn,g,f⟩:=Option.map_eq_some_iff.1 h;simp only[yq]at f;exact⟨fn,g,f.1,f.2.1,f.2.2⟩
theorem qk:cn.size=9:=by kernel_rfl
def lP:Nat->yL Nat
 |2=>[1]|5=>[4]|6=>[3,5]|8=>[7]|_=>[]
def lQ:Nat->yL Nat
 |1=>[5]|3=>[2]|4=>[5]|_=>[]
noncomputable def bZ:Nat->yO Tmp:=aT cn.toList
theorem ZJj:∀i j,i < cn.size->j < cn.size->bZ i≠ad->bZ i=bZ j->i=j:=by
 rw[qk];intro i j l m;have h:((yo 9).all λi=>(yo 9).all λj=>bZ i==ad || !(bZ i==bZ j) || decide (i=j))=ae:=by kernel_rfl
 have h1:=yal.1 (yal.1 h i (ybq.2 l)) j (ybq.2 m);intro g f;rw[f]at g;simp only[Bool.or_eq_true,yP,yT,Bool.not_eq_true',beq_eq_false_iff_ne]at h1;rcases h1 with(h1|h1)|h1
 .exact absurd (f.symm.trans h1) g
 .exact absurd f h1
 .exact h1
structure It(N n:Nat)(Hm HS:Nat->List aq)(X:Nat->aq)(tsI tsC tsD tsG:Nat->List Dv)(goes:Nat->Bool)(D:Nat->Nat->Dv)(ch st:Nat->Pl)(its0:List Dv):Prop where
 e0:∃ts C hs,cz yb ib ib.toList its0 (Hm 0) hs=ab (C,ts,Hm 0,[])/\aX C/\aI [1,2,9,10,11] 0 ts=tsI 0
 ix:∀k,(tsI k)[11]? =ab (.p (.int .i64 (k:Int)))
 e1:∀k,k<=n->∃C hs,cz yb iU iU.toList (tsI k) (Hm k) hs=ab (C,tsC k,Hm k,[])/\aX C
 c1:∀k,(tsC k)[12]? =ab (.p (.bool (ag (k < n))))
 e2:∀k,k < n->∃C hs,cz yb dS dS.toList (tsC k) (Hm k) hs=ab (C,tsD k,Hm k++[X k],[])/\aX C
 ic:∀k,(tsD k).length=25
 e3:∀k,k < n->∀i,i < 7->∃C hs,cC yb (ba cn i) (dq 25 bZ (D k) (tsD k) (lP i) (lQ i)) (Hm k++[X k]) hs=ab (C,D k i,Hm k++[X k],[])/\aX C
 d0:∀k,D k 0=.an
 d2:∀k,D k 2=.p (ch k)
 d6:∀k,D k 6=.p (st k)
 d7:∀k,D k 7=.p (.bool (goes k))
 d8:∀k,D k 8=.p (.bool (!goes k))
 e8:∀k H,cC yb (ba cn 8) (dq 25 bZ (D k) (tsD k) [7] []) H []=ab ([],D k 8,H,[])
 g:∀k,Dv.bB (bc (yo N)) (dq 25 bZ (D k) (tsD k) [8] [1,2,9,10,11])=ab (tsG k)
 g23:∀k,(tsG k)[23]? =ab (.p (.bool (!goes k)))
 e4:∀k,k < n->goes k=ae->∃ts C hs,cz yb iV iV.toList (tsG k) (Hm (k+1)) hs=ab (C,ts,Hm (k+1),[])/\aX C/\aI [1,2,9,10,11] 0 ts=tsI (k+1)
structure gm(N n:Nat)(Hm HS:Nat->List aq)(X:Nat->aq)(goes:Nat->Bool)(ch st:Nat->Pl)(l:Nat)(rc:Loop)(p1 p2:Tmp)(tsR:List Dv):Prop where
 round:∀k,k < n->∃ts1 ts2 H1 H2,bC yb (ab l) rc.assign ((tsR.set p1 (.p (ch k))).set p2 (.p (st k))) (Hm k++[X k]) .normal ts1 H1/\
  bC yb (ab l) rc.body ts1 H1 (if goes k=ae then .normal else .ret) ts2 H2/\aQ H2 (yo N) (yo N)=ab (if goes k=ae then Hm (k+1) else HS k)
 bB:Dv.bB (bc (yo N)) tsR=ab tsR
theorem ZMj{ops:Array yj}{X:Nat->Bool}(hc:jC ops X){i j:Nat}(hi:i < ops.size)(he:bT (ba ops i) j=ae)(g:X i=ae):X j=ae:=by
 have h:ops[i]? =ab (ba ops i):=by
  unfold ba;rw[ycu,ycl hi];rfl
 unfold bT at he;obtain⟨x,l,f⟩:=Array.any_eq_true'.1 he;simp only[yi,yT]at f;have:=hc i _ h g x l f.2;rw[<-f.1];exact this
def bare(t:Array yh):Act:={ tmps:=t,defers:=[]}
theorem ZuE{J:Sg}{ts:yL Dv}{t:Array yh}{p:Tmp}{d:Dv}{v:yh}(h:aC J ts (bare t))(hd:yJ J d v):aC J (ts.set p d) (bare (t.setIfInBounds p v)):=by
 have:=kz (o:={ dst:=ab p,op:=.move (.tmp 0),type:=0,pos:=default,after:= #[],guard:=ad}) h hd;exact this
def ui(a:Act):Nat:=match a.tmps.getD 11 undef with
 |.int _ x=>x.toNat
 |_=>0
theorem Zy8{J:Sg}{ts:yL Dv}{a:Act}{k:Nat}(h:aC J ts a)(f:ts[11]? =ab (.p (.int .i64 (k:Int)))):ui a=k:=by
 have:=ZC (h.at_ 11 _ f);unfold ui;rw[this];simp
theorem ZGU{Jb J1:Sg}{l D0:Nat}{E:Loop}{N n:Nat}{Hm HS:Nat->yL aq}{X:Nat->aq}{tsI tsC tsD tsG:Nat->yL Dv}{y:Nat->Bool}{D:Nat->Nat->Dv}{ch st:Nat->Pl}{its0:yL Dv}{p1 p2:Tmp}{tsR:yL Dv}
 (S:It N n Hm HS X tsI tsC tsD tsG y D ch st its0) (lo:gm N n Hm HS X y ch st l E p1 p2 tsR) (okb:Ok Jb) (hN:Jb.H.length=N) (hrs:E.state=.ready) (hrp:E.pending=ad) (hps:E.params= #[p1,p2])
 (st1:St Jb l D0 E J1) (hH:J1.H=Hm 0) (vs:Array yh) (hvs:vs.size=3) (hv0:vs[0]? =ab (.func (.yield l) #[] #[])) (hrep0:aC J1 its0 { tmps:=vs++ycg 22 undef,defers:=[]}) (hrR:aC J1 tsR (bare E.tmps)) (m:Nat) (R:Ending->yr->Prop)
 (hdone:∀J',(∀j,j < n->y j=ae)->St Jb l D0 E J'->J'.H=Hm n->aC J' tsR (bare E.tmps)->∀v,R (.returned v) J'.w)
 (hstop:∀J' k,k < n->y k=af->(∀j,j < k->y j=ae)->St Jb l D0 { E with state:=.done,pending:=ab .ret} J'->J'.H=HS k->aC J' tsR (bare E.tmps)->∀v,R (.returned v) J'.w):
 CallsIn (Wd ad) m yb 128 vs J1.w R:=by
 obtain⟨fn,hf,hb,hnt,hres⟩:=ZB6;refine callsIn_of_wp hf hb trivial ?_ rfl;rw[hnt,hvs];obtain⟨ts0,C0,hs0,e0,c0,m0⟩:=S.e0;have hrn:E.state=.ready:=hrs;have hrc:{ E with state:=.ready,pending:=ad}=E:=by cases E;simp_all
 have nd:ib.toList.all QW=ae/\iU.toList.all QW=ae/\dS.toList.all QW=ae/\iV.toList.all QW=ae:=⟨by kernel_rfl,by kernel_rfl,by kernel_rfl,by kernel_rfl⟩
 have nk:∀(o:Array yj),o=ib\/o=iU\/o=dS\/o=iV->o.toList.all (λo=>match o.dst with|some d=> !([0]:yL Nat).contains d|none=>ae)=ae:=by
  rintro o (rfl|rfl|rfl|rfl) <;> kernel_rfl
 refine wpIn_seq (wpIn_region_list (ug [0] ib.toList its0 J1 _ hs0 [] C0 (Hm 0) st1.ok hrep0 (by rw[hH];exact e0) c0 nd.1 (nk _ (.inl rfl)) λa2 J2 hk2 e2 to2 ok2 rep2 hd2=> ?_))
 have hy2:a2.tmps[0]? =ab (.func (.yield l) #[] #[]):=by
  rw[hk2 0 (by simp)];show(vs++ycg 22 undef)[0]? =_;rw[Array.getElem?_append_left (by omega)];exact hv0
 have st2:=st1.step to2 ok2;have rep2':aC J2 (tsI 0) { a2 with defers:=[]}:=by rw[<-m0];exact Vf _ rep2
 have rR2:=hrR.to to2.leaf
 have end_:∀(a:Act)(w:yr)(R':Prop),a.defers=[]->(∀v,R (.returned v) w)->bodyPost yb fn R .normal a w/\bodyPost yb fn R .ret a w:=λa w _ hd hR=>
  ⟨⟨hd,_,results_none hres _ _ _,hR _⟩,⟨hd,_,results_none hres _ _ _,hR _⟩⟩
 refine wpIn_block (wpIn_loop (λa w=>∃k J,k<=n/\J.w=w/\St Jb l D0 E J/\J.H=Hm k/\aC J (tsI k) { a with defers:=[]}/\a.defers=[]/\a.tmps[0]? =ab (.func (.yield l) #[] #[])/\aC J tsR (bare E.tmps)/\∀j,j < k->y j=ae)
  (λa _=>n - ui a) ⟨0,J2,Nat.zero_le _,rfl,st2,e2,rep2',hd2,hy2,rR2,λj W=>absurd W (Nat.not_lt_zero _)⟩ ?_)
 rintro a _ ⟨k,J,hk,rfl,hst,hHk,yM,hd,hy,hR,zU⟩;have hik:ui a=k:=Zy8 (a:={ a with defers:=[]}) yM (S.ix k);unfold PD;obtain⟨C1,hs1,e1,c1⟩:=S.e1 k hk;refine wpIn_seq (wpIn_region_list (ug [0] iU.toList (tsI k) J a hs1 [] C1 (Hm k) hst.ok yM (by rw[hHk];exact e1) c1 nd.2.1 (nk _ (.inr (.inl rfl))) λa3 J3 hk3 e3 to3 ok3 rep3 hd3=> ?_));have st3:=hst.step to3 ok3;have hy3:=(hk3 0 (by simp)).trans hy;have rR3:=hR.to to3.leaf;have hc12:=Yh (rep3.at_ 12 _ (S.c1 k));by_cases Z:k < n
 . 
  refine wpIn_seq (wpIn_cond_true (by rw[yY Z]at hc12;exact hc12) (wpIn_skip ?_));obtain⟨C2,hs2,e2',c2⟩:=S.e2 k Z;refine wpIn_seq (wpIn_block (wpIn_seq (wpIn_region_list (ug [0] dS.toList (tsC k) J3 a3 hs2 [] C2 (Hm k++[X k]) ok3 rep3 (by rw[e3];exact e2') c2 nd.2.2.1 (nk _ (.inr (.inr (.inl rfl)))) λa4 J4 hk4 e4 to4 ok4 rep4 hd4=> ?_))));have st4:=st3.step to4 ok4;have hy4:=(hk4 0 (by simp)).trans hy3;have rR4:=rR3.to to4.leaf;have hd4':a4.defers=[]:=hd4.trans (hd3.trans hd);obtain⟨ts1,ts2,H1,H2,ra,rb,hdrop⟩:=lo.round k Z;let T:Loop:=if y k=ae then E else{ E with state:=.done,pending:=ab .ret}
  let Inv:(Nat->Bool)->Act->yr->Prop:=λY a w=>∃J,J.w=w/\St Jb l D0 (bif Y 7 then T else E) J/\J.H=(bif Y 7 then H2 else Hm k++[X k])/\aC J (dP 9 bZ (D k) (tsD k) Y) { a with defers:=[]}/\a.defers=[]/\
   a.tmps[0]? =ab (.func (.yield l) #[] #[])/\(Y 0=ae->a.tmps[15]? =ab (.func (.yield l) #[] #[]))/\aC J tsR (bare E.tmps)
  refine wpIn_seq (ZIV (by kernel_rfl) (by kernel_rfl) Inv ?_ ?_ ?_)
  .have hdr:J4.w.grownBy { J4.w with drawn:=J4.w.drawn+1} ad:=⟨rfl,rfl,rfl,yl _,λ_ _ _=>rfl⟩;obtain⟨to5,ok5⟩:=nv ok4 hdr;refine⟨{ J4 with w:={ J4.w with drawn:=J4.w.drawn+1}},rfl,st4.step to5 ok5,e4, ?_,hd4',hy4,λh=>(by cases h),rR4.to to5.leaf⟩;rw[uV (λ_ _=>rfl)];exact rep4.to to5.leaf
  .rintro Y i o A w5 ho U hedge hcl ⟨J5,rfl,z,M,G,hd5,hy5,h15,rR5⟩;have I:i < 9:=by rw[<-qk];exact(yco.1 ho).1
   have ho':o=ba cn i:=by
    unfold ba;rw[ycu,ho];rfl
   have hg:∀i,i < 9->(ba cn i).guard=ad/\QW (ba cn i)=ae:=by
    have h:((yo 9).all λi=>(ba cn i).guard.isNone&&QW (ba cn i))=ae:=by kernel_rfl
    intro i hi;have:=yal.1 h i (ybq.2 hi);simpa using this
   have hX':∀j,bT o j=ae->Y j=ae:=by
    intro j W;unfold bT at W;obtain⟨x,x1,x2⟩:=Array.any_eq_true'.1 W;simp only[yi,yT]at x2;rw[<-x2.1];exact hedge x x1 x2.2
   have ho'':=ho';subst ho'';refine⟨(hg i I).1,λK hK=> ?_⟩
   have hjs:∀i,i < 9->∀j,j∈lP i->j < 9/\bT (ba cn i) j=ae:=by
    have h:((yo 9).all λi=>(lP i).all λj=>ag (j < 9)&&bT (ba cn i) j)=ae:=by kernel_rfl
    intro i hi j W;have:=yal.1 (yal.1 h i (ybq.2 hi)) j W;simpa using this
   have eX:∀i,i < 9->∀s,s∈lQ i->∀j,j < 9->bZ j≠ab s:=by
    have h:((yo 9).all λi=>(lQ i).all λs=>(yo 9).all λj=> !(bZ j==ab s))=ae:=by kernel_rfl
    intro i hi s hs j W;have:=yal.1 (yal.1 (yal.1 h i (ybq.2 hi)) s hs) j (ybq.2 W);simpa using this
   have hu9:∀i j,i < 9->j < 9->bZ i≠ad->bZ i=bZ j->i=j:=by
    have:=ZJj;rw[qk]at this;exact this
   have hmsk:aC J5 (dq 25 bZ (D k) (tsD k) (lP i) (lQ i)) { A with defers:=[]}:=by
    have:=vi hu9 (λj W=>⟨(hjs i I j W).1,hX' j (hjs i I j W).2⟩) (eX i I) G;rw[S.ic]at this;exact this
   have hput:∀(J6:Sg)(v:yh),ck J5 J6->yJ J6 (D k i) v->aC J6 (dP 9 bZ (D k) (tsD k) (λj=>Y j || decide (j=i))) { A.put (ba cn i).dst v with defers:=[]}:=by
    intro J6 v leaf hv;have h1:=kz (o:=ba cn i) (G.to leaf) hv;rw[OX]at h1;have h2:=uW (ts0:=tsD k) (D:=D k) hu9 I U (λj(_:j < 9)=>rfl:∀j,j < 9->(λj=>Y j || decide (j=i)) j=(Y j || decide (j=i)));have hd:(ba cn i).dst=bZ i:=by simp[bZ,aT,ho]
    rw[hd]at h1 ⊢;rw[h2]at h1;exact h1
   have hd0:∀i,i < 9->∀d,(ba cn i).dst=ab d->d≠0/\(d=15->i=0):=by
    have h:((yo 9).all λi=>match (ba cn i).dst with|some d=> !(d==0)&&(!(d==15) || decide (i=0))|none=>ae)=ae:=by kernel_rfl
    intro i hi d hd;have:=yal.1 h i (ybq.2 hi);rw[hd]at this;simp only[yi,Bool.not_eq_true',beq_eq_false_iff_ne,Bool.or_eq_true,yP]at this;exact⟨this.1,λe=>this.2.resolve_left (λh=>h e)⟩
   have hy6:∀v,(A.put (ba cn i).dst v).tmps[0]? =ab (.func (.yield l) #[] #[]):=by
    intro v;unfold Act.put
    cases hd:(ba cn i).dst with
    |none=>exact hy5
    |some d=>
     show(A.tmps.setIfInBounds d v)[0]? =_;rw[ycz,yX (hd0 i I d hd).1];exact hy5
   have h156:∀v,i≠0->Y 0=ae->(A.put (ba cn i).dst v).tmps[15]? =ab (.func (.yield l) #[] #[]):=by
    intro v jn hY0;unfold Act.put
    cases hd:(ba cn i).dst with
    |none=>exact h15 hY0
    |some d=>
     show(A.tmps.setIfInBounds d v)[15]? =_;rw[ycz,yX (λe=>jn ((hd0 i I d hd).2 e))];exact h15 hY0
   have h7:i < 7->Y 7=af:=by
    intro hi
    cases h:Y 7 with
    |false=>rfl
    |true=>
     exfalso
     suffices hh:af=ae by cases hh
     have u:∀a b,a < 9->bT (ba cn a) b=ae->Y a=ae->Y b=ae:=λa b ha he hx=>ZMj hcl (by rw[qk];exact ha) he hx;have y0:=u 7 0 (by decide) (by kernel_rfl) h;have y2:=u 7 2 (by decide) (by kernel_rfl) h;have y6:=u 7 6 (by decide) (by kernel_rfl) h;have y1:=u 2 1 (by decide) (by kernel_rfl) y2;have y3:=u 6 3 (by decide) (by kernel_rfl) y6;have y5:=u 6 5 (by decide) (by kernel_rfl) y6;have y4:=u 5 4 (by decide) (by kernel_rfl) y5;have:i=0\/i=1\/i=2\/i=3\/i=4\/i=5\/i=6:=by omega
     rcases this with rfl|rfl|rfl|rfl|rfl|rfl|rfl
     .exact U.symm.trans y0
     .exact U.symm.trans y1
     .exact U.symm.trans y2
     .exact U.symm.trans y3
     .exact U.symm.trans y4
     .exact U.symm.trans y5
     .exact U.symm.trans y6
   have off:∀{Y7:Bool},Y 7=Y7->i≠7->(Y 7 || decide (7=i))=Y7:=λh hi=>by rw[h,yZ (λe=>hi e.symm),ycj]
   by_cases jn:i=0
   .subst jn;have hY7:=h7 (by decide);rw[hY7]at z M
    replace z:St Jb l D0 E J5:=z
    replace M:J5.H=Hm k++[X k]:=M
    have ho0:(ba cn 0).op=.move (.tmp 0):=by kernel_rfl
    have hds:(ba cn 0).dst=ab 15:=by kernel_rfl
    have zB:(execOp ({ A with defers:=[]}:Act).eval (ba cn 0)).run yb J5.w=.ok (.value (.func (.yield l) #[] #[])) J5.w:=by
     have he:({ A with defers:=[]}:Act).eval (.tmp 0)=.func (.yield l) #[] #[]:=by
      show A.tmps.getD 0 undef=_;rw[ycu,hy5];rfl
     simp[execOp,ho0,he]
    refine OV (a0:={ A with defers:=[]}) (qj (hg 0 I).2) rfl ?_;unfold Oper.wp;rw[zB];have e:({ ({ A with defers:=[]}:Act).put (ba cn 0).dst (.func (.yield l) #[] #[]) with defers:=A.defers}:Act)=A.put (ba cn 0).dst (.func (.yield l) #[] #[]):=by unfold Act.put;cases (ba cn 0).dst <;> rfl
    refine⟨Qw, ?_⟩;rw[e];have hD0:D k 0=.an:=S.d0 k;refine hK _ _ ⟨J5,rfl, ?_, ?_,hput J5 _ (ck.refl J5) (by rw[hD0];exact Yk),Qw.trans hd5,hy6 _,λ_=> ?_,rR5⟩
    .dsimp only;rw[off hY7 (by decide)];exact z
    .dsimp only;rw[off hY7 (by decide)];exact M
    .rw[hds];show(A.tmps.setIfInBounds 15 _)[15]? =_
     have hsz:A.tmps.size=25:=by
      have:=G.size;rw[Xv,S.ic]at this;exact this
     rw[ycz];simp[hsz]
   .by_cases td:i < 7
    .have hY7:=h7 td;rw[hY7]at z M
     replace z:St Jb l D0 E J5:=z
     replace M:J5.H=Hm k++[X k]:=M
     obtain⟨C3,hs3,ev3,c3⟩:=S.e3 k Z i td;refine OW (qj (hg i I).2) (Yl (P:=yb) z.ok hmsk (by rw[M];exact ev3) c3) λv J6 e6 to6 ok6 hv6=> ?_;refine hK _ _ ⟨J6,rfl, ?_, ?_,hput J6 v to6.leaf hv6,Qw.trans hd5,hy6 v,λh=>h156 v jn ?_,rR5.to to6.leaf⟩
     .dsimp only;rw[off hY7 (by omega)];exact z.step to6 ok6
     .dsimp only;rw[off hY7 (by omega)];exact e6
     .dsimp only at h;rw[yZ (λe=>jn e.symm),ycj]at h;exact h
    .have h78:i=7\/i=8:=by omega
     rcases h78 with rfl|rfl
     . 
      rw[U]at z M
      replace z:St Jb l D0 E J5:=z
      replace M:J5.H=Hm k++[X k]:=M
      have y0:=hX' 0 (by kernel_rfl);have y2:=hX' 2 (by kernel_rfl);have y6:=hX' 6 (by kernel_rfl)
      have q17:yJ J5 (.p (ch k)) (A.tmps.getD 17 undef):=by
       have:=G.at_ 17 (.p (ch k)) (by rw[QE (by rw[S.ic];decide),Vy hu9 (j:=2) (by decide) y2 (by kernel_rfl),S.d2]);exact this
      have q21:yJ J5 (.p (st k)) (A.tmps.getD 21 undef):=by
       have:=G.at_ 21 (.p (st k)) (by rw[QE (by rw[S.ic];decide),Vy hu9 (j:=6) (by decide) y6 (by kernel_rfl),S.d6]);exact this
      have ho7:(ba cn 7).op=.call { callee:=.value (.tmp 15),args:= #[.tmp 17,.tmp 21],argTypes:= #[35,39]}:=by kernel_rfl
      have hfold:(E.params.zip #[A.tmps.getD 17 undef,A.tmps.getD 21 undef]).foldl (λtmps(x:Tmp×yh)=>tmps.setIfInBounds x.1 x.2) E.tmps=(E.tmps.setIfInBounds p1 (A.tmps.getD 17 undef)).setIfInBounds p2 (A.tmps.getD 21 undef):=by rw[hps];simp
      have hyl:=run_yield (P:=yb) (args:= #[A.tmps.getD 17 undef,A.tmps.getD 21 undef]) z.hl (by rw[hps];rfl)
      have c:A.eval (.tmp 15)=.func (.yield l) #[] #[]:=by
       show A.tmps.getD 15 undef=_;rw[ycu,h15 y0];rfl
      have f:A.eval (.tmp 17)=A.tmps.getD 17 undef:=rfl;have q:A.eval (.tmp 21)=A.tmps.getD 21 undef:=rfl
      have zB:(execOp A.eval (ba cn 7)).run yb J5.w=.ok (.round l E.fn ((E.tmps.setIfInBounds p1 (A.tmps.getD 17 undef)).setIfInBounds p2 (A.tmps.getD 21 undef)) E.assign E.body) J5.w:=by
       rw[<-hfold];simp only[execOp,ho7,resolve,c,Sem.run_bind,Sem.run_pure,Result.andThen_ok];simp[go_sem,c,f,q,invoke,Result.andThen];simpa using hyl
      unfold Oper.wpIn;refine⟨λ_ _=>trivial, ?_⟩;rw[Oper.semAt_plain _ _ _ (qj (hg 7 I).2),zB];refine⟨λhh=>by simp[Fence.wide]at hh, ?_⟩;refine ZGS z hrs M (tsR:=(tsR.set p1 (.p (ch k))).set p2 (.p (st k))) (ZuE (ZuE rR5 q17) q21) ra rb ?_ _ λJ6 Q leaf6 e6=> ?_
      .cases y k
       .exact .inr rfl
       .exact .inl rfl
      .show K (A.put (ba cn 7).dst _) J6.w;have on:(Y 7 || decide (7=7))=ae:=by rw[yY rfl,Bool.or_true]
       have hb:ag ((if y k=ae then Ex.normal else Ex.ret)=Ex.normal)=y k:=by cases y k <;> rfl
       rw[hb];refine hK _ _ ⟨J6,rfl, ?_, ?_,hput J6 _ leaf6 (by rw[S.d7];exact Yf _),Qw.trans hd5,hy6 _,λh=>h156 _ (by decide) ?_,rR5.to leaf6⟩
       .dsimp only;rw[on];show St Jb l D0 T J6
        cases F:y k with
        |true=>
         simp only[F,if_true]at Q;rw[hrc]at Q;simp only[T,F,if_true]
         exact Q
        |false=>
         simp only[F]at Q;simp only[T,F];exact Q
       .dsimp only;rw[on];exact e6
       .dsimp only at h;rw[yZ (by decide:¬(0=7)),ycj]at h;exact h
     .have y7:=hX' 7 (by kernel_rfl);rw[y7]at z M
      replace z:St Jb l D0 T J5:=z
      replace M:J5.H=H2:=M
      refine OW (qj (hg 8 I).2) (Yl (P:=yb) z.ok hmsk (S.e8 k _) trivial) λv J6 e6 to6 ok6 hv6=> ?_;refine hK _ _ ⟨J6,rfl, ?_, ?_,hput J6 v to6.leaf hv6,Qw.trans hd5,hy6 v,λh=>h156 v (by decide) ?_,rR5.to to6.leaf⟩
      .dsimp only;rw[off y7 (by decide)];exact z.step to6 ok6
      .dsimp only;rw[off y7 (by decide)];exact e6.trans M
      .dsimp only at h;rw[yZ (by decide:¬(0=8)),ycj]at h;exact h
  .rintro Y A w5 hY ⟨J5,rfl,z,M,G,hd5,hy5,h15,rR5⟩;rw[qk]at hY;rw[hY 7 (by decide)]at z M
   replace z:St Jb l D0 T J5:=z
   replace M:J5.H=H2:=M
   have hu9:∀i j,i < 9->j < 9->bZ i≠ad->bZ i=bZ j->i=j:=by
    have:=ZJj;rw[qk]at this;exact this
   have hmsk:=vi hu9 (js:=[8]) (is:=[1,2,9,10,11]) (λj W=>by simp only[yba]at W;subst W;exact⟨by decide,hY 8 (by decide)⟩) (by
    have h:(([1,2,9,10,11]:yL Nat).all λs=>(yo 9).all λj=> !(bZ j==ab s))=ae:=by kernel_rfl
    intro s hs j W;have:=yal.1 (yal.1 h s hs) j (ybq.2 W);simpa using this) G
   rw[S.ic]at hmsk;have hL:yo Jb.H.length++[]=yo N:=by rw[hN,ybf]
   have hin:aQ J5.H (yo Jb.H.length++[]) (yo Jb.H.length++[])=ab (if y k=ae then Hm (k+1) else HS k):=by rw[hL,M];exact hdrop
   have ho:once (yo Jb.H.length++[])=ae:=by rw[ybf];exact Zz4 _
   have Q:=z.drop okb [] ho hin;have rep6:=vm (jD hin) (by rw[hL];exact S.g k) hmsk;have rR6:=vm (jD hin) (by rw[hL];exact lo.bB) rR5;have h23:=Yh (rep6.at_ 23 _ (S.g23 k))
   cases F:y k with
   |true=>
    rw[F]at h23;refine wpIn_cond_false h23 (wpIn_skip ?_);have hrc':T=E:=by simp only[T,F,if_true]
    rw[hrc']at Q;obtain⟨ts4,C4,hs4,e4',c4,m4⟩:=S.e4 k Z F
    have e6:(gy J5 (yo Jb.H.length++[]) (if y k=ae then Hm (k+1) else HS k)).H=Hm (k+1):=by
     show(if y k=ae then Hm (k+1) else HS k)=_
     rw[F,yW rfl]
    refine wpIn_region_list (ug [0] iV.toList (tsG k) (gy J5 (yo Jb.H.length++[]) (if y k=ae then Hm (k+1) else HS k)) A hs4 [] C4 (Hm (k+1)) Q.ok rep6 (by rw[e6];exact e4') c4 nd.2.2.2 (nk _ (.inr (.inr (.inr rfl)))) λa7 J7 hk7 e7 to7 ok7 rep7 hd7=> ?_)
    have rep7':aC J7 (tsI (k+1)) { a7 with defers:=[]}:=by rw[<-m4];exact Vf _ rep7
    refine⟨⟨k+1,J7,Z,rfl,Q.step to7 ok7,e7,rep7',hd7.trans hd5,(hk7 0 (by simp)).trans hy5,rR6.to to7.leaf,λj W=> ?_⟩, ?_⟩
    .rcases Nat.lt_or_ge j k with h|h
     .exact zU j h
     .have:j=k:=by omega
      rw[this];exact F
    .have:=Zy8 (a:={ a7 with defers:=[]}) rep7' (S.ix (k+1));have h2:ui a7=k+1:=this;rw[h2,hik]
     omega
   |false=>
    rw[F]at h23;refine wpIn_cond_true h23 (wpIn_ret ?_)
    have e6:(gy J5 (yo Jb.H.length++[]) (if y k=ae then Hm (k+1) else HS k)).H=HS k:=by
     show(if y k=ae then Hm (k+1) else HS k)=_
     rw[F];rfl
    have st7:=Q;simp only[T,F]at st7;exact(end_ A _ True hd5 λv=>hstop (gy J5 (yo Jb.H.length++[]) (if y k=ae then Hm (k+1) else HS k)) k Z F zU (by simpa[F] using st7) e6 rR6 v).2
 . 
  have hkn':k=n:=by omega
  subst hkn';refine wpIn_seq (wpIn_cond_false (by rw[yZ Z]at hc12;exact hc12) (wpIn_exit ?_));exact(end_ a3 _ True (hd3.trans hd) λv=>hdone J3 zU st3 e3 rR3 v).1
theorem ZMk(y v1 v2:yh)(r:Array yh):(#[y,v1,v2]++r).getD 1 undef=v1/\(#[y,v1,v2]++r).getD 2 undef=v2:=by
 constructor
 .rw[ycu,Array.getElem?_append_left (by simp)];rfl
 .rw[ycu,Array.getElem?_append_left (by simp)];rfl
theorem Zy9{J:Sg}{a:Act}{N n:Nat}{Hm HS:Nat->yL aq}{X:Nat->aq}{tsI tsC tsD tsG:Nat->yL Dv}{z:Nat->Bool}{D:Nat->Nat->Dv}{ch st:Nat->Pl}{I ts:yL Dv}{g p1 p2 i j:Nat}{assign body:Code}
 (it:It N n Hm HS X tsI tsC tsD tsG z D ch st I) (ok:Ok J) (hN:(Hm 0).length=N) (hH:J.H=Hm 0) (yM:aC J ts { a with defers:=[]}) (hd:a.defers=[]) (hg:ts[g]? =ab (.fn 128 [.ak i 0 [],.ak j 0 []]))
 (Z:I=.an::.ak i 0 []::.ak j 0 []::yx 22 .an) (lo:∀l E,E.assign=assign->E.body=body->gm N n Hm HS X z ch st l E p1 p2 ts) (m:Nat) (Q:Exit->Act->yr->Prop)
 (hn:∀J' T,(∀k,k < n->z k=ae)->T.tmps=a.tmps->To J J'->Ok J'->J'.H=Hm n->aC J' ts { T with defers:=[]}->PC J J' T.defers->Q .normal T J'.w)
 (hs:∀J' T k,k < n->z k=af->(∀j,j < k->z j=ae)->T.tmps=a.tmps->To J J'->Ok J'->J'.H=HS k->aC J' ts { T with defers:=[]}->PC J J' T.defers->Q .ret T J'.w):
 (Code.rangeFunc (.tmp g) #[p1,p2] assign body).wpIn (Wd ad) m yb Q a J.w:=by
 refine wpIn_rangeFunc ?_;intro fn _;obtain⟨cs,hv,U⟩:=RK (by decide:128 < big) (yM.at_ g _ hg);have hv:a.eval (.tmp g)=.func (.func 128) #[] cs:=hv;simp only[aH]at U;obtain⟨v1,r1,hcs1,q1,v2,r2,hcs2,q2,hcs3⟩:=U;have hcs4:cs.toList=[v1,v2]:=by rw[hcs1,hcs2,hcs3]
 have U:cs= #[v1,v2]:=Array.toList_inj.1 hcs4;subst U;obtain⟨E,f⟩:∃E:Loop,E={ state:=.ready,pending:=ad,fn,tmps:=a.tmps,params:= #[p1,p2],assign,body,defers:=J.w.heap.size}:=⟨_,rfl⟩;obtain⟨W1,W⟩:∃W1,(J.w.alloc (.deferred (ab []))).alloc (.loop E)=W1:=⟨_,rfl⟩
 have hgr:J.w.grownBy W1 ad:=by
  rw[<-W];exact(World.grownBy_alloc J.w _ ad).andThen (World.grownBy_alloc _ _ ad) (by intro j hj;cases hj)
 obtain⟨Y,ok1⟩:=nv ok hgr
 have hl1:W1.heap[J.w.heap.size+1]? =ab (.loop E):=by
  rw[<-W];have:=World.alloc_heap_new (J.w.alloc (.deferred (ab []))) (.loop E)
  rwa [World.size_alloc]at this
 have hd1:W1.heap[J.w.heap.size]? =ab (.deferred (ab [])):=by
  rw[<-W,heap_alloc_old _ _ (by simp)];exact World.alloc_heap_new J.w _
 have st1:St J (J.w.heap.size+1) J.w.heap.size E { J with w:=W1}:=⟨Y,ok1,by omega,yl _,by omega,λid h=>by have:=ok.lt id _ h;omega,λid h=>by have:=ok.lt id _ h;omega,hl1,hd1⟩;have hdef:({ a with defers:=[{ target:=.collected J.w.heap.size,args:= #[]}]++a.defers}:Act).defers=[{ target:=.collected J.w.heap.size,args:= #[]}]:=by rw[hd];rfl
 obtain⟨fn',hf,hb,_,_⟩:=ZB6
 have hnm:fn'.name≠ "runtime.NumGoroutine" :=by
  have h:(yb.funcs[128]?).map (λfn=>(fn.name== "runtime.NumGoroutine"))=ab af:=by kernel_rfl
  rw[hf]at h;simpa using h
 have eg:∀M w,(callFunc 128 M).run yb w=.ok (.enter 128 M) w:=by
  intro M w;simp[callFunc,hf,hnm,hb,mark]
 refine⟨J.w.heap.size+1,[{ target:=.collected J.w.heap.size,args:= #[]}],W1,{ target:=.fn (.func 128) #[v1,v2],args:= #[.func (.yield (J.w.heap.size+1)) #[] #[]]},W1,128,
  #[.func (.yield (J.w.heap.size+1)) #[] #[],v1,v2],W1, ?_, ?_,λ_ _=>trivial, ?_,λhh=>by simp[Fence.wide]at hh, ?_⟩
 .rw[<-W,f];exact run_enterLoop_outer _ _ _ _ _
 .simp only[resolve,hv];simp[go_sem]
 .simp[invoke,go_sem,eg _ W1]
 .have hat:∀(k:Nat)d,I[k]? =ab d->yJ { J with w:=W1} d ((#[Value.func (.yield (J.w.heap.size+1)) #[] #[],v1,v2]++ycg 22 undef).getD k undef):=by
   intro k d G;rw[Z]at G
   match k,G with
   |0,G=>cases G;exact Yk
   |1,G=>
    cases G;rw[(ZMk _ _ _ _).1]
    exact Vb Y.leaf q1
   |2,G=>
    cases G;rw[(ZMk _ _ _ _).2]
    exact Vb Y.leaf q2
   |k+3,G=>
    have h9:(yx 22 Dv.an)[k]? =ab d:=G;have:d=.an:=List.eq_of_mem_replicate (ybj h9);rw[this];exact Yk
  refine ZGU it (lo _ E (by rw[f]) (by rw[f])) ok (by rw[hH];exact hN) (by rw[f]) (by rw[f]) (by rw[f]) st1 hH _ rfl rfl ⟨by rw[Z];simp,hat,rfl⟩ (by rw[f];exact yM.to Y.leaf) _ _ (λJ' zU R e' S v=> ?_) (λJ' k G hgk zU R e' S v=> ?_)
  .have hp:E.pending=ad:=by rw[f]
   obtain⟨y,F⟩:=R.turn { E with state:=.exhausted,pending:=ad};refine⟨ad,_,by have:=run_endLoop (P:=yb) R.hl (by rw[f];simp);rw[hp]at this;exact this, ?_⟩;have A:=S.to F;rw[f]at A;refine hn { J' with w:=J'.w.putObj (J.w.heap.size+1) (.loop { E with state:=.exhausted,pending:=ad})} { a with defers:=[{ target:=.collected J.w.heap.size,args:= #[]}]++a.defers} zU rfl y.to y.ok e' (by rw[f];exact A) (.inr ⟨J.w.heap.size,hdef,yl _,y.nd,y.hd⟩)
  .obtain⟨y,F⟩:=R.turn { E with state:=.exhausted,pending:=ab .ret};refine⟨ab .ret,_,by have:=run_endLoop (P:=yb) R.hl (by simp);rw[this], ?_⟩;have A:=S.to F;rw[f]at A;exact wpIn_ret (hs { J' with w:=J'.w.putObj (J.w.heap.size+1) (.loop { E with state:=.exhausted,pending:=ab .ret})} { a with defers:=[{ target:=.collected J.w.heap.size,args:= #[]}]++a.defers} k G hgk zU rfl y.to y.ok e' (by rw[f];exact A) (.inr ⟨J.w.heap.size,hdef,yl _,y.nd,y.hd⟩))
end Go.Proofs.YtcbhhaigilifgaaGreat
end
section
set_option maxRecDepth 10000
namespace Go.Proofs.YtcbhhaigilifgaaGreat
open Go Go.Ev
noncomputable section
theorem ZuF{s:yG}{d:yL Int}{t:yG}(h:ZN yD s d=ab t):ca yb 15 [.p (Zb.enc s),.p (Ty.enc (.arr 2 (.int .i64)) d)] [] (.p (Zb.enc t)) []:=by
 obtain⟨j,R,H,f,l,m⟩:=ZhG (s,d) t h;have g:Sh.fills [.v Zb,.v (.arr 2 (.int .i64))] (dB [Zb,(.arr 2 (.int .i64))] (s,d))=ab ([.p (.v Zb s),.p (.v (.arr 2 (.int .i64)) d)],[]):=by kernel_rfl
 have f:=g.symm.trans f;cases f;cases l;obtain⟨r,y,z⟩:=m _ _ ([.p (.v Zb t)],[]) ⟨rfl,rfl⟩ (by kernel_rfl);cases y;exact z
theorem ZDO{c:Chan}{s:yG}{b:Bool}(h:au yD c s=ab b):ca yb 20 [.p (Zi.enc c),.p (Zb.enc s)] [] (.p (.bool b)) []:=by
 obtain⟨j,R,H,f,l,m⟩:=Qm (c,s) b h;have g:Sh.fills [.v Zi,.v Zb] (dB [Zi,Zb] (c,s))=ab ([.p (.v Zi c),.p (.v Zb s)],[]):=by kernel_rfl
 have f:=g.symm.trans f;cases f;cases l;obtain⟨r,y,z⟩:=m _ _ ([.p (.v .bool b)],[]) ⟨rfl,rfl⟩ (by kernel_rfl);cases y;exact z
abbrev eL(v n:Nat):aq:=.var (.agg [.rv 1 v 60 0 n]) ae
abbrev eM(v n:Nat)(ls:yL Zr):aq:=.row v 60 ae 112 (.p (.arr n 60 (ls.map Zu.enc)))
theorem Zsz(v n:Nat)(ls:yL Zr)(s:yG):ca yb 71 [.ak 0 0 [],.p (Zb.enc s)] [eL v n,eM v n ls] (.fn 128 [.ak 2 0 [],.ak 3 0 []]) [eL v n,eM v n ls,.var (.ak 0 0 []) ae,.var (.p (Zb.enc s)) ae]:=
 ZJH [.raw,.raw,.raw,.raw] [2,3] [] (by kernel_rfl) trivial rfl rfl
section
variable(N:Nat)(v n:Nat)(s:yG)(L:Nat->Zr)(mv:Nat->yG)(rt:Nat->Bool)
abbrev kj(x:Zr):Pl:=Zu.enc x
noncomputable def PE(i j:Nat)(k:Nat):yL Dv:=[.an,.ak i 0 [],.ak j 0 [],.an,.an,.an,.an,.an,.an,.rv 1 v 60 0 n,.p (.int .i64 (n:Int)),.p (.int .i64 (k:Int)),.an,.an,.an,.an,.an,.an,.an,.an,.an,.an,.an,.an,.an]
noncomputable def uj(i j:Nat)(k:Nat):yL Dv:=(PE v n i j k).set 12 (.p (.bool (ag ((k:Int) < (n:Int)))))
noncomputable def itD(i j:Nat)(k:Nat):yL Dv:=(((uj v n i j k).set 13 (.aZ 1 v ((0+k)*60) [0+k])).set 14 (.p (kj (L k)))).set 5 (.ak N 0 [])
noncomputable def zY(i j:Nat)(k:Nat):yL Dv:=[.an,.ak i 0 [],.ak j 0 [],.an,.an,.an,.an,.an,.an,.rv 1 v 60 0 n,.p (.int .i64 (n:Int)),.p (.int .i64 (k:Int)),.an,.an,.an,.an,.an,.an,.an,.an,.an,.an,.an,.p (.bool (!rt k)),.an]
noncomputable def itZ(i j:Nat):yL Dv:=[.an,.ak i 0 [],.ak j 0 [],.an,.an,.an,.ak 0 0 [],.ak 0 0 [],.ak 0 0 [0],.rv 1 v 60 0 n,.p (.int .i64 (n:Int)),.p (.int .i64 0),.an,.an,.an,.an,.an,.an,.an,.an,.an,.an,.an,.an,.an]
noncomputable def ZMl(k:Nat):Nat->Dv
 |1=>.ak N 0 [0]
 |2=>.p (Zi.enc (L k).1)
 |3=>.p (Zb.enc s)
 |4=>.ak N 57 [1]
 |5=>.p (Ty.enc (.arr 2 (.int .i64)) (L k).2.1)
 |6=>.p (Zb.enc (mv k))
 |7=>.p (.bool (rt k))
 |8=>.p (.bool (!rt k))
 |_=>.an
abbrev fw(k:Nat):aq:=.var (.p (kj (L k))) ae
end
theorem ZK9{α β:Type}(f:α->β)(l:yL α)(d:α){k:Nat}(h:k < l.length):(l.map f)[0+k]? =ab (f (l.getD k d)):=by
 grind
theorem ZB7{ls:yL Zr}{k:Nat}(h:k < ls.length):(ls.map Zu.enc)[0+k]? =ab (kj (ls.getD k default)):=ZK9 (α:=Zr) Zu.enc ls default h
theorem Zza{P:yg}{ops:Array yj}{o:yj}{ts:yL Dv}{H:yL aq}{t x id v off i n s:Nat}{st:Bool}{e:TypeId}{xs:yL Pl}{y:Pl}{hs:yL ao}(g:o.guard=ad)(ho:o.op=.load t (.tmp x))(h:ts.getD x .an=.aZ id v off [i])(hH:H[id]? =ab (.row v s st e (.p (.arr n s xs))))
 (j:gb P t (.p y)=ae):dh P ops o ts H (.el y::hs)=ab ([xs[i]? =ab y,i*s+0=off],.p y,H,hs):=by
 have f:aF P ts 0 (.tmp x)=.aZ id v off [i]:=h
 have l:bh P o ts (.el y::hs)=ad:=by
  unfold bh;grind
 have m:bG P o ts H (.el y::hs)=ab ([xs[i]? =ab y,i*s+0=off],.p y,hs):=by
  unfold bG;rw[ho];dsimp only;rw[f];dsimp only;rw[hH];dsimp only[Z6,Option.map];rw[j];simp
 unfold dh;rw[g];dsimp only;unfold cC;rw[l];dsimp only;rw[m];rfl
theorem AA{P:yg}{ops:Array yj}{o:yj}{l:yL yj}{ts ts':yL Dv}{H H1 H':yL aq}{hs hs1 hs':yL ao}{C C':yL Prop}{d:Dv}(h:dh P ops o ts H hs=ab (C,d,H1,hs1))(k:cz P ops l (fL ts o.dst d) H1 hs1=ab (C',ts',H',hs')):
 cz P ops (o::l) ts H hs=ab (C++C',ts',H',hs'):=by
 simp only[cz,h,k]
noncomputable def ZMm:Array yj:=match ZR yb 27 with|.seq _ (.seq (.seq _ (.block _ (.rangeFunc _ _ (.seq (.region _ o _) _) _))) _)=>o|_=> #[]
noncomputable def ZMn:Array yj:=match ZR yb 27 with|.seq _ (.seq (.seq _ (.block _ (.rangeFunc _ _ (.seq _ (.region _ o _)) _))) _)=>o|_=> #[]
noncomputable def ZJk:Array yj:=match ZR yb 27 with|.seq _ (.seq (.seq _ (.block _ (.rangeFunc _ _ _ (.block _ (.seq (.region _ o _) _))))) _)=>o|_=> #[]
noncomputable def ZMo:Array yj:=match ZR yb 27 with|.seq _ (.seq (.seq _ (.block _ (.rangeFunc _ _ _ (.block _ (.seq _ (.cond _ (.seq (.region _ o _) _) _)))))) _)=>o|_=> #[]
noncomputable def ZJl:Array yj:=match ZR yb 27 with|.seq (.region _ o _) _=>o|_=> #[]
noncomputable def ZJm:Array yj:=match ZR yb 27 with|.seq _ (.seq (.seq (.region _ o _) _) _)=>o|_=> #[]
noncomputable def ZJn:Array yj:=match ZR yb 27 with|.seq _ (.seq _ (.seq (.region _ o _) _))=>o|_=> #[]
noncomputable def ZJo:Code:=.seq (.region 2 ZMm af) (.region 3 ZMn af)
noncomputable def ZJp:Code:=.block 1 (.seq (.region 4 ZJk af) (.cond (.tmp 15) (.seq (.region 5 ZMo af) .ret) .skip))
noncomputable def PF:Code:=.seq (.region 0 ZJl af) (.seq (.seq (.region 1 ZJm af) (.block 0 (.rangeFunc (.tmp 9) #[10,11] ZJo ZJp))) (.seq (.region 6 ZJn af) .ret))
theorem ZGW:∃fn,yb.funcs[27]? =ab fn/\fn.body=ab PF/\fn.ntmps=16/\fn.results= #[.cell 4 4]:=by
 have h:(yb.funcs[27]?).map (λfn=>(fn.body,fn.ntmps,fn.results))=ab (ab PF,16, #[.cell 4 4]):=by kernel_rfl
 grind
section
variable(v n:Nat)(ls:yL Zr)(s:yG)(mv:Nat->yG)(rt:Nat->Bool)
abbrev iW:yL aq:=[eL v n,eM v n ls,.var (.p (Zb.enc s)) ae,.var (.p (.bool af)) ae,.var (.ak 0 0 []) ae,.var (.p (Zb.enc s)) ae]
noncomputable def jq:yL Dv:=[.ak 0 0 [],.p (Zb.enc s),.an,.ak 2 0 [],.ak 3 0 [],.an,.an,.ak 0 0 [],.p (Zb.enc s),.fn 128 [.ak 4 0 [],.ak 5 0 []],.an,.an,.an,.an,.an,.an]
end
theorem ZLa{v:Nat}{ls:yL Zr}{s:yG}{mv:Nat->yG}{rt:Nat->Bool}(hl:ls.length<=1000)(hm:∀k,k < ls.length->ZN yD s (ls.getD k default).2.1=ab (mv k)):
 It 6 ls.length (λ_=>iW v ls.length ls s) (λ_=>iW v ls.length ls s) (fw λk=>ls.getD k default) (PE v ls.length 4 5) (uj v ls.length 4 5) (itD 6 v ls.length (λk=>ls.getD k default) 4 5) (zY v ls.length rt 4 5) rt
  (ZMl 6 s (λk=>ls.getD k default) mv rt) (λk=>Zi.enc (ls.getD k default).1) (λk=>Zb.enc (mv k)) (.an::.ak 4 0 []::.ak 5 0 []::yx 22 .an) where
 e0:=⟨itZ v ls.length 4 5,[(0:Nat)=0,(0:Nat)=0],[.raw],by kernel_rfl,⟨rfl,rfl,aB⟩,by kernel_rfl⟩
 ix k:=by kernel_rfl
 e1 k hk:=⟨[],[],by kernel_rfl,aB⟩
 c1 k:=by
  have h:(uj v ls.length 4 5 k)[12]? =ab (.p (.bool (ag ((k:Int) < (ls.length:Int))))):=by kernel_rfl
  grind
 e2 k hk:=by
  refine⟨[0<=(k:Int),(k:Int) < (ls.length:Int)]++([(ls.map Zu.enc)[0+k]? =ab (kj (ls.getD k default)),(0+k)*60+0=(0+k)*60]++[(0:Nat)=0]),[.el (kj (ls.getD k default)),.raw,.raw], ?_,⟨by omega,by omega,ZB7 hk,rfl,rfl,aB⟩⟩;have hl:dS.toList=[ba dS 0,ba dS 1,ba dS 2,ba dS 3]:=by kernel_rfl
  rw[hl];refine AA (H1:=iW v ls.length ls s) (hs1:=[.el (kj (ls.getD k default)),.raw,.raw]) (d:=.aZ 1 v ((0+k)*60) [0+k]) (by kernel_rfl) (AA (d:=.p (kj (ls.getD k default))) (H1:=iW v ls.length ls s) (hs1:=[.raw,.raw]) ?_ (by kernel_rfl));exact Zza (t:=112) (x:=13) (id:=1) (v:=v) (n:=ls.length) (st:=ae) (e:=112) (by kernel_rfl) (by kernel_rfl) (by kernel_rfl) rfl (by kernel_rfl)
 ic k:=by kernel_rfl
 e3 k hk i hi:=by
  match i,hi with
  |0,_=>exact⟨[],[.raw],by kernel_rfl,aB⟩
  |1,_=>exact⟨[],[],by kernel_rfl,aB⟩
  |2,_=>exact⟨[(0:Nat)=0],[],by kernel_rfl,⟨rfl,aB⟩⟩
  |3,_=>exact⟨[(0:Nat)=0],[],by kernel_rfl,⟨rfl,aB⟩⟩
  |4,_=>exact⟨[],[],by kernel_rfl,aB⟩
  |5,_=>exact⟨[(57:Nat)=57],[],by kernel_rfl,⟨rfl,aB⟩⟩
  |6,_=>exact⟨[ca yb 15 [.p (Zb.enc s),.p (Ty.enc (.arr 2 (.int .i64)) (ls.getD k default).2.1)] [] (.p (Zb.enc (mv k))) []],[.call (.p (Zb.enc (mv k))) [] []],by kernel_rfl,⟨ZuF (hm k hk),aB⟩⟩
  |_+7,h=>exact absurd h (by omega)
 d0 k:=rfl
 d2 k:=rfl
 d6 k:=rfl
 d7 k:=rfl
 d8 k:=rfl
 e8 k H:=by kernel_rfl
 g k:=by kernel_rfl
 g23 k:=by kernel_rfl
 e4 k hk _:=⟨((zY v ls.length rt 4 5 k).set 24 (.p (.int .i64 ((k:Int)+1)))).set 11 (.p (.int .i64 ((k:Int)+1))),[Wa .i64 ((k:Int)+1)],[.bare,.raw],by kernel_rfl,⟨by simp only[Wa,IntKind.min,IntKind.max,IntKind.signed,IntKind.bits];constructor <;> simp<;> omega,aB⟩,by kernel_rfl⟩
theorem ZLb{v:Nat}{ls:yL Zr}{s:yG}{mv:Nat->yG}{rt:Nat->Bool}(hr:∀k,k < ls.length->au yD (ls.getD k default).1 (mv k)=ab (rt k))(l:Nat)(rc:Loop)(h1:rc.assign=ZJo)(h2:rc.body=ZJp):
 gm 6 ls.length (λ_=>iW v ls.length ls s) (λ_=>iW v ls.length ls s) (fw λk=>ls.getD k default) rt (λk=>Zi.enc (ls.getD k default).1) (λk=>Zb.enc (mv k)) l rc 10 11 (jq s) where
 round k hk:=by
  rw[h1,h2];have hcon:=ZDO (hr k hk)
  refine⟨((((jq s).set 10 (.p (Zi.enc (ls.getD k default).1))).set 11 (.p (Zb.enc (mv k)))).set 5 (.ak 7 0 [])).set 6 (.ak 8 0 []),((((((((jq s).set 10 (.p (Zi.enc (ls.getD k default).1))).set 11 (.p (Zb.enc (mv k)))).set 5 (.ak 7 0 [])).set 6 (.ak 8 0 [])).set 12 (.p (Zi.enc (ls.getD k default).1))).set 13 (.p (Zb.enc (mv k)))).set 14 (.p (.bool (rt k)))).set 15 (.p (.bool (!rt k))),
   iW v ls.length ls s++[fw (λk=>ls.getD k default) k,.var (.p (Zi.enc (ls.getD k default).1)) ae,.var (.p (Zb.enc (mv k))) ae],iW v ls.length ls s++[fw (λk=>ls.getD k default) k,.var (.p (Zi.enc (ls.getD k default).1)) ae,.var (.p (Zb.enc (mv k))) ae], ?_, ?_, ?_⟩
  .exact iT (YX (hs:=[.raw,.raw]) (hs':=[]) (C:=[(0:Nat)=0]) (ts':=(((jq s).set 10 (.p (Zi.enc (ls.getD k default).1))).set 11 (.p (Zb.enc (mv k)))).set 5 (.ak 7 0 [])) (H':=iW v ls.length ls s++[fw (λk=>ls.getD k default) k,.var (.p (Zi.enc (ls.getD k default).1)) ae]) (by kernel_rfl) ⟨rfl,aB⟩ (by kernel_rfl))
    (YX (hs:=[.raw,.raw]) (hs':=[]) (C:=[(0:Nat)=0]) (by kernel_rfl) ⟨rfl,aB⟩ (by kernel_rfl))
  .have rB:bC yb (ab l) (.region 4 ZJk af) (((((jq s).set 10 (.p (Zi.enc (ls.getD k default).1))).set 11 (.p (Zb.enc (mv k)))).set 5 (.ak 7 0 [])).set 6 (.ak 8 0 [])) (iW v ls.length ls s++[fw (λk=>ls.getD k default) k,.var (.p (Zi.enc (ls.getD k default).1)) ae,.var (.p (Zb.enc (mv k))) ae]) .normal (((((((((jq s).set 10 (.p (Zi.enc (ls.getD k default).1))).set 11 (.p (Zb.enc (mv k)))).set 5 (.ak 7 0 [])).set 6 (.ak 8 0 [])).set 12 (.p (Zi.enc (ls.getD k default).1))).set 13 (.p (Zb.enc (mv k)))).set 14 (.p (.bool (rt k)))).set 15 (.p (.bool (!rt k)))) (iW v ls.length ls s++[fw (λk=>ls.getD k default) k,.var (.p (Zi.enc (ls.getD k default).1)) ae,.var (.p (Zb.enc (mv k))) ae]):=
    YX (hs:=[.call (.p (.bool (rt k))) [] []]) (hs':=[]) (C:=[(0:Nat)=0,(0:Nat)=0,ca yb 20 [.p (Zi.enc (ls.getD k default).1),.p (Zb.enc (mv k))] [] (.p (.bool (rt k))) []]) (by kernel_rfl) ⟨rfl,rfl,hcon,aB⟩ (by kernel_rfl)
   refine PB (iT rB (uh (b:= !rt k) (by kernel_rfl) ?_)) ?_
   .cases rt k
    .exact iT (YX (hs:=[.raw]) (hs':=[]) (C:=[(0:Nat)=0]) (by kernel_rfl) ⟨rfl,aB⟩ (by kernel_rfl)) PA
    .exact OZ
   grind
  .cases rt k <;> kernel_rfl
 bB:=by kernel_rfl
theorem ZIW{v:Nat}{ls:yL Zr}{s:yG}{mv:Nat->yG}{rt:Nat->Bool}(hl:ls.length<=1000)(hm:∀k,k < ls.length->ZN yD s (ls.getD k default).2.1=ab (mv k))(hr:∀k,k < ls.length->au yD (ls.getD k default).1 (mv k)=ab (rt k)):
 ca yb 27 [.ak 0 0 [],.p (Zb.enc s)] [eL v ls.length,eM v ls.length ls] (.p (.bool ((yo ls.length).all rt))) [eL v ls.length,eM v ls.length ls]:=by
 obtain⟨fn,hf,R,S,z⟩:=ZGW;refine ZuD hf R ?_;intro m J a ok hH yM hd;rw[S]at yM
 have hfin:∀(b:Bool)(ts:yL Dv),ts[4]? =ab (.ak 3 0 [])->fin yb fn ts [eL v ls.length,eM v ls.length ls,.var (.p (Zb.enc s)) ae,.var (.p (.bool b)) ae,.var (.ak 0 0 []) ae,.var (.p (Zb.enc s)) ae] 2 [] []=ab ([(0:Nat)=0],.p (.bool b),[eL v ls.length,eM v ls.length ls]):=by
  intro b ts h4;unfold fin;rw[z];have h5:ts.getD 4 .an=.ak 3 0 []:=by rw[ycx,h4];rfl
  have h6:gx yb ts [eL v ls.length,eM v ls.length ls,.var (.p (Zb.enc s)) ae,.var (.p (.bool b)) ae,.var (.ak 0 0 []) ae,.var (.p (Zb.enc s)) ae] [.cell 4 4] []=ab ([(0:Nat)=0],[.p (.bool b)]):=by
   unfold gx;rw[h5]
   kernel_rfl
  show(match gx yb ts _ [.cell 4 4] [] with|some (C,ds)=>_|none=>ad)=_
  rw[h6]
  kernel_rfl
 unfold PF
 have r0:bC yb ad (.region 0 ZJl af) ([.ak 0 0 [],.p (Zb.enc s)]++yx 14 .an) [eL v ls.length,eM v ls.length ls] .normal ([.ak 0 0 [],.p (Zb.enc s),.an,.ak 2 0 [],.ak 3 0 []]++yx 11 .an)
  [eL v ls.length,eM v ls.length ls,.var (.p (Zb.enc s)) ae,.var (.p (.bool af)) ae]:=YX (hs:=[.raw,.raw]) (hs':=[]) (C:=[]) (by kernel_rfl) trivial (by kernel_rfl)
 have r1:bC yb ad (.region 1 ZJm af) ([.ak 0 0 [],.p (Zb.enc s),.an,.ak 2 0 [],.ak 3 0 []]++yx 11 .an) [eL v ls.length,eM v ls.length ls,.var (.p (Zb.enc s)) ae,.var (.p (.bool af)) ae] .normal (jq s) (iW v ls.length ls s):=
  YX (hs:=[.raw,.call (.fn 128 [.ak 2 0 [],.ak 3 0 []]) [eL v ls.length,eM v ls.length ls,.var (.ak 0 0 []) ae,.var (.p (Zb.enc s)) ae] [0,1]]) (hs':=[])
   (C:=[(0:Nat)=0,ca yb 71 [.ak 0 0 [],.p (Zb.enc s)] [eL v ls.length,eM v ls.length ls] (.fn 128 [.ak 2 0 [],.ak 3 0 []]) [eL v ls.length,eM v ls.length ls,.var (.ak 0 0 []) ae,.var (.p (Zb.enc s)) ae]]) (by kernel_rfl) ⟨rfl,Zsz v ls.length ls s,aB⟩ (by kernel_rfl)
 refine wpIn_seq (wpIn_mono (r0 m J a ok hH yM) ?_);rintro e a1 w1 ⟨rfl,T,J1,rfl,e1,g,U,A⟩;refine wpIn_seq (wpIn_seq (wpIn_mono (r1 m J1 a1 U e1 A) ?_));rintro e a2 w2 ⟨rfl,W,J2,rfl,e2,h,X,E⟩;have F:a2.defers=[]:=W.trans (T.trans hd);have h4:(jq s)[4]? =ab (.ak 3 0 []):=by kernel_rfl
 refine wpIn_block (Zy9 (ZLa hl hm) X rfl e2 E F (by kernel_rfl) rfl (ZLb hr) m _ (λJ' a' zU ht to j Y f l=> ?_) (λJ' a' k hk hg zU ht to j Y f l=> ?_))
 .have r6:bC yb ad (.region 6 ZJn af) (jq s) (iW v ls.length ls s) .normal (jq s) [eL v ls.length,eM v ls.length ls,.var (.p (Zb.enc s)) ae,.var (.p (.bool ae)) ae,.var (.ak 0 0 []) ae,.var (.p (Zb.enc s)) ae]:=
   YX (hs:=[.raw]) (hs':=[]) (C:=[(0:Nat)=0]) (by kernel_rfl) ⟨rfl,aB⟩ (by kernel_rfl)
  refine wpIn_seq (wpIn_mono (r6 m J' a' j Y f) ?_);rintro e a3 w3 ⟨rfl,Z,J3,rfl,e3,y,ok3,G⟩;have R:(yo ls.length).all rt=ae:=yal.2 λx hx=>zU x (ybq.1 hx);refine wpIn_ret ⟨.inl rfl,J3,jq s,_,[],[],[(0:Nat)=0],rfl,((g.trans h).trans to).trans y,ok3,e3,G, ?_,⟨rfl,aB⟩, ?_⟩
  .grind
  .rw[Z];rcases l with l|⟨D,m1,m2,M,Q⟩
   .exact .inl l
   .have I:=oG Q;exact .inr ⟨D,m1,ybt (ybt g.size h.size) m2,zS y I M,(y.block D I M).trans Q⟩
 .have R:(yo ls.length).all rt=af:=by
   grind
  refine⟨.inl rfl,J',jq s,_,[],[],[(0:Nat)=0],rfl,(g.trans h).trans to,j,Y,f, ?_,⟨rfl,aB⟩, ?_⟩
  .grind
  .rcases l with l|⟨D,m1,m2,M,Q⟩
   .exact .inl l
   .exact .inr ⟨D,m1,ybt (ybt g.size h.size) m2,M,Q⟩
theorem ZGX{c:Chan}{s:yG}{i:Int}{p:yU}{m:WM}{e:Int}(h:WD yD c s i p=ab (m,e)):
 ca yb 72 [.p (Zi.enc c),.p (Zb.enc s),.p (.int .i64 i),.p (Ty.enc .u64 p)] [] (.bm [.p (ZG.enc m),.p (.int .i64 e)]) []:=by
 obtain⟨j,R,H,f,l,y⟩:=Zr0 (c,s,i,p) (m,e) h;have g:Sh.fills [.v Zi,.v Zb,.v (.int .i64),.v .u64] (dB [Zi,Zb,(.int .i64),.u64] (c,s,i,p))=ab ([.p (.v Zi c),.p (.v Zb s),.p (.v (.int .i64) i),.p (.v .u64 p)],[]):=by kernel_rfl
 have f:=g.symm.trans f;cases f;cases l;obtain⟨r,z,A⟩:=y _ _ ([.bm [.p (.v ZG m),.p (.v (.int .i64) e)]],[]) ⟨rfl,rfl⟩ (by kernel_rfl);cases z;exact A
noncomputable def ZMp:Array yj:=match ZR yb 28 with|.seq _ (.seq _ (.seq (.seq _ (.block _ (.rangeFunc _ _ (.seq (.region _ o _) _) _))) _))=>o|_=> #[]
noncomputable def ZMq:Array yj:=match ZR yb 28 with|.seq _ (.seq _ (.seq (.seq _ (.block _ (.rangeFunc _ _ (.seq _ (.region _ o _)) _))) _))=>o|_=> #[]
noncomputable def ZJq:Array yj:=match ZR yb 28 with|.seq _ (.seq _ (.seq (.seq _ (.block _ (.rangeFunc _ _ _ (.block _ (.seq (.region _ o _) _))))) _))=>o|_=> #[]
noncomputable def ZJr:Array yj:=match ZR yb 28 with|.seq _ (.seq _ (.seq (.seq _ (.block _ (.rangeFunc _ _ _ (.block _ (.seq _ (.seq (.seq (.region _ o _) _) _)))))) _))=>o|_=> #[]
noncomputable def AB:Array yj:=match ZR yb 28 with|.seq _ (.seq _ (.seq (.seq _ (.block _ (.rangeFunc _ _ _ (.block _ (.seq _ (.seq (.seq _ (.cond _ (.seq (.region _ o _) _) _)) _)))))) _))=>o|_=> #[]
noncomputable def mY:Array yj:=match ZR yb 28 with|.seq _ (.seq _ (.seq (.seq _ (.block _ (.rangeFunc _ _ _ (.block _ (.seq _ (.seq _ (.region _ o _))))))) _))=>o|_=> #[]
noncomputable def ZJs:Array yj:=match ZR yb 28 with|.seq (.region _ o _) _=>o|_=> #[]
noncomputable def AC:Array yj:=match ZR yb 28 with|.seq _ (.seq (.seq (.region _ o _) _) _)=>o|_=> #[]
noncomputable def PG:Array yj:=match ZR yb 28 with|.seq _ (.seq (.seq _ (.cond _ (.seq (.region _ o _) _) _)) _)=>o|_=> #[]
noncomputable def ZJt:Array yj:=match ZR yb 28 with|.seq _ (.seq _ (.seq (.seq (.region _ o _) _) _))=>o|_=> #[]
noncomputable def ZGZ:Array yj:=match ZR yb 28 with|.seq _ (.seq _ (.seq _ (.seq (.region _ o _) _)))=>o|_=> #[]
noncomputable def PH:Code:=.seq (.region 4 ZMp af) (.region 5 ZMq af)
noncomputable def ZJu:Code:=.block 1 (.seq (.region 6 ZJq af) (.seq (.seq (.region 7 ZJr af) (.cond (.tmp 32) (.seq (.region 8 AB af) .ret) .skip)) (.region 9 mY af)))
noncomputable def PI:Code:=.seq (.region 0 ZJs af) (.seq (.seq (.region 1 AC af) (.cond (.tmp 17) (.seq (.region 2 PG af) .ret) .skip)) (.seq (.seq (.region 3 ZJt af) (.block 0 (.rangeFunc (.tmp 20) #[21,22] PH ZJu))) (.seq (.region 10 ZGZ af) .ret)))
theorem ZG2:∃fn,yb.funcs[28]? =ab fn/\fn.body=ab PI/\fn.ntmps=39/\fn.results= #[.cell 8 102,.cell 9 50]:=by
 have h:(yb.funcs[28]?).map (λfn=>(fn.body,fn.ntmps,fn.results))=ab (ab PI,39, #[.cell 8 102,.cell 9 50]):=by kernel_rfl
 grind
section
variable(v n:Nat)(ls:yL Zr)(s:yG)(i:Int)(p:yU)(c:Nat->WM)(er:Nat->Int)
noncomputable def eW:Nat->yL Pl
 |0=>[]
 |k+1=>eW k++[ZG.enc (c k)]
theorem ZG3(k:Nat):(eW c k).length=k:=by
 induction k with
 |zero=>rfl
 |succ k f=>rw[eW,ym,f];rfl
abbrev ig(o:Dv)(lg:yL Pl)(e:Int):yL aq:=[eL v n,eM v n ls,.var (.p (Zb.enc s)) ae,.var (.p (.int .i64 i)) ae,.var (.p (Ty.enc .u64 p)) ae,.var o ae,.log 4 115 lg,.var (.p (.int .i64 e)) ae]
abbrev gJ(k:Nat):yL aq:=ig v n ls s i p (.own 6 ad 4 (eW c k)) (eW c k) 0++[.var (.ak 0 0 []) ae,.var (.p (Zb.enc s)) ae]
abbrev AD(k:Nat):yL aq:=ig v n ls s i p (.p (.sl (ab af) 4 [])) (eW c k) (er k)++[.var (.ak 0 0 []) ae,.var (.p (Zb.enc s)) ae]
noncomputable def AE:yL Dv:=[.ak 0 0 [],.p (Zb.enc s),.p (.int .i64 i),.p (Ty.enc .u64 p),.an,.ak 2 0 [],.ak 3 0 [],.ak 4 0 [],.ak 5 0 [],.ak 7 0 [],.an,.an,.an,.an]++yx 25 .an
noncomputable def uk(b:Bool):yL Dv:=[.ak 0 0 [],.p (Zb.enc s),.p (.int .i64 i),.p (Ty.enc .u64 p),.an,.ak 2 0 [],.ak 3 0 [],.ak 4 0 [],.ak 5 0 [],.ak 7 0 [],.an,.an,.an,.an,.ak 0 0 [],.p (Zb.enc s),.p (.bool b),.p (.bool (!b))]++yx 21 .an
noncomputable def kR:yL Dv:=[.ak 0 0 [],.p (Zb.enc s),.p (.int .i64 i),.p (Ty.enc .u64 p),.an,.ak 2 0 [],.ak 3 0 [],.ak 4 0 [],.ak 5 0 [],.ak 7 0 [],.an,.an,.an,.an,.ak 0 0 [],.p (Zb.enc s),.p (.bool ae),.p (.bool af),.ak 0 0 [],.p (Zb.enc s),.fn 128 [.ak 8 0 [],.ak 9 0 []]]++yx 18 .an
end
theorem ZLc{v:Nat}{ls:yL Zr}{s:yG}{i:Int}{p:yU}{c:Nat->WM}{er:Nat->Int}{mv:Nat->yG}{rt:Nat->Bool}(hl:ls.length<=1000)(hm:∀k,k < ls.length->ZN yD s (ls.getD k default).2.1=ab (mv k)):
 It 10 ls.length (gJ v ls.length ls s i p c) (AD v ls.length ls s i p c er) (fw λk=>ls.getD k default) (PE v ls.length 8 9) (uj v ls.length 8 9) (itD 10 v ls.length (λk=>ls.getD k default) 8 9) (zY v ls.length rt 8 9) rt
  (ZMl 10 s (λk=>ls.getD k default) mv rt) (λk=>Zi.enc (ls.getD k default).1) (λk=>Zb.enc (mv k)) (.an::.ak 8 0 []::.ak 9 0 []::yx 22 .an) where
 e0:=⟨itZ v ls.length 8 9,[(0:Nat)=0,(0:Nat)=0],[.raw],by kernel_rfl,⟨rfl,rfl,aB⟩,by kernel_rfl⟩
 ix k:=by kernel_rfl
 e1 k hk:=⟨[],[],by kernel_rfl,aB⟩
 c1 k:=by
  have h:(uj v ls.length 8 9 k)[12]? =ab (.p (.bool (ag ((k:Int) < (ls.length:Int))))):=by kernel_rfl
  grind
 e2 k hk:=by
  refine⟨[0<=(k:Int),(k:Int) < (ls.length:Int)]++([(ls.map Zu.enc)[0+k]? =ab (kj (ls.getD k default)),(0+k)*60+0=(0+k)*60]++[(0:Nat)=0]),[.el (kj (ls.getD k default)),.raw,.raw], ?_,⟨by omega,by omega,ZB7 hk,rfl,rfl,aB⟩⟩;have hl:dS.toList=[ba dS 0,ba dS 1,ba dS 2,ba dS 3]:=by kernel_rfl
  rw[hl];refine AA (H1:=gJ v ls.length ls s i p c k) (hs1:=[.el (kj (ls.getD k default)),.raw,.raw]) (d:=.aZ 1 v ((0+k)*60) [0+k]) (by kernel_rfl) (AA (d:=.p (kj (ls.getD k default))) (H1:=gJ v ls.length ls s i p c k) (hs1:=[.raw,.raw]) ?_ (by kernel_rfl));exact Zza (t:=112) (x:=13) (id:=1) (v:=v) (n:=ls.length) (st:=ae) (e:=112) (by kernel_rfl) (by kernel_rfl) (by kernel_rfl) rfl (by kernel_rfl)
 ic k:=by kernel_rfl
 e3 k hk i hi:=by
  match i,hi with
  |0,_=>exact⟨[],[.raw],by kernel_rfl,aB⟩
  |1,_=>exact⟨[],[],by kernel_rfl,aB⟩
  |2,_=>exact⟨[(0:Nat)=0],[],by kernel_rfl,⟨rfl,aB⟩⟩
  |3,_=>exact⟨[(0:Nat)=0],[],by kernel_rfl,⟨rfl,aB⟩⟩
  |4,_=>exact⟨[],[],by kernel_rfl,aB⟩
  |5,_=>exact⟨[(57:Nat)=57],[],by kernel_rfl,⟨rfl,aB⟩⟩
  |6,_=>exact⟨[ca yb 15 [.p (Zb.enc s),.p (Ty.enc (.arr 2 (.int .i64)) (ls.getD k default).2.1)] [] (.p (Zb.enc (mv k))) []],[.call (.p (Zb.enc (mv k))) [] []],by kernel_rfl,⟨ZuF (hm k hk),aB⟩⟩
  |_+7,h=>exact absurd h (by omega)
 d0 k:=rfl
 d2 k:=rfl
 d6 k:=rfl
 d7 k:=rfl
 d8 k:=rfl
 e8 k H:=by kernel_rfl
 g k:=by kernel_rfl
 g23 k:=by kernel_rfl
 e4 k hk _:=⟨((zY v ls.length rt 8 9 k).set 24 (.p (.int .i64 ((k:Int)+1)))).set 11 (.p (.int .i64 ((k:Int)+1))),[Wa .i64 ((k:Int)+1)],[.bare,.raw],by kernel_rfl,⟨by simp only[Wa,IntKind.min,IntKind.max,IntKind.signed,IntKind.bits];constructor <;> simp<;> omega,aB⟩,by kernel_rfl⟩
section
variable(s:yG)(i:Int)(p:yU)(x:Zr)(t:yG)(c:WM)(e:Int)
noncomputable def PJ:yL Dv:=((((kR s i p).set 21 (.p (Zi.enc x.1))).set 22 (.p (Zb.enc t))).set 10 (.ak 11 0 [])).set 11 (.ak 12 0 [])
noncomputable def lR:yL Dv:=((((((((((PJ s i p x t).set 24 (.p (Zi.enc x.1))).set 25 (.p (Zb.enc t))).set 26 (.p (.int .i64 i))).set 27 (.p (Ty.enc .u64 p))).set 28 (.bm [.p (ZG.enc c),.p (.int .i64 e)])).set 23 (.bm [.p (ZG.enc c),.p (.int .i64 e)])).set 29 (.p (ZG.enc c))).set 30 (.p (.int .i64 e))).set 12 (.ak 13 0 [])).set 13 (.p (.int .i64 e))
end
theorem ZLd{v:Nat}{ls:yL Zr}{s:yG}{i:Int}{p:yU}{c:Nat->WM}{er:Nat->Int}{mv:Nat->yG}(hl:ls.length<=1000)
 (hk:∀k,k < ls.length->WD yD (ls.getD k default).1 (mv k) i p=ab (c k,er k)) (l:Nat) (rc:Loop) (h1:rc.assign=PH) (h2:rc.body=ZJu):
 gm 10 ls.length (gJ v ls.length ls s i p c) (AD v ls.length ls s i p c er) (fw λk=>ls.getD k default) (λk=>ag (er k=0)) (λk=>Zi.enc (ls.getD k default).1) (λk=>Zb.enc (mv k)) l rc 21 22 (kR s i p) where
 round k hkn:=by
  rw[h1,h2];have hcon:=ZGX (hk k hkn);obtain⟨X1,hX1⟩:∃X1,X1=[fw (λk=>ls.getD k default) k,aq.var (.p (Zi.enc (ls.getD k default).1)) ae,.var (.p (Zb.enc (mv k))) ae]:=⟨_,rfl⟩
  have rA:bC yb (ab l) PH (((kR s i p).set 21 (.p (Zi.enc (ls.getD k default).1))).set 22 (.p (Zb.enc (mv k)))) (gJ v ls.length ls s i p c k++[fw (λk=>ls.getD k default) k]) .normal (PJ s i p (ls.getD k default) (mv k)) (gJ v ls.length ls s i p c k++[fw (λk=>ls.getD k default) k,.var (.p (Zi.enc (ls.getD k default).1)) ae,.var (.p (Zb.enc (mv k))) ae]):=
   iT (YX (hs:=[.raw,.raw]) (hs':=[]) (C:=[(0:Nat)=0]) (ts':=(((kR s i p).set 21 (.p (Zi.enc (ls.getD k default).1))).set 22 (.p (Zb.enc (mv k)))).set 10 (.ak 11 0 [])) (H':=gJ v ls.length ls s i p c k++[fw (λk=>ls.getD k default) k,.var (.p (Zi.enc (ls.getD k default).1)) ae]) (by kernel_rfl) ⟨rfl,aB⟩ (by kernel_rfl))
    (YX (hs:=[.raw,.raw]) (hs':=[]) (C:=[(0:Nat)=0]) (by kernel_rfl) ⟨rfl,aB⟩ (by kernel_rfl))
  have rB:bC yb (ab l) (.region 6 ZJq af) (PJ s i p (ls.getD k default) (mv k)) (gJ v ls.length ls s i p c k++[fw (λk=>ls.getD k default) k,.var (.p (Zi.enc (ls.getD k default).1)) ae,.var (.p (Zb.enc (mv k))) ae]) .normal
   (lR s i p (ls.getD k default) (mv k) (c k) (er k)) (gJ v ls.length ls s i p c k++[fw (λk=>ls.getD k default) k,.var (.p (Zi.enc (ls.getD k default).1)) ae,.var (.p (Zb.enc (mv k))) ae,.var (.p (ZG.enc (c k))) ae]):=
   YX (hs:=[.call (.bm [.p (ZG.enc (c k)),.p (.int .i64 (er k))]) [] [],.raw,.raw,.raw,.raw]) (hs':=[])
    (C:=[(0:Nat)=0,(0:Nat)=0,(0:Nat)=0,(0:Nat)=0,ca yb 72 [.p (Zi.enc (ls.getD k default).1),.p (Zb.enc (mv k)),.p (.int .i64 i),.p (Ty.enc .u64 p)] [] (.bm [.p (ZG.enc (c k)),.p (.int .i64 (er k))]) [],(0:Nat)=0]) (by kernel_rfl) ⟨rfl,rfl,rfl,rfl,hcon,rfl,aB⟩ (by kernel_rfl)
  have r7:bC yb (ab l) (.region 7 ZJr af) (lR s i p (ls.getD k default) (mv k) (c k) (er k)) (gJ v ls.length ls s i p c k++[fw (λk=>ls.getD k default) k,.var (.p (Zi.enc (ls.getD k default).1)) ae,.var (.p (Zb.enc (mv k))) ae,.var (.p (ZG.enc (c k))) ae]) .normal
   (((lR s i p (ls.getD k default) (mv k) (c k) (er k)).set 31 (.p (.int .i64 (er k)))).set 32 (.p (.bool (er k !=0)))) (gJ v ls.length ls s i p c k++[fw (λk=>ls.getD k default) k,.var (.p (Zi.enc (ls.getD k default).1)) ae,.var (.p (Zb.enc (mv k))) ae,.var (.p (ZG.enc (c k))) ae]):=
   YX (hs:=[.raw]) (hs':=[]) (C:=[]) (by kernel_rfl) trivial (by kernel_rfl)
  by_cases he:er k=0
  .have hb:(er k !=0)=af:=by rw[he];rfl
   have hC1:=ZG3 c k
   have r9:bC yb (ab l) (.region 9 mY af) (((lR s i p (ls.getD k default) (mv k) (c k) (er k)).set 31 (.p (.int .i64 (er k)))).set 32 (.p (.bool (er k !=0)))) (gJ v ls.length ls s i p c k++[fw (λk=>ls.getD k default) k,.var (.p (Zi.enc (ls.getD k default).1)) ae,.var (.p (Zb.enc (mv k))) ae,.var (.p (ZG.enc (c k))) ae]) .normal
    _ (gJ v ls.length ls s i p c (k+1)++[fw (λk=>ls.getD k default) k,.var (.p (Zi.enc (ls.getD k default).1)) ae,.var (.p (Zb.enc (mv k))) ae,.var (.p (ZG.enc (c k))) ae]):=
    ZIT (l:=[ba mY 0,ba mY 1,ba mY 2,ba mY 3]) (o:=ba mY 4) (d:=.an) (hs:=[.iB])
     (ts1:=((((((lR s i p (ls.getD k default) (mv k) (c k) (er k)).set 31 (.p (.int .i64 (er k)))).set 32 (.p (.bool (er k !=0)))).set 34 (.own 6 ad 4 (eW c k))).set 35 (.p (ZG.enc (c k)))).set 36 (.p (.sl (ab ae) 4 [ZG.enc (c k)]))).set 37 (.own 6 ad 4 (eW c k++[ZG.enc (c k)])))
     (H1:=ig v ls.length ls s i p (.own 6 ad 4 (eW c k)) (eW c k++[ZG.enc (c k)]) 0++[.var (.ak 0 0 []) ae,.var (.p (Zb.enc s)) ae,fw (λk=>ls.getD k default) k,.var (.p (Zi.enc (ls.getD k default).1)) ae,.var (.p (Zb.enc (mv k))) ae,.var (.p (ZG.enc (c k))) ae])
     (C:=[(0:Nat)=0,(0:Nat)=0,eW c k=eW c k,((eW c k).length+1)*80<=Zs,(eW c k).length+1<=maxLen]) (by kernel_rfl) (by kernel_rfl) ⟨rfl,rfl,rfl,by rw[hC1];simp only[Zs];omega,by rw[hC1];simp only[maxLen];omega,aB⟩ (by kernel_rfl) (by kernel_rfl) (by kernel_rfl)
     (λJ a ok hH yM=>by
       have h:=vh (P:=yb) (o:=ba mY 4) (t:=102) (x:=.tmp 8) (y:=.tmp 37) (id:=5) (off:=0) (yQ:=[]) (dd:=.own 6 ad 4 (eW c k)) (sub:=.own 6 ad 4 (eW c k)) (new:=.own 6 ad 4 (eW c k++[ZG.enc (c k)])) (dd':=.own 6 ad 4 (eW c k++[ZG.enc (c k)])) (C1:=[]) (off':=0) (hs:=[]) (hs':=[]) ok yM
        (by kernel_rfl) (by kernel_rfl) (by rw[hH];kernel_rfl) (by kernel_rfl) trivial rfl (by kernel_rfl) (by kernel_rfl) (by kernel_rfl) (by kernel_rfl) (by kernel_rfl) (by kernel_rfl)
       rw[hH]at h;exact Ve h (Wk.refl _) (bX.of_eq (by kernel_rfl)))
   have hgo:(λk=>ag (er k=0)) k=ae:=by simp[he]
   refine⟨_,((((((lR s i p (ls.getD k default) (mv k) (c k) (er k)).set 31 (.p (.int .i64 (er k)))).set 32 (.p (.bool (er k !=0)))).set 34 (.own 6 ad 4 (eW c k))).set 35 (.p (ZG.enc (c k)))).set 36 (.p (.sl (ab ae) 4 [ZG.enc (c k)]))).set 37 (.own 6 ad 4 (eW c k++[ZG.enc (c k)])),_,gJ v ls.length ls s i p c (k+1)++[fw (λk=>ls.getD k default) k,.var (.p (Zi.enc (ls.getD k default).1)) ae,.var (.p (Zb.enc (mv k))) ae,.var (.p (ZG.enc (c k))) ae],rA, ?_, ?_⟩
   .rw[yW hgo];refine PB (iT rB (iT (iT r7 (uh (b:=er k !=0) (by kernel_rfl) ?_)) r9)) (λj h=>by cases h);rw[hb];exact OZ
   .rw[yW hgo]
    kernel_rfl
  .have hb:(er k !=0)=ae:=by simpa using he
   have hgo:¬((λk=>ag (er k=0)) k=ae):=by simp[he]
   have r8:bC yb (ab l) (.region 8 AB af) (((lR s i p (ls.getD k default) (mv k) (c k) (er k)).set 31 (.p (.int .i64 (er k)))).set 32 (.p (.bool (er k !=0)))) (gJ v ls.length ls s i p c k++[fw (λk=>ls.getD k default) k,.var (.p (Zi.enc (ls.getD k default).1)) ae,.var (.p (Zb.enc (mv k))) ae,.var (.p (ZG.enc (c k))) ae]) .normal
    ((((lR s i p (ls.getD k default) (mv k) (c k) (er k)).set 31 (.p (.int .i64 (er k)))).set 32 (.p (.bool (er k !=0)))).set 33 (.p (.int .i64 (er k)))) (AD v ls.length ls s i p c er k++[fw (λk=>ls.getD k default) k,.var (.p (Zi.enc (ls.getD k default).1)) ae,.var (.p (Zb.enc (mv k))) ae,.var (.p (ZG.enc (c k))) ae]):=
    YX (hs:=[.raw,.raw,.raw]) (hs':=[]) (C:=[(0:Nat)=0,(0:Nat)=0]) (by kernel_rfl) ⟨rfl,rfl,aB⟩ (by kernel_rfl)
   refine⟨_,(((lR s i p (ls.getD k default) (mv k) (c k) (er k)).set 31 (.p (.int .i64 (er k)))).set 32 (.p (.bool (er k !=0)))).set 33 (.p (.int .i64 (er k))),_,AD v ls.length ls s i p c er k++[fw (λk=>ls.getD k default) k,.var (.p (Zi.enc (ls.getD k default).1)) ae,.var (.p (Zb.enc (mv k))) ae,.var (.p (ZG.enc (c k))) ae],rA, ?_, ?_⟩
   .rw[yX hgo];refine PB (iT rB (ZIU (iT r7 (uh (b:=er k !=0) (by kernel_rfl) ?_)) (by decide))) (λj h=>by cases h);rw[show(if(er k !=0)=ae then Code.seq (.region 8 AB af) .ret else .skip)=Code.seq (.region 8 AB af) .ret from yW hb]
    exact iT r8 PA
   .rw[yX hgo]
    kernel_rfl
 bB:=by kernel_rfl
theorem PK{fn:Func}(f:fn.results= #[.cell 8 102,.cell 9 50]){v:Nat}{ls:yL Zr}{s:yG}{i:Int}{p:yU}{o:Pl}{lg:yL Pl}{e:Int}{E:yL aq}{ts:yL Dv}(ho:gb yb 102 (.p o)=ae)(g:ts[8]? =ab (.ak 5 0 []))(h:ts[9]? =ab (.ak 7 0 [])):
 fin yb fn ts (ig v ls.length ls s i p (.p o) lg e++E) 2 [] []=ab ([(0:Nat)=0,(0:Nat)=0],.bm [.p o,.p (.int .i64 e)],[eL v ls.length,eM v ls.length ls]):=by
 unfold fin;rw[f];have g:ts.getD 8 .an=.ak 5 0 []:=by rw[ycx,g];rfl
 have h:ts.getD 9 .an=.ak 7 0 []:=by rw[ycx,h];rfl
 have j:gx yb ts (ig v ls.length ls s i p (.p o) lg e++E) [.cell 8 102,.cell 9 50] []=ab ([(0:Nat)=0,(0:Nat)=0],[.p o,.p (.int .i64 e)]):=by
  unfold gx;rw[g];dsimp only;rw[show(ig v ls.length ls s i p (.p o) lg e++E)[5]? =ab (.var (.p o) ae) from by kernel_rfl]
  dsimp only[Z6];rw[yW ho];unfold gx;rw[h]
  kernel_rfl
 show(match gx yb ts _ [.cell 8 102,.cell 9 50] [] with|some (C,l)=>_|none=>ad)=_
 rw[j]
 kernel_rfl
theorem PL{v:Nat}{ls:yL Zr}{s:yG}{i:Int}{p:yU}{c:Nat->WM}{er:Nat->Int}{mv:Nat->yG}{rt:Nat->Bool}{res:Dv}(hl:ls.length<=1000)(hm:∀k,k < ls.length->ZN yD s (ls.getD k default).2.1=ab (mv k))
 (hr:∀k,k < ls.length->au yD (ls.getD k default).1 (mv k)=ab (rt k)) (R:(yo ls.length).all rt=ae->∀k,k < ls.length->WD yD (ls.getD k default).1 (mv k) i p=ab (c k,er k))
 (q0:(yo ls.length).all rt=af->res=.bm [.p (.sl (ab af) 4 []),.p (.int .i64 14)])
 (q1:(yo ls.length).all rt=ae->(∀k,k < ls.length->er k=0)->res=.bm [.p (.sl ad 4 (eW c ls.length)),.p (.int .i64 0)])
 (q2:(yo ls.length).all rt=ae->∀k,k < ls.length->er k≠0->(∀j,j < k->er j=0)->res=.bm [.p (.sl (ab af) 4 []),.p (.int .i64 (er k))]):
 ca yb 28 [.ak 0 0 [],.p (Zb.enc s),.p (.int .i64 i),.p (Ty.enc .u64 p)] [eL v ls.length,eM v ls.length ls] res [eL v ls.length,eM v ls.length ls]:=by
 obtain⟨fn,hf,hb,hnt,g⟩:=ZG2;refine ZuD hf hb ?_;intro m J a ok hH yM hd;rw[hnt]at yM;have y:=ZIW (v:=v) hl hm hr;obtain⟨b,hbb⟩:∃b,(yo ls.length).all rt=b:=⟨_,rfl⟩;rw[hbb]at y R q0 q1 q2;unfold PI
 have r0:bC yb ad (.region 0 ZJs af) ([.ak 0 0 [],.p (Zb.enc s),.p (.int .i64 i),.p (Ty.enc .u64 p)]++yx 35 .an) [eL v ls.length,eM v ls.length ls] .normal (AE s i p) (ig v ls.length ls s i p (.own 6 ad 4 []) [] 0):=
  YX (hs:=[.raw,.raw,.raw,.cq [] 4 115,.raw,.raw]) (hs':=[]) (C:=[]) (by kernel_rfl) trivial (by kernel_rfl)
 have r1:bC yb ad (.region 1 AC af) (AE s i p) (ig v ls.length ls s i p (.own 6 ad 4 []) [] 0) .normal (uk s i p b) (ig v ls.length ls s i p (.own 6 ad 4 []) [] 0):=
  YX (hs:=[.raw,.call (.p (.bool b)) [eL v ls.length,eM v ls.length ls] [0,1]]) (hs':=[]) (C:=[(0:Nat)=0,ca yb 27 [.ak 0 0 [],.p (Zb.enc s)] [eL v ls.length,eM v ls.length ls] (.p (.bool b)) [eL v ls.length,eM v ls.length ls]]) (by kernel_rfl) ⟨rfl,y,aB⟩ (by kernel_rfl)
 refine wpIn_seq (wpIn_mono (r0 m J a ok hH yM) ?_);rintro e a1 w1 ⟨rfl,S,J1,rfl,e1,T,U,z⟩
 cases b with
 |false=>
  have r2:bC yb ad (.seq (.region 1 AC af) (.cond (.tmp 17) (.seq (.region 2 PG af) .ret) .skip)) (AE s i p) (ig v ls.length ls s i p (.own 6 ad 4 []) [] 0) .ret (uk s i p af) (ig v ls.length ls s i p (.p (.sl (ab af) 4 [])) [] 14):=
   iT r1 (uh (b:=ae) (by kernel_rfl) (iT (YX (hs:=[.raw,.raw]) (hs':=[]) (C:=[(0:Nat)=0,(0:Nat)=0]) (by kernel_rfl) ⟨rfl,rfl,aB⟩ (by kernel_rfl)) PA))
  refine wpIn_seq (wpIn_mono (r2 m J1 a1 U e1 z) ?_);rintro e a2 w2 ⟨rfl,A,J2,rfl,e2,F,G,h⟩;refine⟨.inl rfl,J2,_,_,[],[],[(0:Nat)=0,(0:Nat)=0],rfl,T.trans F,G,e2,h, ?_,⟨rfl,rfl,aB⟩,.inl (A.trans (S.trans hd))⟩;rw[q0 rfl];have:=PK (E:=[]) g (v:=v) (ls:=ls) (s:=s) (i:=i) (p:=p) (o:=.sl (ab af) 4 []) (lg:=[]) (e:=14) (ts:=uk s i p af) (by kernel_rfl) (by kernel_rfl) (by kernel_rfl)
  rwa [ybf]at this
 |true=>
  have r2:bC yb ad (.seq (.region 1 AC af) (.cond (.tmp 17) (.seq (.region 2 PG af) .ret) .skip)) (AE s i p) (ig v ls.length ls s i p (.own 6 ad 4 []) [] 0) .normal (uk s i p ae) (ig v ls.length ls s i p (.own 6 ad 4 []) [] 0):=
   iT r1 (uh (b:=af) (by kernel_rfl) OZ)
  have r3:bC yb ad (.region 3 ZJt af) (uk s i p ae) (ig v ls.length ls s i p (.own 6 ad 4 []) [] 0) .normal (kR s i p) (gJ v ls.length ls s i p c 0):=
   YX (hs:=[.raw,.call (.fn 128 [.ak 2 0 [],.ak 3 0 []]) [eL v ls.length,eM v ls.length ls,.var (.ak 0 0 []) ae,.var (.p (Zb.enc s)) ae] [0,1]]) (hs':=[])
    (C:=[(0:Nat)=0,ca yb 71 [.ak 0 0 [],.p (Zb.enc s)] [eL v ls.length,eM v ls.length ls] (.fn 128 [.ak 2 0 [],.ak 3 0 []]) [eL v ls.length,eM v ls.length ls,.var (.ak 0 0 []) ae,.var (.p (Zb.enc s)) ae]]) (by kernel_rfl) ⟨rfl,Zsz v ls.length ls s,aB⟩ (by kernel_rfl)
  have R:=R rfl;refine wpIn_seq (wpIn_mono (r2 m J1 a1 U e1 z) ?_);rintro e a2 w2 ⟨rfl,A,J2,rfl,e2,F,G,h⟩;refine wpIn_seq (wpIn_seq (wpIn_mono (r3 m J2 a2 G e2 h) ?_));rintro e a3 w3 ⟨rfl,hd3,J3,rfl,e3,to3,ok3,W⟩;have X:a3.defers=[]:=hd3.trans (A.trans (S.trans hd));have h8:(kR s i p)[8]? =ab (.ak 5 0 []):=by kernel_rfl
  have h9:(kR s i p)[9]? =ab (.ak 7 0 []):=by kernel_rfl
  have f:=(T.trans F).trans to3;refine wpIn_block (Zy9 (ZLc (i:=i) (p:=p) (c:=c) (er:=er) (rt:=λk=>ag (er k=0)) hl hm) ok3 rfl e3 W X (by kernel_rfl) rfl (ZLd hl R) m _ (λJ' a' zU ht to I e' l M=> ?_) (λJ' a' k hkn hg zU ht to I e' l M=> ?_))
  .have r10:bC yb ad (.region 10 ZGZ af) (kR s i p) (gJ v ls.length ls s i p c ls.length) .normal ((kR s i p).set 38 (.own 6 ad 4 (eW c ls.length))) (ig v ls.length ls s i p (.p (.sl ad 4 (eW c ls.length))) (eW c ls.length) 0++[.var (.ak 0 0 []) ae,.var (.p (Zb.enc s)) ae]):=
    YX (hs:=[.raw,.raw]) (hs':=[]) (C:=[(0:Nat)=0,(0:Nat)=0,(0:Nat)=0]) (by kernel_rfl) ⟨rfl,rfl,rfl,aB⟩ (by kernel_rfl)
   refine wpIn_seq (wpIn_mono (r10 m J' a' I e' l) ?_);rintro e a4 w4 ⟨rfl,hd4,J4,rfl,e4,Q,ok4,Y⟩;refine wpIn_ret ⟨.inl rfl,J4,_,_,[],[],[(0:Nat)=0,(0:Nat)=0],rfl,(f.trans to).trans Q,ok4,e4,Y, ?_,⟨rfl,rfl,aB⟩, ?_⟩
   .rw[q1 rfl λk R=>by simpa using zU k R];exact PK g (by kernel_rfl) (by kernel_rfl) (by kernel_rfl)
   .rw[hd4];rcases M with M|⟨D,m1,m2,m3,m4⟩
    .exact .inl M
    .have Z:=oG m4;exact .inr ⟨D,m1,ybt f.size m2,zS Q Z m3,(Q.block D Z m3).trans m4⟩
  .refine⟨.inl rfl,J',kR s i p,_,[],[],[(0:Nat)=0,(0:Nat)=0],rfl,f.trans to,I,e',l, ?_,⟨rfl,rfl,aB⟩, ?_⟩
   .rw[q2 rfl k hkn (by simpa using hg) λj hj=>by simpa using zU j hj];exact PK g (by kernel_rfl) h8 h9
   .rcases M with M|⟨D,m1,m2,m3,m4⟩
    .exact .inl M
    .exact .inr ⟨D,m1,ybt f.size m2,m3,m4⟩
def AF(F:Nat)(s:yG)(ls:yL Zr):yO (yL Bool):=
 ls.foldr (λx o=>(ZN F s x.2.1).bind λt=>(au F x.1 t).bind λb=>o.bind λl=>ab (b::l)) (ab [])
theorem ZDP(F:Nat)(s:yG)(x:Zr)(r:yL Zr):AF F s (x::r)=(ZN F s x.2.1).bind λt=>(au F x.1 t).bind λb=>(AF F s r).bind λl=>ab (b::l):=rfl
def AG(F:Nat)(s:yG)(i:Int)(p:yU)(ls:yL Zr):yO (yL (WM×Int)):=
 ls.foldr (λx o=>(ZN F s x.2.1).bind λt=>(WD F x.1 t i p).bind λc=>o.bind λl=>ab (c::l)) (ab [])
theorem ZDQ(F:Nat)(s:yG)(i:Int)(p:yU)(x:Zr)(r:yL Zr):AG F s i p (x::r)=(ZN F s x.2.1).bind λt=>(WD F x.1 t i p).bind λc=>(AG F s i p r).bind λl=>ab (c::l):=rfl
def Qx(F:Nat)(s:yG)(i:Int)(p:yU)(w:yL (Ty.aO []))(ls:yL Zr):yO (yL WM×Int×yL (Ty.aO [])×yL Zr):=
 if ls.length<=1000 then(AF F s ls).bind λl=>if l.all id=ae then(AG F s i p ls).bind λm=>(match m.find? λq=>q.2 !=0 with|some q=>ab ([],q.2,w,ls)|none=>ab (m.map λq=>q.1,0,w,ls)) else ab ([],14,w,ls) else ad
theorem ZuG{F:Nat}{s:yG}:∀{ls:yL Zr}{l:yL Bool},AF F s ls=ab l->l.length=ls.length/\∀k,k < ls.length->∃t,ZN F s (ls.getD k default).2.1=ab t/\au F (ls.getD k default).1 t=ab (l.getD k af)
 |[],l,h=>by cases (show ab []=ab l from h);exact⟨rfl,λk f=>absurd f (Nat.not_lt_zero _)⟩
 |x::r,l,h=>by
  rw[ZDP]at h;obtain⟨t,j,h⟩:=yf.1 h;obtain⟨b,m,h⟩:=yf.1 h;obtain⟨y,g,h⟩:=yf.1 h;cases h;obtain⟨e,z⟩:=ZuG g;grind
theorem ZuH{F:Nat}{s:yG}{i:Int}{p:yU}:∀{ls:yL Zr}{l:yL (WM×Int)},AG F s i p ls=ab l->l.length=ls.length/\∀k,k < ls.length->∃t,ZN F s (ls.getD k default).2.1=ab t/\WD F (ls.getD k default).1 t i p=ab (l.getD k default)
 |[],l,h=>by cases (show ab []=ab l from h);exact⟨rfl,λk f=>absurd f (Nat.not_lt_zero _)⟩
 |x::r,l,h=>by
  rw[ZDQ]at h;obtain⟨t,j,h⟩:=yf.1 h;obtain⟨b,m,h⟩:=yf.1 h;obtain⟨y,g,h⟩:=yf.1 h;cases h;obtain⟨e,z⟩:=ZuH g;grind
theorem Zzc:∀(l:yL Bool),(yo l.length).all (λk=>l.getD k af)=l.all id
 |[]=>rfl
 |b::l=>by
  rw[yag,List.range_succ_eq_map,List.all_cons,List.all_map,List.all_cons];exact congrArg (b&& ·) (Zzc l)
theorem PM{α:Type}{p:α->Bool}{d:α}:∀(l:yL α)(k:Nat),k < l.length->p (l.getD k d)=ae->(∀j,j < k->p (l.getD j d)=af)->l.find? p=ab (l.getD k d)
 |[],k,h,_,_=>absurd h (Nat.not_lt_zero _)
 |x::l,0,_,h,_=>by
  grind
 |x::l,k+1,g,h,f=>by
  have m:p x=af:=f 0 (Nat.succ_pos _);rw[List.find?_cons,m];exact PM l k (by simpa using g) h λj y=>f (j+1) (by omega)
theorem ZuI{l:yL (WM×Int)}:∀(k:Nat),k<=l.length->eW (λk=>(l.getD k default).1) k=(l.map λq=>ZG.enc q.1).take k
 |0,_=>rfl
 |k+1,h=>by
  have f:k < l.length:=h;rw[eW,ZuI k (by omega),List.take_add_one,List.getElem?_map,yab f];grind
theorem ZLe{a f b:Pl}(h:bI a f):Wk (.bm [.p a,.p b]) (.bm [.p f,.p b]):=⟨rfl,rfl,λJ vs r=>by
 simp only[yH,aH]at r ⊢;obtain⟨g,rfl,v,j,l,m,y⟩:=r;exact⟨g,rfl,v,j,l,(Wk.p h).dv m,y⟩⟩
abbrev PN:yL bJ:=[.var (.agg [.rw 1]) ae,.row Zu ae 112]
theorem ZMr(w:yL (Ty.aO []))(ls:yL Zr):aK [.var (.agg [.rw 1]) ae,.aY Zu w ae 112 ls]=[eL w.length ls.length,eM w.length ls.length ls]:=by
 have f:=(pu (L:=lk [.var (.agg [.rw 1]) ae,.aY Zu w ae 112 ls]) (id:=1) (v:=w) (s:=60) (N:=ls.length) (by kernel_rfl)).1;show[aq.var (.agg [(TD.rw 1).er (lk [.var (.agg [.rw 1]) ae,.aY Zu w ae 112 ls])]) ae,aq.row w.length Zu.size ae 112 (.p (.arr ls.length Zu.size (ls.map Zu.enc)))]=_;rw[f];rfl
def Vw(F:Nat):Fs yb:=⟨28,[.ak 0 [],.v Zb,.v (.int .i64),.v .u64],PN,[Zb,(.int .i64),.u64,aLA,(.sl Zu)],[⟨.ret,[(0,.bm [.v (.sl ZG),.v (.int .i64)])],PN,[(.sl ZG),(.int .i64),aLA,(.sl Zu)]⟩],
 λx=>Qx F x.1 x.2.1 x.2.2.1 x.2.2.2.1 x.2.2.2.2⟩
def Zic:Fs yb:=Vw yD
theorem Zhz:Zic.Ok:=by
 rintro⟨(s:yG),(i:Int),(p:yU),(w:yL (Ty.aO [])),(ls:yL Zr)⟩ o h
 replace h:Qx yD s i p w ls=ab o:=h
 unfold Qx at h;split at h
 .rename_i X;obtain⟨l,h1,M⟩:=yf.1 h;obtain⟨e,k0⟩:=ZuG h1
  have ho:∃m e,o=(m,e,w,ls):=by
   split at M
   .obtain⟨m,_,Q⟩:=yf.1 M;split at Q <;> cases Q <;> exact⟨_,_,rfl⟩
   .cases M;exact⟨_,_,rfl⟩
  obtain⟨S,T,rfl⟩:=ho;refine⟨[.ak 0 [],.p (.v Zb s),.p (.v (.int .i64) i),.p (.v .u64 p)],[⟨.sl (.st []),w⟩,⟨.sl Zu,ls⟩],[.var (.agg [.rw 1]) ae,.aY Zu w ae 112 ls],by kernel_rfl,by kernel_rfl,λx vs s' hs hf=> ?_⟩;obtain⟨rfl,rfl⟩:=hs
  have hs':s'=([.bm [.p (.v (.sl ZG) S),.p (.v (.int .i64) T)]],[.var (.agg [.rw 1]) ae,.aY Zu w ae 112 ls]):=by
   have Q:VT 1 [(0,.bm [.v (.sl ZG),.v (.int .i64)])] PN (dB [(.sl ZG),(.int .i64),aLA,(.sl Zu)] (S,T,w,ls))=ab ([.bm [.p (.v (.sl ZG) S),.p (.v (.int .i64) T)]],[.var (.agg [.rw 1]) ae,.aY Zu w ae 112 ls]):=by kernel_rfl
   exact(ybl (Q.symm.trans hf)).symm
  subst hs';refine⟨_,rfl, ?_⟩;show ca yb 28 (TD.aG (lk [.var (.agg [.rw 1]) ae,.aY Zu w ae 112 ls]) [.ak 0 [],.p (.v Zb s),.p (.v (.int .i64) i),.p (.v .u64 p)]) (aK [.var (.agg [.rw 1]) ae,.aY Zu w ae 112 ls]) ((TD.bm [.p (.v (.sl ZG) S),.p (.v (.int .i64) T)]).er (lk [.var (.agg [.rw 1]) ae,.aY Zu w ae 112 ls])) (aK [.var (.agg [.rw 1]) ae,.aY Zu w ae 112 ls]);rw[ZMr];show ca yb 28 [.ak 0 0 [],.p (Zb.enc s),.p (.int .i64 i),.p (Ty.enc .u64 p)] [eL w.length ls.length,eM w.length ls.length ls] (.bm [.p (.sl ad 4 (S.map ZG.enc)),.p (.int .i64 T)]) [eL w.length ls.length,eM w.length ls.length ls]
  have Y:∀k,k < ls.length->ZN yD s (List.getD (α:=Zr) ls k default).2.1=ab ((ZN yD s (List.getD (α:=Zr) ls k default).2.1).getD default):=λk F=>by
   grind
  have Z:∀k,k < ls.length->au yD (List.getD (α:=Zr) ls k default).1 ((ZN yD s (List.getD (α:=Zr) ls k default).2.1).getD default)=ab (l.getD k af):=λk F=>by
   obtain⟨t,t1,t2⟩:=k0 k F;rw[t1];exact t2
  have R:=Zzc l;rw[e]at R;have E:∀(e:Int),Wk (.bm [.p (.sl (ab af) 4 []),.p (.int .i64 e)]) (.bm [.p (.sl ad 4 ([]:yL Pl)),.p (.int .i64 e)]):=λe=>ZLe (bI.jA bi.nil);split at M
  .rename_i A;obtain⟨m,Q,W⟩:=yf.1 M;obtain⟨em,km⟩:=ZuH Q
   have F:∀k,k < ls.length->WD yD (List.getD (α:=Zr) ls k default).1 ((ZN yD s (List.getD (α:=Zr) ls k default).2.1).getD default) i p=ab ((m.getD k default).1,(m.getD k default).2):=λk F=>by
    obtain⟨t,t1,t2⟩:=km k F;rw[t1];exact t2
   have hp:∀k,(m.getD k default).2≠0->((m.getD k default).2 !=0)=ae:=λk h=>by simpa using h
   cases y:m.find? (λq=>q.2 !=0) with
   |some q=>
    rw[y]at W;cases W;refine vn (PL (c:=λk=>(m.getD k default).1) (er:=λk=>(m.getD k default).2) (res:=.bm [.p (.sl (ab af) 4 []),.p (.int .i64 q.2)]) X Y Z (λ_=>F) (λh=> ?_) (λ_ h=> ?_) (λ_ k hkn G U=> ?_)) (E q.2) (bX.refl _)
    .rw[R,A]at h;cases h
    .have h5:=List.find?_some y;have h6:=List.mem_of_find?_eq_some y;obtain⟨j,U,hq⟩:=ybk h6;have:=h j (by omega);rw[ycx,yab U,Option.getD_some,hq]at this;rw[this]at h5;simp at h5
    .have:=PM (p:=λq:WM×Int=>q.2 !=0) m k (by omega) (hp k G) (λj I=>by simpa using U j I);rw[y]at this;cases this
     rfl
   |none=>
    rw[y]at W;cases W;refine vn (PL (c:=λk=>(m.getD k default).1) (er:=λk=>(m.getD k default).2) (res:=.bm [.p (.sl ad 4 (eW (λk=>(m.getD k default).1) ls.length)),.p (.int .i64 0)]) X Y Z (λ_=>F) (λh=> ?_) (λ_ _=>rfl) (λ_ k hkn G U=> ?_)) (Wk.of_eq ?_) (bX.refl _)
    .rw[R,A]at h;cases h
    .have:=PM (p:=λq:WM×Int=>q.2 !=0) m k (by omega) (hp k G) (λj I=>by simpa using U j I);rw[y]at this;cases this
    .rw[<-em,ZuI m.length (yl _),List.take_of_length_le (by simp)];have hmm:=(List.map_map (l:=m) (f:=λq:WM×Int=>q.1) (g:=λc:WM=>ZG.enc c)).symm;exact congrArg (λl=>Dv.bm [.p (.sl ad 4 l),.p (.int .i64 0)]) hmm
  .rename_i A;cases M;have z:l.all id=af:=by simpa using A
   exact vn (PL (c:=λ_=>default) (er:=λ_=>0) (res:=.bm [.p (.sl (ab af) 4 []),.p (.int .i64 14)]) X Y Z (λh=>by rw[R,z]at h;cases h) (λ_=>rfl) (λh=>by rw[R,z]at h;cases h) (λh=>by rw[R,z]at h;cases h)) (E 14) (bX.refl _)
 .cases h
theorem ZG5{a:Chan}{s:yG}{w:yL ai}{q:Chan×yG×Tx×Int}(h:Ya yD a s w=ab q):ca yb 10 [.p (Zi.enc a),.p (Zb.enc s),.p (Ty.enc aLB w)] [] (.bm [.p (Zi.enc q.1),.p (Zb.enc q.2.1),.p (bD.enc q.2.2.1),.p (.int .i64 q.2.2.2)]) []:=by
 obtain⟨g,R,H,f,j,l⟩:=LM (a,s,w) q h;have f:=(show Sh.fills [.v Zi,.v Zb,.v aLB] (dB [Zi,Zb,aLB] (a,s,w))=ab ([.p (.v Zi a),.p (.v Zb s),.p (.v aLB w)],[]) by kernel_rfl).symm.trans f;cases f;cases j;obtain⟨r,m,y⟩:=l _ _ ([.bm [.p (.v Zi q.1),.p (.v Zb q.2.1),.p (.v bD q.2.2.1),.p (.v (.int .i64) q.2.2.2)]],[]) ⟨rfl,rfl⟩ (by kernel_rfl);cases m;exact y
theorem ZG6{P:yg}{o:yj}{ts:yL Dv}{H:yL aq}{t x id v off i j n s:Nat}{st:Bool}{e:TypeId}{xs ys:yL Pl}{y:Pl}{hs:yL ao}(ho:o.op=.load t (.tmp x))(g:ts.getD x .an=.aZ id v off [i,j])(hH:H[id]? =ab (.row v s st e (.p (.arr n s xs))))
 (h:ys[j]? =ab y) (l:gb P t (.p y)=ae):cC P o ts H (.el (.agg ys)::hs)=ab ([xs[i]? =ab (.agg ys),i*s+(Pl.sizes (ys.take j)+0)=off],.p y,H,hs):=by
 have f:aF P ts 0 (.tmp x)=.aZ id v off [i,j]:=g
 have m:bh P o ts (.el (.agg ys)::hs)=ad:=by
  unfold bh;grind
 have z:bG P o ts H (.el (.agg ys)::hs)=ab ([xs[i]? =ab (.agg ys),i*s+(Pl.sizes (ys.take j)+0)=off],.p y,hs):=by
  unfold bG;rw[ho];dsimp only;rw[f];dsimp only;rw[hH];dsimp only[Z6,Option.map];grind
 unfold cC;grind
noncomputable def PO:Array yj:=match io (ZR yb 25) 4 with|.region _ ops _=>ops|_=> #[]
noncomputable def ZM1:Nat:=match io (ZR yb 25) 4 with|.region id _ _=>id|_=>0
theorem ZI0:io (ZR yb 25) 4=.region ZM1 PO ae:=by kernel_rfl
theorem PP:PO.size=22:=by kernel_rfl
section
variable(x:Zr)(r:yL Zr)(v:Nat)(s:yG)(w:yL ai)(q:Chan×yG×Tx×Int)(e4:aq)
noncomputable def adD:Nat->Dv
 |0=>.ak 1 0 []
 |1=>.ak 1 0 []
 |2=>.ak 1 0 [0]
 |3=>.rv 0 v 60 0 (r.length+1)
 |4=>.aZ 0 v ((0+0)*60) [0+0]
 |5=>.aZ 0 v ((0+0)*60+0) [0+0,0]
 |6=>.p (Zi.enc x.1)
 |7=>.p (Zb.enc s)
 |8=>.p (Ty.enc aLB w)
 |9=>.bm [.p (Zi.enc q.1),.p (Zb.enc q.2.1),.p (bD.enc q.2.2.1),.p (.int .i64 q.2.2.2)]
 |10=>.bm [.p (Zi.enc q.1),.p (Zb.enc q.2.1),.p (bD.enc q.2.2.1),.p (.int .i64 q.2.2.2)]
 |11=>.p (Zi.enc q.1)
 |12=>.p (Zb.enc q.2.1)
 |13=>.p (bD.enc q.2.2.1)
 |14=>.p (.int .i64 q.2.2.2)
 |15=>.ak 5 0 []
 |16=>.ak 6 0 []
 |17=>.ak 7 0 []
 |18=>.an
 |19=>.an
 |20=>.an
 |21=>.p (.int .i64 q.2.2.2)
 |_=>.an
noncomputable def PQ:yL NV:=[⟨15,18,35,Zi.enc q.1,.tmp 8,.tmp 32⟩,⟨16,19,39,Zb.enc q.2.1,.tmp 9,.tmp 33⟩,⟨17,20,49,bD.enc q.2.2.1,.tmp 10,.tmp 34⟩]
noncomputable def adH:yL aq:=[aq.row v 60 ae 112 (.p (.arr (r.length+1) 60 ((x::r).map Zu.enc))),aq.var (.agg [.rv 0 v 60 0 (r.length+1)]) ae,aq.var (.p (Zb.enc s)) ae,aq.var (.p (Ty.enc aLB w)) ae,e4]
noncomputable def AH:yL Dv:=(yo 64).map λs=>match s with|0=>.ak 1 0 []|4=>.ak 2 0 []|5=>.ak 3 0 []|6=>.ak 4 0 []|_=>Dv.an
end
noncomputable def adS:Nat->yL Nat×yL Nat
 |0=>([],[0])
 |1=>([0],[])
 |2=>([1],[])
 |3=>([2],[])
 |4=>([3],[])
 |5=>([4],[])
 |6=>([5],[])
 |7=>([],[4])
 |8=>([],[5])
 |9=>([6,7,8],[])
 |10=>([9],[])
 |11=>([10],[])
 |12=>([10],[])
 |13=>([10],[])
 |14=>([10],[])
 |18=>([15,11],[])
 |19=>([16,12],[])
 |20=>([17,13],[])
 |21=>([14],[])
 |_=>([],[])
abbrev ZMs(x:Zr)(r:yL Zr)(v:Nat)(s:yG)(w:yL ai)(q:Chan×yG×Tx×Int)(e4:aq):yL Dv:=dq (AH).length (aT PO.toList) (adD x r v s w q) (AH) [15,16,17,21] [0,5,6]
theorem ZI1(x:Zr)(r:yL Zr)(v:Nat)(s:yG)(w:yL ai)(q:Chan×yG×Tx×Int)(e4:aq)(g:Ya yD x.1 s w=ab q):Xn yb (io (ZR yb 25) 4) (AH) (adH x r v s w e4) .normal (ZMs x r v s w q e4) (adH x r v s w e4++(PQ q).map λv=>.var (.p v.p) ae):=by
 rw[ZI0];refine ZCC (by kernel_rfl) (adD x r v s w q) (PQ q) adS (by rw[PP];kernel_rfl) (by kernel_rfl) (by rw[PP];kernel_rfl) [15,16,17,21] [0,5,6] (by kernel_rfl) (by kernel_rfl) (by kernel_rfl) (λi f l Z=> ?_) (λk v m=> ?_)
 .rw[PP]at f
  match i,f,l with
  |0,_,_=>exact⟨[.raw],[],by kernel_rfl,aB⟩
  |1,_,_=>exact⟨[],[],by kernel_rfl,aB⟩
  |2,_,_=>exact⟨[],[],by kernel_rfl,aB⟩
  |3,_,_=>exact⟨[],[(0:Nat)=0],by kernel_rfl,by omega,aB⟩
  |4,_,_=>exact⟨[],[(0:Int)<=0,(0:Int) < ((r.length+1:Nat):Int)],by kernel_rfl,by omega,by omega,aB⟩
  |5,_,_=>exact⟨[],[],by kernel_rfl,aB⟩
  |6,_,_=>exact⟨[.el (Zu.enc x)],[((x::r).map Zu.enc)[0+0]? =ab (Zu.enc x),(0+0)*60+(0+0)=(0+0)*60+0],ZG6 (t:=35) (x:=27) (id:=0) (v:=v) (n:=r.length+1) (s:=60) (st:=ae) (e:=112) (xs:=(x::r).map Zu.enc) (i:=0+0) (j:=0) (by kernel_rfl) (by kernel_rfl) (by kernel_rfl) (by kernel_rfl) (by kernel_rfl),rfl,rfl,aB⟩
  |7,_,_=>exact⟨[],[(0:Nat)=0],by kernel_rfl,by omega,aB⟩
  |8,_,_=>exact⟨[],[(0:Nat)=0],by kernel_rfl,by omega,aB⟩
  |9,_,_=>exact⟨[.call (.bm [.p (Zi.enc q.1),.p (Zb.enc q.2.1),.p (bD.enc q.2.2.1),.p (.int .i64 q.2.2.2)]) [] []],[ca yb 10 [.p (Zi.enc x.1),.p (Zb.enc s),.p (Ty.enc aLB w)] [] (.bm [.p (Zi.enc q.1),.p (Zb.enc q.2.1),.p (bD.enc q.2.2.1),.p (.int .i64 q.2.2.2)]) []],by kernel_rfl,ZG5 g,aB⟩
  |10,_,_=>exact⟨[.raw],[],by kernel_rfl,aB⟩
  |11,_,_=>exact⟨[],[],by kernel_rfl,aB⟩
  |12,_,_=>exact⟨[],[],by kernel_rfl,aB⟩
  |13,_,_=>exact⟨[],[],by kernel_rfl,aB⟩
  |14,_,_=>exact⟨[],[],by kernel_rfl,aB⟩
  |15,_,h=>exact absurd (show ae=af from h) (by decide)
  |16,_,h=>exact absurd (show ae=af from h) (by decide)
  |17,_,h=>exact absurd (show ae=af from h) (by decide)
  |18,_,h=>exact absurd (show ae=af from h) (by decide)
  |19,_,h=>exact absurd (show ae=af from h) (by decide)
  |20,_,h=>exact absurd (show ae=af from h) (by decide)
  |21,_,_=>exact⟨[.raw],[],by kernel_rfl,aB⟩
  |_+22,h,_=>exact absurd h (by omega)
 .match k,m with
  |0,rfl=>exact⟨by kernel_rfl,by kernel_rfl,by kernel_rfl,by kernel_rfl,by kernel_rfl,by kernel_rfl,by kernel_rfl,by kernel_rfl,by kernel_rfl,by kernel_rfl,by kernel_rfl,by kernel_rfl,by kernel_rfl⟩
  |1,rfl=>exact⟨by kernel_rfl,by kernel_rfl,by kernel_rfl,by kernel_rfl,by kernel_rfl,by kernel_rfl,by kernel_rfl,by kernel_rfl,by kernel_rfl,by kernel_rfl,by kernel_rfl,by kernel_rfl,by kernel_rfl⟩
  |2,rfl=>exact⟨by kernel_rfl,by kernel_rfl,by kernel_rfl,by kernel_rfl,by kernel_rfl,by kernel_rfl,by kernel_rfl,by kernel_rfl,by kernel_rfl,by kernel_rfl,by kernel_rfl,by kernel_rfl,by kernel_rfl⟩
  |_+3,h=>cases h
abbrev ZM2:Type:=yL (Ty.aO [])×yL Zr×yG×yL ai×Tx
abbrev ZM3:Type:=Int×yL (Ty.aO [])×yL Zr×yG×yL ai×Tx×Chan×yG×Tx
noncomputable def Zkd(F:Nat)(a:ZM2):yO ZM3:=
 match a.2.1 with
 |[]=>ad
 |x::r=>(Ya F x.1 a.2.2.1 a.2.2.2.1).bind λq=>ab (q.2.2.2,a.1,x::r,a.2.2.1,a.2.2.2.1,a.2.2.2.2,q.1,q.2.1,q.2.2.1)
noncomputable def PR(F:Nat):Lp:=⟨[(0,.ak 1 []),(4,.ak 2 []),(5,.ak 3 []),(6,.ak 4 [])],[.row Zu ae 112,.var (.agg [.rw 0]) ae,.var (.v Zb) ae,.var (.v aLB) ae,.var (.v bD) ae],[aLA,(.sl Zu),Zb,aLB,bD],[⟨.normal,[(0,.ak 1 []),(5,.ak 3 []),(6,.ak 4 []),(8,.ak 5 []),(9,.ak 6 []),(10,.ak 7 []),(11,.v (.int .i64))],[.row Zu ae 112,.var (.agg [.rw 0]) ae,.var (.v Zb) ae,.var (.v aLB) ae,.var (.v bD) ae,.var (.v Zi) ae,.var (.v Zb) ae,.var (.v bD) ae],[.int .i64,aLA,(.sl Zu),Zb,aLB,bD,Zi,Zb,bD]⟩],Zkd F⟩
noncomputable def Zlt:Lp:=PR yD
section
variable(x:Zr)(r:yL Zr)(z0:yL (Ty.aO []))(z2:yG)(z3:yL ai)(z4:Tx)(q:Chan×yG×Tx×Int)
noncomputable def PS:yL TD:=((yo 64).map λs=>match s with|0=>.ak 1 []|4=>.ak 2 []|5=>.ak 3 []|6=>.ak 4 []|_=>TD.an)
noncomputable def PT:yL TD:=((yo 64).map λs=>match s with|0=>.ak 1 []|5=>.ak 3 []|6=>.ak 4 []|8=>.ak 5 []|9=>.ak 6 []|10=>.ak 7 []|11=>.p (.v (.int .i64) q.2.2.2)|_=>TD.an)
noncomputable def mZ:yL ah:=[.aY Zu z0 ae 112 (x::r),.var (.agg [.rw 0]) ae,.var (.p (.v Zb z2)) ae,.var (.p (.v aLB z3)) ae,.var (.p (.v bD z4)) ae]
noncomputable def oH:yL ah:=mZ x r z0 z2 z3 z4++[.var (.p (.v Zi q.1)) ae,.var (.p (.v Zb q.2.1)) ae,.var (.p (.v bD q.2.2.1)) ae]
noncomputable def adG(v:Nat)(s:yG)(w:yL ai)(e4:aq)(d:Dv):yL aq:=[aq.row v 60 ae 112 (.p (.arr (r.length+1) 60 ((x::r).map Zu.enc))),aq.var (.agg [d]) ae,aq.var (.p (Zb.enc s)) ae,aq.var (.p (Ty.enc aLB w)) ae,e4]
end
theorem ZI2:iq yb 25=64:=by kernel_rfl
theorem Zid:Zlt.Is yb (iq yb 25) (io (ZR yb 25) 4):=by
 rw[ZI2];intro v o g s hs e vs F f hs';obtain⟨z0,l,z2,z3,z4⟩:=v
 cases l with
 |nil=>cases g
 |cons x r=>
  obtain⟨q,m,y⟩:=yf.1 (show(Ya yD x.1 z2 z3).bind _=ab o from g)
  cases y;obtain⟨rfl,rfl⟩:=f;have z:=ZI1 x r z0.length z2 z3 q (.var (.p (bD.enc z4)) ae) m;obtain rfl:=ybl ((show _=ab (PS,mZ x r z0 z2 z3 z4) by kernel_rfl).symm.trans hs);obtain rfl:=ybl ((show _=ab (PT q,oH x r z0 z2 z3 z4 q) by kernel_rfl).symm.trans hs');have A:=(pu (L:=lk (mZ x r z0 z2 z3 z4)) (id:=0) (v:=z0) (s:=60) (N:=r.length+1) (by kernel_rfl)).1;have E:=(pu (L:=lk (oH x r z0 z2 z3 z4 q)) (id:=0) (v:=z0) (s:=60) (N:=r.length+1) (by kernel_rfl)).1;have h:aK (mZ x r z0 z2 z3 z4)=adG x r z0.length z2 z3 (.var (.p (bD.enc z4)) ae) ((TD.rw 0).er (lk (mZ x r z0 z2 z3 z4))):=by kernel_rfl
  have j:aK (oH x r z0 z2 z3 z4 q)=adG x r z0.length z2 z3 (.var (.p (bD.enc z4)) ae) ((TD.rw 0).er (lk (oH x r z0 z2 z3 z4 q)))++(PQ q).map λv=>.var (.p v.p) ae:=by kernel_rfl
  rw[A]at h;rw[E]at j;show Xn yb _ (TD.aG (lk (mZ x r z0 z2 z3 z4)) PS) (aK (mZ x r z0 z2 z3 z4)) .normal (TD.aG (lk (oH x r z0 z2 z3 z4 q)) (PT q)) (aK (oH x r z0 z2 z3 z4 q));rw[show TD.aG (lk (mZ x r z0 z2 z3 z4)) PS=AH by kernel_rfl,show TD.aG (lk (oH x r z0 z2 z3 z4 q)) (PT q)=ZMs x r z0.length z2 z3 q (.var (.p (bD.enc z4)) ae) by kernel_rfl,h,j];exact z
end
end Go.Proofs.YtcbhhaigilifgaaGreat
end
