/- Parts of the proof, in one file. -/
import Derived.Test.YtcbhhaigilifgaaGreatKb
open Option renaming some → ab, none → ad
open Bool renaming true → ae, false → af
open Decidable renaming decide → ag
open Array renaming replicate → ycg, getElem?_toList → ycl, getElem?_eq_getElem → ycm, getElem?_eq_some_iff → ycv, getD_eq_getD_getElem? → ycw, getElem?_setIfInBounds → ydc
open BitVec renaming ofInt → ybz
open Bool renaming and_eq_true → yi, or_eq_true → yck, eq_iff_iff → yco
open Go renaming TypeId → yc, Program → yg, Value → yh, Oper → yj, Operand → yp, FuncId → yr
open List renaming length_append → yl, range → yn, getElem?_eq_some_iff → yu, replicate → yx, nil_append → yz, length_map → yaa, append_assoc → yab, length_take → yac, getElem?_eq_getElem → yad, cons_append → yaf, map_cons → yag, length_cons → yah, getElem?_map → yak, all_eq_true → yan, getElem?_cons_succ → yaq, getElem?_append_right → yas, map_append → yat, getElem?_cons_zero → yav, map_map → yaw, getElem?_append_left → ybd, take_append_drop → ybg, eq_nil_of_length_eq_zero → ybh, getElem?_eq_none → ybk, ext_getElem? → ybl, mem_range → ybv, mem_of_mem_take → ybw, getElem?_set → yby, take_of_length_le → ycj, getElem?_take → yct
open Nat renaming le_refl → ym, mod_eq_of_lt → yap, min_eq_left → ybb, lt_of_le_of_lt → ycx
open Option renaming bind_eq_some_iff → yf, map_eq_some_iff → yv, map_some → yae
open Option.some renaming injEq → yo
open Prod.mk renaming injEq → yq
open UInt32 renaming ofNat → ybn, toNat_ofNat' → ycp
open UInt64 renaming ofNat → yao, toNat_ofNat' → ybe, toNat_lt → ybm
open UInt8 renaming ofNat → yar
set_option linter.unusedVariables false
set_option linter.unusedSimpArgs false
section
namespace Go.Ev
theorem vm(keep:yL Nat):∀(l:yL Dv)(k t:Nat),(aI keep k l)[t]? =(l[t]?).map λd=>if keep.contains (k+t) then d else .ak
 |[],k,t=>by simp[aI]
 |d::l,k,0=>by simp[aI]
 |d::l,k,t+1=>by
  simp only[aI,yaq];rw[vm keep l (k+1) t];grind
theorem Qd{J:Sg}{a:Act}{ts:yL Dv}(keep:yL Nat)(h:aB J ts a):aB J (aI keep 0 ts) a:=by
 refine⟨?_,λi d g=> ?_,h.defers⟩
 .rw[h.size]
  have:∀(l:yL Dv)(k:Nat),(aI keep k l).length=l.length:=by
   intro l
   induction l with
   |nil=>intro k;rfl
   |cons x l j=>intro k;simp[aI,j]
  grind
 .rw[vm]at g;obtain⟨m,y,f⟩:=yv.1 g;split at f
  .rw[<-f];exact h.at_ i m y
  .rw[<-f];exact YG
theorem CF(A:yL Nat)(i j:Nat):∀(es:yL Edge)(m:Nat),(es.foldl (λm e=>if Region.binds .any e&&ag (e.on < i) then m|||(1 <<< e.on)|||A.getD e.on 0 else m) m).testBit j=ae->
 m.testBit j=ae\/∃e,e∈es/\Region.binds .any e=ae/\e.on < i/\(e.on=j\/(A.getD e.on 0).testBit j=ae)
 |[],m,h=>.inl h
 |e::es,m,h=>by
  simp only[List.foldl_cons]at h;rcases CF A i j es _ h with f|⟨l,f,y⟩
  .split at f
   .rename_i g;simp only[yi,yP]at g;simp only[Nat.testBit_or,yck,Nat.one_shiftLeft,Nat.testBit_two_pow,yP]at f
    all_goals grind
   grind
  grind
section
variable{P:yg}{ops:Array yj}
def jf(ops:Array yj)(X:Nat->Bool):Prop:=∀i o,ops[i]? =ab o->X i=ae->∀e,e∈o.after->Region.binds .any e=ae->X e.on=ae
theorem Zuu{X:Nat->Bool}{A:yL Nat}(y:jf ops X)(z:∀i o,ops[i]? =ab o->A.getD i 0=nv A i o):∀(i:Nat),(∃o,ops[i]? =ab o)->X i=ae->∀j,(A.getD i 0).testBit j=ae->X j=ae:=by
 intro i
 induction i using Nat.strongRecOn with
 |_ i B=>
  rintro⟨o,l⟩ E j f;rw[z i o l]at f;unfold nv at f;rcases CF A i j _ _ f with h|⟨e,F,G,I,h4⟩
  .simp at h
  .have m:=y i o l E e (by simpa using F) G;rcases h4 with h4|h4
   .rw[<-h4];exact m
   .have g:e.on < ops.size:=by
     grind
    exact B e.on I ⟨ops[e.on],ycm g⟩ m j h4
def val(n:Nat)(dst:Nat->yO Tmp)(D:Nat->Dv)(ts0:yL Dv)(X:Nat->Bool)(t:Nat):Dv:=
 match (yn n).find? λj=>X j&&dst j==ab t with
 |some j=>D j
 |none=>ts0.getD t .ak
def dH(n:Nat)(dst:Nat->yO Tmp)(D:Nat->Dv)(ts0:yL Dv)(X:Nat->Bool):yL Dv:=(yn ts0.length).map (val n dst D ts0 X)
variable{n:Nat}{dst:Nat->yO Tmp}{D:Nat->Dv}{ts0:yL Dv}
theorem Qz(hu:∀i j,i < n->j < n->dst i≠ad->dst i=dst j->i=j){X:Nat->Bool}{t j:Nat}(f:j < n)(g:X j=ae)(hd:dst j=ab t):val n dst D ts0 X t=D j:=by
 unfold val;grind
theorem kq{X:Nat->Bool}{t:Nat}(h:∀j,j < n->X j=ae->dst j≠ab t):val n dst D ts0 X t=ts0.getD t .ak:=by
 unfold val;grind
theorem X4{X:Nat->Bool}:(dH n dst D ts0 X).length=ts0.length:=by simp[dH]
theorem iA{X:Nat->Bool}{t:Nat}(h:t < ts0.length):(dH n dst D ts0 X)[t]? =ab (val n dst D ts0 X t):=by
 simp[dH,h]
theorem vn{X:Nat->Bool}(h:∀j,j < n->X j=af):dH n dst D ts0 X=ts0:=by
 apply ybl;intro t;by_cases g:t < ts0.length
 .rw[iA g,kq (λj l f=>by rw[h j l]at f;cases f)];grind
 .rw[ybk (by rw[X4];omega),ybk (by omega)]
theorem vo(hu:∀i j,i < n->j < n->dst i≠ad->dst i=dst j->i=j){X Y:Nat->Bool}{i:Nat}(hi:i < n)(F:X i=af)(B:∀j,j < n->Y j=(X j || decide (j=i))):
 fB (dH n dst D ts0 X) (dst i) (D i)=dH n dst D ts0 Y:=by
 apply ybl;intro t;by_cases z:t < ts0.length
 .rw[iA z]
  have f:dst i≠ab t->val n dst D ts0 Y t=val n dst D ts0 X t:=by
   intro G;by_cases l:∃j,j < n/\X j=ae/\dst j=ab t
   .obtain⟨j,h,m,y⟩:=l;rw[Qz hu h m y,Qz hu h (by rw[B j h,m];rfl) y]
   .rw[kq (λj h m y=>l ⟨j,h,m,y⟩),kq (λj h m y=> ?_)]
    all_goals grind
  unfold fB
  cases A:dst i with
  |none=>
   rw[f (by rw[A];simp),iA z]
  |some E=>
   rw[yby];by_cases g:E=t
   .subst g;rw[yW rfl,yW (by rw[X4];exact z),Qz hu hi (by rw[B i hi];simp) A]
   .rw[yX g,iA z,f (by rw[A];simpa using g)]
 .have I:(fB (dH n dst D ts0 X) (dst i) (D i)).length=ts0.length:=by
   unfold fB
   cases dst i with
   |none=>rw[X4]
   |some E=>rw[List.length_set,X4]
  rw[ybk (by rw[I];omega),ybk (by rw[X4];omega)]
theorem ZGs(hu:∀i j,i < n->j < n->dst i≠ad->dst i=dst j->i=j){X Y:Nat->Bool}{keep:yL Nat}(h:∀j t,j < n->dst j=ab t->t∈keep->X j=Y j):
 aI keep 0 (dH n dst D ts0 X)=aI keep 0 (dH n dst D ts0 Y):=by
 apply ybl;intro t;rw[vm,vm];by_cases A:t < ts0.length
 .rw[iA A,iA A];simp only[yae,Nat.zero_add];by_cases y:t∈keep
  .have z:keep.contains t=ae:=by simpa using y
   rw[z];simp only[if_true];congr 1;by_cases l:∃j,j < n/\X j=ae/\dst j=ab t
   .obtain⟨j,f,m,g⟩:=l;rw[Qz hu f m g,Qz hu f (by rw[<-h j t f g y];exact m) g]
   .rw[kq (λj f m g=>l ⟨j,f,m,g⟩),kq (λj f m g=>l ⟨j,f,by rw[h j t f g y];exact m,g⟩)]
  grind
 .rw[ybk (by rw[X4];omega),ybk (by rw[X4];omega)]
end
section
variable{P:yg}{ops:Array yj}
theorem vp{o:yj}{ts:yL Dv}{H H2:yL aq}{hs:yL ar}{r:yL Prop×Dv×yL aq×yL ar}(h:cw P o ts H hs=ab r)(f:(bj P o ts hs).isSome=ae):r.2.2.1=H/\cw P o ts H2 hs=ab (r.1,r.2.1,H2,r.2.2.2):=by
 unfold cw at h ⊢;grind
theorem ZHZ{o:yj}{ts:yL Dv}{H:yL aq}{hs:yL ar}{r:yL Prop×Dv×yL aq×yL ar}(h:cw P o ts H hs=ab r)(f:(bj P o ts hs).isSome=af)(g:(bH P o ts H hs).isSome=ae):r.2.2.1=H:=by
 unfold cw at h;grind
theorem ZH0{o:yj}{ts:yL Dv}{H H2:yL aq}{hs:yL ar}{C:yL Prop}{d:Dv}{H':yL aq}{hs':yL ar}(h:cY P ops o ts H hs=ab (C,d,H',hs'))(hc:bL P o ts H hs=0):
 H'=H/\cY P ops o ts H2 hs=ab (C,d,H2,hs'):=by
 unfold cY at h ⊢;unfold bL at hc
 cases A:o.guard with
 |none=>
  simp only[A]at h hc ⊢
  have j:(bj P o ts hs).isSome=ae:=by
   grind
  simp only[yv,yq]at h;obtain⟨⟨C1,d1,H1,f⟩,l,rfl,rfl,rfl,rfl⟩:=h;obtain⟨m,y⟩:=vp (H2:=H2) l j
  exact⟨m,by rw[y];rfl⟩
 |some E=>
  obtain⟨g,B⟩:=E;simp only[A]at h hc ⊢;split at h
  .rename_i t β f G;dsimp only at hc;split at h
   .rename_i z;rw[yW z]at hc ⊢
    have j:(bj P o ts f).isSome=ae:=by
     grind
    simp only[yv,yq]at h;obtain⟨⟨C1,d1,H1,F⟩,l,rfl,rfl,rfl,rfl⟩:=h;obtain⟨m,y⟩:=vp (H2:=H2) l j;exact⟨m,by rw[y];rfl⟩
   .rename_i z;rw[yX z];cases h;exact⟨rfl,rfl⟩
  .cases h;exact⟨rfl,rfl⟩
  .cases h
theorem ZH1{o:yj}{ts:yL Dv}{H:yL aq}{hs:yL ar}{C:yL Prop}{d:Dv}{H':yL aq}{hs':yL ar}(h:cY P ops o ts H hs=ab (C,d,H',hs'))(hc:bL P o ts H hs≠2):H'=H:=by
 unfold cY at h;unfold bL at hc
 cases y:o.guard with
 |none=>
  simp only[y]at h hc;simp only[yv,yq]at h;obtain⟨⟨C1,d1,H1,f⟩,l,rfl,rfl,rfl,rfl⟩:=h
  cases j:(bj P o ts hs).isSome with
  |true=>exact(vp (H2:=[]) l j).1
  |false=>
   cases m:(bH P o ts H hs).isSome with
   |true=>exact ZHZ l j m
   |false=>simp[j,m]at hc
 |some A=>
  obtain⟨g,z⟩:=A;simp only[y]at h hc;split at h
  .rename_i t β f F;dsimp only at hc;split at h
   .rename_i B;simp only[yW B]at hc;simp only[yv,yq]at h;obtain⟨⟨C1,d1,H1,E⟩,l,rfl,rfl,rfl,rfl⟩:=h
    cases j:(bj P o ts f).isSome with
    |true=>exact(vp (H2:=[]) l j).1
    |false=>
     cases m:(bH P o ts H f).isSome with
     |true=>exact ZHZ l j m
     |false=>simp[j,m]at hc
   .cases h;rfl
  .cases h;rfl
  .cases h
theorem ZPe{o:yj}{ts:yL Dv}{H H2:yL aq}{hs:yL ar}{C:yL Prop}{d:Dv}{H':yL aq}{hs':yL ar}(h:cY P ops o ts H hs=ab (C,d,H',hs'))(hc:bL P o ts H hs=1)
 (y:∀hs,bH P o ts H2 hs=bH P o ts H hs):cY P ops o ts H2 hs=ab (C,d,H2,hs'):=by
 unfold bL at hc;unfold cY at h ⊢
 cases z:o.guard with
 |none=>
  simp only[z]at h hc ⊢
  cases f:bj P o ts hs with
  |some q=>simp[f]at hc
  |none=>
   cases j:bH P o ts H hs with
   |none=>simp[f,j]at hc
   |some q=>
    unfold cw at h ⊢;rw[y];simp only[f,j,yae,yo,yq]at h ⊢
    exact⟨h.1,h.2.1,zP,h.2.2.2⟩
 |some B=>
  obtain⟨g,A⟩:=B;simp only[z]at h hc ⊢;split at h
  .rename_i t β l E;dsimp only at hc;split at h
   .rename_i m;rw[yW m]at hc ⊢
    cases f:bj P o ts l with
    |some q=>simp[f]at hc
    |none=>
     cases j:bH P o ts H l with
     |none=>simp[f,j]at hc
     |some q=>
      unfold cw at h ⊢;rw[y];simp only[f,j,yae,yo,yq]at h ⊢;exact⟨h.1,h.2.1,zP,h.2.2.2⟩
   .rename_i m;simp[m]at hc
  .simp at hc
  .cases h
theorem ZGt{o:yj}{ts:yL Dv}{H:yL aq}{hs:yL ar}{C:yL Prop}{d:Dv}{H':yL aq}{hs':yL ar}{l:yL Nat}{i:Nat}(h:cY P ops o ts H hs=ab (C,d,H',hs'))(hc:bL P o ts H hs=2)
 (ht:kT P o ts hs=ab l) (hi:i < H.length) (hl:l.contains i=af):du (H'[i]?)=du (H[i]?):=by
 unfold kT at ht
 cases f:o.guard with
 |some g=>simp[f]at ht
 |none=>
  simp only[f,Option.isNone_none,if_true]at ht;unfold bL at hc;unfold cY at h;simp only[f]at h hc
  cases j:bj P o ts hs with
  |some q=>simp[j]at hc
  |none=>
   cases y:bH P o ts H hs with
   |some q=>simp[j,y]at hc
   |none=>
    simp only[yv,yq]at h;obtain⟨⟨C1,d1,H1,z⟩,m,rfl,rfl,rfl,rfl⟩:=h;unfold cw at m;simp only[j,y]at m;exact ZxB m ht hi hl
theorem ZH2{g:yr}{args:yL Dv}{r:Dv}{e:aq}(h:bZ P g args [] r [e])(Z:∃x,Dv.bB (bg []) args=ab x):bZ P g args [.gone] r [e]:=by
 intro J vs R S hv;obtain⟨x,T⟩:=Z
 have hst:∀(b o:Nat),(J.F b o\/J.B b)->J.bh b o:=λb o q=>⟨q,λid z _ y=>by
  rw[S]at y
  cases id with
  |zero=>cases y;trivial
  |succ i=>simp at y⟩
 have hno:∀(id:Nat)(z:aq),J.H[id]? =ab z->z=.gone:=λid z y=>by
  grind
 let J0:Sg:={ F:=J.F,B:=J.B,m:=[],H:=[],w:=J.w};have G:Ok J0:=⟨rfl,λi j b h=>by simp[J0]at h,λi b h=>by simp[J0]at h,λi e a h=>by simp[J0]at h,R.new,λi b h=>by simp[J0]at h⟩;have U:∀id,bg [] id=ad:=λid=>by simp[bg]
 have I:Rn (bg []) J J0:=⟨rfl,λb o u _ q=>⟨q.1,λid z q=>by simp[J0]at q⟩,λid M q=>(by rw[U]at q;cases q),λid M q=>(by rw[U]at q;cases q)⟩
 have hxe:x=args:=by
  have W:=T;rw[qZ]at W;have e2:=bR (f:=bg []) _ _ W;grind
 have Q:aH J0 args vs:=by
  have l:=dA I _ _ _ T hv;grind
 refine(h J0 vs G rfl Q).mono ?_;rintro ex w' ⟨v,τ,rfl,rfl,X,to,E,hr⟩;have okm:J.m.length=1:=by rw[R.len,S];rfl
 have Y:τ.m.length=1:=by rw[E.len,X];rfl
 refine⟨v,τ,rfl,rfl,X,⟨⟨λb o u l y=> ?_,λid b l y=> ?_,λid s len A c l=> ?_,λid b l y=> ?_,λid v s st e d l=> ?_⟩,to.F,to.B,to.os,to.tape,to.output,to.size,λb l _=>to.block b l (λid q=>by simp[J0]at q),λid b l=> ?_, ?_⟩,E,hr⟩
 .exact to.leaf.cells b o u l ⟨y.1,λid e q=>by simp[J0]at q⟩
 .grind
 .obtain⟨z,ys,y,_⟩:=l;grind
 .grind
 .grind
 .rcases to.same id b l with q|q
  all_goals grind
 grind
theorem ZA1{o:yj}{ts:yL Dv}{H H2:yL aq}{hs:yL ar}{C:yL Prop}{d:Dv}{H':yL aq}{hs':yL ar}(h:cY P ops o ts H hs=ab (C,d,H',hs'))(hp:je o hs H.length=ae)(hl:H2.length=H.length):
 bL P o ts H hs=2/\∃E,H'=H++E/\cY P ops o ts H2 hs=ab (C,d,H2++E,hs'):=by
 unfold je at hp;rw[yi]at hp;obtain⟨z,hp⟩:=hp;have z:o.guard=ad:=by simpa using z
 split at hp
 .rename_i t j;have l:∀hs,bj P o ts hs=ad:=λhs=>by unfold bj;rw[j]
  have m:∀H hs,bH P o ts H hs=ad:=λH hs=>by unfold bH;rw[j]
  refine⟨?_, ?_⟩
  .unfold bL;rw[z];simp[l,m]
  .unfold cY at h ⊢;rw[z]at h ⊢;dsimp only at h ⊢;unfold cw at h ⊢;rw[l,m]at h;rw[l,m];dsimp only at h ⊢;unfold cP at h ⊢;rw[j]at h ⊢;dsimp only at h ⊢;rw[hl];split at h
   .split at h
    .split at h
     .simp only[yae,yo,yq]at h;obtain⟨rfl,rfl,rfl,rfl⟩:=h;rename_i Z _ _ S F;refine⟨_,rfl, ?_⟩;rw[yW F];rfl
     .cases h
    .cases h
   .cases h
 .rename_i c j;split at hp
  .rename_i f G;split at hp
   .rename_i r Hn ids A;rw[yi]at hp;have B:ids=[]:=by simpa using hp.1
    subst B;have hp:=hp.2;unfold nr at hp;simp only[yi,yT]at hp;have I:Hn≠[]:=λq=>by rw[q]at hp;simp at hp
    have l:bj P o ts (.call r Hn []::A)=ad:=by
     unfold bj;rw[j];dsimp only;rw[G];dsimp only;split
     .rename_i y;simp only[List.cons.injEq,ar.call.injEq]at y;exact absurd y.1.2.1 I
     .rename_i y;cases y
     .rfl
    have m:∀H,bH P o ts H (.call r Hn []::A)=ad:=λH=>by
     unfold bH;rw[j];dsimp only;rw[G]
    refine⟨?_, ?_⟩
    .unfold bL;rw[z];simp[l,m]
    .unfold cY at h ⊢;rw[z]at h ⊢;dsimp only at h ⊢;unfold cw at h ⊢;rw[l,m]at h;rw[l,m];dsimp only at h ⊢;unfold cP at h ⊢;rw[j]at h ⊢;dsimp only at h ⊢;rw[G]at h ⊢;dsimp only at h ⊢;rw[hl];split at h
     .rename_i g T r2 H2' Q U ha y;simp only[List.cons.injEq,ar.call.injEq]at y;obtain⟨⟨rfl,rfl,rfl⟩,rfl⟩:=y;split at h
      .rename_i F;split at h
       .rename_i M Hin r' Hb W R Y e4;simp only[yae,yo,yq]at h;obtain⟨rfl,rfl,rfl,rfl⟩:=h;have e5:∀(X:yL aq),aN X [] []=ab []:=λX=>rfl;rw[e5]at R;cases R;refine⟨Hb,by simp[aw,jd], ?_⟩;rw[yW F,W,e5,Y,e4];simp[aw,jd]
       .cases h
      .cases h
     .cases h
   .cases hp
  .cases hp
 .cases hp
theorem ZA2:∀{hs:yL ar}{d:Dv}{n:Nat},(YF d n hs).2.1=[]->(YF d n hs).1=d
 |[],d,n,_=>by simp[YF]
 |x::hs,d,n,h=>by
  cases x with
  |cm g s e=>
   simp only[YF]at h ⊢;split
   .rename_i j f;rw[f]at h;cases h
   .rfl
  |_=>simp[YF]
theorem CH{J:Sg}(ok:Ok J):To J { J with m:=J.m++[ad],H:=J.H++[.gone]}/\Ok { J with m:=J.m++[ad],H:=J.H++[.gone]}:=
 Vh (J':={ J with m:=J.m++[ad],H:=J.H++[.gone]}) ok rfl rfl rfl rfl (World.grownBy.refl J.w ad) (.inl rfl) (λ_=>trivial)
mutual
theorem ku{f g:Nat->yO Nat}(l:∀j k,f j=ab k->g j=ab k):∀(d d':Dv),d.rn f=ab d'->d.rn g=ab d'
 |.p x,d',h=>h
 |.elem x,d',h=>h
 |.aj id off A,d',h=>by
  simp only[Dv.rn,yv]at h ⊢;obtain⟨i,m,y⟩:=h
  exact⟨i,l _ _ m,y⟩
 |.own id B s z,d',h=>by
  simp only[Dv.rn,yv]at h ⊢;obtain⟨i,m,y⟩:=h
  exact⟨i,l _ _ m,y⟩
 |.view id off A s lo n,d',h=>by
  simp only[Dv.rn,yv]at h ⊢;obtain⟨i,m,y⟩:=h
  exact⟨i,l _ _ m,y⟩
 |.mp id,d',h=>by
  simp only[Dv.rn,yv]at h ⊢;obtain⟨i,m,y⟩:=h
  exact⟨i,l _ _ m,y⟩
 |.rv id v s lo n,d',h=>by
  simp only[Dv.rn,yv]at h ⊢;obtain⟨i,m,y⟩:=h
  exact⟨i,l _ _ m,y⟩
 |.ba id v off A,d',h=>by
  simp only[Dv.rn,yv]at h ⊢;obtain⟨i,m,y⟩:=h
  exact⟨i,l _ _ m,y⟩
 |.agg z,d',h=>by
  simp only[Dv.rn,yv]at h ⊢;obtain⟨i,m,y⟩:=h
  exact⟨i,dC l z i m,y⟩
 |.arr n s z,d',h=>by
  simp only[Dv.rn,yv]at h ⊢;obtain⟨i,m,y⟩:=h
  exact⟨i,dC l z i m,y⟩
 |.fn E z,d',h=>by
  simp only[Dv.rn,yv]at h ⊢;obtain⟨i,m,y⟩:=h
  exact⟨i,dC l z i m,y⟩
 |.iface t x,d',h=>by
  simp only[Dv.rn,yv]at h ⊢;obtain⟨i,m,y⟩:=h
  exact⟨i,ku l x i m,y⟩
 |.bm z,d',h=>by
  simp only[Dv.rn,yv]at h ⊢;obtain⟨i,m,y⟩:=h
  exact⟨i,dC l z i m,y⟩
 |.ak,d',h=>h
theorem dC{f g:Nat->yO Nat}(l:∀j k,f j=ab k->g j=ab k):∀(d d':yL Dv),Dv.bB f d=ab d'->Dv.bB g d=ab d'
 |[],d',h=>h
 |x::r,d',h=>by
  simp only[Dv.bB]at h ⊢;split at h
  .rename_i y m z A;rw[ku l x y z,dC l r m A];exact h
  .cases h
end
theorem ZH3{f g:Nat->yO Nat}(l:∀j k,f j=ab k->g j=ab k):∀(d d':aq),d.rn f=ab d'->d.rn g=ab d'
 |.var d st,d',h=>by
  simp only[aq.rn,yv]at h ⊢;obtain⟨i,m,y⟩:=h
  exact⟨i,ku l d i m,y⟩
 |.row v s st e d,d',h=>by
  simp only[aq.rn,yv]at h ⊢;obtain⟨i,m,y⟩:=h
  exact⟨i,ku l d i m,y⟩
 |.log _ _ _,d',h=>h
 |.map _ _,d',h=>h
 |.gone,d',h=>h
theorem nM{f g:Nat->yO Nat}(l:∀j k,f j=ab k->g j=ab k):∀(d d':yL aq),aq.bB f d=ab d'->aq.bB g d=ab d'
 |[],d',h=>h
 |x::r,d',h=>by
  simp only[aq.bB]at h ⊢;split at h
  .rename_i y m z A;rw[ZH3 l x y z,nM l r m A];exact h
  .cases h
theorem mq(ids:yL Nat)(n:Nat):∀j k,ids[j]? =ab k->aU ids n j=ab k:=λj k h=>by
 unfold aU;grind
theorem Qe{H E:yL aq}{all:yL Nat}:∀{ids:yL Nat}{Hin:yL aq},aN H all ids=ab Hin->aN (H++E) all ids=ab Hin/\∀id,id∈ids->id < H.length
 |[],Hin,h=>⟨h,λ_ h=>by cases h⟩
 |id::r,Hin,h=>by
  simp only[aN]at h ⊢;split at h
  .rename_i e g j f;obtain⟨l,m⟩:=Qe (E:=E) f;grind
  .cases h
theorem ru{α:Type}{E:yL α}:∀{ids:yL Nat}{H Hb:yL α},Hb.length=ids.length->(∀id,id∈ids->id < H.length)->aw (H++E) ids Hb=aw H ids Hb++E/\(aw H ids Hb).length=H.length
 |[],H,Hb,f,_=>by
  have:Hb=[]:=ybh (by simpa using f);subst this
  simp[aw]
 |id::r,H,[],f,_=>by simp at f
 |id::r,H,e::Hb,f,g=>by
  simp only[aw];rw[List.set_append_left _ _ (g id (List.mem_cons_self ..))];obtain⟨j,l⟩:=ru (E:=E) (ids:=r) (H:=H.set id e) (Hb:=Hb) (by simpa using f) (λi h=>by rw[List.length_set];exact g i (List.mem_cons_of_mem _ h));grind
theorem vq{f:Nat->yO Nat}:∀{l g:yL aq},aq.bB f l=ab g->g.length=l.length
 |[],g,h=>by cases h;rfl
 |x::r,g,h=>by
  simp only[aq.bB]at h;split at h
  .rename_i y m z j;cases h;rw[yah,yah,vq j]
  .cases h
theorem ZLb{o:yj}{ts:yL Dv}{H:yL aq}{hs:yL ar}{C:yL Prop}{d:Dv}{H':yL aq}{hs':yL ar}(h:cY P ops o ts H hs=ab (C,d,H',hs'))(hp:kS o hs=ae):
 bL P o ts H hs≠1/\H'.length=H.length/\∀E,cY P ops o ts (H++E) hs=ab (C,d,H'++E,hs'):=by
 unfold kS at hp;rw[yi]at hp;obtain⟨S,hp⟩:=hp;have S:o.guard=ad:=by simpa using S
 have F:(∀H,bH P o ts H hs=ad)->(∀H1,cP P o ts H hs=ab (C,d,H1,hs')->H1.length=H.length/\∀E,cP P o ts (H++E) hs=ab (C,d,H1++E,hs'))->
  bL P o ts H hs≠1/\H'.length=H.length/\∀E,cY P ops o ts (H++E) hs=ab (C,d,H'++E,hs'):=by
  intro n2 j;refine⟨?_, ?_⟩
  .unfold bL;grind
  .unfold cY at h ⊢;rw[S]at h ⊢;dsimp only at h ⊢;unfold cw at h ⊢
   cases hn:bj P o ts hs with
   |some q=>
    rw[hn]at h;simp only[yae,yo,yq]at h;obtain⟨T,R,rfl,h4⟩:=h;refine⟨rfl,λE=> ?_⟩;simp only[yae,yo,yq]
    exact⟨T,R,zP,h4⟩
   |none=>
    rw[hn,n2]at h;dsimp only at h;obtain⟨⟨C1,d1,H1,hs1⟩,T,R⟩:=yv.1 h;simp only[jd,List.append_nil,yq]at R;obtain⟨rfl,rfl,rfl,rfl⟩:=R;obtain⟨k1,k2⟩:=j H1 T;refine⟨k1,λE=> ?_⟩;rw[n2];dsimp only;rw[k2 E];simp[jd]
 split at hp
 .rename_i c B;split at hp
  .rename_i f m;split at hp
   .rename_i r Hn ids U;unfold nr at hp;simp only[yi,yT,Option.isSome_iff_exists]at hp;obtain⟨⟨W,d0,G⟩,Hb0,y⟩:=hp;refine F (λH=>by unfold bH;rw[B];dsimp only;rw[m]) λH1 j=> ?_;unfold cP at j;rw[B]at j;dsimp only at j;rw[m]at j;dsimp only at j;split at j
    .rename_i g cap r2 H2 I X Y M;simp only[List.cons.injEq,ar.call.injEq]at M;obtain⟨⟨rfl,rfl,rfl⟩,rfl⟩:=M;split at j
     .rename_i Z;split at j
      .rename_i z Hin r' Hb e1 A Q e4;cases j;rw[ku (mq ids H.length) _ _ G]at Q;cases Q;rw[nM (mq ids H.length) _ _ y]at e4;cases e4;have l:Hb0.length=ids.length:=by rw[vq y,W]
       refine⟨(ru (E:=[]) l (Qe (E:=[]) A).2).2,λE=> ?_⟩;unfold cP;rw[B];dsimp only;rw[m];dsimp only;rw[Y];dsimp only;rw[yW Z,e1,(Qe (E:=E) A).1,ku (mq ids _) _ _ G,nM (mq ids _) _ _ y];dsimp only;rw[(ru (E:=E) l (Qe (E:=[]) A).2).1]
      .cases j
     .cases j
    .cases j
   .cases hp
  .rename_i rc nm m;split at hp
   .rename_i g0 r Hn ids U;unfold nr at hp;simp only[yi,yT,Option.isSome_iff_exists]at hp;obtain⟨⟨W,d0,G⟩,Hb0,y⟩:=hp;refine F (λH=>by unfold bH;rw[B];dsimp only;rw[m]) λH1 j=> ?_;unfold cP at j;rw[B]at j;dsimp only at j;rw[m]at j;dsimp only at j;split at j
    .rename_i t x g r2 H2 I X Y M;simp only[List.cons.injEq,ar.call.injEq,ar.ir.injEq]at M;obtain⟨rfl,⟨rfl,rfl,rfl⟩,rfl⟩:=M;split at j
     .rename_i Z;split at j
      .rename_i z Hin r' Hb e1 A Q e4;cases j;rw[ku (mq ids H.length) _ _ G]at Q;cases Q;rw[nM (mq ids H.length) _ _ y]at e4;cases e4;have l:Hb0.length=ids.length:=by rw[vq y,W]
       refine⟨(ru (E:=[]) l (Qe (E:=[]) A).2).2,λE=> ?_⟩;unfold cP;rw[B];dsimp only;rw[m];dsimp only;rw[Y];dsimp only;rw[yW Z,e1,(Qe (E:=E) A).1,ku (mq ids _) _ _ G,nM (mq ids _) _ _ y];dsimp only;rw[(ru (E:=E) l (Qe (E:=[]) A).2).1]
      .cases j
     .cases j
    .cases j
   .cases hp
  .cases hp
 .cases hp
theorem ZH4{J:Sg}{a:Act}{o:yj}{ts:yL Dv}{H E:yL aq}{hs:yL ar}{C:yL Prop}{d:Dv}{H':yL aq}{hs':yL ar}(ok:Ok J)(X:aB J ts a)(h:cY P ops o ts H hs=ab (C,d,H',hs'))(Y:aZ C)(hp:je o hs H.length=ae)
 (hl:H'.length=H.length+1) (hJ:J.H=H++.gone::E) (K:Act->World->Prop) (Q:Exit->Act->World->Prop)
 (Z:∀v J',J'.H=H'++E->To J J'->Ok J'->aB J' (fB ts o.dst d) (a.put o.dst v)->K (a.put o.dst v) J'.w):
 if Region.wanted o (yielded ops a.tmps) then o.wp P a J.w K Q else K (a.put o.dst undef) J.w:=by
 unfold je at hp;rw[yi]at hp;obtain⟨G,hp⟩:=hp;have G:o.guard=ad:=by simpa using G
 have hw:Region.wanted o (yielded ops a.tmps)=ae:=by simp[Region.wanted,G]
 rw[yW hw];split at hp
 .rename_i t l;have n1:∀hs,bj P o ts hs=ad:=λhs=>by unfold bj;rw[l]
  have n2:∀H hs,bH P o ts H hs=ad:=λH hs=>by unfold bH;rw[l]
  unfold cY at h;rw[G]at h;dsimp only at h;unfold cw at h;rw[n1,n2]at h;dsimp only at h;unfold cP at h;rw[l]at h;dsimp only at h;split at h
  .rename_i i hi;split at h
   .split at h
    .rename_i y;simp only[yae,yo,yq]at h;obtain⟨rfl,rfl,rfl,rfl⟩:=h;rw[yl,yah]at hl;have he:(YF (bf P t) (H.length+1) hs).2.1=[]:=ybh (by omega);have hd:=ZA2 he;rw[he,hd]at Z;simp only[yi]at y;obtain⟨z,hzz,_⟩:=lf y.1.1;have hid:J.H[H.length]? =ab .gone:=by rw[hJ,yas (ym _),Nat.sub_self];rfl
     have h1:=va (P:=P) (o:=o) (a:=a) ok hid l hi (by rw[hzz];rfl) y.1.2 y.2;refine h1 K Q λv J' A to B hv=>Z v J' ?_ to B (kp (X.to to.leaf) hv);rw[A,hJ,List.set_append_right _ _ (ym _),Nat.sub_self];simp
    .cases h
   .cases h
  .cases h
 .rename_i c l;split at hp
  .rename_i f W;split at hp
   .rename_i r Hn ids I;rw[yi]at hp;have M:ids=[]:=by simpa using hp.1
    subst M;have hp:=hp.2;unfold nr at hp;simp only[yi,yT,Option.isSome_iff_exists]at hp;obtain⟨⟨p1,r0,p2⟩,Hb0,p3⟩:=hp;have R:Hn≠[]:=λq=>by rw[q]at p1;simp at p1
    obtain⟨S,rfl⟩:∃S,Hn=[S]:=by
     cases Hn with
     |nil=>exact absurd rfl R
     |cons x q=>cases q with
      |nil=>exact⟨x,rfl⟩
      |cons _ _=>simp at p1
    have n1:bj P o ts (.call r [S] []::I)=ad:=by
     unfold bj;rw[l];dsimp only;rw[W];dsimp only;split
     .rename_i F;simp only[List.cons.injEq,ar.call.injEq]at F;exact absurd F.1.2.1 R
     .rename_i F;cases F
     .rfl
    have n2:∀H,bH P o ts H (.call r [S] []::I)=ad:=λH=>by
     unfold bH;rw[l];dsimp only;rw[W]
    unfold cY at h;rw[G]at h;dsimp only at h;unfold cw at h;rw[n1,n2]at h;dsimp only at h;unfold cP at h;rw[l]at h;dsimp only at h;rw[W]at h;dsimp only at h;split at h
    .rename_i g cap r2 H2' ids2 hs2 ha F;simp only[List.cons.injEq,ar.call.injEq]at F;obtain⟨⟨rfl,rfl,rfl⟩,rfl⟩:=F;split at h
     .rename_i y;split at h
      .rename_i args' Hin r' Hb A e2 e3 e4;simp only[yae,yo,yq]at h;obtain⟨rfl,rfl,rfl,rfl⟩:=h;have e5:aN H [] []=ab []:=rfl;rw[e5]at e2;cases e2;simp only[yi,yT,yP]at y
       have hm:∀(m:Nat)(j k:Nat),[H.length][j]? =ab k->aU [] H.length j=ab k:=λm j k q=>by
        cases j with
        |zero=>cases q;simp[aU]
        |succ j=>simp at q
       have T:∀(m:Nat)(j k:Nat),[H.length][j]? =ab k->aU [H.length] m j=ab k:=λm j k q=>by
        cases j with
        |zero=>cases q;simp[aU]
        |succ j=>simp at q
       have f1:=ku (hm 0) _ _ p2;rw[f1]at e3;cases e3;have f2:=nM (hm 0) _ _ p3;rw[f2]at e4;cases e4;have U:Hb0.length=1:=by rw[vq p3];rfl
       obtain⟨b0,rfl⟩:∃b0,Hb0=[b0]:=by
        cases Hb0 with
        |nil=>simp at U
        |cons x q=>cases q with
         |nil=>exact⟨x,rfl⟩
         |cons _ _=>simp at U
       obtain⟨fs,cs,hfe,hav⟩:=ZK9 (P:=P) X (c:=c) [] ha y.1.1.2;have hid:J.H[H.length]? =ab .gone:=by rw[hJ,yas (ym _),Nat.sub_self];rfl
       have e7:=A;rw[qZ]at e7;have e8:=bR (f:=bg []) _ _ e7;rw[A]at e8;cases e8;have e6:=bR (f:=bg [H.length]) _ _ e7
       have hin:aN J.H [H.length] [H.length]=ab [.gone]:=by
        simp[aN,hid,aq.rn]
       have hx:=TM (P:=P) (o:=o) (a:=a) J.w l W hfe y.1.1.1
       have h1:=BS (P:=P) (o:=o) (a:=a) (ids:=[H.length]) (Hin:=[.gone]) (H':=[S]) (Hb:=[b0]) ok hx hav rfl (ym _) e6 hin (ku (T J.H.length) _ _ p2) (nM (T J.H.length) _ _ p3)
        (ZH2 Y.1 ⟨_,A⟩)
       refine h1 K Q λv J' A to B hv=>Z v J' ?_ to B (kp (X.to to.leaf) hv);rw[A,hJ];simp[aw,List.set_append_right]
      .cases h
     .cases h
    .cases h
   .cases hp
  .cases hp
 .cases hp
theorem ZH5{o:yj}{ts:yL Dv}{H:yL aq}{hs:yL ar}:bL P o ts H hs<=2:=by
 unfold bL;grind
end
def kv(ts:yL Dv)(l:yL (yO Tmp×Dv)):yL Dv:=l.foldl (λts q=>fB ts q.1 q.2) ts
section
variable{P:yg}{ops:Array yj}
theorem ZA3:∀(l:yL yj)(ts:yL Dv)(H:yL aq)(hs:yL ar)(C:yL Prop)(rs:yL Rec)(ts':yL Dv)(H':yL aq)(hs':yL ar),nu P ops l ts H hs=ab (C,rs,ts',H',hs')->aZ C->
 rs.length=l.length/\ts'=kv ts ((l.zip rs).map λq=>(q.1.dst,q.2.d))/\(l=[]->H'=H)/\
 ∀(i:Nat)(o:yj),l[i]? =ab o->∃r,rs[i]? =ab r/\aZ r.C/\cY P ops o (aI (looks ops o) 0 (kv ts (((l.zip rs).take i).map λq=>(q.1.dst,q.2.d)))) r.H r.hs=ab (r.C,r.d,r.H',r.hs')/\
  r.bQ=bL P o (aI (looks ops o) 0 (kv ts (((l.zip rs).take i).map λq=>(q.1.dst,q.2.d)))) r.H r.hs/\
  (r.rd=qH P o (aI (looks ops o) 0 (kv ts (((l.zip rs).take i).map λq=>(q.1.dst,q.2.d))))/\r.tc=kT P o (aI (looks ops o) 0 (kv ts (((l.zip rs).take i).map λq=>(q.1.dst,q.2.d)))) r.hs/\r.push=je o r.hs r.H.length/\r.loc=kS o r.hs/\r.ex=ki o)/\(i=0->r.H=H)/\(∀j,rs[i+1]? =ab j->j.H=r.H')/\(i+1=l.length->H'=r.H')
 |[],ts,H,hs,C,rs,ts',H',hs',h,E=>by
  simp only[nu,yo,yq]at h;obtain⟨rfl,rfl,rfl,rfl,rfl⟩:=h
  exact⟨rfl,rfl,λ_=>rfl,λi o g=>by simp at g⟩
 |o::l,ts,H,hs,C,rs,ts',H',hs',h,E=>by
  simp only[nu]at h;split at h
  .rename_i C1 d1 H1 I M;split at h
   .rename_i C2 y Q H2 R S;simp only[yo,yq]at h;obtain⟨rfl,rfl,rfl,rfl,rfl⟩:=h;obtain⟨T,U⟩:=Zm.1 E;obtain⟨F,W,X,G⟩:=ZA3 l _ _ _ _ _ _ _ _ S U;refine⟨by simp[F],by rw[W];rfl,by simp,λi Y g=> ?_⟩
    cases i with
    |zero=>
     simp only[yav,yo]at g;subst g;refine⟨_,rfl,T,M,rfl,⟨rfl,rfl,rfl,rfl,rfl⟩,λ_=>rfl,λj f=> ?_,λz=> ?_⟩
     .simp only[yaq]at f
      cases l with
      |nil=>
       have:y=[]:=ybh (by simpa using F);subst this
       simp at f
      |cons Z l2=>
       obtain⟨r,m,_,_,_,_,A,_⟩:=G 0 Z rfl;rw[f]at m;cases m;exact A rfl
     .have:l=[]:=ybh (by simpa using z.symm)
      exact X this
    |succ i=>
     simp only[yaq]at g;obtain⟨r,m,A,j3,j4,B,j5,j6,j7⟩:=G i Y g;refine⟨r,by simpa using m,A,j3,j4,B,λh0=>by omega,λj f=>j6 j (by simpa using f),λz=>j7 (by simpa using z)⟩
   .cases h
  .cases h
theorem ZGu(ts:yL Dv)(l:yL (yO Tmp×Dv))(q:yO Tmp×Dv):kv ts (l++[q])=fB (kv ts l) q.1 q.2:=by simp[kv]
def gI(X:Nat->Bool):Nat->Nat
 |0=>0
 |k+1=>gI X k+(if X k then 0 else 1)
theorem vr{X:Nat->Bool}:∀{k:Nat},gI X k=0->∀j,j < k->X j=ae
 |0,_,j,h=>by omega
 |k+1,h,j,f=>by
  simp only[gI]at h;by_cases g:j=k
  .grind
  .exact vr (k:=k) (by omega) j (by omega)
theorem vt{X:Nat->Bool}:∀{k:Nat},gI X k<=k
 |0=>ym _
 |k+1=>by
  have:=vt (X:=X) (k:=k);simp only[gI];grind
theorem ZA4{X Y:Nat->Bool}:∀{k:Nat},(∀j,j < k->Y j=X j)->gI Y k=gI X k
 |0,_=>rfl
 |k+1,h=>by
  simp only[gI];rw[ZA4 (k:=k) (λj f=>h j (by omega)),h k (by omega)]
theorem vu{X Y:Nat->Bool}{i:Nat}(hi:X i=af):∀{k:Nat},i < k->(∀j,j < k->Y j=(X j || decide (j=i)))->gI Y k+1=gI X k
 |0,h,_=>by omega
 |k+1,h,f=>by
  simp only[gI];by_cases g:i=k
  .subst g
   rw[ZA4 (X:=X) (Y:=Y) (λj l=>by
    rw[f j (by omega)];have:¬j=i:=by omega
    simp[this]),f i (by omega),hi]
   simp
  .have:=vu hi (k:=k) (by omega) (λj l=>f j (by omega));grind
theorem vv:∀(l:yL yj)(i:Nat),kU l i=ae->∀(j:Nat)(o:yj),l[j]? =ab o->∀e,e∈o.after->Region.binds .any e=ae->e.on < i+j
 |[],i,_,j,o,f,_,_,_=>by simp at f
 |o::l,i,h,j,y,f,e,g,m=>by
  simp only[kU,yi,yan]at h
  cases j with
  |zero=>
   simp only[yav,yo]at f;subst f;have:=h.1 e (by simpa using g)
   simpa[m] using this
  |succ j=>
   simp only[yaq]at f;have:=vv l (i+1) h.2 j y f e g m;omega
theorem ZpK(keep:yL Nat):∀(l:yL Dv)(k:Nat),(aI keep k l).length=l.length
 |[],k=>rfl
 |x::l,k=>by simp[aI,ZpK keep l]
theorem ZNr{J:Sg}{a:Act}{ts h:yL Dv}{dst:yO Tmp}{d:Dv}{v:yh}(hl:h.length=ts.length)(h1:aB J ts a)(h2:aB J (fB h dst d) (a.put dst v)):aB J (fB ts dst d) (a.put dst v):=by
 unfold fB Act.put at*
 cases dst with
 |none=>exact h1
 |some t=>
  refine⟨by simpa using h1.size,λi e g=> ?_,h1.defers⟩;by_cases f:t=i
  .subst f;refine h2.at_ t e ?_;simp only[yby]at g ⊢;rw[hl];exact g
  .rw[yby,yX f]at g;have:=h1.at_ i e g;simpa[ycw,ydc,f] using this
theorem ZyZ{J:Sg}{a:Act}{ts:yL Dv}{hs hs':yL ar}{C:yL Prop}{ts':yL Dv}{H':yL aq}{id:Nat}(ok:Ok J)(yM:aB J ts a)(h:uL P ops ts J.H hs=ab (C,ts',H',hs'))(hc:aZ C)
 (Q:Exit->Act->World->Prop) (hQ:∀a' J',J'.H=H'->To J J'->Ok J'->aB J' ts' a'->Q .normal a' J'.w):(Code.region id ops ae).wp P Q a J.w:=by
 unfold uL at h;split at h
 .rename_i hm;split at h
  .rename_i C1 rs ts1 H1 hs1 hev;split at h
   .rename_i hdr;simp only[yo,yq]at h;obtain⟨rfl,rfl,rfl,rfl⟩:=h;obtain⟨zW,hts',hnil,zZ⟩:=ZA3 _ _ _ _ _ _ _ _ _ hev hc;let n:=ops.size;let dst:Nat->yO Tmp:=λi=>aX ops.toList i;let D:Nat->Dv:=λi=>((rs[i]?).map (·.d)).getD .ak;let bQ:Nat->Nat:=λi=>(rs.map (·.bQ)).getD i 0;let A:yL Nat:=AU ops.toList;have hn:ops.toList.length=n:=by simp[n]
    have hrl:rs.length=n:=by rw[zW,hn]
    unfold uK at hdr;simp only[yi]at hdr;obtain⟨⟨⟨⟨⟨_,hback⟩,hanc⟩,huniq⟩,hlook⟩,hcls⟩:=hdr;have hopl:∀(i:Nat),ops.toList[i]? =ops[i]? :=λi=>by simp
    have hA:∀i o,ops[i]? =ab o->A.getD i 0=nv A i o:=by
     grind
    have hu:∀i j,i < n->j < n->dst i≠ad->dst i=dst j->i=j:=by
     intro i j hi hj T U;have:=yan.1 (yan.1 huniq i (ybv.2 (by rw[hn];exact hi))) j (ybv.2 (by rw[hn];exact hj))
     all_goals grind
    have hL:∀i o j t,ops[i]? =ab o->j < n->dst j=ab t->t∈looks ops o->i≠j->(if j < i then(A.getD i 0).testBit j else(A.getD j 0).testBit i)=ae:=by
     all_goals grind
    obtain⟨z,_,hcls⟩:=List.any_eq_true.1 hcls
    have hE0:∀i j,i < n->j < n->bQ i≠0->bQ j=2->i≠j->(if j < i then(A.getD i 0).testBit j else(A.getD j 0).testBit i)=ae\/(bQ i=1/\lZ rs i j=ae)\/kj rs z i j=ae:=by
     all_goals grind
    have hTS:∀i,i<=n->kv ts (((ops.toList.zip rs).take i).map λq=>(q.1.dst,q.2.d))=dH n dst D ts (λj=>ag (j < i)):=by
     intro i
     induction i with
     |zero=>
      intro _;rw[vn (λj _=>by simp)]
      simp[kv]
     |succ i ih=>
      intro hi;have T:i < ops.toList.length:=by rw[hn];omega
      have U:i < rs.length:=by rw[hrl];omega
      have hz:(ops.toList.zip rs)[i]? =ab (ops.toList[i],rs[i]):=by
       grind
      rw[List.take_add_one,hz];simp only[Option.toList_some,yat,yag,List.map_nil];rw[ZGu,ih (by omega)];have hd:ops.toList[i].dst=dst i:=by show _=aX ops.toList i;unfold aX;rw[yad T];rfl
      have hD:rs[i].d=D i:=by simp[D,yad U]
      rw[hd,hD]
      exact vo hu (by omega) (by simp) (λj _=>by
       by_cases hj:j < i <;> by_cases hj2:j=i <;> simp[hj,hj2] <;> omega)
    have W:∀(i:Nat)(o:yj),ops[i]? =ab o->∃r,rs[i]? =ab r/\aZ r.C/\cY P ops o (aI (looks ops o) 0 (dH n dst D ts (λj=>ag (j < i)))) r.H r.hs=ab (r.C,r.d,r.H',r.hs')/\
     r.bQ=bL P o (aI (looks ops o) 0 (dH n dst D ts (λj=>ag (j < i)))) r.H r.hs/\
     (r.rd=qH P o (aI (looks ops o) 0 (dH n dst D ts (λj=>ag (j < i))))/\r.tc=kT P o (aI (looks ops o) 0 (dH n dst D ts (λj=>ag (j < i)))) r.hs/\r.push=je o r.hs r.H.length/\r.loc=kS o r.hs/\r.ex=ki o)/\(i=0->r.H=J.H)/\(∀r2,rs[i+1]? =ab r2->r2.H=r.H')/\(i+1=n->H1=r.H'):=by
     grind
    let HH:Nat->yL aq:=λi=>if i < n then((rs[i]?).map (·.H)).getD [] else H1
    have F:∀i r,rs[i]? =ab r->HH i=r.H/\HH (i+1)=r.H':=by
     intro i r hr;have hi:i < n:=by rw[<-hrl];exact(yu.1 hr).1
     have hio:ops[i]? =ab ops[i]:=ycm hi
     all_goals grind
    have hcl:∀i r,rs[i]? =ab r->bQ i=r.bQ:=by
     grind
    have hstay:∀i,i < n->bQ i≠2->HH (i+1)=HH i:=by
     intro i hi U;have hio:ops[i]? =ab ops[i]:=ycm hi;obtain⟨r,k1,_,k3,k4,_⟩:=W i _ hio;rw[(F i r k1).1,(F i r k1).2];exact ZH1 k3 (by rw[<-k4, <-hcl i r k1];exact U)
    have hlev:∀(i k:Nat),i+k<=n->(∀e,i<=e->e < i+k->bQ e≠2)->HH (i+k)=HH i:=by
     intro i k
     induction k with
     |zero=>intro _ _;rfl
     |succ k ih=>
      intro hk I;rw[<-Nat.add_assoc,hstay (i+k) (by omega) (I _ (by omega) (by omega)),ih (by omega) (λe T U=>I e T (by omega))]
    let Lev:(Nat->Bool)->Nat->Prop:=λX i=>i<=n/\∀e,e < n->bQ e=2->(X e=ae↔e < i)
    have hsameLev:∀(X:Nat->Bool)(i k:Nat),Lev X i->Lev X k->HH i=HH k:=by
     have main:∀(X:Nat->Bool)(i k:Nat),i<=k->Lev X i->Lev X k->HH i=HH k:=by
      intro X i k hik T U
      have:=hlev i (k - i) (by have:=U.1;omega) (λe he1 he2 y=>by
       have hen:e < n:=by have:=U.1;omega
       have h3:=(T.2 e hen y);have h4:=(U.2 e hen y);have:X e=ae:=h4.2 (by omega);have:=h3.1 this;omega)
      rw[<-this];congr 1;omega
     intro X i k T U;rcases Nat.le_total i k with h3|h3
     .exact main X i k h3 T U
     .exact(main X k i h3 U T).symm
    have hcle:∀i,i < n->bQ i<=2:=by
     intro i hi;obtain⟨r,k1,_,k3,k4,_⟩:=W i _ (ycm hi);rw[hcl i r k1,k4];exact ZH5
    have hpsh:∀i r,rs[i]? =ab r->r.push=ae->bQ i=2/\∃E,HH (i+1)=HH i++E/\∀o,ops[i]? =ab o->∀H2,H2.length=(HH i).length->cY P ops o (aI (looks ops o) 0 (dH n dst D ts (λj=>ag (j < i)))) H2 r.hs=ab (r.C,r.d,H2++E,r.hs'):=by
     intro i r hr hp;have hi:i < n:=by rw[<-hrl];exact(yu.1 hr).1
     have hio:ops[i]? =ab ops[i]:=ycm hi;obtain⟨r',k1,_,k3,k4,k45,_⟩:=W i _ hio;rw[hr]at k1;cases k1;rw[k45.2.2.1]at hp;obtain⟨q1,E,Z,_⟩:=ZA1 (H2:=r.H) k3 hp rfl;refine⟨by rw[hcl i r hr,k4,q1],E,by rw[(F i r hr).1,(F i r hr).2,Z],λo ho H2 hl=> ?_⟩;rw[hio]at ho;cases ho;obtain⟨_,E2,q3,q4⟩:=ZA1 (H2:=H2) k3 hp (by rw[hl,(F i r hr).1]);rw[Z]at q3;rw[List.append_cancel_left q3];exact q4
    have hlocc:∀i r,rs[i]? =ab r->r.loc=ae->bQ i≠1/\(HH (i+1)).length=(HH i).length/\∀o,ops[i]? =ab o->∀E,cY P ops o (aI (looks ops o) 0 (dH n dst D ts (λj=>ag (j < i)))) (HH i++E) r.hs=ab (r.C,r.d,HH (i+1)++E,r.hs'):=by
     intro i r hr hp;have hi:i < n:=by rw[<-hrl];exact(yu.1 hr).1
     have hio:ops[i]? =ab ops[i]:=ycm hi;obtain⟨r',k1,_,k3,k4,k45,_⟩:=W i _ hio;rw[hr]at k1;cases k1;rw[k45.2.2.2.1]at hp;obtain⟨q1,Z,q3⟩:=ZLb k3 hp;refine⟨by rw[hcl i r hr,k4];exact q1,by rw[(F i r hr).1,(F i r hr).2,Z],λo ho E=> ?_⟩;rw[hio]at ho;cases ho;rw[(F i r hr).1,(F i r hr).2];exact q3 E
    let Psh:Nat->Prop:=λi=>∃r,rs[i]? =ab r/\r.push=ae;let Loc:Nat->Prop:=λi=>∃r,rs[i]? =ab r/\r.loc=ae;let Pu:Nat->Prop:=λi=>∃r,rs[i]? =ab r/\r.push=ae/\r.H'.length=r.H.length+1/\∀k q,k < i->rs[k]? =ab q->q.H.length<=r.H.length
    have hcomm:∀i j,kj rs z i j=ae->(Loc z\/Pu z)/\((i=z/\z < j/\Psh j)\/(j=z/\z < i/\Psh i)):=by
     intro i j h
     have hget:∀(f:Rec->Bool)(k:Nat),((rs[k]?).map f).getD af=ae->∃r,rs[k]? =ab r/\f r=ae:=by
      intro f k hk
      cases hr:rs[k]? with
      |none=>rw[hr]at hk;cases hk
      |some r=>rw[hr]at hk;exact⟨r,rfl,hk⟩
     unfold kj at h;simp only[yi,yck,yT,yP]at h;obtain⟨T,U⟩:=h;refine⟨?_, ?_⟩
     .obtain⟨r,q1,Z⟩:=hget _ _ T;unfold uJ at Z;simp only[yck,yi,yT,yan,yP]at Z;rcases Z with Z|⟨⟨Z,q3⟩,q4⟩
      .exact .inl ⟨r,q1,Z⟩
      .refine .inr ⟨r,q1,Z,q3,λk q hk hq=>q4 q ?_⟩;rw[List.mem_iff_getElem?];exact⟨k,by rw[yct,yW hk];exact hq⟩
     rcases U with⟨⟨h3,h4⟩,h5⟩|⟨⟨h3,h4⟩,h5⟩
     .exact .inl ⟨h3,h4,hget _ _ h5⟩
     .exact .inr ⟨h3,h4,hget _ _ h5⟩
    let CG:yL aq->Prop:=λG=>(Loc z/\G=[])\/(Pu z/\G=[.gone])
    have hGl:∀G,CG G->(HH (z+1)).length=(HH z).length+G.length:=by
     rintro G (⟨⟨r,q1,Z⟩,rfl⟩|⟨⟨r,q1,_,Z,_⟩,rfl⟩)
     .rw[(hlocc z r q1 Z).2.1];rfl
     .rw[(F z r q1).1,(F z r q1).2,Z];rfl
    let Hole:(Nat->Bool)->yL aq->Prop:=λX Hc=>∃R e0 E G,z < n/\CG G/\bQ z=2/\R<=n/\X z=af/\(∀e,e < n->bQ e=2->(X e=ae↔e < R/\e≠z))/\(z < e0/\e0 < R/\bQ e0=2/\HH e0=HH (z+1))/\
     (∀e,z < e->e < R->bQ e=2->Psh e)/\Hc=HH z++(G++E)/\HH R=HH (z+1)++E
    let Inv:(Nat->Bool)->yL aq->Prop:=λX Hc=>(∃i,Lev X i/\Hc=HH i)\/Hole X Hc;refine wp_region_any hm ?_
    have walk:∀(yD:Nat)(g:Array Bool)(a:Act)(J1:Sg),g.size=n->gI (λj=>g.getD j af) n<=yD->jf ops (λj=>g.getD j af)->To J J1->Ok J1->
     aB J1 (dH n dst D ts (λj=>g.getD j af)) a->Inv (λj=>g.getD j af) J1.H->wpAny P .any ops Q yD g a J1.w:=by
     intro yD
     induction yD with
     |zero=>
      intro g a J1 hsz hun hcl1 to1 ok1 hrep1 hlv;have zU:=vr (Nat.le_zero.1 hun);refine⟨?_, ?_⟩
      .apply List.eq_nil_iff_forall_not_mem.2;intro j hj;obtain⟨T,o,ho,_⟩:=mem_ready.1 hj;have hjn:j < n:=(ycv.1 ho).1;have U:=zU j hjn;have hjs:j < g.size:=by omega
       simp only[Array.getD,hjs,dif_pos]at T U;rw[T]at U;cases U
      .rcases hlv with⟨i,hi,hH⟩|⟨R,e0,E,G,g1,_,_,_,g2,_⟩
       case inr=>exact absurd ((zU z g1).symm.trans g2) (by simp)
       have hln:Lev (λj=>g.getD j af) n:=⟨ym _,λe I _=>⟨λ_=>I,λ_=>zU e I⟩⟩;refine hQ a J1 ?_ to1 ok1 ?_
       .rw[hH,hsameLev _ i n hi hln];simp[HH]
       .have:ts1=dH n dst D ts (λj=>g.getD j af):=by
         have B:=hTS n (ym _);rw[ycj (by rw[List.length_zip,hn,hrl];simp)]at B;rw[hts',B];apply ybl;intro t;by_cases ht:t < ts.length
         .rw[iA ht,iA ht];congr 1;by_cases hex:∃j,j < n/\dst j=ab t
          .obtain⟨j,T,U⟩:=hex;rw[Qz hu T (by simpa using T) U,Qz hu T (zU j T) U]
          .rw[kq (λj T _ h3=>hex ⟨j,T,h3⟩),kq (λj T _ h3=>hex ⟨j,T,h3⟩)]
         .rw[ybk (by rw[X4];omega),ybk (by rw[X4];omega)]
        rw[this]
        exact hrep1
     |succ yD ih=>
      intro g a J1 hsz hun hcl1 to1 ok1 hrep1 hlv;refine⟨λhr=> ?_,λi hi=> ?_⟩
      . 
       have zU:∀j,j < n->g.getD j af=ae:=by
        intro j
        induction j using Nat.strongRecOn with
        |_ j ihj=>
         intro hj
         cases S:g.getD j af with
         |true=>rfl
         |false=>
          have hjs:j < g.size:=by omega
          have hjo:ops[j]? =ab ops[j]:=ycm hj
          have:j∈Region.ready .any ops g:=by
           refine mem_ready.2 ⟨?_,ops[j],hjo,λe I hb=> ?_⟩
           .simp only[Array.getD,hjs,dif_pos]at S ⊢;exact S
           .have hlt:=vv ops.toList 0 hback j ops[j] (by rw[hopl];exact hjo) e I hb;exact ihj e.on (by omega) (by omega)
          rw[hr]at this;cases this
       rcases hlv with⟨i,hi,hH⟩|⟨R,e0,E,G,g1,_,_,_,g2,_⟩
       case inr=>exact absurd ((zU z g1).symm.trans g2) (by simp)
       have hln:Lev (λj=>g.getD j af) n:=⟨ym _,λe I _=>⟨λ_=>I,λ_=>zU e I⟩⟩;refine hQ a J1 ?_ to1 ok1 ?_
       .rw[hH,hsameLev _ i n hi hln];simp[HH]
       .have:ts1=dH n dst D ts (λj=>g.getD j af):=by
         have B:=hTS n (ym _);rw[ycj (by rw[List.length_zip,hn,hrl];simp)]at B;rw[hts',B];apply ybl;intro t;by_cases ht:t < ts.length
         .rw[iA ht,iA ht];congr 1;by_cases hex:∃j,j < n/\dst j=ab t
          .obtain⟨j,T,U⟩:=hex;rw[Qz hu T (by simpa using T) U,Qz hu T (zU j T) U]
          .rw[kq (λj T _ h3=>hex ⟨j,T,h3⟩),kq (λj T _ h3=>hex ⟨j,T,h3⟩)]
         .rw[ybk (by rw[X4];omega),ybk (by rw[X4];omega)]
        rw[this];exact hrep1
      . 
       obtain⟨T,o,ho,hedge⟩:=mem_ready.1 hi;have hin:i < n:=(ycv.1 ho).1;have fH:i < g.size:=by omega
       let X:Nat->Bool:=λj=>g.getD j af
       have hXi:X i=af:=by
        simp only[X,Array.getD,fH,dif_pos]at T ⊢;exact T
       have hancL:∀j,(A.getD i 0).testBit j=ae->X j=ae:=by
        intro j hj;rw[hA i o ho]at hj;unfold nv at hj;rcases CF A i j _ _ hj with h|⟨e,B,e2,e3,e4⟩
        .simp at h
        .have I:=hedge e (by simpa using B) e2;rcases e4 with e4|e4
         .rw[<-e4];exact I
         .exact Zuu hcl1 hA e.on ⟨ops[e.on],ycm (by omega)⟩ I j e4
       have hancR:∀j,j < n->X j=ae->(A.getD j 0).testBit i=ae->False:=by
        intro j hj S hb;have:=Zuu hcl1 hA j ⟨ops[j],ycm hj⟩ S i hb;have hXi':(g.getD i af)=af:=hXi;rw[hXi']at this;cases this
       obtain⟨r,k1,k2,k3,k4,k45,_,_,_⟩:=W i o ho
       have hmask:aI (looks ops o) 0 (dH n dst D ts X)=aI (looks ops o) 0 (dH n dst D ts (λj=>ag (j < i))):=by
        refine ZGs hu (λj t hj hd ht=> ?_);by_cases hij:i=j
        .subst hij;rw[hXi];simp
        .have:=hL i o j t ho hj hd ht hij;split at this
         .rename_i hlt;rw[hancL j this];simp[hlt]
         .rename_i hge
          have hxf:X j=af:=by
           cases S:X j with
           |false=>rfl
           |true=>exact(hancR j hj S this).elim
          rw[hxf];simp[hge]
       have hXi2:X i=af:=hXi
       have hgetset:∀j,(g.setIfInBounds i ae).getD j af=(X j || decide (j=i)):=by
        intro j;by_cases hji:j=i
        .subst hji;simp[Array.getD,fH]
        .simp only[X,ycw,ydc,hji,decide_false,Bool.or_false];rw[yX (λh=>hji h.symm)]
       have hord:∀e,e < n->bQ i≠0->bQ e=2->i≠e->¬(bQ i=1/\lZ rs i e=ae)->¬kj rs z i e=ae->(X e=ae↔e < i):=by
        intro e I h0 y hie hf hcm;rcases hE0 i e hin I h0 y hie with h3|h3|h3
        .split at h3
         .rename_i hlt;exact⟨λ_=>hlt,λ_=>hancL e h3⟩
         .rename_i hge;exact⟨λS=>(hancR e I S h3).elim,λh=>absurd h hge⟩
        .exact absurd h3 hf
        .exact absurd h3 hcm
       have hkeep:bQ i≠2->Inv (λj=>(g.setIfInBounds i ae).getD j af) J1.H:=by
        intro U
        have hX':∀e,bQ e=2->((g.setIfInBounds i ae).getD e af=ae↔X e=ae):=by
         intro e y
         have hne:¬e=i:=by
          rintro rfl;exact U y
         rw[hgetset e];simp only[hne,decide_false,Bool.or_false]
        rcases hlv with⟨R,M,hlv2⟩|⟨R,e0,E,G,g1,g2,g3,g4,g5,g6,g7,g8,g9,g10⟩
        .exact .inl ⟨R,⟨M.1,λe I y=>(hX' e y).trans (M.2 e I y)⟩,hlv2⟩
        .refine .inr ⟨R,e0,E,G,g1,g2,g3,g4, ?_,λe I y=>(hX' e y).trans (g6 e I y),g7,g8,g9,g10⟩;have:=hX' z g3;show(g.setIfInBounds i ae).getD z af=af
         cases S:(g.setIfInBounds i ae).getD z af with
         |false=>rfl
         |true=>
          have h9:=this.1 S;have g5':X z=af:=g5;rw[g5']at h9;cases h9
       let SO:yL aq->Prop:=λH2=>∀K:Act->World->Prop,(∀v J2,J2.H=H2->To J1 J2->Ok J2->aB J2 (fB (aI (looks ops o) 0 (dH n dst D ts X)) o.dst r.d) (a.put o.dst v)->K (a.put o.dst v) J2.w)->
        if Region.wanted o (yielded ops a.tmps) then o.wp P a J1.w K Q else K (a.put o.dst undef) J1.w
       have soE:∀H2,cY P ops o (aI (looks ops o) 0 (dH n dst D ts (λj=>ag (j < i)))) J1.H r.hs=ab (r.C,r.d,H2,r.hs')->SO H2:=λH2 h K hK=>by
        rw[<-hmask]at h;exact vl (P:=P) (ops:=ops) ok1 (Qd (looks ops o) hrep1) h k2 K Q hK
       have soG:∀G H2,(G=[]\/G=[.gone])->cY P ops o (aI (looks ops o) 0 (dH n dst D ts (λj=>ag (j < i)))) (J1.H++G) r.hs=ab (r.C,r.d,H2,r.hs')->SO H2:=λG H2 hG h=>by
        rcases hG with rfl|rfl
        .rw[List.append_nil]at h;exact soE H2 h
        .intro K hK;rw[<-hmask]at h;obtain⟨t1,o1⟩:=CH ok1;exact vl (P:=P) (ops:=ops) (J:={ J1 with m:=J1.m++[ad],H:=J1.H++[.gone]}) o1 ((Qd (looks ops o) hrep1).to t1.leaf) h k2 K Q λv J2 B to2 ok2 hr2=>hK v J2 B (t1.trans to2) ok2 hr2
       have hnow:∃H2,SO H2/\Inv (λj=>(g.setIfInBounds i ae).getD j af) H2:=by
        by_cases h0:bQ i=0
        .obtain⟨B,e2⟩:=ZH0 (H2:=J1.H) k3 (by rw[<-k4, <-hcl i r k1];exact h0);exact⟨J1.H,soE _ e2,hkeep (by omega)⟩
        by_cases h01:bQ i=1
        .have hkc:bL P o (aI (looks ops o) 0 (dH n dst D ts (λj=>ag (j < i)))) r.H r.hs=1:=by rw[<-k4, <-hcl i r k1];exact h01
         have hnc:∀e,¬kj rs z i e=ae:=by
          intro e hcm;obtain⟨q0,q3|q3⟩:=hcomm i e hcm
          .obtain⟨rfl,_⟩:=q3;rcases q0 with⟨rc,q1,Z⟩|⟨rc,q1,Z,_⟩
           .exact(hlocc _ rc q1 Z).1 h01
           .have:=(hpsh _ rc q1 Z).1;omega
          .obtain⟨_,_,rp,q4,q5⟩:=q3;have:=(hpsh i rp q4 q5).1;omega
         have hdis:∀e,e < n->bQ e=2->¬(X e=ae↔e < i)->lZ rs i e=ae:=by
          intro e I y S;by_cases hf:lZ rs i e=ae
          .exact hf
          .exact absurd (hord e I h0 y (by rintro rfl;omega) (λh=>hf h.2) (hnc e)) S
         have hfr:∀k,k < n->lZ rs i k=ae->True/\∃id,r.rd=ab id/\id < (HH k).length/\id < (HH i).length/\(bQ k=2->fM o ((HH (k+1))[id]?)=fM o ((HH k)[id]?)):=by
          intro k hk hf;have hko:ops[k]? =ab ops[k]:=ycm hk;obtain⟨q,g1,_,g3,g4,g45,_⟩:=W k _ hko;unfold lZ at hf;rw[k1,g1]at hf;dsimp only at hf;split at hf
          .rename_i id B;simp only[yi,yP]at hf;have hrd:=k45.1;rw[B]at hrd;unfold qH at hrd
           .refine⟨zP,id,B,by rw[(F k q g1).1];exact hf.1.1,by rw[(F i r k1).1];exact hf.1.2,λhck=> ?_⟩;rw[(F k q g1).1,(F k q g1).2];have hf2:=hf.2;rw[k45.2.2.2.2]at hf2;unfold fM;by_cases hex:ki o=ae
            .rw[yW hex]at hf2;rw[yW hex,yW hex];obtain⟨_,E,p3,_⟩:=hpsh k q g1 hf2;rw[(F k q g1).1,(F k q g1).2]at p3;rw[p3,ybd hf.1.1]
            .rw[yX hex]at hf2;rw[yX hex,yX hex];rw[yck]at hf2;rcases hf2 with hf2|hf2
             .split at hf2
              .rename_i l e2;exact ZGt g3 (by rw[<-g4, <-hcl k q g1];exact hck) (by rw[<-g45.2.1,e2]) hf.1.1 (by simpa using hf2)
              .cases hf2
             .exact@of_decide_eq_true _ (Classical.propDecidable _) hf2
          .cases hf
         have hchain:∀(id k a:Nat),a+k<=n->(∀e,a<=e->e < a+k->bQ e=2->fM o ((HH (e+1))[id]?)=fM o ((HH e)[id]?))->fM o ((HH (a+k))[id]?)=fM o ((HH a)[id]?):=by
          intro id k a
          induction k with
          |zero=>intro _ _;rfl
          |succ k ihk=>
           intro hk I;rw[<-Nat.add_assoc, <-ihk (by omega) (λe T U=>I e T (by omega))];by_cases U:bQ (a+k)=2
           .exact I (a+k) (by omega) (by omega) U
           .rw[hstay (a+k) (by omega) U]
         have hreads:∀id,r.rd=ab id->oZ P o (aI (looks ops o) 0 (dH n dst D ts (λj=>ag (j < i))))=ab id:=by
          intro id B;have hrd:=k45.1;rw[B]at hrd;exact hrd.symm
         have hfin:True->∀id,r.rd=ab id->fM o ((HH i)[id]?)=fM o (J1.H[id]?)->∃H2,SO H2/\Inv (λj=>(g.setIfInBounds i ae).getD j af) H2:=by
          intro hg id B e2;rw[(F i r k1).1]at e2;exact⟨J1.H,soE _ (ZPe k3 hkc (λ_=>ZNq (hreads id B) e2)),hkeep (by omega)⟩
         rcases hlv with⟨R,M,hlv2⟩|⟨R,e0,E,G,g1,g2,g3,g4,g5,g6,g7,g8,g9,g10⟩
         .by_cases hsame:Lev X i
          .have hHi:J1.H=r.H:=by
            rw[hlv2,hsameLev X R i M hsame,(F i r k1).1]
           have hr':r.H'=r.H:=by
            have:=hstay i hin (by omega);rw[(F i r k1).1,(F i r k1).2]at this;exact this
           refine⟨J1.H,soE _ (by rw[hHi,k3,hr']),hkeep (by omega)⟩
          .have hex:∃e,e < n/\bQ e=2/\¬(X e=ae↔e < i):=by
            refine Classical.byContradiction λhno=>hsame ⟨by omega,λe I y=> ?_⟩;exact Classical.byContradiction λh=>hno ⟨e,I,y,h⟩
           obtain⟨B,he1,hce1,hx1⟩:=hex;obtain⟨hg,id,hid,_⟩:=hfr B he1 (hdis B he1 hce1 hx1);refine hfin hg id hid ?_;have hln:=M.1
           have hst:∀e,e < n->bQ e=2->¬(X e=ae↔e < i)->fM o ((HH (e+1))[id]?)=fM o ((HH e)[id]?):=by
            intro e I y S;obtain⟨_,id',hid',_,_,h5⟩:=hfr e I (hdis e I y S);rw[hid]at hid';cases hid';exact h5 y
           rw[hlv2];rcases Nat.le_total R i with hle|hle
           .have:=hchain id (i - R) R (by omega) (λe T U h3=>hst e (by omega) h3 (λS=>by
             have h4:=(M.2 e (by omega) h3).1 (S.2 (by omega));omega))
            rw[show R+(i - R)=i by omega]at this;exact this
           .have:=hchain id (R - i) i (by omega) (λe T U h3=>hst e (by omega) h3 (λS=>by
             have h4:=S.1 ((M.2 e (by omega) h3).2 (by omega));omega))
            rw[show i+(R - i)=R by omega]at this;exact this.symm
         . 
          have hic:¬i=z:=by
           rintro rfl;omega
          obtain⟨ge1,ge2,ge3,ge4⟩:=g7;have hclen:=hGl G g2;have hxe0:X e0=ae:=(g6 e0 (by omega) ge3).2 ⟨ge2,by omega⟩;have hxc0:X z=af:=g5
          have hid:True/\∃id,r.rd=ab id/\id < (HH z).length:=by
           by_cases hlt:z < i
           .obtain⟨hg,id,q1,Z,_⟩:=hfr z g1 (hdis z g1 g3 (λS=>by
             rw[hxc0]at S;have:=S.2 hlt;cases this))
            exact⟨hg,id,q1,Z⟩
           .obtain⟨hg,id,q1,Z,q20,_⟩:=hfr e0 (by omega) (hdis e0 (by omega) ge3 (λS=>by
             have:=S.1 hxe0;omega))
            refine⟨hg,id,q1, ?_⟩;rcases g2 with⟨_,rfl⟩|⟨⟨rc,p1,_,_,p4⟩,rfl⟩
            .rw[ge4,hclen]at Z;exact Z
            .have:=p4 i r (by omega) k1;rw[(F i r k1).1]at q20;rw[(F z rc p1).1];omega
          obtain⟨hg,id,hid,hidl⟩:=hid;refine hfin hg id hid ?_
          have hst:∀e,e < n->bQ e=2->¬(X e=ae↔e < i)->fM o ((HH (e+1))[id]?)=fM o ((HH e)[id]?):=by
           intro e I y S;obtain⟨_,id',hid',_,_,h5⟩:=hfr e I (hdis e I y S);rw[hid]at hid';cases hid';exact h5 y
          rw[g9,ybd hidl];by_cases hlt:z < i
          . 
           have hc1:fM o ((HH (z+1))[id]?)=fM o ((HH z)[id]?):=hst z g1 g3 (λS=>by
            rw[hxc0]at S;have:=S.2 hlt;cases this)
           have hup:∀k,z+1+k<=R->id < (HH (z+1+k)).length/\fM o ((HH (z+1+k))[id]?)=fM o ((HH (z+1))[id]?):=by
            intro k
            induction k with
            |zero=>intro _;exact⟨by rw[Nat.add_zero,hclen];omega,rfl⟩
            |succ k ihk=>
             intro hk;obtain⟨j1,j2⟩:=ihk (by omega);rw[<-Nat.add_assoc];by_cases U:bQ (z+1+k)=2
             .obtain⟨rp,p1,p2⟩:=g8 (z+1+k) (by omega) (by omega) U;obtain⟨_,E2,p3,_⟩:=hpsh _ rp p1 p2;rw[p3,ybd j1];exact⟨by rw[yl];omega,j2⟩
             .rw[hstay (z+1+k) (by omega) U];exact⟨j1,j2⟩
           rcases Nat.le_total i R with hle|hle
           .have:=(hup (i - (z+1)) (by omega)).2;rw[show z+1+(i - (z+1))=i by omega]at this;rw[this,hc1]
           .have h6:=(hup (R - (z+1)) (by omega)).2;rw[show z+1+(R - (z+1))=R by omega]at h6
            have:=hchain id (i - R) R (by omega) (λe T U h3=>hst e (by omega) h3 (λS=>by
             have h4:=(g6 e (by omega) h3).1 (S.2 (by omega));omega))
            rw[show R+(i - R)=i by omega]at this;rw[this,h6,hc1]
          .have:=hchain id (z - i) i (by omega) (λe T U h3=>hst e (by omega) h3 (λS=>by
            have h4:=S.1 ((g6 e (by omega) h3).2 ⟨by omega,by omega⟩);omega))
           rw[show i+(z - i)=z by omega]at this;exact this.symm
        have U:bQ i=2:=by
         have:=hcle i hin;omega
        have hord2:∀e,e < n->bQ e=2->i≠e->¬kj rs z i e=ae->(X e=ae↔e < i):=λe I y hie hcm=>hord e I h0 y hie (λh=>h01 h.1) hcm
        have hset:∀e,((g.setIfInBounds i ae).getD e af=ae↔(X e=ae\/e=i)):=by
         intro e;rw[hgetset e];simp
        by_cases hall2:∀e,e < n->bQ e=2->(X e=ae↔e < i)
        . 
         have hli:Lev X i:=⟨by omega,hall2⟩
         have hHi:J1.H=r.H:=by
          rcases hlv with⟨R,M,hlv2⟩|⟨R,e0,E,G,g1,g2,g3,g4,g5,g6,g7,g8,g9,g10⟩
          .rw[hlv2,hsameLev X R i M hli,(F i r k1).1]
          .exfalso;obtain⟨ge1,ge2,ge3,ge4⟩:=g7;have q1:=(hall2 e0 (by omega) ge3).1 ((g6 e0 (by omega) ge3).2 ⟨ge2,by omega⟩);have Z:=(hall2 z g1 g3).2 (by omega);have g5':X z=af:=g5;rw[g5']at Z;cases Z
         rw[<-hHi]at k3;refine⟨r.H',soE _ k3,.inl ⟨i+1,⟨by omega,λe I y=> ?_⟩,((F i r k1).2).symm⟩⟩;refine(hset e).trans ?_;rw[hall2 e I y];omega
        . 
         have hex:∃e,e < n/\bQ e=2/\i≠e/\¬(X e=ae↔e < i):=by
          refine Classical.byContradiction λhno=>hall2 λe I y=> ?_;by_cases hie:i=e
          .subst hie;rw[hXi2];simp
          .exact Classical.byContradiction λh=>hno ⟨e,I,y,hie,h⟩
         obtain⟨B,he1,hce1,hie1,hx1⟩:=hex;have hcm1:kj rs z i B=ae:=Classical.byContradiction λh=>hx1 (hord2 B he1 hce1 hie1 h);obtain⟨hLP,hcases⟩:=hcomm i B hcm1;rcases hcases with⟨hic,hlt1,hpe1⟩|⟨hec,hlt1,hpi⟩
         . 
          subst hic
          have hxe1:X B=ae:=by
           cases S:X B with
           |true=>rfl
           |false=>
            exfalso;apply hx1;rw[S];exact⟨λh=>(by cases h),λh=>(by omega)⟩
          rcases hlv with⟨R,M,hlv2⟩|⟨R,e0,E,G,g1,g2,g3,g4,g5,g6,g7,g8,g9,g10⟩
          .exfalso;have q1:=(M.2 B he1 hce1).1 hxe1;have Z:=(M.2 i hin U).2 (by omega);have hXi3:X i=af:=hXi;have q2':X i=ae:=Z;rw[hXi3]at q2';cases q2'
          .have hso:SO (HH (i+1)++E):=by
            rcases g2 with⟨⟨rc,hrc,hrcl⟩,rfl⟩|⟨⟨rc,hrc,hrp,hrl,_⟩,rfl⟩
            .rw[hrc]at k1;cases k1;obtain⟨_,_,hcev⟩:=hlocc i r hrc hrcl;exact soE _ (by rw[g9];exact hcev o ho E)
            .rw[hrc]at k1;cases k1;intro K hK;have hp:je o r.hs r.H.length=ae:=by rw[<-k45.2.2.1];exact hrp
             rw[<-hmask]at k3;refine ZH4 (P:=P) (ops:=ops) (E:=E) ok1 (Qd (looks ops o) hrep1) k3 k2 hp hrl (by rw[g9,(F i r hrc).1];rfl) K Q λv J2 B to2 ok2 hr2=>hK v J2 (by rw[B,(F i r hrc).2]) to2 ok2 hr2
           refine⟨HH (i+1)++E,hso,.inl ⟨R,⟨g4,λe I y=> ?_⟩,g10.symm⟩⟩;refine(hset e).trans ?_;have q:=g6 e I y;obtain⟨ge1,ge2,_⟩:=g7;constructor
           .rintro(q1|q1)
            .exact(q.1 q1).1
            .omega
           .intro q1;by_cases hei:e=i
            .exact .inr hei
            .exact .inl (q.2 ⟨q1,hei⟩)
         . 
          subst hec
          have hxc:X B=af:=by
           cases S:X B with
           |false=>rfl
           |true=>
            exfalso;apply hx1;rw[S];exact⟨λ_=>hlt1,λ_=>rfl⟩
          have hoth:∀e,e < n->bQ e=2->e≠B->(X e=ae↔e < i):=by
           intro e I y hne;by_cases hie:i=e
           .subst hie;rw[hXi2];simp
           .refine hord2 e I y hie λhcm=> ?_;obtain⟨_,q|q⟩:=hcomm i e hcm
            .omega
            .exact hne q.1
          obtain⟨rp,hrp,hrpp⟩:=hpi;obtain⟨_,Ei,hpE,hpev⟩:=hpsh i rp hrp hrpp
          have hexG:∃G,CG G/\(G=[]\/G=[.gone]):=by
           rcases hLP with h|h
           .exact⟨[],.inl ⟨h,rfl⟩,.inl rfl⟩
           .exact⟨[.gone],.inr ⟨h,rfl⟩,.inr rfl⟩
          rw[hrp]at k1;cases k1;rcases hlv with⟨R,M,hlv2⟩|⟨R,e0,E,G,g1,g2,g3,g4,g5,g6,g7,g8,g9,g10⟩
          .have hlc:Lev X B:=⟨by omega,λe I y=>by
            by_cases hne:e=B
            .subst hne;rw[hxc];simp
            .rw[hoth e I y hne];constructor
             .intro q;have q1:=(M.2 e I y).1 ((hoth e I y hne).2 q)
              have Z:¬B < R:=λq3=>by
               have q9:X B=ae:=(M.2 B he1 hce1).2 q3;rw[hxc]at q9;cases q9
              omega
             .intro q;omega⟩
           have hmid:∀e,B < e->e < i->bQ e≠2:=by
            intro e q1 Z y;have q3:=(hoth e (by omega) y (by omega)).2 Z;have q4:=(hlc.2 e (by omega) y).1 q3;omega
           have hHi:HH i=HH (B+1):=by
            have:=hlev (B+1) (i - (B+1)) (by omega) (λe q1 Z=>hmid e (by omega) (by omega));rw[show B+1+(i - (B+1))=i by omega]at this;exact this
           have hH1:J1.H=HH B:=by rw[hlv2,hsameLev X R B M hlc]
           obtain⟨G,hCG,hG2⟩:=hexG;have hclen:=hGl G hCG
           have hso:SO (HH B++(G++Ei)):=soG G _ hG2 (by
            rw[<-yab,hH1];exact hpev o ho (HH B++G) (by rw[hHi,hclen,yl]))
           refine⟨HH B++(G++Ei),hso,.inr ⟨i+1,i,Ei,G,he1,hCG,hce1,by omega, ?_,λe I y=> ?_,⟨hlt1,by omega,U,hHi⟩,λe q1 Z q3=> ?_,rfl,by rw[hpE,hHi]⟩⟩
           .show(g.setIfInBounds i ae).getD B af=af
            cases S:(g.setIfInBounds i ae).getD B af with
            |false=>rfl
            |true=>
             rcases (hset B).1 S with q|q
             .rw[hxc]at q;cases q
             .omega
           .refine(hset e).trans ?_;by_cases hne:e=B
            .subst hne;rw[hxc];constructor
             .rintro(q|q)
              .cases q
              .omega
             .rintro⟨_,q⟩;exact absurd rfl q
            .rw[hoth e I y hne];omega
           .by_cases hei:e=i
            .subst hei;exact⟨_,hrp,hrpp⟩
            .exact absurd q3 (hmid e q1 (by omega))
          .obtain⟨ge1,ge2,ge3,ge4⟩:=g7
           have hlvi:R<=i:=by
            rcases Nat.lt_or_ge i R with q|q
            .exfalso;have:=(g6 i hin U).2 ⟨q,by omega⟩;have hXi3:X i=af:=hXi;have q2':X i=ae:=this;rw[hXi3]at q2';cases q2'
            .exact q
           have hHi:HH i=HH R:=by
            have:=hlev R (i - R) (by omega) (λe q1 Z y=>by
             have q3:=(hoth e (by omega) y (by omega)).2 (by omega);have q4:=(g6 e (by omega) y).1 q3;omega)
            rw[show R+(i - R)=i by omega]at this;exact this
           have hclen:=hGl G g2;have hso:SO (J1.H++Ei):=soE _ (hpev o ho J1.H (by rw[hHi,g10,g9,yl,yl,yl,hclen];omega));refine⟨J1.H++Ei,hso,.inr ⟨i+1,e0,E++Ei,G,he1,g2,hce1,by omega, ?_,λe I y=> ?_,⟨ge1,by omega,ge3,ge4⟩,λe q1 Z q3=> ?_,by rw[g9,yab,yab],by rw[hpE,hHi,g10,yab]⟩⟩
           .show(g.setIfInBounds i ae).getD B af=af
            cases S:(g.setIfInBounds i ae).getD B af with
            |false=>rfl
            |true=>
             rcases (hset B).1 S with q|q
             .rw[hxc]at q;cases q
             .omega
           .refine(hset e).trans ?_;by_cases hne:e=B
            .subst hne;rw[hxc];constructor
             .rintro(q|q)
              .cases q
              .omega
             .rintro⟨_,q⟩;exact absurd rfl q
            .rw[hoth e I y hne];omega
           .by_cases hei:e=i
            .subst hei;exact⟨_,hrp,hrpp⟩
            .have q4:=(hoth e (by omega) q3 (by omega)).2 (by omega);have q5:=(g6 e (by omega) q3).1 q4;exact g8 e q1 q5.1 q3
       obtain⟨H2,hso2,hinv⟩:=hnow
       have key:=hso2 (wpAny P .any ops Q yD (g.setIfInBounds i ae)) (λv J2 B to2 ok2 hrep2=>by
        have hgetset:∀j,(g.setIfInBounds i ae).getD j af=(X j || decide (j=i)):=by
         intro j;by_cases hji:j=i
         .subst hji;simp[Array.getD,fH]
         .simp only[X,ycw,ydc,hji,decide_false,Bool.or_false];rw[yX (λh=>hji h.symm)]
        refine ih _ _ J2 (by simpa using hsz) ?_ ?_ (to1.trans to2) ok2 ?_ (by rw[B];exact hinv)
        .have:=vu (Y:=λj=>(g.setIfInBounds i ae).getD j af) hXi hin (λj _=>hgetset j);have hX':gI X n<=yD+1:=hun;omega
        .intro j o' hj S e I hb;show(g.setIfInBounds i ae).getD e.on af=ae;rw[hgetset];have hx':(g.setIfInBounds i ae).getD j af=ae:=S;rw[hgetset]at hx';by_cases hji:j=i
         .subst hji;rw[ho]at hj;cases hj;have:X e.on=ae:=hedge e I hb;rw[this];rfl
         .simp only[hji,decide_false,Bool.or_false]at hx';have:X e.on=ae:=hcl1 j o' hj hx' e I hb;rw[this];rfl
        .have hd:o.dst=dst i:=by simp[dst,aX,ho]
         have hD:r.d=D i:=by simp[D,k1]
         have hput:=vo (ts0:=ts) (D:=D) hu hin hXi (λj(_:j < n)=>hgetset j);rw[<-hput, <-hd, <-hD];exact ZNr (ZpK _ _ _) (hrep1.to to2.leaf) hrep2)
       show wpOp P ops Q i _ a J1.w;unfold wpOp;rw[ho];by_cases hw:Region.wanted o (yielded ops a.tmps)=ae
       .rw[yW hw]at key;simp only[hw,if_true];exact .inl key
       .rw[yX hw]at key;simp only[hw];exact key
    have hdr2:J.w.grownBy { J.w with drawn:=J.w.drawn+1} ad:=by
     exact⟨rfl,rfl,rfl,ym _,λ_ _ _=>rfl⟩
    obtain⟨to0,ok0⟩:=nB ok hdr2
    have hfalse:∀j,(ycg ops.size af).getD j af=af:=by
     intro j;by_cases hj:j < ops.size <;> simp[Array.getD,hj]
    refine walk ops.size (ycg ops.size af) a { J with w:={ J.w with drawn:=J.w.drawn+1}} (by simp[n]) ?_ ?_ to0 ok0 ?_ (.inl ⟨0,⟨Nat.zero_le _,λe _ _=> ?_⟩, ?_⟩)
    .exact vt
    .intro i o _ S;have hx':(ycg ops.size af).getD i af=ae:=S;rw[hfalse i]at hx';cases hx'
    .rw[vn (λj _=>hfalse j)];exact yM.to to0.leaf
    .show(ycg ops.size af).getD e af=ae↔e < 0;rw[hfalse e];simp
    .show J.H=HH 0;by_cases h0:0 < n
     .obtain⟨r,k1,_,_,_,_,k5,_⟩:=W 0 _ (ycm h0);rw[(F 0 r k1).1,k5 rfl]
     .have:ops.toList=[]:=ybh (by omega);simp only[HH,h0,if_false];exact(hnil this).symm
   .cases h
  .cases h
 .cases h
end
end Go.Ev
end
section
namespace Go.Ev
section
variable{P:yg}{o:yj}{a:Act}{J:Sg}{ts:yL Dv}{hs hs':yL ar}{C:yL Prop}{d:Dv}{H':yL aq}
theorem Zsp{t:yc}{parts:Array (Nat×yp)}{g:Array Field}{zs:yL Pl}{Q:yL Dv}(ok:Ok J)(yM:aB J ts a)(ho:o.op=.build t parts)(hu:P.underlying t=ab (.struct g))(hz:bf P t=.p (.agg zs))
 (Y:(lY (gL P ts (jv P t) parts.toList)&&g.size==zs.length&&(yn zs.length).all λi=>kg P g i (Pl.sizes (zs.take i)) ((zs.getD i default).size) ((zs.getD i default).isAgg))=ae)
 (j:iv (zs.map .p) (gL P ts (jv P t) parts.toList)=ab Q):YZ P o a J (.agg Q) J.H:=by
 have run:∀cells,P.built t (parts.map λq=>(q.1,a.eval q.2)).toList=ab cells->(execOp a.eval o).run P J.w=.ok (.value (.agg cells)) J.w:=λcells hv=>by
  have:=run_build (P:=P) J.w t (parts.map λq=>(q.1,a.eval q.2)) cells hv;simp[execOp,ho,this]
 .skip
  .simp only[yi,yT]at Y;obtain⟨⟨l,zW⟩,zU⟩:=Y;obtain⟨it,z,R,m,y⟩:=BI (J:=J) hz (by simp);obtain⟨cs,rfl,A⟩:=(ZZ rfl).1 y;simp only[yH,aA]at A
   have Z:∀i,i < g.size->∃f z,g[i]? =ab f/\zs[i]? =ab z/\f.offset=Pl.sizes (zs.take i)/\P.cellsOf f.type=z.size/\(P.info? f.type).isSome=ae:=by
    intro i B;have E:i < zs.length:=by omega
    have I:=yan.1 zU i (ybv.2 E);unfold kg at I;grind
   have F:=BJ (P:=P) g.toList (λf S=>by
    obtain⟨i,B,rfl⟩:=List.getElem_of_mem S;obtain⟨f,z,I,_,_,_,M⟩:=Z i (by simpa using B)
    have:g.toList[i]=f:=by
     grind
    rw[this];exact M)
   obtain⟨qs,T,hq2,U⟩:=uX (P:=P) yM (jv P t) parts.toList l;rw[<-T]at j
   obtain⟨h,W,hr,_⟩:=qR (J:=J) (place:=((g.toList.map λf=>(f.offset,P.cellsOf f.type)).toArray[·]?)) (sz:=zs.map Pl.size) (by
    intro i s B;rw[yak]at B;obtain⟨z,G,X⟩:=yv.1 B;have E:i < zs.length:=(yu.1 G).1;obtain⟨f,z',I,M,h3,h4,_⟩:=Z i (by omega);rw[G]at M;cases M;have:g.toList[i]? =ab f:=by simpa using I
    simp only[List.getElem?_toArray,yak,this,yae,h3,h4,X,pi,List.map_take]) qs (zs.map .p) Q cs (by simp[Dv.size,Function.comp_def]) (jx.2 A) U j
   have hb:P.built t (parts.map λq=>(q.1,a.eval q.2)).toList=ab h:=by
    unfold Program.built;rw[R,hu];simp only[m,F,Value.cells];simp_all
   exact Zk ok (run _ hb) ((ZZ rfl).2 ⟨_,rfl,by simp only[yH];exact hr⟩)
theorem vx(ok:Ok J)(yM:aB J ts a){t:yc}{x y:yp}{id off:Nat}{yQ:yL Nat}{dd sub new dd':Dv}{C1:yL Prop}{off':Nat}(ho:o.op=.store t x y)(hx:aC P ts 0 x=.aj id off yQ)
 (hH:J.H[id]? =ab (.var dd ae)) (hg:Z9 dd yQ hs=ab (C1,off',sub,hs')) (hc:aZ C1) (he:off'=off) (hn:aC P ts t y=new) (hp:WS new dd yQ hs=ab dd')
 (z:new.bG=ae) (hsz:new.size=sub.size) (ht:P.cellsOf t=new.size) (hi:(P.info? t).isSome=ae):YZ P o a J .ak (J.H.set id (.var dd' ae)):=by
 subst he;have l:=Zo (P:=P) yM 0 x;have E:=Zo (P:=P) yM t y;rw[hn]at E;rw[hx]at l;obtain⟨b,hm,hv,l⟩:=lc l;obtain⟨b',B,S,h1,h2,h3,h4⟩:=ok.dx id _ _ hH hm;cases h1;obtain⟨p1,p2,p3,h5,h6,h7,h8⟩:=lh yQ dd hs hs' C1 off' sub _ hg hc h3;have f:=V7 z E;obtain⟨h9,F⟩:=h8 new dd' _ hp hsz f;have G:(a.eval y).cells.toList.length=new.size:=X2 _ _ f;have T:p2.length=sub.size:=X2 _ _ h7;have U:(a.eval y).cells.toList.length=p2.length:=by rw[G,T,hsz]
 obtain⟨k1,k2⟩:=pn h5 U h4;rw[h6]at k1 k2
 have W:off'+(a.eval y).cells.toList.length<=B.size:=by
  have:=congrArg List.length h5;grind
 have I:∀u,u∈(a.eval y).cells.toList->u.oneCell'=ae:=qQ new _ z f;have M:=run_storeCells_at P b off' S (a.eval y).cells.toList 0 B J.w h2 (by simpa using W) I;simp only[Nat.add_zero]at M;let g:Array yh:=(B.toList.take off'++(a.eval y).cells.toList++B.toList.drop (off'+(a.eval y).cells.toList.length)).toArray;let J':Sg:={ J with m:=J.m.set id (ab b),H:=J.H.set id (.var dd' ae),w:=J.w.setRow b g};have zV:J'.w.heap[b]? =ab (.cells g S (0,0)):=setRow_heap J.w b B _ S _ h2;have Q:∀j,b≠j->J'.w.heap[j]? =J.w.heap[j]? :=λj hj=>setRow_other J.w b j _ (Ne.symm hj)
 obtain⟨to,X⟩:=Xy (J':=J') (mi:=ab b) (mi':=ab b) ok hH hm rfl rfl rfl rfl rfl rfl rfl (by simp[J'])
  (λj hj Y=>Q j (λhh=>Y (by rw[hh]))) (λb' o v _ Z _=>by cases Z) (λo _ Z=>by cases Z) (.inl rfl) (λ_=>⟨rfl,dd',ae,rfl⟩) (λ⟨d,st,h⟩=>by cases h)
  (λs e xs h=>by cases h) (λR=>⟨b,g,S,rfl,zV,by rw[F];show yH J' dd' (g.toList.take dd.size);rw[show g.toList.take dd.size=p1++((a.eval y).cells.toList++p3) from k1];exact Yb R dd' _ h9,by
    rw[F];show dd.size<=g.size;have:g.size=B.size:=k2;omega⟩)
 refine qW (J':=J') ?_ to X
 cases A:P.info? t with
 |none=>simp[A]at hi
 |some i=>
  have hs:(a.eval y).cells.size=i.size:=by
   rw[<-Array.length_toList,G, <-ht];simp[Program.cellsOf,A]
  simp only[execOp,ho,l,Instr.storeAt,Instr.sureAddr,storeVar,sizeOf,typeInfo,Sem.run_bind,run_program,Result.andThen_ok,A,Sem.run_pure,hs,ne_eq,not_true,if_false,M];rfl
theorem vy(ok:Ok J)(Y:aB J ts a){t e:yc}{i:TypeInfo}{len id:Nat}{parts:Array (Nat×yp)}{xs:yL Pl}(hid:J.H[id]? =ab .gone)(ho:o.op=.buildSlice t len parts)(hu:P.underlying t=ab (.slice e))
 (hi:P.info? e=ab i) (hz:cq i=ae) (I:i.size≠0) (hsz:len*i.size<=16777216) (hl:Wc P ts e (P.cellsOf e) len parts.toList=ab xs):
 YZ P o a J (.own id (ab ae) i.size xs) (J.H.set id (.log i.size e xs)):=by
 obtain⟨cells,Z,U,y,W,l⟩:=qU (P:=P) Y hu hi hz hsz hl
 have z:len<=maxLen:=by
  have:=Nat.le_mul_of_pos_right len (Nat.pos_of_ne_zero I);simp only[maxLen];omega
 have M:id < J.m.length:=by rw[ok.len];exact(yu.1 hid).1
 have F:J.m[id]? =ab J.m[id]:=yad M;let J':Sg:={ J with m:=J.m.set id (ab J.w.heap.size),H:=J.H.set id (.log i.size e xs),w:=J.w.alloc (.cells cells e)};have Q:J'.w.heap[J.w.heap.size]? =ab (.cells cells e (0,0)):=heap_alloc_new J.w _;have R:=World.grownBy_alloc J.w (.cells cells e) ad;have g:J'.m[id]? =ab (ab J.w.heap.size):=an F;have f:J'.H[id]? =ab (.log i.size e xs):=an hid;have S:cells.toList.take (xs.length*i.size)=cells.toList:=ycj (by rw[y, <-l];simp)
 obtain⟨to,A⟩:=Xy (J':=J') (mi:=J.m[id]) (mi':=ab J.w.heap.size) ok hid F rfl rfl rfl rfl rfl rfl rfl R.size
  (λj G _=>R.block j G (by simp)) (λb o v hb _ hc=>by
    have G:=ok.lt id b (by rw[F,hb]);rw[World.cell?_of_block (w:=J.w) (R.block b G (by simp))];exact hc) (λo he hu=>by
    have G:=ok.lt id _ (by rw[F, <-he]);omega) (.inr ⟨_,rfl,ym _,by simp[J']⟩) (λ⟨d,st,h⟩=>by cases h) (λ⟨d,st,h⟩=>by cases h) (λs e xs h=>by cases h)
  (λB=>.inr ⟨J.w.heap.size,cells,len,rfl,Q,l,by rw[y];exact ym _,z,W,by rw[S];exact aD B.cells _ _ U⟩)
  (λv s st e d h=>by cases h)
 refine ZS (J':=J') (qT ho Z) to A ?_;rw[Zj rfl];simp only[yH]
 refine⟨W,ab ⟨J.w.heap.size,0,ad⟩,len,by rw[y],by rw[y];exact ym _,z,kR rfl,λh=>(by cases h),λ_=>⟨J.w.heap.size,0,cells.toList,rfl,aD to.leaf.cells _ _ U,nH Q (λo' T=>⟨.inr (ok.new _ (ym _)),λE e' h1 X=> ?_⟩) (ycj (ym _))⟩,
  e,xs,f,ym _,λ_=>.inr ⟨_,cells,g,rfl,Q,l⟩⟩
 have:E=id:=A.inj E id _ h1 g;rw[this,f]at X;cases X;show o' < xs.length*i.size;rw[y, <-l];simpa using T
end
section
variable{P:yg}{ops:Array yj}
theorem ZH6{J:Sg}{a:Act}{ts:yL Dv}{id:Nat}(hm:P.follows .mixedOrders=ae)(ok:Ok J)(yM:aB J ts a)(D:Nat->Dv)(HX:(Nat->Bool)->yL aq)
 (hu:∀i j,i < ops.size->j < ops.size->aX ops.toList i≠ad->aX ops.toList i=aX ops.toList j->i=j) (A:kU ops.toList 0=ae) (h0:J.H=HX (λ_=>af))
 (step:∀(X:Nat->Bool)(i:Nat)(o:yj),ops[i]? =ab o->X i=af->(∀e,e∈o.after->Region.binds .any e=ae->X e.on=ae)->jf ops X->
   o.guard=ad/\∀(J':Sg)(R:Act),Ok J'->J'.H=HX X->aB J' (dH ops.size (aX ops.toList) D ts X) R->YZ P o R J' (D i) (HX (λj=>X j || decide (j=i))))
 (Q:Exit->Act->World->Prop) (hQ:∀X R J',(∀j,j < ops.size->X j=ae)->J'.H=HX X->To J J'->Ok J'->aB J' (dH ops.size (aX ops.toList) D ts X) R->Q .normal R J'.w):(Code.region id ops ae).wp P Q a J.w:=by
 let n:=ops.size;refine wp_region_any hm ?_
 have S:∀(yD:Nat)(f:Array Bool)(a:Act)(J1:Sg),f.size=n->gI (λj=>f.getD j af) n<=yD->jf ops (λj=>f.getD j af)->To J J1->Ok J1->
  aB J1 (dH n (aX ops.toList) D ts (λj=>f.getD j af)) a->J1.H=HX (λj=>f.getD j af)->wpAny P .any ops Q yD f a J1.w:=by
  intro yD
  induction yD with
  |zero=>
   intro f a J1 T U m y z g h;have zU:=vr (Nat.le_zero.1 U);refine⟨?_,hQ _ a J1 zU h y z g⟩;apply List.eq_nil_iff_forall_not_mem.2;intro j B;obtain⟨h1,o,M,_⟩:=mem_ready.1 B;have hjn:j < n:=(ycv.1 M).1;have h2:=zU j hjn;have W:j < f.size:=by omega
   simp only[Array.getD,W,dif_pos]at h1 h2;rw[h1]at h2
   cases h2
  |succ yD ih=>
   intro f a J1 T U m y z g h;refine⟨λhr=> ?_,λi hi=> ?_⟩
   .have zU:∀j,j < n->f.getD j af=ae:=by
     intro j
     induction j using Nat.strongRecOn with
     |_ j ihj=>
      intro B
      cases hx:f.getD j af with
      |true=>rfl
      |false=>
       have W:j < f.size:=by omega
       have hjo:ops[j]? =ab ops[j]:=ycm B
       have:j∈Region.ready .any ops f:=by
        refine mem_ready.2 ⟨?_,ops[j],hjo,λe he hb=> ?_⟩
        .grind
        .have hlt:=vv ops.toList 0 A j ops[j] (by simp) e he hb;grind
       rw[hr]at this;cases this
    exact hQ _ a J1 zU h y z g
   .obtain⟨h1,o,M,E⟩:=mem_ready.1 hi;have Z:i < n:=(ycv.1 M).1;have fH:i < f.size:=by omega
    let X:Nat->Bool:=λj=>f.getD j af
    have F:X i=af:=by
     grind
    have hgetset:∀j,(f.setIfInBounds i ae).getD j af=(X j || decide (j=i)):=by
     intro j;by_cases G:j=i
     .simp_all
     .simp only[X,ycw,ydc,G,decide_false,Bool.or_false];grind
    have hfun:(λj=>(f.setIfInBounds i ae).getD j af)=λj=>X j || decide (j=i):=funext hgetset;obtain⟨hg,hop⟩:=step X i o M F E m
    have key:o.wp P a J1.w (wpAny P .any ops Q yD (f.setIfInBounds i ae)) Q:=hop J1 a z h g _ _ λv J2 e1 to2 ok2 hd=>by
     have hrep2:=kp (o:=o) (g.to to2.leaf) hd;refine ih _ _ J2 (by simpa using T) ?_ ?_ (y.trans to2) ok2 ?_ ?_
     .have:=vu (Y:=λj=>(f.setIfInBounds i ae).getD j af) F Z (λj _=>hgetset j);grind
     .intro j o' B hx e he hb;show(f.setIfInBounds i ae).getD e.on af=ae;rw[hgetset];have I:(f.setIfInBounds i ae).getD j af=ae:=hx;rw[hgetset]at I;by_cases G:j=i
      .grind
      .simp only[G,decide_false,Bool.or_false]at I;have:X e.on=ae:=m j o' B I e he hb;rw[this];rfl
     .have hd:o.dst=aX ops.toList i:=by simp[aX,M]
      have hput:=vo (ts0:=ts) (D:=D) hu Z F (λj(_:j < n)=>hgetset j);grind
     grind
    show wpOp P ops Q i _ a J1.w;unfold wpOp;rw[M];have hw:Region.wanted o (yielded ops a.tmps)=ae:=by simp[Region.wanted,hg]
    simp only[hw,if_true];exact .inl key
 have hdr2:J.w.grownBy { J.w with drawn:=J.w.drawn+1} ad:=by
  exact⟨rfl,rfl,rfl,ym _,λ_ _ _=>rfl⟩
 obtain⟨to0,ok0⟩:=nB ok hdr2
 have l:∀j,(ycg ops.size af).getD j af=af:=by
  intro j;by_cases B:j < ops.size <;> simp[Array.getD,B]
 have hff:(λj=>(ycg ops.size af).getD j af)=λ_=>af:=funext l;refine S ops.size (ycg ops.size af) a { J with w:={ J.w with drawn:=J.w.drawn+1}} (by simp[n]) vt ?_ to0 ok0 ?_ ?_
 .intro i o _ hx;grind
 .rw[vn (λj _=>l j)];exact yM.to to0.leaf
 grind
def dg(N:Nat)(dst:Nat->yO Tmp)(D:Nat->Dv)(ts:yL Dv)(js is:yL Nat):yL Dv:=
 (yn N).map λs=>match js.find? (λj=>dst j==ab s) with
   |some j=>D j
   |none=>if is.contains s then ts.getD s .ak else .ak
theorem vz{J:Sg}{a:Act}{n:Nat}{dst:Nat->yO Tmp}{D:Nat->Dv}{ts:yL Dv}{X:Nat->Bool}{js is:yL Nat}(hu:∀i j,i < n->j < n->dst i≠ad->dst i=dst j->i=j)
 (z:∀j,j∈js->j < n/\X j=ae) (hi:∀s,s∈is->∀j,j < n->dst j≠ab s) (h:aB J (dH n dst D ts X) a):aB J (dg ts.length dst D ts js is) a:=by
 refine⟨by rw[h.size,X4];simp[dg],λs d l=> ?_,h.defers⟩;unfold dg at l;rw[yak]at l;obtain⟨I,F,g⟩:=yv.1 l;obtain⟨hs,rfl⟩:=yu.1 F;simp only[List.getElem_range]at g;have m:s < ts.length:=by simpa using hs
 have f:=h.at_ s _ (iA (n:=n) (dst:=dst) (D:=D) (X:=X) m);split at g
 .rename_i j A;have B:=List.mem_of_find?_eq_some A;have E:=List.find?_some A;simp only[yT]at E;rw[Qz hu (z j B).1 (z j B).2 E,g]at f
  exact f
 .split at g
  .rename_i G;rw[kq (λj y _=>hi s (by simpa using G) j y),g]at f
   exact f
  .rw[<-g];exact YG
theorem ZA5{J:Sg}(ok:Ok J):∀n,∃J',J'.w=J.w/\J'.H=J.H++yx n .gone/\To J J'/\Ok J'
 |0=>⟨J,rfl,by simp,To.refl J,ok⟩
 |n+1=>by
  obtain⟨J1,f,g,t1,h⟩:=ZA5 ok n;obtain⟨t2,j⟩:=CH h;exact⟨{ J1 with m:=J1.m++[ad],H:=J1.H++[.gone]},f,by show J1.H++[.gone]=_;rw[g,yab, <-List.replicate_succ'],t1.trans t2,j⟩
noncomputable def be(ops:Array yj)(i:Nat):yj:=ops.getD i default
def bS(o:yj)(j:Nat):Bool:=o.after.any λx=>x.on==j&&Region.binds .any x
theorem CI{ts:yL Dv}{H0 H':yL aq}{id k:Nat}(hm:P.follows .mixedOrders=ae)(D:Nat->Dv)(HX:(Nat->Bool)->yL aq)(f:Nat->yL Nat×yL Nat)
 (hu:∀i j,i < ops.size->j < ops.size->aX ops.toList i≠ad->aX ops.toList i=aX ops.toList j->i=j) (l:kU ops.toList 0=ae)
 (G:((yn ops.size).all λi=>(be ops i).guard.isNone&&((f i).1.all λj=>ag (j < ops.size)&&bS (be ops i) j)&&((f i).2.all λs=>(yn ops.size).all λj=> !(aX ops.toList j==ab s)))=ae)
 (W:HX (λ_=>af)=H0++yx k .gone) (hE:∀X,(∀j,j < ops.size->X j=ae)->HX X=H')
 (js is:yL Nat) (F:(js.all λj=>ag (j < ops.size))=ae) (hi:(is.all λs=>(yn ops.size).all λj=> !(aX ops.toList j==ab s))=ae)
 (step:∀i,i < ops.size->∀X:Nat->Bool,X i=af->(∀j,bS (be ops i) j=ae->X j=ae)->jf ops X->∀(J':Sg)(A:Act),Ok J'->J'.H=HX X->
   aB J' (dg ts.length (aX ops.toList) D ts (f i).1 (f i).2) A->YZ P (be ops i) A J' (D i) (HX (λj=>X j || decide (j=i)))):
 XZ P (.region id ops ae) ts H0 .normal (dg ts.length (aX ops.toList) D ts js is) H':=by
 intro J a Y Z yM;obtain⟨J1,e1,e2,t1,o1⟩:=ZA5 Y k;have m:=yM.to t1.leaf
 have g:(Code.region id ops ae).wp P (λe A w'=>e=.normal/\∃J',J'.w=w'/\J'.H=H'/\To J J'/\Ok J'/\aB J' (dg ts.length (aX ops.toList) D ts js is) A) a J1.w:=by
  refine ZH6 hm o1 m D HX hu l (by rw[e2,Z,W]) (λX i o ho I he hc=> ?_) _ (λX A J' I M to Q y=>⟨rfl,J',rfl,by rw[M];exact hE X I,t1.trans to,Q, ?_⟩)
  .have B:i < ops.size:=(ycv.1 ho).1
   have E:be ops i=o:=by
    unfold be;simp_all
   have U:=yan.1 G i (ybv.2 B);simp only[yi,E]at U;obtain⟨⟨g1,g2⟩,g3⟩:=U
   have R:∀j,bS o j=ae->X j=ae:=by
    intro j F;unfold bS at F;grind
   refine⟨by simpa using g1,λJ2 a2 S T z=> ?_⟩;have hst:=step i B X I (by rw[E];exact R) hc J2 a2 S T (vz hu (λj F=> ?_) (λs hs j F=> ?_) z)
   all_goals grind
  .refine vz hu (λj h=> ?_) (λs hs j h=> ?_) y
   all_goals grind
 rw[e1]at g;exact g
end
end Go.Ev
end
section
namespace Go.Ev
section
variable{P:yg}
theorem vA{J:Sg}{a:Act}:∀{mask:yL Nat}{ts:yL Dv},aB J ts a->aB J (qI ts mask) a
 |[],_,h=>h
 |i::r,ts,h=>by
  refine vA (mask:=r) ⟨by simpa using h.size,λj d f=> ?_,h.defers⟩;rw[yby]at f;split at f
  .split at f
   .cases f;exact YG
   .cases f
  .exact h.at_ j d f
theorem jB:∀(c:Code)(ts:yL Dv)(H:yL aq)(hs hs':yL ar)(C:yL Prop)(z:Ex)(ts':yL Dv)(H':yL aq),ev P c ts H hs=ab (C,z,ts',H',hs')->aZ C->XZ P c ts H z ts' H'
 |.skip,ts,H,hs,hs',C,z,ts',H',h,m=>by
  simp only[ev,yo,yq]at h;obtain⟨rfl,rfl,rfl,rfl,rfl⟩:=h
  exact λJ a g l f=>wp_skip ⟨rfl,J,rfl,l,To.refl J,g,f⟩
 |.label _,ts,H,hs,hs',C,z,ts',H',h,m=>by
  simp only[ev,yo,yq]at h;obtain⟨rfl,rfl,rfl,rfl,rfl⟩:=h
  exact λJ a g l f=>wp_label ⟨rfl,J,rfl,l,To.refl J,g,f⟩
 |.region id ops Y,ts,H,hs,hs',C,z,ts',H',h,m=>by
  cases Y with
  |true=>
   simp only[ev,if_true]at h;simp only[yv,yq]at h;obtain⟨⟨C1,G,H1,B⟩,I,rfl,rfl,rfl,rfl,rfl⟩:=h;intro J a g l f;subst l
   exact ZyZ g f I m _ λM J' Z to R E=>⟨rfl,J',rfl,Z,to,R,E⟩
  |false=>
   simp only[ev,Bool.false_eq_true,if_false]at h;simp only[yv,yq]at h;obtain⟨⟨C1,G,H1,B⟩,I,rfl,rfl,rfl,rfl,rfl⟩:=h;intro J a g l f;subst l;refine wp_region ?_
   have:=Zso (P:=P) (ops:=ops) (λe M X=>e=Ex.normal.to/\∃J',J'.w=X/\J'.H=H1/\To J J'/\Ok J'/\aB J' G M) ops.toList 0 ts J a hs B C1 H1 (λj=>by simp) g f I m
    (λM J' Z to R E=>⟨rfl,J',rfl,Z,to,R,E⟩)
   rw[List.range_eq_range']
   simpa using this
 |.seq x y,ts,H,hs,hs',C,z,ts',H',h,m=>by
  simp only[ev]at h;split at h
  .rename_i C1 G H1 B I;split at h
   .rename_i C2 ex2 ts2 H2 hs2 h2;simp only[yo,yq]at h;obtain⟨rfl,rfl,rfl,rfl,rfl⟩:=h;obtain⟨c1,c2⟩:=Zm.1 m;have F:=jB x _ _ _ _ _ _ _ _ I c1;have r2:=jB y _ _ _ _ _ _ _ _ h2 c2;intro J a g l f;refine wp_seq (wp_mono (F J a g l f) ?_);rintro e M X ⟨rfl,J1,rfl,Z,to1,ok1,S⟩;refine wp_mono (r2 J1 M ok1 Z S) ?_;rintro e a'' w'' ⟨rfl,J2,rfl,e2,to2,ok2,T⟩;exact⟨rfl,J2,rfl,e2,to1.trans to2,ok2,T⟩
   .cases h
  .rename_i r U;have F:=jB x _ _ _ _ _ _ _ _ h m;intro J a g l f;refine wp_seq (wp_mono (F J a g l f) ?_);rintro e M X ⟨rfl,Q⟩
   cases z with
   |normal=>exact absurd h (U _ _ _ _)
   |exit id=>exact⟨rfl,Q⟩
   |ret=>exact⟨rfl,Q⟩
 |.cond c x y,ts,H,hs,hs',C,z,ts',H',h,m=>by
  simp only[ev]at h;split at h
  .rename_i t B W;simp only[yv,yq]at h;obtain⟨⟨C1,r⟩,I,rfl,rfl⟩:=h;obtain⟨c0,c1⟩:=m;have F:=jB x _ _ _ _ _ _ _ _ I c1;intro J a g l f;have hv:=Zo (P:=P) f 0 c;rw[W]at hv;exact wp_cond_true (by rw[Yl hv,c0]) (F J a g l f)
  .rename_i t B W;simp only[yv,yq]at h;obtain⟨⟨C1,r⟩,I,rfl,rfl⟩:=h;obtain⟨c0,c1⟩:=m;have F:=jB y _ _ _ _ _ _ _ _ I c1;intro J a g l f;have hv:=Zo (P:=P) f 0 c;rw[W]at hv;exact wp_cond_false (by rw[Yl hv,c0]) (F J a g l f)
  .cases h
 |.block id A,ts,H,hs,hs',C,z,ts',H',h,m=>by
  simp only[ev]at h;split at h
  .rename_i C1 id' G H1 B I;simp only[yo,yq]at h;obtain⟨rfl,rfl,rfl,rfl,rfl⟩:=h;have F:=jB A _ _ _ _ _ _ _ _ I m;intro J a g l f;refine wp_block (wp_mono (F J a g l f) ?_);rintro e M X ⟨rfl,Q⟩;simp only[Ex.to,Exit.inBlock]
   all_goals grind
  .rename_i r U;have F:=jB A _ _ _ _ _ _ _ _ h m;intro J a g l f;refine wp_block (wp_mono (F J a g l f) ?_);rintro e M X ⟨rfl,Q⟩
   cases z with
   |normal=>exact⟨rfl,Q⟩
   |exit id'=>exact absurd h (U _ _ _ _ _)
   |ret=>exact⟨rfl,Q⟩
 |.loop A,ts,H,hs,hs',C,z,ts',H',h,m=>by
  simp only[ev]at h;split at h
  .rename_i mask ex1 G H1 B;split at h
   .cases h
   .simp only[yo,yq]at h;obtain⟨rfl,rfl,rfl,rfl,rfl⟩:=h;exact λJ a g l f=>m.1 J a g l (vA f)
  .cases h
 |.scope A,ts,H,hs,hs',C,z,ts',H',h,m=>by
  simp only[ev]at h;have F:=jB A _ _ _ _ _ _ _ _ h m;intro J a g l f;refine wp_scope_straight (wp_mono (F J a g l f) ?_);rintro e M X ⟨rfl,Q⟩
  cases z <;> exact⟨rfl,Q⟩
 |.exit id,ts,H,hs,hs',C,z,ts',H',h,m=>by
  simp only[ev,yo,yq]at h;obtain⟨rfl,rfl,rfl,rfl,rfl⟩:=h
  exact λJ a g l f=>wp_exit ⟨rfl,J,rfl,l,To.refl J,g,f⟩
 |.ret,ts,H,hs,hs',C,z,ts',H',h,m=>by
  simp only[ev,yo,yq]at h;obtain⟨rfl,rfl,rfl,rfl,rfl⟩:=h
  exact λJ a g l f=>wp_ret ⟨rfl,J,rfl,l,To.refl J,g,f⟩
 |.rangeFunc _ _ _ _,ts,H,hs,hs',C,z,ts',H',h,m=>by simp[ev]at h
 |.goto _,ts,H,hs,hs',C,z,ts',H',h,m=>by simp[ev]at h
 |.refuse _,ts,H,hs,hs',C,z,ts',H',h,m=>by simp[ev]at h
def pp(P:yg)(f:Code)(ts:yL Dv)(H:yL aq)(l:Ex)(ts':yL Dv)(H':yL aq):Prop:=
 ∀(J:Sg)(a:Act),Ok J->J.H=H->aB J ts a->∀(b:Frame)(k:yL Item)(g:yL Frame),
  ∃e h j,(e=l.to/\∃J',J'.w=j/\J'.H=H'/\To J J'/\Ok J'/\aB J' ts' h)/\Arrives P (lone (b.at a (.code f::.inLoop f::k)) g J.w) b k g e h j
theorem ZxD{f:Code}{ts ts':yL Dv}{H H':yL aq}{j:Ex}(l:j≠ .normal)(h:XZ P f ts H j ts' H'):pp P f ts H j ts' H':=by
 intro J a y z A b k B;obtain⟨e,E,w1,F,g⟩:=h J a y z A b (.inLoop f::k) B;obtain⟨G,m⟩:=F;subst G;refine⟨j.to,E,w1,⟨rfl,m⟩, ?_⟩
 cases j with
 |normal=>exact absurd rfl l
 |exit id=>exact .pass (x:=.inLoop f) rfl (λ_ _=>.inl (by simp[Ex.to])) g
 |ret=>exact .pass (x:=.inLoop f) rfl (λ_ _=>.inl (by simp[Ex.to])) g
theorem ZxE{f:Code}{ts ts1 ts':yL Dv}{H H1 H':yL aq}{m:Ex}(mask:yL Nat)(h1:XZ P f ts H .normal ts1 H1)(h2:pp P f (qI ts1 mask) H1 m ts' H'):pp P f ts H m ts' H':=by
 intro J a F G I b k E;obtain⟨e,M,w1,⟨rfl,J1,rfl,Q,y,z,g⟩,l⟩:=h1 J a F G I b (.inLoop f::k) E;obtain⟨e,R,w2,⟨rfl,J2,rfl,S,A,B,h⟩,j⟩:=h2 J1 M z Q (vA g) b k E;exact⟨m.to,R,J2.w,⟨rfl,J2,rfl,S,y.trans A,B,h⟩,.of_steps (Steps.trans l (.one step_inLoop)) j⟩
theorem ZxF{f:Code}{ts ts':yL Dv}{H H':yL aq}{j:Ex}(h:pp P f ts H j ts' H'):XZ P (.loop f) ts H j ts' H':=by
 intro J a l m y b k z;obtain⟨e,A,w1,B,g⟩:=h J a l m y b k z;exact⟨e,A,w1,B,.of_steps (.one step_loop) g⟩
def gr(J:Sg)(L:yL Nat)(H:yL aq):Sg:={ F:=J.F,B:=J.B,m:=L.map λid=>(J.m[id]?).getD ad,H:=H,w:=J.w}
theorem ZH7{J:Sg}{L:yL Nat}{H:yL aq}{j id:Nat}{x:yO Nat}(h:L[j]? =ab id)(hm:J.m[id]? =ab x):(gr J L H).m[j]? =ab x:=by
 show(L.map λid=>(J.m[id]?).getD ad)[j]? =ab x;grind
theorem nO{J:Sg}{L:yL Nat}{H:yL aq}{j b:Nat}(h:(gr J L H).m[j]? =ab (ab b)):∃id,L[j]? =ab id/\J.m[id]? =ab (ab b):=
 WT (J:=J) (ids:=L) (Hin:=H) h
theorem jC{J:Sg}{L:yL Nat}{H:yL aq}(hin:aN J.H L L=ab H):Rn (bg L) J (gr J L H) where
 w:=rfl
 bh b o v _ h:=by
  refine⟨h.1,λj e hj he=> ?_⟩;obtain⟨id,h1,h2⟩:=nO hj;obtain⟨e0,e',h3,h4,h5⟩:=Q9 hin h1;have he':H[j]? =ab e:=he;rw[h4]at he';cases he';exact(BP h5).2 (h.2 id e0 h2 h3)
 m id j hj x hx:=ZH7 (cv hj) hx
 H id j hj e he:=by
   obtain⟨e0,e',h3,h4,h5⟩:=Q9 hin (cv hj);rw[he]at h3;cases h3;exact⟨e',h4,h5⟩
theorem pq{J:Sg}(ok:Ok J){L:yL Nat}{H:yL aq}(ho:once L=ae)(hin:aN J.H L L=ab H):Ok (gr J L H) where
 len:=by
  show(L.map _).length=H.length;rw[yaa,Q8 hin]
 inj i j b hi hj:=by
  obtain⟨x,h1,h2⟩:=nO hi;obtain⟨y,h3,h4⟩:=nO hj;have:=ok.inj x y b h2 h4;subst this;exact ve ho i j x h1 h3
 lt i b hi:=by
  obtain⟨x,h1,h2⟩:=nO hi;exact ok.lt x b h2
 dx i e x he hx:=by
  have he':H[i]? =ab e:=he;have hi:i < L.length:=by rw[<-Q8 hin];exact(yu.1 he').1
  obtain⟨e0,e',h3,h4,h5⟩:=Q9 hin (yad hi);rw[he']at h4;cases h4
  have hm:∃y,J.m[L[i]]? =ab y:=by
   have:L[i] < J.m.length:=by rw[ok.len];exact(yu.1 h3).1
   grind
  obtain⟨y,hy⟩:=hm;have:=ZH7 (H:=H) (yad hi) hy;rw[hx]at this;cases this;exact BQ (jC hin) h5 (ok.dx _ _ _ h3 hy)
 new b hb:=ok.new b hb
 own i b hi:=by
  obtain⟨x,h1,h2⟩:=nO hi;exact ok.own x b h2
theorem pr{J J':Sg}(ok:Ok J)(to:To J J'){keep:yL Nat}{H:yL aq}(ho:once (yn J.H.length++keep)=ae)(z:aN J'.H (yn J.H.length++keep) (yn J.H.length++keep)=ab H):
 To J (gr J' (yn J.H.length++keep) H):=by
 have l:∀id,id < J.H.length->bg (yn J.H.length++keep) id=ab id:=λid h=>by
  refine cR ho ?_;grind
 have rn:=jC z;refine⟨⟨λb o v g j=> ?_,λid b g j=> ?_,λid s len A c g=> ?_,λid b g j=> ?_,λid v s st e d g=> ?_⟩,to.F,to.B,to.os,to.tape,to.output,to.size,λb g j=>to.block b g j,λid b h=> ?_, ?_⟩
 .obtain⟨h3,y⟩:=to.leaf.cells b o v g j;exact⟨h3,rn.bh b o v h3 y⟩
 .have f:id < J.H.length:=by rw[<-ok.len];exact(yu.1 g).1
  obtain⟨h3,y⟩:=to.leaf.var id b g j;exact⟨rn.m _ _ (l id f) _ h3,rn.var (l id f) y⟩
 .have f:id < J.H.length:=by
   obtain⟨e,Y,j,_⟩:=g;grind
  exact rn.front (l id f) (to.leaf.front _ _ _ _ _ g)
 .have f:id < J.H.length:=by rw[<-ok.len];exact(yu.1 g).1
  obtain⟨h3,y⟩:=to.leaf.map id b g j;exact⟨rn.m _ _ (l id f) _ h3,rn.map (l id f) y⟩
 .have f:id < J.H.length:=(yu.1 g).1;obtain⟨Q,E,Z,R,S,T⟩:=to.leaf.row _ _ _ _ _ _ g;obtain⟨d2,U⟩:=rn.row (l id f) R;refine⟨Q,E,d2,U,S,λW=> ?_⟩;obtain⟨X,G⟩:=T W;refine⟨?_,G⟩;have I:∃x,J.m[id]? =ab x:=⟨_,yad (by rw[ok.len];exact f)⟩;obtain⟨x,M⟩:=I;rw[M];exact rn.m _ _ (l id f) _ (by rw[X];exact M)
 .obtain⟨x,g,j⟩:=nO h;rcases to.same x b j with h3|h3
  .have f:x < J.H.length:=by rw[<-ok.len];exact(yu.1 h3).1
   have:=cR ho g;have y:=l x f;unfold bg at y;grind
  grind
 .show J.m.length<=((yn J.H.length++keep).map _).length;rw[ok.len];simp
def rx(tmps:Array yh):ResultVar->Sem yh
 |.tmp t=>pure (tmps.getD t undef)
 |.cell x t=>do loadVar t (<-asAddr (tmps.getD x undef))
theorem Zuv(fn:Func)(tmps:Array yh):results fn tmps=(do let vs <-fn.results.mapM (rx tmps);pure (if h:vs.size=1 then vs[0] else .tuple vs)):=by
 unfold results
 have:(λ(rv:ResultVar)=>(match rv with|.tmp t=>pure (tmps.getD t undef)|.cell a t=>do loadVar t (<-asAddr (tmps.getD a undef)):Sem yh))=rx tmps:=by
  funext rv;cases rv <;> rfl
 exact congrArg (λf=>(do let vs <-fn.results.mapM f;pure (if h:vs.size=1 then vs[0] else .tuple vs):Sem yh)) this
theorem vB{J:Sg}{a:Act}{ts:yL Dv}(ok:Ok J)(l:aB J ts a):∀(rs:yL ResultVar)(hs:yL ar)(C:yL Prop)(g:yL Dv),gp P ts J.H rs hs=ab (C,g)->aZ C->
 ∃vs,Sem.run P (rs.mapM (rx a.tmps)) J.w=Result.ok vs J.w/\aH J g vs
 |[],hs,C,g,h,_=>by
  simp only[gp,yo,yq]at h;obtain⟨rfl,rfl⟩:=h
  exact⟨[],by simp,by simp[aH]⟩
 |.tmp t::r,hs,C,g,h,m=>by
  simp only[gp,yv,yq]at h;obtain⟨⟨C1,f⟩,y,rfl,rfl⟩:=h;obtain⟨vs,z,A⟩:=vB ok l r hs C1 f y m;have Q:=Zo (P:=P) l 0 (.tmp t);refine⟨a.tmps.getD t undef::vs, ?_, ?_⟩
  .simp only[List.mapM_cons,rx,Sem.run_bind,Sem.run_pure,Result.andThen_ok,z]
  .simp only[aH]
   exact⟨_,_,rfl,Q,A⟩
 |.cell x t::r,hs,C,g,h,m=>by
  simp only[gp]at h;split at h
  .rename_i id off yQ R;split at h
   .rename_i dd st S;split at h
    .rename_i C1 I sub B T;split at h
     .rename_i E;simp only[yv,yq]at h;obtain⟨⟨C2,f⟩,y,rfl,rfl⟩:=h;obtain⟨F,U⟩:=Zm.1 m;obtain⟨F,W⟩:=Zm.1 F;obtain⟨vs,z,A⟩:=vB ok l r B C2 f y U;have M:=Zo (P:=P) l 0 (.tmp x);simp only[aC,R]at M;obtain⟨b,X,_,G⟩:=lc M;unfold fS at E;simp only[yi,yT]at E;obtain⟨⟨⟨Y,Z⟩,k3⟩,k4⟩:=E;obtain⟨cs,t',p1,p2,p3,_,_,_,_,h5,_,h6⟩:=vb ok X S T F W.1;obtain⟨v,h7,h8⟩:=uP (P:=P) h5 h6 Y k4 k3 Z;have j:a.tmps.getD x undef=.pointer (ab ⟨b,off,ad⟩):=G;refine⟨v::vs, ?_, ?_⟩
      .have ha:asAddr (a.tmps.getD x undef)=pure ⟨b,off,ad⟩:=by rw[j];rfl
       simp only[List.mapM_cons,rx,ha,Sem.run_bind,Sem.run_pure,Result.andThen_ok,h7,z]
      .simp only[aH];exact⟨_,_,rfl,h8,A⟩
     .cases h
    .cases h
   .cases h
  .cases h
theorem vC{J:Sg}{f:yL Dv}{vs:yL yh}(h:aH J f vs):yJ J (kV f) (if h:vs.toArray.size=1 then vs.toArray[0] else .tuple vs.toArray):=by
 have l:=uQ h;unfold kV;split
 .rename_i d;simp only[aH]at h;obtain⟨v,g,rfl,m,y⟩:=h;have:g=[]:=y;subst this;have e:(if h:[v].toArray.size=1 then[v].toArray[0] else Value.tuple [v].toArray)=v:=by simp
  rw[e];exact m
 .rename_i j
  have z:¬vs.toArray.size=1:=by
   intro hs;have A:f.length=1:=by rw[<-l];simpa using hs
   match f,A with
   |[d],_=>exact j d rfl
  rw[dif_neg z,Zj rfl];simp only[yH];grind
theorem ry{g:yr}{fn:Func}{c:Code}{args ts':yL Dv}{H H1 H':yL aq}{I:Ex}{r:Dv}{keep:yL Nat}{hs:yL ar}{C:yL Prop}(Z:P.funcs[g]? =ab fn)(hb:fn.body=ab c)
 (hr:XZ P c (args++yx (fn.ntmps - args.length) .ak) H I ts' H1) (Q:I=.ret\/I=.normal) (j:fin P fn ts' H1 H.length keep hs=ab (C,r,H')) (hc:aZ C):bZ P g args H r H':=by
 intro J vs T U B;refine calls_of_wp Z hb ?_;have hl:=uQ B
 have yM:aB J (args++yx (fn.ntmps - args.length) .ak) { tmps:=vs.toArray++ycg (fn.ntmps - vs.toArray.size) undef,defers:=[]}:=by
  refine⟨by simp[hl],λi d M=> ?_,rfl⟩;rcases Nat.lt_or_ge i args.length with h1|h1
  .rw[ybd h1]at M;obtain⟨v,h2,R⟩:=uR B M
   have h4:(vs.toArray++ycg (fn.ntmps - vs.toArray.size) undef)[i]? =ab v:=by
    grind
   simp_all
  .rw[yas h1]at M;have:=List.eq_of_mem_replicate (List.mem_of_getElem? M);rw[this];exact YG
 refine wp_mono (hr J _ T U yM) ?_;rintro e a W ⟨rfl,J',rfl,e1,to,E,y⟩;unfold fin at j;split at j
 .rename_i C1 X z;dsimp only at j
  have F:∀r,(kV X).rn (bg (yn H.length++keep))=ab r\/(kV (X.map Dv.arg)).rn (bg (yn H.length++keep))=ab r->once (yn H.length++keep)=ae->
   aN H1 (yn H.length++keep) (yn H.length++keep)=ab H'->aZ C1->a.defers=[]/\∃v,(results fn a.tmps).run P J'.w=.ok v J'.w/\
    ∃G J'',(Ending.returned v)=.returned G/\J''.w=J'.w/\J''.H=H'/\To J J''/\Ok J''/\yJ J'' r G:=by
   intro r hrn l f S;refine⟨y.defers, ?_⟩;rw[<-e1]at z f;obtain⟨m,h2,R⟩:=vB (P:=P) E y _ _ _ _ z S
   refine⟨if h:m.toArray.size=1 then m.toArray[0] else .tuple m.toArray, ?_,if h:m.toArray.size=1 then m.toArray[0] else .tuple m.toArray,
    gr J' (yn H.length++keep) H',rfl,rfl,rfl, ?_,pq E l f, ?_⟩
   .rw[Zuv,Sem.run_bind, <-Array.toArray_toList (xs:=fn.results),List.mapM_toArray];simp_all
   .rw[<-U]at l f ⊢;exact pr T to l f
   .rcases hrn with hrn|hrn
    .exact kZ (jC f) hrn (vC R)
    .refine kZ (jC f) hrn (vC ?_);exact TL R
  have A:bodyPost P fn (λe W=>∃v J'',e=.returned v/\J''.w=W/\J''.H=H'/\To J J''/\Ok J''/\yJ J'' r v) I.to a J'.w:=by
   have Y:a.defers=[]/\∃v,(results fn a.tmps).run P J'.w=.ok v J'.w/\∃G J'',(Ending.returned v)=.returned G/\J''.w=J'.w/\J''.H=H'/\To J J''/\Ok J''/\yJ J'' r G:=by
    split at j
    .rename_i ho hrn f;simp only[yo,yq]at j;obtain⟨rfl,rfl,rfl⟩:=j;exact F _ (.inl hrn) ho f hc
    all_goals simp_all
   rcases Q with rfl|rfl
   .exact Y
   .exact Y
  exact A
 .cases j
end
end Go.Ev
end
section
namespace Go.Ev
noncomputable def CJ(P:yg)(g:yr)(args:yL Dv)(H:yL aq)(hs:yL ar)(keep:yL Nat):yO (yL Prop×Dv×yL aq):=
 match P.funcs[g]? with
 |some fn=>match fn.body with
  |some c=>match ev P c (args++yx (fn.ntmps - args.length) .ak) H hs with
   |some (C,.ret,f,H1,hs')=>match fin P fn f H1 H.length keep hs' with
    |some (C2,r,H')=>ab (C++C2,r,H')
    |none=>ad
   |some (C,.normal,f,H1,hs')=>match fin P fn f H1 H.length keep hs' with
    |some (C2,r,H')=>ab (C++C2,r,H')
    |none=>ad
   |_=>ad
  |none=>ad
 |none=>ad
theorem ZGv{P:yg}{g:yr}{args:yL Dv}{H H':yL aq}{hs:yL ar}{keep:yL Nat}{C:yL Prop}{r:Dv}(h:CJ P g args H hs keep=ab (C,r,H'))(hc:aZ C):bZ P g args H r H':=by
 unfold CJ at h;split at h
 .rename_i fn z;split at h
  .rename_i c A;split at h
   .rename_i C1 l H1 hs' j;split at h
    .rename_i C2 B H2 f;simp only[yo,yq]at h;obtain⟨rfl,rfl,rfl⟩:=h;obtain⟨m,y⟩:=Zm.1 hc;exact ry z A (jB c _ _ _ _ _ _ _ _ j m) (.inl rfl) f y
    .cases h
   .rename_i C1 l H1 hs' j;split at h
    .rename_i C2 B H2 f;simp only[yo,yq]at h;obtain⟨rfl,rfl,rfl⟩:=h;obtain⟨m,y⟩:=Zm.1 hc;exact ry z A (jB c _ _ _ _ _ _ _ _ j m) (.inr rfl) f y
    .cases h
   .cases h
  .cases h
 .cases h
theorem Zuw{P:yg}{c:Code}{ts ts':yL Dv}{H H':yL aq}{f:Ex}{hs hs':yL ar}{C:yL Prop}(h:ev P c ts H hs=ab (C,f,ts',H',hs'))(hc:aZ C):XZ P c ts H f ts' H':=
 jB c _ _ _ _ _ _ _ _ h hc
def ZR:Code->yL Code
 |.seq a b=>ZR a++ZR b
 |.cond _ a b=>ZR a++ZR b
 |.block _ a=>ZR a
 |.scope a=>ZR a
 |.loop a=>.loop a::ZR a
 |_=>[]
def ZH8(P:yg)(g i:Nat):Code:=
 match P.funcs[g]? with
 |some fn=>match fn.body with
  |some c=>(ZR c).getD i .skip
  |none=>.skip
 |none=>.skip
def ZNs:Code->Code
 |.loop a=>a
 |c=>c
def iB(P:yg)(g i:Nat):Code:=ZNs (ZH8 P g i)
def u8(b:yB):Pl:=.int .u8 (b.toNat:Int)
theorem ZH9{P:yg}{g:yr}{args:yL Dv}{H H1 H':yL aq}{r r':Dv}(h:bZ P g args H r H1)(e:r=r')(f:H1=H'):bZ P g args H r' H':=by
 subst e;subst f;exact h
theorem ZNt{P:yg}{g:yr}{args:yL Dv}{H H1 H':yL aq}{r r':Dv}(hs:yL ar)(keep:yL Nat)(C:yL Prop)(h:CJ P g args H hs keep=ab (C,r,H1))(hc:aZ C)(e:r=r')(f:H1=H'):bZ P g args H r' H':=
 ZH9 (ZGv h hc) e f
end Go.Ev
namespace Go.Ev
theorem vD{f:Nat->yO Nat}{J J':Sg}(h:Rn f J J'){ts ts':yL Dv}{a:Act}(e:Dv.bB f ts=ab ts')(A:aB J ts a):aB J' ts' a:=by
 refine⟨by rw[BB e];exact A.size, ?_,A.defers⟩
 have B:∀(m z:yL Dv),Dv.bB f m=ab z->∀(i:Nat)(d:Dv),z[i]? =ab d->∃d0,m[i]? =ab d0/\d0.rn f=ab d:=by
  intro m
  induction m with
  |nil=>
   intro z g i d l;simp only[Dv.bB,yo]at g;subst g
   simp at l
  |cons x r E=>
   intro z g i d l;simp only[Dv.bB]at g;split at g
   .rename_i y F G I;cases g
    cases i with
    |zero=>simp only[yav,yo]at l ⊢;subst l;exact⟨x,rfl,G⟩
    |succ j=>simp only[yaq]at l ⊢;exact E _ I j d l
   .cases g
 intro i d M;obtain⟨d0,g,l⟩:=B ts ts' e i d M;exact kZ h l (A.at_ i d0 g)
theorem ZGw{P:yg}{f:Code}{ts ts1 j:yL Dv}{H H1 H2:yL aq}{y:Ex}(mask keep:yL Nat)(h1:XZ P f ts H y ts1 H1)
 (ho:once (yn H.length++keep)=ae) (g:aN H1 (yn H.length++keep) (yn H.length++keep)=ab H2)
 (e:Dv.bB (bg (yn H.length++keep)) (qI ts1 mask)=ab j):XZ P f ts H y j H2:=by
 intro J a z A B;subst A;refine wp_mono (h1 J a z rfl B) ?_;rintro F G I ⟨rfl,J1,rfl,E,l,m,h⟩;subst E;exact⟨rfl,gr J1 (yn J.H.length++keep) H2,rfl,rfl,pr z l ho g,pq m ho g,vD (jC g) e (vA (mask:=mask) h)⟩
end Go.Ev
namespace Go.Ev
theorem ZLc{P:yg}{g:yr}{args f:yL Dv}{H H0 H':yL aq}{r:Dv}(h:bZ P g f H0 r H')(ha:cQ args f)(hH:ca H H0):bZ P g args H r H':=by
 intro J vs z e A;subst e;obtain⟨to,j⟩:=lb z hH;refine Calls.mono (h { J with H:=H0} vs j rfl (ha.vs ?_)) ?_
 .have:=to.leaf;clear j h;have y:∀(l:yL Dv)(m:yL yh),aH J l m->aH { J with H:=H0} l m:=λl m q=>cS this l m q;exact y _ _ A
 .rintro e Q ⟨v,J',B,E,F,G,I,M⟩;exact⟨v,J',B,E,F,to.trans G,I,M⟩
theorem rz{P:yg}{g:yr}{args:yL Dv}{H H1 H':yL aq}{r r':Dv}(h:bZ P g args H r H1)(j:Wk r r')(hH:ca H1 H'):bZ P g args H r' H':=by
 intro J vs l e m;refine Calls.mono (h J vs l e m) ?_;rintro e G ⟨v,J',y,z,A,B,E,F⟩;subst A;obtain⟨to,f⟩:=lb E hH;exact⟨v,{ J' with H:=H'},y,z,rfl,B.trans to,f,j.dv (Qa to.leaf F)⟩
theorem ZxG{P:yg}{c:Code}{ts ts1 f:yL Dv}{H H1 H2:yL aq}{j:Ex}(h:XZ P c ts H j ts1 H1)(ht:cQ ts1 f)(hH:ca H1 H2):XZ P c ts H j f H2:=by
 intro J a l e m;refine wp_mono (h J a l e m) ?_;rintro F G I ⟨y,J',rfl,z,A,B,E⟩;subst z;obtain⟨to,g⟩:=lb B hH;exact⟨y,{ J' with H:=H2},rfl,rfl,A.trans to,g,ht.qO (E.to to.leaf)⟩
end Go.Ev
namespace Go.Ev
theorem ZEV{α β:Type}{f:α->β}(g:∀a b,f a=f b->a=b):∀{l m:yL α},l.map f=m.map f->l=m
 |[],[],_=>rfl
 |[],_::_,h=>by simp at h
 |_::_,[],h=>by simp at h
 |x::l,y::m,h=>by
  simp only[yag,List.cons.injEq]at h;rw[g _ _ h.1,ZEV g h.2]
instance(k:IntKind)(x:Int):Decidable (WW k x):=by unfold WW;exact inferInstance
theorem vE{P:yg}{R R':yc->Pl->Prop}(h:∀t x,R t x->R' t x):∀(g:yL Field)(o:Nat)(xs:yL Pl),iu P R g o xs->iu P R' g o xs
 |[],_,[],_=>trivial
 |[],_,_::_,k=>k.elim
 |_::_,_,[],k=>k.elim
 |f::g,o,y::j,k=>by
  obtain⟨l,m,z,A,B,E,F,G,I⟩:=k;exact⟨l,m,z,A,B,E,F,h _ _ G,vE h g _ j I⟩
theorem vF{P:yg}:∀{n:Nat}{t:yc}{x:Pl},bu P n t x->bu P (n+1) t x
 |0,t,x,h=>by simp[bu]at h
 |n+1,t,x,h=>by
  unfold bu at h ⊢;split at h
  .trivial
  .exact h
  .obtain⟨j,l,m,z,A,f⟩:=h;exact⟨j,l,m,z,A,λy g=>⟨vF (f y g).1,(f y g).2⟩⟩
  .exact⟨h.1,vE (λt x k=>vF k) _ _ _ h.2⟩
  .exact h.elim
theorem ZLd{P:yg}{g:yr}{s:Nat}{xs:yL Pl}{H H':yL aq}{r:Dv}{yK:yL Dv}(h1:bZ P g (.p (.sl (ab ae) s xs)::yK) H r H')(h2:xs=[]->bZ P g (.p (.sl (ab af) s [])::yK) H r H'):
 bZ P g (.p (.sl ad s xs)::yK) H r H':=by
 intro J vs l e m;simp only[aH]at m;obtain⟨v,I,rfl,M,f⟩:=m;obtain⟨y,A,c,rfl,z,B,R,E,F⟩:=WD M
 cases j:A with
 |none=>
  have Q:xs=[]:=by
   cases xs with
   |nil=>rfl
   |cons x r=>obtain⟨b,o,S,G,_⟩:=F (by simp);rw[j]at G;cases G
  subst Q;subst j;refine h2 rfl J _ l e ?_;simp only[aH]
  exact⟨_,_,rfl,YH y z B (RU rfl) E (λh=>absurd rfl h),f⟩
 |some a=>
  subst j;refine h1 J _ l e ?_;simp only[aH];exact⟨_,_,rfl,YH y z B (kR rfl) E F,f⟩
end Go.Ev
namespace Go.Ev
end Go.Ev
namespace Go.Ev
def st(n:Nat)(l:yL (Nat×Dv)):yL Dv:=(yn n).map λi=>(l.lookup i).getD .ak
inductive pu:List (Nat×Dv)->List (Nat×Dv)->Prop where
 |nil:pu [] []
 |cons {i:Nat} {d e:Dv} {l m:List (Nat×Dv)} (h:Wk d e) (k:pu l m):pu ((i,d)::l) ((i,e)::m)
theorem pu.look{l m:yL (Nat×Dv)}(h:pu l m)(i:Nat):Wk ((l.lookup i).getD .ak) ((m.lookup i).getD .ak):=by
 induction h with
 |nil=>exact Wk.refl _
 |cons h k f=>
  rename_i j d e l m;simp only[List.lookup_cons];split
  .exact h
  .exact f
theorem cQ.st{n:Nat}{l m:yL (Nat×Dv)}(h:pu l m):cQ (st n l) (st n m):=by
 unfold Go.Ev.st;generalize yn n=r
 induction r with
 |nil=>exact .nil
 |cons i r f=>exact .cons (h.look i) f
end Go.Ev
end
section
namespace Go.Ev
section
variable{K V:Type}[DecidableEq K]
def fU(f:K->Pl)(ev:V->Pl)(l:yL (K×V)):yL (Pl×Pl):=l.map λq=>(f q.1,ev q.2)
def hP:yL (K×V)->K->yO V
 |[],_=>ad
 |q::l,k=>if k=q.1 then ab q.2 else hP l k
def jg:yL (K×V)->K->V->yL (K×V)
 |[],k,v=>[(k,v)]
 |q::l,k,v=>if k=q.1 then(k,v)::l else q::jg l k v
theorem CK{f:K->Pl}{ev:V->Pl}(hi:∀x y,f x=f y↔x=y)(k:K):∀l:yL (K×V),V6 (fU f ev l) (f k) ((hP l k).map ev)
 |[]=>rfl
 |q::l=>by
  show V6 ((f q.1,ev q.2)::fU f ev l) (f k) _;unfold V6 hP;by_cases h:k=q.1
  .left;rw[yW h];exact⟨(hi _ _).2 h,rfl⟩
  .right;rw[yX h];exact⟨λg=>h ((hi _ _).1 g),CK hi k l⟩
theorem ZDk{f:K->Pl}{ev:V->Pl}(hi:∀x y,f x=f y↔x=y){k:K}{l:yL (K×V)}{v:V}(h:hP l k=ab v):V6 (fU f ev l) (f k) (ab (ev v)):=by
 have:=CK (ev:=ev) hi k l;rw[h]at this;exact this
theorem ZDl{f:K->Pl}{ev:V->Pl}(hi:∀x y,f x=f y↔x=y){k:K}{l:yL (K×V)}(h:(hP l k).isSome=af):V6 (fU f ev l) (f k) ad:=by
 have:=CK (ev:=ev) hi k l
 cases g:hP l k with
 |none=>rw[g]at this;exact this
 |some v=>rw[g]at h;cases h
theorem Zux{f:K->Pl}{ev:V->Pl}(hi:∀x y,f x=f y↔x=y)(k:K)(v:V):∀l:yL (K×V),gn (fU f ev l) (f k) (ev v) (fU f ev (jg l k v))
 |[]=>rfl
 |q::l=>by
  show gn ((f q.1,ev q.2)::fU f ev l) (f k) (ev v) _;unfold gn jg;by_cases h:k=q.1
  .left;rw[yW h];exact⟨(hi _ _).2 h,rfl⟩
  .right;rw[yX h];exact⟨λg=>h ((hi _ _).1 g),_,rfl,Zux hi k v l⟩
end
theorem CL{K V:Type}{P:yg}{f:yc}{g:K->Pl}{ev:V->Pl}(h:∀x,bu P 20 f (g x))(l:yL (K×V)):iZ P f (fU g ev l):=by
 intro q j;obtain⟨p,_,rfl⟩:=List.mem_map.1 j;exact h _
end Go.Ev
namespace Go.Ev
theorem ZA7{P:yg}{g:yr}{s:Nat}{e:yc}{H H':yL aq}{r:Dv}{yK:yL Dv}(h:bZ P g (.own H.length ad s []::yK) (H++[.log s e []]) r H'):
 bZ P g (.p (.sl (ab af) s [])::yK) H r H':=by
 intro J vs j A z;simp only[aH]at z;obtain⟨v,l,rfl,B,f⟩:=z;obtain rfl:=nI B;subst A;obtain⟨to,y⟩:=Vh (J':={ J with m:=J.m++[ad],H:=J.H++[.log s e []]}) j rfl rfl rfl rfl (World.grownBy.refl J.w ad) (.inl rfl) (λ_=>.inl ⟨rfl,rfl⟩);refine(h { J with m:=J.m++[ad],H:=J.H++[.log s e []]} (.slice ad 0 0::l) y rfl ?_).mono λS T⟨v,J',E,F,G,I,M,Q⟩=>⟨v,J',E,F,G,to.trans I,M,Q⟩;simp only[aH];refine⟨_,_,rfl,(Zj (d:=.own J.H.length ad s []) rfl).2 ?_,cS to.leaf _ _ f⟩;simp only[yH];refine⟨λ_ R=>(by cases R),ad,0,rfl,ym _,by simp[maxLen],Yk _,λ_=>rfl,λh=>absurd rfl h,e,[],by simp,ym _,λ_=>.inl ⟨?_,rfl,rfl⟩⟩;rw[yas (by rw[j.len];exact ym _),j.len];simp
end Go.Ev
namespace Go.Ev
end Go.Ev
end
section
namespace Go.Ev
inductive bT(H:List aq):Dv->Pl->Prop where
 |p (x:Pl):bT H (.p x) x
 |own (id:Nat) (nn:Option Bool) (s:Nat) (xs:List Pl):bT H (.own id nn s xs) (.sl nn s xs)
 |agg {ds:List Dv} {ys:List Pl} (hl:ds.length=ys.length) (h:∀(i:Nat)(d:Dv)(y:Pl),ds[i]? =ab d->ys[i]? =ab y->bT H d y):bT H (.agg ds) (.agg ys)
 |rC {id v s lo n N:Nat} {e:yc} {xs:List Pl} (hH:H[id]? =ab (.row v s af e (.p (.arr N s xs)))) (hle:lo+n<=N):bT H (.rv id v s lo n) (.sl ad s ((xs.drop lo).take n))
 |CM {id v s lo n N:Nat} {e:yc} {ds:List Dv} {ys:List Pl} (hH:H[id]? =ab (.row v s af e (.arr N s ds))) (hle:lo+n<=N) (hl:ds.length=ys.length)
   (h:∀(i:Nat)(d:Dv)(y:Pl),ds[i]? =ab d->ys[i]? =ab y->bT H d y):bT H (.rv id v s lo n) (.sl ad s ((ys.drop lo).take n))
 |vw {id s lo n N:Nat} {xs:List Pl} (hH:H[id]? =ab (.var (.p (.arr N s xs)) af)) (hle:lo+n<=N):bT H (.view id 0 [] s lo n) (.sl (ab ae) s ((xs.drop lo).take n))
 |wk {d:Dv} {x y:Pl} (h:bT H d x) (k:bF x y):bT H d y
theorem CN{J:Sg}:∀{g:yL Dv}{ys:yL Pl}{us:yL yh},g.length=ys.length->(∀(i:Nat)(d:Dv)(y:Pl),g[i]? =ab d->ys[i]? =ab y->∀vs,yH J d vs->aA J.w J.bh y vs)->aM J g us->au J.w J.bh ys us
 |[],[],us,_,_,h=>by simpa[aM,au] using h
 |[],_::_,_,f,_,_=>by simp at f
 |_::_,[],_,f,_,_=>by simp at f
 |d::g,y::ys,us,f,j,h=>by
  simp only[aM]at h;obtain⟨a,b,l,m,z⟩:=h;simp only[au];exact⟨a,b,l,j 0 d y rfl rfl a m,CN (by simpa using f) (λi d y A B=>j (i+1) d y (by simpa using A) (by simpa using B)) z⟩
theorem ZA8{J:Sg}(ok:Ok J){id v s lo n N:Nat}{e:yc}{dd:Dv}{xs:yL Pl}{u:yh}(U:yJ J (.rv id v s lo n) u)(hH:J.H[id]? =ab (.row v s af e dd))(hN:aS dd s=ab N)(W:lo+n<=N)
 (hd:∀us,yH J dd us->xs.length=N/\bc s xs/\au J.w J.bh xs us):yJ J (.p (.sl ad s ((xs.drop lo).take n))) u:=by
 obtain⟨A,c,rfl,h2,h3,h4,h5,v2,s2,st2,y,d2,h6,X,h8⟩:=ko U;rw[hH]at h6;cases h6;obtain⟨_,Y⟩:=h8 rfl;have l:id < J.m.length:=by rw[ok.len];exact(yu.1 hH).1
 have f:J.m[id]? =ab J.m[id]:=yad l;obtain⟨N',B,E⟩:=ok.dx id _ _ hH f;rw[hN]at B;cases B;by_cases hn:n=0
 .subst hn;have:=YH (J:=J) (nn:=ad) (s:=s) (xs:=[]) (A:=A) (c:=c) (λ_ U=>by cases U) (by simp) h3 (Yk _) h4 (λh=>absurd rfl h);simpa using this
 have hpos:0 < n:=Nat.pos_of_ne_zero hn;rcases Y with⟨_,_,T⟩|⟨b,F,G,k2,k3,k4⟩
 .omega
 rw[f]at G;rcases E with⟨I,_⟩|⟨b',cur',cap,I,M,g4,g5,g6,g7⟩
 .rw[I]at G;cases G
 rw[I]at G;cases G;rw[k2]at M;cases M;obtain⟨hxl,Q,X⟩:=hd _ g7
 have g:xs=xs.take lo++((xs.drop lo).take n++xs.drop (lo+n)):=by
  have Z:xs.drop (lo+n)=(xs.drop lo).drop n:=by rw[List.drop_drop]
  rw[Z,ybg,ybg]
 rw[g]at X;obtain⟨q1,q23,Z,r1,r23⟩:=Yd X;obtain⟨q2,q3,rfl,r2,r3⟩:=Yd r23;have R:bc s ((xs.drop lo).take n):=λz T=>Q z (List.mem_of_mem_drop (ybw T));have ly:((xs.drop lo).take n).length=n:=by rw[yac,List.length_drop,ybb (by omega)]
 have l1:q1.length=lo*s:=by rw[aO _ _ r1,aR (λz T=>Q z (ybw T)),yac,ybb (by omega)]
 have S:=YH (J:=J) (nn:=ad) (A:=A) (c:=c) R (by rw[ly];exact h2) h3 (Yk _) h4 (λ_=>by
  refine⟨b,lo*s,q2,k4 (by omega),r2,λj u hu=>⟨?_,.inr (ok.own id b (by rw[f,I])),λj' e' g1 M=> ?_⟩⟩
  .rw[cell_of_row J.w b _ F e (0,0) k2, <-ycl];have hj:j < q2.length:=(yu.1 hu).1
   have y:(F.toList.take (N*s))[lo*s+j]? =ab u:=by
    rw[Z,yas (by omega),l1,Nat.add_sub_cancel_left,ybd hj];exact hu
   rw[yct]at y;split at y
   .exact y
   .cases y
  .have:j'=id:=ok.inj j' id b g1 (by rw[f,I]);subst this;rw[hH]at M;cases M;refine⟨rfl,N,hN, ?_⟩;have hj:=(yu.1 hu).1;have l2:q2.length=n*s:=by rw[aO _ _ r2,aR R,ly]
   have Y:(lo+n)*s<=N*s:=Nat.mul_le_mul_right _ W;rw[l2]at hj;rw[Nat.add_mul]at Y;omega)
 rw[ly]at S;exact S
theorem ZIa{J:Sg}(ok:Ok J){id s lo n N:Nat}{xs:yL Pl}{u:yh}(hx:yJ J (.view id 0 [] s lo n) u)(hH:J.H[id]? =ab (.var (.p (.arr N s xs)) af))(hle:lo+n<=N):yJ J (.p (.sl (ab ae) s ((xs.drop lo).take n))) u:=by
 obtain⟨b,c,a,G,_,rfl,h2,h3,h4⟩:=nF hx;obtain⟨b',I,t',h5,h6,g,h8⟩:=ok.dx id _ _ hH G;cases h5;simp only[yH,aA]at g;obtain⟨hxl,l,g⟩:=g
 have f:xs=xs.take lo++((xs.drop lo).take n++xs.drop (lo+n)):=by
  have y:xs.drop (lo+n)=(xs.drop lo).drop n:=by rw[List.drop_drop]
  rw[y,ybg,ybg]
 rw[f]at g;obtain⟨W,q23,y,r1,M⟩:=Yd g;obtain⟨Q,q3,rfl,r2,r3⟩:=Yd M;have R:bc s ((xs.drop lo).take n):=λz S=>l z (List.mem_of_mem_drop (ybw S));have T:((xs.drop lo).take n).length=n:=by rw[yac,List.length_drop,ybb (by omega)]
 have l1:W.length=lo*s:=by rw[aO _ _ r1,aR (λz S=>l z (ybw S)),yac,ybb (by omega)]
 have B:=YH (J:=J) (nn:=ab ae) (A:=ab a) (c:=c) R (by rw[T];exact h2) h3 (kR rfl) (λh=>by cases h) (λU=>by
  have E:0 < n:=by
   rcases Nat.eq_zero_or_pos n with h0|h0
   .exact absurd (ybh (T.trans h0)) U
   .exact h0
  refine⟨b,0+lo*s,Q,by rw[h4 E],r2,λj u X=>⟨?_,.inr (ok.own id b G),λY e' g1 Z=> ?_⟩⟩
  .rw[cell_of_row J.w b _ I t' (0,0) h6, <-ycl];have hj:j < Q.length:=(yu.1 X).1
   have e3:∀m,I.toList.take m=W++(Q++q3)->(I.toList.take m)[lo*s+j]? =ab u:=λm y=>by
    rw[y,yas (by omega),l1,Nat.add_sub_cancel_left,ybd hj];exact X
   have F:=e3 _ y;rw[yct]at F;rw[Nat.zero_add];split at F
   .exact F
   .cases F
  .have:Y=id:=ok.inj Y id b g1 G;subst this;rw[hH]at Z;cases Z;rfl)
 rw[T]at B;exact B
theorem CO{J:Sg}(ok:Ok J){d:Dv}{x:Pl}(h:bT J.H d x):∀vs,yH J d vs->aA J.w J.bh x vs:=by
 induction h with
 |p x=>intro vs f;simpa[yH] using f
 |own id Y s Z=>
  intro vs f;have j:∃v,vs=[v]:=by simp only[yH]at f;obtain⟨_,A,c,rfl,_⟩:=f;exact⟨_,rfl⟩
  obtain⟨v,rfl⟩:=j;have:=pd ((Zj (by rfl)).2 f);rw[Zj (by rfl)]at this
  simpa[yH] using this
 |agg m h l=>
  intro vs f;simp only[yH]at f;simp only[aA]
  exact CN m l f
 |rC z g=>
  intro vs f;have j:∃v,vs=[v]:=by simp only[yH]at f;obtain⟨A,c,rfl,_⟩:=f;exact⟨_,rfl⟩
  obtain⟨v,rfl⟩:=j;have:=ZA8 ok ((Zj (by rfl)).2 f) z (by simp[aS]) g (λM h=>by simp only[yH,aA]at h;exact h);rw[Zj (by rfl)]at this
  simpa[yH] using this
 |CM z g m h l=>
  rename_i id v s lo n N e Q R;intro vs f;have j:∃v,vs=[v]:=by simp only[yH]at f;obtain⟨A,c,rfl,_⟩:=f;exact⟨_,rfl⟩
  obtain⟨v,rfl⟩:=j
  have:=ZA8 (xs:=R) ok ((Zj (by rfl)).2 f) z (by simp[aS]) g (λM h=>by
   simp only[yH]at h;obtain⟨S,T,F⟩:=h;refine⟨by rw[<-m];exact S, ?_,CN m l F⟩;intro y U;obtain⟨i,G⟩:=List.getElem?_of_mem U;have B:i < Q.length:=by rw[m];exact(yu.1 G).1
   have E:=yad B;obtain⟨a,b,c,e1,l1,I,_⟩:=mc F E;have W:=WV _ _ (l i _ y E G b I);have X:=X2 _ _ I;rw[<-W,X];exact T _ (List.mem_of_getElem? E))
  rw[Zj (by rfl)]at this
  simpa[yH] using this
 |vw z g=>
  intro vs f;have j:∃v,vs=[v]:=by simp only[yH]at f;obtain⟨b,c,a,_,_,rfl,_⟩:=f;exact⟨_,rfl⟩
  obtain⟨v,rfl⟩:=j;have:=ZIa ok ((Zj (by rfl)).2 f) z g;rw[Zj (by rfl)]at this
  simpa[yH] using this
 |wk h k l=>intro vs f;exact k.df _ _ _ (l vs f)
theorem ZLe{J:Sg}(ok:Ok J){d:Dv}{x:Pl}(h:bT J.H d x){v:yh}(j:yJ J d v):yJ J (.p x) v:=by
 have g:d.isAgg=x.isAgg:=by
  have f:∀{d:Dv}{x:Pl},bT J.H d x->d.isAgg=x.isAgg:=by
   intro d x h
   induction h with
   |p x=>rfl
   |own=>rfl
   |agg=>rfl
   |rC=>rfl
   |CM=>rfl
   |vw=>rfl
   |wk h k l=>rw[<-k.agg];exact l
  exact f h
 obtain⟨m,y⟩:=j;refine⟨λq=> ?_,λq=> ?_⟩
 .obtain⟨z,A,B⟩:=m (by rw[g];exact q);exact⟨z,A,by simp only[yH];exact CO ok h _ B⟩
 .simp only[yH];exact CO ok h _ (y (by rw[g];exact q))
inductive fN(H:List aq):Dv->Dv->Prop where
 |refl (d:Dv):fN H d d
 |deep {d:Dv} {x:Pl} (h:bT H d x):fN H d (.p x)
inductive fO(H:List aq):List Dv->List Dv->Prop where
 |nil:fO H [] []
 |cons {d e:Dv} {ds es:List Dv} (h:fN H d e) (k:fO H ds es):fO H (d::ds) (e::es)
theorem ZA9{J:Sg}(ok:Ok J){d e:Dv}(h:fN J.H d e){v:yh}(f:yJ J d v):yJ J e v:=by
 cases h with
 |refl=>exact f
 |deep h=>exact ZLe ok h f
theorem ZIb{J:Sg}(ok:Ok J){g es:yL Dv}(h:fO J.H g es):∀{vs:yL yh},aH J g vs->aH J es vs:=by
 induction h with
 |nil=>intro vs h;exact h
 |cons h k l=>
  intro vs j;simp only[aH]at j ⊢;obtain⟨v,f,m,y,z⟩:=j;exact⟨v,f,m,ZA9 ok h y,l z⟩
inductive hU(H:List aq):Dv->Dv->Prop where
 |one {d e:Dv} (h:fN H d e):hU H d e
 |bm {ds es:List Dv} (h:fO H ds es):hU H (.bm ds) (.bm es)
theorem ZIc{P:yg}{g:yr}{args:yL Dv}{H H1 H':yL aq}{r r':Dv}(h:bZ P g args H r H1)(hH:ca H1 H')(j:hU H' r r'):bZ P g args H r' H':=by
 intro J vs m e y;refine Calls.mono (h J vs m e y) ?_;rintro e R ⟨v,J',z,A,B,E,F,G⟩;subst B;obtain⟨to,f⟩:=lb F hH;have l:=Qa to.leaf G;refine⟨v,{ J' with H:=H'},z,A,rfl,E.trans to,f, ?_⟩
 cases j with
 |one j=>exact ZA9 f j l
 |bm j=>
  rw[Zj rfl]at l ⊢;simp only[yH]at l ⊢;obtain⟨I,M,Q⟩:=l;exact⟨I,M,ZIb f j Q⟩
inductive Ty where
 |int (k:IntKind)
 |u8|u32|u64
 |bool
 |str
 |sl (t:Ty)
 |arr (n:Nat) (t:Ty)
 |st (fs:List Ty)
 deriving Inhabited
mutual
def Ty.aT:Ty->Type
 |.int _=>Int
 |.u8=>yB
 |.u32=>yV
 |.u64=>yU
 |.bool=>Bool
 |.str=>ByteArray
 |.sl t=>yL (Ty.aT t)
 |.arr _ t=>yL (Ty.aT t)
 |.st f=>Ty.aK f
def Ty.aK:yL Ty->Type
 |[]=>Unit
 |[t]=>Ty.aT t
 |t::u::r=>Ty.aT t×Ty.aK (u::r)
end
mutual
def Ty.size:Ty->Nat
 |.arr n t=>n*Ty.size t
 |.st f=>Ty.sizes f
 |_=>1
def Ty.sizes:yL Ty->Nat
 |[]=>0
 |t::r=>Ty.size t+Ty.sizes r
end
mutual
def Ty.dec:(a b:Ty)->Decidable (a=b)
 |.int k,.int l=>if h:k=l then isTrue (by rw[h]) else isFalse (by intro e;cases e;exact h rfl)
 |.u8,.u8=>isTrue rfl
 |.u32,.u32=>isTrue rfl
 |.u64,.u64=>isTrue rfl
 |.bool,.bool=>isTrue rfl
 |.str,.str=>isTrue rfl
 |.sl t,.sl u=>match Ty.dec t u with
  |isTrue h=>isTrue (by rw[h])
  |isFalse h=>isFalse (by intro e;cases e;exact h rfl)
 |.arr n t,.arr m u=>if k:n=m then match Ty.dec t u with
  |isTrue h=>isTrue (by rw[h,k])
  |isFalse h=>isFalse (by intro e;cases e;exact h rfl) else isFalse (by intro e;cases e;exact k rfl)
 |.st f,.st g=>match Ty.rD f g with
  |isTrue h=>isTrue (by rw[h])
  |isFalse h=>isFalse (by intro e;cases e;exact h rfl)
 |.int _,.u8=>isFalse nofun
 |.int _,.u32=>isFalse nofun
 |.int _,.u64=>isFalse nofun
 |.int _,.bool=>isFalse nofun
 |.int _,.str=>isFalse nofun
 |.int _,.sl _=>isFalse nofun
 |.int _,.arr _ _=>isFalse nofun
 |.int _,.st _=>isFalse nofun
 |.u8,.int _=>isFalse nofun
 |.u8,.u32=>isFalse nofun
 |.u8,.u64=>isFalse nofun
 |.u8,.bool=>isFalse nofun
 |.u8,.str=>isFalse nofun
 |.u8,.sl _=>isFalse nofun
 |.u8,.arr _ _=>isFalse nofun
 |.u8,.st _=>isFalse nofun
 |.u32,.int _=>isFalse nofun
 |.u32,.u8=>isFalse nofun
 |.u32,.u64=>isFalse nofun
 |.u32,.bool=>isFalse nofun
 |.u32,.str=>isFalse nofun
 |.u32,.sl _=>isFalse nofun
 |.u32,.arr _ _=>isFalse nofun
 |.u32,.st _=>isFalse nofun
 |.u64,.int _=>isFalse nofun
 |.u64,.u8=>isFalse nofun
 |.u64,.u32=>isFalse nofun
 |.u64,.bool=>isFalse nofun
 |.u64,.str=>isFalse nofun
 |.u64,.sl _=>isFalse nofun
 |.u64,.arr _ _=>isFalse nofun
 |.u64,.st _=>isFalse nofun
 |.bool,.int _=>isFalse nofun
 |.bool,.u8=>isFalse nofun
 |.bool,.u32=>isFalse nofun
 |.bool,.u64=>isFalse nofun
 |.bool,.str=>isFalse nofun
 |.bool,.sl _=>isFalse nofun
 |.bool,.arr _ _=>isFalse nofun
 |.bool,.st _=>isFalse nofun
 |.str,.int _=>isFalse nofun
 |.str,.u8=>isFalse nofun
 |.str,.u32=>isFalse nofun
 |.str,.u64=>isFalse nofun
 |.str,.bool=>isFalse nofun
 |.str,.sl _=>isFalse nofun
 |.str,.arr _ _=>isFalse nofun
 |.str,.st _=>isFalse nofun
 |.sl _,.int _=>isFalse nofun
 |.sl _,.u8=>isFalse nofun
 |.sl _,.u32=>isFalse nofun
 |.sl _,.u64=>isFalse nofun
 |.sl _,.bool=>isFalse nofun
 |.sl _,.str=>isFalse nofun
 |.sl _,.arr _ _=>isFalse nofun
 |.sl _,.st _=>isFalse nofun
 |.arr _ _,.int _=>isFalse nofun
 |.arr _ _,.u8=>isFalse nofun
 |.arr _ _,.u32=>isFalse nofun
 |.arr _ _,.u64=>isFalse nofun
 |.arr _ _,.bool=>isFalse nofun
 |.arr _ _,.str=>isFalse nofun
 |.arr _ _,.sl _=>isFalse nofun
 |.arr _ _,.st _=>isFalse nofun
 |.st _,.int _=>isFalse nofun
 |.st _,.u8=>isFalse nofun
 |.st _,.u32=>isFalse nofun
 |.st _,.u64=>isFalse nofun
 |.st _,.bool=>isFalse nofun
 |.st _,.str=>isFalse nofun
 |.st _,.sl _=>isFalse nofun
 |.st _,.arr _ _=>isFalse nofun
def Ty.rD:(a b:yL Ty)->Decidable (a=b)
 |[],[]=>isTrue rfl
 |t::r,u::q=>match Ty.dec t u,Ty.rD r q with
  |isTrue h,isTrue k=>isTrue (by rw[h,k])
  |isFalse h,_=>isFalse (by intro e;cases e;exact h rfl)
  |_,isFalse h=>isFalse (by intro e;cases e;exact h rfl)
 |[],_::_=>isFalse nofun
 |_::_,[]=>isFalse nofun
end
instance:DecidableEq Ty:=Ty.dec
def Ty.cast(t u:Ty)(x:t.aT):yO u.aT:=
 match Ty.dec t u with
 |isTrue h=>ab (h ▸ x)
 |isFalse _=>ad
def Ty.bv(t u:Ty)(x:yL t.aT):yO (yL u.aT):=
 match Ty.dec t u with
 |isTrue h=>ab (h ▸ x)
 |isFalse _=>ad
theorem QG{t u:Ty}{x:t.aT}{y:u.aT}(h:Ty.cast t u x=ab y):∃e:t=u,y=e ▸ x:=by
 unfold Ty.cast at h;split at h
 all_goals grind
theorem ZF{t u:Ty}{x:yL t.aT}{y:yL u.aT}(h:Ty.bv t u x=ab y):∃e:t=u,y=e ▸ x:=by
 unfold Ty.bv at h;split at h
 all_goals grind
mutual
def Ty.enc:(t:Ty)->t.aT->Pl
 |.int k,n=>.int k n
 |.u8,b=>.int .u8 (b.toNat:Int)
 |.u32,b=>.int .u32 (b.toNat:Int)
 |.u64,b=>.int .u64 (b.toNat:Int)
 |.bool,b=>.bool b
 |.str,s=>.str s
 |.sl t,l=>.sl ad (Ty.size t) (List.map (Ty.enc t) l)
 |.arr n t,l=>.arr n (Ty.size t) (List.map (Ty.enc t) l)
 |.st f,x=>.agg (Ty.encs f x)
def Ty.encs:(f:yL Ty)->Ty.aK f->yL Pl
 |[],_=>[]
 |[t],x=>[Ty.enc t x]
 |t::u::r,x=>Ty.enc t x.1::Ty.encs (u::r) x.2
end
mutual
theorem px:∀(t:Ty)(x:t.aT),(t.enc x).size=t.size
 |.int _,_=>rfl
 |.u8,_=>rfl
 |.u32,_=>rfl
 |.u64,_=>rfl
 |.bool,_=>rfl
 |.str,_=>rfl
 |.sl _,_=>rfl
 |.arr _ _,_=>rfl
 |.st f,x=>by rw[Ty.enc,Pl.size,Ty.size];exact fe f x
theorem fe:∀(f:yL Ty)(x:Ty.aK f),Pl.sizes (Ty.encs f x)=Ty.sizes f
 |[],_=>rfl
 |[t],x=>by simp only[Ty.encs,Pl.sizes,Ty.sizes];rw[px t x]
 |t::u::r,x=>by rw[Ty.encs,Pl.sizes,Ty.sizes,px t x.1,fe (u::r) x.2]
end
mutual
theorem vG:∀(t:Ty)(x:t.aT),(t.enc x).soft=t.enc x
 |.int _,_=>rfl
 |.u8,_=>rfl
 |.u32,_=>rfl
 |.u64,_=>rfl
 |.bool,_=>rfl
 |.str,_=>rfl
 |.sl _,_=>rfl
 |.arr n t,x=>by
  have f:∀l:yL t.aT,Pl.soft (.arr n t.size (l.map t.enc))=.arr n t.size (l.map t.enc):=by
   intro l;rw[Pl.soft,Pl.cH,yaw];congr 1;exact List.map_congr_left λy _=>vG t y
  exact f x
 |.st g,x=>by rw[Ty.enc,Pl.soft,ff g x]
theorem ff:∀(f:yL Ty)(x:Ty.aK f),Pl.cN (Ty.encs f x)=Ty.encs f x
 |[],_=>rfl
 |[t],x=>by simp only[Ty.encs,Pl.cN];rw[vG t x]
 |t::u::r,x=>by rw[Ty.encs,Pl.cN,vG t x.1,ff (u::r) x.2]
end
theorem Ze{α β:Type}{f:α->β}{o:yO α}{y:β}(h:o.map f=ab y):∃x,o=ab x/\f x=y:=yv.1 h
def Ty.nP:(f:yL Ty)->Ty.aK f->Nat->yO (Σ t:Ty,t.aT)
 |[],_,_=>ad
 |[t],x,0=>ab ⟨t,x⟩
 |[_],_,_+1=>ad
 |t::_::_,x,0=>ab ⟨t,x.1⟩
 |_::u::r,x,i+1=>Ty.nP (u::r) x.2 i
def Ty.upd:(f:yL Ty)->Ty.aK f->Nat->(t:Ty)->t.aT->yO (Ty.aK f)
 |[],_,_,_,_=>ad
 |[t],_,0,u,y=>Ty.cast u t y
 |[_],_,_+1,_,_=>ad
 |t::v::r,x,0,u,y=>(Ty.cast u t y).map λz=>(z,x.2)
 |_::v::r,x,i+1,u,y=>(Ty.upd (v::r) x.2 i u y).map λz=>(x.1,z)
theorem ZBa:∀(f:yL Ty)(x:Ty.aK f)(i:Nat)(q:Σ t:Ty,t.aT),Ty.nP f x i=ab q->(Ty.encs f x)[i]? =ab (q.1.enc q.2)
 |[],_,_,_,h=>by cases h
 |[t],x,0,q,h=>by cases h;rfl
 |[_],_,_+1,_,h=>by cases h
 |t::_::_,x,0,q,h=>by cases h;rfl
 |t::u::r,x,i+1,q,h=>by
  rw[Ty.encs,yaq];exact ZBa (u::r) x.2 i q h
theorem ZEW:∀(f:yL Ty)(x:Ty.aK f)(i:Nat)(t:Ty)(y:t.aT)(z:Ty.aK f),Ty.upd f x i t y=ab z->Ty.encs f z=(Ty.encs f x).set i (t.enc y)
 |[],_,_,_,_,_,h=>by cases h
 |[t],x,0,u,y,z,h=>by
  obtain⟨e,rfl⟩:=QG h;subst e
  rfl
 |[_],_,_+1,_,_,_,h=>by cases h
 |t::v::r,x,0,u,y,z,h=>by
  obtain⟨w,g,j⟩:=Ze (α:=t.aT) (β:=t.aT×Ty.aK (v::r)) h;subst j;obtain⟨e,rfl⟩:=QG g;subst e
  rfl
 |t::v::r,x,i+1,u,y,z,h=>by
  obtain⟨w,g,j⟩:=Ze (α:=Ty.aK (v::r)) (β:=t.aT×Ty.aK (v::r)) h;subst j;show t.enc x.1::Ty.encs (v::r) w=(t.enc x.1::Ty.encs (v::r) x.2).set (i+1) (u.enc y);rw[List.set_cons_succ,ZEW (v::r) x.2 i u y w g]
inductive TP where
 |v (t:Ty) (x:t.aT)
 |sl (nn:Option Bool) (t:Ty) (xs:List t.aT)
 |agg (xs:List TP)
 |arr (n s:Nat) (xs:List TP)
 |lj (nn:Option Bool) (s:Nat) (xs:List TP)
 |cb|fn0|ew|cD
 |gG (f:yr)
 |iface (t:yc) (x:TP)
instance:Inhabited TP:=⟨.cb⟩
mutual
def TP.pe:TP->Pl
 |.v t x=>t.enc x
 |.sl h t g=>.sl h t.size (g.map t.enc)
 |.agg g=>.agg (TP.cj g)
 |.arr n s g=>.arr n s (TP.cj g)
 |.lj h s g=>.sl h s (TP.cj g)
 |.cb=>.cb
 |.fn0=>.fn0
 |.ew=>.ew
 |.cD=>.cD
 |.gG f=>.gG f
 |.iface t x=>.iface t (TP.pe x)
def TP.cj:yL TP->yL Pl
 |[]=>[]
 |x::r=>x.pe::TP.cj r
end
theorem VL:∀(xs:yL TP),TP.cj xs=xs.map TP.pe
 |[]=>rfl
 |x::r=>by rw[TP.cj,VL r];rfl
def Ty.eQ:(f:yL Ty)->Ty.aK f->yL TP
 |[],_=>[]
 |[t],x=>[.v t x]
 |t::u::r,x=>.v t x.1::Ty.eQ (u::r) x.2
theorem vH:∀(f:yL Ty)(x:Ty.aK f),TP.cj (Ty.eQ f x)=Ty.encs f x
 |[],_=>rfl
 |[t],x=>rfl
 |t::u::r,x=>by
  show t.enc x.1::TP.cj (Ty.eQ (u::r) x.2)=t.enc x.1::Ty.encs (u::r) x.2;rw[vH (u::r) x.2]
def TP.parts:TP->yO (yL TP)
 |.v (.st f) x=>ab (Ty.eQ f x)
 |.agg l=>ab l
 |_=>ad
theorem CP{x:TP}{l:yL TP}(h:x.parts=ab l):x.pe=.agg (TP.cj l):=by
 cases x with
 |v t a=>
  cases t with
  |st f=>
   cases (show ab (Ty.eQ f a)=ab l from h)
   exact congrArg Pl.agg (vH f a).symm
  |_=>cases h
 |agg g=>cases h;rfl
 |_=>cases h
def WX:yL Nat->TP->TP
 |[],x=>match x with
  |.v (.sl t) _=>.sl (ab af) t []
  |x=>x
 |i::r,x=>match x.parts with
  |some l=>match l[i]? with
   |some z=>.agg (l.set i (WX r z))
   |none=>x
  |none=>x
inductive cg where
 |fV (i o:Nat)
 |ix (i s:Nat)
def cg.i:cg->Nat
 |.fV i _=>i
 |.ix i _=>i
def cg.o:cg->Nat
 |.fV _ o=>o
 |.ix i s=>i*s
def WY:yL cg->Nat
 |l=>l.foldl (λn q=>n+q.o) 0
inductive TD where
 |p (x:TP)
 |elem (x:TP)
 |aj (id:Nat) (yQ:List cg)
 |own (id:Nat) (nn:Option Bool) (t:Ty) (c:Option (List t.aT))
 |view (id:Nat) (yQ:List cg) (s lo n:Nat)
 |agg (xs:List TD)
 |arr (n s:Nat) (xs:List TD)
 |fn (f:yr) (cap:List TD)
 |iface (t:yc) (x:TD)
 |bm (xs:List TD)
 |mp (id:Nat)
 |rv (id v s lo n:Nat)
 |ba (id v:Nat) (yQ:List cg)
 |rw(id:Nat)
 |rp (id:Nat) (yQ:List cg)
 |ak
instance:Inhabited TD:=⟨.ak⟩
abbrev Lk:=Nat->yO (Σ t:Ty,yL t.aT)
def Yc(L:Lk)(id:Nat)(t:Ty):yO (yL t.aT)->yL t.aT
 |some f=>f
 |none=>match L id with
  |some q=>(Ty.bv q.1 t q.2).getD []
  |none=>[]
abbrev _root_.aQf:Go.Ev.Ty:=.sl (.st [])
def ez(L:Lk)(id k:Nat):Nat:=(((Yc L id aQf ad)[k]?).getD []).length
mutual
def TD.er(L:Lk):TD->Dv
 |.p x=>.p x.pe
 |.elem x=>.elem x.pe
 |.aj id g=>.aj id (WY g) (g.map cg.i)
 |.own id l t c=>.own id l t.size ((Yc L id t c).map t.enc)
 |.view id g s lo n=>.view id (WY g) (g.map cg.i) s lo n
 |.agg h=>.agg (TD.aE L h)
 |.arr n s h=>.arr n s (TD.aE L h)
 |.fn f j=>.fn f (TD.aE L j)
 |.iface t x=>.iface t (TD.er L x)
 |.bm h=>.bm (TD.aE L h)
 |.mp id=>.mp id
 |.rv id v s lo n=>.rv id v s lo n
 |.ba id v g=>.ba id v (WY g) (g.map cg.i)
 |.rw id=>.rv id (ez L id 0) (ez L id 1) 0 (ez L id 2)
 |.rp id g=>.ba id (ez L id 0) (WY g) (g.map cg.i)
 |.ak=>.ak
def TD.aE(L:Lk):yL TD->yL Dv
 |[]=>[]
 |x::r=>x.er L::TD.aE L r
end
theorem ZI{L:Lk}:∀(xs:yL TD),TD.aE L xs=xs.map (TD.er L)
 |[]=>rfl
 |x::r=>by rw[TD.aE,ZI r];rfl
inductive ai where
 |var (d:TD) (st:Bool)
 |log (t:Ty) (e:yc) (xs:List t.aT)
 |map (tid:yc) (k v:Ty) (l:List (k.aT×v.aT))
 |row (v s:Nat) (st:Bool) (e:yc) (d:TD)
 |aV (t:Ty) (v:List Unit) (st:Bool) (e:yc) (xs:List t.aT)
 |aS (t:Ty) (np:List Nat) (v:List Unit) (st:Bool) (e:yc) (pre post:List t.aT)
 |bK (t:Ty) (np:List Nat) (v:List Unit) (st:Bool) (e:yc) (pre:List t.aT) (mid:TD) (post:List t.aT)
 |gone
instance:Inhabited ai:=⟨.gone⟩
def ai.er(L:Lk):ai->aq
 |.var d st=>.var (d.er L) st
 |.log t e h=>.log t.size e (h.map t.enc)
 |.map j k v l=>.map j (fU k.enc v.enc l)
 |.row v s st e d=>.row v s st e (d.er L)
 |.aV t v st e h=>.row v.length t.size st e (.p (.arr h.length t.size (h.map t.enc)))
 |.aS t m v st e g f=>.row v.length t.size st e (.p (.arr (g.length+f.length) t.size (g.map t.enc++f.map λx=>(WX m (.v t x)).pe)))
 |.bK t m v st e g y f=>.row v.length t.size st e (.arr (g.length+(f.length+1)) t.size ((g.map λx=>.p (t.enc x))++y.er L::f.map λx=>.p (WX m (.v t x)).pe))
 |.gone=>.gone
abbrev _root_.aQh:=yL Unit
def dS:yO ai->yO (Σ t:Ty,yL t.aT)
 |some (.log t _ h)=>ab ⟨t,h⟩
 |some (.aV t v _ _ h)=>ab ⟨.sl (.st []),([v,yx t.size (),yx h.length ()]:yL aQh)⟩
 |some (.aS t _ v _ _ g f)=>ab ⟨.sl (.st []),([v,yx t.size (),yx (g.length+f.length) ()]:yL aQh)⟩
 |some (.bK t _ v _ _ g _ f)=>ab ⟨.sl (.st []),([v,yx t.size (),yx (g.length+(f.length+1)) ()]:yL aQh)⟩
 |_=>ad
def lk(H:yL ai):Lk:=λid=>dS (H[id]?)
def aG(H:yL ai):yL aq:=H.map (ai.er (lk H))
theorem Z6{H:yL ai}{i:Nat}{e:ai}(h:H[i]? =ab e):(aG H)[i]? =ab (e.er (lk H)):=by rw[aG,yak,h];rfl
theorem ll{L:Lk}{ts:yL TD}{i:Nat}{d:TD}(h:ts[i]? =ab d):(TD.aE L ts)[i]? =ab (d.er L):=by rw[ZI,yak,h];rfl
theorem ZV(H:yL ai):(aG H).length=H.length:=yaa ..
theorem CQ{L:Lk}(H:yL TD):(TD.aE L H).length=H.length:=by rw[ZI];exact yaa ..
def kz{α β:Type}:yO α->yO β->yO (α×β)
 |some a,ab b=>ab (a,b)
 |_,_=>ad
theorem mr{α β:Type}{a:yO α}{b:yO β}{q:α×β}(h:kz a b=ab q):a=ab q.1/\b=ab q.2:=by
 cases a with
 |none=>cases h
 |some x=>cases b with
  |none=>cases h
  |some y=>cases h;exact⟨rfl,rfl⟩
def rE(nn:Bool)(t:Ty)(xs:yL t.aT):(u:Ty)->yO u.aT
 |.sl u=>if nn then Ty.bv t u xs else ad
 |_=>ad
def rF(f:(g:yL Ty)->yO (Ty.aK g)):(u:Ty)->yO u.aT
 |.st g=>f g
 |_=>ad
def vI(n s:Nat)(f:(t:Ty)->yO (yL t.aT)):(u:Ty)->yO u.aT
 |.arr m t=>if n=m/\s=t.size then f t else ad
 |_=>ad
def vJ:(f:yL Ty)->yO (Ty.aK f)
 |[]=>ab ()
 |_=>ad
def rG(f:(t:Ty)->yO t.aT)(h:Bool)(g:(j:yL Ty)->yO (Ty.aK j)):(j:yL Ty)->yO (Ty.aK j)
 |[]=>ad
 |[t]=>if h then f t else ad
 |t::u::q=>kz (f t) (g (u::q))
mutual
def TP.to(ok:yO Bool->Bool):TP->(t:Ty)->yO t.aT
 |.v t x=>λu=>Ty.cast t u x
 |.sl g t f=>rE (ok g) t f
 |.agg f=>rF (TP.jh ok f)
 |.arr n s f=>vI n s (TP.lm ok f)
 |.lj _ _ _=>λ_=>ad
 |.cb=>λ_=>ad
 |.fn0=>λ_=>ad
 |.ew=>λ_=>ad
 |.cD=>λ_=>ad
 |.gG _=>λ_=>ad
 |.iface _ _=>λ_=>ad
def TP.jh(ok:yO Bool->Bool):yL TP->(f:yL Ty)->yO (Ty.aK f)
 |[]=>vJ
 |x::r=>rG (TP.to ok x) r.isEmpty (TP.jh ok r)
def TP.lm(ok:yO Bool->Bool):yL TP->(t:Ty)->yO (yL t.aT)
 |[]=>λ_=>ab []
 |x::r=>λt=>(kz (TP.to ok x t) (TP.lm ok r t)).map λq=>q.1::q.2
end
def lr:yO Bool->Bool:=λ_=>ae
def fW:yO Bool->Bool:=Option.isNone
theorem vK(t:Ty)(l:yL t.aT):(Ty.sl t).enc l=.sl ad t.size (l.map t.enc):=rfl
theorem CR(n:Nat)(t:Ty)(l:yL t.aT):(Ty.arr n t).enc l=.arr n t.size (l.map t.enc):=rfl
theorem CS{b:Bool}{nn:yO Bool}{t u:Ty}{xs:yL t.aT}{y:u.aT}(h:rE b t xs u=ab y):∃l:yL t.aT,b=ae/\u.enc y=.sl ad t.size (l.map t.enc)/\l=xs:=by
 cases u with
 |sl u=>
  have f:(if b then Ty.bv t u xs else ad)=ab y:=h
  split at f
  .rename_i g;obtain⟨e,j⟩:=ZF f;subst e;subst j;exact⟨y,g,rfl,rfl⟩
  .cases f
 |_=>cases h
theorem CT{f:(g:yL Ty)->yO (Ty.aK g)}{u:Ty}{y:u.aT}(h:rF f u=ab y):∃(g:yL Ty)(z:Ty.aK g),f g=ab z/\u.enc y=.agg (Ty.encs g z):=by
 cases u with
 |st g=>exact⟨g,y,h,rfl⟩
 |_=>cases h
theorem ZuB{n s:Nat}{f:(t:Ty)->yO (yL t.aT)}{u:Ty}{y:u.aT}(h:vI n s f u=ab y):∃(t:Ty)(l:yL t.aT),f t=ab l/\u.enc y=.arr n s (l.map t.enc):=by
 cases u with
 |arr m t=>
  have g:(if n=m/\s=t.size then f t else ad)=ab y:=h
  split at g
  .rename_i e;obtain⟨rfl,rfl⟩:=e;exact⟨t,y,g,rfl⟩
  .cases g
 |_=>cases h
theorem ZuC{f:yL Ty}{y:Ty.aK f}(h:vJ f=ab y):Ty.encs f y=[]:=by
 cases f with
 |nil=>rfl
 |cons _ _=>cases h
theorem Zsq{f:(t:Ty)->yO t.aT}{b:Bool}{g:(j:yL Ty)->yO (Ty.aK j)}{j:yL Ty}{y:Ty.aK j}(h:rG f b g j=ab y):
 ∃(t:Ty)(x:t.aT)(l:yL Pl),f t=ab x/\Ty.encs j y=t.enc x::l/\((b=ae/\l=[])\/∃(gs:yL Ty)(z:Ty.aK gs),g gs=ab z/\l=Ty.encs gs z):=by
 match j,y,h with
 |[],_,h=>cases h
 |[t],y,h=>
  have m:(if b then f t else ad)=ab y:=h
  split at m
  .rename_i A;exact⟨t,y,[],m,rfl,.inl ⟨A,rfl⟩⟩
  .cases m
 |t::u::q,y,h=>
  obtain⟨B,E⟩:=mr (α:=t.aT) (β:=Ty.aK (u::q)) h;exact⟨t,y.1,_,B,rfl,.inr ⟨u::q,y.2,E,rfl⟩⟩
mutual
theorem nQ{ok:yO Bool->Bool}:∀(x:TP)(t:Ty)(y:t.aT),TP.to ok x t=ab y->x.pe.soft=t.enc y
 |.v t x,u,y,h=>by
  obtain⟨e,rfl⟩:=QG (show Ty.cast t u x=ab y from h)
  subst e
  exact vG t x
 |.sl m t f,u,y,h=>by
  obtain⟨l,_,g,A⟩:=CS (nn:=m) (show rE (ok m) t f u=ab y from h)
  rw[g,A]
  rfl
 |.agg f,u,y,h=>by
  obtain⟨B,z,j,g⟩:=CT (show rF (TP.jh ok f) u=ab y from h)
  rw[g];show Pl.agg (Pl.cN (TP.cj f))=_
  rw[gu f B z j]
 |.arr n s f,u,y,h=>by
  obtain⟨t,l,j,g⟩:=ZuB (show vI n s (TP.lm ok f) u=ab y from h)
  rw[g];show Pl.arr n s (Pl.cN (TP.cj f))=_
  rw[gv f t l j]
 |.lj _ _ _,_,_,h=>nomatch (show ad=ab _ from h)
 |.cb,_,_,h=>nomatch (show ad=ab _ from h)
 |.fn0,_,_,h=>nomatch (show ad=ab _ from h)
 |.ew,_,_,h=>nomatch (show ad=ab _ from h)
 |.cD,_,_,h=>nomatch (show ad=ab _ from h)
 |.gG _,_,_,h=>nomatch (show ad=ab _ from h)
 |.iface _ _,_,_,h=>nomatch (show ad=ab _ from h)
theorem gu{ok:yO Bool->Bool}:∀(xs:yL TP)(f:yL Ty)(y:Ty.aK f),TP.jh ok xs f=ab y->Pl.cN (TP.cj xs)=Ty.encs f y
 |[],f,y,h=>(ZuC (show vJ f=ab y from h)).symm
 |x::r,f,y,h=>by
  obtain⟨t,a,l,j,m,A⟩:=Zsq (show rG (TP.to ok x) r.isEmpty (TP.jh ok r) f=ab y from h)
  rw[m];show x.pe.soft::Pl.cN (TP.cj r)=_;rw[nQ x t a j];rcases A with⟨g,rfl⟩|⟨B,z,g,rfl⟩
  .cases r with
   |nil=>rfl
   |cons _ _=>cases g
  .rw[gu r B z g]
theorem gv{ok:yO Bool->Bool}:∀(xs:yL TP)(t:Ty)(y:yL t.aT),TP.lm ok xs t=ab y->Pl.cN (TP.cj xs)=y.map t.enc
 |[],_,y,h=>by
  cases (show ab []=ab y from h)
  rfl
 |x::r,t,y,h=>by
  obtain⟨q,f,rfl⟩:=Ze (show(kz (TP.to ok x t) (TP.lm ok r t)).map (λq=>q.1::q.2)=ab y from h)
  obtain⟨g,j⟩:=mr f;show x.pe.soft::Pl.cN (TP.cj r)=_;rw[nQ x t q.1 g,gv r t q.2 j,yag]
end
theorem vL{ok:yO Bool->Bool}{x:TP}{t:Ty}{y:t.aT}(h:TP.to ok x t=ab y):bF x.pe (t.enc y):=nQ x t y h ▸ md x.pe
mutual
theorem vM:∀(x:TP)(t:Ty)(y:t.aT),TP.to fW x t=ab y->x.pe=t.enc y
 |.v t x,u,y,h=>by
  obtain⟨e,rfl⟩:=QG (show Ty.cast t u x=ab y from h)
  subst e
  rfl
 |.sl m t f,u,y,h=>by
  obtain⟨l,g,j,A⟩:=CS (nn:=m) (show rE (fW m) t f u=ab y from h)
  rw[j,A]
  cases m with
  |none=>rfl
  |some _=>cases g
 |.agg f,u,y,h=>by
  obtain⟨B,z,g,j⟩:=CT (show rF (TP.jh fW f) u=ab y from h)
  rw[j];show Pl.agg (TP.cj f)=_
  rw[dF f B z g]
 |.arr n s f,u,y,h=>by
  obtain⟨t,l,g,j⟩:=ZuB (show vI n s (TP.lm fW f) u=ab y from h)
  rw[j];show Pl.arr n s (TP.cj f)=_
  rw[eC f t l g]
 |.lj _ _ _,_,_,h=>nomatch (show ad=ab _ from h)
 |.cb,_,_,h=>nomatch (show ad=ab _ from h)
 |.fn0,_,_,h=>nomatch (show ad=ab _ from h)
 |.ew,_,_,h=>nomatch (show ad=ab _ from h)
 |.cD,_,_,h=>nomatch (show ad=ab _ from h)
 |.gG _,_,_,h=>nomatch (show ad=ab _ from h)
 |.iface _ _,_,_,h=>nomatch (show ad=ab _ from h)
theorem dF:∀(xs:yL TP)(f:yL Ty)(y:Ty.aK f),TP.jh fW xs f=ab y->TP.cj xs=Ty.encs f y
 |[],f,y,h=>(ZuC (show vJ f=ab y from h)).symm
 |x::r,f,y,h=>by
  obtain⟨t,a,l,j,m,A⟩:=Zsq (show rG (TP.to fW x) r.isEmpty (TP.jh fW r) f=ab y from h)
  rw[m];show x.pe::TP.cj r=_;rw[vM x t a j];rcases A with⟨g,rfl⟩|⟨B,z,g,rfl⟩
  .cases r with
   |nil=>rfl
   |cons _ _=>cases g
  .rw[dF r B z g]
theorem eC:∀(xs:yL TP)(t:Ty)(y:yL t.aT),TP.lm fW xs t=ab y->TP.cj xs=y.map t.enc
 |[],_,y,h=>by
  cases (show ab []=ab y from h)
  rfl
 |x::r,t,y,h=>by
  obtain⟨q,f,rfl⟩:=Ze (show(kz (TP.to fW x t) (TP.lm fW r t)).map (λq=>q.1::q.2)=ab y from h)
  obtain⟨g,j⟩:=mr f;show x.pe::TP.cj r=_;rw[vM x t q.1 g,eC r t q.2 j,yag]
end
mutual
def gx(P:yg):Nat->yc->yO Ty
 |0,_=>ad
 |n+1,t=>match P.underlying t with
  |some (.int .u8)=>ab .u8
  |some (.int .u32)=>ab .u32
  |some (.int .u64)=>ab .u64
  |some (.int k)=>ab (.int k)
  |some .bool=>ab .bool
  |some .string=>ab .str
  |some (.slice e)=>(gx P n e).map .sl
  |some (.array m e)=>(gx P n e).map (.arr m)
  |some (.struct f)=>(mw P n (f.toList.map (·.type))).map .st
  |_=>ad
def mw(P:yg):Nat->yL yc->yO (yL Ty)
 |0,_=>ad
 |_+1,[]=>ab []
 |n+1,t::r=>match gx P n t,mw P n r with
  |some a,ab b=>ab (a::b)
  |_,_=>ad
end
def CU(k:IntKind)(z:Int):TP:=
 match k with
 |.u8=>.v .u8 (yar z.toNat)
 |.u32=>.v .u32 (ybn z.toNat)
 |.u64=>.v .u64 (yao z.toNat)
 |k=>.v (.int k) z
def nS(k:IntKind)(z:Int):Bool:=
 match k with
 |.u8=>ag (0<=z)&&ag (z < 256)
 |.u32=>ag (0<=z)&&ag (z < 4294967296)
 |.u64=>ag (0<=z)&&ag (z < 18446744073709551616)
 |_=>ae
theorem ZLf{k:IntKind}{z:Int}(h:nS k z=ae):(CU k z).pe=.int k z:=by
 cases k <;> simp only[nS,yi,yP]at h <;> simp only[CU,TP.pe,Ty.enc]
 .simp only[Pl.int.injEq,true_and,UInt8.toNat_ofNat'];omega
 .simp only[Pl.int.injEq,true_and,ycp];omega
 .simp only[Pl.int.injEq,true_and,ybe];omega
abbrev wi(z:Int):Int:=IntKind.i64.wrap z
def w8(z:Int):yB:=yar (z % 256).toNat
def w32(z:Int):yV:=ybn (z % 4294967296).toNat
def dj(z:Int):yU:=yao (z % 18446744073709551616).toNat
def vN(k:IntKind)(z:Int):TP:=
 match k with
 |.u8=>.v .u8 (w8 z)
 |.u32=>.v .u32 (w32 z)
 |.u64=>.v .u64 (dj z)
 |k=>.v (.int k) (k.wrap z)
theorem ZNv(z:Int):((w8 z).toNat:Int)=IntKind.u8.wrap z:=by
 simp only[w8,IntKind.wrap,IntKind.signed,IntKind.bits,UInt8.toNat_ofNat'];simp;omega
theorem ZLh(z:Int):((w32 z).toNat:Int)=IntKind.u32.wrap z:=by
 simp only[w32,IntKind.wrap,IntKind.signed,IntKind.bits,ycp];simp;omega
theorem ZLi(z:Int):((dj z).toNat:Int)=IntKind.u64.wrap z:=by
 simp only[dj,IntKind.wrap,IntKind.signed,IntKind.bits,ybe];simp;omega
theorem ZE0(k:IntKind)(z:Int):(vN k z).pe=.int k (k.wrap z):=by
 cases k <;> simp only[vN,TP.pe,Ty.enc,ZNv,ZLh,ZLi]
def CV:IntKind->Bool
 |.u8=>af
 |.u32=>af
 |.u64=>af
 |_=>ae
def ji:TP->yO (IntKind×Int)
 |.v (.int k) n=>if CV k then ab (k,n) else ad
 |.v .u8 b=>ab (.u8,(b.toNat:Int))
 |.v .u32 b=>ab (.u32,(b.toNat:Int))
 |.v .u64 b=>ab (.u64,(b.toNat:Int))
 |_=>ad
theorem py{x:TP}{q:IntKind×Int}(h:ji x=ab q):x.pe=.int q.1 q.2/\nS q.1 q.2=ae:=by
 unfold ji at h;split at h
 .rename_i k n;split at h
  .rename_i f;cases h;refine⟨rfl, ?_⟩;cases k <;> first|rfl|cases f
  .cases h
 .rename_i b;cases h;exact⟨rfl,by simp only[nS,yi,yP];have:=b.toNat_lt;omega⟩
 .rename_i b;cases h;exact⟨rfl,by simp only[nS,yi,yP];have:=b.toNat_lt;omega⟩
 .rename_i b;cases h;exact⟨rfl,by simp only[nS,yi,yP];have:=b.toNat_lt;omega⟩
 .cases h
def ia:Nat:=40
def vO(P:yg)(t:yc)(l:yL TP):TP:=
 match gx P ia t with
 |some (.st f)=>match TP.jh fW l f with
  |some x=>.v (.st f) x
  |none=>.agg l
 |_=>.agg l
theorem ZE1{P:yg}(t:yc)(l:yL TP):(vO P t l).pe=.agg (TP.cj l):=by
 unfold vO;split
 .rename_i f _;split
  .rename_i x h;show Pl.agg (Ty.encs f x)=_;rw[dF l f x h]
  .rfl
 .rfl
def vP(P:yg)(t:yc)(n s:Nat)(l:yL TP):TP:=
 match gx P ia t with
 |some (.arr _ u)=>if s=u.size then match TP.lm fW l u with
  |some x=>.v (.arr n u) x
  |none=>.arr n s l else .arr n s l
 |_=>.arr n s l
theorem ZE2{P:yg}(t:yc)(n s:Nat)(l:yL TP):(vP P t n s l).pe=.arr n s (TP.cj l):=by
 unfold vP;split
 .rename_i u _;split
  .rename_i e;split
   .rename_i x h;show Pl.arr n u.size (List.map u.enc x)=_;rw[eC l u x h,e]
   .rfl
  .rfl
 .rfl
def rH(f:yc->Pl->yO TP):yL yc->yL Pl->yO (yL TP)
 |[],[]=>ab []
 |t::r,x::q=>match f t x,rH f r q with
  |some a,ab b=>ab (a::b)
  |_,_=>ad
 |_,_=>ad
def rI(P:yg):Nat->yc->Pl->yO TP
 |0,_,_=>ad
 |n+1,t,x=>match x with
  |.int k z=>if nS k z then ab (CU k z) else ad
  |.bool b=>ab (.v .bool b)
  |.str b=>ab (.v .str b)
  |.cb=>ab .cb
  |.fn0=>ab .fn0
  |.ew=>ab .ew
  |.cD=>ab .cD
  |.sl g s []=>match P.underlying t with
   |some (.slice e)=>(gx P ia e).bind λT=>if s=T.size then ab (.sl g T []) else ad
   |_=>ad
  |.agg f=>match P.underlying t with
   |some (.struct h)=>(rH (rI P n) (h.toList.map (·.type)) f).map (vO P t)
   |_=>ad
  |.arr m s f=>match P.underlying t with
   |some (.array _ e)=>(rH (rI P n) (yx f.length e) f).map (vP P t m s)
   |_=>ad
  |_=>ad
theorem CW{f:yc->Pl->yO TP}(h:∀t x y,f t x=ab y->y.pe=x):∀(l:yL yc)(xs:yL Pl)(r:yL TP),rH f l xs=ab r->TP.cj r=xs
 |[],[],r,k=>by cases k;rfl
 |[],_::_,r,k=>by cases k
 |_::_,[],r,k=>by cases k
 |t::l,x::xs,r,k=>by
  simp only[rH]at k;split at k
  .rename_i a b g j;cases k;rw[TP.cj,h t x a g,CW h l xs b j]
  .cases k
theorem CX{P:yg}:∀(n:Nat)(t:yc)(x:Pl)(y:TP),rI P n t x=ab y->y.pe=x
 |0,_,_,_,h=>by cases h
 |n+1,t,x,y,h=>by
  unfold rI at h;split at h
  .split at h
   .rename_i j;cases h;exact ZLf j
   .cases h
  .cases h;rfl
  .cases h;rfl
  .cases h;rfl
  .cases h;rfl
  .cases h;rfl
  .cases h;rfl
  .split at h
   .obtain⟨T,f,g⟩:=yf.1 h;split at g
    .rename_i e;cases g;rw[TP.pe,e];rfl
    .cases g
   .cases h
  .split at h
   .obtain⟨l,f,rfl⟩:=Ze h;rw[ZE1,CW (CX n) _ _ _ f]
   .cases h
  .split at h
   .obtain⟨l,f,rfl⟩:=Ze h;rw[ZE2,CW (CX n) _ _ _ f]
   .cases h
  .cases h
def vQ(P:yg)(t:yc)(x:Pl):yO TP:=rI P 30 t x
def CY(P:yg)(t:yc)(v:yh):yO TD:=
 match oX P t v with
 |.p x=>(vQ P t x).map .p
 |.fn f []=>ab (.fn f [])
 |_=>ad
def bo(P:yg)(ts:yL TD)(t:yc):yp->yO TD
 |.tmp i=>ab (ts.getD i .ak)
 |.const v=>CY P t v
 |.global _=>ad
 |.func f=>if f < big then ab (.fn f []) else ad
theorem CZ{P:yg}{t:yc}{x:Pl}{y:TP}(h:vQ P t x=ab y):y.pe=x:=CX _ _ _ _ h
theorem vR{L:Lk}(ts:yL TD)(i:Nat):(TD.aE L ts).getD i .ak=(ts.getD i .ak).er L:=by
 rw[ZI];simp only[List.getD_eq_getElem?_getD,yak];cases ts[i]? <;> rfl
theorem Zs{L:Lk}{P:yg}{ts:yL TD}{t:yc}{x:yp}{d:TD}(h:bo P ts t x=ab d):aC P (TD.aE L ts) t x=d.er L:=by
 cases x with
 |tmp i=>cases h;exact vR ts i
 |const v=>
  have g:CY P t v=ab d:=h;show oX P t v=d.er L;unfold CY at g;split at g
  .rename_i x l;obtain⟨y,m,rfl⟩:=Ze g;rw[l,TD.er,CZ m]
  .rename_i f j;cases g;rw[j];rfl
  .cases g
 |global _=>cases h
 |func f=>
  have g:(if f < big then ab (TD.fn f []) else ad)=ab d:=h
  by_cases j:f < big
  .rw[yW j]at g;cases g;show(if f < big then Dv.fn f [] else .ak)=_
   rw[yW j];rfl
  .rw[yX j]at g;cases g
structure HI where
 own:List Tmp:=[]
 still:List Tmp:=[]
 row:List Tmp:=[]
 cE:List Tmp:=[]
 deep:List yc:=[]
 eqs:Bool:=af
 dX:List Tmp:=[]
 cm:List (Tmp×List (List Nat×Ty×yc)):=[]
 gf:List (Tmp×List (List Nat×Ty×yc)):=[]
 lits:List Tmp:=[]
 rew:List (Tmp×Tmp):=[]
 mkn:List Tmp:=[]
 deriving Inhabited
def dp(L:Lk)(P:yg)(o:yj)(ts:yL TD)(d:TD)(hs:yL ar):Prop:=
 ∃C,aZ C/\∀f,bj P o (TD.aE L ts) (hs++f)=ab (C,d.er L,f)
def idx{α:Type}(l:yL α)(i:Int):yO α:=if 0<=i then l[i.toNat]? else ad
def ZQG(m n:Int):Int:=if n > m then n else m
def vS(m n:Int):Int:=if n < m then n else m
def bi(i:Int)(n:Nat):Bool:=ag (0<=i)&&ag (i < (n:Int))
def dL(len:Nat):yO Int->yO Int->Bool
 |none,ad=>ae
 |none,ab h=>ag (0<=h)&&ag (h<=(len:Int))
 |some l,ad=>ag (0<=l)&&ag (l<=(len:Int))
 |some l,ab h=>ag (0<=l)&&(ag (l<=h)&&ag (h<=(len:Int)))
def nT(n b:Nat):Bool:=ag (n*b<=Zr)&&ag (n<=maxLen)
theorem rJ{α:Type}{l:yL α}{i:Int}{y:α}(h:idx l i=ab y):0<=i/\l[i.toNat]? =ab y:=by
 unfold idx at h
 all_goals grind
theorem QP{i:Int}{n:Nat}(h:bi i n=ae):0<=i/\i < (n:Int):=by simpa[bi] using h
theorem my{len:Nat}{l h:yO Int}(k:dL len l h=ae):aZ (Xd len l h):=by
 cases l <;> cases h <;> simp only[dL,yi,yP]at k <;> simp only[Xd,aZ,and_true]
 all_goals grind
theorem mz{n b:Nat}(h:nT n b=ae):n*b<=Zr/\n<=maxLen:=by simpa[nT] using h
theorem Zb{α:Type}{b:Bool}{k:yO α}{r:α}(h:(if b=ae then k else ad)=ab r):b=ae/\k=ab r:=by
 all_goals grind
theorem vT{α β:Type}(f:α->β)(l:yL α)(a b:yO Int):(Qb l a b).map f=Qb (l.map f) a b:=by
 cases a <;> cases b <;> simp[Qb]
def TP.fV:TP->Nat->yO TP
 |.v (.st f) x,i=>(Ty.nP f x i).map λq=>.v q.1 q.2
 |.agg l,i=>l[i]?
 |_,_=>ad
theorem ZIg{x y:TP}{i:Nat}(h:x.fV i=ab y):∃xs,x.pe=.agg xs/\xs[i]? =ab y.pe:=by
 unfold TP.fV at h;split at h
 .obtain⟨q,f,rfl⟩:=Ze h;exact⟨_,rfl,ZBa _ _ _ q f⟩
 .exact⟨_,rfl,by rw[VL,yak,h];rfl⟩
 .cases h
structure Row where
 nn:Option Bool
 t:Ty
 l:List t.aT
def TP.row:TP->yO Row
 |.v (.sl t) l=>ab ⟨ad,t,l⟩
 |.sl f t l=>ab ⟨f,t,l⟩
 |_=>ad
theorem ZNx{x:TP}{r:Row}(h:x.row=ab r):x.pe=.sl r.nn r.t.size (r.l.map r.t.enc):=by
 unfold TP.row at h;split at h
 .cases h;rfl
 .cases h;rfl
 .cases h
structure nU where
 n:Nat
 t:Ty
 l:List t.aT
def TP.dI:TP->yO nU
 |.v (.arr n t) l=>ab ⟨n,t,l⟩
 |_=>ad
theorem QQ{x:TP}{r:nU}(h:x.dI=ab r):x.pe=.arr r.n r.t.size (r.l.map r.t.enc):=by
 unfold TP.dI at h;split at h
 .cases h;rfl
 .cases h
def Ty.isAgg:Ty->Bool
 |.arr _ _=>ae
 |.st _=>ae
 |_=>af
theorem vU(t:Ty)(x:t.aT):(t.enc x).isAgg=t.isAgg:=by cases t <;> rfl
def TD.row(L:Lk):TD->yO Row
 |.p x=>x.row
 |.own id f t c=>ab ⟨f,t,Yc L id t c⟩
 |_=>ad
theorem mA{L:Lk}{x:TD}{r:Row}(h:x.row L=ab r):x.er L=.p (.sl r.nn r.t.size (r.l.map r.t.enc))\/∃id,x.er L=.own id r.nn r.t.size (r.l.map r.t.enc):=by
 unfold TD.row at h;split at h
 .exact .inl (by rw[TD.er,ZNx h])
 .cases h;exact .inr ⟨_,rfl⟩
 .cases h
def TD.plain(L:Lk):TD->yO TP
 |.p x=>ab x
 |.own id f t c=>ab (.sl f t (Yc L id t c))
 |_=>ad
theorem ZxH{L:Lk}{x:TD}{y:TP}(h:x.plain L=ab y):(x.er L).plain=ab y.pe:=by
 unfold TD.plain at h;split at h
 .cases h;rfl
 .cases h;rfl
 .cases h
mutual
def TD.flat(L:Lk):TD->yO TP
 |.p x=>ab x
 |.own id f t c=>ab (.sl f t (Yc L id t c))
 |.agg g=>(TD.aW L g).map .agg
 |_=>ad
def TD.aW(L:Lk):yL TD->yO (yL TP)
 |[]=>ab []
 |d::r=>match d.flat L,TD.aW L r with
  |some x,ab f=>ab (x::f)
  |_,_=>ad
end
mutual
theorem rK{L:Lk}:∀(d:TD),(d.er L).flat=(d.flat L).map TP.pe
 |.p x=>by rw[TD.er,Dv.flat,TD.flat];rfl
 |.own id g t c=>by rw[TD.er,Dv.flat,TD.flat];rfl
 |.agg f=>by
  rw[TD.er,Dv.flat,TD.flat,fg f]
  cases TD.aW L f <;> rfl
 |.elem _=>rfl
 |.aj _ _=>rfl
 |.view _ _ _ _ _=>rfl
 |.arr _ _ _=>rfl
 |.fn _ _=>rfl
 |.iface _ _=>rfl
 |.bm _=>rfl
 |.mp _=>rfl
 |.rv _ _ _ _ _=>rfl
 |.ba _ _ _=>rfl
 |.rw _=>rfl
 |.rp _ _=>rfl
 |.ak=>rfl
theorem fg{L:Lk}:∀(f:yL TD),Dv.aW (TD.aE L f)=(TD.aW L f).map TP.cj
 |[]=>rfl
 |d::r=>by
  rw[TD.aE,Dv.aW,TD.aW,rK d,fg r];cases d.flat L <;> cases TD.aW L r <;> rfl
end
theorem DA{L:Lk}{x:TD}{y:TP}(h:x.flat L=ab y):(x.er L).flat=ab y.pe:=by rw[rK,h];rfl
mutual
def TD.owns(ids:yL Nat):TD->Bool
 |.own id _ _ _=>ids.contains id
 |.agg f=>TD.dy ids f
 |_=>af
def TD.dy(ids:yL Nat):yL TD->Bool
 |[]=>af
 |d::r=>d.owns ids || TD.dy ids r
end
mutual
theorem ZLm{L:Lk}{ids:yL Nat}:∀(d:TD),(d.er L).owns ids=d.owns ids
 |.p x=>rfl
 |.own id g t c=>rfl
 |.agg f=>by rw[TD.er,Dv.owns,TD.owns,fh f]
 |.elem _=>rfl
 |.aj _ _=>rfl
 |.view _ _ _ _ _=>rfl
 |.arr _ _ _=>rfl
 |.fn _ _=>rfl
 |.iface _ _=>rfl
 |.bm _=>rfl
 |.mp _=>rfl
 |.rv _ _ _ _ _=>rfl
 |.ba _ _ _=>rfl
 |.rw _=>rfl
 |.rp _ _=>rfl
 |.ak=>rfl
theorem fh{L:Lk}{ids:yL Nat}:∀(f:yL TD),Dv.dy ids (TD.aE L f)=TD.dy ids f
 |[]=>rfl
 |d::r=>by rw[TD.aE,Dv.dy,TD.dy,ZLm d,fh r]
end
def TD.dz(L:Lk)(f:yL TD):TD:=
 match TD.aW L f with
 |some g=>.p (.agg g)
 |none=>.agg f
theorem ZE3{L:Lk}(f:yL TD):(TD.dz L f).er L=Dv.dz (TD.aE L f):=by
 unfold TD.dz Dv.dz;rw[fg];cases TD.aW L f <;> rfl
section
variable{L:Lk}{P:yg}{o:yj}{ts:yL TD}{O:Type}
def okB(P:yg)(e:yc)(s:Nat):Bool:=ag (P.cellsOf e=s)&&(P.info? e).isSome
def DB(L:Lk)(P:yg)(t:yc)(i:Nat)(K:TD->yL ar->yO O):TD->yO O
 |.p x=>(x.fV i).bind λz=>if(jb P t (.p x.pe) i).isSome then K (.p z) [] else ad
 |.agg f=>(f[i]?).bind λz=>if(jb P t (.agg (TD.aE L f)) i).isSome then K z [] else ad
 |_=>ad
theorem Zsr{t:yc}{i:Nat}{K:TD->yL ar->yO O}{x:TD}{out:O}(h:DB L P t i K x=ab out):∃d,K d []=ab out/\jb P t (x.er L) i=ab (d.er L):=by
 unfold DB at h;split at h
 .rename_i x;obtain⟨z,g,j⟩:=yf.1 h;obtain⟨l,m⟩:=Zb j;refine⟨_,m, ?_⟩;obtain⟨E,A,y⟩:=ZIg g;rw[TD.er];obtain⟨d,f⟩:=Option.isSome_iff_exists.1 l;rw[f];unfold jb at f;rw[A]at f;split at f
  .rename_i B;cases B;rw[y]at f;dsimp only at f;split at f
   .cases f;rfl
   .cases f
  all_goals grind
 .rename_i F;obtain⟨z,g,j⟩:=yf.1 h;obtain⟨l,m⟩:=Zb j;refine⟨_,m, ?_⟩;have y:=ll (L:=L) g;rw[TD.er];obtain⟨d,f⟩:=Option.isSome_iff_exists.1 l;rw[f];unfold jb at f
  all_goals grind
 .cases h
theorem nV(l:yL cg)(q:cg):WY (l++[q])=WY l+q.o:=by simp[WY]
def DC(P:yg)(t:yc)(i:Nat)(K:TD->yL ar->yO O):TD->yO O
 |.aj id g=>match P.underlying t with
  |some (.struct h)=>match h[i]? with
   |some f=>if P.cellsOf f.type !=0&&(P.info? f.type).isSome then K (.aj id (g++[.fV i f.offset])) [] else ad
   |none=>ad
  |_=>ad
 |.ba id v g=>match P.underlying t with
  |some (.struct h)=>match h[i]? with
   |some f=>if P.cellsOf f.type !=0&&(P.info? f.type).isSome then K (.ba id v (g++[.fV i f.offset])) [] else ad
   |none=>ad
  |_=>ad
 |.rp id g=>match P.underlying t with
  |some (.struct h)=>match h[i]? with
   |some f=>if P.cellsOf f.type !=0&&(P.info? f.type).isSome then K (.rp id (g++[.fV i f.offset])) [] else ad
   |none=>ad
  |_=>ad
 |.elem x=>(x.fV i).bind λz=>if(jb P t (.p x.pe) i).isSome then K (.elem z) [] else ad
 |_=>ad
theorem Ztf{t:yc}{i:Nat}{x:yp}{K:TD->yL ar->yO O}{E:TD}{out:O}(ho:o.op=.fieldAddr t x i)(I:bo P ts 0 x=ab E)(h:DC P t i K E=ab out):∃d hs,K d hs=ab out/\dp L P o ts d hs:=by
 have A:=Zs (L:=L) I;unfold DC at h;split at h
 .rename_i id F;split at h
  .rename_i m g;split at h
   .rename_i f y;obtain⟨j,l⟩:=Zb h;refine⟨_,_,l,[],zP,λB=> ?_⟩;simp only[yz];unfold bj;rw[ho];dsimp only;rw[g,A];dsimp only[TD.er];rw[y];dsimp only;rw[yW j,yat,nV];rfl
   .cases h
  .cases h
 .rename_i id v F;split at h
  .rename_i m g;split at h
   .rename_i f y;obtain⟨j,l⟩:=Zb h;refine⟨_,_,l,[],zP,λB=> ?_⟩;simp only[yz];unfold bj;rw[ho];dsimp only;rw[g,A];dsimp only[TD.er];rw[y];dsimp only;rw[yW j,yat,nV];rfl
   .cases h
  .cases h
 .rename_i id F;split at h
  .rename_i m g;split at h
   .rename_i f y;obtain⟨j,l⟩:=Zb h;refine⟨_,_,l,[],zP,λB=> ?_⟩;simp only[yz];unfold bj;rw[ho];dsimp only;rw[g,A];dsimp only[TD.er];rw[y];dsimp only;rw[yW j,yat,nV];rfl
   .cases h
  .cases h
 .rename_i x;obtain⟨z,M,Q⟩:=yf.1 h;obtain⟨j,l⟩:=Zb Q;refine⟨_,_,l,[],zP,λB=> ?_⟩;obtain⟨d,R,G⟩:=Zsr (L:=L) (P:=P) (t:=t) (i:=i) (K:=λd _=>ab d) (x:=.p x) (out:=.p z) (by show(x.fV i).bind _=_;rw[M];exact yW j);cases R;simp only[yz];unfold bj;rw[ho];dsimp only;rw[A]
  have g:∃m,P.underlying t=ab (.struct m):=by
   unfold jb at j
   all_goals grind
  obtain⟨m,g⟩:=g;rw[g];dsimp only[TD.er]at G ⊢;rw[G]
 .cases h
theorem rL{t:Ty}{l:yL t.aT}{i:Nat}{y:t.aT}(h:l[i]? =ab y):(l.map t.enc)[i]? =ab (t.enc y):=by rw[yak,h];rfl
def DD(L:Lk)(P:yg)(t:yc)(i:Int)(K:TD->yL ar->yO O)(g:TD):yO O:=
 match P.underlying t,g with
 |some (.slice e),.view id f s lo n=>if okB P e s=ae then if bi i n=ae then K (.aj id (f++[.ix (lo+i.toNat) s])) [] else ad else ad
 |some (.slice e),.rv id v s lo n=>if okB P e s=ae then if bi i n=ae then K (.ba id v [.ix (lo+i.toNat) s]) [] else ad else ad
 |some (.slice e),g=>(g.row L).bind λr=>if okB P e r.t.size=ae then(idx r.l i).bind λy=>K (.elem (.v r.t y)) [.el (r.t.enc y)] else ad
 |some (.array n e),.aj id f=>if(P.info? e).isSome then if bi i n=ae then K (.aj id (f++[.ix i.toNat (P.cellsOf e)])) [] else ad else ad
 |some (.array n e),.ba id v f=>if(P.info? e).isSome then if bi i n=ae then K (.ba id v (f++[.ix i.toNat (P.cellsOf e)])) [] else ad else ad
 |some (.array n e),.rp id f=>if(P.info? e).isSome then if bi i n=ae then K (.rp id (f++[.ix i.toNat (P.cellsOf e)])) [] else ad else ad
 |some (.array n e),.elem x=>x.dI.bind λr=>if ag (n=r.n)&&okB P e r.t.size then(idx r.l i).bind λy=>K (.elem (.v r.t y)) [.el (r.t.enc y)] else ad
 |_,_=>ad
theorem ZE4{e:yc}{s:Nat}(h:okB P e s=ae):P.cellsOf e=s/\(P.info? e).isSome=ae:=by simpa[okB] using h
theorem Ztg{t:yc}{x ix:yp}{K:TD->yL ar->yO O}{Q id:TD}{q:IntKind×Int}{R:TP}{out:O}(ho:o.op=.indexAddr t x ix)(S:bo P ts t x=ab Q)(hi:bo P ts 0 ix=ab (.p R))(hq:ji R=ab q)
 (h:DD L P t q.2 K Q=ab out):∃d hs,K d hs=ab out/\dp L P o ts d hs:=by
 have z:=Zs (L:=L) S;have m:=Zs (L:=L) hi;rw[TD.er,(py hq).1]at m;unfold DD at h;split at h
 .rename_i e id B s lo n f;obtain⟨g,h⟩:=Zb h;obtain⟨j,h⟩:=Zb h;refine⟨_,_,h,[0<=q.2,q.2 < (n:Int)],⟨(QP j).1,(QP j).2,ao⟩,λA=> ?_⟩;simp only[yz];unfold bj;rw[ho];dsimp only;rw[f,z,m];dsimp only[TD.er];rw[yW (by simpa[okB] using g),yat,nV];rfl
 .rename_i e id v s lo n f;obtain⟨g,h⟩:=Zb h;obtain⟨j,h⟩:=Zb h;refine⟨_,_,h,[0<=q.2,q.2 < (n:Int)],⟨(QP j).1,(QP j).2,ao⟩,λA=> ?_⟩;simp only[yz];unfold bj;rw[ho];dsimp only;rw[f,z,m];dsimp only[TD.er];rw[yW (by simpa[okB] using g)];simp[WY,cg.o,cg.i]
 .rename_i e f _ _;obtain⟨r,E,h⟩:=yf.1 h;obtain⟨g,h⟩:=Zb h;obtain⟨y,F,h⟩:=yf.1 h;obtain⟨G,I⟩:=rJ F;refine⟨_,_,h,[0<=q.2,(r.l.map r.t.enc)[q.2.toNat]? =ab (r.t.enc y)],⟨G,rL I,ao⟩,λA=> ?_⟩;unfold bj;rw[ho];dsimp only;rcases mA E with M|⟨id,M⟩
  .rw[f,z,m,M];dsimp only;rw[yaf,yz];dsimp only;rw[yW (by simpa[okB] using g)];rfl
  .rw[f,z,m,M];dsimp only;rw[yaf,yz];dsimp only;rw[yW (by simpa[okB] using g)];rfl
 .rename_i n e id B f;obtain⟨g,h⟩:=Zb h;obtain⟨j,h⟩:=Zb h;refine⟨_,_,h,[0<=q.2,q.2 < (n:Int)],⟨(QP j).1,(QP j).2,ao⟩,λA=> ?_⟩;simp only[yz];unfold bj;rw[ho];dsimp only;rw[f,z,m];dsimp only[TD.er];rw[yW g,yat,nV];rfl
 .rename_i n e id v B f;obtain⟨g,h⟩:=Zb h;obtain⟨j,h⟩:=Zb h;refine⟨_,_,h,[0<=q.2,q.2 < (n:Int)],⟨(QP j).1,(QP j).2,ao⟩,λA=> ?_⟩;simp only[yz];unfold bj;rw[ho];dsimp only;rw[f,z,m];dsimp only[TD.er];rw[yW g,yat,nV];rfl
 .rename_i n e id B f;obtain⟨g,h⟩:=Zb h;obtain⟨j,h⟩:=Zb h;refine⟨_,_,h,[0<=q.2,q.2 < (n:Int)],⟨(QP j).1,(QP j).2,ao⟩,λA=> ?_⟩;simp only[yz];unfold bj;rw[ho];dsimp only;rw[f,z,m];dsimp only[TD.er];rw[yW g,yat,nV];rfl
 .rename_i n e x f;obtain⟨r,E,h⟩:=yf.1 h;obtain⟨g,h⟩:=Zb h;obtain⟨y,F,h⟩:=yf.1 h;obtain⟨G,I⟩:=rJ F;refine⟨_,_,h,[0<=q.2,(r.l.map r.t.enc)[q.2.toNat]? =ab (r.t.enc y)],⟨G,rL I,ao⟩,λA=> ?_⟩;unfold bj;rw[ho];dsimp only;rw[f,z,m,TD.er,QQ E];rw[yaf,yz];dsimp only;rw[yW (by simpa[okB,and_assoc] using g)];rfl
 .cases h
def fX(s:ByteArray):yL yB:=s.data.toList
def TP.lu:TP->yO ByteArray
 |.v .str s=>ab s
 |_=>ad
theorem ZE5{x:TP}{s:ByteArray}(h:x.lu=ab s):x.pe=.str s:=by
 unfold TP.lu at h;split at h
 .cases h;rfl
 .cases h
def TP.ib:TP->yO Bool
 |.v .bool s=>ab s
 |_=>ad
theorem ZIh{x:TP}{s:Bool}(h:x.ib=ab s):x.pe=.bool s:=by
 unfold TP.ib at h;split at h
 .cases h;rfl
 .cases h
def DE(P:yg)(t:yc)(i:Int)(K:TD->yL ar->yO O)(x:TP):yO O:=
 match P.underlying t with
 |some (.array n e)=>match x with
  |.arr f s g=>if ag (n=f)&&okB P e s&&((P.underlying e).isSome&&s !=0) then(idx g i).bind λy=>if(X0 P e==y.pe.isAgg)=ae then K (.p y) [.el y.pe] else ad else ad
  |x=>x.dI.bind λr=>if ag (n=r.n)&&okB P e r.t.size&&(X0 P e==r.t.isAgg&&((P.underlying e).isSome&&r.t.size !=0)) then(idx r.l i).bind λy=>K (.p (.v r.t y)) [.el (r.t.enc y)] else ad
 |some .string=>x.lu.bind λs=>(idx (fX s) i).bind λb=>K (.p (.v .u8 b)) [.el (.int .u8 (b.toNat:Int))]
 |_=>ad
theorem ZBc{t:yc}{x ix:yp}{K:TD->yL ar->yO O}{F:TP}{q:IntKind×Int}{G:TP}{out:O}(ho:o.op=.index t x ix)(M:bo P ts t x=ab (.p F))(hi:bo P ts 0 ix=ab (.p G))(hq:ji G=ab q)
 (h:DE P t q.2 K F=ab out):∃d hs,K d hs=ab out/\dp L P o ts d hs:=by
 have B:=Zs (L:=L) M;have z:=Zs (L:=L) hi;rw[TD.er,(py hq).1]at z;unfold DE at h;split at h
 .rename_i n e A;split at h
  .rename_i S s Q;obtain⟨f,h⟩:=Zb h;obtain⟨y,g,h⟩:=yf.1 h;obtain⟨R,h⟩:=Zb h;obtain⟨j,m⟩:=rJ g;refine⟨_,_,h,[0<=q.2,(TP.cj Q)[q.2.toNat]? =ab y.pe],⟨j,by rw[VL,yak,m];rfl,ao⟩,λI=> ?_⟩;unfold bj;rw[ho];dsimp only;rw[A,B,z,TD.er,TP.pe];rw[yaf,yz];dsimp only;simp only[okB,yi,yP]at f;rw[yW (by simp only[yi,yP];exact⟨⟨⟨⟨⟨f.1.1,f.1.2.1⟩,R⟩,f.2.1⟩,f.1.2.2⟩,f.2.2⟩)];rfl
  obtain⟨r,E,h⟩:=yf.1 h;obtain⟨f,h⟩:=Zb h;obtain⟨y,g,h⟩:=yf.1 h;obtain⟨j,m⟩:=rJ g;refine⟨_,_,h,[0<=q.2,(r.l.map r.t.enc)[q.2.toNat]? =ab (r.t.enc y)],⟨j,rL m,ao⟩,λI=> ?_⟩;unfold bj;rw[ho];dsimp only;rw[A,B,z,TD.er,QQ E];rw[yaf,yz];dsimp only;simp only[okB,yi,yP]at f;rw[yW (by rw[vU];simp only[yi,yP];exact⟨⟨⟨⟨⟨f.1.1,f.1.2.1⟩,f.2.1⟩,f.2.2.1⟩,f.1.2.2⟩,f.2.2.2⟩)];rfl
 .rename_i A;obtain⟨s,E,h⟩:=yf.1 h;obtain⟨y,g,h⟩:=yf.1 h;obtain⟨j,m⟩:=rJ g;refine⟨_,_,h,[0<=q.2,(s.data.toList[q.2.toNat]?).map (λx:yB=>(x.toNat:Int))=ab (y.toNat:Int)],⟨j,by rw[show s.data.toList=fX s from rfl,m];rfl,ao⟩,λI=> ?_⟩
  unfold bj;rw[ho];dsimp only;rw[A,B,z,TD.er,ZE5 E];rfl
 .cases h
def eY(P:yg)(ts:yL TD):yO yp->yO (yO Int)
 |none=>ab ad
 |some x=>match bo P ts 0 x with
  |some (.p y)=>(ji y).map λq=>ab q.2
  |_=>ad
theorem iC{x:yO yp}{l:yO Int}(h:eY P ts x=ab l):go P (TD.aE L ts) x=ab l:=by
 cases x with
 |none=>cases h;rfl
 |some x=>
  unfold eY at h;dsimp only at h;split at h
  .rename_i y f;obtain⟨q,g,rfl⟩:=Ze h;unfold go;dsimp only;rw[Zs f,TD.er,(py g).1]
  .cases h
def DF(L:Lk)(P:yg)(t:yc)(lo hi:yO Int)(K:TD->yL ar->yO O)(f:TD):yO O:=
 match P.underlying t,f with
 |some (.slice e),.view id g s h n=>if okB P e s=ae then if dL n lo hi=ae then K (.view id g s (h+(lo.getD 0).toNat) ((hi.getD n).toNat - (lo.getD 0).toNat)) [] else ad else ad
 |some (.slice e),.rv id v s h n=>if okB P e s=ae then if dL n lo hi=ae then K (.rv id v s (h+(lo.getD 0).toNat) ((hi.getD n).toNat - (lo.getD 0).toNat)) [.bare] else ad else ad
 |some (.slice e),f=>(f.row L).bind λr=>if okB P e r.t.size=ae then if dL r.l.length lo hi=ae then K (.p (.sl r.nn r.t (Qb r.l lo hi))) [] else ad else ad
 |some (.array n e),.elem x=>x.dI.bind λr=>if ag (n=r.n)&&okB P e r.t.size&&ag (n<=maxLen) then if dL n lo hi=ae then K (.p (.sl (ab ae) r.t (Qb r.l lo hi))) [] else ad else ad
 |some (.array n e),.aj id g=>if(P.info? e).isSome&&ag (n<=maxLen) then if dL n lo hi=ae then K (.view id g (P.cellsOf e) (lo.getD 0).toNat ((hi.getD n).toNat - (lo.getD 0).toNat)) [.raw] else ad else ad
 |_,_=>ad
theorem ZBd{t:yc}{x:yp}{lo hi:yO yp}{l y:yO Int}{K:TD->yL ar->yO O}{F:TD}{out:O}(ho:o.op=.slice t x lo hi ad)(G:bo P ts t x=ab F)(hl:eY P ts lo=ab l)(m:eY P ts hi=ab y)
 (h:DF L P t l y K F=ab out):∃d hs,K d hs=ab out/\dp L P o ts d hs:=by
 have z:=Zs (L:=L) G;have hl:=iC (L:=L) hl;have m:=iC (L:=L) m;unfold DF at h;split at h
 .rename_i e id I s M n f;obtain⟨g,h⟩:=Zb h;obtain⟨j,h⟩:=Zb h;refine⟨_,_,h,Xd n l y,my j,λA=> ?_⟩;simp only[yz];unfold bj;rw[ho];dsimp only;rw[f,z,hl,m];dsimp only[TD.er];rw[yW (by simpa[okB] using g)]
 .rename_i e id v s M n f;obtain⟨g,h⟩:=Zb h;obtain⟨j,h⟩:=Zb h;refine⟨_,_,h,Xd n l y,my j,λA=> ?_⟩;unfold bj;rw[ho];dsimp only;rw[f,z,hl,m];dsimp only[TD.er];rw[yaf,yz];dsimp only;rw[yW (by simpa[okB] using g)]
 .rename_i e f _ _;obtain⟨r,B,h⟩:=yf.1 h;obtain⟨g,h⟩:=Zb h;obtain⟨j,h⟩:=Zb h;refine⟨_,_,h,Xd r.l.length l y,my j,λA=> ?_⟩;simp only[yz];unfold bj;rw[ho];dsimp only;rw[TD.er,TP.pe,vT];rcases mA B with E|⟨id,E⟩
  .rw[f,z,hl,m,E];dsimp only;rw[yW (by simpa[okB] using g),yaa]
  .rw[f,z,hl,m,E];dsimp only;rw[yW (by simpa[okB] using g),yaa]
 .rename_i n e x f;obtain⟨r,B,h⟩:=yf.1 h;obtain⟨g,h⟩:=Zb h;obtain⟨j,h⟩:=Zb h;refine⟨_,_,h,Xd n l y,my j,λA=> ?_⟩;simp only[yz];unfold bj;rw[ho];dsimp only;rw[f,z,hl,m,show(TD.elem x).er L=.elem x.pe from rfl,QQ B]
  dsimp only;rw[yW (by simpa[okB,and_assoc] using g),TD.er,TP.pe,vT]
 .rename_i n e id I f;obtain⟨g,h⟩:=Zb h;obtain⟨j,h⟩:=Zb h;refine⟨_,_,h,Xd n l y,my j,λA=> ?_⟩;unfold bj;rw[ho];dsimp only;rw[f,z,hl,m];dsimp only[TD.er];grind
 .cases h
end
def DG(x:yB)(n:Nat):yB:=yar (x.toNat*2 ^ n)
def DH(x:yB)(n:Nat):yB:=yar (x.toNat / 2 ^ n)
theorem ZMQ{n:Nat}(h:n < 256):IntKind.u8.wrap (n:Int)=(n:Int):=by
 simp only[IntKind.wrap,IntKind.signed,IntKind.bits];simp;omega
theorem vV(z:Int):IntKind.u8.wrap z=z % 256:=by
 simp only[IntKind.wrap,IntKind.signed,IntKind.bits];simp
theorem ZMR(op:BinOp)(x y:yB):bits op .u8 (x.toNat:Int) (y.toNat:Int)=((match op with|.and=>x&&&y|.or=>x|||y|.xor=>x^^^y|_=>x&&& ~~~y).toNat:Int):=by
 have e:∀z:yB,ybz (IntKind.u8.bits) (z.toNat:Int)=z.toBitVec:=λz=>by
  show ybz 8 (z.toNat:Int)=z.toBitVec;apply BitVec.eq_of_toNat_eq;rw[BitVec.ofInt_natCast,BitVec.toNat_ofNat];exact yap (UInt8.toNat_lt z)
 unfold bits;rw[e,e];cases op <;> exact ZMQ (UInt8.toNat_lt _)
def DI:BinOp->yB->yB->yO yB
 |.add,x,y=>ab (x+y)
 |.sub,x,y=>ab (x - y)
 |.mul,x,y=>ab (x*y)
 |.and,x,y=>ab (x&&&y)
 |.or,x,y=>ab (x|||y)
 |.xor,x,y=>ab (x^^^y)
 |.andNot,x,y=>ab (x&&& ~~~y)
 |_,_,_=>ad
theorem ZNA{op:BinOp}{x y z:yB}(h:DI op x y=ab z)(yK:yL ar):Xj op .u8 (x.toNat:Int) (y.toNat:Int) (.raw::yK)=ab ([],.p (.int .u8 (z.toNat:Int)),yK):=by
 cases op <;> simp only[DI,yo,reduceCtorEq]at h <;> subst h
 .simp only[Xj,gm,vV,UInt8.toNat_add];simp
 .have e:((x.toNat:Int) - (y.toNat:Int)) % 256=((x - y).toNat:Int):=by
   rw[UInt8.toNat_sub];have:=x.toNat_lt;have:=y.toNat_lt;omega
  simp only[Xj,gm,vV,e]
 .simp only[Xj,gm,vV,UInt8.toNat_mul];simp
 all_goals simp only[Xj,ZMR]
def DJ:BinOp->yB->yB->yO yB
 |.quo,x,y=>ab (x / y)
 |.rem,x,y=>ab (x % y)
 |_,_,_=>ad
theorem ZNB{op:BinOp}{x y z:yB}(h:DJ op x y=ab z)(yK:yL ar):Xj op .u8 (x.toNat:Int) (y.toNat:Int) (.raw::yK)=ab ([(y.toNat:Int)≠0],.p (.int .u8 (z.toNat:Int)),yK):=by
 cases op <;> simp only[DJ,yo,reduceCtorEq]at h <;> subst h
 .simp only[Xj,UInt8.toNat_div];rw[show(x.toNat:Int).tdiv (y.toNat:Int)=((x.toNat / y.toNat:Nat):Int) from rfl,ZMQ (ycx (Nat.div_le_self ..) (UInt8.toNat_lt _))]
 .simp only[Xj,UInt8.toNat_mod];rfl
def DK:BinOp->yB->yB->yO Bool
 |.eql,x,y=>ab (x==y)
 |.neq,x,y=>ab (x !=y)
 |.lss,x,y=>ab (ag (x < y))
 |.leq,x,y=>ab (ag (x<=y))
 |.gtr,x,y=>ab (ag (x > y))
 |.geq,x,y=>ab (ag (x >= y))
 |_,_,_=>ad
theorem ZLn{op:BinOp}{x y:yB}{b:Bool}(h:DK op x y=ab b)(yK:yL ar):Xj op .u8 (x.toNat:Int) (y.toNat:Int) yK=ab ([],.p (.bool b),yK):=by
 have f:((x.toNat:Int)==(y.toNat:Int))=(x==y):=by
  rw[yco];simp only[yT, <-UInt8.toNat_inj];omega
 have lt:∀a b:yB,ag ((a.toNat:Int) < (b.toNat:Int))=ag (a < b):=λa b=>by
  rw[yco];simp[UInt8.lt_iff_toNat_lt]
 have le:∀a b:yB,ag ((a.toNat:Int)<=(b.toNat:Int))=ag (a<=b):=λa b=>by
  rw[yco];simp[UInt8.le_iff_toNat_le]
 cases op <;> simp only[DK,yo,reduceCtorEq]at h <;> subst h <;> simp only[Xj,GT.gt,GE.ge,lt,le,f,bne]
theorem ZLo(x:yB)(y:Int)(yK:yL ar):Ve .shl .u8 (x.toNat:Int) y (.raw::yK)=ab ([0<=y],.p (.int .u8 ((DG x (min y.toNat 8)).toNat:Int)),yK):=by
 simp only[Ve,vV,DG,UInt8.toNat_ofNat'];simp[show IntKind.u8.bits=8 from rfl]
theorem ZLp(x:yB)(y:Int)(yK:yL ar):Ve .shr .u8 (x.toNat:Int) y (.raw::yK)=ab ([0<=y],.p (.int .u8 ((DH x (min y.toNat 8)).toNat:Int)),yK):=by
 simp only[Ve,DH,UInt8.toNat_ofNat'];congr 4;rw[show IntKind.u8.bits=8 from rfl]
 have h:x.toNat / 2 ^ min y.toNat 8 < 256:=ycx (Nat.div_le_self ..) (UInt8.toNat_lt _);rw[yap h];rw[show((2:Int) ^ min y.toNat 8)=((2 ^ min y.toNat 8:Nat):Int) by simp,Int.fdiv_eq_ediv_of_nonneg _ (Int.natCast_nonneg _)];rfl
def fP(x:yV)(n:Nat):yV:=ybn (x.toNat*2 ^ n)
def gJ(x:yV)(n:Nat):yV:=ybn (x.toNat / 2 ^ n)
theorem ZIi{n:Nat}(h:n < 4294967296):IntKind.u32.wrap (n:Int)=(n:Int):=by
 simp only[IntKind.wrap,IntKind.signed,IntKind.bits];simp;omega
theorem vW(z:Int):IntKind.u32.wrap z=z % 4294967296:=by
 simp only[IntKind.wrap,IntKind.signed,IntKind.bits];simp
theorem ZIj(op:BinOp)(x y:yV):bits op .u32 (x.toNat:Int) (y.toNat:Int)=((match op with|.and=>x&&&y|.or=>x|||y|.xor=>x^^^y|_=>x&&& ~~~y).toNat:Int):=by
 have e:∀z:yV,ybz (IntKind.u32.bits) (z.toNat:Int)=z.toBitVec:=λz=>by
  show ybz 32 (z.toNat:Int)=z.toBitVec;apply BitVec.eq_of_toNat_eq;rw[BitVec.ofInt_natCast,BitVec.toNat_ofNat];exact yap (UInt32.toNat_lt z)
 unfold bits;rw[e,e];cases op <;> exact ZIi (UInt32.toNat_lt _)
def DL:BinOp->yV->yV->yO yV
 |.add,x,y=>ab (x+y)
 |.sub,x,y=>ab (x - y)
 |.mul,x,y=>ab (x*y)
 |.and,x,y=>ab (x&&&y)
 |.or,x,y=>ab (x|||y)
 |.xor,x,y=>ab (x^^^y)
 |.andNot,x,y=>ab (x&&& ~~~y)
 |_,_,_=>ad
theorem ZLq{op:BinOp}{x y z:yV}(h:DL op x y=ab z)(yK:yL ar):Xj op .u32 (x.toNat:Int) (y.toNat:Int) (.raw::yK)=ab ([],.p (.int .u32 (z.toNat:Int)),yK):=by
 cases op <;> simp only[DL,yo,reduceCtorEq]at h <;> subst h
 .simp only[Xj,gm,vW,UInt32.toNat_add];simp
 .have e:((x.toNat:Int) - (y.toNat:Int)) % 4294967296=((x - y).toNat:Int):=by
   rw[UInt32.toNat_sub];have:=x.toNat_lt;have:=y.toNat_lt;omega
  simp only[Xj,gm,vW,e]
 .simp only[Xj,gm,vW,UInt32.toNat_mul];simp
 all_goals simp only[Xj,ZIj]
def DM:BinOp->yV->yV->yO yV
 |.quo,x,y=>ab (x / y)
 |.rem,x,y=>ab (x % y)
 |_,_,_=>ad
theorem ZLr{op:BinOp}{x y z:yV}(h:DM op x y=ab z)(yK:yL ar):Xj op .u32 (x.toNat:Int) (y.toNat:Int) (.raw::yK)=ab ([(y.toNat:Int)≠0],.p (.int .u32 (z.toNat:Int)),yK):=by
 cases op <;> simp only[DM,yo,reduceCtorEq]at h <;> subst h
 .simp only[Xj,UInt32.toNat_div];rw[show(x.toNat:Int).tdiv (y.toNat:Int)=((x.toNat / y.toNat:Nat):Int) from rfl,ZIi (ycx (Nat.div_le_self ..) (UInt32.toNat_lt _))]
 .simp only[Xj,UInt32.toNat_mod];rfl
def DN:BinOp->yV->yV->yO Bool
 |.eql,x,y=>ab (x==y)
 |.neq,x,y=>ab (x !=y)
 |.lss,x,y=>ab (ag (x < y))
 |.leq,x,y=>ab (ag (x<=y))
 |.gtr,x,y=>ab (ag (x > y))
 |.geq,x,y=>ab (ag (x >= y))
 |_,_,_=>ad
theorem ZIl{op:BinOp}{x y:yV}{b:Bool}(h:DN op x y=ab b)(yK:yL ar):Xj op .u32 (x.toNat:Int) (y.toNat:Int) yK=ab ([],.p (.bool b),yK):=by
 have f:((x.toNat:Int)==(y.toNat:Int))=(x==y):=by
  rw[yco];simp only[yT, <-UInt32.toNat_inj];omega
 have lt:∀a b:yV,ag ((a.toNat:Int) < (b.toNat:Int))=ag (a < b):=λa b=>by
  rw[yco];simp[UInt32.lt_iff_toNat_lt]
 have le:∀a b:yV,ag ((a.toNat:Int)<=(b.toNat:Int))=ag (a<=b):=λa b=>by
  rw[yco];simp[UInt32.le_iff_toNat_le]
 cases op <;> simp only[DN,yo,reduceCtorEq]at h <;> subst h <;> simp only[Xj,GT.gt,GE.ge,lt,le,f,bne]
theorem ZIm(x:yV)(y:Int)(yK:yL ar):Ve .shl .u32 (x.toNat:Int) y (.raw::yK)=ab ([0<=y],.p (.int .u32 ((fP x (min y.toNat 32)).toNat:Int)),yK):=by
 simp only[Ve,vW,fP,ycp];simp[show IntKind.u32.bits=32 from rfl]
theorem ZIn(x:yV)(y:Int)(yK:yL ar):Ve .shr .u32 (x.toNat:Int) y (.raw::yK)=ab ([0<=y],.p (.int .u32 ((gJ x (min y.toNat 32)).toNat:Int)),yK):=by
 simp only[Ve,gJ,ycp];congr 4;rw[show IntKind.u32.bits=32 from rfl]
 have h:x.toNat / 2 ^ min y.toNat 32 < 4294967296:=ycx (Nat.div_le_self ..) (UInt32.toNat_lt _);rw[yap h];rw[show((2:Int) ^ min y.toNat 32)=((2 ^ min y.toNat 32:Nat):Int) by simp,Int.fdiv_eq_ediv_of_nonneg _ (Int.natCast_nonneg _)];rfl
def QR(x:yU)(n:Nat):yU:=yao (x.toNat*2 ^ n)
def ZE(x:yU)(n:Nat):yU:=yao (x.toNat / 2 ^ n)
theorem ZE6{n:Nat}(h:n < 18446744073709551616):IntKind.u64.wrap (n:Int)=(n:Int):=by
 simp only[IntKind.wrap,IntKind.signed,IntKind.bits];simp;omega
theorem vX(z:Int):IntKind.u64.wrap z=z % 18446744073709551616:=by
 simp only[IntKind.wrap,IntKind.signed,IntKind.bits];simp
theorem ZIo(op:BinOp)(x y:yU):bits op .u64 (x.toNat:Int) (y.toNat:Int)=((match op with|.and=>x&&&y|.or=>x|||y|.xor=>x^^^y|_=>x&&& ~~~y).toNat:Int):=by
 have e:∀z:yU,ybz (IntKind.u64.bits) (z.toNat:Int)=z.toBitVec:=λz=>by
  show ybz 64 (z.toNat:Int)=z.toBitVec;apply BitVec.eq_of_toNat_eq;rw[BitVec.ofInt_natCast,BitVec.toNat_ofNat];exact yap (ybm z)
 unfold bits;rw[e,e];cases op <;> exact ZE6 (ybm _)
def DO:BinOp->yU->yU->yO yU
 |.add,x,y=>ab (x+y)
 |.sub,x,y=>ab (x - y)
 |.mul,x,y=>ab (x*y)
 |.and,x,y=>ab (x&&&y)
 |.or,x,y=>ab (x|||y)
 |.xor,x,y=>ab (x^^^y)
 |.andNot,x,y=>ab (x&&& ~~~y)
 |_,_,_=>ad
theorem ZLs{op:BinOp}{x y z:yU}(h:DO op x y=ab z)(yK:yL ar):Xj op .u64 (x.toNat:Int) (y.toNat:Int) (.raw::yK)=ab ([],.p (.int .u64 (z.toNat:Int)),yK):=by
 cases op <;> simp only[DO,yo,reduceCtorEq]at h <;> subst h
 .simp only[Xj,gm,vX,UInt64.toNat_add];simp
 .have e:((x.toNat:Int) - (y.toNat:Int)) % 18446744073709551616=((x - y).toNat:Int):=by
   rw[UInt64.toNat_sub];have:=x.toNat_lt;have:=y.toNat_lt;omega
  simp only[Xj,gm,vX,e]
 .simp only[Xj,gm,vX,UInt64.toNat_mul];simp
 all_goals simp only[Xj,ZIo]
def DP:BinOp->yU->yU->yO yU
 |.quo,x,y=>ab (x / y)
 |.rem,x,y=>ab (x % y)
 |_,_,_=>ad
theorem ZLt{op:BinOp}{x y z:yU}(h:DP op x y=ab z)(yK:yL ar):Xj op .u64 (x.toNat:Int) (y.toNat:Int) (.raw::yK)=ab ([(y.toNat:Int)≠0],.p (.int .u64 (z.toNat:Int)),yK):=by
 cases op <;> simp only[DP,yo,reduceCtorEq]at h <;> subst h
 .simp only[Xj,UInt64.toNat_div];rw[show(x.toNat:Int).tdiv (y.toNat:Int)=((x.toNat / y.toNat:Nat):Int) from rfl,ZE6 (ycx (Nat.div_le_self ..) (ybm _))]
 .simp only[Xj,UInt64.toNat_mod];rfl
def DQ:BinOp->yU->yU->yO Bool
 |.eql,x,y=>ab (x==y)
 |.neq,x,y=>ab (x !=y)
 |.lss,x,y=>ab (ag (x < y))
 |.leq,x,y=>ab (ag (x<=y))
 |.gtr,x,y=>ab (ag (x > y))
 |.geq,x,y=>ab (ag (x >= y))
 |_,_,_=>ad
theorem ZIq{op:BinOp}{x y:yU}{b:Bool}(h:DQ op x y=ab b)(yK:yL ar):Xj op .u64 (x.toNat:Int) (y.toNat:Int) yK=ab ([],.p (.bool b),yK):=by
 have f:((x.toNat:Int)==(y.toNat:Int))=(x==y):=by
  rw[yco];simp only[yT, <-UInt64.toNat_inj];omega
 have lt:∀a b:yU,ag ((a.toNat:Int) < (b.toNat:Int))=ag (a < b):=λa b=>by
  rw[yco];simp[UInt64.lt_iff_toNat_lt]
 have le:∀a b:yU,ag ((a.toNat:Int)<=(b.toNat:Int))=ag (a<=b):=λa b=>by
  rw[yco];simp[UInt64.le_iff_toNat_le]
 cases op <;> simp only[DQ,yo,reduceCtorEq]at h <;> subst h <;> simp only[Xj,GT.gt,GE.ge,lt,le,f,bne]
theorem ZIr(x:yU)(y:Int)(yK:yL ar):Ve .shl .u64 (x.toNat:Int) y (.raw::yK)=ab ([0<=y],.p (.int .u64 ((QR x (min y.toNat 64)).toNat:Int)),yK):=by
 simp only[Ve,vX,QR,ybe];simp[show IntKind.u64.bits=64 from rfl]
theorem ZIs(x:yU)(y:Int)(yK:yL ar):Ve .shr .u64 (x.toNat:Int) y (.raw::yK)=ab ([0<=y],.p (.int .u64 ((ZE x (min y.toNat 64)).toNat:Int)),yK):=by
 simp only[Ve,ZE,ybe];congr 4;rw[show IntKind.u64.bits=64 from rfl]
 have h:x.toNat / 2 ^ min y.toNat 64 < 18446744073709551616:=ycx (Nat.div_le_self ..) (ybm _);rw[yap h];rw[show((2:Int) ^ min y.toNat 64)=((2 ^ min y.toNat 64:Nat):Int) by simp,Int.fdiv_eq_ediv_of_nonneg _ (Int.natCast_nonneg _)];rfl
inductive Num where
 |u8 (x:UInt8)|u32 (x:UInt32)|u64 (x:UInt64)
 |i (k:IntKind) (x:Int)
def TP.num:TP->yO Num
 |.v (.int k) n=>if CV k then ab (.i k n) else ad
 |.v .u8 b=>ab (.u8 b)
 |.v .u32 b=>ab (.u32 b)
 |.v .u64 b=>ab (.u64 b)
 |_=>ad
def Num.k:Num->IntKind
 |.u8 _=>.u8|.u32 _=>.u32|.u64 _=>.u64|.i k _=>k
def Num.n:Num->Int
 |.u8 x=>(x.toNat:Int)|.u32 x=>(x.toNat:Int)|.u64 x=>(x.toNat:Int)|.i _ x=>x
theorem ZNH{x:TP}{a:Num}(h:x.num=ab a):x.pe=.int a.k a.n:=by
 unfold TP.num at h;split at h
 .split at h
  .cases h;rfl
  .cases h
 .cases h;rfl
 .cases h;rfl
 .cases h;rfl
 .cases h
def TD.num:TD->yO Num
 |.p x=>x.num
 |_=>ad
theorem iD{L:Lk}{x:TD}{a:Num}(h:x.num=ab a):x.er L=.p (.int a.k a.n):=by
 unfold TD.num at h;split at h
 .rw[TD.er,ZNH h]
 .cases h
section
variable{L:Lk}{P:yg}{o:yj}{ts:yL TD}{O:Type}
def ZRg:BinOp->Bool
 |.eql|.neq|.lss|.leq|.gtr|.geq=>ae
 |_=>af
def DR:BinOp->Int->Int->yO Bool
 |.eql,x,y=>ab (x==y)
 |.neq,x,y=>ab (x !=y)
 |.lss,x,y=>ab (ag (x < y))
 |.leq,x,y=>ab (ag (x<=y))
 |.gtr,x,y=>ab (ag (x > y))
 |.geq,x,y=>ab (ag (x >= y))
 |_,_,_=>ad
theorem ZLu{op:BinOp}{k:IntKind}{x y:Int}{b:Bool}(h:DR op x y=ab b)(yK:yL ar):Xj op k x y yK=ab ([],.p (.bool b),yK):=by
 cases op <;> simp only[DR,yo,reduceCtorEq]at h <;> subst h <;> rfl
def DS(k:IntKind):BinOp->Int->Int->yO Int
 |.add,x,y=>ab (k.wrap (x+y))
 |.sub,x,y=>ab (k.wrap (x - y))
 |.mul,x,y=>ab (k.wrap (x*y))
 |.and,x,y=>ab (bits .and k x y)
 |.or,x,y=>ab (bits .or k x y)
 |.xor,x,y=>ab (bits .xor k x y)
 |.andNot,x,y=>ab (bits .andNot k x y)
 |_,_,_=>ad
theorem ZNJ{op:BinOp}{k:IntKind}{x y z:Int}(h:DS k op x y=ab z)(yK:yL ar):Xj op k x y (.raw::yK)=ab ([],.p (.int k z),yK):=by
 cases op <;> simp only[DS,yo,reduceCtorEq]at h <;> subst h <;> rfl
def DT(k:IntKind):BinOp->Int->Int->yO Int
 |.quo,x,y=>ab (k.wrap (x.tdiv y))
 |.rem,x,y=>ab (x.tmod y)
 |_,_,_=>ad
theorem ZNK{op:BinOp}{k:IntKind}{x y z:Int}(h:DT k op x y=ab z)(yK:yL ar):Xj op k x y (.raw::yK)=ab ([y≠0],.p (.int k z),yK):=by
 cases op <;> simp only[DT,yo,reduceCtorEq]at h <;> subst h <;> rfl
def pz(b:yO Bool)(o:yO TP)(d:yO TP)(f:Bool)(K:TD->yL ar->yO O):yO O:=
 match b,o,d with
 |some b,_,_=>K (.p (.v .bool b)) []
 |none,ab z,_=>K (.p z) [.raw]
 |none,ad,ab z=>if f=ae then K (.p z) [.raw] else ad
 |none,ad,ad=>ad
def DU(op:BinOp)(x y:Num)(K:TD->yL ar->yO O):yO O:=
 match x,y with
 |.u8 a,.u8 b=>pz (DK op a b) ((DI op a b).map (.v .u8)) ((DJ op a b).map (.v .u8)) (b !=0) K
 |.u32 a,.u32 b=>pz (DN op a b) ((DL op a b).map (.v .u32)) ((DM op a b).map (.v .u32)) (b !=0) K
 |.u64 a,.u64 b=>pz (DQ op a b) ((DO op a b).map (.v .u64)) ((DP op a b).map (.v .u64)) (b !=0) K
 |.i k a,.i l b=>if k=l/\CV k=ae then pz (DR op a b) ((DS k op a b).map (.v (.int k))) ((DT k op a b).map (.v (.int k))) (b !=0) K else ad
 |_,_=>ad
theorem vY{k:IntKind}{op:BinOp}{x y:Int}{b:yO Bool}{o d:yO TP}{f:Bool}{K:TD->yL ar->yO O}{out:O}(h:pz b o d f K=ab out)
 (hb:∀c,b=ab c->∀yK,Xj op k x y yK=ab ([],.p (.bool c),yK))
 (ho:∀z,o=ab z->∀yK,Xj op k x y (.raw::yK)=ab ([],.p z.pe,yK))
 (hd:∀z,d=ab z->∀yK,Xj op k x y (.raw::yK)=ab ([y≠0],.p z.pe,yK)) (hz:f=ae->y≠0):
 ∃d hs C,K d hs=ab out/\aZ C/\∀yK,Xj op k x y (hs++yK)=ab (C,d.er L,yK):=by
 unfold pz at h;split at h
 .exact⟨_,_,[],h,zP,hb _ rfl⟩
 .exact⟨_,_,[],h,zP,ho _ rfl⟩
 .obtain⟨g,j⟩:=Zb h;exact⟨_,_,[y≠0],j,⟨hz g,ao⟩,hd _ rfl⟩
 .cases h
theorem ZBe{op:BinOp}{x y:Num}{K:TD->yL ar->yO O}{out:O}(h:DU op x y K=ab out):
 x.k=y.k/\∃d hs C,K d hs=ab out/\aZ C/\∀yK,Xj op x.k x.n y.n (hs++yK)=ab (C,d.er L,yK):=by
 unfold DU at h;split at h
 .rename_i a b;refine⟨rfl,vY h (λc j=>ZLn j) (λz f=> ?_) (λz f=> ?_) (λf=> ?_)⟩
  .obtain⟨q,g,rfl⟩:=Ze f;exact ZNA g
  .obtain⟨q,g,rfl⟩:=Ze f;exact ZNB g
  .simp only[yE,ne_eq]at f;intro e;exact f (UInt8.toNat_inj.1 (by simp only[Num.n]at e;show b.toNat=0;omega))
 .rename_i a b;refine⟨rfl,vY h (λc j=>ZIl j) (λz f=> ?_) (λz f=> ?_) (λf=> ?_)⟩
  .obtain⟨q,g,rfl⟩:=Ze f;exact ZLq g
  .obtain⟨q,g,rfl⟩:=Ze f;exact ZLr g
  .simp only[yE,ne_eq]at f;intro e;exact f (UInt32.toNat_inj.1 (by simp only[Num.n]at e;show b.toNat=0;omega))
 .rename_i a b;refine⟨rfl,vY h (λc j=>ZIq j) (λz f=> ?_) (λz f=> ?_) (λf=> ?_)⟩
  .obtain⟨q,g,rfl⟩:=Ze f;exact ZLs g
  .obtain⟨q,g,rfl⟩:=Ze f;exact ZLt g
  .simp only[yE,ne_eq]at f;intro e;exact f (UInt64.toNat_inj.1 (by simp only[Num.n]at e;show b.toNat=0;omega))
 .rename_i k a l b;split at h
  .rename_i e;obtain⟨rfl,e⟩:=e;refine⟨rfl,vY h (λc j=>ZLu j) (λz f=> ?_) (λz f=> ?_) (λf=> ?_)⟩
   .obtain⟨q,g,rfl⟩:=Ze f;exact ZNJ g
   .obtain⟨q,g,rfl⟩:=Ze f;exact ZNK g
   .simpa[Num.n] using f
  .cases h
 .cases h
def DV:Num->Bool
 |.i _ n=>ag (0<=n)
 |_=>ae
theorem ZDt{x:Num}(h:DV x=ae):0<=x.n:=by
 cases x <;> simp only[DV,Num.n,yP]at h ⊢ <;> omega
def DW(op:BinOp)(x y:Num):yO TP:=
 match op,x with
 |.shl,.u8 a=>ab (.v .u8 (DG a (min y.n.toNat 8)))
 |.shl,.u32 a=>ab (.v .u32 (fP a (min y.n.toNat 32)))
 |.shl,.u64 a=>ab (.v .u64 (QR a (min y.n.toNat 64)))
 |.shl,.i k a=>ab (.v (.int k) (k.wrap (a*2 ^ min y.n.toNat k.bits)))
 |.shr,.u8 a=>ab (.v .u8 (DH a (min y.n.toNat 8)))
 |.shr,.u32 a=>ab (.v .u32 (gJ a (min y.n.toNat 32)))
 |.shr,.u64 a=>ab (.v .u64 (ZE a (min y.n.toNat 64)))
 |.shr,.i k a=>ab (.v (.int k) (a.fdiv (2 ^ min y.n.toNat k.bits)))
 |_,_=>ad
theorem ZNL{op:BinOp}{x y:Num}{z:TP}(h:DW op x y=ab z)(yK:yL ar):Ve op x.k x.n y.n (.raw::yK)=ab ([0<=y.n],.p z.pe,yK):=by
 unfold DW at h
 split at h <;> first
  |(cases h;first|exact ZLo .. |exact ZIm .. |exact ZIr .. |exact ZLp .. |exact ZIn .. |exact ZIs .. |rfl)
  |cases h
mutual
def Ty.flat:Ty->Bool
 |.sl _=>af
 |.str=>af
 |.arr _ t=>Ty.flat t
 |.st f=>Ty.aW f
 |_=>ae
def Ty.aW:yL Ty->Bool
 |[]=>ae
 |t::r=>Ty.flat t&&Ty.aW r
end
mutual
theorem rM:∀(t:Ty)(x y:t.aT),t.flat=ae->t.enc x=t.enc y->x=y
 |.int k,x,y,_,h=>by injection h
 |.u8,x,y,_,h=>by injection h with _ h;exact UInt8.toNat_inj.1 (by omega)
 |.u32,x,y,_,h=>by injection h with _ h;exact UInt32.toNat_inj.1 (by omega)
 |.u64,x,y,_,h=>by injection h with _ h;exact UInt64.toNat_inj.1 (by omega)
 |.bool,x,y,_,h=>by injection h
 |.str,_,_,f,_=>nomatch f
 |.sl _,_,_,f,_=>nomatch f
 |.arr n t,x,y,f,h=>by
  injection h with _ _ h
  exact ZEV (λa b e=>rM t a b f e) h
 |.st g,x,y,f,h=>by
  injection h with h;exact gy g x y f h
theorem gy:∀(g:yL Ty)(x y:Ty.aK g),Ty.aW g=ae->Ty.encs g x=Ty.encs g y->x=y
 |[],_,_,_,_=>rfl
 |[t],x,y,j,h=>by
  simp only[Ty.encs,List.cons.injEq,and_true]at h;simp only[Ty.aW,Bool.and_true]at j
  exact rM t x y j h
 |t::u::r,x,y,j,h=>by
  have l:t.enc x.1::Ty.encs (u::r) x.2=t.enc y.1::Ty.encs (u::r) y.2:=h;have f:(t.flat&&Ty.aW (u::r))=ae:=j;rw[yi]at f;injection l with m z;exact Prod.ext (rM t x.1 y.1 f.1 m) (gy (u::r) x.2 y.2 f.2 z)
end
mutual
def Ty.eK:(t:Ty)->DecidableEq t.aT
 |.int _=>inferInstanceAs (DecidableEq Int)
 |.u8=>inferInstanceAs (DecidableEq yB)
 |.u32=>inferInstanceAs (DecidableEq yV)
 |.u64=>inferInstanceAs (DecidableEq yU)
 |.bool=>inferInstanceAs (DecidableEq Bool)
 |.str=>inferInstanceAs (DecidableEq ByteArray)
 |.sl t=>@instDecidableEqList t.aT (Ty.eK t)
 |.arr _ t=>@instDecidableEqList t.aT (Ty.eK t)
 |.st f=>Ty.rN f
def Ty.rN:(f:yL Ty)->DecidableEq (Ty.aK f)
 |[]=>inferInstanceAs (DecidableEq Unit)
 |[t]=>Ty.eK t
 |t::u::r=>@instDecidableEqProd t.aT (Ty.aK (u::r)) (Ty.eK t) (Ty.rN (u::r))
end
mutual
def mB(P:yg):Nat->yc->Ty->Bool
 |0,_,_=>af
 |n+1,t,T=>match P.underlying t,T with
  |some .bool,.bool=>ae
  |some (.int .u8),.u8=>ae
  |some (.int .u32),.u32=>ae
  |some (.int .u64),.u64=>ae
  |some (.int k),.int l=>ag (k=l)
  |some (.array m e),.arr f U=>ag (f=m)&&(ag (P.cellsOf e=U.size)&&(ag (U.size≠0)&&((P.info? e).isSome&&((P.underlying e).isSome&&(ag (X0 P e=U.isAgg)&&mB P n e U)))))
  |some (.struct g),.st Ts=>ag (P.stoodInHeld t=af)&&fj P n g.toList 0 Ts
  |_,_=>af
def fj(P:yg):Nat->yL Field->Nat->yL Ty->Bool
 |0,_,_,_=>af
 |_+1,[],_,[]=>ae
 |n+1,f::g,o,T::Ts=>ag (f.name≠ "_")&&(ag (f.offset=o)&&(ag (P.cellsOf f.type=T.size)&&((P.info? f.type).isSome&&((P.underlying f.type).isSome&&(ag (X0 P f.type=T.isAgg)&&(ag (T.size≠0)&&(mB P n f.type T&&fj P n g (o+T.size) Ts)))))))
 |_+1,_,_,_=>af
end
mutual
theorem rO:∀(n:Nat)(t:yc)(T:Ty),mB P n t T=ae->∀(x:T.aT),bu P n t (T.enc x)
 |0,_,_,h,_=>by simp[mB]at h
 |n+1,t,T,h,x=>by
  simp only[mB]at h;unfold bu;split at h
  .rename_i f;rw[f];trivial
  .rename_i f;rw[f];exact rfl
  .rename_i f;rw[f];exact rfl
  .rename_i f;rw[f];exact rfl
  .rename_i f;rw[f];simp only[yP]at h;exact h.symm
  .rename_i m e M U f;simp only[yi,yP]at h;obtain⟨g,j,l,A,B,E,F⟩:=h;rw[f];refine⟨g,j,l,A,B,λy G=> ?_⟩;obtain⟨z,_,rfl⟩:=List.mem_map.1 G;exact⟨rO n e U F z,px U z,by rw[vU];exact E⟩
  .rename_i I Ts f;simp only[yi,yP]at h;rw[f];exact⟨h.1,vE (λt x k=>k) _ _ _ (gz n I.toList 0 Ts h.2 x)⟩
  .cases h
theorem gz:∀(n:Nat)(g:yL Field)(o:Nat)(Ts:yL Ty),fj P n g o Ts=ae->∀(x:Ty.aK Ts),iu P (bu P n) g o (Ty.encs Ts x)
 |0,_,_,_,h,_=>by simp[fj]at h
 |n+1,[],_,[],_,_=>trivial
 |n+1,[],_,_::_,h,_=>by simp[fj]at h
 |n+1,_::_,_,[],h,_=>by simp[fj]at h
 |n+1,f::g,o,T::Ts,h,x=>by
  simp only[fj,yi,yP]at h;obtain⟨l,m,y,z,A,B,E,F,G⟩:=h
  have j:∃(a:T.aT)(b:Ty.aK Ts),Ty.encs (T::Ts) x=T.enc a::Ty.encs Ts b:=by
   cases Ts with
   |nil=>exact⟨x,(),rfl⟩
   |cons U r=>exact⟨x.1,x.2,rfl⟩
  obtain⟨a,b,e⟩:=j;rw[e];refine⟨l,m,by rw[px];exact y,z,A,by rw[vU];exact B,by rw[px];exact E,vF (rO n f.type T F a), ?_⟩;rw[px];exact vE (λt x k=>vF k) _ _ _ (gz n g _ Ts G b)
end
end
end Go.Ev
end
section
namespace Go.Ev
section
variable{L:Lk}{P:yg}{o:yj}{ts:yL TD}{O:Type}
def DX(r:ni):yO Bool:=
 match r with
 |some ([],.p (.bool b),[])=>ab b
 |_=>ad
theorem ZxI{t:yc}{x y:Dv}{b:Bool}(h:ja P t x y []=ab ([],b,[]))(yK:yL ar):ja P t x y yK=ab ([],b,yK):=by
 unfold ja at h ⊢
 split at h <;> first
  |(simp only[yo,yq,and_true,true_and]at h;subst h;rfl)
  |cases h
  |(split at h <;> first|(rename_i e;cases e)|cases h)
theorem ZGx{op:BinOp}{t:yc}{x y:Dv}{b:Bool}(h:DX (gH P op t x y [])=ab b)(yK:yL ar):gH P op t x y yK=ab ([],.p (.bool b),yK):=by
 have f:gH P op t x y []=ab ([],.p (.bool b),[]):=by
  unfold DX at h;split at h
  .rename_i e;cases h;exact e
  .cases h
 clear h;unfold gH at f ⊢;split at f
 .split at f
  .cases op <;> simp[Ve]at f
  .split at f
   .rename_i k a B E _ l;simp only[l,if_true];rename_i hs;simp only[hs,if_false];cases op <;> simp only[Xj,gm,yo,yq,Dv.p.injEq,Pl.bool.injEq,and_true,true_and,reduceCtorEq]at f ⊢ <;> first|exact f|skip
    all_goals first|(cases f;done)|(cases f;simp;done)|(simp[uH]at f;done)
   .cases f
 .cases op <;> simp only[yo,yq,Dv.p.injEq,Pl.bool.injEq,and_true,true_and,reduceCtorEq]at f ⊢ <;> exact f
 .rename_i F G;cases op <;> first|cases f|skip
  .obtain⟨q,j,g⟩:=Ze f;simp only[yq,Dv.p.injEq,Pl.bool.injEq]at g;obtain⟨m,z,A⟩:=q;obtain⟨rfl,rfl,rfl⟩:=g;simp only[ZxI j yK,yae]
  .obtain⟨q,j,g⟩:=Ze f;simp only[yq,Dv.p.injEq,Pl.bool.injEq]at g;obtain⟨m,z,A⟩:=q;obtain⟨rfl,rfl,rfl⟩:=g;simp only[ZxI j yK,yae]
def TD.val:TD->yO (Σ t:Ty,t.aT)
 |.p (.v t x)=>ab ⟨t,x⟩
 |_=>ad
theorem DY{x:TD}{q:Σ t:Ty,t.aT}(h:x.val=ab q):x.er L=.p (q.1.enc q.2):=by
 unfold TD.val at h;split at h
 .cases h;rfl
 .cases h
def DZ(P:yg)(t:yc):Bool:=
 match P.underlying t with
 |some (.array _ _)=>ae
 |some (.struct _)=>ae
 |_=>af
def EA(P:yg)(op:BinOp)(t:yc)(x y:TD)(K:TD->yL ar->yO O):yO O:=
 match x.val,y.val with
 |some a,ab b=>(Ty.cast b.1 a.1 b.2).bind λz=>
  if DZ P t&&(a.1.isAgg&&(a.1.flat&&(mB P 20 t a.1&&ag (P.eqGuardType P.depth t=af)))) then
   match op with
   |.eql=>K (.p (.v .bool (@decide (a.2=z) (Ty.eK a.1 a.2 z)))) [.b (@decide (a.2=z) (Ty.eK a.1 a.2 z))]
   |.neq=>K (.p (.v .bool (!(@decide (a.2=z) (Ty.eK a.1 a.2 z))))) [.b (@decide (a.2=z) (Ty.eK a.1 a.2 z))]
   |_=>ad
  else ad
 |_,_=>ad
theorem rP{t:yc}{a:Σ t:Ty,t.aT}{z:a.1.aT}(h1:DZ P t=ae)(h2:a.1.isAgg=ae)(h3:a.1.flat=ae)(h4:mB P 20 t a.1=ae)(h5:P.eqGuardType P.depth t=af)(yK:yL ar):
 ∃C,aZ C/\ja P t (.p (a.1.enc a.2)) (.p (a.1.enc z)) (.b (@decide (a.2=z) (Ty.eK a.1 a.2 z))::yK)=ab (C,@decide (a.2=z) (Ty.eK a.1 a.2 z),yK)/\C=[bu P 20 t (a.1.enc a.2),bu P 20 t (a.1.enc z),(@decide (a.2=z) (Ty.eK a.1 a.2 z)=ae↔a.1.enc a.2=a.1.enc z)]:=by
 have f1:=rO 20 t a.1 h4 a.2;have f2:=rO 20 t a.1 h4 z
 have f3:(@decide (a.2=z) (Ty.eK a.1 a.2 z)=ae↔a.1.enc a.2=a.1.enc z):=by
  rw[@decide_eq_true_iff _ (Ty.eK a.1 a.2 z)];exact⟨λe=>by rw[e],λe=>rM a.1 _ _ h3 e⟩
 refine⟨[bu P 20 t (a.1.enc a.2),bu P 20 t (a.1.enc z),(@decide (a.2=z) (Ty.eK a.1 a.2 z)=ae↔a.1.enc a.2=a.1.enc z)],⟨f1,f2,f3,ao⟩, ?_,rfl⟩;generalize @decide (a.2=z) (Ty.eK a.1 a.2 z)=β at f3;generalize a.1.enc a.2=p at f1 f3 ⊢;generalize a.1.enc z=q at f2 f3 ⊢;clear f3;unfold DZ at h1;unfold bu at f1 f2;unfold ja;split at h1
 .rename_i m e f;rw[f]at f1 f2 ⊢;cases p <;> first|exact f1.elim|skip
  cases q <;> first|exact f2.elim|skip
  dsimp only;rw[yW h5]
 .rename_i m f;rw[f]at f1 f2 ⊢;cases p <;> first|exact f1.elim|skip
  cases q <;> first|exact f2.elim|skip
  dsimp only;rw[yW h5]
 .cases h1
theorem ZxJ{t:yc}{x y:Pl}(f:x.isAgg=ae)(op:BinOp)(hs:yL ar)(h:op=.eql\/op=.neq):gH P op t (.p x) (.p y) hs=(ja P t (.p x) (.p y) hs).map λr=>(r.1,.p (.bool (if op=.eql then r.2.1 else !r.2.1)),r.2.2):=by
 cases x <;> first|cases f|skip
 all_goals (unfold gH;rcases h with rfl|rfl <;> rfl)
theorem ZIt{op:BinOp}{t:yc}{x y:TD}{K:TD->yL ar->yO O}{out:O}(h:EA P op t x y K=ab out):∃d hs C,K d hs=ab out/\aZ C/\∀yK,gH P op t (x.er L) (y.er L) (hs++yK)=ab (C,d.er L,yK):=by
 unfold EA at h;split at h
 .rename_i a b E M;obtain⟨z,Q,h⟩:=yf.1 h;obtain⟨F,h⟩:=Zb h;simp only[yi,yP]at F;obtain⟨g,f,j,l,m⟩:=F
  have G:y.er L=.p (a.1.enc z):=by
   obtain⟨e,rfl⟩:=QG Q;rw[DY M];cases a;cases b;cases e;rfl
  have I:(a.1.enc a.2).isAgg=ae:=by rw[vU];exact f
  split at h
  .obtain⟨C,A,B,_⟩:=rP (P:=P) (z:=z) g f j l m [];refine⟨_,_,[bu P 20 t (a.1.enc a.2),bu P 20 t (a.1.enc z),(@decide (a.2=z) (Ty.eK a.1 a.2 z)=ae↔a.1.enc a.2=a.1.enc z)],h, ?_,λyK=> ?_⟩
   .obtain⟨C,A,_,rfl⟩:=rP (P:=P) (z:=z) g f j l m [];exact A
   .obtain⟨C,_,B,rfl⟩:=rP (P:=P) (z:=z) g f j l m yK;rw[DY E,G,ZxJ I _ _ (.inl rfl),yaf,yz,B];rfl
  .refine⟨_,_,[bu P 20 t (a.1.enc a.2),bu P 20 t (a.1.enc z),(@decide (a.2=z) (Ty.eK a.1 a.2 z)=ae↔a.1.enc a.2=a.1.enc z)],h, ?_,λyK=> ?_⟩
   .obtain⟨C,A,_,rfl⟩:=rP (P:=P) (z:=z) g f j l m [];exact A
   .obtain⟨C,_,B,rfl⟩:=rP (P:=P) (z:=z) g f j l m yK;rw[DY E,G,ZxJ I _ _ (.inr rfl),yaf,yz,B];rfl
  .cases h
 .cases h
def EB(L:Lk)(x y:TD):yO Bool:=
 match y with
 |.p (.sl (ab af) _ [])=>match x.row L with
  |some ⟨ad,_,l⟩=>ab l.isEmpty
  |_=>ad
 |_=>ad
theorem ZLv{x y:TD}{b:Bool}(h:EB L x y=ab b):∃s xs f,(x.er L=.p (.sl ad s xs)\/∃id,x.er L=.own id ad s xs)/\y.er L=.p (.sl (ab af) f [])/\xs.isEmpty=b:=by
 unfold EB at h;split at h
 .split at h
  .rename_i T q t l g;cases h;refine⟨t.size,l.map t.enc,T.size, ?_,rfl,by cases l <;> rfl⟩;rcases mA g with h|⟨id,h⟩
   .exact .inl h
   .exact .inr ⟨id,h⟩
  .cases h
 .cases h
def ZPf(P:yg)(op:BinOp)(t:yc)(b:Bool)(K:TD->yL ar->yO O):yO O:=
 match P.underlying t with
 |some (.slice _)=>if b=ae then ad else match op with
  |.eql=>K (.p (.v .bool af)) [.bare]
  |.neq=>K (.p (.v .bool ae)) [.bare]
  |_=>ad
 |_=>ad
def EC(L:Lk)(P:yg)(op:BinOp)(t:yc)(x y:TD)(K:TD->yL ar->yO O):yO O:=
 match x.num,y.num with
 |some a,ab b=>if AT op then(DW op a b).bind λz=>if DV b=ae then K (.p z) [.raw] else ad else DU op a b K
 |_,_=>match DX (gH P op t (x.er L) (y.er L) []) with
  |some b=>K (.p (.v .bool b)) []
  |none=>match EB L x y with
   |some b=>ZPf P op t b K
   |none=>EA P op t x y K
theorem ZGy{op:BinOp}{t:yc}{x y:TD}{K:TD->yL ar->yO O}{out:O}(h:EC L P op t x y K=ab out):∃d hs C,K d hs=ab out/\aZ C/\∀yK,gH P op t (x.er L) (y.er L) (hs++yK)=ab (C,d.er L,yK):=by
 unfold EC at h;split at h
 .rename_i a b G l;rw[iD G,iD l];split at h
  .rename_i g;obtain⟨z,f,h⟩:=yf.1 h;obtain⟨j,h⟩:=Zb h;refine⟨_,_,[0<=b.n],h,⟨ZDt j,ao⟩,λyK=> ?_⟩;unfold gH;dsimp only;rw[yW g];exact ZNL f yK
  .rename_i g;obtain⟨I,d,hs,C,f,j,A⟩:=ZBe h;refine⟨d,hs,C,f,j,λyK=> ?_⟩;unfold gH;dsimp only;rw[yX g,yW I];exact A yK
 .split at h
  .rename_i b l;exact⟨_,_,[],h,zP,ZGx l⟩
  .split at h
   .rename_i b l;obtain⟨s,B,M,f,j,A⟩:=ZLv l;unfold ZPf at h;split at h
    .rename_i e F;split at h
     .cases h
     .rename_i E;have m:B≠[]:=by rintro rfl;exact E (by rw[<-A];rfl)
      split at h
      .refine⟨_,_,[B≠[]],h,⟨m,ao⟩,λyK=> ?_⟩;unfold gH;rcases f with f|⟨id,f⟩ <;> (rw[f,j];dsimp only;unfold ja;rw[F];rfl)
      .refine⟨_,_,[B≠[]],h,⟨m,ao⟩,λyK=> ?_⟩;unfold gH;rcases f with f|⟨id,f⟩ <;> (rw[f,j];dsimp only;unfold ja;rw[F];rfl)
      .cases h
    .cases h
   .exact ZIt h
def ED(k:IntKind):Num->yO TP
 |.u8 b=>match k with
  |.u8=>ab (.v .u8 b)
  |.u32=>ab (.v .u32 (ybn b.toNat))
  |.u64=>ab (.v .u64 (yao b.toNat))
  |.i64=>ab (.v (.int .i64) (b.toNat:Int))
  |_=>ad
 |.u32 b=>match k with
  |.u32=>ab (.v .u32 b)
  |.u64=>ab (.v .u64 (yao b.toNat))
  |.i64=>ab (.v (.int .i64) (b.toNat:Int))
  |_=>ad
 |.u64 b=>match k with
  |.u64=>ab (.v .u64 b)
  |_=>ad
 |.i _ _=>ad
theorem ZDu{k:IntKind}{a:Num}{z:TP}(h:ED k a=ab z):WW k a.n/\z.pe=.int k a.n:=by
 unfold ED at h;split at h
 .rename_i b;have:=b.toNat_lt;split at h <;> first|cases h|skip
  all_goals
   refine⟨?_, ?_⟩
   .simp only[WW,IntKind.min,IntKind.max,IntKind.signed,IntKind.bits,Num.n];constructor <;> simp<;> omega
   .simp only[TP.pe,Ty.enc,Num.n,ycp,ybe]
    try (congr 2;omega)
 .rename_i b;have:=b.toNat_lt;split at h <;> first|cases h|skip
  all_goals
   refine⟨?_, ?_⟩
   .simp only[WW,IntKind.min,IntKind.max,IntKind.signed,IntKind.bits,Num.n];constructor <;> simp<;> omega
   .simp only[TP.pe,Ty.enc,Num.n,ycp,ybe]
    try (congr 2;omega)
 .rename_i b;have:=b.toNat_lt;split at h <;> first|cases h|skip
  refine⟨?_,rfl⟩;simp only[WW,IntKind.min,IntKind.max,IntKind.signed,IntKind.bits,Num.n];constructor <;> simp<;> omega
 .cases h
def bytesOf(l:yL yB):ByteArray:=⟨l.toArray⟩
theorem ZBg(l:yL yB):l.map (Ty.enc .u8)=(bytesOf l).data.toList.map λx=>.int .u8 (x.toNat:Int):=rfl
def ZPg(P:yg)(e:yc)(K:TD->yL ar->yO O)(r:Row):yO O:=
 (Ty.bv r.t .u8 r.l).bind λl=>match P.underlying e with
   |some (.int .u8)=>K (.p (.v .str (bytesOf l))) [.el (.str (bytesOf l))]
   |_=>ad
def EE:TD->yO ByteArray
 |.p (.v t s)=>match t with
  |.str=>ab s
  |_=>ad
 |_=>ad
theorem ZLw{L:Lk}{x:TD}{b:ByteArray}(h:EE x=ab b):x.er L=.p (.str b):=by
 unfold EE at h;split at h
 .split at h
  .cases h;rfl
  .cases h
 .cases h
def EF(L:Lk)(P:yg)(src dst:yc)(K:TD->yL ar->yO O)(x:TD):yO O:=
 match P.underlying src,P.underlying dst with
 |some _,ab (.int k)=>x.num.bind λa=>match ED k a with
  |some z=>K (.p z) [.bare]
  |none=>K (.p (vN k a.n)) [.raw]
 |some (.slice e),ab .string=>(x.row L).bind (ZPg P e K)
 |some .string,ab (.slice e)=>(EE x).bind λb=>match P.underlying e with
  |some (.int .u8)=>if ag (b.size<=maxLen)=ae then K (.p (.sl (ab ae) .u8 b.data.toList)) [] else ad
  |_=>ad
 |_,_=>ad
theorem ZDv{src dst:yc}{x:yp}{K:TD->yL ar->yO O}{G:TD}{out:O}(ho:o.op=.convert src dst x)(M:bo P ts src x=ab G)(h:EF L P src dst K G=ab out):∃d hs,K d hs=ab out/\dp L P o ts d hs:=by
 have j:=Zs (L:=L) M;unfold EF at h;split at h
 .rename_i q k f g;obtain⟨a,y,h⟩:=yf.1 h;rw[iD y]at j;split at h
  .rename_i z Q;obtain⟨R,S⟩:=ZDu Q;refine⟨_,_,h,[WW k a.n],⟨R,ao⟩,λB=> ?_⟩;unfold bj;rw[ho];dsimp only;rw[f,g,j,TD.er,S];rfl
  .refine⟨_,_,h,[],zP,λB=> ?_⟩;unfold bj;rw[ho];dsimp only;rw[f,g,j,TD.er,ZE0];rfl
 .rename_i e f g;obtain⟨r,y,h⟩:=yf.1 h;unfold ZPg at h;obtain⟨l,m,E⟩:=yf.1 h;split at E
  .rename_i A;obtain⟨T,rt,U⟩:=r;obtain⟨I,m⟩:=ZF m;dsimp only at I m;subst I;subst m;refine⟨_,_,E,[l.map (Ty.enc .u8)=(bytesOf l).data.toList.map λx=>.int .u8 (x.toNat:Int)],⟨ZBg l,ao⟩,λB=> ?_⟩;unfold bj;rw[ho];dsimp only;rcases mA y with F|⟨id,F⟩
   .rw[f,g,j,F];dsimp only;rw[yaf,yz,A];dsimp only;rw[yW (show Ty.u8.size=1 from rfl)]
    rfl
   .rw[f,g,j,F];dsimp only;rw[yaf,yz,A];dsimp only;rw[yW (show Ty.u8.size=1 from rfl)]
    rfl
  .cases E
 .rename_i e f g;obtain⟨b,y,h⟩:=yf.1 h;split at h
  .rename_i A;obtain⟨m,h⟩:=Zb h;refine⟨_,_,h,[b.size<=maxLen],⟨yF m,ao⟩,λB=> ?_⟩;unfold bj;rw[ho];dsimp only;rw[f,g,j,ZLw y];dsimp only;rw[A];rfl
  .cases h
 .cases h
def rQ(P:yg)(ts:yL TD)(f:Nat->yc):yL (Nat×yp)->yO (yL (Nat×TD))
 |[]=>ab []
 |q::r=>match bo P ts (f q.1) q.2,rQ P ts f r with
  |some d,ab l=>ab ((q.1,d)::l)
  |_,_=>ad
theorem vZ{f:Nat->yc}:∀{parts:yL (Nat×yp)}{l:yL (Nat×TD)},rQ P ts f parts=ab l->gL P (TD.aE L ts) f parts=l.map λq=>(q.1,q.2.er L)
 |[],l,h=>by cases h;rfl
 |q::r,l,h=>by
  simp only[rQ]at h;split at h
  .rename_i d m g j;cases h;have:=vZ j;simp only[gL,yag]at this ⊢;rw[this,Zs g]
  .cases h
def rR(L:Lk):yL TD->yL (Nat×TD)->yO (yL TD)
 |f,[]=>ab f
 |f,(i,d)::r=>match f[i]? with
  |some g=>if(g.er L).size=(d.er L).size then rR L (f.set i d) r else ad
  |none=>ad
theorem EG:∀{l:yL (Nat×TD)}{f es:yL TD},rR L f l=ab es->iv (TD.aE L f) (l.map λq=>(q.1,q.2.er L))=ab (TD.aE L es)
 |[],f,es,h=>by cases h;rfl
 |(i,d)::r,f,es,h=>by
  simp only[rR]at h;split at h
  .rename_i g j;split at h
   .rename_i m;have:=EG h;simp only[yag,iv,uI];rw[ll j];dsimp only;rw[yW m];rw[show(TD.aE L f).set i (d.er L)=TD.aE L (f.set i d) by rw[ZI,ZI,List.map_set]];exact this
   .cases h
  .cases h
def rS(P:yg):yL yc->yL Pl->yO (yL TP)
 |[],[]=>ab []
 |t::r,z::q=>match vQ P t z,rS P r q with
  |some a,ab b=>ab (a::b)
  |_,_=>ad
 |_,_=>ad
theorem EH:∀{l:yL yc}{zs:yL Pl}{r:yL TP},rS P l zs=ab r->TP.cj r=zs
 |[],[],r,h=>by cases h;rfl
 |[],_::_,r,h=>by cases h
 |_::_,[],r,h=>by cases h
 |t::l,z::zs,r,h=>by
  simp only[rS]at h;split at h
  .rename_i a b f g;cases h;rw[TP.cj,CZ f,EH g]
  .cases h
def mC(L:Lk):yL TD->yO (yL TP)
 |[]=>ab []
 |d::r=>match d.plain L,mC L r with
  |some a,ab b=>ab (a::b)
  |_,_=>ad
theorem ZuH{x:TD}(h:x.plain L=ad):(x.er L).plain=ad:=by
 cases x <;> first|rfl|cases h
theorem EI:∀(f:yL TD),ju (TD.aE L f)=(mC L f).map TP.cj
 |[]=>rfl
 |d::r=>by
  simp only[TD.aE,ju,mC];rw[EI r]
  cases h:d.plain L with
  |none=>rw[ZuH h];cases mC L r <;> rfl
  |some a=>
   rw[ZxH h];cases mC L r <;> rfl
def EJ(L:Lk)(P:yg)(t:yc)(f:yL TD):TD:=
 match mC L f with
 |some l=>.p (vO P t l)
 |none=>.agg f
theorem ZGz(t:yc)(f:yL TD):(EJ L P t f).er L=qG (TD.aE L f):=by
 unfold EJ qG;rw[EI]
 cases mC L f with
 |none=>rfl
 |some l=>simp only[TD.er,ZE1,yae]
theorem EK(l:yL TP):TD.aE L (l.map .p)=(TP.cj l).map .p:=by
 rw[ZI,VL,yaw,yaw];rfl
def EL(L:Lk)(P:yg)(ts:yL TD)(t:yc)(parts:yL (Nat×yp))(K:TD->yL ar->yO O):yO O:=
 match P.underlying t,bf P t with
 |some (.struct h),.p (.agg zs)=>(rS P (h.toList.map (·.type)) zs).bind λj=>(rQ P ts (jv P t) parts).bind λf=>
  if(lY (f.map λq=>(q.1,q.2.er L))&&h.size==zs.length&&(yn zs.length).all λi=>kg P h i (Pl.sizes (zs.take i)) ((zs.getD i default).size) ((zs.getD i default).isAgg))=ae then
   (rR L (j.map .p) f).bind λg=>K (EJ L P t g) [] else ad
 |some (.array _ e),.p (.arr n s zs)=>(rS P (yx zs.length e) zs).bind λj=>(rQ P ts (jv P t) parts).bind λf=>
  if(lY (f.map λq=>(q.1,q.2.er L))&&P.cellsOf e=s&&(P.info? e).isSome)=ae then
   (rR L (j.map .p) f).bind λg=>match mC L g with
     |some l=>K (.p (vP P t n s l)) []
     |none=>K (.arr n s g) [] else ad
 |_,_=>ad
theorem ZBh{t:yc}{parts:Array (Nat×yp)}{K:TD->yL ar->yO O}{out:O}(ho:o.op=.build t parts)(h:EL L P ts t parts.toList K=ab out):∃d hs,K d hs=ab out/\dp L P o ts d hs:=by
 unfold EL at h;split at h
 .rename_i Q zs f g;obtain⟨I,z,h⟩:=yf.1 h;obtain⟨M,j,h⟩:=yf.1 h;obtain⟨y,h⟩:=Zb h;obtain⟨E,A,h⟩:=yf.1 h;refine⟨_,_,h,[],zP,λF=> ?_⟩;simp only[yz];unfold bj;rw[ho];dsimp only;rw[f,g];dsimp only;rw[vZ j,yW y];have:=EG A;rw[EK,EH z]at this;rw[this,ZGz];rfl
 .rename_i m e n s zs f g;obtain⟨I,z,h⟩:=yf.1 h;obtain⟨M,j,h⟩:=yf.1 h;obtain⟨y,h⟩:=Zb h;obtain⟨E,A,h⟩:=yf.1 h;have:=EG A;rw[EK,EH z]at this;have G:=EI (L:=L) E;split at h
  .rename_i l B;refine⟨_,_,h,[],zP,λF=> ?_⟩;simp only[yz];unfold bj;rw[ho];dsimp only;rw[f,g];dsimp only;rw[vZ j,yW y,this,Option.bind_some,G,B,TD.er,ZE2];rfl
  .rename_i B;refine⟨_,_,h,[],zP,λF=> ?_⟩;simp only[yz];unfold bj;rw[ho];dsimp only;rw[f,g];dsimp only;rw[vZ j,yW y,this,Option.bind_some,G,B];rfl
 .cases h
def wc(L:Lk)(P:yg)(ts:yL TD)(e:yc)(T:Ty):yL (Nat×yp)->yO (yL T.aT)
 |[]=>ab []
 |q::r=>match (bo P ts e q.2).bind (TD.flat L) with
  |some x=>if x.pe.size=P.cellsOf e then kz (TP.to lr x T) (wc L P ts e T r) |>.map λp=>p.1::p.2 else ad
  |none=>ad
theorem ZE7{e:yc}{T:Ty}:∀{parts:yL (Nat×yp)}{l:yL T.aT},wc L P ts e T parts=ab l->
 ∃xs,Dv.aW (parts.map λq=>aC P (TD.aE L ts) e q.2)=ab xs/\xs.all (λx=>x.size==P.cellsOf e)=ae/\xs.map Pl.soft=l.map T.enc
 |[],l,h=>by cases h;exact⟨[],rfl,rfl,rfl⟩
 |q::r,l,h=>by
  simp only[wc]at h;split at h
  .rename_i x f;obtain⟨d,g,j⟩:=yf.1 f;split at h
   .rename_i hs;obtain⟨p,m,rfl⟩:=Ze h;obtain⟨y,z⟩:=mr m;obtain⟨xs,A,B,E⟩:=ZE7 z;refine⟨x.pe::xs, ?_, ?_, ?_⟩
    .simp only[yag,Dv.aW];rw[Zs g,DA j,A]
    .simp only[List.all_cons,yi,yT];exact⟨hs,B⟩
    .rw[yag,nQ x T _ y,E,yag]
   .cases h
  .cases h
def pA(L:Lk)(P:yg)(ts:yL TD)(t:yc)(len:Nat)(parts:yL (Nat×yp))(K:(T:Ty)->yL T.aT->yc->yO O):yO O:=
 match P.underlying t with
 |some (.slice e)=>(gx P ia e).bind λT=>(P.info? e).bind λi=>(wc L P ts e T parts).bind λl=>
  if(parts.map (·.1)==yn len)&&(cq i&&i.size !=0&&ag (len*i.size<=16777216))&&(ag (i.size=T.size)&&ag (P.cellsOf e=i.size)) then K T l e else ad
 |_=>ad
theorem we{t:yc}{len:Nat}{parts:yL (Nat×yp)}{K:(T:Ty)->yL T.aT->yc->yO O}{out:O}(h:pA L P ts t len parts K=ab out):
 ∃e T l i xs,K T l e=ab out/\P.underlying t=ab (.slice e)/\P.info? e=ab i/\Wc P (TD.aE L ts) e (P.cellsOf e) len parts=ab xs/\(cq i&&i.size !=0&&ag (len*i.size<=16777216))=ae/\i.size=T.size/\xs.map Pl.soft=l.map T.enc:=by
 unfold pA at h;split at h
 .rename_i e g;obtain⟨T,B,h⟩:=yf.1 h;obtain⟨i,j,h⟩:=yf.1 h;obtain⟨l,m,h⟩:=yf.1 h;obtain⟨f,h⟩:=Zb h;simp only[yi,yP]at f;obtain⟨xs,y,z,A⟩:=ZE7 m;refine⟨e,T,l,i,xs,h,g,j, ?_, ?_,f.2.1,A⟩
  .unfold Wc;rw[yW f.1.1,y];dsimp only;rw[yW z]
  .simp only[yi,yP];exact f.1.2
 .cases h
def EM(L:Lk)(P:yg)(t:yc)(K:TD->yL ar->yO O)(x:TD):yO O:=
 match P.underlying t with
 |some (.slice _)=>match x with
  |.view _ _ _ _ n=>K (.p (.v (.int .i64) (n:Int))) []
  |.rv _ _ _ _ n=>K (.p (.v (.int .i64) (n:Int))) []
  |x=>(x.row L).bind λr=>K (.p (.v (.int .i64) (r.l.length:Int))) []
 |some (.array n _)=>K (.p (.v (.int .i64) (n:Int))) []
 |some .string=>match x with
  |.p x=>x.lu.bind λs=>K (.p (.v (.int .i64) (s.size:Int))) []
  |_=>ad
 |_=>ad
theorem ZGB{t:yc}{x:yp}{c:Call}{K:TD->yL ar->yO O}{y:TD}{out:O}(ho:o.op=.call c)(hc:c.callee=.builtin .len)(ha:c.args.toList=[x])(ht:c.argTypes.toList=[t])
 (z:bo P ts t x=ab y) (h:EM L P t K y=ab out):∃d hs,K d hs=ab out/\dp L P o ts d hs:=by
 have g:=Zs (L:=L) z;unfold EM at h;split at h
 .rename_i e f;split at h
  .refine⟨_,_,h,[],zP,λj=> ?_⟩;simp only[yz];unfold bj;rw[ho];dsimp only;rw[hc];dsimp only;rw[ha,ht];dsimp only;rw[f,g];rfl
  .refine⟨_,_,h,[],zP,λj=> ?_⟩;simp only[yz];unfold bj;rw[ho];dsimp only;rw[hc];dsimp only;rw[ha,ht];dsimp only;rw[f,g];rfl
  .obtain⟨r,l,h⟩:=yf.1 h;refine⟨_,_,h,[],zP,λj=> ?_⟩;simp only[yz];unfold bj;rw[ho];dsimp only;rw[hc];dsimp only;rw[ha,ht];dsimp only;rcases mA l with m|⟨id,m⟩
   .rw[f,g,m];dsimp only;rw[yaa];rfl
   .rw[f,g,m];dsimp only;rw[yaa];rfl
 .rename_i n e f;refine⟨_,_,h,[],zP,λj=> ?_⟩;simp only[yz];unfold bj;rw[ho];dsimp only;rw[hc];dsimp only;rw[ha,ht];dsimp only;rw[f];rfl
 .rename_i f;split at h
  .obtain⟨s,l,h⟩:=yf.1 h;refine⟨_,_,h,[],zP,λj=> ?_⟩;simp only[yz];unfold bj;rw[ho];dsimp only;rw[hc];dsimp only;rw[ha,ht];dsimp only;rw[f,g,TD.er,ZE5 l];rfl
  .cases h
 .cases h
def mD(L:Lk)(P:yg)(T:Ty)(u:yc)(x:TD):yO (yL T.aT):=
 match P.underlying u with
 |some (.slice _)=>(x.row L).bind λr=>Ty.bv r.t T r.l
 |some .string=>match x,T with
  |.p (.v .str s),.u8=>ab (fX s)
  |_,_=>ad
 |_=>ad
theorem pB{T:Ty}{u:yc}{x:TD}{l:yL T.aT}(h:mD L P T u x=ab l):iw P T.size u (x.er L)=ab (l.map T.enc):=by
 unfold mD at h;split at h
 .rename_i e f;obtain⟨r,j,h⟩:=yf.1 h;obtain⟨e,m⟩:=ZF h;obtain⟨y,t,z⟩:=r;dsimp only at e m j;subst e;subst m;unfold iw;rcases mA j with g|⟨id,g⟩
  .rw[f,g];dsimp only;rw[yW (.inl rfl)]
  .rw[f,g];dsimp only;rw[yW rfl]
 .rename_i f;split at h
  .rename_i s;cases h;unfold iw;rw[f];rfl
  .cases h
 .cases h
end
end Go.Ev
end
