/- Parts of the proof, in one file. -/
import Derived.Test.YtcbhhaigilifgaaGreatKb
open Option renaming some → ab, none → ad
open Bool renaming true → ae, false → af
open Decidable renaming decide → ag
open Array renaming length_toList → yax, getElem?_toList → yby, replicate → ycg, getElem?_eq_getElem → ycl, getElem?_eq_some_iff → yco, getD_eq_getD_getElem? → ycu, getElem?_setIfInBounds → ycz
open BitVec renaming ofInt → yca
open Bool renaming and_eq_true → yi, or_false → ycj, or_eq_true → yck, eq_iff_iff → ycr
open Go renaming TypeId → yc, Program → yg, Value → yh, Oper → yj, Operand → yp, World → yr, FuncId → yw
open Go.Proofs.Tryz renaming prog → yb
open List renaming length_append → yl, range → yo, getElem?_eq_some_iff → yu, replicate → yx, nil_append → yz, length_take → yaa, getElem?_eq_getElem → yab, append_assoc → yac, length_map → yad, length_cons → yaf, cons_append → yag, map_cons → yah, getElem?_cons_succ → yak, all_eq_true → yal, getElem?_cons_zero → yam, getElem?_map → yao, getElem?_append_right → yaq, map_append → yaw, length_drop → yaz, take_append_drop → ybb, getElem?_append_left → ybe, getElem_of_mem → ybg, eq_nil_of_length_eq_zero → ybj, ext_getElem? → ybq, mem_range → ybr, mem_of_mem_take → ybs, getElem?_set → ybx, getElem?_eq_none → ybz, take_of_length_le → ycc, getElem?_take → ycd, map_congr_left → yci, mem_of_mem_drop → ycq, length_singleton → ycy
open Nat renaming le_refl → ym, zero_add → yar, mod_eq_of_lt → yas, min_eq_left → yay, lt_of_le_of_lt → ycw
open Option renaming bind_eq_some_iff → yf, map_eq_some_iff → yv, map_some → yae
open Option.some renaming injEq → yn
open Prod.mk renaming injEq → yq
open UInt32 renaming ofNat → ych, toNat_ofNat' → ycv
open UInt64 renaming ofNat → yan, toNat_ofNat' → ybi, toNat_lt → ybv
open UInt8 renaming ofNat → yap
set_option linter.unusedVariables false
set_option linter.unusedSimpArgs false
section
namespace Go.Ev
theorem vk(keep:yL Nat):∀(l:yL Dv)(k t:Nat),(aI keep k l)[t]? =(l[t]?).map λd=>if keep.contains (k+t) then d else .an
 |[],k,t=>by simp[aI]
 |d::l,k,0=>by simp[aI]
 |d::l,k,t+1=>by
  simp only[aI,yak];rw[vk keep l (k+1) t];grind
theorem Vs{σ:Sg}{a:Act}{ts:yL Dv}(keep:yL Nat)(h:aD σ ts a):aD σ (aI keep 0 ts) a:=by
 refine⟨?_,λi d g=> ?_,h.defers⟩
 .rw[h.size]
  have:∀(l:yL Dv)(k:Nat),(aI keep k l).length=l.length:=by
   intro l
   induction l with
   |nil=>intro k;rfl
   |cons x l j=>intro k;simp[aI,j]
  grind
 .rw[vk]at g;obtain⟨m,y,f⟩:=yv.1 g;split at f
  .rw[<-f];exact h.at_ i m y
  .rw[<-f];exact Yr
theorem CQ(A:yL Nat)(i j:Nat):∀(es:yL Edge)(m:Nat),(es.foldl (λm e=>if Region.binds .any e&&ag (e.on < i) then m|||(1 <<< e.on)|||A.getD e.on 0 else m) m).testBit j=ae->
 m.testBit j=ae\/∃e,e∈es/\Region.binds .any e=ae/\e.on < i/\(e.on=j\/(A.getD e.on 0).testBit j=ae)
 |[],m,h=>.inl h
 |e::es,m,h=>by
  simp only[List.foldl_cons]at h;rcases CQ A i j es _ h with f|⟨l,f,y⟩
  .split at f
   .rename_i g;simp only[yi,yP]at g;simp only[Nat.testBit_or,yck,Nat.one_shiftLeft,Nat.testBit_two_pow,yP]at f
    all_goals grind
   grind
  grind
section
variable{P:yg}{ops:Array yj}
def jI(ops:Array yj)(X:Nat->Bool):Prop:=∀i o,ops[i]? =ab o->X i=ae->∀e,e∈o.after->Region.binds .any e=ae->X e.on=ae
theorem Zrl{X:Nat->Bool}{A:yL Nat}(y:jI ops X)(z:∀i o,ops[i]? =ab o->A.getD i 0=nw A i o):∀(i:Nat),(∃o,ops[i]? =ab o)->X i=ae->∀j,(A.getD i 0).testBit j=ae->X j=ae:=by
 intro i
 induction i using Nat.strongRecOn with
 |_ i E=>
  rintro⟨o,l⟩ F j f;rw[z i o l]at f;unfold nw at f;rcases CQ A i j _ _ f with h|⟨e,G,I,J,h4⟩
  .simp at h
  .have m:=y i o l F e (by simpa using G) I;rcases h4 with h4|h4
   .rw[<-h4];exact m
   .have g:e.on < ops.size:=by
     grind
    exact E e.on J ⟨ops[e.on],ycl g⟩ m j h4
def val(n:Nat)(dst:Nat->yO Tmp)(D:Nat->Dv)(ts0:yL Dv)(X:Nat->Bool)(t:Nat):Dv:=
 match (yo n).find? λj=>X j&&dst j==ab t with
 |some j=>D j
 |none=>ts0.getD t .an
def dR(n:Nat)(dst:Nat->yO Tmp)(D:Nat->Dv)(ts0:yL Dv)(X:Nat->Bool):yL Dv:=(yo ts0.length).map (val n dst D ts0 X)
variable{n:Nat}{dst:Nat->yO Tmp}{D:Nat->Dv}{ts0:yL Dv}
theorem VK(hu:∀i j,i < n->j < n->dst i≠ad->dst i=dst j->i=j){X:Nat->Bool}{t j:Nat}(f:j < n)(g:X j=ae)(hd:dst j=ab t):val n dst D ts0 X t=D j:=by
 unfold val;grind
theorem kE{X:Nat->Bool}{t:Nat}(h:∀j,j < n->X j=ae->dst j≠ab t):val n dst D ts0 X t=ts0.getD t .an:=by
 unfold val;grind
theorem XD{X:Nat->Bool}:(dR n dst D ts0 X).length=ts0.length:=by simp[dR]
theorem QZ{X:Nat->Bool}{t:Nat}(h:t < ts0.length):(dR n dst D ts0 X)[t]? =ab (val n dst D ts0 X t):=by
 simp[dR,h]
theorem vl{X:Nat->Bool}(h:∀j,j < n->X j=af):dR n dst D ts0 X=ts0:=by
 apply ybq;intro t;by_cases g:t < ts0.length
 .rw[QZ g,kE (λj l f=>by rw[h j l]at f;cases f)];grind
 .rw[ybz (by rw[XD];omega),ybz (by omega)]
theorem vm(hu:∀i j,i < n->j < n->dst i≠ad->dst i=dst j->i=j){X Y:Nat->Bool}{i:Nat}(hi:i < n)(G:X i=af)(E:∀j,j < n->Y j=(X j || decide (j=i))):
 fS (dR n dst D ts0 X) (dst i) (D i)=dR n dst D ts0 Y:=by
 apply ybq;intro t;by_cases z:t < ts0.length
 .rw[QZ z]
  have f:dst i≠ab t->val n dst D ts0 Y t=val n dst D ts0 X t:=by
   intro I;by_cases l:∃j,j < n/\X j=ae/\dst j=ab t
   .obtain⟨j,h,m,y⟩:=l;rw[VK hu h m y,VK hu h (by rw[E j h,m];rfl) y]
   .rw[kE (λj h m y=>l ⟨j,h,m,y⟩),kE (λj h m y=> ?_)]
    all_goals grind
  unfold fS
  cases A:dst i with
  |none=>
   rw[f (by rw[A];simp),QZ z]
  |some F=>
   rw[ybx];by_cases g:F=t
   .subst g;rw[yW rfl,yW (by rw[XD];exact z),VK hu hi (by rw[E i hi];simp) A]
   .rw[yX g,QZ z,f (by rw[A];simpa using g)]
 .have J:(fS (dR n dst D ts0 X) (dst i) (D i)).length=ts0.length:=by
   unfold fS
   cases dst i with
   |none=>rw[XD]
   |some F=>rw[List.length_set,XD]
  rw[ybz (by rw[J];omega),ybz (by rw[XD];omega)]
theorem ZDp(hu:∀i j,i < n->j < n->dst i≠ad->dst i=dst j->i=j){X Y:Nat->Bool}{keep:yL Nat}(h:∀j t,j < n->dst j=ab t->t∈keep->X j=Y j):
 aI keep 0 (dR n dst D ts0 X)=aI keep 0 (dR n dst D ts0 Y):=by
 apply ybq;intro t;rw[vk,vk];by_cases A:t < ts0.length
 .rw[QZ A,QZ A];simp only[yae,yar];by_cases y:t∈keep
  .have z:keep.contains t=ae:=by simpa using y
   rw[z];simp only[if_true];congr 1;by_cases l:∃j,j < n/\X j=ae/\dst j=ab t
   .obtain⟨j,f,m,g⟩:=l;rw[VK hu f m g,VK hu f (by rw[<-h j t f g y];exact m) g]
   .rw[kE (λj f m g=>l ⟨j,f,m,g⟩),kE (λj f m g=>l ⟨j,f,by rw[h j t f g y];exact m,g⟩)]
  grind
 .rw[ybz (by rw[XD];omega),ybz (by rw[XD];omega)]
end
section
variable{P:yg}{ops:Array yj}
theorem vn{o:yj}{ts:yL Dv}{H H2:yL aq}{hs:yL ao}{r:yL Prop×Dv×yL aq×yL ao}(h:cD P o ts H hs=ab r)(hn:(bj P o ts hs).isSome=ae):r.2.2.1=H/\cD P o ts H2 hs=ab (r.1,r.2.1,H2,r.2.2.2):=by
 unfold cD at h ⊢;grind
theorem ZE2{o:yj}{ts:yL Dv}{H:yL aq}{hs:yL ao}{r:yL Prop×Dv×yL aq×yL ao}(h:cD P o ts H hs=ab r)(hn:(bj P o ts hs).isSome=af)(f:(bH P o ts H hs).isSome=ae):r.2.2.1=H:=by
 unfold cD at h;grind
theorem ZE3{o:yj}{ts:yL Dv}{H H2:yL aq}{hs:yL ao}{C:yL Prop}{d:Dv}{H':yL aq}{hs':yL ao}(h:dk P ops o ts H hs=ab (C,d,H',hs'))(hc:bM P o ts H hs=0):
 H'=H/\dk P ops o ts H2 hs=ab (C,d,H2,hs'):=by
 unfold dk at h ⊢;unfold bM at hc
 cases A:o.guard with
 |none=>
  simp only[A]at h hc ⊢
  have j:(bj P o ts hs).isSome=ae:=by
   grind
  simp only[yv,yq]at h;obtain⟨⟨C1,d1,H1,f⟩,l,rfl,rfl,rfl,rfl⟩:=h;obtain⟨m,y⟩:=vn (H2:=H2) l j
  exact⟨m,by rw[y];rfl⟩
 |some F=>
  obtain⟨g,E⟩:=F;simp only[A]at h hc ⊢;split at h
  .rename_i t β f I;dsimp only at hc;split at h
   .rename_i z;rw[yW z]at hc ⊢
    have j:(bj P o ts f).isSome=ae:=by
     grind
    simp only[yv,yq]at h;obtain⟨⟨C1,d1,H1,G⟩,l,rfl,rfl,rfl,rfl⟩:=h;obtain⟨m,y⟩:=vn (H2:=H2) l j;exact⟨m,by rw[y];rfl⟩
   .rename_i z;rw[yX z];cases h;exact⟨rfl,rfl⟩
  .cases h;exact⟨rfl,rfl⟩
  .cases h
theorem ZE4{o:yj}{ts:yL Dv}{H:yL aq}{hs:yL ao}{C:yL Prop}{d:Dv}{H':yL aq}{hs':yL ao}(h:dk P ops o ts H hs=ab (C,d,H',hs'))(hc:bM P o ts H hs≠2):H'=H:=by
 unfold dk at h;unfold bM at hc
 cases y:o.guard with
 |none=>
  simp only[y]at h hc;simp only[yv,yq]at h;obtain⟨⟨C1,d1,H1,f⟩,l,rfl,rfl,rfl,rfl⟩:=h
  cases j:(bj P o ts hs).isSome with
  |true=>exact(vn (H2:=[]) l j).1
  |false=>
   cases m:(bH P o ts H hs).isSome with
   |true=>exact ZE2 l j m
   |false=>simp[j,m]at hc
 |some A=>
  obtain⟨g,z⟩:=A;simp only[y]at h hc;split at h
  .rename_i t β f G;dsimp only at hc;split at h
   .rename_i E;simp only[yW E]at hc;simp only[yv,yq]at h;obtain⟨⟨C1,d1,H1,F⟩,l,rfl,rfl,rfl,rfl⟩:=h
    cases j:(bj P o ts f).isSome with
    |true=>exact(vn (H2:=[]) l j).1
    |false=>
     cases m:(bH P o ts H f).isSome with
     |true=>exact ZE2 l j m
     |false=>simp[j,m]at hc
   .cases h;rfl
  .cases h;rfl
  .cases h
theorem ZMl{o:yj}{ts:yL Dv}{H H2:yL aq}{hs:yL ao}{C:yL Prop}{d:Dv}{H':yL aq}{hs':yL ao}(h:dk P ops o ts H hs=ab (C,d,H',hs'))(hc:bM P o ts H hs=1)
 (y:∀hs,bH P o ts H2 hs=bH P o ts H hs):dk P ops o ts H2 hs=ab (C,d,H2,hs'):=by
 unfold bM at hc;unfold dk at h ⊢
 cases z:o.guard with
 |none=>
  simp only[z]at h hc ⊢
  cases f:bj P o ts hs with
  |some q=>simp[f]at hc
  |none=>
   cases j:bH P o ts H hs with
   |none=>simp[f,j]at hc
   |some q=>
    unfold cD at h ⊢;rw[y];simp only[f,j,yae,yn,yq]at h ⊢
    exact⟨h.1,h.2.1,zP,h.2.2.2⟩
 |some E=>
  obtain⟨g,A⟩:=E;simp only[z]at h hc ⊢;split at h
  .rename_i t β l F;dsimp only at hc;split at h
   .rename_i m;rw[yW m]at hc ⊢
    cases f:bj P o ts l with
    |some q=>simp[f]at hc
    |none=>
     cases j:bH P o ts H l with
     |none=>simp[f,j]at hc
     |some q=>
      unfold cD at h ⊢;rw[y];simp only[f,j,yae,yn,yq]at h ⊢;exact⟨h.1,h.2.1,zP,h.2.2.2⟩
   .rename_i m;simp[m]at hc
  .simp at hc
  .cases h
theorem ZDq{o:yj}{ts:yL Dv}{H:yL aq}{hs:yL ao}{C:yL Prop}{d:Dv}{H':yL aq}{hs':yL ao}{l:yL Nat}{i:Nat}(h:dk P ops o ts H hs=ab (C,d,H',hs'))(hc:bM P o ts H hs=2)
 (ht:kY P o ts hs=ab l) (hi:i < H.length) (hl:l.contains i=af):dG (H'[i]?)=dG (H[i]?):=by
 unfold kY at ht
 cases f:o.guard with
 |some g=>simp[f]at ht
 |none=>
  simp only[f,Option.isNone_none,if_true]at ht;unfold bM at hc;unfold dk at h;simp only[f]at h hc
  cases j:bj P o ts hs with
  |some q=>simp[j]at hc
  |none=>
   cases y:bH P o ts H hs with
   |some q=>simp[j,y]at hc
   |none=>
    simp only[yv,yq]at h;obtain⟨⟨C1,d1,H1,z⟩,m,rfl,rfl,rfl,rfl⟩:=h;unfold cD at m;simp only[j,y]at m;exact Zuv m ht hi hl
theorem ZxY{g:yw}{args:yL Dv}{r:Dv}{e:aq}(h:ce P g args [] r [e])(hn:∃x,Dv.bC (bc []) args=ab x):ce P g args [.gone] r [e]:=by
 intro σ vs R S Z;obtain⟨x,T⟩:=hn
 have hst:∀(b o:Nat),(σ.F b o\/σ.B b)->σ.bf b o:=λb o q=>⟨q,λid E _ z=>by
  rw[S]at z
  cases id with
  |zero=>cases z;trivial
  |succ i=>simp at z⟩
 have hno:∀(id:Nat)(E:aq),σ.H[id]? =ab E->E=.gone:=λid E z=>by
  grind
 let l:Sg:={ F:=σ.F,B:=σ.B,m:=[],H:=[],w:=σ.w};have I:Ok l:=⟨rfl,λi j b h=>by simp[l]at h,λi b h=>by simp[l]at h,λi e a h=>by simp[l]at h,R.new,λi b h=>by simp[l]at h⟩;have U:∀id,bc [] id=ad:=λid=>by simp[bc]
 have J:Rn (bc []) σ l:=⟨rfl,λb o u _ q=>⟨q.1,λid E q=>by simp[l]at q⟩,λid M q=>(by rw[U]at q;cases q),λid M q=>(by rw[U]at q;cases q)⟩
 have hxe:x=args:=by
  have W:=T;rw[qU]at W;have e2:=bQ (f:=bc []) _ _ W;grind
 have Q:aH l args vs:=by
  have y:=dK J _ _ _ T Z;grind
 refine(h l vs I rfl Q).mono ?_;rintro ex w' ⟨v,τ,rfl,rfl,X,to,G,hr⟩;have okm:σ.m.length=1:=by rw[R.len,S];rfl
 have Y:τ.m.length=1:=by rw[G.len,X];rfl
 refine⟨v,τ,rfl,rfl,X,⟨⟨λb o u y z=> ?_,λid b y z=> ?_,λid s len A c y=> ?_,λid b y z=> ?_,λid v s st e d y=> ?_⟩,to.F,to.B,to.os,to.tape,to.output,to.size,λb y _=>to.block b y (λid q=>by simp[l]at q),λid b y=> ?_, ?_⟩,G,hr⟩
 .exact to.leaf.cells b o u y ⟨z.1,λid e q=>by simp[l]at q⟩
 .grind
 .obtain⟨E,ys,z,_⟩:=y;grind
 .grind
 .grind
 .rcases to.same id b y with q|q
  all_goals grind
 grind
theorem ZxZ{o:yj}{ts:yL Dv}{H H2:yL aq}{hs:yL ao}{C:yL Prop}{d:Dv}{H':yL aq}{hs':yL ao}(h:dk P ops o ts H hs=ab (C,d,H',hs'))(hp:jh o hs H.length=ae)(hl:H2.length=H.length):
 bM P o ts H hs=2/\∃E,H'=H++E/\dk P ops o ts H2 hs=ab (C,d,H2++E,hs'):=by
 unfold jh at hp;rw[yi]at hp;obtain⟨z,hp⟩:=hp;have z:o.guard=ad:=by simpa using z
 split at hp
 .rename_i t j;have l:∀hs,bj P o ts hs=ad:=λhs=>by unfold bj;rw[j]
  have m:∀H hs,bH P o ts H hs=ad:=λH hs=>by unfold bH;rw[j]
  refine⟨?_, ?_⟩
  .unfold bM;rw[z];simp[l,m]
  .unfold dk at h ⊢;rw[z]at h ⊢;dsimp only at h ⊢;unfold cD at h ⊢;rw[l,m]at h;rw[l,m];dsimp only at h ⊢;unfold cX at h ⊢;rw[j]at h ⊢;dsimp only at h ⊢;rw[hl];split at h
   .split at h
    .split at h
     .simp only[yae,yn,yq]at h;obtain⟨rfl,rfl,rfl,rfl⟩:=h;rename_i hi _ _ T G;refine⟨_,rfl, ?_⟩;rw[yW G];rfl
     .cases h
    .cases h
   .cases h
 .rename_i c j;split at hp
  .rename_i f I;split at hp
   .rename_i r Hn ids A;rw[yi]at hp;have F:ids=[]:=by simpa using hp.1
    subst F;have hp:=hp.2;unfold nu at hp;simp only[yi,yT]at hp;have J:Hn≠[]:=λq=>by rw[q]at hp;simp at hp
    have l:bj P o ts (.call r Hn []::A)=ad:=by
     unfold bj;rw[j];dsimp only;rw[I];dsimp only;split
     .rename_i y;simp only[List.cons.injEq,ao.call.injEq]at y;exact absurd y.1.2.1 J
     .rename_i y;cases y
     .rfl
    have m:∀H,bH P o ts H (.call r Hn []::A)=ad:=λH=>by
     unfold bH;rw[j];dsimp only;rw[I]
    refine⟨?_, ?_⟩
    .unfold bM;rw[z];simp[l,m]
    .unfold dk at h ⊢;rw[z]at h ⊢;dsimp only at h ⊢;unfold cD at h ⊢;rw[l,m]at h;rw[l,m];dsimp only at h ⊢;unfold cX at h ⊢;rw[j]at h ⊢;dsimp only at h ⊢;rw[I]at h ⊢;dsimp only at h ⊢;rw[hl];split at h
     .rename_i g U r2 H2' Q W ha y;simp only[List.cons.injEq,ao.call.injEq]at y;obtain⟨⟨rfl,rfl,rfl⟩,rfl⟩:=y;split at h
      .rename_i G;split at h
       .rename_i M Hin r' Hb Y R Z e4;simp only[yae,yn,yq]at h;obtain⟨rfl,rfl,rfl,rfl⟩:=h;have S:∀(X:yL aq),aP X [] []=ab []:=λX=>rfl;rw[S]at R;cases R;refine⟨Hb,by simp[aA,jg], ?_⟩;rw[yW G,Y,S,Z,e4];simp[aA,jg]
       .cases h
      .cases h
     .cases h
   .cases hp
  .cases hp
 .cases hp
theorem Zx0:∀{hs:yL ao}{d:Dv}{n:Nat},(Yx d n hs).2.1=[]->(Yx d n hs).1=d
 |[],d,n,_=>by simp[Yx]
 |x::hs,d,n,h=>by
  cases x with
  |cq g s e=>
   simp only[Yx]at h ⊢;split
   .rename_i j f;rw[f]at h;cases h
   .rfl
  |_=>simp[Yx]
theorem CR{σ:Sg}(ok:Ok σ):To σ { σ with m:=σ.m++[ad],H:=σ.H++[.gone]}/\Ok { σ with m:=σ.m++[ad],H:=σ.H++[.gone]}:=
 WD (σ':={ σ with m:=σ.m++[ad],H:=σ.H++[.gone]}) ok rfl rfl rfl rfl (World.grownBy.refl σ.w ad) (.inl rfl) (λ_=>trivial)
mutual
theorem kF{f g:Nat->yO Nat}(l:∀j k,f j=ab k->g j=ab k):∀(d d':Dv),d.rn f=ab d'->d.rn g=ab d'
 |.p x,d',h=>h
 |.elem x,d',h=>h
 |.aj id off A,d',h=>by
  simp only[Dv.rn,yv]at h ⊢;obtain⟨i,m,y⟩:=h
  exact⟨i,l _ _ m,y⟩
 |.own id E s z,d',h=>by
  simp only[Dv.rn,yv]at h ⊢;obtain⟨i,m,y⟩:=h
  exact⟨i,l _ _ m,y⟩
 |.view id off A s lo n,d',h=>by
  simp only[Dv.rn,yv]at h ⊢;obtain⟨i,m,y⟩:=h
  exact⟨i,l _ _ m,y⟩
 |.mp id,d',h=>by
  simp only[Dv.rn,yv]at h ⊢;obtain⟨i,m,y⟩:=h
  exact⟨i,l _ _ m,y⟩
 |.rv id v s lo n,d',h=>by
  simp only[Dv.rn,yv]at h ⊢;obtain⟨i,m,y⟩:=h
  exact⟨i,l _ _ m,y⟩
 |.aZ id v off A,d',h=>by
  simp only[Dv.rn,yv]at h ⊢;obtain⟨i,m,y⟩:=h
  exact⟨i,l _ _ m,y⟩
 |.agg z,d',h=>by
  simp only[Dv.rn,yv]at h ⊢;obtain⟨i,m,y⟩:=h
  exact⟨i,dM l z i m,y⟩
 |.arr n s z,d',h=>by
  simp only[Dv.rn,yv]at h ⊢;obtain⟨i,m,y⟩:=h
  exact⟨i,dM l z i m,y⟩
 |.fn F z,d',h=>by
  simp only[Dv.rn,yv]at h ⊢;obtain⟨i,m,y⟩:=h
  exact⟨i,dM l z i m,y⟩
 |.iface t x,d',h=>by
  simp only[Dv.rn,yv]at h ⊢;obtain⟨i,m,y⟩:=h
  exact⟨i,kF l x i m,y⟩
 |.bp z,d',h=>by
  simp only[Dv.rn,yv]at h ⊢;obtain⟨i,m,y⟩:=h
  exact⟨i,dM l z i m,y⟩
 |.an,d',h=>h
theorem dM{f g:Nat->yO Nat}(l:∀j k,f j=ab k->g j=ab k):∀(d d':yL Dv),Dv.bC f d=ab d'->Dv.bC g d=ab d'
 |[],d',h=>h
 |x::r,d',h=>by
  simp only[Dv.bC]at h ⊢;split at h
  .rename_i y m z A;rw[kF l x y z,dM l r m A];exact h
  .cases h
end
theorem ZE5{f g:Nat->yO Nat}(l:∀j k,f j=ab k->g j=ab k):∀(d d':aq),d.rn f=ab d'->d.rn g=ab d'
 |.var d st,d',h=>by
  simp only[aq.rn,yv]at h ⊢;obtain⟨i,m,y⟩:=h
  exact⟨i,kF l d i m,y⟩
 |.row v s st e d,d',h=>by
  simp only[aq.rn,yv]at h ⊢;obtain⟨i,m,y⟩:=h
  exact⟨i,kF l d i m,y⟩
 |.log _ _ _,d',h=>h
 |.map _ _,d',h=>h
 |.gone,d',h=>h
theorem nM{f g:Nat->yO Nat}(l:∀j k,f j=ab k->g j=ab k):∀(d d':yL aq),aq.bC f d=ab d'->aq.bC g d=ab d'
 |[],d',h=>h
 |x::r,d',h=>by
  simp only[aq.bC]at h ⊢;split at h
  .rename_i y m z A;rw[ZE5 l x y z,nM l r m A];exact h
  .cases h
theorem mw(ids:yL Nat)(n:Nat):∀j k,ids[j]? =ab k->aV ids n j=ab k:=λj k h=>by
 unfold aV;grind
theorem Vt{H E:yL aq}{all:yL Nat}:∀{ids:yL Nat}{Hin:yL aq},aP H all ids=ab Hin->aP (H++E) all ids=ab Hin/\∀id,id∈ids->id < H.length
 |[],Hin,h=>⟨h,λ_ h=>by cases h⟩
 |id::r,Hin,h=>by
  simp only[aP]at h ⊢;split at h
  .rename_i e g j f;obtain⟨l,m⟩:=Vt (E:=E) f;grind
  .cases h
theorem ri{α:Type}{E:yL α}:∀{ids:yL Nat}{H Hb:yL α},Hb.length=ids.length->(∀id,id∈ids->id < H.length)->aA (H++E) ids Hb=aA H ids Hb++E/\(aA H ids Hb).length=H.length
 |[],H,Hb,f,_=>by
  have:Hb=[]:=ybj (by simpa using f);subst this
  simp[aA]
 |id::r,H,[],f,_=>by simp at f
 |id::r,H,e::Hb,f,g=>by
  simp only[aA];rw[List.set_append_left _ _ (g id (List.mem_cons_self ..))];obtain⟨j,l⟩:=ri (E:=E) (ids:=r) (H:=H.set id e) (Hb:=Hb) (by simpa using f) (λi h=>by rw[List.length_set];exact g i (List.mem_cons_of_mem _ h));grind
theorem vp{f:Nat->yO Nat}:∀{l g:yL aq},aq.bC f l=ab g->g.length=l.length
 |[],g,h=>by cases h;rfl
 |x::r,g,h=>by
  simp only[aq.bC]at h;split at h
  .rename_i y m z j;cases h;rw[yaf,yaf,vp j]
  .cases h
theorem ZId{o:yj}{ts:yL Dv}{H:yL aq}{hs:yL ao}{C:yL Prop}{d:Dv}{H':yL aq}{hs':yL ao}(h:dk P ops o ts H hs=ab (C,d,H',hs'))(hp:kX o hs=ae):
 bM P o ts H hs≠1/\H'.length=H.length/\∀E,dk P ops o ts (H++E) hs=ab (C,d,H'++E,hs'):=by
 unfold kX at hp;rw[yi]at hp;obtain⟨S,hp⟩:=hp;have S:o.guard=ad:=by simpa using S
 have G:(∀H,bH P o ts H hs=ad)->(∀H1,cX P o ts H hs=ab (C,d,H1,hs')->H1.length=H.length/\∀E,cX P o ts (H++E) hs=ab (C,d,H1++E,hs'))->
  bM P o ts H hs≠1/\H'.length=H.length/\∀E,dk P ops o ts (H++E) hs=ab (C,d,H'++E,hs'):=by
  intro n2 j;refine⟨?_, ?_⟩
  .unfold bM;grind
  .unfold dk at h ⊢;rw[S]at h ⊢;dsimp only at h ⊢;unfold cD at h ⊢
   cases hn:bj P o ts hs with
   |some q=>
    rw[hn]at h;simp only[yae,yn,yq]at h;obtain⟨T,R,rfl,h4⟩:=h;refine⟨rfl,λE=> ?_⟩;simp only[yae,yn,yq]
    exact⟨T,R,zP,h4⟩
   |none=>
    rw[hn,n2]at h;dsimp only at h;obtain⟨⟨C1,d1,H1,hs1⟩,T,R⟩:=yv.1 h;simp only[jg,List.append_nil,yq]at R;obtain⟨rfl,rfl,rfl,rfl⟩:=R;obtain⟨k1,k2⟩:=j H1 T;refine⟨k1,λE=> ?_⟩;rw[n2];dsimp only;rw[k2 E];simp[jg]
 split at hp
 .rename_i c F;split at hp
  .rename_i f m;split at hp
   .rename_i r Hn ids U;unfold nu at hp;simp only[yi,yT,Option.isSome_iff_exists]at hp;obtain⟨⟨W,d0,I⟩,Hb0,y⟩:=hp;refine G (λH=>by unfold bH;rw[F];dsimp only;rw[m]) λH1 j=> ?_;unfold cX at j;rw[F]at j;dsimp only at j;rw[m]at j;dsimp only at j;split at j
    .rename_i g cap r2 H2 J X Y M;simp only[List.cons.injEq,ao.call.injEq]at M;obtain⟨⟨rfl,rfl,rfl⟩,rfl⟩:=M;split at j
     .rename_i Z;split at j
      .rename_i z Hin r' Hb e1 A Q e4;cases j;rw[kF (mw ids H.length) _ _ I]at Q;cases Q;rw[nM (mw ids H.length) _ _ y]at e4;cases e4;have l:Hb0.length=ids.length:=by rw[vp y,W]
       refine⟨(ri (E:=[]) l (Vt (E:=[]) A).2).2,λE=> ?_⟩;unfold cX;rw[F];dsimp only;rw[m];dsimp only;rw[Y];dsimp only;rw[yW Z,e1,(Vt (E:=E) A).1,kF (mw ids _) _ _ I,nM (mw ids _) _ _ y];dsimp only;rw[(ri (E:=E) l (Vt (E:=[]) A).2).1]
      .cases j
     .cases j
    .cases j
   .cases hp
  .rename_i rc nm m;split at hp
   .rename_i g0 r Hn ids U;unfold nu at hp;simp only[yi,yT,Option.isSome_iff_exists]at hp;obtain⟨⟨W,d0,I⟩,Hb0,y⟩:=hp;refine G (λH=>by unfold bH;rw[F];dsimp only;rw[m]) λH1 j=> ?_;unfold cX at j;rw[F]at j;dsimp only at j;rw[m]at j;dsimp only at j;split at j
    .rename_i t x g r2 H2 J X Y M;simp only[List.cons.injEq,ao.call.injEq,ao.iI.injEq]at M;obtain⟨rfl,⟨rfl,rfl,rfl⟩,rfl⟩:=M;split at j
     .rename_i Z;split at j
      .rename_i z Hin r' Hb e1 A Q e4;cases j;rw[kF (mw ids H.length) _ _ I]at Q;cases Q;rw[nM (mw ids H.length) _ _ y]at e4;cases e4;have l:Hb0.length=ids.length:=by rw[vp y,W]
       refine⟨(ri (E:=[]) l (Vt (E:=[]) A).2).2,λE=> ?_⟩;unfold cX;rw[F];dsimp only;rw[m];dsimp only;rw[Y];dsimp only;rw[yW Z,e1,(Vt (E:=E) A).1,kF (mw ids _) _ _ I,nM (mw ids _) _ _ y];dsimp only;rw[(ri (E:=E) l (Vt (E:=[]) A).2).1]
      .cases j
     .cases j
    .cases j
   .cases hp
  .cases hp
 .cases hp
theorem ZE6{σ:Sg}{a:Act}{o:yj}{ts:yL Dv}{H E:yL aq}{hs:yL ao}{C:yL Prop}{d:Dv}{H':yL aq}{hs':yL ao}(ok:Ok σ)(Y:aD σ ts a)(h:dk P ops o ts H hs=ab (C,d,H',hs'))(Z:aX C)(hp:jh o hs H.length=ae)
 (hl:H'.length=H.length+1) (W:σ.H=H++.gone::E) (K:Act->yr->Prop) (Q:Exit->Act->yr->Prop)
 (hK:∀v σ',σ'.H=H'++E->To σ σ'->Ok σ'->aD σ' (fS ts o.dst d) (a.put o.dst v)->K (a.put o.dst v) σ'.w):
 if Region.wanted o (yielded ops a.tmps) then o.wp P a σ.w K Q else K (a.put o.dst undef) σ.w:=by
 unfold jh at hp;rw[yi]at hp;obtain⟨I,hp⟩:=hp;have I:o.guard=ad:=by simpa using I
 have hw:Region.wanted o (yielded ops a.tmps)=ae:=by simp[Region.wanted,I]
 rw[yW hw];split at hp
 .rename_i t l;have n1:∀hs,bj P o ts hs=ad:=λhs=>by unfold bj;rw[l]
  have n2:∀H hs,bH P o ts H hs=ad:=λH hs=>by unfold bH;rw[l]
  unfold dk at h;rw[I]at h;dsimp only at h;unfold cD at h;rw[n1,n2]at h;dsimp only at h;unfold cX at h;rw[l]at h;dsimp only at h;split at h
  .rename_i i hi;split at h
   .split at h
    .rename_i y;simp only[yae,yn,yq]at h;obtain⟨rfl,rfl,rfl,rfl⟩:=h;rw[yl,yaf]at hl;have he:(Yx (bg P t) (H.length+1) hs).2.1=[]:=ybj (by omega);have hd:=Zx0 he;rw[he,hd]at hK;simp only[yi]at y;obtain⟨z,hzz,_⟩:=lu y.1.1;have hid:σ.H[H.length]? =ab .gone:=by rw[W,yaq (ym _),Nat.sub_self];rfl
     have h1:=BX (P:=P) (o:=o) (a:=a) ok hid l hi (by rw[hzz];rfl) y.1.2 y.2;refine h1 K Q λv σ' A to F hv=>hK v σ' ?_ to F (kD (Y.to to.leaf) hv);rw[A,W,List.set_append_right _ _ (ym _),Nat.sub_self];simp
    .cases h
   .cases h
  .cases h
 .rename_i c l;split at hp
  .rename_i f X;split at hp
   .rename_i r Hn ids J;rw[yi]at hp;have M:ids=[]:=by simpa using hp.1
    subst M;have hp:=hp.2;unfold nu at hp;simp only[yi,yT,Option.isSome_iff_exists]at hp;obtain⟨⟨p1,r0,p2⟩,Hb0,p3⟩:=hp;have R:Hn≠[]:=λq=>by rw[q]at p1;simp at p1
    obtain⟨S,rfl⟩:∃S,Hn=[S]:=by
     cases Hn with
     |nil=>exact absurd rfl R
     |cons x q=>cases q with
      |nil=>exact⟨x,rfl⟩
      |cons _ _=>simp at p1
    have n1:bj P o ts (.call r [S] []::J)=ad:=by
     unfold bj;rw[l];dsimp only;rw[X];dsimp only;split
     .rename_i G;simp only[List.cons.injEq,ao.call.injEq]at G;exact absurd G.1.2.1 R
     .rename_i G;cases G
     .rfl
    have n2:∀H,bH P o ts H (.call r [S] []::J)=ad:=λH=>by
     unfold bH;rw[l];dsimp only;rw[X]
    unfold dk at h;rw[I]at h;dsimp only at h;unfold cD at h;rw[n1,n2]at h;dsimp only at h;unfold cX at h;rw[l]at h;dsimp only at h;rw[X]at h;dsimp only at h;split at h
    .rename_i g cap r2 H2' ids2 hs2 ha G;simp only[List.cons.injEq,ao.call.injEq]at G;obtain⟨⟨rfl,rfl,rfl⟩,rfl⟩:=G;split at h
     .rename_i y;split at h
      .rename_i args' Hin r' Hb A e2 e3 e4;simp only[yae,yn,yq]at h;obtain⟨rfl,rfl,rfl,rfl⟩:=h;have e5:aP H [] []=ab []:=rfl;rw[e5]at e2;cases e2;simp only[yi,yT,yP]at y
       have hm:∀(m:Nat)(j k:Nat),[H.length][j]? =ab k->aV [] H.length j=ab k:=λm j k q=>by
        cases j with
        |zero=>cases q;simp[aV]
        |succ j=>simp at q
       have T:∀(m:Nat)(j k:Nat),[H.length][j]? =ab k->aV [H.length] m j=ab k:=λm j k q=>by
        cases j with
        |zero=>cases q;simp[aV]
        |succ j=>simp at q
       have f1:=kF (hm 0) _ _ p2;rw[f1]at e3;cases e3;have f2:=nM (hm 0) _ _ p3;rw[f2]at e4;cases e4;have U:Hb0.length=1:=by rw[vp p3];rfl
       obtain⟨b0,rfl⟩:∃b0,Hb0=[b0]:=by
        cases Hb0 with
        |nil=>simp at U
        |cons x q=>cases q with
         |nil=>exact⟨x,rfl⟩
         |cons _ _=>simp at U
       obtain⟨fs,cs,hfe,hav⟩:=ZIb (P:=P) Y (c:=c) [] ha y.1.1.2;have hid:σ.H[H.length]? =ab .gone:=by rw[W,yaq (ym _),Nat.sub_self];rfl
       have e7:=A;rw[qU]at e7;have e8:=bQ (f:=bc []) _ _ e7;rw[A]at e8;cases e8;have e6:=bQ (f:=bc [H.length]) _ _ e7
       have hin:aP σ.H [H.length] [H.length]=ab [.gone]:=by
        simp[aP,hid,aq.rn]
       have hx:=TT (P:=P) (o:=o) (a:=a) σ.w l X hfe y.1.1.1
       have h1:=CC (P:=P) (o:=o) (a:=a) (ids:=[H.length]) (Hin:=[.gone]) (H':=[S]) (Hb:=[b0]) ok hx hav rfl (ym _) e6 hin (kF (T σ.H.length) _ _ p2) (nM (T σ.H.length) _ _ p3)
        (ZxY Z.1 ⟨_,A⟩)
       refine h1 K Q λv σ' A to F hv=>hK v σ' ?_ to F (kD (Y.to to.leaf) hv);rw[A,W];simp[aA,List.set_append_right]
      .cases h
     .cases h
    .cases h
   .cases hp
  .cases hp
 .cases hp
theorem ZE7{o:yj}{ts:yL Dv}{H:yL aq}{hs:yL ao}:bM P o ts H hs<=2:=by
 unfold bM;grind
end
def kG(ts:yL Dv)(l:yL (yO Tmp×Dv)):yL Dv:=l.foldl (λts q=>fS ts q.1 q.2) ts
section
variable{P:yg}{ops:Array yj}
theorem Zx1:∀(l:yL yj)(ts:yL Dv)(H:yL aq)(hs:yL ao)(C:yL Prop)(rs:yL Rec)(ts':yL Dv)(H':yL aq)(hs':yL ao),nv P ops l ts H hs=ab (C,rs,ts',H',hs')->aX C->
 rs.length=l.length/\ts'=kG ts ((l.zip rs).map λq=>(q.1.dst,q.2.d))/\(l=[]->H'=H)/\
 ∀(i:Nat)(o:yj),l[i]? =ab o->∃r,rs[i]? =ab r/\aX r.C/\dk P ops o (aI (looks ops o) 0 (kG ts (((l.zip rs).take i).map λq=>(q.1.dst,q.2.d)))) r.H r.hs=ab (r.C,r.d,r.H',r.hs')/\
  r.bP=bM P o (aI (looks ops o) 0 (kG ts (((l.zip rs).take i).map λq=>(q.1.dst,q.2.d)))) r.H r.hs/\
  (r.rd=qD P o (aI (looks ops o) 0 (kG ts (((l.zip rs).take i).map λq=>(q.1.dst,q.2.d))))/\r.tc=kY P o (aI (looks ops o) 0 (kG ts (((l.zip rs).take i).map λq=>(q.1.dst,q.2.d)))) r.hs/\r.push=jh o r.hs r.H.length/\r.loc=kX o r.hs/\r.ex=kA o)/\(i=0->r.H=H)/\(∀j,rs[i+1]? =ab j->j.H=r.H')/\(i+1=l.length->H'=r.H')
 |[],ts,H,hs,C,rs,ts',H',hs',h,F=>by
  simp only[nv,yn,yq]at h;obtain⟨rfl,rfl,rfl,rfl,rfl⟩:=h
  exact⟨rfl,rfl,λ_=>rfl,λi o g=>by simp at g⟩
 |o::l,ts,H,hs,C,rs,ts',H',hs',h,F=>by
  simp only[nv]at h;split at h
  .rename_i C1 d1 H1 J M;split at h
   .rename_i C2 y Q H2 R S;simp only[yn,yq]at h;obtain⟨rfl,rfl,rfl,rfl,rfl⟩:=h;obtain⟨T,U⟩:=Zl.1 F;obtain⟨G,W,X,I⟩:=Zx1 l _ _ _ _ _ _ _ _ S U;refine⟨by simp[G],by rw[W];rfl,by simp,λi Y g=> ?_⟩
    cases i with
    |zero=>
     simp only[yam,yn]at g;subst g;refine⟨_,rfl,T,M,rfl,⟨rfl,rfl,rfl,rfl,rfl⟩,λ_=>rfl,λj f=> ?_,λz=> ?_⟩
     .simp only[yak]at f
      cases l with
      |nil=>
       have:y=[]:=ybj (by simpa using G);subst this
       simp at f
      |cons Z l2=>
       obtain⟨r,m,_,_,_,_,A,_⟩:=I 0 Z rfl;rw[f]at m;cases m;exact A rfl
     .have:l=[]:=ybj (by simpa using z.symm)
      exact X this
    |succ i=>
     simp only[yak]at g;obtain⟨r,m,A,j3,j4,E,j5,j6,j7⟩:=I i Y g;refine⟨r,by simpa using m,A,j3,j4,E,λh0=>by omega,λj f=>j6 j (by simpa using f),λz=>j7 (by simpa using z)⟩
   .cases h
  .cases h
theorem ZDr(ts:yL Dv)(l:yL (yO Tmp×Dv))(q:yO Tmp×Dv):kG ts (l++[q])=fS (kG ts l) q.1 q.2:=by simp[kG]
def gQ(X:Nat->Bool):Nat->Nat
 |0=>0
 |k+1=>gQ X k+(if X k then 0 else 1)
theorem vq{X:Nat->Bool}:∀{k:Nat},gQ X k=0->∀j,j < k->X j=ae
 |0,_,j,h=>by omega
 |k+1,h,j,f=>by
  simp only[gQ]at h;by_cases g:j=k
  .grind
  .exact vq (k:=k) (by omega) j (by omega)
theorem vr{X:Nat->Bool}:∀{k:Nat},gQ X k<=k
 |0=>ym _
 |k+1=>by
  have:=vr (X:=X) (k:=k);simp only[gQ];grind
theorem Zx2{X Y:Nat->Bool}:∀{k:Nat},(∀j,j < k->Y j=X j)->gQ Y k=gQ X k
 |0,_=>rfl
 |k+1,h=>by
  simp only[gQ];rw[Zx2 (k:=k) (λj f=>h j (by omega)),h k (by omega)]
theorem vt{X Y:Nat->Bool}{i:Nat}(hi:X i=af):∀{k:Nat},i < k->(∀j,j < k->Y j=(X j || decide (j=i)))->gQ Y k+1=gQ X k
 |0,h,_=>by omega
 |k+1,h,f=>by
  simp only[gQ];by_cases g:i=k
  .subst g
   rw[Zx2 (X:=X) (Y:=Y) (λj l=>by
    rw[f j (by omega)];have:¬j=i:=by omega
    simp[this]),f i (by omega),hi]
   simp
  .have:=vt hi (k:=k) (by omega) (λj l=>f j (by omega));grind
theorem vu:∀(l:yL yj)(i:Nat),QU l i=ae->∀(j:Nat)(o:yj),l[j]? =ab o->∀e,e∈o.after->Region.binds .any e=ae->e.on < i+j
 |[],i,_,j,o,f,_,_,_=>by simp at f
 |o::l,i,h,j,y,f,e,g,m=>by
  simp only[QU,yi,yal]at h
  cases j with
  |zero=>
   simp only[yam,yn]at f;subst f;have:=h.1 e (by simpa using g)
   simpa[m] using this
  |succ j=>
   simp only[yak]at f;have:=vu l (i+1) h.2 j y f e g m;omega
theorem Zmv(keep:yL Nat):∀(l:yL Dv)(k:Nat),(aI keep k l).length=l.length
 |[],k=>rfl
 |x::l,k=>by simp[aI,Zmv keep l]
theorem ZKA{σ:Sg}{a:Act}{ts h:yL Dv}{dst:yO Tmp}{d:Dv}{v:yh}(hl:h.length=ts.length)(h1:aD σ ts a)(h2:aD σ (fS h dst d) (a.put dst v)):aD σ (fS ts dst d) (a.put dst v):=by
 unfold fS Act.put at*
 cases dst with
 |none=>exact h1
 |some t=>
  refine⟨by simpa using h1.size,λi e g=> ?_,h1.defers⟩;by_cases f:t=i
  .subst f;refine h2.at_ t e ?_;simp only[ybx]at g ⊢;rw[hl];exact g
  .rw[ybx,yX f]at g;have:=h1.at_ i e g;simpa[ycu,ycz,f] using this
theorem ZvR{σ:Sg}{a:Act}{ts:yL Dv}{hs hs':yL ao}{C:yL Prop}{ts':yL Dv}{H':yL aq}{id:Nat}(ok:Ok σ)(yM:aD σ ts a)(h:uI P ops ts σ.H hs=ab (C,ts',H',hs'))(hc:aX C)
 (Q:Exit->Act->yr->Prop) (hQ:∀a' σ',σ'.H=H'->To σ σ'->Ok σ'->aD σ' ts' a'->Q .normal a' σ'.w):(Code.region id ops ae).wp P Q a σ.w:=by
 unfold uI at h;split at h
 .rename_i hm;split at h
  .rename_i C1 rs ts1 H1 hs1 hev;split at h
   .rename_i hdr;simp only[yn,yq]at h;obtain⟨rfl,rfl,rfl,rfl⟩:=h;obtain⟨zW,hts',hnil,zZ⟩:=Zx1 _ _ _ _ _ _ _ _ _ hev hc;let n:=ops.size;let dst:Nat->yO Tmp:=λi=>aT ops.toList i;let D:Nat->Dv:=λi=>((rs[i]?).map (·.d)).getD .an;let bP:Nat->Nat:=λi=>(rs.map (·.bP)).getD i 0;let A:yL Nat:=BD ops.toList;have hn:ops.toList.length=n:=by simp[n]
    have hrl:rs.length=n:=by rw[zW,hn]
    unfold uH at hdr;simp only[yi]at hdr;obtain⟨⟨⟨⟨⟨_,hback⟩,hanc⟩,huniq⟩,hlook⟩,hcls⟩:=hdr;have hopl:∀(i:Nat),ops.toList[i]? =ops[i]? :=λi=>by simp
    have hA:∀i o,ops[i]? =ab o->A.getD i 0=nw A i o:=by
     grind
    have hu:∀i j,i < n->j < n->dst i≠ad->dst i=dst j->i=j:=by
     intro i j hi hj T U;have:=yal.1 (yal.1 huniq i (ybr.2 (by rw[hn];exact hi))) j (ybr.2 (by rw[hn];exact hj))
     all_goals grind
    have hL:∀i o j t,ops[i]? =ab o->j < n->dst j=ab t->t∈looks ops o->i≠j->(if j < i then(A.getD i 0).testBit j else(A.getD j 0).testBit i)=ae:=by
     all_goals grind
    obtain⟨z,_,hcls⟩:=List.any_eq_true.1 hcls
    have hE0:∀i j,i < n->j < n->bP i≠0->bP j=2->i≠j->(if j < i then(A.getD i 0).testBit j else(A.getD j 0).testBit i)=ae\/(bP i=1/\mc rs i j=ae)\/kB rs z i j=ae:=by
     all_goals grind
    have hTS:∀i,i<=n->kG ts (((ops.toList.zip rs).take i).map λq=>(q.1.dst,q.2.d))=dR n dst D ts (λj=>ag (j < i)):=by
     intro i
     induction i with
     |zero=>
      intro _;rw[vl (λj _=>by simp)]
      simp[kG]
     |succ i ih=>
      intro hi;have T:i < ops.toList.length:=by rw[hn];omega
      have U:i < rs.length:=by rw[hrl];omega
      have hz:(ops.toList.zip rs)[i]? =ab (ops.toList[i],rs[i]):=by
       grind
      rw[List.take_add_one,hz];simp only[Option.toList_some,yaw,yah,List.map_nil];rw[ZDr,ih (by omega)];have hd:ops.toList[i].dst=dst i:=by show _=aT ops.toList i;unfold aT;rw[yab T];rfl
      have hD:rs[i].d=D i:=by simp[D,yab U]
      rw[hd,hD]
      exact vm hu (by omega) (by simp) (λj _=>by
       by_cases hj:j < i <;> by_cases hj2:j=i <;> simp[hj,hj2] <;> omega)
    have W:∀(i:Nat)(o:yj),ops[i]? =ab o->∃r,rs[i]? =ab r/\aX r.C/\dk P ops o (aI (looks ops o) 0 (dR n dst D ts (λj=>ag (j < i)))) r.H r.hs=ab (r.C,r.d,r.H',r.hs')/\
     r.bP=bM P o (aI (looks ops o) 0 (dR n dst D ts (λj=>ag (j < i)))) r.H r.hs/\
     (r.rd=qD P o (aI (looks ops o) 0 (dR n dst D ts (λj=>ag (j < i))))/\r.tc=kY P o (aI (looks ops o) 0 (dR n dst D ts (λj=>ag (j < i)))) r.hs/\r.push=jh o r.hs r.H.length/\r.loc=kX o r.hs/\r.ex=kA o)/\(i=0->r.H=σ.H)/\(∀r2,rs[i+1]? =ab r2->r2.H=r.H')/\(i+1=n->H1=r.H'):=by
     grind
    let HH:Nat->yL aq:=λi=>if i < n then((rs[i]?).map (·.H)).getD [] else H1
    have I:∀i r,rs[i]? =ab r->HH i=r.H/\HH (i+1)=r.H':=by
     intro i r hr;have hi:i < n:=by rw[<-hrl];exact(yu.1 hr).1
     have hio:ops[i]? =ab ops[i]:=ycl hi
     all_goals grind
    have hcl:∀i r,rs[i]? =ab r->bP i=r.bP:=by
     grind
    have hstay:∀i,i < n->bP i≠2->HH (i+1)=HH i:=by
     intro i hi U;have hio:ops[i]? =ab ops[i]:=ycl hi;obtain⟨r,k1,_,k3,k4,_⟩:=W i _ hio;rw[(I i r k1).1,(I i r k1).2];exact ZE4 k3 (by rw[<-k4, <-hcl i r k1];exact U)
    have hlev:∀(i k:Nat),i+k<=n->(∀e,i<=e->e < i+k->bP e≠2)->HH (i+k)=HH i:=by
     intro i k
     induction k with
     |zero=>intro _ _;rfl
     |succ k ih=>
      intro hk J;rw[<-Nat.add_assoc,hstay (i+k) (by omega) (J _ (by omega) (by omega)),ih (by omega) (λe T U=>J e T (by omega))]
    let Lev:(Nat->Bool)->Nat->Prop:=λX i=>i<=n/\∀e,e < n->bP e=2->(X e=ae↔e < i)
    have hsameLev:∀(X:Nat->Bool)(i k:Nat),Lev X i->Lev X k->HH i=HH k:=by
     have main:∀(X:Nat->Bool)(i k:Nat),i<=k->Lev X i->Lev X k->HH i=HH k:=by
      intro X i k hik T U
      have:=hlev i (k - i) (by have:=U.1;omega) (λe he1 he2 y=>by
       have hen:e < n:=by have:=U.1;omega
       have h3:=(T.2 e hen y);have h4:=(U.2 e hen y);have:X e=ae:=h4.2 (by omega);have:=h3.1 this;omega)
      rw[<-this];congr 1;omega
     intro X i k T U;rcases Nat.le_total i k with h3|h3
     .exact main X i k h3 T U
     .exact(main X k i h3 U T).symm
    have hcle:∀i,i < n->bP i<=2:=by
     intro i hi;obtain⟨r,k1,_,k3,k4,_⟩:=W i _ (ycl hi);rw[hcl i r k1,k4];exact ZE7
    have hpsh:∀i r,rs[i]? =ab r->r.push=ae->bP i=2/\∃E,HH (i+1)=HH i++E/\∀o,ops[i]? =ab o->∀H2,H2.length=(HH i).length->dk P ops o (aI (looks ops o) 0 (dR n dst D ts (λj=>ag (j < i)))) H2 r.hs=ab (r.C,r.d,H2++E,r.hs'):=by
     intro i r hr hp;have hi:i < n:=by rw[<-hrl];exact(yu.1 hr).1
     have hio:ops[i]? =ab ops[i]:=ycl hi;obtain⟨r',k1,_,k3,k4,k45,_⟩:=W i _ hio;rw[hr]at k1;cases k1;rw[k45.2.2.1]at hp;obtain⟨q1,E,Z,_⟩:=ZxZ (H2:=r.H) k3 hp rfl;refine⟨by rw[hcl i r hr,k4,q1],E,by rw[(I i r hr).1,(I i r hr).2,Z],λo ho H2 hl=> ?_⟩;rw[hio]at ho;cases ho;obtain⟨_,E2,q3,q4⟩:=ZxZ (H2:=H2) k3 hp (by rw[hl,(I i r hr).1]);rw[Z]at q3;rw[List.append_cancel_left q3];exact q4
    have hlocc:∀i r,rs[i]? =ab r->r.loc=ae->bP i≠1/\(HH (i+1)).length=(HH i).length/\∀o,ops[i]? =ab o->∀E,dk P ops o (aI (looks ops o) 0 (dR n dst D ts (λj=>ag (j < i)))) (HH i++E) r.hs=ab (r.C,r.d,HH (i+1)++E,r.hs'):=by
     intro i r hr hp;have hi:i < n:=by rw[<-hrl];exact(yu.1 hr).1
     have hio:ops[i]? =ab ops[i]:=ycl hi;obtain⟨r',k1,_,k3,k4,k45,_⟩:=W i _ hio;rw[hr]at k1;cases k1;rw[k45.2.2.2.1]at hp;obtain⟨q1,Z,q3⟩:=ZId k3 hp;refine⟨by rw[hcl i r hr,k4];exact q1,by rw[(I i r hr).1,(I i r hr).2,Z],λo ho E=> ?_⟩;rw[hio]at ho;cases ho;rw[(I i r hr).1,(I i r hr).2];exact q3 E
    let Psh:Nat->Prop:=λi=>∃r,rs[i]? =ab r/\r.push=ae;let Loc:Nat->Prop:=λi=>∃r,rs[i]? =ab r/\r.loc=ae;let Pu:Nat->Prop:=λi=>∃r,rs[i]? =ab r/\r.push=ae/\r.H'.length=r.H.length+1/\∀k q,k < i->rs[k]? =ab q->q.H.length<=r.H.length
    have hcomm:∀i j,kB rs z i j=ae->(Loc z\/Pu z)/\((i=z/\z < j/\Psh j)\/(j=z/\z < i/\Psh i)):=by
     intro i j h
     have hget:∀(f:Rec->Bool)(k:Nat),((rs[k]?).map f).getD af=ae->∃r,rs[k]? =ab r/\f r=ae:=by
      intro f k hk
      cases hr:rs[k]? with
      |none=>rw[hr]at hk;cases hk
      |some r=>rw[hr]at hk;exact⟨r,rfl,hk⟩
     unfold kB at h;simp only[yi,yck,yT,yP]at h;obtain⟨T,U⟩:=h;refine⟨?_, ?_⟩
     .obtain⟨r,q1,Z⟩:=hget _ _ T;unfold uG at Z;simp only[yck,yi,yT,yal,yP]at Z;rcases Z with Z|⟨⟨Z,q3⟩,q4⟩
      .exact .inl ⟨r,q1,Z⟩
      .refine .inr ⟨r,q1,Z,q3,λk q hk hq=>q4 q ?_⟩;rw[List.mem_iff_getElem?];exact⟨k,by rw[ycd,yW hk];exact hq⟩
     rcases U with⟨⟨h3,h4⟩,h5⟩|⟨⟨h3,h4⟩,h5⟩
     .exact .inl ⟨h3,h4,hget _ _ h5⟩
     .exact .inr ⟨h3,h4,hget _ _ h5⟩
    let CG:yL aq->Prop:=λG=>(Loc z/\G=[])\/(Pu z/\G=[.gone])
    have hGl:∀G,CG G->(HH (z+1)).length=(HH z).length+G.length:=by
     rintro G (⟨⟨r,q1,Z⟩,rfl⟩|⟨⟨r,q1,_,Z,_⟩,rfl⟩)
     .rw[(hlocc z r q1 Z).2.1];rfl
     .rw[(I z r q1).1,(I z r q1).2,Z];rfl
    let Hole:(Nat->Bool)->yL aq->Prop:=λX Hc=>∃R e0 E G,z < n/\CG G/\bP z=2/\R<=n/\X z=af/\(∀e,e < n->bP e=2->(X e=ae↔e < R/\e≠z))/\(z < e0/\e0 < R/\bP e0=2/\HH e0=HH (z+1))/\
     (∀e,z < e->e < R->bP e=2->Psh e)/\Hc=HH z++(G++E)/\HH R=HH (z+1)++E
    let Inv:(Nat->Bool)->yL aq->Prop:=λX Hc=>(∃i,Lev X i/\Hc=HH i)\/Hole X Hc;refine wp_region_any hm ?_
    have walk:∀(yD:Nat)(g:Array Bool)(a:Act)(σ1:Sg),g.size=n->gQ (λj=>g.getD j af) n<=yD->jI ops (λj=>g.getD j af)->To σ σ1->Ok σ1->
     aD σ1 (dR n dst D ts (λj=>g.getD j af)) a->Inv (λj=>g.getD j af) σ1.H->wpAny P .any ops Q yD g a σ1.w:=by
     intro yD
     induction yD with
     |zero=>
      intro g a σ1 hsz hun hcl1 to1 ok1 hrep1 hlv;have zU:=vq (Nat.le_zero.1 hun);refine⟨?_, ?_⟩
      .apply List.eq_nil_iff_forall_not_mem.2;intro j hj;obtain⟨T,o,ho,_⟩:=mem_ready.1 hj;have hjn:j < n:=(yco.1 ho).1;have U:=zU j hjn;have hjs:j < g.size:=by omega
       simp only[Array.getD,hjs,dif_pos]at T U;rw[T]at U;cases U
      .rcases hlv with⟨i,hi,hH⟩|⟨R,e0,E,G,g1,_,_,_,g2,_⟩
       case inr=>exact absurd ((zU z g1).symm.trans g2) (by simp)
       have hln:Lev (λj=>g.getD j af) n:=⟨ym _,λe J _=>⟨λ_=>J,λ_=>zU e J⟩⟩;refine hQ a σ1 ?_ to1 ok1 ?_
       .rw[hH,hsameLev _ i n hi hln];simp[HH]
       .have:ts1=dR n dst D ts (λj=>g.getD j af):=by
         have F:=hTS n (ym _);rw[ycc (by rw[List.length_zip,hn,hrl];simp)]at F;rw[hts',F];apply ybq;intro t;by_cases ht:t < ts.length
         .rw[QZ ht,QZ ht];congr 1;by_cases hex:∃j,j < n/\dst j=ab t
          .obtain⟨j,T,U⟩:=hex;rw[VK hu T (by simpa using T) U,VK hu T (zU j T) U]
          .rw[kE (λj T _ h3=>hex ⟨j,T,h3⟩),kE (λj T _ h3=>hex ⟨j,T,h3⟩)]
         .rw[ybz (by rw[XD];omega),ybz (by rw[XD];omega)]
        rw[this]
        exact hrep1
     |succ yD ih=>
      intro g a σ1 hsz hun hcl1 to1 ok1 hrep1 hlv;refine⟨λhr=> ?_,λi hi=> ?_⟩
      . 
       have zU:∀j,j < n->g.getD j af=ae:=by
        intro j
        induction j using Nat.strongRecOn with
        |_ j ihj=>
         intro hj
         cases S:g.getD j af with
         |true=>rfl
         |false=>
          have hjs:j < g.size:=by omega
          have hjo:ops[j]? =ab ops[j]:=ycl hj
          have:j∈Region.ready .any ops g:=by
           refine mem_ready.2 ⟨?_,ops[j],hjo,λe J hb=> ?_⟩
           .simp only[Array.getD,hjs,dif_pos]at S ⊢;exact S
           .have hlt:=vu ops.toList 0 hback j ops[j] (by rw[hopl];exact hjo) e J hb;exact ihj e.on (by omega) (by omega)
          rw[hr]at this;cases this
       rcases hlv with⟨i,hi,hH⟩|⟨R,e0,E,G,g1,_,_,_,g2,_⟩
       case inr=>exact absurd ((zU z g1).symm.trans g2) (by simp)
       have hln:Lev (λj=>g.getD j af) n:=⟨ym _,λe J _=>⟨λ_=>J,λ_=>zU e J⟩⟩;refine hQ a σ1 ?_ to1 ok1 ?_
       .rw[hH,hsameLev _ i n hi hln];simp[HH]
       .have:ts1=dR n dst D ts (λj=>g.getD j af):=by
         have F:=hTS n (ym _);rw[ycc (by rw[List.length_zip,hn,hrl];simp)]at F;rw[hts',F];apply ybq;intro t;by_cases ht:t < ts.length
         .rw[QZ ht,QZ ht];congr 1;by_cases hex:∃j,j < n/\dst j=ab t
          .obtain⟨j,T,U⟩:=hex;rw[VK hu T (by simpa using T) U,VK hu T (zU j T) U]
          .rw[kE (λj T _ h3=>hex ⟨j,T,h3⟩),kE (λj T _ h3=>hex ⟨j,T,h3⟩)]
         .rw[ybz (by rw[XD];omega),ybz (by rw[XD];omega)]
        rw[this];exact hrep1
      . 
       obtain⟨T,o,ho,hedge⟩:=mem_ready.1 hi;have hin:i < n:=(yco.1 ho).1;have eZ:i < g.size:=by omega
       let X:Nat->Bool:=λj=>g.getD j af
       have hXi:X i=af:=by
        simp only[X,Array.getD,eZ,dif_pos]at T ⊢;exact T
       have hancL:∀j,(A.getD i 0).testBit j=ae->X j=ae:=by
        intro j hj;rw[hA i o ho]at hj;unfold nw at hj;rcases CQ A i j _ _ hj with h|⟨e,F,e2,e3,e4⟩
        .simp at h
        .have J:=hedge e (by simpa using F) e2;rcases e4 with e4|e4
         .rw[<-e4];exact J
         .exact Zrl hcl1 hA e.on ⟨ops[e.on],ycl (by omega)⟩ J j e4
       have hancR:∀j,j < n->X j=ae->(A.getD j 0).testBit i=ae->False:=by
        intro j hj S hb;have:=Zrl hcl1 hA j ⟨ops[j],ycl hj⟩ S i hb;have hXi':(g.getD i af)=af:=hXi;rw[hXi']at this;cases this
       obtain⟨r,k1,k2,k3,k4,k45,_,_,_⟩:=W i o ho
       have hmask:aI (looks ops o) 0 (dR n dst D ts X)=aI (looks ops o) 0 (dR n dst D ts (λj=>ag (j < i))):=by
        refine ZDp hu (λj t hj hd ht=> ?_);by_cases hij:i=j
        .subst hij;rw[hXi];simp
        .have:=hL i o j t ho hj hd ht hij;split at this
         .rename_i hlt;rw[hancL j this];simp[hlt]
         .rename_i hge
          have hxf:X j=af:=by
           cases S:X j with
           |false=>rfl
           |true=>exact(hancR j hj S this).elim
          rw[hxf];simp[hge]
       have hXi2:X i=af:=hXi
       have hgetset:∀j,(g.setIfInBounds i ae).getD j af=(X j || decide (j=i)):=by
        intro j;by_cases hji:j=i
        .subst hji;simp[Array.getD,eZ]
        .simp only[X,ycu,ycz,hji,decide_false,ycj];rw[yX (λh=>hji h.symm)]
       have hord:∀e,e < n->bP i≠0->bP e=2->i≠e->¬(bP i=1/\mc rs i e=ae)->¬kB rs z i e=ae->(X e=ae↔e < i):=by
        intro e J h0 y hie hf hcm;rcases hE0 i e hin J h0 y hie with h3|h3|h3
        .split at h3
         .rename_i hlt;exact⟨λ_=>hlt,λ_=>hancL e h3⟩
         .rename_i hge;exact⟨λS=>(hancR e J S h3).elim,λh=>absurd h hge⟩
        .exact absurd h3 hf
        .exact absurd h3 hcm
       have hkeep:bP i≠2->Inv (λj=>(g.setIfInBounds i ae).getD j af) σ1.H:=by
        intro U
        have hX':∀e,bP e=2->((g.setIfInBounds i ae).getD e af=ae↔X e=ae):=by
         intro e y
         have hne:¬e=i:=by
          rintro rfl;exact U y
         rw[hgetset e];simp only[hne,decide_false,ycj]
        rcases hlv with⟨R,M,hlv2⟩|⟨R,e0,E,G,g1,g2,g3,g4,g5,g6,g7,g8,g9,g10⟩
        .exact .inl ⟨R,⟨M.1,λe J y=>(hX' e y).trans (M.2 e J y)⟩,hlv2⟩
        .refine .inr ⟨R,e0,E,G,g1,g2,g3,g4, ?_,λe J y=>(hX' e y).trans (g6 e J y),g7,g8,g9,g10⟩;have:=hX' z g3;show(g.setIfInBounds i ae).getD z af=af
         cases S:(g.setIfInBounds i ae).getD z af with
         |false=>rfl
         |true=>
          have h9:=this.1 S;have g5':X z=af:=g5;rw[g5']at h9;cases h9
       let SO:yL aq->Prop:=λH2=>∀K:Act->yr->Prop,(∀v σ2,σ2.H=H2->To σ1 σ2->Ok σ2->aD σ2 (fS (aI (looks ops o) 0 (dR n dst D ts X)) o.dst r.d) (a.put o.dst v)->K (a.put o.dst v) σ2.w)->
        if Region.wanted o (yielded ops a.tmps) then o.wp P a σ1.w K Q else K (a.put o.dst undef) σ1.w
       have soE:∀H2,dk P ops o (aI (looks ops o) 0 (dR n dst D ts (λj=>ag (j < i)))) σ1.H r.hs=ab (r.C,r.d,H2,r.hs')->SO H2:=λH2 h K hK=>by
        rw[<-hmask]at h;exact vj (P:=P) (ops:=ops) ok1 (Vs (looks ops o) hrep1) h k2 K Q hK
       have soG:∀G H2,(G=[]\/G=[.gone])->dk P ops o (aI (looks ops o) 0 (dR n dst D ts (λj=>ag (j < i)))) (σ1.H++G) r.hs=ab (r.C,r.d,H2,r.hs')->SO H2:=λG H2 hG h=>by
        rcases hG with rfl|rfl
        .rw[List.append_nil]at h;exact soE H2 h
        .intro K hK;rw[<-hmask]at h;obtain⟨t1,o1⟩:=CR ok1;exact vj (P:=P) (ops:=ops) (σ:={ σ1 with m:=σ1.m++[ad],H:=σ1.H++[.gone]}) o1 ((Vs (looks ops o) hrep1).to t1.leaf) h k2 K Q λv σ2 F to2 ok2 hr2=>hK v σ2 F (t1.trans to2) ok2 hr2
       have hnow:∃H2,SO H2/\Inv (λj=>(g.setIfInBounds i ae).getD j af) H2:=by
        by_cases h0:bP i=0
        .obtain⟨F,e2⟩:=ZE3 (H2:=σ1.H) k3 (by rw[<-k4, <-hcl i r k1];exact h0);exact⟨σ1.H,soE _ e2,hkeep (by omega)⟩
        by_cases h01:bP i=1
        .have hkc:bM P o (aI (looks ops o) 0 (dR n dst D ts (λj=>ag (j < i)))) r.H r.hs=1:=by rw[<-k4, <-hcl i r k1];exact h01
         have hnc:∀e,¬kB rs z i e=ae:=by
          intro e hcm;obtain⟨q0,q3|q3⟩:=hcomm i e hcm
          .obtain⟨rfl,_⟩:=q3;rcases q0 with⟨rc,q1,Z⟩|⟨rc,q1,Z,_⟩
           .exact(hlocc _ rc q1 Z).1 h01
           .have:=(hpsh _ rc q1 Z).1;omega
          .obtain⟨_,_,rp,q4,q5⟩:=q3;have:=(hpsh i rp q4 q5).1;omega
         have hdis:∀e,e < n->bP e=2->¬(X e=ae↔e < i)->mc rs i e=ae:=by
          intro e J y S;by_cases hf:mc rs i e=ae
          .exact hf
          .exact absurd (hord e J h0 y (by rintro rfl;omega) (λh=>hf h.2) (hnc e)) S
         have hfr:∀k,k < n->mc rs i k=ae->True/\∃id,r.rd=ab id/\id < (HH k).length/\id < (HH i).length/\(bP k=2->fZ o ((HH (k+1))[id]?)=fZ o ((HH k)[id]?)):=by
          intro k hk hf;have hko:ops[k]? =ab ops[k]:=ycl hk;obtain⟨q,g1,_,g3,g4,g45,_⟩:=W k _ hko;unfold mc at hf;rw[k1,g1]at hf;dsimp only at hf;split at hf
          .rename_i id F;simp only[yi,yP]at hf;have hrd:=k45.1;rw[F]at hrd;unfold qD at hrd
           .refine⟨zP,id,F,by rw[(I k q g1).1];exact hf.1.1,by rw[(I i r k1).1];exact hf.1.2,λhck=> ?_⟩;rw[(I k q g1).1,(I k q g1).2];have hf2:=hf.2;rw[k45.2.2.2.2]at hf2;unfold fZ;by_cases hex:kA o=ae
            .rw[yW hex]at hf2;rw[yW hex,yW hex];obtain⟨_,E,p3,_⟩:=hpsh k q g1 hf2;rw[(I k q g1).1,(I k q g1).2]at p3;rw[p3,ybe hf.1.1]
            .rw[yX hex]at hf2;rw[yX hex,yX hex];rw[yck]at hf2;rcases hf2 with hf2|hf2
             .split at hf2
              .rename_i l e2;exact ZDq g3 (by rw[<-g4, <-hcl k q g1];exact hck) (by rw[<-g45.2.1,e2]) hf.1.1 (by simpa using hf2)
              .cases hf2
             .exact@of_decide_eq_true _ (Classical.propDecidable _) hf2
          .cases hf
         have hchain:∀(id k a:Nat),a+k<=n->(∀e,a<=e->e < a+k->bP e=2->fZ o ((HH (e+1))[id]?)=fZ o ((HH e)[id]?))->fZ o ((HH (a+k))[id]?)=fZ o ((HH a)[id]?):=by
          intro id k a
          induction k with
          |zero=>intro _ _;rfl
          |succ k ihk=>
           intro hk J;rw[<-Nat.add_assoc, <-ihk (by omega) (λe T U=>J e T (by omega))];by_cases U:bP (a+k)=2
           .exact J (a+k) (by omega) (by omega) U
           .rw[hstay (a+k) (by omega) U]
         have hreads:∀id,r.rd=ab id->oU P o (aI (looks ops o) 0 (dR n dst D ts (λj=>ag (j < i))))=ab id:=by
          intro id F;have hrd:=k45.1;rw[F]at hrd;exact hrd.symm
         have hfin:True->∀id,r.rd=ab id->fZ o ((HH i)[id]?)=fZ o (σ1.H[id]?)->∃H2,SO H2/\Inv (λj=>(g.setIfInBounds i ae).getD j af) H2:=by
          intro hg id F e2;rw[(I i r k1).1]at e2;exact⟨σ1.H,soE _ (ZMl k3 hkc (λ_=>ZKz (hreads id F) e2)),hkeep (by omega)⟩
         rcases hlv with⟨R,M,hlv2⟩|⟨R,e0,E,G,g1,g2,g3,g4,g5,g6,g7,g8,g9,g10⟩
         .by_cases hsame:Lev X i
          .have hHi:σ1.H=r.H:=by
            rw[hlv2,hsameLev X R i M hsame,(I i r k1).1]
           have hr':r.H'=r.H:=by
            have:=hstay i hin (by omega);rw[(I i r k1).1,(I i r k1).2]at this;exact this
           refine⟨σ1.H,soE _ (by rw[hHi,k3,hr']),hkeep (by omega)⟩
          .have hex:∃e,e < n/\bP e=2/\¬(X e=ae↔e < i):=by
            refine Classical.byContradiction λhno=>hsame ⟨by omega,λe J y=> ?_⟩;exact Classical.byContradiction λh=>hno ⟨e,J,y,h⟩
           obtain⟨F,he1,hce1,hx1⟩:=hex;obtain⟨hg,id,hid,_⟩:=hfr F he1 (hdis F he1 hce1 hx1);refine hfin hg id hid ?_;have hln:=M.1
           have hst:∀e,e < n->bP e=2->¬(X e=ae↔e < i)->fZ o ((HH (e+1))[id]?)=fZ o ((HH e)[id]?):=by
            intro e J y S;obtain⟨_,id',hid',_,_,h5⟩:=hfr e J (hdis e J y S);rw[hid]at hid';cases hid';exact h5 y
           rw[hlv2];rcases Nat.le_total R i with hle|hle
           .have:=hchain id (i - R) R (by omega) (λe T U h3=>hst e (by omega) h3 (λS=>by
             have h4:=(M.2 e (by omega) h3).1 (S.2 (by omega));omega))
            rw[show R+(i - R)=i by omega]at this;exact this
           .have:=hchain id (R - i) i (by omega) (λe T U h3=>hst e (by omega) h3 (λS=>by
             have h4:=S.1 ((M.2 e (by omega) h3).2 (by omega));omega))
            rw[show i+(R - i)=R by omega]at this;exact this.symm
         . 
          have hic:¬i=z:=by
           rintro rfl;omega
          obtain⟨ge1,ge2,ge3,ge4⟩:=g7;have hclen:=hGl G g2;have hxe0:X e0=ae:=(g6 e0 (by omega) ge3).2 ⟨ge2,by omega⟩;have hxc0:X z=af:=g5
          have hid:True/\∃id,r.rd=ab id/\id < (HH z).length:=by
           by_cases hlt:z < i
           .obtain⟨hg,id,q1,Z,_⟩:=hfr z g1 (hdis z g1 g3 (λS=>by
             rw[hxc0]at S;have:=S.2 hlt;cases this))
            exact⟨hg,id,q1,Z⟩
           .obtain⟨hg,id,q1,Z,q20,_⟩:=hfr e0 (by omega) (hdis e0 (by omega) ge3 (λS=>by
             have:=S.1 hxe0;omega))
            refine⟨hg,id,q1, ?_⟩;rcases g2 with⟨_,rfl⟩|⟨⟨rc,p1,_,_,p4⟩,rfl⟩
            .rw[ge4,hclen]at Z;exact Z
            .have:=p4 i r (by omega) k1;rw[(I i r k1).1]at q20;rw[(I z rc p1).1];omega
          obtain⟨hg,id,hid,hidl⟩:=hid;refine hfin hg id hid ?_
          have hst:∀e,e < n->bP e=2->¬(X e=ae↔e < i)->fZ o ((HH (e+1))[id]?)=fZ o ((HH e)[id]?):=by
           intro e J y S;obtain⟨_,id',hid',_,_,h5⟩:=hfr e J (hdis e J y S);rw[hid]at hid';cases hid';exact h5 y
          rw[g9,ybe hidl];by_cases hlt:z < i
          . 
           have hc1:fZ o ((HH (z+1))[id]?)=fZ o ((HH z)[id]?):=hst z g1 g3 (λS=>by
            rw[hxc0]at S;have:=S.2 hlt;cases this)
           have hup:∀k,z+1+k<=R->id < (HH (z+1+k)).length/\fZ o ((HH (z+1+k))[id]?)=fZ o ((HH (z+1))[id]?):=by
            intro k
            induction k with
            |zero=>intro _;exact⟨by rw[Nat.add_zero,hclen];omega,rfl⟩
            |succ k ihk=>
             intro hk;obtain⟨j1,j2⟩:=ihk (by omega);rw[<-Nat.add_assoc];by_cases U:bP (z+1+k)=2
             .obtain⟨rp,p1,p2⟩:=g8 (z+1+k) (by omega) (by omega) U;obtain⟨_,E2,p3,_⟩:=hpsh _ rp p1 p2;rw[p3,ybe j1];exact⟨by rw[yl];omega,j2⟩
             .rw[hstay (z+1+k) (by omega) U];exact⟨j1,j2⟩
           rcases Nat.le_total i R with hle|hle
           .have:=(hup (i - (z+1)) (by omega)).2;rw[show z+1+(i - (z+1))=i by omega]at this;rw[this,hc1]
           .have h6:=(hup (R - (z+1)) (by omega)).2;rw[show z+1+(R - (z+1))=R by omega]at h6
            have:=hchain id (i - R) R (by omega) (λe T U h3=>hst e (by omega) h3 (λS=>by
             have h4:=(g6 e (by omega) h3).1 (S.2 (by omega));omega))
            rw[show R+(i - R)=i by omega]at this;rw[this,h6,hc1]
          .have:=hchain id (z - i) i (by omega) (λe T U h3=>hst e (by omega) h3 (λS=>by
            have h4:=S.1 ((g6 e (by omega) h3).2 ⟨by omega,by omega⟩);omega))
           rw[show i+(z - i)=z by omega]at this;exact this.symm
        have U:bP i=2:=by
         have:=hcle i hin;omega
        have hord2:∀e,e < n->bP e=2->i≠e->¬kB rs z i e=ae->(X e=ae↔e < i):=λe J y hie hcm=>hord e J h0 y hie (λh=>h01 h.1) hcm
        have hset:∀e,((g.setIfInBounds i ae).getD e af=ae↔(X e=ae\/e=i)):=by
         intro e;rw[hgetset e];simp
        by_cases hall2:∀e,e < n->bP e=2->(X e=ae↔e < i)
        . 
         have hli:Lev X i:=⟨by omega,hall2⟩
         have hHi:σ1.H=r.H:=by
          rcases hlv with⟨R,M,hlv2⟩|⟨R,e0,E,G,g1,g2,g3,g4,g5,g6,g7,g8,g9,g10⟩
          .rw[hlv2,hsameLev X R i M hli,(I i r k1).1]
          .exfalso;obtain⟨ge1,ge2,ge3,ge4⟩:=g7;have q1:=(hall2 e0 (by omega) ge3).1 ((g6 e0 (by omega) ge3).2 ⟨ge2,by omega⟩);have Z:=(hall2 z g1 g3).2 (by omega);have g5':X z=af:=g5;rw[g5']at Z;cases Z
         rw[<-hHi]at k3;refine⟨r.H',soE _ k3,.inl ⟨i+1,⟨by omega,λe J y=> ?_⟩,((I i r k1).2).symm⟩⟩;refine(hset e).trans ?_;rw[hall2 e J y];omega
        . 
         have hex:∃e,e < n/\bP e=2/\i≠e/\¬(X e=ae↔e < i):=by
          refine Classical.byContradiction λhno=>hall2 λe J y=> ?_;by_cases hie:i=e
          .subst hie;rw[hXi2];simp
          .exact Classical.byContradiction λh=>hno ⟨e,J,y,hie,h⟩
         obtain⟨F,he1,hce1,hie1,hx1⟩:=hex;have hcm1:kB rs z i F=ae:=Classical.byContradiction λh=>hx1 (hord2 F he1 hce1 hie1 h);obtain⟨hLP,hcases⟩:=hcomm i F hcm1;rcases hcases with⟨hic,hlt1,hpe1⟩|⟨hec,hlt1,hpi⟩
         . 
          subst hic
          have hxe1:X F=ae:=by
           cases S:X F with
           |true=>rfl
           |false=>
            exfalso;apply hx1;rw[S];exact⟨λh=>(by cases h),λh=>(by omega)⟩
          rcases hlv with⟨R,M,hlv2⟩|⟨R,e0,E,G,g1,g2,g3,g4,g5,g6,g7,g8,g9,g10⟩
          .exfalso;have q1:=(M.2 F he1 hce1).1 hxe1;have Z:=(M.2 i hin U).2 (by omega);have hXi3:X i=af:=hXi;have q2':X i=ae:=Z;rw[hXi3]at q2';cases q2'
          .have hso:SO (HH (i+1)++E):=by
            rcases g2 with⟨⟨rc,hrc,hrcl⟩,rfl⟩|⟨⟨rc,hrc,hrp,hrl,_⟩,rfl⟩
            .rw[hrc]at k1;cases k1;obtain⟨_,_,hcev⟩:=hlocc i r hrc hrcl;exact soE _ (by rw[g9];exact hcev o ho E)
            .rw[hrc]at k1;cases k1;intro K hK;have hp:jh o r.hs r.H.length=ae:=by rw[<-k45.2.2.1];exact hrp
             rw[<-hmask]at k3;refine ZE6 (P:=P) (ops:=ops) (E:=E) ok1 (Vs (looks ops o) hrep1) k3 k2 hp hrl (by rw[g9,(I i r hrc).1];rfl) K Q λv σ2 F to2 ok2 hr2=>hK v σ2 (by rw[F,(I i r hrc).2]) to2 ok2 hr2
           refine⟨HH (i+1)++E,hso,.inl ⟨R,⟨g4,λe J y=> ?_⟩,g10.symm⟩⟩;refine(hset e).trans ?_;have q:=g6 e J y;obtain⟨ge1,ge2,_⟩:=g7;constructor
           .rintro(q1|q1)
            .exact(q.1 q1).1
            .omega
           .intro q1;by_cases hei:e=i
            .exact .inr hei
            .exact .inl (q.2 ⟨q1,hei⟩)
         . 
          subst hec
          have hxc:X F=af:=by
           cases S:X F with
           |false=>rfl
           |true=>
            exfalso;apply hx1;rw[S];exact⟨λ_=>hlt1,λ_=>rfl⟩
          have hoth:∀e,e < n->bP e=2->e≠F->(X e=ae↔e < i):=by
           intro e J y hne;by_cases hie:i=e
           .subst hie;rw[hXi2];simp
           .refine hord2 e J y hie λhcm=> ?_;obtain⟨_,q|q⟩:=hcomm i e hcm
            .omega
            .exact hne q.1
          obtain⟨rp,hrp,hrpp⟩:=hpi;obtain⟨_,Ei,hpE,hpev⟩:=hpsh i rp hrp hrpp
          have hexG:∃G,CG G/\(G=[]\/G=[.gone]):=by
           rcases hLP with h|h
           .exact⟨[],.inl ⟨h,rfl⟩,.inl rfl⟩
           .exact⟨[.gone],.inr ⟨h,rfl⟩,.inr rfl⟩
          rw[hrp]at k1;cases k1;rcases hlv with⟨R,M,hlv2⟩|⟨R,e0,E,G,g1,g2,g3,g4,g5,g6,g7,g8,g9,g10⟩
          .have hlc:Lev X F:=⟨by omega,λe J y=>by
            by_cases hne:e=F
            .subst hne;rw[hxc];simp
            .rw[hoth e J y hne];constructor
             .intro q;have q1:=(M.2 e J y).1 ((hoth e J y hne).2 q)
              have Z:¬F < R:=λq3=>by
               have q9:X F=ae:=(M.2 F he1 hce1).2 q3;rw[hxc]at q9;cases q9
              omega
             .intro q;omega⟩
           have hmid:∀e,F < e->e < i->bP e≠2:=by
            intro e q1 Z y;have q3:=(hoth e (by omega) y (by omega)).2 Z;have q4:=(hlc.2 e (by omega) y).1 q3;omega
           have hHi:HH i=HH (F+1):=by
            have:=hlev (F+1) (i - (F+1)) (by omega) (λe q1 Z=>hmid e (by omega) (by omega));rw[show F+1+(i - (F+1))=i by omega]at this;exact this
           have hH1:σ1.H=HH F:=by rw[hlv2,hsameLev X R F M hlc]
           obtain⟨G,hCG,hG2⟩:=hexG;have hclen:=hGl G hCG
           have hso:SO (HH F++(G++Ei)):=soG G _ hG2 (by
            rw[<-yac,hH1];exact hpev o ho (HH F++G) (by rw[hHi,hclen,yl]))
           refine⟨HH F++(G++Ei),hso,.inr ⟨i+1,i,Ei,G,he1,hCG,hce1,by omega, ?_,λe J y=> ?_,⟨hlt1,by omega,U,hHi⟩,λe q1 Z q3=> ?_,rfl,by rw[hpE,hHi]⟩⟩
           .show(g.setIfInBounds i ae).getD F af=af
            cases S:(g.setIfInBounds i ae).getD F af with
            |false=>rfl
            |true=>
             rcases (hset F).1 S with q|q
             .rw[hxc]at q;cases q
             .omega
           .refine(hset e).trans ?_;by_cases hne:e=F
            .subst hne;rw[hxc];constructor
             .rintro(q|q)
              .cases q
              .omega
             .rintro⟨_,q⟩;exact absurd rfl q
            .rw[hoth e J y hne];omega
           .by_cases hei:e=i
            .subst hei;exact⟨_,hrp,hrpp⟩
            .exact absurd q3 (hmid e q1 (by omega))
          .obtain⟨ge1,ge2,ge3,ge4⟩:=g7
           have hlvi:R<=i:=by
            rcases Nat.lt_or_ge i R with q|q
            .exfalso;have:=(g6 i hin U).2 ⟨q,by omega⟩;have hXi3:X i=af:=hXi;have q2':X i=ae:=this;rw[hXi3]at q2';cases q2'
            .exact q
           have hHi:HH i=HH R:=by
            have:=hlev R (i - R) (by omega) (λe q1 Z y=>by
             have q3:=(hoth e (by omega) y (by omega)).2 (by omega);have q4:=(g6 e (by omega) y).1 q3;omega)
            rw[show R+(i - R)=i by omega]at this;exact this
           have hclen:=hGl G g2;have hso:SO (σ1.H++Ei):=soE _ (hpev o ho σ1.H (by rw[hHi,g10,g9,yl,yl,yl,hclen];omega));refine⟨σ1.H++Ei,hso,.inr ⟨i+1,e0,E++Ei,G,he1,g2,hce1,by omega, ?_,λe J y=> ?_,⟨ge1,by omega,ge3,ge4⟩,λe q1 Z q3=> ?_,by rw[g9,yac,yac],by rw[hpE,hHi,g10,yac]⟩⟩
           .show(g.setIfInBounds i ae).getD F af=af
            cases S:(g.setIfInBounds i ae).getD F af with
            |false=>rfl
            |true=>
             rcases (hset F).1 S with q|q
             .rw[hxc]at q;cases q
             .omega
           .refine(hset e).trans ?_;by_cases hne:e=F
            .subst hne;rw[hxc];constructor
             .rintro(q|q)
              .cases q
              .omega
             .rintro⟨_,q⟩;exact absurd rfl q
            .rw[hoth e J y hne];omega
           .by_cases hei:e=i
            .subst hei;exact⟨_,hrp,hrpp⟩
            .have q4:=(hoth e (by omega) q3 (by omega)).2 (by omega);have q5:=(g6 e (by omega) q3).1 q4;exact g8 e q1 q5.1 q3
       obtain⟨H2,hso2,hinv⟩:=hnow
       have key:=hso2 (wpAny P .any ops Q yD (g.setIfInBounds i ae)) (λv σ2 F to2 ok2 hrep2=>by
        have hgetset:∀j,(g.setIfInBounds i ae).getD j af=(X j || decide (j=i)):=by
         intro j;by_cases hji:j=i
         .subst hji;simp[Array.getD,eZ]
         .simp only[X,ycu,ycz,hji,decide_false,ycj];rw[yX (λh=>hji h.symm)]
        refine ih _ _ σ2 (by simpa using hsz) ?_ ?_ (to1.trans to2) ok2 ?_ (by rw[F];exact hinv)
        .have:=vt (Y:=λj=>(g.setIfInBounds i ae).getD j af) hXi hin (λj _=>hgetset j);have hX':gQ X n<=yD+1:=hun;omega
        .intro j o' hj S e J hb;show(g.setIfInBounds i ae).getD e.on af=ae;rw[hgetset];have hx':(g.setIfInBounds i ae).getD j af=ae:=S;rw[hgetset]at hx';by_cases hji:j=i
         .subst hji;rw[ho]at hj;cases hj;have:X e.on=ae:=hedge e J hb;rw[this];rfl
         .simp only[hji,decide_false,ycj]at hx';have:X e.on=ae:=hcl1 j o' hj hx' e J hb;rw[this];rfl
        .have hd:o.dst=dst i:=by simp[dst,aT,ho]
         have hD:r.d=D i:=by simp[D,k1]
         have hput:=vm (ts0:=ts) (D:=D) hu hin hXi (λj(_:j < n)=>hgetset j);rw[<-hput, <-hd, <-hD];exact ZKA (Zmv _ _ _) (hrep1.to to2.leaf) hrep2)
       show wpOp P ops Q i _ a σ1.w;unfold wpOp;rw[ho];by_cases hw:Region.wanted o (yielded ops a.tmps)=ae
       .rw[yW hw]at key;simp only[hw,if_true];exact .inl key
       .rw[yX hw]at key;simp only[hw];exact key
    have hdr2:σ.w.grownBy { σ.w with drawn:=σ.w.drawn+1} ad:=by
     exact⟨rfl,rfl,rfl,ym _,λ_ _ _=>rfl⟩
    obtain⟨to0,ok0⟩:=nC ok hdr2
    have hfalse:∀j,(ycg ops.size af).getD j af=af:=by
     intro j;by_cases hj:j < ops.size <;> simp[Array.getD,hj]
    refine walk ops.size (ycg ops.size af) a { σ with w:={ σ.w with drawn:=σ.w.drawn+1}} (by simp[n]) ?_ ?_ to0 ok0 ?_ (.inl ⟨0,⟨Nat.zero_le _,λe _ _=> ?_⟩, ?_⟩)
    .exact vr
    .intro i o _ S;have hx':(ycg ops.size af).getD i af=ae:=S;rw[hfalse i]at hx';cases hx'
    .rw[vl (λj _=>hfalse j)];exact yM.to to0.leaf
    .show(ycg ops.size af).getD e af=ae↔e < 0;rw[hfalse e];simp
    .show σ.H=HH 0;by_cases h0:0 < n
     .obtain⟨r,k1,_,_,_,_,k5,_⟩:=W 0 _ (ycl h0);rw[(I 0 r k1).1,k5 rfl]
     .have:ops.toList=[]:=ybj (by omega);simp only[HH,h0,if_false];exact(hnil this).symm
   .cases h
  .cases h
 .cases h
end
end Go.Ev
end
section
namespace Go.Ev
section
variable{P:yg}{o:yj}{a:Act}{σ:Sg}{ts:yL Dv}{hs hs':yL ao}{C:yL Prop}{d:Dv}{H':yL aq}
theorem Zx3{t:yc}{parts:Array (Nat×yp)}{g:Array Field}{zs:yL Pl}{Q:yL Dv}(ok:Ok σ)(yM:aD σ ts a)(ho:o.op=.build t parts)(hu:P.underlying t=ab (.struct g))(hz:bg P t=.p (.agg zs))
 (Y:(mb (gZ P ts (jA P t) parts.toList)&&g.size==zs.length&&(yo zs.length).all λi=>kv P g i (Pl.sizes (zs.take i)) ((zs.getD i default).size) ((zs.getD i default).isAgg))=ae)
 (j:iK (zs.map .p) (gZ P ts (jA P t) parts.toList)=ab Q):YL P o a σ (.agg Q) σ.H:=by
 have run:∀cells,P.built t (parts.map λq=>(q.1,a.eval q.2)).toList=ab cells->(execOp a.eval o).run P σ.w=.ok (.value (.agg cells)) σ.w:=λcells hv=>by
  have:=run_build (P:=P) σ.w t (parts.map λq=>(q.1,a.eval q.2)) cells hv;simp[execOp,ho,this]
 .skip
  .simp only[yi,yT]at Y;obtain⟨⟨l,zW⟩,zU⟩:=Y;obtain⟨it,z,R,m,y⟩:=BR (σ:=σ) hz (by simp);obtain⟨cs,rfl,A⟩:=(ZY rfl).1 y;simp only[yH,aB]at A
   have Z:∀i,i < g.size->∃f z,g[i]? =ab f/\zs[i]? =ab z/\f.offset=Pl.sizes (zs.take i)/\P.cellsOf f.type=z.size/\(P.info? f.type).isSome=ae:=by
    intro i E;have F:i < zs.length:=by omega
    have J:=yal.1 zU i (ybr.2 F);unfold kv at J;grind
   have G:=BS (P:=P) g.toList (λf S=>by
    obtain⟨i,E,rfl⟩:=ybg S;obtain⟨f,z,J,_,_,_,M⟩:=Z i (by simpa using E)
    have:g.toList[i]=f:=by
     grind
    rw[this];exact M)
   obtain⟨qs,T,hq2,U⟩:=uU (P:=P) yM (jA P t) parts.toList l;rw[<-T]at j
   obtain⟨h,W,hr,_⟩:=qN (σ:=σ) (place:=((g.toList.map λf=>(f.offset,P.cellsOf f.type)).toArray[·]?)) (sz:=zs.map Pl.size) (by
    intro i s E;rw[yao]at E;obtain⟨z,I,X⟩:=yv.1 E;have F:i < zs.length:=(yu.1 I).1;obtain⟨f,z',J,M,h3,h4,_⟩:=Z i (by omega);rw[I]at M;cases M;have:g.toList[i]? =ab f:=by simpa using J
    simp only[List.getElem?_toArray,yao,this,yae,h3,h4,X,oY,List.map_take]) qs (zs.map .p) Q cs (by simp[Dv.size,Function.comp_def]) (jC.2 A) U j
   have hb:P.built t (parts.map λq=>(q.1,a.eval q.2)).toList=ab h:=by
    unfold Program.built;rw[R,hu];simp only[m,G,Value.cells];simp_all
   exact Zk ok (run _ hb) ((ZY rfl).2 ⟨_,rfl,by simp only[yH];exact hr⟩)
theorem vv(ok:Ok σ)(yM:aD σ ts a){t:yc}{x y:yp}{id off:Nat}{yQ:yL Nat}{dd sub new dd':Dv}{C1:yL Prop}{off':Nat}(ho:o.op=.store t x y)(hx:aF P ts 0 x=.aj id off yQ)
 (hH:σ.H[id]? =ab (.var dd ae)) (hg:Yd dd yQ hs=ab (C1,off',sub,hs')) (hc:aX C1) (he:off'=off) (hn:aF P ts t y=new) (hp:Wi new dd yQ hs=ab dd')
 (z:new.bF=ae) (hsz:new.size=sub.size) (ht:P.cellsOf t=new.size) (hi:(P.info? t).isSome=ae):YL P o a σ .an (σ.H.set id (.var dd' ae)):=by
 subst he;have l:=Zq (P:=P) yM 0 x;have G:=Zq (P:=P) yM t y;rw[hn]at G;rw[hx]at l;obtain⟨b,hm,hv,l⟩:=lr l;obtain⟨b',E,T,h1,h2,h3,h4⟩:=ok.dF id _ _ hH hm;cases h1;obtain⟨p1,p2,p3,h5,h6,h7,h8⟩:=QY yQ dd hs hs' C1 off' sub _ hg hc h3;have f:=Vj z G;obtain⟨h9,I⟩:=h8 new dd' _ hp hsz f;have J:(a.eval y).cells.toList.length=new.size:=XC _ _ f;have U:p2.length=sub.size:=XC _ _ h7;have W:(a.eval y).cells.toList.length=p2.length:=by rw[J,U,hsz]
 obtain⟨k1,k2⟩:=pf h5 W h4;rw[h6]at k1 k2
 have X:off'+(a.eval y).cells.toList.length<=E.size:=by
  have:=congrArg List.length h5;grind
 have M:∀u,u∈(a.eval y).cells.toList->u.oneCell'=ae:=qM new _ z f;have Q:=run_storeCells_at P b off' T (a.eval y).cells.toList 0 E σ.w h2 (by simpa using X) M;simp only[Nat.add_zero]at Q;let g:Array yh:=(E.toList.take off'++(a.eval y).cells.toList++E.toList.drop (off'+(a.eval y).cells.toList.length)).toArray;let F:Sg:={ σ with m:=σ.m.set id (ab b),H:=σ.H.set id (.var dd' ae),w:=σ.w.setRow b g};have zV:F.w.heap[b]? =ab (.cells g T (0,0)):=setRow_heap σ.w b E _ T _ h2;have R:∀j,b≠j->F.w.heap[j]? =σ.w.heap[j]? :=λj hj=>setRow_other σ.w b j _ (Ne.symm hj)
 obtain⟨to,Y⟩:=YN (σ':=F) (mi:=ab b) (mi':=ab b) ok hH hm rfl rfl rfl rfl rfl rfl rfl (by simp[F])
  (λj hj Z=>R j (λhh=>Z (by rw[hh]))) (λb' o v _ hu _=>by cases hu) (λo _ hu=>by cases hu) (.inl rfl) (λ_=>⟨rfl,dd',ae,rfl⟩) (λ⟨d,st,h⟩=>by cases h)
  (λs e xs h=>by cases h) (λS=>⟨b,g,T,rfl,zV,by rw[I];show yH F dd' (g.toList.take dd.size);rw[show g.toList.take dd.size=p1++((a.eval y).cells.toList++p3) from k1];exact Yg S dd' _ h9,by
    rw[I];show dd.size<=g.size;have:g.size=E.size:=k2;omega⟩)
 refine qR (σ':=F) ?_ to Y
 cases A:P.info? t with
 |none=>simp[A]at hi
 |some i=>
  have hs:(a.eval y).cells.size=i.size:=by
   rw[<-yax,J, <-ht];simp[Program.cellsOf,A]
  simp only[execOp,ho,l,Instr.storeAt,Instr.sureAddr,storeVar,sizeOf,typeInfo,Sem.run_bind,run_program,Result.andThen_ok,A,Sem.run_pure,hs,ne_eq,not_true,if_false,Q];rfl
theorem CS(ok:Ok σ)(Z:aD σ ts a){t e:yc}{i:TypeInfo}{len id:Nat}{parts:Array (Nat×yp)}{xs:yL Pl}(hid:σ.H[id]? =ab .gone)(ho:o.op=.buildSlice t len parts)(hu:P.underlying t=ab (.slice e))
 (hi:P.info? e=ab i) (hz:cu i=ae) (M:i.size≠0) (hsz:len*i.size<=16777216) (hl:XI P ts e (P.cellsOf e) len parts.toList=ab xs):
 YL P o a σ (.own id (ab ae) i.size xs) (σ.H.set id (.log i.size e xs)):=by
 obtain⟨cells,zB,W,z,X,l⟩:=qP (P:=P) Z hu hi hz hsz hl
 have A:len<=maxLen:=by
  have:=Nat.le_mul_of_pos_right len (Nat.pos_of_ne_zero M);simp only[maxLen];omega
 have Q:id < σ.m.length:=by rw[ok.len];exact(yu.1 hid).1
 have I:σ.m[id]? =ab σ.m[id]:=yab Q;let y:Sg:={ σ with m:=σ.m.set id (ab σ.w.heap.size),H:=σ.H.set id (.log i.size e xs),w:=σ.w.alloc (.cells cells e)};have R:y.w.heap[σ.w.heap.size]? =ab (.cells cells e (0,0)):=heap_alloc_new σ.w _;have S:=World.grownBy_alloc σ.w (.cells cells e) ad;have g:y.m[id]? =ab (ab σ.w.heap.size):=ak I;have f:y.H[id]? =ab (.log i.size e xs):=ak hid;have T:cells.toList.take (xs.length*i.size)=cells.toList:=ycc (by rw[z, <-l];simp)
 obtain⟨to,E⟩:=YN (σ':=y) (mi:=σ.m[id]) (mi':=ab σ.w.heap.size) ok hid I rfl rfl rfl rfl rfl rfl rfl S.size
  (λj J _=>S.block j J (by simp)) (λb o v hb _ hc=>by
    have J:=ok.lt id b (by rw[I,hb]);rw[World.cell?_of_block (w:=σ.w) (S.block b J (by simp))];exact hc) (λo he hu=>by
    have J:=ok.lt id _ (by rw[I, <-he]);omega) (.inr ⟨_,rfl,ym _,by simp[y]⟩) (λ⟨d,st,h⟩=>by cases h) (λ⟨d,st,h⟩=>by cases h) (λs e xs h=>by cases h)
  (λF=>.inr ⟨σ.w.heap.size,cells,len,rfl,R,l,by rw[z];exact ym _,A,X,by rw[T];exact aE F.cells _ _ W⟩)
  (λv s st e d h=>by cases h)
 refine ZM (σ':=y) (qO ho zB) to E ?_;rw[Zh rfl];simp only[yH]
 refine⟨X,ab ⟨σ.w.heap.size,0,ad⟩,len,by rw[z],by rw[z];exact ym _,A,QT rfl,λh=>(by cases h),λ_=>⟨σ.w.heap.size,0,cells.toList,rfl,aE to.leaf.cells _ _ W,nH R (λo' U=>⟨.inr (ok.new _ (ym _)),λG e' h1 Y=> ?_⟩) (ycc (ym _))⟩,
  e,xs,f,ym _,λ_=>.inr ⟨_,cells,g,rfl,R,l⟩⟩
 have:G=id:=E.inj G id _ h1 g;rw[this,f]at Y;cases Y;show o' < xs.length*i.size;rw[z, <-l];simpa using U
end
section
variable{P:yg}{ops:Array yj}
theorem ZE8{σ:Sg}{a:Act}{ts:yL Dv}{id:Nat}(hm:P.follows .mixedOrders=ae)(ok:Ok σ)(yM:aD σ ts a)(D:Nat->Dv)(HX:(Nat->Bool)->yL aq)
 (hu:∀i j,i < ops.size->j < ops.size->aT ops.toList i≠ad->aT ops.toList i=aT ops.toList j->i=j) (E:QU ops.toList 0=ae) (h0:σ.H=HX (λ_=>af))
 (step:∀(X:Nat->Bool)(i:Nat)(o:yj),ops[i]? =ab o->X i=af->(∀e,e∈o.after->Region.binds .any e=ae->X e.on=ae)->jI ops X->
   o.guard=ad/\∀(σ':Sg)(S:Act),Ok σ'->σ'.H=HX X->aD σ' (dR ops.size (aT ops.toList) D ts X) S->YL P o S σ' (D i) (HX (λj=>X j || decide (j=i))))
 (Q:Exit->Act->yr->Prop) (hQ:∀X S σ',(∀j,j < ops.size->X j=ae)->σ'.H=HX X->To σ σ'->Ok σ'->aD σ' (dR ops.size (aT ops.toList) D ts X) S->Q .normal S σ'.w):(Code.region id ops ae).wp P Q a σ.w:=by
 let n:=ops.size;refine wp_region_any hm ?_
 have T:∀(yD:Nat)(f:Array Bool)(a:Act)(m:Sg),f.size=n->gQ (λj=>f.getD j af) n<=yD->jI ops (λj=>f.getD j af)->To σ m->Ok m->
  aD m (dR n (aT ops.toList) D ts (λj=>f.getD j af)) a->m.H=HX (λj=>f.getD j af)->wpAny P .any ops Q yD f a m.w:=by
  intro yD
  induction yD with
  |zero=>
   intro f a m U W y z A g h;have zU:=vq (Nat.le_zero.1 W);refine⟨?_,hQ _ a m zU h z A g⟩;apply List.eq_nil_iff_forall_not_mem.2;intro j F;obtain⟨h1,o,R,_⟩:=mem_ready.1 F;have hjn:j < n:=(yco.1 R).1;have h2:=zU j hjn;have Z:j < f.size:=by omega
   simp only[Array.getD,Z,dif_pos]at h1 h2;rw[h1]at h2
   cases h2
  |succ yD ih=>
   intro f a m U W y z A g h;refine⟨λhr=> ?_,λi hi=> ?_⟩
   .have zU:∀j,j < n->f.getD j af=ae:=by
     intro j
     induction j using Nat.strongRecOn with
     |_ j ihj=>
      intro F
      cases hx:f.getD j af with
      |true=>rfl
      |false=>
       have Z:j < f.size:=by omega
       have hjo:ops[j]? =ab ops[j]:=ycl F
       have:j∈Region.ready .any ops f:=by
        refine mem_ready.2 ⟨?_,ops[j],hjo,λe he hb=> ?_⟩
        .grind
        .have hlt:=vu ops.toList 0 E j ops[j] (by simp) e he hb;grind
       rw[hr]at this;cases this
    exact hQ _ a m zU h z A g
   .obtain⟨h1,o,R,G⟩:=mem_ready.1 hi;have hin:i < n:=(yco.1 R).1;have eZ:i < f.size:=by omega
    let X:Nat->Bool:=λj=>f.getD j af
    have I:X i=af:=by
     grind
    have hgetset:∀j,(f.setIfInBounds i ae).getD j af=(X j || decide (j=i)):=by
     intro j;by_cases J:j=i
     .simp_all
     .simp only[X,ycu,ycz,J,decide_false,ycj];grind
    have hfun:(λj=>(f.setIfInBounds i ae).getD j af)=λj=>X j || decide (j=i):=funext hgetset;obtain⟨hg,hop⟩:=step X i o R I G y
    have key:o.wp P a m.w (wpAny P .any ops Q yD (f.setIfInBounds i ae)) Q:=hop m a A h g _ _ λv σ2 e1 to2 ok2 hd=>by
     have hrep2:=kD (o:=o) (g.to to2.leaf) hd;refine ih _ _ σ2 (by simpa using U) ?_ ?_ (z.trans to2) ok2 ?_ ?_
     .have:=vt (Y:=λj=>(f.setIfInBounds i ae).getD j af) I hin (λj _=>hgetset j);grind
     .intro j o' F hx e he hb;show(f.setIfInBounds i ae).getD e.on af=ae;rw[hgetset];have M:(f.setIfInBounds i ae).getD j af=ae:=hx;rw[hgetset]at M;by_cases J:j=i
      .grind
      .simp only[J,decide_false,ycj]at M;have:X e.on=ae:=y j o' F M e he hb;rw[this];rfl
     .have hd:o.dst=aT ops.toList i:=by simp[aT,R]
      have hput:=vm (ts0:=ts) (D:=D) hu hin I (λj(_:j < n)=>hgetset j);grind
     grind
    show wpOp P ops Q i _ a m.w;unfold wpOp;rw[R];have hw:Region.wanted o (yielded ops a.tmps)=ae:=by simp[Region.wanted,hg]
    simp only[hw,if_true];exact .inl key
 have hdr2:σ.w.grownBy { σ.w with drawn:=σ.w.drawn+1} ad:=by
  exact⟨rfl,rfl,rfl,ym _,λ_ _ _=>rfl⟩
 obtain⟨to0,ok0⟩:=nC ok hdr2
 have l:∀j,(ycg ops.size af).getD j af=af:=by
  intro j;by_cases F:j < ops.size <;> simp[Array.getD,F]
 have hff:(λj=>(ycg ops.size af).getD j af)=λ_=>af:=funext l;refine T ops.size (ycg ops.size af) a { σ with w:={ σ.w with drawn:=σ.w.drawn+1}} (by simp[n]) vr ?_ to0 ok0 ?_ ?_
 .intro i o _ hx;grind
 .rw[vl (λj _=>l j)];exact yM.to to0.leaf
 grind
def dw(N:Nat)(dst:Nat->yO Tmp)(D:Nat->Dv)(ts:yL Dv)(js is:yL Nat):yL Dv:=
 (yo N).map λs=>match js.find? (λj=>dst j==ab s) with
   |some j=>D j
   |none=>if is.contains s then ts.getD s .an else .an
theorem vx{σ:Sg}{a:Act}{n:Nat}{dst:Nat->yO Tmp}{D:Nat->Dv}{ts:yL Dv}{X:Nat->Bool}{js is:yL Nat}(hu:∀i j,i < n->j < n->dst i≠ad->dst i=dst j->i=j)
 (z:∀j,j∈js->j < n/\X j=ae) (hi:∀s,s∈is->∀j,j < n->dst j≠ab s) (h:aD σ (dR n dst D ts X) a):aD σ (dw ts.length dst D ts js is) a:=by
 refine⟨by rw[h.size,XD];simp[dw],λs d l=> ?_,h.defers⟩;unfold dw at l;rw[yao]at l;obtain⟨J,G,g⟩:=yv.1 l;obtain⟨hs,rfl⟩:=yu.1 G;simp only[List.getElem_range]at g;have m:s < ts.length:=by simpa using hs
 have f:=h.at_ s _ (QZ (n:=n) (dst:=dst) (D:=D) (X:=X) m);split at g
 .rename_i j A;have E:=List.mem_of_find?_eq_some A;have F:=List.find?_some A;simp only[yT]at F;rw[VK hu (z j E).1 (z j E).2 F,g]at f
  exact f
 .split at g
  .rename_i I;rw[kE (λj y _=>hi s (by simpa using I) j y),g]at f
   exact f
  .rw[<-g];exact Yr
theorem Zx4{σ:Sg}(ok:Ok σ):∀n,∃σ',σ'.w=σ.w/\σ'.H=σ.H++yx n .gone/\To σ σ'/\Ok σ'
 |0=>⟨σ,rfl,by simp,To.refl σ,ok⟩
 |n+1=>by
  obtain⟨f,g,h,t1,j⟩:=Zx4 ok n;obtain⟨t2,l⟩:=CR j;exact⟨{ f with m:=f.m++[ad],H:=f.H++[.gone]},g,by show f.H++[.gone]=_;rw[h,yac, <-List.replicate_succ'],t1.trans t2,l⟩
noncomputable def ba(ops:Array yj)(i:Nat):yj:=ops.getD i default
def bU(o:yj)(j:Nat):Bool:=o.after.any λx=>x.on==j&&Region.binds .any x
theorem CT{ts:yL Dv}{H0 H':yL aq}{id k:Nat}(hm:P.follows .mixedOrders=ae)(D:Nat->Dv)(HX:(Nat->Bool)->yL aq)(f:Nat->yL Nat×yL Nat)
 (hu:∀i j,i < ops.size->j < ops.size->aT ops.toList i≠ad->aT ops.toList i=aT ops.toList j->i=j) (l:QU ops.toList 0=ae)
 (I:((yo ops.size).all λi=>(ba ops i).guard.isNone&&((f i).1.all λj=>ag (j < ops.size)&&bU (ba ops i) j)&&((f i).2.all λs=>(yo ops.size).all λj=> !(aT ops.toList j==ab s)))=ae)
 (W:HX (λ_=>af)=H0++yx k .gone) (hE:∀X,(∀j,j < ops.size->X j=ae)->HX X=H')
 (js is:yL Nat) (G:(js.all λj=>ag (j < ops.size))=ae) (hi:(is.all λs=>(yo ops.size).all λj=> !(aT ops.toList j==ab s))=ae)
 (step:∀i,i < ops.size->∀X:Nat->Bool,X i=af->(∀j,bU (ba ops i) j=ae->X j=ae)->jI ops X->∀(σ':Sg)(A:Act),Ok σ'->σ'.H=HX X->
   aD σ' (dw ts.length (aT ops.toList) D ts (f i).1 (f i).2) A->YL P (ba ops i) A σ' (D i) (HX (λj=>X j || decide (j=i)))):
 Xv P (.region id ops ae) ts H0 .normal (dw ts.length (aT ops.toList) D ts js is) H':=by
 intro σ a Y Z yM;obtain⟨σ1,e1,e2,t1,o1⟩:=Zx4 Y k;have m:=yM.to t1.leaf
 have g:(Code.region id ops ae).wp P (λe A w'=>e=.normal/\∃σ',σ'.w=w'/\σ'.H=H'/\To σ σ'/\Ok σ'/\aD σ' (dw ts.length (aT ops.toList) D ts js is) A) a σ1.w:=by
  refine ZE8 hm o1 m D HX hu l (by rw[e2,Z,W]) (λX i o ho J he hc=> ?_) _ (λX A σ' J M to Q y=>⟨rfl,σ',rfl,by rw[M];exact hE X J,t1.trans to,Q, ?_⟩)
  .have E:i < ops.size:=(yco.1 ho).1
   have F:ba ops i=o:=by
    unfold ba;simp_all
   have U:=yal.1 I i (ybr.2 E);simp only[yi,F]at U;obtain⟨⟨g1,g2⟩,g3⟩:=U
   have R:∀j,bU o j=ae->X j=ae:=by
    intro j G;unfold bU at G;grind
   refine⟨by simpa using g1,λσ2 a2 S T z=> ?_⟩;have hst:=step i E X J (by rw[F];exact R) hc σ2 a2 S T (vx hu (λj G=> ?_) (λs hs j G=> ?_) z)
   all_goals grind
  .refine vx hu (λj h=> ?_) (λs hs j h=> ?_) y
   all_goals grind
 rw[e1]at g;exact g
end
end Go.Ev
end
section
namespace Go.Ev
structure NV where
 al:Nat
 st:Nat
 t:yc
 p:Pl
 x:yp
 y:yp
section
variable{P:yg}{ops:Array yj}
noncomputable def fd(P:yg)(X:Nat->Bool)(v:NV):aq:=match X v.st with
 |true=>.var (.p v.p) ae
 |false=>match X v.al with
  |true=>.var (bg P v.t) ae
  |false=>.gone
theorem ZE9{X X':Nat->Bool}{v:NV}(h1:X v.al=X' v.al)(h2:X v.st=X' v.st):fd P X v=fd P X' v:=by unfold fd;rw[h1,h2]
theorem ZKB{vs:yL NV}{k:Nat}{v:NV}{X X':Nat->Bool}(f:vs[k]? =ab v)(ho:∀j w,vs[j]? =ab w->j≠k->fd P X w=fd P X' w):(vs.map (fd P X)).set k (fd P X' v)=vs.map (fd P X'):=by
 apply ybq
 all_goals grind
def ZMm(vs:yL NV)(i:Nat):Bool:=vs.any λv=>v.al==i || v.st==i
def ZMn(vs:yL NV):Bool:=(yo vs.length).all λj=>(yo vs.length).all λk=>match vs[j]?,vs[k]? with
 |some w,ab v=>(j==k || (w.al !=v.al&&w.al !=v.st&&w.st !=v.al&&w.st !=v.st))&&v.al !=v.st
 |_,_=>ae
structure CU(P:yg)(ops:Array yj)(ts:List Dv)(D:Nat->Dv)(spec:Nat->List Nat×List Nat)(n:Nat)(v:NV):Prop where
 lt:(ag (v.al < ops.size)&&ag (v.st < ops.size))=ae
 oa:(ba ops v.al).op=.alloc v.t
 os:(ba ops v.st).op=.store v.t v.x v.y
 da:D v.al=.aj n 0 []
 ds:D v.st=.an
 ed:bU (ba ops v.st) v.al=ae
 ax:aF P (dw ts.length (aT ops.toList) D ts (spec v.st).1 (spec v.st).2) 0 v.x=.aj n 0 []
 ay:aF P (dw ts.length (aT ops.toList) D ts (spec v.st).1 (spec v.st).2) v.t v.y=.p v.p
 zi:(P.info? v.t).map (λi=>i.zero.isSome)=ab ae
 zo:gi P v.t (bg P v.t)=ae
 zs:(bg P v.t).bF=ae
 sz:v.p.size=(bg P v.t).size
 ct:P.cellsOf v.t=v.p.size
theorem rj{X:Nat->Bool}(hc:jI ops X){i j:Nat}(hi:i < ops.size)(he:bU (ba ops i) j=ae)(g:X j=af):X i=af:=by
 cases h:X i with
 |false=>rfl
 |true=>
  have l:ops[i]? =ab (ba ops i):=by
   unfold ba;simp_all
  unfold bU at he;obtain⟨x,m,f⟩:=Array.any_eq_true'.1 he;simp only[yi,yT]at f;have:=hc i _ l h x m f.2;rw[f.1,g]at this;cases this
theorem ZDs{ts:yL Dv}{H0:yL aq}{id:Nat}(hm:P.follows .mixedOrders=ae)(D:Nat->Dv)(vs:yL NV)(f:Nat->yL Nat×yL Nat)
 (hu:((yo ops.size).all λi=>(yo ops.size).all λj=>aT ops.toList i==ad || !(aT ops.toList i==aT ops.toList j) || decide (i=j))=ae) (F:QU ops.toList 0=ae)
 (W:((yo ops.size).all λi=>(ba ops i).guard.isNone&&((f i).1.all λj=>ag (j < ops.size)&&bU (ba ops i) j)&&((f i).2.all λs=>(yo ops.size).all λj=> !(aT ops.toList j==ab s)))=ae)
 (js is:yL Nat) (G:(js.all λj=>ag (j < ops.size))=ae) (hi:(is.all λs=>(yo ops.size).all λj=> !(aT ops.toList j==ab s))=ae) (Y:ZMn vs=ae)
 (pure:∀i,i < ops.size->ZMm vs i=af->∀T,∃hs C,cD P (ba ops i) (dw ts.length (aT ops.toList) D ts (f i).1 (f i).2) (H0++T) hs=ab (C,D i,H0++T,[])/\aX C)
 (l:∀k v,vs[k]? =ab v->CU P ops ts D f (H0.length+k) v):
 Xv P (.region id ops ae) ts H0 .normal (dw ts.length (aT ops.toList) D ts js is) (H0++vs.map λv=>.var (.p v.p) ae):=by
 have Z:∀i j,i < ops.size->j < ops.size->aT ops.toList i≠ad->aT ops.toList i=aT ops.toList j->i=j:=by
  intro i j hi G h2 m;have R:=yal.1 (yal.1 hu i (ybr.2 hi)) j (ybr.2 G)
  all_goals grind
 have z:∀(j k:Nat)(w v:NV),vs[j]? =ab w->vs[k]? =ab v->(j≠k->w.al≠v.al/\w.al≠v.st/\w.st≠v.al/\w.st≠v.st)/\v.al≠v.st:=by
  intro j k w v G g;have R:=yal.1 (yal.1 Y j (ybr.2 (yu.1 G).1)) k (ybr.2 (yu.1 g).1)
  all_goals grind
 have upd:∀(X:Nat->Bool)(i k:Nat)(v:NV),vs[k]? =ab v->(v.al=i\/v.st=i)->(vs.map (fd P X)).set k (fd P (λj=>X j || decide (j=i)) v)=vs.map (fd P λj=>X j || decide (j=i)):=by
  intro X i k v g J;refine ZKB g λj w G I=> ?_;obtain⟨R,h2,m,h4⟩:=(z j k w v G g).1 I;refine ZE9 ?_ ?_
  all_goals grind
 refine CT (k:=vs.length) hm D (λX=>H0++vs.map (fd P X)) f Z F W ?_ (λX U=> ?_) js is G hi (λi hlt X U he hc σ' a' ok M yM=> ?_)
 .congr 1;refine List.eq_replicate_iff.2 ⟨by simp,λe he=> ?_⟩;obtain⟨v,_,rfl⟩:=List.mem_map.1 he;rfl
 .congr 1;refine yci λv J=> ?_;obtain⟨k,k1,k2⟩:=ybg J;have:=(l k v (by rw[yab k1,k2])).lt;rw[yi,yP,yP]at this;unfold fd;grind
 .cases hn:ZMm vs i with
  |false=>
   obtain⟨hs,C,R,h2⟩:=pure i hlt hn (vs.map (fd P X))
   have e:vs.map (fd P λj=>X j || decide (j=i))=vs.map (fd P X):=by
    refine yci λv J=> ?_;have m:=List.any_eq_false.1 hn v J;simp only[yck,yT,not_or]at m;exact ZE9 (by simp[m.1]) (by simp[m.2])
   rw[e, <-M];rw[<-M]at R
   exact Ys ok yM R h2
  |true=>
   obtain⟨v,J,m⟩:=List.any_eq_true.1 hn;obtain⟨k,k1,k2⟩:=ybg J;have g:vs[k]? =ab v:=by rw[yab k1,k2]
   have V:=l k v g;have lt:=V.lt;rw[yi,yP,yP]at lt;simp only[yck,yT]at m;have I:=(z k k v v g g).2
   obtain⟨Q,S⟩:∃Q,P.info? v.t=ab Q:=by
    cases h:P.info? v.t with
    |none=>have:=V.zi;rw[h]at this;cases this
    |some Q=>exact⟨Q,rfl⟩
   have hzi:Q.zero.isSome=ae:=by
    have:=V.zi;grind
   have A:(H0++vs.map (fd P X))[H0.length+k]? =ab (fd P X v):=by
    grind
   have E:∀e,(H0++vs.map (fd P X)).set (H0.length+k) e=H0++(vs.map (fd P X)).set k e:=λe=>by
    grind
   rcases m with rfl|rfl
   .have hs:X v.st=af:=rj hc lt.2 V.ed U;have h:=BX (P:=P) (o:=ba ops v.al) (a:=a') (t:=v.t) (i:=Q) (id:=H0.length+k) ok (by rw[M,A];unfold fd;rw[U,hs]) V.oa S hzi V.zo V.zs;rw[M,E]at h;rw[V.da, <-upd X v.al k v g (.inl rfl)]
    have e:fd P (λj=>X j || decide (j=v.al)) v=.var (bg P v.t) ae:=by
     have e1:(X v.st || decide (v.st=v.al))=af:=by rw[hs,yZ (λh:v.st=v.al=>I h.symm)];rfl
     have e2:(X v.al || decide (v.al=v.al))=ae:=by simp
     unfold fd;grind
    rw[e];exact h
   .have ha:=he v.al V.ed
    have h:=vv (P:=P) (o:=ba ops v.st) (t:=v.t) (x:=v.x) (y:=v.y) (id:=H0.length+k) (off:=0) (yQ:=[]) (dd:=bg P v.t) (sub:=bg P v.t) (new:=.p v.p) (dd':=.p v.p) (C1:=[]) (off':=0) (hs:=[]) (hs':=[]) ok yM V.os V.ax
     (by rw[M,A];unfold fd;rw[U,ha]) rfl trivial rfl V.ay rfl rfl V.sz V.ct (by rw[S];rfl)
    rw[M,E]at h;rw[V.ds, <-upd X v.st k v g (.inr rfl)]
    have e:fd P (λj=>X j || decide (j=v.st)) v=.var (.p v.p) ae:=by
     unfold fd;simp
    rw[e];exact h
end
end Go.Ev
end
section
namespace Go.Ev
section
variable{P:yg}
theorem vy{σ:Sg}{a:Act}:∀{mask:yL Nat}{ts:yL Dv},aD σ ts a->aD σ (qE ts mask) a
 |[],_,h=>h
 |i::r,ts,h=>by
  refine vy (mask:=r) ⟨by simpa using h.size,λj d f=> ?_,h.defers⟩;rw[ybx]at f;split at f
  .split at f
   .cases f;exact Yr
   .cases f
  .exact h.at_ j d f
theorem Qp:∀(c:Code)(ts:yL Dv)(H:yL aq)(hs hs':yL ao)(C:yL Prop)(ex:Ex)(ts':yL Dv)(H':yL aq),ev P c ts H hs=ab (C,ex,ts',H',hs')->aX C->Xv P c ts H ex ts' H'
 |.skip,ts,H,hs,hs',C,ex,ts',H',h,m=>by
  simp only[ev,yn,yq]at h;obtain⟨rfl,rfl,rfl,rfl,rfl⟩:=h
  exact λσ a g l f=>wp_skip ⟨rfl,σ,rfl,l,To.refl σ,g,f⟩
 |.label _,ts,H,hs,hs',C,ex,ts',H',h,m=>by
  simp only[ev,yn,yq]at h;obtain⟨rfl,rfl,rfl,rfl,rfl⟩:=h
  exact λσ a g l f=>wp_label ⟨rfl,σ,rfl,l,To.refl σ,g,f⟩
 |.region id ops Y,ts,H,hs,hs',C,ex,ts',H',h,m=>by
  cases Y with
  |true=>
   simp only[ev,if_true]at h;simp only[yv,yq]at h;obtain⟨⟨C1,G,H1,A⟩,I,rfl,rfl,rfl,rfl,rfl⟩:=h;intro σ a g l f;subst l
   exact ZvR g f I m _ λJ M Z to R E=>⟨rfl,M,rfl,Z,to,R,E⟩
  |false=>
   simp only[ev,Bool.false_eq_true,if_false]at h;simp only[yv,yq]at h;obtain⟨⟨C1,G,H1,A⟩,I,rfl,rfl,rfl,rfl,rfl⟩:=h;intro σ a g l f;subst l;refine wp_region ?_
   have:=Zph (P:=P) (ops:=ops) (λe J X=>e=Ex.normal.to/\∃M,M.w=X/\M.H=H1/\To σ M/\Ok M/\aD M G J) ops.toList 0 ts σ a hs A C1 H1 (λj=>by simp) g f I m
    (λJ M Z to R E=>⟨rfl,M,rfl,Z,to,R,E⟩)
   rw[List.range_eq_range']
   simpa using this
 |.seq x y,ts,H,hs,hs',C,ex,ts',H',h,m=>by
  simp only[ev]at h;split at h
  .rename_i C1 G H1 A I;split at h
   .rename_i C2 ex2 ts2 H2 hs2 h2;simp only[yn,yq]at h;obtain⟨rfl,rfl,rfl,rfl,rfl⟩:=h;obtain⟨c1,c2⟩:=Zl.1 m;have F:=Qp x _ _ _ _ _ _ _ _ I c1;have r2:=Qp y _ _ _ _ _ _ _ _ h2 c2;intro σ a g l f;refine wp_seq (wp_mono (F σ a g l f) ?_);rintro e J X ⟨rfl,σ1,rfl,Z,to1,ok1,S⟩;refine wp_mono (r2 σ1 J ok1 Z S) ?_;rintro e a'' w'' ⟨rfl,σ2,rfl,e2,to2,ok2,T⟩;exact⟨rfl,σ2,rfl,e2,to1.trans to2,ok2,T⟩
   .cases h
  .rename_i r U;have F:=Qp x _ _ _ _ _ _ _ _ h m;intro σ a g l f;refine wp_seq (wp_mono (F σ a g l f) ?_);rintro e J X ⟨rfl,Q⟩
   cases ex with
   |normal=>exact absurd h (U _ _ _ _)
   |exit id=>exact⟨rfl,Q⟩
   |ret=>exact⟨rfl,Q⟩
 |.cond c x y,ts,H,hs,hs',C,ex,ts',H',h,m=>by
  simp only[ev]at h;split at h
  .rename_i t A W;simp only[yv,yq]at h;obtain⟨⟨C1,r⟩,I,rfl,rfl⟩:=h;obtain⟨c0,c1⟩:=m;have F:=Qp x _ _ _ _ _ _ _ _ I c1;intro σ a g l f;have hv:=Zq (P:=P) f 0 c;rw[W]at hv;exact wp_cond_true (by rw[Yn hv,c0]) (F σ a g l f)
  .rename_i t A W;simp only[yv,yq]at h;obtain⟨⟨C1,r⟩,I,rfl,rfl⟩:=h;obtain⟨c0,c1⟩:=m;have F:=Qp y _ _ _ _ _ _ _ _ I c1;intro σ a g l f;have hv:=Zq (P:=P) f 0 c;rw[W]at hv;exact wp_cond_false (by rw[Yn hv,c0]) (F σ a g l f)
  .cases h
 |.block id z,ts,H,hs,hs',C,ex,ts',H',h,m=>by
  simp only[ev]at h;split at h
  .rename_i C1 id' G H1 A I;simp only[yn,yq]at h;obtain⟨rfl,rfl,rfl,rfl,rfl⟩:=h;have F:=Qp z _ _ _ _ _ _ _ _ I m;intro σ a g l f;refine wp_block (wp_mono (F σ a g l f) ?_);rintro e J X ⟨rfl,Q⟩;simp only[Ex.to,Exit.inBlock]
   all_goals grind
  .rename_i r U;have F:=Qp z _ _ _ _ _ _ _ _ h m;intro σ a g l f;refine wp_block (wp_mono (F σ a g l f) ?_);rintro e J X ⟨rfl,Q⟩
   cases ex with
   |normal=>exact⟨rfl,Q⟩
   |exit id'=>exact absurd h (U _ _ _ _ _)
   |ret=>exact⟨rfl,Q⟩
 |.loop z,ts,H,hs,hs',C,ex,ts',H',h,m=>by
  simp only[ev]at h;split at h
  .rename_i mask ex1 G H1 A;split at h
   .cases h
   .simp only[yn,yq]at h;obtain⟨rfl,rfl,rfl,rfl,rfl⟩:=h;exact λσ a g l f=>m.1 σ a g l (vy f)
  .cases h
 |.scope z,ts,H,hs,hs',C,ex,ts',H',h,m=>by
  simp only[ev]at h;have F:=Qp z _ _ _ _ _ _ _ _ h m;intro σ a g l f;refine wp_scope_straight (wp_mono (F σ a g l f) ?_);rintro e J X ⟨rfl,Q⟩
  cases ex <;> exact⟨rfl,Q⟩
 |.exit id,ts,H,hs,hs',C,ex,ts',H',h,m=>by
  simp only[ev,yn,yq]at h;obtain⟨rfl,rfl,rfl,rfl,rfl⟩:=h
  exact λσ a g l f=>wp_exit ⟨rfl,σ,rfl,l,To.refl σ,g,f⟩
 |.ret,ts,H,hs,hs',C,ex,ts',H',h,m=>by
  simp only[ev,yn,yq]at h;obtain⟨rfl,rfl,rfl,rfl,rfl⟩:=h
  exact λσ a g l f=>wp_ret ⟨rfl,σ,rfl,l,To.refl σ,g,f⟩
 |.rangeFunc _ _ _ _,ts,H,hs,hs',C,ex,ts',H',h,m=>by simp[ev]at h
 |.goto _,ts,H,hs,hs',C,ex,ts',H',h,m=>by simp[ev]at h
 |.refuse _,ts,H,hs,hs',C,ex,ts',H',h,m=>by simp[ev]at h
def ph(P:yg)(f:Code)(ts:yL Dv)(H:yL aq)(ex:Ex)(ts':yL Dv)(H':yL aq):Prop:=
 ∀(σ:Sg)(a:Act),Ok σ->σ.H=H->aD σ ts a->∀(b:Frame)(k:yL Item)(h:yL Frame),
  ∃e j l,(e=ex.to/\∃g,g.w=l/\g.H=H'/\To σ g/\Ok g/\aD g ts' j)/\Arrives P (lone (b.at a (.code f::.inLoop f::k)) h σ.w) b k h e j l
theorem Zux{f:Code}{ts ts':yL Dv}{H H':yL aq}{ex:Ex}(j:ex≠ .normal)(h:Xv P f ts H ex ts' H'):ph P f ts H ex ts' H':=by
 intro σ a m y z b k A;obtain⟨e,E,w1,F,g⟩:=h σ a m y z b (.inLoop f::k) A;obtain⟨G,l⟩:=F;subst G;refine⟨ex.to,E,w1,⟨rfl,l⟩, ?_⟩
 cases ex with
 |normal=>exact absurd rfl j
 |exit id=>exact .pass (x:=.inLoop f) rfl (λ_ _=>.inl (by simp[Ex.to])) g
 |ret=>exact .pass (x:=.inLoop f) rfl (λ_ _=>.inl (by simp[Ex.to])) g
theorem Zuy{f:Code}{ts ts1 ts':yL Dv}{H H1 H':yL aq}{ex:Ex}(mask:yL Nat)(h1:Xv P f ts H .normal ts1 H1)(h2:ph P f (qE ts1 mask) H1 ex ts' H'):ph P f ts H ex ts' H':=by
 intro σ a G I J b k E;obtain⟨e,M,w1,⟨rfl,Q,rfl,R,m,y,g⟩,l⟩:=h1 σ a G I J b (.inLoop f::k) E;obtain⟨e,S,U,⟨rfl,F,rfl,T,z,A,h⟩,j⟩:=h2 Q M y R (vy g) b k E;exact⟨ex.to,S,F.w,⟨rfl,F,rfl,T,m.trans z,A,h⟩,.of_steps (Steps.trans l (.one step_inLoop)) j⟩
theorem Zuz{f:Code}{ts ts':yL Dv}{H H':yL aq}{ex:Ex}(h:ph P f ts H ex ts' H'):Xv P (.loop f) ts H ex ts' H':=by
 intro σ a j l m b k y;obtain⟨e,z,w1,A,g⟩:=h σ a j l m b k y;exact⟨e,z,w1,A,.of_steps (.one step_loop) g⟩
def gC(σ:Sg)(L:yL Nat)(H:yL aq):Sg:={ F:=σ.F,B:=σ.B,m:=L.map λid=>(σ.m[id]?).getD ad,H:=H,w:=σ.w}
theorem ZFa{σ:Sg}{L:yL Nat}{H:yL aq}{j id:Nat}{x:yO Nat}(h:L[j]? =ab id)(hm:σ.m[id]? =ab x):(gC σ L H).m[j]? =ab x:=by
 show(L.map λid=>(σ.m[id]?).getD ad)[j]? =ab x;grind
theorem nO{σ:Sg}{L:yL Nat}{H:yL aq}{j b:Nat}(h:(gC σ L H).m[j]? =ab (ab b)):∃id,L[j]? =ab id/\σ.m[id]? =ab (ab b):=
 Wl (σ:=σ) (ids:=L) (Hin:=H) h
theorem jJ{σ:Sg}{L:yL Nat}{H:yL aq}(hin:aP σ.H L L=ab H):Rn (bc L) σ (gC σ L H) where
 w:=rfl
 bf b o v _ h:=by
  refine⟨h.1,λj e hj he=> ?_⟩;obtain⟨id,h1,h2⟩:=nO hj;obtain⟨e0,e',h3,h4,h5⟩:=Qo hin h1;have he':H[j]? =ab e:=he;rw[h4]at he';cases he';exact(BZ h5).2 (h.2 id e0 h2 h3)
 m id j hj x hx:=ZFa (cB hj) hx
 H id j hj e he:=by
   obtain⟨e0,e',h3,h4,h5⟩:=Qo hin (cB hj);rw[he]at h3;cases h3;exact⟨e',h4,h5⟩
theorem pi{σ:Sg}(ok:Ok σ){L:yL Nat}{H:yL aq}(ho:once L=ae)(hin:aP σ.H L L=ab H):Ok (gC σ L H) where
 len:=by
  show(L.map _).length=H.length;rw[yad,Qn hin]
 inj i j b hi hj:=by
  obtain⟨x,h1,h2⟩:=nO hi;obtain⟨y,h3,h4⟩:=nO hj;have:=ok.inj x y b h2 h4;subst this;exact uZ ho i j x h1 h3
 lt i b hi:=by
  obtain⟨x,h1,h2⟩:=nO hi;exact ok.lt x b h2
 dF i e x he hx:=by
  have he':H[i]? =ab e:=he;have hi:i < L.length:=by rw[<-Qn hin];exact(yu.1 he').1
  obtain⟨e0,e',h3,h4,h5⟩:=Qo hin (yab hi);rw[he']at h4;cases h4
  have hm:∃y,σ.m[L[i]]? =ab y:=by
   have:L[i] < σ.m.length:=by rw[ok.len];exact(yu.1 h3).1
   grind
  obtain⟨y,hy⟩:=hm;have:=ZFa (H:=H) (yab hi) hy;rw[hx]at this;cases this;exact CA (jJ hin) h5 (ok.dF _ _ _ h3 hy)
 new b hb:=ok.new b hb
 own i b hi:=by
  obtain⟨x,h1,h2⟩:=nO hi;exact ok.own x b h2
theorem pj{σ σ':Sg}(ok:Ok σ)(to:To σ σ'){keep:yL Nat}{H:yL aq}(ho:once (yo σ.H.length++keep)=ae)(z:aP σ'.H (yo σ.H.length++keep) (yo σ.H.length++keep)=ab H):
 To σ (gC σ' (yo σ.H.length++keep) H):=by
 have l:∀id,id < σ.H.length->bc (yo σ.H.length++keep) id=ab id:=λid h=>by
  refine cZ ho ?_;grind
 have rn:=jJ z;refine⟨⟨λb o v g j=> ?_,λid b g j=> ?_,λid s len A c g=> ?_,λid b g j=> ?_,λid v s st e d g=> ?_⟩,to.F,to.B,to.os,to.tape,to.output,to.size,λb g j=>to.block b g j,λid b h=> ?_, ?_⟩
 .obtain⟨h3,y⟩:=to.leaf.cells b o v g j;exact⟨h3,rn.bf b o v h3 y⟩
 .have f:id < σ.H.length:=by rw[<-ok.len];exact(yu.1 g).1
  obtain⟨h3,y⟩:=to.leaf.var id b g j;exact⟨rn.m _ _ (l id f) _ h3,rn.var (l id f) y⟩
 .have f:id < σ.H.length:=by
   obtain⟨e,X,j,_⟩:=g;grind
  exact rn.front (l id f) (to.leaf.front _ _ _ _ _ g)
 .have f:id < σ.H.length:=by rw[<-ok.len];exact(yu.1 g).1
  obtain⟨h3,y⟩:=to.leaf.map id b g j;exact⟨rn.m _ _ (l id f) _ h3,rn.map (l id f) y⟩
 .have f:id < σ.H.length:=(yu.1 g).1;obtain⟨M,E,Y,Q,R,S⟩:=to.leaf.row _ _ _ _ _ _ g;obtain⟨d2,T⟩:=rn.row (l id f) Q;refine⟨M,E,d2,T,R,λU=> ?_⟩;obtain⟨W,G⟩:=S U;refine⟨?_,G⟩;have I:∃x,σ.m[id]? =ab x:=⟨_,yab (by rw[ok.len];exact f)⟩;obtain⟨x,J⟩:=I;rw[J];exact rn.m _ _ (l id f) _ (by rw[W];exact J)
 .obtain⟨x,g,j⟩:=nO h;rcases to.same x b j with h3|h3
  .have f:x < σ.H.length:=by rw[<-ok.len];exact(yu.1 h3).1
   have:=cZ ho g;have y:=l x f;unfold bc at y;grind
  grind
 .show σ.m.length<=((yo σ.H.length++keep).map _).length;rw[ok.len];simp
def rk(tmps:Array yh):ResultVar->Sem yh
 |.tmp t=>pure (tmps.getD t undef)
 |.cell x t=>do loadVar t (<-asAddr (tmps.getD x undef))
theorem Zro(fn:Func)(tmps:Array yh):results fn tmps=(do let vs <-fn.results.mapM (rk tmps);pure (if h:vs.size=1 then vs[0] else .tuple vs)):=by
 unfold results
 have:(λ(rv:ResultVar)=>(match rv with|.tmp t=>pure (tmps.getD t undef)|.cell a t=>do loadVar t (<-asAddr (tmps.getD a undef)):Sem yh))=rk tmps:=by
  funext rv;cases rv <;> rfl
 exact congrArg (λf=>(do let vs <-fn.results.mapM f;pure (if h:vs.size=1 then vs[0] else .tuple vs):Sem yh)) this
theorem vz{σ:Sg}{a:Act}{ts:yL Dv}(ok:Ok σ)(l:aD σ ts a):∀(rs:yL ResultVar)(hs:yL ao)(C:yL Prop)(g:yL Dv),gB P ts σ.H rs hs=ab (C,g)->aX C->
 ∃vs,Sem.run P (rs.mapM (rk a.tmps)) σ.w=Result.ok vs σ.w/\aH σ g vs
 |[],hs,C,g,h,_=>by
  simp only[gB,yn,yq]at h;obtain⟨rfl,rfl⟩:=h
  exact⟨[],by simp,by simp[aH]⟩
 |.tmp t::r,hs,C,g,h,m=>by
  simp only[gB,yv,yq]at h;obtain⟨⟨C1,f⟩,y,rfl,rfl⟩:=h;obtain⟨vs,z,A⟩:=vz ok l r hs C1 f y m;have Q:=Zq (P:=P) l 0 (.tmp t);refine⟨a.tmps.getD t undef::vs, ?_, ?_⟩
  .simp only[List.mapM_cons,rk,Sem.run_bind,Sem.run_pure,Result.andThen_ok,z]
  .simp only[aH]
   exact⟨_,_,rfl,Q,A⟩
 |.cell x t::r,hs,C,g,h,m=>by
  simp only[gB]at h;split at h
  .rename_i id off yQ R;split at h
   .rename_i dd st S;split at h
    .rename_i C1 J sub E T;split at h
     .rename_i F;simp only[yv,yq]at h;obtain⟨⟨C2,f⟩,y,rfl,rfl⟩:=h;obtain⟨G,U⟩:=Zl.1 m;obtain⟨G,W⟩:=Zl.1 G;obtain⟨vs,z,A⟩:=vz ok l r E C2 f y U;have M:=Zq (P:=P) l 0 (.tmp x);simp only[aF,R]at M;obtain⟨b,X,_,I⟩:=lr M;unfold gi at F;simp only[yi,yT]at F;obtain⟨⟨⟨Y,Z⟩,k3⟩,k4⟩:=F;obtain⟨cs,t',p1,p2,p3,_,_,_,_,h5,_,h6⟩:=uW ok X S T G W.1;obtain⟨v,h7,h8⟩:=uM (P:=P) h5 h6 Y k4 k3 Z;have j:a.tmps.getD x undef=.pointer (ab ⟨b,off,ad⟩):=I;refine⟨v::vs, ?_, ?_⟩
      .have ha:asAddr (a.tmps.getD x undef)=pure ⟨b,off,ad⟩:=by rw[j];rfl
       simp only[List.mapM_cons,rk,ha,Sem.run_bind,Sem.run_pure,Result.andThen_ok,h7,z]
      .simp only[aH];exact⟨_,_,rfl,h8,A⟩
     .cases h
    .cases h
   .cases h
  .cases h
theorem vA{σ:Sg}{f:yL Dv}{vs:yL yh}(h:aH σ f vs):yJ σ (kZ f) (if h:vs.toArray.size=1 then vs.toArray[0] else .tuple vs.toArray):=by
 have l:=uN h;unfold kZ;split
 .rename_i d;simp only[aH]at h;obtain⟨v,g,rfl,m,y⟩:=h;have:g=[]:=y;subst this;have e:(if h:[v].toArray.size=1 then[v].toArray[0] else Value.tuple [v].toArray)=v:=by simp
  rw[e];exact m
 .rename_i j
  have z:¬vs.toArray.size=1:=by
   intro hs;have A:f.length=1:=by rw[<-l];simpa using hs
   match f,A with
   |[d],_=>exact j d rfl
  rw[dif_neg z,Zh rfl];simp only[yH];grind
theorem rm{g:yw}{fn:Func}{c:Code}{args ts':yL Dv}{H H1 H':yL aq}{ex:Ex}{r:Dv}{keep:yL Nat}{hs:yL ao}{C:yL Prop}(hf:P.funcs[g]? =ab fn)(hb:fn.body=ab c)
 (hr:Xv P c (args++yx (fn.ntmps - args.length) .an) H ex ts' H1) (R:ex=.ret\/ex=.normal) (l:fin P fn ts' H1 H.length keep hs=ab (C,r,H')) (hc:aX C):ce P g args H r H':=by
 intro σ vs U W G;refine calls_of_wp hf hb ?_;have hl:=uN G
 have yM:aD σ (args++yx (fn.ntmps - args.length) .an) { tmps:=vs.toArray++ycg (fn.ntmps - vs.toArray.size) undef,defers:=[]}:=by
  refine⟨by simp[hl],λi d Q=> ?_,rfl⟩;rcases Nat.lt_or_ge i args.length with h1|h1
  .rw[ybe h1]at Q;obtain⟨v,h2,S⟩:=uO G Q
   have h4:(vs.toArray++ycg (fn.ntmps - vs.toArray.size) undef)[i]? =ab v:=by
    grind
   simp_all
  .rw[yaq h1]at Q;have:=List.eq_of_mem_replicate (List.mem_of_getElem? Q);rw[this];exact Yr
 refine wp_mono (hr σ _ U W yM) ?_;rintro e a X ⟨rfl,A,rfl,e1,to,I,z⟩;unfold fin at l;split at l
 .rename_i C1 Y E;dsimp only at l
  have J:∀r,(kZ Y).rn (bc (yo H.length++keep))=ab r\/(kZ (Y.map Dv.arg)).rn (bc (yo H.length++keep))=ab r->once (yo H.length++keep)=ae->
   aP H1 (yo H.length++keep) (yo H.length++keep)=ab H'->aX C1->a.defers=[]/\∃v,(results fn a.tmps).run P A.w=.ok v A.w/\
    ∃M f,(Ending.returned v)=.returned M/\f.w=A.w/\f.H=H'/\To σ f/\Ok f/\yJ f r M:=by
   intro r hrn m j T;refine⟨z.defers, ?_⟩;rw[<-e1]at E j;obtain⟨y,h2,S⟩:=vz (P:=P) I z _ _ _ _ E T
   refine⟨if h:y.toArray.size=1 then y.toArray[0] else .tuple y.toArray, ?_,if h:y.toArray.size=1 then y.toArray[0] else .tuple y.toArray,
    gC A (yo H.length++keep) H',rfl,rfl,rfl, ?_,pi I m j, ?_⟩
   .rw[Zro,Sem.run_bind, <-Array.toArray_toList (xs:=fn.results),List.mapM_toArray];simp_all
   .rw[<-W]at m j ⊢;exact pj U to m j
   .rcases hrn with hrn|hrn
    .exact lh (jJ j) hrn (vA S)
    .refine lh (jJ j) hrn (vA ?_);exact TS S
  have F:bodyPost P fn (λe X=>∃v f,e=.returned v/\f.w=X/\f.H=H'/\To σ f/\Ok f/\yJ f r v) ex.to a A.w:=by
   have Z:a.defers=[]/\∃v,(results fn a.tmps).run P A.w=.ok v A.w/\∃M f,(Ending.returned v)=.returned M/\f.w=A.w/\f.H=H'/\To σ f/\Ok f/\yJ f r M:=by
    split at l
    .rename_i ho hrn j;simp only[yn,yq]at l;obtain⟨rfl,rfl,rfl⟩:=l;exact J _ (.inl hrn) ho j hc
    all_goals simp_all
   rcases R with rfl|rfl
   .exact Z
   .exact Z
  exact F
 .cases l
end
end Go.Ev
end
section
namespace Go.Ev
noncomputable def CV(P:yg)(g:yw)(args:yL Dv)(H:yL aq)(hs:yL ao)(keep:yL Nat):yO (yL Prop×Dv×yL aq):=
 match P.funcs[g]? with
 |some fn=>match fn.body with
  |some c=>match ev P c (args++yx (fn.ntmps - args.length) .an) H hs with
   |some (C,.ret,f,H1,hs')=>match fin P fn f H1 H.length keep hs' with
    |some (C2,r,H')=>ab (C++C2,r,H')
    |none=>ad
   |some (C,.normal,f,H1,hs')=>match fin P fn f H1 H.length keep hs' with
    |some (C2,r,H')=>ab (C++C2,r,H')
    |none=>ad
   |_=>ad
  |none=>ad
 |none=>ad
theorem ZDt{P:yg}{g:yw}{args:yL Dv}{H H':yL aq}{hs:yL ao}{keep:yL Nat}{C:yL Prop}{r:Dv}(h:CV P g args H hs keep=ab (C,r,H'))(hc:aX C):ce P g args H r H':=by
 unfold CV at h;split at h
 .rename_i fn z;split at h
  .rename_i c A;split at h
   .rename_i C1 l H1 hs' j;split at h
    .rename_i C2 E H2 f;simp only[yn,yq]at h;obtain⟨rfl,rfl,rfl⟩:=h;obtain⟨m,y⟩:=Zl.1 hc;exact rm z A (Qp c _ _ _ _ _ _ _ _ j m) (.inl rfl) f y
    .cases h
   .rename_i C1 l H1 hs' j;split at h
    .rename_i C2 E H2 f;simp only[yn,yq]at h;obtain⟨rfl,rfl,rfl⟩:=h;obtain⟨m,y⟩:=Zl.1 hc;exact rm z A (Qp c _ _ _ _ _ _ _ _ j m) (.inr rfl) f y
    .cases h
   .cases h
  .cases h
 .cases h
theorem ru{P:yg}{c:Code}{ts ts':yL Dv}{H H':yL aq}{ex:Ex}{hs hs':yL ao}{C:yL Prop}(h:ev P c ts H hs=ab (C,ex,ts',H',hs'))(hc:aX C):Xv P c ts H ex ts' H':=
 Qp c _ _ _ _ _ _ _ _ h hc
def ZL:Code->yL Code
 |.seq a b=>ZL a++ZL b
 |.cond _ a b=>ZL a++ZL b
 |.block _ a=>ZL a
 |.scope a=>ZL a
 |.loop a=>.loop a::ZL a
 |_=>[]
def ZFb(P:yg)(g i:Nat):Code:=
 match P.funcs[g]? with
 |some fn=>match fn.body with
  |some c=>(ZL c).getD i .skip
  |none=>.skip
 |none=>.skip
def ZKC:Code->Code
 |.loop a=>a
 |c=>c
def iN(P:yg)(g i:Nat):Code:=ZKC (ZFb P g i)
def u8(b:yB):Pl:=.int .u8 (b.toNat:Int)
theorem ZFc{P:yg}{g:yw}{args:yL Dv}{H H1 H':yL aq}{r r':Dv}(h:ce P g args H r H1)(e:r=r')(f:H1=H'):ce P g args H r' H':=by
 subst e;subst f;exact h
theorem ZKD{P:yg}{g:yw}{args:yL Dv}{H H1 H':yL aq}{r r':Dv}(hs:yL ao)(keep:yL Nat)(C:yL Prop)(h:CV P g args H hs keep=ab (C,r,H1))(hc:aX C)(e:r=r')(f:H1=H'):ce P g args H r' H':=
 ZFc (ZDt h hc) e f
end Go.Ev
namespace Go.Ev
theorem vB{f:Nat->yO Nat}{σ σ':Sg}(h:Rn f σ σ'){ts ts':yL Dv}{a:Act}(e:Dv.bC f ts=ab ts')(A:aD σ ts a):aD σ' ts' a:=by
 refine⟨by rw[BK e];exact A.size, ?_,A.defers⟩
 have E:∀(m z:yL Dv),Dv.bC f m=ab z->∀(i:Nat)(d:Dv),z[i]? =ab d->∃d0,m[i]? =ab d0/\d0.rn f=ab d:=by
  intro m
  induction m with
  |nil=>
   intro z g i d l;simp only[Dv.bC,yn]at g;subst g
   simp at l
  |cons x r F=>
   intro z g i d l;simp only[Dv.bC]at g;split at g
   .rename_i y G I J;cases g
    cases i with
    |zero=>simp only[yam,yn]at l ⊢;subst l;exact⟨x,rfl,I⟩
    |succ j=>simp only[yak]at l ⊢;exact F _ J j d l
   .cases g
 intro i d M;obtain⟨d0,g,l⟩:=E ts ts' e i d M;exact lh h l (A.at_ i d0 g)
theorem ZDu{P:yg}{f:Code}{ts ts1 j:yL Dv}{H H1 H2:yL aq}{ex:Ex}(mask keep:yL Nat)(h1:Xv P f ts H ex ts1 H1)
 (ho:once (yo H.length++keep)=ae) (g:aP H1 (yo H.length++keep) (yo H.length++keep)=ab H2)
 (e:Dv.bC (bc (yo H.length++keep)) (qE ts1 mask)=ab j):Xv P f ts H ex j H2:=by
 intro σ a y z A;subst z;refine wp_mono (h1 σ a y rfl A) ?_;rintro G I J ⟨rfl,E,rfl,F,l,m,h⟩;subst F;exact⟨rfl,gC E (yo σ.H.length++keep) H2,rfl,rfl,pj y l ho g,pi m ho g,vB (jJ g) e (vy (mask:=mask) h)⟩
end Go.Ev
namespace Go.Ev
mutual
theorem ZDv{w w':yr}{S S':Nat->Nat->Prop}:∀(x:Pl)(vs:yL yh),x.flat=ae->aB w S x vs->aB w' S' x vs
 |.int _ _,_,_,h=>by simpa[aB] using h
 |.bool _,_,_,h=>by simpa[aB] using h
 |.str _,_,h,_=>by simp[Pl.flat]at h
 |.bX,_,h,_=>by simp[Pl.flat]at h
 |.fn0,_,h,_=>by simp[Pl.flat]at h
 |.eG,_,h,_=>by simp[Pl.flat]at h
 |.cC,_,h,_=>by simp[Pl.flat]at h
 |.gx _,_,h,_=>by simp[Pl.flat]at h
 |.agg g,vs,f,h=>by
  simp only[Pl.flat]at f;simp only[aB]at h ⊢
  exact dx g vs f h
 |.arr n s g,vs,f,h=>by
  simp only[Pl.flat]at f;simp only[aB]at h ⊢
  exact⟨h.1,h.2.1,dx g vs f h.2.2⟩
 |.sl _ _ _,_,h,_=>by simp[Pl.flat]at h
 |.iface _ _,_,h,_=>by simp[Pl.flat]at h
theorem dx{w w':yr}{S S':Nat->Nat->Prop}:∀(xs:yL Pl)(vs:yL yh),Pl.aS xs=ae->ar w S xs vs->ar w' S' xs vs
 |[],_,_,h=>by simpa[ar] using h
 |x::xs,vs,g,h=>by
  simp only[Pl.aS,yi]at g;simp only[ar]at h ⊢;obtain⟨j,f,l,m,y⟩:=h;exact⟨j,f,l,ZDv x j g.1 m,dx xs f g.2 y⟩
end
theorem ZIe{P:yg}{g:yw}{args args':yL Dv}{H H0 H':yL aq}{r:Dv}(h:ce P g args' H0 r H')(ha:cR args args')(hH:bZ H H0):ce P g args H r H':=by
 intro σ vs y e z;subst e;obtain⟨to,f⟩:=ll y hH;refine Calls.mono (h { σ with H:=H0} vs f rfl (ha.vs ?_)) ?_
 .have:=to.leaf;clear f h;have m:∀(l:yL Dv)(j:yL yh),aH σ l j->aH { σ with H:=H0} l j:=λl j q=>de this l j q;exact m _ _ z
 .rintro e Q ⟨v,A,E,F,G,I,J,M⟩;exact⟨v,A,E,F,G,to.trans I,J,M⟩
theorem vC{P:yg}{g:yw}{args:yL Dv}{H H1 H':yL aq}{r r':Dv}(h:ce P g args H r H1)(j:Wk r r')(hH:bZ H1 H'):ce P g args H r' H':=by
 intro σ vs l e m;refine Calls.mono (h σ vs l e m) ?_;rintro e J ⟨v,y,z,A,E,F,G,I⟩;subst E;obtain⟨to,f⟩:=ll G hH;exact⟨v,{ y with H:=H'},z,A,rfl,F.trans to,f,j.dv (Vo to.leaf I)⟩
theorem ZuA{P:yg}{c:Code}{ts ts1 f:yL Dv}{H H1 H2:yL aq}{ex:Ex}(h:Xv P c ts H ex ts1 H1)(ht:cR ts1 f)(hH:bZ H1 H2):Xv P c ts H ex f H2:=by
 intro σ a j e l;refine wp_mono (h σ a j e l) ?_;rintro G I J ⟨m,y,rfl,z,A,E,F⟩;subst z;obtain⟨to,g⟩:=ll E hH;exact⟨m,{ y with H:=H2},rfl,rfl,A.trans to,g,ht.qK (F.to to.leaf)⟩
end Go.Ev
namespace Go.Ev
theorem ZBP{α β:Type}{f:α->β}(g:∀a b,f a=f b->a=b):∀{l m:yL α},l.map f=m.map f->l=m
 |[],[],_=>rfl
 |[],_::_,h=>by simp at h
 |_::_,[],h=>by simp at h
 |x::l,y::m,h=>by
  simp only[yah,List.cons.injEq]at h;rw[g _ _ h.1,ZBP g h.2]
instance(k:IntKind)(x:Int):Decidable (Wn k x):=by unfold Wn;exact inferInstance
theorem vD{P:yg}{R R':yc->Pl->Prop}(h:∀t x,R t x->R' t x):∀(g:yL Field)(o:Nat)(xs:yL Pl),iJ P R g o xs->iJ P R' g o xs
 |[],_,[],_=>trivial
 |[],_,_::_,k=>k.elim
 |_::_,_,[],k=>k.elim
 |f::g,o,y::j,k=>by
  obtain⟨l,m,z,A,E,F,G,I,J⟩:=k;exact⟨l,m,z,A,E,F,G,h _ _ I,vD h g _ j J⟩
theorem vE{P:yg}:∀{n:Nat}{t:yc}{x:Pl},bv P n t x->bv P (n+1) t x
 |0,t,x,h=>by simp[bv]at h
 |n+1,t,x,h=>by
  unfold bv at h ⊢;split at h
  .trivial
  .exact h
  .obtain⟨j,l,m,z,A,f⟩:=h;exact⟨j,l,m,z,A,λy g=>⟨vE (f y g).1,(f y g).2⟩⟩
  .exact⟨h.1,vD (λt x k=>vE k) _ _ _ h.2⟩
  .exact h.elim
theorem ZIf{P:yg}{g:yw}{s:Nat}{xs:yL Pl}{H H':yL aq}{r:Dv}{yK:yL Dv}(h1:ce P g (.p (.sl (ab ae) s xs)::yK) H r H')(h2:xs=[]->ce P g (.p (.sl (ab af) s [])::yK) H r H'):
 ce P g (.p (.sl ad s xs)::yK) H r H':=by
 intro σ vs l e m;simp only[aH]at m;obtain⟨v,J,rfl,M,f⟩:=m;obtain⟨y,A,c,rfl,z,E,R,F,G⟩:=X2 M
 cases j:A with
 |none=>
  have Q:xs=[]:=by
   cases xs with
   |nil=>rfl
   |cons x r=>obtain⟨b,o,S,I,_⟩:=G (by simp);rw[j]at I;cases I
  subst Q;subst j;refine h2 rfl σ _ l e ?_;simp only[aH]
  exact⟨_,_,rfl,Yy y z E (RZ rfl) F (λh=>absurd rfl h),f⟩
 |some a=>
  subst j;refine h1 σ _ l e ?_;simp only[aH];exact⟨_,_,rfl,Yy y z E (QT rfl) F G,f⟩
end Go.Ev
namespace Go.Ev
end Go.Ev
namespace Go.Ev
def st(n:Nat)(l:yL (Nat×Dv)):yL Dv:=(yo n).map λi=>(l.lookup i).getD .an
inductive pm:List (Nat×Dv)->List (Nat×Dv)->Prop where
 |nil:pm [] []
 |cons {i:Nat} {d e:Dv} {l m:List (Nat×Dv)} (h:Wk d e) (k:pm l m):pm ((i,d)::l) ((i,e)::m)
theorem pm.look{l m:yL (Nat×Dv)}(h:pm l m)(i:Nat):Wk ((l.lookup i).getD .an) ((m.lookup i).getD .an):=by
 induction h with
 |nil=>exact Wk.refl _
 |cons h k f=>
  rename_i j d e l m;simp only[List.lookup_cons];split
  .exact h
  .exact f
theorem cR.st{n:Nat}{l m:yL (Nat×Dv)}(h:pm l m):cR (st n l) (st n m):=by
 unfold Go.Ev.st;generalize yo n=r
 induction r with
 |nil=>exact .nil
 |cons i r f=>exact .cons (h.look i) f
end Go.Ev
end
section
namespace Go.Ev
section
variable{K V:Type}[DecidableEq K]
def gj(f:K->Pl)(ev:V->Pl)(l:yL (K×V)):yL (Pl×Pl):=l.map λq=>(f q.1,ev q.2)
def ir:yL (K×V)->K->yO V
 |[],_=>ad
 |q::l,k=>if k=q.1 then ab q.2 else ir l k
def jj:yL (K×V)->K->V->yL (K×V)
 |[],k,v=>[(k,v)]
 |q::l,k,v=>if k=q.1 then(k,v)::l else q::jj l k v
theorem CW{f:K->Pl}{ev:V->Pl}(hi:∀x y,f x=f y↔x=y)(k:K):∀l:yL (K×V),Vi (gj f ev l) (f k) ((ir l k).map ev)
 |[]=>rfl
 |q::l=>by
  show Vi ((f q.1,ev q.2)::gj f ev l) (f k) _;unfold Vi ir;by_cases h:k=q.1
  .left;rw[yW h];exact⟨(hi _ _).2 h,rfl⟩
  .right;rw[yX h];exact⟨λg=>h ((hi _ _).1 g),CW hi k l⟩
theorem ZAk{f:K->Pl}{ev:V->Pl}(hi:∀x y,f x=f y↔x=y){k:K}{l:yL (K×V)}{v:V}(h:ir l k=ab v):Vi (gj f ev l) (f k) (ab (ev v)):=by
 have:=CW (ev:=ev) hi k l;rw[h]at this;exact this
theorem ZAl{f:K->Pl}{ev:V->Pl}(hi:∀x y,f x=f y↔x=y){k:K}{l:yL (K×V)}(h:(ir l k).isSome=af):Vi (gj f ev l) (f k) ad:=by
 have:=CW (ev:=ev) hi k l
 cases g:ir l k with
 |none=>rw[g]at this;exact this
 |some v=>rw[g]at h;cases h
theorem Zrp{f:K->Pl}{ev:V->Pl}(hi:∀x y,f x=f y↔x=y)(k:K)(v:V):∀l:yL (K×V),gz (gj f ev l) (f k) (ev v) (gj f ev (jj l k v))
 |[]=>rfl
 |q::l=>by
  show gz ((f q.1,ev q.2)::gj f ev l) (f k) (ev v) _;unfold gz jj;by_cases h:k=q.1
  .left;rw[yW h];exact⟨(hi _ _).2 h,rfl⟩
  .right;rw[yX h];exact⟨λg=>h ((hi _ _).1 g),_,rfl,Zrp hi k v l⟩
end
theorem CX{K V:Type}{P:yg}{f:yc}{g:K->Pl}{ev:V->Pl}(h:∀x,bv P 20 f (g x))(l:yL (K×V)):jc P f (gj g ev l):=by
 intro q j;obtain⟨p,_,rfl⟩:=List.mem_map.1 j;exact h _
end Go.Ev
namespace Go.Ev
theorem Zx6{P:yg}{g:yw}{s:Nat}{e:yc}{H H':yL aq}{r:Dv}{yK:yL Dv}(h:ce P g (.own H.length ad s []::yK) (H++[.log s e []]) r H'):
 ce P g (.p (.sl (ab af) s [])::yK) H r H':=by
 intro σ vs j A z;simp only[aH]at z;obtain⟨v,l,rfl,E,f⟩:=z;obtain rfl:=nI E;subst A;obtain⟨to,y⟩:=WD (σ':={ σ with m:=σ.m++[ad],H:=σ.H++[.log s e []]}) j rfl rfl rfl rfl (World.grownBy.refl σ.w ad) (.inl rfl) (λ_=>.inl ⟨rfl,rfl⟩);refine(h { σ with m:=σ.m++[ad],H:=σ.H++[.log s e []]} (.slice ad 0 0::l) y rfl ?_).mono λT U⟨v,F,G,I,J,M,Q,R⟩=>⟨v,F,G,I,J,to.trans M,Q,R⟩;simp only[aH];refine⟨_,_,rfl,(Zh (d:=.own σ.H.length ad s []) rfl).2 ?_,de to.leaf _ _ f⟩;simp only[yH];refine⟨λ_ S=>(by cases S),ad,0,rfl,ym _,by simp[maxLen],Ym _,λ_=>rfl,λh=>absurd rfl h,e,[],by simp,ym _,λ_=>.inl ⟨?_,rfl,rfl⟩⟩;rw[yaq (by rw[j.len];exact ym _),j.len];simp
end Go.Ev
namespace Go.Ev
end Go.Ev
end
section
namespace Go.Proofs.YtcbhhaigilifgaaGreat
open Go Go.Ev Go.RowKit Go.Lib
set_option maxHeartbeats 1000000 in
set_option maxRecDepth 100000 in
theorem ZIg{A:yO Addr}{V:Addr}{n c f:Nat}{w w2:yr}{r:yh}(hn:n<=1000)(h:A=ad->n=0/\c=0)(g:(Builtin.append_ #[37,37] 37 #[.slice A n c,.slice (ab V) 1 f]).run yb w=.ok r w2):
 Calls yb 180 #[.slice A n c,.int .i64 n,.slice (ab V) 1 f] w λe w'=>e=.returned r/\w'=w2:=by
 cases A with
 |none=>
  obtain⟨rfl,rfl⟩:=h rfl
  go_enter Tryz.func180,Tryz.ntmps180
  go_wp2_with (at_builtin;refine Lib.wpList_append_run _ rfl _ _ _ _ rfl _ _ rfl rfl _ _ g ?_)
  all_goals (go_ret;exact⟨rfl,rfl⟩)
 |some A=>
  go_enter Tryz.func180,Tryz.ntmps180
  go_wp2_with (at_builtin;refine Lib.wpList_append_run _ rfl _ _ _ _ rfl _ _ rfl rfl _ _ g ?_)
  all_goals (go_ret;exact⟨rfl,rfl⟩)
theorem vF{P:yg}(w:yr)(F G ty elem:yc)(g o f l:Nat)(a:Addr)(h m s:Nat)(cur:Array yh)(t:yc)(cs:yL yh)
 (hu:P.underlying F=ab (.slice elem)) (hs:(P.info? elem).map (·.size)=ab s)
 (I:w.heap[g]? =ab (.cells cur t (0,0))) (hn:cs.length=Nat.min h f*s)
 (y:∀j v,cs[j]? =ab v->w.cell? (a.add j)=ab v) (z:o+cs.length<=cur.size) (h1:∀v∈cs,v.oneCell'=ae):
 (Builtin.copy_ #[F,G] ty #[.slice (ab ⟨g,o,ad⟩) f l,.slice (ab a) h m]).run P w=
   .ok (goInt (Nat.min h f)) (w.setRow g (cur.toList.take o++cs++cur.toList.drop (o+cs.length)).toArray):=by
 have J:=run_loadCells_list (P:=P) w a cs y;have A:=run_storeCells_at P g o t cs 0 cur w I (by simpa using z) h1
 cases E:P.info? elem with
 |none=>simp[E]at hs
 |some i=>
  have M:i.size=s:=by simpa[E] using hs
  simp[Builtin.copy_,run_underlying hu,Builtin.lenOf,Builtin.firstCells,sizeOf,typeInfo,E,M, <-hn,J,A]
theorem Zpi{P:yg}(w:yr){ops:Array yj}{yK:yL yj}{o:yj}{a:Act}{Q:Exit->Act->yr->Prop}(f:o.guard=ad)(d s:yp)(t g:yc)
 (ho:o.op=.call { callee:=.builtin .copy,args:= #[d,s],argTypes:= #[t,g]}) (v u:yh) (hd:a.eval d=v) (hs:a.eval s=u) {j:yh} {w':yr}
 (l:(Builtin.copy_ #[t,g] o.type #[v,u]).run P w=.ok j w') (h:wpList P ops Q yK (a.put o.dst j) w'):wpList P ops Q (o::yK) a w:=
 wpList_plain f λ_ m=>by
  unfold Oper.wp execOp;simp only[ho,resolve,invoke,builtin,Sem.run_bind,Sem.run_pure,Result.andThen_ok,List.map_toArray,yah,List.map_nil,hd,hs,l];exact m _ _ h
theorem ZuB{P:yg}{ops:Array yj}{o:yj}{a:Act}{w:yr}{K:Act->yr->Prop}{Q:Exit->Act->yr->Prop}{E:Prop}
 (l:o.guard=ad) (d x:yp) (g h:yc) (f:o.op=Op.call { callee:=Callee.builtin Builtin.copy,args:= #[d,x],argTypes:= #[g,h]})
 (v u:yh) (hd:a.eval d=v) (m:a.eval x=u) {j:yh} {w':yr} (y:(Builtin.copy_ #[g,h] o.type #[v,u]).run P w=.ok j w') (z:K (a.put o.dst j) w'):
 if Region.wanted o (yielded ops a.tmps)=ae then Oper.wp P o a w K Q else E:=by
 have A:Region.wanted o (yielded ops a.tmps)=ae:=by simp[Region.wanted,l]
 rw[yW A];unfold Oper.wp;simp[execOp,f,resolve,invoke,builtin,hd,m,y,Result.andThen];exact z
set_option maxHeartbeats 4000000 in
set_option maxRecDepth 100000 in
theorem ZDw{b n c k vb vo S:Nat}{cur:Array yh}{us:yL yh}{w:yr}(hk:k < n)(hn:n<=1000)(T:n+1<=c)(hc:c<=9223372036854775807)(U:w.heap[b]? =ab (.cells cur 93 (0,0)))(hcs:cur.size=c*5)(W:vb≠b)
 (z:us.length=5) (X:∀v,v∈(cur.toList.drop (k*5)).take ((n - k)*5)->v.oneCell'=ae) (Y:∀v,v∈us->v.oneCell'=ae) (G:∀j v,us[j]? =ab v->w.cell? ⟨vb,vo+j,ad⟩=ab v)
 (Z:∀lb cb,(callFunc 209 #[.slice (ab ⟨vb,vo,ad⟩) 1 S,.slice (ab ⟨b,(k+1)*5,ad⟩) lb cb]).run yb w=.ok (.value (.bool af)) w):
 Calls yb 180 #[.slice (ab ⟨b,0,ad⟩) n c,.int .i64 k,.slice (ab ⟨vb,vo,ad⟩) 1 S] w λe w'=>
  e=.returned (.slice (ab ⟨b,0,ad⟩) (n+1) c)/\∃y,w'=w.drew.setRow b y/\y.toList=cur.toList.take (k*5)++us++(cur.toList.drop (k*5)).take ((n - k)*5)++cur.toList.drop ((n+1)*5):=by
 have hz2:¬((k:Int)=(n:Int)):=by omega
 have I:(yb.info? 93).map (·.size)=ab 5:=by kernel_rfl
 have hw1:IntKind.i64.wrap ((k:Int)+(1:Int))=(k:Int)+(1:Int):=by rw[IntKind.wrap_i64];omega
 have hw2:IntKind.i64.wrap ((n:Int)+(1:Int))=(n:Int)+(1:Int):=by rw[IntKind.wrap_i64];omega
 let g:yL yh:=(cur.toList.drop (k*5)).take ((n - k)*5)
 have m:g.length=(n - k)*5:=by
  simp only[g,yaa,yaz,yax,hcs];omega
 let f:Array yh:=(cur.toList.take ((k+1)*5)++g++cur.toList.drop ((k+1)*5+g.length)).toArray
 have J:∀A E sc,(Builtin.copy_ #[37,37] A #[.slice (ab ⟨b,(k+1)*5,ad⟩) (n - k) E,.slice (ab ⟨b,k*5,ad⟩) (n+1 - k) sc]).run yb w.drew=.ok (goInt ((n - k:Nat):Int)) (w.drew.setRow b f):=λA E sc=>by
  have:=vF (P:=yb) w.drew 37 37 A 93 b ((k+1)*5) (n - k) E ⟨b,k*5,ad⟩ (n+1 - k) sc 5 cur 93 g Tryz.underlying37 I U (by rw[m];simp only[Nat.min_def];split <;> omega)
   (λj v F=>by
     rw[Addr.add_lit];rw[cell_of_row w.drew b _ cur 93 (0,0) U, <-yby];simp only[g]at F;rw[ycd]at F;split at F
     .rwa [List.getElem?_drop]at F
     .cases F) (by rw[m,hcs];omega) (λv hv=>X v hv)
  rw[this];congr 2;simp only[Nat.min_def];split <;> omega
 have M:f.toList=cur.toList.take ((k+1)*5)++g++cur.toList.drop ((n+1)*5):=by
  simp only[f];rw[show(k+1)*5+g.length=(n+1)*5 by rw[m];omega]
 have hs2:f.size=c*5:=by
  rw[<-yax,M];simp only[yl,yaa,yaz,m,yax,hcs];omega
 let l:Array yh:=(f.toList.take (k*5)++us++f.toList.drop (k*5+us.length)).toArray
 have Q:∀A E,(Builtin.copy_ #[37,37] A #[.slice (ab ⟨b,k*5,ad⟩) (n+1 - k) E,.slice (ab ⟨vb,vo,ad⟩) 1 S]).run yb (w.drew.setRow b f)=.ok (goInt 1) ((w.drew.setRow b f).setRow b l):=λA E=>by
  have:=vF (P:=yb) (w.drew.setRow b f) 37 37 A 93 b (k*5) (n+1 - k) E ⟨vb,vo,ad⟩ 1 S 5 f 93 us Tryz.underlying37 I (setRow_heap w.drew b cur f 93 _ U) (by rw[z];simp only[Nat.min_def];split <;> omega)
   (λj v F=>by
     rw[Addr.add_lit];have h:=G j v F;unfold World.cell? at h ⊢;rw[setRow_other w.drew b vb _ W];exact h) (by rw[z,hs2];omega) Y
  rw[this];congr 2;simp only[Nat.min_def];split <;> omega
 have R:l.toList=cur.toList.take (k*5)++us++(cur.toList.drop (k*5)).take ((n - k)*5)++cur.toList.drop ((n+1)*5):=by
  simp only[l];rw[M,z]
  have t1:((cur.toList.take ((k+1)*5)++g++cur.toList.drop ((n+1)*5)).take (k*5))=cur.toList.take (k*5):=by
   rw[yac,List.take_append_of_le_length (by rw[yaa,yax,hcs];omega),List.take_take,yay (by omega)]
  have t2:(cur.toList.take ((k+1)*5)++g++cur.toList.drop ((n+1)*5)).drop (k*5+5)=g++cur.toList.drop ((n+1)*5):=by
   rw[yac];exact List.drop_left' (by rw[yaa,yax,hcs];omega)
  rw[t1,t2, <-yac]
 have hb1:(0:Int)<=(k:Int)+1:=by omega
 have hin:k<=n:=by omega
 have htn:((k:Int)+1).toNat=k+1:=by omega
 have hb2:¬(c=k+1):=by omega
 have hb3:(k:Int)<=(n:Int)+1:=by omega
 have hb4:¬(c=k):=by omega
 have hb5:k<=n+1:=by omega
 have mixed:yb.follows .mixedOrders=ae:=by kernel_rfl
 go_enter Tryz.func180,Tryz.ntmps180
 go_wp2_with (simp only[Z])
 go_region_law_o (refine ZuB rfl _ _ 37 37 rfl _ _ (by simp[Act.eval,Act.put]) (by simp[Act.eval,Act.put]) (J _ _ _) ?_)
 go_wp2_with (at_builtin;refine Zpi _ rfl _ _ 37 37 rfl _ _ rfl rfl (Q _ _) ?_)
 go_ret
 exact⟨rfl,l,by rw[setRow_setRow],R⟩
theorem ZmC(w:yr)(C D:Array yh)(t:yc):(w.alloc (.cells C t)).setRow w.heap.size D=w.alloc (.cells D t):=by
 unfold World.setRow World.alloc;simp only;congr 1;apply Array.ext_getElem?;intro i;by_cases h:i=w.heap.size
 .subst h;rw[Array.getElem?_modify,yW rfl,Array.getElem?_push_size,Array.getElem?_push_size];rfl
 .have f:¬w.heap.size=i:=λq=>h q.symm;simp[Array.getElem?_modify,Array.getElem?_push,h,f]
set_option maxHeartbeats 4000000 in
set_option maxRecDepth 100000 in
theorem ZFd{b n k vb vo vc:Nat}{cur:Array yh}{us:yL yh}{w:yr}(hk:k < n)(hn:n<=1000)(hg:w.heap[b]? =ab (.cells cur 93 (0,0)))(hcs:cur.size=n*5)(hvl:vb < w.heap.size)
 (A:us.length=5) (h1c:∀v,v∈(cur.toList.drop (k*5)).take ((n - k)*5)->v.oneCell'=ae) (h1u:∀v,v∈us->v.oneCell'=ae) (U:∀j v,us[j]? =ab v->w.cell? ⟨vb,vo+j,ad⟩=ab v):
 Calls yb 180 #[.slice (ab ⟨b,0,ad⟩) n n,.int .i64 k,.slice (ab ⟨vb,vo,ad⟩) 1 vc] w λe w'=>
  ∃D:Array yh,e=.returned (.slice (ab ⟨w.heap.size,0,ad⟩) (n+1) (grownCap w (n+1) n 93))/\w'=(w.drew.alloc (.cells D 93)).drew/\D.size=grownCap w (n+1) n 93*5/\
   D.toList.take ((n+1)*5)=cur.toList.take (k*5)++us++(cur.toList.drop (k*5)).take ((n - k)*5):=by
 have hz2:¬((k:Int)=(n:Int)):=by omega
 have hw1:IntKind.i64.wrap ((k:Int)+(1:Int))=(k:Int)+(1:Int):=by rw[IntKind.wrap_i64];omega
 have hw2:IntKind.i64.wrap ((n:Int)+(1:Int))=(n:Int)+(1:Int):=by rw[IntKind.wrap_i64];omega
 have hw3:IntKind.i64.wrap ((n:Int)+(1:Int) - (k:Int))=((n+1 - k:Nat):Int):=by rw[IntKind.wrap_i64];omega
 have W:(yb.info? 93).map (·.size)=ab 5:=by kernel_rfl
 obtain⟨i,lH,z,pY,hz5,hi3,hi4⟩:∃i,yb.info? 93=ab i/\∃z,i.zero=ab z/\z.cells.size=5/\i.size=5/\i.bytes=40:=by
  have h:(yb.info? 93).map (λi=>(i.zero.map (λz=>z.cells.size),i.size,i.bytes))=ab (ab 5,5,40):=by kernel_rfl
  obtain⟨i,h1,T⟩:=yv.1 h;simp only[yq]at T;obtain⟨z,z1,z2⟩:=yv.1 T.1;exact⟨i,h1,z,z1,z2,T.2.1,T.2.2⟩
 have hbl:b < w.heap.size:=(yco.1 hg).1;let f:yL yh:=cur.toList.take (k*5)
 have S:f.length=k*5:=by
  simp only[f,yaa,yax,hcs];omega
 have I:(Builtin.firstCells i.size k (.slice (ab ⟨b,0,ad⟩) k n)).run yb w.drew=.ok f.toArray w.drew:=by
  rw[hi3];refine run_firstCells_some (P:=yb) w.drew 5 k ⟨b,0,ad⟩ k n f S (λj v g=> ?_);rw[Addr.add_lit,cell_of_row w.drew b _ cur 93 (0,0) hg, <-yby];simp only[f]at g;rw[ycd]at g;split at g
  .simpa using g
  .cases g
 have J:∀l,(Builtin.append_ #[37,3] l #[.slice (ab ⟨b,0,ad⟩) k n,.int .i64 ((n+1 - k:Nat):Int)]).run yb w=_:=λl=>
  Lib.run_append_grow_zeros (P:=yb) w 37 3 l 93 i z .i64 .i64 Tryz.underlying37 Tryz.underlying3 lH pY (ab ⟨b,0,ad⟩) k n f I (n+1 - k) (by omega) (by rw[hi3];decide) (by omega) (by omega) (by rw[hi4];omega)
   (by rw[show k+(n+1 - k)=n+1 by omega];exact growslice_fits (by omega) (by rw[hi4];omega))
 have hnk:k+(n+1 - k)=n+1:=by omega
 simp only[hnk]at J;have hGn:=grownCap_ge w (n+1) n 93;have Q:=grownCap_le_maxLen w (n+1) n 93 (by unfold maxLen;omega);unfold maxLen at Q;generalize hG:grownCap w (n+1) n 93=G at J hGn Q ⊢;generalize hC:f.toArray++Builtin.zeroCells z.cells (n+1 - k)++Builtin.zeroCells z.cells (G - (n+1))=C at J
 have hCt:C.toList.take (k*5)=cur.toList.take (k*5):=by
  rw[<-hC];simp only[Array.toList_append,yac];rw[List.take_append_of_le_length (Nat.le_of_eq S.symm)];simp only[f];rw[List.take_take,Nat.min_self]
 have Y:C.size=G*5:=by
  rw[<-hC];simp only[Array.size_append,List.size_toArray,S,Go.size_zeroCells,hz5];omega
 let y:yL yh:=(cur.toList.drop (k*5)).take ((n - k)*5)
 have M:y.length=(n - k)*5:=by
  simp only[y,yaa,yaz,yax,hcs];omega
 let C1:Array yh:=(C.toList.take (k*5)++us++C.toList.drop (k*5+us.length)).toArray
 have Z:C1.size=G*5:=by
  simp only[C1,List.size_toArray,yl,yaa,yaz,yax,Y,A];omega
 let D:Array yh:=(C1.toList.take ((k+1)*5)++y++C1.toList.drop ((k+1)*5+y.length)).toArray;let w1:yr:=w.drew.alloc (.cells C 93);let R:yr:=w.drew.alloc (.cells C1 93);have hg1:w1.heap[w.heap.size]? =ab (.cells C 93 (0,0)):=heap_alloc_new w.drew _;have hg2:R.drew.heap[w.heap.size]? =ab (.cells C1 93 (0,0)):=heap_alloc_new w.drew _
 have old:∀(X:Array yh)(j:Nat),j < w.heap.size->(w.drew.alloc (.cells X 93)).heap[j]? =w.heap[j]? :=λX j g=>by
  unfold World.alloc;exact Array.getElem?_push_lt g ▸ (by simp[ycl g,World.drew])
 have E:∀l F,(Builtin.copy_ #[37,37] l #[.slice (ab ⟨w.heap.size,k*5,ad⟩) (n+1 - k) F,.slice (ab ⟨vb,vo,ad⟩) 1 vc]).run yb w1=.ok (goInt 1) R:=λl F=>by
  have:=vF (P:=yb) w1 37 37 l 93 w.heap.size (k*5) (n+1 - k) F ⟨vb,vo,ad⟩ 1 vc 5 C 93 us Tryz.underlying37 W hg1 (by rw[A];simp only[Nat.min_def];split <;> omega)
   (λj v g=>by
     rw[Addr.add_lit];have h:=U j v g;unfold World.cell? at h ⊢;rw[old C vb hvl];exact h) (by rw[A,Y];omega) h1u
  rw[this];congr 1
  .congr 1;simp only[Nat.min_def];split <;> omega
  .exact ZmC w.drew C C1 93
 have m:∀l F sc,(Builtin.copy_ #[37,37] l #[.slice (ab ⟨w.heap.size,(k+1)*5,ad⟩) (n - k) F,.slice (ab ⟨b,k*5,ad⟩) (n - k) sc]).run yb R.drew=.ok (goInt ((n - k:Nat):Int)) (R.drew.setRow w.heap.size D):=λl F sc=>by
  have:=vF (P:=yb) R.drew 37 37 l 93 w.heap.size ((k+1)*5) (n - k) F ⟨b,k*5,ad⟩ (n - k) sc 5 C1 93 y Tryz.underlying37 W hg2 (by rw[M];simp only[Nat.min_def];split <;> omega)
   (λj v g=>by
     rw[Addr.add_lit]
     have T:R.drew.heap[b]? =ab (.cells cur 93 (0,0)):=by
      show(w.drew.alloc (.cells C1 93)).heap[b]? =_;rw[old C1 b hbl];exact hg
     rw[cell_of_row R.drew b _ cur 93 (0,0) T, <-yby];simp only[y]at g;rw[ycd]at g;split at g
     .rwa [List.getElem?_drop]at g
     .cases g) (by rw[M,Z];omega) (λv hv=>h1c v hv)
  rw[this];congr 2;simp only[Nat.min_def];split <;> omega
 have hw:R.drew.setRow w.heap.size D=(w.drew.alloc (.cells D 93)).drew:=by
  have:=ZmC w.drew C1 D 93;rw[<-this];rfl
 rw[hw]at m;have E:∀l F,(Builtin.copy_ #[37,37] l #[.slice (ab ⟨w.heap.size,k*5,ad⟩) (n+1 - k) F,.slice (ab ⟨vb,vo,ad⟩) 1 vc]).run yb (w.alloc (.cells C 93)).drew=.ok (goInt 1) (w.alloc (.cells C1 93)).drew:=E;have m:∀l F sc,(Builtin.copy_ #[37,37] l #[.slice (ab ⟨w.heap.size,(k+1)*5,ad⟩) (n - k) F,.slice (ab ⟨b,k*5,ad⟩) (n - k) sc]).run yb (w.alloc (.cells C1 93)).drew.drew=.ok (goInt ((n - k:Nat):Int)) (w.alloc (.cells D 93)).drew.drew:=m
 have hDs:D.size=G*5:=by
  simp only[D,List.size_toArray,yl,yaa,yaz,yax,Z,M];omega
 have hDt:D.toList.take ((n+1)*5)=cur.toList.take (k*5)++us++(cur.toList.drop (k*5)).take ((n - k)*5):=by
  have t1:C1.toList.take ((k+1)*5)=cur.toList.take (k*5)++us:=by
   simp only[C1];rw[hCt];exact List.take_left' (by simp only[yl,yaa,yax,hcs,A];omega)
  simp only[D];rw[t1];exact List.take_left' (by simp only[yl,yaa,yaz,yax,hcs,A,M];omega)
 have mixed:yb.follows .mixedOrders=ae:=by kernel_rfl
 have hb1:(0:Int)<=(k:Int)+1:=by omega
 have hin:k<=n:=by omega
 have htn:((k:Int)+1).toNat=k+1:=by omega
 have hb2:¬(G=k+1):=by omega
 have hb3:(k:Int)<=(n:Int)+1:=by omega
 have hb4:¬(G=k):=by omega
 have hb5:k<=n+1:=by omega
 have hb6:¬(n=k):=by omega
 go_enter Tryz.func180,Tryz.ntmps180
 go_wp2_with (at_builtin;refine Lib.wpList_append_run _ rfl _ _ _ _ rfl _ _ rfl rfl _ _ (J _) ?_)
 go_wp2_with (at_builtin;refine Zpi _ rfl _ _ 37 37 rfl _ _ rfl rfl (E _ _) ?_)
 go_region_law_o (refine ZuB rfl _ _ 37 37 rfl _ _ (by simp[Act.eval,Act.put]) (by simp[Act.eval,Act.put]) (m _ _ _) ?_)
 go_wp2
 go_ret
 exact⟨D,rfl,rfl,hDs,hDt⟩
end Go.Proofs.YtcbhhaigilifgaaGreat
end
section
namespace Go.Proofs.YtcbhhaigilifgaaGreat
open Go Go.Ev Go.RowKit Go.Lib
def rx:yj:={ dst:=ab 2,op:=.call { callee:=.builtin .append,args:= #[.tmp 0,.tmp 1],argTypes:= #[37,37]},type:=37,pos:=default,after:= #[],guard:=ad}
theorem ZFe{P:yg}{σ:Sg}{f v1:yh}{d:Dv}{H':yL aq}(h:YL P rx { tmps:= #[f,v1,undef],defers:=[]} σ d H'):
 ∃r σ',(Builtin.append_ #[37,37] 37 #[f,v1]).run P σ.w=.ok r σ'.w/\σ'.H=H'/\To σ σ'/\Ok σ'/\yJ σ' d r:=by
 have l:(execOp ({ tmps:= #[f,v1,undef],defers:=[]}:Act).eval rx).run P σ.w=((Builtin.append_ #[37,37] 37 #[f,v1]).run P σ.w).andThen λv w=>.ok (.value v) w:=by
  simp[execOp,rx,resolve,invoke,builtin,Act.eval]
 have this:=h (λm g=>∃r σ',m=({ tmps:= #[f,v1,undef],defers:=[]}:Act).put (ab 2) r/\g=σ'.w/\σ'.H=H'/\To σ σ'/\Ok σ'/\yJ σ' d r) (λ_ _ _=>False) (λv σ' e t o r=>⟨v,σ',rfl,rfl,e,t,o,r⟩);unfold Oper.wp at this;rw[l]at this
 cases j:(Builtin.append_ #[37,37] 37 #[f,v1]).run P σ.w with
 |ok v g=>
  rw[j]at this;obtain⟨r,σ',y,z,A,e4,E,F⟩:=this
  have G:v=r:=by
   have:=congrArg (λa:Act=>a.tmps[2]?) y;simpa[Act.put,rx] using this
  exact⟨r,σ',by rw[z,G],A,e4,E,F⟩
 |halt x g=>
  rw[j]at this;cases x <;> exact this.elim
theorem CY:∃i,yb.info? 93=ab i/\cu i=ae/\i.size=5/\i.bytes=40:=by
 have h:(yb.info? 93).map (λi=>(cu i,i.size,i.bytes))=ab (ae,5,40):=by kernel_rfl
 obtain⟨i,g,f⟩:=yv.1 h;simp only[yq]at f;exact⟨i,g,f.1,f.2.1,f.2.2⟩
theorem ZDx{w:yr}{vb vo b k g:Nat}{cs cur:Array yh}{e h:yc}(hv:w.heap[vb]? =ab (.cells cs e (0,0)))(hb:w.heap[b]? =ab (.cells cur h (0,0)))(f:vb≠b)(hz:cur.size≠0)(j l:Nat):
 (callFunc 209 #[.slice (ab ⟨vb,vo,ad⟩) 1 g,.slice (ab ⟨b,k,ad⟩) j l]).run yb w=.ok (.value (.bool af)) w:=by
 rw[run_callFunc_extern Tryz.func209 (by kernel_rfl) (by kernel_rfl) (by kernel_rfl) (e:=Extern.SlicesOverlaps.overlaps #[37,37] #[4]) (by kernel_rfl),
  Lib.run_overlaps_apart w 37 4 93 Tryz.underlying37 5 (λw=>by
   obtain⟨i,m,_,y,_⟩:=CY;simp[sizeOf,typeInfo,m,y]) ⟨vb,vo,ad⟩ ⟨b,k,ad⟩ 1 g j l f e h cs.size cur.size (by simp[World.shape?,hv]) (by simp[World.shape?,hb]) hz (by simp[World.frozen?,hv]) (by simp[World.frozen?,hv])]
 rfl
theorem ZIh{xs:yL Pl}{x:Pl}{k n v:Nat}{nn:yO Bool}(hk:k<=n)(hxl:xs.length=n)(hn:n<=1000):
 ce yb 180 [.rv 0 v 5 0 n,.p (.int .i64 (k:Int)),.own 1 nn 5 [x]] [.row v 5 ae 93 (.p (.arr n 5 xs)),.log 5 93 [x]] (.rv 0 (v+1) 5 0 (n+1))
  [.row (v+1) 5 ae 93 (.p (.arr (n+1) 5 (xs.take k++x::xs.drop k))),.log 5 93 [x]]:=by
 intro σ vs ok eH hr;simp only[aH]at hr;obtain⟨v0,_,rfl,r0,v1,_,rfl,r1,v2,_,rfl,r2,rfl⟩:=hr;have r0:yJ σ (.rv 0 v 5 0 n) v0:=r0;have r2:yJ σ (.own 1 nn 5 [x]) v2:=r2
 obtain rfl:v1=.int .i64 (k:Int):=by
  have:=r1.2 rfl;simpa[yH,aB] using this
 obtain⟨i,hi,hzi,eZ,hib⟩:=CY;have F:σ.H[0]? =ab (.row v 5 ae 93 (.p (.arr n 5 xs))):=by rw[eH];rfl
 have hH1:σ.H[1]? =ab (.log 5 93 [x]):=by rw[eH];rfl
 by_cases hkn:k=n
 .subst hkn
  have yM:aD σ [.rv 0 v 5 0 k,.own 1 nn 5 [x],.an] { tmps:= #[v0,v2,undef],defers:=[]}:=⟨rfl,λj d Z=>(match j,Z with
   |0,rfl=>r0
   |1,rfl=>r2
   |2,rfl=>Yr),rfl⟩
  have Q:mq yb σ i.size 37 v2 [x]:=pc (P:=yb) (x:=.tmp 1) (ut:=37) yM (by
   show hP yb i.size 37 (.own 1 nn 5 [x])=ab [x];unfold hP;rw[Tryz.underlying37,eZ];simp)
  have h:=Zms (P:=yb) (o:=rx) (x:=.tmp 0) (y:=.tmp 1) (t:=37) (u:=37) (e:=93) (i:=i) (id:=0) (v:=v) (n:=k) (N:=k) (st:=ae) (xs:=xs) (ys:=[x]) ok yM (.inl rfl) rfl rfl rfl rfl Tryz.underlying37 (by rw[eZ];rfl) hi hzi (by rw[eZ];decide) Q (by rw[eZ];exact F) (ym _)
   (by rw[hib];simp only[ycy,Zt];omega) (by simp only[ycy,maxLen];omega)
  obtain⟨r,g,e1,e2,e3,e4,e5⟩:=ZFe h;have hl:(xs.take k++x::xs.drop k)=xs.take k++[x]:=by rw[List.drop_eq_nil_of_le (by omega)]
  rw[eZ]at e2 e5;obtain⟨A,c,rfl,c1,_,c3,_⟩:=ji r0;have hA0:A=ad->k=0/\c=0:=λh=>by have:=c3 h;omega
  obtain⟨b2,o2,hA2,c2,rfl⟩:∃b2 o2,∃(_:True),∃c2,v2=.slice (ab ⟨b2,o2,ad⟩) 1 c2:=by
   rw[Zh rfl]at r2;simp only[yH]at r2;obtain⟨_,A2,c2,e,_,_,_,_,h6,_⟩:=r2;obtain⟨b,o,us,rfl,_⟩:=h6 (by simp);exact⟨b,o,zP,c2,by simpa using e⟩
  refine(ZIg (A:=A) (V:=⟨b2,o2,ad⟩) hn hA0 e1).mono λex w'⟨q1,q2⟩=> ?_;subst q1;subst q2;refine⟨r,g,rfl,rfl, ?_,e3,e4,e5⟩;rw[e2,eH,hl];rfl
 .have hlt:k < n:=by omega
  obtain⟨A,c,rfl,h2,h3,h4,h5,v',s',st',e',d',h6,h7,h8⟩:=ji r0;rw[F]at h6;cases h6;obtain⟨_,h9⟩:=h8 rfl;obtain⟨A0,c0,hv0,_,_,_,I,hplen,q,hq,hql,hqc⟩:=qW ok r0 F rfl (by omega:0+n<=n);rw[List.drop_zero,ycc (by omega)]at I hplen hq;injection hv0 with e1 e2 e3;subst e1;subst e3;obtain⟨b,E,cap,rfl,hm0,R,hcs0,S⟩:=hqc (by omega);rcases h9 with⟨k1,_,_⟩|⟨b',curx,k1,k3,k4,k5⟩
  .rw[hm0]at k1;cases k1
  rw[hm0]at k1;cases k1;rw[R]at k3;cases k3;rw[yar]at k4;rw[Nat.zero_mul] at*;rw[Zh rfl]at r2;simp only[yH]at r2;obtain⟨hxs,A2,c2,e2,_,_,_,_,g6,g7⟩:=r2;obtain rfl:v2=.slice A2 1 c2:=by simpa using e2
  obtain⟨vb,vo,us,rfl,hus,husc⟩:=g6 (by simp);obtain⟨e9,ys9,j1,j2,j3⟩:=g7;rw[hH1]at j1;cases j1;rcases j3 rfl with⟨_,j4,_⟩|⟨vb',vcur,j4,j5,j6,j7⟩
  .cases j4
  cases j5
  have hne:vb≠b:=λh=>by
   subst h;have:=ok.inj 1 0 vb j4 hm0;omega
  have hsx:x.size=5:=hxs x (by simp)
  have hul:us.length=5:=by
   rw[aL _ _ hus];simp[Pl.sizes,hsx]
  have h1u:∀u,u∈us->u.oneCell'=ae:=cf _ _ hus;have Q:∀j u,us[j]? =ab u->σ.w.cell? ⟨vb,0+j,ad⟩=ab u:=λj u Z=>(husc j u Z).1
  have hqe:E.toList.take (n*5)=q:=by
   apply ybq;intro j;rw[ycd];by_cases Z:j < n*5
   .rw[yW Z];have hjq:j < q.length:=by rw[hql];exact Z
    have:=S j q[j] (yab hjq);rw[yar,cell_of_row σ.w b j E 93 (0,0) R, <-yby]at this;rw[this,yab hjq]
   .rw[yX Z,ybz (by rw[hql];omega)]
  have T:σ.m[0]? =ab (ab b):=hm0;have hsplit:xs=xs.take k++xs.drop k:=(ybb k xs).symm;rw[hsplit]at hq;obtain⟨q1,q2,rfl,p1,p2⟩:=Z8 hq;have hs1:aW 5 (xs.take k):=λz hz=>I z (ybs hz);have hs2:aW 5 (xs.drop k):=λz hz=>I z (ycq hz);have l1:q1.length=k*5:=by rw[aL _ _ p1,aN hs1,yaa,yay (by omega)]
  have l2:q2.length=(n - k)*5:=by rw[aL _ _ p2,aN hs2,yaz,hxl]
  have hkc:k*5<=n*5:=by omega
  have t1:E.toList.take (k*5)=q1:=by
   have:=congrArg (List.take (k*5)) hqe;rw[List.take_take,yay hkc,List.take_left' l1]at this;exact this
  have t2:(E.toList.drop (k*5)).take ((n - k)*5)=q2:=by
   have:=congrArg (List.drop (k*5)) hqe;rw[List.drop_take,List.drop_left' l1]at this;rw[show(n - k)*5=n*5 - k*5 by omega];exact this
  have h1q:∀u,u∈q1++q2->u.oneCell'=ae:=cf _ _ hq
  have zW:(xs.take k++x::xs.drop k).length=n+1:=by
   simp only[yl,yaa,yaf,yaz];omega
  have hall':aW 5 (xs.take k++x::xs.drop k):=X6 hs1 λz hz=>by
   rcases List.mem_cons.1 hz with rfl|hz
   .exact hsx
   .exact hs2 z hz
  have U:aR (.p (.arr (n+1) 5 (xs.take k++x::xs.drop k))) 5=ab (n+1):=by simp[aR]
  have hcs:E.size=c*5:=k4;have W:(σ.H.set 0 (.row (v+1) 5 ae 93 (.p (.arr (n+1) 5 (xs.take k++x::xs.drop k)))))=[.row (v+1) 5 ae 93 (.p (.arr (n+1) 5 (xs.take k++x::xs.drop k))),.log 5 93 [x]]:=by rw[eH];rfl
  have hvbl:vb < σ.w.heap.size:=(yco.1 j6).1
  have X:∀g:Sg,ck σ g->yH g (.p (.arr (n+1) 5 (xs.take k++x::xs.drop k))) (q1++us++q2):=λg l=>by
   simp only[yH,aB];refine⟨zW,hall', ?_⟩;rw[yac];refine Z7 (aE l.cells _ _ p1) ?_;have:=Z7 (aE l.cells _ _ hus) (aE l.cells _ _ p2);exact this
  by_cases J:n+1<=c
  .refine(ZDw (cur:=E) (us:=us) (vb:=vb) (vo:=0) hlt hn J (by simp only[maxLen]at h3;omega) R hcs hne hul (λu Y=>h1q u (List.mem_append_right _ (by rw[t2]at Y;exact Y))) h1u Q (λlb cb=>ZDx j6 R hne (by omega) lb cb)).mono λex w'⟨w1,f,w2,w3⟩=> ?_;subst w1;subst w2;rw[t1,t2]at w3
   have hncs:f.size=c*5:=by
    rw[<-yax,w3];simp only[yl,l1,l2,hul,yaz,yax,hcs];omega
   have htk:f.toList.take ((n+1)*5)=q1++us++q2:=by
    rw[w3];exact List.take_left' (by simp only[yl,l1,l2,hul];omega)
   let g:Sg:={ σ with m:=σ.m.set 0 (ab b),H:=σ.H.set 0 (.row (v+1) 5 ae 93 (.p (.arr (n+1) 5 (xs.take k++x::xs.drop k)))),w:=σ.w.drew.setRow b f};have zV:g.w.heap[b]? =ab (.cells f 93 (0,0)):=setRow_heap σ.w.drew b E _ 93 _ R;have hoth:∀j,b≠j->g.w.heap[j]? =σ.w.heap[j]? :=λj Z=>setRow_other σ.w.drew b j _ (Ne.symm Z);have M:g.m[0]? =ab (ab b):=ak T;have hH':g.H[0]? =ab (.row (v+1) 5 ae 93 (.p (.arr (n+1) 5 (xs.take k++x::xs.drop k)))):=ak F
   obtain⟨to,ok'⟩:=YN (σ':=g) (mi:=ab b) (mi':=ab b) ok F T rfl rfl rfl rfl rfl rfl rfl (by simp[g])
    (λj Z hne=>hoth j (λhh=>hne (by rw[hh]))) (λb' o v hb' Y S=>by cases Y.1)
    (λo _ Y=>by cases Y.1) (.inl rfl) (λ⟨d,st,h⟩=>by cases h) (λ⟨d,st,h⟩=>by cases h)
    (λs' e' xs' h=>by cases h)
    (λl=>⟨n+1,U,.inr ⟨b,f,c,rfl,zV,hncs,J,h3,by rw[htk];exact X g l⟩⟩)
    (λv2 s st e d h=>by cases h;exact⟨v+1,_,_,rfl,by omega,λhh=>absurd hh (by omega)⟩)
   refine⟨_,g,rfl,rfl,W,to,ok', ?_⟩;rw[Zh rfl];simp only[yH];exact⟨_,_,rfl,J,h3,λh=>(by cases h),λ_=>⟨_,_,rfl⟩,v+1,5,ae,93,_,hH',ym _,λ_=>⟨rfl,.inr ⟨b,f,M,zV,by rw[hncs,yar],λ_=>by simp⟩⟩⟩
  .have hcn:c=n:=by omega
   rw[hcn]at hcs;rw[hcn];refine(ZFd (cur:=E) (us:=us) (vb:=vb) (vo:=0) hlt hn R hcs hvbl hul (λu Y=> ?_) h1u Q).mono λex w'⟨f,w1,w2,w3,w4⟩=> ?_
   .rw[t2]at Y;exact h1q u (List.mem_append_right _ Y)
   subst w1;subst w2;rw[t1,t2]at w4;have hge:=grownCap_ge σ.w (n+1) n 93;have hcm:=grownCap_le_maxLen σ.w (n+1) n 93 (by simp only[maxLen];omega);generalize grownCap σ.w (n+1) n 93=G at*;let g:Sg:={ σ with m:=σ.m.set 0 (ab σ.w.heap.size),H:=σ.H.set 0 (.row (v+1) 5 ae 93 (.p (.arr (n+1) 5 (xs.take k++x::xs.drop k)))),w:=(σ.w.drew.alloc (.cells f 93)).drew};have zV:g.w.heap[σ.w.heap.size]? =ab (.cells f 93 (0,0)):=heap_alloc_new σ.w.drew _;have hg:=YY σ.w (.cells f 93) ad;have hblk':∀b,b < σ.w.heap.size->g.w.heap[b]? =σ.w.heap[b]? :=λb hb=>hg.block b hb (by simp);have M:g.m[0]? =ab (ab σ.w.heap.size):=ak T;have hH':g.H[0]? =ab (.row (v+1) 5 ae 93 (.p (.arr (n+1) 5 (xs.take k++x::xs.drop k)))):=ak F
   obtain⟨to,ok'⟩:=YN (σ':=g) (mi:=ab b) (mi':=ab σ.w.heap.size) ok F T rfl rfl rfl rfl rfl rfl rfl hg.size
    (λb hb _=>hblk' b hb) (λb' o v hb' Y _=>by cases Y.1)
    (λo h _=>by
      have:=ok.lt 0 b T;injection h with h;omega) (.inr ⟨_,rfl,ym _,by simp[g]⟩) (λ⟨d,st,h⟩=>by cases h) (λ⟨d,st,h⟩=>by cases h)
    (λs' e' xs' h=>by cases h)
    (λl=>⟨n+1,U,.inr ⟨σ.w.heap.size,f,G,rfl,zV,w3,hge,hcm,by rw[w4];exact X g l⟩⟩)
    (λv2 s st e d h=>by cases h;exact⟨v+1,_,_,rfl,by omega,λhh=>absurd hh (by omega)⟩)
   refine⟨_,g,rfl,rfl,W,to,ok', ?_⟩;rw[Zh rfl];simp only[yH];exact⟨_,_,rfl,hge,hcm,λh=>(by cases h),λ_=>⟨_,_,rfl⟩,v+1,5,ae,93,_,hH',ym _,λ_=>⟨rfl,.inr ⟨σ.w.heap.size,f,M,zV,by rw[w3,yar],λ_=>by simp⟩⟩⟩
end Go.Proofs.YtcbhhaigilifgaaGreat
end
section
namespace Go.Ev
inductive cY(H:List aq):Dv->Pl->Prop where
 |p (x:Pl):cY H (.p x) x
 |own (id:Nat) (nn:Option Bool) (s:Nat) (xs:List Pl):cY H (.own id nn s xs) (.sl nn s xs)
 |agg {ds:List Dv} {ys:List Pl} (hl:ds.length=ys.length) (h:∀(i:Nat)(d:Dv)(y:Pl),ds[i]? =ab d->ys[i]? =ab y->cY H d y):cY H (.agg ds) (.agg ys)
 |vG {id v s lo n N:Nat} {e:yc} {xs:List Pl} (hH:H[id]? =ab (.row v s af e (.p (.arr N s xs)))) (hle:lo+n<=N):cY H (.rv id v s lo n) (.sl ad s ((xs.drop lo).take n))
 |rva {id v s lo n N:Nat} {e:yc} {ds:List Dv} {ys:List Pl} (hH:H[id]? =ab (.row v s af e (.arr N s ds))) (hle:lo+n<=N) (hl:ds.length=ys.length)
   (h:∀(i:Nat)(d:Dv)(y:Pl),ds[i]? =ab d->ys[i]? =ab y->cY H d y):cY H (.rv id v s lo n) (.sl ad s ((ys.drop lo).take n))
 |vw {id s lo n N:Nat} {xs:List Pl} (hH:H[id]? =ab (.var (.p (.arr N s xs)) af)) (hle:lo+n<=N):cY H (.view id 0 [] s lo n) (.sl (ab ae) s ((xs.drop lo).take n))
 |wk {d:Dv} {x y:Pl} (h:cY H d x) (k:bJ x y):cY H d y
theorem CZ{σ:Sg}:∀{g:yL Dv}{ys:yL Pl}{us:yL yh},g.length=ys.length->(∀(i:Nat)(d:Dv)(y:Pl),g[i]? =ab d->ys[i]? =ab y->∀vs,yH σ d vs->aB σ.w σ.bf y vs)->aM σ g us->ar σ.w σ.bf ys us
 |[],[],us,_,_,h=>by simpa[aM,ar] using h
 |[],_::_,_,f,_,_=>by simp at f
 |_::_,[],_,f,_,_=>by simp at f
 |d::g,y::ys,us,f,j,h=>by
  simp only[aM]at h;obtain⟨a,b,l,m,z⟩:=h;simp only[ar];exact⟨a,b,l,j 0 d y rfl rfl a m,CZ (by simpa using f) (λi d y A E=>j (i+1) d y (by simpa using A) (by simpa using E)) z⟩
theorem Zx7{σ:Sg}(ok:Ok σ){id v s lo n N:Nat}{e:yc}{dd:Dv}{xs:yL Pl}{u:yh}(U:yJ σ (.rv id v s lo n) u)(hH:σ.H[id]? =ab (.row v s af e dd))(hN:aR dd s=ab N)(W:lo+n<=N)
 (hd:∀us,yH σ dd us->xs.length=N/\aW s xs/\ar σ.w σ.bf xs us):yJ σ (.p (.sl ad s ((xs.drop lo).take n))) u:=by
 obtain⟨A,c,rfl,h2,h3,h4,h5,v2,s2,st2,y,d2,h6,X,h8⟩:=ji U;rw[hH]at h6;cases h6;obtain⟨_,Y⟩:=h8 rfl;have l:id < σ.m.length:=by rw[ok.len];exact(yu.1 hH).1
 have f:σ.m[id]? =ab σ.m[id]:=yab l;obtain⟨N',E,F⟩:=ok.dF id _ _ hH f;rw[hN]at E;cases E;by_cases hn:n=0
 .subst hn;have:=Yy (σ:=σ) (nn:=ad) (s:=s) (xs:=[]) (A:=A) (c:=c) (λ_ U=>by cases U) (by simp) h3 (Ym _) h4 (λh=>absurd rfl h);simpa using this
 have hpos:0 < n:=Nat.pos_of_ne_zero hn;rcases Y with⟨_,_,T⟩|⟨b,G,I,k2,k3,k4⟩
 .omega
 rw[f]at I;rcases F with⟨J,_⟩|⟨b',cur',cap,J,M,g4,g5,g6,g7⟩
 .rw[J]at I;cases I
 rw[J]at I;cases I;rw[k2]at M;cases M;obtain⟨hxl,Q,X⟩:=hd _ g7
 have g:xs=xs.take lo++((xs.drop lo).take n++xs.drop (lo+n)):=by
  have Z:xs.drop (lo+n)=(xs.drop lo).drop n:=by rw[List.drop_drop]
  rw[Z,ybb,ybb]
 rw[g]at X;obtain⟨q1,q23,Z,r1,r23⟩:=Z8 X;obtain⟨q2,q3,rfl,r2,r3⟩:=Z8 r23;have R:aW s ((xs.drop lo).take n):=λz T=>Q z (ycq (ybs T));have ly:((xs.drop lo).take n).length=n:=by rw[yaa,yaz,yay (by omega)]
 have l1:q1.length=lo*s:=by rw[aL _ _ r1,aN (λz T=>Q z (ybs T)),yaa,yay (by omega)]
 have S:=Yy (σ:=σ) (nn:=ad) (A:=A) (c:=c) R (by rw[ly];exact h2) h3 (Ym _) h4 (λ_=>by
  refine⟨b,lo*s,q2,k4 (by omega),r2,λj u hu=>⟨?_,.inr (ok.own id b (by rw[f,J])),λj' e' g1 M=> ?_⟩⟩
  .rw[cell_of_row σ.w b _ G e (0,0) k2, <-yby];have hj:j < q2.length:=(yu.1 hu).1
   have y:(G.toList.take (N*s))[lo*s+j]? =ab u:=by
    rw[Z,yaq (by omega),l1,Nat.add_sub_cancel_left,ybe hj];exact hu
   rw[ycd]at y;split at y
   .exact y
   .cases y
  .have:j'=id:=ok.inj j' id b g1 (by rw[f,J]);subst this;rw[hH]at M;cases M;refine⟨rfl,N,hN, ?_⟩;have hj:=(yu.1 hu).1;have l2:q2.length=n*s:=by rw[aL _ _ r2,aN R,ly]
   have Y:(lo+n)*s<=N*s:=Nat.mul_le_mul_right _ W;rw[l2]at hj;rw[Nat.add_mul]at Y;omega)
 rw[ly]at S;exact S
theorem ZFf{σ:Sg}(ok:Ok σ){id s lo n N:Nat}{xs:yL Pl}{u:yh}(hx:yJ σ (.view id 0 [] s lo n) u)(hH:σ.H[id]? =ab (.var (.p (.arr N s xs)) af))(hle:lo+n<=N):yJ σ (.p (.sl (ab ae) s ((xs.drop lo).take n))) u:=by
 obtain⟨b,c,a,I,_,rfl,h2,h3,h4⟩:=nG hx;obtain⟨b',J,t',h5,h6,g,h8⟩:=ok.dF id _ _ hH I;cases h5;simp only[yH,aB]at g;obtain⟨hxl,l,g⟩:=g
 have f:xs=xs.take lo++((xs.drop lo).take n++xs.drop (lo+n)):=by
  have y:xs.drop (lo+n)=(xs.drop lo).drop n:=by rw[List.drop_drop]
  rw[y,ybb,ybb]
 rw[f]at g;obtain⟨W,q23,y,r1,M⟩:=Z8 g;obtain⟨Q,q3,rfl,r2,r3⟩:=Z8 M;have R:aW s ((xs.drop lo).take n):=λz S=>l z (ycq (ybs S));have T:((xs.drop lo).take n).length=n:=by rw[yaa,yaz,yay (by omega)]
 have l1:W.length=lo*s:=by rw[aL _ _ r1,aN (λz S=>l z (ybs S)),yaa,yay (by omega)]
 have E:=Yy (σ:=σ) (nn:=ab ae) (A:=ab a) (c:=c) R (by rw[T];exact h2) h3 (QT rfl) (λh=>by cases h) (λU=>by
  have F:0 < n:=by
   rcases Nat.eq_zero_or_pos n with h0|h0
   .exact absurd (ybj (T.trans h0)) U
   .exact h0
  refine⟨b,0+lo*s,Q,by rw[h4 F],r2,λj u X=>⟨?_,.inr (ok.own id b I),λY e' g1 Z=> ?_⟩⟩
  .rw[cell_of_row σ.w b _ J t' (0,0) h6, <-yby];have hj:j < Q.length:=(yu.1 X).1
   have e3:∀m,J.toList.take m=W++(Q++q3)->(J.toList.take m)[lo*s+j]? =ab u:=λm y=>by
    rw[y,yaq (by omega),l1,Nat.add_sub_cancel_left,ybe hj];exact X
   have G:=e3 _ y;rw[ycd]at G;rw[yar];split at G
   .exact G
   .cases G
  .have:Y=id:=ok.inj Y id b g1 I;subst this;rw[hH]at Z;cases Z;rfl)
 rw[T]at E;exact E
theorem DA{σ:Sg}(ok:Ok σ){d:Dv}{x:Pl}(h:cY σ.H d x):∀vs,yH σ d vs->aB σ.w σ.bf x vs:=by
 induction h with
 |p x=>intro vs f;simpa[yH] using f
 |own id Y s Z=>
  intro vs f;have j:∃v,vs=[v]:=by simp only[yH]at f;obtain⟨_,A,c,rfl,_⟩:=f;exact⟨_,rfl⟩
  obtain⟨v,rfl⟩:=j;have:=QW ((Zh (by rfl)).2 f);rw[Zh (by rfl)]at this
  simpa[yH] using this
 |agg m h l=>
  intro vs f;simp only[yH]at f;simp only[aB]
  exact CZ m l f
 |vG z g=>
  intro vs f;have j:∃v,vs=[v]:=by simp only[yH]at f;obtain⟨A,c,rfl,_⟩:=f;exact⟨_,rfl⟩
  obtain⟨v,rfl⟩:=j;have:=Zx7 ok ((Zh (by rfl)).2 f) z (by simp[aR]) g (λM h=>by simp only[yH,aB]at h;exact h);rw[Zh (by rfl)]at this
  simpa[yH] using this
 |rva z g m h l=>
  rename_i id v s lo n N e Q R;intro vs f;have j:∃v,vs=[v]:=by simp only[yH]at f;obtain⟨A,c,rfl,_⟩:=f;exact⟨_,rfl⟩
  obtain⟨v,rfl⟩:=j
  have:=Zx7 (xs:=R) ok ((Zh (by rfl)).2 f) z (by simp[aR]) g (λM h=>by
   simp only[yH]at h;obtain⟨S,T,G⟩:=h;refine⟨by rw[<-m];exact S, ?_,CZ m l G⟩;intro y U;obtain⟨i,I⟩:=List.getElem?_of_mem U;have E:i < Q.length:=by rw[m];exact(yu.1 I).1
   have F:=yab E;obtain⟨a,b,c,e1,l1,J,_⟩:=md G F;have W:=Wm _ _ (l i _ y F I b J);have X:=XC _ _ J;rw[<-W,X];exact T _ (List.mem_of_getElem? F))
  rw[Zh (by rfl)]at this
  simpa[yH] using this
 |vw z g=>
  intro vs f;have j:∃v,vs=[v]:=by simp only[yH]at f;obtain⟨b,c,a,_,_,rfl,_⟩:=f;exact⟨_,rfl⟩
  obtain⟨v,rfl⟩:=j;have:=ZFf ok ((Zh (by rfl)).2 f) z g;rw[Zh (by rfl)]at this
  simpa[yH] using this
 |wk h k l=>intro vs f;exact k.dq _ _ _ (l vs f)
theorem ZIi{σ:Sg}(ok:Ok σ){d:Dv}{x:Pl}(h:cY σ.H d x){v:yh}(j:yJ σ d v):yJ σ (.p x) v:=by
 have g:d.isAgg=x.isAgg:=by
  have f:∀{d:Dv}{x:Pl},cY σ.H d x->d.isAgg=x.isAgg:=by
   intro d x h
   induction h with
   |p x=>rfl
   |own=>rfl
   |agg=>rfl
   |vG=>rfl
   |rva=>rfl
   |vw=>rfl
   |wk h k l=>rw[<-k.agg];exact l
  exact f h
 obtain⟨m,y⟩:=j;refine⟨λq=> ?_,λq=> ?_⟩
 .obtain⟨z,A,E⟩:=m (by rw[g];exact q);exact⟨z,A,by simp only[yH];exact DA ok h _ E⟩
 .simp only[yH];exact DA ok h _ (y (by rw[g];exact q))
inductive gD(H:List aq):Dv->Dv->Prop where
 |refl (d:Dv):gD H d d
 |deep {d:Dv} {x:Pl} (h:cY H d x):gD H d (.p x)
inductive gE(H:List aq):List Dv->List Dv->Prop where
 |nil:gE H [] []
 |cons {d e:Dv} {ds es:List Dv} (h:gD H d e) (k:gE H ds es):gE H (d::ds) (e::es)
theorem Zx8{σ:Sg}(ok:Ok σ){d e:Dv}(h:gD σ.H d e){v:yh}(f:yJ σ d v):yJ σ e v:=by
 cases h with
 |refl=>exact f
 |deep h=>exact ZIi ok h f
theorem ZFg{σ:Sg}(ok:Ok σ){g es:yL Dv}(h:gE σ.H g es):∀{vs:yL yh},aH σ g vs->aH σ es vs:=by
 induction h with
 |nil=>intro vs h;exact h
 |cons h k l=>
  intro vs j;simp only[aH]at j ⊢;obtain⟨v,f,m,y,z⟩:=j;exact⟨v,f,m,Zx8 ok h y,l z⟩
inductive jK(H:List aq):Dv->Dv->Prop where
 |one {d e:Dv} (h:gD H d e):jK H d e
 |bp {ds es:List Dv} (h:gE H ds es):jK H (.bp ds) (.bp es)
theorem ZFh{P:yg}{g:yw}{args:yL Dv}{H H1 H':yL aq}{r r':Dv}(h:ce P g args H r H1)(hH:bZ H1 H')(j:jK H' r r'):ce P g args H r' H':=by
 intro σ vs m e y;refine Calls.mono (h σ vs m e y) ?_;rintro e S ⟨v,z,A,E,F,G,I,J⟩;subst F;obtain⟨to,f⟩:=ll I hH;have l:=Vo to.leaf J;refine⟨v,{ z with H:=H'},A,E,rfl,G.trans to,f, ?_⟩
 cases j with
 |one j=>exact Zx8 f j l
 |bp j=>
  rw[Zh rfl]at l ⊢;simp only[yH]at l ⊢;obtain⟨M,Q,R⟩:=l;exact⟨M,Q,ZFg f j R⟩
inductive Ty where
 |int (k:IntKind)
 |u8|u32|u64
 |bool
 |str
 |sl (t:Ty)
 |arr (n:Nat) (t:Ty)
 |st (fs:List Ty)
 deriving Inhabited
mutual
def Ty.aU:Ty->Type
 |.int _=>Int
 |.u8=>yB
 |.u32=>yV
 |.u64=>yU
 |.bool=>Bool
 |.str=>ByteArray
 |.sl t=>yL (Ty.aU t)
 |.arr _ t=>yL (Ty.aU t)
 |.st f=>Ty.aO f
def Ty.aO:yL Ty->Type
 |[]=>Unit
 |[t]=>Ty.aU t
 |t::u::r=>Ty.aU t×Ty.aO (u::r)
end
mutual
def Ty.size:Ty->Nat
 |.arr n t=>n*Ty.size t
 |.st f=>Ty.sizes f
 |_=>1
def Ty.sizes:yL Ty->Nat
 |[]=>0
 |t::r=>Ty.size t+Ty.sizes r
end
mutual
def Ty.dec:(a b:Ty)->Decidable (a=b)
 |.int k,.int l=>if h:k=l then isTrue (by rw[h]) else isFalse (by intro e;cases e;exact h rfl)
 |.u8,.u8=>isTrue rfl
 |.u32,.u32=>isTrue rfl
 |.u64,.u64=>isTrue rfl
 |.bool,.bool=>isTrue rfl
 |.str,.str=>isTrue rfl
 |.sl t,.sl u=>match Ty.dec t u with
  |isTrue h=>isTrue (by rw[h])
  |isFalse h=>isFalse (by intro e;cases e;exact h rfl)
 |.arr n t,.arr m u=>if k:n=m then match Ty.dec t u with
  |isTrue h=>isTrue (by rw[h,k])
  |isFalse h=>isFalse (by intro e;cases e;exact h rfl) else isFalse (by intro e;cases e;exact k rfl)
 |.st f,.st g=>match Ty.ry f g with
  |isTrue h=>isTrue (by rw[h])
  |isFalse h=>isFalse (by intro e;cases e;exact h rfl)
 |.int _,.u8=>isFalse nofun
 |.int _,.u32=>isFalse nofun
 |.int _,.u64=>isFalse nofun
 |.int _,.bool=>isFalse nofun
 |.int _,.str=>isFalse nofun
 |.int _,.sl _=>isFalse nofun
 |.int _,.arr _ _=>isFalse nofun
 |.int _,.st _=>isFalse nofun
 |.u8,.int _=>isFalse nofun
 |.u8,.u32=>isFalse nofun
 |.u8,.u64=>isFalse nofun
 |.u8,.bool=>isFalse nofun
 |.u8,.str=>isFalse nofun
 |.u8,.sl _=>isFalse nofun
 |.u8,.arr _ _=>isFalse nofun
 |.u8,.st _=>isFalse nofun
 |.u32,.int _=>isFalse nofun
 |.u32,.u8=>isFalse nofun
 |.u32,.u64=>isFalse nofun
 |.u32,.bool=>isFalse nofun
 |.u32,.str=>isFalse nofun
 |.u32,.sl _=>isFalse nofun
 |.u32,.arr _ _=>isFalse nofun
 |.u32,.st _=>isFalse nofun
 |.u64,.int _=>isFalse nofun
 |.u64,.u8=>isFalse nofun
 |.u64,.u32=>isFalse nofun
 |.u64,.bool=>isFalse nofun
 |.u64,.str=>isFalse nofun
 |.u64,.sl _=>isFalse nofun
 |.u64,.arr _ _=>isFalse nofun
 |.u64,.st _=>isFalse nofun
 |.bool,.int _=>isFalse nofun
 |.bool,.u8=>isFalse nofun
 |.bool,.u32=>isFalse nofun
 |.bool,.u64=>isFalse nofun
 |.bool,.str=>isFalse nofun
 |.bool,.sl _=>isFalse nofun
 |.bool,.arr _ _=>isFalse nofun
 |.bool,.st _=>isFalse nofun
 |.str,.int _=>isFalse nofun
 |.str,.u8=>isFalse nofun
 |.str,.u32=>isFalse nofun
 |.str,.u64=>isFalse nofun
 |.str,.bool=>isFalse nofun
 |.str,.sl _=>isFalse nofun
 |.str,.arr _ _=>isFalse nofun
 |.str,.st _=>isFalse nofun
 |.sl _,.int _=>isFalse nofun
 |.sl _,.u8=>isFalse nofun
 |.sl _,.u32=>isFalse nofun
 |.sl _,.u64=>isFalse nofun
 |.sl _,.bool=>isFalse nofun
 |.sl _,.str=>isFalse nofun
 |.sl _,.arr _ _=>isFalse nofun
 |.sl _,.st _=>isFalse nofun
 |.arr _ _,.int _=>isFalse nofun
 |.arr _ _,.u8=>isFalse nofun
 |.arr _ _,.u32=>isFalse nofun
 |.arr _ _,.u64=>isFalse nofun
 |.arr _ _,.bool=>isFalse nofun
 |.arr _ _,.str=>isFalse nofun
 |.arr _ _,.sl _=>isFalse nofun
 |.arr _ _,.st _=>isFalse nofun
 |.st _,.int _=>isFalse nofun
 |.st _,.u8=>isFalse nofun
 |.st _,.u32=>isFalse nofun
 |.st _,.u64=>isFalse nofun
 |.st _,.bool=>isFalse nofun
 |.st _,.str=>isFalse nofun
 |.st _,.sl _=>isFalse nofun
 |.st _,.arr _ _=>isFalse nofun
def Ty.ry:(a b:yL Ty)->Decidable (a=b)
 |[],[]=>isTrue rfl
 |t::r,u::q=>match Ty.dec t u,Ty.ry r q with
  |isTrue h,isTrue k=>isTrue (by rw[h,k])
  |isFalse h,_=>isFalse (by intro e;cases e;exact h rfl)
  |_,isFalse h=>isFalse (by intro e;cases e;exact h rfl)
 |[],_::_=>isFalse nofun
 |_::_,[]=>isFalse nofun
end
instance:DecidableEq Ty:=Ty.dec
def Ty.cast(t u:Ty)(x:t.aU):yO u.aU:=
 match Ty.dec t u with
 |isTrue h=>ab (h ▸ x)
 |isFalse _=>ad
def Ty.bw(t u:Ty)(x:yL t.aU):yO (yL u.aU):=
 match Ty.dec t u with
 |isTrue h=>ab (h ▸ x)
 |isFalse _=>ad
theorem VQ{t u:Ty}{x:t.aU}{y:u.aU}(h:Ty.cast t u x=ab y):∃e:t=u,y=e ▸ x:=by
 unfold Ty.cast at h;split at h
 all_goals grind
theorem ZI{t u:Ty}{x:yL t.aU}{y:yL u.aU}(h:Ty.bw t u x=ab y):∃e:t=u,y=e ▸ x:=by
 unfold Ty.bw at h;split at h
 all_goals grind
mutual
def Ty.enc:(t:Ty)->t.aU->Pl
 |.int k,n=>.int k n
 |.u8,b=>.int .u8 (b.toNat:Int)
 |.u32,b=>.int .u32 (b.toNat:Int)
 |.u64,b=>.int .u64 (b.toNat:Int)
 |.bool,b=>.bool b
 |.str,s=>.str s
 |.sl t,l=>.sl ad (Ty.size t) (List.map (Ty.enc t) l)
 |.arr n t,l=>.arr n (Ty.size t) (List.map (Ty.enc t) l)
 |.st f,x=>.agg (Ty.encs f x)
def Ty.encs:(f:yL Ty)->Ty.aO f->yL Pl
 |[],_=>[]
 |[t],x=>[Ty.enc t x]
 |t::u::r,x=>Ty.enc t x.1::Ty.encs (u::r) x.2
end
mutual
theorem pn:∀(t:Ty)(x:t.aU),(t.enc x).size=t.size
 |.int _,_=>rfl
 |.u8,_=>rfl
 |.u32,_=>rfl
 |.u64,_=>rfl
 |.bool,_=>rfl
 |.str,_=>rfl
 |.sl _,_=>rfl
 |.arr _ _,_=>rfl
 |.st f,x=>by rw[Ty.enc,Pl.size,Ty.size];exact fC f x
theorem fC:∀(f:yL Ty)(x:Ty.aO f),Pl.sizes (Ty.encs f x)=Ty.sizes f
 |[],_=>rfl
 |[t],x=>by simp only[Ty.encs,Pl.sizes,Ty.sizes];rw[pn t x]
 |t::u::r,x=>by rw[Ty.encs,Pl.sizes,Ty.sizes,pn t x.1,fC (u::r) x.2]
end
mutual
theorem vH:∀(t:Ty)(x:t.aU),(t.enc x).soft=t.enc x
 |.int _,_=>rfl
 |.u8,_=>rfl
 |.u32,_=>rfl
 |.u64,_=>rfl
 |.bool,_=>rfl
 |.str,_=>rfl
 |.sl _,_=>rfl
 |.arr n t,x=>by
  have f:∀l:yL t.aU,Pl.soft (.arr n t.size (l.map t.enc))=.arr n t.size (l.map t.enc):=by
   intro l;rw[Pl.soft,Pl.cK,List.map_map];congr 1;exact yci λy _=>vH t y
  exact f x
 |.st g,x=>by rw[Ty.enc,Pl.soft,fD g x]
theorem fD:∀(f:yL Ty)(x:Ty.aO f),Pl.cV (Ty.encs f x)=Ty.encs f x
 |[],_=>rfl
 |[t],x=>by simp only[Ty.encs,Pl.cV];rw[vH t x]
 |t::u::r,x=>by rw[Ty.encs,Pl.cV,vH t x.1,fD (u::r) x.2]
end
theorem Ze{α β:Type}{f:α->β}{o:yO α}{y:β}(h:o.map f=ab y):∃x,o=ab x/\f x=y:=yv.1 h
def Ty.nP:(f:yL Ty)->Ty.aO f->Nat->yO (Σ t:Ty,t.aU)
 |[],_,_=>ad
 |[t],x,0=>ab ⟨t,x⟩
 |[_],_,_+1=>ad
 |t::_::_,x,0=>ab ⟨t,x.1⟩
 |_::u::r,x,i+1=>Ty.nP (u::r) x.2 i
def Ty.upd:(f:yL Ty)->Ty.aO f->Nat->(t:Ty)->t.aU->yO (Ty.aO f)
 |[],_,_,_,_=>ad
 |[t],_,0,u,y=>Ty.cast u t y
 |[_],_,_+1,_,_=>ad
 |t::v::r,x,0,u,y=>(Ty.cast u t y).map λz=>(z,x.2)
 |_::v::r,x,i+1,u,y=>(Ty.upd (v::r) x.2 i u y).map λz=>(x.1,z)
theorem Zx9:∀(f:yL Ty)(x:Ty.aO f)(i:Nat)(q:Σ t:Ty,t.aU),Ty.nP f x i=ab q->(Ty.encs f x)[i]? =ab (q.1.enc q.2)
 |[],_,_,_,h=>by cases h
 |[t],x,0,q,h=>by cases h;rfl
 |[_],_,_+1,_,h=>by cases h
 |t::_::_,x,0,q,h=>by cases h;rfl
 |t::u::r,x,i+1,q,h=>by
  rw[Ty.encs,yak];exact Zx9 (u::r) x.2 i q h
theorem ZBQ:∀(f:yL Ty)(x:Ty.aO f)(i:Nat)(t:Ty)(y:t.aU)(z:Ty.aO f),Ty.upd f x i t y=ab z->Ty.encs f z=(Ty.encs f x).set i (t.enc y)
 |[],_,_,_,_,_,h=>by cases h
 |[t],x,0,u,y,z,h=>by
  obtain⟨e,rfl⟩:=VQ h;subst e
  rfl
 |[_],_,_+1,_,_,_,h=>by cases h
 |t::v::r,x,0,u,y,z,h=>by
  obtain⟨w,g,j⟩:=Ze (α:=t.aU) (β:=t.aU×Ty.aO (v::r)) h;subst j;obtain⟨e,rfl⟩:=VQ g;subst e
  rfl
 |t::v::r,x,i+1,u,y,z,h=>by
  obtain⟨w,g,j⟩:=Ze (α:=Ty.aO (v::r)) (β:=t.aU×Ty.aO (v::r)) h;subst j;show t.enc x.1::Ty.encs (v::r) w=(t.enc x.1::Ty.encs (v::r) x.2).set (i+1) (u.enc y);rw[List.set_cons_succ,ZBQ (v::r) x.2 i u y w g]
inductive TP where
 |v (t:Ty) (x:t.aU)
 |sl (nn:Option Bool) (t:Ty) (xs:List t.aU)
 |agg (xs:List TP)
 |arr (n s:Nat) (xs:List TP)
 |lw (nn:Option Bool) (s:Nat) (xs:List TP)
 |bX|fn0|eG|cC
 |gx (f:yw)
 |iface (t:yc) (x:TP)
instance:Inhabited TP:=⟨.bX⟩
mutual
def TP.pe:TP->Pl
 |.v t x=>t.enc x
 |.sl h t g=>.sl h t.size (g.map t.enc)
 |.agg g=>.agg (TP.cl g)
 |.arr n s g=>.arr n s (TP.cl g)
 |.lw h s g=>.sl h s (TP.cl g)
 |.bX=>.bX
 |.fn0=>.fn0
 |.eG=>.eG
 |.cC=>.cC
 |.gx f=>.gx f
 |.iface t x=>.iface t (TP.pe x)
def TP.cl:yL TP->yL Pl
 |[]=>[]
 |x::r=>x.pe::TP.cl r
end
theorem W0:∀(xs:yL TP),TP.cl xs=xs.map TP.pe
 |[]=>rfl
 |x::r=>by rw[TP.cl,W0 r];rfl
def Ty.fl:(f:yL Ty)->Ty.aO f->yL TP
 |[],_=>[]
 |[t],x=>[.v t x]
 |t::u::r,x=>.v t x.1::Ty.fl (u::r) x.2
theorem vI:∀(f:yL Ty)(x:Ty.aO f),TP.cl (Ty.fl f x)=Ty.encs f x
 |[],_=>rfl
 |[t],x=>rfl
 |t::u::r,x=>by
  show t.enc x.1::TP.cl (Ty.fl (u::r) x.2)=t.enc x.1::Ty.encs (u::r) x.2;rw[vI (u::r) x.2]
def TP.parts:TP->yO (yL TP)
 |.v (.st f) x=>ab (Ty.fl f x)
 |.agg l=>ab l
 |_=>ad
theorem DB{x:TP}{l:yL TP}(h:x.parts=ab l):x.pe=.agg (TP.cl l):=by
 cases x with
 |v t a=>
  cases t with
  |st f=>
   cases (show ab (Ty.fl f a)=ab l from h)
   exact congrArg Pl.agg (vI f a).symm
  |_=>cases h
 |agg g=>cases h;rfl
 |_=>cases h
def Wo:yL Nat->TP->TP
 |[],x=>match x with
  |.v (.sl t) _=>.sl (ab af) t []
  |x=>x
 |i::r,x=>match x.parts with
  |some l=>match l[i]? with
   |some z=>.agg (l.set i (Wo r z))
   |none=>x
  |none=>x
inductive cg where
 |gk (i o:Nat)
 |ix (i s:Nat)
def cg.i:cg->Nat
 |.gk i _=>i
 |.ix i _=>i
def cg.o:cg->Nat
 |.gk _ o=>o
 |.ix i s=>i*s
def Wp:yL cg->Nat
 |l=>l.foldl (λn q=>n+q.o) 0
inductive TD where
 |p (x:TP)
 |elem (x:TP)
 |aj (id:Nat) (yQ:List cg)
 |own (id:Nat) (nn:Option Bool) (t:Ty) (c:Option (List t.aU))
 |view (id:Nat) (yQ:List cg) (s lo n:Nat)
 |agg (xs:List TD)
 |arr (n s:Nat) (xs:List TD)
 |fn (f:yw) (cap:List TD)
 |iface (t:yc) (x:TD)
 |bp (xs:List TD)
 |mp (id:Nat)
 |rv (id v s lo n:Nat)
 |aZ (id v:Nat) (yQ:List cg)
 |rw(id:Nat)
 |rp (id:Nat) (yQ:List cg)
 |an
instance:Inhabited TD:=⟨.an⟩
abbrev Lk:=Nat->yO (Σ t:Ty,yL t.aU)
def Yh(L:Lk)(id:Nat)(t:Ty):yO (yL t.aU)->yL t.aU
 |some f=>f
 |none=>match L id with
  |some q=>(Ty.bw q.1 t q.2).getD []
  |none=>[]
abbrev _root_.aMW:Go.Ev.Ty:=.sl (.st [])
def eQ(L:Lk)(id k:Nat):Nat:=(((Yh L id aMW ad)[k]?).getD []).length
mutual
def TD.er(L:Lk):TD->Dv
 |.p x=>.p x.pe
 |.elem x=>.elem x.pe
 |.aj id g=>.aj id (Wp g) (g.map cg.i)
 |.own id l t c=>.own id l t.size ((Yh L id t c).map t.enc)
 |.view id g s lo n=>.view id (Wp g) (g.map cg.i) s lo n
 |.agg h=>.agg (TD.aG L h)
 |.arr n s h=>.arr n s (TD.aG L h)
 |.fn f j=>.fn f (TD.aG L j)
 |.iface t x=>.iface t (TD.er L x)
 |.bp h=>.bp (TD.aG L h)
 |.mp id=>.mp id
 |.rv id v s lo n=>.rv id v s lo n
 |.aZ id v g=>.aZ id v (Wp g) (g.map cg.i)
 |.rw id=>.rv id (eQ L id 0) (eQ L id 1) 0 (eQ L id 2)
 |.rp id g=>.aZ id (eQ L id 0) (Wp g) (g.map cg.i)
 |.an=>.an
def TD.aG(L:Lk):yL TD->yL Dv
 |[]=>[]
 |x::r=>x.er L::TD.aG L r
end
theorem ZO{L:Lk}:∀(xs:yL TD),TD.aG L xs=xs.map (TD.er L)
 |[]=>rfl
 |x::r=>by rw[TD.aG,ZO r];rfl
inductive ah where
 |var (d:TD) (st:Bool)
 |log (t:Ty) (e:yc) (xs:List t.aU)
 |map (tid:yc) (k v:Ty) (l:List (k.aU×v.aU))
 |row (v s:Nat) (st:Bool) (e:yc) (d:TD)
 |aY (t:Ty) (v:List Unit) (st:Bool) (e:yc) (xs:List t.aU)
 |aR (t:Ty) (np:List Nat) (v:List Unit) (st:Bool) (e:yc) (pre post:List t.aU)
 |bL (t:Ty) (np:List Nat) (v:List Unit) (st:Bool) (e:yc) (pre:List t.aU) (mid:TD) (post:List t.aU)
 |gone
instance:Inhabited ah:=⟨.gone⟩
def ah.er(L:Lk):ah->aq
 |.var d st=>.var (d.er L) st
 |.log t e h=>.log t.size e (h.map t.enc)
 |.map j k v l=>.map j (gj k.enc v.enc l)
 |.row v s st e d=>.row v s st e (d.er L)
 |.aY t v st e h=>.row v.length t.size st e (.p (.arr h.length t.size (h.map t.enc)))
 |.aR t m v st e g f=>.row v.length t.size st e (.p (.arr (g.length+f.length) t.size (g.map t.enc++f.map λx=>(Wo m (.v t x)).pe)))
 |.bL t m v st e g y f=>.row v.length t.size st e (.arr (g.length+(f.length+1)) t.size ((g.map λx=>.p (t.enc x))++y.er L::f.map λx=>.p (Wo m (.v t x)).pe))
 |.gone=>.gone
abbrev _root_.aMV:=yL Unit
def eR:yO ah->yO (Σ t:Ty,yL t.aU)
 |some (.log t _ h)=>ab ⟨t,h⟩
 |some (.aY t v _ _ h)=>ab ⟨.sl (.st []),([v,yx t.size (),yx h.length ()]:yL aMV)⟩
 |some (.aR t _ v _ _ g f)=>ab ⟨.sl (.st []),([v,yx t.size (),yx (g.length+f.length) ()]:yL aMV)⟩
 |some (.bL t _ v _ _ g _ f)=>ab ⟨.sl (.st []),([v,yx t.size (),yx (g.length+(f.length+1)) ()]:yL aMV)⟩
 |_=>ad
def lk(H:yL ah):Lk:=λid=>eR (H[id]?)
def aJ(H:yL ah):yL aq:=H.map (ah.er (lk H))
theorem Z9{H:yL ah}{i:Nat}{e:ah}(h:H[i]? =ab e):(aJ H)[i]? =ab (e.er (lk H)):=by rw[aJ,yao,h];rfl
theorem lx{L:Lk}{ts:yL TD}{i:Nat}{d:TD}(h:ts[i]? =ab d):(TD.aG L ts)[i]? =ab (d.er L):=by rw[ZO,yao,h];rfl
theorem Z2(H:yL ah):(aJ H).length=H.length:=yad ..
theorem ZBR{L:Lk}(H:yL TD):(TD.aG L H).length=H.length:=by rw[ZO];exact yad ..
def kH{α β:Type}:yO α->yO β->yO (α×β)
 |some a,ab b=>ab (a,b)
 |_,_=>ad
theorem po{α β:Type}{a:yO α}{b:yO β}{q:α×β}(h:kH a b=ab q):a=ab q.1/\b=ab q.2:=by
 cases a with
 |none=>cases h
 |some x=>cases b with
  |none=>cases h
  |some y=>cases h;exact⟨rfl,rfl⟩
def rz(nn:Bool)(t:Ty)(xs:yL t.aU):(u:Ty)->yO u.aU
 |.sl u=>if nn then Ty.bw t u xs else ad
 |_=>ad
def rC(f:(g:yL Ty)->yO (Ty.aO g)):(u:Ty)->yO u.aU
 |.st g=>f g
 |_=>ad
def vJ(n s:Nat)(f:(t:Ty)->yO (yL t.aU)):(u:Ty)->yO u.aU
 |.arr m t=>if n=m/\s=t.size then f t else ad
 |_=>ad
def vK:(f:yL Ty)->yO (Ty.aO f)
 |[]=>ab ()
 |_=>ad
def rD(f:(t:Ty)->yO t.aU)(h:Bool)(g:(j:yL Ty)->yO (Ty.aO j)):(j:yL Ty)->yO (Ty.aO j)
 |[]=>ad
 |[t]=>if h then f t else ad
 |t::u::q=>kH (f t) (g (u::q))
mutual
def TP.to(ok:yO Bool->Bool):TP->(t:Ty)->yO t.aU
 |.v t x=>λu=>Ty.cast t u x
 |.sl g t f=>rz (ok g) t f
 |.agg f=>rC (TP.jk ok f)
 |.arr n s f=>vJ n s (TP.lz ok f)
 |.lw _ _ _=>λ_=>ad
 |.bX=>λ_=>ad
 |.fn0=>λ_=>ad
 |.eG=>λ_=>ad
 |.cC=>λ_=>ad
 |.gx _=>λ_=>ad
 |.iface _ _=>λ_=>ad
def TP.jk(ok:yO Bool->Bool):yL TP->(f:yL Ty)->yO (Ty.aO f)
 |[]=>vK
 |x::r=>rD (TP.to ok x) r.isEmpty (TP.jk ok r)
def TP.lz(ok:yO Bool->Bool):yL TP->(t:Ty)->yO (yL t.aU)
 |[]=>λ_=>ab []
 |x::r=>λt=>(kH (TP.to ok x t) (TP.lz ok r t)).map λq=>q.1::q.2
end
def jL:yO Bool->Bool:=λ_=>ae
def gm:yO Bool->Bool:=Option.isNone
theorem DC(n:Nat)(t:Ty)(l:yL t.aU):(Ty.arr n t).enc l=.arr n t.size (l.map t.enc):=rfl
theorem ZuC{b:Bool}{nn:yO Bool}{t u:Ty}{xs:yL t.aU}{y:u.aU}(h:rz b t xs u=ab y):∃l:yL t.aU,b=ae/\u.enc y=.sl ad t.size (l.map t.enc)/\l=xs:=by
 cases u with
 |sl u=>
  have f:(if b then Ty.bw t u xs else ad)=ab y:=h
  split at f
  .rename_i g;obtain⟨e,j⟩:=ZI f;subst e;subst j;exact⟨y,g,rfl,rfl⟩
  .cases f
 |_=>cases h
theorem ZuD{f:(g:yL Ty)->yO (Ty.aO g)}{u:Ty}{y:u.aU}(h:rC f u=ab y):∃(g:yL Ty)(z:Ty.aO g),f g=ab z/\u.enc y=.agg (Ty.encs g z):=by
 cases u with
 |st g=>exact⟨g,y,h,rfl⟩
 |_=>cases h
theorem Zrt{n s:Nat}{f:(t:Ty)->yO (yL t.aU)}{u:Ty}{y:u.aU}(h:vJ n s f u=ab y):∃(t:Ty)(l:yL t.aU),f t=ab l/\u.enc y=.arr n s (l.map t.enc):=by
 cases u with
 |arr m t=>
  have g:(if n=m/\s=t.size then f t else ad)=ab y:=h
  split at g
  .rename_i e;obtain⟨rfl,rfl⟩:=e;exact⟨t,y,g,rfl⟩
  .cases g
 |_=>cases h
theorem Zru{f:yL Ty}{y:Ty.aO f}(h:vK f=ab y):Ty.encs f y=[]:=by
 cases f with
 |nil=>rfl
 |cons _ _=>cases h
theorem Zpj{f:(t:Ty)->yO t.aU}{b:Bool}{g:(j:yL Ty)->yO (Ty.aO j)}{j:yL Ty}{y:Ty.aO j}(h:rD f b g j=ab y):
 ∃(t:Ty)(x:t.aU)(l:yL Pl),f t=ab x/\Ty.encs j y=t.enc x::l/\((b=ae/\l=[])\/∃(gs:yL Ty)(z:Ty.aO gs),g gs=ab z/\l=Ty.encs gs z):=by
 match j,y,h with
 |[],_,h=>cases h
 |[t],y,h=>
  have m:(if b then f t else ad)=ab y:=h
  split at m
  .rename_i A;exact⟨t,y,[],m,rfl,.inl ⟨A,rfl⟩⟩
  .cases m
 |t::u::q,y,h=>
  obtain⟨E,F⟩:=po (α:=t.aU) (β:=Ty.aO (u::q)) h;exact⟨t,y.1,_,E,rfl,.inr ⟨u::q,y.2,F,rfl⟩⟩
mutual
theorem nQ{ok:yO Bool->Bool}:∀(x:TP)(t:Ty)(y:t.aU),TP.to ok x t=ab y->x.pe.soft=t.enc y
 |.v t x,u,y,h=>by
  obtain⟨e,rfl⟩:=VQ (show Ty.cast t u x=ab y from h)
  subst e
  exact vH t x
 |.sl m t f,u,y,h=>by
  obtain⟨l,_,g,A⟩:=ZuC (nn:=m) (show rz (ok m) t f u=ab y from h)
  rw[g,A]
  rfl
 |.agg f,u,y,h=>by
  obtain⟨E,z,j,g⟩:=ZuD (show rC (TP.jk ok f) u=ab y from h)
  rw[g];show Pl.agg (Pl.cV (TP.cl f))=_
  rw[gF f E z j]
 |.arr n s f,u,y,h=>by
  obtain⟨t,l,j,g⟩:=Zrt (show vJ n s (TP.lz ok f) u=ab y from h)
  rw[g];show Pl.arr n s (Pl.cV (TP.cl f))=_
  rw[gG f t l j]
 |.lw _ _ _,_,_,h=>nomatch (show ad=ab _ from h)
 |.bX,_,_,h=>nomatch (show ad=ab _ from h)
 |.fn0,_,_,h=>nomatch (show ad=ab _ from h)
 |.eG,_,_,h=>nomatch (show ad=ab _ from h)
 |.cC,_,_,h=>nomatch (show ad=ab _ from h)
 |.gx _,_,_,h=>nomatch (show ad=ab _ from h)
 |.iface _ _,_,_,h=>nomatch (show ad=ab _ from h)
theorem gF{ok:yO Bool->Bool}:∀(xs:yL TP)(f:yL Ty)(y:Ty.aO f),TP.jk ok xs f=ab y->Pl.cV (TP.cl xs)=Ty.encs f y
 |[],f,y,h=>(Zru (show vK f=ab y from h)).symm
 |x::r,f,y,h=>by
  obtain⟨t,a,l,j,m,A⟩:=Zpj (show rD (TP.to ok x) r.isEmpty (TP.jk ok r) f=ab y from h)
  rw[m];show x.pe.soft::Pl.cV (TP.cl r)=_;rw[nQ x t a j];rcases A with⟨g,rfl⟩|⟨E,z,g,rfl⟩
  .cases r with
   |nil=>rfl
   |cons _ _=>cases g
  .rw[gF r E z g]
theorem gG{ok:yO Bool->Bool}:∀(xs:yL TP)(t:Ty)(y:yL t.aU),TP.lz ok xs t=ab y->Pl.cV (TP.cl xs)=y.map t.enc
 |[],_,y,h=>by
  cases (show ab []=ab y from h)
  rfl
 |x::r,t,y,h=>by
  obtain⟨q,f,rfl⟩:=Ze (show(kH (TP.to ok x t) (TP.lz ok r t)).map (λq=>q.1::q.2)=ab y from h)
  obtain⟨g,j⟩:=po f;show x.pe.soft::Pl.cV (TP.cl r)=_;rw[nQ x t q.1 g,gG r t q.2 j,yah]
end
theorem rE{ok:yO Bool->Bool}{x:TP}{t:Ty}{y:t.aU}(h:TP.to ok x t=ab y):bJ x.pe (t.enc y):=nQ x t y h ▸ mf x.pe
mutual
theorem vL:∀(x:TP)(t:Ty)(y:t.aU),TP.to gm x t=ab y->x.pe=t.enc y
 |.v t x,u,y,h=>by
  obtain⟨e,rfl⟩:=VQ (show Ty.cast t u x=ab y from h)
  subst e
  rfl
 |.sl m t f,u,y,h=>by
  obtain⟨l,g,j,A⟩:=ZuC (nn:=m) (show rz (gm m) t f u=ab y from h)
  rw[j,A]
  cases m with
  |none=>rfl
  |some _=>cases g
 |.agg f,u,y,h=>by
  obtain⟨E,z,g,j⟩:=ZuD (show rC (TP.jk gm f) u=ab y from h)
  rw[j];show Pl.agg (TP.cl f)=_
  rw[dP f E z g]
 |.arr n s f,u,y,h=>by
  obtain⟨t,l,g,j⟩:=Zrt (show vJ n s (TP.lz gm f) u=ab y from h)
  rw[j];show Pl.arr n s (TP.cl f)=_
  rw[eS f t l g]
 |.lw _ _ _,_,_,h=>nomatch (show ad=ab _ from h)
 |.bX,_,_,h=>nomatch (show ad=ab _ from h)
 |.fn0,_,_,h=>nomatch (show ad=ab _ from h)
 |.eG,_,_,h=>nomatch (show ad=ab _ from h)
 |.cC,_,_,h=>nomatch (show ad=ab _ from h)
 |.gx _,_,_,h=>nomatch (show ad=ab _ from h)
 |.iface _ _,_,_,h=>nomatch (show ad=ab _ from h)
theorem dP:∀(xs:yL TP)(f:yL Ty)(y:Ty.aO f),TP.jk gm xs f=ab y->TP.cl xs=Ty.encs f y
 |[],f,y,h=>(Zru (show vK f=ab y from h)).symm
 |x::r,f,y,h=>by
  obtain⟨t,a,l,j,m,A⟩:=Zpj (show rD (TP.to gm x) r.isEmpty (TP.jk gm r) f=ab y from h)
  rw[m];show x.pe::TP.cl r=_;rw[vL x t a j];rcases A with⟨g,rfl⟩|⟨E,z,g,rfl⟩
  .cases r with
   |nil=>rfl
   |cons _ _=>cases g
  .rw[dP r E z g]
theorem eS:∀(xs:yL TP)(t:Ty)(y:yL t.aU),TP.lz gm xs t=ab y->TP.cl xs=y.map t.enc
 |[],_,y,h=>by
  cases (show ab []=ab y from h)
  rfl
 |x::r,t,y,h=>by
  obtain⟨q,f,rfl⟩:=Ze (show(kH (TP.to gm x t) (TP.lz gm r t)).map (λq=>q.1::q.2)=ab y from h)
  obtain⟨g,j⟩:=po f;show x.pe::TP.cl r=_;rw[vL x t q.1 g,eS r t q.2 j,yah]
end
mutual
def gH(P:yg):Nat->yc->yO Ty
 |0,_=>ad
 |n+1,t=>match P.underlying t with
  |some (.int .u8)=>ab .u8
  |some (.int .u32)=>ab .u32
  |some (.int .u64)=>ab .u64
  |some (.int k)=>ab (.int k)
  |some .bool=>ab .bool
  |some .string=>ab .str
  |some (.slice e)=>(gH P n e).map .sl
  |some (.array m e)=>(gH P n e).map (.arr m)
  |some (.struct f)=>(my P n (f.toList.map (·.type))).map .st
  |_=>ad
def my(P:yg):Nat->yL yc->yO (yL Ty)
 |0,_=>ad
 |_+1,[]=>ab []
 |n+1,t::r=>match gH P n t,my P n r with
  |some a,ab b=>ab (a::b)
  |_,_=>ad
end
def DD(k:IntKind)(z:Int):TP:=
 match k with
 |.u8=>.v .u8 (yap z.toNat)
 |.u32=>.v .u32 (ych z.toNat)
 |.u64=>.v .u64 (yan z.toNat)
 |k=>.v (.int k) z
def nS(k:IntKind)(z:Int):Bool:=
 match k with
 |.u8=>ag (0<=z)&&ag (z < 256)
 |.u32=>ag (0<=z)&&ag (z < 4294967296)
 |.u64=>ag (0<=z)&&ag (z < 18446744073709551616)
 |_=>ae
theorem ZIj{k:IntKind}{z:Int}(h:nS k z=ae):(DD k z).pe=.int k z:=by
 cases k <;> simp only[nS,yi,yP]at h <;> simp only[DD,TP.pe,Ty.enc]
 .simp only[Pl.int.injEq,true_and,UInt8.toNat_ofNat'];omega
 .simp only[Pl.int.injEq,true_and,ycv];omega
 .simp only[Pl.int.injEq,true_and,ybi];omega
abbrev wi(z:Int):Int:=IntKind.i64.wrap z
def w8(z:Int):yB:=yap (z % 256).toNat
def w32(z:Int):yV:=ych (z % 4294967296).toNat
def dy(z:Int):yU:=yan (z % 18446744073709551616).toNat
def vM(k:IntKind)(z:Int):TP:=
 match k with
 |.u8=>.v .u8 (w8 z)
 |.u32=>.v .u32 (w32 z)
 |.u64=>.v .u64 (dy z)
 |k=>.v (.int k) (k.wrap z)
theorem ZKF(z:Int):((w8 z).toNat:Int)=IntKind.u8.wrap z:=by
 simp only[w8,IntKind.wrap,IntKind.signed,IntKind.bits,UInt8.toNat_ofNat'];simp;omega
theorem ZIl(z:Int):((w32 z).toNat:Int)=IntKind.u32.wrap z:=by
 simp only[w32,IntKind.wrap,IntKind.signed,IntKind.bits,ycv];simp;omega
theorem ZIm(z:Int):((dy z).toNat:Int)=IntKind.u64.wrap z:=by
 simp only[dy,IntKind.wrap,IntKind.signed,IntKind.bits,ybi];simp;omega
theorem ZBU(k:IntKind)(z:Int):(vM k z).pe=.int k (k.wrap z):=by
 cases k <;> simp only[vM,TP.pe,Ty.enc,ZKF,ZIl,ZIm]
def DE:IntKind->Bool
 |.u8=>af
 |.u32=>af
 |.u64=>af
 |_=>ae
def jl:TP->yO (IntKind×Int)
 |.v (.int k) n=>if DE k then ab (k,n) else ad
 |.v .u8 b=>ab (.u8,(b.toNat:Int))
 |.v .u32 b=>ab (.u32,(b.toNat:Int))
 |.v .u64 b=>ab (.u64,(b.toNat:Int))
 |_=>ad
theorem pp{x:TP}{q:IntKind×Int}(h:jl x=ab q):x.pe=.int q.1 q.2/\nS q.1 q.2=ae:=by
 unfold jl at h;split at h
 .rename_i k n;split at h
  .rename_i f;cases h;refine⟨rfl, ?_⟩;cases k <;> first|rfl|cases f
  .cases h
 .rename_i b;cases h;exact⟨rfl,by simp only[nS,yi,yP];have:=b.toNat_lt;omega⟩
 .rename_i b;cases h;exact⟨rfl,by simp only[nS,yi,yP];have:=b.toNat_lt;omega⟩
 .rename_i b;cases h;exact⟨rfl,by simp only[nS,yi,yP];have:=b.toNat_lt;omega⟩
 .cases h
def iu:Nat:=40
def vN(P:yg)(t:yc)(l:yL TP):TP:=
 match gH P iu t with
 |some (.st f)=>match TP.jk gm l f with
  |some x=>.v (.st f) x
  |none=>.agg l
 |_=>.agg l
theorem ZBV{P:yg}(t:yc)(l:yL TP):(vN P t l).pe=.agg (TP.cl l):=by
 unfold vN;split
 .rename_i f _;split
  .rename_i x h;show Pl.agg (Ty.encs f x)=_;rw[dP l f x h]
  .rfl
 .rfl
def vO(P:yg)(t:yc)(n s:Nat)(l:yL TP):TP:=
 match gH P iu t with
 |some (.arr _ u)=>if s=u.size then match TP.lz gm l u with
  |some x=>.v (.arr n u) x
  |none=>.arr n s l else .arr n s l
 |_=>.arr n s l
theorem ZBW{P:yg}(t:yc)(n s:Nat)(l:yL TP):(vO P t n s l).pe=.arr n s (TP.cl l):=by
 unfold vO;split
 .rename_i u _;split
  .rename_i e;split
   .rename_i x h;show Pl.arr n u.size (List.map u.enc x)=_;rw[eS l u x h,e]
   .rfl
  .rfl
 .rfl
def rF(f:yc->Pl->yO TP):yL yc->yL Pl->yO (yL TP)
 |[],[]=>ab []
 |t::r,x::q=>match f t x,rF f r q with
  |some a,ab b=>ab (a::b)
  |_,_=>ad
 |_,_=>ad
def rG(P:yg):Nat->yc->Pl->yO TP
 |0,_,_=>ad
 |n+1,t,x=>match x with
  |.int k z=>if nS k z then ab (DD k z) else ad
  |.bool b=>ab (.v .bool b)
  |.str b=>ab (.v .str b)
  |.bX=>ab .bX
  |.fn0=>ab .fn0
  |.eG=>ab .eG
  |.cC=>ab .cC
  |.sl g s []=>match P.underlying t with
   |some (.slice e)=>(gH P iu e).bind λT=>if s=T.size then ab (.sl g T []) else ad
   |_=>ad
  |.agg f=>match P.underlying t with
   |some (.struct h)=>(rF (rG P n) (h.toList.map (·.type)) f).map (vN P t)
   |_=>ad
  |.arr m s f=>match P.underlying t with
   |some (.array _ e)=>(rF (rG P n) (yx f.length e) f).map (vO P t m s)
   |_=>ad
  |_=>ad
theorem DF{f:yc->Pl->yO TP}(h:∀t x y,f t x=ab y->y.pe=x):∀(l:yL yc)(xs:yL Pl)(r:yL TP),rF f l xs=ab r->TP.cl r=xs
 |[],[],r,k=>by cases k;rfl
 |[],_::_,r,k=>by cases k
 |_::_,[],r,k=>by cases k
 |t::l,x::xs,r,k=>by
  simp only[rF]at k;split at k
  .rename_i a b g j;cases k;rw[TP.cl,h t x a g,DF h l xs b j]
  .cases k
theorem DG{P:yg}:∀(n:Nat)(t:yc)(x:Pl)(y:TP),rG P n t x=ab y->y.pe=x
 |0,_,_,_,h=>by cases h
 |n+1,t,x,y,h=>by
  unfold rG at h;split at h
  .split at h
   .rename_i j;cases h;exact ZIj j
   .cases h
  .cases h;rfl
  .cases h;rfl
  .cases h;rfl
  .cases h;rfl
  .cases h;rfl
  .cases h;rfl
  .split at h
   .obtain⟨T,f,g⟩:=yf.1 h;split at g
    .rename_i e;cases g;rw[TP.pe,e];rfl
    .cases g
   .cases h
  .split at h
   .obtain⟨l,f,rfl⟩:=Ze h;rw[ZBV,DF (DG n) _ _ _ f]
   .cases h
  .split at h
   .obtain⟨l,f,rfl⟩:=Ze h;rw[ZBW,DF (DG n) _ _ _ f]
   .cases h
  .cases h
def vP(P:yg)(t:yc)(x:Pl):yO TP:=rG P 30 t x
def DH(P:yg)(t:yc)(v:yh):yO TD:=
 match oS P t v with
 |.p x=>(vP P t x).map .p
 |.fn f []=>ab (.fn f [])
 |_=>ad
def bq(P:yg)(ts:yL TD)(t:yc):yp->yO TD
 |.tmp i=>ab (ts.getD i .an)
 |.const v=>DH P t v
 |.global _=>ad
 |.func f=>if f < big then ab (.fn f []) else ad
theorem DI{P:yg}{t:yc}{x:Pl}{y:TP}(h:vP P t x=ab y):y.pe=x:=DG _ _ _ _ h
theorem vQ{L:Lk}(ts:yL TD)(i:Nat):(TD.aG L ts).getD i .an=(ts.getD i .an).er L:=by
 rw[ZO];simp only[List.getD_eq_getElem?_getD,yao];cases ts[i]? <;> rfl
theorem Zu{L:Lk}{P:yg}{ts:yL TD}{t:yc}{x:yp}{d:TD}(h:bq P ts t x=ab d):aF P (TD.aG L ts) t x=d.er L:=by
 cases x with
 |tmp i=>cases h;exact vQ ts i
 |const v=>
  have g:DH P t v=ab d:=h;show oS P t v=d.er L;unfold DH at g;split at g
  .rename_i x l;obtain⟨y,m,rfl⟩:=Ze g;rw[l,TD.er,DI m]
  .rename_i f j;cases g;rw[j];rfl
  .cases g
 |global _=>cases h
 |func f=>
  have g:(if f < big then ab (TD.fn f []) else ad)=ab d:=h
  by_cases j:f < big
  .rw[yW j]at g;cases g;show(if f < big then Dv.fn f [] else .an)=_
   rw[yW j];rfl
  .rw[yX j]at g;cases g
structure HI where
 own:List Tmp:=[]
 still:List Tmp:=[]
 row:List Tmp:=[]
 cO:List Tmp:=[]
 deep:List yc:=[]
 eqs:Bool:=af
 eD:List Tmp:=[]
 cq:List (Tmp×List (List Nat×Ty×yc)):=[]
 gR:List (Tmp×List (List Nat×Ty×yc)):=[]
 lits:List Tmp:=[]
 rew:List (Tmp×Tmp):=[]
 mkn:List Tmp:=[]
 deriving Inhabited
def dB(L:Lk)(P:yg)(o:yj)(ts:yL TD)(d:TD)(hs:yL ao):Prop:=
 ∃C,aX C/\∀f,bj P o (TD.aG L ts) (hs++f)=ab (C,d.er L,f)
def idx{α:Type}(l:yL α)(i:Int):yO α:=if 0<=i then l[i.toNat]? else ad
def ZNA(m n:Int):Int:=if n > m then n else m
def vR(m n:Int):Int:=if n < m then n else m
def bi(i:Int)(n:Nat):Bool:=ag (0<=i)&&ag (i < (n:Int))
def dX(len:Nat):yO Int->yO Int->Bool
 |none,ad=>ae
 |none,ab h=>ag (0<=h)&&ag (h<=(len:Int))
 |some l,ad=>ag (0<=l)&&ag (l<=(len:Int))
 |some l,ab h=>ag (0<=l)&&(ag (l<=h)&&ag (h<=(len:Int)))
def nT(n b:Nat):Bool:=ag (n*b<=Zt)&&ag (n<=maxLen)
theorem rH{α:Type}{l:yL α}{i:Int}{y:α}(h:idx l i=ab y):0<=i/\l[i.toNat]? =ab y:=by
 unfold idx at h
 all_goals grind
theorem V4{i:Int}{n:Nat}(h:bi i n=ae):0<=i/\i < (n:Int):=by simpa[bi] using h
theorem mz{len:Nat}{l h:yO Int}(k:dX len l h=ae):aX (YQ len l h):=by
 cases l <;> cases h <;> simp only[dX,yi,yP]at k <;> simp only[YQ,aX,and_true]
 all_goals grind
theorem mA{n b:Nat}(h:nT n b=ae):n*b<=Zt/\n<=maxLen:=by simpa[nT] using h
theorem Za{α:Type}{b:Bool}{k:yO α}{r:α}(h:(if b=ae then k else ad)=ab r):b=ae/\k=ab r:=by
 all_goals grind
theorem vS{α β:Type}(f:α->β)(l:yL α)(a b:yO Int):(Vp l a b).map f=Vp (l.map f) a b:=by
 cases a <;> cases b <;> simp[Vp]
def TP.gk:TP->Nat->yO TP
 |.v (.st f) x,i=>(Ty.nP f x i).map λq=>.v q.1 q.2
 |.agg l,i=>l[i]?
 |_,_=>ad
theorem ZFl{x y:TP}{i:Nat}(h:x.gk i=ab y):∃xs,x.pe=.agg xs/\xs[i]? =ab y.pe:=by
 unfold TP.gk at h;split at h
 .obtain⟨q,f,rfl⟩:=Ze h;exact⟨_,rfl,Zx9 _ _ _ q f⟩
 .exact⟨_,rfl,by rw[W0,yao,h];rfl⟩
 .cases h
structure Row where
 nn:Option Bool
 t:Ty
 l:List t.aU
def TP.row:TP->yO Row
 |.v (.sl t) l=>ab ⟨ad,t,l⟩
 |.sl f t l=>ab ⟨f,t,l⟩
 |_=>ad
theorem ZKH{x:TP}{r:Row}(h:x.row=ab r):x.pe=.sl r.nn r.t.size (r.l.map r.t.enc):=by
 unfold TP.row at h;split at h
 .cases h;rfl
 .cases h;rfl
 .cases h
structure nU where
 n:Nat
 t:Ty
 l:List t.aU
def TP.dS:TP->yO nU
 |.v (.arr n t) l=>ab ⟨n,t,l⟩
 |_=>ad
theorem jm{x:TP}{r:nU}(h:x.dS=ab r):x.pe=.arr r.n r.t.size (r.l.map r.t.enc):=by
 unfold TP.dS at h;split at h
 .cases h;rfl
 .cases h
def Ty.isAgg:Ty->Bool
 |.arr _ _=>ae
 |.st _=>ae
 |_=>af
theorem vT(t:Ty)(x:t.aU):(t.enc x).isAgg=t.isAgg:=by cases t <;> rfl
def TD.row(L:Lk):TD->yO Row
 |.p x=>x.row
 |.own id f t c=>ab ⟨f,t,Yh L id t c⟩
 |_=>ad
theorem mB{L:Lk}{x:TD}{r:Row}(h:x.row L=ab r):x.er L=.p (.sl r.nn r.t.size (r.l.map r.t.enc))\/∃id,x.er L=.own id r.nn r.t.size (r.l.map r.t.enc):=by
 unfold TD.row at h;split at h
 .exact .inl (by rw[TD.er,ZKH h])
 .cases h;exact .inr ⟨_,rfl⟩
 .cases h
def TD.plain(L:Lk):TD->yO TP
 |.p x=>ab x
 |.own id f t c=>ab (.sl f t (Yh L id t c))
 |_=>ad
theorem ZuE{L:Lk}{x:TD}{y:TP}(h:x.plain L=ab y):(x.er L).plain=ab y.pe:=by
 unfold TD.plain at h;split at h
 .cases h;rfl
 .cases h;rfl
 .cases h
mutual
def TD.flat(L:Lk):TD->yO TP
 |.p x=>ab x
 |.own id f t c=>ab (.sl f t (Yh L id t c))
 |.agg g=>(TD.aS L g).map .agg
 |_=>ad
def TD.aS(L:Lk):yL TD->yO (yL TP)
 |[]=>ab []
 |d::r=>match d.flat L,TD.aS L r with
  |some x,ab f=>ab (x::f)
  |_,_=>ad
end
mutual
theorem rI{L:Lk}:∀(d:TD),(d.er L).flat=(d.flat L).map TP.pe
 |.p x=>by rw[TD.er,Dv.flat,TD.flat];rfl
 |.own id g t c=>by rw[TD.er,Dv.flat,TD.flat];rfl
 |.agg f=>by
  rw[TD.er,Dv.flat,TD.flat,fE f]
  cases TD.aS L f <;> rfl
 |.elem _=>rfl
 |.aj _ _=>rfl
 |.view _ _ _ _ _=>rfl
 |.arr _ _ _=>rfl
 |.fn _ _=>rfl
 |.iface _ _=>rfl
 |.bp _=>rfl
 |.mp _=>rfl
 |.rv _ _ _ _ _=>rfl
 |.aZ _ _ _=>rfl
 |.rw _=>rfl
 |.rp _ _=>rfl
 |.an=>rfl
theorem fE{L:Lk}:∀(f:yL TD),Dv.aS (TD.aG L f)=(TD.aS L f).map TP.cl
 |[]=>rfl
 |d::r=>by
  rw[TD.aG,Dv.aS,TD.aS,rI d,fE r];cases d.flat L <;> cases TD.aS L r <;> rfl
end
theorem DJ{L:Lk}{x:TD}{y:TP}(h:x.flat L=ab y):(x.er L).flat=ab y.pe:=by rw[rI,h];rfl
mutual
def TD.owns(ids:yL Nat):TD->Bool
 |.own id _ _ _=>ids.contains id
 |.agg f=>TD.dI ids f
 |_=>af
def TD.dI(ids:yL Nat):yL TD->Bool
 |[]=>af
 |d::r=>d.owns ids || TD.dI ids r
end
mutual
theorem ZIq{L:Lk}{ids:yL Nat}:∀(d:TD),(d.er L).owns ids=d.owns ids
 |.p x=>rfl
 |.own id g t c=>rfl
 |.agg f=>by rw[TD.er,Dv.owns,TD.owns,fF f]
 |.elem _=>rfl
 |.aj _ _=>rfl
 |.view _ _ _ _ _=>rfl
 |.arr _ _ _=>rfl
 |.fn _ _=>rfl
 |.iface _ _=>rfl
 |.bp _=>rfl
 |.mp _=>rfl
 |.rv _ _ _ _ _=>rfl
 |.aZ _ _ _=>rfl
 |.rw _=>rfl
 |.rp _ _=>rfl
 |.an=>rfl
theorem fF{L:Lk}{ids:yL Nat}:∀(f:yL TD),Dv.dI ids (TD.aG L f)=TD.dI ids f
 |[]=>rfl
 |d::r=>by rw[TD.aG,Dv.dI,TD.dI,ZIq d,fF r]
end
def TD.dJ(L:Lk)(f:yL TD):TD:=
 match TD.aS L f with
 |some g=>.p (.agg g)
 |none=>.agg f
theorem ZBX{L:Lk}(f:yL TD):(TD.dJ L f).er L=Dv.dJ (TD.aG L f):=by
 unfold TD.dJ Dv.dJ;rw[fE];cases TD.aS L f <;> rfl
section
variable{L:Lk}{P:yg}{o:yj}{ts:yL TD}{O:Type}
def okB(P:yg)(e:yc)(s:Nat):Bool:=ag (P.cellsOf e=s)&&(P.info? e).isSome
def DK(L:Lk)(P:yg)(t:yc)(i:Nat)(K:TD->yL ao->yO O):TD->yO O
 |.p x=>(x.gk i).bind λz=>if(je P t (.p x.pe) i).isSome then K (.p z) [] else ad
 |.agg f=>(f[i]?).bind λz=>if(je P t (.agg (TD.aG L f)) i).isSome then K z [] else ad
 |_=>ad
theorem Zpk{t:yc}{i:Nat}{K:TD->yL ao->yO O}{x:TD}{out:O}(h:DK L P t i K x=ab out):∃d,K d []=ab out/\je P t (x.er L) i=ab (d.er L):=by
 unfold DK at h;split at h
 .rename_i x;obtain⟨z,g,j⟩:=yf.1 h;obtain⟨l,m⟩:=Za j;refine⟨_,m, ?_⟩;obtain⟨F,A,y⟩:=ZFl g;rw[TD.er];obtain⟨d,f⟩:=Option.isSome_iff_exists.1 l;rw[f];unfold je at f;rw[A]at f;split at f
  .rename_i E;cases E;rw[y]at f;dsimp only at f;split at f
   .cases f;rfl
   .cases f
  all_goals grind
 .rename_i G;obtain⟨z,g,j⟩:=yf.1 h;obtain⟨l,m⟩:=Za j;refine⟨_,m, ?_⟩;have y:=lx (L:=L) g;rw[TD.er];obtain⟨d,f⟩:=Option.isSome_iff_exists.1 l;rw[f];unfold je at f
  all_goals grind
 .cases h
theorem nV(l:yL cg)(q:cg):Wp (l++[q])=Wp l+q.o:=by simp[Wp]
def DL(P:yg)(t:yc)(i:Nat)(K:TD->yL ao->yO O):TD->yO O
 |.aj id g=>match P.underlying t with
  |some (.struct h)=>match h[i]? with
   |some f=>if P.cellsOf f.type !=0&&(P.info? f.type).isSome then K (.aj id (g++[.gk i f.offset])) [] else ad
   |none=>ad
  |_=>ad
 |.aZ id v g=>match P.underlying t with
  |some (.struct h)=>match h[i]? with
   |some f=>if P.cellsOf f.type !=0&&(P.info? f.type).isSome then K (.aZ id v (g++[.gk i f.offset])) [] else ad
   |none=>ad
  |_=>ad
 |.rp id g=>match P.underlying t with
  |some (.struct h)=>match h[i]? with
   |some f=>if P.cellsOf f.type !=0&&(P.info? f.type).isSome then K (.rp id (g++[.gk i f.offset])) [] else ad
   |none=>ad
  |_=>ad
 |.elem x=>(x.gk i).bind λz=>if(je P t (.p x.pe) i).isSome then K (.elem z) [] else ad
 |_=>ad
theorem Zp8{t:yc}{i:Nat}{x:yp}{K:TD->yL ao->yO O}{F:TD}{out:O}(ho:o.op=.fieldAddr t x i)(J:bq P ts 0 x=ab F)(h:DL P t i K F=ab out):∃d hs,K d hs=ab out/\dB L P o ts d hs:=by
 have A:=Zu (L:=L) J;unfold DL at h;split at h
 .rename_i id G;split at h
  .rename_i m g;split at h
   .rename_i f y;obtain⟨j,l⟩:=Za h;refine⟨_,_,l,[],zP,λE=> ?_⟩;simp only[yz];unfold bj;rw[ho];dsimp only;rw[g,A];dsimp only[TD.er];rw[y];dsimp only;rw[yW j,yaw,nV];rfl
   .cases h
  .cases h
 .rename_i id v G;split at h
  .rename_i m g;split at h
   .rename_i f y;obtain⟨j,l⟩:=Za h;refine⟨_,_,l,[],zP,λE=> ?_⟩;simp only[yz];unfold bj;rw[ho];dsimp only;rw[g,A];dsimp only[TD.er];rw[y];dsimp only;rw[yW j,yaw,nV];rfl
   .cases h
  .cases h
 .rename_i id G;split at h
  .rename_i m g;split at h
   .rename_i f y;obtain⟨j,l⟩:=Za h;refine⟨_,_,l,[],zP,λE=> ?_⟩;simp only[yz];unfold bj;rw[ho];dsimp only;rw[g,A];dsimp only[TD.er];rw[y];dsimp only;rw[yW j,yaw,nV];rfl
   .cases h
  .cases h
 .rename_i x;obtain⟨z,M,Q⟩:=yf.1 h;obtain⟨j,l⟩:=Za Q;refine⟨_,_,l,[],zP,λE=> ?_⟩;obtain⟨d,R,I⟩:=Zpk (L:=L) (P:=P) (t:=t) (i:=i) (K:=λd _=>ab d) (x:=.p x) (out:=.p z) (by show(x.gk i).bind _=_;rw[M];exact yW j);cases R;simp only[yz];unfold bj;rw[ho];dsimp only;rw[A]
  have g:∃m,P.underlying t=ab (.struct m):=by
   unfold je at j
   all_goals grind
  obtain⟨m,g⟩:=g;rw[g];dsimp only[TD.er]at I ⊢;rw[I]
 .cases h
theorem rJ{t:Ty}{l:yL t.aU}{i:Nat}{y:t.aU}(h:l[i]? =ab y):(l.map t.enc)[i]? =ab (t.enc y):=by rw[yao,h];rfl
def DM(L:Lk)(P:yg)(t:yc)(i:Int)(K:TD->yL ao->yO O)(g:TD):yO O:=
 match P.underlying t,g with
 |some (.slice e),.view id f s lo n=>if okB P e s=ae then if bi i n=ae then K (.aj id (f++[.ix (lo+i.toNat) s])) [] else ad else ad
 |some (.slice e),.rv id v s lo n=>if okB P e s=ae then if bi i n=ae then K (.aZ id v [.ix (lo+i.toNat) s]) [] else ad else ad
 |some (.slice e),g=>(g.row L).bind λr=>if okB P e r.t.size=ae then(idx r.l i).bind λy=>K (.elem (.v r.t y)) [.el (r.t.enc y)] else ad
 |some (.array n e),.aj id f=>if(P.info? e).isSome then if bi i n=ae then K (.aj id (f++[.ix i.toNat (P.cellsOf e)])) [] else ad else ad
 |some (.array n e),.aZ id v f=>if(P.info? e).isSome then if bi i n=ae then K (.aZ id v (f++[.ix i.toNat (P.cellsOf e)])) [] else ad else ad
 |some (.array n e),.rp id f=>if(P.info? e).isSome then if bi i n=ae then K (.rp id (f++[.ix i.toNat (P.cellsOf e)])) [] else ad else ad
 |some (.array n e),.elem x=>x.dS.bind λr=>if ag (n=r.n)&&okB P e r.t.size then(idx r.l i).bind λy=>K (.elem (.v r.t y)) [.el (r.t.enc y)] else ad
 |_,_=>ad
theorem ZBY{e:yc}{s:Nat}(h:okB P e s=ae):P.cellsOf e=s/\(P.info? e).isSome=ae:=by simpa[okB] using h
theorem Zp9{t:yc}{x ix:yp}{K:TD->yL ao->yO O}{Q id:TD}{q:IntKind×Int}{R:TP}{out:O}(ho:o.op=.indexAddr t x ix)(S:bq P ts t x=ab Q)(hi:bq P ts 0 ix=ab (.p R))(hq:jl R=ab q)
 (h:DM L P t q.2 K Q=ab out):∃d hs,K d hs=ab out/\dB L P o ts d hs:=by
 have z:=Zu (L:=L) S;have m:=Zu (L:=L) hi;rw[TD.er,(pp hq).1]at m;unfold DM at h;split at h
 .rename_i e id E s lo n f;obtain⟨g,h⟩:=Za h;obtain⟨j,h⟩:=Za h;refine⟨_,_,h,[0<=q.2,q.2 < (n:Int)],⟨(V4 j).1,(V4 j).2,aw⟩,λA=> ?_⟩;simp only[yz];unfold bj;rw[ho];dsimp only;rw[f,z,m];dsimp only[TD.er];rw[yW (by simpa[okB] using g),yaw,nV];rfl
 .rename_i e id v s lo n f;obtain⟨g,h⟩:=Za h;obtain⟨j,h⟩:=Za h;refine⟨_,_,h,[0<=q.2,q.2 < (n:Int)],⟨(V4 j).1,(V4 j).2,aw⟩,λA=> ?_⟩;simp only[yz];unfold bj;rw[ho];dsimp only;rw[f,z,m];dsimp only[TD.er];rw[yW (by simpa[okB] using g)];simp[Wp,cg.o,cg.i]
 .rename_i e f _ _;obtain⟨r,F,h⟩:=yf.1 h;obtain⟨g,h⟩:=Za h;obtain⟨y,G,h⟩:=yf.1 h;obtain⟨I,J⟩:=rH G;refine⟨_,_,h,[0<=q.2,(r.l.map r.t.enc)[q.2.toNat]? =ab (r.t.enc y)],⟨I,rJ J,aw⟩,λA=> ?_⟩;unfold bj;rw[ho];dsimp only;rcases mB F with M|⟨id,M⟩
  .rw[f,z,m,M];dsimp only;rw[yag,yz];dsimp only;rw[yW (by simpa[okB] using g)];rfl
  .rw[f,z,m,M];dsimp only;rw[yag,yz];dsimp only;rw[yW (by simpa[okB] using g)];rfl
 .rename_i n e id E f;obtain⟨g,h⟩:=Za h;obtain⟨j,h⟩:=Za h;refine⟨_,_,h,[0<=q.2,q.2 < (n:Int)],⟨(V4 j).1,(V4 j).2,aw⟩,λA=> ?_⟩;simp only[yz];unfold bj;rw[ho];dsimp only;rw[f,z,m];dsimp only[TD.er];rw[yW g,yaw,nV];rfl
 .rename_i n e id v E f;obtain⟨g,h⟩:=Za h;obtain⟨j,h⟩:=Za h;refine⟨_,_,h,[0<=q.2,q.2 < (n:Int)],⟨(V4 j).1,(V4 j).2,aw⟩,λA=> ?_⟩;simp only[yz];unfold bj;rw[ho];dsimp only;rw[f,z,m];dsimp only[TD.er];rw[yW g,yaw,nV];rfl
 .rename_i n e id E f;obtain⟨g,h⟩:=Za h;obtain⟨j,h⟩:=Za h;refine⟨_,_,h,[0<=q.2,q.2 < (n:Int)],⟨(V4 j).1,(V4 j).2,aw⟩,λA=> ?_⟩;simp only[yz];unfold bj;rw[ho];dsimp only;rw[f,z,m];dsimp only[TD.er];rw[yW g,yaw,nV];rfl
 .rename_i n e x f;obtain⟨r,F,h⟩:=yf.1 h;obtain⟨g,h⟩:=Za h;obtain⟨y,G,h⟩:=yf.1 h;obtain⟨I,J⟩:=rH G;refine⟨_,_,h,[0<=q.2,(r.l.map r.t.enc)[q.2.toNat]? =ab (r.t.enc y)],⟨I,rJ J,aw⟩,λA=> ?_⟩;unfold bj;rw[ho];dsimp only;rw[f,z,m,TD.er,jm F];rw[yag,yz];dsimp only;rw[yW (by simpa[okB,and_assoc] using g)];rfl
 .cases h
def gn(s:ByteArray):yL yB:=s.data.toList
def TP.lA:TP->yO ByteArray
 |.v .str s=>ab s
 |_=>ad
theorem ZBZ{x:TP}{s:ByteArray}(h:x.lA=ab s):x.pe=.str s:=by
 unfold TP.lA at h;split at h
 .cases h;rfl
 .cases h
def TP.iv:TP->yO Bool
 |.v .bool s=>ab s
 |_=>ad
theorem ZFm{x:TP}{s:Bool}(h:x.iv=ab s):x.pe=.bool s:=by
 unfold TP.iv at h;split at h
 .cases h;rfl
 .cases h
def DN(P:yg)(t:yc)(i:Int)(K:TD->yL ao->yO O)(x:TP):yO O:=
 match P.underlying t with
 |some (.array n e)=>match x with
  |.arr f s g=>if ag (n=f)&&okB P e s&&((P.underlying e).isSome&&s !=0) then(idx g i).bind λy=>if(XB P e==y.pe.isAgg)=ae then K (.p y) [.el y.pe] else ad else ad
  |x=>x.dS.bind λr=>if ag (n=r.n)&&okB P e r.t.size&&(XB P e==r.t.isAgg&&((P.underlying e).isSome&&r.t.size !=0)) then(idx r.l i).bind λy=>K (.p (.v r.t y)) [.el (r.t.enc y)] else ad
 |some .string=>x.lA.bind λs=>(idx (gn s) i).bind λb=>K (.p (.v .u8 b)) [.el (.int .u8 (b.toNat:Int))]
 |_=>ad
theorem Zyc{t:yc}{x ix:yp}{K:TD->yL ao->yO O}{G:TP}{q:IntKind×Int}{I:TP}{out:O}(ho:o.op=.index t x ix)(M:bq P ts t x=ab (.p G))(hi:bq P ts 0 ix=ab (.p I))(hq:jl I=ab q)
 (h:DN P t q.2 K G=ab out):∃d hs,K d hs=ab out/\dB L P o ts d hs:=by
 have E:=Zu (L:=L) M;have z:=Zu (L:=L) hi;rw[TD.er,(pp hq).1]at z;unfold DN at h;split at h
 .rename_i n e A;split at h
  .rename_i S s Q;obtain⟨f,h⟩:=Za h;obtain⟨y,g,h⟩:=yf.1 h;obtain⟨R,h⟩:=Za h;obtain⟨j,m⟩:=rH g;refine⟨_,_,h,[0<=q.2,(TP.cl Q)[q.2.toNat]? =ab y.pe],⟨j,by rw[W0,yao,m];rfl,aw⟩,λJ=> ?_⟩;unfold bj;rw[ho];dsimp only;rw[A,E,z,TD.er,TP.pe];rw[yag,yz];dsimp only;simp only[okB,yi,yP]at f;rw[yW (by simp only[yi,yP];exact⟨⟨⟨⟨⟨f.1.1,f.1.2.1⟩,R⟩,f.2.1⟩,f.1.2.2⟩,f.2.2⟩)];rfl
  obtain⟨r,F,h⟩:=yf.1 h;obtain⟨f,h⟩:=Za h;obtain⟨y,g,h⟩:=yf.1 h;obtain⟨j,m⟩:=rH g;refine⟨_,_,h,[0<=q.2,(r.l.map r.t.enc)[q.2.toNat]? =ab (r.t.enc y)],⟨j,rJ m,aw⟩,λJ=> ?_⟩;unfold bj;rw[ho];dsimp only;rw[A,E,z,TD.er,jm F];rw[yag,yz];dsimp only;simp only[okB,yi,yP]at f;rw[yW (by rw[vT];simp only[yi,yP];exact⟨⟨⟨⟨⟨f.1.1,f.1.2.1⟩,f.2.1⟩,f.2.2.1⟩,f.1.2.2⟩,f.2.2.2⟩)];rfl
 .rename_i A;obtain⟨s,F,h⟩:=yf.1 h;obtain⟨y,g,h⟩:=yf.1 h;obtain⟨j,m⟩:=rH g;refine⟨_,_,h,[0<=q.2,(s.data.toList[q.2.toNat]?).map (λx:yB=>(x.toNat:Int))=ab (y.toNat:Int)],⟨j,by rw[show s.data.toList=gn s from rfl,m];rfl,aw⟩,λJ=> ?_⟩
  unfold bj;rw[ho];dsimp only;rw[A,E,z,TD.er,ZBZ F];rfl
 .cases h
def fw(P:yg)(ts:yL TD):yO yp->yO (yO Int)
 |none=>ab ad
 |some x=>match bq P ts 0 x with
  |some (.p y)=>(jl y).map λq=>ab q.2
  |_=>ad
theorem Q0{x:yO yp}{l:yO Int}(h:fw P ts x=ab l):gA P (TD.aG L ts) x=ab l:=by
 cases x with
 |none=>cases h;rfl
 |some x=>
  unfold fw at h;dsimp only at h;split at h
  .rename_i y f;obtain⟨q,g,rfl⟩:=Ze h;unfold gA;dsimp only;rw[Zu f,TD.er,(pp g).1]
  .cases h
def DO(L:Lk)(P:yg)(t:yc)(lo hi:yO Int)(K:TD->yL ao->yO O)(f:TD):yO O:=
 match P.underlying t,f with
 |some (.slice e),.view id g s h n=>if okB P e s=ae then if dX n lo hi=ae then K (.view id g s (h+(lo.getD 0).toNat) ((hi.getD n).toNat - (lo.getD 0).toNat)) [] else ad else ad
 |some (.slice e),.rv id v s h n=>if okB P e s=ae then if dX n lo hi=ae then K (.rv id v s (h+(lo.getD 0).toNat) ((hi.getD n).toNat - (lo.getD 0).toNat)) [.bare] else ad else ad
 |some (.slice e),f=>(f.row L).bind λr=>if okB P e r.t.size=ae then if dX r.l.length lo hi=ae then K (.p (.sl r.nn r.t (Vp r.l lo hi))) [] else ad else ad
 |some (.array n e),.elem x=>x.dS.bind λr=>if ag (n=r.n)&&okB P e r.t.size&&ag (n<=maxLen) then if dX n lo hi=ae then K (.p (.sl (ab ae) r.t (Vp r.l lo hi))) [] else ad else ad
 |some (.array n e),.aj id g=>if(P.info? e).isSome&&ag (n<=maxLen) then if dX n lo hi=ae then K (.view id g (P.cellsOf e) (lo.getD 0).toNat ((hi.getD n).toNat - (lo.getD 0).toNat)) [.raw] else ad else ad
 |_,_=>ad
theorem Zyd{t:yc}{x:yp}{lo hi:yO yp}{l y:yO Int}{K:TD->yL ao->yO O}{G:TD}{out:O}(ho:o.op=.slice t x lo hi ad)(I:bq P ts t x=ab G)(hl:fw P ts lo=ab l)(m:fw P ts hi=ab y)
 (h:DO L P t l y K G=ab out):∃d hs,K d hs=ab out/\dB L P o ts d hs:=by
 have z:=Zu (L:=L) I;have hl:=Q0 (L:=L) hl;have m:=Q0 (L:=L) m;unfold DO at h;split at h
 .rename_i e id J s M n f;obtain⟨g,h⟩:=Za h;obtain⟨j,h⟩:=Za h;refine⟨_,_,h,YQ n l y,mz j,λA=> ?_⟩;simp only[yz];unfold bj;rw[ho];dsimp only;rw[f,z,hl,m];dsimp only[TD.er];rw[yW (by simpa[okB] using g)]
 .rename_i e id v s M n f;obtain⟨g,h⟩:=Za h;obtain⟨j,h⟩:=Za h;refine⟨_,_,h,YQ n l y,mz j,λA=> ?_⟩;unfold bj;rw[ho];dsimp only;rw[f,z,hl,m];dsimp only[TD.er];rw[yag,yz];dsimp only;rw[yW (by simpa[okB] using g)]
 .rename_i e f _ _;obtain⟨r,E,h⟩:=yf.1 h;obtain⟨g,h⟩:=Za h;obtain⟨j,h⟩:=Za h;refine⟨_,_,h,YQ r.l.length l y,mz j,λA=> ?_⟩;simp only[yz];unfold bj;rw[ho];dsimp only;rw[TD.er,TP.pe,vS];rcases mB E with F|⟨id,F⟩
  .rw[f,z,hl,m,F];dsimp only;rw[yW (by simpa[okB] using g),yad]
  .rw[f,z,hl,m,F];dsimp only;rw[yW (by simpa[okB] using g),yad]
 .rename_i n e x f;obtain⟨r,E,h⟩:=yf.1 h;obtain⟨g,h⟩:=Za h;obtain⟨j,h⟩:=Za h;refine⟨_,_,h,YQ n l y,mz j,λA=> ?_⟩;simp only[yz];unfold bj;rw[ho];dsimp only;rw[f,z,hl,m,show(TD.elem x).er L=.elem x.pe from rfl,jm E]
  dsimp only;rw[yW (by simpa[okB,and_assoc] using g),TD.er,TP.pe,vS]
 .rename_i n e id J f;obtain⟨g,h⟩:=Za h;obtain⟨j,h⟩:=Za h;refine⟨_,_,h,YQ n l y,mz j,λA=> ?_⟩;unfold bj;rw[ho];dsimp only;rw[f,z,hl,m];dsimp only[TD.er];grind
 .cases h
end
def DP(x:yB)(n:Nat):yB:=yap (x.toNat*2 ^ n)
def DQ(x:yB)(n:Nat):yB:=yap (x.toNat / 2 ^ n)
theorem ZJ3{n:Nat}(h:n < 256):IntKind.u8.wrap (n:Int)=(n:Int):=by
 simp only[IntKind.wrap,IntKind.signed,IntKind.bits];simp;omega
theorem vU(z:Int):IntKind.u8.wrap z=z % 256:=by
 simp only[IntKind.wrap,IntKind.signed,IntKind.bits];simp
theorem ZJ4(op:BinOp)(x y:yB):bits op .u8 (x.toNat:Int) (y.toNat:Int)=((match op with|.and=>x&&&y|.or=>x|||y|.xor=>x^^^y|_=>x&&& ~~~y).toNat:Int):=by
 have e:∀z:yB,yca (IntKind.u8.bits) (z.toNat:Int)=z.toBitVec:=λz=>by
  show yca 8 (z.toNat:Int)=z.toBitVec;apply BitVec.eq_of_toNat_eq;rw[BitVec.ofInt_natCast,BitVec.toNat_ofNat];exact yas (UInt8.toNat_lt z)
 unfold bits;rw[e,e];cases op <;> exact ZJ3 (UInt8.toNat_lt _)
def DR:BinOp->yB->yB->yO yB
 |.add,x,y=>ab (x+y)
 |.sub,x,y=>ab (x - y)
 |.mul,x,y=>ab (x*y)
 |.and,x,y=>ab (x&&&y)
 |.or,x,y=>ab (x|||y)
 |.xor,x,y=>ab (x^^^y)
 |.andNot,x,y=>ab (x&&& ~~~y)
 |_,_,_=>ad
theorem ZKK{op:BinOp}{x y z:yB}(h:DR op x y=ab z)(yK:yL ao):YW op .u8 (x.toNat:Int) (y.toNat:Int) (.raw::yK)=ab ([],.p (.int .u8 (z.toNat:Int)),yK):=by
 cases op <;> simp only[DR,yn,reduceCtorEq]at h <;> subst h
 .simp only[YW,gy,vU,UInt8.toNat_add];simp
 .have e:((x.toNat:Int) - (y.toNat:Int)) % 256=((x - y).toNat:Int):=by
   rw[UInt8.toNat_sub];have:=x.toNat_lt;have:=y.toNat_lt;omega
  simp only[YW,gy,vU,e]
 .simp only[YW,gy,vU,UInt8.toNat_mul];simp
 all_goals simp only[YW,ZJ4]
def DS:BinOp->yB->yB->yO yB
 |.quo,x,y=>ab (x / y)
 |.rem,x,y=>ab (x % y)
 |_,_,_=>ad
theorem ZKL{op:BinOp}{x y z:yB}(h:DS op x y=ab z)(yK:yL ao):YW op .u8 (x.toNat:Int) (y.toNat:Int) (.raw::yK)=ab ([(y.toNat:Int)≠0],.p (.int .u8 (z.toNat:Int)),yK):=by
 cases op <;> simp only[DS,yn,reduceCtorEq]at h <;> subst h
 .simp only[YW,UInt8.toNat_div];rw[show(x.toNat:Int).tdiv (y.toNat:Int)=((x.toNat / y.toNat:Nat):Int) from rfl,ZJ3 (ycw (Nat.div_le_self ..) (UInt8.toNat_lt _))]
 .simp only[YW,UInt8.toNat_mod];rfl
def DT:BinOp->yB->yB->yO Bool
 |.eql,x,y=>ab (x==y)
 |.neq,x,y=>ab (x !=y)
 |.lss,x,y=>ab (ag (x < y))
 |.leq,x,y=>ab (ag (x<=y))
 |.gtr,x,y=>ab (ag (x > y))
 |.geq,x,y=>ab (ag (x >= y))
 |_,_,_=>ad
theorem ZIr{op:BinOp}{x y:yB}{b:Bool}(h:DT op x y=ab b)(yK:yL ao):YW op .u8 (x.toNat:Int) (y.toNat:Int) yK=ab ([],.p (.bool b),yK):=by
 have f:((x.toNat:Int)==(y.toNat:Int))=(x==y):=by
  rw[ycr];simp only[yT, <-UInt8.toNat_inj];omega
 have lt:∀a b:yB,ag ((a.toNat:Int) < (b.toNat:Int))=ag (a < b):=λa b=>by
  rw[ycr];simp[UInt8.lt_iff_toNat_lt]
 have le:∀a b:yB,ag ((a.toNat:Int)<=(b.toNat:Int))=ag (a<=b):=λa b=>by
  rw[ycr];simp[UInt8.le_iff_toNat_le]
 cases op <;> simp only[DT,yn,reduceCtorEq]at h <;> subst h <;> simp only[YW,GT.gt,GE.ge,lt,le,f,bne]
theorem ZIs(x:yB)(y:Int)(yK:yL ao):WC .shl .u8 (x.toNat:Int) y (.raw::yK)=ab ([0<=y],.p (.int .u8 ((DP x (min y.toNat 8)).toNat:Int)),yK):=by
 simp only[WC,vU,DP,UInt8.toNat_ofNat'];simp[show IntKind.u8.bits=8 from rfl]
theorem ZIt(x:yB)(y:Int)(yK:yL ao):WC .shr .u8 (x.toNat:Int) y (.raw::yK)=ab ([0<=y],.p (.int .u8 ((DQ x (min y.toNat 8)).toNat:Int)),yK):=by
 simp only[WC,DQ,UInt8.toNat_ofNat'];congr 4;rw[show IntKind.u8.bits=8 from rfl]
 have h:x.toNat / 2 ^ min y.toNat 8 < 256:=ycw (Nat.div_le_self ..) (UInt8.toNat_lt _);rw[yas h];rw[show((2:Int) ^ min y.toNat 8)=((2 ^ min y.toNat 8:Nat):Int) by simp,Int.fdiv_eq_ediv_of_nonneg _ (Int.natCast_nonneg _)];rfl
def hU(x:yV)(n:Nat):yV:=ych (x.toNat*2 ^ n)
def gS(x:yV)(n:Nat):yV:=ych (x.toNat / 2 ^ n)
theorem ZFn{n:Nat}(h:n < 4294967296):IntKind.u32.wrap (n:Int)=(n:Int):=by
 simp only[IntKind.wrap,IntKind.signed,IntKind.bits];simp;omega
theorem vV(z:Int):IntKind.u32.wrap z=z % 4294967296:=by
 simp only[IntKind.wrap,IntKind.signed,IntKind.bits];simp
theorem ZFo(op:BinOp)(x y:yV):bits op .u32 (x.toNat:Int) (y.toNat:Int)=((match op with|.and=>x&&&y|.or=>x|||y|.xor=>x^^^y|_=>x&&& ~~~y).toNat:Int):=by
 have e:∀z:yV,yca (IntKind.u32.bits) (z.toNat:Int)=z.toBitVec:=λz=>by
  show yca 32 (z.toNat:Int)=z.toBitVec;apply BitVec.eq_of_toNat_eq;rw[BitVec.ofInt_natCast,BitVec.toNat_ofNat];exact yas (UInt32.toNat_lt z)
 unfold bits;rw[e,e];cases op <;> exact ZFn (UInt32.toNat_lt _)
def DU:BinOp->yV->yV->yO yV
 |.add,x,y=>ab (x+y)
 |.sub,x,y=>ab (x - y)
 |.mul,x,y=>ab (x*y)
 |.and,x,y=>ab (x&&&y)
 |.or,x,y=>ab (x|||y)
 |.xor,x,y=>ab (x^^^y)
 |.andNot,x,y=>ab (x&&& ~~~y)
 |_,_,_=>ad
theorem ZIu{op:BinOp}{x y z:yV}(h:DU op x y=ab z)(yK:yL ao):YW op .u32 (x.toNat:Int) (y.toNat:Int) (.raw::yK)=ab ([],.p (.int .u32 (z.toNat:Int)),yK):=by
 cases op <;> simp only[DU,yn,reduceCtorEq]at h <;> subst h
 .simp only[YW,gy,vV,UInt32.toNat_add];simp
 .have e:((x.toNat:Int) - (y.toNat:Int)) % 4294967296=((x - y).toNat:Int):=by
   rw[UInt32.toNat_sub];have:=x.toNat_lt;have:=y.toNat_lt;omega
  simp only[YW,gy,vV,e]
 .simp only[YW,gy,vV,UInt32.toNat_mul];simp
 all_goals simp only[YW,ZFo]
def DV:BinOp->yV->yV->yO yV
 |.quo,x,y=>ab (x / y)
 |.rem,x,y=>ab (x % y)
 |_,_,_=>ad
theorem ZIv{op:BinOp}{x y z:yV}(h:DV op x y=ab z)(yK:yL ao):YW op .u32 (x.toNat:Int) (y.toNat:Int) (.raw::yK)=ab ([(y.toNat:Int)≠0],.p (.int .u32 (z.toNat:Int)),yK):=by
 cases op <;> simp only[DV,yn,reduceCtorEq]at h <;> subst h
 .simp only[YW,UInt32.toNat_div];rw[show(x.toNat:Int).tdiv (y.toNat:Int)=((x.toNat / y.toNat:Nat):Int) from rfl,ZFn (ycw (Nat.div_le_self ..) (UInt32.toNat_lt _))]
 .simp only[YW,UInt32.toNat_mod];rfl
def DW:BinOp->yV->yV->yO Bool
 |.eql,x,y=>ab (x==y)
 |.neq,x,y=>ab (x !=y)
 |.lss,x,y=>ab (ag (x < y))
 |.leq,x,y=>ab (ag (x<=y))
 |.gtr,x,y=>ab (ag (x > y))
 |.geq,x,y=>ab (ag (x >= y))
 |_,_,_=>ad
theorem ZFq{op:BinOp}{x y:yV}{b:Bool}(h:DW op x y=ab b)(yK:yL ao):YW op .u32 (x.toNat:Int) (y.toNat:Int) yK=ab ([],.p (.bool b),yK):=by
 have f:((x.toNat:Int)==(y.toNat:Int))=(x==y):=by
  rw[ycr];simp only[yT, <-UInt32.toNat_inj];omega
 have lt:∀a b:yV,ag ((a.toNat:Int) < (b.toNat:Int))=ag (a < b):=λa b=>by
  rw[ycr];simp[UInt32.lt_iff_toNat_lt]
 have le:∀a b:yV,ag ((a.toNat:Int)<=(b.toNat:Int))=ag (a<=b):=λa b=>by
  rw[ycr];simp[UInt32.le_iff_toNat_le]
 cases op <;> simp only[DW,yn,reduceCtorEq]at h <;> subst h <;> simp only[YW,GT.gt,GE.ge,lt,le,f,bne]
theorem ZFr(x:yV)(y:Int)(yK:yL ao):WC .shl .u32 (x.toNat:Int) y (.raw::yK)=ab ([0<=y],.p (.int .u32 ((hU x (min y.toNat 32)).toNat:Int)),yK):=by
 simp only[WC,vV,hU,ycv];simp[show IntKind.u32.bits=32 from rfl]
theorem ZFs(x:yV)(y:Int)(yK:yL ao):WC .shr .u32 (x.toNat:Int) y (.raw::yK)=ab ([0<=y],.p (.int .u32 ((gS x (min y.toNat 32)).toNat:Int)),yK):=by
 simp only[WC,gS,ycv];congr 4;rw[show IntKind.u32.bits=32 from rfl]
 have h:x.toNat / 2 ^ min y.toNat 32 < 4294967296:=ycw (Nat.div_le_self ..) (UInt32.toNat_lt _);rw[yas h];rw[show((2:Int) ^ min y.toNat 32)=((2 ^ min y.toNat 32:Nat):Int) by simp,Int.fdiv_eq_ediv_of_nonneg _ (Int.natCast_nonneg _)];rfl
def V5(x:yU)(n:Nat):yU:=yan (x.toNat*2 ^ n)
def ZB(x:yU)(n:Nat):yU:=yan (x.toNat / 2 ^ n)
theorem ZB0{n:Nat}(h:n < 18446744073709551616):IntKind.u64.wrap (n:Int)=(n:Int):=by
 simp only[IntKind.wrap,IntKind.signed,IntKind.bits];simp;omega
theorem vW(z:Int):IntKind.u64.wrap z=z % 18446744073709551616:=by
 simp only[IntKind.wrap,IntKind.signed,IntKind.bits];simp
theorem ZFt(op:BinOp)(x y:yU):bits op .u64 (x.toNat:Int) (y.toNat:Int)=((match op with|.and=>x&&&y|.or=>x|||y|.xor=>x^^^y|_=>x&&& ~~~y).toNat:Int):=by
 have e:∀z:yU,yca (IntKind.u64.bits) (z.toNat:Int)=z.toBitVec:=λz=>by
  show yca 64 (z.toNat:Int)=z.toBitVec;apply BitVec.eq_of_toNat_eq;rw[BitVec.ofInt_natCast,BitVec.toNat_ofNat];exact yas (ybv z)
 unfold bits;rw[e,e];cases op <;> exact ZB0 (ybv _)
def DX:BinOp->yU->yU->yO yU
 |.add,x,y=>ab (x+y)
 |.sub,x,y=>ab (x - y)
 |.mul,x,y=>ab (x*y)
 |.and,x,y=>ab (x&&&y)
 |.or,x,y=>ab (x|||y)
 |.xor,x,y=>ab (x^^^y)
 |.andNot,x,y=>ab (x&&& ~~~y)
 |_,_,_=>ad
theorem ZIw{op:BinOp}{x y z:yU}(h:DX op x y=ab z)(yK:yL ao):YW op .u64 (x.toNat:Int) (y.toNat:Int) (.raw::yK)=ab ([],.p (.int .u64 (z.toNat:Int)),yK):=by
 cases op <;> simp only[DX,yn,reduceCtorEq]at h <;> subst h
 .simp only[YW,gy,vW,UInt64.toNat_add];simp
 .have e:((x.toNat:Int) - (y.toNat:Int)) % 18446744073709551616=((x - y).toNat:Int):=by
   rw[UInt64.toNat_sub];have:=x.toNat_lt;have:=y.toNat_lt;omega
  simp only[YW,gy,vW,e]
 .simp only[YW,gy,vW,UInt64.toNat_mul];simp
 all_goals simp only[YW,ZFt]
def DY:BinOp->yU->yU->yO yU
 |.quo,x,y=>ab (x / y)
 |.rem,x,y=>ab (x % y)
 |_,_,_=>ad
theorem ZIx{op:BinOp}{x y z:yU}(h:DY op x y=ab z)(yK:yL ao):YW op .u64 (x.toNat:Int) (y.toNat:Int) (.raw::yK)=ab ([(y.toNat:Int)≠0],.p (.int .u64 (z.toNat:Int)),yK):=by
 cases op <;> simp only[DY,yn,reduceCtorEq]at h <;> subst h
 .simp only[YW,UInt64.toNat_div];rw[show(x.toNat:Int).tdiv (y.toNat:Int)=((x.toNat / y.toNat:Nat):Int) from rfl,ZB0 (ycw (Nat.div_le_self ..) (ybv _))]
 .simp only[YW,UInt64.toNat_mod];rfl
def DZ:BinOp->yU->yU->yO Bool
 |.eql,x,y=>ab (x==y)
 |.neq,x,y=>ab (x !=y)
 |.lss,x,y=>ab (ag (x < y))
 |.leq,x,y=>ab (ag (x<=y))
 |.gtr,x,y=>ab (ag (x > y))
 |.geq,x,y=>ab (ag (x >= y))
 |_,_,_=>ad
theorem ZFv{op:BinOp}{x y:yU}{b:Bool}(h:DZ op x y=ab b)(yK:yL ao):YW op .u64 (x.toNat:Int) (y.toNat:Int) yK=ab ([],.p (.bool b),yK):=by
 have f:((x.toNat:Int)==(y.toNat:Int))=(x==y):=by
  rw[ycr];simp only[yT, <-UInt64.toNat_inj];omega
 have lt:∀a b:yU,ag ((a.toNat:Int) < (b.toNat:Int))=ag (a < b):=λa b=>by
  rw[ycr];simp[UInt64.lt_iff_toNat_lt]
 have le:∀a b:yU,ag ((a.toNat:Int)<=(b.toNat:Int))=ag (a<=b):=λa b=>by
  rw[ycr];simp[UInt64.le_iff_toNat_le]
 cases op <;> simp only[DZ,yn,reduceCtorEq]at h <;> subst h <;> simp only[YW,GT.gt,GE.ge,lt,le,f,bne]
theorem ZFw(x:yU)(y:Int)(yK:yL ao):WC .shl .u64 (x.toNat:Int) y (.raw::yK)=ab ([0<=y],.p (.int .u64 ((V5 x (min y.toNat 64)).toNat:Int)),yK):=by
 simp only[WC,vW,V5,ybi];simp[show IntKind.u64.bits=64 from rfl]
theorem ZFx(x:yU)(y:Int)(yK:yL ao):WC .shr .u64 (x.toNat:Int) y (.raw::yK)=ab ([0<=y],.p (.int .u64 ((ZB x (min y.toNat 64)).toNat:Int)),yK):=by
 simp only[WC,ZB,ybi];congr 4;rw[show IntKind.u64.bits=64 from rfl]
 have h:x.toNat / 2 ^ min y.toNat 64 < 18446744073709551616:=ycw (Nat.div_le_self ..) (ybv _);rw[yas h];rw[show((2:Int) ^ min y.toNat 64)=((2 ^ min y.toNat 64:Nat):Int) by simp,Int.fdiv_eq_ediv_of_nonneg _ (Int.natCast_nonneg _)];rfl
end Go.Ev
end
