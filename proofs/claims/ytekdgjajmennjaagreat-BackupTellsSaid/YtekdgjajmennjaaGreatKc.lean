/- Parts of the proof, in one file. -/
import Derived.Test.YtekdgjajmennjaaGreatKb
open Option renaming some → ab, none → ae
open Bool renaming true → af, false → ag
open Decidable renaming decide → ah
open Array renaming getElem?_toList → ycf, getElem?_eq_getElem → ycv
open BitVec renaming ofInt → ycb
open Bool renaming and_eq_true → yi, eq_iff_iff → yco, or_eq_true → yct
open Go renaming TypeId → yc, Program → yg, Value → yh, Operand → ym, FuncId → yq
open List renaming length_append → yl, getElem?_eq_some_iff → yo, range → yu, replicate → yw, length_take → yx, nil_append → yy, length_map → yab, getElem?_eq_getElem → yac, append_assoc → yad, cons_append → yae, map_cons → yag, getElem?_map → yak, length_cons → yam, map_append → yao, getElem?_append_right → yaq, append_nil → yar, getElem?_cons_succ → yay, take_append_drop → ybd, getElem?_append_left → ybe, map_map → ybf, eq_nil_of_length_eq_zero → ybh, ext_getElem? → ybj, getElem?_eq_none → ybl, getElem?_cons_zero → ybm, mem_of_mem_take → ybn, take_of_length_le → ybs, all_eq_true → ybx, getElem?_set → yca, getElem?_take → ycr
open Nat renaming le_refl → yj, mod_eq_of_lt → yaf, min_eq_left → ybc, lt_of_le_of_lt → ycx
open Option renaming bind_eq_some_iff → yf, map_eq_some_iff → yn, map_some → yaa
open Option.some renaming injEq → yp
open Prod.mk renaming injEq → yz
open UInt32 renaming ofNat → ybq, toNat_ofNat' → ycq
open UInt64 renaming ofNat → yv, toNat_ofNat' → yan, toNat_lt → ybt, toNat_inj → ybz
open UInt8 renaming ofNat → yav
set_option linter.unusedVariables false
set_option linter.unusedSimpArgs false
section
namespace Go.Ev
theorem vC(keep:yL Nat):∀(l:yL Dv)(k t:Nat),(ZS keep k l)[t]? =(l[t]?).map λd=>if keep.contains (k+t) then d else .aA
 |[],k,t=>by simp[ZS]
 |d::l,k,0=>by simp[ZS]
 |d::l,k,t+1=>by
  simp only[ZS,yay];rw[vC keep l (k+1) t];grind
theorem rI{σ:Sg}{a:Act}{ts:yL Dv}(keep:yL Nat)(h:aK σ ts a):aK σ (ZS keep 0 ts) a:=by
 refine⟨?_,λi d hi=> ?_,h.defers⟩
 .rw[h.size]
  have:∀(l:yL Dv)(k:Nat),(ZS keep k l).length=l.length:=by
   intro l
   induction l with
   |nil=>intro k;rfl
   |cons x l ih=>intro k;simp[ZS,ih]
  grind
 .rw[vC]at hi;obtain⟨d',h1,h2⟩:=yn.1 hi;split at h2
  .rw[<-h2];exact h.at_ i d' h1
  .rw[<-h2];exact WT
theorem EZ(A:yL Nat)(i j:Nat):∀(es:yL Edge)(m:Nat),(es.foldl (λm e=>if Region.binds .any e&&ah (e.on < i) then m|||(1 <<< e.on)|||A.getD e.on 0 else m) m).testBit j=af->
 m.testBit j=af\/∃e,e∈es/\Region.binds .any e=af/\e.on < i/\(e.on=j\/(A.getD e.on 0).testBit j=af)
 |[],m,h=>.inl h
 |e::es,m,h=>by
  simp only[List.foldl_cons]at h;rcases EZ A i j es _ h with h1|⟨e',h1,h2⟩
  .split at h1
   .rename_i hc;simp only[yi,yP]at hc;simp only[Nat.testBit_or,yct,Nat.one_shiftLeft,Nat.testBit_two_pow,yP]at h1
    all_goals grind
   grind
  grind
section
variable{P:yg}{ops:Array Oper}
def ZMS(ops:Array Oper)(X:Nat->Bool):Prop:=∀i o,ops[i]? =ab o->X i=af->∀e,e∈o.after->Region.binds .any e=af->X e.on=af
theorem Zzy{X:Nat->Bool}{A:yL Nat}(hX:ZMS ops X)(hA:∀i o,ops[i]? =ab o->A.getD i 0=nb A i o):∀(i:Nat),(∃o,ops[i]? =ab o)->X i=af->∀j,(A.getD i 0).testBit j=af->X j=af:=by
 intro i
 induction i using Nat.strongRecOn with
 |_ i ih=>
  rintro⟨o,ho⟩ hi j hj;rw[hA i o ho]at hj;unfold nb at hj;rcases EZ A i j _ _ hj with h|⟨e,h1,h2,h3,h4⟩
  .simp at h
  .have he:=hX i o ho hi e (by simpa using h1) h2;rcases h4 with h4|h4
   .rw[<-h4];exact he
   .have hlt:e.on < ops.size:=by
     grind
    exact ih e.on h3 ⟨ops[e.on],ycv hlt⟩ he j h4
def val(n:Nat)(dst:Nat->yO Tmp)(D:Nat->Dv)(ts0:yL Dv)(X:Nat->Bool)(t:Nat):Dv:=
 match (yu n).find? λj=>X j&&dst j==ab t with
 |some j=>D j
 |none=>ts0.getD t .aA
def ei(n:Nat)(dst:Nat->yO Tmp)(D:Nat->Dv)(ts0:yL Dv)(X:Nat->Bool):yL Dv:=(yu ts0.length).map (val n dst D ts0 X)
variable{n:Nat}{dst:Nat->yO Tmp}{D:Nat->Dv}{ts0:yL Dv}
theorem kR(hu:∀i j,i < n->j < n->dst i≠ae->dst i=dst j->i=j){X:Nat->Bool}{t j:Nat}(hj:j < n)(hX:X j=af)(hd:dst j=ab t):val n dst D ts0 X t=D j:=by
 unfold val;grind
theorem kS{X:Nat->Bool}{t:Nat}(h:∀j,j < n->X j=af->dst j≠ab t):val n dst D ts0 X t=ts0.getD t .aA:=by
 unfold val;grind
theorem Vm{X:Nat->Bool}:(ei n dst D ts0 X).length=ts0.length:=by simp[ei]
theorem kc{X:Nat->Bool}{t:Nat}(h:t < ts0.length):(ei n dst D ts0 X)[t]? =ab (val n dst D ts0 X t):=by
 simp[ei,h]
theorem ZCu{X:Nat->Bool}(h:∀j,j < n->X j=ag):ei n dst D ts0 X=ts0:=by
 apply ybj;intro t;by_cases ht:t < ts0.length
 .rw[kc ht,kS (λj hj hx=>by rw[h j hj]at hx;cases hx)];grind
 .rw[ybl (by rw[Vm];omega),ybl (by omega)]
theorem ZJJ(hu:∀i j,i < n->j < n->dst i≠ae->dst i=dst j->i=j){X Y:Nat->Bool}{i:Nat}(hi:i < n)(hXi:X i=ag)(hY:∀j,j < n->Y j=(X j || decide (j=i))):
 fM (ei n dst D ts0 X) (dst i) (D i)=ei n dst D ts0 Y:=by
 apply ybj;intro t;by_cases ht:t < ts0.length
 .rw[kc ht]
  have hother:dst i≠ab t->val n dst D ts0 Y t=val n dst D ts0 X t:=by
   intro hne;by_cases hex:∃j,j < n/\X j=af/\dst j=ab t
   .obtain⟨j,h1,h2,h3⟩:=hex;rw[kR hu h1 h2 h3,kR hu h1 (by rw[hY j h1,h2];rfl) h3]
   .rw[kS (λj h1 h2 h3=>hex ⟨j,h1,h2,h3⟩),kS (λj h1 h2 h3=> ?_)]
    all_goals grind
  unfold fM
  cases hd:dst i with
  |none=>
   rw[hother (by rw[hd];simp),kc ht]
  |some t'=>
   rw[yca];by_cases htt:t'=t
   .subst htt;rw[yW rfl,yW (by rw[Vm];exact ht),kR hu hi (by rw[hY i hi];simp) hd]
   .rw[yX htt,kc ht,hother (by rw[hd];simpa using htt)]
 .have hl:(fM (ei n dst D ts0 X) (dst i) (D i)).length=ts0.length:=by
   unfold fM
   cases dst i with
   |none=>rw[Vm]
   |some t'=>rw[List.length_set,Vm]
  rw[ybl (by rw[hl];omega),ybl (by rw[Vm];omega)]
theorem ZLp(hu:∀i j,i < n->j < n->dst i≠ae->dst i=dst j->i=j){X Y:Nat->Bool}{keep:yL Nat}(h:∀j t,j < n->dst j=ab t->t∈keep->X j=Y j):
 ZS keep 0 (ei n dst D ts0 X)=ZS keep 0 (ei n dst D ts0 Y):=by
 apply ybj;intro t;rw[vC,vC];by_cases ht:t < ts0.length
 .rw[kc ht,kc ht];simp only[yaa,Nat.zero_add];by_cases hk:t∈keep
  .have hkc:keep.contains t=af:=by simpa using hk
   rw[hkc];simp only[if_true];congr 1;by_cases hex:∃j,j < n/\X j=af/\dst j=ab t
   .obtain⟨j,h1,h2,h3⟩:=hex;rw[kR hu h1 h2 h3,kR hu h1 (by rw[<-h j t h1 h3 hk];exact h2) h3]
   .rw[kS (λj h1 h2 h3=>hex ⟨j,h1,h2,h3⟩),kS (λj h1 h2 h3=>hex ⟨j,h1,by rw[h j t h1 h3 hk];exact h2,h3⟩)]
  grind
 .rw[ybl (by rw[Vm];omega),ybl (by rw[Vm];omega)]
end
section
variable{P:yg}{ops:Array Oper}
theorem vD{o:Oper}{ts:yL Dv}{H H2:yL ay}{hs:yL ar}{r:yL Prop×Dv×yL ay×yL ar}(h:eQ P o ts H hs=ab r)(hn:(be P o ts hs).isSome=af):r.2.2.1=H/\eQ P o ts H2 hs=ab (r.1,r.2.1,H2,r.2.2.2):=by
 unfold eQ at h ⊢;grind
theorem ZMT{o:Oper}{ts:yL Dv}{H:yL ay}{hs:yL ar}{r:yL Prop×Dv×yL ay×yL ar}(h:eQ P o ts H hs=ab r)(hn:(be P o ts hs).isSome=ag)(hr:(bB P o ts H hs).isSome=af):r.2.2.1=H:=by
 unfold eQ at h;grind
theorem ZMU{o:Oper}{ts:yL Dv}{H H2:yL ay}{hs:yL ar}{C:yL Prop}{d:Dv}{H':yL ay}{hs':yL ar}(h:cN P ops o ts H hs=ab (C,d,H',hs'))(hc:bG P o ts H hs=0):
 H'=H/\cN P ops o ts H2 hs=ab (C,d,H2,hs'):=by
 unfold cN at h ⊢;unfold bG at hc
 cases hg:o.guard with
 |none=>
  simp only[hg]at h hc ⊢
  have hn:(be P o ts hs).isSome=af:=by
   grind
  simp only[yn,yz]at h;obtain⟨⟨C1,d1,H1,hs1⟩,h1,rfl,rfl,rfl,rfl⟩:=h;obtain⟨e1,e2⟩:=vD (H2:=H2) h1 hn
  exact⟨e1,by rw[e2];rfl⟩
 |some gw=>
  obtain⟨g,want⟩:=gw;simp only[hg]at h hc ⊢;split at h
  .rename_i t β hs1 ht;dsimp only at hc;split at h
   .rename_i hb;rw[yW hb]at hc ⊢
    have hn:(be P o ts hs1).isSome=af:=by
     grind
    simp only[yn,yz]at h;obtain⟨⟨C1,d1,H1,hs2⟩,h1,rfl,rfl,rfl,rfl⟩:=h;obtain⟨e1,e2⟩:=vD (H2:=H2) h1 hn;exact⟨e1,by rw[e2];rfl⟩
   .rename_i hb;rw[yX hb];cases h;exact⟨rfl,rfl⟩
  .cases h;exact⟨rfl,rfl⟩
  .cases h
theorem ZMV{o:Oper}{ts:yL Dv}{H:yL ay}{hs:yL ar}{C:yL Prop}{d:Dv}{H':yL ay}{hs':yL ar}(h:cN P ops o ts H hs=ab (C,d,H',hs'))(hc:bG P o ts H hs≠2):H'=H:=by
 unfold cN at h;unfold bG at hc
 cases hg:o.guard with
 |none=>
  simp only[hg]at h hc;simp only[yn,yz]at h;obtain⟨⟨C1,d1,H1,hs1⟩,h1,rfl,rfl,rfl,rfl⟩:=h
  cases hn:(be P o ts hs).isSome with
  |true=>exact(vD (H2:=[]) h1 hn).1
  |false=>
   cases hr:(bB P o ts H hs).isSome with
   |true=>exact ZMT h1 hn hr
   |false=>simp[hn,hr]at hc
 |some gw=>
  obtain⟨g,want⟩:=gw;simp only[hg]at h hc;split at h
  .rename_i t β hs1 ht;dsimp only at hc;split at h
   .rename_i hb;simp only[yW hb]at hc;simp only[yn,yz]at h;obtain⟨⟨C1,d1,H1,hs2⟩,h1,rfl,rfl,rfl,rfl⟩:=h
    cases hn:(be P o ts hs1).isSome with
    |true=>exact(vD (H2:=[]) h1 hn).1
    |false=>
     cases hr:(bB P o ts H hs1).isSome with
     |true=>exact ZMT h1 hn hr
     |false=>simp[hn,hr]at hc
   .cases h;rfl
  .cases h;rfl
  .cases h
theorem ZTU{o:Oper}{ts:yL Dv}{H H2:yL ay}{hs:yL ar}{C:yL Prop}{d:Dv}{H':yL ay}{hs':yL ar}(h:cN P ops o ts H hs=ab (C,d,H',hs'))(hc:bG P o ts H hs=1)
 (hr:∀hs,bB P o ts H2 hs=bB P o ts H hs):cN P ops o ts H2 hs=ab (C,d,H2,hs'):=by
 unfold bG at hc;unfold cN at h ⊢
 cases hg:o.guard with
 |none=>
  simp only[hg]at h hc ⊢
  cases hn:be P o ts hs with
  |some q=>simp[hn]at hc
  |none=>
   cases hq:bB P o ts H hs with
   |none=>simp[hn,hq]at hc
   |some q=>
    unfold eQ at h ⊢;rw[hr];simp only[hn,hq,yaa,yp,yz]at h ⊢
    exact⟨h.1,h.2.1,zZ,h.2.2.2⟩
 |some gw=>
  obtain⟨g,want⟩:=gw;simp only[hg]at h hc ⊢;split at h
  .rename_i t β hs1 ht;dsimp only at hc;split at h
   .rename_i hb;rw[yW hb]at hc ⊢
    cases hn:be P o ts hs1 with
    |some q=>simp[hn]at hc
    |none=>
     cases hq:bB P o ts H hs1 with
     |none=>simp[hn,hq]at hc
     |some q=>
      unfold eQ at h ⊢;rw[hr];simp only[hn,hq,yaa,yp,yz]at h ⊢;exact⟨h.1,h.2.1,zZ,h.2.2.2⟩
   .rename_i hb;simp[hb]at hc
  .simp at hc
  .cases h
theorem ZLq{o:Oper}{ts:yL Dv}{H:yL ay}{hs:yL ar}{C:yL Prop}{d:Dv}{H':yL ay}{hs':yL ar}{l:yL Nat}{i:Nat}(h:cN P ops o ts H hs=ab (C,d,H',hs'))(hc:bG P o ts H hs=2)
 (ht:kK P o ts hs=ab l) (hi:i < H.length) (hl:l.contains i=ag):cz (H'[i]?)=cz (H[i]?):=by
 unfold kK at ht
 cases hg:o.guard with
 |some g=>simp[hg]at ht
 |none=>
  simp only[hg,Option.isNone_none,if_true]at ht;unfold bG at hc;unfold cN at h;simp only[hg]at h hc
  cases hn:be P o ts hs with
  |some q=>simp[hn]at hc
  |none=>
   cases hq:bB P o ts H hs with
   |some q=>simp[hn,hq]at hc
   |none=>
    simp only[yn,yz]at h;obtain⟨⟨C1,d1,H1,hs1⟩,h1,rfl,rfl,rfl,rfl⟩:=h;unfold eQ at h1;simp only[hn,hq]at h1;exact ZCt h1 ht hi hl
theorem ZMW{g:yq}{args:yL Dv}{r:Dv}{e:ay}(h:cH P g args [] r [e])(hn:∃x,Dv.bt (aV []) args=ab x):cH P g args [.gone] r [e]:=by
 intro σ vs ok hH hv;obtain⟨x,hx⟩:=hn
 have hst:∀(b o:Nat),(σ.F b o\/σ.B b)->σ.aU b o:=λb o q=>⟨q,λid e' _ h2=>by
  rw[hH]at h2
  cases id with
  |zero=>cases h2;trivial
  |succ i=>simp at h2⟩
 have hno:∀(id:Nat)(e':ay),σ.H[id]? =ab e'->e'=.gone:=λid e' h2=>by
  grind
 let σ0:Sg:={ F:=σ.F,B:=σ.B,m:=[],H:=[],w:=σ.w};have ok0:Ok σ0:=⟨rfl,λi j b h=>by simp[σ0]at h,λi b h=>by simp[σ0]at h,λi e a h=>by simp[σ0]at h,ok.new,λi b h=>by simp[σ0]at h⟩;have hz:∀id,aV [] id=ae:=λid=>by simp[aV]
 have hrn:Rn (aV []) σ σ0:=⟨rfl,λb o u _ q=>⟨q.1,λid e' q=>by simp[σ0]at q⟩,λid id' q=>(by rw[hz]at q;cases q),λid id' q=>(by rw[hz]at q;cases q)⟩
 have hxe:x=args:=by
  have e1:=hx;rw[rE]at e1;have e2:=bK (f:=aV []) _ _ e1;grind
 have hv2:aC σ0 args vs:=by
  have h1:=df hrn _ _ _ hx hv;grind
 refine(h σ0 vs ok0 rfl hv2).mono ?_;rintro ex w' ⟨v,τ,rfl,rfl,hτ,to,okτ,hr⟩;have okm:σ.m.length=1:=by rw[ok.len,hH];rfl
 have okm2:τ.m.length=1:=by rw[okτ.len,hτ];rfl
 refine⟨v,τ,rfl,rfl,hτ,⟨⟨λb o u h1 h2=> ?_,λid b h1 h2=> ?_,λid s len A c h1=> ?_,λid b h1 h2=> ?_,λid v s st e d h1=> ?_⟩,to.F,to.B,to.os,to.tape,to.output,to.size,λb h1 _=>to.block b h1 (λid q=>by simp[σ0]at q),λid b h1=> ?_, ?_⟩,okτ,hr⟩
 .exact to.leaf.cells b o u h1 ⟨h2.1,λid e q=>by simp[σ0]at q⟩
 .grind
 .obtain⟨e',ys,h2,_⟩:=h1;grind
 .grind
 .grind
 .rcases to.same id b h1 with q|q
  all_goals grind
 grind
theorem ZFT{o:Oper}{ts:yL Dv}{H H2:yL ay}{hs:yL ar}{C:yL Prop}{d:Dv}{H':yL ay}{hs':yL ar}(h:cN P ops o ts H hs=ab (C,d,H',hs'))(hp:iQ o hs H.length=af)(hl:H2.length=H.length):
 bG P o ts H hs=2/\∃E,H'=H++E/\cN P ops o ts H2 hs=ab (C,d,H2++E,hs'):=by
 unfold iQ at hp;rw[yi]at hp;obtain⟨hg,hp⟩:=hp;have hg:o.guard=ae:=by simpa using hg
 split at hp
 .rename_i t ho;have n1:∀hs,be P o ts hs=ae:=λhs=>by unfold be;rw[ho]
  have n2:∀H hs,bB P o ts H hs=ae:=λH hs=>by unfold bB;rw[ho]
  refine⟨?_, ?_⟩
  .unfold bG;grind
  .unfold cN at h ⊢;rw[hg]at h ⊢;dsimp only at h ⊢;unfold eQ at h ⊢;rw[n1,n2]at h;rw[n1,n2];dsimp only at h ⊢;unfold cx at h ⊢;rw[ho]at h ⊢
   all_goals grind
 .rename_i c ho;split at hp
  .rename_i f hc;split at hp
   .rename_i r Hn ids hs0;rw[yi]at hp;have hids:ids=[]:=by simpa using hp.1
    subst hids;have hp:=hp.2;unfold mZ at hp;simp only[yi,yT]at hp;have hne:Hn≠[]:=λq=>by rw[q]at hp;simp at hp
    have n1:be P o ts (.call r Hn []::hs0)=ae:=by
     unfold be;rw[ho];dsimp only;rw[hc];dsimp only
     all_goals grind
    have n2:∀H,bB P o ts H (.call r Hn []::hs0)=ae:=λH=>by
     unfold bB;rw[ho];dsimp only;rw[hc];dsimp only
     all_goals grind
    refine⟨?_, ?_⟩
    .unfold bG;grind
    .unfold cN at h ⊢;rw[hg]at h ⊢;dsimp only at h ⊢;unfold eQ at h ⊢;rw[n1,n2]at h;rw[n1,n2];dsimp only at h ⊢;unfold cx at h ⊢;rw[ho]at h ⊢;dsimp only at h ⊢;rw[hc]at h ⊢;dsimp only at h ⊢;rw[hl];split at h
     .rename_i g cap r2 H2' ids2 hs2 ha hh;simp only[List.cons.injEq,ar.call.injEq]at hh;obtain⟨⟨rfl,rfl,rfl⟩,rfl⟩:=hh;split at h
      .rename_i hk;split at h
       .rename_i args' Hin r' Hb e1 e2 e3 e4;simp only[yaa,yp,yz]at h;obtain⟨rfl,rfl,rfl,rfl⟩:=h;have e5:∀(X:yL ay),aJ X [] []=ab []:=λX=>rfl;rw[e5]at e2;cases e2;refine⟨Hb,by simp[au,iP], ?_⟩;rw[yW hk,e1,e5,e3,e4];simp[au,iP]
       .cases h
      .cases h
     .cases h
   .cases hp
  .cases hp
 .cases hp
theorem ZFU:∀{hs:yL ar}{d:Dv}{n:Nat},(YL d n hs).2.1=[]->(YL d n hs).1=d
 |[],d,n,_=>by simp[YL]
 |x::hs,d,n,h=>by
  cases x with
  |bP yM s e=>
   simp only[YL]at h ⊢;split
   .rename_i d' hg;rw[hg]at h;cases h
   .rfl
  |_=>simp[YL]
theorem ZPQ{σ:Sg}(ok:Ok σ):To σ { σ with m:=σ.m++[ae],H:=σ.H++[.gone]}/\Ok { σ with m:=σ.m++[ae],H:=σ.H++[.gone]}:=
 VV (σ':={ σ with m:=σ.m++[ae],H:=σ.H++[.gone]}) ok rfl rfl rfl rfl (World.grownBy.refl σ.w ae) (.inl rfl) (λ_=>trivial)
mutual
theorem kf{f g:Nat->yO Nat}(hfg:∀j k,f j=ab k->g j=ab k):∀(d d':Dv),d.rn f=ab d'->d.rn g=ab d'
 |.p x,d',h=>h
 |.elem x,d',h=>h
 |.am id off yM,d',h=>by
  simp only[Dv.rn,yn]at h ⊢;obtain⟨i,h1,h2⟩:=h
  exact⟨i,hfg _ _ h1,h2⟩
 |.own id nn s xs,d',h=>by
  simp only[Dv.rn,yn]at h ⊢;obtain⟨i,h1,h2⟩:=h
  exact⟨i,hfg _ _ h1,h2⟩
 |.view id off yM s lo n,d',h=>by
  simp only[Dv.rn,yn]at h ⊢;obtain⟨i,h1,h2⟩:=h
  exact⟨i,hfg _ _ h1,h2⟩
 |.mp id,d',h=>by
  simp only[Dv.rn,yn]at h ⊢;obtain⟨i,h1,h2⟩:=h
  exact⟨i,hfg _ _ h1,h2⟩
 |.rv id v s lo n,d',h=>by
  simp only[Dv.rn,yn]at h ⊢;obtain⟨i,h1,h2⟩:=h
  exact⟨i,hfg _ _ h1,h2⟩
 |.aZ id v off yM,d',h=>by
  simp only[Dv.rn,yn]at h ⊢;obtain⟨i,h1,h2⟩:=h
  exact⟨i,hfg _ _ h1,h2⟩
 |.agg xs,d',h=>by
  simp only[Dv.rn,yn]at h ⊢;obtain⟨i,h1,h2⟩:=h
  exact⟨i,dh hfg xs i h1,h2⟩
 |.arr n s xs,d',h=>by
  simp only[Dv.rn,yn]at h ⊢;obtain⟨i,h1,h2⟩:=h
  exact⟨i,dh hfg xs i h1,h2⟩
 |.fn g0 xs,d',h=>by
  simp only[Dv.rn,yn]at h ⊢;obtain⟨i,h1,h2⟩:=h
  exact⟨i,dh hfg xs i h1,h2⟩
 |.iface t x,d',h=>by
  simp only[Dv.rn,yn]at h ⊢;obtain⟨i,h1,h2⟩:=h
  exact⟨i,kf hfg x i h1,h2⟩
 |.bi xs,d',h=>by
  simp only[Dv.rn,yn]at h ⊢;obtain⟨i,h1,h2⟩:=h
  exact⟨i,dh hfg xs i h1,h2⟩
 |.aA,d',h=>h
theorem dh{f g:Nat->yO Nat}(hfg:∀j k,f j=ab k->g j=ab k):∀(d d':yL Dv),Dv.bt f d=ab d'->Dv.bt g d=ab d'
 |[],d',h=>h
 |x::r,d',h=>by
  simp only[Dv.bt]at h ⊢;split at h
  .rename_i y ys h1 h2;rw[kf hfg x y h1,dh hfg r ys h2];exact h
  .cases h
end
theorem ZMX{f g:Nat->yO Nat}(hfg:∀j k,f j=ab k->g j=ab k):∀(d d':ay),d.rn f=ab d'->d.rn g=ab d'
 |.var d st,d',h=>by
  simp only[ay.rn,yn]at h ⊢;obtain⟨i,h1,h2⟩:=h
  exact⟨i,kf hfg d i h1,h2⟩
 |.row v s st e d,d',h=>by
  simp only[ay.rn,yn]at h ⊢;obtain⟨i,h1,h2⟩:=h
  exact⟨i,kf hfg d i h1,h2⟩
 |.log _ _ _,d',h=>h
 |.map _ _,d',h=>h
 |.gone,d',h=>h
theorem nH{f g:Nat->yO Nat}(hfg:∀j k,f j=ab k->g j=ab k):∀(d d':yL ay),ay.bt f d=ab d'->ay.bt g d=ab d'
 |[],d',h=>h
 |x::r,d',h=>by
  simp only[ay.bt]at h ⊢;split at h
  .rename_i y ys h1 h2;rw[ZMX hfg x y h1,nH hfg r ys h2];exact h
  .cases h
theorem lT(ids:yL Nat)(n:Nat):∀j k,ids[j]? =ab k->aO ids n j=ab k:=λj k h=>by
 unfold aO;grind
theorem QZ{H E:yL ay}{all:yL Nat}:∀{ids:yL Nat}{Hin:yL ay},aJ H all ids=ab Hin->aJ (H++E) all ids=ab Hin/\∀id,id∈ids->id < H.length
 |[],Hin,h=>⟨h,λ_ h=>by cases h⟩
 |id::r,Hin,h=>by
  simp only[aJ]at h ⊢;split at h
  .rename_i e es h1 h2;obtain⟨k1,k2⟩:=QZ (E:=E) h2;grind
  .cases h
theorem rJ{α:Type}{E:yL α}:∀{ids:yL Nat}{H Hb:yL α},Hb.length=ids.length->(∀id,id∈ids->id < H.length)->au (H++E) ids Hb=au H ids Hb++E/\(au H ids Hb).length=H.length
 |[],H,Hb,hl,_=>by
  have:Hb=[]:=ybh (by simpa using hl);subst this
  simp[au]
 |id::r,H,[],hl,_=>by simp at hl
 |id::r,H,e::Hb,hl,hi=>by
  simp only[au];rw[List.set_append_left _ _ (hi id (List.mem_cons_self ..))];obtain⟨h1,h2⟩:=rJ (E:=E) (ids:=r) (H:=H.set id e) (Hb:=Hb) (by simpa using hl) (λi h=>by rw[List.length_set];exact hi i (List.mem_cons_of_mem _ h));grind
theorem vE{f:Nat->yO Nat}:∀{l l':yL ay},ay.bt f l=ab l'->l'.length=l.length
 |[],l',h=>by cases h;rfl
 |x::r,l',h=>by
  simp only[ay.bt]at h;split at h
  .rename_i y ys h1 h2;cases h;rw[yam,yam,vE h2]
  .cases h
theorem ZPR{o:Oper}{ts:yL Dv}{H:yL ay}{hs:yL ar}{C:yL Prop}{d:Dv}{H':yL ay}{hs':yL ar}(h:cN P ops o ts H hs=ab (C,d,H',hs'))(hp:kJ o hs=af):
 bG P o ts H hs≠1/\H'.length=H.length/\∀E,cN P ops o ts (H++E) hs=ab (C,d,H'++E,hs'):=by
 unfold kJ at hp;rw[yi]at hp;obtain⟨hg,hp⟩:=hp;have hg:o.guard=ae:=by simpa using hg
 have key:(∀H,bB P o ts H hs=ae)->(∀H1,cx P o ts H hs=ab (C,d,H1,hs')->H1.length=H.length/\∀E,cx P o ts (H++E) hs=ab (C,d,H1++E,hs'))->
  bG P o ts H hs≠1/\H'.length=H.length/\∀E,cN P ops o ts (H++E) hs=ab (C,d,H'++E,hs'):=by
  intro n2 hE;refine⟨?_, ?_⟩
  .unfold bG;grind
  .unfold cN at h ⊢;rw[hg]at h ⊢;dsimp only at h ⊢;unfold eQ at h ⊢
   cases hn:be P o ts hs with
   |some q=>
    rw[hn]at h;simp only[yaa,yp,yz]at h;obtain⟨h1,h2,rfl,h4⟩:=h;refine⟨rfl,λE=> ?_⟩;simp only[yaa,yp,yz]
    exact⟨h1,h2,zZ,h4⟩
   |none=>
    rw[hn,n2]at h;dsimp only at h;obtain⟨⟨C1,d1,H1,hs1⟩,h1,h2⟩:=yn.1 h;simp only[iP,yar,yz]at h2;obtain⟨rfl,rfl,rfl,rfl⟩:=h2;obtain⟨k1,k2⟩:=hE H1 h1;refine⟨k1,λE=> ?_⟩;rw[n2];dsimp only;rw[k2 E];simp[iP]
 split at hp
 .rename_i c ho;split at hp
  .rename_i f hc;split at hp
   .rename_i r Hn ids hs0;unfold mZ at hp;simp only[yi,yT,Option.isSome_iff_exists]at hp;obtain⟨⟨p1,d0,p2⟩,Hb0,p3⟩:=hp;refine key (λH=>by unfold bB;rw[ho];dsimp only;rw[hc];dsimp only;try (split <;> first|rfl|(rename_i hh;cases hh))) λH1 hE=> ?_
    unfold cx at hE;rw[ho]at hE;dsimp only at hE;rw[hc]at hE;dsimp only at hE;split at hE
    .rename_i g cap r2 H2 ids2 hs2 ha hh;simp only[List.cons.injEq,ar.call.injEq]at hh;obtain⟨⟨rfl,rfl,rfl⟩,rfl⟩:=hh;split at hE
     .rename_i hk;split at hE
      .rename_i args' Hin r' Hb e1 e2 e3 e4;cases hE;rw[kf (lT ids H.length) _ _ p2]at e3;cases e3;rw[nH (lT ids H.length) _ _ p3]at e4;cases e4;have hlb:Hb0.length=ids.length:=by rw[vE p3,p1]
       refine⟨(rJ (E:=[]) hlb (QZ (E:=[]) e2).2).2,λE=> ?_⟩;unfold cx;rw[ho];dsimp only;rw[hc];dsimp only;rw[ha];dsimp only;rw[yW hk,e1,(QZ (E:=E) e2).1,kf (lT ids _) _ _ p2,nH (lT ids _) _ _ p3];dsimp only;rw[(rJ (E:=E) hlb (QZ (E:=[]) e2).2).1]
      .cases hE
     .cases hE
    .cases hE
   .cases hp
  .rename_i rc nm hc;split at hp
   .rename_i g0 r Hn ids hs0;unfold mZ at hp;simp only[yi,yT,Option.isSome_iff_exists]at hp;obtain⟨⟨p1,d0,p2⟩,Hb0,p3⟩:=hp;refine key (λH=>by unfold bB;rw[ho];dsimp only;rw[hc]) λH1 hE=> ?_;unfold cx at hE;rw[ho]at hE;dsimp only at hE;rw[hc]at hE;dsimp only at hE;split at hE
    .rename_i t x g r2 H2 ids2 hs2 ha hh;simp only[List.cons.injEq,ar.call.injEq,ar.im.injEq]at hh;obtain⟨rfl,⟨rfl,rfl,rfl⟩,rfl⟩:=hh;split at hE
     .rename_i hk;split at hE
      .rename_i args' Hin r' Hb e1 e2 e3 e4;cases hE;rw[kf (lT ids H.length) _ _ p2]at e3;cases e3;rw[nH (lT ids H.length) _ _ p3]at e4;cases e4;have hlb:Hb0.length=ids.length:=by rw[vE p3,p1]
       refine⟨(rJ (E:=[]) hlb (QZ (E:=[]) e2).2).2,λE=> ?_⟩;unfold cx;rw[ho];dsimp only;rw[hc];dsimp only;rw[ha];dsimp only;rw[yW hk,e1,(QZ (E:=E) e2).1,kf (lT ids _) _ _ p2,nH (lT ids _) _ _ p3];dsimp only;rw[(rJ (E:=E) hlb (QZ (E:=[]) e2).2).1]
      .cases hE
     .cases hE
    .cases hE
   .cases hp
  .cases hp
 .cases hp
theorem ZMY{σ:Sg}{a:Act}{o:Oper}{ts:yL Dv}{H E:yL ay}{hs:yL ar}{C:yL Prop}{d:Dv}{H':yL ay}{hs':yL ar}(ok:Ok σ)(yK:aK σ ts a)(h:cN P ops o ts H hs=ab (C,d,H',hs'))(hAC:ba C)(hp:iQ o hs H.length=af)
 (hl:H'.length=H.length+1) (hσ:σ.H=H++.gone::E) (K:Act->World->Prop) (Q:Exit->Act->World->Prop)
 (hK:∀v σ',σ'.H=H'++E->To σ σ'->Ok σ'->aK σ' (fM ts o.dst d) (a.put o.dst v)->K (a.put o.dst v) σ'.w):
 if Region.wanted o (yielded ops a.tmps) then o.wp P a σ.w K Q else K (a.put o.dst undef) σ.w:=by
 unfold iQ at hp;rw[yi]at hp;obtain⟨hg,hp⟩:=hp;have hg:o.guard=ae:=by simpa using hg
 have hw:Region.wanted o (yielded ops a.tmps)=af:=by simp[Region.wanted,hg]
 rw[yW hw];split at hp
 .rename_i t ho;have n1:∀hs,be P o ts hs=ae:=λhs=>by unfold be;rw[ho]
  have n2:∀H hs,bB P o ts H hs=ae:=λH hs=>by unfold bB;rw[ho]
  unfold cN at h;rw[hg]at h;dsimp only at h;unfold eQ at h;rw[n1,n2]at h;dsimp only at h;unfold cx at h;rw[ho]at h;dsimp only at h;split at h
  .rename_i i hi;split at h
   .split at h
    .rename_i hk;simp only[yaa,yp,yz]at h;obtain⟨rfl,rfl,rfl,rfl⟩:=h;rw[yl,yam]at hl;have he:(YL (WH P t) (H.length+1) hs).2.1=[]:=ybh (by omega);have hd:=ZFU he;rw[he,hd]at hK;simp only[yi]at hk;obtain⟨z,hzz,_⟩:=kQ hk.1.1;have hid:σ.H[H.length]? =ab .gone:=by rw[hσ,yaq (yj _),Nat.sub_self];rfl
     have h1:=ZHU (P:=P) (o:=o) (a:=a) ok hid ho hi (by rw[hzz];rfl) hk.1.2 hk.2;refine h1 K Q λv σ' e1 to ok' hv=>hK v σ' ?_ to ok' (oX (yK.to to.leaf) hv);grind
    .cases h
   .cases h
  .cases h
 .rename_i c ho;split at hp
  .rename_i f hc;split at hp
   .rename_i r Hn ids hs0;rw[yi]at hp;have hids:ids=[]:=by simpa using hp.1
    subst hids;have hp:=hp.2;unfold mZ at hp;simp only[yi,yT,Option.isSome_iff_exists]at hp;obtain⟨⟨p1,r0,p2⟩,Hb0,p3⟩:=hp;have hne:Hn≠[]:=λq=>by rw[q]at p1;simp at p1
    obtain⟨e0,rfl⟩:∃e0,Hn=[e0]:=by
     cases Hn with
     |nil=>exact absurd rfl hne
     |cons x q=>cases q with
      |nil=>exact⟨x,rfl⟩
      |cons _ _=>simp at p1
    have n1:be P o ts (.call r [e0] []::hs0)=ae:=by
     unfold be;rw[ho];dsimp only;rw[hc];dsimp only
     all_goals grind
    have n2:∀H,bB P o ts H (.call r [e0] []::hs0)=ae:=λH=>by
     unfold bB;rw[ho];dsimp only;rw[hc];dsimp only
     all_goals grind
    unfold cN at h;rw[hg]at h;dsimp only at h;unfold eQ at h;rw[n1,n2]at h;dsimp only at h;unfold cx at h;rw[ho]at h;dsimp only at h;rw[hc]at h;dsimp only at h;split at h
    .rename_i g cap r2 H2' ids2 hs2 ha hh;simp only[List.cons.injEq,ar.call.injEq]at hh;obtain⟨⟨rfl,rfl,rfl⟩,rfl⟩:=hh;split at h
     .rename_i hk;split at h
      .rename_i args' Hin r' Hb e1 e2 e3 e4;simp only[yaa,yp,yz]at h;obtain⟨rfl,rfl,rfl,rfl⟩:=h;have e5:aJ H [] []=ab []:=rfl;rw[e5]at e2;cases e2;simp only[yi,yT,yP]at hk
       have hm:∀(m:Nat)(j k:Nat),[H.length][j]? =ab k->aO [] H.length j=ab k:=λm j k q=>by
        cases j with
        |zero=>cases q;simp[aO]
        |succ j=>simp at q
       have hm2:∀(m:Nat)(j k:Nat),[H.length][j]? =ab k->aO [H.length] m j=ab k:=λm j k q=>by
        cases j with
        |zero=>cases q;simp[aO]
        |succ j=>simp at q
       have f1:=kf (hm 0) _ _ p2;rw[f1]at e3;cases e3;have f2:=nH (hm 0) _ _ p3;rw[f2]at e4;cases e4;have hlb:Hb0.length=1:=by rw[vE p3];rfl
       obtain⟨b0,rfl⟩:∃b0,Hb0=[b0]:=by
        cases Hb0 with
        |nil=>simp at hlb
        |cons x q=>cases q with
         |nil=>exact⟨x,rfl⟩
         |cons _ _=>simp at hlb
       obtain⟨fs,cs,hfe,hav⟩:=ZPL (P:=P) yK (c:=c) [] ha hk.1.1.2;have hid:σ.H[H.length]? =ab .gone:=by rw[hσ,yaq (yj _),Nat.sub_self];rfl
       have e7:=e1;rw[rE]at e7;have e8:=bK (f:=aV []) _ _ e7;rw[e1]at e8;cases e8;have e6:=bK (f:=aV [H.length]) _ _ e7
       have hin:aJ σ.H [H.length] [H.length]=ab [.gone]:=by
        simp[aJ,hid,ay.rn]
       have hx:=EJ (P:=P) (o:=o) (a:=a) σ.w ho hc hfe hk.1.1.1
       have h1:=EK (P:=P) (o:=o) (a:=a) (ids:=[H.length]) (Hin:=[.gone]) (H':=[e0]) (Hb:=[b0]) ok hx hav rfl (yj _) e6 hin (kf (hm2 σ.H.length) _ _ p2) (nH (hm2 σ.H.length) _ _ p3)
        (ZMW hAC.1 ⟨_,e1⟩)
       refine h1 K Q λv σ' e1 to ok' hv=>hK v σ' ?_ to ok' (oX (yK.to to.leaf) hv);rw[e1,hσ];simp[au,List.set_append_right]
      .cases h
     .cases h
    .cases h
   .cases hp
  .cases hp
 .cases hp
theorem ZMZ{o:Oper}{ts:yL Dv}{H:yL ay}{hs:yL ar}:bG P o ts H hs<=2:=by
 unfold bG;grind
end
def kg(ts:yL Dv)(l:yL (yO Tmp×Dv)):yL Dv:=l.foldl (λts q=>fM ts q.1 q.2) ts
section
variable{P:yg}{ops:Array Oper}
theorem ZFV:∀(l:yL Oper)(ts:yL Dv)(H:yL ay)(hs:yL ar)(C:yL Prop)(rs:yL Rec)(ts':yL Dv)(H':yL ay)(hs':yL ar),na P ops l ts H hs=ab (C,rs,ts',H',hs')->ba C->
 rs.length=l.length/\ts'=kg ts ((l.zip rs).map λq=>(q.1.dst,q.2.d))/\(l=[]->H'=H)/\
 ∀(i:Nat)(o:Oper),l[i]? =ab o->∃r,rs[i]? =ab r/\ba r.C/\cN P ops o (ZS (looks ops o) 0 (kg ts (((l.zip rs).take i).map λq=>(q.1.dst,q.2.d)))) r.H r.hs=ab (r.C,r.d,r.H',r.hs')/\
  r.bC=bG P o (ZS (looks ops o) 0 (kg ts (((l.zip rs).take i).map λq=>(q.1.dst,q.2.d)))) r.H r.hs/\
  (r.rd=qS P o (ZS (looks ops o) 0 (kg ts (((l.zip rs).take i).map λq=>(q.1.dst,q.2.d))))/\r.tc=kK P o (ZS (looks ops o) 0 (kg ts (((l.zip rs).take i).map λq=>(q.1.dst,q.2.d)))) r.hs/\r.push=iQ o r.hs r.H.length/\r.loc=kJ o r.hs/\r.ex=jV o)/\(i=0->r.H=H)/\(∀r2,rs[i+1]? =ab r2->r2.H=r.H')/\(i+1=l.length->H'=r.H')
 |[],ts,H,hs,C,rs,ts',H',hs',h,hc=>by
  simp only[na,yp,yz]at h;obtain⟨rfl,rfl,rfl,rfl,rfl⟩:=h
  exact⟨rfl,rfl,λ_=>rfl,λi o hi=>by simp at hi⟩
 |o::l,ts,H,hs,C,rs,ts',H',hs',h,hc=>by
  simp only[na]at h;split at h
  .rename_i C1 d1 H1 hs1 h1;split at h
   .rename_i C2 rs2 ts2 H2 hs2 h2;simp only[yp,yz]at h;obtain⟨rfl,rfl,rfl,rfl,rfl⟩:=h;obtain⟨c1,c2⟩:=Zr.1 hc;obtain⟨k1,k2,k3,k4⟩:=ZFV l _ _ _ _ _ _ _ _ h2 c2;refine⟨by simp[k1],by rw[k2];rfl,by simp,λi o' hi=> ?_⟩
    cases i with
    |zero=>
     simp only[ybm,yp]at hi;subst hi;refine⟨_,rfl,c1,h1,rfl,⟨rfl,rfl,rfl,rfl,rfl⟩,λ_=>rfl,λr2 hr2=> ?_,λhl=> ?_⟩
     .simp only[yay]at hr2
      cases l with
      |nil=>
       have:rs2=[]:=ybh (by simpa using k1);subst this
       simp at hr2
      |cons o2 l2=>
       obtain⟨r,j1,_,_,_,_,j2,_⟩:=k4 0 o2 rfl;rw[hr2]at j1;cases j1;exact j2 rfl
     .have:l=[]:=ybh (by simpa using hl.symm)
      exact k3 this
    |succ i=>
     simp only[yay]at hi;obtain⟨r,j1,j2,j3,j4,j45,j5,j6,j7⟩:=k4 i o' hi;refine⟨r,by simpa using j1,j2,j3,j4,j45,λh0=>by omega,λr2 hr2=>j6 r2 (by simpa using hr2),λhl=>j7 (by simpa using hl)⟩
   .cases h
  .cases h
theorem ZLr(ts:yL Dv)(l:yL (yO Tmp×Dv))(q:yO Tmp×Dv):kg ts (l++[q])=fM (kg ts l) q.1 q.2:=by simp[kg]
def iu(X:Nat->Bool):Nat->Nat
 |0=>0
 |k+1=>iu X k+(if X k then 0 else 1)
theorem ZJK{X:Nat->Bool}:∀{k:Nat},iu X k=0->∀j,j < k->X j=af
 |0,_,j,h=>by omega
 |k+1,h,j,hj=>by
  simp only[iu]at h;by_cases hk:j=k
  .grind
  .exact ZJK (k:=k) (by omega) j (by omega)
theorem ZM0{X:Nat->Bool}:∀{k:Nat},iu X k<=k
 |0=>yj _
 |k+1=>by
  have:=ZM0 (X:=X) (k:=k);simp only[iu];grind
theorem ZFW{X Y:Nat->Bool}:∀{k:Nat},(∀j,j < k->Y j=X j)->iu Y k=iu X k
 |0,_=>rfl
 |k+1,h=>by
  simp only[iu];rw[ZFW (k:=k) (λj hj=>h j (by omega)),h k (by omega)]
theorem ZFX{X Y:Nat->Bool}{i:Nat}(hi:X i=ag):∀{k:Nat},i < k->(∀j,j < k->Y j=(X j || decide (j=i)))->iu Y k+1=iu X k
 |0,h,_=>by omega
 |k+1,h,hY=>by
  simp only[iu];by_cases hk:i=k
  .subst hk
   rw[ZFW (X:=X) (Y:=Y) (λj hj=>by
    rw[hY j (by omega)];have:¬j=i:=by omega
    simp[this]),hY i (by omega),hi]
   simp
  .have:=ZFX hi (k:=k) (by omega) (λj hj=>hY j (by omega));grind
theorem Zzz:∀(l:yL Oper)(i:Nat),re l i=af->∀(j:Nat)(o:Oper),l[j]? =ab o->∀e,e∈o.after->Region.binds .any e=af->e.on < i+j
 |[],i,_,j,o,ho,_,_,_=>by simp at ho
 |o::l,i,h,j,o',ho,e,he,hb=>by
  simp only[re,yi,ybx]at h
  cases j with
  |zero=>
   simp only[ybm,yp]at ho;subst ho;have:=h.1 e (by simpa using he)
   simpa[hb] using this
  |succ j=>
   simp only[yay]at ho;have:=Zzz l (i+1) h.2 j o' ho e he hb;omega
theorem Zt5(keep:yL Nat):∀(l:yL Dv)(k:Nat),(ZS keep k l).length=l.length
 |[],k=>rfl
 |x::l,k=>by simp[ZS,Zt5 keep l]
theorem ZR8{σ:Sg}{a:Act}{ts ms:yL Dv}{dst:yO Tmp}{d:Dv}{v:yh}(hl:ms.length=ts.length)(h1:aK σ ts a)(h2:aK σ (fM ms dst d) (a.put dst v)):aK σ (fM ts dst d) (a.put dst v):=by
 unfold fM Act.put at*
 cases dst with
 |none=>exact h1
 |some t=>
  refine⟨by simpa using h1.size,λi e hi=> ?_,h1.defers⟩;by_cases hit:t=i
  .subst hit;refine h2.at_ t e ?_;simp only[yca]at hi ⊢;rw[hl];exact hi
  .rw[yca,yX hit]at hi;have:=h1.at_ i e hi;simpa[Array.getD_eq_getD_getElem?,Array.getElem?_setIfInBounds,hit] using this
theorem ZDL{σ:Sg}{a:Act}{ts:yL Dv}{hs hs':yL ar}{C:yL Prop}{ts':yL Dv}{H':yL ay}{id:Nat}(ok:Ok σ)(yK:aK σ ts a)(h:uU P ops ts σ.H hs=ab (C,ts',H',hs'))(hc:ba C)
 (Q:Exit->Act->World->Prop) (hQ:∀a' σ',σ'.H=H'->To σ σ'->Ok σ'->aK σ' ts' a'->Q .normal a' σ'.w):(Code.region id ops af).wp P Q a σ.w:=by
 unfold uU at h;split at h
 .rename_i hm;split at h
  .rename_i C1 rs ts1 H1 hs1 hev;split at h
   .rename_i hdr;simp only[yp,yz]at h;obtain⟨rfl,rfl,rfl,rfl⟩:=h;obtain⟨zV,hts',hnil,zY⟩:=ZFV _ _ _ _ _ _ _ _ _ hev hc;let n:=ops.size;let dst:Nat->yO Tmp:=λi=>iR ops.toList i;let D:Nat->Dv:=λi=>((rs[i]?).map (·.d)).getD .aA;let bC:Nat->Nat:=λi=>(rs.map (·.bC)).getD i 0;let A:yL Nat:=DM ops.toList;have hn:ops.toList.length=n:=by simp[n]
    have hrl:rs.length=n:=by rw[zV,hn]
    unfold uT at hdr;simp only[yi]at hdr;obtain⟨⟨⟨⟨⟨_,hback⟩,hanc⟩,huniq⟩,hlook⟩,oe⟩:=hdr;have hopl:∀(i:Nat),ops.toList[i]? =ops[i]? :=λi=>by simp
    have hA:∀i o,ops[i]? =ab o->A.getD i 0=nb A i o:=by
     grind
    have hu:∀i j,i < n->j < n->dst i≠ae->dst i=dst j->i=j:=by
     intro i j hi hj h1 h2;have:=ybx.1 (ybx.1 huniq i (List.mem_range.2 (by rw[hn];exact hi))) j (List.mem_range.2 (by rw[hn];exact hj))
     all_goals grind
    have hL:∀i o j t,ops[i]? =ab o->j < n->dst j=ab t->t∈looks ops o->i≠j->(if j < i then(A.getD i 0).testBit j else(A.getD j 0).testBit i)=af:=by
     all_goals grind
    obtain⟨c0,_,oe⟩:=List.any_eq_true.1 oe
    have hE0:∀i j,i < n->j < n->bC i≠0->bC j=2->i≠j->(if j < i then(A.getD i 0).testBit j else(A.getD j 0).testBit i)=af\/(bC i=1/\lN rs i j=af)\/jW rs c0 i j=af:=by
     all_goals grind
    have hTS:∀i,i<=n->kg ts (((ops.toList.zip rs).take i).map λq=>(q.1.dst,q.2.d))=ei n dst D ts (λj=>ah (j < i)):=by
     intro i
     induction i with
     |zero=>
      intro _;rw[ZCu (λj _=>by simp)]
      simp[kg]
     |succ i ih=>
      intro hi;have h1:i < ops.toList.length:=by rw[hn];omega
      have h2:i < rs.length:=by rw[hrl];omega
      have hz:(ops.toList.zip rs)[i]? =ab (ops.toList[i],rs[i]):=by
       grind
      rw[List.take_add_one,hz];simp only[Option.toList_some,yao,yag,List.map_nil];rw[ZLr,ih (by omega)];have hd:ops.toList[i].dst=dst i:=by show _=iR ops.toList i;unfold iR;rw[yac h1];rfl
      have hD:rs[i].d=D i:=by simp[D,yac h2]
      rw[hd,hD]
      exact ZJJ hu (by omega) (by simp) (λj _=>by
       by_cases hj:j < i <;> by_cases hj2:j=i <;> simp[hj,hj2] <;> omega)
    have hspec':∀(i:Nat)(o:Oper),ops[i]? =ab o->∃r,rs[i]? =ab r/\ba r.C/\cN P ops o (ZS (looks ops o) 0 (ei n dst D ts (λj=>ah (j < i)))) r.H r.hs=ab (r.C,r.d,r.H',r.hs')/\
     r.bC=bG P o (ZS (looks ops o) 0 (ei n dst D ts (λj=>ah (j < i)))) r.H r.hs/\
     (r.rd=qS P o (ZS (looks ops o) 0 (ei n dst D ts (λj=>ah (j < i))))/\r.tc=kK P o (ZS (looks ops o) 0 (ei n dst D ts (λj=>ah (j < i)))) r.hs/\r.push=iQ o r.hs r.H.length/\r.loc=kJ o r.hs/\r.ex=jV o)/\(i=0->r.H=σ.H)/\(∀r2,rs[i+1]? =ab r2->r2.H=r.H')/\(i+1=n->H1=r.H'):=by
     grind
    let HH:Nat->yL ay:=λi=>if i < n then((rs[i]?).map (·.H)).getD [] else H1
    have hHH:∀i r,rs[i]? =ab r->HH i=r.H/\HH (i+1)=r.H':=by
     intro i r hr;have hi:i < n:=by rw[<-hrl];exact(yo.1 hr).1
     have hio:ops[i]? =ab ops[i]:=ycv hi
     all_goals grind
    have hcl:∀i r,rs[i]? =ab r->bC i=r.bC:=by
     grind
    have hstay:∀i,i < n->bC i≠2->HH (i+1)=HH i:=by
     intro i hi h2;have hio:ops[i]? =ab ops[i]:=ycv hi;obtain⟨r,k1,_,k3,k4,_⟩:=hspec' i _ hio;rw[(hHH i r k1).1,(hHH i r k1).2];exact ZMV k3 (by rw[<-k4, <-hcl i r k1];exact h2)
    have hlev:∀(i k:Nat),i+k<=n->(∀e,i<=e->e < i+k->bC e≠2)->HH (i+k)=HH i:=by
     intro i k
     induction k with
     |zero=>intro _ _;rfl
     |succ k ih=>
      intro hk he;rw[<-Nat.add_assoc,hstay (i+k) (by omega) (he _ (by omega) (by omega)),ih (by omega) (λe h1 h2=>he e h1 (by omega))]
    let Lev:(Nat->Bool)->Nat->Prop:=λX i=>i<=n/\∀e,e < n->bC e=2->(X e=af↔e < i)
    have hsameLev:∀(X:Nat->Bool)(i k:Nat),Lev X i->Lev X k->HH i=HH k:=by
     have main:∀(X:Nat->Bool)(i k:Nat),i<=k->Lev X i->Lev X k->HH i=HH k:=by
      intro X i k hik h1 h2
      have:=hlev i (k - i) (by have:=h2.1;omega) (λe he1 he2 hce=>by
       have hen:e < n:=by have:=h2.1;omega
       have h3:=(h1.2 e hen hce);have h4:=(h2.2 e hen hce);have:X e=af:=h4.2 (by omega);have:=h3.1 this;omega)
      rw[<-this];congr 1;omega
     intro X i k h1 h2;rcases Nat.le_total i k with h3|h3
     .exact main X i k h3 h1 h2
     .exact(main X k i h3 h2 h1).symm
    have hcle:∀i,i < n->bC i<=2:=by
     intro i hi;obtain⟨r,k1,_,k3,k4,_⟩:=hspec' i _ (ycv hi);rw[hcl i r k1,k4];exact ZMZ
    have hpsh:∀i r,rs[i]? =ab r->r.push=af->bC i=2/\∃E,HH (i+1)=HH i++E/\∀o,ops[i]? =ab o->∀H2,H2.length=(HH i).length->cN P ops o (ZS (looks ops o) 0 (ei n dst D ts (λj=>ah (j < i)))) H2 r.hs=ab (r.C,r.d,H2++E,r.hs'):=by
     intro i r hr hp;have hi:i < n:=by rw[<-hrl];exact(yo.1 hr).1
     have hio:ops[i]? =ab ops[i]:=ycv hi;obtain⟨r',k1,_,k3,k4,k45,_⟩:=hspec' i _ hio;rw[hr]at k1;cases k1;rw[k45.2.2.1]at hp;obtain⟨q1,E,q2,_⟩:=ZFT (H2:=r.H) k3 hp rfl;refine⟨by rw[hcl i r hr,k4,q1],E,by rw[(hHH i r hr).1,(hHH i r hr).2,q2],λo ho H2 hl=> ?_⟩;rw[hio]at ho;cases ho;obtain⟨_,E2,q3,q4⟩:=ZFT (H2:=H2) k3 hp (by rw[hl,(hHH i r hr).1]);rw[q2]at q3;rw[List.append_cancel_left q3];exact q4
    have hlocc:∀i r,rs[i]? =ab r->r.loc=af->bC i≠1/\(HH (i+1)).length=(HH i).length/\∀o,ops[i]? =ab o->∀E,cN P ops o (ZS (looks ops o) 0 (ei n dst D ts (λj=>ah (j < i)))) (HH i++E) r.hs=ab (r.C,r.d,HH (i+1)++E,r.hs'):=by
     intro i r hr hp;have hi:i < n:=by rw[<-hrl];exact(yo.1 hr).1
     have hio:ops[i]? =ab ops[i]:=ycv hi;obtain⟨r',k1,_,k3,k4,k45,_⟩:=hspec' i _ hio;rw[hr]at k1;cases k1;rw[k45.2.2.2.1]at hp;obtain⟨q1,q2,q3⟩:=ZPR k3 hp;refine⟨by rw[hcl i r hr,k4];exact q1,by rw[(hHH i r hr).1,(hHH i r hr).2,q2],λo ho E=> ?_⟩;rw[hio]at ho;cases ho;rw[(hHH i r hr).1,(hHH i r hr).2];exact q3 E
    let Psh:Nat->Prop:=λi=>∃r,rs[i]? =ab r/\r.push=af;let Loc:Nat->Prop:=λi=>∃r,rs[i]? =ab r/\r.loc=af;let Pu:Nat->Prop:=λi=>∃r,rs[i]? =ab r/\r.push=af/\r.H'.length=r.H.length+1/\∀k q,k < i->rs[k]? =ab q->q.H.length<=r.H.length
    have hcomm:∀i j,jW rs c0 i j=af->(Loc c0\/Pu c0)/\((i=c0/\c0 < j/\Psh j)\/(j=c0/\c0 < i/\Psh i)):=by
     intro i j h
     have hget:∀(f:Rec->Bool)(k:Nat),((rs[k]?).map f).getD ag=af->∃r,rs[k]? =ab r/\f r=af:=by
      intro f k hk
      cases hr:rs[k]? with
      |none=>rw[hr]at hk;cases hk
      |some r=>rw[hr]at hk;exact⟨r,rfl,hk⟩
     unfold jW at h;simp only[yi,yct,yT,yP]at h;obtain⟨h1,h2⟩:=h;refine⟨?_, ?_⟩
     .obtain⟨r,q1,q2⟩:=hget _ _ h1;unfold uS at q2;simp only[yct,yi,yT,ybx,yP]at q2;rcases q2 with q2|⟨⟨q2,q3⟩,q4⟩
      .exact .inl ⟨r,q1,q2⟩
      .refine .inr ⟨r,q1,q2,q3,λk q hk hq=>q4 q ?_⟩;rw[List.mem_iff_getElem?];exact⟨k,by rw[ycr,yW hk];exact hq⟩
     rcases h2 with⟨⟨h3,h4⟩,h5⟩|⟨⟨h3,h4⟩,h5⟩
     .exact .inl ⟨h3,h4,hget _ _ h5⟩
     .exact .inr ⟨h3,h4,hget _ _ h5⟩
    let CG:yL ay->Prop:=λG=>(Loc c0/\G=[])\/(Pu c0/\G=[.gone])
    have hGl:∀G,CG G->(HH (c0+1)).length=(HH c0).length+G.length:=by
     rintro G (⟨⟨r,q1,q2⟩,rfl⟩|⟨⟨r,q1,_,q2,_⟩,rfl⟩)
     .rw[(hlocc c0 r q1 q2).2.1];rfl
     .rw[(hHH c0 r q1).1,(hHH c0 r q1).2,q2];rfl
    let Hole:(Nat->Bool)->yL ay->Prop:=λX Hc=>∃lv e0 E G,c0 < n/\CG G/\bC c0=2/\lv<=n/\X c0=ag/\(∀e,e < n->bC e=2->(X e=af↔e < lv/\e≠c0))/\(c0 < e0/\e0 < lv/\bC e0=2/\HH e0=HH (c0+1))/\
     (∀e,c0 < e->e < lv->bC e=2->Psh e)/\Hc=HH c0++(G++E)/\HH lv=HH (c0+1)++E
    let Inv:(Nat->Bool)->yL ay->Prop:=λX Hc=>(∃i,Lev X i/\Hc=HH i)\/Hole X Hc;refine wp_region_any hm ?_
    have walk:∀(yD:Nat)(listed:Array Bool)(a:Act)(σ1:Sg),listed.size=n->iu (λj=>listed.getD j ag) n<=yD->ZMS ops (λj=>listed.getD j ag)->To σ σ1->Ok σ1->
     aK σ1 (ei n dst D ts (λj=>listed.getD j ag)) a->Inv (λj=>listed.getD j ag) σ1.H->wpAny P .any ops Q yD listed a σ1.w:=by
     intro yD
     induction yD with
     |zero=>
      intro listed a σ1 hsz hun hcl1 to1 ok1 hrep1 hlv;have zO:=ZJK (Nat.le_zero.1 hun);refine⟨?_, ?_⟩
      .apply List.eq_nil_iff_forall_not_mem.2;intro j hj;obtain⟨h1,o,ho,_⟩:=mem_ready.1 hj;have hjn:j < n:=(Array.getElem?_eq_some_iff.1 ho).1;have h2:=zO j hjn;have hjs:j < listed.size:=by omega
       simp only[Array.getD,hjs,dif_pos]at h1 h2;rw[h1]at h2;cases h2
      .rcases hlv with⟨i,hi,hH⟩|⟨lv,e0,E,G,g1,_,_,_,g2,_⟩
       case inr=>exact absurd ((zO c0 g1).symm.trans g2) (by simp)
       have hln:Lev (λj=>listed.getD j ag) n:=⟨yj _,λe he _=>⟨λ_=>he,λ_=>zO e he⟩⟩;refine hQ a σ1 ?_ to1 ok1 ?_
       .rw[hH,hsameLev _ i n hi hln];simp[HH]
       .have:ts1=ei n dst D ts (λj=>listed.getD j ag):=by
         have e1:=hTS n (yj _);rw[ybs (by rw[List.length_zip,hn,hrl];simp)]at e1;rw[hts',e1];apply ybj;intro t;by_cases ht:t < ts.length
         .rw[kc ht,kc ht];congr 1;by_cases hex:∃j,j < n/\dst j=ab t
          .obtain⟨j,h1,h2⟩:=hex;rw[kR hu h1 (by simpa using h1) h2,kR hu h1 (zO j h1) h2]
          .rw[kS (λj h1 _ h3=>hex ⟨j,h1,h3⟩),kS (λj h1 _ h3=>hex ⟨j,h1,h3⟩)]
         .rw[ybl (by rw[Vm];omega),ybl (by rw[Vm];omega)]
        rw[this]
        exact hrep1
     |succ yD ih=>
      intro listed a σ1 hsz hun hcl1 to1 ok1 hrep1 hlv;refine⟨λhr=> ?_,λi hi=> ?_⟩
      . 
       have zO:∀j,j < n->listed.getD j ag=af:=by
        intro j
        induction j using Nat.strongRecOn with
        |_ j ihj=>
         intro hj
         cases hx:listed.getD j ag with
         |true=>rfl
         |false=>
          have hjs:j < listed.size:=by omega
          have hjo:ops[j]? =ab ops[j]:=ycv hj
          have:j∈Region.ready .any ops listed:=by
           refine mem_ready.2 ⟨?_,ops[j],hjo,λe he hb=> ?_⟩
           .simp only[Array.getD,hjs,dif_pos]at hx ⊢;exact hx
           .have hlt:=Zzz ops.toList 0 hback j ops[j] (by rw[hopl];exact hjo) e he hb;exact ihj e.on (by omega) (by omega)
          rw[hr]at this;cases this
       rcases hlv with⟨i,hi,hH⟩|⟨lv,e0,E,G,g1,_,_,_,g2,_⟩
       case inr=>exact absurd ((zO c0 g1).symm.trans g2) (by simp)
       have hln:Lev (λj=>listed.getD j ag) n:=⟨yj _,λe he _=>⟨λ_=>he,λ_=>zO e he⟩⟩;refine hQ a σ1 ?_ to1 ok1 ?_
       .rw[hH,hsameLev _ i n hi hln];simp[HH]
       .have:ts1=ei n dst D ts (λj=>listed.getD j ag):=by
         have e1:=hTS n (yj _);rw[ybs (by rw[List.length_zip,hn,hrl];simp)]at e1;rw[hts',e1];apply ybj;intro t;by_cases ht:t < ts.length
         .rw[kc ht,kc ht];congr 1;by_cases hex:∃j,j < n/\dst j=ab t
          .obtain⟨j,h1,h2⟩:=hex;rw[kR hu h1 (by simpa using h1) h2,kR hu h1 (zO j h1) h2]
          .rw[kS (λj h1 _ h3=>hex ⟨j,h1,h3⟩),kS (λj h1 _ h3=>hex ⟨j,h1,h3⟩)]
         .rw[ybl (by rw[Vm];omega),ybl (by rw[Vm];omega)]
        rw[this];exact hrep1
      . 
       obtain⟨h1,o,ho,hedge⟩:=mem_ready.1 hi;have hin:i < n:=(Array.getElem?_eq_some_iff.1 ho).1;have go:i < listed.size:=by omega
       let X:Nat->Bool:=λj=>listed.getD j ag
       have hXi:X i=ag:=by
        simp only[X,Array.getD,go,dif_pos]at h1 ⊢;exact h1
       have hancL:∀j,(A.getD i 0).testBit j=af->X j=af:=by
        intro j hj;rw[hA i o ho]at hj;unfold nb at hj;rcases EZ A i j _ _ hj with h|⟨e,e1,e2,e3,e4⟩
        .simp at h
        .have he:=hedge e (by simpa using e1) e2;rcases e4 with e4|e4
         .rw[<-e4];exact he
         .exact Zzy hcl1 hA e.on ⟨ops[e.on],ycv (by omega)⟩ he j e4
       have hancR:∀j,j < n->X j=af->(A.getD j 0).testBit i=af->False:=by
        intro j hj hx hb;have:=Zzy hcl1 hA j ⟨ops[j],ycv hj⟩ hx i hb;have hXi':(listed.getD i ag)=ag:=hXi;rw[hXi']at this;cases this
       obtain⟨r,k1,k2,k3,k4,k45,_,_,_⟩:=hspec' i o ho
       have hmask:ZS (looks ops o) 0 (ei n dst D ts X)=ZS (looks ops o) 0 (ei n dst D ts (λj=>ah (j < i))):=by
        refine ZLp hu (λj t hj hd ht=> ?_);by_cases hij:i=j
        .subst hij;rw[hXi];simp
        .have:=hL i o j t ho hj hd ht hij;split at this
         .rename_i hlt;rw[hancL j this];simp[hlt]
         .rename_i hge
          have hxf:X j=ag:=by
           cases hx:X j with
           |false=>rfl
           |true=>exact(hancR j hj hx this).elim
          rw[hxf];simp[hge]
       have hXi2:X i=ag:=hXi
       have hgetset:∀j,(listed.setIfInBounds i af).getD j ag=(X j || decide (j=i)):=by
        intro j;by_cases hji:j=i
        .subst hji;simp[Array.getD,go]
        .simp only[X,Array.getD_eq_getD_getElem?,Array.getElem?_setIfInBounds,hji,decide_false,Bool.or_false];rw[yX (λh=>hji h.symm)]
       have hord:∀e,e < n->bC i≠0->bC e=2->i≠e->¬(bC i=1/\lN rs i e=af)->¬jW rs c0 i e=af->(X e=af↔e < i):=by
        intro e he h0 hce hie hf hcm;rcases hE0 i e hin he h0 hce hie with h3|h3|h3
        .split at h3
         .rename_i hlt;exact⟨λ_=>hlt,λ_=>hancL e h3⟩
         .rename_i hge;exact⟨λhx=>(hancR e he hx h3).elim,λh=>absurd h hge⟩
        .exact absurd h3 hf
        .exact absurd h3 hcm
       have hkeep:bC i≠2->Inv (λj=>(listed.setIfInBounds i af).getD j ag) σ1.H:=by
        intro h2
        have hX':∀e,bC e=2->((listed.setIfInBounds i af).getD e ag=af↔X e=af):=by
         intro e hce
         have hne:¬e=i:=by
          rintro rfl;exact h2 hce
         rw[hgetset e];simp only[hne,decide_false,Bool.or_false]
        rcases hlv with⟨lv,hlv1,hlv2⟩|⟨lv,e0,E,G,g1,g2,g3,g4,g5,g6,g7,g8,g9,g10⟩
        .exact .inl ⟨lv,⟨hlv1.1,λe he hce=>(hX' e hce).trans (hlv1.2 e he hce)⟩,hlv2⟩
        .refine .inr ⟨lv,e0,E,G,g1,g2,g3,g4, ?_,λe he hce=>(hX' e hce).trans (g6 e he hce),g7,g8,g9,g10⟩;have:=hX' c0 g3;show(listed.setIfInBounds i af).getD c0 ag=ag
         cases hx:(listed.setIfInBounds i af).getD c0 ag with
         |false=>rfl
         |true=>
          have h9:=this.1 hx;have g5':X c0=ag:=g5;rw[g5']at h9;cases h9
       let SO:yL ay->Prop:=λH2=>∀K:Act->World->Prop,(∀v σ2,σ2.H=H2->To σ1 σ2->Ok σ2->aK σ2 (fM (ZS (looks ops o) 0 (ei n dst D ts X)) o.dst r.d) (a.put o.dst v)->K (a.put o.dst v) σ2.w)->
        if Region.wanted o (yielded ops a.tmps) then o.wp P a σ1.w K Q else K (a.put o.dst undef) σ1.w
       have soE:∀H2,cN P ops o (ZS (looks ops o) 0 (ei n dst D ts (λj=>ah (j < i)))) σ1.H r.hs=ab (r.C,r.d,H2,r.hs')->SO H2:=λH2 h K hK=>by
        rw[<-hmask]at h;exact EX (P:=P) (ops:=ops) ok1 (rI (looks ops o) hrep1) h k2 K Q hK
       have soG:∀G H2,(G=[]\/G=[.gone])->cN P ops o (ZS (looks ops o) 0 (ei n dst D ts (λj=>ah (j < i)))) (σ1.H++G) r.hs=ab (r.C,r.d,H2,r.hs')->SO H2:=λG H2 hG h=>by
        rcases hG with rfl|rfl
        .rw[yar]at h;exact soE H2 h
        .intro K hK;rw[<-hmask]at h;obtain⟨t1,o1⟩:=ZPQ ok1;exact EX (P:=P) (ops:=ops) (σ:={ σ1 with m:=σ1.m++[ae],H:=σ1.H++[.gone]}) o1 ((rI (looks ops o) hrep1).to t1.leaf) h k2 K Q λv σ2 e1 to2 ok2 hr2=>hK v σ2 e1 (t1.trans to2) ok2 hr2
       have hnow:∃H2,SO H2/\Inv (λj=>(listed.setIfInBounds i af).getD j ag) H2:=by
        by_cases h0:bC i=0
        .obtain⟨e1,e2⟩:=ZMU (H2:=σ1.H) k3 (by rw[<-k4, <-hcl i r k1];exact h0);exact⟨σ1.H,soE _ e2,hkeep (by omega)⟩
        by_cases h01:bC i=1
        .have hkc:bG P o (ZS (looks ops o) 0 (ei n dst D ts (λj=>ah (j < i)))) r.H r.hs=1:=by rw[<-k4, <-hcl i r k1];exact h01
         have hnc:∀e,¬jW rs c0 i e=af:=by
          intro e hcm;obtain⟨q0,q3|q3⟩:=hcomm i e hcm
          .obtain⟨rfl,_⟩:=q3;rcases q0 with⟨rc,q1,q2⟩|⟨rc,q1,q2,_⟩
           .exact(hlocc _ rc q1 q2).1 h01
           .have:=(hpsh _ rc q1 q2).1;omega
          .obtain⟨_,_,rp,q4,q5⟩:=q3;have:=(hpsh i rp q4 q5).1;omega
         have hdis:∀e,e < n->bC e=2->¬(X e=af↔e < i)->lN rs i e=af:=by
          intro e he hce hx;by_cases hf:lN rs i e=af
          .exact hf
          .exact absurd (hord e he h0 hce (by rintro rfl;omega) (λh=>hf h.2) (hnc e)) hx
         have hfr:∀k,k < n->lN rs i k=af->True/\∃id,r.rd=ab id/\id < (HH k).length/\id < (HH i).length/\(bC k=2->fy o ((HH (k+1))[id]?)=fy o ((HH k)[id]?)):=by
          intro k hk hf;have hko:ops[k]? =ab ops[k]:=ycv hk;obtain⟨q,g1,_,g3,g4,g45,_⟩:=hspec' k _ hko;unfold lN at hf;rw[k1,g1]at hf;dsimp only at hf;split at hf
          .rename_i id e1;simp only[yi,yP]at hf;have hrd:=k45.1;rw[e1]at hrd;unfold qS at hrd
           .refine⟨zZ,id,e1,by rw[(hHH k q g1).1];exact hf.1.1,by rw[(hHH i r k1).1];exact hf.1.2,λhck=> ?_⟩;rw[(hHH k q g1).1,(hHH k q g1).2];have hf2:=hf.2;rw[k45.2.2.2.2]at hf2;unfold fy;by_cases hex:jV o=af
            .rw[yW hex]at hf2;rw[yW hex,yW hex];obtain⟨_,E,p3,_⟩:=hpsh k q g1 hf2;rw[(hHH k q g1).1,(hHH k q g1).2]at p3;rw[p3,ybe hf.1.1]
            .rw[yX hex]at hf2;rw[yX hex,yX hex];rw[yct]at hf2;rcases hf2 with hf2|hf2
             .split at hf2
              .rename_i l e2;exact ZLq g3 (by rw[<-g4, <-hcl k q g1];exact hck) (by rw[<-g45.2.1,e2]) hf.1.1 (by simpa using hf2)
              .cases hf2
             .exact@of_decide_eq_true _ (Classical.propDecidable _) hf2
          .cases hf
         have hchain:∀(id k a:Nat),a+k<=n->(∀e,a<=e->e < a+k->bC e=2->fy o ((HH (e+1))[id]?)=fy o ((HH e)[id]?))->fy o ((HH (a+k))[id]?)=fy o ((HH a)[id]?):=by
          intro id k a
          induction k with
          |zero=>intro _ _;rfl
          |succ k ihk=>
           intro hk he;rw[<-Nat.add_assoc, <-ihk (by omega) (λe h1 h2=>he e h1 (by omega))];by_cases h2:bC (a+k)=2
           .exact he (a+k) (by omega) (by omega) h2
           .rw[hstay (a+k) (by omega) h2]
         have hreads:∀id,r.rd=ab id->oM P o (ZS (looks ops o) 0 (ei n dst D ts (λj=>ah (j < i))))=ab id:=by
          intro id e1;have hrd:=k45.1;rw[e1]at hrd;exact hrd.symm
         have hfin:True->∀id,r.rd=ab id->fy o ((HH i)[id]?)=fy o (σ1.H[id]?)->∃H2,SO H2/\Inv (λj=>(listed.setIfInBounds i af).getD j ag) H2:=by
          intro hg id e1 e2;rw[(hHH i r k1).1]at e2;exact⟨σ1.H,soE _ (ZTU k3 hkc (λ_=>ZR7 (hreads id e1) e2)),hkeep (by omega)⟩
         rcases hlv with⟨lv,hlv1,hlv2⟩|⟨lv,e0,E,G,g1,g2,g3,g4,g5,g6,g7,g8,g9,g10⟩
         .by_cases hsame:Lev X i
          .have hHi:σ1.H=r.H:=by
            rw[hlv2,hsameLev X lv i hlv1 hsame,(hHH i r k1).1]
           have hr':r.H'=r.H:=by
            have:=hstay i hin (by omega);rw[(hHH i r k1).1,(hHH i r k1).2]at this;exact this
           refine⟨σ1.H,soE _ (by rw[hHi,k3,hr']),hkeep (by omega)⟩
          .have hex:∃e,e < n/\bC e=2/\¬(X e=af↔e < i):=by
            refine Classical.byContradiction λhno=>hsame ⟨by omega,λe he hce=> ?_⟩;exact Classical.byContradiction λh=>hno ⟨e,he,hce,h⟩
           obtain⟨e1,he1,hce1,hx1⟩:=hex;obtain⟨hg,id,hid,_⟩:=hfr e1 he1 (hdis e1 he1 hce1 hx1);refine hfin hg id hid ?_;have hln:=hlv1.1
           have hst:∀e,e < n->bC e=2->¬(X e=af↔e < i)->fy o ((HH (e+1))[id]?)=fy o ((HH e)[id]?):=by
            intro e he hce hx;obtain⟨_,id',hid',_,_,h5⟩:=hfr e he (hdis e he hce hx);rw[hid]at hid';cases hid';exact h5 hce
           rw[hlv2];rcases Nat.le_total lv i with hle|hle
           .have:=hchain id (i - lv) lv (by omega) (λe h1 h2 h3=>hst e (by omega) h3 (λhx=>by
             have h4:=(hlv1.2 e (by omega) h3).1 (hx.2 (by omega));omega))
            rw[show lv+(i - lv)=i by omega]at this;exact this
           .have:=hchain id (lv - i) i (by omega) (λe h1 h2 h3=>hst e (by omega) h3 (λhx=>by
             have h4:=hx.1 ((hlv1.2 e (by omega) h3).2 (by omega));omega))
            rw[show i+(lv - i)=lv by omega]at this;exact this.symm
         . 
          have hic:¬i=c0:=by
           rintro rfl;omega
          obtain⟨ge1,ge2,ge3,ge4⟩:=g7;have hclen:=hGl G g2;have hxe0:X e0=af:=(g6 e0 (by omega) ge3).2 ⟨ge2,by omega⟩;have hxc0:X c0=ag:=g5
          have hid:True/\∃id,r.rd=ab id/\id < (HH c0).length:=by
           by_cases hlt:c0 < i
           .obtain⟨hg,id,q1,q2,_⟩:=hfr c0 g1 (hdis c0 g1 g3 (λhx=>by
             rw[hxc0]at hx;have:=hx.2 hlt;cases this))
            exact⟨hg,id,q1,q2⟩
           .obtain⟨hg,id,q1,q2,q20,_⟩:=hfr e0 (by omega) (hdis e0 (by omega) ge3 (λhx=>by
             have:=hx.1 hxe0;omega))
            refine⟨hg,id,q1, ?_⟩;rcases g2 with⟨_,rfl⟩|⟨⟨rc,p1,_,_,p4⟩,rfl⟩
            .rw[ge4,hclen]at q2;exact q2
            .have:=p4 i r (by omega) k1;rw[(hHH i r k1).1]at q20;rw[(hHH c0 rc p1).1];omega
          obtain⟨hg,id,hid,hidl⟩:=hid;refine hfin hg id hid ?_
          have hst:∀e,e < n->bC e=2->¬(X e=af↔e < i)->fy o ((HH (e+1))[id]?)=fy o ((HH e)[id]?):=by
           intro e he hce hx;obtain⟨_,id',hid',_,_,h5⟩:=hfr e he (hdis e he hce hx);rw[hid]at hid';cases hid';exact h5 hce
          rw[g9,ybe hidl];by_cases hlt:c0 < i
          . 
           have hc1:fy o ((HH (c0+1))[id]?)=fy o ((HH c0)[id]?):=hst c0 g1 g3 (λhx=>by
            rw[hxc0]at hx;have:=hx.2 hlt;cases this)
           have hup:∀k,c0+1+k<=lv->id < (HH (c0+1+k)).length/\fy o ((HH (c0+1+k))[id]?)=fy o ((HH (c0+1))[id]?):=by
            intro k
            induction k with
            |zero=>intro _;exact⟨by rw[Nat.add_zero,hclen];omega,rfl⟩
            |succ k ihk=>
             intro hk;obtain⟨j1,j2⟩:=ihk (by omega);rw[<-Nat.add_assoc];by_cases h2:bC (c0+1+k)=2
             .obtain⟨rp,p1,p2⟩:=g8 (c0+1+k) (by omega) (by omega) h2;obtain⟨_,E2,p3,_⟩:=hpsh _ rp p1 p2;rw[p3,ybe j1];exact⟨by rw[yl];omega,j2⟩
             .rw[hstay (c0+1+k) (by omega) h2];exact⟨j1,j2⟩
           rcases Nat.le_total i lv with hle|hle
           .have:=(hup (i - (c0+1)) (by omega)).2;rw[show c0+1+(i - (c0+1))=i by omega]at this;rw[this,hc1]
           .have h6:=(hup (lv - (c0+1)) (by omega)).2;rw[show c0+1+(lv - (c0+1))=lv by omega]at h6
            have:=hchain id (i - lv) lv (by omega) (λe h1 h2 h3=>hst e (by omega) h3 (λhx=>by
             have h4:=(g6 e (by omega) h3).1 (hx.2 (by omega));omega))
            rw[show lv+(i - lv)=i by omega]at this;rw[this,h6,hc1]
          .have:=hchain id (c0 - i) i (by omega) (λe h1 h2 h3=>hst e (by omega) h3 (λhx=>by
            have h4:=hx.1 ((g6 e (by omega) h3).2 ⟨by omega,by omega⟩);omega))
           rw[show i+(c0 - i)=c0 by omega]at this;exact this.symm
        have h2:bC i=2:=by
         have:=hcle i hin;omega
        have hord2:∀e,e < n->bC e=2->i≠e->¬jW rs c0 i e=af->(X e=af↔e < i):=λe he hce hie hcm=>hord e he h0 hce hie (λh=>h01 h.1) hcm
        have hset:∀e,((listed.setIfInBounds i af).getD e ag=af↔(X e=af\/e=i)):=by
         intro e;rw[hgetset e];simp
        by_cases hall2:∀e,e < n->bC e=2->(X e=af↔e < i)
        . 
         have hli:Lev X i:=⟨by omega,hall2⟩
         have hHi:σ1.H=r.H:=by
          rcases hlv with⟨lv,hlv1,hlv2⟩|⟨lv,e0,E,G,g1,g2,g3,g4,g5,g6,g7,g8,g9,g10⟩
          .rw[hlv2,hsameLev X lv i hlv1 hli,(hHH i r k1).1]
          .exfalso;obtain⟨ge1,ge2,ge3,ge4⟩:=g7;have q1:=(hall2 e0 (by omega) ge3).1 ((g6 e0 (by omega) ge3).2 ⟨ge2,by omega⟩);have q2:=(hall2 c0 g1 g3).2 (by omega);have g5':X c0=ag:=g5;rw[g5']at q2;cases q2
         rw[<-hHi]at k3;refine⟨r.H',soE _ k3,.inl ⟨i+1,⟨by omega,λe he hce=> ?_⟩,((hHH i r k1).2).symm⟩⟩;refine(hset e).trans ?_;rw[hall2 e he hce];omega
        . 
         have hex:∃e,e < n/\bC e=2/\i≠e/\¬(X e=af↔e < i):=by
          refine Classical.byContradiction λhno=>hall2 λe he hce=> ?_;by_cases hie:i=e
          .subst hie;rw[hXi2];simp
          .exact Classical.byContradiction λh=>hno ⟨e,he,hce,hie,h⟩
         obtain⟨e1,he1,hce1,hie1,hx1⟩:=hex;have hcm1:jW rs c0 i e1=af:=Classical.byContradiction λh=>hx1 (hord2 e1 he1 hce1 hie1 h);obtain⟨hLP,hcases⟩:=hcomm i e1 hcm1;rcases hcases with⟨hic,hlt1,hpe1⟩|⟨hec,hlt1,hpi⟩
         . 
          subst hic
          have hxe1:X e1=af:=by
           cases hx:X e1 with
           |true=>rfl
           |false=>
            exfalso;apply hx1;rw[hx];exact⟨λh=>(by cases h),λh=>(by omega)⟩
          rcases hlv with⟨lv,hlv1,hlv2⟩|⟨lv,e0,E,G,g1,g2,g3,g4,g5,g6,g7,g8,g9,g10⟩
          .exfalso;have q1:=(hlv1.2 e1 he1 hce1).1 hxe1;have q2:=(hlv1.2 i hin h2).2 (by omega);have hXi3:X i=ag:=hXi;have q2':X i=af:=q2;rw[hXi3]at q2';cases q2'
          .have hso:SO (HH (i+1)++E):=by
            rcases g2 with⟨⟨rc,hrc,hrcl⟩,rfl⟩|⟨⟨rc,hrc,hrp,hrl,_⟩,rfl⟩
            .rw[hrc]at k1;cases k1;obtain⟨_,_,hcev⟩:=hlocc i r hrc hrcl;exact soE _ (by rw[g9];exact hcev o ho E)
            .rw[hrc]at k1;cases k1;intro K hK;have hp:iQ o r.hs r.H.length=af:=by rw[<-k45.2.2.1];exact hrp
             rw[<-hmask]at k3;refine ZMY (P:=P) (ops:=ops) (E:=E) ok1 (rI (looks ops o) hrep1) k3 k2 hp hrl (by rw[g9,(hHH i r hrc).1];rfl) K Q λv σ2 e1 to2 ok2 hr2=>hK v σ2 (by rw[e1,(hHH i r hrc).2]) to2 ok2 hr2
           refine⟨HH (i+1)++E,hso,.inl ⟨lv,⟨g4,λe he hce=> ?_⟩,g10.symm⟩⟩;refine(hset e).trans ?_;have q:=g6 e he hce;obtain⟨ge1,ge2,_⟩:=g7;constructor
           .rintro(q1|q1)
            .exact(q.1 q1).1
            .omega
           .intro q1;by_cases hei:e=i
            .exact .inr hei
            .exact .inl (q.2 ⟨q1,hei⟩)
         . 
          subst hec
          have hxc:X e1=ag:=by
           cases hx:X e1 with
           |false=>rfl
           |true=>
            exfalso;apply hx1;rw[hx];exact⟨λ_=>hlt1,λ_=>rfl⟩
          have hoth:∀e,e < n->bC e=2->e≠e1->(X e=af↔e < i):=by
           intro e he hce hne;by_cases hie:i=e
           .subst hie;rw[hXi2];simp
           .refine hord2 e he hce hie λhcm=> ?_;obtain⟨_,q|q⟩:=hcomm i e hcm
            .omega
            .exact hne q.1
          obtain⟨rp,hrp,hrpp⟩:=hpi;obtain⟨_,Ei,hpE,hpev⟩:=hpsh i rp hrp hrpp
          have hexG:∃G,CG G/\(G=[]\/G=[.gone]):=by
           rcases hLP with h|h
           .exact⟨[],.inl ⟨h,rfl⟩,.inl rfl⟩
           .exact⟨[.gone],.inr ⟨h,rfl⟩,.inr rfl⟩
          rw[hrp]at k1;cases k1;rcases hlv with⟨lv,hlv1,hlv2⟩|⟨lv,e0,E,G,g1,g2,g3,g4,g5,g6,g7,g8,g9,g10⟩
          .have hlc:Lev X e1:=⟨by omega,λe he hce=>by
            by_cases hne:e=e1
            .subst hne;rw[hxc];simp
            .rw[hoth e he hce hne];constructor
             .intro q;have q1:=(hlv1.2 e he hce).1 ((hoth e he hce hne).2 q)
              have q2:¬e1 < lv:=λq3=>by
               have q9:X e1=af:=(hlv1.2 e1 he1 hce1).2 q3;rw[hxc]at q9;cases q9
              omega
             .intro q;omega⟩
           have hmid:∀e,e1 < e->e < i->bC e≠2:=by
            intro e q1 q2 hce;have q3:=(hoth e (by omega) hce (by omega)).2 q2;have q4:=(hlc.2 e (by omega) hce).1 q3;omega
           have hHi:HH i=HH (e1+1):=by
            have:=hlev (e1+1) (i - (e1+1)) (by omega) (λe q1 q2=>hmid e (by omega) (by omega));rw[show e1+1+(i - (e1+1))=i by omega]at this;exact this
           have hH1:σ1.H=HH e1:=by rw[hlv2,hsameLev X lv e1 hlv1 hlc]
           obtain⟨G,hCG,hG2⟩:=hexG;have hclen:=hGl G hCG
           have hso:SO (HH e1++(G++Ei)):=soG G _ hG2 (by
            rw[<-yad,hH1];exact hpev o ho (HH e1++G) (by rw[hHi,hclen,yl]))
           refine⟨HH e1++(G++Ei),hso,.inr ⟨i+1,i,Ei,G,he1,hCG,hce1,by omega, ?_,λe he hce=> ?_,⟨hlt1,by omega,h2,hHi⟩,λe q1 q2 q3=> ?_,rfl,by rw[hpE,hHi]⟩⟩
           .show(listed.setIfInBounds i af).getD e1 ag=ag
            cases hx:(listed.setIfInBounds i af).getD e1 ag with
            |false=>rfl
            |true=>
             rcases (hset e1).1 hx with q|q
             .rw[hxc]at q;cases q
             .omega
           .refine(hset e).trans ?_;by_cases hne:e=e1
            .subst hne;rw[hxc];constructor
             .rintro(q|q)
              .cases q
              .omega
             .rintro⟨_,q⟩;exact absurd rfl q
            .rw[hoth e he hce hne];omega
           .by_cases hei:e=i
            .subst hei;exact⟨_,hrp,hrpp⟩
            .exact absurd q3 (hmid e q1 (by omega))
          .obtain⟨ge1,ge2,ge3,ge4⟩:=g7
           have hlvi:lv<=i:=by
            rcases Nat.lt_or_ge i lv with q|q
            .exfalso;have:=(g6 i hin h2).2 ⟨q,by omega⟩;have hXi3:X i=ag:=hXi;have q2':X i=af:=this;rw[hXi3]at q2';cases q2'
            .exact q
           have hHi:HH i=HH lv:=by
            have:=hlev lv (i - lv) (by omega) (λe q1 q2 hce=>by
             have q3:=(hoth e (by omega) hce (by omega)).2 (by omega);have q4:=(g6 e (by omega) hce).1 q3;omega)
            rw[show lv+(i - lv)=i by omega]at this;exact this
           have hclen:=hGl G g2;have hso:SO (σ1.H++Ei):=soE _ (hpev o ho σ1.H (by rw[hHi,g10,g9,yl,yl,yl,hclen];omega));refine⟨σ1.H++Ei,hso,.inr ⟨i+1,e0,E++Ei,G,he1,g2,hce1,by omega, ?_,λe he hce=> ?_,⟨ge1,by omega,ge3,ge4⟩,λe q1 q2 q3=> ?_,by rw[g9,yad,yad],by rw[hpE,hHi,g10,yad]⟩⟩
           .show(listed.setIfInBounds i af).getD e1 ag=ag
            cases hx:(listed.setIfInBounds i af).getD e1 ag with
            |false=>rfl
            |true=>
             rcases (hset e1).1 hx with q|q
             .rw[hxc]at q;cases q
             .omega
           .refine(hset e).trans ?_;by_cases hne:e=e1
            .subst hne;rw[hxc];constructor
             .rintro(q|q)
              .cases q
              .omega
             .rintro⟨_,q⟩;exact absurd rfl q
            .rw[hoth e he hce hne];omega
           .by_cases hei:e=i
            .subst hei;exact⟨_,hrp,hrpp⟩
            .have q4:=(hoth e (by omega) q3 (by omega)).2 (by omega);have q5:=(g6 e (by omega) q3).1 q4;exact g8 e q1 q5.1 q3
       obtain⟨H2,hso2,hinv⟩:=hnow
       have key:=hso2 (wpAny P .any ops Q yD (listed.setIfInBounds i af)) (λv σ2 e1 to2 ok2 hrep2=>by
        have hgetset:∀j,(listed.setIfInBounds i af).getD j ag=(X j || decide (j=i)):=by
         intro j;by_cases hji:j=i
         .subst hji;simp[Array.getD,go]
         .simp only[X,Array.getD_eq_getD_getElem?,Array.getElem?_setIfInBounds,hji,decide_false,Bool.or_false];rw[yX (λh=>hji h.symm)]
        refine ih _ _ σ2 (by simpa using hsz) ?_ ?_ (to1.trans to2) ok2 ?_ (by rw[e1];exact hinv)
        .have:=ZFX (Y:=λj=>(listed.setIfInBounds i af).getD j ag) hXi hin (λj _=>hgetset j);have hX':iu X n<=yD+1:=hun;omega
        .intro j o' hj hx e he hb;show(listed.setIfInBounds i af).getD e.on ag=af;rw[hgetset];have hx':(listed.setIfInBounds i af).getD j ag=af:=hx;rw[hgetset]at hx';by_cases hji:j=i
         .subst hji;rw[ho]at hj;cases hj;have:X e.on=af:=hedge e he hb;rw[this];rfl
         .simp only[hji,decide_false,Bool.or_false]at hx';have:X e.on=af:=hcl1 j o' hj hx' e he hb;rw[this];rfl
        .have hd:o.dst=dst i:=by simp[dst,iR,ho]
         have hD:r.d=D i:=by simp[D,k1]
         have hput:=ZJJ (ts0:=ts) (D:=D) hu hin hXi (λj(_:j < n)=>hgetset j);rw[<-hput, <-hd, <-hD];exact ZR8 (Zt5 _ _ _) (hrep1.to to2.leaf) hrep2)
       show wpOp P ops Q i _ a σ1.w;unfold wpOp;rw[ho];by_cases hw:Region.wanted o (yielded ops a.tmps)=af
       .rw[yW hw]at key;simp only[hw,if_true];exact .inl key
       .rw[yX hw]at key;simp only[hw];exact key
    have hdr2:σ.w.grownBy { σ.w with drawn:=σ.w.drawn+1} ae:=by
     exact⟨rfl,rfl,rfl,yj _,λ_ _ _=>rfl⟩
    obtain⟨to0,ok0⟩:=va ok hdr2
    have hfalse:∀j,(Array.replicate ops.size ag).getD j ag=ag:=by
     intro j;by_cases hj:j < ops.size <;> simp[Array.getD,hj]
    refine walk ops.size (Array.replicate ops.size ag) a { σ with w:={ σ.w with drawn:=σ.w.drawn+1}} (by simp[n]) ?_ ?_ to0 ok0 ?_ (.inl ⟨0,⟨Nat.zero_le _,λe _ _=> ?_⟩, ?_⟩)
    .exact ZM0
    .intro i o _ hx;have hx':(Array.replicate ops.size ag).getD i ag=af:=hx;rw[hfalse i]at hx';cases hx'
    .rw[ZCu (λj _=>hfalse j)];exact yK.to to0.leaf
    .show(Array.replicate ops.size ag).getD e ag=af↔e < 0;rw[hfalse e];simp
    .show σ.H=HH 0;by_cases h0:0 < n
     .obtain⟨r,k1,_,_,_,_,k5,_⟩:=hspec' 0 _ (ycv h0);rw[(hHH 0 r k1).1,k5 rfl]
     .have:ops.toList=[]:=ybh (by omega);simp only[HH,h0,if_false];exact(hnil this).symm
   .cases h
  .cases h
 .cases h
end
end Go.Ev
end
section
namespace Go.Ev
section
variable{P:yg}
theorem vF{σ:Sg}{a:Act}:∀{mask:yL Nat}{ts:yL Dv},aK σ ts a->aK σ (rf ts mask) a
 |[],_,h=>h
 |i::r,ts,h=>by
  refine vF (mask:=r) ⟨by simpa using h.size,λj d hj=> ?_,h.defers⟩;rw[yca]at hj;split at hj
  .split at hj
   .cases hj;exact WT
   .cases hj
  .exact h.at_ j d hj
theorem kT:∀(c:Code)(ts:yL Dv)(H:yL ay)(hs hs':yL ar)(C:yL Prop)(ex:Ex)(ts':yL Dv)(H':yL ay),ev P c ts H hs=ab (C,ex,ts',H',hs')->ba C->Vd P c ts H ex ts' H'
 |.skip,ts,H,hs,hs',C,ex,ts',H',h,hc=>by
  simp only[ev,yp,yz]at h;obtain⟨rfl,rfl,rfl,rfl,rfl⟩:=h
  exact λσ a ok hH yK=>wp_skip ⟨rfl,σ,rfl,hH,To.refl σ,ok,yK⟩
 |.label _,ts,H,hs,hs',C,ex,ts',H',h,hc=>by
  simp only[ev,yp,yz]at h;obtain⟨rfl,rfl,rfl,rfl,rfl⟩:=h
  exact λσ a ok hH yK=>wp_label ⟨rfl,σ,rfl,hH,To.refl σ,ok,yK⟩
 |.region id ops draw,ts,H,hs,hs',C,ex,ts',H',h,hc=>by
  cases draw with
  |true=>
   simp only[ev,if_true]at h;simp only[yn,yz]at h;obtain⟨⟨C1,ts1,H1,hs1⟩,h1,rfl,rfl,rfl,rfl,rfl⟩:=h;intro σ a ok hH yK;subst hH
   exact ZDL ok yK h1 hc _ λa' σ' e1 to ok' hrep'=>⟨rfl,σ',rfl,e1,to,ok',hrep'⟩
  |false=>
   simp only[ev,Bool.false_eq_true,if_false]at h;simp only[yn,yz]at h;obtain⟨⟨C1,ts1,H1,hs1⟩,h1,rfl,rfl,rfl,rfl,rfl⟩:=h;intro σ a ok hH yK;subst hH;refine wp_region ?_
   have:=Zw1 (P:=P) (ops:=ops) (λe a' w'=>e=Ex.normal.to/\∃σ',σ'.w=w'/\σ'.H=H1/\To σ σ'/\Ok σ'/\aK σ' ts1 a') ops.toList 0 ts σ a hs hs1 C1 H1 (λj=>by simp) ok yK h1 hc
    (λa' σ' e1 to ok' hrep'=>⟨rfl,σ',rfl,e1,to,ok',hrep'⟩)
   rw[List.range_eq_range']
   simpa using this
 |.seq x y,ts,H,hs,hs',C,ex,ts',H',h,hc=>by
  simp only[ev]at h;split at h
  .rename_i C1 ts1 H1 hs1 h1;split at h
   .rename_i C2 ex2 ts2 H2 hs2 h2;simp only[yp,yz]at h;obtain⟨rfl,rfl,rfl,rfl,rfl⟩:=h;obtain⟨c1,c2⟩:=Zr.1 hc;have r1:=kT x _ _ _ _ _ _ _ _ h1 c1;have r2:=kT y _ _ _ _ _ _ _ _ h2 c2;intro σ a ok hH yK;refine wp_seq (wp_mono (r1 σ a ok hH yK) ?_);rintro e a' w' ⟨rfl,σ1,rfl,e1,to1,ok1,hrep1⟩;refine wp_mono (r2 σ1 a' ok1 e1 hrep1) ?_;rintro e a'' w'' ⟨rfl,σ2,rfl,e2,to2,ok2,hrep2⟩;exact⟨rfl,σ2,rfl,e2,to1.trans to2,ok2,hrep2⟩
   .cases h
  .rename_i r hne;have r1:=kT x _ _ _ _ _ _ _ _ h hc;intro σ a ok hH yK;refine wp_seq (wp_mono (r1 σ a ok hH yK) ?_);rintro e a' w' ⟨rfl,hq⟩
   cases ex with
   |normal=>exact absurd h (hne _ _ _ _)
   |exit id=>exact⟨rfl,hq⟩
   |ret=>exact⟨rfl,hq⟩
 |.cond c x y,ts,H,hs,hs',C,ex,ts',H',h,hc=>by
  simp only[ev]at h;split at h
  .rename_i t hs1 hcv;simp only[yn,yz]at h;obtain⟨⟨C1,r⟩,h1,rfl,rfl⟩:=h;obtain⟨c0,c1⟩:=hc;have r1:=kT x _ _ _ _ _ _ _ _ h1 c1;intro σ a ok hH yK;have hv:=Zs (P:=P) yK 0 c;rw[hcv]at hv;exact wp_cond_true (by rw[Y5 hv,c0]) (r1 σ a ok hH yK)
  .rename_i t hs1 hcv;simp only[yn,yz]at h;obtain⟨⟨C1,r⟩,h1,rfl,rfl⟩:=h;obtain⟨c0,c1⟩:=hc;have r1:=kT y _ _ _ _ _ _ _ _ h1 c1;intro σ a ok hH yK;have hv:=Zs (P:=P) yK 0 c;rw[hcv]at hv;exact wp_cond_false (by rw[Y5 hv,c0]) (r1 σ a ok hH yK)
  .cases h
 |.block id body,ts,H,hs,hs',C,ex,ts',H',h,hc=>by
  simp only[ev]at h;split at h
  .rename_i C1 id' ts1 H1 hs1 h1;simp only[yp,yz]at h;obtain⟨rfl,rfl,rfl,rfl,rfl⟩:=h;have r1:=kT body _ _ _ _ _ _ _ _ h1 hc;intro σ a ok hH yK;refine wp_block (wp_mono (r1 σ a ok hH yK) ?_);rintro e a' w' ⟨rfl,hq⟩;simp only[Ex.to,Exit.inBlock]
   all_goals grind
  .rename_i r hne;have r1:=kT body _ _ _ _ _ _ _ _ h hc;intro σ a ok hH yK;refine wp_block (wp_mono (r1 σ a ok hH yK) ?_);rintro e a' w' ⟨rfl,hq⟩
   cases ex with
   |normal=>exact⟨rfl,hq⟩
   |exit id'=>exact absurd h (hne _ _ _ _ _)
   |ret=>exact⟨rfl,hq⟩
 |.loop body,ts,H,hs,hs',C,ex,ts',H',h,hc=>by
  simp only[ev]at h;split at h
  .rename_i mask ex1 ts1 H1 hs1;split at h
   .cases h
   .simp only[yp,yz]at h;obtain⟨rfl,rfl,rfl,rfl,rfl⟩:=h;exact λσ a ok hH yK=>hc.1 σ a ok hH (vF yK)
  .cases h
 |.scope body,ts,H,hs,hs',C,ex,ts',H',h,hc=>by
  simp only[ev]at h;have r1:=kT body _ _ _ _ _ _ _ _ h hc;intro σ a ok hH yK;refine wp_scope_straight (wp_mono (r1 σ a ok hH yK) ?_);rintro e a' w' ⟨rfl,hq⟩
  cases ex <;> exact⟨rfl,hq⟩
 |.exit id,ts,H,hs,hs',C,ex,ts',H',h,hc=>by
  simp only[ev,yp,yz]at h;obtain⟨rfl,rfl,rfl,rfl,rfl⟩:=h
  exact λσ a ok hH yK=>wp_exit ⟨rfl,σ,rfl,hH,To.refl σ,ok,yK⟩
 |.ret,ts,H,hs,hs',C,ex,ts',H',h,hc=>by
  simp only[ev,yp,yz]at h;obtain⟨rfl,rfl,rfl,rfl,rfl⟩:=h
  exact λσ a ok hH yK=>wp_ret ⟨rfl,σ,rfl,hH,To.refl σ,ok,yK⟩
 |.rangeFunc _ _ _ _,ts,H,hs,hs',C,ex,ts',H',h,hc=>by simp[ev]at h
 |.goto _,ts,H,hs,hs',C,ex,ts',H',h,hc=>by simp[ev]at h
 |.refuse _,ts,H,hs,hs',C,ex,ts',H',h,hc=>by simp[ev]at h
def oY(P:yg)(body:Code)(ts:yL Dv)(H:yL ay)(ex:Ex)(ts':yL Dv)(H':yL ay):Prop:=
 ∀(σ:Sg)(a:Act),Ok σ->σ.H=H->aK σ ts a->∀(b:Frame)(k:yL Item)(cs:yL Frame),
  ∃e a' w',(e=ex.to/\∃σ',σ'.w=w'/\σ'.H=H'/\To σ σ'/\Ok σ'/\aK σ' ts' a')/\Arrives P (lone (b.at a (.code body::.inLoop body::k)) cs σ.w) b k cs e a' w'
theorem ZCw{body:Code}{ts ts':yL Dv}{H H':yL ay}{ex:Ex}(hne:ex≠ .normal)(h:Vd P body ts H ex ts' H'):oY P body ts H ex ts' H':=by
 intro σ a ok hH yK b k cs;obtain⟨e,a1,w1,hq,harr⟩:=h σ a ok hH yK b (.inLoop body::k) cs;obtain⟨he,hq'⟩:=hq;subst he;refine⟨ex.to,a1,w1,⟨rfl,hq'⟩, ?_⟩
 cases ex with
 |normal=>exact absurd rfl hne
 |exit id=>exact .pass (x:=.inLoop body) rfl (λ_ _=>.inl (by simp[Ex.to])) harr
 |ret=>exact .pass (x:=.inLoop body) rfl (λ_ _=>.inl (by simp[Ex.to])) harr
theorem ZCx{body:Code}{ts ts1 ts':yL Dv}{H H1 H':yL ay}{ex:Ex}(mask:yL Nat)(h1:Vd P body ts H .normal ts1 H1)(h2:oY P body (rf ts1 mask) H1 ex ts' H'):oY P body ts H ex ts' H':=by
 intro σ a ok hH yK b k cs;obtain⟨e,a1,w1,⟨rfl,σ1,rfl,e1,to1,ok1,hrep1⟩,harr⟩:=h1 σ a ok hH yK b (.inLoop body::k) cs;obtain⟨e,a2,w2,⟨rfl,σ2,rfl,e2,to2,ok2,hrep2⟩,harr2⟩:=h2 σ1 a1 ok1 e1 (vF hrep1) b k cs;exact⟨ex.to,a2,σ2.w,⟨rfl,σ2,rfl,e2,to1.trans to2,ok2,hrep2⟩,.of_steps (Steps.trans harr (.one step_inLoop)) harr2⟩
theorem ZCy{body:Code}{ts ts':yL Dv}{H H':yL ay}{ex:Ex}(h:oY P body ts H ex ts' H'):Vd P (.loop body) ts H ex ts' H':=by
 intro σ a ok hH yK b k cs;obtain⟨e,a1,w1,hq,harr⟩:=h σ a ok hH yK b k cs;exact⟨e,a1,w1,hq,.of_steps (.one step_loop) harr⟩
def kh(σ:Sg)(L:yL Nat)(H:yL ay):Sg:={ F:=σ.F,B:=σ.B,m:=L.map λid=>(σ.m[id]?).getD ae,H:=H,w:=σ.w}
theorem ZM1{σ:Sg}{L:yL Nat}{H:yL ay}{j id:Nat}{x:yO Nat}(h:L[j]? =ab id)(hm:σ.m[id]? =ab x):(kh σ L H).m[j]? =ab x:=by
 show(L.map λid=>(σ.m[id]?).getD ae)[j]? =ab x;grind
theorem oZ{σ:Sg}{L:yL Nat}{H:yL ay}{j b:Nat}(h:(kh σ L H).m[j]? =ab (ab b)):∃id,L[j]? =ab id/\σ.m[id]? =ab (ab b):=
 W8 (σ:=σ) (ids:=L) (Hin:=H) h
theorem nI{σ:Sg}{L:yL Nat}{H:yL ay}(hin:aJ σ.H L L=ab H):Rn (aV L) σ (kh σ L H) where
 w:=rfl
 aU b o v _ h:=by
  refine⟨h.1,λj e hj he=> ?_⟩;obtain⟨id,h1,h2⟩:=oZ hj;obtain⟨e0,e',h3,h4,h5⟩:=lR hin h1;have he':H[j]? =ab e:=he;rw[h4]at he';cases he';exact(EG h5).2 (h.2 id e0 h2 h3)
 m id j hj x hx:=ZM1 (bQ hj) hx
 H id j hj e he:=by
   obtain⟨e0,e',h3,h4,h5⟩:=lR hin (bQ hj);rw[he]at h3;cases h3;exact⟨e',h4,h5⟩
theorem vG{σ:Sg}(ok:Ok σ){L:yL Nat}{H:yL ay}(ho:once L=af)(hin:aJ σ.H L L=ab H):Ok (kh σ L H) where
 len:=by
  show(L.map _).length=H.length;rw[yab,rD hin]
 inj i j b hi hj:=by
  obtain⟨x,h1,h2⟩:=oZ hi;obtain⟨y,h3,h4⟩:=oZ hj;have:=ok.inj x y b h2 h4;subst this;exact vp ho i j x h1 h3
 lt i b hi:=by
  obtain⟨x,h1,h2⟩:=oZ hi;exact ok.lt x b h2
 cY i e x he hx:=by
  have he':H[i]? =ab e:=he;have hi:i < L.length:=by rw[<-rD hin];exact(yo.1 he').1
  obtain⟨e0,e',h3,h4,h5⟩:=lR hin (yac hi);rw[he']at h4;cases h4
  have hm:∃y,σ.m[L[i]]? =ab y:=by
   have:L[i] < σ.m.length:=by rw[ok.len];exact(yo.1 h3).1
   grind
  obtain⟨y,hy⟩:=hm;have:=ZM1 (H:=H) (yac hi) hy;rw[hx]at this;cases this;exact EH (nI hin) h5 (ok.cY _ _ _ h3 hy)
 new b hb:=ok.new b hb
 own i b hi:=by
  obtain⟨x,h1,h2⟩:=oZ hi;exact ok.own x b h2
theorem vH{σ σ':Sg}(ok:Ok σ)(to:To σ σ'){keep:yL Nat}{H:yL ay}(ho:once (yu σ.H.length++keep)=af)(hin:aJ σ'.H (yu σ.H.length++keep) (yu σ.H.length++keep)=ab H):
 To σ (kh σ' (yu σ.H.length++keep) H):=by
 have hf:∀id,id < σ.H.length->aV (yu σ.H.length++keep) id=ab id:=λid h=>by
  refine cy ho ?_;grind
 have rn:=nI hin;refine⟨⟨λb o v h1 h2=> ?_,λid b h1 h2=> ?_,λid s len A c h1=> ?_,λid b h1 h2=> ?_,λid v s st e d h1=> ?_⟩,to.F,to.B,to.os,to.tape,to.output,to.size,λb h1 h2=>to.block b h1 h2,λid b h=> ?_, ?_⟩
 .obtain⟨h3,h4⟩:=to.leaf.cells b o v h1 h2;exact⟨h3,rn.aU b o v h3 h4⟩
 .have hlt:id < σ.H.length:=by rw[<-ok.len];exact(yo.1 h1).1
  obtain⟨h3,h4⟩:=to.leaf.var id b h1 h2;exact⟨rn.m _ _ (hf id hlt) _ h3,rn.var (hf id hlt) h4⟩
 .have hlt:id < σ.H.length:=by
   obtain⟨e,ys,h2,_⟩:=h1;grind
  exact rn.front (hf id hlt) (to.leaf.front _ _ _ _ _ h1)
 .have hlt:id < σ.H.length:=by rw[<-ok.len];exact(yo.1 h1).1
  obtain⟨h3,h4⟩:=to.leaf.map id b h1 h2;exact⟨rn.m _ _ (hf id hlt) _ h3,rn.map (hf id hlt) h4⟩
 .have hlt:id < σ.H.length:=(yo.1 h1).1;obtain⟨v',st',d',h5,h6,h7⟩:=to.leaf.row _ _ _ _ _ _ h1;obtain⟨d2,h8⟩:=rn.row (hf id hlt) h5;refine⟨v',st',d2,h8,h6,λhv=> ?_⟩;obtain⟨h9,h10⟩:=h7 hv;refine⟨?_,h10⟩;have hmm:∃x,σ.m[id]? =ab x:=⟨_,yac (by rw[ok.len];exact hlt)⟩;obtain⟨x,hx⟩:=hmm;rw[hx];exact rn.m _ _ (hf id hlt) _ (by rw[h9];exact hx)
 .obtain⟨x,h1,h2⟩:=oZ h;rcases to.same x b h2 with h3|h3
  .have hlt:x < σ.H.length:=by rw[<-ok.len];exact(yo.1 h3).1
   have:=cy ho h1;have h4:=hf x hlt;unfold aV at h4;grind
  grind
 .show σ.m.length<=((yu σ.H.length++keep).map _).length;rw[ok.len];simp
def rK(tmps:Array yh):ResultVar->Sem yh
 |.tmp t=>pure (tmps.getD t undef)
 |.cell x t=>do loadVar t (<-asAddr (tmps.getD x undef))
theorem ZH5(fn:Func)(tmps:Array yh):results fn tmps=(do let vs <-fn.results.mapM (rK tmps);pure (if h:vs.size=1 then vs[0] else .tuple vs)):=by
 unfold results
 have:(λ(rv:ResultVar)=>(match rv with|.tmp t=>pure (tmps.getD t undef)|.cell a t=>do loadVar t (<-asAddr (tmps.getD a undef)):Sem yh))=rK tmps:=by
  funext rv;cases rv <;> rfl
 exact congrArg (λf=>(do let vs <-fn.results.mapM f;pure (if h:vs.size=1 then vs[0] else .tuple vs):Sem yh)) this
theorem FA{σ:Sg}{a:Act}{ts:yL Dv}(ok:Ok σ)(yK:aK σ ts a):∀(rs:yL ResultVar)(hs:yL ar)(C:yL Prop)(ds:yL Dv),jX P ts σ.H rs hs=ab (C,ds)->ba C->
 ∃vs,Sem.run P (rs.mapM (rK a.tmps)) σ.w=Result.ok vs σ.w/\aC σ ds vs
 |[],hs,C,ds,h,_=>by
  simp only[jX,yp,yz]at h;obtain⟨rfl,rfl⟩:=h
  exact⟨[],by simp,by simp[aC]⟩
 |.tmp t::r,hs,C,ds,h,hc=>by
  simp only[jX,yn,yz]at h;obtain⟨⟨C1,ds1⟩,h1,rfl,rfl⟩:=h;obtain⟨vs,h2,h3⟩:=FA ok yK r hs C1 ds1 h1 hc;have h4:=Zs (P:=P) yK 0 (.tmp t);refine⟨a.tmps.getD t undef::vs, ?_, ?_⟩
  .simp only[List.mapM_cons,rK,Sem.run_bind,Sem.run_pure,Result.andThen_ok,h2]
  .simp only[aC]
   exact⟨_,_,rfl,h4,h3⟩
 |.cell x t::r,hs,C,ds,h,hc=>by
  simp only[jX]at h;split at h
  .rename_i id off yM hx;split at h
   .rename_i dd st hH;split at h
    .rename_i C1 off' sub hs1 hg;split at h
     .rename_i hk;simp only[yn,yz]at h;obtain⟨⟨C2,ds1⟩,h1,rfl,rfl⟩:=h;obtain⟨c1,c2⟩:=Zr.1 hc;obtain⟨c1,c3⟩:=Zr.1 c1;obtain⟨vs,h2,h3⟩:=FA ok yK r hs1 C2 ds1 h1 c2;have hv:=Zs (P:=P) yK 0 (.tmp x);simp only[ZB,hx]at hv;obtain⟨b,hm,_,hxv⟩:=lP hv;unfold gR at hk;simp only[yi,yT]at hk;obtain⟨⟨⟨k1,k2⟩,k3⟩,k4⟩:=hk;obtain⟨cs,t',p1,p2,p3,_,_,_,_,h5,_,h6⟩:=vm ok hm hH hg c1 c3.1;obtain⟨v,h7,h8⟩:=uZ (P:=P) h5 h6 k1 k4 k3 k2;have hxv':a.tmps.getD x undef=.pointer (ab ⟨b,off,ae⟩):=hxv;refine⟨v::vs, ?_, ?_⟩
      .have ha:asAddr (a.tmps.getD x undef)=pure ⟨b,off,ae⟩:=by rw[hxv'];rfl
       simp only[List.mapM_cons,rK,ha,Sem.run_bind,Sem.run_pure,Result.andThen_ok,h7,h2]
      .simp only[aC];exact⟨_,_,rfl,h8,h3⟩
     .cases h
    .cases h
   .cases h
  .cases h
theorem ZCz{σ:Sg}{ds:yL Dv}{vs:yL yh}(h:aC σ ds vs):yH σ (nc ds) (if h:vs.toArray.size=1 then vs.toArray[0] else .tuple vs.toArray):=by
 have hl:=DV h;unfold nc;split
 .rename_i d;simp only[aC]at h;obtain⟨v,vs',rfl,h1,h2⟩:=h;have:vs'=[]:=h2;subst this;have e:(if h:[v].toArray.size=1 then[v].toArray[0] else Value.tuple [v].toArray)=v:=by simp
  rw[e];exact h1
 .rename_i hne
  have hn:¬vs.toArray.size=1:=by
   intro hs;have hd:ds.length=1:=by rw[<-hl];simpa using hs
   match ds,hd with
   |[d],_=>exact hne d rfl
  rw[dif_neg hn,Zi rfl];simp only[yG];grind
theorem FB{g:yq}{fn:Func}{c:Code}{args ts':yL Dv}{H H1 H':yL ay}{ex:Ex}{r:Dv}{keep:yL Nat}{hs:yL ar}{C:yL Prop}(hf:P.funcs[g]? =ab fn)(hb:fn.body=ab c)
 (hr:Vd P c (args++yw (fn.ntmps - args.length) .aA) H ex ts' H1) (hex:ex=.ret\/ex=.normal) (hfin:fin P fn ts' H1 H.length keep hs=ab (C,r,H')) (hc:ba C):cH P g args H r H':=by
 intro σ vs ok hH hvs;refine calls_of_wp hf hb ?_;have hl:=DV hvs
 have yK:aK σ (args++yw (fn.ntmps - args.length) .aA) { tmps:=vs.toArray++Array.replicate (fn.ntmps - vs.toArray.size) undef,defers:=[]}:=by
  refine⟨by simp[hl],λi d hi=> ?_,rfl⟩;rcases Nat.lt_or_ge i args.length with h1|h1
  .rw[ybe h1]at hi;obtain⟨v,h2,h3⟩:=DW hvs hi
   have h4:(vs.toArray++Array.replicate (fn.ntmps - vs.toArray.size) undef)[i]? =ab v:=by
    grind
   simp_all
  .rw[yaq h1]at hi;have:=List.eq_of_mem_replicate (List.mem_of_getElem? hi);rw[this];exact WT
 refine wp_mono (hr σ _ ok hH yK) ?_;rintro e a w' ⟨rfl,σ',rfl,e1,to,ok',hrep'⟩;unfold fin at hfin;split at hfin
 .rename_i C1 ds hres;dsimp only at hfin
  have main:∀r,(nc ds).rn (aV (yu H.length++keep))=ab r\/(nc (ds.map Dv.arg)).rn (aV (yu H.length++keep))=ab r->once (yu H.length++keep)=af->
   aJ H1 (yu H.length++keep) (yu H.length++keep)=ab H'->ba C1->a.defers=[]/\∃v,(results fn a.tmps).run P σ'.w=.ok v σ'.w/\
    ∃v0 σ'',(Ending.returned v)=.returned v0/\σ''.w=σ'.w/\σ''.H=H'/\To σ σ''/\Ok σ''/\yH σ'' r v0:=by
   intro r hrn honce hsub hc1;refine⟨hrep'.defers, ?_⟩;rw[<-e1]at hres hsub;obtain⟨vs',h2,h3⟩:=FA (P:=P) ok' hrep' _ _ _ _ hres hc1
   refine⟨if h:vs'.toArray.size=1 then vs'.toArray[0] else .tuple vs'.toArray, ?_,if h:vs'.toArray.size=1 then vs'.toArray[0] else .tuple vs'.toArray,
    kh σ' (yu H.length++keep) H',rfl,rfl,rfl, ?_,vG ok' honce hsub, ?_⟩
   .rw[ZH5,Sem.run_bind, <-Array.toArray_toList (xs:=fn.results),List.mapM_toArray];simp_all
   .rw[<-hH]at honce hsub ⊢;exact vH ok to honce hsub
   .rcases hrn with hrn|hrn
    .exact nk (nI hsub) hrn (ZCz h3)
    .refine nk (nI hsub) hrn (ZCz ?_);exact ZMH h3
  have main':bodyPost P fn (λe w'=>∃v σ'',e=.returned v/\σ''.w=w'/\σ''.H=H'/\To σ σ''/\Ok σ''/\yH σ'' r v) ex.to a σ'.w:=by
   have zO:a.defers=[]/\∃v,(results fn a.tmps).run P σ'.w=.ok v σ'.w/\∃v0 σ'',(Ending.returned v)=.returned v0/\σ''.w=σ'.w/\σ''.H=H'/\To σ σ''/\Ok σ''/\yH σ'' r v0:=by
    split at hfin
    .rename_i ho hrn hsub;simp only[yp,yz]at hfin;obtain⟨rfl,rfl,rfl⟩:=hfin;exact main _ (.inl hrn) ho hsub hc
    all_goals simp_all
   rcases hex with rfl|rfl
   .exact zO
   .exact zO
  exact main'
 .cases hfin
end
end Go.Ev
end
section
namespace Go.Ev
theorem ZzA{P:yg}{c:Code}{ts ts':yL Dv}{H H':yL ay}{ex:Ex}{hs hs':yL ar}{C:yL Prop}(h:ev P c ts H hs=ab (C,ex,ts',H',hs'))(hc:ba C):Vd P c ts H ex ts' H':=
 kT c _ _ _ _ _ _ _ _ h hc
def ZF:Code->yL Code
 |.seq a b=>ZF a++ZF b
 |.cond _ a b=>ZF a++ZF b
 |.block _ a=>ZF a
 |.scope a=>ZF a
 |.loop a=>.loop a::ZF a
 |_=>[]
def ZM2(P:yg)(g i:Nat):Code:=
 match P.funcs[g]? with
 |some fn=>match fn.body with
  |some c=>(ZF c).getD i .skip
  |none=>.skip
 |none=>.skip
def ZR9:Code->Code
 |.loop a=>a
 |c=>c
def iv(P:yg)(g i:Nat):Code:=ZR9 (ZM2 P g i)
def u8(b:yB):Pl:=.int .u8 (b.toNat:Int)
theorem ZFZ{f:Nat->yO Nat}{σ σ':Sg}(h:Rn f σ σ'){ts ts':yL Dv}{a:Act}(e:Dv.bt f ts=ab ts')(hr:aK σ ts a):aK σ' ts' a:=by
 refine⟨by rw[DT e];exact hr.size, ?_,hr.defers⟩
 have key:∀(xs ys:yL Dv),Dv.bt f xs=ab ys->∀(i:Nat)(d:Dv),ys[i]? =ab d->∃d0,xs[i]? =ab d0/\d0.rn f=ab d:=by
  intro xs
  induction xs with
  |nil=>
   intro ys h1 i d h2;simp only[Dv.bt,yp]at h1;subst h1
   simp at h2
  |cons x r ih=>
   intro ys h1 i d h2;simp only[Dv.bt]at h1;split at h1
   .rename_i y ys' h3 h4;cases h1
    cases i with
    |zero=>simp only[ybm,yp]at h2 ⊢;subst h2;exact⟨x,rfl,h3⟩
    |succ j=>simp only[yay]at h2 ⊢;exact ih _ h4 j d h2
   .cases h1
 intro i d hd;obtain⟨d0,h1,h2⟩:=key ts ts' e i d hd;exact nk h h2 (hr.at_ i d0 h1)
theorem ZLs{P:yg}{body:Code}{ts ts1 ts2:yL Dv}{H H1 H2:yL ay}{ex:Ex}(mask keep:yL Nat)(h1:Vd P body ts H ex ts1 H1)
 (ho:once (yu H.length++keep)=af) (hin:aJ H1 (yu H.length++keep) (yu H.length++keep)=ab H2)
 (e:Dv.bt (aV (yu H.length++keep)) (rf ts1 mask)=ab ts2):Vd P body ts H ex ts2 H2:=by
 intro σ a ok hH yK;subst hH;refine wp_mono (h1 σ a ok rfl yK) ?_;rintro e' a' w' ⟨rfl,σ1,rfl,e1,to1,ok1,hrep1⟩;subst e1;exact⟨rfl,kh σ1 (yu σ.H.length++keep) H2,rfl,rfl,vH ok to1 ho hin,vG ok1 ho hin,ZFZ (nI hin) e (vF (mask:=mask) hrep1)⟩
end Go.Ev
namespace Go.Ev
theorem ZJL{P:yg}{g:yq}{args args':yL Dv}{H H0 H':yL ay}{r:Dv}(h:cH P g args' H0 r H')(ha:cF args args')(hH:cg H H0):cH P g args H r H':=by
 intro σ vs ok e hr;subst e;obtain⟨to,ok'⟩:=jY ok hH;refine Calls.mono (h { σ with H:=H0} vs ok' rfl (ha.vs ?_)) ?_
 .have:=to.leaf;clear ok' h;have key:∀(l:yL Dv)(us:yL yh),aC σ l us->aC { σ with H:=H0} l us:=λl us q=>ce this l us q;exact key _ _ hr
 .rintro e w' ⟨v,σ',h1,h2,h3,h4,h5,h6⟩;exact⟨v,σ',h1,h2,h3,to.trans h4,h5,h6⟩
theorem ZF0{P:yg}{g:yq}{args:yL Dv}{H H1 H':yL ay}{r r':Dv}(h:cH P g args H r H1)(hr:Wk r r')(hH:cg H1 H'):cH P g args H r' H':=by
 intro σ vs ok e hv;refine Calls.mono (h σ vs ok e hv) ?_;rintro e w' ⟨v,σ',h1,h2,h3,h4,h5,h6⟩;subst h3;obtain⟨to,ok'⟩:=jY h5 hH;exact⟨v,{ σ' with H:=H'},h1,h2,rfl,h4.trans to,ok',hr.dv (mT to.leaf h6)⟩
theorem ZCA{P:yg}{c:Code}{ts ts1 ts2:yL Dv}{H H1 H2:yL ay}{ex:Ex}(h:Vd P c ts H ex ts1 H1)(ht:cF ts1 ts2)(hH:cg H1 H2):Vd P c ts H ex ts2 H2:=by
 intro σ a ok e hr;refine wp_mono (h σ a ok e hr) ?_;rintro e' a' w' ⟨h1,σ',rfl,h3,h4,h5,h6⟩;subst h3;obtain⟨to,ok'⟩:=jY h5 hH;exact⟨h1,{ σ' with H:=H2},rfl,rfl,h4.trans to,ok',ht.rm (h6.to to.leaf)⟩
end Go.Ev
namespace Go.Ev
theorem ZJM{α β:Type}{f:α->β}(hf:∀a b,f a=f b->a=b):∀{l m:yL α},l.map f=m.map f->l=m
 |[],[],_=>rfl
 |[],_::_,h=>by simp at h
 |_::_,[],h=>by simp at h
 |x::l,y::m,h=>by
  simp only[yag,List.cons.injEq]at h;rw[hf _ _ h.1,ZJM hf h.2]
instance(k:IntKind)(x:Int):Decidable (QW k x):=by unfold QW;exact inferInstance
theorem vI{P:yg}{R R':yc->Pl->Prop}(h:∀t x,R t x->R' t x):∀(fs:yL Field)(o:Nat)(xs:yL Pl),io P R fs o xs->io P R' fs o xs
 |[],_,[],_=>trivial
 |[],_,_::_,k=>k.elim
 |_::_,_,[],k=>k.elim
 |f::fs,o,y::ys,k=>by
  obtain⟨a1,a2,a3,a4,a5,a6,a7,a8,a9⟩:=k;exact⟨a1,a2,a3,a4,a5,a6,a7,h _ _ a8,vI h fs _ ys a9⟩
theorem vJ{P:yg}:∀{n:Nat}{t:yc}{x:Pl},bh P n t x->bh P (n+1) t x
 |0,t,x,h=>by simp[bh]at h
 |n+1,t,x,h=>by
  unfold bh at h ⊢;split at h
  .trivial
  .exact h
  .obtain⟨a1,a2,a3,a4,a5,a6⟩:=h;exact⟨a1,a2,a3,a4,a5,λy hy=>⟨vJ (a6 y hy).1,(a6 y hy).2⟩⟩
  .exact⟨h.1,vI (λt x k=>vJ k) _ _ _ h.2⟩
  .exact h.elim
theorem ZJN{P:yg}{g:yq}{s:Nat}{xs:yL Pl}{H H':yL ay}{r:Dv}{yJ:yL Dv}(h1:cH P g (.p (.sl (ab af) s xs)::yJ) H r H')(h2:xs=[]->cH P g (.p (.sl (ab ag) s [])::yJ) H r H'):
 cH P g (.p (.sl ae s xs)::yJ) H r H':=by
 intro σ vs ok e hr;simp only[aC]at hr;obtain⟨v,vs',rfl,hv,hrest⟩:=hr;obtain⟨k1,A,c,rfl,k2,k3,k4,k5,k6⟩:=WY hv
 cases hA:A with
 |none=>
  have hx:xs=[]:=by
   cases xs with
   |nil=>rfl
   |cons x r=>obtain⟨b,o,us,hh,_⟩:=k6 (by simp);rw[hA]at hh;cases hh
  subst hx;subst hA;refine h2 rfl σ _ ok e ?_;simp only[aC]
  exact⟨_,_,rfl,YM k1 k2 k3 (ZyQ rfl) k5 (λh=>absurd rfl h),hrest⟩
 |some a=>
  subst hA;refine h1 σ _ ok e ?_;simp only[aC];exact⟨_,_,rfl,YM k1 k2 k3 (lK rfl) k5 k6,hrest⟩
end Go.Ev
namespace Go.Ev
end Go.Ev
namespace Go.Ev
def st(n:Nat)(l:yL (Nat×Dv)):yL Dv:=(yu n).map λi=>(l.lookup i).getD .aA
inductive pb:List (Nat×Dv)->List (Nat×Dv)->Prop where
 |nil:pb [] []
 |cons {i:Nat} {d e:Dv} {l m:List (Nat×Dv)} (h:Wk d e) (k:pb l m):pb ((i,d)::l) ((i,e)::m)
theorem pb.look{l m:yL (Nat×Dv)}(h:pb l m)(i:Nat):Wk ((l.lookup i).getD .aA) ((m.lookup i).getD .aA):=by
 induction h with
 |nil=>exact Wk.refl _
 |cons h k ih=>
  rename_i j d e l m;simp only[List.lookup_cons];split
  .exact h
  .exact ih
theorem cF.st{n:Nat}{l m:yL (Nat×Dv)}(h:pb l m):cF (st n l) (st n m):=by
 unfold Go.Ev.st;generalize yu n=r
 induction r with
 |nil=>exact .nil
 |cons i r ih=>exact .cons (h.look i) ih
end Go.Ev
end
section
namespace Go.Ev
section
variable{K V:Type}[DecidableEq K]
def eB(ek:K->Pl)(ev:V->Pl)(l:yL (K×V)):yL (Pl×Pl):=l.map λq=>(ek q.1,ev q.2)
def fY:yL (K×V)->K->yO V
 |[],_=>ae
 |q::l,k=>if k=q.1 then ab q.2 else fY l k
def gU:yL (K×V)->K->V->yL (K×V)
 |[],k,v=>[(k,v)]
 |q::l,k,v=>if k=q.1 then(k,v)::l else q::gU l k v
def lU:yL (K×V)->K->yL (K×V)
 |[],_=>[]
 |q::l,k=>if k=q.1 then l else q::lU l k
theorem FC{ek:K->Pl}{ev:V->Pl}(hi:∀x y,ek x=ek y↔x=y)(k:K):∀l:yL (K×V),QO (eB ek ev l) (ek k) ((fY l k).map ev)
 |[]=>rfl
 |q::l=>by
  show QO ((ek q.1,ev q.2)::eB ek ev l) (ek k) _;unfold QO fY;by_cases h:k=q.1
  .left;rw[yW h];exact⟨(hi _ _).2 h,rfl⟩
  .right;rw[yX h];exact⟨λhh=>h ((hi _ _).1 hh),FC hi k l⟩
theorem ZH6{ek:K->Pl}{ev:V->Pl}(hi:∀x y,ek x=ek y↔x=y){k:K}{l:yL (K×V)}{v:V}(h:fY l k=ab v):QO (eB ek ev l) (ek k) (ab (ev v)):=by
 have:=FC (ev:=ev) hi k l;rw[h]at this;exact this
theorem ZH7{ek:K->Pl}{ev:V->Pl}(hi:∀x y,ek x=ek y↔x=y){k:K}{l:yL (K×V)}(h:(fY l k).isSome=ag):QO (eB ek ev l) (ek k) ae:=by
 have:=FC (ev:=ev) hi k l
 cases hm:fY l k with
 |none=>rw[hm]at this;exact this
 |some v=>rw[hm]at h;cases h
theorem ZzB{ek:K->Pl}{ev:V->Pl}(hi:∀x y,ek x=ek y↔x=y)(k:K)(v:V):∀l:yL (K×V),fU (eB ek ev l) (ek k) (ev v) (eB ek ev (gU l k v))
 |[]=>rfl
 |q::l=>by
  show fU ((ek q.1,ev q.2)::eB ek ev l) (ek k) (ev v) _;unfold fU gU;by_cases h:k=q.1
  .left;rw[yW h];exact⟨(hi _ _).2 h,rfl⟩
  .right;rw[yX h];exact⟨λhh=>h ((hi _ _).1 hh),_,rfl,ZzB hi k v l⟩
theorem ZzC{ek:K->Pl}{ev:V->Pl}(hi:∀x y,ek x=ek y↔x=y)(k:K):∀l:yL (K×V),fV (eB ek ev l) (ek k) (eB ek ev (lU l k))
 |[]=>rfl
 |q::l=>by
  show fV ((ek q.1,ev q.2)::eB ek ev l) (ek k) _;unfold fV lU;by_cases h:k=q.1
  .left;rw[yW h];exact⟨(hi _ _).2 h,rfl⟩
  .right;rw[yX h];exact⟨λhh=>h ((hi _ _).1 hh),_,rfl,ZzC hi k l⟩
end
theorem vK{K V:Type}{P:yg}{kt:yc}{ek:K->Pl}{ev:V->Pl}(h:∀x,bh P 20 kt (ek x))(l:yL (K×V)):fW P kt (eB ek ev l):=by
 intro q hq;obtain⟨p,_,rfl⟩:=List.mem_map.1 hq;exact h _
end Go.Ev
namespace Go.Ev
theorem ZF2{P:yg}{g:yq}{s:Nat}{e:yc}{H H':yL ay}{r:Dv}{yJ:yL Dv}(h:cH P g (.own H.length ae s []::yJ) (H++[.log s e []]) r H'):
 cH P g (.p (.sl (ab ag) s [])::yJ) H r H':=by
 intro σ vs ok eH hr;simp only[aC]at hr;obtain⟨v,vs',rfl,hv,hrest⟩:=hr;obtain rfl:=nA hv;subst eH;obtain⟨to,ok'⟩:=VV (σ':={ σ with m:=σ.m++[ae],H:=σ.H++[.log s e []]}) ok rfl rfl rfl rfl (World.grownBy.refl σ.w ae) (.inl rfl) (λ_=>.inl ⟨rfl,rfl⟩);refine(h { σ with m:=σ.m++[ae],H:=σ.H++[.log s e []]} (.slice ae 0 0::vs') ok' rfl ?_).mono λex w'⟨v,σ',h1,h2,h3,h4,h5,h6⟩=>⟨v,σ',h1,h2,h3,to.trans h4,h5,h6⟩;simp only[aC];refine⟨_,_,rfl,(Zi (d:=.own σ.H.length ae s []) rfl).2 ?_,ce to.leaf _ _ hrest⟩;simp only[yG];refine⟨λ_ hx=>(by cases hx),ae,0,rfl,yj _,by simp[maxLen],YE _,λ_=>rfl,λh=>absurd rfl h,e,[],by simp,yj _,λ_=>.inl ⟨?_,rfl,rfl⟩⟩;rw[yaq (by rw[ok.len];exact yj _),ok.len];simp
end Go.Ev
namespace Go.Ev
end Go.Ev
end
section
namespace Go.Ev
inductive bv(H:List ay):Dv->Pl->Prop where
 |p (x:Pl):bv H (.p x) x
 |own (id:Nat) (nn:Option Bool) (s:Nat) (xs:List Pl):bv H (.own id nn s xs) (.sl nn s xs)
 |agg {ds:List Dv} {ys:List Pl} (hl:ds.length=ys.length) (h:∀(i:Nat)(d:Dv)(y:Pl),ds[i]? =ab d->ys[i]? =ab y->bv H d y):bv H (.agg ds) (.agg ys)
 |nJ {id v s lo n N:Nat} {e:yc} {xs:List Pl} (hH:H[id]? =ab (.row v s ag e (.p (.arr N s xs)))) (hle:lo+n<=N):bv H (.rv id v s lo n) (.sl ae s ((xs.drop lo).take n))
 |rL {id v s lo n N:Nat} {e:yc} {ds:List Dv} {ys:List Pl} (hH:H[id]? =ab (.row v s ag e (.arr N s ds))) (hle:lo+n<=N) (hl:ds.length=ys.length)
   (h:∀(i:Nat)(d:Dv)(y:Pl),ds[i]? =ab d->ys[i]? =ab y->bv H d y):bv H (.rv id v s lo n) (.sl ae s ((ys.drop lo).take n))
 |vw {id s lo n N:Nat} {xs:List Pl} (hH:H[id]? =ab (.var (.p (.arr N s xs)) ag)) (hle:lo+n<=N):bv H (.view id 0 [] s lo n) (.sl (ab af) s ((xs.drop lo).take n))
 |wk {d:Dv} {x y:Pl} (h:bv H d x) (k:bJ x y):bv H d y
theorem FD{σ:Sg}:∀{ds:yL Dv}{ys:yL Pl}{us:yL yh},ds.length=ys.length->(∀(i:Nat)(d:Dv)(y:Pl),ds[i]? =ab d->ys[i]? =ab y->∀vs,yG σ d vs->aw σ.w σ.aU y vs)->aI σ ds us->aq σ.w σ.aU ys us
 |[],[],us,_,_,h=>by simpa[aI,aq] using h
 |[],_::_,_,hl,_,_=>by simp at hl
 |_::_,[],_,hl,_,_=>by simp at hl
 |d::ds,y::ys,us,hl,hk,h=>by
  simp only[aI]at h;obtain⟨a,b,h1,h2,h3⟩:=h;simp only[aq];exact⟨a,b,h1,hk 0 d y rfl rfl a h2,FD (by simpa using hl) (λi d y h4 h5=>hk (i+1) d y (by simpa using h4) (by simpa using h5)) h3⟩
theorem ZF3{σ:Sg}(ok:Ok σ){id v s lo n N:Nat}{e:yc}{dd:Dv}{xs:yL Pl}{u:yh}(hx:yH σ (.rv id v s lo n) u)(hH:σ.H[id]? =ab (.row v s ag e dd))(hN:aY dd s=ab N)(hle:lo+n<=N)
 (hd:∀us,yG σ dd us->xs.length=N/\aR s xs/\aq σ.w σ.aU xs us):yH σ (.p (.sl ae s ((xs.drop lo).take n))) u:=by
 obtain⟨A,c,rfl,h2,h3,h4,h5,v2,s2,st2,e2,d2,h6,h7,h8⟩:=jZ hx;rw[hH]at h6;cases h6;obtain⟨_,h9⟩:=h8 rfl;have hidlt:id < σ.m.length:=by rw[ok.len];exact(yo.1 hH).1
 have hmi:σ.m[id]? =ab σ.m[id]:=yac hidlt;obtain⟨N',hN',hent⟩:=ok.cY id _ _ hH hmi;rw[hN]at hN';cases hN';by_cases hn:n=0
 .subst hn;have:=YM (σ:=σ) (nn:=ae) (s:=s) (xs:=[]) (A:=A) (c:=c) (λ_ hx=>by cases hx) (by simp) h3 (YE _) h4 (λh=>absurd rfl h);simpa using this
 have hpos:0 < n:=Nat.pos_of_ne_zero hn;rcases h9 with⟨_,_,hz⟩|⟨b,cur,k1,k2,k3,k4⟩
 .omega
 rw[hmi]at k1;rcases hent with⟨hh,_⟩|⟨b',cur',cap,hh,g2,g4,g5,g6,g7⟩
 .rw[hh]at k1;cases k1
 rw[hh]at k1;cases k1;rw[k2]at g2;cases g2;obtain⟨hxl,hxs,h7⟩:=hd _ g7
 have hsplit:xs=xs.take lo++((xs.drop lo).take n++xs.drop (lo+n)):=by
  have e1:xs.drop (lo+n)=(xs.drop lo).drop n:=by rw[List.drop_drop]
  rw[e1,ybd,ybd]
 rw[hsplit]at h7;obtain⟨q1,q23,e1,r1,r23⟩:=Yh h7;obtain⟨q2,q3,rfl,r2,r3⟩:=Yh r23;have hsy:aR s ((xs.drop lo).take n):=λz hz=>hxs z (List.mem_of_mem_drop (ybn hz));have ly:((xs.drop lo).take n).length=n:=by rw[yx,List.length_drop,ybc (by omega)]
 have l1:q1.length=lo*s:=by rw[aL _ _ r1,aM (λz hz=>hxs z (ybn hz)),yx,ybc (by omega)]
 have hmk:=YM (σ:=σ) (nn:=ae) (A:=A) (c:=c) hsy (by rw[ly];exact h2) h3 (YE _) h4 (λ_=>by
  refine⟨b,lo*s,q2,k4 (by omega),r2,λj u hu=>⟨?_,.inr (ok.own id b (by rw[hmi,hh])),λj' e' g1 g2=> ?_⟩⟩
  .rw[cell_of_row σ.w b _ cur e (0,0) k2, <-ycf];have hj:j < q2.length:=(yo.1 hu).1
   have e2:(cur.toList.take (N*s))[lo*s+j]? =ab u:=by
    rw[e1,yaq (by omega),l1,Nat.add_sub_cancel_left,ybe hj];exact hu
   rw[ycr]at e2;split at e2
   .exact e2
   .cases e2
  .have:j'=id:=ok.inj j' id b g1 (by rw[hmi,hh]);subst this;rw[hH]at g2;cases g2;refine⟨rfl,N,hN, ?_⟩;have hj:=(yo.1 hu).1;have l2:q2.length=n*s:=by rw[aL _ _ r2,aM hsy,ly]
   have h9:(lo+n)*s<=N*s:=Nat.mul_le_mul_right _ hle;rw[l2]at hj;rw[Nat.add_mul]at h9;omega)
 rw[ly]at hmk;exact hmk
theorem ZM3{σ:Sg}(ok:Ok σ){id s lo n N:Nat}{xs:yL Pl}{u:yh}(hx:yH σ (.view id 0 [] s lo n) u)(hH:σ.H[id]? =ab (.var (.p (.arr N s xs)) ag))(hle:lo+n<=N):yH σ (.p (.sl (ab af) s ((xs.drop lo).take n))) u:=by
 obtain⟨b,c,a,hm,_,rfl,h2,h3,h4⟩:=nw hx;obtain⟨b',cs,t',h5,h6,h7,h8⟩:=ok.cY id _ _ hH hm;cases h5;simp only[yG,aw]at h7;obtain⟨hxl,hxs,h7⟩:=h7
 have hsplit:xs=xs.take lo++((xs.drop lo).take n++xs.drop (lo+n)):=by
  have e1:xs.drop (lo+n)=(xs.drop lo).drop n:=by rw[List.drop_drop]
  rw[e1,ybd,ybd]
 rw[hsplit]at h7;obtain⟨q1,q23,e1,r1,r23⟩:=Yh h7;obtain⟨q2,q3,rfl,r2,r3⟩:=Yh r23;have hsy:aR s ((xs.drop lo).take n):=λz hz=>hxs z (List.mem_of_mem_drop (ybn hz));have ly:((xs.drop lo).take n).length=n:=by rw[yx,List.length_drop,ybc (by omega)]
 have l1:q1.length=lo*s:=by rw[aL _ _ r1,aM (λz hz=>hxs z (ybn hz)),yx,ybc (by omega)]
 have hmk:=YM (σ:=σ) (nn:=ab af) (A:=ab a) (c:=c) hsy (by rw[ly];exact h2) h3 (lK rfl) (λh=>by cases h) (λhne=>by
  have hpos:0 < n:=by
   rcases Nat.eq_zero_or_pos n with h0|h0
   .exact absurd (ybh (ly.trans h0)) hne
   .exact h0
  refine⟨b,0+lo*s,q2,by rw[h4 hpos],r2,λj u hu=>⟨?_,.inr (ok.own id b hm),λj' e' g1 g2=> ?_⟩⟩
  .rw[cell_of_row σ.w b _ cs t' (0,0) h6, <-ycf];have hj:j < q2.length:=(yo.1 hu).1
   have e3:∀m,cs.toList.take m=q1++(q2++q3)->(cs.toList.take m)[lo*s+j]? =ab u:=λm e1=>by
    rw[e1,yaq (by omega),l1,Nat.add_sub_cancel_left,ybe hj];exact hu
   have e2:=e3 _ e1;rw[ycr]at e2;rw[Nat.zero_add];split at e2
   .exact e2
   .cases e2
  .have:j'=id:=ok.inj j' id b g1 hm;subst this;rw[hH]at g2;cases g2;rfl)
 rw[ly]at hmk;exact hmk
theorem FE{σ:Sg}(ok:Ok σ){d:Dv}{x:Pl}(h:bv σ.H d x):∀vs,yG σ d vs->aw σ.w σ.aU x vs:=by
 induction h with
 |p x=>intro vs hr;simpa[yG] using hr
 |own id nn s xs=>
  intro vs hr;have hv:∃v,vs=[v]:=by simp only[yG]at hr;obtain⟨_,A,c,rfl,_⟩:=hr;exact⟨_,rfl⟩
  obtain⟨v,rfl⟩:=hv;have:=oO ((Zi (by rfl)).2 hr);rw[Zi (by rfl)]at this
  simpa[yG] using this
 |agg hl h ih=>
  intro vs hr;simp only[yG]at hr;simp only[aw]
  exact FD hl ih hr
 |nJ hH hle=>
  intro vs hr;have hv:∃v,vs=[v]:=by simp only[yG]at hr;obtain⟨A,c,rfl,_⟩:=hr;exact⟨_,rfl⟩
  obtain⟨v,rfl⟩:=hv;have:=ZF3 ok ((Zi (by rfl)).2 hr) hH (by simp[aY]) hle (λus h=>by simp only[yG,aw]at h;exact h);rw[Zi (by rfl)]at this
  simpa[yG] using this
 |rL hH hle hl h ih=>
  rename_i id v s lo n N e ds ys;intro vs hr;have hv:∃v,vs=[v]:=by simp only[yG]at hr;obtain⟨A,c,rfl,_⟩:=hr;exact⟨_,rfl⟩
  obtain⟨v,rfl⟩:=hv
  have:=ZF3 (xs:=ys) ok ((Zi (by rfl)).2 hr) hH (by simp[aY]) hle (λus h=>by
   simp only[yG]at h;obtain⟨h1,h2,h3⟩:=h;refine⟨by rw[<-hl];exact h1, ?_,FD hl ih h3⟩;intro y hy;obtain⟨i,hi⟩:=List.getElem?_of_mem hy;have hlt:i < ds.length:=by rw[hl];exact(yo.1 hi).1
   have hd:=yac hlt;obtain⟨a,b,c,e1,l1,r2,_⟩:=ni h3 hd;have q1:=Ve _ _ (ih i _ y hd hi b r2);have q2:=Vf _ _ r2;rw[<-q1,q2];exact h2 _ (List.mem_of_getElem? hd))
  rw[Zi (by rfl)]at this
  simpa[yG] using this
 |vw hH hle=>
  intro vs hr;have hv:∃v,vs=[v]:=by simp only[yG]at hr;obtain⟨b,c,a,_,_,rfl,_⟩:=hr;exact⟨_,rfl⟩
  obtain⟨v,rfl⟩:=hv;have:=ZM3 ok ((Zi (by rfl)).2 hr) hH hle;rw[Zi (by rfl)]at this
  simpa[yG] using this
 |wk h k ih=>intro vs hr;exact k.cW _ _ _ (ih vs hr)
theorem ZJO{σ:Sg}(ok:Ok σ){d:Dv}{x:Pl}(h:bv σ.H d x){v:yh}(hr:yH σ d v):yH σ (.p x) v:=by
 have ha:d.isAgg=x.isAgg:=by
  have key:∀{d:Dv}{x:Pl},bv σ.H d x->d.isAgg=x.isAgg:=by
   intro d x h
   induction h with
   |p x=>rfl
   |own=>rfl
   |agg=>rfl
   |nJ=>rfl
   |rL=>rfl
   |vw=>rfl
   |wk h k ih=>rw[<-k.agg];exact ih
  exact key h
 obtain⟨h1,h2⟩:=hr;refine⟨λq=> ?_,λq=> ?_⟩
 .obtain⟨cs,e1,e2⟩:=h1 (by rw[ha];exact q);exact⟨cs,e1,by simp only[yG];exact FE ok h _ e2⟩
 .simp only[yG];exact FE ok h _ (h2 (by rw[ha];exact q))
inductive fz(H:List ay):Dv->Dv->Prop where
 |refl (d:Dv):fz H d d
 |deep {d:Dv} {x:Pl} (h:bv H d x):fz H d (.p x)
inductive fA(H:List ay):List Dv->List Dv->Prop where
 |nil:fA H [] []
 |cons {d e:Dv} {ds es:List Dv} (h:fz H d e) (k:fA H ds es):fA H (d::ds) (e::es)
theorem ZF4{σ:Sg}(ok:Ok σ){d e:Dv}(h:fz σ.H d e){v:yh}(hr:yH σ d v):yH σ e v:=by
 cases h with
 |refl=>exact hr
 |deep h=>exact ZJO ok h hr
theorem ZM4{σ:Sg}(ok:Ok σ){ds es:yL Dv}(h:fA σ.H ds es):∀{vs:yL yh},aC σ ds vs->aC σ es vs:=by
 induction h with
 |nil=>intro vs h;exact h
 |cons h k ih=>
  intro vs hr;simp only[aC]at hr ⊢;obtain⟨v,vs',h1,h2,h3⟩:=hr;exact⟨v,vs',h1,ZF4 ok h h2,ih h3⟩
inductive gV(H:List ay):Dv->Dv->Prop where
 |one {d e:Dv} (h:fz H d e):gV H d e
 |bi {ds es:List Dv} (h:fA H ds es):gV H (.bi ds) (.bi es)
theorem ZM5{P:yg}{g:yq}{args:yL Dv}{H H1 H':yL ay}{r r':Dv}(h:cH P g args H r H1)(hH:cg H1 H')(hr:gV H' r r'):cH P g args H r' H':=by
 intro σ vs ok e hv;refine Calls.mono (h σ vs ok e hv) ?_;rintro e w' ⟨v,σ',h1,h2,h3,h4,h5,h6⟩;subst h3;obtain⟨to,ok'⟩:=jY h5 hH;have h7:=mT to.leaf h6;refine⟨v,{ σ' with H:=H'},h1,h2,rfl,h4.trans to,ok', ?_⟩
 cases hr with
 |one hr=>exact ZF4 ok' hr h7
 |bi hr=>
  rw[Zi rfl]at h7 ⊢;simp only[yG]at h7 ⊢;obtain⟨cs,e1,e2⟩:=h7;exact⟨cs,e1,ZM4 ok' hr e2⟩
inductive Ty where
 |int (k:IntKind)
 |u8|u32|u64
 |bool
 |str
 |sl (t:Ty)
 |arr (n:Nat) (t:Ty)
 |st (fs:List Ty)
 deriving Inhabited
mutual
def Ty.aQ:Ty->Type
 |.int _=>Int
 |.u8=>yB
 |.u32=>yV
 |.u64=>yU
 |.bool=>Bool
 |.str=>ByteArray
 |.sl t=>yL (Ty.aQ t)
 |.arr _ t=>yL (Ty.aQ t)
 |.st fs=>Ty.aH fs
def Ty.aH:yL Ty->Type
 |[]=>Unit
 |[t]=>Ty.aQ t
 |t::u::r=>Ty.aQ t×Ty.aH (u::r)
end
mutual
def Ty.size:Ty->Nat
 |.arr n t=>n*Ty.size t
 |.st fs=>Ty.sizes fs
 |_=>1
def Ty.sizes:yL Ty->Nat
 |[]=>0
 |t::r=>Ty.size t+Ty.sizes r
end
mutual
def Ty.dec:(a b:Ty)->Decidable (a=b)
 |.int k,.int l=>if h:k=l then isTrue (by rw[h]) else isFalse (by intro e;cases e;exact h rfl)
 |.u8,.u8=>isTrue rfl
 |.u32,.u32=>isTrue rfl
 |.u64,.u64=>isTrue rfl
 |.bool,.bool=>isTrue rfl
 |.str,.str=>isTrue rfl
 |.sl t,.sl u=>match Ty.dec t u with
  |isTrue h=>isTrue (by rw[h])
  |isFalse h=>isFalse (by intro e;cases e;exact h rfl)
 |.arr n t,.arr m u=>if k:n=m then match Ty.dec t u with
  |isTrue h=>isTrue (by rw[h,k])
  |isFalse h=>isFalse (by intro e;cases e;exact h rfl) else isFalse (by intro e;cases e;exact k rfl)
 |.st fs,.st gs=>match Ty.rM fs gs with
  |isTrue h=>isTrue (by rw[h])
  |isFalse h=>isFalse (by intro e;cases e;exact h rfl)
 |.int _,.u8=>isFalse nofun
 |.int _,.u32=>isFalse nofun
 |.int _,.u64=>isFalse nofun
 |.int _,.bool=>isFalse nofun
 |.int _,.str=>isFalse nofun
 |.int _,.sl _=>isFalse nofun
 |.int _,.arr _ _=>isFalse nofun
 |.int _,.st _=>isFalse nofun
 |.u8,.int _=>isFalse nofun
 |.u8,.u32=>isFalse nofun
 |.u8,.u64=>isFalse nofun
 |.u8,.bool=>isFalse nofun
 |.u8,.str=>isFalse nofun
 |.u8,.sl _=>isFalse nofun
 |.u8,.arr _ _=>isFalse nofun
 |.u8,.st _=>isFalse nofun
 |.u32,.int _=>isFalse nofun
 |.u32,.u8=>isFalse nofun
 |.u32,.u64=>isFalse nofun
 |.u32,.bool=>isFalse nofun
 |.u32,.str=>isFalse nofun
 |.u32,.sl _=>isFalse nofun
 |.u32,.arr _ _=>isFalse nofun
 |.u32,.st _=>isFalse nofun
 |.u64,.int _=>isFalse nofun
 |.u64,.u8=>isFalse nofun
 |.u64,.u32=>isFalse nofun
 |.u64,.bool=>isFalse nofun
 |.u64,.str=>isFalse nofun
 |.u64,.sl _=>isFalse nofun
 |.u64,.arr _ _=>isFalse nofun
 |.u64,.st _=>isFalse nofun
 |.bool,.int _=>isFalse nofun
 |.bool,.u8=>isFalse nofun
 |.bool,.u32=>isFalse nofun
 |.bool,.u64=>isFalse nofun
 |.bool,.str=>isFalse nofun
 |.bool,.sl _=>isFalse nofun
 |.bool,.arr _ _=>isFalse nofun
 |.bool,.st _=>isFalse nofun
 |.str,.int _=>isFalse nofun
 |.str,.u8=>isFalse nofun
 |.str,.u32=>isFalse nofun
 |.str,.u64=>isFalse nofun
 |.str,.bool=>isFalse nofun
 |.str,.sl _=>isFalse nofun
 |.str,.arr _ _=>isFalse nofun
 |.str,.st _=>isFalse nofun
 |.sl _,.int _=>isFalse nofun
 |.sl _,.u8=>isFalse nofun
 |.sl _,.u32=>isFalse nofun
 |.sl _,.u64=>isFalse nofun
 |.sl _,.bool=>isFalse nofun
 |.sl _,.str=>isFalse nofun
 |.sl _,.arr _ _=>isFalse nofun
 |.sl _,.st _=>isFalse nofun
 |.arr _ _,.int _=>isFalse nofun
 |.arr _ _,.u8=>isFalse nofun
 |.arr _ _,.u32=>isFalse nofun
 |.arr _ _,.u64=>isFalse nofun
 |.arr _ _,.bool=>isFalse nofun
 |.arr _ _,.str=>isFalse nofun
 |.arr _ _,.sl _=>isFalse nofun
 |.arr _ _,.st _=>isFalse nofun
 |.st _,.int _=>isFalse nofun
 |.st _,.u8=>isFalse nofun
 |.st _,.u32=>isFalse nofun
 |.st _,.u64=>isFalse nofun
 |.st _,.bool=>isFalse nofun
 |.st _,.str=>isFalse nofun
 |.st _,.sl _=>isFalse nofun
 |.st _,.arr _ _=>isFalse nofun
def Ty.rM:(a b:yL Ty)->Decidable (a=b)
 |[],[]=>isTrue rfl
 |t::r,u::q=>match Ty.dec t u,Ty.rM r q with
  |isTrue h,isTrue k=>isTrue (by rw[h,k])
  |isFalse h,_=>isFalse (by intro e;cases e;exact h rfl)
  |_,isFalse h=>isFalse (by intro e;cases e;exact h rfl)
 |[],_::_=>isFalse nofun
 |_::_,[]=>isFalse nofun
end
instance:DecidableEq Ty:=Ty.dec
def Ty.cast(t u:Ty)(x:t.aQ):yO u.aQ:=
 match Ty.dec t u with
 |isTrue h=>ab (h ▸ x)
 |isFalse _=>ae
def Ty.bn(t u:Ty)(x:yL t.aQ):yO (yL u.aQ):=
 match Ty.dec t u with
 |isTrue h=>ab (h ▸ x)
 |isFalse _=>ae
theorem lV{t u:Ty}{x:t.aQ}{y:u.aQ}(h:Ty.cast t u x=ab y):∃e:t=u,y=e ▸ x:=by
 unfold Ty.cast at h;split at h
 all_goals grind
theorem ZI{t u:Ty}{x:yL t.aQ}{y:yL u.aQ}(h:Ty.bn t u x=ab y):∃e:t=u,y=e ▸ x:=by
 unfold Ty.bn at h;split at h
 all_goals grind
mutual
def Ty.enc:(t:Ty)->t.aQ->Pl
 |.int k,n=>.int k n
 |.u8,b=>.int .u8 (b.toNat:Int)
 |.u32,b=>.int .u32 (b.toNat:Int)
 |.u64,b=>.int .u64 (b.toNat:Int)
 |.bool,b=>.bool b
 |.str,s=>.str s
 |.sl t,l=>.sl ae (Ty.size t) (List.map (Ty.enc t) l)
 |.arr n t,l=>.arr n (Ty.size t) (List.map (Ty.enc t) l)
 |.st fs,x=>.agg (Ty.encs fs x)
def Ty.encs:(fs:yL Ty)->Ty.aH fs->yL Pl
 |[],_=>[]
 |[t],x=>[Ty.enc t x]
 |t::u::r,x=>Ty.enc t x.1::Ty.encs (u::r) x.2
end
mutual
theorem pc:∀(t:Ty)(x:t.aQ),(t.enc x).size=t.size
 |.int _,_=>rfl
 |.u8,_=>rfl
 |.u32,_=>rfl
 |.u64,_=>rfl
 |.bool,_=>rfl
 |.str,_=>rfl
 |.sl _,_=>rfl
 |.arr _ _,_=>rfl
 |.st fs,x=>by rw[Ty.enc,Pl.size,Ty.size];exact eS fs x
theorem eS:∀(fs:yL Ty)(x:Ty.aH fs),Pl.sizes (Ty.encs fs x)=Ty.sizes fs
 |[],_=>rfl
 |[t],x=>by simp only[Ty.encs,Pl.sizes,Ty.sizes];rw[pc t x]
 |t::u::r,x=>by rw[Ty.encs,Pl.sizes,Ty.sizes,pc t x.1,eS (u::r) x.2]
end
mutual
theorem vL:∀(t:Ty)(x:t.aQ),(t.enc x).soft=t.enc x
 |.int _,_=>rfl
 |.u8,_=>rfl
 |.u32,_=>rfl
 |.u64,_=>rfl
 |.bool,_=>rfl
 |.str,_=>rfl
 |.sl _,_=>rfl
 |.arr n t,x=>by
  have key:∀l:yL t.aQ,Pl.soft (.arr n t.size (l.map t.enc))=.arr n t.size (l.map t.enc):=by
   intro l;rw[Pl.soft,Pl.cj,ybf];congr 1;exact List.map_congr_left λy _=>vL t y
  exact key x
 |.st fs,x=>by rw[Ty.enc,Pl.soft,eU fs x]
theorem eU:∀(fs:yL Ty)(x:Ty.aH fs),Pl.cv (Ty.encs fs x)=Ty.encs fs x
 |[],_=>rfl
 |[t],x=>by simp only[Ty.encs,Pl.cv];rw[vL t x]
 |t::u::r,x=>by rw[Ty.encs,Pl.cv,vL t x.1,eU (u::r) x.2]
end
theorem Zd{α β:Type}{f:α->β}{o:yO α}{y:β}(h:o.map f=ab y):∃x,o=ab x/\f x=y:=yn.1 h
def Ty.nK:(fs:yL Ty)->Ty.aH fs->Nat->yO (Σ t:Ty,t.aQ)
 |[],_,_=>ae
 |[t],x,0=>ab ⟨t,x⟩
 |[_],_,_+1=>ae
 |t::_::_,x,0=>ab ⟨t,x.1⟩
 |_::u::r,x,i+1=>Ty.nK (u::r) x.2 i
def Ty.upd:(fs:yL Ty)->Ty.aH fs->Nat->(t:Ty)->t.aQ->yO (Ty.aH fs)
 |[],_,_,_,_=>ae
 |[t],_,0,u,y=>Ty.cast u t y
 |[_],_,_+1,_,_=>ae
 |t::v::r,x,0,u,y=>(Ty.cast u t y).map λz=>(z,x.2)
 |_::v::r,x,i+1,u,y=>(Ty.upd (v::r) x.2 i u y).map λz=>(x.1,z)
theorem ZF5:∀(fs:yL Ty)(x:Ty.aH fs)(i:Nat)(q:Σ t:Ty,t.aQ),Ty.nK fs x i=ab q->(Ty.encs fs x)[i]? =ab (q.1.enc q.2)
 |[],_,_,_,h=>by cases h
 |[t],x,0,q,h=>by cases h;rfl
 |[_],_,_+1,_,h=>by cases h
 |t::_::_,x,0,q,h=>by cases h;rfl
 |t::u::r,x,i+1,q,h=>by
  rw[Ty.encs,yay];exact ZF5 (u::r) x.2 i q h
theorem ZJP:∀(fs:yL Ty)(x:Ty.aH fs)(i:Nat)(t:Ty)(y:t.aQ)(z:Ty.aH fs),Ty.upd fs x i t y=ab z->Ty.encs fs z=(Ty.encs fs x).set i (t.enc y)
 |[],_,_,_,_,_,h=>by cases h
 |[t],x,0,u,y,z,h=>by
  obtain⟨e,rfl⟩:=lV h;subst e
  rfl
 |[_],_,_+1,_,_,_,h=>by cases h
 |t::v::r,x,0,u,y,z,h=>by
  obtain⟨w,h1,h2⟩:=Zd (α:=t.aQ) (β:=t.aQ×Ty.aH (v::r)) h;subst h2;obtain⟨e,rfl⟩:=lV h1;subst e
  rfl
 |t::v::r,x,i+1,u,y,z,h=>by
  obtain⟨w,h1,h2⟩:=Zd (α:=Ty.aH (v::r)) (β:=t.aQ×Ty.aH (v::r)) h;subst h2;show t.enc x.1::Ty.encs (v::r) w=(t.enc x.1::Ty.encs (v::r) x.2).set (i+1) (u.enc y);rw[List.set_cons_succ,ZJP (v::r) x.2 i u y w h1]
inductive TP where
 |v (t:Ty) (x:t.aQ)
 |sl (nn:Option Bool) (t:Ty) (xs:List t.aQ)
 |agg (xs:List TP)
 |arr (n s:Nat) (xs:List TP)
 |nL (nn:Option Bool) (s:Nat) (xs:List TP)
 |bE|fn0|dE|bU
 |fS (f:yq)
 |iface (t:yc) (x:TP)
instance:Inhabited TP:=⟨.bE⟩
mutual
def TP.pe:TP->Pl
 |.v t x=>t.enc x
 |.sl nn t xs=>.sl nn t.size (xs.map t.enc)
 |.agg xs=>.agg (TP.cO xs)
 |.arr n s xs=>.arr n s (TP.cO xs)
 |.nL nn s xs=>.sl nn s (TP.cO xs)
 |.bE=>.bE
 |.fn0=>.fn0
 |.dE=>.dE
 |.bU=>.bU
 |.fS f=>.fS f
 |.iface t x=>.iface t (TP.pe x)
def TP.cO:yL TP->yL Pl
 |[]=>[]
 |x::r=>x.pe::TP.cO r
end
theorem jr:∀(xs:yL TP),TP.cO xs=xs.map TP.pe
 |[]=>rfl
 |x::r=>by rw[TP.cO,jr r];rfl
def Ty.gD:(fs:yL Ty)->Ty.aH fs->yL TP
 |[],_=>[]
 |[t],x=>[.v t x]
 |t::u::r,x=>.v t x.1::Ty.gD (u::r) x.2
theorem FF:∀(fs:yL Ty)(x:Ty.aH fs),TP.cO (Ty.gD fs x)=Ty.encs fs x
 |[],_=>rfl
 |[t],x=>rfl
 |t::u::r,x=>by
  show t.enc x.1::TP.cO (Ty.gD (u::r) x.2)=t.enc x.1::Ty.encs (u::r) x.2;rw[FF (u::r) x.2]
def TP.parts:TP->yO (yL TP)
 |.v (.st fs) x=>ab (Ty.gD fs x)
 |.agg l=>ab l
 |_=>ae
theorem FG{x:TP}{l:yL TP}(h:x.parts=ab l):x.pe=.agg (TP.cO l):=by
 cases x with
 |v t a=>
  cases t with
  |st fs=>
   cases (show ab (Ty.gD fs a)=ab l from h)
   exact congrArg Pl.agg (FF fs a).symm
  |_=>cases h
 |agg l'=>cases h;rfl
 |_=>cases h
def pd:yL Nat->TP->TP
 |[],x=>match x with
  |.v (.sl t) _=>.sl (ab ag) t []
  |x=>x
 |i::r,x=>match x.parts with
  |some l=>match l[i]? with
   |some z=>.agg (l.set i (pd r z))
   |none=>x
  |none=>x
inductive bX where
 |fZ (i o:Nat)
 |ix (i s:Nat)
def bX.i:bX->Nat
 |.fZ i _=>i
 |.ix i _=>i
def bX.o:bX->Nat
 |.fZ _ o=>o
 |.ix i s=>i*s
def Qj:yL bX->Nat
 |l=>l.foldl (λn q=>n+q.o) 0
inductive TD where
 |p (x:TP)
 |elem (x:TP)
 |am (id:Nat) (yM:List bX)
 |own (id:Nat) (nn:Option Bool) (t:Ty) (c:Option (List t.aQ))
 |view (id:Nat) (yM:List bX) (s lo n:Nat)
 |agg (xs:List TD)
 |arr (n s:Nat) (xs:List TD)
 |fn (f:yq) (cap:List TD)
 |iface (t:yc) (x:TD)
 |bi (xs:List TD)
 |mp (id:Nat)
 |rv (id v s lo n:Nat)
 |aZ (id v:Nat) (yM:List bX)
 |rw(id:Nat)
 |rp (id:Nat) (yM:List bX)
 |aA
instance:Inhabited TD:=⟨.aA⟩
abbrev Lk:=Nat->yO (Σ t:Ty,yL t.aQ)
def Yg(L:Lk)(id:Nat)(t:Ty):yO (yL t.aQ)->yL t.aQ
 |some xs=>xs
 |none=>match L id with
  |some q=>(Ty.bn q.1 t q.2).getD []
  |none=>[]
abbrev _root_.aSo:Go.Ev.Ty:=.sl (.st [])
def dU(L:Lk)(id k:Nat):Nat:=(((Yg L id aSo ae)[k]?).getD []).length
mutual
def TD.er(L:Lk):TD->Dv
 |.p x=>.p x.pe
 |.elem x=>.elem x.pe
 |.am id yM=>.am id (Qj yM) (yM.map bX.i)
 |.own id nn t c=>.own id nn t.size ((Yg L id t c).map t.enc)
 |.view id yM s lo n=>.view id (Qj yM) (yM.map bX.i) s lo n
 |.agg xs=>.agg (TD.aE L xs)
 |.arr n s xs=>.arr n s (TD.aE L xs)
 |.fn f cap=>.fn f (TD.aE L cap)
 |.iface t x=>.iface t (TD.er L x)
 |.bi xs=>.bi (TD.aE L xs)
 |.mp id=>.mp id
 |.rv id v s lo n=>.rv id v s lo n
 |.aZ id v yM=>.aZ id v (Qj yM) (yM.map bX.i)
 |.rw id=>.rv id (dU L id 0) (dU L id 1) 0 (dU L id 2)
 |.rp id yM=>.aZ id (dU L id 0) (Qj yM) (yM.map bX.i)
 |.aA=>.aA
def TD.aE(L:Lk):yL TD->yL Dv
 |[]=>[]
 |x::r=>x.er L::TD.aE L r
end
theorem ZH{L:Lk}:∀(xs:yL TD),TD.aE L xs=xs.map (TD.er L)
 |[]=>rfl
 |x::r=>by rw[TD.aE,ZH r];rfl
inductive ak where
 |var (d:TD) (st:Bool)
 |log (t:Ty) (e:yc) (xs:List t.aQ)
 |map (tid:yc) (k v:Ty) (l:List (k.aQ×v.aQ))
 |row (v s:Nat) (st:Bool) (e:yc) (d:TD)
 |aW (t:Ty) (v:List Unit) (st:Bool) (e:yc) (xs:List t.aQ)
 |aY (t:Ty) (np:List Nat) (v:List Unit) (st:Bool) (e:yc) (pre post:List t.aQ)
 |bR (t:Ty) (np:List Nat) (v:List Unit) (st:Bool) (e:yc) (pre:List t.aQ) (mid:TD) (post:List t.aQ)
 |gone
instance:Inhabited ak:=⟨.gone⟩
def ak.er(L:Lk):ak->ay
 |.var d st=>.var (d.er L) st
 |.log t e xs=>.log t.size e (xs.map t.enc)
 |.map tid k v l=>.map tid (eB k.enc v.enc l)
 |.row v s st e d=>.row v s st e (d.er L)
 |.aW t v st e xs=>.row v.length t.size st e (.p (.arr xs.length t.size (xs.map t.enc)))
 |.aY t np v st e pre post=>.row v.length t.size st e (.p (.arr (pre.length+post.length) t.size (pre.map t.enc++post.map λx=>(pd np (.v t x)).pe)))
 |.bR t np v st e pre mid post=>.row v.length t.size st e (.arr (pre.length+(post.length+1)) t.size ((pre.map λx=>.p (t.enc x))++mid.er L::post.map λx=>.p (pd np (.v t x)).pe))
 |.gone=>.gone
abbrev _root_.aSp:=yL Unit
def dt:yO ak->yO (Σ t:Ty,yL t.aQ)
 |some (.log t _ xs)=>ab ⟨t,xs⟩
 |some (.aW t v _ _ xs)=>ab ⟨.sl (.st []),([v,yw t.size (),yw xs.length ()]:yL aSp)⟩
 |some (.aY t _ v _ _ pre post)=>ab ⟨.sl (.st []),([v,yw t.size (),yw (pre.length+post.length) ()]:yL aSp)⟩
 |some (.bR t _ v _ _ pre _ post)=>ab ⟨.sl (.st []),([v,yw t.size (),yw (pre.length+(post.length+1)) ()]:yL aSp)⟩
 |_=>ae
def lk(H:yL ak):Lk:=λid=>dt (H[id]?)
def aG(H:yL ak):yL ay:=H.map (ak.er (lk H))
theorem Yq{H:yL ak}{i:Nat}{e:ak}(h:H[i]? =ab e):(aG H)[i]? =ab (e.er (lk H)):=by rw[aG,yak,h];rfl
theorem lW{L:Lk}{ts:yL TD}{i:Nat}{d:TD}(h:ts[i]? =ab d):(TD.aE L ts)[i]? =ab (d.er L):=by rw[ZH,yak,h];rfl
theorem ZQ(H:yL ak):(aG H).length=H.length:=yab ..
theorem vM{L:Lk}(H:yL TD):(TD.aE L H).length=H.length:=by rw[ZH];exact yab ..
def ki{α β:Type}:yO α->yO β->yO (α×β)
 |some a,ab b=>ab (a,b)
 |_,_=>ae
theorem nM{α β:Type}{a:yO α}{b:yO β}{q:α×β}(h:ki a b=ab q):a=ab q.1/\b=ab q.2:=by
 cases a with
 |none=>cases h
 |some x=>cases b with
  |none=>cases h
  |some y=>cases h;exact⟨rfl,rfl⟩
def rN(nn:Bool)(t:Ty)(xs:yL t.aQ):(u:Ty)->yO u.aQ
 |.sl u=>if nn then Ty.bn t u xs else ae
 |_=>ae
def rO(f:(fs:yL Ty)->yO (Ty.aH fs)):(u:Ty)->yO u.aQ
 |.st fs=>f fs
 |_=>ae
def vN(n s:Nat)(f:(t:Ty)->yO (yL t.aQ)):(u:Ty)->yO u.aQ
 |.arr m t=>if n=m/\s=t.size then f t else ae
 |_=>ae
def vO:(fs:yL Ty)->yO (Ty.aH fs)
 |[]=>ab ()
 |_=>ae
def vP(f:(t:Ty)->yO t.aQ)(last:Bool)(g:(fs:yL Ty)->yO (Ty.aH fs)):(fs:yL Ty)->yO (Ty.aH fs)
 |[]=>ae
 |[t]=>if last then f t else ae
 |t::u::q=>ki (f t) (g (u::q))
mutual
def TP.to(ok:yO Bool->Bool):TP->(t:Ty)->yO t.aQ
 |.v t x=>λu=>Ty.cast t u x
 |.sl nn t xs=>rN (ok nn) t xs
 |.agg xs=>rO (TP.kU ok xs)
 |.arr n s xs=>vN n s (TP.kV ok xs)
 |.nL _ _ _=>λ_=>ae
 |.bE=>λ_=>ae
 |.fn0=>λ_=>ae
 |.dE=>λ_=>ae
 |.bU=>λ_=>ae
 |.fS _=>λ_=>ae
 |.iface _ _=>λ_=>ae
def TP.kU(ok:yO Bool->Bool):yL TP->(fs:yL Ty)->yO (Ty.aH fs)
 |[]=>vO
 |x::r=>vP (TP.to ok x) r.isEmpty (TP.kU ok r)
def TP.kV(ok:yO Bool->Bool):yL TP->(t:Ty)->yO (yL t.aQ)
 |[]=>λ_=>ab []
 |x::r=>λt=>(ki (TP.to ok x t) (TP.kV ok r t)).map λq=>q.1::q.2
end
def kW:yO Bool->Bool:=λ_=>af
def gW:yO Bool->Bool:=Option.isNone
theorem vQ(t:Ty)(l:yL t.aQ):(Ty.sl t).enc l=.sl ae t.size (l.map t.enc):=rfl
theorem FH(n:Nat)(t:Ty)(l:yL t.aQ):(Ty.arr n t).enc l=.arr n t.size (l.map t.enc):=rfl
theorem FJ{b:Bool}{nn:yO Bool}{t u:Ty}{xs:yL t.aQ}{y:u.aQ}(h:rN b t xs u=ab y):∃l:yL t.aQ,b=af/\u.enc y=.sl ae t.size (l.map t.enc)/\l=xs:=by
 cases u with
 |sl u=>
  have h':(if b then Ty.bn t u xs else ae)=ab y:=h
  split at h'
  .rename_i hb;obtain⟨e,h2⟩:=ZI h';subst e;subst h2;exact⟨y,hb,rfl,rfl⟩
  .cases h'
 |_=>cases h
theorem FK{f:(fs:yL Ty)->yO (Ty.aH fs)}{u:Ty}{y:u.aQ}(h:rO f u=ab y):∃(fs:yL Ty)(z:Ty.aH fs),f fs=ab z/\u.enc y=.agg (Ty.encs fs z):=by
 cases u with
 |st fs=>exact⟨fs,y,h,rfl⟩
 |_=>cases h
theorem ZzF{n s:Nat}{f:(t:Ty)->yO (yL t.aQ)}{u:Ty}{y:u.aQ}(h:vN n s f u=ab y):∃(t:Ty)(l:yL t.aQ),f t=ab l/\u.enc y=.arr n s (l.map t.enc):=by
 cases u with
 |arr m t=>
  have h':(if n=m/\s=t.size then f t else ae)=ab y:=h
  split at h'
  .rename_i e;obtain⟨rfl,rfl⟩:=e;exact⟨t,y,h',rfl⟩
  .cases h'
 |_=>cases h
theorem ZzG{fs:yL Ty}{y:Ty.aH fs}(h:vO fs=ab y):Ty.encs fs y=[]:=by
 cases fs with
 |nil=>rfl
 |cons _ _=>cases h
theorem Zw2{f:(t:Ty)->yO t.aQ}{b:Bool}{g:(fs:yL Ty)->yO (Ty.aH fs)}{fs:yL Ty}{y:Ty.aH fs}(h:vP f b g fs=ab y):
 ∃(t:Ty)(x:t.aQ)(l:yL Pl),f t=ab x/\Ty.encs fs y=t.enc x::l/\((b=af/\l=[])\/∃(gs:yL Ty)(z:Ty.aH gs),g gs=ab z/\l=Ty.encs gs z):=by
 match fs,y,h with
 |[],_,h=>cases h
 |[t],y,h=>
  have h':(if b then f t else ae)=ab y:=h
  split at h'
  .rename_i hb;exact⟨t,y,[],h',rfl,.inl ⟨hb,rfl⟩⟩
  .cases h'
 |t::u::q,y,h=>
  obtain⟨h1,h2⟩:=nM (α:=t.aQ) (β:=Ty.aH (u::q)) h;exact⟨t,y.1,_,h1,rfl,.inr ⟨u::q,y.2,h2,rfl⟩⟩
mutual
theorem nO{ok:yO Bool->Bool}:∀(x:TP)(t:Ty)(y:t.aQ),TP.to ok x t=ab y->x.pe.soft=t.enc y
 |.v t x,u,y,h=>by
  obtain⟨e,rfl⟩:=lV (show Ty.cast t u x=ab y from h)
  subst e
  exact vL t x
 |.sl nn t xs,u,y,h=>by
  obtain⟨l,_,h2,h3⟩:=FJ (nn:=nn) (show rN (ok nn) t xs u=ab y from h)
  rw[h2,h3]
  rfl
 |.agg xs,u,y,h=>by
  obtain⟨fs,z,h1,h2⟩:=FK (show rO (TP.kU ok xs) u=ab y from h)
  rw[h2];show Pl.agg (Pl.cv (TP.cO xs))=_
  rw[gb xs fs z h1]
 |.arr n s xs,u,y,h=>by
  obtain⟨t,l,h1,h2⟩:=ZzF (show vN n s (TP.kV ok xs) u=ab y from h)
  rw[h2];show Pl.arr n s (Pl.cv (TP.cO xs))=_
  rw[gc xs t l h1]
 |.nL _ _ _,_,_,h=>nomatch (show ae=ab _ from h)
 |.bE,_,_,h=>nomatch (show ae=ab _ from h)
 |.fn0,_,_,h=>nomatch (show ae=ab _ from h)
 |.dE,_,_,h=>nomatch (show ae=ab _ from h)
 |.bU,_,_,h=>nomatch (show ae=ab _ from h)
 |.fS _,_,_,h=>nomatch (show ae=ab _ from h)
 |.iface _ _,_,_,h=>nomatch (show ae=ab _ from h)
theorem gb{ok:yO Bool->Bool}:∀(xs:yL TP)(fs:yL Ty)(y:Ty.aH fs),TP.kU ok xs fs=ab y->Pl.cv (TP.cO xs)=Ty.encs fs y
 |[],fs,y,h=>(ZzG (show vO fs=ab y from h)).symm
 |x::r,fs,y,h=>by
  obtain⟨t,a,l,h1,h2,h3⟩:=Zw2 (show vP (TP.to ok x) r.isEmpty (TP.kU ok r) fs=ab y from h)
  rw[h2];show x.pe.soft::Pl.cv (TP.cO r)=_;rw[nO x t a h1];rcases h3 with⟨h4,rfl⟩|⟨gs,z,h4,rfl⟩
  .cases r with
   |nil=>rfl
   |cons _ _=>cases h4
  .rw[gb r gs z h4]
theorem gc{ok:yO Bool->Bool}:∀(xs:yL TP)(t:Ty)(y:yL t.aQ),TP.kV ok xs t=ab y->Pl.cv (TP.cO xs)=y.map t.enc
 |[],_,y,h=>by
  cases (show ab []=ab y from h)
  rfl
 |x::r,t,y,h=>by
  obtain⟨q,h1,rfl⟩:=Zd (show(ki (TP.to ok x t) (TP.kV ok r t)).map (λq=>q.1::q.2)=ab y from h)
  obtain⟨h2,h3⟩:=nM h1;show x.pe.soft::Pl.cv (TP.cO r)=_;rw[nO x t q.1 h2,gc r t q.2 h3,yag]
end
theorem vR{ok:yO Bool->Bool}{x:TP}{t:Ty}{y:t.aQ}(h:TP.to ok x t=ab y):bJ x.pe (t.enc y):=nO x t y h ▸ nu x.pe
mutual
theorem vS:∀(x:TP)(t:Ty)(y:t.aQ),TP.to gW x t=ab y->x.pe=t.enc y
 |.v t x,u,y,h=>by
  obtain⟨e,rfl⟩:=lV (show Ty.cast t u x=ab y from h)
  subst e
  rfl
 |.sl nn t xs,u,y,h=>by
  obtain⟨l,h1,h2,h3⟩:=FJ (nn:=nn) (show rN (gW nn) t xs u=ab y from h)
  rw[h2,h3]
  cases nn with
  |none=>rfl
  |some _=>cases h1
 |.agg xs,u,y,h=>by
  obtain⟨fs,z,h1,h2⟩:=FK (show rO (TP.kU gW xs) u=ab y from h)
  rw[h2];show Pl.agg (TP.cO xs)=_
  rw[ej xs fs z h1]
 |.arr n s xs,u,y,h=>by
  obtain⟨t,l,h1,h2⟩:=ZzF (show vN n s (TP.kV gW xs) u=ab y from h)
  rw[h2];show Pl.arr n s (TP.cO xs)=_
  rw[ep xs t l h1]
 |.nL _ _ _,_,_,h=>nomatch (show ae=ab _ from h)
 |.bE,_,_,h=>nomatch (show ae=ab _ from h)
 |.fn0,_,_,h=>nomatch (show ae=ab _ from h)
 |.dE,_,_,h=>nomatch (show ae=ab _ from h)
 |.bU,_,_,h=>nomatch (show ae=ab _ from h)
 |.fS _,_,_,h=>nomatch (show ae=ab _ from h)
 |.iface _ _,_,_,h=>nomatch (show ae=ab _ from h)
theorem ej:∀(xs:yL TP)(fs:yL Ty)(y:Ty.aH fs),TP.kU gW xs fs=ab y->TP.cO xs=Ty.encs fs y
 |[],fs,y,h=>(ZzG (show vO fs=ab y from h)).symm
 |x::r,fs,y,h=>by
  obtain⟨t,a,l,h1,h2,h3⟩:=Zw2 (show vP (TP.to gW x) r.isEmpty (TP.kU gW r) fs=ab y from h)
  rw[h2];show x.pe::TP.cO r=_;rw[vS x t a h1];rcases h3 with⟨h4,rfl⟩|⟨gs,z,h4,rfl⟩
  .cases r with
   |nil=>rfl
   |cons _ _=>cases h4
  .rw[ej r gs z h4]
theorem ep:∀(xs:yL TP)(t:Ty)(y:yL t.aQ),TP.kV gW xs t=ab y->TP.cO xs=y.map t.enc
 |[],_,y,h=>by
  cases (show ab []=ab y from h)
  rfl
 |x::r,t,y,h=>by
  obtain⟨q,h1,rfl⟩:=Zd (show(ki (TP.to gW x t) (TP.kV gW r t)).map (λq=>q.1::q.2)=ab y from h)
  obtain⟨h2,h3⟩:=nM h1;show x.pe::TP.cO r=_;rw[vS x t q.1 h2,ep r t q.2 h3,yag]
end
mutual
def gf(P:yg):Nat->yc->yO Ty
 |0,_=>ae
 |n+1,t=>match P.underlying t with
  |some (.int .u8)=>ab .u8
  |some (.int .u32)=>ab .u32
  |some (.int .u64)=>ab .u64
  |some (.int k)=>ab (.int k)
  |some .bool=>ab .bool
  |some .string=>ab .str
  |some (.slice e)=>(gf P n e).map .sl
  |some (.array m e)=>(gf P n e).map (.arr m)
  |some (.struct fs)=>(lX P n (fs.toList.map (·.type))).map .st
  |_=>ae
def lX(P:yg):Nat->yL yc->yO (yL Ty)
 |0,_=>ae
 |_+1,[]=>ab []
 |n+1,t::r=>match gf P n t,lX P n r with
  |some a,ab b=>ab (a::b)
  |_,_=>ae
end
def FL(k:IntKind)(z:Int):TP:=
 match k with
 |.u8=>.v .u8 (yav z.toNat)
 |.u32=>.v .u32 (ybq z.toNat)
 |.u64=>.v .u64 (yv z.toNat)
 |k=>.v (.int k) z
def nP(k:IntKind)(z:Int):Bool:=
 match k with
 |.u8=>ah (0<=z)&&ah (z < 256)
 |.u32=>ah (0<=z)&&ah (z < 4294967296)
 |.u64=>ah (0<=z)&&ah (z < 18446744073709551616)
 |_=>af
theorem ZPS{k:IntKind}{z:Int}(h:nP k z=af):(FL k z).pe=.int k z:=by
 cases k <;> simp only[nP,yi,yP]at h <;> simp only[FL,TP.pe,Ty.enc]
 .simp only[Pl.int.injEq,true_and,UInt8.toNat_ofNat'];omega
 .simp only[Pl.int.injEq,true_and,ycq];omega
 .simp only[Pl.int.injEq,true_and,yan];omega
abbrev wi(z:Int):Int:=IntKind.i64.wrap z
def w8(z:Int):yB:=yav (z % 256).toNat
def w32(z:Int):yV:=ybq (z % 4294967296).toNat
def cD(z:Int):yU:=yv (z % 18446744073709551616).toNat
def vT(k:IntKind)(z:Int):TP:=
 match k with
 |.u8=>.v .u8 (w8 z)
 |.u32=>.v .u32 (w32 z)
 |.u64=>.v .u64 (cD z)
 |k=>.v (.int k) (k.wrap z)
theorem ZSb(z:Int):((w8 z).toNat:Int)=IntKind.u8.wrap z:=by
 simp only[w8,IntKind.wrap,IntKind.signed,IntKind.bits,UInt8.toNat_ofNat'];simp;omega
theorem ZPU(z:Int):((w32 z).toNat:Int)=IntKind.u32.wrap z:=by
 simp only[w32,IntKind.wrap,IntKind.signed,IntKind.bits,ycq];simp;omega
theorem ZPV(z:Int):((cD z).toNat:Int)=IntKind.u64.wrap z:=by
 simp only[cD,IntKind.wrap,IntKind.signed,IntKind.bits,yan];simp;omega
theorem ZJT(k:IntKind)(z:Int):(vT k z).pe=.int k (k.wrap z):=by
 cases k <;> simp only[vT,TP.pe,Ty.enc,ZSb,ZPU,ZPV]
def FM:IntKind->Bool
 |.u8=>ag
 |.u32=>ag
 |.u64=>ag
 |_=>af
def kX:TP->yO (IntKind×Int)
 |.v (.int k) n=>if FM k then ab (k,n) else ae
 |.v .u8 b=>ab (.u8,(b.toNat:Int))
 |.v .u32 b=>ab (.u32,(b.toNat:Int))
 |.v .u64 b=>ab (.u64,(b.toNat:Int))
 |_=>ae
theorem vU{x:TP}{q:IntKind×Int}(h:kX x=ab q):x.pe=.int q.1 q.2/\nP q.1 q.2=af:=by
 unfold kX at h;split at h
 .rename_i k n;split at h
  .rename_i hk;cases h;refine⟨rfl, ?_⟩;cases k <;> first|rfl|cases hk
  .cases h
 .rename_i b;cases h;exact⟨rfl,by simp only[nP,yi,yP];have:=b.toNat_lt;omega⟩
 .rename_i b;cases h;exact⟨rfl,by simp only[nP,yi,yP];have:=b.toNat_lt;omega⟩
 .rename_i b;cases h;exact⟨rfl,by simp only[nP,yi,yP];have:=b.toNat_lt;omega⟩
 .cases h
def gX:Nat:=40
def vV(P:yg)(t:yc)(l:yL TP):TP:=
 match gf P gX t with
 |some (.st fs)=>match TP.kU gW l fs with
  |some x=>.v (.st fs) x
  |none=>.agg l
 |_=>.agg l
theorem ZJU{P:yg}(t:yc)(l:yL TP):(vV P t l).pe=.agg (TP.cO l):=by
 unfold vV;split
 .rename_i fs _;split
  .rename_i x h;show Pl.agg (Ty.encs fs x)=_;rw[ej l fs x h]
  .rfl
 .rfl
def vW(P:yg)(t:yc)(n s:Nat)(l:yL TP):TP:=
 match gf P gX t with
 |some (.arr _ u)=>if s=u.size then match TP.kV gW l u with
  |some x=>.v (.arr n u) x
  |none=>.arr n s l else .arr n s l
 |_=>.arr n s l
theorem ZJV{P:yg}(t:yc)(n s:Nat)(l:yL TP):(vW P t n s l).pe=.arr n s (TP.cO l):=by
 unfold vW;split
 .rename_i u _;split
  .rename_i e;split
   .rename_i x h;show Pl.arr n u.size (List.map u.enc x)=_;rw[ep l u x h,e]
   .rfl
  .rfl
 .rfl
def rP(f:yc->Pl->yO TP):yL yc->yL Pl->yO (yL TP)
 |[],[]=>ab []
 |t::r,x::q=>match f t x,rP f r q with
  |some a,ab b=>ab (a::b)
  |_,_=>ae
 |_,_=>ae
def rQ(P:yg):Nat->yc->Pl->yO TP
 |0,_,_=>ae
 |n+1,t,x=>match x with
  |.int k z=>if nP k z then ab (FL k z) else ae
  |.bool b=>ab (.v .bool b)
  |.str b=>ab (.v .str b)
  |.bE=>ab .bE
  |.fn0=>ab .fn0
  |.dE=>ab .dE
  |.bU=>ab .bU
  |.sl nn s []=>match P.underlying t with
   |some (.slice e)=>(gf P gX e).bind λT=>if s=T.size then ab (.sl nn T []) else ae
   |_=>ae
  |.agg xs=>match P.underlying t with
   |some (.struct fs)=>(rP (rQ P n) (fs.toList.map (·.type)) xs).map (vV P t)
   |_=>ae
  |.arr m s xs=>match P.underlying t with
   |some (.array _ e)=>(rP (rQ P n) (yw xs.length e) xs).map (vW P t m s)
   |_=>ae
  |_=>ae
theorem FN{f:yc->Pl->yO TP}(h:∀t x y,f t x=ab y->y.pe=x):∀(l:yL yc)(xs:yL Pl)(r:yL TP),rP f l xs=ab r->TP.cO r=xs
 |[],[],r,k=>by cases k;rfl
 |[],_::_,r,k=>by cases k
 |_::_,[],r,k=>by cases k
 |t::l,x::xs,r,k=>by
  simp only[rP]at k;split at k
  .rename_i a b h1 h2;cases k;rw[TP.cO,h t x a h1,FN h l xs b h2]
  .cases k
theorem FO{P:yg}:∀(n:Nat)(t:yc)(x:Pl)(y:TP),rQ P n t x=ab y->y.pe=x
 |0,_,_,_,h=>by cases h
 |n+1,t,x,y,h=>by
  unfold rQ at h;split at h
  .split at h
   .rename_i hk;cases h;exact ZPS hk
   .cases h
  .cases h;rfl
  .cases h;rfl
  .cases h;rfl
  .cases h;rfl
  .cases h;rfl
  .cases h;rfl
  .split at h
   .obtain⟨T,h1,h2⟩:=yf.1 h;split at h2
    .rename_i e;cases h2;rw[TP.pe,e];rfl
    .cases h2
   .cases h
  .split at h
   .obtain⟨l,h1,rfl⟩:=Zd h;rw[ZJU,FN (FO n) _ _ _ h1]
   .cases h
  .split at h
   .obtain⟨l,h1,rfl⟩:=Zd h;rw[ZJV,FN (FO n) _ _ _ h1]
   .cases h
  .cases h
def vX(P:yg)(t:yc)(x:Pl):yO TP:=rQ P 30 t x
def FP(P:yg)(t:yc)(v:yh):yO TD:=
 match oK P t v with
 |.p x=>(vX P t x).map .p
 |.fn f []=>ab (.fn f [])
 |_=>ae
def bo(P:yg)(ts:yL TD)(t:yc):ym->yO TD
 |.tmp i=>ab (ts.getD i .aA)
 |.const v=>FP P t v
 |.global _=>ae
 |.func f=>if f < big then ab (.fn f []) else ae
theorem FQ{P:yg}{t:yc}{x:Pl}{y:TP}(h:vX P t x=ab y):y.pe=x:=FO _ _ _ _ h
theorem vY{L:Lk}(ts:yL TD)(i:Nat):(TD.aE L ts).getD i .aA=(ts.getD i .aA).er L:=by
 rw[ZH];simp only[List.getD_eq_getElem?_getD,yak];cases ts[i]? <;> rfl
theorem Zz{L:Lk}{P:yg}{ts:yL TD}{t:yc}{x:ym}{d:TD}(h:bo P ts t x=ab d):ZB P (TD.aE L ts) t x=d.er L:=by
 cases x with
 |tmp i=>cases h;exact vY ts i
 |const v=>
  have h':FP P t v=ab d:=h;show oK P t v=d.er L;unfold FP at h';split at h'
  .rename_i x hx;obtain⟨y,h1,rfl⟩:=Zd h';rw[hx,TD.er,FQ h1]
  .rename_i f hf;cases h';rw[hf];rfl
  .cases h'
 |global _=>cases h
 |func f=>
  have h':(if f < big then ab (TD.fn f []) else ae)=ab d:=h
  by_cases hf:f < big
  .rw[yW hf]at h';cases h';show(if f < big then Dv.fn f [] else .aA)=_
   rw[yW hf];rfl
  .rw[yX hf]at h';cases h'
structure HI where
 own:List Tmp:=[]
 still:List Tmp:=[]
 row:List Tmp:=[]
 bM:List Tmp:=[]
 deep:List yc:=[]
 eqs:Bool:=ag
 cK:List Tmp:=[]
 bP:List (Tmp×List (List Nat×Ty×yc)):=[]
 eJ:List (Tmp×List (List Nat×Ty×yc)):=[]
 lits:List Tmp:=[]
 rew:List (Tmp×Tmp):=[]
 mkn:List Tmp:=[]
 deriving Inhabited
def di(L:Lk)(P:yg)(o:Oper)(ts:yL TD)(d:TD)(hs:yL ar):Prop:=
 ∃C,ba C/\∀yJ,be P o (TD.aE L ts) (hs++yJ)=ab (C,d.er L,yJ)
def idx{α:Type}(l:yL α)(i:Int):yO α:=if 0<=i then l[i.toNat]? else ae
def aS(i:Int)(n:Nat):Bool:=ah (0<=i)&&ah (i < (n:Int))
def Q0(len:Nat):yO Int->yO Int->Bool
 |none,ae=>af
 |none,ab h=>ah (0<=h)&&ah (h<=(len:Int))
 |some l,ae=>ah (0<=l)&&ah (l<=(len:Int))
 |some l,ab h=>ah (0<=l)&&(ah (l<=h)&&ah (h<=(len:Int)))
def lY(n b:Nat):Bool:=ah (n*b<=Zv)&&ah (n<=maxLen)
theorem rR{α:Type}{l:yL α}{i:Int}{y:α}(h:idx l i=ab y):0<=i/\l[i.toNat]? =ab y:=by
 unfold idx at h
 all_goals grind
theorem iT{i:Int}{n:Nat}(h:aS i n=af):0<=i/\i < (n:Int):=by simpa[aS] using h
theorem nQ{len:Nat}{l h:yO Int}(k:Q0 len l h=af):ba (XD len l h):=by
 cases l <;> cases h <;> simp only[Q0,yi,yP]at k <;> simp only[XD,ba,and_true]
 all_goals grind
theorem lZ{n b:Nat}(h:lY n b=af):n*b<=Zv/\n<=maxLen:=by simpa[lY] using h
theorem Za{α:Type}{b:Bool}{k:yO α}{r:α}(h:(if b=af then k else ae)=ab r):b=af/\k=ab r:=by
 all_goals grind
theorem vZ{α β:Type}(f:α->β)(l:yL α)(a b:yO Int):(QX l a b).map f=QX (l.map f) a b:=by
 cases a <;> cases b <;> simp[QX]
def TP.fZ:TP->Nat->yO TP
 |.v (.st fs) x,i=>(Ty.nK fs x i).map λq=>.v q.1 q.2
 |.agg l,i=>l[i]?
 |_,_=>ae
theorem ZM9{x y:TP}{i:Nat}(h:x.fZ i=ab y):∃xs,x.pe=.agg xs/\xs[i]? =ab y.pe:=by
 unfold TP.fZ at h;split at h
 .obtain⟨q,h1,rfl⟩:=Zd h;exact⟨_,rfl,ZF5 _ _ _ q h1⟩
 .exact⟨_,rfl,by rw[jr,yak,h];rfl⟩
 .cases h
structure Row where
 nn:Option Bool
 t:Ty
 l:List t.aQ
def TP.row:TP->yO Row
 |.v (.sl t) l=>ab ⟨ae,t,l⟩
 |.sl nn t l=>ab ⟨nn,t,l⟩
 |_=>ae
theorem ZSd{x:TP}{r:Row}(h:x.row=ab r):x.pe=.sl r.nn r.t.size (r.l.map r.t.enc):=by
 unfold TP.row at h;split at h
 .cases h;rfl
 .cases h;rfl
 .cases h
structure nS where
 n:Nat
 t:Ty
 l:List t.aQ
def TP.dy:TP->yO nS
 |.v (.arr n t) l=>ab ⟨n,t,l⟩
 |_=>ae
theorem gY{x:TP}{r:nS}(h:x.dy=ab r):x.pe=.arr r.n r.t.size (r.l.map r.t.enc):=by
 unfold TP.dy at h;split at h
 .cases h;rfl
 .cases h
def Ty.isAgg:Ty->Bool
 |.arr _ _=>af
 |.st _=>af
 |_=>ag
theorem wa(t:Ty)(x:t.aQ):(t.enc x).isAgg=t.isAgg:=by cases t <;> rfl
def TD.row(L:Lk):TD->yO Row
 |.p x=>x.row
 |.own id nn t c=>ab ⟨nn,t,Yg L id t c⟩
 |_=>ae
theorem mb{L:Lk}{x:TD}{r:Row}(h:x.row L=ab r):x.er L=.p (.sl r.nn r.t.size (r.l.map r.t.enc))\/∃id,x.er L=.own id r.nn r.t.size (r.l.map r.t.enc):=by
 unfold TD.row at h;split at h
 .exact .inl (by rw[TD.er,ZSd h])
 .cases h;exact .inr ⟨_,rfl⟩
 .cases h
def TD.plain(L:Lk):TD->yO TP
 |.p x=>ab x
 |.own id nn t c=>ab (.sl nn t (Yg L id t c))
 |_=>ae
theorem ZCC{L:Lk}{x:TD}{y:TP}(h:x.plain L=ab y):(x.er L).plain=ab y.pe:=by
 unfold TD.plain at h;split at h
 .cases h;rfl
 .cases h;rfl
 .cases h
mutual
def TD.flat(L:Lk):TD->yO TP
 |.p x=>ab x
 |.own id nn t c=>ab (.sl nn t (Yg L id t c))
 |.agg ds=>(TD.aP L ds).map .agg
 |_=>ae
def TD.aP(L:Lk):yL TD->yO (yL TP)
 |[]=>ab []
 |d::r=>match d.flat L,TD.aP L r with
  |some x,ab xs=>ab (x::xs)
  |_,_=>ae
end
mutual
theorem rS{L:Lk}:∀(d:TD),(d.er L).flat=(d.flat L).map TP.pe
 |.p x=>by rw[TD.er,Dv.flat,TD.flat];rfl
 |.own id nn t c=>by rw[TD.er,Dv.flat,TD.flat];rfl
 |.agg ds=>by
  rw[TD.er,Dv.flat,TD.flat,eV ds]
  cases TD.aP L ds <;> rfl
 |.elem _=>rfl
 |.am _ _=>rfl
 |.view _ _ _ _ _=>rfl
 |.arr _ _ _=>rfl
 |.fn _ _=>rfl
 |.iface _ _=>rfl
 |.bi _=>rfl
 |.mp _=>rfl
 |.rv _ _ _ _ _=>rfl
 |.aZ _ _ _=>rfl
 |.rw _=>rfl
 |.rp _ _=>rfl
 |.aA=>rfl
theorem eV{L:Lk}:∀(ds:yL TD),Dv.aP (TD.aE L ds)=(TD.aP L ds).map TP.cO
 |[]=>rfl
 |d::r=>by
  rw[TD.aE,Dv.aP,TD.aP,rS d,eV r];cases d.flat L <;> cases TD.aP L r <;> rfl
end
theorem ZF8{L:Lk}{x:TD}{y:TP}(h:x.flat L=ab y):(x.er L).flat=ab y.pe:=by rw[rS,h];rfl
mutual
def TD.owns(ids:yL Nat):TD->Bool
 |.own id _ _ _=>ids.contains id
 |.agg ds=>TD.de ids ds
 |_=>ag
def TD.de(ids:yL Nat):yL TD->Bool
 |[]=>ag
 |d::r=>d.owns ids || TD.de ids r
end
mutual
theorem ZPY{L:Lk}{ids:yL Nat}:∀(d:TD),(d.er L).owns ids=d.owns ids
 |.p x=>rfl
 |.own id nn t c=>rfl
 |.agg ds=>by rw[TD.er,Dv.owns,TD.owns,eW ds]
 |.elem _=>rfl
 |.am _ _=>rfl
 |.view _ _ _ _ _=>rfl
 |.arr _ _ _=>rfl
 |.fn _ _=>rfl
 |.iface _ _=>rfl
 |.bi _=>rfl
 |.mp _=>rfl
 |.rv _ _ _ _ _=>rfl
 |.aZ _ _ _=>rfl
 |.rw _=>rfl
 |.rp _ _=>rfl
 |.aA=>rfl
theorem eW{L:Lk}{ids:yL Nat}:∀(ds:yL TD),Dv.de ids (TD.aE L ds)=TD.de ids ds
 |[]=>rfl
 |d::r=>by rw[TD.aE,Dv.de,TD.de,ZPY d,eW r]
end
def TD.eP(L:Lk)(ds:yL TD):TD:=
 match TD.aP L ds with
 |some xs=>.p (.agg xs)
 |none=>.agg ds
theorem ZJW{L:Lk}(ds:yL TD):(TD.eP L ds).er L=Dv.eP (TD.aE L ds):=by
 unfold TD.eP Dv.eP;rw[eV];cases TD.aP L ds <;> rfl
section
variable{L:Lk}{P:yg}{o:Oper}{ts:yL TD}{O:Type}
def okB(P:yg)(e:yc)(s:Nat):Bool:=ah (P.cellsOf e=s)&&(P.info? e).isSome
def FR(L:Lk)(P:yg)(t:yc)(i:Nat)(K:TD->yL ar->yO O):TD->yO O
 |.p x=>(x.fZ i).bind λz=>if(iM P t (.p x.pe) i).isSome then K (.p z) [] else ae
 |.agg ds=>(ds[i]?).bind λz=>if(iM P t (.agg (TD.aE L ds)) i).isSome then K z [] else ae
 |_=>ae
theorem Zw3{t:yc}{i:Nat}{K:TD->yL ar->yO O}{x:TD}{out:O}(h:FR L P t i K x=ab out):∃d,K d []=ab out/\iM P t (x.er L) i=ab (d.er L):=by
 unfold FR at h;split at h
 .rename_i x;obtain⟨z,h1,h2⟩:=yf.1 h;obtain⟨h3,h4⟩:=Za h2;refine⟨_,h4, ?_⟩;obtain⟨xs,e1,e2⟩:=ZM9 h1;rw[TD.er];obtain⟨d,hd⟩:=Option.isSome_iff_exists.1 h3;rw[hd];unfold iM at hd;rw[e1]at hd;split at hd
  .rename_i hx;cases hx;rw[e2]at hd;dsimp only at hd;split at hd
   .cases hd;rfl
   .cases hd
  all_goals grind
 .rename_i ds;obtain⟨z,h1,h2⟩:=yf.1 h;obtain⟨h3,h4⟩:=Za h2;refine⟨_,h4, ?_⟩;have e2:=lW (L:=L) h1;rw[TD.er];obtain⟨d,hd⟩:=Option.isSome_iff_exists.1 h3;rw[hd];unfold iM at hd
  all_goals grind
 .cases h
theorem nT(l:yL bX)(q:bX):Qj (l++[q])=Qj l+q.o:=by simp[Qj]
def FS(P:yg)(t:yc)(i:Nat)(K:TD->yL ar->yO O):TD->yO O
 |.am id yM=>match P.underlying t with
  |some (.struct fs)=>match fs[i]? with
   |some f=>if P.cellsOf f.type !=0&&(P.info? f.type).isSome then K (.am id (yM++[.fZ i f.offset])) [] else ae
   |none=>ae
  |_=>ae
 |.aZ id v yM=>match P.underlying t with
  |some (.struct fs)=>match fs[i]? with
   |some f=>if P.cellsOf f.type !=0&&(P.info? f.type).isSome then K (.aZ id v (yM++[.fZ i f.offset])) [] else ae
   |none=>ae
  |_=>ae
 |.rp id yM=>match P.underlying t with
  |some (.struct fs)=>match fs[i]? with
   |some f=>if P.cellsOf f.type !=0&&(P.info? f.type).isSome then K (.rp id (yM++[.fZ i f.offset])) [] else ae
   |none=>ae
  |_=>ae
 |.elem x=>(x.fZ i).bind λz=>if(iM P t (.p x.pe) i).isSome then K (.elem z) [] else ae
 |_=>ae
theorem ZxT{t:yc}{i:Nat}{x:ym}{K:TD->yL ar->yO O}{xd:TD}{out:O}(ho:o.op=.fieldAddr t x i)(hx:bo P ts 0 x=ab xd)(h:FS P t i K xd=ab out):∃d hs,K d hs=ab out/\di L P o ts d hs:=by
 have hv:=Zz (L:=L) hx;unfold FS at h;split at h
 .rename_i id yM;split at h
  .rename_i fs hu;split at h
   .rename_i f hf;obtain⟨h3,h4⟩:=Za h;refine⟨_,_,h4,[],zZ,λyJ=> ?_⟩;simp only[yy];unfold be;rw[ho];dsimp only;rw[hu,hv];dsimp only[TD.er];rw[hf];dsimp only;rw[yW h3,yao,nT];rfl
   .cases h
  .cases h
 .rename_i id v yM;split at h
  .rename_i fs hu;split at h
   .rename_i f hf;obtain⟨h3,h4⟩:=Za h;refine⟨_,_,h4,[],zZ,λyJ=> ?_⟩;simp only[yy];unfold be;rw[ho];dsimp only;rw[hu,hv];dsimp only[TD.er];rw[hf];dsimp only;rw[yW h3,yao,nT];rfl
   .cases h
  .cases h
 .rename_i id yM;split at h
  .rename_i fs hu;split at h
   .rename_i f hf;obtain⟨h3,h4⟩:=Za h;refine⟨_,_,h4,[],zZ,λyJ=> ?_⟩;simp only[yy];unfold be;rw[ho];dsimp only;rw[hu,hv];dsimp only[TD.er];rw[hf];dsimp only;rw[yW h3,yao,nT];rfl
   .cases h
  .cases h
 .rename_i x;obtain⟨z,h1,h2⟩:=yf.1 h;obtain⟨h3,h4⟩:=Za h2;refine⟨_,_,h4,[],zZ,λyJ=> ?_⟩;obtain⟨d,hd,he⟩:=Zw3 (L:=L) (P:=P) (t:=t) (i:=i) (K:=λd _=>ab d) (x:=.p x) (out:=.p z) (by show(x.fZ i).bind _=_;rw[h1];exact yW h3);cases hd;simp only[yy];unfold be;rw[ho];dsimp only;rw[hv]
  have hu:∃fs,P.underlying t=ab (.struct fs):=by
   unfold iM at h3
   all_goals grind
  obtain⟨fs,hu⟩:=hu;rw[hu];dsimp only[TD.er]at he ⊢;rw[he]
 .cases h
theorem rT{t:Ty}{l:yL t.aQ}{i:Nat}{y:t.aQ}(h:l[i]? =ab y):(l.map t.enc)[i]? =ab (t.enc y):=by rw[yak,h];rfl
def FT(L:Lk)(P:yg)(t:yc)(i:Int)(K:TD->yL ar->yO O)(xd:TD):yO O:=
 match P.underlying t,xd with
 |some (.slice e),.view id yM s lo n=>if okB P e s=af then if aS i n=af then K (.am id (yM++[.ix (lo+i.toNat) s])) [] else ae else ae
 |some (.slice e),.rv id v s lo n=>if okB P e s=af then if aS i n=af then K (.aZ id v [.ix (lo+i.toNat) s]) [] else ae else ae
 |some (.slice e),xd=>(xd.row L).bind λr=>if okB P e r.t.size=af then(idx r.l i).bind λy=>K (.elem (.v r.t y)) [.el (r.t.enc y)] else ae
 |some (.array n e),.am id yM=>if(P.info? e).isSome then if aS i n=af then K (.am id (yM++[.ix i.toNat (P.cellsOf e)])) [] else ae else ae
 |some (.array n e),.aZ id v yM=>if(P.info? e).isSome then if aS i n=af then K (.aZ id v (yM++[.ix i.toNat (P.cellsOf e)])) [] else ae else ae
 |some (.array n e),.rp id yM=>if(P.info? e).isSome then if aS i n=af then K (.rp id (yM++[.ix i.toNat (P.cellsOf e)])) [] else ae else ae
 |some (.array n e),.elem x=>x.dy.bind λr=>if ah (n=r.n)&&okB P e r.t.size then(idx r.l i).bind λy=>K (.elem (.v r.t y)) [.el (r.t.enc y)] else ae
 |_,_=>ae
theorem ZPZ{e:yc}{s:Nat}(h:okB P e s=af):P.cellsOf e=s/\(P.info? e).isSome=af:=by simpa[okB] using h
theorem ZxU{t:yc}{x ix:ym}{K:TD->yL ar->yO O}{xd id:TD}{q:IntKind×Int}{ip:TP}{out:O}(ho:o.op=.indexAddr t x ix)(hx:bo P ts t x=ab xd)(hi:bo P ts 0 ix=ab (.p ip))(hq:kX ip=ab q)
 (h:FT L P t q.2 K xd=ab out):∃d hs,K d hs=ab out/\di L P o ts d hs:=by
 have hv:=Zz (L:=L) hx;have hw:=Zz (L:=L) hi;rw[TD.er,(vU hq).1]at hw;unfold FT at h;split at h
 .rename_i e id yM s lo n hu;obtain⟨h3,h⟩:=Za h;obtain⟨h4,h⟩:=Za h;refine⟨_,_,h,[0<=q.2,q.2 < (n:Int)],⟨(iT h4).1,(iT h4).2,ao⟩,λyJ=> ?_⟩;simp only[yy];unfold be;rw[ho];dsimp only;rw[hu,hv,hw];dsimp only[TD.er];rw[yW (by simpa[okB] using h3),yao,nT];rfl
 .rename_i e id v s lo n hu;obtain⟨h3,h⟩:=Za h;obtain⟨h4,h⟩:=Za h;refine⟨_,_,h,[0<=q.2,q.2 < (n:Int)],⟨(iT h4).1,(iT h4).2,ao⟩,λyJ=> ?_⟩;simp only[yy];unfold be;rw[ho];dsimp only;rw[hu,hv,hw];dsimp only[TD.er];rw[yW (by simpa[okB] using h3)];simp[Qj,bX.o,bX.i]
 .rename_i e hu _ _;obtain⟨r,h1,h⟩:=yf.1 h;obtain⟨h3,h⟩:=Za h;obtain⟨y,h5,h⟩:=yf.1 h;obtain⟨h6,h7⟩:=rR h5;refine⟨_,_,h,[0<=q.2,(r.l.map r.t.enc)[q.2.toNat]? =ab (r.t.enc y)],⟨h6,rT h7,ao⟩,λyJ=> ?_⟩;unfold be;rw[ho];dsimp only;rcases mb h1 with he|⟨id,he⟩
  .rw[hu,hv,hw,he];dsimp only;rw[yae,yy];dsimp only;rw[yW (by simpa[okB] using h3)];rfl
  .rw[hu,hv,hw,he];dsimp only;rw[yae,yy];dsimp only;rw[yW (by simpa[okB] using h3)];rfl
 .rename_i n e id yM hu;obtain⟨h3,h⟩:=Za h;obtain⟨h4,h⟩:=Za h;refine⟨_,_,h,[0<=q.2,q.2 < (n:Int)],⟨(iT h4).1,(iT h4).2,ao⟩,λyJ=> ?_⟩;simp only[yy];unfold be;rw[ho];dsimp only;rw[hu,hv,hw];dsimp only[TD.er];rw[yW h3,yao,nT];rfl
 .rename_i n e id v yM hu;obtain⟨h3,h⟩:=Za h;obtain⟨h4,h⟩:=Za h;refine⟨_,_,h,[0<=q.2,q.2 < (n:Int)],⟨(iT h4).1,(iT h4).2,ao⟩,λyJ=> ?_⟩;simp only[yy];unfold be;rw[ho];dsimp only;rw[hu,hv,hw];dsimp only[TD.er];rw[yW h3,yao,nT];rfl
 .rename_i n e id yM hu;obtain⟨h3,h⟩:=Za h;obtain⟨h4,h⟩:=Za h;refine⟨_,_,h,[0<=q.2,q.2 < (n:Int)],⟨(iT h4).1,(iT h4).2,ao⟩,λyJ=> ?_⟩;simp only[yy];unfold be;rw[ho];dsimp only;rw[hu,hv,hw];dsimp only[TD.er];rw[yW h3,yao,nT];rfl
 .rename_i n e x hu;obtain⟨r,h1,h⟩:=yf.1 h;obtain⟨h3,h⟩:=Za h;obtain⟨y,h5,h⟩:=yf.1 h;obtain⟨h6,h7⟩:=rR h5;refine⟨_,_,h,[0<=q.2,(r.l.map r.t.enc)[q.2.toNat]? =ab (r.t.enc y)],⟨h6,rT h7,ao⟩,λyJ=> ?_⟩;unfold be;rw[ho];dsimp only;rw[hu,hv,hw,TD.er,gY h1];rw[yae,yy];dsimp only;rw[yW (by simpa[okB,and_assoc] using h3)];rfl
 .cases h
def fg(s:ByteArray):yL yB:=s.data.toList
def TP.kY:TP->yO ByteArray
 |.v .str s=>ab s
 |_=>ae
theorem ZJX{x:TP}{s:ByteArray}(h:x.kY=ab s):x.pe=.str s:=by
 unfold TP.kY at h;split at h
 .cases h;rfl
 .cases h
def TP.gZ:TP->yO Bool
 |.v .bool s=>ab s
 |_=>ae
theorem ZNa{x:TP}{s:Bool}(h:x.gZ=ab s):x.pe=.bool s:=by
 unfold TP.gZ at h;split at h
 .cases h;rfl
 .cases h
def FU(P:yg)(t:yc)(i:Int)(K:TD->yL ar->yO O)(x:TP):yO O:=
 match P.underlying t with
 |some (.array n e)=>match x with
  |.arr n' s xs=>if ah (n=n')&&okB P e s&&((P.underlying e).isSome&&s !=0) then(idx xs i).bind λy=>if(WS P e==y.pe.isAgg)=af then K (.p y) [.el y.pe] else ae else ae
  |x=>x.dy.bind λr=>if ah (n=r.n)&&okB P e r.t.size&&(WS P e==r.t.isAgg&&((P.underlying e).isSome&&r.t.size !=0)) then(idx r.l i).bind λy=>K (.p (.v r.t y)) [.el (r.t.enc y)] else ae
 |some .string=>x.kY.bind λs=>(idx (fg s) i).bind λb=>K (.p (.v .u8 b)) [.el (.int .u8 (b.toNat:Int))]
 |_=>ae
theorem ZF9{t:yc}{x ix:ym}{K:TD->yL ar->yO O}{xp:TP}{q:IntKind×Int}{ip:TP}{out:O}(ho:o.op=.index t x ix)(hx:bo P ts t x=ab (.p xp))(hi:bo P ts 0 ix=ab (.p ip))(hq:kX ip=ab q)
 (h:FU P t q.2 K xp=ab out):∃d hs,K d hs=ab out/\di L P o ts d hs:=by
 have hv:=Zz (L:=L) hx;have hw:=Zz (L:=L) hi;rw[TD.er,(vU hq).1]at hw;unfold FU at h;split at h
 .rename_i n e hu;split at h
  .rename_i n' s xs;obtain⟨h3,h⟩:=Za h;obtain⟨y,h5,h⟩:=yf.1 h;obtain⟨h8,h⟩:=Za h;obtain⟨h6,h7⟩:=rR h5;refine⟨_,_,h,[0<=q.2,(TP.cO xs)[q.2.toNat]? =ab y.pe],⟨h6,by rw[jr,yak,h7];rfl,ao⟩,λyJ=> ?_⟩;unfold be;rw[ho];dsimp only;rw[hu,hv,hw,TD.er,TP.pe];rw[yae,yy];dsimp only;simp only[okB,yi,yP]at h3;rw[yW (by simp only[yi,yP];exact⟨⟨⟨⟨⟨h3.1.1,h3.1.2.1⟩,h8⟩,h3.2.1⟩,h3.1.2.2⟩,h3.2.2⟩)];rfl
  obtain⟨r,h1,h⟩:=yf.1 h;obtain⟨h3,h⟩:=Za h;obtain⟨y,h5,h⟩:=yf.1 h;obtain⟨h6,h7⟩:=rR h5;refine⟨_,_,h,[0<=q.2,(r.l.map r.t.enc)[q.2.toNat]? =ab (r.t.enc y)],⟨h6,rT h7,ao⟩,λyJ=> ?_⟩;unfold be;rw[ho];dsimp only;rw[hu,hv,hw,TD.er,gY h1];rw[yae,yy];dsimp only;simp only[okB,yi,yP]at h3;rw[yW (by rw[wa];simp only[yi,yP];exact⟨⟨⟨⟨⟨h3.1.1,h3.1.2.1⟩,h3.2.1⟩,h3.2.2.1⟩,h3.1.2.2⟩,h3.2.2.2⟩)];rfl
 .rename_i hu;obtain⟨s,h1,h⟩:=yf.1 h;obtain⟨y,h5,h⟩:=yf.1 h;obtain⟨h6,h7⟩:=rR h5;refine⟨_,_,h,[0<=q.2,(s.data.toList[q.2.toNat]?).map (λx:yB=>(x.toNat:Int))=ab (y.toNat:Int)],⟨h6,by rw[show s.data.toList=fg s from rfl,h7];rfl,ao⟩,λyJ=> ?_⟩
  unfold be;rw[ho];dsimp only;rw[hu,hv,hw,TD.er,ZJX h1];rfl
 .cases h
def fh(P:yg)(ts:yL TD):yO ym->yO (yO Int)
 |none=>ab ae
 |some x=>match bo P ts 0 x with
  |some (.p y)=>(kX y).map λq=>ab q.2
  |_=>ae
theorem js{x:yO ym}{l:yO Int}(h:fh P ts x=ab l):fX P (TD.aE L ts) x=ab l:=by
 cases x with
 |none=>cases h;rfl
 |some x=>
  unfold fh at h;dsimp only at h;split at h
  .rename_i y hy;obtain⟨q,h1,rfl⟩:=Zd h;unfold fX;dsimp only;rw[Zz hy,TD.er,(vU h1).1]
  .cases h
def FV(L:Lk)(P:yg)(t:yc)(lo hi:yO Int)(K:TD->yL ar->yO O)(xd:TD):yO O:=
 match P.underlying t,xd with
 |some (.slice e),.view id yM s l0 n=>if okB P e s=af then if Q0 n lo hi=af then K (.view id yM s (l0+(lo.getD 0).toNat) ((hi.getD n).toNat - (lo.getD 0).toNat)) [] else ae else ae
 |some (.slice e),.rv id v s l0 n=>if okB P e s=af then if Q0 n lo hi=af then K (.rv id v s (l0+(lo.getD 0).toNat) ((hi.getD n).toNat - (lo.getD 0).toNat)) [.bare] else ae else ae
 |some (.slice e),xd=>(xd.row L).bind λr=>if okB P e r.t.size=af then if Q0 r.l.length lo hi=af then K (.p (.sl r.nn r.t (QX r.l lo hi))) [] else ae else ae
 |some (.array n e),.elem x=>x.dy.bind λr=>if ah (n=r.n)&&okB P e r.t.size&&ah (n<=maxLen) then if Q0 n lo hi=af then K (.p (.sl (ab af) r.t (QX r.l lo hi))) [] else ae else ae
 |some (.array n e),.am id yM=>if(P.info? e).isSome&&ah (n<=maxLen) then if Q0 n lo hi=af then K (.view id yM (P.cellsOf e) (lo.getD 0).toNat ((hi.getD n).toNat - (lo.getD 0).toNat)) [.raw] else ae else ae
 |_,_=>ae
theorem ZGa{t:yc}{x:ym}{lo hi:yO ym}{l h':yO Int}{K:TD->yL ar->yO O}{xd:TD}{out:O}(ho:o.op=.slice t x lo hi ae)(hx:bo P ts t x=ab xd)(hl:fh P ts lo=ab l)(hh:fh P ts hi=ab h')
 (h:FV L P t l h' K xd=ab out):∃d hs,K d hs=ab out/\di L P o ts d hs:=by
 have hv:=Zz (L:=L) hx;have hl:=js (L:=L) hl;have hh:=js (L:=L) hh;unfold FV at h;split at h
 .rename_i e id yM s l0 n hu;obtain⟨h3,h⟩:=Za h;obtain⟨h4,h⟩:=Za h;refine⟨_,_,h,XD n l h',nQ h4,λyJ=> ?_⟩;simp only[yy];unfold be;rw[ho];dsimp only;rw[hu,hv,hl,hh];dsimp only[TD.er];rw[yW (by simpa[okB] using h3)]
 .rename_i e id v s l0 n hu;obtain⟨h3,h⟩:=Za h;obtain⟨h4,h⟩:=Za h;refine⟨_,_,h,XD n l h',nQ h4,λyJ=> ?_⟩;unfold be;rw[ho];dsimp only;rw[hu,hv,hl,hh];dsimp only[TD.er];rw[yae,yy];dsimp only;rw[yW (by simpa[okB] using h3)]
 .rename_i e hu _ _;obtain⟨r,h1,h⟩:=yf.1 h;obtain⟨h3,h⟩:=Za h;obtain⟨h4,h⟩:=Za h;refine⟨_,_,h,XD r.l.length l h',nQ h4,λyJ=> ?_⟩;simp only[yy];unfold be;rw[ho];dsimp only;rw[TD.er,TP.pe,vZ];rcases mb h1 with he|⟨id,he⟩
  .rw[hu,hv,hl,hh,he];dsimp only;rw[yW (by simpa[okB] using h3),yab]
  .rw[hu,hv,hl,hh,he];dsimp only;rw[yW (by simpa[okB] using h3),yab]
 .rename_i n e x hu;obtain⟨r,h1,h⟩:=yf.1 h;obtain⟨h3,h⟩:=Za h;obtain⟨h4,h⟩:=Za h;refine⟨_,_,h,XD n l h',nQ h4,λyJ=> ?_⟩;simp only[yy];unfold be;rw[ho];dsimp only;rw[hu,hv,hl,hh,show(TD.elem x).er L=.elem x.pe from rfl,gY h1]
  dsimp only;rw[yW (by simpa[okB,and_assoc] using h3),TD.er,TP.pe,vZ]
 .rename_i n e id yM hu;obtain⟨h3,h⟩:=Za h;obtain⟨h4,h⟩:=Za h;refine⟨_,_,h,XD n l h',nQ h4,λyJ=> ?_⟩;unfold be;rw[ho];dsimp only;rw[hu,hv,hl,hh];dsimp only[TD.er];grind
 .cases h
end
def wb(x:yB)(n:Nat):yB:=yav (x.toNat*2 ^ n)
def FW(x:yB)(n:Nat):yB:=yav (x.toNat / 2 ^ n)
theorem ZRA{n:Nat}(h:n < 256):IntKind.u8.wrap (n:Int)=(n:Int):=by
 simp only[IntKind.wrap,IntKind.signed,IntKind.bits];simp;omega
theorem wc(z:Int):IntKind.u8.wrap z=z % 256:=by
 simp only[IntKind.wrap,IntKind.signed,IntKind.bits];simp
theorem ZRB(op:BinOp)(x y:yB):bits op .u8 (x.toNat:Int) (y.toNat:Int)=((match op with|.and=>x&&&y|.or=>x|||y|.xor=>x^^^y|_=>x&&& ~~~y).toNat:Int):=by
 have e:∀z:yB,ycb (IntKind.u8.bits) (z.toNat:Int)=z.toBitVec:=λz=>by
  show ycb 8 (z.toNat:Int)=z.toBitVec;apply BitVec.eq_of_toNat_eq;rw[BitVec.ofInt_natCast,BitVec.toNat_ofNat];exact yaf (UInt8.toNat_lt z)
 unfold bits;rw[e,e];cases op <;> exact ZRA (UInt8.toNat_lt _)
def FX:BinOp->yB->yB->yO yB
 |.add,x,y=>ab (x+y)
 |.sub,x,y=>ab (x - y)
 |.mul,x,y=>ab (x*y)
 |.and,x,y=>ab (x&&&y)
 |.or,x,y=>ab (x|||y)
 |.xor,x,y=>ab (x^^^y)
 |.andNot,x,y=>ab (x&&& ~~~y)
 |_,_,_=>ae
theorem ZSf{op:BinOp}{x y z:yB}(h:FX op x y=ab z)(yJ:yL ar):Xz op .u8 (x.toNat:Int) (y.toNat:Int) (.raw::yJ)=ab ([],.p (.int .u8 (z.toNat:Int)),yJ):=by
 cases op <;> simp only[FX,yp,reduceCtorEq]at h <;> subst h
 .simp only[Xz,fT,wc,UInt8.toNat_add];simp
 .have e:((x.toNat:Int) - (y.toNat:Int)) % 256=((x - y).toNat:Int):=by
   rw[UInt8.toNat_sub];have:=x.toNat_lt;have:=y.toNat_lt;omega
  simp only[Xz,fT,wc,e]
 .simp only[Xz,fT,wc,UInt8.toNat_mul];simp
 all_goals simp only[Xz,ZRB]
def FY:BinOp->yB->yB->yO yB
 |.quo,x,y=>ab (x / y)
 |.rem,x,y=>ab (x % y)
 |_,_,_=>ae
theorem ZSg{op:BinOp}{x y z:yB}(h:FY op x y=ab z)(yJ:yL ar):Xz op .u8 (x.toNat:Int) (y.toNat:Int) (.raw::yJ)=ab ([(y.toNat:Int)≠0],.p (.int .u8 (z.toNat:Int)),yJ):=by
 cases op <;> simp only[FY,yp,reduceCtorEq]at h <;> subst h
 .simp only[Xz,UInt8.toNat_div];rw[show(x.toNat:Int).tdiv (y.toNat:Int)=((x.toNat / y.toNat:Nat):Int) from rfl,ZRA (ycx (Nat.div_le_self ..) (UInt8.toNat_lt _))]
 .simp only[Xz,UInt8.toNat_mod];rfl
def FZ:BinOp->yB->yB->yO Bool
 |.eql,x,y=>ab (x==y)
 |.neq,x,y=>ab (x !=y)
 |.lss,x,y=>ab (ah (x < y))
 |.leq,x,y=>ab (ah (x<=y))
 |.gtr,x,y=>ab (ah (x > y))
 |.geq,x,y=>ab (ah (x >= y))
 |_,_,_=>ae
theorem ZP1{op:BinOp}{x y:yB}{b:Bool}(h:FZ op x y=ab b)(yJ:yL ar):Xz op .u8 (x.toNat:Int) (y.toNat:Int) yJ=ab ([],.p (.bool b),yJ):=by
 have eq:((x.toNat:Int)==(y.toNat:Int))=(x==y):=by
  rw[yco];simp only[yT, <-UInt8.toNat_inj];omega
 have lt:∀a b:yB,ah ((a.toNat:Int) < (b.toNat:Int))=ah (a < b):=λa b=>by
  rw[yco];simp[UInt8.lt_iff_toNat_lt]
 have le:∀a b:yB,ah ((a.toNat:Int)<=(b.toNat:Int))=ah (a<=b):=λa b=>by
  rw[yco];simp[UInt8.le_iff_toNat_le]
 cases op <;> simp only[FZ,yp,reduceCtorEq]at h <;> subst h <;> simp only[Xz,GT.gt,GE.ge,lt,le,eq,bne]
theorem ZP2(x:yB)(y:Int)(yJ:yL ar):VQ .shl .u8 (x.toNat:Int) y (.raw::yJ)=ab ([0<=y],.p (.int .u8 ((wb x (min y.toNat 8)).toNat:Int)),yJ):=by
 simp only[VQ,wc,wb,UInt8.toNat_ofNat'];simp[show IntKind.u8.bits=8 from rfl]
theorem ZP3(x:yB)(y:Int)(yJ:yL ar):VQ .shr .u8 (x.toNat:Int) y (.raw::yJ)=ab ([0<=y],.p (.int .u8 ((FW x (min y.toNat 8)).toNat:Int)),yJ):=by
 simp only[VQ,FW,UInt8.toNat_ofNat'];congr 4;rw[show IntKind.u8.bits=8 from rfl]
 have h:x.toNat / 2 ^ min y.toNat 8 < 256:=ycx (Nat.div_le_self ..) (UInt8.toNat_lt _);rw[yaf h];rw[show((2:Int) ^ min y.toNat 8)=((2 ^ min y.toNat 8:Nat):Int) by simp,Int.fdiv_eq_ediv_of_nonneg _ (Int.natCast_nonneg _)];rfl
def fB(x:yV)(n:Nat):yV:=ybq (x.toNat*2 ^ n)
def gx(x:yV)(n:Nat):yV:=ybq (x.toNat / 2 ^ n)
theorem ZNb{n:Nat}(h:n < 4294967296):IntKind.u32.wrap (n:Int)=(n:Int):=by
 simp only[IntKind.wrap,IntKind.signed,IntKind.bits];simp;omega
theorem we(z:Int):IntKind.u32.wrap z=z % 4294967296:=by
 simp only[IntKind.wrap,IntKind.signed,IntKind.bits];simp
theorem ZNc(op:BinOp)(x y:yV):bits op .u32 (x.toNat:Int) (y.toNat:Int)=((match op with|.and=>x&&&y|.or=>x|||y|.xor=>x^^^y|_=>x&&& ~~~y).toNat:Int):=by
 have e:∀z:yV,ycb (IntKind.u32.bits) (z.toNat:Int)=z.toBitVec:=λz=>by
  show ycb 32 (z.toNat:Int)=z.toBitVec;apply BitVec.eq_of_toNat_eq;rw[BitVec.ofInt_natCast,BitVec.toNat_ofNat];exact yaf (UInt32.toNat_lt z)
 unfold bits;rw[e,e];cases op <;> exact ZNb (UInt32.toNat_lt _)
def GA:BinOp->yV->yV->yO yV
 |.add,x,y=>ab (x+y)
 |.sub,x,y=>ab (x - y)
 |.mul,x,y=>ab (x*y)
 |.and,x,y=>ab (x&&&y)
 |.or,x,y=>ab (x|||y)
 |.xor,x,y=>ab (x^^^y)
 |.andNot,x,y=>ab (x&&& ~~~y)
 |_,_,_=>ae
theorem ZP4{op:BinOp}{x y z:yV}(h:GA op x y=ab z)(yJ:yL ar):Xz op .u32 (x.toNat:Int) (y.toNat:Int) (.raw::yJ)=ab ([],.p (.int .u32 (z.toNat:Int)),yJ):=by
 cases op <;> simp only[GA,yp,reduceCtorEq]at h <;> subst h
 .simp only[Xz,fT,we,UInt32.toNat_add];simp
 .have e:((x.toNat:Int) - (y.toNat:Int)) % 4294967296=((x - y).toNat:Int):=by
   rw[UInt32.toNat_sub];have:=x.toNat_lt;have:=y.toNat_lt;omega
  simp only[Xz,fT,we,e]
 .simp only[Xz,fT,we,UInt32.toNat_mul];simp
 all_goals simp only[Xz,ZNc]
def GB:BinOp->yV->yV->yO yV
 |.quo,x,y=>ab (x / y)
 |.rem,x,y=>ab (x % y)
 |_,_,_=>ae
theorem ZP5{op:BinOp}{x y z:yV}(h:GB op x y=ab z)(yJ:yL ar):Xz op .u32 (x.toNat:Int) (y.toNat:Int) (.raw::yJ)=ab ([(y.toNat:Int)≠0],.p (.int .u32 (z.toNat:Int)),yJ):=by
 cases op <;> simp only[GB,yp,reduceCtorEq]at h <;> subst h
 .simp only[Xz,UInt32.toNat_div];rw[show(x.toNat:Int).tdiv (y.toNat:Int)=((x.toNat / y.toNat:Nat):Int) from rfl,ZNb (ycx (Nat.div_le_self ..) (UInt32.toNat_lt _))]
 .simp only[Xz,UInt32.toNat_mod];rfl
def GC:BinOp->yV->yV->yO Bool
 |.eql,x,y=>ab (x==y)
 |.neq,x,y=>ab (x !=y)
 |.lss,x,y=>ab (ah (x < y))
 |.leq,x,y=>ab (ah (x<=y))
 |.gtr,x,y=>ab (ah (x > y))
 |.geq,x,y=>ab (ah (x >= y))
 |_,_,_=>ae
theorem ZNe{op:BinOp}{x y:yV}{b:Bool}(h:GC op x y=ab b)(yJ:yL ar):Xz op .u32 (x.toNat:Int) (y.toNat:Int) yJ=ab ([],.p (.bool b),yJ):=by
 have eq:((x.toNat:Int)==(y.toNat:Int))=(x==y):=by
  rw[yco];simp only[yT, <-UInt32.toNat_inj];omega
 have lt:∀a b:yV,ah ((a.toNat:Int) < (b.toNat:Int))=ah (a < b):=λa b=>by
  rw[yco];simp[UInt32.lt_iff_toNat_lt]
 have le:∀a b:yV,ah ((a.toNat:Int)<=(b.toNat:Int))=ah (a<=b):=λa b=>by
  rw[yco];simp[UInt32.le_iff_toNat_le]
 cases op <;> simp only[GC,yp,reduceCtorEq]at h <;> subst h <;> simp only[Xz,GT.gt,GE.ge,lt,le,eq,bne]
theorem ZNf(x:yV)(y:Int)(yJ:yL ar):VQ .shl .u32 (x.toNat:Int) y (.raw::yJ)=ab ([0<=y],.p (.int .u32 ((fB x (min y.toNat 32)).toNat:Int)),yJ):=by
 simp only[VQ,we,fB,ycq];simp[show IntKind.u32.bits=32 from rfl]
theorem ZNg(x:yV)(y:Int)(yJ:yL ar):VQ .shr .u32 (x.toNat:Int) y (.raw::yJ)=ab ([0<=y],.p (.int .u32 ((gx x (min y.toNat 32)).toNat:Int)),yJ):=by
 simp only[VQ,gx,ycq];congr 4;rw[show IntKind.u32.bits=32 from rfl]
 have h:x.toNat / 2 ^ min y.toNat 32 < 4294967296:=ycx (Nat.div_le_self ..) (UInt32.toNat_lt _);rw[yaf h];rw[show((2:Int) ^ min y.toNat 32)=((2 ^ min y.toNat 32:Nat):Int) by simp,Int.fdiv_eq_ediv_of_nonneg _ (Int.natCast_nonneg _)];rfl
def QP(x:yU)(n:Nat):yU:=yv (x.toNat*2 ^ n)
def ZJ(x:yU)(n:Nat):yU:=yv (x.toNat / 2 ^ n)
theorem ZJY{n:Nat}(h:n < 18446744073709551616):IntKind.u64.wrap (n:Int)=(n:Int):=by
 simp only[IntKind.wrap,IntKind.signed,IntKind.bits];simp;omega
theorem wg(z:Int):IntKind.u64.wrap z=z % 18446744073709551616:=by
 simp only[IntKind.wrap,IntKind.signed,IntKind.bits];simp
theorem ZNh(op:BinOp)(x y:yU):bits op .u64 (x.toNat:Int) (y.toNat:Int)=((match op with|.and=>x&&&y|.or=>x|||y|.xor=>x^^^y|_=>x&&& ~~~y).toNat:Int):=by
 have e:∀z:yU,ycb (IntKind.u64.bits) (z.toNat:Int)=z.toBitVec:=λz=>by
  show ycb 64 (z.toNat:Int)=z.toBitVec;apply BitVec.eq_of_toNat_eq;rw[BitVec.ofInt_natCast,BitVec.toNat_ofNat];exact yaf (ybt z)
 unfold bits;rw[e,e];cases op <;> exact ZJY (ybt _)
def GD:BinOp->yU->yU->yO yU
 |.add,x,y=>ab (x+y)
 |.sub,x,y=>ab (x - y)
 |.mul,x,y=>ab (x*y)
 |.and,x,y=>ab (x&&&y)
 |.or,x,y=>ab (x|||y)
 |.xor,x,y=>ab (x^^^y)
 |.andNot,x,y=>ab (x&&& ~~~y)
 |_,_,_=>ae
theorem ZP6{op:BinOp}{x y z:yU}(h:GD op x y=ab z)(yJ:yL ar):Xz op .u64 (x.toNat:Int) (y.toNat:Int) (.raw::yJ)=ab ([],.p (.int .u64 (z.toNat:Int)),yJ):=by
 cases op <;> simp only[GD,yp,reduceCtorEq]at h <;> subst h
 .simp only[Xz,fT,wg,UInt64.toNat_add];simp
 .have e:((x.toNat:Int) - (y.toNat:Int)) % 18446744073709551616=((x - y).toNat:Int):=by
   rw[UInt64.toNat_sub];have:=x.toNat_lt;have:=y.toNat_lt;omega
  simp only[Xz,fT,wg,e]
 .simp only[Xz,fT,wg,UInt64.toNat_mul];simp
 all_goals simp only[Xz,ZNh]
def GF:BinOp->yU->yU->yO yU
 |.quo,x,y=>ab (x / y)
 |.rem,x,y=>ab (x % y)
 |_,_,_=>ae
theorem ZP7{op:BinOp}{x y z:yU}(h:GF op x y=ab z)(yJ:yL ar):Xz op .u64 (x.toNat:Int) (y.toNat:Int) (.raw::yJ)=ab ([(y.toNat:Int)≠0],.p (.int .u64 (z.toNat:Int)),yJ):=by
 cases op <;> simp only[GF,yp,reduceCtorEq]at h <;> subst h
 .simp only[Xz,UInt64.toNat_div];rw[show(x.toNat:Int).tdiv (y.toNat:Int)=((x.toNat / y.toNat:Nat):Int) from rfl,ZJY (ycx (Nat.div_le_self ..) (ybt _))]
 .simp only[Xz,UInt64.toNat_mod];rfl
def GG:BinOp->yU->yU->yO Bool
 |.eql,x,y=>ab (x==y)
 |.neq,x,y=>ab (x !=y)
 |.lss,x,y=>ab (ah (x < y))
 |.leq,x,y=>ab (ah (x<=y))
 |.gtr,x,y=>ab (ah (x > y))
 |.geq,x,y=>ab (ah (x >= y))
 |_,_,_=>ae
theorem ZNj{op:BinOp}{x y:yU}{b:Bool}(h:GG op x y=ab b)(yJ:yL ar):Xz op .u64 (x.toNat:Int) (y.toNat:Int) yJ=ab ([],.p (.bool b),yJ):=by
 have eq:((x.toNat:Int)==(y.toNat:Int))=(x==y):=by
  rw[yco];simp only[yT, <-ybz];omega
 have lt:∀a b:yU,ah ((a.toNat:Int) < (b.toNat:Int))=ah (a < b):=λa b=>by
  rw[yco];simp[UInt64.lt_iff_toNat_lt]
 have le:∀a b:yU,ah ((a.toNat:Int)<=(b.toNat:Int))=ah (a<=b):=λa b=>by
  rw[yco];simp[UInt64.le_iff_toNat_le]
 cases op <;> simp only[GG,yp,reduceCtorEq]at h <;> subst h <;> simp only[Xz,GT.gt,GE.ge,lt,le,eq,bne]
theorem ZNk(x:yU)(y:Int)(yJ:yL ar):VQ .shl .u64 (x.toNat:Int) y (.raw::yJ)=ab ([0<=y],.p (.int .u64 ((QP x (min y.toNat 64)).toNat:Int)),yJ):=by
 simp only[VQ,wg,QP,yan];simp[show IntKind.u64.bits=64 from rfl]
theorem ZNl(x:yU)(y:Int)(yJ:yL ar):VQ .shr .u64 (x.toNat:Int) y (.raw::yJ)=ab ([0<=y],.p (.int .u64 ((ZJ x (min y.toNat 64)).toNat:Int)),yJ):=by
 simp only[VQ,ZJ,yan];congr 4;rw[show IntKind.u64.bits=64 from rfl]
 have h:x.toNat / 2 ^ min y.toNat 64 < 18446744073709551616:=ycx (Nat.div_le_self ..) (ybt _);rw[yaf h];rw[show((2:Int) ^ min y.toNat 64)=((2 ^ min y.toNat 64:Nat):Int) by simp,Int.fdiv_eq_ediv_of_nonneg _ (Int.natCast_nonneg _)];rfl
inductive Num where
 |u8 (x:UInt8)|u32 (x:UInt32)|u64 (x:UInt64)
 |i (k:IntKind) (x:Int)
def TP.num:TP->yO Num
 |.v (.int k) n=>if FM k then ab (.i k n) else ae
 |.v .u8 b=>ab (.u8 b)
 |.v .u32 b=>ab (.u32 b)
 |.v .u64 b=>ab (.u64 b)
 |_=>ae
def Num.k:Num->IntKind
 |.u8 _=>.u8|.u32 _=>.u32|.u64 _=>.u64|.i k _=>k
def Num.n:Num->Int
 |.u8 x=>(x.toNat:Int)|.u32 x=>(x.toNat:Int)|.u64 x=>(x.toNat:Int)|.i _ x=>x
theorem ZSm{x:TP}{a:Num}(h:x.num=ab a):x.pe=.int a.k a.n:=by
 unfold TP.num at h;split at h
 .split at h
  .cases h;rfl
  .cases h
 .cases h;rfl
 .cases h;rfl
 .cases h;rfl
 .cases h
def TD.num:TD->yO Num
 |.p x=>x.num
 |_=>ae
theorem kZ{L:Lk}{x:TD}{a:Num}(h:x.num=ab a):x.er L=.p (.int a.k a.n):=by
 unfold TD.num at h;split at h
 .rw[TD.er,ZSm h]
 .cases h
section
variable{L:Lk}{P:yg}{o:Oper}{ts:yL TD}{O:Type}
def ZVO:BinOp->Bool
 |.eql|.neq|.lss|.leq|.gtr|.geq=>af
 |_=>ag
def GH:BinOp->Int->Int->yO Bool
 |.eql,x,y=>ab (x==y)
 |.neq,x,y=>ab (x !=y)
 |.lss,x,y=>ab (ah (x < y))
 |.leq,x,y=>ab (ah (x<=y))
 |.gtr,x,y=>ab (ah (x > y))
 |.geq,x,y=>ab (ah (x >= y))
 |_,_,_=>ae
theorem ZP8{op:BinOp}{k:IntKind}{x y:Int}{b:Bool}(h:GH op x y=ab b)(yJ:yL ar):Xz op k x y yJ=ab ([],.p (.bool b),yJ):=by
 cases op <;> simp only[GH,yp,reduceCtorEq]at h <;> subst h <;> rfl
def GI(k:IntKind):BinOp->Int->Int->yO Int
 |.add,x,y=>ab (k.wrap (x+y))
 |.sub,x,y=>ab (k.wrap (x - y))
 |.mul,x,y=>ab (k.wrap (x*y))
 |.and,x,y=>ab (bits .and k x y)
 |.or,x,y=>ab (bits .or k x y)
 |.xor,x,y=>ab (bits .xor k x y)
 |.andNot,x,y=>ab (bits .andNot k x y)
 |_,_,_=>ae
theorem ZSo{op:BinOp}{k:IntKind}{x y z:Int}(h:GI k op x y=ab z)(yJ:yL ar):Xz op k x y (.raw::yJ)=ab ([],.p (.int k z),yJ):=by
 cases op <;> simp only[GI,yp,reduceCtorEq]at h <;> subst h <;> rfl
def GJ(k:IntKind):BinOp->Int->Int->yO Int
 |.quo,x,y=>ab (k.wrap (x.tdiv y))
 |.rem,x,y=>ab (x.tmod y)
 |_,_,_=>ae
theorem ZSp{op:BinOp}{k:IntKind}{x y z:Int}(h:GJ k op x y=ab z)(yJ:yL ar):Xz op k x y (.raw::yJ)=ab ([y≠0],.p (.int k z),yJ):=by
 cases op <;> simp only[GJ,yp,reduceCtorEq]at h <;> subst h <;> rfl
def pf(b:yO Bool)(o:yO TP)(d:yO TP)(nz:Bool)(K:TD->yL ar->yO O):yO O:=
 match b,o,d with
 |some b,_,_=>K (.p (.v .bool b)) []
 |none,ab z,_=>K (.p z) [.raw]
 |none,ae,ab z=>if nz=af then K (.p z) [.raw] else ae
 |none,ae,ae=>ae
def GK(op:BinOp)(x y:Num)(K:TD->yL ar->yO O):yO O:=
 match x,y with
 |.u8 a,.u8 b=>pf (FZ op a b) ((FX op a b).map (.v .u8)) ((FY op a b).map (.v .u8)) (b !=0) K
 |.u32 a,.u32 b=>pf (GC op a b) ((GA op a b).map (.v .u32)) ((GB op a b).map (.v .u32)) (b !=0) K
 |.u64 a,.u64 b=>pf (GG op a b) ((GD op a b).map (.v .u64)) ((GF op a b).map (.v .u64)) (b !=0) K
 |.i k a,.i l b=>if k=l/\FM k=af then pf (GH op a b) ((GI k op a b).map (.v (.int k))) ((GJ k op a b).map (.v (.int k))) (b !=0) K else ae
 |_,_=>ae
theorem wh{k:IntKind}{op:BinOp}{x y:Int}{b:yO Bool}{o d:yO TP}{nz:Bool}{K:TD->yL ar->yO O}{out:O}(h:pf b o d nz K=ab out)
 (hb:∀c,b=ab c->∀yJ,Xz op k x y yJ=ab ([],.p (.bool c),yJ))
 (ho:∀z,o=ab z->∀yJ,Xz op k x y (.raw::yJ)=ab ([],.p z.pe,yJ))
 (hd:∀z,d=ab z->∀yJ,Xz op k x y (.raw::yJ)=ab ([y≠0],.p z.pe,yJ)) (hz:nz=af->y≠0):
 ∃d hs C,K d hs=ab out/\ba C/\∀yJ,Xz op k x y (hs++yJ)=ab (C,d.er L,yJ):=by
 unfold pf at h;split at h
 .exact⟨_,_,[],h,zZ,hb _ rfl⟩
 .exact⟨_,_,[],h,zZ,ho _ rfl⟩
 .obtain⟨h1,h2⟩:=Za h;exact⟨_,_,[y≠0],h2,⟨hz h1,ao⟩,hd _ rfl⟩
 .cases h
theorem ZGb{op:BinOp}{x y:Num}{K:TD->yL ar->yO O}{out:O}(h:GK op x y K=ab out):
 x.k=y.k/\∃d hs C,K d hs=ab out/\ba C/\∀yJ,Xz op x.k x.n y.n (hs++yJ)=ab (C,d.er L,yJ):=by
 unfold GK at h;split at h
 .rename_i a b;refine⟨rfl,wh h (λc hc=>ZP1 hc) (λz hz=> ?_) (λz hz=> ?_) (λhz=> ?_)⟩
  .obtain⟨q,h1,rfl⟩:=Zd hz;exact ZSf h1
  .obtain⟨q,h1,rfl⟩:=Zd hz;exact ZSg h1
  .simp only[yE,ne_eq]at hz;intro e;exact hz (UInt8.toNat_inj.1 (by simp only[Num.n]at e;show b.toNat=0;omega))
 .rename_i a b;refine⟨rfl,wh h (λc hc=>ZNe hc) (λz hz=> ?_) (λz hz=> ?_) (λhz=> ?_)⟩
  .obtain⟨q,h1,rfl⟩:=Zd hz;exact ZP4 h1
  .obtain⟨q,h1,rfl⟩:=Zd hz;exact ZP5 h1
  .simp only[yE,ne_eq]at hz;intro e;exact hz (UInt32.toNat_inj.1 (by simp only[Num.n]at e;show b.toNat=0;omega))
 .rename_i a b;refine⟨rfl,wh h (λc hc=>ZNj hc) (λz hz=> ?_) (λz hz=> ?_) (λhz=> ?_)⟩
  .obtain⟨q,h1,rfl⟩:=Zd hz;exact ZP6 h1
  .obtain⟨q,h1,rfl⟩:=Zd hz;exact ZP7 h1
  .simp only[yE,ne_eq]at hz;intro e;exact hz (ybz.1 (by simp only[Num.n]at e;show b.toNat=0;omega))
 .rename_i k a l b;split at h
  .rename_i e;obtain⟨rfl,e⟩:=e;refine⟨rfl,wh h (λc hc=>ZP8 hc) (λz hz=> ?_) (λz hz=> ?_) (λhz=> ?_)⟩
   .obtain⟨q,h1,rfl⟩:=Zd hz;exact ZSo h1
   .obtain⟨q,h1,rfl⟩:=Zd hz;exact ZSp h1
   .simpa[Num.n] using hz
  .cases h
 .cases h
def GL:Num->Bool
 |.i _ n=>ah (0<=n)
 |_=>af
theorem ZIe{x:Num}(h:GL x=af):0<=x.n:=by
 cases x <;> simp only[GL,Num.n,yP]at h ⊢ <;> omega
def GM(op:BinOp)(x y:Num):yO TP:=
 match op,x with
 |.shl,.u8 a=>ab (.v .u8 (wb a (min y.n.toNat 8)))
 |.shl,.u32 a=>ab (.v .u32 (fB a (min y.n.toNat 32)))
 |.shl,.u64 a=>ab (.v .u64 (QP a (min y.n.toNat 64)))
 |.shl,.i k a=>ab (.v (.int k) (k.wrap (a*2 ^ min y.n.toNat k.bits)))
 |.shr,.u8 a=>ab (.v .u8 (FW a (min y.n.toNat 8)))
 |.shr,.u32 a=>ab (.v .u32 (gx a (min y.n.toNat 32)))
 |.shr,.u64 a=>ab (.v .u64 (ZJ a (min y.n.toNat 64)))
 |.shr,.i k a=>ab (.v (.int k) (a.fdiv (2 ^ min y.n.toNat k.bits)))
 |_,_=>ae
theorem ZSq{op:BinOp}{x y:Num}{z:TP}(h:GM op x y=ab z)(yJ:yL ar):VQ op x.k x.n y.n (.raw::yJ)=ab ([0<=y.n],.p z.pe,yJ):=by
 unfold GM at h
 split at h <;> first
  |(cases h;first|exact ZP2 .. |exact ZNf .. |exact ZNk .. |exact ZP3 .. |exact ZNg .. |exact ZNl .. |rfl)
  |cases h
mutual
def Ty.flat:Ty->Bool
 |.sl _=>ag
 |.str=>ag
 |.arr _ t=>Ty.flat t
 |.st fs=>Ty.aP fs
 |_=>af
def Ty.aP:yL Ty->Bool
 |[]=>af
 |t::r=>Ty.flat t&&Ty.aP r
end
mutual
theorem rU:∀(t:Ty)(x y:t.aQ),t.flat=af->t.enc x=t.enc y->x=y
 |.int k,x,y,_,h=>by injection h
 |.u8,x,y,_,h=>by injection h with _ h;exact UInt8.toNat_inj.1 (by omega)
 |.u32,x,y,_,h=>by injection h with _ h;exact UInt32.toNat_inj.1 (by omega)
 |.u64,x,y,_,h=>by injection h with _ h;exact ybz.1 (by omega)
 |.bool,x,y,_,h=>by injection h
 |.str,_,_,hf,_=>nomatch hf
 |.sl _,_,_,hf,_=>nomatch hf
 |.arr n t,x,y,hf,h=>by
  injection h with _ _ h
  exact ZJM (λa b e=>rU t a b hf e) h
 |.st fs,x,y,hf,h=>by
  injection h with h;exact gg fs x y hf h
theorem gg:∀(fs:yL Ty)(x y:Ty.aH fs),Ty.aP fs=af->Ty.encs fs x=Ty.encs fs y->x=y
 |[],_,_,_,_=>rfl
 |[t],x,y,hf,h=>by
  simp only[Ty.encs,List.cons.injEq,and_true]at h;simp only[Ty.aP,Bool.and_true]at hf
  exact rU t x y hf h
 |t::u::r,x,y,hf,h=>by
  have h':t.enc x.1::Ty.encs (u::r) x.2=t.enc y.1::Ty.encs (u::r) y.2:=h;have hf':(t.flat&&Ty.aP (u::r))=af:=hf;rw[yi]at hf';injection h' with h1 h2;exact Prod.ext (rU t x.1 y.1 hf'.1 h1) (gg (u::r) x.2 y.2 hf'.2 h2)
end
mutual
def Ty.dP:(t:Ty)->DecidableEq t.aQ
 |.int _=>inferInstanceAs (DecidableEq Int)
 |.u8=>inferInstanceAs (DecidableEq yB)
 |.u32=>inferInstanceAs (DecidableEq yV)
 |.u64=>inferInstanceAs (DecidableEq yU)
 |.bool=>inferInstanceAs (DecidableEq Bool)
 |.str=>inferInstanceAs (DecidableEq ByteArray)
 |.sl t=>@instDecidableEqList t.aQ (Ty.dP t)
 |.arr _ t=>@instDecidableEqList t.aQ (Ty.dP t)
 |.st fs=>Ty.rV fs
def Ty.rV:(fs:yL Ty)->DecidableEq (Ty.aH fs)
 |[]=>inferInstanceAs (DecidableEq Unit)
 |[t]=>Ty.dP t
 |t::u::r=>@instDecidableEqProd t.aQ (Ty.aH (u::r)) (Ty.dP t) (Ty.rV (u::r))
end
mutual
def mc(P:yg):Nat->yc->Ty->Bool
 |0,_,_=>ag
 |n+1,t,T=>match P.underlying t,T with
  |some .bool,.bool=>af
  |some (.int .u8),.u8=>af
  |some (.int .u32),.u32=>af
  |some (.int .u64),.u64=>af
  |some (.int k),.int l=>ah (k=l)
  |some (.array m e),.arr m' U=>ah (m'=m)&&(ah (P.cellsOf e=U.size)&&(ah (U.size≠0)&&((P.info? e).isSome&&((P.underlying e).isSome&&(ah (WS P e=U.isAgg)&&mc P n e U)))))
  |some (.struct fs),.st Ts=>ah (P.stoodInHeld t=ag)&&eX P n fs.toList 0 Ts
  |_,_=>ag
def eX(P:yg):Nat->yL Field->Nat->yL Ty->Bool
 |0,_,_,_=>ag
 |_+1,[],_,[]=>af
 |n+1,f::fs,o,T::Ts=>ah (f.name≠ "_")&&(ah (f.offset=o)&&(ah (P.cellsOf f.type=T.size)&&((P.info? f.type).isSome&&((P.underlying f.type).isSome&&(ah (WS P f.type=T.isAgg)&&(ah (T.size≠0)&&(mc P n f.type T&&eX P n fs (o+T.size) Ts)))))))
 |_+1,_,_,_=>ag
end
mutual
theorem rW:∀(n:Nat)(t:yc)(T:Ty),mc P n t T=af->∀(x:T.aQ),bh P n t (T.enc x)
 |0,_,_,h,_=>by simp[mc]at h
 |n+1,t,T,h,x=>by
  simp only[mc]at h;unfold bh;split at h
  .rename_i hu;rw[hu];trivial
  .rename_i hu;rw[hu];exact rfl
  .rename_i hu;rw[hu];exact rfl
  .rename_i hu;rw[hu];exact rfl
  .rename_i hu;rw[hu];simp only[yP]at h;exact h.symm
  .rename_i m e m' U hu;simp only[yi,yP]at h;obtain⟨h1,h2,h3,h4,h5,h6,h7⟩:=h;rw[hu];refine⟨h1,h2,h3,h4,h5,λy hy=> ?_⟩;obtain⟨z,_,rfl⟩:=List.mem_map.1 hy;exact⟨rW n e U h7 z,pc U z,by rw[wa];exact h6⟩
  .rename_i fs Ts hu;simp only[yi,yP]at h;rw[hu];exact⟨h.1,vI (λt x k=>k) _ _ _ (gi n fs.toList 0 Ts h.2 x)⟩
  .cases h
theorem gi:∀(n:Nat)(fs:yL Field)(o:Nat)(Ts:yL Ty),eX P n fs o Ts=af->∀(x:Ty.aH Ts),io P (bh P n) fs o (Ty.encs Ts x)
 |0,_,_,_,h,_=>by simp[eX]at h
 |n+1,[],_,[],_,_=>trivial
 |n+1,[],_,_::_,h,_=>by simp[eX]at h
 |n+1,_::_,_,[],h,_=>by simp[eX]at h
 |n+1,f::fs,o,T::Ts,h,x=>by
  simp only[eX,yi,yP]at h;obtain⟨h1,h2,h3,h4,h5,h6,h7,h8,h9⟩:=h
  have key:∃(a:T.aQ)(b:Ty.aH Ts),Ty.encs (T::Ts) x=T.enc a::Ty.encs Ts b:=by
   cases Ts with
   |nil=>exact⟨x,(),rfl⟩
   |cons U r=>exact⟨x.1,x.2,rfl⟩
  obtain⟨a,b,e⟩:=key;rw[e];refine⟨h1,h2,by rw[pc];exact h3,h4,h5,by rw[wa];exact h6,by rw[pc];exact h7,vJ (rW n f.type T h8 a), ?_⟩;rw[pc];exact vI (λt x k=>vJ k) _ _ _ (gi n fs _ Ts h9 b)
end
end
end Go.Ev
end
section
namespace Go.Ev
section
variable{L:Lk}{P:yg}{o:Oper}{ts:yL TD}{O:Type}
def GN(r:mU):yO Bool:=
 match r with
 |some ([],.p (.bool b),[])=>ab b
 |_=>ae
theorem ZCD{t:yc}{x y:Dv}{b:Bool}(h:iL P t x y []=ab ([],b,[]))(yJ:yL ar):iL P t x y yJ=ab ([],b,yJ):=by
 unfold iL at h ⊢
 split at h <;> first
  |(simp only[yp,yz,and_true,true_and]at h;subst h;rfl)
  |cases h
  |(split at h <;> first|(rename_i e;cases e)|cases h)
theorem ZLt{op:BinOp}{t:yc}{x y:Dv}{b:Bool}(h:GN (gu P op t x y [])=ab b)(yJ:yL ar):gu P op t x y yJ=ab ([],.p (.bool b),yJ):=by
 have h':gu P op t x y []=ab ([],.p (.bool b),[]):=by
  unfold GN at h;split at h
  .rename_i e;cases h;exact e
  .cases h
 clear h;unfold gu at h' ⊢;split at h'
 .split at h'
  .cases op <;> simp[VQ]at h'
  .split at h'
   .rename_i k a k' b' _ hk;simp only[hk,if_true];rename_i hs;simp only[hs,if_false];cases op <;> simp only[Xz,fT,yp,yz,Dv.p.injEq,Pl.bool.injEq,and_true,true_and,reduceCtorEq]at h' ⊢ <;> first|exact h'|skip
    all_goals first|(cases h';done)|(cases h';simp;done)|(simp[uQ]at h';done)
   .cases h'
 .cases op <;> simp only[yp,yz,Dv.p.injEq,Pl.bool.injEq,and_true,true_and,reduceCtorEq]at h' ⊢ <;> exact h'
 .rename_i hx hy;cases op <;> first|cases h'|skip
  .obtain⟨q,h1,h2⟩:=Zd h';simp only[yz,Dv.p.injEq,Pl.bool.injEq]at h2;obtain⟨q1,q2,q3⟩:=q;obtain⟨rfl,rfl,rfl⟩:=h2;simp only[ZCD h1 yJ,yaa]
  .obtain⟨q,h1,h2⟩:=Zd h';simp only[yz,Dv.p.injEq,Pl.bool.injEq]at h2;obtain⟨q1,q2,q3⟩:=q;obtain⟨rfl,rfl,rfl⟩:=h2;simp only[ZCD h1 yJ,yaa]
def TD.val:TD->yO (Σ t:Ty,t.aQ)
 |.p (.v t x)=>ab ⟨t,x⟩
 |_=>ae
theorem GO{x:TD}{q:Σ t:Ty,t.aQ}(h:x.val=ab q):x.er L=.p (q.1.enc q.2):=by
 unfold TD.val at h;split at h
 .cases h;rfl
 .cases h
def GP(P:yg)(t:yc):Bool:=
 match P.underlying t with
 |some (.array _ _)=>af
 |some (.struct _)=>af
 |_=>ag
def GQ(P:yg)(op:BinOp)(t:yc)(x y:TD)(K:TD->yL ar->yO O):yO O:=
 match x.val,y.val with
 |some a,ab b=>(Ty.cast b.1 a.1 b.2).bind λz=>
  if GP P t&&(a.1.isAgg&&(a.1.flat&&(mc P 20 t a.1&&ah (P.eqGuardType P.depth t=ag)))) then
   match op with
   |.eql=>K (.p (.v .bool (@decide (a.2=z) (Ty.dP a.1 a.2 z)))) [.b (@decide (a.2=z) (Ty.dP a.1 a.2 z))]
   |.neq=>K (.p (.v .bool (!(@decide (a.2=z) (Ty.dP a.1 a.2 z))))) [.b (@decide (a.2=z) (Ty.dP a.1 a.2 z))]
   |_=>ae
  else ae
 |_,_=>ae
theorem rX{t:yc}{a:Σ t:Ty,t.aQ}{z:a.1.aQ}(h1:GP P t=af)(h2:a.1.isAgg=af)(h3:a.1.flat=af)(h4:mc P 20 t a.1=af)(h5:P.eqGuardType P.depth t=ag)(yJ:yL ar):
 ∃C,ba C/\iL P t (.p (a.1.enc a.2)) (.p (a.1.enc z)) (.b (@decide (a.2=z) (Ty.dP a.1 a.2 z))::yJ)=ab (C,@decide (a.2=z) (Ty.dP a.1 a.2 z),yJ)/\C=[bh P 20 t (a.1.enc a.2),bh P 20 t (a.1.enc z),(@decide (a.2=z) (Ty.dP a.1 a.2 z)=af↔a.1.enc a.2=a.1.enc z)]:=by
 have f1:=rW 20 t a.1 h4 a.2;have f2:=rW 20 t a.1 h4 z
 have f3:(@decide (a.2=z) (Ty.dP a.1 a.2 z)=af↔a.1.enc a.2=a.1.enc z):=by
  rw[@decide_eq_true_iff _ (Ty.dP a.1 a.2 z)];exact⟨λe=>by rw[e],λe=>rU a.1 _ _ h3 e⟩
 refine⟨[bh P 20 t (a.1.enc a.2),bh P 20 t (a.1.enc z),(@decide (a.2=z) (Ty.dP a.1 a.2 z)=af↔a.1.enc a.2=a.1.enc z)],⟨f1,f2,f3,ao⟩, ?_,rfl⟩;generalize @decide (a.2=z) (Ty.dP a.1 a.2 z)=β at f3;generalize a.1.enc a.2=p at f1 f3 ⊢;generalize a.1.enc z=q at f2 f3 ⊢;clear f3;unfold GP at h1;unfold bh at f1 f2;unfold iL;split at h1
 .rename_i m e hu;rw[hu]at f1 f2 ⊢;cases p <;> first|exact f1.elim|skip
  cases q <;> first|exact f2.elim|skip
  dsimp only;rw[yW h5]
 .rename_i m hu;rw[hu]at f1 f2 ⊢;cases p <;> first|exact f1.elim|skip
  cases q <;> first|exact f2.elim|skip
  dsimp only;rw[yW h5]
 .cases h1
theorem ZCE{t:yc}{x y:Pl}(hx:x.isAgg=af)(op:BinOp)(hs:yL ar)(h:op=.eql\/op=.neq):gu P op t (.p x) (.p y) hs=(iL P t (.p x) (.p y) hs).map λr=>(r.1,.p (.bool (if op=.eql then r.2.1 else !r.2.1)),r.2.2):=by
 cases x <;> first|cases hx|skip
 all_goals (unfold gu;rcases h with rfl|rfl <;> rfl)
theorem ZNm{op:BinOp}{t:yc}{x y:TD}{K:TD->yL ar->yO O}{out:O}(h:GQ P op t x y K=ab out):∃d hs C,K d hs=ab out/\ba C/\∀yJ,gu P op t (x.er L) (y.er L) (hs++yJ)=ab (C,d.er L,yJ):=by
 unfold GQ at h;split at h
 .rename_i a b ha hb;obtain⟨z,h1,h⟩:=yf.1 h;obtain⟨h2,h⟩:=Za h;simp only[yi,yP]at h2;obtain⟨g1,g2,g3,g4,g5⟩:=h2
  have ey:y.er L=.p (a.1.enc z):=by
   obtain⟨e,rfl⟩:=lV h1;rw[GO hb];cases a;cases b;cases e;rfl
  have ga:(a.1.enc a.2).isAgg=af:=by rw[wa];exact g2
  split at h
  .obtain⟨C,c1,c2,_⟩:=rX (P:=P) (z:=z) g1 g2 g3 g4 g5 [];refine⟨_,_,[bh P 20 t (a.1.enc a.2),bh P 20 t (a.1.enc z),(@decide (a.2=z) (Ty.dP a.1 a.2 z)=af↔a.1.enc a.2=a.1.enc z)],h, ?_,λyJ=> ?_⟩
   .obtain⟨C,c1,_,rfl⟩:=rX (P:=P) (z:=z) g1 g2 g3 g4 g5 [];exact c1
   .obtain⟨C,_,c2,rfl⟩:=rX (P:=P) (z:=z) g1 g2 g3 g4 g5 yJ;rw[GO ha,ey,ZCE ga _ _ (.inl rfl),yae,yy,c2];rfl
  .refine⟨_,_,[bh P 20 t (a.1.enc a.2),bh P 20 t (a.1.enc z),(@decide (a.2=z) (Ty.dP a.1 a.2 z)=af↔a.1.enc a.2=a.1.enc z)],h, ?_,λyJ=> ?_⟩
   .obtain⟨C,c1,_,rfl⟩:=rX (P:=P) (z:=z) g1 g2 g3 g4 g5 [];exact c1
   .obtain⟨C,_,c2,rfl⟩:=rX (P:=P) (z:=z) g1 g2 g3 g4 g5 yJ;rw[GO ha,ey,ZCE ga _ _ (.inr rfl),yae,yy,c2];rfl
  .cases h
 .cases h
def GR(L:Lk)(x y:TD):yO Bool:=
 match y with
 |.p (.sl (ab ag) _ [])=>match x.row L with
  |some ⟨ae,_,l⟩=>ab l.isEmpty
  |_=>ae
 |_=>ae
theorem ZP9{x y:TD}{b:Bool}(h:GR L x y=ab b):∃s xs s',(x.er L=.p (.sl ae s xs)\/∃id,x.er L=.own id ae s xs)/\y.er L=.p (.sl (ab ag) s' [])/\xs.isEmpty=b:=by
 unfold GR at h;split at h
 .split at h
  .rename_i T q t l hr;cases h;refine⟨t.size,l.map t.enc,T.size, ?_,rfl,by cases l <;> rfl⟩;rcases mb hr with h|⟨id,h⟩
   .exact .inl h
   .exact .inr ⟨id,h⟩
  .cases h
 .cases h
def ZTV(P:yg)(op:BinOp)(t:yc)(b:Bool)(K:TD->yL ar->yO O):yO O:=
 match P.underlying t with
 |some (.slice _)=>if b=af then ae else match op with
  |.eql=>K (.p (.v .bool ag)) [.bare]
  |.neq=>K (.p (.v .bool af)) [.bare]
  |_=>ae
 |_=>ae
def GS(L:Lk)(P:yg)(op:BinOp)(t:yc)(x y:TD)(K:TD->yL ar->yO O):yO O:=
 match x.num,y.num with
 |some a,ab b=>if DK op then(GM op a b).bind λz=>if GL b=af then K (.p z) [.raw] else ae else GK op a b K
 |_,_=>match GN (gu P op t (x.er L) (y.er L) []) with
  |some b=>K (.p (.v .bool b)) []
  |none=>match GR L x y with
   |some b=>ZTV P op t b K
   |none=>GQ P op t x y K
theorem ZLu{op:BinOp}{t:yc}{x y:TD}{K:TD->yL ar->yO O}{out:O}(h:GS L P op t x y K=ab out):∃d hs C,K d hs=ab out/\ba C/\∀yJ,gu P op t (x.er L) (y.er L) (hs++yJ)=ab (C,d.er L,yJ):=by
 unfold GS at h;split at h
 .rename_i a b ha hb;rw[kZ ha,kZ hb];split at h
  .rename_i hsh;obtain⟨z,h1,h⟩:=yf.1 h;obtain⟨h2,h⟩:=Za h;refine⟨_,_,[0<=b.n],h,⟨ZIe h2,ao⟩,λyJ=> ?_⟩;unfold gu;dsimp only;rw[yW hsh];exact ZSq h1 yJ
  .rename_i hsh;obtain⟨hk,d,hs,C,h1,h2,h3⟩:=ZGb h;refine⟨d,hs,C,h1,h2,λyJ=> ?_⟩;unfold gu;dsimp only;rw[yX hsh,yW hk];exact h3 yJ
 .split at h
  .rename_i b hb;exact⟨_,_,[],h,zZ,ZLt hb⟩
  .split at h
   .rename_i b hb;obtain⟨s,xs,s',h1,h2,h3⟩:=ZP9 hb;unfold ZTV at h;split at h
    .rename_i e hu;split at h
     .cases h
     .rename_i hne;have hxs:xs≠[]:=by rintro rfl;exact hne (by rw[<-h3];rfl)
      split at h
      .refine⟨_,_,[xs≠[]],h,⟨hxs,ao⟩,λyJ=> ?_⟩;unfold gu;rcases h1 with h1|⟨id,h1⟩ <;> (rw[h1,h2];dsimp only;unfold iL;rw[hu];rfl)
      .refine⟨_,_,[xs≠[]],h,⟨hxs,ao⟩,λyJ=> ?_⟩;unfold gu;rcases h1 with h1|⟨id,h1⟩ <;> (rw[h1,h2];dsimp only;unfold iL;rw[hu];rfl)
      .cases h
    .cases h
   .exact ZNm h
def GU(k:IntKind):Num->yO TP
 |.u8 b=>match k with
  |.u8=>ab (.v .u8 b)
  |.u32=>ab (.v .u32 (ybq b.toNat))
  |.u64=>ab (.v .u64 (yv b.toNat))
  |.i64=>ab (.v (.int .i64) (b.toNat:Int))
  |_=>ae
 |.u32 b=>match k with
  |.u32=>ab (.v .u32 b)
  |.u64=>ab (.v .u64 (yv b.toNat))
  |.i64=>ab (.v (.int .i64) (b.toNat:Int))
  |_=>ae
 |.u64 b=>match k with
  |.u64=>ab (.v .u64 b)
  |_=>ae
 |.i _ _=>ae
theorem ZIf{k:IntKind}{a:Num}{z:TP}(h:GU k a=ab z):QW k a.n/\z.pe=.int k a.n:=by
 unfold GU at h;split at h
 .rename_i b;have:=b.toNat_lt;split at h <;> first|cases h|skip
  all_goals
   refine⟨?_, ?_⟩
   .simp only[QW,IntKind.min,IntKind.max,IntKind.signed,IntKind.bits,Num.n];constructor <;> simp<;> omega
   .simp only[TP.pe,Ty.enc,Num.n,ycq,yan]
    try (congr 2;omega)
 .rename_i b;have:=b.toNat_lt;split at h <;> first|cases h|skip
  all_goals
   refine⟨?_, ?_⟩
   .simp only[QW,IntKind.min,IntKind.max,IntKind.signed,IntKind.bits,Num.n];constructor <;> simp<;> omega
   .simp only[TP.pe,Ty.enc,Num.n,ycq,yan]
    try (congr 2;omega)
 .rename_i b;have:=b.toNat_lt;split at h <;> first|cases h|skip
  refine⟨?_,rfl⟩;simp only[QW,IntKind.min,IntKind.max,IntKind.signed,IntKind.bits,Num.n];constructor <;> simp<;> omega
 .cases h
def bytesOf(l:yL yB):ByteArray:=⟨l.toArray⟩
theorem ZGd(l:yL yB):l.map (Ty.enc .u8)=(bytesOf l).data.toList.map λx=>.int .u8 (x.toNat:Int):=rfl
def ZTW(P:yg)(e:yc)(K:TD->yL ar->yO O)(r:Row):yO O:=
 (Ty.bn r.t .u8 r.l).bind λl=>match P.underlying e with
   |some (.int .u8)=>K (.p (.v .str (bytesOf l))) [.el (.str (bytesOf l))]
   |_=>ae
def GV:TD->yO ByteArray
 |.p (.v t s)=>match t with
  |.str=>ab s
  |_=>ae
 |_=>ae
theorem ZQa{L:Lk}{x:TD}{b:ByteArray}(h:GV x=ab b):x.er L=.p (.str b):=by
 unfold GV at h;split at h
 .split at h
  .cases h;rfl
  .cases h
 .cases h
def GW(L:Lk)(P:yg)(src dst:yc)(K:TD->yL ar->yO O)(x:TD):yO O:=
 match P.underlying src,P.underlying dst with
 |some _,ab (.int k)=>x.num.bind λa=>match GU k a with
  |some z=>K (.p z) [.bare]
  |none=>K (.p (vT k a.n)) [.raw]
 |some (.slice e),ab .string=>(x.row L).bind (ZTW P e K)
 |some .string,ab (.slice e)=>(GV x).bind λb=>match P.underlying e with
  |some (.int .u8)=>if ah (b.size<=maxLen)=af then K (.p (.sl (ab af) .u8 b.data.toList)) [] else ae
  |_=>ae
 |_,_=>ae
theorem ZIg{src dst:yc}{x:ym}{K:TD->yL ar->yO O}{xd:TD}{out:O}(ho:o.op=.convert src dst x)(hx:bo P ts src x=ab xd)(h:GW L P src dst K xd=ab out):∃d hs,K d hs=ab out/\di L P o ts d hs:=by
 have hv:=Zz (L:=L) hx;unfold GW at h;split at h
 .rename_i q k hq hk;obtain⟨a,h1,h⟩:=yf.1 h;rw[kZ h1]at hv;split at h
  .rename_i z hz;obtain⟨c1,c2⟩:=ZIf hz;refine⟨_,_,h,[QW k a.n],⟨c1,ao⟩,λyJ=> ?_⟩;unfold be;rw[ho];dsimp only;rw[hq,hk,hv,TD.er,c2];rfl
  .refine⟨_,_,h,[],zZ,λyJ=> ?_⟩;unfold be;rw[ho];dsimp only;rw[hq,hk,hv,TD.er,ZJT];rfl
 .rename_i e hq hk;obtain⟨r,h1,h⟩:=yf.1 h;unfold ZTW at h;obtain⟨l,h2,h9⟩:=yf.1 h;split at h9
  .rename_i he;obtain⟨nn,rt,rl⟩:=r;obtain⟨e1,h2⟩:=ZI h2;dsimp only at e1 h2;subst e1;subst h2;refine⟨_,_,h9,[l.map (Ty.enc .u8)=(bytesOf l).data.toList.map λx=>.int .u8 (x.toNat:Int)],⟨ZGd l,ao⟩,λyJ=> ?_⟩;unfold be;rw[ho];dsimp only;rcases mb h1 with e2|⟨id,e2⟩
   .rw[hq,hk,hv,e2];dsimp only;rw[yae,yy,he];dsimp only;rw[yW (show Ty.u8.size=1 from rfl)]
    rfl
   .rw[hq,hk,hv,e2];dsimp only;rw[yae,yy,he];dsimp only;rw[yW (show Ty.u8.size=1 from rfl)]
    rfl
  .cases h9
 .rename_i e hq hk;obtain⟨b,h1,h⟩:=yf.1 h;split at h
  .rename_i he;obtain⟨h2,h⟩:=Za h;refine⟨_,_,h,[b.size<=maxLen],⟨yF h2,ao⟩,λyJ=> ?_⟩;unfold be;rw[ho];dsimp only;rw[hq,hk,hv,ZQa h1];dsimp only;rw[he];rfl
  .cases h
 .cases h
def rY(P:yg)(ts:yL TD)(f:Nat->yc):yL (Nat×ym)->yO (yL (Nat×TD))
 |[]=>ab []
 |q::r=>match bo P ts (f q.1) q.2,rY P ts f r with
  |some d,ab l=>ab ((q.1,d)::l)
  |_,_=>ae
theorem wj{f:Nat->yc}:∀{parts:yL (Nat×ym)}{l:yL (Nat×TD)},rY P ts f parts=ab l->iq P (TD.aE L ts) f parts=l.map λq=>(q.1,q.2.er L)
 |[],l,h=>by cases h;rfl
 |q::r,l,h=>by
  simp only[rY]at h;split at h
  .rename_i d l' h1 h2;cases h;have:=wj h2;simp only[iq,yag]at this ⊢;rw[this,Zz h1]
  .cases h
def rZ(L:Lk):yL TD->yL (Nat×TD)->yO (yL TD)
 |ds,[]=>ab ds
 |ds,(i,d)::r=>match ds[i]? with
  |some old=>if(old.er L).size=(d.er L).size then rZ L (ds.set i d) r else ae
  |none=>ae
theorem GX:∀{l:yL (Nat×TD)}{ds es:yL TD},rZ L ds l=ab es->iN (TD.aE L ds) (l.map λq=>(q.1,q.2.er L))=ab (TD.aE L es)
 |[],ds,es,h=>by cases h;rfl
 |(i,d)::r,ds,es,h=>by
  simp only[rZ]at h;split at h
  .rename_i old h1;split at h
   .rename_i h2;have:=GX h;simp only[yag,iN,uR];rw[lW h1];dsimp only;rw[yW h2];rw[show(TD.aE L ds).set i (d.er L)=TD.aE L (ds.set i d) by rw[ZH,ZH,List.map_set]];exact this
   .cases h
  .cases h
def sj(P:yg):yL yc->yL Pl->yO (yL TP)
 |[],[]=>ab []
 |t::r,z::q=>match vX P t z,sj P r q with
  |some a,ab b=>ab (a::b)
  |_,_=>ae
 |_,_=>ae
theorem GY:∀{l:yL yc}{zs:yL Pl}{r:yL TP},sj P l zs=ab r->TP.cO r=zs
 |[],[],r,h=>by cases h;rfl
 |[],_::_,r,h=>by cases h
 |_::_,[],r,h=>by cases h
 |t::l,z::zs,r,h=>by
  simp only[sj]at h;split at h
  .rename_i a b h1 h2;cases h;rw[TP.cO,FQ h1,GY h2]
  .cases h
def md(L:Lk):yL TD->yO (yL TP)
 |[]=>ab []
 |d::r=>match d.plain L,md L r with
  |some a,ab b=>ab (a::b)
  |_,_=>ae
theorem ZzK{x:TD}(h:x.plain L=ae):(x.er L).plain=ae:=by
 cases x <;> first|rfl|cases h
theorem GZ:∀(ds:yL TD),jl (TD.aE L ds)=(md L ds).map TP.cO
 |[]=>rfl
 |d::r=>by
  simp only[TD.aE,jl,md];rw[GZ r]
  cases h:d.plain L with
  |none=>rw[ZzK h];cases md L r <;> rfl
  |some a=>
   rw[ZCC h];cases md L r <;> rfl
def HA(L:Lk)(P:yg)(t:yc)(ds:yL TD):TD:=
 match md L ds with
 |some l=>.p (vV P t l)
 |none=>.agg ds
theorem ZLv(t:yc)(ds:yL TD):(HA L P t ds).er L=qR (TD.aE L ds):=by
 unfold HA qR;rw[GZ]
 cases md L ds with
 |none=>rfl
 |some l=>simp only[TD.er,ZJU,yaa]
theorem HB(l:yL TP):TD.aE L (l.map .p)=(TP.cO l).map .p:=by
 rw[ZH,jr,ybf,ybf];rfl
def HC(L:Lk)(P:yg)(ts:yL TD)(t:yc)(parts:yL (Nat×ym))(K:TD->yL ar->yO O):yO O:=
 match P.underlying t,WH P t with
 |some (.struct fs),.p (.agg zs)=>(sj P (fs.toList.map (·.type)) zs).bind λzt=>(rY P ts (lM P t) parts).bind λps=>
  if(mV (ps.map λq=>(q.1,q.2.er L))&&fs.size==zs.length&&(yu zs.length).all λi=>lL P fs i (Pl.sizes (zs.take i)) ((zs.getD i default).size) ((zs.getD i default).isAgg))=af then
   (rZ L (zt.map .p) ps).bind λds=>K (HA L P t ds) [] else ae
 |some (.array _ e),.p (.arr n s zs)=>(sj P (yw zs.length e) zs).bind λzt=>(rY P ts (lM P t) parts).bind λps=>
  if(mV (ps.map λq=>(q.1,q.2.er L))&&P.cellsOf e=s&&(P.info? e).isSome)=af then
   (rZ L (zt.map .p) ps).bind λds=>match md L ds with
     |some l=>K (.p (vW P t n s l)) []
     |none=>K (.arr n s ds) [] else ae
 |_,_=>ae
theorem ZGe{t:yc}{parts:Array (Nat×ym)}{K:TD->yL ar->yO O}{out:O}(ho:o.op=.build t parts)(h:HC L P ts t parts.toList K=ab out):∃d hs,K d hs=ab out/\di L P o ts d hs:=by
 unfold HC at h;split at h
 .rename_i fs zs hu hz;obtain⟨zt,h1,h⟩:=yf.1 h;obtain⟨ps,h2,h⟩:=yf.1 h;obtain⟨h3,h⟩:=Za h;obtain⟨ds,h4,h⟩:=yf.1 h;refine⟨_,_,h,[],zZ,λyJ=> ?_⟩;simp only[yy];unfold be;rw[ho];dsimp only;rw[hu,hz];dsimp only;rw[wj h2,yW h3];have:=GX h4;rw[HB,GY h1]at this;rw[this,ZLv];rfl
 .rename_i m e n s zs hu hz;obtain⟨zt,h1,h⟩:=yf.1 h;obtain⟨ps,h2,h⟩:=yf.1 h;obtain⟨h3,h⟩:=Za h;obtain⟨ds,h4,h⟩:=yf.1 h;have:=GX h4;rw[HB,GY h1]at this;have pl:=GZ (L:=L) ds;split at h
  .rename_i l hl;refine⟨_,_,h,[],zZ,λyJ=> ?_⟩;simp only[yy];unfold be;rw[ho];dsimp only;rw[hu,hz];dsimp only;rw[wj h2,yW h3,this,Option.bind_some,pl,hl,TD.er,ZJV];rfl
  .rename_i hl;refine⟨_,_,h,[],zZ,λyJ=> ?_⟩;simp only[yy];unfold be;rw[ho];dsimp only;rw[hu,hz];dsimp only;rw[wj h2,yW h3,this,Option.bind_some,pl,hl];rfl
 .cases h
def wl(L:Lk)(P:yg)(ts:yL TD)(e:yc)(T:Ty):yL (Nat×ym)->yO (yL T.aQ)
 |[]=>ab []
 |q::r=>match (bo P ts e q.2).bind (TD.flat L) with
  |some x=>if x.pe.size=P.cellsOf e then ki (TP.to kW x T) (wl L P ts e T r) |>.map λp=>p.1::p.2 else ae
  |none=>ae
theorem ZJZ{e:yc}{T:Ty}:∀{parts:yL (Nat×ym)}{l:yL T.aQ},wl L P ts e T parts=ab l->
 ∃xs,Dv.aP (parts.map λq=>ZB P (TD.aE L ts) e q.2)=ab xs/\xs.all (λx=>x.size==P.cellsOf e)=af/\xs.map Pl.soft=l.map T.enc
 |[],l,h=>by cases h;exact⟨[],rfl,rfl,rfl⟩
 |q::r,l,h=>by
  simp only[wl]at h;split at h
  .rename_i x hx;obtain⟨d,h1,h2⟩:=yf.1 hx;split at h
   .rename_i hs;obtain⟨p,h3,rfl⟩:=Zd h;obtain⟨h4,h5⟩:=nM h3;obtain⟨xs,e1,e2,e3⟩:=ZJZ h5;refine⟨x.pe::xs, ?_, ?_, ?_⟩
    .simp only[yag,Dv.aP];rw[Zz h1,ZF8 h2,e1]
    .simp only[List.all_cons,yi,yT];exact⟨hs,e2⟩
    .rw[yag,nO x T _ h4,e3,yag]
   .cases h
  .cases h
def pg(L:Lk)(P:yg)(ts:yL TD)(t:yc)(len:Nat)(parts:yL (Nat×ym))(K:(T:Ty)->yL T.aQ->yc->yO O):yO O:=
 match P.underlying t with
 |some (.slice e)=>(gf P gX e).bind λT=>(P.info? e).bind λi=>(wl L P ts e T parts).bind λl=>
  if(parts.map (·.1)==yu len)&&(ca i&&i.size !=0&&ah (len*i.size<=16777216))&&(ah (i.size=T.size)&&ah (P.cellsOf e=i.size)) then K T l e else ae
 |_=>ae
theorem wm{t:yc}{len:Nat}{parts:yL (Nat×ym)}{K:(T:Ty)->yL T.aQ->yc->yO O}{out:O}(h:pg L P ts t len parts K=ab out):
 ∃e T l i xs,K T l e=ab out/\P.underlying t=ab (.slice e)/\P.info? e=ab i/\VR P (TD.aE L ts) e (P.cellsOf e) len parts=ab xs/\(ca i&&i.size !=0&&ah (len*i.size<=16777216))=af/\i.size=T.size/\xs.map Pl.soft=l.map T.enc:=by
 unfold pg at h;split at h
 .rename_i e hu;obtain⟨T,h1,h⟩:=yf.1 h;obtain⟨i,h2,h⟩:=yf.1 h;obtain⟨l,h3,h⟩:=yf.1 h;obtain⟨h4,h⟩:=Za h;simp only[yi,yP]at h4;obtain⟨xs,e1,e2,e3⟩:=ZJZ h3;refine⟨e,T,l,i,xs,h,hu,h2, ?_, ?_,h4.2.1,e3⟩
  .unfold VR;rw[yW h4.1.1,e1];dsimp only;rw[yW e2]
  .simp only[yi,yP];exact h4.1.2
 .cases h
def HD(L:Lk)(P:yg)(t:yc)(K:TD->yL ar->yO O)(x:TD):yO O:=
 match P.underlying t with
 |some (.slice _)=>match x with
  |.view _ _ _ _ n=>K (.p (.v (.int .i64) (n:Int))) []
  |.rv _ _ _ _ n=>K (.p (.v (.int .i64) (n:Int))) []
  |x=>(x.row L).bind λr=>K (.p (.v (.int .i64) (r.l.length:Int))) []
 |some (.array n _)=>K (.p (.v (.int .i64) (n:Int))) []
 |some .string=>match x with
  |.p x=>x.kY.bind λs=>K (.p (.v (.int .i64) (s.size:Int))) []
  |_=>ae
 |_=>ae
theorem ZLx{t:yc}{x:ym}{c:Call}{K:TD->yL ar->yO O}{xd:TD}{out:O}(ho:o.op=.call c)(hc:c.callee=.builtin .len)(ha:c.args.toList=[x])(ht:c.argTypes.toList=[t])
 (hx:bo P ts t x=ab xd) (h:HD L P t K xd=ab out):∃d hs,K d hs=ab out/\di L P o ts d hs:=by
 have hv:=Zz (L:=L) hx;unfold HD at h;split at h
 .rename_i e hu;split at h
  .refine⟨_,_,h,[],zZ,λyJ=> ?_⟩;simp only[yy];unfold be;rw[ho];dsimp only;rw[hc];dsimp only;rw[ha,ht];dsimp only;rw[hu,hv];rfl
  .refine⟨_,_,h,[],zZ,λyJ=> ?_⟩;simp only[yy];unfold be;rw[ho];dsimp only;rw[hc];dsimp only;rw[ha,ht];dsimp only;rw[hu,hv];rfl
  .obtain⟨r,h1,h⟩:=yf.1 h;refine⟨_,_,h,[],zZ,λyJ=> ?_⟩;simp only[yy];unfold be;rw[ho];dsimp only;rw[hc];dsimp only;rw[ha,ht];dsimp only;rcases mb h1 with he|⟨id,he⟩
   .rw[hu,hv,he];dsimp only;rw[yab];rfl
   .rw[hu,hv,he];dsimp only;rw[yab];rfl
 .rename_i n e hu;refine⟨_,_,h,[],zZ,λyJ=> ?_⟩;simp only[yy];unfold be;rw[ho];dsimp only;rw[hc];dsimp only;rw[ha,ht];dsimp only;rw[hu];rfl
 .rename_i hu;split at h
  .obtain⟨s,h1,h⟩:=yf.1 h;refine⟨_,_,h,[],zZ,λyJ=> ?_⟩;simp only[yy];unfold be;rw[ho];dsimp only;rw[hc];dsimp only;rw[ha,ht];dsimp only;rw[hu,hv,TD.er,ZJX h1];rfl
  .cases h
 .cases h
def mf(L:Lk)(P:yg)(T:Ty)(u:yc)(x:TD):yO (yL T.aQ):=
 match P.underlying u with
 |some (.slice _)=>(x.row L).bind λr=>Ty.bn r.t T r.l
 |some .string=>match x,T with
  |.p (.v .str s),.u8=>ab (fg s)
  |_,_=>ae
 |_=>ae
theorem ph{T:Ty}{u:yc}{x:TD}{l:yL T.aQ}(h:mf L P T u x=ab l):iO P T.size u (x.er L)=ab (l.map T.enc):=by
 unfold mf at h;split at h
 .rename_i e hu;obtain⟨r,h1,h⟩:=yf.1 h;obtain⟨e,h2⟩:=ZI h;obtain⟨nn,t,l0⟩:=r;dsimp only at e h2 h1;subst e;subst h2;unfold iO;rcases mb h1 with he|⟨id,he⟩
  .rw[hu,he];dsimp only;rw[yW (.inl rfl)]
  .rw[hu,he];dsimp only;rw[yW rfl]
 .rename_i hu;split at h
  .rename_i s;cases h;unfold iO;rw[hu];rfl
  .cases h
 .cases h
def TD.boolT:TD->yO Bool
 |.p x=>x.gZ
 |_=>ae
theorem pi{x:TD}{b:Bool}(h:x.boolT=ab b):x.er L=.p (.bool b):=by
 unfold TD.boolT at h;split at h
 .rw[TD.er,ZNa h]
 .cases h
def TD.inner:TD->yO TP
 |.p x=>ab x
 |_=>ae
def sk(P:yg)(ts:yL TD):yL ym->yO (yL TD)
 |[]=>ab []
 |x::r=>match bo P ts 0 x,sk P ts r with
  |some a,ab b=>ab (a::b)
  |_,_=>ae
theorem HE:∀{l:yL ym}{ds:yL TD},sk P ts l=ab ds->l.map (ZB P (TD.aE L ts) 0)=TD.aE L ds
 |[],ds,h=>by cases h;rfl
 |x::l,ds,h=>by
  simp only[sk]at h;split at h
  .rename_i a b h1 h2;cases h;rw[yag,Zz h1,HE h2];rfl
  .cases h
def ZRC(P:yg)(t:yc)(K:TD->yL ar->yO O):TD->yO O
 |.elem x=>if ah (P.cellsOf t=x.pe.size)&&(WS P t==x.pe.isAgg&&((P.underlying t).isSome&&(P.info? t).isSome)) then K (.p x) [] else ae
 |_=>ae
def ZRD(L:Lk)(P:yg)(ts:yL TD)(t u:yc)(x y:ym)(K:TD->yL ar->yO O):yO O:=
 match P.underlying t,bo P ts t x with
 |some (.slice e),ab (.p (.sl (ab ag) _ []))=>(P.info? e).bind λi=>(gf P gX e).bind λT=>(bo P ts u y).bind λyd=>(mf L P T u yd).bind λl=>
  if(ca i&&i.size !=0)&&(ah (P.cellsOf e=T.size)&&ah (i.size=T.size)) then if lY l.length i.bytes=af then K (.p (.sl ae T l)) [.jj] else ae else ae
 |_,_=>ae
def HF(P:yg)(t:yc)(l h m:yO Int)(K:TD->yL ar->yO O):TD->yO O
 |.rv _ _ _ _ n=>match P.underlying t with
  |some (.slice e)=>l.bind λl=>h.bind λh=>m.bind λm=>if(P.info? e).isSome=af then if(ah (0<=l)&&ah (l<=h)&&ah (h<=m)&&ah (m<=(n:Int)))=af then K .aA [] else ae else ae
  |_=>ae
 |_=>ae
theorem ZDY{t:yc}{x mx:ym}{lo hi:yO ym}{l h' m:yO Int}{K:TD->yL ar->yO O}{xd:TD}{out:O}(ho:o.op=.slice t x lo hi (ab mx))(hx:bo P ts t x=ab xd)(hl:fh P ts lo=ab l)(hh:fh P ts hi=ab h')(hm:fh P ts (ab mx)=ab m)
 (h:HF P t l h' m K xd=ab out):∃d hs,K d hs=ab out/\di L P o ts d hs:=by
 have hv:=Zz (L:=L) hx;have hl:=js (L:=L) hl;have hh:=js (L:=L) hh;have hm:=js (L:=L) hm;unfold HF at h;split at h
 .rename_i id v s l0 n;split at h
  .rename_i e hu;obtain⟨l2,q1,h⟩:=yf.1 h;obtain⟨h2,q2,h⟩:=yf.1 h;obtain⟨m2,q3,h⟩:=yf.1 h;subst q1;subst q2;subst q3;obtain⟨h3,h⟩:=Za h;obtain⟨h4,h⟩:=Za h;simp only[yi,yP]at h4;refine⟨_,_,h,[0<=l2,l2<=h2,h2<=m2,m2<=(n:Int)],⟨h4.1.1.1,h4.1.1.2,h4.1.2,h4.2,ao⟩,λyJ=> ?_⟩;simp only[yy];unfold be;rw[ho];dsimp only;rw[hu,hv,hl,hh,hm];dsimp only[TD.er];rw[yW h3]
  .cases h
 .cases h
def HG(P:yg)(t:yc)(K:TD->yL ar->yO O)(r:Row):yO O:=
 match P.underlying t with
 |some (.array n e)=>if(n !=0)=af then if ah (n<=r.l.length)=af then K (.elem (.v (.arr n r.t) (r.l.take n))) [] else ae else ae
 |_=>ae
theorem ZD0{t:yc}{x:ym}{K:TD->yL ar->yO O}{xd:TD}{r:Row}{out:O}(ho:o.op=.sliceToArrayPointer t x)(hx:bo P ts 0 x=ab xd)(hr:xd.row L=ab r)
 (h:HG P t K r=ab out):∃d hs,K d hs=ab out/\di L P o ts d hs:=by
 have hv:=Zz (L:=L) hx;unfold HG at h;split at h
 .rename_i n e hu;obtain⟨h3,h⟩:=Za h;obtain⟨h4,h⟩:=Za h;have h4:=yF h4;refine⟨_,_,h,[n<=(r.l.map r.t.enc).length],⟨by rw[yab];exact h4,ao⟩,λyJ=> ?_⟩;simp only[yy];unfold be;rw[ho];dsimp only;rcases mb hr with e2|⟨id,e2⟩
  .rw[hu,hv,e2];dsimp only;rw[yW h3, <-List.map_take];rfl
  .rw[hu,hv,e2];dsimp only;rw[yW h3, <-List.map_take];rfl
 .cases h
abbrev _root_.aSl:=yL yB
def HJ(L:Lk)(x:TD):yO aSl:=(x.row L).bind λr=>Ty.bn r.t .u8 r.l
def ZTX(L:Lk)(K:TD->yL ar->yO O)(a b:TD):yO O:=(HJ L a).bind λl=>(HJ L b).bind λm=>K (.p (.v (.int .i64) (Go.Lib.compareBytes l m))) [.el (.str (bytesOf l)),.el (.str (bytesOf m))]
theorem ZJ0{L:Lk}{x:TD}{l:yL yB}(h:HJ L x=ab l):∃nn,(x.er L).bL []=.p (.sl nn 1 (gC (bytesOf l))):=by
 obtain⟨r,h1,h2⟩:=yf.1 h;obtain⟨nn,rt,rl⟩:=r;obtain⟨e1,h2⟩:=ZI h2;dsimp only at e1 h2;subst e1;subst h2;rcases mb h1 with e2|⟨id,e2⟩
 .rw[e2];exact⟨_,rfl⟩
 .rw[e2];exact⟨_,rfl⟩
def HK:Num->yO TP
 |.u8 b=>ab (.v .u8 (255^^^b))
 |.u32 b=>ab (.v .u32 (4294967295^^^b))
 |.u64 b=>ab (.v .u64 (18446744073709551615^^^b))
 |.i _ _=>ae
theorem ZQc{a:Num}{z:TP}(h:HK a=ab z):a.k.signed=ag/\z.pe=.int a.k (bits .xor a.k a.k.max a.n):=by
 unfold HK at h;split at h
 .rename_i b;cases h;exact⟨rfl,congrArg (Pl.int .u8) (ZRB .xor 255 b).symm⟩
 .rename_i b;cases h;exact⟨rfl,congrArg (Pl.int .u32) (ZNc .xor 4294967295 b).symm⟩
 .rename_i b;cases h;exact⟨rfl,congrArg (Pl.int .u64) (ZNh .xor 18446744073709551615 b).symm⟩
 .cases h
def HL(L:Lk)(P:yg)(o:Oper)(ts:yL TD)(K:TD->yL ar->yO O):yO O:=
 match o.op with
 |.move x=>(bo P ts o.type x).bind λd=>K d [.raw]
 |.assign x=>(bo P ts o.type x).bind λd=>K d [.raw]
 |.pick c a b=>((bo P ts 0 c).bind TD.boolT).bind λt=>(bo P ts o.type a).bind λda=>(bo P ts o.type b).bind λdb=>if t=af then K da [.b af] else K db [.b ag]
 |.nilCheck x=>match bo P ts 0 x with
  |some (.am id p)=>K (.am id p) []
  |some (.elem y)=>K (.elem y) []
  |some (.aZ id v p)=>K (.aZ id v p) []
  |some (.rp id p)=>K (.rp id p) []
  |some (.fn f c)=>K (.fn f c) []
  |_=>ae
 |.binOp op t x y yt=>(bo P ts t x).bind λa=>(bo P ts yt y).bind λb=>GS L P op t a b K
 |.unOp .not _ x=>((bo P ts 0 x).bind TD.boolT).bind λt=>K (.p (.v .bool (!t))) []
 |.unOp .neg _ x=>((bo P ts 0 x).bind TD.num).bind λa=>K (.p (vT a.k (0 - a.n))) [.raw]
 |.unOp .xor _ x=>((bo P ts 0 x).bind TD.num).bind λa=>(HK a).bind λz=>K (.p z) []
 |.convert src dst x=>(bo P ts src x).bind (GW L P src dst K)
 |.makeFunc (.func f) first captured=>if(first.isEmpty&&ah (f < big))=af then(sk P ts captured.toList).bind λds=>K (.fn f ds) [] else if captured.isEmpty=af then(sk P ts first.toList).bind λds=>K (.fn (f+big) ds) [] else ae
 |.makeInterface t x=>match P.underlying t with
  |some (.interface _)=>ae
  |some _=>(bo P ts t x).bind λd=>K (.iface t d) []
  |none=>ae
 |.field t x i=>(bo P ts t x).bind (FR L P t i K)
 |.fieldAddr t x i=>(bo P ts 0 x).bind (FS P t i K)
 |.indexAddr t x ix=>(bo P ts t x).bind λa=>(bo P ts 0 ix).bind λb=>b.inner.bind λip=>(kX ip).bind λq=>FT L P t q.2 K a
 |.index t x ix=>(bo P ts t x).bind λa=>a.inner.bind λap=>(bo P ts 0 ix).bind λb=>b.inner.bind λip=>(kX ip).bind λq=>FU P t q.2 K ap
 |.slice t x lo hi ae=>(bo P ts t x).bind λa=>(fh P ts lo).bind λl=>(fh P ts hi).bind λh=>FV L P t l h K a
 |.slice t x lo hi (ab mx)=>(bo P ts t x).bind λa=>(fh P ts lo).bind λl=>(fh P ts hi).bind λh=>(fh P ts (ab mx)).bind λm=>HF P t l h m K a
 |.sliceToArrayPointer t x=>(bo P ts 0 x).bind λa=>(a.row L).bind (HG P t K)
 |.extract x i=>match bo P ts 0 x with
  |some (.bi ds)=>(ds[i]?).bind λd=>K d []
  |_=>ae
 |.load t x=>(bo P ts 0 x).bind (ZRC P t K)
 |.build t parts=>HC L P ts t parts.toList K
 |.buildSlice t len parts=>pg L P ts t len parts.toList λT l _=>K (.p (.sl (ab af) T l)) [.jj]
 |.call c=>match c.callee with
  |.builtin .len=>match c.args.toList,c.argTypes.toList with
   |[x],[t]=>(bo P ts t x).bind (HD L P t K)
   |_,_=>ae
  |.builtin .append=>match c.args.toList,c.argTypes.toList with
   |[x,y],[t,u]=>ZRD L P ts t u x y K
   |_,_=>ae
  |.value f=>match bo P ts 0 f with
   |some (.fn g [])=>if(mW P g&&c.args.size==c.argTypes.size)=af then match c.args.toList,c.argTypes.toList with
     |[x,y],[t,u]=>(bo P ts t x).bind λa=>(bo P ts u y).bind λb=>ZTX L K a b
     |_,_=>ae
    else ae
   |_=>ae
  |_=>ae
 |_=>ae
theorem Wv{x:TD}{y:TP}(h:x.inner=ab y):x=.p y:=by
 unfold TD.inner at h;split at h
 .cases h;rfl
 .cases h
theorem ZNq{K:TD->yL ar->yO O}{out:O}(h:HL L P o ts K=ab out):∃d hs,K d hs=ab out/\di L P o ts d hs:=by
 unfold HL at h;split at h
 .rename_i x ho;obtain⟨d,h1,h⟩:=yf.1 h;refine⟨_,_,h,[],zZ,λyJ=> ?_⟩;unfold be;rw[ho];dsimp only;rw[Zz h1];rfl
 .rename_i x ho;obtain⟨d,h1,h⟩:=yf.1 h;refine⟨_,_,h,[],zZ,λyJ=> ?_⟩;unfold be;rw[ho];dsimp only;rw[Zz h1];rfl
 .rename_i c a b ho;obtain⟨t,h1,h⟩:=yf.1 h;obtain⟨cd,h0,h1⟩:=yf.1 h1;obtain⟨da,h2,h⟩:=yf.1 h;obtain⟨db,h3,h⟩:=yf.1 h;split at h
  .rename_i ht;refine⟨_,_,h,[t=af],⟨ht,ao⟩,λyJ=> ?_⟩;unfold be;rw[ho];dsimp only;rw[Zz h0,pi h1,Zz h2];rfl
  .rename_i ht;refine⟨_,_,h,[t=ag],⟨by simpa using ht,ao⟩,λyJ=> ?_⟩;unfold be;rw[ho];dsimp only;rw[Zz h0,pi h1,Zz h3];rfl
 .rename_i x ho;split at h
  all_goals first|cases h;done|skip
  all_goals
   rename_i hx;refine⟨_,_,h,[],zZ,λyJ=> ?_⟩;simp only[yy];unfold be;rw[ho];dsimp only;rw[Zz hx];rfl
 .rename_i op t x y yt ho;obtain⟨a,h1,h⟩:=yf.1 h;obtain⟨b,h2,h⟩:=yf.1 h;obtain⟨d,hs,C,h3,h4,h5⟩:=ZLu h;refine⟨d,hs,h3,C,h4,λyJ=> ?_⟩;unfold be;rw[ho];dsimp only;rw[Zz h1,Zz h2];exact h5 yJ
 .rename_i t x ho;obtain⟨b,h1,h⟩:=yf.1 h;obtain⟨xd,h0,h1⟩:=yf.1 h1;refine⟨_,_,h,[],zZ,λyJ=> ?_⟩;simp only[yy];unfold be;rw[ho];dsimp only;rw[Zz h0,pi h1];rfl
 .rename_i t x ho;obtain⟨a,h1,h⟩:=yf.1 h;obtain⟨xd,h0,h1⟩:=yf.1 h1;refine⟨_,_,h,[],zZ,λyJ=> ?_⟩;unfold be;rw[ho];dsimp only;rw[Zz h0,kZ h1,TD.er,ZJT];rfl
 .rename_i t x ho;obtain⟨a,h1,h⟩:=yf.1 h;obtain⟨xd,h0,h1⟩:=yf.1 h1;obtain⟨z,h2,h⟩:=yf.1 h;obtain⟨e1,e2⟩:=ZQc h2;refine⟨_,_,h,[],zZ,λyJ=> ?_⟩;unfold be;rw[ho];dsimp only;rw[Zz h0,kZ h1,TD.er,e2];dsimp only;rw[e1];rfl
 .rename_i src dst x ho;obtain⟨a,h1,h⟩:=yf.1 h;exact ZIg ho h1 h
 .rename_i f first captured ho
  split at h
  .rename_i hf;obtain⟨ds,h1,h⟩:=yf.1 h;refine⟨_,_,h,[],zZ,λyJ=> ?_⟩;simp only[yy];unfold be;rw[ho];dsimp only;rw[yW hf,HE h1];rfl
  .rename_i hf;split at h
   .rename_i hf2;obtain⟨ds,h1,h⟩:=yf.1 h;refine⟨_,_,h,[],zZ,λyJ=> ?_⟩;simp only[yy];unfold be;rw[ho];dsimp only;rw[yX hf,yW hf2,HE h1];rfl
   .cases h
 .rename_i t x ho;split at h
  .cases h
  .rename_i u hu hne;obtain⟨d,h1,h⟩:=yf.1 h;refine⟨_,_,h,[],zZ,λyJ=> ?_⟩;simp only[yy];unfold be;rw[ho];dsimp only;rw[Zz h1,hne];split
   .rename_i ms hh;exact absurd (Option.some.inj hh) (hu ms)
   .rfl
   .rename_i hh;cases hh
  .cases h
 .rename_i t x i ho;obtain⟨a,h1,h⟩:=yf.1 h;obtain⟨d,h2,h3⟩:=Zw3 h;refine⟨_,_,h2,[],zZ,λyJ=> ?_⟩;simp only[yy];unfold be;rw[ho];dsimp only;rw[Zz h1,h3];rfl
 .rename_i t x i ho;obtain⟨a,h1,h⟩:=yf.1 h;exact ZxT ho h1 h
 .rename_i t x ix ho;obtain⟨a,h1,h⟩:=yf.1 h;obtain⟨b,h2,h⟩:=yf.1 h;obtain⟨ip,h3,h⟩:=yf.1 h;obtain⟨q,h4,h⟩:=yf.1 h;rw[Wv h3]at h2;exact ZxU (id:=.aA) ho h1 h2 h4 h
 .rename_i t x ix ho;obtain⟨a,h1,h⟩:=yf.1 h;obtain⟨ap,h5,h⟩:=yf.1 h;obtain⟨b,h2,h⟩:=yf.1 h;obtain⟨ip,h3,h⟩:=yf.1 h;obtain⟨q,h4,h⟩:=yf.1 h;rw[Wv h3]at h2;rw[Wv h5]at h1;exact ZF9 ho h1 h2 h4 h
 .rename_i t x lo hi ho;obtain⟨a,h1,h⟩:=yf.1 h;obtain⟨l,h2,h⟩:=yf.1 h;obtain⟨r,h3,h⟩:=yf.1 h;exact ZGa ho h1 h2 h3 h
 .rename_i t x lo hi mx ho;obtain⟨a,h1,h⟩:=yf.1 h;obtain⟨l,h2,h⟩:=yf.1 h;obtain⟨r,h3,h⟩:=yf.1 h;obtain⟨m,h4,h⟩:=yf.1 h;exact ZDY ho h1 h2 h3 h4 h
 .rename_i t x ho;obtain⟨a,h1,h⟩:=yf.1 h;obtain⟨r,h2,h⟩:=yf.1 h;exact ZD0 ho h1 h2 h
 .rename_i x i ho;split at h
  .rename_i ds hx;obtain⟨d,h1,h⟩:=yf.1 h;refine⟨_,_,h,[],zZ,λyJ=> ?_⟩;simp only[yy];unfold be;rw[ho];dsimp only;rw[Zz hx];dsimp only[TD.er];rw[lW h1];rfl
  .cases h
 .rename_i t x ho;obtain⟨a,h1,h⟩:=yf.1 h;unfold ZRC at h;split at h
  .obtain⟨h2,h⟩:=Za h;refine⟨_,_,h,[],zZ,λyJ=> ?_⟩;simp only[yy];unfold be;rw[ho];dsimp only;rw[Zz h1];dsimp only[TD.er];rw[yW (by simpa[and_assoc] using h2)]
  .cases h
 .rename_i t parts ho;exact ZGe ho h
 .rename_i t len parts ho;obtain⟨e,T,l,i,xs,h1,hu,hi,hl,hz,hs,hx⟩:=wm h;refine⟨_,_,h1,[],zZ,λyJ=> ?_⟩;unfold be;rw[ho];dsimp only;rw[yae,yy];dsimp only;rw[hu];dsimp only;rw[hi,hl];dsimp only;rw[yW (by simpa using hz),hx,hs];rfl
 .rename_i c ho;split at h
  .rename_i hc;split at h
   .rename_i x t ha ht;obtain⟨a,h1,h⟩:=yf.1 h;exact ZLx ho hc ha ht h1 h
   .cases h
  .rename_i hc;split at h
   .rename_i x y t u ha ht;unfold ZRD at h;split at h
    .rename_i e T0 hu hx;obtain⟨i,h1,h⟩:=yf.1 h;obtain⟨T,h2,h⟩:=yf.1 h;obtain⟨yd,h3,h⟩:=yf.1 h;obtain⟨l,h4,h⟩:=yf.1 h;obtain⟨h5,h⟩:=Za h;obtain⟨h6,h⟩:=Za h;simp only[yi,yP]at h5;obtain⟨g1,g2⟩:=lZ h6;refine⟨_,_,h,[(l.map T.enc).length*i.bytes<=Zv,(l.map T.enc).length<=maxLen],⟨by rw[yab];exact g1,by rw[yab];exact g2,ao⟩,λyJ=> ?_⟩;unfold be;rw[ho];dsimp only;rw[hc];dsimp only;rw[ha,ht,yae,yy];dsimp only;rw[hu,Zz hx,Zz h3,show(TD.p (TP.sl (ab ag) T0 [])).er L=Dv.p (.sl (ab ag) T0.size []) from rfl]
     dsimp only;rw[h1,h5.2.1,ph h4];dsimp only;rw[yW (by simpa using h5.1)];rfl
    .cases h
   .cases h
  .rename_i f hc;split at h
   .rename_i g hf;obtain⟨hk,h⟩:=Za h;split at h
    .rename_i x y t u ha ht;obtain⟨a,h1,h⟩:=yf.1 h;obtain⟨b,h2,h⟩:=yf.1 h;unfold ZTX at h;obtain⟨l,h3,h⟩:=yf.1 h;obtain⟨m,h4,h⟩:=yf.1 h;obtain⟨n1,e1⟩:=ZJ0 h3;obtain⟨n2,e2⟩:=ZJ0 h4;refine⟨_,_,h,[gC (bytesOf l)=gC (bytesOf l),gC (bytesOf m)=gC (bytesOf m)],⟨rfl,rfl,ao⟩,λyJ=> ?_⟩
     have hg:g < big:=by
      rw[yi]at hk;have hk2:=hk.1;unfold mW at hk2;rw[yi,yP]at hk2;exact hk2.1
     have e3:Z5 P [] (TD.aE L ts) c g []=[.p (.sl n1 1 (gC (bytesOf l))),.p (.sl n2 1 (gC (bytesOf m)))]:=by
      unfold Z5;rw[yW hg,ha,ht];simp only[List.zip_cons_cons,List.zip_nil_right,yag,List.map_nil,yar];rw[Zz h1,Zz h2,e1,e2]
     unfold be;rw[ho];dsimp only;rw[hc];dsimp only;rw[Zz hf,yae,yae,yy,show TD.er L (.fn g [])=Dv.fn g [] from rfl]
     dsimp only;rw[yW hk,e3];dsimp only;rw[yW ⟨rfl,rfl⟩];rfl
    .cases h
   .cases h
  .cases h
 .cases h
end
end Go.Ev
end
