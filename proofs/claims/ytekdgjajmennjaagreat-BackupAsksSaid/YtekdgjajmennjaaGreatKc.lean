/- Parts of the proof, in one file. -/
import Derived.Test.YtekdgjajmennjaaGreatKb
open Option renaming some → ab, none → ae
open Bool renaming true → af, false → ag
open Decidable renaming decide → ah
open Array renaming getElem?_toList → ybt, getElem?_eq_getElem → yco, getElem?_eq_some_iff → ycw, getD_eq_getD_getElem? → ydb
open BitVec renaming ofInt → yca
open Bool renaming and_eq_true → yi, false_eq_true → ybz, or_eq_true → ycf
open Go renaming TypeId → yc, Program → yg, Value → yh, Operand → yn, FuncId → yu
open List renaming getElem?_eq_some_iff → yo, range → yq, length_append → yr, nil_append → yv, length_map → yx, replicate → yy, cons_append → yaa, getElem?_eq_getElem → yac, map_cons → yad, length_take → yae, length_cons → yah, getElem?_append_left → yai, getElem?_map → yaj, append_assoc → yak, map_append → yal, getElem?_append_right → yam, getElem?_eq_none → yan, mem_cons_self → yao, map_map → yaq, getElem?_cons_succ → yat, length_set → yba, getElem?_cons_zero → ybb, all_eq_true → ybc, ext_getElem? → ybe, eq_nil_of_length_eq_zero → ybf, append_nil → ybg, take_append_drop → ybk, getElem?_set → ybl, mem_of_mem_take → ybv, getElem?_take → ych, take_of_length_le → ycr
open Nat renaming le_refl → ym, mod_eq_of_lt → yap, min_eq_left → yay, add_assoc → yck, lt_of_le_of_lt → ycv
open Option renaming bind_eq_some_iff → yf, map_eq_some_iff → yp, map_some → yab
open Option.some renaming injEq → yj, inj → yax
open Prod.mk renaming injEq → yl
open UInt32 renaming toNat_ofNat' → ycu
open UInt64 renaming ofNat → yaf, toNat_ofNat' → ybj, toNat_lt → ycc, toNat_inj → ycp
open UInt8 renaming ofNat → ybh
set_option linter.unusedVariables false
set_option linter.unusedSimpArgs false
section
namespace Go.Ev
theorem tZ(keep:yL Nat):∀(l:yL Dv)(k t:Nat),(ZM keep k l)[t]? =(l[t]?).map λd=>if keep.contains (k+t) then d else .ao
 |[],k,t=>by simp[ZM]
 |d::l,k,0=>by simp[ZM]
 |d::l,k,t+1=>by
  simp only[ZM,yat];rw[tZ keep l (k+1) t];simp[yck,Nat.add_comm 1 t]
theorem qe{J:Sg}{a:Act}{ts:yL Dv}(keep:yL Nat)(h:aD J ts a):aD J (ZM keep 0 ts) a:=by
 refine⟨?_,λi d hi=> ?_,h.defers⟩
 .rw[h.size]
  have:∀(l:yL Dv)(k:Nat),(ZM keep k l).length=l.length:=by
   intro l
   induction l with
   |nil=>intro k;rfl
   |cons x l ih=>intro k;simp[ZM,ih]
  exact(this ts 0).symm
 .rw[tZ]at hi;obtain⟨d',h1,h2⟩:=yp.1 hi;split at h2
  .rw[<-h2];exact h.at_ i d' h1
  .rw[<-h2];exact Xj
theorem AK(A:yL Nat)(i j:Nat):∀(es:yL Edge)(m:Nat),(es.foldl (λm e=>if Region.binds .any e&&ah (e.on < i) then m|||(1 <<< e.on)|||A.getD e.on 0 else m) m).testBit j=af->
 m.testBit j=af\/∃e,e∈es/\Region.binds .any e=af/\e.on < i/\(e.on=j\/(A.getD e.on 0).testBit j=af)
 |[],m,h=>.inl h
 |e::es,m,h=>by
  simp only[List.foldl_cons]at h;rcases AK A i j es _ h with h1|⟨e',h1,h2⟩
  .split at h1
   .rename_i hc;simp only[yi,yP]at hc;simp only[Nat.testBit_or,ycf,Nat.one_shiftLeft,Nat.testBit_two_pow,yP]at h1;rcases h1 with(h1|h1)|h1
    .exact .inl h1
    .exact .inr ⟨e,yao ..,hc.1,hc.2,.inl h1⟩
    .exact .inr ⟨e,yao ..,hc.1,hc.2,.inr h1⟩
   .exact .inl h1
  .exact .inr ⟨e',List.mem_cons_of_mem _ h1,h2⟩
section
variable{P:yg}{ops:Array Oper}
def SZ(ops:Array Oper)(X:Nat->Bool):Prop:=∀i o,ops[i]? =ab o->X i=af->∀e,e∈o.after->Region.binds .any e=af->X e.on=af
theorem TA{X:Nat->Bool}{A:yL Nat}(hX:SZ ops X)(hA:∀i o,ops[i]? =ab o->A.getD i 0=md A i o):∀(i:Nat),(∃o,ops[i]? =ab o)->X i=af->∀j,(A.getD i 0).testBit j=af->X j=af:=by
 intro i
 induction i using Nat.strongRecOn with
 |_ i ih=>
  rintro⟨o,ho⟩ hi j hj;rw[hA i o ho]at hj;unfold md at hj;rcases AK A i j _ _ hj with h|⟨e,h1,h2,h3,h4⟩
  .simp at h
  .have he:=hX i o ho hi e (by simpa using h1) h2;rcases h4 with h4|h4
   .rw[<-h4];exact he
   .have hlt:e.on < ops.size:=by
     have:=(ycw.1 ho).1;omega
    exact ih e.on h3 ⟨ops[e.on],yco hlt⟩ he j h4
def val(n:Nat)(dst:Nat->yO Tmp)(D:Nat->Dv)(ts0:yL Dv)(X:Nat->Bool)(t:Nat):Dv:=
 match (yq n).find? λj=>X j&&dst j==ab t with
 |some j=>D j
 |none=>ts0.getD t .ao
def eC(n:Nat)(dst:Nat->yO Tmp)(D:Nat->Dv)(ts0:yL Dv)(X:Nat->Bool):yL Dv:=(yq ts0.length).map (val n dst D ts0 X)
variable{n:Nat}{dst:Nat->yO Tmp}{D:Nat->Dv}{ts0:yL Dv}
theorem km(hu:∀i j,i < n->j < n->dst i≠ae->dst i=dst j->i=j){X:Nat->Bool}{t j:Nat}(hj:j < n)(hX:X j=af)(hd:dst j=ab t):val n dst D ts0 X t=D j:=by
 unfold val
 cases hf:(yq n).find? λj=>X j&&dst j==ab t with
 |none=>
  rw[List.find?_eq_none]at hf;have:=hf j (List.mem_range.2 hj)
  simp[hX,hd]at this
 |some i=>
  have h1:=List.find?_some hf;have h2:=List.mem_of_find?_eq_some hf;simp only[yi,yT]at h1;have h3:i < n:=List.mem_range.1 h2;rw[hu i j h3 hj (by rw[h1.2];simp) (by rw[h1.2,hd])]
theorem ko{X:Nat->Bool}{t:Nat}(h:∀j,j < n->X j=af->dst j≠ab t):val n dst D ts0 X t=ts0.getD t .ao:=by
 unfold val
 cases hf:(yq n).find? λj=>X j&&dst j==ab t with
 |none=>rfl
 |some i=>
  have h1:=List.find?_some hf;have h2:=List.mem_range.1 (List.mem_of_find?_eq_some hf);simp only[yi,yT]at h1;exact absurd h1.2 (h i h2 h1.1)
theorem XY{X:Nat->Bool}:(eC n dst D ts0 X).length=ts0.length:=by simp[eC]
theorem jD{X:Nat->Bool}{t:Nat}(h:t < ts0.length):(eC n dst D ts0 X)[t]? =ab (val n dst D ts0 X t):=by
 simp[eC,h]
theorem TB{X:Nat->Bool}(h:∀j,j < n->X j=ag):eC n dst D ts0 X=ts0:=by
 apply ybe;intro t;by_cases ht:t < ts0.length
 .rw[jD ht,ko (λj hj hx=>by rw[h j hj]at hx;cases hx)];simp[List.getD,ht]
 .rw[yan (by rw[XY];omega),yan (by omega)]
theorem TC(hu:∀i j,i < n->j < n->dst i≠ae->dst i=dst j->i=j){X Y:Nat->Bool}{i:Nat}(hi:i < n)(hXi:X i=ag)(hY:∀j,j < n->Y j=(X j || decide (j=i))):
 fO (eC n dst D ts0 X) (dst i) (D i)=eC n dst D ts0 Y:=by
 apply ybe;intro t;by_cases ht:t < ts0.length
 .rw[jD ht]
  have hother:dst i≠ab t->val n dst D ts0 Y t=val n dst D ts0 X t:=by
   intro hne;by_cases hex:∃j,j < n/\X j=af/\dst j=ab t
   .obtain⟨j,h1,h2,h3⟩:=hex;rw[km hu h1 h2 h3,km hu h1 (by rw[hY j h1,h2];rfl) h3]
   .rw[ko (λj h1 h2 h3=>hex ⟨j,h1,h2,h3⟩),ko (λj h1 h2 h3=> ?_)];rw[hY j h1]at h2;simp only[ycf,yP]at h2;rcases h2 with h2|h2
    .exact hex ⟨j,h1,h2,h3⟩
    .subst h2;exact hne h3
  unfold fO
  cases hd:dst i with
  |none=>
   rw[hother (by rw[hd];simp),jD ht]
  |some t'=>
   rw[ybl];by_cases htt:t'=t
   .subst htt;rw[yW rfl,yW (by rw[XY];exact ht),km hu hi (by rw[hY i hi];simp) hd]
   .rw[yX htt,jD ht,hother (by rw[hd];simpa using htt)]
 .have hl:(fO (eC n dst D ts0 X) (dst i) (D i)).length=ts0.length:=by
   unfold fO
   cases dst i with
   |none=>rw[XY]
   |some t'=>rw[yba,XY]
  rw[yan (by rw[hl];omega),yan (by rw[XY];omega)]
theorem ZHN(hu:∀i j,i < n->j < n->dst i≠ae->dst i=dst j->i=j){X Y:Nat->Bool}{keep:yL Nat}(h:∀j t,j < n->dst j=ab t->t∈keep->X j=Y j):
 ZM keep 0 (eC n dst D ts0 X)=ZM keep 0 (eC n dst D ts0 Y):=by
 apply ybe;intro t;rw[tZ,tZ];by_cases ht:t < ts0.length
 .rw[jD ht,jD ht];simp only[yab,Nat.zero_add];by_cases hk:t∈keep
  .have hkc:keep.contains t=af:=by simpa using hk
   rw[hkc];simp only[if_true];congr 1;by_cases hex:∃j,j < n/\X j=af/\dst j=ab t
   .obtain⟨j,h1,h2,h3⟩:=hex;rw[km hu h1 h2 h3,km hu h1 (by rw[<-h j t h1 h3 hk];exact h2) h3]
   .rw[ko (λj h1 h2 h3=>hex ⟨j,h1,h2,h3⟩),ko (λj h1 h2 h3=>hex ⟨j,h1,by rw[h j t h1 h3 hk];exact h2,h3⟩)]
  .have hkc:keep.contains t=ag:=by simpa using hk
   rw[hkc];rfl
 .rw[yan (by rw[XY];omega),yan (by rw[XY];omega)]
end
section
variable{P:yg}{ops:Array Oper}
theorem ua{o:Oper}{ts:yL Dv}{H H2:yL ax}{hs:yL al}{r:yL Prop×Dv×yL ax×yL al}(h:eV P o ts H hs=ab r)(hn:(aX P o ts hs).isSome=af):r.2.2.1=H/\eV P o ts H2 hs=ab (r.1,r.2.1,H2,r.2.2.2):=by
 unfold eV at h ⊢
 cases hh:aX P o ts hs with
 |none=>simp[hh]at hn
 |some q=>
  simp only[hh,yj]at h;subst h;exact⟨rfl,rfl⟩
theorem TE{o:Oper}{ts:yL Dv}{H:yL ax}{hs:yL al}{r:yL Prop×Dv×yL ax×yL al}(h:eV P o ts H hs=ab r)(hn:(aX P o ts hs).isSome=ag)(hr:(bD P o ts H hs).isSome=af):r.2.2.1=H:=by
 unfold eV at h
 cases hh:aX P o ts hs with
 |some q=>simp[hh]at hn
 |none=>
  cases hq:bD P o ts H hs with
  |none=>simp[hq]at hr
  |some q=>
   simp only[hh,hq,yj]at h;subst h;rfl
theorem ZI0{o:Oper}{ts:yL Dv}{H H2:yL ax}{hs:yL al}{C:yL Prop}{d:Dv}{H':yL ax}{hs':yL al}(h:de P ops o ts H hs=ab (C,d,H',hs'))(hc:bL P o ts H hs=0):
 H'=H/\de P ops o ts H2 hs=ab (C,d,H2,hs'):=by
 unfold de at h ⊢;unfold bL at hc
 cases hg:o.guard with
 |none=>
  simp only[hg]at h hc ⊢
  have hn:(aX P o ts hs).isSome=af:=by
   cases hh:(aX P o ts hs).isSome with
   |true=>rfl
   |false=>
    rw[hh]at hc;simp only[ybz,if_false]at hc;split at hc <;> simp at hc
  simp only[yp,yl]at h;obtain⟨⟨C1,d1,H1,hs1⟩,h1,rfl,rfl,rfl,rfl⟩:=h;obtain⟨e1,e2⟩:=ua (H2:=H2) h1 hn
  exact⟨e1,by rw[e2];rfl⟩
 |some gw=>
  obtain⟨g,want⟩:=gw;simp only[hg]at h hc ⊢;split at h
  .rename_i t β hs1 ht;dsimp only at hc;split at h
   .rename_i hb;rw[yW hb]at hc ⊢
    have hn:(aX P o ts hs1).isSome=af:=by
     cases hh:(aX P o ts hs1).isSome with
     |true=>rfl
     |false=>
      rw[hh]at hc;simp only[ybz,if_false]at hc;split at hc <;> simp at hc
    simp only[yp,yl]at h;obtain⟨⟨C1,d1,H1,hs2⟩,h1,rfl,rfl,rfl,rfl⟩:=h;obtain⟨e1,e2⟩:=ua (H2:=H2) h1 hn;exact⟨e1,by rw[e2];rfl⟩
   .rename_i hb;rw[yX hb];simp only[yj,yl]at h;obtain⟨rfl,rfl,rfl,rfl⟩:=h;exact⟨rfl,rfl⟩
  .simp only[yj,yl]at h;obtain⟨rfl,rfl,rfl,rfl⟩:=h;exact⟨rfl,rfl⟩
  .cases h
theorem ZI1{o:Oper}{ts:yL Dv}{H:yL ax}{hs:yL al}{C:yL Prop}{d:Dv}{H':yL ax}{hs':yL al}(h:de P ops o ts H hs=ab (C,d,H',hs'))(hc:bL P o ts H hs≠2):H'=H:=by
 unfold de at h;unfold bL at hc
 cases hg:o.guard with
 |none=>
  simp only[hg]at h hc;simp only[yp,yl]at h;obtain⟨⟨C1,d1,H1,hs1⟩,h1,rfl,rfl,rfl,rfl⟩:=h
  cases hn:(aX P o ts hs).isSome with
  |true=>exact(ua (H2:=[]) h1 hn).1
  |false=>
   cases hr:(bD P o ts H hs).isSome with
   |true=>exact TE h1 hn hr
   |false=>simp[hn,hr]at hc
 |some gw=>
  obtain⟨g,want⟩:=gw;simp only[hg]at h hc;split at h
  .rename_i t β hs1 ht;dsimp only at hc;split at h
   .rename_i hb;simp only[yW hb]at hc;simp only[yp,yl]at h;obtain⟨⟨C1,d1,H1,hs2⟩,h1,rfl,rfl,rfl,rfl⟩:=h
    cases hn:(aX P o ts hs1).isSome with
    |true=>exact(ua (H2:=[]) h1 hn).1
    |false=>
     cases hr:(bD P o ts H hs1).isSome with
     |true=>exact TE h1 hn hr
     |false=>simp[hn,hr]at hc
   .simp only[yj,yl]at h;obtain⟨rfl,rfl,rfl,rfl⟩:=h;rfl
  .simp only[yj,yl]at h;obtain⟨rfl,rfl,rfl,rfl⟩:=h;rfl
  .cases h
theorem ZP3{o:Oper}{ts:yL Dv}{H H2:yL ax}{hs:yL al}{C:yL Prop}{d:Dv}{H':yL ax}{hs':yL al}(h:de P ops o ts H hs=ab (C,d,H',hs'))(hc:bL P o ts H hs=1)
 (hr:∀hs,bD P o ts H2 hs=bD P o ts H hs):de P ops o ts H2 hs=ab (C,d,H2,hs'):=by
 unfold bL at hc;unfold de at h ⊢
 cases hg:o.guard with
 |none=>
  simp only[hg]at h hc ⊢
  cases hn:aX P o ts hs with
  |some q=>simp[hn]at hc
  |none=>
   cases hq:bD P o ts H hs with
   |none=>simp[hn,hq]at hc
   |some q=>
    unfold eV at h ⊢;rw[hr];simp only[hn,hq,yab,yj,yl]at h ⊢
    exact⟨h.1,h.2.1,zP,h.2.2.2⟩
 |some gw=>
  obtain⟨g,want⟩:=gw;simp only[hg]at h hc ⊢;split at h
  .rename_i t β hs1 ht;dsimp only at hc;split at h
   .rename_i hb;rw[yW hb]at hc ⊢
    cases hn:aX P o ts hs1 with
    |some q=>simp[hn]at hc
    |none=>
     cases hq:bD P o ts H hs1 with
     |none=>simp[hn,hq]at hc
     |some q=>
      unfold eV at h ⊢;rw[hr];simp only[hn,hq,yab,yj,yl]at h ⊢;exact⟨h.1,h.2.1,zP,h.2.2.2⟩
   .rename_i hb;simp[hb]at hc
  .simp at hc
  .cases h
theorem ZHO{o:Oper}{ts:yL Dv}{H:yL ax}{hs:yL al}{C:yL Prop}{d:Dv}{H':yL ax}{hs':yL al}{l:yL Nat}{i:Nat}(h:de P ops o ts H hs=ab (C,d,H',hs'))(hc:bL P o ts H hs=2)
 (ht:kc P o ts hs=ab l) (hi:i < H.length) (hl:l.contains i=ag):cL (H'[i]?)=cL (H[i]?):=by
 unfold kc at ht
 cases hg:o.guard with
 |some g=>simp[hg]at ht
 |none=>
  simp only[hg,Option.isNone_none,if_true]at ht;unfold bL at hc;unfold de at h;simp only[hg]at h hc
  cases hn:aX P o ts hs with
  |some q=>simp[hn]at hc
  |none=>
   cases hq:bD P o ts H hs with
   |some q=>simp[hn,hq]at hc
   |none=>
    simp only[yp,yl]at h;obtain⟨⟨C1,d1,H1,hs1⟩,h1,rfl,rfl,rfl,rfl⟩:=h;unfold eV at h1;simp only[hn,hq]at h1;exact SY h1 ht hi hl
theorem ZI2{g:yu}{args:yL Dv}{r:Dv}{e:ax}(h:cR P g args [] r [e])(hn:∃x,Dv.bz (aT []) args=ab x):cR P g args [.gone] r [e]:=by
 intro J vs ok hH hv;obtain⟨x,hx⟩:=hn
 have hst:∀(b o:Nat),(J.F b o\/J.B b)->J.aV b o:=λb o q=>⟨q,λid e' _ h2=>by
  rw[hH]at h2
  cases id with
  |zero=>cases h2;trivial
  |succ i=>simp at h2⟩
 have hno:∀(id:Nat)(e':ax),J.H[id]? =ab e'->e'=.gone:=λid e' h2=>by
  rw[hH]at h2
  cases id with
  |zero=>cases h2;rfl
  |succ i=>simp at h2
 let J0:Sg:={ F:=J.F,B:=J.B,m:=[],H:=[],w:=J.w};have ok0:Ok J0:=⟨rfl,λi j b h=>by simp[J0]at h,λi b h=>by simp[J0]at h,λi e a h=>by simp[J0]at h,ok.new,λi b h=>by simp[J0]at h⟩;have hz:∀id,aT [] id=ae:=λid=>by simp[aT]
 have hrn:Rn (aT []) J J0:=⟨rfl,λb o u _ q=>⟨q.1,λid e' q=>by simp[J0]at q⟩,λid id' q=>(by rw[hz]at q;cases q),λid id' q=>(by rw[hz]at q;cases q)⟩
 have hxe:x=args:=by
  have e1:=hx;rw[pZ]at e1;have e2:=bQ (f:=aT []) _ _ e1;rw[hx]at e2;exact yax e2
 have hv2:aE J0 args vs:=by
  have h1:=dC hrn _ _ _ hx hv
  rwa [hxe]at h1
 refine(h J0 vs ok0 rfl hv2).mono ?_;rintro ex w' ⟨v,τ,rfl,rfl,hτ,to,okτ,hr⟩;have okm:J.m.length=1:=by rw[ok.len,hH];rfl
 have okm2:τ.m.length=1:=by rw[okτ.len,hτ];rfl
 refine⟨v,τ,rfl,rfl,hτ,⟨⟨λb o u h1 h2=> ?_,λid b h1 h2=> ?_,λid s len A c h1=> ?_,λid b h1 h2=> ?_,λid v s st e d h1=> ?_⟩,to.F,to.B,to.os,to.tape,to.output,to.size,λb h1 _=>to.block b h1 (λid q=>by simp[J0]at q),λid b h1=> ?_, ?_⟩,okτ,hr⟩
 .exact to.leaf.cells b o u h1 ⟨h2.1,λid e q=>by simp[J0]at q⟩
 .obtain⟨d,st,h2⟩:=h2;cases hno _ _ h2
 .obtain⟨e',ys,h2,_⟩:=h1;cases hno _ _ h2
 .obtain⟨t,bw,h2⟩:=h2;cases hno _ _ h2
 .cases hno _ _ h1
 .rcases to.same id b h1 with q|q
  .simp[J0]at q
  .exact .inr q
 .rw[okm,okm2];exact ym _
theorem TF{o:Oper}{ts:yL Dv}{H H2:yL ax}{hs:yL al}{C:yL Prop}{d:Dv}{H':yL ax}{hs':yL al}(h:de P ops o ts H hs=ab (C,d,H',hs'))(hp:iv o hs H.length=af)(hl:H2.length=H.length):
 bL P o ts H hs=2/\∃E,H'=H++E/\de P ops o ts H2 hs=ab (C,d,H2++E,hs'):=by
 unfold iv at hp;rw[yi]at hp;obtain⟨hg,hp⟩:=hp;have hg:o.guard=ae:=by simpa using hg
 split at hp
 .rename_i t ho;have n1:∀hs,aX P o ts hs=ae:=λhs=>by unfold aX;rw[ho]
  have n2:∀H hs,bD P o ts H hs=ae:=λH hs=>by unfold bD;rw[ho]
  refine⟨?_, ?_⟩
  .unfold bL;rw[hg];simp[n1,n2]
  .unfold de at h ⊢;rw[hg]at h ⊢;dsimp only at h ⊢;unfold eV at h ⊢;rw[n1,n2]at h;rw[n1,n2];dsimp only at h ⊢;unfold cu at h ⊢;rw[ho]at h ⊢;dsimp only at h ⊢;rw[hl];split at h
   .split at h
    .split at h
     .simp only[yab,yj,yl]at h;obtain⟨rfl,rfl,rfl,rfl⟩:=h;rename_i hi _ _ hgh hk;refine⟨_,rfl, ?_⟩;rw[yW hk];rfl
     .cases h
    .cases h
   .cases h
 .rename_i c ho;split at hp
  .rename_i f hc;split at hp
   .rename_i r Hn ids hs0;rw[yi]at hp;have hids:ids=[]:=by simpa using hp.1
    subst hids;have hp:=hp.2;unfold mb at hp;simp only[yi,yT]at hp;have hne:Hn≠[]:=λq=>by rw[q]at hp;simp at hp
    have n1:aX P o ts (.call r Hn []::hs0)=ae:=by
     unfold aX;rw[ho];dsimp only;rw[hc];dsimp only;split
     .rename_i hh;simp only[List.cons.injEq,al.call.injEq]at hh;exact absurd hh.1.2.1 hne
     .rename_i hh;cases hh
     .rfl
    have n2:∀H,bD P o ts H (.call r Hn []::hs0)=ae:=λH=>by
     unfold bD;rw[ho];dsimp only;rw[hc];dsimp only;split
     .rename_i hh;cases hh
     .rfl
    refine⟨?_, ?_⟩
    .unfold bL;rw[hg];simp[n1,n2]
    .unfold de at h ⊢;rw[hg]at h ⊢;dsimp only at h ⊢;unfold eV at h ⊢;rw[n1,n2]at h;rw[n1,n2];dsimp only at h ⊢;unfold cu at h ⊢;rw[ho]at h ⊢;dsimp only at h ⊢;rw[hc]at h ⊢;dsimp only at h ⊢;rw[hl];split at h
     .rename_i g cap r2 H2' ids2 hs2 ha hh;simp only[List.cons.injEq,al.call.injEq]at hh;obtain⟨⟨rfl,rfl,rfl⟩,rfl⟩:=hh;split at h
      .rename_i hk;split at h
       .rename_i args' Hin r' Hb e1 e2 e3 e4;simp only[yab,yj,yl]at h;obtain⟨rfl,rfl,rfl,rfl⟩:=h;have e5:∀(X:yL ax),aJ X [] []=ab []:=λX=>rfl;rw[e5]at e2;cases e2;refine⟨Hb,by simp[ar,iu], ?_⟩;rw[yW hk,e1,e5,e3,e4];simp[ar,iu]
       .cases h
      .cases h
     .cases h
   .cases hp
  .cases hp
 .cases hp
theorem ZB1:∀{hs:yL al}{d:Dv}{n:Nat},(Ys d n hs).2.1=[]->(Ys d n hs).1=d
 |[],d,n,_=>by simp[Ys]
 |x::hs,d,n,h=>by
  cases x with
  |cb yQ s e=>
   simp only[Ys]at h ⊢;split
   .rename_i d' hg;rw[hg]at h;cases h
   .rfl
  |_=>simp[Ys]
theorem TG{J:Sg}(ok:Ok J):To J { J with m:=J.m++[ae],H:=J.H++[.gone]}/\Ok { J with m:=J.m++[ae],H:=J.H++[.gone]}:=
 Wj (J':={ J with m:=J.m++[ae],H:=J.H++[.gone]}) ok rfl rfl rfl rfl (World.grownBy.refl J.w ae) (.inl rfl) (λ_=>trivial)
mutual
theorem jE{f g:Nat->yO Nat}(hfg:∀j k,f j=ab k->g j=ab k):∀(d d':Dv),d.rn f=ab d'->d.rn g=ab d'
 |.p x,d',h=>h
 |.elem x,d',h=>h
 |.ak id off yQ,d',h=>by
  simp only[Dv.rn,yp]at h ⊢;obtain⟨i,h1,h2⟩:=h
  exact⟨i,hfg _ _ h1,h2⟩
 |.own id nn s xs,d',h=>by
  simp only[Dv.rn,yp]at h ⊢;obtain⟨i,h1,h2⟩:=h
  exact⟨i,hfg _ _ h1,h2⟩
 |.view id off yQ s lo n,d',h=>by
  simp only[Dv.rn,yp]at h ⊢;obtain⟨i,h1,h2⟩:=h
  exact⟨i,hfg _ _ h1,h2⟩
 |.mp id,d',h=>by
  simp only[Dv.rn,yp]at h ⊢;obtain⟨i,h1,h2⟩:=h
  exact⟨i,hfg _ _ h1,h2⟩
 |.rv id v s lo n,d',h=>by
  simp only[Dv.rn,yp]at h ⊢;obtain⟨i,h1,h2⟩:=h
  exact⟨i,hfg _ _ h1,h2⟩
 |.aY id v off yQ,d',h=>by
  simp only[Dv.rn,yp]at h ⊢;obtain⟨i,h1,h2⟩:=h
  exact⟨i,hfg _ _ h1,h2⟩
 |.agg xs,d',h=>by
  simp only[Dv.rn,yp]at h ⊢;obtain⟨i,h1,h2⟩:=h
  exact⟨i,dE hfg xs i h1,h2⟩
 |.arr n s xs,d',h=>by
  simp only[Dv.rn,yp]at h ⊢;obtain⟨i,h1,h2⟩:=h
  exact⟨i,dE hfg xs i h1,h2⟩
 |.fn g0 xs,d',h=>by
  simp only[Dv.rn,yp]at h ⊢;obtain⟨i,h1,h2⟩:=h
  exact⟨i,dE hfg xs i h1,h2⟩
 |.iface t x,d',h=>by
  simp only[Dv.rn,yp]at h ⊢;obtain⟨i,h1,h2⟩:=h
  exact⟨i,jE hfg x i h1,h2⟩
 |.bj xs,d',h=>by
  simp only[Dv.rn,yp]at h ⊢;obtain⟨i,h1,h2⟩:=h
  exact⟨i,dE hfg xs i h1,h2⟩
 |.ao,d',h=>h
theorem dE{f g:Nat->yO Nat}(hfg:∀j k,f j=ab k->g j=ab k):∀(d d':yL Dv),Dv.bz f d=ab d'->Dv.bz g d=ab d'
 |[],d',h=>h
 |x::r,d',h=>by
  simp only[Dv.bz]at h ⊢;split at h
  .rename_i y ys h1 h2;rw[jE hfg x y h1,dE hfg r ys h2];exact h
  .cases h
end
theorem ZI3{f g:Nat->yO Nat}(hfg:∀j k,f j=ab k->g j=ab k):∀(d d':ax),d.rn f=ab d'->d.rn g=ab d'
 |.var d st,d',h=>by
  simp only[ax.rn,yp]at h ⊢;obtain⟨i,h1,h2⟩:=h
  exact⟨i,jE hfg d i h1,h2⟩
 |.row v s st e d,d',h=>by
  simp only[ax.rn,yp]at h ⊢;obtain⟨i,h1,h2⟩:=h
  exact⟨i,jE hfg d i h1,h2⟩
 |.log _ _ _,d',h=>h
 |.map _ _,d',h=>h
 |.gone,d',h=>h
theorem mG{f g:Nat->yO Nat}(hfg:∀j k,f j=ab k->g j=ab k):∀(d d':yL ax),ax.bz f d=ab d'->ax.bz g d=ab d'
 |[],d',h=>h
 |x::r,d',h=>by
  simp only[ax.bz]at h ⊢;split at h
  .rename_i y ys h1 h2;rw[ZI3 hfg x y h1,mG hfg r ys h2];exact h
  .cases h
theorem lh(ids:yL Nat)(n:Nat):∀j k,ids[j]? =ab k->aP ids n j=ab k:=λj k h=>by
 unfold aP;rw[yW (yo.1 h).1];exact h
theorem WX{H E:yL ax}{all:yL Nat}:∀{ids:yL Nat}{Hin:yL ax},aJ H all ids=ab Hin->aJ (H++E) all ids=ab Hin/\∀id,id∈ids->id < H.length
 |[],Hin,h=>⟨h,λ_ h=>by cases h⟩
 |id::r,Hin,h=>by
  simp only[aJ]at h ⊢;split at h
  .rename_i e es h1 h2;obtain⟨k1,k2⟩:=WX (E:=E) h2;obtain⟨e0,h3,h4⟩:=yf.1 h1;have hlt:=(yo.1 h3).1;rw[yai hlt,h1,k1]
   exact⟨h,λi hi=>by
    cases hi with
    |head=>exact hlt
    |tail _ hi=>exact k2 i hi⟩
  .cases h
theorem qf{α:Type}{E:yL α}:∀{ids:yL Nat}{H Hb:yL α},Hb.length=ids.length->(∀id,id∈ids->id < H.length)->ar (H++E) ids Hb=ar H ids Hb++E/\(ar H ids Hb).length=H.length
 |[],H,Hb,hl,_=>by
  have:Hb=[]:=ybf (by simpa using hl);subst this
  simp[ar]
 |id::r,H,[],hl,_=>by simp at hl
 |id::r,H,e::Hb,hl,hi=>by
  simp only[ar];rw[List.set_append_left _ _ (hi id (yao ..))];obtain⟨h1,h2⟩:=qf (E:=E) (ids:=r) (H:=H.set id e) (Hb:=Hb) (by simpa using hl) (λi h=>by rw[yba];exact hi i (List.mem_cons_of_mem _ h));exact⟨h1,by rw[h2,yba]⟩
theorem ub{f:Nat->yO Nat}:∀{l l':yL ax},ax.bz f l=ab l'->l'.length=l.length
 |[],l',h=>by cases h;rfl
 |x::r,l',h=>by
  simp only[ax.bz]at h;split at h
  .rename_i y ys h1 h2;cases h;rw[yah,yah,ub h2]
  .cases h
theorem ZL6{o:Oper}{ts:yL Dv}{H:yL ax}{hs:yL al}{C:yL Prop}{d:Dv}{H':yL ax}{hs':yL al}(h:de P ops o ts H hs=ab (C,d,H',hs'))(hp:kb o hs=af):
 bL P o ts H hs≠1/\H'.length=H.length/\∀E,de P ops o ts (H++E) hs=ab (C,d,H'++E,hs'):=by
 unfold kb at hp;rw[yi]at hp;obtain⟨hg,hp⟩:=hp;have hg:o.guard=ae:=by simpa using hg
 have key:(∀H,bD P o ts H hs=ae)->(∀H1,cu P o ts H hs=ab (C,d,H1,hs')->H1.length=H.length/\∀E,cu P o ts (H++E) hs=ab (C,d,H1++E,hs'))->
  bL P o ts H hs≠1/\H'.length=H.length/\∀E,de P ops o ts (H++E) hs=ab (C,d,H'++E,hs'):=by
  intro n2 hE;refine⟨?_, ?_⟩
  .unfold bL;rw[hg];simp only[n2];split <;> simp
  .unfold de at h ⊢;rw[hg]at h ⊢;dsimp only at h ⊢;unfold eV at h ⊢
   cases hn:aX P o ts hs with
   |some q=>
    rw[hn]at h;simp only[yab,yj,yl]at h;obtain⟨h1,h2,rfl,h4⟩:=h;refine⟨rfl,λE=> ?_⟩;simp only[yab,yj,yl]
    exact⟨h1,h2,zP,h4⟩
   |none=>
    rw[hn,n2]at h;dsimp only at h;obtain⟨⟨C1,d1,H1,hs1⟩,h1,h2⟩:=yp.1 h;simp only[iu,ybg,yl]at h2;obtain⟨rfl,rfl,rfl,rfl⟩:=h2;obtain⟨k1,k2⟩:=hE H1 h1;refine⟨k1,λE=> ?_⟩;rw[n2];dsimp only;rw[k2 E];simp[iu]
 split at hp
 .rename_i c ho;split at hp
  .rename_i f hc;split at hp
   .rename_i r Hn ids hs0;unfold mb at hp;simp only[yi,yT,Option.isSome_iff_exists]at hp;obtain⟨⟨p1,d0,p2⟩,Hb0,p3⟩:=hp;refine key (λH=>by unfold bD;rw[ho];dsimp only;rw[hc];dsimp only;try (split <;> first|rfl|(rename_i hh;cases hh))) λH1 hE=> ?_
    unfold cu at hE;rw[ho]at hE;dsimp only at hE;rw[hc]at hE;dsimp only at hE;split at hE
    .rename_i g cap r2 H2 ids2 hs2 ha hh;simp only[List.cons.injEq,al.call.injEq]at hh;obtain⟨⟨rfl,rfl,rfl⟩,rfl⟩:=hh;split at hE
     .rename_i hk;split at hE
      .rename_i args' Hin r' Hb e1 e2 e3 e4;simp only[yj,yl]at hE;obtain⟨rfl,rfl,rfl,rfl⟩:=hE;rw[jE (lh ids H.length) _ _ p2]at e3;cases e3;rw[mG (lh ids H.length) _ _ p3]at e4;cases e4;have hlb:Hb0.length=ids.length:=by rw[ub p3,p1]
       refine⟨(qf (E:=[]) hlb (WX (E:=[]) e2).2).2,λE=> ?_⟩;unfold cu;rw[ho];dsimp only;rw[hc];dsimp only;rw[ha];dsimp only;rw[yW hk,e1,(WX (E:=E) e2).1,jE (lh ids _) _ _ p2,mG (lh ids _) _ _ p3];dsimp only;rw[(qf (E:=E) hlb (WX (E:=[]) e2).2).1]
      .cases hE
     .cases hE
    .cases hE
   .cases hp
  .rename_i rc nm hc;split at hp
   .rename_i g0 r Hn ids hs0;unfold mb at hp;simp only[yi,yT,Option.isSome_iff_exists]at hp;obtain⟨⟨p1,d0,p2⟩,Hb0,p3⟩:=hp;refine key (λH=>by unfold bD;rw[ho];dsimp only;rw[hc]) λH1 hE=> ?_;unfold cu at hE;rw[ho]at hE;dsimp only at hE;rw[hc]at hE;dsimp only at hE;split at hE
    .rename_i t x g r2 H2 ids2 hs2 ha hh;simp only[List.cons.injEq,al.call.injEq,al.gV.injEq]at hh;obtain⟨rfl,⟨rfl,rfl,rfl⟩,rfl⟩:=hh;split at hE
     .rename_i hk;split at hE
      .rename_i args' Hin r' Hb e1 e2 e3 e4;simp only[yj,yl]at hE;obtain⟨rfl,rfl,rfl,rfl⟩:=hE;rw[jE (lh ids H.length) _ _ p2]at e3;cases e3;rw[mG (lh ids H.length) _ _ p3]at e4;cases e4;have hlb:Hb0.length=ids.length:=by rw[ub p3,p1]
       refine⟨(qf (E:=[]) hlb (WX (E:=[]) e2).2).2,λE=> ?_⟩;unfold cu;rw[ho];dsimp only;rw[hc];dsimp only;rw[ha];dsimp only;rw[yW hk,e1,(WX (E:=E) e2).1,jE (lh ids _) _ _ p2,mG (lh ids _) _ _ p3];dsimp only;rw[(qf (E:=E) hlb (WX (E:=[]) e2).2).1]
      .cases hE
     .cases hE
    .cases hE
   .cases hp
  .cases hp
 .cases hp
theorem ZI4{J:Sg}{a:Act}{o:Oper}{ts:yL Dv}{H E:yL ax}{hs:yL al}{C:yL Prop}{d:Dv}{H':yL ax}{hs':yL al}(ok:Ok J)(yM:aD J ts a)(h:de P ops o ts H hs=ab (C,d,H',hs'))(hAC:bc C)(hp:iv o hs H.length=af)
 (hl:H'.length=H.length+1) (hJ:J.H=H++.gone::E) (K:Act->World->Prop) (Q:Exit->Act->World->Prop)
 (hK:∀v J',J'.H=H'++E->To J J'->Ok J'->aD J' (fO ts o.dst d) (a.put o.dst v)->K (a.put o.dst v) J'.w):
 if Region.wanted o (yielded ops a.tmps) then o.wp P a J.w K Q else K (a.put o.dst undef) J.w:=by
 unfold iv at hp;rw[yi]at hp;obtain⟨hg,hp⟩:=hp;have hg:o.guard=ae:=by simpa using hg
 have hw:Region.wanted o (yielded ops a.tmps)=af:=by simp[Region.wanted,hg]
 rw[yW hw];split at hp
 .rename_i t ho;have n1:∀hs,aX P o ts hs=ae:=λhs=>by unfold aX;rw[ho]
  have n2:∀H hs,bD P o ts H hs=ae:=λH hs=>by unfold bD;rw[ho]
  unfold de at h;rw[hg]at h;dsimp only at h;unfold eV at h;rw[n1,n2]at h;dsimp only at h;unfold cu at h;rw[ho]at h;dsimp only at h;split at h
  .rename_i i hi;split at h
   .split at h
    .rename_i hk;simp only[yab,yj,yl]at h;obtain⟨rfl,rfl,rfl,rfl⟩:=h;rw[yr,yah]at hl;have he:(Ys (YP P t) (H.length+1) hs).2.1=[]:=ybf (by omega);have hd:=ZB1 he;rw[he,hd]at hK;simp only[yi]at hk;obtain⟨z,hzz,_⟩:=Qy hk.1.1;have hid:J.H[H.length]? =ab .gone:=by rw[hJ,yam (ym _),Nat.sub_self];rfl
     have h1:=ZEb (P:=P) (o:=o) (a:=a) ok hid ho hi (by rw[hzz];rfl) hk.1.2 hk.2;refine h1 K Q λv J' e1 to ok' hv=>hK v J' ?_ to ok' (mF (yM.to to.leaf) hv);rw[e1,hJ,List.set_append_right _ _ (ym _),Nat.sub_self];simp
    .cases h
   .cases h
  .cases h
 .rename_i c ho;split at hp
  .rename_i f hc;split at hp
   .rename_i r Hn ids hs0;rw[yi]at hp;have hids:ids=[]:=by simpa using hp.1
    subst hids;have hp:=hp.2;unfold mb at hp;simp only[yi,yT,Option.isSome_iff_exists]at hp;obtain⟨⟨p1,r0,p2⟩,Hb0,p3⟩:=hp;have hne:Hn≠[]:=λq=>by rw[q]at p1;simp at p1
    obtain⟨e0,rfl⟩:∃e0,Hn=[e0]:=by
     cases Hn with
     |nil=>exact absurd rfl hne
     |cons x q=>cases q with
      |nil=>exact⟨x,rfl⟩
      |cons _ _=>simp at p1
    have n1:aX P o ts (.call r [e0] []::hs0)=ae:=by
     unfold aX;rw[ho];dsimp only;rw[hc];dsimp only;split
     .rename_i hh;simp only[List.cons.injEq,al.call.injEq]at hh;exact absurd hh.1.2.1 hne
     .rename_i hh;cases hh
     .rfl
    have n2:∀H,bD P o ts H (.call r [e0] []::hs0)=ae:=λH=>by
     unfold bD;rw[ho];dsimp only;rw[hc];dsimp only;split
     .rename_i hh;cases hh
     .rfl
    unfold de at h;rw[hg]at h;dsimp only at h;unfold eV at h;rw[n1,n2]at h;dsimp only at h;unfold cu at h;rw[ho]at h;dsimp only at h;rw[hc]at h;dsimp only at h;split at h
    .rename_i g cap r2 H2' ids2 hs2 ha hh;simp only[List.cons.injEq,al.call.injEq]at hh;obtain⟨⟨rfl,rfl,rfl⟩,rfl⟩:=hh;split at h
     .rename_i hk;split at h
      .rename_i args' Hin r' Hb e1 e2 e3 e4;simp only[yab,yj,yl]at h;obtain⟨rfl,rfl,rfl,rfl⟩:=h;have e5:aJ H [] []=ab []:=rfl;rw[e5]at e2;cases e2;simp only[yi,yT,yP]at hk
       have hm:∀(m:Nat)(j k:Nat),[H.length][j]? =ab k->aP [] H.length j=ab k:=λm j k q=>by
        cases j with
        |zero=>cases q;simp[aP]
        |succ j=>simp at q
       have hm2:∀(m:Nat)(j k:Nat),[H.length][j]? =ab k->aP [H.length] m j=ab k:=λm j k q=>by
        cases j with
        |zero=>cases q;simp[aP]
        |succ j=>simp at q
       have f1:=jE (hm 0) _ _ p2;rw[f1]at e3;cases e3;have f2:=mG (hm 0) _ _ p3;rw[f2]at e4;cases e4;have hlb:Hb0.length=1:=by rw[ub p3];rfl
       obtain⟨b0,rfl⟩:∃b0,Hb0=[b0]:=by
        cases Hb0 with
        |nil=>simp at hlb
        |cons x q=>cases q with
         |nil=>exact⟨x,rfl⟩
         |cons _ _=>simp at hlb
       obtain⟨fs,cs,hfe,hav⟩:=ZL2 (P:=P) yM (c:=c) [] ha hk.1.1.2;have hid:J.H[H.length]? =ab .gone:=by rw[hJ,yam (ym _),Nat.sub_self];rfl
       have e7:=e1;rw[pZ]at e7;have e8:=bQ (f:=aT []) _ _ e7;rw[e1]at e8;cases e8;have e6:=bQ (f:=aT [H.length]) _ _ e7
       have hin:aJ J.H [H.length] [H.length]=ab [.gone]:=by
        simp[aJ,hid,ax.rn]
       have hx:=zz (P:=P) (o:=o) (a:=a) J.w ho hc hfe hk.1.1.1
       have h1:=zA (P:=P) (o:=o) (a:=a) (ids:=[H.length]) (Hin:=[.gone]) (H':=[e0]) (Hb:=[b0]) ok hx hav rfl (ym _) e6 hin (jE (hm2 J.H.length) _ _ p2) (mG (hm2 J.H.length) _ _ p3)
        (ZI2 hAC.1 ⟨_,e1⟩)
       refine h1 K Q λv J' e1 to ok' hv=>hK v J' ?_ to ok' (mF (yM.to to.leaf) hv);rw[e1,hJ];simp[ar,List.set_append_right]
      .cases h
     .cases h
    .cases h
   .cases hp
  .cases hp
 .cases hp
theorem ZI5{o:Oper}{ts:yL Dv}{H:yL ax}{hs:yL al}:bL P o ts H hs<=2:=by
 unfold bL
 repeat' split
 all_goals omega
end
def jF(ts:yL Dv)(l:yL (yO Tmp×Dv)):yL Dv:=l.foldl (λts q=>fO ts q.1 q.2) ts
section
variable{P:yg}{ops:Array Oper}
theorem TH:∀(l:yL Oper)(ts:yL Dv)(H:yL ax)(hs:yL al)(C:yL Prop)(rs:yL Rec)(ts':yL Dv)(H':yL ax)(hs':yL al),mc P ops l ts H hs=ab (C,rs,ts',H',hs')->bc C->
 rs.length=l.length/\ts'=jF ts ((l.zip rs).map λq=>(q.1.dst,q.2.d))/\(l=[]->H'=H)/\
 ∀(i:Nat)(o:Oper),l[i]? =ab o->∃r,rs[i]? =ab r/\bc r.C/\de P ops o (ZM (looks ops o) 0 (jF ts (((l.zip rs).take i).map λq=>(q.1.dst,q.2.d)))) r.H r.hs=ab (r.C,r.d,r.H',r.hs')/\
  r.bF=bL P o (ZM (looks ops o) 0 (jF ts (((l.zip rs).take i).map λq=>(q.1.dst,q.2.d)))) r.H r.hs/\
  (r.rd=pG P o (ZM (looks ops o) 0 (jF ts (((l.zip rs).take i).map λq=>(q.1.dst,q.2.d))))/\r.tc=kc P o (ZM (looks ops o) 0 (jF ts (((l.zip rs).take i).map λq=>(q.1.dst,q.2.d)))) r.hs/\r.push=iv o r.hs r.H.length/\r.loc=kb o r.hs/\r.ex=jw o)/\(i=0->r.H=H)/\(∀r2,rs[i+1]? =ab r2->r2.H=r.H')/\(i+1=l.length->H'=r.H')
 |[],ts,H,hs,C,rs,ts',H',hs',h,hc=>by
  simp only[mc,yj,yl]at h;obtain⟨rfl,rfl,rfl,rfl,rfl⟩:=h
  exact⟨rfl,rfl,λ_=>rfl,λi o hi=>by simp at hi⟩
 |o::l,ts,H,hs,C,rs,ts',H',hs',h,hc=>by
  simp only[mc]at h;split at h
  .rename_i C1 d1 H1 hs1 h1;split at h
   .rename_i C2 rs2 ts2 H2 hs2 h2;simp only[yj,yl]at h;obtain⟨rfl,rfl,rfl,rfl,rfl⟩:=h;obtain⟨c1,c2⟩:=Zk.1 hc;obtain⟨k1,k2,k3,k4⟩:=TH l _ _ _ _ _ _ _ _ h2 c2;refine⟨by simp[k1],by rw[k2];rfl,by simp,λi o' hi=> ?_⟩
    cases i with
    |zero=>
     simp only[ybb,yj]at hi;subst hi;refine⟨_,rfl,c1,h1,rfl,⟨rfl,rfl,rfl,rfl,rfl⟩,λ_=>rfl,λr2 hr2=> ?_,λhl=> ?_⟩
     .simp only[yat]at hr2
      cases l with
      |nil=>
       have:rs2=[]:=ybf (by simpa using k1);subst this
       simp at hr2
      |cons o2 l2=>
       obtain⟨r,j1,_,_,_,_,j2,_⟩:=k4 0 o2 rfl;rw[hr2]at j1;cases j1;exact j2 rfl
     .have:l=[]:=ybf (by simpa using hl.symm)
      exact k3 this
    |succ i=>
     simp only[yat]at hi;obtain⟨r,j1,j2,j3,j4,j45,j5,j6,j7⟩:=k4 i o' hi;refine⟨r,by simpa using j1,j2,j3,j4,j45,λh0=>by omega,λr2 hr2=>j6 r2 (by simpa using hr2),λhl=>j7 (by simpa using hl)⟩
   .cases h
  .cases h
theorem ZHP(ts:yL Dv)(l:yL (yO Tmp×Dv))(q:yO Tmp×Dv):jF ts (l++[q])=fO (jF ts l) q.1 q.2:=by simp[jF]
def hU(X:Nat->Bool):Nat->Nat
 |0=>0
 |k+1=>hU X k+(if X k then 0 else 1)
theorem TI{X:Nat->Bool}:∀{k:Nat},hU X k=0->∀j,j < k->X j=af
 |0,_,j,h=>by omega
 |k+1,h,j,hj=>by
  simp only[hU]at h;by_cases hk:j=k
  .subst hk
   cases hx:X j with
   |true=>rfl
   |false=>simp[hx]at h
  .exact TI (k:=k) (by omega) j (by omega)
theorem TJ{X:Nat->Bool}:∀{k:Nat},hU X k<=k
 |0=>ym _
 |k+1=>by
  have:=TJ (X:=X) (k:=k);simp only[hU];split <;> omega
theorem TK{X Y:Nat->Bool}:∀{k:Nat},(∀j,j < k->Y j=X j)->hU Y k=hU X k
 |0,_=>rfl
 |k+1,h=>by
  simp only[hU];rw[TK (k:=k) (λj hj=>h j (by omega)),h k (by omega)]
theorem TL{X Y:Nat->Bool}{i:Nat}(hi:X i=ag):∀{k:Nat},i < k->(∀j,j < k->Y j=(X j || decide (j=i)))->hU Y k+1=hU X k
 |0,h,_=>by omega
 |k+1,h,hY=>by
  simp only[hU];by_cases hk:i=k
  .subst hk
   rw[TK (X:=X) (Y:=Y) (λj hj=>by
    rw[hY j (by omega)];have:¬j=i:=by omega
    simp[this]),hY i (by omega),hi]
   simp
  .have:=TL hi (k:=k) (by omega) (λj hj=>hY j (by omega));have hne:¬k=i:=λh=>hk h.symm;rw[hY k (by omega)];simp only[hne,decide_false,Bool.or_false];omega
theorem TM:∀(l:yL Oper)(i:Nat),pH l i=af->∀(j:Nat)(o:Oper),l[j]? =ab o->∀e,e∈o.after->Region.binds .any e=af->e.on < i+j
 |[],i,_,j,o,ho,_,_,_=>by simp at ho
 |o::l,i,h,j,o',ho,e,he,hb=>by
  simp only[pH,yi,ybc]at h
  cases j with
  |zero=>
   simp only[ybb,yj]at ho;subst ho;have:=h.1 e (by simpa using he)
   simpa[hb] using this
  |succ j=>
   simp only[yat]at ho;have:=TM l (i+1) h.2 j o' ho e he hb;omega
theorem TN(keep:yL Nat):∀(l:yL Dv)(k:Nat),(ZM keep k l).length=l.length
 |[],k=>rfl
 |x::l,k=>by simp[ZM,TN keep l]
theorem ZOh{J:Sg}{a:Act}{ts ms:yL Dv}{dst:yO Tmp}{d:Dv}{v:yh}(hl:ms.length=ts.length)(h1:aD J ts a)(h2:aD J (fO ms dst d) (a.put dst v)):aD J (fO ts dst d) (a.put dst v):=by
 unfold fO Act.put at*
 cases dst with
 |none=>exact h1
 |some t=>
  refine⟨by simpa using h1.size,λi e hi=> ?_,h1.defers⟩;by_cases hit:t=i
  .subst hit;refine h2.at_ t e ?_;simp only[ybl]at hi ⊢;rw[hl];exact hi
  .rw[ybl,yX hit]at hi;have:=h1.at_ i e hi;simpa[ydb,Array.getElem?_setIfInBounds,hit] using this
theorem Zzk{J:Sg}{a:Act}{ts:yL Dv}{hs hs':yL al}{C:yL Prop}{ts':yL Dv}{H':yL ax}{id:Nat}(ok:Ok J)(yM:aD J ts a)(h:tx P ops ts J.H hs=ab (C,ts',H',hs'))(hc:bc C)
 (Q:Exit->Act->World->Prop) (hQ:∀a' J',J'.H=H'->To J J'->Ok J'->aD J' ts' a'->Q .normal a' J'.w):(Code.region id ops af).wp P Q a J.w:=by
 unfold tx at h;split at h
 .rename_i hm;split at h
  .rename_i C1 rs ts1 H1 hs1 hev;split at h
   .rename_i hdr;simp only[yj,yl]at h;obtain⟨rfl,rfl,rfl,rfl⟩:=h;obtain⟨zW,hts',hnil,zZ⟩:=TH _ _ _ _ _ _ _ _ _ hev hc;let n:=ops.size;let dst:Nat->yO Tmp:=λi=>hT ops.toList i;let D:Nat->Dv:=λi=>((rs[i]?).map (·.d)).getD .ao;let bF:Nat->Nat:=λi=>(rs.map (·.bF)).getD i 0;let A:yL Nat:=xY ops.toList;have hn:ops.toList.length=n:=by simp[n]
    have hrl:rs.length=n:=by rw[zW,hn]
    unfold tw at hdr;simp only[yi]at hdr;obtain⟨⟨⟨⟨⟨_,hback⟩,hanc⟩,huniq⟩,hlook⟩,kI⟩:=hdr;have hopl:∀(i:Nat),ops.toList[i]? =ops[i]? :=λi=>by simp
    have hA:∀i o,ops[i]? =ab o->A.getD i 0=md A i o:=by
     intro i o ho;have hi:i < n:=(ycw.1 ho).1;have:=ybc.1 hanc i (List.mem_range.2 (by rw[hn];exact hi));rw[hopl,ho]at this;simpa using this
    have hu:∀i j,i < n->j < n->dst i≠ae->dst i=dst j->i=j:=by
     intro i j hi hj h1 h2;have:=ybc.1 (ybc.1 huniq i (List.mem_range.2 (by rw[hn];exact hi))) j (List.mem_range.2 (by rw[hn];exact hj));simp only[ycf,yT,Bool.not_eq_true',beq_eq_false_iff_ne,ne_eq]at this;rcases this with(h3|h3)|h3
     .exact h3
     .exact absurd h3 h1
     .exact absurd h2 h3
    have hL:∀i o j t,ops[i]? =ab o->j < n->dst j=ab t->t∈looks ops o->i≠j->(if j < i then(A.getD i 0).testBit j else(A.getD j 0).testBit i)=af:=by
     intro i o j t ho hj hd ht hne;have hi:i < n:=(ycw.1 ho).1;have h1:=ybc.1 hlook i (List.mem_range.2 (by rw[hn];exact hi));rw[hopl,ho]at h1;have h2:=ybc.1 h1 j (List.mem_range.2 (by rw[hn];exact hj));have hd':hT ops.toList j=ab t:=hd;rw[hd']at h2;have hk:(looks ops o).contains t=af:=by simpa using ht
     simp only[hk,ycf,yT,Bool.not_true,Bool.or_false]at h2;rcases h2 with h2|h2
     .exact absurd h2 hne
     .exact h2
    obtain⟨c0,_,kI⟩:=List.any_eq_true.1 kI
    have hE0:∀i j,i < n->j < n->bF i≠0->bF j=2->i≠j->(if j < i then(A.getD i 0).testBit j else(A.getD j 0).testBit i)=af\/(bF i=1/\kX rs i j=af)\/jx rs c0 i j=af:=by
     intro i j hi hj h1 h2 hne;have h3:=ybc.1 kI i (List.mem_range.2 (by rw[hn];exact hi));simp only[ycf,yT]at h3;rcases h3 with h3|h3
     .exact absurd h3 h1
     .have h4:=ybc.1 h3 j (List.mem_range.2 (by rw[hn];exact hj));have h2':(List.map (λx=>x.bF) rs).getD j 0=2:=h2;rw[h2']at h4;simp only[ycf,yi,yT,beq_self_eq_true,Bool.not_true]at h4;rcases h4 with((h4|h4)|h4)|h4
      .exfalso;rcases h4 with h4|h4
       .exact hne h4
       .cases h4
      .exact .inl h4
      .exact .inr (.inl h4)
      .exact .inr (.inr h4)
    have hTS:∀i,i<=n->jF ts (((ops.toList.zip rs).take i).map λq=>(q.1.dst,q.2.d))=eC n dst D ts (λj=>ah (j < i)):=by
     intro i
     induction i with
     |zero=>
      intro _;rw[TB (λj _=>by simp)]
      simp[jF]
     |succ i ih=>
      intro hi;have h1:i < ops.toList.length:=by rw[hn];omega
      have h2:i < rs.length:=by rw[hrl];omega
      have hz:(ops.toList.zip rs)[i]? =ab (ops.toList[i],rs[i]):=by
       rw[List.getElem?_zip_eq_some];exact⟨yac h1,yac h2⟩
      rw[List.take_add_one,hz];simp only[Option.toList_some,yal,yad,List.map_nil];rw[ZHP,ih (by omega)];have hd:ops.toList[i].dst=dst i:=by show _=hT ops.toList i;unfold hT;rw[yac h1];rfl
      have hD:rs[i].d=D i:=by simp[D,yac h2]
      rw[hd,hD]
      exact TC hu (by omega) (by simp) (λj _=>by
       by_cases hj:j < i <;> by_cases hj2:j=i <;> simp[hj,hj2] <;> omega)
    have hspec':∀(i:Nat)(o:Oper),ops[i]? =ab o->∃r,rs[i]? =ab r/\bc r.C/\de P ops o (ZM (looks ops o) 0 (eC n dst D ts (λj=>ah (j < i)))) r.H r.hs=ab (r.C,r.d,r.H',r.hs')/\
     r.bF=bL P o (ZM (looks ops o) 0 (eC n dst D ts (λj=>ah (j < i)))) r.H r.hs/\
     (r.rd=pG P o (ZM (looks ops o) 0 (eC n dst D ts (λj=>ah (j < i))))/\r.tc=kc P o (ZM (looks ops o) 0 (eC n dst D ts (λj=>ah (j < i)))) r.hs/\r.push=iv o r.hs r.H.length/\r.loc=kb o r.hs/\r.ex=jw o)/\(i=0->r.H=J.H)/\(∀r2,rs[i+1]? =ab r2->r2.H=r.H')/\(i+1=n->H1=r.H'):=by
     intro i o ho;have hi:i < n:=(ycw.1 ho).1;obtain⟨r,k1,k2,k3,k4,k45,k5,k6,k7⟩:=zZ i o (by rw[hopl];exact ho);rw[hTS i (by omega)]at k3 k4 k45;exact⟨r,k1,k2,k3,k4,k45,k5,k6,λhl=>k7 (by rw[hn];exact hl)⟩
    let HH:Nat->yL ax:=λi=>if i < n then((rs[i]?).map (·.H)).getD [] else H1
    have hHH:∀i r,rs[i]? =ab r->HH i=r.H/\HH (i+1)=r.H':=by
     intro i r hr;have hi:i < n:=by rw[<-hrl];exact(yo.1 hr).1
     have hio:ops[i]? =ab ops[i]:=yco hi;obtain⟨r',k1,_,_,_,_,_,k6,k7⟩:=hspec' i _ hio;rw[hr]at k1;cases k1;refine⟨by simp[HH,hi,hr], ?_⟩;by_cases h2:i+1 < n
     .have h3:i+1 < rs.length:=by rw[hrl];exact h2
      have h4:=yac h3;simp only[HH,h2,if_true,h4,yab,Option.getD_some];exact k6 _ h4
     .simp only[HH,h2,if_false];exact k7 (by omega)
    have hcl:∀i r,rs[i]? =ab r->bF i=r.bF:=by
     intro i r hr;simp[bF,List.getD,hr]
    have hstay:∀i,i < n->bF i≠2->HH (i+1)=HH i:=by
     intro i hi h2;have hio:ops[i]? =ab ops[i]:=yco hi;obtain⟨r,k1,_,k3,k4,_⟩:=hspec' i _ hio;rw[(hHH i r k1).1,(hHH i r k1).2];exact ZI1 k3 (by rw[<-k4, <-hcl i r k1];exact h2)
    have hlev:∀(i k:Nat),i+k<=n->(∀e,i<=e->e < i+k->bF e≠2)->HH (i+k)=HH i:=by
     intro i k
     induction k with
     |zero=>intro _ _;rfl
     |succ k ih=>
      intro hk he;rw[<-yck,hstay (i+k) (by omega) (he _ (by omega) (by omega)),ih (by omega) (λe h1 h2=>he e h1 (by omega))]
    let Lev:(Nat->Bool)->Nat->Prop:=λX i=>i<=n/\∀e,e < n->bF e=2->(X e=af↔e < i)
    have hsameLev:∀(X:Nat->Bool)(i k:Nat),Lev X i->Lev X k->HH i=HH k:=by
     have main:∀(X:Nat->Bool)(i k:Nat),i<=k->Lev X i->Lev X k->HH i=HH k:=by
      intro X i k hik h1 h2
      have:=hlev i (k - i) (by have:=h2.1;omega) (λe he1 he2 hce=>by
       have hen:e < n:=by have:=h2.1;omega
       have h3:=(h1.2 e hen hce);have h4:=(h2.2 e hen hce);have:X e=af:=h4.2 (by omega);have:=h3.1 this;omega)
      rw[<-this];congr 1;omega
     intro X i k h1 h2;rcases Nat.le_total i k with h3|h3
     .exact main X i k h3 h1 h2
     .exact(main X k i h3 h2 h1).symm
    have hcle:∀i,i < n->bF i<=2:=by
     intro i hi;obtain⟨r,k1,_,k3,k4,_⟩:=hspec' i _ (yco hi);rw[hcl i r k1,k4];exact ZI5
    have hpsh:∀i r,rs[i]? =ab r->r.push=af->bF i=2/\∃E,HH (i+1)=HH i++E/\∀o,ops[i]? =ab o->∀H2,H2.length=(HH i).length->de P ops o (ZM (looks ops o) 0 (eC n dst D ts (λj=>ah (j < i)))) H2 r.hs=ab (r.C,r.d,H2++E,r.hs'):=by
     intro i r hr hp;have hi:i < n:=by rw[<-hrl];exact(yo.1 hr).1
     have hio:ops[i]? =ab ops[i]:=yco hi;obtain⟨r',k1,_,k3,k4,k45,_⟩:=hspec' i _ hio;rw[hr]at k1;cases k1;rw[k45.2.2.1]at hp;obtain⟨q1,E,q2,_⟩:=TF (H2:=r.H) k3 hp rfl;refine⟨by rw[hcl i r hr,k4,q1],E,by rw[(hHH i r hr).1,(hHH i r hr).2,q2],λo ho H2 hl=> ?_⟩;rw[hio]at ho;cases ho;obtain⟨_,E2,q3,q4⟩:=TF (H2:=H2) k3 hp (by rw[hl,(hHH i r hr).1]);rw[q2]at q3;rw[List.append_cancel_left q3];exact q4
    have hlocc:∀i r,rs[i]? =ab r->r.loc=af->bF i≠1/\(HH (i+1)).length=(HH i).length/\∀o,ops[i]? =ab o->∀E,de P ops o (ZM (looks ops o) 0 (eC n dst D ts (λj=>ah (j < i)))) (HH i++E) r.hs=ab (r.C,r.d,HH (i+1)++E,r.hs'):=by
     intro i r hr hp;have hi:i < n:=by rw[<-hrl];exact(yo.1 hr).1
     have hio:ops[i]? =ab ops[i]:=yco hi;obtain⟨r',k1,_,k3,k4,k45,_⟩:=hspec' i _ hio;rw[hr]at k1;cases k1;rw[k45.2.2.2.1]at hp;obtain⟨q1,q2,q3⟩:=ZL6 k3 hp;refine⟨by rw[hcl i r hr,k4];exact q1,by rw[(hHH i r hr).1,(hHH i r hr).2,q2],λo ho E=> ?_⟩;rw[hio]at ho;cases ho;rw[(hHH i r hr).1,(hHH i r hr).2];exact q3 E
    let Psh:Nat->Prop:=λi=>∃r,rs[i]? =ab r/\r.push=af;let Loc:Nat->Prop:=λi=>∃r,rs[i]? =ab r/\r.loc=af;let Pu:Nat->Prop:=λi=>∃r,rs[i]? =ab r/\r.push=af/\r.H'.length=r.H.length+1/\∀k q,k < i->rs[k]? =ab q->q.H.length<=r.H.length
    have hcomm:∀i j,jx rs c0 i j=af->(Loc c0\/Pu c0)/\((i=c0/\c0 < j/\Psh j)\/(j=c0/\c0 < i/\Psh i)):=by
     intro i j h
     have hget:∀(f:Rec->Bool)(k:Nat),((rs[k]?).map f).getD ag=af->∃r,rs[k]? =ab r/\f r=af:=by
      intro f k hk
      cases hr:rs[k]? with
      |none=>rw[hr]at hk;cases hk
      |some r=>rw[hr]at hk;exact⟨r,rfl,hk⟩
     unfold jx at h;simp only[yi,ycf,yT,yP]at h;obtain⟨h1,h2⟩:=h;refine⟨?_, ?_⟩
     .obtain⟨r,q1,q2⟩:=hget _ _ h1;unfold tq at q2;simp only[ycf,yi,yT,ybc,yP]at q2;rcases q2 with q2|⟨⟨q2,q3⟩,q4⟩
      .exact .inl ⟨r,q1,q2⟩
      .refine .inr ⟨r,q1,q2,q3,λk q hk hq=>q4 q ?_⟩;rw[List.mem_iff_getElem?];exact⟨k,by rw[ych,yW hk];exact hq⟩
     rcases h2 with⟨⟨h3,h4⟩,h5⟩|⟨⟨h3,h4⟩,h5⟩
     .exact .inl ⟨h3,h4,hget _ _ h5⟩
     .exact .inr ⟨h3,h4,hget _ _ h5⟩
    let CG:yL ax->Prop:=λG=>(Loc c0/\G=[])\/(Pu c0/\G=[.gone])
    have hGl:∀G,CG G->(HH (c0+1)).length=(HH c0).length+G.length:=by
     rintro G (⟨⟨r,q1,q2⟩,rfl⟩|⟨⟨r,q1,_,q2,_⟩,rfl⟩)
     .rw[(hlocc c0 r q1 q2).2.1];rfl
     .rw[(hHH c0 r q1).1,(hHH c0 r q1).2,q2];rfl
    let Hole:(Nat->Bool)->yL ax->Prop:=λX Hc=>∃lv e0 E G,c0 < n/\CG G/\bF c0=2/\lv<=n/\X c0=ag/\(∀e,e < n->bF e=2->(X e=af↔e < lv/\e≠c0))/\(c0 < e0/\e0 < lv/\bF e0=2/\HH e0=HH (c0+1))/\
     (∀e,c0 < e->e < lv->bF e=2->Psh e)/\Hc=HH c0++(G++E)/\HH lv=HH (c0+1)++E
    let Inv:(Nat->Bool)->yL ax->Prop:=λX Hc=>(∃i,Lev X i/\Hc=HH i)\/Hole X Hc;refine wp_region_any hm ?_
    have walk:∀(yD:Nat)(listed:Array Bool)(a:Act)(J1:Sg),listed.size=n->hU (λj=>listed.getD j ag) n<=yD->SZ ops (λj=>listed.getD j ag)->To J J1->Ok J1->
     aD J1 (eC n dst D ts (λj=>listed.getD j ag)) a->Inv (λj=>listed.getD j ag) J1.H->wpAny P .any ops Q yD listed a J1.w:=by
     intro yD
     induction yD with
     |zero=>
      intro listed a J1 hsz hun hcl1 to1 ok1 hrep1 hlv;have zU:=TI (Nat.le_zero.1 hun);refine⟨?_, ?_⟩
      .apply List.eq_nil_iff_forall_not_mem.2;intro j hj;obtain⟨h1,o,ho,_⟩:=mem_ready.1 hj;have hjn:j < n:=(ycw.1 ho).1;have h2:=zU j hjn;have hjs:j < listed.size:=by omega
       simp only[Array.getD,hjs,dif_pos]at h1 h2;rw[h1]at h2;cases h2
      .rcases hlv with⟨i,hi,hH⟩|⟨lv,e0,E,G,g1,_,_,_,g2,_⟩
       case inr=>exact absurd ((zU c0 g1).symm.trans g2) (by simp)
       have hln:Lev (λj=>listed.getD j ag) n:=⟨ym _,λe he _=>⟨λ_=>he,λ_=>zU e he⟩⟩;refine hQ a J1 ?_ to1 ok1 ?_
       .rw[hH,hsameLev _ i n hi hln];simp[HH]
       .have:ts1=eC n dst D ts (λj=>listed.getD j ag):=by
         have e1:=hTS n (ym _);rw[ycr (by rw[List.length_zip,hn,hrl];simp)]at e1;rw[hts',e1];apply ybe;intro t;by_cases ht:t < ts.length
         .rw[jD ht,jD ht];congr 1;by_cases hex:∃j,j < n/\dst j=ab t
          .obtain⟨j,h1,h2⟩:=hex;rw[km hu h1 (by simpa using h1) h2,km hu h1 (zU j h1) h2]
          .rw[ko (λj h1 _ h3=>hex ⟨j,h1,h3⟩),ko (λj h1 _ h3=>hex ⟨j,h1,h3⟩)]
         .rw[yan (by rw[XY];omega),yan (by rw[XY];omega)]
        rw[this]
        exact hrep1
     |succ yD ih=>
      intro listed a J1 hsz hun hcl1 to1 ok1 hrep1 hlv;refine⟨λhr=> ?_,λi hi=> ?_⟩
      . 
       have zU:∀j,j < n->listed.getD j ag=af:=by
        intro j
        induction j using Nat.strongRecOn with
        |_ j ihj=>
         intro hj
         cases hx:listed.getD j ag with
         |true=>rfl
         |false=>
          have hjs:j < listed.size:=by omega
          have hjo:ops[j]? =ab ops[j]:=yco hj
          have:j∈Region.ready .any ops listed:=by
           refine mem_ready.2 ⟨?_,ops[j],hjo,λe he hb=> ?_⟩
           .simp only[Array.getD,hjs,dif_pos]at hx ⊢;exact hx
           .have hlt:=TM ops.toList 0 hback j ops[j] (by rw[hopl];exact hjo) e he hb;exact ihj e.on (by omega) (by omega)
          rw[hr]at this;cases this
       rcases hlv with⟨i,hi,hH⟩|⟨lv,e0,E,G,g1,_,_,_,g2,_⟩
       case inr=>exact absurd ((zU c0 g1).symm.trans g2) (by simp)
       have hln:Lev (λj=>listed.getD j ag) n:=⟨ym _,λe he _=>⟨λ_=>he,λ_=>zU e he⟩⟩;refine hQ a J1 ?_ to1 ok1 ?_
       .rw[hH,hsameLev _ i n hi hln];simp[HH]
       .have:ts1=eC n dst D ts (λj=>listed.getD j ag):=by
         have e1:=hTS n (ym _);rw[ycr (by rw[List.length_zip,hn,hrl];simp)]at e1;rw[hts',e1];apply ybe;intro t;by_cases ht:t < ts.length
         .rw[jD ht,jD ht];congr 1;by_cases hex:∃j,j < n/\dst j=ab t
          .obtain⟨j,h1,h2⟩:=hex;rw[km hu h1 (by simpa using h1) h2,km hu h1 (zU j h1) h2]
          .rw[ko (λj h1 _ h3=>hex ⟨j,h1,h3⟩),ko (λj h1 _ h3=>hex ⟨j,h1,h3⟩)]
         .rw[yan (by rw[XY];omega),yan (by rw[XY];omega)]
        rw[this];exact hrep1
      . 
       obtain⟨h1,o,ho,hedge⟩:=mem_ready.1 hi;have hin:i < n:=(ycw.1 ho).1;have fL:i < listed.size:=by omega
       let X:Nat->Bool:=λj=>listed.getD j ag
       have hXi:X i=ag:=by
        simp only[X,Array.getD,fL,dif_pos]at h1 ⊢;exact h1
       have hancL:∀j,(A.getD i 0).testBit j=af->X j=af:=by
        intro j hj;rw[hA i o ho]at hj;unfold md at hj;rcases AK A i j _ _ hj with h|⟨e,e1,e2,e3,e4⟩
        .simp at h
        .have he:=hedge e (by simpa using e1) e2;rcases e4 with e4|e4
         .rw[<-e4];exact he
         .exact TA hcl1 hA e.on ⟨ops[e.on],yco (by omega)⟩ he j e4
       have hancR:∀j,j < n->X j=af->(A.getD j 0).testBit i=af->False:=by
        intro j hj hx hb;have:=TA hcl1 hA j ⟨ops[j],yco hj⟩ hx i hb;have hXi':(listed.getD i ag)=ag:=hXi;rw[hXi']at this;cases this
       obtain⟨r,k1,k2,k3,k4,k45,_,_,_⟩:=hspec' i o ho
       have hmask:ZM (looks ops o) 0 (eC n dst D ts X)=ZM (looks ops o) 0 (eC n dst D ts (λj=>ah (j < i))):=by
        refine ZHN hu (λj t hj hd ht=> ?_);by_cases hij:i=j
        .subst hij;rw[hXi];simp
        .have:=hL i o j t ho hj hd ht hij;split at this
         .rename_i hlt;rw[hancL j this];simp[hlt]
         .rename_i hge
          have hxf:X j=ag:=by
           cases hx:X j with
           |false=>rfl
           |true=>exact(hancR j hj hx this).elim
          rw[hxf];simp[hge]
       have hXi2:X i=ag:=hXi
       have hgetset:∀j,(listed.setIfInBounds i af).getD j ag=(X j || decide (j=i)):=by
        intro j;by_cases hji:j=i
        .subst hji;simp[Array.getD,fL]
        .simp only[X,ydb,Array.getElem?_setIfInBounds,hji,decide_false,Bool.or_false];rw[yX (λh=>hji h.symm)]
       have hord:∀e,e < n->bF i≠0->bF e=2->i≠e->¬(bF i=1/\kX rs i e=af)->¬jx rs c0 i e=af->(X e=af↔e < i):=by
        intro e he h0 hce hie hf hcm;rcases hE0 i e hin he h0 hce hie with h3|h3|h3
        .split at h3
         .rename_i hlt;exact⟨λ_=>hlt,λ_=>hancL e h3⟩
         .rename_i hge;exact⟨λhx=>(hancR e he hx h3).elim,λh=>absurd h hge⟩
        .exact absurd h3 hf
        .exact absurd h3 hcm
       have hkeep:bF i≠2->Inv (λj=>(listed.setIfInBounds i af).getD j ag) J1.H:=by
        intro h2
        have hX':∀e,bF e=2->((listed.setIfInBounds i af).getD e ag=af↔X e=af):=by
         intro e hce
         have hne:¬e=i:=by
          rintro rfl;exact h2 hce
         rw[hgetset e];simp only[hne,decide_false,Bool.or_false]
        rcases hlv with⟨lv,hlv1,hlv2⟩|⟨lv,e0,E,G,g1,g2,g3,g4,g5,g6,g7,g8,g9,g10⟩
        .exact .inl ⟨lv,⟨hlv1.1,λe he hce=>(hX' e hce).trans (hlv1.2 e he hce)⟩,hlv2⟩
        .refine .inr ⟨lv,e0,E,G,g1,g2,g3,g4, ?_,λe he hce=>(hX' e hce).trans (g6 e he hce),g7,g8,g9,g10⟩;have:=hX' c0 g3;show(listed.setIfInBounds i af).getD c0 ag=ag
         cases hx:(listed.setIfInBounds i af).getD c0 ag with
         |false=>rfl
         |true=>
          have h9:=this.1 hx;have g5':X c0=ag:=g5;rw[g5']at h9;cases h9
       let SO:yL ax->Prop:=λH2=>∀K:Act->World->Prop,(∀v J2,J2.H=H2->To J1 J2->Ok J2->aD J2 (fO (ZM (looks ops o) 0 (eC n dst D ts X)) o.dst r.d) (a.put o.dst v)->K (a.put o.dst v) J2.w)->
        if Region.wanted o (yielded ops a.tmps) then o.wp P a J1.w K Q else K (a.put o.dst undef) J1.w
       have soE:∀H2,de P ops o (ZM (looks ops o) 0 (eC n dst D ts (λj=>ah (j < i)))) J1.H r.hs=ab (r.C,r.d,H2,r.hs')->SO H2:=λH2 h K hK=>by
        rw[<-hmask]at h;exact tY (P:=P) (ops:=ops) ok1 (qe (looks ops o) hrep1) h k2 K Q hK
       have soG:∀G H2,(G=[]\/G=[.gone])->de P ops o (ZM (looks ops o) 0 (eC n dst D ts (λj=>ah (j < i)))) (J1.H++G) r.hs=ab (r.C,r.d,H2,r.hs')->SO H2:=λG H2 hG h=>by
        rcases hG with rfl|rfl
        .rw[ybg]at h;exact soE H2 h
        .intro K hK;rw[<-hmask]at h;obtain⟨t1,o1⟩:=TG ok1;exact tY (P:=P) (ops:=ops) (J:={ J1 with m:=J1.m++[ae],H:=J1.H++[.gone]}) o1 ((qe (looks ops o) hrep1).to t1.leaf) h k2 K Q λv J2 e1 to2 ok2 hr2=>hK v J2 e1 (t1.trans to2) ok2 hr2
       have hnow:∃H2,SO H2/\Inv (λj=>(listed.setIfInBounds i af).getD j ag) H2:=by
        by_cases h0:bF i=0
        .obtain⟨e1,e2⟩:=ZI0 (H2:=J1.H) k3 (by rw[<-k4, <-hcl i r k1];exact h0);exact⟨J1.H,soE _ e2,hkeep (by omega)⟩
        by_cases h01:bF i=1
        .have hkc:bL P o (ZM (looks ops o) 0 (eC n dst D ts (λj=>ah (j < i)))) r.H r.hs=1:=by rw[<-k4, <-hcl i r k1];exact h01
         have hnc:∀e,¬jx rs c0 i e=af:=by
          intro e hcm;obtain⟨q0,q3|q3⟩:=hcomm i e hcm
          .obtain⟨rfl,_⟩:=q3;rcases q0 with⟨rc,q1,q2⟩|⟨rc,q1,q2,_⟩
           .exact(hlocc _ rc q1 q2).1 h01
           .have:=(hpsh _ rc q1 q2).1;omega
          .obtain⟨_,_,rp,q4,q5⟩:=q3;have:=(hpsh i rp q4 q5).1;omega
         have hdis:∀e,e < n->bF e=2->¬(X e=af↔e < i)->kX rs i e=af:=by
          intro e he hce hx;by_cases hf:kX rs i e=af
          .exact hf
          .exact absurd (hord e he h0 hce (by rintro rfl;omega) (λh=>hf h.2) (hnc e)) hx
         have hfr:∀k,k < n->kX rs i k=af->True/\∃id,r.rd=ab id/\id < (HH k).length/\id < (HH i).length/\(bF k=2->fz o ((HH (k+1))[id]?)=fz o ((HH k)[id]?)):=by
          intro k hk hf;have hko:ops[k]? =ab ops[k]:=yco hk;obtain⟨q,g1,_,g3,g4,g45,_⟩:=hspec' k _ hko;unfold kX at hf;rw[k1,g1]at hf;dsimp only at hf;split at hf
          .rename_i id e1;simp only[yi,yP]at hf;have hrd:=k45.1;rw[e1]at hrd;unfold pG at hrd
           .refine⟨zP,id,e1,by rw[(hHH k q g1).1];exact hf.1.1,by rw[(hHH i r k1).1];exact hf.1.2,λhck=> ?_⟩;rw[(hHH k q g1).1,(hHH k q g1).2];have hf2:=hf.2;rw[k45.2.2.2.2]at hf2;unfold fz;by_cases hex:jw o=af
            .rw[yW hex]at hf2;rw[yW hex,yW hex];obtain⟨_,E,p3,_⟩:=hpsh k q g1 hf2;rw[(hHH k q g1).1,(hHH k q g1).2]at p3;rw[p3,yai hf.1.1]
            .rw[yX hex]at hf2;rw[yX hex,yX hex];rw[ycf]at hf2;rcases hf2 with hf2|hf2
             .split at hf2
              .rename_i l e2;exact ZHO g3 (by rw[<-g4, <-hcl k q g1];exact hck) (by rw[<-g45.2.1,e2]) hf.1.1 (by simpa using hf2)
              .cases hf2
             .exact@of_decide_eq_true _ (Classical.propDecidable _) hf2
          .cases hf
         have hchain:∀(id k a:Nat),a+k<=n->(∀e,a<=e->e < a+k->bF e=2->fz o ((HH (e+1))[id]?)=fz o ((HH e)[id]?))->fz o ((HH (a+k))[id]?)=fz o ((HH a)[id]?):=by
          intro id k a
          induction k with
          |zero=>intro _ _;rfl
          |succ k ihk=>
           intro hk he;rw[<-yck, <-ihk (by omega) (λe h1 h2=>he e h1 (by omega))];by_cases h2:bF (a+k)=2
           .exact he (a+k) (by omega) (by omega) h2
           .rw[hstay (a+k) (by omega) h2]
         have hreads:∀id,r.rd=ab id->nP P o (ZM (looks ops o) 0 (eC n dst D ts (λj=>ah (j < i))))=ab id:=by
          intro id e1;have hrd:=k45.1;rw[e1]at hrd;exact hrd.symm
         have hfin:True->∀id,r.rd=ab id->fz o ((HH i)[id]?)=fz o (J1.H[id]?)->∃H2,SO H2/\Inv (λj=>(listed.setIfInBounds i af).getD j ag) H2:=by
          intro hg id e1 e2;rw[(hHH i r k1).1]at e2;exact⟨J1.H,soE _ (ZP3 k3 hkc (λ_=>ZOg (hreads id e1) e2)),hkeep (by omega)⟩
         rcases hlv with⟨lv,hlv1,hlv2⟩|⟨lv,e0,E,G,g1,g2,g3,g4,g5,g6,g7,g8,g9,g10⟩
         .by_cases hsame:Lev X i
          .have hHi:J1.H=r.H:=by
            rw[hlv2,hsameLev X lv i hlv1 hsame,(hHH i r k1).1]
           have hr':r.H'=r.H:=by
            have:=hstay i hin (by omega);rw[(hHH i r k1).1,(hHH i r k1).2]at this;exact this
           refine⟨J1.H,soE _ (by rw[hHi,k3,hr']),hkeep (by omega)⟩
          .have hex:∃e,e < n/\bF e=2/\¬(X e=af↔e < i):=by
            refine Classical.byContradiction λhno=>hsame ⟨by omega,λe he hce=> ?_⟩;exact Classical.byContradiction λh=>hno ⟨e,he,hce,h⟩
           obtain⟨e1,he1,hce1,hx1⟩:=hex;obtain⟨hg,id,hid,_⟩:=hfr e1 he1 (hdis e1 he1 hce1 hx1);refine hfin hg id hid ?_;have hln:=hlv1.1
           have hst:∀e,e < n->bF e=2->¬(X e=af↔e < i)->fz o ((HH (e+1))[id]?)=fz o ((HH e)[id]?):=by
            intro e he hce hx;obtain⟨_,id',hid',_,_,h5⟩:=hfr e he (hdis e he hce hx);rw[hid]at hid';cases hid';exact h5 hce
           rw[hlv2];rcases Nat.le_total lv i with hle|hle
           .have:=hchain id (i - lv) lv (by omega) (λe h1 h2 h3=>hst e (by omega) h3 (λhx=>by
             have h4:=(hlv1.2 e (by omega) h3).1 (hx.2 (by omega));omega))
            rw[show lv+(i - lv)=i by omega]at this;exact this
           .have:=hchain id (lv - i) i (by omega) (λe h1 h2 h3=>hst e (by omega) h3 (λhx=>by
             have h4:=hx.1 ((hlv1.2 e (by omega) h3).2 (by omega));omega))
            rw[show i+(lv - i)=lv by omega]at this;exact this.symm
         . 
          have hic:¬i=c0:=by
           rintro rfl;omega
          obtain⟨ge1,ge2,ge3,ge4⟩:=g7;have hclen:=hGl G g2;have hxe0:X e0=af:=(g6 e0 (by omega) ge3).2 ⟨ge2,by omega⟩;have hxc0:X c0=ag:=g5
          have hid:True/\∃id,r.rd=ab id/\id < (HH c0).length:=by
           by_cases hlt:c0 < i
           .obtain⟨hg,id,q1,q2,_⟩:=hfr c0 g1 (hdis c0 g1 g3 (λhx=>by
             rw[hxc0]at hx;have:=hx.2 hlt;cases this))
            exact⟨hg,id,q1,q2⟩
           .obtain⟨hg,id,q1,q2,q20,_⟩:=hfr e0 (by omega) (hdis e0 (by omega) ge3 (λhx=>by
             have:=hx.1 hxe0;omega))
            refine⟨hg,id,q1, ?_⟩;rcases g2 with⟨_,rfl⟩|⟨⟨rc,p1,_,_,p4⟩,rfl⟩
            .rw[ge4,hclen]at q2;exact q2
            .have:=p4 i r (by omega) k1;rw[(hHH i r k1).1]at q20;rw[(hHH c0 rc p1).1];omega
          obtain⟨hg,id,hid,hidl⟩:=hid;refine hfin hg id hid ?_
          have hst:∀e,e < n->bF e=2->¬(X e=af↔e < i)->fz o ((HH (e+1))[id]?)=fz o ((HH e)[id]?):=by
           intro e he hce hx;obtain⟨_,id',hid',_,_,h5⟩:=hfr e he (hdis e he hce hx);rw[hid]at hid';cases hid';exact h5 hce
          rw[g9,yai hidl];by_cases hlt:c0 < i
          . 
           have hc1:fz o ((HH (c0+1))[id]?)=fz o ((HH c0)[id]?):=hst c0 g1 g3 (λhx=>by
            rw[hxc0]at hx;have:=hx.2 hlt;cases this)
           have hup:∀k,c0+1+k<=lv->id < (HH (c0+1+k)).length/\fz o ((HH (c0+1+k))[id]?)=fz o ((HH (c0+1))[id]?):=by
            intro k
            induction k with
            |zero=>intro _;exact⟨by rw[Nat.add_zero,hclen];omega,rfl⟩
            |succ k ihk=>
             intro hk;obtain⟨j1,j2⟩:=ihk (by omega);rw[<-yck];by_cases h2:bF (c0+1+k)=2
             .obtain⟨rp,p1,p2⟩:=g8 (c0+1+k) (by omega) (by omega) h2;obtain⟨_,E2,p3,_⟩:=hpsh _ rp p1 p2;rw[p3,yai j1];exact⟨by rw[yr];omega,j2⟩
             .rw[hstay (c0+1+k) (by omega) h2];exact⟨j1,j2⟩
           rcases Nat.le_total i lv with hle|hle
           .have:=(hup (i - (c0+1)) (by omega)).2;rw[show c0+1+(i - (c0+1))=i by omega]at this;rw[this,hc1]
           .have h6:=(hup (lv - (c0+1)) (by omega)).2;rw[show c0+1+(lv - (c0+1))=lv by omega]at h6
            have:=hchain id (i - lv) lv (by omega) (λe h1 h2 h3=>hst e (by omega) h3 (λhx=>by
             have h4:=(g6 e (by omega) h3).1 (hx.2 (by omega));omega))
            rw[show lv+(i - lv)=i by omega]at this;rw[this,h6,hc1]
          .have:=hchain id (c0 - i) i (by omega) (λe h1 h2 h3=>hst e (by omega) h3 (λhx=>by
            have h4:=hx.1 ((g6 e (by omega) h3).2 ⟨by omega,by omega⟩);omega))
           rw[show i+(c0 - i)=c0 by omega]at this;exact this.symm
        have h2:bF i=2:=by
         have:=hcle i hin;omega
        have hord2:∀e,e < n->bF e=2->i≠e->¬jx rs c0 i e=af->(X e=af↔e < i):=λe he hce hie hcm=>hord e he h0 hce hie (λh=>h01 h.1) hcm
        have hset:∀e,((listed.setIfInBounds i af).getD e ag=af↔(X e=af\/e=i)):=by
         intro e;rw[hgetset e];simp
        by_cases hall2:∀e,e < n->bF e=2->(X e=af↔e < i)
        . 
         have hli:Lev X i:=⟨by omega,hall2⟩
         have hHi:J1.H=r.H:=by
          rcases hlv with⟨lv,hlv1,hlv2⟩|⟨lv,e0,E,G,g1,g2,g3,g4,g5,g6,g7,g8,g9,g10⟩
          .rw[hlv2,hsameLev X lv i hlv1 hli,(hHH i r k1).1]
          .exfalso;obtain⟨ge1,ge2,ge3,ge4⟩:=g7;have q1:=(hall2 e0 (by omega) ge3).1 ((g6 e0 (by omega) ge3).2 ⟨ge2,by omega⟩);have q2:=(hall2 c0 g1 g3).2 (by omega);have g5':X c0=ag:=g5;rw[g5']at q2;cases q2
         rw[<-hHi]at k3;refine⟨r.H',soE _ k3,.inl ⟨i+1,⟨by omega,λe he hce=> ?_⟩,((hHH i r k1).2).symm⟩⟩;refine(hset e).trans ?_;rw[hall2 e he hce];omega
        . 
         have hex:∃e,e < n/\bF e=2/\i≠e/\¬(X e=af↔e < i):=by
          refine Classical.byContradiction λhno=>hall2 λe he hce=> ?_;by_cases hie:i=e
          .subst hie;rw[hXi2];simp
          .exact Classical.byContradiction λh=>hno ⟨e,he,hce,hie,h⟩
         obtain⟨e1,he1,hce1,hie1,hx1⟩:=hex;have hcm1:jx rs c0 i e1=af:=Classical.byContradiction λh=>hx1 (hord2 e1 he1 hce1 hie1 h);obtain⟨hLP,hcases⟩:=hcomm i e1 hcm1;rcases hcases with⟨hic,hlt1,hpe1⟩|⟨hec,hlt1,hpi⟩
         . 
          subst hic
          have hxe1:X e1=af:=by
           cases hx:X e1 with
           |true=>rfl
           |false=>
            exfalso;apply hx1;rw[hx];exact⟨λh=>(by cases h),λh=>(by omega)⟩
          rcases hlv with⟨lv,hlv1,hlv2⟩|⟨lv,e0,E,G,g1,g2,g3,g4,g5,g6,g7,g8,g9,g10⟩
          .exfalso;have q1:=(hlv1.2 e1 he1 hce1).1 hxe1;have q2:=(hlv1.2 i hin h2).2 (by omega);have hXi3:X i=ag:=hXi;have q2':X i=af:=q2;rw[hXi3]at q2';cases q2'
          .have hso:SO (HH (i+1)++E):=by
            rcases g2 with⟨⟨rc,hrc,hrcl⟩,rfl⟩|⟨⟨rc,hrc,hrp,hrl,_⟩,rfl⟩
            .rw[hrc]at k1;cases k1;obtain⟨_,_,hcev⟩:=hlocc i r hrc hrcl;exact soE _ (by rw[g9];exact hcev o ho E)
            .rw[hrc]at k1;cases k1;intro K hK;have hp:iv o r.hs r.H.length=af:=by rw[<-k45.2.2.1];exact hrp
             rw[<-hmask]at k3;refine ZI4 (P:=P) (ops:=ops) (E:=E) ok1 (qe (looks ops o) hrep1) k3 k2 hp hrl (by rw[g9,(hHH i r hrc).1];rfl) K Q λv J2 e1 to2 ok2 hr2=>hK v J2 (by rw[e1,(hHH i r hrc).2]) to2 ok2 hr2
           refine⟨HH (i+1)++E,hso,.inl ⟨lv,⟨g4,λe he hce=> ?_⟩,g10.symm⟩⟩;refine(hset e).trans ?_;have q:=g6 e he hce;obtain⟨ge1,ge2,_⟩:=g7;constructor
           .rintro(q1|q1)
            .exact(q.1 q1).1
            .omega
           .intro q1;by_cases hei:e=i
            .exact .inr hei
            .exact .inl (q.2 ⟨q1,hei⟩)
         . 
          subst hec
          have hxc:X e1=ag:=by
           cases hx:X e1 with
           |false=>rfl
           |true=>
            exfalso;apply hx1;rw[hx];exact⟨λ_=>hlt1,λ_=>rfl⟩
          have hoth:∀e,e < n->bF e=2->e≠e1->(X e=af↔e < i):=by
           intro e he hce hne;by_cases hie:i=e
           .subst hie;rw[hXi2];simp
           .refine hord2 e he hce hie λhcm=> ?_;obtain⟨_,q|q⟩:=hcomm i e hcm
            .omega
            .exact hne q.1
          obtain⟨rp,hrp,hrpp⟩:=hpi;obtain⟨_,Ei,hpE,hpev⟩:=hpsh i rp hrp hrpp
          have hexG:∃G,CG G/\(G=[]\/G=[.gone]):=by
           rcases hLP with h|h
           .exact⟨[],.inl ⟨h,rfl⟩,.inl rfl⟩
           .exact⟨[.gone],.inr ⟨h,rfl⟩,.inr rfl⟩
          rw[hrp]at k1;cases k1;rcases hlv with⟨lv,hlv1,hlv2⟩|⟨lv,e0,E,G,g1,g2,g3,g4,g5,g6,g7,g8,g9,g10⟩
          .have hlc:Lev X e1:=⟨by omega,λe he hce=>by
            by_cases hne:e=e1
            .subst hne;rw[hxc];simp
            .rw[hoth e he hce hne];constructor
             .intro q;have q1:=(hlv1.2 e he hce).1 ((hoth e he hce hne).2 q)
              have q2:¬e1 < lv:=λq3=>by
               have q9:X e1=af:=(hlv1.2 e1 he1 hce1).2 q3;rw[hxc]at q9;cases q9
              omega
             .intro q;omega⟩
           have hmid:∀e,e1 < e->e < i->bF e≠2:=by
            intro e q1 q2 hce;have q3:=(hoth e (by omega) hce (by omega)).2 q2;have q4:=(hlc.2 e (by omega) hce).1 q3;omega
           have hHi:HH i=HH (e1+1):=by
            have:=hlev (e1+1) (i - (e1+1)) (by omega) (λe q1 q2=>hmid e (by omega) (by omega));rw[show e1+1+(i - (e1+1))=i by omega]at this;exact this
           have hH1:J1.H=HH e1:=by rw[hlv2,hsameLev X lv e1 hlv1 hlc]
           obtain⟨G,hCG,hG2⟩:=hexG;have hclen:=hGl G hCG
           have hso:SO (HH e1++(G++Ei)):=soG G _ hG2 (by
            rw[<-yak,hH1];exact hpev o ho (HH e1++G) (by rw[hHi,hclen,yr]))
           refine⟨HH e1++(G++Ei),hso,.inr ⟨i+1,i,Ei,G,he1,hCG,hce1,by omega, ?_,λe he hce=> ?_,⟨hlt1,by omega,h2,hHi⟩,λe q1 q2 q3=> ?_,rfl,by rw[hpE,hHi]⟩⟩
           .show(listed.setIfInBounds i af).getD e1 ag=ag
            cases hx:(listed.setIfInBounds i af).getD e1 ag with
            |false=>rfl
            |true=>
             rcases (hset e1).1 hx with q|q
             .rw[hxc]at q;cases q
             .omega
           .refine(hset e).trans ?_;by_cases hne:e=e1
            .subst hne;rw[hxc];constructor
             .rintro(q|q)
              .cases q
              .omega
             .rintro⟨_,q⟩;exact absurd rfl q
            .rw[hoth e he hce hne];omega
           .by_cases hei:e=i
            .subst hei;exact⟨_,hrp,hrpp⟩
            .exact absurd q3 (hmid e q1 (by omega))
          .obtain⟨ge1,ge2,ge3,ge4⟩:=g7
           have hlvi:lv<=i:=by
            rcases Nat.lt_or_ge i lv with q|q
            .exfalso;have:=(g6 i hin h2).2 ⟨q,by omega⟩;have hXi3:X i=ag:=hXi;have q2':X i=af:=this;rw[hXi3]at q2';cases q2'
            .exact q
           have hHi:HH i=HH lv:=by
            have:=hlev lv (i - lv) (by omega) (λe q1 q2 hce=>by
             have q3:=(hoth e (by omega) hce (by omega)).2 (by omega);have q4:=(g6 e (by omega) hce).1 q3;omega)
            rw[show lv+(i - lv)=i by omega]at this;exact this
           have hclen:=hGl G g2;have hso:SO (J1.H++Ei):=soE _ (hpev o ho J1.H (by rw[hHi,g10,g9,yr,yr,yr,hclen];omega));refine⟨J1.H++Ei,hso,.inr ⟨i+1,e0,E++Ei,G,he1,g2,hce1,by omega, ?_,λe he hce=> ?_,⟨ge1,by omega,ge3,ge4⟩,λe q1 q2 q3=> ?_,by rw[g9,yak,yak],by rw[hpE,hHi,g10,yak]⟩⟩
           .show(listed.setIfInBounds i af).getD e1 ag=ag
            cases hx:(listed.setIfInBounds i af).getD e1 ag with
            |false=>rfl
            |true=>
             rcases (hset e1).1 hx with q|q
             .rw[hxc]at q;cases q
             .omega
           .refine(hset e).trans ?_;by_cases hne:e=e1
            .subst hne;rw[hxc];constructor
             .rintro(q|q)
              .cases q
              .omega
             .rintro⟨_,q⟩;exact absurd rfl q
            .rw[hoth e he hce hne];omega
           .by_cases hei:e=i
            .subst hei;exact⟨_,hrp,hrpp⟩
            .have q4:=(hoth e (by omega) q3 (by omega)).2 (by omega);have q5:=(g6 e (by omega) q3).1 q4;exact g8 e q1 q5.1 q3
       obtain⟨H2,hso2,hinv⟩:=hnow
       have key:=hso2 (wpAny P .any ops Q yD (listed.setIfInBounds i af)) (λv J2 e1 to2 ok2 hrep2=>by
        have hgetset:∀j,(listed.setIfInBounds i af).getD j ag=(X j || decide (j=i)):=by
         intro j;by_cases hji:j=i
         .subst hji;simp[Array.getD,fL]
         .simp only[X,ydb,Array.getElem?_setIfInBounds,hji,decide_false,Bool.or_false];rw[yX (λh=>hji h.symm)]
        refine ih _ _ J2 (by simpa using hsz) ?_ ?_ (to1.trans to2) ok2 ?_ (by rw[e1];exact hinv)
        .have:=TL (Y:=λj=>(listed.setIfInBounds i af).getD j ag) hXi hin (λj _=>hgetset j);have hX':hU X n<=yD+1:=hun;omega
        .intro j o' hj hx e he hb;show(listed.setIfInBounds i af).getD e.on ag=af;rw[hgetset];have hx':(listed.setIfInBounds i af).getD j ag=af:=hx;rw[hgetset]at hx';by_cases hji:j=i
         .subst hji;rw[ho]at hj;cases hj;have:X e.on=af:=hedge e he hb;rw[this];rfl
         .simp only[hji,decide_false,Bool.or_false]at hx';have:X e.on=af:=hcl1 j o' hj hx' e he hb;rw[this];rfl
        .have hd:o.dst=dst i:=by simp[dst,hT,ho]
         have hD:r.d=D i:=by simp[D,k1]
         have hput:=TC (ts0:=ts) (D:=D) hu hin hXi (λj(_:j < n)=>hgetset j);rw[<-hput, <-hd, <-hD];exact ZOh (TN _ _ _) (hrep1.to to2.leaf) hrep2)
       show wpOp P ops Q i _ a J1.w;unfold wpOp;rw[ho];by_cases hw:Region.wanted o (yielded ops a.tmps)=af
       .rw[yW hw]at key;simp only[hw,if_true];exact .inl key
       .rw[yX hw]at key;simp only[hw];exact key
    have hdr2:J.w.grownBy { J.w with drawn:=J.w.drawn+1} ae:=by
     exact⟨rfl,rfl,rfl,ym _,λ_ _ _=>rfl⟩
    obtain⟨to0,ok0⟩:=pN ok hdr2
    have hfalse:∀j,(Array.replicate ops.size ag).getD j ag=ag:=by
     intro j;by_cases hj:j < ops.size <;> simp[Array.getD,hj]
    refine walk ops.size (Array.replicate ops.size ag) a { J with w:={ J.w with drawn:=J.w.drawn+1}} (by simp[n]) ?_ ?_ to0 ok0 ?_ (.inl ⟨0,⟨Nat.zero_le _,λe _ _=> ?_⟩, ?_⟩)
    .exact TJ
    .intro i o _ hx;have hx':(Array.replicate ops.size ag).getD i ag=af:=hx;rw[hfalse i]at hx';cases hx'
    .rw[TB (λj _=>hfalse j)];exact yM.to to0.leaf
    .show(Array.replicate ops.size ag).getD e ag=af↔e < 0;rw[hfalse e];simp
    .show J.H=HH 0;by_cases h0:0 < n
     .obtain⟨r,k1,_,_,_,_,k5,_⟩:=hspec' 0 _ (yco h0);rw[(hHH 0 r k1).1,k5 rfl]
     .have:ops.toList=[]:=ybf (by omega);simp only[HH,h0,if_false];exact(hnil this).symm
   .cases h
  .cases h
 .cases h
end
end Go.Ev
end
section
namespace Go.Ev
section
variable{P:yg}
theorem uc{J:Sg}{a:Act}:∀{mask:yL Nat}{ts:yL Dv},aD J ts a->aD J (pI ts mask) a
 |[],_,h=>h
 |i::r,ts,h=>by
  refine uc (mask:=r) ⟨by simpa using h.size,λj d hj=> ?_,h.defers⟩;rw[ybl]at hj;split at hj
  .split at hj
   .cases hj;exact Xj
   .cases hj
  .exact h.at_ j d hj
theorem kp:∀(c:Code)(ts:yL Dv)(H:yL ax)(hs hs':yL al)(C:yL Prop)(ex:Ex)(ts':yL Dv)(H':yL ax),ev P c ts H hs=ab (C,ex,ts',H',hs')->bc C->Xq P c ts H ex ts' H'
 |.skip,ts,H,hs,hs',C,ex,ts',H',h,hc=>by
  simp only[ev,yj,yl]at h;obtain⟨rfl,rfl,rfl,rfl,rfl⟩:=h
  exact λJ a ok hH yM=>wp_skip ⟨rfl,J,rfl,hH,To.refl J,ok,yM⟩
 |.label _,ts,H,hs,hs',C,ex,ts',H',h,hc=>by
  simp only[ev,yj,yl]at h;obtain⟨rfl,rfl,rfl,rfl,rfl⟩:=h
  exact λJ a ok hH yM=>wp_label ⟨rfl,J,rfl,hH,To.refl J,ok,yM⟩
 |.region id ops draw,ts,H,hs,hs',C,ex,ts',H',h,hc=>by
  cases draw with
  |true=>
   simp only[ev,if_true]at h;simp only[yp,yl]at h;obtain⟨⟨C1,ts1,H1,hs1⟩,h1,rfl,rfl,rfl,rfl,rfl⟩:=h;intro J a ok hH yM;subst hH
   exact Zzk ok yM h1 hc _ λa' J' e1 to ok' hrep'=>⟨rfl,J',rfl,e1,to,ok',hrep'⟩
  |false=>
   simp only[ev,ybz,if_false]at h;simp only[yp,yl]at h;obtain⟨⟨C1,ts1,H1,hs1⟩,h1,rfl,rfl,rfl,rfl,rfl⟩:=h;intro J a ok hH yM;subst hH;refine wp_region ?_
   have:=SV (P:=P) (ops:=ops) (λe a' w'=>e=Ex.normal.to/\∃J',J'.w=w'/\J'.H=H1/\To J J'/\Ok J'/\aD J' ts1 a') ops.toList 0 ts J a hs hs1 C1 H1 (λj=>by simp) ok yM h1 hc
    (λa' J' e1 to ok' hrep'=>⟨rfl,J',rfl,e1,to,ok',hrep'⟩)
   rw[List.range_eq_range']
   simpa using this
 |.seq x y,ts,H,hs,hs',C,ex,ts',H',h,hc=>by
  simp only[ev]at h;split at h
  .rename_i C1 ts1 H1 hs1 h1;split at h
   .rename_i C2 ex2 ts2 H2 hs2 h2;simp only[yj,yl]at h;obtain⟨rfl,rfl,rfl,rfl,rfl⟩:=h;obtain⟨c1,c2⟩:=Zk.1 hc;have r1:=kp x _ _ _ _ _ _ _ _ h1 c1;have r2:=kp y _ _ _ _ _ _ _ _ h2 c2;intro J a ok hH yM;refine wp_seq (wp_mono (r1 J a ok hH yM) ?_);rintro e a' w' ⟨rfl,J1,rfl,e1,to1,ok1,hrep1⟩;refine wp_mono (r2 J1 a' ok1 e1 hrep1) ?_;rintro e a'' w'' ⟨rfl,J2,rfl,e2,to2,ok2,hrep2⟩;exact⟨rfl,J2,rfl,e2,to1.trans to2,ok2,hrep2⟩
   .cases h
  .rename_i r hne;have r1:=kp x _ _ _ _ _ _ _ _ h hc;intro J a ok hH yM;refine wp_seq (wp_mono (r1 J a ok hH yM) ?_);rintro e a' w' ⟨rfl,hq⟩
   cases ex with
   |normal=>exact absurd h (hne _ _ _ _)
   |exit id=>exact⟨rfl,hq⟩
   |ret=>exact⟨rfl,hq⟩
 |.cond c x y,ts,H,hs,hs',C,ex,ts',H',h,hc=>by
  simp only[ev]at h;split at h
  .rename_i t hs1 hcv;simp only[yp,yl]at h;obtain⟨⟨C1,r⟩,h1,rfl,rfl⟩:=h;obtain⟨c0,c1⟩:=hc;have r1:=kp x _ _ _ _ _ _ _ _ h1 c1;intro J a ok hH yM;have hv:=Zj (P:=P) yM 0 c;rw[hcv]at hv;exact wp_cond_true (by rw[YD hv,c0]) (r1 J a ok hH yM)
  .rename_i t hs1 hcv;simp only[yp,yl]at h;obtain⟨⟨C1,r⟩,h1,rfl,rfl⟩:=h;obtain⟨c0,c1⟩:=hc;have r1:=kp y _ _ _ _ _ _ _ _ h1 c1;intro J a ok hH yM;have hv:=Zj (P:=P) yM 0 c;rw[hcv]at hv;exact wp_cond_false (by rw[YD hv,c0]) (r1 J a ok hH yM)
  .cases h
 |.block id body,ts,H,hs,hs',C,ex,ts',H',h,hc=>by
  simp only[ev]at h;split at h
  .rename_i C1 id' ts1 H1 hs1 h1;simp only[yj,yl]at h;obtain⟨rfl,rfl,rfl,rfl,rfl⟩:=h;have r1:=kp body _ _ _ _ _ _ _ _ h1 hc;intro J a ok hH yM;refine wp_block (wp_mono (r1 J a ok hH yM) ?_);rintro e a' w' ⟨rfl,hq⟩;simp only[Ex.to,Exit.inBlock];split
   .rename_i he;exact⟨rfl,hq⟩
   .rename_i he;exact⟨rfl,hq⟩
  .rename_i r hne;have r1:=kp body _ _ _ _ _ _ _ _ h hc;intro J a ok hH yM;refine wp_block (wp_mono (r1 J a ok hH yM) ?_);rintro e a' w' ⟨rfl,hq⟩
   cases ex with
   |normal=>exact⟨rfl,hq⟩
   |exit id'=>exact absurd h (hne _ _ _ _ _)
   |ret=>exact⟨rfl,hq⟩
 |.loop body,ts,H,hs,hs',C,ex,ts',H',h,hc=>by
  simp only[ev]at h;split at h
  .rename_i mask ex1 ts1 H1 hs1;split at h
   .cases h
   .simp only[yj,yl]at h;obtain⟨rfl,rfl,rfl,rfl,rfl⟩:=h;exact λJ a ok hH yM=>hc.1 J a ok hH (uc yM)
  .cases h
 |.scope body,ts,H,hs,hs',C,ex,ts',H',h,hc=>by
  simp only[ev]at h;have r1:=kp body _ _ _ _ _ _ _ _ h hc;intro J a ok hH yM;refine wp_scope_straight (wp_mono (r1 J a ok hH yM) ?_);rintro e a' w' ⟨rfl,hq⟩
  cases ex <;> exact⟨rfl,hq⟩
 |.exit id,ts,H,hs,hs',C,ex,ts',H',h,hc=>by
  simp only[ev,yj,yl]at h;obtain⟨rfl,rfl,rfl,rfl,rfl⟩:=h
  exact λJ a ok hH yM=>wp_exit ⟨rfl,J,rfl,hH,To.refl J,ok,yM⟩
 |.ret,ts,H,hs,hs',C,ex,ts',H',h,hc=>by
  simp only[ev,yj,yl]at h;obtain⟨rfl,rfl,rfl,rfl,rfl⟩:=h
  exact λJ a ok hH yM=>wp_ret ⟨rfl,J,rfl,hH,To.refl J,ok,yM⟩
 |.rangeFunc _ _ _ _,ts,H,hs,hs',C,ex,ts',H',h,hc=>by simp[ev]at h
 |.goto _,ts,H,hs,hs',C,ex,ts',H',h,hc=>by simp[ev]at h
 |.refuse _,ts,H,hs,hs',C,ex,ts',H',h,hc=>by simp[ev]at h
def oc(P:yg)(body:Code)(ts:yL Dv)(H:yL ax)(ex:Ex)(ts':yL Dv)(H':yL ax):Prop:=
 ∀(J:Sg)(a:Act),Ok J->J.H=H->aD J ts a->∀(b:Frame)(k:yL Item)(cs:yL Frame),
  ∃e a' w',(e=ex.to/\∃J',J'.w=w'/\J'.H=H'/\To J J'/\Ok J'/\aD J' ts' a')/\Arrives P (lone (b.at a (.code body::.inLoop body::k)) cs J.w) b k cs e a' w'
theorem TO{body:Code}{ts ts':yL Dv}{H H':yL ax}{ex:Ex}(hne:ex≠ .normal)(h:Xq P body ts H ex ts' H'):oc P body ts H ex ts' H':=by
 intro J a ok hH yM b k cs;obtain⟨e,a1,w1,hq,harr⟩:=h J a ok hH yM b (.inLoop body::k) cs;obtain⟨he,hq'⟩:=hq;subst he;refine⟨ex.to,a1,w1,⟨rfl,hq'⟩, ?_⟩
 cases ex with
 |normal=>exact absurd rfl hne
 |exit id=>exact .pass (x:=.inLoop body) rfl (λ_ _=>.inl (by simp[Ex.to])) harr
 |ret=>exact .pass (x:=.inLoop body) rfl (λ_ _=>.inl (by simp[Ex.to])) harr
theorem TQ{body:Code}{ts ts1 ts':yL Dv}{H H1 H':yL ax}{ex:Ex}(mask:yL Nat)(h1:Xq P body ts H .normal ts1 H1)(h2:oc P body (pI ts1 mask) H1 ex ts' H'):oc P body ts H ex ts' H':=by
 intro J a ok hH yM b k cs;obtain⟨e,a1,w1,⟨rfl,J1,rfl,e1,to1,ok1,hrep1⟩,harr⟩:=h1 J a ok hH yM b (.inLoop body::k) cs;obtain⟨e,a2,w2,⟨rfl,J2,rfl,e2,to2,ok2,hrep2⟩,harr2⟩:=h2 J1 a1 ok1 e1 (uc hrep1) b k cs;exact⟨ex.to,a2,J2.w,⟨rfl,J2,rfl,e2,to1.trans to2,ok2,hrep2⟩,.of_steps (Steps.trans harr (.one step_inLoop)) harr2⟩
theorem TS{body:Code}{ts ts':yL Dv}{H H':yL ax}{ex:Ex}(h:oc P body ts H ex ts' H'):Xq P (.loop body) ts H ex ts' H':=by
 intro J a ok hH yM b k cs;obtain⟨e,a1,w1,hq,harr⟩:=h J a ok hH yM b k cs;exact⟨e,a1,w1,hq,.of_steps (.one step_loop) harr⟩
def iw(J:Sg)(L:yL Nat)(H:yL ax):Sg:={ F:=J.F,B:=J.B,m:=L.map λid=>(J.m[id]?).getD ae,H:=H,w:=J.w}
theorem TT{J:Sg}{L:yL Nat}{H:yL ax}{j id:Nat}{x:yO Nat}(h:L[j]? =ab id)(hm:J.m[id]? =ab x):(iw J L H).m[j]? =ab x:=by
 show(L.map λid=>(J.m[id]?).getD ae)[j]? =ab x;rw[yaj,h];simp[hm]
theorem mH{J:Sg}{L:yL Nat}{H:yL ax}{j b:Nat}(h:(iw J L H).m[j]? =ab (ab b)):∃id,L[j]? =ab id/\J.m[id]? =ab (ab b):=
 XN (J:=J) (ids:=L) (Hin:=H) h
theorem kq{J:Sg}{L:yL Nat}{H:yL ax}(hin:aJ J.H L L=ab H):Rn (aT L) J (iw J L H) where
 w:=rfl
 aV b o v _ h:=by
  refine⟨h.1,λj e hj he=> ?_⟩;obtain⟨id,h1,h2⟩:=mH hj;obtain⟨e0,e',h3,h4,h5⟩:=VI hin h1;have he':H[j]? =ab e:=he;rw[h4]at he';cases he';exact(zw h5).2 (h.2 id e0 h2 h3)
 m id j hj x hx:=TT (bW hj) hx
 H id j hj e he:=by
   obtain⟨e0,e',h3,h4,h5⟩:=VI hin (bW hj);rw[he]at h3;cases h3;exact⟨e',h4,h5⟩
theorem qg{J:Sg}(ok:Ok J){L:yL Nat}{H:yL ax}(ho:once L=af)(hin:aJ J.H L L=ab H):Ok (iw J L H) where
 len:=by
  show(L.map _).length=H.length;rw[yx,VH hin]
 inj i j b hi hj:=by
  obtain⟨x,h1,h2⟩:=mH hi;obtain⟨y,h3,h4⟩:=mH hj;have:=ok.inj x y b h2 h4;subst this;exact pX ho i j x h1 h3
 lt i b hi:=by
  obtain⟨x,h1,h2⟩:=mH hi;exact ok.lt x b h2
 dc i e x he hx:=by
  have he':H[i]? =ab e:=he;have hi:i < L.length:=by rw[<-VH hin];exact(yo.1 he').1
  obtain⟨e0,e',h3,h4,h5⟩:=VI hin (yac hi);rw[he']at h4;cases h4
  have hm:∃y,J.m[L[i]]? =ab y:=by
   have:L[i] < J.m.length:=by rw[ok.len];exact(yo.1 h3).1
   exact⟨_,yac this⟩
  obtain⟨y,hy⟩:=hm;have:=TT (H:=H) (yac hi) hy;rw[hx]at this;cases this;exact zx (kq hin) h5 (ok.dc _ _ _ h3 hy)
 new b hb:=ok.new b hb
 own i b hi:=by
  obtain⟨x,h1,h2⟩:=mH hi;exact ok.own x b h2
theorem ud{J J':Sg}(ok:Ok J)(to:To J J'){keep:yL Nat}{H:yL ax}(ho:once (yq J.H.length++keep)=af)(hin:aJ J'.H (yq J.H.length++keep) (yq J.H.length++keep)=ab H):
 To J (iw J' (yq J.H.length++keep) H):=by
 have hf:∀id,id < J.H.length->aT (yq J.H.length++keep) id=ab id:=λid h=>by
  refine cl ho ?_;rw[yai (by simpa using h),List.getElem?_range h]
 have rn:=kq hin;refine⟨⟨λb o v h1 h2=> ?_,λid b h1 h2=> ?_,λid s len A c h1=> ?_,λid b h1 h2=> ?_,λid v s st e d h1=> ?_⟩,to.F,to.B,to.os,to.tape,to.output,to.size,λb h1 h2=>to.block b h1 h2,λid b h=> ?_, ?_⟩
 .obtain⟨h3,h4⟩:=to.leaf.cells b o v h1 h2;exact⟨h3,rn.aV b o v h3 h4⟩
 .have hlt:id < J.H.length:=by rw[<-ok.len];exact(yo.1 h1).1
  obtain⟨h3,h4⟩:=to.leaf.var id b h1 h2;exact⟨rn.m _ _ (hf id hlt) _ h3,rn.var (hf id hlt) h4⟩
 .have hlt:id < J.H.length:=by
   obtain⟨e,ys,h2,_⟩:=h1;exact(yo.1 h2).1
  exact rn.front (hf id hlt) (to.leaf.front _ _ _ _ _ h1)
 .have hlt:id < J.H.length:=by rw[<-ok.len];exact(yo.1 h1).1
  obtain⟨h3,h4⟩:=to.leaf.map id b h1 h2;exact⟨rn.m _ _ (hf id hlt) _ h3,rn.map (hf id hlt) h4⟩
 .have hlt:id < J.H.length:=(yo.1 h1).1;obtain⟨v',st',d',h5,h6,h7⟩:=to.leaf.row _ _ _ _ _ _ h1;obtain⟨d2,h8⟩:=rn.row (hf id hlt) h5;refine⟨v',st',d2,h8,h6,λhv=> ?_⟩;obtain⟨h9,h10⟩:=h7 hv;refine⟨?_,h10⟩;have hmm:∃x,J.m[id]? =ab x:=⟨_,yac (by rw[ok.len];exact hlt)⟩;obtain⟨x,hx⟩:=hmm;rw[hx];exact rn.m _ _ (hf id hlt) _ (by rw[h9];exact hx)
 .obtain⟨x,h1,h2⟩:=mH h;rcases to.same x b h2 with h3|h3
  .have hlt:x < J.H.length:=by rw[<-ok.len];exact(yo.1 h3).1
   have:=cl ho h1;have h4:=hf x hlt;unfold aT at h4;rw[this]at h4;cases h4;exact .inl h3
  .exact .inr h3
 .show J.m.length<=((yq J.H.length++keep).map _).length;rw[ok.len];simp
def qh(tmps:Array yh):ResultVar->Sem yh
 |.tmp t=>pure (tmps.getD t undef)
 |.cell x t=>do loadVar t (<-asAddr (tmps.getD x undef))
theorem ZEn(fn:Func)(tmps:Array yh):results fn tmps=(do let vs <-fn.results.mapM (qh tmps);pure (if h:vs.size=1 then vs[0] else .tuple vs)):=by
 unfold results
 have:(λ(rv:ResultVar)=>(match rv with|.tmp t=>pure (tmps.getD t undef)|.cell a t=>do loadVar t (<-asAddr (tmps.getD a undef)):Sem yh))=qh tmps:=by
  funext rv;cases rv <;> rfl
 exact congrArg (λf=>(do let vs <-fn.results.mapM f;pure (if h:vs.size=1 then vs[0] else .tuple vs):Sem yh)) this
theorem AL{J:Sg}{a:Act}{ts:yL Dv}(ok:Ok J)(yM:aD J ts a):∀(rs:yL ResultVar)(hs:yL al)(C:yL Prop)(ds:yL Dv),jy P ts J.H rs hs=ab (C,ds)->bc C->
 ∃vs,Sem.run P (rs.mapM (qh a.tmps)) J.w=Result.ok vs J.w/\aE J ds vs
 |[],hs,C,ds,h,_=>by
  simp only[jy,yj,yl]at h;obtain⟨rfl,rfl⟩:=h
  exact⟨[],by simp,by simp[aE]⟩
 |.tmp t::r,hs,C,ds,h,hc=>by
  simp only[jy,yp,yl]at h;obtain⟨⟨C1,ds1⟩,h1,rfl,rfl⟩:=h;obtain⟨vs,h2,h3⟩:=AL ok yM r hs C1 ds1 h1 hc;have h4:=Zj (P:=P) yM 0 (.tmp t);refine⟨a.tmps.getD t undef::vs, ?_, ?_⟩
  .simp only[List.mapM_cons,qh,Sem.run_bind,Sem.run_pure,Result.andThen_ok,h2]
  .simp only[aE]
   exact⟨_,_,rfl,h4,h3⟩
 |.cell x t::r,hs,C,ds,h,hc=>by
  simp only[jy]at h;split at h
  .rename_i id off yQ hx;split at h
   .rename_i dd st hH;split at h
    .rename_i C1 off' sub hs1 hg;split at h
     .rename_i hk;simp only[yp,yl]at h;obtain⟨⟨C2,ds1⟩,h1,rfl,rfl⟩:=h;obtain⟨c1,c2⟩:=Zk.1 hc;obtain⟨c1,c3⟩:=Zk.1 c1;obtain⟨vs,h2,h3⟩:=AL ok yM r hs1 C2 ds1 h1 c2;have hv:=Zj (P:=P) yM 0 (.tmp x);simp only[Zs,hx]at hv;obtain⟨b,hm,_,hxv⟩:=la hv;unfold gu at hk;simp only[yi,yT]at hk;obtain⟨⟨⟨k1,k2⟩,k3⟩,k4⟩:=hk;obtain⟨cs,t',p1,p2,p3,_,_,_,_,h5,_,h6⟩:=tN ok hm hH hg c1 c3.1;obtain⟨v,h7,h8⟩:=tC (P:=P) h5 h6 k1 k4 k3 k2;have hxv':a.tmps.getD x undef=.pointer (ab ⟨b,off,ae⟩):=hxv;refine⟨v::vs, ?_, ?_⟩
      .have ha:asAddr (a.tmps.getD x undef)=pure ⟨b,off,ae⟩:=by rw[hxv'];rfl
       simp only[List.mapM_cons,qh,ha,Sem.run_bind,Sem.run_pure,Result.andThen_ok,h7,h2]
      .simp only[aE];exact⟨_,_,rfl,h8,h3⟩
     .cases h
    .cases h
   .cases h
  .cases h
theorem TU{J:Sg}{ds:yL Dv}{vs:yL yh}(h:aE J ds vs):yJ J (mf ds) (if h:vs.toArray.size=1 then vs.toArray[0] else .tuple vs.toArray):=by
 have hl:=zg h;unfold mf;split
 .rename_i d;simp only[aE]at h;obtain⟨v,vs',rfl,h1,h2⟩:=h;have:vs'=[]:=h2;subst this;have e:(if h:[v].toArray.size=1 then[v].toArray[0] else Value.tuple [v].toArray)=v:=by simp
  rw[e];exact h1
 .rename_i hne
  have hn:¬vs.toArray.size=1:=by
   intro hs;have hd:ds.length=1:=by rw[<-hl];simpa using hs
   match ds,hd with
   |[d],_=>exact hne d rfl
  rw[dif_neg hn,Ze rfl];simp only[yH];exact⟨_,rfl,by simpa using h⟩
theorem AM{g:yu}{fn:Func}{c:Code}{args ts':yL Dv}{H H1 H':yL ax}{ex:Ex}{r:Dv}{keep:yL Nat}{hs:yL al}{C:yL Prop}(hf:P.funcs[g]? =ab fn)(hb:fn.body=ab c)
 (hr:Xq P c (args++yy (fn.ntmps - args.length) .ao) H ex ts' H1) (hex:ex=.ret\/ex=.normal) (hfin:fin P fn ts' H1 H.length keep hs=ab (C,r,H')) (hc:bc C):cR P g args H r H':=by
 intro J vs ok hH hvs;refine calls_of_wp hf hb ?_;have hl:=zg hvs
 have yM:aD J (args++yy (fn.ntmps - args.length) .ao) { tmps:=vs.toArray++Array.replicate (fn.ntmps - vs.toArray.size) undef,defers:=[]}:=by
  refine⟨by simp[hl],λi d hi=> ?_,rfl⟩;rcases Nat.lt_or_ge i args.length with h1|h1
  .rw[yai h1]at hi;obtain⟨v,h2,h3⟩:=zh hvs hi
   have h4:(vs.toArray++Array.replicate (fn.ntmps - vs.toArray.size) undef)[i]? =ab v:=by
    rw[Array.getElem?_append_left (by simpa[hl] using h1)];simpa using h2
   rw[ydb,h4];exact h3
  .rw[yam h1]at hi;have:=List.eq_of_mem_replicate (List.mem_of_getElem? hi);rw[this];exact Xj
 refine wp_mono (hr J _ ok hH yM) ?_;rintro e a w' ⟨rfl,J',rfl,e1,to,ok',hrep'⟩;unfold fin at hfin;split at hfin
 .rename_i C1 ds hres;dsimp only at hfin
  have main:∀r,(mf ds).rn (aT (yq H.length++keep))=ab r\/(mf (ds.map Dv.arg)).rn (aT (yq H.length++keep))=ab r->once (yq H.length++keep)=af->
   aJ H1 (yq H.length++keep) (yq H.length++keep)=ab H'->bc C1->a.defers=[]/\∃v,(results fn a.tmps).run P J'.w=.ok v J'.w/\
    ∃v0 J'',(Ending.returned v)=.returned v0/\J''.w=J'.w/\J''.H=H'/\To J J''/\Ok J''/\yJ J'' r v0:=by
   intro r hrn honce hsub hc1;refine⟨hrep'.defers, ?_⟩;rw[<-e1]at hres hsub;obtain⟨vs',h2,h3⟩:=AL (P:=P) ok' hrep' _ _ _ _ hres hc1
   refine⟨if h:vs'.toArray.size=1 then vs'.toArray[0] else .tuple vs'.toArray, ?_,if h:vs'.toArray.size=1 then vs'.toArray[0] else .tuple vs'.toArray,
    iw J' (yq H.length++keep) H',rfl,rfl,rfl, ?_,qg ok' honce hsub, ?_⟩
   .rw[ZEn,Sem.run_bind, <-Array.toArray_toList (xs:=fn.results),List.mapM_toArray];simp only[Sem.run_map,h2,Result.andThen_ok,Sem.run_pure]
   .rw[<-hH]at honce hsub ⊢;exact ud ok to honce hsub
   .rcases hrn with hrn|hrn
    .exact mh (kq hsub) hrn (TU h3)
    .refine mh (kq hsub) hrn (TU ?_);exact ZIO h3
  have main':bodyPost P fn (λe w'=>∃v J'',e=.returned v/\J''.w=w'/\J''.H=H'/\To J J''/\Ok J''/\yJ J'' r v) ex.to a J'.w:=by
   have zU:a.defers=[]/\∃v,(results fn a.tmps).run P J'.w=.ok v J'.w/\∃v0 J'',(Ending.returned v)=.returned v0/\J''.w=J'.w/\J''.H=H'/\To J J''/\Ok J''/\yJ J'' r v0:=by
    split at hfin
    .rename_i ho hrn hsub;simp only[yj,yl]at hfin;obtain⟨rfl,rfl,rfl⟩:=hfin;exact main _ (.inl hrn) ho hsub hc
    .rename_i ho hrn _ hsub;simp only[yj,yl]at hfin;obtain⟨rfl,rfl,rfl⟩:=hfin;exact main _ (.inr hrn) ho hsub hc
    .cases hfin
   rcases hex with rfl|rfl
   .exact zU
   .exact zU
  exact main'
 .cases hfin
end
end Go.Ev
end
section
namespace Go.Ev
theorem TW{P:yg}{c:Code}{ts ts':yL Dv}{H H':yL ax}{ex:Ex}{hs hs':yL al}{C:yL Prop}(h:ev P c ts H hs=ab (C,ex,ts',H',hs'))(hc:bc C):Xq P c ts H ex ts' H':=
 kp c _ _ _ _ _ _ _ _ h hc
def ZH:Code->yL Code
 |.seq a b=>ZH a++ZH b
 |.cond _ a b=>ZH a++ZH b
 |.block _ a=>ZH a
 |.scope a=>ZH a
 |.loop a=>.loop a::ZH a
 |_=>[]
def TX(P:yg)(g i:Nat):Code:=
 match P.funcs[g]? with
 |some fn=>match fn.body with
  |some c=>(ZH c).getD i .skip
  |none=>.skip
 |none=>.skip
def ZOi:Code->Code
 |.loop a=>a
 |c=>c
def ia(P:yg)(g i:Nat):Code:=ZOi (TX P g i)
def u8(b:yB):Pl:=.int .u8 (b.toNat:Int)
theorem AN{f:Nat->yO Nat}{J J':Sg}(h:Rn f J J'){ts ts':yL Dv}{a:Act}(e:Dv.bz f ts=ab ts')(hr:aD J ts a):aD J' ts' a:=by
 refine⟨by rw[ze e];exact hr.size, ?_,hr.defers⟩
 have key:∀(xs ys:yL Dv),Dv.bz f xs=ab ys->∀(i:Nat)(d:Dv),ys[i]? =ab d->∃d0,xs[i]? =ab d0/\d0.rn f=ab d:=by
  intro xs
  induction xs with
  |nil=>
   intro ys h1 i d h2;simp only[Dv.bz,yj]at h1;subst h1
   simp at h2
  |cons x r ih=>
   intro ys h1 i d h2;simp only[Dv.bz]at h1;split at h1
   .rename_i y ys' h3 h4;cases h1
    cases i with
    |zero=>simp only[ybb,yj]at h2 ⊢;subst h2;exact⟨x,rfl,h3⟩
    |succ j=>simp only[yat]at h2 ⊢;exact ih _ h4 j d h2
   .cases h1
 intro i d hd;obtain⟨d0,h1,h2⟩:=key ts ts' e i d hd;exact mh h h2 (hr.at_ i d0 h1)
theorem TY{P:yg}{body:Code}{ts ts1 ts2:yL Dv}{H H1 H2:yL ax}{ex:Ex}(mask keep:yL Nat)(h1:Xq P body ts H ex ts1 H1)
 (ho:once (yq H.length++keep)=af) (hin:aJ H1 (yq H.length++keep) (yq H.length++keep)=ab H2)
 (e:Dv.bz (aT (yq H.length++keep)) (pI ts1 mask)=ab ts2):Xq P body ts H ex ts2 H2:=by
 intro J a ok hH yM;subst hH;refine wp_mono (h1 J a ok rfl yM) ?_;rintro e' a' w' ⟨rfl,J1,rfl,e1,to1,ok1,hrep1⟩;subst e1;exact⟨rfl,iw J1 (yq J.H.length++keep) H2,rfl,rfl,ud ok to1 ho hin,qg ok1 ho hin,AN (kq hin) e (uc (mask:=mask) hrep1)⟩
end Go.Ev
namespace Go.Ev
theorem TZ{P:yg}{g:yu}{args args':yL Dv}{H H0 H':yL ax}{r:Dv}(h:cR P g args' H0 r H')(ha:cK args args')(hH:ct H H0):cR P g args H r H':=by
 intro J vs ok e hr;subst e;obtain⟨to,ok'⟩:=jA ok hH;refine Calls.mono (h { J with H:=H0} vs ok' rfl (ha.vs ?_)) ?_
 .have:=to.leaf;clear ok' h;have key:∀(l:yL Dv)(us:yL yh),aE J l us->aE { J with H:=H0} l us:=λl us q=>cw this l us q;exact key _ _ hr
 .rintro e w' ⟨v,J',h1,h2,h3,h4,h5,h6⟩;exact⟨v,J',h1,h2,h3,to.trans h4,h5,h6⟩
theorem UA{P:yg}{g:yu}{args:yL Dv}{H H1 H':yL ax}{r r':Dv}(h:cR P g args H r H1)(hr:Wk r r')(hH:ct H1 H'):cR P g args H r' H':=by
 intro J vs ok e hv;refine Calls.mono (h J vs ok e hv) ?_;rintro e w' ⟨v,J',h1,h2,h3,h4,h5,h6⟩;subst h3;obtain⟨to,ok'⟩:=jA h5 hH;exact⟨v,{ J' with H:=H'},h1,h2,rfl,h4.trans to,ok',hr.dv (WS to.leaf h6)⟩
theorem UB{P:yg}{c:Code}{ts ts1 ts2:yL Dv}{H H1 H2:yL ax}{ex:Ex}(h:Xq P c ts H ex ts1 H1)(ht:cK ts1 ts2)(hH:ct H1 H2):Xq P c ts H ex ts2 H2:=by
 intro J a ok e hr;refine wp_mono (h J a ok e hr) ?_;rintro e' a' w' ⟨h1,J',rfl,h3,h4,h5,h6⟩;subst h3;obtain⟨to,ok'⟩:=jA h5 hH;exact⟨h1,{ J' with H:=H2},rfl,rfl,h4.trans to,ok',ht.pP (h6.to to.leaf)⟩
end Go.Ev
namespace Go.Ev
theorem cZ{α:Type}{c:Prop}[Decidable c]{a:yO α}{r:α}(h:(if c then a else ae)=ab r):c/\a=ab r:=by
 by_cases hc:c
 .rw[yW hc]at h;exact⟨hc,h⟩
 .rw[yX hc]at h;cases h
theorem UC{α β:Type}{f:α->β}(hf:∀a b,f a=f b->a=b):∀{l m:yL α},l.map f=m.map f->l=m
 |[],[],_=>rfl
 |[],_::_,h=>by simp at h
 |_::_,[],h=>by simp at h
 |x::l,y::m,h=>by
  simp only[yad,List.cons.injEq]at h;rw[hf _ _ h.1,UC hf h.2]
instance(k:IntKind)(x:Int):Decidable (WT k x):=by unfold WT;exact inferInstance
theorem ue{P:yg}{R R':yc->Pl->Prop}(h:∀t x,R t x->R' t x):∀(fs:yL Field)(o:Nat)(xs:yL Pl),gW P R fs o xs->gW P R' fs o xs
 |[],_,[],_=>trivial
 |[],_,_::_,k=>k.elim
 |_::_,_,[],k=>k.elim
 |f::fs,o,y::ys,k=>by
  obtain⟨a1,a2,a3,a4,a5,a6,a7,a8,a9⟩:=k;exact⟨a1,a2,a3,a4,a5,a6,a7,h _ _ a8,ue h fs _ ys a9⟩
theorem uf{P:yg}:∀{n:Nat}{t:yc}{x:Pl},bg P n t x->bg P (n+1) t x
 |0,t,x,h=>by simp[bg]at h
 |n+1,t,x,h=>by
  unfold bg at h ⊢;split at h
  .trivial
  .exact h
  .obtain⟨a1,a2,a3,a4,a5,a6⟩:=h;exact⟨a1,a2,a3,a4,a5,λy hy=>⟨uf (a6 y hy).1,(a6 y hy).2⟩⟩
  .exact⟨h.1,ue (λt x k=>uf k) _ _ _ h.2⟩
  .exact h.elim
theorem UD{P:yg}{g:yu}{s:Nat}{xs:yL Pl}{H H':yL ax}{r:Dv}{yK:yL Dv}(h1:cR P g (.p (.sl (ab af) s xs)::yK) H r H')(h2:xs=[]->cR P g (.p (.sl (ab ag) s [])::yK) H r H'):
 cR P g (.p (.sl ae s xs)::yK) H r H':=by
 intro J vs ok e hr;simp only[aE]at hr;obtain⟨v,vs',rfl,hv,hrest⟩:=hr;obtain⟨k1,A,c,rfl,k2,k3,k4,k5,k6⟩:=XL hv
 cases hA:A with
 |none=>
  have hx:xs=[]:=by
   cases xs with
   |nil=>rfl
   |cons x r=>obtain⟨b,o,us,hh,_⟩:=k6 (by simp);rw[hA]at hh;cases hh
  subst hx;subst hA;refine h2 rfl J _ ok e ?_;simp only[aE]
  exact⟨_,_,rfl,Yl k1 k2 k3 (ON rfl) k5 (λh=>absurd rfl h),hrest⟩
 |some a=>
  subst hA;refine h1 J _ ok e ?_;simp only[aE];exact⟨_,_,rfl,Yl k1 k2 k3 (Q6 rfl) k5 k6,hrest⟩
end Go.Ev
namespace Go.Ev
end Go.Ev
namespace Go.Ev
def st(n:Nat)(l:yL (Nat×Dv)):yL Dv:=(yq n).map λi=>(l.lookup i).getD .ao
end Go.Ev
end
section
namespace Go.Ev
section
variable{K V:Type}[DecidableEq K]
def dZ(ek:K->Pl)(ev:V->Pl)(l:yL (K×V)):yL (Pl×Pl):=l.map λq=>(ek q.1,ev q.2)
def fU:yL (K×V)->K->yO V
 |[],_=>ae
 |q::l,k=>if k=q.1 then ab q.2 else fU l k
def gv:yL (K×V)->K->V->yL (K×V)
 |[],k,v=>[(k,v)]
 |q::l,k,v=>if k=q.1 then(k,v)::l else q::gv l k v
def lj:yL (K×V)->K->yL (K×V)
 |[],_=>[]
 |q::l,k=>if k=q.1 then l else q::lj l k
theorem AO{ek:K->Pl}{ev:V->Pl}(hi:∀x y,ek x=ek y↔x=y)(k:K):∀l:yL (K×V),WN (dZ ek ev l) (ek k) ((fU l k).map ev)
 |[]=>rfl
 |q::l=>by
  show WN ((ek q.1,ev q.2)::dZ ek ev l) (ek k) _;unfold WN fU;by_cases h:k=q.1
  .left;rw[yW h];exact⟨(hi _ _).2 h,rfl⟩
  .right;rw[yX h];exact⟨λhh=>h ((hi _ _).1 hh),AO hi k l⟩
theorem ZEo{ek:K->Pl}{ev:V->Pl}(hi:∀x y,ek x=ek y↔x=y){k:K}{l:yL (K×V)}{v:V}(h:fU l k=ab v):WN (dZ ek ev l) (ek k) (ab (ev v)):=by
 have:=AO (ev:=ev) hi k l;rw[h]at this;exact this
theorem ZEp{ek:K->Pl}{ev:V->Pl}(hi:∀x y,ek x=ek y↔x=y){k:K}{l:yL (K×V)}(h:(fU l k).isSome=ag):WN (dZ ek ev l) (ek k) ae:=by
 have:=AO (ev:=ev) hi k l
 cases hm:fU l k with
 |none=>rw[hm]at this;exact this
 |some v=>rw[hm]at h;cases h
theorem AP{ek:K->Pl}{ev:V->Pl}(hi:∀x y,ek x=ek y↔x=y)(k:K)(v:V):∀l:yL (K×V),Qw (dZ ek ev l) (ek k) (ev v) (dZ ek ev (gv l k v))
 |[]=>rfl
 |q::l=>by
  show Qw ((ek q.1,ev q.2)::dZ ek ev l) (ek k) (ev v) _;unfold Qw gv;by_cases h:k=q.1
  .left;rw[yW h];exact⟨(hi _ _).2 h,rfl⟩
  .right;rw[yX h];exact⟨λhh=>h ((hi _ _).1 hh),_,rfl,AP hi k v l⟩
theorem UE{ek:K->Pl}{ev:V->Pl}(hi:∀x y,ek x=ek y↔x=y)(k:K):∀l:yL (K×V),fS (dZ ek ev l) (ek k) (dZ ek ev (lj l k))
 |[]=>rfl
 |q::l=>by
  show fS ((ek q.1,ev q.2)::dZ ek ev l) (ek k) _;unfold fS lj;by_cases h:k=q.1
  .left;rw[yW h];exact⟨(hi _ _).2 h,rfl⟩
  .right;rw[yX h];exact⟨λhh=>h ((hi _ _).1 hh),_,rfl,UE hi k l⟩
end
theorem qi{K V:Type}{P:yg}{kt:yc}{ek:K->Pl}{ev:V->Pl}(h:∀x,bg P 20 kt (ek x))(l:yL (K×V)):Q7 P kt (dZ ek ev l):=by
 intro q hq;obtain⟨p,_,rfl⟩:=List.mem_map.1 hq;exact h _
end Go.Ev
namespace Go.Ev
theorem ZB8{P:yg}{g:yu}{s:Nat}{e:yc}{H H':yL ax}{r:Dv}{yK:yL Dv}(h:cR P g (.own H.length ae s []::yK) (H++[.log s e []]) r H'):
 cR P g (.p (.sl (ab ag) s [])::yK) H r H':=by
 intro J vs ok eH hr;simp only[aE]at hr;obtain⟨v,vs',rfl,hv,hrest⟩:=hr;obtain rfl:=lb hv;subst eH;obtain⟨to,ok'⟩:=Wj (J':={ J with m:=J.m++[ae],H:=J.H++[.log s e []]}) ok rfl rfl rfl rfl (World.grownBy.refl J.w ae) (.inl rfl) (λ_=>.inl ⟨rfl,rfl⟩);refine(h { J with m:=J.m++[ae],H:=J.H++[.log s e []]} (.slice ae 0 0::vs') ok' rfl ?_).mono λex w'⟨v,J',h1,h2,h3,h4,h5,h6⟩=>⟨v,J',h1,h2,h3,to.trans h4,h5,h6⟩;simp only[aE];refine⟨_,_,rfl,(Ze (d:=.own J.H.length ae s []) rfl).2 ?_,cw to.leaf _ _ hrest⟩;simp only[yH];refine⟨λ_ hx=>(by cases hx),ae,0,rfl,ym _,by simp[maxLen],Z7 _,λ_=>rfl,λh=>absurd rfl h,e,[],by simp,ym _,λ_=>.inl ⟨?_,rfl,rfl⟩⟩;rw[yam (by rw[ok.len];exact ym _),ok.len];simp
end Go.Ev
namespace Go.Ev
end Go.Ev
end
section
namespace Go.Ev
inductive bC(H:List ax):Dv->Pl->Prop where
 |p (x:Pl):bC H (.p x) x
 |own (id:Nat) (nn:Option Bool) (s:Nat) (xs:List Pl):bC H (.own id nn s xs) (.sl nn s xs)
 |agg {ds:List Dv} {ys:List Pl} (hl:ds.length=ys.length) (h:∀(i:Nat)(d:Dv)(y:Pl),ds[i]? =ab d->ys[i]? =ab y->bC H d y):bC H (.agg ds) (.agg ys)
 |mI {id v s lo n N:Nat} {e:yc} {xs:List Pl} (hH:H[id]? =ab (.row v s ag e (.p (.arr N s xs)))) (hle:lo+n<=N):bC H (.rv id v s lo n) (.sl ae s ((xs.drop lo).take n))
 |qj {id v s lo n N:Nat} {e:yc} {ds:List Dv} {ys:List Pl} (hH:H[id]? =ab (.row v s ag e (.arr N s ds))) (hle:lo+n<=N) (hl:ds.length=ys.length)
   (h:∀(i:Nat)(d:Dv)(y:Pl),ds[i]? =ab d->ys[i]? =ab y->bC H d y):bC H (.rv id v s lo n) (.sl ae s ((ys.drop lo).take n))
 |vw {id s lo n N:Nat} {xs:List Pl} (hH:H[id]? =ab (.var (.p (.arr N s xs)) ag)) (hle:lo+n<=N):bC H (.view id 0 [] s lo n) (.sl (ab af) s ((xs.drop lo).take n))
 |wk {d:Dv} {x y:Pl} (h:bC H d x) (k:bN x y):bC H d y
theorem AQ{J:Sg}:∀{ds:yL Dv}{ys:yL Pl}{us:yL yh},ds.length=ys.length->(∀(i:Nat)(d:Dv)(y:Pl),ds[i]? =ab d->ys[i]? =ab y->∀vs,yH J d vs->aw J.w J.aV y vs)->aG J ds us->an J.w J.aV ys us
 |[],[],us,_,_,h=>by simpa[aG,an] using h
 |[],_::_,_,hl,_,_=>by simp at hl
 |_::_,[],_,hl,_,_=>by simp at hl
 |d::ds,y::ys,us,hl,hk,h=>by
  simp only[aG]at h;obtain⟨a,b,h1,h2,h3⟩:=h;simp only[an];exact⟨a,b,h1,hk 0 d y rfl rfl a h2,AQ (by simpa using hl) (λi d y h4 h5=>hk (i+1) d y (by simpa using h4) (by simpa using h5)) h3⟩
theorem UF{J:Sg}(ok:Ok J){id v s lo n N:Nat}{e:yc}{dd:Dv}{xs:yL Pl}{u:yh}(hx:yJ J (.rv id v s lo n) u)(hH:J.H[id]? =ab (.row v s ag e dd))(hN:aO dd s=ab N)(hle:lo+n<=N)
 (hd:∀us,yH J dd us->xs.length=N/\aU s xs/\an J.w J.aV xs us):yJ J (.p (.sl ae s ((xs.drop lo).take n))) u:=by
 obtain⟨A,c,rfl,h2,h3,h4,h5,v2,s2,st2,e2,d2,h6,h7,h8⟩:=jB hx;rw[hH]at h6;cases h6;obtain⟨_,h9⟩:=h8 rfl;have hidlt:id < J.m.length:=by rw[ok.len];exact(yo.1 hH).1
 have hmi:J.m[id]? =ab J.m[id]:=yac hidlt;obtain⟨N',hN',hent⟩:=ok.dc id _ _ hH hmi;rw[hN]at hN';cases hN';by_cases hn:n=0
 .subst hn;have:=Yl (J:=J) (nn:=ae) (s:=s) (xs:=[]) (A:=A) (c:=c) (λ_ hx=>by cases hx) (by simp) h3 (Z7 _) h4 (λh=>absurd rfl h);simpa using this
 have hpos:0 < n:=Nat.pos_of_ne_zero hn;rcases h9 with⟨_,_,hz⟩|⟨b,cur,k1,k2,k3,k4⟩
 .omega
 rw[hmi]at k1;rcases hent with⟨hh,_⟩|⟨b',cur',cap,hh,g2,g4,g5,g6,g7⟩
 .rw[hh]at k1;cases k1
 rw[hh]at k1;cases k1;rw[k2]at g2;cases g2;obtain⟨hxl,hxs,h7⟩:=hd _ g7
 have hsplit:xs=xs.take lo++((xs.drop lo).take n++xs.drop (lo+n)):=by
  have e1:xs.drop (lo+n)=(xs.drop lo).drop n:=by rw[List.drop_drop]
  rw[e1,ybk,ybk]
 rw[hsplit]at h7;obtain⟨q1,q23,e1,r1,r23⟩:=Z9 h7;obtain⟨q2,q3,rfl,r2,r3⟩:=Z9 r23;have hsy:aU s ((xs.drop lo).take n):=λz hz=>hxs z (List.mem_of_mem_drop (ybv hz));have ly:((xs.drop lo).take n).length=n:=by rw[yae,List.length_drop,yay (by omega)]
 have l1:q1.length=lo*s:=by rw[aK _ _ r1,aL (λz hz=>hxs z (ybv hz)),yae,yay (by omega)]
 have hmk:=Yl (J:=J) (nn:=ae) (A:=A) (c:=c) hsy (by rw[ly];exact h2) h3 (Z7 _) h4 (λ_=>by
  refine⟨b,lo*s,q2,k4 (by omega),r2,λj u hu=>⟨?_,.inr (ok.own id b (by rw[hmi,hh])),λj' e' g1 g2=> ?_⟩⟩
  .rw[cell_of_row J.w b _ cur e (0,0) k2, <-ybt];have hj:j < q2.length:=(yo.1 hu).1
   have e2:(cur.toList.take (N*s))[lo*s+j]? =ab u:=by
    rw[e1,yam (by omega),l1,Nat.add_sub_cancel_left,yai hj];exact hu
   rw[ych]at e2;split at e2
   .exact e2
   .cases e2
  .have:j'=id:=ok.inj j' id b g1 (by rw[hmi,hh]);subst this;rw[hH]at g2;cases g2;refine⟨rfl,N,hN, ?_⟩;have hj:=(yo.1 hu).1;have l2:q2.length=n*s:=by rw[aK _ _ r2,aL hsy,ly]
   have h9:(lo+n)*s<=N*s:=Nat.mul_le_mul_right _ hle;rw[l2]at hj;rw[Nat.add_mul]at h9;omega)
 rw[ly]at hmk;exact hmk
theorem ZI9{J:Sg}(ok:Ok J){id s lo n N:Nat}{xs:yL Pl}{u:yh}(hx:yJ J (.view id 0 [] s lo n) u)(hH:J.H[id]? =ab (.var (.p (.arr N s xs)) ag))(hle:lo+n<=N):yJ J (.p (.sl (ab af) s ((xs.drop lo).take n))) u:=by
 obtain⟨b,c,a,hm,_,rfl,h2,h3,h4⟩:=mw hx;obtain⟨b',cs,t',h5,h6,h7,h8⟩:=ok.dc id _ _ hH hm;cases h5;simp only[yH,aw]at h7;obtain⟨hxl,hxs,h7⟩:=h7
 have hsplit:xs=xs.take lo++((xs.drop lo).take n++xs.drop (lo+n)):=by
  have e1:xs.drop (lo+n)=(xs.drop lo).drop n:=by rw[List.drop_drop]
  rw[e1,ybk,ybk]
 rw[hsplit]at h7;obtain⟨q1,q23,e1,r1,r23⟩:=Z9 h7;obtain⟨q2,q3,rfl,r2,r3⟩:=Z9 r23;have hsy:aU s ((xs.drop lo).take n):=λz hz=>hxs z (List.mem_of_mem_drop (ybv hz));have ly:((xs.drop lo).take n).length=n:=by rw[yae,List.length_drop,yay (by omega)]
 have l1:q1.length=lo*s:=by rw[aK _ _ r1,aL (λz hz=>hxs z (ybv hz)),yae,yay (by omega)]
 have hmk:=Yl (J:=J) (nn:=ab af) (A:=ab a) (c:=c) hsy (by rw[ly];exact h2) h3 (Q6 rfl) (λh=>by cases h) (λhne=>by
  have hpos:0 < n:=by
   rcases Nat.eq_zero_or_pos n with h0|h0
   .exact absurd (ybf (ly.trans h0)) hne
   .exact h0
  refine⟨b,0+lo*s,q2,by rw[h4 hpos],r2,λj u hu=>⟨?_,.inr (ok.own id b hm),λj' e' g1 g2=> ?_⟩⟩
  .rw[cell_of_row J.w b _ cs t' (0,0) h6, <-ybt];have hj:j < q2.length:=(yo.1 hu).1
   have e3:∀m,cs.toList.take m=q1++(q2++q3)->(cs.toList.take m)[lo*s+j]? =ab u:=λm e1=>by
    rw[e1,yam (by omega),l1,Nat.add_sub_cancel_left,yai hj];exact hu
   have e2:=e3 _ e1;rw[ych]at e2;rw[Nat.zero_add];split at e2
   .exact e2
   .cases e2
  .have:j'=id:=ok.inj j' id b g1 hm;subst this;rw[hH]at g2;cases g2;rfl)
 rw[ly]at hmk;exact hmk
theorem AR{J:Sg}(ok:Ok J){d:Dv}{x:Pl}(h:bC J.H d x):∀vs,yH J d vs->aw J.w J.aV x vs:=by
 induction h with
 |p x=>intro vs hr;simpa[yH] using hr
 |own id nn s xs=>
  intro vs hr;have hv:∃v,vs=[v]:=by simp only[yH]at hr;obtain⟨_,A,c,rfl,_⟩:=hr;exact⟨_,rfl⟩
  obtain⟨v,rfl⟩:=hv;have:=V5 ((Ze (by rfl)).2 hr);rw[Ze (by rfl)]at this
  simpa[yH] using this
 |agg hl h ih=>
  intro vs hr;simp only[yH]at hr;simp only[aw]
  exact AQ hl ih hr
 |mI hH hle=>
  intro vs hr;have hv:∃v,vs=[v]:=by simp only[yH]at hr;obtain⟨A,c,rfl,_⟩:=hr;exact⟨_,rfl⟩
  obtain⟨v,rfl⟩:=hv;have:=UF ok ((Ze (by rfl)).2 hr) hH (by simp[aO]) hle (λus h=>by simp only[yH,aw]at h;exact h);rw[Ze (by rfl)]at this
  simpa[yH] using this
 |qj hH hle hl h ih=>
  rename_i id v s lo n N e ds ys;intro vs hr;have hv:∃v,vs=[v]:=by simp only[yH]at hr;obtain⟨A,c,rfl,_⟩:=hr;exact⟨_,rfl⟩
  obtain⟨v,rfl⟩:=hv
  have:=UF (xs:=ys) ok ((Ze (by rfl)).2 hr) hH (by simp[aO]) hle (λus h=>by
   simp only[yH]at h;obtain⟨h1,h2,h3⟩:=h;refine⟨by rw[<-hl];exact h1, ?_,AQ hl ih h3⟩;intro y hy;obtain⟨i,hi⟩:=List.getElem?_of_mem hy;have hlt:i < ds.length:=by rw[hl];exact(yo.1 hi).1
   have hd:=yac hlt;obtain⟨a,b,c,e1,l1,r2,_⟩:=kY h3 hd;have q1:=XT _ _ (ih i _ y hd hi b r2);have q2:=XB _ _ r2;rw[<-q1,q2];exact h2 _ (List.mem_of_getElem? hd))
  rw[Ze (by rfl)]at this
  simpa[yH] using this
 |vw hH hle=>
  intro vs hr;have hv:∃v,vs=[v]:=by simp only[yH]at hr;obtain⟨b,c,a,_,_,rfl,_⟩:=hr;exact⟨_,rfl⟩
  obtain⟨v,rfl⟩:=hv;have:=ZI9 ok ((Ze (by rfl)).2 hr) hH hle;rw[Ze (by rfl)]at this
  simpa[yH] using this
 |wk h k ih=>intro vs hr;exact k.cY _ _ _ (ih vs hr)
theorem UG{J:Sg}(ok:Ok J){d:Dv}{x:Pl}(h:bC J.H d x){v:yh}(hr:yJ J d v):yJ J (.p x) v:=by
 have ha:d.isAgg=x.isAgg:=by
  have key:∀{d:Dv}{x:Pl},bC J.H d x->d.isAgg=x.isAgg:=by
   intro d x h
   induction h with
   |p x=>rfl
   |own=>rfl
   |agg=>rfl
   |mI=>rfl
   |qj=>rfl
   |vw=>rfl
   |wk h k ih=>rw[<-k.agg];exact ih
  exact key h
 obtain⟨h1,h2⟩:=hr;refine⟨λq=> ?_,λq=> ?_⟩
 .obtain⟨cs,e1,e2⟩:=h1 (by rw[ha];exact q);exact⟨cs,e1,by simp only[yH];exact AR ok h _ e2⟩
 .simp only[yH];exact AR ok h _ (h2 (by rw[ha];exact q))
inductive fA(H:List ax):Dv->Dv->Prop where
 |refl (d:Dv):fA H d d
 |deep {d:Dv} {x:Pl} (h:bC H d x):fA H d (.p x)
inductive fB(H:List ax):List Dv->List Dv->Prop where
 |nil:fB H [] []
 |cons {d e:Dv} {ds es:List Dv} (h:fA H d e) (k:fB H ds es):fB H (d::ds) (e::es)
theorem UH{J:Sg}(ok:Ok J){d e:Dv}(h:fA J.H d e){v:yh}(hr:yJ J d v):yJ J e v:=by
 cases h with
 |refl=>exact hr
 |deep h=>exact UG ok h hr
theorem ZJa{J:Sg}(ok:Ok J){ds es:yL Dv}(h:fB J.H ds es):∀{vs:yL yh},aE J ds vs->aE J es vs:=by
 induction h with
 |nil=>intro vs h;exact h
 |cons h k ih=>
  intro vs hr;simp only[aE]at hr ⊢;obtain⟨v,vs',h1,h2,h3⟩:=hr;exact⟨v,vs',h1,UH ok h h2,ih h3⟩
inductive gK(H:List ax):Dv->Dv->Prop where
 |one {d e:Dv} (h:fA H d e):gK H d e
 |bj {ds es:List Dv} (h:fB H ds es):gK H (.bj ds) (.bj es)
theorem ZJb{P:yg}{g:yu}{args:yL Dv}{H H1 H':yL ax}{r r':Dv}(h:cR P g args H r H1)(hH:ct H1 H')(hr:gK H' r r'):cR P g args H r' H':=by
 intro J vs ok e hv;refine Calls.mono (h J vs ok e hv) ?_;rintro e w' ⟨v,J',h1,h2,h3,h4,h5,h6⟩;subst h3;obtain⟨to,ok'⟩:=jA h5 hH;have h7:=WS to.leaf h6;refine⟨v,{ J' with H:=H'},h1,h2,rfl,h4.trans to,ok', ?_⟩
 cases hr with
 |one hr=>exact UH ok' hr h7
 |bj hr=>
  rw[Ze rfl]at h7 ⊢;simp only[yH]at h7 ⊢;obtain⟨cs,e1,e2⟩:=h7;exact⟨cs,e1,ZJa ok' hr e2⟩
inductive Ty where
 |int (k:IntKind)
 |u8|u32|u64
 |bool
 |str
 |sl (t:Ty)
 |arr (n:Nat) (t:Ty)
 |st (fs:List Ty)
 deriving Inhabited
mutual
def Ty.aN:Ty->Type
 |.int _=>Int
 |.u8=>yB
 |.u32=>yV
 |.u64=>yU
 |.bool=>Bool
 |.str=>ByteArray
 |.sl t=>yL (Ty.aN t)
 |.arr _ t=>yL (Ty.aN t)
 |.st fs=>Ty.aI fs
def Ty.aI:yL Ty->Type
 |[]=>Unit
 |[t]=>Ty.aN t
 |t::u::r=>Ty.aN t×Ty.aI (u::r)
end
mutual
def Ty.size:Ty->Nat
 |.arr n t=>n*Ty.size t
 |.st fs=>Ty.sizes fs
 |_=>1
def Ty.sizes:yL Ty->Nat
 |[]=>0
 |t::r=>Ty.size t+Ty.sizes r
end
mutual
def Ty.dec:(a b:Ty)->Decidable (a=b)
 |.int k,.int l=>if h:k=l then isTrue (by rw[h]) else isFalse (by intro e;cases e;exact h rfl)
 |.u8,.u8=>isTrue rfl
 |.u32,.u32=>isTrue rfl
 |.u64,.u64=>isTrue rfl
 |.bool,.bool=>isTrue rfl
 |.str,.str=>isTrue rfl
 |.sl t,.sl u=>match Ty.dec t u with
  |isTrue h=>isTrue (by rw[h])
  |isFalse h=>isFalse (by intro e;cases e;exact h rfl)
 |.arr n t,.arr m u=>if k:n=m then match Ty.dec t u with
  |isTrue h=>isTrue (by rw[h,k])
  |isFalse h=>isFalse (by intro e;cases e;exact h rfl) else isFalse (by intro e;cases e;exact k rfl)
 |.st fs,.st gs=>match Ty.qk fs gs with
  |isTrue h=>isTrue (by rw[h])
  |isFalse h=>isFalse (by intro e;cases e;exact h rfl)
 |.int _,.u8=>isFalse nofun
 |.int _,.u32=>isFalse nofun
 |.int _,.u64=>isFalse nofun
 |.int _,.bool=>isFalse nofun
 |.int _,.str=>isFalse nofun
 |.int _,.sl _=>isFalse nofun
 |.int _,.arr _ _=>isFalse nofun
 |.int _,.st _=>isFalse nofun
 |.u8,.int _=>isFalse nofun
 |.u8,.u32=>isFalse nofun
 |.u8,.u64=>isFalse nofun
 |.u8,.bool=>isFalse nofun
 |.u8,.str=>isFalse nofun
 |.u8,.sl _=>isFalse nofun
 |.u8,.arr _ _=>isFalse nofun
 |.u8,.st _=>isFalse nofun
 |.u32,.int _=>isFalse nofun
 |.u32,.u8=>isFalse nofun
 |.u32,.u64=>isFalse nofun
 |.u32,.bool=>isFalse nofun
 |.u32,.str=>isFalse nofun
 |.u32,.sl _=>isFalse nofun
 |.u32,.arr _ _=>isFalse nofun
 |.u32,.st _=>isFalse nofun
 |.u64,.int _=>isFalse nofun
 |.u64,.u8=>isFalse nofun
 |.u64,.u32=>isFalse nofun
 |.u64,.bool=>isFalse nofun
 |.u64,.str=>isFalse nofun
 |.u64,.sl _=>isFalse nofun
 |.u64,.arr _ _=>isFalse nofun
 |.u64,.st _=>isFalse nofun
 |.bool,.int _=>isFalse nofun
 |.bool,.u8=>isFalse nofun
 |.bool,.u32=>isFalse nofun
 |.bool,.u64=>isFalse nofun
 |.bool,.str=>isFalse nofun
 |.bool,.sl _=>isFalse nofun
 |.bool,.arr _ _=>isFalse nofun
 |.bool,.st _=>isFalse nofun
 |.str,.int _=>isFalse nofun
 |.str,.u8=>isFalse nofun
 |.str,.u32=>isFalse nofun
 |.str,.u64=>isFalse nofun
 |.str,.bool=>isFalse nofun
 |.str,.sl _=>isFalse nofun
 |.str,.arr _ _=>isFalse nofun
 |.str,.st _=>isFalse nofun
 |.sl _,.int _=>isFalse nofun
 |.sl _,.u8=>isFalse nofun
 |.sl _,.u32=>isFalse nofun
 |.sl _,.u64=>isFalse nofun
 |.sl _,.bool=>isFalse nofun
 |.sl _,.str=>isFalse nofun
 |.sl _,.arr _ _=>isFalse nofun
 |.sl _,.st _=>isFalse nofun
 |.arr _ _,.int _=>isFalse nofun
 |.arr _ _,.u8=>isFalse nofun
 |.arr _ _,.u32=>isFalse nofun
 |.arr _ _,.u64=>isFalse nofun
 |.arr _ _,.bool=>isFalse nofun
 |.arr _ _,.str=>isFalse nofun
 |.arr _ _,.sl _=>isFalse nofun
 |.arr _ _,.st _=>isFalse nofun
 |.st _,.int _=>isFalse nofun
 |.st _,.u8=>isFalse nofun
 |.st _,.u32=>isFalse nofun
 |.st _,.u64=>isFalse nofun
 |.st _,.bool=>isFalse nofun
 |.st _,.str=>isFalse nofun
 |.st _,.sl _=>isFalse nofun
 |.st _,.arr _ _=>isFalse nofun
def Ty.qk:(a b:yL Ty)->Decidable (a=b)
 |[],[]=>isTrue rfl
 |t::r,u::q=>match Ty.dec t u,Ty.qk r q with
  |isTrue h,isTrue k=>isTrue (by rw[h,k])
  |isFalse h,_=>isFalse (by intro e;cases e;exact h rfl)
  |_,isFalse h=>isFalse (by intro e;cases e;exact h rfl)
 |[],_::_=>isFalse nofun
 |_::_,[]=>isFalse nofun
end
instance:DecidableEq Ty:=Ty.dec
def Ty.cast(t u:Ty)(x:t.aN):yO u.aN:=
 match Ty.dec t u with
 |isTrue h=>ab (h ▸ x)
 |isFalse _=>ae
def Ty.br(t u:Ty)(x:yL t.aN):yO (yL u.aN):=
 match Ty.dec t u with
 |isTrue h=>ab (h ▸ x)
 |isFalse _=>ae
theorem Vj{t u:Ty}{x:t.aN}{y:u.aN}(h:Ty.cast t u x=ab y):∃e:t=u,y=e ▸ x:=by
 unfold Ty.cast at h;split at h
 .rename_i e _;exact⟨e,(yax h).symm⟩
 .cases h
theorem ZC{t u:Ty}{x:yL t.aN}{y:yL u.aN}(h:Ty.br t u x=ab y):∃e:t=u,y=e ▸ x:=by
 unfold Ty.br at h;split at h
 .rename_i e _;exact⟨e,(yax h).symm⟩
 .cases h
mutual
def Ty.enc:(t:Ty)->t.aN->Pl
 |.int k,n=>.int k n
 |.u8,b=>.int .u8 (b.toNat:Int)
 |.u32,b=>.int .u32 (b.toNat:Int)
 |.u64,b=>.int .u64 (b.toNat:Int)
 |.bool,b=>.bool b
 |.str,s=>.str s
 |.sl t,l=>.sl ae (Ty.size t) (List.map (Ty.enc t) l)
 |.arr n t,l=>.arr n (Ty.size t) (List.map (Ty.enc t) l)
 |.st fs,x=>.agg (Ty.encs fs x)
def Ty.encs:(fs:yL Ty)->Ty.aI fs->yL Pl
 |[],_=>[]
 |[t],x=>[Ty.enc t x]
 |t::u::r,x=>Ty.enc t x.1::Ty.encs (u::r) x.2
end
mutual
theorem od:∀(t:Ty)(x:t.aN),(t.enc x).size=t.size
 |.int _,_=>rfl
 |.u8,_=>rfl
 |.u32,_=>rfl
 |.u64,_=>rfl
 |.bool,_=>rfl
 |.str,_=>rfl
 |.sl _,_=>rfl
 |.arr _ _,_=>rfl
 |.st fs,x=>by rw[Ty.enc,Pl.size,Ty.size];exact eX fs x
theorem eX:∀(fs:yL Ty)(x:Ty.aI fs),Pl.sizes (Ty.encs fs x)=Ty.sizes fs
 |[],_=>rfl
 |[t],x=>by simp only[Ty.encs,Pl.sizes,Ty.sizes];rw[od t x]
 |t::u::r,x=>by rw[Ty.encs,Pl.sizes,Ty.sizes,od t x.1,eX (u::r) x.2]
end
mutual
theorem ug:∀(t:Ty)(x:t.aN),(t.enc x).soft=t.enc x
 |.int _,_=>rfl
 |.u8,_=>rfl
 |.u32,_=>rfl
 |.u64,_=>rfl
 |.bool,_=>rfl
 |.str,_=>rfl
 |.sl _,_=>rfl
 |.arr n t,x=>by
  have key:∀l:yL t.aN,Pl.soft (.arr n t.size (l.map t.enc))=.arr n t.size (l.map t.enc):=by
   intro l;rw[Pl.soft,Pl.cy,yaq];congr 1;exact List.map_congr_left λy _=>ug t y
  exact key x
 |.st fs,x=>by rw[Ty.enc,Pl.soft,eY fs x]
theorem eY:∀(fs:yL Ty)(x:Ty.aI fs),Pl.cH (Ty.encs fs x)=Ty.encs fs x
 |[],_=>rfl
 |[t],x=>by simp only[Ty.encs,Pl.cH];rw[ug t x]
 |t::u::r,x=>by rw[Ty.encs,Pl.cH,ug t x.1,eY (u::r) x.2]
end
theorem Zb{α β:Type}{f:α->β}{o:yO α}{y:β}(h:o.map f=ab y):∃x,o=ab x/\f x=y:=yp.1 h
def Ty.mJ:(fs:yL Ty)->Ty.aI fs->Nat->yO (Σ t:Ty,t.aN)
 |[],_,_=>ae
 |[t],x,0=>ab ⟨t,x⟩
 |[_],_,_+1=>ae
 |t::_::_,x,0=>ab ⟨t,x.1⟩
 |_::u::r,x,i+1=>Ty.mJ (u::r) x.2 i
def Ty.upd:(fs:yL Ty)->Ty.aI fs->Nat->(t:Ty)->t.aN->yO (Ty.aI fs)
 |[],_,_,_,_=>ae
 |[t],_,0,u,y=>Ty.cast u t y
 |[_],_,_+1,_,_=>ae
 |t::v::r,x,0,u,y=>(Ty.cast u t y).map λz=>(z,x.2)
 |_::v::r,x,i+1,u,y=>(Ty.upd (v::r) x.2 i u y).map λz=>(x.1,z)
theorem UI:∀(fs:yL Ty)(x:Ty.aI fs)(i:Nat)(q:Σ t:Ty,t.aN),Ty.mJ fs x i=ab q->(Ty.encs fs x)[i]? =ab (q.1.enc q.2)
 |[],_,_,_,h=>by cases h
 |[t],x,0,q,h=>by cases h;rfl
 |[_],_,_+1,_,h=>by cases h
 |t::_::_,x,0,q,h=>by cases h;rfl
 |t::u::r,x,i+1,q,h=>by
  rw[Ty.encs,yat];exact UI (u::r) x.2 i q h
theorem UJ:∀(fs:yL Ty)(x:Ty.aI fs)(i:Nat)(t:Ty)(y:t.aN)(z:Ty.aI fs),Ty.upd fs x i t y=ab z->Ty.encs fs z=(Ty.encs fs x).set i (t.enc y)
 |[],_,_,_,_,_,h=>by cases h
 |[t],x,0,u,y,z,h=>by
  obtain⟨e,rfl⟩:=Vj h;subst e
  rfl
 |[_],_,_+1,_,_,_,h=>by cases h
 |t::v::r,x,0,u,y,z,h=>by
  obtain⟨w,h1,h2⟩:=Zb (α:=t.aN) (β:=t.aN×Ty.aI (v::r)) h;subst h2;obtain⟨e,rfl⟩:=Vj h1;subst e
  rfl
 |t::v::r,x,i+1,u,y,z,h=>by
  obtain⟨w,h1,h2⟩:=Zb (α:=Ty.aI (v::r)) (β:=t.aN×Ty.aI (v::r)) h;subst h2;show t.enc x.1::Ty.encs (v::r) w=(t.enc x.1::Ty.encs (v::r) x.2).set (i+1) (u.enc y);rw[List.set_cons_succ,UJ (v::r) x.2 i u y w h1]
inductive TP where
 |v (t:Ty) (x:t.aN)
 |sl (nn:Option Bool) (t:Ty) (xs:List t.aN)
 |agg (xs:List TP)
 |arr (n s:Nat) (xs:List TP)
 |ku (nn:Option Bool) (s:Nat) (xs:List TP)
 |bf|fn0|dN|ci
 |fQ (f:yu)
 |iface (t:yc) (x:TP)
instance:Inhabited TP:=⟨.bf⟩
mutual
def TP.pe:TP->Pl
 |.v t x=>t.enc x
 |.sl nn t xs=>.sl nn t.size (xs.map t.enc)
 |.agg xs=>.agg (TP.cg xs)
 |.arr n s xs=>.arr n s (TP.cg xs)
 |.ku nn s xs=>.sl nn s (TP.cg xs)
 |.bf=>.bf
 |.fn0=>.fn0
 |.dN=>.dN
 |.ci=>.ci
 |.fQ f=>.fQ f
 |.iface t x=>.iface t (TP.pe x)
def TP.cg:yL TP->yL Pl
 |[]=>[]
 |x::r=>x.pe::TP.cg r
end
theorem WB:∀(xs:yL TP),TP.cg xs=xs.map TP.pe
 |[]=>rfl
 |x::r=>by rw[TP.cg,WB r];rfl
def Ty.eP:(fs:yL Ty)->Ty.aI fs->yL TP
 |[],_=>[]
 |[t],x=>[.v t x]
 |t::u::r,x=>.v t x.1::Ty.eP (u::r) x.2
theorem uh:∀(fs:yL Ty)(x:Ty.aI fs),TP.cg (Ty.eP fs x)=Ty.encs fs x
 |[],_=>rfl
 |[t],x=>rfl
 |t::u::r,x=>by
  show t.enc x.1::TP.cg (Ty.eP (u::r) x.2)=t.enc x.1::Ty.encs (u::r) x.2;rw[uh (u::r) x.2]
def TP.parts:TP->yO (yL TP)
 |.v (.st fs) x=>ab (Ty.eP fs x)
 |.agg l=>ab l
 |_=>ae
theorem AS{x:TP}{l:yL TP}(h:x.parts=ab l):x.pe=.agg (TP.cg l):=by
 cases x with
 |v t a=>
  cases t with
  |st fs=>
   cases (show ab (Ty.eP fs a)=ab l from h)
   exact congrArg Pl.agg (uh fs a).symm
  |_=>cases h
 |agg l'=>cases h;rfl
 |_=>cases h
def Xm:yL Nat->TP->TP
 |[],x=>match x with
  |.v (.sl t) _=>.sl (ab ag) t []
  |x=>x
 |i::r,x=>match x.parts with
  |some l=>match l[i]? with
   |some z=>.agg (l.set i (Xm r z))
   |none=>x
  |none=>x
inductive ca where
 |fV (i o:Nat)
 |ix (i s:Nat)
def ca.i:ca->Nat
 |.fV i _=>i
 |.ix i _=>i
def ca.o:ca->Nat
 |.fV _ o=>o
 |.ix i s=>i*s
def XZ:yL ca->Nat
 |l=>l.foldl (λn q=>n+q.o) 0
inductive TD where
 |p (x:TP)
 |elem (x:TP)
 |ak (id:Nat) (yQ:List ca)
 |own (id:Nat) (nn:Option Bool) (t:Ty) (c:Option (List t.aN))
 |view (id:Nat) (yQ:List ca) (s lo n:Nat)
 |agg (xs:List TD)
 |arr (n s:Nat) (xs:List TD)
 |fn (f:yu) (cap:List TD)
 |iface (t:yc) (x:TD)
 |bj (xs:List TD)
 |mp (id:Nat)
 |rv (id v s lo n:Nat)
 |aY (id v:Nat) (yQ:List ca)
 |rw(id:Nat)
 |rp (id:Nat) (yQ:List ca)
 |ao
instance:Inhabited TD:=⟨.ao⟩
abbrev Lk:=Nat->yO (Σ t:Ty,yL t.aN)
def Z3(L:Lk)(id:Nat)(t:Ty):yO (yL t.aN)->yL t.aN
 |some xs=>xs
 |none=>match L id with
  |some q=>(Ty.br q.1 t q.2).getD []
  |none=>[]
abbrev _root_.aOC:Go.Ev.Ty:=.sl (.st [])
def ew(L:Lk)(id k:Nat):Nat:=(((Z3 L id aOC ae)[k]?).getD []).length
mutual
def TD.er(L:Lk):TD->Dv
 |.p x=>.p x.pe
 |.elem x=>.elem x.pe
 |.ak id yQ=>.ak id (XZ yQ) (yQ.map ca.i)
 |.own id nn t c=>.own id nn t.size ((Z3 L id t c).map t.enc)
 |.view id yQ s lo n=>.view id (XZ yQ) (yQ.map ca.i) s lo n
 |.agg xs=>.agg (TD.ay L xs)
 |.arr n s xs=>.arr n s (TD.ay L xs)
 |.fn f cap=>.fn f (TD.ay L cap)
 |.iface t x=>.iface t (TD.er L x)
 |.bj xs=>.bj (TD.ay L xs)
 |.mp id=>.mp id
 |.rv id v s lo n=>.rv id v s lo n
 |.aY id v yQ=>.aY id v (XZ yQ) (yQ.map ca.i)
 |.rw id=>.rv id (ew L id 0) (ew L id 1) 0 (ew L id 2)
 |.rp id yQ=>.aY id (ew L id 0) (XZ yQ) (yQ.map ca.i)
 |.ao=>.ao
def TD.ay(L:Lk):yL TD->yL Dv
 |[]=>[]
 |x::r=>x.er L::TD.ay L r
end
theorem Zz{L:Lk}:∀(xs:yL TD),TD.ay L xs=xs.map (TD.er L)
 |[]=>rfl
 |x::r=>by rw[TD.ay,Zz r];rfl
inductive ai where
 |var (d:TD) (st:Bool)
 |log (t:Ty) (e:yc) (xs:List t.aN)
 |map (tid:yc) (k v:Ty) (l:List (k.aN×v.aN))
 |row (v s:Nat) (st:Bool) (e:yc) (d:TD)
 |aQ (t:Ty) (v:List Unit) (st:Bool) (e:yc) (xs:List t.aN)
 |aO (t:Ty) (np:List Nat) (v:List Unit) (st:Bool) (e:yc) (pre post:List t.aN)
 |bJ (t:Ty) (np:List Nat) (v:List Unit) (st:Bool) (e:yc) (pre:List t.aN) (mid:TD) (post:List t.aN)
 |gone
instance:Inhabited ai:=⟨.gone⟩
def ai.er(L:Lk):ai->ax
 |.var d st=>.var (d.er L) st
 |.log t e xs=>.log t.size e (xs.map t.enc)
 |.map tid k v l=>.map tid (dZ k.enc v.enc l)
 |.row v s st e d=>.row v s st e (d.er L)
 |.aQ t v st e xs=>.row v.length t.size st e (.p (.arr xs.length t.size (xs.map t.enc)))
 |.aO t np v st e pre post=>.row v.length t.size st e (.p (.arr (pre.length+post.length) t.size (pre.map t.enc++post.map λx=>(Xm np (.v t x)).pe)))
 |.bJ t np v st e pre mid post=>.row v.length t.size st e (.arr (pre.length+(post.length+1)) t.size ((pre.map λx=>.p (t.enc x))++mid.er L::post.map λx=>.p (Xm np (.v t x)).pe))
 |.gone=>.gone
abbrev _root_.aOD:=yL Unit
def dy:yO ai->yO (Σ t:Ty,yL t.aN)
 |some (.log t _ xs)=>ab ⟨t,xs⟩
 |some (.aQ t v _ _ xs)=>ab ⟨.sl (.st []),([v,yy t.size (),yy xs.length ()]:yL aOD)⟩
 |some (.aO t _ v _ _ pre post)=>ab ⟨.sl (.st []),([v,yy t.size (),yy (pre.length+post.length) ()]:yL aOD)⟩
 |some (.bJ t _ v _ _ pre _ post)=>ab ⟨.sl (.st []),([v,yy t.size (),yy (pre.length+(post.length+1)) ()]:yL aOD)⟩
 |_=>ae
def lk(H:yL ai):Lk:=λid=>dy (H[id]?)
def aB(H:yL ai):yL ax:=H.map (ai.er (lk H))
theorem ZJ{H:yL ai}{i:Nat}{e:ai}(h:H[i]? =ab e):(aB H)[i]? =ab (e.er (lk H)):=by rw[aB,yaj,h];rfl
theorem Vt{L:Lk}{ts:yL TD}{i:Nat}{d:TD}(h:ts[i]? =ab d):(TD.ay L ts)[i]? =ab (d.er L):=by rw[Zz,yaj,h];rfl
theorem ZB(H:yL ai):(aB H).length=H.length:=yx ..
theorem iP{L:Lk}(H:yL TD):(TD.ay L H).length=H.length:=by rw[Zz];exact yx ..
def jG{α β:Type}:yO α->yO β->yO (α×β)
 |some a,ab b=>ab (a,b)
 |_,_=>ae
theorem VJ{α β:Type}{a:yO α}{b:yO β}{q:α×β}(h:jG a b=ab q):a=ab q.1/\b=ab q.2:=by
 cases a with
 |none=>cases h
 |some x=>cases b with
  |none=>cases h
  |some y=>cases h;exact⟨rfl,rfl⟩
def ql(nn:Bool)(t:Ty)(xs:yL t.aN):(u:Ty)->yO u.aN
 |.sl u=>if nn then Ty.br t u xs else ae
 |_=>ae
def qm(f:(fs:yL Ty)->yO (Ty.aI fs)):(u:Ty)->yO u.aN
 |.st fs=>f fs
 |_=>ae
def ui(n s:Nat)(f:(t:Ty)->yO (yL t.aN)):(u:Ty)->yO u.aN
 |.arr m t=>if n=m/\s=t.size then f t else ae
 |_=>ae
def uj:(fs:yL Ty)->yO (Ty.aI fs)
 |[]=>ab ()
 |_=>ae
def qn(f:(t:Ty)->yO t.aN)(last:Bool)(g:(fs:yL Ty)->yO (Ty.aI fs)):(fs:yL Ty)->yO (Ty.aI fs)
 |[]=>ae
 |[t]=>if last then f t else ae
 |t::u::q=>jG (f t) (g (u::q))
mutual
def TP.to(ok:yO Bool->Bool):TP->(t:Ty)->yO t.aN
 |.v t x=>λu=>Ty.cast t u x
 |.sl nn t xs=>ql (ok nn) t xs
 |.agg xs=>qm (TP.iy ok xs)
 |.arr n s xs=>ui n s (TP.kv ok xs)
 |.ku _ _ _=>λ_=>ae
 |.bf=>λ_=>ae
 |.fn0=>λ_=>ae
 |.dN=>λ_=>ae
 |.ci=>λ_=>ae
 |.fQ _=>λ_=>ae
 |.iface _ _=>λ_=>ae
def TP.iy(ok:yO Bool->Bool):yL TP->(fs:yL Ty)->yO (Ty.aI fs)
 |[]=>uj
 |x::r=>qn (TP.to ok x) r.isEmpty (TP.iy ok r)
def TP.kv(ok:yO Bool->Bool):yL TP->(t:Ty)->yO (yL t.aN)
 |[]=>λ_=>ab []
 |x::r=>λt=>(jG (TP.to ok x t) (TP.kv ok r t)).map λq=>q.1::q.2
end
def iQ:yO Bool->Bool:=λ_=>af
def fl:yO Bool->Bool:=Option.isNone
theorem uk(t:Ty)(l:yL t.aN):(Ty.sl t).enc l=.sl ae t.size (l.map t.enc):=rfl
theorem AT(n:Nat)(t:Ty)(l:yL t.aN):(Ty.arr n t).enc l=.arr n t.size (l.map t.enc):=rfl
theorem AU{b:Bool}{nn:yO Bool}{t u:Ty}{xs:yL t.aN}{y:u.aN}(h:ql b t xs u=ab y):∃l:yL t.aN,b=af/\u.enc y=.sl ae t.size (l.map t.enc)/\l=xs:=by
 cases u with
 |sl u=>
  have h':(if b then Ty.br t u xs else ae)=ab y:=h
  split at h'
  .rename_i hb;obtain⟨e,h2⟩:=ZC h';subst e;subst h2;exact⟨y,hb,rfl,rfl⟩
  .cases h'
 |_=>cases h
theorem AV{f:(fs:yL Ty)->yO (Ty.aI fs)}{u:Ty}{y:u.aN}(h:qm f u=ab y):∃(fs:yL Ty)(z:Ty.aI fs),f fs=ab z/\u.enc y=.agg (Ty.encs fs z):=by
 cases u with
 |st fs=>exact⟨fs,y,h,rfl⟩
 |_=>cases h
theorem UK{n s:Nat}{f:(t:Ty)->yO (yL t.aN)}{u:Ty}{y:u.aN}(h:ui n s f u=ab y):∃(t:Ty)(l:yL t.aN),f t=ab l/\u.enc y=.arr n s (l.map t.enc):=by
 cases u with
 |arr m t=>
  have h':(if n=m/\s=t.size then f t else ae)=ab y:=h
  split at h'
  .rename_i e;obtain⟨rfl,rfl⟩:=e;exact⟨t,y,h',rfl⟩
  .cases h'
 |_=>cases h
theorem UL{fs:yL Ty}{y:Ty.aI fs}(h:uj fs=ab y):Ty.encs fs y=[]:=by
 cases fs with
 |nil=>rfl
 |cons _ _=>cases h
theorem UM{f:(t:Ty)->yO t.aN}{b:Bool}{g:(fs:yL Ty)->yO (Ty.aI fs)}{fs:yL Ty}{y:Ty.aI fs}(h:qn f b g fs=ab y):
 ∃(t:Ty)(x:t.aN)(l:yL Pl),f t=ab x/\Ty.encs fs y=t.enc x::l/\((b=af/\l=[])\/∃(gs:yL Ty)(z:Ty.aI gs),g gs=ab z/\l=Ty.encs gs z):=by
 match fs,y,h with
 |[],_,h=>cases h
 |[t],y,h=>
  have h':(if b then f t else ae)=ab y:=h
  split at h'
  .rename_i hb;exact⟨t,y,[],h',rfl,.inl ⟨hb,rfl⟩⟩
  .cases h'
 |t::u::q,y,h=>
  obtain⟨h1,h2⟩:=VJ (α:=t.aN) (β:=Ty.aI (u::q)) h;exact⟨t,y.1,_,h1,rfl,.inr ⟨u::q,y.2,h2,rfl⟩⟩
mutual
theorem kz{ok:yO Bool->Bool}:∀(x:TP)(t:Ty)(y:t.aN),TP.to ok x t=ab y->x.pe.soft=t.enc y
 |.v t x,u,y,h=>by
  obtain⟨e,rfl⟩:=Vj (show Ty.cast t u x=ab y from h)
  subst e
  exact ug t x
 |.sl nn t xs,u,y,h=>by
  obtain⟨l,_,h2,h3⟩:=AU (nn:=nn) (show ql (ok nn) t xs u=ab y from h)
  rw[h2,h3]
  rfl
 |.agg xs,u,y,h=>by
  obtain⟨fs,z,h1,h2⟩:=AV (show qm (TP.iy ok xs) u=ab y from h)
  rw[h2];show Pl.agg (Pl.cH (TP.cg xs))=_
  rw[fW xs fs z h1]
 |.arr n s xs,u,y,h=>by
  obtain⟨t,l,h1,h2⟩:=UK (show ui n s (TP.kv ok xs) u=ab y from h)
  rw[h2];show Pl.arr n s (Pl.cH (TP.cg xs))=_
  rw[fX xs t l h1]
 |.ku _ _ _,_,_,h=>nomatch (show ae=ab _ from h)
 |.bf,_,_,h=>nomatch (show ae=ab _ from h)
 |.fn0,_,_,h=>nomatch (show ae=ab _ from h)
 |.dN,_,_,h=>nomatch (show ae=ab _ from h)
 |.ci,_,_,h=>nomatch (show ae=ab _ from h)
 |.fQ _,_,_,h=>nomatch (show ae=ab _ from h)
 |.iface _ _,_,_,h=>nomatch (show ae=ab _ from h)
theorem fW{ok:yO Bool->Bool}:∀(xs:yL TP)(fs:yL Ty)(y:Ty.aI fs),TP.iy ok xs fs=ab y->Pl.cH (TP.cg xs)=Ty.encs fs y
 |[],fs,y,h=>(UL (show uj fs=ab y from h)).symm
 |x::r,fs,y,h=>by
  obtain⟨t,a,l,h1,h2,h3⟩:=UM (show qn (TP.to ok x) r.isEmpty (TP.iy ok r) fs=ab y from h)
  rw[h2];show x.pe.soft::Pl.cH (TP.cg r)=_;rw[kz x t a h1];rcases h3 with⟨h4,rfl⟩|⟨gs,z,h4,rfl⟩
  .cases r with
   |nil=>rfl
   |cons _ _=>cases h4
  .rw[fW r gs z h4]
theorem fX{ok:yO Bool->Bool}:∀(xs:yL TP)(t:Ty)(y:yL t.aN),TP.kv ok xs t=ab y->Pl.cH (TP.cg xs)=y.map t.enc
 |[],_,y,h=>by
  cases (show ab []=ab y from h)
  rfl
 |x::r,t,y,h=>by
  obtain⟨q,h1,rfl⟩:=Zb (show(jG (TP.to ok x t) (TP.kv ok r t)).map (λq=>q.1::q.2)=ab y from h)
  obtain⟨h2,h3⟩:=VJ h1;show x.pe.soft::Pl.cH (TP.cg r)=_;rw[kz x t q.1 h2,fX r t q.2 h3,yad]
end
theorem qo{ok:yO Bool->Bool}{x:TP}{t:Ty}{y:t.aN}(h:TP.to ok x t=ab y):bN x.pe (t.enc y):=kz x t y h ▸ kZ x.pe
mutual
theorem oe:∀(x:TP)(t:Ty)(y:t.aN),TP.to fl x t=ab y->x.pe=t.enc y
 |.v t x,u,y,h=>by
  obtain⟨e,rfl⟩:=Vj (show Ty.cast t u x=ab y from h)
  subst e
  rfl
 |.sl nn t xs,u,y,h=>by
  obtain⟨l,h1,h2,h3⟩:=AU (nn:=nn) (show ql (fl nn) t xs u=ab y from h)
  rw[h2,h3]
  cases nn with
  |none=>rfl
  |some _=>cases h1
 |.agg xs,u,y,h=>by
  obtain⟨fs,z,h1,h2⟩:=AV (show qm (TP.iy fl xs) u=ab y from h)
  rw[h2];show Pl.agg (TP.cg xs)=_
  rw[dK xs fs z h1]
 |.arr n s xs,u,y,h=>by
  obtain⟨t,l,h1,h2⟩:=UK (show ui n s (TP.kv fl xs) u=ab y from h)
  rw[h2];show Pl.arr n s (TP.cg xs)=_
  rw[eD xs t l h1]
 |.ku _ _ _,_,_,h=>nomatch (show ae=ab _ from h)
 |.bf,_,_,h=>nomatch (show ae=ab _ from h)
 |.fn0,_,_,h=>nomatch (show ae=ab _ from h)
 |.dN,_,_,h=>nomatch (show ae=ab _ from h)
 |.ci,_,_,h=>nomatch (show ae=ab _ from h)
 |.fQ _,_,_,h=>nomatch (show ae=ab _ from h)
 |.iface _ _,_,_,h=>nomatch (show ae=ab _ from h)
theorem dK:∀(xs:yL TP)(fs:yL Ty)(y:Ty.aI fs),TP.iy fl xs fs=ab y->TP.cg xs=Ty.encs fs y
 |[],fs,y,h=>(UL (show uj fs=ab y from h)).symm
 |x::r,fs,y,h=>by
  obtain⟨t,a,l,h1,h2,h3⟩:=UM (show qn (TP.to fl x) r.isEmpty (TP.iy fl r) fs=ab y from h)
  rw[h2];show x.pe::TP.cg r=_;rw[oe x t a h1];rcases h3 with⟨h4,rfl⟩|⟨gs,z,h4,rfl⟩
  .cases r with
   |nil=>rfl
   |cons _ _=>cases h4
  .rw[dK r gs z h4]
theorem eD:∀(xs:yL TP)(t:Ty)(y:yL t.aN),TP.kv fl xs t=ab y->TP.cg xs=y.map t.enc
 |[],_,y,h=>by
  cases (show ab []=ab y from h)
  rfl
 |x::r,t,y,h=>by
  obtain⟨q,h1,rfl⟩:=Zb (show(jG (TP.to fl x t) (TP.kv fl r t)).map (λq=>q.1::q.2)=ab y from h)
  obtain⟨h2,h3⟩:=VJ h1;show x.pe::TP.cg r=_;rw[oe x t q.1 h2,eD r t q.2 h3,yad]
end
mutual
def fJ(P:yg):Nat->yc->yO Ty
 |0,_=>ae
 |n+1,t=>match P.underlying t with
  |some (.int .u8)=>ab .u8
  |some (.int .u32)=>ab .u32
  |some (.int .u64)=>ab .u64
  |some (.int k)=>ab (.int k)
  |some .bool=>ab .bool
  |some .string=>ab .str
  |some (.slice e)=>(fJ P n e).map .sl
  |some (.array m e)=>(fJ P n e).map (.arr m)
  |some (.struct fs)=>(ll P n (fs.toList.map (·.type))).map .st
  |_=>ae
def ll(P:yg):Nat->yL yc->yO (yL Ty)
 |0,_=>ae
 |_+1,[]=>ab []
 |n+1,t::r=>match fJ P n t,ll P n r with
  |some a,ab b=>ab (a::b)
  |_,_=>ae
end
def AW(k:IntKind)(z:Int):TP:=
 match k with
 |.u8=>.v .u8 (ybh z.toNat)
 |.u32=>.v .u32 (UInt32.ofNat z.toNat)
 |.u64=>.v .u64 (yaf z.toNat)
 |k=>.v (.int k) z
def mK(k:IntKind)(z:Int):Bool:=
 match k with
 |.u8=>ah (0<=z)&&ah (z < 256)
 |.u32=>ah (0<=z)&&ah (z < 4294967296)
 |.u64=>ah (0<=z)&&ah (z < 18446744073709551616)
 |_=>af
theorem ZL7{k:IntKind}{z:Int}(h:mK k z=af):(AW k z).pe=.int k z:=by
 cases k <;> simp only[mK,yi,yP]at h <;> simp only[AW,TP.pe,Ty.enc]
 .simp only[Pl.int.injEq,true_and,UInt8.toNat_ofNat'];omega
 .simp only[Pl.int.injEq,true_and,ycu];omega
 .simp only[Pl.int.injEq,true_and,ybj];omega
abbrev wi(z:Int):Int:=IntKind.i64.wrap z
def w8(z:Int):yB:=ybh (z % 256).toNat
def w32(z:Int):yV:=UInt32.ofNat (z % 4294967296).toNat
def eK(z:Int):yU:=yaf (z % 18446744073709551616).toNat
def ul(k:IntKind)(z:Int):TP:=
 match k with
 |.u8=>.v .u8 (w8 z)
 |.u32=>.v .u32 (w32 z)
 |.u64=>.v .u64 (eK z)
 |k=>.v (.int k) (k.wrap z)
theorem ZOk(z:Int):((w8 z).toNat:Int)=IntKind.u8.wrap z:=by
 simp only[w8,IntKind.wrap,IntKind.signed,IntKind.bits,UInt8.toNat_ofNat'];simp;omega
theorem ZL9(z:Int):((w32 z).toNat:Int)=IntKind.u32.wrap z:=by
 simp only[w32,IntKind.wrap,IntKind.signed,IntKind.bits,ycu];simp;omega
theorem ZMa(z:Int):((eK z).toNat:Int)=IntKind.u64.wrap z:=by
 simp only[eK,IntKind.wrap,IntKind.signed,IntKind.bits,ybj];simp;omega
theorem UN(k:IntKind)(z:Int):(ul k z).pe=.int k (k.wrap z):=by
 cases k <;> simp only[ul,TP.pe,Ty.enc,ZOk,ZL9,ZMa]
def AX:IntKind->Bool
 |.u8=>ag
 |.u32=>ag
 |.u64=>ag
 |_=>af
def iz:TP->yO (IntKind×Int)
 |.v (.int k) n=>if AX k then ab (k,n) else ae
 |.v .u8 b=>ab (.u8,(b.toNat:Int))
 |.v .u32 b=>ab (.u32,(b.toNat:Int))
 |.v .u64 b=>ab (.u64,(b.toNat:Int))
 |_=>ae
theorem og{x:TP}{q:IntKind×Int}(h:iz x=ab q):x.pe=.int q.1 q.2/\mK q.1 q.2=af:=by
 unfold iz at h;split at h
 .rename_i k n;split at h
  .rename_i hk;cases h;refine⟨rfl, ?_⟩;cases k <;> first|rfl|cases hk
  .cases h
 .rename_i b;cases h;exact⟨rfl,by simp only[mK,yi,yP];have:=b.toNat_lt;omega⟩
 .rename_i b;cases h;exact⟨rfl,by simp only[mK,yi,yP];have:=b.toNat_lt;omega⟩
 .rename_i b;cases h;exact⟨rfl,by simp only[mK,yi,yP];have:=b.toNat_lt;omega⟩
 .cases h
def gj:Nat:=40
def um(P:yg)(t:yc)(l:yL TP):TP:=
 match fJ P gj t with
 |some (.st fs)=>match TP.iy fl l fs with
  |some x=>.v (.st fs) x
  |none=>.agg l
 |_=>.agg l
theorem UO{P:yg}(t:yc)(l:yL TP):(um P t l).pe=.agg (TP.cg l):=by
 unfold um;split
 .rename_i fs _;split
  .rename_i x h;show Pl.agg (Ty.encs fs x)=_;rw[dK l fs x h]
  .rfl
 .rfl
def uo(P:yg)(t:yc)(n s:Nat)(l:yL TP):TP:=
 match fJ P gj t with
 |some (.arr _ u)=>if s=u.size then match TP.kv fl l u with
  |some x=>.v (.arr n u) x
  |none=>.arr n s l else .arr n s l
 |_=>.arr n s l
theorem UP{P:yg}(t:yc)(n s:Nat)(l:yL TP):(uo P t n s l).pe=.arr n s (TP.cg l):=by
 unfold uo;split
 .rename_i u _;split
  .rename_i e;split
   .rename_i x h;show Pl.arr n u.size (List.map u.enc x)=_;rw[eD l u x h,e]
   .rfl
  .rfl
 .rfl
def qp(f:yc->Pl->yO TP):yL yc->yL Pl->yO (yL TP)
 |[],[]=>ab []
 |t::r,x::q=>match f t x,qp f r q with
  |some a,ab b=>ab (a::b)
  |_,_=>ae
 |_,_=>ae
def qq(P:yg):Nat->yc->Pl->yO TP
 |0,_,_=>ae
 |n+1,t,x=>match x with
  |.int k z=>if mK k z then ab (AW k z) else ae
  |.bool b=>ab (.v .bool b)
  |.str b=>ab (.v .str b)
  |.bf=>ab .bf
  |.fn0=>ab .fn0
  |.dN=>ab .dN
  |.ci=>ab .ci
  |.sl nn s []=>match P.underlying t with
   |some (.slice e)=>(fJ P gj e).bind λT=>if s=T.size then ab (.sl nn T []) else ae
   |_=>ae
  |.agg xs=>match P.underlying t with
   |some (.struct fs)=>(qp (qq P n) (fs.toList.map (·.type)) xs).map (um P t)
   |_=>ae
  |.arr m s xs=>match P.underlying t with
   |some (.array _ e)=>(qp (qq P n) (yy xs.length e) xs).map (uo P t m s)
   |_=>ae
  |_=>ae
theorem AY{f:yc->Pl->yO TP}(h:∀t x y,f t x=ab y->y.pe=x):∀(l:yL yc)(xs:yL Pl)(r:yL TP),qp f l xs=ab r->TP.cg r=xs
 |[],[],r,k=>by cases k;rfl
 |[],_::_,r,k=>by cases k
 |_::_,[],r,k=>by cases k
 |t::l,x::xs,r,k=>by
  simp only[qp]at k;split at k
  .rename_i a b h1 h2;cases k;rw[TP.cg,h t x a h1,AY h l xs b h2]
  .cases k
theorem AZ{P:yg}:∀(n:Nat)(t:yc)(x:Pl)(y:TP),qq P n t x=ab y->y.pe=x
 |0,_,_,_,h=>by cases h
 |n+1,t,x,y,h=>by
  unfold qq at h;split at h
  .split at h
   .rename_i hk;cases h;exact ZL7 hk
   .cases h
  .cases h;rfl
  .cases h;rfl
  .cases h;rfl
  .cases h;rfl
  .cases h;rfl
  .cases h;rfl
  .split at h
   .obtain⟨T,h1,h2⟩:=yf.1 h;split at h2
    .rename_i e;cases h2;rw[TP.pe,e];rfl
    .cases h2
   .cases h
  .split at h
   .obtain⟨l,h1,rfl⟩:=Zb h;rw[UO,AY (AZ n) _ _ _ h1]
   .cases h
  .split at h
   .obtain⟨l,h1,rfl⟩:=Zb h;rw[UP,AY (AZ n) _ _ _ h1]
   .cases h
  .cases h
def up(P:yg)(t:yc)(x:Pl):yO TP:=qq P 30 t x
def BA(P:yg)(t:yc)(v:yh):yO TD:=
 match nK P t v with
 |.p x=>(up P t x).map .p
 |.fn f []=>ab (.fn f [])
 |_=>ae
def aW(P:yg)(ts:yL TD)(t:yc):yn->yO TD
 |.tmp i=>ab (ts.getD i .ao)
 |.const v=>BA P t v
 |.global _=>ae
 |.func f=>if f < big then ab (.fn f []) else ae
theorem BB{P:yg}{t:yc}{x:Pl}{y:TP}(h:up P t x=ab y):y.pe=x:=AZ _ _ _ _ h
theorem uq{L:Lk}(ts:yL TD)(i:Nat):(TD.ay L ts).getD i .ao=(ts.getD i .ao).er L:=by
 rw[Zz];simp only[List.getD_eq_getElem?_getD,yaj];cases ts[i]? <;> rfl
theorem Zq{L:Lk}{P:yg}{ts:yL TD}{t:yc}{x:yn}{d:TD}(h:aW P ts t x=ab d):Zs P (TD.ay L ts) t x=d.er L:=by
 cases x with
 |tmp i=>cases h;exact uq ts i
 |const v=>
  have h':BA P t v=ab d:=h;show nK P t v=d.er L;unfold BA at h';split at h'
  .rename_i x hx;obtain⟨y,h1,rfl⟩:=Zb h';rw[hx,TD.er,BB h1]
  .rename_i f hf;cases h';rw[hf];rfl
  .cases h'
 |global _=>cases h
 |func f=>
  have h':(if f < big then ab (TD.fn f []) else ae)=ab d:=h
  by_cases hf:f < big
  .rw[yW hf]at h';cases h';show(if f < big then Dv.fn f [] else .ao)=_
   rw[yW hf];rfl
  .rw[yX hf]at h';cases h'
structure HI where
 own:List Tmp:=[]
 still:List Tmp:=[]
 row:List Tmp:=[]
 bU:List Tmp:=[]
 deep:List yc:=[]
 eqs:Bool:=ag
 cW:List Tmp:=[]
 cb:List (Tmp×List (List Nat×Ty×yc)):=[]
 ff:List (Tmp×List (List Nat×Ty×yc)):=[]
 lits:List Tmp:=[]
 rew:List (Tmp×Tmp):=[]
 mkn:List Tmp:=[]
 deriving Inhabited
def dq(L:Lk)(P:yg)(o:Oper)(ts:yL TD)(d:TD)(hs:yL al):Prop:=
 ∃C,bc C/\∀yK,aX P o (TD.ay L ts) (hs++yK)=ab (C,d.er L,yK)
def idx{α:Type}(l:yL α)(i:Int):yO α:=if 0<=i then l[i.toNat]? else ae
def ZQY(m n:Int):Int:=if n > m then n else m
def ba(i:Int)(n:Nat):Bool:=ah (0<=i)&&ah (i < (n:Int))
def ei(len:Nat):yO Int->yO Int->Bool
 |none,ae=>af
 |none,ab h=>ah (0<=h)&&ah (h<=(len:Int))
 |some l,ae=>ah (0<=l)&&ah (l<=(len:Int))
 |some l,ab h=>ah (0<=l)&&(ah (l<=h)&&ah (h<=(len:Int)))
def lm(n b:Nat):Bool:=ah (n*b<=Zr)&&ah (n<=maxLen)
theorem qr{α:Type}{l:yL α}{i:Int}{y:α}(h:idx l i=ab y):0<=i/\l[i.toNat]? =ab y:=by
 unfold idx at h;split at h
 .exact⟨by assumption,h⟩
 .cases h
theorem Vu{i:Int}{n:Nat}(h:ba i n=af):0<=i/\i < (n:Int):=by simpa[ba] using h
theorem mL{len:Nat}{l h:yO Int}(k:ei len l h=af):bc (YT len l h):=by
 cases l <;> cases h <;> simp only[ei,yi,yP]at k <;> simp only[YT,bc,and_true]
 .exact k
 .exact k
 .exact k
theorem Qz{n b:Nat}(h:lm n b=af):n*b<=Zr/\n<=maxLen:=by simpa[lm] using h
theorem Za{α:Type}{b:Bool}{k:yO α}{r:α}(h:(if b=af then k else ae)=ab r):b=af/\k=ab r:=by
 cases b
 .cases h
 .exact⟨rfl,h⟩
theorem ur{α β:Type}(f:α->β)(l:yL α)(a b:yO Int):(WU l a b).map f=WU (l.map f) a b:=by
 cases a <;> cases b <;> simp[WU]
def TP.fV:TP->Nat->yO TP
 |.v (.st fs) x,i=>(Ty.mJ fs x i).map λq=>.v q.1 q.2
 |.agg l,i=>l[i]?
 |_,_=>ae
theorem UQ{x y:TP}{i:Nat}(h:x.fV i=ab y):∃xs,x.pe=.agg xs/\xs[i]? =ab y.pe:=by
 unfold TP.fV at h;split at h
 .obtain⟨q,h1,rfl⟩:=Zb h;exact⟨_,rfl,UI _ _ _ q h1⟩
 .exact⟨_,rfl,by rw[WB,yaj,h];rfl⟩
 .cases h
structure Row where
 nn:Option Bool
 t:Ty
 l:List t.aN
def TP.row:TP->yO Row
 |.v (.sl t) l=>ab ⟨ae,t,l⟩
 |.sl nn t l=>ab ⟨nn,t,l⟩
 |_=>ae
theorem ZOm{x:TP}{r:Row}(h:x.row=ab r):x.pe=.sl r.nn r.t.size (r.l.map r.t.enc):=by
 unfold TP.row at h;split at h
 .cases h;rfl
 .cases h;rfl
 .cases h
structure mM where
 n:Nat
 t:Ty
 l:List t.aN
def TP.dF:TP->yO mM
 |.v (.arr n t) l=>ab ⟨n,t,l⟩
 |_=>ae
theorem WY{x:TP}{r:mM}(h:x.dF=ab r):x.pe=.arr r.n r.t.size (r.l.map r.t.enc):=by
 unfold TP.dF at h;split at h
 .cases h;rfl
 .cases h
def Ty.isAgg:Ty->Bool
 |.arr _ _=>af
 |.st _=>af
 |_=>ag
theorem uu(t:Ty)(x:t.aN):(t.enc x).isAgg=t.isAgg:=by cases t <;> rfl
def TD.row(L:Lk):TD->yO Row
 |.p x=>x.row
 |.own id nn t c=>ab ⟨nn,t,Z3 L id t c⟩
 |_=>ae
theorem lr{L:Lk}{x:TD}{r:Row}(h:x.row L=ab r):x.er L=.p (.sl r.nn r.t.size (r.l.map r.t.enc))\/∃id,x.er L=.own id r.nn r.t.size (r.l.map r.t.enc):=by
 unfold TD.row at h;split at h
 .exact .inl (by rw[TD.er,ZOm h])
 .cases h;exact .inr ⟨_,rfl⟩
 .cases h
def TD.plain(L:Lk):TD->yO TP
 |.p x=>ab x
 |.own id nn t c=>ab (.sl nn t (Z3 L id t c))
 |_=>ae
theorem UR{L:Lk}{x:TD}{y:TP}(h:x.plain L=ab y):(x.er L).plain=ab y.pe:=by
 unfold TD.plain at h;split at h
 .cases h;rfl
 .cases h;rfl
 .cases h
mutual
def TD.flat(L:Lk):TD->yO TP
 |.p x=>ab x
 |.own id nn t c=>ab (.sl nn t (Z3 L id t c))
 |.agg ds=>(TD.aM L ds).map .agg
 |_=>ae
def TD.aM(L:Lk):yL TD->yO (yL TP)
 |[]=>ab []
 |d::r=>match d.flat L,TD.aM L r with
  |some x,ab xs=>ab (x::xs)
  |_,_=>ae
end
mutual
theorem qt{L:Lk}:∀(d:TD),(d.er L).flat=(d.flat L).map TP.pe
 |.p x=>by rw[TD.er,Dv.flat,TD.flat];rfl
 |.own id nn t c=>by rw[TD.er,Dv.flat,TD.flat];rfl
 |.agg ds=>by
  rw[TD.er,Dv.flat,TD.flat,eZ ds]
  cases TD.aM L ds <;> rfl
 |.elem _=>rfl
 |.ak _ _=>rfl
 |.view _ _ _ _ _=>rfl
 |.arr _ _ _=>rfl
 |.fn _ _=>rfl
 |.iface _ _=>rfl
 |.bj _=>rfl
 |.mp _=>rfl
 |.rv _ _ _ _ _=>rfl
 |.aY _ _ _=>rfl
 |.rw _=>rfl
 |.rp _ _=>rfl
 |.ao=>rfl
theorem eZ{L:Lk}:∀(ds:yL TD),Dv.aM (TD.ay L ds)=(TD.aM L ds).map TP.cg
 |[]=>rfl
 |d::r=>by
  rw[TD.ay,Dv.aM,TD.aM,qt d,eZ r];cases d.flat L <;> cases TD.aM L r <;> rfl
end
theorem uv{L:Lk}{x:TD}{y:TP}(h:x.flat L=ab y):(x.er L).flat=ab y.pe:=by rw[qt,h];rfl
mutual
def TD.owns(ids:yL Nat):TD->Bool
 |.own id _ _ _=>ids.contains id
 |.agg ds=>TD.dB ids ds
 |_=>ag
def TD.dB(ids:yL Nat):yL TD->Bool
 |[]=>ag
 |d::r=>d.owns ids || TD.dB ids r
end
mutual
theorem ZMd{L:Lk}{ids:yL Nat}:∀(d:TD),(d.er L).owns ids=d.owns ids
 |.p x=>rfl
 |.own id nn t c=>rfl
 |.agg ds=>by rw[TD.er,Dv.owns,TD.owns,fa ds]
 |.elem _=>rfl
 |.ak _ _=>rfl
 |.view _ _ _ _ _=>rfl
 |.arr _ _ _=>rfl
 |.fn _ _=>rfl
 |.iface _ _=>rfl
 |.bj _=>rfl
 |.mp _=>rfl
 |.rv _ _ _ _ _=>rfl
 |.aY _ _ _=>rfl
 |.rw _=>rfl
 |.rp _ _=>rfl
 |.ao=>rfl
theorem fa{L:Lk}{ids:yL Nat}:∀(ds:yL TD),Dv.dB ids (TD.ay L ds)=TD.dB ids ds
 |[]=>rfl
 |d::r=>by rw[TD.ay,Dv.dB,TD.dB,ZMd d,fa r]
end
def TD.dw(L:Lk)(ds:yL TD):TD:=
 match TD.aM L ds with
 |some xs=>.p (.agg xs)
 |none=>.agg ds
theorem US{L:Lk}(ds:yL TD):(TD.dw L ds).er L=Dv.dw (TD.ay L ds):=by
 unfold TD.dw Dv.dw;rw[eZ];cases TD.aM L ds <;> rfl
section
variable{L:Lk}{P:yg}{o:Oper}{ts:yL TD}{O:Type}
def okB(P:yg)(e:yc)(s:Nat):Bool:=ah (P.cellsOf e=s)&&(P.info? e).isSome
def BC(L:Lk)(P:yg)(t:yc)(i:Nat)(K:TD->yL al->yO O):TD->yO O
 |.p x=>(x.fV i).bind λz=>if(QJ P t (.p x.pe) i).isSome then K (.p z) [] else ae
 |.agg ds=>(ds[i]?).bind λz=>if(QJ P t (.agg (TD.ay L ds)) i).isSome then K z [] else ae
 |_=>ae
theorem UT{t:yc}{i:Nat}{K:TD->yL al->yO O}{x:TD}{out:O}(h:BC L P t i K x=ab out):∃d,K d []=ab out/\QJ P t (x.er L) i=ab (d.er L):=by
 unfold BC at h;split at h
 .rename_i x;obtain⟨z,h1,h2⟩:=yf.1 h;obtain⟨h3,h4⟩:=Za h2;refine⟨_,h4, ?_⟩;obtain⟨xs,e1,e2⟩:=UQ h1;rw[TD.er];obtain⟨d,hd⟩:=Option.isSome_iff_exists.1 h3;rw[hd];unfold QJ at hd;rw[e1]at hd;split at hd
  .rename_i hx;cases hx;rw[e2]at hd;dsimp only at hd;split at hd
   .cases hd;rfl
   .cases hd
  .rename_i hx;cases hx
  .cases hd
 .rename_i ds;obtain⟨z,h1,h2⟩:=yf.1 h;obtain⟨h3,h4⟩:=Za h2;refine⟨_,h4, ?_⟩;have e2:=Vt (L:=L) h1;rw[TD.er];obtain⟨d,hd⟩:=Option.isSome_iff_exists.1 h3;rw[hd];unfold QJ at hd;split at hd
  .rename_i hx;cases hx
  .rename_i hx;cases hx;rw[e2]at hd;dsimp only at hd;split at hd
   .cases hd;rfl
   .cases hd
  .cases hd
 .cases h
theorem QV(l:yL ca)(q:ca):XZ (l++[q])=XZ l+q.o:=by simp[XZ]
def BD(P:yg)(t:yc)(i:Nat)(K:TD->yL al->yO O):TD->yO O
 |.ak id yQ=>match P.underlying t with
  |some (.struct fs)=>match fs[i]? with
   |some f=>if P.cellsOf f.type !=0&&(P.info? f.type).isSome then K (.ak id (yQ++[.fV i f.offset])) [] else ae
   |none=>ae
  |_=>ae
 |.aY id v yQ=>match P.underlying t with
  |some (.struct fs)=>match fs[i]? with
   |some f=>if P.cellsOf f.type !=0&&(P.info? f.type).isSome then K (.aY id v (yQ++[.fV i f.offset])) [] else ae
   |none=>ae
  |_=>ae
 |.rp id yQ=>match P.underlying t with
  |some (.struct fs)=>match fs[i]? with
   |some f=>if P.cellsOf f.type !=0&&(P.info? f.type).isSome then K (.rp id (yQ++[.fV i f.offset])) [] else ae
   |none=>ae
  |_=>ae
 |.elem x=>(x.fV i).bind λz=>if(QJ P t (.p x.pe) i).isSome then K (.elem z) [] else ae
 |_=>ae
theorem ZsA{t:yc}{i:Nat}{x:yn}{K:TD->yL al->yO O}{xd:TD}{out:O}(ho:o.op=.fieldAddr t x i)(hx:aW P ts 0 x=ab xd)(h:BD P t i K xd=ab out):∃d hs,K d hs=ab out/\dq L P o ts d hs:=by
 have hv:=Zq (L:=L) hx;unfold BD at h;split at h
 .rename_i id yQ;split at h
  .rename_i fs hu;split at h
   .rename_i f hf;obtain⟨h3,h4⟩:=Za h;refine⟨_,_,h4,[],zP,λyK=> ?_⟩;simp only[yv];unfold aX;rw[ho];dsimp only;rw[hu,hv];dsimp only[TD.er];rw[hf];dsimp only;rw[yW h3,yal,QV];rfl
   .cases h
  .cases h
 .rename_i id v yQ;split at h
  .rename_i fs hu;split at h
   .rename_i f hf;obtain⟨h3,h4⟩:=Za h;refine⟨_,_,h4,[],zP,λyK=> ?_⟩;simp only[yv];unfold aX;rw[ho];dsimp only;rw[hu,hv];dsimp only[TD.er];rw[hf];dsimp only;rw[yW h3,yal,QV];rfl
   .cases h
  .cases h
 .rename_i id yQ;split at h
  .rename_i fs hu;split at h
   .rename_i f hf;obtain⟨h3,h4⟩:=Za h;refine⟨_,_,h4,[],zP,λyK=> ?_⟩;simp only[yv];unfold aX;rw[ho];dsimp only;rw[hu,hv];dsimp only[TD.er];rw[hf];dsimp only;rw[yW h3,yal,QV];rfl
   .cases h
  .cases h
 .rename_i x;obtain⟨z,h1,h2⟩:=yf.1 h;obtain⟨h3,h4⟩:=Za h2;refine⟨_,_,h4,[],zP,λyK=> ?_⟩;obtain⟨d,hd,he⟩:=UT (L:=L) (P:=P) (t:=t) (i:=i) (K:=λd _=>ab d) (x:=.p x) (out:=.p z) (by show(x.fV i).bind _=_;rw[h1];exact yW h3);cases hd;simp only[yv];unfold aX;rw[ho];dsimp only;rw[hv]
  have hu:∃fs,P.underlying t=ab (.struct fs):=by
   unfold QJ at h3;split at h3
   .exact⟨_,by assumption⟩
   .exact⟨_,by assumption⟩
   .cases h3
  obtain⟨fs,hu⟩:=hu;rw[hu];dsimp only[TD.er]at he ⊢;rw[he]
 .cases h
theorem qu{t:Ty}{l:yL t.aN}{i:Nat}{y:t.aN}(h:l[i]? =ab y):(l.map t.enc)[i]? =ab (t.enc y):=by rw[yaj,h];rfl
def BE(L:Lk)(P:yg)(t:yc)(i:Int)(K:TD->yL al->yO O)(xd:TD):yO O:=
 match P.underlying t,xd with
 |some (.slice e),.view id yQ s lo n=>if okB P e s=af then if ba i n=af then K (.ak id (yQ++[.ix (lo+i.toNat) s])) [] else ae else ae
 |some (.slice e),.rv id v s lo n=>if okB P e s=af then if ba i n=af then K (.aY id v [.ix (lo+i.toNat) s]) [] else ae else ae
 |some (.slice e),xd=>(xd.row L).bind λr=>if okB P e r.t.size=af then(idx r.l i).bind λy=>K (.elem (.v r.t y)) [.el (r.t.enc y)] else ae
 |some (.array n e),.ak id yQ=>if(P.info? e).isSome then if ba i n=af then K (.ak id (yQ++[.ix i.toNat (P.cellsOf e)])) [] else ae else ae
 |some (.array n e),.aY id v yQ=>if(P.info? e).isSome then if ba i n=af then K (.aY id v (yQ++[.ix i.toNat (P.cellsOf e)])) [] else ae else ae
 |some (.array n e),.rp id yQ=>if(P.info? e).isSome then if ba i n=af then K (.rp id (yQ++[.ix i.toNat (P.cellsOf e)])) [] else ae else ae
 |some (.array n e),.elem x=>x.dF.bind λr=>if ah (n=r.n)&&okB P e r.t.size then(idx r.l i).bind λy=>K (.elem (.v r.t y)) [.el (r.t.enc y)] else ae
 |_,_=>ae
theorem ZMe{e:yc}{s:Nat}(h:okB P e s=af):P.cellsOf e=s/\(P.info? e).isSome=af:=by simpa[okB] using h
theorem ZsB{t:yc}{x ix:yn}{K:TD->yL al->yO O}{xd id:TD}{q:IntKind×Int}{ip:TP}{out:O}(ho:o.op=.indexAddr t x ix)(hx:aW P ts t x=ab xd)(hi:aW P ts 0 ix=ab (.p ip))(hq:iz ip=ab q)
 (h:BE L P t q.2 K xd=ab out):∃d hs,K d hs=ab out/\dq L P o ts d hs:=by
 have hv:=Zq (L:=L) hx;have hw:=Zq (L:=L) hi;rw[TD.er,(og hq).1]at hw;unfold BE at h;split at h
 .rename_i e id yQ s lo n hu;obtain⟨h3,h⟩:=Za h;obtain⟨h4,h⟩:=Za h;refine⟨_,_,h,[0<=q.2,q.2 < (n:Int)],⟨(Vu h4).1,(Vu h4).2,au⟩,λyK=> ?_⟩;simp only[yv];unfold aX;rw[ho];dsimp only;rw[hu,hv,hw];dsimp only[TD.er];rw[yW (by simpa[okB] using h3),yal,QV];rfl
 .rename_i e id v s lo n hu;obtain⟨h3,h⟩:=Za h;obtain⟨h4,h⟩:=Za h;refine⟨_,_,h,[0<=q.2,q.2 < (n:Int)],⟨(Vu h4).1,(Vu h4).2,au⟩,λyK=> ?_⟩;simp only[yv];unfold aX;rw[ho];dsimp only;rw[hu,hv,hw];dsimp only[TD.er];rw[yW (by simpa[okB] using h3)];simp[XZ,ca.o,ca.i]
 .rename_i e hu _ _;obtain⟨r,h1,h⟩:=yf.1 h;obtain⟨h3,h⟩:=Za h;obtain⟨y,h5,h⟩:=yf.1 h;obtain⟨h6,h7⟩:=qr h5;refine⟨_,_,h,[0<=q.2,(r.l.map r.t.enc)[q.2.toNat]? =ab (r.t.enc y)],⟨h6,qu h7,au⟩,λyK=> ?_⟩;unfold aX;rw[ho];dsimp only;rcases lr h1 with he|⟨id,he⟩
  .rw[hu,hv,hw,he];dsimp only;rw[yaa,yv];dsimp only;rw[yW (by simpa[okB] using h3)];rfl
  .rw[hu,hv,hw,he];dsimp only;rw[yaa,yv];dsimp only;rw[yW (by simpa[okB] using h3)];rfl
 .rename_i n e id yQ hu;obtain⟨h3,h⟩:=Za h;obtain⟨h4,h⟩:=Za h;refine⟨_,_,h,[0<=q.2,q.2 < (n:Int)],⟨(Vu h4).1,(Vu h4).2,au⟩,λyK=> ?_⟩;simp only[yv];unfold aX;rw[ho];dsimp only;rw[hu,hv,hw];dsimp only[TD.er];rw[yW h3,yal,QV];rfl
 .rename_i n e id v yQ hu;obtain⟨h3,h⟩:=Za h;obtain⟨h4,h⟩:=Za h;refine⟨_,_,h,[0<=q.2,q.2 < (n:Int)],⟨(Vu h4).1,(Vu h4).2,au⟩,λyK=> ?_⟩;simp only[yv];unfold aX;rw[ho];dsimp only;rw[hu,hv,hw];dsimp only[TD.er];rw[yW h3,yal,QV];rfl
 .rename_i n e id yQ hu;obtain⟨h3,h⟩:=Za h;obtain⟨h4,h⟩:=Za h;refine⟨_,_,h,[0<=q.2,q.2 < (n:Int)],⟨(Vu h4).1,(Vu h4).2,au⟩,λyK=> ?_⟩;simp only[yv];unfold aX;rw[ho];dsimp only;rw[hu,hv,hw];dsimp only[TD.er];rw[yW h3,yal,QV];rfl
 .rename_i n e x hu;obtain⟨r,h1,h⟩:=yf.1 h;obtain⟨h3,h⟩:=Za h;obtain⟨y,h5,h⟩:=yf.1 h;obtain⟨h6,h7⟩:=qr h5;refine⟨_,_,h,[0<=q.2,(r.l.map r.t.enc)[q.2.toNat]? =ab (r.t.enc y)],⟨h6,qu h7,au⟩,λyK=> ?_⟩;unfold aX;rw[ho];dsimp only;rw[hu,hv,hw,TD.er,WY h1];rw[yaa,yv];dsimp only;rw[yW (by simpa[okB,and_assoc] using h3)];rfl
 .cases h
def fm(s:ByteArray):yL yB:=s.data.toList
def TP.kA:TP->yO ByteArray
 |.v .str s=>ab s
 |_=>ae
theorem UU{x:TP}{s:ByteArray}(h:x.kA=ab s):x.pe=.str s:=by
 unfold TP.kA at h;split at h
 .cases h;rfl
 .cases h
def TP.gL:TP->yO Bool
 |.v .bool s=>ab s
 |_=>ae
theorem ZJg{x:TP}{s:Bool}(h:x.gL=ab s):x.pe=.bool s:=by
 unfold TP.gL at h;split at h
 .cases h;rfl
 .cases h
def BF(P:yg)(t:yc)(i:Int)(K:TD->yL al->yO O)(x:TP):yO O:=
 match P.underlying t with
 |some (.array n e)=>match x with
  |.arr n' s xs=>if ah (n=n')&&okB P e s&&((P.underlying e).isSome&&s !=0) then(idx xs i).bind λy=>if(Xi P e==y.pe.isAgg)=af then K (.p y) [.el y.pe] else ae else ae
  |x=>x.dF.bind λr=>if ah (n=r.n)&&okB P e r.t.size&&(Xi P e==r.t.isAgg&&((P.underlying e).isSome&&r.t.size !=0)) then(idx r.l i).bind λy=>K (.p (.v r.t y)) [.el (r.t.enc y)] else ae
 |some .string=>x.kA.bind λs=>(idx (fm s) i).bind λb=>K (.p (.v .u8 b)) [.el (.int .u8 (b.toNat:Int))]
 |_=>ae
theorem ZCf{t:yc}{x ix:yn}{K:TD->yL al->yO O}{xp:TP}{q:IntKind×Int}{ip:TP}{out:O}(ho:o.op=.index t x ix)(hx:aW P ts t x=ab (.p xp))(hi:aW P ts 0 ix=ab (.p ip))(hq:iz ip=ab q)
 (h:BF P t q.2 K xp=ab out):∃d hs,K d hs=ab out/\dq L P o ts d hs:=by
 have hv:=Zq (L:=L) hx;have hw:=Zq (L:=L) hi;rw[TD.er,(og hq).1]at hw;unfold BF at h;split at h
 .rename_i n e hu;split at h
  .rename_i n' s xs;obtain⟨h3,h⟩:=Za h;obtain⟨y,h5,h⟩:=yf.1 h;obtain⟨h8,h⟩:=Za h;obtain⟨h6,h7⟩:=qr h5;refine⟨_,_,h,[0<=q.2,(TP.cg xs)[q.2.toNat]? =ab y.pe],⟨h6,by rw[WB,yaj,h7];rfl,au⟩,λyK=> ?_⟩;unfold aX;rw[ho];dsimp only;rw[hu,hv,hw,TD.er,TP.pe];rw[yaa,yv];dsimp only;simp only[okB,yi,yP]at h3;rw[yW (by simp only[yi,yP];exact⟨⟨⟨⟨⟨h3.1.1,h3.1.2.1⟩,h8⟩,h3.2.1⟩,h3.1.2.2⟩,h3.2.2⟩)];rfl
  obtain⟨r,h1,h⟩:=yf.1 h;obtain⟨h3,h⟩:=Za h;obtain⟨y,h5,h⟩:=yf.1 h;obtain⟨h6,h7⟩:=qr h5;refine⟨_,_,h,[0<=q.2,(r.l.map r.t.enc)[q.2.toNat]? =ab (r.t.enc y)],⟨h6,qu h7,au⟩,λyK=> ?_⟩;unfold aX;rw[ho];dsimp only;rw[hu,hv,hw,TD.er,WY h1];rw[yaa,yv];dsimp only;simp only[okB,yi,yP]at h3;rw[yW (by rw[uu];simp only[yi,yP];exact⟨⟨⟨⟨⟨h3.1.1,h3.1.2.1⟩,h3.2.1⟩,h3.2.2.1⟩,h3.1.2.2⟩,h3.2.2.2⟩)];rfl
 .rename_i hu;obtain⟨s,h1,h⟩:=yf.1 h;obtain⟨y,h5,h⟩:=yf.1 h;obtain⟨h6,h7⟩:=qr h5;refine⟨_,_,h,[0<=q.2,(s.data.toList[q.2.toNat]?).map (λx:yB=>(x.toNat:Int))=ab (y.toNat:Int)],⟨h6,by rw[show s.data.toList=fm s from rfl,h7];rfl,au⟩,λyK=> ?_⟩
  unfold aX;rw[ho];dsimp only;rw[hu,hv,hw,TD.er,UU h1];rfl
 .cases h
def fg(P:yg)(ts:yL TD):yO yn->yO (yO Int)
 |none=>ab ae
 |some x=>match aW P ts 0 x with
  |some (.p y)=>(iz y).map λq=>ab q.2
  |_=>ae
theorem iR{x:yO yn}{l:yO Int}(h:fg P ts x=ab l):fT P (TD.ay L ts) x=ab l:=by
 cases x with
 |none=>cases h;rfl
 |some x=>
  unfold fg at h;dsimp only at h;split at h
  .rename_i y hy;obtain⟨q,h1,rfl⟩:=Zb h;unfold fT;dsimp only;rw[Zq hy,TD.er,(og h1).1]
  .cases h
def BG(L:Lk)(P:yg)(t:yc)(lo hi:yO Int)(K:TD->yL al->yO O)(xd:TD):yO O:=
 match P.underlying t,xd with
 |some (.slice e),.view id yQ s l0 n=>if okB P e s=af then if ei n lo hi=af then K (.view id yQ s (l0+(lo.getD 0).toNat) ((hi.getD n).toNat - (lo.getD 0).toNat)) [] else ae else ae
 |some (.slice e),.rv id v s l0 n=>if okB P e s=af then if ei n lo hi=af then K (.rv id v s (l0+(lo.getD 0).toNat) ((hi.getD n).toNat - (lo.getD 0).toNat)) [.bare] else ae else ae
 |some (.slice e),xd=>(xd.row L).bind λr=>if okB P e r.t.size=af then if ei r.l.length lo hi=af then K (.p (.sl r.nn r.t (WU r.l lo hi))) [] else ae else ae
 |some (.array n e),.elem x=>x.dF.bind λr=>if ah (n=r.n)&&okB P e r.t.size&&ah (n<=maxLen) then if ei n lo hi=af then K (.p (.sl (ab af) r.t (WU r.l lo hi))) [] else ae else ae
 |some (.array n e),.ak id yQ=>if(P.info? e).isSome&&ah (n<=maxLen) then if ei n lo hi=af then K (.view id yQ (P.cellsOf e) (lo.getD 0).toNat ((hi.getD n).toNat - (lo.getD 0).toNat)) [.raw] else ae else ae
 |_,_=>ae
theorem ZCg{t:yc}{x:yn}{lo hi:yO yn}{l h':yO Int}{K:TD->yL al->yO O}{xd:TD}{out:O}(ho:o.op=.slice t x lo hi ae)(hx:aW P ts t x=ab xd)(hl:fg P ts lo=ab l)(hh:fg P ts hi=ab h')
 (h:BG L P t l h' K xd=ab out):∃d hs,K d hs=ab out/\dq L P o ts d hs:=by
 have hv:=Zq (L:=L) hx;have hl:=iR (L:=L) hl;have hh:=iR (L:=L) hh;unfold BG at h;split at h
 .rename_i e id yQ s l0 n hu;obtain⟨h3,h⟩:=Za h;obtain⟨h4,h⟩:=Za h;refine⟨_,_,h,YT n l h',mL h4,λyK=> ?_⟩;simp only[yv];unfold aX;rw[ho];dsimp only;rw[hu,hv,hl,hh];dsimp only[TD.er];rw[yW (by simpa[okB] using h3)]
 .rename_i e id v s l0 n hu;obtain⟨h3,h⟩:=Za h;obtain⟨h4,h⟩:=Za h;refine⟨_,_,h,YT n l h',mL h4,λyK=> ?_⟩;unfold aX;rw[ho];dsimp only;rw[hu,hv,hl,hh];dsimp only[TD.er];rw[yaa,yv];dsimp only;rw[yW (by simpa[okB] using h3)]
 .rename_i e hu _ _;obtain⟨r,h1,h⟩:=yf.1 h;obtain⟨h3,h⟩:=Za h;obtain⟨h4,h⟩:=Za h;refine⟨_,_,h,YT r.l.length l h',mL h4,λyK=> ?_⟩;simp only[yv];unfold aX;rw[ho];dsimp only;rw[TD.er,TP.pe,ur];rcases lr h1 with he|⟨id,he⟩
  .rw[hu,hv,hl,hh,he];dsimp only;rw[yW (by simpa[okB] using h3),yx]
  .rw[hu,hv,hl,hh,he];dsimp only;rw[yW (by simpa[okB] using h3),yx]
 .rename_i n e x hu;obtain⟨r,h1,h⟩:=yf.1 h;obtain⟨h3,h⟩:=Za h;obtain⟨h4,h⟩:=Za h;refine⟨_,_,h,YT n l h',mL h4,λyK=> ?_⟩;simp only[yv];unfold aX;rw[ho];dsimp only;rw[hu,hv,hl,hh,show(TD.elem x).er L=.elem x.pe from rfl,WY h1]
  dsimp only;rw[yW (by simpa[okB,and_assoc] using h3),TD.er,TP.pe,ur]
 .rename_i n e id yQ hu;obtain⟨h3,h⟩:=Za h;obtain⟨h4,h⟩:=Za h;refine⟨_,_,h,YT n l h',mL h4,λyK=> ?_⟩;unfold aX;rw[ho];dsimp only;rw[hu,hv,hl,hh];dsimp only[TD.er];rw[yaa,yv];dsimp only;rw[yW (by simpa using h3)]
 .cases h
end
def qv(x:yB)(n:Nat):yB:=ybh (x.toNat*2 ^ n)
def BH(x:yB)(n:Nat):yB:=ybh (x.toNat / 2 ^ n)
theorem UV{n:Nat}(h:n < 256):IntKind.u8.wrap (n:Int)=(n:Int):=by
 simp only[IntKind.wrap,IntKind.signed,IntKind.bits];simp;omega
theorem uw(z:Int):IntKind.u8.wrap z=z % 256:=by
 simp only[IntKind.wrap,IntKind.signed,IntKind.bits];simp
theorem UW(op:BinOp)(x y:yB):bits op .u8 (x.toNat:Int) (y.toNat:Int)=((match op with|.and=>x&&&y|.or=>x|||y|.xor=>x^^^y|_=>x&&& ~~~y).toNat:Int):=by
 have e:∀z:yB,yca (IntKind.u8.bits) (z.toNat:Int)=z.toBitVec:=λz=>by
  show yca 8 (z.toNat:Int)=z.toBitVec;apply BitVec.eq_of_toNat_eq;rw[BitVec.ofInt_natCast,BitVec.toNat_ofNat];exact yap (UInt8.toNat_lt z)
 unfold bits;rw[e,e];cases op <;> exact UV (UInt8.toNat_lt _)
def BI:BinOp->yB->yB->yO yB
 |.add,x,y=>ab (x+y)
 |.sub,x,y=>ab (x - y)
 |.mul,x,y=>ab (x*y)
 |.and,x,y=>ab (x&&&y)
 |.or,x,y=>ab (x|||y)
 |.xor,x,y=>ab (x^^^y)
 |.andNot,x,y=>ab (x&&& ~~~y)
 |_,_,_=>ae
theorem ZOo{op:BinOp}{x y z:yB}(h:BI op x y=ab z)(yK:yL al):YO op .u8 (x.toNat:Int) (y.toNat:Int) (.raw::yK)=ab ([],.p (.int .u8 (z.toNat:Int)),yK):=by
 cases op <;> simp only[BI,yj,reduceCtorEq]at h <;> subst h
 .simp only[YO,fR,uw,UInt8.toNat_add];simp
 .have e:((x.toNat:Int) - (y.toNat:Int)) % 256=((x - y).toNat:Int):=by
   rw[UInt8.toNat_sub];have:=x.toNat_lt;have:=y.toNat_lt;omega
  simp only[YO,fR,uw,e]
 .simp only[YO,fR,uw,UInt8.toNat_mul];simp
 all_goals simp only[YO,UW]
def BJ:BinOp->yB->yB->yO yB
 |.quo,x,y=>ab (x / y)
 |.rem,x,y=>ab (x % y)
 |_,_,_=>ae
theorem ZOp{op:BinOp}{x y z:yB}(h:BJ op x y=ab z)(yK:yL al):YO op .u8 (x.toNat:Int) (y.toNat:Int) (.raw::yK)=ab ([(y.toNat:Int)≠0],.p (.int .u8 (z.toNat:Int)),yK):=by
 cases op <;> simp only[BJ,yj,reduceCtorEq]at h <;> subst h
 .simp only[YO,UInt8.toNat_div];rw[show(x.toNat:Int).tdiv (y.toNat:Int)=((x.toNat / y.toNat:Nat):Int) from rfl,UV (ycv (Nat.div_le_self ..) (UInt8.toNat_lt _))]
 .simp only[YO,UInt8.toNat_mod];rfl
def BK:BinOp->yB->yB->yO Bool
 |.eql,x,y=>ab (x==y)
 |.neq,x,y=>ab (x !=y)
 |.lss,x,y=>ab (ah (x < y))
 |.leq,x,y=>ab (ah (x<=y))
 |.gtr,x,y=>ab (ah (x > y))
 |.geq,x,y=>ab (ah (x >= y))
 |_,_,_=>ae
theorem ZMf{op:BinOp}{x y:yB}{b:Bool}(h:BK op x y=ab b)(yK:yL al):YO op .u8 (x.toNat:Int) (y.toNat:Int) yK=ab ([],.p (.bool b),yK):=by
 have eq:((x.toNat:Int)==(y.toNat:Int))=(x==y):=by
  rw[Bool.eq_iff_iff];simp only[yT, <-UInt8.toNat_inj];omega
 have lt:∀a b:yB,ah ((a.toNat:Int) < (b.toNat:Int))=ah (a < b):=λa b=>by
  rw[Bool.eq_iff_iff];simp[UInt8.lt_iff_toNat_lt]
 have le:∀a b:yB,ah ((a.toNat:Int)<=(b.toNat:Int))=ah (a<=b):=λa b=>by
  rw[Bool.eq_iff_iff];simp[UInt8.le_iff_toNat_le]
 cases op <;> simp only[BK,yj,reduceCtorEq]at h <;> subst h <;> simp only[YO,GT.gt,GE.ge,lt,le,eq,bne]
theorem ZMg(x:yB)(y:Int)(yK:yL al):Wg .shl .u8 (x.toNat:Int) y (.raw::yK)=ab ([0<=y],.p (.int .u8 ((qv x (min y.toNat 8)).toNat:Int)),yK):=by
 simp only[Wg,uw,qv,UInt8.toNat_ofNat'];simp[show IntKind.u8.bits=8 from rfl]
theorem ZMh(x:yB)(y:Int)(yK:yL al):Wg .shr .u8 (x.toNat:Int) y (.raw::yK)=ab ([0<=y],.p (.int .u8 ((BH x (min y.toNat 8)).toNat:Int)),yK):=by
 simp only[Wg,BH,UInt8.toNat_ofNat'];congr 4;rw[show IntKind.u8.bits=8 from rfl]
 have h:x.toNat / 2 ^ min y.toNat 8 < 256:=ycv (Nat.div_le_self ..) (UInt8.toNat_lt _);rw[yap h];rw[show((2:Int) ^ min y.toNat 8)=((2 ^ min y.toNat 8:Nat):Int) by simp,Int.fdiv_eq_ediv_of_nonneg _ (Int.natCast_nonneg _)];rfl
def iS(x:yV)(n:Nat):yV:=UInt32.ofNat (x.toNat*2 ^ n)
def iA(x:yV)(n:Nat):yV:=UInt32.ofNat (x.toNat / 2 ^ n)
theorem UX{n:Nat}(h:n < 4294967296):IntKind.u32.wrap (n:Int)=(n:Int):=by
 simp only[IntKind.wrap,IntKind.signed,IntKind.bits];simp;omega
theorem ux(z:Int):IntKind.u32.wrap z=z % 4294967296:=by
 simp only[IntKind.wrap,IntKind.signed,IntKind.bits];simp
theorem UY(op:BinOp)(x y:yV):bits op .u32 (x.toNat:Int) (y.toNat:Int)=((match op with|.and=>x&&&y|.or=>x|||y|.xor=>x^^^y|_=>x&&& ~~~y).toNat:Int):=by
 have e:∀z:yV,yca (IntKind.u32.bits) (z.toNat:Int)=z.toBitVec:=λz=>by
  show yca 32 (z.toNat:Int)=z.toBitVec;apply BitVec.eq_of_toNat_eq;rw[BitVec.ofInt_natCast,BitVec.toNat_ofNat];exact yap (UInt32.toNat_lt z)
 unfold bits;rw[e,e];cases op <;> exact UX (UInt32.toNat_lt _)
def BL:BinOp->yV->yV->yO yV
 |.add,x,y=>ab (x+y)
 |.sub,x,y=>ab (x - y)
 |.mul,x,y=>ab (x*y)
 |.and,x,y=>ab (x&&&y)
 |.or,x,y=>ab (x|||y)
 |.xor,x,y=>ab (x^^^y)
 |.andNot,x,y=>ab (x&&& ~~~y)
 |_,_,_=>ae
theorem ZMi{op:BinOp}{x y z:yV}(h:BL op x y=ab z)(yK:yL al):YO op .u32 (x.toNat:Int) (y.toNat:Int) (.raw::yK)=ab ([],.p (.int .u32 (z.toNat:Int)),yK):=by
 cases op <;> simp only[BL,yj,reduceCtorEq]at h <;> subst h
 .simp only[YO,fR,ux,UInt32.toNat_add];simp
 .have e:((x.toNat:Int) - (y.toNat:Int)) % 4294967296=((x - y).toNat:Int):=by
   rw[UInt32.toNat_sub];have:=x.toNat_lt;have:=y.toNat_lt;omega
  simp only[YO,fR,ux,e]
 .simp only[YO,fR,ux,UInt32.toNat_mul];simp
 all_goals simp only[YO,UY]
def BM:BinOp->yV->yV->yO yV
 |.quo,x,y=>ab (x / y)
 |.rem,x,y=>ab (x % y)
 |_,_,_=>ae
theorem ZMj{op:BinOp}{x y z:yV}(h:BM op x y=ab z)(yK:yL al):YO op .u32 (x.toNat:Int) (y.toNat:Int) (.raw::yK)=ab ([(y.toNat:Int)≠0],.p (.int .u32 (z.toNat:Int)),yK):=by
 cases op <;> simp only[BM,yj,reduceCtorEq]at h <;> subst h
 .simp only[YO,UInt32.toNat_div];rw[show(x.toNat:Int).tdiv (y.toNat:Int)=((x.toNat / y.toNat:Nat):Int) from rfl,UX (ycv (Nat.div_le_self ..) (UInt32.toNat_lt _))]
 .simp only[YO,UInt32.toNat_mod];rfl
def BN:BinOp->yV->yV->yO Bool
 |.eql,x,y=>ab (x==y)
 |.neq,x,y=>ab (x !=y)
 |.lss,x,y=>ab (ah (x < y))
 |.leq,x,y=>ab (ah (x<=y))
 |.gtr,x,y=>ab (ah (x > y))
 |.geq,x,y=>ab (ah (x >= y))
 |_,_,_=>ae
theorem ZJl{op:BinOp}{x y:yV}{b:Bool}(h:BN op x y=ab b)(yK:yL al):YO op .u32 (x.toNat:Int) (y.toNat:Int) yK=ab ([],.p (.bool b),yK):=by
 have eq:((x.toNat:Int)==(y.toNat:Int))=(x==y):=by
  rw[Bool.eq_iff_iff];simp only[yT, <-UInt32.toNat_inj];omega
 have lt:∀a b:yV,ah ((a.toNat:Int) < (b.toNat:Int))=ah (a < b):=λa b=>by
  rw[Bool.eq_iff_iff];simp[UInt32.lt_iff_toNat_lt]
 have le:∀a b:yV,ah ((a.toNat:Int)<=(b.toNat:Int))=ah (a<=b):=λa b=>by
  rw[Bool.eq_iff_iff];simp[UInt32.le_iff_toNat_le]
 cases op <;> simp only[BN,yj,reduceCtorEq]at h <;> subst h <;> simp only[YO,GT.gt,GE.ge,lt,le,eq,bne]
theorem ZJm(x:yV)(y:Int)(yK:yL al):Wg .shl .u32 (x.toNat:Int) y (.raw::yK)=ab ([0<=y],.p (.int .u32 ((iS x (min y.toNat 32)).toNat:Int)),yK):=by
 simp only[Wg,ux,iS,ycu];simp[show IntKind.u32.bits=32 from rfl]
theorem ZJn(x:yV)(y:Int)(yK:yL al):Wg .shr .u32 (x.toNat:Int) y (.raw::yK)=ab ([0<=y],.p (.int .u32 ((iA x (min y.toNat 32)).toNat:Int)),yK):=by
 simp only[Wg,iA,ycu];congr 4;rw[show IntKind.u32.bits=32 from rfl]
 have h:x.toNat / 2 ^ min y.toNat 32 < 4294967296:=ycv (Nat.div_le_self ..) (UInt32.toNat_lt _);rw[yap h];rw[show((2:Int) ^ min y.toNat 32)=((2 ^ min y.toNat 32:Nat):Int) by simp,Int.fdiv_eq_ediv_of_nonneg _ (Int.natCast_nonneg _)];rfl
def Vv(x:yU)(n:Nat):yU:=yaf (x.toNat*2 ^ n)
def ZG(x:yU)(n:Nat):yU:=yaf (x.toNat / 2 ^ n)
theorem UZ{n:Nat}(h:n < 18446744073709551616):IntKind.u64.wrap (n:Int)=(n:Int):=by
 simp only[IntKind.wrap,IntKind.signed,IntKind.bits];simp;omega
theorem uz(z:Int):IntKind.u64.wrap z=z % 18446744073709551616:=by
 simp only[IntKind.wrap,IntKind.signed,IntKind.bits];simp
theorem ZJo(op:BinOp)(x y:yU):bits op .u64 (x.toNat:Int) (y.toNat:Int)=((match op with|.and=>x&&&y|.or=>x|||y|.xor=>x^^^y|_=>x&&& ~~~y).toNat:Int):=by
 have e:∀z:yU,yca (IntKind.u64.bits) (z.toNat:Int)=z.toBitVec:=λz=>by
  show yca 64 (z.toNat:Int)=z.toBitVec;apply BitVec.eq_of_toNat_eq;rw[BitVec.ofInt_natCast,BitVec.toNat_ofNat];exact yap (ycc z)
 unfold bits;rw[e,e];cases op <;> exact UZ (ycc _)
def BO:BinOp->yU->yU->yO yU
 |.add,x,y=>ab (x+y)
 |.sub,x,y=>ab (x - y)
 |.mul,x,y=>ab (x*y)
 |.and,x,y=>ab (x&&&y)
 |.or,x,y=>ab (x|||y)
 |.xor,x,y=>ab (x^^^y)
 |.andNot,x,y=>ab (x&&& ~~~y)
 |_,_,_=>ae
theorem ZMk{op:BinOp}{x y z:yU}(h:BO op x y=ab z)(yK:yL al):YO op .u64 (x.toNat:Int) (y.toNat:Int) (.raw::yK)=ab ([],.p (.int .u64 (z.toNat:Int)),yK):=by
 cases op <;> simp only[BO,yj,reduceCtorEq]at h <;> subst h
 .simp only[YO,fR,uz,UInt64.toNat_add];simp
 .have e:((x.toNat:Int) - (y.toNat:Int)) % 18446744073709551616=((x - y).toNat:Int):=by
   rw[UInt64.toNat_sub];have:=x.toNat_lt;have:=y.toNat_lt;omega
  simp only[YO,fR,uz,e]
 .simp only[YO,fR,uz,UInt64.toNat_mul];simp
 all_goals simp only[YO,ZJo]
def BP:BinOp->yU->yU->yO yU
 |.quo,x,y=>ab (x / y)
 |.rem,x,y=>ab (x % y)
 |_,_,_=>ae
theorem ZMl{op:BinOp}{x y z:yU}(h:BP op x y=ab z)(yK:yL al):YO op .u64 (x.toNat:Int) (y.toNat:Int) (.raw::yK)=ab ([(y.toNat:Int)≠0],.p (.int .u64 (z.toNat:Int)),yK):=by
 cases op <;> simp only[BP,yj,reduceCtorEq]at h <;> subst h
 .simp only[YO,UInt64.toNat_div];rw[show(x.toNat:Int).tdiv (y.toNat:Int)=((x.toNat / y.toNat:Nat):Int) from rfl,UZ (ycv (Nat.div_le_self ..) (ycc _))]
 .simp only[YO,UInt64.toNat_mod];rfl
def BQ:BinOp->yU->yU->yO Bool
 |.eql,x,y=>ab (x==y)
 |.neq,x,y=>ab (x !=y)
 |.lss,x,y=>ab (ah (x < y))
 |.leq,x,y=>ab (ah (x<=y))
 |.gtr,x,y=>ab (ah (x > y))
 |.geq,x,y=>ab (ah (x >= y))
 |_,_,_=>ae
theorem ZJq{op:BinOp}{x y:yU}{b:Bool}(h:BQ op x y=ab b)(yK:yL al):YO op .u64 (x.toNat:Int) (y.toNat:Int) yK=ab ([],.p (.bool b),yK):=by
 have eq:((x.toNat:Int)==(y.toNat:Int))=(x==y):=by
  rw[Bool.eq_iff_iff];simp only[yT, <-ycp];omega
 have lt:∀a b:yU,ah ((a.toNat:Int) < (b.toNat:Int))=ah (a < b):=λa b=>by
  rw[Bool.eq_iff_iff];simp[UInt64.lt_iff_toNat_lt]
 have le:∀a b:yU,ah ((a.toNat:Int)<=(b.toNat:Int))=ah (a<=b):=λa b=>by
  rw[Bool.eq_iff_iff];simp[UInt64.le_iff_toNat_le]
 cases op <;> simp only[BQ,yj,reduceCtorEq]at h <;> subst h <;> simp only[YO,GT.gt,GE.ge,lt,le,eq,bne]
theorem ZJr(x:yU)(y:Int)(yK:yL al):Wg .shl .u64 (x.toNat:Int) y (.raw::yK)=ab ([0<=y],.p (.int .u64 ((Vv x (min y.toNat 64)).toNat:Int)),yK):=by
 simp only[Wg,uz,Vv,ybj];simp[show IntKind.u64.bits=64 from rfl]
theorem ZJs(x:yU)(y:Int)(yK:yL al):Wg .shr .u64 (x.toNat:Int) y (.raw::yK)=ab ([0<=y],.p (.int .u64 ((ZG x (min y.toNat 64)).toNat:Int)),yK):=by
 simp only[Wg,ZG,ybj];congr 4;rw[show IntKind.u64.bits=64 from rfl]
 have h:x.toNat / 2 ^ min y.toNat 64 < 18446744073709551616:=ycv (Nat.div_le_self ..) (ycc _);rw[yap h];rw[show((2:Int) ^ min y.toNat 64)=((2 ^ min y.toNat 64:Nat):Int) by simp,Int.fdiv_eq_ediv_of_nonneg _ (Int.natCast_nonneg _)];rfl
inductive Num where
 |u8 (x:UInt8)|u32 (x:UInt32)|u64 (x:UInt64)
 |i (k:IntKind) (x:Int)
def TP.num:TP->yO Num
 |.v (.int k) n=>if AX k then ab (.i k n) else ae
 |.v .u8 b=>ab (.u8 b)
 |.v .u32 b=>ab (.u32 b)
 |.v .u64 b=>ab (.u64 b)
 |_=>ae
def Num.k:Num->IntKind
 |.u8 _=>.u8|.u32 _=>.u32|.u64 _=>.u64|.i k _=>k
def Num.n:Num->Int
 |.u8 x=>(x.toNat:Int)|.u32 x=>(x.toNat:Int)|.u64 x=>(x.toNat:Int)|.i _ x=>x
theorem ZOv{x:TP}{a:Num}(h:x.num=ab a):x.pe=.int a.k a.n:=by
 unfold TP.num at h;split at h
 .split at h
  .cases h;rfl
  .cases h
 .cases h;rfl
 .cases h;rfl
 .cases h;rfl
 .cases h
def TD.num:TD->yO Num
 |.p x=>x.num
 |_=>ae
theorem V7{L:Lk}{x:TD}{a:Num}(h:x.num=ab a):x.er L=.p (.int a.k a.n):=by
 unfold TD.num at h;split at h
 .rw[TD.er,ZOv h]
 .cases h
section
variable{L:Lk}{P:yg}{o:Oper}{ts:yL TD}{O:Type}
def ZRK:BinOp->Bool
 |.eql|.neq|.lss|.leq|.gtr|.geq=>af
 |_=>ag
def BR:BinOp->Int->Int->yO Bool
 |.eql,x,y=>ab (x==y)
 |.neq,x,y=>ab (x !=y)
 |.lss,x,y=>ab (ah (x < y))
 |.leq,x,y=>ab (ah (x<=y))
 |.gtr,x,y=>ab (ah (x > y))
 |.geq,x,y=>ab (ah (x >= y))
 |_,_,_=>ae
theorem ZMm{op:BinOp}{k:IntKind}{x y:Int}{b:Bool}(h:BR op x y=ab b)(yK:yL al):YO op k x y yK=ab ([],.p (.bool b),yK):=by
 cases op <;> simp only[BR,yj,reduceCtorEq]at h <;> subst h <;> rfl
def BS(k:IntKind):BinOp->Int->Int->yO Int
 |.add,x,y=>ab (k.wrap (x+y))
 |.sub,x,y=>ab (k.wrap (x - y))
 |.mul,x,y=>ab (k.wrap (x*y))
 |.and,x,y=>ab (bits .and k x y)
 |.or,x,y=>ab (bits .or k x y)
 |.xor,x,y=>ab (bits .xor k x y)
 |.andNot,x,y=>ab (bits .andNot k x y)
 |_,_,_=>ae
theorem ZOx{op:BinOp}{k:IntKind}{x y z:Int}(h:BS k op x y=ab z)(yK:yL al):YO op k x y (.raw::yK)=ab ([],.p (.int k z),yK):=by
 cases op <;> simp only[BS,yj,reduceCtorEq]at h <;> subst h <;> rfl
def BT(k:IntKind):BinOp->Int->Int->yO Int
 |.quo,x,y=>ab (k.wrap (x.tdiv y))
 |.rem,x,y=>ab (x.tmod y)
 |_,_,_=>ae
theorem ZOy{op:BinOp}{k:IntKind}{x y z:Int}(h:BT k op x y=ab z)(yK:yL al):YO op k x y (.raw::yK)=ab ([y≠0],.p (.int k z),yK):=by
 cases op <;> simp only[BT,yj,reduceCtorEq]at h <;> subst h <;> rfl
def oh(b:yO Bool)(o:yO TP)(d:yO TP)(nz:Bool)(K:TD->yL al->yO O):yO O:=
 match b,o,d with
 |some b,_,_=>K (.p (.v .bool b)) []
 |none,ab z,_=>K (.p z) [.raw]
 |none,ae,ab z=>if nz=af then K (.p z) [.raw] else ae
 |none,ae,ae=>ae
def BU(op:BinOp)(x y:Num)(K:TD->yL al->yO O):yO O:=
 match x,y with
 |.u8 a,.u8 b=>oh (BK op a b) ((BI op a b).map (.v .u8)) ((BJ op a b).map (.v .u8)) (b !=0) K
 |.u32 a,.u32 b=>oh (BN op a b) ((BL op a b).map (.v .u32)) ((BM op a b).map (.v .u32)) (b !=0) K
 |.u64 a,.u64 b=>oh (BQ op a b) ((BO op a b).map (.v .u64)) ((BP op a b).map (.v .u64)) (b !=0) K
 |.i k a,.i l b=>if k=l/\AX k=af then oh (BR op a b) ((BS k op a b).map (.v (.int k))) ((BT k op a b).map (.v (.int k))) (b !=0) K else ae
 |_,_=>ae
theorem uA{k:IntKind}{op:BinOp}{x y:Int}{b:yO Bool}{o d:yO TP}{nz:Bool}{K:TD->yL al->yO O}{out:O}(h:oh b o d nz K=ab out)
 (hb:∀c,b=ab c->∀yK,YO op k x y yK=ab ([],.p (.bool c),yK))
 (ho:∀z,o=ab z->∀yK,YO op k x y (.raw::yK)=ab ([],.p z.pe,yK))
 (hd:∀z,d=ab z->∀yK,YO op k x y (.raw::yK)=ab ([y≠0],.p z.pe,yK)) (hz:nz=af->y≠0):
 ∃d hs C,K d hs=ab out/\bc C/\∀yK,YO op k x y (hs++yK)=ab (C,d.er L,yK):=by
 unfold oh at h;split at h
 .exact⟨_,_,[],h,zP,hb _ rfl⟩
 .exact⟨_,_,[],h,zP,ho _ rfl⟩
 .obtain⟨h1,h2⟩:=Za h;exact⟨_,_,[y≠0],h2,⟨hz h1,au⟩,hd _ rfl⟩
 .cases h
theorem ZCh{op:BinOp}{x y:Num}{K:TD->yL al->yO O}{out:O}(h:BU op x y K=ab out):
 x.k=y.k/\∃d hs C,K d hs=ab out/\bc C/\∀yK,YO op x.k x.n y.n (hs++yK)=ab (C,d.er L,yK):=by
 unfold BU at h;split at h
 .rename_i a b;refine⟨rfl,uA h (λc hc=>ZMf hc) (λz hz=> ?_) (λz hz=> ?_) (λhz=> ?_)⟩
  .obtain⟨q,h1,rfl⟩:=Zb hz;exact ZOo h1
  .obtain⟨q,h1,rfl⟩:=Zb hz;exact ZOp h1
  .simp only[yE,ne_eq]at hz;intro e;exact hz (UInt8.toNat_inj.1 (by simp only[Num.n]at e;show b.toNat=0;omega))
 .rename_i a b;refine⟨rfl,uA h (λc hc=>ZJl hc) (λz hz=> ?_) (λz hz=> ?_) (λhz=> ?_)⟩
  .obtain⟨q,h1,rfl⟩:=Zb hz;exact ZMi h1
  .obtain⟨q,h1,rfl⟩:=Zb hz;exact ZMj h1
  .simp only[yE,ne_eq]at hz;intro e;exact hz (UInt32.toNat_inj.1 (by simp only[Num.n]at e;show b.toNat=0;omega))
 .rename_i a b;refine⟨rfl,uA h (λc hc=>ZJq hc) (λz hz=> ?_) (λz hz=> ?_) (λhz=> ?_)⟩
  .obtain⟨q,h1,rfl⟩:=Zb hz;exact ZMk h1
  .obtain⟨q,h1,rfl⟩:=Zb hz;exact ZMl h1
  .simp only[yE,ne_eq]at hz;intro e;exact hz (ycp.1 (by simp only[Num.n]at e;show b.toNat=0;omega))
 .rename_i k a l b;split at h
  .rename_i e;obtain⟨rfl,e⟩:=e;refine⟨rfl,uA h (λc hc=>ZMm hc) (λz hz=> ?_) (λz hz=> ?_) (λhz=> ?_)⟩
   .obtain⟨q,h1,rfl⟩:=Zb hz;exact ZOx h1
   .obtain⟨q,h1,rfl⟩:=Zb hz;exact ZOy h1
   .simpa[Num.n] using hz
  .cases h
 .cases h
def BV:Num->Bool
 |.i _ n=>ah (0<=n)
 |_=>af
theorem ZEw{x:Num}(h:BV x=af):0<=x.n:=by
 cases x <;> simp only[BV,Num.n,yP]at h ⊢ <;> omega
def BW(op:BinOp)(x y:Num):yO TP:=
 match op,x with
 |.shl,.u8 a=>ab (.v .u8 (qv a (min y.n.toNat 8)))
 |.shl,.u32 a=>ab (.v .u32 (iS a (min y.n.toNat 32)))
 |.shl,.u64 a=>ab (.v .u64 (Vv a (min y.n.toNat 64)))
 |.shl,.i k a=>ab (.v (.int k) (k.wrap (a*2 ^ min y.n.toNat k.bits)))
 |.shr,.u8 a=>ab (.v .u8 (BH a (min y.n.toNat 8)))
 |.shr,.u32 a=>ab (.v .u32 (iA a (min y.n.toNat 32)))
 |.shr,.u64 a=>ab (.v .u64 (ZG a (min y.n.toNat 64)))
 |.shr,.i k a=>ab (.v (.int k) (a.fdiv (2 ^ min y.n.toNat k.bits)))
 |_,_=>ae
theorem ZOz{op:BinOp}{x y:Num}{z:TP}(h:BW op x y=ab z)(yK:yL al):Wg op x.k x.n y.n (.raw::yK)=ab ([0<=y.n],.p z.pe,yK):=by
 unfold BW at h
 split at h <;> first
  |(cases h;first|exact ZMg .. |exact ZJm .. |exact ZJr .. |exact ZMh .. |exact ZJn .. |exact ZJs .. |rfl)
  |cases h
mutual
def Ty.flat:Ty->Bool
 |.sl _=>ag
 |.str=>ag
 |.arr _ t=>Ty.flat t
 |.st fs=>Ty.aM fs
 |_=>af
def Ty.aM:yL Ty->Bool
 |[]=>af
 |t::r=>Ty.flat t&&Ty.aM r
end
mutual
theorem qw:∀(t:Ty)(x y:t.aN),t.flat=af->t.enc x=t.enc y->x=y
 |.int k,x,y,_,h=>by injection h
 |.u8,x,y,_,h=>by injection h with _ h;exact UInt8.toNat_inj.1 (by omega)
 |.u32,x,y,_,h=>by injection h with _ h;exact UInt32.toNat_inj.1 (by omega)
 |.u64,x,y,_,h=>by injection h with _ h;exact ycp.1 (by omega)
 |.bool,x,y,_,h=>by injection h
 |.str,_,_,hf,_=>nomatch hf
 |.sl _,_,_,hf,_=>nomatch hf
 |.arr n t,x,y,hf,h=>by
  injection h with _ _ h
  exact UC (λa b e=>qw t a b hf e) h
 |.st fs,x,y,hf,h=>by
  injection h with h;exact fY fs x y hf h
theorem fY:∀(fs:yL Ty)(x y:Ty.aI fs),Ty.aM fs=af->Ty.encs fs x=Ty.encs fs y->x=y
 |[],_,_,_,_=>rfl
 |[t],x,y,hf,h=>by
  simp only[Ty.encs,List.cons.injEq,and_true]at h;simp only[Ty.aM,Bool.and_true]at hf
  exact qw t x y hf h
 |t::u::r,x,y,hf,h=>by
  have h':t.enc x.1::Ty.encs (u::r) x.2=t.enc y.1::Ty.encs (u::r) y.2:=h;have hf':(t.flat&&Ty.aM (u::r))=af:=hf;rw[yi]at hf';injection h' with h1 h2;exact Prod.ext (qw t x.1 y.1 hf'.1 h1) (fY (u::r) x.2 y.2 hf'.2 h2)
end
mutual
def Ty.dU:(t:Ty)->DecidableEq t.aN
 |.int _=>inferInstanceAs (DecidableEq Int)
 |.u8=>inferInstanceAs (DecidableEq yB)
 |.u32=>inferInstanceAs (DecidableEq yV)
 |.u64=>inferInstanceAs (DecidableEq yU)
 |.bool=>inferInstanceAs (DecidableEq Bool)
 |.str=>inferInstanceAs (DecidableEq ByteArray)
 |.sl t=>@instDecidableEqList t.aN (Ty.dU t)
 |.arr _ t=>@instDecidableEqList t.aN (Ty.dU t)
 |.st fs=>Ty.qx fs
def Ty.qx:(fs:yL Ty)->DecidableEq (Ty.aI fs)
 |[]=>inferInstanceAs (DecidableEq Unit)
 |[t]=>Ty.dU t
 |t::u::r=>@instDecidableEqProd t.aN (Ty.aI (u::r)) (Ty.dU t) (Ty.qx (u::r))
end
mutual
def lu(P:yg):Nat->yc->Ty->Bool
 |0,_,_=>ag
 |n+1,t,T=>match P.underlying t,T with
  |some .bool,.bool=>af
  |some (.int .u8),.u8=>af
  |some (.int .u32),.u32=>af
  |some (.int .u64),.u64=>af
  |some (.int k),.int l=>ah (k=l)
  |some (.array m e),.arr m' U=>ah (m'=m)&&(ah (P.cellsOf e=U.size)&&(ah (U.size≠0)&&((P.info? e).isSome&&((P.underlying e).isSome&&(ah (Xi P e=U.isAgg)&&lu P n e U)))))
  |some (.struct fs),.st Ts=>ah (P.stoodInHeld t=ag)&&fb P n fs.toList 0 Ts
  |_,_=>ag
def fb(P:yg):Nat->yL Field->Nat->yL Ty->Bool
 |0,_,_,_=>ag
 |_+1,[],_,[]=>af
 |n+1,f::fs,o,T::Ts=>ah (f.name≠ "_")&&(ah (f.offset=o)&&(ah (P.cellsOf f.type=T.size)&&((P.info? f.type).isSome&&((P.underlying f.type).isSome&&(ah (Xi P f.type=T.isAgg)&&(ah (T.size≠0)&&(lu P n f.type T&&fb P n fs (o+T.size) Ts)))))))
 |_+1,_,_,_=>ag
end
mutual
theorem qy:∀(n:Nat)(t:yc)(T:Ty),lu P n t T=af->∀(x:T.aN),bg P n t (T.enc x)
 |0,_,_,h,_=>by simp[lu]at h
 |n+1,t,T,h,x=>by
  simp only[lu]at h;unfold bg;split at h
  .rename_i hu;rw[hu];trivial
  .rename_i hu;rw[hu];exact rfl
  .rename_i hu;rw[hu];exact rfl
  .rename_i hu;rw[hu];exact rfl
  .rename_i hu;rw[hu];simp only[yP]at h;exact h.symm
  .rename_i m e m' U hu;simp only[yi,yP]at h;obtain⟨h1,h2,h3,h4,h5,h6,h7⟩:=h;rw[hu];refine⟨h1,h2,h3,h4,h5,λy hy=> ?_⟩;obtain⟨z,_,rfl⟩:=List.mem_map.1 hy;exact⟨qy n e U h7 z,od U z,by rw[uu];exact h6⟩
  .rename_i fs Ts hu;simp only[yi,yP]at h;rw[hu];exact⟨h.1,ue (λt x k=>k) _ _ _ (fZ n fs.toList 0 Ts h.2 x)⟩
  .cases h
theorem fZ:∀(n:Nat)(fs:yL Field)(o:Nat)(Ts:yL Ty),fb P n fs o Ts=af->∀(x:Ty.aI Ts),gW P (bg P n) fs o (Ty.encs Ts x)
 |0,_,_,_,h,_=>by simp[fb]at h
 |n+1,[],_,[],_,_=>trivial
 |n+1,[],_,_::_,h,_=>by simp[fb]at h
 |n+1,_::_,_,[],h,_=>by simp[fb]at h
 |n+1,f::fs,o,T::Ts,h,x=>by
  simp only[fb,yi,yP]at h;obtain⟨h1,h2,h3,h4,h5,h6,h7,h8,h9⟩:=h
  have key:∃(a:T.aN)(b:Ty.aI Ts),Ty.encs (T::Ts) x=T.enc a::Ty.encs Ts b:=by
   cases Ts with
   |nil=>exact⟨x,(),rfl⟩
   |cons U r=>exact⟨x.1,x.2,rfl⟩
  obtain⟨a,b,e⟩:=key;rw[e];refine⟨h1,h2,by rw[od];exact h3,h4,h5,by rw[uu];exact h6,by rw[od];exact h7,uf (qy n f.type T h8 a), ?_⟩;rw[od];exact ue (λt x k=>uf k) _ _ _ (fZ n fs _ Ts h9 b)
end
end
end Go.Ev
end
section
namespace Go.Ev
section
variable{L:Lk}{P:yg}{o:Oper}{ts:yL TD}{O:Type}
def BX(r:lX):yO Bool:=
 match r with
 |some ([],.p (.bool b),[])=>ab b
 |_=>ae
theorem Zyd{t:yc}{x y:Dv}{b:Bool}(h:iq P t x y []=ab ([],b,[]))(yK:yL al):iq P t x y yK=ab ([],b,yK):=by
 unfold iq at h ⊢
 split at h <;> first
  |(simp only[yj,yl,and_true,true_and]at h;subst h;rfl)
  |cases h
  |(split at h <;> first|(rename_i e;cases e)|cases h)
theorem ZHQ{op:BinOp}{t:yc}{x y:Dv}{b:Bool}(h:BX (gi P op t x y [])=ab b)(yK:yL al):gi P op t x y yK=ab ([],.p (.bool b),yK):=by
 have h':gi P op t x y []=ab ([],.p (.bool b),[]):=by
  unfold BX at h;split at h
  .rename_i e;cases h;exact e
  .cases h
 clear h;unfold gi at h' ⊢;split at h'
 .split at h'
  .cases op <;> simp[Wg]at h'
  .split at h'
   .rename_i k a k' b' _ hk;simp only[hk,if_true];rename_i hs;simp only[hs,if_false];cases op <;> simp only[YO,fR,yj,yl,Dv.p.injEq,Pl.bool.injEq,and_true,true_and,reduceCtorEq]at h' ⊢ <;> first|exact h'|skip
    all_goals first|(cases h';done)|(cases h';simp;done)|(simp[tj]at h';done)
   .cases h'
 .cases op <;> simp only[yj,yl,Dv.p.injEq,Pl.bool.injEq,and_true,true_and,reduceCtorEq]at h' ⊢ <;> exact h'
 .rename_i hx hy;cases op <;> first|cases h'|skip
  .obtain⟨q,h1,h2⟩:=Zb h';simp only[yl,Dv.p.injEq,Pl.bool.injEq]at h2;obtain⟨q1,q2,q3⟩:=q;obtain⟨rfl,rfl,rfl⟩:=h2;simp only[Zyd h1 yK,yab]
  .obtain⟨q,h1,h2⟩:=Zb h';simp only[yl,Dv.p.injEq,Pl.bool.injEq]at h2;obtain⟨q1,q2,q3⟩:=q;obtain⟨rfl,rfl,rfl⟩:=h2;simp only[Zyd h1 yK,yab]
def TD.val:TD->yO (Σ t:Ty,t.aN)
 |.p (.v t x)=>ab ⟨t,x⟩
 |_=>ae
theorem BY{x:TD}{q:Σ t:Ty,t.aN}(h:x.val=ab q):x.er L=.p (q.1.enc q.2):=by
 unfold TD.val at h;split at h
 .cases h;rfl
 .cases h
def BZ(P:yg)(t:yc):Bool:=
 match P.underlying t with
 |some (.array _ _)=>af
 |some (.struct _)=>af
 |_=>ag
def CA(P:yg)(op:BinOp)(t:yc)(x y:TD)(K:TD->yL al->yO O):yO O:=
 match x.val,y.val with
 |some a,ab b=>(Ty.cast b.1 a.1 b.2).bind λz=>
  if BZ P t&&(a.1.isAgg&&(a.1.flat&&(lu P 20 t a.1&&ah (P.eqGuardType P.depth t=ag)))) then
   match op with
   |.eql=>K (.p (.v .bool (@decide (a.2=z) (Ty.dU a.1 a.2 z)))) [.b (@decide (a.2=z) (Ty.dU a.1 a.2 z))]
   |.neq=>K (.p (.v .bool (!(@decide (a.2=z) (Ty.dU a.1 a.2 z))))) [.b (@decide (a.2=z) (Ty.dU a.1 a.2 z))]
   |_=>ae
  else ae
 |_,_=>ae
theorem qz{t:yc}{a:Σ t:Ty,t.aN}{z:a.1.aN}(h1:BZ P t=af)(h2:a.1.isAgg=af)(h3:a.1.flat=af)(h4:lu P 20 t a.1=af)(h5:P.eqGuardType P.depth t=ag)(yK:yL al):
 ∃C,bc C/\iq P t (.p (a.1.enc a.2)) (.p (a.1.enc z)) (.b (@decide (a.2=z) (Ty.dU a.1 a.2 z))::yK)=ab (C,@decide (a.2=z) (Ty.dU a.1 a.2 z),yK)/\C=[bg P 20 t (a.1.enc a.2),bg P 20 t (a.1.enc z),(@decide (a.2=z) (Ty.dU a.1 a.2 z)=af↔a.1.enc a.2=a.1.enc z)]:=by
 have f1:=qy 20 t a.1 h4 a.2;have f2:=qy 20 t a.1 h4 z
 have f3:(@decide (a.2=z) (Ty.dU a.1 a.2 z)=af↔a.1.enc a.2=a.1.enc z):=by
  rw[@decide_eq_true_iff _ (Ty.dU a.1 a.2 z)];exact⟨λe=>by rw[e],λe=>qw a.1 _ _ h3 e⟩
 refine⟨[bg P 20 t (a.1.enc a.2),bg P 20 t (a.1.enc z),(@decide (a.2=z) (Ty.dU a.1 a.2 z)=af↔a.1.enc a.2=a.1.enc z)],⟨f1,f2,f3,au⟩, ?_,rfl⟩;generalize @decide (a.2=z) (Ty.dU a.1 a.2 z)=β at f3;generalize a.1.enc a.2=p at f1 f3 ⊢;generalize a.1.enc z=q at f2 f3 ⊢;clear f3;unfold BZ at h1;unfold bg at f1 f2;unfold iq;split at h1
 .rename_i m e hu;rw[hu]at f1 f2 ⊢;cases p <;> first|exact f1.elim|skip
  cases q <;> first|exact f2.elim|skip
  dsimp only;rw[yW h5]
 .rename_i m hu;rw[hu]at f1 f2 ⊢;cases p <;> first|exact f1.elim|skip
  cases q <;> first|exact f2.elim|skip
  dsimp only;rw[yW h5]
 .cases h1
theorem Zye{t:yc}{x y:Pl}(hx:x.isAgg=af)(op:BinOp)(hs:yL al)(h:op=.eql\/op=.neq):gi P op t (.p x) (.p y) hs=(iq P t (.p x) (.p y) hs).map λr=>(r.1,.p (.bool (if op=.eql then r.2.1 else !r.2.1)),r.2.2):=by
 cases x <;> first|cases hx|skip
 all_goals (unfold gi;rcases h with rfl|rfl <;> rfl)
theorem ZJt{op:BinOp}{t:yc}{x y:TD}{K:TD->yL al->yO O}{out:O}(h:CA P op t x y K=ab out):∃d hs C,K d hs=ab out/\bc C/\∀yK,gi P op t (x.er L) (y.er L) (hs++yK)=ab (C,d.er L,yK):=by
 unfold CA at h;split at h
 .rename_i a b ha hb;obtain⟨z,h1,h⟩:=yf.1 h;obtain⟨h2,h⟩:=Za h;simp only[yi,yP]at h2;obtain⟨g1,g2,g3,g4,g5⟩:=h2
  have ey:y.er L=.p (a.1.enc z):=by
   obtain⟨e,rfl⟩:=Vj h1;rw[BY hb];cases a;cases b;cases e;rfl
  have ga:(a.1.enc a.2).isAgg=af:=by rw[uu];exact g2
  split at h
  .obtain⟨C,c1,c2,_⟩:=qz (P:=P) (z:=z) g1 g2 g3 g4 g5 [];refine⟨_,_,[bg P 20 t (a.1.enc a.2),bg P 20 t (a.1.enc z),(@decide (a.2=z) (Ty.dU a.1 a.2 z)=af↔a.1.enc a.2=a.1.enc z)],h, ?_,λyK=> ?_⟩
   .obtain⟨C,c1,_,rfl⟩:=qz (P:=P) (z:=z) g1 g2 g3 g4 g5 [];exact c1
   .obtain⟨C,_,c2,rfl⟩:=qz (P:=P) (z:=z) g1 g2 g3 g4 g5 yK;rw[BY ha,ey,Zye ga _ _ (.inl rfl),yaa,yv,c2];rfl
  .refine⟨_,_,[bg P 20 t (a.1.enc a.2),bg P 20 t (a.1.enc z),(@decide (a.2=z) (Ty.dU a.1 a.2 z)=af↔a.1.enc a.2=a.1.enc z)],h, ?_,λyK=> ?_⟩
   .obtain⟨C,c1,_,rfl⟩:=qz (P:=P) (z:=z) g1 g2 g3 g4 g5 [];exact c1
   .obtain⟨C,_,c2,rfl⟩:=qz (P:=P) (z:=z) g1 g2 g3 g4 g5 yK;rw[BY ha,ey,Zye ga _ _ (.inr rfl),yaa,yv,c2];rfl
  .cases h
 .cases h
def CB(L:Lk)(x y:TD):yO Bool:=
 match y with
 |.p (.sl (ab ag) _ [])=>match x.row L with
  |some ⟨ae,_,l⟩=>ab l.isEmpty
  |_=>ae
 |_=>ae
theorem ZMn{x y:TD}{b:Bool}(h:CB L x y=ab b):∃s xs s',(x.er L=.p (.sl ae s xs)\/∃id,x.er L=.own id ae s xs)/\y.er L=.p (.sl (ab ag) s' [])/\xs.isEmpty=b:=by
 unfold CB at h;split at h
 .split at h
  .rename_i T q t l hr;cases h;refine⟨t.size,l.map t.enc,T.size, ?_,rfl,by cases l <;> rfl⟩;rcases lr hr with h|⟨id,h⟩
   .exact .inl h
   .exact .inr ⟨id,h⟩
  .cases h
 .cases h
def ZP4(P:yg)(op:BinOp)(t:yc)(b:Bool)(K:TD->yL al->yO O):yO O:=
 match P.underlying t with
 |some (.slice _)=>if b=af then ae else match op with
  |.eql=>K (.p (.v .bool ag)) [.bare]
  |.neq=>K (.p (.v .bool af)) [.bare]
  |_=>ae
 |_=>ae
def CC(L:Lk)(P:yg)(op:BinOp)(t:yc)(x y:TD)(K:TD->yL al->yO O):yO O:=
 match x.num,y.num with
 |some a,ab b=>if xW op then(BW op a b).bind λz=>if BV b=af then K (.p z) [.raw] else ae else BU op a b K
 |_,_=>match BX (gi P op t (x.er L) (y.er L) []) with
  |some b=>K (.p (.v .bool b)) []
  |none=>match CB L x y with
   |some b=>ZP4 P op t b K
   |none=>CA P op t x y K
theorem ZHR{op:BinOp}{t:yc}{x y:TD}{K:TD->yL al->yO O}{out:O}(h:CC L P op t x y K=ab out):∃d hs C,K d hs=ab out/\bc C/\∀yK,gi P op t (x.er L) (y.er L) (hs++yK)=ab (C,d.er L,yK):=by
 unfold CC at h;split at h
 .rename_i a b ha hb;rw[V7 ha,V7 hb];split at h
  .rename_i hsh;obtain⟨z,h1,h⟩:=yf.1 h;obtain⟨h2,h⟩:=Za h;refine⟨_,_,[0<=b.n],h,⟨ZEw h2,au⟩,λyK=> ?_⟩;unfold gi;dsimp only;rw[yW hsh];exact ZOz h1 yK
  .rename_i hsh;obtain⟨hk,d,hs,C,h1,h2,h3⟩:=ZCh h;refine⟨d,hs,C,h1,h2,λyK=> ?_⟩;unfold gi;dsimp only;rw[yX hsh,yW hk];exact h3 yK
 .split at h
  .rename_i b hb;exact⟨_,_,[],h,zP,ZHQ hb⟩
  .split at h
   .rename_i b hb;obtain⟨s,xs,s',h1,h2,h3⟩:=ZMn hb;unfold ZP4 at h;split at h
    .rename_i e hu;split at h
     .cases h
     .rename_i hne;have hxs:xs≠[]:=by rintro rfl;exact hne (by rw[<-h3];rfl)
      split at h
      .refine⟨_,_,[xs≠[]],h,⟨hxs,au⟩,λyK=> ?_⟩;unfold gi;rcases h1 with h1|⟨id,h1⟩ <;> (rw[h1,h2];dsimp only;unfold iq;rw[hu];rfl)
      .refine⟨_,_,[xs≠[]],h,⟨hxs,au⟩,λyK=> ?_⟩;unfold gi;rcases h1 with h1|⟨id,h1⟩ <;> (rw[h1,h2];dsimp only;unfold iq;rw[hu];rfl)
      .cases h
    .cases h
   .exact ZJt h
def CD(k:IntKind):Num->yO TP
 |.u8 b=>match k with
  |.u8=>ab (.v .u8 b)
  |.u32=>ab (.v .u32 (UInt32.ofNat b.toNat))
  |.u64=>ab (.v .u64 (yaf b.toNat))
  |.i64=>ab (.v (.int .i64) (b.toNat:Int))
  |_=>ae
 |.u32 b=>match k with
  |.u32=>ab (.v .u32 b)
  |.u64=>ab (.v .u64 (yaf b.toNat))
  |.i64=>ab (.v (.int .i64) (b.toNat:Int))
  |_=>ae
 |.u64 b=>match k with
  |.u64=>ab (.v .u64 b)
  |_=>ae
 |.i _ _=>ae
theorem ZEx{k:IntKind}{a:Num}{z:TP}(h:CD k a=ab z):WT k a.n/\z.pe=.int k a.n:=by
 unfold CD at h;split at h
 .rename_i b;have:=b.toNat_lt;split at h <;> first|cases h|skip
  all_goals
   refine⟨?_, ?_⟩
   .simp only[WT,IntKind.min,IntKind.max,IntKind.signed,IntKind.bits,Num.n];constructor <;> simp<;> omega
   .simp only[TP.pe,Ty.enc,Num.n,ycu,ybj]
    try (congr 2;omega)
 .rename_i b;have:=b.toNat_lt;split at h <;> first|cases h|skip
  all_goals
   refine⟨?_, ?_⟩
   .simp only[WT,IntKind.min,IntKind.max,IntKind.signed,IntKind.bits,Num.n];constructor <;> simp<;> omega
   .simp only[TP.pe,Ty.enc,Num.n,ycu,ybj]
    try (congr 2;omega)
 .rename_i b;have:=b.toNat_lt;split at h <;> first|cases h|skip
  refine⟨?_,rfl⟩;simp only[WT,IntKind.min,IntKind.max,IntKind.signed,IntKind.bits,Num.n];constructor <;> simp<;> omega
 .cases h
def bytesOf(l:yL yB):ByteArray:=⟨l.toArray⟩
theorem ZCj(l:yL yB):l.map (Ty.enc .u8)=(bytesOf l).data.toList.map λx=>.int .u8 (x.toNat:Int):=rfl
def ZP5(P:yg)(e:yc)(K:TD->yL al->yO O)(r:Row):yO O:=
 (Ty.br r.t .u8 r.l).bind λl=>match P.underlying e with
   |some (.int .u8)=>K (.p (.v .str (bytesOf l))) [.el (.str (bytesOf l))]
   |_=>ae
def CE:TD->yO ByteArray
 |.p (.v t s)=>match t with
  |.str=>ab s
  |_=>ae
 |_=>ae
theorem ZMo{L:Lk}{x:TD}{b:ByteArray}(h:CE x=ab b):x.er L=.p (.str b):=by
 unfold CE at h;split at h
 .split at h
  .cases h;rfl
  .cases h
 .cases h
def CF(L:Lk)(P:yg)(src dst:yc)(K:TD->yL al->yO O)(x:TD):yO O:=
 match P.underlying src,P.underlying dst with
 |some _,ab (.int k)=>x.num.bind λa=>match CD k a with
  |some z=>K (.p z) [.bare]
  |none=>K (.p (ul k a.n)) [.raw]
 |some (.slice e),ab .string=>(x.row L).bind (ZP5 P e K)
 |some .string,ab (.slice e)=>(CE x).bind λb=>match P.underlying e with
  |some (.int .u8)=>if ah (b.size<=maxLen)=af then K (.p (.sl (ab af) .u8 b.data.toList)) [] else ae
  |_=>ae
 |_,_=>ae
theorem ZEy{src dst:yc}{x:yn}{K:TD->yL al->yO O}{xd:TD}{out:O}(ho:o.op=.convert src dst x)(hx:aW P ts src x=ab xd)(h:CF L P src dst K xd=ab out):∃d hs,K d hs=ab out/\dq L P o ts d hs:=by
 have hv:=Zq (L:=L) hx;unfold CF at h;split at h
 .rename_i q k hq hk;obtain⟨a,h1,h⟩:=yf.1 h;rw[V7 h1]at hv;split at h
  .rename_i z hz;obtain⟨c1,c2⟩:=ZEx hz;refine⟨_,_,h,[WT k a.n],⟨c1,au⟩,λyK=> ?_⟩;unfold aX;rw[ho];dsimp only;rw[hq,hk,hv,TD.er,c2];rfl
  .refine⟨_,_,h,[],zP,λyK=> ?_⟩;unfold aX;rw[ho];dsimp only;rw[hq,hk,hv,TD.er,UN];rfl
 .rename_i e hq hk;obtain⟨r,h1,h⟩:=yf.1 h;unfold ZP5 at h;obtain⟨l,h2,h9⟩:=yf.1 h;split at h9
  .rename_i he;obtain⟨nn,rt,rl⟩:=r;obtain⟨e1,h2⟩:=ZC h2;dsimp only at e1 h2;subst e1;subst h2;refine⟨_,_,h9,[l.map (Ty.enc .u8)=(bytesOf l).data.toList.map λx=>.int .u8 (x.toNat:Int)],⟨ZCj l,au⟩,λyK=> ?_⟩;unfold aX;rw[ho];dsimp only;rcases lr h1 with e2|⟨id,e2⟩
   .rw[hq,hk,hv,e2];dsimp only;rw[yaa,yv,he];dsimp only;rw[yW (show Ty.u8.size=1 from rfl)]
    rfl
   .rw[hq,hk,hv,e2];dsimp only;rw[yaa,yv,he];dsimp only;rw[yW (show Ty.u8.size=1 from rfl)]
    rfl
  .cases h9
 .rename_i e hq hk;obtain⟨b,h1,h⟩:=yf.1 h;split at h
  .rename_i he;obtain⟨h2,h⟩:=Za h;refine⟨_,_,h,[b.size<=maxLen],⟨yF h2,au⟩,λyK=> ?_⟩;unfold aX;rw[ho];dsimp only;rw[hq,hk,hv,ZMo h1];dsimp only;rw[he];rfl
  .cases h
 .cases h
def qA(P:yg)(ts:yL TD)(f:Nat->yc):yL (Nat×yn)->yO (yL (Nat×TD))
 |[]=>ab []
 |q::r=>match aW P ts (f q.1) q.2,qA P ts f r with
  |some d,ab l=>ab ((q.1,d)::l)
  |_,_=>ae
theorem uB{f:Nat->yc}:∀{parts:yL (Nat×yn)}{l:yL (Nat×TD)},qA P ts f parts=ab l->Qs P (TD.ay L ts) f parts=l.map λq=>(q.1,q.2.er L)
 |[],l,h=>by cases h;rfl
 |q::r,l,h=>by
  simp only[qA]at h;split at h
  .rename_i d l' h1 h2;cases h;have:=uB h2;simp only[Qs,yad]at this ⊢;rw[this,Zq h1]
  .cases h
def qC(L:Lk):yL TD->yL (Nat×TD)->yO (yL TD)
 |ds,[]=>ab ds
 |ds,(i,d)::r=>match ds[i]? with
  |some old=>if(old.er L).size=(d.er L).size then qC L (ds.set i d) r else ae
  |none=>ae
theorem CH:∀{l:yL (Nat×TD)}{ds es:yL TD},qC L ds l=ab es->gY (TD.ay L ds) (l.map λq=>(q.1,q.2.er L))=ab (TD.ay L es)
 |[],ds,es,h=>by cases h;rfl
 |(i,d)::r,ds,es,h=>by
  simp only[qC]at h;split at h
  .rename_i old h1;split at h
   .rename_i h2;have:=CH h;simp only[yad,gY,tn];rw[Vt h1];dsimp only;rw[yW h2];rw[show(TD.ay L ds).set i (d.er L)=TD.ay L (ds.set i d) by rw[Zz,Zz,List.map_set]];exact this
   .cases h
  .cases h
def qD(P:yg):yL yc->yL Pl->yO (yL TP)
 |[],[]=>ab []
 |t::r,z::q=>match up P t z,qD P r q with
  |some a,ab b=>ab (a::b)
  |_,_=>ae
 |_,_=>ae
theorem CI:∀{l:yL yc}{zs:yL Pl}{r:yL TP},qD P l zs=ab r->TP.cg r=zs
 |[],[],r,h=>by cases h;rfl
 |[],_::_,r,h=>by cases h
 |_::_,[],r,h=>by cases h
 |t::l,z::zs,r,h=>by
  simp only[qD]at h;split at h
  .rename_i a b h1 h2;cases h;rw[TP.cg,BB h1,CI h2]
  .cases h
def lw(L:Lk):yL TD->yO (yL TP)
 |[]=>ab []
 |d::r=>match d.plain L,lw L r with
  |some a,ab b=>ab (a::b)
  |_,_=>ae
theorem Zus{x:TD}(h:x.plain L=ae):(x.er L).plain=ae:=by
 cases x <;> first|rfl|cases h
theorem CJ:∀(ds:yL TD),iL (TD.ay L ds)=(lw L ds).map TP.cg
 |[]=>rfl
 |d::r=>by
  simp only[TD.ay,iL,lw];rw[CJ r]
  cases h:d.plain L with
  |none=>rw[Zus h];cases lw L r <;> rfl
  |some a=>
   rw[UR h];cases lw L r <;> rfl
def CK(L:Lk)(P:yg)(t:yc)(ds:yL TD):TD:=
 match lw L ds with
 |some l=>.p (um P t l)
 |none=>.agg ds
theorem ZHS(t:yc)(ds:yL TD):(CK L P t ds).er L=pF (TD.ay L ds):=by
 unfold CK pF;rw[CJ]
 cases lw L ds with
 |none=>rfl
 |some l=>simp only[TD.er,UO,yab]
theorem CL(l:yL TP):TD.ay L (l.map .p)=(TP.cg l).map .p:=by
 rw[Zz,WB,yaq,yaq];rfl
def CM(L:Lk)(P:yg)(ts:yL TD)(t:yc)(parts:yL (Nat×yn))(K:TD->yL al->yO O):yO O:=
 match P.underlying t,YP P t with
 |some (.struct fs),.p (.agg zs)=>(qD P (fs.toList.map (·.type)) zs).bind λzt=>(qA P ts (kW P t) parts).bind λps=>
  if(kV (ps.map λq=>(q.1,q.2.er L))&&fs.size==zs.length&&(yq zs.length).all λi=>kU P fs i (Pl.sizes (zs.take i)) ((zs.getD i default).size) ((zs.getD i default).isAgg))=af then
   (qC L (zt.map .p) ps).bind λds=>K (CK L P t ds) [] else ae
 |some (.array _ e),.p (.arr n s zs)=>(qD P (yy zs.length e) zs).bind λzt=>(qA P ts (kW P t) parts).bind λps=>
  if(kV (ps.map λq=>(q.1,q.2.er L))&&P.cellsOf e=s&&(P.info? e).isSome)=af then
   (qC L (zt.map .p) ps).bind λds=>match lw L ds with
     |some l=>K (.p (uo P t n s l)) []
     |none=>K (.arr n s ds) [] else ae
 |_,_=>ae
theorem ZCk{t:yc}{parts:Array (Nat×yn)}{K:TD->yL al->yO O}{out:O}(ho:o.op=.build t parts)(h:CM L P ts t parts.toList K=ab out):∃d hs,K d hs=ab out/\dq L P o ts d hs:=by
 unfold CM at h;split at h
 .rename_i fs zs hu hz;obtain⟨zt,h1,h⟩:=yf.1 h;obtain⟨ps,h2,h⟩:=yf.1 h;obtain⟨h3,h⟩:=Za h;obtain⟨ds,h4,h⟩:=yf.1 h;refine⟨_,_,h,[],zP,λyK=> ?_⟩;simp only[yv];unfold aX;rw[ho];dsimp only;rw[hu,hz];dsimp only;rw[uB h2,yW h3];have:=CH h4;rw[CL,CI h1]at this;rw[this,ZHS];rfl
 .rename_i m e n s zs hu hz;obtain⟨zt,h1,h⟩:=yf.1 h;obtain⟨ps,h2,h⟩:=yf.1 h;obtain⟨h3,h⟩:=Za h;obtain⟨ds,h4,h⟩:=yf.1 h;have:=CH h4;rw[CL,CI h1]at this;have pl:=CJ (L:=L) ds;split at h
  .rename_i l hl;refine⟨_,_,h,[],zP,λyK=> ?_⟩;simp only[yv];unfold aX;rw[ho];dsimp only;rw[hu,hz];dsimp only;rw[uB h2,yW h3,this,Option.bind_some,pl,hl,TD.er,UP];rfl
  .rename_i hl;refine⟨_,_,h,[],zP,λyK=> ?_⟩;simp only[yv];unfold aX;rw[ho];dsimp only;rw[hu,hz];dsimp only;rw[uB h2,yW h3,this,Option.bind_some,pl,hl];rfl
 .cases h
def uC(L:Lk)(P:yg)(ts:yL TD)(e:yc)(T:Ty):yL (Nat×yn)->yO (yL T.aN)
 |[]=>ab []
 |q::r=>match (aW P ts e q.2).bind (TD.flat L) with
  |some x=>if x.pe.size=P.cellsOf e then jG (TP.to iQ x T) (uC L P ts e T r) |>.map λp=>p.1::p.2 else ae
  |none=>ae
theorem ZGo{e:yc}{T:Ty}:∀{parts:yL (Nat×yn)}{l:yL T.aN},uC L P ts e T parts=ab l->
 ∃xs,Dv.aM (parts.map λq=>Zs P (TD.ay L ts) e q.2)=ab xs/\xs.all (λx=>x.size==P.cellsOf e)=af/\xs.map Pl.soft=l.map T.enc
 |[],l,h=>by cases h;exact⟨[],rfl,rfl,rfl⟩
 |q::r,l,h=>by
  simp only[uC]at h;split at h
  .rename_i x hx;obtain⟨d,h1,h2⟩:=yf.1 hx;split at h
   .rename_i hs;obtain⟨p,h3,rfl⟩:=Zb h;obtain⟨h4,h5⟩:=VJ h3;obtain⟨xs,e1,e2,e3⟩:=ZGo h5;refine⟨x.pe::xs, ?_, ?_, ?_⟩
    .simp only[yad,Dv.aM];rw[Zq h1,uv h2,e1]
    .simp only[List.all_cons,yi,yT];exact⟨hs,e2⟩
    .rw[yad,kz x T _ h4,e3,yad]
   .cases h
  .cases h
def mN(L:Lk)(P:yg)(ts:yL TD)(t:yc)(len:Nat)(parts:yL (Nat×yn))(K:(T:Ty)->yL T.aN->yc->yO O):yO O:=
 match P.underlying t with
 |some (.slice e)=>(fJ P gj e).bind λT=>(P.info? e).bind λi=>(uC L P ts e T parts).bind λl=>
  if(parts.map (·.1)==yq len)&&(cf i&&i.size !=0&&ah (len*i.size<=16777216))&&(ah (i.size=T.size)&&ah (P.cellsOf e=i.size)) then K T l e else ae
 |_=>ae
theorem qF{t:yc}{len:Nat}{parts:yL (Nat×yn)}{K:(T:Ty)->yL T.aN->yc->yO O}{out:O}(h:mN L P ts t len parts K=ab out):
 ∃e T l i xs,K T l e=ab out/\P.underlying t=ab (.slice e)/\P.info? e=ab i/\XK P (TD.ay L ts) e (P.cellsOf e) len parts=ab xs/\(cf i&&i.size !=0&&ah (len*i.size<=16777216))=af/\i.size=T.size/\xs.map Pl.soft=l.map T.enc:=by
 unfold mN at h;split at h
 .rename_i e hu;obtain⟨T,h1,h⟩:=yf.1 h;obtain⟨i,h2,h⟩:=yf.1 h;obtain⟨l,h3,h⟩:=yf.1 h;obtain⟨h4,h⟩:=Za h;simp only[yi,yP]at h4;obtain⟨xs,e1,e2,e3⟩:=ZGo h3;refine⟨e,T,l,i,xs,h,hu,h2, ?_, ?_,h4.2.1,e3⟩
  .unfold XK;rw[yW h4.1.1,e1];dsimp only;rw[yW e2]
  .simp only[yi,yP];exact h4.1.2
 .cases h
def CN(L:Lk)(P:yg)(t:yc)(K:TD->yL al->yO O)(x:TD):yO O:=
 match P.underlying t with
 |some (.slice _)=>match x with
  |.view _ _ _ _ n=>K (.p (.v (.int .i64) (n:Int))) []
  |.rv _ _ _ _ n=>K (.p (.v (.int .i64) (n:Int))) []
  |x=>(x.row L).bind λr=>K (.p (.v (.int .i64) (r.l.length:Int))) []
 |some (.array n _)=>K (.p (.v (.int .i64) (n:Int))) []
 |some .string=>match x with
  |.p x=>x.kA.bind λs=>K (.p (.v (.int .i64) (s.size:Int))) []
  |_=>ae
 |_=>ae
theorem ZHT{t:yc}{x:yn}{c:Call}{K:TD->yL al->yO O}{xd:TD}{out:O}(ho:o.op=.call c)(hc:c.callee=.builtin .len)(ha:c.args.toList=[x])(ht:c.argTypes.toList=[t])
 (hx:aW P ts t x=ab xd) (h:CN L P t K xd=ab out):∃d hs,K d hs=ab out/\dq L P o ts d hs:=by
 have hv:=Zq (L:=L) hx;unfold CN at h;split at h
 .rename_i e hu;split at h
  .refine⟨_,_,h,[],zP,λyK=> ?_⟩;simp only[yv];unfold aX;rw[ho];dsimp only;rw[hc];dsimp only;rw[ha,ht];dsimp only;rw[hu,hv];rfl
  .refine⟨_,_,h,[],zP,λyK=> ?_⟩;simp only[yv];unfold aX;rw[ho];dsimp only;rw[hc];dsimp only;rw[ha,ht];dsimp only;rw[hu,hv];rfl
  .obtain⟨r,h1,h⟩:=yf.1 h;refine⟨_,_,h,[],zP,λyK=> ?_⟩;simp only[yv];unfold aX;rw[ho];dsimp only;rw[hc];dsimp only;rw[ha,ht];dsimp only;rcases lr h1 with he|⟨id,he⟩
   .rw[hu,hv,he];dsimp only;rw[yx];rfl
   .rw[hu,hv,he];dsimp only;rw[yx];rfl
 .rename_i n e hu;refine⟨_,_,h,[],zP,λyK=> ?_⟩;simp only[yv];unfold aX;rw[ho];dsimp only;rw[hc];dsimp only;rw[ha,ht];dsimp only;rw[hu];rfl
 .rename_i hu;split at h
  .obtain⟨s,h1,h⟩:=yf.1 h;refine⟨_,_,h,[],zP,λyK=> ?_⟩;simp only[yv];unfold aX;rw[ho];dsimp only;rw[hc];dsimp only;rw[ha,ht];dsimp only;rw[hu,hv,TD.er,UU h1];rfl
  .cases h
 .cases h
def kB(L:Lk)(P:yg)(T:Ty)(u:yc)(x:TD):yO (yL T.aN):=
 match P.underlying u with
 |some (.slice _)=>(x.row L).bind λr=>Ty.br r.t T r.l
 |some .string=>match x,T with
  |.p (.v .str s),.u8=>ab (fm s)
  |_,_=>ae
 |_=>ae
theorem mO{T:Ty}{u:yc}{x:TD}{l:yL T.aN}(h:kB L P T u x=ab l):gI P T.size u (x.er L)=ab (l.map T.enc):=by
 unfold kB at h;split at h
 .rename_i e hu;obtain⟨r,h1,h⟩:=yf.1 h;obtain⟨e,h2⟩:=ZC h;obtain⟨nn,t,l0⟩:=r;dsimp only at e h2 h1;subst e;subst h2;unfold gI;rcases lr h1 with he|⟨id,he⟩
  .rw[hu,he];dsimp only;rw[yW (.inl rfl)]
  .rw[hu,he];dsimp only;rw[yW rfl]
 .rename_i hu;split at h
  .rename_i s;cases h;unfold gI;rw[hu];rfl
  .cases h
 .cases h
def TD.boolT:TD->yO Bool
 |.p x=>x.gL
 |_=>ae
theorem oi{x:TD}{b:Bool}(h:x.boolT=ab b):x.er L=.p (.bool b):=by
 unfold TD.boolT at h;split at h
 .rw[TD.er,ZJg h]
 .cases h
def TD.inner:TD->yO TP
 |.p x=>ab x
 |_=>ae
theorem YQ{x:TD}{y:TP}(h:x.inner=ab y):x=.p y:=by
 unfold TD.inner at h;split at h
 .cases h;rfl
 .cases h
def CO(L:Lk)(P:yg)(t:yc)(i:Int)(K:TD->yL al->yO O)(a:TD):yO O:=
 match a with
 |.arr n' s xs=>match P.underlying t with
  |some (.array n e)=>(xs[i.toNat]?).bind λd=>if ah (0<=i)&&ah (n=n')&&okB P e s&&(Xi P e==(d.er L).isAgg)&&((P.underlying e).isSome&&s !=0) then K d [] else ae
  |_=>ae
 |a=>a.inner.bind (BF P t i K)
theorem ZCl{t:yc}{x ix:yn}{K:TD->yL al->yO O}{xd:TD}{q:IntKind×Int}{ip:TP}{out:O}(ho:o.op=.index t x ix)(hx:aW P ts t x=ab xd)(hi:aW P ts 0 ix=ab (.p ip))(hq:iz ip=ab q)
 (h:CO L P t q.2 K xd=ab out):∃d hs,K d hs=ab out/\dq L P o ts d hs:=by
 unfold CO at h;split at h
 .rename_i n' s xs;split at h
  .rename_i n e hu;obtain⟨d,h1,h⟩:=yf.1 h;obtain⟨h3,h⟩:=Za h;have hv:=Zq (L:=L) hx;have hw:=Zq (L:=L) hi;rw[TD.er,(og hq).1]at hw;simp only[okB,yi,yP]at h3;obtain⟨⟨⟨⟨a1,a2⟩,a3,a4⟩,a5⟩,a6,a7⟩:=h3;refine⟨d,[],h,[0<=q.2],⟨a1,au⟩,λyK=> ?_⟩;unfold aX;rw[ho];dsimp only;rw[hu,hv,hw,TD.er];dsimp only;rw[Vt h1];dsimp only;rw[yW (by simp only[yi,yP];exact⟨⟨⟨⟨⟨a2,a3⟩,a5⟩,a6⟩,a4⟩,a7⟩)];rfl
  .cases h
 .obtain⟨ap,h5,h⟩:=yf.1 h;rw[YQ h5]at hx;exact ZCf ho hx hi hq h
def qG(P:yg)(ts:yL TD):yL yn->yO (yL TD)
 |[]=>ab []
 |x::r=>match aW P ts 0 x,qG P ts r with
  |some a,ab b=>ab (a::b)
  |_,_=>ae
theorem CP:∀{l:yL yn}{ds:yL TD},qG P ts l=ab ds->l.map (Zs P (TD.ay L ts) 0)=TD.ay L ds
 |[],ds,h=>by cases h;rfl
 |x::l,ds,h=>by
  simp only[qG]at h;split at h
  .rename_i a b h1 h2;cases h;rw[yad,Zq h1,CP h2];rfl
  .cases h
def ZNQ(P:yg)(t:yc)(K:TD->yL al->yO O):TD->yO O
 |.elem x=>if ah (P.cellsOf t=x.pe.size)&&(Xi P t==x.pe.isAgg&&((P.underlying t).isSome&&(P.info? t).isSome)) then K (.p x) [] else ae
 |_=>ae
def ZNR(L:Lk)(P:yg)(ts:yL TD)(t u:yc)(x y:yn)(K:TD->yL al->yO O):yO O:=
 match P.underlying t,aW P ts t x with
 |some (.slice e),ab (.p (.sl (ab ag) _ []))=>(P.info? e).bind λi=>(fJ P gj e).bind λT=>(aW P ts u y).bind λyd=>(kB L P T u yd).bind λl=>
  if(cf i&&i.size !=0)&&(ah (P.cellsOf e=T.size)&&ah (i.size=T.size)) then if lm l.length i.bytes=af then K (.p (.sl ae T l)) [.iJ] else ae else ae
 |_,_=>ae
def CQ(P:yg)(t:yc)(l h m:yO Int)(K:TD->yL al->yO O):TD->yO O
 |.rv _ _ _ _ n=>match P.underlying t with
  |some (.slice e)=>l.bind λl=>h.bind λh=>m.bind λm=>if(P.info? e).isSome=af then if(ah (0<=l)&&ah (l<=h)&&ah (h<=m)&&ah (m<=(n:Int)))=af then K .ao [] else ae else ae
  |_=>ae
 |_=>ae
theorem Zzv{t:yc}{x mx:yn}{lo hi:yO yn}{l h' m:yO Int}{K:TD->yL al->yO O}{xd:TD}{out:O}(ho:o.op=.slice t x lo hi (ab mx))(hx:aW P ts t x=ab xd)(hl:fg P ts lo=ab l)(hh:fg P ts hi=ab h')(hm:fg P ts (ab mx)=ab m)
 (h:CQ P t l h' m K xd=ab out):∃d hs,K d hs=ab out/\dq L P o ts d hs:=by
 have hv:=Zq (L:=L) hx;have hl:=iR (L:=L) hl;have hh:=iR (L:=L) hh;have hm:=iR (L:=L) hm;unfold CQ at h;split at h
 .rename_i id v s l0 n;split at h
  .rename_i e hu;obtain⟨l2,q1,h⟩:=yf.1 h;obtain⟨h2,q2,h⟩:=yf.1 h;obtain⟨m2,q3,h⟩:=yf.1 h;subst q1;subst q2;subst q3;obtain⟨h3,h⟩:=Za h;obtain⟨h4,h⟩:=Za h;simp only[yi,yP]at h4;refine⟨_,_,h,[0<=l2,l2<=h2,h2<=m2,m2<=(n:Int)],⟨h4.1.1.1,h4.1.1.2,h4.1.2,h4.2,au⟩,λyK=> ?_⟩;simp only[yv];unfold aX;rw[ho];dsimp only;rw[hu,hv,hl,hh,hm];dsimp only[TD.er];rw[yW h3]
  .cases h
 .cases h
def CR(P:yg)(t:yc)(K:TD->yL al->yO O)(r:Row):yO O:=
 match P.underlying t with
 |some (.array n e)=>if(n !=0)=af then if ah (n<=r.l.length)=af then K (.elem (.v (.arr n r.t) (r.l.take n))) [] else ae else ae
 |_=>ae
theorem Zzx{t:yc}{x:yn}{K:TD->yL al->yO O}{xd:TD}{r:Row}{out:O}(ho:o.op=.sliceToArrayPointer t x)(hx:aW P ts 0 x=ab xd)(hr:xd.row L=ab r)
 (h:CR P t K r=ab out):∃d hs,K d hs=ab out/\dq L P o ts d hs:=by
 have hv:=Zq (L:=L) hx;unfold CR at h;split at h
 .rename_i n e hu;obtain⟨h3,h⟩:=Za h;obtain⟨h4,h⟩:=Za h;have h4:=yF h4;refine⟨_,_,h,[n<=(r.l.map r.t.enc).length],⟨by rw[yx];exact h4,au⟩,λyK=> ?_⟩;simp only[yv];unfold aX;rw[ho];dsimp only;rcases lr hr with e2|⟨id,e2⟩
  .rw[hu,hv,e2];dsimp only;rw[yW h3, <-List.map_take];rfl
  .rw[hu,hv,e2];dsimp only;rw[yW h3, <-List.map_take];rfl
 .cases h
abbrev _root_.aOz:=yL yB
def CS(L:Lk)(x:TD):yO aOz:=(x.row L).bind λr=>Ty.br r.t .u8 r.l
def ZP6(L:Lk)(K:TD->yL al->yO O)(a b:TD):yO O:=(CS L a).bind λl=>(CS L b).bind λm=>K (.p (.v (.int .i64) (Go.Lib.compareBytes l m))) [.el (.str (bytesOf l)),.el (.str (bytesOf m))]
theorem ZGp{L:Lk}{x:TD}{l:yL yB}(h:CS L x=ab l):∃nn,(x.er L).bR []=.p (.sl nn 1 (gr (bytesOf l))):=by
 obtain⟨r,h1,h2⟩:=yf.1 h;obtain⟨nn,rt,rl⟩:=r;obtain⟨e1,h2⟩:=ZC h2;dsimp only at e1 h2;subst e1;subst h2;rcases lr h1 with e2|⟨id,e2⟩
 .rw[e2];exact⟨_,rfl⟩
 .rw[e2];exact⟨_,rfl⟩
def CT:Num->yO TP
 |.u8 b=>ab (.v .u8 (255^^^b))
 |.u32 b=>ab (.v .u32 (4294967295^^^b))
 |.u64 b=>ab (.v .u64 (18446744073709551615^^^b))
 |.i _ _=>ae
theorem ZMq{a:Num}{z:TP}(h:CT a=ab z):a.k.signed=ag/\z.pe=.int a.k (bits .xor a.k a.k.max a.n):=by
 unfold CT at h;split at h
 .rename_i b;cases h;exact⟨rfl,congrArg (Pl.int .u8) (UW .xor 255 b).symm⟩
 .rename_i b;cases h;exact⟨rfl,congrArg (Pl.int .u32) (UY .xor 4294967295 b).symm⟩
 .rename_i b;cases h;exact⟨rfl,congrArg (Pl.int .u64) (ZJo .xor 18446744073709551615 b).symm⟩
 .cases h
def CU(L:Lk)(P:yg)(o:Oper)(ts:yL TD)(K:TD->yL al->yO O):yO O:=
 match o.op with
 |.move x=>(aW P ts o.type x).bind λd=>K d [.raw]
 |.assign x=>(aW P ts o.type x).bind λd=>K d [.raw]
 |.pick c a b=>((aW P ts 0 c).bind TD.boolT).bind λt=>(aW P ts o.type a).bind λda=>(aW P ts o.type b).bind λdb=>if t=af then K da [.b af] else K db [.b ag]
 |.nilCheck x=>match aW P ts 0 x with
  |some (.ak id p)=>K (.ak id p) []
  |some (.elem y)=>K (.elem y) []
  |some (.aY id v p)=>K (.aY id v p) []
  |some (.rp id p)=>K (.rp id p) []
  |some (.fn f c)=>K (.fn f c) []
  |_=>ae
 |.binOp op t x y yt=>(aW P ts t x).bind λa=>(aW P ts yt y).bind λb=>CC L P op t a b K
 |.unOp .not _ x=>((aW P ts 0 x).bind TD.boolT).bind λt=>K (.p (.v .bool (!t))) []
 |.unOp .neg _ x=>((aW P ts 0 x).bind TD.num).bind λa=>K (.p (ul a.k (0 - a.n))) [.raw]
 |.unOp .xor _ x=>((aW P ts 0 x).bind TD.num).bind λa=>(CT a).bind λz=>K (.p z) []
 |.convert src dst x=>(aW P ts src x).bind (CF L P src dst K)
 |.makeFunc (.func f) first captured=>if(first.isEmpty&&ah (f < big))=af then(qG P ts captured.toList).bind λds=>K (.fn f ds) [] else if captured.isEmpty=af then(qG P ts first.toList).bind λds=>K (.fn (f+big) ds) [] else ae
 |.makeInterface t x=>match P.underlying t with
  |some (.interface _)=>ae
  |some _=>(aW P ts t x).bind λd=>K (.iface t d) []
  |none=>ae
 |.field t x i=>(aW P ts t x).bind (BC L P t i K)
 |.fieldAddr t x i=>(aW P ts 0 x).bind (BD P t i K)
 |.indexAddr t x ix=>(aW P ts t x).bind λa=>(aW P ts 0 ix).bind λb=>b.inner.bind λip=>(iz ip).bind λq=>BE L P t q.2 K a
 |.index t x ix=>(aW P ts t x).bind λa=>(aW P ts 0 ix).bind λb=>b.inner.bind λip=>(iz ip).bind λq=>CO L P t q.2 K a
 |.slice t x lo hi ae=>(aW P ts t x).bind λa=>(fg P ts lo).bind λl=>(fg P ts hi).bind λh=>BG L P t l h K a
 |.slice t x lo hi (ab mx)=>(aW P ts t x).bind λa=>(fg P ts lo).bind λl=>(fg P ts hi).bind λh=>(fg P ts (ab mx)).bind λm=>CQ P t l h m K a
 |.sliceToArrayPointer t x=>(aW P ts 0 x).bind λa=>(a.row L).bind (CR P t K)
 |.extract x i=>match aW P ts 0 x with
  |some (.bj ds)=>(ds[i]?).bind λd=>K d []
  |_=>ae
 |.load t x=>(aW P ts 0 x).bind (ZNQ P t K)
 |.build t parts=>CM L P ts t parts.toList K
 |.buildSlice t len parts=>mN L P ts t len parts.toList λT l _=>K (.p (.sl (ab af) T l)) [.iJ]
 |.call c=>match c.callee with
  |.builtin .len=>match c.args.toList,c.argTypes.toList with
   |[x],[t]=>(aW P ts t x).bind (CN L P t K)
   |_,_=>ae
  |.builtin .max=>match c.args.toList,c.argTypes.toList with
   |[x,y],[t,u]=>((aW P ts t x).bind TD.num).bind λa=>((aW P ts u y).bind TD.num).bind λb=>if(ah (a.k=.i64)&&ah (b.k=.i64))=af then K (.p (.v (.int .i64) (ZQY a.n b.n))) [] else ae
   |_,_=>ae
  |.builtin .append=>match c.args.toList,c.argTypes.toList with
   |[x,y],[t,u]=>ZNR L P ts t u x y K
   |_,_=>ae
  |.value f=>match aW P ts 0 f with
   |some (.fn g [])=>if(lY P g&&c.args.size==c.argTypes.size)=af then match c.args.toList,c.argTypes.toList with
     |[x,y],[t,u]=>(aW P ts t x).bind λa=>(aW P ts u y).bind λb=>ZP6 L K a b
     |_,_=>ae
    else ae
   |_=>ae
  |_=>ae
 |_=>ae
theorem ZJx{K:TD->yL al->yO O}{out:O}(h:CU L P o ts K=ab out):∃d hs,K d hs=ab out/\dq L P o ts d hs:=by
 unfold CU at h;split at h
 .rename_i x ho;obtain⟨d,h1,h⟩:=yf.1 h;refine⟨_,_,h,[],zP,λyK=> ?_⟩;unfold aX;rw[ho];dsimp only;rw[Zq h1];rfl
 .rename_i x ho;obtain⟨d,h1,h⟩:=yf.1 h;refine⟨_,_,h,[],zP,λyK=> ?_⟩;unfold aX;rw[ho];dsimp only;rw[Zq h1];rfl
 .rename_i c a b ho;obtain⟨t,h1,h⟩:=yf.1 h;obtain⟨cd,h0,h1⟩:=yf.1 h1;obtain⟨da,h2,h⟩:=yf.1 h;obtain⟨db,h3,h⟩:=yf.1 h;split at h
  .rename_i ht;refine⟨_,_,h,[t=af],⟨ht,au⟩,λyK=> ?_⟩;unfold aX;rw[ho];dsimp only;rw[Zq h0,oi h1,Zq h2];rfl
  .rename_i ht;refine⟨_,_,h,[t=ag],⟨by simpa using ht,au⟩,λyK=> ?_⟩;unfold aX;rw[ho];dsimp only;rw[Zq h0,oi h1,Zq h3];rfl
 .rename_i x ho;split at h
  all_goals first|cases h;done|skip
  all_goals
   rename_i hx;refine⟨_,_,h,[],zP,λyK=> ?_⟩;simp only[yv];unfold aX;rw[ho];dsimp only;rw[Zq hx];rfl
 .rename_i op t x y yt ho;obtain⟨a,h1,h⟩:=yf.1 h;obtain⟨b,h2,h⟩:=yf.1 h;obtain⟨d,hs,C,h3,h4,h5⟩:=ZHR h;refine⟨d,hs,h3,C,h4,λyK=> ?_⟩;unfold aX;rw[ho];dsimp only;rw[Zq h1,Zq h2];exact h5 yK
 .rename_i t x ho;obtain⟨b,h1,h⟩:=yf.1 h;obtain⟨xd,h0,h1⟩:=yf.1 h1;refine⟨_,_,h,[],zP,λyK=> ?_⟩;simp only[yv];unfold aX;rw[ho];dsimp only;rw[Zq h0,oi h1];rfl
 .rename_i t x ho;obtain⟨a,h1,h⟩:=yf.1 h;obtain⟨xd,h0,h1⟩:=yf.1 h1;refine⟨_,_,h,[],zP,λyK=> ?_⟩;unfold aX;rw[ho];dsimp only;rw[Zq h0,V7 h1,TD.er,UN];rfl
 .rename_i t x ho;obtain⟨a,h1,h⟩:=yf.1 h;obtain⟨xd,h0,h1⟩:=yf.1 h1;obtain⟨z,h2,h⟩:=yf.1 h;obtain⟨e1,e2⟩:=ZMq h2;refine⟨_,_,h,[],zP,λyK=> ?_⟩;unfold aX;rw[ho];dsimp only;rw[Zq h0,V7 h1,TD.er,e2];dsimp only;rw[e1];rfl
 .rename_i src dst x ho;obtain⟨a,h1,h⟩:=yf.1 h;exact ZEy ho h1 h
 .rename_i f first captured ho
  split at h
  .rename_i hf;obtain⟨ds,h1,h⟩:=yf.1 h;refine⟨_,_,h,[],zP,λyK=> ?_⟩;simp only[yv];unfold aX;rw[ho];dsimp only;rw[yW hf,CP h1];rfl
  .rename_i hf;split at h
   .rename_i hf2;obtain⟨ds,h1,h⟩:=yf.1 h;refine⟨_,_,h,[],zP,λyK=> ?_⟩;simp only[yv];unfold aX;rw[ho];dsimp only;rw[yX hf,yW hf2,CP h1];rfl
   .cases h
 .rename_i t x ho;split at h
  .cases h
  .rename_i u hu hne;obtain⟨d,h1,h⟩:=yf.1 h;refine⟨_,_,h,[],zP,λyK=> ?_⟩;simp only[yv];unfold aX;rw[ho];dsimp only;rw[Zq h1,hne];split
   .rename_i ms hh;exact absurd (yax hh) (hu ms)
   .rfl
   .rename_i hh;cases hh
  .cases h
 .rename_i t x i ho;obtain⟨a,h1,h⟩:=yf.1 h;obtain⟨d,h2,h3⟩:=UT h;refine⟨_,_,h2,[],zP,λyK=> ?_⟩;simp only[yv];unfold aX;rw[ho];dsimp only;rw[Zq h1,h3];rfl
 .rename_i t x i ho;obtain⟨a,h1,h⟩:=yf.1 h;exact ZsA ho h1 h
 .rename_i t x ix ho;obtain⟨a,h1,h⟩:=yf.1 h;obtain⟨b,h2,h⟩:=yf.1 h;obtain⟨ip,h3,h⟩:=yf.1 h;obtain⟨q,h4,h⟩:=yf.1 h;rw[YQ h3]at h2;exact ZsB (id:=.ao) ho h1 h2 h4 h
 .rename_i t x ix ho;obtain⟨a,h1,h⟩:=yf.1 h;obtain⟨b,h2,h⟩:=yf.1 h;obtain⟨ip,h3,h⟩:=yf.1 h;obtain⟨q,h4,h⟩:=yf.1 h;rw[YQ h3]at h2;exact ZCl ho h1 h2 h4 h
 .rename_i t x lo hi ho;obtain⟨a,h1,h⟩:=yf.1 h;obtain⟨l,h2,h⟩:=yf.1 h;obtain⟨r,h3,h⟩:=yf.1 h;exact ZCg ho h1 h2 h3 h
 .rename_i t x lo hi mx ho;obtain⟨a,h1,h⟩:=yf.1 h;obtain⟨l,h2,h⟩:=yf.1 h;obtain⟨r,h3,h⟩:=yf.1 h;obtain⟨m,h4,h⟩:=yf.1 h;exact Zzv ho h1 h2 h3 h4 h
 .rename_i t x ho;obtain⟨a,h1,h⟩:=yf.1 h;obtain⟨r,h2,h⟩:=yf.1 h;exact Zzx ho h1 h2 h
 .rename_i x i ho;split at h
  .rename_i ds hx;obtain⟨d,h1,h⟩:=yf.1 h;refine⟨_,_,h,[],zP,λyK=> ?_⟩;simp only[yv];unfold aX;rw[ho];dsimp only;rw[Zq hx];dsimp only[TD.er];rw[Vt h1];rfl
  .cases h
 .rename_i t x ho;obtain⟨a,h1,h⟩:=yf.1 h;unfold ZNQ at h;split at h
  .obtain⟨h2,h⟩:=Za h;refine⟨_,_,h,[],zP,λyK=> ?_⟩;simp only[yv];unfold aX;rw[ho];dsimp only;rw[Zq h1];dsimp only[TD.er];rw[yW (by simpa[and_assoc] using h2)]
  .cases h
 .rename_i t parts ho;exact ZCk ho h
 .rename_i t len parts ho;obtain⟨e,T,l,i,xs,h1,hu,hi,hl,hz,hs,hx⟩:=qF h;refine⟨_,_,h1,[],zP,λyK=> ?_⟩;unfold aX;rw[ho];dsimp only;rw[yaa,yv];dsimp only;rw[hu];dsimp only;rw[hi,hl];dsimp only;rw[yW (by simpa using hz),hx,hs];rfl
 .rename_i c ho;split at h
  .rename_i hc;split at h
   .rename_i x t ha ht;obtain⟨a,h1,h⟩:=yf.1 h;exact ZHT ho hc ha ht h1 h
   .cases h
  .rename_i hc;split at h
   .rename_i x y t u ha ht;obtain⟨m,h1,h⟩:=yf.1 h;obtain⟨n,h2,h⟩:=yf.1 h;obtain⟨xd,g1,g2⟩:=yf.1 h1;obtain⟨yd,g3,g4⟩:=yf.1 h2;obtain⟨h5,h⟩:=Za h;simp only[yi,yP]at h5;refine⟨_,_,h,[],zP,λyK=> ?_⟩;simp only[yv];unfold aX;rw[ho];dsimp only;rw[hc];dsimp only;rw[ha,ht];dsimp only;rw[Zq g1,Zq g3,V7 g2,V7 g4,h5.1,h5.2];rfl
   .cases h
  .rename_i hc;split at h
   .rename_i x y t u ha ht;unfold ZNR at h;split at h
    .rename_i e T0 hu hx;obtain⟨i,h1,h⟩:=yf.1 h;obtain⟨T,h2,h⟩:=yf.1 h;obtain⟨yd,h3,h⟩:=yf.1 h;obtain⟨l,h4,h⟩:=yf.1 h;obtain⟨h5,h⟩:=Za h;obtain⟨h6,h⟩:=Za h;simp only[yi,yP]at h5;obtain⟨g1,g2⟩:=Qz h6;refine⟨_,_,h,[(l.map T.enc).length*i.bytes<=Zr,(l.map T.enc).length<=maxLen],⟨by rw[yx];exact g1,by rw[yx];exact g2,au⟩,λyK=> ?_⟩;unfold aX;rw[ho];dsimp only;rw[hc];dsimp only;rw[ha,ht,yaa,yv];dsimp only;rw[hu,Zq hx,Zq h3,show(TD.p (TP.sl (ab ag) T0 [])).er L=Dv.p (.sl (ab ag) T0.size []) from rfl]
     dsimp only;rw[h1,h5.2.1,mO h4];dsimp only;rw[yW (by simpa using h5.1)];rfl
    .cases h
   .cases h
  .rename_i f hc;split at h
   .rename_i g hf;obtain⟨hk,h⟩:=Za h;split at h
    .rename_i x y t u ha ht;obtain⟨a,h1,h⟩:=yf.1 h;obtain⟨b,h2,h⟩:=yf.1 h;unfold ZP6 at h;obtain⟨l,h3,h⟩:=yf.1 h;obtain⟨m,h4,h⟩:=yf.1 h;obtain⟨n1,e1⟩:=ZGp h3;obtain⟨n2,e2⟩:=ZGp h4;refine⟨_,_,h,[gr (bytesOf l)=gr (bytesOf l),gr (bytesOf m)=gr (bytesOf m)],⟨rfl,rfl,au⟩,λyK=> ?_⟩
     have hg:g < big:=by
      rw[yi]at hk;have hk2:=hk.1;unfold lY at hk2;rw[yi,yP]at hk2;exact hk2.1
     have e3:ZU P [] (TD.ay L ts) c g []=[.p (.sl n1 1 (gr (bytesOf l))),.p (.sl n2 1 (gr (bytesOf m)))]:=by
      unfold ZU;rw[yW hg,ha,ht];simp only[List.zip_cons_cons,List.zip_nil_right,yad,List.map_nil,ybg];rw[Zq h1,Zq h2,e1,e2]
     unfold aX;rw[ho];dsimp only;rw[hc];dsimp only;rw[Zq hf,yaa,yaa,yv,show TD.er L (.fn g [])=Dv.fn g [] from rfl]
     dsimp only;rw[yW hk,e3];dsimp only;rw[yW ⟨rfl,rfl⟩];rfl
    .cases h
   .cases h
  .cases h
 .cases h
end
end Go.Ev
end
