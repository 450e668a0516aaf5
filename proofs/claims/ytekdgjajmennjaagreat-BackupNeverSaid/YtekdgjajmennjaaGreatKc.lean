/- Parts of the proof, in one file. -/
import Derived.Test.YtekdgjajmennjaaGreatKb
open Array renaming getElem?_toList → ybr, getElem?_eq_getElem → ycj, getElem?_eq_some_iff → ycr, getD_eq_getD_getElem? → ycv
open BitVec renaming ofInt → ybw
open Bool renaming and_eq_true → yi, false_eq_true → ybv, or_eq_true → ybz
open Go renaming TypeId → yb, Program → yg, Value → yh, Operand → yn, FuncId → yu
open List renaming getElem?_eq_some_iff → yo, range → yq, length_append → yr, nil_append → yv, length_map → yx, cons_append → yaa, replicate → yab, getElem?_eq_getElem → yac, map_cons → yad, length_take → yae, getElem?_map → yaf, getElem?_append_left → yah, length_cons → yai, map_append → yaj, append_assoc → yak, getElem?_append_right → yam, getElem?_eq_none → yan, mem_cons_self → yap, getElem?_cons_succ → yar, map_map → yaw, eq_nil_of_length_eq_zero → yaz, all_eq_true → yba, length_set → ybc, ext_getElem? → ybd, take_append_drop → ybf, getElem?_set → ybg, getElem?_cons_zero → ybh, append_nil → ybj, mem_of_mem_take → ybn, getElem?_take → ycd, take_of_length_le → ycn
open Nat renaming le_refl → ym, mod_eq_of_lt → yaq, min_eq_left → yav, add_assoc → yce
open Option renaming bind_eq_some_iff → yc, map_eq_some_iff → yp, map_some → yz
open Option.some renaming injEq → yj, inj → ybe
open Prod.mk renaming injEq → yl
open UInt32 renaming toNat_ofNat' → ycq
open UInt64 renaming ofNat → yal, toNat_ofNat' → ybo, toNat_lt → yca, toNat_inj → yck
open UInt8 renaming ofNat → ybk
set_option linter.unusedVariables false
set_option linter.unusedSimpArgs false
section
namespace Go.Ev
theorem ZcE(keep:List Nat):∀(l:List Dv)(k t:Nat),(ZH keep k l)[t]? =(l[t]?).map λd=>if keep.contains (k+t) then d else .junk
 |[],k,t=>by simp[ZH]
 |d::l,k,0=>by simp[ZH]
 |d::l,k,t+1=>by
  simp only[ZH,yar];rw[ZcE keep l (k+1) t];simp[yce,Nat.add_comm 1 t]
theorem QF{σ:Sg}{a:Act}{ts:List Dv}(keep:List Nat)(h:RepT σ ts a):RepT σ (ZH keep 0 ts) a:=by
 refine⟨?_,λi d hi=> ?_,h.defers⟩
 ·rw[h.size]
  have:∀(l:List Dv)(k:Nat),(ZH keep k l).length=l.length:=by
   intro l
   induction l with
   |nil=>intro k;rfl
   |cons x l ih=>intro k;simp[ZH,ih]
  exact(this ts 0).symm
 ·rw[ZcE] at hi;obtain⟨d',h1,h2⟩:=yp.1 hi;split at h2
  ·rw[←h2];exact h.at_ i d' h1
  ·rw[←h2];exact YN
theorem ZoX(A:List Nat)(i j:Nat):∀(es:List Edge)(m:Nat),(es.foldl (λm e=>if Region.binds .any e&&decide (e.on < i) then m|||(1 <<< e.on)|||A.getD e.on 0 else m) m).testBit j=true→
 m.testBit j=true∨∃e,e∈es∧Region.binds .any e=true∧e.on < i∧(e.on=j∨(A.getD e.on 0).testBit j=true)
 |[],m,h=>.inl h
 |e::es,m,h=>by
  simp only[List.foldl_cons] at h;rcases ZoX A i j es _ h with h1|⟨e',h1,h2⟩
  ·split at h1
   ·rename_i hc;simp only[yi,decide_eq_true_eq] at hc;simp only[Nat.testBit_or,ybz,Nat.one_shiftLeft,Nat.testBit_two_pow,decide_eq_true_eq] at h1;rcases h1 with(h1|h1)|h1
    ·exact .inl h1
    ·exact .inr ⟨e,yap ..,hc.1,hc.2,.inl h1⟩
    ·exact .inr ⟨e,yap ..,hc.1,hc.2,.inr h1⟩
   ·exact .inl h1
  ·exact .inr ⟨e',List.mem_cons_of_mem _ h1,h2⟩
section
variable{P:yg}{ops:Array Oper}
def ZGH(ops:Array Oper)(X:Nat→Bool):Prop:=∀i o,ops[i]? =some o→X i=true→∀e,e∈o.after→Region.binds .any e=true→X e.on=true
theorem ZsI{X:Nat→Bool}{A:List Nat}(hX:ZGH ops X)(hA:∀i o,ops[i]? =some o→A.getD i 0=ZgL A i o):∀(i:Nat),(∃o,ops[i]? =some o)→X i=true→∀j,(A.getD i 0).testBit j=true→X j=true:=by
 intro i
 induction i using Nat.strongRecOn with
 |_ i ih=>
  rintro⟨o,ho⟩ hi j hj;rw[hA i o ho] at hj;unfold ZgL at hj;rcases ZoX A i j _ _ hj with h|⟨e,h1,h2,h3,h4⟩
  ·simp at h
  ·have he:=hX i o ho hi e (by simpa using h1) h2;rcases h4 with h4|h4
   ·rw[←h4];exact he
   ·have hlt:e.on < ops.size:=by
     have:=(ycr.1 ho).1;omega
    exact ih e.on h3 ⟨ops[e.on],ycj hlt⟩ he j h4
def val(n:Nat)(dst:Nat→Option Tmp)(D:Nat→Dv)(ts0:List Dv)(X:Nat→Bool)(t:Nat):Dv:=
 match (yq n).find? λj=>X j&&dst j==some t with
 |some j=>D j
 |none=>ts0.getD t .junk
def tsX(n:Nat)(dst:Nat→Option Tmp)(D:Nat→Dv)(ts0:List Dv)(X:Nat→Bool):List Dv:=(yq ts0.length).map (val n dst D ts0 X)
variable{n:Nat}{dst:Nat→Option Tmp}{D:Nat→Dv}{ts0:List Dv}
theorem QG(hu:∀i j,i < n→j < n→dst i≠none→dst i=dst j→i=j){X:Nat→Bool}{t j:Nat}(hj:j < n)(hX:X j=true)(hd:dst j=some t):val n dst D ts0 X t=D j:=by
 unfold val
 cases hf:(yq n).find? λj=>X j&&dst j==some t with
 |none=>
  rw[List.find?_eq_none] at hf;have:=hf j (List.mem_range.2 hj)
  simp[hX,hd] at this
 |some i=>
  have h1:=List.find?_some hf;have h2:=List.mem_of_find?_eq_some hf;simp only[yi,beq_iff_eq] at h1;have h3:i < n:=List.mem_range.1 h2;rw[hu i j h3 hj (by rw[h1.2];simp) (by rw[h1.2,hd])]
theorem QH{X:Nat→Bool}{t:Nat}(h:∀j,j < n→X j=true→dst j≠some t):val n dst D ts0 X t=ts0.getD t .junk:=by
 unfold val
 cases hf:(yq n).find? λj=>X j&&dst j==some t with
 |none=>rfl
 |some i=>
  have h1:=List.find?_some hf;have h2:=List.mem_range.1 (List.mem_of_find?_eq_some hf);simp only[yi,beq_iff_eq] at h1;exact absurd h1.2 (h i h2 h1.1)
theorem Xk{X:Nat→Bool}:(tsX n dst D ts0 X).length=ts0.length:=by simp[tsX]
theorem Zbg{X:Nat→Bool}{t:Nat}(h:t < ts0.length):(tsX n dst D ts0 X)[t]? =some (val n dst D ts0 X t):=by
 simp[tsX,h]
theorem Zwn{X:Nat→Bool}(h:∀j,j < n→X j=false):tsX n dst D ts0 X=ts0:=by
 apply ybd;intro t;by_cases ht:t < ts0.length
 ·rw[Zbg ht,QH (λj hj hx=>by rw[h j hj] at hx;cases hx)];simp[List.getD,ht]
 ·rw[yan (by rw[Xk];omega),yan (by omega)]
theorem ZDV(hu:∀i j,i < n→j < n→dst i≠none→dst i=dst j→i=j){X Y:Nat→Bool}{i:Nat}(hi:i < n)(hXi:X i=false)(hY:∀j,j < n→Y j=(X j || decide (j=i))):
 Zin (tsX n dst D ts0 X) (dst i) (D i)=tsX n dst D ts0 Y:=by
 apply ybd;intro t;by_cases ht:t < ts0.length
 ·rw[Zbg ht]
  have hother:dst i≠some t→val n dst D ts0 Y t=val n dst D ts0 X t:=by
   intro hne;by_cases hex:∃j,j < n∧X j=true∧dst j=some t
   ·obtain⟨j,h1,h2,h3⟩:=hex;rw[QG hu h1 h2 h3,QG hu h1 (by rw[hY j h1,h2];rfl) h3]
   ·rw[QH (λj h1 h2 h3=>hex ⟨j,h1,h2,h3⟩),QH (λj h1 h2 h3=> ?_)];rw[hY j h1] at h2;simp only[ybz,decide_eq_true_eq] at h2;rcases h2 with h2|h2
    ·exact hex ⟨j,h1,h2,h3⟩
    ·subst h2;exact hne h3
  unfold Zin
  cases hd:dst i with
  |none=>
   rw[hother (by rw[hd];simp),Zbg ht]
  |some t'=>
   rw[ybg];by_cases htt:t'=t
   ·subst htt;rw[if_pos rfl,if_pos (by rw[Xk];exact ht),QG hu hi (by rw[hY i hi];simp) hd]
   ·rw[if_neg htt,Zbg ht,hother (by rw[hd];simpa using htt)]
 ·have hl:(Zin (tsX n dst D ts0 X) (dst i) (D i)).length=ts0.length:=by
   unfold Zin
   cases dst i with
   |none=>rw[Xk]
   |some t'=>rw[ybc,Xk]
  rw[yan (by rw[hl];omega),yan (by rw[Xk];omega)]
theorem ZFw(hu:∀i j,i < n→j < n→dst i≠none→dst i=dst j→i=j){X Y:Nat→Bool}{keep:List Nat}(h:∀j t,j < n→dst j=some t→t∈keep→X j=Y j):
 ZH keep 0 (tsX n dst D ts0 X)=ZH keep 0 (tsX n dst D ts0 Y):=by
 apply ybd;intro t;rw[ZcE,ZcE];by_cases ht:t < ts0.length
 ·rw[Zbg ht,Zbg ht];simp only[yz,Nat.zero_add];by_cases hk:t∈keep
  ·have hkc:keep.contains t=true:=by simpa using hk
   rw[hkc];simp only[if_true];congr 1;by_cases hex:∃j,j < n∧X j=true∧dst j=some t
   ·obtain⟨j,h1,h2,h3⟩:=hex;rw[QG hu h1 h2 h3,QG hu h1 (by rw[←h j t h1 h3 hk];exact h2) h3]
   ·rw[QH (λj h1 h2 h3=>hex ⟨j,h1,h2,h3⟩),QH (λj h1 h2 h3=>hex ⟨j,h1,by rw[h j t h1 h3 hk];exact h2,h3⟩)]
  ·have hkc:keep.contains t=false:=by simpa using hk
   rw[hkc];rfl
 ·rw[yan (by rw[Xk];omega),yan (by rw[Xk];omega)]
end
section
variable{P:yg}{ops:Array Oper}
theorem Zxw{o:Oper}{ts:List Dv}{H H2:List Ent}{hs:List Hint}{r:List Prop×Dv×List Ent×List Hint}(h:Zdl P o ts H hs=some r)(hn:(evN P o ts hs).isSome=true):r.2.2.1=H∧Zdl P o ts H2 hs=some (r.1,r.2.1,H2,r.2.2.2):=by
 unfold Zdl at h ⊢
 cases hh:evN P o ts hs with
 |none=>simp[hh] at hn
 |some q=>
  simp only[hh,yj] at h;subst h;exact⟨rfl,rfl⟩
theorem ZGI{o:Oper}{ts:List Dv}{H:List Ent}{hs:List Hint}{r:List Prop×Dv×List Ent×List Hint}(h:Zdl P o ts H hs=some r)(hn:(evN P o ts hs).isSome=false)(hr:(evR P o ts H hs).isSome=true):r.2.2.1=H:=by
 unfold Zdl at h
 cases hh:evN P o ts hs with
 |some q=>simp[hh] at hn
 |none=>
  cases hq:evR P o ts H hs with
  |none=>simp[hq] at hr
  |some q=>
   simp only[hh,hq,yj] at h;subst h;rfl
theorem ZGJ{o:Oper}{ts:List Dv}{H H2:List Ent}{hs:List Hint}{C:List Prop}{d:Dv}{H':List Ent}{hs':List Hint}(h:evG P ops o ts H hs=some (C,d,H',hs'))(hc:clsOf P o ts H hs=0):
 H'=H∧evG P ops o ts H2 hs=some (C,d,H2,hs'):=by
 unfold evG at h ⊢;unfold clsOf at hc
 cases hg:o.guard with
 |none=>
  simp only[hg] at h hc ⊢
  have hn:(evN P o ts hs).isSome=true:=by
   cases hh:(evN P o ts hs).isSome with
   |true=>rfl
   |false=>
    rw[hh] at hc;simp only[ybv,if_false] at hc;split at hc <;> simp at hc
  simp only[yp,yl] at h;obtain⟨⟨C1,d1,H1,hs1⟩,h1,rfl,rfl,rfl,rfl⟩:=h;obtain⟨e1,e2⟩:=Zxw (H2:=H2) h1 hn
  exact⟨e1,by rw[e2];rfl⟩
 |some gw=>
  obtain⟨g,want⟩:=gw;simp only[hg] at h hc ⊢;split at h
  ·rename_i t β hs1 ht;dsimp only at hc;split at h
   ·rename_i hb;rw[if_pos hb] at hc ⊢
    have hn:(evN P o ts hs1).isSome=true:=by
     cases hh:(evN P o ts hs1).isSome with
     |true=>rfl
     |false=>
      rw[hh] at hc;simp only[ybv,if_false] at hc;split at hc <;> simp at hc
    simp only[yp,yl] at h;obtain⟨⟨C1,d1,H1,hs2⟩,h1,rfl,rfl,rfl,rfl⟩:=h;obtain⟨e1,e2⟩:=Zxw (H2:=H2) h1 hn;exact⟨e1,by rw[e2];rfl⟩
   ·rename_i hb;rw[if_neg hb];simp only[yj,yl] at h;obtain⟨rfl,rfl,rfl,rfl⟩:=h;exact⟨rfl,rfl⟩
  ·simp only[yj,yl] at h;obtain⟨rfl,rfl,rfl,rfl⟩:=h;exact⟨rfl,rfl⟩
  ·cases h
theorem ZGK{o:Oper}{ts:List Dv}{H:List Ent}{hs:List Hint}{C:List Prop}{d:Dv}{H':List Ent}{hs':List Hint}(h:evG P ops o ts H hs=some (C,d,H',hs'))(hc:clsOf P o ts H hs≠2):H'=H:=by
 unfold evG at h;unfold clsOf at hc
 cases hg:o.guard with
 |none=>
  simp only[hg] at h hc;simp only[yp,yl] at h;obtain⟨⟨C1,d1,H1,hs1⟩,h1,rfl,rfl,rfl,rfl⟩:=h
  cases hn:(evN P o ts hs).isSome with
  |true=>exact(Zxw (H2:=[]) h1 hn).1
  |false=>
   cases hr:(evR P o ts H hs).isSome with
   |true=>exact ZGI h1 hn hr
   |false=>simp[hn,hr] at hc
 |some gw=>
  obtain⟨g,want⟩:=gw;simp only[hg] at h hc;split at h
  ·rename_i t β hs1 ht;dsimp only at hc;split at h
   ·rename_i hb;simp only[if_pos hb] at hc;simp only[yp,yl] at h;obtain⟨⟨C1,d1,H1,hs2⟩,h1,rfl,rfl,rfl,rfl⟩:=h
    cases hn:(evN P o ts hs1).isSome with
    |true=>exact(Zxw (H2:=[]) h1 hn).1
    |false=>
     cases hr:(evR P o ts H hs1).isSome with
     |true=>exact ZGI h1 hn hr
     |false=>simp[hn,hr] at hc
   ·simp only[yj,yl] at h;obtain⟨rfl,rfl,rfl,rfl⟩:=h;rfl
  ·simp only[yj,yl] at h;obtain⟨rfl,rfl,rfl,rfl⟩:=h;rfl
  ·cases h
theorem ZM3{o:Oper}{ts:List Dv}{H H2:List Ent}{hs:List Hint}{C:List Prop}{d:Dv}{H':List Ent}{hs':List Hint}(h:evG P ops o ts H hs=some (C,d,H',hs'))(hc:clsOf P o ts H hs=1)
 (hr:∀hs,evR P o ts H2 hs=evR P o ts H hs):evG P ops o ts H2 hs=some (C,d,H2,hs'):=by
 unfold clsOf at hc;unfold evG at h ⊢
 cases hg:o.guard with
 |none=>
  simp only[hg] at h hc ⊢
  cases hn:evN P o ts hs with
  |some q=>simp[hn] at hc
  |none=>
   cases hq:evR P o ts H hs with
   |none=>simp[hn,hq] at hc
   |some q=>
    unfold Zdl at h ⊢;rw[hr];simp only[hn,hq,yz,yj,yl] at h ⊢
    exact⟨h.1,h.2.1,trivial,h.2.2.2⟩
 |some gw=>
  obtain⟨g,want⟩:=gw;simp only[hg] at h hc ⊢;split at h
  ·rename_i t β hs1 ht;dsimp only at hc;split at h
   ·rename_i hb;rw[if_pos hb] at hc ⊢
    cases hn:evN P o ts hs1 with
    |some q=>simp[hn] at hc
    |none=>
     cases hq:evR P o ts H hs1 with
     |none=>simp[hn,hq] at hc
     |some q=>
      unfold Zdl at h ⊢;rw[hr];simp only[hn,hq,yz,yj,yl] at h ⊢;exact⟨h.1,h.2.1,trivial,h.2.2.2⟩
   ·rename_i hb;simp[hb] at hc
  ·simp at hc
  ·cases h
theorem ZFx{o:Oper}{ts:List Dv}{H:List Ent}{hs:List Hint}{C:List Prop}{d:Dv}{H':List Ent}{hs':List Hint}{l:List Nat}{i:Nat}(h:evG P ops o ts H hs=some (C,d,H',hs'))(hc:clsOf P o ts H hs=2)
 (ht:Zxl P o ts hs=some l) (hi:i < H.length) (hl:l.contains i=false):rdE (H'[i]?)=rdE (H[i]?):=by
 unfold Zxl at ht
 cases hg:o.guard with
 |some g=>simp[hg] at ht
 |none=>
  simp only[hg,Option.isNone_none,if_true] at ht;unfold clsOf at hc;unfold evG at h;simp only[hg] at h hc
  cases hn:evN P o ts hs with
  |some q=>simp[hn] at hc
  |none=>
   cases hq:evR P o ts H hs with
   |some q=>simp[hn,hq] at hc
   |none=>
    simp only[yp,yl] at h;obtain⟨⟨C1,d1,H1,hs1⟩,h1,rfl,rfl,rfl,rfl⟩:=h;unfold Zdl at h1;simp only[hn,hq] at h1;exact Zwm h1 ht hi hl
theorem ZGL{g:yu}{args:List Dv}{r:Dv}{e:Ent}(h:Con P g args [] r [e])(hn:∃x,Dv.rns (toIds []) args=some x):Con P g args [.gone] r [e]:=by
 intro σ vs ok hH hv;obtain⟨x,hx⟩:=hn
 have hst:∀(b o:Nat),(σ.F b o∨σ.B b)→σ.stab b o:=λb o q=>⟨q,λid e' _ h2=>by
  rw[hH] at h2
  cases id with
  |zero=>cases h2;trivial
  |succ i=>simp at h2⟩
 have hno:∀(id:Nat)(e':Ent),σ.H[id]? =some e'→e'=.gone:=λid e' h2=>by
  rw[hH] at h2
  cases id with
  |zero=>cases h2;rfl
  |succ i=>simp at h2
 let σ0:Sg:={ F:=σ.F,B:=σ.B,m:=[],H:=[],w:=σ.w};have ok0:Ok σ0:=⟨rfl,λi j b h=>by simp[σ0] at h,λi b h=>by simp[σ0] at h,λi e a h=>by simp[σ0] at h,ok.new,λi b h=>by simp[σ0] at h⟩;have hz:∀id,toIds [] id=none:=λid=>by simp[toIds]
 have hrn:Rn (toIds []) σ σ0:=⟨rfl,λb o u _ q=>⟨q.1,λid e' q=>by simp[σ0] at q⟩,λid id' q=>(by rw[hz] at q;cases q),λid id' q=>(by rw[hz] at q;cases q)⟩
 have hxe:x=args:=by
  have e1:=hx;rw[Zdu] at e1;have e2:=rns_none_id (f:=toIds []) _ _ e1;rw[hx] at e2;exact ybe e2
 have hv2:repVs σ0 args vs:=by
  have h1:=repVs_rn hrn _ _ _ hx hv
  rwa [hxe] at h1
 refine(h σ0 vs ok0 rfl hv2).mono ?_;rintro ex w' ⟨v,τ,rfl,rfl,hτ,to,okτ,hr⟩;have okm:σ.m.length=1:=by rw[ok.len,hH];rfl
 have okm2:τ.m.length=1:=by rw[okτ.len,hτ];rfl
 refine⟨v,τ,rfl,rfl,hτ,⟨⟨λb o u h1 h2=> ?_,λid b h1 h2=> ?_,λid s len A c h1=> ?_,λid b h1 h2=> ?_,λid v s st e d h1=> ?_⟩,to.F,to.B,to.os,to.tape,to.output,to.size,λb h1 _=>to.block b h1 (λid q=>by simp[σ0] at q),λid b h1=> ?_, ?_⟩,okτ,hr⟩
 ·exact to.leaf.cells b o u h1 ⟨h2.1,λid e q=>by simp[σ0] at q⟩
 ·obtain⟨d,st,h2⟩:=h2;cases hno _ _ h2
 ·obtain⟨e',ys,h2,_⟩:=h1;cases hno _ _ h2
 ·obtain⟨t,kvs,h2⟩:=h2;cases hno _ _ h2
 ·cases hno _ _ h1
 ·rcases to.same id b h1 with q|q
  ·simp[σ0] at q
  ·exact .inr q
 ·rw[okm,okm2];exact ym _
theorem Zz6{o:Oper}{ts:List Dv}{H H2:List Ent}{hs:List Hint}{C:List Prop}{d:Dv}{H':List Ent}{hs':List Hint}(h:evG P ops o ts H hs=some (C,d,H',hs'))(hp:ZbX o hs H.length=true)(hl:H2.length=H.length):
 clsOf P o ts H hs=2∧∃E,H'=H++E∧evG P ops o ts H2 hs=some (C,d,H2++E,hs'):=by
 unfold ZbX at hp;rw[yi] at hp;obtain⟨hg,hp⟩:=hp;have hg:o.guard=none:=by simpa using hg
 split at hp
 ·rename_i t ho;have n1:∀hs,evN P o ts hs=none:=λhs=>by unfold evN;rw[ho]
  have n2:∀H hs,evR P o ts H hs=none:=λH hs=>by unfold evR;rw[ho]
  refine⟨?_, ?_⟩
  ·unfold clsOf;rw[hg];simp[n1,n2]
  ·unfold evG at h ⊢;rw[hg] at h ⊢;dsimp only at h ⊢;unfold Zdl at h ⊢;rw[n1,n2] at h;rw[n1,n2];dsimp only at h ⊢;unfold evE at h ⊢;rw[ho] at h ⊢;dsimp only at h ⊢;rw[hl];split at h
   ·split at h
    ·split at h
     ·simp only[yz,yj,yl] at h;obtain⟨rfl,rfl,rfl,rfl⟩:=h;rename_i hi _ _ hgh hk;refine⟨_,rfl, ?_⟩;rw[if_pos hk];rfl
     ·cases h
    ·cases h
   ·cases h
 ·rename_i c ho;split at hp
  ·rename_i f hc;split at hp
   ·rename_i r Hn ids hs0;rw[yi] at hp;have hids:ids=[]:=by simpa using hp.1
    subst hids;have hp:=hp.2;unfold ZB2 at hp;simp only[yi,beq_iff_eq] at hp;have hne:Hn≠[]:=λq=>by rw[q] at hp;simp at hp
    have n1:evN P o ts (.call r Hn []::hs0)=none:=by
     unfold evN;rw[ho];dsimp only;rw[hc];dsimp only;split
     ·rename_i hh;simp only[List.cons.injEq,Hint.call.injEq] at hh;exact absurd hh.1.2.1 hne
     ·rename_i hh;cases hh
     ·rfl
    have n2:∀H,evR P o ts H (.call r Hn []::hs0)=none:=λH=>by
     unfold evR;rw[ho];dsimp only;rw[hc];dsimp only;split
     ·rename_i hh;cases hh
     ·rfl
    refine⟨?_, ?_⟩
    ·unfold clsOf;rw[hg];simp[n1,n2]
    ·unfold evG at h ⊢;rw[hg] at h ⊢;dsimp only at h ⊢;unfold Zdl at h ⊢;rw[n1,n2] at h;rw[n1,n2];dsimp only at h ⊢;unfold evE at h ⊢;rw[ho] at h ⊢;dsimp only at h ⊢;rw[hc] at h ⊢;dsimp only at h ⊢;rw[hl];split at h
     ·rename_i g cap r2 H2' ids2 hs2 ha hh;simp only[List.cons.injEq,Hint.call.injEq] at hh;obtain⟨⟨rfl,rfl,rfl⟩,rfl⟩:=hh;split at h
      ·rename_i hk;split at h
       ·rename_i args' Hin r' Hb e1 e2 e3 e4;simp only[yz,yj,yl] at h;obtain⟨rfl,rfl,rfl,rfl⟩:=h;have e5:∀(X:List Ent),subEnts X [] []=some []:=λX=>rfl;rw[e5] at e2;cases e2;refine⟨Hb,by simp[putBack,Zq3], ?_⟩;rw[if_pos hk,e1,e5,e3,e4];simp[putBack,Zq3]
       ·cases h
      ·cases h
     ·cases h
   ·cases hp
  ·cases hp
 ·cases hp
theorem Zz7:∀{hs:List Hint}{d:Dv}{n:Nat},(Ye d n hs).2.1=[]→(Ye d n hs).1=d
 |[],d,n,_=>by simp[Ye]
 |x::hs,d,n,h=>by
  cases x with
  |ghost path s e=>
   simp only[Ye] at h ⊢;split
   ·rename_i d' hg;rw[hg] at h;cases h
   ·rfl
  |_=>simp[Ye]
theorem ZDW{σ:Sg}(ok:Ok σ):To σ { σ with m:=σ.m++[none],H:=σ.H++[.gone]}∧Ok { σ with m:=σ.m++[none],H:=σ.H++[.gone]}:=
 Xz (σ':={ σ with m:=σ.m++[none],H:=σ.H++[.gone]}) ok rfl rfl rfl rfl (World.grownBy.refl σ.w none) (.inl rfl) (λ_=>trivial)
mutual
theorem Zbh{f g:Nat→Option Nat}(hfg:∀j k,f j=some k→g j=some k):∀(d d':Dv),d.rn f=some d'→d.rn g=some d'
 |.p x,d',h=>h
 |.elem x,d',h=>h
 |.ref id off path,d',h=>by
  simp only[Dv.rn,yp] at h ⊢;obtain⟨i,h1,h2⟩:=h
  exact⟨i,hfg _ _ h1,h2⟩
 |.own id nn s xs,d',h=>by
  simp only[Dv.rn,yp] at h ⊢;obtain⟨i,h1,h2⟩:=h
  exact⟨i,hfg _ _ h1,h2⟩
 |.view id off path s lo n,d',h=>by
  simp only[Dv.rn,yp] at h ⊢;obtain⟨i,h1,h2⟩:=h
  exact⟨i,hfg _ _ h1,h2⟩
 |.mp id,d',h=>by
  simp only[Dv.rn,yp] at h ⊢;obtain⟨i,h1,h2⟩:=h
  exact⟨i,hfg _ _ h1,h2⟩
 |.rv id v s lo n,d',h=>by
  simp only[Dv.rn,yp] at h ⊢;obtain⟨i,h1,h2⟩:=h
  exact⟨i,hfg _ _ h1,h2⟩
 |.rref id v off path,d',h=>by
  simp only[Dv.rn,yp] at h ⊢;obtain⟨i,h1,h2⟩:=h
  exact⟨i,hfg _ _ h1,h2⟩
 |.agg xs,d',h=>by
  simp only[Dv.rn,yp] at h ⊢;obtain⟨i,h1,h2⟩:=h
  exact⟨i,rns_more hfg xs i h1,h2⟩
 |.arr n s xs,d',h=>by
  simp only[Dv.rn,yp] at h ⊢;obtain⟨i,h1,h2⟩:=h
  exact⟨i,rns_more hfg xs i h1,h2⟩
 |.fn g0 xs,d',h=>by
  simp only[Dv.rn,yp] at h ⊢;obtain⟨i,h1,h2⟩:=h
  exact⟨i,rns_more hfg xs i h1,h2⟩
 |.iface t x,d',h=>by
  simp only[Dv.rn,yp] at h ⊢;obtain⟨i,h1,h2⟩:=h
  exact⟨i,Zbh hfg x i h1,h2⟩
 |.tup xs,d',h=>by
  simp only[Dv.rn,yp] at h ⊢;obtain⟨i,h1,h2⟩:=h
  exact⟨i,rns_more hfg xs i h1,h2⟩
 |.junk,d',h=>h
theorem rns_more{f g:Nat→Option Nat}(hfg:∀j k,f j=some k→g j=some k):∀(d d':List Dv),Dv.rns f d=some d'→Dv.rns g d=some d'
 |[],d',h=>h
 |x::r,d',h=>by
  simp only[Dv.rns] at h ⊢;split at h
  ·rename_i y ys h1 h2;rw[Zbh hfg x y h1,rns_more hfg r ys h2];exact h
  ·cases h
end
theorem ZGM{f g:Nat→Option Nat}(hfg:∀j k,f j=some k→g j=some k):∀(d d':Ent),d.rn f=some d'→d.rn g=some d'
 |.var d st,d',h=>by
  simp only[Ent.rn,yp] at h ⊢;obtain⟨i,h1,h2⟩:=h
  exact⟨i,Zbh hfg d i h1,h2⟩
 |.row v s st e d,d',h=>by
  simp only[Ent.rn,yp] at h ⊢;obtain⟨i,h1,h2⟩:=h
  exact⟨i,Zbh hfg d i h1,h2⟩
 |.log _ _ _,d',h=>h
 |.map _ _,d',h=>h
 |.gone,d',h=>h
theorem ZaJ{f g:Nat→Option Nat}(hfg:∀j k,f j=some k→g j=some k):∀(d d':List Ent),Ent.rns f d=some d'→Ent.rns g d=some d'
 |[],d',h=>h
 |x::r,d',h=>by
  simp only[Ent.rns] at h ⊢;split at h
  ·rename_i y ys h1 h2;rw[ZGM hfg x y h1,ZaJ hfg r ys h2];exact h
  ·cases h
theorem Qp(ids:List Nat)(n:Nat):∀j k,ids[j]? =some k→fromIds ids n j=some k:=λj k h=>by
 unfold fromIds;rw[if_pos (yo.1 h).1];exact h
theorem Wi{H E:List Ent}{all:List Nat}:∀{ids:List Nat}{Hin:List Ent},subEnts H all ids=some Hin→subEnts (H++E) all ids=some Hin∧∀id,id∈ids→id < H.length
 |[],Hin,h=>⟨h,λ_ h=>by cases h⟩
 |id::r,Hin,h=>by
  simp only[subEnts] at h ⊢;split at h
  ·rename_i e es h1 h2;obtain⟨k1,k2⟩:=Wi (E:=E) h2;obtain⟨e0,h3,h4⟩:=yc.1 h1;have hlt:=(yo.1 h3).1;rw[yah hlt,h1,k1]
   exact⟨h,λi hi=>by
    cases hi with
    |head=>exact hlt
    |tail _ hi=>exact k2 i hi⟩
  ·cases h
theorem QI{α:Type}{E:List α}:∀{ids:List Nat}{H Hb:List α},Hb.length=ids.length→(∀id,id∈ids→id < H.length)→putBack (H++E) ids Hb=putBack H ids Hb++E∧(putBack H ids Hb).length=H.length
 |[],H,Hb,hl,_=>by
  have:Hb=[]:=yaz (by simpa using hl);subst this
  simp[putBack]
 |id::r,H,[],hl,_=>by simp at hl
 |id::r,H,e::Hb,hl,hi=>by
  simp only[putBack];rw[List.set_append_left _ _ (hi id (yap ..))];obtain⟨h1,h2⟩:=QI (E:=E) (ids:=r) (H:=H.set id e) (Hb:=Hb) (by simpa using hl) (λi h=>by rw[ybc];exact hi i (List.mem_cons_of_mem _ h));exact⟨h1,by rw[h2,ybc]⟩
theorem Zm4{f:Nat→Option Nat}:∀{l l':List Ent},Ent.rns f l=some l'→l'.length=l.length
 |[],l',h=>by cases h;rfl
 |x::r,l',h=>by
  simp only[Ent.rns] at h;split at h
  ·rename_i y ys h1 h2;cases h;rw[yai,yai,Zm4 h2]
  ·cases h
theorem ZJu{o:Oper}{ts:List Dv}{H:List Ent}{hs:List Hint}{C:List Prop}{d:Dv}{H':List Ent}{hs':List Hint}(h:evG P ops o ts H hs=some (C,d,H',hs'))(hp:ZmQ o hs=true):
 clsOf P o ts H hs≠1∧H'.length=H.length∧∀E,evG P ops o ts (H++E) hs=some (C,d,H'++E,hs'):=by
 unfold ZmQ at hp;rw[yi] at hp;obtain⟨hg,hp⟩:=hp;have hg:o.guard=none:=by simpa using hg
 have key:(∀H,evR P o ts H hs=none)→(∀H1,evE P o ts H hs=some (C,d,H1,hs')→H1.length=H.length∧∀E,evE P o ts (H++E) hs=some (C,d,H1++E,hs'))→
  clsOf P o ts H hs≠1∧H'.length=H.length∧∀E,evG P ops o ts (H++E) hs=some (C,d,H'++E,hs'):=by
  intro n2 hE;refine⟨?_, ?_⟩
  ·unfold clsOf;rw[hg];simp only[n2];split <;> simp
  ·unfold evG at h ⊢;rw[hg] at h ⊢;dsimp only at h ⊢;unfold Zdl at h ⊢
   cases hn:evN P o ts hs with
   |some q=>
    rw[hn] at h;simp only[yz,yj,yl] at h;obtain⟨h1,h2,rfl,h4⟩:=h;refine⟨rfl,λE=> ?_⟩;simp only[yz,yj,yl]
    exact⟨h1,h2,trivial,h4⟩
   |none=>
    rw[hn,n2] at h;dsimp only at h;obtain⟨⟨C1,d1,H1,hs1⟩,h1,h2⟩:=yp.1 h;simp only[Zq3,ybj,yl] at h2;obtain⟨rfl,rfl,rfl,rfl⟩:=h2;obtain⟨k1,k2⟩:=hE H1 h1;refine⟨k1,λE=> ?_⟩;rw[n2];dsimp only;rw[k2 E];simp[Zq3]
 split at hp
 ·rename_i c ho;split at hp
  ·rename_i f hc;split at hp
   ·rename_i r Hn ids hs0;unfold ZB2 at hp;simp only[yi,beq_iff_eq,Option.isSome_iff_exists] at hp;obtain⟨⟨p1,d0,p2⟩,Hb0,p3⟩:=hp;refine key (λH=>by unfold evR;rw[ho];dsimp only;rw[hc];dsimp only;try (split <;> first|rfl|(rename_i hh;cases hh))) λH1 hE=> ?_
    unfold evE at hE;rw[ho] at hE;dsimp only at hE;rw[hc] at hE;dsimp only at hE;split at hE
    ·rename_i g cap r2 H2 ids2 hs2 ha hh;simp only[List.cons.injEq,Hint.call.injEq] at hh;obtain⟨⟨rfl,rfl,rfl⟩,rfl⟩:=hh;split at hE
     ·rename_i hk;split at hE
      ·rename_i args' Hin r' Hb e1 e2 e3 e4;simp only[yj,yl] at hE;obtain⟨rfl,rfl,rfl,rfl⟩:=hE;rw[Zbh (Qp ids H.length) _ _ p2] at e3;cases e3;rw[ZaJ (Qp ids H.length) _ _ p3] at e4;cases e4;have hlb:Hb0.length=ids.length:=by rw[Zm4 p3,p1]
       refine⟨(QI (E:=[]) hlb (Wi (E:=[]) e2).2).2,λE=> ?_⟩;unfold evE;rw[ho];dsimp only;rw[hc];dsimp only;rw[ha];dsimp only;rw[if_pos hk,e1,(Wi (E:=E) e2).1,Zbh (Qp ids _) _ _ p2,ZaJ (Qp ids _) _ _ p3];dsimp only;rw[(QI (E:=E) hlb (Wi (E:=[]) e2).2).1]
      ·cases hE
     ·cases hE
    ·cases hE
   ·cases hp
  ·rename_i rc nm hc;split at hp
   ·rename_i g0 r Hn ids hs0;unfold ZB2 at hp;simp only[yi,beq_iff_eq,Option.isSome_iff_exists] at hp;obtain⟨⟨p1,d0,p2⟩,Hb0,p3⟩:=hp;refine key (λH=>by unfold evR;rw[ho];dsimp only;rw[hc]) λH1 hE=> ?_;unfold evE at hE;rw[ho] at hE;dsimp only at hE;rw[hc] at hE;dsimp only at hE;split at hE
    ·rename_i t x g r2 H2 ids2 hs2 ha hh;simp only[List.cons.injEq,Hint.call.injEq,Hint.meth.injEq] at hh;obtain⟨rfl,⟨rfl,rfl,rfl⟩,rfl⟩:=hh;split at hE
     ·rename_i hk;split at hE
      ·rename_i args' Hin r' Hb e1 e2 e3 e4;simp only[yj,yl] at hE;obtain⟨rfl,rfl,rfl,rfl⟩:=hE;rw[Zbh (Qp ids H.length) _ _ p2] at e3;cases e3;rw[ZaJ (Qp ids H.length) _ _ p3] at e4;cases e4;have hlb:Hb0.length=ids.length:=by rw[Zm4 p3,p1]
       refine⟨(QI (E:=[]) hlb (Wi (E:=[]) e2).2).2,λE=> ?_⟩;unfold evE;rw[ho];dsimp only;rw[hc];dsimp only;rw[ha];dsimp only;rw[if_pos hk,e1,(Wi (E:=E) e2).1,Zbh (Qp ids _) _ _ p2,ZaJ (Qp ids _) _ _ p3];dsimp only;rw[(QI (E:=E) hlb (Wi (E:=[]) e2).2).1]
      ·cases hE
     ·cases hE
    ·cases hE
   ·cases hp
  ·cases hp
 ·cases hp
theorem ZGN{σ:Sg}{a:Act}{o:Oper}{ts:List Dv}{H E:List Ent}{hs:List Hint}{C:List Prop}{d:Dv}{H':List Ent}{hs':List Hint}(ok:Ok σ)(hrep:RepT σ ts a)(h:evG P ops o ts H hs=some (C,d,H',hs'))(hAC:AllP C)(hp:ZbX o hs H.length=true)
 (hl:H'.length=H.length+1) (hσ:σ.H=H++.gone::E) (K:Act→World→Prop) (Q:Exit→Act→World→Prop)
 (hK:∀v σ',σ'.H=H'++E→To σ σ'→Ok σ'→RepT σ' (Zin ts o.dst d) (a.put o.dst v)→K (a.put o.dst v) σ'.w):
 if Region.wanted o (yielded ops a.tmps) then o.wp P a σ.w K Q else K (a.put o.dst undef) σ.w:=by
 unfold ZbX at hp;rw[yi] at hp;obtain⟨hg,hp⟩:=hp;have hg:o.guard=none:=by simpa using hg
 have hw:Region.wanted o (yielded ops a.tmps)=true:=by simp[Region.wanted,hg]
 rw[if_pos hw];split at hp
 ·rename_i t ho;have n1:∀hs,evN P o ts hs=none:=λhs=>by unfold evN;rw[ho]
  have n2:∀H hs,evR P o ts H hs=none:=λH hs=>by unfold evR;rw[ho]
  unfold evG at h;rw[hg] at h;dsimp only at h;unfold Zdl at h;rw[n1,n2] at h;dsimp only at h;unfold evE at h;rw[ho] at h;dsimp only at h;split at h
  ·rename_i i hi;split at h
   ·split at h
    ·rename_i hk;simp only[yz,yj,yl] at h;obtain⟨rfl,rfl,rfl,rfl⟩:=h;rw[yr,yai] at hl;have he:(Ye (Yr P t) (H.length+1) hs).2.1=[]:=yaz (by omega);have hd:=Zz7 he;rw[he,hd] at hK;simp only[yi] at hk;obtain⟨z,hzz,_⟩:=VH hk.1.1;have hid:σ.H[H.length]? =some .gone:=by rw[hσ,yam (ym _),Nat.sub_self];rfl
     have h1:=ZB5 (P:=P) (o:=o) (a:=a) ok hid ho hi (by rw[hzz];rfl) hk.1.2 hk.2;refine h1 K Q λv σ' e1 to ok' hv=>hK v σ' ?_ to ok' (Zdx (hrep.to to.leaf) hv);rw[e1,hσ,List.set_append_right _ _ (ym _),Nat.sub_self];simp
    ·cases h
   ·cases h
  ·cases h
 ·rename_i c ho;split at hp
  ·rename_i f hc;split at hp
   ·rename_i r Hn ids hs0;rw[yi] at hp;have hids:ids=[]:=by simpa using hp.1
    subst hids;have hp:=hp.2;unfold ZB2 at hp;simp only[yi,beq_iff_eq,Option.isSome_iff_exists] at hp;obtain⟨⟨p1,r0,p2⟩,Hb0,p3⟩:=hp;have hne:Hn≠[]:=λq=>by rw[q] at p1;simp at p1
    obtain⟨e0,rfl⟩:∃e0,Hn=[e0]:=by
     cases Hn with
     |nil=>exact absurd rfl hne
     |cons x q=>cases q with
      |nil=>exact⟨x,rfl⟩
      |cons _ _=>simp at p1
    have n1:evN P o ts (.call r [e0] []::hs0)=none:=by
     unfold evN;rw[ho];dsimp only;rw[hc];dsimp only;split
     ·rename_i hh;simp only[List.cons.injEq,Hint.call.injEq] at hh;exact absurd hh.1.2.1 hne
     ·rename_i hh;cases hh
     ·rfl
    have n2:∀H,evR P o ts H (.call r [e0] []::hs0)=none:=λH=>by
     unfold evR;rw[ho];dsimp only;rw[hc];dsimp only;split
     ·rename_i hh;cases hh
     ·rfl
    unfold evG at h;rw[hg] at h;dsimp only at h;unfold Zdl at h;rw[n1,n2] at h;dsimp only at h;unfold evE at h;rw[ho] at h;dsimp only at h;rw[hc] at h;dsimp only at h;split at h
    ·rename_i g cap r2 H2' ids2 hs2 ha hh;simp only[List.cons.injEq,Hint.call.injEq] at hh;obtain⟨⟨rfl,rfl,rfl⟩,rfl⟩:=hh;split at h
     ·rename_i hk;split at h
      ·rename_i args' Hin r' Hb e1 e2 e3 e4;simp only[yz,yj,yl] at h;obtain⟨rfl,rfl,rfl,rfl⟩:=h;have e5:subEnts H [] []=some []:=rfl;rw[e5] at e2;cases e2;simp only[yi,beq_iff_eq,decide_eq_true_eq] at hk
       have hm:∀(m:Nat)(j k:Nat),[H.length][j]? =some k→fromIds [] H.length j=some k:=λm j k q=>by
        cases j with
        |zero=>cases q;simp[fromIds]
        |succ j=>simp at q
       have hm2:∀(m:Nat)(j k:Nat),[H.length][j]? =some k→fromIds [H.length] m j=some k:=λm j k q=>by
        cases j with
        |zero=>cases q;simp[fromIds]
        |succ j=>simp at q
       have f1:=Zbh (hm 0) _ _ p2;rw[f1] at e3;cases e3;have f2:=ZaJ (hm 0) _ _ p3;rw[f2] at e4;cases e4;have hlb:Hb0.length=1:=by rw[Zm4 p3];rfl
       obtain⟨b0,rfl⟩:∃b0,Hb0=[b0]:=by
        cases Hb0 with
        |nil=>simp at hlb
        |cons x q=>cases q with
         |nil=>exact⟨x,rfl⟩
         |cons _ _=>simp at hlb
       obtain⟨fs,cs,hfe,hav⟩:=ZJq (P:=P) hrep (c:=c) [] ha hk.1.1.2;have hid:σ.H[H.length]? =some .gone:=by rw[hσ,yam (ym _),Nat.sub_self];rfl
       have e7:=e1;rw[Zdu] at e7;have e8:=rns_none_id (f:=toIds []) _ _ e7;rw[e1] at e8;cases e8;have e6:=rns_none_id (f:=toIds [H.length]) _ _ e7
       have hin:subEnts σ.H [H.length] [H.length]=some [.gone]:=by
        simp[subEnts,hid,Ent.rn]
       have hx:=ZoS (P:=P) (o:=o) (a:=a) σ.w ho hc hfe hk.1.1.1
       have h1:=ZoT (P:=P) (o:=o) (a:=a) (ids:=[H.length]) (Hin:=[.gone]) (H':=[e0]) (Hb:=[b0]) ok hx hav rfl (ym _) e6 hin (Zbh (hm2 σ.H.length) _ _ p2) (ZaJ (hm2 σ.H.length) _ _ p3)
        (ZGL hAC.1 ⟨_,e1⟩)
       refine h1 K Q λv σ' e1 to ok' hv=>hK v σ' ?_ to ok' (Zdx (hrep.to to.leaf) hv);rw[e1,hσ];simp[putBack,List.set_append_right]
      ·cases h
     ·cases h
    ·cases h
   ·cases hp
  ·cases hp
 ·cases hp
theorem ZGO{o:Oper}{ts:List Dv}{H:List Ent}{hs:List Hint}:clsOf P o ts H hs≤2:=by
 unfold clsOf
 repeat' split
 all_goals omega
end
def Zu5(ts:List Dv)(l:List (Option Tmp×Dv)):List Dv:=l.foldl (λts q=>Zin ts q.1 q.2) ts
section
variable{P:yg}{ops:Array Oper}
theorem Zz8:∀(l:List Oper)(ts:List Dv)(H:List Ent)(hs:List Hint)(C:List Prop)(rs:List Rec)(ts':List Dv)(H':List Ent)(hs':List Hint),evD P ops l ts H hs=some (C,rs,ts',H',hs')→AllP C→
 rs.length=l.length∧ts'=Zu5 ts ((l.zip rs).map λq=>(q.1.dst,q.2.d))∧(l=[]→H'=H)∧
 ∀(i:Nat)(o:Oper),l[i]? =some o→∃r,rs[i]? =some r∧AllP r.C∧evG P ops o (ZH (looks ops o) 0 (Zu5 ts (((l.zip rs).take i).map λq=>(q.1.dst,q.2.d)))) r.H r.hs=some (r.C,r.d,r.H',r.hs')∧
  r.cls=clsOf P o (ZH (looks ops o) 0 (Zu5 ts (((l.zip rs).take i).map λq=>(q.1.dst,q.2.d)))) r.H r.hs∧
  (r.rd=ZGq P o (ZH (looks ops o) 0 (Zu5 ts (((l.zip rs).take i).map λq=>(q.1.dst,q.2.d))))∧r.tc=Zxl P o (ZH (looks ops o) 0 (Zu5 ts (((l.zip rs).take i).map λq=>(q.1.dst,q.2.d)))) r.hs∧r.push=ZbX o r.hs r.H.length∧r.loc=ZmQ o r.hs∧r.ex=exO o)∧(i=0→r.H=H)∧(∀r2,rs[i+1]? =some r2→r2.H=r.H')∧(i+1=l.length→H'=r.H')
 |[],ts,H,hs,C,rs,ts',H',hs',h,hc=>by
  simp only[evD,yj,yl] at h;obtain⟨rfl,rfl,rfl,rfl,rfl⟩:=h
  exact⟨rfl,rfl,λ_=>rfl,λi o hi=>by simp at hi⟩
 |o::l,ts,H,hs,C,rs,ts',H',hs',h,hc=>by
  simp only[evD] at h;split at h
  ·rename_i C1 d1 H1 hs1 h1;split at h
   ·rename_i C2 rs2 ts2 H2 hs2 h2;simp only[yj,yl] at h;obtain⟨rfl,rfl,rfl,rfl,rfl⟩:=h;obtain⟨c1,c2⟩:=Zj.1 hc;obtain⟨k1,k2,k3,k4⟩:=Zz8 l _ _ _ _ _ _ _ _ h2 c2;refine⟨by simp[k1],by rw[k2];rfl,by simp,λi o' hi=> ?_⟩
    cases i with
    |zero=>
     simp only[ybh,yj] at hi;subst hi;refine⟨_,rfl,c1,h1,rfl,⟨rfl,rfl,rfl,rfl,rfl⟩,λ_=>rfl,λr2 hr2=> ?_,λhl=> ?_⟩
     ·simp only[yar] at hr2
      cases l with
      |nil=>
       have:rs2=[]:=yaz (by simpa using k1);subst this
       simp at hr2
      |cons o2 l2=>
       obtain⟨r,j1,_,_,_,_,j2,_⟩:=k4 0 o2 rfl;rw[hr2] at j1;cases j1;exact j2 rfl
     ·have:l=[]:=yaz (by simpa using hl.symm)
      exact k3 this
    |succ i=>
     simp only[yar] at hi;obtain⟨r,j1,j2,j3,j4,j45,j5,j6,j7⟩:=k4 i o' hi;refine⟨r,by simpa using j1,j2,j3,j4,j45,λh0=>by omega,λr2 hr2=>j6 r2 (by simpa using hr2),λhl=>j7 (by simpa using hl)⟩
   ·cases h
  ·cases h
theorem ZFy(ts:List Dv)(l:List (Option Tmp×Dv))(q:Option Tmp×Dv):Zu5 ts (l++[q])=Zin (Zu5 ts l) q.1 q.2:=by simp[Zu5]
def unl(X:Nat→Bool):Nat→Nat
 |0=>0
 |k+1=>unl X k+(if X k then 0 else 1)
theorem ZDX{X:Nat→Bool}:∀{k:Nat},unl X k=0→∀j,j < k→X j=true
 |0,_,j,h=>by omega
 |k+1,h,j,hj=>by
  simp only[unl] at h;by_cases hk:j=k
  ·subst hk
   cases hx:X j with
   |true=>rfl
   |false=>simp[hx] at h
  ·exact ZDX (k:=k) (by omega) j (by omega)
theorem ZGP{X:Nat→Bool}:∀{k:Nat},unl X k≤k
 |0=>ym _
 |k+1=>by
  have:=ZGP (X:=X) (k:=k);simp only[unl];split <;> omega
theorem Zz9{X Y:Nat→Bool}:∀{k:Nat},(∀j,j < k→Y j=X j)→unl Y k=unl X k
 |0,_=>rfl
 |k+1,h=>by
  simp only[unl];rw[Zz9 (k:=k) (λj hj=>h j (by omega)),h k (by omega)]
theorem ZAa{X Y:Nat→Bool}{i:Nat}(hi:X i=false):∀{k:Nat},i < k→(∀j,j < k→Y j=(X j || decide (j=i)))→unl Y k+1=unl X k
 |0,h,_=>by omega
 |k+1,h,hY=>by
  simp only[unl];by_cases hk:i=k
  ·subst hk
   rw[Zz9 (X:=X) (Y:=Y) (λj hj=>by
    rw[hY j (by omega)];have:¬j=i:=by omega
    simp[this]),hY i (by omega),hi]
   simp
  ·have:=ZAa hi (k:=k) (by omega) (λj hj=>hY j (by omega));have hne:¬k=i:=λh=>hk h.symm;rw[hY k (by omega)];simp only[hne,decide_false,Bool.or_false];omega
theorem ZsJ:∀(l:List Oper)(i:Nat),Zf0 l i=true→∀(j:Nat)(o:Oper),l[j]? =some o→∀e,e∈o.after→Region.binds .any e=true→e.on < i+j
 |[],i,_,j,o,ho,_,_,_=>by simp at ho
 |o::l,i,h,j,o',ho,e,he,hb=>by
  simp only[Zf0,yi,yba] at h
  cases j with
  |zero=>
   simp only[ybh,yj] at ho;subst ho;have:=h.1 e (by simpa using he)
   simpa[hb] using this
  |succ j=>
   simp only[yar] at ho;have:=ZsJ l (i+1) h.2 j o' ho e he hb;omega
theorem Zm5(keep:List Nat):∀(l:List Dv)(k:Nat),(ZH keep k l).length=l.length
 |[],k=>rfl
 |x::l,k=>by simp[ZH,Zm5 keep l]
theorem ZLq{σ:Sg}{a:Act}{ts ms:List Dv}{dst:Option Tmp}{d:Dv}{v:yh}(hl:ms.length=ts.length)(h1:RepT σ ts a)(h2:RepT σ (Zin ms dst d) (a.put dst v)):RepT σ (Zin ts dst d) (a.put dst v):=by
 unfold Zin Act.put at*
 cases dst with
 |none=>exact h1
 |some t=>
  refine⟨by simpa using h1.size,λi e hi=> ?_,h1.defers⟩;by_cases hit:t=i
  ·subst hit;refine h2.at_ t e ?_;simp only[ybg] at hi ⊢;rw[hl];exact hi
  ·rw[ybg,if_neg hit] at hi;have:=h1.at_ i e hi;simpa[ycv,Array.getElem?_setIfInBounds,hit] using this
theorem Zxx{σ:Sg}{a:Act}{ts:List Dv}{hs hs':List Hint}{C:List Prop}{ts':List Dv}{H':List Ent}{id:Nat}(ok:Ok σ)(hrep:RepT σ ts a)(h:Zxn P ops ts σ.H hs=some (C,ts',H',hs'))(hc:AllP C)
 (Q:Exit→Act→World→Prop) (hQ:∀a' σ',σ'.H=H'→To σ σ'→Ok σ'→RepT σ' ts' a'→Q .normal a' σ'.w):(Code.region id ops true).wp P Q a σ.w:=by
 unfold Zxn at h;split at h
 ·rename_i hm;split at h
  ·rename_i C1 rs ts1 H1 hs1 hev;split at h
   ·rename_i hdr;simp only[yj,yl] at h;obtain⟨rfl,rfl,rfl,rfl⟩:=h;obtain⟨hlen,hts',hnil,hspec⟩:=Zz8 _ _ _ _ _ _ _ _ _ hev hc;let n:=ops.size;let dst:Nat→Option Tmp:=λi=>Zf1 ops.toList i;let D:Nat→Dv:=λi=>((rs[i]?).map (·.d)).getD .junk;let cls:Nat→Nat:=λi=>(rs.map (·.cls)).getD i 0;let A:List Nat:=ZGr ops.toList;have hn:ops.toList.length=n:=by simp[n]
    have hrl:rs.length=n:=by rw[hlen,hn]
    unfold Zxm at hdr;simp only[yi] at hdr;obtain⟨⟨⟨⟨⟨_,hback⟩,hanc⟩,huniq⟩,hlook⟩,hcls⟩:=hdr;have hopl:∀(i:Nat),ops.toList[i]? =ops[i]? :=λi=>by simp
    have hA:∀i o,ops[i]? =some o→A.getD i 0=ZgL A i o:=by
     intro i o ho;have hi:i < n:=(ycr.1 ho).1;have:=yba.1 hanc i (List.mem_range.2 (by rw[hn];exact hi));rw[hopl,ho] at this;simpa using this
    have hu:∀i j,i < n→j < n→dst i≠none→dst i=dst j→i=j:=by
     intro i j hi hj h1 h2;have:=yba.1 (yba.1 huniq i (List.mem_range.2 (by rw[hn];exact hi))) j (List.mem_range.2 (by rw[hn];exact hj));simp only[ybz,beq_iff_eq,Bool.not_eq_true',beq_eq_false_iff_ne,ne_eq] at this;rcases this with(h3|h3)|h3
     ·exact h3
     ·exact absurd h3 h1
     ·exact absurd h2 h3
    have hL:∀i o j t,ops[i]? =some o→j < n→dst j=some t→t∈looks ops o→i≠j→(if j < i then(A.getD i 0).testBit j else(A.getD j 0).testBit i)=true:=by
     intro i o j t ho hj hd ht hne;have hi:i < n:=(ycr.1 ho).1;have h1:=yba.1 hlook i (List.mem_range.2 (by rw[hn];exact hi));rw[hopl,ho] at h1;have h2:=yba.1 h1 j (List.mem_range.2 (by rw[hn];exact hj));have hd':Zf1 ops.toList j=some t:=hd;rw[hd'] at h2;have hk:(looks ops o).contains t=true:=by simpa using ht
     simp only[hk,ybz,beq_iff_eq,Bool.not_true,Bool.or_false] at h2;rcases h2 with h2|h2
     ·exact absurd h2 hne
     ·exact h2
    obtain⟨c0,_,hcls⟩:=List.any_eq_true.1 hcls
    have hE0:∀i j,i < n→j < n→cls i≠0→cls j=2→i≠j→(if j < i then(A.getD i 0).testBit j else(A.getD j 0).testBit i)=true∨(cls i=1∧ZiE rs i j=true)∨Zfv rs c0 i j=true:=by
     intro i j hi hj h1 h2 hne;have h3:=yba.1 hcls i (List.mem_range.2 (by rw[hn];exact hi));simp only[ybz,beq_iff_eq] at h3;rcases h3 with h3|h3
     ·exact absurd h3 h1
     ·have h4:=yba.1 h3 j (List.mem_range.2 (by rw[hn];exact hj));have h2':(List.map (λx=>x.cls) rs).getD j 0=2:=h2;rw[h2'] at h4;simp only[ybz,yi,beq_iff_eq,beq_self_eq_true,Bool.not_true] at h4;rcases h4 with((h4|h4)|h4)|h4
      ·exfalso;rcases h4 with h4|h4
       ·exact hne h4
       ·cases h4
      ·exact .inl h4
      ·exact .inr (.inl h4)
      ·exact .inr (.inr h4)
    have hTS:∀i,i≤n→Zu5 ts (((ops.toList.zip rs).take i).map λq=>(q.1.dst,q.2.d))=tsX n dst D ts (λj=>decide (j < i)):=by
     intro i
     induction i with
     |zero=>
      intro _;rw[Zwn (λj _=>by simp)]
      simp[Zu5]
     |succ i ih=>
      intro hi;have h1:i < ops.toList.length:=by rw[hn];omega
      have h2:i < rs.length:=by rw[hrl];omega
      have hz:(ops.toList.zip rs)[i]? =some (ops.toList[i],rs[i]):=by
       rw[List.getElem?_zip_eq_some];exact⟨yac h1,yac h2⟩
      rw[List.take_add_one,hz];simp only[Option.toList_some,yaj,yad,List.map_nil];rw[ZFy,ih (by omega)];have hd:ops.toList[i].dst=dst i:=by show _=Zf1 ops.toList i;unfold Zf1;rw[yac h1];rfl
      have hD:rs[i].d=D i:=by simp[D,yac h2]
      rw[hd,hD]
      exact ZDV hu (by omega) (by simp) (λj _=>by
       by_cases hj:j < i <;> by_cases hj2:j=i <;> simp[hj,hj2] <;> omega)
    have hspec':∀(i:Nat)(o:Oper),ops[i]? =some o→∃r,rs[i]? =some r∧AllP r.C∧evG P ops o (ZH (looks ops o) 0 (tsX n dst D ts (λj=>decide (j < i)))) r.H r.hs=some (r.C,r.d,r.H',r.hs')∧
     r.cls=clsOf P o (ZH (looks ops o) 0 (tsX n dst D ts (λj=>decide (j < i)))) r.H r.hs∧
     (r.rd=ZGq P o (ZH (looks ops o) 0 (tsX n dst D ts (λj=>decide (j < i))))∧r.tc=Zxl P o (ZH (looks ops o) 0 (tsX n dst D ts (λj=>decide (j < i)))) r.hs∧r.push=ZbX o r.hs r.H.length∧r.loc=ZmQ o r.hs∧r.ex=exO o)∧(i=0→r.H=σ.H)∧(∀r2,rs[i+1]? =some r2→r2.H=r.H')∧(i+1=n→H1=r.H'):=by
     intro i o ho;have hi:i < n:=(ycr.1 ho).1;obtain⟨r,k1,k2,k3,k4,k45,k5,k6,k7⟩:=hspec i o (by rw[hopl];exact ho);rw[hTS i (by omega)] at k3 k4 k45;exact⟨r,k1,k2,k3,k4,k45,k5,k6,λhl=>k7 (by rw[hn];exact hl)⟩
    let HH:Nat→List Ent:=λi=>if i < n then((rs[i]?).map (·.H)).getD [] else H1
    have hHH:∀i r,rs[i]? =some r→HH i=r.H∧HH (i+1)=r.H':=by
     intro i r hr;have hi:i < n:=by rw[←hrl];exact(yo.1 hr).1
     have hio:ops[i]? =some ops[i]:=ycj hi;obtain⟨r',k1,_,_,_,_,_,k6,k7⟩:=hspec' i _ hio;rw[hr] at k1;cases k1;refine⟨by simp[HH,hi,hr], ?_⟩;by_cases h2:i+1 < n
     ·have h3:i+1 < rs.length:=by rw[hrl];exact h2
      have h4:=yac h3;simp only[HH,h2,if_true,h4,yz,Option.getD_some];exact k6 _ h4
     ·simp only[HH,h2,if_false];exact k7 (by omega)
    have hcl:∀i r,rs[i]? =some r→cls i=r.cls:=by
     intro i r hr;simp[cls,List.getD,hr]
    have hstay:∀i,i < n→cls i≠2→HH (i+1)=HH i:=by
     intro i hi h2;have hio:ops[i]? =some ops[i]:=ycj hi;obtain⟨r,k1,_,k3,k4,_⟩:=hspec' i _ hio;rw[(hHH i r k1).1,(hHH i r k1).2];exact ZGK k3 (by rw[←k4, ←hcl i r k1];exact h2)
    have hlev:∀(i k:Nat),i+k≤n→(∀e,i≤e→e < i+k→cls e≠2)→HH (i+k)=HH i:=by
     intro i k
     induction k with
     |zero=>intro _ _;rfl
     |succ k ih=>
      intro hk he;rw[←yce,hstay (i+k) (by omega) (he _ (by omega) (by omega)),ih (by omega) (λe h1 h2=>he e h1 (by omega))]
    let Lev:(Nat→Bool)→Nat→Prop:=λX i=>i≤n∧∀e,e < n→cls e=2→(X e=true↔e < i)
    have hsameLev:∀(X:Nat→Bool)(i k:Nat),Lev X i→Lev X k→HH i=HH k:=by
     have main:∀(X:Nat→Bool)(i k:Nat),i≤k→Lev X i→Lev X k→HH i=HH k:=by
      intro X i k hik h1 h2
      have:=hlev i (k - i) (by have:=h2.1;omega) (λe he1 he2 hce=>by
       have hen:e < n:=by have:=h2.1;omega
       have h3:=(h1.2 e hen hce);have h4:=(h2.2 e hen hce);have:X e=true:=h4.2 (by omega);have:=h3.1 this;omega)
      rw[←this];congr 1;omega
     intro X i k h1 h2;rcases Nat.le_total i k with h3|h3
     ·exact main X i k h3 h1 h2
     ·exact(main X k i h3 h2 h1).symm
    have hcle:∀i,i < n→cls i≤2:=by
     intro i hi;obtain⟨r,k1,_,k3,k4,_⟩:=hspec' i _ (ycj hi);rw[hcl i r k1,k4];exact ZGO
    have hpsh:∀i r,rs[i]? =some r→r.push=true→cls i=2∧∃E,HH (i+1)=HH i++E∧∀o,ops[i]? =some o→∀H2,H2.length=(HH i).length→evG P ops o (ZH (looks ops o) 0 (tsX n dst D ts (λj=>decide (j < i)))) H2 r.hs=some (r.C,r.d,H2++E,r.hs'):=by
     intro i r hr hp;have hi:i < n:=by rw[←hrl];exact(yo.1 hr).1
     have hio:ops[i]? =some ops[i]:=ycj hi;obtain⟨r',k1,_,k3,k4,k45,_⟩:=hspec' i _ hio;rw[hr] at k1;cases k1;rw[k45.2.2.1] at hp;obtain⟨q1,E,q2,_⟩:=Zz6 (H2:=r.H) k3 hp rfl;refine⟨by rw[hcl i r hr,k4,q1],E,by rw[(hHH i r hr).1,(hHH i r hr).2,q2],λo ho H2 hl=> ?_⟩;rw[hio] at ho;cases ho;obtain⟨_,E2,q3,q4⟩:=Zz6 (H2:=H2) k3 hp (by rw[hl,(hHH i r hr).1]);rw[q2] at q3;rw[List.append_cancel_left q3];exact q4
    have hlocc:∀i r,rs[i]? =some r→r.loc=true→cls i≠1∧(HH (i+1)).length=(HH i).length∧∀o,ops[i]? =some o→∀E,evG P ops o (ZH (looks ops o) 0 (tsX n dst D ts (λj=>decide (j < i)))) (HH i++E) r.hs=some (r.C,r.d,HH (i+1)++E,r.hs'):=by
     intro i r hr hp;have hi:i < n:=by rw[←hrl];exact(yo.1 hr).1
     have hio:ops[i]? =some ops[i]:=ycj hi;obtain⟨r',k1,_,k3,k4,k45,_⟩:=hspec' i _ hio;rw[hr] at k1;cases k1;rw[k45.2.2.2.1] at hp;obtain⟨q1,q2,q3⟩:=ZJu k3 hp;refine⟨by rw[hcl i r hr,k4];exact q1,by rw[(hHH i r hr).1,(hHH i r hr).2,q2],λo ho E=> ?_⟩;rw[hio] at ho;cases ho;rw[(hHH i r hr).1,(hHH i r hr).2];exact q3 E
    let Psh:Nat→Prop:=λi=>∃r,rs[i]? =some r∧r.push=true;let Loc:Nat→Prop:=λi=>∃r,rs[i]? =some r∧r.loc=true;let Pu:Nat→Prop:=λi=>∃r,rs[i]? =some r∧r.push=true∧r.H'.length=r.H.length+1∧∀k q,k < i→rs[k]? =some q→q.H.length≤r.H.length
    have hcomm:∀i j,Zfv rs c0 i j=true→(Loc c0∨Pu c0)∧((i=c0∧c0 < j∧Psh j)∨(j=c0∧c0 < i∧Psh i)):=by
     intro i j h
     have hget:∀(f:Rec→Bool)(k:Nat),((rs[k]?).map f).getD false=true→∃r,rs[k]? =some r∧f r=true:=by
      intro f k hk
      cases hr:rs[k]? with
      |none=>rw[hr] at hk;cases hk
      |some r=>rw[hr] at hk;exact⟨r,rfl,hk⟩
     unfold Zfv at h;simp only[yi,ybz,beq_iff_eq,decide_eq_true_eq] at h;obtain⟨h1,h2⟩:=h;refine⟨?_, ?_⟩
     ·obtain⟨r,q1,q2⟩:=hget _ _ h1;unfold cOk at q2;simp only[ybz,yi,beq_iff_eq,yba,decide_eq_true_eq] at q2;rcases q2 with q2|⟨⟨q2,q3⟩,q4⟩
      ·exact .inl ⟨r,q1,q2⟩
      ·refine .inr ⟨r,q1,q2,q3,λk q hk hq=>q4 q ?_⟩;rw[List.mem_iff_getElem?];exact⟨k,by rw[ycd,if_pos hk];exact hq⟩
     rcases h2 with⟨⟨h3,h4⟩,h5⟩|⟨⟨h3,h4⟩,h5⟩
     ·exact .inl ⟨h3,h4,hget _ _ h5⟩
     ·exact .inr ⟨h3,h4,hget _ _ h5⟩
    let CG:List Ent→Prop:=λG=>(Loc c0∧G=[])∨(Pu c0∧G=[.gone])
    have hGl:∀G,CG G→(HH (c0+1)).length=(HH c0).length+G.length:=by
     rintro G (⟨⟨r,q1,q2⟩,rfl⟩|⟨⟨r,q1,_,q2,_⟩,rfl⟩)
     ·rw[(hlocc c0 r q1 q2).2.1];rfl
     ·rw[(hHH c0 r q1).1,(hHH c0 r q1).2,q2];rfl
    let Hole:(Nat→Bool)→List Ent→Prop:=λX Hc=>∃lv e0 E G,c0 < n∧CG G∧cls c0=2∧lv≤n∧X c0=false∧(∀e,e < n→cls e=2→(X e=true↔e < lv∧e≠c0))∧(c0 < e0∧e0 < lv∧cls e0=2∧HH e0=HH (c0+1))∧
     (∀e,c0 < e→e < lv→cls e=2→Psh e)∧Hc=HH c0++(G++E)∧HH lv=HH (c0+1)++E
    let Inv:(Nat→Bool)→List Ent→Prop:=λX Hc=>(∃i,Lev X i∧Hc=HH i)∨Hole X Hc;refine wp_region_any hm ?_
    have walk:∀(fuel:Nat)(listed:Array Bool)(a:Act)(σ1:Sg),listed.size=n→unl (λj=>listed.getD j false) n≤fuel→ZGH ops (λj=>listed.getD j false)→To σ σ1→Ok σ1→
     RepT σ1 (tsX n dst D ts (λj=>listed.getD j false)) a→Inv (λj=>listed.getD j false) σ1.H→wpAny P .any ops Q fuel listed a σ1.w:=by
     intro fuel
     induction fuel with
     |zero=>
      intro listed a σ1 hsz hun hcl1 to1 ok1 hrep1 hlv;have hall:=ZDX (Nat.le_zero.1 hun);refine⟨?_, ?_⟩
      ·apply List.eq_nil_iff_forall_not_mem.2;intro j hj;obtain⟨h1,o,ho,_⟩:=mem_ready.1 hj;have hjn:j < n:=(ycr.1 ho).1;have h2:=hall j hjn;have hjs:j < listed.size:=by omega
       simp only[Array.getD,hjs,dif_pos] at h1 h2;rw[h1] at h2;cases h2
      ·rcases hlv with⟨i,hi,hH⟩|⟨lv,e0,E,G,g1,_,_,_,g2,_⟩
       case inr=>exact absurd ((hall c0 g1).symm.trans g2) (by simp)
       have hln:Lev (λj=>listed.getD j false) n:=⟨ym _,λe he _=>⟨λ_=>he,λ_=>hall e he⟩⟩;refine hQ a σ1 ?_ to1 ok1 ?_
       ·rw[hH,hsameLev _ i n hi hln];simp[HH]
       ·have:ts1=tsX n dst D ts (λj=>listed.getD j false):=by
         have e1:=hTS n (ym _);rw[ycn (by rw[List.length_zip,hn,hrl];simp)] at e1;rw[hts',e1];apply ybd;intro t;by_cases ht:t < ts.length
         ·rw[Zbg ht,Zbg ht];congr 1;by_cases hex:∃j,j < n∧dst j=some t
          ·obtain⟨j,h1,h2⟩:=hex;rw[QG hu h1 (by simpa using h1) h2,QG hu h1 (hall j h1) h2]
          ·rw[QH (λj h1 _ h3=>hex ⟨j,h1,h3⟩),QH (λj h1 _ h3=>hex ⟨j,h1,h3⟩)]
         ·rw[yan (by rw[Xk];omega),yan (by rw[Xk];omega)]
        rw[this]
        exact hrep1
     |succ fuel ih=>
      intro listed a σ1 hsz hun hcl1 to1 ok1 hrep1 hlv;refine⟨λhr=> ?_,λi hi=> ?_⟩
      ·
       have hall:∀j,j < n→listed.getD j false=true:=by
        intro j
        induction j using Nat.strongRecOn with
        |_ j ihj=>
         intro hj
         cases hx:listed.getD j false with
         |true=>rfl
         |false=>
          have hjs:j < listed.size:=by omega
          have hjo:ops[j]? =some ops[j]:=ycj hj
          have:j∈Region.ready .any ops listed:=by
           refine mem_ready.2 ⟨?_,ops[j],hjo,λe he hb=> ?_⟩
           ·simp only[Array.getD,hjs,dif_pos] at hx ⊢;exact hx
           ·have hlt:=ZsJ ops.toList 0 hback j ops[j] (by rw[hopl];exact hjo) e he hb;exact ihj e.on (by omega) (by omega)
          rw[hr] at this;cases this
       rcases hlv with⟨i,hi,hH⟩|⟨lv,e0,E,G,g1,_,_,_,g2,_⟩
       case inr=>exact absurd ((hall c0 g1).symm.trans g2) (by simp)
       have hln:Lev (λj=>listed.getD j false) n:=⟨ym _,λe he _=>⟨λ_=>he,λ_=>hall e he⟩⟩;refine hQ a σ1 ?_ to1 ok1 ?_
       ·rw[hH,hsameLev _ i n hi hln];simp[HH]
       ·have:ts1=tsX n dst D ts (λj=>listed.getD j false):=by
         have e1:=hTS n (ym _);rw[ycn (by rw[List.length_zip,hn,hrl];simp)] at e1;rw[hts',e1];apply ybd;intro t;by_cases ht:t < ts.length
         ·rw[Zbg ht,Zbg ht];congr 1;by_cases hex:∃j,j < n∧dst j=some t
          ·obtain⟨j,h1,h2⟩:=hex;rw[QG hu h1 (by simpa using h1) h2,QG hu h1 (hall j h1) h2]
          ·rw[QH (λj h1 _ h3=>hex ⟨j,h1,h3⟩),QH (λj h1 _ h3=>hex ⟨j,h1,h3⟩)]
         ·rw[yan (by rw[Xk];omega),yan (by rw[Xk];omega)]
        rw[this];exact hrep1
      ·
       obtain⟨h1,o,ho,hedge⟩:=mem_ready.1 hi;have hin:i < n:=(ycr.1 ho).1;have his:i < listed.size:=by omega
       let X:Nat→Bool:=λj=>listed.getD j false
       have hXi:X i=false:=by
        simp only[X,Array.getD,his,dif_pos] at h1 ⊢;exact h1
       have hancL:∀j,(A.getD i 0).testBit j=true→X j=true:=by
        intro j hj;rw[hA i o ho] at hj;unfold ZgL at hj;rcases ZoX A i j _ _ hj with h|⟨e,e1,e2,e3,e4⟩
        ·simp at h
        ·have he:=hedge e (by simpa using e1) e2;rcases e4 with e4|e4
         ·rw[←e4];exact he
         ·exact ZsI hcl1 hA e.on ⟨ops[e.on],ycj (by omega)⟩ he j e4
       have hancR:∀j,j < n→X j=true→(A.getD j 0).testBit i=true→False:=by
        intro j hj hx hb;have:=ZsI hcl1 hA j ⟨ops[j],ycj hj⟩ hx i hb;have hXi':(listed.getD i false)=false:=hXi;rw[hXi'] at this;cases this
       obtain⟨r,k1,k2,k3,k4,k45,_,_,_⟩:=hspec' i o ho
       have hmask:ZH (looks ops o) 0 (tsX n dst D ts X)=ZH (looks ops o) 0 (tsX n dst D ts (λj=>decide (j < i))):=by
        refine ZFw hu (λj t hj hd ht=> ?_);by_cases hij:i=j
        ·subst hij;rw[hXi];simp
        ·have:=hL i o j t ho hj hd ht hij;split at this
         ·rename_i hlt;rw[hancL j this];simp[hlt]
         ·rename_i hge
          have hxf:X j=false:=by
           cases hx:X j with
           |false=>rfl
           |true=>exact(hancR j hj hx this).elim
          rw[hxf];simp[hge]
       have hXi2:X i=false:=hXi
       have hgetset:∀j,(listed.setIfInBounds i true).getD j false=(X j || decide (j=i)):=by
        intro j;by_cases hji:j=i
        ·subst hji;simp[Array.getD,his]
        ·simp only[X,ycv,Array.getElem?_setIfInBounds,hji,decide_false,Bool.or_false];rw[if_neg (λh=>hji h.symm)]
       have hord:∀e,e < n→cls i≠0→cls e=2→i≠e→¬(cls i=1∧ZiE rs i e=true)→¬Zfv rs c0 i e=true→(X e=true↔e < i):=by
        intro e he h0 hce hie hf hcm;rcases hE0 i e hin he h0 hce hie with h3|h3|h3
        ·split at h3
         ·rename_i hlt;exact⟨λ_=>hlt,λ_=>hancL e h3⟩
         ·rename_i hge;exact⟨λhx=>(hancR e he hx h3).elim,λh=>absurd h hge⟩
        ·exact absurd h3 hf
        ·exact absurd h3 hcm
       have hkeep:cls i≠2→Inv (λj=>(listed.setIfInBounds i true).getD j false) σ1.H:=by
        intro h2
        have hX':∀e,cls e=2→((listed.setIfInBounds i true).getD e false=true↔X e=true):=by
         intro e hce
         have hne:¬e=i:=by
          rintro rfl;exact h2 hce
         rw[hgetset e];simp only[hne,decide_false,Bool.or_false]
        rcases hlv with⟨lv,hlv1,hlv2⟩|⟨lv,e0,E,G,g1,g2,g3,g4,g5,g6,g7,g8,g9,g10⟩
        ·exact .inl ⟨lv,⟨hlv1.1,λe he hce=>(hX' e hce).trans (hlv1.2 e he hce)⟩,hlv2⟩
        ·refine .inr ⟨lv,e0,E,G,g1,g2,g3,g4, ?_,λe he hce=>(hX' e hce).trans (g6 e he hce),g7,g8,g9,g10⟩;have:=hX' c0 g3;show(listed.setIfInBounds i true).getD c0 false=false
         cases hx:(listed.setIfInBounds i true).getD c0 false with
         |false=>rfl
         |true=>
          have h9:=this.1 hx;have g5':X c0=false:=g5;rw[g5'] at h9;cases h9
       let SO:List Ent→Prop:=λH2=>∀K:Act→World→Prop,(∀v σ2,σ2.H=H2→To σ1 σ2→Ok σ2→RepT σ2 (Zin (ZH (looks ops o) 0 (tsX n dst D ts X)) o.dst r.d) (a.put o.dst v)→K (a.put o.dst v) σ2.w)→
        if Region.wanted o (yielded ops a.tmps) then o.wp P a σ1.w K Q else K (a.put o.dst undef) σ1.w
       have soE:∀H2,evG P ops o (ZH (looks ops o) 0 (tsX n dst D ts (λj=>decide (j < i)))) σ1.H r.hs=some (r.C,r.d,H2,r.hs')→SO H2:=λH2 h K hK=>by
        rw[←hmask] at h;exact Zke (P:=P) (ops:=ops) ok1 (QF (looks ops o) hrep1) h k2 K Q hK
       have soG:∀G H2,(G=[]∨G=[.gone])→evG P ops o (ZH (looks ops o) 0 (tsX n dst D ts (λj=>decide (j < i)))) (σ1.H++G) r.hs=some (r.C,r.d,H2,r.hs')→SO H2:=λG H2 hG h=>by
        rcases hG with rfl|rfl
        ·rw[ybj] at h;exact soE H2 h
        ·intro K hK;rw[←hmask] at h;obtain⟨t1,o1⟩:=ZDW ok1;exact Zke (P:=P) (ops:=ops) (σ:={ σ1 with m:=σ1.m++[none],H:=σ1.H++[.gone]}) o1 ((QF (looks ops o) hrep1).to t1.leaf) h k2 K Q λv σ2 e1 to2 ok2 hr2=>hK v σ2 e1 (t1.trans to2) ok2 hr2
       have hnow:∃H2,SO H2∧Inv (λj=>(listed.setIfInBounds i true).getD j false) H2:=by
        by_cases h0:cls i=0
        ·obtain⟨e1,e2⟩:=ZGJ (H2:=σ1.H) k3 (by rw[←k4, ←hcl i r k1];exact h0);exact⟨σ1.H,soE _ e2,hkeep (by omega)⟩
        by_cases h01:cls i=1
        ·have hkc:clsOf P o (ZH (looks ops o) 0 (tsX n dst D ts (λj=>decide (j < i)))) r.H r.hs=1:=by rw[←k4, ←hcl i r k1];exact h01
         have hnc:∀e,¬Zfv rs c0 i e=true:=by
          intro e hcm;obtain⟨q0,q3|q3⟩:=hcomm i e hcm
          ·obtain⟨rfl,_⟩:=q3;rcases q0 with⟨rc,q1,q2⟩|⟨rc,q1,q2,_⟩
           ·exact(hlocc _ rc q1 q2).1 h01
           ·have:=(hpsh _ rc q1 q2).1;omega
          ·obtain⟨_,_,rp,q4,q5⟩:=q3;have:=(hpsh i rp q4 q5).1;omega
         have hdis:∀e,e < n→cls e=2→¬(X e=true↔e < i)→ZiE rs i e=true:=by
          intro e he hce hx;by_cases hf:ZiE rs i e=true
          ·exact hf
          ·exact absurd (hord e he h0 hce (by rintro rfl;omega) (λh=>hf h.2) (hnc e)) hx
         have hfr:∀k,k < n→ZiE rs i k=true→True∧∃id,r.rd=some id∧id < (HH k).length∧id < (HH i).length∧(cls k=2→rqO o ((HH (k+1))[id]?)=rqO o ((HH k)[id]?)):=by
          intro k hk hf;have hko:ops[k]? =some ops[k]:=ycj hk;obtain⟨q,g1,_,g3,g4,g45,_⟩:=hspec' k _ hko;unfold ZiE at hf;rw[k1,g1] at hf;dsimp only at hf;split at hf
          ·rename_i id e1;simp only[yi,decide_eq_true_eq] at hf;have hrd:=k45.1;rw[e1] at hrd;unfold ZGq at hrd
           ·refine⟨trivial,id,e1,by rw[(hHH k q g1).1];exact hf.1.1,by rw[(hHH i r k1).1];exact hf.1.2,λhck=> ?_⟩;rw[(hHH k q g1).1,(hHH k q g1).2];have hf2:=hf.2;rw[k45.2.2.2.2] at hf2;unfold rqO;by_cases hex:exO o=true
            ·rw[if_pos hex] at hf2;rw[if_pos hex,if_pos hex];obtain⟨_,E,p3,_⟩:=hpsh k q g1 hf2;rw[(hHH k q g1).1,(hHH k q g1).2] at p3;rw[p3,yah hf.1.1]
            ·rw[if_neg hex] at hf2;rw[if_neg hex,if_neg hex];rw[ybz] at hf2;rcases hf2 with hf2|hf2
             ·split at hf2
              ·rename_i l e2;exact ZFx g3 (by rw[←g4, ←hcl k q g1];exact hck) (by rw[←g45.2.1,e2]) hf.1.1 (by simpa using hf2)
              ·cases hf2
             ·exact@of_decide_eq_true _ (Classical.propDecidable _) hf2
          ·cases hf
         have hchain:∀(id k a:Nat),a+k≤n→(∀e,a≤e→e < a+k→cls e=2→rqO o ((HH (e+1))[id]?)=rqO o ((HH e)[id]?))→rqO o ((HH (a+k))[id]?)=rqO o ((HH a)[id]?):=by
          intro id k a
          induction k with
          |zero=>intro _ _;rfl
          |succ k ihk=>
           intro hk he;rw[←yce, ←ihk (by omega) (λe h1 h2=>he e h1 (by omega))];by_cases h2:cls (a+k)=2
           ·exact he (a+k) (by omega) (by omega) h2
           ·rw[hstay (a+k) (by omega) h2]
         have hreads:∀id,r.rd=some id→ZoM P o (ZH (looks ops o) 0 (tsX n dst D ts (λj=>decide (j < i))))=some id:=by
          intro id e1;have hrd:=k45.1;rw[e1] at hrd;exact hrd.symm
         have hfin:True→∀id,r.rd=some id→rqO o ((HH i)[id]?)=rqO o (σ1.H[id]?)→∃H2,SO H2∧Inv (λj=>(listed.setIfInBounds i true).getD j false) H2:=by
          intro hg id e1 e2;rw[(hHH i r k1).1] at e2;exact⟨σ1.H,soE _ (ZM3 k3 hkc (λ_=>ZLp (hreads id e1) e2)),hkeep (by omega)⟩
         rcases hlv with⟨lv,hlv1,hlv2⟩|⟨lv,e0,E,G,g1,g2,g3,g4,g5,g6,g7,g8,g9,g10⟩
         ·by_cases hsame:Lev X i
          ·have hHi:σ1.H=r.H:=by
            rw[hlv2,hsameLev X lv i hlv1 hsame,(hHH i r k1).1]
           have hr':r.H'=r.H:=by
            have:=hstay i hin (by omega);rw[(hHH i r k1).1,(hHH i r k1).2] at this;exact this
           refine⟨σ1.H,soE _ (by rw[hHi,k3,hr']),hkeep (by omega)⟩
          ·have hex:∃e,e < n∧cls e=2∧¬(X e=true↔e < i):=by
            refine Classical.byContradiction λhno=>hsame ⟨by omega,λe he hce=> ?_⟩;exact Classical.byContradiction λh=>hno ⟨e,he,hce,h⟩
           obtain⟨e1,he1,hce1,hx1⟩:=hex;obtain⟨hg,id,hid,_⟩:=hfr e1 he1 (hdis e1 he1 hce1 hx1);refine hfin hg id hid ?_;have hln:=hlv1.1
           have hst:∀e,e < n→cls e=2→¬(X e=true↔e < i)→rqO o ((HH (e+1))[id]?)=rqO o ((HH e)[id]?):=by
            intro e he hce hx;obtain⟨_,id',hid',_,_,h5⟩:=hfr e he (hdis e he hce hx);rw[hid] at hid';cases hid';exact h5 hce
           rw[hlv2];rcases Nat.le_total lv i with hle|hle
           ·have:=hchain id (i - lv) lv (by omega) (λe h1 h2 h3=>hst e (by omega) h3 (λhx=>by
             have h4:=(hlv1.2 e (by omega) h3).1 (hx.2 (by omega));omega))
            rw[show lv+(i - lv)=i by omega] at this;exact this
           ·have:=hchain id (lv - i) i (by omega) (λe h1 h2 h3=>hst e (by omega) h3 (λhx=>by
             have h4:=hx.1 ((hlv1.2 e (by omega) h3).2 (by omega));omega))
            rw[show i+(lv - i)=lv by omega] at this;exact this.symm
         ·
          have hic:¬i=c0:=by
           rintro rfl;omega
          obtain⟨ge1,ge2,ge3,ge4⟩:=g7;have hclen:=hGl G g2;have hxe0:X e0=true:=(g6 e0 (by omega) ge3).2 ⟨ge2,by omega⟩;have hxc0:X c0=false:=g5
          have hid:True∧∃id,r.rd=some id∧id < (HH c0).length:=by
           by_cases hlt:c0 < i
           ·obtain⟨hg,id,q1,q2,_⟩:=hfr c0 g1 (hdis c0 g1 g3 (λhx=>by
             rw[hxc0] at hx;have:=hx.2 hlt;cases this))
            exact⟨hg,id,q1,q2⟩
           ·obtain⟨hg,id,q1,q2,q20,_⟩:=hfr e0 (by omega) (hdis e0 (by omega) ge3 (λhx=>by
             have:=hx.1 hxe0;omega))
            refine⟨hg,id,q1, ?_⟩;rcases g2 with⟨_,rfl⟩|⟨⟨rc,p1,_,_,p4⟩,rfl⟩
            ·rw[ge4,hclen] at q2;exact q2
            ·have:=p4 i r (by omega) k1;rw[(hHH i r k1).1] at q20;rw[(hHH c0 rc p1).1];omega
          obtain⟨hg,id,hid,hidl⟩:=hid;refine hfin hg id hid ?_
          have hst:∀e,e < n→cls e=2→¬(X e=true↔e < i)→rqO o ((HH (e+1))[id]?)=rqO o ((HH e)[id]?):=by
           intro e he hce hx;obtain⟨_,id',hid',_,_,h5⟩:=hfr e he (hdis e he hce hx);rw[hid] at hid';cases hid';exact h5 hce
          rw[g9,yah hidl];by_cases hlt:c0 < i
          ·
           have hc1:rqO o ((HH (c0+1))[id]?)=rqO o ((HH c0)[id]?):=hst c0 g1 g3 (λhx=>by
            rw[hxc0] at hx;have:=hx.2 hlt;cases this)
           have hup:∀k,c0+1+k≤lv→id < (HH (c0+1+k)).length∧rqO o ((HH (c0+1+k))[id]?)=rqO o ((HH (c0+1))[id]?):=by
            intro k
            induction k with
            |zero=>intro _;exact⟨by rw[Nat.add_zero,hclen];omega,rfl⟩
            |succ k ihk=>
             intro hk;obtain⟨j1,j2⟩:=ihk (by omega);rw[←yce];by_cases h2:cls (c0+1+k)=2
             ·obtain⟨rp,p1,p2⟩:=g8 (c0+1+k) (by omega) (by omega) h2;obtain⟨_,E2,p3,_⟩:=hpsh _ rp p1 p2;rw[p3,yah j1];exact⟨by rw[yr];omega,j2⟩
             ·rw[hstay (c0+1+k) (by omega) h2];exact⟨j1,j2⟩
           rcases Nat.le_total i lv with hle|hle
           ·have:=(hup (i - (c0+1)) (by omega)).2;rw[show c0+1+(i - (c0+1))=i by omega] at this;rw[this,hc1]
           ·have h6:=(hup (lv - (c0+1)) (by omega)).2;rw[show c0+1+(lv - (c0+1))=lv by omega] at h6
            have:=hchain id (i - lv) lv (by omega) (λe h1 h2 h3=>hst e (by omega) h3 (λhx=>by
             have h4:=(g6 e (by omega) h3).1 (hx.2 (by omega));omega))
            rw[show lv+(i - lv)=i by omega] at this;rw[this,h6,hc1]
          ·have:=hchain id (c0 - i) i (by omega) (λe h1 h2 h3=>hst e (by omega) h3 (λhx=>by
            have h4:=hx.1 ((g6 e (by omega) h3).2 ⟨by omega,by omega⟩);omega))
           rw[show i+(c0 - i)=c0 by omega] at this;exact this.symm
        have h2:cls i=2:=by
         have:=hcle i hin;omega
        have hord2:∀e,e < n→cls e=2→i≠e→¬Zfv rs c0 i e=true→(X e=true↔e < i):=λe he hce hie hcm=>hord e he h0 hce hie (λh=>h01 h.1) hcm
        have hset:∀e,((listed.setIfInBounds i true).getD e false=true↔(X e=true∨e=i)):=by
         intro e;rw[hgetset e];simp
        by_cases hall2:∀e,e < n→cls e=2→(X e=true↔e < i)
        ·
         have hli:Lev X i:=⟨by omega,hall2⟩
         have hHi:σ1.H=r.H:=by
          rcases hlv with⟨lv,hlv1,hlv2⟩|⟨lv,e0,E,G,g1,g2,g3,g4,g5,g6,g7,g8,g9,g10⟩
          ·rw[hlv2,hsameLev X lv i hlv1 hli,(hHH i r k1).1]
          ·exfalso;obtain⟨ge1,ge2,ge3,ge4⟩:=g7;have q1:=(hall2 e0 (by omega) ge3).1 ((g6 e0 (by omega) ge3).2 ⟨ge2,by omega⟩);have q2:=(hall2 c0 g1 g3).2 (by omega);have g5':X c0=false:=g5;rw[g5'] at q2;cases q2
         rw[←hHi] at k3;refine⟨r.H',soE _ k3,.inl ⟨i+1,⟨by omega,λe he hce=> ?_⟩,((hHH i r k1).2).symm⟩⟩;refine(hset e).trans ?_;rw[hall2 e he hce];omega
        ·
         have hex:∃e,e < n∧cls e=2∧i≠e∧¬(X e=true↔e < i):=by
          refine Classical.byContradiction λhno=>hall2 λe he hce=> ?_;by_cases hie:i=e
          ·subst hie;rw[hXi2];simp
          ·exact Classical.byContradiction λh=>hno ⟨e,he,hce,hie,h⟩
         obtain⟨e1,he1,hce1,hie1,hx1⟩:=hex;have hcm1:Zfv rs c0 i e1=true:=Classical.byContradiction λh=>hx1 (hord2 e1 he1 hce1 hie1 h);obtain⟨hLP,hcases⟩:=hcomm i e1 hcm1;rcases hcases with⟨hic,hlt1,hpe1⟩|⟨hec,hlt1,hpi⟩
         ·
          subst hic
          have hxe1:X e1=true:=by
           cases hx:X e1 with
           |true=>rfl
           |false=>
            exfalso;apply hx1;rw[hx];exact⟨λh=>(by cases h),λh=>(by omega)⟩
          rcases hlv with⟨lv,hlv1,hlv2⟩|⟨lv,e0,E,G,g1,g2,g3,g4,g5,g6,g7,g8,g9,g10⟩
          ·exfalso;have q1:=(hlv1.2 e1 he1 hce1).1 hxe1;have q2:=(hlv1.2 i hin h2).2 (by omega);have hXi3:X i=false:=hXi;have q2':X i=true:=q2;rw[hXi3] at q2';cases q2'
          ·have hso:SO (HH (i+1)++E):=by
            rcases g2 with⟨⟨rc,hrc,hrcl⟩,rfl⟩|⟨⟨rc,hrc,hrp,hrl,_⟩,rfl⟩
            ·rw[hrc] at k1;cases k1;obtain⟨_,_,hcev⟩:=hlocc i r hrc hrcl;exact soE _ (by rw[g9];exact hcev o ho E)
            ·rw[hrc] at k1;cases k1;intro K hK;have hp:ZbX o r.hs r.H.length=true:=by rw[←k45.2.2.1];exact hrp
             rw[←hmask] at k3;refine ZGN (P:=P) (ops:=ops) (E:=E) ok1 (QF (looks ops o) hrep1) k3 k2 hp hrl (by rw[g9,(hHH i r hrc).1];rfl) K Q λv σ2 e1 to2 ok2 hr2=>hK v σ2 (by rw[e1,(hHH i r hrc).2]) to2 ok2 hr2
           refine⟨HH (i+1)++E,hso,.inl ⟨lv,⟨g4,λe he hce=> ?_⟩,g10.symm⟩⟩;refine(hset e).trans ?_;have q:=g6 e he hce;obtain⟨ge1,ge2,_⟩:=g7;constructor
           ·rintro(q1|q1)
            ·exact(q.1 q1).1
            ·omega
           ·intro q1;by_cases hei:e=i
            ·exact .inr hei
            ·exact .inl (q.2 ⟨q1,hei⟩)
         ·
          subst hec
          have hxc:X e1=false:=by
           cases hx:X e1 with
           |false=>rfl
           |true=>
            exfalso;apply hx1;rw[hx];exact⟨λ_=>hlt1,λ_=>rfl⟩
          have hoth:∀e,e < n→cls e=2→e≠e1→(X e=true↔e < i):=by
           intro e he hce hne;by_cases hie:i=e
           ·subst hie;rw[hXi2];simp
           ·refine hord2 e he hce hie λhcm=> ?_;obtain⟨_,q|q⟩:=hcomm i e hcm
            ·omega
            ·exact hne q.1
          obtain⟨rp,hrp,hrpp⟩:=hpi;obtain⟨_,Ei,hpE,hpev⟩:=hpsh i rp hrp hrpp
          have hexG:∃G,CG G∧(G=[]∨G=[.gone]):=by
           rcases hLP with h|h
           ·exact⟨[],.inl ⟨h,rfl⟩,.inl rfl⟩
           ·exact⟨[.gone],.inr ⟨h,rfl⟩,.inr rfl⟩
          rw[hrp] at k1;cases k1;rcases hlv with⟨lv,hlv1,hlv2⟩|⟨lv,e0,E,G,g1,g2,g3,g4,g5,g6,g7,g8,g9,g10⟩
          ·have hlc:Lev X e1:=⟨by omega,λe he hce=>by
            by_cases hne:e=e1
            ·subst hne;rw[hxc];simp
            ·rw[hoth e he hce hne];constructor
             ·intro q;have q1:=(hlv1.2 e he hce).1 ((hoth e he hce hne).2 q)
              have q2:¬e1 < lv:=λq3=>by
               have q9:X e1=true:=(hlv1.2 e1 he1 hce1).2 q3;rw[hxc] at q9;cases q9
              omega
             ·intro q;omega⟩
           have hmid:∀e,e1 < e→e < i→cls e≠2:=by
            intro e q1 q2 hce;have q3:=(hoth e (by omega) hce (by omega)).2 q2;have q4:=(hlc.2 e (by omega) hce).1 q3;omega
           have hHi:HH i=HH (e1+1):=by
            have:=hlev (e1+1) (i - (e1+1)) (by omega) (λe q1 q2=>hmid e (by omega) (by omega));rw[show e1+1+(i - (e1+1))=i by omega] at this;exact this
           have hH1:σ1.H=HH e1:=by rw[hlv2,hsameLev X lv e1 hlv1 hlc]
           obtain⟨G,hCG,hG2⟩:=hexG;have hclen:=hGl G hCG
           have hso:SO (HH e1++(G++Ei)):=soG G _ hG2 (by
            rw[←yak,hH1];exact hpev o ho (HH e1++G) (by rw[hHi,hclen,yr]))
           refine⟨HH e1++(G++Ei),hso,.inr ⟨i+1,i,Ei,G,he1,hCG,hce1,by omega, ?_,λe he hce=> ?_,⟨hlt1,by omega,h2,hHi⟩,λe q1 q2 q3=> ?_,rfl,by rw[hpE,hHi]⟩⟩
           ·show(listed.setIfInBounds i true).getD e1 false=false
            cases hx:(listed.setIfInBounds i true).getD e1 false with
            |false=>rfl
            |true=>
             rcases (hset e1).1 hx with q|q
             ·rw[hxc] at q;cases q
             ·omega
           ·refine(hset e).trans ?_;by_cases hne:e=e1
            ·subst hne;rw[hxc];constructor
             ·rintro(q|q)
              ·cases q
              ·omega
             ·rintro⟨_,q⟩;exact absurd rfl q
            ·rw[hoth e he hce hne];omega
           ·by_cases hei:e=i
            ·subst hei;exact⟨_,hrp,hrpp⟩
            ·exact absurd q3 (hmid e q1 (by omega))
          ·obtain⟨ge1,ge2,ge3,ge4⟩:=g7
           have hlvi:lv≤i:=by
            rcases Nat.lt_or_ge i lv with q|q
            ·exfalso;have:=(g6 i hin h2).2 ⟨q,by omega⟩;have hXi3:X i=false:=hXi;have q2':X i=true:=this;rw[hXi3] at q2';cases q2'
            ·exact q
           have hHi:HH i=HH lv:=by
            have:=hlev lv (i - lv) (by omega) (λe q1 q2 hce=>by
             have q3:=(hoth e (by omega) hce (by omega)).2 (by omega);have q4:=(g6 e (by omega) hce).1 q3;omega)
            rw[show lv+(i - lv)=i by omega] at this;exact this
           have hclen:=hGl G g2;have hso:SO (σ1.H++Ei):=soE _ (hpev o ho σ1.H (by rw[hHi,g10,g9,yr,yr,yr,hclen];omega));refine⟨σ1.H++Ei,hso,.inr ⟨i+1,e0,E++Ei,G,he1,g2,hce1,by omega, ?_,λe he hce=> ?_,⟨ge1,by omega,ge3,ge4⟩,λe q1 q2 q3=> ?_,by rw[g9,yak,yak],by rw[hpE,hHi,g10,yak]⟩⟩
           ·show(listed.setIfInBounds i true).getD e1 false=false
            cases hx:(listed.setIfInBounds i true).getD e1 false with
            |false=>rfl
            |true=>
             rcases (hset e1).1 hx with q|q
             ·rw[hxc] at q;cases q
             ·omega
           ·refine(hset e).trans ?_;by_cases hne:e=e1
            ·subst hne;rw[hxc];constructor
             ·rintro(q|q)
              ·cases q
              ·omega
             ·rintro⟨_,q⟩;exact absurd rfl q
            ·rw[hoth e he hce hne];omega
           ·by_cases hei:e=i
            ·subst hei;exact⟨_,hrp,hrpp⟩
            ·have q4:=(hoth e (by omega) q3 (by omega)).2 (by omega);have q5:=(g6 e (by omega) q3).1 q4;exact g8 e q1 q5.1 q3
       obtain⟨H2,hso2,hinv⟩:=hnow
       have key:=hso2 (wpAny P .any ops Q fuel (listed.setIfInBounds i true)) (λv σ2 e1 to2 ok2 hrep2=>by
        have hgetset:∀j,(listed.setIfInBounds i true).getD j false=(X j || decide (j=i)):=by
         intro j;by_cases hji:j=i
         ·subst hji;simp[Array.getD,his]
         ·simp only[X,ycv,Array.getElem?_setIfInBounds,hji,decide_false,Bool.or_false];rw[if_neg (λh=>hji h.symm)]
        refine ih _ _ σ2 (by simpa using hsz) ?_ ?_ (to1.trans to2) ok2 ?_ (by rw[e1];exact hinv)
        ·have:=ZAa (Y:=λj=>(listed.setIfInBounds i true).getD j false) hXi hin (λj _=>hgetset j);have hX':unl X n≤fuel+1:=hun;omega
        ·intro j o' hj hx e he hb;show(listed.setIfInBounds i true).getD e.on false=true;rw[hgetset];have hx':(listed.setIfInBounds i true).getD j false=true:=hx;rw[hgetset] at hx';by_cases hji:j=i
         ·subst hji;rw[ho] at hj;cases hj;have:X e.on=true:=hedge e he hb;rw[this];rfl
         ·simp only[hji,decide_false,Bool.or_false] at hx';have:X e.on=true:=hcl1 j o' hj hx' e he hb;rw[this];rfl
        ·have hd:o.dst=dst i:=by simp[dst,Zf1,ho]
         have hD:r.d=D i:=by simp[D,k1]
         have hput:=ZDV (ts0:=ts) (D:=D) hu hin hXi (λj(_:j < n)=>hgetset j);rw[←hput, ←hd, ←hD];exact ZLq (Zm5 _ _ _) (hrep1.to to2.leaf) hrep2)
       show wpOp P ops Q i _ a σ1.w;unfold wpOp;rw[ho];by_cases hw:Region.wanted o (yielded ops a.tmps)=true
       ·rw[if_pos hw] at key;simp only[hw,if_true];exact .inl key
       ·rw[if_neg hw] at key;simp only[hw];exact key
    have hdr2:σ.w.grownBy { σ.w with drawn:=σ.w.drawn+1} none:=by
     exact⟨rfl,rfl,rfl,ym _,λ_ _ _=>rfl⟩
    obtain⟨to0,ok0⟩:=ZmU ok hdr2
    have hfalse:∀j,(Array.replicate ops.size false).getD j false=false:=by
     intro j;by_cases hj:j < ops.size <;> simp[Array.getD,hj]
    refine walk ops.size (Array.replicate ops.size false) a { σ with w:={ σ.w with drawn:=σ.w.drawn+1}} (by simp[n]) ?_ ?_ to0 ok0 ?_ (.inl ⟨0,⟨Nat.zero_le _,λe _ _=> ?_⟩, ?_⟩)
    ·exact ZGP
    ·intro i o _ hx;have hx':(Array.replicate ops.size false).getD i false=true:=hx;rw[hfalse i] at hx';cases hx'
    ·rw[Zwn (λj _=>hfalse j)];exact hrep.to to0.leaf
    ·show(Array.replicate ops.size false).getD e false=true↔e < 0;rw[hfalse e];simp
    ·show σ.H=HH 0;by_cases h0:0 < n
     ·obtain⟨r,k1,_,_,_,_,k5,_⟩:=hspec' 0 _ (ycj h0);rw[(hHH 0 r k1).1,k5 rfl]
     ·have:ops.toList=[]:=yaz (by omega);simp only[HH,h0,if_false];exact(hnil this).symm
   ·cases h
  ·cases h
 ·cases h
end
end Go.Ev
end
section
namespace Go.Ev
section
variable{P:yg}
theorem ZeN{σ:Sg}{a:Act}:∀{mask:List Nat}{ts:List Dv},RepT σ ts a→RepT σ (ZmR ts mask) a
 |[],_,h=>h
 |i::r,ts,h=>by
  refine ZeN (mask:=r) ⟨by simpa using h.size,λj d hj=> ?_,h.defers⟩;rw[ybg] at hj;split at hj
  ·split at hj
   ·cases hj;exact YN
   ·cases hj
  ·exact h.at_ j d hj
theorem QJ:∀(c:Code)(ts:List Dv)(H:List Ent)(hs hs':List Hint)(C:List Prop)(ex:Ex)(ts':List Dv)(H':List Ent),ev P c ts H hs=some (C,ex,ts',H',hs')→AllP C→YU P c ts H ex ts' H'
 |.skip,ts,H,hs,hs',C,ex,ts',H',h,hc=>by
  simp only[ev,yj,yl] at h;obtain⟨rfl,rfl,rfl,rfl,rfl⟩:=h
  exact λσ a ok hH hrep=>wp_skip ⟨rfl,σ,rfl,hH,To.refl σ,ok,hrep⟩
 |.label _,ts,H,hs,hs',C,ex,ts',H',h,hc=>by
  simp only[ev,yj,yl] at h;obtain⟨rfl,rfl,rfl,rfl,rfl⟩:=h
  exact λσ a ok hH hrep=>wp_label ⟨rfl,σ,rfl,hH,To.refl σ,ok,hrep⟩
 |.region id ops draw,ts,H,hs,hs',C,ex,ts',H',h,hc=>by
  cases draw with
  |true=>
   simp only[ev,if_true] at h;simp only[yp,yl] at h;obtain⟨⟨C1,ts1,H1,hs1⟩,h1,rfl,rfl,rfl,rfl,rfl⟩:=h;intro σ a ok hH hrep;subst hH
   exact Zxx ok hrep h1 hc _ λa' σ' e1 to ok' hrep'=>⟨rfl,σ',rfl,e1,to,ok',hrep'⟩
  |false=>
   simp only[ev,ybv,if_false] at h;simp only[yp,yl] at h;obtain⟨⟨C1,ts1,H1,hs1⟩,h1,rfl,rfl,rfl,rfl,rfl⟩:=h;intro σ a ok hH hrep;subst hH;refine wp_region ?_
   have:=Zp8 (P:=P) (ops:=ops) (λe a' w'=>e=Ex.normal.to∧∃σ',σ'.w=w'∧σ'.H=H1∧To σ σ'∧Ok σ'∧RepT σ' ts1 a') ops.toList 0 ts σ a hs hs1 C1 H1 (λj=>by simp) ok hrep h1 hc
    (λa' σ' e1 to ok' hrep'=>⟨rfl,σ',rfl,e1,to,ok',hrep'⟩)
   rw[List.range_eq_range']
   simpa using this
 |.seq x y,ts,H,hs,hs',C,ex,ts',H',h,hc=>by
  simp only[ev] at h;split at h
  ·rename_i C1 ts1 H1 hs1 h1;split at h
   ·rename_i C2 ex2 ts2 H2 hs2 h2;simp only[yj,yl] at h;obtain⟨rfl,rfl,rfl,rfl,rfl⟩:=h;obtain⟨c1,c2⟩:=Zj.1 hc;have r1:=QJ x _ _ _ _ _ _ _ _ h1 c1;have r2:=QJ y _ _ _ _ _ _ _ _ h2 c2;intro σ a ok hH hrep;refine wp_seq (wp_mono (r1 σ a ok hH hrep) ?_);rintro e a' w' ⟨rfl,σ1,rfl,e1,to1,ok1,hrep1⟩;refine wp_mono (r2 σ1 a' ok1 e1 hrep1) ?_;rintro e a'' w'' ⟨rfl,σ2,rfl,e2,to2,ok2,hrep2⟩;exact⟨rfl,σ2,rfl,e2,to1.trans to2,ok2,hrep2⟩
   ·cases h
  ·rename_i r hne;have r1:=QJ x _ _ _ _ _ _ _ _ h hc;intro σ a ok hH hrep;refine wp_seq (wp_mono (r1 σ a ok hH hrep) ?_);rintro e a' w' ⟨rfl,hq⟩
   cases ex with
   |normal=>exact absurd h (hne _ _ _ _)
   |exit id=>exact⟨rfl,hq⟩
   |ret=>exact⟨rfl,hq⟩
 |.cond c x y,ts,H,hs,hs',C,ex,ts',H',h,hc=>by
  simp only[ev] at h;split at h
  ·rename_i t hs1 hcv;simp only[yp,yl] at h;obtain⟨⟨C1,r⟩,h1,rfl,rfl⟩:=h;obtain⟨c0,c1⟩:=hc;have r1:=QJ x _ _ _ _ _ _ _ _ h1 c1;intro σ a ok hH hrep;have hv:=Zi (P:=P) hrep 0 c;rw[hcv] at hv;exact wp_cond_true (by rw[Yk hv,c0]) (r1 σ a ok hH hrep)
  ·rename_i t hs1 hcv;simp only[yp,yl] at h;obtain⟨⟨C1,r⟩,h1,rfl,rfl⟩:=h;obtain⟨c0,c1⟩:=hc;have r1:=QJ y _ _ _ _ _ _ _ _ h1 c1;intro σ a ok hH hrep;have hv:=Zi (P:=P) hrep 0 c;rw[hcv] at hv;exact wp_cond_false (by rw[Yk hv,c0]) (r1 σ a ok hH hrep)
  ·cases h
 |.block id body,ts,H,hs,hs',C,ex,ts',H',h,hc=>by
  simp only[ev] at h;split at h
  ·rename_i C1 id' ts1 H1 hs1 h1;simp only[yj,yl] at h;obtain⟨rfl,rfl,rfl,rfl,rfl⟩:=h;have r1:=QJ body _ _ _ _ _ _ _ _ h1 hc;intro σ a ok hH hrep;refine wp_block (wp_mono (r1 σ a ok hH hrep) ?_);rintro e a' w' ⟨rfl,hq⟩;simp only[Ex.to,Exit.inBlock];split
   ·rename_i he;exact⟨rfl,hq⟩
   ·rename_i he;exact⟨rfl,hq⟩
  ·rename_i r hne;have r1:=QJ body _ _ _ _ _ _ _ _ h hc;intro σ a ok hH hrep;refine wp_block (wp_mono (r1 σ a ok hH hrep) ?_);rintro e a' w' ⟨rfl,hq⟩
   cases ex with
   |normal=>exact⟨rfl,hq⟩
   |exit id'=>exact absurd h (hne _ _ _ _ _)
   |ret=>exact⟨rfl,hq⟩
 |.loop body,ts,H,hs,hs',C,ex,ts',H',h,hc=>by
  simp only[ev] at h;split at h
  ·rename_i mask ex1 ts1 H1 hs1;split at h
   ·cases h
   ·simp only[yj,yl] at h;obtain⟨rfl,rfl,rfl,rfl,rfl⟩:=h;exact λσ a ok hH hrep=>hc.1 σ a ok hH (ZeN hrep)
  ·cases h
 |.scope body,ts,H,hs,hs',C,ex,ts',H',h,hc=>by
  simp only[ev] at h;have r1:=QJ body _ _ _ _ _ _ _ _ h hc;intro σ a ok hH hrep;refine wp_scope_straight (wp_mono (r1 σ a ok hH hrep) ?_);rintro e a' w' ⟨rfl,hq⟩
  cases ex <;> exact⟨rfl,hq⟩
 |.exit id,ts,H,hs,hs',C,ex,ts',H',h,hc=>by
  simp only[ev,yj,yl] at h;obtain⟨rfl,rfl,rfl,rfl,rfl⟩:=h
  exact λσ a ok hH hrep=>wp_exit ⟨rfl,σ,rfl,hH,To.refl σ,ok,hrep⟩
 |.ret,ts,H,hs,hs',C,ex,ts',H',h,hc=>by
  simp only[ev,yj,yl] at h;obtain⟨rfl,rfl,rfl,rfl,rfl⟩:=h
  exact λσ a ok hH hrep=>wp_ret ⟨rfl,σ,rfl,hH,To.refl σ,ok,hrep⟩
 |.rangeFunc _ _ _ _,ts,H,hs,hs',C,ex,ts',H',h,hc=>by simp[ev] at h
 |.goto _,ts,H,hs,hs',C,ex,ts',H',h,hc=>by simp[ev] at h
 |.refuse _,ts,H,hs,hs',C,ex,ts',H',h,hc=>by simp[ev] at h
def Zwo(P:yg)(body:Code)(ts:List Dv)(H:List Ent)(ex:Ex)(ts':List Dv)(H':List Ent):Prop:=
 ∀(σ:Sg)(a:Act),Ok σ→σ.H=H→RepT σ ts a→∀(b:Frame)(k:List Item)(cs:List Frame),
  ∃e a' w',(e=ex.to∧∃σ',σ'.w=w'∧σ'.H=H'∧To σ σ'∧Ok σ'∧RepT σ' ts' a')∧Arrives P (lone (b.at a (.code body::.inLoop body::k)) cs σ.w) b k cs e a' w'
theorem Zwp{body:Code}{ts ts':List Dv}{H H':List Ent}{ex:Ex}(hne:ex≠ .normal)(h:YU P body ts H ex ts' H'):Zwo P body ts H ex ts' H':=by
 intro σ a ok hH hrep b k cs;obtain⟨e,a1,w1,hq,harr⟩:=h σ a ok hH hrep b (.inLoop body::k) cs;obtain⟨he,hq'⟩:=hq;subst he;refine⟨ex.to,a1,w1,⟨rfl,hq'⟩, ?_⟩
 cases ex with
 |normal=>exact absurd rfl hne
 |exit id=>exact .pass (x:=.inLoop body) rfl (λ_ _=>.inl (by simp[Ex.to])) harr
 |ret=>exact .pass (x:=.inLoop body) rfl (λ_ _=>.inl (by simp[Ex.to])) harr
theorem Zwq{body:Code}{ts ts1 ts':List Dv}{H H1 H':List Ent}{ex:Ex}(mask:List Nat)(h1:YU P body ts H .normal ts1 H1)(h2:Zwo P body (ZmR ts1 mask) H1 ex ts' H'):Zwo P body ts H ex ts' H':=by
 intro σ a ok hH hrep b k cs;obtain⟨e,a1,w1,⟨rfl,σ1,rfl,e1,to1,ok1,hrep1⟩,harr⟩:=h1 σ a ok hH hrep b (.inLoop body::k) cs;obtain⟨e,a2,w2,⟨rfl,σ2,rfl,e2,to2,ok2,hrep2⟩,harr2⟩:=h2 σ1 a1 ok1 e1 (ZeN hrep1) b k cs;exact⟨ex.to,a2,σ2.w,⟨rfl,σ2,rfl,e2,to1.trans to2,ok2,hrep2⟩,.of_steps (Steps.trans harr (.one step_inLoop)) harr2⟩
theorem Zwr{body:Code}{ts ts':List Dv}{H H':List Ent}{ex:Ex}(h:Zwo P body ts H ex ts' H'):YU P (.loop body) ts H ex ts' H':=by
 intro σ a ok hH hrep b k cs;obtain⟨e,a1,w1,hq,harr⟩:=h σ a ok hH hrep b k cs;exact⟨e,a1,w1,hq,.of_steps (.one step_loop) harr⟩
def ZhE(σ:Sg)(L:List Nat)(H:List Ent):Sg:={ F:=σ.F,B:=σ.B,m:=L.map λid=>(σ.m[id]?).getD none,H:=H,w:=σ.w}
theorem ZGQ{σ:Sg}{L:List Nat}{H:List Ent}{j id:Nat}{x:Option Nat}(h:L[j]? =some id)(hm:σ.m[id]? =some x):(ZhE σ L H).m[j]? =some x:=by
 show(L.map λid=>(σ.m[id]?).getD none)[j]? =some x;rw[yaf,h];simp[hm]
theorem ZaK{σ:Sg}{L:List Nat}{H:List Ent}{j b:Nat}(h:(ZhE σ L H).m[j]? =some (some b)):∃id,L[j]? =some id∧σ.m[id]? =some (some b):=
 Xb (σ:=σ) (ids:=L) (Hin:=H) h
theorem ZcF{σ:Sg}{L:List Nat}{H:List Ent}(hin:subEnts σ.H L L=some H):Rn (toIds L) σ (ZhE σ L H) where
 w:=rfl
 stab b o v _ h:=by
  refine⟨h.1,λj e hj he=> ?_⟩;obtain⟨id,h1,h2⟩:=ZaK hj;obtain⟨e0,e',h3,h4,h5⟩:=WY hin h1;have he':H[j]? =some e:=he;rw[h4] at he';cases he';exact(ZiM h5).2 (h.2 id e0 h2 h3)
 m id j hj x hx:=ZGQ (idxOf?_some hj) hx
 H id j hj e he:=by
   obtain⟨e0,e',h3,h4,h5⟩:=WY hin (idxOf?_some hj);rw[he] at h3;cases h3;exact⟨e',h4,h5⟩
theorem Zm6{σ:Sg}(ok:Ok σ){L:List Nat}{H:List Ent}(ho:once L=true)(hin:subEnts σ.H L L=some H):Ok (ZhE σ L H) where
 len:=by
  show(L.map _).length=H.length;rw[yx,WX hin]
 inj i j b hi hj:=by
  obtain⟨x,h1,h2⟩:=ZaK hi;obtain⟨y,h3,h4⟩:=ZaK hj;have:=ok.inj x y b h2 h4;subst this;exact ZiL ho i j x h1 h3
 lt i b hi:=by
  obtain⟨x,h1,h2⟩:=ZaK hi;exact ok.lt x b h2
 ent i e x he hx:=by
  have he':H[i]? =some e:=he;have hi:i < L.length:=by rw[←WX hin];exact(yo.1 he').1
  obtain⟨e0,e',h3,h4,h5⟩:=WY hin (yac hi);rw[he'] at h4;cases h4
  have hm:∃y,σ.m[L[i]]? =some y:=by
   have:L[i] < σ.m.length:=by rw[ok.len];exact(yo.1 h3).1
   exact⟨_,yac this⟩
  obtain⟨y,hy⟩:=hm;have:=ZGQ (H:=H) (yac hi) hy;rw[hx] at this;cases this;exact Zsu (ZcF hin) h5 (ok.ent _ _ _ h3 hy)
 new b hb:=ok.new b hb
 own i b hi:=by
  obtain⟨x,h1,h2⟩:=ZaK hi;exact ok.own x b h2
theorem ZrR{σ σ':Sg}(ok:Ok σ)(to:To σ σ'){keep:List Nat}{H:List Ent}(ho:once (yq σ.H.length++keep)=true)(hin:subEnts σ'.H (yq σ.H.length++keep) (yq σ.H.length++keep)=some H):
 To σ (ZhE σ' (yq σ.H.length++keep) H):=by
 have hf:∀id,id < σ.H.length→toIds (yq σ.H.length++keep) id=some id:=λid h=>by
  refine idxOf?_of ho ?_;rw[yah (by simpa using h),List.getElem?_range h]
 have rn:=ZcF hin;refine⟨⟨λb o v h1 h2=> ?_,λid b h1 h2=> ?_,λid s len A c h1=> ?_,λid b h1 h2=> ?_,λid v s st e d h1=> ?_⟩,to.F,to.B,to.os,to.tape,to.output,to.size,λb h1 h2=>to.block b h1 h2,λid b h=> ?_, ?_⟩
 ·obtain⟨h3,h4⟩:=to.leaf.cells b o v h1 h2;exact⟨h3,rn.stab b o v h3 h4⟩
 ·have hlt:id < σ.H.length:=by rw[←ok.len];exact(yo.1 h1).1
  obtain⟨h3,h4⟩:=to.leaf.var id b h1 h2;exact⟨rn.m _ _ (hf id hlt) _ h3,rn.var (hf id hlt) h4⟩
 ·have hlt:id < σ.H.length:=by
   obtain⟨e,ys,h2,_⟩:=h1;exact(yo.1 h2).1
  exact rn.front (hf id hlt) (to.leaf.front _ _ _ _ _ h1)
 ·have hlt:id < σ.H.length:=by rw[←ok.len];exact(yo.1 h1).1
  obtain⟨h3,h4⟩:=to.leaf.map id b h1 h2;exact⟨rn.m _ _ (hf id hlt) _ h3,rn.map (hf id hlt) h4⟩
 ·have hlt:id < σ.H.length:=(yo.1 h1).1;obtain⟨v',st',d',h5,h6,h7⟩:=to.leaf.row _ _ _ _ _ _ h1;obtain⟨d2,h8⟩:=rn.row (hf id hlt) h5;refine⟨v',st',d2,h8,h6,λhv=> ?_⟩;obtain⟨h9,h10⟩:=h7 hv;refine⟨?_,h10⟩;have hmm:∃x,σ.m[id]? =some x:=⟨_,yac (by rw[ok.len];exact hlt)⟩;obtain⟨x,hx⟩:=hmm;rw[hx];exact rn.m _ _ (hf id hlt) _ (by rw[h9];exact hx)
 ·obtain⟨x,h1,h2⟩:=ZaK h;rcases to.same x b h2 with h3|h3
  ·have hlt:x < σ.H.length:=by rw[←ok.len];exact(yo.1 h3).1
   have:=idxOf?_of ho h1;have h4:=hf x hlt;unfold toIds at h4;rw[this] at h4;cases h4;exact .inl h3
  ·exact .inr h3
 ·show σ.m.length≤((yq σ.H.length++keep).map _).length;rw[ok.len];simp
def ZAb(tmps:Array yh):ResultVar→Sem yh
 |.tmp t=>pure (tmps.getD t undef)
 |.cell x t=>do loadVar t (←asAddr (tmps.getD x undef))
theorem ZCh(fn:Func)(tmps:Array yh):results fn tmps=(do let vs ←fn.results.mapM (ZAb tmps);pure (if h:vs.size=1 then vs[0] else .tuple vs)):=by
 unfold results
 have:(λ(rv:ResultVar)=>(match rv with|.tmp t=>pure (tmps.getD t undef)|.cell a t=>do loadVar t (←asAddr (tmps.getD a undef)):Sem yh))=ZAb tmps:=by
  funext rv;cases rv <;> rfl
 exact congrArg (λf=>(do let vs ←fn.results.mapM f;pure (if h:vs.size=1 then vs[0] else .tuple vs):Sem yh)) this
theorem ZlS{σ:Sg}{a:Act}{ts:List Dv}(ok:Ok σ)(hrep:RepT σ ts a):∀(rs:List ResultVar)(hs:List Hint)(C:List Prop)(ds:List Dv),ZuX P ts σ.H rs hs=some (C,ds)→AllP C→
 ∃vs,Sem.run P (rs.mapM (ZAb a.tmps)) σ.w=Result.ok vs σ.w∧repVs σ ds vs
 |[],hs,C,ds,h,_=>by
  simp only[ZuX,yj,yl] at h;obtain⟨rfl,rfl⟩:=h
  exact⟨[],by simp,by simp[repVs]⟩
 |.tmp t::r,hs,C,ds,h,hc=>by
  simp only[ZuX,yp,yl] at h;obtain⟨⟨C1,ds1⟩,h1,rfl,rfl⟩:=h;obtain⟨vs,h2,h3⟩:=ZlS ok hrep r hs C1 ds1 h1 hc;have h4:=Zi (P:=P) hrep 0 (.tmp t);refine⟨a.tmps.getD t undef::vs, ?_, ?_⟩
  ·simp only[List.mapM_cons,ZAb,Sem.run_bind,Sem.run_pure,Result.andThen_ok,h2]
  ·simp only[repVs]
   exact⟨_,_,rfl,h4,h3⟩
 |.cell x t::r,hs,C,ds,h,hc=>by
  simp only[ZuX] at h;split at h
  ·rename_i id off path hx;split at h
   ·rename_i dd st hH;split at h
    ·rename_i C1 off' sub hs1 hg;split at h
     ·rename_i hk;simp only[yp,yl] at h;obtain⟨⟨C2,ds1⟩,h1,rfl,rfl⟩:=h;obtain⟨c1,c2⟩:=Zj.1 hc;obtain⟨c1,c3⟩:=Zj.1 c1;obtain⟨vs,h2,h3⟩:=ZlS ok hrep r hs1 C2 ds1 h1 c2;have hv:=Zi (P:=P) hrep 0 (.tmp x);simp only[Zp,hx] at hv;obtain⟨b,hm,_,hxv⟩:=ZeK hv;unfold okT at hk;simp only[yi,beq_iff_eq] at hk;obtain⟨⟨⟨k1,k2⟩,k3⟩,k4⟩:=hk;obtain⟨cs,t',p1,p2,p3,_,_,_,_,h5,_,h6⟩:=Zm0 ok hm hH hg c1 c3.1;obtain⟨v,h7,h8⟩:=ZeI (P:=P) h5 h6 k1 k4 k3 k2;have hxv':a.tmps.getD x undef=.pointer (some ⟨b,off,none⟩):=hxv;refine⟨v::vs, ?_, ?_⟩
      ·have ha:asAddr (a.tmps.getD x undef)=pure ⟨b,off,none⟩:=by rw[hxv'];rfl
       simp only[List.mapM_cons,ZAb,ha,Sem.run_bind,Sem.run_pure,Result.andThen_ok,h7,h2]
      ·simp only[repVs];exact⟨_,_,rfl,h8,h3⟩
     ·cases h
    ·cases h
   ·cases h
  ·cases h
theorem Zws{σ:Sg}{ds:List Dv}{vs:List yh}(h:repVs σ ds vs):repDV σ (Zr8 ds) (if h:vs.toArray.size=1 then vs.toArray[0] else .tuple vs.toArray):=by
 have hl:=ZoP h;unfold Zr8;split
 ·rename_i d;simp only[repVs] at h;obtain⟨v,vs',rfl,h1,h2⟩:=h;have:vs'=[]:=h2;subst this;have e:(if h:[v].toArray.size=1 then[v].toArray[0] else Value.tuple [v].toArray)=v:=by simp
  rw[e];exact h1
 ·rename_i hne
  have hn:¬vs.toArray.size=1:=by
   intro hs;have hd:ds.length=1:=by rw[←hl];simpa using hs
   match ds,hd with
   |[d],_=>exact hne d rfl
  rw[dif_neg hn,Ze rfl];simp only[repD];exact⟨_,rfl,by simpa using h⟩
theorem ZiQ{g:yu}{fn:Func}{c:Code}{args ts':List Dv}{H H1 H':List Ent}{ex:Ex}{r:Dv}{keep:List Nat}{hs:List Hint}{C:List Prop}(hf:P.funcs[g]? =some fn)(hb:fn.body=some c)
 (hr:YU P c (args++yab (fn.ntmps - args.length) .junk) H ex ts' H1) (hex:ex=.ret∨ex=.normal) (hfin:fin P fn ts' H1 H.length keep hs=some (C,r,H')) (hc:AllP C):Con P g args H r H':=by
 intro σ vs ok hH hvs;refine calls_of_wp hf hb ?_;have hl:=ZoP hvs
 have hrep:RepT σ (args++yab (fn.ntmps - args.length) .junk) { tmps:=vs.toArray++Array.replicate (fn.ntmps - vs.toArray.size) undef,defers:=[]}:=by
  refine⟨by simp[hl],λi d hi=> ?_,rfl⟩;rcases Nat.lt_or_ge i args.length with h1|h1
  ·rw[yah h1] at hi;obtain⟨v,h2,h3⟩:=Zsj hvs hi
   have h4:(vs.toArray++Array.replicate (fn.ntmps - vs.toArray.size) undef)[i]? =some v:=by
    rw[Array.getElem?_append_left (by simpa[hl] using h1)];simpa using h2
   rw[ycv,h4];exact h3
  ·rw[yam h1] at hi;have:=List.eq_of_mem_replicate (List.mem_of_getElem? hi);rw[this];exact YN
 refine wp_mono (hr σ _ ok hH hrep) ?_;rintro e a w' ⟨rfl,σ',rfl,e1,to,ok',hrep'⟩;unfold fin at hfin;split at hfin
 ·rename_i C1 ds hres;dsimp only at hfin
  have main:∀r,(Zr8 ds).rn (toIds (yq H.length++keep))=some r∨(Zr8 (ds.map Dv.arg)).rn (toIds (yq H.length++keep))=some r→once (yq H.length++keep)=true→
   subEnts H1 (yq H.length++keep) (yq H.length++keep)=some H'→AllP C1→a.defers=[]∧∃v,(results fn a.tmps).run P σ'.w=.ok v σ'.w∧
    ∃v0 σ'',(Ending.returned v)=.returned v0∧σ''.w=σ'.w∧σ''.H=H'∧To σ σ''∧Ok σ''∧repDV σ'' r v0:=by
   intro r hrn honce hsub hc1;refine⟨hrep'.defers, ?_⟩;rw[←e1] at hres hsub;obtain⟨vs',h2,h3⟩:=ZlS (P:=P) ok' hrep' _ _ _ _ hres hc1
   refine⟨if h:vs'.toArray.size=1 then vs'.toArray[0] else .tuple vs'.toArray, ?_,if h:vs'.toArray.size=1 then vs'.toArray[0] else .tuple vs'.toArray,
    ZhE σ' (yq H.length++keep) H',rfl,rfl,rfl, ?_,Zm6 ok' honce hsub, ?_⟩
   ·rw[ZCh,Sem.run_bind, ←Array.toArray_toList (xs:=fn.results),List.mapM_toArray];simp only[Sem.run_map,h2,Result.andThen_ok,Sem.run_pure]
   ·rw[←hH] at honce hsub ⊢;exact ZrR ok to honce hsub
   ·rcases hrn with hrn|hrn
    ·exact Zdo (ZcF hsub) hrn (Zws h3)
    ·refine Zdo (ZcF hsub) hrn (Zws ?_);exact ZGx h3
  have main':bodyPost P fn (λe w'=>∃v σ'',e=.returned v∧σ''.w=w'∧σ''.H=H'∧To σ σ''∧Ok σ''∧repDV σ'' r v) ex.to a σ'.w:=by
   have hall:a.defers=[]∧∃v,(results fn a.tmps).run P σ'.w=.ok v σ'.w∧∃v0 σ'',(Ending.returned v)=.returned v0∧σ''.w=σ'.w∧σ''.H=H'∧To σ σ''∧Ok σ''∧repDV σ'' r v0:=by
    split at hfin
    ·rename_i ho hrn hsub;simp only[yj,yl] at hfin;obtain⟨rfl,rfl,rfl⟩:=hfin;exact main _ (.inl hrn) ho hsub hc
    ·rename_i ho hrn _ hsub;simp only[yj,yl] at hfin;obtain⟨rfl,rfl,rfl⟩:=hfin;exact main _ (.inr hrn) ho hsub hc
    ·cases hfin
   rcases hex with rfl|rfl
   ·exact hall
   ·exact hall
  exact main'
 ·cases hfin
end
end Go.Ev
end
section
namespace Go.Ev
theorem ZsK{P:yg}{c:Code}{ts ts':List Dv}{H H':List Ent}{ex:Ex}{hs hs':List Hint}{C:List Prop}(h:ev P c ts H hs=some (C,ex,ts',H',hs'))(hc:AllP C):YU P c ts H ex ts' H':=
 QJ c _ _ _ _ _ _ _ _ h hc
def ZA:Code→List Code
 |.seq a b=>ZA a++ZA b
 |.cond _ a b=>ZA a++ZA b
 |.block _ a=>ZA a
 |.scope a=>ZA a
 |.loop a=>.loop a::ZA a
 |_=>[]
def ZGR(P:yg)(g i:Nat):Code:=
 match P.funcs[g]? with
 |some fn=>match fn.body with
  |some c=>(ZA c).getD i .skip
  |none=>.skip
 |none=>.skip
def ZLr:Code→Code
 |.loop a=>a
 |c=>c
def ZaL(P:yg)(g i:Nat):Code:=ZLr (ZGR P g i)
def u8(b:UInt8):Pl:=.int .u8 (b.toNat:Int)
theorem ZsL{f:Nat→Option Nat}{σ σ':Sg}(h:Rn f σ σ'){ts ts':List Dv}{a:Act}(e:Dv.rns f ts=some ts')(hr:RepT σ ts a):RepT σ' ts' a:=by
 refine⟨by rw[ZlK e];exact hr.size, ?_,hr.defers⟩
 have key:∀(xs ys:List Dv),Dv.rns f xs=some ys→∀(i:Nat)(d:Dv),ys[i]? =some d→∃d0,xs[i]? =some d0∧d0.rn f=some d:=by
  intro xs
  induction xs with
  |nil=>
   intro ys h1 i d h2;simp only[Dv.rns,yj] at h1;subst h1
   simp at h2
  |cons x r ih=>
   intro ys h1 i d h2;simp only[Dv.rns] at h1;split at h1
   ·rename_i y ys' h3 h4;cases h1
    cases i with
    |zero=>simp only[ybh,yj] at h2 ⊢;subst h2;exact⟨x,rfl,h3⟩
    |succ j=>simp only[yar] at h2 ⊢;exact ih _ h4 j d h2
   ·cases h1
 intro i d hd;obtain⟨d0,h1,h2⟩:=key ts ts' e i d hd;exact Zdo h h2 (hr.at_ i d0 h1)
theorem Zwt{P:yg}{body:Code}{ts ts1 ts2:List Dv}{H H1 H2:List Ent}{ex:Ex}(mask keep:List Nat)(h1:YU P body ts H ex ts1 H1)
 (ho:once (yq H.length++keep)=true) (hin:subEnts H1 (yq H.length++keep) (yq H.length++keep)=some H2)
 (e:Dv.rns (toIds (yq H.length++keep)) (ZmR ts1 mask)=some ts2):YU P body ts H ex ts2 H2:=by
 intro σ a ok hH hrep;subst hH;refine wp_mono (h1 σ a ok rfl hrep) ?_;rintro e' a' w' ⟨rfl,σ1,rfl,e1,to1,ok1,hrep1⟩;subst e1;exact⟨rfl,ZhE σ1 (yq σ.H.length++keep) H2,rfl,rfl,ZrR ok to1 ho hin,Zm6 ok1 ho hin,ZsL (ZcF hin) e (ZeN (mask:=mask) hrep1)⟩
end Go.Ev
namespace Go.Ev
theorem ZDY{P:yg}{g:yu}{args args':List Dv}{H H0 H':List Ent}{r:Dv}(h:Con P g args' H0 r H')(ha:WkL args args')(hH:WkH H H0):Con P g args H r H':=by
 intro σ vs ok e hr;subst e;obtain⟨to,ok'⟩:=ZkY ok hH;refine Calls.mono (h { σ with H:=H0} vs ok' rfl (ha.vs ?_)) ?_
 ·have:=to.leaf;clear ok' h;have key:∀(l:List Dv)(us:List yh),repVs σ l us→repVs { σ with H:=H0} l us:=λl us q=>repVs_leaf this l us q;exact key _ _ hr
 ·rintro e w' ⟨v,σ',h1,h2,h3,h4,h5,h6⟩;exact⟨v,σ',h1,h2,h3,to.trans h4,h5,h6⟩
theorem ZAc{P:yg}{g:yu}{args:List Dv}{H H1 H':List Ent}{r r':Dv}(h:Con P g args H r H1)(hr:Wk r r')(hH:WkH H1 H'):Con P g args H r' H':=by
 intro σ vs ok e hv;refine Calls.mono (h σ vs ok e hv) ?_;rintro e w' ⟨v,σ',h1,h2,h3,h4,h5,h6⟩;subst h3;obtain⟨to,ok'⟩:=ZkY h5 hH;exact⟨v,{ σ' with H:=H'},h1,h2,rfl,h4.trans to,ok',hr.dv (Wc to.leaf h6)⟩
theorem Zwu{P:yg}{c:Code}{ts ts1 ts2:List Dv}{H H1 H2:List Ent}{ex:Ex}(h:YU P c ts H ex ts1 H1)(ht:WkL ts1 ts2)(hH:WkH H1 H2):YU P c ts H ex ts2 H2:=by
 intro σ a ok e hr;refine wp_mono (h σ a ok e hr) ?_;rintro e' a' w' ⟨h1,σ',rfl,h3,h4,h5,h6⟩;subst h3;obtain⟨to,ok'⟩:=ZkY h5 hH;exact⟨h1,{ σ' with H:=H2},rfl,rfl,h4.trans to,ok',ht.repT (h6.to to.leaf)⟩
end Go.Ev
namespace Go.Ev
theorem ite_some{α:Type}{c:Prop}[Decidable c]{a:Option α}{r:α}(h:(if c then a else none)=some r):c∧a=some r:=by
 by_cases hc:c
 ·rw[if_pos hc] at h;exact⟨hc,h⟩
 ·rw[if_neg hc] at h;cases h
theorem ZDZ{α β:Type}{f:α→β}(hf:∀a b,f a=f b→a=b):∀{l m:List α},l.map f=m.map f→l=m
 |[],[],_=>rfl
 |[],_::_,h=>by simp at h
 |_::_,[],h=>by simp at h
 |x::l,y::m,h=>by
  simp only[yad,List.cons.injEq] at h;rw[hf _ _ h.1,ZDZ hf h.2]
instance(k:IntKind)(x:Int):Decidable (Wd k x):=by unfold Wd;exact inferInstance
theorem Zm7{P:yg}{R R':yb→Pl→Prop}(h:∀t x,R t x→R' t x):∀(fs:List Field)(o:Nat)(xs:List Pl),ZfY P R fs o xs→ZfY P R' fs o xs
 |[],_,[],_=>trivial
 |[],_,_::_,k=>k.elim
 |_::_,_,[],k=>k.elim
 |f::fs,o,y::ys,k=>by
  obtain⟨a1,a2,a3,a4,a5,a6,a7,a8,a9⟩:=k;exact⟨a1,a2,a3,a4,a5,a6,a7,h _ _ a8,Zm7 h fs _ ys a9⟩
theorem ZrS{P:yg}:∀{n:Nat}{t:yb}{x:Pl},fitP P n t x→fitP P (n+1) t x
 |0,t,x,h=>by simp[fitP] at h
 |n+1,t,x,h=>by
  unfold fitP at h ⊢;split at h
  ·trivial
  ·exact h
  ·obtain⟨a1,a2,a3,a4,a5,a6⟩:=h;exact⟨a1,a2,a3,a4,a5,λy hy=>⟨ZrS (a6 y hy).1,(a6 y hy).2⟩⟩
  ·exact⟨h.1,Zm7 (λt x k=>ZrS k) _ _ _ h.2⟩
  ·exact h.elim
theorem ZD0{P:yg}{g:yu}{s:Nat}{xs:List Pl}{H H':List Ent}{r:Dv}{rest:List Dv}(h1:Con P g (.p (.sl (some true) s xs)::rest) H r H')(h2:xs=[]→Con P g (.p (.sl (some false) s [])::rest) H r H'):
 Con P g (.p (.sl none s xs)::rest) H r H':=by
 intro σ vs ok e hr;simp only[repVs] at hr;obtain⟨v,vs',rfl,hv,hrest⟩:=hr;obtain⟨k1,A,c,rfl,k2,k3,k4,k5,k6⟩:=Y9 hv
 cases hA:A with
 |none=>
  have hx:xs=[]:=by
   cases xs with
   |nil=>rfl
   |cons x r=>obtain⟨b,o,us,hh,_⟩:=k6 (by simp);rw[hA] at hh;cases hh
  subst hx;subst hA;refine h2 rfl σ _ ok e ?_;simp only[repVs]
  exact⟨_,_,rfl,Z7 k1 k2 k3 (Zr7 rfl) k5 (λh=>absurd rfl h),hrest⟩
 |some a=>
  subst hA;refine h1 σ _ ok e ?_;simp only[repVs];exact⟨_,_,rfl,Z7 k1 k2 k3 (Qh rfl) k5 k6,hrest⟩
end Go.Ev
namespace Go.Ev
end Go.Ev
namespace Go.Ev
def st(n:Nat)(l:List (Nat×Dv)):List Dv:=(yq n).map λi=>(l.lookup i).getD .junk
end Go.Ev
end
section
namespace Go.Ev
section
variable{K V:Type}[DecidableEq K]
def kvl(ek:K→Pl)(ev:V→Pl)(l:List (K×V)):List (Pl×Pl):=l.map λq=>(ek q.1,ev q.2)
def ZiR:List (K×V)→K→Option V
 |[],_=>none
 |q::l,k=>if k=q.1 then some q.2 else ZiR l k
def ZlT:List (K×V)→K→V→List (K×V)
 |[],k,v=>[(k,v)]
 |q::l,k,v=>if k=q.1 then(k,v)::l else q::ZlT l k v
def ZAd:List (K×V)→K→List (K×V)
 |[],_=>[]
 |q::l,k=>if k=q.1 then l else q::ZAd l k
theorem ZlU{ek:K→Pl}{ev:V→Pl}(hi:∀x y,ek x=ek y↔x=y)(k:K):∀l:List (K×V),X6 (kvl ek ev l) (ek k) ((ZiR l k).map ev)
 |[]=>rfl
 |q::l=>by
  show X6 ((ek q.1,ev q.2)::kvl ek ev l) (ek k) _;unfold X6 ZiR;by_cases h:k=q.1
  ·left;rw[if_pos h];exact⟨(hi _ _).2 h,rfl⟩
  ·right;rw[if_neg h];exact⟨λhh=>h ((hi _ _).1 hh),ZlU hi k l⟩
theorem ZCi{ek:K→Pl}{ev:V→Pl}(hi:∀x y,ek x=ek y↔x=y){k:K}{l:List (K×V)}{v:V}(h:ZiR l k=some v):X6 (kvl ek ev l) (ek k) (some (ev v)):=by
 have:=ZlU (ev:=ev) hi k l;rw[h] at this;exact this
theorem ZCj{ek:K→Pl}{ev:V→Pl}(hi:∀x y,ek x=ek y↔x=y){k:K}{l:List (K×V)}(h:(ZiR l k).isSome=false):X6 (kvl ek ev l) (ek k) none:=by
 have:=ZlU (ev:=ev) hi k l
 cases hm:ZiR l k with
 |none=>rw[hm] at this;exact this
 |some v=>rw[hm] at h;cases h
theorem ZlV{ek:K→Pl}{ev:V→Pl}(hi:∀x y,ek x=ek y↔x=y)(k:K)(v:V):∀l:List (K×V),VG (kvl ek ev l) (ek k) (ev v) (kvl ek ev (ZlT l k v))
 |[]=>rfl
 |q::l=>by
  show VG ((ek q.1,ev q.2)::kvl ek ev l) (ek k) (ev v) _;unfold VG ZlT;by_cases h:k=q.1
  ·left;rw[if_pos h];exact⟨(hi _ _).2 h,rfl⟩
  ·right;rw[if_neg h];exact⟨λhh=>h ((hi _ _).1 hh),_,rfl,ZlV hi k v l⟩
theorem ZsM{ek:K→Pl}{ev:V→Pl}(hi:∀x y,ek x=ek y↔x=y)(k:K):∀l:List (K×V),ZbB (kvl ek ev l) (ek k) (kvl ek ev (ZAd l k))
 |[]=>rfl
 |q::l=>by
  show ZbB ((ek q.1,ev q.2)::kvl ek ev l) (ek k) _;unfold ZbB ZAd;by_cases h:k=q.1
  ·left;rw[if_pos h];exact⟨(hi _ _).2 h,rfl⟩
  ·right;rw[if_neg h];exact⟨λhh=>h ((hi _ _).1 hh),_,rfl,ZsM hi k l⟩
end
theorem Zf5{K V:Type}{P:yg}{kt:yb}{ek:K→Pl}{ev:V→Pl}(h:∀x,fitP P 20 kt (ek x))(l:List (K×V)):Qi P kt (kvl ek ev l):=by
 intro q hq;obtain⟨p,_,rfl⟩:=List.mem_map.1 hq;exact h _
end Go.Ev
namespace Go.Ev
theorem ZAe{P:yg}{g:yu}{s:Nat}{e:yb}{H H':List Ent}{r:Dv}{rest:List Dv}(h:Con P g (.own H.length none s []::rest) (H++[.log s e []]) r H'):
 Con P g (.p (.sl (some false) s [])::rest) H r H':=by
 intro σ vs ok eH hr;simp only[repVs] at hr;obtain⟨v,vs',rfl,hv,hrest⟩:=hr;obtain rfl:=Zp0 hv;subst eH;obtain⟨to,ok'⟩:=Xz (σ':={ σ with m:=σ.m++[none],H:=σ.H++[.log s e []]}) ok rfl rfl rfl rfl (World.grownBy.refl σ.w none) (.inl rfl) (λ_=>.inl ⟨rfl,rfl⟩);refine(h { σ with m:=σ.m++[none],H:=σ.H++[.log s e []]} (.slice none 0 0::vs') ok' rfl ?_).mono λex w'⟨v,σ',h1,h2,h3,h4,h5,h6⟩=>⟨v,σ',h1,h2,h3,to.trans h4,h5,h6⟩;simp only[repVs];refine⟨_,_,rfl,(Ze (d:=.own σ.H.length none s []) rfl).2 ?_,repVs_leaf to.leaf _ _ hrest⟩;simp only[repD];refine⟨λ_ hx=>(by cases hx),none,0,rfl,ym _,by simp[maxLen],ZY _,λ_=>rfl,λh=>absurd rfl h,e,[],by simp,ym _,λ_=>.inl ⟨?_,rfl,rfl⟩⟩;rw[yam (by rw[ok.len];exact ym _),ok.len];simp
end Go.Ev
namespace Go.Ev
end Go.Ev
end
section
namespace Go.Ev
inductive DeepR(H:List Ent):Dv→Pl→Prop where
 |p (x:Pl):DeepR H (.p x) x
 |own (id:Nat) (nn:Option Bool) (s:Nat) (xs:List Pl):DeepR H (.own id nn s xs) (.sl nn s xs)
 |agg {ds:List Dv} {ys:List Pl} (hl:ds.length=ys.length) (h:∀(i:Nat)(d:Dv)(y:Pl),ds[i]? =some d→ys[i]? =some y→DeepR H d y):DeepR H (.agg ds) (.agg ys)
 |rvp {id v s lo n N:Nat} {e:yb} {xs:List Pl} (hH:H[id]? =some (.row v s false e (.p (.arr N s xs)))) (hle:lo+n≤N):DeepR H (.rv id v s lo n) (.sl none s ((xs.drop lo).take n))
 |rva {id v s lo n N:Nat} {e:yb} {ds:List Dv} {ys:List Pl} (hH:H[id]? =some (.row v s false e (.arr N s ds))) (hle:lo+n≤N) (hl:ds.length=ys.length)
   (h:∀(i:Nat)(d:Dv)(y:Pl),ds[i]? =some d→ys[i]? =some y→DeepR H d y):DeepR H (.rv id v s lo n) (.sl none s ((ys.drop lo).take n))
 |vw {id s lo n N:Nat} {xs:List Pl} (hH:H[id]? =some (.var (.p (.arr N s xs)) false)) (hle:lo+n≤N):DeepR H (.view id 0 [] s lo n) (.sl (some true) s ((xs.drop lo).take n))
 |wk {d:Dv} {x y:Pl} (h:DeepR H d x) (k:PlWk x y):DeepR H d y
theorem ZoY{σ:Sg}:∀{ds:List Dv}{ys:List Pl}{us:List yh},ds.length=ys.length→(∀(i:Nat)(d:Dv)(y:Pl),ds[i]? =some d→ys[i]? =some y→∀vs,repD σ d vs→repC σ.w σ.stab y vs)→repDs σ ds us→repCs σ.w σ.stab ys us
 |[],[],us,_,_,h=>by simpa[repDs,repCs] using h
 |[],_::_,_,hl,_,_=>by simp at hl
 |_::_,[],_,hl,_,_=>by simp at hl
 |d::ds,y::ys,us,hl,hk,h=>by
  simp only[repDs] at h;obtain⟨a,b,h1,h2,h3⟩:=h;simp only[repCs];exact⟨a,b,h1,hk 0 d y rfl rfl a h2,ZoY (by simpa using hl) (λi d y h4 h5=>hk (i+1) d y (by simpa using h4) (by simpa using h5)) h3⟩
theorem ZAf{σ:Sg}(ok:Ok σ){id v s lo n N:Nat}{e:yb}{dd:Dv}{xs:List Pl}{u:yh}(hx:repDV σ (.rv id v s lo n) u)(hH:σ.H[id]? =some (.row v s false e dd))(hN:rowN dd s=some N)(hle:lo+n≤N)
 (hd:∀us,repD σ dd us→xs.length=N∧allSz s xs∧repCs σ.w σ.stab xs us):repDV σ (.p (.sl none s ((xs.drop lo).take n))) u:=by
 obtain⟨A,c,rfl,h2,h3,h4,h5,v2,s2,st2,e2,d2,h6,h7,h8⟩:=Zfw hx;rw[hH] at h6;cases h6;obtain⟨_,h9⟩:=h8 rfl;have hidlt:id < σ.m.length:=by rw[ok.len];exact(yo.1 hH).1
 have hmi:σ.m[id]? =some σ.m[id]:=yac hidlt;obtain⟨N',hN',hent⟩:=ok.ent id _ _ hH hmi;rw[hN] at hN';cases hN';by_cases hn:n=0
 ·subst hn;have:=Z7 (σ:=σ) (nn:=none) (s:=s) (xs:=[]) (A:=A) (c:=c) (λ_ hx=>by cases hx) (by simp) h3 (ZY _) h4 (λh=>absurd rfl h);simpa using this
 have hpos:0 < n:=Nat.pos_of_ne_zero hn;rcases h9 with⟨_,_,hz⟩|⟨b,cur,k1,k2,k3,k4⟩
 ·omega
 rw[hmi] at k1;rcases hent with⟨hh,_⟩|⟨b',cur',cap,hh,g2,g4,g5,g6,g7⟩
 ·rw[hh] at k1;cases k1
 rw[hh] at k1;cases k1;rw[k2] at g2;cases g2;obtain⟨hxl,hxs,h7⟩:=hd _ g7
 have hsplit:xs=xs.take lo++((xs.drop lo).take n++xs.drop (lo+n)):=by
  have e1:xs.drop (lo+n)=(xs.drop lo).drop n:=by rw[List.drop_drop]
  rw[e1,ybf,ybf]
 rw[hsplit] at h7;obtain⟨q1,q23,e1,r1,r23⟩:=Z0 h7;obtain⟨q2,q3,rfl,r2,r3⟩:=Z0 r23;have hsy:allSz s ((xs.drop lo).take n):=λz hz=>hxs z (List.mem_of_mem_drop (ybn hz));have ly:((xs.drop lo).take n).length=n:=by rw[yae,List.length_drop,yav (by omega)]
 have l1:q1.length=lo*s:=by rw[repCs_size _ _ r1,sizes_all (λz hz=>hxs z (ybn hz)),yae,yav (by omega)]
 have hmk:=Z7 (σ:=σ) (nn:=none) (A:=A) (c:=c) hsy (by rw[ly];exact h2) h3 (ZY _) h4 (λ_=>by
  refine⟨b,lo*s,q2,k4 (by omega),r2,λj u hu=>⟨?_,.inr (ok.own id b (by rw[hmi,hh])),λj' e' g1 g2=> ?_⟩⟩
  ·rw[cell_of_row σ.w b _ cur e (0,0) k2, ←ybr];have hj:j < q2.length:=(yo.1 hu).1
   have e2:(cur.toList.take (N*s))[lo*s+j]? =some u:=by
    rw[e1,yam (by omega),l1,Nat.add_sub_cancel_left,yah hj];exact hu
   rw[ycd] at e2;split at e2
   ·exact e2
   ·cases e2
  ·have:j'=id:=ok.inj j' id b g1 (by rw[hmi,hh]);subst this;rw[hH] at g2;cases g2;refine⟨rfl,N,hN, ?_⟩;have hj:=(yo.1 hu).1;have l2:q2.length=n*s:=by rw[repCs_size _ _ r2,sizes_all hsy,ly]
   have h9:(lo+n)*s≤N*s:=Nat.mul_le_mul_right _ hle;rw[l2] at hj;rw[Nat.add_mul] at h9;omega)
 rw[ly] at hmk;exact hmk
theorem ZGS{σ:Sg}(ok:Ok σ){id s lo n N:Nat}{xs:List Pl}{u:yh}(hx:repDV σ (.view id 0 [] s lo n) u)(hH:σ.H[id]? =some (.var (.p (.arr N s xs)) false))(hle:lo+n≤N):repDV σ (.p (.sl (some true) s ((xs.drop lo).take n))) u:=by
 obtain⟨b,c,a,hm,_,rfl,h2,h3,h4⟩:=Zdp hx;obtain⟨b',cs,t',h5,h6,h7,h8⟩:=ok.ent id _ _ hH hm;cases h5;simp only[repD,repC] at h7;obtain⟨hxl,hxs,h7⟩:=h7
 have hsplit:xs=xs.take lo++((xs.drop lo).take n++xs.drop (lo+n)):=by
  have e1:xs.drop (lo+n)=(xs.drop lo).drop n:=by rw[List.drop_drop]
  rw[e1,ybf,ybf]
 rw[hsplit] at h7;obtain⟨q1,q23,e1,r1,r23⟩:=Z0 h7;obtain⟨q2,q3,rfl,r2,r3⟩:=Z0 r23;have hsy:allSz s ((xs.drop lo).take n):=λz hz=>hxs z (List.mem_of_mem_drop (ybn hz));have ly:((xs.drop lo).take n).length=n:=by rw[yae,List.length_drop,yav (by omega)]
 have l1:q1.length=lo*s:=by rw[repCs_size _ _ r1,sizes_all (λz hz=>hxs z (ybn hz)),yae,yav (by omega)]
 have hmk:=Z7 (σ:=σ) (nn:=some true) (A:=some a) (c:=c) hsy (by rw[ly];exact h2) h3 (Qh rfl) (λh=>by cases h) (λhne=>by
  have hpos:0 < n:=by
   rcases Nat.eq_zero_or_pos n with h0|h0
   ·exact absurd (yaz (ly.trans h0)) hne
   ·exact h0
  refine⟨b,0+lo*s,q2,by rw[h4 hpos],r2,λj u hu=>⟨?_,.inr (ok.own id b hm),λj' e' g1 g2=> ?_⟩⟩
  ·rw[cell_of_row σ.w b _ cs t' (0,0) h6, ←ybr];have hj:j < q2.length:=(yo.1 hu).1
   have e3:∀m,cs.toList.take m=q1++(q2++q3)→(cs.toList.take m)[lo*s+j]? =some u:=λm e1=>by
    rw[e1,yam (by omega),l1,Nat.add_sub_cancel_left,yah hj];exact hu
   have e2:=e3 _ e1;rw[ycd] at e2;rw[Nat.zero_add];split at e2
   ·exact e2
   ·cases e2
  ·have:j'=id:=ok.inj j' id b g1 hm;subst this;rw[hH] at g2;cases g2;rfl)
 rw[ly] at hmk;exact hmk
theorem ZsN{σ:Sg}(ok:Ok σ){d:Dv}{x:Pl}(h:DeepR σ.H d x):∀vs,repD σ d vs→repC σ.w σ.stab x vs:=by
 induction h with
 |p x=>intro vs hr;simpa[repD] using hr
 |own id nn s xs=>
  intro vs hr;have hv:∃v,vs=[v]:=by simp only[repD] at hr;obtain⟨_,A,c,rfl,_⟩:=hr;exact⟨_,rfl⟩
  obtain⟨v,rfl⟩:=hv;have:=Vn ((Ze (by rfl)).2 hr);rw[Ze (by rfl)] at this
  simpa[repD] using this
 |agg hl h ih=>
  intro vs hr;simp only[repD] at hr;simp only[repC]
  exact ZoY hl ih hr
 |rvp hH hle=>
  intro vs hr;have hv:∃v,vs=[v]:=by simp only[repD] at hr;obtain⟨A,c,rfl,_⟩:=hr;exact⟨_,rfl⟩
  obtain⟨v,rfl⟩:=hv;have:=ZAf ok ((Ze (by rfl)).2 hr) hH (by simp[rowN]) hle (λus h=>by simp only[repD,repC] at h;exact h);rw[Ze (by rfl)] at this
  simpa[repD] using this
 |rva hH hle hl h ih=>
  rename_i id v s lo n N e ds ys;intro vs hr;have hv:∃v,vs=[v]:=by simp only[repD] at hr;obtain⟨A,c,rfl,_⟩:=hr;exact⟨_,rfl⟩
  obtain⟨v,rfl⟩:=hv
  have:=ZAf (xs:=ys) ok ((Ze (by rfl)).2 hr) hH (by simp[rowN]) hle (λus h=>by
   simp only[repD] at h;obtain⟨h1,h2,h3⟩:=h;refine⟨by rw[←hl];exact h1, ?_,ZoY hl ih h3⟩;intro y hy;obtain⟨i,hi⟩:=List.getElem?_of_mem hy;have hlt:i < ds.length:=by rw[hl];exact(yo.1 hi).1
   have hd:=yac hlt;obtain⟨a,b,c,e1,l1,r2,_⟩:=Zdn h3 hd;have q1:=Xe _ _ (ih i _ y hd hi b r2);have q2:=YZ _ _ r2;rw[←q1,q2];exact h2 _ (List.mem_of_getElem? hd))
  rw[Ze (by rfl)] at this
  simpa[repD] using this
 |vw hH hle=>
  intro vs hr;have hv:∃v,vs=[v]:=by simp only[repD] at hr;obtain⟨b,c,a,_,_,rfl,_⟩:=hr;exact⟨_,rfl⟩
  obtain⟨v,rfl⟩:=hv;have:=ZGS ok ((Ze (by rfl)).2 hr) hH hle;rw[Ze (by rfl)] at this
  simpa[repD] using this
 |wk h k ih=>intro vs hr;exact k.rep _ _ _ (ih vs hr)
theorem ZD1{σ:Sg}(ok:Ok σ){d:Dv}{x:Pl}(h:DeepR σ.H d x){v:yh}(hr:repDV σ d v):repDV σ (.p x) v:=by
 have ha:d.isAgg=x.isAgg:=by
  have key:∀{d:Dv}{x:Pl},DeepR σ.H d x→d.isAgg=x.isAgg:=by
   intro d x h
   induction h with
   |p x=>rfl
   |own=>rfl
   |agg=>rfl
   |rvp=>rfl
   |rva=>rfl
   |vw=>rfl
   |wk h k ih=>rw[←k.agg];exact ih
  exact key h
 obtain⟨h1,h2⟩:=hr;refine⟨λq=> ?_,λq=> ?_⟩
 ·obtain⟨cs,e1,e2⟩:=h1 (by rw[ha];exact q);exact⟨cs,e1,by simp only[repD];exact ZsN ok h _ e2⟩
 ·simp only[repD];exact ZsN ok h _ (h2 (by rw[ha];exact q))
inductive DeepP(H:List Ent):Dv→Dv→Prop where
 |refl (d:Dv):DeepP H d d
 |deep {d:Dv} {x:Pl} (h:DeepR H d x):DeepP H d (.p x)
inductive DeepL(H:List Ent):List Dv→List Dv→Prop where
 |nil:DeepL H [] []
 |cons {d e:Dv} {ds es:List Dv} (h:DeepP H d e) (k:DeepL H ds es):DeepL H (d::ds) (e::es)
theorem ZAg{σ:Sg}(ok:Ok σ){d e:Dv}(h:DeepP σ.H d e){v:yh}(hr:repDV σ d v):repDV σ e v:=by
 cases h with
 |refl=>exact hr
 |deep h=>exact ZD1 ok h hr
theorem ZGT{σ:Sg}(ok:Ok σ){ds es:List Dv}(h:DeepL σ.H ds es):∀{vs:List yh},repVs σ ds vs→repVs σ es vs:=by
 induction h with
 |nil=>intro vs h;exact h
 |cons h k ih=>
  intro vs hr;simp only[repVs] at hr ⊢;obtain⟨v,vs',h1,h2,h3⟩:=hr;exact⟨v,vs',h1,ZAg ok h h2,ih h3⟩
inductive DeepT(H:List Ent):Dv→Dv→Prop where
 |one {d e:Dv} (h:DeepP H d e):DeepT H d e
 |tup {ds es:List Dv} (h:DeepL H ds es):DeepT H (.tup ds) (.tup es)
theorem ZGU{P:yg}{g:yu}{args:List Dv}{H H1 H':List Ent}{r r':Dv}(h:Con P g args H r H1)(hH:WkH H1 H')(hr:DeepT H' r r'):Con P g args H r' H':=by
 intro σ vs ok e hv;refine Calls.mono (h σ vs ok e hv) ?_;rintro e w' ⟨v,σ',h1,h2,h3,h4,h5,h6⟩;subst h3;obtain⟨to,ok'⟩:=ZkY h5 hH;have h7:=Wc to.leaf h6;refine⟨v,{ σ' with H:=H'},h1,h2,rfl,h4.trans to,ok', ?_⟩
 cases hr with
 |one hr=>exact ZAg ok' hr h7
 |tup hr=>
  rw[Ze rfl] at h7 ⊢;simp only[repD] at h7 ⊢;obtain⟨cs,e1,e2⟩:=h7;exact⟨cs,e1,ZGT ok' hr e2⟩
inductive Ty where
 |int (k:IntKind)
 |u8|u32|u64
 |bool
 |str
 |sl (t:Ty)
 |arr (n:Nat) (t:Ty)
 |st (fs:List Ty)
 deriving Inhabited
mutual
def Ty.den:Ty→Type
 |.int _=>Int
 |.u8=>UInt8
 |.u32=>UInt32
 |.u64=>UInt64
 |.bool=>Bool
 |.str=>ByteArray
 |.sl t=>List (Ty.den t)
 |.arr _ t=>List (Ty.den t)
 |.st fs=>Ty.dens fs
def Ty.dens:List Ty→Type
 |[]=>Unit
 |[t]=>Ty.den t
 |t::u::r=>Ty.den t×Ty.dens (u::r)
end
mutual
def Ty.size:Ty→Nat
 |.arr n t=>n*Ty.size t
 |.st fs=>Ty.sizes fs
 |_=>1
def Ty.sizes:List Ty→Nat
 |[]=>0
 |t::r=>Ty.size t+Ty.sizes r
end
mutual
def Ty.dec:(a b:Ty)→Decidable (a=b)
 |.int k,.int l=>if h:k=l then isTrue (by rw[h]) else isFalse (by intro e;cases e;exact h rfl)
 |.u8,.u8=>isTrue rfl
 |.u32,.u32=>isTrue rfl
 |.u64,.u64=>isTrue rfl
 |.bool,.bool=>isTrue rfl
 |.str,.str=>isTrue rfl
 |.sl t,.sl u=>match Ty.dec t u with
  |isTrue h=>isTrue (by rw[h])
  |isFalse h=>isFalse (by intro e;cases e;exact h rfl)
 |.arr n t,.arr m u=>if k:n=m then match Ty.dec t u with
  |isTrue h=>isTrue (by rw[h,k])
  |isFalse h=>isFalse (by intro e;cases e;exact h rfl) else isFalse (by intro e;cases e;exact k rfl)
 |.st fs,.st gs=>match Ty.decs fs gs with
  |isTrue h=>isTrue (by rw[h])
  |isFalse h=>isFalse (by intro e;cases e;exact h rfl)
 |.int _,.u8=>isFalse nofun
 |.int _,.u32=>isFalse nofun
 |.int _,.u64=>isFalse nofun
 |.int _,.bool=>isFalse nofun
 |.int _,.str=>isFalse nofun
 |.int _,.sl _=>isFalse nofun
 |.int _,.arr _ _=>isFalse nofun
 |.int _,.st _=>isFalse nofun
 |.u8,.int _=>isFalse nofun
 |.u8,.u32=>isFalse nofun
 |.u8,.u64=>isFalse nofun
 |.u8,.bool=>isFalse nofun
 |.u8,.str=>isFalse nofun
 |.u8,.sl _=>isFalse nofun
 |.u8,.arr _ _=>isFalse nofun
 |.u8,.st _=>isFalse nofun
 |.u32,.int _=>isFalse nofun
 |.u32,.u8=>isFalse nofun
 |.u32,.u64=>isFalse nofun
 |.u32,.bool=>isFalse nofun
 |.u32,.str=>isFalse nofun
 |.u32,.sl _=>isFalse nofun
 |.u32,.arr _ _=>isFalse nofun
 |.u32,.st _=>isFalse nofun
 |.u64,.int _=>isFalse nofun
 |.u64,.u8=>isFalse nofun
 |.u64,.u32=>isFalse nofun
 |.u64,.bool=>isFalse nofun
 |.u64,.str=>isFalse nofun
 |.u64,.sl _=>isFalse nofun
 |.u64,.arr _ _=>isFalse nofun
 |.u64,.st _=>isFalse nofun
 |.bool,.int _=>isFalse nofun
 |.bool,.u8=>isFalse nofun
 |.bool,.u32=>isFalse nofun
 |.bool,.u64=>isFalse nofun
 |.bool,.str=>isFalse nofun
 |.bool,.sl _=>isFalse nofun
 |.bool,.arr _ _=>isFalse nofun
 |.bool,.st _=>isFalse nofun
 |.str,.int _=>isFalse nofun
 |.str,.u8=>isFalse nofun
 |.str,.u32=>isFalse nofun
 |.str,.u64=>isFalse nofun
 |.str,.bool=>isFalse nofun
 |.str,.sl _=>isFalse nofun
 |.str,.arr _ _=>isFalse nofun
 |.str,.st _=>isFalse nofun
 |.sl _,.int _=>isFalse nofun
 |.sl _,.u8=>isFalse nofun
 |.sl _,.u32=>isFalse nofun
 |.sl _,.u64=>isFalse nofun
 |.sl _,.bool=>isFalse nofun
 |.sl _,.str=>isFalse nofun
 |.sl _,.arr _ _=>isFalse nofun
 |.sl _,.st _=>isFalse nofun
 |.arr _ _,.int _=>isFalse nofun
 |.arr _ _,.u8=>isFalse nofun
 |.arr _ _,.u32=>isFalse nofun
 |.arr _ _,.u64=>isFalse nofun
 |.arr _ _,.bool=>isFalse nofun
 |.arr _ _,.str=>isFalse nofun
 |.arr _ _,.sl _=>isFalse nofun
 |.arr _ _,.st _=>isFalse nofun
 |.st _,.int _=>isFalse nofun
 |.st _,.u8=>isFalse nofun
 |.st _,.u32=>isFalse nofun
 |.st _,.u64=>isFalse nofun
 |.st _,.bool=>isFalse nofun
 |.st _,.str=>isFalse nofun
 |.st _,.sl _=>isFalse nofun
 |.st _,.arr _ _=>isFalse nofun
def Ty.decs:(a b:List Ty)→Decidable (a=b)
 |[],[]=>isTrue rfl
 |t::r,u::q=>match Ty.dec t u,Ty.decs r q with
  |isTrue h,isTrue k=>isTrue (by rw[h,k])
  |isFalse h,_=>isFalse (by intro e;cases e;exact h rfl)
  |_,isFalse h=>isFalse (by intro e;cases e;exact h rfl)
 |[],_::_=>isFalse nofun
 |_::_,[]=>isFalse nofun
end
instance:DecidableEq Ty:=Ty.dec
def Ty.cast(t u:Ty)(x:t.den):Option u.den:=
 match Ty.dec t u with
 |isTrue h=>some (h ▸ x)
 |isFalse _=>none
def Ty.castL(t u:Ty)(x:List t.den):Option (List u.den):=
 match Ty.dec t u with
 |isTrue h=>some (h ▸ x)
 |isFalse _=>none
theorem WD{t u:Ty}{x:t.den}{y:u.den}(h:Ty.cast t u x=some y):∃e:t=u,y=e ▸ x:=by
 unfold Ty.cast at h;split at h
 ·rename_i e _;exact⟨e,(ybe h).symm⟩
 ·cases h
theorem Zy{t u:Ty}{x:List t.den}{y:List u.den}(h:Ty.castL t u x=some y):∃e:t=u,y=e ▸ x:=by
 unfold Ty.castL at h;split at h
 ·rename_i e _;exact⟨e,(ybe h).symm⟩
 ·cases h
mutual
def Ty.enc:(t:Ty)→t.den→Pl
 |.int k,n=>.int k n
 |.u8,b=>.int .u8 (b.toNat:Int)
 |.u32,b=>.int .u32 (b.toNat:Int)
 |.u64,b=>.int .u64 (b.toNat:Int)
 |.bool,b=>.bool b
 |.str,s=>.str s
 |.sl t,l=>.sl none (Ty.size t) (List.map (Ty.enc t) l)
 |.arr n t,l=>.arr n (Ty.size t) (List.map (Ty.enc t) l)
 |.st fs,x=>.agg (Ty.encs fs x)
def Ty.encs:(fs:List Ty)→Ty.dens fs→List Pl
 |[],_=>[]
 |[t],x=>[Ty.enc t x]
 |t::u::r,x=>Ty.enc t x.1::Ty.encs (u::r) x.2
end
mutual
theorem Zf6:∀(t:Ty)(x:t.den),(t.enc x).size=t.size
 |.int _,_=>rfl
 |.u8,_=>rfl
 |.u32,_=>rfl
 |.u64,_=>rfl
 |.bool,_=>rfl
 |.str,_=>rfl
 |.sl _,_=>rfl
 |.arr _ _,_=>rfl
 |.st fs,x=>by rw[Ty.enc,Pl.size,Ty.size];exact encs_sizes fs x
theorem encs_sizes:∀(fs:List Ty)(x:Ty.dens fs),Pl.sizes (Ty.encs fs x)=Ty.sizes fs
 |[],_=>rfl
 |[t],x=>by simp only[Ty.encs,Pl.sizes,Ty.sizes];rw[Zf6 t x]
 |t::u::r,x=>by rw[Ty.encs,Pl.sizes,Ty.sizes,Zf6 t x.1,encs_sizes (u::r) x.2]
end
mutual
theorem Zm8:∀(t:Ty)(x:t.den),(t.enc x).soft=t.enc x
 |.int _,_=>rfl
 |.u8,_=>rfl
 |.u32,_=>rfl
 |.u64,_=>rfl
 |.bool,_=>rfl
 |.str,_=>rfl
 |.sl _,_=>rfl
 |.arr n t,x=>by
  have key:∀l:List t.den,Pl.soft (.arr n t.size (l.map t.enc))=.arr n t.size (l.map t.enc):=by
   intro l;rw[Pl.soft,Pl.softs_map,yaw];congr 1;exact List.map_congr_left λy _=>Zm8 t y
  exact key x
 |.st fs,x=>by rw[Ty.enc,Pl.soft,encs_softs fs x]
theorem encs_softs:∀(fs:List Ty)(x:Ty.dens fs),Pl.softs (Ty.encs fs x)=Ty.encs fs x
 |[],_=>rfl
 |[t],x=>by simp only[Ty.encs,Pl.softs];rw[Zm8 t x]
 |t::u::r,x=>by rw[Ty.encs,Pl.softs,Zm8 t x.1,encs_softs (u::r) x.2]
end
theorem Zc{α β:Type}{f:α→β}{o:Option α}{y:β}(h:o.map f=some y):∃x,o=some x∧f x=y:=yp.1 h
def Ty.proj:(fs:List Ty)→Ty.dens fs→Nat→Option (Σ t:Ty,t.den)
 |[],_,_=>none
 |[t],x,0=>some ⟨t,x⟩
 |[_],_,_+1=>none
 |t::_::_,x,0=>some ⟨t,x.1⟩
 |_::u::r,x,i+1=>Ty.proj (u::r) x.2 i
def Ty.upd:(fs:List Ty)→Ty.dens fs→Nat→(t:Ty)→t.den→Option (Ty.dens fs)
 |[],_,_,_,_=>none
 |[t],_,0,u,y=>Ty.cast u t y
 |[_],_,_+1,_,_=>none
 |t::v::r,x,0,u,y=>(Ty.cast u t y).map λz=>(z,x.2)
 |_::v::r,x,i+1,u,y=>(Ty.upd (v::r) x.2 i u y).map λz=>(x.1,z)
theorem ZAh:∀(fs:List Ty)(x:Ty.dens fs)(i:Nat)(q:Σ t:Ty,t.den),Ty.proj fs x i=some q→(Ty.encs fs x)[i]? =some (q.1.enc q.2)
 |[],_,_,_,h=>by cases h
 |[t],x,0,q,h=>by cases h;rfl
 |[_],_,_+1,_,h=>by cases h
 |t::_::_,x,0,q,h=>by cases h;rfl
 |t::u::r,x,i+1,q,h=>by
  rw[Ty.encs,yar];exact ZAh (u::r) x.2 i q h
theorem ZD2:∀(fs:List Ty)(x:Ty.dens fs)(i:Nat)(t:Ty)(y:t.den)(z:Ty.dens fs),Ty.upd fs x i t y=some z→Ty.encs fs z=(Ty.encs fs x).set i (t.enc y)
 |[],_,_,_,_,_,h=>by cases h
 |[t],x,0,u,y,z,h=>by
  obtain⟨e,rfl⟩:=WD h;subst e
  rfl
 |[_],_,_+1,_,_,_,h=>by cases h
 |t::v::r,x,0,u,y,z,h=>by
  obtain⟨w,h1,h2⟩:=Zc (α:=t.den) (β:=t.den×Ty.dens (v::r)) h;subst h2;obtain⟨e,rfl⟩:=WD h1;subst e
  rfl
 |t::v::r,x,i+1,u,y,z,h=>by
  obtain⟨w,h1,h2⟩:=Zc (α:=Ty.dens (v::r)) (β:=t.den×Ty.dens (v::r)) h;subst h2;show t.enc x.1::Ty.encs (v::r) w=(t.enc x.1::Ty.encs (v::r) x.2).set (i+1) (u.enc y);rw[List.set_cons_succ,ZD2 (v::r) x.2 i u y w h1]
inductive TP where
 |v (t:Ty) (x:t.den)
 |sl (nn:Option Bool) (t:Ty) (xs:List t.den)
 |agg (xs:List TP)
 |arr (n s:Nat) (xs:List TP)
 |sll (nn:Option Bool) (s:Nat) (xs:List TP)
 |ptr0|fn0|if0|map0
 |fnv (f:yu)
 |iface (t:yb) (x:TP)
instance:Inhabited TP:=⟨.ptr0⟩
mutual
def TP.pe:TP→Pl
 |.v t x=>t.enc x
 |.sl nn t xs=>.sl nn t.size (xs.map t.enc)
 |.agg xs=>.agg (TP.pes xs)
 |.arr n s xs=>.arr n s (TP.pes xs)
 |.sll nn s xs=>.sl nn s (TP.pes xs)
 |.ptr0=>.ptr0
 |.fn0=>.fn0
 |.if0=>.if0
 |.map0=>.map0
 |.fnv f=>.fnv f
 |.iface t x=>.iface t (TP.pe x)
def TP.pes:List TP→List Pl
 |[]=>[]
 |x::r=>x.pe::TP.pes r
end
theorem XS:∀(xs:List TP),TP.pes xs=xs.map TP.pe
 |[]=>rfl
 |x::r=>by rw[TP.pes,XS r];rfl
def Ty.flds:(fs:List Ty)→Ty.dens fs→List TP
 |[],_=>[]
 |[t],x=>[.v t x]
 |t::u::r,x=>.v t x.1::Ty.flds (u::r) x.2
theorem ZrT:∀(fs:List Ty)(x:Ty.dens fs),TP.pes (Ty.flds fs x)=Ty.encs fs x
 |[],_=>rfl
 |[t],x=>rfl
 |t::u::r,x=>by
  show t.enc x.1::TP.pes (Ty.flds (u::r) x.2)=t.enc x.1::Ty.encs (u::r) x.2;rw[ZrT (u::r) x.2]
def TP.parts:TP→Option (List TP)
 |.v (.st fs) x=>some (Ty.flds fs x)
 |.agg l=>some l
 |_=>none
theorem ZsO{x:TP}{l:List TP}(h:x.parts=some l):x.pe=.agg (TP.pes l):=by
 cases x with
 |v t a=>
  cases t with
  |st fs=>
   cases (show some (Ty.flds fs a)=some l from h)
   exact congrArg Pl.agg (ZrT fs a).symm
  |_=>cases h
 |agg l'=>cases h;rfl
 |_=>cases h
def YS:List Nat→TP→TP
 |[],x=>match x with
  |.v (.sl t) _=>.sl (some false) t []
  |x=>x
 |i::r,x=>match x.parts with
  |some l=>match l[i]? with
   |some z=>.agg (l.set i (YS r z))
   |none=>x
  |none=>x
inductive Stp where
 |fld (i o:Nat)
 |ix (i s:Nat)
def Stp.i:Stp→Nat
 |.fld i _=>i
 |.ix i _=>i
def Stp.o:Stp→Nat
 |.fld _ o=>o
 |.ix i s=>i*s
def Xl:List Stp→Nat
 |l=>l.foldl (λn q=>n+q.o) 0
inductive TD where
 |p (x:TP)
 |elem (x:TP)
 |ref (id:Nat) (path:List Stp)
 |own (id:Nat) (nn:Option Bool) (t:Ty) (c:Option (List t.den))
 |view (id:Nat) (path:List Stp) (s lo n:Nat)
 |agg (xs:List TD)
 |arr (n s:Nat) (xs:List TD)
 |fn (f:yu) (cap:List TD)
 |iface (t:yb) (x:TD)
 |tup (xs:List TD)
 |mp (id:Nat)
 |rv (id v s lo n:Nat)
 |rref (id v:Nat) (path:List Stp)
 |rw(id:Nat)
 |rp (id:Nat) (path:List Stp)
 |junk
instance:Inhabited TD:=⟨.junk⟩
abbrev Lk:=Nat→Option (Σ t:Ty,List t.den)
def ZS(L:Lk)(id:Nat)(t:Ty):Option (List t.den)→List t.den
 |some xs=>xs
 |none=>match L id with
  |some q=>(Ty.castL q.1 t q.2).getD []
  |none=>[]
def Zap(L:Lk)(id k:Nat):Nat:=(((ZS L id (.sl (.st [])) none)[k]?).getD []).length
mutual
def TD.er(L:Lk):TD→Dv
 |.p x=>.p x.pe
 |.elem x=>.elem x.pe
 |.ref id path=>.ref id (Xl path) (path.map Stp.i)
 |.own id nn t c=>.own id nn t.size ((ZS L id t c).map t.enc)
 |.view id path s lo n=>.view id (Xl path) (path.map Stp.i) s lo n
 |.agg xs=>.agg (TD.ers L xs)
 |.arr n s xs=>.arr n s (TD.ers L xs)
 |.fn f cap=>.fn f (TD.ers L cap)
 |.iface t x=>.iface t (TD.er L x)
 |.tup xs=>.tup (TD.ers L xs)
 |.mp id=>.mp id
 |.rv id v s lo n=>.rv id v s lo n
 |.rref id v path=>.rref id v (Xl path) (path.map Stp.i)
 |.rw id=>.rv id (Zap L id 0) (Zap L id 1) 0 (Zap L id 2)
 |.rp id path=>.rref id (Zap L id 0) (Xl path) (path.map Stp.i)
 |.junk=>.junk
def TD.ers(L:Lk):List TD→List Dv
 |[]=>[]
 |x::r=>x.er L::TD.ers L r
end
theorem Zv{L:Lk}:∀(xs:List TD),TD.ers L xs=xs.map (TD.er L)
 |[]=>rfl
 |x::r=>by rw[TD.ers,Zv r];rfl
inductive TEnt where
 |var (d:TD) (st:Bool)
 |log (t:Ty) (e:yb) (xs:List t.den)
 |map (tid:yb) (k v:Ty) (l:List (k.den×v.den))
 |row (v s:Nat) (st:Bool) (e:yb) (d:TD)
 |rowT (t:Ty) (v:List Unit) (st:Bool) (e:yb) (xs:List t.den)
 |rowN (t:Ty) (np:List Nat) (v:List Unit) (st:Bool) (e:yb) (pre post:List t.den)
 |rowM (t:Ty) (np:List Nat) (v:List Unit) (st:Bool) (e:yb) (pre:List t.den) (mid:TD) (post:List t.den)
 |gone
instance:Inhabited TEnt:=⟨.gone⟩
def TEnt.er(L:Lk):TEnt→Ent
 |.var d st=>.var (d.er L) st
 |.log t e xs=>.log t.size e (xs.map t.enc)
 |.map tid k v l=>.map tid (kvl k.enc v.enc l)
 |.row v s st e d=>.row v s st e (d.er L)
 |.rowT t v st e xs=>.row v.length t.size st e (.p (.arr xs.length t.size (xs.map t.enc)))
 |.rowN t np v st e pre post=>.row v.length t.size st e (.p (.arr (pre.length+post.length) t.size (pre.map t.enc++post.map λx=>(YS np (.v t x)).pe)))
 |.rowM t np v st e pre mid post=>.row v.length t.size st e (.arr (pre.length+(post.length+1)) t.size ((pre.map λx=>.p (t.enc x))++mid.er L::post.map λx=>.p (YS np (.v t x)).pe))
 |.gone=>.gone
def lkE:Option TEnt→Option (Σ t:Ty,List t.den)
 |some (.log t _ xs)=>some ⟨t,xs⟩
 |some (.rowT t v _ _ xs)=>some ⟨.sl (.st []),([v,yab t.size (),yab xs.length ()]:List (List Unit))⟩
 |some (.rowN t _ v _ _ pre post)=>some ⟨.sl (.st []),([v,yab t.size (),yab (pre.length+post.length) ()]:List (List Unit))⟩
 |some (.rowM t _ v _ _ pre _ post)=>some ⟨.sl (.st []),([v,yab t.size (),yab (pre.length+(post.length+1)) ()]:List (List Unit))⟩
 |_=>none
def lk(H:List TEnt):Lk:=λid=>lkE (H[id]?)
def erH(H:List TEnt):List Ent:=H.map (TEnt.er (lk H))
theorem ZF{H:List TEnt}{i:Nat}{e:TEnt}(h:H[i]? =some e):(erH H)[i]? =some (e.er (lk H)):=by rw[erH,yaf,h];rfl
theorem Vp{L:Lk}{ts:List TD}{i:Nat}{d:TD}(h:ts[i]? =some d):(TD.ers L ts)[i]? =some (d.er L):=by rw[Zv,yaf,h];rfl
theorem Zx(H:List TEnt):(erH H).length=H.length:=yx ..
theorem QK{L:Lk}(H:List TD):(TD.ers L H).length=H.length:=by rw[Zv];exact yx ..
def ZkZ{α β:Type}:Option α→Option β→Option (α×β)
 |some a,some b=>some (a,b)
 |_,_=>none
theorem WZ{α β:Type}{a:Option α}{b:Option β}{q:α×β}(h:ZkZ a b=some q):a=some q.1∧b=some q.2:=by
 cases a with
 |none=>cases h
 |some x=>cases b with
  |none=>cases h
  |some y=>cases h;exact⟨rfl,rfl⟩
def ZGV(nn:Bool)(t:Ty)(xs:List t.den):(u:Ty)→Option u.den
 |.sl u=>if nn then Ty.castL t u xs else none
 |_=>none
def ZGW(f:(fs:List Ty)→Option (Ty.dens fs)):(u:Ty)→Option u.den
 |.st fs=>f fs
 |_=>none
def ZD3(n s:Nat)(f:(t:Ty)→Option (List t.den)):(u:Ty)→Option u.den
 |.arr m t=>if n=m∧s=t.size then f t else none
 |_=>none
def ZD4:(fs:List Ty)→Option (Ty.dens fs)
 |[]=>some ()
 |_=>none
def ZsP(f:(t:Ty)→Option t.den)(last:Bool)(g:(fs:List Ty)→Option (Ty.dens fs)):(fs:List Ty)→Option (Ty.dens fs)
 |[]=>none
 |[t]=>if last then f t else none
 |t::u::q=>ZkZ (f t) (g (u::q))
mutual
def TP.to(ok:Option Bool→Bool):TP→(t:Ty)→Option t.den
 |.v t x=>λu=>Ty.cast t u x
 |.sl nn t xs=>ZGV (ok nn) t xs
 |.agg xs=>ZGW (TP.tos ok xs)
 |.arr n s xs=>ZD3 n s (TP.toL ok xs)
 |.sll _ _ _=>λ_=>none
 |.ptr0=>λ_=>none
 |.fn0=>λ_=>none
 |.if0=>λ_=>none
 |.map0=>λ_=>none
 |.fnv _=>λ_=>none
 |.iface _ _=>λ_=>none
def TP.tos(ok:Option Bool→Bool):List TP→(fs:List Ty)→Option (Ty.dens fs)
 |[]=>ZD4
 |x::r=>ZsP (TP.to ok x) r.isEmpty (TP.tos ok r)
def TP.toL(ok:Option Bool→Bool):List TP→(t:Ty)→Option (List t.den)
 |[]=>λ_=>some []
 |x::r=>λt=>(ZkZ (TP.to ok x t) (TP.toL ok r t)).map λq=>q.1::q.2
end
def ZiS:Option Bool→Bool:=λ_=>true
def Zfy:Option Bool→Bool:=Option.isNone
theorem Zxy(t:Ty)(l:List t.den):(Ty.sl t).enc l=.sl none t.size (l.map t.enc):=rfl
theorem Zxz(n:Nat)(t:Ty)(l:List t.den):(Ty.arr n t).enc l=.arr n t.size (l.map t.enc):=rfl
theorem ZoZ{b:Bool}{nn:Option Bool}{t u:Ty}{xs:List t.den}{y:u.den}(h:ZGV b t xs u=some y):∃l:List t.den,b=true∧u.enc y=.sl none t.size (l.map t.enc)∧l=xs:=by
 cases u with
 |sl u=>
  have h':(if b then Ty.castL t u xs else none)=some y:=h
  split at h'
  ·rename_i hb;obtain⟨e,h2⟩:=Zy h';subst e;subst h2;exact⟨y,hb,rfl,rfl⟩
  ·cases h'
 |_=>cases h
theorem Zo0{f:(fs:List Ty)→Option (Ty.dens fs)}{u:Ty}{y:u.den}(h:ZGW f u=some y):∃(fs:List Ty)(z:Ty.dens fs),f fs=some z∧u.enc y=.agg (Ty.encs fs z):=by
 cases u with
 |st fs=>exact⟨fs,y,h,rfl⟩
 |_=>cases h
theorem ZsQ{n s:Nat}{f:(t:Ty)→Option (List t.den)}{u:Ty}{y:u.den}(h:ZD3 n s f u=some y):∃(t:Ty)(l:List t.den),f t=some l∧u.enc y=.arr n s (l.map t.enc):=by
 cases u with
 |arr m t=>
  have h':(if n=m∧s=t.size then f t else none)=some y:=h
  split at h'
  ·rename_i e;obtain⟨rfl,rfl⟩:=e;exact⟨t,y,h',rfl⟩
  ·cases h'
 |_=>cases h
theorem ZsR{fs:List Ty}{y:Ty.dens fs}(h:ZD4 fs=some y):Ty.encs fs y=[]:=by
 cases fs with
 |nil=>rfl
 |cons _ _=>cases h
theorem Zp9{f:(t:Ty)→Option t.den}{b:Bool}{g:(fs:List Ty)→Option (Ty.dens fs)}{fs:List Ty}{y:Ty.dens fs}(h:ZsP f b g fs=some y):
 ∃(t:Ty)(x:t.den)(l:List Pl),f t=some x∧Ty.encs fs y=t.enc x::l∧((b=true∧l=[])∨∃(gs:List Ty)(z:Ty.dens gs),g gs=some z∧l=Ty.encs gs z):=by
 match fs,y,h with
 |[],_,h=>cases h
 |[t],y,h=>
  have h':(if b then f t else none)=some y:=h
  split at h'
  ·rename_i hb;exact⟨t,y,[],h',rfl,.inl ⟨hb,rfl⟩⟩
  ·cases h'
 |t::u::q,y,h=>
  obtain⟨h1,h2⟩:=WZ (α:=t.den) (β:=Ty.dens (u::q)) h;exact⟨t,y.1,_,h1,rfl,.inr ⟨u::q,y.2,h2,rfl⟩⟩
mutual
theorem ZcG{ok:Option Bool→Bool}:∀(x:TP)(t:Ty)(y:t.den),TP.to ok x t=some y→x.pe.soft=t.enc y
 |.v t x,u,y,h=>by
  obtain⟨e,rfl⟩:=WD (show Ty.cast t u x=some y from h)
  subst e
  exact Zm8 t x
 |.sl nn t xs,u,y,h=>by
  obtain⟨l,_,h2,h3⟩:=ZoZ (nn:=nn) (show ZGV (ok nn) t xs u=some y from h)
  rw[h2,h3]
  rfl
 |.agg xs,u,y,h=>by
  obtain⟨fs,z,h1,h2⟩:=Zo0 (show ZGW (TP.tos ok xs) u=some y from h)
  rw[h2];show Pl.agg (Pl.softs (TP.pes xs))=_
  rw[tos_soft xs fs z h1]
 |.arr n s xs,u,y,h=>by
  obtain⟨t,l,h1,h2⟩:=ZsQ (show ZD3 n s (TP.toL ok xs) u=some y from h)
  rw[h2];show Pl.arr n s (Pl.softs (TP.pes xs))=_
  rw[toL_soft xs t l h1]
 |.sll _ _ _,_,_,h=>nomatch (show none=some _ from h)
 |.ptr0,_,_,h=>nomatch (show none=some _ from h)
 |.fn0,_,_,h=>nomatch (show none=some _ from h)
 |.if0,_,_,h=>nomatch (show none=some _ from h)
 |.map0,_,_,h=>nomatch (show none=some _ from h)
 |.fnv _,_,_,h=>nomatch (show none=some _ from h)
 |.iface _ _,_,_,h=>nomatch (show none=some _ from h)
theorem tos_soft{ok:Option Bool→Bool}:∀(xs:List TP)(fs:List Ty)(y:Ty.dens fs),TP.tos ok xs fs=some y→Pl.softs (TP.pes xs)=Ty.encs fs y
 |[],fs,y,h=>(ZsR (show ZD4 fs=some y from h)).symm
 |x::r,fs,y,h=>by
  obtain⟨t,a,l,h1,h2,h3⟩:=Zp9 (show ZsP (TP.to ok x) r.isEmpty (TP.tos ok r) fs=some y from h)
  rw[h2];show x.pe.soft::Pl.softs (TP.pes r)=_;rw[ZcG x t a h1];rcases h3 with⟨h4,rfl⟩|⟨gs,z,h4,rfl⟩
  ·cases r with
   |nil=>rfl
   |cons _ _=>cases h4
  ·rw[tos_soft r gs z h4]
theorem toL_soft{ok:Option Bool→Bool}:∀(xs:List TP)(t:Ty)(y:List t.den),TP.toL ok xs t=some y→Pl.softs (TP.pes xs)=y.map t.enc
 |[],_,y,h=>by
  cases (show some []=some y from h)
  rfl
 |x::r,t,y,h=>by
  obtain⟨q,h1,rfl⟩:=Zc (show(ZkZ (TP.to ok x t) (TP.toL ok r t)).map (λq=>q.1::q.2)=some y from h)
  obtain⟨h2,h3⟩:=WZ h1;show x.pe.soft::Pl.softs (TP.pes r)=_;rw[ZcG x t q.1 h2,toL_soft r t q.2 h3,yad]
end
theorem ZAi{ok:Option Bool→Bool}{x:TP}{t:Ty}{y:t.den}(h:TP.to ok x t=some y):PlWk x.pe (t.enc y):=ZcG x t y h ▸ ZeJ x.pe
mutual
theorem Zf7:∀(x:TP)(t:Ty)(y:t.den),TP.to Zfy x t=some y→x.pe=t.enc y
 |.v t x,u,y,h=>by
  obtain⟨e,rfl⟩:=WD (show Ty.cast t u x=some y from h)
  subst e
  rfl
 |.sl nn t xs,u,y,h=>by
  obtain⟨l,h1,h2,h3⟩:=ZoZ (nn:=nn) (show ZGV (Zfy nn) t xs u=some y from h)
  rw[h2,h3]
  cases nn with
  |none=>rfl
  |some _=>cases h1
 |.agg xs,u,y,h=>by
  obtain⟨fs,z,h1,h2⟩:=Zo0 (show ZGW (TP.tos Zfy xs) u=some y from h)
  rw[h2];show Pl.agg (TP.pes xs)=_
  rw[tos_exact xs fs z h1]
 |.arr n s xs,u,y,h=>by
  obtain⟨t,l,h1,h2⟩:=ZsQ (show ZD3 n s (TP.toL Zfy xs) u=some y from h)
  rw[h2];show Pl.arr n s (TP.pes xs)=_
  rw[toL_exact xs t l h1]
 |.sll _ _ _,_,_,h=>nomatch (show none=some _ from h)
 |.ptr0,_,_,h=>nomatch (show none=some _ from h)
 |.fn0,_,_,h=>nomatch (show none=some _ from h)
 |.if0,_,_,h=>nomatch (show none=some _ from h)
 |.map0,_,_,h=>nomatch (show none=some _ from h)
 |.fnv _,_,_,h=>nomatch (show none=some _ from h)
 |.iface _ _,_,_,h=>nomatch (show none=some _ from h)
theorem tos_exact:∀(xs:List TP)(fs:List Ty)(y:Ty.dens fs),TP.tos Zfy xs fs=some y→TP.pes xs=Ty.encs fs y
 |[],fs,y,h=>(ZsR (show ZD4 fs=some y from h)).symm
 |x::r,fs,y,h=>by
  obtain⟨t,a,l,h1,h2,h3⟩:=Zp9 (show ZsP (TP.to Zfy x) r.isEmpty (TP.tos Zfy r) fs=some y from h)
  rw[h2];show x.pe::TP.pes r=_;rw[Zf7 x t a h1];rcases h3 with⟨h4,rfl⟩|⟨gs,z,h4,rfl⟩
  ·cases r with
   |nil=>rfl
   |cons _ _=>cases h4
  ·rw[tos_exact r gs z h4]
theorem toL_exact:∀(xs:List TP)(t:Ty)(y:List t.den),TP.toL Zfy xs t=some y→TP.pes xs=y.map t.enc
 |[],_,y,h=>by
  cases (show some []=some y from h)
  rfl
 |x::r,t,y,h=>by
  obtain⟨q,h1,rfl⟩:=Zc (show(ZkZ (TP.to Zfy x t) (TP.toL Zfy r t)).map (λq=>q.1::q.2)=some y from h)
  obtain⟨h2,h3⟩:=WZ h1;show x.pe::TP.pes r=_;rw[Zf7 x t q.1 h2,toL_exact r t q.2 h3,yad]
end
mutual
def ZgU(P:yg):Nat→yb→Option Ty
 |0,_=>none
 |n+1,t=>match P.underlying t with
  |some (.int .u8)=>some .u8
  |some (.int .u32)=>some .u32
  |some (.int .u64)=>some .u64
  |some (.int k)=>some (.int k)
  |some .bool=>some .bool
  |some .string=>some .str
  |some (.slice e)=>(ZgU P n e).map .sl
  |some (.array m e)=>(ZgU P n e).map (.arr m)
  |some (.struct fs)=>(tysOf P n (fs.toList.map (·.type))).map .st
  |_=>none
def tysOf(P:yg):Nat→List yb→Option (List Ty)
 |0,_=>none
 |_+1,[]=>some []
 |n+1,t::r=>match ZgU P n t,tysOf P n r with
  |some a,some b=>some (a::b)
  |_,_=>none
end
def ZLs(k:IntKind)(z:Int):TP:=
 match k with
 |.u8=>.v .u8 (ybk z.toNat)
 |.u32=>.v .u32 (UInt32.ofNat z.toNat)
 |.u64=>.v .u64 (yal z.toNat)
 |k=>.v (.int k) z
def inU(k:IntKind)(z:Int):Bool:=
 match k with
 |.u8=>decide (0≤z)&&decide (z < 256)
 |.u32=>decide (0≤z)&&decide (z < 4294967296)
 |.u64=>decide (0≤z)&&decide (z < 18446744073709551616)
 |_=>true
theorem ZJv{k:IntKind}{z:Int}(h:inU k z=true):(ZLs k z).pe=.int k z:=by
 cases k <;> simp only[inU,yi,decide_eq_true_eq] at h <;> simp only[ZLs,TP.pe,Ty.enc]
 ·simp only[Pl.int.injEq,true_and,UInt8.toNat_ofNat'];omega
 ·simp only[Pl.int.injEq,true_and,ycq];omega
 ·simp only[Pl.int.injEq,true_and,ybo];omega
abbrev wi(z:Int):Int:=IntKind.i64.wrap z
def w8(z:Int):UInt8:=ybk (z % 256).toNat
def w32(z:Int):UInt32:=UInt32.ofNat (z % 4294967296).toNat
def w64(z:Int):UInt64:=yal (z % 18446744073709551616).toNat
def ZJw(k:IntKind)(z:Int):TP:=
 match k with
 |.u8=>.v .u8 (w8 z)
 |.u32=>.v .u32 (w32 z)
 |.u64=>.v .u64 (w64 z)
 |k=>.v (.int k) (k.wrap z)
theorem ZLt(z:Int):((w8 z).toNat:Int)=IntKind.u8.wrap z:=by
 simp only[w8,IntKind.wrap,IntKind.signed,IntKind.bits,UInt8.toNat_ofNat'];simp;omega
theorem ZJx(z:Int):((w32 z).toNat:Int)=IntKind.u32.wrap z:=by
 simp only[w32,IntKind.wrap,IntKind.signed,IntKind.bits,ycq];simp;omega
theorem ZJy(z:Int):((w64 z).toNat:Int)=IntKind.u64.wrap z:=by
 simp only[w64,IntKind.wrap,IntKind.signed,IntKind.bits,ybo];simp;omega
theorem ZD5(k:IntKind)(z:Int):(ZJw k z).pe=.int k (k.wrap z):=by
 cases k <;> simp only[ZJw,TP.pe,Ty.enc,ZLt,ZJx,ZJy]
def ZLu:IntKind→Bool
 |.u8=>false
 |.u32=>false
 |.u64=>false
 |_=>true
def ZsS:TP→Option (IntKind×Int)
 |.v (.int k) n=>if ZLu k then some (k,n) else none
 |.v .u8 b=>some (.u8,(b.toNat:Int))
 |.v .u32 b=>some (.u32,(b.toNat:Int))
 |.v .u64 b=>some (.u64,(b.toNat:Int))
 |_=>none
theorem Zm9{x:TP}{q:IntKind×Int}(h:ZsS x=some q):x.pe=.int q.1 q.2∧inU q.1 q.2=true:=by
 unfold ZsS at h;split at h
 ·rename_i k n;split at h
  ·rename_i hk;cases h;refine⟨rfl, ?_⟩;cases k <;> first|rfl|cases hk
  ·cases h
 ·rename_i b;cases h;exact⟨rfl,by simp only[inU,yi,decide_eq_true_eq];have:=b.toNat_lt;omega⟩
 ·rename_i b;cases h;exact⟨rfl,by simp only[inU,yi,decide_eq_true_eq];have:=b.toNat_lt;omega⟩
 ·rename_i b;cases h;exact⟨rfl,by simp only[inU,yi,decide_eq_true_eq];have:=b.toNat_lt;omega⟩
 ·cases h
def tyD:Nat:=40
def ZJz(P:yg)(t:yb)(l:List TP):TP:=
 match ZgU P tyD t with
 |some (.st fs)=>match TP.tos Zfy l fs with
  |some x=>.v (.st fs) x
  |none=>.agg l
 |_=>.agg l
theorem ZD6{P:yg}(t:yb)(l:List TP):(ZJz P t l).pe=.agg (TP.pes l):=by
 unfold ZJz;split
 ·rename_i fs _;split
  ·rename_i x h;show Pl.agg (Ty.encs fs x)=_;rw[tos_exact l fs x h]
  ·rfl
 ·rfl
def ZJA(P:yg)(t:yb)(n s:Nat)(l:List TP):TP:=
 match ZgU P tyD t with
 |some (.arr _ u)=>if s=u.size then match TP.toL Zfy l u with
  |some x=>.v (.arr n u) x
  |none=>.arr n s l else .arr n s l
 |_=>.arr n s l
theorem ZD7{P:yg}(t:yb)(n s:Nat)(l:List TP):(ZJA P t n s l).pe=.arr n s (TP.pes l):=by
 unfold ZJA;split
 ·rename_i u _;split
  ·rename_i e;split
   ·rename_i x h;show Pl.arr n u.size (List.map u.enc x)=_;rw[toL_exact l u x h,e]
   ·rfl
  ·rfl
 ·rfl
def ZGX(f:yb→Pl→Option TP):List yb→List Pl→Option (List TP)
 |[],[]=>some []
 |t::r,x::q=>match f t x,ZGX f r q with
  |some a,some b=>some (a::b)
  |_,_=>none
 |_,_=>none
def ZAj(P:yg):Nat→yb→Pl→Option TP
 |0,_,_=>none
 |n+1,t,x=>match x with
  |.int k z=>if inU k z then some (ZLs k z) else none
  |.bool b=>some (.v .bool b)
  |.str b=>some (.v .str b)
  |.ptr0=>some .ptr0
  |.fn0=>some .fn0
  |.if0=>some .if0
  |.map0=>some .map0
  |.sl nn s []=>match P.underlying t with
   |some (.slice e)=>(ZgU P tyD e).bind λT=>if s=T.size then some (.sl nn T []) else none
   |_=>none
  |.agg xs=>match P.underlying t with
   |some (.struct fs)=>(ZGX (ZAj P n) (fs.toList.map (·.type)) xs).map (ZJz P t)
   |_=>none
  |.arr m s xs=>match P.underlying t with
   |some (.array _ e)=>(ZGX (ZAj P n) (yab xs.length e) xs).map (ZJA P t m s)
   |_=>none
  |_=>none
theorem ZxA{f:yb→Pl→Option TP}(h:∀t x y,f t x=some y→y.pe=x):∀(l:List yb)(xs:List Pl)(r:List TP),ZGX f l xs=some r→TP.pes r=xs
 |[],[],r,k=>by cases k;rfl
 |[],_::_,r,k=>by cases k
 |_::_,[],r,k=>by cases k
 |t::l,x::xs,r,k=>by
  simp only[ZGX] at k;split at k
  ·rename_i a b h1 h2;cases k;rw[TP.pes,h t x a h1,ZxA h l xs b h2]
  ·cases k
theorem ZsT{P:yg}:∀(n:Nat)(t:yb)(x:Pl)(y:TP),ZAj P n t x=some y→y.pe=x
 |0,_,_,_,h=>by cases h
 |n+1,t,x,y,h=>by
  unfold ZAj at h;split at h
  ·split at h
   ·rename_i hk;cases h;exact ZJv hk
   ·cases h
  ·cases h;rfl
  ·cases h;rfl
  ·cases h;rfl
  ·cases h;rfl
  ·cases h;rfl
  ·cases h;rfl
  ·split at h
   ·obtain⟨T,h1,h2⟩:=yc.1 h;split at h2
    ·rename_i e;cases h2;rw[TP.pe,e];rfl
    ·cases h2
   ·cases h
  ·split at h
   ·obtain⟨l,h1,rfl⟩:=Zc h;rw[ZD6,ZxA (ZsT n) _ _ _ h1]
   ·cases h
  ·split at h
   ·obtain⟨l,h1,rfl⟩:=Zc h;rw[ZD7,ZxA (ZsT n) _ _ _ h1]
   ·cases h
  ·cases h
def ZxB(P:yg)(t:yb)(x:Pl):Option TP:=ZAj P 30 t x
def ZCk(P:yg)(t:yb)(v:yh):Option TD:=
 match ZoI P t v with
 |.p x=>(ZxB P t x).map .p
 |.fn f []=>some (.fn f [])
 |_=>none
def arT(P:yg)(ts:List TD)(t:yb):yn→Option TD
 |.tmp i=>some (ts.getD i .junk)
 |.const v=>ZCk P t v
 |.global _=>none
 |.func f=>if f < big then some (.fn f []) else none
theorem Zo1{P:yg}{t:yb}{x:Pl}{y:TP}(h:ZxB P t x=some y):y.pe=x:=ZsT _ _ _ _ h
theorem Zna{L:Lk}(ts:List TD)(i:Nat):(TD.ers L ts).getD i .junk=(ts.getD i .junk).er L:=by
 rw[Zv];simp only[List.getD_eq_getElem?_getD,yaf];cases ts[i]? <;> rfl
theorem Zn{L:Lk}{P:yg}{ts:List TD}{t:yb}{x:yn}{d:TD}(h:arT P ts t x=some d):Zp P (TD.ers L ts) t x=d.er L:=by
 cases x with
 |tmp i=>cases h;exact Zna ts i
 |const v=>
  have h':ZCk P t v=some d:=h;show ZoI P t v=d.er L;unfold ZCk at h';split at h'
  ·rename_i x hx;obtain⟨y,h1,rfl⟩:=Zc h';rw[hx,TD.er,Zo1 h1]
  ·rename_i f hf;cases h';rw[hf];rfl
  ·cases h'
 |global _=>cases h
 |func f=>
  have h':(if f < big then some (TD.fn f []) else none)=some d:=h
  by_cases hf:f < big
  ·rw[if_pos hf] at h';cases h';show(if f < big then Dv.fn f [] else .junk)=_
   rw[if_pos hf];rfl
  ·rw[if_neg hf] at h';cases h'
structure HI where
 own:List Tmp:=[]
 still:List Tmp:=[]
 row:List Tmp:=[]
 rowt:List Tmp:=[]
 deep:List yb:=[]
 eqs:Bool:=false
 frz:List Tmp:=[]
 ghost:List (Tmp×List (List Nat×Ty×yb)):=[]
 gst:List (Tmp×List (List Nat×Ty×yb)):=[]
 lits:List Tmp:=[]
 rew:List (Tmp×Tmp):=[]
 mkn:List Tmp:=[]
 deriving Inhabited
def GoodN(L:Lk)(P:yg)(o:Oper)(ts:List TD)(d:TD)(hs:List Hint):Prop:=
 ∃C,AllP C∧∀rest,evN P o (TD.ers L ts) (hs++rest)=some (C,d.er L,rest)
def idx{α:Type}(l:List α)(i:Int):Option α:=if 0≤i then l[i.toNat]? else none
def ZNV(m n:Int):Int:=if n > m then n else m
def inB(i:Int)(n:Nat):Bool:=decide (0≤i)&&decide (i < (n:Int))
def ZaM(len:Nat):Option Int→Option Int→Bool
 |none,none=>true
 |none,some h=>decide (0≤h)&&decide (h≤(len:Int))
 |some l,none=>decide (0≤l)&&decide (l≤(len:Int))
 |some l,some h=>decide (0≤l)&&(decide (l≤h)&&decide (h≤(len:Int)))
def ZAk(n b:Nat):Bool:=decide (n*b≤Zo)&&decide (n≤maxLen)
theorem ZiT{α:Type}{l:List α}{i:Int}{y:α}(h:idx l i=some y):0≤i∧l[i.toNat]? =some y:=by
 unfold idx at h;split at h
 ·exact⟨by assumption,h⟩
 ·cases h
theorem WM{i:Int}{n:Nat}(h:inB i n=true):0≤i∧i < (n:Int):=by simpa[inB] using h
theorem Zdy{len:Nat}{l h:Option Int}(k:ZaM len l h=true):AllP (Yt len l h):=by
 cases l <;> cases h <;> simp only[ZaM,yi,decide_eq_true_eq] at k <;> simp only[Yt,AllP,and_true]
 ·exact k
 ·exact k
 ·exact k
theorem VI{n b:Nat}(h:ZAk n b=true):n*b≤Zo∧n≤maxLen:=by simpa[ZAk] using h
theorem Za{α:Type}{b:Bool}{k:Option α}{r:α}(h:(if b=true then k else none)=some r):b=true∧k=some r:=by
 cases b
 ·cases h
 ·exact⟨rfl,h⟩
theorem ZeO{α β:Type}(f:α→β)(l:List α)(a b:Option Int):(We l a b).map f=We (l.map f) a b:=by
 cases a <;> cases b <;> simp[We]
def TP.fld:TP→Nat→Option TP
 |.v (.st fs) x,i=>(Ty.proj fs x i).map λq=>.v q.1 q.2
 |.agg l,i=>l[i]?
 |_,_=>none
theorem ZGY{x y:TP}{i:Nat}(h:x.fld i=some y):∃xs,x.pe=.agg xs∧xs[i]? =some y.pe:=by
 unfold TP.fld at h;split at h
 ·obtain⟨q,h1,rfl⟩:=Zc h;exact⟨_,rfl,ZAh _ _ _ q h1⟩
 ·exact⟨_,rfl,by rw[XS,yaf,h];rfl⟩
 ·cases h
structure Row where
 nn:Option Bool
 t:Ty
 l:List t.den
def TP.row:TP→Option Row
 |.v (.sl t) l=>some ⟨none,t,l⟩
 |.sl nn t l=>some ⟨nn,t,l⟩
 |_=>none
theorem ZLv{x:TP}{r:Row}(h:x.row=some r):x.pe=.sl r.nn r.t.size (r.l.map r.t.enc):=by
 unfold TP.row at h;split at h
 ·cases h;rfl
 ·cases h;rfl
 ·cases h
structure ARow where
 n:Nat
 t:Ty
 l:List t.den
def TP.arow:TP→Option ARow
 |.v (.arr n t) l=>some ⟨n,t,l⟩
 |_=>none
theorem Wj{x:TP}{r:ARow}(h:x.arow=some r):x.pe=.arr r.n r.t.size (r.l.map r.t.enc):=by
 unfold TP.arow at h;split at h
 ·cases h;rfl
 ·cases h
def Ty.isAgg:Ty→Bool
 |.arr _ _=>true
 |.st _=>true
 |_=>false
theorem Zkf(t:Ty)(x:t.den):(t.enc x).isAgg=t.isAgg:=by cases t <;> rfl
def TD.row(L:Lk):TD→Option Row
 |.p x=>x.row
 |.own id nn t c=>some ⟨nn,t,ZS L id t c⟩
 |_=>none
theorem ZeP{L:Lk}{x:TD}{r:Row}(h:x.row L=some r):x.er L=.p (.sl r.nn r.t.size (r.l.map r.t.enc))∨∃id,x.er L=.own id r.nn r.t.size (r.l.map r.t.enc):=by
 unfold TD.row at h;split at h
 ·exact .inl (by rw[TD.er,ZLv h])
 ·cases h;exact .inr ⟨_,rfl⟩
 ·cases h
def TD.plain(L:Lk):TD→Option TP
 |.p x=>some x
 |.own id nn t c=>some (.sl nn t (ZS L id t c))
 |_=>none
theorem Zwv{L:Lk}{x:TD}{y:TP}(h:x.plain L=some y):(x.er L).plain=some y.pe:=by
 unfold TD.plain at h;split at h
 ·cases h;rfl
 ·cases h;rfl
 ·cases h
mutual
def TD.flat(L:Lk):TD→Option TP
 |.p x=>some x
 |.own id nn t c=>some (.sl nn t (ZS L id t c))
 |.agg ds=>(TD.flats L ds).map .agg
 |_=>none
def TD.flats(L:Lk):List TD→Option (List TP)
 |[]=>some []
 |d::r=>match d.flat L,TD.flats L r with
  |some x,some xs=>some (x::xs)
  |_,_=>none
end
mutual
theorem Znb{L:Lk}:∀(d:TD),(d.er L).flat=(d.flat L).map TP.pe
 |.p x=>by rw[TD.er,Dv.flat,TD.flat];rfl
 |.own id nn t c=>by rw[TD.er,Dv.flat,TD.flat];rfl
 |.agg ds=>by
  rw[TD.er,Dv.flat,TD.flat,flats_er ds]
  cases TD.flats L ds <;> rfl
 |.elem _=>rfl
 |.ref _ _=>rfl
 |.view _ _ _ _ _=>rfl
 |.arr _ _ _=>rfl
 |.fn _ _=>rfl
 |.iface _ _=>rfl
 |.tup _=>rfl
 |.mp _=>rfl
 |.rv _ _ _ _ _=>rfl
 |.rref _ _ _=>rfl
 |.rw _=>rfl
 |.rp _ _=>rfl
 |.junk=>rfl
theorem flats_er{L:Lk}:∀(ds:List TD),Dv.flats (TD.ers L ds)=(TD.flats L ds).map TP.pes
 |[]=>rfl
 |d::r=>by
  rw[TD.ers,Dv.flats,TD.flats,Znb d,flats_er r];cases d.flat L <;> cases TD.flats L r <;> rfl
end
theorem Znc{L:Lk}{x:TD}{y:TP}(h:x.flat L=some y):(x.er L).flat=some y.pe:=by rw[Znb,h];rfl
mutual
def TD.owns(ids:List Nat):TD→Bool
 |.own id _ _ _=>ids.contains id
 |.agg ds=>TD.ownss ids ds
 |_=>false
def TD.ownss(ids:List Nat):List TD→Bool
 |[]=>false
 |d::r=>d.owns ids || TD.ownss ids r
end
mutual
theorem ZJB{L:Lk}{ids:List Nat}:∀(d:TD),(d.er L).owns ids=d.owns ids
 |.p x=>rfl
 |.own id nn t c=>rfl
 |.agg ds=>by rw[TD.er,Dv.owns,TD.owns,ownss_er ds]
 |.elem _=>rfl
 |.ref _ _=>rfl
 |.view _ _ _ _ _=>rfl
 |.arr _ _ _=>rfl
 |.fn _ _=>rfl
 |.iface _ _=>rfl
 |.tup _=>rfl
 |.mp _=>rfl
 |.rv _ _ _ _ _=>rfl
 |.rref _ _ _=>rfl
 |.rw _=>rfl
 |.rp _ _=>rfl
 |.junk=>rfl
theorem ownss_er{L:Lk}{ids:List Nat}:∀(ds:List TD),Dv.ownss ids (TD.ers L ds)=TD.ownss ids ds
 |[]=>rfl
 |d::r=>by rw[TD.ers,Dv.ownss,TD.ownss,ZJB d,ownss_er r]
end
def TD.melt(L:Lk)(ds:List TD):TD:=
 match TD.flats L ds with
 |some xs=>.p (.agg xs)
 |none=>.agg ds
theorem ZD8{L:Lk}(ds:List TD):(TD.melt L ds).er L=Dv.melt (TD.ers L ds):=by
 unfold TD.melt Dv.melt;rw[flats_er];cases TD.flats L ds <;> rfl
section
variable{L:Lk}{P:yg}{o:Oper}{ts:List TD}{O:Type}
def okB(P:yg)(e:yb)(s:Nat):Bool:=decide (P.cellsOf e=s)&&(P.info? e).isSome
def ZCl(L:Lk)(P:yg)(t:yb)(i:Nat)(K:TD→List Hint→Option O):TD→Option O
 |.p x=>(x.fld i).bind λz=>if(VU P t (.p x.pe) i).isSome then K (.p z) [] else none
 |.agg ds=>(ds[i]?).bind λz=>if(VU P t (.agg (TD.ers L ds)) i).isSome then K z [] else none
 |_=>none
theorem Zqa{t:yb}{i:Nat}{K:TD→List Hint→Option O}{x:TD}{out:O}(h:ZCl L P t i K x=some out):∃d,K d []=some out∧VU P t (x.er L) i=some (d.er L):=by
 unfold ZCl at h;split at h
 ·rename_i x;obtain⟨z,h1,h2⟩:=yc.1 h;obtain⟨h3,h4⟩:=Za h2;refine⟨_,h4, ?_⟩;obtain⟨xs,e1,e2⟩:=ZGY h1;rw[TD.er];obtain⟨d,hd⟩:=Option.isSome_iff_exists.1 h3;rw[hd];unfold VU at hd;rw[e1] at hd;split at hd
  ·rename_i hx;cases hx;rw[e2] at hd;dsimp only at hd;split at hd
   ·cases hd;rfl
   ·cases hd
  ·rename_i hx;cases hx
  ·cases hd
 ·rename_i ds;obtain⟨z,h1,h2⟩:=yc.1 h;obtain⟨h3,h4⟩:=Za h2;refine⟨_,h4, ?_⟩;have e2:=Vp (L:=L) h1;rw[TD.er];obtain⟨d,hd⟩:=Option.isSome_iff_exists.1 h3;rw[hd];unfold VU at hd;split at hd
  ·rename_i hx;cases hx
  ·rename_i hx;cases hx;rw[e2] at hd;dsimp only at hd;split at hd
   ·cases hd;rfl
   ·cases hd
  ·cases hd
 ·cases h
theorem V4(l:List Stp)(q:Stp):Xl (l++[q])=Xl l+q.o:=by simp[Xl]
def ZlW(P:yg)(t:yb)(i:Nat)(K:TD→List Hint→Option O):TD→Option O
 |.ref id path=>match P.underlying t with
  |some (.struct fs)=>match fs[i]? with
   |some f=>if P.cellsOf f.type !=0&&(P.info? f.type).isSome then K (.ref id (path++[.fld i f.offset])) [] else none
   |none=>none
  |_=>none
 |.rref id v path=>match P.underlying t with
  |some (.struct fs)=>match fs[i]? with
   |some f=>if P.cellsOf f.type !=0&&(P.info? f.type).isSome then K (.rref id v (path++[.fld i f.offset])) [] else none
   |none=>none
  |_=>none
 |.rp id path=>match P.underlying t with
  |some (.struct fs)=>match fs[i]? with
   |some f=>if P.cellsOf f.type !=0&&(P.info? f.type).isSome then K (.rp id (path++[.fld i f.offset])) [] else none
   |none=>none
  |_=>none
 |.elem x=>(x.fld i).bind λz=>if(VU P t (.p x.pe) i).isSome then K (.elem z) [] else none
 |_=>none
theorem Zq4{t:yb}{i:Nat}{x:yn}{K:TD→List Hint→Option O}{xd:TD}{out:O}(ho:o.op=.fieldAddr t x i)(hx:arT P ts 0 x=some xd)(h:ZlW P t i K xd=some out):∃d hs,K d hs=some out∧GoodN L P o ts d hs:=by
 have hv:=Zn (L:=L) hx;unfold ZlW at h;split at h
 ·rename_i id path;split at h
  ·rename_i fs hu;split at h
   ·rename_i f hf;obtain⟨h3,h4⟩:=Za h;refine⟨_,_,h4,[],trivial,λrest=> ?_⟩;simp only[yv];unfold evN;rw[ho];dsimp only;rw[hu,hv];dsimp only[TD.er];rw[hf];dsimp only;rw[if_pos h3,yaj,V4];rfl
   ·cases h
  ·cases h
 ·rename_i id v path;split at h
  ·rename_i fs hu;split at h
   ·rename_i f hf;obtain⟨h3,h4⟩:=Za h;refine⟨_,_,h4,[],trivial,λrest=> ?_⟩;simp only[yv];unfold evN;rw[ho];dsimp only;rw[hu,hv];dsimp only[TD.er];rw[hf];dsimp only;rw[if_pos h3,yaj,V4];rfl
   ·cases h
  ·cases h
 ·rename_i id path;split at h
  ·rename_i fs hu;split at h
   ·rename_i f hf;obtain⟨h3,h4⟩:=Za h;refine⟨_,_,h4,[],trivial,λrest=> ?_⟩;simp only[yv];unfold evN;rw[ho];dsimp only;rw[hu,hv];dsimp only[TD.er];rw[hf];dsimp only;rw[if_pos h3,yaj,V4];rfl
   ·cases h
  ·cases h
 ·rename_i x;obtain⟨z,h1,h2⟩:=yc.1 h;obtain⟨h3,h4⟩:=Za h2;refine⟨_,_,h4,[],trivial,λrest=> ?_⟩;obtain⟨d,hd,he⟩:=Zqa (L:=L) (P:=P) (t:=t) (i:=i) (K:=λd _=>some d) (x:=.p x) (out:=.p z) (by show(x.fld i).bind _=_;rw[h1];exact if_pos h3);cases hd;simp only[yv];unfold evN;rw[ho];dsimp only;rw[hv]
  have hu:∃fs,P.underlying t=some (.struct fs):=by
   unfold VU at h3;split at h3
   ·exact⟨_,by assumption⟩
   ·exact⟨_,by assumption⟩
   ·cases h3
  obtain⟨fs,hu⟩:=hu;rw[hu];dsimp only[TD.er] at he ⊢;rw[he]
 ·cases h
theorem Znd{t:Ty}{l:List t.den}{i:Nat}{y:t.den}(h:l[i]? =some y):(l.map t.enc)[i]? =some (t.enc y):=by rw[yaf,h];rfl
def ZlX(L:Lk)(P:yg)(t:yb)(i:Int)(K:TD→List Hint→Option O)(xd:TD):Option O:=
 match P.underlying t,xd with
 |some (.slice e),.view id path s lo n=>if okB P e s=true then if inB i n=true then K (.ref id (path++[.ix (lo+i.toNat) s])) [] else none else none
 |some (.slice e),.rv id v s lo n=>if okB P e s=true then if inB i n=true then K (.rref id v [.ix (lo+i.toNat) s]) [] else none else none
 |some (.slice e),xd=>(xd.row L).bind λr=>if okB P e r.t.size=true then(idx r.l i).bind λy=>K (.elem (.v r.t y)) [.el (r.t.enc y)] else none
 |some (.array n e),.ref id path=>if(P.info? e).isSome then if inB i n=true then K (.ref id (path++[.ix i.toNat (P.cellsOf e)])) [] else none else none
 |some (.array n e),.rref id v path=>if(P.info? e).isSome then if inB i n=true then K (.rref id v (path++[.ix i.toNat (P.cellsOf e)])) [] else none else none
 |some (.array n e),.rp id path=>if(P.info? e).isSome then if inB i n=true then K (.rp id (path++[.ix i.toNat (P.cellsOf e)])) [] else none else none
 |some (.array n e),.elem x=>x.arow.bind λr=>if decide (n=r.n)&&okB P e r.t.size then(idx r.l i).bind λy=>K (.elem (.v r.t y)) [.el (r.t.enc y)] else none
 |_,_=>none
theorem ZJC{e:yb}{s:Nat}(h:okB P e s=true):P.cellsOf e=s∧(P.info? e).isSome=true:=by simpa[okB] using h
theorem Zq5{t:yb}{x ix:yn}{K:TD→List Hint→Option O}{xd id:TD}{q:IntKind×Int}{ip:TP}{out:O}(ho:o.op=.indexAddr t x ix)(hx:arT P ts t x=some xd)(hi:arT P ts 0 ix=some (.p ip))(hq:ZsS ip=some q)
 (h:ZlX L P t q.2 K xd=some out):∃d hs,K d hs=some out∧GoodN L P o ts d hs:=by
 have hv:=Zn (L:=L) hx;have hw:=Zn (L:=L) hi;rw[TD.er,(Zm9 hq).1] at hw;unfold ZlX at h;split at h
 ·rename_i e id path s lo n hu;obtain⟨h3,h⟩:=Za h;obtain⟨h4,h⟩:=Za h;refine⟨_,_,h,[0≤q.2,q.2 < (n:Int)],⟨(WM h4).1,(WM h4).2,ytt⟩,λrest=> ?_⟩;simp only[yv];unfold evN;rw[ho];dsimp only;rw[hu,hv,hw];dsimp only[TD.er];rw[if_pos (by simpa[okB] using h3),yaj,V4];rfl
 ·rename_i e id v s lo n hu;obtain⟨h3,h⟩:=Za h;obtain⟨h4,h⟩:=Za h;refine⟨_,_,h,[0≤q.2,q.2 < (n:Int)],⟨(WM h4).1,(WM h4).2,ytt⟩,λrest=> ?_⟩;simp only[yv];unfold evN;rw[ho];dsimp only;rw[hu,hv,hw];dsimp only[TD.er];rw[if_pos (by simpa[okB] using h3)];simp[Xl,Stp.o,Stp.i]
 ·rename_i e hu _ _;obtain⟨r,h1,h⟩:=yc.1 h;obtain⟨h3,h⟩:=Za h;obtain⟨y,h5,h⟩:=yc.1 h;obtain⟨h6,h7⟩:=ZiT h5;refine⟨_,_,h,[0≤q.2,(r.l.map r.t.enc)[q.2.toNat]? =some (r.t.enc y)],⟨h6,Znd h7,ytt⟩,λrest=> ?_⟩;unfold evN;rw[ho];dsimp only;rcases ZeP h1 with he|⟨id,he⟩
  ·rw[hu,hv,hw,he];dsimp only;rw[yaa,yv];dsimp only;rw[if_pos (by simpa[okB] using h3)];rfl
  ·rw[hu,hv,hw,he];dsimp only;rw[yaa,yv];dsimp only;rw[if_pos (by simpa[okB] using h3)];rfl
 ·rename_i n e id path hu;obtain⟨h3,h⟩:=Za h;obtain⟨h4,h⟩:=Za h;refine⟨_,_,h,[0≤q.2,q.2 < (n:Int)],⟨(WM h4).1,(WM h4).2,ytt⟩,λrest=> ?_⟩;simp only[yv];unfold evN;rw[ho];dsimp only;rw[hu,hv,hw];dsimp only[TD.er];rw[if_pos h3,yaj,V4];rfl
 ·rename_i n e id v path hu;obtain⟨h3,h⟩:=Za h;obtain⟨h4,h⟩:=Za h;refine⟨_,_,h,[0≤q.2,q.2 < (n:Int)],⟨(WM h4).1,(WM h4).2,ytt⟩,λrest=> ?_⟩;simp only[yv];unfold evN;rw[ho];dsimp only;rw[hu,hv,hw];dsimp only[TD.er];rw[if_pos h3,yaj,V4];rfl
 ·rename_i n e id path hu;obtain⟨h3,h⟩:=Za h;obtain⟨h4,h⟩:=Za h;refine⟨_,_,h,[0≤q.2,q.2 < (n:Int)],⟨(WM h4).1,(WM h4).2,ytt⟩,λrest=> ?_⟩;simp only[yv];unfold evN;rw[ho];dsimp only;rw[hu,hv,hw];dsimp only[TD.er];rw[if_pos h3,yaj,V4];rfl
 ·rename_i n e x hu;obtain⟨r,h1,h⟩:=yc.1 h;obtain⟨h3,h⟩:=Za h;obtain⟨y,h5,h⟩:=yc.1 h;obtain⟨h6,h7⟩:=ZiT h5;refine⟨_,_,h,[0≤q.2,(r.l.map r.t.enc)[q.2.toNat]? =some (r.t.enc y)],⟨h6,Znd h7,ytt⟩,λrest=> ?_⟩;unfold evN;rw[ho];dsimp only;rw[hu,hv,hw,TD.er,Wj h1];rw[yaa,yv];dsimp only;rw[if_pos (by simpa[okB,and_assoc] using h3)];rfl
 ·cases h
def Zfz(s:ByteArray):List UInt8:=s.data.toList
def TP.strB:TP→Option ByteArray
 |.v .str s=>some s
 |_=>none
theorem ZD9{x:TP}{s:ByteArray}(h:x.strB=some s):x.pe=.str s:=by
 unfold TP.strB at h;split at h
 ·cases h;rfl
 ·cases h
def TP.boolB:TP→Option Bool
 |.v .bool s=>some s
 |_=>none
theorem ZGZ{x:TP}{s:Bool}(h:x.boolB=some s):x.pe=.bool s:=by
 unfold TP.boolB at h;split at h
 ·cases h;rfl
 ·cases h
def ZCm(P:yg)(t:yb)(i:Int)(K:TD→List Hint→Option O)(x:TP):Option O:=
 match P.underlying t with
 |some (.array n e)=>match x with
  |.arr n' s xs=>if decide (n=n')&&okB P e s&&((P.underlying e).isSome&&s !=0) then(idx xs i).bind λy=>if(Y5 P e==y.pe.isAgg)=true then K (.p y) [.el y.pe] else none else none
  |x=>x.arow.bind λr=>if decide (n=r.n)&&okB P e r.t.size&&(Y5 P e==r.t.isAgg&&((P.underlying e).isSome&&r.t.size !=0)) then(idx r.l i).bind λy=>K (.p (.v r.t y)) [.el (r.t.enc y)] else none
 |some .string=>x.strB.bind λs=>(idx (Zfz s) i).bind λb=>K (.p (.v .u8 b)) [.el (.int .u8 (b.toNat:Int))]
 |_=>none
theorem ZAl{t:yb}{x ix:yn}{K:TD→List Hint→Option O}{xp:TP}{q:IntKind×Int}{ip:TP}{out:O}(ho:o.op=.index t x ix)(hx:arT P ts t x=some (.p xp))(hi:arT P ts 0 ix=some (.p ip))(hq:ZsS ip=some q)
 (h:ZCm P t q.2 K xp=some out):∃d hs,K d hs=some out∧GoodN L P o ts d hs:=by
 have hv:=Zn (L:=L) hx;have hw:=Zn (L:=L) hi;rw[TD.er,(Zm9 hq).1] at hw;unfold ZCm at h;split at h
 ·rename_i n e hu;split at h
  ·rename_i n' s xs;obtain⟨h3,h⟩:=Za h;obtain⟨y,h5,h⟩:=yc.1 h;obtain⟨h8,h⟩:=Za h;obtain⟨h6,h7⟩:=ZiT h5;refine⟨_,_,h,[0≤q.2,(TP.pes xs)[q.2.toNat]? =some y.pe],⟨h6,by rw[XS,yaf,h7];rfl,ytt⟩,λrest=> ?_⟩;unfold evN;rw[ho];dsimp only;rw[hu,hv,hw,TD.er,TP.pe];rw[yaa,yv];dsimp only;simp only[okB,yi,decide_eq_true_eq] at h3;rw[if_pos (by simp only[yi,decide_eq_true_eq];exact⟨⟨⟨⟨⟨h3.1.1,h3.1.2.1⟩,h8⟩,h3.2.1⟩,h3.1.2.2⟩,h3.2.2⟩)];rfl
  obtain⟨r,h1,h⟩:=yc.1 h;obtain⟨h3,h⟩:=Za h;obtain⟨y,h5,h⟩:=yc.1 h;obtain⟨h6,h7⟩:=ZiT h5;refine⟨_,_,h,[0≤q.2,(r.l.map r.t.enc)[q.2.toNat]? =some (r.t.enc y)],⟨h6,Znd h7,ytt⟩,λrest=> ?_⟩;unfold evN;rw[ho];dsimp only;rw[hu,hv,hw,TD.er,Wj h1];rw[yaa,yv];dsimp only;simp only[okB,yi,decide_eq_true_eq] at h3;rw[if_pos (by rw[Zkf];simp only[yi,decide_eq_true_eq];exact⟨⟨⟨⟨⟨h3.1.1,h3.1.2.1⟩,h3.2.1⟩,h3.2.2.1⟩,h3.1.2.2⟩,h3.2.2.2⟩)];rfl
 ·rename_i hu;obtain⟨s,h1,h⟩:=yc.1 h;obtain⟨y,h5,h⟩:=yc.1 h;obtain⟨h6,h7⟩:=ZiT h5;refine⟨_,_,h,[0≤q.2,(s.data.toList[q.2.toNat]?).map (λx:UInt8=>(x.toNat:Int))=some (y.toNat:Int)],⟨h6,by rw[show s.data.toList=Zfz s from rfl,h7];rfl,ytt⟩,λrest=> ?_⟩
  unfold evN;rw[ho];dsimp only;rw[hu,hv,hw,TD.er,ZD9 h1];rfl
 ·cases h
def ZeC(P:yg)(ts:List TD):Option yn→Option (Option Int)
 |none=>some none
 |some x=>match arT P ts 0 x with
  |some (.p y)=>(ZsS y).map λq=>some q.2
  |_=>none
theorem QL{x:Option yn}{l:Option Int}(h:ZeC P ts x=some l):ZbC P (TD.ers L ts) x=some l:=by
 cases x with
 |none=>cases h;rfl
 |some x=>
  unfold ZeC at h;dsimp only at h;split at h
  ·rename_i y hy;obtain⟨q,h1,rfl⟩:=Zc h;unfold ZbC;dsimp only;rw[Zn hy,TD.er,(Zm9 h1).1]
  ·cases h
def ZCn(L:Lk)(P:yg)(t:yb)(lo hi:Option Int)(K:TD→List Hint→Option O)(xd:TD):Option O:=
 match P.underlying t,xd with
 |some (.slice e),.view id path s l0 n=>if okB P e s=true then if ZaM n lo hi=true then K (.view id path s (l0+(lo.getD 0).toNat) ((hi.getD n).toNat - (lo.getD 0).toNat)) [] else none else none
 |some (.slice e),.rv id v s l0 n=>if okB P e s=true then if ZaM n lo hi=true then K (.rv id v s (l0+(lo.getD 0).toNat) ((hi.getD n).toNat - (lo.getD 0).toNat)) [.bare] else none else none
 |some (.slice e),xd=>(xd.row L).bind λr=>if okB P e r.t.size=true then if ZaM r.l.length lo hi=true then K (.p (.sl r.nn r.t (We r.l lo hi))) [] else none else none
 |some (.array n e),.elem x=>x.arow.bind λr=>if decide (n=r.n)&&okB P e r.t.size&&decide (n≤maxLen) then if ZaM n lo hi=true then K (.p (.sl (some true) r.t (We r.l lo hi))) [] else none else none
 |some (.array n e),.ref id path=>if(P.info? e).isSome&&decide (n≤maxLen) then if ZaM n lo hi=true then K (.view id path (P.cellsOf e) (lo.getD 0).toNat ((hi.getD n).toNat - (lo.getD 0).toNat)) [.raw] else none else none
 |_,_=>none
theorem ZAm{t:yb}{x:yn}{lo hi:Option yn}{l h':Option Int}{K:TD→List Hint→Option O}{xd:TD}{out:O}(ho:o.op=.slice t x lo hi none)(hx:arT P ts t x=some xd)(hl:ZeC P ts lo=some l)(hh:ZeC P ts hi=some h')
 (h:ZCn L P t l h' K xd=some out):∃d hs,K d hs=some out∧GoodN L P o ts d hs:=by
 have hv:=Zn (L:=L) hx;have hl:=QL (L:=L) hl;have hh:=QL (L:=L) hh;unfold ZCn at h;split at h
 ·rename_i e id path s l0 n hu;obtain⟨h3,h⟩:=Za h;obtain⟨h4,h⟩:=Za h;refine⟨_,_,h,Yt n l h',Zdy h4,λrest=> ?_⟩;simp only[yv];unfold evN;rw[ho];dsimp only;rw[hu,hv,hl,hh];dsimp only[TD.er];rw[if_pos (by simpa[okB] using h3)]
 ·rename_i e id v s l0 n hu;obtain⟨h3,h⟩:=Za h;obtain⟨h4,h⟩:=Za h;refine⟨_,_,h,Yt n l h',Zdy h4,λrest=> ?_⟩;unfold evN;rw[ho];dsimp only;rw[hu,hv,hl,hh];dsimp only[TD.er];rw[yaa,yv];dsimp only;rw[if_pos (by simpa[okB] using h3)]
 ·rename_i e hu _ _;obtain⟨r,h1,h⟩:=yc.1 h;obtain⟨h3,h⟩:=Za h;obtain⟨h4,h⟩:=Za h;refine⟨_,_,h,Yt r.l.length l h',Zdy h4,λrest=> ?_⟩;simp only[yv];unfold evN;rw[ho];dsimp only;rw[TD.er,TP.pe,ZeO];rcases ZeP h1 with he|⟨id,he⟩
  ·rw[hu,hv,hl,hh,he];dsimp only;rw[if_pos (by simpa[okB] using h3),yx]
  ·rw[hu,hv,hl,hh,he];dsimp only;rw[if_pos (by simpa[okB] using h3),yx]
 ·rename_i n e x hu;obtain⟨r,h1,h⟩:=yc.1 h;obtain⟨h3,h⟩:=Za h;obtain⟨h4,h⟩:=Za h;refine⟨_,_,h,Yt n l h',Zdy h4,λrest=> ?_⟩;simp only[yv];unfold evN;rw[ho];dsimp only;rw[hu,hv,hl,hh,show(TD.elem x).er L=.elem x.pe from rfl,Wj h1]
  dsimp only;rw[if_pos (by simpa[okB,and_assoc] using h3),TD.er,TP.pe,ZeO]
 ·rename_i n e id path hu;obtain⟨h3,h⟩:=Za h;obtain⟨h4,h⟩:=Za h;refine⟨_,_,h,Yt n l h',Zdy h4,λrest=> ?_⟩;unfold evN;rw[ho];dsimp only;rw[hu,hv,hl,hh];dsimp only[TD.er];rw[yaa,yv];dsimp only;rw[if_pos (by simpa using h3)]
 ·cases h
end
def ZJD(x:UInt8)(n:Nat):UInt8:=ybk (x.toNat*2 ^ n)
def ZLw(x:UInt8)(n:Nat):UInt8:=ybk (x.toNat / 2 ^ n)
theorem ZKW{n:Nat}(h:n < 256):IntKind.u8.wrap (n:Int)=(n:Int):=by
 simp only[IntKind.wrap,IntKind.signed,IntKind.bits];simp;omega
theorem Zkg(z:Int):IntKind.u8.wrap z=z % 256:=by
 simp only[IntKind.wrap,IntKind.signed,IntKind.bits];simp
theorem ZKX(op:BinOp)(x y:UInt8):bits op .u8 (x.toNat:Int) (y.toNat:Int)=((match op with|.and=>x&&&y|.or=>x|||y|.xor=>x^^^y|_=>x&&& ~~~y).toNat:Int):=by
 have e:∀z:UInt8,ybw (IntKind.u8.bits) (z.toNat:Int)=z.toBitVec:=λz=>by
  show ybw 8 (z.toNat:Int)=z.toBitVec;apply BitVec.eq_of_toNat_eq;rw[BitVec.ofInt_natCast,BitVec.toNat_ofNat];exact yaq (UInt8.toNat_lt z)
 unfold bits;rw[e,e];cases op <;> exact ZKW (UInt8.toNat_lt _)
def op8:BinOp→UInt8→UInt8→Option UInt8
 |.add,x,y=>some (x+y)
 |.sub,x,y=>some (x - y)
 |.mul,x,y=>some (x*y)
 |.and,x,y=>some (x&&&y)
 |.or,x,y=>some (x|||y)
 |.xor,x,y=>some (x^^^y)
 |.andNot,x,y=>some (x&&& ~~~y)
 |_,_,_=>none
theorem ZLx{op:BinOp}{x y z:UInt8}(h:op8 op x y=some z)(rest:List Hint):Yq op .u8 (x.toNat:Int) (y.toNat:Int) (.raw::rest)=some ([],.p (.int .u8 (z.toNat:Int)),rest):=by
 cases op <;> simp only[op8,yj,reduceCtorEq] at h <;> subst h
 ·simp only[Yq,ZbA,Zkg,UInt8.toNat_add];simp
 ·have e:((x.toNat:Int) - (y.toNat:Int)) % 256=((x - y).toNat:Int):=by
   rw[UInt8.toNat_sub];have:=x.toNat_lt;have:=y.toNat_lt;omega
  simp only[Yq,ZbA,Zkg,e]
 ·simp only[Yq,ZbA,Zkg,UInt8.toNat_mul];simp
 all_goals simp only[Yq,ZKX]
def dv8:BinOp→UInt8→UInt8→Option UInt8
 |.quo,x,y=>some (x / y)
 |.rem,x,y=>some (x % y)
 |_,_,_=>none
theorem ZLy{op:BinOp}{x y z:UInt8}(h:dv8 op x y=some z)(rest:List Hint):Yq op .u8 (x.toNat:Int) (y.toNat:Int) (.raw::rest)=some ([(y.toNat:Int)≠0],.p (.int .u8 (z.toNat:Int)),rest):=by
 cases op <;> simp only[dv8,yj,reduceCtorEq] at h <;> subst h
 ·simp only[Yq,UInt8.toNat_div];rw[show(x.toNat:Int).tdiv (y.toNat:Int)=((x.toNat / y.toNat:Nat):Int) from rfl,ZKW (Nat.lt_of_le_of_lt (Nat.div_le_self ..) (UInt8.toNat_lt _))]
 ·simp only[Yq,UInt8.toNat_mod];rfl
def ZLz:BinOp→UInt8→UInt8→Option Bool
 |.eql,x,y=>some (x==y)
 |.neq,x,y=>some (x !=y)
 |.lss,x,y=>some (decide (x < y))
 |.leq,x,y=>some (decide (x≤y))
 |.gtr,x,y=>some (decide (x > y))
 |.geq,x,y=>some (decide (x ≥ y))
 |_,_,_=>none
theorem ZJE{op:BinOp}{x y:UInt8}{b:Bool}(h:ZLz op x y=some b)(rest:List Hint):Yq op .u8 (x.toNat:Int) (y.toNat:Int) rest=some ([],.p (.bool b),rest):=by
 have eq:((x.toNat:Int)==(y.toNat:Int))=(x==y):=by
  rw[Bool.eq_iff_iff];simp only[beq_iff_eq, ←UInt8.toNat_inj];omega
 have lt:∀a b:UInt8,decide ((a.toNat:Int) < (b.toNat:Int))=decide (a < b):=λa b=>by
  rw[Bool.eq_iff_iff];simp[UInt8.lt_iff_toNat_lt]
 have le:∀a b:UInt8,decide ((a.toNat:Int)≤(b.toNat:Int))=decide (a≤b):=λa b=>by
  rw[Bool.eq_iff_iff];simp[UInt8.le_iff_toNat_le]
 cases op <;> simp only[ZLz,yj,reduceCtorEq] at h <;> subst h <;> simp only[Yq,GT.gt,GE.ge,lt,le,eq,bne]
theorem ZJF(x:UInt8)(y:Int)(rest:List Hint):Xw .shl .u8 (x.toNat:Int) y (.raw::rest)=some ([0≤y],.p (.int .u8 ((ZJD x (min y.toNat 8)).toNat:Int)),rest):=by
 simp only[Xw,Zkg,ZJD,UInt8.toNat_ofNat'];simp[show IntKind.u8.bits=8 from rfl]
theorem ZJG(x:UInt8)(y:Int)(rest:List Hint):Xw .shr .u8 (x.toNat:Int) y (.raw::rest)=some ([0≤y],.p (.int .u8 ((ZLw x (min y.toNat 8)).toNat:Int)),rest):=by
 simp only[Xw,ZLw,UInt8.toNat_ofNat'];congr 4;rw[show IntKind.u8.bits=8 from rfl]
 have h:x.toNat / 2 ^ min y.toNat 8 < 256:=Nat.lt_of_le_of_lt (Nat.div_le_self ..) (UInt8.toNat_lt _);rw[yaq h];rw[show((2:Int) ^ min y.toNat 8)=((2 ^ min y.toNat 8:Nat):Int) by simp,Int.fdiv_eq_ediv_of_nonneg _ (Int.natCast_nonneg _)];rfl
def ZiU(x:UInt32)(n:Nat):UInt32:=UInt32.ofNat (x.toNat*2 ^ n)
def ZhF(x:UInt32)(n:Nat):UInt32:=UInt32.ofNat (x.toNat / 2 ^ n)
theorem ZG0{n:Nat}(h:n < 4294967296):IntKind.u32.wrap (n:Int)=(n:Int):=by
 simp only[IntKind.wrap,IntKind.signed,IntKind.bits];simp;omega
theorem ZgV(z:Int):IntKind.u32.wrap z=z % 4294967296:=by
 simp only[IntKind.wrap,IntKind.signed,IntKind.bits];simp
theorem ZG1(op:BinOp)(x y:UInt32):bits op .u32 (x.toNat:Int) (y.toNat:Int)=((match op with|.and=>x&&&y|.or=>x|||y|.xor=>x^^^y|_=>x&&& ~~~y).toNat:Int):=by
 have e:∀z:UInt32,ybw (IntKind.u32.bits) (z.toNat:Int)=z.toBitVec:=λz=>by
  show ybw 32 (z.toNat:Int)=z.toBitVec;apply BitVec.eq_of_toNat_eq;rw[BitVec.ofInt_natCast,BitVec.toNat_ofNat];exact yaq (UInt32.toNat_lt z)
 unfold bits;rw[e,e];cases op <;> exact ZG0 (UInt32.toNat_lt _)
def ZLA:BinOp→UInt32→UInt32→Option UInt32
 |.add,x,y=>some (x+y)
 |.sub,x,y=>some (x - y)
 |.mul,x,y=>some (x*y)
 |.and,x,y=>some (x&&&y)
 |.or,x,y=>some (x|||y)
 |.xor,x,y=>some (x^^^y)
 |.andNot,x,y=>some (x&&& ~~~y)
 |_,_,_=>none
theorem ZJH{op:BinOp}{x y z:UInt32}(h:ZLA op x y=some z)(rest:List Hint):Yq op .u32 (x.toNat:Int) (y.toNat:Int) (.raw::rest)=some ([],.p (.int .u32 (z.toNat:Int)),rest):=by
 cases op <;> simp only[ZLA,yj,reduceCtorEq] at h <;> subst h
 ·simp only[Yq,ZbA,ZgV,UInt32.toNat_add];simp
 ·have e:((x.toNat:Int) - (y.toNat:Int)) % 4294967296=((x - y).toNat:Int):=by
   rw[UInt32.toNat_sub];have:=x.toNat_lt;have:=y.toNat_lt;omega
  simp only[Yq,ZbA,ZgV,e]
 ·simp only[Yq,ZbA,ZgV,UInt32.toNat_mul];simp
 all_goals simp only[Yq,ZG1]
def ZLB:BinOp→UInt32→UInt32→Option UInt32
 |.quo,x,y=>some (x / y)
 |.rem,x,y=>some (x % y)
 |_,_,_=>none
theorem ZJI{op:BinOp}{x y z:UInt32}(h:ZLB op x y=some z)(rest:List Hint):Yq op .u32 (x.toNat:Int) (y.toNat:Int) (.raw::rest)=some ([(y.toNat:Int)≠0],.p (.int .u32 (z.toNat:Int)),rest):=by
 cases op <;> simp only[ZLB,yj,reduceCtorEq] at h <;> subst h
 ·simp only[Yq,UInt32.toNat_div];rw[show(x.toNat:Int).tdiv (y.toNat:Int)=((x.toNat / y.toNat:Nat):Int) from rfl,ZG0 (Nat.lt_of_le_of_lt (Nat.div_le_self ..) (UInt32.toNat_lt _))]
 ·simp only[Yq,UInt32.toNat_mod];rfl
def ZG2:BinOp→UInt32→UInt32→Option Bool
 |.eql,x,y=>some (x==y)
 |.neq,x,y=>some (x !=y)
 |.lss,x,y=>some (decide (x < y))
 |.leq,x,y=>some (decide (x≤y))
 |.gtr,x,y=>some (decide (x > y))
 |.geq,x,y=>some (decide (x ≥ y))
 |_,_,_=>none
theorem ZG3{op:BinOp}{x y:UInt32}{b:Bool}(h:ZG2 op x y=some b)(rest:List Hint):Yq op .u32 (x.toNat:Int) (y.toNat:Int) rest=some ([],.p (.bool b),rest):=by
 have eq:((x.toNat:Int)==(y.toNat:Int))=(x==y):=by
  rw[Bool.eq_iff_iff];simp only[beq_iff_eq, ←UInt32.toNat_inj];omega
 have lt:∀a b:UInt32,decide ((a.toNat:Int) < (b.toNat:Int))=decide (a < b):=λa b=>by
  rw[Bool.eq_iff_iff];simp[UInt32.lt_iff_toNat_lt]
 have le:∀a b:UInt32,decide ((a.toNat:Int)≤(b.toNat:Int))=decide (a≤b):=λa b=>by
  rw[Bool.eq_iff_iff];simp[UInt32.le_iff_toNat_le]
 cases op <;> simp only[ZG2,yj,reduceCtorEq] at h <;> subst h <;> simp only[Yq,GT.gt,GE.ge,lt,le,eq,bne]
theorem ZG4(x:UInt32)(y:Int)(rest:List Hint):Xw .shl .u32 (x.toNat:Int) y (.raw::rest)=some ([0≤y],.p (.int .u32 ((ZiU x (min y.toNat 32)).toNat:Int)),rest):=by
 simp only[Xw,ZgV,ZiU,ycq];simp[show IntKind.u32.bits=32 from rfl]
theorem ZG5(x:UInt32)(y:Int)(rest:List Hint):Xw .shr .u32 (x.toNat:Int) y (.raw::rest)=some ([0≤y],.p (.int .u32 ((ZhF x (min y.toNat 32)).toNat:Int)),rest):=by
 simp only[Xw,ZhF,ycq];congr 4;rw[show IntKind.u32.bits=32 from rfl]
 have h:x.toNat / 2 ^ min y.toNat 32 < 4294967296:=Nat.lt_of_le_of_lt (Nat.div_le_self ..) (UInt32.toNat_lt _);rw[yaq h];rw[show((2:Int) ^ min y.toNat 32)=((2 ^ min y.toNat 32:Nat):Int) by simp,Int.fdiv_eq_ediv_of_nonneg _ (Int.natCast_nonneg _)];rfl
def Vz(x:UInt64)(n:Nat):UInt64:=yal (x.toNat*2 ^ n)
def ZC(x:UInt64)(n:Nat):UInt64:=yal (x.toNat / 2 ^ n)
theorem ZEa{n:Nat}(h:n < 18446744073709551616):IntKind.u64.wrap (n:Int)=(n:Int):=by
 simp only[IntKind.wrap,IntKind.signed,IntKind.bits];simp;omega
theorem ZeQ(z:Int):IntKind.u64.wrap z=z % 18446744073709551616:=by
 simp only[IntKind.wrap,IntKind.signed,IntKind.bits];simp
theorem ZG6(op:BinOp)(x y:UInt64):bits op .u64 (x.toNat:Int) (y.toNat:Int)=((match op with|.and=>x&&&y|.or=>x|||y|.xor=>x^^^y|_=>x&&& ~~~y).toNat:Int):=by
 have e:∀z:UInt64,ybw (IntKind.u64.bits) (z.toNat:Int)=z.toBitVec:=λz=>by
  show ybw 64 (z.toNat:Int)=z.toBitVec;apply BitVec.eq_of_toNat_eq;rw[BitVec.ofInt_natCast,BitVec.toNat_ofNat];exact yaq (yca z)
 unfold bits;rw[e,e];cases op <;> exact ZEa (yca _)
def ZLC:BinOp→UInt64→UInt64→Option UInt64
 |.add,x,y=>some (x+y)
 |.sub,x,y=>some (x - y)
 |.mul,x,y=>some (x*y)
 |.and,x,y=>some (x&&&y)
 |.or,x,y=>some (x|||y)
 |.xor,x,y=>some (x^^^y)
 |.andNot,x,y=>some (x&&& ~~~y)
 |_,_,_=>none
theorem ZJJ{op:BinOp}{x y z:UInt64}(h:ZLC op x y=some z)(rest:List Hint):Yq op .u64 (x.toNat:Int) (y.toNat:Int) (.raw::rest)=some ([],.p (.int .u64 (z.toNat:Int)),rest):=by
 cases op <;> simp only[ZLC,yj,reduceCtorEq] at h <;> subst h
 ·simp only[Yq,ZbA,ZeQ,UInt64.toNat_add];simp
 ·have e:((x.toNat:Int) - (y.toNat:Int)) % 18446744073709551616=((x - y).toNat:Int):=by
   rw[UInt64.toNat_sub];have:=x.toNat_lt;have:=y.toNat_lt;omega
  simp only[Yq,ZbA,ZeQ,e]
 ·simp only[Yq,ZbA,ZeQ,UInt64.toNat_mul];simp
 all_goals simp only[Yq,ZG6]
def ZLD:BinOp→UInt64→UInt64→Option UInt64
 |.quo,x,y=>some (x / y)
 |.rem,x,y=>some (x % y)
 |_,_,_=>none
theorem ZJK{op:BinOp}{x y z:UInt64}(h:ZLD op x y=some z)(rest:List Hint):Yq op .u64 (x.toNat:Int) (y.toNat:Int) (.raw::rest)=some ([(y.toNat:Int)≠0],.p (.int .u64 (z.toNat:Int)),rest):=by
 cases op <;> simp only[ZLD,yj,reduceCtorEq] at h <;> subst h
 ·simp only[Yq,UInt64.toNat_div];rw[show(x.toNat:Int).tdiv (y.toNat:Int)=((x.toNat / y.toNat:Nat):Int) from rfl,ZEa (Nat.lt_of_le_of_lt (Nat.div_le_self ..) (yca _))]
 ·simp only[Yq,UInt64.toNat_mod];rfl
def ZG7:BinOp→UInt64→UInt64→Option Bool
 |.eql,x,y=>some (x==y)
 |.neq,x,y=>some (x !=y)
 |.lss,x,y=>some (decide (x < y))
 |.leq,x,y=>some (decide (x≤y))
 |.gtr,x,y=>some (decide (x > y))
 |.geq,x,y=>some (decide (x ≥ y))
 |_,_,_=>none
theorem ZG8{op:BinOp}{x y:UInt64}{b:Bool}(h:ZG7 op x y=some b)(rest:List Hint):Yq op .u64 (x.toNat:Int) (y.toNat:Int) rest=some ([],.p (.bool b),rest):=by
 have eq:((x.toNat:Int)==(y.toNat:Int))=(x==y):=by
  rw[Bool.eq_iff_iff];simp only[beq_iff_eq, ←yck];omega
 have lt:∀a b:UInt64,decide ((a.toNat:Int) < (b.toNat:Int))=decide (a < b):=λa b=>by
  rw[Bool.eq_iff_iff];simp[UInt64.lt_iff_toNat_lt]
 have le:∀a b:UInt64,decide ((a.toNat:Int)≤(b.toNat:Int))=decide (a≤b):=λa b=>by
  rw[Bool.eq_iff_iff];simp[UInt64.le_iff_toNat_le]
 cases op <;> simp only[ZG7,yj,reduceCtorEq] at h <;> subst h <;> simp only[Yq,GT.gt,GE.ge,lt,le,eq,bne]
theorem ZG9(x:UInt64)(y:Int)(rest:List Hint):Xw .shl .u64 (x.toNat:Int) y (.raw::rest)=some ([0≤y],.p (.int .u64 ((Vz x (min y.toNat 64)).toNat:Int)),rest):=by
 simp only[Xw,ZeQ,Vz,ybo];simp[show IntKind.u64.bits=64 from rfl]
theorem ZHa(x:UInt64)(y:Int)(rest:List Hint):Xw .shr .u64 (x.toNat:Int) y (.raw::rest)=some ([0≤y],.p (.int .u64 ((ZC x (min y.toNat 64)).toNat:Int)),rest):=by
 simp only[Xw,ZC,ybo];congr 4;rw[show IntKind.u64.bits=64 from rfl]
 have h:x.toNat / 2 ^ min y.toNat 64 < 18446744073709551616:=Nat.lt_of_le_of_lt (Nat.div_le_self ..) (yca _);rw[yaq h];rw[show((2:Int) ^ min y.toNat 64)=((2 ^ min y.toNat 64:Nat):Int) by simp,Int.fdiv_eq_ediv_of_nonneg _ (Int.natCast_nonneg _)];rfl
inductive Num where
 |u8 (x:UInt8)|u32 (x:UInt32)|u64 (x:UInt64)
 |i (k:IntKind) (x:Int)
def TP.num:TP→Option Num
 |.v (.int k) n=>if ZLu k then some (.i k n) else none
 |.v .u8 b=>some (.u8 b)
 |.v .u32 b=>some (.u32 b)
 |.v .u64 b=>some (.u64 b)
 |_=>none
def Num.k:Num→IntKind
 |.u8 _=>.u8|.u32 _=>.u32|.u64 _=>.u64|.i k _=>k
def Num.n:Num→Int
 |.u8 x=>(x.toNat:Int)|.u32 x=>(x.toNat:Int)|.u64 x=>(x.toNat:Int)|.i _ x=>x
theorem ZLE{x:TP}{a:Num}(h:x.num=some a):x.pe=.int a.k a.n:=by
 unfold TP.num at h;split at h
 ·split at h
  ·cases h;rfl
  ·cases h
 ·cases h;rfl
 ·cases h;rfl
 ·cases h;rfl
 ·cases h
def TD.num:TD→Option Num
 |.p x=>x.num
 |_=>none
theorem Vq{L:Lk}{x:TD}{a:Num}(h:x.num=some a):x.er L=.p (.int a.k a.n):=by
 unfold TD.num at h;split at h
 ·rw[TD.er,ZLE h]
 ·cases h
section
variable{L:Lk}{P:yg}{o:Oper}{ts:List TD}{O:Type}
def ZOC:BinOp→Bool
 |.eql|.neq|.lss|.leq|.gtr|.geq=>true
 |_=>false
def ZLF:BinOp→Int→Int→Option Bool
 |.eql,x,y=>some (x==y)
 |.neq,x,y=>some (x !=y)
 |.lss,x,y=>some (decide (x < y))
 |.leq,x,y=>some (decide (x≤y))
 |.gtr,x,y=>some (decide (x > y))
 |.geq,x,y=>some (decide (x ≥ y))
 |_,_,_=>none
theorem ZJL{op:BinOp}{k:IntKind}{x y:Int}{b:Bool}(h:ZLF op x y=some b)(rest:List Hint):Yq op k x y rest=some ([],.p (.bool b),rest):=by
 cases op <;> simp only[ZLF,yj,reduceCtorEq] at h <;> subst h <;> rfl
def opI(k:IntKind):BinOp→Int→Int→Option Int
 |.add,x,y=>some (k.wrap (x+y))
 |.sub,x,y=>some (k.wrap (x - y))
 |.mul,x,y=>some (k.wrap (x*y))
 |.and,x,y=>some (bits .and k x y)
 |.or,x,y=>some (bits .or k x y)
 |.xor,x,y=>some (bits .xor k x y)
 |.andNot,x,y=>some (bits .andNot k x y)
 |_,_,_=>none
theorem ZLG{op:BinOp}{k:IntKind}{x y z:Int}(h:opI k op x y=some z)(rest:List Hint):Yq op k x y (.raw::rest)=some ([],.p (.int k z),rest):=by
 cases op <;> simp only[opI,yj,reduceCtorEq] at h <;> subst h <;> rfl
def dvI(k:IntKind):BinOp→Int→Int→Option Int
 |.quo,x,y=>some (k.wrap (x.tdiv y))
 |.rem,x,y=>some (x.tmod y)
 |_,_,_=>none
theorem ZLH{op:BinOp}{k:IntKind}{x y z:Int}(h:dvI k op x y=some z)(rest:List Hint):Yq op k x y (.raw::rest)=some ([y≠0],.p (.int k z),rest):=by
 cases op <;> simp only[dvI,yj,reduceCtorEq] at h <;> subst h <;> rfl
def orN(b:Option Bool)(o:Option TP)(d:Option TP)(nz:Bool)(K:TD→List Hint→Option O):Option O:=
 match b,o,d with
 |some b,_,_=>K (.p (.v .bool b)) []
 |none,some z,_=>K (.p z) [.raw]
 |none,none,some z=>if nz=true then K (.p z) [.raw] else none
 |none,none,none=>none
def ZCo(op:BinOp)(x y:Num)(K:TD→List Hint→Option O):Option O:=
 match x,y with
 |.u8 a,.u8 b=>orN (ZLz op a b) ((op8 op a b).map (.v .u8)) ((dv8 op a b).map (.v .u8)) (b !=0) K
 |.u32 a,.u32 b=>orN (ZG2 op a b) ((ZLA op a b).map (.v .u32)) ((ZLB op a b).map (.v .u32)) (b !=0) K
 |.u64 a,.u64 b=>orN (ZG7 op a b) ((ZLC op a b).map (.v .u64)) ((ZLD op a b).map (.v .u64)) (b !=0) K
 |.i k a,.i l b=>if k=l∧ZLu k=true then orN (ZLF op a b) ((opI k op a b).map (.v (.int k))) ((dvI k op a b).map (.v (.int k))) (b !=0) K else none
 |_,_=>none
theorem Zne{k:IntKind}{op:BinOp}{x y:Int}{b:Option Bool}{o d:Option TP}{nz:Bool}{K:TD→List Hint→Option O}{out:O}(h:orN b o d nz K=some out)
 (hb:∀c,b=some c→∀rest,Yq op k x y rest=some ([],.p (.bool c),rest))
 (ho:∀z,o=some z→∀rest,Yq op k x y (.raw::rest)=some ([],.p z.pe,rest))
 (hd:∀z,d=some z→∀rest,Yq op k x y (.raw::rest)=some ([y≠0],.p z.pe,rest)) (hz:nz=true→y≠0):
 ∃d hs C,K d hs=some out∧AllP C∧∀rest,Yq op k x y (hs++rest)=some (C,d.er L,rest):=by
 unfold orN at h;split at h
 ·exact⟨_,_,[],h,trivial,hb _ rfl⟩
 ·exact⟨_,_,[],h,trivial,ho _ rfl⟩
 ·obtain⟨h1,h2⟩:=Za h;exact⟨_,_,[y≠0],h2,⟨hz h1,ytt⟩,hd _ rfl⟩
 ·cases h
theorem ZAn{op:BinOp}{x y:Num}{K:TD→List Hint→Option O}{out:O}(h:ZCo op x y K=some out):
 x.k=y.k∧∃d hs C,K d hs=some out∧AllP C∧∀rest,Yq op x.k x.n y.n (hs++rest)=some (C,d.er L,rest):=by
 unfold ZCo at h;split at h
 ·rename_i a b;refine⟨rfl,Zne h (λc hc=>ZJE hc) (λz hz=> ?_) (λz hz=> ?_) (λhz=> ?_)⟩
  ·obtain⟨q,h1,rfl⟩:=Zc hz;exact ZLx h1
  ·obtain⟨q,h1,rfl⟩:=Zc hz;exact ZLy h1
  ·simp only[bne_iff_ne,ne_eq] at hz;intro e;exact hz (UInt8.toNat_inj.1 (by simp only[Num.n] at e;show b.toNat=0;omega))
 ·rename_i a b;refine⟨rfl,Zne h (λc hc=>ZG3 hc) (λz hz=> ?_) (λz hz=> ?_) (λhz=> ?_)⟩
  ·obtain⟨q,h1,rfl⟩:=Zc hz;exact ZJH h1
  ·obtain⟨q,h1,rfl⟩:=Zc hz;exact ZJI h1
  ·simp only[bne_iff_ne,ne_eq] at hz;intro e;exact hz (UInt32.toNat_inj.1 (by simp only[Num.n] at e;show b.toNat=0;omega))
 ·rename_i a b;refine⟨rfl,Zne h (λc hc=>ZG8 hc) (λz hz=> ?_) (λz hz=> ?_) (λhz=> ?_)⟩
  ·obtain⟨q,h1,rfl⟩:=Zc hz;exact ZJJ h1
  ·obtain⟨q,h1,rfl⟩:=Zc hz;exact ZJK h1
  ·simp only[bne_iff_ne,ne_eq] at hz;intro e;exact hz (yck.1 (by simp only[Num.n] at e;show b.toNat=0;omega))
 ·rename_i k a l b;split at h
  ·rename_i e;obtain⟨rfl,e⟩:=e;refine⟨rfl,Zne h (λc hc=>ZJL hc) (λz hz=> ?_) (λz hz=> ?_) (λhz=> ?_)⟩
   ·obtain⟨q,h1,rfl⟩:=Zc hz;exact ZLG h1
   ·obtain⟨q,h1,rfl⟩:=Zc hz;exact ZLH h1
   ·simpa[Num.n] using hz
  ·cases h
 ·cases h
def ZCp:Num→Bool
 |.i _ n=>decide (0≤n)
 |_=>true
theorem ZCq{x:Num}(h:ZCp x=true):0≤x.n:=by
 cases x <;> simp only[ZCp,Num.n,decide_eq_true_eq] at h ⊢ <;> omega
def shN(op:BinOp)(x y:Num):Option TP:=
 match op,x with
 |.shl,.u8 a=>some (.v .u8 (ZJD a (min y.n.toNat 8)))
 |.shl,.u32 a=>some (.v .u32 (ZiU a (min y.n.toNat 32)))
 |.shl,.u64 a=>some (.v .u64 (Vz a (min y.n.toNat 64)))
 |.shl,.i k a=>some (.v (.int k) (k.wrap (a*2 ^ min y.n.toNat k.bits)))
 |.shr,.u8 a=>some (.v .u8 (ZLw a (min y.n.toNat 8)))
 |.shr,.u32 a=>some (.v .u32 (ZhF a (min y.n.toNat 32)))
 |.shr,.u64 a=>some (.v .u64 (ZC a (min y.n.toNat 64)))
 |.shr,.i k a=>some (.v (.int k) (a.fdiv (2 ^ min y.n.toNat k.bits)))
 |_,_=>none
theorem ZLI{op:BinOp}{x y:Num}{z:TP}(h:shN op x y=some z)(rest:List Hint):Xw op x.k x.n y.n (.raw::rest)=some ([0≤y.n],.p z.pe,rest):=by
 unfold shN at h
 split at h <;> first
  |(cases h;first|exact ZJF .. |exact ZG4 .. |exact ZG9 .. |exact ZJG .. |exact ZG5 .. |exact ZHa .. |rfl)
  |cases h
mutual
def Ty.flat:Ty→Bool
 |.sl _=>false
 |.str=>false
 |.arr _ t=>Ty.flat t
 |.st fs=>Ty.flats fs
 |_=>true
def Ty.flats:List Ty→Bool
 |[]=>true
 |t::r=>Ty.flat t&&Ty.flats r
end
mutual
theorem Znf:∀(t:Ty)(x y:t.den),t.flat=true→t.enc x=t.enc y→x=y
 |.int k,x,y,_,h=>by injection h
 |.u8,x,y,_,h=>by injection h with _ h;exact UInt8.toNat_inj.1 (by omega)
 |.u32,x,y,_,h=>by injection h with _ h;exact UInt32.toNat_inj.1 (by omega)
 |.u64,x,y,_,h=>by injection h with _ h;exact yck.1 (by omega)
 |.bool,x,y,_,h=>by injection h
 |.str,_,_,hf,_=>nomatch hf
 |.sl _,_,_,hf,_=>nomatch hf
 |.arr n t,x,y,hf,h=>by
  injection h with _ _ h
  exact ZDZ (λa b e=>Znf t a b hf e) h
 |.st fs,x,y,hf,h=>by
  injection h with h;exact encs_inj fs x y hf h
theorem encs_inj:∀(fs:List Ty)(x y:Ty.dens fs),Ty.flats fs=true→Ty.encs fs x=Ty.encs fs y→x=y
 |[],_,_,_,_=>rfl
 |[t],x,y,hf,h=>by
  simp only[Ty.encs,List.cons.injEq,and_true] at h;simp only[Ty.flats,Bool.and_true] at hf
  exact Znf t x y hf h
 |t::u::r,x,y,hf,h=>by
  have h':t.enc x.1::Ty.encs (u::r) x.2=t.enc y.1::Ty.encs (u::r) y.2:=h;have hf':(t.flat&&Ty.flats (u::r))=true:=hf;rw[yi] at hf';injection h' with h1 h2;exact Prod.ext (Znf t x.1 y.1 hf'.1 h1) (encs_inj (u::r) x.2 y.2 hf'.2 h2)
end
mutual
def Ty.deq:(t:Ty)→DecidableEq t.den
 |.int _=>inferInstanceAs (DecidableEq Int)
 |.u8=>inferInstanceAs (DecidableEq UInt8)
 |.u32=>inferInstanceAs (DecidableEq UInt32)
 |.u64=>inferInstanceAs (DecidableEq UInt64)
 |.bool=>inferInstanceAs (DecidableEq Bool)
 |.str=>inferInstanceAs (DecidableEq ByteArray)
 |.sl t=>@instDecidableEqList t.den (Ty.deq t)
 |.arr _ t=>@instDecidableEqList t.den (Ty.deq t)
 |.st fs=>Ty.deqs fs
def Ty.deqs:(fs:List Ty)→DecidableEq (Ty.dens fs)
 |[]=>inferInstanceAs (DecidableEq Unit)
 |[t]=>Ty.deq t
 |t::u::r=>@instDecidableEqProd t.den (Ty.dens (u::r)) (Ty.deq t) (Ty.deqs (u::r))
end
mutual
def ZAo(P:yg):Nat→yb→Ty→Bool
 |0,_,_=>false
 |n+1,t,T=>match P.underlying t,T with
  |some .bool,.bool=>true
  |some (.int .u8),.u8=>true
  |some (.int .u32),.u32=>true
  |some (.int .u64),.u64=>true
  |some (.int k),.int l=>decide (k=l)
  |some (.array m e),.arr m' U=>decide (m'=m)&&(decide (P.cellsOf e=U.size)&&(decide (U.size≠0)&&((P.info? e).isSome&&((P.underlying e).isSome&&(decide (Y5 P e=U.isAgg)&&ZAo P n e U)))))
  |some (.struct fs),.st Ts=>decide (P.stoodInHeld t=false)&&fitTs P n fs.toList 0 Ts
  |_,_=>false
def fitTs(P:yg):Nat→List Field→Nat→List Ty→Bool
 |0,_,_,_=>false
 |_+1,[],_,[]=>true
 |n+1,f::fs,o,T::Ts=>decide (f.name≠ "_")&&(decide (f.offset=o)&&(decide (P.cellsOf f.type=T.size)&&((P.info? f.type).isSome&&((P.underlying f.type).isSome&&(decide (Y5 P f.type=T.isAgg)&&(decide (T.size≠0)&&(ZAo P n f.type T&&fitTs P n fs (o+T.size) Ts)))))))
 |_+1,_,_,_=>false
end
mutual
theorem Zng:∀(n:Nat)(t:yb)(T:Ty),ZAo P n t T=true→∀(x:T.den),fitP P n t (T.enc x)
 |0,_,_,h,_=>by simp[ZAo] at h
 |n+1,t,T,h,x=>by
  simp only[ZAo] at h;unfold fitP;split at h
  ·rename_i hu;rw[hu];trivial
  ·rename_i hu;rw[hu];exact rfl
  ·rename_i hu;rw[hu];exact rfl
  ·rename_i hu;rw[hu];exact rfl
  ·rename_i hu;rw[hu];simp only[decide_eq_true_eq] at h;exact h.symm
  ·rename_i m e m' U hu;simp only[yi,decide_eq_true_eq] at h;obtain⟨h1,h2,h3,h4,h5,h6,h7⟩:=h;rw[hu];refine⟨h1,h2,h3,h4,h5,λy hy=> ?_⟩;obtain⟨z,_,rfl⟩:=List.mem_map.1 hy;exact⟨Zng n e U h7 z,Zf6 U z,by rw[Zkf];exact h6⟩
  ·rename_i fs Ts hu;simp only[yi,decide_eq_true_eq] at h;rw[hu];exact⟨h.1,Zm7 (λt x k=>k) _ _ _ (fitTs_ok n fs.toList 0 Ts h.2 x)⟩
  ·cases h
theorem fitTs_ok:∀(n:Nat)(fs:List Field)(o:Nat)(Ts:List Ty),fitTs P n fs o Ts=true→∀(x:Ty.dens Ts),ZfY P (fitP P n) fs o (Ty.encs Ts x)
 |0,_,_,_,h,_=>by simp[fitTs] at h
 |n+1,[],_,[],_,_=>trivial
 |n+1,[],_,_::_,h,_=>by simp[fitTs] at h
 |n+1,_::_,_,[],h,_=>by simp[fitTs] at h
 |n+1,f::fs,o,T::Ts,h,x=>by
  simp only[fitTs,yi,decide_eq_true_eq] at h;obtain⟨h1,h2,h3,h4,h5,h6,h7,h8,h9⟩:=h
  have key:∃(a:T.den)(b:Ty.dens Ts),Ty.encs (T::Ts) x=T.enc a::Ty.encs Ts b:=by
   cases Ts with
   |nil=>exact⟨x,(),rfl⟩
   |cons U r=>exact⟨x.1,x.2,rfl⟩
  obtain⟨a,b,e⟩:=key;rw[e];refine⟨h1,h2,by rw[Zf6];exact h3,h4,h5,by rw[Zkf];exact h6,by rw[Zf6];exact h7,ZrS (Zng n f.type T h8 a), ?_⟩;rw[Zf6];exact Zm7 (λt x k=>ZrS k) _ _ _ (fitTs_ok n fs _ Ts h9 b)
end
end
end Go.Ev
end
section
namespace Go.Ev
section
variable{L:Lk}{P:yg}{o:Oper}{ts:List TD}{O:Type}
def ZxC(r:ZB0):Option Bool:=
 match r with
 |some ([],.p (.bool b),[])=>some b
 |_=>none
theorem Zww{t:yb}{x y:Dv}{b:Bool}(h:ZhB P t x y []=some ([],b,[]))(rest:List Hint):ZhB P t x y rest=some ([],b,rest):=by
 unfold ZhB at h ⊢
 split at h <;> first
  |(simp only[yj,yl,and_true,true_and] at h;subst h;rfl)
  |cases h
  |(split at h <;> first|(rename_i e;cases e)|cases h)
theorem ZFz{op:BinOp}{t:yb}{x y:Dv}{b:Bool}(h:ZxC (Zcf P op t x y [])=some b)(rest:List Hint):Zcf P op t x y rest=some ([],.p (.bool b),rest):=by
 have h':Zcf P op t x y []=some ([],.p (.bool b),[]):=by
  unfold ZxC at h;split at h
  ·rename_i e;cases h;exact e
  ·cases h
 clear h;unfold Zcf at h' ⊢;split at h'
 ·split at h'
  ·cases op <;> simp[Xw] at h'
  ·split at h'
   ·rename_i k a k' b' _ hk;simp only[hk,if_true];rename_i hs;simp only[hs,if_false];cases op <;> simp only[Yq,ZbA,yj,yl,Dv.p.injEq,Pl.bool.injEq,and_true,true_and,reduceCtorEq] at h' ⊢ <;> first|exact h'|skip
    all_goals first|(cases h';done)|(cases h';simp;done)|(simp[ZrN] at h';done)
   ·cases h'
 ·cases op <;> simp only[yj,yl,Dv.p.injEq,Pl.bool.injEq,and_true,true_and,reduceCtorEq] at h' ⊢ <;> exact h'
 ·rename_i hx hy;cases op <;> first|cases h'|skip
  ·obtain⟨q,h1,h2⟩:=Zc h';simp only[yl,Dv.p.injEq,Pl.bool.injEq] at h2;obtain⟨q1,q2,q3⟩:=q;obtain⟨rfl,rfl,rfl⟩:=h2;simp only[Zww h1 rest,yz]
  ·obtain⟨q,h1,h2⟩:=Zc h';simp only[yl,Dv.p.injEq,Pl.bool.injEq] at h2;obtain⟨q1,q2,q3⟩:=q;obtain⟨rfl,rfl,rfl⟩:=h2;simp only[Zww h1 rest,yz]
def TD.val:TD→Option (Σ t:Ty,t.den)
 |.p (.v t x)=>some ⟨t,x⟩
 |_=>none
theorem ZxD{x:TD}{q:Σ t:Ty,t.den}(h:x.val=some q):x.er L=.p (q.1.enc q.2):=by
 unfold TD.val at h;split at h
 ·cases h;rfl
 ·cases h
def ZLJ(P:yg)(t:yb):Bool:=
 match P.underlying t with
 |some (.array _ _)=>true
 |some (.struct _)=>true
 |_=>false
def eqN(P:yg)(op:BinOp)(t:yb)(x y:TD)(K:TD→List Hint→Option O):Option O:=
 match x.val,y.val with
 |some a,some b=>(Ty.cast b.1 a.1 b.2).bind λz=>
  if ZLJ P t&&(a.1.isAgg&&(a.1.flat&&(ZAo P 20 t a.1&&decide (P.eqGuardType P.depth t=false)))) then
   match op with
   |.eql=>K (.p (.v .bool (@decide (a.2=z) (Ty.deq a.1 a.2 z)))) [.b (@decide (a.2=z) (Ty.deq a.1 a.2 z))]
   |.neq=>K (.p (.v .bool (!(@decide (a.2=z) (Ty.deq a.1 a.2 z))))) [.b (@decide (a.2=z) (Ty.deq a.1 a.2 z))]
   |_=>none
  else none
 |_,_=>none
theorem Znh{t:yb}{a:Σ t:Ty,t.den}{z:a.1.den}(h1:ZLJ P t=true)(h2:a.1.isAgg=true)(h3:a.1.flat=true)(h4:ZAo P 20 t a.1=true)(h5:P.eqGuardType P.depth t=false)(rest:List Hint):
 ∃C,AllP C∧ZhB P t (.p (a.1.enc a.2)) (.p (a.1.enc z)) (.b (@decide (a.2=z) (Ty.deq a.1 a.2 z))::rest)=some (C,@decide (a.2=z) (Ty.deq a.1 a.2 z),rest)∧C=[fitP P 20 t (a.1.enc a.2),fitP P 20 t (a.1.enc z),(@decide (a.2=z) (Ty.deq a.1 a.2 z)=true↔a.1.enc a.2=a.1.enc z)]:=by
 have f1:=Zng 20 t a.1 h4 a.2;have f2:=Zng 20 t a.1 h4 z
 have f3:(@decide (a.2=z) (Ty.deq a.1 a.2 z)=true↔a.1.enc a.2=a.1.enc z):=by
  rw[@decide_eq_true_iff _ (Ty.deq a.1 a.2 z)];exact⟨λe=>by rw[e],λe=>Znf a.1 _ _ h3 e⟩
 refine⟨[fitP P 20 t (a.1.enc a.2),fitP P 20 t (a.1.enc z),(@decide (a.2=z) (Ty.deq a.1 a.2 z)=true↔a.1.enc a.2=a.1.enc z)],⟨f1,f2,f3,ytt⟩, ?_,rfl⟩;generalize @decide (a.2=z) (Ty.deq a.1 a.2 z)=β at f3;generalize a.1.enc a.2=p at f1 f3 ⊢;generalize a.1.enc z=q at f2 f3 ⊢;clear f3;unfold ZLJ at h1;unfold fitP at f1 f2;unfold ZhB;split at h1
 ·rename_i m e hu;rw[hu] at f1 f2 ⊢;cases p <;> first|exact f1.elim|skip
  cases q <;> first|exact f2.elim|skip
  dsimp only;rw[if_pos h5]
 ·rename_i m hu;rw[hu] at f1 f2 ⊢;cases p <;> first|exact f1.elim|skip
  cases q <;> first|exact f2.elim|skip
  dsimp only;rw[if_pos h5]
 ·cases h1
theorem Zwx{t:yb}{x y:Pl}(hx:x.isAgg=true)(op:BinOp)(hs:List Hint)(h:op=.eql∨op=.neq):Zcf P op t (.p x) (.p y) hs=(ZhB P t (.p x) (.p y) hs).map λr=>(r.1,.p (.bool (if op=.eql then r.2.1 else !r.2.1)),r.2.2):=by
 cases x <;> first|cases hx|skip
 all_goals (unfold Zcf;rcases h with rfl|rfl <;> rfl)
theorem ZHb{op:BinOp}{t:yb}{x y:TD}{K:TD→List Hint→Option O}{out:O}(h:eqN P op t x y K=some out):∃d hs C,K d hs=some out∧AllP C∧∀rest,Zcf P op t (x.er L) (y.er L) (hs++rest)=some (C,d.er L,rest):=by
 unfold eqN at h;split at h
 ·rename_i a b ha hb;obtain⟨z,h1,h⟩:=yc.1 h;obtain⟨h2,h⟩:=Za h;simp only[yi,decide_eq_true_eq] at h2;obtain⟨g1,g2,g3,g4,g5⟩:=h2
  have ey:y.er L=.p (a.1.enc z):=by
   obtain⟨e,rfl⟩:=WD h1;rw[ZxD hb];cases a;cases b;cases e;rfl
  have ga:(a.1.enc a.2).isAgg=true:=by rw[Zkf];exact g2
  split at h
  ·obtain⟨C,c1,c2,_⟩:=Znh (P:=P) (z:=z) g1 g2 g3 g4 g5 [];refine⟨_,_,[fitP P 20 t (a.1.enc a.2),fitP P 20 t (a.1.enc z),(@decide (a.2=z) (Ty.deq a.1 a.2 z)=true↔a.1.enc a.2=a.1.enc z)],h, ?_,λrest=> ?_⟩
   ·obtain⟨C,c1,_,rfl⟩:=Znh (P:=P) (z:=z) g1 g2 g3 g4 g5 [];exact c1
   ·obtain⟨C,_,c2,rfl⟩:=Znh (P:=P) (z:=z) g1 g2 g3 g4 g5 rest;rw[ZxD ha,ey,Zwx ga _ _ (.inl rfl),yaa,yv,c2];rfl
  ·refine⟨_,_,[fitP P 20 t (a.1.enc a.2),fitP P 20 t (a.1.enc z),(@decide (a.2=z) (Ty.deq a.1 a.2 z)=true↔a.1.enc a.2=a.1.enc z)],h, ?_,λrest=> ?_⟩
   ·obtain⟨C,c1,_,rfl⟩:=Znh (P:=P) (z:=z) g1 g2 g3 g4 g5 [];exact c1
   ·obtain⟨C,_,c2,rfl⟩:=Znh (P:=P) (z:=z) g1 g2 g3 g4 g5 rest;rw[ZxD ha,ey,Zwx ga _ _ (.inr rfl),yaa,yv,c2];rfl
  ·cases h
 ·cases h
def ZLK(L:Lk)(x y:TD):Option Bool:=
 match y with
 |.p (.sl (some false) _ [])=>match x.row L with
  |some ⟨none,_,l⟩=>some l.isEmpty
  |_=>none
 |_=>none
theorem ZJM{x y:TD}{b:Bool}(h:ZLK L x y=some b):∃s xs s',(x.er L=.p (.sl none s xs)∨∃id,x.er L=.own id none s xs)∧y.er L=.p (.sl (some false) s' [])∧xs.isEmpty=b:=by
 unfold ZLK at h;split at h
 ·split at h
  ·rename_i T q t l hr;cases h;refine⟨t.size,l.map t.enc,T.size, ?_,rfl,by cases l <;> rfl⟩;rcases ZeP hr with h|⟨id,h⟩
   ·exact .inl h
   ·exact .inr ⟨id,h⟩
  ·cases h
 ·cases h
def ZM4(P:yg)(op:BinOp)(t:yb)(b:Bool)(K:TD→List Hint→Option O):Option O:=
 match P.underlying t with
 |some (.slice _)=>if b=true then none else match op with
  |.eql=>K (.p (.v .bool false)) [.bare]
  |.neq=>K (.p (.v .bool true)) [.bare]
  |_=>none
 |_=>none
def ZLL(L:Lk)(P:yg)(op:BinOp)(t:yb)(x y:TD)(K:TD→List Hint→Option O):Option O:=
 match x.num,y.num with
 |some a,some b=>if Zxk op then(shN op a b).bind λz=>if ZCp b=true then K (.p z) [.raw] else none else ZCo op a b K
 |_,_=>match ZxC (Zcf P op t (x.er L) (y.er L) []) with
  |some b=>K (.p (.v .bool b)) []
  |none=>match ZLK L x y with
   |some b=>ZM4 P op t b K
   |none=>eqN P op t x y K
theorem ZFA{op:BinOp}{t:yb}{x y:TD}{K:TD→List Hint→Option O}{out:O}(h:ZLL L P op t x y K=some out):∃d hs C,K d hs=some out∧AllP C∧∀rest,Zcf P op t (x.er L) (y.er L) (hs++rest)=some (C,d.er L,rest):=by
 unfold ZLL at h;split at h
 ·rename_i a b ha hb;rw[Vq ha,Vq hb];split at h
  ·rename_i hsh;obtain⟨z,h1,h⟩:=yc.1 h;obtain⟨h2,h⟩:=Za h;refine⟨_,_,[0≤b.n],h,⟨ZCq h2,ytt⟩,λrest=> ?_⟩;unfold Zcf;dsimp only;rw[if_pos hsh];exact ZLI h1 rest
  ·rename_i hsh;obtain⟨hk,d,hs,C,h1,h2,h3⟩:=ZAn h;refine⟨d,hs,C,h1,h2,λrest=> ?_⟩;unfold Zcf;dsimp only;rw[if_neg hsh,if_pos hk];exact h3 rest
 ·split at h
  ·rename_i b hb;exact⟨_,_,[],h,trivial,ZFz hb⟩
  ·split at h
   ·rename_i b hb;obtain⟨s,xs,s',h1,h2,h3⟩:=ZJM hb;unfold ZM4 at h;split at h
    ·rename_i e hu;split at h
     ·cases h
     ·rename_i hne;have hxs:xs≠[]:=by rintro rfl;exact hne (by rw[←h3];rfl)
      split at h
      ·refine⟨_,_,[xs≠[]],h,⟨hxs,ytt⟩,λrest=> ?_⟩;unfold Zcf;rcases h1 with h1|⟨id,h1⟩ <;> (rw[h1,h2];dsimp only;unfold ZhB;rw[hu];rfl)
      ·refine⟨_,_,[xs≠[]],h,⟨hxs,ytt⟩,λrest=> ?_⟩;unfold Zcf;rcases h1 with h1|⟨id,h1⟩ <;> (rw[h1,h2];dsimp only;unfold ZhB;rw[hu];rfl)
      ·cases h
    ·cases h
   ·exact ZHb h
def ZxE(k:IntKind):Num→Option TP
 |.u8 b=>match k with
  |.u8=>some (.v .u8 b)
  |.u32=>some (.v .u32 (UInt32.ofNat b.toNat))
  |.u64=>some (.v .u64 (yal b.toNat))
  |.i64=>some (.v (.int .i64) (b.toNat:Int))
  |_=>none
 |.u32 b=>match k with
  |.u32=>some (.v .u32 b)
  |.u64=>some (.v .u64 (yal b.toNat))
  |.i64=>some (.v (.int .i64) (b.toNat:Int))
  |_=>none
 |.u64 b=>match k with
  |.u64=>some (.v .u64 b)
  |_=>none
 |.i _ _=>none
theorem ZCr{k:IntKind}{a:Num}{z:TP}(h:ZxE k a=some z):Wd k a.n∧z.pe=.int k a.n:=by
 unfold ZxE at h;split at h
 ·rename_i b;have:=b.toNat_lt;split at h <;> first|cases h|skip
  all_goals
   refine⟨?_, ?_⟩
   ·simp only[Wd,IntKind.min,IntKind.max,IntKind.signed,IntKind.bits,Num.n];constructor <;> simp<;> omega
   ·simp only[TP.pe,Ty.enc,Num.n,ycq,ybo]
    try (congr 2;omega)
 ·rename_i b;have:=b.toNat_lt;split at h <;> first|cases h|skip
  all_goals
   refine⟨?_, ?_⟩
   ·simp only[Wd,IntKind.min,IntKind.max,IntKind.signed,IntKind.bits,Num.n];constructor <;> simp<;> omega
   ·simp only[TP.pe,Ty.enc,Num.n,ycq,ybo]
    try (congr 2;omega)
 ·rename_i b;have:=b.toNat_lt;split at h <;> first|cases h|skip
  refine⟨?_,rfl⟩;simp only[Wd,IntKind.min,IntKind.max,IntKind.signed,IntKind.bits,Num.n];constructor <;> simp<;> omega
 ·cases h
def bytesOf(l:List UInt8):ByteArray:=⟨l.toArray⟩
theorem ZAp(l:List UInt8):l.map (Ty.enc .u8)=(bytesOf l).data.toList.map λx=>.int .u8 (x.toNat:Int):=rfl
def ZM5(P:yg)(e:yb)(K:TD→List Hint→Option O)(r:Row):Option O:=
 (Ty.castL r.t .u8 r.l).bind λl=>match P.underlying e with
   |some (.int .u8)=>K (.p (.v .str (bytesOf l))) [.el (.str (bytesOf l))]
   |_=>none
def ZLM:TD→Option ByteArray
 |.p (.v t s)=>match t with
  |.str=>some s
  |_=>none
 |_=>none
theorem ZJN{L:Lk}{x:TD}{b:ByteArray}(h:ZLM x=some b):x.er L=.p (.str b):=by
 unfold ZLM at h;split at h
 ·split at h
  ·cases h;rfl
  ·cases h
 ·cases h
def ZHc(L:Lk)(P:yg)(src dst:yb)(K:TD→List Hint→Option O)(x:TD):Option O:=
 match P.underlying src,P.underlying dst with
 |some _,some (.int k)=>x.num.bind λa=>match ZxE k a with
  |some z=>K (.p z) [.bare]
  |none=>K (.p (ZJw k a.n)) [.raw]
 |some (.slice e),some .string=>(x.row L).bind (ZM5 P e K)
 |some .string,some (.slice e)=>(ZLM x).bind λb=>match P.underlying e with
  |some (.int .u8)=>if decide (b.size≤maxLen)=true then K (.p (.sl (some true) .u8 b.data.toList)) [] else none
  |_=>none
 |_,_=>none
theorem ZCs{src dst:yb}{x:yn}{K:TD→List Hint→Option O}{xd:TD}{out:O}(ho:o.op=.convert src dst x)(hx:arT P ts src x=some xd)(h:ZHc L P src dst K xd=some out):∃d hs,K d hs=some out∧GoodN L P o ts d hs:=by
 have hv:=Zn (L:=L) hx;unfold ZHc at h;split at h
 ·rename_i q k hq hk;obtain⟨a,h1,h⟩:=yc.1 h;rw[Vq h1] at hv;split at h
  ·rename_i z hz;obtain⟨c1,c2⟩:=ZCr hz;refine⟨_,_,h,[Wd k a.n],⟨c1,ytt⟩,λrest=> ?_⟩;unfold evN;rw[ho];dsimp only;rw[hq,hk,hv,TD.er,c2];rfl
  ·refine⟨_,_,h,[],trivial,λrest=> ?_⟩;unfold evN;rw[ho];dsimp only;rw[hq,hk,hv,TD.er,ZD5];rfl
 ·rename_i e hq hk;obtain⟨r,h1,h⟩:=yc.1 h;unfold ZM5 at h;obtain⟨l,h2,h9⟩:=yc.1 h;split at h9
  ·rename_i he;obtain⟨nn,rt,rl⟩:=r;obtain⟨e1,h2⟩:=Zy h2;dsimp only at e1 h2;subst e1;subst h2;refine⟨_,_,h9,[l.map (Ty.enc .u8)=(bytesOf l).data.toList.map λx=>.int .u8 (x.toNat:Int)],⟨ZAp l,ytt⟩,λrest=> ?_⟩;unfold evN;rw[ho];dsimp only;rcases ZeP h1 with e2|⟨id,e2⟩
   ·rw[hq,hk,hv,e2];dsimp only;rw[yaa,yv,he];dsimp only;rw[if_pos (show Ty.u8.size=1 from rfl)]
    rfl
   ·rw[hq,hk,hv,e2];dsimp only;rw[yaa,yv,he];dsimp only;rw[if_pos (show Ty.u8.size=1 from rfl)]
    rfl
  ·cases h9
 ·rename_i e hq hk;obtain⟨b,h1,h⟩:=yc.1 h;split at h
  ·rename_i he;obtain⟨h2,h⟩:=Za h;refine⟨_,_,h,[b.size≤maxLen],⟨of_decide_eq_true h2,ytt⟩,λrest=> ?_⟩;unfold evN;rw[ho];dsimp only;rw[hq,hk,hv,ZJN h1];dsimp only;rw[he];rfl
  ·cases h
 ·cases h
def ZsU(P:yg)(ts:List TD)(f:Nat→yb):List (Nat×yn)→Option (List (Nat×TD))
 |[]=>some []
 |q::r=>match arT P ts (f q.1) q.2,ZsU P ts f r with
  |some d,some l=>some ((q.1,d)::l)
  |_,_=>none
theorem Zkh{f:Nat→yb}:∀{parts:List (Nat×yn)}{l:List (Nat×TD)},ZsU P ts f parts=some l→VD P (TD.ers L ts) f parts=l.map λq=>(q.1,q.2.er L)
 |[],l,h=>by cases h;rfl
 |q::r,l,h=>by
  simp only[ZsU] at h;split at h
  ·rename_i d l' h1 h2;cases h;have:=Zkh h2;simp only[VD,yad] at this ⊢;rw[this,Zn h1]
  ·cases h
def Zni(L:Lk):List TD→List (Nat×TD)→Option (List TD)
 |ds,[]=>some ds
 |ds,(i,d)::r=>match ds[i]? with
  |some old=>if(old.er L).size=(d.er L).size then Zni L (ds.set i d) r else none
  |none=>none
theorem ZlY:∀{l:List (Nat×TD)}{ds es:List TD},Zni L ds l=some es→ZaD (TD.ers L ds) (l.map λq=>(q.1,q.2.er L))=some (TD.ers L es)
 |[],ds,es,h=>by cases h;rfl
 |(i,d)::r,ds,es,h=>by
  simp only[Zni] at h;split at h
  ·rename_i old h1;split at h
   ·rename_i h2;have:=ZlY h;simp only[yad,ZaD,ZDL];rw[Vp h1];dsimp only;rw[if_pos h2];rw[show(TD.ers L ds).set i (d.er L)=TD.ers L (ds.set i d) by rw[Zv,Zv,List.map_set]];exact this
   ·cases h
  ·cases h
def ZsV(P:yg):List yb→List Pl→Option (List TP)
 |[],[]=>some []
 |t::r,z::q=>match ZxB P t z,ZsV P r q with
  |some a,some b=>some (a::b)
  |_,_=>none
 |_,_=>none
theorem Zo2:∀{l:List yb}{zs:List Pl}{r:List TP},ZsV P l zs=some r→TP.pes r=zs
 |[],[],r,h=>by cases h;rfl
 |[],_::_,r,h=>by cases h
 |_::_,[],r,h=>by cases h
 |t::l,z::zs,r,h=>by
  simp only[ZsV] at h;split at h
  ·rename_i a b h1 h2;cases h;rw[TP.pes,Zo1 h1,Zo2 h2]
  ·cases h
def ZeR(L:Lk):List TD→Option (List TP)
 |[]=>some []
 |d::r=>match d.plain L,ZeR L r with
  |some a,some b=>some (a::b)
  |_,_=>none
theorem ZsW{x:TD}(h:x.plain L=none):(x.er L).plain=none:=by
 cases x <;> first|rfl|cases h
theorem ZlZ:∀(ds:List TD),Zdi (TD.ers L ds)=(ZeR L ds).map TP.pes
 |[]=>rfl
 |d::r=>by
  simp only[TD.ers,Zdi,ZeR];rw[ZlZ r]
  cases h:d.plain L with
  |none=>rw[ZsW h];cases ZeR L r <;> rfl
  |some a=>
   rw[Zwv h];cases ZeR L r <;> rfl
def ZCt(L:Lk)(P:yg)(t:yb)(ds:List TD):TD:=
 match ZeR L ds with
 |some l=>.p (ZJz P t l)
 |none=>.agg ds
theorem ZFB(t:yb)(ds:List TD):(ZCt L P t ds).er L=ZzH (TD.ers L ds):=by
 unfold ZCt ZzH;rw[ZlZ]
 cases ZeR L ds with
 |none=>rfl
 |some l=>simp only[TD.er,ZD6,yz]
theorem ZHd(l:List TP):TD.ers L (l.map .p)=(TP.pes l).map .p:=by
 rw[Zv,XS,yaw,yaw];rfl
def ZCu(L:Lk)(P:yg)(ts:List TD)(t:yb)(parts:List (Nat×yn))(K:TD→List Hint→Option O):Option O:=
 match P.underlying t,Yr P t with
 |some (.struct fs),.p (.agg zs)=>(ZsV P (fs.toList.map (·.type)) zs).bind λzt=>(ZsU P ts (ZiD P t) parts).bind λps=>
  if(ZbD (ps.map λq=>(q.1,q.2.er L))&&fs.size==zs.length&&(yq zs.length).all λi=>ZeG P fs i (Pl.sizes (zs.take i)) ((zs.getD i default).size) ((zs.getD i default).isAgg))=true then
   (Zni L (zt.map .p) ps).bind λds=>K (ZCt L P t ds) [] else none
 |some (.array _ e),.p (.arr n s zs)=>(ZsV P (yab zs.length e) zs).bind λzt=>(ZsU P ts (ZiD P t) parts).bind λps=>
  if(ZbD (ps.map λq=>(q.1,q.2.er L))&&P.cellsOf e=s&&(P.info? e).isSome)=true then
   (Zni L (zt.map .p) ps).bind λds=>match ZeR L ds with
     |some l=>K (.p (ZJA P t n s l)) []
     |none=>K (.arr n s ds) [] else none
 |_,_=>none
theorem ZAq{t:yb}{parts:Array (Nat×yn)}{K:TD→List Hint→Option O}{out:O}(ho:o.op=.build t parts)(h:ZCu L P ts t parts.toList K=some out):∃d hs,K d hs=some out∧GoodN L P o ts d hs:=by
 unfold ZCu at h;split at h
 ·rename_i fs zs hu hz;obtain⟨zt,h1,h⟩:=yc.1 h;obtain⟨ps,h2,h⟩:=yc.1 h;obtain⟨h3,h⟩:=Za h;obtain⟨ds,h4,h⟩:=yc.1 h;refine⟨_,_,h,[],trivial,λrest=> ?_⟩;simp only[yv];unfold evN;rw[ho];dsimp only;rw[hu,hz];dsimp only;rw[Zkh h2,if_pos h3];have:=ZlY h4;rw[ZHd,Zo2 h1] at this;rw[this,ZFB];rfl
 ·rename_i m e n s zs hu hz;obtain⟨zt,h1,h⟩:=yc.1 h;obtain⟨ps,h2,h⟩:=yc.1 h;obtain⟨h3,h⟩:=Za h;obtain⟨ds,h4,h⟩:=yc.1 h;have:=ZlY h4;rw[ZHd,Zo2 h1] at this;have pl:=ZlZ (L:=L) ds;split at h
  ·rename_i l hl;refine⟨_,_,h,[],trivial,λrest=> ?_⟩;simp only[yv];unfold evN;rw[ho];dsimp only;rw[hu,hz];dsimp only;rw[Zkh h2,if_pos h3,this,Option.bind_some,pl,hl,TD.er,ZD7];rfl
  ·rename_i hl;refine⟨_,_,h,[],trivial,λrest=> ?_⟩;simp only[yv];unfold evN;rw[ho];dsimp only;rw[hu,hz];dsimp only;rw[Zkh h2,if_pos h3,this,Option.bind_some,pl,hl];rfl
 ·cases h
def ZJO(L:Lk)(P:yg)(ts:List TD)(e:yb)(T:Ty):List (Nat×yn)→Option (List T.den)
 |[]=>some []
 |q::r=>match (arT P ts e q.2).bind (TD.flat L) with
  |some x=>if x.pe.size=P.cellsOf e then ZkZ (TP.to ZiS x T) (ZJO L P ts e T r) |>.map λp=>p.1::p.2 else none
  |none=>none
theorem ZEb{e:yb}{T:Ty}:∀{parts:List (Nat×yn)}{l:List T.den},ZJO L P ts e T parts=some l→
 ∃xs,Dv.flats (parts.map λq=>Zp P (TD.ers L ts) e q.2)=some xs∧xs.all (λx=>x.size==P.cellsOf e)=true∧xs.map Pl.soft=l.map T.enc
 |[],l,h=>by cases h;exact⟨[],rfl,rfl,rfl⟩
 |q::r,l,h=>by
  simp only[ZJO] at h;split at h
  ·rename_i x hx;obtain⟨d,h1,h2⟩:=yc.1 hx;split at h
   ·rename_i hs;obtain⟨p,h3,rfl⟩:=Zc h;obtain⟨h4,h5⟩:=WZ h3;obtain⟨xs,e1,e2,e3⟩:=ZEb h5;refine⟨x.pe::xs, ?_, ?_, ?_⟩
    ·simp only[yad,Dv.flats];rw[Zn h1,Znc h2,e1]
    ·simp only[List.all_cons,yi,beq_iff_eq];exact⟨hs,e2⟩
    ·rw[yad,ZcG x T _ h4,e3,yad]
   ·cases h
  ·cases h
def ZCv(L:Lk)(P:yg)(ts:List TD)(t:yb)(len:Nat)(parts:List (Nat×yn))(K:(T:Ty)→List T.den→yb→Option O):Option O:=
 match P.underlying t with
 |some (.slice e)=>(ZgU P tyD e).bind λT=>(P.info? e).bind λi=>(ZJO L P ts e T parts).bind λl=>
  if(parts.map (·.1)==yq len)&&(zOk i&&i.size !=0&&decide (len*i.size≤16777216))&&(decide (i.size=T.size)&&decide (P.cellsOf e=i.size)) then K T l e else none
 |_=>none
theorem Zf8{t:yb}{len:Nat}{parts:List (Nat×yn)}{K:(T:Ty)→List T.den→yb→Option O}{out:O}(h:ZCv L P ts t len parts K=some out):
 ∃e T l i xs,K T l e=some out∧P.underlying t=some (.slice e)∧P.info? e=some i∧Y8 P (TD.ers L ts) e (P.cellsOf e) len parts=some xs∧(zOk i&&i.size !=0&&decide (len*i.size≤16777216))=true∧i.size=T.size∧xs.map Pl.soft=l.map T.enc:=by
 unfold ZCv at h;split at h
 ·rename_i e hu;obtain⟨T,h1,h⟩:=yc.1 h;obtain⟨i,h2,h⟩:=yc.1 h;obtain⟨l,h3,h⟩:=yc.1 h;obtain⟨h4,h⟩:=Za h;simp only[yi,decide_eq_true_eq] at h4;obtain⟨xs,e1,e2,e3⟩:=ZEb h3;refine⟨e,T,l,i,xs,h,hu,h2, ?_, ?_,h4.2.1,e3⟩
  ·unfold Y8;rw[if_pos h4.1.1,e1];dsimp only;rw[if_pos e2]
  ·simp only[yi,decide_eq_true_eq];exact h4.1.2
 ·cases h
def ZLN(L:Lk)(P:yg)(t:yb)(K:TD→List Hint→Option O)(x:TD):Option O:=
 match P.underlying t with
 |some (.slice _)=>match x with
  |.view _ _ _ _ n=>K (.p (.v (.int .i64) (n:Int))) []
  |.rv _ _ _ _ n=>K (.p (.v (.int .i64) (n:Int))) []
  |x=>(x.row L).bind λr=>K (.p (.v (.int .i64) (r.l.length:Int))) []
 |some (.array n _)=>K (.p (.v (.int .i64) (n:Int))) []
 |some .string=>match x with
  |.p x=>x.strB.bind λs=>K (.p (.v (.int .i64) (s.size:Int))) []
  |_=>none
 |_=>none
theorem ZFC{t:yb}{x:yn}{c:Call}{K:TD→List Hint→Option O}{xd:TD}{out:O}(ho:o.op=.call c)(hc:c.callee=.builtin .len)(ha:c.args.toList=[x])(ht:c.argTypes.toList=[t])
 (hx:arT P ts t x=some xd) (h:ZLN L P t K xd=some out):∃d hs,K d hs=some out∧GoodN L P o ts d hs:=by
 have hv:=Zn (L:=L) hx;unfold ZLN at h;split at h
 ·rename_i e hu;split at h
  ·refine⟨_,_,h,[],trivial,λrest=> ?_⟩;simp only[yv];unfold evN;rw[ho];dsimp only;rw[hc];dsimp only;rw[ha,ht];dsimp only;rw[hu,hv];rfl
  ·refine⟨_,_,h,[],trivial,λrest=> ?_⟩;simp only[yv];unfold evN;rw[ho];dsimp only;rw[hc];dsimp only;rw[ha,ht];dsimp only;rw[hu,hv];rfl
  ·obtain⟨r,h1,h⟩:=yc.1 h;refine⟨_,_,h,[],trivial,λrest=> ?_⟩;simp only[yv];unfold evN;rw[ho];dsimp only;rw[hc];dsimp only;rw[ha,ht];dsimp only;rcases ZeP h1 with he|⟨id,he⟩
   ·rw[hu,hv,he];dsimp only;rw[yx];rfl
   ·rw[hu,hv,he];dsimp only;rw[yx];rfl
 ·rename_i n e hu;refine⟨_,_,h,[],trivial,λrest=> ?_⟩;simp only[yv];unfold evN;rw[ho];dsimp only;rw[hc];dsimp only;rw[ha,ht];dsimp only;rw[hu];rfl
 ·rename_i hu;split at h
  ·obtain⟨s,h1,h⟩:=yc.1 h;refine⟨_,_,h,[],trivial,λrest=> ?_⟩;simp only[yv];unfold evN;rw[ho];dsimp only;rw[hc];dsimp only;rw[ha,ht];dsimp only;rw[hu,hv,TD.er,ZD9 h1];rfl
  ·cases h
 ·cases h
def ZxF(L:Lk)(P:yg)(T:Ty)(u:yb)(x:TD):Option (List T.den):=
 match P.underlying u with
 |some (.slice _)=>(x.row L).bind λr=>Ty.castL r.t T r.l
 |some .string=>match x,T with
  |.p (.v .str s),.u8=>some (Zfz s)
  |_,_=>none
 |_=>none
theorem ZgW{T:Ty}{u:yb}{x:TD}{l:List T.den}(h:ZxF L P T u x=some l):ZeH P T.size u (x.er L)=some (l.map T.enc):=by
 unfold ZxF at h;split at h
 ·rename_i e hu;obtain⟨r,h1,h⟩:=yc.1 h;obtain⟨e,h2⟩:=Zy h;obtain⟨nn,t,l0⟩:=r;dsimp only at e h2 h1;subst e;subst h2;unfold ZeH;rcases ZeP h1 with he|⟨id,he⟩
  ·rw[hu,he];dsimp only;rw[if_pos (.inl rfl)]
  ·rw[hu,he];dsimp only;rw[if_pos rfl]
 ·rename_i hu;split at h
  ·rename_i s;cases h;unfold ZeH;rw[hu];rfl
  ·cases h
 ·cases h
def TD.boolT:TD→Option Bool
 |.p x=>x.boolB
 |_=>none
theorem Zf9{x:TD}{b:Bool}(h:x.boolT=some b):x.er L=.p (.bool b):=by
 unfold TD.boolT at h;split at h
 ·rw[TD.er,ZGZ h]
 ·cases h
def TD.inner:TD→Option TP
 |.p x=>some x
 |_=>none
def ZHe(P:yg)(ts:List TD):List yn→Option (List TD)
 |[]=>some []
 |x::r=>match arT P ts 0 x,ZHe P ts r with
  |some a,some b=>some (a::b)
  |_,_=>none
theorem ZxG:∀{l:List yn}{ds:List TD},ZHe P ts l=some ds→l.map (Zp P (TD.ers L ts) 0)=TD.ers L ds
 |[],ds,h=>by cases h;rfl
 |x::l,ds,h=>by
  simp only[ZHe] at h;split at h
  ·rename_i a b h1 h2;cases h;rw[yad,Zn h1,ZxG h2];rfl
  ·cases h
def ZKY(P:yg)(t:yb)(K:TD→List Hint→Option O):TD→Option O
 |.elem x=>if decide (P.cellsOf t=x.pe.size)&&(Y5 P t==x.pe.isAgg&&((P.underlying t).isSome&&(P.info? t).isSome)) then K (.p x) [] else none
 |_=>none
def ZKZ(L:Lk)(P:yg)(ts:List TD)(t u:yb)(x y:yn)(K:TD→List Hint→Option O):Option O:=
 match P.underlying t,arT P ts t x with
 |some (.slice e),some (.p (.sl (some false) _ []))=>(P.info? e).bind λi=>(ZgU P tyD e).bind λT=>(arT P ts u y).bind λyd=>(ZxF L P T u yd).bind λl=>
  if(zOk i&&i.size !=0)&&(decide (P.cellsOf e=T.size)&&decide (i.size=T.size)) then if ZAk l.length i.bytes=true then K (.p (.sl none T l)) [.snap] else none else none
 |_,_=>none
def ZxH(P:yg)(t:yb)(l h m:Option Int)(K:TD→List Hint→Option O):TD→Option O
 |.rv _ _ _ _ n=>match P.underlying t with
  |some (.slice e)=>l.bind λl=>h.bind λh=>m.bind λm=>if(P.info? e).isSome=true then if(decide (0≤l)&&decide (l≤h)&&decide (h≤m)&&decide (m≤(n:Int)))=true then K .junk [] else none else none
  |_=>none
 |_=>none
theorem ZxI{t:yb}{x mx:yn}{lo hi:Option yn}{l h' m:Option Int}{K:TD→List Hint→Option O}{xd:TD}{out:O}(ho:o.op=.slice t x lo hi (some mx))(hx:arT P ts t x=some xd)(hl:ZeC P ts lo=some l)(hh:ZeC P ts hi=some h')(hm:ZeC P ts (some mx)=some m)
 (h:ZxH P t l h' m K xd=some out):∃d hs,K d hs=some out∧GoodN L P o ts d hs:=by
 have hv:=Zn (L:=L) hx;have hl:=QL (L:=L) hl;have hh:=QL (L:=L) hh;have hm:=QL (L:=L) hm;unfold ZxH at h;split at h
 ·rename_i id v s l0 n;split at h
  ·rename_i e hu;obtain⟨l2,q1,h⟩:=yc.1 h;obtain⟨h2,q2,h⟩:=yc.1 h;obtain⟨m2,q3,h⟩:=yc.1 h;subst q1;subst q2;subst q3;obtain⟨h3,h⟩:=Za h;obtain⟨h4,h⟩:=Za h;simp only[yi,decide_eq_true_eq] at h4;refine⟨_,_,h,[0≤l2,l2≤h2,h2≤m2,m2≤(n:Int)],⟨h4.1.1.1,h4.1.1.2,h4.1.2,h4.2,ytt⟩,λrest=> ?_⟩;simp only[yv];unfold evN;rw[ho];dsimp only;rw[hu,hv,hl,hh,hm];dsimp only[TD.er];rw[if_pos h3]
  ·cases h
 ·cases h
def ZxJ(P:yg)(t:yb)(K:TD→List Hint→Option O)(r:Row):Option O:=
 match P.underlying t with
 |some (.array n e)=>if(n !=0)=true then if decide (n≤r.l.length)=true then K (.elem (.v (.arr n r.t) (r.l.take n))) [] else none else none
 |_=>none
theorem ZxK{t:yb}{x:yn}{K:TD→List Hint→Option O}{xd:TD}{r:Row}{out:O}(ho:o.op=.sliceToArrayPointer t x)(hx:arT P ts 0 x=some xd)(hr:xd.row L=some r)
 (h:ZxJ P t K r=some out):∃d hs,K d hs=some out∧GoodN L P o ts d hs:=by
 have hv:=Zn (L:=L) hx;unfold ZxJ at h;split at h
 ·rename_i n e hu;obtain⟨h3,h⟩:=Za h;obtain⟨h4,h⟩:=Za h;have h4:=of_decide_eq_true h4;refine⟨_,_,h,[n≤(r.l.map r.t.enc).length],⟨by rw[yx];exact h4,ytt⟩,λrest=> ?_⟩;simp only[yv];unfold evN;rw[ho];dsimp only;rcases ZeP hr with e2|⟨id,e2⟩
  ·rw[hu,hv,e2];dsimp only;rw[if_pos h3, ←List.map_take];rfl
  ·rw[hu,hv,e2];dsimp only;rw[if_pos h3, ←List.map_take];rfl
 ·cases h
def ZLO(L:Lk)(x:TD):Option (List UInt8):=(x.row L).bind λr=>Ty.castL r.t .u8 r.l
def ZM6(L:Lk)(K:TD→List Hint→Option O)(a b:TD):Option O:=(ZLO L a).bind λl=>(ZLO L b).bind λm=>K (.p (.v (.int .i64) (Go.Lib.compareBytes l m))) [.el (.str (bytesOf l)),.el (.str (bytesOf m))]
theorem ZEc{L:Lk}{x:TD}{l:List UInt8}(h:ZLO L x=some l):∃nn,(x.er L).argI []=.p (.sl nn 1 (Zdj (bytesOf l))):=by
 obtain⟨r,h1,h2⟩:=yc.1 h;obtain⟨nn,rt,rl⟩:=r;obtain⟨e1,h2⟩:=Zy h2;dsimp only at e1 h2;subst e1;subst h2;rcases ZeP h1 with e2|⟨id,e2⟩
 ·rw[e2];exact⟨_,rfl⟩
 ·rw[e2];exact⟨_,rfl⟩
def ZLP:Num→Option TP
 |.u8 b=>some (.v .u8 (255^^^b))
 |.u32 b=>some (.v .u32 (4294967295^^^b))
 |.u64 b=>some (.v .u64 (18446744073709551615^^^b))
 |.i _ _=>none
theorem ZJP{a:Num}{z:TP}(h:ZLP a=some z):a.k.signed=false∧z.pe=.int a.k (bits .xor a.k a.k.max a.n):=by
 unfold ZLP at h;split at h
 ·rename_i b;cases h;exact⟨rfl,congrArg (Pl.int .u8) (ZKX .xor 255 b).symm⟩
 ·rename_i b;cases h;exact⟨rfl,congrArg (Pl.int .u32) (ZG1 .xor 4294967295 b).symm⟩
 ·rename_i b;cases h;exact⟨rfl,congrArg (Pl.int .u64) (ZG6 .xor 18446744073709551615 b).symm⟩
 ·cases h
def opN(L:Lk)(P:yg)(o:Oper)(ts:List TD)(K:TD→List Hint→Option O):Option O:=
 match o.op with
 |.move x=>(arT P ts o.type x).bind λd=>K d [.raw]
 |.assign x=>(arT P ts o.type x).bind λd=>K d [.raw]
 |.pick c a b=>((arT P ts 0 c).bind TD.boolT).bind λt=>(arT P ts o.type a).bind λda=>(arT P ts o.type b).bind λdb=>if t=true then K da [.b true] else K db [.b false]
 |.nilCheck x=>match arT P ts 0 x with
  |some (.ref id p)=>K (.ref id p) []
  |some (.elem y)=>K (.elem y) []
  |some (.rref id v p)=>K (.rref id v p) []
  |some (.rp id p)=>K (.rp id p) []
  |some (.fn f c)=>K (.fn f c) []
  |_=>none
 |.binOp op t x y yt=>(arT P ts t x).bind λa=>(arT P ts yt y).bind λb=>ZLL L P op t a b K
 |.unOp .not _ x=>((arT P ts 0 x).bind TD.boolT).bind λt=>K (.p (.v .bool (!t))) []
 |.unOp .neg _ x=>((arT P ts 0 x).bind TD.num).bind λa=>K (.p (ZJw a.k (0 - a.n))) [.raw]
 |.unOp .xor _ x=>((arT P ts 0 x).bind TD.num).bind λa=>(ZLP a).bind λz=>K (.p z) []
 |.convert src dst x=>(arT P ts src x).bind (ZHc L P src dst K)
 |.makeFunc (.func f) first captured=>if(first.isEmpty&&decide (f < big))=true then(ZHe P ts captured.toList).bind λds=>K (.fn f ds) [] else if captured.isEmpty=true then(ZHe P ts first.toList).bind λds=>K (.fn (f+big) ds) [] else none
 |.makeInterface t x=>match P.underlying t with
  |some (.interface _)=>none
  |some _=>(arT P ts t x).bind λd=>K (.iface t d) []
  |none=>none
 |.field t x i=>(arT P ts t x).bind (ZCl L P t i K)
 |.fieldAddr t x i=>(arT P ts 0 x).bind (ZlW P t i K)
 |.indexAddr t x ix=>(arT P ts t x).bind λa=>(arT P ts 0 ix).bind λb=>b.inner.bind λip=>(ZsS ip).bind λq=>ZlX L P t q.2 K a
 |.index t x ix=>(arT P ts t x).bind λa=>a.inner.bind λap=>(arT P ts 0 ix).bind λb=>b.inner.bind λip=>(ZsS ip).bind λq=>ZCm P t q.2 K ap
 |.slice t x lo hi none=>(arT P ts t x).bind λa=>(ZeC P ts lo).bind λl=>(ZeC P ts hi).bind λh=>ZCn L P t l h K a
 |.slice t x lo hi (some mx)=>(arT P ts t x).bind λa=>(ZeC P ts lo).bind λl=>(ZeC P ts hi).bind λh=>(ZeC P ts (some mx)).bind λm=>ZxH P t l h m K a
 |.sliceToArrayPointer t x=>(arT P ts 0 x).bind λa=>(a.row L).bind (ZxJ P t K)
 |.extract x i=>match arT P ts 0 x with
  |some (.tup ds)=>(ds[i]?).bind λd=>K d []
  |_=>none
 |.load t x=>(arT P ts 0 x).bind (ZKY P t K)
 |.build t parts=>ZCu L P ts t parts.toList K
 |.buildSlice t len parts=>ZCv L P ts t len parts.toList λT l _=>K (.p (.sl (some true) T l)) [.snap]
 |.call c=>match c.callee with
  |.builtin .len=>match c.args.toList,c.argTypes.toList with
   |[x],[t]=>(arT P ts t x).bind (ZLN L P t K)
   |_,_=>none
  |.builtin .max=>match c.args.toList,c.argTypes.toList with
   |[x,y],[t,u]=>((arT P ts t x).bind TD.num).bind λa=>((arT P ts u y).bind TD.num).bind λb=>if(decide (a.k=.i64)&&decide (b.k=.i64))=true then K (.p (.v (.int .i64) (ZNV a.n b.n))) [] else none
   |_,_=>none
  |.builtin .append=>match c.args.toList,c.argTypes.toList with
   |[x,y],[t,u]=>ZKZ L P ts t u x y K
   |_,_=>none
  |.value f=>match arT P ts 0 f with
   |some (.fn g [])=>if(ZlJ P g&&c.args.size==c.argTypes.size)=true then match c.args.toList,c.argTypes.toList with
     |[x,y],[t,u]=>(arT P ts t x).bind λa=>(arT P ts u y).bind λb=>ZM6 L K a b
     |_,_=>none
    else none
   |_=>none
  |_=>none
 |_=>none
theorem Ys{x:TD}{y:TP}(h:x.inner=some y):x=.p y:=by
 unfold TD.inner at h;split at h
 ·cases h;rfl
 ·cases h
theorem ZHf{K:TD→List Hint→Option O}{out:O}(h:opN L P o ts K=some out):∃d hs,K d hs=some out∧GoodN L P o ts d hs:=by
 unfold opN at h;split at h
 ·rename_i x ho;obtain⟨d,h1,h⟩:=yc.1 h;refine⟨_,_,h,[],trivial,λrest=> ?_⟩;unfold evN;rw[ho];dsimp only;rw[Zn h1];rfl
 ·rename_i x ho;obtain⟨d,h1,h⟩:=yc.1 h;refine⟨_,_,h,[],trivial,λrest=> ?_⟩;unfold evN;rw[ho];dsimp only;rw[Zn h1];rfl
 ·rename_i c a b ho;obtain⟨t,h1,h⟩:=yc.1 h;obtain⟨cd,h0,h1⟩:=yc.1 h1;obtain⟨da,h2,h⟩:=yc.1 h;obtain⟨db,h3,h⟩:=yc.1 h;split at h
  ·rename_i ht;refine⟨_,_,h,[t=true],⟨ht,ytt⟩,λrest=> ?_⟩;unfold evN;rw[ho];dsimp only;rw[Zn h0,Zf9 h1,Zn h2];rfl
  ·rename_i ht;refine⟨_,_,h,[t=false],⟨by simpa using ht,ytt⟩,λrest=> ?_⟩;unfold evN;rw[ho];dsimp only;rw[Zn h0,Zf9 h1,Zn h3];rfl
 ·rename_i x ho;split at h
  all_goals first|cases h;done|skip
  all_goals
   rename_i hx;refine⟨_,_,h,[],trivial,λrest=> ?_⟩;simp only[yv];unfold evN;rw[ho];dsimp only;rw[Zn hx];rfl
 ·rename_i op t x y yt ho;obtain⟨a,h1,h⟩:=yc.1 h;obtain⟨b,h2,h⟩:=yc.1 h;obtain⟨d,hs,C,h3,h4,h5⟩:=ZFA h;refine⟨d,hs,h3,C,h4,λrest=> ?_⟩;unfold evN;rw[ho];dsimp only;rw[Zn h1,Zn h2];exact h5 rest
 ·rename_i t x ho;obtain⟨b,h1,h⟩:=yc.1 h;obtain⟨xd,h0,h1⟩:=yc.1 h1;refine⟨_,_,h,[],trivial,λrest=> ?_⟩;simp only[yv];unfold evN;rw[ho];dsimp only;rw[Zn h0,Zf9 h1];rfl
 ·rename_i t x ho;obtain⟨a,h1,h⟩:=yc.1 h;obtain⟨xd,h0,h1⟩:=yc.1 h1;refine⟨_,_,h,[],trivial,λrest=> ?_⟩;unfold evN;rw[ho];dsimp only;rw[Zn h0,Vq h1,TD.er,ZD5];rfl
 ·rename_i t x ho;obtain⟨a,h1,h⟩:=yc.1 h;obtain⟨xd,h0,h1⟩:=yc.1 h1;obtain⟨z,h2,h⟩:=yc.1 h;obtain⟨e1,e2⟩:=ZJP h2;refine⟨_,_,h,[],trivial,λrest=> ?_⟩;unfold evN;rw[ho];dsimp only;rw[Zn h0,Vq h1,TD.er,e2];dsimp only;rw[e1];rfl
 ·rename_i src dst x ho;obtain⟨a,h1,h⟩:=yc.1 h;exact ZCs ho h1 h
 ·rename_i f first captured ho
  split at h
  ·rename_i hf;obtain⟨ds,h1,h⟩:=yc.1 h;refine⟨_,_,h,[],trivial,λrest=> ?_⟩;simp only[yv];unfold evN;rw[ho];dsimp only;rw[if_pos hf,ZxG h1];rfl
  ·rename_i hf;split at h
   ·rename_i hf2;obtain⟨ds,h1,h⟩:=yc.1 h;refine⟨_,_,h,[],trivial,λrest=> ?_⟩;simp only[yv];unfold evN;rw[ho];dsimp only;rw[if_neg hf,if_pos hf2,ZxG h1];rfl
   ·cases h
 ·rename_i t x ho;split at h
  ·cases h
  ·rename_i u hu hne;obtain⟨d,h1,h⟩:=yc.1 h;refine⟨_,_,h,[],trivial,λrest=> ?_⟩;simp only[yv];unfold evN;rw[ho];dsimp only;rw[Zn h1,hne];split
   ·rename_i ms hh;exact absurd (ybe hh) (hu ms)
   ·rfl
   ·rename_i hh;cases hh
  ·cases h
 ·rename_i t x i ho;obtain⟨a,h1,h⟩:=yc.1 h;obtain⟨d,h2,h3⟩:=Zqa h;refine⟨_,_,h2,[],trivial,λrest=> ?_⟩;simp only[yv];unfold evN;rw[ho];dsimp only;rw[Zn h1,h3];rfl
 ·rename_i t x i ho;obtain⟨a,h1,h⟩:=yc.1 h;exact Zq4 ho h1 h
 ·rename_i t x ix ho;obtain⟨a,h1,h⟩:=yc.1 h;obtain⟨b,h2,h⟩:=yc.1 h;obtain⟨ip,h3,h⟩:=yc.1 h;obtain⟨q,h4,h⟩:=yc.1 h;rw[Ys h3] at h2;exact Zq5 (id:=.junk) ho h1 h2 h4 h
 ·rename_i t x ix ho;obtain⟨a,h1,h⟩:=yc.1 h;obtain⟨ap,h5,h⟩:=yc.1 h;obtain⟨b,h2,h⟩:=yc.1 h;obtain⟨ip,h3,h⟩:=yc.1 h;obtain⟨q,h4,h⟩:=yc.1 h;rw[Ys h3] at h2;rw[Ys h5] at h1;exact ZAl ho h1 h2 h4 h
 ·rename_i t x lo hi ho;obtain⟨a,h1,h⟩:=yc.1 h;obtain⟨l,h2,h⟩:=yc.1 h;obtain⟨r,h3,h⟩:=yc.1 h;exact ZAm ho h1 h2 h3 h
 ·rename_i t x lo hi mx ho;obtain⟨a,h1,h⟩:=yc.1 h;obtain⟨l,h2,h⟩:=yc.1 h;obtain⟨r,h3,h⟩:=yc.1 h;obtain⟨m,h4,h⟩:=yc.1 h;exact ZxI ho h1 h2 h3 h4 h
 ·rename_i t x ho;obtain⟨a,h1,h⟩:=yc.1 h;obtain⟨r,h2,h⟩:=yc.1 h;exact ZxK ho h1 h2 h
 ·rename_i x i ho;split at h
  ·rename_i ds hx;obtain⟨d,h1,h⟩:=yc.1 h;refine⟨_,_,h,[],trivial,λrest=> ?_⟩;simp only[yv];unfold evN;rw[ho];dsimp only;rw[Zn hx];dsimp only[TD.er];rw[Vp h1];rfl
  ·cases h
 ·rename_i t x ho;obtain⟨a,h1,h⟩:=yc.1 h;unfold ZKY at h;split at h
  ·obtain⟨h2,h⟩:=Za h;refine⟨_,_,h,[],trivial,λrest=> ?_⟩;simp only[yv];unfold evN;rw[ho];dsimp only;rw[Zn h1];dsimp only[TD.er];rw[if_pos (by simpa[and_assoc] using h2)]
  ·cases h
 ·rename_i t parts ho;exact ZAq ho h
 ·rename_i t len parts ho;obtain⟨e,T,l,i,xs,h1,hu,hi,hl,hz,hs,hx⟩:=Zf8 h;refine⟨_,_,h1,[],trivial,λrest=> ?_⟩;unfold evN;rw[ho];dsimp only;rw[yaa,yv];dsimp only;rw[hu];dsimp only;rw[hi,hl];dsimp only;rw[if_pos (by simpa using hz),hx,hs];rfl
 ·rename_i c ho;split at h
  ·rename_i hc;split at h
   ·rename_i x t ha ht;obtain⟨a,h1,h⟩:=yc.1 h;exact ZFC ho hc ha ht h1 h
   ·cases h
  ·rename_i hc;split at h
   ·rename_i x y t u ha ht;obtain⟨m,h1,h⟩:=yc.1 h;obtain⟨n,h2,h⟩:=yc.1 h;obtain⟨xd,g1,g2⟩:=yc.1 h1;obtain⟨yd,g3,g4⟩:=yc.1 h2;obtain⟨h5,h⟩:=Za h;simp only[yi,decide_eq_true_eq] at h5;refine⟨_,_,h,[],trivial,λrest=> ?_⟩;simp only[yv];unfold evN;rw[ho];dsimp only;rw[hc];dsimp only;rw[ha,ht];dsimp only;rw[Zn g1,Zn g3,Vq g2,Vq g4,h5.1,h5.2];rfl
   ·cases h
  ·rename_i hc;split at h
   ·rename_i x y t u ha ht;unfold ZKZ at h;split at h
    ·rename_i e T0 hu hx;obtain⟨i,h1,h⟩:=yc.1 h;obtain⟨T,h2,h⟩:=yc.1 h;obtain⟨yd,h3,h⟩:=yc.1 h;obtain⟨l,h4,h⟩:=yc.1 h;obtain⟨h5,h⟩:=Za h;obtain⟨h6,h⟩:=Za h;simp only[yi,decide_eq_true_eq] at h5;obtain⟨g1,g2⟩:=VI h6;refine⟨_,_,h,[(l.map T.enc).length*i.bytes≤Zo,(l.map T.enc).length≤maxLen],⟨by rw[yx];exact g1,by rw[yx];exact g2,ytt⟩,λrest=> ?_⟩;unfold evN;rw[ho];dsimp only;rw[hc];dsimp only;rw[ha,ht,yaa,yv];dsimp only;rw[hu,Zn hx,Zn h3,show(TD.p (TP.sl (some false) T0 [])).er L=Dv.p (.sl (some false) T0.size []) from rfl]
     dsimp only;rw[h1,h5.2.1,ZgW h4];dsimp only;rw[if_pos (by simpa using h5.1)];rfl
    ·cases h
   ·cases h
  ·rename_i f hc;split at h
   ·rename_i g hf;obtain⟨hk,h⟩:=Za h;split at h
    ·rename_i x y t u ha ht;obtain⟨a,h1,h⟩:=yc.1 h;obtain⟨b,h2,h⟩:=yc.1 h;unfold ZM6 at h;obtain⟨l,h3,h⟩:=yc.1 h;obtain⟨m,h4,h⟩:=yc.1 h;obtain⟨n1,e1⟩:=ZEc h3;obtain⟨n2,e2⟩:=ZEc h4;refine⟨_,_,h,[Zdj (bytesOf l)=Zdj (bytesOf l),Zdj (bytesOf m)=Zdj (bytesOf m)],⟨rfl,rfl,ytt⟩,λrest=> ?_⟩
     have hg:g < big:=by
      rw[yi] at hk;have hk2:=hk.1;unfold ZlJ at hk2;rw[yi,decide_eq_true_eq] at hk2;exact hk2.1
     have e3:ZM P [] (TD.ers L ts) c g []=[.p (.sl n1 1 (Zdj (bytesOf l))),.p (.sl n2 1 (Zdj (bytesOf m)))]:=by
      unfold ZM;rw[if_pos hg,ha,ht];simp only[List.zip_cons_cons,List.zip_nil_right,yad,List.map_nil,ybj];rw[Zn h1,Zn h2,e1,e2]
     unfold evN;rw[ho];dsimp only;rw[hc];dsimp only;rw[Zn hf,yaa,yaa,yv,show TD.er L (.fn g [])=Dv.fn g [] from rfl]
     dsimp only;rw[if_pos hk,e3];dsimp only;rw[if_pos ⟨rfl,rfl⟩];rfl
    ·cases h
   ·cases h
  ·cases h
 ·cases h
end
end Go.Ev
end
