/- Parts of the proof, in one file. -/
import Derived.Test.YtcbhhaigilifgaaGreatKd
open Option renaming some → ab, none → ad
open Bool renaming true → ae, false → af
open Decidable renaming decide → ag
open Bool renaming and_eq_true → yi, false_eq_true → yce, or_eq_true → yck
open Go renaming TypeId → yc, Program → yg, Value → yh, Oper → yj, FuncId → yr, World → yy
open Go.Proofs.Tryz renaming prog → yb
open List renaming length_append → yl, range → yn, getElem?_eq_some_iff → yu, replicate → yx, length_map → yaa, getElem?_eq_getElem → yad, map_cons → yag, length_cons → yah, getElem?_map → yak, all_eq_true → yan, getElem?_cons_succ → yaq, getElem?_append_right → yas, map_append → yat, map_map → yaw, mem_cons_self → yay, mem_cons_of_mem → yaz, append_nil → yba, getElem?_append_left → ybd, ext_getElem? → ybl, mem_of_getElem? → ybs, map_congr_left → ycd, getD_eq_getElem?_getD → ycu, length_replicate → yda
open Nat renaming le_refl → ym, mod_eq_of_lt → yap, zero_add → yax, add_mul → ybc, mul_comm → ybo, mul_le_mul_right → ycb, add_zero → ych
open Option renaming bind_some → ya, bind_eq_some_iff → yf, map_eq_some_iff → yv, map_some → yae
open Prod.mk renaming injEq → yq
open UInt32 renaming ofNat → ybn
open UInt64 renaming ofNat → yao, toNat_ofNat' → ybe, toNat_lt → ybm, lt_iff_toNat_lt → yca, le_iff_toNat_le → ycs
set_option linter.unusedVariables false
set_option linter.unusedSimpArgs false
section
namespace Go.Ev
section
variable{P:yg}{o:yj}{ts all:yL TD}{H:yL ai}{O:Type}{out:O}
def ig(keep:yL Nat):Nat->yL TD->yL TD
 |_,[]=>[]
 |i,d::r=>(if keep.contains i then d else .ak)::ig keep (i+1) r
theorem wC{L:Lk}(keep:yL Nat):∀(l:yL TD)(k:Nat),TD.aE L (ig keep k l)=aI keep k (TD.aE L l)
 |[],_=>rfl
 |d::r,k=>by
  rw[ig,TD.aE,TD.aE,aI,wC keep r];split <;> rfl
theorem ZxR(keep:yL Nat):∀(l:yL TD)(k t:Nat),keep.contains (k+t)=ae->(ig keep k l).getD t .ak=l.getD t .ak
 |[],_,_,_=>rfl
 |d::r,k,0,h=>by
  have f:keep.contains k=ae:=h
  simp only[ig,f,if_true,List.getD_cons_zero]
 |d::r,k,t+1,h=>by
  simp only[ig,List.getD_cons_succ];exact ZxR keep r (k+1) t (by rw[show k+1+t=k+(t+1) by omega];exact h)
mutual
def Pl.bq:Pl->Pl->Bool
 |.int k n,.int l m=>ag (k=l)&&ag (n=m)
 |.bool a,.bool b=>a==b
 |.str a,.str b=>ag (a=b)
 |.cb,.cb=>ae
 |.fn0,.fn0=>ae
 |.ew,.ew=>ae
 |.cD,.cD=>ae
 |.gG f,.gG g=>Nat.beq f g
 |.agg h,.agg j=>Pl.cr h j
 |.arr n s h,.arr m u j=>Nat.beq n m&&Nat.beq s u&&Pl.cr h j
 |.sl a s h,.sl b u j=>a==b&&Nat.beq s u&&Pl.cr h j
 |.iface t x,.iface u y=>Nat.beq t u&&Pl.bq x y
 |_,_=>af
def Pl.cr:yL Pl->yL Pl->Bool
 |[],[]=>ae
 |x::r,y::q=>Pl.bq x y&&Pl.cr r q
 |_,_=>af
end
mutual
theorem Pl.cM:∀(a b:Pl),Pl.bq a b=ae->a=b
 |.int k n,b,h=>by cases b <;> simp_all[Pl.bq]
 |.bool k,b,h=>by cases b <;> simp_all[Pl.bq]
 |.str k,b,h=>by cases b <;> simp_all[Pl.bq]
 |.cb,b,h=>by cases b <;> simp_all[Pl.bq]
 |.fn0,b,h=>by cases b <;> simp_all[Pl.bq]
 |.ew,b,h=>by cases b <;> simp_all[Pl.bq]
 |.cD,b,h=>by cases b <;> simp_all[Pl.bq]
 |.gG f,b,h=>by cases b <;> simp_all[Pl.bq]
 |.agg g,b,h=>by cases b <;> simp_all[Pl.bq];exact Pl.bN _ _ h
 |.arr n s g,b,h=>by cases b <;> simp_all[Pl.bq];exact Pl.bN _ _ h.2
 |.sl n s g,b,h=>by cases b <;> simp_all[Pl.bq];exact Pl.bN _ _ h.2
 |.iface t x,b,h=>by cases b <;> simp_all[Pl.bq];exact Pl.cM _ _ h.2
theorem Pl.bN:∀(a b:yL Pl),Pl.cr a b=ae->a=b
 |[],[],_=>rfl
 |[],_::_,h=>by cases h
 |_::_,[],h=>by cases h
 |x::r,y::q,h=>by
  simp only[Pl.cr,yi]at h;rw[Pl.cM x y h.1,Pl.bN r q h.2]
end
def pQ:yL Nat->yL Nat->Bool
 |[],[]=>ae
 |x::r,y::q=>Nat.beq x y&&pQ r q
 |_,_=>af
theorem wD:∀(a b:yL Nat),pQ a b=ae->a=b
 |[],[],_=>rfl
 |[],_::_,h=>by cases h
 |_::_,[],h=>by cases h
 |x::r,y::q,h=>by
  simp only[pQ,yi]at h;rw[Nat.eq_of_beq_eq_true h.1,wD r q h.2]
mutual
def Dv.bq:Dv->Dv->Bool
 |.p x,.p y=>Pl.bq x y
 |.elem x,.elem y=>Pl.bq x y
 |.aj i o l,.aj j q m=>Nat.beq i j&&Nat.beq o q&&pQ l m
 |.own i a s h,.own j b u z=>Nat.beq i j&&a==b&&Nat.beq s u&&Pl.cr h z
 |.view i o l a b c,.view G I F A B E=>Nat.beq i G&&Nat.beq o I&&pQ l F&&Nat.beq a A&&Nat.beq b B&&Nat.beq c E
 |.agg h,.agg z=>Dv.cr h z
 |.arr n s h,.arr m u z=>Nat.beq n m&&Nat.beq s u&&Dv.cr h z
 |.fn f h,.fn g z=>Nat.beq f g&&Dv.cr h z
 |.iface t x,.iface u y=>Nat.beq t u&&Dv.bq x y
 |.bm h,.bm z=>Dv.cr h z
 |.mp i,.mp j=>Nat.beq i j
 |.rv a b c d e,.rv A B E M Q=>Nat.beq a A&&Nat.beq b B&&Nat.beq c E&&Nat.beq d M&&Nat.beq e Q
 |.ba a b c l,.ba A B E F=>Nat.beq a A&&Nat.beq b B&&Nat.beq c E&&pQ l F
 |.ak,.ak=>ae
 |_,_=>af
def Dv.cr:yL Dv->yL Dv->Bool
 |[],[]=>ae
 |x::r,y::q=>Dv.bq x y&&Dv.cr r q
 |_,_=>af
end
theorem fw{a b:Nat}(h:Nat.beq a b=ae):a=b:=Nat.eq_of_beq_eq_true h
mutual
theorem Dv.cM:∀(a b:Dv),Dv.bq a b=ae->a=b
 |.p x,b,h=>by
  cases b <;> simp only[Dv.bq,yce]at h
  rw[Pl.cM _ _ h]
 |.elem x,b,h=>by
  cases b <;> simp only[Dv.bq,yce]at h
  rw[Pl.cM _ _ h]
 |.aj i o l,b,h=>by
  cases b <;> simp only[Dv.bq,yce,yi]at h
  rw[fw h.1.1,fw h.1.2,wD _ _ h.2]
 |.own i a s g,b,h=>by
  cases b <;> simp only[Dv.bq,yce,yi,yT]at h
  rw[fw h.1.1.1,h.1.1.2,fw h.1.2,Pl.bN _ _ h.2]
 |.view i o l a k c,b,h=>by
  cases b <;> simp only[Dv.bq,yce,yi]at h
  rw[fw h.1.1.1.1.1,fw h.1.1.1.1.2,wD _ _ h.1.1.1.2,fw h.1.1.2,fw h.1.2,fw h.2]
 |.agg g,b,h=>by
  cases b <;> simp only[Dv.bq,yce]at h
  rw[Dv.bN _ _ h]
 |.arr n s g,b,h=>by
  cases b <;> simp only[Dv.bq,yce,yi]at h
  rw[fw h.1.1,fw h.1.2,Dv.bN _ _ h.2]
 |.fn f g,b,h=>by
  cases b <;> simp only[Dv.bq,yce,yi]at h
  rw[fw h.1,Dv.bN _ _ h.2]
 |.iface t x,b,h=>by
  cases b <;> simp only[Dv.bq,yce,yi]at h
  rw[fw h.1,Dv.cM _ _ h.2]
 |.bm g,b,h=>by
  cases b <;> simp only[Dv.bq,yce]at h
  rw[Dv.bN _ _ h]
 |.mp i,b,h=>by
  cases b <;> simp only[Dv.bq,yce]at h
  rw[fw h]
 |.rv a k c d e,b,h=>by
  cases b <;> simp only[Dv.bq,yce,yi]at h
  rw[fw h.1.1.1.1,fw h.1.1.1.2,fw h.1.1.2,fw h.1.2,fw h.2]
 |.ba a k c l,b,h=>by
  cases b <;> simp only[Dv.bq,yce,yi]at h
  rw[fw h.1.1.1,fw h.1.1.2,fw h.1.2,wD _ _ h.2]
 |.ak,b,h=>by
  cases b <;> simp only[Dv.bq,yce]at h;rfl
theorem Dv.bN:∀(a b:yL Dv),Dv.cr a b=ae->a=b
 |[],[],_=>rfl
 |[],_::_,h=>by cases h
 |_::_,[],h=>by cases h
 |x::r,y::q,h=>by
  simp only[Dv.cr,yi]at h;rw[Dv.cM x y h.1,Dv.bN r q h.2]
end
def aq.bq:yO aq->yO aq->Bool
 |some (.var d _),ab (.var e _)=>Dv.bq d e
 |_,_=>af
theorem aq.jH{a b:yO aq}(h:aq.bq a b=ae):du a=du b:=by
 unfold aq.bq at h;split at h
 .rw[Dv.cM _ _ h];rfl
 .cases h
structure TR where
 bQ:Nat
 rd:Option Nat
 tc:Option (List Nat)
 n:Nat
 push:Bool
 loc:Bool
 m:Nat
 sm:Nat->Bool
 ex:Bool
def wE(P:yg)(o:yj)(ts:yL Dv)(hs:yL ar)(n id:Nat):Bool:=
 match o.guard,hs with
 |some (_,f),.b β::hs'=>if β=f then(match kh P o ts hs' with|some l=> !l.contains id&&ag (id < n)|none=>af) else af
 |_,_=>af
def wF(P:yg)(hi:HI)(aF:Sp P)(ops:Array yj):yL yj->yL TD->yL ai->(yL TD->yL ai->yL TR->yL ar->yO O)->yO O
 |[],all,H,K=>K all H [] []
 |o::r,all,H,K=>gT P hi aF ops o (ig (looks ops o) 0 all) all H λa d H' hs c=>wF P hi aF ops r (pP a o.dst d) H' λf g rs hs'=>
   K f g (⟨c,qH P o (TD.aE (lk H) (ig (looks ops o) 0 all)),kT P o (TD.aE (lk H) (ig (looks ops o) 0 all)) hs,H.length,je o hs H.length,kS o hs,H'.length,λid=>(c==3) || wE P o (TD.aE (lk H) (ig (looks ops o) 0 all)) hs H.length id || aq.bq ((aG H')[id]?) ((aG H)[id]?),ki o⟩::rs) (hs++hs')
def jI(R:Rec)(r:TR):Prop:=R.bQ<=r.bQ/\(R.rd=r.rd/\R.ex=r.ex)/\(∀l,r.tc=ab l->R.tc=ab l)/\R.H.length=r.n/\(r.push=ae->R.push=ae)/\(r.loc=ae->R.loc=ae)/\R.H'.length=r.m/\∀id,r.sm id=ae->du (R.H'[id]?)=du (R.H[id]?)
inductive dm:List Rec->List TR->Prop where
 |nil:dm [] []
 |cons {R:Rec} {r:TR} {Rs:List Rec} {rs:List TR} (h:jI R r) (k:dm Rs rs):dm (R::Rs) (r::rs)
theorem ZuY{ts:yL Dv}{hs yK:yL ar}{l:yL Nat}(h:kh P o ts hs=ab l):kh P o ts (hs++yK)=ab l:=by
 unfold kh at h ⊢;split at h <;> first|exact h|skip
 all_goals grind
theorem ZLM{ts:yL Dv}{hs yK:yL ar}{l:yL Nat}(h:kT P o ts hs=ab l):kT P o ts (hs++yK)=ab l:=by
 unfold kT at h ⊢;split at h
 .rename_i f;rw[yW f];exact ZuY h
 .cases h
theorem ZI3{hs yK:yL ar}(h:kS o hs=ae):kS o (hs++yK)=ae:=by
 unfold kS at h ⊢
 all_goals grind
theorem ZGJ{hs yK:yL ar}{n:Nat}(h:je o hs n=ae):je o (hs++yK) n=ae:=by
 unfold je at h ⊢
 all_goals grind
theorem ZLN{ops:Array yj}{ts:yL Dv}{H:yL aq}{hs yK:yL ar}{C:yL Prop}{d:Dv}{H':yL aq}{g:yL ar}{id:Nat}(h:cY P ops o ts H (hs++yK)=ab (C,d,H',g))(ht:wE P o ts hs H.length id=ae):du (H'[id]?)=du (H[id]?):=by
 unfold wE at ht;split at ht
 .rename_i j m β hs' A;split at ht
  .rename_i B;split at ht
   .rename_i l E;rw[yi]at ht;have F:id < H.length:=by simpa using ht.2
    have G:l.contains id=af:=by simpa using ht.1
    rw[List.cons_append]at h;unfold cY at h;rw[A]at h;dsimp only at h;split at h
    .rename_i Q R y S I;cases I;rw[yW B,yv]at h;obtain⟨⟨C1,d1,H1,M⟩,f,z⟩:=h;simp only[yq]at z;obtain⟨_,_,rfl,_⟩:=z;unfold cw at f;split at f
     .cases f;rfl
     .split at f
      .cases f;rfl
      .exact ZxB f (ZuY E) F G
    all_goals grind
   .cases ht
  .cases ht
 .cases ht
theorem ZuZ{hi:HI}{aF:Sp P}{ops:Array yj}(ok:dU aF):∀(l:yL yj)(all:yL TD)(H:yL ai)(K:yL TD->yL ai->yL TR->yL ar->yO O),wF P hi aF ops l all H K=ab out->
 ∃a h rs hs C,K a h rs hs=ab out/\a.length=all.length/\aZ C/\∀yK,∃RS,nu P ops l (TD.aE (lk H) all) (aG H) (hs++yK)=ab (C,RS,TD.aE (lk h) a,aG h,yK)/\dm RS rs
 |[],all,H,K,h=>⟨all,H,[],[],[],h,rfl,zP,λ_=>⟨[],rfl,.nil⟩⟩
 |o::r,all,H,K,h=>by
  unfold wF at h
  have m:∀j f t,o.guard=ab (j,f)->HT ops j=ab t->(ig (looks ops o) 0 all).getD t .ak=all.getD t .ak:=by
   intro j f t A hs;refine ZxR _ _ _ _ ?_;rw[yax];unfold looks;rw[A];dsimp only;rw[show(ops[j]?).bind (·.dst)=ab t from hs]
   simp
  obtain⟨a,d,H',hs,c,B,g⟩:=ZFm ok m h;obtain⟨E,F,rs,hs',C',G,I,M,Q⟩:=ZuZ ok r _ _ _ B;obtain⟨C,R,z⟩:=g.op;refine⟨E,F,_,_,C++C',G,by rw[I,ZxP,g.len],Zm.2 ⟨R,M⟩,λyK=> ?_⟩;obtain⟨RS,S,T⟩:=Q yK;unfold nu;rw[<-wC,List.append_assoc,z (hs'++yK)];dsimp only;rw[<-g.same, <-ZBP,S]
  refine⟨_,rfl,.cons ⟨g.bQ _,⟨rfl,rfl⟩,λl y=> ?_,ZV _,λU=>by rw[ZV];exact ZGJ U,λy=>ZI3 y,ZV _,λid hs=>by
   have hs:(c==3 || wE P o (TD.aE (lk H) (ig (looks ops o) 0 all)) _ H.length id || aq.bq ((aG H')[id]?) ((aG H)[id]?))=ae:=hs;rw[yck,yck]at hs;rcases hs with(h5|h5)|h5
   .rw[g.sam (by simpa using h5)]
   .exact ZLN (z []) (by rw[ZV];exact h5)
   .exact aq.jH h5⟩ T⟩
  exact ZLM y
def wG(ops:Array yj)(f:yL Nat)(free comm:Nat->Nat->Bool):Bool:=
 let l:=ops.toList;let A:=AU l;let n:=l.length
 (f.length==n)&&kU l 0&&
 ((yn n).all λi=>match l[i]? with|some o=>A.getD i 0==nv A i o|none=>ae)&&
 ((yn n).all λi=>(yn n).all λj=>i==j || aX l i==ad || !(aX l i==aX l j))&&
 ((yn n).all λi=>match l[i]? with
   |some o=>let k:=looks ops o
    (yn n).all λj=>match aX l j with
      |some t=>i==j || !(k.contains t) || (if j < i then(A.getD i 0).testBit j else(A.getD j 0).testBit i)
      |none=>ae
   |none=>ae)&&
 ((yn n).all λi=>f.getD i 0==0 || (yn n).all λj=>i==j || decide (f.getD j 0 < 2) || (if j < i then(A.getD i 0).testBit j else(A.getD j 0).testBit i) || (ag (f.getD i 0<=1)&&free i j) || comm i j)
def HW(rs:yL TR)(i j:Nat):Bool:=
 match rs[i]?,rs[j]? with
 |some r,ab q=>match r.rd with
  |some id=>ag (id < q.n)&&ag (id < r.n)&&(if r.ex=ae then q.push else((match q.tc with|some l=> !l.contains id|none=>af) || q.sm id))
  |none=>af
 |_,_=>af
def cT(rs:yL TR)(c:Nat)(r:TR):Bool:=r.loc || (r.push&&r.m==r.n+1&&(rs.take c).all λq=>ag (q.n<=r.n))
def cI(rs:yL TR):Nat:=match rs.findIdx? (λr=>r.loc&&r.bQ==2) with
 |some c=>c
 |none=>match rs.findIdx? (λr=>r.loc&&r.bQ==3) with
  |some c=>c
  |none=>(rs.findIdx? (λr=>r.push)).getD 0
def wH(rs:yL TR)(i j:Nat):Bool:=
 let c:=cI rs
 ((rs[c]?).map (cT rs c)).getD af&&((i==c&&ag (c < j)&&((rs[j]?).map (·.push)).getD af) || (j==c&&ag (c < i)&&((rs[i]?).map (·.push)).getD af))
theorem HY{RS:yL Rec}{rs:yL TR}(h:dm RS rs):RS.length=rs.length:=by
 induction h with
 |nil=>rfl
 |cons _ _ f=>simp[f]
theorem sE{RS:yL Rec}{rs:yL TR}(h:dm RS rs):∀{i:Nat}{r:TR},rs[i]? =ab r->∃R,RS[i]? =ab R/\jI R r:=by
 induction h with
 |nil=>intro i r h;simp at h
 |cons h k g=>
  intro i r f
  cases i with
  |zero=>cases f;exact⟨_,rfl,h⟩
  |succ i=>exact g f
theorem ZGK{RS:yL Rec}{rs:yL TR}(h:dm RS rs):∀{i:Nat}{R:Rec},RS[i]? =ab R->∃r,rs[i]? =ab r/\jI R r:=by
 induction h with
 |nil=>intro i r h;simp at h
 |cons h k g=>
  intro i r f
  cases i with
  |zero=>cases f;exact⟨_,rfl,h⟩
  |succ i=>exact g f
theorem ZBQ{RS:yL Rec}{rs:yL TR}(h:dm RS rs)(i:Nat):(RS.map (·.bQ)).getD i 0<=(rs.map (·.bQ)).getD i 0:=by
 simp only[ycu,yak]
 cases f:rs[i]? with
 |none=>
  have:RS[i]? =ad:=by rw[List.getElem?_eq_none_iff]at f ⊢;rw[HY h];exact f
  rw[this]
  exact ym _
 |some r=>
  obtain⟨R,e,k⟩:=sE h f;rw[e];exact k.1
theorem ZLO{ops:Array yj}{RS:yL Rec}{rs:yL TR}(h:dm RS rs)(k:wG ops (rs.map (·.bQ)) (HW rs) (wH rs)=ae)(hn:rs.length=ops.size):uK ops RS=ae:=by
 unfold wG at k;unfold uK;simp only[yi]at k ⊢;obtain⟨⟨⟨⟨⟨k1,k2⟩,k3⟩,k4⟩,k5⟩,k6⟩:=k;refine⟨⟨⟨⟨⟨?_,k2⟩,k3⟩,k4⟩,k5⟩, ?_⟩
 .simpa[HY h] using k1
 .have G:∃c,c∈yn (ops.toList.length+1)/\∀i j,wH rs i j=ae->kj RS c i j=ae:=by
   have A:∀(k:Nat),((rs[k]?).map (·.push)).getD af=ae->((RS[k]?).map (·.push)).getD af=ae:=by
    intro k z
    cases y:rs[k]? with
    |none=>rw[y]at z;cases z
    |some r=>
     obtain⟨R,E,f⟩:=sE h y;rw[y]at z;rw[E];exact f.2.2.2.2.1 z
   refine⟨if cI rs < rs.length then cI rs else 0, ?_,λi j g=> ?_⟩
   .all_goals grind
   .unfold wH at g;dsimp only at g;generalize cI rs=c at g ⊢;rw[yi]at g;obtain⟨h1,h2⟩:=g
    cases y:rs[c]? with
    |none=>rw[y]at h1;cases h1
    |some r=>
     have I:=(yu.1 y).1;rw[yW I];obtain⟨R,E,f⟩:=sE h y;rw[y]at h1;unfold kj;rw[yi];refine⟨?_, ?_⟩
     .rw[E];show uJ RS c R=ae;have h1:cT rs c r=ae:=h1;unfold cT at h1;unfold uJ;rw[yck]at h1 ⊢;rcases h1 with h1|h1
      .exact .inl (f.2.2.2.2.2.1 h1)
      .simp only[yi,yT,yan,yP]at h1 ⊢;obtain⟨⟨b1,b2⟩,b3⟩:=h1;refine .inr ⟨⟨f.2.2.2.2.1 b1,by rw[f.2.2.2.2.2.2.1,f.2.2.2.1];exact b2⟩,λq M=> ?_⟩;obtain⟨k,z⟩:=List.mem_iff_getElem?.1 M;rw[List.getElem?_take]at z;split at z
       .rename_i S;obtain⟨q2,f1,f2⟩:=ZGK h z;rw[f2.2.2.2.1,f.2.2.2.1];refine b3 q2 (List.mem_iff_getElem?.2 ⟨k, ?_⟩);rw[List.getElem?_take,yW S];exact f1
       .cases z
     .simp only[yck,yi]at h2 ⊢;rcases h2 with⟨⟨T,U⟩,W⟩|⟨⟨T,U⟩,W⟩
      .exact .inl ⟨⟨T,U⟩,A _ W⟩
      .exact .inr ⟨⟨T,U⟩,A _ W⟩
  obtain⟨c,X,Y⟩:=G;rw[List.any_eq_true];refine⟨c,X, ?_⟩;rw[yan]at k6 ⊢;intro i hi;have:=k6 i hi;have hc:=ZBQ h i;simp only[yck]at this ⊢;rcases this with h0|h1
  .grind
  .by_cases hz:(RS.map (·.bQ)).getD i 0=0
   .grind
   .right;rw[yan]at h1 ⊢;intro j hj;have h2:=h1 j hj;have hd:=ZBQ h j;simp only[yck,yi,yP]at h2 ⊢;rcases h2 with(((h2|h2)|h2)|h2)|h2
    .grind
    .grind
    .grind
    .refine .inl (.inr ⟨?_, ?_⟩)
     .grind
     .have B:=h2.2;unfold HW at B;unfold lZ;split at B
      .rename_i r q y M;obtain⟨R,E,f⟩:=sE h y;obtain⟨Q,e3,e4⟩:=sE h M;rw[E,e3];dsimp only;split at B
       .rename_i id Z;rw[f.2.1.1,Z];dsimp only;rw[e4.2.2.2.1,f.2.2.2.1];rw[yi]at B ⊢;refine⟨B.1, ?_⟩;have m:=B.2;rw[f.2.1.2];by_cases F:r.ex=ae
        .rw[yW F]at m ⊢;exact e4.2.2.2.2.1 m
        rw[yX F]at m ⊢;rw[yck]at m ⊢;rcases m with h5|h5
        .left;split at h5
         .rename_i l htc;rw[e4.2.2.1 l htc];exact h5
         .cases h5
        .right;exact@decide_eq_true _ (Classical.propDecidable _) (e4.2.2.2.2.2.2.2 id h5)
       .cases B
      .cases B
    .exact .inr (Y i j h2)
def sF:ai->ai
 |.var d _=>.var d af
 |e=>e
def pR(ids:yL Nat)(H:yL ai):yL ai:=(yn H.length).zipWith (λi e=>if ids.contains i then sF e else e) H
theorem ZLP(e:ai):dS (ab (sF e))=dS (ab e):=by cases e <;> rfl
theorem Zu1(ids:yL Nat)(H:yL ai)(i:Nat):(pR ids H)[i]? =(H[i]?).map λe=>if ids.contains i then sF e else e:=by
 unfold pR
 all_goals grind
theorem ZxT(ids:yL Nat)(H:yL ai):lk (pR ids H)=lk H:=by
 funext i;unfold lk;rw[Zu1]
 cases H[i]? with
 |none=>rfl
 |some e=>
  show dS (ab (if ids.contains i=ae then sF e else e))=_
  split
  .exact ZLP e
  .rfl
theorem ZGL(ids:yL Nat)(H:yL ai):ca (aG H) (aG (pR ids H)):=by
 refine HA (by rw[ZV,ZV];unfold pR;simp) λi a b f g=> ?_;unfold aG at f g;rw[yak]at f g;rw[ZxT,Zu1]at g
 cases h:H[i]? with
 |none=>rw[h]at f;cases f
 |some e=>
  rw[h]at f g;cases f;cases g;show eB (e.er (lk H)) (ai.er (lk H) (if ids.contains i=ae then sF e else e))
  split
  .cases e <;> first|exact .refl _|exact .dX
  .exact .refl _
theorem ZI6{c:Code}{ts ts1:yL Dv}{H0 H1 H2:yL aq}{g:Ex}(h:ca H0 H1)(r:XZ P c ts H1 g ts1 H2):XZ P c ts H0 g ts1 H2:=by
 intro J a j l m;obtain⟨to,f⟩:=lb j (H':=H1) (by rw[l];exact h);refine wp_mono (r { J with H:=H1} a f rfl (m.to to.leaf)) ?_;rintro e F G ⟨rfl,J2,y,z,A,B,E⟩;exact⟨rfl,J2,y,z,to.trans A,B,E⟩
def ZI7(ops:yL yj)(all:yL TD):Nat->Tmp->yO Nat
 |0,_=>ad
 |n+1,x=>match ops.find? λo=>o.dst==ab x with
  |some o=>match o.op with
   |.fieldAddr _ (.tmp y) _=>ZI7 ops all n y
   |_=>ad
  |none=>match all.getD x .ak with
   |.aj id _=>ab id
   |_=>ad
def ZPm(hi:HI)(ops:yL yj)(all:yL TD)(o:yj):yO Nat:=
 match o.op with
 |.slice _ (.tmp x) _ _ ad=>if iF hi.dX o.dst then ZI7 ops all 4 x else ad
 |_=>ad
def sG(hi:HI)(ops:Array yj)(all:yL TD)(H:yL ai):yL ai:=
 match hi.dX with
 |[]=>H
 |_=>match ops.toList.filterMap (ZPm hi ops.toList all) with
  |[]=>H
  |ids=>pR ids H
theorem ZGM(hi:HI)(ops:Array yj)(all:yL TD)(H:yL ai):ca (aG H) (aG (sG hi ops all H))/\lk (sG hi ops all H)=lk H:=by
 unfold sG;split
 .exact⟨ca.refl _,rfl⟩
 .split
  .exact⟨ca.refl _,rfl⟩
  .exact⟨ZGL _ _,ZxT _ _⟩
def HZ(P:yg)(hi:HI)(aF:Sp P)(ops:Array yj)(all:yL TD)(H:yL ai)(K:yL TD->yL ai->yO O):yO O:=
 if P.follows .mixedOrders then wF P hi aF ops ops.toList all (sG hi ops all H) λa h rs _=>if wG ops (rs.map (·.bQ)) (HW rs) (wH rs)=ae then K a h else ad else ad
theorem ZGN{hi:HI}{aF:Sp P}{ops:Array yj}{K:yL TD->yL ai->yO O}(ok:dU aF)(h:HZ P hi aF ops all H K=ab out):∃a h,K a h=ab out/\a.length=all.length/\∀id,XZ P (.region id ops ae) (TD.aE (lk H) all) (aG H) .normal (TD.aE (lk h) a) (aG h):=by
 unfold HZ at h;split at h
 .rename_i l;obtain⟨w1,w2⟩:=ZGM hi ops all H;generalize sG hi ops all H=H0 at h w1 w2;obtain⟨a,m,rs,hs,C,y,z,A,B⟩:=ZuZ ok _ _ _ _ h;obtain⟨f,E⟩:=Zb y;refine⟨a,m,E,z,λid=> ?_⟩;obtain⟨RS,g,j⟩:=B [];rw[<-w2];refine ZI6 w1 (Zuw (hs:=hs) (hs':=[]) (C:=C) ?_ A);simp only[ev,if_true];unfold uL;rw[yW l];rw[yba]at g;rw[g];dsimp only;rw[yW (ZLO j f (by have:=HY j;unfold wG at f;simp only[yi]at f;simpa using f.1.1.1.1.1))];rfl
 .cases h
theorem ZGO{hi:HI}{aF:Sp P}{ops:Array yj}{K:yL TD->yL ai->yL ar->yO O}(ok:dU aF)(h:sD P hi aF ops ops.toList all H K=ab out):∃a h hs,K a h hs=ab out/\a.length=all.length/\∀id,XZ P (.region id ops af) (TD.aE (lk H) all) (aG H) .normal (TD.aE (lk h) a) (aG h):=by
 obtain⟨a,f,hs,C,g,j,l,m⟩:=ZxQ ok _ _ _ _ h;refine⟨a,f,hs,g,j,λid=> ?_⟩;refine Zuw (hs:=hs) (hs':=[]) (C:=C) ?_ l;have:=m [];rw[yba]at this;simp only[ev,yce,if_false,this];rfl
end
end Go.Ev
end
section
namespace Go.Ev
def VK(H H':yL aq):Prop:=∀J:Sg,Ok J->J.H=H->∃J':Sg,J'.w=J.w/\J'.H=H'/\To J J'/\Ok J'
theorem VK.refl(H:yL aq):VK H H:=λJ f h=>⟨J,rfl,h,To.refl J,f⟩
theorem VK.trans{A B C:yL aq}(h:VK A B)(k:VK B C):VK A C:=λJ f e=>by
 obtain⟨J1,g,j,l,m⟩:=h J f e;obtain⟨J2,y,z,E,F⟩:=k J1 m j;exact⟨J2,y.trans g,z,l.trans E,F⟩
theorem wI{H H':yL aq}(h:ca H H'):VK H H':=λJ f e=>by
 subst e;obtain⟨to,g⟩:=lb f h;grind
theorem ZLQ{P:yg}{c:Code}{ts ts1 f:yL Dv}{H H1 H2:yL aq}{g:Ex}(h:VK H H1/\∀(J:Sg)(a:Act),aB J ts a->aB J ts1 a)(r:XZ P c ts1 H1 g f H2):XZ P c ts H g f H2:=by
 intro J a l m y;obtain⟨J1,z,A,j,e4⟩:=h.1 J l m;have:=r J1 a e4 A (h.2 _ _ (y.to j.leaf));rw[z]at this;refine wp_mono this ?_;rintro M Q R ⟨rfl,J2,B,E,F,G,I⟩;exact⟨rfl,J2,B,E,j.trans F,G,I⟩
theorem ZI8{H:yL aq}{j:Nat}{x f y:aq}(Y:H[j]? =ab x)
 (Z:∀J:Sg,dw J ad y)
 (l:(∃d st,x=.var d st)->∃d st,f=.var d st) (z:(∃t bU,x=.map t bU)->∃t bU,f=.map t bU) (A:∀s e xs,x≠ .log s e xs)
 (B:∀o,x.bw o->f.bw o)
 (E:∀v s st e d,x=.row v s st e d->∃g d',f=.row v s g e d')
 (F:∀(J:Sg)(mi:yO Nat),J.H[H.length]? =ab y->J.m[H.length]? =ab ad->dw J mi x->dw J mi f):VK H ((H++[y]).set j f):=by
 intro J R hH;subst hH;have S:j < J.H.length:=(yu.1 Y).1;obtain⟨T,G⟩:=Vh (J':={ J with m:=J.m++[ad],H:=J.H++[y]}) R rfl rfl rfl rfl (World.grownBy.refl J.w ad) (.inl rfl) (λ_=>Z _);obtain⟨mi,hm⟩:∃mi,J.m[j]? =ab mi:=⟨_,yad (by rw[R.len];exact S)⟩;let J1:Sg:={ J with m:=J.m++[ad],H:=J.H++[y]};let J2:Sg:={ J1 with m:=J1.m.set j mi,H:=J1.H.set j f}
 have I:J1.H[j]? =ab x:=by
  grind
 have M:J1.m[j]? =ab mi:=by
  grind
 have hx:=G.dx j x mi I M
 obtain⟨U,W⟩:=Xy (J':=J2) (mi:=mi) (mi':=mi) G I M rfl rfl rfl rfl rfl rfl rfl (ym _)
  (λ_ _ _=>rfl) (λ_ _ _ _ _ h=>h) (λo _ hu=>B o hu) (.inl rfl) (λq=>⟨rfl,l q⟩) (λq=>⟨rfl,z q⟩) (λs e xs q=>absurd q (A s e xs))
  (λQ=>by
    refine F J2 mi ?_ ?_ (nA Q (λb _=>rfl) hx)
    .show(J1.H.set j _)[J.H.length]? =_;rw[List.getElem?_set,yX (by omega)];simp[J1]
    .show(J1.m.set j _)[J.H.length]? =_;rw[List.getElem?_set,yX (by omega)];show(J.m++[ad])[J.H.length]? =_;rw[yas (by rw[R.len];exact ym _),R.len];simp)
  (λv s st e d q=>by
    obtain⟨g,d',q'⟩:=E v s st e d q;exact⟨v,g,d',q',ym _,λ_=>⟨rfl,λb X _ hc=>⟨X,hc,rfl⟩⟩⟩)
 exact⟨J2,rfl,rfl,T.trans U,W⟩
theorem ZxU{J:Sg}{s:Nat}{a:yL yh}(h:yH J (.p (.sl (ab af) s [])) a):a=[.slice ad 0 0]:=by
 simp only[yH,aA]at h;obtain⟨_,A,c,rfl,w1,w2,f,g,j⟩:=h
 have l:A=ad:=by
  have:=f af rfl;simp_all
 grind
theorem ZFr{H:yL aq}{j s:Nat}{e:yc}{d d':Dv}{st:Bool}{yQ:yL Nat}(l:H[j]? =ab (.var d st))(g:XO d yQ s (.rv H.length 0 s 0 0)=ab d'):
 VK H ((H++[aq.row 0 s ae e (.p (.arr 0 s []))]).set j (.var d' st)):=by
 have f:=rk yQ d d' s _ rfl g;refine ZI8 l (λJ=>⟨0,by simp[aS],.inl ⟨rfl,rfl⟩⟩) (λ_=>⟨_,_,rfl⟩) (λ⟨_,_,q⟩=>by cases q) (λ_ _ _ q=>by cases q) (λo m=>m) (λ_ _ _ _ _ q=>by cases q) ?_;rintro J I y z ⟨b,A,t,rfl,B,E,F⟩;refine⟨b,A,t,rfl,B, ?_,by rw[f];exact F⟩;rw[f];refine rm yQ d d' s _ (λa G=> ?_) g _ E;have:=ZxU G;subst this;simp only[yH];exact⟨ad,0,rfl,ym _,by simp[maxLen],λ_=>rfl,λh=>absurd h (Nat.lt_irrefl 0),0,s,ae,e,_,y,ym _,λ_=>⟨rfl,.inl ⟨z,rfl,rfl⟩⟩⟩
theorem ZI9{H:yL aq}{j s f v N:Nat}{st:Bool}{e F:yc}{xs:yL Pl}{k:Nat}{x:Pl}{y:Dv}{yQ:yL Nat}(Q:H[j]? =ab (.row v s st e (.p (.arr N s xs))))(g:xs[k]? =ab x)
 (G:XO (.p x) yQ f (.own H.length ad f [])=ab y):VK H ((H++[aq.log f F []]).set j (.row v s st e (.arr N s ((xs.map .p).set k y)))):=by
 have l:=rk yQ (.p x) y f _ rfl G;refine ZI8 Q (λJ=>.inl ⟨rfl,rfl⟩) (λ⟨_,_,q⟩=>by cases q) (λ⟨_,_,q⟩=>by cases q) (λ_ _ _ q=>by cases q) (λo R=> ?_) (λv2 s2 S e2 d2 q=>by cases q;exact⟨_,_,rfl⟩) ?_
 .obtain⟨T,N',U,W⟩:=R;exact⟨T,N',by rw[<-U];simp[aS],W⟩
 rintro J mi X Y ⟨N',Z,m⟩;refine⟨N',by rw[<-Z];simp[aS], ?_⟩;rcases m with m|⟨b,A,B,e3,e4,e5,e6,e7,I⟩
 .exact .inl m
 refine .inr ⟨b,A,B,e3,e4,e5,e6,e7, ?_⟩;have hk:(xs.map Dv.p)[k]? =ab (.p x):=by rw[yak,g];rfl
 simp only[yH,aA]at I ⊢;obtain⟨r1,M,r3⟩:=I;refine⟨by simpa using r1,λz hz=> ?_, ?_⟩
 .rcases List.mem_or_eq_of_mem_set hz with hz|hz
  .obtain⟨w,hw,rfl⟩:=List.mem_map.1 hz;exact M w hw
  .subst hz;rw[l];exact M x (ybs g)
 .refine vk (x:=.p x) (y:=y) (λa E=>rm yQ (.p x) y f _ (λa E=> ?_) G a E) _ k _ hk (jx.2 r3);have:=ZxU E;subst this;simp only[yH];exact⟨λ_ g=>(by cases g),ad,0,rfl,ym _,by simp[maxLen],Yk _,λ_=>rfl,λh=>absurd rfl h,F,[],X,ym _,λ_=>.inl ⟨Y,rfl,rfl⟩⟩
theorem ZLR{H:yL aq}{j:Nat}{d d':Dv}{st:Bool}(y:H[j]? =ab (.var d st))(hsz:d'.size=d.size)(hd:∀J:Sg,Ok J->J.H=H->∀us,yH J d us->yH J d' us):VK H (H.set j (.var d' st)):=by
 intro J g B;subst B;have z:j < J.H.length:=(yu.1 y).1;obtain⟨l,A⟩:∃l,J.m[j]? =ab l:=⟨_,yad (by rw[g.len];exact z)⟩;let J2:Sg:={ J with m:=J.m.set j l,H:=J.H.set j (.var d' st)};obtain⟨b,E,t,rfl,F,G,I⟩:=g.dx j _ l y A;have M:=hd J g rfl _ G
 obtain⟨Q,R⟩:=Xy (J':=J2) (mi:=ab b) (mi':=ab b) g y A rfl rfl rfl rfl rfl rfl rfl (ym _)
  (λ_ _ _=>rfl) (λ_ _ _ _ _ h=>h) (λo _ S=>S) (.inl rfl) (λq=>⟨rfl,_,_,rfl⟩) (λ⟨_,_,q⟩=>by cases q) (λs e T q=>by cases q)
  (λf=>⟨b,E,t,rfl,F,by rw[hsz];exact Yb f _ _ M,by rw[hsz];exact I⟩)
  (λv s st e d q=>by cases q)
 grind
def wJ{α O:Type}(l:yL α)(f:α->yL α->yO O):yO O:=match l with
 |x::r=>f x r
 |[]=>ad
inductive kD where
 |rows (t:Tmp) (yQ:List Nat) (T:Ty) (e:yc) (np:List Nat)
 |focus (t:Tmp) (U:Ty) (e:yc)
 |done (t:Tmp)
 |fresh (t:Tmp) (i:Nat)
 |cE (t:Tmp) (yQ:List Nat) (T:Ty) (e:yc)
 |gP (t:Tmp)
 |gQ (t:Tmp)
 |fQ (t:Tmp) (i:Nat)
 |dz (t:Tmp)
 |hole
 |flat (t:Tmp)
def ZJa:ai->Bool
 |.aS _ _ _ ae _ _ _=>ae
 |_=>af
section
variable{O:Type}{out:O}
abbrev Kh(O:Type):=yL TD->yL ai->yO O
def IA(t:Tmp)(yQ:yL Nat)(T:Ty)(e:yc)(f:yL Nat)(a:yL TD)(h:yL ai)(K:Kh O):yO O:=
 match a[t]? with
 |some (.aj id [])=>match h[id]? with
  |some (.var d ae)=>(jF T (.rw h.length) yQ d).bind λg=>if(TD.frees h.length a&&h.all (ai.free h.length))=ae then K a ((h++[ai.aS T f [] ae e [] []]).set id (.var g ae)) else ad
  |_=>ad
 |_=>ad
def IB(t:Tmp)(yQ:yL Nat)(T:Ty)(e:yc)(a:yL TD)(h:yL ai)(K:Kh O):yO O:=
 match a[t]? with
 |some (.aj id [])=>match h[id]? with
  |some (.var d ae)=>(jF T (.rw h.length) yQ d).bind λf=>if(TD.frees h.length a&&h.all (ai.free h.length))=ae then K a ((h++[ai.aV T [] ae e []]).set id (.var f ae)) else ad
  |_=>ad
 |_=>ad
def IC(t:Tmp)(U:Ty)(e:yc)(a:yL TD)(h:yL ai)(K:Kh O):yO O:=
 let j:=h.findIdx ZJa
 match h[j]?,((a[t]?).bind TD.num) with
 |some (.aS T l v ae m f g),ab i=>if(TD.frees h.length a&&h.all (ai.free h.length))=ae then if ag (i.n=(f.length:Int))=ae then wJ g λx r=>
   (jF U (.own h.length ad U ad) l (.p (WX l (.v T x)))).bind λd=>K a ((h++[ai.log U e []]).set j (.bK T l v ae m f d r)) else ad else ad
 |_,_=>ad
def sH(h:yL ai):TD->yO (TD×yL Nat)
 |.rw j=>match h[j]? with
  |some (.aS T _ _ _ _ f [])=>ab (.p (.sl ad T f),[j])
  |some (.aV T _ _ _ l)=>ab (.p (.sl ad T l),[j])
  |_=>ad
 |d=>ab (d,[])
def ID(h:yL ai):TD->(TD->yL Nat->yO O)->yO O
 |.rw j,K=>match h[j]? with
  |some (.aS T _ _ _ _ g f)=>if f.isEmpty=ae then K (.p (.sl ad T g)) [j] else ad
  |some (.aV T _ _ _ l)=>K (.p (.sl ad T l)) [j]
  |_=>ad
 |d,K=>K d []
theorem ZD2{h:yL ai}{d:TD}{K:TD->yL Nat->yO O}(k:ID h d K=ab out):∃q,sH h d=ab q/\K q.1 q.2=ab out:=by
 unfold ID at k;unfold sH;split at k
 .rename_i j;dsimp only;split at k
  all_goals simp_all
 simp_all
def IE(h:yL ai):yL TD->(yL TD->yL Nat->yO O)->yO O
 |[],K=>K [] []
 |d::r,K=>ID h d λx l=>IE h r λy m=>K (x::y) (l++m)
def sI(h:yL ai):yL TD->yO (yL TD×yL Nat)
 |[]=>ab ([],[])
 |d::r=>match sH h d,sI h r with
  |some q,ab w=>ab (q.1::w.1,q.2++w.2)
  |_,_=>ad
theorem Zsy{h:yL ai}:∀{f:yL TD}{K:yL TD->yL Nat->yO O},IE h f K=ab out->∃q,sI h f=ab q/\K q.1 q.2=ab out
 |[],K,k=>⟨_,rfl,k⟩
 |d::r,K,k=>by
  obtain⟨q,g,k⟩:=ZD2 k;obtain⟨w,j,k⟩:=Zsy k;exact⟨(q.1::w.1,q.2++w.2),by simp only[sI,g,j],k⟩
def jJ:ai->ai
 |.aS T f v _ e a b=>.aS T f v af e a b
 |.aV t v _ e l=>.aV t v af e l
 |e=>e
def iH(ids:yL Nat)(H:yL ai):yL ai:=(yn H.length).zipWith (λi e=>if ids.contains i then jJ e else e) H
def sJ(t:Tmp)(a:yL TD)(h:yL ai)(K:Kh O):yO O:=
 match a[t]? with
 |some (.aj id [])=>match h[id]? with
  |some (.var (.agg f) st)=>IE h f λx l=>K a ((iH l h).set id (.var (.agg x) st))
  |_=>ad
 |_=>ad
def wK(t:Tmp)(i:Nat)(a:yL TD)(h:yL ai)(K:Kh O):yO O:=
 match a[t]? with
 |some (.aj j [])=>match h[j]? with
  |some (.var (.agg f) st)=>match f[i]? with
   |some (.rv id v s 0 n)=>match h[id]? with
    |some (.aV T w _ _ l)=>if(ag (v=w.length)&&(ag (s=T.size)&&ag (n=l.length)))=ae then K a (h.set j (.var (.agg (f.set i (.rw id))) st)) else ad
    |_=>ad
   |_=>ad
  |_=>ad
 |_=>ad
def IF(t:Tmp)(a:yL TD)(h:yL ai)(K:Kh O):yO O:=
 match a[t]? with
 |some (.rv id v s 0 n)=>match h[id]? with
  |some (.aV T w _ _ l)=>if(ag (v=w.length)&&(ag (s=T.size)&&ag (n=l.length)))=ae then K (a.set t (.rw id)) h else ad
  |_=>ad
 |_=>ad
def IG(t:Tmp)(a:yL TD)(h:yL ai)(K:Kh O):yO O:=
 match a[t]? with
 |some (.aj j [])=>match h[j]? with
  |some (.var (.rv id v s 0 n) st)=>match h[id]? with
   |some (.aV T w _ _ l)=>if(ag (v=w.length)&&(ag (s=T.size)&&ag (n=l.length)))=ae then K a (h.set j (.var (.rw id) st)) else ad
   |_=>ad
  |_=>ad
 |_=>ad
def pS:TP->TD
 |.arr n s f=>.arr n s (f.map TD.p)
 |x=>.p x
def IH(t:Tmp)(a:yL TD)(h:yL ai)(K:Kh O):yO O:=
 match a[t]? with
 |some (.aj j [])=>match h[j]? with
  |some (.var (.p (.arr n s f)) st)=>K a (h.set j (.var (.arr n s (f.map TD.p)) st))
  |some (.var (.p (.agg f)) st)=>K a (h.set j (.var (.agg (f.map pS)) st))
  |_=>K a h
 |_=>K a h
def ZN4(a:yL TD)(h:yL ai)(K:Kh O):yO O:=K a (h++[.gone])
def II(t:Tmp)(a:yL TD)(h:yL ai)(K:Kh O):yO O:=
 match a[t]? with
 |some (.aj j [])=>match h[j]? with
  |some (.var d st)=>(d.flat (lk h)).bind λx=>K a (h.set j (.var (.p x) st))
  |_=>ad
 |_=>ad
def ghT:kD->yL TD->yL ai->Kh O->yO O
 |.rows t f T e g,a,h,K=>IA t f T e g a h K
 |.focus t U e,a,h,K=>IC t U e a h K
 |.done t,a,h,K=>sJ t a h K
 |.fresh t i,a,h,K=>wK t i a h K
 |.cE t f T e,a,h,K=>IB t f T e a h K
 |.gP t,a,h,K=>IF t a h K
 |.gQ t,a,h,K=>IG t a h K
 |.fQ t i,a,h,K=>wK t i a h λa h=>sJ t a h K
 |.dz t,a,h,K=>IH t a h K
 |.hole,a,h,K=>ZN4 a h K
 |.flat t,a,h,K=>II t a h K
def IJ(g:yO kD)(a:yL TD)(h:yL ai)(K:Kh O):yO O:=
 match g with
 |none=>K a h
 |some g=>ghT g a h K
theorem IK{H:yL ai}{e:ai}(h:H.all (ai.free H.length)=ae):aG (H++[e])=aG H++[e.er (lk (H++[e]))]:=by
 unfold aG;rw[yat];congr 1;refine ycd λx f=> ?_;have g:=yan.1 h x f;exact(ZBy (λid t j=>lz id t j) x g).symm
theorem IL{H:yL ai}{e:ai}{a:yL TD}(h:TD.frees H.length a=ae):TD.aE (lk (H++[e])) a=TD.aE (lk H) a:=(cV (λid t f=>lz id t f) a h).symm
theorem ZBS{t:Tmp}{yQ:yL Nat}{T:Ty}{e:yc}{f:yL Nat}{a:yL TD}{h:yL ai}{K:Kh O}(k:IA t yQ T e f a h K=ab out):
 ∃y z,K y z=ab out/\y.length=a.length/\VK (aG h) (aG z)/\∀(J:Sg)(g:Act),aB J (TD.aE (lk h) a) g->aB J (TD.aE (lk z) y) g:=by
 unfold IA at k;split at k
 .rename_i id hid;split at k
  .rename_i d j;obtain⟨l,G,k⟩:=yf.1 k;obtain⟨m,k⟩:=Zb k;rw[yi]at m;have A:id < h.length:=(yu.1 j).1;have B:(h++[ai.aS T f [] ae e [] []])[id]? =ab (.var d ae):=by rw[ybd A];exact j
   have E:lk ((h++[ai.aS T f [] ae e [] []]).set id (.var l ae))=lk (h++[ai.aS T f [] ae e [] []]):=gA B rfl rfl;refine⟨_,_,k,rfl, ?_,λJ g r=> ?_⟩
   .have I:aG ((h++[ai.aS T f [] ae e [] []]).set id (.var l ae))=(aG h++[aq.row 0 T.size ae e (.p (.arr 0 T.size []))]).set id (.var (l.er (lk (h++[ai.aS T f [] ae e [] []]))) ae):=by
     rw[Wo E,IK m.2];rfl
    rw[I];have M:(aG h)[id]? =ab (.var (d.er (lk h)) ae):=by rw[Z6 j];rfl
    refine ZFr (yQ:=yQ) M ?_;have F:=pH (L:=lk (h++[ai.aS T f [] ae e [] []])) yQ d l G;have Q:d.er (lk (h++[ai.aS T f [] ae e [] []]))=d.er (lk h):=(kA (λid t R=>lz id t R) d (yan.1 m.2 _ (ybs j))).symm;rw[Q,(lA (q:=(0,T.size,0)) (x:=.aS T f [] ae e [] []) (List.getElem?_concat_length ..) rfl).1]at F;rw[ZV];exact F
   .rw[E,IL m.1];exact r
  .cases k
 .cases k
theorem ZBT{t:Tmp}{yQ:yL Nat}{T:Ty}{e:yc}{a:yL TD}{h:yL ai}{K:Kh O}(k:IB t yQ T e a h K=ab out):
 ∃y z,K y z=ab out/\y.length=a.length/\VK (aG h) (aG z)/\∀(J:Sg)(f:Act),aB J (TD.aE (lk h) a) f->aB J (TD.aE (lk z) y) f:=by
 unfold IB at k;split at k
 .rename_i id hid;split at k
  .rename_i d g;obtain⟨j,G,k⟩:=yf.1 k;obtain⟨m,k⟩:=Zb k;rw[yi]at m;have A:id < h.length:=(yu.1 g).1;have B:(h++[ai.aV T [] ae e []])[id]? =ab (.var d ae):=by rw[ybd A];exact g
   have E:lk ((h++[ai.aV T [] ae e []]).set id (.var j ae))=lk (h++[ai.aV T [] ae e []]):=gA B rfl rfl;refine⟨_,_,k,rfl, ?_,λJ f r=> ?_⟩
   .have I:aG ((h++[ai.aV T [] ae e []]).set id (.var j ae))=(aG h++[aq.row 0 T.size ae e (.p (.arr 0 T.size []))]).set id (.var (j.er (lk (h++[ai.aV T [] ae e []]))) ae):=by
     rw[Wo E,IK m.2];rfl
    rw[I];have M:(aG h)[id]? =ab (.var (d.er (lk h)) ae):=by rw[Z6 g];rfl
    refine ZFr (yQ:=yQ) M ?_;have F:=pH (L:=lk (h++[ai.aV T [] ae e []])) yQ d j G;have Q:d.er (lk (h++[ai.aV T [] ae e []]))=d.er (lk h):=(kA (λid t R=>lz id t R) d (yan.1 m.2 _ (ybs g))).symm;rw[Q,(gg (T:=T) (v:=[]) (l:=[]) (List.getElem?_concat_length ..)).1]at F;rw[ZV];exact F
   .rw[E,IL m.1];exact r
  .cases k
 .cases k
theorem ZzN{t:Tmp}{U:Ty}{e:yc}{a:yL TD}{h:yL ai}{K:Kh O}(k:IC t U e a h K=ab out):
 ∃A B,K A B=ab out/\A.length=a.length/\VK (aG h) (aG B)/\∀(J:Sg)(l:Act),aB J (TD.aE (lk h) a) l->aB J (TD.aE (lk B) A) l:=by
 unfold IC at k;dsimp only at k;generalize h.findIdx ZJa=j at k;split at k
 .rename_i T g v m f y i E hi;obtain⟨z,k⟩:=Zb k;obtain⟨_,k⟩:=Zb k;simp only[yi]at z;obtain⟨z,S⟩:=z
  cases y with
  |nil=>cases k
  |cons x r=>
   have k:((jF U (.own h.length ad U ad) g (.p (WX g (.v T x)))).bind λd=>K a ((h++[ai.log U e []]).set j (.bK T g v ae m f d r)))=ab out:=k;obtain⟨d,W,k⟩:=yf.1 k;have F:j < h.length:=(yu.1 E).1;have G:(h++[ai.log U e []])[j]? =ab (.aS T g v ae m f (x::r)):=by rw[ybd F];exact E
   have M:lk ((h++[ai.log U e []]).set j (.bK T g v ae m f d r))=lk (h++[ai.log U e []]):=ZFc G rfl;refine⟨_,_,k,rfl, ?_,λJ l X=> ?_⟩
   .have Y:aG ((h++[ai.log U e []]).set j (.bK T g v ae m f d r))=(aG h++[aq.log U.size e []]).set j (.row v.length T.size ae m (.arr (f.length+(r.length+1)) T.size (((f.map T.enc++(x::r).map λx=>(WX g (.v T x)).pe).map .p).set f.length (d.er (lk (h++[ai.log U e []])))))):=by
     rw[Wo M,IK S];have Q:=ZFd (f.map λx=>Dv.p (T.enc x)) (r.map λx=>.p (WX g (.v T x)).pe) (.p (WX g (.v T x)).pe) (d.er (lk (h++[ai.log U e []])));rw[yaa]at Q
     have I:((f.map T.enc++(x::r).map λx=>(WX g (.v T x)).pe).map Dv.p).set f.length (d.er (lk (h++[ai.log U e []])))=(f.map λx=>Dv.p (T.enc x))++d.er (lk (h++[ai.log U e []]))::r.map λx=>.p (WX g (.v T x)).pe:=by
      rw[yat,yaw,yaw];exact Q
     rw[I];rfl
    rw[Y];have Z:(aG h)[j]? =ab (.row v.length T.size ae m (.p (.arr (f.length+(r.length+1)) T.size (f.map T.enc++(x::r).map λx=>(WX g (.v T x)).pe)))):=by rw[Z6 E];rfl
    have hx:(f.map T.enc++(x::r).map λx=>(WX g (.v T x)).pe)[f.length]? =ab (WX g (.v T x)).pe:=by
     grind
    refine ZI9 (yQ:=g) Z hx ?_;have R:=pH (L:=lk (h++[ai.log U e []])) g _ d W
    have e3:(TD.own h.length ad U ad).er (lk (h++[ai.log U e []]))=.own h.length ad U.size []:=by
     rw[TD.er,pG];rfl
    rw[e3,TD.er]at R;rw[ZV];exact R
   .rw[M,IL z];exact X
 .cases k
theorem ZJc(e:ai):dS (ab (jJ e))=dS (ab e):=by cases e <;> rfl
theorem wL(ids:yL Nat)(H:yL ai)(i:Nat):(iH ids H)[i]? =(H[i]?).map λe=>if ids.contains i then jJ e else e:=by
 unfold iH
 all_goals grind
theorem ZxW(ids:yL Nat)(H:yL ai):lk (iH ids H)=lk H:=by
 funext i;unfold lk;rw[wL]
 cases H[i]? with
 |none=>rfl
 |some e=>
  show dS (ab (if ids.contains i=ae then jJ e else e))=_
  split
  .exact ZJc e
  .rfl
theorem ZGP(ids:yL Nat)(H:yL ai):ca (aG H) (aG (iH ids H)):=by
 refine HA (by rw[ZV,ZV];unfold iH;simp) λi a b f g=> ?_;unfold aG at f g;rw[yak]at f g;rw[ZxW,wL]at g
 cases h:H[i]? with
 |none=>rw[h]at f;cases f
 |some e=>
  rw[h]at f g;cases f;cases g;show eB (e.er (lk H)) (ai.er (lk H) (if ids.contains i=ae then jJ e else e))
  split
  .cases e <;> first|exact .refl _|exact .lock
  .exact .refl _
theorem ZJd{h H:yL ai}{d:TD}{q:TD×yL Nat}(hq:sH h d=ab q)(M:lk H=lk h)(hl:∀j,j∈q.2->∀e,h[j]? =ab e->H[j]? =ab (jJ e)):
 (q.1.er (lk H)).size=(d.er (lk H)).size/\∀J:Sg,Ok J->J.H=aG H->∀us,yH J (d.er (lk H)) us->yH J (q.1.er (lk H)) us:=by
 have Q:∀x:TD,(q.1.er (lk H)).size=(q.1.er (lk H)).size/\∀J:Sg,Ok J->J.H=aG H->∀us,yH J (q.1.er (lk H)) us->yH J (q.1.er (lk H)) us:=λ_=>⟨rfl,λ_ _ _ _ r=>r⟩
 have row:∀(j:Nat)(v:Nat)(s:Nat)(e:yc)(m:yL Pl)(T:Ty)(l:yL T.aT),(TD.rw j).er (lk H)=.rv j v s 0 m.length->(aG H)[j]? =ab (.row v s af e (.p (.arr m.length s m)))->s=T.size->m=l.map T.enc->
  ((TD.p (.sl ad T l)).er (lk H)).size=((TD.rw j).er (lk H)).size/\∀J:Sg,Ok J->J.H=aG H->∀us,yH J ((TD.rw j).er (lk H)) us->yH J ((TD.p (.sl ad T l)).er (lk H)) us:=by
  intro j v s e m T l B E F e4;subst F;rw[B];refine⟨rfl,λJ G g us r=> ?_⟩;have A:=bT.rC (H:=J.H) (lo:=0) (n:=m.length) (by rw[g];exact E) (by omega);rw[List.drop_zero,List.take_length]at A;have:=CO G A us r;rw[TD.er,TP.pe, <-e4];simpa[yH] using this
 unfold sH at hq;split at hq
 .rename_i j;split at hq
  .rename_i T I v st e f y;cases hq;have g:=hl j (yay ..) _ y;have z:=lA (q:=(v.length,T.size,f.length+0)) (x:=jJ (.aS T I v st e f [])) g rfl;refine row j v.length T.size e (f.map T.enc) T f (by rw[z.1,yaa];rfl) ?_ rfl rfl;rw[Z6 g,yaa];simp only[jJ,ai.er,List.map_nil,yba,List.length_nil,ych]
  .rename_i T v st e l y;cases hq;have g:=hl j (yay ..) _ y;have z:=gg (T:=T) (v:=v) (st:=af) (e:=e) (l:=l) g;refine row j v.length T.size e (l.map T.enc) T l (by rw[z.1,yaa]) ?_ rfl rfl;rw[Z6 g,yaa];rfl
  .cases hq
 grind
theorem ZxX{h H:yL ai}:∀{g:yL TD}{q:yL TD×yL Nat},sI h g=ab q->lk H=lk h->(∀j,j∈q.2->∀e,h[j]? =ab e->H[j]? =ab (jJ e))->
 Dv.sizes (TD.aE (lk H) q.1)=Dv.sizes (TD.aE (lk H) g)/\∀J:Sg,Ok J->J.H=aG H->∀us,aM J (TD.aE (lk H) g) us->aM J (TD.aE (lk H) q.1) us
 |[],q,f,l,m=>by cases f;exact⟨rfl,λ_ _ _ _ r=>r⟩
 |d::r,q,f,l,m=>by
  simp only[sI]at f;split at f
  .rename_i G I z A;cases f;obtain⟨B,M⟩:=ZJd z l (λj y=>m j (List.mem_append_left _ y));obtain⟨E,Q⟩:=ZxX A l (λj y=>m j (List.mem_append_right _ y));refine⟨by simp only[TD.aE,Dv.sizes];rw[B,E],λJ R S us F=> ?_⟩;simp only[TD.aE,aM]at F ⊢;grind
  .cases f
theorem Zsz{t:Tmp}{a:yL TD}{h:yL ai}{K:Kh O}(k:sJ t a h K=ab out):
 ∃y z,K y z=ab out/\y.length=a.length/\VK (aG h) (aG z)/\∀(J:Sg)(f:Act),aB J (TD.aE (lk h) a) f->aB J (TD.aE (lk z) y) f:=by
 unfold sJ at k;split at k
 .rename_i id hid;split at k
  .rename_i m st E;obtain⟨q,F,k⟩:=Zsy k
   have g:(iH q.2 h)[id]? =ab (.var (.agg m) st):=by
    rw[wL,E];show ab (if q.2.contains id=ae then jJ (.var (.agg m) st) else .var (.agg m) st)=_
    split <;> rfl
   have l:lk (iH q.2 h)=lk h:=ZxW _ _;have B:lk ((iH q.2 h).set id (.var (.agg q.1) st))=lk (iH q.2 h):=gA g rfl rfl;refine⟨_,_,k,rfl,(wI (ZGP q.2 h)).trans ?_,λJ f G=>by rw[B,l];exact G⟩;rw[Wo B];have A:(aG (iH q.2 h))[id]? =ab (.var (.agg (TD.aE (lk (iH q.2 h)) m)) st):=by rw[Z6 g];rfl
   obtain⟨I,Q⟩:=ZxX (H:=iH q.2 h) F l (λj A e M=>by
    rw[wL,M];show ab (if q.2.contains j=ae then jJ e else e)=_
    rw[yW (by simpa using A)])
   refine ZLR A ?_ λJ R S T r=> ?_
   .exact I
   .simp only[TD.er,yH]at r ⊢;grind
  .cases k
 .cases k
theorem ZBU{L:Lk}{f:yL TD}{i:Nat}{x y:TD}(h:f[i]? =ab x)(e:y.er L=x.er L):TD.aE L (f.set i y)=TD.aE L f:=by
 rw[ZI,ZI,List.map_set,e];apply ybl
 all_goals grind
theorem Zp9{t:Tmp}{i:Nat}{a:yL TD}{h:yL ai}{K:Kh O}(k:wK t i a h K=ab out):
 ∃m y,K m y=ab out/\m.length=a.length/\VK (aG h) (aG y)/\∀(J:Sg)(f:Act),aB J (TD.aE (lk h) a) f->aB J (TD.aE (lk y) m) f:=by
 unfold wK at k;split at k
 .rename_i j U;split at k
  .rename_i g st z;split at k
   .rename_i id v s n B;split at k
    .rename_i T w E e l F;obtain⟨c,G⟩:=Zb k;clear k;rw[yi,yi,yP,yP,yP]at c;obtain⟨rfl,rfl,rfl⟩:=c;have A:lk (h.set j (.var (.agg (g.set i (.rw id))) st))=lk h:=gA z rfl rfl
     have I:(TD.rw id).er (lk h)=(TD.rv id w.length T.size 0 l.length).er (lk h):=by
      refine(pJ (v:=w) (s:=T.size) (N:=l.length) ?_).1;unfold Yc lk;dsimp only;rw[F];rfl
     refine⟨_,_,G,rfl, ?_,λJ f M=>by rw[A];exact M⟩
     have Q:aG (h.set j (.var (.agg (g.set i (.rw id))) st))=aG h:=by
      rw[Wo A];show(aG h).set j (.var (.agg (TD.aE (lk h) (g.set i (.rw id)))) st)=aG h;rw[ZBU B I];apply ybl;intro q;by_cases R:j=q
      .subst R;have S:(aG h)[j]? =ab (.var (.agg (TD.aE (lk h) g)) st):=by rw[Z6 z];rfl
       grind
      grind
     rw[Q];exact VK.refl _
    .cases k
   .cases k
  .cases k
 .cases k
theorem ZBV{h:yL ai}{id:Nat}{T:Ty}{w:yL Unit}{st:Bool}{e:yc}{l:yL T.aT}(f:h[id]? =ab (.aV T w st e l)):(TD.rw id).er (lk h)=(TD.rv id w.length T.size 0 l.length).er (lk h):=by
 refine(pJ (v:=w) (s:=T.size) (N:=l.length) ?_).1;unfold Yc lk;dsimp only;rw[f];rfl
theorem ZwO{t:Tmp}{a:yL TD}{h:yL ai}{K:Kh O}(k:IF t a h K=ab out):
 ∃g j,K g j=ab out/\g.length=a.length/\VK (aG h) (aG j)/\∀(J:Sg)(f:Act),aB J (TD.aE (lk h) a) f->aB J (TD.aE (lk j) g) f:=by
 unfold IF at k;split at k
 .rename_i id v s n m;split at k
  .rename_i T w y e l z;obtain⟨c,A⟩:=Zb k;clear k;rw[yi,yi,yP,yP,yP]at c;obtain⟨rfl,rfl,rfl⟩:=c;exact⟨_,_,A,List.length_set,VK.refl _,λJ f B=>by rw[ZBU m (ZBV z)];exact B⟩
  .cases k
 .cases k
theorem ZwP{t:Tmp}{a:yL TD}{h:yL ai}{K:Kh O}(k:IG t a h K=ab out):
 ∃m y,K m y=ab out/\m.length=a.length/\VK (aG h) (aG y)/\∀(J:Sg)(f:Act),aB J (TD.aE (lk h) a) f->aB J (TD.aE (lk y) m) f:=by
 unfold IG at k;split at k
 .rename_i j Q;split at k
  .rename_i id v s n st z;split at k
   .rename_i T w E e l F;obtain⟨c,G⟩:=Zb k;clear k;rw[yi,yi,yP,yP,yP]at c;obtain⟨rfl,rfl,rfl⟩:=c;have A:lk (h.set j (.var (.rw id) st))=lk h:=gA z rfl rfl;refine⟨_,_,G,rfl, ?_,λJ f I=>by rw[A];exact I⟩
    have M:aG (h.set j (.var (.rw id) st))=aG h:=by
     rw[Wo A];show(aG h).set j (.var ((TD.rw id).er (lk h)) st)=aG h;rw[ZBV F];apply ybl;intro q;by_cases B:j=q
     .subst B;have g:(aG h)[j]? =ab (.var ((TD.rv id w.length T.size 0 l.length).er (lk h)) st):=by rw[Z6 z];rfl
      rw[List.getElem?_set_self (yu.1 g).1,g]
     .rw[List.getElem?_set_ne B]
    rw[M];exact VK.refl _
   .cases k
  .cases k
 .cases k
theorem Wk.dz{n s:Nat}{xs:yL Pl}:Wk (.p (.arr n s xs)) (.arr n s (xs.map Dv.p)):=⟨rfl,rfl,λJ vs r=>by
 simp only[yH,aA]at r ⊢;exact⟨by rw[yaa];exact r.1,λx f=>by obtain⟨y,g,rfl⟩:=List.mem_map.1 f;exact r.2.1 y g,jx.2 r.2.2⟩⟩
theorem ZJe(L:Lk)(x:TP):Wk (.p x.pe) ((pS x).er L):=by
 unfold pS;split
 .rename_i n s f;show Wk (.p (.arr n s (TP.cj f))) (.arr n s (TD.aE L (f.map TD.p)));rw[rX];exact Wk.dz
 .exact Wk.refl _
theorem ZxY(L:Lk):∀(xs:yL TP),cQ ((TP.cj xs).map Dv.p) (TD.aE L (xs.map pS))
 |[]=>cQ.nil
 |x::r=>cQ.cons (ZJe L x) (ZxY L r)
theorem ZBW{t:Tmp}{a:yL TD}{h:yL ai}{K:Kh O}(k:IH t a h K=ab out):
 ∃z A,K z A=ab out/\z.length=a.length/\VK (aG h) (aG A)/\∀(J:Sg)(g:Act),aB J (TD.aE (lk h) a) g->aB J (TD.aE (lk A) z) g:=by
 unfold IH at k;split at k
 .rename_i j G;split at k
  .rename_i n s f st m;have y:lk (h.set j (.var (.arr n s (f.map TD.p)) st))=lk h:=gA m rfl rfl;refine⟨_,_,k,rfl, ?_,λJ g B=>by rw[y];exact B⟩;rw[Wo y];have l:(aG h)[j]? =ab (.var (.p (.arr n s (TP.cj f))) st):=by rw[Z6 m];rfl
   refine wI (ca.fd l (eB.var ?_));show Wk (.p (.arr n s (TP.cj f))) (.arr n s (TD.aE (lk h) (f.map TD.p)))
   have e:TD.aE (lk h) (f.map TD.p)=(TP.cj f).map Dv.p:=by
    rw[ZI,VL,yaw,yaw];rfl
   rw[e];exact Wk.dz
  .rename_i f st m;have y:lk (h.set j (.var (.agg (f.map pS)) st))=lk h:=gA m rfl rfl;refine⟨_,_,k,rfl, ?_,λJ g B=>by rw[y];exact B⟩;rw[Wo y];have l:(aG h)[j]? =ab (.var (.p (.agg (TP.cj f))) st):=by rw[Z6 m];rfl
   refine wI (ca.fd l (eB.var ?_));show Wk (.p (.agg (TP.cj f))) (.agg (TD.aE (lk h) (f.map pS)));have E:=ZBG (TP.cj f);have F:=cQ.agg (ZxY (lk h) f);exact⟨E.size.trans F.size,E.agg.trans F.agg,λJ vs r=>F.df J vs (E.df J vs r)⟩
  .exact⟨_,_,k,rfl,VK.refl _,λ_ _ r=>r⟩
 .exact⟨_,_,k,rfl,VK.refl _,λ_ _ r=>r⟩
theorem ZBX{t:Tmp}{a:yL TD}{h:yL ai}{K:Kh O}(k:II t a h K=ab out):
 ∃g l,K g l=ab out/\g.length=a.length/\VK (aG h) (aG l)/\∀(J:Sg)(f:Act),aB J (TD.aE (lk h) a) f->aB J (TD.aE (lk l) g) f:=by
 unfold II at k;split at k
 .rename_i j F;split at k
  .rename_i d st z;obtain⟨x,B,k⟩:=yf.1 k;have A:lk (h.set j (.var (.p x) st))=lk h:=gA z rfl rfl;refine⟨_,_,k,rfl, ?_,λJ f E=>by rw[A];exact E⟩;rw[Wo A];have m:(aG h)[j]? =ab (.var (d.er (lk h)) st):=by rw[Z6 z];rfl
   have y:(d.er (lk h)).flat=ab x.pe:=by rw[rK,B];rfl
   refine wI (ca.fd m (eB.var ?_))
   exact⟨(uW _ _ y).symm,(AX y).symm,λJ vs r=>by
    have:=qK _ _ _ y r;show yH J (.p x.pe) vs;simp only[yH];exact this⟩
  .cases k
 .cases k
theorem ZJf{g:yO kD}{a:yL TD}{h:yL ai}{K:Kh O}(k:IJ g a h K=ab out):
 ∃j l,K j l=ab out/\j.length=a.length/\VK (aG h) (aG l)/\∀(J:Sg)(f:Act),aB J (TD.aE (lk h) a) f->aB J (TD.aE (lk l) j) f:=by
 unfold IJ at k;split at k
 .exact⟨_,_,k,rfl,VK.refl _,λ_ _ r=>r⟩
 .rename_i g
  cases g with
  |rows t z T e W=>exact ZBS k
  |focus t U e=>exact ZzN k
  |done t=>exact Zsz k
  |fresh t i=>exact Zp9 k
  |cE t z T e=>exact ZBT k
  |gP t=>exact ZwO k
  |gQ t=>exact ZwP k
  |fQ t i=>
   obtain⟨X,Y,k,A,B,E⟩:=Zp9 (K:=λa h=>sJ t a h K) k;obtain⟨F,G,k,I,M,Q⟩:=Zsz k
   exact⟨F,G,k,I.trans A,B.trans M,λJ f r=>Q J f (E J f r)⟩
  |dz t=>exact ZBW k
  |flat t=>exact ZBX k
  |hole=>
   replace k:K a (h++[.gone])=ab out:=k
   refine⟨_,_,k,rfl, ?_,λJ f R=>by rw[lw rfl];exact R⟩;rw[nW (lw rfl)];intro J S e;obtain⟨to,y⟩:=CH S;exact⟨{ J with m:=J.m++[ad],H:=J.H++[.gone]},rfl,by rw[<-e];rfl,to,y⟩
end
end Go.Ev
end
section
namespace Go.Ev
section
variable{P:yg}
theorem ZBY{x y:Code}{ts ts1 h:yL Dv}{H H1 H2:yL aq}{A:Ex}(B:XZ P x ts H .normal ts1 H1)(E:XZ P y ts1 H1 A h H2):XZ P (.seq x y) ts H A h H2:=by
 intro J a F G I;refine wp_seq (wp_mono (B J a F G I) ?_);rintro e M U ⟨rfl,J1,rfl,Q,j,l,f⟩;refine wp_mono (E J1 M l Q f) ?_;rintro e R S ⟨rfl,J2,rfl,T,m,z,g⟩;exact⟨rfl,J2,rfl,T,j.trans m,z,g⟩
theorem ZxZ{x y:Code}{ts ts1:yL Dv}{H H1:yL aq}{f:Ex}(g:f≠ .normal)(j:XZ P x ts H f ts1 H1):XZ P (.seq x y) ts H f ts1 H1:=by
 intro J a l m z;refine wp_seq (wp_mono (j J a l m z) ?_);rintro e A B ⟨rfl,h⟩
 cases f with
 |normal=>exact absurd rfl g
 |exit id=>exact⟨rfl,h⟩
 |ret=>exact⟨rfl,h⟩
theorem wM{c:Operand}{x y:Code}{ts ts1:yL Dv}{H H1:yL aq}{h:Ex}{b:Bool}(hc:aC P ts 0 c=.p (.bool b))(j:XZ P (if b then x else y) ts H h ts1 H1):XZ P (.cond c x y) ts H h ts1 H1:=by
 intro J a l m f;have g:=Zo (P:=P) f 0 c;rw[hc]at g;cases b
 .exact wp_cond_false (Yl g) (j J a l m f)
 .exact wp_cond_true (Yl g) (j J a l m f)
def IM(id:Nat):Ex->Ex
 |.exit i=>if i=id then .normal else .exit i
 |f=>f
theorem ZD6{id:Nat}{f:Code}{ts ts1:yL Dv}{H H1:yL aq}{h:Ex}(j:XZ P f ts H h ts1 H1):XZ P (.block id f) ts H (IM id h) ts1 H1:=by
 intro J a l m y;refine wp_block (wp_mono (j J a l m y) ?_);rintro e A B ⟨rfl,g⟩
 cases h with
 |normal=>exact⟨rfl,g⟩
 |exit z=>
  simp only[Ex.to,Exit.inBlock,IM];split
  .exact⟨rfl,g⟩
  .exact⟨rfl,g⟩
 |ret=>exact⟨rfl,g⟩
theorem ZD7{f:Code}{ts ts1:yL Dv}{H H1:yL aq}{g:Ex}(h:XZ P f ts H g ts1 H1):XZ P (.scope f) ts H g ts1 H1:=by
 intro J a j l m;refine wp_scope_straight (wp_mono (h J a j l m) ?_);rintro e z A ⟨rfl,y⟩;cases g <;> exact⟨rfl,y⟩
theorem ZGQ{ts:yL Dv}{H:yL aq}:XZ P .skip ts H .normal ts H:=λJ a f g h=>wp_skip ⟨rfl,J,rfl,g,To.refl J,f,h⟩
theorem ZD8{n:Nat}{ts:yL Dv}{H:yL aq}:XZ P (.label n) ts H .normal ts H:=λJ a f g h=>wp_label ⟨rfl,J,rfl,g,To.refl J,f,h⟩
theorem ZGR{n:Nat}{ts:yL Dv}{H:yL aq}:XZ P (.exit n) ts H (.exit n) ts H:=λJ a f g h=>wp_exit ⟨rfl,J,rfl,g,To.refl J,f,h⟩
theorem ZJg{ts:yL Dv}{H:yL aq}:XZ P .ret ts H .ret ts H:=λJ a f g h=>wp_ret ⟨rfl,J,rfl,g,To.refl J,f,h⟩
theorem ZGS{c:Code}{ts ts1:yL Dv}{H H1:yL aq}{j:Ex}(keep:yL Nat)(r:XZ P c ts H j ts1 H1):XZ P c ts H j (aI keep 0 ts1) H1:=by
 intro J a l m y;refine wp_mono (r J a l m y) ?_;rintro e A B ⟨rfl,J1,rfl,z,g,h,f⟩;exact⟨rfl,J1,rfl,z,g,h,Qd keep f⟩
def sK(n0:Nat)(sl:cF)(es:yL bC)(a:yL TD)(h:yL ai):yO (yL TV):=
 if once (yn n0++[]) then(Vi h (yn n0++[]) (yn n0++[])).bind λf=>(TD.bB (bg (yn n0++[])) (ig (sl.map (·.1)) 0 a)).bind λg=>
  (Sh.eA (lk f) (pO sl a.length) g).bind λq=>(bC.eA (lk f) es f).bind λw=>ab (q.2++w.2)
 else ad
theorem ZD9{n0:Nat}{sl:cF}{es:yL bC}{a:yL TD}{h:yL ai}{vs:yL TV}(k:sK n0 sl es a h=ab vs):
 ∃l h3,QS a.length sl es vs=ab (l,h3)/\∀{c:Code}{ts:yL Dv}{H:yL aq}{f:Ex},H.length=n0->XZ P c ts H f (TD.aE (lk h) a) (aG h)->XZ P c ts H f (TD.aE (lk h3) l) (aG h3):=by
 unfold sK at k;split at k
 .rename_i A;obtain⟨B,g,k⟩:=yf.1 k;obtain⟨I,E,k⟩:=yf.1 k;obtain⟨q,m,k⟩:=yf.1 k;obtain⟨w,e4,k⟩:=yf.1 k;cases k;obtain⟨M,F⟩:=pM e4;have y:∀id t,Yc (lk B) id t ad=Yc (lk w.1) id t ad:=λid t=>by rw[F]
  refine⟨q.1,w.1, ?_,λ{c ts H f}j r=> ?_⟩
  .unfold QS;rw[bM _ _ _ m];have:=pL e4 [];grind
  .have z:=ZGS (sl.map (·.1)) r;rw[<-wC]at z;have G:=ZGw [] [] z (by rw[j];exact A) (by rw[j];exact Vj (fY g) g) (by rw[j];exact dk (fY g) _ _ E);exact ZxG G (cW y _ _ _ m) (pN y e4)
 .cases k
theorem ZEa{n0:Nat}{sl:cF}{es:yL bC}{a:yL TD}{h:yL ai}{vs:yL TV}(S:h.length=n0)(k:sK n0 sl es a h=ab vs):
 ∃G h3,QS a.length sl es vs=ab (G,h3)/\∀(J:Sg)(f:Act),Ok J->J.H=aG h->aB J (TD.aE (lk h) a) f->∃J':Sg,J'.w=J.w/\J'.H=aG h3/\To J J'/\Ok J'/\aB J' (TD.aE (lk h3) G) f:=by
 subst S;unfold sK at k;split at k
 .rename_i T;obtain⟨j,y,k⟩:=yf.1 k;obtain⟨U,W,k⟩:=yf.1 k;obtain⟨q,I,k⟩:=yf.1 k;obtain⟨w,e4,k⟩:=yf.1 k;cases k;obtain⟨g1,X⟩:=pM e4;have M:∀id t,Yc (lk j) id t ad=Yc (lk w.1) id t ad:=λid t=>by rw[X]
  refine⟨q.1,w.1, ?_,λJ f Q z Y=> ?_⟩
  .unfold QS;rw[bM _ _ _ I];have:=pL e4 [];grind
  .have R:=Qd (sl.map (·.1)) Y;rw[<-wC]at R
   have g:aN J.H (yn J.H.length++[]) (yn J.H.length++[])=ab (aG j):=by
    rw[z,ZV];exact Vj (fY y) y
   have l:once (yn J.H.length++[])=ae:=by rw[z,ZV];exact T
   have A:Dv.bB (bg (yn J.H.length++[])) (TD.aE (lk h) (ig (sl.map (·.1)) 0 a))=ab (TD.aE (lk j) U):=by
    rw[z,ZV];exact dk (fY y) _ _ W
   have Z:=vD (jC g) A R;have B:=pr Q (To.refl J) l g;have E:=pq Q l g;obtain⟨m,F⟩:=lb (J:=gr J (yn J.H.length++[]) (aG j)) E (H':=aG w.1) (pN M e4);exact⟨{ gr J (yn J.H.length++[]) (aG j) with H:=aG w.1},rfl,rfl,B.trans m,F,(cW M _ _ _ I).qO (Z.to m.leaf)⟩
 .cases k
def IN(L:Lk):bC->ai->yO ai
 |.aS _ _ _ _,.bK u j v st e g h f=>(GY L u h).map λy=>.aS u j v st e (g++[y]) f
 |_,x=>ab x
def sL(L:Lk):yL bC->yL ai->yO (yL ai)
 |[],h=>ab h
 |_::_,[]=>ab []
 |s::r,x::h=>match IN L s x,sL L r h with
  |some y,ab f=>ab (y::f)
  |_,_=>ad
theorem ZLS{L:Lk}{s:bC}{x y:ai}(h:IN L s x=ab y):dS (ab y)=dS (ab x)/\eB (x.er L) (y.er L):=by
 unfold IN at h;split at h
 .rename_i u m v st e g j f;obtain⟨c,l,rfl⟩:=Ze h;refine⟨?_,ZFh (ZFe l)⟩;simp only[dS,yl,yah,List.length_nil];grind
 .cases h;exact⟨rfl,.refl _⟩
theorem ZFs{L:Lk}:∀{es:yL bC}{h f:yL ai},sL L es h=ab f->f.length=h.length/\(∀j:Nat,dS (f[j]?)=dS (h[j]?))/\ca (h.map (ai.er L)) (f.map (ai.er L))
 |[],h,f,k=>by cases k;exact⟨rfl,λ_=>rfl,ca.refl _⟩
 |_::_,[],f,k=>by cases k;exact⟨rfl,λ_=>rfl,ca.refl _⟩
 |s::r,x::h,f,k=>by
  simp only[sL]at k;split at k
  .rename_i y B g l;cases k;obtain⟨E,m⟩:=ZLS g;obtain⟨z,F,A⟩:=ZFs l;refine⟨by simp[z],λj=> ?_,.cons m A⟩;grind
  .cases k
theorem ZFt{es:yL bC}{h f:yL ai}(k:sL (lk h) es h=ab f):f.length=h.length/\lk f=lk h/\ca (aG h) (aG f):=by
 obtain⟨a,b,c⟩:=ZFs k;have e:lk f=lk h:=funext b;refine⟨a,e, ?_⟩;unfold aG;rw[e];exact c
def sM(n0:Nat)(sl:cF)(es:yL bC)(a:yL TD)(h:yL ai):yO (yL TV):=(sL (lk h) es h).bind λh=>sK n0 sl es a h
theorem ZGT{n0:Nat}{sl:cF}{es:yL bC}{a:yL TD}{h:yL ai}{vs:yL TV}(k:sM n0 sl es a h=ab vs):
 ∃f h3,QS a.length sl es vs=ab (f,h3)/\∀{c:Code}{ts:yL Dv}{H:yL aq}{g:Ex},H.length=n0->XZ P c ts H g (TD.aE (lk h) a) (aG h)->XZ P c ts H g (TD.aE (lk h3) f) (aG h3):=by
 obtain⟨E,j,l⟩:=yf.1 k;obtain⟨F,m,y⟩:=ZFt j;obtain⟨f,h3,z,A⟩:=ZD9 (P:=P) l;refine⟨f,h3,z,λB r=>A B ?_⟩;rw[m];exact ZxG r (cQ.refl _) y
theorem Zx0{n0:Nat}{sl:cF}{es:yL bC}{a:yL TD}{h:yL ai}{vs:yL TV}(m:h.length=n0)(k:sM n0 sl es a h=ab vs):
 ∃g h3,QS a.length sl es vs=ab (g,h3)/\∀(J:Sg)(f:Act),Ok J->J.H=aG h->aB J (TD.aE (lk h) a) f->∃J':Sg,J'.w=J.w/\J'.H=aG h3/\To J J'/\Ok J'/\aB J' (TD.aE (lk h3) g) f:=by
 obtain⟨l,y,z⟩:=yf.1 k;obtain⟨A,B,E⟩:=ZFt y;obtain⟨g,h3,F,G⟩:=ZEa (by rw[A];exact m) z;refine⟨g,h3,F,λJ f I M Q=> ?_⟩;obtain⟨to,j⟩:=lb I (H':=aG l) (by rw[M];exact E);obtain⟨J2,R,S,T,U,W⟩:=G { J with H:=aG l} f j rfl (by rw[B];exact Q.to to.leaf);exact⟨J2,R,S,to.trans T,U,W⟩
structure Lp where
 sl:cF
 es:List bC
 I:List Ty
 xs:List bX
 L:Ty.aK I->Option (bX.sum xs)
def Lp.Is(P:yg)(n:Nat)(c:Code)(lp:Lp):Prop:=
 ∀v o,lp.L v=ab o->∀s,QS n lp.sl lp.es (dq lp.I v)=ab s->∀e vs f,mJ lp.xs o e vs->QS n e.sl e.es vs=ab f->
  XZ P c (TD.aE (lk s.2) s.1) (aG s.2) e.ex (TD.aE (lk f.2) f.1) (aG f.2)
abbrev Lp.Ok(P:yg)(n:Nat)(f:Code)(lp:Lp):Prop:=lp.Is P n (.loop f)
structure FI where
 hi:HI:={}
 lp:List (Nat×Lp):=[]
 bk:List (Nat×Lp):=[]
 gh:List (Nat×kD):=[]
 un:Nat:=0
def Code.nl:Code->Nat
 |.seq a b=>Code.nl a+Code.nl b
 |.cond _ a b=>Code.nl a+Code.nl b
 |.block _ a=>Code.nl a
 |.scope a=>Code.nl a
 |.loop a=>Code.nl a+1
 |_=>0
def Code.ns:Code->Nat
 |.seq a b=>Code.ns a+Code.ns b+1
 |.cond _ a b=>Code.ns a+Code.ns b
 |.block _ a=>Code.ns a
 |.scope a=>Code.ns a
 |.loop a=>Code.ns a
 |_=>0
theorem lE:∀c:Code,(ZR c).length=Code.nl c
 |.seq a b=>by simp only[ZR,yl,lE a,lE b,Code.nl]
 |.cond _ a b=>by simp only[ZR,yl,lE a,lE b,Code.nl]
 |.block _ a=>by simp only[ZR,lE a,Code.nl]
 |.scope a=>by simp only[ZR,lE a,Code.nl]
 |.loop a=>by simp only[ZR,yah,lE a,Code.nl]
 |.skip=>rfl
 |.region _ _ _=>rfl
 |.rangeFunc _ _ _ _=>rfl
 |.exit _=>rfl
 |.ret=>rfl
 |.label _=>rfl
 |.goto _=>rfl
 |.refuse _=>rfl
def wN{O:Type}(step:yL TD->yL ai->Kc O->yO O):Nat->yL TD->yL ai->Kc O->yO O
 |0,_,_,_=>ad
 |k+1,a,h,K=>step a h λex f g=>match ex with
  |.normal=>wN step k f g K
  |ex=>K ex f g
theorem ZsA{O:Type}{f:Code}{N:Nat}{step:yL TD->yL ai->Kc O->yO O}
 (hs:∀(a:yL TD)(h:yL ai)(K:Kc O)(out:O),a.length=N->step a h K=ab out->∃l g j,K l g j=ab out/\g.length=N/\XZ P f (TD.aE (lk h) a) (aG h) l (TD.aE (lk j) g) (aG j)):
 ∀(k:Nat)(a:yL TD)(h:yL ai)(K:Kc O)(out:O),a.length=N->wN step k a h K=ab out->∃l g j,K l g j=ab out/\g.length=N/\pp P f (TD.aE (lk h) a) (aG h) l (TD.aE (lk j) g) (aG j)
 |0,_,_,_,_,_,k=>by cases k
 |n+1,a,h,K,out,G,k=>by
  unfold wN at k;obtain⟨l,A,B,m,E,F⟩:=hs _ _ _ _ G k;split at m
  .obtain⟨y,I,M,Q,R,S⟩:=ZsA hs n A B K out E m;exact⟨y,I,M,Q,R,ZxE [] F S⟩
  .rename_i z;exact⟨_,A,B,m,E,ZxD z F⟩
def pT(m:Nat)(a:yL TD)(h:yL ai):yL (Nat×Lp)->yO (Σ bk:Lp,Ty.aK bk.I)
 |[]=>ad
 |q::r=>if Nat.beq q.1 m=ae then match (sM h.length q.2.sl q.2.es a h).bind (jk q.2.I) with
   |some v=>ab ⟨q.2,v⟩
   |none=>pT m a h r
  else pT m a h r
theorem wO{m:Nat}{a:yL TD}{h:yL ai}{b:Σ bk:Lp,Ty.aK bk.I}:∀{l:yL (Nat×Lp)},pT m a h l=ab b->(m,b.1)∈l/\∃vs,sM h.length b.1.sl b.1.es a h=ab vs/\jk b.1.I vs=ab b.2
 |[],k=>by cases k
 |q::r,k=>by
  unfold pT at k;split at k
  .rename_i f;split at k
   .rename_i v g;cases k;have e:=Nat.eq_of_beq_eq_true f;refine⟨?_,yf.1 g⟩;grind
   .obtain⟨j,y⟩:=wO k;grind
  .obtain⟨j,y⟩:=wO k;grind
def fC{O:Type}(P:yg)(fi:FI)(aF:Sp P):Code->Nat->Nat->yL TD->yL ai->Kc O->yO O
 |.skip,_,_,a,h,K=>K .normal a h
 |.label _,_,_,a,h,K=>K .normal a h
 |.region _ ops l,_,_,a,h,K=>if l=ae then HZ P fi.hi aF ops a h λg j=>K .normal g j else sD P fi.hi aF ops ops.toList a h λg j _=>K .normal g j
 |.seq x y,n,m,a,h,K=>IJ (fi.gh.lookup m) a h λa h=>match pT m a h fi.bk with
  |none=>fC P fi aF x n (m+1) a h λex g j=>match ex with
   |.normal=>fC P fi aF y (n+Code.nl x) (m+1+Code.ns x) g j K
   |ex=>K ex g j
  |some z=>(z.1.L z.2).bind λo=>xT a.length z.1.xs o λex g j=>match ex with
   |.normal=>fC P fi aF y (n+Code.nl x) (m+1+Code.ns x) g j K
   |ex=>K ex g j
 |.cond c x y,n,m,a,h,K=>((bo P a 0 c).bind TD.boolT).bind λb=>match c with
  |.tmp t=>if b=ae then fC P fi aF x n m (a.set t (kC ae)) h K else fC P fi aF y (n+Code.nl x) (m+Code.ns x) (a.set t (kC af)) h K
  |_=>if b=ae then fC P fi aF x n m a h K else fC P fi aF y (n+Code.nl x) (m+Code.ns x) a h K
 |.block id f,n,m,a,h,K=>fC P fi aF f n m a h λex g j=>K (IM id ex) g j
 |.loop f,n,m,a,h,K=>match pT n a h fi.lp with
  |some A=>(A.1.L A.2).bind λo=>xT a.length A.1.xs o K
  |none=>wN (λa h K=>fC P fi aF f (n+1) m a h K) fi.un a h K
 |.scope f,n,m,a,h,K=>fC P fi aF f n m a h K
 |.exit id,_,_,a,h,K=>K (.exit id) a h
 |.ret,_,_,a,h,K=>K .ret a h
 |_,_,_,_,_,_=>ad
def WJ:Code->yL Code
 |.seq a b=>a::(WJ a++WJ b)
 |.cond _ a b=>WJ a++WJ b
 |.block _ a=>WJ a
 |.scope a=>WJ a
 |.loop a=>WJ a
 |_=>[]
theorem jK:∀c:Code,(WJ c).length=Code.ns c
 |.seq a b=>by simp only[WJ,yah,yl,jK a,jK b,Code.ns]
 |.cond _ a b=>by simp only[WJ,yl,jK a,jK b,Code.ns]
 |.block _ a=>by simp only[WJ,jK a,Code.ns]
 |.scope a=>by simp only[WJ,jK a,Code.ns]
 |.loop a=>by simp only[WJ,jK a,Code.ns]
 |.skip=>rfl
 |.region _ _ _=>rfl
 |.rangeFunc _ _ _ _=>rfl
 |.exit _=>rfl
 |.ret=>rfl
 |.label _=>rfl
 |.goto _=>rfl
 |.refuse _=>rfl
def jl(P:yg)(fi:FI)(N:Nat)(c:Code)(m:Nat):Prop:=∀(k:Nat)(x:Code),(WJ c)[k]? =ab x->∀f,(m+k,f)∈fi.bk->f.Is P N x
theorem ZJj{fi:FI}{N:Nat}{x y c:Code}{m:Nat}(e:WJ c=WJ x++WJ y)(h:jl P fi N c m):jl P fi N x m:=λk b f=>h k b (by
 rw[e,ybd (yu.1 f).1];exact f)
theorem ZGU{fi:FI}{N:Nat}{x y c:Code}{m:Nat}(e:WJ c=WJ x++WJ y)(h:jl P fi N c m):jl P fi N y (m+Code.ns x):=λk b f g j=>h (Code.ns x+k) b (by
 rw[e,yas (by rw[jK];omega),jK];rw[show Code.ns x+k - Code.ns x=k by omega];exact f) g (by rw[<-Nat.add_assoc];exact j)
theorem ZJk{fi:FI}{N:Nat}{x y:Code}{m:Nat}(h:jl P fi N (.seq x y) m):jl P fi N x (m+1):=λk b f g j=>h (k+1) b (by
 rw[WJ,yaq,ybd (yu.1 f).1];exact f) g (by rw[show m+(k+1)=m+1+k by omega];exact j)
theorem ZB0{fi:FI}{N:Nat}{x y:Code}{m:Nat}(h:jl P fi N (.seq x y) m):jl P fi N y (m+1+Code.ns x):=λk b f g j=>h (Code.ns x+k+1) b (by
 rw[WJ,yaq,yas (by rw[jK];omega),jK];rw[show Code.ns x+k - Code.ns x=k by omega];exact f) g (by rw[show m+(Code.ns x+k+1)=m+1+Code.ns x+k by omega];exact j)
def kE(P:yg)(fi:FI)(N:Nat)(c:Code)(n:Nat):Prop:=∀(k:Nat)(b:Code),(ZR c)[k]? =ab (.loop b)->∀f,(n+k,f)∈fi.lp->f.Ok P N b
theorem ZB1{fi:FI}{N:Nat}{x y c:Code}{n:Nat}(e:ZR c=ZR x++ZR y)(h:kE P fi N c n):kE P fi N x n:=λk b f=>h k b (by
 rw[e,ybd (yu.1 f).1];exact f)
theorem Zx1{fi:FI}{N:Nat}{x y c:Code}{n:Nat}(e:ZR c=ZR x++ZR y)(h:kE P fi N c n):kE P fi N y (n+Code.nl x):=λk b f g j=>h (Code.nl x+k) b (by
 rw[e,yas (by rw[lE];omega),lE];rw[show Code.nl x+k - Code.nl x=k by omega];exact f) g (by rw[<-Nat.add_assoc];exact j)
theorem Vk{O:Type}{fi:FI}{aF:Sp P}{out:O}{N:Nat}(ok:dU aF):∀(c:Code)(n m:Nat)(a:yL TD)(h:yL ai)(K:Kc O),a.length=N->kE P fi N c n->jl P fi N c m->fC P fi aF c n m a h K=ab out->
 ∃E F G,K E F G=ab out/\F.length=N/\XZ P c (TD.aE (lk h) a) (aG h) E (TD.aE (lk G) F) (aG G)
 |.skip,n,m,a,h,K,g,B,f,k=>⟨_,_,_,k,g,ZGQ⟩
 |.label _,n,m,a,h,K,g,B,f,k=>⟨_,_,_,k,g,ZD8⟩
 |.exit _,n,m,a,h,K,g,B,f,k=>⟨_,_,_,k,g,ZGR⟩
 |.ret,n,m,a,h,K,g,B,f,k=>⟨_,_,_,k,g,ZJg⟩
 |.region id ops draw,n,m,a,h,K,g,B,f,k=>by
  unfold fC at k
  cases draw with
  |true=>
   rw[yW rfl]at k;obtain⟨F,G,z,A,j⟩:=ZGN ok k
   exact⟨_,_,_,z,by rw[A,g],j id⟩
  |false=>
   rw[yX (by decide)]at k;obtain⟨F,G,hs,z,A,j⟩:=ZGO ok k
   exact⟨_,_,_,z,by rw[A,g],j id⟩
 |.seq x y,n,m,a,h,K,g,B,f,k=>by
  have hx:=ZB1 (x:=x) (y:=y) rfl B;have hy:=Zx1 (x:=x) (y:=y) rfl B;unfold fC at k;obtain⟨a0,h0,k,W,gf⟩:=ZJf k;rw[g]at W
  suffices key:∃E F G,K E F G=ab out/\F.length=N/\XZ P (.seq x y) (TD.aE (lk h0) a0) (aG h0) E (TD.aE (lk G) F) (aG G) by
   obtain⟨E,F,G,g1,Q,X⟩:=key;exact⟨E,F,G,g1,Q,ZLQ gf X⟩
  clear gf;have g:=W;clear W;split at k
  .obtain⟨E,T,U,z,A,j⟩:=Vk ok x _ _ _ _ _ g hx (ZJk f) k;split at z
   .obtain⟨ex2,a2,h2,k4,k5,k6⟩:=Vk ok y _ _ _ _ _ A hy (ZB0 f) z;exact⟨_,_,_,k4,k5,ZBY j k6⟩
   .rename_i Y;exact⟨_,_,_,z,A,ZxZ Y j⟩
  .rename_i bkv R;obtain⟨bk,v⟩:=bkv;obtain⟨R,vs,j1,j2⟩:=wO R;dsimp only at R j1 j2 k;obtain⟨o,j3,k⟩:=yf.1 k;obtain⟨e,Z,s,g1,Q,X⟩:=wv k;obtain⟨a3,h3,j4,j5⟩:=Zx0 rfl j1;have hok:=f 0 x rfl bk (by rw[ych];exact R);rw[g]at Q j4;have e1:=lC _ _ _ j2;have r:=hok v o j3 (a3,h3) (by rw[e1];exact j4) e Z s g1 Q
   have j:XZ P x (TD.aE (lk h0) a0) (aG h0) e.ex (TD.aE (lk s.2) s.1) (aG s.2):=by
    intro J I okJ hH yM;obtain⟨J1,p1,p2,p3,p4,p5⟩:=j5 J I okJ hH yM;rw[<-p1];refine wp_mono (r J1 I p4 p2 p5) ?_;rintro e' F w' ⟨rfl,J2,q1,q2,q3,q4,q5⟩;exact⟨rfl,J2,q1,q2,p3.trans q3,q4,q5⟩
   split at X
   .rename_i he;rw[he]at j;obtain⟨ex2,a2,h2,k4,k5,k6⟩:=Vk ok y _ _ _ _ _ (wu Q) hy (ZB0 f) X;exact⟨_,_,_,k4,k5,ZBY j k6⟩
   .rename_i Y
    exact⟨_,_,_,X,wu Q,ZxZ Y j⟩
 |.cond c x y,n,m,a,h,K,g,B,f,k=>by
  have hx:=ZB1 (x:=x) (y:=y) rfl B;have hy:=Zx1 (x:=x) (y:=y) rfl B;have bx:=ZJj (x:=x) (y:=y) rfl f;have bY:=ZGU (x:=x) (y:=y) rfl f;unfold fC at k;obtain⟨b,k0,k⟩:=yf.1 k;obtain⟨d,k00,k01⟩:=yf.1 k0;have hc:=Zs (L:=lk h) k00;rw[pC k01]at hc;split at k
  .rename_i t;cases k00;have e:=ZBO k01;split at k
   .rename_i M;subst M;rw[bA e]at k;obtain⟨E,T,U,z,A,j⟩:=Vk ok x _ _ _ _ _ g hx bx k;exact⟨_,_,_,z,A,wM hc j⟩
   .rename_i M;have M:b=af:=by simpa using M
    subst M;rw[bA e]at k;obtain⟨E,T,U,z,A,j⟩:=Vk ok y _ _ _ _ _ g hy bY k;exact⟨_,_,_,z,A,wM hc j⟩
  .split at k
   .rename_i M;subst M;obtain⟨E,T,U,z,A,j⟩:=Vk ok x _ _ _ _ _ g hx bx k;exact⟨_,_,_,z,A,wM hc j⟩
   .rename_i M;have M:b=af:=by simpa using M
    subst M;obtain⟨E,T,U,z,A,j⟩:=Vk ok y _ _ _ _ _ g hy bY k
    exact⟨_,_,_,z,A,wM hc j⟩
 |.block id l,n,m,a,h,K,g,B,f,k=>by
  unfold fC at k;obtain⟨E,T,U,z,A,j⟩:=Vk ok l _ _ _ _ _ g B f k
  exact⟨_,_,_,z,A,ZD6 j⟩
 |.scope l,n,m,a,h,K,g,B,f,k=>by
  unfold fC at k;obtain⟨E,T,U,z,A,j⟩:=Vk ok l _ _ _ _ _ g B f k
  exact⟨_,_,_,z,A,ZD7 j⟩
 |.loop l,n,m,a,h,K,g,B,f,k=>by
  unfold fC at k;split at k
  .rename_i lpv S;obtain⟨lp,v⟩:=lpv;obtain⟨S,vs,j1,j2⟩:=wO S;dsimp only at S j1 j2 k;obtain⟨o,j3,k⟩:=yf.1 k;obtain⟨e,Z,s,g1,Q,X⟩:=wv k;obtain⟨a3,h3,j4,j5⟩:=Zx0 rfl j1;have hok:=B 0 l rfl lp (by rw[ych];exact S);rw[g]at Q j4;have e1:=lC _ _ _ j2;have r:=hok v o j3 (a3,h3) (by rw[e1];exact j4) e Z s g1 Q;refine⟨_,_,_,X,wu Q, ?_⟩;intro J I okJ hH yM;obtain⟨J1,p1,p2,p3,p4,p5⟩:=j5 J I okJ hH yM;rw[<-p1];refine wp_mono (r J1 I p4 p2 p5) ?_;rintro e' F w' ⟨rfl,J2,q1,q2,q3,q4,q5⟩;exact⟨rfl,J2,q1,q2,p3.trans q3,q4,q5⟩
  .have hl1:kE P fi N l (n+1):=λk b hk lp hl2=>B (k+1) b (by rw[ZR,yaq];exact hk) lp (by rw[show n+(k+1)=n+1+k by omega];exact hl2);obtain⟨E,T,U,z,A,j⟩:=ZsA (λa h K out g k=>Vk ok l _ _ _ _ K g hl1 f k) _ _ _ _ _ g k
   exact⟨E,T,U,z,A,ZxF j⟩
 |.rangeFunc _ _ _ _,_,_,_,_,_,_,_,_,k=>by cases k
 |.goto _,_,_,_,_,_,_,_,_,k=>by cases k
 |.refuse _,_,_,_,_,_,_,_,_,k=>by cases k
def pU(n0:Nat)(sl:cF)(es:yL bC)(a:yL TD)(h:yL ai):yO (yL TV):=sM n0 sl es a h
theorem Zx2{n0:Nat}{sl:cF}{es:yL bC}{a:yL TD}{h:yL ai}{vs:yL TV}(k:pU n0 sl es a h=ab vs):
 ∃f h3,QS a.length sl es vs=ab (f,h3)/\∀{c:Code}{ts:yL Dv}{H:yL aq}{g:Ex},H.length=n0->XZ P c ts H g (TD.aE (lk h) a) (aG h)->XZ P c ts H g (TD.aE (lk h3) f) (aG h3):=ZGT k
end
end Go.Ev
end
section
namespace Go.Ev
def Zd{I X:Type}(step:I->yO (I⊕X)):Nat->I->yO X
 |0,_=>ad
 |n+1,i=>(step i).bind λr=>match r with
  |.inl j=>Zd step n j
  |.inr x=>ab x
theorem ZJl:∃n:Nat,n=18446744073709551616:=⟨_,rfl⟩
noncomputable def yD:Nat:=Classical.choose ZJl
theorem iI:yD=18446744073709551616:=Classical.choose_spec ZJl
section
variable{P:yg}
def wP(n0:Nat)(g:Ex)(a:yL TD)(h:yL ai):(l:yL bX)->yO (bX.sum l)
 |[]=>ad
 |[e]=>if g=e.ex then(pU n0 e.sl e.es a h).bind λvs=>jk e.ty vs else ad
 |e::f::r=>match (if g=e.ex then(pU n0 e.sl e.es a h).bind λvs=>jk e.ty vs else ad) with
  |some x=>ab (Sum.inl x:Ty.aK e.ty⊕bX.sum (f::r))
  |none=>(wP n0 g a h (f::r)).map λx=>(Sum.inr x:Ty.aK e.ty⊕bX.sum (f::r))
theorem Zx3{n0:Nat}{m:Ex}{a:yL TD}{h:yL ai}:∀{l:yL bX}{o:bX.sum l},wP n0 m a h l=ab o->∀e vs,mJ l o e vs->m=e.ex/\pU n0 e.sl e.es a h=ab vs
 |[],_,k,_,_,_=>by cases k
 |[e],o,k,x,vs,hs=>by
  obtain⟨rfl,rfl⟩:=hs;have k:(if m=x.ex then(pU n0 x.sl x.es a h).bind λvs=>jk x.ty vs else ad)=ab o:=k
  split at k
  .rename_i z;obtain⟨B,g,j⟩:=yf.1 k;exact⟨z,by rw[g,lC _ _ _ j]⟩
  .cases k
 |e::f::r,o,k,x,vs,hs=>by
  simp only[wP]at k;split at k
  .rename_i y A;cases k;obtain⟨rfl,rfl⟩:=hs;split at A
   .rename_i z;obtain⟨B,g,j⟩:=yf.1 A;exact⟨z,by rw[g,lC _ _ _ j]⟩
   .cases A
  .obtain⟨y,g,j⟩:=Ze k;subst j;exact Zx3 g x vs hs
def pV(P:yg)(fi:FI)(aF:Sp P)(f:Code)(n N:Nat)(sl:cF)(es:yL bC)(I:yL Ty)(xs:yL bX):Ty.aK I->yO (Ty.aK I⊕bX.sum xs):=λv=>
 (QS N sl es (dq I v)).bind λs=>fC P fi aF f (n+1) 0 s.1 s.2 λex a h=>match ex with
   |.normal=>(pU s.2.length sl es a h).bind λvs=>(jk I vs).map .inl
   |ex=>(wP s.2.length ex a h xs).map .inr
theorem ZJm{fi:FI}{aF:Sp P}{g:Code}{n N:Nat}{sl:cF}{es:yL bC}{I:yL Ty}{xs:yL bX}(ok:dU aF)(hl:kE P fi N g (n+1))(l:jl P fi N g 0):
 ∀(f:Nat)(v:Ty.aK I)(o:bX.sum xs),Zd (pV P fi aF g n N sl es I xs) f v=ab o->∀s,QS N sl es (dq I v)=ab s->∀e vs j,mJ xs o e vs->QS N e.sl e.es vs=ab j->
  pp P g (TD.aE (lk s.2) s.1) (aG s.2) e.ex (TD.aE (lk j.2) j.1) (aG j.2)
 |0,_,_,h,_,_,_,_,_,_,_=>by cases h
 |f+1,v,o,h,s,hs,e,vs,j,F,hs'=>by
  unfold Zd at h;obtain⟨r,z,G⟩:=yf.1 h;unfold pV at z;rw[hs,ya]at z;obtain⟨Y,a,Z,m,M,Q⟩:=Vk ok g _ _ _ _ _ (wu hs) hl l z;split at m
  .obtain⟨ws,T,m⟩:=yf.1 m;obtain⟨w,A,rfl⟩:=Ze m;obtain⟨R,S,y,B⟩:=Zx2 (P:=P) T;rw[M]at y;have U:=B (ZV _) Q;have:=ZJm ok hl l f w o G (R,S) (by rw[lC _ _ _ A];exact y) e vs j F hs';exact ZxE [] U this
  .rename_i E;obtain⟨w,A,rfl⟩:=Ze m;cases G;obtain⟨W,X⟩:=Zx3 A e vs F;obtain⟨R,S,y,B⟩:=Zx2 (P:=P) X;rw[M,hs']at y;cases y;subst W;exact ZxD E (B (ZV _) Q)
theorem ZPn{fi:FI}{aF:Sp P}{g:Code}{n N:Nat}{sl:cF}{es:yL bC}{I:yL Ty}{xs:yL bX}{step:Ty.aK I->yO (Ty.aK I⊕bX.sum xs)}(f:Nat)(ok:dU aF)(hl:kE P fi N g (n+1))(j:jl P fi N g 0)
 (h:∀v,pV P fi aF g n N sl es I xs v=step v):Lp.Ok P N g ⟨sl,es,I,xs,Zd step f⟩:=by
 intro v o l s hs e vs m y hs';have z:pV P fi aF g n N sl es I xs=step:=funext h;subst z;exact ZxF (ZJm ok hl j f v o l s hs e vs m y hs')
theorem mN:∀(c:Code)(k:Nat)(b:Code),(ZR c)[k]? =ab (.loop b)->∀j x,(ZR b)[j]? =ab x->(ZR c)[k+1+j]? =ab x
 |.seq x y,k,b,h,j,z,f=>by
  simp only[ZR]at h ⊢;rcases Nat.lt_or_ge k (ZR x).length with hl|hl
  .rw[ybd hl]at h;have:=mN x k b h j z f;grind
  .rw[yas hl]at h;have:=mN y _ b h j z f
   grind
 |.cond _ x y,k,b,h,j,z,f=>by
  simp only[ZR]at h ⊢;rcases Nat.lt_or_ge k (ZR x).length with hl|hl
  .rw[ybd hl]at h;have:=mN x k b h j z f;grind
  .rw[yas hl]at h;have:=mN y _ b h j z f
   grind
 |.block _ a,k,b,h,j,z,f=>mN a k b h j z f
 |.scope a,k,b,h,j,z,f=>mN a k b h j z f
 |.loop a,k,b,h,j,z,f=>by
  simp only[ZR]at h ⊢
  cases k with
  |zero=>
   simp only[List.getElem?_cons_zero,Option.some.injEq,Code.loop.injEq]at h;subst h;rw[show 0+1+j=j+1 by omega,yaq]
   exact f
  |succ k=>
   rw[yaq]at h;rw[show k+1+1+j=(k+1+j)+1 by omega,yaq]
   exact mN a k b h j z f
 |.skip,_,_,h,_,_,_=>by simp[ZR]at h
 |.region _ _ _,_,_,h,_,_,_=>by simp[ZR]at h
 |.rangeFunc _ _ _ _,_,_,h,_,_,_=>by simp[ZR]at h
 |.exit _,_,_,h,_,_,_=>by simp[ZR]at h
 |.ret,_,_,h,_,_,_=>by simp[ZR]at h
 |.label _,_,_,h,_,_,_=>by simp[ZR]at h
 |.goto _,_,_,h,_,_,_=>by simp[ZR]at h
 |.refuse _,_,_,h,_,_,_=>by simp[ZR]at h
def lF(P:yg)(g:yr)(N:Nat):yL (Nat×Lp)->Prop
 |[]=>True
 |q::r=>q.2.Ok P N (iB P g q.1)/\lF P g N r
theorem IP{g:yr}{N:Nat}:∀{l:yL (Nat×Lp)}{n:Nat}{lp:Lp},lF P g N l->(n,lp)∈l->lp.Ok P N (iB P g n)
 |[],_,_,_,h=>by cases h
 |q::r,n,lp,f,h=>by
  rcases List.mem_cons.1 h with h|h
  .subst h;exact f.1
  .exact IP f.2 h
def ZL(P:yg)(g:yr):Code:=
 match P.funcs[g]? with
 |some fn=>fn.body.getD .skip
 |none=>.skip
theorem IQ{g:yr}{k:Nat}{b:Code}(h:(ZR (ZL P g))[k]? =ab (.loop b)):iB P g k=b:=by
 unfold iB ZH8;unfold ZL at h;split at h
 .rename_i fn j;rw[j];dsimp only
  cases f:fn.body with
  |none=>rw[f]at h;simp[ZR]at h
  |some c=>
   rw[f]at h;dsimp only[Option.getD]at h ⊢;rw[ycu,h];rfl
 .simp[ZR]at h
theorem ZFu{g:yr}{fi:FI}{N:Nat}(h:lF P g N fi.lp):kE P fi N (ZL P g) 0:=by
 intro k b j lp f;rw[yax]at f;rw[<-IQ j];exact IP h f
theorem ZJn{g:yr}{fi:FI}{N k:Nat}(f:(ZR (ZL P g))[k]? =ab (.loop (iB P g k)))(h:lF P g N fi.lp):kE P fi N (iB P g k) (k+1):=by
 intro j b l lp m;have:=mN _ _ _ f j _ l;rw[<-IQ this];exact IP h m
def wQ(P:yg)(g k:Nat):Bool:=
 match (ZR (ZL P g))[k]? with
 |some (.loop _)=>ae
 |_=>af
theorem ZwQ{g k:Nat}(h:wQ P g k=ae):(ZR (ZL P g))[k]? =ab (.loop (iB P g k)):=by
 unfold wQ at h;split at h
 .rename_i b f;rw[f,IQ f]
 .cases h
def QT(c:Code)(m:Nat):Code:=((WJ c)[m]?).getD .skip
def ol(P:yg)(N:Nat)(c:Code):yL (Nat×Lp)->Prop
 |[]=>True
 |q::r=>q.2.Is P N (QT c q.1)/\ol P N c r
theorem IR{N:Nat}{c:Code}:∀{l:yL (Nat×Lp)}{m:Nat}{bk:Lp},ol P N c l->(m,bk)∈l->bk.Is P N (QT c m)
 |[],_,_,_,h=>by cases h
 |q::r,m,bk,f,h=>by
  rcases List.mem_cons.1 h with h|h
  .subst h;exact f.1
  .exact IR f.2 h
theorem IS{fi:FI}{N:Nat}{c:Code}(h:ol P N c fi.bk):jl P fi N c 0:=by
 intro k x g bk f;rw[yax]at f;have:=IR h f;unfold QT at this;grind
theorem IT{fi:FI}{aF:Sp P}{g k N:Nat}{sl:cF}{es:yL bC}{I:yL Ty}{xs:yL bX}{step:Ty.aK I->yO (Ty.aK I⊕bX.sum xs)}(ok:dU aF)(hl:lF P g N fi.lp:=by exact True.intro)(f:wQ P g k=ae:=by kernel_rfl)
 (h:∀v,pV P fi aF (iB P g k) k N sl es I xs v=step v:=by intro v;kernel_rfl) (hb:ol P N (iB P g k) fi.bk:=by exact True.intro):Lp.Ok P N (iB P g k) ⟨sl,es,I,xs,Zd step yD⟩:=
 ZPn yD ok (ZJn (ZwQ f) hl) (IS hb) h
def kF{O:Type}(P:yg)(a:yL TD)(h:yL ai):yL ResultVar->(yL TD->yL ar->yO O)->yO O
 |[],K=>K [] []
 |.tmp t::r,K=>kF P a h r λf hs=>K (a.getD t .ak::f) hs
 |.cell t g::r,K=>match a.getD t .ak with
  |.aj id j=>(nY h id).bind λd=>eR (lk h) j d λsub hs _=>if fS P g (sub.er (lk h))=ae then kF P a h r λf hs'=>K (sub::f) (hs++hs') else ad
  |_=>ad
theorem sN{O:Type}{a:yL TD}{h:yL ai}{out:O}:∀(l:yL ResultVar)(K:yL TD->yL ar->yO O),kF P a h l K=ab out->∃f hs C,K f hs=ab out/\aZ C/\∀yK,gp P (TD.aE (lk h) a) (aG h) l (hs++yK)=ab (C,TD.aE (lk h) f)
 |[],K,k=>⟨[],[],[],k,zP,λ_=>rfl⟩
 |.tmp t::r,K,k=>by
  obtain⟨f,hs,C,g,j,m⟩:=sN r _ k;refine⟨_,_,C,g,j,λyK=> ?_⟩
  simp only[gp,m yK,yae,vR,TD.aE]
 |.cell t R::r,K,k=>by
  unfold kF at k;split at k
  .rename_i id y z;obtain⟨d,A,k⟩:=yf.1 k;obtain⟨st,S,B⟩:=rZ A;obtain⟨sub,hs,E,C,F,G,I,_⟩:=XR _ _ _ _ k;obtain⟨M,Q⟩:=Zb F;obtain⟨f,hs',C',g,j,m⟩:=sN r _ Q;refine⟨_,_,C++[dT y=WY y]++C',g,Zm.2 ⟨Zm.2 ⟨G,(Wp _).symm,ao⟩,j⟩,λyK=> ?_⟩;unfold gp;rw[vR,z];dsimp only[TD.er];rw[B];dsimp only;rw[List.append_assoc,I (hs'++yK)];dsimp only;rw[yW M,m yK];rfl
  .cases k
def jL:yL TD->TD
 |[d]=>d
 |f=>.bm f
theorem pW{L:Lk}(f:yL TD):(jL f).er L=kV (TD.aE L f):=by
 match f with
 |[]=>rfl
 |[d]=>rfl
 |_::_::_=>rfl
def TD.arg(L:Lk):TD->TD
 |.own id f t c=>.p (.sl f t (Yc L id t c))
 |.agg g=>TD.dz L g
 |d=>d
theorem IU{L:Lk}(d:TD):(d.arg L).er L=(d.er L).arg:=by
 cases d <;> first|rfl|exact ZE3 _
def ZJo(h:yL ai)(rs:Sh)(es:yL bC)(n0:Nat)(r:TD):yO (yL Nat):=
 let l:=HK h es 0 ((yn n0).map (λi=>(i,i))++Sh.ids rs r)
 ((yn es.length).drop n0).mapM λj=>l.lookup j
def wR(h:yL ai)(n0:Nat)(g:yL TD)(e:bX):yO (Ty.aK e.ty):=
 match e.sl with
 |[(0,rs)]=>(ZJo h rs e.es n0 (jL g)).bind λf=>
  if once (yn n0++f) then(match Dv.rn (bg (yn n0++f)) ((jL g).er (lk h)) with
   |some _=>(jL g).rn (bg (yn n0++f))
   |none=>(jL (g.map (TD.arg (lk h)))).rn (bg (yn n0++f))).bind λr=>
   (Vi h (yn n0++f) (yn n0++f)).bind λj=>(Sh.mt (lk j) rs r).bind λq=>(bC.eA (lk j) e.es j).bind λw=>jk e.ty (q.2++w.2)
  else ad
 |_=>ad
def sO(h:yL ai)(n0:Nat)(g:yL TD):(l:yL bX)->yO (bX.sum l)
 |[]=>ad
 |[e]=>wR h n0 g e
 |e::f::r=>match wR h n0 g e with
  |some x=>ab (Sum.inl x:Ty.aK e.ty⊕bX.sum (f::r))
  |none=>(sO h n0 g (f::r)).map λx=>(Sum.inr x:Ty.aK e.ty⊕bX.sum (f::r))
theorem Zu9{h:yL ai}{n0:Nat}{g:yL TD}:∀{l:yL bX}{o:bX.sum l},sO h n0 g l=ab o->∀e vs,mJ l o e vs->∃x,wR h n0 g e=ab x/\vs=dq e.ty x
 |[],_,k,_,_,_=>by cases k
 |[e],o,k,x,vs,hs=>by
  obtain⟨rfl,rfl⟩:=hs
  exact⟨o,k,rfl⟩
 |e::f::r,o,k,x,vs,hs=>by
  simp only[sO]at k;split at k
  .rename_i y z;cases k;obtain⟨rfl,rfl⟩:=hs;grind
  .obtain⟨y,j,m⟩:=Ze k;subst m;exact Zu9 j x vs hs
def IV(P:yg)(fi:FI)(aF:Sp P)(g:yr)(f:yL Sh)(es:yL bC)(ins:yL Ty)(xs:yL bX):Ty.aK ins->yO (bX.sum xs):=λx=>
 match P.funcs[g]? with
 |some fn=>match fn.body with
  |some c=>(Sh.fills f (dq ins x)).bind λq=>(bC.fills es q.2).bind λw=>if w.2.isEmpty then
    fC P fi aF c 0 0 (q.1++yx (fn.ntmps - q.1.length) .ak) w.1 λj a h=>match j with
     |.exit _=>ad
     |_=>kF P a h fn.results.toList λl _=>sO h w.1.length l xs
    else ad
  |none=>ad
 |none=>ad
def VF(P:yg)(g:yr):Nat:=
 match P.funcs[g]? with
 |some fn=>fn.ntmps
 |none=>0
theorem pX{fi:FI}{aF:Sp P}{g:yr}{Z:yL Sh}{es:yL bC}{ins:yL Ty}{xs:yL bX}{M:Ty.aK ins->yO (bX.sum xs)}(ok:dU aF)(hl:lF P g (VF P g) fi.lp:=by exact True.intro)(hn:Z.length<=VF P g:=by decide+kernel)
 (h:∀x,IV P fi aF g Z es ins xs x=M x:=by intro v;kernel_rfl) (hb:ol P (VF P g) (ZL P g) fi.bk:=by exact True.intro):Fs.Ok (⟨g,Z,es,ins,xs,M⟩:Fs P):=by
 intro x o j;have j:M x=ab o:=j;rw[<-h x]at j;have E:=ZFu hl;unfold IV at j;split at j
 .rename_i fn hf;split at j
  .rename_i c F;obtain⟨q,h1,j⟩:=yf.1 j;obtain⟨w,h2,j⟩:=yf.1 j;obtain⟨h3,j⟩:=Zb j;have hN:VF P g=fn.ntmps:=by unfold VF;rw[hf]
   have hc:ZL P g=c:=by unfold ZL;rw[hf];dsimp only;rw[F];rfl
   rw[hc,hN]at E hb;have hb0:=IS hb;rw[hN]at hn
   have zW:(q.1++yx (fn.ntmps - q.1.length) TD.ak).length=fn.ntmps:=by
    rw[yl,yda,wt h1];omega
   obtain⟨U,a,l,G,k2,k3⟩:=Vk ok c _ _ _ _ _ zW E hb0 j
   have A:(U=.ret\/U=.normal)/\(kF P a l fn.results.toList λW _=>sO l w.1.length W xs)=ab o:=by
    cases U with
    |exit _=>cases G
    |normal=>exact⟨.inr rfl,G⟩
    |ret=>exact⟨.inl rfl,G⟩
   obtain⟨A,G⟩:=A;obtain⟨W,hs,C,f,g2,g3⟩:=sN _ _ G;refine⟨q.1,q.2,w.1,h1, ?_,λe vs s' I m=> ?_⟩
   .grind
   obtain⟨o1,f,hvs⟩:=Zu9 f e vs I;unfold wR at f;split at f
   case h_2=>cases f
   rename_i rs hsl;obtain⟨Q,g4,f⟩:=yf.1 f;obtain⟨g5,f⟩:=Zb f;obtain⟨r,g6,f⟩:=yf.1 f;obtain⟨X,Y,f⟩:=yf.1 f;obtain⟨z,g8,f⟩:=yf.1 f;obtain⟨y,g9,f⟩:=yf.1 f;obtain⟨b1,b2⟩:=pM g9;have R:∀id t,Yc (lk X) id t ad=Yc (lk y.1) id t ad:=λid t=>by rw[b2]
   have eo:=lC _ _ _ f
   have B:s'=([z.1],y.1):=by
    rw[hvs,eo,hsl]at m;unfold QS at m;rw[show pO [(0,rs)] 1=[rs] from rfl]at m
    simp only[Sh.fills,mI _ _ _ g8,ya,yae]at m;have:=pL g9 [];grind
   subst B;refine⟨z.1,rfl, ?_⟩
   have S:fin P fn (TD.aE (lk l) a) (aG l) (aG w.1).length Q hs=ab (C,r.er (lk X),aG X):=by
    unfold fin;have:=g3 [];rw[yba]at this;rw[this];dsimp only;rw[ZV,g5, <-pW,show aN (aG l) _ _=ab (aG X) from Vj (fY Y) Y]
    split at g6
    .rename_i r0 T;have e4:=ic (fY Y) _ _ g6;rw[e4]
    .rename_i T;have e4:=ic (fY Y) _ _ g6;rw[pW,ZI,yaw]at e4
     rw[T,show(TD.aE (lk l) W).map Dv.arg=W.map (TD.er (lk l) ∘ TD.arg (lk l)) by
      rw[ZI,yaw];exact ycd λd _=>(IU d).symm,e4]
   have zB:XZ P c (TD.aE (lk w.1) q.1++yx (fn.ntmps - (TD.aE (lk w.1) q.1).length) .ak) (aG w.1) U (TD.aE (lk l) a) (aG l):=by
    have e5:TD.aE (lk w.1) (q.1++yx (fn.ntmps - q.1.length) TD.ak)=TD.aE (lk w.1) q.1++yx (fn.ntmps - (TD.aE (lk w.1) q.1).length) .ak:=by
     rw[CQ,ZI,ZI,yat,List.map_replicate];rfl
    grind
   exact rz (ry hf F zB A S g2) (lB R _ _ _ g8) (pN R g9)
  .cases j
 .cases j
end
theorem sP{P:yg}{g:yr}{t:Ty}{xs:yL bX}{MA:Ty.aK [.sl t]->yO (bX.sum xs)}{MB:Ty.aK []->yO (bX.sum xs)}(G:Fs.Ok (⟨g,[.sl ae t],[],[.sl t],xs,MA⟩:Fs P))(I:Fs.Ok (⟨g,[.nil t],[],[],xs,MB⟩:Fs P))
 (h:MB ()=MA ([]:yL t.aT)):Fs.Ok (⟨g,[.v (.sl t)],[],[.sl t],xs,MA⟩:Fs P):=by
 intro l o z;have j:∀(l:yL t.aT),Ty.cast (.sl t) (.sl t) l=ab l:=λl=>Xl (.sl t) l;obtain⟨A,R1,H1,f1,f2,f3⟩:=G l o z
 have M:A=[.p (.sl (ab ae) t l)]/\R1=[]:=by
  have:Sh.fills [.sl ae t] [(⟨.sl t,l⟩:TV)]=ab (A,R1):=f1;simp only[Sh.fills,Sh.fill]at this;grind
 obtain⟨rfl,rfl⟩:=M;cases f2;refine⟨[.p (.v (.sl t) l)],[],[], ?_,rfl,λe vs B hs E=> ?_⟩
 .show Sh.fills [.v (.sl t)] [(⟨.sl t,l⟩:TV)]=_;simp only[Sh.fills,Sh.fill];rw[j l];rfl
 .obtain⟨r,F,Q⟩:=f3 e vs B hs E;refine⟨r,F, ?_⟩;refine ZLd (xs:=l.map t.enc) Q λm=> ?_;have m:l=[]:=List.map_eq_nil_iff.1 m;subst m;obtain⟨U,R2,H2,R,S,T⟩:=I () o (by rw[<-z];exact h);cases R;cases S;obtain⟨W,f,y⟩:=T e vs B hs E;rw[F]at f;cases f;exact y
def om(n:Int):yO aQa:=if(ag (0<=n)&&ag (n.toNat<=Zr))=ae then ab [] else ad
theorem ZLV{P:yg}{g:yr}{e:yc}(h:∀n:Nat,n<=Zr->bZ P g [.p (.sl (ab af) 1 []),.p (.int .i64 (n:Int))] [] (.own 0 ad 1 []) [.log 1 e []]):
 Fs.Ok (⟨g,[.nil .u8,.v (.int .i64)],[],[.int .i64],[⟨.ret,[(0,.own 0 .u8)],[.log .u8 e],[.sl .u8]⟩],om⟩:Fs P):=by
 intro n o f
 have j:∀(n:Int),om n=ab o->(0<=n/\n.toNat<=Zr)/\([]:yL yB)=o:=λn f=>by
  unfold om at f;grind
 obtain⟨l,m⟩:=j n f;cases m;refine⟨[.p (.sl (ab af) .u8 []),.p (.v (.int .i64) n)],[],[],rfl,rfl,λx vs z hs y=> ?_⟩;obtain⟨rfl,rfl⟩:=hs;cases y;refine⟨_,rfl, ?_⟩;have:=h (Int.toNat n) l.2;rw[Int.toNat_of_nonneg l.1]at this;exact this
mutual
theorem IW:∀(s:Sh)(vs w:yL TV)(q:TD×yL TV),s.fill vs=ab q->s.fill (vs++w)=ab (q.1,q.2++w)
 |.v t,vs,w,q,h=>by
  cases vs with
  |nil=>cases h
  |cons x r=>
   obtain⟨y,f,rfl⟩:=Ze (show(Ty.cast x.1 t x.2).map (λy=>((TD.p (.v t y),r):TD×yL TV))=ab q from h)
   show(Ty.cast x.1 t x.2).map (λy=>((TD.p (.v t y),r++w):TD×yL TV))=_
   rw[f];rfl
 |.elem t,vs,w,q,h=>by
  cases vs with
  |nil=>cases h
  |cons x r=>
   obtain⟨y,f,rfl⟩:=Ze (show(Ty.cast x.1 t x.2).map (λy=>((TD.elem (.v t y),r):TD×yL TV))=ab q from h)
   show(Ty.cast x.1 t x.2).map (λy=>((TD.elem (.v t y),r++w):TD×yL TV))=_
   rw[f];rfl
 |.sl m t,vs,w,q,h=>by
  cases vs with
  |nil=>cases h
  |cons x r=>
   obtain⟨y,f,rfl⟩:=Ze (α:=(Ty.sl t).aT) (show(Ty.cast x.1 (.sl t) x.2).map (λ(y:yL t.aT)=>((TD.p (.sl (ab m) t y),r):TD×yL TV))=ab q from h)
   show(Ty.cast x.1 (.sl t) x.2).map (λ(y:yL t.aT)=>((TD.p (.sl (ab m) t y),r++w):TD×yL TV))=_
   rw[f];rfl
 |.nil _,vs,w,q,h=>by cases h;rfl
 |.own _ _,vs,w,q,h=>by cases h;rfl
 |.aj _ _,vs,w,q,h=>by cases h;rfl
 |.mp _,vs,w,q,h=>by cases h;rfl
 |.rw _,vs,w,q,h=>by cases h;rfl
 |.rp j s p,vs,w,q,h=>by
  cases vs with
  |nil=>cases h
  |cons x r=>
   obtain⟨y,f,rfl⟩:=Ze (α:=Int) (show(Ty.cast x.1 (.int .i64) x.2).map (λ(i:Int)=>((TD.rp j (.ix i.toNat s::p),r):TD×yL TV))=ab q from h)
   show(Ty.cast x.1 (.int .i64) x.2).map (λ(i:Int)=>((TD.rp j (.ix i.toNat s::p),r++w):TD×yL TV))=_
   rw[f];rfl
 |.view _ _ _ _ _,vs,w,q,h=>by cases h;rfl
 |.rv _ _ _ _ _,vs,w,q,h=>by cases h;rfl
 |.fn g l,vs,w,q,h=>by
  simp only[Sh.fill]at h ⊢;obtain⟨y,f,rfl⟩:=Ze h
  rw[cK l vs w y f];rfl
 |.agg l,vs,w,q,h=>by
  simp only[Sh.fill]at h ⊢;obtain⟨y,f,rfl⟩:=Ze h
  rw[cK l vs w y f];rfl
 |.arr n s l,vs,w,q,h=>by
  simp only[Sh.fill]at h ⊢;obtain⟨y,f,rfl⟩:=Ze h
  rw[cK l vs w y f];rfl
 |.bm l,vs,w,q,h=>by
  simp only[Sh.fill]at h ⊢;obtain⟨y,f,rfl⟩:=Ze h
  rw[cK l vs w y f];rfl
 |.iface t x,vs,w,q,h=>by
  simp only[Sh.fill]at h ⊢;obtain⟨y,f,rfl⟩:=Ze h
  rw[IW x vs w y f];rfl
 |.so t u x,vs,w,q,h=>by
  cases vs with
  |nil=>cases h
  |cons z r=>
   simp only[Sh.fill,List.cons_append]at h ⊢
   cases A:Ty.cast z.1 .bool z.2 with
   |none=>rw[A]at h;cases h
   |some b=>
    rw[A]at h;obtain⟨y,f,rfl⟩:=Ze h;show((Sh.fill x (r++w)).map _)=_
    rw[IW x r w y f];rfl
 |.cb,vs,w,q,h=>by cases h;rfl
 |.fn0,vs,w,q,h=>by cases h;rfl
 |.ew,vs,w,q,h=>by cases h;rfl
 |.cD,vs,w,q,h=>by cases h;rfl
 |.ak,vs,w,q,h=>by cases h;rfl
theorem cK:∀(l:yL Sh)(vs w:yL TV)(q:yL TD×yL TV),Sh.fills l vs=ab q->Sh.fills l (vs++w)=ab (q.1,q.2++w)
 |[],vs,w,q,h=>by simp only[Sh.fills]at h;cases h;rfl
 |s::r,vs,w,q,h=>by
  simp only[Sh.fills]at h ⊢;obtain⟨a,f,h⟩:=yf.1 h;obtain⟨b,g,rfl⟩:=Ze h;rw[IW s vs w a f,ya,cK r a.2 w b g];rfl
end
theorem ZN6{P:yg}{g:yr}{t:Ty}{e:yc}{yK:yL Sh}{i1 i2:yL Ty}{xs:yL bX}{M:Ty.aK i2->yO (bX.sum xs)}(pk:Ty.aK i1->Ty.aK i2)(h:Fs.Ok (⟨g,.own 0 t::yK,[.log t e],i2,xs,M⟩:Fs P))
 (hp:∀x,dq i2 (pk x)=dq i1 x++[⟨.sl t,([]:yL t.aT)⟩]) (B:∀x,∃a,Sh.fills yK (dq i1 x)=ab (a,[])):Fs.Ok (⟨g,.nil t::yK,[],i1,xs,λx=>M (pk x)⟩:Fs P):=by
 intro x o E;obtain⟨f,R,H,f1,f2,f3⟩:=h (pk x) o E;obtain⟨a,A⟩:=B x;have f1:Sh.fills (.own 0 t::yK) (dq i2 (pk x))=ab (f,R):=f1;rw[hp x]at f1;simp only[Sh.fills,Sh.fill,ya,cK yK _ _ _ A,yae,Option.some.injEq,yq,List.nil_append]at f1;obtain⟨rfl,rfl⟩:=f1;have f2:((Ty.cast (.sl t) (.sl t) ([]:yL t.aT)).map λ(y:yL t.aT)=>((ai.log t e y,[]):ai×yL TV)).bind (λa=>(bC.fills [] a.2).map λb=>(a.1::b.1,b.2))=ab (H,[]):=f2;have l:Ty.cast (.sl t) (.sl t) ([]:yL t.aT)=ab ([]:yL t.aT):=Xl (.sl t) ([]:yL t.aT);rw[l]at f2;cases f2;refine⟨.p (.sl (ab af) t [])::a,[],[], ?_,rfl,λF vs m hs z=> ?_⟩
 .show Sh.fills (.nil t::yK) (dq i1 x)=_;simp only[Sh.fills,Sh.fill,ya,A,yae]
 .obtain⟨r,G,j⟩:=f3 F vs m hs z;refine⟨r,G, ?_⟩
  have I:TD.aE (lk [.log t e []]) (.own 0 ad t ad::a)=.own 0 ad t.size []::TD.aE (lk []) a:=by
   have Q:TD.aE (lk [.log t e []]) a=TD.aE (lk []) a:=(cz (λid S=>wg (H:=[]) (T:=t) (e:=e) id S) a).symm;rw[TD.aE,Q];congr 1;rw[TD.er,show Yc (lk [.log t e []]) 0 t ad=[] from pG (H:=[])]
   rfl
  have j:bZ P g (TD.aE (lk [.log t e []]) (.own 0 ad t ad::a)) (aG [.log t e []]) (r.er (lk m.2)) (aG m.2):=j;rw[I]at j;exact ZA7 (H:=[]) (e:=e) j
section
variable{P:yg}
theorem aQ(h:HI)(lp:yL (Nat×Lp))(l:yL (Fs P))(a:dt l){g:yr}{f:yL Sh}{es:yL bC}{ins:yL Ty}{xs:yL bX}{M:Ty.aK ins->yO (bX.sum xs)}(hl:lF P g (VF P g) lp:=by exact True.intro)(j:f.length<=VF P g:=by decide+kernel)
 (k:∀x,IV P { hi:=h,lp:=lp} { l:=l} g f es ins xs x=M x:=by intro v;kernel_rfl):Fs.Ok (⟨g,f,es,ins,xs,M⟩:Fs P):=pX (kB a) hl j k
abbrev Lp.bt(L:Lp)(P:yg)(g k:Nat):Prop:=L.Ok P (VF P g) (iB P g k)
theorem Zt(h:HI)(lp:yL (Nat×Lp))(l:yL (Fs P))(a:dt l){g k N:Nat}{sl:cF}{es:yL bC}{I:yL Ty}{xs:yL bX}{step:Ty.aK I->yO (Ty.aK I⊕bX.sum xs)}(hl:lF P g N lp:=by exact True.intro)(f:wQ P g k=ae:=by kernel_rfl)
 (j:∀v,pV P { hi:=h,lp:=lp} { l:=l} (iB P g k) k N sl es I xs v=step v:=by intro v;kernel_rfl):Lp.Ok P N (iB P g k) ⟨sl,es,I,xs,Zd step yD⟩:=IT (kB a) hl f j
end
end Go.Ev
end
section
namespace Go.Ev
universe u
variable{O:Type u}
def eL(n:Nat)(k:Nat->O):O:=Nat.rec (motive:=λ_=>O) (k 0) (λm _=>k (Nat.succ m)) n
theorem Xz(n:Nat)(k:Nat->O):eL n k=k n:=by cases n <;> rfl
def gR{α:Type}(f:α->(α->O)->O):yL α->(yL α->O)->O
 |[],k=>k []
 |a::r,k=>f a λa=>gR f r λr=>k (a::r)
theorem VW{α:Type}{f:α->(α->O)->O}(g:∀a k,f a k=k a):∀(l:yL α)(k:yL α->O),gR f l k=k l
 |[],k=>rfl
 |a::r,k=>by rw[gR,g,VW g r]
def IX(n:Int)(k:Int->O):O:=match n with
 |.ofNat n=>eL n λn=>k (.ofNat n)
 |.negSucc n=>eL n λn=>k (.negSucc n)
theorem ZLW(n:Int)(k:Int->O):IX n k=k n:=by cases n <;> (rw[IX,Xz])
def oo(b:Bool)(k:Bool->O):O:=match b with
 |true=>k ae
 |false=>k af
theorem pY(b:Bool)(k:Bool->O):oo b k=k b:=by cases b <;> rfl
mutual
def Ty.fo:(t:Ty)->t.aT->(t.aT->O)->O
 |.int _,x,k=>IX x k
 |.u8,x,k=>eL (UInt8.toNat x) λn=>k (UInt8.ofNat n)
 |.u32,x,k=>eL (UInt32.toNat x) λn=>k (ybn n)
 |.u64,x,k=>eL (UInt64.toNat x) λn=>k (yao n)
 |.bool,x,k=>oo x k
 |.str,x,k=>k x
 |.sl t,x,k=>gR (Ty.fo t) x k
 |.arr _ t,x,k=>gR (Ty.fo t) x k
 |.st f,x,k=>Ty.eM f x k
def Ty.eM:(f:yL Ty)->Ty.aK f->(Ty.aK f->O)->O
 |[],_,k=>k ()
 |[t],x,k=>Ty.fo t x k
 |t::u::r,x,k=>Ty.fo t x.1 λa=>Ty.eM (u::r) x.2 λb=>k (a,b)
end
mutual
theorem Ty.bJ:∀(t:Ty)(x:t.aT)(k:t.aT->O),t.fo x k=k x
 |.int _,x,k=>ZLW x k
 |.u8,x,k=>by rw[Ty.fo,Xz];exact congrArg k UInt8.ofNat_toNat
 |.u32,x,k=>by rw[Ty.fo,Xz];exact congrArg k UInt32.ofNat_toNat
 |.u64,x,k=>by rw[Ty.fo,Xz];exact congrArg k UInt64.ofNat_toNat
 |.bool,x,k=>pY x k
 |.str,x,k=>rfl
 |.sl t,x,k=>by rw[Ty.fo];exact VW (Ty.bJ t) x k
 |.arr _ t,x,k=>by rw[Ty.fo];exact VW (Ty.bJ t) x k
 |.st f,x,k=>Ty.bW f x k
theorem Ty.bW:∀(f:yL Ty)(x:Ty.aK f)(k:Ty.aK f->O),Ty.eM f x k=k x
 |[],_,k=>rfl
 |[t],x,k=>Ty.bJ t x k
 |t::u::r,x,k=>by rw[Ty.eM,Ty.bJ t];exact Ty.bW (u::r) x.2 _
end
mutual
def TP.fo:TP->(TP->O)->O
 |.v t x,k=>t.fo x λx=>k (.v t x)
 |.sl g t f,k=>gR t.fo f λf=>k (.sl g t f)
 |.agg f,k=>TP.eM f λf=>k (.agg f)
 |.arr n s f,k=>TP.eM f λf=>k (.arr n s f)
 |.lj g s f,k=>TP.eM f λf=>k (.lj g s f)
 |.iface t x,k=>TP.fo x λx=>k (.iface t x)
 |x,k=>k x
def TP.eM:yL TP->(yL TP->O)->O
 |[],k=>k []
 |x::r,k=>TP.fo x λx=>TP.eM r λr=>k (x::r)
end
mutual
theorem TP.bJ:∀(x:TP)(k:TP->O),x.fo k=k x
 |.v t x,k=>by rw[TP.fo,Ty.bJ]
 |.sl g t f,k=>by rw[TP.fo,VW (Ty.bJ t)]
 |.agg f,k=>by rw[TP.fo,TP.bW f]
 |.arr n s f,k=>by rw[TP.fo,TP.bW f]
 |.lj g s f,k=>by rw[TP.fo,TP.bW f]
 |.iface t x,k=>by rw[TP.fo,TP.bJ x]
 |.cb,k=>rfl
 |.fn0,k=>rfl
 |.ew,k=>rfl
 |.cD,k=>rfl
 |.gG _,k=>rfl
theorem TP.bW:∀(x:yL TP)(k:yL TP->O),TP.eM x k=k x
 |[],k=>rfl
 |x::r,k=>by rw[TP.eM,TP.bJ x,TP.bW r]
end
def ZPo{α:Type}(f:α->(α->O)->O):yO α->(yO α->O)->O
 |none,k=>k ad
 |some a,k=>f a λa=>k (ab a)
theorem ZLX{α:Type}{f:α->(α->O)->O}(g:∀a k,f a k=k a):∀(l:yO α)(k:yO α->O),ZPo f l k=k l
 |none,k=>rfl
 |some a,k=>g a _
mutual
def TD.fo:TD->(TD->O)->O
 |.p x,k=>x.fo λx=>k (.p x)
 |.elem x,k=>x.fo λx=>k (.elem x)
 |.own id h t c,k=>eL id λid=>ZPo (gR t.fo) c λc=>k (.own id h t c)
 |.aj id q,k=>eL id λid=>k (.aj id q)
 |.view id q s lo n,k=>eL id λid=>eL s λs=>eL lo λlo=>eL n λn=>k (.view id q s lo n)
 |.agg g,k=>TD.eM g λg=>k (.agg g)
 |.arr n s g,k=>eL n λn=>eL s λs=>TD.eM g λg=>k (.arr n s g)
 |.fn f g,k=>TD.eM g λg=>k (.fn f g)
 |.iface t x,k=>TD.fo x λx=>k (.iface t x)
 |.bm g,k=>TD.eM g λg=>k (.bm g)
 |.mp id,k=>eL id λid=>k (.mp id)
 |.rv id v s lo n,k=>eL id λid=>eL v λv=>eL s λs=>eL lo λlo=>eL n λn=>k (.rv id v s lo n)
 |.ba id v q,k=>eL id λid=>eL v λv=>k (.ba id v q)
 |.rw id,k=>eL id λid=>k (.rw id)
 |.rp id q,k=>eL id λid=>k (.rp id q)
 |.ak,k=>k .ak
def TD.eM:yL TD->(yL TD->O)->O
 |[],k=>k []
 |x::r,k=>TD.fo x λx=>TD.eM r λr=>k (x::r)
end
mutual
theorem TD.bJ:∀(x:TD)(k:TD->O),x.fo k=k x
 |.p x,k=>by rw[TD.fo,TP.bJ]
 |.elem x,k=>by rw[TD.fo,TP.bJ]
 |.own id h t c,k=>by rw[TD.fo,Xz,ZLX (VW (Ty.bJ t))]
 |.aj id q,k=>by rw[TD.fo,Xz]
 |.view id q s lo n,k=>by rw[TD.fo,Xz,Xz,Xz,Xz]
 |.agg g,k=>by rw[TD.fo,TD.bW g]
 |.arr n s g,k=>by rw[TD.fo,Xz,Xz,TD.bW g]
 |.fn f g,k=>by rw[TD.fo,TD.bW g]
 |.iface t x,k=>by rw[TD.fo,TD.bJ x]
 |.bm g,k=>by rw[TD.fo,TD.bW g]
 |.mp id,k=>by rw[TD.fo,Xz]
 |.rv id v s lo n,k=>by rw[TD.fo,Xz,Xz,Xz,Xz,Xz]
 |.ba id v q,k=>by rw[TD.fo,Xz,Xz]
 |.rw id,k=>by rw[TD.fo,Xz]
 |.rp id q,k=>by rw[TD.fo,Xz]
 |.ak,k=>rfl
theorem TD.bW:∀(x:yL TD)(k:yL TD->O),TD.eM x k=k x
 |[],k=>rfl
 |x::r,k=>by rw[TD.eM,TD.bJ x,TD.bW r]
end
def ai.fo(e:ai)(k:ai->O):O:=match e with
 |.var d st=>d.fo λd=>oo st λst=>k (.var d st)
 |.log t e f=>gR t.fo f λf=>k (.log t e f)
 |.map g a b l=>gR (λq k=>a.fo q.1 λx=>b.fo q.2 λy=>k (x,y)) l λl=>k (.map g a b l)
 |.row v s st e d=>eL v λv=>eL s λs=>oo st λst=>d.fo λd=>k (.row v s st e d)
 |.aV t v st e f=>oo st λst=>gR t.fo f λf=>k (.aV t v st e f)
 |.aS t h v st e a b=>oo st λst=>gR t.fo a λa=>gR t.fo b λb=>k (.aS t h v st e a b)
 |.bK t h v st e a d b=>oo st λst=>gR t.fo a λa=>d.fo λd=>gR t.fo b λb=>k (.bK t h v st e a d b)
 |.gone=>k .gone
theorem ai.bJ(e:ai)(k:ai->O):e.fo k=k e:=by
 cases e with
 |var d st=>rw[ai.fo,TD.bJ,pY]
 |log t e f=>rw[ai.fo,VW (Ty.bJ t)]
 |map g a b l=>rw[ai.fo,VW λq k=>by rw[Ty.bJ a,Ty.bJ b]]
 |row v s st e d=>rw[ai.fo,Xz,Xz,pY,TD.bJ]
 |aV t v st e f=>rw[ai.fo,pY,VW (Ty.bJ t)]
 |aS t h v st e a b=>rw[ai.fo,pY,VW (Ty.bJ t),VW (Ty.bJ t)]
 |bK t h v st e a d b=>rw[ai.fo,pY,VW (Ty.bJ t),TD.bJ,VW (Ty.bJ t)]
 |gone=>rfl
def wS(a:yL TD)(h:yL ai)(k:yL TD->yL ai->O):O:=TD.eM a λa=>gR ai.fo h λh=>k a h
theorem ZN8(a:yL TD)(h:yL ai)(k:yL TD->yL ai->O):wS a h k=k a h:=by rw[wS,TD.bW,VW ai.bJ]
def oq:(l:yL bX)->bX.sum l->(bX.sum l->O)->O
 |[],x,k=>k x
 |[e],x,k=>Ty.eM e.ty x k
 |e::f::r,x,k=>match (x:Ty.aK e.ty⊕bX.sum (f::r)) with
  |.inl x=>Ty.eM e.ty x λx=>k (.inl x:Ty.aK e.ty⊕bX.sum (f::r))
  |.inr x=>oq (f::r) x λx=>k (.inr x:Ty.aK e.ty⊕bX.sum (f::r))
theorem IY:∀(l:yL bX)(x:bX.sum l)(k:bX.sum l->O),oq l x k=k x
 |[],x,k=>rfl
 |[e],x,k=>Ty.bW _ _ _
 |e::f::r,x,k=>by
  unfold oq
  cases (x:Ty.aK e.ty⊕bX.sum (f::r)) with
  |inl x=>exact Ty.bW _ _ _
  |inr x=>exact IY (f::r) x _
def Fs.fo{P:yg}(s:Fs P):Fs P:={ s with M:=λx=>Ty.eM s.ins x λx=>(s.M x).bind λo=>oq s.xs o ab}
theorem Fs.sQ{P:yg}{s:Fs P}(h:s.Ok):s.fo.Ok:=by
 have e:s.fo=s:=by
  unfold Fs.fo
  have:(λx=>Ty.eM s.ins x λx=>(s.M x).bind λo=>oq s.xs o ab)=s.M:=by
   funext x;rw[Ty.bW]
   cases s.M x with
   |none=>rfl
   |some o=>exact IY _ _ _
  rw[this]
 rw[e];exact h
theorem ZB3{P:yg}:∀{l:yL (Fs P)},dt l->dt (l.map Fs.fo)
 |[],_=>trivial
 |s::r,h=>⟨Fs.sQ h.1,ZB3 h.2⟩
end Go.Ev
end
section
namespace Go.Ev
def IZ(h:yL ai)(n0:Nat)(r:TD):yL Nat:=
 let f:=mL h 100000 (r.look++yn n0) []
 ((yn h.length).drop n0).filter f.contains
def wT(P:yg)(H:yL ai)(t:yc)(d:TD):yO TD:=
 match d with
 |.p x=>ab (.p x)
 |d=>(gx P ia t).bind λT=>(sq H 100 T d).map λy=>.p (.v T y)
theorem ZB4{P:yg}{H:yL ai}{t:yc}{d e:TD}(h:wT P H t d=ab e):fN (aG H) (d.er (lk H)) (e.er (lk H)):=by
 unfold wT at h;split at h
 .cases h;exact .refl _
 .obtain⟨T,g,h⟩:=yf.1 h;obtain⟨y,f,rfl⟩:=Ze h;exact .deep (HD _ _ _ _ f)
def wU(P:yg)(H:yL ai):yL yc->yL TD->yO (yL TD)
 |[],[]=>ab []
 |t::r,d::f=>match wT P H t d,wU P H r f with
  |some a,ab b=>ab (a::b)
  |_,_=>ad
 |_,_=>ad
theorem Zx6{P:yg}{H:yL ai}:∀{ts:yL yc}{f es:yL TD},wU P H ts f=ab es->fO (aG H) (TD.aE (lk H) f) (TD.aE (lk H) es)
 |[],[],es,h=>by cases h;exact .nil
 |[],_::_,es,h=>by cases h
 |_::_,[],es,h=>by cases h
 |t::r,d::f,es,h=>by
  simp only[wU]at h;split at h
  .rename_i a b g j;cases h;exact .cons (ZB4 g) (Zx6 j)
  .cases h
def JA(P:yg)(H:yL ai)(ts:yL yc)(r:TD):yO TD:=
 match ts with
 |[t]=>wT P H t r
 |ts=>match r with
  |.bm f=>(wU P H ts f).map .bm
  |_=>ad
theorem ZJq{P:yg}{H:yL ai}{ts:yL yc}{r r':TD}(h:JA P H ts r=ab r'):hU (aG H) (r.er (lk H)) (r'.er (lk H)):=by
 unfold JA at h;split at h
 .exact .one (ZB4 h)
 .split at h
  .obtain⟨g,f,rfl⟩:=Ze h;exact .bm (Zx6 f)
  .cases h
def wV{O:Type}(P:yg)(ts:yL yc)(r:TD)(H:yL ai)(K:TD->yL ai->yO O):yO O:=
 match ts with
 |[]=>K r H
 |ts=>(JA P (oe ((mL H 100000 r.look []).filter (HE H)) H) ts r).bind λf=>K f (oe ((mL H 100000 r.look []).filter (HE H)) H)
theorem ZGW{O:Type}{P:yg}{ts:yL yc}{r:TD}{H:yL ai}{K:TD->yL ai->yO O}{out:O}{g:yr}{args:yL Dv}{H0:yL aq}(h:wV P ts r H K=ab out)(hc:bZ P g args H0 (r.er (lk H)) (aG H)):
 ∃r' H',K r' H'=ab out/\bZ P g args H0 (r'.er (lk H')) (aG H'):=by
 unfold wV at h;split at h
 .exact⟨_,_,h,hc⟩
 .obtain⟨r',f,j⟩:=yf.1 h;generalize (mL H 100000 r.look []).filter (HE H)=ids at f j;refine⟨_,_,j,ZIc hc (ZDV ids H) ?_⟩;have:=ZJq f;rw[ZuR]at this ⊢;exact this
def pZ{O:Type}(h:yL ai)(n0:Nat)(g:yL TD)(K:TD->yL ai->yO O):yO O:=
 let f:=IZ h n0 (jL g)
 if once (yn n0++f) then(match Dv.rn (bg (yn n0++f)) ((jL g).er (lk h)) with
  |some _=>(jL g).rn (bg (yn n0++f))
  |none=>(jL (g.map (TD.arg (lk h)))).rn (bg (yn n0++f))).bind λr=>
  (Vi h (yn n0++f) (yn n0++f)).bind λj=>K r j
 else ad
section
variable{P:yg}
def sR(P:yg)(fH:yr->HI)(l:yL (Fs P))(mt:yL (yc×String×yr))(iX:yr->yL (Nat×kD))(fv:yr->yL (Nat×Lp)):Nat->(O:Type)->yr->yL TD->yL ai->(TD->yL ai->yO O)->yO O
 |0,_,_,_,_,_=>ad
 |n+1,O,g,f,H,K=>wS f H λf H=>match P.funcs[g]? with
  |some fn=>match fn.body with
   |some c=>if ag (f.length<=fn.ntmps)=ae then
     fC P { hi:=fH g,un:=1000000,gh:=iX g,bk:=fv g} ⟨l,sR P fH l mt iX fv n,mt,[]⟩ c 0 0 (f++yx (fn.ntmps - f.length) .ak) H λj a h=>match j with
      |.exit _=>ad
      |_=>kF P a h fn.results.toList λm _=>pZ h H.length m λr h=>wS [r] h λrs h=>match rs with
       |[r]=>K r h
       |_=>ad
     else ad
   |none=>ad
  |none=>ad
def sS(P:yg)(fv:yr->yL (Nat×Lp)):Prop:=∀g fn c,P.funcs[g]? =ab fn->fn.body=ab c->∀k b,(WJ c)[k]? =ab b->∀f,(k,f)∈fv g->f.Is P fn.ntmps b
theorem ZFw{fH:yr->HI}{l:yL (Fs P)}{mt:yL (yc×String×yr)}{iX:yr->yL (Nat×kD)}{fv:yr->yL (Nat×Lp)}(hl:dt l)(hm:gO P mt)(hb:sS P fv):∀(n:Nat),oh P (sR P fH l mt iX fv n)
 |0=>λ_ _ _ _ _ _ h=>by cases h
 |n+1=>λO g f H K out y=>by
  unfold sR at y;simp only[ZN8]at y;split at y
  .rename_i fn T;split at y
   .rename_i c A;obtain⟨U,y⟩:=Zb y;have U:=yF U
    have Y:(f++yx (fn.ntmps - f.length) TD.ak).length=fn.ntmps:=by
     rw[yl,yda];omega
    obtain⟨M,a,j,B,k2,Z⟩:=Vk (N:=fn.ntmps) (aF:=⟨l,sR P fH l mt iX fv n,mt,[]⟩) ⟨hl,ZFw hl hm hb n,hm,ao⟩ c _ _ _ _ _ Y (λk b W X h=>by cases h) (λk b W X h=>hb g fn c T A k b W X (by rw[<-yax k];exact h)) y
    have z:(M=.ret\/M=.normal)/\(kF P a j fn.results.toList λE _=>pZ j H.length E K)=ab out:=by
     cases M with
     |exit _=>cases B
     |normal=>exact⟨.inr rfl,B⟩
     |ret=>exact⟨.inl rfl,B⟩
    obtain⟨z,B⟩:=z;obtain⟨E,hs,C,m,g2,g3⟩:=sN _ _ B;unfold pZ at m;dsimp only at m;generalize IZ j H.length (jL E)=F at m;obtain⟨g5,m⟩:=Zb m;obtain⟨r,R,m⟩:=yf.1 m;obtain⟨S,Q,m⟩:=yf.1 m;refine⟨_,_,m, ?_⟩
    have G:fin P fn (TD.aE (lk j) a) (aG j) (aG H).length F hs=ab (C,r.er (lk S),aG S):=by
     unfold fin;have:=g3 [];rw[yba]at this;rw[this];dsimp only;rw[ZV,g5, <-pW,show aN (aG j) _ _=ab (aG S) from Vj (fY Q) Q]
     split at R
     .rename_i r0 I;have e4:=ic (fY Q) _ _ R;rw[e4]
     .rename_i I;have e4:=ic (fY Q) _ _ R;rw[pW,ZI,yaw]at e4
      rw[I,show(TD.aE (lk j) E).map Dv.arg=E.map (TD.er (lk j) ∘ TD.arg (lk j)) by
       rw[ZI,yaw];exact ycd λd _=>(IU d).symm,e4]
    have zB:XZ P c (TD.aE (lk H) f++yx (fn.ntmps - (TD.aE (lk H) f).length) .ak) (aG H) M (TD.aE (lk j) a) (aG j):=by
     have e5:TD.aE (lk H) (f++yx (fn.ntmps - f.length) TD.ak)=TD.aE (lk H) f++yx (fn.ntmps - (TD.aE (lk H) f).length) .ak:=by
      rw[CQ,ZI,ZI,yat,List.map_replicate];rfl
     rw[<-e5];exact Z
    exact ry T A zB z G g2
   .cases y
  .cases y
theorem ZLZ{fv:yr->yL (Nat×Lp)}(h:∀g,ol P (VF P g) (ZL P g) (fv g)):sS P fv:=λg fn c f j k b l A m=>by
 have:=IR (h g) m
 have y:ZL P g=c:=by
  unfold ZL;rw[f];dsimp only;rw[j];rfl
 have z:VF P g=fn.ntmps:=by
  unfold VF;rw[f]
 rw[y,z]at this;unfold QT at this;rw[l]at this;exact this
def Lp.fo(s:Lp):Lp:={ s with L:=λx=>Ty.eM s.I x λx=>(s.L x).bind λo=>oq s.xs o ab}
theorem Lp.sT{n:Nat}{c:Code}{s:Lp}(h:s.Is P n c):s.fo.Is P n c:=by
 have e:s.fo=s:=by
  unfold Lp.fo
  have:(λx=>Ty.eM s.I x λx=>(s.L x).bind λo=>oq s.xs o ab)=s.L:=by
   funext x;rw[Ty.bW]
   cases s.L x with
   |none=>rfl
   |some o=>exact IY _ _ _
  rw[this]
 rw[e];exact h
def JB(P:yg)(fH:yr->HI)(l:yL (Fs P))(mt:yL (yc×String×yr))(n:Nat)(g:yr)(iX:yr->yL (Nat×kD):=λ_=>[])(fv:yr->yL (Nat×Lp):=λ_=>[]):yO Bool:=
 sR P fH l mt iX fv n Bool g [] [] λr h=>match h with
  |[]=>r.boolT
  |_=>ad
theorem ZL0{fH:yr->HI}{l:yL (Fs P)}{mt:yL (yc×String×yr)}{iX:yr->yL (Nat×kD)}{fv:yr->yL (Nat×Lp)}{n:Nat}{g:yr}{b:Bool}(hl:dt l)(hm:gO P mt)(h:JB P fH l mt n g iX fv=ab b)(hb:sS P fv:=by intro _ _ _ _ _ _ _ _ _ h;cases h):bZ P g [] [] (.p (.bool b)) []:=by
 obtain⟨r,H',f,j⟩:=ZFw hl hm hb n _ _ _ _ _ _ h;split at f
 .rw[pC f]at j;exact j
 .cases f
theorem ZOa{fH:yr->HI}{l:yL (Fs P)}{mt:yL (yc×String×yr)}{iX:yr->yL (Nat×kD)}{fv:yr->yL (Nat×Lp)}{n:Nat}{g:yr}{b:Bool}(hl:dt l)(hm:gO P mt)(h:JB P fH l mt n g iX fv=ab b)(hb:sS P fv:=by intro _ _ _ _ _ _ _ _ _ h;cases h):
 Fs.Ok (⟨g,[],[],[],[⟨.ret,[(0,.v .bool)],[],[.bool]⟩],λ_=>ab b⟩:Fs P):=by
 intro x o f;cases f;refine⟨[],[],[],rfl,rfl,λe vs m hs j=> ?_⟩;obtain⟨rfl,rfl⟩:=hs;cases j;exact⟨_,rfl,ZL0 hl hm h hb⟩
end
theorem isN{P:yg}{n:Nat}{c:Code}(s:Nat->Lp)(h:(s yD).Is P n c):(s 18446744073709551616).Is P n c:=by
 rw[iI]at h;exact h
theorem jM{P:yg}(s:Nat->Fs P)(h:(s yD).Ok):(s 18446744073709551616).Ok:=by
 rw[iI]at h;exact h
theorem ZJt{P:yg}{g:yr}{args:yL Dv}{H H1 H2:yL aq}{r j:Dv}{keep:yL Nat}(h:bZ P g args H r H1)(ho:once (yn H.length++keep)=ae)
 (f:aN H1 (yn H.length++keep) (yn H.length++keep)=ab H2) (m:r.rn (bg (yn H.length++keep))=ab j):bZ P g args H j H2:=by
 intro J vs l e y;refine Calls.mono (h J vs l e y) ?_;rintro I M ⟨v,J',z,A,B,E,F,G⟩;subst B;subst e;exact⟨v,gr J' (yn J.H.length++keep) H2,z,A,rfl,pr l E ho f,pq F ho f,kZ (jC f) m G⟩
def wW(h:yL ai)(n0:Nat)(r:TD)(e:bX):yO (Ty.aK e.ty):=
 match e.sl with
 |[(0,rs)]=>(ZJo h rs e.es n0 r).bind λf=>
  if once (yn n0++f) then(r.rn (bg (yn n0++f))).bind λr=>
   (Vi h (yn n0++f) (yn n0++f)).bind λg=>(Sh.mt (lk g) rs r).bind λq=>(bC.eA (lk g) e.es g).bind λw=>jk e.ty (q.2++w.2)
  else ad
 |_=>ad
def sU(h:yL ai)(n0:Nat)(r:TD):(l:yL bX)->yO (bX.sum l)
 |[]=>ad
 |[e]=>wW h n0 r e
 |e::f::q=>match wW h n0 r e with
  |some x=>ab (Sum.inl x:Ty.aK e.ty⊕bX.sum (f::q))
  |none=>(sU h n0 r (f::q)).map λx=>(Sum.inr x:Ty.aK e.ty⊕bX.sum (f::q))
theorem ZsB{h:yL ai}{n0:Nat}{r:TD}:∀{l:yL bX}{o:bX.sum l},sU h n0 r l=ab o->∀e vs,mJ l o e vs->∃x,wW h n0 r e=ab x/\vs=dq e.ty x
 |[],_,k,_,_,_=>by cases k
 |[e],o,k,x,vs,hs=>by
  obtain⟨rfl,rfl⟩:=hs
  exact⟨o,k,rfl⟩
 |e::f::q,o,k,x,vs,hs=>by
  simp only[sU]at k;split at k
  .rename_i y g;cases k;obtain⟨rfl,rfl⟩:=hs;exact⟨y,g,rfl⟩
  .obtain⟨y,j,m⟩:=Ze k;subst m;exact ZsB j x vs hs
section
variable{P:yg}
def fnD(P:yg)(fi:FI)(aF:Sp P)(g:yr)(f:yL Sh)(es:yL bC)(ins:yL Ty)(xs:yL bX):Ty.aK ins->yO (bX.sum xs):=λx=>
 match P.funcs[g]? with
 |some fn=>match fn.body with
  |some c=>(Sh.fills f (dq ins x)).bind λq=>(bC.fills es q.2).bind λw=>if w.2.isEmpty then
    fC P fi aF c 0 0 (q.1++yx (fn.ntmps - q.1.length) .ak) w.1 λj a h=>match j with
     |.exit _=>ad
     |_=>kF P a h fn.results.toList λl _=>pZ h w.1.length l λr h=>wV P fi.hi.deep r h λr h=>sU h w.1.length r xs
    else ad
  |none=>ad
 |none=>ad
theorem ZL1{fi:FI}{aF:Sp P}{g:yr}{ps:yL Sh}{es:yL bC}{ins:yL Ty}{xs:yL bX}{M:Ty.aK ins->yO (bX.sum xs)}(ok:dU aF)(hl:lF P g (VF P g) fi.lp:=by exact True.intro)(hn:ps.length<=VF P g:=by decide+kernel)
 (h:∀x,fnD P fi aF g ps es ins xs x=M x:=by intro v;kernel_rfl) (hb:ol P (VF P g) (ZL P g) fi.bk:=by exact True.intro):Fs.Ok (⟨g,ps,es,ins,xs,M⟩:Fs P):=by
 intro x o j;have j:M x=ab o:=j;rw[<-h x]at j;have G:=ZFu hl;unfold fnD at j;split at j
 .rename_i fn hf;split at j
  .rename_i c I;obtain⟨q,h1,j⟩:=yf.1 j;obtain⟨w,h2,j⟩:=yf.1 j;obtain⟨h3,j⟩:=Zb j;have hN:VF P g=fn.ntmps:=by unfold VF;rw[hf]
   have hc:ZL P g=c:=by unfold ZL;rw[hf];dsimp only;rw[I];rfl
   rw[hc,hN]at G hb;have hb0:=IS hb;rw[hN]at hn
   have zW:(q.1++yx (fn.ntmps - q.1.length) TD.ak).length=fn.ntmps:=by
    rw[yl,yda,wt h1];omega
   obtain⟨Y,a,m,Q,k2,k3⟩:=Vk ok c _ _ _ _ _ zW G hb0 j
   have B:(Y=.ret\/Y=.normal)/\(kF P a m fn.results.toList λR _=>pZ m w.1.length R λr h=>wV P fi.hi.deep r h λr h=>sU h w.1.length r xs)=ab o:=by
    cases Y with
    |exit _=>cases Q
    |normal=>exact⟨.inr rfl,Q⟩
    |ret=>exact⟨.inl rfl,Q⟩
   obtain⟨B,Q⟩:=B;obtain⟨R,hs,C,A,g2,g3⟩:=sN _ _ Q;refine⟨q.1,q.2,w.1,h1, ?_,λe vs s' S l=> ?_⟩
   .rw[h2];have:w.2=[]:=by simpa using h3
    rw[<-this]
   unfold pZ at A;dsimp only at A;generalize IZ m w.1.length (jL R)=T at A;obtain⟨g5,A⟩:=Zb A;obtain⟨r,g6,A⟩:=yf.1 A;obtain⟨e2,Z,A⟩:=yf.1 A
   have zB:XZ P c (TD.aE (lk w.1) q.1++yx (fn.ntmps - (TD.aE (lk w.1) q.1).length) .ak) (aG w.1) Y (TD.aE (lk m) a) (aG m):=by
    have e5:TD.aE (lk w.1) (q.1++yx (fn.ntmps - q.1.length) TD.ak)=TD.aE (lk w.1) q.1++yx (fn.ntmps - (TD.aE (lk w.1) q.1).length) .ak:=by
     rw[CQ,ZI,ZI,yat,List.map_replicate];rfl
    rw[<-e5];exact k3
   have U:fin P fn (TD.aE (lk m) a) (aG m) (aG w.1).length T hs=ab (C,r.er (lk e2),aG e2):=by
    unfold fin;have:=g3 [];rw[yba]at this;rw[this];dsimp only;rw[ZV,g5, <-pW,show aN (aG m) _ _=ab (aG e2) from Vj (fY Z) Z]
    split at g6
    .rename_i r0 W;have e4:=ic (fY Z) _ _ g6;rw[e4]
    .rename_i W;have e4:=ic (fY Z) _ _ g6;rw[pW,ZI,yaw]at e4
     rw[W,show(TD.aE (lk m) R).map Dv.arg=R.map (TD.er (lk m) ∘ TD.arg (lk m)) by
      rw[ZI,yaw];exact ycd λd _=>(IU d).symm,e4]
   obtain⟨r',H',m1,m2⟩:=ZGW A (ry hf I zB B U g2);obtain⟨o1,f,hvs⟩:=ZsB m1 e vs S;unfold wW at f;split at f
   case h_2=>cases f
   rename_i rs hsl;obtain⟨E,n1,f⟩:=yf.1 f;obtain⟨n2,f⟩:=Zb f;obtain⟨r3,n3,f⟩:=yf.1 f;obtain⟨e3,n4,f⟩:=yf.1 f;obtain⟨z,g8,f⟩:=yf.1 f;obtain⟨y,g9,f⟩:=yf.1 f;obtain⟨b1,b2⟩:=pM g9;have X:∀id t,Yc (lk e3) id t ad=Yc (lk y.1) id t ad:=λid t=>by rw[b2]
   have eo:=lC _ _ _ f
   have F:s'=([z.1],y.1):=by
    rw[hvs,eo,hsl]at l;unfold QS at l;rw[show pO [(0,rs)] 1=[rs] from rfl]at l
    simp only[Sh.fills,mI _ _ _ g8,ya,yae]at l;have:=pL g9 [];rw[yba]at this;rw[this]at l;exact(Option.some.inj l).symm
   subst F;refine⟨z.1,rfl, ?_⟩
   have hk:bZ P g (TD.aE (lk w.1) q.1) (aG w.1) (r3.er (lk e3)) (aG e3):=by
    refine ZJt (keep:=E) m2 (by rw[ZV];exact n2) ?_ ?_
    .rw[ZV];exact Vj (fY n4) n4
    .rw[ZV];exact ic (fY n4) _ _ n3
   exact rz hk (lB X _ _ _ g8) (pN X g9)
  .cases j
 .cases j
end
end Go.Ev
end
section
namespace Go.Ev
open Go.RowKit Go.WideShapes Go.ChangeShapes
def YE(P:yg):Nat->yc->Bool
 |0,_=>af
 |n+1,t=>match P.underlying t with
  |some .bool=>ae
  |some (.int _)=>ae
  |some .string=>ae
  |some (.slice e)=>YE P n e&&ag (0 < P.cellsOf e)
  |some (.array m e)=>YE P n e&&P.cellsOf t==m*P.cellsOf e
  |some (.struct g)=>(g.toList.all λf=>YE P n f.type)&&P.cellsOf t==(g.toList.map λf=>P.cellsOf f.type).sum&&
    ((yn g.toList.length).all λj=>match g.toList[j]? with|some f=>f.offset==((g.toList.take j).map λf=>P.cellsOf f.type).sum|none=>ae)
  |_=>af
theorem ZzT(P:yg):Kids P (λt=>∃n,YE P n t=ae) where
 pointer:=by
  rintro t e ⟨n,h⟩ hu
  cases n with
  |zero=>simp[YE]at h
  |succ n=>simp[YE,hu]at h
 slice:=by
  rintro t e ⟨n,h⟩ hu
  cases n with
  |zero=>simp[YE]at h
  |succ n=>simp[YE,hu]at h;exact⟨n,h.1⟩
 array:=by
  rintro t e m ⟨n,h⟩ hu
  cases n with
  |zero=>simp[YE]at h
  |succ n=>simp[YE,hu]at h;exact⟨⟨n,h.1⟩,h.2⟩
 struct:=by
  rintro t fs ⟨n,h⟩ hu
  cases n with
  |zero=>simp[YE]at h
  |succ n=>
   simp only[YE,hu,yi,yT,yan]at h;obtain⟨⟨h1,h2⟩,h3⟩:=h;refine⟨λf hf=>⟨n,h1 f hf⟩,h2,λj f hf=> ?_⟩;have hj:j < fs.toList.length:=(yu.1 hf).1;have:=h3 j (by simpa using hj);rw[hf]at this;simpa using this
 map:=by
  rintro t k e ⟨n,h⟩ hu
  cases n with
  |zero=>simp[YE]at h
  |succ n=>simp[YE,hu]at h
def wX(R:yc->Pl->Prop):yL Field->yL Pl->Prop
 |[],[]=>True
 |f::g,y::h=>R f.type y/\wX R g h
 |_,_=>False
def dJ(P:yg):Nat->yc->Pl->Prop
 |0,_,_=>False
 |n+1,t,x=>match P.underlying t,x with
  |some .bool,.bool _=>True
  |some (.int k),.int g m=>g=k/\(Lit.int k m).wf=ae
  |some .string,.str s=>s.size<=maxLen
  |some (.slice e),.sl h s f=>s=P.cellsOf e/\h=ad/\f.length<=maxLen/\∀y,y∈f->dJ P n e y
  |some (.array m e),.arr j s f=>j=m/\s=P.cellsOf e/\f.length=m/\∀y,y∈f->dJ P n e y
  |some (.struct l),.agg f=>wX (dJ P n) l.toList f
  |_,_=>False
def lG:Nat->Nat->Prop:=λ_ _=>True
section
variable{H:Type}{enc:yc×yh->H}{P:yg}{w:yy}{base:Nat}{sp:Nat->Bool}{held:Bool}
theorem ZGY:∀{s:Nat}{a:Addr}{cs:yL yh},w.cells? base a s=ab cs->cs.length=s/\∀j u,cs[j]? =ab u->w.cell? (a.add j)=ab u:=by
 intro s a cs h;unfold World.cells? at h;split at h
 .have f:cs.length=s:=by simpa using mapM_some_length h
  refine⟨f,λj u g=> ?_⟩;have l:j < s:=by rw[<-f];exact(yu.1 g).1
  have:=mapM_some_get h j j (by simp[l]);grind
 .cases h
theorem ZFy{e:yc}{n m:Nat}{a:Addr}{s:Nat}(hs:0 < s){f:yL (DataW H×yL MemPlace)}{len:Nat}(zW:f.length=len)
 (A:∀(cs:yL yh)(x:DataW H×yL MemPlace),DataW.trod enc P w base sp held m e cs=ab x->cs.length=s->∃g,dJ P n e g/\aA w lG g cs)
 (h:∀i,i < len->(w.cells? base (a.add (i*s)) s).bind (DataW.trod enc P w base sp held m e)=f[i]?):
 ∀k,k<=len->∃(xs:yL Pl)(us:yL yh),xs.length=k/\(∀y,y∈xs->dJ P n e y)/\bc s xs/\us.length=k*s/\au w lG xs us/\(∀j u,us[j]? =ab u->w.cell? (a.add j)=ab u)
 |0,_=>⟨[],[],rfl,(λy hy=>by cases hy),(λy hy=>by cases hy),by simp,by simp[au],by simp⟩
 |k+1,U=>by
  obtain⟨xs,us,F,W,G,I,M,X⟩:=ZFy hs zW A h k (by omega);have l:=h k (by omega);rw[yad (by omega)]at l;obtain⟨cs,Q,R⟩:=yf.1 l;obtain⟨z,S⟩:=ZGY Q;obtain⟨g,Y,B⟩:=A cs _ R z;have T:g.size=s:=by rw[<-WV _ _ B,z]
  refine⟨xs++[g],us++cs,by simp[F],λy hy=> ?_,λy hy=> ?_,by simp[I,z,ybc],Ym M (by simpa[au] using B),λj u E=> ?_⟩
  .all_goals grind
  .rcases List.mem_append.1 hy with hy|hy
   .exact G y hy
   grind
  .by_cases Z:j < us.length
   .grind
   .rw[yas (by omega)]at E;have:=S _ _ E;rw[Addr.add_add]at this;grind
theorem ZB5{e:yc}{n m:Nat}{s:Nat}{cs:yL yh}{f:yL (DataW H×yL MemPlace)}{len:Nat}(zW:f.length=len)(hcs:cs.length=len*s)
 (l:∀(cs:yL yh)(x:DataW H×yL MemPlace),DataW.trod enc P w base sp held m e cs=ab x->cs.length=s->∃g,dJ P n e g/\aA w lG g cs)
 (h:∀i,i < len->DataW.trod enc P w base sp held m e ((cs.drop (i*s)).take s)=f[i]?):
 ∀k,k<=len->∃(xs:yL Pl),xs.length=k/\(∀y,y∈xs->dJ P n e y)/\bc s xs/\au w lG xs (cs.take (k*s))
 |0,_=>⟨[],rfl,(λy hy=>by cases hy),(λy hy=>by cases hy),by simp[au]⟩
 |k+1,B=>by
  obtain⟨xs,E,Q,F,G⟩:=ZB5 zW hcs l h k (by omega);have j:=h k (by omega);rw[yad (by omega)]at j;have I:k*s+s<=len*s:=by rw[<-Nat.succ_mul];exact ycb _ B
  have z:((cs.drop (k*s)).take s).length=s:=by simp;omega
  obtain⟨g,R,A⟩:=l _ _ j z;have M:g.size=s:=by rw[<-WV _ _ A,z]
  refine⟨xs++[g],by simp[E],λy hy=> ?_,λy hy=> ?_, ?_⟩
  .all_goals grind
  .rcases List.mem_append.1 hy with hy|hy
   .exact F y hy
   grind
  .rw[ybc,Nat.one_mul,List.take_add];exact Ym G (by simpa[au] using A)
theorem Zx7{n m:Nat}{cs:yL yh}
 (E:∀(t:yc),YE P n t=ae->∀(cs:yL yh)(x:DataW H×yL MemPlace),DataW.trod enc P w base sp held m t cs=ab x->∃A,dJ P n t A/\aA w lG A cs):
 ∀(l:yL Field)(o:Nat),(∀f,f∈l->YE P n f.type=ae)->(∀(j:Nat)f,l[j]? =ab f->f.offset=o+((l.take j).map λf=>P.cellsOf f.type).sum)->
  cs.length=o+(l.map λf=>P.cellsOf f.type).sum->(∀(j:Nat)f,l[j]? =ab f->∃x,DataW.trod enc P w base sp held m f.type ((cs.drop f.offset).take (P.cellsOf f.type))=ab x)->
  ∃(xs:yL Pl),wX (dJ P n) l xs/\au w lG xs (cs.drop o)
 |[],o,_,_,B,_=>⟨[],zP,by simp only[au];apply List.drop_eq_nil_of_le;simp at B;omega⟩
 |f::l,o,F,G,B,h=>by
  obtain⟨x,I⟩:=h 0 f rfl;have y:=G 0 f rfl;simp at y;rw[y]at I;obtain⟨A,M,Q⟩:=E f.type (F f (yay ..)) _ _ I;simp only[yag,List.sum_cons]at B
  obtain⟨xs,R,S⟩:=Zx7 E l (o+P.cellsOf f.type) (λg z=>F g (yaz _ z)) (λj g z=>by
   have:=G (j+1) g z;simp only[List.take_succ_cons,yag,List.sum_cons]at this;omega) (by omega) (λj g z=>h (j+1) g z)
  refine⟨A::xs,⟨M,R⟩, ?_⟩;simp only[au];refine⟨(cs.drop o).take (P.cellsOf f.type),(cs.drop o).drop (P.cellsOf f.type),(List.take_append_drop ..).symm,Q, ?_⟩;simp_all
theorem ZL3:∀(n m:Nat)(t:yc),YE P n t=ae->∀(cs:yL yh)(x:DataW H×yL MemPlace),DataW.trod enc P w base sp held m t cs=ab x->∃pl,dJ P n t pl/\aA w lG pl cs:=by
 intro n
 induction n with
 |zero=>intro m t h;simp[YE]at h
 |succ n ih=>
  intro m t l cs x h;unfold YE at l;split at l
  .rename_i g;obtain⟨b,rfl,_⟩:=DataW.trod_bool g h;exact⟨.bool b,by simp[dJ,g],by simp[aA]⟩
  .rename_i k g;obtain⟨z,rfl,rfl,hw⟩:=DataW.trod_int g h;exact⟨.int k z,by simp[dJ,g,hw],by simp[aA]⟩
  .rename_i g;obtain⟨s,rfl,M⟩:=DataW.trod_string g h;exact⟨.str s,by simp[dJ,g];exact M.2,by simp[aA]⟩
  .rename_i e g;simp only[yi,yP]at l;rcases DataW.trod_slice g h with⟨rfl,rfl⟩|⟨a,len,cap,A,yK,I,rfl,rfl,rfl,_,hle,Q,R,B,_⟩
   .exact⟨.sl ad (P.cellsOf e) [],by simp[dJ,g],by simp only[aA];exact⟨(λy hy=>by cases hy),ad,0,rfl,ym _,Nat.zero_le _,Yk _,λ_=>rfl,λh=>absurd rfl h⟩⟩
   .obtain⟨S,us,T,M,h3,Y,h5,h6⟩:=ZFy (n:=n) l.2 R (λcs x U _=>ih I e l.1 cs x U) B len (ym _);refine⟨.sl ad (P.cellsOf e) S,by simp only[dJ,g];exact⟨zP,zP,by omega,M⟩, ?_⟩;simp only[aA];refine⟨h3,ab a,cap,by rw[T],by omega,Q,Yk _,by simp,λhne=> ?_⟩
    have W:0 < us.length:=by
     rw[Y];have:0 < len:=by rw[<-T];exact List.length_pos_iff.2 hne
     simp_all
    have E:=h6 0 us[0] (yad W);obtain⟨b,o,F⟩:=a
    have G:F=ad:=by
     cases F with
     |none=>rfl
     |some z=>
      exfalso;unfold World.cell? at E;split at E
      .simp[Addr.add]at E
      .cases E
    subst G;exact⟨b,o,us,rfl,h5,λj u g=>⟨by have:=h6 j u g;rwa [Addr.add_lit]at this,ao⟩⟩
  .rename_i k e g;simp only[yi,yT]at l;obtain⟨A,I,rfl,rfl,Z,R,B⟩:=DataW.trod_array g h;obtain⟨S,T,M,h3,Y⟩:=ZB5 (n:=n) (s:=P.cellsOf e) R (by rw[Z,l.2]) (λcs x U _=>ih I e l.1 cs x U) B k (ym _);rw[List.take_of_length_le (by rw[Z,l.2];exact ym _)]at Y;exact⟨.arr k (P.cellsOf e) S,by simp only[dJ,g];exact⟨zP,zP,T,M⟩,by simp only[aA];exact⟨T,h3,Y⟩⟩
  .rename_i fs g;simp only[yi,yT,yan]at l;obtain⟨⟨t1,t2⟩,t3⟩:=l;obtain⟨A,I,rfl,rfl,Z,R,B⟩:=DataW.trod_struct g h
   obtain⟨S,q1,q2⟩:=Zx7 (n:=n) (m:=I) (cs:=cs) (λt l cs x U=>ih I t l cs x U) fs.toList 0 t1 (λj f X=>by
    have hj:j < fs.toList.length:=(yu.1 X).1;have:=t3 j (by simpa using hj);rw[X]at this;simpa using this) (by rw[Z,t2];omega) (λj f X=>by
    have hj:j < fs.toList.length:=(yu.1 X).1;have:=B j f (by simpa using X);rw[yad (by rw[R];simpa using hj)]at this;exact⟨_,this⟩)
   exact⟨.agg S,by simp only[dJ,g];exact q1,by simp only[aA];simpa using q2⟩
  .cases l
end
end Go.Ev
namespace Go.Ev
open Go.RowKit Go.WideShapes Go.ChangeShapes
def wY(P:yg)(n:Nat):yL yc->yL Pl->Prop
 |[],[]=>True
 |t::ts,x::f=>dJ P n t x/\wY P n ts f
 |_,_=>False
section
variable{H:Type}{enc:yc×yh->H}{P:yg}
def ii(W:yy):Sg:={ F:=lG,B:=λb=>W.heap.size<=b,m:=[],H:=[],w:=W}
theorem ZOb(W:yy):Ok (ii W) where
 len:=rfl
 inj i j b h:=by simp[ii]at h
 lt i b h:=by simp[ii]at h
 dx i e a h:=by simp[ii]at h
 new b h:=h
 own i b h:=by simp[ii]at h
theorem ZJu(W:yy)(b o:Nat):(ii W).bh b o:=⟨.inl trivial,λid e h=>by simp[ii]at h⟩
theorem Zve{W:yy}{x:Pl}{v:yh}{cs:yL yh}(j:aA W lG x cs)(hc:v.cells.toList=cs)(hv:x.isAgg=ae->∃a,v=.agg a)(l:x.isAgg=af->cs=[v]):yJ (ii W) (.p x) v:=by
 have g:aA W (ii W).bh x cs:=lW (λb o u h _=>⟨h,ZJu W b o⟩) x cs j;refine⟨λf=> ?_,λf=> ?_⟩
 .obtain⟨a,rfl⟩:=hv f;refine⟨a,rfl, ?_⟩;simp only[yH];have:a.toList=cs:=by rw[<-hc];rfl
  rw[this];exact g
 .simp only[yH];have e:=l f;rw[<-e];exact g
theorem ZOc:∀{n:Nat}{t:yc}{x:Pl},dJ P n t x->x.isAgg=X0 P t
 |0,_,_,h=>by simp[dJ]at h
 |n+1,t,x,h=>by
  unfold dJ at h;split at h <;> rename_i f <;> first|(simp[Pl.isAgg,X0,f];done)|exact h.elim
theorem ZFz{W:yy}{n:Nat}(f:∀(t:yc)(v:yh),X0 P t=ae->Value.okWide P W .any 0 t v->∃a,v=.agg a):
 ∀(ts:yL yc)(vs:yL yh)(g:yL (DataW H))(y:yL MemPlace),(∀t,t∈ts->YE P n t=ae)->(∀(j:Nat)t v,ts[j]? =ab t->vs[j]? =ab v->(X0 P t=ae->∃a,v=.agg a)/\(X0 P t=af->v.cells.toList=[v]))->
  DataW.TrodAll enc P W 0 (λ_=>ae) ae ts vs g y->∃xs,wY P n ts xs/\aH (ii W) (xs.map .p) vs
 |[],[],[],_,_,_,_=>⟨[],zP,by simp[aH]⟩
 |[],_::_,_,_,_,_,h=>by simp[DataW.TrodAll]at h
 |[],[],_::_,_,_,_,h=>by simp[DataW.TrodAll]at h
 |_::_,[],_,_,_,_,h=>by simp[DataW.TrodAll]at h
 |_::_,_::_,[],_,_,_,h=>by simp[DataW.TrodAll]at h
 |t::ts,v::vs,d::g,y,z,A,h=>by
  obtain⟨p,q,⟨yD,F⟩,G,rfl⟩:=h;obtain⟨x,B,I⟩:=ZL3 n yD t (z t (yay ..)) _ _ F;obtain⟨xs,l,m⟩:=ZFz f ts vs g q (λu M=>z u (yaz _ M)) (λj u Q R S=>A (j+1) u Q R S) G;obtain⟨T,U⟩:=A 0 t v rfl rfl;refine⟨x::xs,⟨B,l⟩, ?_⟩;simp only[yag,aH];have E:=ZOc B;exact⟨v,vs,rfl,Zve I rfl (λe=>T (by rw[<-E];exact e)) (λe=>U (by rw[<-E];exact e)),m⟩
theorem Zoh{W W':yy}{g:Nat->Bool}{n:Nat}:∀(ts:yL yc)(vs:yL yh)(l:yL (DataW H))(j:yL MemPlace),(∀t,t∈ts->YE P n t=ae)->
 DataW.TrodAll enc P W 0 (λ_=>ae) ae ts vs l j->(∀p∈j,W.sameAt W' p)->(∀p∈j,g p.block=ae)->DataW.TrodAll enc P W' 0 g ae ts vs l j
 |[],[],[],_,_,h,_,_=>h
 |[],_::_,_,_,_,h,_,_=>by simp[DataW.TrodAll]at h
 |[],[],_::_,_,_,h,_,_=>by simp[DataW.TrodAll]at h
 |_::_,[],_,_,_,h,_,_=>by simp[DataW.TrodAll]at h
 |_::_,_::_,[],_,_,h,_,_=>by simp[DataW.TrodAll]at h
 |t::ts,v::vs,d::l,j,A,h,hs,B=>by
  obtain⟨p,q,⟨yD,E⟩,F,rfl⟩:=h;refine⟨p,q,⟨yD, ?_⟩,Zoh ts vs l q (λu m=>A u (yaz _ m)) F (λz f=>hs z (List.mem_append_right _ f)) (λz f=>B z (List.mem_append_right _ f)),rfl⟩
  exact DataW.trod_stays (ZzT P) (λ{t e}⟨n,y⟩m=>by
   cases n with
   |zero=>simp[YE]at y
   |succ n=>simp[YE,m]at y;exact y.2) (by simp) ⟨n,A t (yay ..)⟩ E (λz f=>hs z (List.mem_append_left _ f)) (λz f=>B z (List.mem_append_left _ f))
theorem ZB6{W:yy}{J':Sg}(h:To (ii W) J'):Below W.heap.size W J'.w:=
 ⟨h.os,h.tape,h.output,h.size,λb f=>h.block b f (λid=>by simp[ii])⟩
theorem Zvf{f:Func}{s:ChangeSpec}{h fresh handsOn z:Bool}{W W':yy}{args:Array yh}{v:yh}{B gs:yL (DataW H)}{g pa pv:yL MemPlace}
 (G:DataW.Whole enc P f.params.toList s.vars h W args.toList B gs g)
 (m:∀(b:Nat)(sp:Nat->Bool)(hd:Bool),DataW.TrodAll enc P W' b sp hd f.resultTypes.toList (v.resultList f.resultTypes.size) (s.fn H (B++gs)).results [])
 (M:∀sp:Nat->Bool,(∀p∈g,sp p.block=ae)->DataW.TrodAll enc P W' 0 sp ae f.params.toList args.toList (s.fn H (B++gs)).args pa)
 (l:∀sp:Nat->Bool,(∀p∈g,sp p.block=ae)->DataW.TrodVars enc P W' sp s.vars (s.fn H (B++gs)).vars pv)
 (hps:g=pa++pv) (hb:Below W.heap.size W W')
 (I:∀(j:Nat)(t:yc)(r:yh),f.resultTypes[j]? =ab t->(v.resultList f.resultTypes.size)[j]? =ab r->Value.okWide P W' .any 0 t r):
 s.post enc P f h fresh handsOn z W args v W':=by
 have E:∀p∈g,p.block < W.heap.size:=λp A=>G.lt p A;have y:∀p∈g,(λb=>ag (b < W.heap.size)) p.block=ae:=λp A=>by simpa using E p A
 refine⟨B,gs,g,[],pa,pv,G,m _ _ _,M _ y,l _ y,World.keptBut_mono (λp A=>⟨A, ?_⟩) (hb.frame (· ∈g)),λ_=> ?_⟩
 .grind
 .obtain⟨_,_,_,_,_,Q,R⟩:=G;refine⟨I,_,_,([]++pa)++pv,⟨[]++pa,pv,trodAll_append (M _ (λ_ _=>rfl)) (m _ _ _),l _ (λ_ _=>rfl),rfl, ?_, ?_⟩, ?_⟩
  .intro b off A;have F:MemPlace.cell b off∈g:=by rw[hps];simpa using A
   rw[hb.frozen (E _ F)];exact Q b off F
  all_goals grind
theorem ZzV{f:yr}{fn:Func}{s:ChangeSpec}{n:Nat}{tb:yc}(hr:fn.resultTypes= #[tb])(ht:P.underlying tb=ab .bool)(hv:s.vars=[])
 (hs:∀F:yL (DataW H),F.length=fn.params.toList.length->s.fn H F={ results:=[.lit (.bool ae)],args:=F}) (hp:∀t,t∈fn.params.toList->YE P n t=ae)
 (W:yy) (base:Nat) (args:Array yh) (F gs:yL (DataW H)) (E:yL MemPlace)
 (S:∀(j:Nat)t v,fn.params[j]? =ab t->args[j]? =ab v->Value.okWide P W .any base t v) (hW:DataW.Whole enc P fn.params.toList s.vars af W args.toList F gs E)
 (hc:∀xs:yL Pl,wY P n fn.params.toList xs->aH (ii W) (xs.map .p) args.toList->bZ P f (xs.map .p) [] (.p (.bool ae)) []):
 Calls P f args W λe W'=>∃v,e=.returned v/\s.post enc P fn af ae af af W args v W':=by
 have G:=hW;obtain⟨p,q,X,Y,rfl,hfz,hnd⟩:=hW;rw[hv]at Y
 obtain⟨rfl,rfl⟩:gs=[]/\q=[]:=by
  cases gs with
  |nil=>exact⟨rfl,Y⟩
  |cons g r=>simp[DataW.TrodVars]at Y
 have zW:=trodAll_length X
 obtain⟨xs,x1,x2⟩:=ZFz (enc:=enc) (P:=P) (W:=W) (n:=n) (λt v y l=>by
  unfold Value.okWide at l;unfold X0 at y;split at l
  .obtain⟨I,rfl,_⟩:=l;exact⟨I,rfl⟩
  .obtain⟨I,rfl,_⟩:=l;exact⟨I,rfl⟩
  .rename_i Z h2;split at y
   .rename_i fs B;exact absurd B (Z fs)
   .rename_i k e B;exact absurd B (h2 k e)
   .cases y) fn.params.toList args.toList F p hp (λj t v M hvv=>by
  have l:=S j t v (by simpa using M) (by simpa using hvv);refine⟨λy=> ?_,λy=> ?_⟩
  .unfold Value.okWide at l;unfold X0 at y;split at l
   .obtain⟨I,rfl,_⟩:=l;exact⟨I,rfl⟩
   .obtain⟨I,rfl,_⟩:=l;exact⟨I,rfl⟩
   .rename_i Z h2;split at y
    .rename_i fs B;exact absurd B (Z fs)
    .rename_i k e B;exact absurd B (h2 k e)
    .cases y
  .obtain⟨m,hm⟩:∃m,YE P (m+1) t=ae:=by
    have:=hp t (ybs M)
    cases n with
    |zero=>simp[YE]at this
    |succ n=>exact⟨n,this⟩
   unfold Value.okWide at l;unfold YE at hm;unfold X0 at y;split at hm <;> rename_i B <;> simp only[B]at l y
   all_goals first
    |(cases y;done)
    |(cases hm;done)
    |(unfold Cell.okWide Cell.ok at l;simp only[B]at l;cases v <;> first|rfl|(simp at l;done))) X
 have A:=hc xs x1 x2 (ii W) args.toList (ZOb W) rfl x2;rw[Array.toArray_toList]at A;refine Calls.mono A ?_;rintro e W' ⟨v,J',rfl,rfl,hH,hto,l,yM⟩;have hbv:v=.bool ae:=by simpa[yJ,Dv.isAgg,Pl.isAgg,yH,aA] using yM
 subst hbv;have hb:=ZB6 hto;simp only[yba]at G;have hlt:=G.lt
 have Q:∀z∈p,W.sameAt J'.w z:=by
  intro z hz;have T:=hlt z hz
  cases z with
  |cell b o=>exact hb.cell (p:=⟨b,o,ad⟩) T
  |map b=>exact hb.block b T
 have R:=hs F zW.2;refine⟨_,rfl,Zvf (pa:=p) (pv:=[]) G (λb sp hd=> ?_) (λsp h=> ?_) (λsp h=> ?_) (by simp) hb ?_⟩
 .rw[yba,R,hr];exact trodAll_cons_mk (shut_bool ht _) trodAll_mk0
 .rw[yba,R];exact Zoh fn.params.toList args.toList F p hp X Q h
 .rw[yba,R,hv];rfl
 .intro j t r M U;rw[hr]at M U
  cases j with
  |zero=>
   simp at M;subst M;have:r=.bool ae:=by simpa[Value.resultList] using U.symm
   subst this
   exact okWide_bool_mk ht _
  |succ j=>simp at M
end
end Go.Ev
namespace Go.Ev
end Go.Ev
end
section
namespace Go.Ev
mutual
def Ty.Wf:(t:Ty)->t.aT->Prop
 |.int k,n=>(Lit.int k n).wf=ae
 |.u8,_=>True
 |.u32,_=>True
 |.u64,_=>True
 |.bool,_=>True
 |.str,s=>s.size<=maxLen
 |.sl t,l=>List.length l<=maxLen/\∀x,List.Mem x l->Ty.Wf t x
 |.arr n t,l=>List.length l=n/\∀x,List.Mem x l->Ty.Wf t x
 |.st f,x=>Ty.sV f x
def Ty.sV:(f:yL Ty)->Ty.aK f->Prop
 |[],_=>True
 |[t],x=>Ty.Wf t x
 |t::u::r,x=>Ty.Wf t x.1/\Ty.sV (u::r) x.2
end
mutual
def ot(P:yg):Nat->yc->Ty->Bool
 |0,_,_=>af
 |n+1,t,T=>match P.underlying t,T with
  |some (.int .u8),.u8=>ae
  |some (.int .u32),.u32=>ae
  |some (.int .u64),.u64=>ae
  |some (.int k),.int f=>ag (k=f)
  |some .bool,.bool=>ae
  |some .string,.str=>ae
  |some (.slice e),.sl T'=>P.cellsOf e==T'.size&&ot P n e T'
  |some (.array m e),.arr g T'=>m==g&&(P.cellsOf e==T'.size&&ot P n e T')
  |some (.struct h),.st Ts=>eN P n h.toList Ts
  |_,_=>af
def eN(P:yg):Nat->yL Field->yL Ty->Bool
 |0,_,_=>af
 |_+1,[],[]=>ae
 |n+1,f::g,T::Ts=>ot P n f.type T&&eN P n g Ts
 |_+1,_,_=>af
end
theorem ZPp{m:Int}(h:(Lit.int .u8 m).wf=ae):∃b:yB,m=(b.toNat:Int):=by
 simp only[Lit.wf,yi,yP]at h;have f:(0:Int)<=m:=h.1;have g:m<=255:=h.2;refine⟨UInt8.ofNat m.toNat, ?_⟩;have:(UInt8.ofNat m.toNat).toNat=m.toNat:=by simp;omega
 rw[this];omega
theorem ZOd{m:Int}(h:(Lit.int .u32 m).wf=ae):∃b:yV,m=(b.toNat:Int):=by
 simp only[Lit.wf,yi,yP]at h;have f:(0:Int)<=m:=h.1;have g:m<=4294967295:=h.2;refine⟨ybn m.toNat, ?_⟩;have:(ybn m.toNat).toNat=m.toNat:=by simp;omega
 rw[this];omega
theorem ZOe{m:Int}(h:(Lit.int .u64 m).wf=ae):∃b:yU,m=(b.toNat:Int):=by
 simp only[Lit.wf,yi,yP]at h;have f:(0:Int)<=m:=h.1;have g:m<=18446744073709551615:=h.2;refine⟨yao m.toNat, ?_⟩;have:(yao m.toNat).toNat=m.toNat:=by simp;omega
 rw[this];omega
theorem JC{α β:Type}{f:α->β}{R:α->Prop}:∀{ys:yL β},(∀y,y∈ys->∃x,y=f x/\R x)->∃l:yL α,ys=l.map f/\∀x,List.Mem x l->R x
 |[],_=>⟨[],rfl,λx j=>by cases j⟩
 |y::ys,h=>by
  obtain⟨x,rfl,j⟩:=h y (yay ..);obtain⟨l,rfl,m⟩:=JC (λz g=>h z (yaz _ g))
  exact⟨x::l,rfl,λz g=>by
   cases g with
   |head=>exact j
   |tail _ g=>exact m z g⟩
mutual
theorem qa{P:yg}:∀(m n:Nat)(t:yc)(T:Ty)(x:Pl),ot P m t T=ae->dJ P n t x->∃v:T.aT,T.Wf v/\x=T.enc v
 |0,_,_,_,_,h,_=>by simp[ot]at h
 |_+1,0,_,_,_,_,h=>by simp[dJ]at h
 |m+1,n+1,t,T,x,h,f=>by
  unfold ot at h;split at h
  .rename_i g;unfold dJ at f;rw[g]at f;cases x <;> try exact f.elim
   obtain⟨rfl,j⟩:=f;obtain⟨b,rfl⟩:=ZPp j;exact⟨b,zP,rfl⟩
  .rename_i g;unfold dJ at f;rw[g]at f;cases x <;> try exact f.elim
   obtain⟨rfl,j⟩:=f;obtain⟨b,rfl⟩:=ZOd j;exact⟨b,zP,rfl⟩
  .rename_i g;unfold dJ at f;rw[g]at f;cases x <;> try exact f.elim
   obtain⟨rfl,j⟩:=f;obtain⟨b,rfl⟩:=ZOe j;exact⟨b,zP,rfl⟩
  .rename_i k M g;have h:=yF h;subst h;unfold dJ at f;rw[g]at f;cases x <;> try exact f.elim
   obtain⟨rfl,j⟩:=f;exact⟨_,j,rfl⟩
  .rename_i g;unfold dJ at f;rw[g]at f;cases x <;> try exact f.elim
   exact⟨_,zP,rfl⟩
  .rename_i g;unfold dJ at f;rw[g]at f;cases x <;> try exact f.elim
   exact⟨_,f,rfl⟩
  .rename_i e T' g;simp only[yi,yT]at h;unfold dJ at f;rw[g]at f;cases x <;> try exact f.elim
   obtain⟨rfl,rfl,z,A⟩:=f
   obtain⟨l,rfl,B⟩:=JC λy E=>(by
    obtain⟨v,a,b⟩:=qa m n e T' y h.2 (A y E);exact⟨v,b,a⟩:∃v:T'.aT,y=T'.enc v/\T'.Wf v)
   refine⟨l,⟨by simpa using z,B⟩, ?_⟩;rw[h.1];rfl
  .rename_i Q e R T' g;simp only[yi,yT]at h;obtain⟨rfl,h⟩:=h;unfold dJ at f;rw[g]at f;cases x <;> try exact f.elim
   obtain⟨rfl,rfl,z,A⟩:=f
   obtain⟨l,rfl,B⟩:=JC λy E=>(by
    obtain⟨v,a,b⟩:=qa m n e T' y h.2 (A y E);exact⟨v,b,a⟩:∃v:T'.aT,y=T'.enc v/\T'.Wf v)
   refine⟨l,⟨by simpa using z,B⟩, ?_⟩;rw[h.1];rfl
  .rename_i F Ts g;unfold dJ at f;rw[g]at f;cases x <;> try exact f.elim
   rename_i G;obtain⟨v,I,rfl⟩:=jN m n F.toList Ts G h f;exact⟨v,I,rfl⟩
  .cases h
theorem jN{P:yg}:∀(m n:Nat)(j:yL Field)(Ts:yL Ty)(xs:yL Pl),eN P m j Ts=ae->wX (dJ P n) j xs->∃v:Ty.aK Ts,Ty.sV Ts v/\xs=Ty.encs Ts v
 |0,_,_,_,_,h,_=>by simp[eN]at h
 |m+1,n,[],[],[],h,g=>⟨(),zP,rfl⟩
 |m+1,n,[],[],_::_,h,g=>g.elim
 |m+1,n,[],_::_,_,h,g=>by cases h
 |m+1,n,_::_,[],_,h,g=>by cases h
 |m+1,n,_::_,_::_,[],h,g=>g.elim
 |m+1,n,f::j,[T],x::xs,h,g=>by
  simp only[eN,yi]at h;obtain⟨v,l,rfl⟩:=qa m n f.type T x h.1 g.1
  cases j with
  |nil=>cases xs with
   |nil=>exact⟨v,l,rfl⟩
   |cons _ _=>exact g.2.elim
  |cons _ _=>
   cases m with
   |zero=>exact absurd h.2 (by simp[eN])
   |succ m=>exact absurd h.2 (by simp[eN])
 |m+1,n,f::j,T::U::Ts,x::xs,h,g=>by
  simp only[eN,yi]at h;obtain⟨v,l,rfl⟩:=qa m n f.type T x h.1 g.1;obtain⟨w,y,rfl⟩:=jN m n j (U::Ts) xs h.2 g.2;exact⟨(v,w),⟨l,y⟩,rfl⟩
end
theorem Zx9{I X:Type}{step:I->yO (I⊕X)}(Inv:I->Prop)(f:I->Nat)(Post:X->Prop)
 (h:∀i,Inv i->(∃j,step i=ab (.inl j)/\Inv j/\f j < f i)\/(∃x,step i=ab (.inr x)/\Post x)):∀(n:Nat)(i:I),Inv i->f i < n->∃x,Zd step n i=ab x/\Post x
 |0,i,_,m=>by omega
 |n+1,i,y,m=>by
  unfold Zd;rcases h i y with⟨j,g,l,z⟩|⟨x,g,l⟩
  .rw[g,ya];exact Zx9 Inv f Post h n j l (by omega)
  .rw[g,ya];exact⟨x,rfl,l⟩
theorem VX{I X:Type}{step:I->yO (I⊕X)}(Inv:I->Prop)(f:I->Nat)(Post:X->Prop)
 (h:∀i,Inv i->(∃j,step i=ab (.inl j)/\Inv j/\f j < f i)\/(∃x,step i=ab (.inr x)/\Post x)) (i:I) (hi:Inv i) (hm:f i < 18446744073709551616):∃x,Zd step yD i=ab x/\Post x:=by
 refine Zx9 Inv f Post h yD i hi ?_;rw[iI];exact hm
theorem ZY{z:Int}(h1: -9223372036854775808<=z)(h2:z<=9223372036854775807):wi z=z:=by
 simp only[wi,IntKind.wrap,IntKind.signed,IntKind.bits];simp;omega
theorem sW{α:Type}{l:yL α}{i:Int}{y:α}(f:0<=i)(h:l[i.toNat]? =ab y):idx l i=ab y:=by
 unfold idx;rw[yW f,h]
theorem jm{α:Type}{l:yL α}{i:Nat}(h:i < l.length):∃y,l[i]? =ab y:=⟨_,yad h⟩
theorem Wy{i:Int}{n:Nat}(h1:0<=i)(h2:i < (n:Int)):bi i n=ae:=by simp[bi,h1,h2]
theorem ZT{n m b:Nat}(h1:(n+m)*b<=140737488355328)(h2:n+m<=9223372036854775807):cf n m b=ae:=by
 unfold cf;rw[yi];exact⟨yY h1,yY h2⟩
def sX:(ts:yL Ty)->Ty.aK ts->yL TD
 |[],_=>[]
 |[t],x=>[.p (.v t x)]
 |t::u::r,x=>.p (.v t x.1)::sX (u::r) x.2
theorem ZFA:∀(ts:yL Ty)(x:Ty.aK ts),Sh.fills (ts.map .v) (dq ts x)=ab (sX ts x,[])
 |[],_=>rfl
 |[t],x=>by
  rw[show dq [t] x=[⟨t,x⟩] from rfl,yag,List.map_nil,Sh.fills,Sh.fill]
  have e:=Xl t x;dsimp only;rw[e]
  rfl
 |t::u::r,x=>by
  have h:=ZFA (u::r) x.2;have e:=Xl t x.1;rw[show dq (t::u::r) x=⟨t,x.1⟩::dq (u::r) x.2 from rfl,yag,Sh.fills,Sh.fill]
  dsimp only;rw[e,yae,ya,h];rfl
theorem ZJv{L:Lk}:∀(ts:yL Ty)(x:Ty.aK ts),TD.aE L (sX ts x)=(Ty.encs ts x).map .p
 |[],_=>rfl
 |[t],x=>rfl
 |t::u::r,x=>by
  rw[show sX (t::u::r) x=.p (.v t x.1)::sX (u::r) x.2 from rfl,ZI,yag, <-ZI,ZJv (u::r) x.2]
  rfl
theorem ZL5{P:yg}{g:yr}{ts:yL Ty}{M:Ty.aK ts->yO Bool}(j:Fs.Ok (⟨g,ts.map .v,[],ts,[⟨.ret,[(0,.v .bool)],[],[.bool]⟩],M⟩:Fs P)){x:Ty.aK ts}(h:M x=ab ae):
 bZ P g ((Ty.encs ts x).map .p) [] (.p (.bool ae)) []:=by
 obtain⟨f,R,H,l,m,y⟩:=j x ae h;have e:=(ZFA ts x).symm.trans (show Sh.fills (ts.map .v) (dq ts x)=ab (f,R) from l)
 cases e;cases m
 obtain⟨r,z,A⟩:=y _ [⟨.bool,ae⟩] ([.p (.v .bool ae)],[]) ⟨rfl,rfl⟩ (by
  simp only[QS,pO];rfl)
 cases z;rw[<-ZJv (L:=lk [])];exact A
theorem ov{P:yg}{s:Fs P}(h:s.Ok){M:Ty.aK s.ins->yO (bX.sum s.xs)}(e:∀x,M x=s.M x):Fs.Ok (P:=P) { s with M:=M}:=by
 have:M=s.M:=funext e;subst this;exact h
def sY(P:yg)(m:Nat):yL yc->yL Ty->Bool
 |[],[]=>ae
 |t::ts,T::Ts=>ot P m t T&&sY P m ts Ts
 |_,_=>af
theorem ZFB{P:yg}{m n:Nat}:∀{ts:yL yc}{Ts:yL Ty}{xs:yL Pl},sY P m ts Ts=ae->wY P n ts xs->∃v:Ty.aK Ts,Ty.sV Ts v/\xs=Ty.encs Ts v
 |[],[],[],_,_=>⟨(),zP,rfl⟩
 |[],[],_::_,_,h=>h.elim
 |[],_::_,_,h,_=>by cases h
 |_::_,[],_,h,_=>by cases h
 |_::_,_::_,[],_,h=>h.elim
 |t::ts,[T],x::xs,h,f=>by
  simp only[sY,yi]at h;obtain⟨v,g,rfl⟩:=qa m n t T x h.1 f.1
  cases ts with
  |nil=>cases xs with
   |nil=>exact⟨v,g,rfl⟩
   |cons _ _=>exact f.2.elim
  |cons _ _=>exact absurd h.2 (by simp[sY])
 |t::ts,T::U::Ts,x::xs,h,f=>by
  simp only[sY,yi]at h;obtain⟨v,g,rfl⟩:=qa m n t T x h.1 f.1;obtain⟨w,j,rfl⟩:=ZFB (Ts:=U::Ts) h.2 f.2;exact⟨(v,w),⟨g,j⟩,rfl⟩
end Go.Ev
end
section
namespace Go.Proofs.YtcbhhaigilifgaaGreat
open Go.Ev Go.RowKit Go.Lib
abbrev zN(t:Ty):List bX:=[⟨.ret,[(0,.v t)],[],[t]⟩]
theorem ZEf(w:yy):Calls yb 221 #[.slice ad 0 0,.int .i64 0] w λe w'=>e=.returned (.slice ad 0 0)/\w'=w:=by
 go_enter Tryz.func221,Tryz.ntmps221
 go_wp2
 go_ret
 exact⟨rfl,rfl⟩
theorem ZGZ(n:Nat)(w:yy)(y:0 < n)(E:n<=Zr):Calls yb 221 #[.slice ad 0 0,.int .i64 n] w λe w'=>e=.returned (.slice (ab ⟨w.heap.size,0,ad⟩) 0 (grownCap w n 0 5))/\
 w'=w.drew.alloc (.cells (Builtin.zeroCells #[.int .u8 0] n++Builtin.zeroCells #[.int .u8 0] (grownCap w n 0 5 - n)) 5):=by
 have M:n<=140737488355328:=E;have z:¬((n:Int) < 0):=by omega
 have Q:wrap64 ((n:Int) - ((0:Int) - (0:Int)))=(n:Int):=by unfold wrap64;omega
 have F:wrap64 ((n:Int) - 0)=(n:Int):=by unfold wrap64;omega
 have A:wrap64 (n:Int)=(n:Int):=by unfold wrap64;omega
 have R:(n:Int) > 0:=by omega
 have I:∃i,yb.info? 5=ab i/\i.zero=ab (.int .u8 0)/\i.size=1/\i.bytes=1:=by
  have h:(yb.info? 5).map (λi=>(i.zero,i.size,i.bytes))=ab (ab (.int .u8 0),1,1):=by kernel_rfl
  obtain⟨i,z,j⟩:=yv.1 h;simp only[yq]at j;exact⟨i,z,j.1,j.2.1,j.2.2⟩
 obtain⟨i,oA,xA,hi3,hi4⟩:=I
 have g:∀l,(Builtin.append_ #[141,3] l #[.slice ad 0 0,.int .i64 n]).run yb w=
  .ok (.slice (ab ⟨w.heap.size,0,ad⟩) n (grownCap w n 0 5)) (w.drew.alloc (.cells (Builtin.zeroCells #[.int .u8 0] n++Builtin.zeroCells #[.int .u8 0] (grownCap w n 0 5 - n)) 5)):=λl=>by
  have h:=Lib.run_append_grow_zeros (P:=yb) w 141 3 l 5 i (.int .u8 0) .i64 .i64 Tryz.underlying141 Tryz.underlying3 oA xA ad 0 0 [] (by rw[hi3];simp[Builtin.firstCells]) n y (by omega) (by omega) (by omega)
   (by rw[hi4];omega) (by rw[yax];exact growslice_fits y (by rw[hi4];omega))
  simpa[Value.cells] using h
 obtain⟨G,B⟩:∃G,G=grownCap w n 0 5:=⟨_,rfl⟩;have m:=grownCap_ge w n 0 5;have f:=grownCap_le_maxLen w n 0 5 (by unfold maxLen;omega);unfold maxLen at f;rw[<-B]at g m f ⊢;clear B
 go_enter Tryz.func221,Tryz.ntmps221
 go_wp2_with (at_builtin;refine Lib.wpList_append_run _ rfl _ _ _ _ rfl _ _ rfl rfl _ _ (g _) ?_)
 all_goals (go_ret;exact⟨rfl,rfl⟩)
theorem ZJw(n:Nat)(I:n<=Zr):bZ yb 221 [.p (.sl (ab af) 1 []),.p (.int .i64 (n:Int))] [] (.own 0 ad 1 []) [.log 1 5 []]:=by
 intro J vs A g j;simp only[aH]at j;obtain⟨v,_,rfl,S,T,_,rfl,B,rfl⟩:=j;obtain rfl:=nI S
 obtain rfl:T=.int .i64 n:=by
  have:=B.2 rfl;simpa[yH,aA] using this
 have M:J.m=[]:=List.eq_nil_of_length_eq_zero (by rw[A.len,g];rfl);rcases Nat.eq_zero_or_pos n with rfl|h0
 .refine(ZEf J.w).mono λe U⟨E,F⟩=> ?_;subst E;subst F;obtain⟨to,f⟩:=Vh (J':={ J with m:=J.m++[ad],H:=J.H++[.log 1 5 []]}) A rfl rfl rfl rfl (World.grownBy.refl J.w ad) (.inl rfl) (λ_=>.inl ⟨rfl,rfl⟩);refine⟨_,{ J with m:=J.m++[ad],H:=J.H++[.log 1 5 []]},rfl,rfl,by simp[g],to,f, ?_⟩;rw[Zj rfl];simp only[yH];exact⟨λ_ l=>(by cases l),ad,0,rfl,ym _,by simp[maxLen],Yk _,λ_=>rfl,λh=>absurd rfl h,5,[],by simp[g],ym _,λ_=>.inl ⟨by simp[M],rfl,rfl⟩⟩
 .refine(ZGZ n J.w h0 I).mono λe U⟨E,F⟩=> ?_;subst E;subst F;have W:=grownCap_ge J.w n 0 5;have y:=grownCap_le_maxLen J.w n 0 5 (by have:n<=140737488355328:=I;unfold maxLen;omega)
  have z:(Builtin.zeroCells #[.int .u8 0] n++Builtin.zeroCells #[.int .u8 0] (grownCap J.w n 0 5 - n):Array yh).size=grownCap J.w n 0 5*1:=by
   simp only[Array.size_append,size_zeroCells];simp;omega
  let G:Array yh:=Builtin.zeroCells #[.int .u8 0] n++Builtin.zeroCells #[.int .u8 0] (grownCap J.w n 0 5 - n);let J':Sg:={ J with m:=J.m++[ab J.w.heap.size],H:=J.H++[.log 1 5 []],w:=J.w.drew.alloc (.cells G 5)};have Q:J'.w.heap[J.w.heap.size]? =ab (.cells G 5 (0,0)):=heap_alloc_new J.w.drew _
  obtain⟨to,f⟩:=Vh (J':=J') A rfl rfl rfl rfl (X3 J.w (.cells G 5) ad) (.inr ⟨_,rfl,ym _,by simp[J']⟩)
   (λR=>.inr ⟨J.w.heap.size,_,grownCap J.w n 0 5,rfl,Q,z,Nat.zero_le _,y,λ_ l=>(by cases l),by simp[au]⟩)
  refine⟨_,J',rfl,rfl,by simp[J',g],to,f, ?_⟩;rw[Zj rfl];simp only[yH];exact⟨λ_ l=>(by cases l),_,_,rfl,Nat.zero_le _,y,Yk _,λh=>(by cases h),λh=>absurd rfl h,5,[],by simp[J',g],ym _,λ_=>.inr ⟨_,_,by simp[J',M],rfl,Q,z⟩⟩
end Go.Proofs.YtcbhhaigilifgaaGreat
end
section
set_option maxRecDepth 4000
namespace Go.Proofs.YtcbhhaigilifgaaGreat
open Go Go.Ev
noncomputable section
abbrev yI:Ty:=.int .i64
abbrev Zy:Ty:=(.st [yI,yI,yI,.u64,yI])
abbrev Cond:Type:=(Int×Int×Int×yU×Int)
abbrev _root_.aQn:=yL Cond
def sZ(F:Nat)(a0:aQn):yO (aQn):=
 if(cf 0 a0.length 40)=ae then
  ab a0
 else
 ad
abbrev _root_.aQj:Go.Ev.Ty:=.sl Zy
def ZEg:Fs yb:=⟨53,[.sl ae Zy],[],[aQj],(zN aQj),λx=>sZ yD x⟩
theorem ZB7:ZEg.Ok:=aQ { own:=[5,7],still:=[2]} [] [] trivial
def Zqd(F:Nat):yO (aQn):=
 ab []
def ZwS:Fs yb:=⟨53,[.nil Zy],[],[],(zN aQj),λx=>Zqd yD⟩
theorem Zvh:ZwS.Ok:=aQ { own:=[5,7],still:=[2]} [] [] trivial
def Zqe:Fs yb:=⟨53,[.v aQj],[],[aQj],(zN aQj),λx=>sZ yD x⟩
theorem ZwT:Zqe.Ok:=sP (t:=Zy) (xs:=(zN aQj)) (MA:=λ(x:aQn)=>sZ yD x) (MB:=λ_=>Zqd yD) ZB7 Zvh rfl
abbrev _root_.aQl:Go.Ev.Ty:=.arr 2 yI
abbrev Zc:Ty:=(.st [yI,aQl,aQj,yI])
abbrev _root_.aQo:=yL Int
abbrev yG:Type:=(Int×aQo×aQn×Int)
def ZP(F:Nat)(a0:yG)(a1:aQo):yO (yG):=
 (a0.2.1[0]?).bind λf=>
 (a1[0]?).bind λg=>
 (a0.2.1[0]?).bind λj=>
 ((a0.2.1.set 0 (wi (f+g)))[1]?).bind λe4=>
 (a1[1]?).bind λe5=>
 ((a0.2.1.set 0 (wi (f+g)))[1]?).bind λe6=>
 (sZ F a0.2.2.1).bind λh=>
 ab (a0.1,(a0.2.1.set 0 (wi (f+g))).set 1 (wi (e4+e5)),h,a0.2.2.2)
def JD:Fs yb:=⟨15,[.v Zc,.v aQl],[],[Zc,aQl],(zN Zc),λx=>ZP yD x.1 x.2⟩
theorem JE:JD.Ok:=aQ { still:=[22]} [] [Zqe] ⟨ZwT,ao⟩
def mO:ByteArray:=⟨#[0,1,2,2,3,3,3,3,4,4,4,4,4,4,4,4,5,5,5,5,5,5,5,5,5,5,5,5,5,5,5,5,6,6,6,6,6,6,6,6,6,6,6,6,6,6,6,6,6,6,6,6,6,6,6,6,6,6,6,6,6,6,6,6,7,7,7,7,7,7,7,7,7,7,7,7,7,7,7,7,7,7,7,7,7,7,7,7,7,7,7,7,7,7,7,7,7,7,7,7,7,7,7,7,7,7,7,7,7,7,7,7,7,7,7,7,7,7,7,7,7,7,7,7,7,7,7,7,8,8,8,8,8,8,8,8,8,8,8,8,8,8,8,8,8,8,8,8,8,8,8,8,8,8,8,8,8,8,8,8,8,8,8,8,8,8,8,8,8,8,8,8,8,8,8,8,8,8,8,8,8,8,8,8,8,8,8,8,8,8,8,8,8,8,8,8,8,8,8,8,8,8,8,8,8,8,8,8,8,8,8,8,8,8,8,8,8,8,8,8,8,8,8,8,8,8,8,8,8,8,8,8,8,8,8,8,8,8,8,8,8,8,8,8,8,8,8,8,8,8,8,8,8,8,8,8]⟩
def ZsD(F:Nat)(a0:yU):yO (Int):=
 if(ag (a0 >= 4294967296))=ae then
  if(ag ((ZE a0 32) >= 65536))=ae then
   if(ag ((ZE (ZE a0 32) 16) >= 256))=ae then
    let h:yB:=w8 ((ZE (ZE (ZE a0 32) 16) 8).toNat:Int)
    (idx (fX mO) (h.toNat:Int)).bind λj=>
    ab (wi (56+(j.toNat:Int)))
   else
   (idx (fX mO) ((w8 ((ZE (ZE a0 32) 16).toNat:Int)).toNat:Int)).bind λa=>
   ab (wi (48+(a.toNat:Int)))
  else
  if(ag ((ZE a0 32) >= 256))=ae then
   (idx (fX mO) ((w8 ((ZE (ZE a0 32) 8).toNat:Int)).toNat:Int)).bind λb=>
   ab (wi (40+(b.toNat:Int)))
  else
  (idx (fX mO) ((w8 ((ZE a0 32).toNat:Int)).toNat:Int)).bind λc=>
  ab (wi (32+(c.toNat:Int)))
 else
 if(ag (a0 >= 65536))=ae then
  if(ag ((ZE a0 16) >= 256))=ae then
   (idx (fX mO) ((w8 ((ZE (ZE a0 16) 8).toNat:Int)).toNat:Int)).bind λd=>
   ab (wi (24+(d.toNat:Int)))
  else
  (idx (fX mO) ((w8 ((ZE a0 16).toNat:Int)).toNat:Int)).bind λe=>
  ab (wi (16+(e.toNat:Int)))
 else
 if(ag (a0 >= 256))=ae then
  (idx (fX mO) ((w8 ((ZE a0 8).toNat:Int)).toNat:Int)).bind λf=>
  ab (wi (8+(f.toNat:Int)))
 else
 (idx (fX mO) ((w8 (a0.toNat:Int)).toNat:Int)).bind λg=>
 ab (wi (0+(g.toNat:Int)))
def Zqf:Fs yb:=⟨228,[.v .u64],[],[.u64],(zN yI),λx=>ZsD yD x⟩
theorem ZwU:Zqf.Ok:=aQ { still:=[2]} [] [] trivial
def YI(F:Nat)(a0:yU):yO (Int):=
 (ZsD F a0).bind λa=>
 ab (wi (64 - a))
def ZcQ:Fs yb:=⟨211,[.v .u64],[],[.u64],(zN yI),λx=>YI yD x⟩
theorem Zku:ZcQ.Ok:=aQ { still:=[2,3]} [] [Zqf] ⟨ZwU,ao⟩
abbrev zM:=yU×yU×yU×yU×yU×yU×yU×yU
def ta(F:Nat):(yU×zM)->yO ((yU×zM)⊕(zM))
 |(d,e,c,f,g,h,i,a,b)=>
 if(ag (a >= 4294967296))=ae then
  let j:Bool:=ag ((b+c) >= 4294967296)
  if j=ae then
   ab (.inr (d,e,c,f,g,h,i,a - 1))
  else
  ab (.inl (d,e,c,f,g,h,i,a - 1,b+c))
 else
 let k:Bool:=ag ((a*f) > ((4294967296*b)+h))
 if k=ae then
  let l:Bool:=ag ((b+c) >= 4294967296)
  if l=ae then
   ab (.inr (d,e,c,f,g,h,i,a - 1))
  else
  ab (.inl (d,e,c,f,g,h,i,a - 1,b+c))
 else
 ab (.inr (d,e,c,f,g,h,i,a))
def Zoi:Lp:=⟨[(2,.v .u64),(8,.v .u64),(9,.v .u64),(10,.v .u64),(11,.v .u64),(13,.v .u64),(14,.v .u64),(15,.v .u64),(16,.v .u64)],[],[.u64,.u64,.u64,.u64,.u64,.u64,.u64,.u64,.u64],[⟨.exit 0,[(2,.v .u64),(8,.v .u64),(9,.v .u64),(10,.v .u64),(11,.v .u64),(13,.v .u64),(14,.v .u64),(15,.v .u64)],[],[.u64,.u64,.u64,.u64,.u64,.u64,.u64,.u64]⟩],Zd (ta yD) yD⟩
theorem ZrO:Zoi.bt yb 185 0:=Zt { still:=[6,7,34]} [] [] trivial
def td(F:Nat):(yU×zM)->yO ((yU×zM)⊕(yU×yU×yU×yU×yU×yU))
 |(d,e,c,i,f,g,b,h,a)=>
 if(ag (a >= 4294967296))=ae then
  let j:Bool:=ag ((b+c) >= 4294967296)
  if j=ae then
   ab (.inr (d,e,f,g,h,a - 1))
  else
  ab (.inl (d,e,c,i,f,g,b+c,h,a - 1))
 else
 let k:Bool:=ag ((a*i) > ((4294967296*b)+f))
 if k=ae then
  let l:Bool:=ag ((b+c) >= 4294967296)
  if l=ae then
   ab (.inr (d,e,f,g,h,a - 1))
  else
  ab (.inl (d,e,c,i,f,g,b+c,h,a - 1))
 else
 ab (.inr (d,e,f,g,h,a))
def Zoj:Lp:=⟨[(2,.v .u64),(8,.v .u64),(9,.v .u64),(10,.v .u64),(14,.v .u64),(15,.v .u64),(16,.v .u64),(17,.v .u64),(18,.v .u64)],[],[.u64,.u64,.u64,.u64,.u64,.u64,.u64,.u64,.u64],[⟨.exit 2,[(2,.v .u64),(8,.v .u64),(14,.v .u64),(15,.v .u64),(17,.v .u64),(18,.v .u64)],[],[.u64,.u64,.u64,.u64,.u64,.u64]⟩],Zd (td yD) yD⟩
theorem ZrP:Zoj.bt yb 185 1:=Zt { still:=[6,7,34]} [] [] trivial
def wZ(F:Nat)(a0:yU)(a1:yU)(a2:yU):yO ((yU×yU)):=
 if(a2==0)=ae then
  ad
 else
 if(ag (a2<=a0))=ae then
  ad
 else
 if(a0==0)=ae then
  if(a2 !=0)=ae then
   if(a2 !=0)=ae then
    ab (a1 / a2,a1 % a2)
   else
   ad
  else
  ad
 else
 (YI F a2).bind λo=>
 let p:yU:=ZE (QR a2 (min ((dj o).toNat:Int).toNat 64)) 32;let q:yU:=(QR a2 (min ((dj o).toNat:Int).toNat 64))&&&4294967295;let r:yU:=ZE a1 (min ((64 - (dj o)).toNat:Int).toNat 64);let s:yU:=(QR a0 (min ((dj o).toNat:Int).toNat 64))|||r;let t:yU:=ZE (QR a1 (min ((dj o).toNat:Int).toNat 64)) 32;let u:yU:=(QR a1 (min ((dj o).toNat:Int).toNat 64))&&&4294967295
 if(p !=0)=ae then
  (Zd (ta F) F (QR a2 (min ((dj o).toNat:Int).toNat 64),dj o,p,q,s,t,u,s / p,s - ((s / p)*p))).bind λ(j,l,k,m,g,h,n,i)=>
  let v:yU:=((g*4294967296)+h) - (i*j)
  if(k !=0)=ae then
   (Zd (td F) F (j,l,k,m,n,i,v - ((v / k)*k),v,v / k)).bind λ(d,f,b,e,a,c)=>
   let w:yU:=((a*4294967296)+b) - (c*d)
   ab ((e*4294967296)+c,ZE w (min (f.toNat:Int).toNat 64))
  else
  ad
 else
 ad
def Zqg:Fs yb:=⟨185,[.v .u64,.v .u64,.v .u64],[],[.u64,.u64,.u64],[⟨.ret,[(0,.bm [.v .u64,.v .u64])],[],[.u64,.u64]⟩],λx=>wZ yD x.1 x.2.1 x.2.2⟩
theorem ZwV:Zqg.Ok:=aQ { still:=[6,7,34]} [(0,Zoi),(1,Zoj)] [ZcQ] ⟨Zku,ao⟩ ⟨ZrO,ZrP,ao⟩
def te(F:Nat)(a0:yU)(a1:yU)(a2:yU):yO (yU):=
 if(a2 !=0)=ae then
  (wZ F (a0 % a2) a1 a2).bind λa=>
  ab a.2
 else
 ad
def JF(F:Nat):Fs yb:=⟨127,[.v .u64,.v .u64,.v .u64],[],[.u64,.u64,.u64],(zN .u64),λx=>te F x.1 x.2.1 x.2.2⟩
def ZwW:Fs yb:=JF yD
theorem Zvi:ZwW.Ok:=aQ { still:=[6,12,13,14]} [] [Zqg] ⟨ZwV,ao⟩
end
end Go.Proofs.YtcbhhaigilifgaaGreat
end
section
namespace Go.Ev
theorem xa(a m:yU):(a - a / m*m).toNat=a.toNat % m.toNat:=by
 have g:a.toNat / m.toNat*m.toNat<=a.toNat:=Nat.div_mul_le_self _ _;have j:=ybm a
 have f:(a / m*m).toNat=a.toNat / m.toNat*m.toNat:=by
  rw[UInt64.toNat_mul,UInt64.toNat_div,yap (by omega)]
 have h:(a / m*m)<=a:=by rw[ycs,f];exact g
 rw[UInt64.toNat_sub_of_le _ _ h,f];have:=Nat.div_add_mod a.toNat m.toNat
 rw[ybo]at this;omega
theorem jO(x:yU):(x&&&4294967295).toNat=x.toNat % 4294967296:=by
 rw[UInt64.toNat_and];exact Nat.and_two_pow_sub_one_eq_mod x.toNat 32
theorem gS(x:yU)(n:Nat):(ZE x n).toNat=x.toNat / 2 ^ n:=by
 unfold ZE;rw[ybe,yap (Nat.lt_of_le_of_lt (Nat.div_le_self ..) (ybm _))]
theorem qb{x y:yU}(h:x.toNat+y.toNat < 18446744073709551616):(x+y).toNat=x.toNat+y.toNat:=by
 rw[UInt64.toNat_add,yap h]
theorem qc{x y:yU}(h:x.toNat*y.toNat < 18446744073709551616):(x*y).toNat=x.toNat*y.toNat:=by
 rw[UInt64.toNat_mul,yap h]
theorem tf{a b:Nat}(ha:a < 4294967296)(hb:b < 4294967296):a*b<=18446744065119617025:=Nat.mul_le_mul (Nat.le_of_lt_succ ha) (Nat.le_of_lt_succ hb)
end Go.Ev
end
section
set_option maxRecDepth 4000
namespace Go.Proofs.YtcbhhaigilifgaaGreat
open Go Go.Ev
section
variable{y1 y0 u d q r:Nat}
theorem ZPq(h:q*y1+r=u)(hc:4294967296*r+d < q*y0):u*4294967296+d < q*(y1*4294967296+y0):=by
 grind
theorem JG(h:q*y1+r=u)(hc:q*y0<=4294967296*r+d):q*(y1*4294967296+y0)<=u*4294967296+d:=by
 grind
theorem ZOf(hu:u < y1*4294967296+y0)(hd:d < 4294967296):(u*4294967296+d) / (y1*4294967296+y0) < 4294967296:=by
 rw[Nat.div_lt_iff_lt_mul (by omega)];omega
theorem ZFC(h:q*y1+r=u)(hq:1<=q):(q - 1)*y1+(r+y1)=u:=by
 have e:q*y1=(q - 1)*y1+y1:=by
  rw[<-Nat.succ_mul];congr 1;omega
 omega
theorem ZJy(hu:u < y1*4294967296+y0)(f:y0 < 4294967296)(h:q*y1+r=u)(g:4294967296<=r):q*y0<=4294967296*r+d:=by
 by_cases j:q < 4294967296
 .have:q*y0<=4294967295*4294967295:=Nat.mul_le_mul (by omega) (by omega);omega
 .have:4294967296*y1<=q*y1:=ycb _ (by omega);omega
end
theorem JH{q T Y:Nat}(f:0 < Y)(h1:T / Y<=q)(h2:q*Y<=T):q=T / Y:=Nat.le_antisymm ((Nat.le_div_iff_mul_le f).2 h2) h1
theorem ZB8{y1 y0 u d:Nat}{Q R Y0 Y1 D:yU}(y:Y1.toNat=y1)(g:Y0.toNat=y0)(hD:D.toNat=d)(h1:y1 < 4294967296)(G:y0 < 4294967296)(hd:d < 4294967296)(hu:u < y1*4294967296+y0)
 (e:Q.toNat*y1+R.toNat=u) (T:R.toNat < 4294967296) (z:(u*4294967296+d) / (y1*4294967296+y0)<=Q.toNat):
 ((Q >= 4294967296\/(Q*Y0 > (4294967296*R)+D))/\(u*4294967296+d) / (y1*4294967296+y0)<=(Q - 1).toNat/\(Q - 1).toNat*y1+(R+Y1).toNat=u/\(R+Y1).toNat=R.toNat+y1)\/
 (¬Q >= 4294967296/\¬(Q*Y0 > (4294967296*R)+D)/\Q.toNat=(u*4294967296+d) / (y1*4294967296+y0)):=by
 have f:(R+Y1).toNat=R.toNat+y1:=by rw[qb (by omega),y]
 have I:((4294967296*R)+D).toNat=4294967296*R.toNat+d:=by
  have m:(4294967296*R:yU).toNat=4294967296*R.toNat:=by
   rw[qc (by show 4294967296*R.toNat < _;omega)];rfl
  rw[qb (by rw[m];omega),m,hD]
 have dec:1<=Q.toNat->(Q - 1).toNat=Q.toNat - 1:=λh=>by
  rw[UInt64.toNat_sub_of_le _ _ (by rw[ycs];exact h)];rfl
 by_cases j:Q >= 4294967296
 .left
  have E:4294967296<=Q.toNat:=by
   rw[ge_iff_le,ycs]at j;exact j
  have:=ZOf hu hd;refine⟨.inl j,by rw[dec (by omega)];omega, ?_,f⟩;rw[dec (by omega),f];exact ZFC e (by omega)
 have E:Q.toNat < 4294967296:=by
  rw[ge_iff_le,ycs]at j;grind
 have F:(Q*Y0).toNat=Q.toNat*y0:=by
  have:=tf E G;rw[qc (by rw[g];omega),g]
 by_cases l:Q*Y0 > (4294967296*R)+D
 .left
  have A:4294967296*R.toNat+d < Q.toNat*y0:=by
   have:=yca.1 l;grind
  have B:1<=Q.toNat:=by
   all_goals grind
  have M:=ZPq (d:=d) e A;have S:(u*4294967296+d) / (y1*4294967296+y0) < Q.toNat:=(Nat.div_lt_iff_lt_mul (by omega)).2 M;refine⟨.inr l,by rw[dec B];omega, ?_,f⟩;rw[dec B,f];exact ZFC e B
 .right
  have A:Q.toNat*y0<=4294967296*R.toNat+d:=by
   have:¬(((4294967296*R)+D).toNat < (Q*Y0).toNat):=λh=>l (yca.2 h);grind
  exact⟨j,l,JH (by omega) z (JG e A)⟩
theorem ZPr{y1 y0 u d:Nat}{Yv N Y1 Y0 U D E Q R:yU}(y:Y1.toNat=y1)(z:Y0.toNat=y0)(hD:D.toNat=d)(h1:y1 < 4294967296)(h3:0 < y1)(B:y0 < 4294967296)(hd:d < 4294967296)(hu:u < y1*4294967296+y0)
 (e:Q.toNat*y1+R.toNat=u) (A:R.toNat < 4294967296) (f:(u*4294967296+d) / (y1*4294967296+y0)<=Q.toNat):
 ∃q:yU,Zd (ta yD) yD (Yv,N,Y1,Y0,U,D,E,Q,R)=ab (Yv,N,Y1,Y0,U,D,E,q)/\q.toNat=(u*4294967296+d) / (y1*4294967296+y0):=by
 obtain⟨x,M,q,rfl,S⟩:=VX (step:=ta yD) (λs=>∃Q R:yU,s=(Yv,N,Y1,Y0,U,D,E,Q,R)/\Q.toNat*y1+R.toNat=u/\R.toNat < 4294967296/\(u*4294967296+d) / (y1*4294967296+y0)<=Q.toNat)
  (λs=>4294967296 - s.2.2.2.2.2.2.2.2.toNat) (λx=>∃q:yU,x=(Yv,N,Y1,Y0,U,D,E,q)/\q.toNat=(u*4294967296+d) / (y1*4294967296+y0)) (by
  rintro _ ⟨Q,R,rfl,e,A,f⟩;unfold ta;dsimp only;rcases ZB8 y z hD h1 B hd hu e A f with⟨c,G,F,T⟩|⟨m,I,k⟩
  .have g:(∃j,(if ag (R+Y1 >= 4294967296)=ae then ab (Sum.inr (Yv,N,Y1,Y0,U,D,E,Q - 1)) else ab (Sum.inl (Yv,N,Y1,Y0,U,D,E,Q - 1,R+Y1)):yO ((yU×zM)⊕(zM)))=ab (.inl j)/\
    (∃Q R:yU,j=(Yv,N,Y1,Y0,U,D,E,Q,R)/\Q.toNat*y1+R.toNat=u/\R.toNat < 4294967296/\(u*4294967296+d) / (y1*4294967296+y0)<=Q.toNat)/\4294967296 - j.2.2.2.2.2.2.2.2.toNat < 4294967296 - R.toNat)\/
    (∃x,(if ag (R+Y1 >= 4294967296)=ae then ab (Sum.inr (Yv,N,Y1,Y0,U,D,E,Q - 1)) else ab (Sum.inl (Yv,N,Y1,Y0,U,D,E,Q - 1,R+Y1)):yO ((yU×zM)⊕(zM)))=ab (.inr x)/\
    ∃q:yU,x=(Yv,N,Y1,Y0,U,D,E,q)/\q.toNat=(u*4294967296+d) / (y1*4294967296+y0)):=by
    by_cases h:R+Y1 >= 4294967296
    .right;rw[yW (yY h)]
     have l:4294967296<=(R+Y1).toNat:=by
      rw[ge_iff_le,ycs]at h;exact h
     exact⟨_,rfl,_,rfl,JH (by omega) G (JG F (ZJy hu B F l))⟩
    .left;rw[yX (by rw[yN];exact h)]
     have l:(R+Y1).toNat < 4294967296:=by
      rw[ge_iff_le,ycs]at h;grind
     grind
   rcases c with c|c
   .rw[yW (yY c)];exact g
   .by_cases m:Q >= 4294967296
    .rw[yW (yY m)];exact g
    .rw[yX (by rw[yN];exact m),yW (yY c)];exact g
  .right;rw[yX (by rw[yN];exact m),yX (by rw[yN];exact I)];exact⟨_,rfl,_,rfl,k⟩) (Yv,N,Y1,Y0,U,D,E,Q,R) ⟨Q,R,rfl,e,A,f⟩ (by dsimp only;omega)
 grind
theorem ZPs{y1 y0 u d:Nat}{Yv N Y1 Y0 U D E Q R:yU}(y:Y1.toNat=y1)(z:Y0.toNat=y0)(hD:D.toNat=d)(h1:y1 < 4294967296)(h3:0 < y1)(B:y0 < 4294967296)(hd:d < 4294967296)(hu:u < y1*4294967296+y0)
 (e:Q.toNat*y1+R.toNat=u) (A:R.toNat < 4294967296) (f:(u*4294967296+d) / (y1*4294967296+y0)<=Q.toNat):
 ∃q:yU,Zd (td yD) yD (Yv,N,Y1,Y0,D,E,R,U,Q)=ab (Yv,N,D,E,U,q)/\q.toNat=(u*4294967296+d) / (y1*4294967296+y0):=by
 obtain⟨x,M,q,rfl,S⟩:=VX (step:=td yD) (λs=>∃Q R:yU,s=(Yv,N,Y1,Y0,D,E,R,U,Q)/\Q.toNat*y1+R.toNat=u/\R.toNat < 4294967296/\(u*4294967296+d) / (y1*4294967296+y0)<=Q.toNat)
  (λs=>4294967296 - s.2.2.2.2.2.2.1.toNat) (λx=>∃q:yU,x=(Yv,N,D,E,U,q)/\q.toNat=(u*4294967296+d) / (y1*4294967296+y0)) (by
  rintro _ ⟨Q,R,rfl,e,A,f⟩;unfold td;dsimp only;rcases ZB8 y z hD h1 B hd hu e A f with⟨c,G,F,T⟩|⟨m,I,k⟩
  .have g:(∃j,(if ag (R+Y1 >= 4294967296)=ae then ab (Sum.inr (Yv,N,D,E,U,Q - 1)) else ab (Sum.inl (Yv,N,Y1,Y0,D,E,R+Y1,U,Q - 1)):yO ((yU×zM)⊕(yU×yU×yU×yU×yU×yU)))=ab (.inl j)/\
    (∃Q R:yU,j=(Yv,N,Y1,Y0,D,E,R,U,Q)/\Q.toNat*y1+R.toNat=u/\R.toNat < 4294967296/\(u*4294967296+d) / (y1*4294967296+y0)<=Q.toNat)/\4294967296 - j.2.2.2.2.2.2.1.toNat < 4294967296 - R.toNat)\/
    (∃x,(if ag (R+Y1 >= 4294967296)=ae then ab (Sum.inr (Yv,N,D,E,U,Q - 1)) else ab (Sum.inl (Yv,N,Y1,Y0,D,E,R+Y1,U,Q - 1)):yO ((yU×zM)⊕(yU×yU×yU×yU×yU×yU)))=ab (.inr x)/\
    ∃q:yU,x=(Yv,N,D,E,U,q)/\q.toNat=(u*4294967296+d) / (y1*4294967296+y0)):=by
    by_cases h:R+Y1 >= 4294967296
    .right;rw[yW (yY h)]
     have l:4294967296<=(R+Y1).toNat:=by
      rw[ge_iff_le,ycs]at h;exact h
     exact⟨_,rfl,_,rfl,JH (by omega) G (JG F (ZJy hu B F l))⟩
    .left;rw[yX (by rw[yN];exact h)]
     have l:(R+Y1).toNat < 4294967296:=by
      rw[ge_iff_le,ycs]at h;grind
     grind
   rcases c with c|c
   .rw[yW (yY c)];exact g
   .by_cases m:Q >= 4294967296
    .rw[yW (yY m)];exact g
    .rw[yX (by rw[yN];exact m),yW (yY c)];exact g
  .right;rw[yX (by rw[yN];exact m),yX (by rw[yN];exact I)];exact⟨_,rfl,_,rfl,k⟩) (Yv,N,Y1,Y0,D,E,R,U,Q) ⟨Q,R,rfl,e,A,f⟩ (by dsimp only;omega)
 grind
theorem ZFD{A B:yU}{a b:Nat}(f:A.toNat=a % 18446744073709551616)(g:B.toNat=b % 18446744073709551616)(h:b<=a)(hd:a - b < 18446744073709551616):(A - B).toNat=a - b:=by
 rw[UInt64.toNat_sub,f,g];omega
theorem ZsE(u y1:Nat):u / y1*y1+u % y1=u:=by
 have:=Nat.div_add_mod u y1;grind
theorem ZJz{u y1 y0 d:Nat}(h1:0 < y1)(hd:d < 4294967296):(u*4294967296+d) / (y1*4294967296+y0)<=u / y1:=by
 have h:(u*4294967296+d) / (y1*4294967296+y0)<=(u*4294967296+d) / (y1*4294967296):=Nat.div_le_div_left (by omega) (by omega)
 have e:(u*4294967296+d) / (y1*4294967296)=u / y1:=by
  rw[ybo y1, <-Nat.div_div_eq_div_mul];congr 1;omega
 omega
theorem ZJA{a b y:yU}{s:Nat}{Y:yU}(T:y≠0)(hs:YI yD y=ab (s:Int))(s0:0 < s)(s1:s < 64)(hY:QR y s=Y)(m:Y.toNat=y.toNat*2 ^ s)(hY63:9223372036854775808<=Y.toNat)(ha:a.toNat < y.toNat):
 ∃q r,wZ yD a b y=ab (q,r)/\r.toNat=(a.toNat*18446744073709551616+b.toNat) % y.toNat:=by
 have W:¬(y<=a):=by
  rw[ycs];omega
 unfold wZ;rw[yX (by rw[yT];exact T),yX (by rw[yN];exact W)];by_cases h0:a=0
 .subst h0;rw[yW (by decide),yW (by rw[yE];exact T),yW (by rw[yE];exact T)];refine⟨_,_,rfl, ?_⟩;simp_all
 rw[yX (by rw[yT];exact h0),hs,ya];dsimp only
 have w:dj (s:Int)=yao s:=by
  unfold dj;congr 1;omega
 have X:(dj (s:Int)).toNat=s:=by rw[w,ybe,yap (by omega)]
 have e1:min ((dj (s:Int)).toNat:Int).toNat 64=s:=by rw[X];omega
 have e2:(64 - dj (s:Int)).toNat=64 - s:=by
  rw[UInt64.toNat_sub_of_le _ _ (by rw[ycs,X];show s<=64;omega),X];rfl
 have e3:min ((64 - dj (s:Int)).toNat:Int).toNat 64=64 - s:=by rw[e2];omega
 rw[e1,e3,hY];have hYl:=ybm Y;have hb:=ybm b
 have I:2 ^ (64 - s)*2 ^ s=18446744073709551616:=by
  rw[<-Nat.pow_add];grind
 have Z:0 < 2 ^ s:=Nat.pow_pos (by decide);obtain⟨y1,hy1⟩:∃y1,y1=Y.toNat / 4294967296:=⟨_,rfl⟩;obtain⟨y0,hy0⟩:∃y0,y0=Y.toNat % 4294967296:=⟨_,rfl⟩;have j:Y.toNat=y1*4294967296+y0:=by omega
 have f:(ZE Y 32).toNat=y1:=by rw[gS,hy1]
 have z:(Y&&&4294967295).toNat=y0:=by rw[jO,hy0]
 have M:y1 < 4294967296:=by omega
 have g1:2147483648<=y1:=by omega
 have l0:y0 < 4294967296:=by omega
 have hash:a.toNat*2 ^ s < Y.toNat:=by rw[m];exact Nat.mul_lt_mul_of_pos_right ha Z
 have bd:b.toNat / 2 ^ (64 - s) < 2 ^ s:=by
  rw[Nat.div_lt_iff_lt_mul (Nat.pow_pos (by decide)),ybo,I];exact hb
 have F:((QR a s)|||(ZE b (64 - s))).toNat=a.toNat*2 ^ s+b.toNat / 2 ^ (64 - s):=by
  rw[UInt64.toNat_or,gS];unfold QR;rw[ybe,yap (by omega),ybo, <-Nat.two_pow_add_eq_or_of_lt bd]
 have t10:(QR b s).toNat=b.toNat*2 ^ s % 18446744073709551616:=by
  unfold QR;rw[ybe]
 obtain⟨u,hu⟩:∃u,u=a.toNat*2 ^ s+b.toNat / 2 ^ (64 - s):=⟨_,rfl⟩;obtain⟨v,hv⟩:∃v,v=b.toNat*2 ^ s % 18446744073709551616:=⟨_,rfl⟩;rw[<-hu]at F;rw[<-hv]at t10
 have hbs:b.toNat*2 ^ s=b.toNat / 2 ^ (64 - s)*18446744073709551616+v:=by
  have h1:=Nat.div_add_mod (b.toNat*2 ^ s) 18446744073709551616
  have h2:b.toNat*2 ^ s / 18446744073709551616=b.toNat / 2 ^ (64 - s):=by
   rw[<-I];exact Nat.mul_div_mul_right _ _ Z
  rw[h2, <-hv]at h1;omega
 have hN:(a.toNat*18446744073709551616+b.toNat)*2 ^ s=u*18446744073709551616+v:=by
  rw[ybc,hbs,hu,Nat.mul_right_comm];omega
 have uY:u < y1*4294967296+y0:=by
  rw[<-j,hu,m];have h1:(a.toNat+1)*2 ^ s<=y.toNat*2 ^ s:=ycb _ ha;rw[ybc,Nat.one_mul]at h1;omega
 have hvl:v < 18446744073709551616:=by rw[hv];exact Nat.mod_lt _ (by decide)
 obtain⟨d1,hd1⟩:∃d1,d1=v / 4294967296:=⟨_,rfl⟩;obtain⟨d0,hd0⟩:∃d0,d0=v % 4294967296:=⟨_,rfl⟩;have A:(ZE (QR b s) 32).toNat=d1:=by rw[gS,t10,hd1]
 have B:((QR b s)&&&4294967295).toNat=d0:=by rw[jO,t10,hd0]
 generalize ((QR a s)|||(ZE b (64 - s)):yU)=U at F ⊢;generalize (ZE (QR b s) 32:yU)=D1 at A ⊢;generalize ((QR b s)&&&4294967295:yU)=D0 at B ⊢;generalize (ZE Y 32:yU)=Y1 at f ⊢;generalize (Y&&&4294967295:yU)=Y0 at z ⊢
 have l:(Y1 !=0)=ae:=by
  rw[yE];intro h;rw[h]at f;have:(0:yU).toNat=0:=rfl;omega
 rw[yW l]
 have f1:(U / Y1).toNat*y1+(U - U / Y1*Y1).toNat=u:=by
  rw[xa,UInt64.toNat_div,F,f];exact ZsE u y1
 have f2:(U - U / Y1*Y1).toNat < 4294967296:=by
  rw[xa,F,f];exact Nat.lt_trans (Nat.mod_lt _ (by omega)) M
 have f3:(u*4294967296+d1) / (y1*4294967296+y0)<=(U / Y1).toNat:=by
  rw[UInt64.toNat_div,F,f];exact ZJz (by omega) (by omega)
 obtain⟨Q,k1,R⟩:=ZPr (Yv:=Y) (N:=dj (s:Int)) (U:=U) (E:=D0) f z A M (by omega) l0 (by omega) uY f1 f2 f3;rw[k1,ya];dsimp only;rw[yW l];have m1:=Nat.div_add_mod (u*4294967296+d1) Y.toNat
 have m2:(u*4294967296+d1) % Y.toNat < Y.toNat:=Nat.mod_lt _ (by omega);rw[<-j]at R
 have G:(((U*4294967296)+D1) - (Q*Y)).toNat=(u*4294967296+d1) % Y.toNat:=by
  rw[ZFD (a:=u*4294967296+d1) (b:=Q.toNat*Y.toNat) ?_ ?_ ?_ ?_]
  .rw[R,ybo ((u*4294967296+d1) / Y.toNat)];omega
  .rw[UInt64.toNat_add,UInt64.toNat_mul,F,A,show(4294967296:yU).toNat=4294967296 from rfl]
   omega
  .rw[UInt64.toNat_mul]
  .rw[R,ybo ((u*4294967296+d1) / Y.toNat)];omega
  .rw[R,ybo ((u*4294967296+d1) / Y.toNat)];omega
 obtain⟨g,hu2⟩:∃g,g=(u*4294967296+d1) % Y.toNat:=⟨_,rfl⟩;rw[<-hu2]at G m2 m1;generalize (((U*4294967296)+D1) - (Q*Y):yU)=V at G ⊢
 have f4:(V / Y1).toNat*y1+(V - V / Y1*Y1).toNat=g:=by
  rw[xa,UInt64.toNat_div,G,f];exact ZsE g y1
 have f5:(V - V / Y1*Y1).toNat < 4294967296:=by
  rw[xa,G,f];exact Nat.lt_trans (Nat.mod_lt _ (by omega)) M
 have f6:(g*4294967296+d0) / (y1*4294967296+y0)<=(V / Y1).toNat:=by
  rw[UInt64.toNat_div,G,f];exact ZJz (by omega) (by omega)
 obtain⟨q0,k3,S⟩:=ZPs (Yv:=Y) (N:=dj (s:Int)) (U:=V) (E:=Q) f z B M (by omega) l0 (by omega) (by rw[<-j];exact m2) f4 f5 f6;rw[k3,ya];refine⟨_,_,rfl, ?_⟩;dsimp only;rw[e1,gS];rw[<-j]at S;have m3:=Nat.div_add_mod (g*4294967296+d0) Y.toNat
 have m4:(g*4294967296+d0) % Y.toNat < Y.toNat:=Nat.mod_lt _ (by omega)
 have tr:(((V*4294967296)+D0) - (q0*Y)).toNat=(g*4294967296+d0) % Y.toNat:=by
  rw[ZFD (a:=g*4294967296+d0) (b:=q0.toNat*Y.toNat) ?_ ?_ ?_ ?_]
  .rw[S,ybo ((g*4294967296+d0) / Y.toNat)];omega
  .rw[UInt64.toNat_add,UInt64.toNat_mul,G,B,show(4294967296:yU).toNat=4294967296 from rfl]
   omega
  .rw[UInt64.toNat_mul]
  .rw[S,ybo ((g*4294967296+d0) / Y.toNat)];omega
  .rw[S,ybo ((g*4294967296+d0) / Y.toNat)];omega
 rw[tr]
 have hNm:((a.toNat*18446744073709551616+b.toNat)*2 ^ s) % Y.toNat=(g*4294967296+d0) % Y.toNat:=by
  have e:(a.toNat*18446744073709551616+b.toNat)*2 ^ s=g*4294967296+d0+Y.toNat*((u*4294967296+d1) / Y.toNat*4294967296):=by
   rw[hN, <-Nat.mul_assoc];omega
  rw[e,Nat.add_mul_mod_self_left]
 rw[<-hNm,m,Nat.mul_mod_mul_right,Nat.mul_div_cancel _ Z]
theorem JI{y Y:yU}{s:Nat}(a b:yU)(h:y≠0)(hs:YI yD y=ab (s:Int))(s0:0 < s)(s1:s < 64)(l:QR y s=Y)(g:Y.toNat=y.toNat*2 ^ s)(f:9223372036854775808<=Y.toNat):
 te yD a b y=ab (yao ((a.toNat*18446744073709551616+b.toNat) % y.toNat)):=by
 have m:0 < y.toNat:=by
  all_goals grind
 obtain⟨q,r,z,j⟩:=ZJA (a:=a % y) (b:=b) h hs s0 s1 l g f (by rw[UInt64.toNat_mod];exact Nat.mod_lt _ m);unfold te;rw[yW (by rw[yE];exact h),z,ya];dsimp only;rw[UInt64.toNat_mod,Nat.add_mod,Nat.mod_mul_mod, <-Nat.add_mod]at j;rw[<-j,UInt64.ofNat_toNat]
theorem ZOg:YI yD 4611686018427377339=ab ((2:Nat):Int):=by kernel_rfl
theorem ZOh:YI yD 2305843009213688669=ab ((3:Nat):Int):=by kernel_rfl
theorem ZOi:YI yD 2305843009213688668=ab ((3:Nat):Int):=by kernel_rfl
noncomputable def ow(F:Nat)(a0:yU)(a1:yU)(a2:yU):yO yU:=
 if(a2==4611686018427377339 || (a2==2305843009213688669 || a2==2305843009213688668))=ae then ab (yao ((a0.toNat*18446744073709551616+a1.toNat) % a2.toNat)) else te F a0 a1 a2
theorem ZJB(a b y:yU):te yD a b y=ow yD a b y:=by
 unfold ow;split
 .rename_i h;simp only[yck,yT]at h;rcases h with rfl|rfl|rfl
  .exact JI (Y:=18446744073709509356) (s:=2) a b (by decide) ZOg (by decide) (by decide) (by kernel_rfl) (by decide) (by decide)
  .exact JI (Y:=18446744073709509352) (s:=3) a b (by decide) ZOh (by decide) (by decide) (by kernel_rfl) (by decide) (by decide)
  .exact JI (Y:=18446744073709509344) (s:=3) a b (by decide) ZOi (by decide) (by decide) (by kernel_rfl) (by decide) (by decide)
 .rfl
noncomputable def ZwX(F:Nat):Fs yb:={ JF F with M:=λx=>ow F x.1 x.2.1 x.2.2}
noncomputable def xb:Fs yb:=ZwX yD
theorem JJ:xb.Ok:=ov (s:=JF yD) Zvi λx=>(ZJB x.1 x.2.1 x.2.2).symm
end Go.Proofs.YtcbhhaigilifgaaGreat
end
section
set_option maxRecDepth 4000
namespace Go.Proofs.YtcbhhaigilifgaaGreat
open Go Go.Ev
noncomputable section
def xc(F:Nat)(a0:yU)(a1:yU):yO ((yU×yU)):=
 let a:yU:=ZE ((a0&&&4294967295)*(a1&&&4294967295)) 32;let b:yU:=(((ZE a0 32)*(a1&&&4294967295))+a)&&&4294967295;let c:yU:=ZE (((ZE a0 32)*(a1&&&4294967295))+a) 32;let d:yU:=ZE (b+((a0&&&4294967295)*(ZE a1 32))) 32
 ab ((((ZE a0 32)*(ZE a1 32))+c)+d,a0*a1)
def JK(F:Nat):Fs yb:=⟨222,[.v .u64,.v .u64],[],[.u64,.u64],[⟨.ret,[(0,.bm [.v .u64,.v .u64])],[],[.u64,.u64]⟩],λx=>xc F x.1 x.2⟩
def ZwY:Fs yb:=JK yD
theorem Zvj:ZwY.Ok:=aQ { still:=[4,5]} [] [] trivial
end
end Go.Proofs.YtcbhhaigilifgaaGreat
end
section
set_option maxRecDepth 4000
namespace Go.Proofs.YtcbhhaigilifgaaGreat
open Go Go.Ev
theorem ZJC(x y:yU):∃h l,xc yD x y=ab (h,l)/\h.toNat*18446744073709551616+l.toNat=x.toNat*y.toNat:=by
 unfold xc;refine⟨_,_,rfl, ?_⟩;have hx:=ybm x;have hy:=ybm y;have F:x.toNat % 4294967296 < 4294967296:=Nat.mod_lt _ (by decide);have G:y.toNat % 4294967296 < 4294967296:=Nat.mod_lt _ (by decide);have I:x.toNat / 4294967296 < 4294967296:=by omega
 have M:y.toNat / 4294967296 < 4294967296:=by omega
 have xe:x.toNat=x.toNat / 4294967296*4294967296+x.toNat % 4294967296:=by omega
 have ye:y.toNat=y.toNat / 4294967296*4294967296+y.toNat % 4294967296:=by omega
 generalize j:x.toNat / 4294967296=f at*;generalize m:x.toNat % 4294967296=g at*;generalize z:y.toNat / 4294967296=y1 at*;generalize E:y.toNat % 4294967296=y0 at*;have p00:=tf F G;have p10:=tf I G;have p01:=tf F M;have p11:=tf I M
 have prod:x.toNat*y.toNat=f*y1*18446744073709551616+(f*y0+g*y1)*4294967296+g*y0:=by
  rw[xe,ye,ybc,Nat.mul_add,Nat.mul_add]
  have e1:f*4294967296*(y1*4294967296)=f*y1*18446744073709551616:=by
   rw[Nat.mul_assoc,Nat.mul_left_comm 4294967296 y1, <-Nat.mul_assoc]
  have e2:f*4294967296*y0=f*y0*4294967296:=by rw[Nat.mul_right_comm]
  have e3:g*(y1*4294967296)=g*y1*4294967296:=by rw[Nat.mul_assoc]
  rw[e1,e2,e3];omega
 have T:((x&&&4294967295)*(y&&&4294967295)).toNat=g*y0:=by
  rw[qc (by rw[jO,jO,m,E];omega),jO,jO,m,E]
 have Q:((ZE x 32)*(y&&&4294967295)).toNat=f*y0:=by
  rw[qc (by rw[gS,jO,show(2:Nat) ^ 32=4294967296 from rfl,j,E];omega),gS,jO,show(2:Nat) ^ 32=4294967296 from rfl,j,E]
 have R:((x&&&4294967295)*(ZE y 32)).toNat=g*y1:=by
  rw[qc (by rw[gS,jO,show(2:Nat) ^ 32=4294967296 from rfl,m,z];omega),gS,jO,show(2:Nat) ^ 32=4294967296 from rfl,m,z]
 have S:((ZE x 32)*(ZE y 32)).toNat=f*y1:=by
  rw[qc (by rw[gS,gS,show(2:Nat) ^ 32=4294967296 from rfl,j,z];omega),gS,gS,show(2:Nat) ^ 32=4294967296 from rfl,j,z]
 generalize hA:((x&&&4294967295)*(y&&&4294967295):yU)=A at*;generalize hB:((ZE x 32)*(y&&&4294967295):yU)=B at*;generalize hC:((x&&&4294967295)*(ZE y 32):yU)=C at*;generalize hD:((ZE x 32)*(ZE y 32):yU)=D at*;have s1:(ZE A 32).toNat=g*y0 / 4294967296:=by rw[gS,T]
 have U:(B+ZE A 32).toNat=f*y0+g*y0 / 4294967296:=by rw[qb (by rw[Q,s1];omega),Q,s1]
 have W:((B+ZE A 32)&&&4294967295).toNat=(f*y0+g*y0 / 4294967296) % 4294967296:=by rw[jO,U]
 have X:(ZE (B+ZE A 32) 32).toNat=(f*y0+g*y0 / 4294967296) / 4294967296:=by rw[gS,U]
 have s5:(((B+ZE A 32)&&&4294967295)+C).toNat=(f*y0+g*y0 / 4294967296) % 4294967296+g*y1:=by rw[qb (by rw[W,R];omega),W,R]
 have Y:(ZE (((B+ZE A 32)&&&4294967295)+C) 32).toNat=((f*y0+g*y0 / 4294967296) % 4294967296+g*y1) / 4294967296:=by rw[gS,s5]
 have Z:(D+ZE (B+ZE A 32) 32).toNat=f*y1+(f*y0+g*y0 / 4294967296) / 4294967296:=by rw[qb (by rw[S,X];omega),S,X]
 have s8:(x*y).toNat=x.toNat*y.toNat % 18446744073709551616:=UInt64.toNat_mul ..
 have s9:((D+ZE (B+ZE A 32) 32)+ZE (((B+ZE A 32)&&&4294967295)+C) 32).toNat=f*y1+(f*y0+g*y0 / 4294967296) / 4294967296+((f*y0+g*y0 / 4294967296) % 4294967296+g*y1) / 4294967296:=by
  rw[qb (by rw[Z,Y];omega),Z,Y]
 rw[s9,s8,prod];generalize g*y0=a at*;generalize f*y0=b at*;generalize g*y1=c at*;generalize f*y1=d at*;omega
theorem ZJD(x y:yU):xc yD x y=ab (yao (x.toNat*y.toNat / 18446744073709551616),yao (x.toNat*y.toNat % 18446744073709551616)):=by
 obtain⟨h,l,e,k⟩:=ZJC x y;have f:=ybm l;rw[e, <-k,show(h.toNat*18446744073709551616+l.toNat) / 18446744073709551616=h.toNat by omega,show(h.toNat*18446744073709551616+l.toNat) % 18446744073709551616=l.toNat by omega,UInt64.ofNat_toNat,UInt64.ofNat_toNat]
noncomputable def xf(F:Nat)(a0:yU)(a1:yU):yO (yU×yU):=ab (yao (a0.toNat*a1.toNat / 18446744073709551616),yao (a0.toNat*a1.toNat % 18446744073709551616))
noncomputable def ZwZ(F:Nat):Fs yb:={ JK F with M:=λx=>xf F x.1 x.2}
noncomputable def JL:Fs yb:=ZwZ yD
theorem Zok:JL.Ok:=ov (s:=JK yD) Zvj λx=>(ZJD x.1 x.2).symm
end Go.Proofs.YtcbhhaigilifgaaGreat
end
section
set_option maxRecDepth 4000
namespace Go.Proofs.YtcbhhaigilifgaaGreat
open Go Go.Ev
noncomputable section
def YN(F:Nat)(a0:yU)(a1:yU):yO (yU):=
 (xf F a0 a1).bind λa=>
 (ow F a.1 a.2 4611686018427377339).bind λb=>
 ab b
def JM:Fs yb:=⟨200,[.v .u64,.v .u64],[],[.u64,.u64],(zN .u64),λx=>YN yD x.1 x.2⟩
theorem Zmh:JM.Ok:=aQ { still:=[4,8,9,13,14]} [] [JL,xb] ⟨Zok,JJ,ao⟩
def VY(F:Nat)(s:(yU×yU×yU)):yO ((yU×yU×yU)⊕yU):=
 if(ag (s.2.1 > 0))=ae then
  if((s.2.1&&&1)==1)=ae then
   (YN F s.2.2 s.1).bind λa=>
   (YN F s.1 s.1).bind λb=>
   ab (.inl (b,ZE s.2.1 1,a))
  else
  (YN F s.1 s.1).bind λc=>
  ab (.inl (c,ZE s.2.1 1,s.2.2))
 else
 ab (.inr s.2.2)
def Zla:Lp:=⟨[(0,.v .u64),(1,.v .u64),(5,.v .u64)],[],[.u64,.u64,.u64],[⟨.exit 0,[(5,.v .u64)],[],[.u64]⟩],Zd (VY yD) yD⟩
theorem Zo6:Zla.bt yb 154 0:=Zt { still:=[4,13,14,16,17]} [] [JM] ⟨Zmh,ao⟩
def JN(F:Nat)(a0:yU)(a1:yU):yO (yU):=
 (Zd (VY F) F (a0,a1,1)).bind λa=>
 ab a
def JO(F:Nat):Fs yb:=⟨154,[.v .u64,.v .u64],[],[.u64,.u64],(zN .u64),λx=>JN F x.1 x.2⟩
def Zvk:Fs yb:=JO yD
theorem Ztj:Zvk.Ok:=aQ { still:=[4,13,14,16,17]} [(0,Zla)] [] trivial ⟨Zo6,ao⟩
end
end Go.Proofs.YtcbhhaigilifgaaGreat
end
section
namespace Go.Ev
def fx(m:Nat):Nat->Nat->Nat->Nat->Nat
 |0,_,_,o=>o
 |f+1,a,n,o=>if n=0 then o else fx m f (a*a % m) (n / 2) (if n % 2=1 then o*a % m else o)
theorem ZFE{m:Nat}:∀(k a n o:Nat),n < 2 ^ k->fx m k a n o % m=o*a ^ n % m
 |0,a,n,o,h=>by
  have:n=0:=by rw[Nat.pow_zero]at h;omega
  subst this
  rw[fx,Nat.pow_zero,Nat.mul_one]
 |k+1,a,n,o,h=>by
  rw[fx];by_cases f:n=0
  .rw[yW f,f,Nat.pow_zero,Nat.mul_one]
  rw[yX f,ZFE k _ _ _ (by rw[Nat.pow_succ]at h;omega)]
  have e:a ^ n=(a*a) ^ (n / 2)*a ^ (n % 2):=by
   rw[<-Nat.pow_two, <-Nat.pow_mul, <-Nat.pow_add];congr 1;omega
  have g:(a*a % m) ^ (n / 2) % m=(a*a) ^ (n / 2) % m:=(Nat.pow_mod ..).symm;rw[e];split
  .rename_i j;rw[j,Nat.pow_one,Nat.mul_mod,g, <-Nat.mul_mod,Nat.mul_mod,Nat.mod_mod, <-Nat.mul_mod];congr 1;rw[Nat.mul_assoc,ybo a]
  .rename_i j;have:n % 2=0:=by omega
   rw[this,Nat.pow_zero,Nat.mul_one,Nat.mul_mod,g, <-Nat.mul_mod]
def ord:Nat:=2305843009213688669
def jn:Nat:=4611686018427377339
def eS(a:Nat):Prop:=0 < a/\a < jn/\a ^ ord % jn=1
end Go.Ev
end
section
set_option maxRecDepth 4000
namespace Go.Proofs.YtcbhhaigilifgaaGreat
open Go Go.Ev
theorem JP{z:Nat}:(yao (z % 4611686018427377339)).toNat=z % 4611686018427377339:=by
 rw[ybe,yap];exact Nat.lt_trans (Nat.mod_lt _ (by decide)) (by decide)
theorem ZJF(a b:yU):YN yD a b=ab (yao (a.toNat*b.toNat % 4611686018427377339)):=by
 unfold YN xf;rw[ya];dsimp only;unfold ow;rw[yW (by decide),ya,ybe,ybe];have h:a.toNat*b.toNat < 18446744073709551616*18446744073709551616:=Nat.mul_lt_mul'' (ybm a) (ybm b);have f:a.toNat*b.toNat / 18446744073709551616 < 18446744073709551616:=(Nat.div_lt_iff_lt_mul (by decide)).2 h;generalize a.toNat*b.toNat=z at*;rw[show(4611686018427377339:yU).toNat=4611686018427377339 from rfl]
 have e:z / 18446744073709551616 % 2 ^ 64*18446744073709551616+z % 18446744073709551616 % 2 ^ 64=z:=by omega
 rw[e]
theorem JQ:∀(k m:Nat)(A N O:yU),N.toNat < 2 ^ k->k < m->Zd (VY yD) m (A,N,O)=ab (yao (fx 4611686018427377339 k A.toNat N.toNat O.toNat))
 |k,0,_,_,_,_,h=>by omega
 |0,m+1,A,N,O,h,_=>by
  have F:¬N > 0:=by
   intro j;have z:0 < N.toNat:=yca.1 j;rw[Nat.pow_zero]at h;omega
  have hs:VY yD (A,N,O)=if ag (N > 0)=ae then(if((N&&&1)==1)=ae then(YN yD O A).bind λE=>(YN yD A A).bind λf=>ab (.inl (f,ZE N 1,E)) else(YN yD A A).bind λf=>ab (.inl (f,ZE N 1,O))) else ab (.inr O):=rfl
  unfold Zd;rw[hs]
  rw[yX (by rw[yN];exact F),ya,fx,UInt64.ofNat_toNat]
 |k+1,m+1,A,N,O,h,I=>by
  have hs:VY yD (A,N,O)=if ag (N > 0)=ae then(if((N&&&1)==1)=ae then(YN yD O A).bind λE=>(YN yD A A).bind λf=>ab (.inl (f,ZE N 1,E)) else(YN yD A A).bind λf=>ab (.inl (f,ZE N 1,O))) else ab (.inr O):=rfl
  unfold Zd;rw[hs];by_cases j:N > 0
  .have G:0 < N.toNat->fx 4611686018427377339 (k+1) A.toNat N.toNat O.toNat=fx 4611686018427377339 k (A.toNat*A.toNat % 4611686018427377339) (N.toNat / 2) (if N.toNat % 2=1 then O.toNat*A.toNat % 4611686018427377339 else O.toNat):=λh=>by
    rw[fx,yX (by omega)]
   have z:0 < N.toNat:=yca.1 j
   have g:(ZE N 1).toNat=N.toNat / 2:=by
    unfold ZE;rw[ybe,yap (Nat.lt_of_le_of_lt (Nat.div_le_self ..) (ybm _))]
   have l:(ZE N 1).toNat < 2 ^ k:=by
    rw[g];rw[Nat.pow_succ]at h;omega
   have y:((N&&&1)==1)=ag (N.toNat % 2=1):=by
    rw[Bool.eq_iff_iff,yT,yN, <-UInt64.toNat_inj,UInt64.toNat_and];exact Iff.of_eq (congrArg (· =1) (Nat.and_one_is_mod _))
   rw[yW (yY j),y,G z];simp only[ZJF];by_cases B:N.toNat % 2=1
   .rw[yW (yY B),yW B,ya,ya,ya];dsimp only;rw[JQ k m _ _ _ l (by omega),JP,JP,g]
   .rw[yX (by rw[yN];exact B),yX B,ya,ya];dsimp only;rw[JQ k m _ _ _ l (by omega),JP,g]
  .have z:N.toNat=0:=by
    rcases Nat.eq_zero_or_pos N.toNat with h5|h5
    .exact h5
    .exact absurd (show(0:yU) < N from yca.2 h5) j
   rw[yX (by rw[yN];exact j),ya,fx,yW z,UInt64.ofNat_toNat]
theorem ZJG(a n:yU):JN yD a n=ab (yao (fx 4611686018427377339 64 a.toNat n.toNat 1)):=by
 unfold JN;rw[JQ 64 yD a n 1 (ybm _) (by rw[iI];omega),ya];rfl
noncomputable def qd(F:Nat)(a0:yU)(a1:yU):yO yU:=ab (yao (fx 4611686018427377339 64 a0.toNat a1.toNat 1))
noncomputable def Zvm(F:Nat):Fs yb:={ JO F with M:=λx=>qd F x.1 x.2}
noncomputable def xg:Fs yb:=Zvm yD
theorem JR:xg.Ok:=ov (s:=JO yD) Ztj λx=>(ZJG x.1 x.2).symm
end Go.Proofs.YtcbhhaigilifgaaGreat
end
section
set_option maxRecDepth 4000
namespace Go.Proofs.YtcbhhaigilifgaaGreat
open Go Go.Ev
noncomputable section
def XD(F:Nat)(a0:yU):yO (Bool):=
 if(ag (a0 > 0))=ae then
  if(ag (a0 < 4611686018427377339))=ae then
   (qd F a0 2305843009213688669).bind λa=>
   ab (a==1)
  else
  ab af
 else
 ab af
def VG:Fs yb:=⟨78,[.v .u64],[],[.u64],(zN .bool),λx=>XD yD x⟩
theorem VZ:VG.Ok:=aQ { still:=[2,10]} [] [xg] ⟨JR,ao⟩
def QI(F:Nat)(a0:yU):yO (Bool):=
 (XD F a0).bind λa=>
 ab (!a)
def JS:Fs yb:=⟨146,[.v .u64],[],[.u64],(zN .bool),λx=>QI yD x⟩
theorem Zlb:JS.Ok:=aQ { still:=[2,3]} [] [VG] ⟨VZ,ao⟩
def Qf(F:Nat)(a0:Int):yO (Bool):=
 if(ag (a0 >= 0))=ae then
  ab (ag (a0<=1048576))
 else
 ab af
def Zol:Fs yb:=⟨148,[.v yI],[],[yI],(zN .bool),λx=>Qf yD x⟩
theorem Zvn:Zol.Ok:=aQ { still:=[2]} [] [] trivial
abbrev _root_.aQk:Go.Ev.Ty:=.sl .u64
abbrev ZB:Ty:=(.st [aQk,yI,yI,.u64])
abbrev _root_.aQq:=yL yU
abbrev ZW:Type:=(aQq×Int×Int×yU)
abbrev _root_.aQw:Go.Ev.Ty:=.sl ZB
abbrev Zv:Ty:=(.st [aQw])
abbrev _root_.aQu:=yL ZW
abbrev ZC:Type:=aQu
def XE(F:Nat)(s:(aQq×Int×Int)):yO ((aQq×Int×Int)⊕(Int⊕Unit)):=
 if(ag (s.2.2 < s.2.1))=ae then
  (idx s.1 s.2.2).bind λa=>
  (QI F a).bind λb=>
  if b=ae then
   ab (.inr (.inl s.2.2))
  else
  ab (.inl (s.1,s.2.1,wi (s.2.2+1)))
 else
 ab (.inr (.inr ()))
def Zjp:Lp:=⟨[(0,.v aQk),(1,.fn 146 []),(7,.v yI),(8,.v yI)],[],[aQk,yI,yI],[⟨.ret,[(4,.v yI)],[],[yI]⟩,⟨.exit 0,[],[],[]⟩],Zd (XE yD) yD⟩
theorem ZnU:Zjp.bt yb 196 0:=Zt { still:=[4,15]} [] [JS] ⟨Zlb,ao⟩
def xh(F:Nat)(a0:aQq):yO (Int):=
 (Zd (XE F) F (a0,(a0.length:Int),0)).bind λa=>
 match a with
 |.inl b=>
  ab b
 |.inr c=>
  ab (-1)
def Zlc:Fs yb:=⟨196,[.v aQk,.fn 146 []],[],[aQk],(zN yI),λx=>xh yD x⟩
theorem ZrQ:Zlc.Ok:=aQ { still:=[4,15]} [(0,Zjp)] [] trivial ⟨ZnU,ao⟩
def qe(F:Nat)(a0:aQq):yO (Bool):=
 (xh F a0).bind λa=>
 ab (ag (a >= 0))
def ZsF:Fs yb:=⟨147,[.v aQk,.fn 146 []],[],[aQk],(zN .bool),λx=>qe yD x⟩
theorem ZzX:ZsF.Ok:=aQ { still:=[4,5,6]} [] [Zlc] ⟨ZrQ,ao⟩
def WZ(F:Nat)(s:(aQu×Int×Int×ZC)):yO ((aQu×Int×Int×ZC)⊕((Bool×ZC)⊕ZC)):=
 if(ag (s.2.2.1 < s.2.1))=ae then
  (idx s.1 s.2.2.1).bind λa=>
  if(ag ((a.1.length:Int) > 12))=ae then
   ab (.inr (.inl (af,s.2.2.2)))
  else
  (qe F a.1).bind λb=>
  if b=ae then
   ab (.inr (.inl (af,s.2.2.2)))
  else
  (Qf F a.2.1).bind λc=>
  if(!c)=ae then
   ab (.inr (.inl (af,s.2.2.2)))
  else
  (Qf F a.2.2.1).bind λd=>
  if(!d)=ae then
   ab (.inr (.inl (af,s.2.2.2)))
  else
  if(a.2.2.2 !=0)=ae then
   (QI F a.2.2.2).bind λe=>
   if e=ae then
    ab (.inr (.inl (af,s.2.2.2)))
   else
   ab (.inl (s.1,s.2.1,wi (s.2.2.1+1),s.2.2.2))
  else
  ab (.inl (s.1,s.2.1,wi (s.2.2.1+1),s.2.2.2))
 else
 ab (.inr (.inr s.2.2.2))
def Zom:Lp:=⟨[(1,.aj 0 []),(3,.fn 146 []),(7,.v aQw),(8,.v yI),(9,.v yI)],[.var (.v Zv) ae],[aQw,yI,yI,Zv],[⟨.ret,[(2,.v .bool)],[.var (.v Zv) ae],[.bool,Zv]⟩,⟨.exit 0,[(1,.aj 0 [])],[.var (.v Zv) ae],[Zv]⟩],Zd (WZ yD) yD⟩
theorem ZrR:Zom.bt yb 75 0:=Zt { still:=[2,19,20,25,31,42]} [] [ZsF,Zol,JS] ⟨ZzX,Zvn,Zlb,ao⟩
def We(F:Nat)(a0:ZC):yO (Bool):=
 (Zd (WZ F) F (a0,(a0.length:Int),0,a0)).bind λa=>
 match a with
 |.inl b=>
  ab b.1
 |.inr c=>
  if(ag ((c.length:Int) > 0))=ae then
   ab (ag ((c.length:Int)<=4))
  else
  ab af
def qf:Fs yb:=⟨75,[.v Zv],[],[Zv],(zN .bool),λx=>We yD x⟩
theorem tg:qf.Ok:=aQ { still:=[2,19,20,25,31,42]} [(0,Zom)] [] trivial ⟨ZrR,ao⟩
def th(F:Nat)(a0:Int):yO (Bool):=
 if(ag (a0 >= 0))=ae then
  ab (ag (a0<=1125899906842624))
 else
 ab af
def ZsG:Fs yb:=⟨158,[.v yI],[],[yI],(zN .bool),λx=>th yD x⟩
theorem ZzY:ZsG.Ok:=aQ { still:=[2]} [] [] trivial
def oz(F:Nat)(a0:Int)(a1:Int):yO ((Int×Bool)):=
 (th F a0).bind λa=>
 if(!a)=ae then
  ab (0,af)
 else
 (th F a1).bind λb=>
 if(!b)=ae then
  ab (0,af)
 else
 if(ag (a0 > (wi (1125899906842624 - a1))))=ae then
  ab (0,af)
 else
 ab (wi (a0+a1),ae)
def JT:Fs yb:=⟨85,[.v yI,.v yI],[],[yI,yI],[⟨.ret,[(0,.bm [.v yI,.v .bool])],[],[yI,.bool]⟩],λx=>oz yD x.1 x.2⟩
theorem Zvo:JT.Ok:=aQ { still:=[4,5,6,10]} [] [ZsG] ⟨ZzY,ao⟩
abbrev gU:Ty:=(.st [.u64,.u64])
abbrev gi:Type:=(yU×yU)
abbrev Y2:Ty:=(.st [yI,(.sl gU),.u64])
abbrev WK:Type:=(Int×(yL gi)×yU)
def ti(F:Nat)(a0:WK):yO (Bool):=
 if(ag (a0.1 >= 0))=ae then
  if(ag (a0.1 < 4))=ae then
   ab (ag ((a0.2.1.length:Int)<=12))
  else
  ab af
 else
 ab af
def Zqh:Fs yb:=⟨118,[.v Y2],[],[Y2],(zN .bool),λx=>ti yD x⟩
theorem Zw0:Zqh.Ok:=aQ { still:=[2]} [] [] trivial
abbrev _root_.aQe:Go.Ev.Ty:=.arr 32 .u8
abbrev ZQ:Ty:=(.st [aQe,yI])
abbrev ZO:Type:=(aQa×Int)
abbrev ZO.N(x:ZO):Int:=x.2
abbrev bP:Ty:=(.st [ZQ,Y2])
abbrev In:Type:=(ZO×WK)
abbrev Yn:Ty:=(.st [yI,Zv])
abbrev Out:Type:=(Int×ZC)
abbrev _root_.aQi:Go.Ev.Ty:=.sl bP
abbrev _root_.aQp:Go.Ev.Ty:=.sl Yn
abbrev aJ:Ty:=(.st [aQi,aQp,yI])
abbrev _root_.aQm:=yL In
abbrev _root_.aQr:=yL Out
abbrev Tx:Type:=(aQm×aQr×Int)
def qg(F:Nat):(aQm×Int×Int×Tx×(yL (ZO×Bool)))->yO ((aQm×Int×Int×Tx×(yL (ZO×Bool)))⊕((Bool×Tx×(yL (ZO×Bool)))⊕(Tx×(yL (ZO×Bool)))))
 |(c,b,a,e,d)=>
 if(ag (a < b))=ae then
  (idx c a).bind λf=>
  pD (hP d f.1) (λg=>
   if g=ae then
    ab (.inr (.inl (af,e,d)))
   else
   if(ag (f.1.2 < 0))=ae then
    ab (.inr (.inl (af,e,d)))
   else
   if(ag (f.1.2 >= 64))=ae then
    ab (.inr (.inl (af,e,d)))
   else
   (ti F f.2).bind λh=>
   if(!h)=ae then
    ab (.inr (.inl (af,e,d)))
   else
   ab (.inl (c,b,wi (a+1),e,jg d f.1 ae))) (
   if(ag (f.1.2 < 0))=ae then
    ab (.inr (.inl (af,e,d)))
   else
   if(ag (f.1.2 >= 64))=ae then
    ab (.inr (.inl (af,e,d)))
   else
   (ti F f.2).bind λi=>
   if(!i)=ae then
    ab (.inr (.inl (af,e,d)))
   else
   ab (.inl (c,b,wi (a+1),e,jg d f.1 ae)))
 else
 ab (.inr (.inr (e,d)))
def ZsH:Lp:=⟨[(1,.aj 0 []),(3,.mp 1),(33,.v aQi),(34,.v yI),(35,.v yI)],[.var (.v aJ) ae,.map 219 ZQ .bool],[aQi,yI,yI,aJ,(jj ZQ .bool)],[⟨.ret,[(2,.v .bool)],[.var (.v aJ) ae,.map 219 ZQ .bool],[.bool,aJ,(jj ZQ .bool)]⟩,⟨.exit 0,[(1,.aj 0 [])],[.var (.v aJ) ae,.map 219 ZQ .bool],[aJ,(jj ZQ .bool)]⟩],Zd (qg yD) yD⟩
theorem Zvp:ZsH.bt yb 58 0:=Zt { still:=[2,57,73,75,83]} [] [Zqh] ⟨Zw0,ao⟩
def qh(F:Nat):(Int×aQr×Int×Int×Tx×(yL (ZO×Bool)))->yO ((Int×aQr×Int×Int×Tx×(yL (ZO×Bool)))⊕((Bool×Tx×(yL (ZO×Bool)))⊕(Tx×(yL (ZO×Bool)))))
 |(d,c,b,a,e,f)=>
 if(ag (a < b))=ae then
  (idx c a).bind λg=>
  (oz F d g.1).bind λh=>
  if(!h.2)=ae then
   ab (.inr (.inl (af,e,f)))
  else
  (We F g.2).bind λi=>
  if(!i)=ae then
   ab (.inr (.inl (af,e,f)))
  else
  ab (.inl (h.1,c,b,wi (a+1),e,f))
 else
 ab (.inr (.inr (e,f)))
def ZsI:Lp:=⟨[(6,.v yI),(66,.v aQp),(67,.v yI),(68,.v yI)],[.var (.v aJ) ae,.map 219 ZQ .bool],[yI,aQp,yI,yI,aJ,(jj ZQ .bool)],[⟨.ret,[(2,.v .bool)],[.var (.v aJ) ae,.map 219 ZQ .bool],[.bool,aJ,(jj ZQ .bool)]⟩,⟨.exit 2,[],[.var (.v aJ) ae,.map 219 ZQ .bool],[aJ,(jj ZQ .bool)]⟩],Zd (qh yD) yD⟩
theorem Zvq:ZsI.bt yb 58 1:=Zt { still:=[2,57,73,75,83]} [] [JT,qf] ⟨Zvo,tg,ao⟩
def lH(F:Nat)(a0:Tx):yO (Bool):=
 if(ag ((a0.1.length:Int) < 1))=ae then
  ab af
 else
 if(ag ((a0.1.length:Int) > 64))=ae then
  ab af
 else
 if(ag ((a0.2.1.length:Int) > 64))=ae then
  ab af
 else
 if(ag (a0.2.2 < 0))=ae then
  ab af
 else
 (Zd (qg F) F (a0.1,(a0.1.length:Int),0,a0,([]:yL (ZO×Bool)))).bind λa=>
 match a with
 |.inl b=>
  ab b.1
 |.inr c=>
  (Zd (qh F) F (0,c.1.2.1,(c.1.2.1.length:Int),0,c.1,c.2)).bind λd=>
  match d with
  |.inl e=>
   ab e.1
  |.inr f=>
   ab ae
def tj:Fs yb:=⟨58,[.v aJ],[],[aJ],(zN .bool),λx=>lH yD x⟩
theorem xi:tj.Ok:=aQ { still:=[2,57,73,75,83]} [(0,ZsH),(1,ZsI)] [] trivial ⟨Zvp,Zvq,ao⟩
def Yf(F:Nat)(a0:aQa):yO (aQa):=
 if(cf 0 a0.length 1)=ae then
  ab a0
 else
 ad
abbrev _root_.aQb:Go.Ev.Ty:=.sl .u8
def Ziu:Fs yb:=⟨160,[.sl ae .u8],[],[aQb],(zN aQb),λx=>Yf yD x⟩
theorem ZhA:Ziu.Ok:=aQ { own:=[5,7],still:=[2]} [] [] trivial
def Zag(F:Nat):yO (aQa):=
 ab []
def ZfW:Fs yb:=⟨160,[.nil .u8],[],[],(zN aQb),λx=>Zag yD⟩
theorem Ze7:ZfW.Ok:=aQ { own:=[5,7],still:=[2]} [] [] trivial
def W0:Fs yb:=⟨160,[.v aQb],[],[aQb],(zN aQb),λx=>Yf yD x⟩
theorem QU:W0.Ok:=sP (t:=.u8) (xs:=(zN aQb)) (MA:=λ(x:aQa)=>Yf yD x) (MB:=λ_=>Zag yD) ZhA Ze7 rfl
abbrev _root_.aQd:=yL yV
def JU(F:Nat):yO (aQd):=
 ab [1779033703,3144134277,1013904242,2773480762,1359893119,2600822924,528734635,1541459225]
def Zqi:Fs yb:=⟨197,[],[],[],(zN (.arr 8 .u32)),λx=>JU yD⟩
theorem Zw1:Zqi.Ok:=aQ {} [] [] trivial
def ZU(F:Nat)(a0:yV)(a1:Int):yO (yV):=
 let a:yV:=fP a0 (min (((dj a1)&&&31).toNat:Int).toNat 32);let b:yV:=gJ a0 (min ((32 - ((dj a1)&&&31)).toNat:Int).toNat 32)
 ab (a|||b)
def JV:Fs yb:=⟨220,[.v .u32,.v yI],[],[.u32,yI],(zN .u32),λx=>ZU yD x.1 x.2⟩
theorem Zeq:JV.Ok:=aQ { still:=[4]} [] [] trivial
def xj(F:Nat)(a0:aQa):yO (yV):=
 (idx a0 0).bind λa=>
 (idx a0 1).bind λb=>
 let c:yV:=(fP (ybn a.toNat) 24)|||(fP (ybn b.toNat) 16)
 (idx a0 2).bind λd=>
 (idx a0 3).bind λe=>
 let f:yV:=(c|||(fP (ybn d.toNat) 8))|||(ybn e.toNat)
 ab f
def Zon:Fs yb:=⟨230,[.v aQb],[],[aQb],(zN .u32),λx=>xj yD x⟩
theorem Zvr:Zon.Ok:=aQ { still:=[2]} [] [] trivial
def QV(F:Nat)(s:(aQa×Int×aQd)):yO ((aQa×Int×aQd)⊕aQd):=
 if(ag (s.2.1 < 64))=ae then
  if(ag (s.2.1 < 16))=ae then
   if(dL s.1.length (ab (wi (4*s.2.1))) ad)=ae then
    (xj F (s.1.drop ((wi (4*s.2.1)).toNat))).bind λa=>
    if(bi s.2.1 64)=ae then
     (s.2.2[s.2.1.toNat]?).bind λb=>
     ab (.inl (s.1,wi (s.2.1+1),s.2.2.set s.2.1.toNat a))
    else
    ad
   else
   ad
  else
  if(bi (wi (s.2.1 - 15)) 64)=ae then
   (s.2.2[(wi (s.2.1 - 15)).toNat]?).bind λc=>
   if(bi (wi (s.2.1 - 2)) 64)=ae then
    (s.2.2[(wi (s.2.1 - 2)).toNat]?).bind λd=>
    (ZU F c (-7)).bind λe=>
    (ZU F c (-18)).bind λf=>
    (ZU F d (-17)).bind λg=>
    (ZU F d (-19)).bind λh=>
    if(bi (wi (s.2.1 - 16)) 64)=ae then
     (s.2.2[(wi (s.2.1 - 16)).toNat]?).bind λi=>
     if(bi (wi (s.2.1 - 7)) 64)=ae then
      (s.2.2[(wi (s.2.1 - 7)).toNat]?).bind λj=>
      let k:yV:=((i+((e^^^f)^^^(gJ c 3)))+j)+((g^^^h)^^^(gJ d 10))
      if(bi s.2.1 64)=ae then
       (s.2.2[s.2.1.toNat]?).bind λl=>
       ab (.inl (s.1,wi (s.2.1+1),s.2.2.set s.2.1.toNat k))
      else
      ad
     else
     ad
    else
    ad
   else
   ad
  else
  ad
 else
 ab (.inr s.2.2)
def Zjq:Lp:=⟨[(0,.v aQb),(2,.aj 0 []),(8,.v yI)],[.var (.v (.arr 64 .u32)) ae],[aQb,yI,(.arr 64 .u32)],[⟨.exit 0,[(2,.aj 0 [])],[.var (.v (.arr 64 .u32)) ae],[(.arr 64 .u32)]⟩],Zd (QV yD) yD⟩
theorem ZnV:Zjq.bt yb 218 0:=Zt { still:=[17,28,30,36,38]} [] [Zon,JV] ⟨Zvr,Zeq,ao⟩
def xk(F:Nat)(a0:aQa):yO (aQd):=
 (Zd (QV F) F (a0,0,[0,0,0,0,0,0,0,0,0,0,0,0,0,0,0,0,0,0,0,0,0,0,0,0,0,0,0,0,0,0,0,0,0,0,0,0,0,0,0,0,0,0,0,0,0,0,0,0,0,0,0,0,0,0,0,0,0,0,0,0,0,0,0,0])).bind λa=>
 ab a
def Zld:Fs yb:=⟨218,[.v aQb],[],[aQb],(zN (.arr 64 .u32)),λx=>xk yD x⟩
theorem ZrT:Zld.Ok:=aQ { still:=[17,28,30,36,38]} [(0,Zjq)] [] trivial ⟨ZnV,ao⟩
def JW(F:Nat):yO (aQd):=
 ab [1116352408,1899447441,3049323471,3921009573,961987163,1508970993,2453635748,2870763221,3624381080,310598401,607225278,1426881987,1925078388,2162078206,2614888103,3248222580,3835390401,4022224774,264347078,604807628,770255983,1249150122,1555081692,1996064986,2554220882,2821834349,2952996808,3210313671,3336571891,3584528711,113926993,338241895,666307205,773529912,1294757372,1396182291,1695183700,1986661051,2177026350,2456956037,2730485921,2820302411,3259730800,3345764771,3516065817,3600352804,4094571909,275423344,430227734,506948616,659060556,883997877,958139571,1322822218,1537002063,1747873779,1955562222,2024104815,2227730452,2361852424,2428436474,2756734187,3204031479,3329325298]
def Zqj:Fs yb:=⟨219,[],[],[],(zN (.arr 64 .u32)),λx=>JW yD⟩
theorem Zw2:Zqj.Ok:=aQ {} [] [] trivial
def Qg(F:Nat):(Int×aQd×aQd×aQd×aQd×aQd)->yO ((Int×aQd×aQd×aQd×aQd×aQd)⊕(aQd×aQd×aQd×aQd×aQd))
 |(a,e,f,d,c,b)=>
 if(ag (a < 64))=ae then
  (b[4]?).bind λg=>
  (ZU F g (-6)).bind λh=>
  (b[4]?).bind λi=>
  (ZU F i (-11)).bind λj=>
  (b[4]?).bind λk=>
  (ZU F k (-25)).bind λl=>
  (b[7]?).bind λm=>
  (b[6]?).bind λn=>
  (b[4]?).bind λo=>
  (b[5]?).bind λp=>
  (b[6]?).bind λq=>
  let r:yV:=(m+((h^^^j)^^^l))+(n^^^(o&&&(p^^^q)))
  if(bi a 64)=ae then
   (c[a.toNat]?).bind λs=>
   if(bi a 64)=ae then
    (d[a.toNat]?).bind λt=>
    (b[0]?).bind λu=>
    (ZU F u (-2)).bind λv=>
    (b[0]?).bind λw=>
    (ZU F w (-13)).bind λx=>
    (b[0]?).bind λy=>
    (ZU F y (-22)).bind λz=>
    (b[0]?).bind λA=>
    (b[1]?).bind λB=>
    (b[2]?).bind λC=>
    (b[0]?).bind λD=>
    (b[1]?).bind λE=>
    let G:yV:=((r+s)+t)+((v^^^x)^^^z);let H:yV:=G+((A&&&B)|||(C&&&(D|||E)))
    (b[0]?).bind λI=>
    (b[1]?).bind λJ=>
    (b[2]?).bind λK=>
    (b[3]?).bind λL=>
    (b[4]?).bind λM=>
    (b[5]?).bind λN=>
    (b[6]?).bind λO=>
    ab (.inl (wi (a+1),e,f,d,c,[H,I,J,K,L+((r+s)+t),M,N,O]))
   else
   ad
  else
  ad
 else
 ab (.inr (e,f,d,c,b))
def xl:yL bC:=[.var (.v (.arr 8 .u32)) ae,.var (.v (.arr 8 .u32)) ae,.var (.v (.arr 64 .u32)) ae,.var (.v (.arr 64 .u32)) ae,.var (.v (.arr 8 .u32)) ae]
def Zh5:Lp:=⟨[(2,.aj 0 []),(4,.aj 1 []),(5,.aj 2 []),(6,.aj 3 []),(7,.aj 4 []),(18,.v yI)],xl,[yI,(.arr 8 .u32),(.arr 8 .u32),(.arr 64 .u32),(.arr 64 .u32),(.arr 8 .u32)],[⟨.exit 0,[(2,.aj 0 []),(4,.aj 1 []),(7,.aj 4 [])],xl,[(.arr 8 .u32),(.arr 8 .u32),(.arr 64 .u32),(.arr 64 .u32),(.arr 8 .u32)]⟩],Zd (Qg yD) yD⟩
def jo:HI:={ still:=[14,22,25,29,57,60,64]}
theorem Zmk:Zh5.bt yb 198 0:=Zt jo [] [JV] ⟨Zeq,ao⟩
def Qh(F:Nat):(Int×aQd×aQd×aQd×aQd×aQd)->yO ((Int×aQd×aQd×aQd×aQd×aQd)⊕(aQd×aQd×aQd×aQd×aQd))
 |(a,c,d,e,f,b)=>
 if(ag (a < 8))=ae then
  if(bi a 8)=ae then
   (b[a.toNat]?).bind λg=>
   if(bi a 8)=ae then
    (c[a.toNat]?).bind λh=>
    if(bi a 8)=ae then
     (b[a.toNat]?).bind λi=>
     ab (.inl (wi (a+1),c,d,e,f,b.set a.toNat (g+h)))
    else
    ad
   else
   ad
  else
  ad
 else
 ab (.inr (c,d,e,f,b))
def Zh6:Lp:=⟨[(2,.aj 0 []),(4,.aj 1 []),(7,.aj 4 []),(104,.v yI)],xl,[yI,(.arr 8 .u32),(.arr 8 .u32),(.arr 64 .u32),(.arr 64 .u32),(.arr 8 .u32)],[⟨.exit 2,[(4,.aj 1 []),(7,.aj 4 [])],xl,[(.arr 8 .u32),(.arr 8 .u32),(.arr 64 .u32),(.arr 64 .u32),(.arr 8 .u32)]⟩],Zd (Qh yD) yD⟩
theorem Zml:Zh6.bt yb 198 1:=Zt jo [] [] trivial
def QA(F:Nat)(a0:aQd)(a1:aQa):yO (aQd):=
 (xk F a1).bind λg=>
 (JW F).bind λh=>
 (Zd (Qg F) F (0,a0,[0,0,0,0,0,0,0,0],g,h,a0)).bind λ(b,c,d,e,f)=>
 (Zd (Qh F) F (0,b,c,d,e,f)).bind λ(_,_,_,_,a)=>
 ab a
def JX:Fs yb:=⟨198,[.v (.arr 8 .u32),.v aQb],[],[(.arr 8 .u32),aQb],(zN (.arr 8 .u32)),λx=>QA yD x.1 x.2⟩
theorem Zh7:JX.Ok:=aQ jo [(0,Zh5),(1,Zh6)] [Zld,Zqj] ⟨ZrT,Zw2,ao⟩ ⟨Zmk,Zml,ao⟩
def Yg(F:Nat)(a0:aQa):yO (aQa):=
 if(cf 0 a0.length 1)=ae then
  ab a0
 else
 ad
def ZfY:Fs yb:=⟨160,[.sl ae .u8],[],[aQb],[⟨.ret,[(0,.own 0 .u8)],[.log .u8 5],[aQb]⟩],λx=>Yg yD x⟩
theorem Ze8:ZfY.Ok:=aQ { own:=[2,5,7]} [] [] trivial
def Zah(F:Nat):yO (aQa):=
 ab []
def ZfZ:Fs yb:=⟨160,[.nil .u8],[],[],[⟨.ret,[(0,.own 0 .u8)],[.log .u8 5],[aQb]⟩],λx=>Zah yD⟩
theorem Ze9:ZfZ.Ok:=aQ { own:=[2,5,7]} [] [] trivial
def V8:Fs yb:=⟨160,[.v aQb],[],[aQb],[⟨.ret,[(0,.own 0 .u8)],[.log .u8 5],[aQb]⟩],λx=>Yg yD x⟩
theorem ZdE:V8.Ok:=sP (t:=.u8) (xs:=[⟨.ret,[(0,.own 0 .u8)],[.log .u8 5],[aQb]⟩]) (MA:=λ(x:aQa)=>Yg yD x) (MB:=λ_=>Zah yD) Ze8 Ze9 rfl
def xm(F:Nat)(s:(aQa×aQa×aQa)):yO ((aQa×aQa×aQa)⊕(aQa×aQa×aQa)):=
 if((Int.tmod (s.2.2.length:Int) 64)!=56)=ae then
  if(cf s.2.2.length 1 1)=ae then
   ab (.inl (s.1,s.2.1,s.2.2++([0]:yL yB)))
  else
  ad
 else
 ab (.inr (s.1,s.2.1,s.2.2))
abbrev zJ:List bC:=[.var (.v aQe) ae,.log .u8 5]
def Zqk:Lp:=⟨[(0,.v aQb),(2,.aj 0 []),(3,.own 1 .u8)],zJ,[aQb,aQe,aQb],[⟨.exit 0,[(0,.v aQb),(2,.aj 0 []),(3,.own 1 .u8)],zJ,[aQb,aQe,aQb]⟩],Zd (xm yD) yD⟩
def oA:HI:={ own:=[3,14,16,21,23,24,28,43],still:=[13,24,27,35,37,44,46]}
theorem Ztk:Zqk.bt yb 150 0:=Zt oA [] [] trivial
def xn(F:Nat)(s:(Int×Int×aQa×aQa)):yO ((Int×Int×aQa×aQa)⊕(aQa×aQa)):=
 if(ag (s.2.1 >= 0))=ae then
  if(ag (0<=s.2.1))=ae then
   if(cf s.2.2.1.length 1 1)=ae then
    let a:aQa:=s.2.2.1++([w8 (Int.fdiv s.1 (2 ^ (min s.2.1.toNat 64)))]:yL yB)
    ab (.inl (s.1,wi (s.2.1 - 8),a,s.2.2.2))
   else
   ad
  else
  ad
 else
 ab (.inr (s.2.2.1,s.2.2.2))
def Zle:Lp:=⟨[(0,.own 0 .u8),(1,.v yI),(5,.v yI)],[.log .u8 5,.log .u8 5],[yI,yI,aQb,aQb],[⟨.exit 0,[(0,.own 0 .u8)],[.log .u8 5,.log .u8 5],[aQb,aQb]⟩],Zd (xn yD) yD⟩
theorem Zo7:Zle.bt yb 149 0:=Zt { own:=[0,4,10,16,17]} [] [] trivial
def VH(F:Nat)(a1:Int)(s0:aQa):yO (aQa):=
 (Zd (xn F) F (a1,56,s0,[])).bind λa=>
 ab a.1
def tk:Fs yb:=⟨149,[.own 0 .u8,.v yI],[.log .u8 5],[yI,aQb],[⟨.ret,[(0,.own 0 .u8)],[.log .u8 5],[aQb]⟩],λx=>VH yD x.1 x.2⟩
theorem JY:tk.Ok:=aQ { own:=[0,4,10,16,17]} [(0,Zle)] [] trivial ⟨Zo7,ao⟩
def xo(F:Nat)(s:(aQa×aQa×aQa×aQd)):yO ((aQa×aQa×aQa×aQd)⊕(aQa×aQa×aQd)):=
 if(ag ((s.1.length:Int) >= 64))=ae then
  if(dL s.1.length ad (ab 64))=ae then
   (QA F s.2.2.2 (s.1.take 64)).bind λa=>
   if(dL s.1.length (ab 64) ad)=ae then
    ab (.inl (s.1.drop 64,s.2.1,s.2.2.1,a))
   else
   ad
  else
  ad
 else
 ab (.inr (s.2.1,s.2.2.1,s.2.2.2))
abbrev zG:List bC:=[.var (.v aQe) ae,.log .u8 5,.var (.v (.arr 8 .u32)) ae]
def Zql:Lp:=⟨[(0,.v aQb),(2,.aj 0 []),(3,.own 1 .u8),(4,.aj 2 [])],zG,[aQb,aQe,aQb,(.arr 8 .u32)],[⟨.exit 2,[(2,.aj 0 []),(3,.own 1 .u8),(4,.aj 2 [])],zG,[aQe,aQb,(.arr 8 .u32)]⟩],Zd (xo yD) yD⟩
theorem Ztl:Zql.bt yb 150 1:=Zt oA [] [JX] ⟨Zh7,ao⟩
def xq(F:Nat)(s:(aQa×aQa×aQa×aQd)):yO ((aQa×aQa×aQa×aQd)⊕(aQa×aQa×aQd)):=
 if(ag ((s.1.length:Int) > 0))=ae then
  if(dL s.1.length ad (ab 64))=ae then
   (QA F s.2.2.2 (s.1.take 64)).bind λa=>
   if(dL s.1.length (ab 64) ad)=ae then
    ab (.inl (s.1.drop 64,s.2.1,s.2.2.1,a))
   else
   ad
  else
  ad
 else
 ab (.inr (s.2.1,s.2.2.1,s.2.2.2))
def Zqm:Lp:=⟨[(2,.aj 0 []),(3,.v aQb),(4,.aj 2 [])],zG,[aQb,aQe,aQb,(.arr 8 .u32)],[⟨.exit 4,[(2,.aj 0 []),(4,.aj 2 [])],zG,[aQe,aQb,(.arr 8 .u32)]⟩],Zd (xq yD) yD⟩
theorem Ztm:Zqm.bt yb 150 2:=Zt oA [] [JX] ⟨Zh7,ao⟩
def xr(F:Nat)(s:(Int×aQa×aQa×aQd)):yO ((Int×aQa×aQa×aQd)⊕(aQa×aQa×aQd)):=
 if(ag (s.1 < 32))=ae then
  if(bi (wi (Int.tdiv s.1 4)) 8)=ae then
   (s.2.2.2[(wi (Int.tdiv s.1 4)).toNat]?).bind λa=>
   if(ag (0<=wi (24 - (wi (8*(Int.tmod s.1 4))))))=ae then
    let b:yV:=gJ a (min (wi (24 - (wi (8*(Int.tmod s.1 4))))).toNat 32)
    if(bi s.1 32)=ae then
     (s.2.1[s.1.toNat]?).bind λc=>
     ab (.inl (wi (s.1+1),s.2.1.set s.1.toNat (w8 (b.toNat:Int)),s.2.2.1,s.2.2.2))
    else
    ad
   else
   ad
  else
  ad
 else
 ab (.inr (s.2.1,s.2.2.1,s.2.2.2))
def Zqn:Lp:=⟨[(2,.aj 0 []),(4,.aj 2 []),(48,.v yI)],zG,[yI,aQe,aQb,(.arr 8 .u32)],[⟨.exit 6,[(2,.aj 0 [])],zG,[aQe,aQb,(.arr 8 .u32)]⟩],Zd (xr yD) yD⟩
theorem Ztn:Zqn.bt yb 150 3:=Zt oA [] [] trivial
def tm(F:Nat)(a0:aQa):yO (aQa):=
 let a:Int:=wi ((a0.length:Int) - (Int.tmod (a0.length:Int) 64))
 if(dL a0.length (ab a) ad)=ae then
  (Yg F (a0.drop a.toNat)).bind λb=>
  if(cf b.length 1 1)=ae then
   (Zd (xm F) F (a0,dn,b++([128]:yL yB))).bind λc=>
   (VH F (wi (8*(c.1.length:Int))) c.2.2).bind λd=>
   (JU F).bind λe=>
   (Zd (xo F) F (c.1,c.2.1,d,e)).bind λf=>
   (Zd (xq F) F (f.2.1,f.1,f.2.1,f.2.2)).bind λg=>
   (Zd (xr F) F (0,g.1,g.2.1,g.2.2)).bind λh=>
   ab h.1
  else
  ad
 else
 ad
def JZ(F:Nat):Fs yb:=⟨150,[.v aQb],[],[aQb],(zN aQe),λx=>tm F x⟩
def ZB9:Fs yb:=JZ yD
theorem ZzZ:ZB9.Ok:=aQ oA [(0,Zqk),(1,Zql),(2,Zqm),(3,Zqn)] [tk,V8,Zqi] ⟨JY,ZdE,Zw1,ao⟩ ⟨Ztk,Ztl,Ztm,Ztn,ao⟩
end
end Go.Proofs.YtcbhhaigilifgaaGreat
end
