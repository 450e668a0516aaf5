/- Parts of the proof, in one file. -/
import Derived.Test.YtekdgjajmennjaaGreatKd
open Option renaming some → ab, none → ae
open Bool renaming true → af, false → ag
open Decidable renaming decide → ah
open Array renaming getD_eq_getD_getElem? → ydb
open Bool renaming and_eq_true → yi, false_eq_true → ybz, or_eq_true → ycf
open Go renaming TypeId → yc, Program → yg, Value → yh, Operand → yn, FuncId → yu, World → yz
open Go.Proofs.Tryz renaming prog → yb
open List renaming getElem?_eq_some_iff → yo, range → yq, length_append → yr, nil_append → yv, length_map → yx, replicate → yy, cons_append → yaa, getElem?_eq_getElem → yac, map_cons → yad, length_cons → yah, getElem?_append_left → yai, getElem?_map → yaj, append_assoc → yak, map_append → yal, getElem?_append_right → yam, getElem?_eq_none → yan, mem_cons_self → yao, map_map → yaq, mem_singleton → yar, mem_cons_of_mem → yas, getElem?_cons_succ → yat, length_set → yba, getElem?_cons_zero → ybb, all_eq_true → ybc, ext_getElem? → ybe, eq_nil_of_length_eq_zero → ybf, append_nil → ybg, map_set → ybi, getElem?_set → ybl, mem_of_getElem? → ybp, mem_append → ybs, getElem?_take → ych, getElem?_set_self → yci, map_congr_left → ycl, length_replicate → ycs, getElem?_set_ne → ycz, getD_eq_getElem?_getD → yda
open Nat renaming le_refl → ym, mod_eq_of_lt → yap, zero_add → yaz, lt_or_ge → ybr, add_assoc → yck
open Option renaming bind_some → ya, bind_eq_some_iff → yf, map_eq_some_iff → yp, map_some → yab
open Option.some renaming injEq → yj, inj → yax
open Prod.mk renaming injEq → yl
open UInt64 renaming ofNat → yaf
set_option linter.unusedVariables false
set_option linter.unusedSimpArgs false
section
namespace Go.Ev
section
variable{P:yg}{o:Oper}{ts all:yL TD}{H:yL ai}{O:Type}{K:Kn O}{out:O}
def TD.nb:TD->Bool
 |.view _ _ _ _ _=>af
 |_=>ag
def TD.eR:TD->Bool
 |.p (.sl (ab ag) _ [])=>af
 |_=>ag
def TD.rH:TD->Bool
 |.ak _ _=>af
 |_=>ag
def TD.nc:TD->Bool
 |.aY _ _ _=>af
 |_=>ag
def TD.rI:TD->Bool
 |.rv _ _ _ _ _=>af
 |_=>ag
def ZMC(a:TD)(lo hi:yO Int):Bool:=
 match a with
 |.rv _ _ _ _ n=> !ei n lo hi
 |_=>ag
def TD.rJ:TD->Bool
 |.own _ _ _ _=>af
 |_=>ag
def TD.FP:TD->Bool
 |.mp _=>af
 |_=>ag
def gk(l:yL Tmp):yO Tmp->Bool
 |some t=>l.contains t
 |none=>ag
def iC(P:yg)(o:Oper)(ts all:yL TD)(H:yL ai)(K:Kn O):yO O:=CU (lk H) P o ts λd hs=>K all d H hs 0
theorem X0(h:iC P o ts all H K=ab out):∃a d H' hs c,K a d H' hs c=ab out/\Good P o ts all H a d H' hs c:=by
 obtain⟨d,hs,h1,h2⟩:=ZJx h;exact⟨_,_,_,_,_,h1,rfl,rfl,.inl ⟨rfl,rfl,h2⟩⟩
def uW(P:yg)(hi:HI)(o:Oper)(x:yn)(asg:Bool)(ts all:yL TD)(H:yL ai)(K:Kn O):yO O:=
 match o.dst,aW P ts o.type x with
 |some t,ab d=>if hi.still.contains t&&(d.nb || d.rI) then uG t all H K d else if hi.still.contains t&&d.iZ then EF t all H K d else if asg&&(hi.bU.contains t&&d.eR) then EM P o.type t all H K d else if asg&&(hi.own.contains t&&d.eR) then DE P o.type t all H K d else iC P o ts all H K
 |_,_=>iC P o ts all H K
def TD.kJ(d:TD):yO Num:=
 match d.num with
 |some a=>if a.k=.i64 then ab a else ae
 |none=>ae
def rK(P:yg)(hi:HI)(aA:Sp P)(o:Oper)(ts all:yL TD)(H:yL ai)(K:Kn O):yO O:=
 if rnT P hi o ts H=af then EX P hi o ts all H K else
 match o.op with
 |.move x=>uW P hi o x ag ts all H K
 |.assign x=>uW P hi o x af ts all H K
 |.slice t x lo h ae=>if gk hi.cW o.dst then(aW P ts t x).bind λa=>(fg P ts lo).bind λl=>(fg P ts h).bind λr=>EA P t l r all H K a
  else(aW P ts t x).bind λa=>(fg P ts lo).bind λl=>(fg P ts h).bind λr=>if(gk hi.bU o.dst&&a.iZ)=af then EN P t l r all H K a else if ZMC a l r=af then DA P t l r all H K a else iC P o ts all H K
 |.load t x=>(aW P ts 0 x).bind λd=>if d.rH || d.nc then CZ P t all H K d else if d.rm then ED P t all H K d else iC P o ts all H K
 |.lookup t x ix ok=>(aW P ts t x).bind λd=>DC P t all H ok K (λkt=>aW P ts kt ix) d
 |.makeMap t ae=>DF P t all H K
 |.makeSlice t l c=>((aW P ts 0 l).bind TD.kJ).bind λn=>((aW P ts 0 c).bind TD.kJ).bind λn'=>if gk hi.mkn o.dst then EL P t n.n n'.n all H K else if gk hi.bU o.dst then EK P t n.n n'.n all H K else DG P t (gk hi.own o.dst) (gk hi.row o.dst) n.n n'.n all H K
 |.mapUpdate t x k v=>(aW P ts t x).bind λd=>oo P t all H K (λkt=>aW P ts kt k) (λet=>aW P ts et v) d
 |.insert t x k v=>(aW P ts t x).bind λd=>oo P t all H K (λkt=>aW P ts kt k) (λet=>aW P ts et v) d
 |.alloc t=>DL P hi o.dst t all H K
 |.box t x=>(aW P ts t x).bind (DM hi o.dst all H K)
 |.store t x y=>(aW P ts 0 x).bind λa=>(aW P ts t y).bind λv=>if a.rm then EE P t all H K v a else DP P (ZP8 hi x) t all H K v a
 |.buildSlice t len parts=>if gk hi.bU o.dst then(match (o.dst.bind λd=>hi.rew.lookup d).bind λs=>all[s]? with
  |some (.rw id)=>EJ P ts t len parts.toList id all H K
  |_=>EI P ts t len parts.toList all H K) else if gk hi.row o.dst then(if(ZP9 P ts t (lk H) parts.toList&& !gk hi.own o.dst)=af then DQ P ts t len parts.toList all H K else DR P ts t len parts.toList all H K) else if gk hi.own o.dst then DS P ts t len parts.toList all H K else iC P o ts all H K
 |.indexAddr t x ix=>(aW P ts t x).bind λa=>if a.iZ then(aW P ts 0 ix).bind λb=>b.inner.bind λip=>(iz ip).bind λq=>EB P t q.2 all H K a else iC P o ts all H K
 |.call c=>match c.callee with
  |.builtin .len=>match c.args.toList,c.argTypes.toList with
   |[x],[t]=>(aW P ts t x).bind λd=>if d.FP then DD P t all H K d else if d.iZ then EC P t all H K d else iC P o ts all H K
   |_,_=>ae
  |.builtin .max=>iC P o ts all H K
  |.builtin .append=>match c.args.toList,c.argTypes.toList with
   |[x,y],[t,u]=>(aW P ts t x).bind λa=>(aW P ts u y).bind λb=>if a.iZ || (a.eR&&gk hi.bU o.dst) then EH P af t u all H K b a else if a.rJ || a.rI || (a.eR&&(gk hi.own o.dst || gk hi.row o.dst)) then DV P (gk hi.own o.dst) (gk hi.row o.dst) t u all H K b (if hi.eqs=af then DW H a else a) else iC P o ts all H K
   |_,_=>ae
  |.builtin .copy=>match c.args.toList,c.argTypes.toList with
   |[x,y],[t,u]=>(aW P ts t x).bind λa=>(aW P ts u y).bind λb=>DY P t u all H K b a
   |_,_=>ae
  |.builtin .clear=>match c.args.toList,c.argTypes.toList with
   |[x],[t]=>(aW P ts t x).bind λa=>DX P t all H K a
   |_,_=>ae
  |.builtin .delete=>match c.args.toList,c.argTypes.toList with
   |[x,y],[t,u]=>(aW P ts t x).bind λa=>DH P t all H K (aW P ts u y) a
   |_,_=>ae
  |.value f=>match aW P ts 0 f with
   |some (.fn g cap)=>if(Qt P (eA g)&&c.args.size==c.argTypes.size)=af then(lE P ts c.args.toList c.argTypes.toList).bind λaz=>ZNX aA (eA g) all H K (if g < big then az++cap else cap++az) else iC P o ts all H K
   |_=>ae
  |.invoke recv name=>match aW P ts 0 recv with
   |some (.iface t x)=>(rE aA.mt t name).bind λg=>if(Qt P g&&c.args.size==c.argTypes.size)=af then(lE P ts c.args.toList c.argTypes.toList).bind λaz=>ZNW aA g all H (λa d H' hs _=>K a d H' (.gV g::hs) 2) (x::az) else ae
   |_=>ae
  |_=>ae
 |_=>iC P o ts all H K
theorem Wb{d:TD}{n:Num}(h:d.kJ=ab n):d.num=ab n/\n.k=.i64:=by
 unfold TD.kJ at h;split at h
 .rename_i a hn;split at h
  .rename_i e;cases h;exact⟨hn,e⟩
  .cases h
 .cases h
theorem ZuJ{hi:HI}{x:yn}{asg:Bool}(ho:if asg=af then o.op=.assign x else o.op=.move x)(h:uW P hi o x asg ts all H K=ab out):∃a d H' hs c,K a d H' hs c=ab out/\Good P o ts all H a d H' hs c:=by
 unfold uW at h;split at h
 .rename_i t d hd hx;split at h
  .refine ZCx (x:=x) ?_ hd hx h;cases asg
   .exact .inr ho
   .exact .inl ho
  split at h
  .refine ZzV (x:=x) ?_ hd hx h;cases asg
   .exact .inr ho
   .exact .inl ho
  split at h
  .rename_i ha;rw[yi]at ha;rw[yW ha.1]at ho;exact ZzZ ho hd hx h
  .split at h
   .rename_i ha;rw[yi]at ha;rw[yW ha.1]at ho;exact ZCq ho hd hx h
   .exact X0 h
 .exact X0 h
theorem FQ{hi:HI}{aA:Sp P}(ok:dx aA)(h:rK P hi aA o ts all H K=ab out):∃a d H' hs c,K a d H' hs c=ab out/\Good P o ts all H a d H' hs c:=by
 unfold rK at h;split at h
 .exact ZHY h
 split at h
 .rename_i x ho;exact ZuJ (asg:=ag) ho h
 .rename_i x ho;exact ZuJ (asg:=af) ho h
 .rename_i t x lo hi' ho;split at h
  .obtain⟨a,h1,h⟩:=yf.1 h;obtain⟨l,h2,h⟩:=yf.1 h;obtain⟨r,h3,h⟩:=yf.1 h;exact ZHW ho h1 h2 h3 h
  .obtain⟨a,h1,h⟩:=yf.1 h;obtain⟨l,h2,h⟩:=yf.1 h;obtain⟨r,h3,h⟩:=yf.1 h;split at h
   .exact ZwS ho h1 h2 h3 h
   split at h
   .exact ZCn ho h1 h2 h3 h
   .exact X0 h
 .rename_i t x ho;obtain⟨d,h1,h⟩:=yf.1 h;split at h
  .exact ZEF ho h1 h
  split at h
  .exact ZCy ho h1 h
  .exact X0 h
 .rename_i t x ix okk ho;obtain⟨d,h1,h⟩:=yf.1 h;exact ZzA ho h1 h
 .rename_i t ho;exact ZwP ho h
 .rename_i t l c ho;obtain⟨n,h1,h⟩:=yf.1 h;obtain⟨n',h2,h⟩:=yf.1 h;obtain⟨d1,g1,g2⟩:=yf.1 h1;obtain⟨d2,g3,g4⟩:=yf.1 h2;split at h
  .exact ZzX ho (by rw[g1];exact(Wb g2).1) (by rw[g3];exact(Wb g4).1) (Wb g2).2 (Wb g4).2 h
  split at h
  .exact ZCA ho (by rw[g1];exact(Wb g2).1) (by rw[g3];exact(Wb g4).1) (Wb g2).2 (Wb g4).2 h
  exact ZsC ho (by rw[g1];exact(Wb g2).1) (by rw[g3];exact(Wb g4).1) (Wb g2).2 (Wb g4).2 h
 .rename_i t x k v ho;obtain⟨d,h1,h⟩:=yf.1 h;exact ZzD ho h1 h
 .rename_i t x k v ho;obtain⟨d,h1,h⟩:=yf.1 h;exact ZzE ho h1 h
 .rename_i t ho;exact ZCs ho h
 .rename_i t x ho;obtain⟨d,h1,h⟩:=yf.1 h;exact ZHU ho h1 h
 .rename_i t x y ho;obtain⟨a,h1,h⟩:=yf.1 h;obtain⟨v,h2,h⟩:=yf.1 h;split at h
  .exact ZzT ho h1 h2 h
  .exact ZCt ho h1 h2 h
 .rename_i t len parts ho;split at h
  .split at h
   .exact ZCz ho h
   .exact ZES ho h
  split at h
  .split at h
   .exact ZzK ho h
   .exact ZwQ ho h
  split at h
  .exact ZzM ho h
  .exact X0 h
 .rename_i t x ix ho;obtain⟨a,h1,h⟩:=yf.1 h;split at h
  .obtain⟨b,h2,h⟩:=yf.1 h;obtain⟨ip,h3,h⟩:=yf.1 h;obtain⟨q,h4,h⟩:=yf.1 h;rw[YQ h3]at h2;exact ZzR ho h1 h2 h4 h
  .exact X0 h
 .rename_i c ho;split at h
  .rename_i hc;split at h
   .rename_i x t ha ht;obtain⟨d,h1,h⟩:=yf.1 h;split at h
    .exact ZzC ho hc ha ht h1 h
    split at h
    .exact ZEQ ho hc ha ht h1 h
    .exact X0 h
   .cases h
  .exact X0 h
  .rename_i hc;split at h
   .rename_i x y t u ha ht;obtain⟨a,h1,h⟩:=yf.1 h;obtain⟨b,h2,h⟩:=yf.1 h;split at h
    .exact ZwR ho hc ha ht (Zq h1) h2 h
    split at h
    .refine ZzO ho hc ha ht ?_ h2 h;split
     .rw[ZHV];exact Zq h1
     .exact Zq h1
    .exact X0 h
   .cases h
  .rename_i hc;split at h
   .rename_i x y t u ha ht;obtain⟨a,h1,h⟩:=yf.1 h;obtain⟨b,h2,h⟩:=yf.1 h;exact ZEO ho hc ha ht h1 h2 h
   .cases h
  .rename_i hc;split at h
   .rename_i x t ha ht;obtain⟨a,h1,h⟩:=yf.1 h;exact ZCv ho hc ha ht h1 h
   .cases h
  .rename_i hc;split at h
   .rename_i x y t u ha ht;obtain⟨a,h1,h⟩:=yf.1 h;exact ZzG ho hc ha ht h1 h
   .cases h
  .rename_i f hc;split at h
   .rename_i g cap hf;split at h
    .rename_i hb;obtain⟨az,h1,h⟩:=yf.1 h;obtain⟨a,d,H',hs,cc,k1,k2⟩:=ZJ4 ok h;rcases k2 with k2|k2
     .exact⟨a,d,H',hs,cc,k1,ZH1 ho hc hf hb h1 k2⟩
     .exact⟨a,d,H',hs,cc,k1,ZJ5 ho hc hf hb h1 k2⟩
    .exact X0 h
   .cases h
  .rename_i recv name hc;split at h
   .rename_i t x hf;obtain⟨g,hg,h⟩:=yf.1 h;obtain⟨hb,h⟩:=Za h;obtain⟨az,h1,h⟩:=yf.1 h;obtain⟨a,d,H',hs,cc,k1,k2⟩:=ZJ3 ok h;exact⟨a,d,H',_,_,k1,ZH2 ho hc hf (FL ok.mt hg) hb h1 k2⟩
   .cases h
  .cases h
 .exact X0 h
def FR(ops:Array Oper)(j:Nat):yO Tmp:=(ops[j]?).bind (·.dst)
def jI(b:Bool):TD:=.p (.v .bool b)
def ZJ6:TD->Bool
 |.bj []=>af
 |_=>ag
def gT(P:yg)(hi:HI)(aA:Sp P)(ops:Array Oper)(o:Oper)(ts all:yL TD)(H:yL ai)(K:Kn O):yO O:=
 match o.guard with
 |none=>rK P hi aA o ts all H K
 |some (j,want)=>(FR ops j).bind λt=>match (ts.getD t .ao).boolT with
  |some b=>
   if b=af then
    if af=want then rK P hi aA o (ts.set t (jI af)) (all.set t (jI af)) H λa d H' hs c=>K a d H' (.b af::hs) c
    else K (all.set t (jI af)) (.bj []) H [.b af] 0
   else
    if ag=want then rK P hi aA o (ts.set t (jI ag)) (all.set t (jI ag)) H λa d H' hs c=>K a d H' (.b ag::hs) c
    else K (all.set t (jI ag)) (.bj []) H [.b ag] 0
  |none=>if ZJ6 (ts.getD t .ao) then K all (.bj []) H [.raw] 0 else ae
structure rL(P:yg)(ops:Array Oper)(o:Oper)(ts all:List TD)(H:List ai)(all':List TD)(d:TD)(H':List ai)(hs:List al)(bF:Nat):Prop where
 same:TD.ay (lk H') all'=TD.ay (lk H) all
 len:all'.length=all.length
 op:∃C,bc C/\∀yK,de P ops o (TD.ay (lk H) ts) (aB H) (hs++yK)=ab (C,d.er (lk H'),aB H',yK)
 sam:bF=3->aB H'=aB H
 bF:∀yK,bL P o (TD.ay (lk H) ts) (aB H) (hs++yK)<=bF
theorem FS{d:TD}{a:yL TD}{H':yL ai}{hs:yL al}{c:Nat}(h:Good P o ts all H a d H' hs c):∃C,bc C/\(∀yK,eV P o (TD.ay (lk H) ts) (aB H) (hs++yK)=ab (C,d.er (lk H'),aB H',yK))/\
 ∀yK,(if(aX P o (TD.ay (lk H) ts) (hs++yK)).isSome then 0 else if(bD P o (TD.ay (lk H) ts) (aB H) (hs++yK)).isSome then 1 else 2)<=c:=by
 rcases h.op with⟨rfl,rfl,C,h1,h2⟩|⟨rfl,rfl,h0,C,h1,h2⟩|⟨rfl,h0,h00,C,h1,h2⟩|⟨rfl,_,h0,h00,C,h1,h2⟩
 .exact⟨C,h1,λyK=>by unfold eV;rw[h2 yK],λyK=>by rw[h2 yK];simp⟩
 .exact⟨C,h1,λyK=>by unfold eV;rw[h0 yK];dsimp only;rw[h2 yK],λyK=>by rw[h0 yK,h2 yK];simp⟩
 .exact⟨C,h1,λyK=>by unfold eV;rw[h0 yK];dsimp only;rw[h00 yK];exact h2 yK,λyK=>by rw[h0 yK,h00 yK];simp⟩
 .exact⟨C,h1,λyK=>by unfold eV;rw[h0 yK];dsimp only;rw[h00 yK];exact h2 yK,λyK=>by rw[h0 yK,h00 yK];simp⟩
theorem FT{d:TD}{a:yL TD}{H':yL ai}{hs:yL al}{c:Nat}(h:Good P o ts all H a d H' hs c)(hc:c=3):aB H'=aB H:=by
 subst hc;rcases h.op with⟨e,_⟩|⟨e,_⟩|⟨e,_⟩|⟨_,e,_⟩
 .cases e
 .cases e
 .cases e
 .exact e
theorem ZCP{l:yL TD}{t:Nat}{b:Bool}(h:(l.getD t .ao).boolT=ab b):l.getD t .ao=jI b:=by
 unfold TD.boolT at h;split at h
 .rename_i x hx;unfold TP.gL at h;split at h
  .cases h;exact hx
  .cases h
 .cases h
theorem bB{l:yL TD}{t:Nat}{d:TD}(h:l.getD t .ao=d):(l.set t d)=l:=by
 apply ybe;intro i;rw[ybl];split
 .rename_i e;subst e;split
  .rename_i hl;rw[<-h,yda,yac hl];rfl
  .rename_i hl;rw[yan (by omega)]
 .rfl
theorem ZGE{hi:HI}{aA:Sp P}{ops:Array Oper}(ok:dx aA)(hg:∀j want t,o.guard=ab (j,want)->FR ops j=ab t->ts.getD t .ao=all.getD t .ao)(h:gT P hi aA ops o ts all H K=ab out):
 ∃a d H' hs c,K a d H' hs c=ab out/\rL P ops o ts all H a d H' hs c:=by
 unfold gT at h;split at h
 .rename_i hgd;obtain⟨a,d,H',hs,c,h1,h2⟩:=FQ ok h;obtain⟨C,g1,g2,g3⟩:=FS h2;refine⟨a,d,H',hs,c,h1,h2.same,h2.len,⟨C++[],Zk.2 ⟨g1,au⟩,λyK=> ?_⟩,FT h2,λyK=> ?_⟩
  .unfold de;rw[hgd];dsimp only;rw[g2 yK];rfl
  .unfold bL;rw[hgd];exact g3 yK
 .rename_i j want hgd;obtain⟨t,ht,h9⟩:=yf.1 h;clear h;have eall:=hg j want t hgd ht
  have eslot:((ops[j]?).bind (·.dst)).map (λt=>(TD.ay (lk H) ts).getD t .ao)=ab ((ts.getD t .ao).er (lk H)):=by
   rw[show(ops[j]?).bind (·.dst)=ab t from ht,yab,uq]
  split at h9
  .rename_i b hb;have e1:=ZCP hb;have e2:all.getD t .ao=jI b:=by rw[<-eall];exact e1
   have e3:(ts.getD t .ao).er (lk H)=.p (.bool b):=oi hb;split at h9
   .rename_i hbt;subst hbt;rw[bB e1,bB e2]at h9;split at h9
    .rename_i hw;subst hw;obtain⟨a,d,H',hs,c,h1,h2⟩:=FQ ok h9;obtain⟨C,g1,g2,g3⟩:=FS h2;refine⟨a,d,H',_,c,h1,h2.same,h2.len,⟨(af=af)::C++[],Zk.2 ⟨⟨rfl,g1⟩,au⟩,λyK=> ?_⟩,FT h2,λyK=> ?_⟩
     .unfold de;rw[hgd];dsimp only;rw[eslot,e3];simp only[yaa,if_true,g2 yK];rfl
     .unfold bL;rw[hgd];simp only[yaa,if_true];exact g3 yK
    .rename_i hw;refine⟨_,_,_,_,_,h9,rfl,rfl,⟨[af=af],⟨rfl,au⟩,λyK=> ?_⟩,λ_=>rfl,λyK=> ?_⟩
     .unfold de;rw[hgd];dsimp only;rw[eslot,e3];simp only[yaa,yv,yX hw];rfl
     .unfold bL;rw[hgd];simp only[yaa,yX hw];exact ym _
   .rename_i hbt;have hbt:b=ag:=by simpa using hbt
    subst hbt;rw[bB e1,bB e2]at h9;split at h9
    .rename_i hw;subst hw;obtain⟨a,d,H',hs,c,h1,h2⟩:=FQ ok h9;obtain⟨C,g1,g2,g3⟩:=FS h2;refine⟨a,d,H',_,c,h1,h2.same,h2.len,⟨(ag=ag)::C++[],Zk.2 ⟨⟨rfl,g1⟩,au⟩,λyK=> ?_⟩,FT h2,λyK=> ?_⟩
     .unfold de;rw[hgd];dsimp only;rw[eslot,e3];simp only[yaa,if_true,g2 yK];rfl
     .unfold bL;rw[hgd];simp only[yaa,if_true];exact g3 yK
    .rename_i hw;refine⟨_,_,_,_,_,h9,rfl,rfl,⟨[ag=ag],⟨rfl,au⟩,λyK=> ?_⟩,λ_=>rfl,λyK=> ?_⟩
     .unfold de;rw[hgd];dsimp only;rw[eslot,e3];simp only[yaa,yv,yX hw];rfl
     .unfold bL;rw[hgd];simp only[yaa,yX hw];exact ym _
  .obtain⟨h1,h9⟩:=Za h9
   have e3:(ts.getD t .ao).er (lk H)=.bj []:=by
    unfold ZJ6 at h1;split at h1
    .rename_i hx;rw[hx];rfl
    .cases h1
   refine⟨_,_,_,_,_,h9,rfl,rfl,⟨[],zP,λyK=> ?_⟩,λ_=>rfl,λyK=> ?_⟩
   .unfold de;rw[hgd];dsimp only;rw[eslot,e3];rfl
   .unfold bL;rw[hgd];exact ym _
def oG(ts:yL TD)(dst:yO Tmp)(d:TD):yL TD:=
 match dst with
 |some i=>ts.set i d
 |none=>ts
theorem ZCQ{L:Lk}(dst:yO Tmp)(d:TD):TD.ay L (oG ts dst d)=fO (TD.ay L ts) dst (d.er L):=by
 cases dst with
 |none=>rfl
 |some i=>simp only[oG,fO,Zz,ybi]
theorem Zyp(dst:yO Tmp)(d:TD):(oG ts dst d).length=ts.length:=by
 cases dst <;> simp[oG]
def nf(P:yg)(hi:HI)(aA:Sp P)(ops:Array Oper):yL Oper->yL TD->yL ai->(yL TD->yL ai->yL al->yO O)->yO O
 |[],all,H,K=>K all H []
 |o::r,all,H,K=>gT P hi aA ops o all all H λa d H' hs _=>nf P hi aA ops r (oG a o.dst d) H' λa' h' hs'=>K a' h' (hs++hs')
theorem FU{hi:HI}{aA:Sp P}{ops:Array Oper}(ok:dx aA):∀(l:yL Oper)(all:yL TD)(H:yL ai)(K:yL TD->yL ai->yL al->yO O),nf P hi aA ops l all H K=ab out->
 ∃a h hs C,K a h hs=ab out/\a.length=all.length/\bc C/\∀yK,ju P ops l (TD.ay (lk H) all) (aB H) (hs++yK)=ab (C,TD.ay (lk h) a,aB h,yK)
 |[],all,H,K,h=>⟨all,H,[],[],h,rfl,zP,λ_=>rfl⟩
 |o::r,all,H,K,h=>by
  unfold nf at h;obtain⟨a,d,H',hs,c,h1,h2⟩:=ZGE ok (λ_ _ _ _ _=>rfl) h;obtain⟨a',h',hs',C',k1,k0,k2,k3⟩:=FU ok r _ _ _ h1;obtain⟨C,g1,g2⟩:=h2.op;refine⟨a',h',_,C++C',k1,by rw[k0,Zyp,h2.len],Zk.2 ⟨g1,k2⟩,λyK=> ?_⟩;unfold ju;rw[yak,g2 (hs'++yK)];dsimp only;rw[<-h2.same, <-ZCQ,k3 yK]
end
end Go.Ev
end
section
namespace Go.Ev
section
variable{P:yg}{o:Oper}{ts all:yL TD}{H:yL ai}{O:Type}{out:O}
def gB(keep:yL Nat):Nat->yL TD->yL TD
 |_,[]=>[]
 |i,d::r=>(if keep.contains i then d else .ao)::gB keep (i+1) r
theorem rM{L:Lk}(keep:yL Nat):∀(l:yL TD)(k:Nat),TD.ay L (gB keep k l)=ZM keep k (TD.ay L l)
 |[],_=>rfl
 |d::r,k=>by
  rw[gB,TD.ay,TD.ay,ZM,rM keep r];split <;> rfl
theorem Zyq(keep:yL Nat):∀(l:yL TD)(k t:Nat),keep.contains (k+t)=af->(gB keep k l).getD t .ao=l.getD t .ao
 |[],_,_,_=>rfl
 |d::r,k,0,h=>by
  have h':keep.contains k=af:=h
  simp only[gB,h',if_true,List.getD_cons_zero]
 |d::r,k,t+1,h=>by
  simp only[gB,List.getD_cons_succ];exact Zyq keep r (k+1) t (by rw[show k+1+t=k+(t+1) by omega];exact h)
mutual
def Pl.bh:Pl->Pl->Bool
 |.int k n,.int l m=>ah (k=l)&&ah (n=m)
 |.bool a,.bool b=>a==b
 |.str a,.str b=>ah (a=b)
 |.bf,.bf=>af
 |.fn0,.fn0=>af
 |.dN,.dN=>af
 |.ci,.ci=>af
 |.fQ f,.fQ g=>Nat.beq f g
 |.agg xs,.agg ys=>Pl.cj xs ys
 |.arr n s xs,.arr m u ys=>Nat.beq n m&&Nat.beq s u&&Pl.cj xs ys
 |.sl a s xs,.sl b u ys=>a==b&&Nat.beq s u&&Pl.cj xs ys
 |.iface t x,.iface u y=>Nat.beq t u&&Pl.bh x y
 |_,_=>ag
def Pl.cj:yL Pl->yL Pl->Bool
 |[],[]=>af
 |x::r,y::q=>Pl.bh x y&&Pl.cj r q
 |_,_=>ag
end
mutual
theorem Pl.cC:∀(a b:Pl),Pl.bh a b=af->a=b
 |.int k n,b,h=>by cases b <;> simp_all[Pl.bh]
 |.bool k,b,h=>by cases b <;> simp_all[Pl.bh]
 |.str k,b,h=>by cases b <;> simp_all[Pl.bh]
 |.bf,b,h=>by cases b <;> simp_all[Pl.bh]
 |.fn0,b,h=>by cases b <;> simp_all[Pl.bh]
 |.dN,b,h=>by cases b <;> simp_all[Pl.bh]
 |.ci,b,h=>by cases b <;> simp_all[Pl.bh]
 |.fQ f,b,h=>by cases b <;> simp_all[Pl.bh]
 |.agg xs,b,h=>by cases b <;> simp_all[Pl.bh];exact Pl.bM _ _ h
 |.arr n s xs,b,h=>by cases b <;> simp_all[Pl.bh];exact Pl.bM _ _ h.2
 |.sl n s xs,b,h=>by cases b <;> simp_all[Pl.bh];exact Pl.bM _ _ h.2
 |.iface t x,b,h=>by cases b <;> simp_all[Pl.bh];exact Pl.cC _ _ h.2
theorem Pl.bM:∀(a b:yL Pl),Pl.cj a b=af->a=b
 |[],[],_=>rfl
 |[],_::_,h=>by cases h
 |_::_,[],h=>by cases h
 |x::r,y::q,h=>by
  simp only[Pl.cj,yi]at h;rw[Pl.cC x y h.1,Pl.bM r q h.2]
end
def oH:yL Nat->yL Nat->Bool
 |[],[]=>af
 |x::r,y::q=>Nat.beq x y&&oH r q
 |_,_=>ag
theorem uX:∀(a b:yL Nat),oH a b=af->a=b
 |[],[],_=>rfl
 |[],_::_,h=>by cases h
 |_::_,[],h=>by cases h
 |x::r,y::q,h=>by
  simp only[oH,yi]at h;rw[Nat.eq_of_beq_eq_true h.1,uX r q h.2]
mutual
def Dv.bh:Dv->Dv->Bool
 |.p x,.p y=>Pl.bh x y
 |.elem x,.elem y=>Pl.bh x y
 |.ak i o l,.ak j q m=>Nat.beq i j&&Nat.beq o q&&oH l m
 |.own i a s xs,.own j b u ys=>Nat.beq i j&&a==b&&Nat.beq s u&&Pl.cj xs ys
 |.view i o l a b c,.view i' o' l' a' b' c'=>Nat.beq i i'&&Nat.beq o o'&&oH l l'&&Nat.beq a a'&&Nat.beq b b'&&Nat.beq c c'
 |.agg xs,.agg ys=>Dv.cj xs ys
 |.arr n s xs,.arr m u ys=>Nat.beq n m&&Nat.beq s u&&Dv.cj xs ys
 |.fn f xs,.fn g ys=>Nat.beq f g&&Dv.cj xs ys
 |.iface t x,.iface u y=>Nat.beq t u&&Dv.bh x y
 |.bj xs,.bj ys=>Dv.cj xs ys
 |.mp i,.mp j=>Nat.beq i j
 |.rv a b c d e,.rv a' b' c' d' e'=>Nat.beq a a'&&Nat.beq b b'&&Nat.beq c c'&&Nat.beq d d'&&Nat.beq e e'
 |.aY a b c l,.aY a' b' c' l'=>Nat.beq a a'&&Nat.beq b b'&&Nat.beq c c'&&oH l l'
 |.ao,.ao=>af
 |_,_=>ag
def Dv.cj:yL Dv->yL Dv->Bool
 |[],[]=>af
 |x::r,y::q=>Dv.bh x y&&Dv.cj r q
 |_,_=>ag
end
theorem fj{a b:Nat}(h:Nat.beq a b=af):a=b:=Nat.eq_of_beq_eq_true h
mutual
theorem Dv.cC:∀(a b:Dv),Dv.bh a b=af->a=b
 |.p x,b,h=>by
  cases b <;> simp only[Dv.bh,ybz]at h
  rw[Pl.cC _ _ h]
 |.elem x,b,h=>by
  cases b <;> simp only[Dv.bh,ybz]at h
  rw[Pl.cC _ _ h]
 |.ak i o l,b,h=>by
  cases b <;> simp only[Dv.bh,ybz,yi]at h
  rw[fj h.1.1,fj h.1.2,uX _ _ h.2]
 |.own i a s xs,b,h=>by
  cases b <;> simp only[Dv.bh,ybz,yi,yT]at h
  rw[fj h.1.1.1,h.1.1.2,fj h.1.2,Pl.bM _ _ h.2]
 |.view i o l a k c,b,h=>by
  cases b <;> simp only[Dv.bh,ybz,yi]at h
  rw[fj h.1.1.1.1.1,fj h.1.1.1.1.2,uX _ _ h.1.1.1.2,fj h.1.1.2,fj h.1.2,fj h.2]
 |.agg xs,b,h=>by
  cases b <;> simp only[Dv.bh,ybz]at h
  rw[Dv.bM _ _ h]
 |.arr n s xs,b,h=>by
  cases b <;> simp only[Dv.bh,ybz,yi]at h
  rw[fj h.1.1,fj h.1.2,Dv.bM _ _ h.2]
 |.fn f xs,b,h=>by
  cases b <;> simp only[Dv.bh,ybz,yi]at h
  rw[fj h.1,Dv.bM _ _ h.2]
 |.iface t x,b,h=>by
  cases b <;> simp only[Dv.bh,ybz,yi]at h
  rw[fj h.1,Dv.cC _ _ h.2]
 |.bj xs,b,h=>by
  cases b <;> simp only[Dv.bh,ybz]at h
  rw[Dv.bM _ _ h]
 |.mp i,b,h=>by
  cases b <;> simp only[Dv.bh,ybz]at h
  rw[fj h]
 |.rv a k c d e,b,h=>by
  cases b <;> simp only[Dv.bh,ybz,yi]at h
  rw[fj h.1.1.1.1,fj h.1.1.1.2,fj h.1.1.2,fj h.1.2,fj h.2]
 |.aY a k c l,b,h=>by
  cases b <;> simp only[Dv.bh,ybz,yi]at h
  rw[fj h.1.1.1,fj h.1.1.2,fj h.1.2,uX _ _ h.2]
 |.ao,b,h=>by
  cases b <;> simp only[Dv.bh,ybz]at h;rfl
theorem Dv.bM:∀(a b:yL Dv),Dv.cj a b=af->a=b
 |[],[],_=>rfl
 |[],_::_,h=>by cases h
 |_::_,[],h=>by cases h
 |x::r,y::q,h=>by
  simp only[Dv.cj,yi]at h;rw[Dv.cC x y h.1,Dv.bM r q h.2]
end
def ax.bh:yO ax->yO ax->Bool
 |some (.var d _),ab (.var e _)=>Dv.bh d e
 |_,_=>ag
theorem ax.je{a b:yO ax}(h:ax.bh a b=af):cL a=cL b:=by
 unfold ax.bh at h;split at h
 .rw[Dv.cC _ _ h];rfl
 .cases h
structure TR where
 bF:Nat
 rd:Option Nat
 tc:Option (List Nat)
 n:Nat
 push:Bool
 loc:Bool
 m:Nat
 sm:Nat->Bool
 ex:Bool
def uZ(P:yg)(o:Oper)(ts:yL Dv)(hs:yL al)(n id:Nat):Bool:=
 match o.guard,hs with
 |some (_,want),.b β::hs'=>if β=want then(match jv P o ts hs' with|some l=> !l.contains id&&ah (id < n)|none=>ag) else ag
 |_,_=>ag
def va(P:yg)(hi:HI)(aA:Sp P)(ops:Array Oper):yL Oper->yL TD->yL ai->(yL TD->yL ai->yL TR->yL al->yO O)->yO O
 |[],all,H,K=>K all H [] []
 |o::r,all,H,K=>gT P hi aA ops o (gB (looks ops o) 0 all) all H λa d H' hs c=>va P hi aA ops r (oG a o.dst d) H' λa' h' rs hs'=>
   K a' h' (⟨c,pG P o (TD.ay (lk H) (gB (looks ops o) 0 all)),kc P o (TD.ay (lk H) (gB (looks ops o) 0 all)) hs,H.length,iv o hs H.length,kb o hs,H'.length,λid=>(c==3) || uZ P o (TD.ay (lk H) (gB (looks ops o) 0 all)) hs H.length id || ax.bh ((aB H')[id]?) ((aB H)[id]?),jw o⟩::rs) (hs++hs')
def jf(R:Rec)(r:TR):Prop:=R.bF<=r.bF/\(R.rd=r.rd/\R.ex=r.ex)/\(∀l,r.tc=ab l->R.tc=ab l)/\R.H.length=r.n/\(r.push=af->R.push=af)/\(r.loc=af->R.loc=af)/\R.H'.length=r.m/\∀id,r.sm id=af->cL (R.H'[id]?)=cL (R.H[id]?)
inductive di:List Rec->List TR->Prop where
 |nil:di [] []
 |cons {R:Rec} {r:TR} {Rs:List Rec} {rs:List TR} (h:jf R r) (k:di Rs rs):di (R::Rs) (r::rs)
theorem ZuM{ts:yL Dv}{hs yK:yL al}{l:yL Nat}(h:jv P o ts hs=ab l):jv P o ts (hs++yK)=ab l:=by
 unfold jv at h ⊢;split at h <;> first|exact h|skip
 .cases hs with
  |nil=>cases h
  |cons x r=>rw[yaa];cases x <;> exact h
 split at h <;> first|exact h|skip
 all_goals
  split at h
  .exact h
  .cases h
theorem ZME{ts:yL Dv}{hs yK:yL al}{l:yL Nat}(h:kc P o ts hs=ab l):kc P o ts (hs++yK)=ab l:=by
 unfold kc at h ⊢;split at h
 .rename_i hg;rw[yW hg];exact ZuM h
 .cases h
theorem ZJ7{hs yK:yL al}(h:kb o hs=af):kb o (hs++yK)=af:=by
 unfold kb at h ⊢;rw[yi]at h ⊢;refine⟨h.1, ?_⟩;have h:=h.2;split at h
 .split at h
  .split at h
   .exact h
   .cases h
  .split at h
   .exact h
   .cases h
  .cases h
 .cases h
theorem ZH3{hs yK:yL al}{n:Nat}(h:iv o hs n=af):iv o (hs++yK) n=af:=by
 unfold iv at h ⊢;rw[yi]at h ⊢;refine⟨h.1, ?_⟩;have h:=h.2;split at h
 .rfl
 .split at h
  .split at h
   .exact h
   .cases h
  .cases h
 .cases h
theorem ZMF{ops:Array Oper}{ts:yL Dv}{H:yL ax}{hs yK:yL al}{C:yL Prop}{d:Dv}{H':yL ax}{hs2:yL al}{id:Nat}(h:de P ops o ts H (hs++yK)=ab (C,d,H',hs2))(ht:uZ P o ts hs H.length id=af):cL (H'[id]?)=cL (H[id]?):=by
 unfold uZ at ht;split at ht
 .rename_i j want β hs' hg;split at ht
  .rename_i hb;split at ht
   .rename_i l hl;rw[yi]at ht;have hi:id < H.length:=by simpa using ht.2
    have hc:l.contains id=ag:=by simpa using ht.1
    rw[yaa]at h;unfold de at h;rw[hg]at h;dsimp only at h;split at h
    .rename_i t' β' hs'' h6 h7;cases h7;rw[yW hb,yp]at h;obtain⟨⟨C1,d1,H1,hs1⟩,h1,h8⟩:=h;simp only[yl]at h8;obtain⟨_,_,rfl,_⟩:=h8;unfold eV at h1;split at h1
     .cases h1;rfl
     .split at h1
      .cases h1;rfl
      .exact SY h1 (ZuM hl) hi hc
    .rename_i h7;cases h7
    .cases h
   .cases ht
  .cases ht
 .cases ht
theorem ZuN{hi:HI}{aA:Sp P}{ops:Array Oper}(ok:dx aA):∀(l:yL Oper)(all:yL TD)(H:yL ai)(K:yL TD->yL ai->yL TR->yL al->yO O),va P hi aA ops l all H K=ab out->
 ∃a h rs hs C,K a h rs hs=ab out/\a.length=all.length/\bc C/\∀yK,∃RS,mc P ops l (TD.ay (lk H) all) (aB H) (hs++yK)=ab (C,RS,TD.ay (lk h) a,aB h,yK)/\di RS rs
 |[],all,H,K,h=>⟨all,H,[],[],[],h,rfl,zP,λ_=>⟨[],rfl,.nil⟩⟩
 |o::r,all,H,K,h=>by
  unfold va at h
  have hgd:∀j want t,o.guard=ab (j,want)->FR ops j=ab t->(gB (looks ops o) 0 all).getD t .ao=all.getD t .ao:=by
   intro j want t hg hs;refine Zyq _ _ _ _ ?_;rw[yaz];unfold looks;rw[hg];dsimp only;rw[show(ops[j]?).bind (·.dst)=ab t from hs]
   simp
  obtain⟨a,d,H',hs,c,h1,h2⟩:=ZGE ok hgd h;obtain⟨a',h',rs,hs',C',k1,k0,k2,k3⟩:=ZuN ok r _ _ _ h1;obtain⟨C,g1,g2⟩:=h2.op;refine⟨a',h',_,_,C++C',k1,by rw[k0,Zyp,h2.len],Zk.2 ⟨g1,k2⟩,λyK=> ?_⟩;obtain⟨RS,e1,e2⟩:=k3 yK;unfold mc;rw[<-rM,yak,g2 (hs'++yK)];dsimp only;rw[<-h2.same, <-ZCQ,e1]
  refine⟨_,rfl,.cons ⟨h2.bF _,⟨rfl,rfl⟩,λl hl=> ?_,ZB _,λhp=>by rw[ZB];exact ZH3 hp,λhl=>ZJ7 hl,ZB _,λid hs=>by
   have hs:(c==3 || uZ P o (TD.ay (lk H) (gB (looks ops o) 0 all)) _ H.length id || ax.bh ((aB H')[id]?) ((aB H)[id]?))=af:=hs;rw[ycf,ycf]at hs;rcases hs with(h5|h5)|h5
   .rw[h2.sam (by simpa using h5)]
   .exact ZMF (g2 []) (by rw[ZB];exact h5)
   .exact ax.je h5⟩ e2⟩
  exact ZME hl
def vb(ops:Array Oper)(bF:yL Nat)(free comm:Nat->Nat->Bool):Bool:=
 let l:=ops.toList;let A:=xY l;let n:=l.length
 (bF.length==n)&&pH l 0&&
 ((yq n).all λi=>match l[i]? with|some o=>A.getD i 0==md A i o|none=>af)&&
 ((yq n).all λi=>(yq n).all λj=>i==j || hT l i==ae || !(hT l i==hT l j))&&
 ((yq n).all λi=>match l[i]? with
   |some o=>let k:=looks ops o
    (yq n).all λj=>match hT l j with
      |some t=>i==j || !(k.contains t) || (if j < i then(A.getD i 0).testBit j else(A.getD j 0).testBit i)
      |none=>af
   |none=>af)&&
 ((yq n).all λi=>bF.getD i 0==0 || (yq n).all λj=>i==j || decide (bF.getD j 0 < 2) || (if j < i then(A.getD i 0).testBit j else(A.getD j 0).testBit i) || (ah (bF.getD i 0<=1)&&free i j) || comm i j)
def FV(rs:yL TR)(i j:Nat):Bool:=
 match rs[i]?,rs[j]? with
 |some r,ab q=>match r.rd with
  |some id=>ah (id < q.n)&&ah (id < r.n)&&(if r.ex=af then q.push else((match q.tc with|some l=> !l.contains id|none=>ag) || q.sm id))
  |none=>ag
 |_,_=>ag
def cT(rs:yL TR)(c:Nat)(r:TR):Bool:=r.loc || (r.push&&r.m==r.n+1&&(rs.take c).all λq=>ah (q.n<=r.n))
def cI(rs:yL TR):Nat:=match rs.findIdx? (λr=>r.loc&&r.bF==2) with
 |some c=>c
 |none=>match rs.findIdx? (λr=>r.loc&&r.bF==3) with
  |some c=>c
  |none=>(rs.findIdx? (λr=>r.push)).getD 0
def vc(rs:yL TR)(i j:Nat):Bool:=
 let c:=cI rs
 ((rs[c]?).map (cT rs c)).getD ag&&((i==c&&ah (c < j)&&((rs[j]?).map (·.push)).getD ag) || (j==c&&ah (c < i)&&((rs[i]?).map (·.push)).getD ag))
theorem FW{RS:yL Rec}{rs:yL TR}(h:di RS rs):RS.length=rs.length:=by
 induction h with
 |nil=>rfl
 |cons _ _ ih=>simp[ih]
theorem rN{RS:yL Rec}{rs:yL TR}(h:di RS rs):∀{i:Nat}{r:TR},rs[i]? =ab r->∃R,RS[i]? =ab R/\jf R r:=by
 induction h with
 |nil=>intro i r h;simp at h
 |cons h k ih=>
  intro i r hi
  cases i with
  |zero=>cases hi;exact⟨_,rfl,h⟩
  |succ i=>exact ih hi
theorem ZH4{RS:yL Rec}{rs:yL TR}(h:di RS rs):∀{i:Nat}{R:Rec},RS[i]? =ab R->∃r,rs[i]? =ab r/\jf R r:=by
 induction h with
 |nil=>intro i r h;simp at h
 |cons h k ih=>
  intro i r hi
  cases i with
  |zero=>cases hi;exact⟨_,rfl,h⟩
  |succ i=>exact ih hi
theorem ZCR{RS:yL Rec}{rs:yL TR}(h:di RS rs)(i:Nat):(RS.map (·.bF)).getD i 0<=(rs.map (·.bF)).getD i 0:=by
 simp only[yda,yaj]
 cases hi:rs[i]? with
 |none=>
  have:RS[i]? =ae:=by rw[List.getElem?_eq_none_iff]at hi ⊢;rw[FW h];exact hi
  rw[this]
  exact ym _
 |some r=>
  obtain⟨R,e,k⟩:=rN h hi;rw[e];exact k.1
theorem ZMG{ops:Array Oper}{RS:yL Rec}{rs:yL TR}(h:di RS rs)(k:vb ops (rs.map (·.bF)) (FV rs) (vc rs)=af)(hn:rs.length=ops.size):tw ops RS=af:=by
 unfold vb at k;unfold tw;simp only[yi]at k ⊢;obtain⟨⟨⟨⟨⟨k1,k2⟩,k3⟩,k4⟩,k5⟩,k6⟩:=k;refine⟨⟨⟨⟨⟨?_,k2⟩,k3⟩,k4⟩,k5⟩, ?_⟩
 .simpa[FW h] using k1
 .have hcm:∃c,c∈yq (ops.toList.length+1)/\∀i j,vc rs i j=af->jx RS c i j=af:=by
   have hget:∀(k:Nat),((rs[k]?).map (·.push)).getD ag=af->((RS[k]?).map (·.push)).getD ag=af:=by
    intro k hk
    cases hr:rs[k]? with
    |none=>rw[hr]at hk;cases hk
    |some r=>
     obtain⟨R,e1,e2⟩:=rN h hr;rw[hr]at hk;rw[e1];exact e2.2.2.2.2.1 hk
   refine⟨if cI rs < rs.length then cI rs else 0, ?_,λi j hij=> ?_⟩
   .rw[List.mem_range];split
    .rename_i hlt;rw[hn]at hlt;have:ops.toList.length=ops.size:=by simp
     omega
    .omega
   .unfold vc at hij;dsimp only at hij;generalize cI rs=c at hij ⊢;rw[yi]at hij;obtain⟨h1,h2⟩:=hij
    cases hr:rs[c]? with
    |none=>rw[hr]at h1;cases h1
    |some r=>
     have hlt:=(yo.1 hr).1;rw[yW hlt];obtain⟨R,e1,e2⟩:=rN h hr;rw[hr]at h1;unfold jx;rw[yi];refine⟨?_, ?_⟩
     .rw[e1];show tq RS c R=af;have h1:cT rs c r=af:=h1;unfold cT at h1;unfold tq;rw[ycf]at h1 ⊢;rcases h1 with h1|h1
      .exact .inl (e2.2.2.2.2.2.1 h1)
      .simp only[yi,yT,ybc,yP]at h1 ⊢;obtain⟨⟨b1,b2⟩,b3⟩:=h1;refine .inr ⟨⟨e2.2.2.2.2.1 b1,by rw[e2.2.2.2.2.2.2.1,e2.2.2.2.1];exact b2⟩,λq hq=> ?_⟩;obtain⟨k,hk⟩:=List.mem_iff_getElem?.1 hq;rw[ych]at hk;split at hk
       .rename_i hkc;obtain⟨q2,f1,f2⟩:=ZH4 h hk;rw[f2.2.2.2.1,e2.2.2.2.1];refine b3 q2 (List.mem_iff_getElem?.2 ⟨k, ?_⟩);rw[ych,yW hkc];exact f1
       .cases hk
     .simp only[ycf,yi]at h2 ⊢;rcases h2 with⟨⟨a1,a2⟩,a3⟩|⟨⟨a1,a2⟩,a3⟩
      .exact .inl ⟨⟨a1,a2⟩,hget _ a3⟩
      .exact .inr ⟨⟨a1,a2⟩,hget _ a3⟩
  obtain⟨c,hc1,hc2⟩:=hcm;rw[List.any_eq_true];refine⟨c,hc1, ?_⟩;rw[ybc]at k6 ⊢;intro i hi;have:=k6 i hi;have hc:=ZCR h i;simp only[ycf]at this ⊢;rcases this with h0|h1
  .left;have h0:(rs.map (·.bF)).getD i 0=0:=by simpa using h0
   have:(RS.map (·.bF)).getD i 0=0:=by omega
   simpa using this
  .by_cases hz:(RS.map (·.bF)).getD i 0=0
   .left;simpa using hz
   .right;rw[ybc]at h1 ⊢;intro j hj;have h2:=h1 j hj;have hd:=ZCR h j;simp only[ycf,yi,yP]at h2 ⊢;rcases h2 with(((h2|h2)|h2)|h2)|h2
    .exact .inl (.inl (.inl (.inl h2)))
    .refine .inl (.inl (.inl (.inr ?_)));have:(RS.map (·.bF)).getD j 0≠2:=by omega
     simpa using this
    .exact .inl (.inl (.inr h2))
    .refine .inl (.inr ⟨?_, ?_⟩)
     .have:(RS.map (·.bF)).getD i 0=1:=by omega
      simpa using this
     .have hf:=h2.2;unfold FV at hf;unfold kX;split at hf
      .rename_i r q hr hq;obtain⟨R,e1,e2⟩:=rN h hr;obtain⟨Q,e3,e4⟩:=rN h hq;rw[e1,e3];dsimp only;split at hf
       .rename_i id hrd;rw[e2.2.1.1,hrd];dsimp only;rw[e4.2.2.2.1,e2.2.2.2.1];rw[yi]at hf ⊢;refine⟨hf.1, ?_⟩;have hf2:=hf.2;rw[e2.2.1.2];by_cases hex:r.ex=af
        .rw[yW hex]at hf2 ⊢;exact e4.2.2.2.2.1 hf2
        rw[yX hex]at hf2 ⊢;rw[ycf]at hf2 ⊢;rcases hf2 with h5|h5
        .left;split at h5
         .rename_i l htc;rw[e4.2.2.1 l htc];exact h5
         .cases h5
        .right;exact@decide_eq_true _ (Classical.propDecidable _) (e4.2.2.2.2.2.2.2 id h5)
       .cases hf
      .cases hf
    .exact .inr (hc2 i j h2)
def rO:ai->ai
 |.var d _=>.var d ag
 |e=>e
def oI(ids:yL Nat)(H:yL ai):yL ai:=(yq H.length).zipWith (λi e=>if ids.contains i then rO e else e) H
theorem ZMH(e:ai):dy (ab (rO e))=dy (ab e):=by cases e <;> rfl
theorem ZuP(ids:yL Nat)(H:yL ai)(i:Nat):(oI ids H)[i]? =(H[i]?).map λe=>if ids.contains i then rO e else e:=by
 unfold oI;rw[List.getElem?_zipWith];rcases ybr i H.length with h|h
 .rw[List.getElem?_range h,yac h];rfl
 .rw[yan (by simpa using h),yan h];rfl
theorem Zys(ids:yL Nat)(H:yL ai):lk (oI ids H)=lk H:=by
 funext i;unfold lk;rw[ZuP]
 cases H[i]? with
 |none=>rfl
 |some e=>
  show dy (ab (if ids.contains i=af then rO e else e))=_
  split
  .exact ZMH e
  .rfl
theorem ZH5(ids:yL Nat)(H:yL ai):ct (aB H) (aB (oI ids H)):=by
 refine FB (by rw[ZB,ZB];unfold oI;simp) λi a b h1 h2=> ?_;unfold aB at h1 h2;rw[yaj]at h1 h2;rw[Zys,ZuP]at h2
 cases he:H[i]? with
 |none=>rw[he]at h1;cases h1
 |some e=>
  rw[he]at h1 h2;cases h1;cases h2;show dX (e.er (lk H)) (ai.er (lk H) (if ids.contains i=af then rO e else e))
  split
  .cases e <;> first|exact .refl _|exact .cW
  .exact .refl _
theorem ZKa{c:Code}{ts ts1:yL Dv}{H0 H1 H2:yL ax}{ex:Ex}(h:ct H0 H1)(r:Xq P c ts H1 ex ts1 H2):Xq P c ts H0 ex ts1 H2:=by
 intro J a ok hH yM;obtain⟨to,ok2⟩:=jA ok (H':=H1) (by rw[hH];exact h);refine wp_mono (r { J with H:=H1} a ok2 rfl (yM.to to.leaf)) ?_;rintro e a' w' ⟨rfl,J2,q1,q2,q3,q4,q5⟩;exact⟨rfl,J2,q1,q2,to.trans q3,q4,q5⟩
def ZKb(ops:yL Oper)(all:yL TD):Nat->Tmp->yO Nat
 |0,_=>ae
 |n+1,x=>match ops.find? λo=>o.dst==ab x with
  |some o=>match o.op with
   |.fieldAddr _ (.tmp y) _=>ZKb ops all n y
   |_=>ae
  |none=>match all.getD x .ao with
   |.ak id _=>ab id
   |_=>ae
def ZQd(hi:HI)(ops:yL Oper)(all:yL TD)(o:Oper):yO Nat:=
 match o.op with
 |.slice _ (.tmp x) _ _ ae=>if gk hi.cW o.dst then ZKb ops all 4 x else ae
 |_=>ae
def rP(hi:HI)(ops:Array Oper)(all:yL TD)(H:yL ai):yL ai:=
 match hi.cW with
 |[]=>H
 |_=>match ops.toList.filterMap (ZQd hi ops.toList all) with
  |[]=>H
  |ids=>oI ids H
theorem ZH6(hi:HI)(ops:Array Oper)(all:yL TD)(H:yL ai):ct (aB H) (aB (rP hi ops all H))/\lk (rP hi ops all H)=lk H:=by
 unfold rP;split
 .exact⟨ct.refl _,rfl⟩
 .split
  .exact⟨ct.refl _,rfl⟩
  .exact⟨ZH5 _ _,Zys _ _⟩
def FX(P:yg)(hi:HI)(aA:Sp P)(ops:Array Oper)(all:yL TD)(H:yL ai)(K:yL TD->yL ai->yO O):yO O:=
 if P.follows .mixedOrders then va P hi aA ops ops.toList all (rP hi ops all H) λa h rs _=>if vb ops (rs.map (·.bF)) (FV rs) (vc rs)=af then K a h else ae else ae
theorem ZH7{hi:HI}{aA:Sp P}{ops:Array Oper}{K:yL TD->yL ai->yO O}(ok:dx aA)(h:FX P hi aA ops all H K=ab out):∃a h,K a h=ab out/\a.length=all.length/\∀id,Xq P (.region id ops af) (TD.ay (lk H) all) (aB H) .normal (TD.ay (lk h) a) (aB h):=by
 unfold FX at h;split at h
 .rename_i hf;obtain⟨w1,w2⟩:=ZH6 hi ops all H;generalize rP hi ops all H=H0 at h w1 w2;obtain⟨a,h',rs,hs,C,k1,k0,k2,k3⟩:=ZuN ok _ _ _ _ h;obtain⟨k4,k5⟩:=Za k1;refine⟨a,h',k5,k0,λid=> ?_⟩;obtain⟨RS,e1,e2⟩:=k3 [];rw[<-w2];refine ZKa w1 (TW (hs:=hs) (hs':=[]) (C:=C) ?_ k2);simp only[ev,if_true];unfold tx;rw[yW hf];rw[ybg]at e1;rw[e1];dsimp only;rw[yW (ZMG e2 k4 (by have:=FW e2;unfold vb at k4;simp only[yi]at k4;simpa using k4.1.1.1.1.1))];rfl
 .cases h
theorem ZH8{hi:HI}{aA:Sp P}{ops:Array Oper}{K:yL TD->yL ai->yL al->yO O}(ok:dx aA)(h:nf P hi aA ops ops.toList all H K=ab out):∃a h hs,K a h hs=ab out/\a.length=all.length/\∀id,Xq P (.region id ops ag) (TD.ay (lk H) all) (aB H) .normal (TD.ay (lk h) a) (aB h):=by
 obtain⟨a,h',hs,C,k1,k0,k2,k3⟩:=FU ok _ _ _ _ h;refine⟨a,h',hs,k1,k0,λid=> ?_⟩;refine TW (hs:=hs) (hs':=[]) (C:=C) ?_ k2;have:=k3 [];rw[ybg]at this;simp only[ev,ybz,if_false,this];rfl
end
end Go.Ev
end
section
namespace Go.Ev
section
variable{P:yg}{a:Act}{J:Sg}{ts:yL Dv}
theorem ZuR{ops:Array Oper}(Q:Exit->Act->yz->Prop){ts':yL Dv}(more:yL Nat):∀(l:yL Oper)(k:Nat)(ts:yL Dv)(J:Sg)(a:Act)(hs hs':yL al)(C:yL Prop)(H':yL ax),
 (∀(j:Nat)(x:Oper),l[j]? =ab x->ops[k+j]? =ab x)->Ok J->aD J ts a->ju P ops l ts J.H hs=ab (C,ts',H',hs')->bc C->
 (∀a' J',J'.H=H'->To J J'->Ok J'->aD J' ts' a'->wpOps P ops Q more a' J'.w)->wpOps P ops Q (List.range' k l.length++more) a J.w
 |[],k,ts,J,a,hs,hs',C,H',_,ok,yM,h,hc,hQ=>by
  simp only[ju,yj,yl]at h;obtain⟨rfl,rfl,rfl,rfl⟩:=h
  exact hQ a J rfl (To.refl J) ok yM
 |o::l,k,ts,J,a,hs,hs',C,H',hl,ok,yM,h,hc,hQ=>by
  simp only[ju]at h;split at h
  .rename_i C1 d1 H1 hs1 h1;split at h
   .rename_i C2 ts2 H2 hs2 h2;simp only[yj,yl]at h;obtain⟨rfl,rfl,rfl,rfl⟩:=h;obtain⟨c1,c2⟩:=Zk.1 hc;have h0:ops[k]? =ab o:=by simpa using hl 0 o rfl
    simp only[yah,List.range'_succ,yaa,wpOps,h0]
    have key:=tY (P:=P) (ops:=ops) ok yM h1 c1 (wpOps P ops Q (List.range' (k+1) l.length++more)) Q (λv J1 e1 to1 ok1 hrep1=>by
     subst e1
     exact ZuR Q more l (k+1) _ J1 _ hs1 _ C2 _ (λj x hx=>by have:=hl (j+1) x (by simpa using hx);simpa[yck,Nat.add_comm 1 j] using this) ok1 hrep1 h2 c2
      (λa' J' e2 to2 ok2 hrep2=>hQ a' J' e2 (to1.trans to2) ok2 hrep2))
    by_cases hw:Region.wanted o (yielded ops a.tmps)=af
    .rw[yW hw]at key ⊢;exact .inl key
    .rw[yX hw]at key ⊢;exact key
   .cases h
  .cases h
theorem ve{ops:Array Oper}{Q:Exit->Act->yz->Prop}{i:Nat}{yK:yL Nat}{o:Oper}{v:yh}{w w':yz}(g:ops[i]? =ab o)(n:o.guard=ae)(hx:(execOp a.eval o).run P w=.ok (.value v) w')
 (k:wpOps P ops Q yK (a.put o.dst v) w'):wpOps P ops Q (i::yK) a w:=by
 have hw:Region.wanted o (yielded ops a.tmps)=af:=by simp[Region.wanted,n]
 simp only[wpOps,g];rw[yW hw];refine .inl ?_;unfold Oper.wp;rw[hx];exact k
theorem ZE3{ops:Array Oper}{Q:Exit->Act->yz->Prop}{i:Nat}{yK:yL Nat}{o:Oper}{w w':yz}(g:ops[i]? =ab o)(n:o.guard=ae)(hx:(execOp a.eval o).run P w=.ok .skip w')
 (k:wpOps P ops Q yK (a.put o.dst undef) w'):wpOps P ops Q (i::yK) a w:=by
 have hw:Region.wanted o (yielded ops a.tmps)=af:=by simp[Region.wanted,n]
 simp only[wpOps,g];rw[yW hw];refine .inl ?_;unfold Oper.wp;rw[hx];exact k
theorem vf{t:Nat}{v:yh}(h:t < a.tmps.size):(a.put (ab t) v).eval (.tmp t)=v:=by
 show(a.tmps.setIfInBounds t v).getD t undef=v;simp[ydb,Array.getElem?_setIfInBounds,h]
theorem FY{t s:Nat}{v:yh}(h:s≠t):(a.put (ab t) v).eval (.tmp s)=a.eval (.tmp s):=by
 show(a.tmps.setIfInBounds t v).getD s undef=a.tmps.getD s undef;simp[ydb,Array.getElem?_setIfInBounds,h,Ne.symm h]
theorem vg{J':Sg}{t:Nat}{v:yh}(h:aD J' ts a):aD J' (ts.set t .ao) (a.put (ab t) v):=
 mF (o:={ (default:Oper) with dst:=ab t}) h Xj
theorem ZMI{ops:Array Oper}{Q:Exit->Act->yz->Prop}{p t0 t1 t2 t3:Nat}{o1 o2 o3 o4 o5:Oper}(g1:ops[p]? =ab o1)(g2:ops[p+1]? =ab o2)(g3:ops[p+2]? =ab o3)(g4:ops[p+3]? =ab o4)(g5:ops[p+4]? =ab o5)
 (n1:o1.guard=ae) (n2:o2.guard=ae) (n3:o3.guard=ae) (n4:o4.guard=ae) (n5:o5.guard=ae) {t tt u t5 kt et e:yc} {m k y m5:yn} {c:Call} {id:Nat}
 (h1:o1.op=.mapEntry t m k) (d1:o1.dst=ab t0) (h2:o2.op=.extract (.tmp t0) 0) (d2:o2.dst=ab t1) (h3:o3.op=.call c) (hc:c.callee=.builtin .append) (ha:c.args.toList=[.tmp t1,y]) (hty:c.argTypes.toList=[tt,u]) (d3:o3.dst=ab t2)
 (h4:o4.op=.extract (.tmp t0) 1) (d4:o4.dst=ab t3) (h5:o5.op=.entryStore t5 m5 (.tmp t3) (.tmp t2)) (d5:o5.dst=ae) (q01:t0≠t1) (q02:t0≠t2) (q23:t2≠t3) (l0:t0 < ts.length) (l1:t1 < ts.length) (l2:t2 < ts.length) (l3:t3 < ts.length)
 (ok:Ok J) (yM:aD J ts a) {kk:Pl} {tm:yc} {s0:Nat} {i:TypeInfo} {ys:yL Pl} (hu:P.underlying t=ab (.map kt et)) (hm:Zs P ts t m=.mp id) (hk:Zs P ts kt k=.p kk) (hH:J.H[id]? =ab (.map tm [])) (hkt:gX P kt=af) (hfit:bg P 20 kt kk)
 (hzt:nL P et=af) (hzd:YP P et=.p (.sl (ab ag) s0 [])) (htt:P.underlying tt=ab (.slice e)) (hi:P.info? e=ab i) (hz:cf i=af) (hne:i.size≠0)
 (hsrc:gI P (P.cellsOf e) u (Zs P ((ts.set t0 .ao).set t1 .ao) u y)=ab ys) (hb:ys.length*i.bytes<=Zr) (hmx:ys.length<=maxLen) (hm5:Zs P ((((ts.set t0 .ao).set t1 .ao).set t2 .ao).set t3 .ao) t5 m5=.mp id)
 (hQ:∀a' J',J'.H=J.H.set id (.map tm [(kk,.sl ae (P.cellsOf e) ys)])->To J J'->Ok J'->aD J' ((((ts.set t0 .ao).set t1 .ao).set t2 .ao).set t3 .ao) a'->Q .normal a' J'.w):wpOps P ops Q [p,p+1,p+2,p+3,p+4] a J.w:=by
 have hmv:=Zj (P:=P) yM t m;rw[hm]at hmv;obtain⟨b,hmb,hmv⟩:=mE hmv;have hkv:=Zj (P:=P) yM kt k;rw[hk]at hkv;obtain⟨b',es,clock,e1,hbk,hkr,hbo⟩:=ok.dc id _ _ hH hmb;cases e1
 have hes:es= #[]:=by
  have:=AF _ _ (RR hkr);have h0:es.toList=[]:=ybf this;exact Array.toList_inj.1 h0
 subst hes;obtain⟨F,hF,hrunF⟩:=nY (P:=P) hkt hfit hkv;have hchk:=Wl (em:=ag) 20 kt kk _ hfit hkv 9980
 have hfind:(Instr.findKey kt (a.eval k) ([]:yL MapEntry)).run P J.w=.ok ae J.w:=by
  rcases AC (v:=kk) hF [] [] 0 [(kk,kk)] (RR hkr) (λq hq=>by cases hq) (by simp[Qw]) with⟨j,e',_,f2,_⟩|⟨f1,_⟩
  .simp at f2
  .exact hrunF _ _ f1
 obtain⟨zv,hzv,hzr⟩:∃z,(zeroValue et).run P J.w=.ok z J.w/\yJ J (YP P et) z:=by
  unfold nL at hzt;split at hzt
  .rename_i i hi
   cases hzz:i.zero with
   |none=>simp[hzz]at hzt
   |some z=>
    refine⟨z,by simp[zeroValue,typeInfo,hi,hzz], ?_⟩;unfold YP;rw[hi];simp only[hzz];exact WW
  .cases hzt
 rw[hzd]at hzr;have hzn:=lb hzr;subst hzn;let en:MapEntry:={ key:=a.eval k,val:=.slice ae 0 0,born:=clock};obtain⟨to1,ok1⟩:=lg (es':= #[en]) (clock':=clock+1) ok hH hmb hbk (l:=[(kk,.sl (ab ag) s0 [])]) (RU ⟨hkv,hzr,au⟩) (tW (es:= #[]) hbo rfl);let J1:Sg:={ J with m:=J.m.set id (ab b),H:=J.H.set id (.map tm [(kk,.sl (ab ag) s0 [])]),w:={ J.w with heap:=J.w.heap.setIfInBounds b (.map #[en] (clock+1))}};have to1:To J J1:=to1;have ok1:Ok J1:=ok1
 have x1:(execOp a.eval o1).run P J.w=.ok (.value (.tuple #[.slice ae 0 0,goInt clock])) J1.w:=by
  have:(Instr.mapEntry t (a.eval m) (a.eval k)).run P J.w=.ok (.tuple #[.slice ae 0 0,goInt clock]) J1.w:=by
   simp only[Instr.mapEntry,Sem.run_bind,run_underlying hu,Result.andThen_ok,hmv,XX hbk,hchk,hfind,hzv,Go.MapKept.run_setObj_map _ hbk,Sem.run_pure];rfl
  simp[execOp,h1,this]
 refine ve g1 n1 x1 ?_;rw[d1];have r1:aD J1 (ts.set t0 .ao) (a.put (ab t0) (.tuple #[.slice ae 0 0,goInt clock])):=vg (yM.to to1.leaf);generalize ha1:a.put (ab t0) (.tuple #[.slice ae 0 0,goInt clock])=a1 at r1 ⊢;have ht0:t0 < a.tmps.size:=by rw[yM.size];exact l0
 have v1:a1.eval (.tmp t0)=.tuple #[.slice ae 0 0,goInt clock]:=by rw[<-ha1];exact vf ht0
 have x2:(execOp a1.eval o2).run P J1.w=.ok (.value (.slice ae 0 0)) J1.w:=by
  have:(Instr.extract (a1.eval (.tmp t0)) 0).run P J1.w=.ok (.slice ae 0 0) J1.w:=by rw[v1];simp[Instr.extract]
  simp[execOp,h2,this]
 refine ve g2 n2 x2 ?_;rw[d2];have r2:aD J1 ((ts.set t0 .ao).set t1 .ao) (a1.put (ab t1) (.slice ae 0 0)):=vg r1;have s1:t1 < a1.tmps.size:=by rw[r1.size,yba];exact l1
 generalize ha2:a1.put (ab t1) (.slice ae 0 0)=a2 at r2 ⊢;have v2:a2.eval (.tmp t1)=.slice ae 0 0:=by rw[<-ha2];exact vf s1
 have v20:a2.eval (.tmp t0)=.tuple #[.slice ae 0 0,goInt clock]:=by rw[<-ha2,FY q01];exact v1
 have hce:P.cellsOf e=i.size:=by simp[Program.cellsOf,hi]
 have key:∃v3 w3,(execOp a2.eval o3).run P J1.w=.ok (.value v3) w3/\To J1 { J1 with w:=w3}/\Ok { J1 with w:=w3}/\w3.heap[b]? =ab (.map #[en] (clock+1))/\yJ { J1 with w:=w3} (.p (.sl ae (P.cellsOf e) ys)) v3:=by
  obtain⟨gs1,gs2⟩:=Go.MapKept.heap_set (w:=J.w) (o':=.map #[en] (clock+1)) hbk;rcases Vc (P:=P) (ty:=o3.type) (u:=u) (y:=y) ok1 r2 htt hi hz hne (Q9 (P:=P) r2 hsrc) hb hmx with⟨rfl,zB⟩|⟨zX,yK,hys,zU,hr,hge,hcm,hcs,zB⟩
  .exact⟨_,J1.w,Ya h3 hc ha hty (by rw[v2];exact zB),To.refl J1,ok1,gs1,Yl (λ_ hx=>by cases hx) (ym _) (by simp[maxLen]) (Z7 _) (λ_=>rfl) (λh=>absurd rfl h)⟩
  .have hg:=YU J1.w (.cells (zX.toArray++yK) e) ae;obtain⟨to,ok'⟩:=pN ok1 hg;have zW:zX.length=ys.length*i.size:=by rw[aK _ _ hr,aL zU]
   have hlt:b < J1.w.heap.size:=ok1.lt id b (aj hmb);refine⟨_,_,Ya h3 hc ha hty (by rw[v2];exact zB),to,ok',(hg.block b hlt (by simp)).trans gs1, ?_⟩;rw[hce];exact zu (Z7 _) ok' zU (aC to.leaf.cells _ _ hr) (b:=J1.w.heap.size) (cells:=zX) (heap_alloc_new J1.w.drew _) (ok1.new _ (ym _)) (tL ok1) (by simp) hge hcm
 obtain⟨v3,w3,x3,to3,ok3,hb3,hv3⟩:=key;refine ve g3 n3 x3 ?_;rw[d3];let J3:Sg:={ J1 with w:=w3};have r3:aD J3 (((ts.set t0 .ao).set t1 .ao).set t2 .ao) (a2.put (ab t2) v3):=vg (r2.to to3.leaf);have s2:t2 < a2.tmps.size:=by rw[r2.size,yba,yba];exact l2
 generalize ha3:a2.put (ab t2) v3=a3 at r3 ⊢;have v30:a3.eval (.tmp t0)=.tuple #[.slice ae 0 0,goInt clock]:=by rw[<-ha3,FY q02];exact v20
 have v32:a3.eval (.tmp t2)=v3:=by rw[<-ha3];exact vf s2
 have x4:(execOp a3.eval o4).run P w3=.ok (.value (goInt clock)) w3:=by
  have:(Instr.extract (a3.eval (.tmp t0)) 1).run P w3=.ok (goInt clock) w3:=by rw[v30];simp[Instr.extract]
  simp[execOp,h4,this]
 refine ve g4 n4 x4 ?_;rw[d4];have r4:aD J3 ((((ts.set t0 .ao).set t1 .ao).set t2 .ao).set t3 .ao) (a3.put (ab t3) (goInt clock)):=vg r3;have s3:t3 < a3.tmps.size:=by rw[r3.size,yba,yba,yba];exact l3
 generalize ha4:a3.put (ab t3) (goInt clock)=a4 at r4 ⊢;have v43:a4.eval (.tmp t3)=goInt clock:=by rw[<-ha4];exact vf s3
 have v42:a4.eval (.tmp t2)=v3:=by rw[<-ha4,FY q23];exact v32
 have hm5v:=Zj (P:=P) r4 t5 m5;rw[hm5]at hm5v;obtain⟨b5,hmb5,hm5v⟩:=mE hm5v;have hmb1:J3.m[id]? =ab (ab b):=aj hmb;rw[hmb1]at hmb5;cases hmb5;have hH3:J3.H[id]? =ab (.map tm [(kk,.sl (ab ag) s0 [])]):=aj hH;let en5:MapEntry:={ key:=a.eval k,val:=v3,born:=clock};obtain⟨to5,ok5⟩:=lg (es':= #[en5]) (clock':=clock+1) ok3 hH3 hmb1 hb3 (l:=[(kk,.sl ae (P.cellsOf e) ys)]) (RU ⟨WS to3.leaf (WS to1.leaf hkv),hv3,au⟩) (tW (es:= #[]) hbo rfl)
 have x5:(execOp a4.eval o5).run P w3=.ok .skip { w3 with heap:=w3.heap.setIfInBounds b (.map #[en5] (clock+1))}:=by
  have hmod:(#[en].modify 0 λe=>{ e with val:=v3})= #[en5]:=by
   apply Array.ext';simp[en,en5,Array.toList_modify]
  have hfi:(#[en].findIdx? λe=>(e.born:Int)==(clock:Int))=ab 0:=by
   simp[Array.findIdx?,Array.findIdx?.loop,en]
  have:(Instr.entryStore t5 (a4.eval m5) (a4.eval (.tmp t3)) (a4.eval (.tmp t2))).run P w3=.ok () { w3 with heap:=w3.heap.setIfInBounds b (.map #[en5] (clock+1))}:=by
   rw[hm5v,v43,v42];simp only[Instr.entryStore,goInt,asInt,asIntOf,Sem.run_bind,XX hb3,Result.andThen_ok,Sem.run_pure,hfi,hmod,Go.MapKept.run_setObj_map _ hb3]
  simp[execOp,h5,this]
 refine ZE3 g5 n5 x5 ?_;rw[d5];refine hQ a4 _ ?_ (to1.trans (to3.trans to5)) ok5 (r4.to to5.leaf);show(J.H.set id (.map tm [(kk,.sl (ab ag) s0 [])])).set id (.map tm [(kk,.sl ae (P.cellsOf e) ys)])=_;rw[List.set_set]
end
end Go.Ev
end
section
namespace Go.Ev
section
variable{P:yg}{all:yL TD}{H:yL ai}{O:Type}{out:O}
def vh(o:Oper):yO (yc×yn×yn×Tmp):=
 match o.op,o.dst,o.guard with
 |.mapEntry t m k,ab d,ae=>ab (t,m,k,d)
 |_,_,_=>ae
theorem ZH9{o:Oper}{q:yc×yn×yn×Tmp}(h:vh o=ab q):o.op=.mapEntry q.1 q.2.1 q.2.2.1/\o.dst=ab q.2.2.2/\o.guard=ae:=by
 unfold vh at h;split at h
 .rename_i h1 h2 h3;cases h;exact⟨h1,h2,h3⟩
 .cases h
def vi(o:Oper)(t n:Nat):yO Tmp:=
 match o.op,o.dst,o.guard with
 |.extract (.tmp x) m,ab d,ae=>if(ah (x=t)&&ah (m=n))=af then ab d else ae
 |_,_,_=>ae
theorem Zyt{o:Oper}{t n:Nat}{q:Tmp}(h:vi o t n=ab q):o.op=.extract (.tmp t) n/\o.dst=ab q/\o.guard=ae:=by
 unfold vi at h;split at h
 .rename_i h1 h2 h3;obtain⟨h4,h9⟩:=Za h;clear h;simp only[yi,yP]at h4;obtain⟨rfl,rfl⟩:=h4;cases h9;exact⟨h1,h2,h3⟩
 .cases h
structure ApO where
 c:Call
 y:yn
 t:yc
 u:yc
 d:Tmp
def FZ(o:Oper)(t:Nat):yO ApO:=
 match o.op,o.dst,o.guard with
 |.call c,ab d,ae=>match c.callee with
  |.builtin .append=>match c.args.toList,c.argTypes.toList with
   |[.tmp x,y],[tt,u]=>if ah (x=t)=af then ab ⟨c,y,tt,u,d⟩ else ae
   |_,_=>ae
  |_=>ae
 |_,_,_=>ae
theorem ZIa{o:Oper}{t:Nat}{q:ApO}(h:FZ o t=ab q):o.op=.call q.c/\q.c.callee=.builtin .append/\q.c.args.toList=[.tmp t,q.y]/\q.c.argTypes.toList=[q.t,q.u]/\o.dst=ab q.d/\o.guard=ae:=by
 unfold FZ at h;split at h
 .rename_i h1 h2 h3;split at h
  .rename_i h4;split at h
   .rename_i h5 h6;obtain⟨h7,h9⟩:=Za h;clear h;have h7:=yF h7;subst h7;cases h9;exact⟨h1,h4,h5,h6,h2,h3⟩
   .cases h
  .cases h
 .cases h
def GA(o:Oper)(s v:Nat):yO (yc×yn):=
 match o.op,o.dst,o.guard with
 |.entryStore t m (.tmp x) (.tmp y),ae,ae=>if(ah (x=s)&&ah (y=v))=af then ab (t,m) else ae
 |_,_,_=>ae
theorem ZIb{o:Oper}{s v:Nat}{q:yc×yn}(h:GA o s v=ab q):o.op=.entryStore q.1 q.2 (.tmp s) (.tmp v)/\o.dst=ae/\o.guard=ae:=by
 unfold GA at h;split at h
 .rename_i h1 h2 h3;obtain⟨h4,h9⟩:=Za h;clear h;simp only[yi,yP]at h4;obtain⟨rfl,rfl⟩:=h4;cases h9;exact⟨h1,h2,h3⟩
 .cases h
def ZQe(P:yg)(t:yc)(m k:yn)(tt u:yc)(y:yn)(t5:yc)(m5:yn)(all all3 all5:yL TD)(H:yL ai)(K:yL ai->yO O):yO O:=
 match P.underlying t,aW P all t m,aW P all5 t5 m5,P.underlying tt with
 |some (.map kt et),ab (.mp id),ab (.mp id'),ab (.slice e)=>(mR H id).bind λme=>(aW P all kt k).bind λkd=>(qS kd me.k).bind λkey=>(lx P et).bind λz=>
  match z with
  |.sl (ab ag) _ []=>(P.info? e).bind λi=>(fJ P gj e).bind λT=>(aW P all3 u y).bind λyd=>(kB (lk H) P T u yd).bind λys=>(TP.to fl (.v (.sl T) ys) me.v).bind λv=>
   if(ah (id=id')&&me.l.isEmpty&&jH P kt me.k&&nL P et&&cf i&&ah (i.size≠0)&&ah (P.cellsOf e=T.size)&&lm ys.length i.bytes)=af then
    K (H.set id (.map me.tid me.k me.v [(key,v)])) else ae
  |_=>ae
 |_,_,_,_=>ae
def vj(P:yg)(l:yL Oper)(all:yL TD)(H:yL ai)(K:yL TD->yL ai->yO O):yO O:=
 match l with
 |[o1,o2,o3,o4,o5]=>(vh o1).bind λq1=>(vi o2 q1.2.2.2 0).bind λt1=>(FZ o3 t1).bind λq3=>(vi o4 q1.2.2.2 1).bind λt3=>(GA o5 t3 q3.d).bind λq5=>
  if(ah (q1.2.2.2≠t1)&&ah (q1.2.2.2≠q3.d)&&ah (q3.d≠t3)&&ah (q1.2.2.2 < all.length)&&ah (t1 < all.length)&&ah (q3.d < all.length)&&ah (t3 < all.length))=af then
   ZQe P q1.1 q1.2.1 q1.2.2.1 q3.t q3.u q3.y q5.1 q5.2 all ((all.set q1.2.2.2 .ao).set t1 .ao) ((((all.set q1.2.2.2 .ao).set t1 .ao).set q3.d .ao).set t3 .ao) H
    (K ((((all.set q1.2.2.2 .ao).set t1 .ao).set q3.d .ao).set t3 .ao))
  else ae
 |_=>ae
theorem jJ{L:Lk}(l:yL TD)(i:Nat)(d:TD):TD.ay L (l.set i d)=(TD.ay L l).set i (d.er L):=by rw[Zz,Zz,ybi]
theorem ZE4{ops:Array Oper}{l:yL Oper}{p:Nat}{K:yL TD->yL ai->yO O}(hops:∀(j:Nat)(x:Oper),l[j]? =ab x->ops[p+j]? =ab x)(h:vj P l all H K=ab out):
 ∃a H',K a H'=ab out/\a.length=all.length/\l.length=5/\∀(Q:Exit->Act->yz->Prop)(act:Act)(J:Sg),Ok J->J.H=aB H->aD J (TD.ay (lk H) all) act->
  (∀a' J',J'.H=aB H'->To J J'->Ok J'->aD J' (TD.ay (lk H') a) a'->Q .normal a' J'.w)->wpOps P ops Q (List.range' p 5) act J.w:=by
 unfold vj at h;split at h
 .rename_i o1 o2 o3 o4 o5;obtain⟨⟨t,m,k,t0⟩,h1,h⟩:=yf.1 h;obtain⟨t1,h2,h⟩:=yf.1 h;obtain⟨⟨c,y,tt,u,t2⟩,h3,h⟩:=yf.1 h;obtain⟨t3,h4,h⟩:=yf.1 h;obtain⟨⟨t5,m5⟩,h5,h⟩:=yf.1 h;obtain⟨hq,h⟩:=Za h;obtain⟨a1,a2,a3⟩:=ZH9 h1;obtain⟨b1,b2,b3⟩:=Zyt h2;obtain⟨c1,c2,c3,c4,c5,c6⟩:=ZIa h3;obtain⟨d1,d2,d3⟩:=Zyt h4;obtain⟨e1,e2,e3⟩:=ZIb h5;simp only[yi,yP]at hq;obtain⟨⟨⟨⟨⟨⟨q1,q2⟩,q3⟩,q4⟩,q5⟩,q6⟩,q7⟩:=hq;dsimp only at h a1 a2 b1 c1 c2 c3 c4 c5 d1 e1 q1 q2 q3 q4 q5 q6 q7;unfold ZQe at h;split at h
  .rename_i kt et id id' e hu hm hm5 htt;obtain⟨me,f1,h⟩:=yf.1 h;obtain⟨kd,f2,h⟩:=yf.1 h;obtain⟨key,f3,h⟩:=yf.1 h;obtain⟨z,f4,h⟩:=yf.1 h;split at h
   .rename_i zt;obtain⟨i,f5,h⟩:=yf.1 h;obtain⟨T,f6,h⟩:=yf.1 h;obtain⟨yd,f7,h⟩:=yf.1 h;obtain⟨ys,f8,h⟩:=yf.1 h;obtain⟨v,f9,h⟩:=yf.1 h;obtain⟨f10,h99⟩:=Za h;clear h;simp only[yi,yP]at f10;obtain⟨⟨⟨⟨⟨⟨⟨r1,r2⟩,r3⟩,r4⟩,r5⟩,r6⟩,r7⟩,r8⟩:=f10;subst r1;obtain⟨g1,g2⟩:=oj f1;have hle:=List.isEmpty_iff.1 r2;have hlk:lk (H.set id (.map me.tid me.k me.v [(key,v)]))=lk H:=X8 g1 rfl rfl;have hv:Pl.sl ae T.size (ys.map T.enc)=me.v.enc v:=oe _ _ _ f9;refine⟨_,_,h99,by simp,rfl,λQ act J ok hH yM hQ=> ?_⟩;have hk:=Zq (L:=lk H) f2;rw[re f3]at hk;have hmm:=Zq (L:=lk H) hm;rw[TD.er]at hmm;have hm5':=Zq (L:=lk H) hm5;rw[TD.er]at hm5';have hy:=Zq (L:=lk H) f7;rw[hle]at g2;obtain⟨s1,s2⟩:=Qz r8
    refine ZMI (P:=P) (J:=J) (ts:=TD.ay (lk H) all) (a:=act) (Q:=Q) (p:=p) (o1:=o1) (o2:=o2) (o3:=o3) (o4:=o4) (o5:=o5) (by simpa using hops 0 o1 rfl) (hops 1 o2 rfl) (hops 2 o3 rfl) (hops 3 o4 rfl) (hops 4 o5 rfl)
     a3 b3 c6 d3 e3 a1 a2 b1 b2 c1 c2 c3 c4 c5 d1 d2 e1 e2 q1 q2 q3 (by rw[iP];exact q4) (by rw[iP];exact q5) (by rw[iP];exact q6) (by rw[iP];exact q7)
     ok yM (kk:=me.k.enc key) (tm:=me.tid) (s0:=zt.size) (ys:=ys.map T.enc) (i:=i) hu hmm hk (by rw[hH];exact g2) (ol r3) (iW r3 key) r4 (om f4) htt f5 r5 r6 ?_ (by rw[yx];exact s1) (by rw[yx];exact s2) ?_ ?_
    .rw[jJ,jJ]at hy;rw[r7];rw[show(Dv.ao)=TD.er (lk H) .ao from rfl,hy]
     exact mO f8
    .rw[jJ,jJ,jJ,jJ]at hm5';exact hm5'
    .intro a' J' w1 w2 w3 w4;refine hQ a' J' ?_ w2 w3 ?_
     .rw[YF hlk,w1,hH,r7,hv];rfl
     .rw[hlk,jJ,jJ,jJ,jJ];exact w4
   .cases h
  .cases h
 .cases h
def ZOY(ops:Array Oper):Bool:=
 match ops.toList.drop (ops.size - 5) with
 |[o1,_,_,_,_]=>(vh o1).isSome
 |_=>ag
theorem ZIc{hi:HI}{aA:Sp P}{ops:Array Oper}{K:yL TD->yL ai->yO O}(ok:dx aA)
 (h:nf P hi aA ops (ops.toList.take (ops.size - 5)) all H (λa h _=>vj P (ops.toList.drop (ops.size - 5)) a h K)=ab out):
 ∃a h,K a h=ab out/\a.length=all.length/\∀id,Xq P (.region id ops ag) (TD.ay (lk H) all) (aB H) .normal (TD.ay (lk h) a) (aB h):=by
 obtain⟨a,h',hs,C,k1,k0,k2,k3⟩:=FU ok _ _ _ _ h
 have hops:∀(j:Nat)(x:Oper),(ops.toList.drop (ops.size - 5))[j]? =ab x->ops[(ops.size - 5)+j]? =ab x:=λj x hj=>by
  rw[List.getElem?_drop]at hj;simpa using hj
 obtain⟨a2,h2,j1,j2,j3,j4⟩:=ZE4 hops k1;refine⟨a2,h2,j1,by rw[j2,k0],λid=> ?_⟩;intro J act okJ hH yM;refine wp_region ?_;have e0:=k3 [];rw[ybg]at e0
 have hl:ops.size=(ops.size - 5)+5:=by
  rw[List.length_drop,Array.length_toList]at j3;omega
 have hr:yq ops.size=List.range' 0 (ops.toList.take (ops.size - 5)).length++List.range' (ops.size - 5) 5:=by
  rw[List.length_take,Array.length_toList,Nat.min_eq_left (by omega),List.range_eq_range']
  conv=>lhs;rw[hl]
  have:=List.range'_append (s:=0) (m:=ops.size - 5) (n:=5) (step:=1);simp only[yaz,Nat.one_mul]at this;exact this.symm
 rw[hr];refine ZuR (P:=P) (ops:=ops) _ (List.range' (ops.size - 5) 5) _ 0 _ J act hs [] C _ (λj x hj=> ?_) okJ yM (by rw[hH];exact e0) k2 ?_
 .rw[ych]at hj;split at hj
  .simpa using hj
  .cases hj
 .intro a' J' e1 to1 ok1 hrep1;refine j4 _ a' J' ok1 e1 hrep1 λa'' J'' e2 to2 ok2 hrep2=> ?_;exact⟨rfl,J'',rfl,e2,to1.trans to2,ok2,hrep2⟩
end
end Go.Ev
end
section
namespace Go.Ev
def YV(H H':yL ax):Prop:=∀J:Sg,Ok J->J.H=H->∃J':Sg,J'.w=J.w/\J'.H=H'/\To J J'/\Ok J'
theorem YV.refl(H:yL ax):YV H H:=λJ ok h=>⟨J,rfl,h,To.refl J,ok⟩
theorem YV.trans{A B C:yL ax}(h:YV A B)(k:YV B C):YV A C:=λJ ok e=>by
 obtain⟨J1,a1,a2,a3,a4⟩:=h J ok e;obtain⟨J2,b1,b2,b3,b4⟩:=k J1 a4 a2;exact⟨J2,b1.trans a1,b2,a3.trans b3,b4⟩
theorem rQ{H H':yL ax}(h:ct H H'):YV H H':=λJ ok e=>by
 subst e;obtain⟨to,ok'⟩:=jA ok h;exact⟨{ J with H:=H'},rfl,rfl,to,ok'⟩
theorem ZML{P:yg}{c:Code}{ts ts1 ts2:yL Dv}{H H1 H2:yL ax}{ex:Ex}(h:YV H H1/\∀(J:Sg)(a:Act),aD J ts a->aD J ts1 a)(r:Xq P c ts1 H1 ex ts2 H2):Xq P c ts H ex ts2 H2:=by
 intro J a ok hH yM;obtain⟨J1,e1,e2,e3,e4⟩:=h.1 J ok hH;have:=r J1 a e4 e2 (h.2 _ _ (yM.to e3.leaf));rw[e1]at this;refine wp_mono this ?_;rintro e' a' w' ⟨rfl,J2,q1,q2,q3,q4,q5⟩;exact⟨rfl,J2,q1,q2,e3.trans q3,q4,q5⟩
theorem GB{H:yL ax}{j:Nat}{x x' y:ax}(hj:H[j]? =ab x)
 (hy:∀J:Sg,dA J ae y)
 (hvar:(∃d st,x=.var d st)->∃d st,x'=.var d st) (hmap:(∃t bw,x=.map t bw)->∃t bw,x'=.map t bw) (hlog:∀s e xs,x≠ .log s e xs)
 (hunl:∀o,x.bv o->x'.bv o)
 (hrow:∀v s st e d,x=.row v s st e d->∃st' d',x'=.row v s st' e d')
 (hent:∀(J:Sg)(mi:yO Nat),J.H[H.length]? =ab y->J.m[H.length]? =ab ae->dA J mi x->dA J mi x'):YV H ((H++[y]).set j x'):=by
 intro J ok hH;subst hH;have hjl:j < J.H.length:=(yo.1 hj).1;obtain⟨to1,ok1⟩:=Wj (J':={ J with m:=J.m++[ae],H:=J.H++[y]}) ok rfl rfl rfl rfl (World.grownBy.refl J.w ae) (.inl rfl) (λ_=>hy _);obtain⟨mi,hm⟩:∃mi,J.m[j]? =ab mi:=⟨_,yac (by rw[ok.len];exact hjl)⟩;let J1:Sg:={ J with m:=J.m++[ae],H:=J.H++[y]};let J2:Sg:={ J1 with m:=J1.m.set j mi,H:=J1.H.set j x'}
 have hH1:J1.H[j]? =ab x:=by
  show(J.H++[y])[j]? =_;rw[yai hjl];exact hj
 have hm1:J1.m[j]? =ab mi:=by
  show(J.m++[ae])[j]? =_;rw[yai (by rw[ok.len];exact hjl)];exact hm
 have hx:=ok1.dc j x mi hH1 hm1
 obtain⟨to2,ok2⟩:=YX (J':=J2) (mi:=mi) (mi':=mi) ok1 hH1 hm1 rfl rfl rfl rfl rfl rfl rfl (ym _)
  (λ_ _ _=>rfl) (λ_ _ _ _ _ h=>h) (λo _ hu=>hunl o hu) (.inl rfl) (λq=>⟨rfl,hvar q⟩) (λq=>⟨rfl,hmap q⟩) (λs e xs q=>absurd q (hlog s e xs))
  (λleaf=>by
    refine hent J2 mi ?_ ?_ (nT leaf (λb _=>rfl) hx)
    .show(J1.H.set j _)[J.H.length]? =_;rw[ybl,yX (by omega)];simp[J1]
    .show(J1.m.set j _)[J.H.length]? =_;rw[ybl,yX (by omega)];show(J.m++[ae])[J.H.length]? =_;rw[yam (by rw[ok.len];exact ym _),ok.len];simp)
  (λv s st e d q=>by
    obtain⟨st',d',q'⟩:=hrow v s st e d q;exact⟨v,st',d',q',ym _,λ_=>⟨rfl,λb cur _ hc=>⟨cur,hc,rfl⟩⟩⟩)
 exact⟨J2,rfl,rfl,to1.trans to2,ok2⟩
theorem GC{J:Sg}{s:Nat}{a:yL yh}(h:yH J (.p (.sl (ab ag) s [])) a):a=[.slice ae 0 0]:=by
 simp only[yH,aw]at h;obtain⟨_,A,c,rfl,w1,w2,w3,w4,w5⟩:=h
 have hA:A=ae:=by
  have:=w3 ag rfl
  cases A with
  |none=>rfl
  |some _=>cases this
 subst hA;have hc:=w4 rfl;subst hc;rfl
theorem ZGJ{H:yL ax}{j s:Nat}{e:yc}{d d':Dv}{st:Bool}{yQ:yL Nat}(hj:H[j]? =ab (.var d st))(hg:YW d yQ s (.rv H.length 0 s 0 0)=ab d'):
 YV H ((H++[ax.row 0 s af e (.p (.arr 0 s []))]).set j (.var d' st)):=by
 have hsz:=V6 yQ d d' s _ rfl hg;refine GB hj (λJ=>⟨0,by simp[aO],.inl ⟨rfl,rfl⟩⟩) (λ_=>⟨_,_,rfl⟩) (λ⟨_,_,q⟩=>by cases q) (λ_ _ _ q=>by cases q) (λo hu=>hu) (λ_ _ _ _ _ q=>by cases q) ?_;rintro J mi h1 h2 ⟨b,cs,t,rfl,q2,q3,q4⟩;refine⟨b,cs,t,rfl,q2, ?_,by rw[hsz];exact q4⟩;rw[hsz];refine nZ yQ d d' s _ (λa ha=> ?_) hg _ q3;have:=GC ha;subst this;simp only[yH];exact⟨ae,0,rfl,ym _,by simp[maxLen],λ_=>rfl,λh=>absurd h (Nat.lt_irrefl 0),0,s,af,e,_,h1,ym _,λ_=>⟨rfl,.inl ⟨h2,rfl,rfl⟩⟩⟩
theorem ZKc{H:yL ax}{j s s' v N:Nat}{st:Bool}{e e':yc}{xs:yL Pl}{k:Nat}{x:Pl}{y:Dv}{yQ:yL Nat}(hj:H[j]? =ab (.row v s st e (.p (.arr N s xs))))(hx:xs[k]? =ab x)
 (hg:YW (.p x) yQ s' (.own H.length ae s' [])=ab y):YV H ((H++[ax.log s' e' []]).set j (.row v s st e (.arr N s ((xs.map .p).set k y)))):=by
 have hsz:=V6 yQ (.p x) y s' _ rfl hg;refine GB hj (λJ=>.inl ⟨rfl,rfl⟩) (λ⟨_,_,q⟩=>by cases q) (λ⟨_,_,q⟩=>by cases q) (λ_ _ _ q=>by cases q) (λo hu=> ?_) (λv2 s2 st2 e2 d2 q=>by cases q;exact⟨_,_,rfl⟩) ?_
 .obtain⟨u1,N',u2,u3⟩:=hu;exact⟨u1,N',by rw[<-u2];simp[aO],u3⟩
 rintro J mi h1 h2 ⟨N',q1,q2⟩;refine⟨N',by rw[<-q1];simp[aO], ?_⟩;rcases q2 with q2|⟨b,cur,cap,e3,e4,e5,e6,e7,e8⟩
 .exact .inl q2
 refine .inr ⟨b,cur,cap,e3,e4,e5,e6,e7, ?_⟩;have hk:(xs.map Dv.p)[k]? =ab (.p x):=by rw[yaj,hx];rfl
 simp only[yH,aw]at e8 ⊢;obtain⟨r1,r2,r3⟩:=e8;refine⟨by simpa using r1,λz hz=> ?_, ?_⟩
 .rcases List.mem_or_eq_of_mem_set hz with hz|hz
  .obtain⟨w,hw,rfl⟩:=List.mem_map.1 hz;exact r2 w hw
  .subst hz;rw[hsz];exact r2 x (ybp hx)
 .refine qc (x:=.p x) (y:=y) (λa ha=>nZ yQ (.p x) y s' _ (λa ha=> ?_) hg a ha) _ k _ hk (jz.2 r3);have:=GC ha;subst this;simp only[yH];exact⟨λ_ hx=>(by cases hx),ae,0,rfl,ym _,by simp[maxLen],Z7 _,λ_=>rfl,λh=>absurd rfl h,e',[],h1,ym _,λ_=>.inl ⟨h2,rfl,rfl⟩⟩
theorem ZMM{H:yL ax}{j:Nat}{d d':Dv}{st:Bool}(hj:H[j]? =ab (.var d st))(hsz:d'.size=d.size)(hd:∀J:Sg,Ok J->J.H=H->∀us,yH J d us->yH J d' us):YV H (H.set j (.var d' st)):=by
 intro J ok hH;subst hH;have hjl:j < J.H.length:=(yo.1 hj).1;obtain⟨mi,hm⟩:∃mi,J.m[j]? =ab mi:=⟨_,yac (by rw[ok.len];exact hjl)⟩;let J2:Sg:={ J with m:=J.m.set j mi,H:=J.H.set j (.var d' st)};obtain⟨b,cs,t,rfl,q2,q3,q4⟩:=ok.dc j _ mi hj hm;have q5:=hd J ok rfl _ q3
 obtain⟨to2,ok2⟩:=YX (J':=J2) (mi:=ab b) (mi':=ab b) ok hj hm rfl rfl rfl rfl rfl rfl rfl (ym _)
  (λ_ _ _=>rfl) (λ_ _ _ _ _ h=>h) (λo _ hu=>hu) (.inl rfl) (λq=>⟨rfl,_,_,rfl⟩) (λ⟨_,_,q⟩=>by cases q) (λs e xs q=>by cases q)
  (λleaf=>⟨b,cs,t,rfl,q2,by rw[hsz];exact ZZ leaf _ _ q5,by rw[hsz];exact q4⟩)
  (λv s st e d q=>by cases q)
 exact⟨J2,rfl,rfl,to2,ok2⟩
def ZOZ{α O:Type}(l:yL α)(f:α->yL α->yO O):yO O:=match l with
 |x::r=>f x r
 |[]=>ae
inductive jK where
 |rows (t:Tmp) (yQ:List Nat) (T:Ty) (e:yc) (np:List Nat)
 |focus (t:Tmp) (U:Ty) (e:yc)
 |done (t:Tmp)
 |fresh (t:Tmp) (i:Nat)
 |bU (t:Tmp) (yQ:List Nat) (T:Ty) (e:yc)
 |gC (t:Tmp)
 |gD (t:Tmp)
 |fE (t:Tmp) (i:Nat)
 |any (t:Tmp) (i:Nat) (T:Ty)
 |dw (t:Tmp)
 |split (t:Tmp) (ks:List Nat)
 |nn (t:Tmp)
 |hole
 |flat (t:Tmp)
 |rR (yQ:List Nat) (U:Ty) (e:yc)
 |jg (t:Tmp) (i:Nat) (ks:List Nat)
def ZKd:ai->Bool
 |.aO _ _ _ af _ _ _=>af
 |_=>ag
section
variable{O:Type}{out:O}
abbrev Kh(O:Type):=yL TD->yL ai->yO O
def GD(t:Tmp)(yQ:yL Nat)(T:Ty)(e:yc)(np:yL Nat)(a:yL TD)(h:yL ai)(K:Kh O):yO O:=
 match a[t]? with
 |some (.ak id [])=>match h[id]? with
  |some (.var d af)=>(iB T (.rw h.length) yQ d).bind λd'=>if(TD.frees h.length a&&h.all (ai.free h.length))=af then K a ((h++[ai.aO T np [] af e [] []]).set id (.var d' af)) else ae
  |_=>ae
 |_=>ae
def GF(t:Tmp)(yQ:yL Nat)(T:Ty)(e:yc)(a:yL TD)(h:yL ai)(K:Kh O):yO O:=
 match a[t]? with
 |some (.ak id [])=>match h[id]? with
  |some (.var d af)=>(iB T (.rw h.length) yQ d).bind λd'=>if(TD.frees h.length a&&h.all (ai.free h.length))=af then K a ((h++[ai.aQ T [] af e []]).set id (.var d' af)) else ae
  |_=>ae
 |_=>ae
def GG(t:Tmp)(U:Ty)(e:yc)(a:yL TD)(h:yL ai)(K:Kh O):yO O:=
 let j:=h.findIdx ZKd
 match h[j]?,((a[t]?).bind TD.num) with
 |some (.aO T np v af e' pre post),ab i=>if(TD.frees h.length a&&h.all (ai.free h.length))=af then if ah (i.n=(pre.length:Int))=af then ZOZ post λx r=>
   (iB U (.own h.length ae U ae) np (.p (Xm np (.v T x)))).bind λd=>K a ((h++[ai.log U e []]).set j (.bJ T np v af e' pre d r)) else ae else ae
 |_,_=>ae
def rS(h:yL ai):TD->yO (TD×yL Nat)
 |.rw j=>match h[j]? with
  |some (.aO T _ _ _ _ pre [])=>ab (.p (.sl ae T pre),[j])
  |some (.aQ T _ _ _ l)=>ab (.p (.sl ae T l),[j])
  |_=>ae
 |d=>ab (d,[])
def GH(h:yL ai):TD->(TD->yL Nat->yO O)->yO O
 |.rw j,K=>match h[j]? with
  |some (.aO T _ _ _ _ pre post)=>if post.isEmpty=af then K (.p (.sl ae T pre)) [j] else ae
  |some (.aQ T _ _ _ l)=>K (.p (.sl ae T l)) [j]
  |_=>ae
 |d,K=>K d []
theorem ZE8{h:yL ai}{d:TD}{K:TD->yL Nat->yO O}(k:GH h d K=ab out):∃q,rS h d=ab q/\K q.1 q.2=ab out:=by
 unfold GH at k;unfold rS;split at k
 .rename_i j;dsimp only;split at k
  .rename_i T np v st e pre post hd;rw[hd];obtain⟨h1,k⟩:=Za k
   cases post with
   |nil=>exact⟨_,rfl,k⟩
   |cons _ _=>cases h1
  .rename_i T v st e l hd;rw[hd];exact⟨_,rfl,k⟩
  .cases k
 .rename_i hne;refine⟨(d,[]), ?_,k⟩;cases d <;> first|rfl|exact absurd rfl (hne _)
def GI(h:yL ai):yL TD->(yL TD->yL Nat->yO O)->yO O
 |[],K=>K [] []
 |d::r,K=>GH h d λx l=>GI h r λy m=>K (x::y) (l++m)
def rT(h:yL ai):yL TD->yO (yL TD×yL Nat)
 |[]=>ab ([],[])
 |d::r=>match rS h d,rT h r with
  |some q,ab w=>ab (q.1::w.1,q.2++w.2)
  |_,_=>ae
theorem ZrI{h:yL ai}:∀{ds:yL TD}{K:yL TD->yL Nat->yO O},GI h ds K=ab out->∃q,rT h ds=ab q/\K q.1 q.2=ab out
 |[],K,k=>⟨_,rfl,k⟩
 |d::r,K,k=>by
  obtain⟨q,h1,k⟩:=ZE8 k;obtain⟨w,h2,k⟩:=ZrI k;exact⟨(q.1::w.1,q.2++w.2),by simp only[rT,h1,h2],k⟩
def jh:ai->ai
 |.aO T np v _ e a b=>.aO T np v ag e a b
 |.aQ t v _ e l=>.aQ t v ag e l
 |e=>e
def ib(ids:yL Nat)(H:yL ai):yL ai:=(yq H.length).zipWith (λi e=>if ids.contains i then jh e else e) H
def rU(t:Tmp)(a:yL TD)(h:yL ai)(K:Kh O):yO O:=
 match a[t]? with
 |some (.ak id [])=>match h[id]? with
  |some (.var (.agg ds) st)=>GI h ds λx l=>K a ((ib l h).set id (.var (.agg x) st))
  |_=>ae
 |_=>ae
def vk(t:Tmp)(i:Nat)(a:yL TD)(h:yL ai)(K:Kh O):yO O:=
 match a[t]? with
 |some (.ak j [])=>match h[j]? with
  |some (.var (.agg ds) st)=>match ds[i]? with
   |some (.rv id v s 0 n)=>match h[id]? with
    |some (.aQ T w _ _ l)=>if(ah (v=w.length)&&(ah (s=T.size)&&ah (n=l.length)))=af then K a (h.set j (.var (.agg (ds.set i (.rw id))) st)) else ae
    |_=>ae
   |_=>ae
  |_=>ae
 |_=>ae
def GJ(t:Tmp)(a:yL TD)(h:yL ai)(K:Kh O):yO O:=
 match a[t]? with
 |some (.rv id v s 0 n)=>match h[id]? with
  |some (.aQ T w _ _ l)=>if(ah (v=w.length)&&(ah (s=T.size)&&ah (n=l.length)))=af then K (a.set t (.rw id)) h else ae
  |_=>ae
 |_=>ae
def GK(t:Tmp)(a:yL TD)(h:yL ai)(K:Kh O):yO O:=
 match a[t]? with
 |some (.ak j [])=>match h[j]? with
  |some (.var (.rv id v s 0 n) st)=>match h[id]? with
   |some (.aQ T w _ _ l)=>if(ah (v=w.length)&&(ah (s=T.size)&&ah (n=l.length)))=af then K a (h.set j (.var (.rw id) st)) else ae
   |_=>ae
  |_=>ae
 |_=>ae
def GL(t:Tmp)(i:Nat)(T:Ty)(a:yL TD)(h:yL ai)(K:Kh O):yO O:=
 match a[t]? with
 |some (.ak j [])=>match h[j]? with
  |some (.var (.agg ds) st)=>match ds[i]? with
   |some (.p x)=>(TP.to iQ x T).bind λy=>K a (h.set j (.var (.agg (ds.set i (.p (.v T y)))) st))
   |_=>ae
  |_=>ae
 |_=>ae
def oJ:TP->TD
 |.arr n s xs=>.arr n s (xs.map TD.p)
 |x=>.p x
def GM(t:Tmp)(a:yL TD)(h:yL ai)(K:Kh O):yO O:=
 match a[t]? with
 |some (.ak j [])=>match h[j]? with
  |some (.var (.p (.arr n s xs)) st)=>K a (h.set j (.var (.arr n s (xs.map TD.p)) st))
  |some (.var (.p (.agg xs)) st)=>K a (h.set j (.var (.agg (xs.map oJ)) st))
  |_=>K a h
 |_=>K a h
def vl(z:Int)(t:Tmp)(a:yL TD)(h:yL ai)(K:Kh O):yL Nat->yO O
 |[]=>ae
 |n::r=>if(z==(n:Int))=af then K (a.set t (.p (.v (.int .i64) (n:Int)))) h else vl z t a h K r
def GN(t:Tmp)(ks:yL Nat)(a:yL TD)(h:yL ai)(K:Kh O):yO O:=
 match a.getD t .ao with
 |.p (.v (.int .i64) z)=>vl z t a h K ks
 |_=>ae
def vm{O:Type}(w:Nat)(f:Nat->yO O):yL Nat->yO O
 |[]=>ae
 |n::r=>if Nat.beq w n=af then f n else vm w f r
def GO(t:Tmp)(i:Nat)(ks:yL Nat)(a:yL TD)(h:yL ai)(K:Kh O):yO O:=
 match a[t]? with
 |some (.ak j [])=>match h[j]? with
  |some (.var (.agg ds) st)=>match ds[i]? with
   |some (.iface w y)=>vm w (λn=>K a (h.set j (.var (.agg (ds.set i (.iface n y))) st))) ks
   |_=>ae
  |_=>ae
 |_=>ae
def GP(t:Tmp)(a:yL TD)(h:yL ai)(K:Kh O):yO O:=
 match a.getD t .ao with
 |.ak _ _=>K a h
 |_=>ae
def ZO1(a:yL TD)(h:yL ai)(K:Kh O):yO O:=K a (h++[.gone])
def GQ(t:Tmp)(a:yL TD)(h:yL ai)(K:Kh O):yO O:=
 match a[t]? with
 |some (.ak j [])=>match h[j]? with
  |some (.var d st)=>(d.flat (lk h)).bind λx=>K a (h.set j (.var (.p x) st))
  |_=>ae
 |_=>ae
def GR(yQ:yL Nat)(U:Ty)(e:yc)(j:Nat)(a:yL TD)(h:yL ai)(K:Kh O):yO O:=
 match h[j]? with
 |some (.row v s af e0 (.arr n s2 [x]))=>match iB U (.own h.length ae U ae) yQ x with
  |some y=>if(ah (s=s2)&&(TD.frees h.length a&&h.all (ai.free h.length)))=af then K a ((h++[ai.log U e []]).set j (.row v s af e0 (.arr n s2 [y]))) else ae
  |none=>K a h
 |_=>K a h
def vn(yQ:yL Nat)(U:Ty)(e:yc):yL Nat->yL TD->yL ai->Kh O->yO O
 |[],a,h,K=>K a h
 |j::r,a,h,K=>GR yQ U e j a h λa h=>vn yQ U e r a h K
def ghT:jK->yL TD->yL ai->Kh O->yO O
 |.rows t yQ T e np,a,h,K=>GD t yQ T e np a h K
 |.focus t U e,a,h,K=>GG t U e a h K
 |.done t,a,h,K=>rU t a h K
 |.fresh t i,a,h,K=>vk t i a h K
 |.bU t yQ T e,a,h,K=>GF t yQ T e a h K
 |.gC t,a,h,K=>GJ t a h K
 |.gD t,a,h,K=>GK t a h K
 |.fE t i,a,h,K=>vk t i a h λa h=>rU t a h K
 |.any t i T,a,h,K=>GL t i T a h K
 |.dw t,a,h,K=>GM t a h K
 |.split t ks,a,h,K=>GN t ks a h K
 |.nn t,a,h,K=>GP t a h K
 |.hole,a,h,K=>ZO1 a h K
 |.flat t,a,h,K=>GQ t a h K
 |.rR yQ U e,a,h,K=>vn yQ U e (yq h.length) a h K
 |.jg t i ks,a,h,K=>GO t i ks a h K
def GS(g:yO jK)(a:yL TD)(h:yL ai)(K:Kh O):yO O:=
 match g with
 |none=>K a h
 |some g=>ghT g a h K
theorem rV{H:yL ai}{e:ai}(h:H.all (ai.free H.length)=af):aB (H++[e])=aB H++[e.er (lk (H++[e]))]:=by
 unfold aB;rw[yal];congr 1;refine ycl λx hx=> ?_;have hf:=ybc.1 h x hx;exact(EG (λid t hn=>kD id t hn) x hf).symm
theorem vo{H:yL ai}{e:ai}{a:yL TD}(h:TD.frees H.length a=af):TD.ay (lk (H++[e])) a=TD.ay (lk H) a:=(cB (λid t hn=>kD id t hn) a h).symm
theorem ZCU{t:Tmp}{yQ:yL Nat}{T:Ty}{e:yc}{np:yL Nat}{a:yL TD}{h:yL ai}{K:Kh O}(k:GD t yQ T e np a h K=ab out):
 ∃a' h',K a' h'=ab out/\a'.length=a.length/\YV (aB h) (aB h')/\∀(J:Sg)(act:Act),aD J (TD.ay (lk h) a) act->aD J (TD.ay (lk h') a') act:=by
 unfold GD at k;split at k
 .rename_i id hid;split at k
  .rename_i d hd;obtain⟨d',h1,k⟩:=yf.1 k;obtain⟨h2,k⟩:=Za k;rw[yi]at h2;have hlt:id < h.length:=(yo.1 hd).1;have hd':(h++[ai.aO T np [] af e [] []])[id]? =ab (.var d af):=by rw[yai hlt];exact hd
   have hL:lk ((h++[ai.aO T np [] af e [] []]).set id (.var d' af))=lk (h++[ai.aO T np [] af e [] []]):=X8 hd' rfl rfl;refine⟨_,_,k,rfl, ?_,λJ act r=> ?_⟩
   .have e1:aB ((h++[ai.aO T np [] af e [] []]).set id (.var d' af))=(aB h++[ax.row 0 T.size af e (.p (.arr 0 T.size []))]).set id (.var (d'.er (lk (h++[ai.aO T np [] af e [] []]))) af):=by
     rw[YF hL,rV h2.2];rfl
    rw[e1];have hj:(aB h)[id]? =ab (.var (d.er (lk h)) af):=by rw[ZJ hd];rfl
    refine ZGJ (yQ:=yQ) hj ?_;have e2:=mV (L:=lk (h++[ai.aO T np [] af e [] []])) yQ d d' h1;have e3:d.er (lk (h++[ai.aO T np [] af e [] []]))=d.er (lk h):=(iT (λid t hn=>kD id t hn) d (ybc.1 h2.2 _ (ybp hd))).symm;rw[e3,(kF (q:=(0,T.size,0)) (x:=.aO T np [] af e [] []) (List.getElem?_concat_length ..) rfl).1]at e2;rw[ZB];exact e2
   .rw[hL,vo h2.1];exact r
  .cases k
 .cases k
theorem ZCV{t:Tmp}{yQ:yL Nat}{T:Ty}{e:yc}{a:yL TD}{h:yL ai}{K:Kh O}(k:GF t yQ T e a h K=ab out):
 ∃a' h',K a' h'=ab out/\a'.length=a.length/\YV (aB h) (aB h')/\∀(J:Sg)(act:Act),aD J (TD.ay (lk h) a) act->aD J (TD.ay (lk h') a') act:=by
 unfold GF at k;split at k
 .rename_i id hid;split at k
  .rename_i d hd;obtain⟨d',h1,k⟩:=yf.1 k;obtain⟨h2,k⟩:=Za k;rw[yi]at h2;have hlt:id < h.length:=(yo.1 hd).1;have hd':(h++[ai.aQ T [] af e []])[id]? =ab (.var d af):=by rw[yai hlt];exact hd
   have hL:lk ((h++[ai.aQ T [] af e []]).set id (.var d' af))=lk (h++[ai.aQ T [] af e []]):=X8 hd' rfl rfl;refine⟨_,_,k,rfl, ?_,λJ act r=> ?_⟩
   .have e1:aB ((h++[ai.aQ T [] af e []]).set id (.var d' af))=(aB h++[ax.row 0 T.size af e (.p (.arr 0 T.size []))]).set id (.var (d'.er (lk (h++[ai.aQ T [] af e []]))) af):=by
     rw[YF hL,rV h2.2];rfl
    rw[e1];have hj:(aB h)[id]? =ab (.var (d.er (lk h)) af):=by rw[ZJ hd];rfl
    refine ZGJ (yQ:=yQ) hj ?_;have e2:=mV (L:=lk (h++[ai.aQ T [] af e []])) yQ d d' h1;have e3:d.er (lk (h++[ai.aQ T [] af e []]))=d.er (lk h):=(iT (λid t hn=>kD id t hn) d (ybc.1 h2.2 _ (ybp hd))).symm;rw[e3,(fC (T:=T) (v:=[]) (l:=[]) (List.getElem?_concat_length ..)).1]at e2;rw[ZB];exact e2
   .rw[hL,vo h2.1];exact r
  .cases k
 .cases k
theorem ZAh{t:Tmp}{U:Ty}{e:yc}{a:yL TD}{h:yL ai}{K:Kh O}(k:GG t U e a h K=ab out):
 ∃a' h',K a' h'=ab out/\a'.length=a.length/\YV (aB h) (aB h')/\∀(J:Sg)(act:Act),aD J (TD.ay (lk h) a) act->aD J (TD.ay (lk h') a') act:=by
 unfold GG at k;dsimp only at k;generalize h.findIdx ZKd=j at k;split at k
 .rename_i T np v e' pre post i hd hi;obtain⟨h2,k⟩:=Za k;obtain⟨_,k⟩:=Za k;simp only[yi]at h2;obtain⟨h2,h3⟩:=h2
  cases post with
  |nil=>cases k
  |cons x r=>
   have k:((iB U (.own h.length ae U ae) np (.p (Xm np (.v T x)))).bind λd=>K a ((h++[ai.log U e []]).set j (.bJ T np v af e' pre d r)))=ab out:=k;obtain⟨d,h1,k⟩:=yf.1 k;have hlt:j < h.length:=(yo.1 hd).1;have hd':(h++[ai.log U e []])[j]? =ab (.aO T np v af e' pre (x::r)):=by rw[yai hlt];exact hd
   have hL:lk ((h++[ai.log U e []]).set j (.bJ T np v af e' pre d r))=lk (h++[ai.log U e []]):=ES hd' rfl;refine⟨_,_,k,rfl, ?_,λJ act rr=> ?_⟩
   .have e1:aB ((h++[ai.log U e []]).set j (.bJ T np v af e' pre d r))=(aB h++[ax.log U.size e []]).set j (.row v.length T.size af e' (.arr (pre.length+(r.length+1)) T.size (((pre.map T.enc++(x::r).map λx=>(Xm np (.v T x)).pe).map .p).set pre.length (d.er (lk (h++[ai.log U e []])))))):=by
     rw[YF hL,rV h3];have hm:=ZGu (pre.map λx=>Dv.p (T.enc x)) (r.map λx=>.p (Xm np (.v T x)).pe) (.p (Xm np (.v T x)).pe) (d.er (lk (h++[ai.log U e []])));rw[yx]at hm
     have hm2:((pre.map T.enc++(x::r).map λx=>(Xm np (.v T x)).pe).map Dv.p).set pre.length (d.er (lk (h++[ai.log U e []])))=(pre.map λx=>Dv.p (T.enc x))++d.er (lk (h++[ai.log U e []]))::r.map λx=>.p (Xm np (.v T x)).pe:=by
      rw[yal,yaq,yaq];exact hm
     rw[hm2];rfl
    rw[e1];have hj:(aB h)[j]? =ab (.row v.length T.size af e' (.p (.arr (pre.length+(r.length+1)) T.size (pre.map T.enc++(x::r).map λx=>(Xm np (.v T x)).pe)))):=by rw[ZJ hd];rfl
    have hx:(pre.map T.enc++(x::r).map λx=>(Xm np (.v T x)).pe)[pre.length]? =ab (Xm np (.v T x)).pe:=by
     have:=EU (pre.map T.enc) (r.map λx=>(Xm np (.v T x)).pe) (Xm np (.v T x)).pe;rw[yx]at this;exact this
    refine ZKc (yQ:=np) hj hx ?_;have e2:=mV (L:=lk (h++[ai.log U e []])) np _ d h1
    have e3:(TD.own h.length ae U ae).er (lk (h++[ai.log U e []]))=.own h.length ae U.size []:=by
     rw[TD.er,mU];rfl
    rw[e3,TD.er]at e2;rw[ZB];exact e2
   .rw[hL,vo h2];exact rr
 .cases k
theorem ZMN{H:yL ax}{j s s' v N:Nat}{st:Bool}{e e':yc}{x y:Dv}{yQ:yL Nat}(hj:H[j]? =ab (.row v s st e (.arr N s [x])))
 (hg:YW x yQ s' (.own H.length ae s' [])=ab y):YV H ((H++[ax.log s' e' []]).set j (.row v s st e (.arr N s [y]))):=by
 have hsz:=V6 yQ x y s' _ rfl hg;refine GB hj (λJ=>.inl ⟨rfl,rfl⟩) (λ⟨_,_,q⟩=>by cases q) (λ⟨_,_,q⟩=>by cases q) (λ_ _ _ q=>by cases q) (λo hu=> ?_) (λv2 s2 st2 e2 d2 q=>by cases q;exact⟨_,_,rfl⟩) ?_
 .obtain⟨u1,N',u2,u3⟩:=hu;exact⟨u1,N',by rw[<-u2];simp[aO],u3⟩
 rintro J mi h1 h2 ⟨N',q1,q2⟩;refine⟨N',by rw[<-q1];simp[aO], ?_⟩;rcases q2 with q2|⟨b,cur,cap,e3,e4,e5,e6,e7,e8⟩
 .exact .inl q2
 refine .inr ⟨b,cur,cap,e3,e4,e5,e6,e7, ?_⟩;simp only[yH]at e8 ⊢;obtain⟨r1,r2,r3⟩:=e8;refine⟨by simpa using r1,λz hz=> ?_, ?_⟩
 .have:z=y:=by simpa using hz
  subst this;rw[hsz];exact r2 x (yar.2 rfl)
 .refine qc (x:=x) (y:=y) (λa ha=>nZ yQ x y s' _ (λa ha=> ?_) hg a ha) [x] 0 _ rfl r3;have:=GC ha;subst this;simp only[yH];exact⟨λ_ hx=>(by cases hx),ae,0,rfl,ym _,by simp[maxLen],Z7 _,λ_=>rfl,λh=>absurd rfl h,e',[],h1,ym _,λ_=>.inl ⟨h2,rfl,rfl⟩⟩
theorem ZFc{yQ:yL Nat}{U:Ty}{e:yc}{j:Nat}{a:yL TD}{h:yL ai}{K:Kh O}(k:GR yQ U e j a h K=ab out):
 ∃a' h',K a' h'=ab out/\a'.length=a.length/\YV (aB h) (aB h')/\∀(J:Sg)(act:Act),aD J (TD.ay (lk h) a) act->aD J (TD.ay (lk h') a') act:=by
 unfold GR at k;split at k
 .rename_i v s e0 n s2 x hd;split at k
  .rename_i y h1;obtain⟨h2,k⟩:=Za k;simp only[yi,yP]at h2;obtain⟨hs,h2,h3⟩:=h2;subst hs;have hlt:j < h.length:=(yo.1 hd).1;have hd':(h++[ai.log U e []])[j]? =ab (.row v s af e0 (.arr n s [x])):=by rw[yai hlt];exact hd
   have hL:lk ((h++[ai.log U e []]).set j (.row v s af e0 (.arr n s [y])))=lk (h++[ai.log U e []]):=ES hd' rfl;refine⟨_,_,k,rfl, ?_,λJ act rr=> ?_⟩
   .have e1:aB ((h++[ai.log U e []]).set j (.row v s af e0 (.arr n s [y])))=(aB h++[ax.log U.size e []]).set j (.row v s af e0 (.arr n s [y.er (lk (h++[ai.log U e []]))])):=by
     rw[YF hL,rV h3];rfl
    rw[e1]
    have hj:(aB h++[ax.log U.size e []])[j]? =ab (.row v s af e0 (.arr n s [x.er (lk (h++[ai.log U e []]))])):=by
     have e3:aB (h++[ai.log U e []])=aB h++[ax.log U.size e []]:=by rw[rV h3];rfl
     rw[<-e3,ZJ hd'];rfl
    rw[yai (by rw[ZB];exact hlt)]at hj;refine ZMN (yQ:=yQ) hj ?_;have e2:=mV (L:=lk (h++[ai.log U e []])) yQ _ y h1
    have e3:(TD.own h.length ae U ae).er (lk (h++[ai.log U e []]))=.own h.length ae U.size []:=by
     rw[TD.er,mU];rfl
    rw[e3]at e2;rw[ZB];exact e2
   .rw[hL,vo h2];exact rr
  .exact⟨_,_,k,rfl,YV.refl _,λ_ _ r=>r⟩
 .exact⟨_,_,k,rfl,YV.refl _,λ_ _ r=>r⟩
theorem ZrJ{yQ:yL Nat}{U:Ty}{e:yc}:∀{l:yL Nat}{a:yL TD}{h:yL ai}{K:Kh O},vn yQ U e l a h K=ab out->
 ∃a' h',K a' h'=ab out/\a'.length=a.length/\YV (aB h) (aB h')/\∀(J:Sg)(act:Act),aD J (TD.ay (lk h) a) act->aD J (TD.ay (lk h') a') act
 |[],a,h,K,k=>⟨_,_,k,rfl,YV.refl _,λ_ _ r=>r⟩
 |j::r,a,h,K,k=>by
  obtain⟨a1,h1,k,l1,g1,r1⟩:=ZFc (K:=λa h=>vn yQ U e r a h K) k;obtain⟨a2,h2,k,l2,g2,r2⟩:=ZrJ k;exact⟨a2,h2,k,l2.trans l1,g1.trans g2,λJ act r=>r2 J act (r1 J act r)⟩
theorem ZKh(e:ai):dy (ab (jh e))=dy (ab e):=by cases e <;> rfl
theorem vp(ids:yL Nat)(H:yL ai)(i:Nat):(ib ids H)[i]? =(H[i]?).map λe=>if ids.contains i then jh e else e:=by
 unfold ib;rw[List.getElem?_zipWith];rcases ybr i H.length with h|h
 .rw[List.getElem?_range h,yac h];rfl
 .rw[yan (by simpa using h),yan h];rfl
theorem Zyv(ids:yL Nat)(H:yL ai):lk (ib ids H)=lk H:=by
 funext i;unfold lk;rw[vp]
 cases H[i]? with
 |none=>rfl
 |some e=>
  show dy (ab (if ids.contains i=af then jh e else e))=_
  split
  .exact ZKh e
  .rfl
theorem ZId(ids:yL Nat)(H:yL ai):ct (aB H) (aB (ib ids H)):=by
 refine FB (by rw[ZB,ZB];unfold ib;simp) λi a b h1 h2=> ?_;unfold aB at h1 h2;rw[yaj]at h1 h2;rw[Zyv,vp]at h2
 cases he:H[i]? with
 |none=>rw[he]at h1;cases h1
 |some e=>
  rw[he]at h1 h2;cases h1;cases h2;show dX (e.er (lk H)) (ai.er (lk H) (if ids.contains i=af then jh e else e))
  split
  .cases e <;> first|exact .refl _|exact .lock
  .exact .refl _
theorem ZKi{h H:yL ai}{d:TD}{q:TD×yL Nat}(hq:rS h d=ab q)(hL:lk H=lk h)(hl:∀j,j∈q.2->∀e,h[j]? =ab e->H[j]? =ab (jh e)):
 (q.1.er (lk H)).size=(d.er (lk H)).size/\∀J:Sg,Ok J->J.H=aB H->∀us,yH J (d.er (lk H)) us->yH J (q.1.er (lk H)) us:=by
 have yS:∀x:TD,(q.1.er (lk H)).size=(q.1.er (lk H)).size/\∀J:Sg,Ok J->J.H=aB H->∀us,yH J (q.1.er (lk H)) us->yH J (q.1.er (lk H)) us:=λ_=>⟨rfl,λ_ _ _ _ r=>r⟩
 have row:∀(j:Nat)(v:Nat)(s:Nat)(e:yc)(xs:yL Pl)(T:Ty)(l:yL T.aN),(TD.rw j).er (lk H)=.rv j v s 0 xs.length->(aB H)[j]? =ab (.row v s ag e (.p (.arr xs.length s xs)))->s=T.size->xs=l.map T.enc->
  ((TD.p (.sl ae T l)).er (lk H)).size=((TD.rw j).er (lk H)).size/\∀J:Sg,Ok J->J.H=aB H->∀us,yH J ((TD.rw j).er (lk H)) us->yH J ((TD.p (.sl ae T l)).er (lk H)) us:=by
  intro j v s e xs T l e1 e2 e3 e4;subst e3;rw[e1];refine⟨rfl,λJ ok hH us r=> ?_⟩;have dr:=bC.mI (H:=J.H) (lo:=0) (n:=xs.length) (by rw[hH];exact e2) (by omega);rw[List.drop_zero,List.take_length]at dr;have:=AR ok dr us r;rw[TD.er,TP.pe, <-e4];simpa[yH] using this
 unfold rS at hq;split at hq
 .rename_i j;split at hq
  .rename_i T np v st e pre hd;cases hq;have hH:=hl j (yao ..) _ hd;have hr:=kF (q:=(v.length,T.size,pre.length+0)) (x:=jh (.aO T np v st e pre [])) hH rfl;refine row j v.length T.size e (pre.map T.enc) T pre (by rw[hr.1,yx];rfl) ?_ rfl rfl;rw[ZJ hH,yx];simp only[jh,ai.er,List.map_nil,ybg,List.length_nil,Nat.add_zero]
  .rename_i T v st e l hd;cases hq;have hH:=hl j (yao ..) _ hd;have hr:=fC (T:=T) (v:=v) (st:=ag) (e:=e) (l:=l) hH;refine row j v.length T.size e (l.map T.enc) T l (by rw[hr.1,yx]) ?_ rfl rfl;rw[ZJ hH,yx];rfl
  .cases hq
 .cases hq;exact yS d
theorem Zyw{h H:yL ai}:∀{ds:yL TD}{q:yL TD×yL Nat},rT h ds=ab q->lk H=lk h->(∀j,j∈q.2->∀e,h[j]? =ab e->H[j]? =ab (jh e))->
 Dv.sizes (TD.ay (lk H) q.1)=Dv.sizes (TD.ay (lk H) ds)/\∀J:Sg,Ok J->J.H=aB H->∀us,aG J (TD.ay (lk H) ds) us->aG J (TD.ay (lk H) q.1) us
 |[],q,hq,hL,hl=>by cases hq;exact⟨rfl,λ_ _ _ _ r=>r⟩
 |d::r,q,hq,hL,hl=>by
  simp only[rT]at hq;split at hq
  .rename_i q1 q2 h1 h2;cases hq;obtain⟨a1,a2⟩:=ZKi h1 hL (λj hj=>hl j (List.mem_append_left _ hj));obtain⟨b1,b2⟩:=Zyw h2 hL (λj hj=>hl j (List.mem_append_right _ hj));refine⟨by simp only[TD.ay,Dv.sizes];rw[a1,b1],λJ ok hH us rr=> ?_⟩;simp only[TD.ay,aG]at rr ⊢;obtain⟨u1,u2,e1,e2,e3⟩:=rr;exact⟨u1,u2,e1,a2 J ok hH _ e2,b2 J ok hH _ e3⟩
  .cases hq
theorem ZrK{t:Tmp}{a:yL TD}{h:yL ai}{K:Kh O}(k:rU t a h K=ab out):
 ∃a' h',K a' h'=ab out/\a'.length=a.length/\YV (aB h) (aB h')/\∀(J:Sg)(act:Act),aD J (TD.ay (lk h) a) act->aD J (TD.ay (lk h') a') act:=by
 unfold rU at k;split at k
 .rename_i id hid;split at k
  .rename_i ds st hd;obtain⟨q,h1,k⟩:=ZrI k
   have hd2:(ib q.2 h)[id]? =ab (.var (.agg ds) st):=by
    rw[vp,hd];show ab (if q.2.contains id=af then jh (.var (.agg ds) st) else .var (.agg ds) st)=_
    split <;> rfl
   have hL0:lk (ib q.2 h)=lk h:=Zyv _ _;have hL:lk ((ib q.2 h).set id (.var (.agg q.1) st))=lk (ib q.2 h):=X8 hd2 rfl rfl;refine⟨_,_,k,rfl,(rQ (ZId q.2 h)).trans ?_,λJ act rr=>by rw[hL,hL0];exact rr⟩;rw[YF hL];have hj:(aB (ib q.2 h))[id]? =ab (.var (.agg (TD.ay (lk (ib q.2 h)) ds)) st):=by rw[ZJ hd2];rfl
   obtain⟨c1,c2⟩:=Zyw (H:=ib q.2 h) h1 hL0 (λj hj e he=>by
    rw[vp,he];show ab (if q.2.contains j=af then jh e else e)=_
    rw[yW (by simpa using hj)])
   refine ZMM hj ?_ λJ ok hH us r=> ?_
   .exact c1
   .simp only[TD.er,yH]at r ⊢;exact c2 J ok hH us r
  .cases k
 .cases k
theorem ZCW{L:Lk}{ds:yL TD}{i:Nat}{x y:TD}(h:ds[i]? =ab x)(e:y.er L=x.er L):TD.ay L (ds.set i y)=TD.ay L ds:=by
 rw[Zz,Zz,ybi,e];apply ybe;intro k;by_cases hk:i=k
 .subst hk;rw[yci (by rw[yx];exact(yo.1 h).1),yaj,h];rfl
 .rw[ycz hk]
theorem ZoP{t:Tmp}{i:Nat}{a:yL TD}{h:yL ai}{K:Kh O}(k:vk t i a h K=ab out):
 ∃a' h',K a' h'=ab out/\a'.length=a.length/\YV (aB h) (aB h')/\∀(J:Sg)(act:Act),aD J (TD.ay (lk h) a) act->aD J (TD.ay (lk h') a') act:=by
 unfold vk at k;split at k
 .rename_i j hj;split at k
  .rename_i ds st hd;split at k
   .rename_i id v s n hi;split at k
    .rename_i T w st' e l hr;obtain⟨c,k2⟩:=Za k;clear k;rw[yi,yi,yP,yP,yP]at c;obtain⟨rfl,rfl,rfl⟩:=c;have hL:lk (h.set j (.var (.agg (ds.set i (.rw id))) st))=lk h:=X8 hd rfl rfl
     have he:(TD.rw id).er (lk h)=(TD.rv id w.length T.size 0 l.length).er (lk h):=by
      refine(EO (v:=w) (s:=T.size) (N:=l.length) ?_).1;unfold Z3 lk;dsimp only;rw[hr];rfl
     refine⟨_,_,k2,rfl, ?_,λJ act rr=>by rw[hL];exact rr⟩
     have e2:aB (h.set j (.var (.agg (ds.set i (.rw id))) st))=aB h:=by
      rw[YF hL];show(aB h).set j (.var (.agg (TD.ay (lk h) (ds.set i (.rw id)))) st)=aB h;rw[ZCW hi he];apply ybe;intro q;by_cases hq:j=q
      .subst hq;have hjl:(aB h)[j]? =ab (.var (.agg (TD.ay (lk h) ds)) st):=by rw[ZJ hd];rfl
       rw[yci (yo.1 hjl).1,hjl]
      .rw[ycz hq]
     rw[e2];exact YV.refl _
    .cases k
   .cases k
  .cases k
 .cases k
theorem ZCX{h:yL ai}{id:Nat}{T:Ty}{w:yL Unit}{st:Bool}{e:yc}{l:yL T.aN}(hr:h[id]? =ab (.aQ T w st e l)):(TD.rw id).er (lk h)=(TD.rv id w.length T.size 0 l.length).er (lk h):=by
 refine(EO (v:=w) (s:=T.size) (N:=l.length) ?_).1;unfold Z3 lk;dsimp only;rw[hr];rfl
theorem ZwW{t:Tmp}{a:yL TD}{h:yL ai}{K:Kh O}(k:GJ t a h K=ab out):
 ∃a' h',K a' h'=ab out/\a'.length=a.length/\YV (aB h) (aB h')/\∀(J:Sg)(act:Act),aD J (TD.ay (lk h) a) act->aD J (TD.ay (lk h') a') act:=by
 unfold GJ at k;split at k
 .rename_i id v s n hi;split at k
  .rename_i T w st' e l hr;obtain⟨c,k2⟩:=Za k;clear k;rw[yi,yi,yP,yP,yP]at c;obtain⟨rfl,rfl,rfl⟩:=c;exact⟨_,_,k2,yba,YV.refl _,λJ act rr=>by rw[ZCW hi (ZCX hr)];exact rr⟩
  .cases k
 .cases k
theorem ZwX{t:Tmp}{a:yL TD}{h:yL ai}{K:Kh O}(k:GK t a h K=ab out):
 ∃a' h',K a' h'=ab out/\a'.length=a.length/\YV (aB h) (aB h')/\∀(J:Sg)(act:Act),aD J (TD.ay (lk h) a) act->aD J (TD.ay (lk h') a') act:=by
 unfold GK at k;split at k
 .rename_i j hj;split at k
  .rename_i id v s n st hd;split at k
   .rename_i T w st' e l hr;obtain⟨c,k2⟩:=Za k;clear k;rw[yi,yi,yP,yP,yP]at c;obtain⟨rfl,rfl,rfl⟩:=c;have hL:lk (h.set j (.var (.rw id) st))=lk h:=X8 hd rfl rfl;refine⟨_,_,k2,rfl, ?_,λJ act rr=>by rw[hL];exact rr⟩
    have e2:aB (h.set j (.var (.rw id) st))=aB h:=by
     rw[YF hL];show(aB h).set j (.var ((TD.rw id).er (lk h)) st)=aB h;rw[ZCX hr];apply ybe;intro q;by_cases hq:j=q
     .subst hq;have hjl:(aB h)[j]? =ab (.var ((TD.rv id w.length T.size 0 l.length).er (lk h)) st):=by rw[ZJ hd];rfl
      rw[yci (yo.1 hjl).1,hjl]
     .rw[ycz hq]
    rw[e2];exact YV.refl _
   .cases k
  .cases k
 .cases k
theorem ZGK:∀{l:yL Dv}{i:Nat}{d e:Dv},l[i]? =ab d->Wk d e->cK l (l.set i e)
 |[],_,_,_,h,_=>by simp at h
 |x::r,0,d,e,h,k=>by
  simp only[ybb,yj]at h;subst h
  exact .cons k (cK.refl r)
 |x::r,i+1,d,e,h,k=>by
  simp only[yat]at h;exact .cons (Wk.refl x) (ZGK h k)
theorem ZKj{L:Lk}:∀{ds:yL TD}{i:Nat}{d e:TD},ds[i]? =ab d->(TD.ay L ds)[i]? =ab (d.er L)/\TD.ay L (ds.set i e)=(TD.ay L ds).set i (e.er L)
 |[],_,_,_,h=>by simp at h
 |x::r,0,d,e,h=>by
  simp only[ybb,yj]at h;subst h
  exact⟨rfl,rfl⟩
 |x::r,i+1,d,e,h=>by
  simp only[yat]at h;obtain⟨h1,h2⟩:=ZKj (e:=e) h;exact⟨h1,by show x.er L::TD.ay L (r.set i e)=_;rw[h2];rfl⟩
theorem ZFd{t:Tmp}{i:Nat}{T:Ty}{a:yL TD}{h:yL ai}{K:Kh O}(k:GL t i T a h K=ab out):
 ∃a' h',K a' h'=ab out/\a'.length=a.length/\YV (aB h) (aB h')/\∀(J:Sg)(act:Act),aD J (TD.ay (lk h) a) act->aD J (TD.ay (lk h') a') act:=by
 unfold GL at k;split at k
 .rename_i j hj;split at k
  .rename_i ds st hd;split at k
   .rename_i x hx;obtain⟨y,h1,k⟩:=yf.1 k;have hL:lk (h.set j (.var (.agg (ds.set i (.p (.v T y)))) st))=lk h:=X8 hd rfl rfl;refine⟨_,_,k,rfl, ?_,λJ act rr=>by rw[hL];exact rr⟩;rw[YF hL];have hjl:(aB h)[j]? =ab (.var (.agg (TD.ay (lk h) ds)) st):=by rw[ZJ hd];rfl
    obtain⟨e1,e2⟩:=ZKj (L:=lk h) (e:=.p (.v T y)) hx;refine rQ (ct.dR hjl (dX.var ?_));show Wk (.agg (TD.ay (lk h) ds)) (.agg (TD.ay (lk h) (ds.set i (.p (.v T y)))));rw[e2];exact cK.agg (ZGK e1 (Wk.p (qo h1)))
   .cases k
  .cases k
 .cases k
theorem Wk.dw{n s:Nat}{xs:yL Pl}:Wk (.p (.arr n s xs)) (.arr n s (xs.map Dv.p)):=⟨rfl,rfl,λJ vs r=>by
 simp only[yH,aw]at r ⊢;exact⟨by rw[yx];exact r.1,λx hx=>by obtain⟨y,hy,rfl⟩:=List.mem_map.1 hx;exact r.2.1 y hy,jz.2 r.2.2⟩⟩
theorem ZKk(L:Lk)(x:TP):Wk (.p x.pe) ((oJ x).er L):=by
 unfold oJ;split
 .rename_i n s xs;show Wk (.p (.arr n s (TP.cg xs))) (.arr n s (TD.ay L (xs.map TD.p)));rw[qK];exact Wk.dw
 .exact Wk.refl _
theorem Zyx(L:Lk):∀(xs:yL TP),cK ((TP.cg xs).map Dv.p) (TD.ay L (xs.map oJ))
 |[]=>cK.nil
 |x::r=>cK.cons (ZKk L x) (Zyx L r)
theorem ZCY{t:Tmp}{a:yL TD}{h:yL ai}{K:Kh O}(k:GM t a h K=ab out):
 ∃a' h',K a' h'=ab out/\a'.length=a.length/\YV (aB h) (aB h')/\∀(J:Sg)(act:Act),aD J (TD.ay (lk h) a) act->aD J (TD.ay (lk h') a') act:=by
 unfold GM at k;split at k
 .rename_i j hj;split at k
  .rename_i n s xs st hd;have hL:lk (h.set j (.var (.arr n s (xs.map TD.p)) st))=lk h:=X8 hd rfl rfl;refine⟨_,_,k,rfl, ?_,λJ act rr=>by rw[hL];exact rr⟩;rw[YF hL];have hjl:(aB h)[j]? =ab (.var (.p (.arr n s (TP.cg xs))) st):=by rw[ZJ hd];rfl
   refine rQ (ct.dR hjl (dX.var ?_));show Wk (.p (.arr n s (TP.cg xs))) (.arr n s (TD.ay (lk h) (xs.map TD.p)))
   have e:TD.ay (lk h) (xs.map TD.p)=(TP.cg xs).map Dv.p:=by
    rw[Zz,WB,yaq,yaq];rfl
   rw[e];exact Wk.dw
  .rename_i xs st hd;have hL:lk (h.set j (.var (.agg (xs.map oJ)) st))=lk h:=X8 hd rfl rfl;refine⟨_,_,k,rfl, ?_,λJ act rr=>by rw[hL];exact rr⟩;rw[YF hL];have hjl:(aB h)[j]? =ab (.var (.p (.agg (TP.cg xs))) st):=by rw[ZJ hd];rfl
   refine rQ (ct.dR hjl (dX.var ?_));show Wk (.p (.agg (TP.cg xs))) (.agg (TD.ay (lk h) (xs.map oJ)));have k0:=ZCG (TP.cg xs);have k1:=cK.agg (Zyx (lk h) xs);exact⟨k0.size.trans k1.size,k0.agg.trans k1.agg,λJ vs r=>k1.cY J vs (k0.cY J vs r)⟩
  .exact⟨_,_,k,rfl,YV.refl _,λ_ _ r=>r⟩
 .exact⟨_,_,k,rfl,YV.refl _,λ_ _ r=>r⟩
theorem ZCZ{t:Tmp}{a:yL TD}{h:yL ai}{K:Kh O}(k:GQ t a h K=ab out):
 ∃a' h',K a' h'=ab out/\a'.length=a.length/\YV (aB h) (aB h')/\∀(J:Sg)(act:Act),aD J (TD.ay (lk h) a) act->aD J (TD.ay (lk h') a') act:=by
 unfold GQ at k;split at k
 .rename_i j hj;split at k
  .rename_i d st hd;obtain⟨x,h1,k⟩:=yf.1 k;have hL:lk (h.set j (.var (.p x) st))=lk h:=X8 hd rfl rfl;refine⟨_,_,k,rfl, ?_,λJ act rr=>by rw[hL];exact rr⟩;rw[YF hL];have hjl:(aB h)[j]? =ab (.var (d.er (lk h)) st):=by rw[ZJ hd];rfl
   have hf:(d.er (lk h)).flat=ab x.pe:=by rw[qt,h1];rfl
   refine rQ (ct.dR hjl (dX.var ?_))
   exact⟨(tI _ _ hf).symm,(yC hf).symm,λJ vs r=>by
    have:=pK _ _ _ hf r;show yH J (.p x.pe) vs;simp only[yH];exact this⟩
  .cases k
 .cases k
theorem ZrL{z:Int}{t:Tmp}{a:yL TD}{h:yL ai}{K:Kh O}(ha:a.getD t .ao=.p (.v (.int .i64) z)):∀{ks:yL Nat},vl z t a h K ks=ab out->K a h=ab out
 |[],k=>by cases k
 |n::r,k=>by
  unfold vl at k;split at k
  .rename_i e;have e:z=(n:Int):=by simpa using e
   rw[bB (by rw[ha,e])]at k;exact k
  .exact ZrL ha k
theorem ZAi{t:Tmp}{ks:yL Nat}{a:yL TD}{h:yL ai}{K:Kh O}(k:GN t ks a h K=ab out):
 ∃a' h',K a' h'=ab out/\a'.length=a.length/\YV (aB h) (aB h')/\∀(J:Sg)(act:Act),aD J (TD.ay (lk h) a) act->aD J (TD.ay (lk h') a') act:=by
 unfold GN at k;split at k
 .rename_i z hz;exact⟨_,_,ZrL hz k,rfl,YV.refl _,λ_ _ r=>r⟩
 .cases k
theorem Zyy{α:Type}{l:yL α}{i:Nat}{x:α}(h:l[i]? =ab x):l.set i x=l:=by
 apply ybe;intro j;rw[ybl];split
 .rename_i e;subst e;rw[h,yW (yo.1 h).1]
 .rfl
theorem ZoQ{w:Nat}{f:Nat->yO O}:∀{ks:yL Nat},vm w f ks=ab out->f w=ab out
 |[],k=>by cases k
 |n::r,k=>by
  unfold vm at k;split at k
  .rename_i e;rw[Nat.eq_of_beq_eq_true e];exact k
  .exact ZoQ k
theorem ZwY{t:Tmp}{i:Nat}{ks:yL Nat}{a:yL TD}{h:yL ai}{K:Kh O}(k:GO t i ks a h K=ab out):
 ∃a' h',K a' h'=ab out/\a'.length=a.length/\YV (aB h) (aB h')/\∀(J:Sg)(act:Act),aD J (TD.ay (lk h) a) act->aD J (TD.ay (lk h') a') act:=by
 unfold GO at k;split at k
 .split at k
  .rename_i j _ ds st hj;split at k
   .rename_i w y hi;have k:=ZoQ k;rw[Zyy hi,Zyy hj]at k;exact⟨_,_,k,rfl,YV.refl _,λ_ _ r=>r⟩
   .cases k
  .cases k
 .cases k
theorem ZKl{g:yO jK}{a:yL TD}{h:yL ai}{K:Kh O}(k:GS g a h K=ab out):
 ∃a' h',K a' h'=ab out/\a'.length=a.length/\YV (aB h) (aB h')/\∀(J:Sg)(act:Act),aD J (TD.ay (lk h) a) act->aD J (TD.ay (lk h') a') act:=by
 unfold GS at k;split at k
 .exact⟨_,_,k,rfl,YV.refl _,λ_ _ r=>r⟩
 .rename_i g
  cases g with
  |rows t yQ T e np=>exact ZCU k
  |focus t U e=>exact ZAh k
  |done t=>exact ZrK k
  |fresh t i=>exact ZoP k
  |bU t yQ T e=>exact ZCV k
  |gC t=>exact ZwW k
  |gD t=>exact ZwX k
  |fE t i=>
   obtain⟨a1,h1,k,l1,g1,r1⟩:=ZoP (K:=λa h=>rU t a h K) k;obtain⟨a2,h2,k,l2,g2,r2⟩:=ZrK k
   exact⟨a2,h2,k,l2.trans l1,g1.trans g2,λJ act r=>r2 J act (r1 J act r)⟩
  |any t i T=>exact ZFd k
  |dw t=>exact ZCY k
  |split t ks=>exact ZAi k
  |nn t=>
   replace k:GP t a h K=ab out:=k
   unfold GP at k;split at k
   .exact⟨_,_,k,rfl,YV.refl _,λ_ _ r=>r⟩
   .cases k
  |flat t=>exact ZCZ k
  |rR yQ U e=>exact ZrJ k
  |jg t i ks=>exact ZwY k
  |hole=>
   replace k:K a (h++[.gone])=ab out:=k
   refine⟨_,_,k,rfl, ?_,λJ act rr=>by rw[iU rfl];exact rr⟩;rw[kC (iU rfl)];intro J ok e;obtain⟨to,ok'⟩:=TG ok;exact⟨{ J with m:=J.m++[ae],H:=J.H++[.gone]},rfl,by rw[<-e];rfl,to,ok'⟩
end
end Go.Ev
end
section
namespace Go.Ev
section
variable{P:yg}
theorem ZC0{x y:Code}{ts ts1 ts2:yL Dv}{H H1 H2:yL ax}{ex:Ex}(r1:Xq P x ts H .normal ts1 H1)(r2:Xq P y ts1 H1 ex ts2 H2):Xq P (.seq x y) ts H ex ts2 H2:=by
 intro J a ok hH yM;refine wp_seq (wp_mono (r1 J a ok hH yM) ?_);rintro e a' w' ⟨rfl,J1,rfl,e1,to1,ok1,hrep1⟩;refine wp_mono (r2 J1 a' ok1 e1 hrep1) ?_;rintro e a'' w'' ⟨rfl,J2,rfl,e2,to2,ok2,hrep2⟩;exact⟨rfl,J2,rfl,e2,to1.trans to2,ok2,hrep2⟩
theorem Zyz{x y:Code}{ts ts1:yL Dv}{H H1:yL ax}{ex:Ex}(hne:ex≠ .normal)(r1:Xq P x ts H ex ts1 H1):Xq P (.seq x y) ts H ex ts1 H1:=by
 intro J a ok hH yM;refine wp_seq (wp_mono (r1 J a ok hH yM) ?_);rintro e a' w' ⟨rfl,hq⟩
 cases ex with
 |normal=>exact absurd rfl hne
 |exit id=>exact⟨rfl,hq⟩
 |ret=>exact⟨rfl,hq⟩
theorem vq{c:yn}{x y:Code}{ts ts1:yL Dv}{H H1:yL ax}{ex:Ex}{b:Bool}(hc:Zs P ts 0 c=.p (.bool b))(r1:Xq P (if b then x else y) ts H ex ts1 H1):Xq P (.cond c x y) ts H ex ts1 H1:=by
 intro J a ok hH yM;have hv:=Zj (P:=P) yM 0 c;rw[hc]at hv;cases b
 .exact wp_cond_false (YD hv) (r1 J a ok hH yM)
 .exact wp_cond_true (YD hv) (r1 J a ok hH yM)
def GU(id:Nat):Ex->Ex
 |.exit i=>if i=id then .normal else .exit i
 |ex=>ex
theorem ZFe{id:Nat}{body:Code}{ts ts1:yL Dv}{H H1:yL ax}{ex:Ex}(r1:Xq P body ts H ex ts1 H1):Xq P (.block id body) ts H (GU id ex) ts1 H1:=by
 intro J a ok hH yM;refine wp_block (wp_mono (r1 J a ok hH yM) ?_);rintro e a' w' ⟨rfl,hq⟩
 cases ex with
 |normal=>exact⟨rfl,hq⟩
 |exit id'=>
  simp only[Ex.to,Exit.inBlock,GU];split
  .exact⟨rfl,hq⟩
  .exact⟨rfl,hq⟩
 |ret=>exact⟨rfl,hq⟩
theorem ZFf{body:Code}{ts ts1:yL Dv}{H H1:yL ax}{ex:Ex}(r1:Xq P body ts H ex ts1 H1):Xq P (.scope body) ts H ex ts1 H1:=by
 intro J a ok hH yM;refine wp_scope_straight (wp_mono (r1 J a ok hH yM) ?_);rintro e a' w' ⟨rfl,hq⟩;cases ex <;> exact⟨rfl,hq⟩
theorem ZIe{ts:yL Dv}{H:yL ax}:Xq P .skip ts H .normal ts H:=λJ a ok hH yM=>wp_skip ⟨rfl,J,rfl,hH,To.refl J,ok,yM⟩
theorem ZFg{n:Nat}{ts:yL Dv}{H:yL ax}:Xq P (.label n) ts H .normal ts H:=λJ a ok hH yM=>wp_label ⟨rfl,J,rfl,hH,To.refl J,ok,yM⟩
theorem ZIf{n:Nat}{ts:yL Dv}{H:yL ax}:Xq P (.exit n) ts H (.exit n) ts H:=λJ a ok hH yM=>wp_exit ⟨rfl,J,rfl,hH,To.refl J,ok,yM⟩
theorem ZKm{ts:yL Dv}{H:yL ax}:Xq P .ret ts H .ret ts H:=λJ a ok hH yM=>wp_ret ⟨rfl,J,rfl,hH,To.refl J,ok,yM⟩
theorem ZyA{c:Code}{ts ts1:yL Dv}{H H1:yL ax}{ex:Ex}(keep:yL Nat)(r:Xq P c ts H ex ts1 H1):Xq P c ts H ex (ZM keep 0 ts1) H1:=by
 intro J a ok hH yM;refine wp_mono (r J a ok hH yM) ?_;rintro e a' w' ⟨rfl,J1,rfl,e1,to1,ok1,hrep1⟩;exact⟨rfl,J1,rfl,e1,to1,ok1,qe keep hrep1⟩
def rW(n0:Nat)(sl:cq)(es:yL bi)(a:yL TD)(h:yL ai):yO (yL TV):=
 if once (yq n0++[]) then(Xr h (yq n0++[]) (yq n0++[])).bind λh2=>(TD.bz (aT (yq n0++[])) (gB (sl.map (·.1)) 0 a)).bind λa2=>
  (Sh.du (lk h2) (oA sl a.length) a2).bind λq=>(bi.du (lk h2) es h2).bind λw=>ab (q.2++w.2)
 else ae
theorem ZFh{n0:Nat}{sl:cq}{es:yL bi}{a:yL TD}{h:yL ai}{vs:yL TV}(k:rW n0 sl es a h=ab vs):
 ∃a3 h3,VK a.length sl es vs=ab (a3,h3)/\∀{c:Code}{ts:yL Dv}{H:yL ax}{ex:Ex},H.length=n0->Xq P c ts H ex (TD.ay (lk h) a) (aB h)->Xq P c ts H ex (TD.ay (lk h3) a3) (aB h3):=by
 unfold rW at k;split at k
 .rename_i ho;obtain⟨h2,h1,k⟩:=yf.1 k;obtain⟨a2,e2,k⟩:=yf.1 k;obtain⟨q,e3,k⟩:=yf.1 k;obtain⟨w,e4,k⟩:=yf.1 k;cases k;obtain⟨g1,g2⟩:=ov e4;have hc:∀id t,Z3 (lk h2) id t ae=Z3 (lk w.1) id t ae:=λid t=>by rw[g2]
  refine⟨q.1,w.1, ?_,λ{c ts H ex}hl r=> ?_⟩
  .unfold VK;rw[bH _ _ _ e3];have:=QY e4 [];rw[ybg]at this;rw[ya,this];rfl
  .have r1:=ZyA (sl.map (·.1)) r;rw[<-rM]at r1;have r2:=TY [] [] r1 (by rw[hl];exact ho) (by rw[hl];exact Xa (Ve h1) h1) (by rw[hl];exact cF (Ve h1) _ _ e2);exact UB r2 (cE hc _ _ _ e3) (oz hc e4)
 .cases k
theorem ZFi{n0:Nat}{sl:cq}{es:yL bi}{a:yL TD}{h:yL ai}{vs:yL TV}(hn:h.length=n0)(k:rW n0 sl es a h=ab vs):
 ∃a3 h3,VK a.length sl es vs=ab (a3,h3)/\∀(J:Sg)(act:Act),Ok J->J.H=aB h->aD J (TD.ay (lk h) a) act->∃J':Sg,J'.w=J.w/\J'.H=aB h3/\To J J'/\Ok J'/\aD J' (TD.ay (lk h3) a3) act:=by
 subst hn;unfold rW at k;split at k
 .rename_i ho;obtain⟨h2,h1,k⟩:=yf.1 k;obtain⟨a2,e2,k⟩:=yf.1 k;obtain⟨q,e3,k⟩:=yf.1 k;obtain⟨w,e4,k⟩:=yf.1 k;cases k;obtain⟨g1,g2⟩:=ov e4;have hc:∀id t,Z3 (lk h2) id t ae=Z3 (lk w.1) id t ae:=λid t=>by rw[g2]
  refine⟨q.1,w.1, ?_,λJ act ok hH yM=> ?_⟩
  .unfold VK;rw[bH _ _ _ e3];have:=QY e4 [];rw[ybg]at this;rw[ya,this];rfl
  .have r1:=qe (sl.map (·.1)) yM;rw[<-rM]at r1
   have hin:aJ J.H (yq J.H.length++[]) (yq J.H.length++[])=ab (aB h2):=by
    rw[hH,ZB];exact Xa (Ve h1) h1
   have ho':once (yq J.H.length++[])=af:=by rw[hH,ZB];exact ho
   have e2':Dv.bz (aT (yq J.H.length++[])) (TD.ay (lk h) (gB (sl.map (·.1)) 0 a))=ab (TD.ay (lk h2) a2):=by
    rw[hH,ZB];exact cF (Ve h1) _ _ e2
   have r2:=AN (kq hin) e2' r1;have to1:=ud ok (To.refl J) ho' hin;have ok1:=qg ok ho' hin;obtain⟨to2,ok2⟩:=jA (J:=iw J (yq J.H.length++[]) (aB h2)) ok1 (H':=aB w.1) (oz hc e4);exact⟨{ iw J (yq J.H.length++[]) (aB h2) with H:=aB w.1},rfl,rfl,to1.trans to2,ok2,(cE hc _ _ _ e3).pP (r2.to to2.leaf)⟩
 .cases k
def GV(L:Lk):bi->ai->yO ai
 |.aO _ _ _ _,.bJ u np v st e pre mid post=>(EZ L u mid).map λy=>.aO u np v st e (pre++[y]) post
 |_,x=>ab x
def rX(L:Lk):yL bi->yL ai->yO (yL ai)
 |[],h=>ab h
 |_::_,[]=>ab []
 |s::r,x::h=>match GV L s x,rX L r h with
  |some y,ab ys=>ab (y::ys)
  |_,_=>ae
theorem ZMO{L:Lk}{s:bi}{x y:ai}(h:GV L s x=ab y):dy (ab y)=dy (ab x)/\dX (x.er L) (y.er L):=by
 unfold GV at h;split at h
 .rename_i u np v st e pre mid post;obtain⟨c,h1,rfl⟩:=Zb h;refine⟨?_,ZGy (ZGv h1)⟩;simp only[dy,yr,yah,List.length_nil];rw[yck,Nat.add_comm (0+1)]
 .cases h;exact⟨rfl,.refl _⟩
theorem ZGL{L:Lk}:∀{es:yL bi}{h h':yL ai},rX L es h=ab h'->h'.length=h.length/\(∀j:Nat,dy (h'[j]?)=dy (h[j]?))/\ct (h.map (ai.er L)) (h'.map (ai.er L))
 |[],h,h',k=>by cases k;exact⟨rfl,λ_=>rfl,ct.refl _⟩
 |_::_,[],h',k=>by cases k;exact⟨rfl,λ_=>rfl,ct.refl _⟩
 |s::r,x::h,h',k=>by
  simp only[rX]at k;split at k
  .rename_i y ys h1 h2;cases k;obtain⟨a1,a2⟩:=ZMO h1;obtain⟨b1,b2,b3⟩:=ZGL h2;refine⟨by simp[b1],λj=> ?_,.cons a2 b3⟩
   cases j with
   |zero=>exact a1
   |succ j=>exact b2 j
  .cases k
theorem ZGM{es:yL bi}{h h':yL ai}(k:rX (lk h) es h=ab h'):h'.length=h.length/\lk h'=lk h/\ct (aB h) (aB h'):=by
 obtain⟨a,b,c⟩:=ZGL k;have e:lk h'=lk h:=funext b;refine⟨a,e, ?_⟩;unfold aB;rw[e];exact c
def oK(n0:Nat)(sl:cq)(es:yL bi)(a:yL TD)(h:yL ai):yO (yL TV):=(rX (lk h) es h).bind λh=>rW n0 sl es a h
theorem ZyB{n0:Nat}{sl:cq}{es:yL bi}{a:yL TD}{h:yL ai}{vs:yL TV}(k:oK n0 sl es a h=ab vs):
 ∃a3 h3,VK a.length sl es vs=ab (a3,h3)/\∀{c:Code}{ts:yL Dv}{H:yL ax}{ex:Ex},H.length=n0->Xq P c ts H ex (TD.ay (lk h) a) (aB h)->Xq P c ts H ex (TD.ay (lk h3) a3) (aB h3):=by
 obtain⟨h1,k1,k2⟩:=yf.1 k;obtain⟨e1,e2,e3⟩:=ZGM k1;obtain⟨a3,h3,g1,g2⟩:=ZFh (P:=P) k2;refine⟨a3,h3,g1,λhl r=>g2 hl ?_⟩;rw[e2];exact UB r (cK.refl _) e3
theorem ZyC{n0:Nat}{sl:cq}{es:yL bi}{a:yL TD}{h:yL ai}{vs:yL TV}(hn:h.length=n0)(k:oK n0 sl es a h=ab vs):
 ∃a3 h3,VK a.length sl es vs=ab (a3,h3)/\∀(J:Sg)(act:Act),Ok J->J.H=aB h->aD J (TD.ay (lk h) a) act->∃J':Sg,J'.w=J.w/\J'.H=aB h3/\To J J'/\Ok J'/\aD J' (TD.ay (lk h3) a3) act:=by
 obtain⟨h1,k1,k2⟩:=yf.1 k;obtain⟨e1,e2,e3⟩:=ZGM k1;obtain⟨a3,h3,g1,g2⟩:=ZFi (by rw[e1];exact hn) k2;refine⟨a3,h3,g1,λJ act ok hH hr=> ?_⟩;obtain⟨to,ok'⟩:=jA ok (H':=aB h1) (by rw[hH];exact e3);obtain⟨J2,q1,q2,q3,q4,q5⟩:=g2 { J with H:=aB h1} act ok' rfl (by rw[e2];exact hr.to to.leaf);exact⟨J2,q1,q2,to.trans q3,q4,q5⟩
structure Lp where
 sl:cq
 es:List bi
 I:List Ty
 xs:List bS
 L:Ty.aI I->Option (bS.sum xs)
def Lp.Is(P:yg)(n:Nat)(c:Code)(lp:Lp):Prop:=
 ∀v o,lp.L v=ab o->∀s,VK n lp.sl lp.es (dT lp.I v)=ab s->∀e vs s',lC lp.xs o e vs->VK n e.sl e.es vs=ab s'->
  Xq P c (TD.ay (lk s.2) s.1) (aB s.2) e.ex (TD.ay (lk s'.2) s'.1) (aB s'.2)
abbrev Lp.Ok(P:yg)(n:Nat)(body:Code)(lp:Lp):Prop:=lp.Is P n (.loop body)
structure FI where
 hi:HI:={}
 lp:List (Nat×Lp):=[]
 bk:List (Nat×Lp):=[]
 gh:List (Nat×jK):=[]
 un:Nat:=0
def Code.nl:Code->Nat
 |.seq a b=>Code.nl a+Code.nl b
 |.cond _ a b=>Code.nl a+Code.nl b
 |.block _ a=>Code.nl a
 |.scope a=>Code.nl a
 |.loop a=>Code.nl a+1
 |_=>0
def Code.ns:Code->Nat
 |.seq a b=>Code.ns a+Code.ns b+1
 |.cond _ a b=>Code.ns a+Code.ns b
 |.block _ a=>Code.ns a
 |.scope a=>Code.ns a
 |.loop a=>Code.ns a
 |_=>0
theorem kK:∀c:Code,(ZH c).length=Code.nl c
 |.seq a b=>by simp only[ZH,yr,kK a,kK b,Code.nl]
 |.cond _ a b=>by simp only[ZH,yr,kK a,kK b,Code.nl]
 |.block _ a=>by simp only[ZH,kK a,Code.nl]
 |.scope a=>by simp only[ZH,kK a,Code.nl]
 |.loop a=>by simp only[ZH,yah,kK a,Code.nl]
 |.skip=>rfl
 |.region _ _ _=>rfl
 |.rangeFunc _ _ _ _=>rfl
 |.exit _=>rfl
 |.ret=>rfl
 |.label _=>rfl
 |.goto _=>rfl
 |.refuse _=>rfl
def vr{O:Type}(step:yL TD->yL ai->Kc O->yO O):Nat->yL TD->yL ai->Kc O->yO O
 |0,_,_,_=>ae
 |k+1,a,h,K=>step a h λex a' h'=>match ex with
  |.normal=>vr step k a' h' K
  |ex=>K ex a' h'
theorem ZrM{O:Type}{body:Code}{N:Nat}{step:yL TD->yL ai->Kc O->yO O}
 (hs:∀(a:yL TD)(h:yL ai)(K:Kc O)(out:O),a.length=N->step a h K=ab out->∃ex a' h',K ex a' h'=ab out/\a'.length=N/\Xq P body (TD.ay (lk h) a) (aB h) ex (TD.ay (lk h') a') (aB h')):
 ∀(k:Nat)(a:yL TD)(h:yL ai)(K:Kc O)(out:O),a.length=N->vr step k a h K=ab out->∃ex a' h',K ex a' h'=ab out/\a'.length=N/\oc P body (TD.ay (lk h) a) (aB h) ex (TD.ay (lk h') a') (aB h')
 |0,_,_,_,_,_,k=>by cases k
 |n+1,a,h,K,out,hN,k=>by
  unfold vr at k;obtain⟨ex,a1,h1,k1,k2,k3⟩:=hs _ _ _ _ hN k;split at k1
  .obtain⟨ex2,a2,h2,k4,k5,k6⟩:=ZrM hs n a1 h1 K out k2 k1;exact⟨ex2,a2,h2,k4,k5,TQ [] k3 k6⟩
  .rename_i hne;exact⟨_,a1,h1,k1,k2,TO hne k3⟩
def oL(m:Nat)(a:yL TD)(h:yL ai):yL (Nat×Lp)->yO (Σ bk:Lp,Ty.aI bk.I)
 |[]=>ae
 |q::r=>if Nat.beq q.1 m=af then match (oK h.length q.2.sl q.2.es a h).bind (gM q.2.I) with
   |some v=>ab ⟨q.2,v⟩
   |none=>oL m a h r
  else oL m a h r
theorem vt{m:Nat}{a:yL TD}{h:yL ai}{b:Σ bk:Lp,Ty.aI bk.I}:∀{l:yL (Nat×Lp)},oL m a h l=ab b->(m,b.1)∈l/\∃vs,oK h.length b.1.sl b.1.es a h=ab vs/\gM b.1.I vs=ab b.2
 |[],k=>by cases k
 |q::r,k=>by
  unfold oL at k;split at k
  .rename_i hm;split at k
   .rename_i v hv;cases k;have e:=Nat.eq_of_beq_eq_true hm;refine⟨?_,yf.1 hv⟩;rw[<-e];exact yao ..
   .obtain⟨h1,h2⟩:=vt k;exact⟨yas _ h1,h2⟩
  .obtain⟨h1,h2⟩:=vt k;exact⟨yas _ h1,h2⟩
def fp{O:Type}(P:yg)(fi:FI)(aA:Sp P):Code->Nat->Nat->yL TD->yL ai->Kc O->yO O
 |.skip,_,_,a,h,K=>K .normal a h
 |.label _,_,_,a,h,K=>K .normal a h
 |.region _ ops draw,_,_,a,h,K=>if draw=af then FX P fi.hi aA ops a h λa' h'=>K .normal a' h' else if ZOY ops=af then nf P fi.hi aA ops (ops.toList.take (ops.size - 5)) a h λa' h' _=>vj P (ops.toList.drop (ops.size - 5)) a' h' λa' h'=>K .normal a' h'
  else nf P fi.hi aA ops ops.toList a h λa' h' _=>K .normal a' h'
 |.seq x y,n,m,a,h,K=>GS (fi.gh.lookup m) a h λa h=>match oL m a h fi.bk with
  |none=>fp P fi aA x n (m+1) a h λex a' h'=>match ex with
   |.normal=>fp P fi aA y (n+Code.nl x) (m+1+Code.ns x) a' h' K
   |ex=>K ex a' h'
  |some bk=>(bk.1.L bk.2).bind λo=>xT a.length bk.1.xs o λex a' h'=>match ex with
   |.normal=>fp P fi aA y (n+Code.nl x) (m+1+Code.ns x) a' h' K
   |ex=>K ex a' h'
 |.cond c x y,n,m,a,h,K=>((aW P a 0 c).bind TD.boolT).bind λb=>match c with
  |.tmp t=>if b=af then fp P fi aA x n m (a.set t (jI af)) h K else fp P fi aA y (n+Code.nl x) (m+Code.ns x) (a.set t (jI ag)) h K
  |_=>if b=af then fp P fi aA x n m a h K else fp P fi aA y (n+Code.nl x) (m+Code.ns x) a h K
 |.block id body,n,m,a,h,K=>fp P fi aA body n m a h λex a' h'=>K (GU id ex) a' h'
 |.loop body,n,m,a,h,K=>match oL n a h fi.lp with
  |some lp=>(lp.1.L lp.2).bind λo=>xT a.length lp.1.xs o K
  |none=>vr (λa h K=>fp P fi aA body (n+1) m a h K) fi.un a h K
 |.scope body,n,m,a,h,K=>fp P fi aA body n m a h K
 |.exit id,_,_,a,h,K=>K (.exit id) a h
 |.ret,_,_,a,h,K=>K .ret a h
 |_,_,_,_,_,_=>ae
def X1:Code->yL Code
 |.seq a b=>a::(X1 a++X1 b)
 |.cond _ a b=>X1 a++X1 b
 |.block _ a=>X1 a
 |.scope a=>X1 a
 |.loop a=>X1 a
 |_=>[]
theorem ji:∀c:Code,(X1 c).length=Code.ns c
 |.seq a b=>by simp only[X1,yah,yr,ji a,ji b,Code.ns]
 |.cond _ a b=>by simp only[X1,yr,ji a,ji b,Code.ns]
 |.block _ a=>by simp only[X1,ji a,Code.ns]
 |.scope a=>by simp only[X1,ji a,Code.ns]
 |.loop a=>by simp only[X1,ji a,Code.ns]
 |.skip=>rfl
 |.region _ _ _=>rfl
 |.rangeFunc _ _ _ _=>rfl
 |.exit _=>rfl
 |.ret=>rfl
 |.label _=>rfl
 |.goto _=>rfl
 |.refuse _=>rfl
def iD(P:yg)(fi:FI)(N:Nat)(c:Code)(m:Nat):Prop:=∀(k:Nat)(x:Code),(X1 c)[k]? =ab x->∀bk,(m+k,bk)∈fi.bk->bk.Is P N x
theorem ZKo{fi:FI}{N:Nat}{x y c:Code}{m:Nat}(e:X1 c=X1 x++X1 y)(h:iD P fi N c m):iD P fi N x m:=λk b hk=>h k b (by
 rw[e,yai (yo.1 hk).1];exact hk)
theorem ZIh{fi:FI}{N:Nat}{x y c:Code}{m:Nat}(e:X1 c=X1 x++X1 y)(h:iD P fi N c m):iD P fi N y (m+Code.ns x):=λk b hk lp hl=>h (Code.ns x+k) b (by
 rw[e,yam (by rw[ji];omega),ji];rw[show Code.ns x+k - Code.ns x=k by omega];exact hk) lp (by rw[<-yck];exact hl)
theorem ZKp{fi:FI}{N:Nat}{x y:Code}{m:Nat}(h:iD P fi N (.seq x y) m):iD P fi N x (m+1):=λk b hk lp hl=>h (k+1) b (by
 rw[X1,yat,yai (yo.1 hk).1];exact hk) lp (by rw[show m+(k+1)=m+1+k by omega];exact hl)
theorem ZC2{fi:FI}{N:Nat}{x y:Code}{m:Nat}(h:iD P fi N (.seq x y) m):iD P fi N y (m+1+Code.ns x):=λk b hk lp hl=>h (Code.ns x+k+1) b (by
 rw[X1,yat,yam (by rw[ji];omega),ji];rw[show Code.ns x+k - Code.ns x=k by omega];exact hk) lp (by rw[show m+(Code.ns x+k+1)=m+1+Code.ns x+k by omega];exact hl)
def jL(P:yg)(fi:FI)(N:Nat)(c:Code)(n:Nat):Prop:=∀(k:Nat)(b:Code),(ZH c)[k]? =ab (.loop b)->∀lp,(n+k,lp)∈fi.lp->lp.Ok P N b
theorem ZC3{fi:FI}{N:Nat}{x y c:Code}{n:Nat}(e:ZH c=ZH x++ZH y)(h:jL P fi N c n):jL P fi N x n:=λk b hk=>h k b (by
 rw[e,yai (yo.1 hk).1];exact hk)
theorem ZyD{fi:FI}{N:Nat}{x y c:Code}{n:Nat}(e:ZH c=ZH x++ZH y)(h:jL P fi N c n):jL P fi N y (n+Code.nl x):=λk b hk lp hl=>h (Code.nl x+k) b (by
 rw[e,yam (by rw[kK];omega),kK];rw[show Code.nl x+k - Code.nl x=k by omega];exact hk) lp (by rw[<-yck];exact hl)
theorem Wm{O:Type}{fi:FI}{aA:Sp P}{out:O}{N:Nat}(ok:dx aA):∀(c:Code)(n m:Nat)(a:yL TD)(h:yL ai)(K:Kc O),a.length=N->jL P fi N c n->iD P fi N c m->fp P fi aA c n m a h K=ab out->
 ∃ex a' h',K ex a' h'=ab out/\a'.length=N/\Xq P c (TD.ay (lk h) a) (aB h) ex (TD.ay (lk h') a') (aB h')
 |.skip,n,m,a,h,K,hN,hl,hb0,k=>⟨_,_,_,k,hN,ZIe⟩
 |.label _,n,m,a,h,K,hN,hl,hb0,k=>⟨_,_,_,k,hN,ZFg⟩
 |.exit _,n,m,a,h,K,hN,hl,hb0,k=>⟨_,_,_,k,hN,ZIf⟩
 |.ret,n,m,a,h,K,hN,hl,hb0,k=>⟨_,_,_,k,hN,ZKm⟩
 |.region id ops draw,n,m,a,h,K,hN,hl,hb0,k=>by
  unfold fp at k
  cases draw with
  |true=>
   rw[yW rfl]at k;obtain⟨a',h',k1,k2,k3⟩:=ZH7 ok k
   exact⟨_,_,_,k1,by rw[k2,hN],k3 id⟩
  |false=>
   rw[yX (by decide)]at k;split at k
   .obtain⟨a',h',k1,k2,k3⟩:=ZIc ok k;exact⟨_,_,_,k1,by rw[k2,hN],k3 id⟩
   .obtain⟨a',h',hs,k1,k2,k3⟩:=ZH8 ok k
    exact⟨_,_,_,k1,by rw[k2,hN],k3 id⟩
 |.seq x y,n,m,a,h,K,hN,hl,hb0,k=>by
  have hx:=ZC3 (x:=x) (y:=y) rfl hl;have hy:=ZyD (x:=x) (y:=y) rfl hl;unfold fp at k;obtain⟨a0,h0,k,hN0,ff⟩:=ZKl k;rw[hN]at hN0
  suffices key:∃ex a' h',K ex a' h'=ab out/\a'.length=N/\Xq P (.seq x y) (TD.ay (lk h0) a0) (aB h0) ex (TD.ay (lk h') a') (aB h') by
   obtain⟨ex,a',h',g1,g2,g3⟩:=key;exact⟨ex,a',h',g1,g2,ZML ff g3⟩
  clear ff;have hN:=hN0;clear hN0;split at k
  .obtain⟨ex,a1,h1,k1,k2,k3⟩:=Wm ok x _ _ _ _ _ hN hx (ZKp hb0) k;split at k1
   .obtain⟨ex2,a2,h2,k4,k5,k6⟩:=Wm ok y _ _ _ _ _ k2 hy (ZC2 hb0) k1;exact⟨_,_,_,k4,k5,ZC0 k3 k6⟩
   .rename_i hne;exact⟨_,_,_,k1,k2,Zyz hne k3⟩
  .rename_i bkv hbk;obtain⟨bk,v⟩:=bkv;obtain⟨hbk,vs,j1,j2⟩:=vt hbk;dsimp only at hbk j1 j2 k;obtain⟨o,j3,k⟩:=yf.1 k;obtain⟨e,vs',s,g1,g2,g3⟩:=rC k;obtain⟨a3,h3,j4,j5⟩:=ZyC rfl j1;have hok:=hb0 0 x rfl bk (by rw[Nat.add_zero];exact hbk);rw[hN]at g2 j4;have e1:=jb _ _ _ j2;have r:=hok v o j3 (a3,h3) (by rw[e1];exact j4) e vs' s g1 g2
   have k3:Xq P x (TD.ay (lk h0) a0) (aB h0) e.ex (TD.ay (lk s.2) s.1) (aB s.2):=by
    intro J act okJ hH yM;obtain⟨J1,p1,p2,p3,p4,p5⟩:=j5 J act okJ hH yM;rw[<-p1];refine wp_mono (r J1 act p4 p2 p5) ?_;rintro e' a' w' ⟨rfl,J2,q1,q2,q3,q4,q5⟩;exact⟨rfl,J2,q1,q2,p3.trans q3,q4,q5⟩
   split at g3
   .rename_i he;rw[he]at k3;obtain⟨ex2,a2,h2,k4,k5,k6⟩:=Wm ok y _ _ _ _ _ (uK g2) hy (ZC2 hb0) g3;exact⟨_,_,_,k4,k5,ZC0 k3 k6⟩
   .rename_i hne
    exact⟨_,_,_,g3,uK g2,Zyz hne k3⟩
 |.cond c x y,n,m,a,h,K,hN,hl,hb0,k=>by
  have hx:=ZC3 (x:=x) (y:=y) rfl hl;have hy:=ZyD (x:=x) (y:=y) rfl hl;have bx:=ZKo (x:=x) (y:=y) rfl hb0;have bY:=ZIh (x:=x) (y:=y) rfl hb0;unfold fp at k;obtain⟨b,k0,k⟩:=yf.1 k;obtain⟨d,k00,k01⟩:=yf.1 k0;have hc:=Zq (L:=lk h) k00;rw[oi k01]at hc;split at k
  .rename_i t;cases k00;have e:=ZCP k01;split at k
   .rename_i hb;subst hb;rw[bB e]at k;obtain⟨ex,a1,h1,k1,k2,k3⟩:=Wm ok x _ _ _ _ _ hN hx bx k;exact⟨_,_,_,k1,k2,vq hc k3⟩
   .rename_i hb;have hb:b=ag:=by simpa using hb
    subst hb;rw[bB e]at k;obtain⟨ex,a1,h1,k1,k2,k3⟩:=Wm ok y _ _ _ _ _ hN hy bY k;exact⟨_,_,_,k1,k2,vq hc k3⟩
  .split at k
   .rename_i hb;subst hb;obtain⟨ex,a1,h1,k1,k2,k3⟩:=Wm ok x _ _ _ _ _ hN hx bx k;exact⟨_,_,_,k1,k2,vq hc k3⟩
   .rename_i hb;have hb:b=ag:=by simpa using hb
    subst hb;obtain⟨ex,a1,h1,k1,k2,k3⟩:=Wm ok y _ _ _ _ _ hN hy bY k
    exact⟨_,_,_,k1,k2,vq hc k3⟩
 |.block id body,n,m,a,h,K,hN,hl,hb0,k=>by
  unfold fp at k;obtain⟨ex,a1,h1,k1,k2,k3⟩:=Wm ok body _ _ _ _ _ hN hl hb0 k
  exact⟨_,_,_,k1,k2,ZFe k3⟩
 |.scope body,n,m,a,h,K,hN,hl,hb0,k=>by
  unfold fp at k;obtain⟨ex,a1,h1,k1,k2,k3⟩:=Wm ok body _ _ _ _ _ hN hl hb0 k
  exact⟨_,_,_,k1,k2,ZFf k3⟩
 |.loop body,n,m,a,h,K,hN,hl,hb0,k=>by
  unfold fp at k;split at k
  .rename_i lpv hlp;obtain⟨lp,v⟩:=lpv;obtain⟨hlp,vs,j1,j2⟩:=vt hlp;dsimp only at hlp j1 j2 k;obtain⟨o,j3,k⟩:=yf.1 k;obtain⟨e,vs',s,g1,g2,g3⟩:=rC k;obtain⟨a3,h3,j4,j5⟩:=ZyC rfl j1;have hok:=hl 0 body rfl lp (by rw[Nat.add_zero];exact hlp);rw[hN]at g2 j4;have e1:=jb _ _ _ j2;have r:=hok v o j3 (a3,h3) (by rw[e1];exact j4) e vs' s g1 g2;refine⟨_,_,_,g3,uK g2, ?_⟩;intro J act okJ hH yM;obtain⟨J1,p1,p2,p3,p4,p5⟩:=j5 J act okJ hH yM;rw[<-p1];refine wp_mono (r J1 act p4 p2 p5) ?_;rintro e' a' w' ⟨rfl,J2,q1,q2,q3,q4,q5⟩;exact⟨rfl,J2,q1,q2,p3.trans q3,q4,q5⟩
  .have hl1:jL P fi N body (n+1):=λk b hk lp hl2=>hl (k+1) b (by rw[ZH,yat];exact hk) lp (by rw[show n+(k+1)=n+1+k by omega];exact hl2);obtain⟨ex,a1,h1,k1,k2,k3⟩:=ZrM (λa h K out hN k=>Wm ok body _ _ _ _ K hN hl1 hb0 k) _ _ _ _ _ hN k
   exact⟨ex,a1,h1,k1,k2,TS k3⟩
 |.rangeFunc _ _ _ _,_,_,_,_,_,_,_,_,k=>by cases k
 |.goto _,_,_,_,_,_,_,_,_,k=>by cases k
 |.refuse _,_,_,_,_,_,_,_,_,k=>by cases k
theorem ZC4{α:Type}{l:yL α}{i:Nat}{x:α}(h:l[i]? =ab x):l.set i x=l:=by
 apply ybe;intro j;rw[ybl];split
 .rename_i e;subst e;rw[h,yW (yo.1 h).1]
 .rfl
theorem ZuX{J J':Sg}(hl:∀d vs,yH J d vs->yH J' d vs){x y:Dv}(hxy:∀vs,yH J x vs->yH J' y vs):∀(xs:yL Dv)(i:Nat),xs[i]? =ab x->∀vs,aG J xs vs->aG J' (xs.set i y) vs
 |[],i,h,_,_=>by simp at h
 |z::r,0,h,vs,k=>by
  simp only[ybb,yj]at h;subst h;simp only[aG,List.set_cons_zero]at k ⊢;obtain⟨us,us',e,h1,h2⟩:=k;refine⟨us,us',e,hxy us h1, ?_⟩;clear e h1
  induction r generalizing us' with
  |nil=>simpa only[aG] using h2
  |cons w r ih=>
   simp only[aG]at h2 ⊢;obtain⟨a,b,e,h3,h4⟩:=h2
   exact⟨a,b,e,hl _ _ h3,ih _ h4⟩
 |z::r,i+1,h,vs,k=>by
  simp only[yat]at h;simp only[aG,List.set_cons_succ]at k ⊢;obtain⟨us,us',e,h1,h2⟩:=k;exact⟨us,us',e,hl _ _ h1,ZuX hl hxy r i h us' h2⟩
theorem ZuY{x y:Dv}(e:y.size=x.size):∀(xs:yL Dv)(i:Nat),xs[i]? =ab x->Dv.sizes (xs.set i y)=Dv.sizes xs
 |[],i,h=>by simp at h
 |z::r,0,h=>by
  simp only[ybb,yj]at h;subst h
  simp only[List.set_cons_zero,Dv.sizes,e]
 |z::r,i+1,h=>by
  simp only[yat]at h;simp only[List.set_cons_succ,Dv.sizes,ZuY e r i h]
theorem ZC5{n:Nat}:∀{ds:yL TD}{i:Nat}{x:TD},TD.frees n ds=af->ds[i]? =ab x->x.free n=af
 |[],i,x,_,h=>by simp at h
 |y::r,0,x,hf,h=>by
  simp only[TD.frees,yi]at hf;simp only[ybb,yj]at h;rw[<-h]
  exact hf.1
 |y::r,i+1,x,hf,h=>by
  simp only[TD.frees,yi]at hf;exact ZC5 hf.2 (by simpa using h)
theorem ZMP{h:yL ai}{j id i:Nat}{T:Ty}{v v':yL Unit}{st:Bool}{e:yc}{l:yL T.aN}{ds:yL TD}{stt:Bool}
 (hj:h[j]? =ab (.aQ T v st e l)) (hid:h[id]? =ab (.var (.agg ds) stt)) (hi:ds[i]? =ab (.rw j)) (hlt:v.length < v'.length)
 (fh:∀(q:Nat)(x:ai),q≠id->h[q]? =ab x->x.free j=af) (fd:∀(q:Nat)(x:TD),q≠i->ds[q]? =ab x->x.free j=af):
 (∀q t,q≠j->Z3 (lk h) q t ae=Z3 (lk (h.set j (.aQ T v' st e l))) q t ae)/\YV (aB h) (aB (h.set j (.aQ T v' st e l))):=by
 have hc:∀q t,q≠j->Z3 (lk h) q t ae=Z3 (lk (h.set j (.aQ T v' st e l))) q t ae:=λq t hq=>by
  unfold Z3 lk;rw[aF (Ne.symm hq)]
 refine⟨hc,λJ ok hH=> ?_⟩
 have hne:id≠j:=by
  rintro rfl;rw[hj]at hid;cases hid
 have hjl:j < J.m.length:=by rw[ok.len,hH,ZB];exact(yo.1 hj).1
 have hil:id < J.m.length:=by rw[ok.len,hH,ZB];exact(yo.1 hid).1
 obtain⟨mj,hmj⟩:∃x,J.m[j]? =ab x:=⟨_,yac hjl⟩;obtain⟨mi,hmi⟩:∃x,J.m[id]? =ab x:=⟨_,yac hil⟩;have eHj:J.H[j]? =ab (.row v.length T.size st e (.p (.arr l.length T.size (l.map T.enc)))):=by rw[hH];exact ZJ hj
 have eHi:J.H[id]? =ab (.var ((TD.agg ds).er (lk h)) stt):=by rw[hH];exact ZJ hid
 let Ja:Sg:={ J with H:=J.H.set j (.row v'.length T.size st e (.p (.arr l.length T.size (l.map T.enc))))}
 obtain⟨toa,oka⟩:=YX (J':=Ja) (mi:=mj) (mi':=mj) ok eHj hmj rfl rfl rfl (ZC4 hmj).symm rfl rfl rfl (ym _) (λ_ _ _=>rfl) (λ_ _ _ _ _ h=>h) (λ_ _ h=>h) (.inl rfl)
  (λ⟨_,_,h⟩=>by cases h) (λ⟨_,_,h⟩=>by cases h) (λ_ _ _ h=>by cases h) (λleaf=>by
    obtain⟨N,h1,h2⟩:=ok.dc j _ _ eHj hmj;refine⟨N,h1, ?_⟩;rcases h2 with h2|⟨b,cur,cap,a1,a2,a3,a4,a5,a6⟩
    .exact .inl h2
    .exact .inr ⟨b,cur,cap,a1,a2,a3,a4,a5,ZZ leaf _ _ a6⟩) (λv0 s0 st0 e0 d0 h0=>by
    cases h0;exact⟨_,_,_,rfl,Nat.le_of_lt hlt,λq=>by omega⟩)
 have eHi':Ja.H[id]? =ab (.var ((TD.agg ds).er (lk h)) stt):=by
  show(J.H.set j _)[id]? =_;rw[aF (Ne.symm hne)];exact eHi
 let Jb:Sg:={ Ja with H:=Ja.H.set id (.var ((TD.agg ds).er (lk (h.set j (.aQ T v' st e l)))) stt)}
 have eHjb:Jb.H[j]? =ab (.row v'.length T.size st e (.p (.arr l.length T.size (l.map T.enc)))):=by
  show((J.H.set j _).set id _)[j]? =_;rw[aF hne];exact aj eHj
 have hj':(h.set j (ai.aQ T v' st e l))[j]? =ab (.aQ T v' st e l):=aj hj;have er1:(TD.rw j).er (lk h)=.rv j v.length T.size 0 l.length:=(fC hj).1;have er2:(TD.rw j).er (lk (h.set j (.aQ T v' st e l)))=.rv j v'.length T.size 0 l.length:=(fC hj').1
 have ay:TD.ay (lk (h.set j (.aQ T v' st e l))) ds=(TD.ay (lk h) ds).set i (.rv j v'.length T.size 0 l.length):=by
  apply ybe;intro q;rw[ybl];by_cases hq:i=q
  .subst hq;rw[yW rfl,Vt hi,er2,yW (by rw[iP];exact(yo.1 hi).1)]
  .rw[yX hq]
   cases hx:ds[q]? with
   |none=>
    have:=List.getElem?_eq_none_iff.1 hx
    rw[yan (by rw[iP];exact this),yan (by rw[iP];exact this)]
   |some x=>rw[Vt hx,Vt hx,iT hc x (fd q x (Ne.symm hq) hx)]
 obtain⟨tob,okb⟩:=YX (J':=Jb) (mi:=mi) (mi':=mi) oka eHi' hmi rfl rfl rfl (ZC4 hmi).symm rfl rfl rfl (ym _) (λ_ _ _=>rfl) (λ_ _ _ _ _ h=>h) (λ_ _ h=>h) (.inl rfl)
  (λ_=>⟨rfl,_,_,rfl⟩) (λ⟨_,_,h⟩=>by cases h) (λ_ _ _ h=>by cases h) (λleaf=>by
    obtain⟨b,cs,t,a1,a2,a3,a4⟩:=ok.dc id _ _ eHi hmi
    have hsz:((TD.agg ds).er (lk (h.set j (.aQ T v' st e l)))).size=((TD.agg ds).er (lk h)).size:=by
     simp only[TD.er,Dv.size,ay];exact ZuY (x:=Dv.rv j v.length T.size 0 l.length) (y:=Dv.rv j v'.length T.size 0 l.length) rfl _ _ (by rw[Vt hi,er1])
    refine⟨b,cs,t,a1,a2, ?_,by rw[hsz];exact a4⟩;rw[hsz];simp only[TD.er,yH]at a3 ⊢;rw[ay];refine ZuX (J:=J) (x:=Dv.rv j v.length T.size 0 l.length) (λd vs hd=>ZZ leaf _ _ (ZZ toa.leaf _ _ hd)) (λvs hd=> ?_) _ i (by rw[Vt hi,er1]) _ a3;simp only[yH]at hd ⊢;obtain⟨A,c,g1,g2,g3,g4,g5,v0,s0,st0,e0,d0,g6,g7,g8⟩:=hd;rw[eHj]at g6;cases g6;obtain⟨g9,g10⟩:=g8 rfl;exact⟨A,c,g1,g2,g3,g4,g5,v'.length,T.size,st,e,_,eHjb,ym _,λ_=>⟨rfl,g10⟩⟩)
 refine⟨Jb,rfl, ?_,toa.trans tob,okb⟩;apply ybe;intro q;show((J.H.set j _).set id _)[q]? =_;by_cases hq:q=id
 .subst hq;rw[ZJ (by rw[aF (Ne.symm hne)];exact hid),aj eHi'];rfl
 .by_cases hqj:q=j
  .subst hqj;rw[ZJ hj'];exact eHjb
  .rw[aF (Ne.symm hq),aF (Ne.symm hqj),hH];unfold aB;rw[yaj,yaj,aF (Ne.symm hqj)]
   cases hx:h[q]? with
   |none=>rfl
   |some x=>
    rw[yab,yab,EG hc x (fh q x hq hx)]
theorem ZMQ{J J1:Sg}(ok:Ok J)(to:To J J1){k j:Nat}{yK:yL Nat}{H:yL ax}(hk:k < J.H.length)(hj:J.H.length<=j){v v2 s:Nat}{st st2:Bool}{e:yc}{d d2:Dv}
 (ek:J1.H[k]? =ab (.row v s st e d)) (ej:J1.H[j]? =ab (.row v2 s st2 e d2)) (hlt:v < v2) (ho:once ((yq J.H.length).set k j++yK)=af) (hr:yK.contains k=ag)
 (hin:aJ J1.H ((yq J.H.length).set k j++yK) ((yq J.H.length).set k j++yK)=ab H):To J (iw J1 ((yq J.H.length).set k j++yK) H):=by
 have hp:∀id,id < J.H.length->id≠k->((yq J.H.length).set k j++yK)[id]? =ab id:=λid h hne=>by
  rw[yai (by simpa using h),aF (Ne.symm hne),List.getElem?_range h]
 have hpk:((yq J.H.length).set k j++yK)[k]? =ab j:=by
  rw[yai (by simpa using hk)];exact aj (List.getElem?_range hk)
 have hf:∀id,id < J.H.length->id≠k->aT ((yq J.H.length).set k j++yK) id=ab id:=λid h hne=>cl ho (hp id h hne);have hfk:aT ((yq J.H.length).set k j++yK) j=ab k:=cl ho hpk
 have hnk:∀q,((yq J.H.length).set k j++yK)[q]? ≠ab k:=λq hq=>by
  rcases ybr q J.H.length with h|h
  .by_cases hqk:q=k
   .subst hqk;rw[hpk]at hq;cases hq;omega
   .rw[hp q h hqk]at hq;cases hq;exact hqk rfl
  .rw[yam (by simpa using h)]at hq;have:=ybp hq;rw[Bool.eq_false_iff]at hr;exact hr (by simpa using this)
 have rn:=kq hin;refine⟨⟨λb o v h1 h2=> ?_,λid b h1 h2=> ?_,λid s len A c h1=> ?_,λid b h1 h2=> ?_,λid v s st e d h1=> ?_⟩,to.F,to.B,to.os,to.tape,to.output,to.size,λb h1 h2=>to.block b h1 h2,λid b h=> ?_, ?_⟩
 .obtain⟨h3,h4⟩:=to.leaf.cells b o v h1 h2;exact⟨h3,rn.aV b o v h3 h4⟩
 .have hlt:id < J.H.length:=by rw[<-ok.len];exact(yo.1 h1).1
  obtain⟨h3,h4⟩:=to.leaf.var id b h1 h2;by_cases hne:id=k
  .subst hne;obtain⟨d,st,h4⟩:=h4;rw[ek]at h4;cases h4
  .exact⟨rn.m _ _ (hf id hlt hne) _ h3,rn.var (hf id hlt hne) h4⟩
 .have hlt:id < J.H.length:=by
   obtain⟨e,ys,h2,_⟩:=h1;exact(yo.1 h2).1
  have h3:=to.leaf.front _ _ _ _ _ h1;by_cases hne:id=k
  .subst hne;obtain⟨e,ys,h4,_⟩:=h3;rw[ek]at h4;cases h4
  .exact rn.front (hf id hlt hne) h3
 .have hlt:id < J.H.length:=by rw[<-ok.len];exact(yo.1 h1).1
  obtain⟨h3,h4⟩:=to.leaf.map id b h1 h2;by_cases hne:id=k
  .subst hne;obtain⟨d,st,h4⟩:=h4;rw[ek]at h4;cases h4
  .exact⟨rn.m _ _ (hf id hlt hne) _ h3,rn.map (hf id hlt hne) h4⟩
 .have hl:id < J.H.length:=(yo.1 h1).1;obtain⟨v',st',d',h5,h6,h7⟩:=to.leaf.row _ _ _ _ _ _ h1;by_cases hne:id=k
  .subst hne;rw[ek]at h5;cases h5;obtain⟨d3,h8⟩:=rn.row hfk ej;exact⟨v2,st2,d3,h8,by omega,λq=>by omega⟩
  .obtain⟨d2,h8⟩:=rn.row (hf id hl hne) h5;refine⟨v',st',d2,h8,h6,λhv=> ?_⟩;obtain⟨h9,h10⟩:=h7 hv;refine⟨?_,h10⟩;have hmm:∃x,J.m[id]? =ab x:=⟨_,yac (by rw[ok.len];exact hl)⟩;obtain⟨x,hx⟩:=hmm;rw[hx];exact rn.m _ _ (hf id hl hne) _ (by rw[h9];exact hx)
 .obtain⟨x,h1,h2⟩:=mH h;rcases to.same x b h2 with h3|h3
  .have hlt:x < J.H.length:=by rw[<-ok.len];exact(yo.1 h3).1
   by_cases hne:x=k
   .subst hne;exact absurd h1 (hnk _)
   .have:=pX ho _ _ _ h1 (hp x hlt hne);subst this;exact .inl h3
  .exact .inr h3
 .show J.m.length<=(((yq J.H.length).set k j++yK).map _).length;rw[ok.len];simp
def ZNY(n:Nat):yO TD->Bool
 |some (.rw j)=>Nat.beq j n
 |_=>ag
def GW(n0 id i k:Nat)(a:yL TD)(h:yL ai):yO (yL TD×yL ai):=
 match h[id]?,h[k]?,h[n0]? with
 |some (.var (.agg ds) stt),ab (.aQ T w st e l),ab (.aQ U x st2 e2 m)=>
  if(Nat.ble (id+1) n0&&Nat.ble (k+1) n0&&ah (T.size=U.size)&&ah (e=e2)&&ZNY n0 ds[i]? &&TD.frees n0 a&&(h.set id .gone).all (ai.free n0)&&TD.frees n0 (ds.set i .ao)&&
   once ((yq n0).set k n0++List.range' (n0+1) (h.length - (n0+1)))&& !(List.range' (n0+1) (h.length - (n0+1))).contains k)=af then
   (Xr (h.set n0 (.aQ U (()::(w++x)) st2 e2 m)) ((yq n0).set k n0++List.range' (n0+1) (h.length - (n0+1))) ((yq n0).set k n0++List.range' (n0+1) (h.length - (n0+1)))).bind λh2=>
     (TD.bz (aT ((yq n0).set k n0++List.range' (n0+1) (h.length - (n0+1)))) a).map λa2=>(a2,h2)
  else ae
 |_,_,_=>ae
theorem ZKq{n0 id i k:Nat}{a:yL TD}{h:yL ai}{q:yL TD×yL ai}(hs:GW n0 id i k a h=ab q){c:Code}{ts:yL Dv}{H:yL ax}{ex:Ex}(hn:H.length=n0)
 (r:Xq P c ts H ex (TD.ay (lk h) a) (aB h)):Xq P c ts H ex (TD.ay (lk q.2) q.1) (aB q.2):=by
 unfold GW at hs;split at hs
 .rename_i ds stt T w st e l U x st2 e2 m h1 h2 h3;split at hs
  .rename_i hb;simp only[yi,yP,Bool.not_eq_true']at hb;obtain⟨⟨⟨⟨⟨⟨⟨⟨⟨b1,b2⟩,b3⟩,b4⟩,b5⟩,b6⟩,b7⟩,b8⟩,b9⟩,b10⟩:=hb;have b1:=Nat.le_of_ble_eq_true b1;have b2:=Nat.le_of_ble_eq_true b2;subst b4;obtain⟨h',k1,hs⟩:=yf.1 hs;obtain⟨a',k2,rfl⟩:=Zb hs
   have hi:ds[i]? =ab (.rw n0):=by
    unfold ZNY at b5;split at b5
    .rename_i j hj;rw[hj,Nat.eq_of_beq_eq_true b5]
    .cases b5
   obtain⟨hc,gs⟩:=ZMP (v':=()::(w++x)) h3 h1 hi (by simp;omega) (λq y hq hy=>by
    have:y∈h.set id .gone:=ybp (i:=q) (by rw[aF (Ne.symm hq)];exact hy);exact ybc.1 b7 y this) (λq y hq hy=>ZC5 b8 (i:=q) (by rw[aF (Ne.symm hq)];exact hy))
   intro J act ok hH yM;have zW:J.H.length=n0:=by rw[hH,hn]
   refine wp_mono (r J act ok hH yM) ?_;rintro e' a1 w' ⟨rfl,J1,rfl,g1,to1,ok1,hrep1⟩;obtain⟨J2,e1,e2,to2,ok2⟩:=gs J1 ok1 g1;have hrep2:=hrep1.to to2.leaf;rw[cB hc a b6]at hrep2;have hin:=Xa (Ve k1) k1;rw[<-e2, <-zW]at hin;rw[<-zW]at b9 b10 k2 b2 h3;have ho:=b9;refine⟨rfl,iw J2 ((yq J.H.length).set k J.H.length++List.range' (J.H.length+1) (h.length - (J.H.length+1))) (aB h'),e1,rfl,ZMQ ok (to1.trans to2) b2 (ym _) (v:=w.length) (v2:=(()::(w++x)).length) (s:=T.size) (st:=st) (st2:=st2) (e:=e) (d:=.p (.arr l.length T.size (l.map T.enc))) (d2:=.p (.arr m.length U.size (m.map U.enc))) ?_ ?_ (by simp;omega) ho b10 hin,qg ok2 ho hin, ?_⟩
   .rw[e2];have:k≠n0:=by omega
    exact ZJ (e:=.aQ T w st e l) (by rw[aF (Ne.symm this)];exact h2)
   .rw[e2,b3];exact ZJ (e:=.aQ U (()::(w++x)) st2 e m) (by rw[zW]at h3 ⊢;exact aj h3)
   .refine AN (kq hin) (ts:=TD.ay (lk (h.set n0 (.aQ U (()::(w++x)) st2 e m))) a) ?_ hrep2;rw[zW]at k2 ⊢;exact cF (Ve k1) _ _ k2
  .cases hs
 .cases hs
def GX(n0:Nat):yL (Nat×Nat×Nat×Nat)->yL TD->yL ai->yO (yL TD×yL ai)
 |[],a,h=>ab (a,h)
 |x::r,a,h=>(GW n0 x.1 x.2.1 x.2.2.1 a h).bind λq=>GX n0 r q.1 q.2
theorem ZC6{n0:Nat}:∀{l:yL (Nat×Nat×Nat×Nat)}{a:yL TD}{h:yL ai}{q:yL TD×yL ai},GX n0 l a h=ab q->∀{c:Code}{ts:yL Dv}{H:yL ax}{ex:Ex},H.length=n0->
 Xq P c ts H ex (TD.ay (lk h) a) (aB h)->Xq P c ts H ex (TD.ay (lk q.2) q.1) (aB q.2)
 |[],a,h,q,hs,c,ts,H,ex,hn,r=>by
  cases hs
  exact r
 |x::l,a,h,q,hs,c,ts,H,ex,hn,r=>by
  obtain⟨y,h1,h2⟩:=yf.1 hs;exact ZC6 h2 hn (ZKq h1 hn r)
def vu(n0 id:Nat):Nat->yL Sh->yL TD->yL (Nat×Nat×Nat×Nat)
 |i,.rw k::ss,.rw j::ds=>if Nat.ble n0 j=af then(id,i,k,j)::vu n0 id (i+1) ss ds else vu n0 id (i+1) ss ds
 |i,_::ss,_::ds=>vu n0 id (i+1) ss ds
 |_,_,_=>[]
def GY(n0:Nat):Nat->yL bi->yL ai->yL (Nat×Nat×Nat×Nat)
 |id,.var (.agg ss) _::es,.var (.agg ds) _::h=>vu n0 id 0 ss ds++GY n0 (id+1) es h
 |id,_::es,_::h=>GY n0 (id+1) es h
 |_,_,_=>[]
def ZQf(n0:Nat)(sl:cq)(es:yL bi)(sw:yL (Nat×Nat×Nat×Nat))(a:yL TD)(h:yL ai):yO (yL TV):=
 if once (yq n0++sw.map λx=>x.2.2.2) then(Xr h (yq n0++sw.map λx=>x.2.2.2) (yq n0++sw.map λx=>x.2.2.2)).bind λh2=>
  (TD.bz (aT (yq n0++sw.map λx=>x.2.2.2)) (gB (sl.map (·.1)) 0 a)).bind λa2=>(GX n0 sw a2 h2).bind λq=>if Nat.beq q.1.length a.length=af then oK n0 sl es q.1 q.2 else ae
 else ae
def ng(n0:Nat)(sl:cq)(es:yL bi)(a:yL TD)(h:yL ai):yO (yL TV):=
 match GY n0 0 es h with
 |[]=>oK n0 sl es a h
 |x::r=>ZQf n0 sl es (x::r) a h
theorem ZyE{n0:Nat}{sl:cq}{es:yL bi}{a:yL TD}{h:yL ai}{vs:yL TV}(k:ng n0 sl es a h=ab vs):
 ∃a3 h3,VK a.length sl es vs=ab (a3,h3)/\∀{c:Code}{ts:yL Dv}{H:yL ax}{ex:Ex},H.length=n0->Xq P c ts H ex (TD.ay (lk h) a) (aB h)->Xq P c ts H ex (TD.ay (lk h3) a3) (aB h3):=by
 unfold ng at k;split at k
 .exact ZyB k
 .rename_i x r hx;unfold ZQf at k;split at k
  .rename_i ho;obtain⟨h2,h1,k⟩:=yf.1 k;obtain⟨a2,e2,k⟩:=yf.1 k;obtain⟨q,e3,k⟩:=yf.1 k;split at k
   .rename_i hl;obtain⟨a3,h3,g1,g2⟩:=ZyB (P:=P) k;rw[Nat.eq_of_beq_eq_true hl]at g1;refine⟨a3,h3,g1,λ{c ts H ex}hn rr=>g2 hn (ZC6 e3 hn ?_)⟩;have r1:=ZyA (sl.map (·.1)) rr;rw[<-rM]at r1;exact TY [] _ r1 (by rw[hn];exact ho) (by rw[hn];exact Xa (Ve h1) h1) (by rw[hn];exact cF (Ve h1) _ _ e2)
   .cases k
  .cases k
end
end Go.Ev
end
section
namespace Go.Ev
def Zc{I X:Type}(step:I->yO (I⊕X)):Nat->I->yO X
 |0,_=>ae
 |n+1,i=>(step i).bind λr=>match r with
  |.inl j=>Zc step n j
  |.inr x=>ab x
theorem ZKr:∃n:Nat,n=18446744073709551616:=⟨_,rfl⟩
noncomputable def yD:Nat:=Classical.choose ZKr
theorem nh:yD=18446744073709551616:=Classical.choose_spec ZKr
section
variable{P:yg}
def vv(n0:Nat)(ex:Ex)(a:yL TD)(h:yL ai):(l:yL bS)->yO (bS.sum l)
 |[]=>ae
 |[e]=>if ex=e.ex then(ng n0 e.sl e.es a h).bind λvs=>gM e.ty vs else ae
 |e::f::r=>match (if ex=e.ex then(ng n0 e.sl e.es a h).bind λvs=>gM e.ty vs else ae) with
  |some x=>ab (Sum.inl x:Ty.aI e.ty⊕bS.sum (f::r))
  |none=>(vv n0 ex a h (f::r)).map λx=>(Sum.inr x:Ty.aI e.ty⊕bS.sum (f::r))
theorem ZyF{n0:Nat}{ex:Ex}{a:yL TD}{h:yL ai}:∀{l:yL bS}{o:bS.sum l},vv n0 ex a h l=ab o->∀e vs,lC l o e vs->ex=e.ex/\ng n0 e.sl e.es a h=ab vs
 |[],_,k,_,_,_=>by cases k
 |[e],o,k,x,vs,hs=>by
  obtain⟨rfl,rfl⟩:=hs;have k:(if ex=x.ex then(ng n0 x.sl x.es a h).bind λvs=>gM x.ty vs else ae)=ab o:=k
  split at k
  .rename_i he;obtain⟨ws,h1,h2⟩:=yf.1 k;exact⟨he,by rw[h1,jb _ _ _ h2]⟩
  .cases k
 |e::f::r,o,k,x,vs,hs=>by
  simp only[vv]at k;split at k
  .rename_i y hy;cases k;obtain⟨rfl,rfl⟩:=hs;split at hy
   .rename_i he;obtain⟨ws,h1,h2⟩:=yf.1 hy;exact⟨he,by rw[h1,jb _ _ _ h2]⟩
   .cases hy
  .obtain⟨y,h1,h2⟩:=Zb k;subst h2;exact ZyF h1 x vs hs
def oM(P:yg)(fi:FI)(aA:Sp P)(body:Code)(n N:Nat)(sl:cq)(es:yL bi)(I:yL Ty)(xs:yL bS):Ty.aI I->yO (Ty.aI I⊕bS.sum xs):=λv=>
 (VK N sl es (dT I v)).bind λs=>fp P fi aA body (n+1) 0 s.1 s.2 λex a h=>match ex with
   |.normal=>(ng s.2.length sl es a h).bind λvs=>(gM I vs).map .inl
   |ex=>(vv s.2.length ex a h xs).map .inr
theorem ZKs{fi:FI}{aA:Sp P}{body:Code}{n N:Nat}{sl:cq}{es:yL bi}{I:yL Ty}{xs:yL bS}(ok:dx aA)(hl:jL P fi N body (n+1))(hb0:iD P fi N body 0):
 ∀(f:Nat)(v:Ty.aI I)(o:bS.sum xs),Zc (oM P fi aA body n N sl es I xs) f v=ab o->∀s,VK N sl es (dT I v)=ab s->∀e vs s',lC xs o e vs->VK N e.sl e.es vs=ab s'->
  oc P body (TD.ay (lk s.2) s.1) (aB s.2) e.ex (TD.ay (lk s'.2) s'.1) (aB s'.2)
 |0,_,_,h,_,_,_,_,_,_,_=>by cases h
 |f+1,v,o,h,s,hs,e,vs,s',hx,hs'=>by
  unfold Zc at h;obtain⟨r,h1,h2⟩:=yf.1 h;unfold oM at h1;rw[hs,ya]at h1;obtain⟨ex,a,h3,k1,k2,k3⟩:=Wm ok body _ _ _ _ _ (uK hs) hl hb0 h1;split at k1
  .obtain⟨ws,g1,k1⟩:=yf.1 k1;obtain⟨w,g2,rfl⟩:=Zb k1;obtain⟨a3,h4,g3,g4⟩:=ZyE (P:=P) g1;rw[k2]at g3;have r1:=g4 (ZB _) k3;have:=ZKs ok hl hb0 f w o h2 (a3,h4) (by rw[jb _ _ _ g2];exact g3) e vs s' hx hs';exact TQ [] r1 this
  .rename_i hne;obtain⟨w,g2,rfl⟩:=Zb k1;cases h2;obtain⟨g5,g6⟩:=ZyF g2 e vs hx;obtain⟨a3,h4,g3,g4⟩:=ZyE (P:=P) g6;rw[k2,hs']at g3;cases g3;subst g5;exact TO hne (g4 (ZB _) k3)
theorem ZQg{fi:FI}{aA:Sp P}{body:Code}{n N:Nat}{sl:cq}{es:yL bi}{I:yL Ty}{xs:yL bS}{step:Ty.aI I->yO (Ty.aI I⊕bS.sum xs)}(f:Nat)(ok:dx aA)(hl:jL P fi N body (n+1))(hb0:iD P fi N body 0)
 (h:∀v,oM P fi aA body n N sl es I xs v=step v):Lp.Ok P N body ⟨sl,es,I,xs,Zc step f⟩:=by
 intro v o hL s hs e vs s' hx hs';have e1:oM P fi aA body n N sl es I xs=step:=funext h;subst e1;exact TS (ZKs ok hl hb0 f v o hL s hs e vs s' hx hs')
theorem lH:∀(c:Code)(k:Nat)(b:Code),(ZH c)[k]? =ab (.loop b)->∀j x,(ZH b)[j]? =ab x->(ZH c)[k+1+j]? =ab x
 |.seq x y,k,b,h,j,z,hz=>by
  simp only[ZH]at h ⊢;rcases ybr k (ZH x).length with hl|hl
  .rw[yai hl]at h;have:=lH x k b h j z hz;rw[yai (yo.1 this).1];exact this
  .rw[yam hl]at h;have:=lH y _ b h j z hz;rw[yam (by omega)];rw[show k+1+j - (ZH x).length=k - (ZH x).length+1+j by omega]
   exact this
 |.cond _ x y,k,b,h,j,z,hz=>by
  simp only[ZH]at h ⊢;rcases ybr k (ZH x).length with hl|hl
  .rw[yai hl]at h;have:=lH x k b h j z hz;rw[yai (yo.1 this).1];exact this
  .rw[yam hl]at h;have:=lH y _ b h j z hz;rw[yam (by omega)];rw[show k+1+j - (ZH x).length=k - (ZH x).length+1+j by omega]
   exact this
 |.block _ a,k,b,h,j,z,hz=>lH a k b h j z hz
 |.scope a,k,b,h,j,z,hz=>lH a k b h j z hz
 |.loop a,k,b,h,j,z,hz=>by
  simp only[ZH]at h ⊢
  cases k with
  |zero=>
   simp only[ybb,yj,Code.loop.injEq]at h;subst h;rw[show 0+1+j=j+1 by omega,yat]
   exact hz
  |succ k=>
   rw[yat]at h;rw[show k+1+1+j=(k+1+j)+1 by omega,yat]
   exact lH a k b h j z hz
 |.skip,_,_,h,_,_,_=>by simp[ZH]at h
 |.region _ _ _,_,_,h,_,_,_=>by simp[ZH]at h
 |.rangeFunc _ _ _ _,_,_,h,_,_,_=>by simp[ZH]at h
 |.exit _,_,_,h,_,_,_=>by simp[ZH]at h
 |.ret,_,_,h,_,_,_=>by simp[ZH]at h
 |.label _,_,_,h,_,_,_=>by simp[ZH]at h
 |.goto _,_,_,h,_,_,_=>by simp[ZH]at h
 |.refuse _,_,_,h,_,_,_=>by simp[ZH]at h
def kL(P:yg)(g:yu)(N:Nat):yL (Nat×Lp)->Prop
 |[]=>True
 |q::r=>q.2.Ok P N (ia P g q.1)/\kL P g N r
theorem GZ{g:yu}{N:Nat}:∀{l:yL (Nat×Lp)}{n:Nat}{lp:Lp},kL P g N l->(n,lp)∈l->lp.Ok P N (ia P g n)
 |[],_,_,_,h=>by cases h
 |q::r,n,lp,hk,h=>by
  rcases List.mem_cons.1 h with h|h
  .subst h;exact hk.1
  .exact GZ hk.2 h
def iE(P:yg)(g:yu):Code:=
 match P.funcs[g]? with
 |some fn=>fn.body.getD .skip
 |none=>.skip
theorem HA{g:yu}{k:Nat}{b:Code}(h:(ZH (iE P g))[k]? =ab (.loop b)):ia P g k=b:=by
 unfold ia TX;unfold iE at h;split at h
 .rename_i fn hf;rw[hf];dsimp only
  cases hb:fn.body with
  |none=>rw[hb]at h;simp[ZH]at h
  |some c=>
   rw[hb]at h;dsimp only[Option.getD]at h ⊢;rw[yda,h];rfl
 .simp[ZH]at h
theorem ZGN{g:yu}{fi:FI}{N:Nat}(h:kL P g N fi.lp):jL P fi N (iE P g) 0:=by
 intro k b hk lp hl;rw[yaz]at hl;rw[<-HA hk];exact GZ h hl
theorem ZKt{g:yu}{fi:FI}{N k:Nat}(hk:(ZH (iE P g))[k]? =ab (.loop (ia P g k)))(h:kL P g N fi.lp):jL P fi N (ia P g k) (k+1):=by
 intro j b hj lp hl;have:=lH _ _ _ hk j _ hj;rw[<-HA this];exact GZ h hl
def vx(P:yg)(g k:Nat):Bool:=
 match (ZH (iE P g))[k]? with
 |some (.loop _)=>af
 |_=>ag
theorem ZwZ{g k:Nat}(h:vx P g k=af):(ZH (iE P g))[k]? =ab (.loop (ia P g k)):=by
 unfold vx at h;split at h
 .rename_i b hb;rw[hb,HA hb]
 .cases h
def HB(c:Code)(m:Nat):Code:=((X1 c)[m]?).getD .skip
def oN(P:yg)(N:Nat)(c:Code):yL (Nat×Lp)->Prop
 |[]=>True
 |q::r=>q.2.Is P N (HB c q.1)/\oN P N c r
theorem ZyI{N:Nat}{c:Code}:∀{l:yL (Nat×Lp)}{m:Nat}{bk:Lp},oN P N c l->(m,bk)∈l->bk.Is P N (HB c m)
 |[],_,_,_,h=>by cases h
 |q::r,m,bk,hk,h=>by
  rcases List.mem_cons.1 h with h|h
  .subst h;exact hk.1
  .exact ZyI hk.2 h
theorem HC{fi:FI}{N:Nat}{c:Code}(h:oN P N c fi.bk):iD P fi N c 0:=by
 intro k x hk bk hl;rw[yaz]at hl;have:=ZyI h hl;unfold HB at this;rw[hk]at this;exact this
theorem HD{fi:FI}{aA:Sp P}{g k N:Nat}{sl:cq}{es:yL bi}{I:yL Ty}{xs:yL bS}{step:Ty.aI I->yO (Ty.aI I⊕bS.sum xs)}(ok:dx aA)(hl:kL P g N fi.lp:=by exact True.intro)(hk:vx P g k=af:=by kernel_rfl)
 (h:∀v,oM P fi aA (ia P g k) k N sl es I xs v=step v:=by intro v;kernel_rfl) (hb:oN P N (ia P g k) fi.bk:=by exact True.intro):Lp.Ok P N (ia P g k) ⟨sl,es,I,xs,Zc step yD⟩:=
 ZQg yD ok (ZKt (ZwZ hk) hl) (HC hb) h
def jM{O:Type}(P:yg)(a:yL TD)(h:yL ai):yL ResultVar->(yL TD->yL al->yO O)->yO O
 |[],K=>K [] []
 |.tmp t::r,K=>jM P a h r λds hs=>K (a.getD t .ao::ds) hs
 |.cell t ty::r,K=>match a.getD t .ao with
  |.ak id yQ=>(mQ h id).bind λd=>eQ (lk h) yQ d λsub hs _=>if gu P ty (sub.er (lk h))=af then jM P a h r λds hs'=>K (sub::ds) (hs++hs') else ae
  |_=>ae
theorem rY{O:Type}{a:yL TD}{h:yL ai}{out:O}:∀(l:yL ResultVar)(K:yL TD->yL al->yO O),jM P a h l K=ab out->∃ds hs C,K ds hs=ab out/\bc C/\∀yK,jy P (TD.ay (lk h) a) (aB h) l (hs++yK)=ab (C,TD.ay (lk h) ds)
 |[],K,k=>⟨[],[],[],k,zP,λ_=>rfl⟩
 |.tmp t::r,K,k=>by
  obtain⟨ds,hs,C,k1,k2,k3⟩:=rY r _ k;refine⟨_,_,C,k1,k2,λyK=> ?_⟩
  simp only[jy,k3 yK,yab,uq,TD.ay]
 |.cell t ty::r,K,k=>by
  unfold jM at k;split at k
  .rename_i id yQ hx;obtain⟨d,h1,k⟩:=yf.1 k;obtain⟨st,h2,h3⟩:=qQ h1;obtain⟨sub,hs,put,C,g1,g2,g3,_⟩:=Xf _ _ _ _ k;obtain⟨g4,g5⟩:=Za g1;obtain⟨ds,hs',C',k1,k2,k3⟩:=rY r _ g5;refine⟨_,_,C++[QW yQ=XZ yQ]++C',k1,Zk.2 ⟨Zk.2 ⟨g2,(XC _).symm,au⟩,k2⟩,λyK=> ?_⟩;unfold jy;rw[uq,hx];dsimp only[TD.er];rw[h3];dsimp only;rw[yak,g3 (hs'++yK)];dsimp only;rw[yW g4,k3 yK];rfl
  .cases k
def jj:yL TD->TD
 |[d]=>d
 |ds=>.bj ds
theorem oO{L:Lk}(ds:yL TD):(jj ds).er L=mf (TD.ay L ds):=by
 match ds with
 |[]=>rfl
 |[d]=>rfl
 |_::_::_=>rfl
def TD.arg(L:Lk):TD->TD
 |.own id nn t c=>.p (.sl nn t (Z3 L id t c))
 |.agg ds=>TD.dw L ds
 |d=>d
theorem HE{L:Lk}(d:TD):(d.arg L).er L=(d.er L).arg:=by
 cases d <;> first|rfl|exact US _
def ZKv(h:yL ai)(rs:Sh)(es:yL bi)(n0:Nat)(r:TD):yO (yL Nat):=
 let l:=FH h es 0 ((yq n0).map (λi=>(i,i))++Sh.ids rs r)
 ((yq es.length).drop n0).mapM λj=>l.lookup j
def vy(h:yL ai)(n0:Nat)(ds:yL TD)(e:bS):yO (Ty.aI e.ty):=
 match e.sl with
 |[(0,rs)]=>(ZKv h rs e.es n0 (jj ds)).bind λkeep=>
  if once (yq n0++keep) then(match Dv.rn (aT (yq n0++keep)) ((jj ds).er (lk h)) with
   |some _=>(jj ds).rn (aT (yq n0++keep))
   |none=>(jj (ds.map (TD.arg (lk h)))).rn (aT (yq n0++keep))).bind λr=>
   (Xr h (yq n0++keep) (yq n0++keep)).bind λh2=>(Sh.mt (lk h2) rs r).bind λq=>(bi.du (lk h2) e.es h2).bind λw=>gM e.ty (q.2++w.2)
  else ae
 |_=>ae
def rZ(h:yL ai)(n0:Nat)(ds:yL TD):(l:yL bS)->yO (bS.sum l)
 |[]=>ae
 |[e]=>vy h n0 ds e
 |e::f::r=>match vy h n0 ds e with
  |some x=>ab (Sum.inl x:Ty.aI e.ty⊕bS.sum (f::r))
  |none=>(rZ h n0 ds (f::r)).map λx=>(Sum.inr x:Ty.aI e.ty⊕bS.sum (f::r))
theorem Zu0{h:yL ai}{n0:Nat}{ds:yL TD}:∀{l:yL bS}{o:bS.sum l},rZ h n0 ds l=ab o->∀e vs,lC l o e vs->∃x,vy h n0 ds e=ab x/\vs=dT e.ty x
 |[],_,k,_,_,_=>by cases k
 |[e],o,k,x,vs,hs=>by
  obtain⟨rfl,rfl⟩:=hs
  exact⟨o,k,rfl⟩
 |e::f::r,o,k,x,vs,hs=>by
  simp only[rZ]at k;split at k
  .rename_i y hy;cases k;obtain⟨rfl,rfl⟩:=hs;exact⟨y,hy,rfl⟩
  .obtain⟨y,h1,h2⟩:=Zb k;subst h2;exact Zu0 h1 x vs hs
def HF(P:yg)(fi:FI)(aA:Sp P)(g:yu)(ps:yL Sh)(es:yL bi)(ins:yL Ty)(xs:yL bS):Ty.aI ins->yO (bS.sum xs):=λx=>
 match P.funcs[g]? with
 |some fn=>match fn.body with
  |some c=>(Sh.fills ps (dT ins x)).bind λq=>(bi.fills es q.2).bind λw=>if w.2.isEmpty then
    fp P fi aA c 0 0 (q.1++yy (fn.ntmps - q.1.length) .ao) w.1 λex a h=>match ex with
     |.exit _=>ae
     |_=>jM P a h fn.results.toList λds _=>rZ h w.1.length ds xs
    else ae
  |none=>ae
 |none=>ae
def ic(P:yg)(g:yu):Nat:=
 match P.funcs[g]? with
 |some fn=>fn.ntmps
 |none=>0
theorem lI{fi:FI}{aA:Sp P}{g:yu}{ps:yL Sh}{es:yL bi}{ins:yL Ty}{xs:yL bS}{M:Ty.aI ins->yO (bS.sum xs)}(ok:dx aA)(hl:kL P g (ic P g) fi.lp:=by exact True.intro)(hn:ps.length<=ic P g:=by decide+kernel)
 (h:∀x,HF P fi aA g ps es ins xs x=M x:=by intro v;kernel_rfl) (hb:oN P (ic P g) (iE P g) fi.bk:=by exact True.intro):Fs.Ok (⟨g,ps,es,ins,xs,M⟩:Fs P):=by
 intro x o hM;have hM:M x=ab o:=hM;rw[<-h x]at hM;have hl':=ZGN hl;unfold HF at hM;split at hM
 .rename_i fn hf;split at hM
  .rename_i c hb1;obtain⟨q,h1,hM⟩:=yf.1 hM;obtain⟨w,h2,hM⟩:=yf.1 hM;obtain⟨h3,hM⟩:=Za hM;have hN:ic P g=fn.ntmps:=by unfold ic;rw[hf]
   have hc:iE P g=c:=by unfold iE;rw[hf];dsimp only;rw[hb1];rfl
   rw[hc,hN]at hl' hb;have hb0:=HC hb;rw[hN]at hn
   have zW:(q.1++yy (fn.ntmps - q.1.length) TD.ao).length=fn.ntmps:=by
    rw[yr,ycs,uJ h1];omega
   obtain⟨ex,a,hh,k1,k2,k3⟩:=Wm ok c _ _ _ _ _ zW hl' hb0 hM
   have hex:(ex=.ret\/ex=.normal)/\(jM P a hh fn.results.toList λds _=>rZ hh w.1.length ds xs)=ab o:=by
    cases ex with
    |exit _=>cases k1
    |normal=>exact⟨.inr rfl,k1⟩
    |ret=>exact⟨.inl rfl,k1⟩
   obtain⟨hex,k1⟩:=hex;obtain⟨ds,hs,C,g1,g2,g3⟩:=rY _ _ k1;refine⟨q.1,q.2,w.1,h1, ?_,λe vs s' hsel hfs=> ?_⟩
   .rw[h2];have:w.2=[]:=by simpa using h3
    rw[<-this]
   obtain⟨o1,g1,hvs⟩:=Zu0 g1 e vs hsel;unfold vy at g1;split at g1
   case h_2=>cases g1
   rename_i rs hsl;obtain⟨keep,g4,g1⟩:=yf.1 g1;obtain⟨g5,g1⟩:=Za g1;obtain⟨r,g6,g1⟩:=yf.1 g1;obtain⟨e2,g7,g1⟩:=yf.1 g1;obtain⟨z,g8,g1⟩:=yf.1 g1;obtain⟨y,g9,g1⟩:=yf.1 g1;obtain⟨b1,b2⟩:=ov g9;have hcc:∀id t,Z3 (lk e2) id t ae=Z3 (lk y.1) id t ae:=λid t=>by rw[b2]
   have eo:=jb _ _ _ g1
   have efill:s'=([z.1],y.1):=by
    rw[hvs,eo,hsl]at hfs;unfold VK at hfs;rw[show oA [(0,rs)] 1=[rs] from rfl]at hfs
    simp only[Sh.fills,lB _ _ _ g8,ya,yab]at hfs;have:=QY g9 [];rw[ybg]at this;rw[this]at hfs;exact(yax hfs).symm
   subst efill;refine⟨z.1,rfl, ?_⟩
   have hfin:fin P fn (TD.ay (lk hh) a) (aB hh) (aB w.1).length keep hs=ab (C,r.er (lk e2),aB e2):=by
    unfold fin;have:=g3 [];rw[ybg]at this;rw[this];dsimp only;rw[ZB,g5, <-oO,show aJ (aB hh) _ _=ab (aB e2) from Xa (Ve g7) g7]
    split at g6
    .rename_i r0 hr0;have e4:=gx (Ve g7) _ _ g6;rw[e4]
    .rename_i hr0;have e4:=gx (Ve g7) _ _ g6;rw[oO,Zz,yaq]at e4
     rw[hr0,show(TD.ay (lk hh) ds).map Dv.arg=ds.map (TD.er (lk hh) ∘ TD.arg (lk hh)) by
      rw[Zz,yaq];exact ycl λd _=>(HE d).symm,e4]
   have zB:Xq P c (TD.ay (lk w.1) q.1++yy (fn.ntmps - (TD.ay (lk w.1) q.1).length) .ao) (aB w.1) ex (TD.ay (lk hh) a) (aB hh):=by
    have e5:TD.ay (lk w.1) (q.1++yy (fn.ntmps - q.1.length) TD.ao)=TD.ay (lk w.1) q.1++yy (fn.ntmps - (TD.ay (lk w.1) q.1).length) .ao:=by
     rw[iP,Zz,Zz,yal,List.map_replicate];rfl
    rw[<-e5];exact k3
   exact UA (AM hf hb1 zB hex hfin g2) (kG hcc _ _ _ g8) (oz hcc g9)
  .cases hM
 .cases hM
end
theorem ni{P:yg}{g:yu}{t:Ty}{xs:yL bS}{MA:Ty.aI [.sl t]->yO (bS.sum xs)}{MB:Ty.aI []->yO (bS.sum xs)}(hA:Fs.Ok (⟨g,[.sl af t],[],[.sl t],xs,MA⟩:Fs P))(hB:Fs.Ok (⟨g,[.nil t],[],[],xs,MB⟩:Fs P))
 (h:MB ()=MA ([]:yL t.aN)):Fs.Ok (⟨g,[.v (.sl t)],[],[.sl t],xs,MA⟩:Fs P):=by
 intro l o hM;have key:∀(l:yL t.aN),Ty.cast (.sl t) (.sl t) l=ab l:=λl=>Yo (.sl t) l;obtain⟨a1,R1,H1,f1,f2,f3⟩:=hA l o hM
 have e1:a1=[.p (.sl (ab af) t l)]/\R1=[]:=by
  have:Sh.fills [.sl af t] [(⟨.sl t,l⟩:TV)]=ab (a1,R1):=f1;simp only[Sh.fills,Sh.fill]at this;rw[key l]at this;have this:ab (([.p (.sl (ab af) t l)]:yL TD),([]:yL TV))=ab (a1,R1):=this;cases this;exact⟨rfl,rfl⟩
 obtain⟨rfl,rfl⟩:=e1;cases f2;refine⟨[.p (.v (.sl t) l)],[],[], ?_,rfl,λe vs s' hs hf=> ?_⟩
 .show Sh.fills [.v (.sl t)] [(⟨.sl t,l⟩:TV)]=_;simp only[Sh.fills,Sh.fill];rw[key l];rfl
 .obtain⟨r,r1,r2⟩:=f3 e vs s' hs hf;refine⟨r,r1, ?_⟩;refine UD (xs:=l.map t.enc) r2 λhl=> ?_;have hl:l=[]:=List.map_eq_nil_iff.1 hl;subst hl;obtain⟨a2,R2,H2,g1,g2,g3⟩:=hB () o (by rw[<-hM];exact h);cases g1;cases g2;obtain⟨r',r1',r2'⟩:=g3 e vs s' hs hf;rw[r1]at r1';cases r1';exact r2'
def nj(n:Int):yO aOz:=if(ah (0<=n)&&ah (n.toNat<=Zr))=af then ab [] else ae
theorem ZMU{P:yg}{g:yu}{e:yc}(h:∀n:Nat,n<=Zr->cR P g [.p (.sl (ab ag) 1 []),.p (.int .i64 (n:Int))] [] (.own 0 ae 1 []) [.log 1 e []]):
 Fs.Ok (⟨g,[.nil .u8,.v (.int .i64)],[],[.int .i64],[⟨.ret,[(0,.own 0 .u8)],[.log .u8 e],[.sl .u8]⟩],nj⟩:Fs P):=by
 intro n o hM
 have key:∀(n:Int),nj n=ab o->(0<=n/\n.toNat<=Zr)/\([]:yL yB)=o:=λn hM=>by
  unfold nj at hM;obtain⟨h1,h2⟩:=Za (α:=yL yB) hM;rw[yi,yP,yP]at h1;exact⟨h1,yax h2⟩
 obtain⟨h1,h2⟩:=key n hM;cases h2;refine⟨[.p (.sl (ab ag) .u8 []),.p (.v (.int .i64) n)],[],[],rfl,rfl,λx vs s' hs hf=> ?_⟩;obtain⟨rfl,rfl⟩:=hs;cases hf;refine⟨_,rfl, ?_⟩;have:=h (Int.toNat n) h1.2;rw[Int.toNat_of_nonneg h1.1]at this;exact this
mutual
theorem HG:∀(s:Sh)(vs w:yL TV)(q:TD×yL TV),s.fill vs=ab q->s.fill (vs++w)=ab (q.1,q.2++w)
 |.v t,vs,w,q,h=>by
  cases vs with
  |nil=>cases h
  |cons x r=>
   obtain⟨y,h1,rfl⟩:=Zb (show(Ty.cast x.1 t x.2).map (λy=>((TD.p (.v t y),r):TD×yL TV))=ab q from h)
   show(Ty.cast x.1 t x.2).map (λy=>((TD.p (.v t y),r++w):TD×yL TV))=_
   rw[h1];rfl
 |.elem t,vs,w,q,h=>by
  cases vs with
  |nil=>cases h
  |cons x r=>
   obtain⟨y,h1,rfl⟩:=Zb (show(Ty.cast x.1 t x.2).map (λy=>((TD.elem (.v t y),r):TD×yL TV))=ab q from h)
   show(Ty.cast x.1 t x.2).map (λy=>((TD.elem (.v t y),r++w):TD×yL TV))=_
   rw[h1];rfl
 |.sl nn t,vs,w,q,h=>by
  cases vs with
  |nil=>cases h
  |cons x r=>
   obtain⟨y,h1,rfl⟩:=Zb (α:=(Ty.sl t).aN) (show(Ty.cast x.1 (.sl t) x.2).map (λ(y:yL t.aN)=>((TD.p (.sl (ab nn) t y),r):TD×yL TV))=ab q from h)
   show(Ty.cast x.1 (.sl t) x.2).map (λ(y:yL t.aN)=>((TD.p (.sl (ab nn) t y),r++w):TD×yL TV))=_
   rw[h1];rfl
 |.nil _,vs,w,q,h=>by cases h;rfl
 |.own _ _,vs,w,q,h=>by cases h;rfl
 |.ak _ _,vs,w,q,h=>by cases h;rfl
 |.mp _,vs,w,q,h=>by cases h;rfl
 |.rw _,vs,w,q,h=>by cases h;rfl
 |.rp j s p,vs,w,q,h=>by
  cases vs with
  |nil=>cases h
  |cons x r=>
   obtain⟨y,h1,rfl⟩:=Zb (α:=Int) (show(Ty.cast x.1 (.int .i64) x.2).map (λ(i:Int)=>((TD.rp j (.ix i.toNat s::p),r):TD×yL TV))=ab q from h)
   show(Ty.cast x.1 (.int .i64) x.2).map (λ(i:Int)=>((TD.rp j (.ix i.toNat s::p),r++w):TD×yL TV))=_
   rw[h1];rfl
 |.view _ _ _ _ _,vs,w,q,h=>by cases h;rfl
 |.rv _ _ _ _ _,vs,w,q,h=>by cases h;rfl
 |.fn g l,vs,w,q,h=>by
  simp only[Sh.fill]at h ⊢;obtain⟨y,h1,rfl⟩:=Zb h
  rw[cz l vs w y h1];rfl
 |.agg l,vs,w,q,h=>by
  simp only[Sh.fill]at h ⊢;obtain⟨y,h1,rfl⟩:=Zb h
  rw[cz l vs w y h1];rfl
 |.arr n s l,vs,w,q,h=>by
  simp only[Sh.fill]at h ⊢;obtain⟨y,h1,rfl⟩:=Zb h
  rw[cz l vs w y h1];rfl
 |.bj l,vs,w,q,h=>by
  simp only[Sh.fill]at h ⊢;obtain⟨y,h1,rfl⟩:=Zb h
  rw[cz l vs w y h1];rfl
 |.iface t x,vs,w,q,h=>by
  simp only[Sh.fill]at h ⊢;obtain⟨y,h1,rfl⟩:=Zb h
  rw[HG x vs w y h1];rfl
 |.rA t u x,vs,w,q,h=>by
  cases vs with
  |nil=>cases h
  |cons z r=>
   simp only[Sh.fill,yaa]at h ⊢
   cases hb:Ty.cast z.1 .bool z.2 with
   |none=>rw[hb]at h;cases h
   |some b=>
    rw[hb]at h;obtain⟨y,h1,rfl⟩:=Zb h;show((Sh.fill x (r++w)).map _)=_
    rw[HG x r w y h1];rfl
 |.bf,vs,w,q,h=>by cases h;rfl
 |.fn0,vs,w,q,h=>by cases h;rfl
 |.dN,vs,w,q,h=>by cases h;rfl
 |.ci,vs,w,q,h=>by cases h;rfl
 |.ao,vs,w,q,h=>by cases h;rfl
theorem cz:∀(l:yL Sh)(vs w:yL TV)(q:yL TD×yL TV),Sh.fills l vs=ab q->Sh.fills l (vs++w)=ab (q.1,q.2++w)
 |[],vs,w,q,h=>by simp only[Sh.fills]at h;cases h;rfl
 |s::r,vs,w,q,h=>by
  simp only[Sh.fills]at h ⊢;obtain⟨a,h1,h⟩:=yf.1 h;obtain⟨b,h2,rfl⟩:=Zb h;rw[HG s vs w a h1,ya,cz r a.2 w b h2];rfl
end
theorem ZO3{P:yg}{g:yu}{t:Ty}{e:yc}{yK:yL Sh}{i1 i2:yL Ty}{xs:yL bS}{M:Ty.aI i2->yO (bS.sum xs)}(pk:Ty.aI i1->Ty.aI i2)(h:Fs.Ok (⟨g,.own 0 t::yK,[.log t e],i2,xs,M⟩:Fs P))
 (hp:∀x,dT i2 (pk x)=dT i1 x++[⟨.sl t,([]:yL t.aN)⟩]) (hf:∀x,∃a,Sh.fills yK (dT i1 x)=ab (a,[])):Fs.Ok (⟨g,.nil t::yK,[],i1,xs,λx=>M (pk x)⟩:Fs P):=by
 intro x o hM;obtain⟨args,R,H,f1,f2,f3⟩:=h (pk x) o hM;obtain⟨a,ha⟩:=hf x;have f1:Sh.fills (.own 0 t::yK) (dT i2 (pk x))=ab (args,R):=f1;rw[hp x]at f1;simp only[Sh.fills,Sh.fill,ya,cz yK _ _ _ ha,yab,yj,yl,yv]at f1;obtain⟨rfl,rfl⟩:=f1;have f2:((Ty.cast (.sl t) (.sl t) ([]:yL t.aN)).map λ(y:yL t.aN)=>((ai.log t e y,[]):ai×yL TV)).bind (λa=>(bi.fills [] a.2).map λb=>(a.1::b.1,b.2))=ab (H,[]):=f2;have key:Ty.cast (.sl t) (.sl t) ([]:yL t.aN)=ab ([]:yL t.aN):=Yo (.sl t) ([]:yL t.aN);rw[key]at f2;cases f2;refine⟨.p (.sl (ab ag) t [])::a,[],[], ?_,rfl,λx' vs s' hs hf'=> ?_⟩
 .show Sh.fills (.nil t::yK) (dT i1 x)=_;simp only[Sh.fills,Sh.fill,ya,ha,yab]
 .obtain⟨r,r1,r2⟩:=f3 x' vs s' hs hf';refine⟨r,r1, ?_⟩
  have e1:TD.ay (lk [.log t e []]) (.own 0 ae t ae::a)=.own 0 ae t.size []::TD.ay (lk []) a:=by
   have e0:TD.ay (lk [.log t e []]) a=TD.ay (lk []) a:=(cm (λid t'=>uD (H:=[]) (T:=t) (e:=e) id t') a).symm;rw[TD.ay,e0];congr 1;rw[TD.er,show Z3 (lk [.log t e []]) 0 t ae=[] from mU (H:=[])]
   rfl
  have r2:cR P g (TD.ay (lk [.log t e []]) (.own 0 ae t ae::a)) (aB [.log t e []]) (r.er (lk s'.2)) (aB s'.2):=r2;rw[e1]at r2;exact ZB8 (H:=[]) (e:=e) r2
section
variable{P:yg}
theorem aR(h:HI)(lp:yL (Nat×Lp))(l:yL (Fs P))(a:cP l){g:yu}{ps:yL Sh}{es:yL bi}{ins:yL Ty}{xs:yL bS}{M:Ty.aI ins->yO (bS.sum xs)}(hl:kL P g (ic P g) lp:=by exact True.intro)(hn:ps.length<=ic P g:=by decide+kernel)
 (k:∀x,HF P { hi:=h,lp:=lp} { l:=l} g ps es ins xs x=M x:=by intro v;kernel_rfl):Fs.Ok (⟨g,ps,es,ins,xs,M⟩:Fs P):=lI (jc a) hl hn k
abbrev Lp.bA(L:Lp)(P:yg)(g k:Nat):Prop:=L.Ok P (ic P g) (ia P g k)
theorem Zv(h:HI)(lp:yL (Nat×Lp))(l:yL (Fs P))(a:cP l){g k N:Nat}{sl:cq}{es:yL bi}{I:yL Ty}{xs:yL bS}{step:Ty.aI I->yO (Ty.aI I⊕bS.sum xs)}(hl:kL P g N lp:=by exact True.intro)(hk:vx P g k=af:=by kernel_rfl)
 (h':∀v,oM P { hi:=h,lp:=lp} { l:=l} (ia P g k) k N sl es I xs v=step v:=by intro v;kernel_rfl):Lp.Ok P N (ia P g k) ⟨sl,es,I,xs,Zc step yD⟩:=HD (jc a) hl hk h'
end
end Go.Ev
end
section
namespace Go.Ev
universe u
variable{O:Type u}
def eM(n:Nat)(k:Nat->O):O:=Nat.rec (motive:=λ_=>O) (k 0) (λm _=>k (Nat.succ m)) n
theorem YY(n:Nat)(k:Nat->O):eM n k=k n:=by cases n <;> rfl
def gE{α:Type}(f:α->(α->O)->O):yL α->(yL α->O)->O
 |[],k=>k []
 |a::r,k=>f a λa=>gE f r λr=>k (a::r)
theorem WE{α:Type}{f:α->(α->O)->O}(hf:∀a k,f a k=k a):∀(l:yL α)(k:yL α->O),gE f l k=k l
 |[],k=>rfl
 |a::r,k=>by rw[gE,hf,WE hf r]
def HJ(n:Int)(k:Int->O):O:=match n with
 |.ofNat n=>eM n λn=>k (.ofNat n)
 |.negSucc n=>eM n λn=>k (.negSucc n)
theorem ZMV(n:Int)(k:Int->O):HJ n k=k n:=by cases n <;> (rw[HJ,YY])
def nk(b:Bool)(k:Bool->O):O:=match b with
 |true=>k af
 |false=>k ag
theorem oP(b:Bool)(k:Bool->O):nk b k=k b:=by cases b <;> rfl
mutual
def Ty.fo:(t:Ty)->t.aN->(t.aN->O)->O
 |.int _,x,k=>HJ x k
 |.u8,x,k=>eM (UInt8.toNat x) λn=>k (UInt8.ofNat n)
 |.u32,x,k=>eM (UInt32.toNat x) λn=>k (UInt32.ofNat n)
 |.u64,x,k=>eM (UInt64.toNat x) λn=>k (yaf n)
 |.bool,x,k=>nk x k
 |.str,x,k=>k x
 |.sl t,x,k=>gE (Ty.fo t) x k
 |.arr _ t,x,k=>gE (Ty.fo t) x k
 |.st fs,x,k=>Ty.eS fs x k
def Ty.eS:(fs:yL Ty)->Ty.aI fs->(Ty.aI fs->O)->O
 |[],_,k=>k ()
 |[t],x,k=>Ty.fo t x k
 |t::u::r,x,k=>Ty.fo t x.1 λa=>Ty.eS (u::r) x.2 λb=>k (a,b)
end
mutual
theorem Ty.bK:∀(t:Ty)(x:t.aN)(k:t.aN->O),t.fo x k=k x
 |.int _,x,k=>ZMV x k
 |.u8,x,k=>by rw[Ty.fo,YY];exact congrArg k UInt8.ofNat_toNat
 |.u32,x,k=>by rw[Ty.fo,YY];exact congrArg k UInt32.ofNat_toNat
 |.u64,x,k=>by rw[Ty.fo,YY];exact congrArg k UInt64.ofNat_toNat
 |.bool,x,k=>oP x k
 |.str,x,k=>rfl
 |.sl t,x,k=>by rw[Ty.fo];exact WE (Ty.bK t) x k
 |.arr _ t,x,k=>by rw[Ty.fo];exact WE (Ty.bK t) x k
 |.st fs,x,k=>Ty.bX fs x k
theorem Ty.bX:∀(fs:yL Ty)(x:Ty.aI fs)(k:Ty.aI fs->O),Ty.eS fs x k=k x
 |[],_,k=>rfl
 |[t],x,k=>Ty.bK t x k
 |t::u::r,x,k=>by rw[Ty.eS,Ty.bK t];exact Ty.bX (u::r) x.2 _
end
mutual
def TP.fo:TP->(TP->O)->O
 |.v t x,k=>t.fo x λx=>k (.v t x)
 |.sl nn t xs,k=>gE t.fo xs λxs=>k (.sl nn t xs)
 |.agg xs,k=>TP.eS xs λxs=>k (.agg xs)
 |.arr n s xs,k=>TP.eS xs λxs=>k (.arr n s xs)
 |.ku nn s xs,k=>TP.eS xs λxs=>k (.ku nn s xs)
 |.iface t x,k=>TP.fo x λx=>k (.iface t x)
 |x,k=>k x
def TP.eS:yL TP->(yL TP->O)->O
 |[],k=>k []
 |x::r,k=>TP.fo x λx=>TP.eS r λr=>k (x::r)
end
mutual
theorem TP.bK:∀(x:TP)(k:TP->O),x.fo k=k x
 |.v t x,k=>by rw[TP.fo,Ty.bK]
 |.sl nn t xs,k=>by rw[TP.fo,WE (Ty.bK t)]
 |.agg xs,k=>by rw[TP.fo,TP.bX xs]
 |.arr n s xs,k=>by rw[TP.fo,TP.bX xs]
 |.ku nn s xs,k=>by rw[TP.fo,TP.bX xs]
 |.iface t x,k=>by rw[TP.fo,TP.bK x]
 |.bf,k=>rfl
 |.fn0,k=>rfl
 |.dN,k=>rfl
 |.ci,k=>rfl
 |.fQ _,k=>rfl
theorem TP.bX:∀(x:yL TP)(k:yL TP->O),TP.eS x k=k x
 |[],k=>rfl
 |x::r,k=>by rw[TP.eS,TP.bK x,TP.bX r]
end
def ZQh{α:Type}(f:α->(α->O)->O):yO α->(yO α->O)->O
 |none,k=>k ae
 |some a,k=>f a λa=>k (ab a)
theorem ZMW{α:Type}{f:α->(α->O)->O}(hf:∀a k,f a k=k a):∀(l:yO α)(k:yO α->O),ZQh f l k=k l
 |none,k=>rfl
 |some a,k=>hf a _
mutual
def TD.fo:TD->(TD->O)->O
 |.p x,k=>x.fo λx=>k (.p x)
 |.elem x,k=>x.fo λx=>k (.elem x)
 |.own id nn t c,k=>eM id λid=>ZQh (gE t.fo) c λc=>k (.own id nn t c)
 |.ak id q,k=>eM id λid=>k (.ak id q)
 |.view id q s lo n,k=>eM id λid=>eM s λs=>eM lo λlo=>eM n λn=>k (.view id q s lo n)
 |.agg xs,k=>TD.eS xs λxs=>k (.agg xs)
 |.arr n s xs,k=>eM n λn=>eM s λs=>TD.eS xs λxs=>k (.arr n s xs)
 |.fn f xs,k=>TD.eS xs λxs=>k (.fn f xs)
 |.iface t x,k=>TD.fo x λx=>k (.iface t x)
 |.bj xs,k=>TD.eS xs λxs=>k (.bj xs)
 |.mp id,k=>eM id λid=>k (.mp id)
 |.rv id v s lo n,k=>eM id λid=>eM v λv=>eM s λs=>eM lo λlo=>eM n λn=>k (.rv id v s lo n)
 |.aY id v q,k=>eM id λid=>eM v λv=>k (.aY id v q)
 |.rw id,k=>eM id λid=>k (.rw id)
 |.rp id q,k=>eM id λid=>k (.rp id q)
 |.ao,k=>k .ao
def TD.eS:yL TD->(yL TD->O)->O
 |[],k=>k []
 |x::r,k=>TD.fo x λx=>TD.eS r λr=>k (x::r)
end
mutual
theorem TD.bK:∀(x:TD)(k:TD->O),x.fo k=k x
 |.p x,k=>by rw[TD.fo,TP.bK]
 |.elem x,k=>by rw[TD.fo,TP.bK]
 |.own id nn t c,k=>by rw[TD.fo,YY,ZMW (WE (Ty.bK t))]
 |.ak id q,k=>by rw[TD.fo,YY]
 |.view id q s lo n,k=>by rw[TD.fo,YY,YY,YY,YY]
 |.agg xs,k=>by rw[TD.fo,TD.bX xs]
 |.arr n s xs,k=>by rw[TD.fo,YY,YY,TD.bX xs]
 |.fn f xs,k=>by rw[TD.fo,TD.bX xs]
 |.iface t x,k=>by rw[TD.fo,TD.bK x]
 |.bj xs,k=>by rw[TD.fo,TD.bX xs]
 |.mp id,k=>by rw[TD.fo,YY]
 |.rv id v s lo n,k=>by rw[TD.fo,YY,YY,YY,YY,YY]
 |.aY id v q,k=>by rw[TD.fo,YY,YY]
 |.rw id,k=>by rw[TD.fo,YY]
 |.rp id q,k=>by rw[TD.fo,YY]
 |.ao,k=>rfl
theorem TD.bX:∀(x:yL TD)(k:yL TD->O),TD.eS x k=k x
 |[],k=>rfl
 |x::r,k=>by rw[TD.eS,TD.bK x,TD.bX r]
end
def ai.fo(e:ai)(k:ai->O):O:=match e with
 |.var d st=>d.fo λd=>nk st λst=>k (.var d st)
 |.log t e xs=>gE t.fo xs λxs=>k (.log t e xs)
 |.map tid a b l=>gE (λq k=>a.fo q.1 λx=>b.fo q.2 λy=>k (x,y)) l λl=>k (.map tid a b l)
 |.row v s st e d=>eM v λv=>eM s λs=>nk st λst=>d.fo λd=>k (.row v s st e d)
 |.aQ t v st e xs=>nk st λst=>gE t.fo xs λxs=>k (.aQ t v st e xs)
 |.aO t np v st e a b=>nk st λst=>gE t.fo a λa=>gE t.fo b λb=>k (.aO t np v st e a b)
 |.bJ t np v st e a d b=>nk st λst=>gE t.fo a λa=>d.fo λd=>gE t.fo b λb=>k (.bJ t np v st e a d b)
 |.gone=>k .gone
theorem ai.bK(e:ai)(k:ai->O):e.fo k=k e:=by
 cases e with
 |var d st=>rw[ai.fo,TD.bK,oP]
 |log t e xs=>rw[ai.fo,WE (Ty.bK t)]
 |map tid a b l=>rw[ai.fo,WE λq k=>by rw[Ty.bK a,Ty.bK b]]
 |row v s st e d=>rw[ai.fo,YY,YY,oP,TD.bK]
 |aQ t v st e xs=>rw[ai.fo,oP,WE (Ty.bK t)]
 |aO t np v st e a b=>rw[ai.fo,oP,WE (Ty.bK t),WE (Ty.bK t)]
 |bJ t np v st e a d b=>rw[ai.fo,oP,WE (Ty.bK t),TD.bK,WE (Ty.bK t)]
 |gone=>rfl
def vz(a:yL TD)(h:yL ai)(k:yL TD->yL ai->O):O:=TD.eS a λa=>gE ai.fo h λh=>k a h
theorem ZO5(a:yL TD)(h:yL ai)(k:yL TD->yL ai->O):vz a h k=k a h:=by rw[vz,TD.bX,WE ai.bK]
def se:(l:yL bS)->bS.sum l->(bS.sum l->O)->O
 |[],x,k=>k x
 |[e],x,k=>Ty.eS e.ty x k
 |e::f::r,x,k=>match (x:Ty.aI e.ty⊕bS.sum (f::r)) with
  |.inl x=>Ty.eS e.ty x λx=>k (.inl x:Ty.aI e.ty⊕bS.sum (f::r))
  |.inr x=>se (f::r) x λx=>k (.inr x:Ty.aI e.ty⊕bS.sum (f::r))
theorem ZKw:∀(l:yL bS)(x:bS.sum l)(k:bS.sum l->O),se l x k=k x
 |[],x,k=>rfl
 |[e],x,k=>Ty.bX _ _ _
 |e::f::r,x,k=>by
  unfold se
  cases (x:Ty.aI e.ty⊕bS.sum (f::r)) with
  |inl x=>exact Ty.bX _ _ _
  |inr x=>exact ZKw (f::r) x _
def Fs.fo{P:yg}(s:Fs P):Fs P:={ s with M:=λx=>Ty.eS s.ins x λx=>(s.M x).bind λo=>se s.xs o ab}
theorem Fs.sf{P:yg}{s:Fs P}(h:s.Ok):s.fo.Ok:=by
 have e:s.fo=s:=by
  unfold Fs.fo
  have:(λx=>Ty.eS s.ins x λx=>(s.M x).bind λo=>se s.xs o ab)=s.M:=by
   funext x;rw[Ty.bX]
   cases s.M x with
   |none=>rfl
   |some o=>exact ZKw _ _ _
  rw[this]
 rw[e];exact h
theorem ZC8{P:yg}:∀{l:yL (Fs P)},cP l->cP (l.map Fs.fo)
 |[],_=>trivial
 |s::r,h=>⟨Fs.sf h.1,ZC8 h.2⟩
end Go.Ev
end
section
namespace Go.Ev
def HK(h:yL ai)(n0:Nat)(r:TD):yL Nat:=
 let got:=lF h 100000 (r.look++yq n0) []
 ((yq h.length).drop n0).filter got.contains
def vA(P:yg)(H:yL ai)(t:yc)(d:TD):yO TD:=
 match d with
 |.p x=>ab (.p x)
 |d=>(fJ P gj t).bind λT=>(oB H 100 T d).map λy=>.p (.v T y)
theorem ZC9{P:yg}{H:yL ai}{t:yc}{d e:TD}(h:vA P H t d=ab e):fA (aB H) (d.er (lk H)) (e.er (lk H)):=by
 unfold vA at h;split at h
 .cases h;exact .refl _
 .obtain⟨T,h1,h⟩:=yf.1 h;obtain⟨y,h2,rfl⟩:=Zb h;exact .deep (uL _ _ _ _ h2)
def vB(P:yg)(H:yL ai):yL yc->yL TD->yO (yL TD)
 |[],[]=>ab []
 |t::r,d::ds=>match vA P H t d,vB P H r ds with
  |some a,ab b=>ab (a::b)
  |_,_=>ae
 |_,_=>ae
theorem ZyJ{P:yg}{H:yL ai}:∀{ts:yL yc}{ds es:yL TD},vB P H ts ds=ab es->fB (aB H) (TD.ay (lk H) ds) (TD.ay (lk H) es)
 |[],[],es,h=>by cases h;exact .nil
 |[],_::_,es,h=>by cases h
 |_::_,[],es,h=>by cases h
 |t::r,d::ds,es,h=>by
  simp only[vB]at h;split at h
  .rename_i a b h1 h2;cases h;exact .cons (ZC9 h1) (ZyJ h2)
  .cases h
def HL(P:yg)(H:yL ai)(ts:yL yc)(r:TD):yO TD:=
 match ts with
 |[t]=>vA P H t r
 |ts=>match r with
  |.bj ds=>(vB P H ts ds).map .bj
  |_=>ae
theorem ZKy{P:yg}{H:yL ai}{ts:yL yc}{r r':TD}(h:HL P H ts r=ab r'):gK (aB H) (r.er (lk H)) (r'.er (lk H)):=by
 unfold HL at h;split at h
 .exact .one (ZC9 h)
 .split at h
  .obtain⟨es,h1,rfl⟩:=Zb h;exact .bj (ZyJ h1)
  .cases h
def oQ{O:Type}(P:yg)(ts:yL yc)(r:TD)(H:yL ai)(K:TD->yL ai->yO O):yO O:=
 match ts with
 |[]=>K r H
 |ts=>(HL P (mY ((lF H 100000 r.look []).filter (FE H)) H) ts r).bind λr'=>K r' (mY ((lF H 100000 r.look []).filter (FE H)) H)
theorem ZyK{O:Type}{P:yg}{ts:yL yc}{r:TD}{H:yL ai}{K:TD->yL ai->yO O}{out:O}{g:yu}{args:yL Dv}{H0:yL ax}(h:oQ P ts r H K=ab out)(hc:cR P g args H0 (r.er (lk H)) (aB H)):
 ∃r' H',K r' H'=ab out/\cR P g args H0 (r'.er (lk H')) (aB H'):=by
 unfold oQ at h;split at h
 .exact⟨_,_,h,hc⟩
 .obtain⟨r',h1,h2⟩:=yf.1 h;generalize (lF H 100000 r.look []).filter (FE H)=ids at h1 h2;refine⟨_,_,h2,ZJb hc (ZEY ids H) ?_⟩;have:=ZKy h1;rw[ZuD]at this ⊢;exact this
def oR{O:Type}(h:yL ai)(n0:Nat)(ds:yL TD)(K:TD->yL ai->yO O):yO O:=
 let keep:=HK h n0 (jj ds)
 if once (yq n0++keep) then(match Dv.rn (aT (yq n0++keep)) ((jj ds).er (lk h)) with
  |some _=>(jj ds).rn (aT (yq n0++keep))
  |none=>(jj (ds.map (TD.arg (lk h)))).rn (aT (yq n0++keep))).bind λr=>
  (Xr h (yq n0++keep) (yq n0++keep)).bind λh2=>K r h2
 else ae
section
variable{P:yg}
def sh(P:yg)(fL:yu->HI)(l:yL (Fs P))(mt:yL (yc×String×yu))(im:yu->yL (Nat×jK)):Nat->(O:Type)->yu->yL TD->yL ai->(TD->yL ai->yO O)->yO O
 |0,_,_,_,_,_=>ae
 |n+1,O,g,args,H,K=>vz args H λargs H=>match P.funcs[g]? with
  |some fn=>match fn.body with
   |some c=>if ah (args.length<=fn.ntmps)=af then
     fp P { hi:=fL g,un:=1000000,gh:=im g} ⟨l,sh P fL l mt im n,mt,[]⟩ c 0 0 (args++yy (fn.ntmps - args.length) .ao) H λex a h=>match ex with
      |.exit _=>ae
      |_=>jM P a h fn.results.toList λds _=>oR h H.length ds λr h=>oQ P (fL g).deep r h λr h=>vz [r] h λrs h=>match rs with
       |[r]=>K r h
       |_=>ae
     else ae
   |none=>ae
  |none=>ae
theorem ZGP{fL:yu->HI}{l:yL (Fs P)}{mt:yL (yc×String×yu)}{im:yu->yL (Nat×jK)}(hl:cP l)(hm:gb P mt):∀(n:Nat),na P (sh P fL l mt im n)
 |0=>λ_ _ _ _ _ _ h=>by cases h
 |n+1=>λO g args H K out hM=>by
  unfold sh at hM;simp only[ZO5]at hM;split at hM
  .rename_i fn hf;split at hM
   .rename_i c hb1;obtain⟨hn,hM⟩:=Za hM;have hn:=yF hn
    have zW:(args++yy (fn.ntmps - args.length) TD.ao).length=fn.ntmps:=by
     rw[yr,ycs];omega
    obtain⟨ex,a,hh,k1,k2,k3⟩:=Wm (N:=fn.ntmps) (aA:=⟨l,sh P fL l mt im n,mt,[]⟩) ⟨hl,ZGP hl hm n,hm,au⟩ c _ _ _ _ _ zW (λk b hk lp h=>by cases h) (λk b hk lp h=>by cases h) hM
    have hex:(ex=.ret\/ex=.normal)/\(jM P a hh fn.results.toList λds _=>oR hh H.length ds λr h=>oQ P (fL g).deep r h K)=ab out:=by
     cases ex with
     |exit _=>cases k1
     |normal=>exact⟨.inr rfl,k1⟩
     |ret=>exact⟨.inl rfl,k1⟩
    obtain⟨hex,k1⟩:=hex;obtain⟨ds,hs,C,g1,g2,g3⟩:=rY _ _ k1;unfold oR at g1;dsimp only at g1;generalize HK hh H.length (jj ds)=keep at g1;obtain⟨g5,g1⟩:=Za g1;obtain⟨r,g6,g1⟩:=yf.1 g1;obtain⟨e2,g7,g1⟩:=yf.1 g1;refine ZyK g1 ?_
    have hfin:fin P fn (TD.ay (lk hh) a) (aB hh) (aB H).length keep hs=ab (C,r.er (lk e2),aB e2):=by
     unfold fin;have:=g3 [];rw[ybg]at this;rw[this];dsimp only;rw[ZB,g5, <-oO,show aJ (aB hh) _ _=ab (aB e2) from Xa (Ve g7) g7]
     split at g6
     .rename_i r0 hr0;have e4:=gx (Ve g7) _ _ g6;rw[e4]
     .rename_i hr0;have e4:=gx (Ve g7) _ _ g6;rw[oO,Zz,yaq]at e4
      rw[hr0,show(TD.ay (lk hh) ds).map Dv.arg=ds.map (TD.er (lk hh) ∘ TD.arg (lk hh)) by
       rw[Zz,yaq];exact ycl λd _=>(HE d).symm,e4]
    have zB:Xq P c (TD.ay (lk H) args++yy (fn.ntmps - (TD.ay (lk H) args).length) .ao) (aB H) ex (TD.ay (lk hh) a) (aB hh):=by
     have e5:TD.ay (lk H) (args++yy (fn.ntmps - args.length) TD.ao)=TD.ay (lk H) args++yy (fn.ntmps - (TD.ay (lk H) args).length) .ao:=by
      rw[iP,Zz,Zz,yal,List.map_replicate];rfl
     rw[<-e5];exact k3
    exact AM hf hb1 zB hex hfin g2
   .cases hM
  .cases hM
def HM(P:yg)(fL:yu->HI)(l:yL (Fs P))(mt:yL (yc×String×yu))(n:Nat)(g:yu)(im:yu->yL (Nat×jK):=λ_=>[]):yO Bool:=
 sh P fL l mt im n Bool g [] [] λr h=>match h with
  |[]=>r.boolT
  |_=>ae
theorem ZMX{fL:yu->HI}{l:yL (Fs P)}{mt:yL (yc×String×yu)}{im:yu->yL (Nat×jK)}{n:Nat}{g:yu}{b:Bool}(hl:cP l)(hm:gb P mt)(h:HM P fL l mt n g im=ab b):cR P g [] [] (.p (.bool b)) []:=by
 obtain⟨r,H',h1,h2⟩:=ZGP hl hm n _ _ _ _ _ _ h;split at h1
 .rw[oi h1]at h2;exact h2
 .cases h1
theorem ZO7{fL:yu->HI}{l:yL (Fs P)}{mt:yL (yc×String×yu)}{im:yu->yL (Nat×jK)}{n:Nat}{g:yu}{b:Bool}(hl:cP l)(hm:gb P mt)(h:HM P fL l mt n g im=ab b):
 Fs.Ok (⟨g,[],[],[],[⟨.ret,[(0,.v .bool)],[],[.bool]⟩],λ_=>ab b⟩:Fs P):=by
 intro x o hM;cases hM;refine⟨[],[],[],rfl,rfl,λe vs s' hs hf=> ?_⟩;obtain⟨rfl,rfl⟩:=hs;cases hf;exact⟨_,rfl,ZMX hl hm h⟩
end
theorem eE{P:yg}(s:Nat->Fs P)(h:(s yD).Ok):(s 18446744073709551616).Ok:=by
 rw[nh]at h;exact h
theorem ZKA{P:yg}{g:yu}{args:yL Dv}{H H1 H2:yL ax}{r r2:Dv}{keep:yL Nat}(h:cR P g args H r H1)(ho:once (yq H.length++keep)=af)
 (hin:aJ H1 (yq H.length++keep) (yq H.length++keep)=ab H2) (hr:r.rn (aT (yq H.length++keep))=ab r2):cR P g args H r2 H2:=by
 intro J vs ok e hv;refine Calls.mono (h J vs ok e hv) ?_;rintro e' w' ⟨v,J',h1,h2,h3,h4,h5,h6⟩;subst h3;subst e;exact⟨v,iw J' (yq J.H.length++keep) H2,h1,h2,rfl,ud ok h4 ho hin,qg h5 ho hin,mh (kq hin) hr h6⟩
def vC(h:yL ai)(n0:Nat)(r:TD)(e:bS):yO (Ty.aI e.ty):=
 match e.sl with
 |[(0,rs)]=>(ZKv h rs e.es n0 r).bind λkeep=>
  if once (yq n0++keep) then(r.rn (aT (yq n0++keep))).bind λr=>
   (Xr h (yq n0++keep) (yq n0++keep)).bind λh2=>(Sh.mt (lk h2) rs r).bind λq=>(bi.du (lk h2) e.es h2).bind λw=>gM e.ty (q.2++w.2)
  else ae
 |_=>ae
def si(h:yL ai)(n0:Nat)(r:TD):(l:yL bS)->yO (bS.sum l)
 |[]=>ae
 |[e]=>vC h n0 r e
 |e::f::q=>match vC h n0 r e with
  |some x=>ab (Sum.inl x:Ty.aI e.ty⊕bS.sum (f::q))
  |none=>(si h n0 r (f::q)).map λx=>(Sum.inr x:Ty.aI e.ty⊕bS.sum (f::q))
theorem ZrO{h:yL ai}{n0:Nat}{r:TD}:∀{l:yL bS}{o:bS.sum l},si h n0 r l=ab o->∀e vs,lC l o e vs->∃x,vC h n0 r e=ab x/\vs=dT e.ty x
 |[],_,k,_,_,_=>by cases k
 |[e],o,k,x,vs,hs=>by
  obtain⟨rfl,rfl⟩:=hs
  exact⟨o,k,rfl⟩
 |e::f::q,o,k,x,vs,hs=>by
  simp only[si]at k;split at k
  .rename_i y hy;cases k;obtain⟨rfl,rfl⟩:=hs;exact⟨y,hy,rfl⟩
  .obtain⟨y,h1,h2⟩:=Zb k;subst h2;exact ZrO h1 x vs hs
section
variable{P:yg}
def fnD(P:yg)(fi:FI)(aA:Sp P)(g:yu)(ps:yL Sh)(es:yL bi)(ins:yL Ty)(xs:yL bS):Ty.aI ins->yO (bS.sum xs):=λx=>
 match P.funcs[g]? with
 |some fn=>match fn.body with
  |some c=>(Sh.fills ps (dT ins x)).bind λq=>(bi.fills es q.2).bind λw=>if w.2.isEmpty then
    fp P fi aA c 0 0 (q.1++yy (fn.ntmps - q.1.length) .ao) w.1 λex a h=>match ex with
     |.exit _=>ae
     |_=>jM P a h fn.results.toList λds _=>oR h w.1.length ds λr h=>oQ P fi.hi.deep r h λr h=>si h w.1.length r xs
    else ae
  |none=>ae
 |none=>ae
theorem HN{fi:FI}{aA:Sp P}{g:yu}{ps:yL Sh}{es:yL bi}{ins:yL Ty}{xs:yL bS}{M:Ty.aI ins->yO (bS.sum xs)}(ok:dx aA)(hl:kL P g (ic P g) fi.lp:=by exact True.intro)(hn:ps.length<=ic P g:=by decide+kernel)
 (h:∀x,fnD P fi aA g ps es ins xs x=M x:=by intro v;kernel_rfl) (hb:oN P (ic P g) (iE P g) fi.bk:=by exact True.intro):Fs.Ok (⟨g,ps,es,ins,xs,M⟩:Fs P):=by
 intro x o hM;have hM:M x=ab o:=hM;rw[<-h x]at hM;have hl':=ZGN hl;unfold fnD at hM;split at hM
 .rename_i fn hf;split at hM
  .rename_i c hb1;obtain⟨q,h1,hM⟩:=yf.1 hM;obtain⟨w,h2,hM⟩:=yf.1 hM;obtain⟨h3,hM⟩:=Za hM;have hN:ic P g=fn.ntmps:=by unfold ic;rw[hf]
   have hc:iE P g=c:=by unfold iE;rw[hf];dsimp only;rw[hb1];rfl
   rw[hc,hN]at hl' hb;have hb0:=HC hb;rw[hN]at hn
   have zW:(q.1++yy (fn.ntmps - q.1.length) TD.ao).length=fn.ntmps:=by
    rw[yr,ycs,uJ h1];omega
   obtain⟨ex,a,hh,k1,k2,k3⟩:=Wm ok c _ _ _ _ _ zW hl' hb0 hM
   have hex:(ex=.ret\/ex=.normal)/\(jM P a hh fn.results.toList λds _=>oR hh w.1.length ds λr h=>oQ P fi.hi.deep r h λr h=>si h w.1.length r xs)=ab o:=by
    cases ex with
    |exit _=>cases k1
    |normal=>exact⟨.inr rfl,k1⟩
    |ret=>exact⟨.inl rfl,k1⟩
   obtain⟨hex,k1⟩:=hex;obtain⟨ds,hs,C,g1,g2,g3⟩:=rY _ _ k1;refine⟨q.1,q.2,w.1,h1, ?_,λe vs s' hsel hfs=> ?_⟩
   .rw[h2];have:w.2=[]:=by simpa using h3
    rw[<-this]
   unfold oR at g1;dsimp only at g1;generalize HK hh w.1.length (jj ds)=keep at g1;obtain⟨g5,g1⟩:=Za g1;obtain⟨r,g6,g1⟩:=yf.1 g1;obtain⟨e2,g7,g1⟩:=yf.1 g1
   have zB:Xq P c (TD.ay (lk w.1) q.1++yy (fn.ntmps - (TD.ay (lk w.1) q.1).length) .ao) (aB w.1) ex (TD.ay (lk hh) a) (aB hh):=by
    have e5:TD.ay (lk w.1) (q.1++yy (fn.ntmps - q.1.length) TD.ao)=TD.ay (lk w.1) q.1++yy (fn.ntmps - (TD.ay (lk w.1) q.1).length) .ao:=by
     rw[iP,Zz,Zz,yal,List.map_replicate];rfl
    rw[<-e5];exact k3
   have hfin:fin P fn (TD.ay (lk hh) a) (aB hh) (aB w.1).length keep hs=ab (C,r.er (lk e2),aB e2):=by
    unfold fin;have:=g3 [];rw[ybg]at this;rw[this];dsimp only;rw[ZB,g5, <-oO,show aJ (aB hh) _ _=ab (aB e2) from Xa (Ve g7) g7]
    split at g6
    .rename_i r0 hr0;have e4:=gx (Ve g7) _ _ g6;rw[e4]
    .rename_i hr0;have e4:=gx (Ve g7) _ _ g6;rw[oO,Zz,yaq]at e4
     rw[hr0,show(TD.ay (lk hh) ds).map Dv.arg=ds.map (TD.er (lk hh) ∘ TD.arg (lk hh)) by
      rw[Zz,yaq];exact ycl λd _=>(HE d).symm,e4]
   obtain⟨r',H',m1,m2⟩:=ZyK g1 (AM hf hb1 zB hex hfin g2);obtain⟨o1,m3,hvs⟩:=ZrO m1 e vs hsel;unfold vC at m3;split at m3
   case h_2=>cases m3
   rename_i rs hsl;obtain⟨keep2,n1,m3⟩:=yf.1 m3;obtain⟨n2,m3⟩:=Za m3;obtain⟨r3,n3,m3⟩:=yf.1 m3;obtain⟨e3,n4,m3⟩:=yf.1 m3;obtain⟨z,g8,m3⟩:=yf.1 m3;obtain⟨y,g9,m3⟩:=yf.1 m3;obtain⟨b1,b2⟩:=ov g9;have hcc:∀id t,Z3 (lk e3) id t ae=Z3 (lk y.1) id t ae:=λid t=>by rw[b2]
   have eo:=jb _ _ _ m3
   have efill:s'=([z.1],y.1):=by
    rw[hvs,eo,hsl]at hfs;unfold VK at hfs;rw[show oA [(0,rs)] 1=[rs] from rfl]at hfs
    simp only[Sh.fills,lB _ _ _ g8,ya,yab]at hfs;have:=QY g9 [];rw[ybg]at this;rw[this]at hfs;exact(yax hfs).symm
   subst efill;refine⟨z.1,rfl, ?_⟩
   have hk:cR P g (TD.ay (lk w.1) q.1) (aB w.1) (r3.er (lk e3)) (aB e3):=by
    refine ZKA (keep:=keep2) m2 (by rw[ZB];exact n2) ?_ ?_
    .rw[ZB];exact Xa (Ve n4) n4
    .rw[ZB];exact gx (Ve n4) _ _ n3
   exact UA hk (kG hcc _ _ _ g8) (oz hcc g9)
  .cases hM
 .cases hM
end
end Go.Ev
end
section
namespace Go.Ev
open Go.RowKit Go.WideShapes Go.ChangeShapes
def Yr(P:yg):Nat->yc->Bool
 |0,_=>ag
 |n+1,t=>match P.underlying t with
  |some .bool=>af
  |some (.int _)=>af
  |some .string=>af
  |some (.slice e)=>Yr P n e&&ah (0 < P.cellsOf e)
  |some (.array m e)=>Yr P n e&&P.cellsOf t==m*P.cellsOf e
  |some (.struct fs)=>(fs.toList.all λf=>Yr P n f.type)&&P.cellsOf t==(fs.toList.map λf=>P.cellsOf f.type).sum&&
    ((yq fs.toList.length).all λj=>match fs.toList[j]? with|some f=>f.offset==((fs.toList.take j).map λf=>P.cellsOf f.type).sum|none=>af)
  |_=>ag
theorem ZAp(P:yg):Kids P (λt=>∃n,Yr P n t=af) where
 pointer:=by
  rintro t e ⟨n,h⟩ hu
  cases n with
  |zero=>simp[Yr]at h
  |succ n=>simp[Yr,hu]at h
 slice:=by
  rintro t e ⟨n,h⟩ hu
  cases n with
  |zero=>simp[Yr]at h
  |succ n=>simp[Yr,hu]at h;exact⟨n,h.1⟩
 array:=by
  rintro t e m ⟨n,h⟩ hu
  cases n with
  |zero=>simp[Yr]at h
  |succ n=>simp[Yr,hu]at h;exact⟨⟨n,h.1⟩,h.2⟩
 struct:=by
  rintro t fs ⟨n,h⟩ hu
  cases n with
  |zero=>simp[Yr]at h
  |succ n=>
   simp only[Yr,hu,yi,yT,ybc]at h;obtain⟨⟨h1,h2⟩,h3⟩:=h;refine⟨λf hf=>⟨n,h1 f hf⟩,h2,λj f hf=> ?_⟩;have hj:j < fs.toList.length:=(yo.1 hf).1;have:=h3 j (by simpa using hj);rw[hf]at this;simpa using this
 map:=by
  rintro t k e ⟨n,h⟩ hu
  cases n with
  |zero=>simp[Yr]at h
  |succ n=>simp[Yr,hu]at h
def vD(R:yc->Pl->Prop):yL Field->yL Pl->Prop
 |[],[]=>True
 |f::fs,y::ys=>R f.type y/\vD R fs ys
 |_,_=>False
def dM(P:yg):Nat->yc->Pl->Prop
 |0,_,_=>False
 |n+1,t,x=>match P.underlying t,x with
  |some .bool,.bool _=>True
  |some (.int k),.int k' m=>k'=k/\(Lit.int k m).wf=af
  |some .string,.str s=>s.size<=maxLen
  |some (.slice e),.sl nn s xs=>s=P.cellsOf e/\nn=ae/\xs.length<=maxLen/\∀y,y∈xs->dM P n e y
  |some (.array m e),.arr m' s xs=>m'=m/\s=P.cellsOf e/\xs.length=m/\∀y,y∈xs->dM P n e y
  |some (.struct fs),.agg xs=>vD (dM P n) fs.toList xs
  |_,_=>False
def kM:Nat->Nat->Prop:=λ_ _=>True
section
variable{H:Type}{enc:yc×yh->H}{P:yg}{w:yz}{base:Nat}{sp:Nat->Bool}{held:Bool}
theorem ZIk:∀{s:Nat}{a:Addr}{cs:yL yh},w.cells? base a s=ab cs->cs.length=s/\∀j u,cs[j]? =ab u->w.cell? (a.add j)=ab u:=by
 intro s a cs h;unfold World.cells? at h;split at h
 .have hl:cs.length=s:=by simpa using mapM_some_length h
  refine⟨hl,λj u hu=> ?_⟩;have hj:j < s:=by rw[<-hl];exact(yo.1 hu).1
  have:=mapM_some_get h j j (by simp[hj]);rw[hu]at this;exact this
 .cases h
theorem ZGR{e:yc}{n m:Nat}{a:Addr}{s:Nat}(hs:0 < s){elems:yL (DataW H×yL MemPlace)}{len:Nat}(zW:elems.length=len)
 (ih:∀(cs:yL yh)(x:DataW H×yL MemPlace),DataW.trod enc P w base sp held m e cs=ab x->cs.length=s->∃pl,dM P n e pl/\aw w kM pl cs)
 (h:∀i,i < len->(w.cells? base (a.add (i*s)) s).bind (DataW.trod enc P w base sp held m e)=elems[i]?):
 ∀k,k<=len->∃(xs:yL Pl)(us:yL yh),xs.length=k/\(∀y,y∈xs->dM P n e y)/\aU s xs/\us.length=k*s/\an w kM xs us/\(∀j u,us[j]? =ab u->w.cell? (a.add j)=ab u)
 |0,_=>⟨[],[],rfl,(λy hy=>by cases hy),(λy hy=>by cases hy),by simp,by simp[an],by simp⟩
 |k+1,hk=>by
  obtain⟨xs,us,h1,h2,h3,h4,h5,h6⟩:=ZGR hs zW ih h k (by omega);have hk':=h k (by omega);rw[yac (by omega)]at hk';obtain⟨cs,hc,ht⟩:=yf.1 hk';obtain⟨c1,c2⟩:=ZIk hc;obtain⟨pl,p1,p2⟩:=ih cs _ ht c1;have psz:pl.size=s:=by rw[<-XT _ _ p2,c1]
  refine⟨xs++[pl],us++cs,by simp[h1],λy hy=> ?_,λy hy=> ?_,by simp[h4,c1,Nat.add_mul],Yh h5 (by simpa[an] using p2),λj u hu=> ?_⟩
  .rcases ybs.1 hy with hy|hy
   .exact h2 y hy
   .rw[yar.1 hy];exact p1
  .rcases ybs.1 hy with hy|hy
   .exact h3 y hy
   .rw[yar.1 hy];exact psz
  .by_cases hj:j < us.length
   .rw[yai hj]at hu;exact h6 j u hu
   .rw[yam (by omega)]at hu;have:=c2 _ _ hu;rw[Addr.add_add]at this;rw[<-this];congr 2;omega
theorem ZDa{e:yc}{n m:Nat}{s:Nat}{cs:yL yh}{elems:yL (DataW H×yL MemPlace)}{len:Nat}(zW:elems.length=len)(hcs:cs.length=len*s)
 (ih:∀(cs:yL yh)(x:DataW H×yL MemPlace),DataW.trod enc P w base sp held m e cs=ab x->cs.length=s->∃pl,dM P n e pl/\aw w kM pl cs)
 (h:∀i,i < len->DataW.trod enc P w base sp held m e ((cs.drop (i*s)).take s)=elems[i]?):
 ∀k,k<=len->∃(xs:yL Pl),xs.length=k/\(∀y,y∈xs->dM P n e y)/\aU s xs/\an w kM xs (cs.take (k*s))
 |0,_=>⟨[],rfl,(λy hy=>by cases hy),(λy hy=>by cases hy),by simp[an]⟩
 |k+1,hk=>by
  obtain⟨xs,h1,h2,h3,h5⟩:=ZDa zW hcs ih h k (by omega);have hk':=h k (by omega);rw[yac (by omega)]at hk';have hle:k*s+s<=len*s:=by rw[<-Nat.succ_mul];exact Nat.mul_le_mul_right _ hk
  have c1:((cs.drop (k*s)).take s).length=s:=by simp;omega
  obtain⟨pl,p1,p2⟩:=ih _ _ hk' c1;have psz:pl.size=s:=by rw[<-XT _ _ p2,c1]
  refine⟨xs++[pl],by simp[h1],λy hy=> ?_,λy hy=> ?_, ?_⟩
  .rcases ybs.1 hy with hy|hy
   .exact h2 y hy
   .rw[yar.1 hy];exact p1
  .rcases ybs.1 hy with hy|hy
   .exact h3 y hy
   .rw[yar.1 hy];exact psz
  .rw[Nat.add_mul,Nat.one_mul,List.take_add];exact Yh h5 (by simpa[an] using p2)
theorem ZyL{n m:Nat}{cs:yL yh}
 (ih:∀(t:yc),Yr P n t=af->∀(cs:yL yh)(x:DataW H×yL MemPlace),DataW.trod enc P w base sp held m t cs=ab x->∃pl,dM P n t pl/\aw w kM pl cs):
 ∀(fs:yL Field)(o:Nat),(∀f,f∈fs->Yr P n f.type=af)->(∀(j:Nat)f,fs[j]? =ab f->f.offset=o+((fs.take j).map λf=>P.cellsOf f.type).sum)->
  cs.length=o+(fs.map λf=>P.cellsOf f.type).sum->(∀(j:Nat)f,fs[j]? =ab f->∃x,DataW.trod enc P w base sp held m f.type ((cs.drop f.offset).take (P.cellsOf f.type))=ab x)->
  ∃(xs:yL Pl),vD (dM P n) fs xs/\an w kM xs (cs.drop o)
 |[],o,_,_,hl,_=>⟨[],zP,by simp only[an];apply List.drop_eq_nil_of_le;simp at hl;omega⟩
 |f::fs,o,hp,ho,hl,h=>by
  obtain⟨x,hx⟩:=h 0 f rfl;have ho0:=ho 0 f rfl;simp at ho0;rw[ho0]at hx;obtain⟨pl,p1,p2⟩:=ih f.type (hp f (yao ..)) _ _ hx;simp only[yad,List.sum_cons]at hl
  obtain⟨xs,q1,q2⟩:=ZyL ih fs (o+P.cellsOf f.type) (λg hg=>hp g (yas _ hg)) (λj g hg=>by
   have:=ho (j+1) g hg;simp only[List.take_succ_cons,yad,List.sum_cons]at this;omega) (by omega) (λj g hg=>h (j+1) g hg)
  refine⟨pl::xs,⟨p1,q1⟩, ?_⟩;simp only[an];refine⟨(cs.drop o).take (P.cellsOf f.type),(cs.drop o).drop (P.cellsOf f.type),(List.take_append_drop ..).symm,p2, ?_⟩;rw[List.drop_drop];exact q2
theorem ZMZ:∀(n m:Nat)(t:yc),Yr P n t=af->∀(cs:yL yh)(x:DataW H×yL MemPlace),DataW.trod enc P w base sp held m t cs=ab x->∃pl,dM P n t pl/\aw w kM pl cs:=by
 intro n
 induction n with
 |zero=>intro m t h;simp[Yr]at h
 |succ n ih=>
  intro m t ht cs x h;unfold Yr at ht;split at ht
  .rename_i hu;obtain⟨b,rfl,_⟩:=DataW.trod_bool hu h;exact⟨.bool b,by simp[dM,hu],by simp[aw]⟩
  .rename_i k hu;obtain⟨z,rfl,rfl,hw⟩:=DataW.trod_int hu h;exact⟨.int k z,by simp[dM,hu,hw],by simp[aw]⟩
  .rename_i hu;obtain⟨s,rfl,h2⟩:=DataW.trod_string hu h;exact⟨.str s,by simp[dM,hu];exact h2.2,by simp[aw]⟩
  .rename_i e hu;simp only[yi,yP]at ht;rcases DataW.trod_slice hu h with⟨rfl,rfl⟩|⟨a,len,cap,elems,yK,m',rfl,rfl,rfl,_,hle,hcap,zW,hel,_⟩
   .exact⟨.sl ae (P.cellsOf e) [],by simp[dM,hu],by simp only[aw];exact⟨(λy hy=>by cases hy),ae,0,rfl,ym _,Nat.zero_le _,Z7 _,λ_=>rfl,λh=>absurd rfl h⟩⟩
   .obtain⟨xs,us,h1,h2,h3,h4,h5,h6⟩:=ZGR (n:=n) ht.2 zW (λcs x hx _=>ih m' e ht.1 cs x hx) hel len (ym _);refine⟨.sl ae (P.cellsOf e) xs,by simp only[dM,hu];exact⟨zP,zP,by omega,h2⟩, ?_⟩;simp only[aw];refine⟨h3,ab a,cap,by rw[h1],by omega,hcap,Z7 _,by simp,λhne=> ?_⟩
    have hpos:0 < us.length:=by
     rw[h4];have:0 < len:=by rw[<-h1];exact List.length_pos_iff.2 hne
     exact Nat.mul_pos this ht.2
    have hc0:=h6 0 us[0] (yac hpos);obtain⟨b,o,spot⟩:=a
    have hspot:spot=ae:=by
     cases spot with
     |none=>rfl
     |some z=>
      exfalso;unfold World.cell? at hc0;split at hc0
      .simp[Addr.add]at hc0
      .cases hc0
    subst hspot;exact⟨b,o,us,rfl,h5,λj u hu=>⟨by have:=h6 j u hu;rwa [Addr.add_lit]at this,au⟩⟩
  .rename_i k e hu;simp only[yi,yT]at ht;obtain⟨elems,m',rfl,rfl,hl,zW,hel⟩:=DataW.trod_array hu h;obtain⟨xs,h1,h2,h3,h4⟩:=ZDa (n:=n) (s:=P.cellsOf e) zW (by rw[hl,ht.2]) (λcs x hx _=>ih m' e ht.1 cs x hx) hel k (ym _);rw[List.take_of_length_le (by rw[hl,ht.2];exact ym _)]at h4;exact⟨.arr k (P.cellsOf e) xs,by simp only[dM,hu];exact⟨zP,zP,h1,h2⟩,by simp only[aw];exact⟨h1,h3,h4⟩⟩
  .rename_i fs hu;simp only[yi,yT,ybc]at ht;obtain⟨⟨t1,t2⟩,t3⟩:=ht;obtain⟨elems,m',rfl,rfl,hl,zW,hel⟩:=DataW.trod_struct hu h
   obtain⟨xs,q1,q2⟩:=ZyL (n:=n) (m:=m') (cs:=cs) (λt ht cs x hx=>ih m' t ht cs x hx) fs.toList 0 t1 (λj f hf=>by
    have hj:j < fs.toList.length:=(yo.1 hf).1;have:=t3 j (by simpa using hj);rw[hf]at this;simpa using this) (by rw[hl,t2];omega) (λj f hf=>by
    have hj:j < fs.toList.length:=(yo.1 hf).1;have:=hel j f (by simpa using hf);rw[yac (by rw[zW];simpa using hj)]at this;exact⟨_,this⟩)
   exact⟨.agg xs,by simp only[dM,hu];exact q1,by simp only[aw];simpa using q2⟩
  .cases ht
end
end Go.Ev
namespace Go.Ev
open Go.RowKit Go.WideShapes Go.ChangeShapes
def vE(P:yg)(n:Nat):yL yc->yL Pl->Prop
 |[],[]=>True
 |t::ts,x::xs=>dM P n t x/\vE P n ts xs
 |_,_=>False
section
variable{H:Type}{enc:yc×yh->H}{P:yg}
def gm(W:yz):Sg:={ F:=kM,B:=λb=>W.heap.size<=b,m:=[],H:=[],w:=W}
theorem ZO8(W:yz):Ok (gm W) where
 len:=rfl
 inj i j b h:=by simp[gm]at h
 lt i b h:=by simp[gm]at h
 dc i e a h:=by simp[gm]at h
 new b h:=h
 own i b h:=by simp[gm]at h
theorem ZKB(W:yz)(b o:Nat):(gm W).aV b o:=⟨.inl trivial,λid e h=>by simp[gm]at h⟩
theorem Zu4{W:yz}{x:Pl}{v:yh}{cs:yL yh}(hx:aw W kM x cs)(hc:v.cells.toList=cs)(hv:x.isAgg=af->∃a,v=.agg a)(hn:x.isAgg=ag->cs=[v]):yJ (gm W) (.p x) v:=by
 have hm:aw W (gm W).aV x cs:=Vh (λb o u h _=>⟨h,ZKB W b o⟩) x cs hx;refine⟨λha=> ?_,λha=> ?_⟩
 .obtain⟨a,rfl⟩:=hv ha;refine⟨a,rfl, ?_⟩;simp only[yH];have:a.toList=cs:=by rw[<-hc];rfl
  rw[this];exact hm
 .simp only[yH];have e:=hn ha;rw[<-e];exact hm
theorem ZO9:∀{n:Nat}{t:yc}{x:Pl},dM P n t x->x.isAgg=Xi P t
 |0,_,_,h=>by simp[dM]at h
 |n+1,t,x,h=>by
  unfold dM at h;split at h <;> rename_i hu <;> first|(simp[Pl.isAgg,Xi,hu];done)|exact h.elim
theorem ZGS{W:yz}{n:Nat}(hval:∀(t:yc)(v:yh),Xi P t=af->Value.okWide P W .any 0 t v->∃a,v=.agg a):
 ∀(ts:yL yc)(vs:yL yh)(ds:yL (DataW H))(ps:yL MemPlace),(∀t,t∈ts->Yr P n t=af)->(∀(j:Nat)t v,ts[j]? =ab t->vs[j]? =ab v->(Xi P t=af->∃a,v=.agg a)/\(Xi P t=ag->v.cells.toList=[v]))->
  DataW.TrodAll enc P W 0 (λ_=>af) af ts vs ds ps->∃xs,vE P n ts xs/\aE (gm W) (xs.map .p) vs
 |[],[],[],_,_,_,_=>⟨[],zP,by simp[aE]⟩
 |[],_::_,_,_,_,_,h=>by simp[DataW.TrodAll]at h
 |[],[],_::_,_,_,_,h=>by simp[DataW.TrodAll]at h
 |_::_,[],_,_,_,_,h=>by simp[DataW.TrodAll]at h
 |_::_,_::_,[],_,_,_,h=>by simp[DataW.TrodAll]at h
 |t::ts,v::vs,d::ds,ps,hp,hv,h=>by
  obtain⟨p,q,⟨yD,h1⟩,h2,rfl⟩:=h;obtain⟨x,x1,x2⟩:=ZMZ n yD t (hp t (yao ..)) _ _ h1;obtain⟨xs,xs1,xs2⟩:=ZGS hval ts vs ds q (λu hu=>hp u (yas _ hu)) (λj u w' hj hw=>hv (j+1) u w' hj hw) h2;obtain⟨v1,v2⟩:=hv 0 t v rfl rfl;refine⟨x::xs,⟨x1,xs1⟩, ?_⟩;simp only[yad,aE];have ha:=ZO9 x1;exact⟨v,vs,rfl,Zu4 x2 rfl (λe=>v1 (by rw[<-ha];exact e)) (λe=>v2 (by rw[<-ha];exact e)),xs2⟩
theorem Zl7{W W':yz}{sp':Nat->Bool}{n:Nat}:∀(ts:yL yc)(vs:yL yh)(ds:yL (DataW H))(ps:yL MemPlace),(∀t,t∈ts->Yr P n t=af)->
 DataW.TrodAll enc P W 0 (λ_=>af) af ts vs ds ps->(∀p∈ps,W.sameAt W' p)->(∀p∈ps,sp' p.block=af)->DataW.TrodAll enc P W' 0 sp' af ts vs ds ps
 |[],[],[],_,_,h,_,_=>h
 |[],_::_,_,_,_,h,_,_=>by simp[DataW.TrodAll]at h
 |[],[],_::_,_,_,h,_,_=>by simp[DataW.TrodAll]at h
 |_::_,[],_,_,_,h,_,_=>by simp[DataW.TrodAll]at h
 |_::_,_::_,[],_,_,h,_,_=>by simp[DataW.TrodAll]at h
 |t::ts,v::vs,d::ds,ps,hp,h,hs,hb=>by
  obtain⟨p,q,⟨yD,h1⟩,h2,rfl⟩:=h;refine⟨p,q,⟨yD, ?_⟩,Zl7 ts vs ds q (λu hu=>hp u (yas _ hu)) h2 (λz hz=>hs z (List.mem_append_right _ hz)) (λz hz=>hb z (List.mem_append_right _ hz)),rfl⟩
  exact DataW.trod_stays (ZAp P) (λ{t e}⟨n,hn⟩hu=>by
   cases n with
   |zero=>simp[Yr]at hn
   |succ n=>simp[Yr,hu]at hn;exact hn.2) (by simp) ⟨n,hp t (yao ..)⟩ h1 (λz hz=>hs z (List.mem_append_left _ hz)) (λz hz=>hb z (List.mem_append_left _ hz))
theorem ZDb{W:yz}{J':Sg}(h:To (gm W) J'):Below W.heap.size W J'.w:=
 ⟨h.os,h.tape,h.output,h.size,λb hb=>h.block b hb (λid=>by simp[gm])⟩
theorem Zu5{f:Func}{s:ChangeSpec}{apart fresh handsOn again:Bool}{W W':yz}{args:Array yh}{v:yh}{ds gs:yL (DataW H)}{before pa pv:yL MemPlace}
 (hW:DataW.Whole enc P f.params.toList s.vars apart W args.toList ds gs before)
 (hres:∀(b:Nat)(sp:Nat->Bool)(hd:Bool),DataW.TrodAll enc P W' b sp hd f.resultTypes.toList (v.resultList f.resultTypes.size) (s.fn H (ds++gs)).results [])
 (yR:∀sp:Nat->Bool,(∀p∈before,sp p.block=af)->DataW.TrodAll enc P W' 0 sp af f.params.toList args.toList (s.fn H (ds++gs)).args pa)
 (hvars:∀sp:Nat->Bool,(∀p∈before,sp p.block=af)->DataW.TrodVars enc P W' sp s.vars (s.fn H (ds++gs)).vars pv)
 (hps:before=pa++pv) (hb:Below W.heap.size W W')
 (hok:∀(j:Nat)(t:yc)(r:yh),f.resultTypes[j]? =ab t->(v.resultList f.resultTypes.size)[j]? =ab r->Value.okWide P W' .any 0 t r):
 s.post enc P f apart fresh handsOn again W args v W':=by
 have hlt:∀p∈before,p.block < W.heap.size:=λp hp=>hW.lt p hp;have hold:∀p∈before,(λb=>ah (b < W.heap.size)) p.block=af:=λp hp=>by simpa using hlt p hp
 refine⟨ds,gs,before,[],pa,pv,hW,hres _ _ _,yR _ hold,hvars _ hold,World.keptBut_mono (λp hp=>⟨hp, ?_⟩) (hb.frame (· ∈before)),λ_=> ?_⟩
 .rw[hps,ybs]at hp;exact Or.inr hp
 .obtain⟨_,_,_,_,_,hz,hn⟩:=hW;refine⟨hok,_,_,([]++pa)++pv,⟨[]++pa,pv,trodAll_append (yR _ (λ_ _=>rfl)) (hres _ _ _),hvars _ (λ_ _=>rfl),rfl, ?_, ?_⟩, ?_⟩
  .intro b off hp;have hin:MemPlace.cell b off∈before:=by rw[hps];simpa using hp
   rw[hb.frozen (hlt _ hin)];exact hz b off hin
  .intro ha;have:=hn ha;rw[hps]at this;simpa using this
  .intro p hp _;rw[hps];simpa using hp
theorem ZAr{f:yu}{fn:Func}{s:ChangeSpec}{n:Nat}{tb:yc}(hr:fn.resultTypes= #[tb])(ht:P.underlying tb=ab .bool)(hv:s.vars=[])
 (hs:∀ds:yL (DataW H),ds.length=fn.params.toList.length->s.fn H ds={ results:=[.lit (.bool af)],args:=ds}) (hp:∀t,t∈fn.params.toList->Yr P n t=af)
 (W:yz) (base:Nat) (args:Array yh) (ds gs:yL (DataW H)) (before:yL MemPlace)
 (hval:∀(j:Nat)t v,fn.params[j]? =ab t->args[j]? =ab v->Value.okWide P W .any base t v) (hW:DataW.Whole enc P fn.params.toList s.vars ag W args.toList ds gs before)
 (hc:∀xs:yL Pl,vE P n fn.params.toList xs->aE (gm W) (xs.map .p) args.toList->cR P f (xs.map .p) [] (.p (.bool af)) []):
 Calls P f args W λe W'=>∃v,e=.returned v/\s.post enc P fn ag af ag ag W args v W':=by
 have hW':=hW;obtain⟨p,q,hA,hV,rfl,hfz,hnd⟩:=hW;rw[hv]at hV
 obtain⟨rfl,rfl⟩:gs=[]/\q=[]:=by
  cases gs with
  |nil=>exact⟨rfl,hV⟩
  |cons g r=>simp[DataW.TrodVars]at hV
 have zW:=trodAll_length hA
 obtain⟨xs,x1,x2⟩:=ZGS (enc:=enc) (P:=P) (W:=W) (n:=n) (λt v ha hok=>by
  unfold Value.okWide at hok;unfold Xi at ha;split at hok
  .obtain⟨cs,rfl,_⟩:=hok;exact⟨cs,rfl⟩
  .obtain⟨cs,rfl,_⟩:=hok;exact⟨cs,rfl⟩
  .rename_i h1 h2;split at ha
   .rename_i fs hu;exact absurd hu (h1 fs)
   .rename_i k e hu;exact absurd hu (h2 k e)
   .cases ha) fn.params.toList args.toList ds p hp (λj t v hj hvv=>by
  have hok:=hval j t v (by simpa using hj) (by simpa using hvv);refine⟨λha=> ?_,λha=> ?_⟩
  .unfold Value.okWide at hok;unfold Xi at ha;split at hok
   .obtain⟨cs,rfl,_⟩:=hok;exact⟨cs,rfl⟩
   .obtain⟨cs,rfl,_⟩:=hok;exact⟨cs,rfl⟩
   .rename_i h1 h2;split at ha
    .rename_i fs hu;exact absurd hu (h1 fs)
    .rename_i k e hu;exact absurd hu (h2 k e)
    .cases ha
  .obtain⟨m,hm⟩:∃m,Yr P (m+1) t=af:=by
    have:=hp t (ybp hj)
    cases n with
    |zero=>simp[Yr]at this
    |succ n=>exact⟨n,this⟩
   unfold Value.okWide at hok;unfold Yr at hm;unfold Xi at ha;split at hm <;> rename_i hu <;> simp only[hu]at hok ha
   all_goals first
    |(cases ha;done)
    |(cases hm;done)
    |(unfold Cell.okWide Cell.ok at hok;simp only[hu]at hok;cases v <;> first|rfl|(simp at hok;done))) hA
 have hcall:=hc xs x1 x2 (gm W) args.toList (ZO8 W) rfl x2;rw[Array.toArray_toList]at hcall;refine Calls.mono hcall ?_;rintro e W' ⟨v,J',rfl,rfl,hH,hto,hok,yM⟩;have hbv:v=.bool af:=by simpa[yJ,Dv.isAgg,Pl.isAgg,yH,aw] using yM
 subst hbv;have hb:=ZDb hto;simp only[ybg]at hW';have hlt:=hW'.lt
 have hsame:∀z∈p,W.sameAt J'.w z:=by
  intro z hz;have hz':=hlt z hz
  cases z with
  |cell b o=>exact hb.cell (p:=⟨b,o,ae⟩) hz'
  |map b=>exact hb.block b hz'
 have hfn:=hs ds zW.2;refine⟨_,rfl,Zu5 (pa:=p) (pv:=[]) hW' (λb sp hd=> ?_) (λsp h=> ?_) (λsp h=> ?_) (by simp) hb ?_⟩
 .rw[ybg,hfn,hr];exact trodAll_cons_mk (shut_bool ht _) trodAll_mk0
 .rw[ybg,hfn];exact Zl7 fn.params.toList args.toList ds p hp hA hsame h
 .rw[ybg,hfn,hv];rfl
 .intro j t r hj hjr;rw[hr]at hj hjr
  cases j with
  |zero=>
   simp at hj;subst hj;have:r=.bool af:=by simpa[Value.resultList] using hjr.symm
   subst this
   exact okWide_bool_mk ht _
  |succ j=>simp at hj
end
end Go.Ev
namespace Go.Ev
end Go.Ev
end
section
namespace Go.Ev
mutual
def Ty.Wf:(t:Ty)->t.aN->Prop
 |.int k,n=>(Lit.int k n).wf=af
 |.u8,_=>True
 |.u32,_=>True
 |.u64,_=>True
 |.bool,_=>True
 |.str,s=>s.size<=maxLen
 |.sl t,l=>List.length l<=maxLen/\∀x,List.Mem x l->Ty.Wf t x
 |.arr n t,l=>List.length l=n/\∀x,List.Mem x l->Ty.Wf t x
 |.st fs,x=>Ty.sj fs x
def Ty.sj:(fs:yL Ty)->Ty.aI fs->Prop
 |[],_=>True
 |[t],x=>Ty.Wf t x
 |t::u::r,x=>Ty.Wf t x.1/\Ty.sj (u::r) x.2
end
mutual
def nq(P:yg):Nat->yc->Ty->Bool
 |0,_,_=>ag
 |n+1,t,T=>match P.underlying t,T with
  |some (.int .u8),.u8=>af
  |some (.int .u32),.u32=>af
  |some (.int .u64),.u64=>af
  |some (.int k),.int k'=>ah (k=k')
  |some .bool,.bool=>af
  |some .string,.str=>af
  |some (.slice e),.sl T'=>P.cellsOf e==T'.size&&nq P n e T'
  |some (.array m e),.arr m' T'=>m==m'&&(P.cellsOf e==T'.size&&nq P n e T')
  |some (.struct fs),.st Ts=>eN P n fs.toList Ts
  |_,_=>ag
def eN(P:yg):Nat->yL Field->yL Ty->Bool
 |0,_,_=>ag
 |_+1,[],[]=>af
 |n+1,f::fs,T::Ts=>nq P n f.type T&&eN P n fs Ts
 |_+1,_,_=>ag
end
theorem ZQi{m:Int}(h:(Lit.int .u8 m).wf=af):∃b:yB,m=(b.toNat:Int):=by
 simp only[Lit.wf,yi,yP]at h;have h1:(0:Int)<=m:=h.1;have h2:m<=255:=h.2;refine⟨UInt8.ofNat m.toNat, ?_⟩;have:(UInt8.ofNat m.toNat).toNat=m.toNat:=by simp;omega
 rw[this];omega
theorem ZPa{m:Int}(h:(Lit.int .u32 m).wf=af):∃b:yV,m=(b.toNat:Int):=by
 simp only[Lit.wf,yi,yP]at h;have h1:(0:Int)<=m:=h.1;have h2:m<=4294967295:=h.2;refine⟨UInt32.ofNat m.toNat, ?_⟩;have:(UInt32.ofNat m.toNat).toNat=m.toNat:=by simp;omega
 rw[this];omega
theorem ZPb{m:Int}(h:(Lit.int .u64 m).wf=af):∃b:yU,m=(b.toNat:Int):=by
 simp only[Lit.wf,yi,yP]at h;have h1:(0:Int)<=m:=h.1;have h2:m<=18446744073709551615:=h.2;refine⟨yaf m.toNat, ?_⟩;have:(yaf m.toNat).toNat=m.toNat:=by simp;omega
 rw[this];omega
theorem HO{α β:Type}{f:α->β}{R:α->Prop}:∀{ys:yL β},(∀y,y∈ys->∃x,y=f x/\R x)->∃l:yL α,ys=l.map f/\∀x,List.Mem x l->R x
 |[],_=>⟨[],rfl,λx hx=>by cases hx⟩
 |y::ys,h=>by
  obtain⟨x,rfl,hx⟩:=h y (yao ..);obtain⟨l,rfl,hl⟩:=HO (λz hz=>h z (yas _ hz))
  exact⟨x::l,rfl,λz hz=>by
   cases hz with
   |head=>exact hx
   |tail _ hz=>exact hl z hz⟩
mutual
theorem oS{P:yg}:∀(m n:Nat)(t:yc)(T:Ty)(x:Pl),nq P m t T=af->dM P n t x->∃v:T.aN,T.Wf v/\x=T.enc v
 |0,_,_,_,_,h,_=>by simp[nq]at h
 |_+1,0,_,_,_,_,h=>by simp[dM]at h
 |m+1,n+1,t,T,x,h,hw=>by
  unfold nq at h;split at h
  .rename_i hu;unfold dM at hw;rw[hu]at hw;cases x <;> try exact hw.elim
   obtain⟨rfl,h2⟩:=hw;obtain⟨b,rfl⟩:=ZQi h2;exact⟨b,zP,rfl⟩
  .rename_i hu;unfold dM at hw;rw[hu]at hw;cases x <;> try exact hw.elim
   obtain⟨rfl,h2⟩:=hw;obtain⟨b,rfl⟩:=ZPa h2;exact⟨b,zP,rfl⟩
  .rename_i hu;unfold dM at hw;rw[hu]at hw;cases x <;> try exact hw.elim
   obtain⟨rfl,h2⟩:=hw;obtain⟨b,rfl⟩:=ZPb h2;exact⟨b,zP,rfl⟩
  .rename_i k k' hu;have h:=yF h;subst h;unfold dM at hw;rw[hu]at hw;cases x <;> try exact hw.elim
   obtain⟨rfl,h2⟩:=hw;exact⟨_,h2,rfl⟩
  .rename_i hu;unfold dM at hw;rw[hu]at hw;cases x <;> try exact hw.elim
   exact⟨_,zP,rfl⟩
  .rename_i hu;unfold dM at hw;rw[hu]at hw;cases x <;> try exact hw.elim
   exact⟨_,hw,rfl⟩
  .rename_i e T' hu;simp only[yi,yT]at h;unfold dM at hw;rw[hu]at hw;cases x <;> try exact hw.elim
   obtain⟨rfl,rfl,h3,h4⟩:=hw
   obtain⟨l,rfl,h5⟩:=HO λy hy=>(by
    obtain⟨v,a,b⟩:=oS m n e T' y h.2 (h4 y hy);exact⟨v,b,a⟩:∃v:T'.aN,y=T'.enc v/\T'.Wf v)
   refine⟨l,⟨by simpa using h3,h5⟩, ?_⟩;rw[h.1];rfl
  .rename_i m0 e m' T' hu;simp only[yi,yT]at h;obtain⟨rfl,h⟩:=h;unfold dM at hw;rw[hu]at hw;cases x <;> try exact hw.elim
   obtain⟨rfl,rfl,h3,h4⟩:=hw
   obtain⟨l,rfl,h5⟩:=HO λy hy=>(by
    obtain⟨v,a,b⟩:=oS m n e T' y h.2 (h4 y hy);exact⟨v,b,a⟩:∃v:T'.aN,y=T'.enc v/\T'.Wf v)
   refine⟨l,⟨by simpa using h3,h5⟩, ?_⟩;rw[h.1];rfl
  .rename_i fs Ts hu;unfold dM at hw;rw[hu]at hw;cases x <;> try exact hw.elim
   rename_i xs;obtain⟨v,h1,rfl⟩:=jk m n fs.toList Ts xs h hw;exact⟨v,h1,rfl⟩
  .cases h
theorem jk{P:yg}:∀(m n:Nat)(fs:yL Field)(Ts:yL Ty)(xs:yL Pl),eN P m fs Ts=af->vD (dM P n) fs xs->∃v:Ty.aI Ts,Ty.sj Ts v/\xs=Ty.encs Ts v
 |0,_,_,_,_,h,_=>by simp[eN]at h
 |m+1,n,[],[],[],h,hw=>⟨(),zP,rfl⟩
 |m+1,n,[],[],_::_,h,hw=>hw.elim
 |m+1,n,[],_::_,_,h,hw=>by cases h
 |m+1,n,_::_,[],_,h,hw=>by cases h
 |m+1,n,_::_,_::_,[],h,hw=>hw.elim
 |m+1,n,f::fs,[T],x::xs,h,hw=>by
  simp only[eN,yi]at h;obtain⟨v,h1,rfl⟩:=oS m n f.type T x h.1 hw.1
  cases fs with
  |nil=>cases xs with
   |nil=>exact⟨v,h1,rfl⟩
   |cons _ _=>exact hw.2.elim
  |cons _ _=>
   cases m with
   |zero=>exact absurd h.2 (by simp[eN])
   |succ m=>exact absurd h.2 (by simp[eN])
 |m+1,n,f::fs,T::U::Ts,x::xs,h,hw=>by
  simp only[eN,yi]at h;obtain⟨v,h1,rfl⟩:=oS m n f.type T x h.1 hw.1;obtain⟨w,h2,rfl⟩:=jk m n fs (U::Ts) xs h.2 hw.2;exact⟨(v,w),⟨h1,h2⟩,rfl⟩
end
theorem ZyN{I X:Type}{step:I->yO (I⊕X)}(Inv:I->Prop)(mu:I->Nat)(Post:X->Prop)
 (h:∀i,Inv i->(∃j,step i=ab (.inl j)/\Inv j/\mu j < mu i)\/(∃x,step i=ab (.inr x)/\Post x)):∀(n:Nat)(i:I),Inv i->mu i < n->∃x,Zc step n i=ab x/\Post x
 |0,i,_,hn=>by omega
 |n+1,i,hi,hn=>by
  unfold Zc;rcases h i hi with⟨j,h1,h2,h3⟩|⟨x,h1,h2⟩
  .rw[h1,ya];exact ZyN Inv mu Post h n j h2 (by omega)
  .rw[h1,ya];exact⟨x,rfl,h2⟩
theorem Wc{I X:Type}{step:I->yO (I⊕X)}(Inv:I->Prop)(mu:I->Nat)(Post:X->Prop)
 (h:∀i,Inv i->(∃j,step i=ab (.inl j)/\Inv j/\mu j < mu i)\/(∃x,step i=ab (.inr x)/\Post x)) (i:I) (hi:Inv i) (hm:mu i < 18446744073709551616):∃x,Zc step yD i=ab x/\Post x:=by
 refine ZyN Inv mu Post h yD i hi ?_;rw[nh];exact hm
theorem Yb{z:Int}(h1: -9223372036854775808<=z)(h2:z<=9223372036854775807):wi z=z:=by
 simp only[wi,IntKind.wrap,IntKind.signed,IntKind.bits];simp;omega
theorem oT{α:Type}{l:yL α}{i:Int}{y:α}(h0:0<=i)(h:l[i.toNat]? =ab y):idx l i=ab y:=by
 unfold idx;rw[yW h0,h]
theorem gO{α:Type}{l:yL α}{i:Nat}(h:i < l.length):∃y,l[i]? =ab y:=⟨_,yac h⟩
theorem ZQ{i:Int}{n:Nat}(h1:0<=i)(h2:i < (n:Int)):ba i n=af:=by simp[ba,h1,h2]
theorem X2{n m b:Nat}(h1:(n+m)*b<=140737488355328)(h2:n+m<=9223372036854775807):cO n m b=af:=by
 unfold cO;rw[yi];exact⟨yY h1,yY h2⟩
def sk:(ts:yL Ty)->Ty.aI ts->yL TD
 |[],_=>[]
 |[t],x=>[.p (.v t x)]
 |t::u::r,x=>.p (.v t x.1)::sk (u::r) x.2
theorem ZGT:∀(ts:yL Ty)(x:Ty.aI ts),Sh.fills (ts.map .v) (dT ts x)=ab (sk ts x,[])
 |[],_=>rfl
 |[t],x=>by
  rw[show dT [t] x=[⟨t,x⟩] from rfl,yad,List.map_nil,Sh.fills,Sh.fill]
  have e:=Yo t x;dsimp only;rw[e]
  rfl
 |t::u::r,x=>by
  have h:=ZGT (u::r) x.2;have e:=Yo t x.1;rw[show dT (t::u::r) x=⟨t,x.1⟩::dT (u::r) x.2 from rfl,yad,Sh.fills,Sh.fill]
  dsimp only;rw[e,yab,ya,h];rfl
theorem ZKC{L:Lk}:∀(ts:yL Ty)(x:Ty.aI ts),TD.ay L (sk ts x)=(Ty.encs ts x).map .p
 |[],_=>rfl
 |[t],x=>rfl
 |t::u::r,x=>by
  rw[show sk (t::u::r) x=.p (.v t x.1)::sk (u::r) x.2 from rfl,Zz,yad, <-Zz,ZKC (u::r) x.2]
  rfl
theorem ZM1{P:yg}{g:yu}{ts:yL Ty}{M:Ty.aI ts->yO Bool}(hok:Fs.Ok (⟨g,ts.map .v,[],ts,[⟨.ret,[(0,.v .bool)],[],[.bool]⟩],M⟩:Fs P)){x:Ty.aI ts}(h:M x=ab af):
 cR P g ((Ty.encs ts x).map .p) [] (.p (.bool af)) []:=by
 obtain⟨args,R,H,h1,h2,h3⟩:=hok x af h;have e:=(ZGT ts x).symm.trans (show Sh.fills (ts.map .v) (dT ts x)=ab (args,R) from h1)
 cases e;cases h2
 obtain⟨r,h4,h5⟩:=h3 _ [⟨.bool,af⟩] ([.p (.v .bool af)],[]) ⟨rfl,rfl⟩ (by
  simp only[VK,oA];rfl)
 cases h4;rw[<-ZKC (L:=lk [])];exact h5
theorem vF{P:yg}{s:Fs P}(h:s.Ok){M:Ty.aI s.ins->yO (bS.sum s.xs)}(e:∀x,M x=s.M x):Fs.Ok (P:=P) { s with M:=M}:=by
 have:M=s.M:=funext e;subst this;exact h
def sn(P:yg)(m:Nat):yL yc->yL Ty->Bool
 |[],[]=>af
 |t::ts,T::Ts=>nq P m t T&&sn P m ts Ts
 |_,_=>ag
theorem ZGU{P:yg}{m n:Nat}:∀{ts:yL yc}{Ts:yL Ty}{xs:yL Pl},sn P m ts Ts=af->vE P n ts xs->∃v:Ty.aI Ts,Ty.sj Ts v/\xs=Ty.encs Ts v
 |[],[],[],_,_=>⟨(),zP,rfl⟩
 |[],[],_::_,_,h=>h.elim
 |[],_::_,_,h,_=>by cases h
 |_::_,[],_,h,_=>by cases h
 |_::_,_::_,[],_,h=>h.elim
 |t::ts,[T],x::xs,h,hw=>by
  simp only[sn,yi]at h;obtain⟨v,h1,rfl⟩:=oS m n t T x h.1 hw.1
  cases ts with
  |nil=>cases xs with
   |nil=>exact⟨v,h1,rfl⟩
   |cons _ _=>exact hw.2.elim
  |cons _ _=>exact absurd h.2 (by simp[sn])
 |t::ts,T::U::Ts,x::xs,h,hw=>by
  simp only[sn,yi]at h;obtain⟨v,h1,rfl⟩:=oS m n t T x h.1 hw.1;obtain⟨w,h2,rfl⟩:=ZGU (Ts:=U::Ts) h.2 hw.2;exact⟨(v,w),⟨h1,h2⟩,rfl⟩
theorem HP{P:yg}{g:yu}{t:Ty}{xs:yL bS}{MA M:Ty.aI [.sl t]->yO (bS.sum xs)}(hA:Fs.Ok (⟨g,[.sl af t],[],[.sl t],xs,MA⟩:Fs P))
 (h1:M ([]:yL t.aN)=ae) (h2:∀(x:t.aN)(l:yL t.aN),M (x::l)=MA (x::l)):Fs.Ok (⟨g,[.v (.sl t)],[],[.sl t],xs,M⟩:Fs P):=by
 intro l o hM;have key:∀(l:yL t.aN),Ty.cast (.sl t) (.sl t) l=ab l:=λl=>Yo (.sl t) l
 have h3:∀l:yL t.aN,M l=ab o->MA l=ab o/\l≠[]:=λl hl=>by
  cases l with
  |nil=>rw[h1]at hl;cases hl
  |cons x l=>exact⟨by rw[<-h2];exact hl,by simp⟩
 obtain⟨hMA,hne⟩:=h3 l hM;obtain⟨a1,R1,H1,f1,f2,f3⟩:=hA l o hMA
 have e1:a1=[.p (.sl (ab af) t l)]/\R1=[]:=by
  have:Sh.fills [.sl af t] [(⟨.sl t,l⟩:TV)]=ab (a1,R1):=f1;simp only[Sh.fills,Sh.fill]at this;rw[key l]at this;have this:ab (([.p (.sl (ab af) t l)]:yL TD),([]:yL TV))=ab (a1,R1):=this;cases this;exact⟨rfl,rfl⟩
 obtain⟨rfl,rfl⟩:=e1;cases f2;refine⟨[.p (.v (.sl t) l)],[],[], ?_,rfl,λe vs s' hs hf=> ?_⟩
 .show Sh.fills [.v (.sl t)] [(⟨.sl t,l⟩:TV)]=_;simp only[Sh.fills,Sh.fill];rw[key l];rfl
 .obtain⟨r,r1,r2⟩:=f3 e vs s' hs hf;exact⟨r,r1,UD (xs:=List.map t.enc l) r2 λhl=>absurd (List.map_eq_nil_iff.1 hl) hne⟩
theorem HQ{P:yg}{g:yu}{ps:yL Sh}{es:yL bi}{ins:yL Ty}{xr xp:bS}{MR:Ty.aI ins->yO (bS.sum [xr])}{MP:Ty.aI ins->yO (bS.sum [xp])}(c:Ty.aI ins->Bool)
 (hR:Fs.Ok (⟨g,ps,es,ins,[xr],MR⟩:Fs P)) (hP:Fs.Ok (⟨g,ps,es,ins,[xp],MP⟩:Fs P)):Fs.Ok (⟨g,ps,es,ins,[xr,xp],λx=>if c x=af then(MP x).map .inr else(MR x).map .inl⟩:Fs P):=by
 intro x o hM
 replace hM:(if c x=af then(MP x).map Sum.inr else(MR x).map Sum.inl)=ab o:=hM
 split at hM
 .obtain⟨y,h1,rfl⟩:=yp.1 hM;obtain⟨a,R,H,f1,f2,f3⟩:=hP x y h1;exact⟨a,R,H,f1,f2,λe vs s' hs hf=>f3 e vs s' hs hf⟩
 .obtain⟨y,h1,rfl⟩:=yp.1 hM;obtain⟨a,R,H,f1,f2,f3⟩:=hR x y h1;exact⟨a,R,H,f1,f2,λe vs s' hs hf=>f3 e vs s' hs hf⟩
end Go.Ev
end
section
namespace Go.Proofs.YtekdgjajmennjaaGreat
open Go.Ev Go.RowKit Go.Lib
abbrev zN(t:Ty):List bS:=[⟨.ret,[(0,.v t)],[],[t]⟩]
theorem ZFn(w:yz):Calls yb 249 #[.slice ae 0 0,.int .i64 0] w λe w'=>e=.returned (.slice ae 0 0)/\w'=w:=by
 go_enter Tryz.func249,Tryz.ntmps249
 go_wp2
 go_ret
 exact⟨rfl,rfl⟩
theorem ZIl(n:Nat)(w:yz)(h0:0 < n)(hn:n<=Zr):Calls yb 249 #[.slice ae 0 0,.int .i64 n] w λe w'=>e=.returned (.slice (ab ⟨w.heap.size,0,ae⟩) 0 (grownCap w n 0 5))/\
 w'=w.drew.alloc (.cells (Builtin.zeroCells #[.int .u8 0] n++Builtin.zeroCells #[.int .u8 0] (grownCap w n 0 5 - n)) 5):=by
 have hb:n<=140737488355328:=hn;have h1:¬((n:Int) < 0):=by omega
 have h3:wrap64 ((n:Int) - ((0:Int) - (0:Int)))=(n:Int):=by unfold wrap64;omega
 have h3':wrap64 ((n:Int) - 0)=(n:Int):=by unfold wrap64;omega
 have h3'':wrap64 (n:Int)=(n:Int):=by unfold wrap64;omega
 have h4:(n:Int) > 0:=by omega
 have hi:∃i,yb.info? 5=ab i/\i.zero=ab (.int .u8 0)/\i.size=1/\i.bytes=1:=by
  have h:(yb.info? 5).map (λi=>(i.zero,i.size,i.bytes))=ab (ab (.int .u8 0),1,1):=by kernel_rfl
  obtain⟨i,h1,h2⟩:=yp.1 h;simp only[yl]at h2;exact⟨i,h1,h2.1,h2.2.1,h2.2.2⟩
 obtain⟨i,wc,nv,hi3,hi4⟩:=hi
 have hrz:∀ty,(Builtin.append_ #[41,3] ty #[.slice ae 0 0,.int .i64 n]).run yb w=
  .ok (.slice (ab ⟨w.heap.size,0,ae⟩) n (grownCap w n 0 5)) (w.drew.alloc (.cells (Builtin.zeroCells #[.int .u8 0] n++Builtin.zeroCells #[.int .u8 0] (grownCap w n 0 5 - n)) 5)):=λty=>by
  have h:=Lib.run_append_grow_zeros (P:=yb) w 41 3 ty 5 i (.int .u8 0) .i64 .i64 Tryz.underlying41 Tryz.underlying3 wc nv ae 0 0 [] (by rw[hi3];simp[Builtin.firstCells]) n h0 (by omega) (by omega) (by omega)
   (by rw[hi4];omega) (by rw[yaz];exact growslice_fits h0 (by rw[hi4];omega))
  simpa[Value.cells] using h
 obtain⟨G,hG⟩:∃G,G=grownCap w n 0 5:=⟨_,rfl⟩;have hGn:=grownCap_ge w n 0 5;have hG63:=grownCap_le_maxLen w n 0 5 (by unfold maxLen;omega);unfold maxLen at hG63;rw[<-hG]at hrz hGn hG63 ⊢;clear hG
 go_enter Tryz.func249,Tryz.ntmps249
 go_wp2_with (at_builtin;refine Lib.wpList_append_run _ rfl _ _ _ _ rfl _ _ rfl rfl _ _ (hrz _) ?_)
 all_goals (go_ret;exact⟨rfl,rfl⟩)
theorem ZKE(n:Nat)(hn:n<=Zr):cR yb 249 [.p (.sl (ab ag) 1 []),.p (.int .i64 (n:Int))] [] (.own 0 ae 1 []) [.log 1 5 []]:=by
 intro J vs ok hH hvs;simp only[aE]at hvs;obtain⟨v,_,rfl,hv,v2,_,rfl,hv2,rfl⟩:=hvs;obtain rfl:=lb hv
 obtain rfl:v2=.int .i64 n:=by
  have:=hv2.2 rfl;simpa[yH,aw] using this
 have hm:J.m=[]:=ybf (by rw[ok.len,hH];rfl);rcases Nat.eq_zero_or_pos n with rfl|h0
 .refine(ZFn J.w).mono λe w'⟨he,hw⟩=> ?_;subst he;subst hw;obtain⟨to,ok'⟩:=Wj (J':={ J with m:=J.m++[ae],H:=J.H++[.log 1 5 []]}) ok rfl rfl rfl rfl (World.grownBy.refl J.w ae) (.inl rfl) (λ_=>.inl ⟨rfl,rfl⟩);refine⟨_,{ J with m:=J.m++[ae],H:=J.H++[.log 1 5 []]},rfl,rfl,by simp[hH],to,ok', ?_⟩;rw[Ze rfl];simp only[yH];exact⟨λ_ hx=>(by cases hx),ae,0,rfl,ym _,by simp[maxLen],Z7 _,λ_=>rfl,λh=>absurd rfl h,5,[],by simp[hH],ym _,λ_=>.inl ⟨by simp[hm],rfl,rfl⟩⟩
 .refine(ZIl n J.w h0 hn).mono λe w'⟨he,hw⟩=> ?_;subst he;subst hw;have hge:=grownCap_ge J.w n 0 5;have hcm:=grownCap_le_maxLen J.w n 0 5 (by have:n<=140737488355328:=hn;unfold maxLen;omega)
  have hsz:(Builtin.zeroCells #[.int .u8 0] n++Builtin.zeroCells #[.int .u8 0] (grownCap J.w n 0 5 - n):Array yh).size=grownCap J.w n 0 5*1:=by
   simp only[Array.size_append,size_zeroCells];simp;omega
  let cs:Array yh:=Builtin.zeroCells #[.int .u8 0] n++Builtin.zeroCells #[.int .u8 0] (grownCap J.w n 0 5 - n);let J':Sg:={ J with m:=J.m++[ab J.w.heap.size],H:=J.H++[.log 1 5 []],w:=J.w.drew.alloc (.cells cs 5)};have zV:J'.w.heap[J.w.heap.size]? =ab (.cells cs 5 (0,0)):=heap_alloc_new J.w.drew _
  obtain⟨to,ok'⟩:=Wj (J':=J') ok rfl rfl rfl rfl (YU J.w (.cells cs 5) ae) (.inr ⟨_,rfl,ym _,by simp[J']⟩)
   (λleaf=>.inr ⟨J.w.heap.size,_,grownCap J.w n 0 5,rfl,zV,hsz,Nat.zero_le _,hcm,λ_ hx=>(by cases hx),by simp[an]⟩)
  refine⟨_,J',rfl,rfl,by simp[J',hH],to,ok', ?_⟩;rw[Ze rfl];simp only[yH];exact⟨λ_ hx=>(by cases hx),_,_,rfl,Nat.zero_le _,hcm,Z7 _,λh=>(by cases h),λh=>absurd rfl h,5,[],by simp[J',hH],ym _,λ_=>.inr ⟨_,_,by simp[J',hm],rfl,zV,hsz⟩⟩
end Go.Proofs.YtekdgjajmennjaaGreat
end
section
set_option maxRecDepth 4000
namespace Go.Proofs.YtekdgjajmennjaaGreat
open Go Go.Ev
noncomputable section
abbrev yI:Ty:=.int .i64
def Wn(F:Nat)(a0:yU):yO (Bool):=
 ab (ah (a0 < 2305843009213688669))
def Zu7(F:Nat):Fs yb:=⟨61,[.v .u64],[],[.u64],(zN .bool),λx=>Wn F x⟩
def QB:Fs yb:=Zu7 yD
theorem vG:QB.Ok:=aR { still:=[2]} [] [] trivial
def Xs(F:Nat)(a0:Int)(a1:Int)(a2:Int):yO (Bool):=
 if(ah (a1<=a0))=af then
  ab (ah (a0<=a2))
 else
 ab ag
def Zqv(F:Nat):Fs yb:=⟨200,[.v yI,.v yI,.v yI],[],[yI,yI,yI],(zN .bool),λx=>Xs F x.1 x.2.1 x.2.2⟩
def ZiQ:Fs yb:=Zqv yD
theorem Zqw:ZiQ.Ok:=aR { still:=[6]} [] [] trivial
abbrev iF:Ty:=(.st [yI,yI,yI,yI,yI,yI])
abbrev bu:Type:=(Int×Int×Int×Int×Int×Int)
def vH(F:Nat)(a0:bu):yO (Bool):=
 (Xs F a0.1 0 65536).bind λo1=>
 if o1=af then
  (Xs F a0.2.2.1 1 4096).bind λo2=>
  if o2=af then
   (Xs F a0.2.2.2.1 0 16).bind λo3=>
   if o3=af then
    (Xs F a0.2.1 a0.1 1125899906842624).bind λo4=>
    if o4=af then
     (Xs F a0.2.2.2.2.1 1 1125899906842624).bind λo5=>
     if o5=af then
      (Xs F a0.2.2.2.2.2 0 1125899906842624).bind λo6=>
      ab o6
     else
     ab ag
    else
    ab ag
   else
   ab ag
  else
  ab ag
 else
 ab ag
def Zu8(F:Nat):Fs yb:=⟨131,[.v iF],[],[iF],(zN .bool),λx=>vH F x⟩
def Zl8:Fs yb:=Zu8 yD
def vI:HI:={ still:=[2,7,12,18,25,27,33,39]}
theorem Zu9:Zl8.Ok:=aR vI [] [ZiQ] ⟨Zqw,au⟩
def lJ:ByteArray:=⟨#[0,1,2,2,3,3,3,3,4,4,4,4,4,4,4,4,5,5,5,5,5,5,5,5,5,5,5,5,5,5,5,5,6,6,6,6,6,6,6,6,6,6,6,6,6,6,6,6,6,6,6,6,6,6,6,6,6,6,6,6,6,6,6,6,7,7,7,7,7,7,7,7,7,7,7,7,7,7,7,7,7,7,7,7,7,7,7,7,7,7,7,7,7,7,7,7,7,7,7,7,7,7,7,7,7,7,7,7,7,7,7,7,7,7,7,7,7,7,7,7,7,7,7,7,7,7,7,7,8,8,8,8,8,8,8,8,8,8,8,8,8,8,8,8,8,8,8,8,8,8,8,8,8,8,8,8,8,8,8,8,8,8,8,8,8,8,8,8,8,8,8,8,8,8,8,8,8,8,8,8,8,8,8,8,8,8,8,8,8,8,8,8,8,8,8,8,8,8,8,8,8,8,8,8,8,8,8,8,8,8,8,8,8,8,8,8,8,8,8,8,8,8,8,8,8,8,8,8,8,8,8,8,8,8,8,8,8,8,8,8,8,8,8,8,8,8,8,8,8,8,8,8,8,8,8,8]⟩
def ZrQ(F:Nat)(a0:yU):yO (Int):=
 if(ah (a0 >= 4294967296))=af then
  if(ah ((ZG a0 32) >= 65536))=af then
   if(ah ((ZG (ZG a0 32) 16) >= 256))=af then
    let y7:yB:=w8 ((ZG (ZG (ZG a0 32) 16) 8).toNat:Int)
    (idx (fm lJ) (y7.toNat:Int)).bind λe8=>
    ab (wi (56+(e8.toNat:Int)))
   else
   (idx (fm lJ) ((w8 ((ZG (ZG a0 32) 16).toNat:Int)).toNat:Int)).bind λe9=>
   ab (wi (48+(e9.toNat:Int)))
  else
  if(ah ((ZG a0 32) >= 256))=af then
   (idx (fm lJ) ((w8 ((ZG (ZG a0 32) 8).toNat:Int)).toNat:Int)).bind λa=>
   ab (wi (40+(a.toNat:Int)))
  else
  (idx (fm lJ) ((w8 ((ZG a0 32).toNat:Int)).toNat:Int)).bind λb=>
  ab (wi (32+(b.toNat:Int)))
 else
 if(ah (a0 >= 65536))=af then
  if(ah ((ZG a0 16) >= 256))=af then
   (idx (fm lJ) ((w8 ((ZG (ZG a0 16) 8).toNat:Int)).toNat:Int)).bind λc=>
   ab (wi (24+(c.toNat:Int)))
  else
  (idx (fm lJ) ((w8 ((ZG a0 16).toNat:Int)).toNat:Int)).bind λd=>
  ab (wi (16+(d.toNat:Int)))
 else
 if(ah (a0 >= 256))=af then
  (idx (fm lJ) ((w8 ((ZG a0 8).toNat:Int)).toNat:Int)).bind λe=>
  ab (wi (8+(e.toNat:Int)))
 else
 (idx (fm lJ) ((w8 (a0.toNat:Int)).toNat:Int)).bind λf=>
 ab (wi (0+(f.toNat:Int)))
def Zw1(F:Nat):Fs yb:=⟨258,[.v .u64],[],[.u64],(zN yI),λx=>ZrQ F x⟩
def ZoT:Fs yb:=Zw1 yD
theorem Zw2:ZoT.Ok:=aR { still:=[2]} [] [] trivial
def Yt(F:Nat)(a0:yU):yO (Int):=
 (ZrQ F a0).bind λa=>
 ab (wi (64 - a))
def Zid(F:Nat):Fs yb:=⟨253,[.v .u64],[],[.u64],(zN yI),λx=>Yt F x⟩
def Zbk:Fs yb:=Zid yD
theorem Zie:Zbk.Ok:=aR { still:=[2,3]} [] [ZoT] ⟨Zw2,au⟩
abbrev qZ:=yU×yU×yU×yU×yU×yU×yU×yU
def VL(F:Nat)(s:(yU×qZ)):yO ((yU×qZ)⊕(qZ)):=
 if(ah (s.2.2.2.2.2.2.2.1 >= 4294967296))=af then
  let a:Bool:=ah ((s.2.2.2.2.2.2.2.2+s.2.2.1) >= 4294967296)
  if a=af then
   ab (.inr (s.1,s.2.1,s.2.2.1,s.2.2.2.1,s.2.2.2.2.1,s.2.2.2.2.2.1,s.2.2.2.2.2.2.1,s.2.2.2.2.2.2.2.1 - 1))
  else
  ab (.inl (s.1,s.2.1,s.2.2.1,s.2.2.2.1,s.2.2.2.2.1,s.2.2.2.2.2.1,s.2.2.2.2.2.2.1,s.2.2.2.2.2.2.2.1 - 1,s.2.2.2.2.2.2.2.2+s.2.2.1))
 else
 let b:Bool:=ah ((s.2.2.2.2.2.2.2.1*s.2.2.2.1) > ((4294967296*s.2.2.2.2.2.2.2.2)+s.2.2.2.2.2.1))
 if b=af then
  let c:Bool:=ah ((s.2.2.2.2.2.2.2.2+s.2.2.1) >= 4294967296)
  if c=af then
   ab (.inr (s.1,s.2.1,s.2.2.1,s.2.2.2.1,s.2.2.2.2.1,s.2.2.2.2.2.1,s.2.2.2.2.2.2.1,s.2.2.2.2.2.2.2.1 - 1))
  else
  ab (.inl (s.1,s.2.1,s.2.2.1,s.2.2.2.1,s.2.2.2.2.1,s.2.2.2.2.2.1,s.2.2.2.2.2.2.1,s.2.2.2.2.2.2.2.1 - 1,s.2.2.2.2.2.2.2.2+s.2.2.1))
 else
 ab (.inr (s.1,s.2.1,s.2.2.1,s.2.2.2.1,s.2.2.2.2.1,s.2.2.2.2.2.1,s.2.2.2.2.2.2.1,s.2.2.2.2.2.2.2.1))
def Zl9:Lp:=⟨[(2,.v .u64),(8,.v .u64),(9,.v .u64),(10,.v .u64),(11,.v .u64),(13,.v .u64),(14,.v .u64),(15,.v .u64),(16,.v .u64)],[],[.u64,.u64,.u64,.u64,.u64,.u64,.u64,.u64,.u64],[⟨.exit 0,[(2,.v .u64),(8,.v .u64),(9,.v .u64),(10,.v .u64),(11,.v .u64),(13,.v .u64),(14,.v .u64),(15,.v .u64)],[],[.u64,.u64,.u64,.u64,.u64,.u64,.u64,.u64]⟩],Zc (VL yD) yD⟩
theorem Zqx:Zl9.bA yb 233 0:=Zv { still:=[6,7,34]} [] [] trivial
def VM(F:Nat)(s:(yU×qZ)):yO ((yU×qZ)⊕(yU×yU×yU×yU×yU×yU)):=
 if(ah (s.2.2.2.2.2.2.2.2 >= 4294967296))=af then
  let a:Bool:=ah ((s.2.2.2.2.2.2.1+s.2.2.1) >= 4294967296)
  if a=af then
   ab (.inr (s.1,s.2.1,s.2.2.2.2.1,s.2.2.2.2.2.1,s.2.2.2.2.2.2.2.1,s.2.2.2.2.2.2.2.2 - 1))
  else
  ab (.inl (s.1,s.2.1,s.2.2.1,s.2.2.2.1,s.2.2.2.2.1,s.2.2.2.2.2.1,s.2.2.2.2.2.2.1+s.2.2.1,s.2.2.2.2.2.2.2.1,s.2.2.2.2.2.2.2.2 - 1))
 else
 let b:Bool:=ah ((s.2.2.2.2.2.2.2.2*s.2.2.2.1) > ((4294967296*s.2.2.2.2.2.2.1)+s.2.2.2.2.1))
 if b=af then
  let c:Bool:=ah ((s.2.2.2.2.2.2.1+s.2.2.1) >= 4294967296)
  if c=af then
   ab (.inr (s.1,s.2.1,s.2.2.2.2.1,s.2.2.2.2.2.1,s.2.2.2.2.2.2.2.1,s.2.2.2.2.2.2.2.2 - 1))
  else
  ab (.inl (s.1,s.2.1,s.2.2.1,s.2.2.2.1,s.2.2.2.2.1,s.2.2.2.2.2.1,s.2.2.2.2.2.2.1+s.2.2.1,s.2.2.2.2.2.2.2.1,s.2.2.2.2.2.2.2.2 - 1))
 else
 ab (.inr (s.1,s.2.1,s.2.2.2.2.1,s.2.2.2.2.2.1,s.2.2.2.2.2.2.2.1,s.2.2.2.2.2.2.2.2))
def Zma:Lp:=⟨[(2,.v .u64),(8,.v .u64),(9,.v .u64),(10,.v .u64),(14,.v .u64),(15,.v .u64),(16,.v .u64),(17,.v .u64),(18,.v .u64)],[],[.u64,.u64,.u64,.u64,.u64,.u64,.u64,.u64,.u64],[⟨.exit 2,[(2,.v .u64),(8,.v .u64),(14,.v .u64),(15,.v .u64),(17,.v .u64),(18,.v .u64)],[],[.u64,.u64,.u64,.u64,.u64,.u64]⟩],Zc (VM yD) yD⟩
theorem Zqy:Zma.bA yb 233 1:=Zv { still:=[6,7,34]} [] [] trivial
def vJ(F:Nat)(a0:yU)(a1:yU)(a2:yU):yO ((yU×yU)):=
 if(a2==0)=af then
  ae
 else
 if(ah (a2<=a0))=af then
  ae
 else
 if(a0==0)=af then
  if(a2 !=0)=af then
   if(a2 !=0)=af then
    ab (a1 / a2,a1 % a2)
   else
   ae
  else
  ae
 else
 (Yt F a2).bind λa=>
 let b:yU:=ZG (Vv a2 (min ((eK a).toNat:Int).toNat 64)) 32;let c:yU:=(Vv a2 (min ((eK a).toNat:Int).toNat 64))&&&4294967295;let d:yU:=ZG a1 (min ((64 - (eK a)).toNat:Int).toNat 64);let e:yU:=(Vv a0 (min ((eK a).toNat:Int).toNat 64))|||d;let f:yU:=ZG (Vv a1 (min ((eK a).toNat:Int).toNat 64)) 32;let g:yU:=(Vv a1 (min ((eK a).toNat:Int).toNat 64))&&&4294967295
 if(b !=0)=af then
  (Zc (VL F) F (Vv a2 (min ((eK a).toNat:Int).toNat 64),eK a,b,c,e,f,g,e / b,e - ((e / b)*b))).bind λh=>
  let i:yU:=((h.2.2.2.2.1*4294967296)+h.2.2.2.2.2.1) - (h.2.2.2.2.2.2.2*h.1)
  if(h.2.2.1 !=0)=af then
   (Zc (VM F) F (h.1,h.2.1,h.2.2.1,h.2.2.2.1,h.2.2.2.2.2.2.1,h.2.2.2.2.2.2.2,i - ((i / h.2.2.1)*h.2.2.1),i,i / h.2.2.1)).bind λj=>
   let k:yU:=((j.2.2.2.2.1*4294967296)+j.2.2.1) - (j.2.2.2.2.2*j.1)
   ab ((j.2.2.2.1*4294967296)+j.2.2.2.2.2,ZG k (min (j.2.1.toNat:Int).toNat 64))
  else
  ae
 else
 ae
def Zw3(F:Nat):Fs yb:=⟨233,[.v .u64,.v .u64,.v .u64],[],[.u64,.u64,.u64],[⟨.ret,[(0,.bj [.v .u64,.v .u64])],[],[.u64,.u64]⟩],λx=>vJ F x.1 x.2.1 x.2.2⟩
def ZoU:Fs yb:=Zw3 yD
theorem Zw4:ZoU.Ok:=aR { still:=[6,7,34]} [(0,Zl9),(1,Zma)] [Zbk] ⟨Zie,au⟩ ⟨Zqx,Zqy,au⟩
def so(F:Nat)(a0:yU)(a1:yU)(a2:yU):yO (yU):=
 if(a2 !=0)=af then
  (vJ F (a0 % a2) a1 a2).bind λa=>
  ab a.2
 else
 ae
def HR(F:Nat):Fs yb:=⟨185,[.v .u64,.v .u64,.v .u64],[],[.u64,.u64,.u64],(zN .u64),λx=>so F x.1 x.2.1 x.2.2⟩
def Zw5:Fs yb:=HR yD
theorem Zva:Zw5.Ok:=aR { still:=[6,12,13,14]} [] [ZoU] ⟨Zw4,au⟩
end
end Go.Proofs.YtekdgjajmennjaaGreat
end
section
namespace Go.Ev
theorem vK(a m:yU):(a - a / m*m).toNat=a.toNat % m.toNat:=by
 have h1:a.toNat / m.toNat*m.toNat<=a.toNat:=Nat.div_mul_le_self _ _;have h2:=UInt64.toNat_lt a
 have h3:(a / m*m).toNat=a.toNat / m.toNat*m.toNat:=by
  rw[UInt64.toNat_mul,UInt64.toNat_div,yap (by omega)]
 have h4:(a / m*m)<=a:=by rw[UInt64.le_iff_toNat_le,h3];exact h1
 rw[UInt64.toNat_sub_of_le _ _ h4,h3];have:=Nat.div_add_mod a.toNat m.toNat
 rw[Nat.mul_comm]at this;omega
theorem jl(x:yU):(x&&&4294967295).toNat=x.toNat % 4294967296:=by
 rw[UInt64.toNat_and];exact Nat.and_two_pow_sub_one_eq_mod x.toNat 32
theorem Qu(x:yU)(n:Nat):(ZG x n).toNat=x.toNat / 2 ^ n:=by
 unfold ZG;rw[UInt64.toNat_ofNat',yap (Nat.lt_of_le_of_lt (Nat.div_le_self ..) (UInt64.toNat_lt _))]
theorem oU{x y:yU}(h:x.toNat+y.toNat < 18446744073709551616):(x+y).toNat=x.toNat+y.toNat:=by
 rw[UInt64.toNat_add,yap h]
theorem oV{x y:yU}(h:x.toNat*y.toNat < 18446744073709551616):(x*y).toNat=x.toNat*y.toNat:=by
 rw[UInt64.toNat_mul,yap h]
theorem sq{a b:Nat}(ha:a < 4294967296)(hb:b < 4294967296):a*b<=18446744065119617025:=Nat.mul_le_mul (Nat.le_of_lt_succ ha) (Nat.le_of_lt_succ hb)
end Go.Ev
end
