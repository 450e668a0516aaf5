/- Parts of the proof, in one file. -/
import Derived.Test.YtekdgjajmennjaaGreatKd
open Array renaming getD_eq_getD_getElem? → ycv
open Bool renaming and_eq_true → yi, false_eq_true → ybv, or_eq_true → ybz
open Go renaming TypeId → yb, Program → yg, Value → yh, Operand → yn, FuncId → yu, World → yy
open Go.Proofs.Tryz renaming prog → ya
open List renaming getElem?_eq_some_iff → yo, range → yq, length_append → yr, nil_append → yv, length_map → yx, cons_append → yaa, replicate → yab, getElem?_eq_getElem → yac, map_cons → yad, getElem?_map → yaf, getElem?_append_left → yah, length_cons → yai, map_append → yaj, append_assoc → yak, getElem?_append_right → yam, getElem?_eq_none → yan, mem_singleton → yao, mem_cons_self → yap, getElem?_cons_succ → yar, mem_cons_of_mem → yau, map_map → yaw, eq_nil_of_length_eq_zero → yaz, all_eq_true → yba, map_set → ybb, length_set → ybc, ext_getElem? → ybd, getElem?_set → ybg, getElem?_cons_zero → ybh, append_nil → ybj, mem_of_getElem? → ybm, getElem?_take → ycd, map_congr_left → ycg, getElem?_set_self → ycl, length_replicate → yco, getD_eq_getElem?_getD → ycu
open Nat renaming le_refl → ym, mod_eq_of_lt → yaq, zero_add → yax, lt_or_ge → ybp, add_assoc → yce
open Option renaming bind_eq_some_iff → yc, bind_some → yf, map_eq_some_iff → yp, map_some → yz
open Option.some renaming injEq → yj, inj → ybe
open Prod.mk renaming injEq → yl
open UInt64 renaming ofNat → yal
set_option linter.unusedVariables false
set_option linter.unusedSimpArgs false
section
namespace Go.Ev
section
variable{P:yg}{o:Oper}{ts all:List TD}{H:List TEnt}{O:Type}{K:Kn O}{out:O}
def TD.isView:TD→Bool
 |.view _ _ _ _ _=>true
 |_=>false
def TD.isNilSl:TD→Bool
 |.p (.sl (some false) _ [])=>true
 |_=>false
def TD.isRef:TD→Bool
 |.ref _ _=>true
 |_=>false
def TD.isRref:TD→Bool
 |.rref _ _ _=>true
 |_=>false
def TD.isRv:TD→Bool
 |.rv _ _ _ _ _=>true
 |_=>false
def ZJ2(a:TD)(lo hi:Option Int):Bool:=
 match a with
 |.rv _ _ _ _ n=> !ZaM n lo hi
 |_=>false
def TD.isOwn:TD→Bool
 |.own _ _ _ _=>true
 |_=>false
def TD.isMp:TD→Bool
 |.mp _=>true
 |_=>false
def ZkA(l:List Tmp):Option Tmp→Bool
 |some t=>l.contains t
 |none=>false
def ZhG(P:yg)(o:Oper)(ts all:List TD)(H:List TEnt)(K:Kn O):Option O:=opN (lk H) P o ts λd hs=>K all d H hs 0
theorem Xm(h:ZhG P o ts all H K=some out):∃a d H' hs c,K a d H' hs c=some out∧Good P o ts all H a d H' hs c:=by
 obtain⟨d,hs,h1,h2⟩:=ZHf h;exact⟨_,_,_,_,_,h1,rfl,rfl,.inl ⟨rfl,rfl,h2⟩⟩
def ZEp(P:yg)(hi:HI)(o:Oper)(x:yn)(asg:Bool)(ts all:List TD)(H:List TEnt)(K:Kn O):Option O:=
 match o.dst,arT P ts o.type x with
 |some t,some d=>if hi.still.contains t&&(d.isView || d.isRv) then Zx2 t all H K d else if hi.still.contains t&&d.isRw then Zx7 t all H K d else if asg&&(hi.rowt.contains t&&d.isNilSl) then Zyb P o.type t all H K d else if asg&&(hi.own.contains t&&d.isNilSl) then ZCC P o.type t all H K d else ZhG P o ts all H K
 |_,_=>ZhG P o ts all H K
def TD.numI(d:TD):Option Num:=
 match d.num with
 |some a=>if a.k=.i64 then some a else none
 |none=>none
def opT(P:yg)(hi:HI)(specs:Sp P)(o:Oper)(ts all:List TD)(H:List TEnt)(K:Kn O):Option O:=
 if rnT P hi o ts H=true then ZLT P hi o ts all H K else
 match o.op with
 |.move x=>ZEp P hi o x false ts all H K
 |.assign x=>ZEp P hi o x true ts all H K
 |.slice t x lo h none=>if ZkA hi.frz o.dst then(arT P ts t x).bind λa=>(ZeC P ts lo).bind λl=>(ZeC P ts h).bind λr=>ZLR P t l r all H K a
  else(arT P ts t x).bind λa=>(ZeC P ts lo).bind λl=>(ZeC P ts h).bind λr=>if(ZkA hi.rowt o.dst&&a.isRw)=true then Zs4 P t l r all H K a else if ZJ2 a l r=true then ZCA P t l r all H K a else ZhG P o ts all H K
 |.load t x=>(arT P ts 0 x).bind λd=>if d.isRef || d.isRref then ZHj P t all H K d else if d.isRp then ZCL P t all H K d else ZhG P o ts all H K
 |.lookup t x ix ok=>(arT P ts t x).bind λd=>ZxM P t all H ok K (λkt=>arT P ts kt ix) d
 |.makeMap t none=>ZsZ P t all H K
 |.makeSlice t l c=>((arT P ts 0 l).bind TD.numI).bind λn=>((arT P ts 0 c).bind TD.numI).bind λn'=>if ZkA hi.mkn o.dst then Zx9 P t n.n n'.n all H K else if ZkA hi.rowt o.dst then ZCO P t n.n n'.n all H K else Zl0 P t (ZkA hi.own o.dst) (ZkA hi.row o.dst) n.n n'.n all H K
 |.mapUpdate t x k v=>(arT P ts t x).bind λd=>Zki P t all H K (λkt=>arT P ts kt k) (λet=>arT P ts et v) d
 |.insert t x k v=>(arT P ts t x).bind λd=>Zki P t all H K (λkt=>arT P ts kt k) (λet=>arT P ts et v) d
 |.alloc t=>ZCD P hi o.dst t all H K
 |.box t x=>(arT P ts t x).bind (ZLQ hi o.dst all H K)
 |.store t x y=>(arT P ts 0 x).bind λa=>(arT P ts t y).bind λv=>if a.isRp then Zx5 P t all H K v a else ZCE P (ZM8 hi x) t all H K v a
 |.buildSlice t len parts=>if ZkA hi.rowt o.dst then(match (o.dst.bind λd=>hi.rew.lookup d).bind λs=>all[s]? with
  |some (.rw id)=>ZCN P ts t len parts.toList id all H K
  |_=>ZHr P ts t len parts.toList all H K) else if ZkA hi.row o.dst then(if(ZM9 P ts t (lk H) parts.toList&& !ZkA hi.own o.dst)=true then ZxW P ts t len parts.toList all H K else Zs1 P ts t len parts.toList all H K) else if ZkA hi.own o.dst then ZxY P ts t len parts.toList all H K else ZhG P o ts all H K
 |.indexAddr t x ix=>(arT P ts t x).bind λa=>if a.isRw then(arT P ts 0 ix).bind λb=>b.inner.bind λip=>(ZsS ip).bind λq=>Zx3 P t q.2 all H K a else ZhG P o ts all H K
 |.call c=>match c.callee with
  |.builtin .len=>match c.args.toList,c.argTypes.toList with
   |[x],[t]=>(arT P ts t x).bind λd=>if d.isMp then ZxO P t all H K d else if d.isRw then ZHq P t all H K d else ZhG P o ts all H K
   |_,_=>none
  |.builtin .max=>ZhG P o ts all H K
  |.builtin .append=>match c.args.toList,c.argTypes.toList with
   |[x,y],[t,u]=>(arT P ts t x).bind λa=>(arT P ts u y).bind λb=>if a.isRw || (a.isNilSl&&ZkA hi.rowt o.dst) then Zs3 P true t u all H K b a else if a.isOwn || a.isRv || (a.isNilSl&&(ZkA hi.own o.dst || ZkA hi.row o.dst)) then Zx0 P (ZkA hi.own o.dst) (ZkA hi.row o.dst) t u all H K b (if hi.eqs=true then ZCG H a else a) else ZhG P o ts all H K
   |_,_=>none
  |.builtin .copy=>match c.args.toList,c.argTypes.toList with
   |[x,y],[t,u]=>(arT P ts t x).bind λa=>(arT P ts u y).bind λb=>ZHp P t u all H K b a
   |_,_=>none
  |.builtin .clear=>match c.args.toList,c.argTypes.toList with
   |[x],[t]=>(arT P ts t x).bind λa=>ZCH P t all H K a
   |_,_=>none
  |.builtin .delete=>match c.args.toList,c.argTypes.toList with
   |[x,y],[t,u]=>(arT P ts t x).bind λa=>ZxS P t all H K (arT P ts u y) a
   |_,_=>none
  |.value f=>match arT P ts 0 f with
   |some (.fn g cap)=>if(VE P (ZaC g)&&c.args.size==c.argTypes.size)=true then(Zqg P ts c.args.toList c.argTypes.toList).bind λaz=>ZK5 specs (ZaC g) all H K (if g < big then az++cap else cap++az) else ZhG P o ts all H K
   |_=>none
  |.invoke recv name=>match arT P ts 0 recv with
   |some (.iface t x)=>(ZHK specs.mt t name).bind λg=>if(VE P g&&c.args.size==c.argTypes.size)=true then(Zqg P ts c.args.toList c.argTypes.toList).bind λaz=>ZK4 specs g all H (λa d H' hs _=>K a d H' (.meth g::hs) 2) (x::az) else none
   |_=>none
  |_=>none
 |_=>ZhG P o ts all H K
theorem Xu{d:TD}{n:Num}(h:d.numI=some n):d.num=some n∧n.k=.i64:=by
 unfold TD.numI at h;split at h
 ·rename_i a hn;split at h
  ·rename_i e;cases h;exact⟨hn,e⟩
  ·cases h
 ·cases h
theorem Ztc{hi:HI}{x:yn}{asg:Bool}(ho:if asg=true then o.op=.assign x else o.op=.move x)(h:ZEp P hi o x asg ts all H K=some out):∃a d H' hs c,K a d H' hs c=some out∧Good P o ts all H a d H' hs c:=by
 unfold ZEp at h;split at h
 ·rename_i t d hd hx;split at h
  ·refine ZAC (x:=x) ?_ hd hx h;cases asg
   ·exact .inr ho
   ·exact .inl ho
  split at h
  ·refine Zx8 (x:=x) ?_ hd hx h;cases asg
   ·exact .inr ho
   ·exact .inl ho
  split at h
  ·rename_i ha;rw[yi] at ha;rw[if_pos ha.1] at ho;exact Zyc ho hd hx h
  ·split at h
   ·rename_i ha;rw[yi] at ha;rw[if_pos ha.1] at ho;exact ZAv ho hd hx h
   ·exact Xm h
 ·exact Xm h
theorem Ztd{hi:HI}{specs:Sp P}(ok:SpOk specs)(h:opT P hi specs o ts all H K=some out):∃a d H' hs c,K a d H' hs c=some out∧Good P o ts all H a d H' hs c:=by
 unfold opT at h;split at h
 ·exact ZFH h
 split at h
 ·rename_i x ho;exact Ztc (asg:=false) ho h
 ·rename_i x ho;exact Ztc (asg:=true) ho h
 ·rename_i t x lo hi' ho;split at h
  ·obtain⟨a,h1,h⟩:=yc.1 h;obtain⟨l,h2,h⟩:=yc.1 h;obtain⟨r,h3,h⟩:=yc.1 h;exact ZFF ho h1 h2 h3 h
  ·obtain⟨a,h1,h⟩:=yc.1 h;obtain⟨l,h2,h⟩:=yc.1 h;obtain⟨r,h3,h⟩:=yc.1 h;split at h
   ·exact Zu9 ho h1 h2 h3 h
   split at h
   ·exact ZAs ho h1 h2 h3 h
   ·exact Xm h
 ·rename_i t x ho;obtain⟨d,h1,h⟩:=yc.1 h;split at h
  ·exact ZCz ho h1 h
  split at h
  ·exact ZAD ho h1 h
  ·exact Xm h
 ·rename_i t x ix okk ho;obtain⟨d,h1,h⟩:=yc.1 h;exact ZxN ho h1 h
 ·rename_i t ho;exact Zu6 ho h
 ·rename_i t l c ho;obtain⟨n,h1,h⟩:=yc.1 h;obtain⟨n',h2,h⟩:=yc.1 h;obtain⟨d1,g1,g2⟩:=yc.1 h1;obtain⟨d2,g3,g4⟩:=yc.1 h2;split at h
  ·exact Zya ho (by rw[g1];exact(Xu g2).1) (by rw[g3];exact(Xu g4).1) (Xu g2).2 (Xu g4).2 h
  split at h
  ·exact ZAF ho (by rw[g1];exact(Xu g2).1) (by rw[g3];exact(Xu g4).1) (Xu g2).2 (Xu g4).2 h
  exact Zq6 ho (by rw[g1];exact(Xu g2).1) (by rw[g3];exact(Xu g4).1) (Xu g2).2 (Xu g4).2 h
 ·rename_i t x k v ho;obtain⟨d,h1,h⟩:=yc.1 h;exact ZxQ ho h1 h
 ·rename_i t x k v ho;obtain⟨d,h1,h⟩:=yc.1 h;exact ZxR ho h1 h
 ·rename_i t ho;exact ZAx ho h
 ·rename_i t x ho;obtain⟨d,h1,h⟩:=yc.1 h;exact ZFD ho h1 h
 ·rename_i t x y ho;obtain⟨a,h1,h⟩:=yc.1 h;obtain⟨v,h2,h⟩:=yc.1 h;split at h
  ·exact Zx6 ho h1 h2 h
  ·exact ZAy ho h1 h2 h
 ·rename_i t len parts ho;split at h
  ·split at h
   ·exact ZAE ho h
   ·exact ZCM ho h
  split at h
  ·split at h
   ·exact ZxX ho h
   ·exact Zu7 ho h
  split at h
  ·exact ZxZ ho h
  ·exact Xm h
 ·rename_i t x ix ho;obtain⟨a,h1,h⟩:=yc.1 h;split at h
  ·obtain⟨b,h2,h⟩:=yc.1 h;obtain⟨ip,h3,h⟩:=yc.1 h;obtain⟨q,h4,h⟩:=yc.1 h;rw[Ys h3] at h2;exact Zx4 ho h1 h2 h4 h
  ·exact Xm h
 ·rename_i c ho;split at h
  ·rename_i hc;split at h
   ·rename_i x t ha ht;obtain⟨d,h1,h⟩:=yc.1 h;split at h
    ·exact ZxP ho hc ha ht h1 h
    split at h
    ·exact ZCK ho hc ha ht h1 h
    ·exact Xm h
   ·cases h
  ·exact Xm h
  ·rename_i hc;split at h
   ·rename_i x y t u ha ht;obtain⟨a,h1,h⟩:=yc.1 h;obtain⟨b,h2,h⟩:=yc.1 h;split at h
    ·exact Zu8 ho hc ha ht (Zn h1) h2 h
    split at h
    ·refine Zx1 ho hc ha ht ?_ h2 h;split
     ·rw[ZFE];exact Zn h1
     ·exact Zn h1
    ·exact Xm h
   ·cases h
  ·rename_i hc;split at h
   ·rename_i x y t u ha ht;obtain⟨a,h1,h⟩:=yc.1 h;obtain⟨b,h2,h⟩:=yc.1 h;exact ZCI ho hc ha ht h1 h2 h
   ·cases h
  ·rename_i hc;split at h
   ·rename_i x t ha ht;obtain⟨a,h1,h⟩:=yc.1 h;exact ZAA ho hc ha ht h1 h
   ·cases h
  ·rename_i hc;split at h
   ·rename_i x y t u ha ht;obtain⟨a,h1,h⟩:=yc.1 h;exact ZxT ho hc ha ht h1 h
   ·cases h
  ·rename_i f hc;split at h
   ·rename_i g cap hf;split at h
    ·rename_i hb;obtain⟨az,h1,h⟩:=yc.1 h;obtain⟨a,d,H',hs,cc,k1,k2⟩:=ZHM ok h;rcases k2 with k2|k2
     ·exact⟨a,d,H',hs,cc,k1,ZFK ho hc hf hb h1 k2⟩
     ·exact⟨a,d,H',hs,cc,k1,ZHN ho hc hf hb h1 k2⟩
    ·exact Xm h
   ·cases h
  ·rename_i recv name hc;split at h
   ·rename_i t x hf;obtain⟨g,hg,h⟩:=yc.1 h;obtain⟨hb,h⟩:=Za h;obtain⟨az,h1,h⟩:=yc.1 h;obtain⟨a,d,H',hs,cc,k1,k2⟩:=ZHL ok h;exact⟨a,d,H',_,_,k1,ZFL ho hc hf (Zyo ok.mt hg) hb h1 k2⟩
   ·cases h
  ·cases h
 ·exact Xm h
def ZCV(ops:Array Oper)(j:Nat):Option Tmp:=(ops[j]?).bind (·.dst)
def Zvc(b:Bool):TD:=.p (.v .bool b)
def ZHO:TD→Bool
 |.tup []=>true
 |_=>false
def gT(P:yg)(hi:HI)(specs:Sp P)(ops:Array Oper)(o:Oper)(ts all:List TD)(H:List TEnt)(K:Kn O):Option O:=
 match o.guard with
 |none=>opT P hi specs o ts all H K
 |some (j,want)=>(ZCV ops j).bind λt=>match (ts.getD t .junk).boolT with
  |some b=>
   if b=true then
    if true=want then opT P hi specs o (ts.set t (Zvc true)) (all.set t (Zvc true)) H λa d H' hs c=>K a d H' (.b true::hs) c
    else K (all.set t (Zvc true)) (.tup []) H [.b true] 0
   else
    if false=want then opT P hi specs o (ts.set t (Zvc false)) (all.set t (Zvc false)) H λa d H' hs c=>K a d H' (.b false::hs) c
    else K (all.set t (Zvc false)) (.tup []) H [.b false] 0
  |none=>if ZHO (ts.getD t .junk) then K all (.tup []) H [.raw] 0 else none
structure GoodG(P:yg)(ops:Array Oper)(o:Oper)(ts all:List TD)(H:List TEnt)(all':List TD)(d:TD)(H':List TEnt)(hs:List Hint)(cls:Nat):Prop where
 same:TD.ers (lk H') all'=TD.ers (lk H) all
 len:all'.length=all.length
 op:∃C,AllP C∧∀rest,evG P ops o (TD.ers (lk H) ts) (erH H) (hs++rest)=some (C,d.er (lk H'),erH H',rest)
 sam:cls=3→erH H'=erH H
 cls:∀rest,clsOf P o (TD.ers (lk H) ts) (erH H) (hs++rest)≤cls
theorem Zyp{d:TD}{a:List TD}{H':List TEnt}{hs:List Hint}{c:Nat}(h:Good P o ts all H a d H' hs c):∃C,AllP C∧(∀rest,Zdl P o (TD.ers (lk H) ts) (erH H) (hs++rest)=some (C,d.er (lk H'),erH H',rest))∧
 ∀rest,(if(evN P o (TD.ers (lk H) ts) (hs++rest)).isSome then 0 else if(evR P o (TD.ers (lk H) ts) (erH H) (hs++rest)).isSome then 1 else 2)≤c:=by
 rcases h.op with⟨rfl,rfl,C,h1,h2⟩|⟨rfl,rfl,h0,C,h1,h2⟩|⟨rfl,h0,h00,C,h1,h2⟩|⟨rfl,_,h0,h00,C,h1,h2⟩
 ·exact⟨C,h1,λrest=>by unfold Zdl;rw[h2 rest],λrest=>by rw[h2 rest];simp⟩
 ·exact⟨C,h1,λrest=>by unfold Zdl;rw[h0 rest];dsimp only;rw[h2 rest],λrest=>by rw[h0 rest,h2 rest];simp⟩
 ·exact⟨C,h1,λrest=>by unfold Zdl;rw[h0 rest];dsimp only;rw[h00 rest];exact h2 rest,λrest=>by rw[h0 rest,h00 rest];simp⟩
 ·exact⟨C,h1,λrest=>by unfold Zdl;rw[h0 rest];dsimp only;rw[h00 rest];exact h2 rest,λrest=>by rw[h0 rest,h00 rest];simp⟩
theorem Zte{d:TD}{a:List TD}{H':List TEnt}{hs:List Hint}{c:Nat}(h:Good P o ts all H a d H' hs c)(hc:c=3):erH H'=erH H:=by
 subst hc;rcases h.op with⟨e,_⟩|⟨e,_⟩|⟨e,_⟩|⟨_,e,_⟩
 ·cases e
 ·cases e
 ·cases e
 ·exact e
theorem ZAT{l:List TD}{t:Nat}{b:Bool}(h:(l.getD t .junk).boolT=some b):l.getD t .junk=Zvc b:=by
 unfold TD.boolT at h;split at h
 ·rename_i x hx;unfold TP.boolB at h;split at h
  ·cases h;exact hx
  ·cases h
 ·cases h
theorem set_same{l:List TD}{t:Nat}{d:TD}(h:l.getD t .junk=d):(l.set t d)=l:=by
 apply ybd;intro i;rw[ybg];split
 ·rename_i e;subst e;split
  ·rename_i hl;rw[←h,ycu,yac hl];rfl
  ·rename_i hl;rw[yan (by omega)]
 ·rfl
theorem ZEq{hi:HI}{specs:Sp P}{ops:Array Oper}(ok:SpOk specs)(hg:∀j want t,o.guard=some (j,want)→ZCV ops j=some t→ts.getD t .junk=all.getD t .junk)(h:gT P hi specs ops o ts all H K=some out):
 ∃a d H' hs c,K a d H' hs c=some out∧GoodG P ops o ts all H a d H' hs c:=by
 unfold gT at h;split at h
 ·rename_i hgd;obtain⟨a,d,H',hs,c,h1,h2⟩:=Ztd ok h;obtain⟨C,g1,g2,g3⟩:=Zyp h2;refine⟨a,d,H',hs,c,h1,h2.same,h2.len,⟨C++[],Zj.2 ⟨g1,ytt⟩,λrest=> ?_⟩,Zte h2,λrest=> ?_⟩
  ·unfold evG;rw[hgd];dsimp only;rw[g2 rest];rfl
  ·unfold clsOf;rw[hgd];exact g3 rest
 ·rename_i j want hgd;obtain⟨t,ht,h9⟩:=yc.1 h;clear h;have eall:=hg j want t hgd ht
  have eslot:((ops[j]?).bind (·.dst)).map (λt=>(TD.ers (lk H) ts).getD t .junk)=some ((ts.getD t .junk).er (lk H)):=by
   rw[show(ops[j]?).bind (·.dst)=some t from ht,yz,Zna]
  split at h9
  ·rename_i b hb;have e1:=ZAT hb;have e2:all.getD t .junk=Zvc b:=by rw[←eall];exact e1
   have e3:(ts.getD t .junk).er (lk H)=.p (.bool b):=Zf9 hb;split at h9
   ·rename_i hbt;subst hbt;rw[set_same e1,set_same e2] at h9;split at h9
    ·rename_i hw;subst hw;obtain⟨a,d,H',hs,c,h1,h2⟩:=Ztd ok h9;obtain⟨C,g1,g2,g3⟩:=Zyp h2;refine⟨a,d,H',_,c,h1,h2.same,h2.len,⟨(true=true)::C++[],Zj.2 ⟨⟨rfl,g1⟩,ytt⟩,λrest=> ?_⟩,Zte h2,λrest=> ?_⟩
     ·unfold evG;rw[hgd];dsimp only;rw[eslot,e3];simp only[yaa,if_true,g2 rest];rfl
     ·unfold clsOf;rw[hgd];simp only[yaa,if_true];exact g3 rest
    ·rename_i hw;refine⟨_,_,_,_,_,h9,rfl,rfl,⟨[true=true],⟨rfl,ytt⟩,λrest=> ?_⟩,λ_=>rfl,λrest=> ?_⟩
     ·unfold evG;rw[hgd];dsimp only;rw[eslot,e3];simp only[yaa,yv,if_neg hw];rfl
     ·unfold clsOf;rw[hgd];simp only[yaa,if_neg hw];exact ym _
   ·rename_i hbt;have hbt:b=false:=by simpa using hbt
    subst hbt;rw[set_same e1,set_same e2] at h9;split at h9
    ·rename_i hw;subst hw;obtain⟨a,d,H',hs,c,h1,h2⟩:=Ztd ok h9;obtain⟨C,g1,g2,g3⟩:=Zyp h2;refine⟨a,d,H',_,c,h1,h2.same,h2.len,⟨(false=false)::C++[],Zj.2 ⟨⟨rfl,g1⟩,ytt⟩,λrest=> ?_⟩,Zte h2,λrest=> ?_⟩
     ·unfold evG;rw[hgd];dsimp only;rw[eslot,e3];simp only[yaa,if_true,g2 rest];rfl
     ·unfold clsOf;rw[hgd];simp only[yaa,if_true];exact g3 rest
    ·rename_i hw;refine⟨_,_,_,_,_,h9,rfl,rfl,⟨[false=false],⟨rfl,ytt⟩,λrest=> ?_⟩,λ_=>rfl,λrest=> ?_⟩
     ·unfold evG;rw[hgd];dsimp only;rw[eslot,e3];simp only[yaa,yv,if_neg hw];rfl
     ·unfold clsOf;rw[hgd];simp only[yaa,if_neg hw];exact ym _
  ·obtain⟨h1,h9⟩:=Za h9
   have e3:(ts.getD t .junk).er (lk H)=.tup []:=by
    unfold ZHO at h1;split at h1
    ·rename_i hx;rw[hx];rfl
    ·cases h1
   refine⟨_,_,_,_,_,h9,rfl,rfl,⟨[],trivial,λrest=> ?_⟩,λ_=>rfl,λrest=> ?_⟩
   ·unfold evG;rw[hgd];dsimp only;rw[eslot,e3];rfl
   ·unfold clsOf;rw[hgd];exact ym _
def ZwH(ts:List TD)(dst:Option Tmp)(d:TD):List TD:=
 match dst with
 |some i=>ts.set i d
 |none=>ts
theorem ZAU{L:Lk}(dst:Option Tmp)(d:TD):TD.ers L (ZwH ts dst d)=Zin (TD.ers L ts) dst (d.er L):=by
 cases dst with
 |none=>rfl
 |some i=>simp only[ZwH,Zin,Zv,ybb]
theorem ZwI(dst:Option Tmp)(d:TD):(ZwH ts dst d).length=ts.length:=by
 cases dst <;> simp[ZwH]
def ZCW(P:yg)(hi:HI)(specs:Sp P)(ops:Array Oper):List Oper→List TD→List TEnt→(List TD→List TEnt→List Hint→Option O)→Option O
 |[],all,H,K=>K all H []
 |o::r,all,H,K=>gT P hi specs ops o all all H λa d H' hs _=>ZCW P hi specs ops r (ZwH a o.dst d) H' λa' h' hs'=>K a' h' (hs++hs')
theorem Zo6{hi:HI}{specs:Sp P}{ops:Array Oper}(ok:SpOk specs):∀(l:List Oper)(all:List TD)(H:List TEnt)(K:List TD→List TEnt→List Hint→Option O),ZCW P hi specs ops l all H K=some out→
 ∃a h hs C,K a h hs=some out∧a.length=all.length∧AllP C∧∀rest,ZkX P ops l (TD.ers (lk H) all) (erH H) (hs++rest)=some (C,TD.ers (lk h) a,erH h,rest)
 |[],all,H,K,h=>⟨all,H,[],[],h,rfl,trivial,λ_=>rfl⟩
 |o::r,all,H,K,h=>by
  unfold ZCW at h;obtain⟨a,d,H',hs,c,h1,h2⟩:=ZEq ok (λ_ _ _ _ _=>rfl) h;obtain⟨a',h',hs',C',k1,k0,k2,k3⟩:=Zo6 ok r _ _ _ h1;obtain⟨C,g1,g2⟩:=h2.op;refine⟨a',h',_,C++C',k1,by rw[k0,ZwI,h2.len],Zj.2 ⟨g1,k2⟩,λrest=> ?_⟩;unfold ZkX;rw[yak,g2 (hs'++rest)];dsimp only;rw[←h2.same, ←ZAU,k3 rest]
end
end Go.Ev
end
section
namespace Go.Ev
section
variable{P:yg}{o:Oper}{ts all:List TD}{H:List TEnt}{O:Type}{out:O}
def ZdD(keep:List Nat):Nat→List TD→List TD
 |_,[]=>[]
 |i,d::r=>(if keep.contains i then d else .junk)::ZdD keep (i+1) r
theorem ZiZ{L:Lk}(keep:List Nat):∀(l:List TD)(k:Nat),TD.ers L (ZdD keep k l)=ZH keep k (TD.ers L l)
 |[],_=>rfl
 |d::r,k=>by
  rw[ZdD,TD.ers,TD.ers,ZH,ZiZ keep r];split <;> rfl
theorem ZwJ(keep:List Nat):∀(l:List TD)(k t:Nat),keep.contains (k+t)=true→(ZdD keep k l).getD t .junk=l.getD t .junk
 |[],_,_,_=>rfl
 |d::r,k,0,h=>by
  have h':keep.contains k=true:=h
  simp only[ZdD,h',if_true,List.getD_cons_zero]
 |d::r,k,t+1,h=>by
  simp only[ZdD,List.getD_cons_succ];exact ZwJ keep r (k+1) t (by rw[show k+1+t=k+(t+1) by omega];exact h)
mutual
def Pl.sameB:Pl→Pl→Bool
 |.int k n,.int l m=>decide (k=l)&&decide (n=m)
 |.bool a,.bool b=>a==b
 |.str a,.str b=>decide (a=b)
 |.ptr0,.ptr0=>true
 |.fn0,.fn0=>true
 |.if0,.if0=>true
 |.map0,.map0=>true
 |.fnv f,.fnv g=>Nat.beq f g
 |.agg xs,.agg ys=>Pl.samesB xs ys
 |.arr n s xs,.arr m u ys=>Nat.beq n m&&Nat.beq s u&&Pl.samesB xs ys
 |.sl a s xs,.sl b u ys=>a==b&&Nat.beq s u&&Pl.samesB xs ys
 |.iface t x,.iface u y=>Nat.beq t u&&Pl.sameB x y
 |_,_=>false
def Pl.samesB:List Pl→List Pl→Bool
 |[],[]=>true
 |x::r,y::q=>Pl.sameB x y&&Pl.samesB r q
 |_,_=>false
end
mutual
theorem Pl.sameB_eq:∀(a b:Pl),Pl.sameB a b=true→a=b
 |.int k n,b,h=>by cases b <;> simp_all[Pl.sameB]
 |.bool k,b,h=>by cases b <;> simp_all[Pl.sameB]
 |.str k,b,h=>by cases b <;> simp_all[Pl.sameB]
 |.ptr0,b,h=>by cases b <;> simp_all[Pl.sameB]
 |.fn0,b,h=>by cases b <;> simp_all[Pl.sameB]
 |.if0,b,h=>by cases b <;> simp_all[Pl.sameB]
 |.map0,b,h=>by cases b <;> simp_all[Pl.sameB]
 |.fnv f,b,h=>by cases b <;> simp_all[Pl.sameB]
 |.agg xs,b,h=>by cases b <;> simp_all[Pl.sameB];exact Pl.samesB_eq _ _ h
 |.arr n s xs,b,h=>by cases b <;> simp_all[Pl.sameB];exact Pl.samesB_eq _ _ h.2
 |.sl n s xs,b,h=>by cases b <;> simp_all[Pl.sameB];exact Pl.samesB_eq _ _ h.2
 |.iface t x,b,h=>by cases b <;> simp_all[Pl.sameB];exact Pl.sameB_eq _ _ h.2
theorem Pl.samesB_eq:∀(a b:List Pl),Pl.samesB a b=true→a=b
 |[],[],_=>rfl
 |[],_::_,h=>by cases h
 |_::_,[],h=>by cases h
 |x::r,y::q,h=>by
  simp only[Pl.samesB,yi] at h;rw[Pl.sameB_eq x y h.1,Pl.samesB_eq r q h.2]
end
def ZwK:List Nat→List Nat→Bool
 |[],[]=>true
 |x::r,y::q=>Nat.beq x y&&ZwK r q
 |_,_=>false
theorem Znt:∀(a b:List Nat),ZwK a b=true→a=b
 |[],[],_=>rfl
 |[],_::_,h=>by cases h
 |_::_,[],h=>by cases h
 |x::r,y::q,h=>by
  simp only[ZwK,yi] at h;rw[Nat.eq_of_beq_eq_true h.1,Znt r q h.2]
mutual
def Dv.sameB:Dv→Dv→Bool
 |.p x,.p y=>Pl.sameB x y
 |.elem x,.elem y=>Pl.sameB x y
 |.ref i o l,.ref j q m=>Nat.beq i j&&Nat.beq o q&&ZwK l m
 |.own i a s xs,.own j b u ys=>Nat.beq i j&&a==b&&Nat.beq s u&&Pl.samesB xs ys
 |.view i o l a b c,.view i' o' l' a' b' c'=>Nat.beq i i'&&Nat.beq o o'&&ZwK l l'&&Nat.beq a a'&&Nat.beq b b'&&Nat.beq c c'
 |.agg xs,.agg ys=>Dv.samesB xs ys
 |.arr n s xs,.arr m u ys=>Nat.beq n m&&Nat.beq s u&&Dv.samesB xs ys
 |.fn f xs,.fn g ys=>Nat.beq f g&&Dv.samesB xs ys
 |.iface t x,.iface u y=>Nat.beq t u&&Dv.sameB x y
 |.tup xs,.tup ys=>Dv.samesB xs ys
 |.mp i,.mp j=>Nat.beq i j
 |.rv a b c d e,.rv a' b' c' d' e'=>Nat.beq a a'&&Nat.beq b b'&&Nat.beq c c'&&Nat.beq d d'&&Nat.beq e e'
 |.rref a b c l,.rref a' b' c' l'=>Nat.beq a a'&&Nat.beq b b'&&Nat.beq c c'&&ZwK l l'
 |.junk,.junk=>true
 |_,_=>false
def Dv.samesB:List Dv→List Dv→Bool
 |[],[]=>true
 |x::r,y::q=>Dv.sameB x y&&Dv.samesB r q
 |_,_=>false
end
theorem ZeD{a b:Nat}(h:Nat.beq a b=true):a=b:=Nat.eq_of_beq_eq_true h
mutual
theorem Dv.sameB_eq:∀(a b:Dv),Dv.sameB a b=true→a=b
 |.p x,b,h=>by
  cases b <;> simp only[Dv.sameB,ybv] at h
  rw[Pl.sameB_eq _ _ h]
 |.elem x,b,h=>by
  cases b <;> simp only[Dv.sameB,ybv] at h
  rw[Pl.sameB_eq _ _ h]
 |.ref i o l,b,h=>by
  cases b <;> simp only[Dv.sameB,ybv,yi] at h
  rw[ZeD h.1.1,ZeD h.1.2,Znt _ _ h.2]
 |.own i a s xs,b,h=>by
  cases b <;> simp only[Dv.sameB,ybv,yi,beq_iff_eq] at h
  rw[ZeD h.1.1.1,h.1.1.2,ZeD h.1.2,Pl.samesB_eq _ _ h.2]
 |.view i o l a k c,b,h=>by
  cases b <;> simp only[Dv.sameB,ybv,yi] at h
  rw[ZeD h.1.1.1.1.1,ZeD h.1.1.1.1.2,Znt _ _ h.1.1.1.2,ZeD h.1.1.2,ZeD h.1.2,ZeD h.2]
 |.agg xs,b,h=>by
  cases b <;> simp only[Dv.sameB,ybv] at h
  rw[Dv.samesB_eq _ _ h]
 |.arr n s xs,b,h=>by
  cases b <;> simp only[Dv.sameB,ybv,yi] at h
  rw[ZeD h.1.1,ZeD h.1.2,Dv.samesB_eq _ _ h.2]
 |.fn f xs,b,h=>by
  cases b <;> simp only[Dv.sameB,ybv,yi] at h
  rw[ZeD h.1,Dv.samesB_eq _ _ h.2]
 |.iface t x,b,h=>by
  cases b <;> simp only[Dv.sameB,ybv,yi] at h
  rw[ZeD h.1,Dv.sameB_eq _ _ h.2]
 |.tup xs,b,h=>by
  cases b <;> simp only[Dv.sameB,ybv] at h
  rw[Dv.samesB_eq _ _ h]
 |.mp i,b,h=>by
  cases b <;> simp only[Dv.sameB,ybv] at h
  rw[ZeD h]
 |.rv a k c d e,b,h=>by
  cases b <;> simp only[Dv.sameB,ybv,yi] at h
  rw[ZeD h.1.1.1.1,ZeD h.1.1.1.2,ZeD h.1.1.2,ZeD h.1.2,ZeD h.2]
 |.rref a k c l,b,h=>by
  cases b <;> simp only[Dv.sameB,ybv,yi] at h
  rw[ZeD h.1.1.1,ZeD h.1.1.2,ZeD h.1.2,Znt _ _ h.2]
 |.junk,b,h=>by
  cases b <;> simp only[Dv.sameB,ybv] at h;rfl
theorem Dv.samesB_eq:∀(a b:List Dv),Dv.samesB a b=true→a=b
 |[],[],_=>rfl
 |[],_::_,h=>by cases h
 |_::_,[],h=>by cases h
 |x::r,y::q,h=>by
  simp only[Dv.samesB,yi] at h;rw[Dv.sameB_eq x y h.1,Dv.samesB_eq r q h.2]
end
def Ent.sameB:Option Ent→Option Ent→Bool
 |some (.var d _),some (.var e _)=>Dv.sameB d e
 |_,_=>false
theorem Ent.sameB_rd{a b:Option Ent}(h:Ent.sameB a b=true):rdE a=rdE b:=by
 unfold Ent.sameB at h;split at h
 ·rw[Dv.sameB_eq _ _ h];rfl
 ·cases h
structure TR where
 cls:Nat
 rd:Option Nat
 tc:Option (List Nat)
 n:Nat
 push:Bool
 loc:Bool
 m:Nat
 sm:Nat→Bool
 ex:Bool
def ZJ3(P:yg)(o:Oper)(ts:List Dv)(hs:List Hint)(n id:Nat):Bool:=
 match o.guard,hs with
 |some (_,want),.b β::hs'=>if β=want then(match Zbe P o ts hs' with|some l=> !l.contains id&&decide (id < n)|none=>false) else false
 |_,_=>false
def ZEr(P:yg)(hi:HI)(specs:Sp P)(ops:Array Oper):List Oper→List TD→List TEnt→(List TD→List TEnt→List TR→List Hint→Option O)→Option O
 |[],all,H,K=>K all H [] []
 |o::r,all,H,K=>gT P hi specs ops o (ZdD (looks ops o) 0 all) all H λa d H' hs c=>ZEr P hi specs ops r (ZwH a o.dst d) H' λa' h' rs hs'=>
   K a' h' (⟨c,ZGq P o (TD.ers (lk H) (ZdD (looks ops o) 0 all)),Zxl P o (TD.ers (lk H) (ZdD (looks ops o) 0 all)) hs,H.length,ZbX o hs H.length,ZmQ o hs,H'.length,λid=>(c==3) || ZJ3 P o (TD.ers (lk H) (ZdD (looks ops o) 0 all)) hs H.length id || Ent.sameB ((erH H')[id]?) ((erH H)[id]?),exO o⟩::rs) (hs++hs')
def RecOk(R:Rec)(r:TR):Prop:=R.cls≤r.cls∧(R.rd=r.rd∧R.ex=r.ex)∧(∀l,r.tc=some l→R.tc=some l)∧R.H.length=r.n∧(r.push=true→R.push=true)∧(r.loc=true→R.loc=true)∧R.H'.length=r.m∧∀id,r.sm id=true→rdE (R.H'[id]?)=rdE (R.H[id]?)
inductive RecsOk:List Rec→List TR→Prop where
 |nil:RecsOk [] []
 |cons {R:Rec} {r:TR} {Rs:List Rec} {rs:List TR} (h:RecOk R r) (k:RecsOk Rs rs):RecsOk (R::Rs) (r::rs)
theorem Ztf{ts:List Dv}{hs rest:List Hint}{l:List Nat}(h:Zbe P o ts hs=some l):Zbe P o ts (hs++rest)=some l:=by
 unfold Zbe at h ⊢;split at h <;> first|exact h|skip
 ·cases hs with
  |nil=>cases h
  |cons x r=>rw[yaa];cases x <;> exact h
 split at h <;> first|exact h|skip
 all_goals
  split at h
  ·exact h
  ·cases h
theorem ZJ4{ts:List Dv}{hs rest:List Hint}{l:List Nat}(h:Zxl P o ts hs=some l):Zxl P o ts (hs++rest)=some l:=by
 unfold Zxl at h ⊢;split at h
 ·rename_i hg;rw[if_pos hg];exact Ztf h
 ·cases h
theorem ZHP{hs rest:List Hint}(h:ZmQ o hs=true):ZmQ o (hs++rest)=true:=by
 unfold ZmQ at h ⊢;rw[yi] at h ⊢;refine⟨h.1, ?_⟩;have h:=h.2;split at h
 ·split at h
  ·split at h
   ·exact h
   ·cases h
  ·split at h
   ·exact h
   ·cases h
  ·cases h
 ·cases h
theorem ZFM{hs rest:List Hint}{n:Nat}(h:ZbX o hs n=true):ZbX o (hs++rest) n=true:=by
 unfold ZbX at h ⊢;rw[yi] at h ⊢;refine⟨h.1, ?_⟩;have h:=h.2;split at h
 ·rfl
 ·split at h
  ·split at h
   ·exact h
   ·cases h
  ·cases h
 ·cases h
theorem ZJ5{ops:Array Oper}{ts:List Dv}{H:List Ent}{hs rest:List Hint}{C:List Prop}{d:Dv}{H':List Ent}{hs2:List Hint}{id:Nat}(h:evG P ops o ts H (hs++rest)=some (C,d,H',hs2))(ht:ZJ3 P o ts hs H.length id=true):rdE (H'[id]?)=rdE (H[id]?):=by
 unfold ZJ3 at ht;split at ht
 ·rename_i j want β hs' hg;split at ht
  ·rename_i hb;split at ht
   ·rename_i l hl;rw[yi] at ht;have hi:id < H.length:=by simpa using ht.2
    have hc:l.contains id=false:=by simpa using ht.1
    rw[yaa] at h;unfold evG at h;rw[hg] at h;dsimp only at h;split at h
    ·rename_i t' β' hs'' h6 h7;cases h7;rw[if_pos hb,yp] at h;obtain⟨⟨C1,d1,H1,hs1⟩,h1,h8⟩:=h;simp only[yl] at h8;obtain⟨_,_,rfl,_⟩:=h8;unfold Zdl at h1;split at h1
     ·cases h1;rfl
     ·split at h1
      ·cases h1;rfl
      ·exact Zwm h1 (Ztf hl) hi hc
    ·rename_i h7;cases h7
    ·cases h
   ·cases ht
  ·cases ht
 ·cases ht
theorem Ztg{hi:HI}{specs:Sp P}{ops:Array Oper}(ok:SpOk specs):∀(l:List Oper)(all:List TD)(H:List TEnt)(K:List TD→List TEnt→List TR→List Hint→Option O),ZEr P hi specs ops l all H K=some out→
 ∃a h rs hs C,K a h rs hs=some out∧a.length=all.length∧AllP C∧∀rest,∃RS,evD P ops l (TD.ers (lk H) all) (erH H) (hs++rest)=some (C,RS,TD.ers (lk h) a,erH h,rest)∧RecsOk RS rs
 |[],all,H,K,h=>⟨all,H,[],[],[],h,rfl,trivial,λ_=>⟨[],rfl,.nil⟩⟩
 |o::r,all,H,K,h=>by
  unfold ZEr at h
  have hgd:∀j want t,o.guard=some (j,want)→ZCV ops j=some t→(ZdD (looks ops o) 0 all).getD t .junk=all.getD t .junk:=by
   intro j want t hg hs;refine ZwJ _ _ _ _ ?_;rw[yax];unfold looks;rw[hg];dsimp only;rw[show(ops[j]?).bind (·.dst)=some t from hs]
   simp
  obtain⟨a,d,H',hs,c,h1,h2⟩:=ZEq ok hgd h;obtain⟨a',h',rs,hs',C',k1,k0,k2,k3⟩:=Ztg ok r _ _ _ h1;obtain⟨C,g1,g2⟩:=h2.op;refine⟨a',h',_,_,C++C',k1,by rw[k0,ZwI,h2.len],Zj.2 ⟨g1,k2⟩,λrest=> ?_⟩;obtain⟨RS,e1,e2⟩:=k3 rest;unfold evD;rw[←ZiZ,yak,g2 (hs'++rest)];dsimp only;rw[←h2.same, ←ZAU,e1]
  refine⟨_,rfl,.cons ⟨h2.cls _,⟨rfl,rfl⟩,λl hl=> ?_,Zx _,λhp=>by rw[Zx];exact ZFM hp,λhl=>ZHP hl,Zx _,λid hs=>by
   have hs:(c==3 || ZJ3 P o (TD.ers (lk H) (ZdD (looks ops o) 0 all)) _ H.length id || Ent.sameB ((erH H')[id]?) ((erH H)[id]?))=true:=hs;rw[ybz,ybz] at hs;rcases hs with(h5|h5)|h5
   ·rw[h2.sam (by simpa using h5)]
   ·exact ZJ5 (g2 []) (by rw[Zx];exact h5)
   ·exact Ent.sameB_rd h5⟩ e2⟩
  exact ZJ4 hl
def ZEs(ops:Array Oper)(cls:List Nat)(free comm:Nat→Nat→Bool):Bool:=
 let l:=ops.toList;let A:=ZGr l;let n:=l.length
 (cls.length==n)&&Zf0 l 0&&
 ((yq n).all λi=>match l[i]? with|some o=>A.getD i 0==ZgL A i o|none=>true)&&
 ((yq n).all λi=>(yq n).all λj=>i==j || Zf1 l i==none || !(Zf1 l i==Zf1 l j))&&
 ((yq n).all λi=>match l[i]? with
   |some o=>let k:=looks ops o
    (yq n).all λj=>match Zf1 l j with
      |some t=>i==j || !(k.contains t) || (if j < i then(A.getD i 0).testBit j else(A.getD j 0).testBit i)
      |none=>true
   |none=>true)&&
 ((yq n).all λi=>cls.getD i 0==0 || (yq n).all λj=>i==j || decide (cls.getD j 0 < 2) || (if j < i then(A.getD i 0).testBit j else(A.getD j 0).testBit i) || (decide (cls.getD i 0≤1)&&free i j) || comm i j)
def ZHQ(rs:List TR)(i j:Nat):Bool:=
 match rs[i]?,rs[j]? with
 |some r,some q=>match r.rd with
  |some id=>decide (id < q.n)&&decide (id < r.n)&&(if r.ex=true then q.push else((match q.tc with|some l=> !l.contains id|none=>false) || q.sm id))
  |none=>false
 |_,_=>false
def cT(rs:List TR)(c:Nat)(r:TR):Bool:=r.loc || (r.push&&r.m==r.n+1&&(rs.take c).all λq=>decide (q.n≤r.n))
def cI(rs:List TR):Nat:=match rs.findIdx? (λr=>r.loc&&r.cls==2) with
 |some c=>c
 |none=>(rs.findIdx? (λr=>r.push)).getD 0
def ZEt(rs:List TR)(i j:Nat):Bool:=
 let c:=cI rs
 ((rs[c]?).map (cT rs c)).getD false&&((i==c&&decide (c < j)&&((rs[j]?).map (·.push)).getD false) || (j==c&&decide (c < i)&&((rs[i]?).map (·.push)).getD false))
theorem Zth{RS:List Rec}{rs:List TR}(h:RecsOk RS rs):RS.length=rs.length:=by
 induction h with
 |nil=>rfl
 |cons _ _ ih=>simp[ih]
theorem Zi0{RS:List Rec}{rs:List TR}(h:RecsOk RS rs):∀{i:Nat}{r:TR},rs[i]? =some r→∃R,RS[i]? =some R∧RecOk R r:=by
 induction h with
 |nil=>intro i r h;simp at h
 |cons h k ih=>
  intro i r hi
  cases i with
  |zero=>cases hi;exact⟨_,rfl,h⟩
  |succ i=>exact ih hi
theorem ZFN{RS:List Rec}{rs:List TR}(h:RecsOk RS rs):∀{i:Nat}{R:Rec},RS[i]? =some R→∃r,rs[i]? =some r∧RecOk R r:=by
 induction h with
 |nil=>intro i r h;simp at h
 |cons h k ih=>
  intro i r hi
  cases i with
  |zero=>cases hi;exact⟨_,rfl,h⟩
  |succ i=>exact ih hi
theorem ZAV{RS:List Rec}{rs:List TR}(h:RecsOk RS rs)(i:Nat):(RS.map (·.cls)).getD i 0≤(rs.map (·.cls)).getD i 0:=by
 simp only[ycu,yaf]
 cases hi:rs[i]? with
 |none=>
  have:RS[i]? =none:=by rw[List.getElem?_eq_none_iff] at hi ⊢;rw[Zth h];exact hi
  rw[this]
  exact ym _
 |some r=>
  obtain⟨R,e,k⟩:=Zi0 h hi;rw[e];exact k.1
theorem ZJ6{ops:Array Oper}{RS:List Rec}{rs:List TR}(h:RecsOk RS rs)(k:ZEs ops (rs.map (·.cls)) (ZHQ rs) (ZEt rs)=true)(hn:rs.length=ops.size):Zxm ops RS=true:=by
 unfold ZEs at k;unfold Zxm;simp only[yi] at k ⊢;obtain⟨⟨⟨⟨⟨k1,k2⟩,k3⟩,k4⟩,k5⟩,k6⟩:=k;refine⟨⟨⟨⟨⟨?_,k2⟩,k3⟩,k4⟩,k5⟩, ?_⟩
 ·simpa[Zth h] using k1
 ·have hcm:∃c,c∈yq (ops.toList.length+1)∧∀i j,ZEt rs i j=true→Zfv RS c i j=true:=by
   have hget:∀(k:Nat),((rs[k]?).map (·.push)).getD false=true→((RS[k]?).map (·.push)).getD false=true:=by
    intro k hk
    cases hr:rs[k]? with
    |none=>rw[hr] at hk;cases hk
    |some r=>
     obtain⟨R,e1,e2⟩:=Zi0 h hr;rw[hr] at hk;rw[e1];exact e2.2.2.2.2.1 hk
   refine⟨if cI rs < rs.length then cI rs else 0, ?_,λi j hij=> ?_⟩
   ·rw[List.mem_range];split
    ·rename_i hlt;rw[hn] at hlt;have:ops.toList.length=ops.size:=by simp
     omega
    ·omega
   ·unfold ZEt at hij;dsimp only at hij;generalize cI rs=c at hij ⊢;rw[yi] at hij;obtain⟨h1,h2⟩:=hij
    cases hr:rs[c]? with
    |none=>rw[hr] at h1;cases h1
    |some r=>
     have hlt:=(yo.1 hr).1;rw[if_pos hlt];obtain⟨R,e1,e2⟩:=Zi0 h hr;rw[hr] at h1;unfold Zfv;rw[yi];refine⟨?_, ?_⟩
     ·rw[e1];show cOk RS c R=true;have h1:cT rs c r=true:=h1;unfold cT at h1;unfold cOk;rw[ybz] at h1 ⊢;rcases h1 with h1|h1
      ·exact .inl (e2.2.2.2.2.2.1 h1)
      ·simp only[yi,beq_iff_eq,yba,decide_eq_true_eq] at h1 ⊢;obtain⟨⟨b1,b2⟩,b3⟩:=h1;refine .inr ⟨⟨e2.2.2.2.2.1 b1,by rw[e2.2.2.2.2.2.2.1,e2.2.2.2.1];exact b2⟩,λq hq=> ?_⟩;obtain⟨k,hk⟩:=List.mem_iff_getElem?.1 hq;rw[ycd] at hk;split at hk
       ·rename_i hkc;obtain⟨q2,f1,f2⟩:=ZFN h hk;rw[f2.2.2.2.1,e2.2.2.2.1];refine b3 q2 (List.mem_iff_getElem?.2 ⟨k, ?_⟩);rw[ycd,if_pos hkc];exact f1
       ·cases hk
     ·simp only[ybz,yi] at h2 ⊢;rcases h2 with⟨⟨a1,a2⟩,a3⟩|⟨⟨a1,a2⟩,a3⟩
      ·exact .inl ⟨⟨a1,a2⟩,hget _ a3⟩
      ·exact .inr ⟨⟨a1,a2⟩,hget _ a3⟩
  obtain⟨c,hc1,hc2⟩:=hcm;rw[List.any_eq_true];refine⟨c,hc1, ?_⟩;rw[yba] at k6 ⊢;intro i hi;have:=k6 i hi;have hc:=ZAV h i;simp only[ybz] at this ⊢;rcases this with h0|h1
  ·left;have h0:(rs.map (·.cls)).getD i 0=0:=by simpa using h0
   have:(RS.map (·.cls)).getD i 0=0:=by omega
   simpa using this
  ·by_cases hz:(RS.map (·.cls)).getD i 0=0
   ·left;simpa using hz
   ·right;rw[yba] at h1 ⊢;intro j hj;have h2:=h1 j hj;have hd:=ZAV h j;simp only[ybz,yi,decide_eq_true_eq] at h2 ⊢;rcases h2 with(((h2|h2)|h2)|h2)|h2
    ·exact .inl (.inl (.inl (.inl h2)))
    ·refine .inl (.inl (.inl (.inr ?_)));have:(RS.map (·.cls)).getD j 0≠2:=by omega
     simpa using this
    ·exact .inl (.inl (.inr h2))
    ·refine .inl (.inr ⟨?_, ?_⟩)
     ·have:(RS.map (·.cls)).getD i 0=1:=by omega
      simpa using this
     ·have hf:=h2.2;unfold ZHQ at hf;unfold ZiE;split at hf
      ·rename_i r q hr hq;obtain⟨R,e1,e2⟩:=Zi0 h hr;obtain⟨Q,e3,e4⟩:=Zi0 h hq;rw[e1,e3];dsimp only;split at hf
       ·rename_i id hrd;rw[e2.2.1.1,hrd];dsimp only;rw[e4.2.2.2.1,e2.2.2.2.1];rw[yi] at hf ⊢;refine⟨hf.1, ?_⟩;have hf2:=hf.2;rw[e2.2.1.2];by_cases hex:r.ex=true
        ·rw[if_pos hex] at hf2 ⊢;exact e4.2.2.2.2.1 hf2
        rw[if_neg hex] at hf2 ⊢;rw[ybz] at hf2 ⊢;rcases hf2 with h5|h5
        ·left;split at h5
         ·rename_i l htc;rw[e4.2.2.1 l htc];exact h5
         ·cases h5
        ·right;exact@decide_eq_true _ (Classical.propDecidable _) (e4.2.2.2.2.2.2.2 id h5)
       ·cases hf
      ·cases hf
    ·exact .inr (hc2 i j h2)
def ZHR:TEnt→TEnt
 |.var d _=>.var d false
 |e=>e
def Zo7(ids:List Nat)(H:List TEnt):List TEnt:=(yq H.length).zipWith (λi e=>if ids.contains i then ZHR e else e) H
theorem ZJ7(e:TEnt):lkE (some (ZHR e))=lkE (some e):=by cases e <;> rfl
theorem Zti(ids:List Nat)(H:List TEnt)(i:Nat):(Zo7 ids H)[i]? =(H[i]?).map λe=>if ids.contains i then ZHR e else e:=by
 unfold Zo7;rw[List.getElem?_zipWith];rcases ybp i H.length with h|h
 ·rw[List.getElem?_range h,yac h];rfl
 ·rw[yan (by simpa using h),yan h];rfl
theorem ZwL(ids:List Nat)(H:List TEnt):lk (Zo7 ids H)=lk H:=by
 funext i;unfold lk;rw[Zti]
 cases H[i]? with
 |none=>rfl
 |some e=>
  show lkE (some (if ids.contains i=true then ZHR e else e))=_
  split
  ·exact ZJ7 e
  ·rfl
theorem ZFO(ids:List Nat)(H:List TEnt):WkH (erH H) (erH (Zo7 ids H)):=by
 refine ZCR (by rw[Zx,Zx];unfold Zo7;simp) λi a b h1 h2=> ?_;unfold erH at h1 h2;rw[yaf] at h1 h2;rw[ZwL,Zti] at h2
 cases he:H[i]? with
 |none=>rw[he] at h1;cases h1
 |some e=>
  rw[he] at h1 h2;cases h1;cases h2;show WkE (e.er (lk H)) (TEnt.er (lk H) (if ids.contains i=true then ZHR e else e))
  split
  ·cases e <;> first|exact .refl _|exact .frz
  ·exact .refl _
theorem ZHS{c:Code}{ts ts1:List Dv}{H0 H1 H2:List Ent}{ex:Ex}(h:WkH H0 H1)(r:YU P c ts H1 ex ts1 H2):YU P c ts H0 ex ts1 H2:=by
 intro σ a ok hH hrep;obtain⟨to,ok2⟩:=ZkY ok (H':=H1) (by rw[hH];exact h);refine wp_mono (r { σ with H:=H1} a ok2 rfl (hrep.to to.leaf)) ?_;rintro e a' w' ⟨rfl,σ2,q1,q2,q3,q4,q5⟩;exact⟨rfl,σ2,q1,q2,to.trans q3,q4,q5⟩
def ZHT(ops:List Oper)(all:List TD):Nat→Tmp→Option Nat
 |0,_=>none
 |n+1,x=>match ops.find? λo=>o.dst==some x with
  |some o=>match o.op with
   |.fieldAddr _ (.tmp y) _=>ZHT ops all n y
   |_=>none
  |none=>match all.getD x .junk with
   |.ref id _=>some id
   |_=>none
def ZNd(hi:HI)(ops:List Oper)(all:List TD)(o:Oper):Option Nat:=
 match o.op with
 |.slice _ (.tmp x) _ _ none=>if ZkA hi.frz o.dst then ZHT ops all 4 x else none
 |_=>none
def Ztj(hi:HI)(ops:Array Oper)(all:List TD)(H:List TEnt):List TEnt:=
 match hi.frz with
 |[]=>H
 |_=>match ops.toList.filterMap (ZNd hi ops.toList all) with
  |[]=>H
  |ids=>Zo7 ids H
theorem ZFP(hi:HI)(ops:Array Oper)(all:List TD)(H:List TEnt):WkH (erH H) (erH (Ztj hi ops all H))∧lk (Ztj hi ops all H)=lk H:=by
 unfold Ztj;split
 ·exact⟨WkH.refl _,rfl⟩
 ·split
  ·exact⟨WkH.refl _,rfl⟩
  ·exact⟨ZFO _ _,ZwL _ _⟩
def ZL4(P:yg)(hi:HI)(specs:Sp P)(ops:Array Oper)(all:List TD)(H:List TEnt)(K:List TD→List TEnt→Option O):Option O:=
 if P.follows .mixedOrders then ZEr P hi specs ops ops.toList all (Ztj hi ops all H) λa h rs _=>if ZEs ops (rs.map (·.cls)) (ZHQ rs) (ZEt rs)=true then K a h else none else none
theorem ZFQ{hi:HI}{specs:Sp P}{ops:Array Oper}{K:List TD→List TEnt→Option O}(ok:SpOk specs)(h:ZL4 P hi specs ops all H K=some out):∃a h,K a h=some out∧a.length=all.length∧∀id,YU P (.region id ops true) (TD.ers (lk H) all) (erH H) .normal (TD.ers (lk h) a) (erH h):=by
 unfold ZL4 at h;split at h
 ·rename_i hf;obtain⟨w1,w2⟩:=ZFP hi ops all H;generalize Ztj hi ops all H=H0 at h w1 w2;obtain⟨a,h',rs,hs,C,k1,k0,k2,k3⟩:=Ztg ok _ _ _ _ h;obtain⟨k4,k5⟩:=Za k1;refine⟨a,h',k5,k0,λid=> ?_⟩;obtain⟨RS,e1,e2⟩:=k3 [];rw[←w2];refine ZHS w1 (ZsK (hs:=hs) (hs':=[]) (C:=C) ?_ k2);simp only[ev,if_true];unfold Zxn;rw[if_pos hf];rw[ybj] at e1;rw[e1];dsimp only;rw[if_pos (ZJ6 e2 k4 (by have:=Zth e2;unfold ZEs at k4;simp only[yi] at k4;simpa using k4.1.1.1.1.1))];rfl
 ·cases h
theorem ZFR{hi:HI}{specs:Sp P}{ops:Array Oper}{K:List TD→List TEnt→List Hint→Option O}(ok:SpOk specs)(h:ZCW P hi specs ops ops.toList all H K=some out):∃a h hs,K a h hs=some out∧a.length=all.length∧∀id,YU P (.region id ops false) (TD.ers (lk H) all) (erH H) .normal (TD.ers (lk h) a) (erH h):=by
 obtain⟨a,h',hs,C,k1,k0,k2,k3⟩:=Zo6 ok _ _ _ _ h;refine⟨a,h',hs,k1,k0,λid=> ?_⟩;refine ZsK (hs:=hs) (hs':=[]) (C:=C) ?_ k2;have:=k3 [];rw[ybj] at this;simp only[ev,ybv,if_false,this];rfl
end
end Go.Ev
end
section
namespace Go.Ev
section
variable{P:yg}{a:Act}{σ:Sg}{ts:List Dv}
theorem Ztk{ops:Array Oper}(Q:Exit→Act→yy→Prop){ts':List Dv}(more:List Nat):∀(l:List Oper)(k:Nat)(ts:List Dv)(σ:Sg)(a:Act)(hs hs':List Hint)(C:List Prop)(H':List Ent),
 (∀(j:Nat)(x:Oper),l[j]? =some x→ops[k+j]? =some x)→Ok σ→RepT σ ts a→ZkX P ops l ts σ.H hs=some (C,ts',H',hs')→AllP C→
 (∀a' σ',σ'.H=H'→To σ σ'→Ok σ'→RepT σ' ts' a'→wpOps P ops Q more a' σ'.w)→wpOps P ops Q (List.range' k l.length++more) a σ.w
 |[],k,ts,σ,a,hs,hs',C,H',_,ok,hrep,h,hc,hQ=>by
  simp only[ZkX,yj,yl] at h;obtain⟨rfl,rfl,rfl,rfl⟩:=h
  exact hQ a σ rfl (To.refl σ) ok hrep
 |o::l,k,ts,σ,a,hs,hs',C,H',hl,ok,hrep,h,hc,hQ=>by
  simp only[ZkX] at h;split at h
  ·rename_i C1 d1 H1 hs1 h1;split at h
   ·rename_i C2 ts2 H2 hs2 h2;simp only[yj,yl] at h;obtain⟨rfl,rfl,rfl,rfl⟩:=h;obtain⟨c1,c2⟩:=Zj.1 hc;have h0:ops[k]? =some o:=by simpa using hl 0 o rfl
    simp only[yai,List.range'_succ,yaa,wpOps,h0]
    have key:=Zke (P:=P) (ops:=ops) ok hrep h1 c1 (wpOps P ops Q (List.range' (k+1) l.length++more)) Q (λv σ1 e1 to1 ok1 hrep1=>by
     subst e1
     exact Ztk Q more l (k+1) _ σ1 _ hs1 _ C2 _ (λj x hx=>by have:=hl (j+1) x (by simpa using hx);simpa[yce,Nat.add_comm 1 j] using this) ok1 hrep1 h2 c2
      (λa' σ' e2 to2 ok2 hrep2=>hQ a' σ' e2 (to1.trans to2) ok2 hrep2))
    by_cases hw:Region.wanted o (yielded ops a.tmps)=true
    ·rw[if_pos hw] at key ⊢;exact .inl key
    ·rw[if_neg hw] at key ⊢;exact key
   ·cases h
  ·cases h
theorem ZeU{ops:Array Oper}{Q:Exit→Act→yy→Prop}{i:Nat}{rest:List Nat}{o:Oper}{v:yh}{w w':yy}(g:ops[i]? =some o)(n:o.guard=none)(hx:(execOp a.eval o).run P w=.ok (.value v) w')
 (k:wpOps P ops Q rest (a.put o.dst v) w'):wpOps P ops Q (i::rest) a w:=by
 have hw:Region.wanted o (yielded ops a.tmps)=true:=by simp[Region.wanted,n]
 simp only[wpOps,g];rw[if_pos hw];refine .inl ?_;unfold Oper.wp;rw[hx];exact k
theorem ZCX{ops:Array Oper}{Q:Exit→Act→yy→Prop}{i:Nat}{rest:List Nat}{o:Oper}{w w':yy}(g:ops[i]? =some o)(n:o.guard=none)(hx:(execOp a.eval o).run P w=.ok .skip w')
 (k:wpOps P ops Q rest (a.put o.dst undef) w'):wpOps P ops Q (i::rest) a w:=by
 have hw:Region.wanted o (yielded ops a.tmps)=true:=by simp[Region.wanted,n]
 simp only[wpOps,g];rw[if_pos hw];refine .inl ?_;unfold Oper.wp;rw[hx];exact k
theorem Znu{t:Nat}{v:yh}(h:t < a.tmps.size):(a.put (some t) v).eval (.tmp t)=v:=by
 show(a.tmps.setIfInBounds t v).getD t undef=v;simp[ycv,Array.getElem?_setIfInBounds,h]
theorem Zi1{t s:Nat}{v:yh}(h:s≠t):(a.put (some t) v).eval (.tmp s)=a.eval (.tmp s):=by
 show(a.tmps.setIfInBounds t v).getD s undef=a.tmps.getD s undef;simp[ycv,Array.getElem?_setIfInBounds,h,Ne.symm h]
theorem Zkn{σ':Sg}{t:Nat}{v:yh}(h:RepT σ' ts a):RepT σ' (ts.set t .junk) (a.put (some t) v):=
 Zdx (o:={ (default:Oper) with dst:=some t}) h YN
theorem ZJ8{ops:Array Oper}{Q:Exit→Act→yy→Prop}{p t0 t1 t2 t3:Nat}{o1 o2 o3 o4 o5:Oper}(g1:ops[p]? =some o1)(g2:ops[p+1]? =some o2)(g3:ops[p+2]? =some o3)(g4:ops[p+3]? =some o4)(g5:ops[p+4]? =some o5)
 (n1:o1.guard=none) (n2:o2.guard=none) (n3:o3.guard=none) (n4:o4.guard=none) (n5:o5.guard=none) {t tt u t5 kt et e:yb} {m k y m5:yn} {c:Call} {id:Nat}
 (h1:o1.op=.mapEntry t m k) (d1:o1.dst=some t0) (h2:o2.op=.extract (.tmp t0) 0) (d2:o2.dst=some t1) (h3:o3.op=.call c) (hc:c.callee=.builtin .append) (ha:c.args.toList=[.tmp t1,y]) (hty:c.argTypes.toList=[tt,u]) (d3:o3.dst=some t2)
 (h4:o4.op=.extract (.tmp t0) 1) (d4:o4.dst=some t3) (h5:o5.op=.entryStore t5 m5 (.tmp t3) (.tmp t2)) (d5:o5.dst=none) (q01:t0≠t1) (q02:t0≠t2) (q23:t2≠t3) (l0:t0 < ts.length) (l1:t1 < ts.length) (l2:t2 < ts.length) (l3:t3 < ts.length)
 (ok:Ok σ) (hrep:RepT σ ts a) {kk:Pl} {tm:yb} {s0:Nat} {i:TypeInfo} {ys:List Pl} (hu:P.underlying t=some (.map kt et)) (hm:Zp P ts t m=.mp id) (hk:Zp P ts kt k=.p kk) (hH:σ.H[id]? =some (.map tm [])) (hkt:ZfZ P kt=true) (hfit:fitP P 20 kt kk)
 (hzt:Zka P et=true) (hzd:Yr P et=.p (.sl (some false) s0 [])) (htt:P.underlying tt=some (.slice e)) (hi:P.info? e=some i) (hz:zOk i=true) (hne:i.size≠0)
 (hsrc:ZeH P (P.cellsOf e) u (Zp P ((ts.set t0 .junk).set t1 .junk) u y)=some ys) (hb:ys.length*i.bytes≤Zo) (hmx:ys.length≤maxLen) (hm5:Zp P ((((ts.set t0 .junk).set t1 .junk).set t2 .junk).set t3 .junk) t5 m5=.mp id)
 (hQ:∀a' σ',σ'.H=σ.H.set id (.map tm [(kk,.sl none (P.cellsOf e) ys)])→To σ σ'→Ok σ'→RepT σ' ((((ts.set t0 .junk).set t1 .junk).set t2 .junk).set t3 .junk) a'→Q .normal a' σ'.w):wpOps P ops Q [p,p+1,p+2,p+3,p+4] a σ.w:=by
 have hmv:=Zi (P:=P) hrep t m;rw[hm] at hmv;obtain⟨b,hmb,hmv⟩:=ZlR hmv;have hkv:=Zi (P:=P) hrep kt k;rw[hk] at hkv;obtain⟨b',es,clock,e1,hbk,hkr,hbo⟩:=ok.ent id _ _ hH hmb;cases e1
 have hes:es= #[]:=by
  have:=ZoV _ _ (Zwg hkr);have h0:es.toList=[]:=yaz this;exact Array.toList_inj.1 h0
 subst hes;obtain⟨F,hF,hrunF⟩:=ZaI (P:=P) hkt hfit hkv;have hchk:=XA (em:=false) 20 kt kk _ hfit hkv 9980
 have hfind:(Instr.findKey kt (a.eval k) ([]:List MapEntry)).run P σ.w=.ok none σ.w:=by
  rcases ZsC (v:=kk) hF [] [] 0 [(kk,kk)] (Zwg hkr) (λq hq=>by cases hq) (by simp[VG]) with⟨j,e',_,f2,_⟩|⟨f1,_⟩
  ·simp at f2
  ·exact hrunF _ _ f1
 obtain⟨zv,hzv,hzr⟩:∃z,(zeroValue et).run P σ.w=.ok z σ.w∧repDV σ (Yr P et) z:=by
  unfold Zka at hzt;split at hzt
  ·rename_i i hi
   cases hzz:i.zero with
   |none=>simp[hzz] at hzt
   |some z=>
    refine⟨z,by simp[zeroValue,typeInfo,hi,hzz], ?_⟩;unfold Yr;rw[hi];simp only[hzz];exact Wh
  ·cases hzt
 rw[hzd] at hzr;have hzn:=Zp0 hzr;subst hzn;let en:MapEntry:={ key:=a.eval k,val:=.slice none 0 0,born:=clock};obtain⟨to1,ok1⟩:=Qn (es':= #[en]) (clock':=clock+1) ok hH hmb hbk (l:=[(kk,.sl (some false) s0 [])]) (Zwh ⟨hkv,hzr,ytt⟩) (Zkd (es:= #[]) hbo rfl);let σ1:Sg:={ σ with m:=σ.m.set id (some b),H:=σ.H.set id (.map tm [(kk,.sl (some false) s0 [])]),w:={ σ.w with heap:=σ.w.heap.setIfInBounds b (.map #[en] (clock+1))}};have to1:To σ σ1:=to1;have ok1:Ok σ1:=ok1
 have x1:(execOp a.eval o1).run P σ.w=.ok (.value (.tuple #[.slice none 0 0,goInt clock])) σ1.w:=by
  have:(Instr.mapEntry t (a.eval m) (a.eval k)).run P σ.w=.ok (.tuple #[.slice none 0 0,goInt clock]) σ1.w:=by
   simp only[Instr.mapEntry,Sem.run_bind,run_underlying hu,Result.andThen_ok,hmv,Xj hbk,hchk,hfind,hzv,Go.MapKept.run_setObj_map _ hbk,Sem.run_pure];rfl
  simp[execOp,h1,this]
 refine ZeU g1 n1 x1 ?_;rw[d1];have r1:RepT σ1 (ts.set t0 .junk) (a.put (some t0) (.tuple #[.slice none 0 0,goInt clock])):=Zkn (hrep.to to1.leaf);generalize ha1:a.put (some t0) (.tuple #[.slice none 0 0,goInt clock])=a1 at r1 ⊢;have ht0:t0 < a.tmps.size:=by rw[hrep.size];exact l0
 have v1:a1.eval (.tmp t0)=.tuple #[.slice none 0 0,goInt clock]:=by rw[←ha1];exact Znu ht0
 have x2:(execOp a1.eval o2).run P σ1.w=.ok (.value (.slice none 0 0)) σ1.w:=by
  have:(Instr.extract (a1.eval (.tmp t0)) 0).run P σ1.w=.ok (.slice none 0 0) σ1.w:=by rw[v1];simp[Instr.extract]
  simp[execOp,h2,this]
 refine ZeU g2 n2 x2 ?_;rw[d2];have r2:RepT σ1 ((ts.set t0 .junk).set t1 .junk) (a1.put (some t1) (.slice none 0 0)):=Zkn r1;have s1:t1 < a1.tmps.size:=by rw[r1.size,ybc];exact l1
 generalize ha2:a1.put (some t1) (.slice none 0 0)=a2 at r2 ⊢;have v2:a2.eval (.tmp t1)=.slice none 0 0:=by rw[←ha2];exact Znu s1
 have v20:a2.eval (.tmp t0)=.tuple #[.slice none 0 0,goInt clock]:=by rw[←ha2,Zi1 q01];exact v1
 have hce:P.cellsOf e=i.size:=by simp[Program.cellsOf,hi]
 have key:∃v3 w3,(execOp a2.eval o3).run P σ1.w=.ok (.value v3) w3∧To σ1 { σ1 with w:=w3}∧Ok { σ1 with w:=w3}∧w3.heap[b]? =some (.map #[en] (clock+1))∧repDV { σ1 with w:=w3} (.p (.sl none (P.cellsOf e) ys)) v3:=by
  obtain⟨gs1,gs2⟩:=Go.MapKept.heap_set (w:=σ.w) (o':=.map #[en] (clock+1)) hbk;rcases Wt (P:=P) (ty:=o3.type) (u:=u) (y:=y) ok1 r2 htt hi hz hne (Qk (P:=P) r2 hsrc) hb hmx with⟨rfl,hrun⟩|⟨news,rest,hys,hall,hr,hge,hcm,hcs,hrun⟩
  ·exact⟨_,σ1.w,Z1 h3 hc ha hty (by rw[v2];exact hrun),To.refl σ1,ok1,gs1,Z7 (λ_ hx=>by cases hx) (ym _) (by simp[maxLen]) (ZY _) (λ_=>rfl) (λh=>absurd rfl h)⟩
  ·have hg:=Yu σ1.w (.cells (news.toArray++rest) e) none;obtain⟨to,ok'⟩:=ZmU ok1 hg;have hlen:news.length=ys.length*i.size:=by rw[repCs_size _ _ hr,sizes_all hall]
   have hlt:b < σ1.w.heap.size:=ok1.lt id b (getElem?_set_eq' hmb);refine⟨_,_,Z1 h3 hc ha hty (by rw[v2];exact hrun),to,ok',(hg.block b hlt (by simp)).trans gs1, ?_⟩;rw[hce];exact Zsq (ZY _) ok' hall (repCs_mono to.leaf.cells _ _ hr) (b:=σ1.w.heap.size) (cells:=news) (heap_alloc_new σ1.w.drew _) (ok1.new _ (ym _)) (ZcD ok1) (by simp) hge hcm
 obtain⟨v3,w3,x3,to3,ok3,hb3,hv3⟩:=key;refine ZeU g3 n3 x3 ?_;rw[d3];let σ3:Sg:={ σ1 with w:=w3};have r3:RepT σ3 (((ts.set t0 .junk).set t1 .junk).set t2 .junk) (a2.put (some t2) v3):=Zkn (r2.to to3.leaf);have s2:t2 < a2.tmps.size:=by rw[r2.size,ybc,ybc];exact l2
 generalize ha3:a2.put (some t2) v3=a3 at r3 ⊢;have v30:a3.eval (.tmp t0)=.tuple #[.slice none 0 0,goInt clock]:=by rw[←ha3,Zi1 q02];exact v20
 have v32:a3.eval (.tmp t2)=v3:=by rw[←ha3];exact Znu s2
 have x4:(execOp a3.eval o4).run P w3=.ok (.value (goInt clock)) w3:=by
  have:(Instr.extract (a3.eval (.tmp t0)) 1).run P w3=.ok (goInt clock) w3:=by rw[v30];simp[Instr.extract]
  simp[execOp,h4,this]
 refine ZeU g4 n4 x4 ?_;rw[d4];have r4:RepT σ3 ((((ts.set t0 .junk).set t1 .junk).set t2 .junk).set t3 .junk) (a3.put (some t3) (goInt clock)):=Zkn r3;have s3:t3 < a3.tmps.size:=by rw[r3.size,ybc,ybc,ybc];exact l3
 generalize ha4:a3.put (some t3) (goInt clock)=a4 at r4 ⊢;have v43:a4.eval (.tmp t3)=goInt clock:=by rw[←ha4];exact Znu s3
 have v42:a4.eval (.tmp t2)=v3:=by rw[←ha4,Zi1 q23];exact v32
 have hm5v:=Zi (P:=P) r4 t5 m5;rw[hm5] at hm5v;obtain⟨b5,hmb5,hm5v⟩:=ZlR hm5v;have hmb1:σ3.m[id]? =some (some b):=getElem?_set_eq' hmb;rw[hmb1] at hmb5;cases hmb5;have hH3:σ3.H[id]? =some (.map tm [(kk,.sl (some false) s0 [])]):=getElem?_set_eq' hH;let en5:MapEntry:={ key:=a.eval k,val:=v3,born:=clock};obtain⟨to5,ok5⟩:=Qn (es':= #[en5]) (clock':=clock+1) ok3 hH3 hmb1 hb3 (l:=[(kk,.sl none (P.cellsOf e) ys)]) (Zwh ⟨Wc to3.leaf (Wc to1.leaf hkv),hv3,ytt⟩) (Zkd (es:= #[]) hbo rfl)
 have x5:(execOp a4.eval o5).run P w3=.ok .skip { w3 with heap:=w3.heap.setIfInBounds b (.map #[en5] (clock+1))}:=by
  have hmod:(#[en].modify 0 λe=>{ e with val:=v3})= #[en5]:=by
   apply Array.ext';simp[en,en5,Array.toList_modify]
  have hfi:(#[en].findIdx? λe=>(e.born:Int)==(clock:Int))=some 0:=by
   simp[Array.findIdx?,Array.findIdx?.loop,en]
  have:(Instr.entryStore t5 (a4.eval m5) (a4.eval (.tmp t3)) (a4.eval (.tmp t2))).run P w3=.ok () { w3 with heap:=w3.heap.setIfInBounds b (.map #[en5] (clock+1))}:=by
   rw[hm5v,v43,v42];simp only[Instr.entryStore,goInt,asInt,asIntOf,Sem.run_bind,Xj hb3,Result.andThen_ok,Sem.run_pure,hfi,hmod,Go.MapKept.run_setObj_map _ hb3]
  simp[execOp,h5,this]
 refine ZCX g5 n5 x5 ?_;rw[d5];refine hQ a4 _ ?_ (to1.trans (to3.trans to5)) ok5 (r4.to to5.leaf);show(σ.H.set id (.map tm [(kk,.sl (some false) s0 [])])).set id (.map tm [(kk,.sl none (P.cellsOf e) ys)])=_;rw[List.set_set]
end
end Go.Ev
end
section
namespace Go.Ev
section
variable{P:yg}{all:List TD}{H:List TEnt}{O:Type}{out:O}
def ZJ9(o:Oper):Option (yb×yn×yn×Tmp):=
 match o.op,o.dst,o.guard with
 |.mapEntry t m k,some d,none=>some (t,m,k,d)
 |_,_,_=>none
theorem ZFS{o:Oper}{q:yb×yn×yn×Tmp}(h:ZJ9 o=some q):o.op=.mapEntry q.1 q.2.1 q.2.2.1∧o.dst=some q.2.2.2∧o.guard=none:=by
 unfold ZJ9 at h;split at h
 ·rename_i h1 h2 h3;cases h;exact⟨h1,h2,h3⟩
 ·cases h
def ZKa(o:Oper)(t n:Nat):Option Tmp:=
 match o.op,o.dst,o.guard with
 |.extract (.tmp x) m,some d,none=>if(decide (x=t)&&decide (m=n))=true then some d else none
 |_,_,_=>none
theorem ZwM{o:Oper}{t n:Nat}{q:Tmp}(h:ZKa o t n=some q):o.op=.extract (.tmp t) n∧o.dst=some q∧o.guard=none:=by
 unfold ZKa at h;split at h
 ·rename_i h1 h2 h3;obtain⟨h4,h9⟩:=Za h;clear h;simp only[yi,decide_eq_true_eq] at h4;obtain⟨rfl,rfl⟩:=h4;cases h9;exact⟨h1,h2,h3⟩
 ·cases h
structure ApO where
 c:Call
 y:yn
 t:yb
 u:yb
 d:Tmp
def ZL5(o:Oper)(t:Nat):Option ApO:=
 match o.op,o.dst,o.guard with
 |.call c,some d,none=>match c.callee with
  |.builtin .append=>match c.args.toList,c.argTypes.toList with
   |[.tmp x,y],[tt,u]=>if decide (x=t)=true then some ⟨c,y,tt,u,d⟩ else none
   |_,_=>none
  |_=>none
 |_,_,_=>none
theorem ZFT{o:Oper}{t:Nat}{q:ApO}(h:ZL5 o t=some q):o.op=.call q.c∧q.c.callee=.builtin .append∧q.c.args.toList=[.tmp t,q.y]∧q.c.argTypes.toList=[q.t,q.u]∧o.dst=some q.d∧o.guard=none:=by
 unfold ZL5 at h;split at h
 ·rename_i h1 h2 h3;split at h
  ·rename_i h4;split at h
   ·rename_i h5 h6;obtain⟨h7,h9⟩:=Za h;clear h;have h7:=of_decide_eq_true h7;subst h7;cases h9;exact⟨h1,h4,h5,h6,h2,h3⟩
   ·cases h
  ·cases h
 ·cases h
def ZL6(o:Oper)(s v:Nat):Option (yb×yn):=
 match o.op,o.dst,o.guard with
 |.entryStore t m (.tmp x) (.tmp y),none,none=>if(decide (x=s)&&decide (y=v))=true then some (t,m) else none
 |_,_,_=>none
theorem ZFU{o:Oper}{s v:Nat}{q:yb×yn}(h:ZL6 o s v=some q):o.op=.entryStore q.1 q.2 (.tmp s) (.tmp v)∧o.dst=none∧o.guard=none:=by
 unfold ZL6 at h;split at h
 ·rename_i h1 h2 h3;obtain⟨h4,h9⟩:=Za h;clear h;simp only[yi,decide_eq_true_eq] at h4;obtain⟨rfl,rfl⟩:=h4;cases h9;exact⟨h1,h2,h3⟩
 ·cases h
def ZNe(P:yg)(t:yb)(m k:yn)(tt u:yb)(y:yn)(t5:yb)(m5:yn)(all all3 all5:List TD)(H:List TEnt)(K:List TEnt→Option O):Option O:=
 match P.underlying t,arT P all t m,arT P all5 t5 m5,P.underlying tt with
 |some (.map kt et),some (.mp id),some (.mp id'),some (.slice e)=>(ZsY H id).bind λme=>(arT P all kt k).bind λkd=>(ZAt kd me.k).bind λkey=>(Zqb P et).bind λz=>
  match z with
  |.sl (some false) _ []=>(P.info? e).bind λi=>(ZgU P tyD e).bind λT=>(arT P all3 u y).bind λyd=>(ZxF (lk H) P T u yd).bind λys=>(TP.to Zfy (.v (.sl T) ys) me.v).bind λv=>
   if(decide (id=id')&&me.l.isEmpty&&Zk0 P kt me.k&&Zka P et&&zOk i&&decide (i.size≠0)&&decide (P.cellsOf e=T.size)&&ZAk ys.length i.bytes)=true then
    K (H.set id (.map me.tid me.k me.v [(key,v)])) else none
  |_=>none
 |_,_,_,_=>none
def ZEu(P:yg)(l:List Oper)(all:List TD)(H:List TEnt)(K:List TD→List TEnt→Option O):Option O:=
 match l with
 |[o1,o2,o3,o4,o5]=>(ZJ9 o1).bind λq1=>(ZKa o2 q1.2.2.2 0).bind λt1=>(ZL5 o3 t1).bind λq3=>(ZKa o4 q1.2.2.2 1).bind λt3=>(ZL6 o5 t3 q3.d).bind λq5=>
  if(decide (q1.2.2.2≠t1)&&decide (q1.2.2.2≠q3.d)&&decide (q3.d≠t3)&&decide (q1.2.2.2 < all.length)&&decide (t1 < all.length)&&decide (q3.d < all.length)&&decide (t3 < all.length))=true then
   ZNe P q1.1 q1.2.1 q1.2.2.1 q3.t q3.u q3.y q5.1 q5.2 all ((all.set q1.2.2.2 .junk).set t1 .junk) ((((all.set q1.2.2.2 .junk).set t1 .junk).set q3.d .junk).set t3 .junk) H
    (K ((((all.set q1.2.2.2 .junk).set t1 .junk).set q3.d .junk).set t3 .junk))
  else none
 |_=>none
theorem Zbi{L:Lk}(l:List TD)(i:Nat)(d:TD):TD.ers L (l.set i d)=(TD.ers L l).set i (d.er L):=by rw[Zv,Zv,ybb]
theorem ZCY{ops:Array Oper}{l:List Oper}{p:Nat}{K:List TD→List TEnt→Option O}(hops:∀(j:Nat)(x:Oper),l[j]? =some x→ops[p+j]? =some x)(h:ZEu P l all H K=some out):
 ∃a H',K a H'=some out∧a.length=all.length∧l.length=5∧∀(Q:Exit→Act→yy→Prop)(act:Act)(σ:Sg),Ok σ→σ.H=erH H→RepT σ (TD.ers (lk H) all) act→
  (∀a' σ',σ'.H=erH H'→To σ σ'→Ok σ'→RepT σ' (TD.ers (lk H') a) a'→Q .normal a' σ'.w)→wpOps P ops Q (List.range' p 5) act σ.w:=by
 unfold ZEu at h;split at h
 ·rename_i o1 o2 o3 o4 o5;obtain⟨⟨t,m,k,t0⟩,h1,h⟩:=yc.1 h;obtain⟨t1,h2,h⟩:=yc.1 h;obtain⟨⟨c,y,tt,u,t2⟩,h3,h⟩:=yc.1 h;obtain⟨t3,h4,h⟩:=yc.1 h;obtain⟨⟨t5,m5⟩,h5,h⟩:=yc.1 h;obtain⟨hq,h⟩:=Za h;obtain⟨a1,a2,a3⟩:=ZFS h1;obtain⟨b1,b2,b3⟩:=ZwM h2;obtain⟨c1,c2,c3,c4,c5,c6⟩:=ZFT h3;obtain⟨d1,d2,d3⟩:=ZwM h4;obtain⟨e1,e2,e3⟩:=ZFU h5;simp only[yi,decide_eq_true_eq] at hq;obtain⟨⟨⟨⟨⟨⟨q1,q2⟩,q3⟩,q4⟩,q5⟩,q6⟩,q7⟩:=hq;dsimp only at h a1 a2 b1 c1 c2 c3 c4 c5 d1 e1 q1 q2 q3 q4 q5 q6 q7;unfold ZNe at h;split at h
  ·rename_i kt et id id' e hu hm hm5 htt;obtain⟨me,f1,h⟩:=yc.1 h;obtain⟨kd,f2,h⟩:=yc.1 h;obtain⟨key,f3,h⟩:=yc.1 h;obtain⟨z,f4,h⟩:=yc.1 h;split at h
   ·rename_i zt;obtain⟨i,f5,h⟩:=yc.1 h;obtain⟨T,f6,h⟩:=yc.1 h;obtain⟨yd,f7,h⟩:=yc.1 h;obtain⟨ys,f8,h⟩:=yc.1 h;obtain⟨v,f9,h⟩:=yc.1 h;obtain⟨f10,h99⟩:=Za h;clear h;simp only[yi,decide_eq_true_eq] at f10;obtain⟨⟨⟨⟨⟨⟨⟨r1,r2⟩,r3⟩,r4⟩,r5⟩,r6⟩,r7⟩,r8⟩:=f10;subst r1;obtain⟨g1,g2⟩:=ZaN f1;have hle:=List.isEmpty_iff.1 r2;have hlk:lk (H.set id (.map me.tid me.k me.v [(key,v)]))=lk H:=XI g1 rfl rfl;have hv:Pl.sl none T.size (ys.map T.enc)=me.v.enc v:=Zf7 _ _ _ f9;refine⟨_,_,h99,by simp,rfl,λQ act σ ok hH hrep hQ=> ?_⟩;have hk:=Zn (L:=lk H) f2;rw[ZiW f3] at hk;have hmm:=Zn (L:=lk H) hm;rw[TD.er] at hmm;have hm5':=Zn (L:=lk H) hm5;rw[TD.er] at hm5';have hy:=Zn (L:=lk H) f7;rw[hle] at g2;obtain⟨s1,s2⟩:=VI r8
    refine ZJ8 (P:=P) (σ:=σ) (ts:=TD.ers (lk H) all) (a:=act) (Q:=Q) (p:=p) (o1:=o1) (o2:=o2) (o3:=o3) (o4:=o4) (o5:=o5) (by simpa using hops 0 o1 rfl) (hops 1 o2 rfl) (hops 2 o3 rfl) (hops 3 o4 rfl) (hops 4 o5 rfl)
     a3 b3 c6 d3 e3 a1 a2 b1 b2 c1 c2 c3 c4 c5 d1 d2 e1 e2 q1 q2 q3 (by rw[QK];exact q4) (by rw[QK];exact q5) (by rw[QK];exact q6) (by rw[QK];exact q7)
     ok hrep (kk:=me.k.enc key) (tm:=me.tid) (s0:=zt.size) (ys:=ys.map T.enc) (i:=i) hu hmm hk (by rw[hH];exact g2) (Zo3 r3) (QQ r3 key) r4 (Zgb f4) htt f5 r5 r6 ?_ (by rw[yx];exact s1) (by rw[yx];exact s2) ?_ ?_
    ·rw[Zbi,Zbi] at hy;rw[r7];rw[show(Dv.junk)=TD.er (lk H) .junk from rfl,hy]
     exact ZgW f8
    ·rw[Zbi,Zbi,Zbi,Zbi] at hm5';exact hm5'
    ·intro a' σ' w1 w2 w3 w4;refine hQ a' σ' ?_ w2 w3 ?_
     ·rw[Yo hlk,w1,hH,r7,hv];rfl
     ·rw[hlk,Zbi,Zbi,Zbi,Zbi];exact w4
   ·cases h
  ·cases h
 ·cases h
def ZL7(ops:Array Oper):Bool:=
 match ops.toList.drop (ops.size - 5) with
 |[o1,_,_,_,_]=>(ZJ9 o1).isSome
 |_=>false
theorem ZFV{hi:HI}{specs:Sp P}{ops:Array Oper}{K:List TD→List TEnt→Option O}(ok:SpOk specs)
 (h:ZCW P hi specs ops (ops.toList.take (ops.size - 5)) all H (λa h _=>ZEu P (ops.toList.drop (ops.size - 5)) a h K)=some out):
 ∃a h,K a h=some out∧a.length=all.length∧∀id,YU P (.region id ops false) (TD.ers (lk H) all) (erH H) .normal (TD.ers (lk h) a) (erH h):=by
 obtain⟨a,h',hs,C,k1,k0,k2,k3⟩:=Zo6 ok _ _ _ _ h
 have hops:∀(j:Nat)(x:Oper),(ops.toList.drop (ops.size - 5))[j]? =some x→ops[(ops.size - 5)+j]? =some x:=λj x hj=>by
  rw[List.getElem?_drop] at hj;simpa using hj
 obtain⟨a2,h2,j1,j2,j3,j4⟩:=ZCY hops k1;refine⟨a2,h2,j1,by rw[j2,k0],λid=> ?_⟩;intro σ act okσ hH hrep;refine wp_region ?_;have e0:=k3 [];rw[ybj] at e0
 have hl:ops.size=(ops.size - 5)+5:=by
  rw[List.length_drop,Array.length_toList] at j3;omega
 have hr:yq ops.size=List.range' 0 (ops.toList.take (ops.size - 5)).length++List.range' (ops.size - 5) 5:=by
  rw[List.length_take,Array.length_toList,Nat.min_eq_left (by omega),List.range_eq_range']
  conv=>lhs;rw[hl]
  have:=List.range'_append (s:=0) (m:=ops.size - 5) (n:=5) (step:=1);simp only[yax,Nat.one_mul] at this;exact this.symm
 rw[hr];refine Ztk (P:=P) (ops:=ops) _ (List.range' (ops.size - 5) 5) _ 0 _ σ act hs [] C _ (λj x hj=> ?_) okσ hrep (by rw[hH];exact e0) k2 ?_
 ·rw[ycd] at hj;split at hj
  ·simpa using hj
  ·cases hj
 ·intro a' σ' e1 to1 ok1 hrep1;refine j4 _ a' σ' ok1 e1 hrep1 λa'' σ'' e2 to2 ok2 hrep2=> ?_;exact⟨rfl,σ'',rfl,e2,to1.trans to2,ok2,hrep2⟩
end
end Go.Ev
end
section
namespace Go.Ev
def Yw(H H':List Ent):Prop:=∀σ:Sg,Ok σ→σ.H=H→∃σ':Sg,σ'.w=σ.w∧σ'.H=H'∧To σ σ'∧Ok σ'
theorem Yw.refl(H:List Ent):Yw H H:=λσ ok h=>⟨σ,rfl,h,To.refl σ,ok⟩
theorem Yw.trans{A B C:List Ent}(h:Yw A B)(k:Yw B C):Yw A C:=λσ ok e=>by
 obtain⟨σ1,a1,a2,a3,a4⟩:=h σ ok e;obtain⟨σ2,b1,b2,b3,b4⟩:=k σ1 a4 a2;exact⟨σ2,b1.trans a1,b2,a3.trans b3,b4⟩
theorem ZEv{H H':List Ent}(h:WkH H H'):Yw H H':=λσ ok e=>by
 subst e;obtain⟨to,ok'⟩:=ZkY ok h;exact⟨{ σ with H:=H'},rfl,rfl,to,ok'⟩
theorem ZKb{P:yg}{c:Code}{ts ts1 ts2:List Dv}{H H1 H2:List Ent}{ex:Ex}(h:Yw H H1∧∀(σ:Sg)(a:Act),RepT σ ts a→RepT σ ts1 a)(r:YU P c ts1 H1 ex ts2 H2):YU P c ts H ex ts2 H2:=by
 intro σ a ok hH hrep;obtain⟨σ1,e1,e2,e3,e4⟩:=h.1 σ ok hH;have:=r σ1 a e4 e2 (h.2 _ _ (hrep.to e3.leaf));rw[e1] at this;refine wp_mono this ?_;rintro e' a' w' ⟨rfl,σ2,q1,q2,q3,q4,q5⟩;exact⟨rfl,σ2,q1,q2,e3.trans q3,q4,q5⟩
theorem ZCZ{H:List Ent}{j:Nat}{x x' y:Ent}(hj:H[j]? =some x)
 (hy:∀σ:Sg,entOk σ none y)
 (hvar:(∃d st,x=.var d st)→∃d st,x'=.var d st) (hmap:(∃t kvs,x=.map t kvs)→∃t kvs,x'=.map t kvs) (hlog:∀s e xs,x≠ .log s e xs)
 (hunl:∀o,x.unlocked o→x'.unlocked o)
 (hrow:∀v s st e d,x=.row v s st e d→∃st' d',x'=.row v s st' e d')
 (hent:∀(σ:Sg)(mi:Option Nat),σ.H[H.length]? =some y→σ.m[H.length]? =some none→entOk σ mi x→entOk σ mi x'):Yw H ((H++[y]).set j x'):=by
 intro σ ok hH;subst hH;have hjl:j < σ.H.length:=(yo.1 hj).1;obtain⟨to1,ok1⟩:=Xz (σ':={ σ with m:=σ.m++[none],H:=σ.H++[y]}) ok rfl rfl rfl rfl (World.grownBy.refl σ.w none) (.inl rfl) (λ_=>hy _);obtain⟨mi,hm⟩:∃mi,σ.m[j]? =some mi:=⟨_,yac (by rw[ok.len];exact hjl)⟩;let σ1:Sg:={ σ with m:=σ.m++[none],H:=σ.H++[y]};let σ2:Sg:={ σ1 with m:=σ1.m.set j mi,H:=σ1.H.set j x'}
 have hH1:σ1.H[j]? =some x:=by
  show(σ.H++[y])[j]? =_;rw[yah hjl];exact hj
 have hm1:σ1.m[j]? =some mi:=by
  show(σ.m++[none])[j]? =_;rw[yah (by rw[ok.len];exact hjl)];exact hm
 have hx:=ok1.ent j x mi hH1 hm1
 obtain⟨to2,ok2⟩:=Yz (σ':=σ2) (mi:=mi) (mi':=mi) ok1 hH1 hm1 rfl rfl rfl rfl rfl rfl rfl (ym _)
  (λ_ _ _=>rfl) (λ_ _ _ _ _ h=>h) (λo _ hu=>hunl o hu) (.inl rfl) (λq=>⟨rfl,hvar q⟩) (λq=>⟨rfl,hmap q⟩) (λs e xs q=>absurd q (hlog s e xs))
  (λleaf=>by
    refine hent σ2 mi ?_ ?_ (ZaE leaf (λb _=>rfl) hx)
    ·show(σ1.H.set j _)[σ.H.length]? =_;rw[ybg,if_neg (by omega)];simp[σ1]
    ·show(σ1.m.set j _)[σ.H.length]? =_;rw[ybg,if_neg (by omega)];show(σ.m++[none])[σ.H.length]? =_;rw[yam (by rw[ok.len];exact ym _),ok.len];simp)
  (λv s st e d q=>by
    obtain⟨st',d',q'⟩:=hrow v s st e d q;exact⟨v,st',d',q',ym _,λ_=>⟨rfl,λb cur _ hc=>⟨cur,hc,rfl⟩⟩⟩)
 exact⟨σ2,rfl,rfl,to1.trans to2,ok2⟩
theorem Zo8{σ:Sg}{s:Nat}{a:List yh}(h:repD σ (.p (.sl (some false) s [])) a):a=[.slice none 0 0]:=by
 simp only[repD,repC] at h;obtain⟨_,A,c,rfl,w1,w2,w3,w4,w5⟩:=h
 have hA:A=none:=by
  have:=w3 false rfl
  cases A with
  |none=>rfl
  |some _=>cases this
 subst hA;have hc:=w4 rfl;subst hc;rfl
theorem ZEw{H:List Ent}{j s:Nat}{e:yb}{d d':Dv}{st:Bool}{path:List Nat}(hj:H[j]? =some (.var d st))(hg:Yy d path s (.rv H.length 0 s 0 0)=some d'):
 Yw H ((H++[Ent.row 0 s true e (.p (.arr 0 s []))]).set j (.var d' st)):=by
 have hsz:=Vo path d d' s _ rfl hg;refine ZCZ hj (λσ=>⟨0,by simp[rowN],.inl ⟨rfl,rfl⟩⟩) (λ_=>⟨_,_,rfl⟩) (λ⟨_,_,q⟩=>by cases q) (λ_ _ _ q=>by cases q) (λo hu=>hu) (λ_ _ _ _ _ q=>by cases q) ?_;rintro σ mi h1 h2 ⟨b,cs,t,rfl,q2,q3,q4⟩;refine⟨b,cs,t,rfl,q2, ?_,by rw[hsz];exact q4⟩;rw[hsz];refine Qo path d d' s _ (λa ha=> ?_) hg _ q3;have:=Zo8 ha;subst this;simp only[repD];exact⟨none,0,rfl,ym _,by simp[maxLen],λ_=>rfl,λh=>absurd h (Nat.lt_irrefl 0),0,s,true,e,_,h1,ym _,λ_=>⟨rfl,.inl ⟨h2,rfl,rfl⟩⟩⟩
theorem ZHU{H:List Ent}{j s s' v N:Nat}{st:Bool}{e e':yb}{xs:List Pl}{k:Nat}{x:Pl}{y:Dv}{path:List Nat}(hj:H[j]? =some (.row v s st e (.p (.arr N s xs))))(hx:xs[k]? =some x)
 (hg:Yy (.p x) path s' (.own H.length none s' [])=some y):Yw H ((H++[Ent.log s' e' []]).set j (.row v s st e (.arr N s ((xs.map .p).set k y)))):=by
 have hsz:=Vo path (.p x) y s' _ rfl hg;refine ZCZ hj (λσ=>.inl ⟨rfl,rfl⟩) (λ⟨_,_,q⟩=>by cases q) (λ⟨_,_,q⟩=>by cases q) (λ_ _ _ q=>by cases q) (λo hu=> ?_) (λv2 s2 st2 e2 d2 q=>by cases q;exact⟨_,_,rfl⟩) ?_
 ·obtain⟨u1,N',u2,u3⟩:=hu;exact⟨u1,N',by rw[←u2];simp[rowN],u3⟩
 rintro σ mi h1 h2 ⟨N',q1,q2⟩;refine⟨N',by rw[←q1];simp[rowN], ?_⟩;rcases q2 with q2|⟨b,cur,cap,e3,e4,e5,e6,e7,e8⟩
 ·exact .inl q2
 refine .inr ⟨b,cur,cap,e3,e4,e5,e6,e7, ?_⟩;have hk:(xs.map Dv.p)[k]? =some (.p x):=by rw[yaf,hx];rfl
 simp only[repD,repC] at e8 ⊢;obtain⟨r1,r2,r3⟩:=e8;refine⟨by simpa using r1,λz hz=> ?_, ?_⟩
 ·rcases List.mem_or_eq_of_mem_set hz with hz|hz
  ·obtain⟨w,hw,rfl⟩:=List.mem_map.1 hz;exact r2 w hw
  ·subst hz;rw[hsz];exact r2 x (ybm hx)
 ·refine Zf4 (x:=.p x) (y:=y) (λa ha=>Qo path (.p x) y s' _ (λa ha=> ?_) hg a ha) _ k _ hk (ZcA.2 r3);have:=Zo8 ha;subst this;simp only[repD];exact⟨λ_ hx=>(by cases hx),none,0,rfl,ym _,by simp[maxLen],ZY _,λ_=>rfl,λh=>absurd rfl h,e',[],h1,ym _,λ_=>.inl ⟨h2,rfl,rfl⟩⟩
theorem ZKc{H:List Ent}{j:Nat}{d d':Dv}{st:Bool}(hj:H[j]? =some (.var d st))(hsz:d'.size=d.size)(hd:∀σ:Sg,Ok σ→σ.H=H→∀us,repD σ d us→repD σ d' us):Yw H (H.set j (.var d' st)):=by
 intro σ ok hH;subst hH;have hjl:j < σ.H.length:=(yo.1 hj).1;obtain⟨mi,hm⟩:∃mi,σ.m[j]? =some mi:=⟨_,yac (by rw[ok.len];exact hjl)⟩;let σ2:Sg:={ σ with m:=σ.m.set j mi,H:=σ.H.set j (.var d' st)};obtain⟨b,cs,t,rfl,q2,q3,q4⟩:=ok.ent j _ mi hj hm;have q5:=hd σ ok rfl _ q3
 obtain⟨to2,ok2⟩:=Yz (σ':=σ2) (mi:=some b) (mi':=some b) ok hj hm rfl rfl rfl rfl rfl rfl rfl (ym _)
  (λ_ _ _=>rfl) (λ_ _ _ _ _ h=>h) (λo _ hu=>hu) (.inl rfl) (λq=>⟨rfl,_,_,rfl⟩) (λ⟨_,_,q⟩=>by cases q) (λs e xs q=>by cases q)
  (λleaf=>⟨b,cs,t,rfl,q2,by rw[hsz];exact ZO leaf _ _ q5,by rw[hsz];exact q4⟩)
  (λv s st e d q=>by cases q)
 exact⟨σ2,rfl,rfl,to2,ok2⟩
def ZL8{α O:Type}(l:List α)(f:α→List α→Option O):Option O:=match l with
 |x::r=>f x r
 |[]=>none
inductive GOp where
 |rows (t:Tmp) (path:List Nat) (T:Ty) (e:yb) (np:List Nat)
 |focus (t:Tmp) (U:Ty) (e:yb)
 |done (t:Tmp)
 |fresh (t:Tmp) (i:Nat)
 |rowt (t:Tmp) (path:List Nat) (T:Ty) (e:yb)
 |freshS (t:Tmp)
 |freshV (t:Tmp)
 |freshDone (t:Tmp) (i:Nat)
 |any (t:Tmp) (i:Nat) (T:Ty)
 |melt (t:Tmp)
 |split (t:Tmp) (ks:List Nat)
 |nn (t:Tmp)
 |hole
 |flat (t:Tmp)
 |nilr (path:List Nat) (U:Ty) (e:yb)
 |isplit (t:Tmp) (i:Nat) (ks:List Nat)
def ZHV:TEnt→Bool
 |.rowN _ _ _ true _ _ _=>true
 |_=>false
section
variable{O:Type}{out:O}
abbrev Kh(O:Type):=List TD→List TEnt→Option O
def ZC0(t:Tmp)(path:List Nat)(T:Ty)(e:yb)(np:List Nat)(a:List TD)(h:List TEnt)(K:Kh O):Option O:=
 match a[t]? with
 |some (.ref id [])=>match h[id]? with
  |some (.var d true)=>(ZbZ T (.rw h.length) path d).bind λd'=>if(TD.frees h.length a&&h.all (TEnt.free h.length))=true then K a ((h++[TEnt.rowN T np [] true e [] []]).set id (.var d' true)) else none
  |_=>none
 |_=>none
def ZC1(t:Tmp)(path:List Nat)(T:Ty)(e:yb)(a:List TD)(h:List TEnt)(K:Kh O):Option O:=
 match a[t]? with
 |some (.ref id [])=>match h[id]? with
  |some (.var d true)=>(ZbZ T (.rw h.length) path d).bind λd'=>if(TD.frees h.length a&&h.all (TEnt.free h.length))=true then K a ((h++[TEnt.rowT T [] true e []]).set id (.var d' true)) else none
  |_=>none
 |_=>none
def Zyq(t:Tmp)(U:Ty)(e:yb)(a:List TD)(h:List TEnt)(K:Kh O):Option O:=
 let j:=h.findIdx ZHV
 match h[j]?,((a[t]?).bind TD.num) with
 |some (.rowN T np v true e' pre post),some i=>if(TD.frees h.length a&&h.all (TEnt.free h.length))=true then if decide (i.n=(pre.length:Int))=true then ZL8 post λx r=>
   (ZbZ U (.own h.length none U none) np (.p (YS np (.v T x)))).bind λd=>K a ((h++[TEnt.log U e []]).set j (.rowM T np v true e' pre d r)) else none else none
 |_,_=>none
def ZAW(h:List TEnt):TD→Option (TD×List Nat)
 |.rw j=>match h[j]? with
  |some (.rowN T _ _ _ _ pre [])=>some (.p (.sl none T pre),[j])
  |some (.rowT T _ _ _ l)=>some (.p (.sl none T l),[j])
  |_=>none
 |d=>some (d,[])
def ZHW(h:List TEnt):TD→(TD→List Nat→Option O)→Option O
 |.rw j,K=>match h[j]? with
  |some (.rowN T _ _ _ _ pre post)=>if post.isEmpty=true then K (.p (.sl none T pre)) [j] else none
  |some (.rowT T _ _ _ l)=>K (.p (.sl none T l)) [j]
  |_=>none
 |d,K=>K d []
theorem ZC2{h:List TEnt}{d:TD}{K:TD→List Nat→Option O}(k:ZHW h d K=some out):∃q,ZAW h d=some q∧K q.1 q.2=some out:=by
 unfold ZHW at k;unfold ZAW;split at k
 ·rename_i j;dsimp only;split at k
  ·rename_i T np v st e pre post hd;rw[hd];obtain⟨h1,k⟩:=Za k
   cases post with
   |nil=>exact⟨_,rfl,k⟩
   |cons _ _=>cases h1
  ·rename_i T v st e l hd;rw[hd];exact⟨_,rfl,k⟩
  ·cases k
 ·rename_i hne;refine⟨(d,[]), ?_,k⟩;cases d <;> first|rfl|exact absurd rfl (hne _)
def ZC3(h:List TEnt):List TD→(List TD→List Nat→Option O)→Option O
 |[],K=>K [] []
 |d::r,K=>ZHW h d λx l=>ZC3 h r λy m=>K (x::y) (l++m)
def Ztl(h:List TEnt):List TD→Option (List TD×List Nat)
 |[]=>some ([],[])
 |d::r=>match ZAW h d,Ztl h r with
  |some q,some w=>some (q.1::w.1,q.2++w.2)
  |_,_=>none
theorem Zqi{h:List TEnt}:∀{ds:List TD}{K:List TD→List Nat→Option O},ZC3 h ds K=some out→∃q,Ztl h ds=some q∧K q.1 q.2=some out
 |[],K,k=>⟨_,rfl,k⟩
 |d::r,K,k=>by
  obtain⟨q,h1,k⟩:=ZC2 k;obtain⟨w,h2,k⟩:=Zqi k;exact⟨(q.1::w.1,q.2++w.2),by simp only[Ztl,h1,h2],k⟩
def Zi2:TEnt→TEnt
 |.rowN T np v _ e a b=>.rowN T np v false e a b
 |.rowT t v _ e l=>.rowT t v false e l
 |e=>e
def ZaS(ids:List Nat)(H:List TEnt):List TEnt:=(yq H.length).zipWith (λi e=>if ids.contains i then Zi2 e else e) H
def Ztm(t:Tmp)(a:List TD)(h:List TEnt)(K:Kh O):Option O:=
 match a[t]? with
 |some (.ref id [])=>match h[id]? with
  |some (.var (.agg ds) st)=>ZC3 h ds λx l=>K a ((ZaS l h).set id (.var (.agg x) st))
  |_=>none
 |_=>none
def ZrW(t:Tmp)(i:Nat)(a:List TD)(h:List TEnt)(K:Kh O):Option O:=
 match a[t]? with
 |some (.ref j [])=>match h[j]? with
  |some (.var (.agg ds) st)=>match ds[i]? with
   |some (.rv id v s 0 n)=>match h[id]? with
    |some (.rowT T w _ _ l)=>if(decide (v=w.length)&&(decide (s=T.size)&&decide (n=l.length)))=true then K a (h.set j (.var (.agg (ds.set i (.rw id))) st)) else none
    |_=>none
   |_=>none
  |_=>none
 |_=>none
def Ztn(t:Tmp)(a:List TD)(h:List TEnt)(K:Kh O):Option O:=
 match a[t]? with
 |some (.rv id v s 0 n)=>match h[id]? with
  |some (.rowT T w _ _ l)=>if(decide (v=w.length)&&(decide (s=T.size)&&decide (n=l.length)))=true then K (a.set t (.rw id)) h else none
  |_=>none
 |_=>none
def Zto(t:Tmp)(a:List TD)(h:List TEnt)(K:Kh O):Option O:=
 match a[t]? with
 |some (.ref j [])=>match h[j]? with
  |some (.var (.rv id v s 0 n) st)=>match h[id]? with
   |some (.rowT T w _ _ l)=>if(decide (v=w.length)&&(decide (s=T.size)&&decide (n=l.length)))=true then K a (h.set j (.var (.rw id) st)) else none
   |_=>none
  |_=>none
 |_=>none
def ZHX(t:Tmp)(i:Nat)(T:Ty)(a:List TD)(h:List TEnt)(K:Kh O):Option O:=
 match a[t]? with
 |some (.ref j [])=>match h[j]? with
  |some (.var (.agg ds) st)=>match ds[i]? with
   |some (.p x)=>(TP.to ZiS x T).bind λy=>K a (h.set j (.var (.agg (ds.set i (.p (.v T y)))) st))
   |_=>none
  |_=>none
 |_=>none
def ZC4(t:Tmp)(a:List TD)(h:List TEnt)(K:Kh O):Option O:=
 match a[t]? with
 |some (.ref j [])=>match h[j]? with
  |some (.var (.p (.arr n s xs)) st)=>K a (h.set j (.var (.arr n s (xs.map TD.p)) st))
  |_=>K a h
 |_=>K a h
def Zyr(z:Int)(t:Tmp)(a:List TD)(h:List TEnt)(K:Kh O):List Nat→Option O
 |[]=>none
 |n::r=>if(z==(n:Int))=true then K (a.set t (.p (.v (.int .i64) (n:Int)))) h else Zyr z t a h K r
def Zys(t:Tmp)(ks:List Nat)(a:List TD)(h:List TEnt)(K:Kh O):Option O:=
 match a.getD t .junk with
 |.p (.v (.int .i64) z)=>Zyr z t a h K ks
 |_=>none
def ZrX{O:Type}(w:Nat)(f:Nat→Option O):List Nat→Option O
 |[]=>none
 |n::r=>if Nat.beq w n=true then f n else ZrX w f r
def Ztp(t:Tmp)(i:Nat)(ks:List Nat)(a:List TD)(h:List TEnt)(K:Kh O):Option O:=
 match a[t]? with
 |some (.ref j [])=>match h[j]? with
  |some (.var (.agg ds) st)=>match ds[i]? with
   |some (.iface w y)=>ZrX w (λn=>K a (h.set j (.var (.agg (ds.set i (.iface n y))) st))) ks
   |_=>none
  |_=>none
 |_=>none
def ZL9(t:Tmp)(a:List TD)(h:List TEnt)(K:Kh O):Option O:=
 match a.getD t .junk with
 |.ref _ _=>K a h
 |_=>none
def ZMa(a:List TD)(h:List TEnt)(K:Kh O):Option O:=K a (h++[.gone])
def ZC5(t:Tmp)(a:List TD)(h:List TEnt)(K:Kh O):Option O:=
 match a[t]? with
 |some (.ref j [])=>match h[j]? with
  |some (.var d st)=>(d.flat (lk h)).bind λx=>K a (h.set j (.var (.p x) st))
  |_=>none
 |_=>none
def ZHY(path:List Nat)(U:Ty)(e:yb)(j:Nat)(a:List TD)(h:List TEnt)(K:Kh O):Option O:=
 match h[j]? with
 |some (.row v s true e0 (.arr n s2 [x]))=>match ZbZ U (.own h.length none U none) path x with
  |some y=>if(decide (s=s2)&&(TD.frees h.length a&&h.all (TEnt.free h.length)))=true then K a ((h++[TEnt.log U e []]).set j (.row v s true e0 (.arr n s2 [y]))) else none
  |none=>K a h
 |_=>K a h
def Zyt(path:List Nat)(U:Ty)(e:yb):List Nat→List TD→List TEnt→Kh O→Option O
 |[],a,h,K=>K a h
 |j::r,a,h,K=>ZHY path U e j a h λa h=>Zyt path U e r a h K
def ghT:GOp→List TD→List TEnt→Kh O→Option O
 |.rows t path T e np,a,h,K=>ZC0 t path T e np a h K
 |.focus t U e,a,h,K=>Zyq t U e a h K
 |.done t,a,h,K=>Ztm t a h K
 |.fresh t i,a,h,K=>ZrW t i a h K
 |.rowt t path T e,a,h,K=>ZC1 t path T e a h K
 |.freshS t,a,h,K=>Ztn t a h K
 |.freshV t,a,h,K=>Zto t a h K
 |.freshDone t i,a,h,K=>ZrW t i a h λa h=>Ztm t a h K
 |.any t i T,a,h,K=>ZHX t i T a h K
 |.melt t,a,h,K=>ZC4 t a h K
 |.split t ks,a,h,K=>Zys t ks a h K
 |.nn t,a,h,K=>ZL9 t a h K
 |.hole,a,h,K=>ZMa a h K
 |.flat t,a,h,K=>ZC5 t a h K
 |.nilr path U e,a,h,K=>Zyt path U e (yq h.length) a h K
 |.isplit t i ks,a,h,K=>Ztp t i ks a h K
def ghO(g:Option GOp)(a:List TD)(h:List TEnt)(K:Kh O):Option O:=
 match g with
 |none=>K a h
 |some g=>ghT g a h K
theorem Znv{H:List TEnt}{e:TEnt}(h:H.all (TEnt.free H.length)=true):erH (H++[e])=erH H++[e.er (lk (H++[e]))]:=by
 unfold erH;rw[yaj];congr 1;refine ycg λx hx=> ?_;have hf:=yba.1 h x hx;exact(Zs2 (λid t hn=>QP id t hn) x hf).symm
theorem ZrY{H:List TEnt}{e:TEnt}{a:List TD}(h:TD.frees H.length a=true):TD.ers (lk (H++[e])) a=TD.ers (lk H) a:=(ers_free (λid t hn=>QP id t hn) a h).symm
theorem ZAX{t:Tmp}{path:List Nat}{T:Ty}{e:yb}{np:List Nat}{a:List TD}{h:List TEnt}{K:Kh O}(k:ZC0 t path T e np a h K=some out):
 ∃a' h',K a' h'=some out∧a'.length=a.length∧Yw (erH h) (erH h')∧∀(σ:Sg)(act:Act),RepT σ (TD.ers (lk h) a) act→RepT σ (TD.ers (lk h') a') act:=by
 unfold ZC0 at k;split at k
 ·rename_i id hid;split at k
  ·rename_i d hd;obtain⟨d',h1,k⟩:=yc.1 k;obtain⟨h2,k⟩:=Za k;rw[yi] at h2;have hlt:id < h.length:=(yo.1 hd).1;have hd':(h++[TEnt.rowN T np [] true e [] []])[id]? =some (.var d true):=by rw[yah hlt];exact hd
   have hL:lk ((h++[TEnt.rowN T np [] true e [] []]).set id (.var d' true))=lk (h++[TEnt.rowN T np [] true e [] []]):=XI hd' rfl rfl;refine⟨_,_,k,rfl, ?_,λσ act r=> ?_⟩
   ·have e1:erH ((h++[TEnt.rowN T np [] true e [] []]).set id (.var d' true))=(erH h++[Ent.row 0 T.size true e (.p (.arr 0 T.size []))]).set id (.var (d'.er (lk (h++[TEnt.rowN T np [] true e [] []]))) true):=by
     rw[Yo hL,Znv h2.2];rfl
    rw[e1];have hj:(erH h)[id]? =some (.var (d.er (lk h)) true):=by rw[ZF hd];rfl
    refine ZEw (path:=path) hj ?_;have e2:=ZaQ (L:=lk (h++[TEnt.rowN T np [] true e [] []])) path d d' h1;have e3:d.er (lk (h++[TEnt.rowN T np [] true e [] []]))=d.er (lk h):=(QM (λid t hn=>QP id t hn) d (yba.1 h2.2 _ (ybm hd))).symm;rw[e3,(ZcH (q:=(0,T.size,0)) (x:=.rowN T np [] true e [] []) (List.getElem?_concat_length ..) rfl).1] at e2;rw[Zx];exact e2
   ·rw[hL,ZrY h2.1];exact r
  ·cases k
 ·cases k
theorem ZAY{t:Tmp}{path:List Nat}{T:Ty}{e:yb}{a:List TD}{h:List TEnt}{K:Kh O}(k:ZC1 t path T e a h K=some out):
 ∃a' h',K a' h'=some out∧a'.length=a.length∧Yw (erH h) (erH h')∧∀(σ:Sg)(act:Act),RepT σ (TD.ers (lk h) a) act→RepT σ (TD.ers (lk h') a') act:=by
 unfold ZC1 at k;split at k
 ·rename_i id hid;split at k
  ·rename_i d hd;obtain⟨d',h1,k⟩:=yc.1 k;obtain⟨h2,k⟩:=Za k;rw[yi] at h2;have hlt:id < h.length:=(yo.1 hd).1;have hd':(h++[TEnt.rowT T [] true e []])[id]? =some (.var d true):=by rw[yah hlt];exact hd
   have hL:lk ((h++[TEnt.rowT T [] true e []]).set id (.var d' true))=lk (h++[TEnt.rowT T [] true e []]):=XI hd' rfl rfl;refine⟨_,_,k,rfl, ?_,λσ act r=> ?_⟩
   ·have e1:erH ((h++[TEnt.rowT T [] true e []]).set id (.var d' true))=(erH h++[Ent.row 0 T.size true e (.p (.arr 0 T.size []))]).set id (.var (d'.er (lk (h++[TEnt.rowT T [] true e []]))) true):=by
     rw[Yo hL,Znv h2.2];rfl
    rw[e1];have hj:(erH h)[id]? =some (.var (d.er (lk h)) true):=by rw[ZF hd];rfl
    refine ZEw (path:=path) hj ?_;have e2:=ZaQ (L:=lk (h++[TEnt.rowT T [] true e []])) path d d' h1;have e3:d.er (lk (h++[TEnt.rowT T [] true e []]))=d.er (lk h):=(QM (λid t hn=>QP id t hn) d (yba.1 h2.2 _ (ybm hd))).symm;rw[e3,(Qq (T:=T) (v:=[]) (l:=[]) (List.getElem?_concat_length ..)).1] at e2;rw[Zx];exact e2
   ·rw[hL,ZrY h2.1];exact r
  ·cases k
 ·cases k
theorem Zyu{t:Tmp}{U:Ty}{e:yb}{a:List TD}{h:List TEnt}{K:Kh O}(k:Zyq t U e a h K=some out):
 ∃a' h',K a' h'=some out∧a'.length=a.length∧Yw (erH h) (erH h')∧∀(σ:Sg)(act:Act),RepT σ (TD.ers (lk h) a) act→RepT σ (TD.ers (lk h') a') act:=by
 unfold Zyq at k;dsimp only at k;generalize h.findIdx ZHV=j at k;split at k
 ·rename_i T np v e' pre post i hd hi;obtain⟨h2,k⟩:=Za k;obtain⟨_,k⟩:=Za k;simp only[yi] at h2;obtain⟨h2,h3⟩:=h2
  cases post with
  |nil=>cases k
  |cons x r=>
   have k:((ZbZ U (.own h.length none U none) np (.p (YS np (.v T x)))).bind λd=>K a ((h++[TEnt.log U e []]).set j (.rowM T np v true e' pre d r)))=some out:=k;obtain⟨d,h1,k⟩:=yc.1 k;have hlt:j < h.length:=(yo.1 hd).1;have hd':(h++[TEnt.log U e []])[j]? =some (.rowN T np v true e' pre (x::r)):=by rw[yah hlt];exact hd
   have hL:lk ((h++[TEnt.log U e []]).set j (.rowM T np v true e' pre d r))=lk (h++[TEnt.log U e []]):=Zyh hd' rfl;refine⟨_,_,k,rfl, ?_,λσ act rr=> ?_⟩
   ·have e1:erH ((h++[TEnt.log U e []]).set j (.rowM T np v true e' pre d r))=(erH h++[Ent.log U.size e []]).set j (.row v.length T.size true e' (.arr (pre.length+(r.length+1)) T.size (((pre.map T.enc++(x::r).map λx=>(YS np (.v T x)).pe).map .p).set pre.length (d.er (lk (h++[TEnt.log U e []])))))):=by
     rw[Yo hL,Znv h3];have hm:=ZEh (pre.map λx=>Dv.p (T.enc x)) (r.map λx=>.p (YS np (.v T x)).pe) (.p (YS np (.v T x)).pe) (d.er (lk (h++[TEnt.log U e []])));rw[yx] at hm
     have hm2:((pre.map T.enc++(x::r).map λx=>(YS np (.v T x)).pe).map Dv.p).set pre.length (d.er (lk (h++[TEnt.log U e []])))=(pre.map λx=>Dv.p (T.enc x))++d.er (lk (h++[TEnt.log U e []]))::r.map λx=>.p (YS np (.v T x)).pe:=by
      rw[yaj,yaw,yaw];exact hm
     rw[hm2];rfl
    rw[e1];have hj:(erH h)[j]? =some (.row v.length T.size true e' (.p (.arr (pre.length+(r.length+1)) T.size (pre.map T.enc++(x::r).map λx=>(YS np (.v T x)).pe)))):=by rw[ZF hd];rfl
    have hx:(pre.map T.enc++(x::r).map λx=>(YS np (.v T x)).pe)[pre.length]? =some (YS np (.v T x)).pe:=by
     have:=Zyi (pre.map T.enc) (r.map λx=>(YS np (.v T x)).pe) (YS np (.v T x)).pe;rw[yx] at this;exact this
    refine ZHU (path:=np) hj hx ?_;have e2:=ZaQ (L:=lk (h++[TEnt.log U e []])) np _ d h1
    have e3:(TD.own h.length none U none).er (lk (h++[TEnt.log U e []]))=.own h.length none U.size []:=by
     rw[TD.er,ZaP];rfl
    rw[e3,TD.er] at e2;rw[Zx];exact e2
   ·rw[hL,ZrY h2];exact rr
 ·cases k
theorem ZKd{H:List Ent}{j s s' v N:Nat}{st:Bool}{e e':yb}{x y:Dv}{path:List Nat}(hj:H[j]? =some (.row v s st e (.arr N s [x])))
 (hg:Yy x path s' (.own H.length none s' [])=some y):Yw H ((H++[Ent.log s' e' []]).set j (.row v s st e (.arr N s [y]))):=by
 have hsz:=Vo path x y s' _ rfl hg;refine ZCZ hj (λσ=>.inl ⟨rfl,rfl⟩) (λ⟨_,_,q⟩=>by cases q) (λ⟨_,_,q⟩=>by cases q) (λ_ _ _ q=>by cases q) (λo hu=> ?_) (λv2 s2 st2 e2 d2 q=>by cases q;exact⟨_,_,rfl⟩) ?_
 ·obtain⟨u1,N',u2,u3⟩:=hu;exact⟨u1,N',by rw[←u2];simp[rowN],u3⟩
 rintro σ mi h1 h2 ⟨N',q1,q2⟩;refine⟨N',by rw[←q1];simp[rowN], ?_⟩;rcases q2 with q2|⟨b,cur,cap,e3,e4,e5,e6,e7,e8⟩
 ·exact .inl q2
 refine .inr ⟨b,cur,cap,e3,e4,e5,e6,e7, ?_⟩;simp only[repD] at e8 ⊢;obtain⟨r1,r2,r3⟩:=e8;refine⟨by simpa using r1,λz hz=> ?_, ?_⟩
 ·have:z=y:=by simpa using hz
  subst this;rw[hsz];exact r2 x (yao.2 rfl)
 ·refine Zf4 (x:=x) (y:=y) (λa ha=>Qo path x y s' _ (λa ha=> ?_) hg a ha) [x] 0 _ rfl r3;have:=Zo8 ha;subst this;simp only[repD];exact⟨λ_ hx=>(by cases hx),none,0,rfl,ym _,by simp[maxLen],ZY _,λ_=>rfl,λh=>absurd rfl h,e',[],h1,ym _,λ_=>.inl ⟨h2,rfl,rfl⟩⟩
theorem ZC6{path:List Nat}{U:Ty}{e:yb}{j:Nat}{a:List TD}{h:List TEnt}{K:Kh O}(k:ZHY path U e j a h K=some out):
 ∃a' h',K a' h'=some out∧a'.length=a.length∧Yw (erH h) (erH h')∧∀(σ:Sg)(act:Act),RepT σ (TD.ers (lk h) a) act→RepT σ (TD.ers (lk h') a') act:=by
 unfold ZHY at k;split at k
 ·rename_i v s e0 n s2 x hd;split at k
  ·rename_i y h1;obtain⟨h2,k⟩:=Za k;simp only[yi,decide_eq_true_eq] at h2;obtain⟨hs,h2,h3⟩:=h2;subst hs;have hlt:j < h.length:=(yo.1 hd).1;have hd':(h++[TEnt.log U e []])[j]? =some (.row v s true e0 (.arr n s [x])):=by rw[yah hlt];exact hd
   have hL:lk ((h++[TEnt.log U e []]).set j (.row v s true e0 (.arr n s [y])))=lk (h++[TEnt.log U e []]):=Zyh hd' rfl;refine⟨_,_,k,rfl, ?_,λσ act rr=> ?_⟩
   ·have e1:erH ((h++[TEnt.log U e []]).set j (.row v s true e0 (.arr n s [y])))=(erH h++[Ent.log U.size e []]).set j (.row v s true e0 (.arr n s [y.er (lk (h++[TEnt.log U e []]))])):=by
     rw[Yo hL,Znv h3];rfl
    rw[e1]
    have hj:(erH h++[Ent.log U.size e []])[j]? =some (.row v s true e0 (.arr n s [x.er (lk (h++[TEnt.log U e []]))])):=by
     have e3:erH (h++[TEnt.log U e []])=erH h++[Ent.log U.size e []]:=by rw[Znv h3];rfl
     rw[←e3,ZF hd'];rfl
    rw[yah (by rw[Zx];exact hlt)] at hj;refine ZKd (path:=path) hj ?_;have e2:=ZaQ (L:=lk (h++[TEnt.log U e []])) path _ y h1
    have e3:(TD.own h.length none U none).er (lk (h++[TEnt.log U e []]))=.own h.length none U.size []:=by
     rw[TD.er,ZaP];rfl
    rw[e3] at e2;rw[Zx];exact e2
   ·rw[hL,ZrY h2];exact rr
  ·exact⟨_,_,k,rfl,Yw.refl _,λ_ _ r=>r⟩
 ·exact⟨_,_,k,rfl,Yw.refl _,λ_ _ r=>r⟩
theorem Zqj{path:List Nat}{U:Ty}{e:yb}:∀{l:List Nat}{a:List TD}{h:List TEnt}{K:Kh O},Zyt path U e l a h K=some out→
 ∃a' h',K a' h'=some out∧a'.length=a.length∧Yw (erH h) (erH h')∧∀(σ:Sg)(act:Act),RepT σ (TD.ers (lk h) a) act→RepT σ (TD.ers (lk h') a') act
 |[],a,h,K,k=>⟨_,_,k,rfl,Yw.refl _,λ_ _ r=>r⟩
 |j::r,a,h,K,k=>by
  obtain⟨a1,h1,k,l1,g1,r1⟩:=ZC6 (K:=λa h=>Zyt path U e r a h K) k;obtain⟨a2,h2,k,l2,g2,r2⟩:=Zqj k;exact⟨a2,h2,k,l2.trans l1,g1.trans g2,λσ act r=>r2 σ act (r1 σ act r)⟩
theorem ZHZ(e:TEnt):lkE (some (Zi2 e))=lkE (some e):=by cases e <;> rfl
theorem ZgZ(ids:List Nat)(H:List TEnt)(i:Nat):(ZaS ids H)[i]? =(H[i]?).map λe=>if ids.contains i then Zi2 e else e:=by
 unfold ZaS;rw[List.getElem?_zipWith];rcases ybp i H.length with h|h
 ·rw[List.getElem?_range h,yac h];rfl
 ·rw[yan (by simpa using h),yan h];rfl
theorem ZwN(ids:List Nat)(H:List TEnt):lk (ZaS ids H)=lk H:=by
 funext i;unfold lk;rw[ZgZ]
 cases H[i]? with
 |none=>rfl
 |some e=>
  show lkE (some (if ids.contains i=true then Zi2 e else e))=_
  split
  ·exact ZHZ e
  ·rfl
theorem ZFW(ids:List Nat)(H:List TEnt):WkH (erH H) (erH (ZaS ids H)):=by
 refine ZCR (by rw[Zx,Zx];unfold ZaS;simp) λi a b h1 h2=> ?_;unfold erH at h1 h2;rw[yaf] at h1 h2;rw[ZwN,ZgZ] at h2
 cases he:H[i]? with
 |none=>rw[he] at h1;cases h1
 |some e=>
  rw[he] at h1 h2;cases h1;cases h2;show WkE (e.er (lk H)) (TEnt.er (lk H) (if ids.contains i=true then Zi2 e else e))
  split
  ·cases e <;> first|exact .refl _|exact .lock
  ·exact .refl _
theorem ZH0{h H:List TEnt}{d:TD}{q:TD×List Nat}(hq:ZAW h d=some q)(hL:lk H=lk h)(hl:∀j,j∈q.2→∀e,h[j]? =some e→H[j]? =some (Zi2 e)):
 (q.1.er (lk H)).size=(d.er (lk H)).size∧∀σ:Sg,Ok σ→σ.H=erH H→∀us,repD σ (d.er (lk H)) us→repD σ (q.1.er (lk H)) us:=by
 have other:∀x:TD,(q.1.er (lk H)).size=(q.1.er (lk H)).size∧∀σ:Sg,Ok σ→σ.H=erH H→∀us,repD σ (q.1.er (lk H)) us→repD σ (q.1.er (lk H)) us:=λ_=>⟨rfl,λ_ _ _ _ r=>r⟩
 have row:∀(j:Nat)(v:Nat)(s:Nat)(e:yb)(xs:List Pl)(T:Ty)(l:List T.den),(TD.rw j).er (lk H)=.rv j v s 0 xs.length→(erH H)[j]? =some (.row v s false e (.p (.arr xs.length s xs)))→s=T.size→xs=l.map T.enc→
  ((TD.p (.sl none T l)).er (lk H)).size=((TD.rw j).er (lk H)).size∧∀σ:Sg,Ok σ→σ.H=erH H→∀us,repD σ ((TD.rw j).er (lk H)) us→repD σ ((TD.p (.sl none T l)).er (lk H)) us:=by
  intro j v s e xs T l e1 e2 e3 e4;subst e3;rw[e1];refine⟨rfl,λσ ok hH us r=> ?_⟩;have dr:=DeepR.rvp (H:=σ.H) (lo:=0) (n:=xs.length) (by rw[hH];exact e2) (by omega);rw[List.drop_zero,List.take_length] at dr;have:=ZsN ok dr us r;rw[TD.er,TP.pe, ←e4];simpa[repD] using this
 unfold ZAW at hq;split at hq
 ·rename_i j;split at hq
  ·rename_i T np v st e pre hd;cases hq;have hH:=hl j (yap ..) _ hd;have hr:=ZcH (q:=(v.length,T.size,pre.length+0)) (x:=Zi2 (.rowN T np v st e pre [])) hH rfl;refine row j v.length T.size e (pre.map T.enc) T pre (by rw[hr.1,yx];rfl) ?_ rfl rfl;rw[ZF hH,yx];simp only[Zi2,TEnt.er,List.map_nil,ybj,List.length_nil,Nat.add_zero]
  ·rename_i T v st e l hd;cases hq;have hH:=hl j (yap ..) _ hd;have hr:=Qq (T:=T) (v:=v) (st:=false) (e:=e) (l:=l) hH;refine row j v.length T.size e (l.map T.enc) T l (by rw[hr.1,yx]) ?_ rfl rfl;rw[ZF hH,yx];rfl
  ·cases hq
 ·cases hq;exact other d
theorem ZwO{h H:List TEnt}:∀{ds:List TD}{q:List TD×List Nat},Ztl h ds=some q→lk H=lk h→(∀j,j∈q.2→∀e,h[j]? =some e→H[j]? =some (Zi2 e))→
 Dv.sizes (TD.ers (lk H) q.1)=Dv.sizes (TD.ers (lk H) ds)∧∀σ:Sg,Ok σ→σ.H=erH H→∀us,repDs σ (TD.ers (lk H) ds) us→repDs σ (TD.ers (lk H) q.1) us
 |[],q,hq,hL,hl=>by cases hq;exact⟨rfl,λ_ _ _ _ r=>r⟩
 |d::r,q,hq,hL,hl=>by
  simp only[Ztl] at hq;split at hq
  ·rename_i q1 q2 h1 h2;cases hq;obtain⟨a1,a2⟩:=ZH0 h1 hL (λj hj=>hl j (List.mem_append_left _ hj));obtain⟨b1,b2⟩:=ZwO h2 hL (λj hj=>hl j (List.mem_append_right _ hj));refine⟨by simp only[TD.ers,Dv.sizes];rw[a1,b1],λσ ok hH us rr=> ?_⟩;simp only[TD.ers,repDs] at rr ⊢;obtain⟨u1,u2,e1,e2,e3⟩:=rr;exact⟨u1,u2,e1,a2 σ ok hH _ e2,b2 σ ok hH _ e3⟩
  ·cases hq
theorem Zqk{t:Tmp}{a:List TD}{h:List TEnt}{K:Kh O}(k:Ztm t a h K=some out):
 ∃a' h',K a' h'=some out∧a'.length=a.length∧Yw (erH h) (erH h')∧∀(σ:Sg)(act:Act),RepT σ (TD.ers (lk h) a) act→RepT σ (TD.ers (lk h') a') act:=by
 unfold Ztm at k;split at k
 ·rename_i id hid;split at k
  ·rename_i ds st hd;obtain⟨q,h1,k⟩:=Zqi k
   have hd2:(ZaS q.2 h)[id]? =some (.var (.agg ds) st):=by
    rw[ZgZ,hd];show some (if q.2.contains id=true then Zi2 (.var (.agg ds) st) else .var (.agg ds) st)=_
    split <;> rfl
   have hL0:lk (ZaS q.2 h)=lk h:=ZwN _ _;have hL:lk ((ZaS q.2 h).set id (.var (.agg q.1) st))=lk (ZaS q.2 h):=XI hd2 rfl rfl;refine⟨_,_,k,rfl,(ZEv (ZFW q.2 h)).trans ?_,λσ act rr=>by rw[hL,hL0];exact rr⟩;rw[Yo hL];have hj:(erH (ZaS q.2 h))[id]? =some (.var (.agg (TD.ers (lk (ZaS q.2 h)) ds)) st):=by rw[ZF hd2];rfl
   obtain⟨c1,c2⟩:=ZwO (H:=ZaS q.2 h) h1 hL0 (λj hj e he=>by
    rw[ZgZ,he];show some (if q.2.contains j=true then Zi2 e else e)=_
    rw[if_pos (by simpa using hj)])
   refine ZKc hj ?_ λσ ok hH us r=> ?_
   ·exact c1
   ·simp only[TD.er,repD] at r ⊢;exact c2 σ ok hH us r
  ·cases k
 ·cases k
theorem ZAZ{L:Lk}{ds:List TD}{i:Nat}{x y:TD}(h:ds[i]? =some x)(e:y.er L=x.er L):TD.ers L (ds.set i y)=TD.ers L ds:=by
 rw[Zv,Zv,ybb,e];apply ybd;intro k;by_cases hk:i=k
 ·subst hk;rw[ycl (by rw[yx];exact(yo.1 h).1),yaf,h];rfl
 ·rw[List.getElem?_set_ne hk]
theorem Znw{t:Tmp}{i:Nat}{a:List TD}{h:List TEnt}{K:Kh O}(k:ZrW t i a h K=some out):
 ∃a' h',K a' h'=some out∧a'.length=a.length∧Yw (erH h) (erH h')∧∀(σ:Sg)(act:Act),RepT σ (TD.ers (lk h) a) act→RepT σ (TD.ers (lk h') a') act:=by
 unfold ZrW at k;split at k
 ·rename_i j hj;split at k
  ·rename_i ds st hd;split at k
   ·rename_i id v s n hi;split at k
    ·rename_i T w st' e l hr;obtain⟨c,k2⟩:=Za k;clear k;rw[yi,yi,decide_eq_true_eq,decide_eq_true_eq,decide_eq_true_eq] at c;obtain⟨rfl,rfl,rfl⟩:=c;have hL:lk (h.set j (.var (.agg (ds.set i (.rw id))) st))=lk h:=XI hd rfl rfl
     have he:(TD.rw id).er (lk h)=(TD.rv id w.length T.size 0 l.length).er (lk h):=by
      refine(Zyd (v:=w) (s:=T.size) (N:=l.length) ?_).1;unfold ZS lk;dsimp only;rw[hr];rfl
     refine⟨_,_,k2,rfl, ?_,λσ act rr=>by rw[hL];exact rr⟩
     have e2:erH (h.set j (.var (.agg (ds.set i (.rw id))) st))=erH h:=by
      rw[Yo hL];show(erH h).set j (.var (.agg (TD.ers (lk h) (ds.set i (.rw id)))) st)=erH h;rw[ZAZ hi he];apply ybd;intro q;by_cases hq:j=q
      ·subst hq;have hjl:(erH h)[j]? =some (.var (.agg (TD.ers (lk h) ds)) st):=by rw[ZF hd];rfl
       rw[ycl (yo.1 hjl).1,hjl]
      ·rw[List.getElem?_set_ne hq]
     rw[e2];exact Yw.refl _
    ·cases k
   ·cases k
  ·cases k
 ·cases k
theorem ZA0{h:List TEnt}{id:Nat}{T:Ty}{w:List Unit}{st:Bool}{e:yb}{l:List T.den}(hr:h[id]? =some (.rowT T w st e l)):(TD.rw id).er (lk h)=(TD.rv id w.length T.size 0 l.length).er (lk h):=by
 refine(Zyd (v:=w) (s:=T.size) (N:=l.length) ?_).1;unfold ZS lk;dsimp only;rw[hr];rfl
theorem Zvd{t:Tmp}{a:List TD}{h:List TEnt}{K:Kh O}(k:Ztn t a h K=some out):
 ∃a' h',K a' h'=some out∧a'.length=a.length∧Yw (erH h) (erH h')∧∀(σ:Sg)(act:Act),RepT σ (TD.ers (lk h) a) act→RepT σ (TD.ers (lk h') a') act:=by
 unfold Ztn at k;split at k
 ·rename_i id v s n hi;split at k
  ·rename_i T w st' e l hr;obtain⟨c,k2⟩:=Za k;clear k;rw[yi,yi,decide_eq_true_eq,decide_eq_true_eq,decide_eq_true_eq] at c;obtain⟨rfl,rfl,rfl⟩:=c;exact⟨_,_,k2,ybc,Yw.refl _,λσ act rr=>by rw[ZAZ hi (ZA0 hr)];exact rr⟩
  ·cases k
 ·cases k
theorem Zve{t:Tmp}{a:List TD}{h:List TEnt}{K:Kh O}(k:Zto t a h K=some out):
 ∃a' h',K a' h'=some out∧a'.length=a.length∧Yw (erH h) (erH h')∧∀(σ:Sg)(act:Act),RepT σ (TD.ers (lk h) a) act→RepT σ (TD.ers (lk h') a') act:=by
 unfold Zto at k;split at k
 ·rename_i j hj;split at k
  ·rename_i id v s n st hd;split at k
   ·rename_i T w st' e l hr;obtain⟨c,k2⟩:=Za k;clear k;rw[yi,yi,decide_eq_true_eq,decide_eq_true_eq,decide_eq_true_eq] at c;obtain⟨rfl,rfl,rfl⟩:=c;have hL:lk (h.set j (.var (.rw id) st))=lk h:=XI hd rfl rfl;refine⟨_,_,k2,rfl, ?_,λσ act rr=>by rw[hL];exact rr⟩
    have e2:erH (h.set j (.var (.rw id) st))=erH h:=by
     rw[Yo hL];show(erH h).set j (.var ((TD.rw id).er (lk h)) st)=erH h;rw[ZA0 hr];apply ybd;intro q;by_cases hq:j=q
     ·subst hq;have hjl:(erH h)[j]? =some (.var ((TD.rv id w.length T.size 0 l.length).er (lk h)) st):=by rw[ZF hd];rfl
      rw[ycl (yo.1 hjl).1,hjl]
     ·rw[List.getElem?_set_ne hq]
    rw[e2];exact Yw.refl _
   ·cases k
  ·cases k
 ·cases k
theorem ZEx:∀{l:List Dv}{i:Nat}{d e:Dv},l[i]? =some d→Wk d e→WkL l (l.set i e)
 |[],_,_,_,h,_=>by simp at h
 |x::r,0,d,e,h,k=>by
  simp only[ybh,yj] at h;subst h
  exact .cons k (WkL.refl r)
 |x::r,i+1,d,e,h,k=>by
  simp only[yar] at h;exact .cons (Wk.refl x) (ZEx h k)
theorem ZH1{L:Lk}:∀{ds:List TD}{i:Nat}{d e:TD},ds[i]? =some d→(TD.ers L ds)[i]? =some (d.er L)∧TD.ers L (ds.set i e)=(TD.ers L ds).set i (e.er L)
 |[],_,_,_,h=>by simp at h
 |x::r,0,d,e,h=>by
  simp only[ybh,yj] at h;subst h
  exact⟨rfl,rfl⟩
 |x::r,i+1,d,e,h=>by
  simp only[yar] at h;obtain⟨h1,h2⟩:=ZH1 (e:=e) h;exact⟨h1,by show x.er L::TD.ers L (r.set i e)=_;rw[h2];rfl⟩
theorem ZC7{t:Tmp}{i:Nat}{T:Ty}{a:List TD}{h:List TEnt}{K:Kh O}(k:ZHX t i T a h K=some out):
 ∃a' h',K a' h'=some out∧a'.length=a.length∧Yw (erH h) (erH h')∧∀(σ:Sg)(act:Act),RepT σ (TD.ers (lk h) a) act→RepT σ (TD.ers (lk h') a') act:=by
 unfold ZHX at k;split at k
 ·rename_i j hj;split at k
  ·rename_i ds st hd;split at k
   ·rename_i x hx;obtain⟨y,h1,k⟩:=yc.1 k;have hL:lk (h.set j (.var (.agg (ds.set i (.p (.v T y)))) st))=lk h:=XI hd rfl rfl;refine⟨_,_,k,rfl, ?_,λσ act rr=>by rw[hL];exact rr⟩;rw[Yo hL];have hjl:(erH h)[j]? =some (.var (.agg (TD.ers (lk h) ds)) st):=by rw[ZF hd];rfl
    obtain⟨e1,e2⟩:=ZH1 (L:=lk h) (e:=.p (.v T y)) hx;refine ZEv (WkH.set_at hjl (WkE.var ?_));show Wk (.agg (TD.ers (lk h) ds)) (.agg (TD.ers (lk h) (ds.set i (.p (.v T y)))));rw[e2];exact WkL.agg (ZEx e1 (Wk.p (ZAi h1)))
   ·cases k
  ·cases k
 ·cases k
theorem Wk.melt{n s:Nat}{xs:List Pl}:Wk (.p (.arr n s xs)) (.arr n s (xs.map Dv.p)):=⟨rfl,rfl,λσ vs r=>by
 simp only[repD,repC] at r ⊢;exact⟨by rw[yx];exact r.1,λx hx=>by obtain⟨y,hy,rfl⟩:=List.mem_map.1 hx;exact r.2.1 y hy,ZcA.2 r.2.2⟩⟩
theorem ZA1{t:Tmp}{a:List TD}{h:List TEnt}{K:Kh O}(k:ZC4 t a h K=some out):
 ∃a' h',K a' h'=some out∧a'.length=a.length∧Yw (erH h) (erH h')∧∀(σ:Sg)(act:Act),RepT σ (TD.ers (lk h) a) act→RepT σ (TD.ers (lk h') a') act:=by
 unfold ZC4 at k;split at k
 ·rename_i j hj;split at k
  ·rename_i n s xs st hd;have hL:lk (h.set j (.var (.arr n s (xs.map TD.p)) st))=lk h:=XI hd rfl rfl;refine⟨_,_,k,rfl, ?_,λσ act rr=>by rw[hL];exact rr⟩;rw[Yo hL];have hjl:(erH h)[j]? =some (.var (.p (.arr n s (TP.pes xs))) st):=by rw[ZF hd];rfl
   refine ZEv (WkH.set_at hjl (WkE.var ?_));show Wk (.p (.arr n s (TP.pes xs))) (.arr n s (TD.ers (lk h) (xs.map TD.p)))
   have e:TD.ers (lk h) (xs.map TD.p)=(TP.pes xs).map Dv.p:=by
    rw[Zv,XS,yaw,yaw];rfl
   rw[e];exact Wk.melt
  ·exact⟨_,_,k,rfl,Yw.refl _,λ_ _ r=>r⟩
 ·exact⟨_,_,k,rfl,Yw.refl _,λ_ _ r=>r⟩
theorem ZA2{t:Tmp}{a:List TD}{h:List TEnt}{K:Kh O}(k:ZC5 t a h K=some out):
 ∃a' h',K a' h'=some out∧a'.length=a.length∧Yw (erH h) (erH h')∧∀(σ:Sg)(act:Act),RepT σ (TD.ers (lk h) a) act→RepT σ (TD.ers (lk h') a') act:=by
 unfold ZC5 at k;split at k
 ·rename_i j hj;split at k
  ·rename_i d st hd;obtain⟨x,h1,k⟩:=yc.1 k;have hL:lk (h.set j (.var (.p x) st))=lk h:=XI hd rfl rfl;refine⟨_,_,k,rfl, ?_,λσ act rr=>by rw[hL];exact rr⟩;rw[Yo hL];have hjl:(erH h)[j]? =some (.var (d.er (lk h)) st):=by rw[ZF hd];rfl
   have hf:(d.er (lk h)).flat=some x.pe:=by rw[Znb,h1];rfl
   refine ZEv (WkH.set_at hjl (WkE.var ?_))
   exact⟨(Zkc _ _ hf).symm,(Zsb hf).symm,λσ vs r=>by
    have:=Zf2 _ _ _ hf r;show repD σ (.p x.pe) vs;simp only[repD];exact this⟩
  ·cases k
 ·cases k
theorem Zql{z:Int}{t:Tmp}{a:List TD}{h:List TEnt}{K:Kh O}(ha:a.getD t .junk=.p (.v (.int .i64) z)):∀{ks:List Nat},Zyr z t a h K ks=some out→K a h=some out
 |[],k=>by cases k
 |n::r,k=>by
  unfold Zyr at k;split at k
  ·rename_i e;have e:z=(n:Int):=by simpa using e
   rw[set_same (by rw[ha,e])] at k;exact k
  ·exact Zql ha k
theorem Zyv{t:Tmp}{ks:List Nat}{a:List TD}{h:List TEnt}{K:Kh O}(k:Zys t ks a h K=some out):
 ∃a' h',K a' h'=some out∧a'.length=a.length∧Yw (erH h) (erH h')∧∀(σ:Sg)(act:Act),RepT σ (TD.ers (lk h) a) act→RepT σ (TD.ers (lk h') a') act:=by
 unfold Zys at k;split at k
 ·rename_i z hz;exact⟨_,_,Zql hz k,rfl,Yw.refl _,λ_ _ r=>r⟩
 ·cases k
theorem ZwP{α:Type}{l:List α}{i:Nat}{x:α}(h:l[i]? =some x):l.set i x=l:=by
 apply ybd;intro j;rw[ybg];split
 ·rename_i e;subst e;rw[h,if_pos (yo.1 h).1]
 ·rfl
theorem Znx{w:Nat}{f:Nat→Option O}:∀{ks:List Nat},ZrX w f ks=some out→f w=some out
 |[],k=>by cases k
 |n::r,k=>by
  unfold ZrX at k;split at k
  ·rename_i e;rw[Nat.eq_of_beq_eq_true e];exact k
  ·exact Znx k
theorem Zvf{t:Tmp}{i:Nat}{ks:List Nat}{a:List TD}{h:List TEnt}{K:Kh O}(k:Ztp t i ks a h K=some out):
 ∃a' h',K a' h'=some out∧a'.length=a.length∧Yw (erH h) (erH h')∧∀(σ:Sg)(act:Act),RepT σ (TD.ers (lk h) a) act→RepT σ (TD.ers (lk h') a') act:=by
 unfold Ztp at k;split at k
 ·split at k
  ·rename_i j _ ds st hj;split at k
   ·rename_i w y hi;have k:=Znx k;rw[ZwP hi,ZwP hj] at k;exact⟨_,_,k,rfl,Yw.refl _,λ_ _ r=>r⟩
   ·cases k
  ·cases k
 ·cases k
theorem ZH2{g:Option GOp}{a:List TD}{h:List TEnt}{K:Kh O}(k:ghO g a h K=some out):
 ∃a' h',K a' h'=some out∧a'.length=a.length∧Yw (erH h) (erH h')∧∀(σ:Sg)(act:Act),RepT σ (TD.ers (lk h) a) act→RepT σ (TD.ers (lk h') a') act:=by
 unfold ghO at k;split at k
 ·exact⟨_,_,k,rfl,Yw.refl _,λ_ _ r=>r⟩
 ·rename_i g
  cases g with
  |rows t path T e np=>exact ZAX k
  |focus t U e=>exact Zyu k
  |done t=>exact Zqk k
  |fresh t i=>exact Znw k
  |rowt t path T e=>exact ZAY k
  |freshS t=>exact Zvd k
  |freshV t=>exact Zve k
  |freshDone t i=>
   obtain⟨a1,h1,k,l1,g1,r1⟩:=Znw (K:=λa h=>Ztm t a h K) k;obtain⟨a2,h2,k,l2,g2,r2⟩:=Zqk k
   exact⟨a2,h2,k,l2.trans l1,g1.trans g2,λσ act r=>r2 σ act (r1 σ act r)⟩
  |any t i T=>exact ZC7 k
  |melt t=>exact ZA1 k
  |split t ks=>exact Zyv k
  |nn t=>
   replace k:ZL9 t a h K=some out:=k
   unfold ZL9 at k;split at k
   ·exact⟨_,_,k,rfl,Yw.refl _,λ_ _ r=>r⟩
   ·cases k
  |flat t=>exact ZA2 k
  |nilr path U e=>exact Zqj k
  |isplit t i ks=>exact Zvf k
  |hole=>
   replace k:K a (h++[.gone])=some out:=k
   refine⟨_,_,k,rfl, ?_,λσ act rr=>by rw[QN rfl];exact rr⟩;rw[QO (QN rfl)];intro σ ok e;obtain⟨to,ok'⟩:=ZDW ok;exact⟨{ σ with m:=σ.m++[none],H:=σ.H++[.gone]},rfl,by rw[←e];rfl,to,ok'⟩
end
end Go.Ev
end
section
namespace Go.Ev
section
variable{P:yg}
theorem ZA3{x y:Code}{ts ts1 ts2:List Dv}{H H1 H2:List Ent}{ex:Ex}(r1:YU P x ts H .normal ts1 H1)(r2:YU P y ts1 H1 ex ts2 H2):YU P (.seq x y) ts H ex ts2 H2:=by
 intro σ a ok hH hrep;refine wp_seq (wp_mono (r1 σ a ok hH hrep) ?_);rintro e a' w' ⟨rfl,σ1,rfl,e1,to1,ok1,hrep1⟩;refine wp_mono (r2 σ1 a' ok1 e1 hrep1) ?_;rintro e a'' w'' ⟨rfl,σ2,rfl,e2,to2,ok2,hrep2⟩;exact⟨rfl,σ2,rfl,e2,to1.trans to2,ok2,hrep2⟩
theorem ZwQ{x y:Code}{ts ts1:List Dv}{H H1:List Ent}{ex:Ex}(hne:ex≠ .normal)(r1:YU P x ts H ex ts1 H1):YU P (.seq x y) ts H ex ts1 H1:=by
 intro σ a ok hH hrep;refine wp_seq (wp_mono (r1 σ a ok hH hrep) ?_);rintro e a' w' ⟨rfl,hq⟩
 cases ex with
 |normal=>exact absurd rfl hne
 |exit id=>exact⟨rfl,hq⟩
 |ret=>exact⟨rfl,hq⟩
theorem Zko{c:yn}{x y:Code}{ts ts1:List Dv}{H H1:List Ent}{ex:Ex}{b:Bool}(hc:Zp P ts 0 c=.p (.bool b))(r1:YU P (if b then x else y) ts H ex ts1 H1):YU P (.cond c x y) ts H ex ts1 H1:=by
 intro σ a ok hH hrep;have hv:=Zi (P:=P) hrep 0 c;rw[hc] at hv;cases b
 ·exact wp_cond_false (Yk hv) (r1 σ a ok hH hrep)
 ·exact wp_cond_true (Yk hv) (r1 σ a ok hH hrep)
def Zyw(id:Nat):Ex→Ex
 |.exit i=>if i=id then .normal else .exit i
 |ex=>ex
theorem ZC8{id:Nat}{body:Code}{ts ts1:List Dv}{H H1:List Ent}{ex:Ex}(r1:YU P body ts H ex ts1 H1):YU P (.block id body) ts H (Zyw id ex) ts1 H1:=by
 intro σ a ok hH hrep;refine wp_block (wp_mono (r1 σ a ok hH hrep) ?_);rintro e a' w' ⟨rfl,hq⟩
 cases ex with
 |normal=>exact⟨rfl,hq⟩
 |exit id'=>
  simp only[Ex.to,Exit.inBlock,Zyw];split
  ·exact⟨rfl,hq⟩
  ·exact⟨rfl,hq⟩
 |ret=>exact⟨rfl,hq⟩
theorem ZC9{body:Code}{ts ts1:List Dv}{H H1:List Ent}{ex:Ex}(r1:YU P body ts H ex ts1 H1):YU P (.scope body) ts H ex ts1 H1:=by
 intro σ a ok hH hrep;refine wp_scope_straight (wp_mono (r1 σ a ok hH hrep) ?_);rintro e a' w' ⟨rfl,hq⟩;cases ex <;> exact⟨rfl,hq⟩
theorem ZFX{ts:List Dv}{H:List Ent}:YU P .skip ts H .normal ts H:=λσ a ok hH hrep=>wp_skip ⟨rfl,σ,rfl,hH,To.refl σ,ok,hrep⟩
theorem ZDa{n:Nat}{ts:List Dv}{H:List Ent}:YU P (.label n) ts H .normal ts H:=λσ a ok hH hrep=>wp_label ⟨rfl,σ,rfl,hH,To.refl σ,ok,hrep⟩
theorem ZFY{n:Nat}{ts:List Dv}{H:List Ent}:YU P (.exit n) ts H (.exit n) ts H:=λσ a ok hH hrep=>wp_exit ⟨rfl,σ,rfl,hH,To.refl σ,ok,hrep⟩
theorem ZH3{ts:List Dv}{H:List Ent}:YU P .ret ts H .ret ts H:=λσ a ok hH hrep=>wp_ret ⟨rfl,σ,rfl,hH,To.refl σ,ok,hrep⟩
theorem ZwR{c:Code}{ts ts1:List Dv}{H H1:List Ent}{ex:Ex}(keep:List Nat)(r:YU P c ts H ex ts1 H1):YU P c ts H ex (ZH keep 0 ts1) H1:=by
 intro σ a ok hH hrep;refine wp_mono (r σ a ok hH hrep) ?_;rintro e a' w' ⟨rfl,σ1,rfl,e1,to1,ok1,hrep1⟩;exact⟨rfl,σ1,rfl,e1,to1,ok1,QF keep hrep1⟩
def ZA4(n0:Nat)(sl:Slots)(es:List ESh)(a:List TD)(h:List TEnt):Option (List TV):=
 if once (yq n0++[]) then(YV h (yq n0++[]) (yq n0++[])).bind λh2=>(TD.rns (toIds (yq n0++[])) (ZdD (sl.map (·.1)) 0 a)).bind λa2=>
  (Sh.mts (lk h2) (shs sl a.length) a2).bind λq=>(ESh.mts (lk h2) es h2).bind λw=>some (q.2++w.2)
 else none
theorem ZDb{n0:Nat}{sl:Slots}{es:List ESh}{a:List TD}{h:List TEnt}{vs:List TV}(k:ZA4 n0 sl es a h=some vs):
 ∃a3 h3,W0 a.length sl es vs=some (a3,h3)∧∀{c:Code}{ts:List Dv}{H:List Ent}{ex:Ex},H.length=n0→YU P c ts H ex (TD.ers (lk h) a) (erH h)→YU P c ts H ex (TD.ers (lk h3) a3) (erH h3):=by
 unfold ZA4 at k;split at k
 ·rename_i ho;obtain⟨h2,h1,k⟩:=yc.1 k;obtain⟨a2,e2,k⟩:=yc.1 k;obtain⟨q,e3,k⟩:=yc.1 k;obtain⟨w,e4,k⟩:=yc.1 k;cases k;obtain⟨g1,g2⟩:=Zgc e4;have hc:∀id t,ZS (lk h2) id t none=ZS (lk w.1) id t none:=λid t=>by rw[g2]
  refine⟨q.1,w.1, ?_,λ{c ts H ex}hl r=> ?_⟩
  ·unfold W0;rw[mts_fills _ _ _ e3];have:=V7 e4 [];rw[ybj] at this;rw[yf,this];rfl
  ·have r1:=ZwR (sl.map (·.1)) r;rw[←ZiZ] at r1;have r2:=Zwt [] [] r1 (by rw[hl];exact ho) (by rw[hl];exact YI (Wv h1) h1) (by rw[hl];exact rns_er (Wv h1) _ _ e2);exact Zwu r2 (mts_wk hc _ _ _ e3) (Zkk hc e4)
 ·cases k
theorem ZDc{n0:Nat}{sl:Slots}{es:List ESh}{a:List TD}{h:List TEnt}{vs:List TV}(hn:h.length=n0)(k:ZA4 n0 sl es a h=some vs):
 ∃a3 h3,W0 a.length sl es vs=some (a3,h3)∧∀(σ:Sg)(act:Act),Ok σ→σ.H=erH h→RepT σ (TD.ers (lk h) a) act→∃σ':Sg,σ'.w=σ.w∧σ'.H=erH h3∧To σ σ'∧Ok σ'∧RepT σ' (TD.ers (lk h3) a3) act:=by
 subst hn;unfold ZA4 at k;split at k
 ·rename_i ho;obtain⟨h2,h1,k⟩:=yc.1 k;obtain⟨a2,e2,k⟩:=yc.1 k;obtain⟨q,e3,k⟩:=yc.1 k;obtain⟨w,e4,k⟩:=yc.1 k;cases k;obtain⟨g1,g2⟩:=Zgc e4;have hc:∀id t,ZS (lk h2) id t none=ZS (lk w.1) id t none:=λid t=>by rw[g2]
  refine⟨q.1,w.1, ?_,λσ act ok hH hrep=> ?_⟩
  ·unfold W0;rw[mts_fills _ _ _ e3];have:=V7 e4 [];rw[ybj] at this;rw[yf,this];rfl
  ·have r1:=QF (sl.map (·.1)) hrep;rw[←ZiZ] at r1
   have hin:subEnts σ.H (yq σ.H.length++[]) (yq σ.H.length++[])=some (erH h2):=by
    rw[hH,Zx];exact YI (Wv h1) h1
   have ho':once (yq σ.H.length++[])=true:=by rw[hH,Zx];exact ho
   have e2':Dv.rns (toIds (yq σ.H.length++[])) (TD.ers (lk h) (ZdD (sl.map (·.1)) 0 a))=some (TD.ers (lk h2) a2):=by
    rw[hH,Zx];exact rns_er (Wv h1) _ _ e2
   have r2:=ZsL (ZcF hin) e2' r1;have to1:=ZrR ok (To.refl σ) ho' hin;have ok1:=Zm6 ok ho' hin;obtain⟨to2,ok2⟩:=ZkY (σ:=ZhE σ (yq σ.H.length++[]) (erH h2)) ok1 (H':=erH w.1) (Zkk hc e4);exact⟨{ ZhE σ (yq σ.H.length++[]) (erH h2) with H:=erH w.1},rfl,rfl,to1.trans to2,ok2,(mts_wk hc _ _ _ e3).repT (r2.to to2.leaf)⟩
 ·cases k
def ZMb(L:Lk):ESh→TEnt→Option TEnt
 |.rowN _ _ _ _,.rowM u np v st e pre mid post=>(ZLV L u mid).map λy=>.rowN u np v st e (pre++[y]) post
 |_,x=>some x
def ZH4(L:Lk):List ESh→List TEnt→Option (List TEnt)
 |[],h=>some h
 |_::_,[]=>some []
 |s::r,x::h=>match ZMb L s x,ZH4 L r h with
  |some y,some ys=>some (y::ys)
  |_,_=>none
theorem ZKe{L:Lk}{s:ESh}{x y:TEnt}(h:ZMb L s x=some y):lkE (some y)=lkE (some x)∧WkE (x.er L) (y.er L):=by
 unfold ZMb at h;split at h
 ·rename_i u np v st e pre mid post;obtain⟨c,h1,rfl⟩:=Zc h;refine⟨?_,ZEl (ZEi h1)⟩;simp only[lkE,yr,yai,List.length_nil];rw[yce,Nat.add_comm (0+1)]
 ·cases h;exact⟨rfl,.refl _⟩
theorem ZEy{L:Lk}:∀{es:List ESh}{h h':List TEnt},ZH4 L es h=some h'→h'.length=h.length∧(∀j:Nat,lkE (h'[j]?)=lkE (h[j]?))∧WkH (h.map (TEnt.er L)) (h'.map (TEnt.er L))
 |[],h,h',k=>by cases k;exact⟨rfl,λ_=>rfl,WkH.refl _⟩
 |_::_,[],h',k=>by cases k;exact⟨rfl,λ_=>rfl,WkH.refl _⟩
 |s::r,x::h,h',k=>by
  simp only[ZH4] at k;split at k
  ·rename_i y ys h1 h2;cases k;obtain⟨a1,a2⟩:=ZKe h1;obtain⟨b1,b2,b3⟩:=ZEy h2;refine⟨by simp[b1],λj=> ?_,.cons a2 b3⟩
   cases j with
   |zero=>exact a1
   |succ j=>exact b2 j
  ·cases k
theorem ZEz{es:List ESh}{h h':List TEnt}(k:ZH4 (lk h) es h=some h'):h'.length=h.length∧lk h'=lk h∧WkH (erH h) (erH h'):=by
 obtain⟨a,b,c⟩:=ZEy k;have e:lk h'=lk h:=funext b;refine⟨a,e, ?_⟩;unfold erH;rw[e];exact c
def ZFZ(n0:Nat)(sl:Slots)(es:List ESh)(a:List TD)(h:List TEnt):Option (List TV):=(ZH4 (lk h) es h).bind λh=>ZA4 n0 sl es a h
theorem ZwS{n0:Nat}{sl:Slots}{es:List ESh}{a:List TD}{h:List TEnt}{vs:List TV}(k:ZFZ n0 sl es a h=some vs):
 ∃a3 h3,W0 a.length sl es vs=some (a3,h3)∧∀{c:Code}{ts:List Dv}{H:List Ent}{ex:Ex},H.length=n0→YU P c ts H ex (TD.ers (lk h) a) (erH h)→YU P c ts H ex (TD.ers (lk h3) a3) (erH h3):=by
 obtain⟨h1,k1,k2⟩:=yc.1 k;obtain⟨e1,e2,e3⟩:=ZEz k1;obtain⟨a3,h3,g1,g2⟩:=ZDb (P:=P) k2;refine⟨a3,h3,g1,λhl r=>g2 hl ?_⟩;rw[e2];exact Zwu r (WkL.refl _) e3
theorem ZwT{n0:Nat}{sl:Slots}{es:List ESh}{a:List TD}{h:List TEnt}{vs:List TV}(hn:h.length=n0)(k:ZFZ n0 sl es a h=some vs):
 ∃a3 h3,W0 a.length sl es vs=some (a3,h3)∧∀(σ:Sg)(act:Act),Ok σ→σ.H=erH h→RepT σ (TD.ers (lk h) a) act→∃σ':Sg,σ'.w=σ.w∧σ'.H=erH h3∧To σ σ'∧Ok σ'∧RepT σ' (TD.ers (lk h3) a3) act:=by
 obtain⟨h1,k1,k2⟩:=yc.1 k;obtain⟨e1,e2,e3⟩:=ZEz k1;obtain⟨a3,h3,g1,g2⟩:=ZDc (by rw[e1];exact hn) k2;refine⟨a3,h3,g1,λσ act ok hH hr=> ?_⟩;obtain⟨to,ok'⟩:=ZkY ok (H':=erH h1) (by rw[hH];exact e3);obtain⟨σ2,q1,q2,q3,q4,q5⟩:=g2 { σ with H:=erH h1} act ok' rfl (by rw[e2];exact hr.to to.leaf);exact⟨σ2,q1,q2,to.trans q3,q4,q5⟩
structure Lp where
 sl:Slots
 es:List ESh
 I:List Ty
 xs:List XSh
 L:Ty.dens I→Option (XSh.sum xs)
def Lp.Is(P:yg)(n:Nat)(c:Code)(lp:Lp):Prop:=
 ∀v o,lp.L v=some o→∀s,W0 n lp.sl lp.es (ofD lp.I v)=some s→∀e vs s',ZAL lp.xs o e vs→W0 n e.sl e.es vs=some s'→
  YU P c (TD.ers (lk s.2) s.1) (erH s.2) e.ex (TD.ers (lk s'.2) s'.1) (erH s'.2)
abbrev Lp.Ok(P:yg)(n:Nat)(body:Code)(lp:Lp):Prop:=lp.Is P n (.loop body)
structure FI where
 hi:HI:={}
 lp:List (Nat×Lp):=[]
 bk:List (Nat×Lp):=[]
 gh:List (Nat×GOp):=[]
 un:Nat:=0
def Code.nl:Code→Nat
 |.seq a b=>Code.nl a+Code.nl b
 |.cond _ a b=>Code.nl a+Code.nl b
 |.block _ a=>Code.nl a
 |.scope a=>Code.nl a
 |.loop a=>Code.nl a+1
 |_=>0
def Code.ns:Code→Nat
 |.seq a b=>Code.ns a+Code.ns b+1
 |.cond _ a b=>Code.ns a+Code.ns b
 |.block _ a=>Code.ns a
 |.scope a=>Code.ns a
 |.loop a=>Code.ns a
 |_=>0
theorem QS:∀c:Code,(ZA c).length=Code.nl c
 |.seq a b=>by simp only[ZA,yr,QS a,QS b,Code.nl]
 |.cond _ a b=>by simp only[ZA,yr,QS a,QS b,Code.nl]
 |.block _ a=>by simp only[ZA,QS a,Code.nl]
 |.scope a=>by simp only[ZA,QS a,Code.nl]
 |.loop a=>by simp only[ZA,yai,QS a,Code.nl]
 |.skip=>rfl
 |.region _ _ _=>rfl
 |.rangeFunc _ _ _ _=>rfl
 |.exit _=>rfl
 |.ret=>rfl
 |.label _=>rfl
 |.goto _=>rfl
 |.refuse _=>rfl
def ZrZ{O:Type}(step:List TD→List TEnt→Kc O→Option O):Nat→List TD→List TEnt→Kc O→Option O
 |0,_,_,_=>none
 |k+1,a,h,K=>step a h λex a' h'=>match ex with
  |.normal=>ZrZ step k a' h' K
  |ex=>K ex a' h'
theorem Zqm{O:Type}{body:Code}{N:Nat}{step:List TD→List TEnt→Kc O→Option O}
 (hs:∀(a:List TD)(h:List TEnt)(K:Kc O)(out:O),a.length=N→step a h K=some out→∃ex a' h',K ex a' h'=some out∧a'.length=N∧YU P body (TD.ers (lk h) a) (erH h) ex (TD.ers (lk h') a') (erH h')):
 ∀(k:Nat)(a:List TD)(h:List TEnt)(K:Kc O)(out:O),a.length=N→ZrZ step k a h K=some out→∃ex a' h',K ex a' h'=some out∧a'.length=N∧Zwo P body (TD.ers (lk h) a) (erH h) ex (TD.ers (lk h') a') (erH h')
 |0,_,_,_,_,_,k=>by cases k
 |n+1,a,h,K,out,hN,k=>by
  unfold ZrZ at k;obtain⟨ex,a1,h1,k1,k2,k3⟩:=hs _ _ _ _ hN k;split at k1
  ·obtain⟨ex2,a2,h2,k4,k5,k6⟩:=Zqm hs n a1 h1 K out k2 k1;exact⟨ex2,a2,h2,k4,k5,Zwq [] k3 k6⟩
  ·rename_i hne;exact⟨_,a1,h1,k1,k2,Zwp hne k3⟩
def Zo9(m:Nat)(a:List TD)(h:List TEnt):List (Nat×Lp)→Option (Σ bk:Lp,Ty.dens bk.I)
 |[]=>none
 |q::r=>if Nat.beq q.1 m=true then match (ZFZ h.length q.2.sl q.2.es a h).bind (toD q.2.I) with
   |some v=>some ⟨q.2,v⟩
   |none=>Zo9 m a h r
  else Zo9 m a h r
theorem ZeV{m:Nat}{a:List TD}{h:List TEnt}{b:Σ bk:Lp,Ty.dens bk.I}:∀{l:List (Nat×Lp)},Zo9 m a h l=some b→(m,b.1)∈l∧∃vs,ZFZ h.length b.1.sl b.1.es a h=some vs∧toD b.1.I vs=some b.2
 |[],k=>by cases k
 |q::r,k=>by
  unfold Zo9 at k;split at k
  ·rename_i hm;split at k
   ·rename_i v hv;cases k;have e:=Nat.eq_of_beq_eq_true hm;refine⟨?_,yc.1 hv⟩;rw[←e];exact yap ..
   ·obtain⟨h1,h2⟩:=ZeV k;exact⟨yau _ h1,h2⟩
  ·obtain⟨h1,h2⟩:=ZeV k;exact⟨yau _ h1,h2⟩
def evT{O:Type}(P:yg)(fi:FI)(specs:Sp P):Code→Nat→Nat→List TD→List TEnt→Kc O→Option O
 |.skip,_,_,a,h,K=>K .normal a h
 |.label _,_,_,a,h,K=>K .normal a h
 |.region _ ops draw,_,_,a,h,K=>if draw=true then ZL4 P fi.hi specs ops a h λa' h'=>K .normal a' h' else if ZL7 ops=true then ZCW P fi.hi specs ops (ops.toList.take (ops.size - 5)) a h λa' h' _=>ZEu P (ops.toList.drop (ops.size - 5)) a' h' λa' h'=>K .normal a' h'
  else ZCW P fi.hi specs ops ops.toList a h λa' h' _=>K .normal a' h'
 |.seq x y,n,m,a,h,K=>ghO (fi.gh.lookup m) a h λa h=>match Zo9 m a h fi.bk with
  |none=>evT P fi specs x n (m+1) a h λex a' h'=>match ex with
   |.normal=>evT P fi specs y (n+Code.nl x) (m+1+Code.ns x) a' h' K
   |ex=>K ex a' h'
  |some bk=>(bk.1.L bk.2).bind λo=>xT a.length bk.1.xs o λex a' h'=>match ex with
   |.normal=>evT P fi specs y (n+Code.nl x) (m+1+Code.ns x) a' h' K
   |ex=>K ex a' h'
 |.cond c x y,n,m,a,h,K=>((arT P a 0 c).bind TD.boolT).bind λb=>match c with
  |.tmp t=>if b=true then evT P fi specs x n m (a.set t (Zvc true)) h K else evT P fi specs y (n+Code.nl x) (m+Code.ns x) (a.set t (Zvc false)) h K
  |_=>if b=true then evT P fi specs x n m a h K else evT P fi specs y (n+Code.nl x) (m+Code.ns x) a h K
 |.block id body,n,m,a,h,K=>evT P fi specs body n m a h λex a' h'=>K (Zyw id ex) a' h'
 |.loop body,n,m,a,h,K=>match Zo9 n a h fi.lp with
  |some lp=>(lp.1.L lp.2).bind λo=>xT a.length lp.1.xs o K
  |none=>ZrZ (λa h K=>evT P fi specs body (n+1) m a h K) fi.un a h K
 |.scope body,n,m,a,h,K=>evT P fi specs body n m a h K
 |.exit id,_,_,a,h,K=>K (.exit id) a h
 |.ret,_,_,a,h,K=>K .ret a h
 |_,_,_,_,_,_=>none
def Xn:Code→List Code
 |.seq a b=>a::(Xn a++Xn b)
 |.cond _ a b=>Xn a++Xn b
 |.block _ a=>Xn a
 |.scope a=>Xn a
 |.loop a=>Xn a
 |_=>[]
theorem QT:∀c:Code,(Xn c).length=Code.ns c
 |.seq a b=>by simp only[Xn,yai,yr,QT a,QT b,Code.ns]
 |.cond _ a b=>by simp only[Xn,yr,QT a,QT b,Code.ns]
 |.block _ a=>by simp only[Xn,QT a,Code.ns]
 |.scope a=>by simp only[Xn,QT a,Code.ns]
 |.loop a=>by simp only[Xn,QT a,Code.ns]
 |.skip=>rfl
 |.region _ _ _=>rfl
 |.rangeFunc _ _ _ _=>rfl
 |.exit _=>rfl
 |.ret=>rfl
 |.label _=>rfl
 |.goto _=>rfl
 |.refuse _=>rfl
def ZhH(P:yg)(fi:FI)(N:Nat)(c:Code)(m:Nat):Prop:=∀(k:Nat)(x:Code),(Xn c)[k]? =some x→∀bk,(m+k,bk)∈fi.bk→bk.Is P N x
theorem ZH5{fi:FI}{N:Nat}{x y c:Code}{m:Nat}(e:Xn c=Xn x++Xn y)(h:ZhH P fi N c m):ZhH P fi N x m:=λk b hk=>h k b (by
 rw[e,yah (yo.1 hk).1];exact hk)
theorem ZF0{fi:FI}{N:Nat}{x y c:Code}{m:Nat}(e:Xn c=Xn x++Xn y)(h:ZhH P fi N c m):ZhH P fi N y (m+Code.ns x):=λk b hk lp hl=>h (Code.ns x+k) b (by
 rw[e,yam (by rw[QT];omega),QT];rw[show Code.ns x+k - Code.ns x=k by omega];exact hk) lp (by rw[←yce];exact hl)
theorem ZH6{fi:FI}{N:Nat}{x y:Code}{m:Nat}(h:ZhH P fi N (.seq x y) m):ZhH P fi N x (m+1):=λk b hk lp hl=>h (k+1) b (by
 rw[Xn,yar,yah (yo.1 hk).1];exact hk) lp (by rw[show m+(k+1)=m+1+k by omega];exact hl)
theorem ZA5{fi:FI}{N:Nat}{x y:Code}{m:Nat}(h:ZhH P fi N (.seq x y) m):ZhH P fi N y (m+1+Code.ns x):=λk b hk lp hl=>h (Code.ns x+k+1) b (by
 rw[Xn,yar,yam (by rw[QT];omega),QT];rw[show Code.ns x+k - Code.ns x=k by omega];exact hk) lp (by rw[show m+(Code.ns x+k+1)=m+1+Code.ns x+k by omega];exact hl)
def Zk1(P:yg)(fi:FI)(N:Nat)(c:Code)(n:Nat):Prop:=∀(k:Nat)(b:Code),(ZA c)[k]? =some (.loop b)→∀lp,(n+k,lp)∈fi.lp→lp.Ok P N b
theorem ZA6{fi:FI}{N:Nat}{x y c:Code}{n:Nat}(e:ZA c=ZA x++ZA y)(h:Zk1 P fi N c n):Zk1 P fi N x n:=λk b hk=>h k b (by
 rw[e,yah (yo.1 hk).1];exact hk)
theorem ZwU{fi:FI}{N:Nat}{x y c:Code}{n:Nat}(e:ZA c=ZA x++ZA y)(h:Zk1 P fi N c n):Zk1 P fi N y (n+Code.nl x):=λk b hk lp hl=>h (Code.nl x+k) b (by
 rw[e,yam (by rw[QS];omega),QS];rw[show Code.nl x+k - Code.nl x=k by omega];exact hk) lp (by rw[←yce];exact hl)
theorem XB{O:Type}{fi:FI}{specs:Sp P}{out:O}{N:Nat}(ok:SpOk specs):∀(c:Code)(n m:Nat)(a:List TD)(h:List TEnt)(K:Kc O),a.length=N→Zk1 P fi N c n→ZhH P fi N c m→evT P fi specs c n m a h K=some out→
 ∃ex a' h',K ex a' h'=some out∧a'.length=N∧YU P c (TD.ers (lk h) a) (erH h) ex (TD.ers (lk h') a') (erH h')
 |.skip,n,m,a,h,K,hN,hl,hb0,k=>⟨_,_,_,k,hN,ZFX⟩
 |.label _,n,m,a,h,K,hN,hl,hb0,k=>⟨_,_,_,k,hN,ZDa⟩
 |.exit _,n,m,a,h,K,hN,hl,hb0,k=>⟨_,_,_,k,hN,ZFY⟩
 |.ret,n,m,a,h,K,hN,hl,hb0,k=>⟨_,_,_,k,hN,ZH3⟩
 |.region id ops draw,n,m,a,h,K,hN,hl,hb0,k=>by
  unfold evT at k
  cases draw with
  |true=>
   rw[if_pos rfl] at k;obtain⟨a',h',k1,k2,k3⟩:=ZFQ ok k
   exact⟨_,_,_,k1,by rw[k2,hN],k3 id⟩
  |false=>
   rw[if_neg (by decide)] at k;split at k
   ·obtain⟨a',h',k1,k2,k3⟩:=ZFV ok k;exact⟨_,_,_,k1,by rw[k2,hN],k3 id⟩
   ·obtain⟨a',h',hs,k1,k2,k3⟩:=ZFR ok k
    exact⟨_,_,_,k1,by rw[k2,hN],k3 id⟩
 |.seq x y,n,m,a,h,K,hN,hl,hb0,k=>by
  have hx:=ZA6 (x:=x) (y:=y) rfl hl;have hy:=ZwU (x:=x) (y:=y) rfl hl;unfold evT at k;obtain⟨a0,h0,k,hN0,gst⟩:=ZH2 k;rw[hN] at hN0
  suffices key:∃ex a' h',K ex a' h'=some out∧a'.length=N∧YU P (.seq x y) (TD.ers (lk h0) a0) (erH h0) ex (TD.ers (lk h') a') (erH h') by
   obtain⟨ex,a',h',g1,g2,g3⟩:=key;exact⟨ex,a',h',g1,g2,ZKb gst g3⟩
  clear gst;have hN:=hN0;clear hN0;split at k
  ·obtain⟨ex,a1,h1,k1,k2,k3⟩:=XB ok x _ _ _ _ _ hN hx (ZH6 hb0) k;split at k1
   ·obtain⟨ex2,a2,h2,k4,k5,k6⟩:=XB ok y _ _ _ _ _ k2 hy (ZA5 hb0) k1;exact⟨_,_,_,k4,k5,ZA3 k3 k6⟩
   ·rename_i hne;exact⟨_,_,_,k1,k2,ZwQ hne k3⟩
  ·rename_i bkv hbk;obtain⟨bk,v⟩:=bkv;obtain⟨hbk,vs,j1,j2⟩:=ZeV hbk;dsimp only at hbk j1 j2 k;obtain⟨o,j3,k⟩:=yc.1 k;obtain⟨e,vs',s,g1,g2,g3⟩:=Znq k;obtain⟨a3,h3,j4,j5⟩:=ZwT rfl j1;have hok:=hb0 0 x rfl bk (by rw[Nat.add_zero];exact hbk);rw[hN] at g2 j4;have e1:=QR _ _ _ j2;have r:=hok v o j3 (a3,h3) (by rw[e1];exact j4) e vs' s g1 g2
   have k3:YU P x (TD.ers (lk h0) a0) (erH h0) e.ex (TD.ers (lk s.2) s.1) (erH s.2):=by
    intro σ act okσ hH hrep;obtain⟨σ1,p1,p2,p3,p4,p5⟩:=j5 σ act okσ hH hrep;rw[←p1];refine wp_mono (r σ1 act p4 p2 p5) ?_;rintro e' a' w' ⟨rfl,σ2,q1,q2,q3,q4,q5⟩;exact⟨rfl,σ2,q1,q2,p3.trans q3,q4,q5⟩
   split at g3
   ·rename_i he;rw[he] at k3;obtain⟨ex2,a2,h2,k4,k5,k6⟩:=XB ok y _ _ _ _ _ (Zkm g2) hy (ZA5 hb0) g3;exact⟨_,_,_,k4,k5,ZA3 k3 k6⟩
   ·rename_i hne
    exact⟨_,_,_,g3,Zkm g2,ZwQ hne k3⟩
 |.cond c x y,n,m,a,h,K,hN,hl,hb0,k=>by
  have hx:=ZA6 (x:=x) (y:=y) rfl hl;have hy:=ZwU (x:=x) (y:=y) rfl hl;have bx:=ZH5 (x:=x) (y:=y) rfl hb0;have bY:=ZF0 (x:=x) (y:=y) rfl hb0;unfold evT at k;obtain⟨b,k0,k⟩:=yc.1 k;obtain⟨d,k00,k01⟩:=yc.1 k0;have hc:=Zn (L:=lk h) k00;rw[Zf9 k01] at hc;split at k
  ·rename_i t;cases k00;have e:=ZAT k01;split at k
   ·rename_i hb;subst hb;rw[set_same e] at k;obtain⟨ex,a1,h1,k1,k2,k3⟩:=XB ok x _ _ _ _ _ hN hx bx k;exact⟨_,_,_,k1,k2,Zko hc k3⟩
   ·rename_i hb;have hb:b=false:=by simpa using hb
    subst hb;rw[set_same e] at k;obtain⟨ex,a1,h1,k1,k2,k3⟩:=XB ok y _ _ _ _ _ hN hy bY k;exact⟨_,_,_,k1,k2,Zko hc k3⟩
  ·split at k
   ·rename_i hb;subst hb;obtain⟨ex,a1,h1,k1,k2,k3⟩:=XB ok x _ _ _ _ _ hN hx bx k;exact⟨_,_,_,k1,k2,Zko hc k3⟩
   ·rename_i hb;have hb:b=false:=by simpa using hb
    subst hb;obtain⟨ex,a1,h1,k1,k2,k3⟩:=XB ok y _ _ _ _ _ hN hy bY k
    exact⟨_,_,_,k1,k2,Zko hc k3⟩
 |.block id body,n,m,a,h,K,hN,hl,hb0,k=>by
  unfold evT at k;obtain⟨ex,a1,h1,k1,k2,k3⟩:=XB ok body _ _ _ _ _ hN hl hb0 k
  exact⟨_,_,_,k1,k2,ZC8 k3⟩
 |.scope body,n,m,a,h,K,hN,hl,hb0,k=>by
  unfold evT at k;obtain⟨ex,a1,h1,k1,k2,k3⟩:=XB ok body _ _ _ _ _ hN hl hb0 k
  exact⟨_,_,_,k1,k2,ZC9 k3⟩
 |.loop body,n,m,a,h,K,hN,hl,hb0,k=>by
  unfold evT at k;split at k
  ·rename_i lpv hlp;obtain⟨lp,v⟩:=lpv;obtain⟨hlp,vs,j1,j2⟩:=ZeV hlp;dsimp only at hlp j1 j2 k;obtain⟨o,j3,k⟩:=yc.1 k;obtain⟨e,vs',s,g1,g2,g3⟩:=Znq k;obtain⟨a3,h3,j4,j5⟩:=ZwT rfl j1;have hok:=hl 0 body rfl lp (by rw[Nat.add_zero];exact hlp);rw[hN] at g2 j4;have e1:=QR _ _ _ j2;have r:=hok v o j3 (a3,h3) (by rw[e1];exact j4) e vs' s g1 g2;refine⟨_,_,_,g3,Zkm g2, ?_⟩;intro σ act okσ hH hrep;obtain⟨σ1,p1,p2,p3,p4,p5⟩:=j5 σ act okσ hH hrep;rw[←p1];refine wp_mono (r σ1 act p4 p2 p5) ?_;rintro e' a' w' ⟨rfl,σ2,q1,q2,q3,q4,q5⟩;exact⟨rfl,σ2,q1,q2,p3.trans q3,q4,q5⟩
  ·have hl1:Zk1 P fi N body (n+1):=λk b hk lp hl2=>hl (k+1) b (by rw[ZA,yar];exact hk) lp (by rw[show n+(k+1)=n+1+k by omega];exact hl2);obtain⟨ex,a1,h1,k1,k2,k3⟩:=Zqm (λa h K out hN k=>XB ok body _ _ _ _ K hN hl1 hb0 k) _ _ _ _ _ hN k
   exact⟨ex,a1,h1,k1,k2,Zwr k3⟩
 |.rangeFunc _ _ _ _,_,_,_,_,_,_,_,_,k=>by cases k
 |.goto _,_,_,_,_,_,_,_,_,k=>by cases k
 |.refuse _,_,_,_,_,_,_,_,_,k=>by cases k
theorem ZA7{α:Type}{l:List α}{i:Nat}{x:α}(h:l[i]? =some x):l.set i x=l:=by
 apply ybd;intro j;rw[ybg];split
 ·rename_i e;subst e;rw[h,if_pos (yo.1 h).1]
 ·rfl
theorem Ztq{σ σ':Sg}(hl:∀d vs,repD σ d vs→repD σ' d vs){x y:Dv}(hxy:∀vs,repD σ x vs→repD σ' y vs):∀(xs:List Dv)(i:Nat),xs[i]? =some x→∀vs,repDs σ xs vs→repDs σ' (xs.set i y) vs
 |[],i,h,_,_=>by simp at h
 |z::r,0,h,vs,k=>by
  simp only[ybh,yj] at h;subst h;simp only[repDs,List.set_cons_zero] at k ⊢;obtain⟨us,us',e,h1,h2⟩:=k;refine⟨us,us',e,hxy us h1, ?_⟩;clear e h1
  induction r generalizing us' with
  |nil=>simpa only[repDs] using h2
  |cons w r ih=>
   simp only[repDs] at h2 ⊢;obtain⟨a,b,e,h3,h4⟩:=h2
   exact⟨a,b,e,hl _ _ h3,ih _ h4⟩
 |z::r,i+1,h,vs,k=>by
  simp only[yar] at h;simp only[repDs,List.set_cons_succ] at k ⊢;obtain⟨us,us',e,h1,h2⟩:=k;exact⟨us,us',e,hl _ _ h1,Ztq hl hxy r i h us' h2⟩
theorem Ztr{x y:Dv}(e:y.size=x.size):∀(xs:List Dv)(i:Nat),xs[i]? =some x→Dv.sizes (xs.set i y)=Dv.sizes xs
 |[],i,h=>by simp at h
 |z::r,0,h=>by
  simp only[ybh,yj] at h;subst h
  simp only[List.set_cons_zero,Dv.sizes,e]
 |z::r,i+1,h=>by
  simp only[yar] at h;simp only[List.set_cons_succ,Dv.sizes,Ztr e r i h]
theorem ZA8{n:Nat}:∀{ds:List TD}{i:Nat}{x:TD},TD.frees n ds=true→ds[i]? =some x→x.free n=true
 |[],i,x,_,h=>by simp at h
 |y::r,0,x,hf,h=>by
  simp only[TD.frees,yi] at hf;simp only[ybh,yj] at h;rw[←h]
  exact hf.1
 |y::r,i+1,x,hf,h=>by
  simp only[TD.frees,yi] at hf;exact ZA8 hf.2 (by simpa using h)
theorem ZKf{h:List TEnt}{j id i:Nat}{T:Ty}{v v':List Unit}{st:Bool}{e:yb}{l:List T.den}{ds:List TD}{stt:Bool}
 (hj:h[j]? =some (.rowT T v st e l)) (hid:h[id]? =some (.var (.agg ds) stt)) (hi:ds[i]? =some (.rw j)) (hlt:v.length < v'.length)
 (fh:∀(q:Nat)(x:TEnt),q≠id→h[q]? =some x→x.free j=true) (fd:∀(q:Nat)(x:TD),q≠i→ds[q]? =some x→x.free j=true):
 (∀q t,q≠j→ZS (lk h) q t none=ZS (lk (h.set j (.rowT T v' st e l))) q t none)∧Yw (erH h) (erH (h.set j (.rowT T v' st e l))):=by
 have hc:∀q t,q≠j→ZS (lk h) q t none=ZS (lk (h.set j (.rowT T v' st e l))) q t none:=λq t hq=>by
  unfold ZS lk;rw[getElem?_set_ne' (Ne.symm hq)]
 refine⟨hc,λσ ok hH=> ?_⟩
 have hne:id≠j:=by
  rintro rfl;rw[hj] at hid;cases hid
 have hjl:j < σ.m.length:=by rw[ok.len,hH,Zx];exact(yo.1 hj).1
 have hil:id < σ.m.length:=by rw[ok.len,hH,Zx];exact(yo.1 hid).1
 obtain⟨mj,hmj⟩:∃x,σ.m[j]? =some x:=⟨_,yac hjl⟩;obtain⟨mi,hmi⟩:∃x,σ.m[id]? =some x:=⟨_,yac hil⟩;have eHj:σ.H[j]? =some (.row v.length T.size st e (.p (.arr l.length T.size (l.map T.enc)))):=by rw[hH];exact ZF hj
 have eHi:σ.H[id]? =some (.var ((TD.agg ds).er (lk h)) stt):=by rw[hH];exact ZF hid
 let σa:Sg:={ σ with H:=σ.H.set j (.row v'.length T.size st e (.p (.arr l.length T.size (l.map T.enc))))}
 obtain⟨toa,oka⟩:=Yz (σ':=σa) (mi:=mj) (mi':=mj) ok eHj hmj rfl rfl rfl (ZA7 hmj).symm rfl rfl rfl (ym _) (λ_ _ _=>rfl) (λ_ _ _ _ _ h=>h) (λ_ _ h=>h) (.inl rfl)
  (λ⟨_,_,h⟩=>by cases h) (λ⟨_,_,h⟩=>by cases h) (λ_ _ _ h=>by cases h) (λleaf=>by
    obtain⟨N,h1,h2⟩:=ok.ent j _ _ eHj hmj;refine⟨N,h1, ?_⟩;rcases h2 with h2|⟨b,cur,cap,a1,a2,a3,a4,a5,a6⟩
    ·exact .inl h2
    ·exact .inr ⟨b,cur,cap,a1,a2,a3,a4,a5,ZO leaf _ _ a6⟩) (λv0 s0 st0 e0 d0 h0=>by
    cases h0;exact⟨_,_,_,rfl,Nat.le_of_lt hlt,λq=>by omega⟩)
 have eHi':σa.H[id]? =some (.var ((TD.agg ds).er (lk h)) stt):=by
  show(σ.H.set j _)[id]? =_;rw[getElem?_set_ne' (Ne.symm hne)];exact eHi
 let σb:Sg:={ σa with H:=σa.H.set id (.var ((TD.agg ds).er (lk (h.set j (.rowT T v' st e l)))) stt)}
 have eHjb:σb.H[j]? =some (.row v'.length T.size st e (.p (.arr l.length T.size (l.map T.enc)))):=by
  show((σ.H.set j _).set id _)[j]? =_;rw[getElem?_set_ne' hne];exact getElem?_set_eq' eHj
 have hj':(h.set j (TEnt.rowT T v' st e l))[j]? =some (.rowT T v' st e l):=getElem?_set_eq' hj;have er1:(TD.rw j).er (lk h)=.rv j v.length T.size 0 l.length:=(Qq hj).1;have er2:(TD.rw j).er (lk (h.set j (.rowT T v' st e l)))=.rv j v'.length T.size 0 l.length:=(Qq hj').1
 have ers:TD.ers (lk (h.set j (.rowT T v' st e l))) ds=(TD.ers (lk h) ds).set i (.rv j v'.length T.size 0 l.length):=by
  apply ybd;intro q;rw[ybg];by_cases hq:i=q
  ·subst hq;rw[if_pos rfl,Vp hi,er2,if_pos (by rw[QK];exact(yo.1 hi).1)]
  ·rw[if_neg hq]
   cases hx:ds[q]? with
   |none=>
    have:=List.getElem?_eq_none_iff.1 hx
    rw[yan (by rw[QK];exact this),yan (by rw[QK];exact this)]
   |some x=>rw[Vp hx,Vp hx,QM hc x (fd q x (Ne.symm hq) hx)]
 obtain⟨tob,okb⟩:=Yz (σ':=σb) (mi:=mi) (mi':=mi) oka eHi' hmi rfl rfl rfl (ZA7 hmi).symm rfl rfl rfl (ym _) (λ_ _ _=>rfl) (λ_ _ _ _ _ h=>h) (λ_ _ h=>h) (.inl rfl)
  (λ_=>⟨rfl,_,_,rfl⟩) (λ⟨_,_,h⟩=>by cases h) (λ_ _ _ h=>by cases h) (λleaf=>by
    obtain⟨b,cs,t,a1,a2,a3,a4⟩:=ok.ent id _ _ eHi hmi
    have hsz:((TD.agg ds).er (lk (h.set j (.rowT T v' st e l)))).size=((TD.agg ds).er (lk h)).size:=by
     simp only[TD.er,Dv.size,ers];exact Ztr (x:=Dv.rv j v.length T.size 0 l.length) (y:=Dv.rv j v'.length T.size 0 l.length) rfl _ _ (by rw[Vp hi,er1])
    refine⟨b,cs,t,a1,a2, ?_,by rw[hsz];exact a4⟩;rw[hsz];simp only[TD.er,repD] at a3 ⊢;rw[ers];refine Ztq (σ:=σ) (x:=Dv.rv j v.length T.size 0 l.length) (λd vs hd=>ZO leaf _ _ (ZO toa.leaf _ _ hd)) (λvs hd=> ?_) _ i (by rw[Vp hi,er1]) _ a3;simp only[repD] at hd ⊢;obtain⟨A,c,g1,g2,g3,g4,g5,v0,s0,st0,e0,d0,g6,g7,g8⟩:=hd;rw[eHj] at g6;cases g6;obtain⟨g9,g10⟩:=g8 rfl;exact⟨A,c,g1,g2,g3,g4,g5,v'.length,T.size,st,e,_,eHjb,ym _,λ_=>⟨rfl,g10⟩⟩)
 refine⟨σb,rfl, ?_,toa.trans tob,okb⟩;apply ybd;intro q;show((σ.H.set j _).set id _)[q]? =_;by_cases hq:q=id
 ·subst hq;rw[ZF (by rw[getElem?_set_ne' (Ne.symm hne)];exact hid),getElem?_set_eq' eHi'];rfl
 ·by_cases hqj:q=j
  ·subst hqj;rw[ZF hj'];exact eHjb
  ·rw[getElem?_set_ne' (Ne.symm hq),getElem?_set_ne' (Ne.symm hqj),hH];unfold erH;rw[yaf,yaf,getElem?_set_ne' (Ne.symm hqj)]
   cases hx:h[q]? with
   |none=>rfl
   |some x=>
    rw[yz,yz,Zs2 hc x (fh q x hq hx)]
theorem ZKg{σ σ1:Sg}(ok:Ok σ)(to:To σ σ1){k j:Nat}{rest:List Nat}{H:List Ent}(hk:k < σ.H.length)(hj:σ.H.length≤j){v v2 s:Nat}{st st2:Bool}{e:yb}{d d2:Dv}
 (ek:σ1.H[k]? =some (.row v s st e d)) (ej:σ1.H[j]? =some (.row v2 s st2 e d2)) (hlt:v < v2) (ho:once ((yq σ.H.length).set k j++rest)=true) (hr:rest.contains k=false)
 (hin:subEnts σ1.H ((yq σ.H.length).set k j++rest) ((yq σ.H.length).set k j++rest)=some H):To σ (ZhE σ1 ((yq σ.H.length).set k j++rest) H):=by
 have hp:∀id,id < σ.H.length→id≠k→((yq σ.H.length).set k j++rest)[id]? =some id:=λid h hne=>by
  rw[yah (by simpa using h),getElem?_set_ne' (Ne.symm hne),List.getElem?_range h]
 have hpk:((yq σ.H.length).set k j++rest)[k]? =some j:=by
  rw[yah (by simpa using hk)];exact getElem?_set_eq' (List.getElem?_range hk)
 have hf:∀id,id < σ.H.length→id≠k→toIds ((yq σ.H.length).set k j++rest) id=some id:=λid h hne=>idxOf?_of ho (hp id h hne);have hfk:toIds ((yq σ.H.length).set k j++rest) j=some k:=idxOf?_of ho hpk
 have hnk:∀q,((yq σ.H.length).set k j++rest)[q]? ≠some k:=λq hq=>by
  rcases ybp q σ.H.length with h|h
  ·by_cases hqk:q=k
   ·subst hqk;rw[hpk] at hq;cases hq;omega
   ·rw[hp q h hqk] at hq;cases hq;exact hqk rfl
  ·rw[yam (by simpa using h)] at hq;have:=ybm hq;rw[Bool.eq_false_iff] at hr;exact hr (by simpa using this)
 have rn:=ZcF hin;refine⟨⟨λb o v h1 h2=> ?_,λid b h1 h2=> ?_,λid s len A c h1=> ?_,λid b h1 h2=> ?_,λid v s st e d h1=> ?_⟩,to.F,to.B,to.os,to.tape,to.output,to.size,λb h1 h2=>to.block b h1 h2,λid b h=> ?_, ?_⟩
 ·obtain⟨h3,h4⟩:=to.leaf.cells b o v h1 h2;exact⟨h3,rn.stab b o v h3 h4⟩
 ·have hlt:id < σ.H.length:=by rw[←ok.len];exact(yo.1 h1).1
  obtain⟨h3,h4⟩:=to.leaf.var id b h1 h2;by_cases hne:id=k
  ·subst hne;obtain⟨d,st,h4⟩:=h4;rw[ek] at h4;cases h4
  ·exact⟨rn.m _ _ (hf id hlt hne) _ h3,rn.var (hf id hlt hne) h4⟩
 ·have hlt:id < σ.H.length:=by
   obtain⟨e,ys,h2,_⟩:=h1;exact(yo.1 h2).1
  have h3:=to.leaf.front _ _ _ _ _ h1;by_cases hne:id=k
  ·subst hne;obtain⟨e,ys,h4,_⟩:=h3;rw[ek] at h4;cases h4
  ·exact rn.front (hf id hlt hne) h3
 ·have hlt:id < σ.H.length:=by rw[←ok.len];exact(yo.1 h1).1
  obtain⟨h3,h4⟩:=to.leaf.map id b h1 h2;by_cases hne:id=k
  ·subst hne;obtain⟨d,st,h4⟩:=h4;rw[ek] at h4;cases h4
  ·exact⟨rn.m _ _ (hf id hlt hne) _ h3,rn.map (hf id hlt hne) h4⟩
 ·have hl:id < σ.H.length:=(yo.1 h1).1;obtain⟨v',st',d',h5,h6,h7⟩:=to.leaf.row _ _ _ _ _ _ h1;by_cases hne:id=k
  ·subst hne;rw[ek] at h5;cases h5;obtain⟨d3,h8⟩:=rn.row hfk ej;exact⟨v2,st2,d3,h8,by omega,λq=>by omega⟩
  ·obtain⟨d2,h8⟩:=rn.row (hf id hl hne) h5;refine⟨v',st',d2,h8,h6,λhv=> ?_⟩;obtain⟨h9,h10⟩:=h7 hv;refine⟨?_,h10⟩;have hmm:∃x,σ.m[id]? =some x:=⟨_,yac (by rw[ok.len];exact hl)⟩;obtain⟨x,hx⟩:=hmm;rw[hx];exact rn.m _ _ (hf id hl hne) _ (by rw[h9];exact hx)
 ·obtain⟨x,h1,h2⟩:=ZaK h;rcases to.same x b h2 with h3|h3
  ·have hlt:x < σ.H.length:=by rw[←ok.len];exact(yo.1 h3).1
   by_cases hne:x=k
   ·subst hne;exact absurd h1 (hnk _)
   ·have:=ZiL ho _ _ _ h1 (hp x hlt hne);subst this;exact .inl h3
  ·exact .inr h3
 ·show σ.m.length≤(((yq σ.H.length).set k j++rest).map _).length;rw[ok.len];simp
def ZK6(n:Nat):Option TD→Bool
 |some (.rw j)=>Nat.beq j n
 |_=>false
def sw1(n0 id i k:Nat)(a:List TD)(h:List TEnt):Option (List TD×List TEnt):=
 match h[id]?,h[k]?,h[n0]? with
 |some (.var (.agg ds) stt),some (.rowT T w st e l),some (.rowT U x st2 e2 m)=>
  if(Nat.ble (id+1) n0&&Nat.ble (k+1) n0&&decide (T.size=U.size)&&decide (e=e2)&&ZK6 n0 ds[i]? &&TD.frees n0 a&&(h.set id .gone).all (TEnt.free n0)&&TD.frees n0 (ds.set i .junk)&&
   once ((yq n0).set k n0++List.range' (n0+1) (h.length - (n0+1)))&& !(List.range' (n0+1) (h.length - (n0+1))).contains k)=true then
   (YV (h.set n0 (.rowT U (()::(w++x)) st2 e2 m)) ((yq n0).set k n0++List.range' (n0+1) (h.length - (n0+1))) ((yq n0).set k n0++List.range' (n0+1) (h.length - (n0+1)))).bind λh2=>
     (TD.rns (toIds ((yq n0).set k n0++List.range' (n0+1) (h.length - (n0+1)))) a).map λa2=>(a2,h2)
  else none
 |_,_,_=>none
theorem ZH7{n0 id i k:Nat}{a:List TD}{h:List TEnt}{q:List TD×List TEnt}(hs:sw1 n0 id i k a h=some q){c:Code}{ts:List Dv}{H:List Ent}{ex:Ex}(hn:H.length=n0)
 (r:YU P c ts H ex (TD.ers (lk h) a) (erH h)):YU P c ts H ex (TD.ers (lk q.2) q.1) (erH q.2):=by
 unfold sw1 at hs;split at hs
 ·rename_i ds stt T w st e l U x st2 e2 m h1 h2 h3;split at hs
  ·rename_i hb;simp only[yi,decide_eq_true_eq,Bool.not_eq_true'] at hb;obtain⟨⟨⟨⟨⟨⟨⟨⟨⟨b1,b2⟩,b3⟩,b4⟩,b5⟩,b6⟩,b7⟩,b8⟩,b9⟩,b10⟩:=hb;have b1:=Nat.le_of_ble_eq_true b1;have b2:=Nat.le_of_ble_eq_true b2;subst b4;obtain⟨h',k1,hs⟩:=yc.1 hs;obtain⟨a',k2,rfl⟩:=Zc hs
   have hi:ds[i]? =some (.rw n0):=by
    unfold ZK6 at b5;split at b5
    ·rename_i j hj;rw[hj,Nat.eq_of_beq_eq_true b5]
    ·cases b5
   obtain⟨hc,gs⟩:=ZKf (v':=()::(w++x)) h3 h1 hi (by simp;omega) (λq y hq hy=>by
    have:y∈h.set id .gone:=ybm (i:=q) (by rw[getElem?_set_ne' (Ne.symm hq)];exact hy);exact yba.1 b7 y this) (λq y hq hy=>ZA8 b8 (i:=q) (by rw[getElem?_set_ne' (Ne.symm hq)];exact hy))
   intro σ act ok hH hrep;have hlen:σ.H.length=n0:=by rw[hH,hn]
   refine wp_mono (r σ act ok hH hrep) ?_;rintro e' a1 w' ⟨rfl,σ1,rfl,g1,to1,ok1,hrep1⟩;obtain⟨σ2,e1,e2,to2,ok2⟩:=gs σ1 ok1 g1;have hrep2:=hrep1.to to2.leaf;rw[ers_free hc a b6] at hrep2;have hin:=YI (Wv k1) k1;rw[←e2, ←hlen] at hin;rw[←hlen] at b9 b10 k2 b2 h3;have ho:=b9;refine⟨rfl,ZhE σ2 ((yq σ.H.length).set k σ.H.length++List.range' (σ.H.length+1) (h.length - (σ.H.length+1))) (erH h'),e1,rfl,ZKg ok (to1.trans to2) b2 (ym _) (v:=w.length) (v2:=(()::(w++x)).length) (s:=T.size) (st:=st) (st2:=st2) (e:=e) (d:=.p (.arr l.length T.size (l.map T.enc))) (d2:=.p (.arr m.length U.size (m.map U.enc))) ?_ ?_ (by simp;omega) ho b10 hin,Zm6 ok2 ho hin, ?_⟩
   ·rw[e2];have:k≠n0:=by omega
    exact ZF (e:=.rowT T w st e l) (by rw[getElem?_set_ne' (Ne.symm this)];exact h2)
   ·rw[e2,b3];exact ZF (e:=.rowT U (()::(w++x)) st2 e m) (by rw[hlen] at h3 ⊢;exact getElem?_set_eq' h3)
   ·refine ZsL (ZcF hin) (ts:=TD.ers (lk (h.set n0 (.rowT U (()::(w++x)) st2 e m))) a) ?_ hrep2;rw[hlen] at k2 ⊢;exact rns_er (Wv k1) _ _ k2
  ·cases hs
 ·cases hs
def sws(n0:Nat):List (Nat×Nat×Nat×Nat)→List TD→List TEnt→Option (List TD×List TEnt)
 |[],a,h=>some (a,h)
 |x::r,a,h=>(sw1 n0 x.1 x.2.1 x.2.2.1 a h).bind λq=>sws n0 r q.1 q.2
theorem ZA9{n0:Nat}:∀{l:List (Nat×Nat×Nat×Nat)}{a:List TD}{h:List TEnt}{q:List TD×List TEnt},sws n0 l a h=some q→∀{c:Code}{ts:List Dv}{H:List Ent}{ex:Ex},H.length=n0→
 YU P c ts H ex (TD.ers (lk h) a) (erH h)→YU P c ts H ex (TD.ers (lk q.2) q.1) (erH q.2)
 |[],a,h,q,hs,c,ts,H,ex,hn,r=>by
  cases hs
  exact r
 |x::l,a,h,q,hs,c,ts,H,ex,hn,r=>by
  obtain⟨y,h1,h2⟩:=yc.1 hs;exact ZA9 h2 hn (ZH7 h1 hn r)
def ZKh(n0 id:Nat):Nat→List Sh→List TD→List (Nat×Nat×Nat×Nat)
 |i,.rw k::ss,.rw j::ds=>if Nat.ble n0 j=true then(id,i,k,j)::ZKh n0 id (i+1) ss ds else ZKh n0 id (i+1) ss ds
 |i,_::ss,_::ds=>ZKh n0 id (i+1) ss ds
 |_,_,_=>[]
def swL(n0:Nat):Nat→List ESh→List TEnt→List (Nat×Nat×Nat×Nat)
 |id,.var (.agg ss) _::es,.var (.agg ds) _::h=>ZKh n0 id 0 ss ds++swL n0 (id+1) es h
 |id,_::es,_::h=>swL n0 (id+1) es h
 |_,_,_=>[]
def ZNf(n0:Nat)(sl:Slots)(es:List ESh)(sw:List (Nat×Nat×Nat×Nat))(a:List TD)(h:List TEnt):Option (List TV):=
 if once (yq n0++sw.map λx=>x.2.2.2) then(YV h (yq n0++sw.map λx=>x.2.2.2) (yq n0++sw.map λx=>x.2.2.2)).bind λh2=>
  (TD.rns (toIds (yq n0++sw.map λx=>x.2.2.2)) (ZdD (sl.map (·.1)) 0 a)).bind λa2=>(sws n0 sw a2 h2).bind λq=>if Nat.beq q.1.length a.length=true then ZFZ n0 sl es q.1 q.2 else none
 else none
def ZDd(n0:Nat)(sl:Slots)(es:List ESh)(a:List TD)(h:List TEnt):Option (List TV):=
 match swL n0 0 es h with
 |[]=>ZFZ n0 sl es a h
 |x::r=>ZNf n0 sl es (x::r) a h
theorem ZwV{n0:Nat}{sl:Slots}{es:List ESh}{a:List TD}{h:List TEnt}{vs:List TV}(k:ZDd n0 sl es a h=some vs):
 ∃a3 h3,W0 a.length sl es vs=some (a3,h3)∧∀{c:Code}{ts:List Dv}{H:List Ent}{ex:Ex},H.length=n0→YU P c ts H ex (TD.ers (lk h) a) (erH h)→YU P c ts H ex (TD.ers (lk h3) a3) (erH h3):=by
 unfold ZDd at k;split at k
 ·exact ZwS k
 ·rename_i x r hx;unfold ZNf at k;split at k
  ·rename_i ho;obtain⟨h2,h1,k⟩:=yc.1 k;obtain⟨a2,e2,k⟩:=yc.1 k;obtain⟨q,e3,k⟩:=yc.1 k;split at k
   ·rename_i hl;obtain⟨a3,h3,g1,g2⟩:=ZwS (P:=P) k;rw[Nat.eq_of_beq_eq_true hl] at g1;refine⟨a3,h3,g1,λ{c ts H ex}hn rr=>g2 hn (ZA9 e3 hn ?_)⟩;have r1:=ZwR (sl.map (·.1)) rr;rw[←ZiZ] at r1;exact Zwt [] _ r1 (by rw[hn];exact ho) (by rw[hn];exact YI (Wv h1) h1) (by rw[hn];exact rns_er (Wv h1) _ _ e2)
   ·cases k
  ·cases k
end
end Go.Ev
end
section
namespace Go.Ev
def Zd{I X:Type}(step:I→Option (I⊕X)):Nat→I→Option X
 |0,_=>none
 |n+1,i=>(step i).bind λr=>match r with
  |.inl j=>Zd step n j
  |.inr x=>some x
theorem ZH8:∃n:Nat,n=18446744073709551616:=⟨_,rfl⟩
noncomputable def fuel:Nat:=Classical.choose ZH8
theorem Zny:fuel=18446744073709551616:=Classical.choose_spec ZH8
section
variable{P:yg}
def ZKi(n0:Nat)(ex:Ex)(a:List TD)(h:List TEnt):(l:List XSh)→Option (XSh.sum l)
 |[]=>none
 |[e]=>if ex=e.ex then(ZDd n0 e.sl e.es a h).bind λvs=>toD e.ty vs else none
 |e::f::r=>match (if ex=e.ex then(ZDd n0 e.sl e.es a h).bind λvs=>toD e.ty vs else none) with
  |some x=>some (Sum.inl x:Ty.dens e.ty⊕XSh.sum (f::r))
  |none=>(ZKi n0 ex a h (f::r)).map λx=>(Sum.inr x:Ty.dens e.ty⊕XSh.sum (f::r))
theorem ZwW{n0:Nat}{ex:Ex}{a:List TD}{h:List TEnt}:∀{l:List XSh}{o:XSh.sum l},ZKi n0 ex a h l=some o→∀e vs,ZAL l o e vs→ex=e.ex∧ZDd n0 e.sl e.es a h=some vs
 |[],_,k,_,_,_=>by cases k
 |[e],o,k,x,vs,hs=>by
  obtain⟨rfl,rfl⟩:=hs;have k:(if ex=x.ex then(ZDd n0 x.sl x.es a h).bind λvs=>toD x.ty vs else none)=some o:=k
  split at k
  ·rename_i he;obtain⟨ws,h1,h2⟩:=yc.1 k;exact⟨he,by rw[h1,QR _ _ _ h2]⟩
  ·cases k
 |e::f::r,o,k,x,vs,hs=>by
  simp only[ZKi] at k;split at k
  ·rename_i y hy;cases k;obtain⟨rfl,rfl⟩:=hs;split at hy
   ·rename_i he;obtain⟨ws,h1,h2⟩:=yc.1 hy;exact⟨he,by rw[h1,QR _ _ _ h2]⟩
   ·cases hy
  ·obtain⟨y,h1,h2⟩:=Zc k;subst h2;exact ZwW h1 x vs hs
def ZwX(P:yg)(fi:FI)(specs:Sp P)(body:Code)(n N:Nat)(sl:Slots)(es:List ESh)(I:List Ty)(xs:List XSh):Ty.dens I→Option (Ty.dens I⊕XSh.sum xs):=λv=>
 (W0 N sl es (ofD I v)).bind λs=>evT P fi specs body (n+1) 0 s.1 s.2 λex a h=>match ex with
   |.normal=>(ZDd s.2.length sl es a h).bind λvs=>(toD I vs).map .inl
   |ex=>(ZKi s.2.length ex a h xs).map .inr
theorem ZH9{fi:FI}{specs:Sp P}{body:Code}{n N:Nat}{sl:Slots}{es:List ESh}{I:List Ty}{xs:List XSh}(ok:SpOk specs)(hl:Zk1 P fi N body (n+1))(hb0:ZhH P fi N body 0):
 ∀(f:Nat)(v:Ty.dens I)(o:XSh.sum xs),Zd (ZwX P fi specs body n N sl es I xs) f v=some o→∀s,W0 N sl es (ofD I v)=some s→∀e vs s',ZAL xs o e vs→W0 N e.sl e.es vs=some s'→
  Zwo P body (TD.ers (lk s.2) s.1) (erH s.2) e.ex (TD.ers (lk s'.2) s'.1) (erH s'.2)
 |0,_,_,h,_,_,_,_,_,_,_=>by cases h
 |f+1,v,o,h,s,hs,e,vs,s',hx,hs'=>by
  unfold Zd at h;obtain⟨r,h1,h2⟩:=yc.1 h;unfold ZwX at h1;rw[hs,yf] at h1;obtain⟨ex,a,h3,k1,k2,k3⟩:=XB ok body _ _ _ _ _ (Zkm hs) hl hb0 h1;split at k1
  ·obtain⟨ws,g1,k1⟩:=yc.1 k1;obtain⟨w,g2,rfl⟩:=Zc k1;obtain⟨a3,h4,g3,g4⟩:=ZwV (P:=P) g1;rw[k2] at g3;have r1:=g4 (Zx _) k3;have:=ZH9 ok hl hb0 f w o h2 (a3,h4) (by rw[QR _ _ _ g2];exact g3) e vs s' hx hs';exact Zwq [] r1 this
  ·rename_i hne;obtain⟨w,g2,rfl⟩:=Zc k1;cases h2;obtain⟨g5,g6⟩:=ZwW g2 e vs hx;obtain⟨a3,h4,g3,g4⟩:=ZwV (P:=P) g6;rw[k2,hs'] at g3;cases g3;subst g5;exact Zwp hne (g4 (Zx _) k3)
theorem ZNg{fi:FI}{specs:Sp P}{body:Code}{n N:Nat}{sl:Slots}{es:List ESh}{I:List Ty}{xs:List XSh}{step:Ty.dens I→Option (Ty.dens I⊕XSh.sum xs)}(f:Nat)(ok:SpOk specs)(hl:Zk1 P fi N body (n+1))(hb0:ZhH P fi N body 0)
 (h:∀v,ZwX P fi specs body n N sl es I xs v=step v):Lp.Ok P N body ⟨sl,es,I,xs,Zd step f⟩:=by
 intro v o hL s hs e vs s' hx hs';have e1:ZwX P fi specs body n N sl es I xs=step:=funext h;subst e1;exact Zwr (ZH9 ok hl hb0 f v o hL s hs e vs s' hx hs')
theorem ZbH:∀(c:Code)(k:Nat)(b:Code),(ZA c)[k]? =some (.loop b)→∀j x,(ZA b)[j]? =some x→(ZA c)[k+1+j]? =some x
 |.seq x y,k,b,h,j,z,hz=>by
  simp only[ZA] at h ⊢;rcases ybp k (ZA x).length with hl|hl
  ·rw[yah hl] at h;have:=ZbH x k b h j z hz;rw[yah (yo.1 this).1];exact this
  ·rw[yam hl] at h;have:=ZbH y _ b h j z hz;rw[yam (by omega)];rw[show k+1+j - (ZA x).length=k - (ZA x).length+1+j by omega]
   exact this
 |.cond _ x y,k,b,h,j,z,hz=>by
  simp only[ZA] at h ⊢;rcases ybp k (ZA x).length with hl|hl
  ·rw[yah hl] at h;have:=ZbH x k b h j z hz;rw[yah (yo.1 this).1];exact this
  ·rw[yam hl] at h;have:=ZbH y _ b h j z hz;rw[yam (by omega)];rw[show k+1+j - (ZA x).length=k - (ZA x).length+1+j by omega]
   exact this
 |.block _ a,k,b,h,j,z,hz=>ZbH a k b h j z hz
 |.scope a,k,b,h,j,z,hz=>ZbH a k b h j z hz
 |.loop a,k,b,h,j,z,hz=>by
  simp only[ZA] at h ⊢
  cases k with
  |zero=>
   simp only[ybh,yj,Code.loop.injEq] at h;subst h;rw[show 0+1+j=j+1 by omega,yar]
   exact hz
  |succ k=>
   rw[yar] at h;rw[show k+1+1+j=(k+1+j)+1 by omega,yar]
   exact ZbH a k b h j z hz
 |.skip,_,_,h,_,_,_=>by simp[ZA] at h
 |.region _ _ _,_,_,h,_,_,_=>by simp[ZA] at h
 |.rangeFunc _ _ _ _,_,_,h,_,_,_=>by simp[ZA] at h
 |.exit _,_,_,h,_,_,_=>by simp[ZA] at h
 |.ret,_,_,h,_,_,_=>by simp[ZA] at h
 |.label _,_,_,h,_,_,_=>by simp[ZA] at h
 |.goto _,_,_,h,_,_,_=>by simp[ZA] at h
 |.refuse _,_,_,h,_,_,_=>by simp[ZA] at h
def Znz(P:yg)(g:yu)(N:Nat):List (Nat×Lp)→Prop
 |[]=>True
 |q::r=>q.2.Ok P N (ZaL P g q.1)∧Znz P g N r
theorem Zpa{g:yu}{N:Nat}:∀{l:List (Nat×Lp)}{n:Nat}{lp:Lp},Znz P g N l→(n,lp)∈l→lp.Ok P N (ZaL P g n)
 |[],_,_,_,h=>by cases h
 |q::r,n,lp,hk,h=>by
  rcases List.mem_cons.1 h with h|h
  ·subst h;exact hk.1
  ·exact Zpa hk.2 h
def Zb0(P:yg)(g:yu):Code:=
 match P.funcs[g]? with
 |some fn=>fn.body.getD .skip
 |none=>.skip
theorem Zpb{g:yu}{k:Nat}{b:Code}(h:(ZA (Zb0 P g))[k]? =some (.loop b)):ZaL P g k=b:=by
 unfold ZaL ZGR;unfold Zb0 at h;split at h
 ·rename_i fn hf;rw[hf];dsimp only
  cases hb:fn.body with
  |none=>rw[hb] at h;simp[ZA] at h
  |some c=>
   rw[hb] at h;dsimp only[Option.getD] at h ⊢;rw[ycu,h];rfl
 ·simp[ZA] at h
theorem ZEA{g:yu}{fi:FI}{N:Nat}(h:Znz P g N fi.lp):Zk1 P fi N (Zb0 P g) 0:=by
 intro k b hk lp hl;rw[yax] at hl;rw[←Zpb hk];exact Zpa h hl
theorem ZIa{g:yu}{fi:FI}{N k:Nat}(hk:(ZA (Zb0 P g))[k]? =some (.loop (ZaL P g k)))(h:Znz P g N fi.lp):Zk1 P fi N (ZaL P g k) (k+1):=by
 intro j b hj lp hl;have:=ZbH _ _ _ hk j _ hj;rw[←Zpb this];exact Zpa h hl
def ZnA(P:yg)(g k:Nat):Bool:=
 match (ZA (Zb0 P g))[k]? with
 |some (.loop _)=>true
 |_=>false
theorem Zvg{g k:Nat}(h:ZnA P g k=true):(ZA (Zb0 P g))[k]? =some (.loop (ZaL P g k)):=by
 unfold ZnA at h;split at h
 ·rename_i b hb;rw[hb,Zpb hb]
 ·cases h
def ZIb(c:Code)(m:Nat):Code:=((Xn c)[m]?).getD .skip
def ZwY(P:yg)(N:Nat)(c:Code):List (Nat×Lp)→Prop
 |[]=>True
 |q::r=>q.2.Is P N (ZIb c q.1)∧ZwY P N c r
theorem ZwZ{N:Nat}{c:Code}:∀{l:List (Nat×Lp)}{m:Nat}{bk:Lp},ZwY P N c l→(m,bk)∈l→bk.Is P N (ZIb c m)
 |[],_,_,_,h=>by cases h
 |q::r,m,bk,hk,h=>by
  rcases List.mem_cons.1 h with h|h
  ·subst h;exact hk.1
  ·exact ZwZ hk.2 h
theorem Zyx{fi:FI}{N:Nat}{c:Code}(h:ZwY P N c fi.bk):ZhH P fi N c 0:=by
 intro k x hk bk hl;rw[yax] at hl;have:=ZwZ h hl;unfold ZIb at this;rw[hk] at this;exact this
theorem ZEB{fi:FI}{specs:Sp P}{g k N:Nat}{sl:Slots}{es:List ESh}{I:List Ty}{xs:List XSh}{step:Ty.dens I→Option (Ty.dens I⊕XSh.sum xs)}(ok:SpOk specs)(hl:Znz P g N fi.lp:=by exact True.intro)(hk:ZnA P g k=true:=by kernel_rfl)
 (h:∀v,ZwX P fi specs (ZaL P g k) k N sl es I xs v=step v:=by intro v;kernel_rfl) (hb:ZwY P N (ZaL P g k) fi.bk:=by exact True.intro):Lp.Ok P N (ZaL P g k) ⟨sl,es,I,xs,Zd step fuel⟩:=
 ZNg fuel ok (ZIa (Zvg hk) hl) (Zyx hb) h
def Zvh{O:Type}(P:yg)(a:List TD)(h:List TEnt):List ResultVar→(List TD→List Hint→Option O)→Option O
 |[],K=>K [] []
 |.tmp t::r,K=>Zvh P a h r λds hs=>K (a.getD t .junk::ds) hs
 |.cell t ty::r,K=>match a.getD t .junk with
  |.ref id path=>(ZsX h id).bind λd=>gpT (lk h) path d λsub hs _=>if okT P ty (sub.er (lk h))=true then Zvh P a h r λds hs'=>K (sub::ds) (hs++hs') else none
  |_=>none
theorem Zge{O:Type}{a:List TD}{h:List TEnt}{out:O}:∀(l:List ResultVar)(K:List TD→List Hint→Option O),Zvh P a h l K=some out→∃ds hs C,K ds hs=some out∧AllP C∧∀rest,ZuX P (TD.ers (lk h) a) (erH h) l (hs++rest)=some (C,TD.ers (lk h) ds)
 |[],K,k=>⟨[],[],[],k,trivial,λ_=>rfl⟩
 |.tmp t::r,K,k=>by
  obtain⟨ds,hs,C,k1,k2,k3⟩:=Zge r _ k;refine⟨_,_,C,k1,k2,λrest=> ?_⟩
  simp only[ZuX,k3 rest,yz,Zna,TD.ers]
 |.cell t ty::r,K,k=>by
  unfold Zvh at k;split at k
  ·rename_i id path hx;obtain⟨d,h1,k⟩:=yc.1 k;obtain⟨st,h2,h3⟩:=Zdz h1;obtain⟨sub,hs,put,C,g1,g2,g3,_⟩:=YK _ _ _ _ k;obtain⟨g4,g5⟩:=Za g1;obtain⟨ds,hs',C',k1,k2,k3⟩:=Zge r _ g5;refine⟨_,_,C++[V5 path=Xl path]++C',k1,Zj.2 ⟨Zj.2 ⟨g2,(Y2 _).symm,ytt⟩,k2⟩,λrest=> ?_⟩;unfold ZuX;rw[Zna,hx];dsimp only[TD.er];rw[h3];dsimp only;rw[yak,g3 (hs'++rest)];dsimp only;rw[if_pos g4,k3 rest];rfl
  ·cases k
def Zts:List TD→TD
 |[d]=>d
 |ds=>.tup ds
theorem Zkp{L:Lk}(ds:List TD):(Zts ds).er L=Zr8 (TD.ers L ds):=by
 match ds with
 |[]=>rfl
 |[d]=>rfl
 |_::_::_=>rfl
def TD.arg(L:Lk):TD→TD
 |.own id nn t c=>.p (.sl nn t (ZS L id t c))
 |.agg ds=>TD.melt L ds
 |d=>d
theorem ZDe{L:Lk}(d:TD):(d.arg L).er L=(d.er L).arg:=by
 cases d <;> first|rfl|exact ZD8 _
def ZIc(h:List TEnt)(rs:Sh)(es:List ESh)(n0:Nat)(r:TD):Option (List Nat):=
 let l:=ZL0 h es 0 ((yq n0).map (λi=>(i,i))++Sh.ids rs r)
 ((yq es.length).drop n0).mapM λj=>l.lookup j
def ZKj(h:List TEnt)(n0:Nat)(ds:List TD)(e:XSh):Option (Ty.dens e.ty):=
 match e.sl with
 |[(0,rs)]=>(ZIc h rs e.es n0 (Zts ds)).bind λkeep=>
  if once (yq n0++keep) then(match Dv.rn (toIds (yq n0++keep)) ((Zts ds).er (lk h)) with
   |some _=>(Zts ds).rn (toIds (yq n0++keep))
   |none=>(Zts (ds.map (TD.arg (lk h)))).rn (toIds (yq n0++keep))).bind λr=>
   (YV h (yq n0++keep) (yq n0++keep)).bind λh2=>(Sh.mt (lk h2) rs r).bind λq=>(ESh.mts (lk h2) e.es h2).bind λw=>toD e.ty (q.2++w.2)
  else none
 |_=>none
def ZBa(h:List TEnt)(n0:Nat)(ds:List TD):(l:List XSh)→Option (XSh.sum l)
 |[]=>none
 |[e]=>ZKj h n0 ds e
 |e::f::r=>match ZKj h n0 ds e with
  |some x=>some (Sum.inl x:Ty.dens e.ty⊕XSh.sum (f::r))
  |none=>(ZBa h n0 ds (f::r)).map λx=>(Sum.inr x:Ty.dens e.ty⊕XSh.sum (f::r))
theorem Ztt{h:List TEnt}{n0:Nat}{ds:List TD}:∀{l:List XSh}{o:XSh.sum l},ZBa h n0 ds l=some o→∀e vs,ZAL l o e vs→∃x,ZKj h n0 ds e=some x∧vs=ofD e.ty x
 |[],_,k,_,_,_=>by cases k
 |[e],o,k,x,vs,hs=>by
  obtain⟨rfl,rfl⟩:=hs
  exact⟨o,k,rfl⟩
 |e::f::r,o,k,x,vs,hs=>by
  simp only[ZBa] at k;split at k
  ·rename_i y hy;cases k;obtain⟨rfl,rfl⟩:=hs;exact⟨y,hy,rfl⟩
  ·obtain⟨y,h1,h2⟩:=Zc k;subst h2;exact Ztt h1 x vs hs
def fnT(P:yg)(fi:FI)(specs:Sp P)(g:yu)(ps:List Sh)(es:List ESh)(ins:List Ty)(xs:List XSh):Ty.dens ins→Option (XSh.sum xs):=λx=>
 match P.funcs[g]? with
 |some fn=>match fn.body with
  |some c=>(Sh.fills ps (ofD ins x)).bind λq=>(ESh.fills es q.2).bind λw=>if w.2.isEmpty then
    evT P fi specs c 0 0 (q.1++yab (fn.ntmps - q.1.length) .junk) w.1 λex a h=>match ex with
     |.exit _=>none
     |_=>Zvh P a h fn.results.toList λds _=>ZBa h w.1.length ds xs
    else none
  |none=>none
 |none=>none
def ZaT(P:yg)(g:yu):Nat:=
 match P.funcs[g]? with
 |some fn=>fn.ntmps
 |none=>0
theorem ZId{fi:FI}{specs:Sp P}{g:yu}{ps:List Sh}{es:List ESh}{ins:List Ty}{xs:List XSh}{M:Ty.dens ins→Option (XSh.sum xs)}(ok:SpOk specs)(hl:Znz P g (ZaT P g) fi.lp:=by exact True.intro)(hn:ps.length≤ZaT P g:=by decide+kernel)
 (h:∀x,fnT P fi specs g ps es ins xs x=M x:=by intro v;kernel_rfl) (hb:ZwY P (ZaT P g) (Zb0 P g) fi.bk:=by exact True.intro):Fs.Ok (⟨g,ps,es,ins,xs,M⟩:Fs P):=by
 intro x o hM;have hM:M x=some o:=hM;rw[←h x] at hM;have hl':=ZEA hl;unfold fnT at hM;split at hM
 ·rename_i fn hf;split at hM
  ·rename_i c hb1;obtain⟨q,h1,hM⟩:=yc.1 hM;obtain⟨w,h2,hM⟩:=yc.1 hM;obtain⟨h3,hM⟩:=Za hM;have hN:ZaT P g=fn.ntmps:=by unfold ZaT;rw[hf]
   have hc:Zb0 P g=c:=by unfold Zb0;rw[hf];dsimp only;rw[hb1];rfl
   rw[hc,hN] at hl' hb;have hb0:=Zyx hb;rw[hN] at hn
   have hlen:(q.1++yab (fn.ntmps - q.1.length) TD.junk).length=fn.ntmps:=by
    rw[yr,yco,Zkl h1];omega
   obtain⟨ex,a,hh,k1,k2,k3⟩:=XB ok c _ _ _ _ _ hlen hl' hb0 hM
   have hex:(ex=.ret∨ex=.normal)∧(Zvh P a hh fn.results.toList λds _=>ZBa hh w.1.length ds xs)=some o:=by
    cases ex with
    |exit _=>cases k1
    |normal=>exact⟨.inr rfl,k1⟩
    |ret=>exact⟨.inl rfl,k1⟩
   obtain⟨hex,k1⟩:=hex;obtain⟨ds,hs,C,g1,g2,g3⟩:=Zge _ _ k1;refine⟨q.1,q.2,w.1,h1, ?_,λe vs s' hsel hfs=> ?_⟩
   ·rw[h2];have:w.2=[]:=by simpa using h3
    rw[←this]
   obtain⟨o1,g1,hvs⟩:=Ztt g1 e vs hsel;unfold ZKj at g1;split at g1
   case h_2=>cases g1
   rename_i rs hsl;obtain⟨keep,g4,g1⟩:=yc.1 g1;obtain⟨g5,g1⟩:=Za g1;obtain⟨r,g6,g1⟩:=yc.1 g1;obtain⟨e2,g7,g1⟩:=yc.1 g1;obtain⟨z,g8,g1⟩:=yc.1 g1;obtain⟨y,g9,g1⟩:=yc.1 g1;obtain⟨b1,b2⟩:=Zgc g9;have hcc:∀id t,ZS (lk e2) id t none=ZS (lk y.1) id t none:=λid t=>by rw[b2]
   have eo:=QR _ _ _ g1
   have efill:s'=([z.1],y.1):=by
    rw[hvs,eo,hsl] at hfs;unfold W0 at hfs;rw[show shs [(0,rs)] 1=[rs] from rfl] at hfs
    simp only[Sh.fills,ZeT _ _ _ g8,yf,yz] at hfs;have:=V7 g9 [];rw[ybj] at this;rw[this] at hfs;exact(ybe hfs).symm
   subst efill;refine⟨z.1,rfl, ?_⟩
   have hfin:fin P fn (TD.ers (lk hh) a) (erH hh) (erH w.1).length keep hs=some (C,r.er (lk e2),erH e2):=by
    unfold fin;have:=g3 [];rw[ybj] at this;rw[this];dsimp only;rw[Zx,g5, ←Zkp,show subEnts (erH hh) _ _=some (erH e2) from YI (Wv g7) g7]
    split at g6
    ·rename_i r0 hr0;have e4:=ZdC (Wv g7) _ _ g6;rw[e4]
    ·rename_i hr0;have e4:=ZdC (Wv g7) _ _ g6;rw[Zkp,Zv,yaw] at e4
     rw[hr0,show(TD.ers (lk hh) ds).map Dv.arg=ds.map (TD.er (lk hh) ∘ TD.arg (lk hh)) by
      rw[Zv,yaw];exact ycg λd _=>(ZDe d).symm,e4]
   have hrun:YU P c (TD.ers (lk w.1) q.1++yab (fn.ntmps - (TD.ers (lk w.1) q.1).length) .junk) (erH w.1) ex (TD.ers (lk hh) a) (erH hh):=by
    have e5:TD.ers (lk w.1) (q.1++yab (fn.ntmps - q.1.length) TD.junk)=TD.ers (lk w.1) q.1++yab (fn.ntmps - (TD.ers (lk w.1) q.1).length) .junk:=by
     rw[QK,Zv,Zv,yaj,List.map_replicate];rfl
    rw[←e5];exact k3
   exact ZAc (ZiQ hf hb1 hrun hex hfin g2) (Znp hcc _ _ _ g8) (Zkk hcc g9)
  ·cases hM
 ·cases hM
end
theorem Zl5{P:yg}{g:yu}{t:Ty}{xs:List XSh}{MA:Ty.dens [.sl t]→Option (XSh.sum xs)}{MB:Ty.dens []→Option (XSh.sum xs)}(hA:Fs.Ok (⟨g,[.sl true t],[],[.sl t],xs,MA⟩:Fs P))(hB:Fs.Ok (⟨g,[.nil t],[],[],xs,MB⟩:Fs P))
 (h:MB ()=MA ([]:List t.den)):Fs.Ok (⟨g,[.v (.sl t)],[],[.sl t],xs,MA⟩:Fs P):=by
 intro l o hM;have key:∀(l:List t.den),Ty.cast (.sl t) (.sl t) l=some l:=λl=>Ya (.sl t) l;obtain⟨a1,R1,H1,f1,f2,f3⟩:=hA l o hM
 have e1:a1=[.p (.sl (some true) t l)]∧R1=[]:=by
  have:Sh.fills [.sl true t] [(⟨.sl t,l⟩:TV)]=some (a1,R1):=f1;simp only[Sh.fills,Sh.fill] at this;rw[key l] at this;have this:some (([.p (.sl (some true) t l)]:List TD),([]:List TV))=some (a1,R1):=this;cases this;exact⟨rfl,rfl⟩
 obtain⟨rfl,rfl⟩:=e1;cases f2;refine⟨[.p (.v (.sl t) l)],[],[], ?_,rfl,λe vs s' hs hf=> ?_⟩
 ·show Sh.fills [.v (.sl t)] [(⟨.sl t,l⟩:TV)]=_;simp only[Sh.fills,Sh.fill];rw[key l];rfl
 ·obtain⟨r,r1,r2⟩:=f3 e vs s' hs hf;refine⟨r,r1, ?_⟩;refine ZD0 (xs:=l.map t.enc) r2 λhl=> ?_;have hl:l=[]:=List.map_eq_nil_iff.1 hl;subst hl;obtain⟨a2,R2,H2,g1,g2,g3⟩:=hB () o (by rw[←hM];exact h);cases g1;cases g2;obtain⟨r',r1',r2'⟩:=g3 e vs s' hs hf;rw[r1] at r1';cases r1';exact r2'
def Ztu(n:Int):Option (List UInt8):=if(decide (0≤n)&&decide (n.toNat≤Zo))=true then some [] else none
theorem ZKk{P:yg}{g:yu}{e:yb}(h:∀n:Nat,n≤Zo→Con P g [.p (.sl (some false) 1 []),.p (.int .i64 (n:Int))] [] (.own 0 none 1 []) [.log 1 e []]):
 Fs.Ok (⟨g,[.nil .u8,.v (.int .i64)],[],[.int .i64],[⟨.ret,[(0,.own 0 .u8)],[.log .u8 e],[.sl .u8]⟩],Ztu⟩:Fs P):=by
 intro n o hM
 have key:∀(n:Int),Ztu n=some o→(0≤n∧n.toNat≤Zo)∧([]:List UInt8)=o:=λn hM=>by
  unfold Ztu at hM;obtain⟨h1,h2⟩:=Za (α:=List UInt8) hM;rw[yi,decide_eq_true_eq,decide_eq_true_eq] at h1;exact⟨h1,ybe h2⟩
 obtain⟨h1,h2⟩:=key n hM;cases h2;refine⟨[.p (.sl (some false) .u8 []),.p (.v (.int .i64) n)],[],[],rfl,rfl,λx vs s' hs hf=> ?_⟩;obtain⟨rfl,rfl⟩:=hs;cases hf;refine⟨_,rfl, ?_⟩;have:=h (Int.toNat n) h1.2;rw[Int.toNat_of_nonneg h1.1] at this;exact this
mutual
theorem Zpc:∀(s:Sh)(vs w:List TV)(q:TD×List TV),s.fill vs=some q→s.fill (vs++w)=some (q.1,q.2++w)
 |.v t,vs,w,q,h=>by
  cases vs with
  |nil=>cases h
  |cons x r=>
   obtain⟨y,h1,rfl⟩:=Zc (show(Ty.cast x.1 t x.2).map (λy=>((TD.p (.v t y),r):TD×List TV))=some q from h)
   show(Ty.cast x.1 t x.2).map (λy=>((TD.p (.v t y),r++w):TD×List TV))=_
   rw[h1];rfl
 |.elem t,vs,w,q,h=>by
  cases vs with
  |nil=>cases h
  |cons x r=>
   obtain⟨y,h1,rfl⟩:=Zc (show(Ty.cast x.1 t x.2).map (λy=>((TD.elem (.v t y),r):TD×List TV))=some q from h)
   show(Ty.cast x.1 t x.2).map (λy=>((TD.elem (.v t y),r++w):TD×List TV))=_
   rw[h1];rfl
 |.sl nn t,vs,w,q,h=>by
  cases vs with
  |nil=>cases h
  |cons x r=>
   obtain⟨y,h1,rfl⟩:=Zc (α:=(Ty.sl t).den) (show(Ty.cast x.1 (.sl t) x.2).map (λ(y:List t.den)=>((TD.p (.sl (some nn) t y),r):TD×List TV))=some q from h)
   show(Ty.cast x.1 (.sl t) x.2).map (λ(y:List t.den)=>((TD.p (.sl (some nn) t y),r++w):TD×List TV))=_
   rw[h1];rfl
 |.nil _,vs,w,q,h=>by cases h;rfl
 |.own _ _,vs,w,q,h=>by cases h;rfl
 |.ref _ _,vs,w,q,h=>by cases h;rfl
 |.mp _,vs,w,q,h=>by cases h;rfl
 |.rw _,vs,w,q,h=>by cases h;rfl
 |.rp j s p,vs,w,q,h=>by
  cases vs with
  |nil=>cases h
  |cons x r=>
   obtain⟨y,h1,rfl⟩:=Zc (α:=Int) (show(Ty.cast x.1 (.int .i64) x.2).map (λ(i:Int)=>((TD.rp j (.ix i.toNat s::p),r):TD×List TV))=some q from h)
   show(Ty.cast x.1 (.int .i64) x.2).map (λ(i:Int)=>((TD.rp j (.ix i.toNat s::p),r++w):TD×List TV))=_
   rw[h1];rfl
 |.view _ _ _ _ _,vs,w,q,h=>by cases h;rfl
 |.rv _ _ _ _ _,vs,w,q,h=>by cases h;rfl
 |.fn g l,vs,w,q,h=>by
  simp only[Sh.fill] at h ⊢;obtain⟨y,h1,rfl⟩:=Zc h
  rw[fills_more l vs w y h1];rfl
 |.agg l,vs,w,q,h=>by
  simp only[Sh.fill] at h ⊢;obtain⟨y,h1,rfl⟩:=Zc h
  rw[fills_more l vs w y h1];rfl
 |.arr n s l,vs,w,q,h=>by
  simp only[Sh.fill] at h ⊢;obtain⟨y,h1,rfl⟩:=Zc h
  rw[fills_more l vs w y h1];rfl
 |.tup l,vs,w,q,h=>by
  simp only[Sh.fill] at h ⊢;obtain⟨y,h1,rfl⟩:=Zc h
  rw[fills_more l vs w y h1];rfl
 |.iface t x,vs,w,q,h=>by
  simp only[Sh.fill] at h ⊢;obtain⟨y,h1,rfl⟩:=Zc h
  rw[Zpc x vs w y h1];rfl
 |.if2 t u x,vs,w,q,h=>by
  cases vs with
  |nil=>cases h
  |cons z r=>
   simp only[Sh.fill,yaa] at h ⊢
   cases hb:Ty.cast z.1 .bool z.2 with
   |none=>rw[hb] at h;cases h
   |some b=>
    rw[hb] at h;obtain⟨y,h1,rfl⟩:=Zc h;show((Sh.fill x (r++w)).map _)=_
    rw[Zpc x r w y h1];rfl
 |.ptr0,vs,w,q,h=>by cases h;rfl
 |.fn0,vs,w,q,h=>by cases h;rfl
 |.if0,vs,w,q,h=>by cases h;rfl
 |.map0,vs,w,q,h=>by cases h;rfl
 |.junk,vs,w,q,h=>by cases h;rfl
theorem fills_more:∀(l:List Sh)(vs w:List TV)(q:List TD×List TV),Sh.fills l vs=some q→Sh.fills l (vs++w)=some (q.1,q.2++w)
 |[],vs,w,q,h=>by simp only[Sh.fills] at h;cases h;rfl
 |s::r,vs,w,q,h=>by
  simp only[Sh.fills] at h ⊢;obtain⟨a,h1,h⟩:=yc.1 h;obtain⟨b,h2,rfl⟩:=Zc h;rw[Zpc s vs w a h1,yf,fills_more r a.2 w b h2];rfl
end
theorem ZMc{P:yg}{g:yu}{t:Ty}{e:yb}{rest:List Sh}{i1 i2:List Ty}{xs:List XSh}{M:Ty.dens i2→Option (XSh.sum xs)}(pk:Ty.dens i1→Ty.dens i2)(h:Fs.Ok (⟨g,.own 0 t::rest,[.log t e],i2,xs,M⟩:Fs P))
 (hp:∀x,ofD i2 (pk x)=ofD i1 x++[⟨.sl t,([]:List t.den)⟩]) (hf:∀x,∃a,Sh.fills rest (ofD i1 x)=some (a,[])):Fs.Ok (⟨g,.nil t::rest,[],i1,xs,λx=>M (pk x)⟩:Fs P):=by
 intro x o hM;obtain⟨args,R,H,f1,f2,f3⟩:=h (pk x) o hM;obtain⟨a,ha⟩:=hf x;have f1:Sh.fills (.own 0 t::rest) (ofD i2 (pk x))=some (args,R):=f1;rw[hp x] at f1;simp only[Sh.fills,Sh.fill,yf,fills_more rest _ _ _ ha,yz,yj,yl,yv] at f1;obtain⟨rfl,rfl⟩:=f1;have f2:((Ty.cast (.sl t) (.sl t) ([]:List t.den)).map λ(y:List t.den)=>((TEnt.log t e y,[]):TEnt×List TV)).bind (λa=>(ESh.fills [] a.2).map λb=>(a.1::b.1,b.2))=some (H,[]):=f2;have key:Ty.cast (.sl t) (.sl t) ([]:List t.den)=some ([]:List t.den):=Ya (.sl t) ([]:List t.den);rw[key] at f2;cases f2;refine⟨.p (.sl (some false) t [])::a,[],[], ?_,rfl,λx' vs s' hs hf'=> ?_⟩
 ·show Sh.fills (.nil t::rest) (ofD i1 x)=_;simp only[Sh.fills,Sh.fill,yf,ha,yz]
 ·obtain⟨r,r1,r2⟩:=f3 x' vs s' hs hf';refine⟨r,r1, ?_⟩
  have e1:TD.ers (lk [.log t e []]) (.own 0 none t none::a)=.own 0 none t.size []::TD.ers (lk []) a:=by
   have e0:TD.ers (lk [.log t e []]) a=TD.ers (lk []) a:=(ers_cont (λid t'=>Znk (H:=[]) (T:=t) (e:=e) id t') a).symm;rw[TD.ers,e0];congr 1;rw[TD.er,show ZS (lk [.log t e []]) 0 t none=[] from ZaP (H:=[])]
   rfl
  have r2:Con P g (TD.ers (lk [.log t e []]) (.own 0 none t none::a)) (erH [.log t e []]) (r.er (lk s'.2)) (erH s'.2):=r2;rw[e1] at r2;exact ZAe (H:=[]) (e:=e) r2
section
variable{P:yg}
theorem fnO(h:HI)(lp:List (Nat×Lp))(l:List (Fs P))(a:AllOk l){g:yu}{ps:List Sh}{es:List ESh}{ins:List Ty}{xs:List XSh}{M:Ty.dens ins→Option (XSh.sum xs)}(hl:Znz P g (ZaT P g) lp:=by exact True.intro)(hn:ps.length≤ZaT P g:=by decide+kernel)
 (k:∀x,fnT P { hi:=h,lp:=lp} { l:=l} g ps es ins xs x=M x:=by intro v;kernel_rfl):Fs.Ok (⟨g,ps,es,ins,xs,M⟩:Fs P):=ZId (okS a) hl hn k
abbrev Lp.okA(L:Lp)(P:yg)(g k:Nat):Prop:=L.Ok P (ZaT P g) (ZaL P g k)
theorem Zq(h:HI)(lp:List (Nat×Lp))(l:List (Fs P))(a:AllOk l){g k N:Nat}{sl:Slots}{es:List ESh}{I:List Ty}{xs:List XSh}{step:Ty.dens I→Option (Ty.dens I⊕XSh.sum xs)}(hl:Znz P g N lp:=by exact True.intro)(hk:ZnA P g k=true:=by kernel_rfl)
 (h':∀v,ZwX P { hi:=h,lp:=lp} { l:=l} (ZaL P g k) k N sl es I xs v=step v:=by intro v;kernel_rfl):Lp.Ok P N (ZaL P g k) ⟨sl,es,I,xs,Zd step fuel⟩:=ZEB (okS a) hl hk h'
end
end Go.Ev
end
section
namespace Go.Ev
universe u
variable{O:Type u}
def ZbI(n:Nat)(k:Nat→O):O:=Nat.rec (motive:=λ_=>O) (k 0) (λm _=>k (Nat.succ m)) n
theorem YA(n:Nat)(k:Nat→O):ZbI n k=k n:=by cases n <;> rfl
def ZdE{α:Type}(f:α→(α→O)→O):List α→(List α→O)→O
 |[],k=>k []
 |a::r,k=>f a λa=>ZdE f r λr=>k (a::r)
theorem XU{α:Type}{f:α→(α→O)→O}(hf:∀a k,f a k=k a):∀(l:List α)(k:List α→O),ZdE f l k=k l
 |[],k=>rfl
 |a::r,k=>by rw[ZdE,hf,XU hf r]
def ZMd(n:Int)(k:Int→O):O:=match n with
 |.ofNat n=>ZbI n λn=>k (.ofNat n)
 |.negSucc n=>ZbI n λn=>k (.negSucc n)
theorem ZKl(n:Int)(k:Int→O):ZMd n k=k n:=by cases n <;> (rw[ZMd,YA])
def Ztv(b:Bool)(k:Bool→O):O:=match b with
 |true=>k true
 |false=>k false
theorem Zgf(b:Bool)(k:Bool→O):Ztv b k=k b:=by cases b <;> rfl
mutual
def Ty.fo:(t:Ty)→t.den→(t.den→O)→O
 |.int _,x,k=>ZMd x k
 |.u8,x,k=>ZbI (UInt8.toNat x) λn=>k (UInt8.ofNat n)
 |.u32,x,k=>ZbI (UInt32.toNat x) λn=>k (UInt32.ofNat n)
 |.u64,x,k=>ZbI (UInt64.toNat x) λn=>k (yal n)
 |.bool,x,k=>Ztv x k
 |.str,x,k=>k x
 |.sl t,x,k=>ZdE (Ty.fo t) x k
 |.arr _ t,x,k=>ZdE (Ty.fo t) x k
 |.st fs,x,k=>Ty.fos fs x k
def Ty.fos:(fs:List Ty)→Ty.dens fs→(Ty.dens fs→O)→O
 |[],_,k=>k ()
 |[t],x,k=>Ty.fo t x k
 |t::u::r,x,k=>Ty.fo t x.1 λa=>Ty.fos (u::r) x.2 λb=>k (a,b)
end
mutual
theorem Ty.fo_eq:∀(t:Ty)(x:t.den)(k:t.den→O),t.fo x k=k x
 |.int _,x,k=>ZKl x k
 |.u8,x,k=>by rw[Ty.fo,YA];exact congrArg k UInt8.ofNat_toNat
 |.u32,x,k=>by rw[Ty.fo,YA];exact congrArg k UInt32.ofNat_toNat
 |.u64,x,k=>by rw[Ty.fo,YA];exact congrArg k UInt64.ofNat_toNat
 |.bool,x,k=>Zgf x k
 |.str,x,k=>rfl
 |.sl t,x,k=>by rw[Ty.fo];exact XU (Ty.fo_eq t) x k
 |.arr _ t,x,k=>by rw[Ty.fo];exact XU (Ty.fo_eq t) x k
 |.st fs,x,k=>Ty.fos_eq fs x k
theorem Ty.fos_eq:∀(fs:List Ty)(x:Ty.dens fs)(k:Ty.dens fs→O),Ty.fos fs x k=k x
 |[],_,k=>rfl
 |[t],x,k=>Ty.fo_eq t x k
 |t::u::r,x,k=>by rw[Ty.fos,Ty.fo_eq t];exact Ty.fos_eq (u::r) x.2 _
end
mutual
def TP.fo:TP→(TP→O)→O
 |.v t x,k=>t.fo x λx=>k (.v t x)
 |.sl nn t xs,k=>ZdE t.fo xs λxs=>k (.sl nn t xs)
 |.agg xs,k=>TP.fos xs λxs=>k (.agg xs)
 |.arr n s xs,k=>TP.fos xs λxs=>k (.arr n s xs)
 |.sll nn s xs,k=>TP.fos xs λxs=>k (.sll nn s xs)
 |.iface t x,k=>TP.fo x λx=>k (.iface t x)
 |x,k=>k x
def TP.fos:List TP→(List TP→O)→O
 |[],k=>k []
 |x::r,k=>TP.fo x λx=>TP.fos r λr=>k (x::r)
end
mutual
theorem TP.fo_eq:∀(x:TP)(k:TP→O),x.fo k=k x
 |.v t x,k=>by rw[TP.fo,Ty.fo_eq]
 |.sl nn t xs,k=>by rw[TP.fo,XU (Ty.fo_eq t)]
 |.agg xs,k=>by rw[TP.fo,TP.fos_eq xs]
 |.arr n s xs,k=>by rw[TP.fo,TP.fos_eq xs]
 |.sll nn s xs,k=>by rw[TP.fo,TP.fos_eq xs]
 |.iface t x,k=>by rw[TP.fo,TP.fo_eq x]
 |.ptr0,k=>rfl
 |.fn0,k=>rfl
 |.if0,k=>rfl
 |.map0,k=>rfl
 |.fnv _,k=>rfl
theorem TP.fos_eq:∀(x:List TP)(k:List TP→O),TP.fos x k=k x
 |[],k=>rfl
 |x::r,k=>by rw[TP.fos,TP.fo_eq x,TP.fos_eq r]
end
def ZNh{α:Type}(f:α→(α→O)→O):Option α→(Option α→O)→O
 |none,k=>k none
 |some a,k=>f a λa=>k (some a)
theorem ZKm{α:Type}{f:α→(α→O)→O}(hf:∀a k,f a k=k a):∀(l:Option α)(k:Option α→O),ZNh f l k=k l
 |none,k=>rfl
 |some a,k=>hf a _
mutual
def TD.fo:TD→(TD→O)→O
 |.p x,k=>x.fo λx=>k (.p x)
 |.elem x,k=>x.fo λx=>k (.elem x)
 |.own id nn t c,k=>ZbI id λid=>ZNh (ZdE t.fo) c λc=>k (.own id nn t c)
 |.ref id q,k=>ZbI id λid=>k (.ref id q)
 |.view id q s lo n,k=>ZbI id λid=>ZbI s λs=>ZbI lo λlo=>ZbI n λn=>k (.view id q s lo n)
 |.agg xs,k=>TD.fos xs λxs=>k (.agg xs)
 |.arr n s xs,k=>ZbI n λn=>ZbI s λs=>TD.fos xs λxs=>k (.arr n s xs)
 |.fn f xs,k=>TD.fos xs λxs=>k (.fn f xs)
 |.iface t x,k=>TD.fo x λx=>k (.iface t x)
 |.tup xs,k=>TD.fos xs λxs=>k (.tup xs)
 |.mp id,k=>ZbI id λid=>k (.mp id)
 |.rv id v s lo n,k=>ZbI id λid=>ZbI v λv=>ZbI s λs=>ZbI lo λlo=>ZbI n λn=>k (.rv id v s lo n)
 |.rref id v q,k=>ZbI id λid=>ZbI v λv=>k (.rref id v q)
 |.rw id,k=>ZbI id λid=>k (.rw id)
 |.rp id q,k=>ZbI id λid=>k (.rp id q)
 |.junk,k=>k .junk
def TD.fos:List TD→(List TD→O)→O
 |[],k=>k []
 |x::r,k=>TD.fo x λx=>TD.fos r λr=>k (x::r)
end
mutual
theorem TD.fo_eq:∀(x:TD)(k:TD→O),x.fo k=k x
 |.p x,k=>by rw[TD.fo,TP.fo_eq]
 |.elem x,k=>by rw[TD.fo,TP.fo_eq]
 |.own id nn t c,k=>by rw[TD.fo,YA,ZKm (XU (Ty.fo_eq t))]
 |.ref id q,k=>by rw[TD.fo,YA]
 |.view id q s lo n,k=>by rw[TD.fo,YA,YA,YA,YA]
 |.agg xs,k=>by rw[TD.fo,TD.fos_eq xs]
 |.arr n s xs,k=>by rw[TD.fo,YA,YA,TD.fos_eq xs]
 |.fn f xs,k=>by rw[TD.fo,TD.fos_eq xs]
 |.iface t x,k=>by rw[TD.fo,TD.fo_eq x]
 |.tup xs,k=>by rw[TD.fo,TD.fos_eq xs]
 |.mp id,k=>by rw[TD.fo,YA]
 |.rv id v s lo n,k=>by rw[TD.fo,YA,YA,YA,YA,YA]
 |.rref id v q,k=>by rw[TD.fo,YA,YA]
 |.rw id,k=>by rw[TD.fo,YA]
 |.rp id q,k=>by rw[TD.fo,YA]
 |.junk,k=>rfl
theorem TD.fos_eq:∀(x:List TD)(k:List TD→O),TD.fos x k=k x
 |[],k=>rfl
 |x::r,k=>by rw[TD.fos,TD.fo_eq x,TD.fos_eq r]
end
def TEnt.fo(e:TEnt)(k:TEnt→O):O:=match e with
 |.var d st=>d.fo λd=>Ztv st λst=>k (.var d st)
 |.log t e xs=>ZdE t.fo xs λxs=>k (.log t e xs)
 |.map tid a b l=>ZdE (λq k=>a.fo q.1 λx=>b.fo q.2 λy=>k (x,y)) l λl=>k (.map tid a b l)
 |.row v s st e d=>ZbI v λv=>ZbI s λs=>Ztv st λst=>d.fo λd=>k (.row v s st e d)
 |.rowT t v st e xs=>Ztv st λst=>ZdE t.fo xs λxs=>k (.rowT t v st e xs)
 |.rowN t np v st e a b=>Ztv st λst=>ZdE t.fo a λa=>ZdE t.fo b λb=>k (.rowN t np v st e a b)
 |.rowM t np v st e a d b=>Ztv st λst=>ZdE t.fo a λa=>d.fo λd=>ZdE t.fo b λb=>k (.rowM t np v st e a d b)
 |.gone=>k .gone
theorem TEnt.fo_eq(e:TEnt)(k:TEnt→O):e.fo k=k e:=by
 cases e with
 |var d st=>rw[TEnt.fo,TD.fo_eq,Zgf]
 |log t e xs=>rw[TEnt.fo,XU (Ty.fo_eq t)]
 |map tid a b l=>rw[TEnt.fo,XU λq k=>by rw[Ty.fo_eq a,Ty.fo_eq b]]
 |row v s st e d=>rw[TEnt.fo,YA,YA,Zgf,TD.fo_eq]
 |rowT t v st e xs=>rw[TEnt.fo,Zgf,XU (Ty.fo_eq t)]
 |rowN t np v st e a b=>rw[TEnt.fo,Zgf,XU (Ty.fo_eq t),XU (Ty.fo_eq t)]
 |rowM t np v st e a d b=>rw[TEnt.fo,Zgf,XU (Ty.fo_eq t),TD.fo_eq,XU (Ty.fo_eq t)]
 |gone=>rfl
def foS(a:List TD)(h:List TEnt)(k:List TD→List TEnt→O):O:=TD.fos a λa=>ZdE TEnt.fo h λh=>k a h
theorem ZMe(a:List TD)(h:List TEnt)(k:List TD→List TEnt→O):foS a h k=k a h:=by rw[foS,TD.fos_eq,XU TEnt.fo_eq]
def foX:(l:List XSh)→XSh.sum l→(XSh.sum l→O)→O
 |[],x,k=>k x
 |[e],x,k=>Ty.fos e.ty x k
 |e::f::r,x,k=>match (x:Ty.dens e.ty⊕XSh.sum (f::r)) with
  |.inl x=>Ty.fos e.ty x λx=>k (.inl x:Ty.dens e.ty⊕XSh.sum (f::r))
  |.inr x=>foX (f::r) x λx=>k (.inr x:Ty.dens e.ty⊕XSh.sum (f::r))
theorem ZIe:∀(l:List XSh)(x:XSh.sum l)(k:XSh.sum l→O),foX l x k=k x
 |[],x,k=>rfl
 |[e],x,k=>Ty.fos_eq _ _ _
 |e::f::r,x,k=>by
  unfold foX
  cases (x:Ty.dens e.ty⊕XSh.sum (f::r)) with
  |inl x=>exact Ty.fos_eq _ _ _
  |inr x=>exact ZIe (f::r) x _
def Fs.fo{P:yg}(s:Fs P):Fs P:={ s with M:=λx=>Ty.fos s.ins x λx=>(s.M x).bind λo=>foX s.xs o some}
theorem Fs.fo_ok{P:yg}{s:Fs P}(h:s.Ok):s.fo.Ok:=by
 have e:s.fo=s:=by
  unfold Fs.fo
  have:(λx=>Ty.fos s.ins x λx=>(s.M x).bind λo=>foX s.xs o some)=s.M:=by
   funext x;rw[Ty.fos_eq]
   cases s.M x with
   |none=>rfl
   |some o=>exact ZIe _ _ _
  rw[this]
 rw[e];exact h
theorem ZBb{P:yg}:∀{l:List (Fs P)},AllOk l→AllOk (l.map Fs.fo)
 |[],_=>trivial
 |s::r,h=>⟨Fs.fo_ok h.1,ZBb h.2⟩
end Go.Ev
end
section
namespace Go.Ev
def Zyy(h:List TEnt)(n0:Nat)(r:TD):List Nat:=
 let got:=Zqh h 100000 (r.look++yq n0) []
 ((yq h.length).drop n0).filter got.contains
def ZEC(P:yg)(H:List TEnt)(t:yb)(d:TD):Option TD:=
 match d with
 |.p x=>some (.p x)
 |d=>(ZgU P tyD t).bind λT=>(ZwA H 100 T d).map λy=>.p (.v T y)
theorem ZBc{P:yg}{H:List TEnt}{t:yb}{d e:TD}(h:ZEC P H t d=some e):DeepP (erH H) (d.er (lk H)) (e.er (lk H)):=by
 unfold ZEC at h;split at h
 ·cases h;exact .refl _
 ·obtain⟨T,h1,h⟩:=yc.1 h;obtain⟨y,h2,rfl⟩:=Zc h;exact .deep (Znr _ _ _ _ h2)
def Zyz(P:yg)(H:List TEnt):List yb→List TD→Option (List TD)
 |[],[]=>some []
 |t::r,d::ds=>match ZEC P H t d,Zyz P H r ds with
  |some a,some b=>some (a::b)
  |_,_=>none
 |_,_=>none
theorem Zw0{P:yg}{H:List TEnt}:∀{ts:List yb}{ds es:List TD},Zyz P H ts ds=some es→DeepL (erH H) (TD.ers (lk H) ds) (TD.ers (lk H) es)
 |[],[],es,h=>by cases h;exact .nil
 |[],_::_,es,h=>by cases h
 |_::_,[],es,h=>by cases h
 |t::r,d::ds,es,h=>by
  simp only[Zyz] at h;split at h
  ·rename_i a b h1 h2;cases h;exact .cons (ZBc h1) (Zw0 h2)
  ·cases h
def ZIf(P:yg)(H:List TEnt)(ts:List yb)(r:TD):Option TD:=
 match ts with
 |[t]=>ZEC P H t r
 |ts=>match r with
  |.tup ds=>(Zyz P H ts ds).map .tup
  |_=>none
theorem ZIg{P:yg}{H:List TEnt}{ts:List yb}{r r':TD}(h:ZIf P H ts r=some r'):DeepT (erH H) (r.er (lk H)) (r'.er (lk H)):=by
 unfold ZIf at h;split at h
 ·exact .one (ZBc h)
 ·split at h
  ·obtain⟨es,h1,rfl⟩:=Zc h;exact .tup (Zw0 h1)
  ·cases h
def ZF1{O:Type}(P:yg)(ts:List yb)(r:TD)(H:List TEnt)(K:TD→List TEnt→Option O):Option O:=
 match ts with
 |[]=>K r H
 |ts=>(ZIf P (ZgX ((Zqh H 100000 r.look []).filter (ZCT H)) H) ts r).bind λr'=>K r' (ZgX ((Zqh H 100000 r.look []).filter (ZCT H)) H)
theorem Zw1{O:Type}{P:yg}{ts:List yb}{r:TD}{H:List TEnt}{K:TD→List TEnt→Option O}{out:O}{g:yu}{args:List Dv}{H0:List Ent}(h:ZF1 P ts r H K=some out)(hc:Con P g args H0 (r.er (lk H)) (erH H)):
 ∃r' H',K r' H'=some out∧Con P g args H0 (r'.er (lk H')) (erH H'):=by
 unfold ZF1 at h;split at h
 ·exact⟨_,_,h,hc⟩
 ·obtain⟨r',h1,h2⟩:=yc.1 h;generalize (Zqh H 100000 r.look []).filter (ZCT H)=ids at h1 h2;refine⟨_,_,h2,ZGU hc (ZCS ids H) ?_⟩;have:=ZIg h1;rw[Zs6] at this ⊢;exact this
def ZF2{O:Type}(h:List TEnt)(n0:Nat)(ds:List TD)(K:TD→List TEnt→Option O):Option O:=
 let keep:=Zyy h n0 (Zts ds)
 if once (yq n0++keep) then(match Dv.rn (toIds (yq n0++keep)) ((Zts ds).er (lk h)) with
  |some _=>(Zts ds).rn (toIds (yq n0++keep))
  |none=>(Zts (ds.map (TD.arg (lk h)))).rn (toIds (yq n0++keep))).bind λr=>
  (YV h (yq n0++keep) (yq n0++keep)).bind λh2=>K r h2
 else none
section
variable{P:yg}
def ZIh(P:yg)(his:yu→HI)(l:List (Fs P))(mt:List (yb×String×yu))(ghs:yu→List (Nat×GOp)):Nat→(O:Type)→yu→List TD→List TEnt→(TD→List TEnt→Option O)→Option O
 |0,_,_,_,_,_=>none
 |n+1,O,g,args,H,K=>foS args H λargs H=>match P.funcs[g]? with
  |some fn=>match fn.body with
   |some c=>if decide (args.length≤fn.ntmps)=true then
     evT P { hi:=his g,un:=1000000,gh:=ghs g} ⟨l,ZIh P his l mt ghs n,mt,[]⟩ c 0 0 (args++yab (fn.ntmps - args.length) .junk) H λex a h=>match ex with
      |.exit _=>none
      |_=>Zvh P a h fn.results.toList λds _=>ZF2 h H.length ds λr h=>ZF1 P (his g).deep r h λr h=>foS [r] h λrs h=>match rs with
       |[r]=>K r h
       |_=>none
     else none
   |none=>none
  |none=>none
theorem ZED{his:yu→HI}{l:List (Fs P)}{mt:List (yb×String×yu)}{ghs:yu→List (Nat×GOp)}(hl:AllOk l)(hm:MtOk P mt):∀(n:Nat),HdOk P (ZIh P his l mt ghs n)
 |0=>λ_ _ _ _ _ _ h=>by cases h
 |n+1=>λO g args H K out hM=>by
  unfold ZIh at hM;simp only[ZMe] at hM;split at hM
  ·rename_i fn hf;split at hM
   ·rename_i c hb1;obtain⟨hn,hM⟩:=Za hM;have hn:=of_decide_eq_true hn
    have hlen:(args++yab (fn.ntmps - args.length) TD.junk).length=fn.ntmps:=by
     rw[yr,yco];omega
    obtain⟨ex,a,hh,k1,k2,k3⟩:=XB (N:=fn.ntmps) (specs:=⟨l,ZIh P his l mt ghs n,mt,[]⟩) ⟨hl,ZED hl hm n,hm,ytt⟩ c _ _ _ _ _ hlen (λk b hk lp h=>by cases h) (λk b hk lp h=>by cases h) hM
    have hex:(ex=.ret∨ex=.normal)∧(Zvh P a hh fn.results.toList λds _=>ZF2 hh H.length ds λr h=>ZF1 P (his g).deep r h K)=some out:=by
     cases ex with
     |exit _=>cases k1
     |normal=>exact⟨.inr rfl,k1⟩
     |ret=>exact⟨.inl rfl,k1⟩
    obtain⟨hex,k1⟩:=hex;obtain⟨ds,hs,C,g1,g2,g3⟩:=Zge _ _ k1;unfold ZF2 at g1;dsimp only at g1;generalize Zyy hh H.length (Zts ds)=keep at g1;obtain⟨g5,g1⟩:=Za g1;obtain⟨r,g6,g1⟩:=yc.1 g1;obtain⟨e2,g7,g1⟩:=yc.1 g1;refine Zw1 g1 ?_
    have hfin:fin P fn (TD.ers (lk hh) a) (erH hh) (erH H).length keep hs=some (C,r.er (lk e2),erH e2):=by
     unfold fin;have:=g3 [];rw[ybj] at this;rw[this];dsimp only;rw[Zx,g5, ←Zkp,show subEnts (erH hh) _ _=some (erH e2) from YI (Wv g7) g7]
     split at g6
     ·rename_i r0 hr0;have e4:=ZdC (Wv g7) _ _ g6;rw[e4]
     ·rename_i hr0;have e4:=ZdC (Wv g7) _ _ g6;rw[Zkp,Zv,yaw] at e4
      rw[hr0,show(TD.ers (lk hh) ds).map Dv.arg=ds.map (TD.er (lk hh) ∘ TD.arg (lk hh)) by
       rw[Zv,yaw];exact ycg λd _=>(ZDe d).symm,e4]
    have hrun:YU P c (TD.ers (lk H) args++yab (fn.ntmps - (TD.ers (lk H) args).length) .junk) (erH H) ex (TD.ers (lk hh) a) (erH hh):=by
     have e5:TD.ers (lk H) (args++yab (fn.ntmps - args.length) TD.junk)=TD.ers (lk H) args++yab (fn.ntmps - (TD.ers (lk H) args).length) .junk:=by
      rw[QK,Zv,Zv,yaj,List.map_replicate];rfl
     rw[←e5];exact k3
    exact ZiQ hf hb1 hrun hex hfin g2
   ·cases hM
  ·cases hM
def ZMf(P:yg)(his:yu→HI)(l:List (Fs P))(mt:List (yb×String×yu))(n:Nat)(g:yu)(ghs:yu→List (Nat×GOp):=λ_=>[]):Option Bool:=
 ZIh P his l mt ghs n Bool g [] [] λr h=>match h with
  |[]=>r.boolT
  |_=>none
theorem ZKn{his:yu→HI}{l:List (Fs P)}{mt:List (yb×String×yu)}{ghs:yu→List (Nat×GOp)}{n:Nat}{g:yu}{b:Bool}(hl:AllOk l)(hm:MtOk P mt)(h:ZMf P his l mt n g ghs=some b):Con P g [] [] (.p (.bool b)) []:=by
 obtain⟨r,H',h1,h2⟩:=ZED hl hm n _ _ _ _ _ _ h;split at h1
 ·rw[Zf9 h1] at h2;exact h2
 ·cases h1
theorem ZMg{his:yu→HI}{l:List (Fs P)}{mt:List (yb×String×yu)}{ghs:yu→List (Nat×GOp)}{n:Nat}{g:yu}{b:Bool}(hl:AllOk l)(hm:MtOk P mt)(h:ZMf P his l mt n g ghs=some b):
 Fs.Ok (⟨g,[],[],[],[⟨.ret,[(0,.v .bool)],[],[.bool]⟩],λ_=>some b⟩:Fs P):=by
 intro x o hM;cases hM;refine⟨[],[],[],rfl,rfl,λe vs s' hs hf=> ?_⟩;obtain⟨rfl,rfl⟩:=hs;cases hf;exact⟨_,rfl,ZKn hl hm h⟩
end
theorem okN{P:yg}(s:Nat→Fs P)(h:(s fuel).Ok):(s 18446744073709551616).Ok:=by
 rw[Zny] at h;exact h
theorem ZIi{P:yg}{g:yu}{args:List Dv}{H H1 H2:List Ent}{r r2:Dv}{keep:List Nat}(h:Con P g args H r H1)(ho:once (yq H.length++keep)=true)
 (hin:subEnts H1 (yq H.length++keep) (yq H.length++keep)=some H2) (hr:r.rn (toIds (yq H.length++keep))=some r2):Con P g args H r2 H2:=by
 intro σ vs ok e hv;refine Calls.mono (h σ vs ok e hv) ?_;rintro e' w' ⟨v,σ',h1,h2,h3,h4,h5,h6⟩;subst h3;subst e;exact⟨v,ZhE σ' (yq σ.H.length++keep) H2,h1,h2,rfl,ZrR ok h4 ho hin,Zm6 h5 ho hin,Zdo (ZcF hin) hr h6⟩
def ZEE(h:List TEnt)(n0:Nat)(r:TD)(e:XSh):Option (Ty.dens e.ty):=
 match e.sl with
 |[(0,rs)]=>(ZIc h rs e.es n0 r).bind λkeep=>
  if once (yq n0++keep) then(r.rn (toIds (yq n0++keep))).bind λr=>
   (YV h (yq n0++keep) (yq n0++keep)).bind λh2=>(Sh.mt (lk h2) rs r).bind λq=>(ESh.mts (lk h2) e.es h2).bind λw=>toD e.ty (q.2++w.2)
  else none
 |_=>none
def Ztw(h:List TEnt)(n0:Nat)(r:TD):(l:List XSh)→Option (XSh.sum l)
 |[]=>none
 |[e]=>ZEE h n0 r e
 |e::f::q=>match ZEE h n0 r e with
  |some x=>some (Sum.inl x:Ty.dens e.ty⊕XSh.sum (f::q))
  |none=>(Ztw h n0 r (f::q)).map λx=>(Sum.inr x:Ty.dens e.ty⊕XSh.sum (f::q))
theorem Zqn{h:List TEnt}{n0:Nat}{r:TD}:∀{l:List XSh}{o:XSh.sum l},Ztw h n0 r l=some o→∀e vs,ZAL l o e vs→∃x,ZEE h n0 r e=some x∧vs=ofD e.ty x
 |[],_,k,_,_,_=>by cases k
 |[e],o,k,x,vs,hs=>by
  obtain⟨rfl,rfl⟩:=hs
  exact⟨o,k,rfl⟩
 |e::f::q,o,k,x,vs,hs=>by
  simp only[Ztw] at k;split at k
  ·rename_i y hy;cases k;obtain⟨rfl,rfl⟩:=hs;exact⟨y,hy,rfl⟩
  ·obtain⟨y,h1,h2⟩:=Zc k;subst h2;exact Zqn h1 x vs hs
section
variable{P:yg}
def fnD(P:yg)(fi:FI)(specs:Sp P)(g:yu)(ps:List Sh)(es:List ESh)(ins:List Ty)(xs:List XSh):Ty.dens ins→Option (XSh.sum xs):=λx=>
 match P.funcs[g]? with
 |some fn=>match fn.body with
  |some c=>(Sh.fills ps (ofD ins x)).bind λq=>(ESh.fills es q.2).bind λw=>if w.2.isEmpty then
    evT P fi specs c 0 0 (q.1++yab (fn.ntmps - q.1.length) .junk) w.1 λex a h=>match ex with
     |.exit _=>none
     |_=>Zvh P a h fn.results.toList λds _=>ZF2 h w.1.length ds λr h=>ZF1 P fi.hi.deep r h λr h=>Ztw h w.1.length r xs
    else none
  |none=>none
 |none=>none
theorem ZyA{fi:FI}{specs:Sp P}{g:yu}{ps:List Sh}{es:List ESh}{ins:List Ty}{xs:List XSh}{M:Ty.dens ins→Option (XSh.sum xs)}(ok:SpOk specs)(hl:Znz P g (ZaT P g) fi.lp:=by exact True.intro)(hn:ps.length≤ZaT P g:=by decide+kernel)
 (h:∀x,fnD P fi specs g ps es ins xs x=M x:=by intro v;kernel_rfl) (hb:ZwY P (ZaT P g) (Zb0 P g) fi.bk:=by exact True.intro):Fs.Ok (⟨g,ps,es,ins,xs,M⟩:Fs P):=by
 intro x o hM;have hM:M x=some o:=hM;rw[←h x] at hM;have hl':=ZEA hl;unfold fnD at hM;split at hM
 ·rename_i fn hf;split at hM
  ·rename_i c hb1;obtain⟨q,h1,hM⟩:=yc.1 hM;obtain⟨w,h2,hM⟩:=yc.1 hM;obtain⟨h3,hM⟩:=Za hM;have hN:ZaT P g=fn.ntmps:=by unfold ZaT;rw[hf]
   have hc:Zb0 P g=c:=by unfold Zb0;rw[hf];dsimp only;rw[hb1];rfl
   rw[hc,hN] at hl' hb;have hb0:=Zyx hb;rw[hN] at hn
   have hlen:(q.1++yab (fn.ntmps - q.1.length) TD.junk).length=fn.ntmps:=by
    rw[yr,yco,Zkl h1];omega
   obtain⟨ex,a,hh,k1,k2,k3⟩:=XB ok c _ _ _ _ _ hlen hl' hb0 hM
   have hex:(ex=.ret∨ex=.normal)∧(Zvh P a hh fn.results.toList λds _=>ZF2 hh w.1.length ds λr h=>ZF1 P fi.hi.deep r h λr h=>Ztw h w.1.length r xs)=some o:=by
    cases ex with
    |exit _=>cases k1
    |normal=>exact⟨.inr rfl,k1⟩
    |ret=>exact⟨.inl rfl,k1⟩
   obtain⟨hex,k1⟩:=hex;obtain⟨ds,hs,C,g1,g2,g3⟩:=Zge _ _ k1;refine⟨q.1,q.2,w.1,h1, ?_,λe vs s' hsel hfs=> ?_⟩
   ·rw[h2];have:w.2=[]:=by simpa using h3
    rw[←this]
   unfold ZF2 at g1;dsimp only at g1;generalize Zyy hh w.1.length (Zts ds)=keep at g1;obtain⟨g5,g1⟩:=Za g1;obtain⟨r,g6,g1⟩:=yc.1 g1;obtain⟨e2,g7,g1⟩:=yc.1 g1
   have hrun:YU P c (TD.ers (lk w.1) q.1++yab (fn.ntmps - (TD.ers (lk w.1) q.1).length) .junk) (erH w.1) ex (TD.ers (lk hh) a) (erH hh):=by
    have e5:TD.ers (lk w.1) (q.1++yab (fn.ntmps - q.1.length) TD.junk)=TD.ers (lk w.1) q.1++yab (fn.ntmps - (TD.ers (lk w.1) q.1).length) .junk:=by
     rw[QK,Zv,Zv,yaj,List.map_replicate];rfl
    rw[←e5];exact k3
   have hfin:fin P fn (TD.ers (lk hh) a) (erH hh) (erH w.1).length keep hs=some (C,r.er (lk e2),erH e2):=by
    unfold fin;have:=g3 [];rw[ybj] at this;rw[this];dsimp only;rw[Zx,g5, ←Zkp,show subEnts (erH hh) _ _=some (erH e2) from YI (Wv g7) g7]
    split at g6
    ·rename_i r0 hr0;have e4:=ZdC (Wv g7) _ _ g6;rw[e4]
    ·rename_i hr0;have e4:=ZdC (Wv g7) _ _ g6;rw[Zkp,Zv,yaw] at e4
     rw[hr0,show(TD.ers (lk hh) ds).map Dv.arg=ds.map (TD.er (lk hh) ∘ TD.arg (lk hh)) by
      rw[Zv,yaw];exact ycg λd _=>(ZDe d).symm,e4]
   obtain⟨r',H',m1,m2⟩:=Zw1 g1 (ZiQ hf hb1 hrun hex hfin g2);obtain⟨o1,m3,hvs⟩:=Zqn m1 e vs hsel;unfold ZEE at m3;split at m3
   case h_2=>cases m3
   rename_i rs hsl;obtain⟨keep2,n1,m3⟩:=yc.1 m3;obtain⟨n2,m3⟩:=Za m3;obtain⟨r3,n3,m3⟩:=yc.1 m3;obtain⟨e3,n4,m3⟩:=yc.1 m3;obtain⟨z,g8,m3⟩:=yc.1 m3;obtain⟨y,g9,m3⟩:=yc.1 m3;obtain⟨b1,b2⟩:=Zgc g9;have hcc:∀id t,ZS (lk e3) id t none=ZS (lk y.1) id t none:=λid t=>by rw[b2]
   have eo:=QR _ _ _ m3
   have efill:s'=([z.1],y.1):=by
    rw[hvs,eo,hsl] at hfs;unfold W0 at hfs;rw[show shs [(0,rs)] 1=[rs] from rfl] at hfs
    simp only[Sh.fills,ZeT _ _ _ g8,yf,yz] at hfs;have:=V7 g9 [];rw[ybj] at this;rw[this] at hfs;exact(ybe hfs).symm
   subst efill;refine⟨z.1,rfl, ?_⟩
   have hk:Con P g (TD.ers (lk w.1) q.1) (erH w.1) (r3.er (lk e3)) (erH e3):=by
    refine ZIi (keep:=keep2) m2 (by rw[Zx];exact n2) ?_ ?_
    ·rw[Zx];exact YI (Wv n4) n4
    ·rw[Zx];exact ZdC (Wv n4) _ _ n3
   exact ZAc hk (Znp hcc _ _ _ g8) (Zkk hcc g9)
  ·cases hM
 ·cases hM
end
end Go.Ev
end
section
namespace Go.Ev
open Go.RowKit Go.WideShapes Go.ChangeShapes
def Yd(P:yg):Nat→yb→Bool
 |0,_=>false
 |n+1,t=>match P.underlying t with
  |some .bool=>true
  |some (.int _)=>true
  |some .string=>true
  |some (.slice e)=>Yd P n e&&decide (0 < P.cellsOf e)
  |some (.array m e)=>Yd P n e&&P.cellsOf t==m*P.cellsOf e
  |some (.struct fs)=>(fs.toList.all λf=>Yd P n f.type)&&P.cellsOf t==(fs.toList.map λf=>P.cellsOf f.type).sum&&
    ((yq fs.toList.length).all λj=>match fs.toList[j]? with|some f=>f.offset==((fs.toList.take j).map λf=>P.cellsOf f.type).sum|none=>true)
  |_=>false
theorem ZyB(P:yg):Kids P (λt=>∃n,Yd P n t=true) where
 pointer:=by
  rintro t e ⟨n,h⟩ hu
  cases n with
  |zero=>simp[Yd] at h
  |succ n=>simp[Yd,hu] at h
 slice:=by
  rintro t e ⟨n,h⟩ hu
  cases n with
  |zero=>simp[Yd] at h
  |succ n=>simp[Yd,hu] at h;exact⟨n,h.1⟩
 array:=by
  rintro t e m ⟨n,h⟩ hu
  cases n with
  |zero=>simp[Yd] at h
  |succ n=>simp[Yd,hu] at h;exact⟨⟨n,h.1⟩,h.2⟩
 struct:=by
  rintro t fs ⟨n,h⟩ hu
  cases n with
  |zero=>simp[Yd] at h
  |succ n=>
   simp only[Yd,hu,yi,beq_iff_eq,yba] at h;obtain⟨⟨h1,h2⟩,h3⟩:=h;refine⟨λf hf=>⟨n,h1 f hf⟩,h2,λj f hf=> ?_⟩;have hj:j < fs.toList.length:=(yo.1 hf).1;have:=h3 j (by simpa using hj);rw[hf] at this;simpa using this
 map:=by
  rintro t k e ⟨n,h⟩ hu
  cases n with
  |zero=>simp[Yd] at h
  |succ n=>simp[Yd,hu] at h
def ZKo(R:yb→Pl→Prop):List Field→List Pl→Prop
 |[],[]=>True
 |f::fs,y::ys=>R f.type y∧ZKo R fs ys
 |_,_=>False
def wtP(P:yg):Nat→yb→Pl→Prop
 |0,_,_=>False
 |n+1,t,x=>match P.underlying t,x with
  |some .bool,.bool _=>True
  |some (.int k),.int k' m=>k'=k∧(Lit.int k m).wf=true
  |some .string,.str s=>s.size≤maxLen
  |some (.slice e),.sl nn s xs=>s=P.cellsOf e∧nn=none∧xs.length≤maxLen∧∀y,y∈xs→wtP P n e y
  |some (.array m e),.arr m' s xs=>m'=m∧s=P.cellsOf e∧xs.length=m∧∀y,y∈xs→wtP P n e y
  |some (.struct fs),.agg xs=>ZKo (wtP P n) fs.toList xs
  |_,_=>False
def ZyC:Nat→Nat→Prop:=λ_ _=>True
section
variable{H:Type}{enc:yb×yh→H}{P:yg}{w:yy}{base:Nat}{sp:Nat→Bool}{held:Bool}
theorem ZF3:∀{s:Nat}{a:Addr}{cs:List yh},w.cells? base a s=some cs→cs.length=s∧∀j u,cs[j]? =some u→w.cell? (a.add j)=some u:=by
 intro s a cs h;unfold World.cells? at h;split at h
 ·have hl:cs.length=s:=by simpa using mapM_some_length h
  refine⟨hl,λj u hu=> ?_⟩;have hj:j < s:=by rw[←hl];exact(yo.1 hu).1
  have:=mapM_some_get h j j (by simp[hj]);rw[hu] at this;exact this
 ·cases h
theorem ZEF{e:yb}{n m:Nat}{a:Addr}{s:Nat}(hs:0 < s){elems:List (DataW H×List MemPlace)}{len:Nat}(hlen:elems.length=len)
 (ih:∀(cs:List yh)(x:DataW H×List MemPlace),DataW.trod enc P w base sp held m e cs=some x→cs.length=s→∃pl,wtP P n e pl∧repC w ZyC pl cs)
 (h:∀i,i < len→(w.cells? base (a.add (i*s)) s).bind (DataW.trod enc P w base sp held m e)=elems[i]?):
 ∀k,k≤len→∃(xs:List Pl)(us:List yh),xs.length=k∧(∀y,y∈xs→wtP P n e y)∧allSz s xs∧us.length=k*s∧repCs w ZyC xs us∧(∀j u,us[j]? =some u→w.cell? (a.add j)=some u)
 |0,_=>⟨[],[],rfl,(λy hy=>by cases hy),(λy hy=>by cases hy),by simp,by simp[repCs],by simp⟩
 |k+1,hk=>by
  obtain⟨xs,us,h1,h2,h3,h4,h5,h6⟩:=ZEF hs hlen ih h k (by omega);have hk':=h k (by omega);rw[yac (by omega)] at hk';obtain⟨cs,hc,ht⟩:=yc.1 hk';obtain⟨c1,c2⟩:=ZF3 hc;obtain⟨pl,p1,p2⟩:=ih cs _ ht c1;have psz:pl.size=s:=by rw[←Xe _ _ p2,c1]
  refine⟨xs++[pl],us++cs,by simp[h1],λy hy=> ?_,λy hy=> ?_,by simp[h4,c1,Nat.add_mul],Z4 h5 (by simpa[repCs] using p2),λj u hu=> ?_⟩
  ·rcases List.mem_append.1 hy with hy|hy
   ·exact h2 y hy
   ·rw[yao.1 hy];exact p1
  ·rcases List.mem_append.1 hy with hy|hy
   ·exact h3 y hy
   ·rw[yao.1 hy];exact psz
  ·by_cases hj:j < us.length
   ·rw[yah hj] at hu;exact h6 j u hu
   ·rw[yam (by omega)] at hu;have:=c2 _ _ hu;rw[Addr.add_add] at this;rw[←this];congr 2;omega
theorem ZBd{e:yb}{n m:Nat}{s:Nat}{cs:List yh}{elems:List (DataW H×List MemPlace)}{len:Nat}(hlen:elems.length=len)(hcs:cs.length=len*s)
 (ih:∀(cs:List yh)(x:DataW H×List MemPlace),DataW.trod enc P w base sp held m e cs=some x→cs.length=s→∃pl,wtP P n e pl∧repC w ZyC pl cs)
 (h:∀i,i < len→DataW.trod enc P w base sp held m e ((cs.drop (i*s)).take s)=elems[i]?):
 ∀k,k≤len→∃(xs:List Pl),xs.length=k∧(∀y,y∈xs→wtP P n e y)∧allSz s xs∧repCs w ZyC xs (cs.take (k*s))
 |0,_=>⟨[],rfl,(λy hy=>by cases hy),(λy hy=>by cases hy),by simp[repCs]⟩
 |k+1,hk=>by
  obtain⟨xs,h1,h2,h3,h5⟩:=ZBd hlen hcs ih h k (by omega);have hk':=h k (by omega);rw[yac (by omega)] at hk';have hle:k*s+s≤len*s:=by rw[←Nat.succ_mul];exact Nat.mul_le_mul_right _ hk
  have c1:((cs.drop (k*s)).take s).length=s:=by simp;omega
  obtain⟨pl,p1,p2⟩:=ih _ _ hk' c1;have psz:pl.size=s:=by rw[←Xe _ _ p2,c1]
  refine⟨xs++[pl],by simp[h1],λy hy=> ?_,λy hy=> ?_, ?_⟩
  ·rcases List.mem_append.1 hy with hy|hy
   ·exact h2 y hy
   ·rw[yao.1 hy];exact p1
  ·rcases List.mem_append.1 hy with hy|hy
   ·exact h3 y hy
   ·rw[yao.1 hy];exact psz
  ·rw[Nat.add_mul,Nat.one_mul,List.take_add];exact Z4 h5 (by simpa[repCs] using p2)
theorem Zw2{n m:Nat}{cs:List yh}
 (ih:∀(t:yb),Yd P n t=true→∀(cs:List yh)(x:DataW H×List MemPlace),DataW.trod enc P w base sp held m t cs=some x→∃pl,wtP P n t pl∧repC w ZyC pl cs):
 ∀(fs:List Field)(o:Nat),(∀f,f∈fs→Yd P n f.type=true)→(∀(j:Nat)f,fs[j]? =some f→f.offset=o+((fs.take j).map λf=>P.cellsOf f.type).sum)→
  cs.length=o+(fs.map λf=>P.cellsOf f.type).sum→(∀(j:Nat)f,fs[j]? =some f→∃x,DataW.trod enc P w base sp held m f.type ((cs.drop f.offset).take (P.cellsOf f.type))=some x)→
  ∃(xs:List Pl),ZKo (wtP P n) fs xs∧repCs w ZyC xs (cs.drop o)
 |[],o,_,_,hl,_=>⟨[],trivial,by simp only[repCs];apply List.drop_eq_nil_of_le;simp at hl;omega⟩
 |f::fs,o,hp,ho,hl,h=>by
  obtain⟨x,hx⟩:=h 0 f rfl;have ho0:=ho 0 f rfl;simp at ho0;rw[ho0] at hx;obtain⟨pl,p1,p2⟩:=ih f.type (hp f (yap ..)) _ _ hx;simp only[yad,List.sum_cons] at hl
  obtain⟨xs,q1,q2⟩:=Zw2 ih fs (o+P.cellsOf f.type) (λg hg=>hp g (yau _ hg)) (λj g hg=>by
   have:=ho (j+1) g hg;simp only[List.take_succ_cons,yad,List.sum_cons] at this;omega) (by omega) (λj g hg=>h (j+1) g hg)
  refine⟨pl::xs,⟨p1,q1⟩, ?_⟩;simp only[repCs];refine⟨(cs.drop o).take (P.cellsOf f.type),(cs.drop o).drop (P.cellsOf f.type),(List.take_append_drop ..).symm,p2, ?_⟩;rw[List.drop_drop];exact q2
theorem ZKp:∀(n m:Nat)(t:yb),Yd P n t=true→∀(cs:List yh)(x:DataW H×List MemPlace),DataW.trod enc P w base sp held m t cs=some x→∃pl,wtP P n t pl∧repC w ZyC pl cs:=by
 intro n
 induction n with
 |zero=>intro m t h;simp[Yd] at h
 |succ n ih=>
  intro m t ht cs x h;unfold Yd at ht;split at ht
  ·rename_i hu;obtain⟨b,rfl,_⟩:=DataW.trod_bool hu h;exact⟨.bool b,by simp[wtP,hu],by simp[repC]⟩
  ·rename_i k hu;obtain⟨z,rfl,rfl,hw⟩:=DataW.trod_int hu h;exact⟨.int k z,by simp[wtP,hu,hw],by simp[repC]⟩
  ·rename_i hu;obtain⟨s,rfl,h2⟩:=DataW.trod_string hu h;exact⟨.str s,by simp[wtP,hu];exact h2.2,by simp[repC]⟩
  ·rename_i e hu;simp only[yi,decide_eq_true_eq] at ht;rcases DataW.trod_slice hu h with⟨rfl,rfl⟩|⟨a,len,cap,elems,rest,m',rfl,rfl,rfl,_,hle,hcap,hlen,hel,_⟩
   ·exact⟨.sl none (P.cellsOf e) [],by simp[wtP,hu],by simp only[repC];exact⟨(λy hy=>by cases hy),none,0,rfl,ym _,Nat.zero_le _,ZY _,λ_=>rfl,λh=>absurd rfl h⟩⟩
   ·obtain⟨xs,us,h1,h2,h3,h4,h5,h6⟩:=ZEF (n:=n) ht.2 hlen (λcs x hx _=>ih m' e ht.1 cs x hx) hel len (ym _);refine⟨.sl none (P.cellsOf e) xs,by simp only[wtP,hu];exact⟨trivial,trivial,by omega,h2⟩, ?_⟩;simp only[repC];refine⟨h3,some a,cap,by rw[h1],by omega,hcap,ZY _,by simp,λhne=> ?_⟩
    have hpos:0 < us.length:=by
     rw[h4];have:0 < len:=by rw[←h1];exact List.length_pos_iff.2 hne
     exact Nat.mul_pos this ht.2
    have hc0:=h6 0 us[0] (yac hpos);obtain⟨b,o,spot⟩:=a
    have hspot:spot=none:=by
     cases spot with
     |none=>rfl
     |some z=>
      exfalso;unfold World.cell? at hc0;split at hc0
      ·simp[Addr.add] at hc0
      ·cases hc0
    subst hspot;exact⟨b,o,us,rfl,h5,λj u hu=>⟨by have:=h6 j u hu;rwa [Addr.add_lit] at this,ytt⟩⟩
  ·rename_i k e hu;simp only[yi,beq_iff_eq] at ht;obtain⟨elems,m',rfl,rfl,hl,hlen,hel⟩:=DataW.trod_array hu h;obtain⟨xs,h1,h2,h3,h4⟩:=ZBd (n:=n) (s:=P.cellsOf e) hlen (by rw[hl,ht.2]) (λcs x hx _=>ih m' e ht.1 cs x hx) hel k (ym _);rw[List.take_of_length_le (by rw[hl,ht.2];exact ym _)] at h4;exact⟨.arr k (P.cellsOf e) xs,by simp only[wtP,hu];exact⟨trivial,trivial,h1,h2⟩,by simp only[repC];exact⟨h1,h3,h4⟩⟩
  ·rename_i fs hu;simp only[yi,beq_iff_eq,yba] at ht;obtain⟨⟨t1,t2⟩,t3⟩:=ht;obtain⟨elems,m',rfl,rfl,hl,hlen,hel⟩:=DataW.trod_struct hu h
   obtain⟨xs,q1,q2⟩:=Zw2 (n:=n) (m:=m') (cs:=cs) (λt ht cs x hx=>ih m' t ht cs x hx) fs.toList 0 t1 (λj f hf=>by
    have hj:j < fs.toList.length:=(yo.1 hf).1;have:=t3 j (by simpa using hj);rw[hf] at this;simpa using this) (by rw[hl,t2];omega) (λj f hf=>by
    have hj:j < fs.toList.length:=(yo.1 hf).1;have:=hel j f (by simpa using hf);rw[yac (by rw[hlen];simpa using hj)] at this;exact⟨_,this⟩)
   exact⟨.agg xs,by simp only[wtP,hu];exact q1,by simp only[repC];simpa using q2⟩
  ·cases ht
end
end Go.Ev
namespace Go.Ev
open Go.RowKit Go.WideShapes Go.ChangeShapes
def ZKq(P:yg)(n:Nat):List yb→List Pl→Prop
 |[],[]=>True
 |t::ts,x::xs=>wtP P n t x∧ZKq P n ts xs
 |_,_=>False
section
variable{H:Type}{enc:yb×yh→H}{P:yg}
def sg0(W:yy):Sg:={ F:=ZyC,B:=λb=>W.heap.size≤b,m:=[],H:=[],w:=W}
theorem ZMh(W:yy):Ok (sg0 W) where
 len:=rfl
 inj i j b h:=by simp[sg0] at h
 lt i b h:=by simp[sg0] at h
 ent i e a h:=by simp[sg0] at h
 new b h:=h
 own i b h:=by simp[sg0] at h
theorem ZIj(W:yy)(b o:Nat):(sg0 W).stab b o:=⟨.inl trivial,λid e h=>by simp[sg0] at h⟩
theorem Ztx{W:yy}{x:Pl}{v:yh}{cs:List yh}(hx:repC W ZyC x cs)(hc:v.cells.toList=cs)(hv:x.isAgg=true→∃a,v=.agg a)(hn:x.isAgg=false→cs=[v]):repDV (sg0 W) (.p x) v:=by
 have hm:repC W (sg0 W).stab x cs:=WB (λb o u h _=>⟨h,ZIj W b o⟩) x cs hx;refine⟨λha=> ?_,λha=> ?_⟩
 ·obtain⟨a,rfl⟩:=hv ha;refine⟨a,rfl, ?_⟩;simp only[repD];have:a.toList=cs:=by rw[←hc];rfl
  rw[this];exact hm
 ·simp only[repD];have e:=hn ha;rw[←e];exact hm
theorem ZMi:∀{n:Nat}{t:yb}{x:Pl},wtP P n t x→x.isAgg=Y5 P t
 |0,_,_,h=>by simp[wtP] at h
 |n+1,t,x,h=>by
  unfold wtP at h;split at h <;> rename_i hu <;> first|(simp[Pl.isAgg,Y5,hu];done)|exact h.elim
theorem ZEG{W:yy}{n:Nat}(hval:∀(t:yb)(v:yh),Y5 P t=true→Value.okWide P W .any 0 t v→∃a,v=.agg a):
 ∀(ts:List yb)(vs:List yh)(ds:List (DataW H))(ps:List MemPlace),(∀t,t∈ts→Yd P n t=true)→(∀(j:Nat)t v,ts[j]? =some t→vs[j]? =some v→(Y5 P t=true→∃a,v=.agg a)∧(Y5 P t=false→v.cells.toList=[v]))→
  DataW.TrodAll enc P W 0 (λ_=>true) true ts vs ds ps→∃xs,ZKq P n ts xs∧repVs (sg0 W) (xs.map .p) vs
 |[],[],[],_,_,_,_=>⟨[],trivial,by simp[repVs]⟩
 |[],_::_,_,_,_,_,h=>by simp[DataW.TrodAll] at h
 |[],[],_::_,_,_,_,h=>by simp[DataW.TrodAll] at h
 |_::_,[],_,_,_,_,h=>by simp[DataW.TrodAll] at h
 |_::_,_::_,[],_,_,_,h=>by simp[DataW.TrodAll] at h
 |t::ts,v::vs,d::ds,ps,hp,hv,h=>by
  obtain⟨p,q,⟨fuel,h1⟩,h2,rfl⟩:=h;obtain⟨x,x1,x2⟩:=ZKp n fuel t (hp t (yap ..)) _ _ h1;obtain⟨xs,xs1,xs2⟩:=ZEG hval ts vs ds q (λu hu=>hp u (yau _ hu)) (λj u w' hj hw=>hv (j+1) u w' hj hw) h2;obtain⟨v1,v2⟩:=hv 0 t v rfl rfl;refine⟨x::xs,⟨x1,xs1⟩, ?_⟩;simp only[yad,repVs];have ha:=ZMi x1;exact⟨v,vs,rfl,Ztx x2 rfl (λe=>v1 (by rw[←ha];exact e)) (λe=>v2 (by rw[←ha];exact e)),xs2⟩
theorem Zk2{W W':yy}{sp':Nat→Bool}{n:Nat}:∀(ts:List yb)(vs:List yh)(ds:List (DataW H))(ps:List MemPlace),(∀t,t∈ts→Yd P n t=true)→
 DataW.TrodAll enc P W 0 (λ_=>true) true ts vs ds ps→(∀p∈ps,W.sameAt W' p)→(∀p∈ps,sp' p.block=true)→DataW.TrodAll enc P W' 0 sp' true ts vs ds ps
 |[],[],[],_,_,h,_,_=>h
 |[],_::_,_,_,_,h,_,_=>by simp[DataW.TrodAll] at h
 |[],[],_::_,_,_,h,_,_=>by simp[DataW.TrodAll] at h
 |_::_,[],_,_,_,h,_,_=>by simp[DataW.TrodAll] at h
 |_::_,_::_,[],_,_,h,_,_=>by simp[DataW.TrodAll] at h
 |t::ts,v::vs,d::ds,ps,hp,h,hs,hb=>by
  obtain⟨p,q,⟨fuel,h1⟩,h2,rfl⟩:=h;refine⟨p,q,⟨fuel, ?_⟩,Zk2 ts vs ds q (λu hu=>hp u (yau _ hu)) h2 (λz hz=>hs z (List.mem_append_right _ hz)) (λz hz=>hb z (List.mem_append_right _ hz)),rfl⟩
  exact DataW.trod_stays (ZyB P) (λ{t e}⟨n,hn⟩hu=>by
   cases n with
   |zero=>simp[Yd] at hn
   |succ n=>simp[Yd,hu] at hn;exact hn.2) (by simp) ⟨n,hp t (yap ..)⟩ h1 (λz hz=>hs z (List.mem_append_left _ hz)) (λz hz=>hb z (List.mem_append_left _ hz))
theorem ZBe{W:yy}{σ':Sg}(h:To (sg0 W) σ'):Below W.heap.size W σ'.w:=
 ⟨h.os,h.tape,h.output,h.size,λb hb=>h.block b hb (λid=>by simp[sg0])⟩
theorem Zty{f:Func}{s:ChangeSpec}{apart fresh handsOn again:Bool}{W W':yy}{args:Array yh}{v:yh}{ds gs:List (DataW H)}{before pa pv:List MemPlace}
 (hW:DataW.Whole enc P f.params.toList s.vars apart W args.toList ds gs before)
 (hres:∀(b:Nat)(sp:Nat→Bool)(hd:Bool),DataW.TrodAll enc P W' b sp hd f.resultTypes.toList (v.resultList f.resultTypes.size) (s.fn H (ds++gs)).results [])
 (hargs:∀sp:Nat→Bool,(∀p∈before,sp p.block=true)→DataW.TrodAll enc P W' 0 sp true f.params.toList args.toList (s.fn H (ds++gs)).args pa)
 (hvars:∀sp:Nat→Bool,(∀p∈before,sp p.block=true)→DataW.TrodVars enc P W' sp s.vars (s.fn H (ds++gs)).vars pv)
 (hps:before=pa++pv) (hb:Below W.heap.size W W')
 (hok:∀(j:Nat)(t:yb)(r:yh),f.resultTypes[j]? =some t→(v.resultList f.resultTypes.size)[j]? =some r→Value.okWide P W' .any 0 t r):
 s.post enc P f apart fresh handsOn again W args v W':=by
 have hlt:∀p∈before,p.block < W.heap.size:=λp hp=>hW.lt p hp;have hold:∀p∈before,(λb=>decide (b < W.heap.size)) p.block=true:=λp hp=>by simpa using hlt p hp
 refine⟨ds,gs,before,[],pa,pv,hW,hres _ _ _,hargs _ hold,hvars _ hold,World.keptBut_mono (λp hp=>⟨hp, ?_⟩) (hb.frame (· ∈before)),λ_=> ?_⟩
 ·rw[hps,List.mem_append] at hp;exact Or.inr hp
 ·obtain⟨_,_,_,_,_,hz,hn⟩:=hW;refine⟨hok,_,_,([]++pa)++pv,⟨[]++pa,pv,trodAll_append (hargs _ (λ_ _=>rfl)) (hres _ _ _),hvars _ (λ_ _=>rfl),rfl, ?_, ?_⟩, ?_⟩
  ·intro b off hp;have hin:MemPlace.cell b off∈before:=by rw[hps];simpa using hp
   rw[hb.frozen (hlt _ hin)];exact hz b off hin
  ·intro ha;have:=hn ha;rw[hps] at this;simpa using this
  ·intro p hp _;rw[hps];simpa using hp
theorem ZyD{f:yu}{fn:Func}{s:ChangeSpec}{n:Nat}{tb:yb}(hr:fn.resultTypes= #[tb])(ht:P.underlying tb=some .bool)(hv:s.vars=[])
 (hs:∀ds:List (DataW H),ds.length=fn.params.toList.length→s.fn H ds={ results:=[.lit (.bool true)],args:=ds}) (hp:∀t,t∈fn.params.toList→Yd P n t=true)
 (W:yy) (base:Nat) (args:Array yh) (ds gs:List (DataW H)) (before:List MemPlace)
 (hval:∀(j:Nat)t v,fn.params[j]? =some t→args[j]? =some v→Value.okWide P W .any base t v) (hW:DataW.Whole enc P fn.params.toList s.vars false W args.toList ds gs before)
 (hc:∀xs:List Pl,ZKq P n fn.params.toList xs→repVs (sg0 W) (xs.map .p) args.toList→Con P f (xs.map .p) [] (.p (.bool true)) []):
 Calls P f args W λe W'=>∃v,e=.returned v∧s.post enc P fn false true false false W args v W':=by
 have hW':=hW;obtain⟨p,q,hA,hV,rfl,hfz,hnd⟩:=hW;rw[hv] at hV
 obtain⟨rfl,rfl⟩:gs=[]∧q=[]:=by
  cases gs with
  |nil=>exact⟨rfl,hV⟩
  |cons g r=>simp[DataW.TrodVars] at hV
 have hlen:=trodAll_length hA
 obtain⟨xs,x1,x2⟩:=ZEG (enc:=enc) (P:=P) (W:=W) (n:=n) (λt v ha hok=>by
  unfold Value.okWide at hok;unfold Y5 at ha;split at hok
  ·obtain⟨cs,rfl,_⟩:=hok;exact⟨cs,rfl⟩
  ·obtain⟨cs,rfl,_⟩:=hok;exact⟨cs,rfl⟩
  ·rename_i h1 h2;split at ha
   ·rename_i fs hu;exact absurd hu (h1 fs)
   ·rename_i k e hu;exact absurd hu (h2 k e)
   ·cases ha) fn.params.toList args.toList ds p hp (λj t v hj hvv=>by
  have hok:=hval j t v (by simpa using hj) (by simpa using hvv);refine⟨λha=> ?_,λha=> ?_⟩
  ·unfold Value.okWide at hok;unfold Y5 at ha;split at hok
   ·obtain⟨cs,rfl,_⟩:=hok;exact⟨cs,rfl⟩
   ·obtain⟨cs,rfl,_⟩:=hok;exact⟨cs,rfl⟩
   ·rename_i h1 h2;split at ha
    ·rename_i fs hu;exact absurd hu (h1 fs)
    ·rename_i k e hu;exact absurd hu (h2 k e)
    ·cases ha
  ·obtain⟨m,hm⟩:∃m,Yd P (m+1) t=true:=by
    have:=hp t (ybm hj)
    cases n with
    |zero=>simp[Yd] at this
    |succ n=>exact⟨n,this⟩
   unfold Value.okWide at hok;unfold Yd at hm;unfold Y5 at ha;split at hm <;> rename_i hu <;> simp only[hu] at hok ha
   all_goals first
    |(cases ha;done)
    |(cases hm;done)
    |(unfold Cell.okWide Cell.ok at hok;simp only[hu] at hok;cases v <;> first|rfl|(simp at hok;done))) hA
 have hcall:=hc xs x1 x2 (sg0 W) args.toList (ZMh W) rfl x2;rw[Array.toArray_toList] at hcall;refine Calls.mono hcall ?_;rintro e W' ⟨v,σ',rfl,rfl,hH,hto,hok,hrep⟩;have hbv:v=.bool true:=by simpa[repDV,Dv.isAgg,Pl.isAgg,repD,repC] using hrep
 subst hbv;have hb:=ZBe hto;simp only[ybj] at hW';have hlt:=hW'.lt
 have hsame:∀z∈p,W.sameAt σ'.w z:=by
  intro z hz;have hz':=hlt z hz
  cases z with
  |cell b o=>exact hb.cell (p:=⟨b,o,none⟩) hz'
  |map b=>exact hb.block b hz'
 have hfn:=hs ds hlen.2;refine⟨_,rfl,Zty (pa:=p) (pv:=[]) hW' (λb sp hd=> ?_) (λsp h=> ?_) (λsp h=> ?_) (by simp) hb ?_⟩
 ·rw[ybj,hfn,hr];exact trodAll_cons_mk (shut_bool ht _) trodAll_mk0
 ·rw[ybj,hfn];exact Zk2 fn.params.toList args.toList ds p hp hA hsame h
 ·rw[ybj,hfn,hv];rfl
 ·intro j t r hj hjr;rw[hr] at hj hjr
  cases j with
  |zero=>
   simp at hj;subst hj;have:r=.bool true:=by simpa[Value.resultList] using hjr.symm
   subst this
   exact okWide_bool_mk ht _
  |succ j=>simp at hj
end
end Go.Ev
namespace Go.Ev
end Go.Ev
end
section
namespace Go.Ev
mutual
def Ty.Wf:(t:Ty)→t.den→Prop
 |.int k,n=>(Lit.int k n).wf=true
 |.u8,_=>True
 |.u32,_=>True
 |.u64,_=>True
 |.bool,_=>True
 |.str,s=>s.size≤maxLen
 |.sl t,l=>List.length l≤maxLen∧∀x,List.Mem x l→Ty.Wf t x
 |.arr n t,l=>List.length l=n∧∀x,List.Mem x l→Ty.Wf t x
 |.st fs,x=>Ty.Wfs fs x
def Ty.Wfs:(fs:List Ty)→Ty.dens fs→Prop
 |[],_=>True
 |[t],x=>Ty.Wf t x
 |t::u::r,x=>Ty.Wf t x.1∧Ty.Wfs (u::r) x.2
end
mutual
def ZDf(P:yg):Nat→yb→Ty→Bool
 |0,_,_=>false
 |n+1,t,T=>match P.underlying t,T with
  |some (.int .u8),.u8=>true
  |some (.int .u32),.u32=>true
  |some (.int .u64),.u64=>true
  |some (.int k),.int k'=>decide (k=k')
  |some .bool,.bool=>true
  |some .string,.str=>true
  |some (.slice e),.sl T'=>P.cellsOf e==T'.size&&ZDf P n e T'
  |some (.array m e),.arr m' T'=>m==m'&&(P.cellsOf e==T'.size&&ZDf P n e T')
  |some (.struct fs),.st Ts=>tyOks P n fs.toList Ts
  |_,_=>false
def tyOks(P:yg):Nat→List Field→List Ty→Bool
 |0,_,_=>false
 |_+1,[],[]=>true
 |n+1,f::fs,T::Ts=>ZDf P n f.type T&&tyOks P n fs Ts
 |_+1,_,_=>false
end
theorem ZNi{m:Int}(h:(Lit.int .u8 m).wf=true):∃b:UInt8,m=(b.toNat:Int):=by
 simp only[Lit.wf,yi,decide_eq_true_eq] at h;have h1:(0:Int)≤m:=h.1;have h2:m≤255:=h.2;refine⟨UInt8.ofNat m.toNat, ?_⟩;have:(UInt8.ofNat m.toNat).toNat=m.toNat:=by simp;omega
 rw[this];omega
theorem ZMj{m:Int}(h:(Lit.int .u32 m).wf=true):∃b:UInt32,m=(b.toNat:Int):=by
 simp only[Lit.wf,yi,decide_eq_true_eq] at h;have h1:(0:Int)≤m:=h.1;have h2:m≤4294967295:=h.2;refine⟨UInt32.ofNat m.toNat, ?_⟩;have:(UInt32.ofNat m.toNat).toNat=m.toNat:=by simp;omega
 rw[this];omega
theorem ZMk{m:Int}(h:(Lit.int .u64 m).wf=true):∃b:UInt64,m=(b.toNat:Int):=by
 simp only[Lit.wf,yi,decide_eq_true_eq] at h;have h1:(0:Int)≤m:=h.1;have h2:m≤18446744073709551615:=h.2;refine⟨yal m.toNat, ?_⟩;have:(yal m.toNat).toNat=m.toNat:=by simp;omega
 rw[this];omega
theorem ZDg{α β:Type}{f:α→β}{R:α→Prop}:∀{ys:List β},(∀y,y∈ys→∃x,y=f x∧R x)→∃l:List α,ys=l.map f∧∀x,List.Mem x l→R x
 |[],_=>⟨[],rfl,λx hx=>by cases hx⟩
 |y::ys,h=>by
  obtain⟨x,rfl,hx⟩:=h y (yap ..);obtain⟨l,rfl,hl⟩:=ZDg (λz hz=>h z (yau _ hz))
  exact⟨x::l,rfl,λz hz=>by
   cases hz with
   |head=>exact hx
   |tail _ hz=>exact hl z hz⟩
mutual
theorem Zw3{P:yg}:∀(m n:Nat)(t:yb)(T:Ty)(x:Pl),ZDf P m t T=true→wtP P n t x→∃v:T.den,T.Wf v∧x=T.enc v
 |0,_,_,_,_,h,_=>by simp[ZDf] at h
 |_+1,0,_,_,_,_,h=>by simp[wtP] at h
 |m+1,n+1,t,T,x,h,hw=>by
  unfold ZDf at h;split at h
  ·rename_i hu;unfold wtP at hw;rw[hu] at hw;cases x <;> try exact hw.elim
   obtain⟨rfl,h2⟩:=hw;obtain⟨b,rfl⟩:=ZNi h2;exact⟨b,trivial,rfl⟩
  ·rename_i hu;unfold wtP at hw;rw[hu] at hw;cases x <;> try exact hw.elim
   obtain⟨rfl,h2⟩:=hw;obtain⟨b,rfl⟩:=ZMj h2;exact⟨b,trivial,rfl⟩
  ·rename_i hu;unfold wtP at hw;rw[hu] at hw;cases x <;> try exact hw.elim
   obtain⟨rfl,h2⟩:=hw;obtain⟨b,rfl⟩:=ZMk h2;exact⟨b,trivial,rfl⟩
  ·rename_i k k' hu;have h:=of_decide_eq_true h;subst h;unfold wtP at hw;rw[hu] at hw;cases x <;> try exact hw.elim
   obtain⟨rfl,h2⟩:=hw;exact⟨_,h2,rfl⟩
  ·rename_i hu;unfold wtP at hw;rw[hu] at hw;cases x <;> try exact hw.elim
   exact⟨_,trivial,rfl⟩
  ·rename_i hu;unfold wtP at hw;rw[hu] at hw;cases x <;> try exact hw.elim
   exact⟨_,hw,rfl⟩
  ·rename_i e T' hu;simp only[yi,beq_iff_eq] at h;unfold wtP at hw;rw[hu] at hw;cases x <;> try exact hw.elim
   obtain⟨rfl,rfl,h3,h4⟩:=hw
   obtain⟨l,rfl,h5⟩:=ZDg λy hy=>(by
    obtain⟨v,a,b⟩:=Zw3 m n e T' y h.2 (h4 y hy);exact⟨v,b,a⟩:∃v:T'.den,y=T'.enc v∧T'.Wf v)
   refine⟨l,⟨by simpa using h3,h5⟩, ?_⟩;rw[h.1];rfl
  ·rename_i m0 e m' T' hu;simp only[yi,beq_iff_eq] at h;obtain⟨rfl,h⟩:=h;unfold wtP at hw;rw[hu] at hw;cases x <;> try exact hw.elim
   obtain⟨rfl,rfl,h3,h4⟩:=hw
   obtain⟨l,rfl,h5⟩:=ZDg λy hy=>(by
    obtain⟨v,a,b⟩:=Zw3 m n e T' y h.2 (h4 y hy);exact⟨v,b,a⟩:∃v:T'.den,y=T'.enc v∧T'.Wf v)
   refine⟨l,⟨by simpa using h3,h5⟩, ?_⟩;rw[h.1];rfl
  ·rename_i fs Ts hu;unfold wtP at hw;rw[hu] at hw;cases x <;> try exact hw.elim
   rename_i xs;obtain⟨v,h1,rfl⟩:=wt_tys m n fs.toList Ts xs h hw;exact⟨v,h1,rfl⟩
  ·cases h
theorem wt_tys{P:yg}:∀(m n:Nat)(fs:List Field)(Ts:List Ty)(xs:List Pl),tyOks P m fs Ts=true→ZKo (wtP P n) fs xs→∃v:Ty.dens Ts,Ty.Wfs Ts v∧xs=Ty.encs Ts v
 |0,_,_,_,_,h,_=>by simp[tyOks] at h
 |m+1,n,[],[],[],h,hw=>⟨(),trivial,rfl⟩
 |m+1,n,[],[],_::_,h,hw=>hw.elim
 |m+1,n,[],_::_,_,h,hw=>by cases h
 |m+1,n,_::_,[],_,h,hw=>by cases h
 |m+1,n,_::_,_::_,[],h,hw=>hw.elim
 |m+1,n,f::fs,[T],x::xs,h,hw=>by
  simp only[tyOks,yi] at h;obtain⟨v,h1,rfl⟩:=Zw3 m n f.type T x h.1 hw.1
  cases fs with
  |nil=>cases xs with
   |nil=>exact⟨v,h1,rfl⟩
   |cons _ _=>exact hw.2.elim
  |cons _ _=>
   cases m with
   |zero=>exact absurd h.2 (by simp[tyOks])
   |succ m=>exact absurd h.2 (by simp[tyOks])
 |m+1,n,f::fs,T::U::Ts,x::xs,h,hw=>by
  simp only[tyOks,yi] at h;obtain⟨v,h1,rfl⟩:=Zw3 m n f.type T x h.1 hw.1;obtain⟨w,h2,rfl⟩:=wt_tys m n fs (U::Ts) xs h.2 hw.2;exact⟨(v,w),⟨h1,h2⟩,rfl⟩
end
theorem Zw4{I X:Type}{step:I→Option (I⊕X)}(Inv:I→Prop)(mu:I→Nat)(Post:X→Prop)
 (h:∀i,Inv i→(∃j,step i=some (.inl j)∧Inv j∧mu j < mu i)∨(∃x,step i=some (.inr x)∧Post x)):∀(n:Nat)(i:I),Inv i→mu i < n→∃x,Zd step n i=some x∧Post x
 |0,i,_,hn=>by omega
 |n+1,i,hi,hn=>by
  unfold Zd;rcases h i hi with⟨j,h1,h2,h3⟩|⟨x,h1,h2⟩
  ·rw[h1,yf];exact Zw4 Inv mu Post h n j h2 (by omega)
  ·rw[h1,yf];exact⟨x,rfl,h2⟩
theorem Xv{I X:Type}{step:I→Option (I⊕X)}(Inv:I→Prop)(mu:I→Nat)(Post:X→Prop)
 (h:∀i,Inv i→(∃j,step i=some (.inl j)∧Inv j∧mu j < mu i)∨(∃x,step i=some (.inr x)∧Post x)) (i:I) (hi:Inv i) (hm:mu i < 18446744073709551616):∃x,Zd step fuel i=some x∧Post x:=by
 refine Zw4 Inv mu Post h fuel i hi ?_;rw[Zny];exact hm
theorem Y3{z:Int}(h1: -9223372036854775808≤z)(h2:z≤9223372036854775807):wi z=z:=by
 simp only[wi,IntKind.wrap,IntKind.signed,IntKind.bits];simp;omega
theorem Zkq{α:Type}{l:List α}{i:Int}{y:α}(h0:0≤i)(h:l[i.toNat]? =some y):idx l i=some y:=by
 unfold idx;rw[if_pos h0,h]
theorem QU{α:Type}{l:List α}{i:Nat}(h:i < l.length):∃y,l[i]? =some y:=⟨_,yac h⟩
theorem Y6{i:Int}{n:Nat}(h1:0≤i)(h2:i < (n:Int)):inB i n=true:=by simp[inB,h1,h2]
theorem XJ{n m b:Nat}(h1:(n+m)*b≤140737488355328)(h2:n+m≤9223372036854775807):apB n m b=true:=by
 unfold apB;rw[yi];exact⟨decide_eq_true h1,decide_eq_true h2⟩
def tdv:(ts:List Ty)→Ty.dens ts→List TD
 |[],_=>[]
 |[t],x=>[.p (.v t x)]
 |t::u::r,x=>.p (.v t x.1)::tdv (u::r) x.2
theorem ZEH:∀(ts:List Ty)(x:Ty.dens ts),Sh.fills (ts.map .v) (ofD ts x)=some (tdv ts x,[])
 |[],_=>rfl
 |[t],x=>by
  rw[show ofD [t] x=[⟨t,x⟩] from rfl,yad,List.map_nil,Sh.fills,Sh.fill]
  have e:=Ya t x;dsimp only;rw[e]
  rfl
 |t::u::r,x=>by
  have h:=ZEH (u::r) x.2;have e:=Ya t x.1;rw[show ofD (t::u::r) x=⟨t,x.1⟩::ofD (u::r) x.2 from rfl,yad,Sh.fills,Sh.fill]
  dsimp only;rw[e,yz,yf,h];rfl
theorem ZIk{L:Lk}:∀(ts:List Ty)(x:Ty.dens ts),TD.ers L (tdv ts x)=(Ty.encs ts x).map .p
 |[],_=>rfl
 |[t],x=>rfl
 |t::u::r,x=>by
  rw[show tdv (t::u::r) x=.p (.v t x.1)::tdv (u::r) x.2 from rfl,Zv,yad, ←Zv,ZIk (u::r) x.2]
  rfl
theorem ZKr{P:yg}{g:yu}{ts:List Ty}{M:Ty.dens ts→Option Bool}(hok:Fs.Ok (⟨g,ts.map .v,[],ts,[⟨.ret,[(0,.v .bool)],[],[.bool]⟩],M⟩:Fs P)){x:Ty.dens ts}(h:M x=some true):
 Con P g ((Ty.encs ts x).map .p) [] (.p (.bool true)) []:=by
 obtain⟨args,R,H,h1,h2,h3⟩:=hok x true h;have e:=(ZEH ts x).symm.trans (show Sh.fills (ts.map .v) (ofD ts x)=some (args,R) from h1)
 cases e;cases h2
 obtain⟨r,h4,h5⟩:=h3 _ [⟨.bool,true⟩] ([.p (.v .bool true)],[]) ⟨rfl,rfl⟩ (by
  simp only[W0,shs];rfl)
 cases h4;rw[←ZIk (L:=lk [])];exact h5
theorem ZyE{P:yg}{s:Fs P}(h:s.Ok){M:Ty.dens s.ins→Option (XSh.sum s.xs)}(e:∀x,M x=s.M x):Fs.Ok (P:=P) { s with M:=M}:=by
 have:M=s.M:=funext e;subst this;exact h
def Ztz(P:yg)(m:Nat):List yb→List Ty→Bool
 |[],[]=>true
 |t::ts,T::Ts=>ZDf P m t T&&Ztz P m ts Ts
 |_,_=>false
theorem ZEI{P:yg}{m n:Nat}:∀{ts:List yb}{Ts:List Ty}{xs:List Pl},Ztz P m ts Ts=true→ZKq P n ts xs→∃v:Ty.dens Ts,Ty.Wfs Ts v∧xs=Ty.encs Ts v
 |[],[],[],_,_=>⟨(),trivial,rfl⟩
 |[],[],_::_,_,h=>h.elim
 |[],_::_,_,h,_=>by cases h
 |_::_,[],_,h,_=>by cases h
 |_::_,_::_,[],_,h=>h.elim
 |t::ts,[T],x::xs,h,hw=>by
  simp only[Ztz,yi] at h;obtain⟨v,h1,rfl⟩:=Zw3 m n t T x h.1 hw.1
  cases ts with
  |nil=>cases xs with
   |nil=>exact⟨v,h1,rfl⟩
   |cons _ _=>exact hw.2.elim
  |cons _ _=>exact absurd h.2 (by simp[Ztz])
 |t::ts,T::U::Ts,x::xs,h,hw=>by
  simp only[Ztz,yi] at h;obtain⟨v,h1,rfl⟩:=Zw3 m n t T x h.1 hw.1;obtain⟨w,h2,rfl⟩:=ZEI (Ts:=U::Ts) h.2 hw.2;exact⟨(v,w),⟨h1,h2⟩,rfl⟩
theorem ZyF{P:yg}{g:yu}{t:Ty}{xs:List XSh}{MA M:Ty.dens [.sl t]→Option (XSh.sum xs)}(hA:Fs.Ok (⟨g,[.sl true t],[],[.sl t],xs,MA⟩:Fs P))
 (h1:M ([]:List t.den)=none) (h2:∀(x:t.den)(l:List t.den),M (x::l)=MA (x::l)):Fs.Ok (⟨g,[.v (.sl t)],[],[.sl t],xs,M⟩:Fs P):=by
 intro l o hM;have key:∀(l:List t.den),Ty.cast (.sl t) (.sl t) l=some l:=λl=>Ya (.sl t) l
 have h3:∀l:List t.den,M l=some o→MA l=some o∧l≠[]:=λl hl=>by
  cases l with
  |nil=>rw[h1] at hl;cases hl
  |cons x l=>exact⟨by rw[←h2];exact hl,by simp⟩
 obtain⟨hMA,hne⟩:=h3 l hM;obtain⟨a1,R1,H1,f1,f2,f3⟩:=hA l o hMA
 have e1:a1=[.p (.sl (some true) t l)]∧R1=[]:=by
  have:Sh.fills [.sl true t] [(⟨.sl t,l⟩:TV)]=some (a1,R1):=f1;simp only[Sh.fills,Sh.fill] at this;rw[key l] at this;have this:some (([.p (.sl (some true) t l)]:List TD),([]:List TV))=some (a1,R1):=this;cases this;exact⟨rfl,rfl⟩
 obtain⟨rfl,rfl⟩:=e1;cases f2;refine⟨[.p (.v (.sl t) l)],[],[], ?_,rfl,λe vs s' hs hf=> ?_⟩
 ·show Sh.fills [.v (.sl t)] [(⟨.sl t,l⟩:TV)]=_;simp only[Sh.fills,Sh.fill];rw[key l];rfl
 ·obtain⟨r,r1,r2⟩:=f3 e vs s' hs hf;exact⟨r,r1,ZD0 (xs:=List.map t.enc l) r2 λhl=>absurd (List.map_eq_nil_iff.1 hl) hne⟩
theorem ZIl{P:yg}{g:yu}{ps:List Sh}{es:List ESh}{ins:List Ty}{xr xp:XSh}{MR:Ty.dens ins→Option (XSh.sum [xr])}{MP:Ty.dens ins→Option (XSh.sum [xp])}(c:Ty.dens ins→Bool)
 (hR:Fs.Ok (⟨g,ps,es,ins,[xr],MR⟩:Fs P)) (hP:Fs.Ok (⟨g,ps,es,ins,[xp],MP⟩:Fs P)):Fs.Ok (⟨g,ps,es,ins,[xr,xp],λx=>if c x=true then(MP x).map .inr else(MR x).map .inl⟩:Fs P):=by
 intro x o hM
 replace hM:(if c x=true then(MP x).map Sum.inr else(MR x).map Sum.inl)=some o:=hM
 split at hM
 ·obtain⟨y,h1,rfl⟩:=yp.1 hM;obtain⟨a,R,H,f1,f2,f3⟩:=hP x y h1;exact⟨a,R,H,f1,f2,λe vs s' hs hf=>f3 e vs s' hs hf⟩
 ·obtain⟨y,h1,rfl⟩:=yp.1 hM;obtain⟨a,R,H,f1,f2,f3⟩:=hR x y h1;exact⟨a,R,H,f1,f2,λe vs s' hs hf=>f3 e vs s' hs hf⟩
end Go.Ev
end
section
namespace Go.Proofs.YtekdgjajmennjaaGreat
open Go.Ev Go.RowKit Go.Lib
theorem ZDh(w:yy):Calls ya 249 #[.slice none 0 0,.int .i64 0] w λe w'=>e=.returned (.slice none 0 0)∧w'=w:=by
 go_enter Tryz.func249,Tryz.ntmps249
 go_wp2
 go_ret
 exact⟨rfl,rfl⟩
theorem ZF4(n:Nat)(w:yy)(h0:0 < n)(hn:n≤Zo):Calls ya 249 #[.slice none 0 0,.int .i64 n] w λe w'=>e=.returned (.slice (some ⟨w.heap.size,0,none⟩) 0 (grownCap w n 0 5))∧
 w'=w.drew.alloc (.cells (Builtin.zeroCells #[.int .u8 0] n++Builtin.zeroCells #[.int .u8 0] (grownCap w n 0 5 - n)) 5):=by
 have hb:n≤140737488355328:=hn;have h1:¬((n:Int) < 0):=by omega
 have h3:wrap64 ((n:Int) - ((0:Int) - (0:Int)))=(n:Int):=by unfold wrap64;omega
 have h3':wrap64 ((n:Int) - 0)=(n:Int):=by unfold wrap64;omega
 have h3'':wrap64 (n:Int)=(n:Int):=by unfold wrap64;omega
 have h4:(n:Int) > 0:=by omega
 have hi:∃i,ya.info? 5=some i∧i.zero=some (.int .u8 0)∧i.size=1∧i.bytes=1:=by
  have h:(ya.info? 5).map (λi=>(i.zero,i.size,i.bytes))=some (some (.int .u8 0),1,1):=by kernel_rfl
  obtain⟨i,h1,h2⟩:=yp.1 h;simp only[yl] at h2;exact⟨i,h1,h2.1,h2.2.1,h2.2.2⟩
 obtain⟨i,hi1,hi2,hi3,hi4⟩:=hi
 have hrz:∀ty,(Builtin.append_ #[41,3] ty #[.slice none 0 0,.int .i64 n]).run ya w=
  .ok (.slice (some ⟨w.heap.size,0,none⟩) n (grownCap w n 0 5)) (w.drew.alloc (.cells (Builtin.zeroCells #[.int .u8 0] n++Builtin.zeroCells #[.int .u8 0] (grownCap w n 0 5 - n)) 5)):=λty=>by
  have h:=Lib.run_append_grow_zeros (P:=ya) w 41 3 ty 5 i (.int .u8 0) .i64 .i64 Tryz.underlying41 Tryz.underlying3 hi1 hi2 none 0 0 [] (by rw[hi3];simp[Builtin.firstCells]) n h0 (by omega) (by omega) (by omega)
   (by rw[hi4];omega) (by rw[yax];exact growslice_fits h0 (by rw[hi4];omega))
  simpa[Value.cells] using h
 obtain⟨G,hG⟩:∃G,G=grownCap w n 0 5:=⟨_,rfl⟩;have hGn:=grownCap_ge w n 0 5;have hG63:=grownCap_le_maxLen w n 0 5 (by unfold maxLen;omega);unfold maxLen at hG63;rw[←hG] at hrz hGn hG63 ⊢;clear hG
 go_enter Tryz.func249,Tryz.ntmps249
 go_wp2_with (at_builtin;refine Lib.wpList_append_run _ rfl _ _ _ _ rfl _ _ rfl rfl _ _ (hrz _) ?_)
 all_goals (go_ret;exact⟨rfl,rfl⟩)
theorem ZIm(n:Nat)(hn:n≤Zo):Con ya 249 [.p (.sl (some false) 1 []),.p (.int .i64 (n:Int))] [] (.own 0 none 1 []) [.log 1 5 []]:=by
 intro σ vs ok hH hvs;simp only[repVs] at hvs;obtain⟨v,_,rfl,hv,v2,_,rfl,hv2,rfl⟩:=hvs;obtain rfl:=Zp0 hv
 obtain rfl:v2=.int .i64 n:=by
  have:=hv2.2 rfl;simpa[repD,repC] using this
 have hm:σ.m=[]:=yaz (by rw[ok.len,hH];rfl);rcases Nat.eq_zero_or_pos n with rfl|h0
 ·refine(ZDh σ.w).mono λe w'⟨he,hw⟩=> ?_;subst he;subst hw;obtain⟨to,ok'⟩:=Xz (σ':={ σ with m:=σ.m++[none],H:=σ.H++[.log 1 5 []]}) ok rfl rfl rfl rfl (World.grownBy.refl σ.w none) (.inl rfl) (λ_=>.inl ⟨rfl,rfl⟩);refine⟨_,{ σ with m:=σ.m++[none],H:=σ.H++[.log 1 5 []]},rfl,rfl,by simp[hH],to,ok', ?_⟩;rw[Ze rfl];simp only[repD];exact⟨λ_ hx=>(by cases hx),none,0,rfl,ym _,by simp[maxLen],ZY _,λ_=>rfl,λh=>absurd rfl h,5,[],by simp[hH],ym _,λ_=>.inl ⟨by simp[hm],rfl,rfl⟩⟩
 ·refine(ZF4 n σ.w h0 hn).mono λe w'⟨he,hw⟩=> ?_;subst he;subst hw;have hge:=grownCap_ge σ.w n 0 5;have hcm:=grownCap_le_maxLen σ.w n 0 5 (by have:n≤140737488355328:=hn;unfold maxLen;omega)
  have hsz:(Builtin.zeroCells #[.int .u8 0] n++Builtin.zeroCells #[.int .u8 0] (grownCap σ.w n 0 5 - n):Array yh).size=grownCap σ.w n 0 5*1:=by
   simp only[Array.size_append,size_zeroCells];simp;omega
  let cs:Array yh:=Builtin.zeroCells #[.int .u8 0] n++Builtin.zeroCells #[.int .u8 0] (grownCap σ.w n 0 5 - n);let σ':Sg:={ σ with m:=σ.m++[some σ.w.heap.size],H:=σ.H++[.log 1 5 []],w:=σ.w.drew.alloc (.cells cs 5)};have hblk:σ'.w.heap[σ.w.heap.size]? =some (.cells cs 5 (0,0)):=heap_alloc_new σ.w.drew _
  obtain⟨to,ok'⟩:=Xz (σ':=σ') ok rfl rfl rfl rfl (Yu σ.w (.cells cs 5) none) (.inr ⟨_,rfl,ym _,by simp[σ']⟩)
   (λleaf=>.inr ⟨σ.w.heap.size,_,grownCap σ.w n 0 5,rfl,hblk,hsz,Nat.zero_le _,hcm,λ_ hx=>(by cases hx),by simp[repCs]⟩)
  refine⟨_,σ',rfl,rfl,by simp[σ',hH],to,ok', ?_⟩;rw[Ze rfl];simp only[repD];exact⟨λ_ hx=>(by cases hx),_,_,rfl,Nat.zero_le _,hcm,ZY _,λh=>(by cases h),λh=>absurd rfl h,5,[],by simp[σ',hH],ym _,λ_=>.inr ⟨_,_,by simp[σ',hm],rfl,hblk,hsz⟩⟩
end Go.Proofs.YtekdgjajmennjaaGreat
end
section
set_option maxRecDepth 4000
namespace Go.Proofs.YtekdgjajmennjaaGreat
open Go Go.Ev
noncomputable section
abbrev yI:Ty:=.int .i64
def XC(F:Nat)(a0:UInt64):Option (Bool):=
 some (decide (a0 < 2305843009213688669))
def ZtA(F:Nat):Fs ya:=⟨61,[.v .u64],[],[.u64],[⟨.ret,[(0,.v .bool)],[],[.bool]⟩],λx=>XC F x⟩
def VK:Fs ya:=ZtA fuel
theorem QV:VK.Ok:=fnO { still:=[2]} [] [] trivial
def YW(F:Nat)(a0:Int)(a1:Int)(a2:Int):Option (Bool):=
 if(decide (a1≤a0))=true then
  some (decide (a0≤a2))
 else
 some false
def Zpd(F:Nat):Fs ya:=⟨200,[.v yI,.v yI,.v yI],[],[yI,yI,yI],[⟨.ret,[(0,.v .bool)],[],[.bool]⟩],λx=>YW F x.1 x.2.1 x.2.2⟩
def ZhI:Fs ya:=Zpd fuel
theorem Zpe:ZhI.Ok:=fnO { still:=[6]} [] [] trivial
abbrev Zb1:Ty:=(.st [yI,yI,yI,yI,yI,yI])
abbrev Terms:Type:=(Int×Int×Int×Int×Int×Int)
def ZcJ(F:Nat)(a0:Terms):Option (Bool):=
 (YW F a0.1 0 65536).bind λo1=>
 if o1=true then
  (YW F a0.2.2.1 1 4096).bind λo2=>
  if o2=true then
   (YW F a0.2.2.2.1 0 16).bind λo3=>
   if o3=true then
    (YW F a0.2.1 a0.1 1125899906842624).bind λo4=>
    if o4=true then
     (YW F a0.2.2.2.2.1 1 1125899906842624).bind λo5=>
     if o5=true then
      (YW F a0.2.2.2.2.2 0 1125899906842624).bind λo6=>
      some o6
     else
     some false
    else
    some false
   else
   some false
  else
  some false
 else
 some false
def ZtB(F:Nat):Fs ya:=⟨131,[.v Zb1],[],[Zb1],[⟨.ret,[(0,.v .bool)],[],[.bool]⟩],λx=>ZcJ F x⟩
def Zk3:Fs ya:=ZtB fuel
def hi0:HI:={ still:=[2,7,12,18,25,27,33,39]}
theorem ZtC:Zk3.Ok:=fnO hi0 [] [ZhI] ⟨Zpe,ytt⟩
def Zqo:ByteArray:=⟨#[0,1,2,2,3,3,3,3,4,4,4,4,4,4,4,4,5,5,5,5,5,5,5,5,5,5,5,5,5,5,5,5,6,6,6,6,6,6,6,6,6,6,6,6,6,6,6,6,6,6,6,6,6,6,6,6,6,6,6,6,6,6,6,6,7,7,7,7,7,7,7,7,7,7,7,7,7,7,7,7,7,7,7,7,7,7,7,7,7,7,7,7,7,7,7,7,7,7,7,7,7,7,7,7,7,7,7,7,7,7,7,7,7,7,7,7,7,7,7,7,7,7,7,7,7,7,7,7,8,8,8,8,8,8,8,8,8,8,8,8,8,8,8,8,8,8,8,8,8,8,8,8,8,8,8,8,8,8,8,8,8,8,8,8,8,8,8,8,8,8,8,8,8,8,8,8,8,8,8,8,8,8,8,8,8,8,8,8,8,8,8,8,8,8,8,8,8,8,8,8,8,8,8,8,8,8,8,8,8,8,8,8,8,8,8,8,8,8,8,8,8,8,8,8,8,8,8,8,8,8,8,8,8,8,8,8,8,8,8,8,8,8,8,8,8,8,8,8,8,8,8,8,8,8,8,8]⟩
def Zqp(F:Nat)(a0:UInt64):Option (Int):=
 if(decide (a0 ≥ 4294967296))=true then
  if(decide ((ZC a0 32) ≥ 65536))=true then
   if(decide ((ZC (ZC a0 32) 16) ≥ 256))=true then
    let y7:UInt8:=w8 ((ZC (ZC (ZC a0 32) 16) 8).toNat:Int)
    (idx (Zfz Zqo) (y7.toNat:Int)).bind λe8=>
    some (wi (56+(e8.toNat:Int)))
   else
   (idx (Zfz Zqo) ((w8 ((ZC (ZC a0 32) 16).toNat:Int)).toNat:Int)).bind λe9=>
   some (wi (48+(e9.toNat:Int)))
  else
  if(decide ((ZC a0 32) ≥ 256))=true then
   (idx (Zfz Zqo) ((w8 ((ZC (ZC a0 32) 8).toNat:Int)).toNat:Int)).bind λe10=>
   some (wi (40+(e10.toNat:Int)))
  else
  (idx (Zfz Zqo) ((w8 ((ZC a0 32).toNat:Int)).toNat:Int)).bind λe11=>
  some (wi (32+(e11.toNat:Int)))
 else
 if(decide (a0 ≥ 65536))=true then
  if(decide ((ZC a0 16) ≥ 256))=true then
   (idx (Zfz Zqo) ((w8 ((ZC (ZC a0 16) 8).toNat:Int)).toNat:Int)).bind λe12=>
   some (wi (24+(e12.toNat:Int)))
  else
  (idx (Zfz Zqo) ((w8 ((ZC a0 16).toNat:Int)).toNat:Int)).bind λe13=>
  some (wi (16+(e13.toNat:Int)))
 else
 if(decide (a0 ≥ 256))=true then
  (idx (Zfz Zqo) ((w8 ((ZC a0 8).toNat:Int)).toNat:Int)).bind λe14=>
  some (wi (8+(e14.toNat:Int)))
 else
 (idx (Zfz Zqo) ((w8 (a0.toNat:Int)).toNat:Int)).bind λe15=>
 some (wi (0+(e15.toNat:Int)))
def Zvi(F:Nat):Fs ya:=⟨258,[.v .u64],[],[.u64],[⟨.ret,[(0,.v yI)],[],[yI]⟩],λx=>Zqp F x⟩
def ZnB:Fs ya:=Zvi fuel
theorem Zvj:ZnB.Ok:=fnO { still:=[2]} [] [] trivial
def Yf(F:Nat)(a0:UInt64):Option (Int):=
 (Zqp F a0).bind λo16=>
 some (wi (64 - o16))
def Zg0(F:Nat):Fs ya:=⟨253,[.v .u64],[],[.u64],[⟨.ret,[(0,.v yI)],[],[yI]⟩],λx=>Yf F x⟩
def Zas:Fs ya:=Zg0 fuel
theorem Zg1:Zas.Ok:=fnO { still:=[2,3]} [] [ZnB] ⟨Zvj,ytt⟩
def W1(F:Nat)(s:(UInt64×UInt64×UInt64×UInt64×UInt64×UInt64×UInt64×UInt64×UInt64)):Option ((UInt64×UInt64×UInt64×UInt64×UInt64×UInt64×UInt64×UInt64×UInt64)⊕(UInt64×UInt64×UInt64×UInt64×UInt64×UInt64×UInt64×UInt64)):=
 if(decide (s.2.2.2.2.2.2.2.1 ≥ 4294967296))=true then
  let y24:Bool:=decide ((s.2.2.2.2.2.2.2.2+s.2.2.1) ≥ 4294967296)
  if y24=true then
   some (.inr (s.1,s.2.1,s.2.2.1,s.2.2.2.1,s.2.2.2.2.1,s.2.2.2.2.2.1,s.2.2.2.2.2.2.1,s.2.2.2.2.2.2.2.1 - 1))
  else
  some (.inl (s.1,s.2.1,s.2.2.1,s.2.2.2.1,s.2.2.2.2.1,s.2.2.2.2.2.1,s.2.2.2.2.2.2.1,s.2.2.2.2.2.2.2.1 - 1,s.2.2.2.2.2.2.2.2+s.2.2.1))
 else
 let y25:Bool:=decide ((s.2.2.2.2.2.2.2.1*s.2.2.2.1) > ((4294967296*s.2.2.2.2.2.2.2.2)+s.2.2.2.2.2.1))
 if y25=true then
  let y26:Bool:=decide ((s.2.2.2.2.2.2.2.2+s.2.2.1) ≥ 4294967296)
  if y26=true then
   some (.inr (s.1,s.2.1,s.2.2.1,s.2.2.2.1,s.2.2.2.2.1,s.2.2.2.2.2.1,s.2.2.2.2.2.2.1,s.2.2.2.2.2.2.2.1 - 1))
  else
  some (.inl (s.1,s.2.1,s.2.2.1,s.2.2.2.1,s.2.2.2.2.1,s.2.2.2.2.2.1,s.2.2.2.2.2.2.1,s.2.2.2.2.2.2.2.1 - 1,s.2.2.2.2.2.2.2.2+s.2.2.1))
 else
 some (.inr (s.1,s.2.1,s.2.2.1,s.2.2.2.1,s.2.2.2.2.1,s.2.2.2.2.2.1,s.2.2.2.2.2.2.1,s.2.2.2.2.2.2.2.1))
def Zk4:Lp:=⟨[(2,.v .u64),(8,.v .u64),(9,.v .u64),(10,.v .u64),(11,.v .u64),(13,.v .u64),(14,.v .u64),(15,.v .u64),(16,.v .u64)],[],[.u64,.u64,.u64,.u64,.u64,.u64,.u64,.u64,.u64],[⟨.exit 0,[(2,.v .u64),(8,.v .u64),(9,.v .u64),(10,.v .u64),(11,.v .u64),(13,.v .u64),(14,.v .u64),(15,.v .u64)],[],[.u64,.u64,.u64,.u64,.u64,.u64,.u64,.u64]⟩],Zd (W1 fuel) fuel⟩
theorem Zpf:Zk4.okA ya 233 0:=Zq { still:=[6,7,34]} [] [] trivial
def W2(F:Nat)(s:(UInt64×UInt64×UInt64×UInt64×UInt64×UInt64×UInt64×UInt64×UInt64)):Option ((UInt64×UInt64×UInt64×UInt64×UInt64×UInt64×UInt64×UInt64×UInt64)⊕(UInt64×UInt64×UInt64×UInt64×UInt64×UInt64)):=
 if(decide (s.2.2.2.2.2.2.2.2 ≥ 4294967296))=true then
  let y29:Bool:=decide ((s.2.2.2.2.2.2.1+s.2.2.1) ≥ 4294967296)
  if y29=true then
   some (.inr (s.1,s.2.1,s.2.2.2.2.1,s.2.2.2.2.2.1,s.2.2.2.2.2.2.2.1,s.2.2.2.2.2.2.2.2 - 1))
  else
  some (.inl (s.1,s.2.1,s.2.2.1,s.2.2.2.1,s.2.2.2.2.1,s.2.2.2.2.2.1,s.2.2.2.2.2.2.1+s.2.2.1,s.2.2.2.2.2.2.2.1,s.2.2.2.2.2.2.2.2 - 1))
 else
 let y30:Bool:=decide ((s.2.2.2.2.2.2.2.2*s.2.2.2.1) > ((4294967296*s.2.2.2.2.2.2.1)+s.2.2.2.2.1))
 if y30=true then
  let y31:Bool:=decide ((s.2.2.2.2.2.2.1+s.2.2.1) ≥ 4294967296)
  if y31=true then
   some (.inr (s.1,s.2.1,s.2.2.2.2.1,s.2.2.2.2.2.1,s.2.2.2.2.2.2.2.1,s.2.2.2.2.2.2.2.2 - 1))
  else
  some (.inl (s.1,s.2.1,s.2.2.1,s.2.2.2.1,s.2.2.2.2.1,s.2.2.2.2.2.1,s.2.2.2.2.2.2.1+s.2.2.1,s.2.2.2.2.2.2.2.1,s.2.2.2.2.2.2.2.2 - 1))
 else
 some (.inr (s.1,s.2.1,s.2.2.2.2.1,s.2.2.2.2.2.1,s.2.2.2.2.2.2.2.1,s.2.2.2.2.2.2.2.2))
def Zk5:Lp:=⟨[(2,.v .u64),(8,.v .u64),(9,.v .u64),(10,.v .u64),(14,.v .u64),(15,.v .u64),(16,.v .u64),(17,.v .u64),(18,.v .u64)],[],[.u64,.u64,.u64,.u64,.u64,.u64,.u64,.u64,.u64],[⟨.exit 2,[(2,.v .u64),(8,.v .u64),(14,.v .u64),(15,.v .u64),(17,.v .u64),(18,.v .u64)],[],[.u64,.u64,.u64,.u64,.u64,.u64]⟩],Zd (W2 fuel) fuel⟩
theorem Zpg:Zk5.okA ya 233 1:=Zq { still:=[6,7,34]} [] [] trivial
def ZeW(F:Nat)(a0:UInt64)(a1:UInt64)(a2:UInt64):Option ((UInt64×UInt64)):=
 if(a2==0)=true then
  none
 else
 if(decide (a2≤a0))=true then
  none
 else
 if(a0==0)=true then
  if(a2 !=0)=true then
   if(a2 !=0)=true then
    some (a1 / a2,a1 % a2)
   else
   none
  else
  none
 else
 (Yf F a2).bind λo17=>
 let y18:UInt64:=ZC (Vz a2 (min ((w64 o17).toNat:Int).toNat 64)) 32;let y19:UInt64:=(Vz a2 (min ((w64 o17).toNat:Int).toNat 64))&&&4294967295;let y20:UInt64:=ZC a1 (min ((64 - (w64 o17)).toNat:Int).toNat 64);let y21:UInt64:=(Vz a0 (min ((w64 o17).toNat:Int).toNat 64))|||y20;let y22:UInt64:=ZC (Vz a1 (min ((w64 o17).toNat:Int).toNat 64)) 32;let y23:UInt64:=(Vz a1 (min ((w64 o17).toNat:Int).toNat 64))&&&4294967295
 if(y18 !=0)=true then
  (Zd (W1 F) F (Vz a2 (min ((w64 o17).toNat:Int).toNat 64),w64 o17,y18,y19,y21,y22,y23,y21 / y18,y21 - ((y21 / y18)*y18))).bind λo27=>
  let y28:UInt64:=((o27.2.2.2.2.1*4294967296)+o27.2.2.2.2.2.1) - (o27.2.2.2.2.2.2.2*o27.1)
  if(o27.2.2.1 !=0)=true then
   (Zd (W2 F) F (o27.1,o27.2.1,o27.2.2.1,o27.2.2.2.1,o27.2.2.2.2.2.2.1,o27.2.2.2.2.2.2.2,y28 - ((y28 / o27.2.2.1)*o27.2.2.1),y28,y28 / o27.2.2.1)).bind λo32=>
   let y33:UInt64:=((o32.2.2.2.2.1*4294967296)+o32.2.2.1) - (o32.2.2.2.2.2*o32.1)
   some ((o32.2.2.2.1*4294967296)+o32.2.2.2.2.2,ZC y33 (min (o32.2.1.toNat:Int).toNat 64))
  else
  none
 else
 none
def Zvk(F:Nat):Fs ya:=⟨233,[.v .u64,.v .u64,.v .u64],[],[.u64,.u64,.u64],[⟨.ret,[(0,.tup [.v .u64,.v .u64])],[],[.u64,.u64]⟩],λx=>ZeW F x.1 x.2.1 x.2.2⟩
def ZnC:Fs ya:=Zvk fuel
theorem Zvl:ZnC.Ok:=fnO { still:=[6,7,34]} [(0,Zk4),(1,Zk5)] [Zas] ⟨Zg1,ytt⟩ ⟨Zpf,Zpg,ytt⟩
def QW(F:Nat)(a0:UInt64)(a1:UInt64)(a2:UInt64):Option (UInt64):=
 if(a2 !=0)=true then
  (ZeW F (a0 % a2) a1 a2).bind λo34=>
  some o34.2
 else
 none
def ZdF(F:Nat):Fs ya:=⟨185,[.v .u64,.v .u64,.v .u64],[],[.u64,.u64,.u64],[⟨.ret,[(0,.v .u64)],[],[.u64]⟩],λx=>QW F x.1 x.2.1 x.2.2⟩
def Zvm:Fs ya:=ZdF fuel
theorem ZtD:Zvm.Ok:=fnO { still:=[6,12,13,14]} [] [ZnC] ⟨Zvl,ytt⟩
end
end Go.Proofs.YtekdgjajmennjaaGreat
end
section
namespace Go.Ev
theorem Zr0(a m:UInt64):(a - a / m*m).toNat=a.toNat % m.toNat:=by
 have h1:a.toNat / m.toNat*m.toNat≤a.toNat:=Nat.div_mul_le_self _ _;have h2:=UInt64.toNat_lt a
 have h3:(a / m*m).toNat=a.toNat / m.toNat*m.toNat:=by
  rw[UInt64.toNat_mul,UInt64.toNat_div,yaq (by omega)]
 have h4:(a / m*m)≤a:=by rw[UInt64.le_iff_toNat_le,h3];exact h1
 rw[UInt64.toNat_sub_of_le _ _ h4,h3];have:=Nat.div_add_mod a.toNat m.toNat
 rw[Nat.mul_comm] at this;omega
theorem Zi3(x:UInt64):(x&&&4294967295).toNat=x.toNat % 4294967296:=by
 rw[UInt64.toNat_and];exact Nat.and_two_pow_sub_one_eq_mod x.toNat 32
theorem V8(x:UInt64)(n:Nat):(ZC x n).toNat=x.toNat / 2 ^ n:=by
 unfold ZC;rw[UInt64.toNat_ofNat',yaq (Nat.lt_of_le_of_lt (Nat.div_le_self ..) (UInt64.toNat_lt _))]
theorem Zkr{x y:UInt64}(h:x.toNat+y.toNat < 18446744073709551616):(x+y).toNat=x.toNat+y.toNat:=by
 rw[UInt64.toNat_add,yaq h]
theorem Zks{x y:UInt64}(h:x.toNat*y.toNat < 18446744073709551616):(x*y).toNat=x.toNat*y.toNat:=by
 rw[UInt64.toNat_mul,yaq h]
theorem Zi4{a b:Nat}(ha:a < 4294967296)(hb:b < 4294967296):a*b≤18446744065119617025:=Nat.mul_le_mul (Nat.le_of_lt_succ ha) (Nat.le_of_lt_succ hb)
end Go.Ev
end
