/- Parts of the proof, in one file. -/
import Derived.Test.YtkapgdbeeblihaaKd
open Array renaming getElem?_toList → ybl, getElem?_eq_some_iff → ycp, getElem?_setIfInBounds → ycy, getD_eq_getD_getElem? → ycz
open Bool renaming and_eq_true → yh, false_eq_true → ybv, or_eq_true → yce
open Go renaming TypeId → ya, Program → yf, Value → yg, Operand → ym, FuncId → yr, World → yy
open List renaming length_append → yp, getElem?_eq_some_iff → yq, range → yu, nil_append → yw, length_map → yx, cons_append → yaa, replicate → yab, map_cons → yac, getElem?_eq_getElem → yad, mem_singleton → yai, map_append → yaj, length_cons → yak, getElem?_append_left → yal, append_assoc → yam, getElem?_map → yan, getElem?_eq_none → yap, getElem?_append_right → yaq, mem_cons_self → yar, mem_cons_of_mem → yas, getElem?_cons_succ → yaw, map_map → yax, length_set → yba, all_eq_true → ybb, mem_cons → ybd, map_set → ybg, eq_nil_of_length_eq_zero → ybh, append_nil → ybk, getElem?_set → ybn, ext_getElem? → ybo, mem_map → ybq, getElem?_cons_zero → ybu, mem_of_getElem? → ybw, getElem?_take → ycd, map_congr_left → ycg, mem_append → ycj, getElem?_set_self → ycl, length_replicate → ycq, getD_eq_getElem?_getD → ycw
open Nat renaming le_refl → yl, mod_eq_of_lt → yao, zero_add → yay, lt_or_ge → ybt, add_assoc → ycf
open Option renaming bind_some → yb, bind_eq_some_iff → yc, map_some → yz
open Option.some renaming injEq → yi, inj → ybf
open Prod.mk renaming injEq → yj
open UInt64 renaming ofNat → yae
set_option linter.unusedVariables false
set_option linter.unusedSimpArgs false
section
namespace Go.Ev
section
variable{P:yf}{o:Oper}{ts all:List TD}{H:List TEnt}{O:Type}{K:Kn O}{out:O}
def TD.isView:TD→Bool
 |.view _ _ _ _ _=>true
 |_=>false
def TD.isNilSl:TD→Bool
 |.p (.sl (some false) _ [])=>true
 |_=>false
def TD.isRef:TD→Bool
 |.ref _ _=>true
 |_=>false
def TD.isRref:TD→Bool
 |.rref _ _ _=>true
 |_=>false
def TD.isRv:TD→Bool
 |.rv _ _ _ _ _=>true
 |_=>false
def ZCo(a:TD)(lo hi:Option Int):Bool:=
 match a with
 |.rv _ _ _ _ n=> !ZaW n lo hi
 |_=>false
def TD.isOwn:TD→Bool
 |.own _ _ _ _=>true
 |_=>false
def TD.isMp:TD→Bool
 |.mp _=>true
 |_=>false
def Zgq(l:List Tmp):Option Tmp→Bool
 |some t=>l.contains t
 |none=>false
def Zeu(P:yf)(o:Oper)(ts all:List TD)(H:List TEnt)(K:Kn O):Option O:=opN (lk H) P o ts λd hs=>K all d H hs 0
theorem Xb(h:Zeu P o ts all H K=some out):∃a d H' hs c,K a d H' hs c=some out∧Good P o ts all H a d H' hs c:=by
 obtain⟨d,hs,h1,h2⟩:=ZzD h;exact⟨_,_,_,_,_,h1,rfl,rfl,.inl ⟨rfl,rfl,h2⟩⟩
def ZwP(P:yf)(hi:HI)(o:Oper)(x:ym)(asg:Bool)(ts all:List TD)(H:List TEnt)(K:Kn O):Option O:=
 match o.dst,arT P ts o.type x with
 |some t,some d=>if hi.still.contains t&&(d.isView || d.isRv) then Zrc t all H K d else if hi.still.contains t&&d.isRw then Zrh t all H K d else if asg&&(hi.rowt.contains t&&d.isNilSl) then Zrl P o.type t all H K d else if asg&&(hi.own.contains t&&d.isNilSl) then Zu7 P o.type t all H K d else Zeu P o ts all H K
 |_,_=>Zeu P o ts all H K
def TD.numI(d:TD):Option Num:=
 match d.num with
 |some a=>if a.k=.i64 then some a else none
 |none=>none
def opT(P:yf)(hi:HI)(specs:Sp P)(o:Oper)(ts all:List TD)(H:List TEnt)(K:Kn O):Option O:=
 if rnT P hi o ts H=true then ZD7 P hi o ts all H K else
 match o.op with
 |.move x=>ZwP P hi o x false ts all H K
 |.assign x=>ZwP P hi o x true ts all H K
 |.slice t x lo h none=>if Zgq hi.frz o.dst then(arT P ts t x).bind λa=>(Zce P ts lo).bind λl=>(Zce P ts h).bind λr=>ZD5 P t l r all H K a
  else(arT P ts t x).bind λa=>(Zce P ts lo).bind λl=>(Zce P ts h).bind λr=>if(Zgq hi.rowt o.dst&&a.isRw)=true then Zm3 P t l r all H K a else if ZCo a l r=true then Zu5 P t l r all H K a else Zeu P o ts all H K
 |.load t x=>(arT P ts 0 x).bind λd=>if d.isRef || d.isRref then ZzH P t all H K d else if d.isRp then Zvg P t all H K d else Zeu P o ts all H K
 |.lookup t x ix ok=>(arT P ts t x).bind λd=>ZqW P t all H ok K (λkt=>arT P ts kt ix) d
 |.makeMap t none=>ZmZ P t all H K
 |.makeSlice t l c=>((arT P ts 0 l).bind TD.numI).bind λn=>((arT P ts 0 c).bind TD.numI).bind λn'=>if Zgq hi.mkn o.dst then Zrj P t n.n n'.n all H K else if Zgq hi.rowt o.dst then Zvj P t n.n n'.n all H K else Zhm P t (Zgq hi.own o.dst) (Zgq hi.row o.dst) n.n n'.n all H K
 |.mapUpdate t x k v=>(arT P ts t x).bind λd=>Zgc P t all H K (λkt=>arT P ts kt k) (λet=>arT P ts et v) d
 |.insert t x k v=>(arT P ts t x).bind λd=>Zgc P t all H K (λkt=>arT P ts kt k) (λet=>arT P ts et v) d
 |.alloc t=>Zu8 P hi o.dst t all H K
 |.box t x=>(arT P ts t x).bind (ZD4 hi o.dst all H K)
 |.store t x y=>(arT P ts 0 x).bind λa=>(arT P ts t y).bind λv=>if a.isRp then Zrf P t all H K v a else Zu9 P (ZFi hi x) t all H K v a
 |.buildSlice t len parts=>if Zgq hi.rowt o.dst then(match (o.dst.bind λd=>hi.rew.lookup d).bind λs=>all[s]? with
  |some (.rw id)=>Zvi P ts t len parts.toList id all H K
  |_=>ZzP P ts t len parts.toList all H K) else if Zgq hi.row o.dst then(if(ZFj P ts t (lk H) parts.toList&& !Zgq hi.own o.dst)=true then Zq6 P ts t len parts.toList all H K else Zm1 P ts t len parts.toList all H K) else if Zgq hi.own o.dst then Zq8 P ts t len parts.toList all H K else Zeu P o ts all H K
 |.indexAddr t x ix=>(arT P ts t x).bind λa=>if a.isRw then(arT P ts 0 ix).bind λb=>b.inner.bind λip=>(ZmS ip).bind λq=>Zrd P t q.2 all H K a else Zeu P o ts all H K
 |.call c=>match c.callee with
  |.builtin .len=>match c.args.toList,c.argTypes.toList with
   |[x],[t]=>(arT P ts t x).bind λd=>if d.isMp then ZqY P t all H K d else if d.isRw then ZzO P t all H K d else Zeu P o ts all H K
   |_,_=>none
  |.builtin .max=>Zeu P o ts all H K
  |.builtin .append=>match c.args.toList,c.argTypes.toList with
   |[x,y],[t,u]=>(arT P ts t x).bind λa=>(arT P ts u y).bind λb=>if a.isRw || (a.isNilSl&&Zgq hi.rowt o.dst) then Zm2 P true t u all H K b a else if a.isOwn || a.isRv || (a.isNilSl&&(Zgq hi.own o.dst || Zgq hi.row o.dst)) then Zra P (Zgq hi.own o.dst) (Zgq hi.row o.dst) t u all H K b (if hi.eqs=true then Zvb H a else a) else Zeu P o ts all H K
   |_,_=>none
  |.builtin .copy=>match c.args.toList,c.argTypes.toList with
   |[x,y],[t,u]=>(arT P ts t x).bind λa=>(arT P ts u y).bind λb=>ZzN P t u all H K b a
   |_,_=>none
  |.builtin .clear=>match c.args.toList,c.argTypes.toList with
   |[x],[t]=>(arT P ts t x).bind λa=>Zvc P t all H K a
   |_,_=>none
  |.builtin .delete=>match c.args.toList,c.argTypes.toList with
   |[x,y],[t,u]=>(arT P ts t x).bind λa=>Zq2 P t all H K (arT P ts u y) a
   |_,_=>none
  |.value f=>match arT P ts 0 f with
   |some (.fn g cap)=>if(WU P (Qe g)&&c.args.size==c.argTypes.size)=true then(ZkJ P ts c.args.toList c.argTypes.toList).bind λaz=>ZDn specs (Qe g) all H K (if g < big then az++cap else cap++az) else Zeu P o ts all H K
   |_=>none
  |.invoke recv name=>match arT P ts 0 recv with
   |some (.iface t x)=>(Zz5 specs.mt t name).bind λg=>if(WU P g&&c.args.size==c.argTypes.size)=true then(ZkJ P ts c.args.toList c.argTypes.toList).bind λaz=>ZDm specs g all H (λa d H' hs _=>K a d H' (.meth g::hs) 2) (x::az) else none
   |_=>none
  |_=>none
 |_=>Zeu P o ts all H K
theorem Xh{d:TD}{n:Num}(h:d.numI=some n):d.num=some n∧n.k=.i64:=by
 unfold TD.numI at h;split at h
 ·rename_i a hn;split at h
  ·rename_i e;cases h;exact⟨hn,e⟩
  ·cases h
 ·cases h
theorem Znc{hi:HI}{x:ym}{asg:Bool}(ho:if asg=true then o.op=.assign x else o.op=.move x)(h:ZwP P hi o x asg ts all H K=some out):∃a d H' hs c,K a d H' hs c=some out∧Good P o ts all H a d H' hs c:=by
 unfold ZwP at h;split at h
 ·rename_i t d hd hx;split at h
  ·refine Zti (x:=x) ?_ hd hx h;cases asg
   ·exact .inr ho
   ·exact .inl ho
  split at h
  ·refine Zri (x:=x) ?_ hd hx h;cases asg
   ·exact .inr ho
   ·exact .inl ho
  split at h
  ·rename_i ha;rw[yh] at ha;rw[if_pos ha.1] at ho;exact Zrm ho hd hx h
  ·split at h
   ·rename_i ha;rw[yh] at ha;rw[if_pos ha.1] at ho;exact Ztb ho hd hx h
   ·exact Xb h
 ·exact Xb h
theorem Znd{hi:HI}{specs:Sp P}(ok:SpOk specs)(h:opT P hi specs o ts all H K=some out):∃a d H' hs c,K a d H' hs c=some out∧Good P o ts all H a d H' hs c:=by
 unfold opT at h;split at h
 ·exact Zyd h
 split at h
 ·rename_i x ho;exact Znc (asg:=false) ho h
 ·rename_i x ho;exact Znc (asg:=true) ho h
 ·rename_i t x lo hi' ho;split at h
  ·obtain⟨a,h1,h⟩:=yc.1 h;obtain⟨l,h2,h⟩:=yc.1 h;obtain⟨r,h3,h⟩:=yc.1 h;exact Zyb ho h1 h2 h3 h
  ·obtain⟨a,h1,h⟩:=yc.1 h;obtain⟨l,h2,h⟩:=yc.1 h;obtain⟨r,h3,h⟩:=yc.1 h;split at h
   ·exact ZoG ho h1 h2 h3 h
   split at h
   ·exact Zs8 ho h1 h2 h3 h
   ·exact Xb h
 ·rename_i t x ho;obtain⟨d,h1,h⟩:=yc.1 h;split at h
  ·exact Zu4 ho h1 h
  split at h
  ·exact Ztj ho h1 h
  ·exact Xb h
 ·rename_i t x ix okk ho;obtain⟨d,h1,h⟩:=yc.1 h;exact ZqX ho h1 h
 ·rename_i t ho;exact ZoD ho h
 ·rename_i t l c ho;obtain⟨n,h1,h⟩:=yc.1 h;obtain⟨n',h2,h⟩:=yc.1 h;obtain⟨d1,g1,g2⟩:=yc.1 h1;obtain⟨d2,g3,g4⟩:=yc.1 h2;split at h
  ·exact Zrk ho (by rw[g1];exact(Xh g2).1) (by rw[g3];exact(Xh g4).1) (Xh g2).2 (Xh g4).2 h
  split at h
  ·exact Ztm ho (by rw[g1];exact(Xh g2).1) (by rw[g3];exact(Xh g4).1) (Xh g2).2 (Xh g4).2 h
  exact Zlh ho (by rw[g1];exact(Xh g2).1) (by rw[g3];exact(Xh g4).1) (Xh g2).2 (Xh g4).2 h
 ·rename_i t x k v ho;obtain⟨d,h1,h⟩:=yc.1 h;exact Zq0 ho h1 h
 ·rename_i t x k v ho;obtain⟨d,h1,h⟩:=yc.1 h;exact Zq1 ho h1 h
 ·rename_i t ho;exact Ztd ho h
 ·rename_i t x ho;obtain⟨d,h1,h⟩:=yc.1 h;exact Zx9 ho h1 h
 ·rename_i t x y ho;obtain⟨a,h1,h⟩:=yc.1 h;obtain⟨v,h2,h⟩:=yc.1 h;split at h
  ·exact Zrg ho h1 h2 h
  ·exact Zte ho h1 h2 h
 ·rename_i t len parts ho;split at h
  ·split at h
   ·exact Ztl ho h
   ·exact Zvh ho h
  split at h
  ·split at h
   ·exact Zq7 ho h
   ·exact ZoE ho h
  split at h
  ·exact Zq9 ho h
  ·exact Xb h
 ·rename_i t x ix ho;obtain⟨a,h1,h⟩:=yc.1 h;split at h
  ·obtain⟨b,h2,h⟩:=yc.1 h;obtain⟨ip,h3,h⟩:=yc.1 h;obtain⟨q,h4,h⟩:=yc.1 h;rw[Yh h3] at h2;exact Zre ho h1 h2 h4 h
  ·exact Xb h
 ·rename_i c ho;split at h
  ·rename_i hc;split at h
   ·rename_i x t ha ht;obtain⟨d,h1,h⟩:=yc.1 h;split at h
    ·exact ZqZ ho hc ha ht h1 h
    split at h
    ·exact Zvf ho hc ha ht h1 h
    ·exact Xb h
   ·cases h
  ·exact Xb h
  ·rename_i hc;split at h
   ·rename_i x y t u ha ht;obtain⟨a,h1,h⟩:=yc.1 h;obtain⟨b,h2,h⟩:=yc.1 h;split at h
    ·exact ZoF ho hc ha ht (Zm h1) h2 h
    split at h
    ·refine Zrb ho hc ha ht ?_ h2 h;split
     ·rw[Zya];exact Zm h1
     ·exact Zm h1
    ·exact Xb h
   ·cases h
  ·rename_i hc;split at h
   ·rename_i x y t u ha ht;obtain⟨a,h1,h⟩:=yc.1 h;obtain⟨b,h2,h⟩:=yc.1 h;exact Zvd ho hc ha ht h1 h2 h
   ·cases h
  ·rename_i hc;split at h
   ·rename_i x t ha ht;obtain⟨a,h1,h⟩:=yc.1 h;exact Ztg ho hc ha ht h1 h
   ·cases h
  ·rename_i hc;split at h
   ·rename_i x y t u ha ht;obtain⟨a,h1,h⟩:=yc.1 h;exact Zq3 ho hc ha ht h1 h
   ·cases h
  ·rename_i f hc;split at h
   ·rename_i g cap hf;split at h
    ·rename_i hb;obtain⟨az,h1,h⟩:=yc.1 h;obtain⟨a,d,H',hs,cc,k1,k2⟩:=Zz7 ok h;rcases k2 with k2|k2
     ·exact⟨a,d,H',hs,cc,k1,Zyh ho hc hf hb h1 k2⟩
     ·exact⟨a,d,H',hs,cc,k1,Zz8 ho hc hf hb h1 k2⟩
    ·exact Xb h
   ·cases h
  ·rename_i recv name hc;split at h
   ·rename_i t x hf;obtain⟨g,hg,h⟩:=yc.1 h;obtain⟨hb,h⟩:=Za h;obtain⟨az,h1,h⟩:=yc.1 h;obtain⟨a,d,H',hs,cc,k1,k2⟩:=Zz6 ok h;exact⟨a,d,H',_,_,k1,Zyi ho hc hf (Zrx ok.mt hg) hb h1 k2⟩
   ·cases h
  ·cases h
 ·exact Xb h
def Zvq(ops:Array Oper)(j:Nat):Option Tmp:=(ops[j]?).bind (·.dst)
def ZoJ(b:Bool):TD:=.p (.v .bool b)
def Zz9:TD→Bool
 |.tup []=>true
 |_=>false
def gT(P:yf)(hi:HI)(specs:Sp P)(ops:Array Oper)(o:Oper)(ts all:List TD)(H:List TEnt)(K:Kn O):Option O:=
 match o.guard with
 |none=>opT P hi specs o ts all H K
 |some (j,want)=>(Zvq ops j).bind λt=>match (ts.getD t .junk).boolT with
  |some b=>
   if b=true then
    if true=want then opT P hi specs o (ts.set t (ZoJ true)) (all.set t (ZoJ true)) H λa d H' hs c=>K a d H' (.b true::hs) c
    else K (all.set t (ZoJ true)) (.tup []) H [.b true] 0
   else
    if false=want then opT P hi specs o (ts.set t (ZoJ false)) (all.set t (ZoJ false)) H λa d H' hs c=>K a d H' (.b false::hs) c
    else K (all.set t (ZoJ false)) (.tup []) H [.b false] 0
  |none=>if Zz9 (ts.getD t .junk) then K all (.tup []) H [.raw] 0 else none
structure GoodG(P:yf)(ops:Array Oper)(o:Oper)(ts all:List TD)(H:List TEnt)(all':List TD)(d:TD)(H':List TEnt)(hs:List Hint)(cls:Nat):Prop where
 same:TD.ers (lk H') all'=TD.ers (lk H) all
 len:all'.length=all.length
 op:∃C,AllP C∧∀rest,evG P ops o (TD.ers (lk H) ts) (erH H) (hs++rest)=some (C,d.er (lk H'),erH H',rest)
 sam:cls=3→erH H'=erH H
 cls:∀rest,clsOf P o (TD.ers (lk H) ts) (erH H) (hs++rest)≤cls
theorem Zry{d:TD}{a:List TD}{H':List TEnt}{hs:List Hint}{c:Nat}(h:Good P o ts all H a d H' hs c):∃C,AllP C∧(∀rest,Zcd P o (TD.ers (lk H) ts) (erH H) (hs++rest)=some (C,d.er (lk H'),erH H',rest))∧
 ∀rest,(if(evN P o (TD.ers (lk H) ts) (hs++rest)).isSome then 0 else if(evR P o (TD.ers (lk H) ts) (erH H) (hs++rest)).isSome then 1 else 2)≤c:=by
 rcases h.op with⟨rfl,rfl,C,h1,h2⟩|⟨rfl,rfl,h0,C,h1,h2⟩|⟨rfl,h0,h00,C,h1,h2⟩|⟨rfl,_,h0,h00,C,h1,h2⟩
 ·exact⟨C,h1,λrest=>by unfold Zcd;rw[h2 rest],λrest=>by rw[h2 rest];simp⟩
 ·exact⟨C,h1,λrest=>by unfold Zcd;rw[h0 rest];dsimp only;rw[h2 rest],λrest=>by rw[h0 rest,h2 rest];simp⟩
 ·exact⟨C,h1,λrest=>by unfold Zcd;rw[h0 rest];dsimp only;rw[h00 rest];exact h2 rest,λrest=>by rw[h0 rest,h00 rest];simp⟩
 ·exact⟨C,h1,λrest=>by unfold Zcd;rw[h0 rest];dsimp only;rw[h00 rest];exact h2 rest,λrest=>by rw[h0 rest,h00 rest];simp⟩
theorem Zne{d:TD}{a:List TD}{H':List TEnt}{hs:List Hint}{c:Nat}(h:Good P o ts all H a d H' hs c)(hc:c=3):erH H'=erH H:=by
 subst hc;rcases h.op with⟨e,_⟩|⟨e,_⟩|⟨e,_⟩|⟨_,e,_⟩
 ·cases e
 ·cases e
 ·cases e
 ·exact e
theorem ZtB{l:List TD}{t:Nat}{b:Bool}(h:(l.getD t .junk).boolT=some b):l.getD t .junk=ZoJ b:=by
 unfold TD.boolT at h;split at h
 ·rename_i x hx;unfold TP.boolB at h;split at h
  ·cases h;exact hx
  ·cases h
 ·cases h
theorem set_same{l:List TD}{t:Nat}{d:TD}(h:l.getD t .junk=d):(l.set t d)=l:=by
 apply ybo;intro i;rw[ybn];split
 ·rename_i e;subst e;split
  ·rename_i hl;rw[←h,ycw,yad hl];rfl
  ·rename_i hl;rw[yap (by omega)]
 ·rfl
theorem ZwQ{hi:HI}{specs:Sp P}{ops:Array Oper}(ok:SpOk specs)(hg:∀j want t,o.guard=some (j,want)→Zvq ops j=some t→ts.getD t .junk=all.getD t .junk)(h:gT P hi specs ops o ts all H K=some out):
 ∃a d H' hs c,K a d H' hs c=some out∧GoodG P ops o ts all H a d H' hs c:=by
 unfold gT at h;split at h
 ·rename_i hgd;obtain⟨a,d,H',hs,c,h1,h2⟩:=Znd ok h;obtain⟨C,g1,g2,g3⟩:=Zry h2;refine⟨a,d,H',hs,c,h1,h2.same,h2.len,⟨C++[],Zj.2 ⟨g1,ytt⟩,λrest=> ?_⟩,Zne h2,λrest=> ?_⟩
  ·unfold evG;rw[hgd];dsimp only;rw[g2 rest];rfl
  ·unfold clsOf;rw[hgd];exact g3 rest
 ·rename_i j want hgd;obtain⟨t,ht,h9⟩:=yc.1 h;clear h;have eall:=hg j want t hgd ht
  have eslot:((ops[j]?).bind (·.dst)).map (λt=>(TD.ers (lk H) ts).getD t .junk)=some ((ts.getD t .junk).er (lk H)):=by
   rw[show(ops[j]?).bind (·.dst)=some t from ht,yz,Zij]
  split at h9
  ·rename_i b hb;have e1:=ZtB hb;have e2:all.getD t .junk=ZoJ b:=by rw[←eall];exact e1
   have e3:(ts.getD t .junk).er (lk H)=.p (.bool b):=Zds hb;split at h9
   ·rename_i hbt;subst hbt;rw[set_same e1,set_same e2] at h9;split at h9
    ·rename_i hw;subst hw;obtain⟨a,d,H',hs,c,h1,h2⟩:=Znd ok h9;obtain⟨C,g1,g2,g3⟩:=Zry h2;refine⟨a,d,H',_,c,h1,h2.same,h2.len,⟨(true=true)::C++[],Zj.2 ⟨⟨rfl,g1⟩,ytt⟩,λrest=> ?_⟩,Zne h2,λrest=> ?_⟩
     ·unfold evG;rw[hgd];dsimp only;rw[eslot,e3];simp only[yaa,if_true,g2 rest];rfl
     ·unfold clsOf;rw[hgd];simp only[yaa,if_true];exact g3 rest
    ·rename_i hw;refine⟨_,_,_,_,_,h9,rfl,rfl,⟨[true=true],⟨rfl,ytt⟩,λrest=> ?_⟩,λ_=>rfl,λrest=> ?_⟩
     ·unfold evG;rw[hgd];dsimp only;rw[eslot,e3];simp only[yaa,yw,if_neg hw];rfl
     ·unfold clsOf;rw[hgd];simp only[yaa,if_neg hw];exact yl _
   ·rename_i hbt;have hbt:b=false:=by simpa using hbt
    subst hbt;rw[set_same e1,set_same e2] at h9;split at h9
    ·rename_i hw;subst hw;obtain⟨a,d,H',hs,c,h1,h2⟩:=Znd ok h9;obtain⟨C,g1,g2,g3⟩:=Zry h2;refine⟨a,d,H',_,c,h1,h2.same,h2.len,⟨(false=false)::C++[],Zj.2 ⟨⟨rfl,g1⟩,ytt⟩,λrest=> ?_⟩,Zne h2,λrest=> ?_⟩
     ·unfold evG;rw[hgd];dsimp only;rw[eslot,e3];simp only[yaa,if_true,g2 rest];rfl
     ·unfold clsOf;rw[hgd];simp only[yaa,if_true];exact g3 rest
    ·rename_i hw;refine⟨_,_,_,_,_,h9,rfl,rfl,⟨[false=false],⟨rfl,ytt⟩,λrest=> ?_⟩,λ_=>rfl,λrest=> ?_⟩
     ·unfold evG;rw[hgd];dsimp only;rw[eslot,e3];simp only[yaa,yw,if_neg hw];rfl
     ·unfold clsOf;rw[hgd];simp only[yaa,if_neg hw];exact yl _
  ·obtain⟨h1,h9⟩:=Za h9
   have e3:(ts.getD t .junk).er (lk H)=.tup []:=by
    unfold Zz9 at h1;split at h1
    ·rename_i hx;rw[hx];rfl
    ·cases h1
   refine⟨_,_,_,_,_,h9,rfl,rfl,⟨[],trivial,λrest=> ?_⟩,λ_=>rfl,λrest=> ?_⟩
   ·unfold evG;rw[hgd];dsimp only;rw[eslot,e3];rfl
   ·unfold clsOf;rw[hgd];exact yl _
def ZpS(ts:List TD)(dst:Option Tmp)(d:TD):List TD:=
 match dst with
 |some i=>ts.set i d
 |none=>ts
theorem ZtC{L:Lk}(dst:Option Tmp)(d:TD):TD.ers L (ZpS ts dst d)=ZeV (TD.ers L ts) dst (d.er L):=by
 cases dst with
 |none=>rfl
 |some i=>simp only[ZpS,ZeV,Zs,ybg]
theorem ZpT(dst:Option Tmp)(d:TD):(ZpS ts dst d).length=ts.length:=by
 cases dst <;> simp[ZpS]
def Zvr(P:yf)(hi:HI)(specs:Sp P)(ops:Array Oper):List Oper→List TD→List TEnt→(List TD→List TEnt→List Hint→Option O)→Option O
 |[],all,H,K=>K all H []
 |o::r,all,H,K=>gT P hi specs ops o all all H λa d H' hs _=>Zvr P hi specs ops r (ZpS a o.dst d) H' λa' h' hs'=>K a' h' (hs++hs')
theorem ZjV{hi:HI}{specs:Sp P}{ops:Array Oper}(ok:SpOk specs):∀(l:List Oper)(all:List TD)(H:List TEnt)(K:List TD→List TEnt→List Hint→Option O),Zvr P hi specs ops l all H K=some out→
 ∃a h hs C,K a h hs=some out∧a.length=all.length∧AllP C∧∀rest,Zgx P ops l (TD.ers (lk H) all) (erH H) (hs++rest)=some (C,TD.ers (lk h) a,erH h,rest)
 |[],all,H,K,h=>⟨all,H,[],[],h,rfl,trivial,λ_=>rfl⟩
 |o::r,all,H,K,h=>by
  unfold Zvr at h;obtain⟨a,d,H',hs,c,h1,h2⟩:=ZwQ ok (λ_ _ _ _ _=>rfl) h;obtain⟨a',h',hs',C',k1,k0,k2,k3⟩:=ZjV ok r _ _ _ h1;obtain⟨C,g1,g2⟩:=h2.op;refine⟨a',h',_,C++C',k1,by rw[k0,ZpT,h2.len],Zj.2 ⟨g1,k2⟩,λrest=> ?_⟩;unfold Zgx;rw[yam,g2 (hs'++rest)];dsimp only;rw[←h2.same, ←ZtC,k3 rest]
end
end Go.Ev
end
section
namespace Go.Ev
section
variable{P:yf}{o:Oper}{ts all:List TD}{H:List TEnt}{O:Type}{out:O}
def Zev(keep:List Nat):Nat→List TD→List TD
 |_,[]=>[]
 |i,d::r=>(if keep.contains i then d else .junk)::Zev keep (i+1) r
theorem ZiB{L:Lk}(keep:List Nat):∀(l:List TD)(k:Nat),TD.ers L (Zev keep k l)=ZC keep k (TD.ers L l)
 |[],_=>rfl
 |d::r,k=>by
  rw[Zev,TD.ers,TD.ers,ZC,ZiB keep r];split <;> rfl
theorem ZpU(keep:List Nat):∀(l:List TD)(k t:Nat),keep.contains (k+t)=true→(Zev keep k l).getD t .junk=l.getD t .junk
 |[],_,_,_=>rfl
 |d::r,k,0,h=>by
  have h':keep.contains k=true:=h
  simp only[Zev,h',if_true,List.getD_cons_zero]
 |d::r,k,t+1,h=>by
  simp only[Zev,List.getD_cons_succ];exact ZpU keep r (k+1) t (by rw[show k+1+t=k+(t+1) by omega];exact h)
mutual
def Pl.sameB:Pl→Pl→Bool
 |.int k n,.int l m=>decide (k=l)&&decide (n=m)
 |.bool a,.bool b=>a==b
 |.str a,.str b=>decide (a=b)
 |.ptr0,.ptr0=>true
 |.fn0,.fn0=>true
 |.if0,.if0=>true
 |.map0,.map0=>true
 |.fnv f,.fnv g=>Nat.beq f g
 |.agg xs,.agg ys=>Pl.samesB xs ys
 |.arr n s xs,.arr m u ys=>Nat.beq n m&&Nat.beq s u&&Pl.samesB xs ys
 |.sl a s xs,.sl b u ys=>a==b&&Nat.beq s u&&Pl.samesB xs ys
 |.iface t x,.iface u y=>Nat.beq t u&&Pl.sameB x y
 |_,_=>false
def Pl.samesB:List Pl→List Pl→Bool
 |[],[]=>true
 |x::r,y::q=>Pl.sameB x y&&Pl.samesB r q
 |_,_=>false
end
mutual
theorem Pl.sameB_eq:∀(a b:Pl),Pl.sameB a b=true→a=b
 |.int k n,b,h=>by cases b <;> simp_all[Pl.sameB]
 |.bool k,b,h=>by cases b <;> simp_all[Pl.sameB]
 |.str k,b,h=>by cases b <;> simp_all[Pl.sameB]
 |.ptr0,b,h=>by cases b <;> simp_all[Pl.sameB]
 |.fn0,b,h=>by cases b <;> simp_all[Pl.sameB]
 |.if0,b,h=>by cases b <;> simp_all[Pl.sameB]
 |.map0,b,h=>by cases b <;> simp_all[Pl.sameB]
 |.fnv f,b,h=>by cases b <;> simp_all[Pl.sameB]
 |.agg xs,b,h=>by cases b <;> simp_all[Pl.sameB];exact Pl.samesB_eq _ _ h
 |.arr n s xs,b,h=>by cases b <;> simp_all[Pl.sameB];exact Pl.samesB_eq _ _ h.2
 |.sl n s xs,b,h=>by cases b <;> simp_all[Pl.sameB];exact Pl.samesB_eq _ _ h.2
 |.iface t x,b,h=>by cases b <;> simp_all[Pl.sameB];exact Pl.sameB_eq _ _ h.2
theorem Pl.samesB_eq:∀(a b:List Pl),Pl.samesB a b=true→a=b
 |[],[],_=>rfl
 |[],_::_,h=>by cases h
 |_::_,[],h=>by cases h
 |x::r,y::q,h=>by
  simp only[Pl.samesB,yh] at h;rw[Pl.sameB_eq x y h.1,Pl.samesB_eq r q h.2]
end
def ZpV:List Nat→List Nat→Bool
 |[],[]=>true
 |x::r,y::q=>Nat.beq x y&&ZpV r q
 |_,_=>false
theorem ZiC:∀(a b:List Nat),ZpV a b=true→a=b
 |[],[],_=>rfl
 |[],_::_,h=>by cases h
 |_::_,[],h=>by cases h
 |x::r,y::q,h=>by
  simp only[ZpV,yh] at h;rw[Nat.eq_of_beq_eq_true h.1,ZiC r q h.2]
mutual
def Dv.sameB:Dv→Dv→Bool
 |.p x,.p y=>Pl.sameB x y
 |.elem x,.elem y=>Pl.sameB x y
 |.ref i o l,.ref j q m=>Nat.beq i j&&Nat.beq o q&&ZpV l m
 |.own i a s xs,.own j b u ys=>Nat.beq i j&&a==b&&Nat.beq s u&&Pl.samesB xs ys
 |.view i o l a b c,.view i' o' l' a' b' c'=>Nat.beq i i'&&Nat.beq o o'&&ZpV l l'&&Nat.beq a a'&&Nat.beq b b'&&Nat.beq c c'
 |.agg xs,.agg ys=>Dv.samesB xs ys
 |.arr n s xs,.arr m u ys=>Nat.beq n m&&Nat.beq s u&&Dv.samesB xs ys
 |.fn f xs,.fn g ys=>Nat.beq f g&&Dv.samesB xs ys
 |.iface t x,.iface u y=>Nat.beq t u&&Dv.sameB x y
 |.tup xs,.tup ys=>Dv.samesB xs ys
 |.mp i,.mp j=>Nat.beq i j
 |.rv a b c d e,.rv a' b' c' d' e'=>Nat.beq a a'&&Nat.beq b b'&&Nat.beq c c'&&Nat.beq d d'&&Nat.beq e e'
 |.rref a b c l,.rref a' b' c' l'=>Nat.beq a a'&&Nat.beq b b'&&Nat.beq c c'&&ZpV l l'
 |.junk,.junk=>true
 |_,_=>false
def Dv.samesB:List Dv→List Dv→Bool
 |[],[]=>true
 |x::r,y::q=>Dv.sameB x y&&Dv.samesB r q
 |_,_=>false
end
theorem Zcf{a b:Nat}(h:Nat.beq a b=true):a=b:=Nat.eq_of_beq_eq_true h
mutual
theorem Dv.sameB_eq:∀(a b:Dv),Dv.sameB a b=true→a=b
 |.p x,b,h=>by
  cases b <;> simp only[Dv.sameB,ybv] at h
  rw[Pl.sameB_eq _ _ h]
 |.elem x,b,h=>by
  cases b <;> simp only[Dv.sameB,ybv] at h
  rw[Pl.sameB_eq _ _ h]
 |.ref i o l,b,h=>by
  cases b <;> simp only[Dv.sameB,ybv,yh] at h
  rw[Zcf h.1.1,Zcf h.1.2,ZiC _ _ h.2]
 |.own i a s xs,b,h=>by
  cases b <;> simp only[Dv.sameB,ybv,yh,beq_iff_eq] at h
  rw[Zcf h.1.1.1,h.1.1.2,Zcf h.1.2,Pl.samesB_eq _ _ h.2]
 |.view i o l a k c,b,h=>by
  cases b <;> simp only[Dv.sameB,ybv,yh] at h
  rw[Zcf h.1.1.1.1.1,Zcf h.1.1.1.1.2,ZiC _ _ h.1.1.1.2,Zcf h.1.1.2,Zcf h.1.2,Zcf h.2]
 |.agg xs,b,h=>by
  cases b <;> simp only[Dv.sameB,ybv] at h
  rw[Dv.samesB_eq _ _ h]
 |.arr n s xs,b,h=>by
  cases b <;> simp only[Dv.sameB,ybv,yh] at h
  rw[Zcf h.1.1,Zcf h.1.2,Dv.samesB_eq _ _ h.2]
 |.fn f xs,b,h=>by
  cases b <;> simp only[Dv.sameB,ybv,yh] at h
  rw[Zcf h.1,Dv.samesB_eq _ _ h.2]
 |.iface t x,b,h=>by
  cases b <;> simp only[Dv.sameB,ybv,yh] at h
  rw[Zcf h.1,Dv.sameB_eq _ _ h.2]
 |.tup xs,b,h=>by
  cases b <;> simp only[Dv.sameB,ybv] at h
  rw[Dv.samesB_eq _ _ h]
 |.mp i,b,h=>by
  cases b <;> simp only[Dv.sameB,ybv] at h
  rw[Zcf h]
 |.rv a k c d e,b,h=>by
  cases b <;> simp only[Dv.sameB,ybv,yh] at h
  rw[Zcf h.1.1.1.1,Zcf h.1.1.1.2,Zcf h.1.1.2,Zcf h.1.2,Zcf h.2]
 |.rref a k c l,b,h=>by
  cases b <;> simp only[Dv.sameB,ybv,yh] at h
  rw[Zcf h.1.1.1,Zcf h.1.1.2,Zcf h.1.2,ZiC _ _ h.2]
 |.junk,b,h=>by
  cases b <;> simp only[Dv.sameB,ybv] at h;rfl
theorem Dv.samesB_eq:∀(a b:List Dv),Dv.samesB a b=true→a=b
 |[],[],_=>rfl
 |[],_::_,h=>by cases h
 |_::_,[],h=>by cases h
 |x::r,y::q,h=>by
  simp only[Dv.samesB,yh] at h;rw[Dv.sameB_eq x y h.1,Dv.samesB_eq r q h.2]
end
def Ent.sameB:Option Ent→Option Ent→Bool
 |some (.var d _),some (.var e _)=>Dv.sameB d e
 |_,_=>false
theorem Ent.sameB_rd{a b:Option Ent}(h:Ent.sameB a b=true):rdE a=rdE b:=by
 unfold Ent.sameB at h;split at h
 ·rw[Dv.sameB_eq _ _ h];rfl
 ·cases h
structure TR where
 cls:Nat
 rd:Option Nat
 tc:Option (List Nat)
 n:Nat
 push:Bool
 loc:Bool
 m:Nat
 sm:Nat→Bool
def ZwR(P:yf)(hi:HI)(specs:Sp P)(ops:Array Oper):List Oper→List TD→List TEnt→(List TD→List TEnt→List TR→List Hint→Option O)→Option O
 |[],all,H,K=>K all H [] []
 |o::r,all,H,K=>gT P hi specs ops o (Zev (looks ops o) 0 all) all H λa d H' hs c=>ZwR P hi specs ops r (ZpS a o.dst d) H' λa' h' rs hs'=>
   K a' h' (⟨c,ZyP P o (TD.ers (lk H) (Zev (looks ops o) 0 all)),Zqw P o (TD.ers (lk H) (Zev (looks ops o) 0 all)) hs,H.length,Zal o hs H.length,Zh0 o hs,H'.length,λid=>(c==3) || Ent.sameB ((erH H')[id]?) ((erH H)[id]?)⟩::rs) (hs++hs')
def RecOk(R:Rec)(r:TR):Prop:=R.cls≤r.cls∧R.rd=r.rd∧(∀l,r.tc=some l→R.tc=some l)∧R.H.length=r.n∧(r.push=true→R.push=true)∧(r.loc=true→R.loc=true)∧R.H'.length=r.m∧∀id,r.sm id=true→rdE (R.H'[id]?)=rdE (R.H[id]?)
inductive RecsOk:List Rec→List TR→Prop where
 |nil:RecsOk [] []
 |cons {R:Rec} {r:TR} {Rs:List Rec} {rs:List TR} (h:RecOk R r) (k:RecsOk Rs rs):RecsOk (R::Rs) (r::rs)
theorem Zvs{ts:List Dv}{hs rest:List Hint}{l:List Nat}(h:ZaP P o ts hs=some l):ZaP P o ts (hs++rest)=some l:=by
 unfold ZaP at h ⊢;split at h <;> first|exact h|skip
 ·cases hs with
  |nil=>cases h
  |cons x r=>rw[yaa];cases x <;> exact h
 split at h <;> first|exact h|skip
 all_goals
  split at h
  ·exact h
  ·cases h
theorem ZCp{ts:List Dv}{hs rest:List Hint}{l:List Nat}(h:Zqw P o ts hs=some l):Zqw P o ts (hs++rest)=some l:=by
 unfold Zqw at h ⊢;split at h
 ·rename_i hg;rw[if_pos hg];exact Zvs h
 ·cases h
theorem ZAa{hs rest:List Hint}(h:Zh0 o hs=true):Zh0 o (hs++rest)=true:=by
 unfold Zh0 at h ⊢;rw[yh] at h ⊢;refine⟨h.1, ?_⟩;have h:=h.2;split at h
 ·split at h
  ·split at h
   ·exact h
   ·cases h
  ·split at h
   ·exact h
   ·cases h
  ·cases h
 ·cases h
theorem Zyj{hs rest:List Hint}{n:Nat}(h:Zal o hs n=true):Zal o (hs++rest) n=true:=by
 unfold Zal at h ⊢;rw[yh] at h ⊢;refine⟨h.1, ?_⟩;have h:=h.2;split at h
 ·rfl
 ·split at h
  ·split at h
   ·exact h
   ·cases h
  ·cases h
 ·cases h
theorem Znf{hi:HI}{specs:Sp P}{ops:Array Oper}(ok:SpOk specs):∀(l:List Oper)(all:List TD)(H:List TEnt)(K:List TD→List TEnt→List TR→List Hint→Option O),ZwR P hi specs ops l all H K=some out→
 ∃a h rs hs C,K a h rs hs=some out∧a.length=all.length∧AllP C∧∀rest,∃RS,evD P ops l (TD.ers (lk H) all) (erH H) (hs++rest)=some (C,RS,TD.ers (lk h) a,erH h,rest)∧RecsOk RS rs
 |[],all,H,K,h=>⟨all,H,[],[],[],h,rfl,trivial,λ_=>⟨[],rfl,.nil⟩⟩
 |o::r,all,H,K,h=>by
  unfold ZwR at h
  have hgd:∀j want t,o.guard=some (j,want)→Zvq ops j=some t→(Zev (looks ops o) 0 all).getD t .junk=all.getD t .junk:=by
   intro j want t hg hs;refine ZpU _ _ _ _ ?_;rw[yay];unfold looks;rw[hg];dsimp only;rw[show(ops[j]?).bind (·.dst)=some t from hs]
   simp
  obtain⟨a,d,H',hs,c,h1,h2⟩:=ZwQ ok hgd h;obtain⟨a',h',rs,hs',C',k1,k0,k2,k3⟩:=Znf ok r _ _ _ h1;obtain⟨C,g1,g2⟩:=h2.op;refine⟨a',h',_,_,C++C',k1,by rw[k0,ZpT,h2.len],Zj.2 ⟨g1,k2⟩,λrest=> ?_⟩;obtain⟨RS,e1,e2⟩:=k3 rest;unfold evD;rw[←ZiB,yam,g2 (hs'++rest)];dsimp only;rw[←h2.same, ←ZtC,e1]
  refine⟨_,rfl,.cons ⟨h2.cls _,rfl,λl hl=> ?_,Zv _,λhp=>by rw[Zv];exact Zyj hp,λhl=>ZAa hl,Zv _,λid hs=>by
   have hs:(c==3 || Ent.sameB ((erH H')[id]?) ((erH H)[id]?))=true:=hs;rw[yce] at hs;rcases hs with h5|h5
   ·rw[h2.sam (by simpa using h5)]
   ·exact Ent.sameB_rd h5⟩ e2⟩
  exact ZCp hl
def ZwS(ops:Array Oper)(cls:List Nat)(free comm:Nat→Nat→Bool):Bool:=
 let l:=ops.toList;let A:=ZyQ l;let n:=l.length
 (cls.length==n)&&Zdi l 0&&
 ((yu n).all λi=>match l[i]? with|some o=>A.getD i 0==ZdR A i o|none=>true)&&
 ((yu n).all λi=>(yu n).all λj=>i==j || Zdj l i==none || !(Zdj l i==Zdj l j))&&
 ((yu n).all λi=>match l[i]? with
   |some o=>let k:=looks ops o
    (yu n).all λj=>match Zdj l j with
      |some t=>i==j || !(k.contains t) || (if j < i then(A.getD i 0).testBit j else(A.getD j 0).testBit i)
      |none=>true
   |none=>true)&&
 ((yu n).all λi=>cls.getD i 0==0 || (yu n).all λj=>i==j || decide (cls.getD j 0 < 2) || (if j < i then(A.getD i 0).testBit j else(A.getD j 0).testBit i) || (decide (cls.getD i 0≤1)&&free i j) || comm i j)
def ZAb(rs:List TR)(i j:Nat):Bool:=
 match rs[i]?,rs[j]? with
 |some r,some q=>match r.rd with
  |some id=>decide (id < q.n)&&decide (id < r.n)&&((match q.tc with|some l=> !l.contains id|none=>false) || q.sm id)
  |none=>false
 |_,_=>false
def cT(rs:List TR)(c:Nat)(r:TR):Bool:=r.loc || (r.push&&r.m==r.n+1&&(rs.take c).all λq=>decide (q.n≤r.n))
def cI(rs:List TR):Nat:=match rs.findIdx? (λr=>r.loc&&r.cls==2) with
 |some c=>c
 |none=>(rs.findIdx? (λr=>r.push)).getD 0
def ZwT(rs:List TR)(i j:Nat):Bool:=
 let c:=cI rs
 ((rs[c]?).map (cT rs c)).getD false&&((i==c&&decide (c < j)&&((rs[j]?).map (·.push)).getD false) || (j==c&&decide (c < i)&&((rs[i]?).map (·.push)).getD false))
theorem Zng{RS:List Rec}{rs:List TR}(h:RecsOk RS rs):RS.length=rs.length:=by
 induction h with
 |nil=>rfl
 |cons _ _ ih=>simp[ih]
theorem Zfk{RS:List Rec}{rs:List TR}(h:RecsOk RS rs):∀{i:Nat}{r:TR},rs[i]? =some r→∃R,RS[i]? =some R∧RecOk R r:=by
 induction h with
 |nil=>intro i r h;simp at h
 |cons h k ih=>
  intro i r hi
  cases i with
  |zero=>cases hi;exact⟨_,rfl,h⟩
  |succ i=>exact ih hi
theorem Zyk{RS:List Rec}{rs:List TR}(h:RecsOk RS rs):∀{i:Nat}{R:Rec},RS[i]? =some R→∃r,rs[i]? =some r∧RecOk R r:=by
 induction h with
 |nil=>intro i r h;simp at h
 |cons h k ih=>
  intro i r hi
  cases i with
  |zero=>cases hi;exact⟨_,rfl,h⟩
  |succ i=>exact ih hi
theorem ZtD{RS:List Rec}{rs:List TR}(h:RecsOk RS rs)(i:Nat):(RS.map (·.cls)).getD i 0≤(rs.map (·.cls)).getD i 0:=by
 simp only[ycw,yan]
 cases hi:rs[i]? with
 |none=>
  have:RS[i]? =none:=by rw[List.getElem?_eq_none_iff] at hi ⊢;rw[Zng h];exact hi
  rw[this]
  exact yl _
 |some r=>
  obtain⟨R,e,k⟩:=Zfk h hi;rw[e];exact k.1
theorem ZCq{ops:Array Oper}{RS:List Rec}{rs:List TR}(h:RecsOk RS rs)(k:ZwS ops (rs.map (·.cls)) (ZAb rs) (ZwT rs)=true)(hn:rs.length=ops.size):Zqx ops RS=true:=by
 unfold ZwS at k;unfold Zqx;simp only[yh] at k ⊢;obtain⟨⟨⟨⟨⟨k1,k2⟩,k3⟩,k4⟩,k5⟩,k6⟩:=k;refine⟨⟨⟨⟨⟨?_,k2⟩,k3⟩,k4⟩,k5⟩, ?_⟩
 ·simpa[Zng h] using k1
 ·have hcm:∃c,c∈yu (ops.toList.length+1)∧∀i j,ZwT rs i j=true→ZcW RS c i j=true:=by
   have hget:∀(k:Nat),((rs[k]?).map (·.push)).getD false=true→((RS[k]?).map (·.push)).getD false=true:=by
    intro k hk
    cases hr:rs[k]? with
    |none=>rw[hr] at hk;cases hk
    |some r=>
     obtain⟨R,e1,e2⟩:=Zfk h hr;rw[hr] at hk;rw[e1];exact e2.2.2.2.2.1 hk
   refine⟨if cI rs < rs.length then cI rs else 0, ?_,λi j hij=> ?_⟩
   ·rw[List.mem_range];split
    ·rename_i hlt;rw[hn] at hlt;have:ops.toList.length=ops.size:=by simp
     omega
    ·omega
   ·unfold ZwT at hij;dsimp only at hij;generalize cI rs=c at hij ⊢;rw[yh] at hij;obtain⟨h1,h2⟩:=hij
    cases hr:rs[c]? with
    |none=>rw[hr] at h1;cases h1
    |some r=>
     have hlt:=(yq.1 hr).1;rw[if_pos hlt];obtain⟨R,e1,e2⟩:=Zfk h hr;rw[hr] at h1;unfold ZcW;rw[yh];refine⟨?_, ?_⟩
     ·rw[e1];show cOk RS c R=true;have h1:cT rs c r=true:=h1;unfold cT at h1;unfold cOk;rw[yce] at h1 ⊢;rcases h1 with h1|h1
      ·exact .inl (e2.2.2.2.2.2.1 h1)
      ·simp only[yh,beq_iff_eq,ybb,decide_eq_true_eq] at h1 ⊢;obtain⟨⟨b1,b2⟩,b3⟩:=h1;refine .inr ⟨⟨e2.2.2.2.2.1 b1,by rw[e2.2.2.2.2.2.2.1,e2.2.2.2.1];exact b2⟩,λq hq=> ?_⟩;obtain⟨k,hk⟩:=List.mem_iff_getElem?.1 hq;rw[ycd] at hk;split at hk
       ·rename_i hkc;obtain⟨q2,f1,f2⟩:=Zyk h hk;rw[f2.2.2.2.1,e2.2.2.2.1];refine b3 q2 (List.mem_iff_getElem?.2 ⟨k, ?_⟩);rw[ycd,if_pos hkc];exact f1
       ·cases hk
     ·simp only[yce,yh] at h2 ⊢;rcases h2 with⟨⟨a1,a2⟩,a3⟩|⟨⟨a1,a2⟩,a3⟩
      ·exact .inl ⟨⟨a1,a2⟩,hget _ a3⟩
      ·exact .inr ⟨⟨a1,a2⟩,hget _ a3⟩
  obtain⟨c,hc1,hc2⟩:=hcm;rw[List.any_eq_true];refine⟨c,hc1, ?_⟩;rw[ybb] at k6 ⊢;intro i hi;have:=k6 i hi;have hc:=ZtD h i;simp only[yce] at this ⊢;rcases this with h0|h1
  ·left;have h0:(rs.map (·.cls)).getD i 0=0:=by simpa using h0
   have:(RS.map (·.cls)).getD i 0=0:=by omega
   simpa using this
  ·by_cases hz:(RS.map (·.cls)).getD i 0=0
   ·left;simpa using hz
   ·right;rw[ybb] at h1 ⊢;intro j hj;have h2:=h1 j hj;have hd:=ZtD h j;simp only[yce,yh,decide_eq_true_eq] at h2 ⊢;rcases h2 with(((h2|h2)|h2)|h2)|h2
    ·exact .inl (.inl (.inl (.inl h2)))
    ·refine .inl (.inl (.inl (.inr ?_)));have:(RS.map (·.cls)).getD j 0≠2:=by omega
     simpa using this
    ·exact .inl (.inl (.inr h2))
    ·refine .inl (.inr ⟨?_, ?_⟩)
     ·have:(RS.map (·.cls)).getD i 0=1:=by omega
      simpa using this
     ·have hf:=h2.2;unfold ZAb at hf;unfold Ze2;split at hf
      ·rename_i r q hr hq;obtain⟨R,e1,e2⟩:=Zfk h hr;obtain⟨Q,e3,e4⟩:=Zfk h hq;rw[e1,e3];dsimp only;split at hf
       ·rename_i id hrd;rw[e2.2.1,hrd];dsimp only;rw[e4.2.2.2.1,e2.2.2.2.1];rw[yh] at hf ⊢;refine⟨hf.1, ?_⟩;rw[yce] at hf ⊢;rcases hf.2 with h5|h5
        ·left;split at h5
         ·rename_i l htc;rw[e4.2.2.1 l htc];exact h5
         ·cases h5
        ·right;exact@decide_eq_true _ (Classical.propDecidable _) (e4.2.2.2.2.2.2.2 id h5)
       ·cases hf
      ·cases hf
    ·exact .inr (hc2 i j h2)
def ZAc:TEnt→TEnt
 |.var d _=>.var d false
 |e=>e
def ZjW(ids:List Nat)(H:List TEnt):List TEnt:=(yu H.length).zipWith (λi e=>if ids.contains i then ZAc e else e) H
theorem ZCr(e:TEnt):lkE (some (ZAc e))=lkE (some e):=by cases e <;> rfl
theorem Znh(ids:List Nat)(H:List TEnt)(i:Nat):(ZjW ids H)[i]? =(H[i]?).map λe=>if ids.contains i then ZAc e else e:=by
 unfold ZjW;rw[List.getElem?_zipWith];rcases ybt i H.length with h|h
 ·rw[List.getElem?_range h,yad h];rfl
 ·rw[yap (by simpa using h),yap h];rfl
theorem ZpW(ids:List Nat)(H:List TEnt):lk (ZjW ids H)=lk H:=by
 funext i;unfold lk;rw[Znh]
 cases H[i]? with
 |none=>rfl
 |some e=>
  show lkE (some (if ids.contains i=true then ZAc e else e))=_
  split
  ·exact ZCr e
  ·rfl
theorem Zyl(ids:List Nat)(H:List TEnt):WkH (erH H) (erH (ZjW ids H)):=by
 refine Zvm (by rw[Zv,Zv];unfold ZjW;simp) λi a b h1 h2=> ?_;unfold erH at h1 h2;rw[yan] at h1 h2;rw[ZpW,Znh] at h2
 cases he:H[i]? with
 |none=>rw[he] at h1;cases h1
 |some e=>
  rw[he] at h1 h2;cases h1;cases h2;show WkE (e.er (lk H)) (TEnt.er (lk H) (if ids.contains i=true then ZAc e else e))
  split
  ·cases e <;> first|exact .refl _|exact .frz
  ·exact .refl _
theorem ZAd{c:Code}{ts ts1:List Dv}{H0 H1 H2:List Ent}{ex:Ex}(h:WkH H0 H1)(r:Y6 P c ts H1 ex ts1 H2):Y6 P c ts H0 ex ts1 H2:=by
 intro σ a ok hH hrep;obtain⟨to,ok2⟩:=Zgy ok (H':=H1) (by rw[hH];exact h);refine wp_mono (r { σ with H:=H1} a ok2 rfl (hrep.to to.leaf)) ?_;rintro e a' w' ⟨rfl,σ2,q1,q2,q3,q4,q5⟩;exact⟨rfl,σ2,q1,q2,to.trans q3,q4,q5⟩
def ZAe(ops:List Oper)(all:List TD):Nat→Tmp→Option Nat
 |0,_=>none
 |n+1,x=>match ops.find? λo=>o.dst==some x with
  |some o=>match o.op with
   |.fieldAddr _ (.tmp y) _=>ZAe ops all n y
   |_=>none
  |none=>match all.getD x .junk with
   |.ref id _=>some id
   |_=>none
def ZFn(hi:HI)(ops:List Oper)(all:List TD)(o:Oper):Option Nat:=
 match o.op with
 |.slice _ (.tmp x) _ _ none=>if Zgq hi.frz o.dst then ZAe ops all 4 x else none
 |_=>none
def Zni(hi:HI)(ops:Array Oper)(all:List TD)(H:List TEnt):List TEnt:=
 match hi.frz with
 |[]=>H
 |_=>match ops.toList.filterMap (ZFn hi ops.toList all) with
  |[]=>H
  |ids=>ZjW ids H
theorem Zym(hi:HI)(ops:Array Oper)(all:List TD)(H:List TEnt):WkH (erH H) (erH (Zni hi ops all H))∧lk (Zni hi ops all H)=lk H:=by
 unfold Zni;split
 ·exact⟨WkH.refl _,rfl⟩
 ·split
  ·exact⟨WkH.refl _,rfl⟩
  ·exact⟨Zyl _ _,ZpW _ _⟩
def ZEh(P:yf)(hi:HI)(specs:Sp P)(ops:Array Oper)(all:List TD)(H:List TEnt)(K:List TD→List TEnt→Option O):Option O:=
 if P.follows .mixedOrders then ZwR P hi specs ops ops.toList all (Zni hi ops all H) λa h rs _=>if ZwS ops (rs.map (·.cls)) (ZAb rs) (ZwT rs)=true then K a h else none else none
theorem Zyn{hi:HI}{specs:Sp P}{ops:Array Oper}{K:List TD→List TEnt→Option O}(ok:SpOk specs)(h:ZEh P hi specs ops all H K=some out):∃a h,K a h=some out∧a.length=all.length∧∀id,Y6 P (.region id ops true) (TD.ers (lk H) all) (erH H) .normal (TD.ers (lk h) a) (erH h):=by
 unfold ZEh at h;split at h
 ·rename_i hf;obtain⟨w1,w2⟩:=Zym hi ops all H;generalize Zni hi ops all H=H0 at h w1 w2;obtain⟨a,h',rs,hs,C,k1,k0,k2,k3⟩:=Znf ok _ _ _ _ h;obtain⟨k4,k5⟩:=Za k1;refine⟨a,h',k5,k0,λid=> ?_⟩;obtain⟨RS,e1,e2⟩:=k3 [];rw[←w2];refine ZAd w1 (ZmL (hs:=hs) (hs':=[]) (C:=C) ?_ k2);simp only[ev,if_true];unfold Zqy;rw[if_pos hf];rw[ybk] at e1;rw[e1];dsimp only;rw[if_pos (ZCq e2 k4 (by have:=Zng e2;unfold ZwS at k4;simp only[yh] at k4;simpa using k4.1.1.1.1.1))];rfl
 ·cases h
theorem Zyo{hi:HI}{specs:Sp P}{ops:Array Oper}{K:List TD→List TEnt→List Hint→Option O}(ok:SpOk specs)(h:Zvr P hi specs ops ops.toList all H K=some out):∃a h hs,K a h hs=some out∧a.length=all.length∧∀id,Y6 P (.region id ops false) (TD.ers (lk H) all) (erH H) .normal (TD.ers (lk h) a) (erH h):=by
 obtain⟨a,h',hs,C,k1,k0,k2,k3⟩:=ZjV ok _ _ _ _ h;refine⟨a,h',hs,k1,k0,λid=> ?_⟩;refine ZmL (hs:=hs) (hs':=[]) (C:=C) ?_ k2;have:=k3 [];rw[ybk] at this;simp only[ev,ybv,if_false,this];rfl
end
end Go.Ev
end
section
namespace Go.Ev
section
variable{P:yf}{a:Act}{σ:Sg}{ts:List Dv}
theorem Znj{ops:Array Oper}(Q:Exit→Act→yy→Prop){ts':List Dv}(more:List Nat):∀(l:List Oper)(k:Nat)(ts:List Dv)(σ:Sg)(a:Act)(hs hs':List Hint)(C:List Prop)(H':List Ent),
 (∀(j:Nat)(x:Oper),l[j]? =some x→ops[k+j]? =some x)→Ok σ→RepT σ ts a→Zgx P ops l ts σ.H hs=some (C,ts',H',hs')→AllP C→
 (∀a' σ',σ'.H=H'→To σ σ'→Ok σ'→RepT σ' ts' a'→wpOps P ops Q more a' σ'.w)→wpOps P ops Q (List.range' k l.length++more) a σ.w
 |[],k,ts,σ,a,hs,hs',C,H',_,ok,hrep,h,hc,hQ=>by
  simp only[Zgx,yi,yj] at h;obtain⟨rfl,rfl,rfl,rfl⟩:=h
  exact hQ a σ rfl (To.refl σ) ok hrep
 |o::l,k,ts,σ,a,hs,hs',C,H',hl,ok,hrep,h,hc,hQ=>by
  simp only[Zgx] at h;split at h
  ·rename_i C1 d1 H1 hs1 h1;split at h
   ·rename_i C2 ts2 H2 hs2 h2;simp only[yi,yj] at h;obtain⟨rfl,rfl,rfl,rfl⟩:=h;obtain⟨c1,c2⟩:=Zj.1 hc;have h0:ops[k]? =some o:=by simpa using hl 0 o rfl
    simp only[yak,List.range'_succ,yaa,wpOps,h0]
    have key:=Zf8 (P:=P) (ops:=ops) ok hrep h1 c1 (wpOps P ops Q (List.range' (k+1) l.length++more)) Q (λv σ1 e1 to1 ok1 hrep1=>by
     subst e1
     exact Znj Q more l (k+1) _ σ1 _ hs1 _ C2 _ (λj x hx=>by have:=hl (j+1) x (by simpa using hx);simpa[ycf,Nat.add_comm 1 j] using this) ok1 hrep1 h2 c2
      (λa' σ' e2 to2 ok2 hrep2=>hQ a' σ' e2 (to1.trans to2) ok2 hrep2))
    by_cases hw:Region.wanted o (yielded ops a.tmps)=true
    ·rw[if_pos hw] at key ⊢;exact .inl key
    ·rw[if_neg hw] at key ⊢;exact key
   ·cases h
  ·cases h
theorem Zcy{ops:Array Oper}{Q:Exit→Act→yy→Prop}{i:Nat}{rest:List Nat}{o:Oper}{v:yg}{w w':yy}(g:ops[i]? =some o)(n:o.guard=none)(hx:(execOp a.eval o).run P w=.ok (.value v) w')
 (k:wpOps P ops Q rest (a.put o.dst v) w'):wpOps P ops Q (i::rest) a w:=by
 have hw:Region.wanted o (yielded ops a.tmps)=true:=by simp[Region.wanted,n]
 simp only[wpOps,g];rw[if_pos hw];refine .inl ?_;unfold Oper.wp;rw[hx];exact k
theorem Zvt{ops:Array Oper}{Q:Exit→Act→yy→Prop}{i:Nat}{rest:List Nat}{o:Oper}{w w':yy}(g:ops[i]? =some o)(n:o.guard=none)(hx:(execOp a.eval o).run P w=.ok .skip w')
 (k:wpOps P ops Q rest (a.put o.dst undef) w'):wpOps P ops Q (i::rest) a w:=by
 have hw:Region.wanted o (yielded ops a.tmps)=true:=by simp[Region.wanted,n]
 simp only[wpOps,g];rw[if_pos hw];refine .inl ?_;unfold Oper.wp;rw[hx];exact k
theorem ZiD{t:Nat}{v:yg}(h:t < a.tmps.size):(a.put (some t) v).eval (.tmp t)=v:=by
 show(a.tmps.setIfInBounds t v).getD t undef=v;simp[ycz,ycy,h]
theorem Zfl{t s:Nat}{v:yg}(h:s≠t):(a.put (some t) v).eval (.tmp s)=a.eval (.tmp s):=by
 show(a.tmps.setIfInBounds t v).getD s undef=a.tmps.getD s undef;simp[ycz,ycy,h,Ne.symm h]
theorem Zgi{σ':Sg}{t:Nat}{v:yg}(h:RepT σ' ts a):RepT σ' (ts.set t .junk) (a.put (some t) v):=
 Zbw (o:={ (default:Oper) with dst:=some t}) h YB
theorem ZCs{ops:Array Oper}{Q:Exit→Act→yy→Prop}{p t0 t1 t2 t3:Nat}{o1 o2 o3 o4 o5:Oper}(g1:ops[p]? =some o1)(g2:ops[p+1]? =some o2)(g3:ops[p+2]? =some o3)(g4:ops[p+3]? =some o4)(g5:ops[p+4]? =some o5)
 (n1:o1.guard=none) (n2:o2.guard=none) (n3:o3.guard=none) (n4:o4.guard=none) (n5:o5.guard=none) {t tt u t5 kt et e:ya} {m k y m5:ym} {c:Call} {id:Nat}
 (h1:o1.op=.mapEntry t m k) (d1:o1.dst=some t0) (h2:o2.op=.extract (.tmp t0) 0) (d2:o2.dst=some t1) (h3:o3.op=.call c) (hc:c.callee=.builtin .append) (ha:c.args.toList=[.tmp t1,y]) (hty:c.argTypes.toList=[tt,u]) (d3:o3.dst=some t2)
 (h4:o4.op=.extract (.tmp t0) 1) (d4:o4.dst=some t3) (h5:o5.op=.entryStore t5 m5 (.tmp t3) (.tmp t2)) (d5:o5.dst=none) (q01:t0≠t1) (q02:t0≠t2) (q23:t2≠t3) (l0:t0 < ts.length) (l1:t1 < ts.length) (l2:t2 < ts.length) (l3:t3 < ts.length)
 (ok:Ok σ) (hrep:RepT σ ts a) {kk:Pl} {tm:ya} {s0:Nat} {i:TypeInfo} {ys:List Pl} (hu:P.underlying t=some (.map kt et)) (hm:Zo P ts t m=.mp id) (hk:Zo P ts kt k=.p kk) (hH:σ.H[id]? =some (.map tm [])) (hkt:Zdh P kt=true) (hfit:fitP P 20 kt kk)
 (hzt:Zf3 P et=true) (hzd:Yg P et=.p (.sl (some false) s0 [])) (htt:P.underlying tt=some (.slice e)) (hi:P.info? e=some i) (hz:zOk i=true) (hne:i.size≠0)
 (hsrc:Zck P (P.cellsOf e) u (Zo P ((ts.set t0 .junk).set t1 .junk) u y)=some ys) (hb:ys.length*i.bytes≤Zn) (hmx:ys.length≤maxLen) (hm5:Zo P ((((ts.set t0 .junk).set t1 .junk).set t2 .junk).set t3 .junk) t5 m5=.mp id)
 (hQ:∀a' σ',σ'.H=σ.H.set id (.map tm [(kk,.sl none (P.cellsOf e) ys)])→To σ σ'→Ok σ'→RepT σ' ((((ts.set t0 .junk).set t1 .junk).set t2 .junk).set t3 .junk) a'→Q .normal a' σ'.w):wpOps P ops Q [p,p+1,p+2,p+3,p+4] a σ.w:=by
 have hmv:=Zi (P:=P) hrep t m;rw[hm] at hmv;obtain⟨b,hmb,hmv⟩:=Zhd hmv;have hkv:=Zi (P:=P) hrep kt k;rw[hk] at hkv;obtain⟨b',es,clock,e1,hbk,hkr,hbo⟩:=ok.ent id _ _ hH hmb;cases e1
 have hes:es= #[]:=by
  have:=ZjK _ _ (Zpv hkr);have h0:es.toList=[]:=ybh this;exact Array.toList_inj.1 h0
 subst hes;obtain⟨F,hF,hrunF⟩:=Qk (P:=P) hkt hfit hkv;have hchk:=Xq (em:=false) 20 kt kk _ hfit hkv 9980
 have hfind:(Instr.findKey kt (a.eval k) ([]:List MapEntry)).run P σ.w=.ok none σ.w:=by
  rcases ZmD (v:=kk) hF [] [] 0 [(kk,kk)] (Zpv hkr) (λq hq=>by cases hq) (by simp[WX]) with⟨j,e',_,f2,_⟩|⟨f1,_⟩
  ·simp at f2
  ·exact hrunF _ _ f1
 obtain⟨zv,hzv,hzr⟩:∃z,(zeroValue et).run P σ.w=.ok z σ.w∧repDV σ (Yg P et) z:=by
  unfold Zf3 at hzt;split at hzt
  ·rename_i i hi
   cases hzz:i.zero with
   |none=>simp[hzz] at hzt
   |some z=>
    refine⟨z,by simp[zeroValue,typeInfo,hi,hzz], ?_⟩;unfold Yg;rw[hi];simp only[hzz];exact XQ
  ·cases hzt
 rw[hzd] at hzr;have hzn:=Zku hzr;subst hzn;let en:MapEntry:={ key:=a.eval k,val:=.slice none 0 0,born:=clock};obtain⟨to1,ok1⟩:=Vq (es':= #[en]) (clock':=clock+1) ok hH hmb hbk (l:=[(kk,.sl (some false) s0 [])]) (Zpw ⟨hkv,hzr,ytt⟩) (Zf7 (es:= #[]) hbo rfl);let σ1:Sg:={ σ with m:=σ.m.set id (some b),H:=σ.H.set id (.map tm [(kk,.sl (some false) s0 [])]),w:={ σ.w with heap:=σ.w.heap.setIfInBounds b (.map #[en] (clock+1))}};have to1:To σ σ1:=to1;have ok1:Ok σ1:=ok1
 have x1:(execOp a.eval o1).run P σ.w=.ok (.value (.tuple #[.slice none 0 0,goInt clock])) σ1.w:=by
  have:(Instr.mapEntry t (a.eval m) (a.eval k)).run P σ.w=.ok (.tuple #[.slice none 0 0,goInt clock]) σ1.w:=by
   simp only[Instr.mapEntry,Sem.run_bind,run_underlying hu,Result.andThen_ok,hmv,Y7 hbk,hchk,hfind,hzv,Go.MapKept.run_setObj_map _ hbk,Sem.run_pure];rfl
  simp[execOp,h1,this]
 refine Zcy g1 n1 x1 ?_;rw[d1];have r1:RepT σ1 (ts.set t0 .junk) (a.put (some t0) (.tuple #[.slice none 0 0,goInt clock])):=Zgi (hrep.to to1.leaf);generalize ha1:a.put (some t0) (.tuple #[.slice none 0 0,goInt clock])=a1 at r1 ⊢;have ht0:t0 < a.tmps.size:=by rw[hrep.size];exact l0
 have v1:a1.eval (.tmp t0)=.tuple #[.slice none 0 0,goInt clock]:=by rw[←ha1];exact ZiD ht0
 have x2:(execOp a1.eval o2).run P σ1.w=.ok (.value (.slice none 0 0)) σ1.w:=by
  have:(Instr.extract (a1.eval (.tmp t0)) 0).run P σ1.w=.ok (.slice none 0 0) σ1.w:=by rw[v1];simp[Instr.extract]
  simp[execOp,h2,this]
 refine Zcy g2 n2 x2 ?_;rw[d2];have r2:RepT σ1 ((ts.set t0 .junk).set t1 .junk) (a1.put (some t1) (.slice none 0 0)):=Zgi r1;have s1:t1 < a1.tmps.size:=by rw[r1.size,yba];exact l1
 generalize ha2:a1.put (some t1) (.slice none 0 0)=a2 at r2 ⊢;have v2:a2.eval (.tmp t1)=.slice none 0 0:=by rw[←ha2];exact ZiD s1
 have v20:a2.eval (.tmp t0)=.tuple #[.slice none 0 0,goInt clock]:=by rw[←ha2,Zfl q01];exact v1
 have hce:P.cellsOf e=i.size:=by simp[Program.cellsOf,hi]
 have key:∃v3 w3,(execOp a2.eval o3).run P σ1.w=.ok (.value v3) w3∧To σ1 { σ1 with w:=w3}∧Ok { σ1 with w:=w3}∧w3.heap[b]? =some (.map #[en] (clock+1))∧repDV { σ1 with w:=w3} (.p (.sl none (P.cellsOf e) ys)) v3:=by
  obtain⟨gs1,gs2⟩:=Go.MapKept.heap_set (w:=σ.w) (o':=.map #[en] (clock+1)) hbk;rcases XX (P:=P) (ty:=o3.type) (u:=u) (y:=y) ok1 r2 htt hi hz hne (Vn (P:=P) r2 hsrc) hb hmx with⟨rfl,hrun⟩|⟨news,rest,hys,hall,hr,hge,hcm,hcs,hrun⟩
  ·exact⟨_,σ1.w,ZO h3 hc ha hty (by rw[v2];exact hrun),To.refl σ1,ok1,gs1,Z5 (λ_ hx=>by cases hx) (yl _) (by simp[maxLen]) (ZK _) (λ_=>rfl) (λh=>absurd rfl h)⟩
  ·have hg:=Yk σ1.w (.cells (news.toArray++rest) e) none;obtain⟨to,ok'⟩:=Zf4 ok1 hg;have hlen:news.length=ys.length*i.size:=by rw[repCs_size _ _ hr,sizes_all hall]
   have hlt:b < σ1.w.heap.size:=ok1.lt id b (getElem?_set_eq' hmb);refine⟨_,_,ZO h3 hc ha hty (by rw[v2];exact hrun),to,ok',(hg.block b hlt (by simp)).trans gs1, ?_⟩;rw[hce];exact Zmr (ZK _) ok' hall (repCs_mono to.leaf.cells _ _ hr) (b:=σ1.w.heap.size) (cells:=news) (heap_alloc_new σ1.w.drew _) (ok1.new _ (yl _)) (ZaT ok1) (by simp) hge hcm
 obtain⟨v3,w3,x3,to3,ok3,hb3,hv3⟩:=key;refine Zcy g3 n3 x3 ?_;rw[d3];let σ3:Sg:={ σ1 with w:=w3};have r3:RepT σ3 (((ts.set t0 .junk).set t1 .junk).set t2 .junk) (a2.put (some t2) v3):=Zgi (r2.to to3.leaf);have s2:t2 < a2.tmps.size:=by rw[r2.size,yba,yba];exact l2
 generalize ha3:a2.put (some t2) v3=a3 at r3 ⊢;have v30:a3.eval (.tmp t0)=.tuple #[.slice none 0 0,goInt clock]:=by rw[←ha3,Zfl q02];exact v20
 have v32:a3.eval (.tmp t2)=v3:=by rw[←ha3];exact ZiD s2
 have x4:(execOp a3.eval o4).run P w3=.ok (.value (goInt clock)) w3:=by
  have:(Instr.extract (a3.eval (.tmp t0)) 1).run P w3=.ok (goInt clock) w3:=by rw[v30];simp[Instr.extract]
  simp[execOp,h4,this]
 refine Zcy g4 n4 x4 ?_;rw[d4];have r4:RepT σ3 ((((ts.set t0 .junk).set t1 .junk).set t2 .junk).set t3 .junk) (a3.put (some t3) (goInt clock)):=Zgi r3;have s3:t3 < a3.tmps.size:=by rw[r3.size,yba,yba,yba];exact l3
 generalize ha4:a3.put (some t3) (goInt clock)=a4 at r4 ⊢;have v43:a4.eval (.tmp t3)=goInt clock:=by rw[←ha4];exact ZiD s3
 have v42:a4.eval (.tmp t2)=v3:=by rw[←ha4,Zfl q23];exact v32
 have hm5v:=Zi (P:=P) r4 t5 m5;rw[hm5] at hm5v;obtain⟨b5,hmb5,hm5v⟩:=Zhd hm5v;have hmb1:σ3.m[id]? =some (some b):=getElem?_set_eq' hmb;rw[hmb1] at hmb5;cases hmb5;have hH3:σ3.H[id]? =some (.map tm [(kk,.sl (some false) s0 [])]):=getElem?_set_eq' hH;let en5:MapEntry:={ key:=a.eval k,val:=v3,born:=clock};obtain⟨to5,ok5⟩:=Vq (es':= #[en5]) (clock':=clock+1) ok3 hH3 hmb1 hb3 (l:=[(kk,.sl none (P.cellsOf e) ys)]) (Zpw ⟨XM to3.leaf (XM to1.leaf hkv),hv3,ytt⟩) (Zf7 (es:= #[]) hbo rfl)
 have x5:(execOp a4.eval o5).run P w3=.ok .skip { w3 with heap:=w3.heap.setIfInBounds b (.map #[en5] (clock+1))}:=by
  have hmod:(#[en].modify 0 λe=>{ e with val:=v3})= #[en5]:=by
   apply Array.ext';simp[en,en5,Array.toList_modify]
  have hfi:(#[en].findIdx? λe=>(e.born:Int)==(clock:Int))=some 0:=by
   simp[Array.findIdx?,Array.findIdx?.loop,en]
  have:(Instr.entryStore t5 (a4.eval m5) (a4.eval (.tmp t3)) (a4.eval (.tmp t2))).run P w3=.ok () { w3 with heap:=w3.heap.setIfInBounds b (.map #[en5] (clock+1))}:=by
   rw[hm5v,v43,v42];simp only[Instr.entryStore,goInt,asInt,asIntOf,Sem.run_bind,Y7 hb3,Result.andThen_ok,Sem.run_pure,hfi,hmod,Go.MapKept.run_setObj_map _ hb3]
  simp[execOp,h5,this]
 refine Zvt g5 n5 x5 ?_;rw[d5];refine hQ a4 _ ?_ (to1.trans (to3.trans to5)) ok5 (r4.to to5.leaf);show(σ.H.set id (.map tm [(kk,.sl (some false) s0 [])])).set id (.map tm [(kk,.sl none (P.cellsOf e) ys)])=_;rw[List.set_set]
end
end Go.Ev
end
section
namespace Go.Ev
section
variable{P:yf}{all:List TD}{H:List TEnt}{O:Type}{out:O}
def ZCt(o:Oper):Option (ya×ym×ym×Tmp):=
 match o.op,o.dst,o.guard with
 |.mapEntry t m k,some d,none=>some (t,m,k,d)
 |_,_,_=>none
theorem Zyp{o:Oper}{q:ya×ym×ym×Tmp}(h:ZCt o=some q):o.op=.mapEntry q.1 q.2.1 q.2.2.1∧o.dst=some q.2.2.2∧o.guard=none:=by
 unfold ZCt at h;split at h
 ·rename_i h1 h2 h3;cases h;exact⟨h1,h2,h3⟩
 ·cases h
def ZCu(o:Oper)(t n:Nat):Option Tmp:=
 match o.op,o.dst,o.guard with
 |.extract (.tmp x) m,some d,none=>if(decide (x=t)&&decide (m=n))=true then some d else none
 |_,_,_=>none
theorem ZpX{o:Oper}{t n:Nat}{q:Tmp}(h:ZCu o t n=some q):o.op=.extract (.tmp t) n∧o.dst=some q∧o.guard=none:=by
 unfold ZCu at h;split at h
 ·rename_i h1 h2 h3;obtain⟨h4,h9⟩:=Za h;clear h;simp only[yh,decide_eq_true_eq] at h4;obtain⟨rfl,rfl⟩:=h4;cases h9;exact⟨h1,h2,h3⟩
 ·cases h
structure ApO where
 c:Call
 y:ym
 t:ya
 u:ya
 d:Tmp
def ZEi(o:Oper)(t:Nat):Option ApO:=
 match o.op,o.dst,o.guard with
 |.call c,some d,none=>match c.callee with
  |.builtin .append=>match c.args.toList,c.argTypes.toList with
   |[.tmp x,y],[tt,u]=>if decide (x=t)=true then some ⟨c,y,tt,u,d⟩ else none
   |_,_=>none
  |_=>none
 |_,_,_=>none
theorem Zyq{o:Oper}{t:Nat}{q:ApO}(h:ZEi o t=some q):o.op=.call q.c∧q.c.callee=.builtin .append∧q.c.args.toList=[.tmp t,q.y]∧q.c.argTypes.toList=[q.t,q.u]∧o.dst=some q.d∧o.guard=none:=by
 unfold ZEi at h;split at h
 ·rename_i h1 h2 h3;split at h
  ·rename_i h4;split at h
   ·rename_i h5 h6;obtain⟨h7,h9⟩:=Za h;clear h;have h7:=of_decide_eq_true h7;subst h7;cases h9;exact⟨h1,h4,h5,h6,h2,h3⟩
   ·cases h
  ·cases h
 ·cases h
def ZEj(o:Oper)(s v:Nat):Option (ya×ym):=
 match o.op,o.dst,o.guard with
 |.entryStore t m (.tmp x) (.tmp y),none,none=>if(decide (x=s)&&decide (y=v))=true then some (t,m) else none
 |_,_,_=>none
theorem Zyr{o:Oper}{s v:Nat}{q:ya×ym}(h:ZEj o s v=some q):o.op=.entryStore q.1 q.2 (.tmp s) (.tmp v)∧o.dst=none∧o.guard=none:=by
 unfold ZEj at h;split at h
 ·rename_i h1 h2 h3;obtain⟨h4,h9⟩:=Za h;clear h;simp only[yh,decide_eq_true_eq] at h4;obtain⟨rfl,rfl⟩:=h4;cases h9;exact⟨h1,h2,h3⟩
 ·cases h
def ZFo(P:yf)(t:ya)(m k:ym)(tt u:ya)(y:ym)(t5:ya)(m5:ym)(all all3 all5:List TD)(H:List TEnt)(K:List TEnt→Option O):Option O:=
 match P.underlying t,arT P all t m,arT P all5 t5 m5,P.underlying tt with
 |some (.map kt et),some (.mp id),some (.mp id'),some (.slice e)=>(ZmY H id).bind λme=>(arT P all kt k).bind λkd=>(Zs9 kd me.k).bind λkey=>(ZkF P et).bind λz=>
  match z with
  |.sl (some false) _ []=>(P.info? e).bind λi=>(Zd2 P tyD e).bind λT=>(arT P all3 u y).bind λyd=>(ZqP (lk H) P T u yd).bind λys=>(TP.to ZcZ (.v (.sl T) ys) me.v).bind λv=>
   if(decide (id=id')&&me.l.isEmpty&&ZgC P kt me.k&&Zf3 P et&&zOk i&&decide (i.size≠0)&&decide (P.cellsOf e=T.size)&&Zs0 ys.length i.bytes)=true then
    K (H.set id (.map me.tid me.k me.v [(key,v)])) else none
  |_=>none
 |_,_,_,_=>none
def ZwU(P:yf)(l:List Oper)(all:List TD)(H:List TEnt)(K:List TD→List TEnt→Option O):Option O:=
 match l with
 |[o1,o2,o3,o4,o5]=>(ZCt o1).bind λq1=>(ZCu o2 q1.2.2.2 0).bind λt1=>(ZEi o3 t1).bind λq3=>(ZCu o4 q1.2.2.2 1).bind λt3=>(ZEj o5 t3 q3.d).bind λq5=>
  if(decide (q1.2.2.2≠t1)&&decide (q1.2.2.2≠q3.d)&&decide (q3.d≠t3)&&decide (q1.2.2.2 < all.length)&&decide (t1 < all.length)&&decide (q3.d < all.length)&&decide (t3 < all.length))=true then
   ZFo P q1.1 q1.2.1 q1.2.2.1 q3.t q3.u q3.y q5.1 q5.2 all ((all.set q1.2.2.2 .junk).set t1 .junk) ((((all.set q1.2.2.2 .junk).set t1 .junk).set q3.d .junk).set t3 .junk) H
    (K ((((all.set q1.2.2.2 .junk).set t1 .junk).set q3.d .junk).set t3 .junk))
  else none
 |_=>none
theorem QM{L:Lk}(l:List TD)(i:Nat)(d:TD):TD.ers L (l.set i d)=(TD.ers L l).set i (d.er L):=by rw[Zs,Zs,ybg]
theorem Zvu{ops:Array Oper}{l:List Oper}{p:Nat}{K:List TD→List TEnt→Option O}(hops:∀(j:Nat)(x:Oper),l[j]? =some x→ops[p+j]? =some x)(h:ZwU P l all H K=some out):
 ∃a H',K a H'=some out∧a.length=all.length∧l.length=5∧∀(Q:Exit→Act→yy→Prop)(act:Act)(σ:Sg),Ok σ→σ.H=erH H→RepT σ (TD.ers (lk H) all) act→
  (∀a' σ',σ'.H=erH H'→To σ σ'→Ok σ'→RepT σ' (TD.ers (lk H') a) a'→Q .normal a' σ'.w)→wpOps P ops Q (List.range' p 5) act σ.w:=by
 unfold ZwU at h;split at h
 ·rename_i o1 o2 o3 o4 o5;obtain⟨⟨t,m,k,t0⟩,h1,h⟩:=yc.1 h;obtain⟨t1,h2,h⟩:=yc.1 h;obtain⟨⟨c,y,tt,u,t2⟩,h3,h⟩:=yc.1 h;obtain⟨t3,h4,h⟩:=yc.1 h;obtain⟨⟨t5,m5⟩,h5,h⟩:=yc.1 h;obtain⟨hq,h⟩:=Za h;obtain⟨a1,a2,a3⟩:=Zyp h1;obtain⟨b1,b2,b3⟩:=ZpX h2;obtain⟨c1,c2,c3,c4,c5,c6⟩:=Zyq h3;obtain⟨d1,d2,d3⟩:=ZpX h4;obtain⟨e1,e2,e3⟩:=Zyr h5;simp only[yh,decide_eq_true_eq] at hq;obtain⟨⟨⟨⟨⟨⟨q1,q2⟩,q3⟩,q4⟩,q5⟩,q6⟩,q7⟩:=hq;dsimp only at h a1 a2 b1 c1 c2 c3 c4 c5 d1 e1 q1 q2 q3 q4 q5 q6 q7;unfold ZFo at h;split at h
  ·rename_i kt et id id' e hu hm hm5 htt;obtain⟨me,f1,h⟩:=yc.1 h;obtain⟨kd,f2,h⟩:=yc.1 h;obtain⟨key,f3,h⟩:=yc.1 h;obtain⟨z,f4,h⟩:=yc.1 h;split at h
   ·rename_i zt;obtain⟨i,f5,h⟩:=yc.1 h;obtain⟨T,f6,h⟩:=yc.1 h;obtain⟨yd,f7,h⟩:=yc.1 h;obtain⟨ys,f8,h⟩:=yc.1 h;obtain⟨v,f9,h⟩:=yc.1 h;obtain⟨f10,h99⟩:=Za h;clear h;simp only[yh,decide_eq_true_eq] at f10;obtain⟨⟨⟨⟨⟨⟨⟨r1,r2⟩,r3⟩,r4⟩,r5⟩,r6⟩,r7⟩,r8⟩:=f10;subst r1;obtain⟨g1,g2⟩:=Qn f1;have hle:=List.isEmpty_iff.1 r2;have hlk:lk (H.set id (.map me.tid me.k me.v [(key,v)]))=lk H:=Xw g1 rfl rfl;have hv:Pl.sl none T.size (ys.map T.enc)=me.v.enc v:=Zdq _ _ _ f9;refine⟨_,_,h99,by simp,rfl,λQ act σ ok hH hrep hQ=> ?_⟩;have hk:=Zm (L:=lk H) f2;rw[Zfh f3] at hk;have hmm:=Zm (L:=lk H) hm;rw[TD.er] at hmm;have hm5':=Zm (L:=lk H) hm5;rw[TD.er] at hm5';have hy:=Zm (L:=lk H) f7;rw[hle] at g2;obtain⟨s1,s2⟩:=WZ r8
    refine ZCs (P:=P) (σ:=σ) (ts:=TD.ers (lk H) all) (a:=act) (Q:=Q) (p:=p) (o1:=o1) (o2:=o2) (o3:=o3) (o4:=o4) (o5:=o5) (by simpa using hops 0 o1 rfl) (hops 1 o2 rfl) (hops 2 o3 rfl) (hops 3 o4 rfl) (hops 4 o5 rfl)
     a3 b3 c6 d3 e3 a1 a2 b1 b2 c1 c2 c3 c4 c5 d1 d2 e1 e2 q1 q2 q3 (by rw[Zcs];exact q4) (by rw[Zcs];exact q5) (by rw[Zcs];exact q6) (by rw[Zcs];exact q7)
     ok hrep (kk:=me.k.enc key) (tm:=me.tid) (s0:=zt.size) (ys:=ys.map T.enc) (i:=i) hu hmm hk (by rw[hH];exact g2) (ZjS r3) (VL r3 key) r4 (Zdu f4) htt f5 r5 r6 ?_ (by rw[yx];exact s1) (by rw[yx];exact s2) ?_ ?_
    ·rw[QM,QM] at hy;rw[r7];rw[show(Dv.junk)=TD.er (lk H) .junk from rfl,hy]
     exact Zd4 f8
    ·rw[QM,QM,QM,QM] at hm5';exact hm5'
    ·intro a' σ' w1 w2 w3 w4;refine hQ a' σ' ?_ w2 w3 ?_
     ·rw[Yd hlk,w1,hH,r7,hv];rfl
     ·rw[hlk,QM,QM,QM,QM];exact w4
   ·cases h
  ·cases h
 ·cases h
def ZEk(ops:Array Oper):Bool:=
 match ops.toList.drop (ops.size - 5) with
 |[o1,_,_,_,_]=>(ZCt o1).isSome
 |_=>false
theorem Zys{hi:HI}{specs:Sp P}{ops:Array Oper}{K:List TD→List TEnt→Option O}(ok:SpOk specs)
 (h:Zvr P hi specs ops (ops.toList.take (ops.size - 5)) all H (λa h _=>ZwU P (ops.toList.drop (ops.size - 5)) a h K)=some out):
 ∃a h,K a h=some out∧a.length=all.length∧∀id,Y6 P (.region id ops false) (TD.ers (lk H) all) (erH H) .normal (TD.ers (lk h) a) (erH h):=by
 obtain⟨a,h',hs,C,k1,k0,k2,k3⟩:=ZjV ok _ _ _ _ h
 have hops:∀(j:Nat)(x:Oper),(ops.toList.drop (ops.size - 5))[j]? =some x→ops[(ops.size - 5)+j]? =some x:=λj x hj=>by
  rw[List.getElem?_drop] at hj;simpa using hj
 obtain⟨a2,h2,j1,j2,j3,j4⟩:=Zvu hops k1;refine⟨a2,h2,j1,by rw[j2,k0],λid=> ?_⟩;intro σ act okσ hH hrep;refine wp_region ?_;have e0:=k3 [];rw[ybk] at e0
 have hl:ops.size=(ops.size - 5)+5:=by
  rw[List.length_drop,Array.length_toList] at j3;omega
 have hr:yu ops.size=List.range' 0 (ops.toList.take (ops.size - 5)).length++List.range' (ops.size - 5) 5:=by
  rw[List.length_take,Array.length_toList,Nat.min_eq_left (by omega),List.range_eq_range']
  conv=>lhs;rw[hl]
  have:=List.range'_append (s:=0) (m:=ops.size - 5) (n:=5) (step:=1);simp only[yay,Nat.one_mul] at this;exact this.symm
 rw[hr];refine Znj (P:=P) (ops:=ops) _ (List.range' (ops.size - 5) 5) _ 0 _ σ act hs [] C _ (λj x hj=> ?_) okσ hrep (by rw[hH];exact e0) k2 ?_
 ·rw[ycd] at hj;split at hj
  ·simpa using hj
  ·cases hj
 ·intro a' σ' e1 to1 ok1 hrep1;refine j4 _ a' σ' ok1 e1 hrep1 λa'' σ'' e2 to2 ok2 hrep2=> ?_;exact⟨rfl,σ'',rfl,e2,to1.trans to2,ok2,hrep2⟩
end
end Go.Ev
end
section
namespace Go.Ev
def Yz(H H':List Ent):Prop:=∀σ:Sg,Ok σ→σ.H=H→∃σ':Sg,σ'.w=σ.w∧σ'.H=H'∧To σ σ'∧Ok σ'
theorem Yz.refl(H:List Ent):Yz H H:=λσ ok h=>⟨σ,rfl,h,To.refl σ,ok⟩
theorem Yz.trans{A B C:List Ent}(h:Yz A B)(k:Yz B C):Yz A C:=λσ ok e=>by
 obtain⟨σ1,a1,a2,a3,a4⟩:=h σ ok e;obtain⟨σ2,b1,b2,b3,b4⟩:=k σ1 a4 a2;exact⟨σ2,b1.trans a1,b2,a3.trans b3,b4⟩
theorem ZwV{H H':List Ent}(h:WkH H H'):Yz H H':=λσ ok e=>by
 subst e;obtain⟨to,ok'⟩:=Zgy ok h;exact⟨{ σ with H:=H'},rfl,rfl,to,ok'⟩
theorem ZCv{P:yf}{c:Code}{ts ts1 ts2:List Dv}{H H1 H2:List Ent}{ex:Ex}(h:Yz H H1∧∀(σ:Sg)(a:Act),RepT σ ts a→RepT σ ts1 a)(r:Y6 P c ts1 H1 ex ts2 H2):Y6 P c ts H ex ts2 H2:=by
 intro σ a ok hH hrep;obtain⟨σ1,e1,e2,e3,e4⟩:=h.1 σ ok hH;have:=r σ1 a e4 e2 (h.2 _ _ (hrep.to e3.leaf));rw[e1] at this;refine wp_mono this ?_;rintro e' a' w' ⟨rfl,σ2,q1,q2,q3,q4,q5⟩;exact⟨rfl,σ2,q1,q2,e3.trans q3,q4,q5⟩
theorem Zvv{H:List Ent}{j:Nat}{x x' y:Ent}(hj:H[j]? =some x)
 (hy:∀σ:Sg,entOk σ none y)
 (hvar:(∃d st,x=.var d st)→∃d st,x'=.var d st) (hmap:(∃t kvs,x=.map t kvs)→∃t kvs,x'=.map t kvs) (hlog:∀s e xs,x≠ .log s e xs)
 (hunl:∀o,x.unlocked o→x'.unlocked o)
 (hrow:∀v s st e d,x=.row v s st e d→∃st' d',x'=.row v s st' e d')
 (hent:∀(σ:Sg)(mi:Option Nat),σ.H[H.length]? =some y→σ.m[H.length]? =some none→entOk σ mi x→entOk σ mi x'):Yz H ((H++[y]).set j x'):=by
 intro σ ok hH;subst hH;have hjl:j < σ.H.length:=(yq.1 hj).1;obtain⟨to1,ok1⟩:=Xp (σ':={ σ with m:=σ.m++[none],H:=σ.H++[y]}) ok rfl rfl rfl rfl (World.grownBy.refl σ.w none) (.inl rfl) (λ_=>hy _);obtain⟨mi,hm⟩:∃mi,σ.m[j]? =some mi:=⟨_,yad (by rw[ok.len];exact hjl)⟩;let σ1:Sg:={ σ with m:=σ.m++[none],H:=σ.H++[y]};let σ2:Sg:={ σ1 with m:=σ1.m.set j mi,H:=σ1.H.set j x'}
 have hH1:σ1.H[j]? =some x:=by
  show(σ.H++[y])[j]? =_;rw[yal hjl];exact hj
 have hm1:σ1.m[j]? =some mi:=by
  show(σ.m++[none])[j]? =_;rw[yal (by rw[ok.len];exact hjl)];exact hm
 have hx:=ok1.ent j x mi hH1 hm1
 obtain⟨to2,ok2⟩:=YA (σ':=σ2) (mi:=mi) (mi':=mi) ok1 hH1 hm1 rfl rfl rfl rfl rfl rfl rfl (yl _)
  (λ_ _ _=>rfl) (λ_ _ _ _ _ h=>h) (λo _ hu=>hunl o hu) (.inl rfl) (λq=>⟨rfl,hvar q⟩) (λq=>⟨rfl,hmap q⟩) (λs e xs q=>absurd q (hlog s e xs))
  (λleaf=>by
    refine hent σ2 mi ?_ ?_ (Qg leaf (λb _=>rfl) hx)
    ·show(σ1.H.set j _)[σ.H.length]? =_;rw[ybn,if_neg (by omega)];simp[σ1]
    ·show(σ1.m.set j _)[σ.H.length]? =_;rw[ybn,if_neg (by omega)];show(σ.m++[none])[σ.H.length]? =_;rw[yaq (by rw[ok.len];exact yl _),ok.len];simp)
  (λv s st e d q=>by
    obtain⟨st',d',q'⟩:=hrow v s st e d q;exact⟨v,st',d',q',yl _,λ_=>⟨rfl,λb cur _ hc=>⟨cur,hc,rfl⟩⟩⟩)
 exact⟨σ2,rfl,rfl,to1.trans to2,ok2⟩
theorem ZjX{σ:Sg}{s:Nat}{a:List yg}(h:repD σ (.p (.sl (some false) s [])) a):a=[.slice none 0 0]:=by
 simp only[repD,repC] at h;obtain⟨_,A,c,rfl,w1,w2,w3,w4,w5⟩:=h
 have hA:A=none:=by
  have:=w3 false rfl
  cases A with
  |none=>rfl
  |some _=>cases this
 subst hA;have hc:=w4 rfl;subst hc;rfl
theorem ZwW{H:List Ent}{j s:Nat}{e:ya}{d d':Dv}{st:Bool}{path:List Nat}(hj:H[j]? =some (.var d st))(hg:Yp d path s (.rv H.length 0 s 0 0)=some d'):
 Yz H ((H++[Ent.row 0 s true e (.p (.arr 0 s []))]).set j (.var d' st)):=by
 have hsz:=WI path d d' s _ rfl hg;refine Zvv hj (λσ=>⟨0,by simp[rowN],.inl ⟨rfl,rfl⟩⟩) (λ_=>⟨_,_,rfl⟩) (λ⟨_,_,q⟩=>by cases q) (λ_ _ _ q=>by cases q) (λo hu=>hu) (λ_ _ _ _ _ q=>by cases q) ?_;rintro σ mi h1 h2 ⟨b,cs,t,rfl,q2,q3,q4⟩;refine⟨b,cs,t,rfl,q2, ?_,by rw[hsz];exact q4⟩;rw[hsz];refine Vr path d d' s _ (λa ha=> ?_) hg _ q3;have:=ZjX ha;subst this;simp only[repD];exact⟨none,0,rfl,yl _,by simp[maxLen],λ_=>rfl,λh=>absurd h (Nat.lt_irrefl 0),0,s,true,e,_,h1,yl _,λ_=>⟨rfl,.inl ⟨h2,rfl,rfl⟩⟩⟩
theorem ZAf{H:List Ent}{j s s' v N:Nat}{st:Bool}{e e':ya}{xs:List Pl}{k:Nat}{x:Pl}{y:Dv}{path:List Nat}(hj:H[j]? =some (.row v s st e (.p (.arr N s xs))))(hx:xs[k]? =some x)
 (hg:Yp (.p x) path s' (.own H.length none s' [])=some y):Yz H ((H++[Ent.log s' e' []]).set j (.row v s st e (.arr N s ((xs.map .p).set k y)))):=by
 have hsz:=WI path (.p x) y s' _ rfl hg;refine Zvv hj (λσ=>.inl ⟨rfl,rfl⟩) (λ⟨_,_,q⟩=>by cases q) (λ⟨_,_,q⟩=>by cases q) (λ_ _ _ q=>by cases q) (λo hu=> ?_) (λv2 s2 st2 e2 d2 q=>by cases q;exact⟨_,_,rfl⟩) ?_
 ·obtain⟨u1,N',u2,u3⟩:=hu;exact⟨u1,N',by rw[←u2];simp[rowN],u3⟩
 rintro σ mi h1 h2 ⟨N',q1,q2⟩;refine⟨N',by rw[←q1];simp[rowN], ?_⟩;rcases q2 with q2|⟨b,cur,cap,e3,e4,e5,e6,e7,e8⟩
 ·exact .inl q2
 refine .inr ⟨b,cur,cap,e3,e4,e5,e6,e7, ?_⟩;have hk:(xs.map Dv.p)[k]? =some (.p x):=by rw[yan,hx];rfl
 simp only[repD,repC] at e8 ⊢;obtain⟨r1,r2,r3⟩:=e8;refine⟨by simpa using r1,λz hz=> ?_, ?_⟩
 ·rcases List.mem_or_eq_of_mem_set hz with hz|hz
  ·obtain⟨w,hw,rfl⟩:=ybq.1 hz;exact r2 w hw
  ·subst hz;rw[hsz];exact r2 x (ybw hx)
 ·refine Zdn (x:=.p x) (y:=y) (λa ha=>Vr path (.p x) y s' _ (λa ha=> ?_) hg a ha) _ k _ hk (ZaQ.2 r3);have:=ZjX ha;subst this;simp only[repD];exact⟨λ_ hx=>(by cases hx),none,0,rfl,yl _,by simp[maxLen],ZK _,λ_=>rfl,λh=>absurd rfl h,e',[],h1,yl _,λ_=>.inl ⟨h2,rfl,rfl⟩⟩
theorem ZCw{H:List Ent}{j:Nat}{d d':Dv}{st:Bool}(hj:H[j]? =some (.var d st))(hsz:d'.size=d.size)(hd:∀σ:Sg,Ok σ→σ.H=H→∀us,repD σ d us→repD σ d' us):Yz H (H.set j (.var d' st)):=by
 intro σ ok hH;subst hH;have hjl:j < σ.H.length:=(yq.1 hj).1;obtain⟨mi,hm⟩:∃mi,σ.m[j]? =some mi:=⟨_,yad (by rw[ok.len];exact hjl)⟩;let σ2:Sg:={ σ with m:=σ.m.set j mi,H:=σ.H.set j (.var d' st)};obtain⟨b,cs,t,rfl,q2,q3,q4⟩:=ok.ent j _ mi hj hm;have q5:=hd σ ok rfl _ q3
 obtain⟨to2,ok2⟩:=YA (σ':=σ2) (mi:=some b) (mi':=some b) ok hj hm rfl rfl rfl rfl rfl rfl rfl (yl _)
  (λ_ _ _=>rfl) (λ_ _ _ _ _ h=>h) (λo _ hu=>hu) (.inl rfl) (λq=>⟨rfl,_,_,rfl⟩) (λ⟨_,_,q⟩=>by cases q) (λs e xs q=>by cases q)
  (λleaf=>⟨b,cs,t,rfl,q2,by rw[hsz];exact ZP leaf _ _ q5,by rw[hsz];exact q4⟩)
  (λv s st e d q=>by cases q)
 exact⟨σ2,rfl,rfl,to2,ok2⟩
def ZEl{α O:Type}(l:List α)(f:α→List α→Option O):Option O:=match l with
 |x::r=>f x r
 |[]=>none
inductive GOp where
 |rows (t:Tmp) (path:List Nat) (T:Ty) (e:ya) (np:List Nat)
 |focus (t:Tmp) (U:Ty) (e:ya)
 |done (t:Tmp)
 |fresh (t:Tmp) (i:Nat)
 |rowt (t:Tmp) (path:List Nat) (T:Ty) (e:ya)
 |freshS (t:Tmp)
 |freshV (t:Tmp)
 |freshDone (t:Tmp) (i:Nat)
 |any (t:Tmp) (i:Nat) (T:Ty)
 |melt (t:Tmp)
 |split (t:Tmp) (ks:List Nat)
 |nn (t:Tmp)
 |hole
 |flat (t:Tmp)
 |nilr (path:List Nat) (U:Ty) (e:ya)
def ZAg:TEnt→Bool
 |.rowN _ _ _ true _ _ _=>true
 |_=>false
section
variable{O:Type}{out:O}
abbrev Kh(O:Type):=List TD→List TEnt→Option O
def Zvw(t:Tmp)(path:List Nat)(T:Ty)(e:ya)(np:List Nat)(a:List TD)(h:List TEnt)(K:Kh O):Option O:=
 match a[t]? with
 |some (.ref id [])=>match h[id]? with
  |some (.var d true)=>(Zan T (.rw h.length) path d).bind λd'=>if(TD.frees h.length a&&h.all (TEnt.free h.length))=true then K a ((h++[TEnt.rowN T np [] true e [] []]).set id (.var d' true)) else none
  |_=>none
 |_=>none
def Zvx(t:Tmp)(path:List Nat)(T:Ty)(e:ya)(a:List TD)(h:List TEnt)(K:Kh O):Option O:=
 match a[t]? with
 |some (.ref id [])=>match h[id]? with
  |some (.var d true)=>(Zan T (.rw h.length) path d).bind λd'=>if(TD.frees h.length a&&h.all (TEnt.free h.length))=true then K a ((h++[TEnt.rowT T [] true e []]).set id (.var d' true)) else none
  |_=>none
 |_=>none
def Zrz(t:Tmp)(U:Ty)(e:ya)(a:List TD)(h:List TEnt)(K:Kh O):Option O:=
 let j:=h.findIdx ZAg
 match h[j]?,((a[t]?).bind TD.num) with
 |some (.rowN T np v true e' pre post),some i=>if(TD.frees h.length a&&h.all (TEnt.free h.length))=true then if decide (i.n=(pre.length:Int))=true then ZEl post λx r=>
   (Zan U (.own h.length none U none) np (.p (YD np (.v T x)))).bind λd=>K a ((h++[TEnt.log U e []]).set j (.rowM T np v true e' pre d r)) else none else none
 |_,_=>none
def ZtE(h:List TEnt):TD→Option (TD×List Nat)
 |.rw j=>match h[j]? with
  |some (.rowN T _ _ _ _ pre [])=>some (.p (.sl none T pre),[j])
  |some (.rowT T _ _ _ l)=>some (.p (.sl none T l),[j])
  |_=>none
 |d=>some (d,[])
def ZAh(h:List TEnt):TD→(TD→List Nat→Option O)→Option O
 |.rw j,K=>match h[j]? with
  |some (.rowN T _ _ _ _ pre post)=>if post.isEmpty=true then K (.p (.sl none T pre)) [j] else none
  |some (.rowT T _ _ _ l)=>K (.p (.sl none T l)) [j]
  |_=>none
 |d,K=>K d []
theorem Zvy{h:List TEnt}{d:TD}{K:TD→List Nat→Option O}(k:ZAh h d K=some out):∃q,ZtE h d=some q∧K q.1 q.2=some out:=by
 unfold ZAh at k;unfold ZtE;split at k
 ·rename_i j;dsimp only;split at k
  ·rename_i T np v st e pre post hd;rw[hd];obtain⟨h1,k⟩:=Za k
   cases post with
   |nil=>exact⟨_,rfl,k⟩
   |cons _ _=>cases h1
  ·rename_i T v st e l hd;rw[hd];exact⟨_,rfl,k⟩
  ·cases k
 ·rename_i hne;refine⟨(d,[]), ?_,k⟩;cases d <;> first|rfl|exact absurd rfl (hne _)
def Zvz(h:List TEnt):List TD→(List TD→List Nat→Option O)→Option O
 |[],K=>K [] []
 |d::r,K=>ZAh h d λx l=>Zvz h r λy m=>K (x::y) (l++m)
def Znk(h:List TEnt):List TD→Option (List TD×List Nat)
 |[]=>some ([],[])
 |d::r=>match ZtE h d,Znk h r with
  |some q,some w=>some (q.1::w.1,q.2++w.2)
  |_,_=>none
theorem ZkL{h:List TEnt}:∀{ds:List TD}{K:List TD→List Nat→Option O},Zvz h ds K=some out→∃q,Znk h ds=some q∧K q.1 q.2=some out
 |[],K,k=>⟨_,rfl,k⟩
 |d::r,K,k=>by
  obtain⟨q,h1,k⟩:=Zvy k;obtain⟨w,h2,k⟩:=ZkL k;exact⟨(q.1::w.1,q.2++w.2),by simp only[Znk,h1,h2],k⟩
def Zfm:TEnt→TEnt
 |.rowN T np v _ e a b=>.rowN T np v false e a b
 |.rowT t v _ e l=>.rowT t v false e l
 |e=>e
def Qs(ids:List Nat)(H:List TEnt):List TEnt:=(yu H.length).zipWith (λi e=>if ids.contains i then Zfm e else e) H
def Znl(t:Tmp)(a:List TD)(h:List TEnt)(K:Kh O):Option O:=
 match a[t]? with
 |some (.ref id [])=>match h[id]? with
  |some (.var (.agg ds) st)=>Zvz h ds λx l=>K a ((Qs l h).set id (.var (.agg x) st))
  |_=>none
 |_=>none
def ZlZ(t:Tmp)(i:Nat)(a:List TD)(h:List TEnt)(K:Kh O):Option O:=
 match a[t]? with
 |some (.ref j [])=>match h[j]? with
  |some (.var (.agg ds) st)=>match ds[i]? with
   |some (.rv id v s 0 n)=>match h[id]? with
    |some (.rowT T w _ _ l)=>if(decide (v=w.length)&&(decide (s=T.size)&&decide (n=l.length)))=true then K a (h.set j (.var (.agg (ds.set i (.rw id))) st)) else none
    |_=>none
   |_=>none
  |_=>none
 |_=>none
def Znm(t:Tmp)(a:List TD)(h:List TEnt)(K:Kh O):Option O:=
 match a[t]? with
 |some (.rv id v s 0 n)=>match h[id]? with
  |some (.rowT T w _ _ l)=>if(decide (v=w.length)&&(decide (s=T.size)&&decide (n=l.length)))=true then K (a.set t (.rw id)) h else none
  |_=>none
 |_=>none
def Znn(t:Tmp)(a:List TD)(h:List TEnt)(K:Kh O):Option O:=
 match a[t]? with
 |some (.ref j [])=>match h[j]? with
  |some (.var (.rv id v s 0 n) st)=>match h[id]? with
   |some (.rowT T w _ _ l)=>if(decide (v=w.length)&&(decide (s=T.size)&&decide (n=l.length)))=true then K a (h.set j (.var (.rw id) st)) else none
   |_=>none
  |_=>none
 |_=>none
def ZAi(t:Tmp)(i:Nat)(T:Ty)(a:List TD)(h:List TEnt)(K:Kh O):Option O:=
 match a[t]? with
 |some (.ref j [])=>match h[j]? with
  |some (.var (.agg ds) st)=>match ds[i]? with
   |some (.p x)=>(TP.to Zfe x T).bind λy=>K a (h.set j (.var (.agg (ds.set i (.p (.v T y)))) st))
   |_=>none
  |_=>none
 |_=>none
def ZvA(t:Tmp)(a:List TD)(h:List TEnt)(K:Kh O):Option O:=
 match a[t]? with
 |some (.ref j [])=>match h[j]? with
  |some (.var (.p (.arr n s xs)) st)=>K a (h.set j (.var (.arr n s (xs.map TD.p)) st))
  |_=>K a h
 |_=>K a h
def ZrA(z:Int)(t:Tmp)(a:List TD)(h:List TEnt)(K:Kh O):List Nat→Option O
 |[]=>none
 |n::r=>if(z==(n:Int))=true then K (a.set t (.p (.v (.int .i64) (n:Int)))) h else ZrA z t a h K r
def ZrB(t:Tmp)(ks:List Nat)(a:List TD)(h:List TEnt)(K:Kh O):Option O:=
 match a.getD t .junk with
 |.p (.v (.int .i64) z)=>ZrA z t a h K ks
 |_=>none
def ZEm(t:Tmp)(a:List TD)(h:List TEnt)(K:Kh O):Option O:=
 match a.getD t .junk with
 |.ref _ _=>K a h
 |_=>none
def ZEn(a:List TD)(h:List TEnt)(K:Kh O):Option O:=K a (h++[.gone])
def ZvB(t:Tmp)(a:List TD)(h:List TEnt)(K:Kh O):Option O:=
 match a[t]? with
 |some (.ref j [])=>match h[j]? with
  |some (.var d st)=>(d.flat (lk h)).bind λx=>K a (h.set j (.var (.p x) st))
  |_=>none
 |_=>none
def ZAj(path:List Nat)(U:Ty)(e:ya)(j:Nat)(a:List TD)(h:List TEnt)(K:Kh O):Option O:=
 match h[j]? with
 |some (.row v s true e0 (.arr n s2 [x]))=>match Zan U (.own h.length none U none) path x with
  |some y=>if(decide (s=s2)&&(TD.frees h.length a&&h.all (TEnt.free h.length)))=true then K a ((h++[TEnt.log U e []]).set j (.row v s true e0 (.arr n s2 [y]))) else none
  |none=>K a h
 |_=>K a h
def ZrC(path:List Nat)(U:Ty)(e:ya):List Nat→List TD→List TEnt→Kh O→Option O
 |[],a,h,K=>K a h
 |j::r,a,h,K=>ZAj path U e j a h λa h=>ZrC path U e r a h K
def ghT:GOp→List TD→List TEnt→Kh O→Option O
 |.rows t path T e np,a,h,K=>Zvw t path T e np a h K
 |.focus t U e,a,h,K=>Zrz t U e a h K
 |.done t,a,h,K=>Znl t a h K
 |.fresh t i,a,h,K=>ZlZ t i a h K
 |.rowt t path T e,a,h,K=>Zvx t path T e a h K
 |.freshS t,a,h,K=>Znm t a h K
 |.freshV t,a,h,K=>Znn t a h K
 |.freshDone t i,a,h,K=>ZlZ t i a h λa h=>Znl t a h K
 |.any t i T,a,h,K=>ZAi t i T a h K
 |.melt t,a,h,K=>ZvA t a h K
 |.split t ks,a,h,K=>ZrB t ks a h K
 |.nn t,a,h,K=>ZEm t a h K
 |.hole,a,h,K=>ZEn a h K
 |.flat t,a,h,K=>ZvB t a h K
 |.nilr path U e,a,h,K=>ZrC path U e (yu h.length) a h K
def ghO(g:Option GOp)(a:List TD)(h:List TEnt)(K:Kh O):Option O:=
 match g with
 |none=>K a h
 |some g=>ghT g a h K
theorem ZiE{H:List TEnt}{e:TEnt}(h:H.all (TEnt.free H.length)=true):erH (H++[e])=erH H++[e.er (lk (H++[e]))]:=by
 unfold erH;rw[yaj];congr 1;refine ycg λx hx=> ?_;have hf:=ybb.1 h x hx;exact(Ztk (λid t hn=>VK id t hn) x hf).symm
theorem Zl0{H:List TEnt}{e:TEnt}{a:List TD}(h:TD.frees H.length a=true):TD.ers (lk (H++[e])) a=TD.ers (lk H) a:=(ers_free (λid t hn=>VK id t hn) a h).symm
theorem ZtF{t:Tmp}{path:List Nat}{T:Ty}{e:ya}{np:List Nat}{a:List TD}{h:List TEnt}{K:Kh O}(k:Zvw t path T e np a h K=some out):
 ∃a' h',K a' h'=some out∧a'.length=a.length∧Yz (erH h) (erH h')∧∀(σ:Sg)(act:Act),RepT σ (TD.ers (lk h) a) act→RepT σ (TD.ers (lk h') a') act:=by
 unfold Zvw at k;split at k
 ·rename_i id hid;split at k
  ·rename_i d hd;obtain⟨d',h1,k⟩:=yc.1 k;obtain⟨h2,k⟩:=Za k;rw[yh] at h2;have hlt:id < h.length:=(yq.1 hd).1;have hd':(h++[TEnt.rowN T np [] true e [] []])[id]? =some (.var d true):=by rw[yal hlt];exact hd
   have hL:lk ((h++[TEnt.rowN T np [] true e [] []]).set id (.var d' true))=lk (h++[TEnt.rowN T np [] true e [] []]):=Xw hd' rfl rfl;refine⟨_,_,k,rfl, ?_,λσ act r=> ?_⟩
   ·have e1:erH ((h++[TEnt.rowN T np [] true e [] []]).set id (.var d' true))=(erH h++[Ent.row 0 T.size true e (.p (.arr 0 T.size []))]).set id (.var (d'.er (lk (h++[TEnt.rowN T np [] true e [] []]))) true):=by
     rw[Yd hL,ZiE h2.2];rfl
    rw[e1];have hj:(erH h)[id]? =some (.var (d.er (lk h)) true):=by rw[ZH hd];rfl
    refine ZwW (path:=path) hj ?_;have e2:=Qq (L:=lk (h++[TEnt.rowN T np [] true e [] []])) path d d' h1;have e3:d.er (lk (h++[TEnt.rowN T np [] true e [] []]))=d.er (lk h):=(QL (λid t hn=>VK id t hn) d (ybb.1 h2.2 _ (ybw hd))).symm;rw[e3,(ZaX (q:=(0,T.size,0)) (x:=.rowN T np [] true e [] []) (List.getElem?_concat_length ..) rfl).1] at e2;rw[Zv];exact e2
   ·rw[hL,Zl0 h2.1];exact r
  ·cases k
 ·cases k
theorem ZtG{t:Tmp}{path:List Nat}{T:Ty}{e:ya}{a:List TD}{h:List TEnt}{K:Kh O}(k:Zvx t path T e a h K=some out):
 ∃a' h',K a' h'=some out∧a'.length=a.length∧Yz (erH h) (erH h')∧∀(σ:Sg)(act:Act),RepT σ (TD.ers (lk h) a) act→RepT σ (TD.ers (lk h') a') act:=by
 unfold Zvx at k;split at k
 ·rename_i id hid;split at k
  ·rename_i d hd;obtain⟨d',h1,k⟩:=yc.1 k;obtain⟨h2,k⟩:=Za k;rw[yh] at h2;have hlt:id < h.length:=(yq.1 hd).1;have hd':(h++[TEnt.rowT T [] true e []])[id]? =some (.var d true):=by rw[yal hlt];exact hd
   have hL:lk ((h++[TEnt.rowT T [] true e []]).set id (.var d' true))=lk (h++[TEnt.rowT T [] true e []]):=Xw hd' rfl rfl;refine⟨_,_,k,rfl, ?_,λσ act r=> ?_⟩
   ·have e1:erH ((h++[TEnt.rowT T [] true e []]).set id (.var d' true))=(erH h++[Ent.row 0 T.size true e (.p (.arr 0 T.size []))]).set id (.var (d'.er (lk (h++[TEnt.rowT T [] true e []]))) true):=by
     rw[Yd hL,ZiE h2.2];rfl
    rw[e1];have hj:(erH h)[id]? =some (.var (d.er (lk h)) true):=by rw[ZH hd];rfl
    refine ZwW (path:=path) hj ?_;have e2:=Qq (L:=lk (h++[TEnt.rowT T [] true e []])) path d d' h1;have e3:d.er (lk (h++[TEnt.rowT T [] true e []]))=d.er (lk h):=(QL (λid t hn=>VK id t hn) d (ybb.1 h2.2 _ (ybw hd))).symm;rw[e3,(V8 (T:=T) (v:=[]) (l:=[]) (List.getElem?_concat_length ..)).1] at e2;rw[Zv];exact e2
   ·rw[hL,Zl0 h2.1];exact r
  ·cases k
 ·cases k
theorem ZrD{t:Tmp}{U:Ty}{e:ya}{a:List TD}{h:List TEnt}{K:Kh O}(k:Zrz t U e a h K=some out):
 ∃a' h',K a' h'=some out∧a'.length=a.length∧Yz (erH h) (erH h')∧∀(σ:Sg)(act:Act),RepT σ (TD.ers (lk h) a) act→RepT σ (TD.ers (lk h') a') act:=by
 unfold Zrz at k;dsimp only at k;generalize h.findIdx ZAg=j at k;split at k
 ·rename_i T np v e' pre post i hd hi;obtain⟨h2,k⟩:=Za k;obtain⟨_,k⟩:=Za k;simp only[yh] at h2;obtain⟨h2,h3⟩:=h2
  cases post with
  |nil=>cases k
  |cons x r=>
   have k:((Zan U (.own h.length none U none) np (.p (YD np (.v T x)))).bind λd=>K a ((h++[TEnt.log U e []]).set j (.rowM T np v true e' pre d r)))=some out:=k;obtain⟨d,h1,k⟩:=yc.1 k;have hlt:j < h.length:=(yq.1 hd).1;have hd':(h++[TEnt.log U e []])[j]? =some (.rowN T np v true e' pre (x::r)):=by rw[yal hlt];exact hd
   have hL:lk ((h++[TEnt.log U e []]).set j (.rowM T np v true e' pre d r))=lk (h++[TEnt.log U e []]):=Zrr hd' rfl;refine⟨_,_,k,rfl, ?_,λσ act rr=> ?_⟩
   ·have e1:erH ((h++[TEnt.log U e []]).set j (.rowM T np v true e' pre d r))=(erH h++[Ent.log U.size e []]).set j (.row v.length T.size true e' (.arr (pre.length+(r.length+1)) T.size (((pre.map T.enc++(x::r).map λx=>(YD np (.v T x)).pe).map .p).set pre.length (d.er (lk (h++[TEnt.log U e []])))))):=by
     rw[Yd hL,ZiE h3];have hm:=ZwH (pre.map λx=>Dv.p (T.enc x)) (r.map λx=>.p (YD np (.v T x)).pe) (.p (YD np (.v T x)).pe) (d.er (lk (h++[TEnt.log U e []])));rw[yx] at hm
     have hm2:((pre.map T.enc++(x::r).map λx=>(YD np (.v T x)).pe).map Dv.p).set pre.length (d.er (lk (h++[TEnt.log U e []])))=(pre.map λx=>Dv.p (T.enc x))++d.er (lk (h++[TEnt.log U e []]))::r.map λx=>.p (YD np (.v T x)).pe:=by
      rw[yaj,yax,yax];exact hm
     rw[hm2];rfl
    rw[e1];have hj:(erH h)[j]? =some (.row v.length T.size true e' (.p (.arr (pre.length+(r.length+1)) T.size (pre.map T.enc++(x::r).map λx=>(YD np (.v T x)).pe)))):=by rw[ZH hd];rfl
    have hx:(pre.map T.enc++(x::r).map λx=>(YD np (.v T x)).pe)[pre.length]? =some (YD np (.v T x)).pe:=by
     have:=Zrs (pre.map T.enc) (r.map λx=>(YD np (.v T x)).pe) (YD np (.v T x)).pe;rw[yx] at this;exact this
    refine ZAf (path:=np) hj hx ?_;have e2:=Qq (L:=lk (h++[TEnt.log U e []])) np _ d h1
    have e3:(TD.own h.length none U none).er (lk (h++[TEnt.log U e []]))=.own h.length none U.size []:=by
     rw[TD.er,Qp];rfl
    rw[e3,TD.er] at e2;rw[Zv];exact e2
   ·rw[hL,Zl0 h2];exact rr
 ·cases k
theorem ZCx{H:List Ent}{j s s' v N:Nat}{st:Bool}{e e':ya}{x y:Dv}{path:List Nat}(hj:H[j]? =some (.row v s st e (.arr N s [x])))
 (hg:Yp x path s' (.own H.length none s' [])=some y):Yz H ((H++[Ent.log s' e' []]).set j (.row v s st e (.arr N s [y]))):=by
 have hsz:=WI path x y s' _ rfl hg;refine Zvv hj (λσ=>.inl ⟨rfl,rfl⟩) (λ⟨_,_,q⟩=>by cases q) (λ⟨_,_,q⟩=>by cases q) (λ_ _ _ q=>by cases q) (λo hu=> ?_) (λv2 s2 st2 e2 d2 q=>by cases q;exact⟨_,_,rfl⟩) ?_
 ·obtain⟨u1,N',u2,u3⟩:=hu;exact⟨u1,N',by rw[←u2];simp[rowN],u3⟩
 rintro σ mi h1 h2 ⟨N',q1,q2⟩;refine⟨N',by rw[←q1];simp[rowN], ?_⟩;rcases q2 with q2|⟨b,cur,cap,e3,e4,e5,e6,e7,e8⟩
 ·exact .inl q2
 refine .inr ⟨b,cur,cap,e3,e4,e5,e6,e7, ?_⟩;simp only[repD] at e8 ⊢;obtain⟨r1,r2,r3⟩:=e8;refine⟨by simpa using r1,λz hz=> ?_, ?_⟩
 ·have:z=y:=by simpa using hz
  subst this;rw[hsz];exact r2 x (yai.2 rfl)
 ·refine Zdn (x:=x) (y:=y) (λa ha=>Vr path x y s' _ (λa ha=> ?_) hg a ha) [x] 0 _ rfl r3;have:=ZjX ha;subst this;simp only[repD];exact⟨λ_ hx=>(by cases hx),none,0,rfl,yl _,by simp[maxLen],ZK _,λ_=>rfl,λh=>absurd rfl h,e',[],h1,yl _,λ_=>.inl ⟨h2,rfl,rfl⟩⟩
theorem ZvC{path:List Nat}{U:Ty}{e:ya}{j:Nat}{a:List TD}{h:List TEnt}{K:Kh O}(k:ZAj path U e j a h K=some out):
 ∃a' h',K a' h'=some out∧a'.length=a.length∧Yz (erH h) (erH h')∧∀(σ:Sg)(act:Act),RepT σ (TD.ers (lk h) a) act→RepT σ (TD.ers (lk h') a') act:=by
 unfold ZAj at k;split at k
 ·rename_i v s e0 n s2 x hd;split at k
  ·rename_i y h1;obtain⟨h2,k⟩:=Za k;simp only[yh,decide_eq_true_eq] at h2;obtain⟨hs,h2,h3⟩:=h2;subst hs;have hlt:j < h.length:=(yq.1 hd).1;have hd':(h++[TEnt.log U e []])[j]? =some (.row v s true e0 (.arr n s [x])):=by rw[yal hlt];exact hd
   have hL:lk ((h++[TEnt.log U e []]).set j (.row v s true e0 (.arr n s [y])))=lk (h++[TEnt.log U e []]):=Zrr hd' rfl;refine⟨_,_,k,rfl, ?_,λσ act rr=> ?_⟩
   ·have e1:erH ((h++[TEnt.log U e []]).set j (.row v s true e0 (.arr n s [y])))=(erH h++[Ent.log U.size e []]).set j (.row v s true e0 (.arr n s [y.er (lk (h++[TEnt.log U e []]))])):=by
     rw[Yd hL,ZiE h3];rfl
    rw[e1]
    have hj:(erH h++[Ent.log U.size e []])[j]? =some (.row v s true e0 (.arr n s [x.er (lk (h++[TEnt.log U e []]))])):=by
     have e3:erH (h++[TEnt.log U e []])=erH h++[Ent.log U.size e []]:=by rw[ZiE h3];rfl
     rw[←e3,ZH hd'];rfl
    rw[yal (by rw[Zv];exact hlt)] at hj;refine ZCx (path:=path) hj ?_;have e2:=Qq (L:=lk (h++[TEnt.log U e []])) path _ y h1
    have e3:(TD.own h.length none U none).er (lk (h++[TEnt.log U e []]))=.own h.length none U.size []:=by
     rw[TD.er,Qp];rfl
    rw[e3] at e2;rw[Zv];exact e2
   ·rw[hL,Zl0 h2];exact rr
  ·exact⟨_,_,k,rfl,Yz.refl _,λ_ _ r=>r⟩
 ·exact⟨_,_,k,rfl,Yz.refl _,λ_ _ r=>r⟩
theorem ZkM{path:List Nat}{U:Ty}{e:ya}:∀{l:List Nat}{a:List TD}{h:List TEnt}{K:Kh O},ZrC path U e l a h K=some out→
 ∃a' h',K a' h'=some out∧a'.length=a.length∧Yz (erH h) (erH h')∧∀(σ:Sg)(act:Act),RepT σ (TD.ers (lk h) a) act→RepT σ (TD.ers (lk h') a') act
 |[],a,h,K,k=>⟨_,_,k,rfl,Yz.refl _,λ_ _ r=>r⟩
 |j::r,a,h,K,k=>by
  obtain⟨a1,h1,k,l1,g1,r1⟩:=ZvC (K:=λa h=>ZrC path U e r a h K) k;obtain⟨a2,h2,k,l2,g2,r2⟩:=ZkM k;exact⟨a2,h2,k,l2.trans l1,g1.trans g2,λσ act r=>r2 σ act (r1 σ act r)⟩
theorem ZAk(e:TEnt):lkE (some (Zfm e))=lkE (some e):=by cases e <;> rfl
theorem Zd7(ids:List Nat)(H:List TEnt)(i:Nat):(Qs ids H)[i]? =(H[i]?).map λe=>if ids.contains i then Zfm e else e:=by
 unfold Qs;rw[List.getElem?_zipWith];rcases ybt i H.length with h|h
 ·rw[List.getElem?_range h,yad h];rfl
 ·rw[yap (by simpa using h),yap h];rfl
theorem ZpY(ids:List Nat)(H:List TEnt):lk (Qs ids H)=lk H:=by
 funext i;unfold lk;rw[Zd7]
 cases H[i]? with
 |none=>rfl
 |some e=>
  show lkE (some (if ids.contains i=true then Zfm e else e))=_
  split
  ·exact ZAk e
  ·rfl
theorem Zyt(ids:List Nat)(H:List TEnt):WkH (erH H) (erH (Qs ids H)):=by
 refine Zvm (by rw[Zv,Zv];unfold Qs;simp) λi a b h1 h2=> ?_;unfold erH at h1 h2;rw[yan] at h1 h2;rw[ZpY,Zd7] at h2
 cases he:H[i]? with
 |none=>rw[he] at h1;cases h1
 |some e=>
  rw[he] at h1 h2;cases h1;cases h2;show WkE (e.er (lk H)) (TEnt.er (lk H) (if ids.contains i=true then Zfm e else e))
  split
  ·cases e <;> first|exact .refl _|exact .lock
  ·exact .refl _
theorem ZAl{h H:List TEnt}{d:TD}{q:TD×List Nat}(hq:ZtE h d=some q)(hL:lk H=lk h)(hl:∀j,j∈q.2→∀e,h[j]? =some e→H[j]? =some (Zfm e)):
 (q.1.er (lk H)).size=(d.er (lk H)).size∧∀σ:Sg,Ok σ→σ.H=erH H→∀us,repD σ (d.er (lk H)) us→repD σ (q.1.er (lk H)) us:=by
 have other:∀x:TD,(q.1.er (lk H)).size=(q.1.er (lk H)).size∧∀σ:Sg,Ok σ→σ.H=erH H→∀us,repD σ (q.1.er (lk H)) us→repD σ (q.1.er (lk H)) us:=λ_=>⟨rfl,λ_ _ _ _ r=>r⟩
 have row:∀(j:Nat)(v:Nat)(s:Nat)(e:ya)(xs:List Pl)(T:Ty)(l:List T.den),(TD.rw j).er (lk H)=.rv j v s 0 xs.length→(erH H)[j]? =some (.row v s false e (.p (.arr xs.length s xs)))→s=T.size→xs=l.map T.enc→
  ((TD.p (.sl none T l)).er (lk H)).size=((TD.rw j).er (lk H)).size∧∀σ:Sg,Ok σ→σ.H=erH H→∀us,repD σ ((TD.rw j).er (lk H)) us→repD σ ((TD.p (.sl none T l)).er (lk H)) us:=by
  intro j v s e xs T l e1 e2 e3 e4;subst e3;rw[e1];refine⟨rfl,λσ ok hH us r=> ?_⟩;have dr:=DeepR.rvp (H:=σ.H) (lo:=0) (n:=xs.length) (by rw[hH];exact e2) (by omega);rw[List.drop_zero,List.take_length] at dr;have:=ZmN ok dr us r;rw[TD.er,TP.pe, ←e4];simpa[repD] using this
 unfold ZtE at hq;split at hq
 ·rename_i j;split at hq
  ·rename_i T np v st e pre hd;cases hq;have hH:=hl j (yar ..) _ hd;have hr:=ZaX (q:=(v.length,T.size,pre.length+0)) (x:=Zfm (.rowN T np v st e pre [])) hH rfl;refine row j v.length T.size e (pre.map T.enc) T pre (by rw[hr.1,yx];rfl) ?_ rfl rfl;rw[ZH hH,yx];simp only[Zfm,TEnt.er,List.map_nil,ybk,List.length_nil,Nat.add_zero]
  ·rename_i T v st e l hd;cases hq;have hH:=hl j (yar ..) _ hd;have hr:=V8 (T:=T) (v:=v) (st:=false) (e:=e) (l:=l) hH;refine row j v.length T.size e (l.map T.enc) T l (by rw[hr.1,yx]) ?_ rfl rfl;rw[ZH hH,yx];rfl
  ·cases hq
 ·cases hq;exact other d
theorem ZpZ{h H:List TEnt}:∀{ds:List TD}{q:List TD×List Nat},Znk h ds=some q→lk H=lk h→(∀j,j∈q.2→∀e,h[j]? =some e→H[j]? =some (Zfm e))→
 Dv.sizes (TD.ers (lk H) q.1)=Dv.sizes (TD.ers (lk H) ds)∧∀σ:Sg,Ok σ→σ.H=erH H→∀us,repDs σ (TD.ers (lk H) ds) us→repDs σ (TD.ers (lk H) q.1) us
 |[],q,hq,hL,hl=>by cases hq;exact⟨rfl,λ_ _ _ _ r=>r⟩
 |d::r,q,hq,hL,hl=>by
  simp only[Znk] at hq;split at hq
  ·rename_i q1 q2 h1 h2;cases hq;obtain⟨a1,a2⟩:=ZAl h1 hL (λj hj=>hl j (List.mem_append_left _ hj));obtain⟨b1,b2⟩:=ZpZ h2 hL (λj hj=>hl j (List.mem_append_right _ hj));refine⟨by simp only[TD.ers,Dv.sizes];rw[a1,b1],λσ ok hH us rr=> ?_⟩;simp only[TD.ers,repDs] at rr ⊢;obtain⟨u1,u2,e1,e2,e3⟩:=rr;exact⟨u1,u2,e1,a2 σ ok hH _ e2,b2 σ ok hH _ e3⟩
  ·cases hq
theorem ZkN{t:Tmp}{a:List TD}{h:List TEnt}{K:Kh O}(k:Znl t a h K=some out):
 ∃a' h',K a' h'=some out∧a'.length=a.length∧Yz (erH h) (erH h')∧∀(σ:Sg)(act:Act),RepT σ (TD.ers (lk h) a) act→RepT σ (TD.ers (lk h') a') act:=by
 unfold Znl at k;split at k
 ·rename_i id hid;split at k
  ·rename_i ds st hd;obtain⟨q,h1,k⟩:=ZkL k
   have hd2:(Qs q.2 h)[id]? =some (.var (.agg ds) st):=by
    rw[Zd7,hd];show some (if q.2.contains id=true then Zfm (.var (.agg ds) st) else .var (.agg ds) st)=_
    split <;> rfl
   have hL0:lk (Qs q.2 h)=lk h:=ZpY _ _;have hL:lk ((Qs q.2 h).set id (.var (.agg q.1) st))=lk (Qs q.2 h):=Xw hd2 rfl rfl;refine⟨_,_,k,rfl,(ZwV (Zyt q.2 h)).trans ?_,λσ act rr=>by rw[hL,hL0];exact rr⟩;rw[Yd hL];have hj:(erH (Qs q.2 h))[id]? =some (.var (.agg (TD.ers (lk (Qs q.2 h)) ds)) st):=by rw[ZH hd2];rfl
   obtain⟨c1,c2⟩:=ZpZ (H:=Qs q.2 h) h1 hL0 (λj hj e he=>by
    rw[Zd7,he];show some (if q.2.contains j=true then Zfm e else e)=_
    rw[if_pos (by simpa using hj)])
   refine ZCw hj ?_ λσ ok hH us r=> ?_
   ·exact c1
   ·simp only[TD.er,repD] at r ⊢;exact c2 σ ok hH us r
  ·cases k
 ·cases k
theorem ZtH{L:Lk}{ds:List TD}{i:Nat}{x y:TD}(h:ds[i]? =some x)(e:y.er L=x.er L):TD.ers L (ds.set i y)=TD.ers L ds:=by
 rw[Zs,Zs,ybg,e];apply ybo;intro k;by_cases hk:i=k
 ·subst hk;rw[ycl (by rw[yx];exact(yq.1 h).1),yan,h];rfl
 ·rw[List.getElem?_set_ne hk]
theorem ZiF{t:Tmp}{i:Nat}{a:List TD}{h:List TEnt}{K:Kh O}(k:ZlZ t i a h K=some out):
 ∃a' h',K a' h'=some out∧a'.length=a.length∧Yz (erH h) (erH h')∧∀(σ:Sg)(act:Act),RepT σ (TD.ers (lk h) a) act→RepT σ (TD.ers (lk h') a') act:=by
 unfold ZlZ at k;split at k
 ·rename_i j hj;split at k
  ·rename_i ds st hd;split at k
   ·rename_i id v s n hi;split at k
    ·rename_i T w st' e l hr;obtain⟨c,k2⟩:=Za k;clear k;rw[yh,yh,decide_eq_true_eq,decide_eq_true_eq,decide_eq_true_eq] at c;obtain⟨rfl,rfl,rfl⟩:=c;have hL:lk (h.set j (.var (.agg (ds.set i (.rw id))) st))=lk h:=Xw hd rfl rfl
     have he:(TD.rw id).er (lk h)=(TD.rv id w.length T.size 0 l.length).er (lk h):=by
      refine(Zrn (v:=w) (s:=T.size) (N:=l.length) ?_).1;unfold ZN lk;dsimp only;rw[hr];rfl
     refine⟨_,_,k2,rfl, ?_,λσ act rr=>by rw[hL];exact rr⟩
     have e2:erH (h.set j (.var (.agg (ds.set i (.rw id))) st))=erH h:=by
      rw[Yd hL];show(erH h).set j (.var (.agg (TD.ers (lk h) (ds.set i (.rw id)))) st)=erH h;rw[ZtH hi he];apply ybo;intro q;by_cases hq:j=q
      ·subst hq;have hjl:(erH h)[j]? =some (.var (.agg (TD.ers (lk h) ds)) st):=by rw[ZH hd];rfl
       rw[ycl (yq.1 hjl).1,hjl]
      ·rw[List.getElem?_set_ne hq]
     rw[e2];exact Yz.refl _
    ·cases k
   ·cases k
  ·cases k
 ·cases k
theorem ZtI{h:List TEnt}{id:Nat}{T:Ty}{w:List Unit}{st:Bool}{e:ya}{l:List T.den}(hr:h[id]? =some (.rowT T w st e l)):(TD.rw id).er (lk h)=(TD.rv id w.length T.size 0 l.length).er (lk h):=by
 refine(Zrn (v:=w) (s:=T.size) (N:=l.length) ?_).1;unfold ZN lk;dsimp only;rw[hr];rfl
theorem ZoK{t:Tmp}{a:List TD}{h:List TEnt}{K:Kh O}(k:Znm t a h K=some out):
 ∃a' h',K a' h'=some out∧a'.length=a.length∧Yz (erH h) (erH h')∧∀(σ:Sg)(act:Act),RepT σ (TD.ers (lk h) a) act→RepT σ (TD.ers (lk h') a') act:=by
 unfold Znm at k;split at k
 ·rename_i id v s n hi;split at k
  ·rename_i T w st' e l hr;obtain⟨c,k2⟩:=Za k;clear k;rw[yh,yh,decide_eq_true_eq,decide_eq_true_eq,decide_eq_true_eq] at c;obtain⟨rfl,rfl,rfl⟩:=c;exact⟨_,_,k2,yba,Yz.refl _,λσ act rr=>by rw[ZtH hi (ZtI hr)];exact rr⟩
  ·cases k
 ·cases k
theorem ZoL{t:Tmp}{a:List TD}{h:List TEnt}{K:Kh O}(k:Znn t a h K=some out):
 ∃a' h',K a' h'=some out∧a'.length=a.length∧Yz (erH h) (erH h')∧∀(σ:Sg)(act:Act),RepT σ (TD.ers (lk h) a) act→RepT σ (TD.ers (lk h') a') act:=by
 unfold Znn at k;split at k
 ·rename_i j hj;split at k
  ·rename_i id v s n st hd;split at k
   ·rename_i T w st' e l hr;obtain⟨c,k2⟩:=Za k;clear k;rw[yh,yh,decide_eq_true_eq,decide_eq_true_eq,decide_eq_true_eq] at c;obtain⟨rfl,rfl,rfl⟩:=c;have hL:lk (h.set j (.var (.rw id) st))=lk h:=Xw hd rfl rfl;refine⟨_,_,k2,rfl, ?_,λσ act rr=>by rw[hL];exact rr⟩
    have e2:erH (h.set j (.var (.rw id) st))=erH h:=by
     rw[Yd hL];show(erH h).set j (.var ((TD.rw id).er (lk h)) st)=erH h;rw[ZtI hr];apply ybo;intro q;by_cases hq:j=q
     ·subst hq;have hjl:(erH h)[j]? =some (.var ((TD.rv id w.length T.size 0 l.length).er (lk h)) st):=by rw[ZH hd];rfl
      rw[ycl (yq.1 hjl).1,hjl]
     ·rw[List.getElem?_set_ne hq]
    rw[e2];exact Yz.refl _
   ·cases k
  ·cases k
 ·cases k
theorem ZwX:∀{l:List Dv}{i:Nat}{d e:Dv},l[i]? =some d→Wk d e→WkL l (l.set i e)
 |[],_,_,_,h,_=>by simp at h
 |x::r,0,d,e,h,k=>by
  simp only[ybu,yi] at h;subst h
  exact .cons k (WkL.refl r)
 |x::r,i+1,d,e,h,k=>by
  simp only[yaw] at h;exact .cons (Wk.refl x) (ZwX h k)
theorem ZAm{L:Lk}:∀{ds:List TD}{i:Nat}{d e:TD},ds[i]? =some d→(TD.ers L ds)[i]? =some (d.er L)∧TD.ers L (ds.set i e)=(TD.ers L ds).set i (e.er L)
 |[],_,_,_,h=>by simp at h
 |x::r,0,d,e,h=>by
  simp only[ybu,yi] at h;subst h
  exact⟨rfl,rfl⟩
 |x::r,i+1,d,e,h=>by
  simp only[yaw] at h;obtain⟨h1,h2⟩:=ZAm (e:=e) h;exact⟨h1,by show x.er L::TD.ers L (r.set i e)=_;rw[h2];rfl⟩
theorem ZvD{t:Tmp}{i:Nat}{T:Ty}{a:List TD}{h:List TEnt}{K:Kh O}(k:ZAi t i T a h K=some out):
 ∃a' h',K a' h'=some out∧a'.length=a.length∧Yz (erH h) (erH h')∧∀(σ:Sg)(act:Act),RepT σ (TD.ers (lk h) a) act→RepT σ (TD.ers (lk h') a') act:=by
 unfold ZAi at k;split at k
 ·rename_i j hj;split at k
  ·rename_i ds st hd;split at k
   ·rename_i x hx;obtain⟨y,h1,k⟩:=yc.1 k;have hL:lk (h.set j (.var (.agg (ds.set i (.p (.v T y)))) st))=lk h:=Xw hd rfl rfl;refine⟨_,_,k,rfl, ?_,λσ act rr=>by rw[hL];exact rr⟩;rw[Yd hL];have hjl:(erH h)[j]? =some (.var (.agg (TD.ers (lk h) ds)) st):=by rw[ZH hd];rfl
    obtain⟨e1,e2⟩:=ZAm (L:=lk h) (e:=.p (.v T y)) hx;refine ZwV (WkH.set_at hjl (WkE.var ?_));show Wk (.agg (TD.ers (lk h) ds)) (.agg (TD.ers (lk h) (ds.set i (.p (.v T y)))));rw[e2];exact WkL.agg (ZwX e1 (Wk.p (ZsY h1)))
   ·cases k
  ·cases k
 ·cases k
theorem Wk.melt{n s:Nat}{xs:List Pl}:Wk (.p (.arr n s xs)) (.arr n s (xs.map Dv.p)):=⟨rfl,rfl,λσ vs r=>by
 simp only[repD,repC] at r ⊢;exact⟨by rw[yx];exact r.1,λx hx=>by obtain⟨y,hy,rfl⟩:=ybq.1 hx;exact r.2.1 y hy,ZaQ.2 r.2.2⟩⟩
theorem ZtJ{t:Tmp}{a:List TD}{h:List TEnt}{K:Kh O}(k:ZvA t a h K=some out):
 ∃a' h',K a' h'=some out∧a'.length=a.length∧Yz (erH h) (erH h')∧∀(σ:Sg)(act:Act),RepT σ (TD.ers (lk h) a) act→RepT σ (TD.ers (lk h') a') act:=by
 unfold ZvA at k;split at k
 ·rename_i j hj;split at k
  ·rename_i n s xs st hd;have hL:lk (h.set j (.var (.arr n s (xs.map TD.p)) st))=lk h:=Xw hd rfl rfl;refine⟨_,_,k,rfl, ?_,λσ act rr=>by rw[hL];exact rr⟩;rw[Yd hL];have hjl:(erH h)[j]? =some (.var (.p (.arr n s (TP.pes xs))) st):=by rw[ZH hd];rfl
   refine ZwV (WkH.set_at hjl (WkE.var ?_));show Wk (.p (.arr n s (TP.pes xs))) (.arr n s (TD.ers (lk h) (xs.map TD.p)))
   have e:TD.ers (lk h) (xs.map TD.p)=(TP.pes xs).map Dv.p:=by
    rw[Zs,Wi,yax,yax];rfl
   rw[e];exact Wk.melt
  ·exact⟨_,_,k,rfl,Yz.refl _,λ_ _ r=>r⟩
 ·exact⟨_,_,k,rfl,Yz.refl _,λ_ _ r=>r⟩
theorem ZtK{t:Tmp}{a:List TD}{h:List TEnt}{K:Kh O}(k:ZvB t a h K=some out):
 ∃a' h',K a' h'=some out∧a'.length=a.length∧Yz (erH h) (erH h')∧∀(σ:Sg)(act:Act),RepT σ (TD.ers (lk h) a) act→RepT σ (TD.ers (lk h') a') act:=by
 unfold ZvB at k;split at k
 ·rename_i j hj;split at k
  ·rename_i d st hd;obtain⟨x,h1,k⟩:=yc.1 k;have hL:lk (h.set j (.var (.p x) st))=lk h:=Xw hd rfl rfl;refine⟨_,_,k,rfl, ?_,λσ act rr=>by rw[hL];exact rr⟩;rw[Yd hL];have hjl:(erH h)[j]? =some (.var (d.er (lk h)) st):=by rw[ZH hd];rfl
   have hf:(d.er (lk h)).flat=some x.pe:=by rw[Zil,h1];rfl
   refine ZwV (WkH.set_at hjl (WkE.var ?_))
   exact⟨(Zf6 _ _ hf).symm,(Zmc hf).symm,λσ vs r=>by
    have:=Zdk _ _ _ hf r;show repD σ (.p x.pe) vs;simp only[repD];exact this⟩
  ·cases k
 ·cases k
theorem ZkO{z:Int}{t:Tmp}{a:List TD}{h:List TEnt}{K:Kh O}(ha:a.getD t .junk=.p (.v (.int .i64) z)):∀{ks:List Nat},ZrA z t a h K ks=some out→K a h=some out
 |[],k=>by cases k
 |n::r,k=>by
  unfold ZrA at k;split at k
  ·rename_i e;have e:z=(n:Int):=by simpa using e
   rw[set_same (by rw[ha,e])] at k;exact k
  ·exact ZkO ha k
theorem ZrE{t:Tmp}{ks:List Nat}{a:List TD}{h:List TEnt}{K:Kh O}(k:ZrB t ks a h K=some out):
 ∃a' h',K a' h'=some out∧a'.length=a.length∧Yz (erH h) (erH h')∧∀(σ:Sg)(act:Act),RepT σ (TD.ers (lk h) a) act→RepT σ (TD.ers (lk h') a') act:=by
 unfold ZrB at k;split at k
 ·rename_i z hz;exact⟨_,_,ZkO hz k,rfl,Yz.refl _,λ_ _ r=>r⟩
 ·cases k
theorem ZAn{g:Option GOp}{a:List TD}{h:List TEnt}{K:Kh O}(k:ghO g a h K=some out):
 ∃a' h',K a' h'=some out∧a'.length=a.length∧Yz (erH h) (erH h')∧∀(σ:Sg)(act:Act),RepT σ (TD.ers (lk h) a) act→RepT σ (TD.ers (lk h') a') act:=by
 unfold ghO at k;split at k
 ·exact⟨_,_,k,rfl,Yz.refl _,λ_ _ r=>r⟩
 ·rename_i g
  cases g with
  |rows t path T e np=>exact ZtF k
  |focus t U e=>exact ZrD k
  |done t=>exact ZkN k
  |fresh t i=>exact ZiF k
  |rowt t path T e=>exact ZtG k
  |freshS t=>exact ZoK k
  |freshV t=>exact ZoL k
  |freshDone t i=>
   obtain⟨a1,h1,k,l1,g1,r1⟩:=ZiF (K:=λa h=>Znl t a h K) k;obtain⟨a2,h2,k,l2,g2,r2⟩:=ZkN k
   exact⟨a2,h2,k,l2.trans l1,g1.trans g2,λσ act r=>r2 σ act (r1 σ act r)⟩
  |any t i T=>exact ZvD k
  |melt t=>exact ZtJ k
  |split t ks=>exact ZrE k
  |nn t=>
   replace k:ZEm t a h K=some out:=k
   unfold ZEm at k;split at k
   ·exact⟨_,_,k,rfl,Yz.refl _,λ_ _ r=>r⟩
   ·cases k
  |flat t=>exact ZtK k
  |nilr path U e=>exact ZkM k
  |hole=>
   replace k:K a (h++[.gone])=some out:=k
   refine⟨_,_,k,rfl, ?_,λσ act rr=>by rw[VI rfl];exact rr⟩;rw[VJ (VI rfl)];intro σ ok e;obtain⟨to,ok'⟩:=Zwm ok;exact⟨{ σ with m:=σ.m++[none],H:=σ.H++[.gone]},rfl,by rw[←e];rfl,to,ok'⟩
end
end Go.Ev
end
section
namespace Go.Ev
section
variable{P:yf}
theorem ZtL{x y:Code}{ts ts1 ts2:List Dv}{H H1 H2:List Ent}{ex:Ex}(r1:Y6 P x ts H .normal ts1 H1)(r2:Y6 P y ts1 H1 ex ts2 H2):Y6 P (.seq x y) ts H ex ts2 H2:=by
 intro σ a ok hH hrep;refine wp_seq (wp_mono (r1 σ a ok hH hrep) ?_);rintro e a' w' ⟨rfl,σ1,rfl,e1,to1,ok1,hrep1⟩;refine wp_mono (r2 σ1 a' ok1 e1 hrep1) ?_;rintro e a'' w'' ⟨rfl,σ2,rfl,e2,to2,ok2,hrep2⟩;exact⟨rfl,σ2,rfl,e2,to1.trans to2,ok2,hrep2⟩
theorem Zp0{x y:Code}{ts ts1:List Dv}{H H1:List Ent}{ex:Ex}(hne:ex≠ .normal)(r1:Y6 P x ts H ex ts1 H1):Y6 P (.seq x y) ts H ex ts1 H1:=by
 intro σ a ok hH hrep;refine wp_seq (wp_mono (r1 σ a ok hH hrep) ?_);rintro e a' w' ⟨rfl,hq⟩
 cases ex with
 |normal=>exact absurd rfl hne
 |exit id=>exact⟨rfl,hq⟩
 |ret=>exact⟨rfl,hq⟩
theorem Zgj{c:ym}{x y:Code}{ts ts1:List Dv}{H H1:List Ent}{ex:Ex}{b:Bool}(hc:Zo P ts 0 c=.p (.bool b))(r1:Y6 P (if b then x else y) ts H ex ts1 H1):Y6 P (.cond c x y) ts H ex ts1 H1:=by
 intro σ a ok hH hrep;have hv:=Zi (P:=P) hrep 0 c;rw[hc] at hv;cases b
 ·exact wp_cond_false (Z8 hv) (r1 σ a ok hH hrep)
 ·exact wp_cond_true (Z8 hv) (r1 σ a ok hH hrep)
def ZrF(id:Nat):Ex→Ex
 |.exit i=>if i=id then .normal else .exit i
 |ex=>ex
theorem ZvE{id:Nat}{body:Code}{ts ts1:List Dv}{H H1:List Ent}{ex:Ex}(r1:Y6 P body ts H ex ts1 H1):Y6 P (.block id body) ts H (ZrF id ex) ts1 H1:=by
 intro σ a ok hH hrep;refine wp_block (wp_mono (r1 σ a ok hH hrep) ?_);rintro e a' w' ⟨rfl,hq⟩
 cases ex with
 |normal=>exact⟨rfl,hq⟩
 |exit id'=>
  simp only[Ex.to,Exit.inBlock,ZrF];split
  ·exact⟨rfl,hq⟩
  ·exact⟨rfl,hq⟩
 |ret=>exact⟨rfl,hq⟩
theorem ZvF{body:Code}{ts ts1:List Dv}{H H1:List Ent}{ex:Ex}(r1:Y6 P body ts H ex ts1 H1):Y6 P (.scope body) ts H ex ts1 H1:=by
 intro σ a ok hH hrep;refine wp_scope_straight (wp_mono (r1 σ a ok hH hrep) ?_);rintro e a' w' ⟨rfl,hq⟩;cases ex <;> exact⟨rfl,hq⟩
theorem Zyu{ts:List Dv}{H:List Ent}:Y6 P .skip ts H .normal ts H:=λσ a ok hH hrep=>wp_skip ⟨rfl,σ,rfl,hH,To.refl σ,ok,hrep⟩
theorem ZvG{n:Nat}{ts:List Dv}{H:List Ent}:Y6 P (.label n) ts H .normal ts H:=λσ a ok hH hrep=>wp_label ⟨rfl,σ,rfl,hH,To.refl σ,ok,hrep⟩
theorem Zyv{n:Nat}{ts:List Dv}{H:List Ent}:Y6 P (.exit n) ts H (.exit n) ts H:=λσ a ok hH hrep=>wp_exit ⟨rfl,σ,rfl,hH,To.refl σ,ok,hrep⟩
theorem ZAo{ts:List Dv}{H:List Ent}:Y6 P .ret ts H .ret ts H:=λσ a ok hH hrep=>wp_ret ⟨rfl,σ,rfl,hH,To.refl σ,ok,hrep⟩
theorem Zyw{c:Code}{ts ts1:List Dv}{H H1:List Ent}{ex:Ex}(keep:List Nat)(r:Y6 P c ts H ex ts1 H1):Y6 P c ts H ex (ZC keep 0 ts1) H1:=by
 intro σ a ok hH hrep;refine wp_mono (r σ a ok hH hrep) ?_;rintro e a' w' ⟨rfl,σ1,rfl,e1,to1,ok1,hrep1⟩;exact⟨rfl,σ1,rfl,e1,to1,ok1,VC keep hrep1⟩
def ZtM(n0:Nat)(sl:Slots)(es:List ESh)(a:List TD)(h:List TEnt):Option (List TV):=
 if once (yu n0++[]) then(Xa h (yu n0++[]) (yu n0++[])).bind λh2=>(TD.rns (toIds (yu n0++[])) (Zev (sl.map (·.1)) 0 a)).bind λa2=>
  (Sh.mts (lk h2) (shs sl a.length) a2).bind λq=>(ESh.mts (lk h2) es h2).bind λw=>some (q.2++w.2)
 else none
theorem ZvH{n0:Nat}{sl:Slots}{es:List ESh}{a:List TD}{h:List TEnt}{vs:List TV}(k:ZtM n0 sl es a h=some vs):
 ∃a3 h3,XZ a.length sl es vs=some (a3,h3)∧∀{c:Code}{ts:List Dv}{H:List Ent}{ex:Ex},H.length=n0→Y6 P c ts H ex (TD.ers (lk h) a) (erH h)→Y6 P c ts H ex (TD.ers (lk h3) a3) (erH h3):=by
 unfold ZtM at k;split at k
 ·rename_i ho;obtain⟨h2,h1,k⟩:=yc.1 k;obtain⟨a2,e2,k⟩:=yc.1 k;obtain⟨q,e3,k⟩:=yc.1 k;obtain⟨w,e4,k⟩:=yc.1 k;cases k;obtain⟨g1,g2⟩:=Zdv e4;have hc:∀id t,ZN (lk h2) id t none=ZN (lk w.1) id t none:=λid t=>by rw[g2]
  refine⟨q.1,w.1, ?_,λ{c ts H ex}hl r=> ?_⟩
  ·unfold XZ;rw[mts_fills _ _ _ e3];have:=Vd e4 [];rw[ybk] at this;rw[yb,this];rfl
  ·have r1:=Zyw (sl.map (·.1)) r;rw[←ZiB] at r1;have r2:=Zx4 [] [] r1 (by rw[hl];exact ho) (by rw[hl];exact YW (W1 h1) h1) (by rw[hl];exact rns_er (W1 h1) _ _ e2);exact ZpH r2 (mts_wk hc _ _ _ e3) (Zgf hc e4)
 ·cases k
theorem ZvI{n0:Nat}{sl:Slots}{es:List ESh}{a:List TD}{h:List TEnt}{vs:List TV}(hn:h.length=n0)(k:ZtM n0 sl es a h=some vs):
 ∃a3 h3,XZ a.length sl es vs=some (a3,h3)∧∀(σ:Sg)(act:Act),Ok σ→σ.H=erH h→RepT σ (TD.ers (lk h) a) act→∃σ':Sg,σ'.w=σ.w∧σ'.H=erH h3∧To σ σ'∧Ok σ'∧RepT σ' (TD.ers (lk h3) a3) act:=by
 subst hn;unfold ZtM at k;split at k
 ·rename_i ho;obtain⟨h2,h1,k⟩:=yc.1 k;obtain⟨a2,e2,k⟩:=yc.1 k;obtain⟨q,e3,k⟩:=yc.1 k;obtain⟨w,e4,k⟩:=yc.1 k;cases k;obtain⟨g1,g2⟩:=Zdv e4;have hc:∀id t,ZN (lk h2) id t none=ZN (lk w.1) id t none:=λid t=>by rw[g2]
  refine⟨q.1,w.1, ?_,λσ act ok hH hrep=> ?_⟩
  ·unfold XZ;rw[mts_fills _ _ _ e3];have:=Vd e4 [];rw[ybk] at this;rw[yb,this];rfl
  ·have r1:=VC (sl.map (·.1)) hrep;rw[←ZiB] at r1
   have hin:subEnts σ.H (yu σ.H.length++[]) (yu σ.H.length++[])=some (erH h2):=by
    rw[hH,Zv];exact YW (W1 h1) h1
   have ho':once (yu σ.H.length++[])=true:=by rw[hH,Zv];exact ho
   have e2':Dv.rns (toIds (yu σ.H.length++[])) (TD.ers (lk h) (Zev (sl.map (·.1)) 0 a))=some (TD.ers (lk h2) a2):=by
    rw[hH,Zv];exact rns_er (W1 h1) _ _ e2
   have r2:=ZsR (Zd0 hin) e2' r1;have to1:=ZlU ok (To.refl σ) ho' hin;have ok1:=ZlT ok ho' hin;obtain⟨to2,ok2⟩:=Zgy (σ:=Zgz σ (yu σ.H.length++[]) (erH h2)) ok1 (H':=erH w.1) (Zgf hc e4);exact⟨{ Zgz σ (yu σ.H.length++[]) (erH h2) with H:=erH w.1},rfl,rfl,to1.trans to2,ok2,(mts_wk hc _ _ _ e3).repT (r2.to to2.leaf)⟩
 ·cases k
def ZEo(L:Lk):ESh→TEnt→Option TEnt
 |.rowN _ _ _ _,.rowM u np v st e pre mid post=>(ZD9 L u mid).map λy=>.rowN u np v st e (pre++[y]) post
 |_,x=>some x
def ZAp(L:Lk):List ESh→List TEnt→Option (List TEnt)
 |[],h=>some h
 |_::_,[]=>some []
 |s::r,x::h=>match ZEo L s x,ZAp L r h with
  |some y,some ys=>some (y::ys)
  |_,_=>none
theorem ZCy{L:Lk}{s:ESh}{x y:TEnt}(h:ZEo L s x=some y):lkE (some y)=lkE (some x)∧WkE (x.er L) (y.er L):=by
 unfold ZEo at h;split at h
 ·rename_i u np v st e pre mid post;obtain⟨c,h1,rfl⟩:=Zd h;refine⟨?_,ZwL (ZwI h1)⟩;simp only[lkE,yp,yak,List.length_nil];rw[ycf,Nat.add_comm (0+1)]
 ·cases h;exact⟨rfl,.refl _⟩
theorem ZwY{L:Lk}:∀{es:List ESh}{h h':List TEnt},ZAp L es h=some h'→h'.length=h.length∧(∀j:Nat,lkE (h'[j]?)=lkE (h[j]?))∧WkH (h.map (TEnt.er L)) (h'.map (TEnt.er L))
 |[],h,h',k=>by cases k;exact⟨rfl,λ_=>rfl,WkH.refl _⟩
 |_::_,[],h',k=>by cases k;exact⟨rfl,λ_=>rfl,WkH.refl _⟩
 |s::r,x::h,h',k=>by
  simp only[ZAp] at k;split at k
  ·rename_i y ys h1 h2;cases k;obtain⟨a1,a2⟩:=ZCy h1;obtain⟨b1,b2,b3⟩:=ZwY h2;refine⟨by simp[b1],λj=> ?_,.cons a2 b3⟩
   cases j with
   |zero=>exact a1
   |succ j=>exact b2 j
  ·cases k
theorem ZwZ{es:List ESh}{h h':List TEnt}(k:ZAp (lk h) es h=some h'):h'.length=h.length∧lk h'=lk h∧WkH (erH h) (erH h'):=by
 obtain⟨a,b,c⟩:=ZwY k;have e:lk h'=lk h:=funext b;refine⟨a,e, ?_⟩;unfold erH;rw[e];exact c
def ZrG(n0:Nat)(sl:Slots)(es:List ESh)(a:List TD)(h:List TEnt):Option (List TV):=(ZAp (lk h) es h).bind λh=>ZtM n0 sl es a h
theorem Zp1{n0:Nat}{sl:Slots}{es:List ESh}{a:List TD}{h:List TEnt}{vs:List TV}(k:ZrG n0 sl es a h=some vs):
 ∃a3 h3,XZ a.length sl es vs=some (a3,h3)∧∀{c:Code}{ts:List Dv}{H:List Ent}{ex:Ex},H.length=n0→Y6 P c ts H ex (TD.ers (lk h) a) (erH h)→Y6 P c ts H ex (TD.ers (lk h3) a3) (erH h3):=by
 obtain⟨h1,k1,k2⟩:=yc.1 k;obtain⟨e1,e2,e3⟩:=ZwZ k1;obtain⟨a3,h3,g1,g2⟩:=ZvH (P:=P) k2;refine⟨a3,h3,g1,λhl r=>g2 hl ?_⟩;rw[e2];exact ZpH r (WkL.refl _) e3
theorem Zp2{n0:Nat}{sl:Slots}{es:List ESh}{a:List TD}{h:List TEnt}{vs:List TV}(hn:h.length=n0)(k:ZrG n0 sl es a h=some vs):
 ∃a3 h3,XZ a.length sl es vs=some (a3,h3)∧∀(σ:Sg)(act:Act),Ok σ→σ.H=erH h→RepT σ (TD.ers (lk h) a) act→∃σ':Sg,σ'.w=σ.w∧σ'.H=erH h3∧To σ σ'∧Ok σ'∧RepT σ' (TD.ers (lk h3) a3) act:=by
 obtain⟨h1,k1,k2⟩:=yc.1 k;obtain⟨e1,e2,e3⟩:=ZwZ k1;obtain⟨a3,h3,g1,g2⟩:=ZvI (by rw[e1];exact hn) k2;refine⟨a3,h3,g1,λσ act ok hH hr=> ?_⟩;obtain⟨to,ok'⟩:=Zgy ok (H':=erH h1) (by rw[hH];exact e3);obtain⟨σ2,q1,q2,q3,q4,q5⟩:=g2 { σ with H:=erH h1} act ok' rfl (by rw[e2];exact hr.to to.leaf);exact⟨σ2,q1,q2,to.trans q3,q4,q5⟩
structure Lp where
 sl:Slots
 es:List ESh
 I:List Ty
 xs:List XSh
 L:Ty.dens I→Option (XSh.sum xs)
def Lp.Is(P:yf)(n:Nat)(c:Code)(lp:Lp):Prop:=
 ∀v o,lp.L v=some o→∀s,XZ n lp.sl lp.es (ofD lp.I v)=some s→∀e vs s',Zts lp.xs o e vs→XZ n e.sl e.es vs=some s'→
  Y6 P c (TD.ers (lk s.2) s.1) (erH s.2) e.ex (TD.ers (lk s'.2) s'.1) (erH s'.2)
abbrev Lp.Ok(P:yf)(n:Nat)(body:Code)(lp:Lp):Prop:=lp.Is P n (.loop body)
structure FI where
 hi:HI:={}
 lp:List (Nat×Lp):=[]
 bk:List (Nat×Lp):=[]
 gh:List (Nat×GOp):=[]
 un:Nat:=0
def Code.nl:Code→Nat
 |.seq a b=>Code.nl a+Code.nl b
 |.cond _ a b=>Code.nl a+Code.nl b
 |.block _ a=>Code.nl a
 |.scope a=>Code.nl a
 |.loop a=>Code.nl a+1
 |_=>0
def Code.ns:Code→Nat
 |.seq a b=>Code.ns a+Code.ns b+1
 |.cond _ a b=>Code.ns a+Code.ns b
 |.block _ a=>Code.ns a
 |.scope a=>Code.ns a
 |.loop a=>Code.ns a
 |_=>0
theorem VN:∀c:Code,(Zw c).length=Code.nl c
 |.seq a b=>by simp only[Zw,yp,VN a,VN b,Code.nl]
 |.cond _ a b=>by simp only[Zw,yp,VN a,VN b,Code.nl]
 |.block _ a=>by simp only[Zw,VN a,Code.nl]
 |.scope a=>by simp only[Zw,VN a,Code.nl]
 |.loop a=>by simp only[Zw,yak,VN a,Code.nl]
 |.skip=>rfl
 |.region _ _ _=>rfl
 |.rangeFunc _ _ _ _=>rfl
 |.exit _=>rfl
 |.ret=>rfl
 |.label _=>rfl
 |.goto _=>rfl
 |.refuse _=>rfl
def Zl1{O:Type}(step:List TD→List TEnt→Kc O→Option O):Nat→List TD→List TEnt→Kc O→Option O
 |0,_,_,_=>none
 |k+1,a,h,K=>step a h λex a' h'=>match ex with
  |.normal=>Zl1 step k a' h' K
  |ex=>K ex a' h'
theorem ZkP{O:Type}{body:Code}{N:Nat}{step:List TD→List TEnt→Kc O→Option O}
 (hs:∀(a:List TD)(h:List TEnt)(K:Kc O)(out:O),a.length=N→step a h K=some out→∃ex a' h',K ex a' h'=some out∧a'.length=N∧Y6 P body (TD.ers (lk h) a) (erH h) ex (TD.ers (lk h') a') (erH h')):
 ∀(k:Nat)(a:List TD)(h:List TEnt)(K:Kc O)(out:O),a.length=N→Zl1 step k a h K=some out→∃ex a' h',K ex a' h'=some out∧a'.length=N∧ZpC P body (TD.ers (lk h) a) (erH h) ex (TD.ers (lk h') a') (erH h')
 |0,_,_,_,_,_,k=>by cases k
 |n+1,a,h,K,out,hN,k=>by
  unfold Zl1 at k;obtain⟨ex,a1,h1,k1,k2,k3⟩:=hs _ _ _ _ hN k;split at k1
  ·obtain⟨ex2,a2,h2,k4,k5,k6⟩:=ZkP hs n a1 h1 K out k2 k1;exact⟨ex2,a2,h2,k4,k5,ZpE [] k3 k6⟩
  ·rename_i hne;exact⟨_,a1,h1,k1,k2,ZpD hne k3⟩
def ZjY(m:Nat)(a:List TD)(h:List TEnt):List (Nat×Lp)→Option (Σ bk:Lp,Ty.dens bk.I)
 |[]=>none
 |q::r=>if Nat.beq q.1 m=true then match (ZrG h.length q.2.sl q.2.es a h).bind (toD q.2.I) with
   |some v=>some ⟨q.2,v⟩
   |none=>ZjY m a h r
  else ZjY m a h r
theorem Zcz{m:Nat}{a:List TD}{h:List TEnt}{b:Σ bk:Lp,Ty.dens bk.I}:∀{l:List (Nat×Lp)},ZjY m a h l=some b→(m,b.1)∈l∧∃vs,ZrG h.length b.1.sl b.1.es a h=some vs∧toD b.1.I vs=some b.2
 |[],k=>by cases k
 |q::r,k=>by
  unfold ZjY at k;split at k
  ·rename_i hm;split at k
   ·rename_i v hv;cases k;have e:=Nat.eq_of_beq_eq_true hm;refine⟨?_,yc.1 hv⟩;rw[←e];exact yar ..
   ·obtain⟨h1,h2⟩:=Zcz k;exact⟨yas _ h1,h2⟩
  ·obtain⟨h1,h2⟩:=Zcz k;exact⟨yas _ h1,h2⟩
def evT{O:Type}(P:yf)(fi:FI)(specs:Sp P):Code→Nat→Nat→List TD→List TEnt→Kc O→Option O
 |.skip,_,_,a,h,K=>K .normal a h
 |.label _,_,_,a,h,K=>K .normal a h
 |.region _ ops draw,_,_,a,h,K=>if draw=true then ZEh P fi.hi specs ops a h λa' h'=>K .normal a' h' else if ZEk ops=true then Zvr P fi.hi specs ops (ops.toList.take (ops.size - 5)) a h λa' h' _=>ZwU P (ops.toList.drop (ops.size - 5)) a' h' λa' h'=>K .normal a' h'
  else Zvr P fi.hi specs ops ops.toList a h λa' h' _=>K .normal a' h'
 |.seq x y,n,m,a,h,K=>ghO (fi.gh.lookup m) a h λa h=>match ZjY m a h fi.bk with
  |none=>evT P fi specs x n (m+1) a h λex a' h'=>match ex with
   |.normal=>evT P fi specs y (n+Code.nl x) (m+1+Code.ns x) a' h' K
   |ex=>K ex a' h'
  |some bk=>(bk.1.L bk.2).bind λo=>xT a.length bk.1.xs o λex a' h'=>match ex with
   |.normal=>evT P fi specs y (n+Code.nl x) (m+1+Code.ns x) a' h' K
   |ex=>K ex a' h'
 |.cond c x y,n,m,a,h,K=>((arT P a 0 c).bind TD.boolT).bind λb=>match c with
  |.tmp t=>if b=true then evT P fi specs x n m (a.set t (ZoJ true)) h K else evT P fi specs y (n+Code.nl x) (m+Code.ns x) (a.set t (ZoJ false)) h K
  |_=>if b=true then evT P fi specs x n m a h K else evT P fi specs y (n+Code.nl x) (m+Code.ns x) a h K
 |.block id body,n,m,a,h,K=>evT P fi specs body n m a h λex a' h'=>K (ZrF id ex) a' h'
 |.loop body,n,m,a,h,K=>match ZjY n a h fi.lp with
  |some lp=>(lp.1.L lp.2).bind λo=>xT a.length lp.1.xs o K
  |none=>Zl1 (λa h K=>evT P fi specs body (n+1) m a h K) fi.un a h K
 |.scope body,n,m,a,h,K=>evT P fi specs body n m a h K
 |.exit id,_,_,a,h,K=>K (.exit id) a h
 |.ret,_,_,a,h,K=>K .ret a h
 |_,_,_,_,_,_=>none
def Xc:Code→List Code
 |.seq a b=>a::(Xc a++Xc b)
 |.cond _ a b=>Xc a++Xc b
 |.block _ a=>Xc a
 |.scope a=>Xc a
 |.loop a=>Xc a
 |_=>[]
theorem VO:∀c:Code,(Xc c).length=Code.ns c
 |.seq a b=>by simp only[Xc,yak,yp,VO a,VO b,Code.ns]
 |.cond _ a b=>by simp only[Xc,yp,VO a,VO b,Code.ns]
 |.block _ a=>by simp only[Xc,VO a,Code.ns]
 |.scope a=>by simp only[Xc,VO a,Code.ns]
 |.loop a=>by simp only[Xc,VO a,Code.ns]
 |.skip=>rfl
 |.region _ _ _=>rfl
 |.rangeFunc _ _ _ _=>rfl
 |.exit _=>rfl
 |.ret=>rfl
 |.label _=>rfl
 |.goto _=>rfl
 |.refuse _=>rfl
def Zew(P:yf)(fi:FI)(N:Nat)(c:Code)(m:Nat):Prop:=∀(k:Nat)(x:Code),(Xc c)[k]? =some x→∀bk,(m+k,bk)∈fi.bk→bk.Is P N x
theorem ZAq{fi:FI}{N:Nat}{x y c:Code}{m:Nat}(e:Xc c=Xc x++Xc y)(h:Zew P fi N c m):Zew P fi N x m:=λk b hk=>h k b (by
 rw[e,yal (yq.1 hk).1];exact hk)
theorem Zyx{fi:FI}{N:Nat}{x y c:Code}{m:Nat}(e:Xc c=Xc x++Xc y)(h:Zew P fi N c m):Zew P fi N y (m+Code.ns x):=λk b hk lp hl=>h (Code.ns x+k) b (by
 rw[e,yaq (by rw[VO];omega),VO];rw[show Code.ns x+k - Code.ns x=k by omega];exact hk) lp (by rw[←ycf];exact hl)
theorem ZAr{fi:FI}{N:Nat}{x y:Code}{m:Nat}(h:Zew P fi N (.seq x y) m):Zew P fi N x (m+1):=λk b hk lp hl=>h (k+1) b (by
 rw[Xc,yaw,yal (yq.1 hk).1];exact hk) lp (by rw[show m+(k+1)=m+1+k by omega];exact hl)
theorem ZtN{fi:FI}{N:Nat}{x y:Code}{m:Nat}(h:Zew P fi N (.seq x y) m):Zew P fi N y (m+1+Code.ns x):=λk b hk lp hl=>h (Code.ns x+k+1) b (by
 rw[Xc,yaw,yaq (by rw[VO];omega),VO];rw[show Code.ns x+k - Code.ns x=k by omega];exact hk) lp (by rw[show m+(Code.ns x+k+1)=m+1+Code.ns x+k by omega];exact hl)
def ZgE(P:yf)(fi:FI)(N:Nat)(c:Code)(n:Nat):Prop:=∀(k:Nat)(b:Code),(Zw c)[k]? =some (.loop b)→∀lp,(n+k,lp)∈fi.lp→lp.Ok P N b
theorem ZtO{fi:FI}{N:Nat}{x y c:Code}{n:Nat}(e:Zw c=Zw x++Zw y)(h:ZgE P fi N c n):ZgE P fi N x n:=λk b hk=>h k b (by
 rw[e,yal (yq.1 hk).1];exact hk)
theorem Zp3{fi:FI}{N:Nat}{x y c:Code}{n:Nat}(e:Zw c=Zw x++Zw y)(h:ZgE P fi N c n):ZgE P fi N y (n+Code.nl x):=λk b hk lp hl=>h (Code.nl x+k) b (by
 rw[e,yaq (by rw[VN];omega),VN];rw[show Code.nl x+k - Code.nl x=k by omega];exact hk) lp (by rw[←ycf];exact hl)
theorem Xr{O:Type}{fi:FI}{specs:Sp P}{out:O}{N:Nat}(ok:SpOk specs):∀(c:Code)(n m:Nat)(a:List TD)(h:List TEnt)(K:Kc O),a.length=N→ZgE P fi N c n→Zew P fi N c m→evT P fi specs c n m a h K=some out→
 ∃ex a' h',K ex a' h'=some out∧a'.length=N∧Y6 P c (TD.ers (lk h) a) (erH h) ex (TD.ers (lk h') a') (erH h')
 |.skip,n,m,a,h,K,hN,hl,hb0,k=>⟨_,_,_,k,hN,Zyu⟩
 |.label _,n,m,a,h,K,hN,hl,hb0,k=>⟨_,_,_,k,hN,ZvG⟩
 |.exit _,n,m,a,h,K,hN,hl,hb0,k=>⟨_,_,_,k,hN,Zyv⟩
 |.ret,n,m,a,h,K,hN,hl,hb0,k=>⟨_,_,_,k,hN,ZAo⟩
 |.region id ops draw,n,m,a,h,K,hN,hl,hb0,k=>by
  unfold evT at k
  cases draw with
  |true=>
   rw[if_pos rfl] at k;obtain⟨a',h',k1,k2,k3⟩:=Zyn ok k
   exact⟨_,_,_,k1,by rw[k2,hN],k3 id⟩
  |false=>
   rw[if_neg (by decide)] at k;split at k
   ·obtain⟨a',h',k1,k2,k3⟩:=Zys ok k;exact⟨_,_,_,k1,by rw[k2,hN],k3 id⟩
   ·obtain⟨a',h',hs,k1,k2,k3⟩:=Zyo ok k
    exact⟨_,_,_,k1,by rw[k2,hN],k3 id⟩
 |.seq x y,n,m,a,h,K,hN,hl,hb0,k=>by
  have hx:=ZtO (x:=x) (y:=y) rfl hl;have hy:=Zp3 (x:=x) (y:=y) rfl hl;unfold evT at k;obtain⟨a0,h0,k,hN0,gst⟩:=ZAn k;rw[hN] at hN0
  suffices key:∃ex a' h',K ex a' h'=some out∧a'.length=N∧Y6 P (.seq x y) (TD.ers (lk h0) a0) (erH h0) ex (TD.ers (lk h') a') (erH h') by
   obtain⟨ex,a',h',g1,g2,g3⟩:=key;exact⟨ex,a',h',g1,g2,ZCv gst g3⟩
  clear gst;have hN:=hN0;clear hN0;split at k
  ·obtain⟨ex,a1,h1,k1,k2,k3⟩:=Xr ok x _ _ _ _ _ hN hx (ZAr hb0) k;split at k1
   ·obtain⟨ex2,a2,h2,k4,k5,k6⟩:=Xr ok y _ _ _ _ _ k2 hy (ZtN hb0) k1;exact⟨_,_,_,k4,k5,ZtL k3 k6⟩
   ·rename_i hne;exact⟨_,_,_,k1,k2,Zp0 hne k3⟩
  ·rename_i bkv hbk;obtain⟨bk,v⟩:=bkv;obtain⟨hbk,vs,j1,j2⟩:=Zcz hbk;dsimp only at hbk j1 j2 k;obtain⟨o,j3,k⟩:=yc.1 k;obtain⟨e,vs',s,g1,g2,g3⟩:=Ziy k;obtain⟨a3,h3,j4,j5⟩:=Zp2 rfl j1;have hok:=hb0 0 x rfl bk (by rw[Nat.add_zero];exact hbk);rw[hN] at g2 j4;have e1:=VM _ _ _ j2;have r:=hok v o j3 (a3,h3) (by rw[e1];exact j4) e vs' s g1 g2
   have k3:Y6 P x (TD.ers (lk h0) a0) (erH h0) e.ex (TD.ers (lk s.2) s.1) (erH s.2):=by
    intro σ act okσ hH hrep;obtain⟨σ1,p1,p2,p3,p4,p5⟩:=j5 σ act okσ hH hrep;rw[←p1];refine wp_mono (r σ1 act p4 p2 p5) ?_;rintro e' a' w' ⟨rfl,σ2,q1,q2,q3,q4,q5⟩;exact⟨rfl,σ2,q1,q2,p3.trans q3,q4,q5⟩
   split at g3
   ·rename_i he;rw[he] at k3;obtain⟨ex2,a2,h2,k4,k5,k6⟩:=Xr ok y _ _ _ _ _ (Zgh g2) hy (ZtN hb0) g3;exact⟨_,_,_,k4,k5,ZtL k3 k6⟩
   ·rename_i hne
    exact⟨_,_,_,g3,Zgh g2,Zp0 hne k3⟩
 |.cond c x y,n,m,a,h,K,hN,hl,hb0,k=>by
  have hx:=ZtO (x:=x) (y:=y) rfl hl;have hy:=Zp3 (x:=x) (y:=y) rfl hl;have bx:=ZAq (x:=x) (y:=y) rfl hb0;have bY:=Zyx (x:=x) (y:=y) rfl hb0;unfold evT at k;obtain⟨b,k0,k⟩:=yc.1 k;obtain⟨d,k00,k01⟩:=yc.1 k0;have hc:=Zm (L:=lk h) k00;rw[Zds k01] at hc;split at k
  ·rename_i t;cases k00;have e:=ZtB k01;split at k
   ·rename_i hb;subst hb;rw[set_same e] at k;obtain⟨ex,a1,h1,k1,k2,k3⟩:=Xr ok x _ _ _ _ _ hN hx bx k;exact⟨_,_,_,k1,k2,Zgj hc k3⟩
   ·rename_i hb;have hb:b=false:=by simpa using hb
    subst hb;rw[set_same e] at k;obtain⟨ex,a1,h1,k1,k2,k3⟩:=Xr ok y _ _ _ _ _ hN hy bY k;exact⟨_,_,_,k1,k2,Zgj hc k3⟩
  ·split at k
   ·rename_i hb;subst hb;obtain⟨ex,a1,h1,k1,k2,k3⟩:=Xr ok x _ _ _ _ _ hN hx bx k;exact⟨_,_,_,k1,k2,Zgj hc k3⟩
   ·rename_i hb;have hb:b=false:=by simpa using hb
    subst hb;obtain⟨ex,a1,h1,k1,k2,k3⟩:=Xr ok y _ _ _ _ _ hN hy bY k
    exact⟨_,_,_,k1,k2,Zgj hc k3⟩
 |.block id body,n,m,a,h,K,hN,hl,hb0,k=>by
  unfold evT at k;obtain⟨ex,a1,h1,k1,k2,k3⟩:=Xr ok body _ _ _ _ _ hN hl hb0 k
  exact⟨_,_,_,k1,k2,ZvE k3⟩
 |.scope body,n,m,a,h,K,hN,hl,hb0,k=>by
  unfold evT at k;obtain⟨ex,a1,h1,k1,k2,k3⟩:=Xr ok body _ _ _ _ _ hN hl hb0 k
  exact⟨_,_,_,k1,k2,ZvF k3⟩
 |.loop body,n,m,a,h,K,hN,hl,hb0,k=>by
  unfold evT at k;split at k
  ·rename_i lpv hlp;obtain⟨lp,v⟩:=lpv;obtain⟨hlp,vs,j1,j2⟩:=Zcz hlp;dsimp only at hlp j1 j2 k;obtain⟨o,j3,k⟩:=yc.1 k;obtain⟨e,vs',s,g1,g2,g3⟩:=Ziy k;obtain⟨a3,h3,j4,j5⟩:=Zp2 rfl j1;have hok:=hl 0 body rfl lp (by rw[Nat.add_zero];exact hlp);rw[hN] at g2 j4;have e1:=VM _ _ _ j2;have r:=hok v o j3 (a3,h3) (by rw[e1];exact j4) e vs' s g1 g2;refine⟨_,_,_,g3,Zgh g2, ?_⟩;intro σ act okσ hH hrep;obtain⟨σ1,p1,p2,p3,p4,p5⟩:=j5 σ act okσ hH hrep;rw[←p1];refine wp_mono (r σ1 act p4 p2 p5) ?_;rintro e' a' w' ⟨rfl,σ2,q1,q2,q3,q4,q5⟩;exact⟨rfl,σ2,q1,q2,p3.trans q3,q4,q5⟩
  ·have hl1:ZgE P fi N body (n+1):=λk b hk lp hl2=>hl (k+1) b (by rw[Zw,yaw];exact hk) lp (by rw[show n+(k+1)=n+1+k by omega];exact hl2);obtain⟨ex,a1,h1,k1,k2,k3⟩:=ZkP (λa h K out hN k=>Xr ok body _ _ _ _ K hN hl1 hb0 k) _ _ _ _ _ hN k
   exact⟨ex,a1,h1,k1,k2,ZpF k3⟩
 |.rangeFunc _ _ _ _,_,_,_,_,_,_,_,_,k=>by cases k
 |.goto _,_,_,_,_,_,_,_,_,k=>by cases k
 |.refuse _,_,_,_,_,_,_,_,_,k=>by cases k
end
end Go.Ev
end
section
namespace Go.Ev
def Zk{I X:Type}(step:I→Option (I⊕X)):Nat→I→Option X
 |0,_=>none
 |n+1,i=>(step i).bind λr=>match r with
  |.inl j=>Zk step n j
  |.inr x=>some x
theorem ZAs:∃n:Nat,n=18446744073709551616:=⟨_,rfl⟩
noncomputable def fuel:Nat:=Classical.choose ZAs
theorem ZiG:fuel=18446744073709551616:=Classical.choose_spec ZAs
section
variable{P:yf}
def ZCz(n0:Nat)(ex:Ex)(a:List TD)(h:List TEnt):(l:List XSh)→Option (XSh.sum l)
 |[]=>none
 |[e]=>if ex=e.ex then(ZrG n0 e.sl e.es a h).bind λvs=>toD e.ty vs else none
 |e::f::r=>match (if ex=e.ex then(ZrG n0 e.sl e.es a h).bind λvs=>toD e.ty vs else none) with
  |some x=>some (Sum.inl x:Ty.dens e.ty⊕XSh.sum (f::r))
  |none=>(ZCz n0 ex a h (f::r)).map λx=>(Sum.inr x:Ty.dens e.ty⊕XSh.sum (f::r))
theorem Zp4{n0:Nat}{ex:Ex}{a:List TD}{h:List TEnt}:∀{l:List XSh}{o:XSh.sum l},ZCz n0 ex a h l=some o→∀e vs,Zts l o e vs→ex=e.ex∧ZrG n0 e.sl e.es a h=some vs
 |[],_,k,_,_,_=>by cases k
 |[e],o,k,x,vs,hs=>by
  obtain⟨rfl,rfl⟩:=hs;have k:(if ex=x.ex then(ZrG n0 x.sl x.es a h).bind λvs=>toD x.ty vs else none)=some o:=k
  split at k
  ·rename_i he;obtain⟨ws,h1,h2⟩:=yc.1 k;exact⟨he,by rw[h1,VM _ _ _ h2]⟩
  ·cases k
 |e::f::r,o,k,x,vs,hs=>by
  simp only[ZCz] at k;split at k
  ·rename_i y hy;cases k;obtain⟨rfl,rfl⟩:=hs;split at hy
   ·rename_i he;obtain⟨ws,h1,h2⟩:=yc.1 hy;exact⟨he,by rw[h1,VM _ _ _ h2]⟩
   ·cases hy
  ·obtain⟨y,h1,h2⟩:=Zd k;subst h2;exact Zp4 h1 x vs hs
def Zp5(P:yf)(fi:FI)(specs:Sp P)(body:Code)(n N:Nat)(sl:Slots)(es:List ESh)(I:List Ty)(xs:List XSh):Ty.dens I→Option (Ty.dens I⊕XSh.sum xs):=λv=>
 (XZ N sl es (ofD I v)).bind λs=>evT P fi specs body (n+1) 0 s.1 s.2 λex a h=>match ex with
   |.normal=>(ZrG s.2.length sl es a h).bind λvs=>(toD I vs).map .inl
   |ex=>(ZCz s.2.length ex a h xs).map .inr
theorem ZAt{fi:FI}{specs:Sp P}{body:Code}{n N:Nat}{sl:Slots}{es:List ESh}{I:List Ty}{xs:List XSh}(ok:SpOk specs)(hl:ZgE P fi N body (n+1))(hb0:Zew P fi N body 0):
 ∀(f:Nat)(v:Ty.dens I)(o:XSh.sum xs),Zk (Zp5 P fi specs body n N sl es I xs) f v=some o→∀s,XZ N sl es (ofD I v)=some s→∀e vs s',Zts xs o e vs→XZ N e.sl e.es vs=some s'→
  ZpC P body (TD.ers (lk s.2) s.1) (erH s.2) e.ex (TD.ers (lk s'.2) s'.1) (erH s'.2)
 |0,_,_,h,_,_,_,_,_,_,_=>by cases h
 |f+1,v,o,h,s,hs,e,vs,s',hx,hs'=>by
  unfold Zk at h;obtain⟨r,h1,h2⟩:=yc.1 h;unfold Zp5 at h1;rw[hs,yb] at h1;obtain⟨ex,a,h3,k1,k2,k3⟩:=Xr ok body _ _ _ _ _ (Zgh hs) hl hb0 h1;split at k1
  ·obtain⟨ws,g1,k1⟩:=yc.1 k1;obtain⟨w,g2,rfl⟩:=Zd k1;obtain⟨a3,h4,g3,g4⟩:=Zp1 (P:=P) g1;rw[k2] at g3;have r1:=g4 (Zv _) k3;have:=ZAt ok hl hb0 f w o h2 (a3,h4) (by rw[VM _ _ _ g2];exact g3) e vs s' hx hs';exact ZpE [] r1 this
  ·rename_i hne;obtain⟨w,g2,rfl⟩:=Zd k1;cases h2;obtain⟨g5,g6⟩:=Zp4 g2 e vs hx;obtain⟨a3,h4,g3,g4⟩:=Zp1 (P:=P) g6;rw[k2,hs'] at g3;cases g3;subst g5;exact ZpD hne (g4 (Zv _) k3)
theorem ZFp{fi:FI}{specs:Sp P}{body:Code}{n N:Nat}{sl:Slots}{es:List ESh}{I:List Ty}{xs:List XSh}{step:Ty.dens I→Option (Ty.dens I⊕XSh.sum xs)}(f:Nat)(ok:SpOk specs)(hl:ZgE P fi N body (n+1))(hb0:Zew P fi N body 0)
 (h:∀v,Zp5 P fi specs body n N sl es I xs v=step v):Lp.Ok P N body ⟨sl,es,I,xs,Zk step f⟩:=by
 intro v o hL s hs e vs s' hx hs';have e1:Zp5 P fi specs body n N sl es I xs=step:=funext h;subst e1;exact ZpF (ZAt ok hl hb0 f v o hL s hs e vs s' hx hs')
theorem Q7:∀(c:Code)(k:Nat)(b:Code),(Zw c)[k]? =some (.loop b)→∀j x,(Zw b)[j]? =some x→(Zw c)[k+1+j]? =some x
 |.seq x y,k,b,h,j,z,hz=>by
  simp only[Zw] at h ⊢;rcases ybt k (Zw x).length with hl|hl
  ·rw[yal hl] at h;have:=Q7 x k b h j z hz;rw[yal (yq.1 this).1];exact this
  ·rw[yaq hl] at h;have:=Q7 y _ b h j z hz;rw[yaq (by omega)];rw[show k+1+j - (Zw x).length=k - (Zw x).length+1+j by omega]
   exact this
 |.cond _ x y,k,b,h,j,z,hz=>by
  simp only[Zw] at h ⊢;rcases ybt k (Zw x).length with hl|hl
  ·rw[yal hl] at h;have:=Q7 x k b h j z hz;rw[yal (yq.1 this).1];exact this
  ·rw[yaq hl] at h;have:=Q7 y _ b h j z hz;rw[yaq (by omega)];rw[show k+1+j - (Zw x).length=k - (Zw x).length+1+j by omega]
   exact this
 |.block _ a,k,b,h,j,z,hz=>Q7 a k b h j z hz
 |.scope a,k,b,h,j,z,hz=>Q7 a k b h j z hz
 |.loop a,k,b,h,j,z,hz=>by
  simp only[Zw] at h ⊢
  cases k with
  |zero=>
   simp only[ybu,yi,Code.loop.injEq] at h;subst h;rw[show 0+1+j=j+1 by omega,yaw]
   exact hz
  |succ k=>
   rw[yaw] at h;rw[show k+1+1+j=(k+1+j)+1 by omega,yaw]
   exact Q7 a k b h j z hz
 |.skip,_,_,h,_,_,_=>by simp[Zw] at h
 |.region _ _ _,_,_,h,_,_,_=>by simp[Zw] at h
 |.rangeFunc _ _ _ _,_,_,h,_,_,_=>by simp[Zw] at h
 |.exit _,_,_,h,_,_,_=>by simp[Zw] at h
 |.ret,_,_,h,_,_,_=>by simp[Zw] at h
 |.label _,_,_,h,_,_,_=>by simp[Zw] at h
 |.goto _,_,_,h,_,_,_=>by simp[Zw] at h
 |.refuse _,_,_,h,_,_,_=>by simp[Zw] at h
def ZiH(P:yf)(g:yr)(N:Nat):List (Nat×Lp)→Prop
 |[]=>True
 |q::r=>q.2.Ok P N (Qm P g q.1)∧ZiH P g N r
theorem ZjZ{g:yr}{N:Nat}:∀{l:List (Nat×Lp)}{n:Nat}{lp:Lp},ZiH P g N l→(n,lp)∈l→lp.Ok P N (Qm P g n)
 |[],_,_,_,h=>by cases h
 |q::r,n,lp,hk,h=>by
  rcases ybd.1 h with h|h
  ·subst h;exact hk.1
  ·exact ZjZ hk.2 h
def Zao(P:yf)(g:yr):Code:=
 match P.funcs[g]? with
 |some fn=>fn.body.getD .skip
 |none=>.skip
theorem Zj0{g:yr}{k:Nat}{b:Code}(h:(Zw (Zao P g))[k]? =some (.loop b)):Qm P g k=b:=by
 unfold Qm Zzg;unfold Zao at h;split at h
 ·rename_i fn hf;rw[hf];dsimp only
  cases hb:fn.body with
  |none=>rw[hb] at h;simp[Zw] at h
  |some c=>
   rw[hb] at h;dsimp only[Option.getD] at h ⊢;rw[ycw,h];rfl
 ·simp[Zw] at h
theorem Zw0{g:yr}{fi:FI}{N:Nat}(h:ZiH P g N fi.lp):ZgE P fi N (Zao P g) 0:=by
 intro k b hk lp hl;rw[yay] at hl;rw[←Zj0 hk];exact ZjZ h hl
theorem ZAu{g:yr}{fi:FI}{N k:Nat}(hk:(Zw (Zao P g))[k]? =some (.loop (Qm P g k)))(h:ZiH P g N fi.lp):ZgE P fi N (Qm P g k) (k+1):=by
 intro j b hj lp hl;have:=Q7 _ _ _ hk j _ hj;rw[←Zj0 this];exact ZjZ h hl
def ZiI(P:yf)(g k:Nat):Bool:=
 match (Zw (Zao P g))[k]? with
 |some (.loop _)=>true
 |_=>false
theorem ZoM{g k:Nat}(h:ZiI P g k=true):(Zw (Zao P g))[k]? =some (.loop (Qm P g k)):=by
 unfold ZiI at h;split at h
 ·rename_i b hb;rw[hb,Zj0 hb]
 ·cases h
def ZAv(c:Code)(m:Nat):Code:=((Xc c)[m]?).getD .skip
def Zp6(P:yf)(N:Nat)(c:Code):List (Nat×Lp)→Prop
 |[]=>True
 |q::r=>q.2.Is P N (ZAv c q.1)∧Zp6 P N c r
theorem Zp7{N:Nat}{c:Code}:∀{l:List (Nat×Lp)}{m:Nat}{bk:Lp},Zp6 P N c l→(m,bk)∈l→bk.Is P N (ZAv c m)
 |[],_,_,_,h=>by cases h
 |q::r,m,bk,hk,h=>by
  rcases ybd.1 h with h|h
  ·subst h;exact hk.1
  ·exact Zp7 hk.2 h
theorem ZrH{fi:FI}{N:Nat}{c:Code}(h:Zp6 P N c fi.bk):Zew P fi N c 0:=by
 intro k x hk bk hl;rw[yay] at hl;have:=Zp7 h hl;unfold ZAv at this;rw[hk] at this;exact this
theorem ZiJ{fi:FI}{specs:Sp P}{g k N:Nat}{sl:Slots}{es:List ESh}{I:List Ty}{xs:List XSh}{step:Ty.dens I→Option (Ty.dens I⊕XSh.sum xs)}(ok:SpOk specs)(hl:ZiH P g N fi.lp:=by exact True.intro)(hk:ZiI P g k=true:=by kernel_rfl)
 (h:∀v,Zp5 P fi specs (Qm P g k) k N sl es I xs v=step v:=by intro v;kernel_rfl) (hb:Zp6 P N (Qm P g k) fi.bk:=by exact True.intro):Lp.Ok P N (Qm P g k) ⟨sl,es,I,xs,Zk step fuel⟩:=
 ZFp fuel ok (ZAu (ZoM hk) hl) (ZrH hb) h
def ZoN{O:Type}(P:yf)(a:List TD)(h:List TEnt):List ResultVar→(List TD→List Hint→Option O)→Option O
 |[],K=>K [] []
 |.tmp t::r,K=>ZoN P a h r λds hs=>K (a.getD t .junk::ds) hs
 |.cell t ty::r,K=>match a.getD t .junk with
  |.ref id path=>(ZmX h id).bind λd=>gpT (lk h) path d λsub hs _=>if okT P ty (sub.er (lk h))=true then ZoN P a h r λds hs'=>K (sub::ds) (hs++hs') else none
  |_=>none
theorem Zdx{O:Type}{a:List TD}{h:List TEnt}{out:O}:∀(l:List ResultVar)(K:List TD→List Hint→Option O),ZoN P a h l K=some out→∃ds hs C,K ds hs=some out∧AllP C∧∀rest,Zou P (TD.ers (lk h) a) (erH h) l (hs++rest)=some (C,TD.ers (lk h) ds)
 |[],K,k=>⟨[],[],[],k,trivial,λ_=>rfl⟩
 |.tmp t::r,K,k=>by
  obtain⟨ds,hs,C,k1,k2,k3⟩:=Zdx r _ k;refine⟨_,_,C,k1,k2,λrest=> ?_⟩
  simp only[Zou,k3 rest,yz,Zij,TD.ers]
 |.cell t ty::r,K,k=>by
  unfold ZoN at k;split at k
  ·rename_i id path hx;obtain⟨d,h1,k⟩:=yc.1 k;obtain⟨st,h2,h3⟩:=Zby h1;obtain⟨sub,hs,put,C,g1,g2,g3,_⟩:=YG _ _ _ _ k;obtain⟨g4,g5⟩:=Za g1;obtain⟨ds,hs',C',k1,k2,k3⟩:=Zdx r _ g5;refine⟨_,_,C++[Vv path=Y9 path]++C',k1,Zj.2 ⟨Zj.2 ⟨g2,(YL _).symm,ytt⟩,k2⟩,λrest=> ?_⟩;unfold Zou;rw[Zij,hx];dsimp only[TD.er];rw[h3];dsimp only;rw[yam,g3 (hs'++rest)];dsimp only;rw[if_pos g4,k3 rest];rfl
  ·cases k
def Zno:List TD→TD
 |[d]=>d
 |ds=>.tup ds
theorem Zgk{L:Lk}(ds:List TD):(Zno ds).er L=Zl9 (TD.ers L ds):=by
 match ds with
 |[]=>rfl
 |[d]=>rfl
 |_::_::_=>rfl
def TD.arg(L:Lk):TD→TD
 |.own id nn t c=>.p (.sl nn t (ZN L id t c))
 |.agg ds=>TD.melt L ds
 |d=>d
theorem ZvJ{L:Lk}(d:TD):(d.arg L).er L=(d.er L).arg:=by
 cases d <;> first|rfl|exact Zwy _
def ZAw(h:List TEnt)(rs:Sh)(es:List ESh)(n0:Nat)(r:TD):Option (List Nat):=
 let l:=ZEd h es 0 ((yu n0).map (λi=>(i,i))++Sh.ids rs r)
 ((yu es.length).drop n0).mapM λj=>l.lookup j
def ZCA(h:List TEnt)(n0:Nat)(ds:List TD)(e:XSh):Option (Ty.dens e.ty):=
 match e.sl with
 |[(0,rs)]=>(ZAw h rs e.es n0 (Zno ds)).bind λkeep=>
  if once (yu n0++keep) then(match Dv.rn (toIds (yu n0++keep)) ((Zno ds).er (lk h)) with
   |some _=>(Zno ds).rn (toIds (yu n0++keep))
   |none=>(Zno (ds.map (TD.arg (lk h)))).rn (toIds (yu n0++keep))).bind λr=>
   (Xa h (yu n0++keep) (yu n0++keep)).bind λh2=>(Sh.mt (lk h2) rs r).bind λq=>(ESh.mts (lk h2) e.es h2).bind λw=>toD e.ty (q.2++w.2)
  else none
 |_=>none
def ZtP(h:List TEnt)(n0:Nat)(ds:List TD):(l:List XSh)→Option (XSh.sum l)
 |[]=>none
 |[e]=>ZCA h n0 ds e
 |e::f::r=>match ZCA h n0 ds e with
  |some x=>some (Sum.inl x:Ty.dens e.ty⊕XSh.sum (f::r))
  |none=>(ZtP h n0 ds (f::r)).map λx=>(Sum.inr x:Ty.dens e.ty⊕XSh.sum (f::r))
theorem Znp{h:List TEnt}{n0:Nat}{ds:List TD}:∀{l:List XSh}{o:XSh.sum l},ZtP h n0 ds l=some o→∀e vs,Zts l o e vs→∃x,ZCA h n0 ds e=some x∧vs=ofD e.ty x
 |[],_,k,_,_,_=>by cases k
 |[e],o,k,x,vs,hs=>by
  obtain⟨rfl,rfl⟩:=hs
  exact⟨o,k,rfl⟩
 |e::f::r,o,k,x,vs,hs=>by
  simp only[ZtP] at k;split at k
  ·rename_i y hy;cases k;obtain⟨rfl,rfl⟩:=hs;exact⟨y,hy,rfl⟩
  ·obtain⟨y,h1,h2⟩:=Zd k;subst h2;exact Znp h1 x vs hs
def fnT(P:yf)(fi:FI)(specs:Sp P)(g:yr)(ps:List Sh)(es:List ESh)(ins:List Ty)(xs:List XSh):Ty.dens ins→Option (XSh.sum xs):=λx=>
 match P.funcs[g]? with
 |some fn=>match fn.body with
  |some c=>(Sh.fills ps (ofD ins x)).bind λq=>(ESh.fills es q.2).bind λw=>if w.2.isEmpty then
    evT P fi specs c 0 0 (q.1++yab (fn.ntmps - q.1.length) .junk) w.1 λex a h=>match ex with
     |.exit _=>none
     |_=>ZoN P a h fn.results.toList λds _=>ZtP h w.1.length ds xs
    else none
  |none=>none
 |none=>none
def Qt(P:yf)(g:yr):Nat:=
 match P.funcs[g]? with
 |some fn=>fn.ntmps
 |none=>0
theorem ZFq{fi:FI}{specs:Sp P}{g:yr}{ps:List Sh}{es:List ESh}{ins:List Ty}{xs:List XSh}{M:Ty.dens ins→Option (XSh.sum xs)}(ok:SpOk specs)(hl:ZiH P g (Qt P g) fi.lp:=by exact True.intro)(hn:ps.length≤Qt P g:=by decide+kernel)
 (h:∀x,fnT P fi specs g ps es ins xs x=M x:=by intro v;kernel_rfl) (hb:Zp6 P (Qt P g) (Zao P g) fi.bk:=by exact True.intro):Fs.Ok (⟨g,ps,es,ins,xs,M⟩:Fs P):=by
 intro x o hM;have hM:M x=some o:=hM;rw[←h x] at hM;have hl':=Zw0 hl;unfold fnT at hM;split at hM
 ·rename_i fn hf;split at hM
  ·rename_i c hb1;obtain⟨q,h1,hM⟩:=yc.1 hM;obtain⟨w,h2,hM⟩:=yc.1 hM;obtain⟨h3,hM⟩:=Za hM;have hN:Qt P g=fn.ntmps:=by unfold Qt;rw[hf]
   have hc:Zao P g=c:=by unfold Zao;rw[hf];dsimp only;rw[hb1];rfl
   rw[hc,hN] at hl' hb;have hb0:=ZrH hb;rw[hN] at hn
   have hlen:(q.1++yab (fn.ntmps - q.1.length) TD.junk).length=fn.ntmps:=by
    rw[yp,ycq,Zgg h1];omega
   obtain⟨ex,a,hh,k1,k2,k3⟩:=Xr ok c _ _ _ _ _ hlen hl' hb0 hM
   have hex:(ex=.ret∨ex=.normal)∧(ZoN P a hh fn.results.toList λds _=>ZtP hh w.1.length ds xs)=some o:=by
    cases ex with
    |exit _=>cases k1
    |normal=>exact⟨.inr rfl,k1⟩
    |ret=>exact⟨.inl rfl,k1⟩
   obtain⟨hex,k1⟩:=hex;obtain⟨ds,hs,C,g1,g2,g3⟩:=Zdx _ _ k1;refine⟨q.1,q.2,w.1,h1, ?_,λe vs s' hsel hfs=> ?_⟩
   ·rw[h2];have:w.2=[]:=by simpa using h3
    rw[←this]
   obtain⟨o1,g1,hvs⟩:=Znp g1 e vs hsel;unfold ZCA at g1;split at g1
   case h_2=>cases g1
   rename_i rs hsl;obtain⟨keep,g4,g1⟩:=yc.1 g1;obtain⟨g5,g1⟩:=Za g1;obtain⟨r,g6,g1⟩:=yc.1 g1;obtain⟨e2,g7,g1⟩:=yc.1 g1;obtain⟨z,g8,g1⟩:=yc.1 g1;obtain⟨y,g9,g1⟩:=yc.1 g1;obtain⟨b1,b2⟩:=Zdv g9;have hcc:∀id t,ZN (lk e2) id t none=ZN (lk y.1) id t none:=λid t=>by rw[b2]
   have eo:=VM _ _ _ g1
   have efill:s'=([z.1],y.1):=by
    rw[hvs,eo,hsl] at hfs;unfold XZ at hfs;rw[show shs [(0,rs)] 1=[rs] from rfl] at hfs
    simp only[Sh.fills,Zge _ _ _ g8,yb,yz] at hfs;have:=Vd g9 [];rw[ybk] at this;rw[this] at hfs;exact(ybf hfs).symm
   subst efill;refine⟨z.1,rfl, ?_⟩
   have hfin:fin P fn (TD.ers (lk hh) a) (erH hh) (erH w.1).length keep hs=some (C,r.er (lk e2),erH e2):=by
    unfold fin;have:=g3 [];rw[ybk] at this;rw[this];dsimp only;rw[Zv,g5, ←Zgk,show subEnts (erH hh) _ _=some (erH e2) from YW (W1 g7) g7]
    split at g6
    ·rename_i r0 hr0;have e4:=ZbB (W1 g7) _ _ g6;rw[e4]
    ·rename_i hr0;have e4:=ZbB (W1 g7) _ _ g6;rw[Zgk,Zs,yax] at e4
     rw[hr0,show(TD.ers (lk hh) ds).map Dv.arg=ds.map (TD.er (lk hh) ∘ TD.arg (lk hh)) by
      rw[Zs,yax];exact ycg λd _=>(ZvJ d).symm,e4]
   have hrun:Y6 P c (TD.ers (lk w.1) q.1++yab (fn.ntmps - (TD.ers (lk w.1) q.1).length) .junk) (erH w.1) ex (TD.ers (lk hh) a) (erH hh):=by
    have e5:TD.ers (lk w.1) (q.1++yab (fn.ntmps - q.1.length) TD.junk)=TD.ers (lk w.1) q.1++yab (fn.ntmps - (TD.ers (lk w.1) q.1).length) .junk:=by
     rw[Zcs,Zs,Zs,yaj,List.map_replicate];rfl
    rw[←e5];exact k3
   exact ZsS (Zfd hf hb1 hrun hex hfin g2) (Zm5 hcc _ _ _ g8) (Zgf hcc g9)
  ·cases hM
 ·cases hM
end
theorem ZvK{P:yf}{g:yr}{t:Ty}{xs:List XSh}{MA:Ty.dens [.sl t]→Option (XSh.sum xs)}{MB:Ty.dens []→Option (XSh.sum xs)}(hA:Fs.Ok (⟨g,[.sl true t],[],[.sl t],xs,MA⟩:Fs P))(hB:Fs.Ok (⟨g,[.nil t],[],[],xs,MB⟩:Fs P))
 (h:MB ()=MA ([]:List t.den)):Fs.Ok (⟨g,[.v (.sl t)],[],[.sl t],xs,MA⟩:Fs P):=by
 intro l o hM;have key:∀(l:List t.den),Ty.cast (.sl t) (.sl t) l=some l:=λl=>ZZ (.sl t) l;obtain⟨a1,R1,H1,f1,f2,f3⟩:=hA l o hM
 have e1:a1=[.p (.sl (some true) t l)]∧R1=[]:=by
  have:Sh.fills [.sl true t] [(⟨.sl t,l⟩:TV)]=some (a1,R1):=f1;simp only[Sh.fills,Sh.fill] at this;rw[key l] at this;have this:some (([.p (.sl (some true) t l)]:List TD),([]:List TV))=some (a1,R1):=this;cases this;exact⟨rfl,rfl⟩
 obtain⟨rfl,rfl⟩:=e1;cases f2;refine⟨[.p (.v (.sl t) l)],[],[], ?_,rfl,λe vs s' hs hf=> ?_⟩
 ·show Sh.fills [.v (.sl t)] [(⟨.sl t,l⟩:TV)]=_;simp only[Sh.fills,Sh.fill];rw[key l];rfl
 ·obtain⟨r,r1,r2⟩:=f3 e vs s' hs hf;refine⟨r,r1, ?_⟩;refine Zwq (xs:=l.map t.enc) r2 λhl=> ?_;have hl:l=[]:=List.map_eq_nil_iff.1 hl;subst hl;obtain⟨a2,R2,H2,g1,g2,g3⟩:=hB () o (by rw[←hM];exact h);cases g1;cases g2;obtain⟨r',r1',r2'⟩:=g3 e vs s' hs hf;rw[r1] at r1';cases r1';exact r2'
def Znq(n:Int):Option (List UInt8):=if(decide (0≤n)&&decide (n.toNat≤Zn))=true then some [] else none
theorem ZCB{P:yf}{g:yr}{e:ya}(h:∀n:Nat,n≤Zn→Con P g [.p (.sl (some false) 1 []),.p (.int .i64 (n:Int))] [] (.own 0 none 1 []) [.log 1 e []]):
 Fs.Ok (⟨g,[.nil .u8,.v (.int .i64)],[],[.int .i64],[⟨.ret,[(0,.own 0 .u8)],[.log .u8 e],[.sl .u8]⟩],Znq⟩:Fs P):=by
 intro n o hM
 have key:∀(n:Int),Znq n=some o→(0≤n∧n.toNat≤Zn)∧([]:List UInt8)=o:=λn hM=>by
  unfold Znq at hM;obtain⟨h1,h2⟩:=Za (α:=List UInt8) hM;rw[yh,decide_eq_true_eq,decide_eq_true_eq] at h1;exact⟨h1,ybf h2⟩
 obtain⟨h1,h2⟩:=key n hM;cases h2;refine⟨[.p (.sl (some false) .u8 []),.p (.v (.int .i64) n)],[],[],rfl,rfl,λx vs s' hs hf=> ?_⟩;obtain⟨rfl,rfl⟩:=hs;cases hf;refine⟨_,rfl, ?_⟩;have:=h (Int.toNat n) h1.2;rw[Int.toNat_of_nonneg h1.1] at this;exact this
mutual
theorem Zp8:∀(s:Sh)(vs w:List TV)(q:TD×List TV),s.fill vs=some q→s.fill (vs++w)=some (q.1,q.2++w)
 |.v t,vs,w,q,h=>by
  cases vs with
  |nil=>cases h
  |cons x r=>
   obtain⟨y,h1,rfl⟩:=Zd (show(Ty.cast x.1 t x.2).map (λy=>((TD.p (.v t y),r):TD×List TV))=some q from h)
   show(Ty.cast x.1 t x.2).map (λy=>((TD.p (.v t y),r++w):TD×List TV))=_
   rw[h1];rfl
 |.elem t,vs,w,q,h=>by
  cases vs with
  |nil=>cases h
  |cons x r=>
   obtain⟨y,h1,rfl⟩:=Zd (show(Ty.cast x.1 t x.2).map (λy=>((TD.elem (.v t y),r):TD×List TV))=some q from h)
   show(Ty.cast x.1 t x.2).map (λy=>((TD.elem (.v t y),r++w):TD×List TV))=_
   rw[h1];rfl
 |.sl nn t,vs,w,q,h=>by
  cases vs with
  |nil=>cases h
  |cons x r=>
   obtain⟨y,h1,rfl⟩:=Zd (α:=(Ty.sl t).den) (show(Ty.cast x.1 (.sl t) x.2).map (λ(y:List t.den)=>((TD.p (.sl (some nn) t y),r):TD×List TV))=some q from h)
   show(Ty.cast x.1 (.sl t) x.2).map (λ(y:List t.den)=>((TD.p (.sl (some nn) t y),r++w):TD×List TV))=_
   rw[h1];rfl
 |.nil _,vs,w,q,h=>by cases h;rfl
 |.own _ _,vs,w,q,h=>by cases h;rfl
 |.ref _ _,vs,w,q,h=>by cases h;rfl
 |.mp _,vs,w,q,h=>by cases h;rfl
 |.rw _,vs,w,q,h=>by cases h;rfl
 |.rp j s p,vs,w,q,h=>by
  cases vs with
  |nil=>cases h
  |cons x r=>
   obtain⟨y,h1,rfl⟩:=Zd (α:=Int) (show(Ty.cast x.1 (.int .i64) x.2).map (λ(i:Int)=>((TD.rp j (.ix i.toNat s::p),r):TD×List TV))=some q from h)
   show(Ty.cast x.1 (.int .i64) x.2).map (λ(i:Int)=>((TD.rp j (.ix i.toNat s::p),r++w):TD×List TV))=_
   rw[h1];rfl
 |.view _ _ _ _ _,vs,w,q,h=>by cases h;rfl
 |.rv _ _ _ _ _,vs,w,q,h=>by cases h;rfl
 |.fn g l,vs,w,q,h=>by
  simp only[Sh.fill] at h ⊢;obtain⟨y,h1,rfl⟩:=Zd h
  rw[fills_more l vs w y h1];rfl
 |.agg l,vs,w,q,h=>by
  simp only[Sh.fill] at h ⊢;obtain⟨y,h1,rfl⟩:=Zd h
  rw[fills_more l vs w y h1];rfl
 |.arr n s l,vs,w,q,h=>by
  simp only[Sh.fill] at h ⊢;obtain⟨y,h1,rfl⟩:=Zd h
  rw[fills_more l vs w y h1];rfl
 |.tup l,vs,w,q,h=>by
  simp only[Sh.fill] at h ⊢;obtain⟨y,h1,rfl⟩:=Zd h
  rw[fills_more l vs w y h1];rfl
 |.iface t x,vs,w,q,h=>by
  simp only[Sh.fill] at h ⊢;obtain⟨y,h1,rfl⟩:=Zd h
  rw[Zp8 x vs w y h1];rfl
 |.ptr0,vs,w,q,h=>by cases h;rfl
 |.fn0,vs,w,q,h=>by cases h;rfl
 |.if0,vs,w,q,h=>by cases h;rfl
 |.map0,vs,w,q,h=>by cases h;rfl
 |.junk,vs,w,q,h=>by cases h;rfl
theorem fills_more:∀(l:List Sh)(vs w:List TV)(q:List TD×List TV),Sh.fills l vs=some q→Sh.fills l (vs++w)=some (q.1,q.2++w)
 |[],vs,w,q,h=>by simp only[Sh.fills] at h;cases h;rfl
 |s::r,vs,w,q,h=>by
  simp only[Sh.fills] at h ⊢;obtain⟨a,h1,h⟩:=yc.1 h;obtain⟨b,h2,rfl⟩:=Zd h;rw[Zp8 s vs w a h1,yb,fills_more r a.2 w b h2];rfl
end
theorem ZEp{P:yf}{g:yr}{t:Ty}{e:ya}{rest:List Sh}{i1 i2:List Ty}{xs:List XSh}{M:Ty.dens i2→Option (XSh.sum xs)}(pk:Ty.dens i1→Ty.dens i2)(h:Fs.Ok (⟨g,.own 0 t::rest,[.log t e],i2,xs,M⟩:Fs P))
 (hp:∀x,ofD i2 (pk x)=ofD i1 x++[⟨.sl t,([]:List t.den)⟩]) (hf:∀x,∃a,Sh.fills rest (ofD i1 x)=some (a,[])):Fs.Ok (⟨g,.nil t::rest,[],i1,xs,λx=>M (pk x)⟩:Fs P):=by
 intro x o hM;obtain⟨args,R,H,f1,f2,f3⟩:=h (pk x) o hM;obtain⟨a,ha⟩:=hf x;have f1:Sh.fills (.own 0 t::rest) (ofD i2 (pk x))=some (args,R):=f1;rw[hp x] at f1;simp only[Sh.fills,Sh.fill,yb,fills_more rest _ _ _ ha,yz,yi,yj,yw] at f1;obtain⟨rfl,rfl⟩:=f1;have f2:((Ty.cast (.sl t) (.sl t) ([]:List t.den)).map λ(y:List t.den)=>((TEnt.log t e y,[]):TEnt×List TV)).bind (λa=>(ESh.fills [] a.2).map λb=>(a.1::b.1,b.2))=some (H,[]):=f2;have key:Ty.cast (.sl t) (.sl t) ([]:List t.den)=some ([]:List t.den):=ZZ (.sl t) ([]:List t.den);rw[key] at f2;cases f2;refine⟨.p (.sl (some false) t [])::a,[],[], ?_,rfl,λx' vs s' hs hf'=> ?_⟩
 ·show Sh.fills (.nil t::rest) (ofD i1 x)=_;simp only[Sh.fills,Sh.fill,yb,ha,yz]
 ·obtain⟨r,r1,r2⟩:=f3 x' vs s' hs hf';refine⟨r,r1, ?_⟩
  have e1:TD.ers (lk [.log t e []]) (.own 0 none t none::a)=.own 0 none t.size []::TD.ers (lk []) a:=by
   have e0:TD.ers (lk [.log t e []]) a=TD.ers (lk []) a:=(ers_cont (λid t'=>Ziu (H:=[]) (T:=t) (e:=e) id t') a).symm;rw[TD.ers,e0];congr 1;rw[TD.er,show ZN (lk [.log t e []]) 0 t none=[] from Qp (H:=[])]
   rfl
  have r2:Con P g (TD.ers (lk [.log t e []]) (.own 0 none t none::a)) (erH [.log t e []]) (r.er (lk s'.2)) (erH s'.2):=r2;rw[e1] at r2;exact ZsU (H:=[]) (e:=e) r2
section
variable{P:yf}
theorem fnO(h:HI)(lp:List (Nat×Lp))(l:List (Fs P))(a:AllOk l){g:yr}{ps:List Sh}{es:List ESh}{ins:List Ty}{xs:List XSh}{M:Ty.dens ins→Option (XSh.sum xs)}(hl:ZiH P g (Qt P g) lp:=by exact True.intro)(hn:ps.length≤Qt P g:=by decide+kernel)
 (k:∀x,fnT P { hi:=h,lp:=lp} { l:=l} g ps es ins xs x=M x:=by intro v;kernel_rfl):Fs.Ok (⟨g,ps,es,ins,xs,M⟩:Fs P):=ZFq (okS a) hl hn k
abbrev Lp.okA(L:Lp)(P:yf)(g k:Nat):Prop:=L.Ok P (Qt P g) (Qm P g k)
theorem ZV(h:HI)(lp:List (Nat×Lp))(l:List (Fs P))(a:AllOk l){g k N:Nat}{sl:Slots}{es:List ESh}{I:List Ty}{xs:List XSh}{step:Ty.dens I→Option (Ty.dens I⊕XSh.sum xs)}(hl:ZiH P g N lp:=by exact True.intro)(hk:ZiI P g k=true:=by kernel_rfl)
 (h':∀v,Zp5 P { hi:=h,lp:=lp} { l:=l} (Qm P g k) k N sl es I xs v=step v:=by intro v;kernel_rfl):Lp.Ok P N (Qm P g k) ⟨sl,es,I,xs,Zk step fuel⟩:=ZiJ (okS a) hl hk h'
end
end Go.Ev
end
section
namespace Go.Ev
universe u
variable{O:Type u}
def Q8(n:Nat)(k:Nat→O):O:=Nat.rec (motive:=λ_=>O) (k 0) (λm _=>k (Nat.succ m)) n
theorem Yq(n:Nat)(k:Nat→O):Q8 n k=k n:=by cases n <;> rfl
def ZbC{α:Type}(f:α→(α→O)→O):List α→(List α→O)→O
 |[],k=>k []
 |a::r,k=>f a λa=>ZbC f r λr=>k (a::r)
theorem Xz{α:Type}{f:α→(α→O)→O}(hf:∀a k,f a k=k a):∀(l:List α)(k:List α→O),ZbC f l k=k l
 |[],k=>rfl
 |a::r,k=>by rw[ZbC,hf,Xz hf r]
def ZEq(n:Int)(k:Int→O):O:=match n with
 |.ofNat n=>Q8 n λn=>k (.ofNat n)
 |.negSucc n=>Q8 n λn=>k (.negSucc n)
theorem ZCC(n:Int)(k:Int→O):ZEq n k=k n:=by cases n <;> (rw[ZEq,Yq])
def Znr(b:Bool)(k:Bool→O):O:=match b with
 |true=>k true
 |false=>k false
theorem Zdy(b:Bool)(k:Bool→O):Znr b k=k b:=by cases b <;> rfl
mutual
def Ty.fo:(t:Ty)→t.den→(t.den→O)→O
 |.int _,x,k=>ZEq x k
 |.u8,x,k=>Q8 (UInt8.toNat x) λn=>k (UInt8.ofNat n)
 |.u32,x,k=>Q8 (UInt32.toNat x) λn=>k (UInt32.ofNat n)
 |.u64,x,k=>Q8 (UInt64.toNat x) λn=>k (yae n)
 |.bool,x,k=>Znr x k
 |.str,x,k=>k x
 |.sl t,x,k=>ZbC (Ty.fo t) x k
 |.arr _ t,x,k=>ZbC (Ty.fo t) x k
 |.st fs,x,k=>Ty.fos fs x k
def Ty.fos:(fs:List Ty)→Ty.dens fs→(Ty.dens fs→O)→O
 |[],_,k=>k ()
 |[t],x,k=>Ty.fo t x k
 |t::u::r,x,k=>Ty.fo t x.1 λa=>Ty.fos (u::r) x.2 λb=>k (a,b)
end
mutual
theorem Ty.fo_eq:∀(t:Ty)(x:t.den)(k:t.den→O),t.fo x k=k x
 |.int _,x,k=>ZCC x k
 |.u8,x,k=>by rw[Ty.fo,Yq];exact congrArg k UInt8.ofNat_toNat
 |.u32,x,k=>by rw[Ty.fo,Yq];exact congrArg k UInt32.ofNat_toNat
 |.u64,x,k=>by rw[Ty.fo,Yq];exact congrArg k UInt64.ofNat_toNat
 |.bool,x,k=>Zdy x k
 |.str,x,k=>rfl
 |.sl t,x,k=>by rw[Ty.fo];exact Xz (Ty.fo_eq t) x k
 |.arr _ t,x,k=>by rw[Ty.fo];exact Xz (Ty.fo_eq t) x k
 |.st fs,x,k=>Ty.fos_eq fs x k
theorem Ty.fos_eq:∀(fs:List Ty)(x:Ty.dens fs)(k:Ty.dens fs→O),Ty.fos fs x k=k x
 |[],_,k=>rfl
 |[t],x,k=>Ty.fo_eq t x k
 |t::u::r,x,k=>by rw[Ty.fos,Ty.fo_eq t];exact Ty.fos_eq (u::r) x.2 _
end
mutual
def TP.fo:TP→(TP→O)→O
 |.v t x,k=>t.fo x λx=>k (.v t x)
 |.sl nn t xs,k=>ZbC t.fo xs λxs=>k (.sl nn t xs)
 |.agg xs,k=>TP.fos xs λxs=>k (.agg xs)
 |.arr n s xs,k=>TP.fos xs λxs=>k (.arr n s xs)
 |.sll nn s xs,k=>TP.fos xs λxs=>k (.sll nn s xs)
 |.iface t x,k=>TP.fo x λx=>k (.iface t x)
 |x,k=>k x
def TP.fos:List TP→(List TP→O)→O
 |[],k=>k []
 |x::r,k=>TP.fo x λx=>TP.fos r λr=>k (x::r)
end
mutual
theorem TP.fo_eq:∀(x:TP)(k:TP→O),x.fo k=k x
 |.v t x,k=>by rw[TP.fo,Ty.fo_eq]
 |.sl nn t xs,k=>by rw[TP.fo,Xz (Ty.fo_eq t)]
 |.agg xs,k=>by rw[TP.fo,TP.fos_eq xs]
 |.arr n s xs,k=>by rw[TP.fo,TP.fos_eq xs]
 |.sll nn s xs,k=>by rw[TP.fo,TP.fos_eq xs]
 |.iface t x,k=>by rw[TP.fo,TP.fo_eq x]
 |.ptr0,k=>rfl
 |.fn0,k=>rfl
 |.if0,k=>rfl
 |.map0,k=>rfl
 |.fnv _,k=>rfl
theorem TP.fos_eq:∀(x:List TP)(k:List TP→O),TP.fos x k=k x
 |[],k=>rfl
 |x::r,k=>by rw[TP.fos,TP.fo_eq x,TP.fos_eq r]
end
def ZFr{α:Type}(f:α→(α→O)→O):Option α→(Option α→O)→O
 |none,k=>k none
 |some a,k=>f a λa=>k (some a)
theorem ZCD{α:Type}{f:α→(α→O)→O}(hf:∀a k,f a k=k a):∀(l:Option α)(k:Option α→O),ZFr f l k=k l
 |none,k=>rfl
 |some a,k=>hf a _
mutual
def TD.fo:TD→(TD→O)→O
 |.p x,k=>x.fo λx=>k (.p x)
 |.elem x,k=>x.fo λx=>k (.elem x)
 |.own id nn t c,k=>Q8 id λid=>ZFr (ZbC t.fo) c λc=>k (.own id nn t c)
 |.ref id q,k=>Q8 id λid=>k (.ref id q)
 |.view id q s lo n,k=>Q8 id λid=>Q8 s λs=>Q8 lo λlo=>Q8 n λn=>k (.view id q s lo n)
 |.agg xs,k=>TD.fos xs λxs=>k (.agg xs)
 |.arr n s xs,k=>Q8 n λn=>Q8 s λs=>TD.fos xs λxs=>k (.arr n s xs)
 |.fn f xs,k=>TD.fos xs λxs=>k (.fn f xs)
 |.iface t x,k=>TD.fo x λx=>k (.iface t x)
 |.tup xs,k=>TD.fos xs λxs=>k (.tup xs)
 |.mp id,k=>Q8 id λid=>k (.mp id)
 |.rv id v s lo n,k=>Q8 id λid=>Q8 v λv=>Q8 s λs=>Q8 lo λlo=>Q8 n λn=>k (.rv id v s lo n)
 |.rref id v q,k=>Q8 id λid=>Q8 v λv=>k (.rref id v q)
 |.rw id,k=>Q8 id λid=>k (.rw id)
 |.rp id q,k=>Q8 id λid=>k (.rp id q)
 |.junk,k=>k .junk
def TD.fos:List TD→(List TD→O)→O
 |[],k=>k []
 |x::r,k=>TD.fo x λx=>TD.fos r λr=>k (x::r)
end
mutual
theorem TD.fo_eq:∀(x:TD)(k:TD→O),x.fo k=k x
 |.p x,k=>by rw[TD.fo,TP.fo_eq]
 |.elem x,k=>by rw[TD.fo,TP.fo_eq]
 |.own id nn t c,k=>by rw[TD.fo,Yq,ZCD (Xz (Ty.fo_eq t))]
 |.ref id q,k=>by rw[TD.fo,Yq]
 |.view id q s lo n,k=>by rw[TD.fo,Yq,Yq,Yq,Yq]
 |.agg xs,k=>by rw[TD.fo,TD.fos_eq xs]
 |.arr n s xs,k=>by rw[TD.fo,Yq,Yq,TD.fos_eq xs]
 |.fn f xs,k=>by rw[TD.fo,TD.fos_eq xs]
 |.iface t x,k=>by rw[TD.fo,TD.fo_eq x]
 |.tup xs,k=>by rw[TD.fo,TD.fos_eq xs]
 |.mp id,k=>by rw[TD.fo,Yq]
 |.rv id v s lo n,k=>by rw[TD.fo,Yq,Yq,Yq,Yq,Yq]
 |.rref id v q,k=>by rw[TD.fo,Yq,Yq]
 |.rw id,k=>by rw[TD.fo,Yq]
 |.rp id q,k=>by rw[TD.fo,Yq]
 |.junk,k=>rfl
theorem TD.fos_eq:∀(x:List TD)(k:List TD→O),TD.fos x k=k x
 |[],k=>rfl
 |x::r,k=>by rw[TD.fos,TD.fo_eq x,TD.fos_eq r]
end
def TEnt.fo(e:TEnt)(k:TEnt→O):O:=match e with
 |.var d st=>d.fo λd=>Znr st λst=>k (.var d st)
 |.log t e xs=>ZbC t.fo xs λxs=>k (.log t e xs)
 |.map tid a b l=>ZbC (λq k=>a.fo q.1 λx=>b.fo q.2 λy=>k (x,y)) l λl=>k (.map tid a b l)
 |.row v s st e d=>Q8 v λv=>Q8 s λs=>Znr st λst=>d.fo λd=>k (.row v s st e d)
 |.rowT t v st e xs=>Znr st λst=>ZbC t.fo xs λxs=>k (.rowT t v st e xs)
 |.rowN t np v st e a b=>Znr st λst=>ZbC t.fo a λa=>ZbC t.fo b λb=>k (.rowN t np v st e a b)
 |.rowM t np v st e a d b=>Znr st λst=>ZbC t.fo a λa=>d.fo λd=>ZbC t.fo b λb=>k (.rowM t np v st e a d b)
 |.gone=>k .gone
theorem TEnt.fo_eq(e:TEnt)(k:TEnt→O):e.fo k=k e:=by
 cases e with
 |var d st=>rw[TEnt.fo,TD.fo_eq,Zdy]
 |log t e xs=>rw[TEnt.fo,Xz (Ty.fo_eq t)]
 |map tid a b l=>rw[TEnt.fo,Xz λq k=>by rw[Ty.fo_eq a,Ty.fo_eq b]]
 |row v s st e d=>rw[TEnt.fo,Yq,Yq,Zdy,TD.fo_eq]
 |rowT t v st e xs=>rw[TEnt.fo,Zdy,Xz (Ty.fo_eq t)]
 |rowN t np v st e a b=>rw[TEnt.fo,Zdy,Xz (Ty.fo_eq t),Xz (Ty.fo_eq t)]
 |rowM t np v st e a d b=>rw[TEnt.fo,Zdy,Xz (Ty.fo_eq t),TD.fo_eq,Xz (Ty.fo_eq t)]
 |gone=>rfl
def foS(a:List TD)(h:List TEnt)(k:List TD→List TEnt→O):O:=TD.fos a λa=>ZbC TEnt.fo h λh=>k a h
theorem ZEr(a:List TD)(h:List TEnt)(k:List TD→List TEnt→O):foS a h k=k a h:=by rw[foS,TD.fos_eq,Xz TEnt.fo_eq]
end Go.Ev
end
section
namespace Go.Ev
def ZrI(h:List TEnt)(n0:Nat)(r:TD):List Nat:=
 let got:=ZkK h 100000 (r.look++yu n0) []
 ((yu h.length).drop n0).filter got.contains
def Zw1(P:yf)(H:List TEnt)(t:ya)(d:TD):Option TD:=
 match d with
 |.p x=>some (.p x)
 |d=>(Zd2 P tyD t).bind λT=>(ZpN H 100 T d).map λy=>.p (.v T y)
theorem ZtQ{P:yf}{H:List TEnt}{t:ya}{d e:TD}(h:Zw1 P H t d=some e):DeepP (erH H) (d.er (lk H)) (e.er (lk H)):=by
 unfold Zw1 at h;split at h
 ·cases h;exact .refl _
 ·obtain⟨T,h1,h⟩:=yc.1 h;obtain⟨y,h2,rfl⟩:=Zd h;exact .deep (Ziz _ _ _ _ h2)
def ZrJ(P:yf)(H:List TEnt):List ya→List TD→Option (List TD)
 |[],[]=>some []
 |t::r,d::ds=>match Zw1 P H t d,ZrJ P H r ds with
  |some a,some b=>some (a::b)
  |_,_=>none
 |_,_=>none
theorem Zp9{P:yf}{H:List TEnt}:∀{ts:List ya}{ds es:List TD},ZrJ P H ts ds=some es→DeepL (erH H) (TD.ers (lk H) ds) (TD.ers (lk H) es)
 |[],[],es,h=>by cases h;exact .nil
 |[],_::_,es,h=>by cases h
 |_::_,[],es,h=>by cases h
 |t::r,d::ds,es,h=>by
  simp only[ZrJ] at h;split at h
  ·rename_i a b h1 h2;cases h;exact .cons (ZtQ h1) (Zp9 h2)
  ·cases h
def ZAx(P:yf)(H:List TEnt)(ts:List ya)(r:TD):Option TD:=
 match ts with
 |[t]=>Zw1 P H t r
 |ts=>match r with
  |.tup ds=>(ZrJ P H ts ds).map .tup
  |_=>none
theorem ZAy{P:yf}{H:List TEnt}{ts:List ya}{r r':TD}(h:ZAx P H ts r=some r'):DeepT (erH H) (r.er (lk H)) (r'.er (lk H)):=by
 unfold ZAx at h;split at h
 ·exact .one (ZtQ h)
 ·split at h
  ·obtain⟨es,h1,rfl⟩:=Zd h;exact .tup (Zp9 h1)
  ·cases h
def Zyy{O:Type}(P:yf)(ts:List ya)(r:TD)(H:List TEnt)(K:TD→List TEnt→Option O):Option O:=
 match ts with
 |[]=>K r H
 |ts=>(ZAx P (Zd5 ((ZkK H 100000 r.look []).filter (Zvo H)) H) ts r).bind λr'=>K r' (Zd5 ((ZkK H 100000 r.look []).filter (Zvo H)) H)
theorem Zqa{O:Type}{P:yf}{ts:List ya}{r:TD}{H:List TEnt}{K:TD→List TEnt→Option O}{out:O}{g:yr}{args:List Dv}{H0:List Ent}(h:Zyy P ts r H K=some out)(hc:Con P g args H0 (r.er (lk H)) (erH H)):
 ∃r' H',K r' H'=some out∧Con P g args H0 (r'.er (lk H')) (erH H'):=by
 unfold Zyy at h;split at h
 ·exact⟨_,_,h,hc⟩
 ·obtain⟨r',h1,h2⟩:=yc.1 h;generalize (ZkK H 100000 r.look []).filter (Zvo H)=ids at h1 h2;refine⟨_,_,h2,Zzi hc (Zvn ids H) ?_⟩;have:=ZAy h1;rw[Zm6] at this ⊢;exact this
def Zyz{O:Type}(h:List TEnt)(n0:Nat)(ds:List TD)(K:TD→List TEnt→Option O):Option O:=
 let keep:=ZrI h n0 (Zno ds)
 if once (yu n0++keep) then(match Dv.rn (toIds (yu n0++keep)) ((Zno ds).er (lk h)) with
  |some _=>(Zno ds).rn (toIds (yu n0++keep))
  |none=>(Zno (ds.map (TD.arg (lk h)))).rn (toIds (yu n0++keep))).bind λr=>
  (Xa h (yu n0++keep) (yu n0++keep)).bind λh2=>K r h2
 else none
section
variable{P:yf}
def ZAz(P:yf)(his:yr→HI)(l:List (Fs P))(mt:List (ya×String×yr))(ghs:yr→List (Nat×GOp)):Nat→(O:Type)→yr→List TD→List TEnt→(TD→List TEnt→Option O)→Option O
 |0,_,_,_,_,_=>none
 |n+1,O,g,args,H,K=>foS args H λargs H=>match P.funcs[g]? with
  |some fn=>match fn.body with
   |some c=>if decide (args.length≤fn.ntmps)=true then
     evT P { hi:=his g,un:=1000000,gh:=ghs g} ⟨l,ZAz P his l mt ghs n,mt,[]⟩ c 0 0 (args++yab (fn.ntmps - args.length) .junk) H λex a h=>match ex with
      |.exit _=>none
      |_=>ZoN P a h fn.results.toList λds _=>Zyz h H.length ds λr h=>Zyy P (his g).deep r h λr h=>foS [r] h λrs h=>match rs with
       |[r]=>K r h
       |_=>none
     else none
   |none=>none
  |none=>none
theorem Zw2{his:yr→HI}{l:List (Fs P)}{mt:List (ya×String×yr)}{ghs:yr→List (Nat×GOp)}(hl:AllOk l)(hm:MtOk P mt):∀(n:Nat),HdOk P (ZAz P his l mt ghs n)
 |0=>λ_ _ _ _ _ _ h=>by cases h
 |n+1=>λO g args H K out hM=>by
  unfold ZAz at hM;simp only[ZEr] at hM;split at hM
  ·rename_i fn hf;split at hM
   ·rename_i c hb1;obtain⟨hn,hM⟩:=Za hM;have hn:=of_decide_eq_true hn
    have hlen:(args++yab (fn.ntmps - args.length) TD.junk).length=fn.ntmps:=by
     rw[yp,ycq];omega
    obtain⟨ex,a,hh,k1,k2,k3⟩:=Xr (N:=fn.ntmps) (specs:=⟨l,ZAz P his l mt ghs n,mt,[]⟩) ⟨hl,Zw2 hl hm n,hm,ytt⟩ c _ _ _ _ _ hlen (λk b hk lp h=>by cases h) (λk b hk lp h=>by cases h) hM
    have hex:(ex=.ret∨ex=.normal)∧(ZoN P a hh fn.results.toList λds _=>Zyz hh H.length ds λr h=>Zyy P (his g).deep r h K)=some out:=by
     cases ex with
     |exit _=>cases k1
     |normal=>exact⟨.inr rfl,k1⟩
     |ret=>exact⟨.inl rfl,k1⟩
    obtain⟨hex,k1⟩:=hex;obtain⟨ds,hs,C,g1,g2,g3⟩:=Zdx _ _ k1;unfold Zyz at g1;dsimp only at g1;generalize ZrI hh H.length (Zno ds)=keep at g1;obtain⟨g5,g1⟩:=Za g1;obtain⟨r,g6,g1⟩:=yc.1 g1;obtain⟨e2,g7,g1⟩:=yc.1 g1;refine Zqa g1 ?_
    have hfin:fin P fn (TD.ers (lk hh) a) (erH hh) (erH H).length keep hs=some (C,r.er (lk e2),erH e2):=by
     unfold fin;have:=g3 [];rw[ybk] at this;rw[this];dsimp only;rw[Zv,g5, ←Zgk,show subEnts (erH hh) _ _=some (erH e2) from YW (W1 g7) g7]
     split at g6
     ·rename_i r0 hr0;have e4:=ZbB (W1 g7) _ _ g6;rw[e4]
     ·rename_i hr0;have e4:=ZbB (W1 g7) _ _ g6;rw[Zgk,Zs,yax] at e4
      rw[hr0,show(TD.ers (lk hh) ds).map Dv.arg=ds.map (TD.er (lk hh) ∘ TD.arg (lk hh)) by
       rw[Zs,yax];exact ycg λd _=>(ZvJ d).symm,e4]
    have hrun:Y6 P c (TD.ers (lk H) args++yab (fn.ntmps - (TD.ers (lk H) args).length) .junk) (erH H) ex (TD.ers (lk hh) a) (erH hh):=by
     have e5:TD.ers (lk H) (args++yab (fn.ntmps - args.length) TD.junk)=TD.ers (lk H) args++yab (fn.ntmps - (TD.ers (lk H) args).length) .junk:=by
      rw[Zcs,Zs,Zs,yaj,List.map_replicate];rfl
     rw[←e5];exact k3
    exact Zfd hf hb1 hrun hex hfin g2
   ·cases hM
  ·cases hM
def ZEs(P:yf)(his:yr→HI)(l:List (Fs P))(mt:List (ya×String×yr))(n:Nat)(g:yr)(ghs:yr→List (Nat×GOp):=λ_=>[]):Option Bool:=
 ZAz P his l mt ghs n Bool g [] [] λr h=>match h with
  |[]=>r.boolT
  |_=>none
theorem ZCE{his:yr→HI}{l:List (Fs P)}{mt:List (ya×String×yr)}{ghs:yr→List (Nat×GOp)}{n:Nat}{g:yr}{b:Bool}(hl:AllOk l)(hm:MtOk P mt)(h:ZEs P his l mt n g ghs=some b):Con P g [] [] (.p (.bool b)) []:=by
 obtain⟨r,H',h1,h2⟩:=Zw2 hl hm n _ _ _ _ _ _ h;split at h1
 ·rw[Zds h1] at h2;exact h2
 ·cases h1
theorem ZEt{his:yr→HI}{l:List (Fs P)}{mt:List (ya×String×yr)}{ghs:yr→List (Nat×GOp)}{n:Nat}{g:yr}{b:Bool}(hl:AllOk l)(hm:MtOk P mt)(h:ZEs P his l mt n g ghs=some b):
 Fs.Ok (⟨g,[],[],[],[⟨.ret,[(0,.v .bool)],[],[.bool]⟩],λ_=>some b⟩:Fs P):=by
 intro x o hM;cases hM;refine⟨[],[],[],rfl,rfl,λe vs s' hs hf=> ?_⟩;obtain⟨rfl,rfl⟩:=hs;cases hf;exact⟨_,rfl,ZCE hl hm h⟩
end
theorem okN{P:yf}(s:Nat→Fs P)(h:(s fuel).Ok):(s 18446744073709551616).Ok:=by
 rw[ZiG] at h;exact h
theorem ZAA{P:yf}{g:yr}{args:List Dv}{H H1 H2:List Ent}{r r2:Dv}{keep:List Nat}(h:Con P g args H r H1)(ho:once (yu H.length++keep)=true)
 (hin:subEnts H1 (yu H.length++keep) (yu H.length++keep)=some H2) (hr:r.rn (toIds (yu H.length++keep))=some r2):Con P g args H r2 H2:=by
 intro σ vs ok e hv;refine Calls.mono (h σ vs ok e hv) ?_;rintro e' w' ⟨v,σ',h1,h2,h3,h4,h5,h6⟩;subst h3;subst e;exact⟨v,Zgz σ' (yu σ.H.length++keep) H2,h1,h2,rfl,ZlU ok h4 ho hin,ZlT h5 ho hin,Zbo (Zd0 hin) hr h6⟩
def Zw3(h:List TEnt)(n0:Nat)(r:TD)(e:XSh):Option (Ty.dens e.ty):=
 match e.sl with
 |[(0,rs)]=>(ZAw h rs e.es n0 r).bind λkeep=>
  if once (yu n0++keep) then(r.rn (toIds (yu n0++keep))).bind λr=>
   (Xa h (yu n0++keep) (yu n0++keep)).bind λh2=>(Sh.mt (lk h2) rs r).bind λq=>(ESh.mts (lk h2) e.es h2).bind λw=>toD e.ty (q.2++w.2)
  else none
 |_=>none
def Zns(h:List TEnt)(n0:Nat)(r:TD):(l:List XSh)→Option (XSh.sum l)
 |[]=>none
 |[e]=>Zw3 h n0 r e
 |e::f::q=>match Zw3 h n0 r e with
  |some x=>some (Sum.inl x:Ty.dens e.ty⊕XSh.sum (f::q))
  |none=>(Zns h n0 r (f::q)).map λx=>(Sum.inr x:Ty.dens e.ty⊕XSh.sum (f::q))
theorem ZkQ{h:List TEnt}{n0:Nat}{r:TD}:∀{l:List XSh}{o:XSh.sum l},Zns h n0 r l=some o→∀e vs,Zts l o e vs→∃x,Zw3 h n0 r e=some x∧vs=ofD e.ty x
 |[],_,k,_,_,_=>by cases k
 |[e],o,k,x,vs,hs=>by
  obtain⟨rfl,rfl⟩:=hs
  exact⟨o,k,rfl⟩
 |e::f::q,o,k,x,vs,hs=>by
  simp only[Zns] at k;split at k
  ·rename_i y hy;cases k;obtain⟨rfl,rfl⟩:=hs;exact⟨y,hy,rfl⟩
  ·obtain⟨y,h1,h2⟩:=Zd k;subst h2;exact ZkQ h1 x vs hs
section
variable{P:yf}
def fnD(P:yf)(fi:FI)(specs:Sp P)(g:yr)(ps:List Sh)(es:List ESh)(ins:List Ty)(xs:List XSh):Ty.dens ins→Option (XSh.sum xs):=λx=>
 match P.funcs[g]? with
 |some fn=>match fn.body with
  |some c=>(Sh.fills ps (ofD ins x)).bind λq=>(ESh.fills es q.2).bind λw=>if w.2.isEmpty then
    evT P fi specs c 0 0 (q.1++yab (fn.ntmps - q.1.length) .junk) w.1 λex a h=>match ex with
     |.exit _=>none
     |_=>ZoN P a h fn.results.toList λds _=>Zyz h w.1.length ds λr h=>Zyy P fi.hi.deep r h λr h=>Zns h w.1.length r xs
    else none
  |none=>none
 |none=>none
theorem Zw4{fi:FI}{specs:Sp P}{g:yr}{ps:List Sh}{es:List ESh}{ins:List Ty}{xs:List XSh}{M:Ty.dens ins→Option (XSh.sum xs)}(ok:SpOk specs)(hl:ZiH P g (Qt P g) fi.lp:=by exact True.intro)(hn:ps.length≤Qt P g:=by decide+kernel)
 (h:∀x,fnD P fi specs g ps es ins xs x=M x:=by intro v;kernel_rfl) (hb:Zp6 P (Qt P g) (Zao P g) fi.bk:=by exact True.intro):Fs.Ok (⟨g,ps,es,ins,xs,M⟩:Fs P):=by
 intro x o hM;have hM:M x=some o:=hM;rw[←h x] at hM;have hl':=Zw0 hl;unfold fnD at hM;split at hM
 ·rename_i fn hf;split at hM
  ·rename_i c hb1;obtain⟨q,h1,hM⟩:=yc.1 hM;obtain⟨w,h2,hM⟩:=yc.1 hM;obtain⟨h3,hM⟩:=Za hM;have hN:Qt P g=fn.ntmps:=by unfold Qt;rw[hf]
   have hc:Zao P g=c:=by unfold Zao;rw[hf];dsimp only;rw[hb1];rfl
   rw[hc,hN] at hl' hb;have hb0:=ZrH hb;rw[hN] at hn
   have hlen:(q.1++yab (fn.ntmps - q.1.length) TD.junk).length=fn.ntmps:=by
    rw[yp,ycq,Zgg h1];omega
   obtain⟨ex,a,hh,k1,k2,k3⟩:=Xr ok c _ _ _ _ _ hlen hl' hb0 hM
   have hex:(ex=.ret∨ex=.normal)∧(ZoN P a hh fn.results.toList λds _=>Zyz hh w.1.length ds λr h=>Zyy P fi.hi.deep r h λr h=>Zns h w.1.length r xs)=some o:=by
    cases ex with
    |exit _=>cases k1
    |normal=>exact⟨.inr rfl,k1⟩
    |ret=>exact⟨.inl rfl,k1⟩
   obtain⟨hex,k1⟩:=hex;obtain⟨ds,hs,C,g1,g2,g3⟩:=Zdx _ _ k1;refine⟨q.1,q.2,w.1,h1, ?_,λe vs s' hsel hfs=> ?_⟩
   ·rw[h2];have:w.2=[]:=by simpa using h3
    rw[←this]
   unfold Zyz at g1;dsimp only at g1;generalize ZrI hh w.1.length (Zno ds)=keep at g1;obtain⟨g5,g1⟩:=Za g1;obtain⟨r,g6,g1⟩:=yc.1 g1;obtain⟨e2,g7,g1⟩:=yc.1 g1
   have hrun:Y6 P c (TD.ers (lk w.1) q.1++yab (fn.ntmps - (TD.ers (lk w.1) q.1).length) .junk) (erH w.1) ex (TD.ers (lk hh) a) (erH hh):=by
    have e5:TD.ers (lk w.1) (q.1++yab (fn.ntmps - q.1.length) TD.junk)=TD.ers (lk w.1) q.1++yab (fn.ntmps - (TD.ers (lk w.1) q.1).length) .junk:=by
     rw[Zcs,Zs,Zs,yaj,List.map_replicate];rfl
    rw[←e5];exact k3
   have hfin:fin P fn (TD.ers (lk hh) a) (erH hh) (erH w.1).length keep hs=some (C,r.er (lk e2),erH e2):=by
    unfold fin;have:=g3 [];rw[ybk] at this;rw[this];dsimp only;rw[Zv,g5, ←Zgk,show subEnts (erH hh) _ _=some (erH e2) from YW (W1 g7) g7]
    split at g6
    ·rename_i r0 hr0;have e4:=ZbB (W1 g7) _ _ g6;rw[e4]
    ·rename_i hr0;have e4:=ZbB (W1 g7) _ _ g6;rw[Zgk,Zs,yax] at e4
     rw[hr0,show(TD.ers (lk hh) ds).map Dv.arg=ds.map (TD.er (lk hh) ∘ TD.arg (lk hh)) by
      rw[Zs,yax];exact ycg λd _=>(ZvJ d).symm,e4]
   obtain⟨r',H',m1,m2⟩:=Zqa g1 (Zfd hf hb1 hrun hex hfin g2);obtain⟨o1,m3,hvs⟩:=ZkQ m1 e vs hsel;unfold Zw3 at m3;split at m3
   case h_2=>cases m3
   rename_i rs hsl;obtain⟨keep2,n1,m3⟩:=yc.1 m3;obtain⟨n2,m3⟩:=Za m3;obtain⟨r3,n3,m3⟩:=yc.1 m3;obtain⟨e3,n4,m3⟩:=yc.1 m3;obtain⟨z,g8,m3⟩:=yc.1 m3;obtain⟨y,g9,m3⟩:=yc.1 m3;obtain⟨b1,b2⟩:=Zdv g9;have hcc:∀id t,ZN (lk e3) id t none=ZN (lk y.1) id t none:=λid t=>by rw[b2]
   have eo:=VM _ _ _ m3
   have efill:s'=([z.1],y.1):=by
    rw[hvs,eo,hsl] at hfs;unfold XZ at hfs;rw[show shs [(0,rs)] 1=[rs] from rfl] at hfs
    simp only[Sh.fills,Zge _ _ _ g8,yb,yz] at hfs;have:=Vd g9 [];rw[ybk] at this;rw[this] at hfs;exact(ybf hfs).symm
   subst efill;refine⟨z.1,rfl, ?_⟩
   have hk:Con P g (TD.ers (lk w.1) q.1) (erH w.1) (r3.er (lk e3)) (erH e3):=by
    refine ZAA (keep:=keep2) m2 (by rw[Zv];exact n2) ?_ ?_
    ·rw[Zv];exact YW (W1 n4) n4
    ·rw[Zv];exact ZbB (W1 n4) _ _ n3
   exact ZsS hk (Zm5 hcc _ _ _ g8) (Zgf hcc g9)
  ·cases hM
 ·cases hM
end
end Go.Ev
end
section
namespace Go.Ev
open Go.RowKit Go.WideShapes Go.ChangeShapes
def Z3(P:yf):Nat→ya→Bool
 |0,_=>false
 |n+1,t=>match P.underlying t with
  |some .bool=>true
  |some (.int _)=>true
  |some .string=>true
  |some (.slice e)=>Z3 P n e&&decide (0 < P.cellsOf e)
  |some (.array m e)=>Z3 P n e&&P.cellsOf t==m*P.cellsOf e
  |some (.struct fs)=>(fs.toList.all λf=>Z3 P n f.type)&&P.cellsOf t==(fs.toList.map λf=>P.cellsOf f.type).sum&&
    ((yu fs.toList.length).all λj=>match fs.toList[j]? with|some f=>f.offset==((fs.toList.take j).map λf=>P.cellsOf f.type).sum|none=>true)
  |_=>false
theorem ZrK(P:yf):Kids P (λt=>∃n,Z3 P n t=true) where
 pointer:=by
  rintro t e ⟨n,h⟩ hu
  cases n with
  |zero=>simp[Z3] at h
  |succ n=>simp[Z3,hu] at h
 slice:=by
  rintro t e ⟨n,h⟩ hu
  cases n with
  |zero=>simp[Z3] at h
  |succ n=>simp[Z3,hu] at h;exact⟨n,h.1⟩
 array:=by
  rintro t e m ⟨n,h⟩ hu
  cases n with
  |zero=>simp[Z3] at h
  |succ n=>simp[Z3,hu] at h;exact⟨⟨n,h.1⟩,h.2⟩
 struct:=by
  rintro t fs ⟨n,h⟩ hu
  cases n with
  |zero=>simp[Z3] at h
  |succ n=>
   simp only[Z3,hu,yh,beq_iff_eq,ybb] at h;obtain⟨⟨h1,h2⟩,h3⟩:=h;refine⟨λf hf=>⟨n,h1 f hf⟩,h2,λj f hf=> ?_⟩;have hj:j < fs.toList.length:=(yq.1 hf).1;have:=h3 j (by simpa using hj);rw[hf] at this;simpa using this
 map:=by
  rintro t k e ⟨n,h⟩ hu
  cases n with
  |zero=>simp[Z3] at h
  |succ n=>simp[Z3,hu] at h
def ZCF(R:ya→Pl→Prop):List Field→List Pl→Prop
 |[],[]=>True
 |f::fs,y::ys=>R f.type y∧ZCF R fs ys
 |_,_=>False
def wtP(P:yf):Nat→ya→Pl→Prop
 |0,_,_=>False
 |n+1,t,x=>match P.underlying t,x with
  |some .bool,.bool _=>True
  |some (.int k),.int k' m=>k'=k∧(Lit.int k m).wf=true
  |some .string,.str s=>s.size≤maxLen
  |some (.slice e),.sl nn s xs=>s=P.cellsOf e∧nn=none∧xs.length≤maxLen∧∀y,y∈xs→wtP P n e y
  |some (.array m e),.arr m' s xs=>m'=m∧s=P.cellsOf e∧xs.length=m∧∀y,y∈xs→wtP P n e y
  |some (.struct fs),.agg xs=>ZCF (wtP P n) fs.toList xs
  |_,_=>False
def ZrL:Nat→Nat→Prop:=λ_ _=>True
section
variable{H:Type}{enc:ya×yg→H}{P:yf}{w:yy}{base:Nat}{sp:Nat→Bool}{held:Bool}
theorem ZyA:∀{s:Nat}{a:Addr}{cs:List yg},w.cells? base a s=some cs→cs.length=s∧∀j u,cs[j]? =some u→w.cell? (a.add j)=some u:=by
 intro s a cs h;unfold World.cells? at h;split at h
 ·have hl:cs.length=s:=by simpa using mapM_some_length h
  refine⟨hl,λj u hu=> ?_⟩;have hj:j < s:=by rw[←hl];exact(yq.1 hu).1
  have:=mapM_some_get h j j (by simp[hj]);rw[hu] at this;exact this
 ·cases h
theorem Zw5{e:ya}{n m:Nat}{a:Addr}{s:Nat}(hs:0 < s){elems:List (DataW H×List MemPlace)}{len:Nat}(hlen:elems.length=len)
 (ih:∀(cs:List yg)(x:DataW H×List MemPlace),DataW.trod enc P w base sp held m e cs=some x→cs.length=s→∃pl,wtP P n e pl∧repC w ZrL pl cs)
 (h:∀i,i < len→(w.cells? base (a.add (i*s)) s).bind (DataW.trod enc P w base sp held m e)=elems[i]?):
 ∀k,k≤len→∃(xs:List Pl)(us:List yg),xs.length=k∧(∀y,y∈xs→wtP P n e y)∧allSz s xs∧us.length=k*s∧repCs w ZrL xs us∧(∀j u,us[j]? =some u→w.cell? (a.add j)=some u)
 |0,_=>⟨[],[],rfl,(λy hy=>by cases hy),(λy hy=>by cases hy),by simp,by simp[repCs],by simp⟩
 |k+1,hk=>by
  obtain⟨xs,us,h1,h2,h3,h4,h5,h6⟩:=Zw5 hs hlen ih h k (by omega);have hk':=h k (by omega);rw[yad (by omega)] at hk';obtain⟨cs,hc,ht⟩:=yc.1 hk';obtain⟨c1,c2⟩:=ZyA hc;obtain⟨pl,p1,p2⟩:=ih cs _ ht c1;have psz:pl.size=s:=by rw[←Y3 _ _ p2,c1]
  refine⟨xs++[pl],us++cs,by simp[h1],λy hy=> ?_,λy hy=> ?_,by simp[h4,c1,Nat.add_mul],ZS h5 (by simpa[repCs] using p2),λj u hu=> ?_⟩
  ·rcases ycj.1 hy with hy|hy
   ·exact h2 y hy
   ·rw[yai.1 hy];exact p1
  ·rcases ycj.1 hy with hy|hy
   ·exact h3 y hy
   ·rw[yai.1 hy];exact psz
  ·by_cases hj:j < us.length
   ·rw[yal hj] at hu;exact h6 j u hu
   ·rw[yaq (by omega)] at hu;have:=c2 _ _ hu;rw[Addr.add_add] at this;rw[←this];congr 2;omega
theorem ZtR{e:ya}{n m:Nat}{s:Nat}{cs:List yg}{elems:List (DataW H×List MemPlace)}{len:Nat}(hlen:elems.length=len)(hcs:cs.length=len*s)
 (ih:∀(cs:List yg)(x:DataW H×List MemPlace),DataW.trod enc P w base sp held m e cs=some x→cs.length=s→∃pl,wtP P n e pl∧repC w ZrL pl cs)
 (h:∀i,i < len→DataW.trod enc P w base sp held m e ((cs.drop (i*s)).take s)=elems[i]?):
 ∀k,k≤len→∃(xs:List Pl),xs.length=k∧(∀y,y∈xs→wtP P n e y)∧allSz s xs∧repCs w ZrL xs (cs.take (k*s))
 |0,_=>⟨[],rfl,(λy hy=>by cases hy),(λy hy=>by cases hy),by simp[repCs]⟩
 |k+1,hk=>by
  obtain⟨xs,h1,h2,h3,h5⟩:=ZtR hlen hcs ih h k (by omega);have hk':=h k (by omega);rw[yad (by omega)] at hk';have hle:k*s+s≤len*s:=by rw[←Nat.succ_mul];exact Nat.mul_le_mul_right _ hk
  have c1:((cs.drop (k*s)).take s).length=s:=by simp;omega
  obtain⟨pl,p1,p2⟩:=ih _ _ hk' c1;have psz:pl.size=s:=by rw[←Y3 _ _ p2,c1]
  refine⟨xs++[pl],by simp[h1],λy hy=> ?_,λy hy=> ?_, ?_⟩
  ·rcases ycj.1 hy with hy|hy
   ·exact h2 y hy
   ·rw[yai.1 hy];exact p1
  ·rcases ycj.1 hy with hy|hy
   ·exact h3 y hy
   ·rw[yai.1 hy];exact psz
  ·rw[Nat.add_mul,Nat.one_mul,List.take_add];exact ZS h5 (by simpa[repCs] using p2)
theorem Zqb{n m:Nat}{cs:List yg}
 (ih:∀(t:ya),Z3 P n t=true→∀(cs:List yg)(x:DataW H×List MemPlace),DataW.trod enc P w base sp held m t cs=some x→∃pl,wtP P n t pl∧repC w ZrL pl cs):
 ∀(fs:List Field)(o:Nat),(∀f,f∈fs→Z3 P n f.type=true)→(∀(j:Nat)f,fs[j]? =some f→f.offset=o+((fs.take j).map λf=>P.cellsOf f.type).sum)→
  cs.length=o+(fs.map λf=>P.cellsOf f.type).sum→(∀(j:Nat)f,fs[j]? =some f→∃x,DataW.trod enc P w base sp held m f.type ((cs.drop f.offset).take (P.cellsOf f.type))=some x)→
  ∃(xs:List Pl),ZCF (wtP P n) fs xs∧repCs w ZrL xs (cs.drop o)
 |[],o,_,_,hl,_=>⟨[],trivial,by simp only[repCs];apply List.drop_eq_nil_of_le;simp at hl;omega⟩
 |f::fs,o,hp,ho,hl,h=>by
  obtain⟨x,hx⟩:=h 0 f rfl;have ho0:=ho 0 f rfl;simp at ho0;rw[ho0] at hx;obtain⟨pl,p1,p2⟩:=ih f.type (hp f (yar ..)) _ _ hx;simp only[yac,List.sum_cons] at hl
  obtain⟨xs,q1,q2⟩:=Zqb ih fs (o+P.cellsOf f.type) (λg hg=>hp g (yas _ hg)) (λj g hg=>by
   have:=ho (j+1) g hg;simp only[List.take_succ_cons,yac,List.sum_cons] at this;omega) (by omega) (λj g hg=>h (j+1) g hg)
  refine⟨pl::xs,⟨p1,q1⟩, ?_⟩;simp only[repCs];refine⟨(cs.drop o).take (P.cellsOf f.type),(cs.drop o).drop (P.cellsOf f.type),(List.take_append_drop ..).symm,p2, ?_⟩;rw[List.drop_drop];exact q2
theorem ZCG:∀(n m:Nat)(t:ya),Z3 P n t=true→∀(cs:List yg)(x:DataW H×List MemPlace),DataW.trod enc P w base sp held m t cs=some x→∃pl,wtP P n t pl∧repC w ZrL pl cs:=by
 intro n
 induction n with
 |zero=>intro m t h;simp[Z3] at h
 |succ n ih=>
  intro m t ht cs x h;unfold Z3 at ht;split at ht
  ·rename_i hu;obtain⟨b,rfl,_⟩:=DataW.trod_bool hu h;exact⟨.bool b,by simp[wtP,hu],by simp[repC]⟩
  ·rename_i k hu;obtain⟨z,rfl,rfl,hw⟩:=DataW.trod_int hu h;exact⟨.int k z,by simp[wtP,hu,hw],by simp[repC]⟩
  ·rename_i hu;obtain⟨s,rfl,h2⟩:=DataW.trod_string hu h;exact⟨.str s,by simp[wtP,hu];exact h2.2,by simp[repC]⟩
  ·rename_i e hu;simp only[yh,decide_eq_true_eq] at ht;rcases DataW.trod_slice hu h with⟨rfl,rfl⟩|⟨a,len,cap,elems,rest,m',rfl,rfl,rfl,_,hle,hcap,hlen,hel,_⟩
   ·exact⟨.sl none (P.cellsOf e) [],by simp[wtP,hu],by simp only[repC];exact⟨(λy hy=>by cases hy),none,0,rfl,yl _,Nat.zero_le _,ZK _,λ_=>rfl,λh=>absurd rfl h⟩⟩
   ·obtain⟨xs,us,h1,h2,h3,h4,h5,h6⟩:=Zw5 (n:=n) ht.2 hlen (λcs x hx _=>ih m' e ht.1 cs x hx) hel len (yl _);refine⟨.sl none (P.cellsOf e) xs,by simp only[wtP,hu];exact⟨trivial,trivial,by omega,h2⟩, ?_⟩;simp only[repC];refine⟨h3,some a,cap,by rw[h1],by omega,hcap,ZK _,by simp,λhne=> ?_⟩
    have hpos:0 < us.length:=by
     rw[h4];have:0 < len:=by rw[←h1];exact List.length_pos_iff.2 hne
     exact Nat.mul_pos this ht.2
    have hc0:=h6 0 us[0] (yad hpos);obtain⟨b,o,spot⟩:=a
    have hspot:spot=none:=by
     cases spot with
     |none=>rfl
     |some z=>
      exfalso;unfold World.cell? at hc0;split at hc0
      ·simp[Addr.add] at hc0
      ·cases hc0
    subst hspot;exact⟨b,o,us,rfl,h5,λj u hu=>⟨by have:=h6 j u hu;rwa [Addr.add_lit] at this,ytt⟩⟩
  ·rename_i k e hu;simp only[yh,beq_iff_eq] at ht;obtain⟨elems,m',rfl,rfl,hl,hlen,hel⟩:=DataW.trod_array hu h;obtain⟨xs,h1,h2,h3,h4⟩:=ZtR (n:=n) (s:=P.cellsOf e) hlen (by rw[hl,ht.2]) (λcs x hx _=>ih m' e ht.1 cs x hx) hel k (yl _);rw[List.take_of_length_le (by rw[hl,ht.2];exact yl _)] at h4;exact⟨.arr k (P.cellsOf e) xs,by simp only[wtP,hu];exact⟨trivial,trivial,h1,h2⟩,by simp only[repC];exact⟨h1,h3,h4⟩⟩
  ·rename_i fs hu;simp only[yh,beq_iff_eq,ybb] at ht;obtain⟨⟨t1,t2⟩,t3⟩:=ht;obtain⟨elems,m',rfl,rfl,hl,hlen,hel⟩:=DataW.trod_struct hu h
   obtain⟨xs,q1,q2⟩:=Zqb (n:=n) (m:=m') (cs:=cs) (λt ht cs x hx=>ih m' t ht cs x hx) fs.toList 0 t1 (λj f hf=>by
    have hj:j < fs.toList.length:=(yq.1 hf).1;have:=t3 j (by simpa using hj);rw[hf] at this;simpa using this) (by rw[hl,t2];omega) (λj f hf=>by
    have hj:j < fs.toList.length:=(yq.1 hf).1;have:=hel j f (by simpa using hf);rw[yad (by rw[hlen];simpa using hj)] at this;exact⟨_,this⟩)
   exact⟨.agg xs,by simp only[wtP,hu];exact q1,by simp only[repC];simpa using q2⟩
  ·cases ht
end
end Go.Ev
namespace Go.Ev
open Go.RowKit Go.WideShapes Go.ChangeShapes
def ZCH(P:yf)(n:Nat):List ya→List Pl→Prop
 |[],[]=>True
 |t::ts,x::xs=>wtP P n t x∧ZCH P n ts xs
 |_,_=>False
section
variable{H:Type}{enc:ya×yg→H}{P:yf}
def sg0(W:yy):Sg:={ F:=ZrL,B:=λb=>W.heap.size≤b,m:=[],H:=[],w:=W}
theorem ZEu(W:yy):Ok (sg0 W) where
 len:=rfl
 inj i j b h:=by simp[sg0] at h
 lt i b h:=by simp[sg0] at h
 ent i e a h:=by simp[sg0] at h
 new b h:=h
 own i b h:=by simp[sg0] at h
theorem ZAB(W:yy)(b o:Nat):(sg0 W).stab b o:=⟨.inl trivial,λid e h=>by simp[sg0] at h⟩
theorem Znt{W:yy}{x:Pl}{v:yg}{cs:List yg}(hx:repC W ZrL x cs)(hc:v.cells.toList=cs)(hv:x.isAgg=true→∃a,v=.agg a)(hn:x.isAgg=false→cs=[v]):repDV (sg0 W) (.p x) v:=by
 have hm:repC W (sg0 W).stab x cs:=X5 (λb o u h _=>⟨h,ZAB W b o⟩) x cs hx;refine⟨λha=> ?_,λha=> ?_⟩
 ·obtain⟨a,rfl⟩:=hv ha;refine⟨a,rfl, ?_⟩;simp only[repD];have:a.toList=cs:=by rw[←hc];rfl
  rw[this];exact hm
 ·simp only[repD];have e:=hn ha;rw[←e];exact hm
theorem ZEv:∀{n:Nat}{t:ya}{x:Pl},wtP P n t x→x.isAgg=YS P t
 |0,_,_,h=>by simp[wtP] at h
 |n+1,t,x,h=>by
  unfold wtP at h;split at h <;> rename_i hu <;> first|(simp[Pl.isAgg,YS,hu];done)|exact h.elim
theorem Zw6{W:yy}{n:Nat}(hval:∀(t:ya)(v:yg),YS P t=true→Value.okWide P W .any 0 t v→∃a,v=.agg a):
 ∀(ts:List ya)(vs:List yg)(ds:List (DataW H))(ps:List MemPlace),(∀t,t∈ts→Z3 P n t=true)→(∀(j:Nat)t v,ts[j]? =some t→vs[j]? =some v→(YS P t=true→∃a,v=.agg a)∧(YS P t=false→v.cells.toList=[v]))→
  DataW.TrodAll enc P W 0 (λ_=>true) true ts vs ds ps→∃xs,ZCH P n ts xs∧repVs (sg0 W) (xs.map .p) vs
 |[],[],[],_,_,_,_=>⟨[],trivial,by simp[repVs]⟩
 |[],_::_,_,_,_,_,h=>by simp[DataW.TrodAll] at h
 |[],[],_::_,_,_,_,h=>by simp[DataW.TrodAll] at h
 |_::_,[],_,_,_,_,h=>by simp[DataW.TrodAll] at h
 |_::_,_::_,[],_,_,_,h=>by simp[DataW.TrodAll] at h
 |t::ts,v::vs,d::ds,ps,hp,hv,h=>by
  obtain⟨p,q,⟨fuel,h1⟩,h2,rfl⟩:=h;obtain⟨x,x1,x2⟩:=ZCG n fuel t (hp t (yar ..)) _ _ h1;obtain⟨xs,xs1,xs2⟩:=Zw6 hval ts vs ds q (λu hu=>hp u (yas _ hu)) (λj u w' hj hw=>hv (j+1) u w' hj hw) h2;obtain⟨v1,v2⟩:=hv 0 t v rfl rfl;refine⟨x::xs,⟨x1,xs1⟩, ?_⟩;simp only[yac,repVs];have ha:=ZEv x1;exact⟨v,vs,rfl,Znt x2 rfl (λe=>v1 (by rw[←ha];exact e)) (λe=>v2 (by rw[←ha];exact e)),xs2⟩
theorem ZgF{W W':yy}{sp':Nat→Bool}{n:Nat}:∀(ts:List ya)(vs:List yg)(ds:List (DataW H))(ps:List MemPlace),(∀t,t∈ts→Z3 P n t=true)→
 DataW.TrodAll enc P W 0 (λ_=>true) true ts vs ds ps→(∀p∈ps,W.sameAt W' p)→(∀p∈ps,sp' p.block=true)→DataW.TrodAll enc P W' 0 sp' true ts vs ds ps
 |[],[],[],_,_,h,_,_=>h
 |[],_::_,_,_,_,h,_,_=>by simp[DataW.TrodAll] at h
 |[],[],_::_,_,_,h,_,_=>by simp[DataW.TrodAll] at h
 |_::_,[],_,_,_,h,_,_=>by simp[DataW.TrodAll] at h
 |_::_,_::_,[],_,_,h,_,_=>by simp[DataW.TrodAll] at h
 |t::ts,v::vs,d::ds,ps,hp,h,hs,hb=>by
  obtain⟨p,q,⟨fuel,h1⟩,h2,rfl⟩:=h;refine⟨p,q,⟨fuel, ?_⟩,ZgF ts vs ds q (λu hu=>hp u (yas _ hu)) h2 (λz hz=>hs z (List.mem_append_right _ hz)) (λz hz=>hb z (List.mem_append_right _ hz)),rfl⟩
  exact DataW.trod_stays (ZrK P) (λ{t e}⟨n,hn⟩hu=>by
   cases n with
   |zero=>simp[Z3] at hn
   |succ n=>simp[Z3,hu] at hn;exact hn.2) (by simp) ⟨n,hp t (yar ..)⟩ h1 (λz hz=>hs z (List.mem_append_left _ hz)) (λz hz=>hb z (List.mem_append_left _ hz))
theorem ZtS{W:yy}{σ':Sg}(h:To (sg0 W) σ'):Below W.heap.size W σ'.w:=
 ⟨h.os,h.tape,h.output,h.size,λb hb=>h.block b hb (λid=>by simp[sg0])⟩
theorem Znu{f:Func}{s:ChangeSpec}{apart fresh handsOn again:Bool}{W W':yy}{args:Array yg}{v:yg}{ds gs:List (DataW H)}{before pa pv:List MemPlace}
 (hW:DataW.Whole enc P f.params.toList s.vars apart W args.toList ds gs before)
 (hres:∀(b:Nat)(sp:Nat→Bool)(hd:Bool),DataW.TrodAll enc P W' b sp hd f.resultTypes.toList (v.resultList f.resultTypes.size) (s.fn H (ds++gs)).results [])
 (hargs:∀sp:Nat→Bool,(∀p∈before,sp p.block=true)→DataW.TrodAll enc P W' 0 sp true f.params.toList args.toList (s.fn H (ds++gs)).args pa)
 (hvars:∀sp:Nat→Bool,(∀p∈before,sp p.block=true)→DataW.TrodVars enc P W' sp s.vars (s.fn H (ds++gs)).vars pv)
 (hps:before=pa++pv) (hb:Below W.heap.size W W')
 (hok:∀(j:Nat)(t:ya)(r:yg),f.resultTypes[j]? =some t→(v.resultList f.resultTypes.size)[j]? =some r→Value.okWide P W' .any 0 t r):
 s.post enc P f apart fresh handsOn again W args v W':=by
 have hlt:∀p∈before,p.block < W.heap.size:=λp hp=>hW.lt p hp;have hold:∀p∈before,(λb=>decide (b < W.heap.size)) p.block=true:=λp hp=>by simpa using hlt p hp
 refine⟨ds,gs,before,[],pa,pv,hW,hres _ _ _,hargs _ hold,hvars _ hold,World.keptBut_mono (λp hp=>⟨hp, ?_⟩) (hb.frame (· ∈before)),λ_=> ?_⟩
 ·rw[hps,ycj] at hp;exact Or.inr hp
 ·obtain⟨_,_,_,_,_,hz,hn⟩:=hW;refine⟨hok,_,_,([]++pa)++pv,⟨[]++pa,pv,trodAll_append (hargs _ (λ_ _=>rfl)) (hres _ _ _),hvars _ (λ_ _=>rfl),rfl, ?_, ?_⟩, ?_⟩
  ·intro b off hp;have hin:MemPlace.cell b off∈before:=by rw[hps];simpa using hp
   rw[hb.frozen (hlt _ hin)];exact hz b off hin
  ·intro ha;have:=hn ha;rw[hps] at this;simpa using this
  ·intro p hp _;rw[hps];simpa using hp
theorem ZrM{f:yr}{fn:Func}{s:ChangeSpec}{n:Nat}{tb:ya}(hr:fn.resultTypes= #[tb])(ht:P.underlying tb=some .bool)(hv:s.vars=[])
 (hs:∀ds:List (DataW H),ds.length=fn.params.toList.length→s.fn H ds={ results:=[.lit (.bool true)],args:=ds}) (hp:∀t,t∈fn.params.toList→Z3 P n t=true)
 (W:yy) (base:Nat) (args:Array yg) (ds gs:List (DataW H)) (before:List MemPlace)
 (hval:∀(j:Nat)t v,fn.params[j]? =some t→args[j]? =some v→Value.okWide P W .any base t v) (hW:DataW.Whole enc P fn.params.toList s.vars false W args.toList ds gs before)
 (hc:∀xs:List Pl,ZCH P n fn.params.toList xs→repVs (sg0 W) (xs.map .p) args.toList→Con P f (xs.map .p) [] (.p (.bool true)) []):
 Calls P f args W λe W'=>∃v,e=.returned v∧s.post enc P fn false true false false W args v W':=by
 have hW':=hW;obtain⟨p,q,hA,hV,rfl,hfz,hnd⟩:=hW;rw[hv] at hV
 obtain⟨rfl,rfl⟩:gs=[]∧q=[]:=by
  cases gs with
  |nil=>exact⟨rfl,hV⟩
  |cons g r=>simp[DataW.TrodVars] at hV
 have hlen:=trodAll_length hA
 obtain⟨xs,x1,x2⟩:=Zw6 (enc:=enc) (P:=P) (W:=W) (n:=n) (λt v ha hok=>by
  unfold Value.okWide at hok;unfold YS at ha;split at hok
  ·obtain⟨cs,rfl,_⟩:=hok;exact⟨cs,rfl⟩
  ·obtain⟨cs,rfl,_⟩:=hok;exact⟨cs,rfl⟩
  ·rename_i h1 h2;split at ha
   ·rename_i fs hu;exact absurd hu (h1 fs)
   ·rename_i k e hu;exact absurd hu (h2 k e)
   ·cases ha) fn.params.toList args.toList ds p hp (λj t v hj hvv=>by
  have hok:=hval j t v (by simpa using hj) (by simpa using hvv);refine⟨λha=> ?_,λha=> ?_⟩
  ·unfold Value.okWide at hok;unfold YS at ha;split at hok
   ·obtain⟨cs,rfl,_⟩:=hok;exact⟨cs,rfl⟩
   ·obtain⟨cs,rfl,_⟩:=hok;exact⟨cs,rfl⟩
   ·rename_i h1 h2;split at ha
    ·rename_i fs hu;exact absurd hu (h1 fs)
    ·rename_i k e hu;exact absurd hu (h2 k e)
    ·cases ha
  ·obtain⟨m,hm⟩:∃m,Z3 P (m+1) t=true:=by
    have:=hp t (ybw hj)
    cases n with
    |zero=>simp[Z3] at this
    |succ n=>exact⟨n,this⟩
   unfold Value.okWide at hok;unfold Z3 at hm;unfold YS at ha;split at hm <;> rename_i hu <;> simp only[hu] at hok ha
   all_goals first
    |(cases ha;done)
    |(cases hm;done)
    |(unfold Cell.okWide Cell.ok at hok;simp only[hu] at hok;cases v <;> first|rfl|(simp at hok;done))) hA
 have hcall:=hc xs x1 x2 (sg0 W) args.toList (ZEu W) rfl x2;rw[Array.toArray_toList] at hcall;refine Calls.mono hcall ?_;rintro e W' ⟨v,σ',rfl,rfl,hH,hto,hok,hrep⟩;have hbv:v=.bool true:=by simpa[repDV,Dv.isAgg,Pl.isAgg,repD,repC] using hrep
 subst hbv;have hb:=ZtS hto;simp only[ybk] at hW';have hlt:=hW'.lt
 have hsame:∀z∈p,W.sameAt σ'.w z:=by
  intro z hz;have hz':=hlt z hz
  cases z with
  |cell b o=>exact hb.cell (p:=⟨b,o,none⟩) hz'
  |map b=>exact hb.block b hz'
 have hfn:=hs ds hlen.2;refine⟨_,rfl,Znu (pa:=p) (pv:=[]) hW' (λb sp hd=> ?_) (λsp h=> ?_) (λsp h=> ?_) (by simp) hb ?_⟩
 ·rw[ybk,hfn,hr];exact trodAll_cons_mk (shut_bool ht _) trodAll_mk0
 ·rw[ybk,hfn];exact ZgF fn.params.toList args.toList ds p hp hA hsame h
 ·rw[ybk,hfn,hv];rfl
 ·intro j t r hj hjr;rw[hr] at hj hjr
  cases j with
  |zero=>
   simp at hj;subst hj;have:r=.bool true:=by simpa[Value.resultList] using hjr.symm
   subst this
   exact okWide_bool_mk ht _
  |succ j=>simp at hj
end
end Go.Ev
namespace Go.Ev
end Go.Ev
end
section
namespace Go.Ev
mutual
def Ty.Wf:(t:Ty)→t.den→Prop
 |.int k,n=>(Lit.int k n).wf=true
 |.u8,_=>True
 |.u32,_=>True
 |.u64,_=>True
 |.bool,_=>True
 |.str,s=>s.size≤maxLen
 |.sl t,l=>List.length l≤maxLen∧∀x,List.Mem x l→Ty.Wf t x
 |.arr n t,l=>List.length l=n∧∀x,List.Mem x l→Ty.Wf t x
 |.st fs,x=>Ty.Wfs fs x
def Ty.Wfs:(fs:List Ty)→Ty.dens fs→Prop
 |[],_=>True
 |[t],x=>Ty.Wf t x
 |t::u::r,x=>Ty.Wf t x.1∧Ty.Wfs (u::r) x.2
end
mutual
def ZvL(P:yf):Nat→ya→Ty→Bool
 |0,_,_=>false
 |n+1,t,T=>match P.underlying t,T with
  |some (.int .u8),.u8=>true
  |some (.int .u32),.u32=>true
  |some (.int .u64),.u64=>true
  |some (.int k),.int k'=>decide (k=k')
  |some .bool,.bool=>true
  |some .string,.str=>true
  |some (.slice e),.sl T'=>P.cellsOf e==T'.size&&ZvL P n e T'
  |some (.array m e),.arr m' T'=>m==m'&&(P.cellsOf e==T'.size&&ZvL P n e T')
  |some (.struct fs),.st Ts=>tyOks P n fs.toList Ts
  |_,_=>false
def tyOks(P:yf):Nat→List Field→List Ty→Bool
 |0,_,_=>false
 |_+1,[],[]=>true
 |n+1,f::fs,T::Ts=>ZvL P n f.type T&&tyOks P n fs Ts
 |_+1,_,_=>false
end
theorem ZFs{m:Int}(h:(Lit.int .u8 m).wf=true):∃b:UInt8,m=(b.toNat:Int):=by
 simp only[Lit.wf,yh,decide_eq_true_eq] at h;have h1:(0:Int)≤m:=h.1;have h2:m≤255:=h.2;refine⟨UInt8.ofNat m.toNat, ?_⟩;have:(UInt8.ofNat m.toNat).toNat=m.toNat:=by simp;omega
 rw[this];omega
theorem ZEw{m:Int}(h:(Lit.int .u32 m).wf=true):∃b:UInt32,m=(b.toNat:Int):=by
 simp only[Lit.wf,yh,decide_eq_true_eq] at h;have h1:(0:Int)≤m:=h.1;have h2:m≤4294967295:=h.2;refine⟨UInt32.ofNat m.toNat, ?_⟩;have:(UInt32.ofNat m.toNat).toNat=m.toNat:=by simp;omega
 rw[this];omega
theorem ZEx{m:Int}(h:(Lit.int .u64 m).wf=true):∃b:UInt64,m=(b.toNat:Int):=by
 simp only[Lit.wf,yh,decide_eq_true_eq] at h;have h1:(0:Int)≤m:=h.1;have h2:m≤18446744073709551615:=h.2;refine⟨yae m.toNat, ?_⟩;have:(yae m.toNat).toNat=m.toNat:=by simp;omega
 rw[this];omega
theorem ZvM{α β:Type}{f:α→β}{R:α→Prop}:∀{ys:List β},(∀y,y∈ys→∃x,y=f x∧R x)→∃l:List α,ys=l.map f∧∀x,List.Mem x l→R x
 |[],_=>⟨[],rfl,λx hx=>by cases hx⟩
 |y::ys,h=>by
  obtain⟨x,rfl,hx⟩:=h y (yar ..);obtain⟨l,rfl,hl⟩:=ZvM (λz hz=>h z (yas _ hz))
  exact⟨x::l,rfl,λz hz=>by
   cases hz with
   |head=>exact hx
   |tail _ hz=>exact hl z hz⟩
mutual
theorem Zqc{P:yf}:∀(m n:Nat)(t:ya)(T:Ty)(x:Pl),ZvL P m t T=true→wtP P n t x→∃v:T.den,T.Wf v∧x=T.enc v
 |0,_,_,_,_,h,_=>by simp[ZvL] at h
 |_+1,0,_,_,_,_,h=>by simp[wtP] at h
 |m+1,n+1,t,T,x,h,hw=>by
  unfold ZvL at h;split at h
  ·rename_i hu;unfold wtP at hw;rw[hu] at hw;cases x <;> try exact hw.elim
   obtain⟨rfl,h2⟩:=hw;obtain⟨b,rfl⟩:=ZFs h2;exact⟨b,trivial,rfl⟩
  ·rename_i hu;unfold wtP at hw;rw[hu] at hw;cases x <;> try exact hw.elim
   obtain⟨rfl,h2⟩:=hw;obtain⟨b,rfl⟩:=ZEw h2;exact⟨b,trivial,rfl⟩
  ·rename_i hu;unfold wtP at hw;rw[hu] at hw;cases x <;> try exact hw.elim
   obtain⟨rfl,h2⟩:=hw;obtain⟨b,rfl⟩:=ZEx h2;exact⟨b,trivial,rfl⟩
  ·rename_i k k' hu;have h:=of_decide_eq_true h;subst h;unfold wtP at hw;rw[hu] at hw;cases x <;> try exact hw.elim
   obtain⟨rfl,h2⟩:=hw;exact⟨_,h2,rfl⟩
  ·rename_i hu;unfold wtP at hw;rw[hu] at hw;cases x <;> try exact hw.elim
   exact⟨_,trivial,rfl⟩
  ·rename_i hu;unfold wtP at hw;rw[hu] at hw;cases x <;> try exact hw.elim
   exact⟨_,hw,rfl⟩
  ·rename_i e T' hu;simp only[yh,beq_iff_eq] at h;unfold wtP at hw;rw[hu] at hw;cases x <;> try exact hw.elim
   obtain⟨rfl,rfl,h3,h4⟩:=hw
   obtain⟨l,rfl,h5⟩:=ZvM λy hy=>(by
    obtain⟨v,a,b⟩:=Zqc m n e T' y h.2 (h4 y hy);exact⟨v,b,a⟩:∃v:T'.den,y=T'.enc v∧T'.Wf v)
   refine⟨l,⟨by simpa using h3,h5⟩, ?_⟩;rw[h.1];rfl
  ·rename_i m0 e m' T' hu;simp only[yh,beq_iff_eq] at h;obtain⟨rfl,h⟩:=h;unfold wtP at hw;rw[hu] at hw;cases x <;> try exact hw.elim
   obtain⟨rfl,rfl,h3,h4⟩:=hw
   obtain⟨l,rfl,h5⟩:=ZvM λy hy=>(by
    obtain⟨v,a,b⟩:=Zqc m n e T' y h.2 (h4 y hy);exact⟨v,b,a⟩:∃v:T'.den,y=T'.enc v∧T'.Wf v)
   refine⟨l,⟨by simpa using h3,h5⟩, ?_⟩;rw[h.1];rfl
  ·rename_i fs Ts hu;unfold wtP at hw;rw[hu] at hw;cases x <;> try exact hw.elim
   rename_i xs;obtain⟨v,h1,rfl⟩:=wt_tys m n fs.toList Ts xs h hw;exact⟨v,h1,rfl⟩
  ·cases h
theorem wt_tys{P:yf}:∀(m n:Nat)(fs:List Field)(Ts:List Ty)(xs:List Pl),tyOks P m fs Ts=true→ZCF (wtP P n) fs xs→∃v:Ty.dens Ts,Ty.Wfs Ts v∧xs=Ty.encs Ts v
 |0,_,_,_,_,h,_=>by simp[tyOks] at h
 |m+1,n,[],[],[],h,hw=>⟨(),trivial,rfl⟩
 |m+1,n,[],[],_::_,h,hw=>hw.elim
 |m+1,n,[],_::_,_,h,hw=>by cases h
 |m+1,n,_::_,[],_,h,hw=>by cases h
 |m+1,n,_::_,_::_,[],h,hw=>hw.elim
 |m+1,n,f::fs,[T],x::xs,h,hw=>by
  simp only[tyOks,yh] at h;obtain⟨v,h1,rfl⟩:=Zqc m n f.type T x h.1 hw.1
  cases fs with
  |nil=>cases xs with
   |nil=>exact⟨v,h1,rfl⟩
   |cons _ _=>exact hw.2.elim
  |cons _ _=>
   cases m with
   |zero=>exact absurd h.2 (by simp[tyOks])
   |succ m=>exact absurd h.2 (by simp[tyOks])
 |m+1,n,f::fs,T::U::Ts,x::xs,h,hw=>by
  simp only[tyOks,yh] at h;obtain⟨v,h1,rfl⟩:=Zqc m n f.type T x h.1 hw.1;obtain⟨w,h2,rfl⟩:=wt_tys m n fs (U::Ts) xs h.2 hw.2;exact⟨(v,w),⟨h1,h2⟩,rfl⟩
end
theorem Zqd{I X:Type}{step:I→Option (I⊕X)}(Inv:I→Prop)(mu:I→Nat)(Post:X→Prop)
 (h:∀i,Inv i→(∃j,step i=some (.inl j)∧Inv j∧mu j < mu i)∨(∃x,step i=some (.inr x)∧Post x)):∀(n:Nat)(i:I),Inv i→mu i < n→∃x,Zk step n i=some x∧Post x
 |0,i,_,hn=>by omega
 |n+1,i,hi,hn=>by
  unfold Zk;rcases h i hi with⟨j,h1,h2,h3⟩|⟨x,h1,h2⟩
  ·rw[h1,yb];exact Zqd Inv mu Post h n j h2 (by omega)
  ·rw[h1,yb];exact⟨x,rfl,h2⟩
theorem Xi{I X:Type}{step:I→Option (I⊕X)}(Inv:I→Prop)(mu:I→Nat)(Post:X→Prop)
 (h:∀i,Inv i→(∃j,step i=some (.inl j)∧Inv j∧mu j < mu i)∨(∃x,step i=some (.inr x)∧Post x)) (i:I) (hi:Inv i) (hm:mu i < 18446744073709551616):∃x,Zk step fuel i=some x∧Post x:=by
 refine Zqd Inv mu Post h fuel i hi ?_;rw[ZiG];exact hm
theorem ZR{z:Int}(h1: -9223372036854775808≤z)(h2:z≤9223372036854775807):wi z=z:=by
 simp only[wi,IntKind.wrap,IntKind.signed,IntKind.bits];simp;omega
theorem Zd8{α:Type}{l:List α}{i:Int}{y:α}(h0:0≤i)(h:l[i.toNat]? =some y):idx l i=some y:=by
 unfold idx;rw[if_pos h0,h]
theorem VP{α:Type}{l:List α}{i:Nat}(h:i < l.length):∃y,l[i]? =some y:=⟨_,yad h⟩
theorem Wg{i:Int}{n:Nat}(h1:0≤i)(h2:i < (n:Int)):inB i n=true:=by simp[inB,h1,h2]
theorem YH{n m b:Nat}(h1:(n+m)*b≤140737488355328)(h2:n+m≤9223372036854775807):apB n m b=true:=by
 unfold apB;rw[yh];exact⟨decide_eq_true h1,decide_eq_true h2⟩
def tdv:(ts:List Ty)→Ty.dens ts→List TD
 |[],_=>[]
 |[t],x=>[.p (.v t x)]
 |t::u::r,x=>.p (.v t x.1)::tdv (u::r) x.2
theorem Zw7:∀(ts:List Ty)(x:Ty.dens ts),Sh.fills (ts.map .v) (ofD ts x)=some (tdv ts x,[])
 |[],_=>rfl
 |[t],x=>by
  rw[show ofD [t] x=[⟨t,x⟩] from rfl,yac,List.map_nil,Sh.fills,Sh.fill]
  have e:=ZZ t x;dsimp only;rw[e]
  rfl
 |t::u::r,x=>by
  have h:=Zw7 (u::r) x.2;have e:=ZZ t x.1;rw[show ofD (t::u::r) x=⟨t,x.1⟩::ofD (u::r) x.2 from rfl,yac,Sh.fills,Sh.fill]
  dsimp only;rw[e,yz,yb,h];rfl
theorem ZAC{L:Lk}:∀(ts:List Ty)(x:Ty.dens ts),TD.ers L (tdv ts x)=(Ty.encs ts x).map .p
 |[],_=>rfl
 |[t],x=>rfl
 |t::u::r,x=>by
  rw[show tdv (t::u::r) x=.p (.v t x.1)::tdv (u::r) x.2 from rfl,Zs,yac, ←Zs,ZAC (u::r) x.2]
  rfl
theorem ZCI{P:yf}{g:yr}{ts:List Ty}{M:Ty.dens ts→Option Bool}(hok:Fs.Ok (⟨g,ts.map .v,[],ts,[⟨.ret,[(0,.v .bool)],[],[.bool]⟩],M⟩:Fs P)){x:Ty.dens ts}(h:M x=some true):
 Con P g ((Ty.encs ts x).map .p) [] (.p (.bool true)) []:=by
 obtain⟨args,R,H,h1,h2,h3⟩:=hok x true h;have e:=(Zw7 ts x).symm.trans (show Sh.fills (ts.map .v) (ofD ts x)=some (args,R) from h1)
 cases e;cases h2
 obtain⟨r,h4,h5⟩:=h3 _ [⟨.bool,true⟩] ([.p (.v .bool true)],[]) ⟨rfl,rfl⟩ (by
  simp only[XZ,shs];rfl)
 cases h4;rw[←ZAC (L:=lk [])];exact h5
theorem ZrN{P:yf}{s:Fs P}(h:s.Ok){M:Ty.dens s.ins→Option (XSh.sum s.xs)}(e:∀x,M x=s.M x):Fs.Ok (P:=P) { s with M:=M}:=by
 have:M=s.M:=funext e;subst this;exact h
def Znv(P:yf)(m:Nat):List ya→List Ty→Bool
 |[],[]=>true
 |t::ts,T::Ts=>ZvL P m t T&&Znv P m ts Ts
 |_,_=>false
theorem Zw8{P:yf}{m n:Nat}:∀{ts:List ya}{Ts:List Ty}{xs:List Pl},Znv P m ts Ts=true→ZCH P n ts xs→∃v:Ty.dens Ts,Ty.Wfs Ts v∧xs=Ty.encs Ts v
 |[],[],[],_,_=>⟨(),trivial,rfl⟩
 |[],[],_::_,_,h=>h.elim
 |[],_::_,_,h,_=>by cases h
 |_::_,[],_,h,_=>by cases h
 |_::_,_::_,[],_,h=>h.elim
 |t::ts,[T],x::xs,h,hw=>by
  simp only[Znv,yh] at h;obtain⟨v,h1,rfl⟩:=Zqc m n t T x h.1 hw.1
  cases ts with
  |nil=>cases xs with
   |nil=>exact⟨v,h1,rfl⟩
   |cons _ _=>exact hw.2.elim
  |cons _ _=>exact absurd h.2 (by simp[Znv])
 |t::ts,T::U::Ts,x::xs,h,hw=>by
  simp only[Znv,yh] at h;obtain⟨v,h1,rfl⟩:=Zqc m n t T x h.1 hw.1;obtain⟨w,h2,rfl⟩:=Zw8 (Ts:=U::Ts) h.2 hw.2;exact⟨(v,w),⟨h1,h2⟩,rfl⟩
theorem ZCJ{P:yf}{g:yr}{t:Ty}{xs:List XSh}{MA M:Ty.dens [.sl t]→Option (XSh.sum xs)}(hA:Fs.Ok (⟨g,[.sl true t],[],[.sl t],xs,MA⟩:Fs P))
 (h1:M ([]:List t.den)=none) (h2:∀(x:t.den)(l:List t.den),M (x::l)=MA (x::l)):Fs.Ok (⟨g,[.v (.sl t)],[],[.sl t],xs,M⟩:Fs P):=by
 intro l o hM;have key:∀(l:List t.den),Ty.cast (.sl t) (.sl t) l=some l:=λl=>ZZ (.sl t) l
 have h3:∀l:List t.den,M l=some o→MA l=some o∧l≠[]:=λl hl=>by
  cases l with
  |nil=>rw[h1] at hl;cases hl
  |cons x l=>exact⟨by rw[←h2];exact hl,by simp⟩
 obtain⟨hMA,hne⟩:=h3 l hM;obtain⟨a1,R1,H1,f1,f2,f3⟩:=hA l o hMA
 have e1:a1=[.p (.sl (some true) t l)]∧R1=[]:=by
  have:Sh.fills [.sl true t] [(⟨.sl t,l⟩:TV)]=some (a1,R1):=f1;simp only[Sh.fills,Sh.fill] at this;rw[key l] at this;have this:some (([.p (.sl (some true) t l)]:List TD),([]:List TV))=some (a1,R1):=this;cases this;exact⟨rfl,rfl⟩
 obtain⟨rfl,rfl⟩:=e1;cases f2;refine⟨[.p (.v (.sl t) l)],[],[], ?_,rfl,λe vs s' hs hf=> ?_⟩
 ·show Sh.fills [.v (.sl t)] [(⟨.sl t,l⟩:TV)]=_;simp only[Sh.fills,Sh.fill];rw[key l];rfl
 ·obtain⟨r,r1,r2⟩:=f3 e vs s' hs hf;exact⟨r,r1,Zwq (xs:=List.map t.enc l) r2 λhl=>absurd (List.map_eq_nil_iff.1 hl) hne⟩
end Go.Ev
end
section
namespace Go.Proofs.Ytkapgdbeeblihaa
open Go.Ev Go.RowKit Go.Lib
open Go.ChangeMaps (setBlock)
theorem ZtT:∀(l:List MapEntry),(∀(i j:Nat)x y,l[i]? =some x→l[j]? =some y→x.born=y.born→i=j)→(l.map (·.born)).Nodup
 |[],_=>by simp
 |x::l,h=>by
  rw[yac,List.nodup_cons];refine⟨λhm=> ?_,ZtT l λi j y z h1 h2 h3=> ?_⟩
  ·obtain⟨y,h1,h2⟩:=ybq.1 hm;obtain⟨i,h3,h4⟩:=List.getElem_of_mem h1;have:=h 0 (i+1) x y rfl (by rw[yaw,yad h3,h4]) h2.symm;omega
  ·have:=h (i+1) (j+1) y z (by simpa using h1) (by simpa using h2) h3;omega
theorem Zhs{es:Array MapEntry}{clock:Nat}(h:Zaj es clock):(es.toList.map (·.born)).Nodup:=
 ZtT _ λi j x y h1 h2 h3=>h.2 i j x y (by rw[←ybl];exact h1) (by rw[←ybl];exact h2) h3
theorem ZCK{es:Array MapEntry}{clock:Nat}(h:Zaj es clock):∀x,x∈es.toList→x.born < clock:=λx hx=>by
 obtain⟨i,h1,h2⟩:=List.getElem_of_mem hx;exact h.1 i x (by rw[←ybl,yad h1,h2])
def ZAD:yg→Int
 |.agg cs=>(match cs[0]? with|some (Value.int _ x)=>x|_=>0)
 |_=>0
def W6(l:List MapEntry)(seen:Array Nat):Int:=((l.filter λe=>seen.contains e.born).map λe=>ZAD e.val).sum
theorem ZrO(l:List MapEntry):W6 l #[]=0:=by
 unfold W6;rw[List.filter_eq_nil_iff.2 (by simp)];rfl
theorem ZtU(es:Array MapEntry)(seen:Array Nat)(h:(leftOf es seen).size=0):W6 es.toList seen=(es.toList.map λe=>ZAD e.val).sum:=by
 unfold W6;have h1:leftOf es seen= #[]:=Array.eq_empty_of_size_eq_zero h;unfold leftOf at h1;rw[Array.filter_eq_empty_iff] at h1;rw[List.filter_eq_self.2 λe he=> ?_];have:=h1 e (by simpa using he);simpa using this
theorem ZiK(seen:Array Nat)(e:MapEntry)(hs:seen.contains e.born=false):∀(l:List MapEntry),(l.map (·.born)).Nodup→e∈l→W6 l (seen.push e.born)=W6 l seen+ZAD e.val
 |x::l,hn,he=>by
  rw[yac,List.nodup_cons] at hn
  have hrest:∀(m:List MapEntry),e.born ∉ m.map (·.born)→W6 m (seen.push e.born)=W6 m seen:=by
   intro m hm;unfold W6;congr 2;refine List.filter_congr λy hy=> ?_;have:y.born≠e.born:=λhq=>hm (by rw[←hq];exact ybq.2 ⟨y,hy,rfl⟩);simp[Array.contains_push,this]
  by_cases hx:x.born=e.born
  ·have hxe:x=e:=by
    rcases ybd.1 he with rfl|h
    ·rfl
    ·exact absurd (ybq.2 ⟨e,h,hx.symm⟩) hn.1
   subst hxe;have:=hrest l hn.1;unfold W6 at this ⊢;rw[List.filter_cons,List.filter_cons,if_pos (by simp[Array.contains_push]),if_neg (by rw[hs];decide),yac,List.sum_cons,this];omega
  ·have hl:e∈l:=by
    rcases ybd.1 he with rfl|h
    ·exact absurd rfl hx
    ·exact h
   have:=ZiK seen e hs l hn.2 hl;unfold W6 at this ⊢;rw[List.filter_cons,List.filter_cons];have hc:(seen.push e.born).contains x.born=seen.contains x.born:=by simp[Array.contains_push,hx]
   rw[hc];split
   ·rw[yac,List.sum_cons,yac,List.sum_cons,this];omega
   ·exact this
theorem ZyB{w w' w1:yy}{r:Nat}{o:Obj}(hg:w.grownBy w' none)(hw:w1=w'∨w1=w'.drew)(hr:w.heap.size≤r):w.grownBy (setBlock w1 r o) none:=by
 have h1:w.grownBy w1 none:=by
  rcases hw with rfl|rfl
  ·exact hg
  ·exact⟨hg.os,hg.tape,hg.output,hg.size,hg.block⟩
 refine⟨h1.os,h1.tape,h1.output, ?_,λi hi hn=> ?_⟩
 ·have:(setBlock w1 r o).heap.size=w1.heap.size:=by simp[setBlock]
  rw[this];exact h1.size
 ·have:(setBlock w1 r o).heap[i]? =w1.heap[i]? :=by
   show(w1.heap.setIfInBounds r o)[i]? =_;rw[ycy,if_neg (by omega)]
  rw[this];exact h1.block i hi hn
set_option maxRecDepth 1000000 in
theorem ZAE(bs bm:Nat)(cs:Array yg)(ts:ya)(es:Array MapEntry)(clock:Nat)(w:yy)(hs:w.heap[bs]? =some (.cells cs ts (0,0)))(h0:cs[0]? =some (.map (some bm)))(hb:w.heap[bm]? =some (.map es clock))(hbo:Zaj es clock)
 (hv:∀x,x∈es.toList→∃n A l c h,x.val=.agg #[.int .i64 n,.slice A l c,.int .i64 h]):
 Calls Try.prog 20 #[.pointer (some ⟨bs,0,none⟩)] w λe w'=>e=.returned (.int .i64 (wrap64 ((es.toList.map λe=>ZAD e.val).sum)))∧w.grownBy w' none:=by
 have hrg:=run_range_map (P:=Try.prog) w 104 34 103 bm es clock Try.underlying104 hb;have hc0:w.cell? ⟨bs,0,none⟩=some (.map (some bm)):=by simp[World.cell?,hs,h0]
 go_enter Try.func20,Try.ntmps20
 go_wp2
 go_loopw [3] (λs w'=>∃seen:Array Nat,w.grownBy w' none∧w'.heap[w.heap.size]? =some (.mapIter (some bm) clock seen clock)∧s=.int .i64 (wrap64 (W6 es.toList seen))) (λ_ w'=>(leftOf es (w'.iterSeen w.heap.size)).size)
 case atStart=>exact⟨#[],World.grownBy_alloc w _ none,heap_alloc_new w _,by rw[ZrO,show wrap64 0=0 by simp[wrap64]]⟩
 case round=>
  obtain⟨seen,hg,hr,rfl⟩:=hrel;have hlt:bm < w.heap.size:=(ycp.1 hb).1;have hb1:wr.heap[bm]? =some (.map es clock):=(hg.block bm hlt (by simp)).trans hb;rcases run_next_at (P:=Try.prog) wr 0 w.heap.size bm clock clock seen es clock hr hb1 (λx hx=>ZCK hbo x hx) (yl _) with⟨h0',hrun⟩|⟨e,he,w1,hw1,hrun⟩
  ·have hnx:∀ty,(Instr.next (.pointer (some ⟨w.heap.size,0,none⟩)) false ty).run Try.prog wr=_:=λ_=>hrun
   go_wp2
   go_ret
   rw[ZtU es seen h0'];exact⟨rfl,hg⟩
  ·have hm:e∈es.toList∧seen.contains e.born=false:=mem_left he;obtain⟨n,A,l,c,h,hval⟩:=hv e hm.1;rw[hval] at hrun;have hg2:w.grownBy (setBlock w1 w.heap.size (.mapIter (some bm) clock (seen.push e.born) clock)) none:=ZyB hg hw1 (yl _)
   have hr2:(setBlock w1 w.heap.size (.mapIter (some bm) clock (seen.push e.born) clock)).heap[w.heap.size]? =some (.mapIter (some bm) clock (seen.push e.born) clock):=by
    have:w1.heap[w.heap.size]? =some (.mapIter (some bm) clock seen clock):=by
     rcases hw1 with rfl|rfl <;> exact hr
    exact(Go.MapKept.heap_set (w:=w1) this).1
   generalize setBlock w1 w.heap.size (.mapIter (some bm) clock (seen.push e.born) clock)=w2 at hrun hg2 hr2;have hb2:w2.heap[bm]? =some (.map es clock):=(hg2.block bm hlt (by simp)).trans hb;have hsz:w.heap.size < w2.heap.size:=(ycp.1 hr2).1;have hnx:∀ty,(Instr.next (.pointer (some ⟨w.heap.size,0,none⟩)) false ty).run Try.prog wr=_:=λ_=>hrun;have hen:=run_entry_at (P:=Try.prog) w2 w.heap.size bm clock seen es clock e hr2 hb2 hm.1 (Zhs hbo);rw[hval] at hen;have hen':∀o,(Instr.entry (.pointer (some ⟨w.heap.size,0,none⟩))).run Try.prog (w2.alloc o)=_:=λo=>run_entry_at (P:=Try.prog) (w2.alloc o) w.heap.size bm clock seen es clock e (by rw[heap_alloc_old w2 o hsz];exact hr2) (by rw[heap_alloc_old w2 o (by omega)];exact hb2) hm.1 (Zhs hbo);rw[hval] at hen'
   have hsn:wr.iterSeen w.heap.size=seen:=by
    unfold World.iterSeen;rw[hr]
   clear hr hb1 hg hw1 hrun
   go_wp2
   go_roundw
   case rel=>
    refine⟨seen.push e.born,hg2.andThen (World.grownBy_alloc w2 _ none) (by intro j hj;cases hj),by rw[heap_alloc_old w2 _ hsz];exact hr2, ?_⟩;rw[ZiK seen e hm.2 es.toList (Zhs hbo) hm.1,hval]
    have e3:∀x:Int,wrap64 (wrap64 x+n)=wrap64 (x+n):=λx=>by
     simp only[wrap64];omega
    rw[e3];rfl
   case measure=>
    have e1:(w2.alloc (Obj.cells #[Value.int IntKind.i64 n,Value.slice A l c,Value.int IntKind.i64 h] 103)).iterSeen w.heap.size=seen.push e.born:=by
     unfold World.iterSeen;rw[heap_alloc_old w2 _ hsz,hr2]
    rw[e1,hsn];exact left_shrinks es seen e he
def ZAF:Pl→Int
 |.agg [.agg [.int .i64 n,.agg [.sl _ _ _]],.int .i64 _]=>n
 |_=>0
theorem ZAG{σ:Sg}{n h:Int}{nn:Option Bool}{s:Nat}{xs:List Pl}{v:yg}(hr:repDV σ (.p (.agg [.agg [.int .i64 n,.agg [.sl nn s xs]],.int .i64 h])) v):∃A l c,v=.agg #[.int .i64 n,.slice A l c,.int .i64 h]:=by
 obtain⟨cs,rfl,h1⟩:=hr.1 rfl;simp only[repD,repC,repCs] at h1;obtain⟨us,us',e1,⟨u1,u2,e2,e3,u3,u4,e4,⟨u5,u6,e5,⟨_,A,c,e6,_⟩,e7⟩,e8⟩,u7,u8,e9,e10,e11⟩:=h1;subst e3;subst e6;subst e7;subst e8;subst e10;subst e11;subst e5;subst e4;subst e2;subst e9;refine⟨A,xs.length,c, ?_⟩;congr 1;apply Array.toList_inj.1;rw[e1];rfl
theorem ZAH{σ:Sg}:∀(kvs:List (Pl×Pl))(es:List MapEntry),Vx σ kvs es→(∀q,q∈kvs→∃n nn s xs h,q.2=.agg [.agg [.int .i64 n,.agg [.sl nn s xs]],.int .i64 h])→
 (∀x,x∈es→∃n A l c h,x.val=.agg #[.int .i64 n,.slice A l c,.int .i64 h])∧(es.map λe=>ZAD e.val).sum=(kvs.map λq=>ZAF q.2).sum
 |[],[],_,_=>⟨λx hx=>(by cases hx),rfl⟩
 |[],_::_,h,_=>h.elim
 |_::_,[],h,_=>h.elim
 |q::r,e::es,h,hk=>by
  obtain⟨n,nn,s,xs,hh,hq⟩:=hk q (yar ..);obtain⟨h1,h2⟩:=ZAH r es h.2.2 λy hy=>hk y (yas _ hy);have hv:=h.2.1;rw[hq] at hv;obtain⟨A,l,c,hv⟩:=ZAG hv;refine⟨λx hx=> ?_, ?_⟩
  ·rcases ybd.1 hx with rfl|hx
   ·exact⟨n,A,l,c,hh,hv⟩
   ·exact h1 x hx
  ·rw[yac,List.sum_cons,yac,List.sum_cons,h2,hv,hq];rfl
theorem ZAI{l m:List Int}(h:l.Perm m):l.sum=m.sum:=by
 induction h with
 |nil=>rfl
 |cons x _ ih=>rw[List.sum_cons,List.sum_cons,ih]
 |swap x y l=>simp only[List.sum_cons];omega
 |trans _ _ h1 h2=>exact h1.trans h2
theorem ZCL{x:Dv}{st:Bool}{t:ya}{kvs:List (Pl×Pl)}{rest:List Ent}(hk:∀q,q∈kvs→∃n nn s xs h,q.2=.agg [.agg [.int .i64 n,.agg [.sl nn s xs]],.int .i64 h]):
 Con Try.prog 20 [.ref 0 0 []] (.var (.agg [.mp 1,x]) st::.map t kvs::rest) (.p (.int .i64 (wrap64 ((kvs.map λq=>ZAF q.2).sum)))) (.var (.agg [.mp 1,x]) st::.map t kvs::rest):=by
 intro σ vs ok hH hvs;simp only[repVs] at hvs;obtain⟨v,_,rfl,hv,rfl⟩:=hvs;have hv:=hv.2 rfl;simp only[repD] at hv;obtain⟨b,hm,_,hv⟩:=hv;obtain rfl:v=.pointer (some ⟨b,0,none⟩):=by simpa using hv
 obtain⟨b',cs,ts,e1,hb,hr,hsz⟩:=ok.ent 0 _ _ (by rw[hH];rfl) hm;cases e1;simp only[repD,repDs] at hr;obtain⟨us,us',e2,⟨bm,hbm,_,rfl⟩,_⟩:=hr
 have h0:cs[0]? =some (.map (some bm)):=by
  have:(cs.toList.take (Dv.size (.agg [.mp 1,x])))[0]? =some (.map (some bm)):=by rw[e2];rfl
  rw[←ybl];rw[ycd] at this;split at this
  ·exact this
  ·cases this
 obtain⟨b2,es,clock,e3,hbe,hkv,hbo⟩:=ok.ent 1 _ _ (by rw[hH];rfl) hbm;cases e3;obtain⟨kv2,hperm,_,hkv⟩:=hkv;obtain⟨k1,k2⟩:=ZAH _ _ hkv λq hq=>hk q (hperm.mem_iff.1 hq);have k3:(kv2.map λq=>ZAF q.2).sum=(kvs.map λq=>ZAF q.2).sum:=ZAI (hperm.map _);rw[k3] at k2;refine(ZAE b bm cs ts es clock σ.w hb h0 hbe hbo k1).mono λe w'⟨he,hg⟩=> ?_;subst he;obtain⟨to,ok'⟩:=Zf4 ok hg;refine⟨_,{ σ with w:=w'},rfl,rfl,hH,to,ok', ?_⟩;rw[k2];exact Zq _ _
abbrev cT(B:Ty):Ty:=.st [.st [.int .i64,.st [.sl B]],.int .i64]
abbrev ZtV(K B S:Ty)(tid e:ya):List ESh:=[.var (.agg [.mp 1,.own 2 S]) true,.map tid K (cT B),.log S e]
def Zj1{α β:Type}(m:List (α×((Int×β)×Int))):Int:=wrap64 ((m.map λq=>q.2.1.1).sum)
def ZAJ{K B:Ty}(m:List (K.den×((Int×List B.den)×Int))):List (Pl×Pl):=m.map λq=>(K.enc q.1,(cT B).enc q.2)
theorem Zw9{K B:Ty}:∀(m:List (K.den×((Int×List B.den)×Int))),((ZAJ m).map λq=>ZAF q.2).sum=(m.map λq=>q.2.1.1).sum
 |[]=>rfl
 |q::m=>by
  have h:ZAJ (q::m)=(K.enc q.1,(cT B).enc q.2)::ZAJ m:=rfl;rw[h,yac,List.sum_cons,Zw9 m,yac,List.sum_cons];rfl
theorem ZAK{K B:Ty}(m:List (K.den×((Int×List B.den)×Int))):∀q,q∈ZAJ m→∃n nn s xs h,q.2=.agg [.agg [.int .i64 n,.agg [.sl nn s xs]],.int .i64 h]:=λq hq=>by
 obtain⟨z,_,rfl⟩:=ybq.1 hq;exact⟨z.2.1.1,none,B.size,z.2.1.2.map B.enc,z.2.2,rfl⟩
theorem ZEy(K B S:Ty)(tid e:ya):Fs.Ok (⟨20,[.ref 0 []],ZtV K B S tid e,[YT K (cT B),.sl S],[⟨.ret,[(0,.v (.int .i64))],ZtV K B S tid e,[.int .i64,YT K (cT B),.sl S]⟩],
 λ(x:List (K.den×((Int×List B.den)×Int))×List S.den)=>some (Zj1 x.1,x.1,x.2)⟩:Fs Try.prog):=by
 rintro⟨m,l⟩ o h
 replace h:some ((Zj1 m,m,l):Int×List (K.den×((Int×List B.den)×Int))×List S.den)=some o:=h
 cases h;let H:List TEnt:=[.var (.agg [.mp 1,.own 2 none S none]) true,.map tid K (cT B) m,.log S e l];have e1:Ty.cast (YT K (cT B)) (YT K (cT B)) m=some m:=ZZ _ m;have e2:Ty.cast (.sl S) (.sl S) l=some l:=ZZ (.sl S) l;have e3:Ty.cast (.int .i64) (.int .i64) (Zj1 m)=some (Zj1 m):=ZZ (.int .i64) (Zj1 m)
 have hf:∀r:List TV,ESh.fills (ZtV K B S tid e) (⟨YT K (cT B),m⟩::⟨.sl S,l⟩::r)=some (H,r):=λr=>by
  show(ESh.fill (.var (.agg [.mp 1,.own 2 S]) true) (⟨YT K (cT B),m⟩::⟨.sl S,l⟩::r)).bind (λa=>(ESh.fills [.map tid K (cT B),.log S e] a.2).map λb=>(a.1::b.1,b.2))=_;show(((Ty.cast (YT K (cT B)) (YT K (cT B)) m).map λ(y:List (K.den×(cT B).den))=>((TEnt.map tid K (cT B) y,(⟨.sl S,l⟩::r:List TV)):TEnt×List TV)).bind λa=>(ESh.fills [.log S e] a.2).map λb=>(a.1::b.1,b.2)).map (λb=>(TEnt.var (.agg [.mp 1,.own 2 none S none]) true::b.1,b.2))=_;rw[e1];show(((((Ty.cast (.sl S) (.sl S) l).map λ(y:List S.den)=>((TEnt.log S e y,r):TEnt×List TV)).bind λa=>(ESh.fills [] a.2).map λb=>(a.1::b.1,b.2))).map λb=>(TEnt.map tid K (cT B) m::b.1,b.2)).map (λb=>(TEnt.var (.agg [.mp 1,.own 2 none S none]) true::b.1,b.2))=_;rw[e2];rfl
 refine⟨[.ref 0 []],_,H,rfl,hf [],λx vs s' hs hfs=> ?_⟩;obtain⟨rfl,rfl⟩:=hs
 have hs':s'=([.p (.v (.int .i64) (Zj1 m))],H):=by
  have h1:XZ 1 [(0,.v (.int .i64))] (ZtV K B S tid e) (⟨.int .i64,Zj1 m⟩::⟨YT K (cT B),m⟩::⟨.sl S,l⟩::[])=some s':=hfs
  have h2:XZ 1 [(0,.v (.int .i64))] (ZtV K B S tid e) (⟨.int .i64,Zj1 m⟩::⟨YT K (cT B),m⟩::⟨.sl S,l⟩::[])=some ([.p (.v (.int .i64) (Zj1 m))],H):=by
   unfold XZ
   have h3:Sh.fills (shs [(0,.v (.int .i64))] 1) (⟨.int .i64,Zj1 m⟩::⟨YT K (cT B),m⟩::⟨.sl S,l⟩::[])=some ([.p (.v (.int .i64) (Zj1 m))],⟨YT K (cT B),m⟩::⟨.sl S,l⟩::[]):=by
    show(((Ty.cast (.int .i64) (.int .i64) (Zj1 m)).map λ(y:Int)=>((TD.p (.v (.int .i64) y),(⟨YT K (cT B),m⟩::⟨.sl S,l⟩::[]:List TV)):TD×List TV))).bind (λa=>(Sh.fills [] a.2).map λb=>(a.1::b.1,b.2))=_;rw[e3];rfl
   rw[h3];dsimp only[yb];rw[hf []];rfl
  rw[h2] at h1;exact(ybf h1).symm
 subst hs';refine⟨_,rfl, ?_⟩;have hc:=ZCL (x:=(TD.own 2 none S none).er (lk H)) (st:=true) (t:=tid) (kvs:=ZAJ m) (rest:=[.log S.size e (l.map S.enc)]) (ZAK m);have e5:=Zw9 (K:=K) (B:=B) m;rw[e5] at hc;exact hc
end Go.Proofs.Ytkapgdbeeblihaa
end
section
namespace Go.Proofs.Ytkapgdbeeblihaa
open Go.Ev Go.RowKit Go.Lib
theorem ZvN(w:yy):Calls Try.prog 99 #[.slice none 0 0,.int .i64 0] w λe w'=>e=.returned (.slice none 0 0)∧w'=w:=by
 go_enter Try.func99,Try.ntmps99
 go_wp2
 go_ret
 exact⟨rfl,rfl⟩
theorem ZyC(n:Nat)(w:yy)(h0:0 < n)(hn:n≤Zn):Calls Try.prog 99 #[.slice none 0 0,.int .i64 n] w λe w'=>e=.returned (.slice (some ⟨w.heap.size,0,none⟩) 0 (grownCap w n 0 5))∧
 w'=w.drew.alloc (.cells (Builtin.zeroCells #[.int .u8 0] n++Builtin.zeroCells #[.int .u8 0] (grownCap w n 0 5 - n)) 5):=by
 have hb:n≤140737488355328:=hn;have h1:¬((n:Int) < 0):=by omega
 have h3:wrap64 ((n:Int) - ((0:Int) - (0:Int)))=(n:Int):=by unfold wrap64;omega
 have h3':wrap64 ((n:Int) - 0)=(n:Int):=by unfold wrap64;omega
 have h3'':wrap64 (n:Int)=(n:Int):=by unfold wrap64;omega
 have h4:(n:Int) > 0:=by omega
 have hi:∃i,Try.prog.info? 5=some i∧i.zero=some (.int .u8 0)∧i.size=1∧i.bytes=1:=by
  have h:(Try.prog.info? 5).map (λi=>(i.zero,i.size,i.bytes))=some (some (.int .u8 0),1,1):=by kernel_rfl
  obtain⟨i,h1,h2⟩:=Option.map_eq_some_iff.1 h;simp only[yj] at h2;exact⟨i,h1,h2.1,h2.2.1,h2.2.2⟩
 obtain⟨i,hi1,hi2,hi3,hi4⟩:=hi
 have hrz:∀ty,(Builtin.append_ #[93,3] ty #[.slice none 0 0,.int .i64 n]).run Try.prog w=
  .ok (.slice (some ⟨w.heap.size,0,none⟩) n (grownCap w n 0 5)) (w.drew.alloc (.cells (Builtin.zeroCells #[.int .u8 0] n++Builtin.zeroCells #[.int .u8 0] (grownCap w n 0 5 - n)) 5)):=λty=>by
  have h:=Lib.run_append_grow_zeros (P:=Try.prog) w 93 3 ty 5 i (.int .u8 0) .i64 .i64 Try.underlying93 Try.underlying3 hi1 hi2 none 0 0 [] (by rw[hi3];simp[Builtin.firstCells]) n h0 (by omega) (by omega) (by omega)
   (by rw[hi4];omega) (by rw[yay];exact growslice_fits h0 (by rw[hi4];omega))
  simpa[Value.cells] using h
 obtain⟨G,hG⟩:∃G,G=grownCap w n 0 5:=⟨_,rfl⟩;have hGn:=grownCap_ge w n 0 5;have hG63:=grownCap_le_maxLen w n 0 5 (by unfold maxLen;omega);unfold maxLen at hG63;rw[←hG] at hrz hGn hG63 ⊢;clear hG
 go_enter Try.func99,Try.ntmps99
 go_wp2_with (at_builtin;refine Lib.wpList_append_run _ rfl _ _ _ _ rfl _ _ rfl rfl _ _ (hrz _) ?_)
 all_goals (go_ret;exact⟨rfl,rfl⟩)
theorem ZAL(n:Nat)(hn:n≤Zn):Con Try.prog 99 [.p (.sl (some false) 1 []),.p (.int .i64 (n:Int))] [] (.own 0 none 1 []) [.log 1 5 []]:=by
 intro σ vs ok hH hvs;simp only[repVs] at hvs;obtain⟨v,_,rfl,hv,v2,_,rfl,hv2,rfl⟩:=hvs;obtain rfl:=Zku hv
 obtain rfl:v2=.int .i64 n:=by
  have:=hv2.2 rfl;simpa[repD,repC] using this
 have hm:σ.m=[]:=ybh (by rw[ok.len,hH];rfl);rcases Nat.eq_zero_or_pos n with rfl|h0
 ·refine(ZvN σ.w).mono λe w'⟨he,hw⟩=> ?_;subst he;subst hw;obtain⟨to,ok'⟩:=Xp (σ':={ σ with m:=σ.m++[none],H:=σ.H++[.log 1 5 []]}) ok rfl rfl rfl rfl (World.grownBy.refl σ.w none) (.inl rfl) (λ_=>.inl ⟨rfl,rfl⟩);refine⟨_,{ σ with m:=σ.m++[none],H:=σ.H++[.log 1 5 []]},rfl,rfl,by simp[hH],to,ok', ?_⟩;rw[Zf rfl];simp only[repD];exact⟨λ_ hx=>(by cases hx),none,0,rfl,yl _,by simp[maxLen],ZK _,λ_=>rfl,λh=>absurd rfl h,5,[],by simp[hH],yl _,λ_=>.inl ⟨by simp[hm],rfl,rfl⟩⟩
 ·refine(ZyC n σ.w h0 hn).mono λe w'⟨he,hw⟩=> ?_;subst he;subst hw;have hge:=grownCap_ge σ.w n 0 5;have hcm:=grownCap_le_maxLen σ.w n 0 5 (by have:n≤140737488355328:=hn;unfold maxLen;omega)
  have hsz:(Builtin.zeroCells #[.int .u8 0] n++Builtin.zeroCells #[.int .u8 0] (grownCap σ.w n 0 5 - n):Array yg).size=grownCap σ.w n 0 5*1:=by
   simp only[Array.size_append,size_zeroCells];simp;omega
  let cs:Array yg:=Builtin.zeroCells #[.int .u8 0] n++Builtin.zeroCells #[.int .u8 0] (grownCap σ.w n 0 5 - n);let σ':Sg:={ σ with m:=σ.m++[some σ.w.heap.size],H:=σ.H++[.log 1 5 []],w:=σ.w.drew.alloc (.cells cs 5)};have hblk:σ'.w.heap[σ.w.heap.size]? =some (.cells cs 5 (0,0)):=heap_alloc_new σ.w.drew _
  obtain⟨to,ok'⟩:=Xp (σ':=σ') ok rfl rfl rfl rfl (Yk σ.w (.cells cs 5) none) (.inr ⟨_,rfl,yl _,by simp[σ']⟩)
   (λleaf=>.inr ⟨σ.w.heap.size,_,grownCap σ.w n 0 5,rfl,hblk,hsz,Nat.zero_le _,hcm,λ_ hx=>(by cases hx),by simp[repCs]⟩)
  refine⟨_,σ',rfl,rfl,by simp[σ',hH],to,ok', ?_⟩;rw[Zf rfl];simp only[repD];exact⟨λ_ hx=>(by cases hx),_,_,rfl,Nat.zero_le _,hcm,ZK _,λh=>(by cases h),λh=>absurd rfl h,5,[],by simp[σ',hH],yl _,λ_=>.inr ⟨_,_,by simp[σ',hm],rfl,hblk,hsz⟩⟩
end Go.Proofs.Ytkapgdbeeblihaa
end
section
set_option maxRecDepth 4000
namespace Go.Proofs.Ytkapgdbeeblihaa
open Go Go.Ev
noncomputable section
abbrev yI:Ty:=.int .i64
abbrev ZF:Ty:=(.st [(.sl .u64),yI,yI,.u64])
abbrev ZW:Type:=((List UInt64)×Int×Int×UInt64)
def Qu(F:Nat)(a0:(List UInt64)):Option ((List UInt64)):=
 if(apB 0 a0.length 8)=true then
  some a0
 else
 none
def ZrP(F:Nat):Fs Try.prog:=⟨64,[.sl true .u64],[],[(.sl .u64)],[⟨.ret,[(0,.v (.sl .u64))],[],[(.sl .u64)]⟩],λx=>Qu F x⟩
def ZtW:Fs Try.prog:=ZrP fuel
theorem ZrQ:ZtW.Ok:=fnO { own:=[5,7],still:=[2]} [] [] trivial
def ZgG(F:Nat):Option ((List UInt64)):=
 some []
def Zli(F:Nat):Fs Try.prog:=⟨64,[.nil .u64],[],[],[⟨.ret,[(0,.v (.sl .u64))],[],[(.sl .u64)]⟩],λx=>ZgG F⟩
def Znw:Fs Try.prog:=Zli fuel
theorem Zlj:Znw.Ok:=fnO { own:=[5,7],still:=[2]} [] [] trivial
def Znx(F:Nat):Fs Try.prog:=⟨64,[.v (.sl .u64)],[],[(.sl .u64)],[⟨.ret,[(0,.v (.sl .u64))],[],[(.sl .u64)]⟩],λx=>Qu F x⟩
def Zc1:Fs Try.prog:=Znx fuel
theorem Zfn:Zc1.Ok:=ZvK (t:=.u64) (xs:=[⟨.ret,[(0,.v (.sl .u64))],[],[(.sl .u64)]⟩]) (MA:=λ(x:(List UInt64))=>Qu fuel x) (MB:=λ_=>ZgG fuel) ZrQ Zlj rfl
abbrev Yu:Ty:=(.st [(.sl ZF)])
abbrev Wh:Type:=(List ZW)
abbrev Zr:Ty:=(.st [yI,Yu])
abbrev Out:Type:=(Int×Wh)
def ZbD(F:Nat)(a0:(List ZW)):Option (((List Unit)×(List ZW))):=
 if(apB 0 a0.length 48)=true then
  some ([()],a0)
 else
 none
def Zj2(F:Nat):Fs Try.prog:=⟨63,[.sl true ZF],[],[(.sl ZF)],[⟨.ret,[(0,.rw 0)],[.row ZF true 142],[(.sl (.st [])),(.sl ZF)]⟩],λx=>ZbD F x⟩
def Zlk:Fs Try.prog:=Zj2 fuel
theorem Zj3:Zlk.Ok:=fnO { own:=[5,7],rowt:=[2,5,7]} [] [] trivial
def Zdz(F:Nat)(a0:(List ZW)):Option (((List Unit)×(List ZW))):=if a0.isEmpty=true then none else ZbD F a0
def Zht(F:Nat):Fs Try.prog:=⟨63,[.v (.sl ZF)],[],[(.sl ZF)],[⟨.ret,[(0,.rw 0)],[.row ZF true 142],[(.sl (.st [])),(.sl ZF)]⟩],λx=>Zdz F x⟩
def ZcA:Fs Try.prog:=Zht fuel
theorem Zhu:ZcA.Ok:=ZCJ (t:=ZF) (xs:=[⟨.ret,[(0,.rw 0)],[.row ZF true 142],[(.sl (.st [])),(.sl ZF)]⟩]) (MA:=λ(x:(List ZW))=>ZbD fuel x) Zj3 rfl (λ_ _=>rfl)
def hi0:HI:={ still:=[8,20],rowt:=[3,9,17]}
def ZgH(F:Nat)(s:(Int×Int×Out×Out×(List Unit)×(List ZW))):Option ((Int×Int×Out×Out×(List Unit)×(List ZW))⊕(Out×Out×(List Unit)×(List ZW))):=
 if(decide (s.2.1 < s.1))=true then
  if(inB s.2.1 s.2.2.2.2.2.length)=true then
   (s.2.2.2.2.2[s.2.1.toNat]?).bind λe8=>
   (Qu F e8.1).bind λo9=>
   if(inB s.2.1 s.2.2.2.2.2.length)=true then
    (s.2.2.2.2.2[s.2.1.toNat]?).bind λe10=>
    let y11:(List ZW):=s.2.2.2.2.2.set s.2.1.toNat (o9,e10.2.1,e10.2.2.1,e10.2.2.2)
    some (.inl (s.1,wi (s.2.1+1),s.2.2.1,s.2.2.2.1,s.2.2.2.2.1,y11))
   else
   none
  else
  none
 else
 some (.inr (s.2.2.1,s.2.2.2.1,s.2.2.2.2.1,s.2.2.2.2.2))
def ZiL:Lp:=⟨[(1,.ref 0 []),(2,.ref 1 []),(3,.rw 2),(10,.rw 2),(11,.v yI),(12,.v yI)],[.var (.v Zr) true,.var (.v Zr) true,.row ZF true 142],[yI,yI,Zr,Zr,(.sl (.st [])),(.sl ZF)],[⟨.exit 0,[(1,.ref 0 []),(2,.ref 1 []),(3,.rw 2)],[.var (.v Zr) true,.var (.v Zr) true,.row ZF true 142],[Zr,Zr,(.sl (.st [])),(.sl ZF)]⟩],Zk (ZgH fuel) fuel⟩
def hi1:HI:={ still:=[8,20],rowt:=[3,9,17],deep:=[73]}
theorem Zll:ZiL.okA Try.prog 35 0:=ZV hi1 [] [Zc1] ⟨Zfn,ytt⟩
def Zhv(F:Nat)(a0:Out):Option (Out):=
 (Zdz F a0.2).bind λo7=>
 (Zk (ZgH F) F ((o7.2.length:Int),0,a0,(0,[]),o7.1,o7.2)).bind λo12=>
 some (o12.1.1,o12.2.2.2)
def ZrR(F:Nat):Fs Try.prog:=⟨35,[.v Zr],[],[Zr],[⟨.ret,[(0,.v Zr)],[],[Zr]⟩],λx=>Zhv F x⟩
def Zfo:Fs Try.prog:=ZrR fuel
theorem ZiM:Zfo.Ok:=Zw4 (fi:={ hi:=hi1,lp:=[(0,ZiL)]}) (specs:={ l:=[ZcA]}) (okS ⟨Zhu,ytt⟩) ⟨Zll,ytt⟩
def ZkR:ByteArray:=⟨#[0,1,2,2,3,3,3,3,4,4,4,4,4,4,4,4,5,5,5,5,5,5,5,5,5,5,5,5,5,5,5,5,6,6,6,6,6,6,6,6,6,6,6,6,6,6,6,6,6,6,6,6,6,6,6,6,6,6,6,6,6,6,6,6,7,7,7,7,7,7,7,7,7,7,7,7,7,7,7,7,7,7,7,7,7,7,7,7,7,7,7,7,7,7,7,7,7,7,7,7,7,7,7,7,7,7,7,7,7,7,7,7,7,7,7,7,7,7,7,7,7,7,7,7,7,7,7,7,8,8,8,8,8,8,8,8,8,8,8,8,8,8,8,8,8,8,8,8,8,8,8,8,8,8,8,8,8,8,8,8,8,8,8,8,8,8,8,8,8,8,8,8,8,8,8,8,8,8,8,8,8,8,8,8,8,8,8,8,8,8,8,8,8,8,8,8,8,8,8,8,8,8,8,8,8,8,8,8,8,8,8,8,8,8,8,8,8,8,8,8,8,8,8,8,8,8,8,8,8,8,8,8,8,8,8,8,8,8,8,8,8,8,8,8,8,8,8,8,8,8,8,8,8,8,8,8]⟩
def ZkS(F:Nat)(a0:UInt64):Option (Int):=
 if(decide (a0 ≥ 4294967296))=true then
  if(decide ((Zx a0 32) ≥ 65536))=true then
   if(decide ((Zx (Zx a0 32) 16) ≥ 256))=true then
    let y13:UInt8:=w8 ((Zx (Zx (Zx a0 32) 16) 8).toNat:Int)
    (idx (Zc0 ZkR) (y13.toNat:Int)).bind λe14=>
    some (wi (56+(e14.toNat:Int)))
   else
   (idx (Zc0 ZkR) ((w8 ((Zx (Zx a0 32) 16).toNat:Int)).toNat:Int)).bind λe15=>
   some (wi (48+(e15.toNat:Int)))
  else
  if(decide ((Zx a0 32) ≥ 256))=true then
   (idx (Zc0 ZkR) ((w8 ((Zx (Zx a0 32) 8).toNat:Int)).toNat:Int)).bind λe16=>
   some (wi (40+(e16.toNat:Int)))
  else
  (idx (Zc0 ZkR) ((w8 ((Zx a0 32).toNat:Int)).toNat:Int)).bind λe17=>
  some (wi (32+(e17.toNat:Int)))
 else
 if(decide (a0 ≥ 65536))=true then
  if(decide ((Zx a0 16) ≥ 256))=true then
   (idx (Zc0 ZkR) ((w8 ((Zx (Zx a0 16) 8).toNat:Int)).toNat:Int)).bind λe18=>
   some (wi (24+(e18.toNat:Int)))
  else
  (idx (Zc0 ZkR) ((w8 ((Zx a0 16).toNat:Int)).toNat:Int)).bind λe19=>
  some (wi (16+(e19.toNat:Int)))
 else
 if(decide (a0 ≥ 256))=true then
  (idx (Zc0 ZkR) ((w8 ((Zx a0 8).toNat:Int)).toNat:Int)).bind λe20=>
  some (wi (8+(e20.toNat:Int)))
 else
 (idx (Zc0 ZkR) ((w8 (a0.toNat:Int)).toNat:Int)).bind λe21=>
 some (wi (0+(e21.toNat:Int)))
def ZoO(F:Nat):Fs Try.prog:=⟨105,[.v .u64],[],[.u64],[⟨.ret,[(0,.v yI)],[],[yI]⟩],λx=>ZkS F x⟩
def ZiN:Fs Try.prog:=ZoO fuel
theorem ZoP:ZiN.Ok:=fnO { still:=[2]} [] [] trivial
def Z6(F:Nat)(a0:UInt64):Option (Int):=
 (ZkS F a0).bind λo22=>
 some (wi (64 - o22))
def Zd9(F:Nat):Fs Try.prog:=⟨104,[.v .u64],[],[.u64],[⟨.ret,[(0,.v yI)],[],[yI]⟩],λx=>Z6 F x⟩
def V9:Fs Try.prog:=Zd9 fuel
theorem Zea:V9.Ok:=fnO { still:=[2,3]} [] [ZiN] ⟨ZoP,ytt⟩
def Wv(F:Nat)(s:(UInt64×UInt64×UInt64×UInt64×UInt64×UInt64×UInt64×UInt64×UInt64)):Option ((UInt64×UInt64×UInt64×UInt64×UInt64×UInt64×UInt64×UInt64×UInt64)⊕(UInt64×UInt64×UInt64×UInt64×UInt64×UInt64×UInt64×UInt64)):=
 if(decide (s.2.2.2.2.2.2.2.1 ≥ 4294967296))=true then
  let y30:Bool:=decide ((s.2.2.2.2.2.2.2.2+s.2.2.1) ≥ 4294967296)
  if y30=true then
   some (.inr (s.1,s.2.1,s.2.2.1,s.2.2.2.1,s.2.2.2.2.1,s.2.2.2.2.2.1,s.2.2.2.2.2.2.1,s.2.2.2.2.2.2.2.1 - 1))
  else
  some (.inl (s.1,s.2.1,s.2.2.1,s.2.2.2.1,s.2.2.2.2.1,s.2.2.2.2.2.1,s.2.2.2.2.2.2.1,s.2.2.2.2.2.2.2.1 - 1,s.2.2.2.2.2.2.2.2+s.2.2.1))
 else
 let y31:Bool:=decide ((s.2.2.2.2.2.2.2.1*s.2.2.2.1) > ((4294967296*s.2.2.2.2.2.2.2.2)+s.2.2.2.2.2.1))
 if y31=true then
  let y32:Bool:=decide ((s.2.2.2.2.2.2.2.2+s.2.2.1) ≥ 4294967296)
  if y32=true then
   some (.inr (s.1,s.2.1,s.2.2.1,s.2.2.2.1,s.2.2.2.2.1,s.2.2.2.2.2.1,s.2.2.2.2.2.2.1,s.2.2.2.2.2.2.2.1 - 1))
  else
  some (.inl (s.1,s.2.1,s.2.2.1,s.2.2.2.1,s.2.2.2.2.1,s.2.2.2.2.2.1,s.2.2.2.2.2.2.1,s.2.2.2.2.2.2.2.1 - 1,s.2.2.2.2.2.2.2.2+s.2.2.1))
 else
 some (.inr (s.1,s.2.1,s.2.2.1,s.2.2.2.1,s.2.2.2.2.1,s.2.2.2.2.2.1,s.2.2.2.2.2.2.1,s.2.2.2.2.2.2.2.1))
def ZgI:Lp:=⟨[(2,.v .u64),(8,.v .u64),(9,.v .u64),(10,.v .u64),(11,.v .u64),(13,.v .u64),(14,.v .u64),(15,.v .u64),(16,.v .u64)],[],[.u64,.u64,.u64,.u64,.u64,.u64,.u64,.u64,.u64],[⟨.exit 0,[(2,.v .u64),(8,.v .u64),(9,.v .u64),(10,.v .u64),(11,.v .u64),(13,.v .u64),(14,.v .u64),(15,.v .u64)],[],[.u64,.u64,.u64,.u64,.u64,.u64,.u64,.u64]⟩],Zk (Wv fuel) fuel⟩
theorem Zj4:ZgI.okA Try.prog 102 0:=ZV { still:=[6,7,34]} [] [] trivial
def Ww(F:Nat)(s:(UInt64×UInt64×UInt64×UInt64×UInt64×UInt64×UInt64×UInt64×UInt64)):Option ((UInt64×UInt64×UInt64×UInt64×UInt64×UInt64×UInt64×UInt64×UInt64)⊕(UInt64×UInt64×UInt64×UInt64×UInt64×UInt64)):=
 if(decide (s.2.2.2.2.2.2.2.2 ≥ 4294967296))=true then
  let y35:Bool:=decide ((s.2.2.2.2.2.2.1+s.2.2.1) ≥ 4294967296)
  if y35=true then
   some (.inr (s.1,s.2.1,s.2.2.2.2.1,s.2.2.2.2.2.1,s.2.2.2.2.2.2.2.1,s.2.2.2.2.2.2.2.2 - 1))
  else
  some (.inl (s.1,s.2.1,s.2.2.1,s.2.2.2.1,s.2.2.2.2.1,s.2.2.2.2.2.1,s.2.2.2.2.2.2.1+s.2.2.1,s.2.2.2.2.2.2.2.1,s.2.2.2.2.2.2.2.2 - 1))
 else
 let y36:Bool:=decide ((s.2.2.2.2.2.2.2.2*s.2.2.2.1) > ((4294967296*s.2.2.2.2.2.2.1)+s.2.2.2.2.1))
 if y36=true then
  let y37:Bool:=decide ((s.2.2.2.2.2.2.1+s.2.2.1) ≥ 4294967296)
  if y37=true then
   some (.inr (s.1,s.2.1,s.2.2.2.2.1,s.2.2.2.2.2.1,s.2.2.2.2.2.2.2.1,s.2.2.2.2.2.2.2.2 - 1))
  else
  some (.inl (s.1,s.2.1,s.2.2.1,s.2.2.2.1,s.2.2.2.2.1,s.2.2.2.2.2.1,s.2.2.2.2.2.2.1+s.2.2.1,s.2.2.2.2.2.2.2.1,s.2.2.2.2.2.2.2.2 - 1))
 else
 some (.inr (s.1,s.2.1,s.2.2.2.2.1,s.2.2.2.2.2.1,s.2.2.2.2.2.2.2.1,s.2.2.2.2.2.2.2.2))
def ZgJ:Lp:=⟨[(2,.v .u64),(8,.v .u64),(9,.v .u64),(10,.v .u64),(14,.v .u64),(15,.v .u64),(16,.v .u64),(17,.v .u64),(18,.v .u64)],[],[.u64,.u64,.u64,.u64,.u64,.u64,.u64,.u64,.u64],[⟨.exit 2,[(2,.v .u64),(8,.v .u64),(14,.v .u64),(15,.v .u64),(17,.v .u64),(18,.v .u64)],[],[.u64,.u64,.u64,.u64,.u64,.u64]⟩],Zk (Ww fuel) fuel⟩
theorem Zj5:ZgJ.okA Try.prog 102 1:=ZV { still:=[6,7,34]} [] [] trivial
def ZcB(F:Nat)(a0:UInt64)(a1:UInt64)(a2:UInt64):Option ((UInt64×UInt64)):=
 if(a2==0)=true then
  none
 else
 if(decide (a2≤a0))=true then
  none
 else
 if(a0==0)=true then
  if(a2 !=0)=true then
   if(a2 !=0)=true then
    some (a1 / a2,a1 % a2)
   else
   none
  else
  none
 else
 (Z6 F a2).bind λo23=>
 let y24:UInt64:=Zx (Wu a2 (min ((w64 o23).toNat:Int).toNat 64)) 32;let y25:UInt64:=(Wu a2 (min ((w64 o23).toNat:Int).toNat 64))&&&4294967295;let y26:UInt64:=Zx a1 (min ((64 - (w64 o23)).toNat:Int).toNat 64);let y27:UInt64:=(Wu a0 (min ((w64 o23).toNat:Int).toNat 64))|||y26;let y28:UInt64:=Zx (Wu a1 (min ((w64 o23).toNat:Int).toNat 64)) 32;let y29:UInt64:=(Wu a1 (min ((w64 o23).toNat:Int).toNat 64))&&&4294967295
 if(y24 !=0)=true then
  (Zk (Wv F) F (Wu a2 (min ((w64 o23).toNat:Int).toNat 64),w64 o23,y24,y25,y27,y28,y29,y27 / y24,y27 - ((y27 / y24)*y24))).bind λo33=>
  let y34:UInt64:=((o33.2.2.2.2.1*4294967296)+o33.2.2.2.2.2.1) - (o33.2.2.2.2.2.2.2*o33.1)
  if(o33.2.2.1 !=0)=true then
   (Zk (Ww F) F (o33.1,o33.2.1,o33.2.2.1,o33.2.2.2.1,o33.2.2.2.2.2.2.1,o33.2.2.2.2.2.2.2,y34 - ((y34 / o33.2.2.1)*o33.2.2.1),y34,y34 / o33.2.2.1)).bind λo38=>
   let y39:UInt64:=((o38.2.2.2.2.1*4294967296)+o38.2.2.1) - (o38.2.2.2.2.2*o38.1)
   some ((o38.2.2.2.1*4294967296)+o38.2.2.2.2.2,Zx y39 (min (o38.2.1.toNat:Int).toNat 64))
  else
  none
 else
 none
def ZoQ(F:Nat):Fs Try.prog:=⟨102,[.v .u64,.v .u64,.v .u64],[],[.u64,.u64,.u64],[⟨.ret,[(0,.tup [.v .u64,.v .u64])],[],[.u64,.u64]⟩],λx=>ZcB F x.1 x.2.1 x.2.2⟩
def ZiO:Fs Try.prog:=ZoQ fuel
theorem ZoR:ZiO.Ok:=fnO { still:=[6,7,34]} [(0,ZgI),(1,ZgJ)] [V9] ⟨Zea,ytt⟩ ⟨Zj4,Zj5,ytt⟩
def VQ(F:Nat)(a0:UInt64)(a1:UInt64)(a2:UInt64):Option (UInt64):=
 if(a2 !=0)=true then
  (ZcB F (a0 % a2) a1 a2).bind λo40=>
  some o40.2
 else
 none
def ZbE(F:Nat):Fs Try.prog:=⟨95,[.v .u64,.v .u64,.v .u64],[],[.u64,.u64,.u64],[⟨.ret,[(0,.v .u64)],[],[.u64]⟩],λx=>VQ F x.1 x.2.1 x.2.2⟩
def ZoS:Fs Try.prog:=ZbE fuel
theorem Zny:ZoS.Ok:=fnO { still:=[6,12,13,14]} [] [ZiO] ⟨ZoR,ytt⟩
end
end Go.Proofs.Ytkapgdbeeblihaa
end
section
namespace Go.Ev
theorem Zl2(a m:UInt64):(a - a / m*m).toNat=a.toNat % m.toNat:=by
 have h1:a.toNat / m.toNat*m.toNat≤a.toNat:=Nat.div_mul_le_self _ _;have h2:=UInt64.toNat_lt a
 have h3:(a / m*m).toNat=a.toNat / m.toNat*m.toNat:=by
  rw[UInt64.toNat_mul,UInt64.toNat_div,yao (by omega)]
 have h4:(a / m*m)≤a:=by rw[UInt64.le_iff_toNat_le,h3];exact h1
 rw[UInt64.toNat_sub_of_le _ _ h4,h3];have:=Nat.div_add_mod a.toNat m.toNat
 rw[Nat.mul_comm] at this;omega
theorem Zfp(x:UInt64):(x&&&4294967295).toNat=x.toNat % 4294967296:=by
 rw[UInt64.toNat_and];exact Nat.and_two_pow_sub_one_eq_mod x.toNat 32
theorem WV(x:UInt64)(n:Nat):(Zx x n).toNat=x.toNat / 2 ^ n:=by
 unfold Zx;rw[UInt64.toNat_ofNat',yao (Nat.lt_of_le_of_lt (Nat.div_le_self ..) (UInt64.toNat_lt _))]
theorem Zgl{x y:UInt64}(h:x.toNat+y.toNat < 18446744073709551616):(x+y).toNat=x.toNat+y.toNat:=by
 rw[UInt64.toNat_add,yao h]
theorem Zgm{x y:UInt64}(h:x.toNat*y.toNat < 18446744073709551616):(x*y).toNat=x.toNat*y.toNat:=by
 rw[UInt64.toNat_mul,yao h]
theorem Zfq{a b:Nat}(ha:a < 4294967296)(hb:b < 4294967296):a*b≤18446744065119617025:=Nat.mul_le_mul (Nat.le_of_lt_succ ha) (Nat.le_of_lt_succ hb)
end Go.Ev
end
