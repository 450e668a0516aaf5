/- Parts of the proof, in one file. -/
import Derived.Test.YtkapgdbeeblihaaGreatKd
open Array renaming getElem?_toList → ybm, getElem?_eq_some_iff → ycs, getElem?_setIfInBounds → ydc, getD_eq_getD_getElem? → ydd
open Bool renaming and_eq_true → yi, false_eq_true → ybx, or_eq_true → ycd
open Go renaming TypeId → yb, Program → yg, Value → yh, Operand → yo, FuncId → yu, World → yz
open Go.Proofs.Tryz renaming prog → yf
open List renaming getElem?_eq_some_iff → yq, length_append → yr, range → yv, length_map → yw, nil_append → yy, map_cons → yaa, cons_append → yab, replicate → yae, getElem?_eq_getElem → yaf, mem_singleton → yag, map_append → yak, length_cons → yal, getElem?_append_left → yam, getElem?_map → yan, append_assoc → yao, mem_cons_self → yap, getElem?_eq_none → yaq, getElem?_append_right → yar, mem_cons_of_mem → yat, mem_cons → yax, getElem?_cons_succ → yay, map_map → yaz, all_eq_true → ybc, length_set → ybf, map_set → ybh, eq_nil_of_length_eq_zero → ybi, append_nil → ybl, getElem?_set → ybo, ext_getElem? → ybp, mem_map → ybr, mem_of_getElem? → ybu, getElem?_cons_zero → ybw, sum_cons → yby, getElem?_take → ycg, map_congr_left → ycj, mem_append → ycl, getElem?_set_self → ycr, length_replicate → yct, getD_eq_getElem?_getD → yda
open Nat renaming le_refl → yn, mod_eq_of_lt → yas, zero_add → yba, lt_or_ge → ybt, add_assoc → ych
open Option renaming bind_some → ya, bind_eq_some_iff → yc, map_eq_some_iff → yp, map_some → yad
open Option.some renaming injEq → yj, inj → ybe
open Prod.mk renaming injEq → ym
open UInt64 renaming ofNat → yai
set_option linter.unusedVariables false
set_option linter.unusedSimpArgs false
section
namespace Go.Ev
section
variable{P:yg}{o:Oper}{ts all:List TD}{H:List TEnt}{O:Type}{K:Kn O}{out:O}
def TD.isView:TD→Bool
 |.view _ _ _ _ _=>true
 |_=>false
def TD.isNilSl:TD→Bool
 |.p (.sl (some false) _ [])=>true
 |_=>false
def TD.isRef:TD→Bool
 |.ref _ _=>true
 |_=>false
def TD.isRref:TD→Bool
 |.rref _ _ _=>true
 |_=>false
def TD.isRv:TD→Bool
 |.rv _ _ _ _ _=>true
 |_=>false
def ZDV(a:TD)(lo hi:Option Int):Bool:=
 match a with
 |.rv _ _ _ _ n=> !ZdL n lo hi
 |_=>false
def TD.isOwn:TD→Bool
 |.own _ _ _ _=>true
 |_=>false
def TD.isMp:TD→Bool
 |.mp _=>true
 |_=>false
def Zhx(l:List Tmp):Option Tmp→Bool
 |some t=>l.contains t
 |none=>false
def Zfp(P:yg)(o:Oper)(ts all:List TD)(H:List TEnt)(K:Kn O):Option O:=opN (lk H) P o ts λd hs=>K all d H hs 0
theorem Xw(h:Zfp P o ts all H K=some out):∃a d H' hs c,K a d H' hs c=some out∧Good P o ts all H a d H' hs c:=by
 obtain⟨d,hs,h1,h2⟩:=ZA6 h;exact⟨_,_,_,_,_,h1,rfl,rfl,.inl ⟨rfl,rfl,h2⟩⟩
def Zyb(P:yg)(hi:HI)(o:Oper)(x:yo)(asg:Bool)(ts all:List TD)(H:List TEnt)(K:Kn O):Option O:=
 match o.dst,arT P ts o.type x with
 |some t,some d=>if hi.still.contains t&&(d.isView || d.isRv) then Zsc t all H K d else if hi.still.contains t&&d.isRw then Zsh t all H K d else if asg&&(hi.rowt.contains t&&d.isNilSl) then Zsl P o.type t all H K d else if asg&&(hi.own.contains t&&d.isNilSl) then Zwl P o.type t all H K d else Zfp P o ts all H K
 |_,_=>Zfp P o ts all H K
def TD.numI(d:TD):Option Num:=
 match d.num with
 |some a=>if a.k=.i64 then some a else none
 |none=>none
def opT(P:yg)(hi:HI)(specs:Sp P)(o:Oper)(ts all:List TD)(H:List TEnt)(K:Kn O):Option O:=
 if rnT P hi o ts H=true then ZFJ P hi o ts all H K else
 match o.op with
 |.move x=>Zyb P hi o x false ts all H K
 |.assign x=>Zyb P hi o x true ts all H K
 |.slice t x lo h none=>if Zhx hi.frz o.dst then(arT P ts t x).bind λa=>(ZcS P ts lo).bind λl=>(ZcS P ts h).bind λr=>ZFH P t l r all H K a
  else(arT P ts t x).bind λa=>(ZcS P ts lo).bind λl=>(ZcS P ts h).bind λr=>if(Zhx hi.rowt o.dst&&a.isRw)=true then Zn4 P t l r all H K a else if ZDV a l r=true then Zwj P t l r all H K a else Zfp P o ts all H K
 |.load t x=>(arT P ts 0 x).bind λd=>if d.isRef || d.isRref then ZBa P t all H K d else if d.isRp then Zwu P t all H K d else Zfp P o ts all H K
 |.lookup t x ix ok=>(arT P ts t x).bind λd=>ZrW P t all H ok K (λkt=>arT P ts kt ix) d
 |.makeMap t none=>Zn0 P t all H K
 |.makeSlice t l c=>((arT P ts 0 l).bind TD.numI).bind λn=>((arT P ts 0 c).bind TD.numI).bind λn'=>if Zhx hi.mkn o.dst then Zsj P t n.n n'.n all H K else if Zhx hi.rowt o.dst then Zwx P t n.n n'.n all H K else Zil P t (Zhx hi.own o.dst) (Zhx hi.row o.dst) n.n n'.n all H K
 |.mapUpdate t x k v=>(arT P ts t x).bind λd=>Zhd P t all H K (λkt=>arT P ts kt k) (λet=>arT P ts et v) d
 |.insert t x k v=>(arT P ts t x).bind λd=>Zhd P t all H K (λkt=>arT P ts kt k) (λet=>arT P ts et v) d
 |.alloc t=>Zwm P hi o.dst t all H K
 |.box t x=>(arT P ts t x).bind (ZFG hi o.dst all H K)
 |.store t x y=>(arT P ts 0 x).bind λa=>(arT P ts t y).bind λv=>if a.isRp then Zsf P t all H K v a else Zwn P (ZGW hi x) t all H K v a
 |.buildSlice t len parts=>if Zhx hi.rowt o.dst then(match (o.dst.bind λd=>hi.rew.lookup d).bind λs=>all[s]? with
  |some (.rw id)=>Zww P ts t len parts.toList id all H K
  |_=>ZBi P ts t len parts.toList all H K) else if Zhx hi.row o.dst then(if(ZGX P ts t (lk H) parts.toList&& !Zhx hi.own o.dst)=true then Zr6 P ts t len parts.toList all H K else Zn2 P ts t len parts.toList all H K) else if Zhx hi.own o.dst then Zr8 P ts t len parts.toList all H K else Zfp P o ts all H K
 |.indexAddr t x ix=>(arT P ts t x).bind λa=>if a.isRw then(arT P ts 0 ix).bind λb=>b.inner.bind λip=>(ZnT ip).bind λq=>Zsd P t q.2 all H K a else Zfp P o ts all H K
 |.call c=>match c.callee with
  |.builtin .len=>match c.args.toList,c.argTypes.toList with
   |[x],[t]=>(arT P ts t x).bind λd=>if d.isMp then ZrY P t all H K d else if d.isRw then ZBh P t all H K d else Zfp P o ts all H K
   |_,_=>none
  |.builtin .max=>Zfp P o ts all H K
  |.builtin .append=>match c.args.toList,c.argTypes.toList with
   |[x,y],[t,u]=>(arT P ts t x).bind λa=>(arT P ts u y).bind λb=>if a.isRw || (a.isNilSl&&Zhx hi.rowt o.dst) then Zn3 P true t u all H K b a else if a.isOwn || a.isRv || (a.isNilSl&&(Zhx hi.own o.dst || Zhx hi.row o.dst)) then Zsa P (Zhx hi.own o.dst) (Zhx hi.row o.dst) t u all H K b (if hi.eqs=true then Zwp H a else a) else Zfp P o ts all H K
   |_,_=>none
  |.builtin .copy=>match c.args.toList,c.argTypes.toList with
   |[x,y],[t,u]=>(arT P ts t x).bind λa=>(arT P ts u y).bind λb=>ZBg P t u all H K b a
   |_,_=>none
  |.builtin .clear=>match c.args.toList,c.argTypes.toList with
   |[x],[t]=>(arT P ts t x).bind λa=>Zwq P t all H K a
   |_,_=>none
  |.builtin .delete=>match c.args.toList,c.argTypes.toList with
   |[x,y],[t,u]=>(arT P ts t x).bind λa=>Zr2 P t all H K (arT P ts u y) a
   |_,_=>none
  |.value f=>match arT P ts 0 f with
   |some (.fn g cap)=>if(Vj P (QQ g)&&c.args.size==c.argTypes.size)=true then(ZlG P ts c.args.toList c.argTypes.toList).bind λaz=>ZEX specs (QQ g) all H K (if g < big then az++cap else cap++az) else Zfp P o ts all H K
   |_=>none
  |.invoke recv name=>match arT P ts 0 recv with
   |some (.iface t x)=>(ZBy specs.mt t name).bind λg=>if(Vj P g&&c.args.size==c.argTypes.size)=true then(ZlG P ts c.args.toList c.argTypes.toList).bind λaz=>ZEW specs g all H (λa d H' hs _=>K a d H' (.meth g::hs) 2) (x::az) else none
   |_=>none
  |_=>none
 |_=>Zfp P o ts all H K
theorem XC{d:TD}{n:Num}(h:d.numI=some n):d.num=some n∧n.k=.i64:=by
 unfold TD.numI at h;split at h
 ·rename_i a hn;split at h
  ·rename_i e;cases h;exact⟨hn,e⟩
  ·cases h
 ·cases h
theorem Zod{hi:HI}{x:yo}{asg:Bool}(ho:if asg=true then o.op=.assign x else o.op=.move x)(h:Zyb P hi o x asg ts all H K=some out):∃a d H' hs c,K a d H' hs c=some out∧Good P o ts all H a d H' hs c:=by
 unfold Zyb at h;split at h
 ·rename_i t d hd hx;split at h
  ·refine Zut (x:=x) ?_ hd hx h;cases asg
   ·exact .inr ho
   ·exact .inl ho
  split at h
  ·refine Zsi (x:=x) ?_ hd hx h;cases asg
   ·exact .inr ho
   ·exact .inl ho
  split at h
  ·rename_i ha;rw[yi] at ha;rw[if_pos ha.1] at ho;exact Zsm ho hd hx h
  ·split at h
   ·rename_i ha;rw[yi] at ha;rw[if_pos ha.1] at ho;exact Zum ho hd hx h
   ·exact Xw h
 ·exact Xw h
theorem Zoe{hi:HI}{specs:Sp P}(ok:SpOk specs)(h:opT P hi specs o ts all H K=some out):∃a d H' hs c,K a d H' hs c=some out∧Good P o ts all H a d H' hs c:=by
 unfold opT at h;split at h
 ·exact Zzy h
 split at h
 ·rename_i x ho;exact Zod (asg:=false) ho h
 ·rename_i x ho;exact Zod (asg:=true) ho h
 ·rename_i t x lo hi' ho;split at h
  ·obtain⟨a,h1,h⟩:=yc.1 h;obtain⟨l,h2,h⟩:=yc.1 h;obtain⟨r,h3,h⟩:=yc.1 h;exact Zzw ho h1 h2 h3 h
  ·obtain⟨a,h1,h⟩:=yc.1 h;obtain⟨l,h2,h⟩:=yc.1 h;obtain⟨r,h3,h⟩:=yc.1 h;split at h
   ·exact ZpE ho h1 h2 h3 h
   split at h
   ·exact Zuj ho h1 h2 h3 h
   ·exact Xw h
 ·rename_i t x ho;obtain⟨d,h1,h⟩:=yc.1 h;split at h
  ·exact Zwi ho h1 h
  split at h
  ·exact Zuu ho h1 h
  ·exact Xw h
 ·rename_i t x ix okk ho;obtain⟨d,h1,h⟩:=yc.1 h;exact ZrX ho h1 h
 ·rename_i t ho;exact ZpB ho h
 ·rename_i t l c ho;obtain⟨n,h1,h⟩:=yc.1 h;obtain⟨n',h2,h⟩:=yc.1 h;obtain⟨d1,g1,g2⟩:=yc.1 h1;obtain⟨d2,g3,g4⟩:=yc.1 h2;split at h
  ·exact Zsk ho (by rw[g1];exact(XC g2).1) (by rw[g3];exact(XC g4).1) (XC g2).2 (XC g4).2 h
  split at h
  ·exact Zux ho (by rw[g1];exact(XC g2).1) (by rw[g3];exact(XC g4).1) (XC g2).2 (XC g4).2 h
  exact Zmh ho (by rw[g1];exact(XC g2).1) (by rw[g3];exact(XC g4).1) (XC g2).2 (XC g4).2 h
 ·rename_i t x k v ho;obtain⟨d,h1,h⟩:=yc.1 h;exact Zr0 ho h1 h
 ·rename_i t x k v ho;obtain⟨d,h1,h⟩:=yc.1 h;exact Zr1 ho h1 h
 ·rename_i t ho;exact Zuo ho h
 ·rename_i t x ho;obtain⟨d,h1,h⟩:=yc.1 h;exact Zzu ho h1 h
 ·rename_i t x y ho;obtain⟨a,h1,h⟩:=yc.1 h;obtain⟨v,h2,h⟩:=yc.1 h;split at h
  ·exact Zsg ho h1 h2 h
  ·exact Zup ho h1 h2 h
 ·rename_i t len parts ho;split at h
  ·split at h
   ·exact Zuw ho h
   ·exact Zwv ho h
  split at h
  ·split at h
   ·exact Zr7 ho h
   ·exact ZpC ho h
  split at h
  ·exact Zr9 ho h
  ·exact Xw h
 ·rename_i t x ix ho;obtain⟨a,h1,h⟩:=yc.1 h;split at h
  ·obtain⟨b,h2,h⟩:=yc.1 h;obtain⟨ip,h3,h⟩:=yc.1 h;obtain⟨q,h4,h⟩:=yc.1 h;rw[Yp h3] at h2;exact Zse ho h1 h2 h4 h
  ·exact Xw h
 ·rename_i c ho;split at h
  ·rename_i hc;split at h
   ·rename_i x t ha ht;obtain⟨d,h1,h⟩:=yc.1 h;split at h
    ·exact ZrZ ho hc ha ht h1 h
    split at h
    ·exact Zwt ho hc ha ht h1 h
    ·exact Xw h
   ·cases h
  ·exact Xw h
  ·rename_i hc;split at h
   ·rename_i x y t u ha ht;obtain⟨a,h1,h⟩:=yc.1 h;obtain⟨b,h2,h⟩:=yc.1 h;split at h
    ·exact ZpD ho hc ha ht (Zm h1) h2 h
    split at h
    ·refine Zsb ho hc ha ht ?_ h2 h;split
     ·rw[Zzv];exact Zm h1
     ·exact Zm h1
    ·exact Xw h
   ·cases h
  ·rename_i hc;split at h
   ·rename_i x y t u ha ht;obtain⟨a,h1,h⟩:=yc.1 h;obtain⟨b,h2,h⟩:=yc.1 h;exact Zwr ho hc ha ht h1 h2 h
   ·cases h
  ·rename_i hc;split at h
   ·rename_i x t ha ht;obtain⟨a,h1,h⟩:=yc.1 h;exact Zur ho hc ha ht h1 h
   ·cases h
  ·rename_i hc;split at h
   ·rename_i x y t u ha ht;obtain⟨a,h1,h⟩:=yc.1 h;exact Zr3 ho hc ha ht h1 h
   ·cases h
  ·rename_i f hc;split at h
   ·rename_i g cap hf;split at h
    ·rename_i hb;obtain⟨az,h1,h⟩:=yc.1 h;obtain⟨a,d,H',hs,cc,k1,k2⟩:=ZBA ok h;rcases k2 with k2|k2
     ·exact⟨a,d,H',hs,cc,k1,ZzC ho hc hf hb h1 k2⟩
     ·exact⟨a,d,H',hs,cc,k1,ZBB ho hc hf hb h1 k2⟩
    ·exact Xw h
   ·cases h
  ·rename_i recv name hc;split at h
   ·rename_i t x hf;obtain⟨g,hg,h⟩:=yc.1 h;obtain⟨hb,h⟩:=Za h;obtain⟨az,h1,h⟩:=yc.1 h;obtain⟨a,d,H',hs,cc,k1,k2⟩:=ZBz ok h;exact⟨a,d,H',_,_,k1,ZzD ho hc hf (Zsx ok.mt hg) hb h1 k2⟩
   ·cases h
  ·cases h
 ·exact Xw h
def ZwE(ops:Array Oper)(j:Nat):Option Tmp:=(ops[j]?).bind (·.dst)
def ZpH(b:Bool):TD:=.p (.v .bool b)
def ZBC:TD→Bool
 |.tup []=>true
 |_=>false
def gT(P:yg)(hi:HI)(specs:Sp P)(ops:Array Oper)(o:Oper)(ts all:List TD)(H:List TEnt)(K:Kn O):Option O:=
 match o.guard with
 |none=>opT P hi specs o ts all H K
 |some (j,want)=>(ZwE ops j).bind λt=>match (ts.getD t .junk).boolT with
  |some b=>
   if b=true then
    if true=want then opT P hi specs o (ts.set t (ZpH true)) (all.set t (ZpH true)) H λa d H' hs c=>K a d H' (.b true::hs) c
    else K (all.set t (ZpH true)) (.tup []) H [.b true] 0
   else
    if false=want then opT P hi specs o (ts.set t (ZpH false)) (all.set t (ZpH false)) H λa d H' hs c=>K a d H' (.b false::hs) c
    else K (all.set t (ZpH false)) (.tup []) H [.b false] 0
  |none=>if ZBC (ts.getD t .junk) then K all (.tup []) H [.raw] 0 else none
structure GoodG(P:yg)(ops:Array Oper)(o:Oper)(ts all:List TD)(H:List TEnt)(all':List TD)(d:TD)(H':List TEnt)(hs:List Hint)(cls:Nat):Prop where
 same:TD.ers (lk H') all'=TD.ers (lk H) all
 len:all'.length=all.length
 op:∃C,AllP C∧∀rest,evG P ops o (TD.ers (lk H) ts) (erH H) (hs++rest)=some (C,d.er (lk H'),erH H',rest)
 sam:cls=3→erH H'=erH H
 cls:∀rest,clsOf P o (TD.ers (lk H) ts) (erH H) (hs++rest)≤cls
theorem Zsy{d:TD}{a:List TD}{H':List TEnt}{hs:List Hint}{c:Nat}(h:Good P o ts all H a d H' hs c):∃C,AllP C∧(∀rest,ZbX P o (TD.ers (lk H) ts) (erH H) (hs++rest)=some (C,d.er (lk H'),erH H',rest))∧
 ∀rest,(if(evN P o (TD.ers (lk H) ts) (hs++rest)).isSome then 0 else if(evR P o (TD.ers (lk H) ts) (erH H) (hs++rest)).isSome then 1 else 2)≤c:=by
 rcases h.op with⟨rfl,rfl,C,h1,h2⟩|⟨rfl,rfl,h0,C,h1,h2⟩|⟨rfl,h0,h00,C,h1,h2⟩|⟨rfl,_,h0,h00,C,h1,h2⟩
 ·exact⟨C,h1,λrest=>by unfold ZbX;rw[h2 rest],λrest=>by rw[h2 rest];simp⟩
 ·exact⟨C,h1,λrest=>by unfold ZbX;rw[h0 rest];dsimp only;rw[h2 rest],λrest=>by rw[h0 rest,h2 rest];simp⟩
 ·exact⟨C,h1,λrest=>by unfold ZbX;rw[h0 rest];dsimp only;rw[h00 rest];exact h2 rest,λrest=>by rw[h0 rest,h00 rest];simp⟩
 ·exact⟨C,h1,λrest=>by unfold ZbX;rw[h0 rest];dsimp only;rw[h00 rest];exact h2 rest,λrest=>by rw[h0 rest,h00 rest];simp⟩
theorem Zof{d:TD}{a:List TD}{H':List TEnt}{hs:List Hint}{c:Nat}(h:Good P o ts all H a d H' hs c)(hc:c=3):erH H'=erH H:=by
 subst hc;rcases h.op with⟨e,_⟩|⟨e,_⟩|⟨e,_⟩|⟨_,e,_⟩
 ·cases e
 ·cases e
 ·cases e
 ·exact e
theorem ZuM{l:List TD}{t:Nat}{b:Bool}(h:(l.getD t .junk).boolT=some b):l.getD t .junk=ZpH b:=by
 unfold TD.boolT at h;split at h
 ·rename_i x hx;unfold TP.boolB at h;split at h
  ·cases h;exact hx
  ·cases h
 ·cases h
theorem set_same{l:List TD}{t:Nat}{d:TD}(h:l.getD t .junk=d):(l.set t d)=l:=by
 apply ybp;intro i;rw[ybo];split
 ·rename_i e;subst e;split
  ·rename_i hl;rw[←h,yda,yaf hl];rfl
  ·rename_i hl;rw[yaq (by omega)]
 ·rfl
theorem Zyc{hi:HI}{specs:Sp P}{ops:Array Oper}(ok:SpOk specs)(hg:∀j want t,o.guard=some (j,want)→ZwE ops j=some t→ts.getD t .junk=all.getD t .junk)(h:gT P hi specs ops o ts all H K=some out):
 ∃a d H' hs c,K a d H' hs c=some out∧GoodG P ops o ts all H a d H' hs c:=by
 unfold gT at h;split at h
 ·rename_i hgd;obtain⟨a,d,H',hs,c,h1,h2⟩:=Zoe ok h;obtain⟨C,g1,g2,g3⟩:=Zsy h2;refine⟨a,d,H',hs,c,h1,h2.same,h2.len,⟨C++[],Zl.2 ⟨g1,ytt⟩,λrest=> ?_⟩,Zof h2,λrest=> ?_⟩
  ·unfold evG;rw[hgd];dsimp only;rw[g2 rest];rfl
  ·unfold clsOf;rw[hgd];exact g3 rest
 ·rename_i j want hgd;obtain⟨t,ht,h9⟩:=yc.1 h;clear h;have eall:=hg j want t hgd ht
  have eslot:((ops[j]?).bind (·.dst)).map (λt=>(TD.ers (lk H) ts).getD t .junk)=some ((ts.getD t .junk).er (lk H)):=by
   rw[show(ops[j]?).bind (·.dst)=some t from ht,yad,Zjg]
  split at h9
  ·rename_i b hb;have e1:=ZuM hb;have e2:all.getD t .junk=ZpH b:=by rw[←eall];exact e1
   have e3:(ts.getD t .junk).er (lk H)=.p (.bool b):=Zee hb;split at h9
   ·rename_i hbt;subst hbt;rw[set_same e1,set_same e2] at h9;split at h9
    ·rename_i hw;subst hw;obtain⟨a,d,H',hs,c,h1,h2⟩:=Zoe ok h9;obtain⟨C,g1,g2,g3⟩:=Zsy h2;refine⟨a,d,H',_,c,h1,h2.same,h2.len,⟨(true=true)::C++[],Zl.2 ⟨⟨rfl,g1⟩,ytt⟩,λrest=> ?_⟩,Zof h2,λrest=> ?_⟩
     ·unfold evG;rw[hgd];dsimp only;rw[eslot,e3];simp only[yab,if_true,g2 rest];rfl
     ·unfold clsOf;rw[hgd];simp only[yab,if_true];exact g3 rest
    ·rename_i hw;refine⟨_,_,_,_,_,h9,rfl,rfl,⟨[true=true],⟨rfl,ytt⟩,λrest=> ?_⟩,λ_=>rfl,λrest=> ?_⟩
     ·unfold evG;rw[hgd];dsimp only;rw[eslot,e3];simp only[yab,yy,if_neg hw];rfl
     ·unfold clsOf;rw[hgd];simp only[yab,if_neg hw];exact yn _
   ·rename_i hbt;have hbt:b=false:=by simpa using hbt
    subst hbt;rw[set_same e1,set_same e2] at h9;split at h9
    ·rename_i hw;subst hw;obtain⟨a,d,H',hs,c,h1,h2⟩:=Zoe ok h9;obtain⟨C,g1,g2,g3⟩:=Zsy h2;refine⟨a,d,H',_,c,h1,h2.same,h2.len,⟨(false=false)::C++[],Zl.2 ⟨⟨rfl,g1⟩,ytt⟩,λrest=> ?_⟩,Zof h2,λrest=> ?_⟩
     ·unfold evG;rw[hgd];dsimp only;rw[eslot,e3];simp only[yab,if_true,g2 rest];rfl
     ·unfold clsOf;rw[hgd];simp only[yab,if_true];exact g3 rest
    ·rename_i hw;refine⟨_,_,_,_,_,h9,rfl,rfl,⟨[false=false],⟨rfl,ytt⟩,λrest=> ?_⟩,λ_=>rfl,λrest=> ?_⟩
     ·unfold evG;rw[hgd];dsimp only;rw[eslot,e3];simp only[yab,yy,if_neg hw];rfl
     ·unfold clsOf;rw[hgd];simp only[yab,if_neg hw];exact yn _
  ·obtain⟨h1,h9⟩:=Za h9
   have e3:(ts.getD t .junk).er (lk H)=.tup []:=by
    unfold ZBC at h1;split at h1
    ·rename_i hx;rw[hx];rfl
    ·cases h1
   refine⟨_,_,_,_,_,h9,rfl,rfl,⟨[],trivial,λrest=> ?_⟩,λ_=>rfl,λrest=> ?_⟩
   ·unfold evG;rw[hgd];dsimp only;rw[eslot,e3];rfl
   ·unfold clsOf;rw[hgd];exact yn _
def ZqO(ts:List TD)(dst:Option Tmp)(d:TD):List TD:=
 match dst with
 |some i=>ts.set i d
 |none=>ts
theorem ZuN{L:Lk}(dst:Option Tmp)(d:TD):TD.ers L (ZqO ts dst d)=ZfW (TD.ers L ts) dst (d.er L):=by
 cases dst with
 |none=>rfl
 |some i=>simp only[ZqO,ZfW,Zu,ybh]
theorem ZqP(dst:Option Tmp)(d:TD):(ZqO ts dst d).length=ts.length:=by
 cases dst <;> simp[ZqO]
def ZwF(P:yg)(hi:HI)(specs:Sp P)(ops:Array Oper):List Oper→List TD→List TEnt→(List TD→List TEnt→List Hint→Option O)→Option O
 |[],all,H,K=>K all H []
 |o::r,all,H,K=>gT P hi specs ops o all all H λa d H' hs _=>ZwF P hi specs ops r (ZqO a o.dst d) H' λa' h' hs'=>K a' h' (hs++hs')
theorem ZkO{hi:HI}{specs:Sp P}{ops:Array Oper}(ok:SpOk specs):∀(l:List Oper)(all:List TD)(H:List TEnt)(K:List TD→List TEnt→List Hint→Option O),ZwF P hi specs ops l all H K=some out→
 ∃a h hs C,K a h hs=some out∧a.length=all.length∧AllP C∧∀rest,ZhD P ops l (TD.ers (lk H) all) (erH H) (hs++rest)=some (C,TD.ers (lk h) a,erH h,rest)
 |[],all,H,K,h=>⟨all,H,[],[],h,rfl,trivial,λ_=>rfl⟩
 |o::r,all,H,K,h=>by
  unfold ZwF at h;obtain⟨a,d,H',hs,c,h1,h2⟩:=Zyc ok (λ_ _ _ _ _=>rfl) h;obtain⟨a',h',hs',C',k1,k0,k2,k3⟩:=ZkO ok r _ _ _ h1;obtain⟨C,g1,g2⟩:=h2.op;refine⟨a',h',_,C++C',k1,by rw[k0,ZqP,h2.len],Zl.2 ⟨g1,k2⟩,λrest=> ?_⟩;unfold ZhD;rw[yao,g2 (hs'++rest)];dsimp only;rw[←h2.same, ←ZuN,k3 rest]
end
end Go.Ev
end
section
namespace Go.Ev
section
variable{P:yg}{o:Oper}{ts all:List TD}{H:List TEnt}{O:Type}{out:O}
def Zde(keep:List Nat):Nat→List TD→List TD
 |_,[]=>[]
 |i,d::r=>(if keep.contains i then d else .junk)::Zde keep (i+1) r
theorem Zjy{L:Lk}(keep:List Nat):∀(l:List TD)(k:Nat),TD.ers L (Zde keep k l)=ZG keep k (TD.ers L l)
 |[],_=>rfl
 |d::r,k=>by
  rw[Zde,TD.ers,TD.ers,ZG,Zjy keep r];split <;> rfl
theorem ZqQ(keep:List Nat):∀(l:List TD)(k t:Nat),keep.contains (k+t)=true→(Zde keep k l).getD t .junk=l.getD t .junk
 |[],_,_,_=>rfl
 |d::r,k,0,h=>by
  have h':keep.contains k=true:=h
  simp only[Zde,h',if_true,List.getD_cons_zero]
 |d::r,k,t+1,h=>by
  simp only[Zde,List.getD_cons_succ];exact ZqQ keep r (k+1) t (by rw[show k+1+t=k+(t+1) by omega];exact h)
mutual
def Pl.sameB:Pl→Pl→Bool
 |.int k n,.int l m=>decide (k=l)&&decide (n=m)
 |.bool a,.bool b=>a==b
 |.str a,.str b=>decide (a=b)
 |.ptr0,.ptr0=>true
 |.fn0,.fn0=>true
 |.if0,.if0=>true
 |.map0,.map0=>true
 |.fnv f,.fnv g=>Nat.beq f g
 |.agg xs,.agg ys=>Pl.samesB xs ys
 |.arr n s xs,.arr m u ys=>Nat.beq n m&&Nat.beq s u&&Pl.samesB xs ys
 |.sl a s xs,.sl b u ys=>a==b&&Nat.beq s u&&Pl.samesB xs ys
 |.iface t x,.iface u y=>Nat.beq t u&&Pl.sameB x y
 |_,_=>false
def Pl.samesB:List Pl→List Pl→Bool
 |[],[]=>true
 |x::r,y::q=>Pl.sameB x y&&Pl.samesB r q
 |_,_=>false
end
mutual
theorem Pl.sameB_eq:∀(a b:Pl),Pl.sameB a b=true→a=b
 |.int k n,b,h=>by cases b <;> simp_all[Pl.sameB]
 |.bool k,b,h=>by cases b <;> simp_all[Pl.sameB]
 |.str k,b,h=>by cases b <;> simp_all[Pl.sameB]
 |.ptr0,b,h=>by cases b <;> simp_all[Pl.sameB]
 |.fn0,b,h=>by cases b <;> simp_all[Pl.sameB]
 |.if0,b,h=>by cases b <;> simp_all[Pl.sameB]
 |.map0,b,h=>by cases b <;> simp_all[Pl.sameB]
 |.fnv f,b,h=>by cases b <;> simp_all[Pl.sameB]
 |.agg xs,b,h=>by cases b <;> simp_all[Pl.sameB];exact Pl.samesB_eq _ _ h
 |.arr n s xs,b,h=>by cases b <;> simp_all[Pl.sameB];exact Pl.samesB_eq _ _ h.2
 |.sl n s xs,b,h=>by cases b <;> simp_all[Pl.sameB];exact Pl.samesB_eq _ _ h.2
 |.iface t x,b,h=>by cases b <;> simp_all[Pl.sameB];exact Pl.sameB_eq _ _ h.2
theorem Pl.samesB_eq:∀(a b:List Pl),Pl.samesB a b=true→a=b
 |[],[],_=>rfl
 |[],_::_,h=>by cases h
 |_::_,[],h=>by cases h
 |x::r,y::q,h=>by
  simp only[Pl.samesB,yi] at h;rw[Pl.sameB_eq x y h.1,Pl.samesB_eq r q h.2]
end
def ZqR:List Nat→List Nat→Bool
 |[],[]=>true
 |x::r,y::q=>Nat.beq x y&&ZqR r q
 |_,_=>false
theorem Zjz:∀(a b:List Nat),ZqR a b=true→a=b
 |[],[],_=>rfl
 |[],_::_,h=>by cases h
 |_::_,[],h=>by cases h
 |x::r,y::q,h=>by
  simp only[ZqR,yi] at h;rw[Nat.eq_of_beq_eq_true h.1,Zjz r q h.2]
mutual
def Dv.sameB:Dv→Dv→Bool
 |.p x,.p y=>Pl.sameB x y
 |.elem x,.elem y=>Pl.sameB x y
 |.ref i o l,.ref j q m=>Nat.beq i j&&Nat.beq o q&&ZqR l m
 |.own i a s xs,.own j b u ys=>Nat.beq i j&&a==b&&Nat.beq s u&&Pl.samesB xs ys
 |.view i o l a b c,.view i' o' l' a' b' c'=>Nat.beq i i'&&Nat.beq o o'&&ZqR l l'&&Nat.beq a a'&&Nat.beq b b'&&Nat.beq c c'
 |.agg xs,.agg ys=>Dv.samesB xs ys
 |.arr n s xs,.arr m u ys=>Nat.beq n m&&Nat.beq s u&&Dv.samesB xs ys
 |.fn f xs,.fn g ys=>Nat.beq f g&&Dv.samesB xs ys
 |.iface t x,.iface u y=>Nat.beq t u&&Dv.sameB x y
 |.tup xs,.tup ys=>Dv.samesB xs ys
 |.mp i,.mp j=>Nat.beq i j
 |.rv a b c d e,.rv a' b' c' d' e'=>Nat.beq a a'&&Nat.beq b b'&&Nat.beq c c'&&Nat.beq d d'&&Nat.beq e e'
 |.rref a b c l,.rref a' b' c' l'=>Nat.beq a a'&&Nat.beq b b'&&Nat.beq c c'&&ZqR l l'
 |.junk,.junk=>true
 |_,_=>false
def Dv.samesB:List Dv→List Dv→Bool
 |[],[]=>true
 |x::r,y::q=>Dv.sameB x y&&Dv.samesB r q
 |_,_=>false
end
theorem ZcT{a b:Nat}(h:Nat.beq a b=true):a=b:=Nat.eq_of_beq_eq_true h
mutual
theorem Dv.sameB_eq:∀(a b:Dv),Dv.sameB a b=true→a=b
 |.p x,b,h=>by
  cases b <;> simp only[Dv.sameB,ybx] at h
  rw[Pl.sameB_eq _ _ h]
 |.elem x,b,h=>by
  cases b <;> simp only[Dv.sameB,ybx] at h
  rw[Pl.sameB_eq _ _ h]
 |.ref i o l,b,h=>by
  cases b <;> simp only[Dv.sameB,ybx,yi] at h
  rw[ZcT h.1.1,ZcT h.1.2,Zjz _ _ h.2]
 |.own i a s xs,b,h=>by
  cases b <;> simp only[Dv.sameB,ybx,yi,beq_iff_eq] at h
  rw[ZcT h.1.1.1,h.1.1.2,ZcT h.1.2,Pl.samesB_eq _ _ h.2]
 |.view i o l a k c,b,h=>by
  cases b <;> simp only[Dv.sameB,ybx,yi] at h
  rw[ZcT h.1.1.1.1.1,ZcT h.1.1.1.1.2,Zjz _ _ h.1.1.1.2,ZcT h.1.1.2,ZcT h.1.2,ZcT h.2]
 |.agg xs,b,h=>by
  cases b <;> simp only[Dv.sameB,ybx] at h
  rw[Dv.samesB_eq _ _ h]
 |.arr n s xs,b,h=>by
  cases b <;> simp only[Dv.sameB,ybx,yi] at h
  rw[ZcT h.1.1,ZcT h.1.2,Dv.samesB_eq _ _ h.2]
 |.fn f xs,b,h=>by
  cases b <;> simp only[Dv.sameB,ybx,yi] at h
  rw[ZcT h.1,Dv.samesB_eq _ _ h.2]
 |.iface t x,b,h=>by
  cases b <;> simp only[Dv.sameB,ybx,yi] at h
  rw[ZcT h.1,Dv.sameB_eq _ _ h.2]
 |.tup xs,b,h=>by
  cases b <;> simp only[Dv.sameB,ybx] at h
  rw[Dv.samesB_eq _ _ h]
 |.mp i,b,h=>by
  cases b <;> simp only[Dv.sameB,ybx] at h
  rw[ZcT h]
 |.rv a k c d e,b,h=>by
  cases b <;> simp only[Dv.sameB,ybx,yi] at h
  rw[ZcT h.1.1.1.1,ZcT h.1.1.1.2,ZcT h.1.1.2,ZcT h.1.2,ZcT h.2]
 |.rref a k c l,b,h=>by
  cases b <;> simp only[Dv.sameB,ybx,yi] at h
  rw[ZcT h.1.1.1,ZcT h.1.1.2,ZcT h.1.2,Zjz _ _ h.2]
 |.junk,b,h=>by
  cases b <;> simp only[Dv.sameB,ybx] at h;rfl
theorem Dv.samesB_eq:∀(a b:List Dv),Dv.samesB a b=true→a=b
 |[],[],_=>rfl
 |[],_::_,h=>by cases h
 |_::_,[],h=>by cases h
 |x::r,y::q,h=>by
  simp only[Dv.samesB,yi] at h;rw[Dv.sameB_eq x y h.1,Dv.samesB_eq r q h.2]
end
def Ent.sameB:Option Ent→Option Ent→Bool
 |some (.var d _),some (.var e _)=>Dv.sameB d e
 |_,_=>false
theorem Ent.sameB_rd{a b:Option Ent}(h:Ent.sameB a b=true):rdE a=rdE b:=by
 unfold Ent.sameB at h;split at h
 ·rw[Dv.sameB_eq _ _ h];rfl
 ·cases h
structure TR where
 cls:Nat
 rd:Option Nat
 tc:Option (List Nat)
 n:Nat
 push:Bool
 loc:Bool
 m:Nat
 sm:Nat→Bool
def ZDW(P:yg)(o:Oper)(ts:List Dv)(hs:List Hint)(n id:Nat):Bool:=
 match o.guard,hs with
 |some (_,want),.b β::hs'=>if β=want then(match Zaj P o ts hs' with|some l=> !l.contains id&&decide (id < n)|none=>false) else false
 |_,_=>false
def Zyd(P:yg)(hi:HI)(specs:Sp P)(ops:Array Oper):List Oper→List TD→List TEnt→(List TD→List TEnt→List TR→List Hint→Option O)→Option O
 |[],all,H,K=>K all H [] []
 |o::r,all,H,K=>gT P hi specs ops o (Zde (looks ops o) 0 all) all H λa d H' hs c=>Zyd P hi specs ops r (ZqO a o.dst d) H' λa' h' rs hs'=>
   K a' h' (⟨c,ZAi P o (TD.ers (lk H) (Zde (looks ops o) 0 all)),Zrw P o (TD.ers (lk H) (Zde (looks ops o) 0 all)) hs,H.length,ZaY o hs H.length,ZiX o hs,H'.length,λid=>(c==3) || ZDW P o (TD.ers (lk H) (Zde (looks ops o) 0 all)) hs H.length id || Ent.sameB ((erH H')[id]?) ((erH H)[id]?)⟩::rs) (hs++hs')
def RecOk(R:Rec)(r:TR):Prop:=R.cls≤r.cls∧R.rd=r.rd∧(∀l,r.tc=some l→R.tc=some l)∧R.H.length=r.n∧(r.push=true→R.push=true)∧(r.loc=true→R.loc=true)∧R.H'.length=r.m∧∀id,r.sm id=true→rdE (R.H'[id]?)=rdE (R.H[id]?)
inductive RecsOk:List Rec→List TR→Prop where
 |nil:RecsOk [] []
 |cons {R:Rec} {r:TR} {Rs:List Rec} {rs:List TR} (h:RecOk R r) (k:RecsOk Rs rs):RecsOk (R::Rs) (r::rs)
theorem Zog{ts:List Dv}{hs rest:List Hint}{l:List Nat}(h:Zaj P o ts hs=some l):Zaj P o ts (hs++rest)=some l:=by
 unfold Zaj at h ⊢;split at h <;> first|exact h|skip
 ·cases hs with
  |nil=>cases h
  |cons x r=>rw[yab];cases x <;> exact h
 split at h <;> first|exact h|skip
 all_goals
  split at h
  ·exact h
  ·cases h
theorem ZDX{ts:List Dv}{hs rest:List Hint}{l:List Nat}(h:Zrw P o ts hs=some l):Zrw P o ts (hs++rest)=some l:=by
 unfold Zrw at h ⊢;split at h
 ·rename_i hg;rw[if_pos hg];exact Zog h
 ·cases h
theorem ZBD{hs rest:List Hint}(h:ZiX o hs=true):ZiX o (hs++rest)=true:=by
 unfold ZiX at h ⊢;rw[yi] at h ⊢;refine⟨h.1, ?_⟩;have h:=h.2;split at h
 ·split at h
  ·split at h
   ·exact h
   ·cases h
  ·split at h
   ·exact h
   ·cases h
  ·cases h
 ·cases h
theorem ZzE{hs rest:List Hint}{n:Nat}(h:ZaY o hs n=true):ZaY o (hs++rest) n=true:=by
 unfold ZaY at h ⊢;rw[yi] at h ⊢;refine⟨h.1, ?_⟩;have h:=h.2;split at h
 ·rfl
 ·split at h
  ·split at h
   ·exact h
   ·cases h
  ·cases h
 ·cases h
theorem ZDY{ops:Array Oper}{ts:List Dv}{H:List Ent}{hs rest:List Hint}{C:List Prop}{d:Dv}{H':List Ent}{hs2:List Hint}{id:Nat}(h:evG P ops o ts H (hs++rest)=some (C,d,H',hs2))(ht:ZDW P o ts hs H.length id=true):rdE (H'[id]?)=rdE (H[id]?):=by
 unfold ZDW at ht;split at ht
 ·rename_i j want β hs' hg;split at ht
  ·rename_i hb;split at ht
   ·rename_i l hl;rw[yi] at ht;have hi:id < H.length:=by simpa using ht.2
    have hc:l.contains id=false:=by simpa using ht.1
    rw[yab] at h;unfold evG at h;rw[hg] at h;dsimp only at h;split at h
    ·rename_i t' β' hs'' h6 h7;cases h7;rw[if_pos hb,yp] at h;obtain⟨⟨C1,d1,H1,hs1⟩,h1,h8⟩:=h;simp only[ym] at h8;obtain⟨_,_,rfl,_⟩:=h8;unfold ZbX at h1;split at h1
     ·cases h1;rfl
     ·split at h1
      ·cases h1;rfl
      ·exact Zqw h1 (Zog hl) hi hc
    ·rename_i h7;cases h7
    ·cases h
   ·cases ht
  ·cases ht
 ·cases ht
theorem Zoh{hi:HI}{specs:Sp P}{ops:Array Oper}(ok:SpOk specs):∀(l:List Oper)(all:List TD)(H:List TEnt)(K:List TD→List TEnt→List TR→List Hint→Option O),Zyd P hi specs ops l all H K=some out→
 ∃a h rs hs C,K a h rs hs=some out∧a.length=all.length∧AllP C∧∀rest,∃RS,evD P ops l (TD.ers (lk H) all) (erH H) (hs++rest)=some (C,RS,TD.ers (lk h) a,erH h,rest)∧RecsOk RS rs
 |[],all,H,K,h=>⟨all,H,[],[],[],h,rfl,trivial,λ_=>⟨[],rfl,.nil⟩⟩
 |o::r,all,H,K,h=>by
  unfold Zyd at h
  have hgd:∀j want t,o.guard=some (j,want)→ZwE ops j=some t→(Zde (looks ops o) 0 all).getD t .junk=all.getD t .junk:=by
   intro j want t hg hs;refine ZqQ _ _ _ _ ?_;rw[yba];unfold looks;rw[hg];dsimp only;rw[show(ops[j]?).bind (·.dst)=some t from hs]
   simp
  obtain⟨a,d,H',hs,c,h1,h2⟩:=Zyc ok hgd h;obtain⟨a',h',rs,hs',C',k1,k0,k2,k3⟩:=Zoh ok r _ _ _ h1;obtain⟨C,g1,g2⟩:=h2.op;refine⟨a',h',_,_,C++C',k1,by rw[k0,ZqP,h2.len],Zl.2 ⟨g1,k2⟩,λrest=> ?_⟩;obtain⟨RS,e1,e2⟩:=k3 rest;unfold evD;rw[←Zjy,yao,g2 (hs'++rest)];dsimp only;rw[←h2.same, ←ZuN,e1]
  refine⟨_,rfl,.cons ⟨h2.cls _,rfl,λl hl=> ?_,Zy _,λhp=>by rw[Zy];exact ZzE hp,λhl=>ZBD hl,Zy _,λid hs=>by
   have hs:(c==3 || ZDW P o (TD.ers (lk H) (Zde (looks ops o) 0 all)) _ H.length id || Ent.sameB ((erH H')[id]?) ((erH H)[id]?))=true:=hs;rw[ycd,ycd] at hs;rcases hs with(h5|h5)|h5
   ·rw[h2.sam (by simpa using h5)]
   ·exact ZDY (g2 []) (by rw[Zy];exact h5)
   ·exact Ent.sameB_rd h5⟩ e2⟩
  exact ZDX hl
def Zye(ops:Array Oper)(cls:List Nat)(free comm:Nat→Nat→Bool):Bool:=
 let l:=ops.toList;let A:=ZAj l;let n:=l.length
 (cls.length==n)&&Zd4 l 0&&
 ((yv n).all λi=>match l[i]? with|some o=>A.getD i 0==ZeF A i o|none=>true)&&
 ((yv n).all λi=>(yv n).all λj=>i==j || Zd5 l i==none || !(Zd5 l i==Zd5 l j))&&
 ((yv n).all λi=>match l[i]? with
   |some o=>let k:=looks ops o
    (yv n).all λj=>match Zd5 l j with
      |some t=>i==j || !(k.contains t) || (if j < i then(A.getD i 0).testBit j else(A.getD j 0).testBit i)
      |none=>true
   |none=>true)&&
 ((yv n).all λi=>cls.getD i 0==0 || (yv n).all λj=>i==j || decide (cls.getD j 0 < 2) || (if j < i then(A.getD i 0).testBit j else(A.getD j 0).testBit i) || (decide (cls.getD i 0≤1)&&free i j) || comm i j)
def ZBE(rs:List TR)(i j:Nat):Bool:=
 match rs[i]?,rs[j]? with
 |some r,some q=>match r.rd with
  |some id=>decide (id < q.n)&&decide (id < r.n)&&((match q.tc with|some l=> !l.contains id|none=>false) || q.sm id)
  |none=>false
 |_,_=>false
def cT(rs:List TR)(c:Nat)(r:TR):Bool:=r.loc || (r.push&&r.m==r.n+1&&(rs.take c).all λq=>decide (q.n≤r.n))
def cI(rs:List TR):Nat:=match rs.findIdx? (λr=>r.loc&&r.cls==2) with
 |some c=>c
 |none=>(rs.findIdx? (λr=>r.push)).getD 0
def Zyf(rs:List TR)(i j:Nat):Bool:=
 let c:=cI rs
 ((rs[c]?).map (cT rs c)).getD false&&((i==c&&decide (c < j)&&((rs[j]?).map (·.push)).getD false) || (j==c&&decide (c < i)&&((rs[i]?).map (·.push)).getD false))
theorem Zoi{RS:List Rec}{rs:List TR}(h:RecsOk RS rs):RS.length=rs.length:=by
 induction h with
 |nil=>rfl
 |cons _ _ ih=>simp[ih]
theorem Zgl{RS:List Rec}{rs:List TR}(h:RecsOk RS rs):∀{i:Nat}{r:TR},rs[i]? =some r→∃R,RS[i]? =some R∧RecOk R r:=by
 induction h with
 |nil=>intro i r h;simp at h
 |cons h k ih=>
  intro i r hi
  cases i with
  |zero=>cases hi;exact⟨_,rfl,h⟩
  |succ i=>exact ih hi
theorem ZzF{RS:List Rec}{rs:List TR}(h:RecsOk RS rs):∀{i:Nat}{R:Rec},RS[i]? =some R→∃r,rs[i]? =some r∧RecOk R r:=by
 induction h with
 |nil=>intro i r h;simp at h
 |cons h k ih=>
  intro i r hi
  cases i with
  |zero=>cases hi;exact⟨_,rfl,h⟩
  |succ i=>exact ih hi
theorem ZuO{RS:List Rec}{rs:List TR}(h:RecsOk RS rs)(i:Nat):(RS.map (·.cls)).getD i 0≤(rs.map (·.cls)).getD i 0:=by
 simp only[yda,yan]
 cases hi:rs[i]? with
 |none=>
  have:RS[i]? =none:=by rw[List.getElem?_eq_none_iff] at hi ⊢;rw[Zoi h];exact hi
  rw[this]
  exact yn _
 |some r=>
  obtain⟨R,e,k⟩:=Zgl h hi;rw[e];exact k.1
theorem ZDZ{ops:Array Oper}{RS:List Rec}{rs:List TR}(h:RecsOk RS rs)(k:Zye ops (rs.map (·.cls)) (ZBE rs) (Zyf rs)=true)(hn:rs.length=ops.size):Zrx ops RS=true:=by
 unfold Zye at k;unfold Zrx;simp only[yi] at k ⊢;obtain⟨⟨⟨⟨⟨k1,k2⟩,k3⟩,k4⟩,k5⟩,k6⟩:=k;refine⟨⟨⟨⟨⟨?_,k2⟩,k3⟩,k4⟩,k5⟩, ?_⟩
 ·simpa[Zoi h] using k1
 ·have hcm:∃c,c∈yv (ops.toList.length+1)∧∀i j,Zyf rs i j=true→ZdH RS c i j=true:=by
   have hget:∀(k:Nat),((rs[k]?).map (·.push)).getD false=true→((RS[k]?).map (·.push)).getD false=true:=by
    intro k hk
    cases hr:rs[k]? with
    |none=>rw[hr] at hk;cases hk
    |some r=>
     obtain⟨R,e1,e2⟩:=Zgl h hr;rw[hr] at hk;rw[e1];exact e2.2.2.2.2.1 hk
   refine⟨if cI rs < rs.length then cI rs else 0, ?_,λi j hij=> ?_⟩
   ·rw[List.mem_range];split
    ·rename_i hlt;rw[hn] at hlt;have:ops.toList.length=ops.size:=by simp
     omega
    ·omega
   ·unfold Zyf at hij;dsimp only at hij;generalize cI rs=c at hij ⊢;rw[yi] at hij;obtain⟨h1,h2⟩:=hij
    cases hr:rs[c]? with
    |none=>rw[hr] at h1;cases h1
    |some r=>
     have hlt:=(yq.1 hr).1;rw[if_pos hlt];obtain⟨R,e1,e2⟩:=Zgl h hr;rw[hr] at h1;unfold ZdH;rw[yi];refine⟨?_, ?_⟩
     ·rw[e1];show cOk RS c R=true;have h1:cT rs c r=true:=h1;unfold cT at h1;unfold cOk;rw[ycd] at h1 ⊢;rcases h1 with h1|h1
      ·exact .inl (e2.2.2.2.2.2.1 h1)
      ·simp only[yi,beq_iff_eq,ybc,decide_eq_true_eq] at h1 ⊢;obtain⟨⟨b1,b2⟩,b3⟩:=h1;refine .inr ⟨⟨e2.2.2.2.2.1 b1,by rw[e2.2.2.2.2.2.2.1,e2.2.2.2.1];exact b2⟩,λq hq=> ?_⟩;obtain⟨k,hk⟩:=List.mem_iff_getElem?.1 hq;rw[ycg] at hk;split at hk
       ·rename_i hkc;obtain⟨q2,f1,f2⟩:=ZzF h hk;rw[f2.2.2.2.1,e2.2.2.2.1];refine b3 q2 (List.mem_iff_getElem?.2 ⟨k, ?_⟩);rw[ycg,if_pos hkc];exact f1
       ·cases hk
     ·simp only[ycd,yi] at h2 ⊢;rcases h2 with⟨⟨a1,a2⟩,a3⟩|⟨⟨a1,a2⟩,a3⟩
      ·exact .inl ⟨⟨a1,a2⟩,hget _ a3⟩
      ·exact .inr ⟨⟨a1,a2⟩,hget _ a3⟩
  obtain⟨c,hc1,hc2⟩:=hcm;rw[List.any_eq_true];refine⟨c,hc1, ?_⟩;rw[ybc] at k6 ⊢;intro i hi;have:=k6 i hi;have hc:=ZuO h i;simp only[ycd] at this ⊢;rcases this with h0|h1
  ·left;have h0:(rs.map (·.cls)).getD i 0=0:=by simpa using h0
   have:(RS.map (·.cls)).getD i 0=0:=by omega
   simpa using this
  ·by_cases hz:(RS.map (·.cls)).getD i 0=0
   ·left;simpa using hz
   ·right;rw[ybc] at h1 ⊢;intro j hj;have h2:=h1 j hj;have hd:=ZuO h j;simp only[ycd,yi,decide_eq_true_eq] at h2 ⊢;rcases h2 with(((h2|h2)|h2)|h2)|h2
    ·exact .inl (.inl (.inl (.inl h2)))
    ·refine .inl (.inl (.inl (.inr ?_)));have:(RS.map (·.cls)).getD j 0≠2:=by omega
     simpa using this
    ·exact .inl (.inl (.inr h2))
    ·refine .inl (.inr ⟨?_, ?_⟩)
     ·have:(RS.map (·.cls)).getD i 0=1:=by omega
      simpa using this
     ·have hf:=h2.2;unfold ZBE at hf;unfold Zf3;split at hf
      ·rename_i r q hr hq;obtain⟨R,e1,e2⟩:=Zgl h hr;obtain⟨Q,e3,e4⟩:=Zgl h hq;rw[e1,e3];dsimp only;split at hf
       ·rename_i id hrd;rw[e2.2.1,hrd];dsimp only;rw[e4.2.2.2.1,e2.2.2.2.1];rw[yi] at hf ⊢;refine⟨hf.1, ?_⟩;rw[ycd] at hf ⊢;rcases hf.2 with h5|h5
        ·left;split at h5
         ·rename_i l htc;rw[e4.2.2.1 l htc];exact h5
         ·cases h5
        ·right;exact@decide_eq_true _ (Classical.propDecidable _) (e4.2.2.2.2.2.2.2 id h5)
       ·cases hf
      ·cases hf
    ·exact .inr (hc2 i j h2)
def ZBF:TEnt→TEnt
 |.var d _=>.var d false
 |e=>e
def ZkP(ids:List Nat)(H:List TEnt):List TEnt:=(yv H.length).zipWith (λi e=>if ids.contains i then ZBF e else e) H
theorem ZD0(e:TEnt):lkE (some (ZBF e))=lkE (some e):=by cases e <;> rfl
theorem Zoj(ids:List Nat)(H:List TEnt)(i:Nat):(ZkP ids H)[i]? =(H[i]?).map λe=>if ids.contains i then ZBF e else e:=by
 unfold ZkP;rw[List.getElem?_zipWith];rcases ybt i H.length with h|h
 ·rw[List.getElem?_range h,yaf h];rfl
 ·rw[yaq (by simpa using h),yaq h];rfl
theorem ZqS(ids:List Nat)(H:List TEnt):lk (ZkP ids H)=lk H:=by
 funext i;unfold lk;rw[Zoj]
 cases H[i]? with
 |none=>rfl
 |some e=>
  show lkE (some (if ids.contains i=true then ZBF e else e))=_
  split
  ·exact ZD0 e
  ·rfl
theorem ZzG(ids:List Nat)(H:List TEnt):WkH (erH H) (erH (ZkP ids H)):=by
 refine ZwA (by rw[Zy,Zy];unfold ZkP;simp) λi a b h1 h2=> ?_;unfold erH at h1 h2;rw[yan] at h1 h2;rw[ZqS,Zoj] at h2
 cases he:H[i]? with
 |none=>rw[he] at h1;cases h1
 |some e=>
  rw[he] at h1 h2;cases h1;cases h2;show WkE (e.er (lk H)) (TEnt.er (lk H) (if ids.contains i=true then ZBF e else e))
  split
  ·cases e <;> first|exact .refl _|exact .frz
  ·exact .refl _
theorem ZBG{c:Code}{ts ts1:List Dv}{H0 H1 H2:List Ent}{ex:Ex}(h:WkH H0 H1)(r:Xr P c ts H1 ex ts1 H2):Xr P c ts H0 ex ts1 H2:=by
 intro σ a ok hH hrep;obtain⟨to,ok2⟩:=ZhE ok (H':=H1) (by rw[hH];exact h);refine wp_mono (r { σ with H:=H1} a ok2 rfl (hrep.to to.leaf)) ?_;rintro e a' w' ⟨rfl,σ2,q1,q2,q3,q4,q5⟩;exact⟨rfl,σ2,q1,q2,to.trans q3,q4,q5⟩
def ZBH(ops:List Oper)(all:List TD):Nat→Tmp→Option Nat
 |0,_=>none
 |n+1,x=>match ops.find? λo=>o.dst==some x with
  |some o=>match o.op with
   |.fieldAddr _ (.tmp y) _=>ZBH ops all n y
   |_=>none
  |none=>match all.getD x .junk with
   |.ref id _=>some id
   |_=>none
def ZG1(hi:HI)(ops:List Oper)(all:List TD)(o:Oper):Option Nat:=
 match o.op with
 |.slice _ (.tmp x) _ _ none=>if Zhx hi.frz o.dst then ZBH ops all 4 x else none
 |_=>none
def Zok(hi:HI)(ops:Array Oper)(all:List TD)(H:List TEnt):List TEnt:=
 match hi.frz with
 |[]=>H
 |_=>match ops.toList.filterMap (ZG1 hi ops.toList all) with
  |[]=>H
  |ids=>ZkP ids H
theorem ZzH(hi:HI)(ops:Array Oper)(all:List TD)(H:List TEnt):WkH (erH H) (erH (Zok hi ops all H))∧lk (Zok hi ops all H)=lk H:=by
 unfold Zok;split
 ·exact⟨WkH.refl _,rfl⟩
 ·split
  ·exact⟨WkH.refl _,rfl⟩
  ·exact⟨ZzG _ _,ZqS _ _⟩
def ZFT(P:yg)(hi:HI)(specs:Sp P)(ops:Array Oper)(all:List TD)(H:List TEnt)(K:List TD→List TEnt→Option O):Option O:=
 if P.follows .mixedOrders then Zyd P hi specs ops ops.toList all (Zok hi ops all H) λa h rs _=>if Zye ops (rs.map (·.cls)) (ZBE rs) (Zyf rs)=true then K a h else none else none
theorem ZzI{hi:HI}{specs:Sp P}{ops:Array Oper}{K:List TD→List TEnt→Option O}(ok:SpOk specs)(h:ZFT P hi specs ops all H K=some out):∃a h,K a h=some out∧a.length=all.length∧∀id,Xr P (.region id ops true) (TD.ers (lk H) all) (erH H) .normal (TD.ers (lk h) a) (erH h):=by
 unfold ZFT at h;split at h
 ·rename_i hf;obtain⟨w1,w2⟩:=ZzH hi ops all H;generalize Zok hi ops all H=H0 at h w1 w2;obtain⟨a,h',rs,hs,C,k1,k0,k2,k3⟩:=Zoh ok _ _ _ _ h;obtain⟨k4,k5⟩:=Za k1;refine⟨a,h',k5,k0,λid=> ?_⟩;obtain⟨RS,e1,e2⟩:=k3 [];rw[←w2];refine ZBG w1 (ZnM (hs:=hs) (hs':=[]) (C:=C) ?_ k2);simp only[ev,if_true];unfold Zry;rw[if_pos hf];rw[ybl] at e1;rw[e1];dsimp only;rw[if_pos (ZDZ e2 k4 (by have:=Zoi e2;unfold Zye at k4;simp only[yi] at k4;simpa using k4.1.1.1.1.1))];rfl
 ·cases h
theorem ZzJ{hi:HI}{specs:Sp P}{ops:Array Oper}{K:List TD→List TEnt→List Hint→Option O}(ok:SpOk specs)(h:ZwF P hi specs ops ops.toList all H K=some out):∃a h hs,K a h hs=some out∧a.length=all.length∧∀id,Xr P (.region id ops false) (TD.ers (lk H) all) (erH H) .normal (TD.ers (lk h) a) (erH h):=by
 obtain⟨a,h',hs,C,k1,k0,k2,k3⟩:=ZkO ok _ _ _ _ h;refine⟨a,h',hs,k1,k0,λid=> ?_⟩;refine ZnM (hs:=hs) (hs':=[]) (C:=C) ?_ k2;have:=k3 [];rw[ybl] at this;simp only[ev,ybx,if_false,this];rfl
end
end Go.Ev
end
section
namespace Go.Ev
section
variable{P:yg}{a:Act}{σ:Sg}{ts:List Dv}
theorem Zol{ops:Array Oper}(Q:Exit→Act→yz→Prop){ts':List Dv}(more:List Nat):∀(l:List Oper)(k:Nat)(ts:List Dv)(σ:Sg)(a:Act)(hs hs':List Hint)(C:List Prop)(H':List Ent),
 (∀(j:Nat)(x:Oper),l[j]? =some x→ops[k+j]? =some x)→Ok σ→RepT σ ts a→ZhD P ops l ts σ.H hs=some (C,ts',H',hs')→AllP C→
 (∀a' σ',σ'.H=H'→To σ σ'→Ok σ'→RepT σ' ts' a'→wpOps P ops Q more a' σ'.w)→wpOps P ops Q (List.range' k l.length++more) a σ.w
 |[],k,ts,σ,a,hs,hs',C,H',_,ok,hrep,h,hc,hQ=>by
  simp only[ZhD,yj,ym] at h;obtain⟨rfl,rfl,rfl,rfl⟩:=h
  exact hQ a σ rfl (To.refl σ) ok hrep
 |o::l,k,ts,σ,a,hs,hs',C,H',hl,ok,hrep,h,hc,hQ=>by
  simp only[ZhD] at h;split at h
  ·rename_i C1 d1 H1 hs1 h1;split at h
   ·rename_i C2 ts2 H2 hs2 h2;simp only[yj,ym] at h;obtain⟨rfl,rfl,rfl,rfl⟩:=h;obtain⟨c1,c2⟩:=Zl.1 hc;have h0:ops[k]? =some o:=by simpa using hl 0 o rfl
    simp only[yal,List.range'_succ,yab,wpOps,h0]
    have key:=Zg9 (P:=P) (ops:=ops) ok hrep h1 c1 (wpOps P ops Q (List.range' (k+1) l.length++more)) Q (λv σ1 e1 to1 ok1 hrep1=>by
     subst e1
     exact Zol Q more l (k+1) _ σ1 _ hs1 _ C2 _ (λj x hx=>by have:=hl (j+1) x (by simpa using hx);simpa[ych,Nat.add_comm 1 j] using this) ok1 hrep1 h2 c2
      (λa' σ' e2 to2 ok2 hrep2=>hQ a' σ' e2 (to1.trans to2) ok2 hrep2))
    by_cases hw:Region.wanted o (yielded ops a.tmps)=true
    ·rw[if_pos hw] at key ⊢;exact .inl key
    ·rw[if_neg hw] at key ⊢;exact key
   ·cases h
  ·cases h
theorem Zdf{ops:Array Oper}{Q:Exit→Act→yz→Prop}{i:Nat}{rest:List Nat}{o:Oper}{v:yh}{w w':yz}(g:ops[i]? =some o)(n:o.guard=none)(hx:(execOp a.eval o).run P w=.ok (.value v) w')
 (k:wpOps P ops Q rest (a.put o.dst v) w'):wpOps P ops Q (i::rest) a w:=by
 have hw:Region.wanted o (yielded ops a.tmps)=true:=by simp[Region.wanted,n]
 simp only[wpOps,g];rw[if_pos hw];refine .inl ?_;unfold Oper.wp;rw[hx];exact k
theorem ZwG{ops:Array Oper}{Q:Exit→Act→yz→Prop}{i:Nat}{rest:List Nat}{o:Oper}{w w':yz}(g:ops[i]? =some o)(n:o.guard=none)(hx:(execOp a.eval o).run P w=.ok .skip w')
 (k:wpOps P ops Q rest (a.put o.dst undef) w'):wpOps P ops Q (i::rest) a w:=by
 have hw:Region.wanted o (yielded ops a.tmps)=true:=by simp[Region.wanted,n]
 simp only[wpOps,g];rw[if_pos hw];refine .inl ?_;unfold Oper.wp;rw[hx];exact k
theorem ZjA{t:Nat}{v:yh}(h:t < a.tmps.size):(a.put (some t) v).eval (.tmp t)=v:=by
 show(a.tmps.setIfInBounds t v).getD t undef=v;simp[ydd,ydc,h]
theorem Zgm{t s:Nat}{v:yh}(h:s≠t):(a.put (some t) v).eval (.tmp s)=a.eval (.tmp s):=by
 show(a.tmps.setIfInBounds t v).getD s undef=a.tmps.getD s undef;simp[ydd,ydc,h,Ne.symm h]
theorem Zhj{σ':Sg}{t:Nat}{v:yh}(h:RepT σ' ts a):RepT σ' (ts.set t .junk) (a.put (some t) v):=
 Zb8 (o:={ (default:Oper) with dst:=some t}) h YM
theorem ZD1{ops:Array Oper}{Q:Exit→Act→yz→Prop}{p t0 t1 t2 t3:Nat}{o1 o2 o3 o4 o5:Oper}(g1:ops[p]? =some o1)(g2:ops[p+1]? =some o2)(g3:ops[p+2]? =some o3)(g4:ops[p+3]? =some o4)(g5:ops[p+4]? =some o5)
 (n1:o1.guard=none) (n2:o2.guard=none) (n3:o3.guard=none) (n4:o4.guard=none) (n5:o5.guard=none) {t tt u t5 kt et e:yb} {m k y m5:yo} {c:Call} {id:Nat}
 (h1:o1.op=.mapEntry t m k) (d1:o1.dst=some t0) (h2:o2.op=.extract (.tmp t0) 0) (d2:o2.dst=some t1) (h3:o3.op=.call c) (hc:c.callee=.builtin .append) (ha:c.args.toList=[.tmp t1,y]) (hty:c.argTypes.toList=[tt,u]) (d3:o3.dst=some t2)
 (h4:o4.op=.extract (.tmp t0) 1) (d4:o4.dst=some t3) (h5:o5.op=.entryStore t5 m5 (.tmp t3) (.tmp t2)) (d5:o5.dst=none) (q01:t0≠t1) (q02:t0≠t2) (q23:t2≠t3) (l0:t0 < ts.length) (l1:t1 < ts.length) (l2:t2 < ts.length) (l3:t3 < ts.length)
 (ok:Ok σ) (hrep:RepT σ ts a) {kk:Pl} {tm:yb} {s0:Nat} {i:TypeInfo} {ys:List Pl} (hu:P.underlying t=some (.map kt et)) (hm:Zo P ts t m=.mp id) (hk:Zo P ts kt k=.p kk) (hH:σ.H[id]? =some (.map tm [])) (hkt:Zd3 P kt=true) (hfit:fitP P 20 kt kk)
 (hzt:Zg4 P et=true) (hzd:Yo P et=.p (.sl (some false) s0 [])) (htt:P.underlying tt=some (.slice e)) (hi:P.info? e=some i) (hz:zOk i=true) (hne:i.size≠0)
 (hsrc:Zc0 P (P.cellsOf e) u (Zo P ((ts.set t0 .junk).set t1 .junk) u y)=some ys) (hb:ys.length*i.bytes≤Zn) (hmx:ys.length≤maxLen) (hm5:Zo P ((((ts.set t0 .junk).set t1 .junk).set t2 .junk).set t3 .junk) t5 m5=.mp id)
 (hQ:∀a' σ',σ'.H=σ.H.set id (.map tm [(kk,.sl none (P.cellsOf e) ys)])→To σ σ'→Ok σ'→RepT σ' ((((ts.set t0 .junk).set t1 .junk).set t2 .junk).set t3 .junk) a'→Q .normal a' σ'.w):wpOps P ops Q [p,p+1,p+2,p+3,p+4] a σ.w:=by
 have hmv:=Zk (P:=P) hrep t m;rw[hm] at hmv;obtain⟨b,hmb,hmv⟩:=Zid hmv;have hkv:=Zk (P:=P) hrep kt k;rw[hk] at hkv;obtain⟨b',es,clock,e1,hbk,hkr,hbo⟩:=ok.ent id _ _ hH hmb;cases e1
 have hes:es= #[]:=by
  have:=ZkD _ _ (Zqq hkr);have h0:es.toList=[]:=ybi this;exact Array.toList_inj.1 h0
 subst hes;obtain⟨F,hF,hrunF⟩:=QW (P:=P) hkt hfit hkv;have hchk:=XK (em:=false) 20 kt kk _ hfit hkv 9980
 have hfind:(Instr.findKey kt (a.eval k) ([]:List MapEntry)).run P σ.w=.ok none σ.w:=by
  rcases ZnE (v:=kk) hF [] [] 0 [(kk,kk)] (Zqq hkr) (λq hq=>by cases hq) (by simp[Vm]) with⟨j,e',_,f2,_⟩|⟨f1,_⟩
  ·simp at f2
  ·exact hrunF _ _ f1
 obtain⟨zv,hzv,hzr⟩:∃z,(zeroValue et).run P σ.w=.ok z σ.w∧repDV σ (Yo P et) z:=by
  unfold Zg4 at hzt;split at hzt
  ·rename_i i hi
   cases hzz:i.zero with
   |none=>simp[hzz] at hzt
   |some z=>
    refine⟨z,by simp[zeroValue,typeInfo,hi,hzz], ?_⟩;unfold Yo;rw[hi];simp only[hzz];exact Wd
  ·cases hzt
 rw[hzd] at hzr;have hzn:=Zlr hzr;subst hzn;let en:MapEntry:={ key:=a.eval k,val:=.slice none 0 0,born:=clock};obtain⟨to1,ok1⟩:=VU (es':= #[en]) (clock':=clock+1) ok hH hmb hbk (l:=[(kk,.sl (some false) s0 [])]) (Zqr ⟨hkv,hzr,ytt⟩) (Zg8 (es:= #[]) hbo rfl);let σ1:Sg:={ σ with m:=σ.m.set id (some b),H:=σ.H.set id (.map tm [(kk,.sl (some false) s0 [])]),w:={ σ.w with heap:=σ.w.heap.setIfInBounds b (.map #[en] (clock+1))}};have to1:To σ σ1:=to1;have ok1:Ok σ1:=ok1
 have x1:(execOp a.eval o1).run P σ.w=.ok (.value (.tuple #[.slice none 0 0,goInt clock])) σ1.w:=by
  have:(Instr.mapEntry t (a.eval m) (a.eval k)).run P σ.w=.ok (.tuple #[.slice none 0 0,goInt clock]) σ1.w:=by
   simp only[Instr.mapEntry,Sem.run_bind,run_underlying hu,Result.andThen_ok,hmv,Xs hbk,hchk,hfind,hzv,Go.MapKept.run_setObj_map _ hbk,Sem.run_pure];rfl
  simp[execOp,h1,this]
 refine Zdf g1 n1 x1 ?_;rw[d1];have r1:RepT σ1 (ts.set t0 .junk) (a.put (some t0) (.tuple #[.slice none 0 0,goInt clock])):=Zhj (hrep.to to1.leaf);generalize ha1:a.put (some t0) (.tuple #[.slice none 0 0,goInt clock])=a1 at r1 ⊢;have ht0:t0 < a.tmps.size:=by rw[hrep.size];exact l0
 have v1:a1.eval (.tmp t0)=.tuple #[.slice none 0 0,goInt clock]:=by rw[←ha1];exact ZjA ht0
 have x2:(execOp a1.eval o2).run P σ1.w=.ok (.value (.slice none 0 0)) σ1.w:=by
  have:(Instr.extract (a1.eval (.tmp t0)) 0).run P σ1.w=.ok (.slice none 0 0) σ1.w:=by rw[v1];simp[Instr.extract]
  simp[execOp,h2,this]
 refine Zdf g2 n2 x2 ?_;rw[d2];have r2:RepT σ1 ((ts.set t0 .junk).set t1 .junk) (a1.put (some t1) (.slice none 0 0)):=Zhj r1;have s1:t1 < a1.tmps.size:=by rw[r1.size,ybf];exact l1
 generalize ha2:a1.put (some t1) (.slice none 0 0)=a2 at r2 ⊢;have v2:a2.eval (.tmp t1)=.slice none 0 0:=by rw[←ha2];exact ZjA s1
 have v20:a2.eval (.tmp t0)=.tuple #[.slice none 0 0,goInt clock]:=by rw[←ha2,Zgm q01];exact v1
 have hce:P.cellsOf e=i.size:=by simp[Program.cellsOf,hi]
 have key:∃v3 w3,(execOp a2.eval o3).run P σ1.w=.ok (.value v3) w3∧To σ1 { σ1 with w:=w3}∧Ok { σ1 with w:=w3}∧w3.heap[b]? =some (.map #[en] (clock+1))∧repDV { σ1 with w:=w3} (.p (.sl none (P.cellsOf e) ys)) v3:=by
  obtain⟨gs1,gs2⟩:=Go.MapKept.heap_set (w:=σ.w) (o':=.map #[en] (clock+1)) hbk;rcases Wo (P:=P) (ty:=o3.type) (u:=u) (y:=y) ok1 r2 htt hi hz hne (VR (P:=P) r2 hsrc) hb hmx with⟨rfl,hrun⟩|⟨news,rest,hys,hall,hr,hge,hcm,hcs,hrun⟩
  ·exact⟨_,σ1.w,ZT h3 hc ha hty (by rw[v2];exact hrun),To.refl σ1,ok1,gs1,Z9 (λ_ hx=>by cases hx) (yn _) (by simp[maxLen]) (ZQ _) (λ_=>rfl) (λh=>absurd rfl h)⟩
  ·have hg:=Yt σ1.w (.cells (news.toArray++rest) e) none;obtain⟨to,ok'⟩:=Zg5 ok1 hg;have hlen:news.length=ys.length*i.size:=by rw[repCs_size _ _ hr,sizes_all hall]
   have hlt:b < σ1.w.heap.size:=ok1.lt id b (getElem?_set_eq' hmb);refine⟨_,_,ZT h3 hc ha hty (by rw[v2];exact hrun),to,ok',(hg.block b hlt (by simp)).trans gs1, ?_⟩;rw[hce];exact Zns (ZQ _) ok' hall (repCs_mono to.leaf.cells _ _ hr) (b:=σ1.w.heap.size) (cells:=news) (heap_alloc_new σ1.w.drew _) (ok1.new _ (yn _)) (Zbt ok1) (by simp) hge hcm
 obtain⟨v3,w3,x3,to3,ok3,hb3,hv3⟩:=key;refine Zdf g3 n3 x3 ?_;rw[d3];let σ3:Sg:={ σ1 with w:=w3};have r3:RepT σ3 (((ts.set t0 .junk).set t1 .junk).set t2 .junk) (a2.put (some t2) v3):=Zhj (r2.to to3.leaf);have s2:t2 < a2.tmps.size:=by rw[r2.size,ybf,ybf];exact l2
 generalize ha3:a2.put (some t2) v3=a3 at r3 ⊢;have v30:a3.eval (.tmp t0)=.tuple #[.slice none 0 0,goInt clock]:=by rw[←ha3,Zgm q02];exact v20
 have v32:a3.eval (.tmp t2)=v3:=by rw[←ha3];exact ZjA s2
 have x4:(execOp a3.eval o4).run P w3=.ok (.value (goInt clock)) w3:=by
  have:(Instr.extract (a3.eval (.tmp t0)) 1).run P w3=.ok (goInt clock) w3:=by rw[v30];simp[Instr.extract]
  simp[execOp,h4,this]
 refine Zdf g4 n4 x4 ?_;rw[d4];have r4:RepT σ3 ((((ts.set t0 .junk).set t1 .junk).set t2 .junk).set t3 .junk) (a3.put (some t3) (goInt clock)):=Zhj r3;have s3:t3 < a3.tmps.size:=by rw[r3.size,ybf,ybf,ybf];exact l3
 generalize ha4:a3.put (some t3) (goInt clock)=a4 at r4 ⊢;have v43:a4.eval (.tmp t3)=goInt clock:=by rw[←ha4];exact ZjA s3
 have v42:a4.eval (.tmp t2)=v3:=by rw[←ha4,Zgm q23];exact v32
 have hm5v:=Zk (P:=P) r4 t5 m5;rw[hm5] at hm5v;obtain⟨b5,hmb5,hm5v⟩:=Zid hm5v;have hmb1:σ3.m[id]? =some (some b):=getElem?_set_eq' hmb;rw[hmb1] at hmb5;cases hmb5;have hH3:σ3.H[id]? =some (.map tm [(kk,.sl (some false) s0 [])]):=getElem?_set_eq' hH;let en5:MapEntry:={ key:=a.eval k,val:=v3,born:=clock};obtain⟨to5,ok5⟩:=VU (es':= #[en5]) (clock':=clock+1) ok3 hH3 hmb1 hb3 (l:=[(kk,.sl none (P.cellsOf e) ys)]) (Zqr ⟨X9 to3.leaf (X9 to1.leaf hkv),hv3,ytt⟩) (Zg8 (es:= #[]) hbo rfl)
 have x5:(execOp a4.eval o5).run P w3=.ok .skip { w3 with heap:=w3.heap.setIfInBounds b (.map #[en5] (clock+1))}:=by
  have hmod:(#[en].modify 0 λe=>{ e with val:=v3})= #[en5]:=by
   apply Array.ext';simp[en,en5,Array.toList_modify]
  have hfi:(#[en].findIdx? λe=>(e.born:Int)==(clock:Int))=some 0:=by
   simp[Array.findIdx?,Array.findIdx?.loop,en]
  have:(Instr.entryStore t5 (a4.eval m5) (a4.eval (.tmp t3)) (a4.eval (.tmp t2))).run P w3=.ok () { w3 with heap:=w3.heap.setIfInBounds b (.map #[en5] (clock+1))}:=by
   rw[hm5v,v43,v42];simp only[Instr.entryStore,goInt,asInt,asIntOf,Sem.run_bind,Xs hb3,Result.andThen_ok,Sem.run_pure,hfi,hmod,Go.MapKept.run_setObj_map _ hb3]
  simp[execOp,h5,this]
 refine ZwG g5 n5 x5 ?_;rw[d5];refine hQ a4 _ ?_ (to1.trans (to3.trans to5)) ok5 (r4.to to5.leaf);show(σ.H.set id (.map tm [(kk,.sl (some false) s0 [])])).set id (.map tm [(kk,.sl none (P.cellsOf e) ys)])=_;rw[List.set_set]
end
end Go.Ev
end
section
namespace Go.Ev
section
variable{P:yg}{all:List TD}{H:List TEnt}{O:Type}{out:O}
def ZD2(o:Oper):Option (yb×yo×yo×Tmp):=
 match o.op,o.dst,o.guard with
 |.mapEntry t m k,some d,none=>some (t,m,k,d)
 |_,_,_=>none
theorem ZzK{o:Oper}{q:yb×yo×yo×Tmp}(h:ZD2 o=some q):o.op=.mapEntry q.1 q.2.1 q.2.2.1∧o.dst=some q.2.2.2∧o.guard=none:=by
 unfold ZD2 at h;split at h
 ·rename_i h1 h2 h3;cases h;exact⟨h1,h2,h3⟩
 ·cases h
def ZD3(o:Oper)(t n:Nat):Option Tmp:=
 match o.op,o.dst,o.guard with
 |.extract (.tmp x) m,some d,none=>if(decide (x=t)&&decide (m=n))=true then some d else none
 |_,_,_=>none
theorem ZqT{o:Oper}{t n:Nat}{q:Tmp}(h:ZD3 o t n=some q):o.op=.extract (.tmp t) n∧o.dst=some q∧o.guard=none:=by
 unfold ZD3 at h;split at h
 ·rename_i h1 h2 h3;obtain⟨h4,h9⟩:=Za h;clear h;simp only[yi,decide_eq_true_eq] at h4;obtain⟨rfl,rfl⟩:=h4;cases h9;exact⟨h1,h2,h3⟩
 ·cases h
structure ApO where
 c:Call
 y:yo
 t:yb
 u:yb
 d:Tmp
def ZFU(o:Oper)(t:Nat):Option ApO:=
 match o.op,o.dst,o.guard with
 |.call c,some d,none=>match c.callee with
  |.builtin .append=>match c.args.toList,c.argTypes.toList with
   |[.tmp x,y],[tt,u]=>if decide (x=t)=true then some ⟨c,y,tt,u,d⟩ else none
   |_,_=>none
  |_=>none
 |_,_,_=>none
theorem ZzL{o:Oper}{t:Nat}{q:ApO}(h:ZFU o t=some q):o.op=.call q.c∧q.c.callee=.builtin .append∧q.c.args.toList=[.tmp t,q.y]∧q.c.argTypes.toList=[q.t,q.u]∧o.dst=some q.d∧o.guard=none:=by
 unfold ZFU at h;split at h
 ·rename_i h1 h2 h3;split at h
  ·rename_i h4;split at h
   ·rename_i h5 h6;obtain⟨h7,h9⟩:=Za h;clear h;have h7:=of_decide_eq_true h7;subst h7;cases h9;exact⟨h1,h4,h5,h6,h2,h3⟩
   ·cases h
  ·cases h
 ·cases h
def ZFV(o:Oper)(s v:Nat):Option (yb×yo):=
 match o.op,o.dst,o.guard with
 |.entryStore t m (.tmp x) (.tmp y),none,none=>if(decide (x=s)&&decide (y=v))=true then some (t,m) else none
 |_,_,_=>none
theorem ZzM{o:Oper}{s v:Nat}{q:yb×yo}(h:ZFV o s v=some q):o.op=.entryStore q.1 q.2 (.tmp s) (.tmp v)∧o.dst=none∧o.guard=none:=by
 unfold ZFV at h;split at h
 ·rename_i h1 h2 h3;obtain⟨h4,h9⟩:=Za h;clear h;simp only[yi,decide_eq_true_eq] at h4;obtain⟨rfl,rfl⟩:=h4;cases h9;exact⟨h1,h2,h3⟩
 ·cases h
def ZG2(P:yg)(t:yb)(m k:yo)(tt u:yb)(y:yo)(t5:yb)(m5:yo)(all all3 all5:List TD)(H:List TEnt)(K:List TEnt→Option O):Option O:=
 match P.underlying t,arT P all t m,arT P all5 t5 m5,P.underlying tt with
 |some (.map kt et),some (.mp id),some (.mp id'),some (.slice e)=>(ZnZ H id).bind λme=>(arT P all kt k).bind λkd=>(Zuk kd me.k).bind λkey=>(ZlC P et).bind λz=>
  match z with
  |.sl (some false) _ []=>(P.info? e).bind λi=>(ZeP P tyD e).bind λT=>(arT P all3 u y).bind λyd=>(ZrP (lk H) P T u yd).bind λys=>(TP.to ZdK (.v (.sl T) ys) me.v).bind λv=>
   if(decide (id=id')&&me.l.isEmpty&&ZhH P kt me.k&&Zg4 P et&&zOk i&&decide (i.size≠0)&&decide (P.cellsOf e=T.size)&&Zub ys.length i.bytes)=true then
    K (H.set id (.map me.tid me.k me.v [(key,v)])) else none
  |_=>none
 |_,_,_,_=>none
def Zyg(P:yg)(l:List Oper)(all:List TD)(H:List TEnt)(K:List TD→List TEnt→Option O):Option O:=
 match l with
 |[o1,o2,o3,o4,o5]=>(ZD2 o1).bind λq1=>(ZD3 o2 q1.2.2.2 0).bind λt1=>(ZFU o3 t1).bind λq3=>(ZD3 o4 q1.2.2.2 1).bind λt3=>(ZFV o5 t3 q3.d).bind λq5=>
  if(decide (q1.2.2.2≠t1)&&decide (q1.2.2.2≠q3.d)&&decide (q3.d≠t3)&&decide (q1.2.2.2 < all.length)&&decide (t1 < all.length)&&decide (q3.d < all.length)&&decide (t3 < all.length))=true then
   ZG2 P q1.1 q1.2.1 q1.2.2.1 q3.t q3.u q3.y q5.1 q5.2 all ((all.set q1.2.2.2 .junk).set t1 .junk) ((((all.set q1.2.2.2 .junk).set t1 .junk).set q3.d .junk).set t3 .junk) H
    (K ((((all.set q1.2.2.2 .junk).set t1 .junk).set q3.d .junk).set t3 .junk))
  else none
 |_=>none
theorem Zao{L:Lk}(l:List TD)(i:Nat)(d:TD):TD.ers L (l.set i d)=(TD.ers L l).set i (d.er L):=by rw[Zu,Zu,ybh]
theorem ZwH{ops:Array Oper}{l:List Oper}{p:Nat}{K:List TD→List TEnt→Option O}(hops:∀(j:Nat)(x:Oper),l[j]? =some x→ops[p+j]? =some x)(h:Zyg P l all H K=some out):
 ∃a H',K a H'=some out∧a.length=all.length∧l.length=5∧∀(Q:Exit→Act→yz→Prop)(act:Act)(σ:Sg),Ok σ→σ.H=erH H→RepT σ (TD.ers (lk H) all) act→
  (∀a' σ',σ'.H=erH H'→To σ σ'→Ok σ'→RepT σ' (TD.ers (lk H') a) a'→Q .normal a' σ'.w)→wpOps P ops Q (List.range' p 5) act σ.w:=by
 unfold Zyg at h;split at h
 ·rename_i o1 o2 o3 o4 o5;obtain⟨⟨t,m,k,t0⟩,h1,h⟩:=yc.1 h;obtain⟨t1,h2,h⟩:=yc.1 h;obtain⟨⟨c,y,tt,u,t2⟩,h3,h⟩:=yc.1 h;obtain⟨t3,h4,h⟩:=yc.1 h;obtain⟨⟨t5,m5⟩,h5,h⟩:=yc.1 h;obtain⟨hq,h⟩:=Za h;obtain⟨a1,a2,a3⟩:=ZzK h1;obtain⟨b1,b2,b3⟩:=ZqT h2;obtain⟨c1,c2,c3,c4,c5,c6⟩:=ZzL h3;obtain⟨d1,d2,d3⟩:=ZqT h4;obtain⟨e1,e2,e3⟩:=ZzM h5;simp only[yi,decide_eq_true_eq] at hq;obtain⟨⟨⟨⟨⟨⟨q1,q2⟩,q3⟩,q4⟩,q5⟩,q6⟩,q7⟩:=hq;dsimp only at h a1 a2 b1 c1 c2 c3 c4 c5 d1 e1 q1 q2 q3 q4 q5 q6 q7;unfold ZG2 at h;split at h
  ·rename_i kt et id id' e hu hm hm5 htt;obtain⟨me,f1,h⟩:=yc.1 h;obtain⟨kd,f2,h⟩:=yc.1 h;obtain⟨key,f3,h⟩:=yc.1 h;obtain⟨z,f4,h⟩:=yc.1 h;split at h
   ·rename_i zt;obtain⟨i,f5,h⟩:=yc.1 h;obtain⟨T,f6,h⟩:=yc.1 h;obtain⟨yd,f7,h⟩:=yc.1 h;obtain⟨ys,f8,h⟩:=yc.1 h;obtain⟨v,f9,h⟩:=yc.1 h;obtain⟨f10,h99⟩:=Za h;clear h;simp only[yi,decide_eq_true_eq] at f10;obtain⟨⟨⟨⟨⟨⟨⟨r1,r2⟩,r3⟩,r4⟩,r5⟩,r6⟩,r7⟩,r8⟩:=f10;subst r1;obtain⟨g1,g2⟩:=QZ f1;have hle:=List.isEmpty_iff.1 r2;have hlk:lk (H.set id (.map me.tid me.k me.v [(key,v)]))=lk H:=XR g1 rfl rfl;have hv:Pl.sl none T.size (ys.map T.enc)=me.v.enc v:=Zec _ _ _ f9;refine⟨_,_,h99,by simp,rfl,λQ act σ ok hH hrep hQ=> ?_⟩;have hk:=Zm (L:=lk H) f2;rw[Zgi f3] at hk;have hmm:=Zm (L:=lk H) hm;rw[TD.er] at hmm;have hm5':=Zm (L:=lk H) hm5;rw[TD.er] at hm5';have hy:=Zm (L:=lk H) f7;rw[hle] at g2;obtain⟨s1,s2⟩:=Vo r8
    refine ZD1 (P:=P) (σ:=σ) (ts:=TD.ers (lk H) all) (a:=act) (Q:=Q) (p:=p) (o1:=o1) (o2:=o2) (o3:=o3) (o4:=o4) (o5:=o5) (by simpa using hops 0 o1 rfl) (hops 1 o2 rfl) (hops 2 o3 rfl) (hops 3 o4 rfl) (hops 4 o5 rfl)
     a3 b3 c6 d3 e3 a1 a2 b1 b2 c1 c2 c3 c4 c5 d1 d2 e1 e2 q1 q2 q3 (by rw[Zc8];exact q4) (by rw[Zc8];exact q5) (by rw[Zc8];exact q6) (by rw[Zc8];exact q7)
     ok hrep (kk:=me.k.enc key) (tm:=me.tid) (s0:=zt.size) (ys:=ys.map T.enc) (i:=i) hu hmm hk (by rw[hH];exact g2) (ZkL r3) (Qg r3 key) r4 (Zeg f4) htt f5 r5 r6 ?_ (by rw[yw];exact s1) (by rw[yw];exact s2) ?_ ?_
    ·rw[Zao,Zao] at hy;rw[r7];rw[show(Dv.junk)=TD.er (lk H) .junk from rfl,hy]
     exact ZeR f8
    ·rw[Zao,Zao,Zao,Zao] at hm5';exact hm5'
    ·intro a' σ' w1 w2 w3 w4;refine hQ a' σ' ?_ w2 w3 ?_
     ·rw[Yl hlk,w1,hH,r7,hv];rfl
     ·rw[hlk,Zao,Zao,Zao,Zao];exact w4
   ·cases h
  ·cases h
 ·cases h
def ZFW(ops:Array Oper):Bool:=
 match ops.toList.drop (ops.size - 5) with
 |[o1,_,_,_,_]=>(ZD2 o1).isSome
 |_=>false
theorem ZzN{hi:HI}{specs:Sp P}{ops:Array Oper}{K:List TD→List TEnt→Option O}(ok:SpOk specs)
 (h:ZwF P hi specs ops (ops.toList.take (ops.size - 5)) all H (λa h _=>Zyg P (ops.toList.drop (ops.size - 5)) a h K)=some out):
 ∃a h,K a h=some out∧a.length=all.length∧∀id,Xr P (.region id ops false) (TD.ers (lk H) all) (erH H) .normal (TD.ers (lk h) a) (erH h):=by
 obtain⟨a,h',hs,C,k1,k0,k2,k3⟩:=ZkO ok _ _ _ _ h
 have hops:∀(j:Nat)(x:Oper),(ops.toList.drop (ops.size - 5))[j]? =some x→ops[(ops.size - 5)+j]? =some x:=λj x hj=>by
  rw[List.getElem?_drop] at hj;simpa using hj
 obtain⟨a2,h2,j1,j2,j3,j4⟩:=ZwH hops k1;refine⟨a2,h2,j1,by rw[j2,k0],λid=> ?_⟩;intro σ act okσ hH hrep;refine wp_region ?_;have e0:=k3 [];rw[ybl] at e0
 have hl:ops.size=(ops.size - 5)+5:=by
  rw[List.length_drop,Array.length_toList] at j3;omega
 have hr:yv ops.size=List.range' 0 (ops.toList.take (ops.size - 5)).length++List.range' (ops.size - 5) 5:=by
  rw[List.length_take,Array.length_toList,Nat.min_eq_left (by omega),List.range_eq_range']
  conv=>lhs;rw[hl]
  have:=List.range'_append (s:=0) (m:=ops.size - 5) (n:=5) (step:=1);simp only[yba,Nat.one_mul] at this;exact this.symm
 rw[hr];refine Zol (P:=P) (ops:=ops) _ (List.range' (ops.size - 5) 5) _ 0 _ σ act hs [] C _ (λj x hj=> ?_) okσ hrep (by rw[hH];exact e0) k2 ?_
 ·rw[ycg] at hj;split at hj
  ·simpa using hj
  ·cases hj
 ·intro a' σ' e1 to1 ok1 hrep1;refine j4 _ a' σ' ok1 e1 hrep1 λa'' σ'' e2 to2 ok2 hrep2=> ?_;exact⟨rfl,σ'',rfl,e2,to1.trans to2,ok2,hrep2⟩
end
end Go.Ev
end
section
namespace Go.Ev
def YJ(H H':List Ent):Prop:=∀σ:Sg,Ok σ→σ.H=H→∃σ':Sg,σ'.w=σ.w∧σ'.H=H'∧To σ σ'∧Ok σ'
theorem YJ.refl(H:List Ent):YJ H H:=λσ ok h=>⟨σ,rfl,h,To.refl σ,ok⟩
theorem YJ.trans{A B C:List Ent}(h:YJ A B)(k:YJ B C):YJ A C:=λσ ok e=>by
 obtain⟨σ1,a1,a2,a3,a4⟩:=h σ ok e;obtain⟨σ2,b1,b2,b3,b4⟩:=k σ1 a4 a2;exact⟨σ2,b1.trans a1,b2,a3.trans b3,b4⟩
theorem Zyh{H H':List Ent}(h:WkH H H'):YJ H H':=λσ ok e=>by
 subst e;obtain⟨to,ok'⟩:=ZhE ok h;exact⟨{ σ with H:=H'},rfl,rfl,to,ok'⟩
theorem ZD4{P:yg}{c:Code}{ts ts1 ts2:List Dv}{H H1 H2:List Ent}{ex:Ex}(h:YJ H H1∧∀(σ:Sg)(a:Act),RepT σ ts a→RepT σ ts1 a)(r:Xr P c ts1 H1 ex ts2 H2):Xr P c ts H ex ts2 H2:=by
 intro σ a ok hH hrep;obtain⟨σ1,e1,e2,e3,e4⟩:=h.1 σ ok hH;have:=r σ1 a e4 e2 (h.2 _ _ (hrep.to e3.leaf));rw[e1] at this;refine wp_mono this ?_;rintro e' a' w' ⟨rfl,σ2,q1,q2,q3,q4,q5⟩;exact⟨rfl,σ2,q1,q2,e3.trans q3,q4,q5⟩
theorem ZwI{H:List Ent}{j:Nat}{x x' y:Ent}(hj:H[j]? =some x)
 (hy:∀σ:Sg,entOk σ none y)
 (hvar:(∃d st,x=.var d st)→∃d st,x'=.var d st) (hmap:(∃t kvs,x=.map t kvs)→∃t kvs,x'=.map t kvs) (hlog:∀s e xs,x≠ .log s e xs)
 (hunl:∀o,x.unlocked o→x'.unlocked o)
 (hrow:∀v s st e d,x=.row v s st e d→∃st' d',x'=.row v s st' e d')
 (hent:∀(σ:Sg)(mi:Option Nat),σ.H[H.length]? =some y→σ.m[H.length]? =some none→entOk σ mi x→entOk σ mi x'):YJ H ((H++[y]).set j x'):=by
 intro σ ok hH;subst hH;have hjl:j < σ.H.length:=(yq.1 hj).1;obtain⟨to1,ok1⟩:=XJ (σ':={ σ with m:=σ.m++[none],H:=σ.H++[y]}) ok rfl rfl rfl rfl (World.grownBy.refl σ.w none) (.inl rfl) (λ_=>hy _);obtain⟨mi,hm⟩:∃mi,σ.m[j]? =some mi:=⟨_,yaf (by rw[ok.len];exact hjl)⟩;let σ1:Sg:={ σ with m:=σ.m++[none],H:=σ.H++[y]};let σ2:Sg:={ σ1 with m:=σ1.m.set j mi,H:=σ1.H.set j x'}
 have hH1:σ1.H[j]? =some x:=by
  show(σ.H++[y])[j]? =_;rw[yam hjl];exact hj
 have hm1:σ1.m[j]? =some mi:=by
  show(σ.m++[none])[j]? =_;rw[yam (by rw[ok.len];exact hjl)];exact hm
 have hx:=ok1.ent j x mi hH1 hm1
 obtain⟨to2,ok2⟩:=YL (σ':=σ2) (mi:=mi) (mi':=mi) ok1 hH1 hm1 rfl rfl rfl rfl rfl rfl rfl (yn _)
  (λ_ _ _=>rfl) (λ_ _ _ _ _ h=>h) (λo _ hu=>hunl o hu) (.inl rfl) (λq=>⟨rfl,hvar q⟩) (λq=>⟨rfl,hmap q⟩) (λs e xs q=>absurd q (hlog s e xs))
  (λleaf=>by
    refine hent σ2 mi ?_ ?_ (QS leaf (λb _=>rfl) hx)
    ·show(σ1.H.set j _)[σ.H.length]? =_;rw[ybo,if_neg (by omega)];simp[σ1]
    ·show(σ1.m.set j _)[σ.H.length]? =_;rw[ybo,if_neg (by omega)];show(σ.m++[none])[σ.H.length]? =_;rw[yar (by rw[ok.len];exact yn _),ok.len];simp)
  (λv s st e d q=>by
    obtain⟨st',d',q'⟩:=hrow v s st e d q;exact⟨v,st',d',q',yn _,λ_=>⟨rfl,λb cur _ hc=>⟨cur,hc,rfl⟩⟩⟩)
 exact⟨σ2,rfl,rfl,to1.trans to2,ok2⟩
theorem ZkQ{σ:Sg}{s:Nat}{a:List yh}(h:repD σ (.p (.sl (some false) s [])) a):a=[.slice none 0 0]:=by
 simp only[repD,repC] at h;obtain⟨_,A,c,rfl,w1,w2,w3,w4,w5⟩:=h
 have hA:A=none:=by
  have:=w3 false rfl
  cases A with
  |none=>rfl
  |some _=>cases this
 subst hA;have hc:=w4 rfl;subst hc;rfl
theorem Zyi{H:List Ent}{j s:Nat}{e:yb}{d d':Dv}{st:Bool}{path:List Nat}(hj:H[j]? =some (.var d st))(hg:YA d path s (.rv H.length 0 s 0 0)=some d'):
 YJ H ((H++[Ent.row 0 s true e (.p (.arr 0 s []))]).set j (.var d' st)):=by
 have hsz:=W8 path d d' s _ rfl hg;refine ZwI hj (λσ=>⟨0,by simp[rowN],.inl ⟨rfl,rfl⟩⟩) (λ_=>⟨_,_,rfl⟩) (λ⟨_,_,q⟩=>by cases q) (λ_ _ _ q=>by cases q) (λo hu=>hu) (λ_ _ _ _ _ q=>by cases q) ?_;rintro σ mi h1 h2 ⟨b,cs,t,rfl,q2,q3,q4⟩;refine⟨b,cs,t,rfl,q2, ?_,by rw[hsz];exact q4⟩;rw[hsz];refine VV path d d' s _ (λa ha=> ?_) hg _ q3;have:=ZkQ ha;subst this;simp only[repD];exact⟨none,0,rfl,yn _,by simp[maxLen],λ_=>rfl,λh=>absurd h (Nat.lt_irrefl 0),0,s,true,e,_,h1,yn _,λ_=>⟨rfl,.inl ⟨h2,rfl,rfl⟩⟩⟩
theorem ZBI{H:List Ent}{j s s' v N:Nat}{st:Bool}{e e':yb}{xs:List Pl}{k:Nat}{x:Pl}{y:Dv}{path:List Nat}(hj:H[j]? =some (.row v s st e (.p (.arr N s xs))))(hx:xs[k]? =some x)
 (hg:YA (.p x) path s' (.own H.length none s' [])=some y):YJ H ((H++[Ent.log s' e' []]).set j (.row v s st e (.arr N s ((xs.map .p).set k y)))):=by
 have hsz:=W8 path (.p x) y s' _ rfl hg;refine ZwI hj (λσ=>.inl ⟨rfl,rfl⟩) (λ⟨_,_,q⟩=>by cases q) (λ⟨_,_,q⟩=>by cases q) (λ_ _ _ q=>by cases q) (λo hu=> ?_) (λv2 s2 st2 e2 d2 q=>by cases q;exact⟨_,_,rfl⟩) ?_
 ·obtain⟨u1,N',u2,u3⟩:=hu;exact⟨u1,N',by rw[←u2];simp[rowN],u3⟩
 rintro σ mi h1 h2 ⟨N',q1,q2⟩;refine⟨N',by rw[←q1];simp[rowN], ?_⟩;rcases q2 with q2|⟨b,cur,cap,e3,e4,e5,e6,e7,e8⟩
 ·exact .inl q2
 refine .inr ⟨b,cur,cap,e3,e4,e5,e6,e7, ?_⟩;have hk:(xs.map Dv.p)[k]? =some (.p x):=by rw[yan,hx];rfl
 simp only[repD,repC] at e8 ⊢;obtain⟨r1,r2,r3⟩:=e8;refine⟨by simpa using r1,λz hz=> ?_, ?_⟩
 ·rcases List.mem_or_eq_of_mem_set hz with hz|hz
  ·obtain⟨w,hw,rfl⟩:=ybr.1 hz;exact r2 w hw
  ·subst hz;rw[hsz];exact r2 x (ybu hx)
 ·refine Zd9 (x:=.p x) (y:=y) (λa ha=>VV path (.p x) y s' _ (λa ha=> ?_) hg a ha) _ k _ hk (Zbq.2 r3);have:=ZkQ ha;subst this;simp only[repD];exact⟨λ_ hx=>(by cases hx),none,0,rfl,yn _,by simp[maxLen],ZQ _,λ_=>rfl,λh=>absurd rfl h,e',[],h1,yn _,λ_=>.inl ⟨h2,rfl,rfl⟩⟩
theorem ZD5{H:List Ent}{j:Nat}{d d':Dv}{st:Bool}(hj:H[j]? =some (.var d st))(hsz:d'.size=d.size)(hd:∀σ:Sg,Ok σ→σ.H=H→∀us,repD σ d us→repD σ d' us):YJ H (H.set j (.var d' st)):=by
 intro σ ok hH;subst hH;have hjl:j < σ.H.length:=(yq.1 hj).1;obtain⟨mi,hm⟩:∃mi,σ.m[j]? =some mi:=⟨_,yaf (by rw[ok.len];exact hjl)⟩;let σ2:Sg:={ σ with m:=σ.m.set j mi,H:=σ.H.set j (.var d' st)};obtain⟨b,cs,t,rfl,q2,q3,q4⟩:=ok.ent j _ mi hj hm;have q5:=hd σ ok rfl _ q3
 obtain⟨to2,ok2⟩:=YL (σ':=σ2) (mi:=some b) (mi':=some b) ok hj hm rfl rfl rfl rfl rfl rfl rfl (yn _)
  (λ_ _ _=>rfl) (λ_ _ _ _ _ h=>h) (λo _ hu=>hu) (.inl rfl) (λq=>⟨rfl,_,_,rfl⟩) (λ⟨_,_,q⟩=>by cases q) (λs e xs q=>by cases q)
  (λleaf=>⟨b,cs,t,rfl,q2,by rw[hsz];exact ZW leaf _ _ q5,by rw[hsz];exact q4⟩)
  (λv s st e d q=>by cases q)
 exact⟨σ2,rfl,rfl,to2,ok2⟩
def ZFX{α O:Type}(l:List α)(f:α→List α→Option O):Option O:=match l with
 |x::r=>f x r
 |[]=>none
inductive GOp where
 |rows (t:Tmp) (path:List Nat) (T:Ty) (e:yb) (np:List Nat)
 |focus (t:Tmp) (U:Ty) (e:yb)
 |done (t:Tmp)
 |fresh (t:Tmp) (i:Nat)
 |rowt (t:Tmp) (path:List Nat) (T:Ty) (e:yb)
 |freshS (t:Tmp)
 |freshV (t:Tmp)
 |freshDone (t:Tmp) (i:Nat)
 |any (t:Tmp) (i:Nat) (T:Ty)
 |melt (t:Tmp)
 |split (t:Tmp) (ks:List Nat)
 |nn (t:Tmp)
 |hole
 |flat (t:Tmp)
 |nilr (path:List Nat) (U:Ty) (e:yb)
def ZBJ:TEnt→Bool
 |.rowN _ _ _ true _ _ _=>true
 |_=>false
section
variable{O:Type}{out:O}
abbrev Kh(O:Type):=List TD→List TEnt→Option O
def ZwJ(t:Tmp)(path:List Nat)(T:Ty)(e:yb)(np:List Nat)(a:List TD)(h:List TEnt)(K:Kh O):Option O:=
 match a[t]? with
 |some (.ref id [])=>match h[id]? with
  |some (.var d true)=>(Za1 T (.rw h.length) path d).bind λd'=>if(TD.frees h.length a&&h.all (TEnt.free h.length))=true then K a ((h++[TEnt.rowN T np [] true e [] []]).set id (.var d' true)) else none
  |_=>none
 |_=>none
def ZwK(t:Tmp)(path:List Nat)(T:Ty)(e:yb)(a:List TD)(h:List TEnt)(K:Kh O):Option O:=
 match a[t]? with
 |some (.ref id [])=>match h[id]? with
  |some (.var d true)=>(Za1 T (.rw h.length) path d).bind λd'=>if(TD.frees h.length a&&h.all (TEnt.free h.length))=true then K a ((h++[TEnt.rowT T [] true e []]).set id (.var d' true)) else none
  |_=>none
 |_=>none
def Zsz(t:Tmp)(U:Ty)(e:yb)(a:List TD)(h:List TEnt)(K:Kh O):Option O:=
 let j:=h.findIdx ZBJ
 match h[j]?,((a[t]?).bind TD.num) with
 |some (.rowN T np v true e' pre post),some i=>if(TD.frees h.length a&&h.all (TEnt.free h.length))=true then if decide (i.n=(pre.length:Int))=true then ZFX post λx r=>
   (Za1 U (.own h.length none U none) np (.p (YP np (.v T x)))).bind λd=>K a ((h++[TEnt.log U e []]).set j (.rowM T np v true e' pre d r)) else none else none
 |_,_=>none
def ZuP(h:List TEnt):TD→Option (TD×List Nat)
 |.rw j=>match h[j]? with
  |some (.rowN T _ _ _ _ pre [])=>some (.p (.sl none T pre),[j])
  |some (.rowT T _ _ _ l)=>some (.p (.sl none T l),[j])
  |_=>none
 |d=>some (d,[])
def ZBK(h:List TEnt):TD→(TD→List Nat→Option O)→Option O
 |.rw j,K=>match h[j]? with
  |some (.rowN T _ _ _ _ pre post)=>if post.isEmpty=true then K (.p (.sl none T pre)) [j] else none
  |some (.rowT T _ _ _ l)=>K (.p (.sl none T l)) [j]
  |_=>none
 |d,K=>K d []
theorem ZwL{h:List TEnt}{d:TD}{K:TD→List Nat→Option O}(k:ZBK h d K=some out):∃q,ZuP h d=some q∧K q.1 q.2=some out:=by
 unfold ZBK at k;unfold ZuP;split at k
 ·rename_i j;dsimp only;split at k
  ·rename_i T np v st e pre post hd;rw[hd];obtain⟨h1,k⟩:=Za k
   cases post with
   |nil=>exact⟨_,rfl,k⟩
   |cons _ _=>cases h1
  ·rename_i T v st e l hd;rw[hd];exact⟨_,rfl,k⟩
  ·cases k
 ·rename_i hne;refine⟨(d,[]), ?_,k⟩;cases d <;> first|rfl|exact absurd rfl (hne _)
def ZwM(h:List TEnt):List TD→(List TD→List Nat→Option O)→Option O
 |[],K=>K [] []
 |d::r,K=>ZBK h d λx l=>ZwM h r λy m=>K (x::y) (l++m)
def Zom(h:List TEnt):List TD→Option (List TD×List Nat)
 |[]=>some ([],[])
 |d::r=>match ZuP h d,Zom h r with
  |some q,some w=>some (q.1::w.1,q.2++w.2)
  |_,_=>none
theorem ZlI{h:List TEnt}:∀{ds:List TD}{K:List TD→List Nat→Option O},ZwM h ds K=some out→∃q,Zom h ds=some q∧K q.1 q.2=some out
 |[],K,k=>⟨_,rfl,k⟩
 |d::r,K,k=>by
  obtain⟨q,h1,k⟩:=ZwL k;obtain⟨w,h2,k⟩:=ZlI k;exact⟨(q.1::w.1,q.2++w.2),by simp only[Zom,h1,h2],k⟩
def Zgn:TEnt→TEnt
 |.rowN T np v _ e a b=>.rowN T np v false e a b
 |.rowT t v _ e l=>.rowT t v false e l
 |e=>e
def Q4(ids:List Nat)(H:List TEnt):List TEnt:=(yv H.length).zipWith (λi e=>if ids.contains i then Zgn e else e) H
def Zon(t:Tmp)(a:List TD)(h:List TEnt)(K:Kh O):Option O:=
 match a[t]? with
 |some (.ref id [])=>match h[id]? with
  |some (.var (.agg ds) st)=>ZwM h ds λx l=>K a ((Q4 l h).set id (.var (.agg x) st))
  |_=>none
 |_=>none
def ZmZ(t:Tmp)(i:Nat)(a:List TD)(h:List TEnt)(K:Kh O):Option O:=
 match a[t]? with
 |some (.ref j [])=>match h[j]? with
  |some (.var (.agg ds) st)=>match ds[i]? with
   |some (.rv id v s 0 n)=>match h[id]? with
    |some (.rowT T w _ _ l)=>if(decide (v=w.length)&&(decide (s=T.size)&&decide (n=l.length)))=true then K a (h.set j (.var (.agg (ds.set i (.rw id))) st)) else none
    |_=>none
   |_=>none
  |_=>none
 |_=>none
def Zoo(t:Tmp)(a:List TD)(h:List TEnt)(K:Kh O):Option O:=
 match a[t]? with
 |some (.rv id v s 0 n)=>match h[id]? with
  |some (.rowT T w _ _ l)=>if(decide (v=w.length)&&(decide (s=T.size)&&decide (n=l.length)))=true then K (a.set t (.rw id)) h else none
  |_=>none
 |_=>none
def Zop(t:Tmp)(a:List TD)(h:List TEnt)(K:Kh O):Option O:=
 match a[t]? with
 |some (.ref j [])=>match h[j]? with
  |some (.var (.rv id v s 0 n) st)=>match h[id]? with
   |some (.rowT T w _ _ l)=>if(decide (v=w.length)&&(decide (s=T.size)&&decide (n=l.length)))=true then K a (h.set j (.var (.rw id) st)) else none
   |_=>none
  |_=>none
 |_=>none
def ZBL(t:Tmp)(i:Nat)(T:Ty)(a:List TD)(h:List TEnt)(K:Kh O):Option O:=
 match a[t]? with
 |some (.ref j [])=>match h[j]? with
  |some (.var (.agg ds) st)=>match ds[i]? with
   |some (.p x)=>(TP.to Zgf x T).bind λy=>K a (h.set j (.var (.agg (ds.set i (.p (.v T y)))) st))
   |_=>none
  |_=>none
 |_=>none
def ZwN(t:Tmp)(a:List TD)(h:List TEnt)(K:Kh O):Option O:=
 match a[t]? with
 |some (.ref j [])=>match h[j]? with
  |some (.var (.p (.arr n s xs)) st)=>K a (h.set j (.var (.arr n s (xs.map TD.p)) st))
  |_=>K a h
 |_=>K a h
def ZsA(z:Int)(t:Tmp)(a:List TD)(h:List TEnt)(K:Kh O):List Nat→Option O
 |[]=>none
 |n::r=>if(z==(n:Int))=true then K (a.set t (.p (.v (.int .i64) (n:Int)))) h else ZsA z t a h K r
def ZsB(t:Tmp)(ks:List Nat)(a:List TD)(h:List TEnt)(K:Kh O):Option O:=
 match a.getD t .junk with
 |.p (.v (.int .i64) z)=>ZsA z t a h K ks
 |_=>none
def ZFY(t:Tmp)(a:List TD)(h:List TEnt)(K:Kh O):Option O:=
 match a.getD t .junk with
 |.ref _ _=>K a h
 |_=>none
def ZFZ(a:List TD)(h:List TEnt)(K:Kh O):Option O:=K a (h++[.gone])
def ZwO(t:Tmp)(a:List TD)(h:List TEnt)(K:Kh O):Option O:=
 match a[t]? with
 |some (.ref j [])=>match h[j]? with
  |some (.var d st)=>(d.flat (lk h)).bind λx=>K a (h.set j (.var (.p x) st))
  |_=>none
 |_=>none
def ZBM(path:List Nat)(U:Ty)(e:yb)(j:Nat)(a:List TD)(h:List TEnt)(K:Kh O):Option O:=
 match h[j]? with
 |some (.row v s true e0 (.arr n s2 [x]))=>match Za1 U (.own h.length none U none) path x with
  |some y=>if(decide (s=s2)&&(TD.frees h.length a&&h.all (TEnt.free h.length)))=true then K a ((h++[TEnt.log U e []]).set j (.row v s true e0 (.arr n s2 [y]))) else none
  |none=>K a h
 |_=>K a h
def ZsC(path:List Nat)(U:Ty)(e:yb):List Nat→List TD→List TEnt→Kh O→Option O
 |[],a,h,K=>K a h
 |j::r,a,h,K=>ZBM path U e j a h λa h=>ZsC path U e r a h K
def ghT:GOp→List TD→List TEnt→Kh O→Option O
 |.rows t path T e np,a,h,K=>ZwJ t path T e np a h K
 |.focus t U e,a,h,K=>Zsz t U e a h K
 |.done t,a,h,K=>Zon t a h K
 |.fresh t i,a,h,K=>ZmZ t i a h K
 |.rowt t path T e,a,h,K=>ZwK t path T e a h K
 |.freshS t,a,h,K=>Zoo t a h K
 |.freshV t,a,h,K=>Zop t a h K
 |.freshDone t i,a,h,K=>ZmZ t i a h λa h=>Zon t a h K
 |.any t i T,a,h,K=>ZBL t i T a h K
 |.melt t,a,h,K=>ZwN t a h K
 |.split t ks,a,h,K=>ZsB t ks a h K
 |.nn t,a,h,K=>ZFY t a h K
 |.hole,a,h,K=>ZFZ a h K
 |.flat t,a,h,K=>ZwO t a h K
 |.nilr path U e,a,h,K=>ZsC path U e (yv h.length) a h K
def ghO(g:Option GOp)(a:List TD)(h:List TEnt)(K:Kh O):Option O:=
 match g with
 |none=>K a h
 |some g=>ghT g a h K
theorem ZjB{H:List TEnt}{e:TEnt}(h:H.all (TEnt.free H.length)=true):erH (H++[e])=erH H++[e.er (lk (H++[e]))]:=by
 unfold erH;rw[yak];congr 1;refine ycj λx hx=> ?_;have hf:=ybc.1 h x hx;exact(Zuv (λid t hn=>Qf id t hn) x hf).symm
theorem Zm0{H:List TEnt}{e:TEnt}{a:List TD}(h:TD.frees H.length a=true):TD.ers (lk (H++[e])) a=TD.ers (lk H) a:=(ers_free (λid t hn=>Qf id t hn) a h).symm
theorem ZuQ{t:Tmp}{path:List Nat}{T:Ty}{e:yb}{np:List Nat}{a:List TD}{h:List TEnt}{K:Kh O}(k:ZwJ t path T e np a h K=some out):
 ∃a' h',K a' h'=some out∧a'.length=a.length∧YJ (erH h) (erH h')∧∀(σ:Sg)(act:Act),RepT σ (TD.ers (lk h) a) act→RepT σ (TD.ers (lk h') a') act:=by
 unfold ZwJ at k;split at k
 ·rename_i id hid;split at k
  ·rename_i d hd;obtain⟨d',h1,k⟩:=yc.1 k;obtain⟨h2,k⟩:=Za k;rw[yi] at h2;have hlt:id < h.length:=(yq.1 hd).1;have hd':(h++[TEnt.rowN T np [] true e [] []])[id]? =some (.var d true):=by rw[yam hlt];exact hd
   have hL:lk ((h++[TEnt.rowN T np [] true e [] []]).set id (.var d' true))=lk (h++[TEnt.rowN T np [] true e [] []]):=XR hd' rfl rfl;refine⟨_,_,k,rfl, ?_,λσ act r=> ?_⟩
   ·have e1:erH ((h++[TEnt.rowN T np [] true e [] []]).set id (.var d' true))=(erH h++[Ent.row 0 T.size true e (.p (.arr 0 T.size []))]).set id (.var (d'.er (lk (h++[TEnt.rowN T np [] true e [] []]))) true):=by
     rw[Yl hL,ZjB h2.2];rfl
    rw[e1];have hj:(erH h)[id]? =some (.var (d.er (lk h)) true):=by rw[ZL hd];rfl
    refine Zyi (path:=path) hj ?_;have e2:=Q2 (L:=lk (h++[TEnt.rowN T np [] true e [] []])) path d d' h1;have e3:d.er (lk (h++[TEnt.rowN T np [] true e [] []]))=d.er (lk h):=(Zan (λid t hn=>Qf id t hn) d (ybc.1 h2.2 _ (ybu hd))).symm;rw[e3,(Zbw (q:=(0,T.size,0)) (x:=.rowN T np [] true e [] []) (List.getElem?_concat_length ..) rfl).1] at e2;rw[Zy];exact e2
   ·rw[hL,Zm0 h2.1];exact r
  ·cases k
 ·cases k
theorem ZuR{t:Tmp}{path:List Nat}{T:Ty}{e:yb}{a:List TD}{h:List TEnt}{K:Kh O}(k:ZwK t path T e a h K=some out):
 ∃a' h',K a' h'=some out∧a'.length=a.length∧YJ (erH h) (erH h')∧∀(σ:Sg)(act:Act),RepT σ (TD.ers (lk h) a) act→RepT σ (TD.ers (lk h') a') act:=by
 unfold ZwK at k;split at k
 ·rename_i id hid;split at k
  ·rename_i d hd;obtain⟨d',h1,k⟩:=yc.1 k;obtain⟨h2,k⟩:=Za k;rw[yi] at h2;have hlt:id < h.length:=(yq.1 hd).1;have hd':(h++[TEnt.rowT T [] true e []])[id]? =some (.var d true):=by rw[yam hlt];exact hd
   have hL:lk ((h++[TEnt.rowT T [] true e []]).set id (.var d' true))=lk (h++[TEnt.rowT T [] true e []]):=XR hd' rfl rfl;refine⟨_,_,k,rfl, ?_,λσ act r=> ?_⟩
   ·have e1:erH ((h++[TEnt.rowT T [] true e []]).set id (.var d' true))=(erH h++[Ent.row 0 T.size true e (.p (.arr 0 T.size []))]).set id (.var (d'.er (lk (h++[TEnt.rowT T [] true e []]))) true):=by
     rw[Yl hL,ZjB h2.2];rfl
    rw[e1];have hj:(erH h)[id]? =some (.var (d.er (lk h)) true):=by rw[ZL hd];rfl
    refine Zyi (path:=path) hj ?_;have e2:=Q2 (L:=lk (h++[TEnt.rowT T [] true e []])) path d d' h1;have e3:d.er (lk (h++[TEnt.rowT T [] true e []]))=d.er (lk h):=(Zan (λid t hn=>Qf id t hn) d (ybc.1 h2.2 _ (ybu hd))).symm;rw[e3,(QJ (T:=T) (v:=[]) (l:=[]) (List.getElem?_concat_length ..)).1] at e2;rw[Zy];exact e2
   ·rw[hL,Zm0 h2.1];exact r
  ·cases k
 ·cases k
theorem ZsD{t:Tmp}{U:Ty}{e:yb}{a:List TD}{h:List TEnt}{K:Kh O}(k:Zsz t U e a h K=some out):
 ∃a' h',K a' h'=some out∧a'.length=a.length∧YJ (erH h) (erH h')∧∀(σ:Sg)(act:Act),RepT σ (TD.ers (lk h) a) act→RepT σ (TD.ers (lk h') a') act:=by
 unfold Zsz at k;dsimp only at k;generalize h.findIdx ZBJ=j at k;split at k
 ·rename_i T np v e' pre post i hd hi;obtain⟨h2,k⟩:=Za k;obtain⟨_,k⟩:=Za k;simp only[yi] at h2;obtain⟨h2,h3⟩:=h2
  cases post with
  |nil=>cases k
  |cons x r=>
   have k:((Za1 U (.own h.length none U none) np (.p (YP np (.v T x)))).bind λd=>K a ((h++[TEnt.log U e []]).set j (.rowM T np v true e' pre d r)))=some out:=k;obtain⟨d,h1,k⟩:=yc.1 k;have hlt:j < h.length:=(yq.1 hd).1;have hd':(h++[TEnt.log U e []])[j]? =some (.rowN T np v true e' pre (x::r)):=by rw[yam hlt];exact hd
   have hL:lk ((h++[TEnt.log U e []]).set j (.rowM T np v true e' pre d r))=lk (h++[TEnt.log U e []]):=Zsr hd' rfl;refine⟨_,_,k,rfl, ?_,λσ act rr=> ?_⟩
   ·have e1:erH ((h++[TEnt.log U e []]).set j (.rowM T np v true e' pre d r))=(erH h++[Ent.log U.size e []]).set j (.row v.length T.size true e' (.arr (pre.length+(r.length+1)) T.size (((pre.map T.enc++(x::r).map λx=>(YP np (.v T x)).pe).map .p).set pre.length (d.er (lk (h++[TEnt.log U e []])))))):=by
     rw[Yl hL,ZjB h3];have hm:=Zx3 (pre.map λx=>Dv.p (T.enc x)) (r.map λx=>.p (YP np (.v T x)).pe) (.p (YP np (.v T x)).pe) (d.er (lk (h++[TEnt.log U e []])));rw[yw] at hm
     have hm2:((pre.map T.enc++(x::r).map λx=>(YP np (.v T x)).pe).map Dv.p).set pre.length (d.er (lk (h++[TEnt.log U e []])))=(pre.map λx=>Dv.p (T.enc x))++d.er (lk (h++[TEnt.log U e []]))::r.map λx=>.p (YP np (.v T x)).pe:=by
      rw[yak,yaz,yaz];exact hm
     rw[hm2];rfl
    rw[e1];have hj:(erH h)[j]? =some (.row v.length T.size true e' (.p (.arr (pre.length+(r.length+1)) T.size (pre.map T.enc++(x::r).map λx=>(YP np (.v T x)).pe)))):=by rw[ZL hd];rfl
    have hx:(pre.map T.enc++(x::r).map λx=>(YP np (.v T x)).pe)[pre.length]? =some (YP np (.v T x)).pe:=by
     have:=Zss (pre.map T.enc) (r.map λx=>(YP np (.v T x)).pe) (YP np (.v T x)).pe;rw[yw] at this;exact this
    refine ZBI (path:=np) hj hx ?_;have e2:=Q2 (L:=lk (h++[TEnt.log U e []])) np _ d h1
    have e3:(TD.own h.length none U none).er (lk (h++[TEnt.log U e []]))=.own h.length none U.size []:=by
     rw[TD.er,Q1];rfl
    rw[e3,TD.er] at e2;rw[Zy];exact e2
   ·rw[hL,Zm0 h2];exact rr
 ·cases k
theorem ZD6{H:List Ent}{j s s' v N:Nat}{st:Bool}{e e':yb}{x y:Dv}{path:List Nat}(hj:H[j]? =some (.row v s st e (.arr N s [x])))
 (hg:YA x path s' (.own H.length none s' [])=some y):YJ H ((H++[Ent.log s' e' []]).set j (.row v s st e (.arr N s [y]))):=by
 have hsz:=W8 path x y s' _ rfl hg;refine ZwI hj (λσ=>.inl ⟨rfl,rfl⟩) (λ⟨_,_,q⟩=>by cases q) (λ⟨_,_,q⟩=>by cases q) (λ_ _ _ q=>by cases q) (λo hu=> ?_) (λv2 s2 st2 e2 d2 q=>by cases q;exact⟨_,_,rfl⟩) ?_
 ·obtain⟨u1,N',u2,u3⟩:=hu;exact⟨u1,N',by rw[←u2];simp[rowN],u3⟩
 rintro σ mi h1 h2 ⟨N',q1,q2⟩;refine⟨N',by rw[←q1];simp[rowN], ?_⟩;rcases q2 with q2|⟨b,cur,cap,e3,e4,e5,e6,e7,e8⟩
 ·exact .inl q2
 refine .inr ⟨b,cur,cap,e3,e4,e5,e6,e7, ?_⟩;simp only[repD] at e8 ⊢;obtain⟨r1,r2,r3⟩:=e8;refine⟨by simpa using r1,λz hz=> ?_, ?_⟩
 ·have:z=y:=by simpa using hz
  subst this;rw[hsz];exact r2 x (yag.2 rfl)
 ·refine Zd9 (x:=x) (y:=y) (λa ha=>VV path x y s' _ (λa ha=> ?_) hg a ha) [x] 0 _ rfl r3;have:=ZkQ ha;subst this;simp only[repD];exact⟨λ_ hx=>(by cases hx),none,0,rfl,yn _,by simp[maxLen],ZQ _,λ_=>rfl,λh=>absurd rfl h,e',[],h1,yn _,λ_=>.inl ⟨h2,rfl,rfl⟩⟩
theorem ZwP{path:List Nat}{U:Ty}{e:yb}{j:Nat}{a:List TD}{h:List TEnt}{K:Kh O}(k:ZBM path U e j a h K=some out):
 ∃a' h',K a' h'=some out∧a'.length=a.length∧YJ (erH h) (erH h')∧∀(σ:Sg)(act:Act),RepT σ (TD.ers (lk h) a) act→RepT σ (TD.ers (lk h') a') act:=by
 unfold ZBM at k;split at k
 ·rename_i v s e0 n s2 x hd;split at k
  ·rename_i y h1;obtain⟨h2,k⟩:=Za k;simp only[yi,decide_eq_true_eq] at h2;obtain⟨hs,h2,h3⟩:=h2;subst hs;have hlt:j < h.length:=(yq.1 hd).1;have hd':(h++[TEnt.log U e []])[j]? =some (.row v s true e0 (.arr n s [x])):=by rw[yam hlt];exact hd
   have hL:lk ((h++[TEnt.log U e []]).set j (.row v s true e0 (.arr n s [y])))=lk (h++[TEnt.log U e []]):=Zsr hd' rfl;refine⟨_,_,k,rfl, ?_,λσ act rr=> ?_⟩
   ·have e1:erH ((h++[TEnt.log U e []]).set j (.row v s true e0 (.arr n s [y])))=(erH h++[Ent.log U.size e []]).set j (.row v s true e0 (.arr n s [y.er (lk (h++[TEnt.log U e []]))])):=by
     rw[Yl hL,ZjB h3];rfl
    rw[e1]
    have hj:(erH h++[Ent.log U.size e []])[j]? =some (.row v s true e0 (.arr n s [x.er (lk (h++[TEnt.log U e []]))])):=by
     have e3:erH (h++[TEnt.log U e []])=erH h++[Ent.log U.size e []]:=by rw[ZjB h3];rfl
     rw[←e3,ZL hd'];rfl
    rw[yam (by rw[Zy];exact hlt)] at hj;refine ZD6 (path:=path) hj ?_;have e2:=Q2 (L:=lk (h++[TEnt.log U e []])) path _ y h1
    have e3:(TD.own h.length none U none).er (lk (h++[TEnt.log U e []]))=.own h.length none U.size []:=by
     rw[TD.er,Q1];rfl
    rw[e3] at e2;rw[Zy];exact e2
   ·rw[hL,Zm0 h2];exact rr
  ·exact⟨_,_,k,rfl,YJ.refl _,λ_ _ r=>r⟩
 ·exact⟨_,_,k,rfl,YJ.refl _,λ_ _ r=>r⟩
theorem ZlJ{path:List Nat}{U:Ty}{e:yb}:∀{l:List Nat}{a:List TD}{h:List TEnt}{K:Kh O},ZsC path U e l a h K=some out→
 ∃a' h',K a' h'=some out∧a'.length=a.length∧YJ (erH h) (erH h')∧∀(σ:Sg)(act:Act),RepT σ (TD.ers (lk h) a) act→RepT σ (TD.ers (lk h') a') act
 |[],a,h,K,k=>⟨_,_,k,rfl,YJ.refl _,λ_ _ r=>r⟩
 |j::r,a,h,K,k=>by
  obtain⟨a1,h1,k,l1,g1,r1⟩:=ZwP (K:=λa h=>ZsC path U e r a h K) k;obtain⟨a2,h2,k,l2,g2,r2⟩:=ZlJ k;exact⟨a2,h2,k,l2.trans l1,g1.trans g2,λσ act r=>r2 σ act (r1 σ act r)⟩
theorem ZBN(e:TEnt):lkE (some (Zgn e))=lkE (some e):=by cases e <;> rfl
theorem ZeU(ids:List Nat)(H:List TEnt)(i:Nat):(Q4 ids H)[i]? =(H[i]?).map λe=>if ids.contains i then Zgn e else e:=by
 unfold Q4;rw[List.getElem?_zipWith];rcases ybt i H.length with h|h
 ·rw[List.getElem?_range h,yaf h];rfl
 ·rw[yaq (by simpa using h),yaq h];rfl
theorem ZqU(ids:List Nat)(H:List TEnt):lk (Q4 ids H)=lk H:=by
 funext i;unfold lk;rw[ZeU]
 cases H[i]? with
 |none=>rfl
 |some e=>
  show lkE (some (if ids.contains i=true then Zgn e else e))=_
  split
  ·exact ZBN e
  ·rfl
theorem ZzO(ids:List Nat)(H:List TEnt):WkH (erH H) (erH (Q4 ids H)):=by
 refine ZwA (by rw[Zy,Zy];unfold Q4;simp) λi a b h1 h2=> ?_;unfold erH at h1 h2;rw[yan] at h1 h2;rw[ZqU,ZeU] at h2
 cases he:H[i]? with
 |none=>rw[he] at h1;cases h1
 |some e=>
  rw[he] at h1 h2;cases h1;cases h2;show WkE (e.er (lk H)) (TEnt.er (lk H) (if ids.contains i=true then Zgn e else e))
  split
  ·cases e <;> first|exact .refl _|exact .lock
  ·exact .refl _
theorem ZBO{h H:List TEnt}{d:TD}{q:TD×List Nat}(hq:ZuP h d=some q)(hL:lk H=lk h)(hl:∀j,j∈q.2→∀e,h[j]? =some e→H[j]? =some (Zgn e)):
 (q.1.er (lk H)).size=(d.er (lk H)).size∧∀σ:Sg,Ok σ→σ.H=erH H→∀us,repD σ (d.er (lk H)) us→repD σ (q.1.er (lk H)) us:=by
 have other:∀x:TD,(q.1.er (lk H)).size=(q.1.er (lk H)).size∧∀σ:Sg,Ok σ→σ.H=erH H→∀us,repD σ (q.1.er (lk H)) us→repD σ (q.1.er (lk H)) us:=λ_=>⟨rfl,λ_ _ _ _ r=>r⟩
 have row:∀(j:Nat)(v:Nat)(s:Nat)(e:yb)(xs:List Pl)(T:Ty)(l:List T.den),(TD.rw j).er (lk H)=.rv j v s 0 xs.length→(erH H)[j]? =some (.row v s false e (.p (.arr xs.length s xs)))→s=T.size→xs=l.map T.enc→
  ((TD.p (.sl none T l)).er (lk H)).size=((TD.rw j).er (lk H)).size∧∀σ:Sg,Ok σ→σ.H=erH H→∀us,repD σ ((TD.rw j).er (lk H)) us→repD σ ((TD.p (.sl none T l)).er (lk H)) us:=by
  intro j v s e xs T l e1 e2 e3 e4;subst e3;rw[e1];refine⟨rfl,λσ ok hH us r=> ?_⟩;have dr:=DeepR.rvp (H:=σ.H) (lo:=0) (n:=xs.length) (by rw[hH];exact e2) (by omega);rw[List.drop_zero,List.take_length] at dr;have:=ZnO ok dr us r;rw[TD.er,TP.pe, ←e4];simpa[repD] using this
 unfold ZuP at hq;split at hq
 ·rename_i j;split at hq
  ·rename_i T np v st e pre hd;cases hq;have hH:=hl j (yap ..) _ hd;have hr:=Zbw (q:=(v.length,T.size,pre.length+0)) (x:=Zgn (.rowN T np v st e pre [])) hH rfl;refine row j v.length T.size e (pre.map T.enc) T pre (by rw[hr.1,yw];rfl) ?_ rfl rfl;rw[ZL hH,yw];simp only[Zgn,TEnt.er,List.map_nil,ybl,List.length_nil,Nat.add_zero]
  ·rename_i T v st e l hd;cases hq;have hH:=hl j (yap ..) _ hd;have hr:=QJ (T:=T) (v:=v) (st:=false) (e:=e) (l:=l) hH;refine row j v.length T.size e (l.map T.enc) T l (by rw[hr.1,yw]) ?_ rfl rfl;rw[ZL hH,yw];rfl
  ·cases hq
 ·cases hq;exact other d
theorem ZqV{h H:List TEnt}:∀{ds:List TD}{q:List TD×List Nat},Zom h ds=some q→lk H=lk h→(∀j,j∈q.2→∀e,h[j]? =some e→H[j]? =some (Zgn e))→
 Dv.sizes (TD.ers (lk H) q.1)=Dv.sizes (TD.ers (lk H) ds)∧∀σ:Sg,Ok σ→σ.H=erH H→∀us,repDs σ (TD.ers (lk H) ds) us→repDs σ (TD.ers (lk H) q.1) us
 |[],q,hq,hL,hl=>by cases hq;exact⟨rfl,λ_ _ _ _ r=>r⟩
 |d::r,q,hq,hL,hl=>by
  simp only[Zom] at hq;split at hq
  ·rename_i q1 q2 h1 h2;cases hq;obtain⟨a1,a2⟩:=ZBO h1 hL (λj hj=>hl j (List.mem_append_left _ hj));obtain⟨b1,b2⟩:=ZqV h2 hL (λj hj=>hl j (List.mem_append_right _ hj));refine⟨by simp only[TD.ers,Dv.sizes];rw[a1,b1],λσ ok hH us rr=> ?_⟩;simp only[TD.ers,repDs] at rr ⊢;obtain⟨u1,u2,e1,e2,e3⟩:=rr;exact⟨u1,u2,e1,a2 σ ok hH _ e2,b2 σ ok hH _ e3⟩
  ·cases hq
theorem ZlK{t:Tmp}{a:List TD}{h:List TEnt}{K:Kh O}(k:Zon t a h K=some out):
 ∃a' h',K a' h'=some out∧a'.length=a.length∧YJ (erH h) (erH h')∧∀(σ:Sg)(act:Act),RepT σ (TD.ers (lk h) a) act→RepT σ (TD.ers (lk h') a') act:=by
 unfold Zon at k;split at k
 ·rename_i id hid;split at k
  ·rename_i ds st hd;obtain⟨q,h1,k⟩:=ZlI k
   have hd2:(Q4 q.2 h)[id]? =some (.var (.agg ds) st):=by
    rw[ZeU,hd];show some (if q.2.contains id=true then Zgn (.var (.agg ds) st) else .var (.agg ds) st)=_
    split <;> rfl
   have hL0:lk (Q4 q.2 h)=lk h:=ZqU _ _;have hL:lk ((Q4 q.2 h).set id (.var (.agg q.1) st))=lk (Q4 q.2 h):=XR hd2 rfl rfl;refine⟨_,_,k,rfl,(Zyh (ZzO q.2 h)).trans ?_,λσ act rr=>by rw[hL,hL0];exact rr⟩;rw[Yl hL];have hj:(erH (Q4 q.2 h))[id]? =some (.var (.agg (TD.ers (lk (Q4 q.2 h)) ds)) st):=by rw[ZL hd2];rfl
   obtain⟨c1,c2⟩:=ZqV (H:=Q4 q.2 h) h1 hL0 (λj hj e he=>by
    rw[ZeU,he];show some (if q.2.contains j=true then Zgn e else e)=_
    rw[if_pos (by simpa using hj)])
   refine ZD5 hj ?_ λσ ok hH us r=> ?_
   ·exact c1
   ·simp only[TD.er,repD] at r ⊢;exact c2 σ ok hH us r
  ·cases k
 ·cases k
theorem ZuS{L:Lk}{ds:List TD}{i:Nat}{x y:TD}(h:ds[i]? =some x)(e:y.er L=x.er L):TD.ers L (ds.set i y)=TD.ers L ds:=by
 rw[Zu,Zu,ybh,e];apply ybp;intro k;by_cases hk:i=k
 ·subst hk;rw[ycr (by rw[yw];exact(yq.1 h).1),yan,h];rfl
 ·rw[List.getElem?_set_ne hk]
theorem ZjC{t:Tmp}{i:Nat}{a:List TD}{h:List TEnt}{K:Kh O}(k:ZmZ t i a h K=some out):
 ∃a' h',K a' h'=some out∧a'.length=a.length∧YJ (erH h) (erH h')∧∀(σ:Sg)(act:Act),RepT σ (TD.ers (lk h) a) act→RepT σ (TD.ers (lk h') a') act:=by
 unfold ZmZ at k;split at k
 ·rename_i j hj;split at k
  ·rename_i ds st hd;split at k
   ·rename_i id v s n hi;split at k
    ·rename_i T w st' e l hr;obtain⟨c,k2⟩:=Za k;clear k;rw[yi,yi,decide_eq_true_eq,decide_eq_true_eq,decide_eq_true_eq] at c;obtain⟨rfl,rfl,rfl⟩:=c;have hL:lk (h.set j (.var (.agg (ds.set i (.rw id))) st))=lk h:=XR hd rfl rfl
     have he:(TD.rw id).er (lk h)=(TD.rv id w.length T.size 0 l.length).er (lk h):=by
      refine(Zsn (v:=w) (s:=T.size) (N:=l.length) ?_).1;unfold ZS lk;dsimp only;rw[hr];rfl
     refine⟨_,_,k2,rfl, ?_,λσ act rr=>by rw[hL];exact rr⟩
     have e2:erH (h.set j (.var (.agg (ds.set i (.rw id))) st))=erH h:=by
      rw[Yl hL];show(erH h).set j (.var (.agg (TD.ers (lk h) (ds.set i (.rw id)))) st)=erH h;rw[ZuS hi he];apply ybp;intro q;by_cases hq:j=q
      ·subst hq;have hjl:(erH h)[j]? =some (.var (.agg (TD.ers (lk h) ds)) st):=by rw[ZL hd];rfl
       rw[ycr (yq.1 hjl).1,hjl]
      ·rw[List.getElem?_set_ne hq]
     rw[e2];exact YJ.refl _
    ·cases k
   ·cases k
  ·cases k
 ·cases k
theorem ZuT{h:List TEnt}{id:Nat}{T:Ty}{w:List Unit}{st:Bool}{e:yb}{l:List T.den}(hr:h[id]? =some (.rowT T w st e l)):(TD.rw id).er (lk h)=(TD.rv id w.length T.size 0 l.length).er (lk h):=by
 refine(Zsn (v:=w) (s:=T.size) (N:=l.length) ?_).1;unfold ZS lk;dsimp only;rw[hr];rfl
theorem ZpI{t:Tmp}{a:List TD}{h:List TEnt}{K:Kh O}(k:Zoo t a h K=some out):
 ∃a' h',K a' h'=some out∧a'.length=a.length∧YJ (erH h) (erH h')∧∀(σ:Sg)(act:Act),RepT σ (TD.ers (lk h) a) act→RepT σ (TD.ers (lk h') a') act:=by
 unfold Zoo at k;split at k
 ·rename_i id v s n hi;split at k
  ·rename_i T w st' e l hr;obtain⟨c,k2⟩:=Za k;clear k;rw[yi,yi,decide_eq_true_eq,decide_eq_true_eq,decide_eq_true_eq] at c;obtain⟨rfl,rfl,rfl⟩:=c;exact⟨_,_,k2,ybf,YJ.refl _,λσ act rr=>by rw[ZuS hi (ZuT hr)];exact rr⟩
  ·cases k
 ·cases k
theorem ZpJ{t:Tmp}{a:List TD}{h:List TEnt}{K:Kh O}(k:Zop t a h K=some out):
 ∃a' h',K a' h'=some out∧a'.length=a.length∧YJ (erH h) (erH h')∧∀(σ:Sg)(act:Act),RepT σ (TD.ers (lk h) a) act→RepT σ (TD.ers (lk h') a') act:=by
 unfold Zop at k;split at k
 ·rename_i j hj;split at k
  ·rename_i id v s n st hd;split at k
   ·rename_i T w st' e l hr;obtain⟨c,k2⟩:=Za k;clear k;rw[yi,yi,decide_eq_true_eq,decide_eq_true_eq,decide_eq_true_eq] at c;obtain⟨rfl,rfl,rfl⟩:=c;have hL:lk (h.set j (.var (.rw id) st))=lk h:=XR hd rfl rfl;refine⟨_,_,k2,rfl, ?_,λσ act rr=>by rw[hL];exact rr⟩
    have e2:erH (h.set j (.var (.rw id) st))=erH h:=by
     rw[Yl hL];show(erH h).set j (.var ((TD.rw id).er (lk h)) st)=erH h;rw[ZuT hr];apply ybp;intro q;by_cases hq:j=q
     ·subst hq;have hjl:(erH h)[j]? =some (.var ((TD.rv id w.length T.size 0 l.length).er (lk h)) st):=by rw[ZL hd];rfl
      rw[ycr (yq.1 hjl).1,hjl]
     ·rw[List.getElem?_set_ne hq]
    rw[e2];exact YJ.refl _
   ·cases k
  ·cases k
 ·cases k
theorem Zyj:∀{l:List Dv}{i:Nat}{d e:Dv},l[i]? =some d→Wk d e→WkL l (l.set i e)
 |[],_,_,_,h,_=>by simp at h
 |x::r,0,d,e,h,k=>by
  simp only[ybw,yj] at h;subst h
  exact .cons k (WkL.refl r)
 |x::r,i+1,d,e,h,k=>by
  simp only[yay] at h;exact .cons (Wk.refl x) (Zyj h k)
theorem ZBP{L:Lk}:∀{ds:List TD}{i:Nat}{d e:TD},ds[i]? =some d→(TD.ers L ds)[i]? =some (d.er L)∧TD.ers L (ds.set i e)=(TD.ers L ds).set i (e.er L)
 |[],_,_,_,h=>by simp at h
 |x::r,0,d,e,h=>by
  simp only[ybw,yj] at h;subst h
  exact⟨rfl,rfl⟩
 |x::r,i+1,d,e,h=>by
  simp only[yay] at h;obtain⟨h1,h2⟩:=ZBP (e:=e) h;exact⟨h1,by show x.er L::TD.ers L (r.set i e)=_;rw[h2];rfl⟩
theorem ZwQ{t:Tmp}{i:Nat}{T:Ty}{a:List TD}{h:List TEnt}{K:Kh O}(k:ZBL t i T a h K=some out):
 ∃a' h',K a' h'=some out∧a'.length=a.length∧YJ (erH h) (erH h')∧∀(σ:Sg)(act:Act),RepT σ (TD.ers (lk h) a) act→RepT σ (TD.ers (lk h') a') act:=by
 unfold ZBL at k;split at k
 ·rename_i j hj;split at k
  ·rename_i ds st hd;split at k
   ·rename_i x hx;obtain⟨y,h1,k⟩:=yc.1 k;have hL:lk (h.set j (.var (.agg (ds.set i (.p (.v T y)))) st))=lk h:=XR hd rfl rfl;refine⟨_,_,k,rfl, ?_,λσ act rr=>by rw[hL];exact rr⟩;rw[Yl hL];have hjl:(erH h)[j]? =some (.var (.agg (TD.ers (lk h) ds)) st):=by rw[ZL hd];rfl
    obtain⟨e1,e2⟩:=ZBP (L:=lk h) (e:=.p (.v T y)) hx;refine Zyh (WkH.set_at hjl (WkE.var ?_));show Wk (.agg (TD.ers (lk h) ds)) (.agg (TD.ers (lk h) (ds.set i (.p (.v T y)))));rw[e2];exact WkL.agg (Zyj e1 (Wk.p (Zt9 h1)))
   ·cases k
  ·cases k
 ·cases k
theorem Wk.melt{n s:Nat}{xs:List Pl}:Wk (.p (.arr n s xs)) (.arr n s (xs.map Dv.p)):=⟨rfl,rfl,λσ vs r=>by
 simp only[repD,repC] at r ⊢;exact⟨by rw[yw];exact r.1,λx hx=>by obtain⟨y,hy,rfl⟩:=ybr.1 hx;exact r.2.1 y hy,Zbq.2 r.2.2⟩⟩
theorem ZuU{t:Tmp}{a:List TD}{h:List TEnt}{K:Kh O}(k:ZwN t a h K=some out):
 ∃a' h',K a' h'=some out∧a'.length=a.length∧YJ (erH h) (erH h')∧∀(σ:Sg)(act:Act),RepT σ (TD.ers (lk h) a) act→RepT σ (TD.ers (lk h') a') act:=by
 unfold ZwN at k;split at k
 ·rename_i j hj;split at k
  ·rename_i n s xs st hd;have hL:lk (h.set j (.var (.arr n s (xs.map TD.p)) st))=lk h:=XR hd rfl rfl;refine⟨_,_,k,rfl, ?_,λσ act rr=>by rw[hL];exact rr⟩;rw[Yl hL];have hjl:(erH h)[j]? =some (.var (.p (.arr n s (TP.pes xs))) st):=by rw[ZL hd];rfl
   refine Zyh (WkH.set_at hjl (WkE.var ?_));show Wk (.p (.arr n s (TP.pes xs))) (.arr n s (TD.ers (lk h) (xs.map TD.p)))
   have e:TD.ers (lk h) (xs.map TD.p)=(TP.pes xs).map Dv.p:=by
    rw[Zu,WJ,yaz,yaz];rfl
   rw[e];exact Wk.melt
  ·exact⟨_,_,k,rfl,YJ.refl _,λ_ _ r=>r⟩
 ·exact⟨_,_,k,rfl,YJ.refl _,λ_ _ r=>r⟩
theorem ZuV{t:Tmp}{a:List TD}{h:List TEnt}{K:Kh O}(k:ZwO t a h K=some out):
 ∃a' h',K a' h'=some out∧a'.length=a.length∧YJ (erH h) (erH h')∧∀(σ:Sg)(act:Act),RepT σ (TD.ers (lk h) a) act→RepT σ (TD.ers (lk h') a') act:=by
 unfold ZwO at k;split at k
 ·rename_i j hj;split at k
  ·rename_i d st hd;obtain⟨x,h1,k⟩:=yc.1 k;have hL:lk (h.set j (.var (.p x) st))=lk h:=XR hd rfl rfl;refine⟨_,_,k,rfl, ?_,λσ act rr=>by rw[hL];exact rr⟩;rw[Yl hL];have hjl:(erH h)[j]? =some (.var (d.er (lk h)) st):=by rw[ZL hd];rfl
   have hf:(d.er (lk h)).flat=some x.pe:=by rw[Zji,h1];rfl
   refine Zyh (WkH.set_at hjl (WkE.var ?_))
   exact⟨(Zg7 _ _ hf).symm,(Znd hf).symm,λσ vs r=>by
    have:=Zd6 _ _ _ hf r;show repD σ (.p x.pe) vs;simp only[repD];exact this⟩
  ·cases k
 ·cases k
theorem ZlL{z:Int}{t:Tmp}{a:List TD}{h:List TEnt}{K:Kh O}(ha:a.getD t .junk=.p (.v (.int .i64) z)):∀{ks:List Nat},ZsA z t a h K ks=some out→K a h=some out
 |[],k=>by cases k
 |n::r,k=>by
  unfold ZsA at k;split at k
  ·rename_i e;have e:z=(n:Int):=by simpa using e
   rw[set_same (by rw[ha,e])] at k;exact k
  ·exact ZlL ha k
theorem ZsE{t:Tmp}{ks:List Nat}{a:List TD}{h:List TEnt}{K:Kh O}(k:ZsB t ks a h K=some out):
 ∃a' h',K a' h'=some out∧a'.length=a.length∧YJ (erH h) (erH h')∧∀(σ:Sg)(act:Act),RepT σ (TD.ers (lk h) a) act→RepT σ (TD.ers (lk h') a') act:=by
 unfold ZsB at k;split at k
 ·rename_i z hz;exact⟨_,_,ZlL hz k,rfl,YJ.refl _,λ_ _ r=>r⟩
 ·cases k
theorem ZBQ{g:Option GOp}{a:List TD}{h:List TEnt}{K:Kh O}(k:ghO g a h K=some out):
 ∃a' h',K a' h'=some out∧a'.length=a.length∧YJ (erH h) (erH h')∧∀(σ:Sg)(act:Act),RepT σ (TD.ers (lk h) a) act→RepT σ (TD.ers (lk h') a') act:=by
 unfold ghO at k;split at k
 ·exact⟨_,_,k,rfl,YJ.refl _,λ_ _ r=>r⟩
 ·rename_i g
  cases g with
  |rows t path T e np=>exact ZuQ k
  |focus t U e=>exact ZsD k
  |done t=>exact ZlK k
  |fresh t i=>exact ZjC k
  |rowt t path T e=>exact ZuR k
  |freshS t=>exact ZpI k
  |freshV t=>exact ZpJ k
  |freshDone t i=>
   obtain⟨a1,h1,k,l1,g1,r1⟩:=ZjC (K:=λa h=>Zon t a h K) k;obtain⟨a2,h2,k,l2,g2,r2⟩:=ZlK k
   exact⟨a2,h2,k,l2.trans l1,g1.trans g2,λσ act r=>r2 σ act (r1 σ act r)⟩
  |any t i T=>exact ZwQ k
  |melt t=>exact ZuU k
  |split t ks=>exact ZsE k
  |nn t=>
   replace k:ZFY t a h K=some out:=k
   unfold ZFY at k;split at k
   ·exact⟨_,_,k,rfl,YJ.refl _,λ_ _ r=>r⟩
   ·cases k
  |flat t=>exact ZuV k
  |nilr path U e=>exact ZlJ k
  |hole=>
   replace k:K a (h++[.gone])=some out:=k
   refine⟨_,_,k,rfl, ?_,λσ act rr=>by rw[Qd rfl];exact rr⟩;rw[Qe (Qd rfl)];intro σ ok e;obtain⟨to,ok'⟩:=ZxI ok;exact⟨{ σ with m:=σ.m++[none],H:=σ.H++[.gone]},rfl,by rw[←e];rfl,to,ok'⟩
end
end Go.Ev
end
section
namespace Go.Ev
section
variable{P:yg}
theorem ZuW{x y:Code}{ts ts1 ts2:List Dv}{H H1 H2:List Ent}{ex:Ex}(r1:Xr P x ts H .normal ts1 H1)(r2:Xr P y ts1 H1 ex ts2 H2):Xr P (.seq x y) ts H ex ts2 H2:=by
 intro σ a ok hH hrep;refine wp_seq (wp_mono (r1 σ a ok hH hrep) ?_);rintro e a' w' ⟨rfl,σ1,rfl,e1,to1,ok1,hrep1⟩;refine wp_mono (r2 σ1 a' ok1 e1 hrep1) ?_;rintro e a'' w'' ⟨rfl,σ2,rfl,e2,to2,ok2,hrep2⟩;exact⟨rfl,σ2,rfl,e2,to1.trans to2,ok2,hrep2⟩
theorem ZqW{x y:Code}{ts ts1:List Dv}{H H1:List Ent}{ex:Ex}(hne:ex≠ .normal)(r1:Xr P x ts H ex ts1 H1):Xr P (.seq x y) ts H ex ts1 H1:=by
 intro σ a ok hH hrep;refine wp_seq (wp_mono (r1 σ a ok hH hrep) ?_);rintro e a' w' ⟨rfl,hq⟩
 cases ex with
 |normal=>exact absurd rfl hne
 |exit id=>exact⟨rfl,hq⟩
 |ret=>exact⟨rfl,hq⟩
theorem Zhk{c:yo}{x y:Code}{ts ts1:List Dv}{H H1:List Ent}{ex:Ex}{b:Bool}(hc:Zo P ts 0 c=.p (.bool b))(r1:Xr P (if b then x else y) ts H ex ts1 H1):Xr P (.cond c x y) ts H ex ts1 H1:=by
 intro σ a ok hH hrep;have hv:=Zk (P:=P) hrep 0 c;rw[hc] at hv;cases b
 ·exact wp_cond_false (Yf hv) (r1 σ a ok hH hrep)
 ·exact wp_cond_true (Yf hv) (r1 σ a ok hH hrep)
def ZsF(id:Nat):Ex→Ex
 |.exit i=>if i=id then .normal else .exit i
 |ex=>ex
theorem ZwR{id:Nat}{body:Code}{ts ts1:List Dv}{H H1:List Ent}{ex:Ex}(r1:Xr P body ts H ex ts1 H1):Xr P (.block id body) ts H (ZsF id ex) ts1 H1:=by
 intro σ a ok hH hrep;refine wp_block (wp_mono (r1 σ a ok hH hrep) ?_);rintro e a' w' ⟨rfl,hq⟩
 cases ex with
 |normal=>exact⟨rfl,hq⟩
 |exit id'=>
  simp only[Ex.to,Exit.inBlock,ZsF];split
  ·exact⟨rfl,hq⟩
  ·exact⟨rfl,hq⟩
 |ret=>exact⟨rfl,hq⟩
theorem ZwS{body:Code}{ts ts1:List Dv}{H H1:List Ent}{ex:Ex}(r1:Xr P body ts H ex ts1 H1):Xr P (.scope body) ts H ex ts1 H1:=by
 intro σ a ok hH hrep;refine wp_scope_straight (wp_mono (r1 σ a ok hH hrep) ?_);rintro e a' w' ⟨rfl,hq⟩;cases ex <;> exact⟨rfl,hq⟩
theorem ZzP{ts:List Dv}{H:List Ent}:Xr P .skip ts H .normal ts H:=λσ a ok hH hrep=>wp_skip ⟨rfl,σ,rfl,hH,To.refl σ,ok,hrep⟩
theorem ZwT{n:Nat}{ts:List Dv}{H:List Ent}:Xr P (.label n) ts H .normal ts H:=λσ a ok hH hrep=>wp_label ⟨rfl,σ,rfl,hH,To.refl σ,ok,hrep⟩
theorem ZzQ{n:Nat}{ts:List Dv}{H:List Ent}:Xr P (.exit n) ts H (.exit n) ts H:=λσ a ok hH hrep=>wp_exit ⟨rfl,σ,rfl,hH,To.refl σ,ok,hrep⟩
theorem ZBR{ts:List Dv}{H:List Ent}:Xr P .ret ts H .ret ts H:=λσ a ok hH hrep=>wp_ret ⟨rfl,σ,rfl,hH,To.refl σ,ok,hrep⟩
theorem ZzR{c:Code}{ts ts1:List Dv}{H H1:List Ent}{ex:Ex}(keep:List Nat)(r:Xr P c ts H ex ts1 H1):Xr P c ts H ex (ZG keep 0 ts1) H1:=by
 intro σ a ok hH hrep;refine wp_mono (r σ a ok hH hrep) ?_;rintro e a' w' ⟨rfl,σ1,rfl,e1,to1,ok1,hrep1⟩;exact⟨rfl,σ1,rfl,e1,to1,ok1,V7 keep hrep1⟩
def ZuX(n0:Nat)(sl:Slots)(es:List ESh)(a:List TD)(h:List TEnt):Option (List TV):=
 if once (yv n0++[]) then(Xv h (yv n0++[]) (yv n0++[])).bind λh2=>(TD.rns (toIds (yv n0++[])) (Zde (sl.map (·.1)) 0 a)).bind λa2=>
  (Sh.mts (lk h2) (shs sl a.length) a2).bind λq=>(ESh.mts (lk h2) es h2).bind λw=>some (q.2++w.2)
 else none
theorem ZwU{n0:Nat}{sl:Slots}{es:List ESh}{a:List TD}{h:List TEnt}{vs:List TV}(k:ZuX n0 sl es a h=some vs):
 ∃a3 h3,Wq a.length sl es vs=some (a3,h3)∧∀{c:Code}{ts:List Dv}{H:List Ent}{ex:Ex},H.length=n0→Xr P c ts H ex (TD.ers (lk h) a) (erH h)→Xr P c ts H ex (TD.ers (lk h3) a3) (erH h3):=by
 unfold ZuX at k;split at k
 ·rename_i ho;obtain⟨h2,h1,k⟩:=yc.1 k;obtain⟨a2,e2,k⟩:=yc.1 k;obtain⟨q,e3,k⟩:=yc.1 k;obtain⟨w,e4,k⟩:=yc.1 k;cases k;obtain⟨g1,g2⟩:=Zeh e4;have hc:∀id t,ZS (lk h2) id t none=ZS (lk w.1) id t none:=λid t=>by rw[g2]
  refine⟨q.1,w.1, ?_,λ{c ts H ex}hl r=> ?_⟩
  ·unfold Wq;rw[mts_fills _ _ _ e3];have:=VG e4 [];rw[ybl] at this;rw[ya,this];rfl
  ·have r1:=ZzR (sl.map (·.1)) r;rw[←Zjy] at r1;have r2:=Zzp [] [] r1 (by rw[hl];exact ho) (by rw[hl];exact Xf (Vq h1) h1) (by rw[hl];exact rns_er (Vq h1) _ _ e2);exact ZqD r2 (mts_wk hc _ _ _ e3) (Zhg hc e4)
 ·cases k
theorem ZwV{n0:Nat}{sl:Slots}{es:List ESh}{a:List TD}{h:List TEnt}{vs:List TV}(hn:h.length=n0)(k:ZuX n0 sl es a h=some vs):
 ∃a3 h3,Wq a.length sl es vs=some (a3,h3)∧∀(σ:Sg)(act:Act),Ok σ→σ.H=erH h→RepT σ (TD.ers (lk h) a) act→∃σ':Sg,σ'.w=σ.w∧σ'.H=erH h3∧To σ σ'∧Ok σ'∧RepT σ' (TD.ers (lk h3) a3) act:=by
 subst hn;unfold ZuX at k;split at k
 ·rename_i ho;obtain⟨h2,h1,k⟩:=yc.1 k;obtain⟨a2,e2,k⟩:=yc.1 k;obtain⟨q,e3,k⟩:=yc.1 k;obtain⟨w,e4,k⟩:=yc.1 k;cases k;obtain⟨g1,g2⟩:=Zeh e4;have hc:∀id t,ZS (lk h2) id t none=ZS (lk w.1) id t none:=λid t=>by rw[g2]
  refine⟨q.1,w.1, ?_,λσ act ok hH hrep=> ?_⟩
  ·unfold Wq;rw[mts_fills _ _ _ e3];have:=VG e4 [];rw[ybl] at this;rw[ya,this];rfl
  ·have r1:=V7 (sl.map (·.1)) hrep;rw[←Zjy] at r1
   have hin:subEnts σ.H (yv σ.H.length++[]) (yv σ.H.length++[])=some (erH h2):=by
    rw[hH,Zy];exact Xf (Vq h1) h1
   have ho':once (yv σ.H.length++[])=true:=by rw[hH,Zy];exact ho
   have e2':Dv.rns (toIds (yv σ.H.length++[])) (TD.ers (lk h) (Zde (sl.map (·.1)) 0 a))=some (TD.ers (lk h2) a2):=by
    rw[hH,Zy];exact rns_er (Vq h1) _ _ e2
   have r2:=Zt3 (ZeO hin) e2' r1;have to1:=ZmU ok (To.refl σ) ho' hin;have ok1:=ZmT ok ho' hin;obtain⟨to2,ok2⟩:=ZhE (σ:=ZhF σ (yv σ.H.length++[]) (erH h2)) ok1 (H':=erH w.1) (Zhg hc e4);exact⟨{ ZhF σ (yv σ.H.length++[]) (erH h2) with H:=erH w.1},rfl,rfl,to1.trans to2,ok2,(mts_wk hc _ _ _ e3).repT (r2.to to2.leaf)⟩
 ·cases k
def ZF0(L:Lk):ESh→TEnt→Option TEnt
 |.rowN _ _ _ _,.rowM u np v st e pre mid post=>(ZFL L u mid).map λy=>.rowN u np v st e (pre++[y]) post
 |_,x=>some x
def ZBS(L:Lk):List ESh→List TEnt→Option (List TEnt)
 |[],h=>some h
 |_::_,[]=>some []
 |s::r,x::h=>match ZF0 L s x,ZBS L r h with
  |some y,some ys=>some (y::ys)
  |_,_=>none
theorem ZD7{L:Lk}{s:ESh}{x y:TEnt}(h:ZF0 L s x=some y):lkE (some y)=lkE (some x)∧WkE (x.er L) (y.er L):=by
 unfold ZF0 at h;split at h
 ·rename_i u np v st e pre mid post;obtain⟨c,h1,rfl⟩:=Ze h;refine⟨?_,Zx7 (Zx4 h1)⟩;simp only[lkE,yr,yal,List.length_nil];rw[ych,Nat.add_comm (0+1)]
 ·cases h;exact⟨rfl,.refl _⟩
theorem Zyk{L:Lk}:∀{es:List ESh}{h h':List TEnt},ZBS L es h=some h'→h'.length=h.length∧(∀j:Nat,lkE (h'[j]?)=lkE (h[j]?))∧WkH (h.map (TEnt.er L)) (h'.map (TEnt.er L))
 |[],h,h',k=>by cases k;exact⟨rfl,λ_=>rfl,WkH.refl _⟩
 |_::_,[],h',k=>by cases k;exact⟨rfl,λ_=>rfl,WkH.refl _⟩
 |s::r,x::h,h',k=>by
  simp only[ZBS] at k;split at k
  ·rename_i y ys h1 h2;cases k;obtain⟨a1,a2⟩:=ZD7 h1;obtain⟨b1,b2,b3⟩:=Zyk h2;refine⟨by simp[b1],λj=> ?_,.cons a2 b3⟩
   cases j with
   |zero=>exact a1
   |succ j=>exact b2 j
  ·cases k
theorem Zyl{es:List ESh}{h h':List TEnt}(k:ZBS (lk h) es h=some h'):h'.length=h.length∧lk h'=lk h∧WkH (erH h) (erH h'):=by
 obtain⟨a,b,c⟩:=Zyk k;have e:lk h'=lk h:=funext b;refine⟨a,e, ?_⟩;unfold erH;rw[e];exact c
def ZsG(n0:Nat)(sl:Slots)(es:List ESh)(a:List TD)(h:List TEnt):Option (List TV):=(ZBS (lk h) es h).bind λh=>ZuX n0 sl es a h
theorem ZqX{n0:Nat}{sl:Slots}{es:List ESh}{a:List TD}{h:List TEnt}{vs:List TV}(k:ZsG n0 sl es a h=some vs):
 ∃a3 h3,Wq a.length sl es vs=some (a3,h3)∧∀{c:Code}{ts:List Dv}{H:List Ent}{ex:Ex},H.length=n0→Xr P c ts H ex (TD.ers (lk h) a) (erH h)→Xr P c ts H ex (TD.ers (lk h3) a3) (erH h3):=by
 obtain⟨h1,k1,k2⟩:=yc.1 k;obtain⟨e1,e2,e3⟩:=Zyl k1;obtain⟨a3,h3,g1,g2⟩:=ZwU (P:=P) k2;refine⟨a3,h3,g1,λhl r=>g2 hl ?_⟩;rw[e2];exact ZqD r (WkL.refl _) e3
theorem ZqY{n0:Nat}{sl:Slots}{es:List ESh}{a:List TD}{h:List TEnt}{vs:List TV}(hn:h.length=n0)(k:ZsG n0 sl es a h=some vs):
 ∃a3 h3,Wq a.length sl es vs=some (a3,h3)∧∀(σ:Sg)(act:Act),Ok σ→σ.H=erH h→RepT σ (TD.ers (lk h) a) act→∃σ':Sg,σ'.w=σ.w∧σ'.H=erH h3∧To σ σ'∧Ok σ'∧RepT σ' (TD.ers (lk h3) a3) act:=by
 obtain⟨h1,k1,k2⟩:=yc.1 k;obtain⟨e1,e2,e3⟩:=Zyl k1;obtain⟨a3,h3,g1,g2⟩:=ZwV (by rw[e1];exact hn) k2;refine⟨a3,h3,g1,λσ act ok hH hr=> ?_⟩;obtain⟨to,ok'⟩:=ZhE ok (H':=erH h1) (by rw[hH];exact e3);obtain⟨σ2,q1,q2,q3,q4,q5⟩:=g2 { σ with H:=erH h1} act ok' rfl (by rw[e2];exact hr.to to.leaf);exact⟨σ2,q1,q2,to.trans q3,q4,q5⟩
structure Lp where
 sl:Slots
 es:List ESh
 I:List Ty
 xs:List XSh
 L:Ty.dens I→Option (XSh.sum xs)
def Lp.Is(P:yg)(n:Nat)(c:Code)(lp:Lp):Prop:=
 ∀v o,lp.L v=some o→∀s,Wq n lp.sl lp.es (ofD lp.I v)=some s→∀e vs s',ZuD lp.xs o e vs→Wq n e.sl e.es vs=some s'→
  Xr P c (TD.ers (lk s.2) s.1) (erH s.2) e.ex (TD.ers (lk s'.2) s'.1) (erH s'.2)
abbrev Lp.Ok(P:yg)(n:Nat)(body:Code)(lp:Lp):Prop:=lp.Is P n (.loop body)
structure FI where
 hi:HI:={}
 lp:List (Nat×Lp):=[]
 bk:List (Nat×Lp):=[]
 gh:List (Nat×GOp):=[]
 un:Nat:=0
def Code.nl:Code→Nat
 |.seq a b=>Code.nl a+Code.nl b
 |.cond _ a b=>Code.nl a+Code.nl b
 |.block _ a=>Code.nl a
 |.scope a=>Code.nl a
 |.loop a=>Code.nl a+1
 |_=>0
def Code.ns:Code→Nat
 |.seq a b=>Code.ns a+Code.ns b+1
 |.cond _ a b=>Code.ns a+Code.ns b
 |.block _ a=>Code.ns a
 |.scope a=>Code.ns a
 |.loop a=>Code.ns a
 |_=>0
theorem Qi:∀c:Code,(ZA c).length=Code.nl c
 |.seq a b=>by simp only[ZA,yr,Qi a,Qi b,Code.nl]
 |.cond _ a b=>by simp only[ZA,yr,Qi a,Qi b,Code.nl]
 |.block _ a=>by simp only[ZA,Qi a,Code.nl]
 |.scope a=>by simp only[ZA,Qi a,Code.nl]
 |.loop a=>by simp only[ZA,yal,Qi a,Code.nl]
 |.skip=>rfl
 |.region _ _ _=>rfl
 |.rangeFunc _ _ _ _=>rfl
 |.exit _=>rfl
 |.ret=>rfl
 |.label _=>rfl
 |.goto _=>rfl
 |.refuse _=>rfl
def Zm1{O:Type}(step:List TD→List TEnt→Kc O→Option O):Nat→List TD→List TEnt→Kc O→Option O
 |0,_,_,_=>none
 |k+1,a,h,K=>step a h λex a' h'=>match ex with
  |.normal=>Zm1 step k a' h' K
  |ex=>K ex a' h'
theorem ZlM{O:Type}{body:Code}{N:Nat}{step:List TD→List TEnt→Kc O→Option O}
 (hs:∀(a:List TD)(h:List TEnt)(K:Kc O)(out:O),a.length=N→step a h K=some out→∃ex a' h',K ex a' h'=some out∧a'.length=N∧Xr P body (TD.ers (lk h) a) (erH h) ex (TD.ers (lk h') a') (erH h')):
 ∀(k:Nat)(a:List TD)(h:List TEnt)(K:Kc O)(out:O),a.length=N→Zm1 step k a h K=some out→∃ex a' h',K ex a' h'=some out∧a'.length=N∧Zqy P body (TD.ers (lk h) a) (erH h) ex (TD.ers (lk h') a') (erH h')
 |0,_,_,_,_,_,k=>by cases k
 |n+1,a,h,K,out,hN,k=>by
  unfold Zm1 at k;obtain⟨ex,a1,h1,k1,k2,k3⟩:=hs _ _ _ _ hN k;split at k1
  ·obtain⟨ex2,a2,h2,k4,k5,k6⟩:=ZlM hs n a1 h1 K out k2 k1;exact⟨ex2,a2,h2,k4,k5,ZqA [] k3 k6⟩
  ·rename_i hne;exact⟨_,a1,h1,k1,k2,Zqz hne k3⟩
def ZkR(m:Nat)(a:List TD)(h:List TEnt):List (Nat×Lp)→Option (Σ bk:Lp,Ty.dens bk.I)
 |[]=>none
 |q::r=>if Nat.beq q.1 m=true then match (ZsG h.length q.2.sl q.2.es a h).bind (toD q.2.I) with
   |some v=>some ⟨q.2,v⟩
   |none=>ZkR m a h r
  else ZkR m a h r
theorem Zdg{m:Nat}{a:List TD}{h:List TEnt}{b:Σ bk:Lp,Ty.dens bk.I}:∀{l:List (Nat×Lp)},ZkR m a h l=some b→(m,b.1)∈l∧∃vs,ZsG h.length b.1.sl b.1.es a h=some vs∧toD b.1.I vs=some b.2
 |[],k=>by cases k
 |q::r,k=>by
  unfold ZkR at k;split at k
  ·rename_i hm;split at k
   ·rename_i v hv;cases k;have e:=Nat.eq_of_beq_eq_true hm;refine⟨?_,yc.1 hv⟩;rw[←e];exact yap ..
   ·obtain⟨h1,h2⟩:=Zdg k;exact⟨yat _ h1,h2⟩
  ·obtain⟨h1,h2⟩:=Zdg k;exact⟨yat _ h1,h2⟩
def evT{O:Type}(P:yg)(fi:FI)(specs:Sp P):Code→Nat→Nat→List TD→List TEnt→Kc O→Option O
 |.skip,_,_,a,h,K=>K .normal a h
 |.label _,_,_,a,h,K=>K .normal a h
 |.region _ ops draw,_,_,a,h,K=>if draw=true then ZFT P fi.hi specs ops a h λa' h'=>K .normal a' h' else if ZFW ops=true then ZwF P fi.hi specs ops (ops.toList.take (ops.size - 5)) a h λa' h' _=>Zyg P (ops.toList.drop (ops.size - 5)) a' h' λa' h'=>K .normal a' h'
  else ZwF P fi.hi specs ops ops.toList a h λa' h' _=>K .normal a' h'
 |.seq x y,n,m,a,h,K=>ghO (fi.gh.lookup m) a h λa h=>match ZkR m a h fi.bk with
  |none=>evT P fi specs x n (m+1) a h λex a' h'=>match ex with
   |.normal=>evT P fi specs y (n+Code.nl x) (m+1+Code.ns x) a' h' K
   |ex=>K ex a' h'
  |some bk=>(bk.1.L bk.2).bind λo=>xT a.length bk.1.xs o λex a' h'=>match ex with
   |.normal=>evT P fi specs y (n+Code.nl x) (m+1+Code.ns x) a' h' K
   |ex=>K ex a' h'
 |.cond c x y,n,m,a,h,K=>((arT P a 0 c).bind TD.boolT).bind λb=>match c with
  |.tmp t=>if b=true then evT P fi specs x n m (a.set t (ZpH true)) h K else evT P fi specs y (n+Code.nl x) (m+Code.ns x) (a.set t (ZpH false)) h K
  |_=>if b=true then evT P fi specs x n m a h K else evT P fi specs y (n+Code.nl x) (m+Code.ns x) a h K
 |.block id body,n,m,a,h,K=>evT P fi specs body n m a h λex a' h'=>K (ZsF id ex) a' h'
 |.loop body,n,m,a,h,K=>match ZkR n a h fi.lp with
  |some lp=>(lp.1.L lp.2).bind λo=>xT a.length lp.1.xs o K
  |none=>Zm1 (λa h K=>evT P fi specs body (n+1) m a h K) fi.un a h K
 |.scope body,n,m,a,h,K=>evT P fi specs body n m a h K
 |.exit id,_,_,a,h,K=>K (.exit id) a h
 |.ret,_,_,a,h,K=>K .ret a h
 |_,_,_,_,_,_=>none
def Xx:Code→List Code
 |.seq a b=>a::(Xx a++Xx b)
 |.cond _ a b=>Xx a++Xx b
 |.block _ a=>Xx a
 |.scope a=>Xx a
 |.loop a=>Xx a
 |_=>[]
theorem Qj:∀c:Code,(Xx c).length=Code.ns c
 |.seq a b=>by simp only[Xx,yal,yr,Qj a,Qj b,Code.ns]
 |.cond _ a b=>by simp only[Xx,yr,Qj a,Qj b,Code.ns]
 |.block _ a=>by simp only[Xx,Qj a,Code.ns]
 |.scope a=>by simp only[Xx,Qj a,Code.ns]
 |.loop a=>by simp only[Xx,Qj a,Code.ns]
 |.skip=>rfl
 |.region _ _ _=>rfl
 |.rangeFunc _ _ _ _=>rfl
 |.exit _=>rfl
 |.ret=>rfl
 |.label _=>rfl
 |.goto _=>rfl
 |.refuse _=>rfl
def Zfq(P:yg)(fi:FI)(N:Nat)(c:Code)(m:Nat):Prop:=∀(k:Nat)(x:Code),(Xx c)[k]? =some x→∀bk,(m+k,bk)∈fi.bk→bk.Is P N x
theorem ZBT{fi:FI}{N:Nat}{x y c:Code}{m:Nat}(e:Xx c=Xx x++Xx y)(h:Zfq P fi N c m):Zfq P fi N x m:=λk b hk=>h k b (by
 rw[e,yam (yq.1 hk).1];exact hk)
theorem ZzS{fi:FI}{N:Nat}{x y c:Code}{m:Nat}(e:Xx c=Xx x++Xx y)(h:Zfq P fi N c m):Zfq P fi N y (m+Code.ns x):=λk b hk lp hl=>h (Code.ns x+k) b (by
 rw[e,yar (by rw[Qj];omega),Qj];rw[show Code.ns x+k - Code.ns x=k by omega];exact hk) lp (by rw[←ych];exact hl)
theorem ZBU{fi:FI}{N:Nat}{x y:Code}{m:Nat}(h:Zfq P fi N (.seq x y) m):Zfq P fi N x (m+1):=λk b hk lp hl=>h (k+1) b (by
 rw[Xx,yay,yam (yq.1 hk).1];exact hk) lp (by rw[show m+(k+1)=m+1+k by omega];exact hl)
theorem ZuY{fi:FI}{N:Nat}{x y:Code}{m:Nat}(h:Zfq P fi N (.seq x y) m):Zfq P fi N y (m+1+Code.ns x):=λk b hk lp hl=>h (Code.ns x+k+1) b (by
 rw[Xx,yay,yar (by rw[Qj];omega),Qj];rw[show Code.ns x+k - Code.ns x=k by omega];exact hk) lp (by rw[show m+(Code.ns x+k+1)=m+1+Code.ns x+k by omega];exact hl)
def ZhJ(P:yg)(fi:FI)(N:Nat)(c:Code)(n:Nat):Prop:=∀(k:Nat)(b:Code),(ZA c)[k]? =some (.loop b)→∀lp,(n+k,lp)∈fi.lp→lp.Ok P N b
theorem ZuZ{fi:FI}{N:Nat}{x y c:Code}{n:Nat}(e:ZA c=ZA x++ZA y)(h:ZhJ P fi N c n):ZhJ P fi N x n:=λk b hk=>h k b (by
 rw[e,yam (yq.1 hk).1];exact hk)
theorem ZqZ{fi:FI}{N:Nat}{x y c:Code}{n:Nat}(e:ZA c=ZA x++ZA y)(h:ZhJ P fi N c n):ZhJ P fi N y (n+Code.nl x):=λk b hk lp hl=>h (Code.nl x+k) b (by
 rw[e,yar (by rw[Qi];omega),Qi];rw[show Code.nl x+k - Code.nl x=k by omega];exact hk) lp (by rw[←ych];exact hl)
theorem XL{O:Type}{fi:FI}{specs:Sp P}{out:O}{N:Nat}(ok:SpOk specs):∀(c:Code)(n m:Nat)(a:List TD)(h:List TEnt)(K:Kc O),a.length=N→ZhJ P fi N c n→Zfq P fi N c m→evT P fi specs c n m a h K=some out→
 ∃ex a' h',K ex a' h'=some out∧a'.length=N∧Xr P c (TD.ers (lk h) a) (erH h) ex (TD.ers (lk h') a') (erH h')
 |.skip,n,m,a,h,K,hN,hl,hb0,k=>⟨_,_,_,k,hN,ZzP⟩
 |.label _,n,m,a,h,K,hN,hl,hb0,k=>⟨_,_,_,k,hN,ZwT⟩
 |.exit _,n,m,a,h,K,hN,hl,hb0,k=>⟨_,_,_,k,hN,ZzQ⟩
 |.ret,n,m,a,h,K,hN,hl,hb0,k=>⟨_,_,_,k,hN,ZBR⟩
 |.region id ops draw,n,m,a,h,K,hN,hl,hb0,k=>by
  unfold evT at k
  cases draw with
  |true=>
   rw[if_pos rfl] at k;obtain⟨a',h',k1,k2,k3⟩:=ZzI ok k
   exact⟨_,_,_,k1,by rw[k2,hN],k3 id⟩
  |false=>
   rw[if_neg (by decide)] at k;split at k
   ·obtain⟨a',h',k1,k2,k3⟩:=ZzN ok k;exact⟨_,_,_,k1,by rw[k2,hN],k3 id⟩
   ·obtain⟨a',h',hs,k1,k2,k3⟩:=ZzJ ok k
    exact⟨_,_,_,k1,by rw[k2,hN],k3 id⟩
 |.seq x y,n,m,a,h,K,hN,hl,hb0,k=>by
  have hx:=ZuZ (x:=x) (y:=y) rfl hl;have hy:=ZqZ (x:=x) (y:=y) rfl hl;unfold evT at k;obtain⟨a0,h0,k,hN0,gst⟩:=ZBQ k;rw[hN] at hN0
  suffices key:∃ex a' h',K ex a' h'=some out∧a'.length=N∧Xr P (.seq x y) (TD.ers (lk h0) a0) (erH h0) ex (TD.ers (lk h') a') (erH h') by
   obtain⟨ex,a',h',g1,g2,g3⟩:=key;exact⟨ex,a',h',g1,g2,ZD4 gst g3⟩
  clear gst;have hN:=hN0;clear hN0;split at k
  ·obtain⟨ex,a1,h1,k1,k2,k3⟩:=XL ok x _ _ _ _ _ hN hx (ZBU hb0) k;split at k1
   ·obtain⟨ex2,a2,h2,k4,k5,k6⟩:=XL ok y _ _ _ _ _ k2 hy (ZuY hb0) k1;exact⟨_,_,_,k4,k5,ZuW k3 k6⟩
   ·rename_i hne;exact⟨_,_,_,k1,k2,ZqW hne k3⟩
  ·rename_i bkv hbk;obtain⟨bk,v⟩:=bkv;obtain⟨hbk,vs,j1,j2⟩:=Zdg hbk;dsimp only at hbk j1 j2 k;obtain⟨o,j3,k⟩:=yc.1 k;obtain⟨e,vs',s,g1,g2,g3⟩:=Zjv k;obtain⟨a3,h3,j4,j5⟩:=ZqY rfl j1;have hok:=hb0 0 x rfl bk (by rw[Nat.add_zero];exact hbk);rw[hN] at g2 j4;have e1:=Qh _ _ _ j2;have r:=hok v o j3 (a3,h3) (by rw[e1];exact j4) e vs' s g1 g2
   have k3:Xr P x (TD.ers (lk h0) a0) (erH h0) e.ex (TD.ers (lk s.2) s.1) (erH s.2):=by
    intro σ act okσ hH hrep;obtain⟨σ1,p1,p2,p3,p4,p5⟩:=j5 σ act okσ hH hrep;rw[←p1];refine wp_mono (r σ1 act p4 p2 p5) ?_;rintro e' a' w' ⟨rfl,σ2,q1,q2,q3,q4,q5⟩;exact⟨rfl,σ2,q1,q2,p3.trans q3,q4,q5⟩
   split at g3
   ·rename_i he;rw[he] at k3;obtain⟨ex2,a2,h2,k4,k5,k6⟩:=XL ok y _ _ _ _ _ (Zhi g2) hy (ZuY hb0) g3;exact⟨_,_,_,k4,k5,ZuW k3 k6⟩
   ·rename_i hne
    exact⟨_,_,_,g3,Zhi g2,ZqW hne k3⟩
 |.cond c x y,n,m,a,h,K,hN,hl,hb0,k=>by
  have hx:=ZuZ (x:=x) (y:=y) rfl hl;have hy:=ZqZ (x:=x) (y:=y) rfl hl;have bx:=ZBT (x:=x) (y:=y) rfl hb0;have bY:=ZzS (x:=x) (y:=y) rfl hb0;unfold evT at k;obtain⟨b,k0,k⟩:=yc.1 k;obtain⟨d,k00,k01⟩:=yc.1 k0;have hc:=Zm (L:=lk h) k00;rw[Zee k01] at hc;split at k
  ·rename_i t;cases k00;have e:=ZuM k01;split at k
   ·rename_i hb;subst hb;rw[set_same e] at k;obtain⟨ex,a1,h1,k1,k2,k3⟩:=XL ok x _ _ _ _ _ hN hx bx k;exact⟨_,_,_,k1,k2,Zhk hc k3⟩
   ·rename_i hb;have hb:b=false:=by simpa using hb
    subst hb;rw[set_same e] at k;obtain⟨ex,a1,h1,k1,k2,k3⟩:=XL ok y _ _ _ _ _ hN hy bY k;exact⟨_,_,_,k1,k2,Zhk hc k3⟩
  ·split at k
   ·rename_i hb;subst hb;obtain⟨ex,a1,h1,k1,k2,k3⟩:=XL ok x _ _ _ _ _ hN hx bx k;exact⟨_,_,_,k1,k2,Zhk hc k3⟩
   ·rename_i hb;have hb:b=false:=by simpa using hb
    subst hb;obtain⟨ex,a1,h1,k1,k2,k3⟩:=XL ok y _ _ _ _ _ hN hy bY k
    exact⟨_,_,_,k1,k2,Zhk hc k3⟩
 |.block id body,n,m,a,h,K,hN,hl,hb0,k=>by
  unfold evT at k;obtain⟨ex,a1,h1,k1,k2,k3⟩:=XL ok body _ _ _ _ _ hN hl hb0 k
  exact⟨_,_,_,k1,k2,ZwR k3⟩
 |.scope body,n,m,a,h,K,hN,hl,hb0,k=>by
  unfold evT at k;obtain⟨ex,a1,h1,k1,k2,k3⟩:=XL ok body _ _ _ _ _ hN hl hb0 k
  exact⟨_,_,_,k1,k2,ZwS k3⟩
 |.loop body,n,m,a,h,K,hN,hl,hb0,k=>by
  unfold evT at k;split at k
  ·rename_i lpv hlp;obtain⟨lp,v⟩:=lpv;obtain⟨hlp,vs,j1,j2⟩:=Zdg hlp;dsimp only at hlp j1 j2 k;obtain⟨o,j3,k⟩:=yc.1 k;obtain⟨e,vs',s,g1,g2,g3⟩:=Zjv k;obtain⟨a3,h3,j4,j5⟩:=ZqY rfl j1;have hok:=hl 0 body rfl lp (by rw[Nat.add_zero];exact hlp);rw[hN] at g2 j4;have e1:=Qh _ _ _ j2;have r:=hok v o j3 (a3,h3) (by rw[e1];exact j4) e vs' s g1 g2;refine⟨_,_,_,g3,Zhi g2, ?_⟩;intro σ act okσ hH hrep;obtain⟨σ1,p1,p2,p3,p4,p5⟩:=j5 σ act okσ hH hrep;rw[←p1];refine wp_mono (r σ1 act p4 p2 p5) ?_;rintro e' a' w' ⟨rfl,σ2,q1,q2,q3,q4,q5⟩;exact⟨rfl,σ2,q1,q2,p3.trans q3,q4,q5⟩
  ·have hl1:ZhJ P fi N body (n+1):=λk b hk lp hl2=>hl (k+1) b (by rw[ZA,yay];exact hk) lp (by rw[show n+(k+1)=n+1+k by omega];exact hl2);obtain⟨ex,a1,h1,k1,k2,k3⟩:=ZlM (λa h K out hN k=>XL ok body _ _ _ _ K hN hl1 hb0 k) _ _ _ _ _ hN k
   exact⟨ex,a1,h1,k1,k2,ZqB k3⟩
 |.rangeFunc _ _ _ _,_,_,_,_,_,_,_,_,k=>by cases k
 |.goto _,_,_,_,_,_,_,_,_,k=>by cases k
 |.refuse _,_,_,_,_,_,_,_,_,k=>by cases k
end
end Go.Ev
end
section
namespace Go.Ev
def Zh{I X:Type}(step:I→Option (I⊕X)):Nat→I→Option X
 |0,_=>none
 |n+1,i=>(step i).bind λr=>match r with
  |.inl j=>Zh step n j
  |.inr x=>some x
theorem ZBV:∃n:Nat,n=18446744073709551616:=⟨_,rfl⟩
noncomputable def fuel:Nat:=Classical.choose ZBV
theorem ZjD:fuel=18446744073709551616:=Classical.choose_spec ZBV
section
variable{P:yg}
def ZD8(n0:Nat)(ex:Ex)(a:List TD)(h:List TEnt):(l:List XSh)→Option (XSh.sum l)
 |[]=>none
 |[e]=>if ex=e.ex then(ZsG n0 e.sl e.es a h).bind λvs=>toD e.ty vs else none
 |e::f::r=>match (if ex=e.ex then(ZsG n0 e.sl e.es a h).bind λvs=>toD e.ty vs else none) with
  |some x=>some (Sum.inl x:Ty.dens e.ty⊕XSh.sum (f::r))
  |none=>(ZD8 n0 ex a h (f::r)).map λx=>(Sum.inr x:Ty.dens e.ty⊕XSh.sum (f::r))
theorem Zq0{n0:Nat}{ex:Ex}{a:List TD}{h:List TEnt}:∀{l:List XSh}{o:XSh.sum l},ZD8 n0 ex a h l=some o→∀e vs,ZuD l o e vs→ex=e.ex∧ZsG n0 e.sl e.es a h=some vs
 |[],_,k,_,_,_=>by cases k
 |[e],o,k,x,vs,hs=>by
  obtain⟨rfl,rfl⟩:=hs;have k:(if ex=x.ex then(ZsG n0 x.sl x.es a h).bind λvs=>toD x.ty vs else none)=some o:=k
  split at k
  ·rename_i he;obtain⟨ws,h1,h2⟩:=yc.1 k;exact⟨he,by rw[h1,Qh _ _ _ h2]⟩
  ·cases k
 |e::f::r,o,k,x,vs,hs=>by
  simp only[ZD8] at k;split at k
  ·rename_i y hy;cases k;obtain⟨rfl,rfl⟩:=hs;split at hy
   ·rename_i he;obtain⟨ws,h1,h2⟩:=yc.1 hy;exact⟨he,by rw[h1,Qh _ _ _ h2]⟩
   ·cases hy
  ·obtain⟨y,h1,h2⟩:=Ze k;subst h2;exact Zq0 h1 x vs hs
def Zq1(P:yg)(fi:FI)(specs:Sp P)(body:Code)(n N:Nat)(sl:Slots)(es:List ESh)(I:List Ty)(xs:List XSh):Ty.dens I→Option (Ty.dens I⊕XSh.sum xs):=λv=>
 (Wq N sl es (ofD I v)).bind λs=>evT P fi specs body (n+1) 0 s.1 s.2 λex a h=>match ex with
   |.normal=>(ZsG s.2.length sl es a h).bind λvs=>(toD I vs).map .inl
   |ex=>(ZD8 s.2.length ex a h xs).map .inr
theorem ZBW{fi:FI}{specs:Sp P}{body:Code}{n N:Nat}{sl:Slots}{es:List ESh}{I:List Ty}{xs:List XSh}(ok:SpOk specs)(hl:ZhJ P fi N body (n+1))(hb0:Zfq P fi N body 0):
 ∀(f:Nat)(v:Ty.dens I)(o:XSh.sum xs),Zh (Zq1 P fi specs body n N sl es I xs) f v=some o→∀s,Wq N sl es (ofD I v)=some s→∀e vs s',ZuD xs o e vs→Wq N e.sl e.es vs=some s'→
  Zqy P body (TD.ers (lk s.2) s.1) (erH s.2) e.ex (TD.ers (lk s'.2) s'.1) (erH s'.2)
 |0,_,_,h,_,_,_,_,_,_,_=>by cases h
 |f+1,v,o,h,s,hs,e,vs,s',hx,hs'=>by
  unfold Zh at h;obtain⟨r,h1,h2⟩:=yc.1 h;unfold Zq1 at h1;rw[hs,ya] at h1;obtain⟨ex,a,h3,k1,k2,k3⟩:=XL ok body _ _ _ _ _ (Zhi hs) hl hb0 h1;split at k1
  ·obtain⟨ws,g1,k1⟩:=yc.1 k1;obtain⟨w,g2,rfl⟩:=Ze k1;obtain⟨a3,h4,g3,g4⟩:=ZqX (P:=P) g1;rw[k2] at g3;have r1:=g4 (Zy _) k3;have:=ZBW ok hl hb0 f w o h2 (a3,h4) (by rw[Qh _ _ _ g2];exact g3) e vs s' hx hs';exact ZqA [] r1 this
  ·rename_i hne;obtain⟨w,g2,rfl⟩:=Ze k1;cases h2;obtain⟨g5,g6⟩:=Zq0 g2 e vs hx;obtain⟨a3,h4,g3,g4⟩:=ZqX (P:=P) g6;rw[k2,hs'] at g3;cases g3;subst g5;exact Zqz hne (g4 (Zy _) k3)
theorem ZG3{fi:FI}{specs:Sp P}{body:Code}{n N:Nat}{sl:Slots}{es:List ESh}{I:List Ty}{xs:List XSh}{step:Ty.dens I→Option (Ty.dens I⊕XSh.sum xs)}(f:Nat)(ok:SpOk specs)(hl:ZhJ P fi N body (n+1))(hb0:Zfq P fi N body 0)
 (h:∀v,Zq1 P fi specs body n N sl es I xs v=step v):Lp.Ok P N body ⟨sl,es,I,xs,Zh step f⟩:=by
 intro v o hL s hs e vs s' hx hs';have e1:Zq1 P fi specs body n N sl es I xs=step:=funext h;subst e1;exact ZqB (ZBW ok hl hb0 f v o hL s hs e vs s' hx hs')
theorem ZaL:∀(c:Code)(k:Nat)(b:Code),(ZA c)[k]? =some (.loop b)→∀j x,(ZA b)[j]? =some x→(ZA c)[k+1+j]? =some x
 |.seq x y,k,b,h,j,z,hz=>by
  simp only[ZA] at h ⊢;rcases ybt k (ZA x).length with hl|hl
  ·rw[yam hl] at h;have:=ZaL x k b h j z hz;rw[yam (yq.1 this).1];exact this
  ·rw[yar hl] at h;have:=ZaL y _ b h j z hz;rw[yar (by omega)];rw[show k+1+j - (ZA x).length=k - (ZA x).length+1+j by omega]
   exact this
 |.cond _ x y,k,b,h,j,z,hz=>by
  simp only[ZA] at h ⊢;rcases ybt k (ZA x).length with hl|hl
  ·rw[yam hl] at h;have:=ZaL x k b h j z hz;rw[yam (yq.1 this).1];exact this
  ·rw[yar hl] at h;have:=ZaL y _ b h j z hz;rw[yar (by omega)];rw[show k+1+j - (ZA x).length=k - (ZA x).length+1+j by omega]
   exact this
 |.block _ a,k,b,h,j,z,hz=>ZaL a k b h j z hz
 |.scope a,k,b,h,j,z,hz=>ZaL a k b h j z hz
 |.loop a,k,b,h,j,z,hz=>by
  simp only[ZA] at h ⊢
  cases k with
  |zero=>
   simp only[ybw,yj,Code.loop.injEq] at h;subst h;rw[show 0+1+j=j+1 by omega,yay]
   exact hz
  |succ k=>
   rw[yay] at h;rw[show k+1+1+j=(k+1+j)+1 by omega,yay]
   exact ZaL a k b h j z hz
 |.skip,_,_,h,_,_,_=>by simp[ZA] at h
 |.region _ _ _,_,_,h,_,_,_=>by simp[ZA] at h
 |.rangeFunc _ _ _ _,_,_,h,_,_,_=>by simp[ZA] at h
 |.exit _,_,_,h,_,_,_=>by simp[ZA] at h
 |.ret,_,_,h,_,_,_=>by simp[ZA] at h
 |.label _,_,_,h,_,_,_=>by simp[ZA] at h
 |.goto _,_,_,h,_,_,_=>by simp[ZA] at h
 |.refuse _,_,_,h,_,_,_=>by simp[ZA] at h
def ZjE(P:yg)(g:yu)(N:Nat):List (Nat×Lp)→Prop
 |[]=>True
 |q::r=>q.2.Ok P N (QY P g q.1)∧ZjE P g N r
theorem ZkS{g:yu}{N:Nat}:∀{l:List (Nat×Lp)}{n:Nat}{lp:Lp},ZjE P g N l→(n,lp)∈l→lp.Ok P N (QY P g n)
 |[],_,_,_,h=>by cases h
 |q::r,n,lp,hk,h=>by
  rcases yax.1 h with h|h
  ·subst h;exact hk.1
  ·exact ZkS hk.2 h
def Za2(P:yg)(g:yu):Code:=
 match P.funcs[g]? with
 |some fn=>fn.body.getD .skip
 |none=>.skip
theorem ZkT{g:yu}{k:Nat}{b:Code}(h:(ZA (Za2 P g))[k]? =some (.loop b)):QY P g k=b:=by
 unfold QY ZAJ;unfold Za2 at h;split at h
 ·rename_i fn hf;rw[hf];dsimp only
  cases hb:fn.body with
  |none=>rw[hb] at h;simp[ZA] at h
  |some c=>
   rw[hb] at h;dsimp only[Option.getD] at h ⊢;rw[yda,h];rfl
 ·simp[ZA] at h
theorem Zym{g:yu}{fi:FI}{N:Nat}(h:ZjE P g N fi.lp):ZhJ P fi N (Za2 P g) 0:=by
 intro k b hk lp hl;rw[yba] at hl;rw[←ZkT hk];exact ZkS h hl
theorem ZBX{g:yu}{fi:FI}{N k:Nat}(hk:(ZA (Za2 P g))[k]? =some (.loop (QY P g k)))(h:ZjE P g N fi.lp):ZhJ P fi N (QY P g k) (k+1):=by
 intro j b hj lp hl;have:=ZaL _ _ _ hk j _ hj;rw[←ZkT this];exact ZkS h hl
def ZjF(P:yg)(g k:Nat):Bool:=
 match (ZA (Za2 P g))[k]? with
 |some (.loop _)=>true
 |_=>false
theorem ZpK{g k:Nat}(h:ZjF P g k=true):(ZA (Za2 P g))[k]? =some (.loop (QY P g k)):=by
 unfold ZjF at h;split at h
 ·rename_i b hb;rw[hb,ZkT hb]
 ·cases h
def ZBY(c:Code)(m:Nat):Code:=((Xx c)[m]?).getD .skip
def Zq2(P:yg)(N:Nat)(c:Code):List (Nat×Lp)→Prop
 |[]=>True
 |q::r=>q.2.Is P N (ZBY c q.1)∧Zq2 P N c r
theorem Zq3{N:Nat}{c:Code}:∀{l:List (Nat×Lp)}{m:Nat}{bk:Lp},Zq2 P N c l→(m,bk)∈l→bk.Is P N (ZBY c m)
 |[],_,_,_,h=>by cases h
 |q::r,m,bk,hk,h=>by
  rcases yax.1 h with h|h
  ·subst h;exact hk.1
  ·exact Zq3 hk.2 h
theorem ZsH{fi:FI}{N:Nat}{c:Code}(h:Zq2 P N c fi.bk):Zfq P fi N c 0:=by
 intro k x hk bk hl;rw[yba] at hl;have:=Zq3 h hl;unfold ZBY at this;rw[hk] at this;exact this
theorem ZjG{fi:FI}{specs:Sp P}{g k N:Nat}{sl:Slots}{es:List ESh}{I:List Ty}{xs:List XSh}{step:Ty.dens I→Option (Ty.dens I⊕XSh.sum xs)}(ok:SpOk specs)(hl:ZjE P g N fi.lp:=by exact True.intro)(hk:ZjF P g k=true:=by kernel_rfl)
 (h:∀v,Zq1 P fi specs (QY P g k) k N sl es I xs v=step v:=by intro v;kernel_rfl) (hb:Zq2 P N (QY P g k) fi.bk:=by exact True.intro):Lp.Ok P N (QY P g k) ⟨sl,es,I,xs,Zh step fuel⟩:=
 ZG3 fuel ok (ZBX (ZpK hk) hl) (ZsH hb) h
def ZpL{O:Type}(P:yg)(a:List TD)(h:List TEnt):List ResultVar→(List TD→List Hint→Option O)→Option O
 |[],K=>K [] []
 |.tmp t::r,K=>ZpL P a h r λds hs=>K (a.getD t .junk::ds) hs
 |.cell t ty::r,K=>match a.getD t .junk with
  |.ref id path=>(ZnY h id).bind λd=>gpT (lk h) path d λsub hs _=>if okT P ty (sub.er (lk h))=true then ZpL P a h r λds hs'=>K (sub::ds) (hs++hs') else none
  |_=>none
theorem Zej{O:Type}{a:List TD}{h:List TEnt}{out:O}:∀(l:List ResultVar)(K:List TD→List Hint→Option O),ZpL P a h l K=some out→∃ds hs C,K ds hs=some out∧AllP C∧∀rest,Zps P (TD.ers (lk h) a) (erH h) l (hs++rest)=some (C,TD.ers (lk h) ds)
 |[],K,k=>⟨[],[],[],k,trivial,λ_=>rfl⟩
 |.tmp t::r,K,k=>by
  obtain⟨ds,hs,C,k1,k2,k3⟩:=Zej r _ k;refine⟨_,_,C,k1,k2,λrest=> ?_⟩
  simp only[Zps,k3 rest,yad,Zjg,TD.ers]
 |.cell t ty::r,K,k=>by
  unfold ZpL at k;split at k
  ·rename_i id path hx;obtain⟨d,h1,k⟩:=yc.1 k;obtain⟨st,h2,h3⟩:=Zca h1;obtain⟨sub,hs,put,C,g1,g2,g3,_⟩:=YS _ _ _ _ k;obtain⟨g4,g5⟩:=Za g1;obtain⟨ds,hs',C',k1,k2,k3⟩:=Zej r _ g5;refine⟨_,_,C++[V1 path=Xu path]++C',k1,Zl.2 ⟨Zl.2 ⟨g2,(YY _).symm,ytt⟩,k2⟩,λrest=> ?_⟩;unfold Zps;rw[Zjg,hx];dsimp only[TD.er];rw[h3];dsimp only;rw[yao,g3 (hs'++rest)];dsimp only;rw[if_pos g4,k3 rest];rfl
  ·cases k
def Zoq:List TD→TD
 |[d]=>d
 |ds=>.tup ds
theorem Zhl{L:Lk}(ds:List TD):(Zoq ds).er L=Zna (TD.ers L ds):=by
 match ds with
 |[]=>rfl
 |[d]=>rfl
 |_::_::_=>rfl
def TD.arg(L:Lk):TD→TD
 |.own id nn t c=>.p (.sl nn t (ZS L id t c))
 |.agg ds=>TD.melt L ds
 |d=>d
theorem ZwW{L:Lk}(d:TD):(d.arg L).er L=(d.er L).arg:=by
 cases d <;> first|rfl|exact ZxU _
def ZBZ(h:List TEnt)(rs:Sh)(es:List ESh)(n0:Nat)(r:TD):Option (List Nat):=
 let l:=ZFP h es 0 ((yv n0).map (λi=>(i,i))++Sh.ids rs r)
 ((yv es.length).drop n0).mapM λj=>l.lookup j
def ZD9(h:List TEnt)(n0:Nat)(ds:List TD)(e:XSh):Option (Ty.dens e.ty):=
 match e.sl with
 |[(0,rs)]=>(ZBZ h rs e.es n0 (Zoq ds)).bind λkeep=>
  if once (yv n0++keep) then(match Dv.rn (toIds (yv n0++keep)) ((Zoq ds).er (lk h)) with
   |some _=>(Zoq ds).rn (toIds (yv n0++keep))
   |none=>(Zoq (ds.map (TD.arg (lk h)))).rn (toIds (yv n0++keep))).bind λr=>
   (Xv h (yv n0++keep) (yv n0++keep)).bind λh2=>(Sh.mt (lk h2) rs r).bind λq=>(ESh.mts (lk h2) e.es h2).bind λw=>toD e.ty (q.2++w.2)
  else none
 |_=>none
def Zu0(h:List TEnt)(n0:Nat)(ds:List TD):(l:List XSh)→Option (XSh.sum l)
 |[]=>none
 |[e]=>ZD9 h n0 ds e
 |e::f::r=>match ZD9 h n0 ds e with
  |some x=>some (Sum.inl x:Ty.dens e.ty⊕XSh.sum (f::r))
  |none=>(Zu0 h n0 ds (f::r)).map λx=>(Sum.inr x:Ty.dens e.ty⊕XSh.sum (f::r))
theorem Zor{h:List TEnt}{n0:Nat}{ds:List TD}:∀{l:List XSh}{o:XSh.sum l},Zu0 h n0 ds l=some o→∀e vs,ZuD l o e vs→∃x,ZD9 h n0 ds e=some x∧vs=ofD e.ty x
 |[],_,k,_,_,_=>by cases k
 |[e],o,k,x,vs,hs=>by
  obtain⟨rfl,rfl⟩:=hs
  exact⟨o,k,rfl⟩
 |e::f::r,o,k,x,vs,hs=>by
  simp only[Zu0] at k;split at k
  ·rename_i y hy;cases k;obtain⟨rfl,rfl⟩:=hs;exact⟨y,hy,rfl⟩
  ·obtain⟨y,h1,h2⟩:=Ze k;subst h2;exact Zor h1 x vs hs
def fnT(P:yg)(fi:FI)(specs:Sp P)(g:yu)(ps:List Sh)(es:List ESh)(ins:List Ty)(xs:List XSh):Ty.dens ins→Option (XSh.sum xs):=λx=>
 match P.funcs[g]? with
 |some fn=>match fn.body with
  |some c=>(Sh.fills ps (ofD ins x)).bind λq=>(ESh.fills es q.2).bind λw=>if w.2.isEmpty then
    evT P fi specs c 0 0 (q.1++yae (fn.ntmps - q.1.length) .junk) w.1 λex a h=>match ex with
     |.exit _=>none
     |_=>ZpL P a h fn.results.toList λds _=>Zu0 h w.1.length ds xs
    else none
  |none=>none
 |none=>none
def Q5(P:yg)(g:yu):Nat:=
 match P.funcs[g]? with
 |some fn=>fn.ntmps
 |none=>0
theorem ZG4{fi:FI}{specs:Sp P}{g:yu}{ps:List Sh}{es:List ESh}{ins:List Ty}{xs:List XSh}{M:Ty.dens ins→Option (XSh.sum xs)}(ok:SpOk specs)(hl:ZjE P g (Q5 P g) fi.lp:=by exact True.intro)(hn:ps.length≤Q5 P g:=by decide+kernel)
 (h:∀x,fnT P fi specs g ps es ins xs x=M x:=by intro v;kernel_rfl) (hb:Zq2 P (Q5 P g) (Za2 P g) fi.bk:=by exact True.intro):Fs.Ok (⟨g,ps,es,ins,xs,M⟩:Fs P):=by
 intro x o hM;have hM:M x=some o:=hM;rw[←h x] at hM;have hl':=Zym hl;unfold fnT at hM;split at hM
 ·rename_i fn hf;split at hM
  ·rename_i c hb1;obtain⟨q,h1,hM⟩:=yc.1 hM;obtain⟨w,h2,hM⟩:=yc.1 hM;obtain⟨h3,hM⟩:=Za hM;have hN:Q5 P g=fn.ntmps:=by unfold Q5;rw[hf]
   have hc:Za2 P g=c:=by unfold Za2;rw[hf];dsimp only;rw[hb1];rfl
   rw[hc,hN] at hl' hb;have hb0:=ZsH hb;rw[hN] at hn
   have hlen:(q.1++yae (fn.ntmps - q.1.length) TD.junk).length=fn.ntmps:=by
    rw[yr,yct,Zhh h1];omega
   obtain⟨ex,a,hh,k1,k2,k3⟩:=XL ok c _ _ _ _ _ hlen hl' hb0 hM
   have hex:(ex=.ret∨ex=.normal)∧(ZpL P a hh fn.results.toList λds _=>Zu0 hh w.1.length ds xs)=some o:=by
    cases ex with
    |exit _=>cases k1
    |normal=>exact⟨.inr rfl,k1⟩
    |ret=>exact⟨.inl rfl,k1⟩
   obtain⟨hex,k1⟩:=hex;obtain⟨ds,hs,C,g1,g2,g3⟩:=Zej _ _ k1;refine⟨q.1,q.2,w.1,h1, ?_,λe vs s' hsel hfs=> ?_⟩
   ·rw[h2];have:w.2=[]:=by simpa using h3
    rw[←this]
   obtain⟨o1,g1,hvs⟩:=Zor g1 e vs hsel;unfold ZD9 at g1;split at g1
   case h_2=>cases g1
   rename_i rs hsl;obtain⟨keep,g4,g1⟩:=yc.1 g1;obtain⟨g5,g1⟩:=Za g1;obtain⟨r,g6,g1⟩:=yc.1 g1;obtain⟨e2,g7,g1⟩:=yc.1 g1;obtain⟨z,g8,g1⟩:=yc.1 g1;obtain⟨y,g9,g1⟩:=yc.1 g1;obtain⟨b1,b2⟩:=Zeh g9;have hcc:∀id t,ZS (lk e2) id t none=ZS (lk y.1) id t none:=λid t=>by rw[b2]
   have eo:=Qh _ _ _ g1
   have efill:s'=([z.1],y.1):=by
    rw[hvs,eo,hsl] at hfs;unfold Wq at hfs;rw[show shs [(0,rs)] 1=[rs] from rfl] at hfs
    simp only[Sh.fills,Zhf _ _ _ g8,ya,yad] at hfs;have:=VG g9 [];rw[ybl] at this;rw[this] at hfs;exact(ybe hfs).symm
   subst efill;refine⟨z.1,rfl, ?_⟩
   have hfin:fin P fn (TD.ers (lk hh) a) (erH hh) (erH w.1).length keep hs=some (C,r.er (lk e2),erH e2):=by
    unfold fin;have:=g3 [];rw[ybl] at this;rw[this];dsimp only;rw[Zy,g5, ←Zhl,show subEnts (erH hh) _ _=some (erH e2) from Xf (Vq g7) g7]
    split at g6
    ·rename_i r0 hr0;have e4:=Zce (Vq g7) _ _ g6;rw[e4]
    ·rename_i hr0;have e4:=Zce (Vq g7) _ _ g6;rw[Zhl,Zu,yaz] at e4
     rw[hr0,show(TD.ers (lk hh) ds).map Dv.arg=ds.map (TD.er (lk hh) ∘ TD.arg (lk hh)) by
      rw[Zu,yaz];exact ycj λd _=>(ZwW d).symm,e4]
   have hrun:Xr P c (TD.ers (lk w.1) q.1++yae (fn.ntmps - (TD.ers (lk w.1) q.1).length) .junk) (erH w.1) ex (TD.ers (lk hh) a) (erH hh):=by
    have e5:TD.ers (lk w.1) (q.1++yae (fn.ntmps - q.1.length) TD.junk)=TD.ers (lk w.1) q.1++yae (fn.ntmps - (TD.ers (lk w.1) q.1).length) .junk:=by
     rw[Zc8,Zu,Zu,yak,List.map_replicate];rfl
    rw[←e5];exact k3
   exact Zt4 (Zge hf hb1 hrun hex hfin g2) (Zn6 hcc _ _ _ g8) (Zhg hcc g9)
  ·cases hM
 ·cases hM
end
theorem ZwX{P:yg}{g:yu}{t:Ty}{xs:List XSh}{MA:Ty.dens [.sl t]→Option (XSh.sum xs)}{MB:Ty.dens []→Option (XSh.sum xs)}(hA:Fs.Ok (⟨g,[.sl true t],[],[.sl t],xs,MA⟩:Fs P))(hB:Fs.Ok (⟨g,[.nil t],[],[],xs,MB⟩:Fs P))
 (h:MB ()=MA ([]:List t.den)):Fs.Ok (⟨g,[.v (.sl t)],[],[.sl t],xs,MA⟩:Fs P):=by
 intro l o hM;have key:∀(l:List t.den),Ty.cast (.sl t) (.sl t) l=some l:=λl=>Z2 (.sl t) l;obtain⟨a1,R1,H1,f1,f2,f3⟩:=hA l o hM
 have e1:a1=[.p (.sl (some true) t l)]∧R1=[]:=by
  have:Sh.fills [.sl true t] [(⟨.sl t,l⟩:TV)]=some (a1,R1):=f1;simp only[Sh.fills,Sh.fill] at this;rw[key l] at this;have this:some (([.p (.sl (some true) t l)]:List TD),([]:List TV))=some (a1,R1):=this;cases this;exact⟨rfl,rfl⟩
 obtain⟨rfl,rfl⟩:=e1;cases f2;refine⟨[.p (.v (.sl t) l)],[],[], ?_,rfl,λe vs s' hs hf=> ?_⟩
 ·show Sh.fills [.v (.sl t)] [(⟨.sl t,l⟩:TV)]=_;simp only[Sh.fills,Sh.fill];rw[key l];rfl
 ·obtain⟨r,r1,r2⟩:=f3 e vs s' hs hf;refine⟨r,r1, ?_⟩;refine ZxM (xs:=l.map t.enc) r2 λhl=> ?_;have hl:l=[]:=List.map_eq_nil_iff.1 hl;subst hl;obtain⟨a2,R2,H2,g1,g2,g3⟩:=hB () o (by rw[←hM];exact h);cases g1;cases g2;obtain⟨r',r1',r2'⟩:=g3 e vs s' hs hf;rw[r1] at r1';cases r1';exact r2'
def Zos(n:Int):Option (List UInt8):=if(decide (0≤n)&&decide (n.toNat≤Zn))=true then some [] else none
theorem ZEa{P:yg}{g:yu}{e:yb}(h:∀n:Nat,n≤Zn→Con P g [.p (.sl (some false) 1 []),.p (.int .i64 (n:Int))] [] (.own 0 none 1 []) [.log 1 e []]):
 Fs.Ok (⟨g,[.nil .u8,.v (.int .i64)],[],[.int .i64],[⟨.ret,[(0,.own 0 .u8)],[.log .u8 e],[.sl .u8]⟩],Zos⟩:Fs P):=by
 intro n o hM
 have key:∀(n:Int),Zos n=some o→(0≤n∧n.toNat≤Zn)∧([]:List UInt8)=o:=λn hM=>by
  unfold Zos at hM;obtain⟨h1,h2⟩:=Za (α:=List UInt8) hM;rw[yi,decide_eq_true_eq,decide_eq_true_eq] at h1;exact⟨h1,ybe h2⟩
 obtain⟨h1,h2⟩:=key n hM;cases h2;refine⟨[.p (.sl (some false) .u8 []),.p (.v (.int .i64) n)],[],[],rfl,rfl,λx vs s' hs hf=> ?_⟩;obtain⟨rfl,rfl⟩:=hs;cases hf;refine⟨_,rfl, ?_⟩;have:=h (Int.toNat n) h1.2;rw[Int.toNat_of_nonneg h1.1] at this;exact this
mutual
theorem Zq4:∀(s:Sh)(vs w:List TV)(q:TD×List TV),s.fill vs=some q→s.fill (vs++w)=some (q.1,q.2++w)
 |.v t,vs,w,q,h=>by
  cases vs with
  |nil=>cases h
  |cons x r=>
   obtain⟨y,h1,rfl⟩:=Ze (show(Ty.cast x.1 t x.2).map (λy=>((TD.p (.v t y),r):TD×List TV))=some q from h)
   show(Ty.cast x.1 t x.2).map (λy=>((TD.p (.v t y),r++w):TD×List TV))=_
   rw[h1];rfl
 |.elem t,vs,w,q,h=>by
  cases vs with
  |nil=>cases h
  |cons x r=>
   obtain⟨y,h1,rfl⟩:=Ze (show(Ty.cast x.1 t x.2).map (λy=>((TD.elem (.v t y),r):TD×List TV))=some q from h)
   show(Ty.cast x.1 t x.2).map (λy=>((TD.elem (.v t y),r++w):TD×List TV))=_
   rw[h1];rfl
 |.sl nn t,vs,w,q,h=>by
  cases vs with
  |nil=>cases h
  |cons x r=>
   obtain⟨y,h1,rfl⟩:=Ze (α:=(Ty.sl t).den) (show(Ty.cast x.1 (.sl t) x.2).map (λ(y:List t.den)=>((TD.p (.sl (some nn) t y),r):TD×List TV))=some q from h)
   show(Ty.cast x.1 (.sl t) x.2).map (λ(y:List t.den)=>((TD.p (.sl (some nn) t y),r++w):TD×List TV))=_
   rw[h1];rfl
 |.nil _,vs,w,q,h=>by cases h;rfl
 |.own _ _,vs,w,q,h=>by cases h;rfl
 |.ref _ _,vs,w,q,h=>by cases h;rfl
 |.mp _,vs,w,q,h=>by cases h;rfl
 |.rw _,vs,w,q,h=>by cases h;rfl
 |.rp j s p,vs,w,q,h=>by
  cases vs with
  |nil=>cases h
  |cons x r=>
   obtain⟨y,h1,rfl⟩:=Ze (α:=Int) (show(Ty.cast x.1 (.int .i64) x.2).map (λ(i:Int)=>((TD.rp j (.ix i.toNat s::p),r):TD×List TV))=some q from h)
   show(Ty.cast x.1 (.int .i64) x.2).map (λ(i:Int)=>((TD.rp j (.ix i.toNat s::p),r++w):TD×List TV))=_
   rw[h1];rfl
 |.view _ _ _ _ _,vs,w,q,h=>by cases h;rfl
 |.rv _ _ _ _ _,vs,w,q,h=>by cases h;rfl
 |.fn g l,vs,w,q,h=>by
  simp only[Sh.fill] at h ⊢;obtain⟨y,h1,rfl⟩:=Ze h
  rw[fills_more l vs w y h1];rfl
 |.agg l,vs,w,q,h=>by
  simp only[Sh.fill] at h ⊢;obtain⟨y,h1,rfl⟩:=Ze h
  rw[fills_more l vs w y h1];rfl
 |.arr n s l,vs,w,q,h=>by
  simp only[Sh.fill] at h ⊢;obtain⟨y,h1,rfl⟩:=Ze h
  rw[fills_more l vs w y h1];rfl
 |.tup l,vs,w,q,h=>by
  simp only[Sh.fill] at h ⊢;obtain⟨y,h1,rfl⟩:=Ze h
  rw[fills_more l vs w y h1];rfl
 |.iface t x,vs,w,q,h=>by
  simp only[Sh.fill] at h ⊢;obtain⟨y,h1,rfl⟩:=Ze h
  rw[Zq4 x vs w y h1];rfl
 |.ptr0,vs,w,q,h=>by cases h;rfl
 |.fn0,vs,w,q,h=>by cases h;rfl
 |.if0,vs,w,q,h=>by cases h;rfl
 |.map0,vs,w,q,h=>by cases h;rfl
 |.junk,vs,w,q,h=>by cases h;rfl
theorem fills_more:∀(l:List Sh)(vs w:List TV)(q:List TD×List TV),Sh.fills l vs=some q→Sh.fills l (vs++w)=some (q.1,q.2++w)
 |[],vs,w,q,h=>by simp only[Sh.fills] at h;cases h;rfl
 |s::r,vs,w,q,h=>by
  simp only[Sh.fills] at h ⊢;obtain⟨a,h1,h⟩:=yc.1 h;obtain⟨b,h2,rfl⟩:=Ze h;rw[Zq4 s vs w a h1,ya,fills_more r a.2 w b h2];rfl
end
theorem ZF1{P:yg}{g:yu}{t:Ty}{e:yb}{rest:List Sh}{i1 i2:List Ty}{xs:List XSh}{M:Ty.dens i2→Option (XSh.sum xs)}(pk:Ty.dens i1→Ty.dens i2)(h:Fs.Ok (⟨g,.own 0 t::rest,[.log t e],i2,xs,M⟩:Fs P))
 (hp:∀x,ofD i2 (pk x)=ofD i1 x++[⟨.sl t,([]:List t.den)⟩]) (hf:∀x,∃a,Sh.fills rest (ofD i1 x)=some (a,[])):Fs.Ok (⟨g,.nil t::rest,[],i1,xs,λx=>M (pk x)⟩:Fs P):=by
 intro x o hM;obtain⟨args,R,H,f1,f2,f3⟩:=h (pk x) o hM;obtain⟨a,ha⟩:=hf x;have f1:Sh.fills (.own 0 t::rest) (ofD i2 (pk x))=some (args,R):=f1;rw[hp x] at f1;simp only[Sh.fills,Sh.fill,ya,fills_more rest _ _ _ ha,yad,yj,ym,yy] at f1;obtain⟨rfl,rfl⟩:=f1;have f2:((Ty.cast (.sl t) (.sl t) ([]:List t.den)).map λ(y:List t.den)=>((TEnt.log t e y,[]):TEnt×List TV)).bind (λa=>(ESh.fills [] a.2).map λb=>(a.1::b.1,b.2))=some (H,[]):=f2;have key:Ty.cast (.sl t) (.sl t) ([]:List t.den)=some ([]:List t.den):=Z2 (.sl t) ([]:List t.den);rw[key] at f2;cases f2;refine⟨.p (.sl (some false) t [])::a,[],[], ?_,rfl,λx' vs s' hs hf'=> ?_⟩
 ·show Sh.fills (.nil t::rest) (ofD i1 x)=_;simp only[Sh.fills,Sh.fill,ya,ha,yad]
 ·obtain⟨r,r1,r2⟩:=f3 x' vs s' hs hf';refine⟨r,r1, ?_⟩
  have e1:TD.ers (lk [.log t e []]) (.own 0 none t none::a)=.own 0 none t.size []::TD.ers (lk []) a:=by
   have e0:TD.ers (lk [.log t e []]) a=TD.ers (lk []) a:=(ers_cont (λid t'=>Zjr (H:=[]) (T:=t) (e:=e) id t') a).symm;rw[TD.ers,e0];congr 1;rw[TD.er,show ZS (lk [.log t e []]) 0 t none=[] from Q1 (H:=[])]
   rfl
  have r2:Con P g (TD.ers (lk [.log t e []]) (.own 0 none t none::a)) (erH [.log t e []]) (r.er (lk s'.2)) (erH s'.2):=r2;rw[e1] at r2;exact Zt5 (H:=[]) (e:=e) r2
section
variable{P:yg}
theorem fnO(h:HI)(lp:List (Nat×Lp))(l:List (Fs P))(a:AllOk l){g:yu}{ps:List Sh}{es:List ESh}{ins:List Ty}{xs:List XSh}{M:Ty.dens ins→Option (XSh.sum xs)}(hl:ZjE P g (Q5 P g) lp:=by exact True.intro)(hn:ps.length≤Q5 P g:=by decide+kernel)
 (k:∀x,fnT P { hi:=h,lp:=lp} { l:=l} g ps es ins xs x=M x:=by intro v;kernel_rfl):Fs.Ok (⟨g,ps,es,ins,xs,M⟩:Fs P):=ZG4 (okS a) hl hn k
abbrev Lp.okA(L:Lp)(P:yg)(g k:Nat):Prop:=L.Ok P (Q5 P g) (QY P g k)
theorem ZU(h:HI)(lp:List (Nat×Lp))(l:List (Fs P))(a:AllOk l){g k N:Nat}{sl:Slots}{es:List ESh}{I:List Ty}{xs:List XSh}{step:Ty.dens I→Option (Ty.dens I⊕XSh.sum xs)}(hl:ZjE P g N lp:=by exact True.intro)(hk:ZjF P g k=true:=by kernel_rfl)
 (h':∀v,Zq1 P { hi:=h,lp:=lp} { l:=l} (QY P g k) k N sl es I xs v=step v:=by intro v;kernel_rfl):Lp.Ok P N (QY P g k) ⟨sl,es,I,xs,Zh step fuel⟩:=ZjG (okS a) hl hk h'
end
end Go.Ev
end
section
namespace Go.Ev
universe u
variable{O:Type u}
def ZaM(n:Nat)(k:Nat→O):O:=Nat.rec (motive:=λ_=>O) (k 0) (λm _=>k (Nat.succ m)) n
theorem YB(n:Nat)(k:Nat→O):ZaM n k=k n:=by cases n <;> rfl
def Zcf{α:Type}(f:α→(α→O)→O):List α→(List α→O)→O
 |[],k=>k []
 |a::r,k=>f a λa=>Zcf f r λr=>k (a::r)
theorem XX{α:Type}{f:α→(α→O)→O}(hf:∀a k,f a k=k a):∀(l:List α)(k:List α→O),Zcf f l k=k l
 |[],k=>rfl
 |a::r,k=>by rw[Zcf,hf,XX hf r]
def ZF2(n:Int)(k:Int→O):O:=match n with
 |.ofNat n=>ZaM n λn=>k (.ofNat n)
 |.negSucc n=>ZaM n λn=>k (.negSucc n)
theorem ZEb(n:Int)(k:Int→O):ZF2 n k=k n:=by cases n <;> (rw[ZF2,YB])
def Zot(b:Bool)(k:Bool→O):O:=match b with
 |true=>k true
 |false=>k false
theorem Zek(b:Bool)(k:Bool→O):Zot b k=k b:=by cases b <;> rfl
mutual
def Ty.fo:(t:Ty)→t.den→(t.den→O)→O
 |.int _,x,k=>ZF2 x k
 |.u8,x,k=>ZaM (UInt8.toNat x) λn=>k (UInt8.ofNat n)
 |.u32,x,k=>ZaM (UInt32.toNat x) λn=>k (UInt32.ofNat n)
 |.u64,x,k=>ZaM (UInt64.toNat x) λn=>k (yai n)
 |.bool,x,k=>Zot x k
 |.str,x,k=>k x
 |.sl t,x,k=>Zcf (Ty.fo t) x k
 |.arr _ t,x,k=>Zcf (Ty.fo t) x k
 |.st fs,x,k=>Ty.fos fs x k
def Ty.fos:(fs:List Ty)→Ty.dens fs→(Ty.dens fs→O)→O
 |[],_,k=>k ()
 |[t],x,k=>Ty.fo t x k
 |t::u::r,x,k=>Ty.fo t x.1 λa=>Ty.fos (u::r) x.2 λb=>k (a,b)
end
mutual
theorem Ty.fo_eq:∀(t:Ty)(x:t.den)(k:t.den→O),t.fo x k=k x
 |.int _,x,k=>ZEb x k
 |.u8,x,k=>by rw[Ty.fo,YB];exact congrArg k UInt8.ofNat_toNat
 |.u32,x,k=>by rw[Ty.fo,YB];exact congrArg k UInt32.ofNat_toNat
 |.u64,x,k=>by rw[Ty.fo,YB];exact congrArg k UInt64.ofNat_toNat
 |.bool,x,k=>Zek x k
 |.str,x,k=>rfl
 |.sl t,x,k=>by rw[Ty.fo];exact XX (Ty.fo_eq t) x k
 |.arr _ t,x,k=>by rw[Ty.fo];exact XX (Ty.fo_eq t) x k
 |.st fs,x,k=>Ty.fos_eq fs x k
theorem Ty.fos_eq:∀(fs:List Ty)(x:Ty.dens fs)(k:Ty.dens fs→O),Ty.fos fs x k=k x
 |[],_,k=>rfl
 |[t],x,k=>Ty.fo_eq t x k
 |t::u::r,x,k=>by rw[Ty.fos,Ty.fo_eq t];exact Ty.fos_eq (u::r) x.2 _
end
mutual
def TP.fo:TP→(TP→O)→O
 |.v t x,k=>t.fo x λx=>k (.v t x)
 |.sl nn t xs,k=>Zcf t.fo xs λxs=>k (.sl nn t xs)
 |.agg xs,k=>TP.fos xs λxs=>k (.agg xs)
 |.arr n s xs,k=>TP.fos xs λxs=>k (.arr n s xs)
 |.sll nn s xs,k=>TP.fos xs λxs=>k (.sll nn s xs)
 |.iface t x,k=>TP.fo x λx=>k (.iface t x)
 |x,k=>k x
def TP.fos:List TP→(List TP→O)→O
 |[],k=>k []
 |x::r,k=>TP.fo x λx=>TP.fos r λr=>k (x::r)
end
mutual
theorem TP.fo_eq:∀(x:TP)(k:TP→O),x.fo k=k x
 |.v t x,k=>by rw[TP.fo,Ty.fo_eq]
 |.sl nn t xs,k=>by rw[TP.fo,XX (Ty.fo_eq t)]
 |.agg xs,k=>by rw[TP.fo,TP.fos_eq xs]
 |.arr n s xs,k=>by rw[TP.fo,TP.fos_eq xs]
 |.sll nn s xs,k=>by rw[TP.fo,TP.fos_eq xs]
 |.iface t x,k=>by rw[TP.fo,TP.fo_eq x]
 |.ptr0,k=>rfl
 |.fn0,k=>rfl
 |.if0,k=>rfl
 |.map0,k=>rfl
 |.fnv _,k=>rfl
theorem TP.fos_eq:∀(x:List TP)(k:List TP→O),TP.fos x k=k x
 |[],k=>rfl
 |x::r,k=>by rw[TP.fos,TP.fo_eq x,TP.fos_eq r]
end
def ZG5{α:Type}(f:α→(α→O)→O):Option α→(Option α→O)→O
 |none,k=>k none
 |some a,k=>f a λa=>k (some a)
theorem ZEc{α:Type}{f:α→(α→O)→O}(hf:∀a k,f a k=k a):∀(l:Option α)(k:Option α→O),ZG5 f l k=k l
 |none,k=>rfl
 |some a,k=>hf a _
mutual
def TD.fo:TD→(TD→O)→O
 |.p x,k=>x.fo λx=>k (.p x)
 |.elem x,k=>x.fo λx=>k (.elem x)
 |.own id nn t c,k=>ZaM id λid=>ZG5 (Zcf t.fo) c λc=>k (.own id nn t c)
 |.ref id q,k=>ZaM id λid=>k (.ref id q)
 |.view id q s lo n,k=>ZaM id λid=>ZaM s λs=>ZaM lo λlo=>ZaM n λn=>k (.view id q s lo n)
 |.agg xs,k=>TD.fos xs λxs=>k (.agg xs)
 |.arr n s xs,k=>ZaM n λn=>ZaM s λs=>TD.fos xs λxs=>k (.arr n s xs)
 |.fn f xs,k=>TD.fos xs λxs=>k (.fn f xs)
 |.iface t x,k=>TD.fo x λx=>k (.iface t x)
 |.tup xs,k=>TD.fos xs λxs=>k (.tup xs)
 |.mp id,k=>ZaM id λid=>k (.mp id)
 |.rv id v s lo n,k=>ZaM id λid=>ZaM v λv=>ZaM s λs=>ZaM lo λlo=>ZaM n λn=>k (.rv id v s lo n)
 |.rref id v q,k=>ZaM id λid=>ZaM v λv=>k (.rref id v q)
 |.rw id,k=>ZaM id λid=>k (.rw id)
 |.rp id q,k=>ZaM id λid=>k (.rp id q)
 |.junk,k=>k .junk
def TD.fos:List TD→(List TD→O)→O
 |[],k=>k []
 |x::r,k=>TD.fo x λx=>TD.fos r λr=>k (x::r)
end
mutual
theorem TD.fo_eq:∀(x:TD)(k:TD→O),x.fo k=k x
 |.p x,k=>by rw[TD.fo,TP.fo_eq]
 |.elem x,k=>by rw[TD.fo,TP.fo_eq]
 |.own id nn t c,k=>by rw[TD.fo,YB,ZEc (XX (Ty.fo_eq t))]
 |.ref id q,k=>by rw[TD.fo,YB]
 |.view id q s lo n,k=>by rw[TD.fo,YB,YB,YB,YB]
 |.agg xs,k=>by rw[TD.fo,TD.fos_eq xs]
 |.arr n s xs,k=>by rw[TD.fo,YB,YB,TD.fos_eq xs]
 |.fn f xs,k=>by rw[TD.fo,TD.fos_eq xs]
 |.iface t x,k=>by rw[TD.fo,TD.fo_eq x]
 |.tup xs,k=>by rw[TD.fo,TD.fos_eq xs]
 |.mp id,k=>by rw[TD.fo,YB]
 |.rv id v s lo n,k=>by rw[TD.fo,YB,YB,YB,YB,YB]
 |.rref id v q,k=>by rw[TD.fo,YB,YB]
 |.rw id,k=>by rw[TD.fo,YB]
 |.rp id q,k=>by rw[TD.fo,YB]
 |.junk,k=>rfl
theorem TD.fos_eq:∀(x:List TD)(k:List TD→O),TD.fos x k=k x
 |[],k=>rfl
 |x::r,k=>by rw[TD.fos,TD.fo_eq x,TD.fos_eq r]
end
def TEnt.fo(e:TEnt)(k:TEnt→O):O:=match e with
 |.var d st=>d.fo λd=>Zot st λst=>k (.var d st)
 |.log t e xs=>Zcf t.fo xs λxs=>k (.log t e xs)
 |.map tid a b l=>Zcf (λq k=>a.fo q.1 λx=>b.fo q.2 λy=>k (x,y)) l λl=>k (.map tid a b l)
 |.row v s st e d=>ZaM v λv=>ZaM s λs=>Zot st λst=>d.fo λd=>k (.row v s st e d)
 |.rowT t v st e xs=>Zot st λst=>Zcf t.fo xs λxs=>k (.rowT t v st e xs)
 |.rowN t np v st e a b=>Zot st λst=>Zcf t.fo a λa=>Zcf t.fo b λb=>k (.rowN t np v st e a b)
 |.rowM t np v st e a d b=>Zot st λst=>Zcf t.fo a λa=>d.fo λd=>Zcf t.fo b λb=>k (.rowM t np v st e a d b)
 |.gone=>k .gone
theorem TEnt.fo_eq(e:TEnt)(k:TEnt→O):e.fo k=k e:=by
 cases e with
 |var d st=>rw[TEnt.fo,TD.fo_eq,Zek]
 |log t e xs=>rw[TEnt.fo,XX (Ty.fo_eq t)]
 |map tid a b l=>rw[TEnt.fo,XX λq k=>by rw[Ty.fo_eq a,Ty.fo_eq b]]
 |row v s st e d=>rw[TEnt.fo,YB,YB,Zek,TD.fo_eq]
 |rowT t v st e xs=>rw[TEnt.fo,Zek,XX (Ty.fo_eq t)]
 |rowN t np v st e a b=>rw[TEnt.fo,Zek,XX (Ty.fo_eq t),XX (Ty.fo_eq t)]
 |rowM t np v st e a d b=>rw[TEnt.fo,Zek,XX (Ty.fo_eq t),TD.fo_eq,XX (Ty.fo_eq t)]
 |gone=>rfl
def foS(a:List TD)(h:List TEnt)(k:List TD→List TEnt→O):O:=TD.fos a λa=>Zcf TEnt.fo h λh=>k a h
theorem ZF3(a:List TD)(h:List TEnt)(k:List TD→List TEnt→O):foS a h k=k a h:=by rw[foS,TD.fos_eq,XX TEnt.fo_eq]
end Go.Ev
end
section
namespace Go.Ev
def ZsI(h:List TEnt)(n0:Nat)(r:TD):List Nat:=
 let got:=ZlH h 100000 (r.look++yv n0) []
 ((yv h.length).drop n0).filter got.contains
def Zyn(P:yg)(H:List TEnt)(t:yb)(d:TD):Option TD:=
 match d with
 |.p x=>some (.p x)
 |d=>(ZeP P tyD t).bind λT=>(ZqJ H 100 T d).map λy=>.p (.v T y)
theorem Zu1{P:yg}{H:List TEnt}{t:yb}{d e:TD}(h:Zyn P H t d=some e):DeepP (erH H) (d.er (lk H)) (e.er (lk H)):=by
 unfold Zyn at h;split at h
 ·cases h;exact .refl _
 ·obtain⟨T,h1,h⟩:=yc.1 h;obtain⟨y,h2,rfl⟩:=Ze h;exact .deep (Zjw _ _ _ _ h2)
def ZsJ(P:yg)(H:List TEnt):List yb→List TD→Option (List TD)
 |[],[]=>some []
 |t::r,d::ds=>match Zyn P H t d,ZsJ P H r ds with
  |some a,some b=>some (a::b)
  |_,_=>none
 |_,_=>none
theorem Zq5{P:yg}{H:List TEnt}:∀{ts:List yb}{ds es:List TD},ZsJ P H ts ds=some es→DeepL (erH H) (TD.ers (lk H) ds) (TD.ers (lk H) es)
 |[],[],es,h=>by cases h;exact .nil
 |[],_::_,es,h=>by cases h
 |_::_,[],es,h=>by cases h
 |t::r,d::ds,es,h=>by
  simp only[ZsJ] at h;split at h
  ·rename_i a b h1 h2;cases h;exact .cons (Zu1 h1) (Zq5 h2)
  ·cases h
def ZB0(P:yg)(H:List TEnt)(ts:List yb)(r:TD):Option TD:=
 match ts with
 |[t]=>Zyn P H t r
 |ts=>match r with
  |.tup ds=>(ZsJ P H ts ds).map .tup
  |_=>none
theorem ZB1{P:yg}{H:List TEnt}{ts:List yb}{r r':TD}(h:ZB0 P H ts r=some r'):DeepT (erH H) (r.er (lk H)) (r'.er (lk H)):=by
 unfold ZB0 at h;split at h
 ·exact .one (Zu1 h)
 ·split at h
  ·obtain⟨es,h1,rfl⟩:=Ze h;exact .tup (Zq5 h1)
  ·cases h
def ZzT{O:Type}(P:yg)(ts:List yb)(r:TD)(H:List TEnt)(K:TD→List TEnt→Option O):Option O:=
 match ts with
 |[]=>K r H
 |ts=>(ZB0 P (ZeS ((ZlH H 100000 r.look []).filter (ZwC H)) H) ts r).bind λr'=>K r' (ZeS ((ZlH H 100000 r.look []).filter (ZwC H)) H)
theorem Zq6{O:Type}{P:yg}{ts:List yb}{r:TD}{H:List TEnt}{K:TD→List TEnt→Option O}{out:O}{g:yu}{args:List Dv}{H0:List Ent}(h:ZzT P ts r H K=some out)(hc:Con P g args H0 (r.er (lk H)) (erH H)):
 ∃r' H',K r' H'=some out∧Con P g args H0 (r'.er (lk H')) (erH H'):=by
 unfold ZzT at h;split at h
 ·exact⟨_,_,h,hc⟩
 ·obtain⟨r',h1,h2⟩:=yc.1 h;generalize (ZlH H 100000 r.look []).filter (ZwC H)=ids at h1 h2;refine⟨_,_,h2,ZAL hc (ZwB ids H) ?_⟩;have:=ZB1 h1;rw[Zn7] at this ⊢;exact this
def ZzU{O:Type}(h:List TEnt)(n0:Nat)(ds:List TD)(K:TD→List TEnt→Option O):Option O:=
 let keep:=ZsI h n0 (Zoq ds)
 if once (yv n0++keep) then(match Dv.rn (toIds (yv n0++keep)) ((Zoq ds).er (lk h)) with
  |some _=>(Zoq ds).rn (toIds (yv n0++keep))
  |none=>(Zoq (ds.map (TD.arg (lk h)))).rn (toIds (yv n0++keep))).bind λr=>
  (Xv h (yv n0++keep) (yv n0++keep)).bind λh2=>K r h2
 else none
section
variable{P:yg}
def ZB2(P:yg)(his:yu→HI)(l:List (Fs P))(mt:List (yb×String×yu))(ghs:yu→List (Nat×GOp)):Nat→(O:Type)→yu→List TD→List TEnt→(TD→List TEnt→Option O)→Option O
 |0,_,_,_,_,_=>none
 |n+1,O,g,args,H,K=>foS args H λargs H=>match P.funcs[g]? with
  |some fn=>match fn.body with
   |some c=>if decide (args.length≤fn.ntmps)=true then
     evT P { hi:=his g,un:=1000000,gh:=ghs g} ⟨l,ZB2 P his l mt ghs n,mt,[]⟩ c 0 0 (args++yae (fn.ntmps - args.length) .junk) H λex a h=>match ex with
      |.exit _=>none
      |_=>ZpL P a h fn.results.toList λds _=>ZzU h H.length ds λr h=>ZzT P (his g).deep r h λr h=>foS [r] h λrs h=>match rs with
       |[r]=>K r h
       |_=>none
     else none
   |none=>none
  |none=>none
theorem Zyo{his:yu→HI}{l:List (Fs P)}{mt:List (yb×String×yu)}{ghs:yu→List (Nat×GOp)}(hl:AllOk l)(hm:MtOk P mt):∀(n:Nat),HdOk P (ZB2 P his l mt ghs n)
 |0=>λ_ _ _ _ _ _ h=>by cases h
 |n+1=>λO g args H K out hM=>by
  unfold ZB2 at hM;simp only[ZF3] at hM;split at hM
  ·rename_i fn hf;split at hM
   ·rename_i c hb1;obtain⟨hn,hM⟩:=Za hM;have hn:=of_decide_eq_true hn
    have hlen:(args++yae (fn.ntmps - args.length) TD.junk).length=fn.ntmps:=by
     rw[yr,yct];omega
    obtain⟨ex,a,hh,k1,k2,k3⟩:=XL (N:=fn.ntmps) (specs:=⟨l,ZB2 P his l mt ghs n,mt,[]⟩) ⟨hl,Zyo hl hm n,hm,ytt⟩ c _ _ _ _ _ hlen (λk b hk lp h=>by cases h) (λk b hk lp h=>by cases h) hM
    have hex:(ex=.ret∨ex=.normal)∧(ZpL P a hh fn.results.toList λds _=>ZzU hh H.length ds λr h=>ZzT P (his g).deep r h K)=some out:=by
     cases ex with
     |exit _=>cases k1
     |normal=>exact⟨.inr rfl,k1⟩
     |ret=>exact⟨.inl rfl,k1⟩
    obtain⟨hex,k1⟩:=hex;obtain⟨ds,hs,C,g1,g2,g3⟩:=Zej _ _ k1;unfold ZzU at g1;dsimp only at g1;generalize ZsI hh H.length (Zoq ds)=keep at g1;obtain⟨g5,g1⟩:=Za g1;obtain⟨r,g6,g1⟩:=yc.1 g1;obtain⟨e2,g7,g1⟩:=yc.1 g1;refine Zq6 g1 ?_
    have hfin:fin P fn (TD.ers (lk hh) a) (erH hh) (erH H).length keep hs=some (C,r.er (lk e2),erH e2):=by
     unfold fin;have:=g3 [];rw[ybl] at this;rw[this];dsimp only;rw[Zy,g5, ←Zhl,show subEnts (erH hh) _ _=some (erH e2) from Xf (Vq g7) g7]
     split at g6
     ·rename_i r0 hr0;have e4:=Zce (Vq g7) _ _ g6;rw[e4]
     ·rename_i hr0;have e4:=Zce (Vq g7) _ _ g6;rw[Zhl,Zu,yaz] at e4
      rw[hr0,show(TD.ers (lk hh) ds).map Dv.arg=ds.map (TD.er (lk hh) ∘ TD.arg (lk hh)) by
       rw[Zu,yaz];exact ycj λd _=>(ZwW d).symm,e4]
    have hrun:Xr P c (TD.ers (lk H) args++yae (fn.ntmps - (TD.ers (lk H) args).length) .junk) (erH H) ex (TD.ers (lk hh) a) (erH hh):=by
     have e5:TD.ers (lk H) (args++yae (fn.ntmps - args.length) TD.junk)=TD.ers (lk H) args++yae (fn.ntmps - (TD.ers (lk H) args).length) .junk:=by
      rw[Zc8,Zu,Zu,yak,List.map_replicate];rfl
     rw[←e5];exact k3
    exact Zge hf hb1 hrun hex hfin g2
   ·cases hM
  ·cases hM
def ZF4(P:yg)(his:yu→HI)(l:List (Fs P))(mt:List (yb×String×yu))(n:Nat)(g:yu)(ghs:yu→List (Nat×GOp):=λ_=>[]):Option Bool:=
 ZB2 P his l mt ghs n Bool g [] [] λr h=>match h with
  |[]=>r.boolT
  |_=>none
theorem ZEd{his:yu→HI}{l:List (Fs P)}{mt:List (yb×String×yu)}{ghs:yu→List (Nat×GOp)}{n:Nat}{g:yu}{b:Bool}(hl:AllOk l)(hm:MtOk P mt)(h:ZF4 P his l mt n g ghs=some b):Con P g [] [] (.p (.bool b)) []:=by
 obtain⟨r,H',h1,h2⟩:=Zyo hl hm n _ _ _ _ _ _ h;split at h1
 ·rw[Zee h1] at h2;exact h2
 ·cases h1
theorem ZF5{his:yu→HI}{l:List (Fs P)}{mt:List (yb×String×yu)}{ghs:yu→List (Nat×GOp)}{n:Nat}{g:yu}{b:Bool}(hl:AllOk l)(hm:MtOk P mt)(h:ZF4 P his l mt n g ghs=some b):
 Fs.Ok (⟨g,[],[],[],[⟨.ret,[(0,.v .bool)],[],[.bool]⟩],λ_=>some b⟩:Fs P):=by
 intro x o hM;cases hM;refine⟨[],[],[],rfl,rfl,λe vs s' hs hf=> ?_⟩;obtain⟨rfl,rfl⟩:=hs;cases hf;exact⟨_,rfl,ZEd hl hm h⟩
end
theorem okN{P:yg}(s:Nat→Fs P)(h:(s fuel).Ok):(s 18446744073709551616).Ok:=by
 rw[ZjD] at h;exact h
theorem ZB3{P:yg}{g:yu}{args:List Dv}{H H1 H2:List Ent}{r r2:Dv}{keep:List Nat}(h:Con P g args H r H1)(ho:once (yv H.length++keep)=true)
 (hin:subEnts H1 (yv H.length++keep) (yv H.length++keep)=some H2) (hr:r.rn (toIds (yv H.length++keep))=some r2):Con P g args H r2 H2:=by
 intro σ vs ok e hv;refine Calls.mono (h σ vs ok e hv) ?_;rintro e' w' ⟨v,σ',h1,h2,h3,h4,h5,h6⟩;subst h3;subst e;exact⟨v,ZhF σ' (yv σ.H.length++keep) H2,h1,h2,rfl,ZmU ok h4 ho hin,ZmT h5 ho hin,Zb0 (ZeO hin) hr h6⟩
def Zyp(h:List TEnt)(n0:Nat)(r:TD)(e:XSh):Option (Ty.dens e.ty):=
 match e.sl with
 |[(0,rs)]=>(ZBZ h rs e.es n0 r).bind λkeep=>
  if once (yv n0++keep) then(r.rn (toIds (yv n0++keep))).bind λr=>
   (Xv h (yv n0++keep) (yv n0++keep)).bind λh2=>(Sh.mt (lk h2) rs r).bind λq=>(ESh.mts (lk h2) e.es h2).bind λw=>toD e.ty (q.2++w.2)
  else none
 |_=>none
def Zou(h:List TEnt)(n0:Nat)(r:TD):(l:List XSh)→Option (XSh.sum l)
 |[]=>none
 |[e]=>Zyp h n0 r e
 |e::f::q=>match Zyp h n0 r e with
  |some x=>some (Sum.inl x:Ty.dens e.ty⊕XSh.sum (f::q))
  |none=>(Zou h n0 r (f::q)).map λx=>(Sum.inr x:Ty.dens e.ty⊕XSh.sum (f::q))
theorem ZlN{h:List TEnt}{n0:Nat}{r:TD}:∀{l:List XSh}{o:XSh.sum l},Zou h n0 r l=some o→∀e vs,ZuD l o e vs→∃x,Zyp h n0 r e=some x∧vs=ofD e.ty x
 |[],_,k,_,_,_=>by cases k
 |[e],o,k,x,vs,hs=>by
  obtain⟨rfl,rfl⟩:=hs
  exact⟨o,k,rfl⟩
 |e::f::q,o,k,x,vs,hs=>by
  simp only[Zou] at k;split at k
  ·rename_i y hy;cases k;obtain⟨rfl,rfl⟩:=hs;exact⟨y,hy,rfl⟩
  ·obtain⟨y,h1,h2⟩:=Ze k;subst h2;exact ZlN h1 x vs hs
section
variable{P:yg}
def fnD(P:yg)(fi:FI)(specs:Sp P)(g:yu)(ps:List Sh)(es:List ESh)(ins:List Ty)(xs:List XSh):Ty.dens ins→Option (XSh.sum xs):=λx=>
 match P.funcs[g]? with
 |some fn=>match fn.body with
  |some c=>(Sh.fills ps (ofD ins x)).bind λq=>(ESh.fills es q.2).bind λw=>if w.2.isEmpty then
    evT P fi specs c 0 0 (q.1++yae (fn.ntmps - q.1.length) .junk) w.1 λex a h=>match ex with
     |.exit _=>none
     |_=>ZpL P a h fn.results.toList λds _=>ZzU h w.1.length ds λr h=>ZzT P fi.hi.deep r h λr h=>Zou h w.1.length r xs
    else none
  |none=>none
 |none=>none
theorem Zyq{fi:FI}{specs:Sp P}{g:yu}{ps:List Sh}{es:List ESh}{ins:List Ty}{xs:List XSh}{M:Ty.dens ins→Option (XSh.sum xs)}(ok:SpOk specs)(hl:ZjE P g (Q5 P g) fi.lp:=by exact True.intro)(hn:ps.length≤Q5 P g:=by decide+kernel)
 (h:∀x,fnD P fi specs g ps es ins xs x=M x:=by intro v;kernel_rfl) (hb:Zq2 P (Q5 P g) (Za2 P g) fi.bk:=by exact True.intro):Fs.Ok (⟨g,ps,es,ins,xs,M⟩:Fs P):=by
 intro x o hM;have hM:M x=some o:=hM;rw[←h x] at hM;have hl':=Zym hl;unfold fnD at hM;split at hM
 ·rename_i fn hf;split at hM
  ·rename_i c hb1;obtain⟨q,h1,hM⟩:=yc.1 hM;obtain⟨w,h2,hM⟩:=yc.1 hM;obtain⟨h3,hM⟩:=Za hM;have hN:Q5 P g=fn.ntmps:=by unfold Q5;rw[hf]
   have hc:Za2 P g=c:=by unfold Za2;rw[hf];dsimp only;rw[hb1];rfl
   rw[hc,hN] at hl' hb;have hb0:=ZsH hb;rw[hN] at hn
   have hlen:(q.1++yae (fn.ntmps - q.1.length) TD.junk).length=fn.ntmps:=by
    rw[yr,yct,Zhh h1];omega
   obtain⟨ex,a,hh,k1,k2,k3⟩:=XL ok c _ _ _ _ _ hlen hl' hb0 hM
   have hex:(ex=.ret∨ex=.normal)∧(ZpL P a hh fn.results.toList λds _=>ZzU hh w.1.length ds λr h=>ZzT P fi.hi.deep r h λr h=>Zou h w.1.length r xs)=some o:=by
    cases ex with
    |exit _=>cases k1
    |normal=>exact⟨.inr rfl,k1⟩
    |ret=>exact⟨.inl rfl,k1⟩
   obtain⟨hex,k1⟩:=hex;obtain⟨ds,hs,C,g1,g2,g3⟩:=Zej _ _ k1;refine⟨q.1,q.2,w.1,h1, ?_,λe vs s' hsel hfs=> ?_⟩
   ·rw[h2];have:w.2=[]:=by simpa using h3
    rw[←this]
   unfold ZzU at g1;dsimp only at g1;generalize ZsI hh w.1.length (Zoq ds)=keep at g1;obtain⟨g5,g1⟩:=Za g1;obtain⟨r,g6,g1⟩:=yc.1 g1;obtain⟨e2,g7,g1⟩:=yc.1 g1
   have hrun:Xr P c (TD.ers (lk w.1) q.1++yae (fn.ntmps - (TD.ers (lk w.1) q.1).length) .junk) (erH w.1) ex (TD.ers (lk hh) a) (erH hh):=by
    have e5:TD.ers (lk w.1) (q.1++yae (fn.ntmps - q.1.length) TD.junk)=TD.ers (lk w.1) q.1++yae (fn.ntmps - (TD.ers (lk w.1) q.1).length) .junk:=by
     rw[Zc8,Zu,Zu,yak,List.map_replicate];rfl
    rw[←e5];exact k3
   have hfin:fin P fn (TD.ers (lk hh) a) (erH hh) (erH w.1).length keep hs=some (C,r.er (lk e2),erH e2):=by
    unfold fin;have:=g3 [];rw[ybl] at this;rw[this];dsimp only;rw[Zy,g5, ←Zhl,show subEnts (erH hh) _ _=some (erH e2) from Xf (Vq g7) g7]
    split at g6
    ·rename_i r0 hr0;have e4:=Zce (Vq g7) _ _ g6;rw[e4]
    ·rename_i hr0;have e4:=Zce (Vq g7) _ _ g6;rw[Zhl,Zu,yaz] at e4
     rw[hr0,show(TD.ers (lk hh) ds).map Dv.arg=ds.map (TD.er (lk hh) ∘ TD.arg (lk hh)) by
      rw[Zu,yaz];exact ycj λd _=>(ZwW d).symm,e4]
   obtain⟨r',H',m1,m2⟩:=Zq6 g1 (Zge hf hb1 hrun hex hfin g2);obtain⟨o1,m3,hvs⟩:=ZlN m1 e vs hsel;unfold Zyp at m3;split at m3
   case h_2=>cases m3
   rename_i rs hsl;obtain⟨keep2,n1,m3⟩:=yc.1 m3;obtain⟨n2,m3⟩:=Za m3;obtain⟨r3,n3,m3⟩:=yc.1 m3;obtain⟨e3,n4,m3⟩:=yc.1 m3;obtain⟨z,g8,m3⟩:=yc.1 m3;obtain⟨y,g9,m3⟩:=yc.1 m3;obtain⟨b1,b2⟩:=Zeh g9;have hcc:∀id t,ZS (lk e3) id t none=ZS (lk y.1) id t none:=λid t=>by rw[b2]
   have eo:=Qh _ _ _ m3
   have efill:s'=([z.1],y.1):=by
    rw[hvs,eo,hsl] at hfs;unfold Wq at hfs;rw[show shs [(0,rs)] 1=[rs] from rfl] at hfs
    simp only[Sh.fills,Zhf _ _ _ g8,ya,yad] at hfs;have:=VG g9 [];rw[ybl] at this;rw[this] at hfs;exact(ybe hfs).symm
   subst efill;refine⟨z.1,rfl, ?_⟩
   have hk:Con P g (TD.ers (lk w.1) q.1) (erH w.1) (r3.er (lk e3)) (erH e3):=by
    refine ZB3 (keep:=keep2) m2 (by rw[Zy];exact n2) ?_ ?_
    ·rw[Zy];exact Xf (Vq n4) n4
    ·rw[Zy];exact Zce (Vq n4) _ _ n3
   exact Zt4 hk (Zn6 hcc _ _ _ g8) (Zhg hcc g9)
  ·cases hM
 ·cases hM
end
end Go.Ev
end
section
namespace Go.Ev
open Go.RowKit Go.WideShapes Go.ChangeShapes
def Z7(P:yg):Nat→yb→Bool
 |0,_=>false
 |n+1,t=>match P.underlying t with
  |some .bool=>true
  |some (.int _)=>true
  |some .string=>true
  |some (.slice e)=>Z7 P n e&&decide (0 < P.cellsOf e)
  |some (.array m e)=>Z7 P n e&&P.cellsOf t==m*P.cellsOf e
  |some (.struct fs)=>(fs.toList.all λf=>Z7 P n f.type)&&P.cellsOf t==(fs.toList.map λf=>P.cellsOf f.type).sum&&
    ((yv fs.toList.length).all λj=>match fs.toList[j]? with|some f=>f.offset==((fs.toList.take j).map λf=>P.cellsOf f.type).sum|none=>true)
  |_=>false
theorem ZsK(P:yg):Kids P (λt=>∃n,Z7 P n t=true) where
 pointer:=by
  rintro t e ⟨n,h⟩ hu
  cases n with
  |zero=>simp[Z7] at h
  |succ n=>simp[Z7,hu] at h
 slice:=by
  rintro t e ⟨n,h⟩ hu
  cases n with
  |zero=>simp[Z7] at h
  |succ n=>simp[Z7,hu] at h;exact⟨n,h.1⟩
 array:=by
  rintro t e m ⟨n,h⟩ hu
  cases n with
  |zero=>simp[Z7] at h
  |succ n=>simp[Z7,hu] at h;exact⟨⟨n,h.1⟩,h.2⟩
 struct:=by
  rintro t fs ⟨n,h⟩ hu
  cases n with
  |zero=>simp[Z7] at h
  |succ n=>
   simp only[Z7,hu,yi,beq_iff_eq,ybc] at h;obtain⟨⟨h1,h2⟩,h3⟩:=h;refine⟨λf hf=>⟨n,h1 f hf⟩,h2,λj f hf=> ?_⟩;have hj:j < fs.toList.length:=(yq.1 hf).1;have:=h3 j (by simpa using hj);rw[hf] at this;simpa using this
 map:=by
  rintro t k e ⟨n,h⟩ hu
  cases n with
  |zero=>simp[Z7] at h
  |succ n=>simp[Z7,hu] at h
def ZEe(R:yb→Pl→Prop):List Field→List Pl→Prop
 |[],[]=>True
 |f::fs,y::ys=>R f.type y∧ZEe R fs ys
 |_,_=>False
def wtP(P:yg):Nat→yb→Pl→Prop
 |0,_,_=>False
 |n+1,t,x=>match P.underlying t,x with
  |some .bool,.bool _=>True
  |some (.int k),.int k' m=>k'=k∧(Lit.int k m).wf=true
  |some .string,.str s=>s.size≤maxLen
  |some (.slice e),.sl nn s xs=>s=P.cellsOf e∧nn=none∧xs.length≤maxLen∧∀y,y∈xs→wtP P n e y
  |some (.array m e),.arr m' s xs=>m'=m∧s=P.cellsOf e∧xs.length=m∧∀y,y∈xs→wtP P n e y
  |some (.struct fs),.agg xs=>ZEe (wtP P n) fs.toList xs
  |_,_=>False
def ZsL:Nat→Nat→Prop:=λ_ _=>True
section
variable{H:Type}{enc:yb×yh→H}{P:yg}{w:yz}{base:Nat}{sp:Nat→Bool}{held:Bool}
theorem ZzV:∀{s:Nat}{a:Addr}{cs:List yh},w.cells? base a s=some cs→cs.length=s∧∀j u,cs[j]? =some u→w.cell? (a.add j)=some u:=by
 intro s a cs h;unfold World.cells? at h;split at h
 ·have hl:cs.length=s:=by simpa using mapM_some_length h
  refine⟨hl,λj u hu=> ?_⟩;have hj:j < s:=by rw[←hl];exact(yq.1 hu).1
  have:=mapM_some_get h j j (by simp[hj]);rw[hu] at this;exact this
 ·cases h
theorem Zyr{e:yb}{n m:Nat}{a:Addr}{s:Nat}(hs:0 < s){elems:List (DataW H×List MemPlace)}{len:Nat}(hlen:elems.length=len)
 (ih:∀(cs:List yh)(x:DataW H×List MemPlace),DataW.trod enc P w base sp held m e cs=some x→cs.length=s→∃pl,wtP P n e pl∧repC w ZsL pl cs)
 (h:∀i,i < len→(w.cells? base (a.add (i*s)) s).bind (DataW.trod enc P w base sp held m e)=elems[i]?):
 ∀k,k≤len→∃(xs:List Pl)(us:List yh),xs.length=k∧(∀y,y∈xs→wtP P n e y)∧allSz s xs∧us.length=k*s∧repCs w ZsL xs us∧(∀j u,us[j]? =some u→w.cell? (a.add j)=some u)
 |0,_=>⟨[],[],rfl,(λy hy=>by cases hy),(λy hy=>by cases hy),by simp,by simp[repCs],by simp⟩
 |k+1,hk=>by
  obtain⟨xs,us,h1,h2,h3,h4,h5,h6⟩:=Zyr hs hlen ih h k (by omega);have hk':=h k (by omega);rw[yaf (by omega)] at hk';obtain⟨cs,hc,ht⟩:=yc.1 hk';obtain⟨c1,c2⟩:=ZzV hc;obtain⟨pl,p1,p2⟩:=ih cs _ ht c1;have psz:pl.size=s:=by rw[←Xn _ _ p2,c1]
  refine⟨xs++[pl],us++cs,by simp[h1],λy hy=> ?_,λy hy=> ?_,by simp[h4,c1,Nat.add_mul],ZZ h5 (by simpa[repCs] using p2),λj u hu=> ?_⟩
  ·rcases ycl.1 hy with hy|hy
   ·exact h2 y hy
   ·rw[yag.1 hy];exact p1
  ·rcases ycl.1 hy with hy|hy
   ·exact h3 y hy
   ·rw[yag.1 hy];exact psz
  ·by_cases hj:j < us.length
   ·rw[yam hj] at hu;exact h6 j u hu
   ·rw[yar (by omega)] at hu;have:=c2 _ _ hu;rw[Addr.add_add] at this;rw[←this];congr 2;omega
theorem Zu2{e:yb}{n m:Nat}{s:Nat}{cs:List yh}{elems:List (DataW H×List MemPlace)}{len:Nat}(hlen:elems.length=len)(hcs:cs.length=len*s)
 (ih:∀(cs:List yh)(x:DataW H×List MemPlace),DataW.trod enc P w base sp held m e cs=some x→cs.length=s→∃pl,wtP P n e pl∧repC w ZsL pl cs)
 (h:∀i,i < len→DataW.trod enc P w base sp held m e ((cs.drop (i*s)).take s)=elems[i]?):
 ∀k,k≤len→∃(xs:List Pl),xs.length=k∧(∀y,y∈xs→wtP P n e y)∧allSz s xs∧repCs w ZsL xs (cs.take (k*s))
 |0,_=>⟨[],rfl,(λy hy=>by cases hy),(λy hy=>by cases hy),by simp[repCs]⟩
 |k+1,hk=>by
  obtain⟨xs,h1,h2,h3,h5⟩:=Zu2 hlen hcs ih h k (by omega);have hk':=h k (by omega);rw[yaf (by omega)] at hk';have hle:k*s+s≤len*s:=by rw[←Nat.succ_mul];exact Nat.mul_le_mul_right _ hk
  have c1:((cs.drop (k*s)).take s).length=s:=by simp;omega
  obtain⟨pl,p1,p2⟩:=ih _ _ hk' c1;have psz:pl.size=s:=by rw[←Xn _ _ p2,c1]
  refine⟨xs++[pl],by simp[h1],λy hy=> ?_,λy hy=> ?_, ?_⟩
  ·rcases ycl.1 hy with hy|hy
   ·exact h2 y hy
   ·rw[yag.1 hy];exact p1
  ·rcases ycl.1 hy with hy|hy
   ·exact h3 y hy
   ·rw[yag.1 hy];exact psz
  ·rw[Nat.add_mul,Nat.one_mul,List.take_add];exact ZZ h5 (by simpa[repCs] using p2)
theorem Zq7{n m:Nat}{cs:List yh}
 (ih:∀(t:yb),Z7 P n t=true→∀(cs:List yh)(x:DataW H×List MemPlace),DataW.trod enc P w base sp held m t cs=some x→∃pl,wtP P n t pl∧repC w ZsL pl cs):
 ∀(fs:List Field)(o:Nat),(∀f,f∈fs→Z7 P n f.type=true)→(∀(j:Nat)f,fs[j]? =some f→f.offset=o+((fs.take j).map λf=>P.cellsOf f.type).sum)→
  cs.length=o+(fs.map λf=>P.cellsOf f.type).sum→(∀(j:Nat)f,fs[j]? =some f→∃x,DataW.trod enc P w base sp held m f.type ((cs.drop f.offset).take (P.cellsOf f.type))=some x)→
  ∃(xs:List Pl),ZEe (wtP P n) fs xs∧repCs w ZsL xs (cs.drop o)
 |[],o,_,_,hl,_=>⟨[],trivial,by simp only[repCs];apply List.drop_eq_nil_of_le;simp at hl;omega⟩
 |f::fs,o,hp,ho,hl,h=>by
  obtain⟨x,hx⟩:=h 0 f rfl;have ho0:=ho 0 f rfl;simp at ho0;rw[ho0] at hx;obtain⟨pl,p1,p2⟩:=ih f.type (hp f (yap ..)) _ _ hx;simp only[yaa,yby] at hl
  obtain⟨xs,q1,q2⟩:=Zq7 ih fs (o+P.cellsOf f.type) (λg hg=>hp g (yat _ hg)) (λj g hg=>by
   have:=ho (j+1) g hg;simp only[List.take_succ_cons,yaa,yby] at this;omega) (by omega) (λj g hg=>h (j+1) g hg)
  refine⟨pl::xs,⟨p1,q1⟩, ?_⟩;simp only[repCs];refine⟨(cs.drop o).take (P.cellsOf f.type),(cs.drop o).drop (P.cellsOf f.type),(List.take_append_drop ..).symm,p2, ?_⟩;rw[List.drop_drop];exact q2
theorem ZEf:∀(n m:Nat)(t:yb),Z7 P n t=true→∀(cs:List yh)(x:DataW H×List MemPlace),DataW.trod enc P w base sp held m t cs=some x→∃pl,wtP P n t pl∧repC w ZsL pl cs:=by
 intro n
 induction n with
 |zero=>intro m t h;simp[Z7] at h
 |succ n ih=>
  intro m t ht cs x h;unfold Z7 at ht;split at ht
  ·rename_i hu;obtain⟨b,rfl,_⟩:=DataW.trod_bool hu h;exact⟨.bool b,by simp[wtP,hu],by simp[repC]⟩
  ·rename_i k hu;obtain⟨z,rfl,rfl,hw⟩:=DataW.trod_int hu h;exact⟨.int k z,by simp[wtP,hu,hw],by simp[repC]⟩
  ·rename_i hu;obtain⟨s,rfl,h2⟩:=DataW.trod_string hu h;exact⟨.str s,by simp[wtP,hu];exact h2.2,by simp[repC]⟩
  ·rename_i e hu;simp only[yi,decide_eq_true_eq] at ht;rcases DataW.trod_slice hu h with⟨rfl,rfl⟩|⟨a,len,cap,elems,rest,m',rfl,rfl,rfl,_,hle,hcap,hlen,hel,_⟩
   ·exact⟨.sl none (P.cellsOf e) [],by simp[wtP,hu],by simp only[repC];exact⟨(λy hy=>by cases hy),none,0,rfl,yn _,Nat.zero_le _,ZQ _,λ_=>rfl,λh=>absurd rfl h⟩⟩
   ·obtain⟨xs,us,h1,h2,h3,h4,h5,h6⟩:=Zyr (n:=n) ht.2 hlen (λcs x hx _=>ih m' e ht.1 cs x hx) hel len (yn _);refine⟨.sl none (P.cellsOf e) xs,by simp only[wtP,hu];exact⟨trivial,trivial,by omega,h2⟩, ?_⟩;simp only[repC];refine⟨h3,some a,cap,by rw[h1],by omega,hcap,ZQ _,by simp,λhne=> ?_⟩
    have hpos:0 < us.length:=by
     rw[h4];have:0 < len:=by rw[←h1];exact List.length_pos_iff.2 hne
     exact Nat.mul_pos this ht.2
    have hc0:=h6 0 us[0] (yaf hpos);obtain⟨b,o,spot⟩:=a
    have hspot:spot=none:=by
     cases spot with
     |none=>rfl
     |some z=>
      exfalso;unfold World.cell? at hc0;split at hc0
      ·simp[Addr.add] at hc0
      ·cases hc0
    subst hspot;exact⟨b,o,us,rfl,h5,λj u hu=>⟨by have:=h6 j u hu;rwa [Addr.add_lit] at this,ytt⟩⟩
  ·rename_i k e hu;simp only[yi,beq_iff_eq] at ht;obtain⟨elems,m',rfl,rfl,hl,hlen,hel⟩:=DataW.trod_array hu h;obtain⟨xs,h1,h2,h3,h4⟩:=Zu2 (n:=n) (s:=P.cellsOf e) hlen (by rw[hl,ht.2]) (λcs x hx _=>ih m' e ht.1 cs x hx) hel k (yn _);rw[List.take_of_length_le (by rw[hl,ht.2];exact yn _)] at h4;exact⟨.arr k (P.cellsOf e) xs,by simp only[wtP,hu];exact⟨trivial,trivial,h1,h2⟩,by simp only[repC];exact⟨h1,h3,h4⟩⟩
  ·rename_i fs hu;simp only[yi,beq_iff_eq,ybc] at ht;obtain⟨⟨t1,t2⟩,t3⟩:=ht;obtain⟨elems,m',rfl,rfl,hl,hlen,hel⟩:=DataW.trod_struct hu h
   obtain⟨xs,q1,q2⟩:=Zq7 (n:=n) (m:=m') (cs:=cs) (λt ht cs x hx=>ih m' t ht cs x hx) fs.toList 0 t1 (λj f hf=>by
    have hj:j < fs.toList.length:=(yq.1 hf).1;have:=t3 j (by simpa using hj);rw[hf] at this;simpa using this) (by rw[hl,t2];omega) (λj f hf=>by
    have hj:j < fs.toList.length:=(yq.1 hf).1;have:=hel j f (by simpa using hf);rw[yaf (by rw[hlen];simpa using hj)] at this;exact⟨_,this⟩)
   exact⟨.agg xs,by simp only[wtP,hu];exact q1,by simp only[repC];simpa using q2⟩
  ·cases ht
end
end Go.Ev
namespace Go.Ev
open Go.RowKit Go.WideShapes Go.ChangeShapes
def ZEg(P:yg)(n:Nat):List yb→List Pl→Prop
 |[],[]=>True
 |t::ts,x::xs=>wtP P n t x∧ZEg P n ts xs
 |_,_=>False
section
variable{H:Type}{enc:yb×yh→H}{P:yg}
def sg0(W:yz):Sg:={ F:=ZsL,B:=λb=>W.heap.size≤b,m:=[],H:=[],w:=W}
theorem ZF6(W:yz):Ok (sg0 W) where
 len:=rfl
 inj i j b h:=by simp[sg0] at h
 lt i b h:=by simp[sg0] at h
 ent i e a h:=by simp[sg0] at h
 new b h:=h
 own i b h:=by simp[sg0] at h
theorem ZB4(W:yz)(b o:Nat):(sg0 W).stab b o:=⟨.inl trivial,λid e h=>by simp[sg0] at h⟩
theorem Zov{W:yz}{x:Pl}{v:yh}{cs:List yh}(hx:repC W ZsL x cs)(hc:v.cells.toList=cs)(hv:x.isAgg=true→∃a,v=.agg a)(hn:x.isAgg=false→cs=[v]):repDV (sg0 W) (.p x) v:=by
 have hm:repC W (sg0 W).stab x cs:=Wx (λb o u h _=>⟨h,ZB4 W b o⟩) x cs hx;refine⟨λha=> ?_,λha=> ?_⟩
 ·obtain⟨a,rfl⟩:=hv ha;refine⟨a,rfl, ?_⟩;simp only[repD];have:a.toList=cs:=by rw[←hc];rfl
  rw[this];exact hm
 ·simp only[repD];have e:=hn ha;rw[←e];exact hm
theorem ZF7:∀{n:Nat}{t:yb}{x:Pl},wtP P n t x→x.isAgg=Xa P t
 |0,_,_,h=>by simp[wtP] at h
 |n+1,t,x,h=>by
  unfold wtP at h;split at h <;> rename_i hu <;> first|(simp[Pl.isAgg,Xa,hu];done)|exact h.elim
theorem Zys{W:yz}{n:Nat}(hval:∀(t:yb)(v:yh),Xa P t=true→Value.okWide P W .any 0 t v→∃a,v=.agg a):
 ∀(ts:List yb)(vs:List yh)(ds:List (DataW H))(ps:List MemPlace),(∀t,t∈ts→Z7 P n t=true)→(∀(j:Nat)t v,ts[j]? =some t→vs[j]? =some v→(Xa P t=true→∃a,v=.agg a)∧(Xa P t=false→v.cells.toList=[v]))→
  DataW.TrodAll enc P W 0 (λ_=>true) true ts vs ds ps→∃xs,ZEg P n ts xs∧repVs (sg0 W) (xs.map .p) vs
 |[],[],[],_,_,_,_=>⟨[],trivial,by simp[repVs]⟩
 |[],_::_,_,_,_,_,h=>by simp[DataW.TrodAll] at h
 |[],[],_::_,_,_,_,h=>by simp[DataW.TrodAll] at h
 |_::_,[],_,_,_,_,h=>by simp[DataW.TrodAll] at h
 |_::_,_::_,[],_,_,_,h=>by simp[DataW.TrodAll] at h
 |t::ts,v::vs,d::ds,ps,hp,hv,h=>by
  obtain⟨p,q,⟨fuel,h1⟩,h2,rfl⟩:=h;obtain⟨x,x1,x2⟩:=ZEf n fuel t (hp t (yap ..)) _ _ h1;obtain⟨xs,xs1,xs2⟩:=Zys hval ts vs ds q (λu hu=>hp u (yat _ hu)) (λj u w' hj hw=>hv (j+1) u w' hj hw) h2;obtain⟨v1,v2⟩:=hv 0 t v rfl rfl;refine⟨x::xs,⟨x1,xs1⟩, ?_⟩;simp only[yaa,repVs];have ha:=ZF7 x1;exact⟨v,vs,rfl,Zov x2 rfl (λe=>v1 (by rw[←ha];exact e)) (λe=>v2 (by rw[←ha];exact e)),xs2⟩
theorem ZhK{W W':yz}{sp':Nat→Bool}{n:Nat}:∀(ts:List yb)(vs:List yh)(ds:List (DataW H))(ps:List MemPlace),(∀t,t∈ts→Z7 P n t=true)→
 DataW.TrodAll enc P W 0 (λ_=>true) true ts vs ds ps→(∀p∈ps,W.sameAt W' p)→(∀p∈ps,sp' p.block=true)→DataW.TrodAll enc P W' 0 sp' true ts vs ds ps
 |[],[],[],_,_,h,_,_=>h
 |[],_::_,_,_,_,h,_,_=>by simp[DataW.TrodAll] at h
 |[],[],_::_,_,_,h,_,_=>by simp[DataW.TrodAll] at h
 |_::_,[],_,_,_,h,_,_=>by simp[DataW.TrodAll] at h
 |_::_,_::_,[],_,_,h,_,_=>by simp[DataW.TrodAll] at h
 |t::ts,v::vs,d::ds,ps,hp,h,hs,hb=>by
  obtain⟨p,q,⟨fuel,h1⟩,h2,rfl⟩:=h;refine⟨p,q,⟨fuel, ?_⟩,ZhK ts vs ds q (λu hu=>hp u (yat _ hu)) h2 (λz hz=>hs z (List.mem_append_right _ hz)) (λz hz=>hb z (List.mem_append_right _ hz)),rfl⟩
  exact DataW.trod_stays (ZsK P) (λ{t e}⟨n,hn⟩hu=>by
   cases n with
   |zero=>simp[Z7] at hn
   |succ n=>simp[Z7,hu] at hn;exact hn.2) (by simp) ⟨n,hp t (yap ..)⟩ h1 (λz hz=>hs z (List.mem_append_left _ hz)) (λz hz=>hb z (List.mem_append_left _ hz))
theorem Zu3{W:yz}{σ':Sg}(h:To (sg0 W) σ'):Below W.heap.size W σ'.w:=
 ⟨h.os,h.tape,h.output,h.size,λb hb=>h.block b hb (λid=>by simp[sg0])⟩
theorem Zow{f:Func}{s:ChangeSpec}{apart fresh handsOn again:Bool}{W W':yz}{args:Array yh}{v:yh}{ds gs:List (DataW H)}{before pa pv:List MemPlace}
 (hW:DataW.Whole enc P f.params.toList s.vars apart W args.toList ds gs before)
 (hres:∀(b:Nat)(sp:Nat→Bool)(hd:Bool),DataW.TrodAll enc P W' b sp hd f.resultTypes.toList (v.resultList f.resultTypes.size) (s.fn H (ds++gs)).results [])
 (hargs:∀sp:Nat→Bool,(∀p∈before,sp p.block=true)→DataW.TrodAll enc P W' 0 sp true f.params.toList args.toList (s.fn H (ds++gs)).args pa)
 (hvars:∀sp:Nat→Bool,(∀p∈before,sp p.block=true)→DataW.TrodVars enc P W' sp s.vars (s.fn H (ds++gs)).vars pv)
 (hps:before=pa++pv) (hb:Below W.heap.size W W')
 (hok:∀(j:Nat)(t:yb)(r:yh),f.resultTypes[j]? =some t→(v.resultList f.resultTypes.size)[j]? =some r→Value.okWide P W' .any 0 t r):
 s.post enc P f apart fresh handsOn again W args v W':=by
 have hlt:∀p∈before,p.block < W.heap.size:=λp hp=>hW.lt p hp;have hold:∀p∈before,(λb=>decide (b < W.heap.size)) p.block=true:=λp hp=>by simpa using hlt p hp
 refine⟨ds,gs,before,[],pa,pv,hW,hres _ _ _,hargs _ hold,hvars _ hold,World.keptBut_mono (λp hp=>⟨hp, ?_⟩) (hb.frame (· ∈before)),λ_=> ?_⟩
 ·rw[hps,ycl] at hp;exact Or.inr hp
 ·obtain⟨_,_,_,_,_,hz,hn⟩:=hW;refine⟨hok,_,_,([]++pa)++pv,⟨[]++pa,pv,trodAll_append (hargs _ (λ_ _=>rfl)) (hres _ _ _),hvars _ (λ_ _=>rfl),rfl, ?_, ?_⟩, ?_⟩
  ·intro b off hp;have hin:MemPlace.cell b off∈before:=by rw[hps];simpa using hp
   rw[hb.frozen (hlt _ hin)];exact hz b off hin
  ·intro ha;have:=hn ha;rw[hps] at this;simpa using this
  ·intro p hp _;rw[hps];simpa using hp
theorem ZsM{f:yu}{fn:Func}{s:ChangeSpec}{n:Nat}{tb:yb}(hr:fn.resultTypes= #[tb])(ht:P.underlying tb=some .bool)(hv:s.vars=[])
 (hs:∀ds:List (DataW H),ds.length=fn.params.toList.length→s.fn H ds={ results:=[.lit (.bool true)],args:=ds}) (hp:∀t,t∈fn.params.toList→Z7 P n t=true)
 (W:yz) (base:Nat) (args:Array yh) (ds gs:List (DataW H)) (before:List MemPlace)
 (hval:∀(j:Nat)t v,fn.params[j]? =some t→args[j]? =some v→Value.okWide P W .any base t v) (hW:DataW.Whole enc P fn.params.toList s.vars false W args.toList ds gs before)
 (hc:∀xs:List Pl,ZEg P n fn.params.toList xs→repVs (sg0 W) (xs.map .p) args.toList→Con P f (xs.map .p) [] (.p (.bool true)) []):
 Calls P f args W λe W'=>∃v,e=.returned v∧s.post enc P fn false true false false W args v W':=by
 have hW':=hW;obtain⟨p,q,hA,hV,rfl,hfz,hnd⟩:=hW;rw[hv] at hV
 obtain⟨rfl,rfl⟩:gs=[]∧q=[]:=by
  cases gs with
  |nil=>exact⟨rfl,hV⟩
  |cons g r=>simp[DataW.TrodVars] at hV
 have hlen:=trodAll_length hA
 obtain⟨xs,x1,x2⟩:=Zys (enc:=enc) (P:=P) (W:=W) (n:=n) (λt v ha hok=>by
  unfold Value.okWide at hok;unfold Xa at ha;split at hok
  ·obtain⟨cs,rfl,_⟩:=hok;exact⟨cs,rfl⟩
  ·obtain⟨cs,rfl,_⟩:=hok;exact⟨cs,rfl⟩
  ·rename_i h1 h2;split at ha
   ·rename_i fs hu;exact absurd hu (h1 fs)
   ·rename_i k e hu;exact absurd hu (h2 k e)
   ·cases ha) fn.params.toList args.toList ds p hp (λj t v hj hvv=>by
  have hok:=hval j t v (by simpa using hj) (by simpa using hvv);refine⟨λha=> ?_,λha=> ?_⟩
  ·unfold Value.okWide at hok;unfold Xa at ha;split at hok
   ·obtain⟨cs,rfl,_⟩:=hok;exact⟨cs,rfl⟩
   ·obtain⟨cs,rfl,_⟩:=hok;exact⟨cs,rfl⟩
   ·rename_i h1 h2;split at ha
    ·rename_i fs hu;exact absurd hu (h1 fs)
    ·rename_i k e hu;exact absurd hu (h2 k e)
    ·cases ha
  ·obtain⟨m,hm⟩:∃m,Z7 P (m+1) t=true:=by
    have:=hp t (ybu hj)
    cases n with
    |zero=>simp[Z7] at this
    |succ n=>exact⟨n,this⟩
   unfold Value.okWide at hok;unfold Z7 at hm;unfold Xa at ha;split at hm <;> rename_i hu <;> simp only[hu] at hok ha
   all_goals first
    |(cases ha;done)
    |(cases hm;done)
    |(unfold Cell.okWide Cell.ok at hok;simp only[hu] at hok;cases v <;> first|rfl|(simp at hok;done))) hA
 have hcall:=hc xs x1 x2 (sg0 W) args.toList (ZF6 W) rfl x2;rw[Array.toArray_toList] at hcall;refine Calls.mono hcall ?_;rintro e W' ⟨v,σ',rfl,rfl,hH,hto,hok,hrep⟩;have hbv:v=.bool true:=by simpa[repDV,Dv.isAgg,Pl.isAgg,repD,repC] using hrep
 subst hbv;have hb:=Zu3 hto;simp only[ybl] at hW';have hlt:=hW'.lt
 have hsame:∀z∈p,W.sameAt σ'.w z:=by
  intro z hz;have hz':=hlt z hz
  cases z with
  |cell b o=>exact hb.cell (p:=⟨b,o,none⟩) hz'
  |map b=>exact hb.block b hz'
 have hfn:=hs ds hlen.2;refine⟨_,rfl,Zow (pa:=p) (pv:=[]) hW' (λb sp hd=> ?_) (λsp h=> ?_) (λsp h=> ?_) (by simp) hb ?_⟩
 ·rw[ybl,hfn,hr];exact trodAll_cons_mk (shut_bool ht _) trodAll_mk0
 ·rw[ybl,hfn];exact ZhK fn.params.toList args.toList ds p hp hA hsame h
 ·rw[ybl,hfn,hv];rfl
 ·intro j t r hj hjr;rw[hr] at hj hjr
  cases j with
  |zero=>
   simp at hj;subst hj;have:r=.bool true:=by simpa[Value.resultList] using hjr.symm
   subst this
   exact okWide_bool_mk ht _
  |succ j=>simp at hj
end
end Go.Ev
namespace Go.Ev
end Go.Ev
end
section
namespace Go.Ev
mutual
def Ty.Wf:(t:Ty)→t.den→Prop
 |.int k,n=>(Lit.int k n).wf=true
 |.u8,_=>True
 |.u32,_=>True
 |.u64,_=>True
 |.bool,_=>True
 |.str,s=>s.size≤maxLen
 |.sl t,l=>List.length l≤maxLen∧∀x,List.Mem x l→Ty.Wf t x
 |.arr n t,l=>List.length l=n∧∀x,List.Mem x l→Ty.Wf t x
 |.st fs,x=>Ty.Wfs fs x
def Ty.Wfs:(fs:List Ty)→Ty.dens fs→Prop
 |[],_=>True
 |[t],x=>Ty.Wf t x
 |t::u::r,x=>Ty.Wf t x.1∧Ty.Wfs (u::r) x.2
end
mutual
def ZwY(P:yg):Nat→yb→Ty→Bool
 |0,_,_=>false
 |n+1,t,T=>match P.underlying t,T with
  |some (.int .u8),.u8=>true
  |some (.int .u32),.u32=>true
  |some (.int .u64),.u64=>true
  |some (.int k),.int k'=>decide (k=k')
  |some .bool,.bool=>true
  |some .string,.str=>true
  |some (.slice e),.sl T'=>P.cellsOf e==T'.size&&ZwY P n e T'
  |some (.array m e),.arr m' T'=>m==m'&&(P.cellsOf e==T'.size&&ZwY P n e T')
  |some (.struct fs),.st Ts=>tyOks P n fs.toList Ts
  |_,_=>false
def tyOks(P:yg):Nat→List Field→List Ty→Bool
 |0,_,_=>false
 |_+1,[],[]=>true
 |n+1,f::fs,T::Ts=>ZwY P n f.type T&&tyOks P n fs Ts
 |_+1,_,_=>false
end
theorem ZG6{m:Int}(h:(Lit.int .u8 m).wf=true):∃b:UInt8,m=(b.toNat:Int):=by
 simp only[Lit.wf,yi,decide_eq_true_eq] at h;have h1:(0:Int)≤m:=h.1;have h2:m≤255:=h.2;refine⟨UInt8.ofNat m.toNat, ?_⟩;have:(UInt8.ofNat m.toNat).toNat=m.toNat:=by simp;omega
 rw[this];omega
theorem ZF8{m:Int}(h:(Lit.int .u32 m).wf=true):∃b:UInt32,m=(b.toNat:Int):=by
 simp only[Lit.wf,yi,decide_eq_true_eq] at h;have h1:(0:Int)≤m:=h.1;have h2:m≤4294967295:=h.2;refine⟨UInt32.ofNat m.toNat, ?_⟩;have:(UInt32.ofNat m.toNat).toNat=m.toNat:=by simp;omega
 rw[this];omega
theorem ZF9{m:Int}(h:(Lit.int .u64 m).wf=true):∃b:UInt64,m=(b.toNat:Int):=by
 simp only[Lit.wf,yi,decide_eq_true_eq] at h;have h1:(0:Int)≤m:=h.1;have h2:m≤18446744073709551615:=h.2;refine⟨yai m.toNat, ?_⟩;have:(yai m.toNat).toNat=m.toNat:=by simp;omega
 rw[this];omega
theorem ZwZ{α β:Type}{f:α→β}{R:α→Prop}:∀{ys:List β},(∀y,y∈ys→∃x,y=f x∧R x)→∃l:List α,ys=l.map f∧∀x,List.Mem x l→R x
 |[],_=>⟨[],rfl,λx hx=>by cases hx⟩
 |y::ys,h=>by
  obtain⟨x,rfl,hx⟩:=h y (yap ..);obtain⟨l,rfl,hl⟩:=ZwZ (λz hz=>h z (yat _ hz))
  exact⟨x::l,rfl,λz hz=>by
   cases hz with
   |head=>exact hx
   |tail _ hz=>exact hl z hz⟩
mutual
theorem Zq8{P:yg}:∀(m n:Nat)(t:yb)(T:Ty)(x:Pl),ZwY P m t T=true→wtP P n t x→∃v:T.den,T.Wf v∧x=T.enc v
 |0,_,_,_,_,h,_=>by simp[ZwY] at h
 |_+1,0,_,_,_,_,h=>by simp[wtP] at h
 |m+1,n+1,t,T,x,h,hw=>by
  unfold ZwY at h;split at h
  ·rename_i hu;unfold wtP at hw;rw[hu] at hw;cases x <;> try exact hw.elim
   obtain⟨rfl,h2⟩:=hw;obtain⟨b,rfl⟩:=ZG6 h2;exact⟨b,trivial,rfl⟩
  ·rename_i hu;unfold wtP at hw;rw[hu] at hw;cases x <;> try exact hw.elim
   obtain⟨rfl,h2⟩:=hw;obtain⟨b,rfl⟩:=ZF8 h2;exact⟨b,trivial,rfl⟩
  ·rename_i hu;unfold wtP at hw;rw[hu] at hw;cases x <;> try exact hw.elim
   obtain⟨rfl,h2⟩:=hw;obtain⟨b,rfl⟩:=ZF9 h2;exact⟨b,trivial,rfl⟩
  ·rename_i k k' hu;have h:=of_decide_eq_true h;subst h;unfold wtP at hw;rw[hu] at hw;cases x <;> try exact hw.elim
   obtain⟨rfl,h2⟩:=hw;exact⟨_,h2,rfl⟩
  ·rename_i hu;unfold wtP at hw;rw[hu] at hw;cases x <;> try exact hw.elim
   exact⟨_,trivial,rfl⟩
  ·rename_i hu;unfold wtP at hw;rw[hu] at hw;cases x <;> try exact hw.elim
   exact⟨_,hw,rfl⟩
  ·rename_i e T' hu;simp only[yi,beq_iff_eq] at h;unfold wtP at hw;rw[hu] at hw;cases x <;> try exact hw.elim
   obtain⟨rfl,rfl,h3,h4⟩:=hw
   obtain⟨l,rfl,h5⟩:=ZwZ λy hy=>(by
    obtain⟨v,a,b⟩:=Zq8 m n e T' y h.2 (h4 y hy);exact⟨v,b,a⟩:∃v:T'.den,y=T'.enc v∧T'.Wf v)
   refine⟨l,⟨by simpa using h3,h5⟩, ?_⟩;rw[h.1];rfl
  ·rename_i m0 e m' T' hu;simp only[yi,beq_iff_eq] at h;obtain⟨rfl,h⟩:=h;unfold wtP at hw;rw[hu] at hw;cases x <;> try exact hw.elim
   obtain⟨rfl,rfl,h3,h4⟩:=hw
   obtain⟨l,rfl,h5⟩:=ZwZ λy hy=>(by
    obtain⟨v,a,b⟩:=Zq8 m n e T' y h.2 (h4 y hy);exact⟨v,b,a⟩:∃v:T'.den,y=T'.enc v∧T'.Wf v)
   refine⟨l,⟨by simpa using h3,h5⟩, ?_⟩;rw[h.1];rfl
  ·rename_i fs Ts hu;unfold wtP at hw;rw[hu] at hw;cases x <;> try exact hw.elim
   rename_i xs;obtain⟨v,h1,rfl⟩:=wt_tys m n fs.toList Ts xs h hw;exact⟨v,h1,rfl⟩
  ·cases h
theorem wt_tys{P:yg}:∀(m n:Nat)(fs:List Field)(Ts:List Ty)(xs:List Pl),tyOks P m fs Ts=true→ZEe (wtP P n) fs xs→∃v:Ty.dens Ts,Ty.Wfs Ts v∧xs=Ty.encs Ts v
 |0,_,_,_,_,h,_=>by simp[tyOks] at h
 |m+1,n,[],[],[],h,hw=>⟨(),trivial,rfl⟩
 |m+1,n,[],[],_::_,h,hw=>hw.elim
 |m+1,n,[],_::_,_,h,hw=>by cases h
 |m+1,n,_::_,[],_,h,hw=>by cases h
 |m+1,n,_::_,_::_,[],h,hw=>hw.elim
 |m+1,n,f::fs,[T],x::xs,h,hw=>by
  simp only[tyOks,yi] at h;obtain⟨v,h1,rfl⟩:=Zq8 m n f.type T x h.1 hw.1
  cases fs with
  |nil=>cases xs with
   |nil=>exact⟨v,h1,rfl⟩
   |cons _ _=>exact hw.2.elim
  |cons _ _=>
   cases m with
   |zero=>exact absurd h.2 (by simp[tyOks])
   |succ m=>exact absurd h.2 (by simp[tyOks])
 |m+1,n,f::fs,T::U::Ts,x::xs,h,hw=>by
  simp only[tyOks,yi] at h;obtain⟨v,h1,rfl⟩:=Zq8 m n f.type T x h.1 hw.1;obtain⟨w,h2,rfl⟩:=wt_tys m n fs (U::Ts) xs h.2 hw.2;exact⟨(v,w),⟨h1,h2⟩,rfl⟩
end
theorem Zq9{I X:Type}{step:I→Option (I⊕X)}(Inv:I→Prop)(mu:I→Nat)(Post:X→Prop)
 (h:∀i,Inv i→(∃j,step i=some (.inl j)∧Inv j∧mu j < mu i)∨(∃x,step i=some (.inr x)∧Post x)):∀(n:Nat)(i:I),Inv i→mu i < n→∃x,Zh step n i=some x∧Post x
 |0,i,_,hn=>by omega
 |n+1,i,hi,hn=>by
  unfold Zh;rcases h i hi with⟨j,h1,h2,h3⟩|⟨x,h1,h2⟩
  ·rw[h1,ya];exact Zq9 Inv mu Post h n j h2 (by omega)
  ·rw[h1,ya];exact⟨x,rfl,h2⟩
theorem XD{I X:Type}{step:I→Option (I⊕X)}(Inv:I→Prop)(mu:I→Nat)(Post:X→Prop)
 (h:∀i,Inv i→(∃j,step i=some (.inl j)∧Inv j∧mu j < mu i)∨(∃x,step i=some (.inr x)∧Post x)) (i:I) (hi:Inv i) (hm:mu i < 18446744073709551616):∃x,Zh step fuel i=some x∧Post x:=by
 refine Zq9 Inv mu Post h fuel i hi ?_;rw[ZjD];exact hm
theorem ZH{z:Int}(h1: -9223372036854775808≤z)(h2:z≤9223372036854775807):wi z=z:=by
 simp only[wi,IntKind.wrap,IntKind.signed,IntKind.bits];simp;omega
theorem ZeV{α:Type}{l:List α}{i:Int}{y:α}(h0:0≤i)(h:l[i.toNat]? =some y):idx l i=some y:=by
 unfold idx;rw[if_pos h0,h]
theorem Qk{α:Type}{l:List α}{i:Nat}(h:i < l.length):∃y,l[i]? =some y:=⟨_,yaf h⟩
theorem WS{i:Int}{n:Nat}(h1:0≤i)(h2:i < (n:Int)):inB i n=true:=by simp[inB,h1,h2]
theorem YE{n m b:Nat}(h1:(n+m)*b≤140737488355328)(h2:n+m≤9223372036854775807):apB n m b=true:=by
 unfold apB;rw[yi];exact⟨decide_eq_true h1,decide_eq_true h2⟩
def tdv:(ts:List Ty)→Ty.dens ts→List TD
 |[],_=>[]
 |[t],x=>[.p (.v t x)]
 |t::u::r,x=>.p (.v t x.1)::tdv (u::r) x.2
theorem Zyt:∀(ts:List Ty)(x:Ty.dens ts),Sh.fills (ts.map .v) (ofD ts x)=some (tdv ts x,[])
 |[],_=>rfl
 |[t],x=>by
  rw[show ofD [t] x=[⟨t,x⟩] from rfl,yaa,List.map_nil,Sh.fills,Sh.fill]
  have e:=Z2 t x;dsimp only;rw[e]
  rfl
 |t::u::r,x=>by
  have h:=Zyt (u::r) x.2;have e:=Z2 t x.1;rw[show ofD (t::u::r) x=⟨t,x.1⟩::ofD (u::r) x.2 from rfl,yaa,Sh.fills,Sh.fill]
  dsimp only;rw[e,yad,ya,h];rfl
theorem ZB5{L:Lk}:∀(ts:List Ty)(x:Ty.dens ts),TD.ers L (tdv ts x)=(Ty.encs ts x).map .p
 |[],_=>rfl
 |[t],x=>rfl
 |t::u::r,x=>by
  rw[show tdv (t::u::r) x=.p (.v t x.1)::tdv (u::r) x.2 from rfl,Zu,yaa, ←Zu,ZB5 (u::r) x.2]
  rfl
theorem ZEh{P:yg}{g:yu}{ts:List Ty}{M:Ty.dens ts→Option Bool}(hok:Fs.Ok (⟨g,ts.map .v,[],ts,[⟨.ret,[(0,.v .bool)],[],[.bool]⟩],M⟩:Fs P)){x:Ty.dens ts}(h:M x=some true):
 Con P g ((Ty.encs ts x).map .p) [] (.p (.bool true)) []:=by
 obtain⟨args,R,H,h1,h2,h3⟩:=hok x true h;have e:=(Zyt ts x).symm.trans (show Sh.fills (ts.map .v) (ofD ts x)=some (args,R) from h1)
 cases e;cases h2
 obtain⟨r,h4,h5⟩:=h3 _ [⟨.bool,true⟩] ([.p (.v .bool true)],[]) ⟨rfl,rfl⟩ (by
  simp only[Wq,shs];rfl)
 cases h4;rw[←ZB5 (L:=lk [])];exact h5
theorem ZsN{P:yg}{s:Fs P}(h:s.Ok){M:Ty.dens s.ins→Option (XSh.sum s.xs)}(e:∀x,M x=s.M x):Fs.Ok (P:=P) { s with M:=M}:=by
 have:M=s.M:=funext e;subst this;exact h
def Zox(P:yg)(m:Nat):List yb→List Ty→Bool
 |[],[]=>true
 |t::ts,T::Ts=>ZwY P m t T&&Zox P m ts Ts
 |_,_=>false
theorem Zyu{P:yg}{m n:Nat}:∀{ts:List yb}{Ts:List Ty}{xs:List Pl},Zox P m ts Ts=true→ZEg P n ts xs→∃v:Ty.dens Ts,Ty.Wfs Ts v∧xs=Ty.encs Ts v
 |[],[],[],_,_=>⟨(),trivial,rfl⟩
 |[],[],_::_,_,h=>h.elim
 |[],_::_,_,h,_=>by cases h
 |_::_,[],_,h,_=>by cases h
 |_::_,_::_,[],_,h=>h.elim
 |t::ts,[T],x::xs,h,hw=>by
  simp only[Zox,yi] at h;obtain⟨v,h1,rfl⟩:=Zq8 m n t T x h.1 hw.1
  cases ts with
  |nil=>cases xs with
   |nil=>exact⟨v,h1,rfl⟩
   |cons _ _=>exact hw.2.elim
  |cons _ _=>exact absurd h.2 (by simp[Zox])
 |t::ts,T::U::Ts,x::xs,h,hw=>by
  simp only[Zox,yi] at h;obtain⟨v,h1,rfl⟩:=Zq8 m n t T x h.1 hw.1;obtain⟨w,h2,rfl⟩:=Zyu (Ts:=U::Ts) h.2 hw.2;exact⟨(v,w),⟨h1,h2⟩,rfl⟩
theorem ZEi{P:yg}{g:yu}{t:Ty}{xs:List XSh}{MA M:Ty.dens [.sl t]→Option (XSh.sum xs)}(hA:Fs.Ok (⟨g,[.sl true t],[],[.sl t],xs,MA⟩:Fs P))
 (h1:M ([]:List t.den)=none) (h2:∀(x:t.den)(l:List t.den),M (x::l)=MA (x::l)):Fs.Ok (⟨g,[.v (.sl t)],[],[.sl t],xs,M⟩:Fs P):=by
 intro l o hM;have key:∀(l:List t.den),Ty.cast (.sl t) (.sl t) l=some l:=λl=>Z2 (.sl t) l
 have h3:∀l:List t.den,M l=some o→MA l=some o∧l≠[]:=λl hl=>by
  cases l with
  |nil=>rw[h1] at hl;cases hl
  |cons x l=>exact⟨by rw[←h2];exact hl,by simp⟩
 obtain⟨hMA,hne⟩:=h3 l hM;obtain⟨a1,R1,H1,f1,f2,f3⟩:=hA l o hMA
 have e1:a1=[.p (.sl (some true) t l)]∧R1=[]:=by
  have:Sh.fills [.sl true t] [(⟨.sl t,l⟩:TV)]=some (a1,R1):=f1;simp only[Sh.fills,Sh.fill] at this;rw[key l] at this;have this:some (([.p (.sl (some true) t l)]:List TD),([]:List TV))=some (a1,R1):=this;cases this;exact⟨rfl,rfl⟩
 obtain⟨rfl,rfl⟩:=e1;cases f2;refine⟨[.p (.v (.sl t) l)],[],[], ?_,rfl,λe vs s' hs hf=> ?_⟩
 ·show Sh.fills [.v (.sl t)] [(⟨.sl t,l⟩:TV)]=_;simp only[Sh.fills,Sh.fill];rw[key l];rfl
 ·obtain⟨r,r1,r2⟩:=f3 e vs s' hs hf;exact⟨r,r1,ZxM (xs:=List.map t.enc l) r2 λhl=>absurd (List.map_eq_nil_iff.1 hl) hne⟩
end Go.Ev
end
section
namespace Go.Proofs.YtkapgdbeeblihaaGreat
open Go.Ev Go.RowKit Go.Lib
open Go.ChangeMaps (setBlock)
theorem Zu4:∀(l:List MapEntry),(∀(i j:Nat)x y,l[i]? =some x→l[j]? =some y→x.born=y.born→i=j)→(l.map (·.born)).Nodup
 |[],_=>by simp
 |x::l,h=>by
  rw[yaa,List.nodup_cons];refine⟨λhm=> ?_,Zu4 l λi j y z h1 h2 h3=> ?_⟩
  ·obtain⟨y,h1,h2⟩:=ybr.1 hm;obtain⟨i,h3,h4⟩:=List.getElem_of_mem h1;have:=h 0 (i+1) x y rfl (by rw[yay,yaf h3,h4]) h2.symm;omega
  ·have:=h (i+1) (j+1) y z (by simpa using h1) (by simpa using h2) h3;omega
theorem Zir{es:Array MapEntry}{clock:Nat}(h:ZaW es clock):(es.toList.map (·.born)).Nodup:=
 Zu4 _ λi j x y h1 h2 h3=>h.2 i j x y (by rw[←ybm];exact h1) (by rw[←ybm];exact h2) h3
theorem ZEj{es:Array MapEntry}{clock:Nat}(h:ZaW es clock):∀x,x∈es.toList→x.born < clock:=λx hx=>by
 obtain⟨i,h1,h2⟩:=List.getElem_of_mem hx;exact h.1 i x (by rw[←ybm,yaf h1,h2])
def ZB6:yh→Int
 |.agg cs=>(match cs[0]? with|some (Value.int _ x)=>x|_=>0)
 |_=>0
def Vz(l:List MapEntry)(seen:Array Nat):Int:=((l.filter λe=>seen.contains e.born).map λe=>ZB6 e.val).sum
theorem ZsO(l:List MapEntry):Vz l #[]=0:=by
 unfold Vz;rw[List.filter_eq_nil_iff.2 (by simp)];rfl
theorem Zu5(es:Array MapEntry)(seen:Array Nat)(h:(leftOf es seen).size=0):Vz es.toList seen=(es.toList.map λe=>ZB6 e.val).sum:=by
 unfold Vz;have h1:leftOf es seen= #[]:=Array.eq_empty_of_size_eq_zero h;unfold leftOf at h1;rw[Array.filter_eq_empty_iff] at h1;rw[List.filter_eq_self.2 λe he=> ?_];have:=h1 e (by simpa using he);simpa using this
theorem ZjH(seen:Array Nat)(e:MapEntry)(hs:seen.contains e.born=false):∀(l:List MapEntry),(l.map (·.born)).Nodup→e∈l→Vz l (seen.push e.born)=Vz l seen+ZB6 e.val
 |x::l,hn,he=>by
  rw[yaa,List.nodup_cons] at hn
  have hrest:∀(m:List MapEntry),e.born ∉ m.map (·.born)→Vz m (seen.push e.born)=Vz m seen:=by
   intro m hm;unfold Vz;congr 2;refine List.filter_congr λy hy=> ?_;have:y.born≠e.born:=λhq=>hm (by rw[←hq];exact ybr.2 ⟨y,hy,rfl⟩);simp[Array.contains_push,this]
  by_cases hx:x.born=e.born
  ·have hxe:x=e:=by
    rcases yax.1 he with rfl|h
    ·rfl
    ·exact absurd (ybr.2 ⟨e,h,hx.symm⟩) hn.1
   subst hxe;have:=hrest l hn.1;unfold Vz at this ⊢;rw[List.filter_cons,List.filter_cons,if_pos (by simp[Array.contains_push]),if_neg (by rw[hs];decide),yaa,yby,this];omega
  ·have hl:e∈l:=by
    rcases yax.1 he with rfl|h
    ·exact absurd rfl hx
    ·exact h
   have:=ZjH seen e hs l hn.2 hl;unfold Vz at this ⊢;rw[List.filter_cons,List.filter_cons];have hc:(seen.push e.born).contains x.born=seen.contains x.born:=by simp[Array.contains_push,hx]
   rw[hc];split
   ·rw[yaa,yby,yaa,yby,this];omega
   ·exact this
theorem ZzW{w w' w1:yz}{r:Nat}{o:Obj}(hg:w.grownBy w' none)(hw:w1=w'∨w1=w'.drew)(hr:w.heap.size≤r):w.grownBy (setBlock w1 r o) none:=by
 have h1:w.grownBy w1 none:=by
  rcases hw with rfl|rfl
  ·exact hg
  ·exact⟨hg.os,hg.tape,hg.output,hg.size,hg.block⟩
 refine⟨h1.os,h1.tape,h1.output, ?_,λi hi hn=> ?_⟩
 ·have:(setBlock w1 r o).heap.size=w1.heap.size:=by simp[setBlock]
  rw[this];exact h1.size
 ·have:(setBlock w1 r o).heap[i]? =w1.heap[i]? :=by
   show(w1.heap.setIfInBounds r o)[i]? =_;rw[ydc,if_neg (by omega)]
  rw[this];exact h1.block i hi hn
set_option maxRecDepth 1000000 in
theorem ZB7(bs bm:Nat)(cs:Array yh)(ts:yb)(es:Array MapEntry)(clock:Nat)(w:yz)(hs:w.heap[bs]? =some (.cells cs ts (0,0)))(h0:cs[0]? =some (.map (some bm)))(hb:w.heap[bm]? =some (.map es clock))(hbo:ZaW es clock)
 (hv:∀x,x∈es.toList→∃n A l c h,x.val=.agg #[.int .i64 n,.slice A l c,.int .i64 h]):
 Calls yf 16 #[.pointer (some ⟨bs,0,none⟩)] w λe w'=>e=.returned (.int .i64 (wrap64 ((es.toList.map λe=>ZB6 e.val).sum)))∧w.grownBy w' none:=by
 have hrg:=run_range_map (P:=yf) w 106 34 65 bm es clock Tryz.underlying106 hb;have hc0:w.cell? ⟨bs,0,none⟩=some (.map (some bm)):=by simp[World.cell?,hs,h0]
 go_enter Tryz.func16,Tryz.ntmps16
 go_wp2
 go_loopw [3] (λs w'=>∃seen:Array Nat,w.grownBy w' none∧w'.heap[w.heap.size]? =some (.mapIter (some bm) clock seen clock)∧s=.int .i64 (wrap64 (Vz es.toList seen))) (λ_ w'=>(leftOf es (w'.iterSeen w.heap.size)).size)
 case atStart=>exact⟨#[],World.grownBy_alloc w _ none,heap_alloc_new w _,by rw[ZsO,show wrap64 0=0 by simp[wrap64]]⟩
 case round=>
  obtain⟨seen,hg,hr,rfl⟩:=hrel;have hlt:bm < w.heap.size:=(ycs.1 hb).1;have hb1:wr.heap[bm]? =some (.map es clock):=(hg.block bm hlt (by simp)).trans hb;rcases run_next_at (P:=yf) wr 0 w.heap.size bm clock clock seen es clock hr hb1 (λx hx=>ZEj hbo x hx) (yn _) with⟨h0',hrun⟩|⟨e,he,w1,hw1,hrun⟩
  ·have hnx:∀ty,(Instr.next (.pointer (some ⟨w.heap.size,0,none⟩)) false ty).run yf wr=_:=λ_=>hrun
   go_wp2
   go_ret
   rw[Zu5 es seen h0'];exact⟨rfl,hg⟩
  ·have hm:e∈es.toList∧seen.contains e.born=false:=mem_left he;obtain⟨n,A,l,c,h,hval⟩:=hv e hm.1;rw[hval] at hrun;have hg2:w.grownBy (setBlock w1 w.heap.size (.mapIter (some bm) clock (seen.push e.born) clock)) none:=ZzW hg hw1 (yn _)
   have hr2:(setBlock w1 w.heap.size (.mapIter (some bm) clock (seen.push e.born) clock)).heap[w.heap.size]? =some (.mapIter (some bm) clock (seen.push e.born) clock):=by
    have:w1.heap[w.heap.size]? =some (.mapIter (some bm) clock seen clock):=by
     rcases hw1 with rfl|rfl <;> exact hr
    exact(Go.MapKept.heap_set (w:=w1) this).1
   generalize setBlock w1 w.heap.size (.mapIter (some bm) clock (seen.push e.born) clock)=w2 at hrun hg2 hr2;have hb2:w2.heap[bm]? =some (.map es clock):=(hg2.block bm hlt (by simp)).trans hb;have hsz:w.heap.size < w2.heap.size:=(ycs.1 hr2).1;have hnx:∀ty,(Instr.next (.pointer (some ⟨w.heap.size,0,none⟩)) false ty).run yf wr=_:=λ_=>hrun;have hen:=run_entry_at (P:=yf) w2 w.heap.size bm clock seen es clock e hr2 hb2 hm.1 (Zir hbo);rw[hval] at hen;have hen':∀o,(Instr.entry (.pointer (some ⟨w.heap.size,0,none⟩))).run yf (w2.alloc o)=_:=λo=>run_entry_at (P:=yf) (w2.alloc o) w.heap.size bm clock seen es clock e (by rw[heap_alloc_old w2 o hsz];exact hr2) (by rw[heap_alloc_old w2 o (by omega)];exact hb2) hm.1 (Zir hbo);rw[hval] at hen'
   have hsn:wr.iterSeen w.heap.size=seen:=by
    unfold World.iterSeen;rw[hr]
   clear hr hb1 hg hw1 hrun
   go_wp2
   go_roundw
   case rel=>
    refine⟨seen.push e.born,hg2.andThen (World.grownBy_alloc w2 _ none) (by intro j hj;cases hj),by rw[heap_alloc_old w2 _ hsz];exact hr2, ?_⟩;rw[ZjH seen e hm.2 es.toList (Zir hbo) hm.1,hval]
    have e3:∀x:Int,wrap64 (wrap64 x+n)=wrap64 (x+n):=λx=>by
     simp only[wrap64];omega
    rw[e3];rfl
   case measure=>
    have e1:(w2.alloc (Obj.cells #[Value.int IntKind.i64 n,Value.slice A l c,Value.int IntKind.i64 h] 65)).iterSeen w.heap.size=seen.push e.born:=by
     unfold World.iterSeen;rw[heap_alloc_old w2 _ hsz,hr2]
    rw[e1,hsn];exact left_shrinks es seen e he
def ZB8:Pl→Int
 |.agg [.agg [.int .i64 n,.agg [.sl _ _ _]],.int .i64 _]=>n
 |_=>0
theorem ZB9{σ:Sg}{n h:Int}{nn:Option Bool}{s:Nat}{xs:List Pl}{v:yh}(hr:repDV σ (.p (.agg [.agg [.int .i64 n,.agg [.sl nn s xs]],.int .i64 h])) v):∃A l c,v=.agg #[.int .i64 n,.slice A l c,.int .i64 h]:=by
 obtain⟨cs,rfl,h1⟩:=hr.1 rfl;simp only[repD,repC,repCs] at h1;obtain⟨us,us',e1,⟨u1,u2,e2,e3,u3,u4,e4,⟨u5,u6,e5,⟨_,A,c,e6,_⟩,e7⟩,e8⟩,u7,u8,e9,e10,e11⟩:=h1;subst e3;subst e6;subst e7;subst e8;subst e10;subst e11;subst e5;subst e4;subst e2;subst e9;refine⟨A,xs.length,c, ?_⟩;congr 1;apply Array.toList_inj.1;rw[e1];rfl
theorem ZCa{σ:Sg}:∀(kvs:List (Pl×Pl))(es:List MapEntry),V2 σ kvs es→(∀q,q∈kvs→∃n nn s xs h,q.2=.agg [.agg [.int .i64 n,.agg [.sl nn s xs]],.int .i64 h])→
 (∀x,x∈es→∃n A l c h,x.val=.agg #[.int .i64 n,.slice A l c,.int .i64 h])∧(es.map λe=>ZB6 e.val).sum=(kvs.map λq=>ZB8 q.2).sum
 |[],[],_,_=>⟨λx hx=>(by cases hx),rfl⟩
 |[],_::_,h,_=>h.elim
 |_::_,[],h,_=>h.elim
 |q::r,e::es,h,hk=>by
  obtain⟨n,nn,s,xs,hh,hq⟩:=hk q (yap ..);obtain⟨h1,h2⟩:=ZCa r es h.2.2 λy hy=>hk y (yat _ hy);have hv:=h.2.1;rw[hq] at hv;obtain⟨A,l,c,hv⟩:=ZB9 hv;refine⟨λx hx=> ?_, ?_⟩
  ·rcases yax.1 hx with rfl|hx
   ·exact⟨n,A,l,c,hh,hv⟩
   ·exact h1 x hx
  ·rw[yaa,yby,yaa,yby,h2,hv,hq];rfl
theorem ZCb{l m:List Int}(h:l.Perm m):l.sum=m.sum:=by
 induction h with
 |nil=>rfl
 |cons x _ ih=>rw[yby,yby,ih]
 |swap x y l=>simp only[yby];omega
 |trans _ _ h1 h2=>exact h1.trans h2
theorem ZEk{x:Dv}{st:Bool}{t:yb}{kvs:List (Pl×Pl)}{rest:List Ent}(hk:∀q,q∈kvs→∃n nn s xs h,q.2=.agg [.agg [.int .i64 n,.agg [.sl nn s xs]],.int .i64 h]):
 Con yf 16 [.ref 0 0 []] (.var (.agg [.mp 1,x]) st::.map t kvs::rest) (.p (.int .i64 (wrap64 ((kvs.map λq=>ZB8 q.2).sum)))) (.var (.agg [.mp 1,x]) st::.map t kvs::rest):=by
 intro σ vs ok hH hvs;simp only[repVs] at hvs;obtain⟨v,_,rfl,hv,rfl⟩:=hvs;have hv:=hv.2 rfl;simp only[repD] at hv;obtain⟨b,hm,_,hv⟩:=hv;obtain rfl:v=.pointer (some ⟨b,0,none⟩):=by simpa using hv
 obtain⟨b',cs,ts,e1,hb,hr,hsz⟩:=ok.ent 0 _ _ (by rw[hH];rfl) hm;cases e1;simp only[repD,repDs] at hr;obtain⟨us,us',e2,⟨bm,hbm,_,rfl⟩,_⟩:=hr
 have h0:cs[0]? =some (.map (some bm)):=by
  have:(cs.toList.take (Dv.size (.agg [.mp 1,x])))[0]? =some (.map (some bm)):=by rw[e2];rfl
  rw[←ybm];rw[ycg] at this;split at this
  ·exact this
  ·cases this
 obtain⟨b2,es,clock,e3,hbe,hkv,hbo⟩:=ok.ent 1 _ _ (by rw[hH];rfl) hbm;cases e3;obtain⟨kv2,hperm,_,hkv⟩:=hkv;obtain⟨k1,k2⟩:=ZCa _ _ hkv λq hq=>hk q (hperm.mem_iff.1 hq);have k3:(kv2.map λq=>ZB8 q.2).sum=(kvs.map λq=>ZB8 q.2).sum:=ZCb (hperm.map _);rw[k3] at k2;refine(ZB7 b bm cs ts es clock σ.w hb h0 hbe hbo k1).mono λe w'⟨he,hg⟩=> ?_;subst he;obtain⟨to,ok'⟩:=Zg5 ok hg;refine⟨_,{ σ with w:=w'},rfl,rfl,hH,to,ok', ?_⟩;rw[k2];exact Zq _ _
abbrev cT(B:Ty):Ty:=.st [.st [.int .i64,.st [.sl B]],.int .i64]
abbrev Zu6(K B S:Ty)(tid e:yb):List ESh:=[.var (.agg [.mp 1,.own 2 S]) true,.map tid K (cT B),.log S e]
def Zis{α β:Type}(m:List (α×((Int×β)×Int))):Int:=wrap64 ((m.map λq=>q.2.1.1).sum)
def ZCc{K B:Ty}(m:List (K.den×((Int×List B.den)×Int))):List (Pl×Pl):=m.map λq=>(K.enc q.1,(cT B).enc q.2)
theorem Zyv{K B:Ty}:∀(m:List (K.den×((Int×List B.den)×Int))),((ZCc m).map λq=>ZB8 q.2).sum=(m.map λq=>q.2.1.1).sum
 |[]=>rfl
 |q::m=>by
  have h:ZCc (q::m)=(K.enc q.1,(cT B).enc q.2)::ZCc m:=rfl;rw[h,yaa,yby,Zyv m,yaa,yby];rfl
theorem ZCd{K B:Ty}(m:List (K.den×((Int×List B.den)×Int))):∀q,q∈ZCc m→∃n nn s xs h,q.2=.agg [.agg [.int .i64 n,.agg [.sl nn s xs]],.int .i64 h]:=λq hq=>by
 obtain⟨z,_,rfl⟩:=ybr.1 hq;exact⟨z.2.1.1,none,B.size,z.2.1.2.map B.enc,z.2.2,rfl⟩
theorem ZGa(K B S:Ty)(tid e:yb):Fs.Ok (⟨16,[.ref 0 []],Zu6 K B S tid e,[YN K (cT B),.sl S],[⟨.ret,[(0,.v (.int .i64))],Zu6 K B S tid e,[.int .i64,YN K (cT B),.sl S]⟩],
 λ(x:List (K.den×((Int×List B.den)×Int))×List S.den)=>some (Zis x.1,x.1,x.2)⟩:Fs yf):=by
 rintro⟨m,l⟩ o h
 replace h:some ((Zis m,m,l):Int×List (K.den×((Int×List B.den)×Int))×List S.den)=some o:=h
 cases h;let H:List TEnt:=[.var (.agg [.mp 1,.own 2 none S none]) true,.map tid K (cT B) m,.log S e l];have e1:Ty.cast (YN K (cT B)) (YN K (cT B)) m=some m:=Z2 _ m;have e2:Ty.cast (.sl S) (.sl S) l=some l:=Z2 (.sl S) l;have e3:Ty.cast (.int .i64) (.int .i64) (Zis m)=some (Zis m):=Z2 (.int .i64) (Zis m)
 have hf:∀r:List TV,ESh.fills (Zu6 K B S tid e) (⟨YN K (cT B),m⟩::⟨.sl S,l⟩::r)=some (H,r):=λr=>by
  show(ESh.fill (.var (.agg [.mp 1,.own 2 S]) true) (⟨YN K (cT B),m⟩::⟨.sl S,l⟩::r)).bind (λa=>(ESh.fills [.map tid K (cT B),.log S e] a.2).map λb=>(a.1::b.1,b.2))=_;show(((Ty.cast (YN K (cT B)) (YN K (cT B)) m).map λ(y:List (K.den×(cT B).den))=>((TEnt.map tid K (cT B) y,(⟨.sl S,l⟩::r:List TV)):TEnt×List TV)).bind λa=>(ESh.fills [.log S e] a.2).map λb=>(a.1::b.1,b.2)).map (λb=>(TEnt.var (.agg [.mp 1,.own 2 none S none]) true::b.1,b.2))=_;rw[e1];show(((((Ty.cast (.sl S) (.sl S) l).map λ(y:List S.den)=>((TEnt.log S e y,r):TEnt×List TV)).bind λa=>(ESh.fills [] a.2).map λb=>(a.1::b.1,b.2))).map λb=>(TEnt.map tid K (cT B) m::b.1,b.2)).map (λb=>(TEnt.var (.agg [.mp 1,.own 2 none S none]) true::b.1,b.2))=_;rw[e2];rfl
 refine⟨[.ref 0 []],_,H,rfl,hf [],λx vs s' hs hfs=> ?_⟩;obtain⟨rfl,rfl⟩:=hs
 have hs':s'=([.p (.v (.int .i64) (Zis m))],H):=by
  have h1:Wq 1 [(0,.v (.int .i64))] (Zu6 K B S tid e) (⟨.int .i64,Zis m⟩::⟨YN K (cT B),m⟩::⟨.sl S,l⟩::[])=some s':=hfs
  have h2:Wq 1 [(0,.v (.int .i64))] (Zu6 K B S tid e) (⟨.int .i64,Zis m⟩::⟨YN K (cT B),m⟩::⟨.sl S,l⟩::[])=some ([.p (.v (.int .i64) (Zis m))],H):=by
   unfold Wq
   have h3:Sh.fills (shs [(0,.v (.int .i64))] 1) (⟨.int .i64,Zis m⟩::⟨YN K (cT B),m⟩::⟨.sl S,l⟩::[])=some ([.p (.v (.int .i64) (Zis m))],⟨YN K (cT B),m⟩::⟨.sl S,l⟩::[]):=by
    show(((Ty.cast (.int .i64) (.int .i64) (Zis m)).map λ(y:Int)=>((TD.p (.v (.int .i64) y),(⟨YN K (cT B),m⟩::⟨.sl S,l⟩::[]:List TV)):TD×List TV))).bind (λa=>(Sh.fills [] a.2).map λb=>(a.1::b.1,b.2))=_;rw[e3];rfl
   rw[h3];dsimp only[ya];rw[hf []];rfl
  rw[h2] at h1;exact(ybe h1).symm
 subst hs';refine⟨_,rfl, ?_⟩;have hc:=ZEk (x:=(TD.own 2 none S none).er (lk H)) (st:=true) (t:=tid) (kvs:=ZCc m) (rest:=[.log S.size e (l.map S.enc)]) (ZCd m);have e5:=Zyv (K:=K) (B:=B) m;rw[e5] at hc;exact hc
end Go.Proofs.YtkapgdbeeblihaaGreat
end
section
namespace Go.Proofs.YtkapgdbeeblihaaGreat
open Go.Ev Go.RowKit Go.Lib
theorem Zw0(w:yz):Calls yf 105 #[.slice none 0 0,.int .i64 0] w λe w'=>e=.returned (.slice none 0 0)∧w'=w:=by
 go_enter Tryz.func105,Tryz.ntmps105
 go_wp2
 go_ret
 exact⟨rfl,rfl⟩
theorem ZzX(n:Nat)(w:yz)(h0:0 < n)(hn:n≤Zn):Calls yf 105 #[.slice none 0 0,.int .i64 n] w λe w'=>e=.returned (.slice (some ⟨w.heap.size,0,none⟩) 0 (grownCap w n 0 5))∧
 w'=w.drew.alloc (.cells (Builtin.zeroCells #[.int .u8 0] n++Builtin.zeroCells #[.int .u8 0] (grownCap w n 0 5 - n)) 5):=by
 have hb:n≤140737488355328:=hn;have h1:¬((n:Int) < 0):=by omega
 have h3:wrap64 ((n:Int) - ((0:Int) - (0:Int)))=(n:Int):=by unfold wrap64;omega
 have h3':wrap64 ((n:Int) - 0)=(n:Int):=by unfold wrap64;omega
 have h3'':wrap64 (n:Int)=(n:Int):=by unfold wrap64;omega
 have h4:(n:Int) > 0:=by omega
 have hi:∃i,yf.info? 5=some i∧i.zero=some (.int .u8 0)∧i.size=1∧i.bytes=1:=by
  have h:(yf.info? 5).map (λi=>(i.zero,i.size,i.bytes))=some (some (.int .u8 0),1,1):=by kernel_rfl
  obtain⟨i,h1,h2⟩:=yp.1 h;simp only[ym] at h2;exact⟨i,h1,h2.1,h2.2.1,h2.2.2⟩
 obtain⟨i,hi1,hi2,hi3,hi4⟩:=hi
 have hrz:∀ty,(Builtin.append_ #[134,3] ty #[.slice none 0 0,.int .i64 n]).run yf w=
  .ok (.slice (some ⟨w.heap.size,0,none⟩) n (grownCap w n 0 5)) (w.drew.alloc (.cells (Builtin.zeroCells #[.int .u8 0] n++Builtin.zeroCells #[.int .u8 0] (grownCap w n 0 5 - n)) 5)):=λty=>by
  have h:=Lib.run_append_grow_zeros (P:=yf) w 134 3 ty 5 i (.int .u8 0) .i64 .i64 Tryz.underlying134 Tryz.underlying3 hi1 hi2 none 0 0 [] (by rw[hi3];simp[Builtin.firstCells]) n h0 (by omega) (by omega) (by omega)
   (by rw[hi4];omega) (by rw[yba];exact growslice_fits h0 (by rw[hi4];omega))
  simpa[Value.cells] using h
 obtain⟨G,hG⟩:∃G,G=grownCap w n 0 5:=⟨_,rfl⟩;have hGn:=grownCap_ge w n 0 5;have hG63:=grownCap_le_maxLen w n 0 5 (by unfold maxLen;omega);unfold maxLen at hG63;rw[←hG] at hrz hGn hG63 ⊢;clear hG
 go_enter Tryz.func105,Tryz.ntmps105
 go_wp2_with (at_builtin;refine Lib.wpList_append_run _ rfl _ _ _ _ rfl _ _ rfl rfl _ _ (hrz _) ?_)
 all_goals (go_ret;exact⟨rfl,rfl⟩)
theorem ZCe(n:Nat)(hn:n≤Zn):Con yf 105 [.p (.sl (some false) 1 []),.p (.int .i64 (n:Int))] [] (.own 0 none 1 []) [.log 1 5 []]:=by
 intro σ vs ok hH hvs;simp only[repVs] at hvs;obtain⟨v,_,rfl,hv,v2,_,rfl,hv2,rfl⟩:=hvs;obtain rfl:=Zlr hv
 obtain rfl:v2=.int .i64 n:=by
  have:=hv2.2 rfl;simpa[repD,repC] using this
 have hm:σ.m=[]:=ybi (by rw[ok.len,hH];rfl);rcases Nat.eq_zero_or_pos n with rfl|h0
 ·refine(Zw0 σ.w).mono λe w'⟨he,hw⟩=> ?_;subst he;subst hw;obtain⟨to,ok'⟩:=XJ (σ':={ σ with m:=σ.m++[none],H:=σ.H++[.log 1 5 []]}) ok rfl rfl rfl rfl (World.grownBy.refl σ.w none) (.inl rfl) (λ_=>.inl ⟨rfl,rfl⟩);refine⟨_,{ σ with m:=σ.m++[none],H:=σ.H++[.log 1 5 []]},rfl,rfl,by simp[hH],to,ok', ?_⟩;rw[Zg rfl];simp only[repD];exact⟨λ_ hx=>(by cases hx),none,0,rfl,yn _,by simp[maxLen],ZQ _,λ_=>rfl,λh=>absurd rfl h,5,[],by simp[hH],yn _,λ_=>.inl ⟨by simp[hm],rfl,rfl⟩⟩
 ·refine(ZzX n σ.w h0 hn).mono λe w'⟨he,hw⟩=> ?_;subst he;subst hw;have hge:=grownCap_ge σ.w n 0 5;have hcm:=grownCap_le_maxLen σ.w n 0 5 (by have:n≤140737488355328:=hn;unfold maxLen;omega)
  have hsz:(Builtin.zeroCells #[.int .u8 0] n++Builtin.zeroCells #[.int .u8 0] (grownCap σ.w n 0 5 - n):Array yh).size=grownCap σ.w n 0 5*1:=by
   simp only[Array.size_append,size_zeroCells];simp;omega
  let cs:Array yh:=Builtin.zeroCells #[.int .u8 0] n++Builtin.zeroCells #[.int .u8 0] (grownCap σ.w n 0 5 - n);let σ':Sg:={ σ with m:=σ.m++[some σ.w.heap.size],H:=σ.H++[.log 1 5 []],w:=σ.w.drew.alloc (.cells cs 5)};have hblk:σ'.w.heap[σ.w.heap.size]? =some (.cells cs 5 (0,0)):=heap_alloc_new σ.w.drew _
  obtain⟨to,ok'⟩:=XJ (σ':=σ') ok rfl rfl rfl rfl (Yt σ.w (.cells cs 5) none) (.inr ⟨_,rfl,yn _,by simp[σ']⟩)
   (λleaf=>.inr ⟨σ.w.heap.size,_,grownCap σ.w n 0 5,rfl,hblk,hsz,Nat.zero_le _,hcm,λ_ hx=>(by cases hx),by simp[repCs]⟩)
  refine⟨_,σ',rfl,rfl,by simp[σ',hH],to,ok', ?_⟩;rw[Zg rfl];simp only[repD];exact⟨λ_ hx=>(by cases hx),_,_,rfl,Nat.zero_le _,hcm,ZQ _,λh=>(by cases h),λh=>absurd rfl h,5,[],by simp[σ',hH],yn _,λ_=>.inr ⟨_,_,by simp[σ',hm],rfl,hblk,hsz⟩⟩
end Go.Proofs.YtkapgdbeeblihaaGreat
end
section
set_option maxRecDepth 4000
namespace Go.Proofs.YtkapgdbeeblihaaGreat
open Go Go.Ev
noncomputable section
abbrev yI:Ty:=.int .i64
abbrev Zw:Ty:=(.st [(.sl .u64),yI,yI,.u64])
abbrev ZK:Type:=((List UInt64)×Int×Int×UInt64)
def VH(F:Nat)(a0:(List UInt64)):Option ((List UInt64)):=
 if(apB 0 a0.length 8)=true then
  some a0
 else
 none
def ZsP(F:Nat):Fs yf:=⟨60,[.sl true .u64],[],[(.sl .u64)],[⟨.ret,[(0,.v (.sl .u64))],[],[(.sl .u64)]⟩],λx=>VH F x⟩
def Zu7:Fs yf:=ZsP fuel
theorem ZsQ:Zu7.Ok:=fnO { own:=[5,7],still:=[2]} [] [] trivial
def ZhL(F:Nat):Option ((List UInt64)):=
 some []
def Zmi(F:Nat):Fs yf:=⟨60,[.nil .u64],[],[],[⟨.ret,[(0,.v (.sl .u64))],[],[(.sl .u64)]⟩],λx=>ZhL F⟩
def Zoy:Fs yf:=Zmi fuel
theorem Zmj:Zoy.Ok:=fnO { own:=[5,7],still:=[2]} [] [] trivial
def Zoz(F:Nat):Fs yf:=⟨60,[.v (.sl .u64)],[],[(.sl .u64)],[⟨.ret,[(0,.v (.sl .u64))],[],[(.sl .u64)]⟩],λx=>VH F x⟩
def ZdN:Fs yf:=Zoz fuel
theorem Zgo:ZdN.Ok:=ZwX (t:=.u64) (xs:=[⟨.ret,[(0,.v (.sl .u64))],[],[(.sl .u64)]⟩]) (MA:=λ(x:(List UInt64))=>VH fuel x) (MB:=λ_=>ZhL fuel) ZsQ Zmj rfl
abbrev Yi:Ty:=(.st [(.sl Zw)])
abbrev Xb:Type:=(List ZK)
abbrev Zs:Ty:=(.st [yI,Yi])
abbrev Out:Type:=(Int×Xb)
def Ql(F:Nat)(a0:(List ZK)):Option (((List Unit)×(List ZK))):=
 if(apB 0 a0.length 48)=true then
  some ([()],a0)
 else
 none
def ZkU(F:Nat):Fs yf:=⟨59,[.sl true Zw],[],[(.sl Zw)],[⟨.ret,[(0,.rw 0)],[.row Zw true 115],[(.sl (.st [])),(.sl Zw)]⟩],λx=>Ql F x⟩
def Zmk:Fs yf:=ZkU fuel
theorem ZkV:Zmk.Ok:=fnO { own:=[5,7],rowt:=[2,5,7]} [] [] trivial
def Q6(F:Nat)(a0:(List ZK)):Option (((List Unit)×(List ZK))):=if a0.isEmpty=true then none else Ql F a0
def Zit(F:Nat):Fs yf:=⟨59,[.v (.sl Zw)],[],[(.sl Zw)],[⟨.ret,[(0,.rw 0)],[.row Zw true 115],[(.sl (.st [])),(.sl Zw)]⟩],λx=>Q6 F x⟩
def Zdh:Fs yf:=Zit fuel
theorem Ziu:Zdh.Ok:=ZEi (t:=Zw) (xs:=[⟨.ret,[(0,.rw 0)],[.row Zw true 115],[(.sl (.st [])),(.sl Zw)]⟩]) (MA:=λ(x:(List ZK))=>Ql fuel x) ZkV rfl (λ_ _=>rfl)
def hi0:HI:={ still:=[8,20],rowt:=[3,9,17]}
def Vr(F:Nat)(s:(Int×Int×Out×Out×(List Unit)×(List ZK))):Option ((Int×Int×Out×Out×(List Unit)×(List ZK))⊕(Out×Out×(List Unit)×(List ZK))):=
 if(decide (s.2.1 < s.1))=true then
  if(inB s.2.1 s.2.2.2.2.2.length)=true then
   (s.2.2.2.2.2[s.2.1.toNat]?).bind λe8=>
   (VH F e8.1).bind λo9=>
   if(inB s.2.1 s.2.2.2.2.2.length)=true then
    (s.2.2.2.2.2[s.2.1.toNat]?).bind λe10=>
    let y11:(List ZK):=s.2.2.2.2.2.set s.2.1.toNat (o9,e10.2.1,e10.2.2.1,e10.2.2.2)
    some (.inl (s.1,wi (s.2.1+1),s.2.2.1,s.2.2.2.1,s.2.2.2.2.1,y11))
   else
   none
  else
  none
 else
 some (.inr (s.2.2.1,s.2.2.2.1,s.2.2.2.2.1,s.2.2.2.2.2))
def ZjI:Lp:=⟨[(1,.ref 0 []),(2,.ref 1 []),(3,.rw 2),(10,.rw 2),(11,.v yI),(12,.v yI)],[.var (.v Zs) true,.var (.v Zs) true,.row Zw true 115],[yI,yI,Zs,Zs,(.sl (.st [])),(.sl Zw)],[⟨.exit 0,[(1,.ref 0 []),(2,.ref 1 []),(3,.rw 2)],[.var (.v Zs) true,.var (.v Zs) true,.row Zw true 115],[Zs,Zs,(.sl (.st [])),(.sl Zw)]⟩],Zh (Vr fuel) fuel⟩
def hi1:HI:={ still:=[8,20],rowt:=[3,9,17],deep:=[63]}
theorem Zml:ZjI.okA yf 36 0:=ZU hi1 [] [ZdN] ⟨Zgo,ytt⟩
def WT(F:Nat)(a0:Out):Option (Out):=
 (Q6 F a0.2).bind λo7=>
 (Zh (Vr F) F ((o7.2.length:Int),0,a0,(0,[]),o7.1,o7.2)).bind λo12=>
 some (o12.1.1,o12.2.2.2)
def ZsR(F:Nat):Fs yf:=⟨36,[.v Zs],[],[Zs],[⟨.ret,[(0,.v Zs)],[],[Zs]⟩],λx=>WT F x⟩
def Zdi:Fs yf:=ZsR fuel
theorem ZeW:Zdi.Ok:=Zyq (fi:={ hi:=hi1,lp:=[(0,ZjI)]}) (specs:={ l:=[Zdh]}) (okS ⟨Ziu,ytt⟩) ⟨Zml,ytt⟩
def ZlO:ByteArray:=⟨#[0,1,2,2,3,3,3,3,4,4,4,4,4,4,4,4,5,5,5,5,5,5,5,5,5,5,5,5,5,5,5,5,6,6,6,6,6,6,6,6,6,6,6,6,6,6,6,6,6,6,6,6,6,6,6,6,6,6,6,6,6,6,6,6,7,7,7,7,7,7,7,7,7,7,7,7,7,7,7,7,7,7,7,7,7,7,7,7,7,7,7,7,7,7,7,7,7,7,7,7,7,7,7,7,7,7,7,7,7,7,7,7,7,7,7,7,7,7,7,7,7,7,7,7,7,7,7,7,8,8,8,8,8,8,8,8,8,8,8,8,8,8,8,8,8,8,8,8,8,8,8,8,8,8,8,8,8,8,8,8,8,8,8,8,8,8,8,8,8,8,8,8,8,8,8,8,8,8,8,8,8,8,8,8,8,8,8,8,8,8,8,8,8,8,8,8,8,8,8,8,8,8,8,8,8,8,8,8,8,8,8,8,8,8,8,8,8,8,8,8,8,8,8,8,8,8,8,8,8,8,8,8,8,8,8,8,8,8,8,8,8,8,8,8,8,8,8,8,8,8,8,8,8,8,8,8]⟩
def ZlP(F:Nat)(a0:UInt64):Option (Int):=
 if(decide (a0 ≥ 4294967296))=true then
  if(decide ((ZB a0 32) ≥ 65536))=true then
   if(decide ((ZB (ZB a0 32) 16) ≥ 256))=true then
    let y13:UInt8:=w8 ((ZB (ZB (ZB a0 32) 16) 8).toNat:Int)
    (idx (ZdM ZlO) (y13.toNat:Int)).bind λe14=>
    some (wi (56+(e14.toNat:Int)))
   else
   (idx (ZdM ZlO) ((w8 ((ZB (ZB a0 32) 16).toNat:Int)).toNat:Int)).bind λe15=>
   some (wi (48+(e15.toNat:Int)))
  else
  if(decide ((ZB a0 32) ≥ 256))=true then
   (idx (ZdM ZlO) ((w8 ((ZB (ZB a0 32) 8).toNat:Int)).toNat:Int)).bind λe16=>
   some (wi (40+(e16.toNat:Int)))
  else
  (idx (ZdM ZlO) ((w8 ((ZB a0 32).toNat:Int)).toNat:Int)).bind λe17=>
  some (wi (32+(e17.toNat:Int)))
 else
 if(decide (a0 ≥ 65536))=true then
  if(decide ((ZB a0 16) ≥ 256))=true then
   (idx (ZdM ZlO) ((w8 ((ZB (ZB a0 16) 8).toNat:Int)).toNat:Int)).bind λe18=>
   some (wi (24+(e18.toNat:Int)))
  else
  (idx (ZdM ZlO) ((w8 ((ZB a0 16).toNat:Int)).toNat:Int)).bind λe19=>
  some (wi (16+(e19.toNat:Int)))
 else
 if(decide (a0 ≥ 256))=true then
  (idx (ZdM ZlO) ((w8 ((ZB a0 8).toNat:Int)).toNat:Int)).bind λe20=>
  some (wi (8+(e20.toNat:Int)))
 else
 (idx (ZdM ZlO) ((w8 (a0.toNat:Int)).toNat:Int)).bind λe21=>
 some (wi (0+(e21.toNat:Int)))
def ZpM(F:Nat):Fs yf:=⟨108,[.v .u64],[],[.u64],[⟨.ret,[(0,.v yI)],[],[yI]⟩],λx=>ZlP F x⟩
def ZjJ:Fs yf:=ZpM fuel
theorem ZpN:ZjJ.Ok:=fnO { still:=[2]} [] [] trivial
def Ya(F:Nat)(a0:UInt64):Option (Int):=
 (ZlP F a0).bind λo22=>
 some (wi (64 - o22))
def ZeX(F:Nat):Fs yf:=⟨106,[.v .u64],[],[.u64],[⟨.ret,[(0,.v yI)],[],[yI]⟩],λx=>Ya F x⟩
def QK:Fs yf:=ZeX fuel
theorem ZeY:QK.Ok:=fnO { still:=[2,3]} [] [ZjJ] ⟨ZpN,ytt⟩
def WU(F:Nat)(s:(UInt64×UInt64×UInt64×UInt64×UInt64×UInt64×UInt64×UInt64×UInt64)):Option ((UInt64×UInt64×UInt64×UInt64×UInt64×UInt64×UInt64×UInt64×UInt64)⊕(UInt64×UInt64×UInt64×UInt64×UInt64×UInt64×UInt64×UInt64)):=
 if(decide (s.2.2.2.2.2.2.2.1 ≥ 4294967296))=true then
  let y30:Bool:=decide ((s.2.2.2.2.2.2.2.2+s.2.2.1) ≥ 4294967296)
  if y30=true then
   some (.inr (s.1,s.2.1,s.2.2.1,s.2.2.2.1,s.2.2.2.2.1,s.2.2.2.2.2.1,s.2.2.2.2.2.2.1,s.2.2.2.2.2.2.2.1 - 1))
  else
  some (.inl (s.1,s.2.1,s.2.2.1,s.2.2.2.1,s.2.2.2.2.1,s.2.2.2.2.2.1,s.2.2.2.2.2.2.1,s.2.2.2.2.2.2.2.1 - 1,s.2.2.2.2.2.2.2.2+s.2.2.1))
 else
 let y31:Bool:=decide ((s.2.2.2.2.2.2.2.1*s.2.2.2.1) > ((4294967296*s.2.2.2.2.2.2.2.2)+s.2.2.2.2.2.1))
 if y31=true then
  let y32:Bool:=decide ((s.2.2.2.2.2.2.2.2+s.2.2.1) ≥ 4294967296)
  if y32=true then
   some (.inr (s.1,s.2.1,s.2.2.1,s.2.2.2.1,s.2.2.2.2.1,s.2.2.2.2.2.1,s.2.2.2.2.2.2.1,s.2.2.2.2.2.2.2.1 - 1))
  else
  some (.inl (s.1,s.2.1,s.2.2.1,s.2.2.2.1,s.2.2.2.2.1,s.2.2.2.2.2.1,s.2.2.2.2.2.2.1,s.2.2.2.2.2.2.2.1 - 1,s.2.2.2.2.2.2.2.2+s.2.2.1))
 else
 some (.inr (s.1,s.2.1,s.2.2.1,s.2.2.2.1,s.2.2.2.2.1,s.2.2.2.2.2.1,s.2.2.2.2.2.2.1,s.2.2.2.2.2.2.2.1))
def ZhM:Lp:=⟨[(2,.v .u64),(8,.v .u64),(9,.v .u64),(10,.v .u64),(11,.v .u64),(13,.v .u64),(14,.v .u64),(15,.v .u64),(16,.v .u64)],[],[.u64,.u64,.u64,.u64,.u64,.u64,.u64,.u64,.u64],[⟨.exit 0,[(2,.v .u64),(8,.v .u64),(9,.v .u64),(10,.v .u64),(11,.v .u64),(13,.v .u64),(14,.v .u64),(15,.v .u64)],[],[.u64,.u64,.u64,.u64,.u64,.u64,.u64,.u64]⟩],Zh (WU fuel) fuel⟩
theorem ZkW:ZhM.okA yf 101 0:=ZU { still:=[6,7,34]} [] [] trivial
def WV(F:Nat)(s:(UInt64×UInt64×UInt64×UInt64×UInt64×UInt64×UInt64×UInt64×UInt64)):Option ((UInt64×UInt64×UInt64×UInt64×UInt64×UInt64×UInt64×UInt64×UInt64)⊕(UInt64×UInt64×UInt64×UInt64×UInt64×UInt64)):=
 if(decide (s.2.2.2.2.2.2.2.2 ≥ 4294967296))=true then
  let y35:Bool:=decide ((s.2.2.2.2.2.2.1+s.2.2.1) ≥ 4294967296)
  if y35=true then
   some (.inr (s.1,s.2.1,s.2.2.2.2.1,s.2.2.2.2.2.1,s.2.2.2.2.2.2.2.1,s.2.2.2.2.2.2.2.2 - 1))
  else
  some (.inl (s.1,s.2.1,s.2.2.1,s.2.2.2.1,s.2.2.2.2.1,s.2.2.2.2.2.1,s.2.2.2.2.2.2.1+s.2.2.1,s.2.2.2.2.2.2.2.1,s.2.2.2.2.2.2.2.2 - 1))
 else
 let y36:Bool:=decide ((s.2.2.2.2.2.2.2.2*s.2.2.2.1) > ((4294967296*s.2.2.2.2.2.2.1)+s.2.2.2.2.1))
 if y36=true then
  let y37:Bool:=decide ((s.2.2.2.2.2.2.1+s.2.2.1) ≥ 4294967296)
  if y37=true then
   some (.inr (s.1,s.2.1,s.2.2.2.2.1,s.2.2.2.2.2.1,s.2.2.2.2.2.2.2.1,s.2.2.2.2.2.2.2.2 - 1))
  else
  some (.inl (s.1,s.2.1,s.2.2.1,s.2.2.2.1,s.2.2.2.2.1,s.2.2.2.2.2.1,s.2.2.2.2.2.2.1+s.2.2.1,s.2.2.2.2.2.2.2.1,s.2.2.2.2.2.2.2.2 - 1))
 else
 some (.inr (s.1,s.2.1,s.2.2.2.2.1,s.2.2.2.2.2.1,s.2.2.2.2.2.2.2.1,s.2.2.2.2.2.2.2.2))
def ZhN:Lp:=⟨[(2,.v .u64),(8,.v .u64),(9,.v .u64),(10,.v .u64),(14,.v .u64),(15,.v .u64),(16,.v .u64),(17,.v .u64),(18,.v .u64)],[],[.u64,.u64,.u64,.u64,.u64,.u64,.u64,.u64,.u64],[⟨.exit 2,[(2,.v .u64),(8,.v .u64),(14,.v .u64),(15,.v .u64),(17,.v .u64),(18,.v .u64)],[],[.u64,.u64,.u64,.u64,.u64,.u64]⟩],Zh (WV fuel) fuel⟩
theorem ZkX:ZhN.okA yf 101 1:=ZU { still:=[6,7,34]} [] [] trivial
def Zdj(F:Nat)(a0:UInt64)(a1:UInt64)(a2:UInt64):Option ((UInt64×UInt64)):=
 if(a2==0)=true then
  none
 else
 if(decide (a2≤a0))=true then
  none
 else
 if(a0==0)=true then
  if(a2 !=0)=true then
   if(a2 !=0)=true then
    some (a1 / a2,a1 % a2)
   else
   none
  else
  none
 else
 (Ya F a2).bind λo23=>
 let y24:UInt64:=ZB (WR a2 (min ((w64 o23).toNat:Int).toNat 64)) 32;let y25:UInt64:=(WR a2 (min ((w64 o23).toNat:Int).toNat 64))&&&4294967295;let y26:UInt64:=ZB a1 (min ((64 - (w64 o23)).toNat:Int).toNat 64);let y27:UInt64:=(WR a0 (min ((w64 o23).toNat:Int).toNat 64))|||y26;let y28:UInt64:=ZB (WR a1 (min ((w64 o23).toNat:Int).toNat 64)) 32;let y29:UInt64:=(WR a1 (min ((w64 o23).toNat:Int).toNat 64))&&&4294967295
 if(y24 !=0)=true then
  (Zh (WU F) F (WR a2 (min ((w64 o23).toNat:Int).toNat 64),w64 o23,y24,y25,y27,y28,y29,y27 / y24,y27 - ((y27 / y24)*y24))).bind λo33=>
  let y34:UInt64:=((o33.2.2.2.2.1*4294967296)+o33.2.2.2.2.2.1) - (o33.2.2.2.2.2.2.2*o33.1)
  if(o33.2.2.1 !=0)=true then
   (Zh (WV F) F (o33.1,o33.2.1,o33.2.2.1,o33.2.2.2.1,o33.2.2.2.2.2.2.1,o33.2.2.2.2.2.2.2,y34 - ((y34 / o33.2.2.1)*o33.2.2.1),y34,y34 / o33.2.2.1)).bind λo38=>
   let y39:UInt64:=((o38.2.2.2.2.1*4294967296)+o38.2.2.1) - (o38.2.2.2.2.2*o38.1)
   some ((o38.2.2.2.1*4294967296)+o38.2.2.2.2.2,ZB y39 (min (o38.2.1.toNat:Int).toNat 64))
  else
  none
 else
 none
def ZpO(F:Nat):Fs yf:=⟨101,[.v .u64,.v .u64,.v .u64],[],[.u64,.u64,.u64],[⟨.ret,[(0,.tup [.v .u64,.v .u64])],[],[.u64,.u64]⟩],λx=>Zdj F x.1 x.2.1 x.2.2⟩
def ZjK:Fs yf:=ZpO fuel
theorem ZpP:ZjK.Ok:=fnO { still:=[6,7,34]} [(0,ZhM),(1,ZhN)] [QK] ⟨ZeY,ytt⟩ ⟨ZkW,ZkX,ytt⟩
def Qm(F:Nat)(a0:UInt64)(a1:UInt64)(a2:UInt64):Option (UInt64):=
 if(a2 !=0)=true then
  (Zdj F (a0 % a2) a1 a2).bind λo40=>
  some o40.2
 else
 none
def Zcg(F:Nat):Fs yf:=⟨90,[.v .u64,.v .u64,.v .u64],[],[.u64,.u64,.u64],[⟨.ret,[(0,.v .u64)],[],[.u64]⟩],λx=>Qm F x.1 x.2.1 x.2.2⟩
def ZpQ:Fs yf:=Zcg fuel
theorem ZoA:ZpQ.Ok:=fnO { still:=[6,12,13,14]} [] [ZjK] ⟨ZpP,ytt⟩
end
end Go.Proofs.YtkapgdbeeblihaaGreat
end
section
namespace Go.Ev
theorem Zm2(a m:UInt64):(a - a / m*m).toNat=a.toNat % m.toNat:=by
 have h1:a.toNat / m.toNat*m.toNat≤a.toNat:=Nat.div_mul_le_self _ _;have h2:=UInt64.toNat_lt a
 have h3:(a / m*m).toNat=a.toNat / m.toNat*m.toNat:=by
  rw[UInt64.toNat_mul,UInt64.toNat_div,yas (by omega)]
 have h4:(a / m*m)≤a:=by rw[UInt64.le_iff_toNat_le,h3];exact h1
 rw[UInt64.toNat_sub_of_le _ _ h4,h3];have:=Nat.div_add_mod a.toNat m.toNat
 rw[Nat.mul_comm] at this;omega
theorem Zgp(x:UInt64):(x&&&4294967295).toNat=x.toNat % 4294967296:=by
 rw[UInt64.toNat_and];exact Nat.and_two_pow_sub_one_eq_mod x.toNat 32
theorem Vk(x:UInt64)(n:Nat):(ZB x n).toNat=x.toNat / 2 ^ n:=by
 unfold ZB;rw[UInt64.toNat_ofNat',yas (Nat.lt_of_le_of_lt (Nat.div_le_self ..) (UInt64.toNat_lt _))]
theorem Zhm{x y:UInt64}(h:x.toNat+y.toNat < 18446744073709551616):(x+y).toNat=x.toNat+y.toNat:=by
 rw[UInt64.toNat_add,yas h]
theorem Zhn{x y:UInt64}(h:x.toNat*y.toNat < 18446744073709551616):(x*y).toNat=x.toNat*y.toNat:=by
 rw[UInt64.toNat_mul,yas h]
theorem Zgq{a b:Nat}(ha:a < 4294967296)(hb:b < 4294967296):a*b≤18446744065119617025:=Nat.mul_le_mul (Nat.le_of_lt_succ ha) (Nat.le_of_lt_succ hb)
end Go.Ev
end
