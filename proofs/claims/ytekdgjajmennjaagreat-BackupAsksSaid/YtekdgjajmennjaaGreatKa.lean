/- Parts of the proof, in one file. -/
import Derived.WalkKit
import Derived.Lib.Bytealg
import Derived.Maps.AppendAt
import Derived.Lib.AppendStr
import Derived.Laws.Externs
import Derived.KernelRfl
import Derived.Lib.SlBytesRow
import Derived.Lib.BufferRead
import Derived.Lib.ConvBytes
import Derived.Lib.BytesEntry
import Derived.ChangeKeysEq
import Derived.Laws.StructEq
import Derived.MapKept
import Derived.WideKeyRuns
import Derived.Scope
import Derived.Below
import Derived.ChangeSame
import Derived.ChangeCalls
import Derived.ChangeStays
import Derived.OpenShut
import Derived.ProofKit
import Derived.JoinedCond
import Derived.Test.YtekdgjajmennjaaGreatProg
import Derived.Lib.Walk
import Derived.Lib.SliceRun
import Derived.Lib.AppendZerosOnto
import Derived.Test.YtekdgjajmennjaaGreatRows
open Option renaming some → ab, none → ae
open Bool renaming true → af, false → ag
open Decidable renaming decide → ah
abbrev yL.{u}(α:Type u):=List α
abbrev yO.{u}(α:Type u):=Option α
abbrev yU:=UInt64
abbrev yB:=UInt8
abbrev yV:=UInt32
theorem zP:True:=trivial
theorem yW.{u}{c:Prop}{h:Decidable c}(hc:c){α:Sort u}{t e:α}:(ite c t e)=t:=if_pos hc
theorem yX.{u}{c:Prop}{h:Decidable c}(hc:¬c){α:Sort u}{t e:α}:(ite c t e)=e:=if_neg hc
theorem yY{p:Prop}[inst:Decidable p](h:p):decide p=af:=decide_eq_true h
theorem yZ{p:Prop}[inst:Decidable p](h:¬p):decide p=ag:=decide_eq_false h
theorem yP{p:Prop}[Decidable p]:(decide p=af)=p:=decide_eq_true_eq
theorem yN{p:Prop}[Decidable p]:decide p=af↔p:=decide_eq_true_iff
theorem yT.{u}{α:Type u}[BEq α][LawfulBEq α]{a b:α}:(a==b)=af↔a=b:=beq_iff_eq
theorem yE.{u}{α:Type u}[BEq α][LawfulBEq α]{a b:α}:(a != b)=af↔a≠b:=bne_iff_ne
theorem yF{p:Prop}[inst:Decidable p](h:decide p=af):p:=of_decide_eq_true h
open Array renaming length_toList → yau, getElem?_toList → ybt, toArray_toList → ycb, toList_map → ycq
open BitVec renaming ofInt → yca
open Bool renaming and_eq_true → yi
open Go renaming TypeId → yc, Program → yg, Value → yh, Operand → yn, FuncId → yu, World → yz
open List renaming getElem?_eq_some_iff → yo, range → yq, length_append → yr, nil_append → yv, length_map → yx, replicate → yy, cons_append → yaa, getElem?_eq_getElem → yac, map_cons → yad, length_take → yae, length_cons → yah, getElem?_append_left → yai, getElem?_map → yaj, append_assoc → yak, getElem?_append_right → yam, mem_cons_self → yao, mem_singleton → yar, mem_cons_of_mem → yas, getElem?_cons_succ → yat, length_set → yba, getElem?_cons_zero → ybb, all_eq_true → ybc, ext_getElem? → ybe, eq_nil_of_length_eq_zero → ybf, take_append_drop → ybk, getElem?_set → ybl, length_drop → ybq, mem_append → ybs, mem_of_mem_take → ybv, mem_map → yby, getElem?_take → ych, length_nil → ycn, take_of_length_le → ycr
open Nat renaming le_refl → ym, add_mul → yav, min_eq_left → yay, zero_add → yaz, lt_or_ge → ybr, le_trans → ybx, mul_le_mul_right → ycg, add_assoc → yck
open Option renaming bind_eq_some_iff → yf, map_eq_some_iff → yp
open Option.some renaming injEq → yj, inj → yax
open Prod.mk renaming injEq → yl
set_option linter.unusedVariables false
set_option linter.unusedSimpArgs false
namespace Go.Ev
abbrev dz:yL yB:=[0,0,0,0,0,0,0,0,0,0,0,0,0,0,0,0,0,0,0,0,0,0,0,0,0,0,0,0,0,0,0,0]
theorem fM {c:Prop} [Decidable c] (h:¬c):¬decide c=af:=by simpa using h
theorem au:True:=trivial
end Go.Ev
section
namespace Go.Ev
inductive Pl where
 |int (k:IntKind) (n:Int)
 |bool (b:Bool)
 |str (s:ByteArray)
 |bf|fn0|dN|ci
 |fQ (f:yu)
 |agg (xs:List Pl)
 |arr (n s:Nat) (xs:List Pl)
 |sl (nn:Option Bool) (s:Nat) (xs:List Pl)
 |iface (t:yc) (x:Pl)
 deriving Inhabited
mutual
def Pl.size:Pl->Nat
 |.agg xs=>Pl.sizes xs
 |.arr n s _=>n*s
 |_=>1
def Pl.sizes:yL Pl->Nat
 |[]=>0
 |x::r=>x.size+Pl.sizes r
end
def Pl.isAgg:Pl->Bool
 |.agg _=>af
 |.arr _ _ _=>af
 |_=>ag
def aU(s:Nat)(xs:yL Pl):Prop:=∀x,x∈xs->x.size=s
def io(nn:yO Bool)(A:yO Addr):Prop:=∀b,nn=ab b->A.isSome=b
theorem Z7(A:yO Addr):io ae A:=λb h=>by cases h
theorem Q6{A:yO Addr}(h:A.isSome=af):io (ab af) A:=λb e=>by cases e;exact h
theorem ON{A:yO Addr}(h:A=ae):io (ab ag) A:=λb e=>by cases e;rw[h];rfl
def X7(w:yz)(S:Nat->Nat->Prop)(b o:Nat)(us:yL yh):Prop:=
 ∀j u,us[j]? =ab u->w.cell? ⟨b,o+j,ae⟩=ab u/\S b (o+j)
mutual
def aw(w:yz)(S:Nat->Nat->Prop):Pl->yL yh->Prop
 |.int k n,vs=>vs=[.int k n]
 |.bool b,vs=>vs=[.bool b]
 |.str s,vs=>vs=[.string s]
 |.bf,vs=>vs=[.pointer ae]
 |.fn0,vs=>vs=[.nilFunc]
 |.dN,vs=>vs=[.nilIface]
 |.ci,vs=>vs=[.map ae]
 |.fQ f,vs=>vs=[.func (.func f) #[] #[]]
 |.agg xs,vs=>an w S xs vs
 |.arr n s xs,vs=>xs.length=n/\aU s xs/\an w S xs vs
 |.sl nn s xs,vs=>aU s xs/\∃A c,vs=[.slice A xs.length c]/\xs.length<=c/\c<=maxLen/\io nn A/\(A=ae->c=0)/\
   (xs≠[]->∃b o us,A=ab ⟨b,o,ae⟩/\an w S xs us/\X7 w S b o us)
 |.iface t x,vs=>∃v,vs=[.iface t v]/\(x.isAgg=af->∃cs:Array yh,v=.agg cs/\aw w S x cs.toList)/\(x.isAgg=ag->aw w S x [v])
def an(w:yz)(S:Nat->Nat->Prop):yL Pl->yL yh->Prop
 |[],vs=>vs=[]
 |x::xs,vs=>∃us us',vs=us++us'/\aw w S x us/\an w S xs us'
end
mutual
def Pl.soft:Pl->Pl
 |.agg xs=>.agg (Pl.cH xs)
 |.arr n s xs=>.arr n s (Pl.cH xs)
 |.sl _ s xs=>.sl ae s xs
 |.iface t x=>.iface t (Pl.soft x)
 |x=>x
def Pl.cH:yL Pl->yL Pl
 |[]=>[]
 |x::r=>x.soft::Pl.cH r
end
inductive Dv where
 |p (x:Pl)
 |elem (x:Pl)
 |ak (id off:Nat) (yQ:List Nat)
 |own (id:Nat) (nn:Option Bool) (s:Nat) (xs:List Pl)
 |view (id off:Nat) (yQ:List Nat) (s lo n:Nat)
 |agg (xs:List Dv)
 |arr (n s:Nat) (xs:List Dv)
 |fn (f:yu) (cap:List Dv)
 |iface (t:yc) (x:Dv)
 |bj (xs:List Dv)
 |mp (id:Nat)
 |rv (id v s lo n:Nat)
 |aY (id v off:Nat) (yQ:List Nat)
 |ao
 deriving Inhabited
mutual
def Dv.size:Dv->Nat
 |.p x=>x.size
 |.agg xs=>Dv.sizes xs
 |.arr n s _=>n*s
 |_=>1
def Dv.sizes:yL Dv->Nat
 |[]=>0
 |x::r=>x.size+Dv.sizes r
end
def Dv.isAgg:Dv->Bool
 |.p x=>x.isAgg
 |.agg _=>af
 |.arr _ _ _=>af
 |_=>ag
inductive ax where
 |var (d:Dv) (st:Bool)
 |log (s:Nat) (e:yc) (xs:List Pl)
 |map (t:yc) (bw:List (Pl×Pl))
 |row (v s:Nat) (st:Bool) (e:yc) (d:Dv)
 |gone
 deriving Inhabited
structure Sg where
 F:Nat->Nat->Prop
 B:Nat->Prop
 m:List (Option Nat)
 H:List ax
 w:yz
def aO:Dv->Nat->yO Nat
 |.p (.arr n s' _),s=>if s'=s then ab n else ae
 |.arr n s' _,s=>if s'=s then ab n else ae
 |_,_=>ae
def ax.bv:ax->Nat->Prop
 |.var _ st,_=>st=ag
 |.log s _ xs,o=>o < xs.length*s
 |.map _ _,_=>False
 |.row _ s st _ d,o=>st=ag/\∃N,aO d s=ab N/\o < N*s
 |.gone,_=>True
def Sg.aV(J:Sg)(b o:Nat):Prop:=
 (J.F b o\/J.B b)/\∀(id:Nat)(e:ax),J.m[id]? =ab (ab b)->J.H[id]? =ab e->e.bv o
def cV(J:Sg)(id s:Nat)(len:Nat)(A:yO Addr)(c:Nat):Prop:=
 ∃e ys,J.H[id]? =ab (.log s e ys)/\len<=ys.length/\(ys.length=len->
  (J.m[id]? =ab ae/\A=ae/\c=0)\/
  ∃b cur,J.m[id]? =ab (ab b)/\A=ab ⟨b,0,ae⟩/\J.w.heap[b]? =ab (.cells cur e (0,0))/\cur.size=c*s)
def rowAt(J:Sg)(id v s lo:Nat)(A:yO Addr)(c:Nat):Prop:=
 ∃v' s' st e d,J.H[id]? =ab (.row v' s' st e d)/\v<=v'/\(v'=v->s'=s/\
  ((J.m[id]? =ab ae/\A=ae/\lo+c=0)\/∃b cur,J.m[id]? =ab (ab b)/\J.w.heap[b]? =ab (.cells cur e (0,0))/\cur.size=(lo+c)*s/\(0 < c->A=ab ⟨b,lo*s,ae⟩)))
def rowIs(J:Sg)(id v b o off:Nat):Prop:=∃v' s st e d,J.H[id]? =ab (.row v' s st e d)/\v<=v'/\(v'=v->J.m[id]? =ab (ab b)/\o=off)
def big:Nat:=4294967296
def eA(f:yu):yu:=if f < big then f else f - big
mutual
def yH(J:Sg):Dv->yL yh->Prop
 |.p x,vs=>aw J.w J.aV x vs
 |.elem x,vs=>∃b o us,vs=[.pointer (ab ⟨b,o,ae⟩)]/\aw J.w J.aV x us/\X7 J.w J.aV b o us
 |.ak id off _,vs=>∃b,J.m[id]? =ab (ab b)/\(∃d st,J.H[id]? =ab (.var d st))/\vs=[.pointer (ab ⟨b,off,ae⟩)]
 |.own id nn s xs,vs=>aU s xs/\∃A c,vs=[.slice A xs.length c]/\xs.length<=c/\c<=maxLen/\io nn A/\(A=ae->c=0)/\
   (xs≠[]->∃b o us,A=ab ⟨b,o,ae⟩/\an J.w J.aV xs us/\X7 J.w J.aV b o us)/\cV J id s xs.length A c
 |.view id off _ s lo n,vs=>∃b c a,J.m[id]? =ab (ab b)/\(∃d st,J.H[id]? =ab (.var d st))/\vs=[.slice (ab a) n c]/\n<=c/\c<=maxLen/\
   (0 < n->a=⟨b,off+lo*s,ae⟩)
 |.agg xs,vs=>aG J xs vs
 |.arr n s xs,vs=>xs.length=n/\(∀x,x∈xs->x.size=s)/\aG J xs vs
 |.fn f cap,vs=>∃fs cs,vs=[.func (.func (eA f)) fs cs]/\(if f < big then fs else cs)= #[]/\aE J cap (fs++cs).toList
 |.iface t x,vs=>∃v,vs=[.iface t v]/\(x.isAgg=af->∃cs:Array yh,v=.agg cs/\yH J x cs.toList)/\(x.isAgg=ag->yH J x [v])
 |.bj xs,vs=>∃cs,vs=[.tuple cs]/\aE J xs cs.toList
 |.mp id,vs=>∃b,J.m[id]? =ab (ab b)/\(∃t bw,J.H[id]? =ab (.map t bw))/\vs=[.map (ab b)]
 |.rv id v s lo n,vs=>∃A c,vs=[.slice A n c]/\n<=c/\c<=maxLen/\(A=ae->c=0)/\(0 < n->∃b o,A=ab ⟨b,o,ae⟩)/\rowAt J id v s lo A c
 |.aY id v off _,vs=>∃b o,vs=[.pointer (ab ⟨b,o,ae⟩)]/\rowIs J id v b o off
 |.ao,vs=>vs.length=1
def aG(J:Sg):yL Dv->yL yh->Prop
 |[],vs=>vs=[]
 |x::xs,vs=>∃us us',vs=us++us'/\yH J x us/\aG J xs us'
def aE(J:Sg):yL Dv->yL yh->Prop
 |[],vs=>vs=[]
 |x::xs,vs=>∃v vs',vs=v::vs'/\((x.isAgg=af->∃cs:Array yh,v=.agg cs/\yH J x cs.toList)/\(x.isAgg=ag->yH J x [v]))/\aE J xs vs'
end
def yJ(J:Sg)(d:Dv)(v:yh):Prop:=
 (d.isAgg=af->∃cs:Array yh,v=.agg cs/\yH J d cs.toList)/\(d.isAgg=ag->yH J d [v])
theorem X7.mono{w w':yz}{S S':Nat->Nat->Prop}(h:∀(b o:Nat)(v:yh),w.cell? ⟨b,o,ae⟩=ab v->S b o->w'.cell? ⟨b,o,ae⟩=ab v/\S' b o)
 {b o:Nat} {us:yL yh} (hc:X7 w S b o us):X7 w' S' b o us:=
 λj u hu=>let ⟨h1,h2⟩:=hc j u hu;h _ _ _ h1 h2
mutual
theorem Vh{w w':yz}{S S':Nat->Nat->Prop}(h:∀(b o:Nat)(v:yh),w.cell? ⟨b,o,ae⟩=ab v->S b o->w'.cell? ⟨b,o,ae⟩=ab v/\S' b o):∀(x:Pl)(vs:yL yh),aw w S x vs->aw w' S' x vs
 |.int _ _,_,hr=>by simpa[aw] using hr
 |.bool _,_,hr=>by simpa[aw] using hr
 |.str _,_,hr=>by simpa[aw] using hr
 |.bf,_,hr=>by simpa[aw] using hr
 |.fn0,_,hr=>by simpa[aw] using hr
 |.dN,_,hr=>by simpa[aw] using hr
 |.ci,_,hr=>by simpa[aw] using hr
 |.fQ _,_,hr=>by simpa[aw] using hr
 |.agg xs,vs,hr=>by
  simp only[aw]at hr ⊢
  exact aC h xs vs hr
 |.arr n s xs,vs,hr=>by
  simp only[aw]at hr ⊢
  exact⟨hr.1,hr.2.1,aC h xs vs hr.2.2⟩
 |.sl nn s xs,vs,hr=>by
  simp only[aw]at hr ⊢;obtain⟨h1,A,c,h2,h3,h4,h5,h6,h7⟩:=hr;refine⟨h1,A,c,h2,h3,h4,h5,h6,λhne=> ?_⟩;obtain⟨b,o,us,e1,e2,e3⟩:=h7 hne
  exact⟨b,o,us,e1,aC h xs us e2,e3.mono h⟩
 |.iface t x,vs,hr=>by
  simp only[aw]at hr ⊢;obtain⟨v,h1,h2,h3⟩:=hr;refine⟨v,h1,λha=> ?_,λha=>Vh h x _ (h3 ha)⟩;obtain⟨cs,e1,e2⟩:=h2 ha;exact⟨cs,e1,Vh h x _ e2⟩
theorem aC{w w':yz}{S S':Nat->Nat->Prop}(h:∀(b o:Nat)(v:yh),w.cell? ⟨b,o,ae⟩=ab v->S b o->w'.cell? ⟨b,o,ae⟩=ab v/\S' b o):∀(xs:yL Pl)(vs:yL yh),an w S xs vs->an w' S' xs vs
 |[],_,hr=>by simpa[an] using hr
 |x::xs,vs,hr=>by
  simp only[an]at hr ⊢;obtain⟨us,us',h1,h2,h3⟩:=hr;exact⟨us,us',h1,Vh h x us h2,aC h xs us' h3⟩
end
structure cD(J J':Sg):Prop where
 cells:∀(b o:Nat)(v:yh),J.w.cell? ⟨b,o,ae⟩=ab v->J.aV b o->J'.w.cell? ⟨b,o,ae⟩=ab v/\J'.aV b o
 var:∀(id b:Nat),J.m[id]? =ab (ab b)->(∃d st,J.H[id]? =ab (.var d st))->J'.m[id]? =ab (ab b)/\∃d st,J'.H[id]? =ab (.var d st)
 front:∀(id s len:Nat)(A:Option Addr)(c:Nat),cV J id s len A c->cV J' id s len A c
 map:∀(id b:Nat),J.m[id]? =ab (ab b)->(∃t bw,J.H[id]? =ab (.map t bw))->J'.m[id]? =ab (ab b)/\∃t bw,J'.H[id]? =ab (.map t bw)
 row:∀(id v s:Nat)(st:Bool)(e:yc)(d:Dv),J.H[id]? =ab (.row v s st e d)->∃v' st' d',J'.H[id]? =ab (.row v' s st' e d')/\v<=v'/\(v'=v->J'.m[id]? =J.m[id]? /\
  ∀b cur,J.m[id]? =ab (ab b)->J.w.heap[b]? =ab (.cells cur e (0,0))->∃cur',J'.w.heap[b]? =ab (.cells cur' e (0,0))/\cur'.size=cur.size)
theorem cD.refl(J:Sg):cD J J:=⟨λ_ _ _ a b=>⟨a,b⟩,λ_ _ a b=>⟨a,b⟩,λ_ _ _ _ _ a=>a,λ_ _ a b=>⟨a,b⟩,λ_ v _ st _ d h=>⟨v,st,d,h,ym _,λ_=>⟨rfl,λb cur _ hc=>⟨cur,hc,rfl⟩⟩⟩⟩
theorem cD.trans{a b c:Sg}(h:cD a b)(k:cD b c):cD a c:=
 ⟨λx o v h1 h2=>let ⟨h3,h4⟩:=h.cells x o v h1 h2;k.cells x o v h3 h4,λi x h1 h2=>let ⟨h3,h4⟩:=h.var i x h1 h2;k.var i x h3 h4,
  λi s l A cc h1=>k.front i s l A cc (h.front i s l A cc h1),λi x h1 h2=>let ⟨h3,h4⟩:=h.map i x h1 h2;k.map i x h3 h4,
  λi v s st e d h1=>by
   obtain⟨v2,st2,d2,k1,k2,k3⟩:=h.row i v s st e d h1;obtain⟨v3,st3,d3,l1,l2,l3⟩:=k.row i v2 s st2 e d2 k1;refine⟨v3,st3,d3,l1,ybx k2 l2,λhv=> ?_⟩;have e1:v2=v:=by omega
   have e2:v3=v2:=by omega
   obtain⟨p1,p2⟩:=k3 e1;obtain⟨q1,q2⟩:=l3 e2;refine⟨q1.trans p1,λb cur hb hc=> ?_⟩;obtain⟨cur',r1,r2⟩:=p2 b cur hb hc;obtain⟨cur2,r3,r4⟩:=q2 b cur' (by rw[p1];exact hb) r1;exact⟨cur2,r3,by rw[r4,r2]⟩⟩
theorem ZD4{J J':Sg}(h:cD J J'){id v s lo:Nat}{A:yO Addr}{c:Nat}:rowAt J id v s lo A c->rowAt J' id v s lo A c:=by
 rintro⟨v',s',st,e,d,h1,h2,h3⟩;obtain⟨v2,st2,d2,k1,k2,k3⟩:=h.row _ _ _ _ _ _ h1;refine⟨v2,s',st2,e,d2,k1,ybx h2 k2,λhv=> ?_⟩;have e1:v'=v:=by omega
 have e2:v2=v':=by omega
 obtain⟨q1,q2⟩:=k3 e2;obtain⟨q3,q4⟩:=h3 e1;refine⟨q3, ?_⟩;rcases q4 with⟨a1,a2⟩|⟨b,cur,a1,a2,a3,a4⟩
 .exact .inl ⟨by rw[q1,a1],a2⟩
 .obtain⟨cur',b1,b2⟩:=q2 b cur a1 a2;exact .inr ⟨b,cur',by rw[q1,a1],b1,by rw[b2,a3],a4⟩
theorem ZD5{J J':Sg}(h:cD J J'){id v b o off:Nat}:rowIs J id v b o off->rowIs J' id v b o off:=by
 rintro⟨v',s',st,e,d,h1,h2,h3⟩;obtain⟨v2,st2,d2,k1,k2,k3⟩:=h.row _ _ _ _ _ _ h1;refine⟨v2,s',st2,e,d2,k1,ybx h2 k2,λhv=> ?_⟩;have e1:v'=v:=by omega
 have e2:v2=v':=by omega
 rw[(k3 e2).1];exact h3 e1
mutual
theorem ZZ{J J':Sg}(h:cD J J'):∀(d:Dv)(vs:yL yh),yH J d vs->yH J' d vs
 |.p x,vs,hr=>by
  simp only[yH]at hr ⊢
  exact Vh h.cells x vs hr
 |.elem x,vs,hr=>by
  simp only[yH]at hr ⊢;obtain⟨b,o,us,h1,h2,h3⟩:=hr
  exact⟨b,o,us,h1,Vh h.cells x us h2,h3.mono h.cells⟩
 |.ak id off yQ,vs,hr=>by
  simp only[yH]at hr ⊢;obtain⟨b,h1,h2,h3⟩:=hr
  exact⟨b,(h.var id b h1 h2).1,(h.var id b h1 h2).2,h3⟩
 |.own id nn s xs,vs,hr=>by
  simp only[yH]at hr ⊢;obtain⟨h1,A,c,h2,h3,h4,h5,h6,h7,h8⟩:=hr;refine⟨h1,A,c,h2,h3,h4,h5,h6,λhne=> ?_,h.front _ _ _ _ _ h8⟩;obtain⟨b,o,us,e1,e2,e3⟩:=h7 hne
  exact⟨b,o,us,e1,aC h.cells xs us e2,e3.mono h.cells⟩
 |.view id off yQ s lo n,vs,hr=>by
  simp only[yH]at hr ⊢;obtain⟨b,c,a,h1,h2,h3⟩:=hr
  exact⟨b,c,a,(h.var id b h1 h2).1,(h.var id b h1 h2).2,h3⟩
 |.agg xs,vs,hr=>by
  simp only[yH]at hr ⊢
  exact dO h xs vs hr
 |.arr n s xs,vs,hr=>by
  simp only[yH]at hr ⊢
  exact⟨hr.1,hr.2.1,dO h xs vs hr.2.2⟩
 |.fn f cap,vs,hr=>by
  simp only[yH]at hr ⊢;obtain⟨fs,cs,h1,h0,h2⟩:=hr
  exact⟨fs,cs,h1,h0,cw h cap _ h2⟩
 |.iface t x,vs,hr=>by
  simp only[yH]at hr ⊢;obtain⟨v,h1,h2,h3⟩:=hr;refine⟨v,h1,λha=> ?_,λha=>ZZ h x _ (h3 ha)⟩;obtain⟨cs,e1,e2⟩:=h2 ha
  exact⟨cs,e1,ZZ h x _ e2⟩
 |.bj xs,vs,hr=>by
  simp only[yH]at hr ⊢;obtain⟨cs,h1,h2⟩:=hr
  exact⟨cs,h1,cw h xs _ h2⟩
 |.mp id,vs,hr=>by
  simp only[yH]at hr ⊢;obtain⟨b,h1,h2,h3⟩:=hr
  exact⟨b,(h.map id b h1 h2).1,(h.map id b h1 h2).2,h3⟩
 |.rv id v s lo n,vs,hr=>by
  simp only[yH]at hr ⊢;obtain⟨A,c,h1,h2,h3,h4,h5,h6⟩:=hr
  exact⟨A,c,h1,h2,h3,h4,h5,ZD4 h h6⟩
 |.aY id v off yQ,vs,hr=>by
  simp only[yH]at hr ⊢;obtain⟨b,o,h1,h2⟩:=hr
  exact⟨b,o,h1,ZD5 h h2⟩
 |.ao,_,hr=>by simpa[yH] using hr
theorem dO{J J':Sg}(h:cD J J'):∀(ds:yL Dv)(vs:yL yh),aG J ds vs->aG J' ds vs
 |[],_,hr=>by simpa[aG] using hr
 |x::xs,vs,hr=>by
  simp only[aG]at hr ⊢;obtain⟨us,us',h1,h2,h3⟩:=hr;exact⟨us,us',h1,ZZ h x us h2,dO h xs us' h3⟩
theorem cw{J J':Sg}(h:cD J J'):∀(ds:yL Dv)(vs:yL yh),aE J ds vs->aE J' ds vs
 |[],_,hr=>by simpa[aE] using hr
 |x::xs,vs,hr=>by
  simp only[aE]at hr ⊢;obtain⟨v,vs',h1,⟨h2,h3⟩,h4⟩:=hr;refine⟨v,vs',h1,⟨λha=> ?_,λha=>ZZ h x _ (h3 ha)⟩,cw h xs vs' h4⟩;obtain⟨cs,e1,e2⟩:=h2 ha;exact⟨cs,e1,ZZ h x _ e2⟩
end
theorem WS{J J':Sg}(h:cD J J'){d:Dv}{v:yh}(hr:yJ J d v):yJ J' d v:=by
 obtain⟨h2,h3⟩:=hr;refine⟨λha=> ?_,λha=>ZZ h d _ (h3 ha)⟩;obtain⟨cs,e1,e2⟩:=h2 ha;exact⟨cs,e1,ZZ h d _ e2⟩
def fN(J:Sg):yL (Pl×Pl)->yL MapEntry->Prop
 |[],[]=>True
 |q::r,e::es=>yJ J (.p q.1) e.key/\yJ J (.p q.2) e.val/\fN J r es
 |_,_=>False
def gq(J:Sg)(bw:yL (Pl×Pl))(es:yL MapEntry):Prop:=∃l,l.Perm bw/\(bw.map (·.1)).Nodup/\fN J l es
def jY(es:Array MapEntry)(clock:Nat):Prop:=
 (∀(q:Nat)en,es[q]? =ab en->en.born < clock)/\∀(q q':Nat)en en',es[q]? =ab en->es[q']? =ab en'->en.born=en'.born->q=q'
def dA(J:Sg)(a:yO Nat):ax->Prop
 |.var d _=>∃b cs t,a=ab b/\J.w.heap[b]? =ab (.cells cs t (0,0))/\yH J d (cs.toList.take d.size)/\d.size<=cs.size
 |.log s e xs=>(a=ae/\xs=[])\/
   ∃b cur cap,a=ab b/\J.w.heap[b]? =ab (.cells cur e (0,0))/\cur.size=cap*s/\xs.length<=cap/\cap<=maxLen/\aU s xs/\
    an J.w J.aV xs (cur.toList.take (xs.length*s))
 |.map _ bw=>∃b es clock,a=ab b/\J.w.heap[b]? =ab (.map es clock)/\gq J bw es.toList/\jY es clock
 |.row _ s _ e d=>∃N,aO d s=ab N/\((a=ae/\N=0)\/
   ∃b cur cap,a=ab b/\J.w.heap[b]? =ab (.cells cur e (0,0))/\cur.size=cap*s/\N<=cap/\cap<=maxLen/\yH J d (cur.toList.take (N*s)))
 |.gone=>True
structure Ok(J:Sg):Prop where
 len:J.m.length=J.H.length
 inj:∀(i j b:Nat),J.m[i]? =ab (ab b)->J.m[j]? =ab (ab b)->i=j
 lt:∀(i b:Nat),J.m[i]? =ab (ab b)->b < J.w.heap.size
 dc:∀(i:Nat)(e:ax)(a:Option Nat),J.H[i]? =ab e->J.m[i]? =ab a->dA J a e
 new:∀(b:Nat),J.w.heap.size<=b->J.B b
 own:∀(i b:Nat),J.m[i]? =ab (ab b)->J.B b
structure To(J J':Sg):Prop where
 leaf:cD J J'
 F:J'.F=J.F
 B:J'.B=J.B
 os:J'.w.os=J.w.os
 tape:J'.w.tape=J.w.tape
 output:J'.w.output=J.w.output
 size:J.w.heap.size<=J'.w.heap.size
 block:∀(b:Nat),b < J.w.heap.size->(∀(id:Nat),J.m[id]? ≠ab (ab b))->J'.w.heap[b]? =J.w.heap[b]?
 same:∀(id b:Nat),J'.m[id]? =ab (ab b)->J.m[id]? =ab (ab b)\/J.w.heap.size<=b
 len:J.m.length<=J'.m.length
theorem To.refl(J:Sg):To J J:=⟨cD.refl J,rfl,rfl,rfl,rfl,rfl,ym _,λ_ _ _=>rfl,λ_ _ h=>.inl h,ym _⟩
theorem To.trans{a b c:Sg}(h:To a b)(k:To b c):To a c where
 leaf:=h.leaf.trans k.leaf
 F:=k.F.trans h.F
 B:=k.B.trans h.B
 os:=k.os.trans h.os
 tape:=k.tape.trans h.tape
 output:=k.output.trans h.output
 size:=ybx h.size k.size
 block x hx hn:=(k.block x (Nat.lt_of_lt_of_le hx h.size) (λid he=>by
  rcases h.same id x he with h1|h1
  .exact hn id h1
  .omega)).trans (h.block x hx hn)
 same id x hx:=by
  rcases k.same id x hx with h1|h1
  .exact h.same id x h1
  .exact .inr (ybx h.size h1)
 len:=ybx h.len k.len
def cR(P:yg)(f:yu)(args:yL Dv)(H:yL ax)(r:Dv)(H':yL ax):Prop:=
 ∀(J:Sg)(vs:yL yh),Ok J->J.H=H->aE J args vs->
  Calls P f vs.toArray J.w λe w'=>∃v J',e=.returned v/\J'.w=w'/\J'.H=H'/\To J J'/\Ok J'/\yJ J' r v
structure aD(J:Sg)(ts:List Dv)(a:Act):Prop where
 size:a.tmps.size=ts.length
 at_:∀(i:Nat)(d:Dv),ts[i]? =ab d->yJ J d (a.tmps.getD i undef)
 defers:a.defers=[]
theorem aD.to{J J':Sg}{ts:yL Dv}{a:Act}(h:aD J ts a)(k:cD J J'):aD J' ts a:=
 ⟨h.size,λi d hd=>WS k (h.at_ i d hd),h.defers⟩
inductive Ex where
 |normal
 |exit (id:Nat)
 |ret
 deriving DecidableEq,Inhabited
def Ex.to:Ex->Exit
 |.normal=>.normal
 |.exit id=>.exit id
 |.ret=>.ret
def Xq(P:yg)(c:Code)(ts:yL Dv)(H:yL ax)(ex:Ex)(ts':yL Dv)(H':yL ax):Prop:=
 ∀(J:Sg)(a:Act),Ok J->J.H=H->aD J ts a->
  c.wp P (λe a' w'=>e=ex.to/\∃J',J'.w=w'/\J'.H=H'/\To J J'/\Ok J'/\aD J' ts' a') a J.w
inductive al where
 |b (t:Bool)
 |el (x:Pl)
 |bare
 |raw
 |call (r:Dv) (H':List ax) (ids:List Nat)
 |sub (t:Nat) (d:Dv)
 |own
 |iJ
 |bw (l:List (Pl×Pl))
 |arr
 |cW
 |fresh (dst:Nat)
 |iK (dst:Nat)
 |still (dst:Nat)
 |cb (yQ:List Nat) (s:Nat) (e:yc)
 |loop (mask:List Nat) (ex:Ex) (ts':List Dv) (H':List ax)
 |gV (g:yu)
 deriving Inhabited
def nI(P:yg)(t:yc)(name:String)(g:yu):Prop:=
 ∀(v:yh)(args:Array yh)(w:yz),(callMethod (.iface t v) name args).run P w=(callFunc g (#[v]++args)).run P w
def WT(k:IntKind)(x:Int):Prop:=k.min<=x/\x<=k.max
def ZOa(P:yg)(t:yc):Nat:=
 match P.underlying t with
 |some (.slice e)=>P.cellsOf e
 |_=>0
def Xi(P:yg)(t:yc):Bool:=
 match P.underlying t with
 |some (.struct _)=>af
 |some (.array _ _)=>af
 |_=>ag
def th(P:yg)(t:yc):yh->yO Pl
 |.int k n=>ab (.int k n)
 |.bool b=>ab (.bool b)
 |.string s=>ab (.str s)
 |.pointer ae=>ab .bf
 |.nilFunc=>ab .fn0
 |.nilIface=>ab .dN
 |.map ae=>ab .ci
 |.slice ae 0 0=>ab (.sl (ab ag) (ZOa P t) [])
 |_=>ae
mutual
def nJ(P:yg):Nat->yc->yL yh->yO (Pl×yL yh)
 |0,_,_=>ae
 |yD+1,t,vs=>
  match P.underlying t with
  |some (.struct fs)=>(cX P yD (fs.toList.map (·.type)) vs).map λr=>(.agg r.1,r.2)
  |some (.array n e)=>(fw P yD e n vs).map λr=>(.arr n (P.cellsOf e) r.1,r.2)
  |some _=>match vs with
   |v::r=>(th P t v).map λx=>(x,r)
   |[]=>ae
  |none=>ae
def cX(P:yg):Nat->yL yc->yL yh->yO (yL Pl×yL yh)
 |0,_,_=>ae
 |_+1,[],vs=>ab ([],vs)
 |yD+1,t::ts,vs=>
  match nJ P yD t vs with
  |some (x,r)=>(cX P yD ts r).map λq=>(x::q.1,q.2)
  |none=>ae
def fw(P:yg):Nat->yc->Nat->yL yh->yO (yL Pl×yL yh)
 |0,_,_,_=>ae
 |_+1,_,0,vs=>ab ([],vs)
 |yD+1,e,n+1,vs=>
  match nJ P yD e vs with
  |some (x,r)=>if x.size=P.cellsOf e then(fw P yD e n r).map λq=>(x::q.1,q.2) else ae
  |none=>ae
end
def nK(P:yg)(t:yc):yh->Dv
 |.agg cs=>match nJ P 1000 t cs.toList with
  |some (x,[])=>if x.isAgg then .p x else .ao
  |_=>.ao
 |.func (.func f) fst cap=>if fst.size=0/\cap.size=0/\f < big then .fn f [] else .ao
 |v=>match th P t v with
  |some x=>.p x
  |none=>.ao
def Zs(P:yg)(ts:yL Dv)(t:yc):yn->Dv
 |.tmp i=>ts.getD i .ao
 |.const v=>nK P t v
 |.global _=>.ao
 |.func f=>if f < big then .fn f [] else .ao
mutual
def Dv.bE:Dv->Bool
 |.bj _=>ag
 |.ao=>ag
 |.agg xs=>Dv.dP xs
 |.arr _ _ xs=>Dv.dP xs
 |_=>af
def Dv.dP:yL Dv->Bool
 |[]=>af
 |x::r=>x.bE&&Dv.dP r
end
mutual
def Dv.rn(f:Nat->yO Nat):Dv->yO Dv
 |.p x=>ab (.p x)
 |.elem x=>ab (.elem x)
 |.ak id off yQ=>(f id).map λi=>.ak i off yQ
 |.own id nn s xs=>(f id).map λi=>.own i nn s xs
 |.view id off yQ s lo n=>(f id).map λi=>.view i off yQ s lo n
 |.agg xs=>(Dv.bz f xs).map .agg
 |.arr n s xs=>(Dv.bz f xs).map (.arr n s)
 |.fn g cap=>(Dv.bz f cap).map (.fn g)
 |.iface t x=>(Dv.rn f x).map (.iface t)
 |.bj xs=>(Dv.bz f xs).map .bj
 |.mp id=>(f id).map .mp
 |.rv id v s lo n=>(f id).map λi=>.rv i v s lo n
 |.aY id v off yQ=>(f id).map λi=>.aY i v off yQ
 |.ao=>ab .ao
def Dv.bz(f:Nat->yO Nat):yL Dv->yO (yL Dv)
 |[]=>ab []
 |x::r=>match Dv.rn f x,Dv.bz f r with
  |some y,ab ys=>ab (y::ys)
  |_,_=>ae
end
def ax.rn(f:Nat->yO Nat):ax->yO ax
 |.var d st=>(d.rn f).map λd'=>.var d' st
 |.log s e xs=>ab (.log s e xs)
 |.map t bw=>ab (.map t bw)
 |.row v s st e d=>(d.rn f).map λd'=>.row v s st e d'
 |.gone=>ab .gone
def ax.bz(f:Nat->yO Nat):yL ax->yO (yL ax)
 |[]=>ab []
 |x::r=>match ax.rn f x,ax.bz f r with
  |some y,ab ys=>ab (y::ys)
  |_,_=>ae
def Dv.plain:Dv->yO Pl
 |.p x=>ab x
 |.own _ nn s xs=>ab (.sl nn s xs)
 |_=>ae
mutual
def Dv.flat:Dv->yO Pl
 |.p x=>ab x
 |.own _ nn s xs=>ab (.sl nn s xs)
 |.agg ds=>(Dv.aM ds).map .agg
 |_=>ae
def Dv.aM:yL Dv->yO (yL Pl)
 |[]=>ab []
 |d::r=>match d.flat,Dv.aM r with
  |some x,ab xs=>ab (x::xs)
  |_,_=>ae
end
mutual
def Dv.owns(ids:yL Nat):Dv->Bool
 |.own id _ _ _=>ids.contains id
 |.agg ds=>Dv.dB ids ds
 |_=>ag
def Dv.dB(ids:yL Nat):yL Dv->Bool
 |[]=>ag
 |d::r=>d.owns ids || Dv.dB ids r
end
def Dv.dw(ds:yL Dv):Dv:=
 match Dv.aM ds with
 |some xs=>.p (.agg xs)
 |none=>.agg ds
def iL:yL Dv->yO (yL Pl)
 |[]=>ab []
 |d::r=>match d.plain,iL r with
  |some x,ab xs=>ab (x::xs)
  |_,_=>ae
def pF(ds:yL Dv):Dv:=
 match iL ds with
 |some xs=>.p (.agg xs)
 |none=>.agg ds
abbrev lX:=yO (yL Prop×Dv×yL al)
abbrev ti:=yO (yL Prop×Dv×yL ax×yL al)
def fR(k:IntKind)(x:Int):yL al->lX
 |.bare::hs=>ab ([WT k x],.p (.int k x),hs)
 |.raw::hs=>ab ([],.p (.int k (k.wrap x)),hs)
 |_=>ae
def tj(op:BinOp)(a b:Nat):yO Nat:=
 match op with
 |.and=>ab (a&&&b)
 |.or=>ab (a|||b)
 |.xor=>ab (a^^^b)
 |_=>ae
def YO(op:BinOp)(k:IntKind)(x y:Int)(hs:yL al):lX:=
 match op with
 |.add=>fR k (x+y) hs
 |.sub=>fR k (x - y) hs
 |.mul=>fR k (x*y) hs
 |.quo=>match hs with
  |.bare::hs'=>ab ([0<=x,0 < y,WT k (x / y)],.p (.int k (x / y)),hs')
  |.raw::hs'=>ab ([y≠0],.p (.int k (k.wrap (x.tdiv y))),hs')
  |_=>ae
 |.rem=>match hs with
  |.bare::hs'=>ab ([0<=x,0 < y],.p (.int k (x % y)),hs')
  |.raw::hs'=>ab ([y≠0],.p (.int k (x.tmod y)),hs')
  |_=>ae
 |.and|.or|.xor=>match hs with
  |.bare::hs'=>(tj op x.toNat y.toNat).map λ(r:Nat)=>([0<=x,WT k x,0<=y,WT k y,WT k (r:Int)],.p (.int k (r:Int)),hs')
  |.raw::hs'=>ab ([],.p (.int k (bits op k x y)),hs')
  |_=>ae
 |.andNot=>match hs with
  |.raw::hs'=>ab ([],.p (.int k (bits op k x y)),hs')
  |_=>ae
 |.eql=>ab ([],.p (.bool (x==y)),hs)
 |.neq=>ab ([],.p (.bool (x !=y)),hs)
 |.lss=>ab ([],.p (.bool (ah (x < y))),hs)
 |.leq=>ab ([],.p (.bool (ah (x<=y))),hs)
 |.gtr=>ab ([],.p (.bool (ah (x > y))),hs)
 |.geq=>ab ([],.p (.bool (ah (x >= y))),hs)
 |_=>ae
def Wg(op:BinOp)(k:IntKind)(x y:Int)(hs:yL al):lX:=
 match op,hs with
 |.shl,.bare::hs'=>ab ([0<=y,y.toNat < k.bits,WT k (x*2 ^ y.toNat)],.p (.int k (x*2 ^ y.toNat)),hs')
 |.shl,.raw::hs'=>ab ([0<=y],.p (.int k (k.wrap (x*2 ^ (min y.toNat k.bits)))),hs')
 |.shr,.bare::hs'=>ab ([0<=y,y.toNat<=k.bits],.p (.int k (x / 2 ^ y.toNat)),hs')
 |.shr,.raw::hs'=>ab ([0<=y],.p (.int k (x.fdiv (2 ^ (min y.toNat k.bits)))),hs')
 |_,_=>ae
mutual
def Pl.flat:Pl->Bool
 |.int _ _=>af
 |.bool _=>af
 |.agg xs=>Pl.aM xs
 |.arr _ _ xs=>Pl.aM xs
 |_=>ag
def Pl.aM:yL Pl->Bool
 |[]=>af
 |x::r=>x.flat&&Pl.aM r
end
def gW(P:yg)(R:yc->Pl->Prop):yL Field->Nat->yL Pl->Prop
 |[],_,[]=>True
 |f::fs,o,y::ys=>f.name≠ "_" /\f.offset=o/\P.cellsOf f.type=y.size/\(P.info? f.type).isSome=af/\(P.underlying f.type).isSome=af/\Xi P f.type=y.isAgg/\y.size≠0/\R f.type y/\gW P R fs (o+y.size) ys
 |_,_,_=>False
def bg(P:yg):Nat->yc->Pl->Prop
 |0,_,_=>False
 |n+1,t,x=>match P.underlying t,x with
  |some .bool,.bool _=>True
  |some (.int k),.int k' _=>k'=k
  |some (.array m e),.arr m' s xs=>m'=m/\P.cellsOf e=s/\s≠0/\(P.info? e).isSome=af/\(P.underlying e).isSome=af/\∀y,y∈xs->bg P n e y/\y.size=s/\Xi P e=y.isAgg
  |some (.struct fs),.agg xs=>P.stoodInHeld t=ag/\gW P (bg P n) fs.toList 0 xs
  |_,_=>False
def WN:yL (Pl×Pl)->Pl->yO Pl->Prop
 |[],_,r=>r=ae
 |q::l,k,r=>(k=q.1/\r=ab q.2)\/(k≠q.1/\WN l k r)
def Qw:yL (Pl×Pl)->Pl->Pl->yL (Pl×Pl)->Prop
 |[],k,v,l=>l=[(k,v)]
 |q::r,k,v,l=>(k=q.1/\l=(k,v)::r)\/(k≠q.1/\∃l',l=q::l'/\Qw r k v l')
def fS:yL (Pl×Pl)->Pl->yL (Pl×Pl)->Prop
 |[],_,l=>l=[]
 |q::r,k,l=>(k=q.1/\l=r)\/(k≠q.1/\∃l',l=q::l'/\fS r k l')
def Q7(P:yg)(kt:yc)(bw:yL (Pl×Pl)):Prop:=∀q,q∈bw->bg P 20 kt q.1
def nL(P:yg)(t:yc):Bool:=match P.info? t with|some i=>i.zero.isSome|none=>ag
def gX(P:yg)(kt:yc):Bool:=
 match P.underlying kt with
 |some (.int _)=>af
 |some .bool=>af
 |some (.array _ _)=>af
 |some (.struct _)=>af
 |_=>ag
def iq(P:yg)(t:yc)(x y:Dv)(hs:yL al):yO (yL Prop×Bool×yL al):=
 match P.underlying t,x,y with
 |some .bool,.p (.bool a),.p (.bool b)=>ab ([],a==b,hs)
 |some (.pointer _),.ak _ _ _,.p .bf=>ab ([],ag,hs)
 |some (.pointer _),.elem _,.p .bf=>ab ([],ag,hs)
 |some (.pointer _),.aY _ _ _ _,.p .bf=>ab ([],ag,hs)
 |some (.pointer _),.p .bf,.p .bf=>ab ([],af,hs)
 |some (.slice _),.p (.sl (ab b) _ _),.p (.sl (ab ag) _ [])=>ab ([], !b,hs)
 |some (.slice _),.own _ (ab b) _ _,.p (.sl (ab ag) _ [])=>ab ([], !b,hs)
 |some (.slice _),.view _ _ _ _ _ _,.p (.sl (ab ag) _ [])=>ab ([],ag,hs)
 |some (.slice _),.p (.sl ae _ xs),.p (.sl (ab ag) _ [])=>match hs with
  |.bare::hs'=>ab ([xs≠[]],ag,hs')
  |_=>ae
 |some (.slice _),.own _ ae _ xs,.p (.sl (ab ag) _ [])=>match hs with
  |.bare::hs'=>ab ([xs≠[]],ag,hs')
  |_=>ae
 |some (.func _ _ _),.fn _ _,.p .fn0=>ab ([],ag,hs)
 |some (.func _ _ _),.p .fn0,.p .fn0=>ab ([],af,hs)
 |some (.array _ _),.p (.arr n s xs),.p (.arr m r ys)=>match hs with
  |.b β::hs'=>if P.eqGuardType P.depth t=ag then ab ([bg P 20 t (.arr n s xs),bg P 20 t (.arr m r ys),(β=af↔Pl.arr n s xs=Pl.arr m r ys)],β,hs') else ae
  |_=>ae
 |some (.struct _),.p (.agg xs),.p (.agg ys)=>match hs with
  |.b β::hs'=>if P.eqGuardType P.depth t=ag then ab ([bg P 20 t (.agg xs),bg P 20 t (.agg ys),(β=af↔Pl.agg xs=Pl.agg ys)],β,hs') else ae
  |_=>ae
 |_,_,_=>ae
def xW:BinOp->Bool
 |.shl=>af
 |.shr=>af
 |_=>ag
def gi(P:yg)(op:BinOp)(t:yc)(x y:Dv)(hs:yL al):lX:=
 match x,y with
 |.p (.int k a),.p (.int k' b)=>if xW op then Wg op k a b hs else if k=k' then YO op k a b hs else ae
 |.p (.str a),.p (.str b)=>match op with
  |.eql=>ab ([],.p (.bool (a.data.toList==b.data.toList)),hs)
  |.neq=>ab ([],.p (.bool (!(a.data.toList==b.data.toList))),hs)
  |_=>ae
 |x,y=>match op with
  |.eql=>(iq P t x y hs).map λr=>(r.1,.p (.bool r.2.1),r.2.2)
  |.neq=>(iq P t x y hs).map λr=>(r.1,.p (.bool (!r.2.1)),r.2.2)
  |_=>ae
def kU(P:yg)(fs:Array Field)(i:Nat)(before:Nat)(size:Nat)(isAgg:Bool):Bool:=
 match fs[i]? with
 |some f=>f.offset==before&&P.cellsOf f.type==size&&(P.info? f.type).isSome&&Xi P f.type==isAgg&&(P.underlying f.type).isSome&&size !=0
 |none=>ag
def QJ(P:yg)(t:yc)(x:Dv)(i:Nat):yO Dv:=
 match P.underlying t,x with
 |some (.struct fs),.p (.agg xs)=>match xs[i]? with
  |some y=>if kU P fs i (Pl.sizes (xs.take i)) y.size y.isAgg then ab (.p y) else ae
  |none=>ae
 |some (.struct fs),.agg xs=>match xs[i]? with
  |some y=>if kU P fs i (Dv.sizes (xs.take i)) y.size y.isAgg then ab y else ae
  |none=>ae
 |_,_=>ae
def fT(P:yg)(ts:yL Dv):yO yn->yO (yO Int)
 |none=>ab ae
 |some x=>match Zs P ts 0 x with
  |.p (.int _ i)=>ab (ab i)
  |_=>ae
def WU{α:Type}(xs:yL α):yO Int->yO Int->yL α
 |none,ae=>xs
 |none,ab h=>xs.take h.toNat
 |some l,ae=>xs.drop l.toNat
 |some l,ab h=>(xs.take h.toNat).drop l.toNat
def YT(len:Nat):yO Int->yO Int->yL Prop
 |none,ae=>[]
 |none,ab h=>[0<=h,h<=(len:Int)]
 |some l,ae=>[0<=l,l<=(len:Int)]
 |some l,ab h=>[0<=l,l<=h,h<=(len:Int)]
def tn(ds:yL Dv)(i:Nat)(d:Dv):yO (yL Dv):=
 match ds[i]? with
 |some old=>if old.size=d.size then ab (ds.set i d) else ae
 |none=>ae
def gY:yL Dv->yL (Nat×Dv)->yO (yL Dv)
 |ds,[]=>ab ds
 |ds,(i,d)::r=>(tn ds i d).bind λds'=>gY ds' r
def kV(l:yL (Nat×Dv)):Bool:=l.all λq=>q.2.bE
def Qs(P:yg)(ts:yL Dv)(f:Nat->yc)(parts:yL (Nat×yn)):yL (Nat×Dv):=
 parts.map λq=>(q.1,Zs P ts (f q.1) q.2)
def kW(P:yg)(t:yc)(i:Nat):yc:=
 match P.underlying t with
 |some (.struct fs)=>((fs[i]?).map (·.type)).getD 0
 |some (.array _ e)=>e
 |some (.slice e)=>e
 |_=>0
def YP(P:yg)(t:yc):Dv:=
 match P.info? t with
 |some i=>match i.zero with
  |some v=>nK P t v
  |none=>.ao
 |none=>.ao
def Dv.arg:Dv->Dv
 |.own _ nn s xs=>.p (.sl nn s xs)
 |.agg ds=>Dv.dw ds
 |d=>d
def Dv.bR(ids:yL Nat):Dv->Dv
 |.own id nn s xs=>if ids.contains id then .own id nn s xs else .p (.sl nn s xs)
 |.agg ds=>if Dv.dB ids ds then .agg ds else Dv.dw ds
 |d=>d
def ZU(P:yg)(ids:yL Nat)(ts:yL Dv)(c:Call)(g:yu)(cap:yL Dv):yL Dv:=
 if g < big then((c.args.toList.zip c.argTypes.toList).map λq=>(Zs P ts q.2 q.1).bR ids)++cap.map (Dv.bR ids)
 else cap.map (Dv.bR ids)++((c.args.toList.zip c.argTypes.toList).map λq=>(Zs P ts q.2 q.1).bR ids)
def lY(P:yg)(g:yu):Bool:=
 ah (g < big)&&match P.funcs[g]? with
 |some fn=>fn.name== "internal/bytealg.Compare" &&fn.body.isNone&&(Extern.findNext fn).isNone
 |none=>ag
def gr(b:ByteArray):yL Pl:=b.data.toList.map λx=>.int .u8 (x.toNat:Int)
def gI(P:yg)(s:Nat)(t:yc)(d:Dv):yO (yL Pl):=
 match P.underlying t,d with
 |some (.slice e),.p (.sl _ s' xs)=>if s'=s\/xs.isEmpty then ab xs else ae
 |some (.slice e),.own _ _ s' xs=>if s'=s then ab xs else ae
 |some .string,.p (.str z)=>if s=1 then ab (z.data.toList.map λb=>.int .u8 (b.toNat:Int)) else ae
 |_,_=>ae
def XK(P:yg)(ts:yL Dv)(e:yc)(s:Nat)(len:Nat)(parts:yL (Nat×yn)):yO (yL Pl):=
 if parts.map (·.1)==yq len then
  match Dv.aM (parts.map λq=>Zs P ts e q.2) with
  |some xs=>if xs.all (λx=>x.size==s) then ab xs else ae
  |none=>ae
 else ae
def nM(P:yg)(ts:yL Dv)(e:yc)(s:Nat)(len:Nat)(parts:yL (Nat×yn)):yO (yL Dv):=
 if parts.map (·.1)==yq len then
  if(parts.map λq=>Zs P ts e q.2).all λd=>d.bE&&d.size==s then ab (parts.map λq=>Zs P ts e q.2) else ae
 else ae
def Zr:Nat:=140737488355328
def cf(i:TypeInfo):Bool:=
 match i.zero with
 |some z=>z.cells.size==i.size
 |none=>ag
def Qt(P:yg)(g:yu):Bool:=
 match P.funcs[g]? with
 |some fn=>fn.body.isSome&& !(fn.name== "runtime.NumGoroutine")
 |none=>ag
def aX(P:yg)(o:Oper)(ts:yL Dv)(hs:yL al):lX:=
 match o.op with
 |.move x=>match hs with
  |.raw::hs'=>ab ([],Zs P ts o.type x,hs')
  |_=>ae
 |.assign x=>match hs with
  |.raw::hs'=>ab ([],Zs P ts o.type x,hs')
  |_=>ae
 |.pick c a b=>match Zs P ts 0 c,hs with
  |.p (.bool t),.b β::hs'=>ab ([t=β],if β then Zs P ts o.type a else Zs P ts o.type b,hs')
  |_,_=>ae
 |.nilCheck x=>match Zs P ts 0 x with
  |.ak i f p=>ab ([],.ak i f p,hs)
  |.aY i v f p=>ab ([],.aY i v f p,hs)
  |.elem y=>ab ([],.elem y,hs)
  |.fn f c=>ab ([],.fn f c,hs)
  |_=>ae
 |.binOp op t x y yt=>gi P op t (Zs P ts t x) (Zs P ts yt y) hs
 |.unOp .not _ x=>match Zs P ts 0 x with
  |.p (.bool t)=>ab ([],.p (.bool (!t)),hs)
  |_=>ae
 |.unOp .neg _ x=>match Zs P ts 0 x with
  |.p (.int k n)=>fR k (0 - n) hs
  |_=>ae
 |.unOp .xor _ x=>match Zs P ts 0 x with
  |.p (.int k n)=>if k.signed then ae else ab ([],.p (.int k (bits .xor k k.max n)),hs)
  |_=>ae
 |.convert src dst x=>match P.underlying src,P.underlying dst,Zs P ts src x with
  |some _,ab (.int k),.p (.int _ n)=>fR k n hs
  |some (.slice e),ab .string,.p (.sl _ s xs)=>match hs,P.underlying e with
   |.el (.str b)::hs',ab (.int .u8)=>if s=1 then ab ([xs=b.data.toList.map λx=>.int .u8 (x.toNat:Int)],.p (.str b),hs') else ae
   |_,_=>ae
  |some (.slice e),ab .string,.own _ _ s xs=>match hs,P.underlying e with
   |.el (.str b)::hs',ab (.int .u8)=>if s=1 then ab ([xs=b.data.toList.map λx=>.int .u8 (x.toNat:Int)],.p (.str b),hs') else ae
   |_,_=>ae
  |some .string,ab (.slice e),.p (.str b)=>match P.underlying e with
   |some (.int .u8)=>ab ([b.size<=maxLen],.p (.sl (ab af) 1 (b.data.toList.map λx=>.int .u8 (x.toNat:Int))),hs)
   |_=>ae
  |_,_,_=>ae
 |.sliceToArrayPointer t x=>match P.underlying t,Zs P ts 0 x with
  |some (.array n e),.p (.sl _ s xs)=>if n !=0 then ab ([n<=xs.length],.elem (.arr n s (xs.take n)),hs) else ae
  |some (.array n e),.own _ _ s xs=>if n !=0 then ab ([n<=xs.length],.elem (.arr n s (xs.take n)),hs) else ae
  |_,_=>ae
 |.makeFunc (.func f) first captured=>if first.isEmpty&&ah (f < big) then ab ([],.fn f (captured.toList.map (Zs P ts 0)),hs) else if captured.isEmpty then ab ([],.fn (f+big) (first.toList.map (Zs P ts 0)),hs) else ae
 |.makeInterface t x=>match P.underlying t with
  |some (.interface _)=>ae
  |some _=>ab ([],.iface t (Zs P ts t x),hs)
  |none=>ae
 |.field t x i=>(QJ P t (Zs P ts t x) i).map λd=>([],d,hs)
 |.fieldAddr t x i=>match P.underlying t,Zs P ts 0 x with
  |some (.struct fs),.ak id off yQ=>match fs[i]? with
   |some f=>if P.cellsOf f.type !=0&&(P.info? f.type).isSome then ab ([],.ak id (off+f.offset) (yQ++[i]),hs) else ae
   |none=>ae
  |some (.struct fs),.aY id v off yQ=>match fs[i]? with
   |some f=>if P.cellsOf f.type !=0&&(P.info? f.type).isSome then ab ([],.aY id v (off+f.offset) (yQ++[i]),hs) else ae
   |none=>ae
  |some (.struct _),.elem y=>match QJ P t (.p y) i with
   |some (.p z)=>ab ([],.elem z,hs)
   |_=>ae
  |_,_=>ae
 |.indexAddr t x ix=>match P.underlying t,Zs P ts t x,Zs P ts 0 ix with
  |some (.slice e),.p (.sl _ s xs),.p (.int _ i)=>match hs with
   |.el y::hs'=>if P.cellsOf e=s&&(P.info? e).isSome then ab ([0<=i,xs[i.toNat]? =ab y],.elem y,hs') else ae
   |_=>ae
  |some (.slice e),.own _ _ s xs,.p (.int _ i)=>match hs with
   |.el y::hs'=>if P.cellsOf e=s&&(P.info? e).isSome then ab ([0<=i,xs[i.toNat]? =ab y],.elem y,hs') else ae
   |_=>ae
  |some (.slice e),.view id off yQ s lo n,.p (.int _ i)=>
   if P.cellsOf e=s&&(P.info? e).isSome then ab ([0<=i,i < (n:Int)],.ak id (off+(lo+i.toNat)*s) (yQ++[lo+i.toNat]),hs) else ae
  |some (.slice e),.rv id v s lo n,.p (.int _ i)=>
   if P.cellsOf e=s&&(P.info? e).isSome then ab ([0<=i,i < (n:Int)],.aY id v ((lo+i.toNat)*s) [lo+i.toNat],hs) else ae
  |some (.array n e),.aY id v off yQ,.p (.int _ i)=>
   if(P.info? e).isSome then ab ([0<=i,i < (n:Int)],.aY id v (off+i.toNat*P.cellsOf e) (yQ++[i.toNat]),hs) else ae
  |some (.array n e),.ak id off yQ,.p (.int _ i)=>
   if(P.info? e).isSome then ab ([0<=i,i < (n:Int)],.ak id (off+i.toNat*P.cellsOf e) (yQ++[i.toNat]),hs) else ae
  |some (.array n e),.elem (.arr n' s xs),.p (.int _ i)=>match hs with
   |.el y::hs'=>if n=n'&&P.cellsOf e=s&&(P.info? e).isSome then ab ([0<=i,xs[i.toNat]? =ab y],.elem y,hs') else ae
   |_=>ae
  |_,_,_=>ae
 |.index t x ix=>match P.underlying t,Zs P ts t x,Zs P ts 0 ix with
  |some (.array n e),.p (.arr n' s xs),.p (.int _ i)=>match hs with
   |.el y::hs'=>if n=n'&&P.cellsOf e=s&&Xi P e==y.isAgg&&(P.underlying e).isSome&&(P.info? e).isSome&&s !=0 then ab ([0<=i,xs[i.toNat]? =ab y],.p y,hs') else ae
   |_=>ae
  |some .string,.p (.str s),.p (.int _ i)=>match hs with
   |.el (.int .u8 b)::hs'=>ab ([0<=i,(s.data.toList[i.toNat]?).map (λx:yB=>(x.toNat:Int))=ab b],.p (.int .u8 b),hs')
   |_=>ae
  |some (.array n e),.arr n' s xs,.p (.int _ i)=>match xs[i.toNat]? with
   |some d=>if n=n'&&P.cellsOf e=s&&Xi P e==d.isAgg&&(P.underlying e).isSome&&(P.info? e).isSome&&s !=0 then ab ([0<=i],d,hs) else ae
   |none=>ae
  |_,_,_=>ae
 |.slice t x lo hi ae=>match P.underlying t,Zs P ts t x,fT P ts lo,fT P ts hi with
  |some (.slice e),.p (.sl nn s xs),ab l,ab h=>
   if P.cellsOf e=s&&(P.info? e).isSome then ab (YT xs.length l h,.p (.sl nn s (WU xs l h)),hs) else ae
  |some (.slice e),.own _ nn s xs,ab l,ab h=>
   if P.cellsOf e=s&&(P.info? e).isSome then ab (YT xs.length l h,.p (.sl nn s (WU xs l h)),hs) else ae
  |some (.slice e),.view id off yQ s lo n,ab l,ab h=>
   if P.cellsOf e=s&&(P.info? e).isSome then ab (YT n l h,.view id off yQ s (lo+(l.getD 0).toNat) ((h.getD n).toNat - (l.getD 0).toNat),hs) else ae
  |some (.slice e),.rv id v s lo n,ab l,ab h=>match hs with
   |.bare::hs'=>if P.cellsOf e=s&&(P.info? e).isSome then ab (YT n l h,.rv id v s (lo+(l.getD 0).toNat) ((h.getD n).toNat - (l.getD 0).toNat),hs') else ae
   |_=>ae
  |some (.array n e),.elem (.arr n' s xs),ab l,ab h=>
   if n=n'&&P.cellsOf e=s&&(P.info? e).isSome&&n<=maxLen then ab (YT n l h,.p (.sl (ab af) s (WU xs l h)),hs) else ae
  |some (.array n e),.ak id off yQ,ab l,ab h=>match hs with
   |.raw::hs'=>if(P.info? e).isSome&&n<=maxLen then ab (YT n l h,.view id off yQ (P.cellsOf e) (l.getD 0).toNat ((h.getD n).toNat - (l.getD 0).toNat),hs') else ae
   |_=>ae
  |_,_,_,_=>ae
 |.slice t x lo hi (ab mx)=>match P.underlying t,Zs P ts t x,fT P ts lo,fT P ts hi,fT P ts (ab mx) with
  |some (.slice e),.rv _ _ _ _ n,ab (ab l),ab (ab h),ab (ab m)=>if(P.info? e).isSome then ab ([0<=l,l<=h,h<=m,m<=(n:Int)],.ao,hs) else ae
  |_,_,_,_,_=>ae
 |.extract x i=>match Zs P ts 0 x with
  |.bj ds=>(ds[i]?).map λd=>([],d,hs)
  |_=>ae
 |.load t a=>match Zs P ts 0 a with
  |.elem y=>if P.cellsOf t=y.size&&Xi P t==y.isAgg&&(P.underlying t).isSome&&(P.info? t).isSome then ab ([],.p y,hs) else ae
  |_=>ae
 |.build t parts=>match P.underlying t,YP P t with
  |some (.struct fs),.p (.agg zs)=>
   if kV (Qs P ts (kW P t) parts.toList)&&fs.size==zs.length&&(yq zs.length).all λi=>kU P fs i (Pl.sizes (zs.take i)) ((zs.getD i default).size) ((zs.getD i default).isAgg) then
    (gY (zs.map .p) (Qs P ts (kW P t) parts.toList)).map λds=>([],pF ds,hs)
   else ae
  |some (.array _ e),.p (.arr n s zs)=>
   if kV (Qs P ts (kW P t) parts.toList)&&P.cellsOf e=s&&(P.info? e).isSome then
    (gY (zs.map .p) (Qs P ts (kW P t) parts.toList)).bind λds=>match iL ds with
      |some xs=>ab ([],.p (.arr n s xs),hs)
      |none=>ab ([],.arr n s ds,hs)
   else ae
  |_,_=>ae
 |.call c=>match c.callee with
  |.builtin .len=>match c.args.toList,c.argTypes.toList with
   |[x],[t]=>match P.underlying t,Zs P ts t x with
    |some (.slice _),.p (.sl _ _ xs)=>ab ([],.p (.int .i64 (xs.length:Int)),hs)
    |some (.slice _),.own _ _ _ xs=>ab ([],.p (.int .i64 (xs.length:Int)),hs)
    |some (.slice _),.view _ _ _ _ _ n=>ab ([],.p (.int .i64 (n:Int)),hs)
    |some (.slice _),.rv _ _ _ _ n=>ab ([],.p (.int .i64 (n:Int)),hs)
    |some (.array n _),_=>ab ([],.p (.int .i64 (n:Int)),hs)
    |some .string,.p (.str s)=>ab ([],.p (.int .i64 (s.size:Int)),hs)
    |_,_=>ae
   |_,_=>ae
  |.builtin .max=>match c.args.toList,c.argTypes.toList with
   |[x,y],[t,u]=>match Zs P ts t x,Zs P ts u y with
    |.p (.int .i64 m),.p (.int .i64 n)=>ab ([],.p (.int .i64 (if n > m then n else m)),hs)
    |_,_=>ae
   |_,_=>ae
  |.builtin .append=>match c.args.toList,c.argTypes.toList,hs with
   |[x,y],[t,u],.iJ::hs'=>match P.underlying t,Zs P ts t x with
    |some (.slice e),.p (.sl (ab ag) _ [])=>match P.info? e,gI P (P.cellsOf e) u (Zs P ts u y) with
     |some i,ab ys=>if cf i&&i.size !=0 then ab ([ys.length*i.bytes<=Zr,ys.length<=maxLen],.p (.sl ae (P.cellsOf e) ys),hs') else ae
     |_,_=>ae
    |_,_=>ae
   |_,_,_=>ae
  |.value f=>match Zs P ts 0 f,hs with
   |.fn g cap,.call r [] []::hs'=>
    if Qt P (eA g)&&c.args.size==c.argTypes.size then match Dv.bz (λ_=>ae) (ZU P [] ts c g cap),r.rn (λ_=>ae) with
     |some args',ab _=>ab ([cR P (eA g) args' [] r []],r,hs')
     |_,_=>ae
    else ae
   |.fn g [],.el (.str x)::.el (.str y)::hs'=>
    if lY P g&&c.args.size==c.argTypes.size then match ZU P [] ts c g [] with
     |[.p (.sl _ s xs),.p (.sl _ s' ys)]=>if s=1/\s'=1 then ab ([xs=gr x,ys=gr y],.p (.int .i64 (Go.Lib.compareBytes x.data.toList y.data.toList)),hs') else ae
     |_=>ae
    else ae
   |_,_=>ae
  |_=>ae
 |.buildSlice t len parts=>match hs with
  |.iJ::hs'=>match P.underlying t with
   |some (.slice e)=>match P.info? e,XK P ts e (P.cellsOf e) len parts.toList with
    |some i,ab xs=>if cf i&&i.size !=0&&len*i.size<=16777216 then ab ([],.p (.sl (ab af) i.size (xs.map Pl.soft)),hs') else ae
    |_,_=>ae
   |_=>ae
  |.bare::hs'=>match P.underlying t with
   |some (.slice e)=>match P.info? e,XK P ts e (P.cellsOf e) len parts.toList with
    |some i,ab xs=>if cf i&&i.size !=0&&len*i.size<=16777216 then ab ([],.p (.sl (ab af) i.size xs),hs') else ae
    |_,_=>ae
   |_=>ae
  |_=>ae
 |_=>ae
def Yf:Dv->yL Nat->yL al->yO (yL Prop×Nat×Dv×yL al)
 |d,[],hs=>ab ([],0,d,hs)
 |.p (.agg xs),i::r,hs=>match xs[i]? with
  |some x=>(Yf (.p x) r hs).map λq=>(q.1,Pl.sizes (xs.take i)+q.2.1,q.2.2)
  |none=>ae
 |.p (.arr _ s xs),i::r,hs=>match hs with
  |.el y::hs'=>(Yf (.p y) r hs').map λq=>((xs[i]? =ab y)::q.1,i*s+q.2.1,q.2.2)
  |_=>ae
 |.agg xs,i::r,hs=>match xs[i]? with
  |some x=>(Yf x r hs).map λq=>(q.1,Dv.sizes (xs.take i)+q.2.1,q.2.2)
  |none=>ae
 |.arr _ s xs,i::r,hs=>match xs[i]? with
  |some x=>(Yf x r hs).map λq=>(q.1,i*s+q.2.1,q.2.2)
  |none=>ae
 |_,_,_=>ae
def XW(new:Dv):Dv->yL Nat->yL al->yO Dv
 |_,[],_=>ab new
 |.p (.agg xs),i::r,hs=>match xs[i]? with
  |some x=>match XW new (.p x) r hs with
   |some (.p y)=>ab (.p (.agg (xs.set i y)))
   |some y=>ab (.agg ((xs.map .p).set i y))
   |none=>ae
  |none=>ae
 |.p (.arr n s xs),i::r,hs=>match hs with
  |.el y::hs'=>match XW new (.p y) r hs' with
   |some (.p z)=>ab (.p (.arr n s (xs.set i z.soft)))
   |some z=>ab (.arr n s ((xs.map .p).set i z))
   |none=>ae
  |_=>ae
 |.agg xs,i::r,hs=>match xs[i]? with
  |some x=>(XW new x r hs).map λy=>.agg (xs.set i y)
  |none=>ae
 |.arr n s xs,i::r,hs=>match xs[i]? with
  |some x=>(XW new x r hs).map λy=>.arr n s (xs.set i y)
  |none=>ae
 |_,_,_=>ae
def gu(P:yg)(t:yc)(d:Dv):Bool:=
 P.cellsOf t==d.size&&Xi P t==d.isAgg&&(P.underlying t).isSome&&(P.info? t).isSome
def gZ(J:Sg):Sg:={ F:=λb _=>b < J.w.heap.size,B:=λb=>J.w.heap.size<=b,m:=[],H:=[],w:=J.w}
def cL:yO ax->yO ax
 |some (.var d _)=>ab (.var d af)
 |some (.row v s _ e d)=>ab (.row v s af e d)
 |x=>x
mutual
def Dv.xX:Dv->yO Nat
 |.rv id _ _ _ _=>ab id
 |.view id _ _ _ _ _=>ab id
 |.agg xs=>Dv.eU xs
 |_=>ae
def Dv.eU:yL Dv->yO Nat
 |[]=>ae
 |x::r=>match x.xX with
  |some i=>ab i
  |none=>Dv.eU r
end
def jZ(id:Nat)(E:yO ax)(ds:yL Dv)(ps:yL Pl):Prop:=∀(J:Sg)(vs:yL yh),Ok J->cL (J.H[id]?)=E->aE J ds vs->aE (gZ J) (ps.map Dv.p) vs
def bD(P:yg)(o:Oper)(ts:yL Dv)(H:yL ax)(hs:yL al):lX:=
 match o.op with
 |.load t a=>match Zs P ts 0 a with
  |.ak id off yQ=>match H[id]? with
   |some (.var d _)=>match Yf d yQ hs with
    |some (C,off',sub,hs')=>if gu P t sub then ab (C++[off'=off],sub,hs') else ae
    |none=>ae
   |_=>ae
  |.aY id v off yQ=>match H[id]? with
   |some (.row v' _ _ _ d)=>match Yf d yQ hs with
    |some (C,off',sub,hs')=>if gu P t sub&&v'==v then ab (C++[off'=off],sub,hs') else ae
    |none=>ae
   |_=>ae
  |_=>ae
 |.slice t x lo hi ae=>match P.underlying t,Zs P ts t x,fT P ts lo,fT P ts hi,hs with
  |some (.slice e),.rv id v s lo' n,ab l,ab (ab h),.raw::hs'=>match H[id]? with
   |some (.row v' s' _ _ d)=>match aO d s' with
    |some N=>if P.cellsOf e=s&&(P.info? e).isSome&&v'==v&&s'==s&&s' !=0 then ab ([0<=l.getD 0,l.getD 0<=h,lo'+h.toNat<=N],.rv id v s (lo'+(l.getD 0).toNat) (h.toNat - (l.getD 0).toNat),hs') else ae
    |none=>ae
   |_=>ae
  |some (.array n e),.ak id off yQ,ab l,ab h,.cW::hs'=>match H[id]? with
   |some (.var d ag)=>match Yf d yQ hs' with
    |some (C,off',.p (.arr n' s xs),hs'')=>
     if n=n'&&P.cellsOf e=s&&(P.info? e).isSome&&n<=maxLen then ab (C++[off'=off]++YT n l h,.p (.sl (ab af) s (WU xs l h)),hs'') else ae
    |_=>ae
   |_=>ae
  |_,_,_,_,_=>ae
 |.lookup t x ix ok=>match P.underlying t,Zs P ts t x with
  |some (.map kt et),.mp id=>match Zs P ts kt ix,H[id]?,hs with
   |.p k,ab (.map _ bw),.el v::hs'=>if gX P kt then ab ([bg P 20 kt k,Q7 P kt bw,WN bw k (ab v)],if ok then .bj [.p v,.p (.bool af)] else .p v,hs') else ae
   |.p k,ab (.map _ bw),.raw::hs'=>if gX P kt&&nL P et then
     ab ([bg P 20 kt k,Q7 P kt bw,WN bw k ae],if ok then .bj [YP P et,.p (.bool ag)] else YP P et,hs') else ae
   |_,_,_=>ae
  |_,_=>ae
 |.call c=>match c.callee with
  |.builtin .len=>match c.args.toList,c.argTypes.toList with
   |[x],[t]=>match P.underlying t,Zs P ts t x with
    |some (.map _ _),.mp id=>match H[id]? with
     |some (.map _ bw)=>ab ([],.p (.int .i64 (bw.length:Int)),hs)
     |_=>ae
    |_,_=>ae
   |_,_=>ae
  |.value f=>match Zs P ts 0 f,hs with
   |.fn g cap,.el (.agg ps)::.call (.p r) [] []::hs'=>match Dv.eU (ZU P [] ts c g cap) with
    |some id=>if Qt P (eA g)&&c.args.size==c.argTypes.size&&r.flat then ab ([jZ id (cL (H[id]?)) (ZU P [] ts c g cap) ps,cR P (eA g) (ps.map Dv.p) [] (.p r) []],.p r,hs') else ae
    |none=>ae
   |_,_=>ae
  |_=>ae
 |_=>ae
def aT(ids:yL Nat)(id:Nat):yO Nat:=ids.idxOf? id
def aP(ids:yL Nat)(n:Nat)(j:Nat):yO Nat:=if j < ids.length then ids[j]? else ab (n+(j - ids.length))
def aJ(H:yL ax)(all:yL Nat):yL Nat->yO (yL ax)
 |[]=>ab []
 |id::r=>match (H[id]?).bind (ax.rn (aT all)),aJ H all r with
  |some e,ab es=>ab (e::es)
  |_,_=>ae
def ar{α:Type}:yL α->yL Nat->yL α->yL α
 |H,[],Hb=>H++Hb
 |H,id::r,e::Hb=>ar (H.set id e) r Hb
 |H,_::_,[]=>H
def once:yL Nat->Bool
 |[]=>af
 |x::r=> !r.contains x&&once r
def Dv.cJ(d:Dv):Dv:=
 match d.flat with
 |some x=>.p x
 |none=>d
def ir(yQ:yL Nat)(d:Dv)(new:Dv):yO Dv:=
 match d with
 |.p _=>ab new.cJ
 |_=>match yQ with
  |[]=>ab new.cJ
  |_=>ab new
def nO(xs ys:yL Pl)(lo:Nat):yL Pl:=xs.take lo++(ys++xs.drop (lo+ys.length))
def hJ(P:yg)(s:Nat)(t:yc)(H:yL ax)(hs:yL al)(d:Dv):yO (yL Prop×yL Pl×yL al):=
 match d with
 |.view id off yQ s' lo n=>match P.underlying t,H[id]? with
  |some (.slice _),ab (.var dd _)=>match Yf dd yQ hs with
   |some (C,off',.p (.arr N s'' zs),hs')=>if s'=s&&s''=s then ab (C++[off'=off,lo+n<=N],(zs.drop lo).take n,hs') else ae
   |_=>ae
  |_,_=>ae
 |.rv id v s' lo n=>match P.underlying t,H[id]? with
  |some (.slice _),ab (.row v' s'' _ _ (.p (.arr N s3 zs)))=>if s'=s&&s''=s&&s3=s&&v'==v then ab ([lo+n<=N],(zs.drop lo).take n,hs) else ae
  |_,_=>ae
 |d=>(gI P s t d).map λys=>([],ys,hs)
def iM(d:Dv)(H:yL ax)(hs:yL al):ti:=
 match d with
 |.view id off yQ s lo n=>match H[id]? with
  |some (.var dd _)=>match Yf dd yQ hs with
   |some (C,off',.p (.arr n' s' xs),hs')=>if s'=s then ab (C++[off'=off,lo+n<=n'],.p (.sl (ab af) s ((xs.drop lo).take n)),H.set id (.var dd ag),hs') else ae
   |_=>ae
  |_=>ae
 |.rv id v s lo n=>match H[id]? with
  |some (.row v' s' _ e (.p (.arr N s'' xs)))=>if s'=s&&s''=s&&v'==v then ab ([lo+n<=N],.p (.sl ae s ((xs.drop lo).take n)),H.set id (.row v s ag e (.p (.arr N s xs))),hs) else ae
  |_=>ae
 |_=>ae
def YW:Dv->yL Nat->Nat->Dv->yO Dv
 |.p (.sl (ab ag) s' []),[],s,new=>if s'=s then ab new else ae
 |.p (.agg xs),i::r,s,new=>match xs[i]? with
  |some x=>(YW (.p x) r s new).map λy=>.agg ((xs.map Dv.p).set i y)
  |none=>ae
 |.agg xs,i::r,s,new=>match xs[i]? with
  |some x=>(YW x r s new).map λy=>.agg (xs.set i y)
  |none=>ae
 |_,_,_,_=>ae
def Ys(d:Dv)(n:Nat):yL al->Dv×yL ax×yL al
 |.cb yQ s e::hs=>match YW d yQ s (.own n ae s []) with
  |some d'=>((Ys d' (n+1) hs).1,.log s e []::(Ys d' (n+1) hs).2.1,(Ys d' (n+1) hs).2.2)
  |none=>(d,[],.cb yQ s e::hs)
 |hs=>(d,[],hs)
def lZ(d:Dv):Dv:=
 match d.plain with
 |some y=>.p y
 |none=>d
def cu(P:yg)(o:Oper)(ts:yL Dv)(H:yL ax)(hs:yL al):ti:=
 match o.op with
 |.assign x=>match hs with
  |.fresh t'::hs'=>if o.dst=ab t' then match P.underlying o.type,Zs P ts o.type x with
    |some (.slice e),.p (.sl (ab ag) _ [])=>match P.info? e with
     |some i=>if cf i&&i.size !=0 then ab ([],.own H.length ae i.size [],H++[.log i.size e []],hs') else ae
     |none=>ae
    |_,_=>ae
   else ae
  |.iK t'::hs'=>if o.dst=ab t' then match P.underlying o.type,Zs P ts o.type x with
    |some (.slice e),.p (.sl (ab ag) _ [])=>match P.info? e with
     |some i=>if cf i&&i.size !=0 then ab ([],.rv H.length 0 i.size 0 0,H++[.row 0 i.size af e (.p (.arr 0 i.size []))],hs') else ae
     |none=>ae
    |_,_=>ae
   else ae
  |.still t'::hs'=>if o.dst=ab t' then iM (Zs P ts o.type x) H hs' else ae
  |_=>ae
 |.move x=>match hs with
  |.still t'::hs'=>if o.dst=ab t' then iM (Zs P ts o.type x) H hs' else ae
  |_=>ae
 |.makeSlice t l c=>match P.underlying t,Zs P ts 0 l,Zs P ts 0 c with
  |some (.slice e),.p (.int .i64 n),.p (.int .i64 n')=>match P.info? e,hs with
   |some i,.own::hs'=>if cf i&&i.size !=0 then ab ([n=0,0<=n',n'.toNat*i.bytes<=Zr,n'.toNat<=maxLen],.own H.length (ab af) i.size [],H++[.log i.size e []],hs') else ae
   |some i,.arr::hs'=>if cf i&&i.size !=0 then ab ([n=0,0<=n',n'.toNat*i.bytes<=Zr,n'.toNat<=maxLen],.rv H.length 0 i.size 0 0,H++[.row 0 i.size af e (.p (.arr 0 i.size []))],hs') else ae
   |some i,.raw::hs'=>match YP P e with
    |.p z=>if cf i&&i.size=1&&z.size=1&& !z.isAgg then ab ([n'=n,0<=n,n.toNat*i.bytes<=Zr,n.toNat<=maxLen],.view H.length 0 [] 1 0 n.toNat,H++[.var (.p (.arr n.toNat 1 (yy n.toNat z))) af],hs') else ae
    |_=>ae
   |some i,.cW::hs'=>match YP P e with
    |.p z=>if cf i&&i.size=1&&z.size=1&& !z.isAgg then ab ([n'=n,0<=n,n.toNat*i.bytes<=Zr,n.toNat<=maxLen],.rv H.length 0 1 0 n.toNat,H++[.row 0 1 af e (.p (.arr n.toNat 1 (yy n.toNat z)))],hs') else ae
    |_=>ae
   |_,_=>ae
  |_,_,_=>ae
 |.makeMap t ae=>ab ([],.mp H.length,H++[.map t []],hs)
 |.mapUpdate t m k x=>match P.underlying t,Zs P ts t m with
  |some (.map kt et),.mp id=>match Zs P ts kt k,(Zs P ts et x).flat,H[id]?,hs with
   |.p k,ab v,ab (.map t' bw),.bw l::hs'=>if gX P kt then ab ([bg P 20 kt k,Q7 P kt bw,Qw bw k v.soft l],.ao,H.set id (.map t' l),hs') else ae
   |_,_,_,_=>ae
  |_,_=>ae
 |.insert t m k x=>match P.underlying t,Zs P ts t m with
  |some (.map kt et),.mp id=>match Zs P ts kt k,(Zs P ts et x).flat,H[id]?,hs with
   |.p k,ab v,ab (.map t' bw),.bw l::hs'=>if gX P kt then ab ([bg P 20 kt k,Q7 P kt bw,Qw bw k v.soft l],.ao,H.set id (.map t' l),hs') else ae
   |_,_,_,_=>ae
  |_,_=>ae
 |.alloc t=>match P.info? t with
  |some i=>match (Ys (YP P t) (H.length+1) hs).2.2 with
   |.raw::hs'=>if cf i&&gu P t (YP P t)&&(YP P t).bE then ab ([],.ak H.length 0 [],H++.var (Ys (YP P t) (H.length+1) hs).1 af::(Ys (YP P t) (H.length+1) hs).2.1,hs') else ae
   |_=>ae
  |none=>ae
 |.box t x=>
  match (Ys (lZ (Zs P ts t x)) (H.length+1) hs).2.2 with
  |.raw::hs'=>if(lZ (Zs P ts t x)).bE then ab ([],.ak H.length 0 [],H++.var (Ys (lZ (Zs P ts t x)) (H.length+1) hs).1 af::(Ys (lZ (Zs P ts t x)) (H.length+1) hs).2.1,hs') else ae
  |_=>ae
 |.store t a x=>match Zs P ts 0 a,Zs P ts t x with
  |.ak id off yQ,v=>match H[id]? with
   |some (.var d af)=>match Yf d yQ hs with
    |some (C,off',sub,hs')=>match ir yQ d v with
     |some new=>match XW new d yQ hs with
      |some d'=>if new.bE&&new.size==sub.size&&P.cellsOf t==new.size&&(P.info? t).isSome&&new.isAgg==sub.isAgg then(match (Ys d' H.length hs').2.2 with
       |.raw::hs''=>ab (C++[off'=off],.ao,H.set id (.var (Ys d' H.length hs').1 af)++(Ys d' H.length hs').2.1,hs'')
       |_=>ae) else ae
      |none=>ae
     |none=>ae
    |none=>ae
   |_=>ae
  |.aY id v off yQ,w=>match H[id]? with
   |some (.row v' s af e d)=>match Yf d yQ hs with
    |some (C,off',sub,hs')=>match ir yQ d w with
     |some new=>match XW new d yQ hs with
      |some d'=>if new.bE&&new.size==sub.size&&P.cellsOf t==new.size&&(P.info? t).isSome&&new.isAgg==sub.isAgg&&v'==v&&aO d' s==aO d s then
        ab (C++[off'=off],.ao,H.set id (.row v s af e d'),hs') else ae
      |none=>ae
     |none=>ae
    |none=>ae
   |_=>ae
  |_,_=>ae
 |.buildSlice t len parts=>match hs with
  |.fresh id::hs'=>match P.underlying t,H[id]? with
   |some (.slice e),ab (.row v s st e' dd)=>match P.info? e,XK P ts e (P.cellsOf e) len parts.toList with
    |some i,ab xs=>if cf i&&i.size !=0&&len*i.size<=16777216&&e'==e&&s==i.size then ab ([],.rv id (v+1) i.size 0 len,H.set id (.row (v+1) i.size af e (.p (.arr len i.size (xs.map Pl.soft)))),hs') else ae
    |_,_=>ae
   |_,_=>ae
  |.arr::hs'=>match P.underlying t with
   |some (.slice e)=>match P.info? e,XK P ts e (P.cellsOf e) len parts.toList with
    |some i,ab xs=>if cf i&&i.size !=0&&len*i.size<=16777216 then ab ([],.rv H.length 0 i.size 0 len,H++[.row 0 i.size af e (.p (.arr len i.size (xs.map Pl.soft)))],hs') else ae
    |_,_=>ae
   |_=>ae
  |.raw::hs'=>match P.underlying t with
   |some (.slice e)=>match P.info? e,nM P ts e (P.cellsOf e) len parts.toList with
    |some i,ab ds=>if cf i&&i.size !=0&&len*i.size<=16777216 then ab ([],.rv H.length 0 i.size 0 len,H++[.row 0 i.size af e (.arr len i.size ds)],hs') else ae
    |_,_=>ae
   |_=>ae
  |.own::hs'=>match P.underlying t with
   |some (.slice e)=>match P.info? e,XK P ts e (P.cellsOf e) len parts.toList with
    |some i,ab xs=>if cf i&&i.size !=0&&len*i.size<=16777216 then ab ([],.own H.length (ab af) i.size (xs.map Pl.soft),H++[.log i.size e (xs.map Pl.soft)],hs') else ae
    |_,_=>ae
   |_=>ae
  |_=>ae
 |.slice t x lo hi ae=>match P.underlying t,Zs P ts t x,fT P ts lo,fT P ts hi with
  |some (.array n e),.ak id off yQ,ab l,ab h=>match hs with
   |.cW::hs'=>match H[id]? with
    |some (.var d _)=>match Yf d yQ hs' with
     |some (C,off',.p (.arr n' s xs),hs'')=>
      if n=n'&&P.cellsOf e=s&&(P.info? e).isSome&&n<=maxLen then ab (C++[off'=off]++YT n l h,.p (.sl (ab af) s (WU xs l h)),H.set id (.var d ag),hs'') else ae
     |_=>ae
    |_=>ae
   |_=>ae
  |some (.slice e),.rv id v s lo' n,ab l,ab (ab h)=>match hs with
   |.arr::hs'=>match H[id]? with
    |some (.row v' s' af e' (.p (.arr N s2 xs)))=>if P.cellsOf e=s&&(P.info? e).isSome&&v'==v&&s'==s&&s2==s&&s' !=0&&lo'==0&&l.getD 0==0 then
      ab ([0<=h,h.toNat<=N],.rv id v s 0 h.toNat,H.set id (.row v s af e' (.p (.arr h.toNat s (xs.take h.toNat)))),hs') else ae
    |_=>ae
   |_=>ae
  |_,_,_,_=>ae
 |.call c=>match c.callee with
  |.builtin .append=>match c.args.toList,c.argTypes.toList with
   |[x,y],[t,u]=>match P.underlying t,Zs P ts t x with
    |some (.slice e),.own id nn s xs=>match P.info? e,hJ P s u H hs (Zs P ts u y),H[id]? with
     |some i,ab (C,ys,hs'),ab (.log s' e' zs)=>if cf i&&i.size=s&&s'=s&&e'=e&&s !=0 then
       ab (C++[zs=xs,(xs.length+ys.length)*i.bytes<=Zr,xs.length+ys.length<=maxLen],.own id ae s (xs++ys),H.set id (.log s e (xs++ys)),hs') else ae
     |_,_,_=>ae
    |some (.slice e),.p (.sl (ab ag) _ [])=>match hs,P.info? e,gI P (P.cellsOf e) u (Zs P ts u y) with
     |.own::hs',ab i,ab ys=>if cf i&&i.size !=0 then
       ab ([ys.length*i.bytes<=Zr,ys.length<=maxLen],.own H.length ae i.size ys,H++[.log i.size e ys],hs') else ae
     |.arr::hs',ab i,ab ys=>if cf i&&i.size !=0 then
       ab ([ys.length*i.bytes<=Zr,ys.length<=maxLen],.rv H.length 0 i.size 0 ys.length,H++[.row 0 i.size af e (.p (.arr ys.length i.size ys))],hs') else ae
     |_,_,_=>ae
    |some (.slice e),.rv id v s lo n=>match hs with
     |.bare::hs0=>match P.info? e,hJ P (P.cellsOf e) u H hs0 (Zs P ts u y) with
      |some i,ab (C,ys,hs')=>if cf i then ab (C++[ys=[]],.rv id v s lo n,H,hs') else ae
      |_,_=>ae
     |.raw::hs0=>match P.info? e,hJ P s u H hs0 (Zs P ts u y),H[id]? with
      |some i,ab (C,ys,hs'),ab (.row v' s' st e' (.p (.arr N s'' xs)))=>if cf i&&i.size=s&&s'=s&&s''=s&&e'=e&&s !=0&&v'==v&&lo=0 then
        ab (C++[n<=N,(n+ys.length)*i.bytes<=Zr,n+ys.length<=maxLen,st=af\/n=N],.rv id (v+1) s 0 (n+ys.length),H.set id (.row (v+1) s st e (.p (.arr (n+ys.length) s (xs.take n++ys)))),hs') else ae
      |_,_,_=>ae
     |.iJ::hs0=>match P.info? e,hJ P s u H hs0 (Zs P ts u y),H[id]? with
      |some i,ab (C,ys,hs'),ab (.row v' s' af e' (.p (.arr N s'' xs)))=>if cf i&&i.size=s&&s'=s&&s''=s&&e'=e&&s !=0&&v'==v&&lo=0 then
        ab (C++[0 < N,n+ys.length<=N],.rv id v s 0 (n+ys.length),H.set id (.row v s af e (.p (.arr N s (xs.take n++(ys++xs.drop (n+ys.length)))))),hs') else ae
      |_,_,_=>ae
     |_=>ae
    |_,_=>ae
   |_,_=>ae
  |.builtin .clear=>match c.args.toList,c.argTypes.toList with
   |[x],[t]=>match P.underlying t,Zs P ts t x with
    |some (.slice e),.rv id v s lo n=>match P.info? e,YP P e,H[id]? with
     |some i,.p z,ab (.row v' s' af e' (.p (.arr N s'' xs)))=>if cf i&&i.size=s&&s'=s&&s''=s&&v'==v&&s !=0&&z.size==s then
       ab ([n=1,lo+1<=N],.bj [],H.set id (.row v s af e' (.p (.arr N s (xs.set lo z.soft)))),hs) else ae
     |_,_,_=>ae
    |_,_=>ae
   |_,_=>ae
  |.builtin .delete=>match c.args.toList,c.argTypes.toList with
   |[x,y],[t,u]=>match P.underlying t,Zs P ts t x with
    |some (.map kt _),.mp id=>match Zs P ts u y,H[id]?,hs with
     |.p k,ab (.map t' bw),.bw l::hs'=>if gX P kt then ab ([bg P 20 kt k,Q7 P kt bw,fS bw k l],.bj [],H.set id (.map t' l),hs') else ae
     |_,_,_=>ae
    |_,_=>ae
   |_,_=>ae
  |.builtin .copy=>match c.args.toList,c.argTypes.toList with
   |[x,y],[t,u]=>match P.underlying t,Zs P ts t x with
    |some (.slice e),.view id off yQ s lo n=>match gI P s u (Zs P ts u y),H[id]? with
     |some ys,ab (.var dd af)=>match Yf dd yQ hs with
      |some (C,off',.p (.arr N s' xs),hs')=>match XW (.p (.arr N s' (nO xs ys lo))) dd yQ hs with
       |some dd'=>if s'=s&&P.cellsOf e=s&&(P.info? e).isSome then ab (C++[off'=off,ys.length<=n,lo+n<=N],.p (.int .i64 (ys.length:Int)),H.set id (.var dd' af),hs') else ae
       |none=>ae
      |_=>ae
     |_,_=>ae
    |_,_=>ae
   |_,_=>ae
  |.value f=>match Zs P ts 0 f,hs with
   |.fn g cap,.call r H' ids::hs'=>
    if Qt P (eA g)&&c.args.size==c.argTypes.size&&once ids&&ids.length<=H'.length then
     match Dv.bz (aT ids) (ZU P ids ts c g cap),aJ H ids ids,r.rn (aP ids H.length),ax.bz (aP ids H.length) H' with
     |some args',ab Hin,ab r',ab Hb=>ab ([cR P (eA g) args' Hin r H'],r',ar H ids Hb,hs')
     |_,_,_,_=>ae
    else ae
   |_,_=>ae
  |.invoke recv name=>match Zs P ts 0 recv,hs with
   |.iface t x,.gV g::.call r H' ids::hs'=>
    if Qt P g&&c.args.size==c.argTypes.size&&once ids&&ids.length<=H'.length then
     match Dv.bz (aT ids) (x.bR ids::ZU P ids ts c 0 []),aJ H ids ids,r.rn (aP ids H.length),ax.bz (aP ids H.length) H' with
     |some args',ab Hin,ab r',ab Hb=>ab ([nI P t name g,cR P g args' Hin r H'],r',ar H ids Hb,hs')
     |_,_,_,_=>ae
    else ae
   |_,_=>ae
  |_=>ae
 |_=>ae
def eV(P:yg)(o:Oper)(ts:yL Dv)(H:yL ax)(hs:yL al):ti:=
 match aX P o ts hs with
 |some (C,d,hs')=>ab (C,d,H,hs')
 |none=>match bD P o ts H hs with
  |some (C,d,hs')=>ab (C,d,H,hs')
  |none=>cu P o ts H hs
def fO(ts:yL Dv)(dst:yO Tmp)(d:Dv):yL Dv:=
 match dst with
 |some i=>ts.set i d
 |none=>ts
def iu(dst:yO Tmp)(d:Dv)(hs:yL al):yL Prop×Dv×yL al:=([],d,hs)
def de(P:yg)(ops:Array Oper)(o:Oper)(ts:yL Dv)(H:yL ax)(hs:yL al):ti:=
 match o.guard with
 |none=>(eV P o ts H hs).map λ(C,d,H',hs')=>(C++(iu o.dst d hs').1,(iu o.dst d hs').2.1,H',(iu o.dst d hs').2.2)
 |some (j,want)=>match ((ops[j]?).bind (·.dst)).map λt=>ts.getD t .ao,hs with
  |some (.p (.bool t)),.b β::hs'=>
   if β=want then(eV P o ts H hs').map λ(C,d,H',hs'')=>((t=β)::C++(iu o.dst d hs'').1,(iu o.dst d hs'').2.1,H',(iu o.dst d hs'').2.2)
   else ab ([t=β],.bj [],H,hs')
  |some (.bj []),.raw::hs'=>ab ([],.bj [],H,hs')
  |_,_=>ae
def ju(P:yg)(ops:Array Oper):yL Oper->yL Dv->yL ax->yL al->yO (yL Prop×yL Dv×yL ax×yL al)
 |[],ts,H,hs=>ab ([],ts,H,hs)
 |o::yK,ts,H,hs=>match de P ops o ts H hs with
  |some (C,d,H',hs')=>match ju P ops yK (fO ts o.dst d) H' hs' with
   |some (C',ts',H'',hs'')=>ab (C++C',ts',H'',hs'')
   |none=>ae
  |none=>ae
def looks(ops:Array Oper)(o:Oper):yL Nat:=
 (o.op.operands.toList.filterMap λx=>match x with|.tmp t=>ab t|_=>ae)++
 (match o.guard with|some (g,_)=>((ops[g]?).bind (·.dst)).toList|none=>[])
def ZM(keep:yL Nat):Nat->yL Dv->yL Dv
 |_,[]=>[]
 |i,d::r=>(if keep.contains i then d else .ao)::ZM keep (i+1) r
def bL(P:yg)(o:Oper)(ts:yL Dv)(H:yL ax)(hs:yL al):Nat:=
 match o.guard,hs with
 |some (_,want),.b β::hs'=>if β=want then(if(aX P o ts hs').isSome then 0 else if(bD P o ts H hs').isSome then 1 else 2) else 0
 |some _,.raw::_=>0
 |_,hs=>if(aX P o ts hs).isSome then 0 else if(bD P o ts H hs).isSome then 1 else 2
def nP(P:yg)(o:Oper)(ts:yL Dv):yO Nat:=
 match o.op with
 |.load t a=>match Zs P ts 0 a with
  |.ak id _ _=>ab id
  |.aY id _ _ _=>ab id
  |_=>ae
 |.slice t x _ _ ae=>match Zs P ts t x with
  |.ak id _ _=>ab id
  |_=>ae
 |.lookup t x _ _=>match Zs P ts t x with
  |.mp id=>ab id
  |_=>ae
 |.call c=>match c.callee with
  |.value f=>match Zs P ts 0 f with
   |.fn g cap=>Dv.eU (ZU P [] ts c g cap)
   |_=>ae
  |_=>ae
 |_=>ae
def jv(P:yg)(o:Oper)(ts:yL Dv)(hs:yL al):yO (yL Nat):=
 match o.op with
 |.assign _=>ab []
 |.move _=>ab []
 |.makeSlice _ _ _=>ab []
 |.makeMap _ ae=>ab []
 |.alloc _=>ab []
 |.box _ _=>ab []
 |.buildSlice _ _ _=>match hs with
  |.fresh id::_=>ab [id]
  |_::_=>ab []
  |[]=>ae
 |.slice t x _ _ ae=>match Zs P ts t x with
  |.rv id _ _ _ _=>ab [id]
  |_=>ab []
 |.store t x y=>match Zs P ts 0 x with
  |.ak id _ _=>ab [id]
  |.aY id _ _ _=>ab [id]
  |_=>ae
 |.call c=>match c.callee with
  |.builtin .append=>match c.args.toList,c.argTypes.toList with
   |[x,y],[t,u]=>match Zs P ts t x with
    |.own id _ _ _=>ab [id]
    |.rv id _ _ _ _=>ab [id]
    |.p _=>ab []
    |_=>ae
   |_,_=>ae
  |.value _=>match hs with
   |.call _ _ ids::_=>ab ids
   |_=>ae
  |.invoke _ _=>match hs with
   |.gV _::.call _ _ ids::_=>ab ids
   |_=>ae
  |_=>ae
 |_=>ae
structure Rec where
 hs:List al
 C:List Prop
 d:Dv
 H:List ax
 H':List ax
 hs':List al
 bF:Nat
 rd:Option Nat
 tc:Option (List Nat)
 push:Bool
 loc:Bool
 ex:Bool
def jw(o:Oper):Bool:=match o.op with
 |.slice _ _ _ _ _=>af
 |_=>ag
def mb(r:Dv)(Hn:yL ax)(ids:yL Nat):Bool:=Hn.length==ids.length&&(r.rn (λj=>ids[j]?)).isSome&&(ax.bz (λj=>ids[j]?) Hn).isSome
def kb(o:Oper)(hs:yL al):Bool:=o.guard.isNone&&match o.op with
 |.call c=>match c.callee with
  |.value _=>match hs with
   |.call r Hn ids::_=>mb r Hn ids
   |_=>ag
  |.invoke _ _=>match hs with
   |.gV _::.call r Hn ids::_=>mb r Hn ids
   |_=>ag
  |_=>ag
 |_=>ag
def iv(o:Oper)(hs:yL al)(n:Nat):Bool:=o.guard.isNone&&match o.op with
 |.alloc _=>af
 |.call c=>match c.callee with
  |.value _=>match hs with
   |.call r Hn ids::_=>ids.isEmpty&&mb r Hn [n]
   |_=>ag
  |_=>ag
 |_=>ag
def pG(P:yg)(o:Oper)(ts:yL Dv):yO Nat:=nP P o ts
def kc(P:yg)(o:Oper)(ts:yL Dv)(hs:yL al):yO (yL Nat):=if o.guard.isNone then jv P o ts hs else ae
def mc(P:yg)(ops:Array Oper):yL Oper->yL Dv->yL ax->yL al->yO (yL Prop×yL Rec×yL Dv×yL ax×yL al)
 |[],ts,H,hs=>ab ([],[],ts,H,hs)
 |o::yK,ts,H,hs=>match de P ops o (ZM (looks ops o) 0 ts) H hs with
  |some (C,d,H',hs')=>match mc P ops yK (fO ts o.dst d) H' hs' with
   |some (C',rs,ts',H'',hs'')=>ab (C++C',⟨hs,C,d,H,H',hs',bL P o (ZM (looks ops o) 0 ts) H hs,pG P o (ZM (looks ops o) 0 ts),kc P o (ZM (looks ops o) 0 ts) hs,iv o hs H.length,kb o hs,jw o⟩::rs,ts',H'',hs'')
   |none=>ae
  |none=>ae
def md(A:yL Nat)(i:Nat)(o:Oper):Nat:=
 o.after.toList.foldl (λm e=>if Region.binds .any e&&ah (e.on < i) then m|||(1 <<< e.on)|||A.getD e.on 0 else m) 0
def OO:yL Oper->Nat->yL Nat->yL Nat
 |[],_,A=>A
 |o::r,i,A=>OO r (i+1) (A++[md A i o])
def xY(ops:yL Oper):yL Nat:=OO ops 0 []
def pH(l:yL Oper):Nat->Bool
 |i=>match l with
  |[]=>af
  |o::r=>(o.after.toList.all λe=> !Region.binds .any e || decide (e.on < i))&&pH r (i+1)
def hT(l:yL Oper)(i:Nat):yO Tmp:=(l[i]?).bind (·.dst)
noncomputable def ZOb(id:Nat)(q:Rec):Bool:=@decide (cL (q.H'[id]?)=cL (q.H[id]?)) (Classical.propDecidable _)
noncomputable def kX(rs:yL Rec)(i j:Nat):Bool:=
 match rs[i]?,rs[j]? with
 |some r,ab q=>(match r.rd with
  |some id=>ah (id < q.H.length)&&ah (id < r.H.length)&&(if r.ex=af then q.push else((match q.tc with|some l=> !l.contains id|none=>ag) || ZOb id q))
  |none=>ag)
 |_,_=>ag
def tq(rs:yL Rec)(c:Nat)(r:Rec):Bool:=r.loc || (r.push&&r.H'.length==r.H.length+1&&(rs.take c).all λq=>ah (q.H.length<=r.H.length))
def jx(rs:yL Rec)(c i j:Nat):Bool:=((rs[c]?).map (tq rs c)).getD ag&&((i==c&&ah (c < j)&&((rs[j]?).map (·.push)).getD ag) || (j==c&&ah (c < i)&&((rs[i]?).map (·.push)).getD ag))
noncomputable def tw(ops:Array Oper)(rs:yL Rec):Bool:=
 let bF:=rs.map (·.bF);let l:=ops.toList;let A:=xY l;let n:=l.length
 (bF.length==n)&&pH l 0&&
 ((yq n).all λi=>match l[i]? with|some o=>A.getD i 0==md A i o|none=>af)&&
 ((yq n).all λi=>(yq n).all λj=>i==j || hT l i==ae || !(hT l i==hT l j))&&
 ((yq n).all λi=>match l[i]? with
   |some o=>let k:=looks ops o
    (yq n).all λj=>match hT l j with
      |some t=>i==j || !(k.contains t) || (if j < i then(A.getD i 0).testBit j else(A.getD j 0).testBit i)
      |none=>af
   |none=>af)&&
 ((yq (n+1)).any λc=>(yq n).all λi=>bF.getD i 0==0 || (yq n).all λj=>i==j || !(bF.getD j 0==2) || (if j < i then(A.getD i 0).testBit j else(A.getD j 0).testBit i) || (bF.getD i 0==1&&kX rs i j) || jx rs c i j)
noncomputable def tx(P:yg)(ops:Array Oper)(ts:yL Dv)(H:yL ax)(hs:yL al):yO (yL Prop×yL Dv×yL ax×yL al):=
 if P.follows .mixedOrders then
  match mc P ops ops.toList ts H hs with
  |some (C,rs,ts',H',hs')=>if tw ops rs then ab (C,ts',H',hs') else ae
  |none=>ae
 else ae
def pI(ts:yL Dv):yL Nat->yL Dv
 |[]=>ts
 |i::r=>pI (ts.set i .ao) r
abbrev ZQX:=yO (yL Prop×Ex×yL Dv×yL ax×yL al)
noncomputable def ev(P:yg):Code->yL Dv->yL ax->yL al->ZQX
 |.skip,ts,H,hs=>ab ([],.normal,ts,H,hs)
 |.label _,ts,H,hs=>ab ([],.normal,ts,H,hs)
 |.region _ ops draw,ts,H,hs=>if draw then(tx P ops ts H hs).map λ(C,ts',H',hs')=>(C,.normal,ts',H',hs') else(ju P ops ops.toList ts H hs).map λ(C,ts',H',hs')=>(C,.normal,ts',H',hs')
 |.seq x y,ts,H,hs=>match ev P x ts H hs with
  |some (C,.normal,ts',H',hs')=>match ev P y ts' H' hs' with
   |some (C',ex,ts'',H'',hs'')=>ab (C++C',ex,ts'',H'',hs'')
   |none=>ae
  |r=>r
 |.cond c x y,ts,H,hs=>match Zs P ts 0 c,hs with
  |.p (.bool t),.b af::hs'=>(ev P x ts H hs').map λ(C,r)=>((t=af)::C,r)
  |.p (.bool t),.b ag::hs'=>(ev P y ts H hs').map λ(C,r)=>((t=ag)::C,r)
  |_,_=>ae
 |.block id body,ts,H,hs=>match ev P body ts H hs with
  |some (C,.exit id',ts',H',hs')=>ab (C,if id'=id then .normal else .exit id',ts',H',hs')
  |r=>r
 |.loop body,ts,H,hs=>match hs with
  |.loop mask ex ts' H'::hs'=>if ex=.normal then ae else ab ([Xq P (.loop body) (pI ts mask) H ex ts' H'],ex,ts',H',hs')
  |_=>ae
 |.scope body,ts,H,hs=>ev P body ts H hs
 |.exit id,ts,H,hs=>ab ([],.exit id,ts,H,hs)
 |.ret,ts,H,hs=>ab ([],.ret,ts,H,hs)
 |_,_,_,_=>ae
def jy(P:yg)(ts:yL Dv)(H:yL ax):yL ResultVar->yL al->yO (yL Prop×yL Dv)
 |[],_=>ab ([],[])
 |.tmp t::r,hs=>(jy P ts H r hs).map λq=>(q.1,ts.getD t .ao::q.2)
 |.cell a ty::r,hs=>match ts.getD a .ao with
  |.ak id off yQ=>match H[id]? with
   |some (.var d _)=>match Yf d yQ hs with
    |some (C,off',sub,hs')=>if gu P ty sub then(jy P ts H r hs').map λq=>(C++[off'=off]++q.1,sub::q.2) else ae
    |none=>ae
   |_=>ae
  |_=>ae
def mf:yL Dv->Dv
 |[d]=>d
 |ds=>.bj ds
def fin(P:yg)(fn:Func)(ts:yL Dv)(H:yL ax)(k:Nat)(keep:yL Nat)(hs:yL al):yO (yL Prop×Dv×yL ax):=
 match jy P ts H fn.results.toList hs with
 |some (C,ds)=>
  let L:=yq k++keep
  match once L,(mf (ds.map Dv.arg)).rn (aT L),(mf ds).rn (aT L),aJ H L L with
  |true,_,ab r,ab H'=>ab (C,r,H')
  |true,ab r,ae,ab H'=>ab (C,r,H')
  |_,_,_,_=>ae
 |none=>ae
def bc:yL Prop->Prop
 |[]=>True
 |p::r=>p/\bc r
end Go.Ev
end
section
namespace Go.Ev
section
variable{J:Sg}{v:yh}
theorem ZI{k:IntKind}{n:Int}(h:yJ J (.p (.int k n)) v):v=.int k n:=by simpa[yJ,Dv.isAgg,Pl.isAgg,yH,aw] using h
theorem YD{b:Bool}(h:yJ J (.p (.bool b)) v):v=.bool b:=by simpa[yJ,Dv.isAgg,Pl.isAgg,yH,aw] using h
theorem nQ{b:ByteArray}(h:yJ J (.p (.str b)) v):v=.string b:=by simpa[yJ,Dv.isAgg,Pl.isAgg,yH,aw] using h
theorem pJ(h:yJ J (.p .bf) v):v=.pointer ae:=by simpa[yJ,Dv.isAgg,Pl.isAgg,yH,aw] using h
theorem xZ(h:yJ J (.p .fn0) v):v=.nilFunc:=by simpa[yJ,Dv.isAgg,Pl.isAgg,yH,aw] using h
theorem Zw(k:IntKind)(n:Int):yJ J (.p (.int k n)) (.int k n):=by simp[yJ,Dv.isAgg,Pl.isAgg,yH,aw]
theorem Yk(b:Bool):yJ J (.p (.bool b)) (.bool b):=by simp[yJ,Dv.isAgg,Pl.isAgg,yH,aw]
theorem Xj:yJ J .ao v:=by simp[yJ,Dv.isAgg,yH]
theorem Z2{d:Dv}(ha:d.isAgg=af):yJ J d v↔∃cs:Array yh,v=.agg cs/\yH J d cs.toList:=by
 simp[yJ,ha]
theorem Ze{d:Dv}(ha:d.isAgg=ag):yJ J d v↔yH J d [v]:=by
 simp[yJ,ha]
theorem XL{nn:yO Bool}{s:Nat}{xs:yL Pl}(h:yJ J (.p (.sl nn s xs)) v):
 aU s xs/\∃A c,v=.slice A xs.length c/\xs.length<=c/\c<=maxLen/\io nn A/\(A=ae->c=0)/\
  (xs≠[]->∃b o us,A=ab ⟨b,o,ae⟩/\an J.w J.aV xs us/\X7 J.w J.aV b o us):=by
 rw[Ze (by rfl)]at h;simpa[yH,aw] using h
theorem Yl{nn:yO Bool}{s:Nat}{xs:yL Pl}{A:yO Addr}{c:Nat}(h1:aU s xs)(h2:xs.length<=c)(h3:c<=maxLen)(h4:io nn A)(h5:A=ae->c=0)
 (h6:xs≠[]->∃b o us,A=ab ⟨b,o,ae⟩/\an J.w J.aV xs us/\X7 J.w J.aV b o us):yJ J (.p (.sl nn s xs)) (.slice A xs.length c):=by
 rw[Ze (by rfl)];simp only[yH,aw];exact⟨h1,A,c,rfl,h2,h3,h4,h5,h6⟩
theorem Q8{id s:Nat}{nn:yO Bool}{xs:yL Pl}(h:yJ J (.own id nn s xs) v):
 aU s xs/\∃A c,v=.slice A xs.length c/\xs.length<=c/\c<=maxLen/\io nn A/\(A=ae->c=0)/\
  (xs≠[]->∃b o us,A=ab ⟨b,o,ae⟩/\an J.w J.aV xs us/\X7 J.w J.aV b o us)/\cV J id s xs.length A c:=by
 rw[Ze (by rfl)]at h;simpa[yH] using h
theorem V5{id s:Nat}{nn:yO Bool}{xs:yL Pl}(h:yJ J (.own id nn s xs) v):yJ J (.p (.sl nn s xs)) v:=by
 obtain⟨h1,A,c,rfl,h2,h3,h4,h5,h6,_⟩:=Q8 h;exact Yl h1 h2 h3 h4 h5 h6
end
mutual
theorem XT{w:yz}{S:Nat->Nat->Prop}:∀(x:Pl)(vs:yL yh),aw w S x vs->vs.length=x.size
 |.int _ _,_,h=>by simp only[aw]at h;subst h;rfl
 |.bool _,_,h=>by simp only[aw]at h;subst h;rfl
 |.str _,_,h=>by simp only[aw]at h;subst h;rfl
 |.bf,_,h=>by simp only[aw]at h;subst h;rfl
 |.fn0,_,h=>by simp only[aw]at h;subst h;rfl
 |.dN,_,h=>by simp only[aw]at h;subst h;rfl
 |.ci,_,h=>by simp only[aw]at h;subst h;rfl
 |.fQ _,_,h=>by simp only[aw]at h;subst h;rfl
 |.agg xs,vs,h=>by
  simp only[aw]at h
  simpa[Pl.size] using aK xs vs h
 |.arr n s xs,vs,h=>by
  simp only[aw]at h;obtain⟨h1,h2,h3⟩:=h;have:=aK xs vs h3;rw[this,Pl.size, <-h1]
  exact aL h2
 |.sl _ _ _,_,h=>by
  simp only[aw]at h;obtain⟨_,A,c,h,_⟩:=h
  subst h;rfl
 |.iface _ _,_,h=>by
  simp only[aw]at h;obtain⟨v,h,_⟩:=h;subst h;rfl
theorem aK{w:yz}{S:Nat->Nat->Prop}:∀(xs:yL Pl)(vs:yL yh),an w S xs vs->vs.length=Pl.sizes xs
 |[],_,h=>by simp only[an]at h;subst h;rfl
 |x::xs,vs,h=>by
  simp only[an]at h;obtain⟨us,us',rfl,h1,h2⟩:=h;rw[yr,XT x us h1,aK xs us' h2,Pl.sizes]
theorem aL{s:Nat}:∀{xs:yL Pl},aU s xs->Pl.sizes xs=xs.length*s
 |[],_=>by simp[Pl.sizes]
 |x::xs,h=>by
  rw[Pl.sizes,h x (yao ..),aL (λy hy=>h y (yas _ hy)),yah,yav];omega
end
theorem Yh{w:yz}{S:Nat->Nat->Prop}{xs ys:yL Pl}{us vs:yL yh}(h:an w S xs us)(k:an w S ys vs):an w S (xs++ys) (us++vs):=by
 induction xs generalizing us with
 |nil=>simp only[an]at h;subst h;simpa using k
 |cons x xs ih=>
  simp only[an]at h;obtain⟨a,b,rfl,h1,h2⟩:=h;simp only[yaa,an,yak];exact⟨a,b++vs,rfl,h1,ih h2⟩
theorem Z9{w:yz}{S:Nat->Nat->Prop}{xs ys:yL Pl}{us:yL yh}(h:an w S (xs++ys) us):∃a b,us=a++b/\an w S xs a/\an w S ys b:=by
 induction xs generalizing us with
 |nil=>exact⟨[],us,rfl,by simp[an],h⟩
 |cons x xs ih=>
  simp only[yaa,an]at h;obtain⟨a,b,rfl,h1,h2⟩:=h;obtain⟨c,d,rfl,h3,h4⟩:=ih h2;exact⟨a++c,d,by simp,by simp only[an];exact⟨a,c,rfl,h1,h3⟩,h4⟩
theorem Wh{s:Nat}{xs ys:yL Pl}(h:aU s xs)(k:aU s ys):aU s (xs++ys):=by
 intro x hx;rcases ybs.1 hx with h1|h1
 .exact h x h1
 .exact k x h1
theorem WV{s:Nat}{xs:yL Pl}(h:aU s xs)(n:Nat):aU s (xs.take n):=λx hx=>h x (ybv hx)
theorem tz{s:Nat}{xs:yL Pl}(h:aU s xs)(n:Nat):aU s (xs.drop n):=λx hx=>h x (List.mem_of_mem_drop hx)
theorem X7.append{w:yz}{S:Nat->Nat->Prop}{b o:Nat}{us vs:yL yh}(h:X7 w S b o (us++vs)):X7 w S b o us/\X7 w S b (o+us.length) vs:=by
 constructor
 .intro j u hu;exact h j u (by rw[yai (yo.1 hu).1];exact hu)
 .intro j u hu;have:=h (us.length+j) u (by rw[yam (by omega)];simpa using hu)
  rwa [<-yck]at this
theorem OP{P:yg}{t:yc}{v:yh}{x:Pl}(h:th P t v=ab x)(w:yz)(S:Nat->Nat->Prop):aw w S x [v]/\x.isAgg=ag:=by
 unfold th at h
 split at h <;> first
  |(cases h;done)
  |(simp only[yj]at h;subst h;refine⟨?_,rfl⟩;simp only[aw];done)
  |(simp only[yj]at h;subst h;exact⟨by simp only[aw];exact⟨λ_ hx=>(by cases hx),ae,0,rfl,ym _,Nat.zero_le _,ON rfl,λ_=>rfl,λhn=>absurd rfl hn⟩,rfl⟩)
mutual
theorem yA{P:yg}:∀(yD:Nat)(t:yc)(vs:yL yh)(x:Pl)(r:yL yh),nJ P yD t vs=ab (x,r)->∀w S,∃us,vs=us++r/\aw w S x us
 |0,_,_,_,_,h,_,_=>by simp[nJ]at h
 |yD+1,t,vs,x,r,h,w,S=>by
  simp only[nJ]at h;split at h
  .rename_i fs _;simp only[yp,yl]at h;obtain⟨⟨xs,r'⟩,h1,rfl,rfl⟩:=h;obtain⟨us,e,hr⟩:=dV yD _ _ _ _ h1 w S;exact⟨us,e,by simpa[aw] using hr⟩
  .rename_i n e _;simp only[yp,yl]at h;obtain⟨⟨xs,r'⟩,h1,rfl,rfl⟩:=h;obtain⟨us,e',hl,ha,hr⟩:=fx yD _ _ _ _ _ h1 w S;exact⟨us,e',by simp only[aw];exact⟨hl,ha,hr⟩⟩
  .split at h
   .rename_i v r';simp only[yp,yl]at h;obtain⟨x',h1,rfl,rfl⟩:=h;exact⟨[v],rfl,(OP h1 w S).1⟩
   .cases h
  .cases h
theorem dV{P:yg}:∀(yD:Nat)(ts:yL yc)(vs:yL yh)(xs:yL Pl)(r:yL yh),cX P yD ts vs=ab (xs,r)->∀w S,∃us,vs=us++r/\an w S xs us
 |0,_,_,_,_,h,_,_=>by simp[cX]at h
 |yD+1,[],vs,xs,r,h,w,S=>by
  simp only[cX,yj,yl]at h;obtain⟨rfl,rfl⟩:=h
  exact⟨[],rfl,by simp[an]⟩
 |yD+1,t::ts,vs,xs,r,h,w,S=>by
  simp only[cX]at h;split at h
  .rename_i x r' h1;simp only[yp,yl]at h;obtain⟨⟨xs',r''⟩,h2,rfl,rfl⟩:=h;obtain⟨us,e1,k1⟩:=yA yD _ _ _ _ h1 w S;obtain⟨us',e2,k2⟩:=dV yD _ _ _ _ h2 w S;subst e2;exact⟨us++us',by rw[e1,yak],by simp only[an];exact⟨us,us',rfl,k1,k2⟩⟩
  .cases h
theorem fx{P:yg}:∀(yD:Nat)(e:yc)(n:Nat)(vs:yL yh)(xs:yL Pl)(r:yL yh),fw P yD e n vs=ab (xs,r)->
 ∀w S,∃us,vs=us++r/\xs.length=n/\aU (P.cellsOf e) xs/\an w S xs us
 |0,_,_,_,_,_,h,_,_=>by simp[fw]at h
 |yD+1,e,0,vs,xs,r,h,w,S=>by
  simp only[fw,yj,yl]at h;obtain⟨rfl,rfl⟩:=h
  exact⟨[],rfl,rfl,(λ_ hx=>(by cases hx)),by simp[an]⟩
 |yD+1,e,n+1,vs,xs,r,h,w,S=>by
  simp only[fw]at h;split at h
  .rename_i x r' h1;split at h
   .rename_i hs;simp only[yp,yl]at h;obtain⟨⟨xs',r''⟩,h2,rfl,rfl⟩:=h;obtain⟨us,e1,k1⟩:=yA yD _ _ _ _ h1 w S;obtain⟨us',e2,hl,ha,k2⟩:=fx yD _ _ _ _ _ h2 w S;subst e2;refine⟨us++us',by rw[e1,yak],by simp[hl], ?_,by simp only[an];exact⟨us,us',rfl,k1,k2⟩⟩;intro y hy
    cases hy with
    |head=>exact hs
    |tail _ hy=>exact ha y hy
   .cases h
  .cases h
end
theorem OQ{J:Sg}{f:yu}(hf:f < big):yJ J (.fn f []) (.func (.func f) #[] #[]):=by
 have e:eA f=f:=by
  unfold eA;rw[yW hf]
 rw[Ze rfl];simp only[yH];exact⟨#[], #[],by rw[e],yW hf,by simp[aE]⟩
theorem WW{P:yg}{t:yc}{v:yh}{J:Sg}:yJ J (nK P t v) v:=by
 unfold nK;split
 .rename_i cs;split
  .rename_i x h;split
   .rename_i ha;obtain⟨us,e,hr⟩:=yA _ _ _ _ _ h J.w J.aV;rw[Z2 (by simpa[Dv.isAgg] using ha)];exact⟨cs,rfl,by simp only[yH];rw[e];simpa using hr⟩
   .exact Xj
  .exact Xj
 .rename_i f fst cap;split
  .rename_i hh;have h1:fst= #[]:=by simpa using hh.1
   have h2:cap= #[]:=by simpa using hh.2.1
   subst h1;subst h2;exact OQ hh.2.2
  .exact Xj
 .split
  .rename_i x h;have:=OP h J.w J.aV;rw[Ze (by simpa[Dv.isAgg] using this.2)];simpa[yH] using this.1
  .exact Xj
theorem Zj{P:yg}{J:Sg}{ts:yL Dv}{a:Act}(h:aD J ts a)(t:yc)(x:yn):yJ J (Zs P ts t x) (a.eval x):=by
 cases x with
 |tmp i=>
  simp only[Zs,Act.eval]
  cases hi:ts[i]? with
  |none=>simp only[List.getD,hi,Option.getD_none];exact Xj
  |some d=>simp only[List.getD,hi,Option.getD_some];exact h.at_ i d hi
 |const v=>exact WW
 |global g=>exact Xj
 |func f=>
  simp only[Zs,Act.eval];split
  .rename_i hf;exact OQ hf
  .exact Xj
theorem ZHu{J:Sg}{d:Dv}{x:Pl}{v:yh}(h:d.plain=ab x)(hr:yJ J d v):yJ J (.p x) v:=by
 unfold Dv.plain at h;split at h
 .cases h;exact hr
 .cases h;exact V5 hr
 .cases h
mutual
theorem pK{J:Sg}:∀(d:Dv)(x:Pl)(us:yL yh),d.flat=ab x->yH J d us->aw J.w J.aV x us
 |.p y,x,us,h,hr=>by rw[Dv.flat]at h;cases h;simpa[yH] using hr
 |.own id nn s xs,x,us,h,hr=>by
  rw[Dv.flat]at h;cases h;simp only[yH]at hr;obtain⟨k1,A,c,k2,k3,k4,k5,k6,k7,_⟩:=hr;simp only[aw]
  exact⟨k1,A,c,k2,k3,k4,k5,k6,k7⟩
 |.agg ds,x,us,h,hr=>by
  rw[Dv.flat]at h
  cases h2:Dv.aM ds with
  |none=>rw[h2]at h;cases h
  |some xs=>
   rw[h2]at h;cases h;simp only[yH]at hr;simp only[aw]
   exact dQ ds xs us h2 hr
 |.elem _,x,us,h,hr=>by rw[Dv.flat]at h <;> simp_all
 |.ak _ _ _,x,us,h,hr=>by rw[Dv.flat]at h <;> simp_all
 |.view _ _ _ _ _ _,x,us,h,hr=>by rw[Dv.flat]at h <;> simp_all
 |.arr _ _ _,x,us,h,hr=>by rw[Dv.flat]at h <;> simp_all
 |.fn _ _,x,us,h,hr=>by rw[Dv.flat]at h <;> simp_all
 |.iface _ _,x,us,h,hr=>by rw[Dv.flat]at h <;> simp_all
 |.bj _,x,us,h,hr=>by rw[Dv.flat]at h <;> simp_all
 |.mp _,x,us,h,hr=>by rw[Dv.flat]at h <;> simp_all
 |.rv _ _ _ _ _,x,us,h,hr=>by rw[Dv.flat]at h <;> simp_all
 |.aY _ _ _ _,x,us,h,hr=>by rw[Dv.flat]at h <;> simp_all
 |.ao,x,us,h,hr=>by rw[Dv.flat]at h <;> simp_all
theorem dQ{J:Sg}:∀(ds:yL Dv)(xs:yL Pl)(us:yL yh),Dv.aM ds=ab xs->aG J ds us->an J.w J.aV xs us
 |[],xs,us,h,hr=>by rw[Dv.aM]at h;cases h;simpa[aG,an] using hr
 |d::ds,xs,us,h,hr=>by
  rw[Dv.aM]at h;split at h
  .rename_i x ys h1 h2;cases h;simp only[aG]at hr;obtain⟨a,b,rfl,h3,h4⟩:=hr;simp only[an];exact⟨a,b,rfl,pK d x a h1 h3,dQ ds ys b h2 h4⟩
  .cases h
end
theorem yC{d:Dv}{x:Pl}(h:d.flat=ab x):x.isAgg=d.isAgg:=by
 cases d <;> first
  |(rw[Dv.flat]at h;cases h;rfl)
  |(rename_i ds;rw[Dv.flat]at h;cases h2:Dv.aM ds with
     |none=>rw[h2]at h;cases h
     |some xs=>rw[h2]at h;cases h;rfl)
  |(simp[Dv.flat]at h)
theorem tA{J:Sg}{d:Dv}{x:Pl}{v:yh}(h:d.flat=ab x)(hr:yJ J d v):yJ J (.p x) v:=by
 have ha:=yC h
 cases hd:d.isAgg with
 |true=>
  rw[Z2 hd]at hr;rw[Z2 (by show x.isAgg=_;rw[ha,hd])];obtain⟨cs,rfl,h2⟩:=hr
  exact⟨cs,rfl,by simp only[yH];exact pK d x _ h h2⟩
 |false=>
  rw[Ze hd]at hr;rw[Ze (by show x.isAgg=_;rw[ha,hd])];simp only[yH];exact pK d x _ h hr
theorem OR{J:Sg}{ds:yL Dv}{v:yh}(hr:yJ J (.agg ds) v):yJ J (Dv.dw ds) v:=by
 unfold Dv.dw
 cases h:Dv.aM ds with
 |none=>exact hr
 |some xs=>exact tA (d:=.agg ds) (by rw[Dv.flat,h];rfl) hr
theorem za{J:Sg}{d:Dv}{v:yh}(ids:yL Nat)(hr:yJ J d v):yJ J (d.bR ids) v:=by
 unfold Dv.bR;split
 .split
  .exact hr
  .exact V5 hr
 .split
  .exact hr
  .exact OR hr
 .exact hr
theorem ZLW{J:Sg}{d:Dv}{v:yh}(hr:yJ J d v):yJ J d.arg v:=by
 unfold Dv.arg;split
 .exact V5 hr
 .exact OR hr
 .exact hr
end Go.Ev
end
section
namespace Go.Ev
theorem QR{k:IntKind}{x:Int}(h:WT k x):k.wrap x=x:=by
 obtain⟨h1,h2⟩:=h;cases k <;> simp only[IntKind.min,IntKind.max,IntKind.wrap,IntKind.signed,IntKind.bits] at* <;> simp at* <;> (try split) <;> omega
theorem Zk{A B:yL Prop}:bc (A++B)↔bc A/\bc B:=by
 induction A with
 |nil=>simp[bc]
 |cons p A ih=>simp[bc,ih,and_assoc]
theorem pL{k:IntKind}{x:Int}{hs hs':yL al}{C:yL Prop}{d:Dv}(h:fR k x hs=ab (C,d,hs'))(hc:bc C)(J:Sg):yJ J d (.int k (k.wrap x)):=by
 unfold fR at h;split at h
 .simp only[yj,yl]at h;obtain⟨rfl,rfl,rfl⟩:=h;rw[QR hc.1];exact Zw _ _
 .simp only[yj,yl]at h;obtain⟨rfl,rfl,rfl⟩:=h;exact Zw _ _
 .cases h
theorem nS(n a:Nat)(h:a < 2 ^ n):(yca n (a:Int)).toNat=a:=by
 rw[BitVec.ofInt_natCast,BitVec.toNat_ofNat];exact Nat.mod_eq_of_lt h
theorem OS{k:IntKind}{x:Int}(h:WT k x)(h0:0<=x):x.toNat < 2 ^ k.bits:=by
 obtain⟨h1,h2⟩:=h;cases k <;> simp only[IntKind.min,IntKind.max,IntKind.signed,IntKind.bits] at* <;> simp at* <;> omega
theorem zb{op:BinOp}{k:IntKind}{x y:Int}{r:Nat}(hr:tj op x.toNat y.toNat=ab r)(hx:0<=x)(kx:WT k x)(hy:0<=y)(ky:WT k y)(kr:WT k (r:Int)):
 bits op k x y=(r:Int):=by
 obtain⟨a,rfl⟩:=Int.eq_ofNat_of_zero_le hx;obtain⟨b,rfl⟩:=Int.eq_ofNat_of_zero_le hy;have ha:=OS kx hx;have hb:=OS ky hy;simp only[Int.toNat_natCast]at ha hb hr;unfold tj at hr;split at hr
 .cases hr;have e:bits .and k (a:Int) (b:Int)=k.wrap ((yca k.bits (a:Int)&&&yca k.bits (b:Int)).toNat:Int):=rfl;rw[e,BitVec.toNat_and,nS _ _ ha,nS _ _ hb];exact QR kr
 .cases hr;have e:bits .or k (a:Int) (b:Int)=k.wrap ((yca k.bits (a:Int)|||yca k.bits (b:Int)).toNat:Int):=rfl;rw[e,BitVec.toNat_or,nS _ _ ha,nS _ _ hb];exact QR kr
 .cases hr;have e:bits .xor k (a:Int) (b:Int)=k.wrap ((yca k.bits (a:Int)^^^yca k.bits (b:Int)).toNat:Int):=rfl;rw[e,BitVec.toNat_xor,nS _ _ ha,nS _ _ hb];exact QR kr
 .cases hr
theorem ZBD{P:yg}{op:BinOp}{k:IntKind}{x y:Int}{hs hs':yL al}{C:yL Prop}{d:Dv}(h:YO op k x y hs=ab (C,d,hs'))(hc:bc C)(J:Sg)(t:yc):
 ∃v,(binOp op t (.int k x) (.int k y)).run P J.w=.ok v J.w/\yJ J d v:=by
 unfold YO at h;split at h
 .exact⟨_,by rw[binOp_add];rfl,pL h hc J⟩
 .exact⟨_,by rw[binOp_sub];rfl,pL h hc J⟩
 .exact⟨_,by rw[binOp_mul];rfl,pL h hc J⟩
 .split at h
  .simp only[yj,yl]at h;obtain⟨rfl,rfl,rfl⟩:=h;obtain⟨h1,h2,h3,_⟩:=hc;have hy:y≠0:=by omega
   refine⟨_, ?_,Zw k (x / y)⟩;rw[binOp_quo];simp only[Op.intDiv,hy,if_false];rw[Int.tdiv_eq_ediv_of_nonneg h1,QR h3];rfl
  .simp only[yj,yl]at h;obtain⟨rfl,rfl,rfl⟩:=h;have hy:y≠0:=hc.1;refine⟨_, ?_,Zw k _⟩;rw[binOp_quo];simp only[Op.intDiv,hy,if_false];rfl
  .cases h
 .split at h
  .simp only[yj,yl]at h;obtain⟨rfl,rfl,rfl⟩:=h;obtain⟨h1,h2,_⟩:=hc;have hy:y≠0:=by omega
   refine⟨_, ?_,Zw k (x % y)⟩;rw[binOp_rem];simp only[Op.intDiv,hy,if_false];rw[Int.tmod_eq_emod_of_nonneg h1];rfl
  .simp only[yj,yl]at h;obtain⟨rfl,rfl,rfl⟩:=h;have hy:y≠0:=hc.1;refine⟨_, ?_,Zw k _⟩;rw[binOp_rem];simp only[Op.intDiv,hy,if_false];rfl
  .cases h
 .split at h
  .simp only[yp,yl]at h;obtain⟨r,hr,rfl,rfl,rfl⟩:=h;obtain⟨h1,h2,h3,h4,h5,_⟩:=hc;refine⟨_, ?_,Zw k _⟩;rw[binOp_and,intBits_and,zb hr h1 h2 h3 h4 h5];rfl
  .simp only[yj,yl]at h;obtain⟨rfl,rfl,rfl⟩:=h;exact⟨_,by rw[binOp_and,intBits_and];rfl,Zw k _⟩
  .cases h
 .split at h
  .simp only[yp,yl]at h;obtain⟨r,hr,rfl,rfl,rfl⟩:=h;obtain⟨h1,h2,h3,h4,h5,_⟩:=hc;refine⟨_, ?_,Zw k _⟩;rw[binOp_or,intBits_or,zb hr h1 h2 h3 h4 h5];rfl
  .simp only[yj,yl]at h;obtain⟨rfl,rfl,rfl⟩:=h;exact⟨_,by rw[binOp_or,intBits_or];rfl,Zw k _⟩
  .cases h
 .split at h
  .simp only[yp,yl]at h;obtain⟨r,hr,rfl,rfl,rfl⟩:=h;obtain⟨h1,h2,h3,h4,h5,_⟩:=hc;refine⟨_, ?_,Zw k _⟩;rw[binOp_xor,intBits_xor,zb hr h1 h2 h3 h4 h5];rfl
  .simp only[yj,yl]at h;obtain⟨rfl,rfl,rfl⟩:=h;exact⟨_,by rw[binOp_xor,intBits_xor];rfl,Zw k _⟩
  .cases h
 .split at h
  .simp only[yj,yl]at h;obtain⟨rfl,rfl,rfl⟩:=h;exact⟨_,by rw[binOp_andNot,intBits_andNot];rfl,Zw k _⟩
  .cases h
 all_goals first
  |(cases h;done)
  |(simp only[yj,yl]at h
    obtain⟨rfl,rfl,rfl⟩:=h
    first
     |exact⟨_,by rw[binOp_eql];rfl,Yk _⟩
     |exact⟨_,by rw[binOp_neq];rfl,Yk _⟩
     |exact⟨_,by rw[binOp_lss];rfl,Yk _⟩
     |exact⟨_,by rw[binOp_leq];rfl,Yk _⟩
     |exact⟨_,by rw[binOp_gtr];rfl,Yk _⟩
     |exact⟨_,by rw[binOp_geq];rfl,Yk _⟩)
theorem ZwH{P:yg}{op:BinOp}{k yk:IntKind}{x y:Int}{hs hs':yL al}{C:yL Prop}{d:Dv}(h:Wg op k x y hs=ab (C,d,hs'))(hc:bc C)(J:Sg):
 ∃v,(Op.shift op k x yk y).run P J.w=.ok v J.w/\yJ J d v:=by
 unfold Wg at h;split at h
 .simp only[yj,yl]at h;obtain⟨rfl,rfl,rfl⟩:=h;obtain⟨h1,h2,h3,_⟩:=hc;refine⟨_, ?_,Zw k _⟩;have hn:¬y < 0:=by omega
  simp only[Op.shift,hn,if_false];rw[yay (Nat.le_of_lt h2),QR h3];rfl
 .simp only[yj,yl]at h;obtain⟨rfl,rfl,rfl⟩:=h;refine⟨_, ?_,Zw k _⟩;have hn:¬y < 0:=by have:0<=y:=hc.1;omega
  simp only[Op.shift,hn,if_false];rfl
 .simp only[yj,yl]at h;obtain⟨rfl,rfl,rfl⟩:=h;obtain⟨h1,h2,_⟩:=hc;refine⟨_, ?_,Zw k _⟩;have hn:¬y < 0:=by omega
  simp only[Op.shift,hn,if_false];rw[yay h2,Int.fdiv_eq_ediv_of_nonneg _ (by exact Int.le_of_lt (Int.pow_pos (by decide)))];rfl
 .simp only[yj,yl]at h;obtain⟨rfl,rfl,rfl⟩:=h;refine⟨_, ?_,Zw k _⟩;have hn:¬y < 0:=by have:0<=y:=hc.1;omega
  simp only[Op.shift,hn,if_false];rfl
 .cases h
mutual
theorem zc{w:yz}{S:Nat->Nat->Prop}:∀(x:Pl)(vs:yL yh),aw w S x vs->∀u,u∈vs->u.oneCell'=af
 |.int _ _,_,h,u,hu=>by simp only[aw]at h;subst h;cases yar.1 hu;rfl
 |.bool _,_,h,u,hu=>by simp only[aw]at h;subst h;cases yar.1 hu;rfl
 |.str _,_,h,u,hu=>by simp only[aw]at h;subst h;cases yar.1 hu;rfl
 |.bf,_,h,u,hu=>by simp only[aw]at h;subst h;cases yar.1 hu;rfl
 |.fn0,_,h,u,hu=>by simp only[aw]at h;subst h;cases yar.1 hu;rfl
 |.dN,_,h,u,hu=>by simp only[aw]at h;subst h;cases yar.1 hu;rfl
 |.ci,_,h,u,hu=>by simp only[aw]at h;subst h;cases yar.1 hu;rfl
 |.fQ _,_,h,u,hu=>by simp only[aw]at h;subst h;cases yar.1 hu;rfl
 |.agg xs,vs,h,u,hu=>by
  simp only[aw]at h
  exact cx xs vs h u hu
 |.arr n s xs,vs,h,u,hu=>by
  simp only[aw]at h
  exact cx xs vs h.2.2 u hu
 |.sl _ _ _,_,h,u,hu=>by
  simp only[aw]at h;obtain⟨_,A,c,h,_⟩:=h
  subst h;cases yar.1 hu;rfl
 |.iface _ _,_,h,u,hu=>by
  simp only[aw]at h;obtain⟨v,h,_⟩:=h;subst h;cases yar.1 hu;rfl
theorem cx{w:yz}{S:Nat->Nat->Prop}:∀(xs:yL Pl)(vs:yL yh),an w S xs vs->∀u,u∈vs->u.oneCell'=af
 |[],_,h,u,hu=>by simp only[an]at h;subst h;cases hu
 |x::xs,vs,h,u,hu=>by
  simp only[an]at h;obtain⟨us,us',rfl,h1,h2⟩:=h;rcases ybs.1 hu with h3|h3
  .exact zc x us h1 u h3
  .exact cx xs us' h2 u h3
end
mutual
theorem XB{J:Sg}:∀(d:Dv)(vs:yL yh),yH J d vs->vs.length=d.size
 |.p x,vs,h=>by simp only[yH]at h;exact XT x vs h
 |.elem _,_,h=>by simp only[yH]at h;obtain⟨b,o,us,rfl,_⟩:=h;rfl
 |.ak _ _ _,_,h=>by simp only[yH]at h;obtain⟨b,_,_,rfl⟩:=h;rfl
 |.own _ _ _ _,_,h=>by simp only[yH]at h;obtain⟨_,A,c,rfl,_⟩:=h;rfl
 |.view _ _ _ _ _ _,_,h=>by simp only[yH]at h;obtain⟨b,c,a,_,_,rfl,_⟩:=h;rfl
 |.agg xs,vs,h=>by simp only[yH]at h;simpa[Dv.size] using df xs vs h
 |.arr n s xs,vs,h=>by
  simp only[yH]at h;obtain⟨h1,h2,h3⟩:=h;rw[df xs vs h3,Dv.size, <-h1]
  exact cM h2
 |.fn _ _,_,h=>by simp only[yH]at h;obtain⟨fs,cs,rfl,_⟩:=h;rfl
 |.iface _ _,_,h=>by simp only[yH]at h;obtain⟨cs,rfl,_⟩:=h;rfl
 |.bj _,_,h=>by simp only[yH]at h;obtain⟨cs,rfl,_⟩:=h;rfl
 |.mp _,_,h=>by simp only[yH]at h;obtain⟨b,_,_,rfl⟩:=h;rfl
 |.rv _ _ _ _ _,_,h=>by simp only[yH]at h;obtain⟨A,c,rfl,_⟩:=h;rfl
 |.aY _ _ _ _,_,h=>by simp only[yH]at h;obtain⟨b,o,rfl,_⟩:=h;rfl
 |.ao,_,h=>by simpa[yH,Dv.size] using h
theorem df{J:Sg}:∀(ds:yL Dv)(vs:yL yh),aG J ds vs->vs.length=Dv.sizes ds
 |[],_,h=>by simp only[aG]at h;subst h;rfl
 |x::xs,vs,h=>by
  simp only[aG]at h;obtain⟨us,us',rfl,h1,h2⟩:=h;rw[yr,XB x us h1,df xs us' h2,Dv.sizes]
theorem cM{s:Nat}:∀{xs:yL Dv},(∀x,x∈xs->x.size=s)->Dv.sizes xs=xs.length*s
 |[],_=>by simp[Dv.sizes]
 |x::xs,h=>by
  rw[Dv.sizes,h x (yao ..),cM (λy hy=>h y (yas _ hy)),yah,yav];omega
end
theorem kf{w:yz}{S:Nat->Nat->Prop}{xs:yL Pl}{us:yL yh}{i:Nat}{y:Pl}(h:an w S xs us)(hy:xs[i]? =ab y):
 ∃a b c,us=a++(b++c)/\a.length=Pl.sizes (xs.take i)/\aw w S y b/\b.length=y.size/\an w S (xs.take i) a/\an w S (xs.drop (i+1)) c:=by
 have hi:i < xs.length:=(yo.1 hy).1
 have hx:xs=xs.take i++(y::xs.drop (i+1)):=by
  rw[<-(yo.1 hy).2,List.getElem_cons_drop,ybk]
 rw[hx]at h;obtain⟨a,r,rfl,h1,h2⟩:=Z9 h;simp only[an]at h2;obtain⟨b,c,rfl,h3,h4⟩:=h2;exact⟨a,b,c,rfl,aK _ _ h1,h3,XT _ _ h3,h1,h4⟩
theorem pM{J:Sg}{xs ys:yL Dv}{us vs:yL yh}(h:aG J xs us)(k:aG J ys vs):aG J (xs++ys) (us++vs):=by
 induction xs generalizing us with
 |nil=>simp only[aG]at h;subst h;simpa using k
 |cons x xs ih=>
  simp only[aG]at h;obtain⟨a,b,rfl,h1,h2⟩:=h;simp only[yaa,aG,yak];exact⟨a,b++vs,rfl,h1,ih h2⟩
theorem ZBE{J:Sg}{xs ys:yL Dv}{us:yL yh}(h:aG J (xs++ys) us):∃a b,us=a++b/\aG J xs a/\aG J ys b:=by
 induction xs generalizing us with
 |nil=>exact⟨[],us,rfl,by simp[aG],h⟩
 |cons x xs ih=>
  simp only[yaa,aG]at h;obtain⟨a,b,rfl,h1,h2⟩:=h;obtain⟨c,d,rfl,h3,h4⟩:=ih h2;exact⟨a++c,d,by simp,by simp only[aG];exact⟨a,c,rfl,h1,h3⟩,h4⟩
theorem kY{J:Sg}{xs:yL Dv}{us:yL yh}{i:Nat}{y:Dv}(h:aG J xs us)(hy:xs[i]? =ab y):
 ∃a b c,us=a++(b++c)/\a.length=Dv.sizes (xs.take i)/\yH J y b/\b.length=y.size/\aG J (xs.take i) a/\aG J (xs.drop (i+1)) c:=by
 have hx:xs=xs.take i++(y::xs.drop (i+1)):=by
  rw[<-(yo.1 hy).2,List.getElem_cons_drop,ybk]
 rw[hx]at h;obtain⟨a,r,rfl,h1,h2⟩:=ZBE h;simp only[aG]at h2;obtain⟨b,c,rfl,h3,h4⟩:=h2;exact⟨a,b,c,rfl,df _ _ h1,h3,XB _ _ h3,h1,h4⟩
theorem jz{J:Sg}:∀{xs:yL Pl}{us:yL yh},aG J (xs.map .p) us↔an J.w J.aV xs us
 |[],us=>by simp[aG,an]
 |x::xs,us=>by
  simp only[yad,aG,an,yH];constructor
  .rintro⟨a,b,rfl,h1,h2⟩;exact⟨a,b,rfl,h1,jz.1 h2⟩
  .rintro⟨a,b,rfl,h1,h2⟩;exact⟨a,b,rfl,h1,jz.2 h2⟩
theorem OT{P:yg}{t:yc}(h:(P.underlying t).isSome=af)(w:yz):(isAgg t).run P w=.ok (Xi P t) w:=by
 cases hu:P.underlying t with
 |none=>simp[hu]at h
 |some d=>
  unfold isAgg Xi;rw[Sem.run_bind,run_underlying hu w];cases d <;> simp[hu]
theorem ZV{P:yg}{t:yc}(h:(P.info? t).isSome=af)(w:yz):(sizeOf t).run P w=.ok (P.cellsOf t) w:=by
 cases hi:P.info? t with
 |none=>simp[hi]at h
 |some i=>simp[sizeOf,typeInfo,hi,Program.cellsOf]
theorem Qx{P:yg}{J:Sg}{t:yc}{d:Dv}{cs:Array yh}{a b c:yL yh}(hcs:cs.toList=a++(b++c))(hr:yH J d b)(hs:P.cellsOf t=d.size)(hi:(P.info? t).isSome=af)
 (hu:(P.underlying t).isSome=af) (ha:Xi P t=d.isAgg) (hn:d.size≠0):∃v,(part t cs a.length).run P J.w=.ok v J.w/\yJ J d v:=by
 have hb:b.length=d.size:=XB _ _ hr;unfold part;simp only[Sem.run_bind,OT hu,Result.andThen_ok]
 cases hagg:d.isAgg with
 |true=>
  rw[ha,hagg];simp only[if_true,Sem.run_bind,ZV hi,Result.andThen_ok,Sem.run_pure];refine⟨_,rfl, ?_⟩;rw[Z2 hagg];refine⟨_,rfl, ?_⟩
  have:(cs.extract a.length (a.length+P.cellsOf t)).toList=b:=by
   rw[Array.toList_extract,hcs,hs, <-hb,List.extract_eq_take_drop];simp
  rw[this]
  exact hr
 |false=>
  rw[ha,hagg];simp only[Bool.false_eq_true,if_false]
  have h1:d.size=1:=by
   cases d with
   |p x=>cases x <;> first|rfl|(simp[Dv.isAgg,Pl.isAgg]at hagg)
   |agg _=>simp[Dv.isAgg]at hagg
   |arr _ _ _=>simp[Dv.isAgg]at hagg
   |_=>rfl
  rw[h1]at hb
  obtain⟨v,rfl⟩:∃v,b=[v]:=by
   match b,hb with
   |[v],_=>exact⟨v,rfl⟩
  have hv:cs[a.length]? =ab v:=by
   rw[<-ybt,hcs];simp
  rw[hv];exact⟨v,rfl,(Ze hagg).2 hr⟩
theorem ZwI{P:yg}{J:Sg}{t:yc}{x d:Dv}{i:Nat}{v:yh}(h:QJ P t x i=ab d)(hr:yJ J x v):
 ∃u,(Instr.field t v i).run P J.w=.ok u J.w/\yJ J d u:=by
 unfold QJ at h;split at h
 .rename_i fs xs hu;split at h
  .rename_i y hy;split at h
   .rename_i hok;cases h;unfold kU at hok;split at hok
    .rename_i f hf;simp only[yi,yT,yE]at hok;obtain⟨⟨⟨⟨⟨h1,h2⟩,h3⟩,h4⟩,h5⟩,h6⟩:=hok;rw[Z2 rfl]at hr;obtain⟨cs,rfl,hr⟩:=hr;simp only[yH,aw]at hr;obtain⟨a,b,c,e,ha,hb,_⟩:=kf hr hy;obtain⟨u,hu1,hu2⟩:=Qx (P:=P) (J:=J) (t:=f.type) (d:=.p y) e (by simpa[yH] using hb) h2 h3 h5 h4 h6;refine⟨u, ?_,hu2⟩;rw[ha, <-h1]at hu1;simp[Instr.field,run_underlying hu,hf,asAgg,hu1]
    .cases hok
   .cases h
  .cases h
 .rename_i fs xs hu;split at h
  .rename_i y hy;split at h
   .rename_i hok;cases h;unfold kU at hok;split at hok
    .rename_i f hf;simp only[yi,yT,yE]at hok;obtain⟨⟨⟨⟨⟨h1,h2⟩,h3⟩,h4⟩,h5⟩,h6⟩:=hok;rw[Z2 rfl]at hr;obtain⟨cs,rfl,hr⟩:=hr;simp only[yH]at hr;obtain⟨a,b,c,e,ha,hb,_⟩:=kY hr hy;obtain⟨u,hu1,hu2⟩:=Qx (P:=P) (J:=J) (t:=f.type) (d:=d) e hb h2 h3 h5 h4 h6;refine⟨u, ?_,hu2⟩;rw[ha, <-h1]at hu1;simp[Instr.field,run_underlying hu,hf,asAgg,hu1]
    .cases hok
   .cases h
  .cases h
 .cases h
theorem Addr.bI(b o n:Nat):(⟨b,o,ae⟩:Addr).add n=⟨b,o+n,ae⟩:=Addr.add_lit b o n
theorem tB{w:yz}{S:Nat->Nat->Prop}{s:Nat}{xs:yL Pl}{us:yL yh}{b o i:Nat}{y:Pl}(hs:aU s xs)(hr:an w S xs us)(hc:X7 w S b o us)(hy:xs[i]? =ab y):
 ∃uy,aw w S y uy/\X7 w S b (o+i*s) uy:=by
 obtain⟨a,uy,c,rfl,ha,hb,_⟩:=kf hr hy;have hi:i < xs.length:=(yo.1 hy).1
 have hl:a.length=i*s:=by
  rw[ha,aL (WV hs i),yae,yay (Nat.le_of_lt hi)]
 refine⟨uy,hb, ?_⟩;have h2:=(X7.append (X7.append hc).2).1
 rwa [hl]at h2
theorem tC{P:yg}{J:Sg}{t:yc}{d:Dv}{b o:Nat}{us:yL yh}(hr:yH J d us)(hc:∀(j:Nat)(u:yh),us[j]? =ab u->J.w.cell? ⟨b,o+j,ae⟩=ab u)(hs:P.cellsOf t=d.size)
 (hi:(P.info? t).isSome=af) (hu:(P.underlying t).isSome=af) (ha:Xi P t=d.isAgg):∃v,(loadVar t ⟨b,o,ae⟩).run P J.w=.ok v J.w/\yJ J d v:=by
 have hb:us.length=d.size:=XB _ _ hr;unfold loadVar;simp only[Sem.run_bind,OT hu,Result.andThen_ok]
 cases hagg:d.isAgg with
 |true=>
  rw[ha,hagg];have hl:=run_loadCells_list (P:=P) J.w ⟨b,o,ae⟩ us (λj u hu=>by rw[Addr.bI];exact hc j u hu);rw[hb, <-hs]at hl;simp only[if_true,Sem.run_bind,ZV hi,Result.andThen_ok,hl,Sem.run_pure]
  exact⟨_,rfl,(Z2 hagg).2 ⟨_,rfl,by simpa using hr⟩⟩
 |false=>
  rw[ha,hagg];simp only[Bool.false_eq_true,if_false]
  have h1:d.size=1:=by
   cases d with
   |p x=>cases x <;> first|rfl|(simp[Dv.isAgg,Pl.isAgg]at hagg)
   |agg _=>simp[Dv.isAgg]at hagg
   |arr _ _ _=>simp[Dv.isAgg]at hagg
   |_=>rfl
  rw[h1]at hb
  obtain⟨v,rfl⟩:∃v,us=[v]:=by
   match us,hb with
   |[v],_=>exact⟨v,rfl⟩
  have:=hc 0 v rfl;simp only[Nat.add_zero]at this;rw[run_load,this];exact⟨v,rfl,(Ze hagg).2 hr⟩
mutual
theorem kg{f:Nat->yO Nat}:∀(d d':Dv),d.rn f=ab d'->d'.size=d.size/\d'.isAgg=d.isAgg
 |.p x,d',h=>by simp only[Dv.rn,yj]at h;subst h;exact⟨rfl,rfl⟩
 |.elem x,d',h=>by simp only[Dv.rn,yj]at h;subst h;exact⟨rfl,rfl⟩
 |.ak id off yQ,d',h=>by simp only[Dv.rn,yp]at h;obtain⟨i,_,rfl⟩:=h;exact⟨rfl,rfl⟩
 |.own id nn s xs,d',h=>by simp only[Dv.rn,yp]at h;obtain⟨i,_,rfl⟩:=h;exact⟨rfl,rfl⟩
 |.view id off yQ s lo n,d',h=>by simp only[Dv.rn,yp]at h;obtain⟨i,_,rfl⟩:=h;exact⟨rfl,rfl⟩
 |.agg xs,d',h=>by
  simp only[Dv.rn,yp]at h;obtain⟨ys,h1,rfl⟩:=h
  exact⟨by simp only[Dv.size];exact fy xs ys h1,rfl⟩
 |.arr n s xs,d',h=>by simp only[Dv.rn,yp]at h;obtain⟨ys,_,rfl⟩:=h;exact⟨rfl,rfl⟩
 |.fn g cap,d',h=>by simp only[Dv.rn,yp]at h;obtain⟨ys,_,rfl⟩:=h;exact⟨rfl,rfl⟩
 |.iface t x,d',h=>by simp only[Dv.rn,yp]at h;obtain⟨ys,_,rfl⟩:=h;exact⟨rfl,rfl⟩
 |.bj xs,d',h=>by simp only[Dv.rn,yp]at h;obtain⟨ys,_,rfl⟩:=h;exact⟨rfl,rfl⟩
 |.mp id,d',h=>by simp only[Dv.rn,yp]at h;obtain⟨ys,_,rfl⟩:=h;exact⟨rfl,rfl⟩
 |.rv id _ _ _ _,d',h=>by simp only[Dv.rn,yp]at h;obtain⟨ys,_,rfl⟩:=h;exact⟨rfl,rfl⟩
 |.aY id _ _ _,d',h=>by simp only[Dv.rn,yp]at h;obtain⟨ys,_,rfl⟩:=h;exact⟨rfl,rfl⟩
 |.ao,d',h=>by simp only[Dv.rn,yj]at h;subst h;exact⟨rfl,rfl⟩
theorem fy{f:Nat->yO Nat}:∀(ds ds':yL Dv),Dv.bz f ds=ab ds'->Dv.sizes ds'=Dv.sizes ds
 |[],ds',h=>by simp only[Dv.bz,yj]at h;subst h;rfl
 |x::r,ds',h=>by
  simp only[Dv.bz]at h;split at h
  .rename_i y ys h1 h2;cases h;simp only[Dv.sizes];rw[(kg x y h1).1,fy r ys h2]
  .cases h
end
theorem ze{f:Nat->yO Nat}:∀{ds ds':yL Dv},Dv.bz f ds=ab ds'->ds'.length=ds.length
 |[],ds',h=>by simp only[Dv.bz,yj]at h;subst h;rfl
 |x::r,ds',h=>by
  simp only[Dv.bz]at h;split at h
  .rename_i y ys h1 h2;cases h;simp[ze h2]
  .cases h
theorem OU{f:Nat->yO Nat}{s:Nat}:∀{ds ds':yL Dv},Dv.bz f ds=ab ds'->(∀x,x∈ds->x.size=s)->∀x,x∈ds'->x.size=s
 |[],ds',h,_=>by simp only[Dv.bz,yj]at h;subst h;intro x hx;cases hx
 |x::r,ds',h,ha=>by
  simp only[Dv.bz]at h;split at h
  .rename_i y ys h1 h2;cases h;intro z hz
   cases hz with
   |head=>rw[(kg x y h1).1];exact ha x (yao ..)
   |tail _ hz=>exact OU h2 (λw hw=>ha w (yas _ hw)) z hz
  .cases h
structure Rn(f:Nat->Option Nat)(J J':Sg):Prop where
 w:J'.w=J.w
 aV:∀(b o:Nat)(v:yh),J.w.cell? ⟨b,o,ae⟩=ab v->J.aV b o->J'.aV b o
 m:∀(id id':Nat),f id=ab id'->∀(a:Option Nat),J.m[id]? =ab a->J'.m[id']? =ab a
 H:∀(id id':Nat),f id=ab id'->∀(e:ax),J.H[id]? =ab e->∃e',J'.H[id']? =ab e'/\e.rn f=ab e'
theorem Rn.cells{f:Nat->yO Nat}{J J':Sg}(h:Rn f J J'):∀(b o:Nat)(v:yh),J.w.cell? ⟨b,o,ae⟩=ab v->J.aV b o->J'.w.cell? ⟨b,o,ae⟩=ab v/\J'.aV b o:=
 λb o v h1 h2=>⟨by rw[h.w];exact h1,h.aV b o v h1 h2⟩
theorem Rn.var{f:Nat->yO Nat}{J J':Sg}(h:Rn f J J'){id id':Nat}(hf:f id=ab id')(hv:∃d st,J.H[id]? =ab (.var d st)):∃d st,J'.H[id']? =ab (.var d st):=by
 obtain⟨d,st,hv⟩:=hv;obtain⟨e',h1,h2⟩:=h.H id id' hf _ hv;simp only[ax.rn,yp]at h2;obtain⟨d',_,rfl⟩:=h2;exact⟨d',st,h1⟩
theorem Rn.map{f:Nat->yO Nat}{J J':Sg}(h:Rn f J J'){id id':Nat}(hf:f id=ab id')(hv:∃t bw,J.H[id]? =ab (.map t bw)):∃t bw,J'.H[id']? =ab (.map t bw):=by
 obtain⟨d,st,hv⟩:=hv;obtain⟨e',h1,h2⟩:=h.H id id' hf _ hv;simp only[ax.rn,yj]at h2;subst h2;exact⟨d,st,h1⟩
theorem Rn.front{f:Nat->yO Nat}{J J':Sg}(h:Rn f J J'){id id' s len c:Nat}{A:yO Addr}(hf:f id=ab id')(hv:cV J id s len A c):cV J' id' s len A c:=by
 obtain⟨e,ys,h1,h2,h3⟩:=hv;obtain⟨e',h4,h5⟩:=h.H id id' hf _ h1;simp only[ax.rn,yj]at h5;subst h5;refine⟨e,ys,h4,h2,λhl=> ?_⟩;rcases h3 hl with⟨h6,h7⟩|⟨b,cur,h6,h7,h8,h9⟩
 .exact .inl ⟨h.m _ _ hf _ h6,h7⟩
 .exact .inr ⟨b,cur,h.m _ _ hf _ h6,h7,by rw[h.w];exact h8,h9⟩
theorem Rn.row{f:Nat->yO Nat}{J J':Sg}(h:Rn f J J'){id id' v s:Nat}{st:Bool}{e:yc}{d:Dv}(hf:f id=ab id')(hv:J.H[id]? =ab (.row v s st e d)):∃d',J'.H[id']? =ab (.row v s st e d'):=by
 obtain⟨e',h1,h2⟩:=h.H id id' hf _ hv;simp only[ax.rn,yp]at h2;obtain⟨d',_,rfl⟩:=h2;exact⟨d',h1⟩
theorem Rn.rowAt{f:Nat->yO Nat}{J J':Sg}(h:Rn f J J'){id id' v s lo c:Nat}{A:yO Addr}(hf:f id=ab id')(hv:rowAt J id v s lo A c):rowAt J' id' v s lo A c:=by
 obtain⟨v',s',st,e,d,h1,h2,h3⟩:=hv;obtain⟨d',h4⟩:=h.row hf h1;refine⟨v',s',st,e,d',h4,h2,λhv=> ?_⟩;obtain⟨h5,h6⟩:=h3 hv;refine⟨h5, ?_⟩;rcases h6 with⟨h7,h8⟩|⟨b,cur,h7,h8,h9⟩
 .exact .inl ⟨h.m _ _ hf _ h7,h8⟩
 .exact .inr ⟨b,cur,h.m _ _ hf _ h7,by rw[h.w];exact h8,h9⟩
theorem Rn.rowIs{f:Nat->yO Nat}{J J':Sg}(h:Rn f J J'){id id' v b o off:Nat}(hf:f id=ab id')(hv:rowIs J id v b o off):rowIs J' id' v b o off:=by
 obtain⟨v',s',st,e,d,h1,h2,h3⟩:=hv;obtain⟨d',h4⟩:=h.row hf h1;exact⟨v',s',st,e,d',h4,h2,λhv=>⟨h.m _ _ hf _ (h3 hv).1,(h3 hv).2⟩⟩
mutual
theorem kh{f:Nat->yO Nat}{J J':Sg}(h:Rn f J J'):∀(d d':Dv)(vs:yL yh),d.rn f=ab d'->yH J d vs->yH J' d' vs
 |.p x,d',vs,hd,hr=>by
  simp only[Dv.rn,yj]at hd;subst hd;simp only[yH]at hr ⊢
  exact Vh h.cells x vs hr
 |.elem x,d',vs,hd,hr=>by
  simp only[Dv.rn,yj]at hd;subst hd;simp only[yH]at hr ⊢;obtain⟨b,o,us,h1,h2,h3⟩:=hr
  exact⟨b,o,us,h1,Vh h.cells x us h2,h3.mono h.cells⟩
 |.ak id off yQ,d',vs,hd,hr=>by
  simp only[Dv.rn,yp]at hd;obtain⟨i,hf,rfl⟩:=hd;simp only[yH]at hr ⊢;obtain⟨b,h1,h2,h3⟩:=hr
  exact⟨b,h.m _ _ hf _ h1,h.var hf h2,h3⟩
 |.own id nn s xs,d',vs,hd,hr=>by
  simp only[Dv.rn,yp]at hd;obtain⟨i,hf,rfl⟩:=hd;simp only[yH]at hr ⊢;obtain⟨h1,A,c,h2,h3,h4,h5,h6,h7,h8⟩:=hr;refine⟨h1,A,c,h2,h3,h4,h5,h6,λhne=> ?_,h.front hf h8⟩;obtain⟨b,o,us,e1,e2,e3⟩:=h7 hne
  exact⟨b,o,us,e1,aC h.cells xs us e2,e3.mono h.cells⟩
 |.view id off yQ s lo n,d',vs,hd,hr=>by
  simp only[Dv.rn,yp]at hd;obtain⟨i,hf,rfl⟩:=hd;simp only[yH]at hr ⊢;obtain⟨b,c,a,h1,h2,h3⟩:=hr
  exact⟨b,c,a,h.m _ _ hf _ h1,h.var hf h2,h3⟩
 |.agg xs,d',vs,hd,hr=>by
  simp only[Dv.rn,yp]at hd;obtain⟨ys,hf,rfl⟩:=hd;simp only[yH]at hr ⊢
  exact eW h xs ys vs hf hr
 |.arr n s xs,d',vs,hd,hr=>by
  simp only[Dv.rn,yp]at hd;obtain⟨ys,hf,rfl⟩:=hd;simp only[yH]at hr ⊢
  exact⟨by rw[ze hf];exact hr.1,OU hf hr.2.1,eW h xs ys vs hf hr.2.2⟩
 |.fn g cap,d',vs,hd,hr=>by
  simp only[Dv.rn,yp]at hd;obtain⟨ys,hf,rfl⟩:=hd;simp only[yH]at hr ⊢;obtain⟨fs,cs,h1,h0,h2⟩:=hr
  exact⟨fs,cs,h1,h0,dC h cap ys _ hf h2⟩
 |.iface t x,d',vs,hd,hr=>by
  simp only[Dv.rn,yp]at hd;obtain⟨y,hf,rfl⟩:=hd;simp only[yH]at hr ⊢;obtain⟨v,h1,h2,h3⟩:=hr;refine⟨v,h1,λha=> ?_,λha=>kh h x y _ hf (h3 (by rw[<-(kg x y hf).2];exact ha))⟩;obtain⟨cs,e1,e2⟩:=h2 (by rw[<-(kg x y hf).2];exact ha)
  exact⟨cs,e1,kh h x y _ hf e2⟩
 |.bj xs,d',vs,hd,hr=>by
  simp only[Dv.rn,yp]at hd;obtain⟨ys,hf,rfl⟩:=hd;simp only[yH]at hr ⊢;obtain⟨cs,h1,h2⟩:=hr
  exact⟨cs,h1,dC h xs ys _ hf h2⟩
 |.mp id,d',vs,hd,hr=>by
  simp only[Dv.rn,yp]at hd;obtain⟨i,hf,rfl⟩:=hd;simp only[yH]at hr ⊢;obtain⟨b,h1,h2,h3⟩:=hr
  exact⟨b,h.m _ _ hf _ h1,h.map hf h2,h3⟩
 |.rv id v s lo n,d',vs,hd,hr=>by
  simp only[Dv.rn,yp]at hd;obtain⟨i,hf,rfl⟩:=hd;simp only[yH]at hr ⊢;obtain⟨A,c,h1,h2,h3,h4,h5,h6⟩:=hr
  exact⟨A,c,h1,h2,h3,h4,h5,h.rowAt hf h6⟩
 |.aY id v off yQ,d',vs,hd,hr=>by
  simp only[Dv.rn,yp]at hd;obtain⟨i,hf,rfl⟩:=hd;simp only[yH]at hr ⊢;obtain⟨b,o,h1,h2⟩:=hr
  exact⟨b,o,h1,h.rowIs hf h2⟩
 |.ao,d',vs,hd,hr=>by
  simp only[Dv.rn,yj]at hd;subst hd;simpa[yH] using hr
theorem eW{f:Nat->yO Nat}{J J':Sg}(h:Rn f J J'):∀(ds ds':yL Dv)(vs:yL yh),Dv.bz f ds=ab ds'->aG J ds vs->aG J' ds' vs
 |[],ds',vs,hd,hr=>by
  simp only[Dv.bz,yj]at hd;subst hd
  simpa[aG] using hr
 |x::xs,ds',vs,hd,hr=>by
  simp only[Dv.bz]at hd;split at hd
  .rename_i y ys h1 h2;cases hd;simp only[aG]at hr ⊢;obtain⟨us,us',h3,h4,h5⟩:=hr;exact⟨us,us',h3,kh h x y us h1 h4,eW h xs ys us' h2 h5⟩
  .cases hd
theorem dC{f:Nat->yO Nat}{J J':Sg}(h:Rn f J J'):∀(ds ds':yL Dv)(vs:yL yh),Dv.bz f ds=ab ds'->aE J ds vs->aE J' ds' vs
 |[],ds',vs,hd,hr=>by
  simp only[Dv.bz,yj]at hd;subst hd
  simpa[aE] using hr
 |x::xs,ds',vs,hd,hr=>by
  simp only[Dv.bz]at hd;split at hd
  .rename_i y ys h1 h2;cases hd;simp only[aE]at hr ⊢;obtain⟨v,vs',h3,⟨h4,h5⟩,h6⟩:=hr;refine⟨v,vs',h3,⟨λha=> ?_,λha=>kh h x y _ h1 (h5 (by rw[<-(kg x y h1).2];exact ha))⟩,dC h xs ys vs' h2 h6⟩;obtain⟨cs,e1,e2⟩:=h4 (by rw[<-(kg x y h1).2];exact ha);exact⟨cs,e1,kh h x y _ h1 e2⟩
  .cases hd
end
theorem mh{f:Nat->yO Nat}{J J':Sg}(h:Rn f J J'){d d':Dv}{v:yh}(hd:d.rn f=ab d')(hr:yJ J d v):yJ J' d' v:=by
 obtain⟨h4,h5⟩:=hr;refine⟨λha=> ?_,λha=>kh h d d' _ hd (h5 (by rw[<-(kg d d' hd).2];exact ha))⟩;obtain⟨cs,e1,e2⟩:=h4 (by rw[<-(kg d d' hd).2];exact ha);exact⟨cs,e1,kh h d d' _ hd e2⟩
theorem Wu{w:yz}{b o:Nat}{v:yh}(h:w.cell? ⟨b,o,ae⟩=ab v):b < w.heap.size:=World.block_lt_of_cell? w ⟨b,o,ae⟩ h
theorem OV{J J':Sg}(h:cD J J'):∀(l:yL (Pl×Pl))(es:yL MapEntry),fN J l es->fN J' l es
 |[],[],_=>trivial
 |[],_::_,k=>k.elim
 |_::_,[],k=>k.elim
 |q::r,e::es,k=>⟨WS h k.1,WS h k.2.1,OV h r es k.2.2⟩
theorem OW{J J':Sg}(h:cD J J'){l:yL (Pl×Pl)}{es:yL MapEntry}(k:gq J l es):gq J' l es:=by
 obtain⟨l',p,nd,k⟩:=k;exact⟨l',p,nd,OV h _ _ k⟩
theorem nT{J J':Sg}(h:cD J J'){a:yO Nat}{e:ax}(hb:∀b,a=ab b->J'.w.heap[b]? =J.w.heap[b]?)(he:dA J a e):dA J' a e:=by
 cases e with
 |var d st=>
  obtain⟨b,cs,t,rfl,h1,h2,h3⟩:=he
  exact⟨b,cs,t,rfl,(hb b rfl).trans h1,ZZ h d _ h2,h3⟩
 |log s e xs=>
  rcases he with⟨rfl,h1⟩|⟨b,cur,cap,rfl,h1,h2,h3,h4,h5,h6⟩
  .exact .inl ⟨rfl,h1⟩
  .exact .inr ⟨b,cur,cap,rfl,(hb b rfl).trans h1,h2,h3,h4,h5,aC h.cells xs _ h6⟩
 |map t bw=>
  obtain⟨b,es,clock,rfl,h1,h2,h3⟩:=he
  exact⟨b,es,clock,rfl,(hb b rfl).trans h1,OW h h2,h3⟩
 |row v s st e d=>
  obtain⟨N,h0,h1⟩:=he;refine⟨N,h0, ?_⟩;rcases h1 with h1|⟨b,cur,cap,rfl,h1,h2,h3,h4,h5⟩
  .exact .inl h1
  .exact .inr ⟨b,cur,cap,rfl,(hb b rfl).trans h1,h2,h3,h4,ZZ h d _ h5⟩
 |gone=>exact he
theorem pN{J:Sg}(ok:Ok J){w':yz}(hg:J.w.grownBy w' ae):To J { J with w:=w'}/\Ok { J with w:=w'}:=by
 have hb:∀b,b < J.w.heap.size->w'.heap[b]? =J.w.heap[b]? :=λb hb=>hg.block b hb (by simp);have hm:∀(id b:Nat),J.m[id]? =ab (ab b)->w'.heap[b]? =J.w.heap[b]? :=λid b h=>hb b (ok.lt id b h)
 have leaf:cD J { J with w:=w'}:=by
  refine⟨λb o v h1 h2=>⟨?_,h2⟩,λid b h1 h2=>⟨h1,h2⟩,λid s len A c h1=> ?_,λid b h1 h2=>⟨h1,h2⟩,λid v s st e d h=>⟨v,st,d,h,ym _,λ_=>⟨rfl,λb cur hb hc=>⟨cur,(hm id b hb).trans hc,rfl⟩⟩⟩⟩
  .show w'.cell? ⟨b,o,ae⟩=ab v;rw[World.cell?_of_block (w:=J.w) (hb b (Wu h1))];exact h1
  .obtain⟨e,ys,h2,h3,h4⟩:=h1;refine⟨e,ys,h2,h3,λhl=> ?_⟩;rcases h4 hl with h5|⟨b,cur,h5,h6,h7,h8⟩
   .exact .inl h5
   .exact .inr ⟨b,cur,h5,h6,(hm id b h5).trans h7,h8⟩
 refine⟨⟨leaf,rfl,rfl,hg.os,hg.tape,hg.output,hg.size,λb h1 _=>hb b h1,λid b h=>.inl h,ym _⟩,⟨ok.len,ok.inj,λi b h=>Nat.lt_of_lt_of_le (ok.lt i b h) hg.size,λi e a h1 h2=> ?_,λb h=>ok.new b (ybx hg.size h),ok.own⟩⟩;exact nT leaf (λb hb=>hm i b (by rw[h2,hb])) (ok.dc i e a h1 h2)
theorem OX{J:Sg}(ok:Ok J){b o:Nat}(h:J.B b)(hn:∀(id:Nat),J.m[id]? ≠ab (ab b)):J.aV b o:=
 ⟨.inr h,λid _ he _=>absurd he (hn id)⟩
def YH(P:yg)(o:Oper)(a:Act)(J:Sg)(d:Dv)(H':yL ax):Prop:=
 ∀(K:Act->yz->Prop)(Q:Exit->Act->yz->Prop),(∀v J',J'.H=H'->To J J'->Ok J'->yJ J' d v->K (a.put o.dst v) J'.w)->o.wp P a J.w K Q
theorem Zh{P:yg}{o:Oper}{a:Act}{J:Sg}{d:Dv}{v:yh}(ok:Ok J)(hr:(execOp a.eval o).run P J.w=.ok (.value v) J.w)(hd:yJ J d v):YH P o a J d J.H:=by
 intro K Q h;unfold Oper.wp;rw[hr];exact h v J rfl (To.refl J) ok hd
theorem ZK{P:yg}{o:Oper}{a:Act}{J J':Sg}{d:Dv}{v:yh}(hr:(execOp a.eval o).run P J.w=.ok (.value v) J'.w)(to:To J J')(ok:Ok J')(hd:yJ J' d v):YH P o a J d J'.H:=by
 intro K Q h;unfold Oper.wp;rw[hr];exact h v J' rfl to ok hd
structure bN(x y:Pl):Prop where
 size:x.size=y.size
 agg:x.isAgg=y.isAgg
 cY:∀(w:yz)(S:Nat->Nat->Prop)(vs:List yh),aw w S x vs->aw w S y vs
structure bq(xs ys:List Pl):Prop where
 len:xs.length=ys.length
 sizes:Pl.sizes xs=Pl.sizes ys
 all:∀s,aU s xs->aU s ys
 cY:∀(w:yz)(S:Nat->Nat->Prop)(vs:List yh),an w S xs vs->an w S ys vs
theorem bN.refl(x:Pl):bN x x:=⟨rfl,rfl,λ_ _ _ h=>h⟩
theorem bq.refl(x:yL Pl):bq x x:=⟨rfl,rfl,λ_ h=>h,λ_ _ _ h=>h⟩
theorem bq.of_eq{x y:yL Pl}(h:x=y):bq x y:=h ▸ bq.refl x
theorem bq.nil:bq [] []:=bq.refl []
theorem bq.cons{x y:Pl}{xs ys:yL Pl}(h:bN x y)(k:bq xs ys):bq (x::xs) (y::ys) where
 len:=by simp[k.len]
 sizes:=by simp only[Pl.sizes];rw[h.size,k.sizes]
 all s ha:=by
  intro z hz;rcases List.mem_cons.1 hz with rfl|hz
  .rw[<-h.size];exact ha x (yao ..)
  .exact k.all s (λz hz=>ha z (yas _ hz)) z hz
 cY w S vs hr:=by
  simp only[an]at hr ⊢;obtain⟨us,us',e,h1,h2⟩:=hr;exact⟨us,us',e,h.cY w S us h1,k.cY w S us' h2⟩
theorem bq.map{α:Type}{f g:α->Pl}(h:∀x,bN (f x) (g x)):∀(l:yL α),bq (l.map f) (l.map g)
 |[]=>bq.nil
 |x::l=>bq.cons (h x) (bq.map h l)
theorem bN.mq{xs ys:yL Pl}(h:bq xs ys):bN (.agg xs) (.agg ys):=⟨h.sizes,rfl,λw S vs hr=>by simp only[aw]at hr ⊢;exact h.cY w S vs hr⟩
theorem bN.iN{n s:Nat}{xs ys:yL Pl}(h:bq xs ys):bN (.arr n s xs) (.arr n s ys):=
 ⟨rfl,rfl,λw S vs hr=>by simp only[aw]at hr ⊢;exact⟨by rw[<-h.len];exact hr.1,h.all s hr.2.1,h.cY w S vs hr.2.2⟩⟩
theorem bN.pO{nn:yO Bool}{s:Nat}{xs ys:yL Pl}(h:bq xs ys):bN (.sl nn s xs) (.sl nn s ys):=⟨rfl,rfl,λw S vs hr=>by
 simp only[aw]at hr ⊢;obtain⟨h1,A,c,rfl,h2,h3,h4,h5,h6⟩:=hr;refine⟨h.all s h1,A,c,by rw[h.len],by rw[<-h.len];exact h2,h3,h4,h5,λhne=> ?_⟩;obtain⟨b,o,us,e,r,k⟩:=h6 (by intro e;subst e;exact hne (ybf h.len.symm));exact⟨b,o,us,e,h.cY _ _ _ r,k⟩⟩
theorem bN.iO{t:yc}{x y:Pl}(h:bN x y):bN (.iface t x) (.iface t y):=⟨rfl,rfl,λw S vs hr=>by
 simp only[aw]at hr ⊢;obtain⟨v,e,h1,h2⟩:=hr;refine⟨v,e,λha=> ?_,λha=>h.cY _ _ _ (h2 (by rw[h.agg];exact ha))⟩;obtain⟨cs,e1,e2⟩:=h1 (by rw[h.agg];exact ha);exact⟨cs,e1,h.cY _ _ _ e2⟩⟩
theorem bN.gJ{nn:yO Bool}{s:Nat}{xs ys:yL Pl}(h:bq xs ys):bN (.sl nn s xs) (.sl ae s ys):=⟨rfl,rfl,λw S vs hr=>by
 simp only[aw]at hr ⊢;obtain⟨h1,A,c,rfl,h2,h3,h4,h5,h6⟩:=hr;refine⟨h.all s h1,A,c,by rw[h.len],by rw[<-h.len];exact h2,h3,Z7 _,h5,λhne=> ?_⟩;obtain⟨b,o,us,e,r,k⟩:=h6 (by intro e;subst e;exact hne (ybf h.len.symm));exact⟨b,o,us,e,h.cY _ _ _ r,k⟩⟩
structure Wk(d e:Dv):Prop where
 size:d.size=e.size
 agg:d.isAgg=e.isAgg
 cY:∀(J:Sg)(vs:List yh),yH J d vs->yH J e vs
theorem Wk.refl(d:Dv):Wk d d:=⟨rfl,rfl,λ_ _ h=>h⟩
theorem Wk.of_eq{x y:Dv}(h:x=y):Wk x y:=h ▸ Wk.refl x
theorem Wk.p{x y:Pl}(h:bN x y):Wk (.p x) (.p y):=⟨h.size,h.agg,λJ vs r=>by simp only[yH]at r ⊢;exact h.cY _ _ _ r⟩
theorem OY{J:Sg}{id s:Nat}{nn mm:yO Bool}{xs ys:yL Pl}{vs:yL yh}(h:bq xs ys)(hn:∀A,io nn A->io mm A)(r:yH J (.own id nn s xs) vs):yH J (.own id mm s ys) vs:=by
 simp only[yH]at r ⊢;obtain⟨h1,A,c,h2,h3,h4,h5,h6,h7,h8⟩:=r;refine⟨h.all s h1,A,c,by rw[<-h.len];exact h2,by rw[<-h.len];exact h3,h4,hn A h5,h6,λhne=> ?_,by rw[<-h.len];exact h8⟩;obtain⟨b,o,us,e,r,k⟩:=h7 (by intro e;subst e;exact hne (ybf h.len.symm));exact⟨b,o,us,e,h.cY _ _ _ r,k⟩
theorem Wk.own{id s:Nat}{nn:yO Bool}{xs ys:yL Pl}(e:xs=ys):Wk (.own id nn s xs) (.own id ae s ys):=
 ⟨rfl,rfl,λJ vs r=>OY (bq.of_eq e) (λ_ _=>Z7 _) r⟩
theorem Wk.mr{id s:Nat}{nn:yO Bool}{xs ys:yL Pl}(e:bq xs ys):Wk (.own id nn s xs) (.own id nn s ys):=
 ⟨rfl,rfl,λJ vs r=>OY e (λ_ h=>h) r⟩
theorem Wk.mv{id s:Nat}{nn:yO Bool}{xs ys:yL Pl}(h:bq xs ys):Wk (.own id nn s xs) (.p (.sl ae s ys)):=by
 refine⟨rfl,rfl,λJ vs r=> ?_⟩;simp only[yH]at r ⊢;obtain⟨h1,A,c,h2,h3,h4,h5,h6,h7,h8⟩:=r;exact(bN.gJ (nn:=nn) h).cY _ _ _ (by simp only[aw];exact⟨h1,A,c,h2,h3,h4,h5,h6,h7⟩)
theorem Wk.ao{d:Dv}(h:d.isAgg=ag)(hs:d.size=1):Wk d .ao:=⟨hs,h,λJ vs r=>by simp only[yH];rw[XB _ _ r,hs]⟩
theorem Wk.dv{d e:Dv}(h:Wk d e){J:Sg}{v:yh}(r:yJ J d v):yJ J e v:=by
 obtain⟨r1,r2⟩:=r;refine⟨λha=> ?_,λha=>h.cY _ _ (r2 (by rw[h.agg];exact ha))⟩;obtain⟨cs,e1,e2⟩:=r1 (by rw[h.agg];exact ha);exact⟨cs,e1,h.cY _ _ e2⟩
inductive cK:List Dv->List Dv->Prop where
 |nil:cK [] []
 |cons {d e:Dv} {ds es:List Dv} (h:Wk d e) (k:cK ds es):cK (d::ds) (e::es)
theorem cK.refl:∀(l:yL Dv),cK l l
 |[]=>.nil
 |d::l=>.cons (Wk.refl d) (cK.refl l)
theorem cK.bj{ds es:yL Dv}(h:cK ds es):Wk (.bj ds) (.bj es):=by
 refine⟨rfl,rfl,λJ vs r=> ?_⟩;simp only[yH]at r ⊢;obtain⟨cs,e,r⟩:=r;refine⟨cs,e, ?_⟩;clear e;generalize cs.toList=l at r
 induction h generalizing l with
 |nil=>exact r
 |cons h k ih=>
  simp only[aE]at r ⊢;obtain⟨v,vs',e1,r1,r2⟩:=r;exact⟨v,vs',e1,h.dv r1,ih _ r2⟩
theorem cK.vs{ds es:yL Dv}(h:cK ds es){J:Sg}:∀{l:yL yh},aE J ds l->aE J es l:=by
 induction h with
 |nil=>intro l r;exact r
 |cons h k ih=>
  intro l r;simp only[aE]at r ⊢;obtain⟨v,vs',e1,r1,r2⟩:=r;exact⟨v,vs',e1,h.dv r1,ih r2⟩
theorem cK.len{ds es:yL Dv}(h:cK ds es):ds.length=es.length:=by
 induction h with
 |nil=>rfl
 |cons _ _ ih=>simp[ih]
theorem cK.get{ds es:yL Dv}(h:cK ds es):∀{i:Nat}{e:Dv},es[i]? =ab e->∃d,ds[i]? =ab d/\Wk d e:=by
 induction h with
 |nil=>intro i e h;simp at h
 |cons h k ih=>
  intro i e hi
  cases i with
  |zero=>simp only[ybb,yj]at hi ⊢;subst hi;exact⟨_,rfl,h⟩
  |succ j=>simp only[yat]at hi ⊢;exact ih hi
theorem cK.pP{ds es:yL Dv}(h:cK ds es){J:Sg}{a:Act}(r:aD J ds a):aD J es a:=by
 refine⟨by rw[<-h.len];exact r.size,λi e he=> ?_,r.defers⟩;obtain⟨d,hd,hw⟩:=h.get he;exact hw.dv (r.at_ i d hd)
theorem cK.agg{ds es:yL Dv}(h:cK ds es):Wk (.agg ds) (.agg es):=by
 have hs:Dv.sizes ds=Dv.sizes es:=by
  induction h with
  |nil=>rfl
  |cons h k ih=>simp only[Dv.sizes];rw[h.size,ih]
 refine⟨hs,rfl,λJ vs r=> ?_⟩;simp only[yH]at r ⊢;clear hs
 induction h generalizing vs with
 |nil=>exact r
 |cons h k ih=>
  simp only[aG]at r ⊢;obtain⟨us,us',e,r1,r2⟩:=r;exact⟨us,us',e,h.cY _ _ r1,ih _ r2⟩
inductive dW:List (Pl×Pl)->List (Pl×Pl)->Prop where
 |nil:dW [] []
 |cons {k v v':Pl} {l m:List (Pl×Pl)} (h:bN v v') (r:dW l m):dW ((k,v)::l) ((k,v')::m)
theorem dW.cY{J:Sg}{l m:yL (Pl×Pl)}(h:dW l m):∀(es:yL MapEntry),fN J l es->fN J m es:=by
 induction h with
 |nil=>intro es h;exact h
 |cons h r ih=>
  intro es k
  cases es with
  |nil=>exact k
  |cons e es=>exact⟨k.1,(Wk.p h).dv k.2.1,ih es k.2.2⟩
theorem dW.keys{l m:yL (Pl×Pl)}(h:dW l m):m.map (·.1)=l.map (·.1):=by
 induction h with
 |nil=>rfl
 |cons h r ih=>rw[yad,yad,ih]
theorem dW.perm{l l':yL (Pl×Pl)}(p:l.Perm l'):∀{m:yL (Pl×Pl)},dW l m->∃m',m.Perm m'/\dW l' m':=by
 induction p with
 |nil=>intro m h;exact⟨m,.refl _,h⟩
 |cons x p ih=>
  intro m h
  cases h with
  |cons h r=>
   obtain⟨m',q1,q2⟩:=ih r
   exact⟨_,q1.cons _,.cons h q2⟩
 |swap x y l=>
  intro m h
  cases h with
  |cons h r=>
   cases r with
   |cons h2 r=>exact⟨_,.swap _ _ _,.cons h2 (.cons h r)⟩
 |trans p q ih1 ih2=>
  intro m h;obtain⟨m1,a1,a2⟩:=ih1 h;obtain⟨m2,b1,b2⟩:=ih2 a2;exact⟨m2,a1.trans b1,b2⟩
theorem dW.any{J:Sg}{l m:yL (Pl×Pl)}(h:dW l m){es:yL MapEntry}(k:gq J l es):gq J m es:=by
 obtain⟨l',p,nd,r⟩:=k;obtain⟨m',q1,q2⟩:=dW.perm p.symm h;exact⟨m',q1.symm,by rw[h.keys];exact nd,q2.cY _ r⟩
inductive dX:ax->ax->Prop where
 |refl (e:ax):dX e e
 |var {d d':Dv} {st:Bool} (h:Wk d d'):dX (.var d st) (.var d' st)
 |log {s:Nat} {e:yc} {xs ys:List Pl} (h:bq xs ys):dX (.log s e xs) (.log s e ys)
 |map {t:yc} {l m:List (Pl×Pl)} (h:dW l m):dX (.map t l) (.map t m)
 |perm {t:yc} {l m:List (Pl×Pl)} (h:l.Perm m):dX (.map t l) (.map t m)
 |row {v s:Nat} {st:Bool} {e:yc} {d d':Dv} (h:Wk d d'/\aO d s=aO d' s):dX (.row v s st e d) (.row v s st e d')
 |lock {v s:Nat} {st:Bool} {e:yc} {d:Dv}:dX (.row v s st e d) (.row v s ag e d)
 |cW {d:Dv} {st:Bool}:dX (.var d st) (.var d ag)
 |ki {d d':Dv} {st:Bool} (h:Wk d d'):dX (.var d st) (.var d' ag)
 |shr {v s n N:Nat} {e:yc} {xs:List Pl} (h:n<=N):dX (.row v s af e (.p (.arr N s xs))) (.row v s af e (.p (.arr n s (xs.take n))))
inductive ct:List ax->List ax->Prop where
 |nil:ct [] []
 |cons {e f:ax} {es fs:List ax} (h:dX e f) (k:ct es fs):ct (e::es) (f::fs)
theorem ct.refl:∀(l:yL ax),ct l l
 |[]=>.nil
 |d::l=>.cons (.refl d) (ct.refl l)
theorem ct.len{ds es:yL ax}(h:ct ds es):ds.length=es.length:=by
 induction h with
 |nil=>rfl
 |cons _ _ ih=>simp[ih]
theorem ct.get{ds es:yL ax}(h:ct ds es):∀{i:Nat}{d:ax},ds[i]? =ab d->∃e,es[i]? =ab e/\dX d e:=by
 induction h with
 |nil=>intro i e h;simp at h
 |cons h k ih=>
  intro i e hi
  cases i with
  |zero=>simp only[ybb,yj]at hi ⊢;subst hi;exact⟨_,rfl,h⟩
  |succ j=>simp only[yat]at hi ⊢;exact ih hi
theorem ct.back{ds es:yL ax}(h:ct ds es):∀{i:Nat}{e:ax},es[i]? =ab e->∃d,ds[i]? =ab d/\dX d e:=by
 induction h with
 |nil=>intro i e h;simp at h
 |cons h k ih=>
  intro i e hi
  cases i with
  |zero=>simp only[ybb,yj]at hi ⊢;subst hi;exact⟨_,rfl,h⟩
  |succ j=>simp only[yat]at hi ⊢;exact ih hi
theorem dX.bv{e f:ax}(h:dX e f)(o:Nat)(k:e.bv o):f.bv o:=by
 cases h with
 |log h=>simpa only[ax.bv,h.len] using k
 |lock=>exact⟨rfl,k.2⟩
 |row h=>exact⟨k.1,by rw[<-h.2];exact k.2⟩
 |shr _=>exact absurd k.1 (by simp)
 |cW=>rfl
 |ki _=>rfl
 |_=>exact k
theorem OZ{w:yz}{S:Nat->Nat->Prop}{s:Nat}:∀{xs:yL Pl}{vs:yL yh},(∀x,x∈xs->x.size=s)->an w S xs vs->∀(n:Nat),n<=xs.length->an w S (xs.take n) (vs.take (n*s))
 |[],vs,_,h,n,hn=>by
  have:n=0:=by simpa using hn
  subst this;simp only[an]at h;subst h
  simp[an]
 |x::r,vs,hs,h,0,_=>by simp[an]
 |x::r,vs,hs,h,n+1,hn=>by
  simp only[an]at h;obtain⟨us,us',rfl,h1,h2⟩:=h;have hl:us.length=s:=by rw[XT _ _ h1];exact hs x (yao ..)
  simp only[List.take_succ_cons,an];refine⟨us,us'.take (n*s), ?_,h1,OZ (λy hy=>hs y (yas _ hy)) h2 n (by simpa using hn)⟩;rw[List.take_append,hl,yav,Nat.one_mul,ycr (by omega)];congr 2;omega
theorem ct.dR:∀{l:yL ax}{i:Nat}{e f:ax},l[i]? =ab e->dX e f->ct l (l.set i f)
 |[],_,_,_,h,_=>by simp at h
 |x::l,0,e,f,h,k=>by
  simp only[ybb,yj]at h;subst h
  exact .cons k (ct.refl l)
 |x::l,i+1,e,f,h,k=>by
  simp only[yat]at h;exact .cons (.refl x) (ct.dR h k)
theorem jA{J:Sg}(ok:Ok J){H':yL ax}(h:ct J.H H'):To J { J with H:=H'}/\Ok { J with H:=H'}:=by
 have aV:∀b o,J.aV b o->({ J with H:=H'}:Sg).aV b o:=λb o hs=>⟨hs.1,λid e h1 h2=>by
  obtain⟨d,h3,h4⟩:=h.back h2;exact h4.bv o (hs.2 id d h1 h3)⟩
 have leaf:cD J { J with H:=H'}:=by
  refine⟨λb o v h1 h2=>⟨h1,aV b o h2⟩,λid b h1 h2=>⟨h1, ?_⟩,λid s len A c h1=> ?_,λid b h1 h2=>⟨h1, ?_⟩,λid v s st e d h1=> ?_⟩
  .obtain⟨d,st,h2⟩:=h2;obtain⟨e,h3,h4⟩:=h.get h2
   cases h4 with
   |refl=>exact⟨d,st,h3⟩
   |var h5=>exact⟨_,_,h3⟩
   |cW=>exact⟨_,_,h3⟩
   |ki _=>exact⟨_,_,h3⟩
  .obtain⟨e,ys,h2,h3⟩:=h1;obtain⟨e',h4,h5⟩:=h.get h2
   cases h5 with
   |refl=>exact⟨e,ys,h4,h3⟩
   |log h6=>exact⟨_,_,h4,by rw[<-h6.len];exact h3⟩
  .obtain⟨t,bw,h2⟩:=h2;obtain⟨e',h4,h5⟩:=h.get h2
   cases h5 with
   |refl=>exact⟨t,bw,h4⟩
   |map h6=>exact⟨_,_,h4⟩
   |perm h6=>exact⟨_,_,h4⟩
  .obtain⟨e',h4,h5⟩:=h.get h1
   cases h5 with
   |refl=>exact⟨v,st,d,h4,ym _,λ_=>⟨rfl,λb cur _ hc=>⟨cur,hc,rfl⟩⟩⟩
   |row h6=>exact⟨v,st,_,h4,ym _,λ_=>⟨rfl,λb cur _ hc=>⟨cur,hc,rfl⟩⟩⟩
   |shr _=>exact⟨v,af,_,h4,ym _,λ_=>⟨rfl,λb cur _ hc=>⟨cur,hc,rfl⟩⟩⟩
   |lock=>exact⟨v,ag,_,h4,ym _,λ_=>⟨rfl,λb cur _ hc=>⟨cur,hc,rfl⟩⟩⟩
 refine⟨⟨leaf,rfl,rfl,rfl,rfl,rfl,ym _,λ_ _ _=>rfl,λ_ _ h=>.inl h,ym _⟩,⟨by show J.m.length=H'.length;rw[ok.len,h.len],ok.inj,ok.lt,λi e a h1 h2=> ?_,ok.new,ok.own⟩⟩;obtain⟨d,h3,h4⟩:=h.back h1;have hd:=nT leaf (λb _=>rfl) (ok.dc i d a h3 h2)
 cases h4 with
 |refl=>exact hd
 |var h5=>
  obtain⟨b,cs,t,e1,e2,e3,e4⟩:=hd
  exact⟨b,cs,t,e1,e2,by rw[<-h5.size];exact h5.cY _ _ e3,by rw[<-h5.size];exact e4⟩
 |log h5=>
  rcases hd with⟨e1,e2⟩|⟨b,cur,cap,e1,e2,e3,e4,e5,e6,e7⟩
  .subst e2;exact .inl ⟨e1,ybf h5.len.symm⟩
  .exact .inr ⟨b,cur,cap,e1,e2,e3,by rw[<-h5.len];exact e4,e5,h5.all _ e6,by rw[<-h5.len];exact h5.cY _ _ _ e7⟩
 |map h5=>
  obtain⟨b,es,clock,e1,e2,e3,e4⟩:=hd
  exact⟨b,es,clock,e1,e2,h5.any e3,e4⟩
 |perm h5=>
  obtain⟨b,es,clock,e1,e2,⟨l',p,nd,r⟩,e4⟩:=hd
  exact⟨b,es,clock,e1,e2,⟨l',p.trans h5,(h5.map _).nodup_iff.1 nd,r⟩,e4⟩
 |row h5=>
  obtain⟨N,e1,e2⟩:=hd;refine⟨N,by rw[<-h5.2];exact e1, ?_⟩;rcases e2 with e2|⟨b,cur,cap,e3,e4,e5,e6,e7,e8⟩
  .exact .inl e2
  .exact .inr ⟨b,cur,cap,e3,e4,e5,e6,e7,h5.1.cY _ _ e8⟩
 |lock=>exact hd
 |cW=>exact hd
 |ki h5=>
  obtain⟨b,cs,t,e1,e2,e3,e4⟩:=hd
  exact⟨b,cs,t,e1,e2,by rw[<-h5.size];exact h5.cY _ _ e3,by rw[<-h5.size];exact e4⟩
 |shr h5=>
  obtain⟨N0,e1,e2⟩:=hd;simp only[aO,yW,yj]at e1;subst e1;refine⟨_,yW rfl, ?_⟩;rcases e2 with⟨e2,e3⟩|⟨b,cur,cap,e3,e4,e5,e6,e7,e8⟩
  .exact .inl ⟨e2,by omega⟩
  .refine .inr ⟨b,cur,cap,e3,e4,e5,by omega,e7, ?_⟩;simp only[yH,aw]at e8 ⊢;obtain⟨q1,q2,q3⟩:=e8;refine⟨by rw[yae];omega,λx hx=>q2 x (ybv hx), ?_⟩;have:=OZ q2 q3 _ (show _<=_ from by rw[q1];exact h5)
   rw[List.take_take,yay (ycg _ h5)]at this;exact this
theorem Pl.cy:∀(xs:yL Pl),Pl.cH xs=xs.map Pl.soft
 |[]=>rfl
 |x::r=>by rw[Pl.cH,Pl.cy r];rfl
mutual
theorem kZ:∀(x:Pl),bN x x.soft
 |.int _ _=>bN.refl _
 |.bool _=>bN.refl _
 |.str _=>bN.refl _
 |.bf=>bN.refl _
 |.fn0=>bN.refl _
 |.dN=>bN.refl _
 |.ci=>bN.refl _
 |.fQ _=>bN.refl _
 |.agg xs=>by rw[Pl.soft];exact bN.mq (cA xs)
 |.arr n s xs=>by rw[Pl.soft];exact bN.iN (cA xs)
 |.sl nn s xs=>by rw[Pl.soft];exact bN.gJ (bq.refl _)
 |.iface t x=>by rw[Pl.soft];exact bN.iO (kZ x)
theorem cA:∀(xs:yL Pl),bq xs (Pl.cH xs)
 |[]=>bq.nil
 |x::r=>by rw[Pl.cH];exact bq.cons (kZ x) (cA r)
end
theorem zf(x:Pl):x.soft.size=x.size:=(kZ x).size.symm
theorem ct.append{a b c d:yL ax}(h:ct a b)(k:ct c d):ct (a++c) (b++d):=by
 induction h with
 |nil=>exact k
 |cons h _ ih=>exact .cons h ih
theorem ct.bB{e f:ax}:∀(l:yL ax)(i:Nat),dX e f->ct (l.set i e) (l.set i f)
 |[],_,_=>.nil
 |x::l,0,h=>.cons h (ct.refl l)
 |x::l,i+1,h=>.cons (.refl x) (ct.bB l i h)
theorem bq.bB{x y:Pl}(h:bN x y):∀(l:yL Pl)(i:Nat),bq (l.set i x) (l.set i y)
 |[],_=>.nil
 |z::l,0=>.cons h (bq.refl l)
 |z::l,i+1=>.cons (bN.refl z) (bq.bB h l i)
theorem tD{P:yg}{o:Oper}{a:Act}{J:Sg}{d d':Dv}{H1 H2:yL ax}(h:YH P o a J d H1)(hd:Wk d d')(hH:ct H1 H2):YH P o a J d' H2:=by
 intro K Q hK;refine h K Q λv J1 e1 to1 ok1 hd'=> ?_;obtain⟨to,ok2⟩:=jA ok1 (H':=H2) (by rw[e1];exact hH);exact hK v { J1 with H:=H2} rfl (to1.trans to) ok2 (hd.dv (WS to.leaf hd'))
theorem zg{J:Sg}:∀{ds:yL Dv}{vs:yL yh},aE J ds vs->vs.length=ds.length
 |[],vs,h=>by simp only[aE]at h;subst h;rfl
 |d::ds,vs,h=>by
  simp only[aE]at h;obtain⟨v,vs',rfl,_,h2⟩:=h;simp[zg h2]
theorem zh{J:Sg}:∀{ds:yL Dv}{vs:yL yh}{i:Nat}{d:Dv},aE J ds vs->ds[i]? =ab d->∃v,vs[i]? =ab v/\yJ J d v
 |[],vs,i,d,_,hd=>by simp at hd
 |x::ds,vs,i,d,h,hd=>by
  simp only[aE]at h;obtain⟨v,vs',rfl,h1,h2⟩:=h
  cases i with
  |zero=>
   simp only[ybb,yj]at hd;subst hd
   exact⟨v,rfl,h1⟩
  |succ i=>
   simp only[yat]at hd ⊢;exact zh h2 hd
theorem Wi{J:Sg}:∀{ds es:yL Dv}{vs us:yL yh},aE J ds vs->aE J es us->aE J (ds++es) (vs++us)
 |[],es,vs,us,h,k=>by simp only[aE]at h;subst h;simpa using k
 |d::ds,es,vs,us,h,k=>by
  simp only[aE]at h;obtain⟨v,vs',rfl,h1,h2⟩:=h;simp only[yaa,aE];exact⟨v,vs'++us,rfl,h1,Wi h2 k⟩
theorem zi{J:Sg}{α:Type}(f:α->Dv)(g:α->yh)(h:∀x,yJ J (f x) (g x)):∀(l:yL α),aE J (l.map f) (l.map g)
 |[]=>by simp[aE]
 |x::l=>by
  simp only[yad,aE];exact⟨g x,l.map g,rfl,h x,zi f g h l⟩
theorem tE{w:yz}{S:Nat->Nat->Prop}{s:Nat}{xs:yL Pl}{A:yO Addr}{c l h:Nat}(hs:aU s xs)(hn:xs.length<=c)(hcm:c<=maxLen)(hnil:A=ae->c=0)
 (hr:xs≠[]->∃b o us,A=ab ⟨b,o,ae⟩/\an w S xs us/\X7 w S b o us) (h1:l<=h) (h2:h<=xs.length):
 aU s ((xs.take h).drop l)/\((xs.take h).drop l).length=h - l/\h - l<=c - l/\c - l<=maxLen/\(if c=l then A else A.map (·.add (l*s))).isSome=A.isSome/\
  ((if c=l then A else A.map (·.add (l*s)))=ae->c - l=0)/\
  ((xs.take h).drop l≠[]->∃b o us,(if c=l then A else A.map (·.add (l*s)))=ab ⟨b,o,ae⟩/\an w S ((xs.take h).drop l) us/\X7 w S b o us):=by
 have zW:((xs.take h).drop l).length=h - l:=by rw[ybq,yae,yay h2]
 refine⟨tz (WV hs _) _,zW,by omega,by omega, ?_, ?_,λhne=> ?_⟩
 .split
  .rfl
  .simp
 .split
  .omega
  .intro hA;have hA':A=ae:=by simpa using hA
   have:=hnil hA';omega
 .have hlt:l < h:=by
   rcases ybr l h with h3|h3
   .exact h3
   .exact absurd (ybf (by rw[zW];omega)) hne
  have hxs:xs≠[]:=by
   rintro rfl;simp at h2;omega
  obtain⟨b,o,us,rfl,h3,h4⟩:=hr hxs;have hc:¬c=l:=by omega
  rw[yX hc]
  have e:xs=xs.take l++((xs.take h).drop l++xs.drop h):=by
   have e1:(xs.take h).drop l++xs.drop h=xs.drop l:=by
    have:xs.drop l=(xs.take h++xs.drop h).drop l:=by rw[ybk]
    rw[this,List.drop_append_of_le_length (by rw[yae];omega)]
   rw[e1,ybk]
  rw[e]at h3;obtain⟨u1,u2,rfl,h5,h6⟩:=Z9 h3;obtain⟨u3,u4,rfl,h7,h8⟩:=Z9 h6
  have hl1:u1.length=l*s:=by
   rw[aK _ _ h5,aL (WV hs _),yae,yay (by omega)]
  refine⟨b,o+l*s,u3,by simp[Addr.bI],h7, ?_⟩;have:=(X7.append (X7.append h4).2).1
  rwa [hl1]at this
theorem QS{P:yg}{w:yz}(isSlice:Bool)(len cap:Nat)(lo hi:yO yh)(l h:yO Int)(hl:lo=ae/\l=ae\/∃k i,lo=ab (.int k i)/\l=ab i)
 (hh:hi=ae/\h=ae\/∃k i,hi=ab (.int k i)/\h=ab i) (hc:bc (YT len l h)) (zW:len<=cap):
 ∃a b,(Instr.sliceBounds isSlice len cap lo hi ae).run P w=.ok (a,b,cap) w/\a<=b/\b<=len/\a=(l.getD 0).toNat/\b=(h.getD (len:Int)).toNat:=by
 rcases hl with⟨rfl,rfl⟩|⟨k,i,rfl,rfl⟩ <;> rcases hh with⟨rfl,rfl⟩|⟨k',i',rfl,rfl⟩
 .exact⟨0,len,by simp[Instr.sliceBounds],Nat.zero_le _,ym _,rfl,by simp⟩
 .obtain⟨h1,h2,_⟩:=hc;refine⟨0,i'.toNat, ?_,Nat.zero_le _,by omega,rfl,rfl⟩;have hb:0<=i'/\i'<=(cap:Int):=⟨h1,by omega⟩;simp[Instr.sliceBounds,Instr.sliceBound,asIntOf,hb]
 .obtain⟨h1,h2,_⟩:=hc;refine⟨i.toNat,len, ?_,by omega,ym _,rfl,by simp⟩;have hb:0<=i/\i<=(len:Int):=⟨h1,h2⟩;simp[Instr.sliceBounds,Instr.sliceBound,asIntOf,hb]
 .obtain⟨h1,h2,h3,_⟩:=hc;refine⟨i.toNat,i'.toNat, ?_,by omega,by omega,rfl,rfl⟩;have hb:0<=i'/\i'<=(cap:Int):=⟨by omega,by omega⟩;have hb':0<=i/\i<=(i'.toNat:Int):=⟨h1,by omega⟩;have hb2:i<=max i' 0:=by omega
  simp[Instr.sliceBounds,Instr.sliceBound,asIntOf,hb,h1,hb2]
theorem tF{α:Type}(xs:yL α)(l h:yO Int)(hc:bc (YT xs.length l h)):WU xs l h=(xs.take ((h.getD (xs.length:Int)).toNat)).drop ((l.getD 0).toNat):=by
 cases l <;> cases h <;> simp[WU]
theorem Yz{P:yg}{J:Sg}{ts:yL Dv}{a:Act}(yM:aD J ts a){x:yO yn}{l:yO Int}(h:fT P ts x=ab l):
 x.map a.eval=ae/\l=ae\/∃k i,x.map a.eval=ab (.int k i)/\l=ab i:=by
 unfold fT at h;split at h
 .cases h;exact .inl ⟨rfl,rfl⟩
 .rename_i y;split at h
  .rename_i k i hy;cases h;have:=Zj (P:=P) yM 0 y;rw[hy]at this;exact .inr ⟨k,i,by simp[ZI this],rfl⟩
  .cases h
end Go.Ev
end
section
namespace Go.Ev
section
variable{P:yg}{o:Oper}{a:Act}{J:Sg}{ts:yL Dv}{hs hs':yL al}{C:yL Prop}{d:Dv}
theorem PA{e:yc}{t:yc}{s:Nat}{xs:yL Pl}{A:yO Addr}{c:Nat}{k:IntKind}{i:Int}{y:Pl}(ok:Ok J)(hu:P.underlying t=ab (.slice e))(he:P.cellsOf e=s)
 (hi:(P.info? e).isSome=af) (hs:aU s xs) (hr:xs≠[]->∃b o us,A=ab ⟨b,o,ae⟩/\an J.w J.aV xs us/\X7 J.w J.aV b o us) (h0:0<=i) (hy:xs[i.toNat]? =ab y):
 ∃v,(Instr.indexAt t (.slice A xs.length c) (.int k i)).run P J.w=.ok v J.w/\yJ J (.elem y) v:=by
 have hlt:i.toNat < xs.length:=(yo.1 hy).1
 have hne:xs≠[]:=by
  rintro rfl;simp at hlt
 obtain⟨b,o,us,rfl,h1,h2⟩:=hr hne;obtain⟨uy,h3,h4⟩:=tB hs h1 h2 hy;refine⟨.pointer (ab ⟨b,o+i.toNat*s,ae⟩), ?_, ?_⟩
 .have hb:0<=i/\i < (xs.length:Int):=⟨h0,by omega⟩;simp[Instr.indexAt,asIntOf,run_underlying hu,hb,ZV hi,he,Addr.bI]
 .rw[Ze (by rfl)];simp only[yH];exact⟨b,_,uy,rfl,h3,h4⟩
theorem pQ{y:Pl}{v:yh}(h:yJ J (.elem y) v):∃b o us,v=.pointer (ab ⟨b,o,ae⟩)/\aw J.w J.aV y us/\X7 J.w J.aV b o us:=by
 rw[Ze (by rfl)]at h;simpa[yH] using h
theorem la{id off:Nat}{yQ:yL Nat}{v:yh}(h:yJ J (.ak id off yQ) v):
 ∃b,J.m[id]? =ab (ab b)/\(∃d st,J.H[id]? =ab (.var d st))/\v=.pointer (ab ⟨b,off,ae⟩):=by
 rw[Ze (by rfl)]at h;simpa[yH] using h
theorem mw{id off s lo n:Nat}{yQ:yL Nat}{v:yh}(h:yJ J (.view id off yQ s lo n) v):
 ∃b c a,J.m[id]? =ab (ab b)/\(∃d st,J.H[id]? =ab (.var d st))/\v=.slice (ab a) n c/\n<=c/\c<=maxLen/\(0 < n->a=⟨b,off+lo*s,ae⟩):=by
 rw[Ze (by rfl)]at h;simpa[yH] using h
theorem jB{id v s lo n:Nat}{u:yh}(h:yJ J (.rv id v s lo n) u):
 ∃A c,u=.slice A n c/\n<=c/\c<=maxLen/\(A=ae->c=0)/\(0 < n->∃b o,A=ab ⟨b,o,ae⟩)/\rowAt J id v s lo A c:=by
 rw[Ze (by rfl)]at h;simpa[yH] using h
theorem tG{id v off:Nat}{yQ:yL Nat}{u:yh}(h:yJ J (.aY id v off yQ) u):∃b o,u=.pointer (ab ⟨b,o,ae⟩)/\rowIs J id v b o off:=by
 rw[Ze (by rfl)]at h;simpa[yH] using h
theorem zj{id v off b o:Nat}{yQ:yL Nat}(h:rowIs J id v b o off):yJ J (.aY id v off yQ) (.pointer (ab ⟨b,o,ae⟩)):=by
 rw[Ze (by rfl)];simp only[yH];exact⟨b,o,rfl,h⟩
theorem zk{id v b o off k:Nat}(h:rowIs J id v b o off):rowIs J id v b (o+k) (off+k):=by
 obtain⟨v',s,st,e,d,h1,h2,h3⟩:=h;exact⟨v',s,st,e,d,h1,h2,λhv=>⟨(h3 hv).1,by rw[(h3 hv).2]⟩⟩
theorem ZIJ{id v s lo c b o:Nat}(h:rowAt J id v s lo (ab ⟨b,o,ae⟩) c)(hc:0 < c):rowIs J id v b o (lo*s):=by
 obtain⟨v',s',st,e,d,h1,h2,h3⟩:=h;refine⟨v',s',st,e,d,h1,h2,λhv=> ?_⟩;obtain⟨_,h5⟩:=h3 hv;rcases h5 with⟨_,h6,_⟩|⟨b',cur,h6,h7,h8,h9⟩
 .cases h6
 .have:=h9 hc;cases this;exact⟨h6,rfl⟩
theorem PB{id v s lo c l:Nat}{A:yO Addr}(h:rowAt J id v s lo A c)(hl:l<=c):rowAt J id v s (lo+l) (if c=l then A else A.map (·.add (l*s))) (c - l):=by
 obtain⟨v',s',st,e,d,h1,h2,h3⟩:=h;refine⟨v',s',st,e,d,h1,h2,λhv=> ?_⟩;obtain⟨h4,h5⟩:=h3 hv;refine⟨h4, ?_⟩;rcases h5 with⟨h6,rfl,h7⟩|⟨b,cur,h6,h7,h8,h9⟩
 .exact .inl ⟨h6,by simp,by omega⟩
 .refine .inr ⟨b,cur,h6,h7,by rw[h8];congr 1;omega,λhc=> ?_⟩;rw[yX (by omega),h9 (by omega)];simp[Addr.bI,yav]
theorem PC{id v s lo n c l h:Nat}{A:yO Addr}(h2:n<=c)(h3:c<=maxLen)(h4:A=ae->c=0)(h5:0 < c->∃b o,A=ab ⟨b,o,ae⟩)(h6:rowAt J id v s lo A c)(hl:l<=h)(hh:h<=c):
 yJ J (.rv id v s (lo+l) (h - l)) (.slice (if c=l then A else A.map (·.add (l*s))) (h - l) (c - l)):=by
 rw[Ze (by rfl)];simp only[yH];refine⟨_,_,rfl,by omega,by omega,λhA=> ?_,λhp=> ?_,PB h6 (by omega)⟩
 .split at hA
  .omega
  .have hA':A=ae:=by simpa using hA
   have:=h4 hA';omega
 .obtain⟨b,o,rfl⟩:=h5 (by omega);rw[yX (by omega)];exact⟨b,o+l*s,by simp[Addr.bI]⟩
theorem pR{f:yu}{cap:yL Dv}{v:yh}(h:yJ J (.fn f cap) v):∃fs cs,v=.func (.func (eA f)) fs cs/\(if f < big then fs else cs)= #[]/\aE J cap (fs++cs).toList:=by
 rw[Ze (by rfl)]at h;simpa[yH] using h
theorem ZOc{f:yu}{cap:yL Dv}{v:yh}(hf:f < big)(h:yJ J (.fn f cap) v):∃cs,v=.func (.func f) #[] cs/\aE J cap cs.toList:=by
 obtain⟨fs,cs,h1,h2,h3⟩:=pR h;rw[yW hf]at h2;subst h2;unfold eA at h1;rw[yW hf]at h1;rw[Array.empty_append]at h3;exact⟨cs,h1,h3⟩
theorem ZBG{t:yc}{x ix:yn}(ok:Ok J)(yM:aD J ts a)(ho:o.op=.indexAddr t x ix)(h:aX P o ts hs=ab (C,d,hs'))(hc:bc C):YH P o a J d J.H:=by
 simp only[aX,ho]at h;have hx:=Zj (P:=P) yM t x;have hix:=Zj (P:=P) yM 0 ix
 have run:∀v,(Instr.indexAt t (a.eval x) (a.eval ix)).run P J.w=.ok v J.w->(execOp a.eval o).run P J.w=.ok (.value v) J.w:=λv hv=>by
  simp[execOp,ho,hv]
 split at h
 .rename_i e nn s xs k i hu hdx hdi;rw[hdx]at hx;rw[hdi]at hix;split at h
  .rename_i y hs'';split at h
   .rename_i hk;simp only[yi,yP]at hk;simp only[yj,yl]at h;obtain⟨rfl,rfl,rfl⟩:=h;obtain⟨h1,A,c,hv,h2,h3,h4,h5,h6⟩:=XL hx;obtain⟨v,h7,h8⟩:=PA (k:=k) (c:=c) ok hu hk.1 hk.2 h1 h6 hc.1 hc.2.1;exact Zh ok (run v (by rw[hv,ZI hix];exact h7)) h8
   .cases h
  .cases h
 .rename_i e id nn s xs k i hu hdx hdi;rw[hdx]at hx;rw[hdi]at hix;split at h
  .rename_i y hs'';split at h
   .rename_i hk;simp only[yi,yP]at hk;simp only[yj,yl]at h;obtain⟨rfl,rfl,rfl⟩:=h;obtain⟨h1,A,c,hv,h2,h3,h4,h5,h6,_⟩:=Q8 hx;obtain⟨v,h7,h8⟩:=PA (k:=k) (c:=c) ok hu hk.1 hk.2 h1 h6 hc.1 hc.2.1;exact Zh ok (run v (by rw[hv,ZI hix];exact h7)) h8
   .cases h
  .cases h
 .rename_i e id off yQ s lo n k i hu hdx hdi;rw[hdx]at hx;rw[hdi]at hix;split at h
  .rename_i hk;simp only[yi,yP]at hk;simp only[yj,yl]at h;obtain⟨rfl,rfl,rfl⟩:=h;obtain⟨h0,h1,_⟩:=hc;obtain⟨b,c,aa,hm,hv,hx,h2,h3,h4⟩:=mw hx;have e1:=h4 (by omega);subst e1;refine Zh (v:=.pointer (ab ⟨b,off+(lo+i.toNat)*s,ae⟩)) ok (run _ ?_) ?_
   .rw[hx,ZI hix];have hb:0<=i/\i < (n:Int):=⟨h0,h1⟩;simp[Instr.indexAt,asIntOf,run_underlying hu,hb,ZV hk.2,hk.1,Addr.bI,yav,yck]
   .rw[Ze (by rfl)];simp only[yH];exact⟨b,hm,hv,rfl⟩
  .cases h
 .rename_i e id v s lo n k i hu hdx hdi;rw[hdx]at hx;rw[hdi]at hix;split at h
  .rename_i hk;simp only[yi,yP]at hk;simp only[yj,yl]at h;obtain⟨rfl,rfl,rfl⟩:=h;obtain⟨h0,h1,_⟩:=hc;obtain⟨A,c,hx,h2,h3,h4,h5,h6⟩:=jB hx;obtain⟨b,o',rfl⟩:=h5 (by omega);refine Zh (v:=.pointer (ab ⟨b,o'+i.toNat*s,ae⟩)) ok (run _ ?_) ?_
   .rw[hx,ZI hix];have hb:0<=i/\i < (n:Int):=⟨h0,h1⟩;simp[Instr.indexAt,asIntOf,run_underlying hu,hb,ZV hk.2,hk.1,Addr.bI]
   .rw[yav];exact zj (zk (ZIJ h6 (by omega)))
  .cases h
 .rename_i n e id v off yQ k i hu hdx hdi;rw[hdx]at hx;rw[hdi]at hix;split at h
  .rename_i hk;simp only[yj,yl]at h;obtain⟨rfl,rfl,rfl⟩:=h;obtain⟨h0,h1,_⟩:=hc;obtain⟨b,o',hx,h2⟩:=tG hx;refine Zh (v:=.pointer (ab ⟨b,o'+i.toNat*P.cellsOf e,ae⟩)) ok (run _ ?_) ?_
   .rw[hx,ZI hix];have hb:0<=i/\i < (n:Int):=⟨h0,h1⟩;simp[Instr.indexAt,asIntOf,run_underlying hu,hb,ZV hk,Instr.sureAddr,Addr.bI]
   .exact zj (zk h2)
  .cases h
 .rename_i n e id off yQ k i hu hdx hdi;rw[hdx]at hx;rw[hdi]at hix;split at h
  .rename_i hk;simp only[yj,yl]at h;obtain⟨rfl,rfl,rfl⟩:=h;obtain⟨h0,h1,_⟩:=hc;obtain⟨b,hm,hv,hx⟩:=la hx;refine Zh (v:=.pointer (ab ⟨b,off+i.toNat*P.cellsOf e,ae⟩)) ok (run _ ?_) ?_
   .rw[hx,ZI hix];have hb:0<=i/\i < (n:Int):=⟨h0,h1⟩;simp[Instr.indexAt,asIntOf,run_underlying hu,hb,ZV hk,Instr.sureAddr,Addr.bI]
   .rw[Ze (by rfl)];simp only[yH];exact⟨b,hm,hv,rfl⟩
  .cases h
 .rename_i n e n' s xs k i hu hdx hdi;rw[hdx]at hx;rw[hdi]at hix;split at h
  .rename_i y hs'';split at h
   .rename_i hk;simp only[yi,yP]at hk;obtain⟨⟨rfl,hk⟩,hk2⟩:=hk;simp only[yj,yl]at h;obtain⟨rfl,rfl,rfl⟩:=h;obtain⟨h0,h1,_⟩:=hc;obtain⟨b,off,us,hx,h2,h3⟩:=pQ hx;simp only[aw]at h2;obtain⟨h4,h5,h6⟩:=h2;obtain⟨uy,h7,h8⟩:=tB h5 h6 h3 h1;have hlt:i.toNat < xs.length:=(yo.1 h1).1;refine Zh (v:=.pointer (ab ⟨b,off+i.toNat*s,ae⟩)) ok (run _ ?_) ?_
    .rw[hx,ZI hix];have hb:0<=i/\i < (n:Int):=⟨h0,by omega⟩;simp[Instr.indexAt,asIntOf,run_underlying hu,hb,ZV hk2,hk,Instr.sureAddr,Addr.bI]
    .rw[Ze (by rfl)];simp only[yH];exact⟨b,_,uy,rfl,h7,h8⟩
   .cases h
  .cases h
 .cases h
theorem ZLX{t:yc}{x:yn}{lo hi:yO yn}(ok:Ok J)(yM:aD J ts a)(ho:o.op=.slice t x lo hi ae)(h:aX P o ts hs=ab (C,d,hs'))(hc:bc C):YH P o a J d J.H:=by
 simp only[aX,ho]at h;have hx:=Zj (P:=P) yM t x
 have run:∀v,(Instr.sliceAt t (a.eval x) (lo.map a.eval) (hi.map a.eval) ae).run P J.w=.ok v J.w->(execOp a.eval o).run P J.w=.ok (.value v) J.w:=λv hv=>by
  simp[execOp,ho,hv]
 split at h
 .rename_i e nn s xs l r hu hdx hl hr;rw[hdx]at hx;split at h
  .rename_i hk;simp only[yi,yP]at hk;simp only[yj,yl]at h;obtain⟨rfl,rfl,rfl⟩:=h;obtain⟨h1,A,c,hv,h2,h3,h4,h5,h6⟩:=XL hx;obtain⟨p,q,hb,h7,h8,rfl,rfl⟩:=QS (P:=P) (w:=J.w) af xs.length c _ _ _ _ (Yz yM hl) (Yz yM hr) hc h2;obtain⟨k1,k2,k3,k4,k5,k6,k7⟩:=tE h1 h2 h3 h5 h6 h7 h8;refine Zh ok (run _ (by rw[hv];simp[Instr.sliceAt,Instr.slice,run_underlying hu,hb,ZV hk.2,hk.1];rfl)) ?_;rw[tF xs l r hc, <-k2];exact Yl k1 (by rw[k2];exact k3) k4 (λb hb=>by rw[k5];exact h4 b hb) k6 k7
  .cases h
 .rename_i e id nn s xs l r hu hdx hl hr;rw[hdx]at hx;split at h
  .rename_i hk;simp only[yi,yP]at hk;simp only[yj,yl]at h;obtain⟨rfl,rfl,rfl⟩:=h;obtain⟨h1,A,c,hv,h2,h3,h4,h5,h6,_⟩:=Q8 hx;obtain⟨p,q,hb,h7,h8,rfl,rfl⟩:=QS (P:=P) (w:=J.w) af xs.length c _ _ _ _ (Yz yM hl) (Yz yM hr) hc h2;obtain⟨k1,k2,k3,k4,k5,k6,k7⟩:=tE h1 h2 h3 h5 h6 h7 h8;refine Zh ok (run _ (by rw[hv];simp[Instr.sliceAt,Instr.slice,run_underlying hu,hb,ZV hk.2,hk.1];rfl)) ?_;rw[tF xs l r hc, <-k2];exact Yl k1 (by rw[k2];exact k3) k4 (λb hb=>by rw[k5];exact h4 b hb) k6 k7
  .cases h
 .rename_i e id off yQ s lo n l r hu hdx hl hr;rw[hdx]at hx;split at h
  .rename_i hk;simp only[yi,yP]at hk;simp only[yj,yl]at h;obtain⟨rfl,rfl,rfl⟩:=h;obtain⟨b,c,aa,hm,hv,hx,h2,h3,h4⟩:=mw hx;obtain⟨p,q,hb,h7,h8,rfl,rfl⟩:=QS (P:=P) (w:=J.w) af n c _ _ _ _ (Yz yM hl) (Yz yM hr) hc h2;refine Zh ok (run _ (by rw[hx];simp[Instr.sliceAt,Instr.slice,run_underlying hu,hb,ZV hk.2,hk.1];rfl)) ?_;rw[Ze (by rfl)];simp only[yH];by_cases hcl:c=(l.getD 0).toNat
   .exact⟨b,c - (l.getD 0).toNat,aa,hm,hv,by rw[yW hcl],by omega,by omega,λh0=>absurd h0 (by omega)⟩
   .refine⟨b,c - (l.getD 0).toNat,aa.add ((l.getD 0).toNat*s),hm,hv,by rw[yX hcl],by omega,by omega,λh0=> ?_⟩;rw[h4 (by omega),Addr.bI,yav,yck]
  .cases h
 .rename_i e id v s lo n l r hu hdx hl hr;rw[hdx]at hx;split at h
  .rename_i hs'';split at h
   .rename_i hk;simp only[yi,yP]at hk;simp only[yj,yl]at h;obtain⟨rfl,rfl,rfl⟩:=h;obtain⟨A,c,hx,h2,h3,h4,h5,h6⟩:=jB hx;obtain⟨p,q,hb,h7,h8,rfl,rfl⟩:=QS (P:=P) (w:=J.w) af n c _ _ _ _ (Yz yM hl) (Yz yM hr) hc h2;refine Zh ok (run _ (by rw[hx];simp[Instr.sliceAt,Instr.slice,run_underlying hu,hb,ZV hk.2,hk.1];rfl)) ?_;by_cases hz:0 < (r.getD (n:Int)).toNat - (l.getD 0).toNat
    .obtain⟨b,o',rfl⟩:=h5 (by omega);exact PC h2 h3 h4 (λ_=>⟨b,o',rfl⟩) h6 h7 (by omega)
    .rw[Ze (by rfl)];simp only[yH];refine⟨_,_,rfl,by omega,by omega,λhA=> ?_,λhp=>absurd hp hz,PB h6 (by omega)⟩;split at hA
     .omega
     .have hA':A=ae:=by simpa using hA
      have:=h4 hA';omega
   .cases h
  .cases h
 .rename_i n e n' s xs l r hu hdx hl hr;rw[hdx]at hx;split at h
  .rename_i hk;simp only[yi,yP]at hk;obtain⟨⟨⟨rfl,hk⟩,hk2⟩,hm⟩:=hk;simp only[yj,yl]at h;obtain⟨rfl,rfl,rfl⟩:=h;obtain⟨b,off,us,hx',h2,h3⟩:=pQ hx;simp only[aw]at h2;obtain⟨h4,h5,h6⟩:=h2;subst h4;obtain⟨p,q,hb,h7,h8,rfl,rfl⟩:=QS (P:=P) (w:=J.w) ag xs.length xs.length _ _ _ _ (Yz yM hl) (Yz yM hr) hc (ym _);obtain⟨k1,k2,k3,k4,k5,k6,k7⟩:=tE (A:=ab ⟨b,off,ae⟩) h5 (ym _) hm (λhA=>by cases hA) (λ_=>⟨b,off,us,rfl,h6,h3⟩) h7 h8;refine Zh ok (run _ (by rw[hx'];simp[Instr.sliceAt,Instr.sureAddr,run_underlying hu,hb,ZV hk2,hk];rfl)) ?_;rw[tF xs l r hc, <-k2];have:=Yl (J:=J) k1 (by rw[k2];exact k3) k4 (Q6 k5) k6 k7;rw[k2]at this ⊢;simpa[apply_ite] using this
  .cases h
 .rename_i n e id off yQ l r hu hdx hl hr;rw[hdx]at hx;split at h
  .rename_i hs'';split at h
   .rename_i hk;simp only[yi,yP]at hk;obtain⟨hk,hm'⟩:=hk;simp only[yj,yl]at h;obtain⟨rfl,rfl,rfl⟩:=h;obtain⟨b,hm,hv,hx⟩:=la hx;obtain⟨p,q,hb,h7,h8,rfl,rfl⟩:=QS (P:=P) (w:=J.w) ag n n _ _ _ _ (Yz yM hl) (Yz yM hr) hc (ym _);refine Zh ok (run _ (by rw[hx];simp[Instr.sliceAt,Instr.sureAddr,run_underlying hu,hb,ZV hk];rfl)) ?_;rw[Ze (by rfl)];simp only[yH];refine⟨b,_,_,hm,hv,rfl,by omega,by omega,λh0=> ?_⟩;rw[yX (by omega),Addr.bI]
   .cases h
  .cases h
 .cases h
theorem ZBH{P:yg}{w:yz}(isSlice:Bool)(len cap:Nat){k1 k2 k3:IntKind}{l h m:Int}(h0:0<=l)(h1:l<=h)(h2:h<=m)(h3:m<=(cap:Int)):
 (Instr.sliceBounds isSlice len cap (ab (.int k1 l)) (ab (.int k2 h)) (ab (.int k3 m))).run P w=.ok (l.toNat,h.toNat,m.toNat) w:=by
 have b1:0<=m/\m<=(cap:Int):=⟨by omega,h3⟩;have b2:0<=h/\h<=(m.toNat:Int):=⟨by omega,by omega⟩;have b3:0<=l/\l<=(h.toNat:Int):=⟨h0,by omega⟩;simp[Instr.sliceBounds,Instr.sliceBound,asIntOf,b1,b2,b3];rw[yW (by omega),yW (by omega)]
theorem ZIL{t:yc}{x:yn}{lo hi:yO yn}{mx:yn}(ok:Ok J)(yM:aD J ts a)(ho:o.op=.slice t x lo hi (ab mx))(h:aX P o ts hs=ab (C,d,hs'))(hc:bc C):YH P o a J d J.H:=by
 simp only[aX,ho]at h;have hx:=Zj (P:=P) yM t x;split at h
 .rename_i e id v s l0 n l r m hu hdx hl hr hm;rw[hdx]at hx;split at h
  .rename_i hi';simp only[yj,yl]at h;obtain⟨rfl,rfl,rfl⟩:=h;obtain⟨c1,c2,c3,c4,_⟩:=hc;obtain⟨A,c,hx,h2,h3,_⟩:=jB hx;rcases Yz yM hl with⟨_,q⟩|⟨k1,i1,e1,q1⟩
   .cases q
   rcases Yz yM hr with⟨_,q⟩|⟨k2,i2,e2,q2⟩
   .cases q
   rcases Yz yM hm with⟨_,q⟩|⟨k3,i3,e3,q3⟩
   .cases q
   cases q1;cases q2;cases q3;have hb:=ZBH (P:=P) (w:=J.w) af n c (k1:=k1) (k2:=k2) (k3:=k3) c1 c2 c3 (by omega:m<=(c:Int))
   have zB:∃u,(Instr.sliceAt t (a.eval x) (lo.map a.eval) (hi.map a.eval) (ab (a.eval mx))).run P J.w=.ok u J.w:=by
    have e3':a.eval mx=.int k3 m:=by simpa using e3
    rw[hx,e1,e2,e3'];exact⟨_,by simp[Instr.sliceAt,Instr.slice,run_underlying hu,hb,ZV hi'];rfl⟩
   obtain⟨u,zB⟩:=zB;exact Zh (v:=u) ok (by simp[execOp,ho,zB]) Xj
  .cases h
 .cases h
end
end Go.Ev
end
section
namespace Go.Ev
theorem PD(off:Nat):∀(vs:yL yh)(k:Nat)(cs:Array yh),off+k+vs.length<=cs.size->
 ((vs.zipIdx k).foldl (λcs q=>cs.setIfInBounds (off+q.2) q.1) cs).toList=cs.toList.take (off+k)++vs++cs.toList.drop (off+k+vs.length)
 |[],k,cs,_=>by simp
 |v::vs,k,cs,h=>by
  simp only[List.zipIdx_cons,List.foldl_cons,yah]at h ⊢;rw[PD off vs (k+1) _ (by simp;omega)];apply ybe;intro j;have hl:cs.toList.length=cs.size:=yau;simp only[Array.toList_setIfInBounds,List.getElem?_append,yr,yae,yba,hl,ych,ybl,List.getElem?_drop,yah];by_cases h1:j < off+k
  .have e1:j < min (off+(k+1)) cs.size:=by omega
   have e2:j < min (off+k) cs.size:=by omega
   have e3:¬(off+k=j):=by omega
   have e4:j < off+(k+1):=by omega
   have e5:j < min (off+(k+1)) cs.size+vs.length:=by omega
   have e6:j < min (off+k) cs.size+(vs.length+1):=by omega
   simp[e1,e2,e3,e4,e5,e6,h1]
  .by_cases h2:j=off+k
   .subst h2;have e1:off+k < min (off+(k+1)) cs.size:=by omega
    have e2:¬(off+k < min (off+k) cs.size):=by omega
    have e3:min (off+k) cs.size=off+k:=by omega
    have e4:off+k < min (off+(k+1)) cs.size+vs.length:=by omega
    have e5:off+k < cs.size:=by omega
    have e6:off+k < off+(k+1):=by omega
    simp[e1,e3,e4,e5,e6]
   .by_cases h3:j < off+(k+1)+vs.length
    .have e1:¬(j < min (off+(k+1)) cs.size):=by omega
     have e2:¬(j < min (off+k) cs.size):=by omega
     have e3:min (off+k) cs.size=off+k:=by omega
     have e4:min (off+(k+1)) cs.size=off+(k+1):=by omega
     have e5:j < off+k+(vs.length+1):=by omega
     have e6:j < off+(k+1)+vs.length:=by omega
     have e7:j - (off+k)=(j - (off+(k+1)))+1:=by omega
     have e8:¬(j < off+(k+1)):=by omega
     simp[e3,e4,e5,e6,h1,e7,e8]
    .have e1:min (off+k) cs.size=off+k:=by omega
     have e2:min (off+(k+1)) cs.size=off+(k+1):=by omega
     have e3:¬(j < off+(k+1)+vs.length):=by omega
     have e4:¬(j < off+k+(vs.length+1)):=by omega
     have e5:¬(off+k=off+(k+1)+vs.length+(j - (off+(k+1)+vs.length))):=by omega
     have e6:off+(k+1)+vs.length+(j - (off+(k+1)+vs.length))=off+k+(vs.length+1)+(j - (off+k+(vs.length+1))):=by omega
     simp only[e1,e2,e3,e4,if_false,e6];rw[yX (by omega)]
theorem ZIM(off:Nat)(vs cs:Array yh)(h:off+vs.size<=cs.size):
 (vs.zipIdx.foldl (λcs(q:yh×Nat)=>cs.setIfInBounds (off+q.2) q.1) cs).toList=cs.toList.take off++vs.toList++cs.toList.drop (off+vs.size):=by
 have:=PD off vs.toList 0 cs (by simpa using h);simp only[Nat.add_zero,yau]at this;rw[<-this, <-Array.foldl_toList,Array.toList_zipIdx]
theorem nU:∀(ds:yL Dv),Dv.sizes ds=(ds.map Dv.size).sum
 |[]=>rfl
 |d::ds=>by simp[Dv.sizes,nU ds]
theorem pS:∀(ds:yL Pl),Pl.sizes ds=(ds.map Pl.size).sum
 |[]=>rfl
 |d::ds=>by simp[Pl.sizes,pS ds]
theorem PE{J:Sg}{d:Dv}{v:yh}(hd:d.isAgg=af\/v.oneCell'=af)(h:yJ J d v):yH J d v.cells.toList:=by
 cases ha:d.isAgg with
 |true=>
  obtain⟨cs,rfl,h1⟩:=(Z2 ha).1 h
  exact h1
 |false=>
  have h1:=(Ze ha).1 h
  have:v.cells= #[v]:=by
   rcases hd with hd|hd
   .rw[ha]at hd;cases hd
   .cases v <;> first|rfl|(simp[Value.oneCell']at hd)
  rw[this];exact h1
mutual
theorem tH{J:Sg}:∀(d:Dv)(vs:yL yh),d.bE=af->yH J d vs->∀u,u∈vs->u.oneCell'=af
 |.p x,vs,_,h,u,hu=>by simp only[yH]at h;exact zc x vs h u hu
 |.elem _,_,_,h,u,hu=>by simp only[yH]at h;obtain⟨b,o,us,rfl,_⟩:=h;cases yar.1 hu;rfl
 |.ak _ _ _,_,_,h,u,hu=>by simp only[yH]at h;obtain⟨b,_,_,rfl⟩:=h;cases yar.1 hu;rfl
 |.own _ _ _ _,_,_,h,u,hu=>by simp only[yH]at h;obtain⟨_,A,c,rfl,_⟩:=h;cases yar.1 hu;rfl
 |.view _ _ _ _ _ _,_,_,h,u,hu=>by simp only[yH]at h;obtain⟨b,c,a,_,_,rfl,_⟩:=h;cases yar.1 hu;rfl
 |.agg xs,vs,hs,h,u,hu=>by simp only[yH]at h;simp only[Dv.bE]at hs;exact dS xs vs hs h u hu
 |.arr n s xs,vs,hs,h,u,hu=>by simp only[yH]at h;simp only[Dv.bE]at hs;exact dS xs vs hs h.2.2 u hu
 |.fn _ _,_,_,h,u,hu=>by simp only[yH]at h;obtain⟨fs,cs,rfl,_⟩:=h;cases yar.1 hu;rfl
 |.iface _ _,_,_,h,u,hu=>by simp only[yH]at h;obtain⟨cs,rfl,_⟩:=h;cases yar.1 hu;rfl
 |.bj _,_,hs,_,_,_=>by simp[Dv.bE]at hs
 |.mp _,_,_,h,u,hu=>by simp only[yH]at h;obtain⟨b,_,_,rfl⟩:=h;cases yar.1 hu;rfl
 |.rv _ _ _ _ _,_,_,h,u,hu=>by simp only[yH]at h;obtain⟨A,c,rfl,_⟩:=h;cases yar.1 hu;rfl
 |.aY _ _ _ _,_,_,h,u,hu=>by simp only[yH]at h;obtain⟨b,o,rfl,_⟩:=h;cases yar.1 hu;rfl
 |.ao,_,hs,_,_,_=>by simp[Dv.bE]at hs
theorem dS{J:Sg}:∀(ds:yL Dv)(vs:yL yh),Dv.dP ds=af->aG J ds vs->∀u,u∈vs->u.oneCell'=af
 |[],_,_,h,u,hu=>by simp only[aG]at h;subst h;cases hu
 |x::xs,vs,hs,h,u,hu=>by
  simp only[Dv.dP,yi]at hs;simp only[aG]at h;obtain⟨us,us',rfl,h1,h2⟩:=h;rcases ybs.1 hu with h3|h3
  .exact tH x us hs.1 h1 u h3
  .exact dS xs us' hs.2 h2 u h3
end
theorem WO{J:Sg}{d:Dv}{v:yh}(hs:d.bE=af)(h:yJ J d v):yH J d v.cells.toList:=by
 cases ha:d.isAgg with
 |true=>exact PE (.inl ha) h
 |false=>
  have h1:=(Ze ha).1 h;exact PE (.inr (tH d _ hs h1 v (by simp))) h
theorem pT{J:Sg}{place:Nat->yO (Nat×Nat)}{sz:yL Nat}(hp:∀i s,sz[i]? =ab s->place i=ab ((sz.take i).sum,s)):
 ∀(parts:yL (Nat×Dv×yh))(ds ds':yL Dv)(cells:Array yh),ds.map Dv.size=sz->aG J ds cells.toList->(∀q,q∈parts->q.2.1.bE=af/\yJ J q.2.1 q.2.2)->
  gY ds (parts.map λq=>(q.1,q.2.1))=ab ds'->∃cells',Instr.fill place cells (parts.map λq=>(q.1,q.2.2))=ab cells'/\aG J ds' cells'.toList/\ds'.map Dv.size=sz
 |[],ds,ds',cells,hsz,hr,_,h=>by
  simp only[List.map_nil,gY,yj]at h;subst h
  exact⟨cells,rfl,hr,hsz⟩
 |(i,d,v)::yK,ds,ds',cells,hsz,hr,hq,h=>by
  simp only[yad,gY,yf]at h;obtain⟨ds1,h1,h2⟩:=h;unfold tn at h1;split at h1
  .rename_i old hold;split at h1
   .rename_i hsame;cases h1;obtain⟨a,b,c,e,ha,hb,hbl,h3,h4⟩:=kY hr hold;obtain⟨hd1,hd2⟩:=hq (i,d,v) (yao ..);have hcells:=WO hd1 hd2;have hvl:v.cells.toList.length=d.size:=XB _ _ hcells;have hi:i < ds.length:=(yo.1 hold).1;have hszi:sz[i]? =ab d.size:=by rw[<-hsz,yaj,hold];simp[hsame]
    have hpl:=hp i _ hszi;have hoff:(sz.take i).sum=a.length:=by rw[ha,nU, <-hsz,List.map_take]
    have hcs:cells.size=a.length+(b.length+c.length):=by
     rw[<-yau,e];simp
    have hbl':b.length=d.size:=by rw[hbl,hsame]
    have hvs:v.cells.size=d.size:=by rw[<-hvl,yau]
    have hrest:=pT hp yK (ds.set i d) ds' (v.cells.zipIdx.foldl (λcs(q:yh×Nat)=>cs.setIfInBounds (a.length+q.2) q.1) cells) (by
     rw[<-hsz,List.map_set,hsame.symm];apply ybe;intro j;rw[ybl];split
     .rename_i hij;subst hij;rw[yaj,hold];simp[hi]
     .rfl) (by
     rw[ZIM _ _ _ (by omega),e];have e1:(a++(b++c)).take a.length=a:=by simp
     have e2:(a++(b++c)).drop (a.length+v.cells.size)=c:=by
      rw[hvs, <-hbl', <-yak, <-yr];simp
     rw[e1,e2,yak]
     have e3:ds.set i d=ds.take i++(d::ds.drop (i+1)):=by
      rw[List.set_eq_take_append_cons_drop,yW hi]
     rw[e3];refine pM h3 ?_;simp only[aG];exact⟨_,_,rfl,hcells,h4⟩) (λq hq'=>hq q (yas _ hq')) h2
    obtain⟨cells',k1,k2,k3⟩:=hrest;refine⟨cells', ?_,k2,k3⟩;simp only[yad,Instr.fill,hpl,hoff];rw[yX (by simp;omega)];exact k1
   .cases h1
  .cases h1
theorem zl{J:Sg}:∀{ds:yL Dv}{xs:yL Pl}{us:yL yh},iL ds=ab xs->aG J ds us->an J.w J.aV xs us
 |[],xs,us,h,hr=>by simp only[iL,yj]at h;subst h;simpa[aG,an] using hr
 |d::ds,xs,us,h,hr=>by
  simp only[iL]at h;split at h
  .rename_i x ys h1 h2;cases h;simp only[aG]at hr;obtain⟨a,b,rfl,h3,h4⟩:=hr;simp only[an];refine⟨a,b,rfl, ?_,zl h2 h4⟩;unfold Dv.plain at h1;split at h1
   .cases h1;simpa[yH] using h3
   .cases h1;simp only[yH]at h3;obtain⟨k1,A,c,k2,k3,k4,k5,k6,k7,_⟩:=h3;simp only[aw];exact⟨k1,A,c,k2,k3,k4,k5,k6,k7⟩
   .cases h1
  .cases h
theorem PF:∀{ds:yL Dv}{xs:yL Pl},iL ds=ab xs->xs.map Pl.size=ds.map Dv.size
 |[],xs,h=>by simp only[iL,yj]at h;subst h;rfl
 |d::ds,xs,h=>by
  simp only[iL]at h;split at h
  .rename_i x ys h1 h2;cases h;simp only[yad,PF h2];congr 1;unfold Dv.plain at h1;split at h1 <;> first|(cases h1;rfl)|cases h1
  .cases h
mutual
theorem tI:∀(d:Dv)(x:Pl),d.flat=ab x->x.size=d.size
 |.p y,x,h=>by rw[Dv.flat]at h;cases h;rfl
 |.own id nn s xs,x,h=>by rw[Dv.flat]at h;cases h;rfl
 |.agg ds,x,h=>by
  rw[Dv.flat]at h
  cases h2:Dv.aM ds with
  |none=>rw[h2]at h;cases h
  |some xs=>
   rw[h2]at h;cases h;rw[Pl.size,Dv.size]
   exact eJ ds xs h2
 |.elem _,x,h=>by simp[Dv.flat]at h
 |.ak _ _ _,x,h=>by simp[Dv.flat]at h
 |.view _ _ _ _ _ _,x,h=>by simp[Dv.flat]at h
 |.arr _ _ _,x,h=>by simp[Dv.flat]at h
 |.fn _ _,x,h=>by simp[Dv.flat]at h
 |.iface _ _,x,h=>by simp[Dv.flat]at h
 |.bj _,x,h=>by simp[Dv.flat]at h
 |.mp _,x,h=>by simp[Dv.flat]at h
 |.rv _ _ _ _ _,x,h=>by simp[Dv.flat]at h
 |.aY _ _ _ _,x,h=>by simp[Dv.flat]at h
 |.ao,x,h=>by simp[Dv.flat]at h
theorem eJ:∀(ds:yL Dv)(xs:yL Pl),Dv.aM ds=ab xs->Pl.sizes xs=Dv.sizes ds
 |[],xs,h=>by rw[Dv.aM]at h;cases h;rfl
 |d::ds,xs,h=>by
  rw[Dv.aM]at h;split at h
  .rename_i x ys h1 h2;cases h;rw[Pl.sizes,Dv.sizes,tI d x h1,eJ ds ys h2]
  .cases h
end
theorem PG:∀{ds:yL Dv}{xs:yL Pl},Dv.aM ds=ab xs->xs.map Pl.size=ds.map Dv.size
 |[],xs,h=>by rw[Dv.aM]at h;cases h;rfl
 |d::ds,xs,h=>by
  rw[Dv.aM]at h;split at h
  .rename_i x ys h1 h2;cases h;simp only[yad,PG h2,tI d x h1]
  .cases h
mutual
theorem PH:∀(d:Dv)(x:Pl),d.flat=ab x->d.bE=af
 |.p y,x,h=>rfl
 |.own id nn s xs,x,h=>rfl
 |.agg ds,x,h=>by
  rw[Dv.flat]at h
  cases h2:Dv.aM ds with
  |none=>rw[h2]at h;cases h
  |some xs=>rw[Dv.bE];exact dY ds xs h2
 |.elem _,x,h=>by simp[Dv.flat]at h
 |.ak _ _ _,x,h=>by simp[Dv.flat]at h
 |.view _ _ _ _ _ _,x,h=>by simp[Dv.flat]at h
 |.arr _ _ _,x,h=>by simp[Dv.flat]at h
 |.fn _ _,x,h=>by simp[Dv.flat]at h
 |.iface _ _,x,h=>by simp[Dv.flat]at h
 |.bj _,x,h=>by simp[Dv.flat]at h
 |.mp _,x,h=>by simp[Dv.flat]at h
 |.rv _ _ _ _ _,x,h=>by simp[Dv.flat]at h
 |.aY _ _ _ _,x,h=>by simp[Dv.flat]at h
 |.ao,x,h=>by simp[Dv.flat]at h
theorem dY:∀(ds:yL Dv)(xs:yL Pl),Dv.aM ds=ab xs->Dv.dP ds=af
 |[],xs,h=>rfl
 |d::ds,xs,h=>by
  rw[Dv.aM]at h;split at h
  .rename_i x ys h1 h2;rw[Dv.dP,PH d x h1,dY ds ys h2];rfl
  .cases h
end
theorem PI:∀{ds:yL Dv}{xs:yL Pl},Dv.aM ds=ab xs->∀d,d∈ds->d.bE=af
 |[],_,_,d,hd=>by cases hd
 |x::ds,xs,h,d,hd=>by
  rw[Dv.aM]at h;split at h
  .rename_i y ys h1 h2
   cases hd with
   |head=>exact PH _ _ h1
   |tail _ hd=>exact PI h2 d hd
  .cases h
theorem ZHv{J:Sg}{ds:yL Dv}{xs:yL Pl}{us:yL yh}(h:Dv.aM ds=ab xs)(hr:aG J ds us):an J.w J.aV xs us:=dQ ds xs us h hr
theorem ZHw{J:Sg}{ds:yL Dv}{cs:Array yh}(hr:aG J ds cs.toList):yJ J (pF ds) (.agg cs):=by
 unfold pF;split
 .rename_i xs h;rw[Z2 rfl];exact⟨cs,rfl,by simp only[yH,aw];exact zl h hr⟩
 .rw[Z2 rfl];exact⟨cs,rfl,by simp only[yH];exact hr⟩
theorem PJ{P:yg}{J:Sg}{t:yc}{d:Dv}(h:YP P t=d)(hj:d≠ .ao):∃i v,P.info? t=ab i/\i.zero=ab v/\yJ J d v:=by
 unfold YP at h;split at h
 .rename_i i hi;split at h
  .rename_i v hv;exact⟨i,v,hi,hv,by rw[<-h];exact WW⟩
  .exact absurd h.symm hj
 .exact absurd h.symm hj
theorem PK{P:yg}:∀(fs:yL Field),(∀f,f∈fs->(P.info? f.type).isSome=af)->
 fs.mapM (λf=>(P.info? f.type).map λi=>(f.offset,i.size))=ab (fs.map λf=>(f.offset,P.cellsOf f.type))
 |[],_=>by simp
 |f::fs,h=>by
  have h1:=h f (yao ..)
  cases hi:P.info? f.type with
  |none=>simp[hi]at h1
  |some i=>
   simp[List.mapM_cons,hi,PK fs (λg hg=>h g (yas _ hg)),Program.cellsOf]
section
variable{P:yg}{o:Oper}{a:Act}{J:Sg}{ts:yL Dv}{hs hs':yL al}{C:yL Prop}{d:Dv}
theorem tJ(yM:aD J ts a)(f:Nat->yc)(parts:yL (Nat×yn))(hsol:kV (Qs P ts f parts)=af):
 ∃qs:yL (Nat×Dv×yh),(qs.map λq=>(q.1,q.2.1))=Qs P ts f parts/\(qs.map λq=>(q.1,q.2.2))=parts.map (λq=>(q.1,a.eval q.2))/\(∀q,q∈qs->q.2.1.bE=af/\yJ J q.2.1 q.2.2):=by
 refine⟨parts.map λq=>(q.1,Zs P ts (f q.1) q.2,a.eval q.2),by simp[Qs],by simp,λq hq=> ?_⟩;obtain⟨x,hx,rfl⟩:=yby.1 hq;refine⟨?_,Zj yM _ _⟩;simp only[kV,Qs,List.all_map,ybc]at hsol;exact hsol x hx
theorem QT(n s i:Nat)(h:i<=n):((yy n s).take i).sum=i*s:=by
 rw[List.take_replicate,yay h,List.sum_replicate_nat]
theorem ZLY{t:yc}{parts:Array (Nat×yn)}(ok:Ok J)(yM:aD J ts a)(ho:o.op=.build t parts)(h:aX P o ts hs=ab (C,d,hs')):YH P o a J d J.H:=by
 simp only[aX,ho]at h
 have run:∀cells,P.built t (parts.map λq=>(q.1,a.eval q.2)).toList=ab cells->(execOp a.eval o).run P J.w=.ok (.value (.agg cells)) J.w:=λcells hv=>by
  have:=run_build (P:=P) J.w t (parts.map λq=>(q.1,a.eval q.2)) cells hv;simp[execOp,ho,this]
 split at h
 .rename_i fs zs hu hz;split at h
  .rename_i hk;simp only[yi,yT]at hk;obtain⟨⟨hsol,zW⟩,zU⟩:=hk;simp only[yp,yl]at h;obtain⟨ds,hset,rfl,rfl,rfl⟩:=h;obtain⟨it,z,hit,hitz,hzr0⟩:=PJ (J:=J) hz (by simp);obtain⟨cs,rfl,hzr⟩:=(Z2 rfl).1 hzr0;simp only[yH,aw]at hzr
   have hf:∀i,i < fs.size->∃f z,fs[i]? =ab f/\zs[i]? =ab z/\f.offset=Pl.sizes (zs.take i)/\P.cellsOf f.type=z.size/\(P.info? f.type).isSome=af:=by
    intro i hi;have hi':i < zs.length:=by omega
    have h1:=ybc.1 zU i (List.mem_range.2 hi');unfold kU at h1;have hzi:zs.getD i default=zs[i]:=by simp[List.getD,hi']
    rw[hzi]at h1;have hfi:fs[i]? =ab fs[i]:=Array.getElem?_eq_getElem hi;rw[hfi]at h1;simp only[yi,yT]at h1;obtain⟨⟨⟨⟨⟨h2,h3⟩,h4⟩,_⟩,_⟩,_⟩:=h1;exact⟨fs[i],zs[i],hfi,yac hi',h2,h3,h4⟩
   have hmap:=PK (P:=P) fs.toList (λf hf'=>by
    obtain⟨i,hi,rfl⟩:=List.getElem_of_mem hf';obtain⟨f,z,h1,_,_,_,h2⟩:=hf i (by simpa using hi)
    have:fs.toList[i]=f:=by
     have:=(Array.getElem?_eq_some_iff.1 h1).2;simpa using this
    rw[this];exact h2)
   obtain⟨qs,hq1,hq2,hq3⟩:=tJ (P:=P) yM (kW P t) parts.toList hsol;rw[<-hq1]at hset
   obtain⟨cells',hfill,hr,_⟩:=pT (J:=J) (place:=((fs.toList.map λf=>(f.offset,P.cellsOf f.type)).toArray[·]?)) (sz:=zs.map Pl.size) (by
    intro i s hi;rw[yaj]at hi;obtain⟨z,hz1,hz2⟩:=yp.1 hi;have hi':i < zs.length:=(yo.1 hz1).1;obtain⟨f,z',h1,h2,h3,h4,_⟩:=hf i (by omega);rw[hz1]at h2;cases h2;have:fs.toList[i]? =ab f:=by simpa using h1
    simp only[List.getElem?_toArray,yaj,this,Option.map_some,h3,h4,hz2,pS,List.map_take]) qs (zs.map .p) ds cs (by simp[Dv.size,Function.comp_def]) (jz.2 hzr) hq3 hset
   have hb:P.built t (parts.map λq=>(q.1,a.eval q.2)).toList=ab cells':=by
    unfold Program.built;rw[hit,hu];simp only[hitz,hmap,Value.cells];rw[ycq, <-hq2];exact hfill
   exact Zh ok (run _ hb) (ZHw hr)
  .cases h
 .rename_i n e n' s zs hu hz;split at h
  .rename_i hk;simp only[yi,yP]at hk;obtain⟨⟨hsol,hse⟩,hie⟩:=hk;simp only[yf]at h;obtain⟨ds,hset,h⟩:=h;obtain⟨it,z,hit,hitz,hzr0⟩:=PJ (J:=J) hz (by simp);obtain⟨cs,rfl,hzr⟩:=(Z2 rfl).1 hzr0;simp only[yH,aw]at hzr;obtain⟨hzl,hzs,hzr⟩:=hzr;obtain⟨qs,hq1,hq2,hq3⟩:=tJ (P:=P) yM (kW P t) parts.toList hsol;rw[<-hq1]at hset
   have hszs:(zs.map Dv.p).map Dv.size=yy n' s:=by
    rw[<-hzl];apply ybe;intro j;simp only[yaj,List.getElem?_replicate]
    cases hj:zs[j]? with
    |none=>
     have:=List.getElem?_eq_none_iff.1 hj
     simp;omega
    |some x=>
     have h1:=(yo.1 hj).1;simp[h1,Dv.size,hzs x (List.mem_of_getElem? hj)]
   obtain⟨cells',hfill,hr,hsz'⟩:=pT (J:=J) (place:=λi=>ab (i*s,s)) (sz:=yy n' s) (by
    intro i s' hi;simp only[List.getElem?_replicate]at hi;split at hi
    .cases hi;rw[QT _ _ _ (by omega)]
    .cases hi) qs (zs.map .p) ds cs hszs (jz.2 hzr) hq3 hset
   have hlen':ds.length=n':=by
    have:=congrArg List.length hsz';simpa using this
   have hall':∀x,x∈ds->x.size=s:=by
    intro x hx;have:x.size∈ds.map Dv.size:=List.mem_map_of_mem hx;rw[hsz']at this;exact List.eq_of_mem_replicate this
   have hb:P.built t (parts.map λq=>(q.1,a.eval q.2)).toList=ab cells':=by
    unfold Program.built;rw[hit,hu]
    cases hie':P.info? e with
    |none=>simp[hie']at hie
    |some ie=>
     have:ie.size=s:=by rw[<-hse];simp[Program.cellsOf,hie']
     simp only[hitz,hie',Value.cells,this];rw[ycq, <-hq2];exact hfill
   split at h
   .rename_i xs hxs;simp only[yj,yl]at h;obtain⟨rfl,rfl,rfl⟩:=h;refine Zh ok (run _ hb) ?_;rw[Z2 rfl];have hps:=PF hxs
    refine⟨cells',rfl,by
     simp only[yH,aw];refine⟨?_, ?_,zl hxs hr⟩
     .have:=congrArg List.length hps;simp only[yx]at this;rw[this,hlen']
     .intro x hx;have:x.size∈xs.map Pl.size:=List.mem_map_of_mem hx;rw[hps,hsz']at this;exact List.eq_of_mem_replicate this⟩
   .simp only[yj,yl]at h;obtain⟨rfl,rfl,rfl⟩:=h;refine Zh ok (run _ hb) ?_;rw[Z2 rfl];exact⟨cells',rfl,by simp only[yH];exact⟨hlen',hall',hr⟩⟩
  .cases h
 .cases h
end
theorem zm(s:Nat):∀(new pre post:yL Dv),post.length=new.length->(∀x,x∈post->x.size=s)->(∀x,x∈new->x.size=s)->
 gY (pre++post) ((List.range' pre.length new.length).zip new)=ab (pre++new)
 |[],pre,post,hl,_,_=>by
  have:post=[]:=ybf (by simpa using hl);subst this
  simp[gY]
 |d::new,pre,[],hl,_,_=>by simp at hl
 |d::new,pre,q::post,hl,h1,h2=>by
  simp only[yah,List.range'_succ,List.zip_cons_cons,gY];have e:(pre++q::post)[pre.length]? =ab q:=by simp
  have hs:q.size=d.size:=by rw[h1 q (yao ..),h2 d (yao ..)]
  have e2:(pre++q::post).set pre.length d=(pre++[d])++post:=by simp
  simp only[tn,e,hs,if_true,Option.bind_some,e2];have:=zm s new (pre++[d]) post (by simpa using hl) (λx hx=>h1 x (yas _ hx)) (λx hx=>h2 x (yas _ hx));simp only[yr,yah,ycn,yaz,yak,List.singleton_append]at this ⊢;exact this
theorem zn{α β γ:Type}(f:α->β)(g:α->γ):∀(l:yL α),l.map (λq=>(f q,g q))=(l.map f).zip (l.map g)
 |[]=>rfl
 |x::l=>by simp[zn f g l]
theorem PL{J:Sg}:∀(us:yL yh),aG J (yy us.length .ao) us
 |[]=>by simp[aG]
 |u::us=>by
  simp only[yah,List.replicate_succ,aG];exact⟨[u],us,rfl,by simp[yH],PL us⟩
def kj(s:Nat):Dv:=.agg (yy s .ao)
theorem tK(s:Nat):(kj s).size=s:=by
 show Dv.sizes (yy s .ao)=s;rw[nU,List.map_replicate,List.sum_replicate_nat];simp[Dv.size]
theorem ZHx{J:Sg}{s:Nat}{us:yL yh}(h:us.length=s):yH J (kj s) us:=by
 subst h;show yH J (.agg (yy us.length .ao)) us;simp only[yH];exact PL us
theorem zo{J:Sg}{s:Nat}:∀(n:Nat)(us:yL yh),us.length=n*s->aG J (yy n (kj s)) us
 |0,us,h=>by
  have:us=[]:=ybf (by simpa using h);subst this
  simp[aG]
 |n+1,us,h=>by
  rw[yav,Nat.one_mul]at h;simp only[List.replicate_succ,aG];exact⟨us.take s,us.drop s,(ybk s us).symm,ZHx (by rw[yae];omega),zo n _ (by rw[ybq];omega)⟩
section
variable{P:yg}{o:Oper}{a:Act}{J:Sg}{ts:yL Dv}{hs hs':yL al}{C:yL Prop}{d:Dv}
theorem ZHy(yM:aD J ts a){e:yc}{s len:Nat}{parts:yL (Nat×yn)}{xs:yL Pl}(h:XK P ts e s len parts=ab xs)(Z:Array yh)(hZ:Z.size=len*s):
 ∃cells:Array yh,Instr.fill (λi=>ab (i*s,s)) Z (parts.map λq=>(q.1,a.eval q.2))=ab cells/\an J.w J.aV xs cells.toList/\xs.length=len/\aU s xs:=by
 unfold XK at h;split at h
 .rename_i hr;have hr':parts.map (·.1)=yq len:=by simpa using hr
  split at h
  .rename_i xs' hp;split at h
   .rename_i zU;cases h
    have hsz:∀x,x∈xs->x.size=s:=by
     intro x hx;have:=ybc.1 zU x hx;simpa using this
    have hps:=PG hp
    have hdl:(parts.map λq=>Zs P ts e q.2).length=len:=by
     have:=congrArg List.length hr';simpa using this
    have hds:∀x,x∈(parts.map λq=>Zs P ts e q.2)->x.size=s:=by
     intro x hx;have h1:x.size∈(parts.map λq=>Zs P ts e q.2).map Dv.size:=List.mem_map_of_mem hx;rw[<-hps]at h1;obtain⟨y,hy,he⟩:=yby.1 h1;rw[<-he];exact hsz y hy
    have hxl:xs.length=len:=by
     have:=congrArg List.length hps;simp only[yx]at this;rw[this];simpa using hdl
    obtain⟨qs,hq1,hq2,hq3⟩:=tJ (P:=P) yM (λ_=>e) parts (by
     simp only[kV,Qs,List.all_map,ybc];intro q hq;exact PI hp _ (List.mem_map_of_mem hq))
    have hset:gY (yy len (kj s)) (Qs P ts (λ_=>e) parts)=ab (parts.map λq=>Zs P ts e q.2):=by
     have h1:=zm s (parts.map λq=>Zs P ts e q.2) [] (yy len (kj s)) (by simpa using hdl.symm) (λx hx=>by rw[List.eq_of_mem_replicate hx,tK]) hds;simp only[yv,ycn]at h1
     have h2:Qs P ts (λ_=>e) parts=(List.range' 0 (parts.map λq=>Zs P ts e q.2).length).zip (parts.map λq=>Zs P ts e q.2):=by
      rw[hdl, <-List.range_eq_range', <-hr'];exact zn _ _ parts
     rw[h2];exact h1
    rw[<-hq1]at hset
    obtain⟨cells,hfill,hrd,_⟩:=pT (J:=J) (place:=λi=>ab (i*s,s)) (sz:=yy len s) (by
     intro i s' hi;simp only[List.getElem?_replicate]at hi;split at hi
     .cases hi;rw[QT _ _ _ (by omega)]
     .cases hi) qs (yy len (kj s)) _ Z (by simp[tK]) (zo len _ (by simpa using hZ)) hq3 hset
    refine⟨cells, ?_,ZHv hp hrd,hxl,λx hx=>hsz x hx⟩;rw[<-hq2];exact hfill
   .cases h
  .cases h
 .cases h
theorem ZEa(yM:aD J ts a){e:yc}{s len:Nat}{parts:yL (Nat×yn)}{ds:yL Dv}(h:nM P ts e s len parts=ab ds)(Z:Array yh)(hZ:Z.size=len*s):
 ∃cells:Array yh,Instr.fill (λi=>ab (i*s,s)) Z (parts.map λq=>(q.1,a.eval q.2))=ab cells/\aG J ds cells.toList/\ds.length=len/\(∀x,x∈ds->x.size=s):=by
 unfold nM at h;split at h
 .rename_i hr;have hr':parts.map (·.1)=yq len:=by simpa using hr
  split at h
  .rename_i zU;cases h
   have hal:∀x,x∈(parts.map λq=>Zs P ts e q.2)->x.bE=af/\x.size=s:=by
    intro x hx;have:=ybc.1 zU x hx;simpa using this
   have hdl:(parts.map λq=>Zs P ts e q.2).length=len:=by
    have:=congrArg List.length hr';simpa using this
   have hds:∀x,x∈(parts.map λq=>Zs P ts e q.2)->x.size=s:=λx hx=>(hal x hx).2
   obtain⟨qs,hq1,hq2,hq3⟩:=tJ (P:=P) yM (λ_=>e) parts (by
    simp only[kV,Qs,List.all_map,ybc];intro q hq;exact(hal _ (List.mem_map_of_mem hq)).1)
   have hset:gY (yy len (kj s)) (Qs P ts (λ_=>e) parts)=ab (parts.map λq=>Zs P ts e q.2):=by
    have h1:=zm s (parts.map λq=>Zs P ts e q.2) [] (yy len (kj s)) (by simpa using hdl.symm) (λx hx=>by rw[List.eq_of_mem_replicate hx,tK]) hds;simp only[yv,ycn]at h1
    have h2:Qs P ts (λ_=>e) parts=(List.range' 0 (parts.map λq=>Zs P ts e q.2).length).zip (parts.map λq=>Zs P ts e q.2):=by
     rw[hdl, <-List.range_eq_range', <-hr'];exact zn _ _ parts
    rw[h2];exact h1
   rw[<-hq1]at hset
   obtain⟨cells,hfill,hrd,_⟩:=pT (J:=J) (place:=λi=>ab (i*s,s)) (sz:=yy len s) (by
    intro i s' hi;simp only[List.getElem?_replicate]at hi;split at hi
    .cases hi;rw[QT _ _ _ (by omega)]
    .cases hi) qs (yy len (kj s)) _ Z (by simp[tK]) (zo len _ (by simpa using hZ)) hq3 hset
   refine⟨cells, ?_,hrd,hdl,hds⟩;rw[<-hq2];exact hfill
  .cases h
 .cases h
theorem PM{e t:yc}{i:TypeInfo}{len:Nat}{parts:Array (Nat×yh)}{Q:Array yh->Prop}(w:yz)(hu:P.underlying t=ab (.slice e))(hi:P.info? e=ab i)(hz:cf i=af)
 (hsz:len*i.size<=16777216) (hfill:∀Z:Array yh,Z.size=len*i.size->∃cells,Instr.fill (λj=>ab (j*i.size,i.size)) Z parts.toList=ab cells/\Q cells):
 ∃cells,(Instr.buildSlice t len parts).run P w=.ok (.slice (ab ⟨w.heap.size,0,ae⟩) len len) (w.alloc (.cells cells e))/\Q cells:=by
 unfold cf at hz;split at hz
 .rename_i z hzz;have h1:¬(16777216 < len*i.size):=by omega
  by_cases h0:len*i.size=0
  .obtain⟨cells,h2,hq⟩:=hfill ((Array.range (len*i.size)).map (#[][· % (#[]:Array yh).size]!)) (by simp);refine⟨cells, ?_,hq⟩;simp only[h0]at h2;simp[Instr.buildSlice,run_underlying hu,sizeOf,typeInfo,hi,h0,newRow];simp at h2;simp[h2]
  .obtain⟨cells,h2,hq⟩:=hfill ((Array.range (len*i.size)).map (z.cells[· % z.cells.size]!)) (by simp);exact⟨cells,by simp[Instr.buildSlice,run_underlying hu,sizeOf,typeInfo,zeroValue,hi,hzz,h1,h0,newRow,h2],hq⟩
 .cases hz
end
theorem aF{α:Type}{l:yL α}{i j:Nat}{x:α}(h:i≠j):(l.set i x)[j]? =l[j]? :=by
 rw[ybl,yX h]
theorem aj{α:Type}{l:yL α}{i:Nat}{x y:α}(h:l[i]? =ab y):(l.set i x)[i]? =ab x:=by
 rw[ybl,yW rfl,yW (yo.1 h).1]
theorem YX{J J':Sg}(ok:Ok J){id:Nat}{mi mi':yO Nat}{en en':ax}(hH:J.H[id]? =ab en)(hm:J.m[id]? =ab mi)
 (eF:J'.F=J.F) (en_:J'.B=J.B) (eH:J'.H=J.H.set id en') (em:J'.m=J.m.set id mi')
 (hos:J'.w.os=J.w.os) (htape:J'.w.tape=J.w.tape) (hout:J'.w.output=J.w.output) (hsize:J.w.heap.size<=J'.w.heap.size)
 (zV:∀b,b < J.w.heap.size->mi≠ab b->J'.w.heap[b]? =J.w.heap[b]?)
 (hown:∀b o v,mi=ab b->en.bv o->J.w.cell? ⟨b,o,ae⟩=ab v->J'.w.cell? ⟨b,o,ae⟩=ab v)
 (hunl:∀o,mi'=mi->en.bv o->en'.bv o)
 (hmi:mi'=mi\/∃b',mi'=ab b'/\J.w.heap.size<=b'/\b' < J'.w.heap.size)
 (hvar:(∃d st,en=.var d st)->mi'=mi/\∃d st,en'=.var d st)
 (hmap:(∃t bw,en=.map t bw)->mi'=mi/\∃t bw,en'=.map t bw)
 (hlog:∀s e xs,en=.log s e xs->∃xs',en'=.log s e xs'/\xs.length<=xs'.length/\(xs'.length=xs.length->mi'=mi/\∀b,b < J.w.heap.size->J'.w.heap[b]? =J.w.heap[b]?))
 (hent:cD J J'->dA J' mi' en')
 (hrow:∀v s st e d,en=.row v s st e d->∃v' st' d',en'=.row v' s st' e d'/\v<=v'/\(v'=v->mi'=mi/\∀b cur,mi=ab b->J.w.heap[b]? =ab (.cells cur e (0,0))->∃cur',J'.w.heap[b]? =ab (.cells cur' e (0,0))/\cur'.size=cur.size):=by
   intro _ _ _ _ _ h;cases h):To J J'/\Ok J':=by
 have hlt:∀b,mi=ab b->b < J.w.heap.size:=λb h=>ok.lt id b (by rw[hm,h]);have mset:∀j,j≠id->J'.m[j]? =J.m[j]? :=λj hj=>by rw[em,aF (Ne.symm hj)]
 have mself:J'.m[id]? =ab mi':=by rw[em];exact aj hm
 have Hset:∀j,j≠id->J'.H[j]? =J.H[j]? :=λj hj=>by rw[eH,aF (Ne.symm hj)]
 have Hself:J'.H[id]? =ab en':=by rw[eH];exact aj hH
 have hob:∀j b,j≠id->J.m[j]? =ab (ab b)->J'.w.heap[b]? =J.w.heap[b]? :=λj b hj h=>
  zV b (ok.lt j b h) (λhe=>hj (ok.inj j id b h (by rw[hm,he])))
 have leaf:cD J J':=by
  refine⟨λb o v h1 h2=>⟨?_, ?_, ?_⟩,λj b h1 h2=> ?_,λj s len A c h1=> ?_,λj b h1 h2=> ?_,λj v s st e d h1=> ?_⟩
  .by_cases hb:mi=ab b
   .exact hown b o v hb (h2.2 id en (by rw[hm,hb]) hH) h1
   .rw[World.cell?_of_block (w:=J.w) (zV b (Wu h1) hb)];exact h1
  .rcases h2.1 with h3|h3
   .exact .inl (by rw[eF];exact h3)
   .exact .inr (by rw[en_];exact h3)
  .intro j e hj he;by_cases hji:j=id
   .subst hji;rw[mself]at hj;rw[Hself]at he;cases he;have hj':mi'=ab b:=by simpa using hj
    rcases hmi with h3|⟨b',h3,h4,_⟩
    .have hmb:mi=ab b:=by rw[<-h3,hj']
     exact hunl o h3 (h2.2 j en (by rw[hm,hmb]) hH)
    .have:b'=b:=by rw[h3]at hj';exact yax hj'
     have:=Wu h1;omega
   .rw[mset j hji]at hj;rw[Hset j hji]at he;exact h2.2 j e hj he
  .by_cases hji:j=id
   .subst hji;obtain⟨d,st,h2⟩:=h2;rw[hH]at h2;obtain⟨h3,d',st',h4⟩:=hvar ⟨d,st,yax h2⟩;rw[hm]at h1;exact⟨by rw[mself,h3];exact h1,d',st',by rw[Hself,h4]⟩
   .exact⟨by rw[mset j hji];exact h1,by rw[Hset j hji];exact h2⟩
  .obtain⟨e,ys,h2,h3,h4⟩:=h1;by_cases hji:j=id
   .subst hji;rw[hH]at h2;obtain⟨xs',k1,k2,k3⟩:=hlog s e ys (yax h2);refine⟨e,xs',by rw[Hself,k1],by omega,λhl=> ?_⟩;obtain⟨k4,k5⟩:=k3 (by omega);rcases h4 (by omega) with⟨h5,h6⟩|⟨b,cur,h5,h6,h7,h8⟩
    .exact .inl ⟨by rw[mself,k4, <-hm];exact h5,h6⟩
    .exact .inr ⟨b,cur,by rw[mself,k4, <-hm];exact h5,h6,(k5 b (ok.lt j b h5)).trans h7,h8⟩
   .refine⟨e,ys,by rw[Hset j hji];exact h2,h3,λhl=> ?_⟩;rcases h4 hl with⟨h5,h6⟩|⟨b,cur,h5,h6,h7,h8⟩
    .exact .inl ⟨by rw[mset j hji];exact h5,h6⟩
    .exact .inr ⟨b,cur,by rw[mset j hji];exact h5,h6,(hob j b hji h5).trans h7,h8⟩
  .by_cases hji:j=id
   .subst hji;obtain⟨d,st,h2⟩:=h2;rw[hH]at h2;obtain⟨h3,d',st',h4⟩:=hmap ⟨d,st,yax h2⟩;rw[hm]at h1;exact⟨by rw[mself,h3];exact h1,d',st',by rw[Hself,h4]⟩
   .exact⟨by rw[mset j hji];exact h1,by rw[Hset j hji];exact h2⟩
  .by_cases hji:j=id
   .subst hji;rw[hH]at h1;obtain⟨v',st',d',k1,k2,k3⟩:=hrow v s st e d (yax h1);refine⟨v',st',d',by rw[Hself,k1],k2,λhv=> ?_⟩;obtain⟨k4,k5⟩:=k3 hv;exact⟨by rw[mself,k4, <-hm],λb cur hb hc=>k5 b cur (by rw[hm]at hb;exact yax hb) hc⟩
   .exact⟨v,st,d,by rw[Hset j hji];exact h1,ym _,λ_=>⟨mset j hji,λb cur hb hc=>⟨cur,(hob j b hji hb).trans hc,rfl⟩⟩⟩
 have hsame:∀j b,J'.m[j]? =ab (ab b)->(J.m[j]? =ab (ab b)/\(j=id->mi'=mi))\/(j=id/\J.w.heap.size<=b/\b < J'.w.heap.size):=by
  intro j b hj;by_cases hji:j=id
  .subst hji;rw[mself]at hj;have hj':mi'=ab b:=by simpa using hj
   rcases hmi with h3|⟨b',h3,h4,h5⟩
   .exact .inl ⟨by rw[hm, <-h3,hj'],λ_=>h3⟩
   .have:b'=b:=by rw[h3]at hj';exact yax hj'
    subst this;exact .inr ⟨rfl,h4,h5⟩
  .rw[mset j hji]at hj;exact .inl ⟨hj,λh=>absurd h hji⟩
 refine⟨⟨leaf,eF,en_,hos,htape,hout,hsize,λb hb hn=>zV b hb (λhe=>hn id (by rw[hm,he])),λj b hj=> ?_,by rw[em,yba];exact ym _⟩, ?_, ?_, ?_, ?_, ?_, ?_⟩
 .rcases hsame j b hj with⟨h,_⟩|⟨_,h,_⟩
  .exact .inl h
  .exact .inr h
 .rw[em,eH,yba,yba];exact ok.len
 .intro i j b hi hj;rcases hsame i b hi with⟨h1,_⟩|⟨h1,h2,_⟩ <;> rcases hsame j b hj with⟨h3,_⟩|⟨h3,h4,_⟩
  .exact ok.inj i j b h1 h3
  .have:=ok.lt i b h1;omega
  .have:=ok.lt j b h3;omega
  .rw[h1,h3]
 .intro i b hi;rcases hsame i b hi with⟨h1,_⟩|⟨_,_,h2⟩
  .exact Nat.lt_of_lt_of_le (ok.lt i b h1) hsize
  .exact h2
 .intro i e a he ha;by_cases hji:i=id
  .subst hji;rw[mself]at ha;rw[Hself]at he;cases he;cases ha;exact hent leaf
  .rw[mset i hji]at ha;rw[Hset i hji]at he;exact nT leaf (λb hb=>hob i b hji (by rw[ha,hb])) (ok.dc i e a he ha)
 .intro b hb;rw[en_];exact ok.new b (ybx hsize hb)
 .intro i b hi;rw[en_];rcases hsame i b hi with⟨h1,_⟩|⟨_,h1,_⟩
  .exact ok.own i b h1
  .exact ok.new b h1
theorem Wj{J J':Sg}(ok:Ok J){mi:yO Nat}{en:ax}(eF:J'.F=J.F)(en_:J'.B=J.B)(eH:J'.H=J.H++[en])(em:J'.m=J.m++[mi])
 (hg:J.w.grownBy J'.w ae) (hmi:mi=ae\/∃b,mi=ab b/\J.w.heap.size<=b/\b < J'.w.heap.size) (hent:cD J J'->dA J' mi en):To J J'/\Ok J':=by
 have zV:∀b,b < J.w.heap.size->J'.w.heap[b]? =J.w.heap[b]? :=λb hb=>hg.block b hb (by simp)
 have hml:∀j a,J.m[j]? =ab a->J'.m[j]? =ab a:=λj a h=>by
  rw[em,yai (yo.1 h).1];exact h
 have hHl:∀j e,J.H[j]? =ab e->J'.H[j]? =ab e:=λj a h=>by
  rw[eH,yai (yo.1 h).1];exact h
 have hmr:∀j a,J'.m[j]? =ab a->J.m[j]? =ab a\/(j=J.m.length/\a=mi):=λj a h=>by
  rw[em]at h;rcases ybr j J.m.length with h1|h1
  .rw[yai h1]at h;exact .inl h
  .rw[yam h1]at h;have hj:j - J.m.length < 1:=(yo.1 h).1;have:j=J.m.length:=by omega
   subst this;simp at h;exact .inr ⟨rfl,h.symm⟩
 have hHr:∀j e,J'.H[j]? =ab e->J.H[j]? =ab e\/(j=J.H.length/\e=en):=λj a h=>by
  rw[eH]at h;rcases ybr j J.H.length with h1|h1
  .rw[yai h1]at h;exact .inl h
  .rw[yam h1]at h;have hj:j - J.H.length < 1:=(yo.1 h).1;have:j=J.H.length:=by omega
   subst this;simp at h;exact .inr ⟨rfl,h.symm⟩
 have leaf:cD J J':=by
  refine⟨λb o v h1 h2=>⟨?_, ?_, ?_⟩,λj b h1 h2=> ?_,λj s len A c h1=> ?_,λj b h1 h2=> ?_,λj v s st e d h1=>⟨v,st,d,hHl _ _ h1,ym _,λ_=>⟨?_,λb cur hb hc=>⟨cur,(zV b (ok.lt j b hb)).trans hc,rfl⟩⟩⟩⟩
  .rw[World.cell?_of_block (w:=J.w) (zV b (Wu h1))];exact h1
  .rcases h2.1 with h3|h3
   .exact .inl (by rw[eF];exact h3)
   .exact .inr (by rw[en_];exact h3)
  .intro j e hj he;rcases hmr j _ hj with h3|⟨h3,h4⟩
   .rcases hHr j _ he with h5|⟨h5,_⟩
    .exact h2.2 j e h3 h5
    .have:=(yo.1 h3).1;have:=ok.len;omega
   .rcases hmi with h5|⟨b',h5,h6,_⟩
    .rw[h5]at h4;cases h4
    .rw[h5]at h4;have:=Wu h1;cases h4;omega
  .obtain⟨d,st,h2⟩:=h2;exact⟨hml _ _ h1,d,st,hHl _ _ h2⟩
  .obtain⟨e,ys,h2,h3,h4⟩:=h1;refine⟨e,ys,hHl _ _ h2,h3,λhl=> ?_⟩;rcases h4 hl with⟨h5,h6⟩|⟨b,cur,h5,h6,h7,h8⟩
   .exact .inl ⟨hml _ _ h5,h6⟩
   .exact .inr ⟨b,cur,hml _ _ h5,h6,(zV b (ok.lt j b h5)).trans h7,h8⟩
  .obtain⟨d,st,h2⟩:=h2;exact⟨hml _ _ h1,d,st,hHl _ _ h2⟩
  .have hj:j < J.m.length:=by rw[ok.len];exact(yo.1 h1).1
   rw[em,yai hj]
 refine⟨⟨leaf,eF,en_,hg.os,hg.tape,hg.output,hg.size,λb hb _=>zV b hb,λj b hj=> ?_,by rw[em,yr];omega⟩, ?_, ?_, ?_, ?_, ?_, ?_⟩
 .rcases hmr j _ hj with h|⟨_,h⟩
  .exact .inl h
  .rcases hmi with h5|⟨b',h5,h6,_⟩
   .rw[h5]at h;cases h
   .rw[h5]at h;cases h;exact .inr h6
 .rw[em,eH,yr,yr,ok.len];rfl
 .intro i j b hi hj;rcases hmr i _ hi with h1|⟨h1,h1'⟩ <;> rcases hmr j _ hj with h2|⟨h2,h2'⟩
  .exact ok.inj i j b h1 h2
  .have:=ok.lt i b h1;rcases hmi with h5|⟨b',h5,h6,_⟩
   .rw[h5]at h2';cases h2'
   .rw[h5]at h2';cases h2';omega
  .have:=ok.lt j b h2;rcases hmi with h5|⟨b',h5,h6,_⟩
   .rw[h5]at h1';cases h1'
   .rw[h5]at h1';cases h1';omega
  .rw[h1,h2]
 .intro i b hi;rcases hmr i _ hi with h1|⟨_,h1⟩
  .exact Nat.lt_of_lt_of_le (ok.lt i b h1) hg.size
  .rcases hmi with h5|⟨b',h5,_,h6⟩
   .rw[h5]at h1;cases h1
   .rw[h5]at h1;cases h1;exact h6
 .intro i e a he ha;rcases hHr i _ he with h1|⟨h1,h1'⟩ <;> rcases hmr i _ ha with h2|⟨h2,h2'⟩
  .exact nT leaf (λb hb=>zV b (ok.lt i b (by rw[h2,hb]))) (ok.dc i e a h1 h2)
  .have:=(yo.1 h1).1;have:=ok.len;omega
  .have:=(yo.1 h2).1;have:=ok.len;omega
  .rw[h1',h2'];exact hent leaf
 .intro b hb;rw[en_];exact ok.new b (ybx hg.size hb)
 .intro i b hi;rw[en_];rcases hmr i _ hi with h1|⟨_,h1⟩
  .exact ok.own i b h1
  .rcases hmi with h5|⟨b',h5,h6,_⟩
   .rw[h5]at h1;cases h1
   .rw[h5]at h1;cases h1;exact ok.new b h6
end Go.Ev
end
section
namespace Go.Ev
section
variable{P:yg}{o:Oper}{a:Act}{J:Sg}{ts:yL Dv}{hs hs':yL al}{C:yL Prop}{d:Dv}
theorem Qy{i:TypeInfo}(h:cf i=af):∃z,i.zero=ab z/\z.cells.size=i.size:=by
 unfold cf at h;split at h
 .rename_i z hz;exact⟨z,hz,by simpa using h⟩
 .cases h
structure Src(P:yg)(w:yz)(u:yc)(size:Nat)(S:yh)(m:Nat)(zX:List yh):Prop where
 ty:(∃e',P.underlying u=ab (.slice e'))\/P.underlying u=ab .string
 len:∀w',(Builtin.lenOf S).run P w'=.ok m w'
 first:(Builtin.firstCells size m S).run P w=.ok zX.toArray w
 zp:(Builtin.firstCells size m S).run P w.drew=.ok zX.toArray w.drew
 cells:zX.length=m*size
theorem PN{w:yz}{S:Nat->Nat->Prop}{u e':yc}{s s':Nat}{xs:yL Pl}{A:yO Addr}{c:Nat}(hu:P.underlying u=ab (.slice e'))(hs:s'=s\/xs=[])(hsz:aU s' xs)
 (hr:xs≠[]->∃b o us,A=ab ⟨b,o,ae⟩/\an w S xs us/\X7 w S b o us):
 ∃zX,Src P w u s (.slice A xs.length c) xs.length zX/\an w S xs zX:=by
 rcases xs with _|⟨x,xs⟩
 .refine⟨[],⟨.inl ⟨_,hu⟩,λw'=>rfl, ?_, ?_,by simp⟩,by simp[an]⟩
  .cases A <;> simp[Builtin.firstCells,loadCells,loadCellsFrom]
  .cases A <;> simp[Builtin.firstCells,loadCells,loadCellsFrom]
 .have hss:s'=s:=by
   rcases hs with h|h
   .exact h
   .cases h
  subst hss;obtain⟨b,o,us,rfl,h1,h2⟩:=hr (by simp);have hl:us.length=(x::xs).length*s':=by rw[aK _ _ h1,aL hsz]
  refine⟨us,⟨.inl ⟨_,hu⟩,λw'=>rfl, ?_, ?_,hl⟩,h1⟩
  .exact run_firstCells_some w s' _ ⟨b,o,ae⟩ _ c us hl (λj v hv=>by rw[Addr.bI];exact(h2 j v hv).1)
  .exact run_firstCells_some w.drew s' _ ⟨b,o,ae⟩ _ c us hl (λj v hv=>by rw[Addr.bI];exact(h2 j v hv).1)
theorem ZtV{w:yz}{t u ty e:yc}{i:TypeInfo}{S:yh}{zX:yL yh}(ht:P.underlying t=ab (.slice e))(hi:P.info? e=ab i)(hS:Src P w u i.size S 0 zX):
 (Builtin.append_ #[t,u] ty #[.slice ae 0 0,S]).run P w=.ok (.slice ae 0 0) w:=by
 obtain⟨hty,hl,hf,hfd,hc⟩:=hS
 rcases hty with⟨e'',hu⟩|hu <;>
  (simp[Builtin.append_,run_underlying ht,run_underlying hu,sizeOf,typeInfo,hi,hl,hf])
theorem zq{w:yz}{t u ty e e':yc}{i:TypeInfo}{S:yh}{m:Nat}{zX:yL yh}(ht:P.underlying t=ab (.slice e))(hi:P.info? e=ab i)(hS:Src P w u i.size S m zX)
 (h1:∀v,v∈zX->v.oneCell'=af) {g n cap:Nat} {cur:Array yh} (hg:w.heap[g]? =ab (.cells cur e' (0,0))) (hroom:n+m<=cap) (hcur:cur.size=cap*i.size):
 (Builtin.append_ #[t,u] ty #[.slice (ab ⟨g,0,ae⟩) n cap,S]).run P w=
   .ok (.slice (ab ⟨g,0,ae⟩) (n+m) cap) (w.setRow g (cur.toList.take (n*i.size)++zX++cur.toList.drop (n*i.size+zX.length)).toArray):=by
 obtain⟨hty,hl,hf,hfd,hc⟩:=hS;have hfit:n*i.size+zX.length<=cur.size:=by rw[hc,hcur, <-yav];exact ycg _ hroom
 have hst:=run_storeCells_at P g (n*i.size) e' zX 0 cur w hg (by simpa using hfit) h1;simp only[Nat.add_zero]at hst
 rcases hty with⟨e'',hu⟩|hu <;>
  (simp[Builtin.append_,run_underlying ht,run_underlying hu,sizeOf,typeInfo,hi,hl,hroom,hf,Addr.add_lit,hst])
theorem zr{w:yz}{t u ty e:yc}{i:TypeInfo}{z:yh}{S:yh}{m:Nat}{zX olds:yL yh}(ht:P.underlying t=ab (.slice e))(hi:P.info? e=ab i)(hz:i.zero=ab z)
 (hS:Src P w u i.size S m zX) {A:yO Addr} {n cap:Nat} (hold:(Builtin.firstCells i.size n (.slice A n cap)).run P w.drew=.ok olds.toArray w.drew) (hroom:cap < n+m)
 (h63:n+m<=maxLen) (hb:(n+m)*i.bytes<=Zr):
 (Builtin.append_ #[t,u] ty #[.slice A n cap,S]).run P w=
   .ok (.slice (ab ⟨w.heap.size,0,ae⟩) (n+m) (grownCap w (n+m) cap e)) (w.drew.alloc (.cells (olds.toArray++zX.toArray++Builtin.zeroCells z.cells (grownCap w (n+m) cap e - (n+m))) e)):=by
 obtain⟨hty,hl,hf,hfd,hc⟩:=hS;have hn:¬(n+m<=cap):=by omega
 have h63':¬(9223372036854775807 < ((n:Int)+(m:Int))):=by
  simp only[maxLen]at h63;omega
 have hfit:=growslice_fits (old:=cap) hroom (by simpa[Zr] using hb);have h48':¬(281474976710656 < Builtin.nextslicecap (n+m) cap*i.bytes):=by omega
 rcases hty with⟨e'',hu⟩|hu <;>
  (simp[Builtin.append_,run_underlying ht,run_underlying hu,sizeOf,typeInfo,zeroValue,hi,hz,hl,hn,h63',h48',Question.forced,hfd,hold,newRow,grownCap]
   congr 2;apply Array.ext';simp[yak])
theorem YU(w:yz)(ob:Obj)(row:yO Nat):w.grownBy (w.drew.alloc ob) row:=
 let h:=World.grownBy_alloc w.drew ob row
 ⟨h.os,h.tape,h.output,h.size,h.block⟩
theorem Q9(yM:aD J ts a){s:Nat}{u ut:yc}{x:yn}{ys:yL Pl}(h:gI P s u (Zs P ts ut x)=ab ys):
 ∃zX,Src P J.w u s (a.eval x) ys.length zX/\an J.w J.aV ys zX/\(ys≠[]->aU s ys):=by
 have hx:=Zj (P:=P) yM ut x;unfold gI at h;split at h
 .rename_i e nn s' xs hu hd;split at h
  .rename_i hc;cases h;rw[hd]at hx;obtain⟨h1,A,c,hv,h2,h3,h4,h5,h6⟩:=XL hx;rw[hv]
   have hc':s'=s\/ys=[]:=by
    rcases hc with hc|hc
    .exact .inl hc
    .exact .inr (by simpa using hc)
   obtain⟨zX,k1,k2⟩:=PN (P:=P) (w:=J.w) (c:=c) hu hc' h1 h6;refine⟨zX,k1,k2,λhne=> ?_⟩;rcases hc' with hc|hc
   .exact hc ▸ h1
   .exact absurd hc hne
  .cases h
 .rename_i e id nn s' xs hu hd;split at h
  .rename_i hc;cases h;rw[hd]at hx;obtain⟨h1,A,c,hv,h2,h3,h4,h5,h6,_⟩:=Q8 hx;rw[hv];obtain⟨zX,k1,k2⟩:=PN (P:=P) (w:=J.w) (c:=c) hu (.inl hc) h1 h6;exact⟨zX,k1,k2,λ_=>hc ▸ h1⟩
  .cases h
 .rename_i z hu hd;split at h
  .rename_i hc;cases h;subst hc;rw[hd]at hx;rw[nQ hx];have hl:(z.data.toList.map λb=>Pl.int .u8 (b.toNat:Int)).length=z.size:=by rw[yx,yau];rfl
   refine⟨z.data.toList.map λb=>Value.int .u8 (b.toNat:Int),⟨.inr hu,λw'=>by rw[hl];rfl, ?_, ?_,by simp⟩, ?_,λ_=> ?_⟩
   .rw[hl];have:=Go.Lib.run_firstCells_string (P:=P) J.w 1 z;exact this
   .rw[hl];have:=Go.Lib.run_firstCells_string (P:=P) J.w.drew 1 z;exact this
   .generalize z.data.toList=l
    induction l with
    |nil=>simp[an]
    |cons b r ih=>simp only[yad,an];exact⟨[.int .u8 b.toNat],_,rfl,by simp[aw],ih⟩
   .intro q hq;obtain⟨b,_,rfl⟩:=yby.1 hq;rfl
  .cases h
 .cases h
def my(P:yg)(J:Sg)(s:Nat)(u:yc)(S:yh)(ys:yL Pl):Prop:=∃zX,Src P J.w u s S ys.length zX/\an J.w J.aV ys zX/\(ys≠[]->aU s ys)
theorem Vc(ok:Ok J)(yM:aD J ts a){t u ty e:yc}{i:TypeInfo}{y:yn}{ys:yL Pl}(ht:P.underlying t=ab (.slice e))(hi:P.info? e=ab i)(hz:cf i=af)(hne:i.size≠0)
 (hsrc:my P J (P.cellsOf e) u (a.eval y) ys) (hb:ys.length*i.bytes<=Zr) (hm:ys.length<=maxLen):
 (ys=[]/\(Builtin.append_ #[t,u] ty #[.slice ae 0 0,a.eval y]).run P J.w=.ok (.slice ae 0 0) J.w)\/
 ∃zX yK,ys≠[]/\aU i.size ys/\an J.w J.aV ys zX/\ys.length<=grownCap J.w ys.length 0 e/\grownCap J.w ys.length 0 e<=maxLen/\
  (zX.toArray++yK:Array yh).size=grownCap J.w ys.length 0 e*i.size/\
  (Builtin.append_ #[t,u] ty #[.slice ae 0 0,a.eval y]).run P J.w=.ok (.slice (ab ⟨J.w.heap.size,0,ae⟩) ys.length (grownCap J.w ys.length 0 e)) (J.w.drew.alloc (.cells (zX.toArray++yK) e)):=by
 have hce:P.cellsOf e=i.size:=by simp[Program.cellsOf,hi]
 rw[hce]at hsrc;obtain⟨zX,hS,hr,zU⟩:=hsrc;rcases Nat.eq_zero_or_pos ys.length with h0|h0
 .refine .inl ⟨ybf h0, ?_⟩;rw[h0]at hS;exact ZtV ht hi hS
 .have hys:ys≠[]:=by
   rintro rfl;simp at h0
  obtain⟨z,hzz,hzs⟩:=Qy hz;have hg:=zr (P:=P) (ty:=ty) (A:=ae) (n:=0) (cap:=0) (olds:=[]) ht hi hzz hS (by simp[Builtin.firstCells]) (by omega) (by omega) (by simpa using hb);simp only[yaz]at hg;have hge:=grownCap_ge J.w ys.length 0 e;refine .inr ⟨zX,Builtin.zeroCells z.cells (grownCap J.w ys.length 0 e - ys.length),hys,zU hys,hr,hge,grownCap_le_maxLen J.w ys.length 0 e hm, ?_,by simpa using hg⟩;have hl:=hS.cells;simp only[Array.size_append,List.size_toArray,size_zeroCells,hzs,hl, <-yav];congr 1;omega
theorem nV{J':Sg}{b:Nat}{cells:yL yh}{cs:Array yh}{t:yc}(hb:J'.w.heap[b]? =ab (.cells cs t (0,0)))(hst:∀o,o < cells.length->J'.aV b o)(hp:cs.toList.take cells.length=cells):X7 J'.w J'.aV b 0 cells:=by
 intro j u hu;have hj:j < cells.length:=(yo.1 hu).1;rw[yaz];refine⟨?_,hst j hj⟩;rw[cell_of_row J'.w b j cs t (0,0) hb, <-ybt];rw[<-hp,ych,yW hj]at hu;exact hu
theorem zu{J':Sg}{s:Nat}{xs:yL Pl}{b c:Nat}{cells:yL yh}{cs:Array yh}{t:yc}{nn:yO Bool}(hnn:io nn (ab ⟨b,0,ae⟩))(ok:Ok J')(zU:aU s xs)(hr:an J'.w J'.aV xs cells)(hb:J'.w.heap[b]? =ab (.cells cs t (0,0)))
 (hnew:J'.B b) (hun:∀(id:Nat),J'.m[id]? ≠ab (ab b)) (hp:cs.toList.take cells.length=cells) (hc:xs.length<=c) (hm:c<=maxLen):yJ J' (.p (.sl nn s xs)) (.slice (ab ⟨b,0,ae⟩) xs.length c):=
 Yl zU hc hm hnn (by simp) (λ_=>⟨b,0,cells,rfl,hr,nV hb (λo _=>OX ok hnew hun) hp⟩)
theorem lb{s:Nat}{v:yh}(h:yJ J (.p (.sl (ab ag) s [])) v):v=.slice ae 0 0:=by
 obtain⟨_,A,c,rfl,_,_,hA,hc,_⟩:=XL h;have:A=ae:=by simpa using hA ag rfl
 subst this;rw[hc rfl];rfl
theorem Ya{x y:yn}{t u:yc}{c:Call}(ho:o.op=.call c)(hc:c.callee=.builtin .append)(yR:c.args.toList=[x,y])(htys:c.argTypes.toList=[t,u]){v:yh}{w':yz}
 (h:(Builtin.append_ #[t,u] o.type #[a.eval x,a.eval y]).run P J.w=.ok v w'):(execOp a.eval o).run P J.w=.ok (.value v) w':=by
 have h1:c.args= #[x,y]:=by rw[<-ycb (xs:=c.args),yR]
 have h2:c.argTypes= #[t,u]:=by rw[<-ycb (xs:=c.argTypes),htys]
 simp[execOp,ho,resolve,hc,h1,h2,invoke,builtin,h]
theorem mz{x:yn}{t:yc}{c:Call}(ho:o.op=.call c)(hc:c.callee=.builtin .len)(yR:c.args.toList=[x])(htys:c.argTypes.toList=[t]){v:yh}
 (h:(Builtin.len_ #[t] o.type #[a.eval x]).run P J.w=.ok v J.w):(execOp a.eval o).run P J.w=.ok (.value v) J.w:=by
 have h1:c.args= #[x]:=by rw[<-ycb (xs:=c.args),yR]
 have h2:c.argTypes= #[t]:=by rw[<-ycb (xs:=c.argTypes),htys]
 simp[execOp,ho,resolve,hc,h1,h2,invoke,builtin,h]
theorem ZIN{x y:yn}{t u:yc}{c:Call}(ho:o.op=.call c)(hc:c.callee=.builtin .max)(yR:c.args.toList=[x,y])(htys:c.argTypes.toList=[t,u]){v:yh}
 (h:(Builtin.max_ #[t,u] o.type #[a.eval x,a.eval y]).run P J.w=.ok v J.w):(execOp a.eval o).run P J.w=.ok (.value v) J.w:=by
 have h1:c.args= #[x,y]:=by rw[<-ycb (xs:=c.args),yR]
 have h2:c.argTypes= #[t,u]:=by rw[<-ycb (xs:=c.argTypes),htys]
 simp[execOp,ho,resolve,hc,h1,h2,invoke,builtin,h]
theorem tL(ok:Ok J)(id:Nat):J.m[id]? ≠ab (ab J.w.heap.size):=λh=>by
 have:=ok.lt id _ h;omega
theorem ZwJ(ok:Ok J)(yM:aD J ts a){c:Call}{x y:yn}{t u e:yc}{i:TypeInfo}{ys:yL Pl}(ho:o.op=.call c)(zL:c.callee=.builtin .append)(yR:c.args.toList=[x,y])
 (htys:c.argTypes.toList=[t,u]) (ht:P.underlying t=ab (.slice e)) {s:Nat} (hx:Zs P ts t x=.p (.sl (ab ag) s [])) (hi:P.info? e=ab i) (hz:cf i=af) (hne:i.size≠0)
 (hsrc:gI P (P.cellsOf e) u (Zs P ts u y)=ab ys) (hb:ys.length*i.bytes<=Zr) (hm:ys.length<=maxLen):YH P o a J (.p (.sl ae (P.cellsOf e) ys)) J.H:=by
 have hxv:=Zj (P:=P) yM t x;rw[hx]at hxv;have hxn:=lb hxv;have hce:P.cellsOf e=i.size:=by simp[Program.cellsOf,hi]
 rcases Vc (P:=P) (ty:=o.type) ok yM ht hi hz hne (Q9 (P:=P) yM hsrc) hb hm with⟨rfl,zB⟩|⟨zX,yK,hys,zU,hr,hge,hcm,hcs,zB⟩
 .refine Zh ok (Ya ho zL yR htys (by rw[hxn];exact zB)) ?_;exact Yl (λ_ hx=>by cases hx) (ym _) (by simp[maxLen]) (Z7 _) (λ_=>rfl) (λh=>absurd rfl h)
 .obtain⟨to,ok'⟩:=pN ok (YU J.w (.cells (zX.toArray++yK) e) ae);refine ZK (J':={ J with w:=J.w.drew.alloc (.cells (zX.toArray++yK) e)}) (Ya ho zL yR htys (by rw[hxn];exact zB)) to ok' ?_;rw[hce];have zW:zX.length=ys.length*i.size:=by rw[aK _ _ hr,aL zU]
  refine zu (Z7 _) ok' zU (aC to.leaf.cells _ _ hr) (b:=J.w.heap.size) (cells:=zX) (heap_alloc_new J.w.drew _) (ok.new _ (ym _)) (tL ok) (by simp) hge hcm
theorem Zzc(ok:Ok J)(yM:aD J ts a){c:Call}{x y:yn}{t u e:yc}{i:TypeInfo}{ys:yL Pl}(ho:o.op=.call c)(zL:c.callee=.builtin .append)(yR:c.args.toList=[x,y])
 (htys:c.argTypes.toList=[t,u]) (ht:P.underlying t=ab (.slice e)) {s:Nat} (hx:Zs P ts t x=.p (.sl (ab ag) s [])) (hi:P.info? e=ab i) (hz:cf i=af) (hne:i.size≠0)
 (hsrc:gI P (P.cellsOf e) u (Zs P ts u y)=ab ys) (hb:ys.length*i.bytes<=Zr) (hm:ys.length<=maxLen):YH P o a J (.own J.H.length ae i.size ys) (J.H++[.log i.size e ys]):=by
 have hxv:=Zj (P:=P) yM t x;rw[hx]at hxv;have hxn:=lb hxv;rcases Vc (P:=P) (ty:=o.type) ok yM ht hi hz hne (Q9 (P:=P) yM hsrc) hb hm with⟨rfl,zB⟩|⟨zX,yK,hys,zU,hr,hge,hcm,hcs,zB⟩
 .obtain⟨to,ok'⟩:=Wj (J':={ J with m:=J.m++[ae],H:=J.H++[.log i.size e []]}) ok rfl rfl rfl rfl (World.grownBy.refl J.w ae) (.inl rfl) (λ_=>.inl ⟨rfl,rfl⟩);refine ZK (J':={ J with m:=J.m++[ae],H:=J.H++[.log i.size e []]}) (Ya ho zL yR htys (by rw[hxn];exact zB)) to ok' ?_;rw[Ze rfl];simp only[yH];refine⟨λ_ hx=>(by cases hx),ae,0,rfl,ym _,by simp[maxLen],Z7 _,λ_=>rfl,λh=>absurd rfl h,e,[],by simp,ym _,λ_=>.inl ⟨?_,rfl,rfl⟩⟩;rw[yam (by rw[ok.len];exact ym _),ok.len];simp
 .let J':Sg:={ J with m:=J.m++[ab J.w.heap.size],H:=J.H++[.log i.size e ys],w:=J.w.drew.alloc (.cells (zX.toArray++yK) e)};have zW:zX.length=ys.length*i.size:=by rw[aK _ _ hr,aL zU]
  have zV:J'.w.heap[J.w.heap.size]? =ab (.cells (zX.toArray++yK) e (0,0)):=heap_alloc_new J.w.drew _
  have hmlast:J'.m[J.H.length]? =ab (ab J.w.heap.size):=by
   show(J.m++[ab J.w.heap.size])[J.H.length]? =_;rw[yam (by rw[ok.len];exact ym _),ok.len];simp
  obtain⟨to,ok'⟩:=Wj (J':=J') ok rfl rfl rfl rfl (YU J.w (.cells (zX.toArray++yK) e) ae) (.inr ⟨_,rfl,ym _,by simp[J']⟩)
   (λleaf=>.inr ⟨J.w.heap.size,_,grownCap J.w ys.length 0 e,rfl,zV,hcs,hge,hcm,zU,by
     rw[<-zW];simpa using aC leaf.cells _ _ hr⟩)
  refine ZK (J':=J') (Ya ho zL yR htys (by rw[hxn];exact zB)) to ok' ?_;have hemp:(!ys.isEmpty)=af:=by cases ys <;> first|exact absurd rfl hys|rfl
  rw[Ze rfl];simp only[yH]
  refine⟨zU,_,_,rfl,hge,hcm,Z7 _,λh=>(by cases h),λ_=>⟨J.w.heap.size,0,zX,rfl,aC to.leaf.cells _ _ hr,nV zV (λo ho=>⟨.inr (ok.new _ (ym _)),λid e' h1 h2=> ?_⟩) (by simp)⟩,
   e,ys,by simp[J'],ym _,λ_=>.inr ⟨_,_,hmlast,rfl,zV,hcs⟩⟩
  have:id=J.H.length:=ok'.inj id J.H.length _ h1 hmlast;subst this;have h3:J'.H[J.H.length]? =ab (.log i.size e ys):=by simp[J']
  rw[h3]at h2;cases h2;show o < ys.length*i.size;omega
theorem Zzd(ok:Ok J)(yM:aD J ts a){c:Call}{x y:yn}{t u e:yc}{i:TypeInfo}{xs ys:yL Pl}{id s:Nat}{nn:yO Bool}(ho:o.op=.call c)(zL:c.callee=.builtin .append)
 (yR:c.args.toList=[x,y]) (htys:c.argTypes.toList=[t,u]) (ht:P.underlying t=ab (.slice e)) (hx:Zs P ts t x=.own id nn s xs) (hi:P.info? e=ab i) (hz:cf i=af) (hs:i.size=s) (hne:s≠0)
 (hsrc:my P J s u (a.eval y) ys) (hH:J.H[id]? =ab (.log s e xs)) (hb:(xs.length+ys.length)*i.bytes<=Zr) (hm:xs.length+ys.length<=maxLen):
 YH P o a J (.own id ae s (xs++ys)) (J.H.set id (.log s e (xs++ys))):=by
 subst hs;have hxv:=Zj (P:=P) yM t x;rw[hx]at hxv;obtain⟨h1,A,cp,hv,h2,h3,h4,h5,h6,e0,ys0,h7,h8,h9⟩:=Q8 hxv;rw[hH]at h7;cases h7;have hsrc2:=hsrc;obtain⟨zX,hS,hr,zU⟩:=hsrc2;obtain⟨z,hzz,hzs⟩:=Qy hz;have hH':=hH;have hidlt:id < J.m.length:=by rw[ok.len];exact(yo.1 hH).1
 have hmi:J.m[id]? =ab J.m[id]:=yac hidlt;have hent:=ok.dc id _ _ hH hmi
 have hall':aU i.size (xs++ys):=by
  by_cases hy:ys=[]
  .subst hy;simpa using h1
  .exact Wh h1 (zU hy)
 have hnl:zX.length=ys.length*i.size:=hS.cells;have hone:∀v,v∈zX->v.oneCell'=af:=cx _ _ hr;have zW:(xs++ys).length=xs.length+ys.length:=yr;rcases h9 rfl with⟨k1,rfl,rfl⟩|⟨b,cur,k1,rfl,k3,k4⟩
 . 
  have hxs:xs=[]:=by
   rw[hmi]at k1;rcases hent with⟨_,h⟩|⟨b,cur,cap,h,_⟩
   .exact h
   .rw[h]at k1;cases k1
  subst hxs;have hmn:J.m[id]=ae:=by rw[hmi]at k1;exact yax k1
  skip
  skip
  rcases Vc (P:=P) (ty:=o.type) (u:=u) (y:=y) (ys:=ys) ok yM ht hi hz hne (by simpa[Program.cellsOf,hi] using hsrc) (by simpa using hb) (by simpa using hm) with⟨rfl,zB⟩|⟨news',yK,hys,hall2,hr2,hge,hcm,hcs,zB⟩
  .obtain⟨to,ok'⟩:=YX (J':={ J with m:=J.m.set id ae,H:=J.H.set id (.log i.size e ([]++[]))}) (mi:=ae) (mi':=ae) ok hH (by rw[hmi,hmn]) rfl rfl rfl rfl rfl rfl rfl (ym _)
    (λ_ _ _=>rfl) (λb o v h=>by cases h) (λo _ h=>h) (.inl rfl) (λ⟨d,st,h⟩=>by cases h) (λ⟨d,st,h⟩=>by cases h) (λs e' xs h=>⟨[],by cases h;rfl,by cases h;exact ym _,λ_=>⟨rfl,λ_ _=>rfl⟩⟩) (λ_=>.inl ⟨rfl,rfl⟩)
   refine ZK (J':={ J with m:=J.m.set id ae,H:=J.H.set id (.log i.size e ([]++[]))}) (Ya ho zL yR htys (by rw[hv];exact zB)) to ok' ?_;rw[Ze rfl];simp only[yH];exact⟨λ_ hx=>(by cases hx),ae,0,rfl,ym _,by simp[maxLen],Z7 _,λ_=>rfl,λh=>absurd rfl h,e,[],aj hH,ym _,λ_=>.inl ⟨aj hmi,rfl,rfl⟩⟩
  .let J':Sg:={ J with m:=J.m.set id (ab J.w.heap.size),H:=J.H.set id (.log i.size e ([]++ys)),w:=J.w.drew.alloc (.cells (news'.toArray++yK) e)};have hl2:news'.length=ys.length*i.size:=by rw[aK _ _ hr2,aL hall2]
   have zV:J'.w.heap[J.w.heap.size]? =ab (.cells (news'.toArray++yK) e (0,0)):=heap_alloc_new J.w.drew _;have hg:=YU J.w (.cells (news'.toArray++yK) e) ae;have hblk':∀b,b < J.w.heap.size->J'.w.heap[b]? =J.w.heap[b]? :=λb hb=>hg.block b hb (by simp);have hmset:J'.m[id]? =ab (ab J.w.heap.size):=aj hmi;have hHset:J'.H[id]? =ab (.log i.size e ([]++ys)):=aj hH
   obtain⟨to,ok'⟩:=YX (J':=J') (mi:=ae) (mi':=ab J.w.heap.size) ok hH (by rw[hmi,hmn]) rfl rfl rfl rfl rfl rfl rfl hg.size
    (λb hb _=>hblk' b hb) (λb o v h=>by cases h) (λo h _=>by cases h) (.inr ⟨_,rfl,ym _,by simp[J']⟩) (λ⟨d,st,h⟩=>by cases h) (λ⟨d,st,h⟩=>by cases h)
    (λs' e' xs' h=>⟨ys,by cases h;rfl,by cases h;exact Nat.zero_le _,λhh=>by
      cases h;exact absurd (ybf (by simpa using hh)) hys⟩)
    (λleaf=>.inr ⟨J.w.heap.size,_,grownCap J.w ys.length 0 e,rfl,zV,hcs,hge,hcm,hall2,by
      show an J'.w J'.aV ([]++ys) _;rw[yv, <-hl2];simpa using aC leaf.cells _ _ hr2⟩)
   refine ZK (J':=J') (Ya ho zL yR htys (by rw[hv];exact zB)) to ok' ?_;have hemp:(!ys.isEmpty)=af:=by cases ys <;> first|exact absurd rfl hys|rfl
   rw[Ze rfl];simp only[yH]
   refine⟨hall2,_,_,rfl,hge,hcm,Z7 _,λh=>(by cases h),λ_=>⟨J.w.heap.size,0,news',rfl,aC to.leaf.cells _ _ hr2,nV zV (λo ho=>⟨.inr (ok.new _ (ym _)),λj e' g1 g2=> ?_⟩) (by simp)⟩,
    e,_,hHset,ym _,λ_=>.inr ⟨_,_,hmset,rfl,zV,hcs⟩⟩
   have:j=id:=ok'.inj j id _ g1 hmset;subst this;rw[hHset]at g2;cases g2;show o < ([]++ys).length*i.size;rw[yv];omega
 .have hmb:J.m[id]=ab b:=by rw[hmi]at k1;exact yax k1
  rcases hent with⟨h,_⟩|⟨b',cur',cap,h,g3,g4,g5,g6,g7,g8⟩
  .rw[h]at hmb;cases hmb
  .rw[hmb]at h;cases h;rw[k3]at g3;cases g3
   have hcap:cp=cap:=by
    have:cp*i.size=cap*i.size:=by rw[<-k4, <-g4]
    exact Nat.eq_of_mul_eq_mul_right (Nat.pos_of_ne_zero hne) this
   subst hcap;have hus:(cur.toList.take (xs.length*i.size)).length=xs.length*i.size:=by rw[aK _ _ g8,aL h1]
   skip
   skip
   by_cases hroom:xs.length+ys.length<=cp
   . 
    have zB:=zq (P:=P) (ty:=o.type) ht hi hS hone k3 hroom g4;let ncur:Array yh:=(cur.toList.take (xs.length*i.size)++zX++cur.toList.drop (xs.length*i.size+zX.length)).toArray;let J':Sg:={ J with m:=J.m.set id (ab b),H:=J.H.set id (.log i.size e (xs++ys)),w:=J.w.setRow b ncur};have hfit:xs.length*i.size+zX.length<=cur.size:=by rw[hnl,g4, <-yav];exact ycg _ hroom
    have hncs:ncur.size=cp*i.size:=by
     simp only[ncur,List.size_toArray,yr,ybq,yau,hus];omega
    have zV:J'.w.heap[b]? =ab (.cells ncur e (0,0)):=setRow_heap J.w b cur _ e _ k3;have hoth:∀j,b≠j->J'.w.heap[j]? =J.w.heap[j]? :=λj hj=>setRow_other J.w b j _ (Ne.symm hj);have hmset:J'.m[id]? =ab (ab b):=aj hmi;have hHset:J'.H[id]? =ab (.log i.size e (xs++ys)):=aj hH
    have hpre:∀o,o < xs.length*i.size->ncur[o]? =cur[o]? :=by
     intro o ho;simp only[ncur,List.getElem?_toArray,yak];rw[yai (by rw[hus];exact ho),ych,yW ho];simp
    have hcl:(cur.toList.take (xs.length*i.size)++zX).length=(xs++ys).length*i.size:=by
     rw[zW,yr,hus,hnl,yav]
    have htk:ncur.toList.take ((xs++ys).length*i.size)=cur.toList.take (xs.length*i.size)++zX:=by
     rw[<-hcl];exact List.take_left
    have hbl:ys.length=0->ncur=cur:=by
     intro h0;have:zX=[]:=ybf (by rw[hnl,h0];simp);apply Array.ext';simp[ncur,this]
    obtain⟨to,ok'⟩:=YX (J':=J') (mi:=ab b) (mi':=ab b) ok hH (by rw[hmi,hmb]) rfl rfl rfl rfl rfl rfl rfl (by simp[J'])
     (λj hj hne=>hoth j (λhh=>hne (by rw[hh]))) (λb' o v hb' hu hcell=>by
       cases hb';rw[cell_of_row J.w b o cur e (0,0) k3]at hcell;show(J.w.setRow b ncur).cell? ⟨b,o,ae⟩=ab v;rw[cell_of_row _ b o ncur e (0,0) zV,hpre o hu];exact hcell)
     (λo _ hu=>by
       have hu':o < xs.length*i.size:=hu;show o < (xs++ys).length*i.size;rw[zW,yav];omega) (.inl rfl) (λ⟨d,st,h⟩=>by cases h) (λ⟨d,st,h⟩=>by cases h)
     (λs' e' xs' h=>⟨xs++ys,by cases h;rfl,by cases h;simp,λhh=>by
       cases h;refine⟨rfl,λj _=> ?_⟩;have h0:ys.length=0:=by rw[zW]at hh;omega
       by_cases hj:b=j
       .subst hj;rw[zV,k3,hbl h0]
       .exact hoth j hj⟩)
     (λleaf=>.inr ⟨b,ncur,cp,rfl,zV,hncs,by rw[zW];exact hroom,h3,hall',by
       rw[htk];exact Yh (aC leaf.cells _ _ g8) (aC leaf.cells _ _ hr)⟩)
    refine ZK (J':=J') (Ya ho zL yR htys (by rw[hv];exact zB)) to ok' ?_;rw[Ze rfl];simp only[yH,Bool.true_or]
    refine⟨hall',ab ⟨b,0,ae⟩,cp,by rw[zW],by rw[zW];exact hroom,h3,Z7 _,λh=>(by cases h),λ_=>⟨b,0,cur.toList.take (xs.length*i.size)++zX,rfl,
     Yh (aC to.leaf.cells _ _ g8) (aC to.leaf.cells _ _ hr),nV zV (λo ho=> ?_) ?_⟩,e,_,hHset,ym _,λ_=>.inr ⟨b,ncur,hmset,rfl,zV,hncs⟩⟩
    .refine⟨.inr (ok.own id b k1),λj e' g1 g2=> ?_⟩;have:j=id:=ok'.inj j id _ g1 hmset;subst this;rw[hHset]at g2;cases g2;show o < (xs++ys).length*i.size;rw[hcl]at ho;exact ho
    .rw[hcl];exact htk
   . 
    have hgr:cp < xs.length+ys.length:=by omega
    have hold:(Builtin.firstCells i.size xs.length (.slice (ab ⟨b,0,ae⟩) xs.length cp)).run P J.w.drew=.ok (cur.toList.take (xs.length*i.size)).toArray J.w.drew:=
     run_firstCells_some J.w.drew i.size _ ⟨b,0,ae⟩ _ cp _ hus (λj v hj=>by
      rw[Addr.bI,yaz];show J.w.cell? ⟨b,j,ae⟩=ab v
      have hj2:j < xs.length*i.size:=by
       have:=(yo.1 hj).1;rw[hus]at this;exact this
      rw[cell_of_row J.w b j cur e (0,0) k3];rw[ych,yW hj2]at hj;simpa using hj)
    have zB:=zr (P:=P) (ty:=o.type) ht hi hzz hS hold hgr hm hb;have hge:=grownCap_ge J.w (xs.length+ys.length) cp e;have hcm:=grownCap_le_maxLen J.w (xs.length+ys.length) cp e hm;let q:Nat:=grownCap J.w (xs.length+ys.length) cp e;let yK:Array yh:=Builtin.zeroCells z.cells (q - (xs.length+ys.length));let ncur:Array yh:=(cur.toList.take (xs.length*i.size)).toArray++zX.toArray++yK;let J':Sg:={ J with m:=J.m.set id (ab J.w.heap.size),H:=J.H.set id (.log i.size e (xs++ys)),w:=J.w.drew.alloc (.cells ncur e)}
    have hcl:(cur.toList.take (xs.length*i.size)++zX).length=(xs++ys).length*i.size:=by
     rw[zW,yr,hus,hnl,yav]
    have hncs:ncur.size=q*i.size:=by
     simp only[ncur,yK,Array.size_append,List.size_toArray,size_zeroCells,hzs,hus,hnl, <-yav];congr 1;omega
    have htk:ncur.toList.take ((xs++ys).length*i.size)=cur.toList.take (xs.length*i.size)++zX:=by
     rw[<-hcl];have:ncur.toList=(cur.toList.take (xs.length*i.size)++zX)++yK.toList:=by simp[ncur]
     rw[this];exact List.take_left
    have zV:J'.w.heap[J.w.heap.size]? =ab (.cells ncur e (0,0)):=heap_alloc_new J.w.drew _;have hg:=YU J.w (.cells ncur e) ae;have hblk':∀b,b < J.w.heap.size->J'.w.heap[b]? =J.w.heap[b]? :=λb hb=>hg.block b hb (by simp);have hmset:J'.m[id]? =ab (ab J.w.heap.size):=aj hmi;have hHset:J'.H[id]? =ab (.log i.size e (xs++ys)):=aj hH
    obtain⟨to,ok'⟩:=YX (J':=J') (mi:=ab b) (mi':=ab J.w.heap.size) ok hH (by rw[hmi,hmb]) rfl rfl rfl rfl rfl rfl rfl hg.size
     (λb hb _=>hblk' b hb) (λb' o v hb' _ hcell=>by
       rw[World.cell?_of_block (w:=J.w) (hblk' b' (Wu hcell))];exact hcell)
     (λo h _=>by
       have:=ok.lt id b k1;cases h;omega) (.inr ⟨_,rfl,ym _,by simp[J']⟩) (λ⟨d,st,h⟩=>by cases h) (λ⟨d,st,h⟩=>by cases h)
     (λs' e' xs' h=>⟨xs++ys,by cases h;rfl,by cases h;simp,λhh=>by
       cases h;rw[zW]at hh;omega⟩)
     (λleaf=>.inr ⟨J.w.heap.size,ncur,q,rfl,zV,hncs,by rw[zW];exact hge,hcm,hall',by
       rw[htk];exact Yh (aC leaf.cells _ _ g8) (aC leaf.cells _ _ hr)⟩)
    refine ZK (J':=J') (Ya ho zL yR htys (by rw[hv];exact zB)) to ok' ?_;rw[Ze rfl];simp only[yH,Bool.true_or]
    refine⟨hall',ab ⟨J.w.heap.size,0,ae⟩,q,by rw[zW],by rw[zW];exact hge,hcm,Z7 _,λh=>(by cases h),λ_=>⟨J.w.heap.size,0,cur.toList.take (xs.length*i.size)++zX,rfl,
     Yh (aC to.leaf.cells _ _ g8) (aC to.leaf.cells _ _ hr),nV zV (λo ho=> ?_) ?_⟩,e,_,hHset,ym _,λ_=>.inr ⟨_,ncur,hmset,rfl,zV,hncs⟩⟩
    .refine⟨.inr (ok.new _ (ym _)),λj e' g1 g2=> ?_⟩;have:j=id:=ok'.inj j id _ g1 hmset;subst this;rw[hHset]at g2;cases g2;show o < (xs++ys).length*i.size;rw[hcl]at ho;exact ho
    .rw[hcl];exact htk
theorem pU{t:yc}{len:Nat}{parts:Array (Nat×yn)}(ho:o.op=.buildSlice t len parts){v:yh}{w':yz}
 (h:(Instr.buildSlice t len (parts.map λq=>(q.1,a.eval q.2))).run P J.w=.ok v w'):(execOp a.eval o).run P J.w=.ok (.value v) w':=by
 simp[execOp,ho,h]
theorem tM(yM:aD J ts a){t e:yc}{i:TypeInfo}{len:Nat}{parts:Array (Nat×yn)}{xs:yL Pl}(hu:P.underlying t=ab (.slice e))(hi:P.info? e=ab i)(hz:cf i=af)
 (hsz:len*i.size<=16777216) (hl:XK P ts e (P.cellsOf e) len parts.toList=ab xs):
 ∃cells:Array yh,(Instr.buildSlice t len (parts.map λq=>(q.1,a.eval q.2))).run P J.w=.ok (.slice (ab ⟨J.w.heap.size,0,ae⟩) len len) (J.w.alloc (.cells cells e))/\
  an J.w J.aV xs cells.toList/\xs.length=len/\aU i.size xs/\cells.size=len*i.size:=by
 have hce:P.cellsOf e=i.size:=by simp[Program.cellsOf,hi]
 rw[hce]at hl
 obtain⟨cells,h1,h2,h3,h4⟩:=PM (P:=P) (t:=t) (parts:=parts.map λq=>(q.1,a.eval q.2)) (Q:=λcells=>an J.w J.aV xs cells.toList/\xs.length=len/\aU i.size xs) J.w hu hi hz hsz (λZ hZ=>by
  obtain⟨cells,k1,k2⟩:=ZHy (P:=P) yM hl Z hZ;exact⟨cells,by rw[ycq];exact k1,k2⟩)
 exact⟨cells,h1,h2,h3,h4,by rw[<-yau,aK _ _ h2,aL h4,h3]⟩
theorem PO(ok:Ok J)(yM:aD J ts a){t e:yc}{i:TypeInfo}{len:Nat}{parts:Array (Nat×yn)}{xs:yL Pl}(ho:o.op=.buildSlice t len parts)(hu:P.underlying t=ab (.slice e))
 (hi:P.info? e=ab i) (hz:cf i=af) (hne:i.size≠0) (hsz:len*i.size<=16777216) (hl:XK P ts e (P.cellsOf e) len parts.toList=ab xs):YH P o a J (.p (.sl (ab af) i.size xs)) J.H:=by
 obtain⟨cells,zB,hr,zW,zU,hcs⟩:=tM (P:=P) yM hu hi hz hsz hl;obtain⟨to,ok'⟩:=pN ok (World.grownBy_alloc J.w (.cells cells e) ae)
 have hle:len<=maxLen:=by
  have:=Nat.le_mul_of_pos_right len (Nat.pos_of_ne_zero hne);simp only[maxLen];omega
 refine ZK (J':={ J with w:=J.w.alloc (.cells cells e)}) (pU ho zB) to ok' ?_;rw[<-zW];exact zu (Q6 rfl) ok' zU (aC to.leaf.cells _ _ hr) (b:=J.w.heap.size) (heap_alloc_new J.w _) (ok.new _ (ym _)) (tL ok) (ycr (ym _)) (ym _) (by rw[zW];exact hle)
theorem ZHz(ok:Ok J)(yM:aD J ts a){t e:yc}{i:TypeInfo}{len:Nat}{parts:Array (Nat×yn)}{xs:yL Pl}(ho:o.op=.buildSlice t len parts)(hu:P.underlying t=ab (.slice e))
 (hi:P.info? e=ab i) (hz:cf i=af) (hne:i.size≠0) (hsz:len*i.size<=16777216) (hl:XK P ts e (P.cellsOf e) len parts.toList=ab xs):
 YH P o a J (.own J.H.length (ab af) i.size xs) (J.H++[.log i.size e xs]):=by
 obtain⟨cells,zB,hr,zW,zU,hcs⟩:=tM (P:=P) yM hu hi hz hsz hl
 have hle:len<=maxLen:=by
  have:=Nat.le_mul_of_pos_right len (Nat.pos_of_ne_zero hne);simp only[maxLen];omega
 let J':Sg:={ J with m:=J.m++[ab J.w.heap.size],H:=J.H++[.log i.size e xs],w:=J.w.alloc (.cells cells e)};have zV:J'.w.heap[J.w.heap.size]? =ab (.cells cells e (0,0)):=heap_alloc_new J.w _
 have hmlast:J'.m[J.H.length]? =ab (ab J.w.heap.size):=by
  show(J.m++[ab J.w.heap.size])[J.H.length]? =_;rw[yam (by rw[ok.len];exact ym _),ok.len];simp
 have htk:cells.toList.take (xs.length*i.size)=cells.toList:=ycr (by rw[zW, <-hcs];simp)
 obtain⟨to,ok'⟩:=Wj (J':=J') ok rfl rfl rfl rfl (World.grownBy_alloc J.w (.cells cells e) ae) (.inr ⟨_,rfl,ym _,by simp[J']⟩)
  (λleaf=>.inr ⟨J.w.heap.size,cells,len,rfl,zV,hcs,by rw[zW];exact ym _,hle,zU,by rw[htk];exact aC leaf.cells _ _ hr⟩)
 refine ZK (J':=J') (pU ho zB) to ok' ?_;rw[Ze rfl];simp only[yH]
 refine⟨zU,ab ⟨J.w.heap.size,0,ae⟩,len,by rw[zW],by rw[zW];exact ym _,hle,Q6 rfl,λh=>(by cases h),λ_=>⟨J.w.heap.size,0,cells.toList,rfl,aC to.leaf.cells _ _ hr,nV zV (λo' ho'=>⟨.inr (ok.new _ (ym _)),λid e' h1 h2=> ?_⟩) (ycr (ym _))⟩,
  e,xs,by simp[J'],ym _,λ_=>.inr ⟨_,cells,hmlast,rfl,zV,hcs⟩⟩
 have:id=J.H.length:=ok'.inj id J.H.length _ h1 hmlast;subst this;have h3:J'.H[J.H.length]? =ab (.log i.size e xs):=by simp[J']
 rw[h3]at h2;cases h2;show o' < xs.length*i.size;rw[zW, <-hcs];simpa using ho'
theorem PP(ok:Ok J){t:yc}{dd:Dv}{v:yh}{st:Bool}(hsol:dd.bE=af)(hr:yJ J dd v)(hx:(execOp a.eval o).run P J.w=.ok (.value (.pointer (ab ⟨J.w.heap.size,0,ae⟩))) (J.w.alloc (.cells v.cells t))):
 YH P o a J (.ak J.H.length 0 []) (J.H++[.var dd st]):=by
 have hcells:=WO hsol hr;let J':Sg:={ J with m:=J.m++[ab J.w.heap.size],H:=J.H++[.var dd st],w:=J.w.alloc (.cells v.cells t)};have zV:J'.w.heap[J.w.heap.size]? =ab (.cells v.cells t (0,0)):=heap_alloc_new J.w _;have hsz:=XB _ _ hcells
 have hmlast:J'.m[J.H.length]? =ab (ab J.w.heap.size):=by
  show(J.m++[ab J.w.heap.size])[J.H.length]? =_;rw[yam (by rw[ok.len];exact ym _),ok.len];simp
 obtain⟨to,ok'⟩:=Wj (J':=J') ok rfl rfl rfl rfl (World.grownBy_alloc J.w (.cells v.cells t) ae) (.inr ⟨_,rfl,ym _,by simp[J']⟩)
  (λleaf=>⟨J.w.heap.size,v.cells,t,rfl,zV,by rw[<-hsz,ycr (ym _)];exact ZZ leaf dd _ hcells,by rw[<-hsz];simp⟩)
 refine ZK (J':=J') hx to ok' ?_;rw[Ze rfl];simp only[yH];exact⟨_,hmlast,⟨dd,st,by simp[J']⟩,rfl⟩
theorem ZOd(ok:Ok J){t:yc}{dd:Dv}{v:yh}{st:Bool}{id:Nat}(hid:J.H[id]? =ab .gone)(hsol:dd.bE=af)(hr:yJ J dd v)(hx:(execOp a.eval o).run P J.w=.ok (.value (.pointer (ab ⟨J.w.heap.size,0,ae⟩))) (J.w.alloc (.cells v.cells t))):
 YH P o a J (.ak id 0 []) (J.H.set id (.var dd st)):=by
 have hcells:=WO hsol hr;have hlt:id < J.m.length:=by rw[ok.len];exact(yo.1 hid).1
 have hm:J.m[id]? =ab J.m[id]:=yac hlt;let J':Sg:={ J with m:=J.m.set id (ab J.w.heap.size),H:=J.H.set id (.var dd st),w:=J.w.alloc (.cells v.cells t)};have zV:J'.w.heap[J.w.heap.size]? =ab (.cells v.cells t (0,0)):=heap_alloc_new J.w _;have hg:=World.grownBy_alloc J.w (.cells v.cells t) ae;have hsz:=XB _ _ hcells;have hself:J'.m[id]? =ab (ab J.w.heap.size):=aj hm;have hHself:J'.H[id]? =ab (.var dd st):=aj hid
 obtain⟨to,ok'⟩:=YX (J':=J') (mi:=J.m[id]) (mi':=ab J.w.heap.size) ok hid hm rfl rfl rfl rfl rfl rfl rfl hg.size
  (λj hj _=>hg.block j hj (by simp)) (λb o v hb _ hc=>by
    have hj:=ok.lt id b (by rw[hm,hb]);rw[World.cell?_of_block (w:=J.w) (hg.block b hj (by simp))];exact hc) (λo he hu=>by
    have hj:=ok.lt id _ (by rw[hm, <-he]);omega) (.inr ⟨_,rfl,ym _,by simp[J']⟩) (λ⟨d,st,h⟩=>by cases h) (λ⟨d,st,h⟩=>by cases h) (λs e xs h=>by cases h)
  (λleaf=>⟨J.w.heap.size,v.cells,t,rfl,zV,by rw[<-hsz,ycr (ym _)];exact ZZ leaf dd _ hcells,by rw[<-hsz];simp⟩)
  (λv s st e d h=>by cases h)
 refine ZK (J':=J') hx to ok' ?_;rw[Ze rfl];simp only[yH];exact⟨_,hself,⟨dd,st,hHself⟩,rfl⟩
theorem ZEb(ok:Ok J){t:yc}{i:TypeInfo}{id:Nat}(hid:J.H[id]? =ab .gone)(ho:o.op=.alloc t)(hi:P.info? t=ab i)(hz:i.zero.isSome=af)(hk:gu P t (YP P t)=af)(hsol:(YP P t).bE=af):
 YH P o a J (.ak id 0 []) (J.H.set id (.var (YP P t) af)):=by
 cases hzz:i.zero with
 |none=>simp[hzz]at hz
 |some z=>
  have hr:yJ J (YP P t) z:=by
   unfold YP;rw[hi];simp only[hzz];exact WW
  refine ZOd (v:=z) (t:=t) ok hid hsol hr ?_;simp[execOp,ho,Instr.alloc,zeroValue,typeInfo,hi,hzz,newVar,newRow]
theorem ZLZ(ok:Ok J){t:yc}{i:TypeInfo}(ho:o.op=.alloc t)(hi:P.info? t=ab i)(hz:i.zero.isSome=af)(hk:gu P t (YP P t)=af)(hsol:(YP P t).bE=af):
 YH P o a J (.ak J.H.length 0 []) (J.H++[.var (YP P t) af]):=by
 cases hzz:i.zero with
 |none=>simp[hzz]at hz
 |some z=>
  have hr:yJ J (YP P t) z:=by
   unfold YP;rw[hi];simp only[hzz];exact WW
  refine PP (v:=z) (t:=t) ok hsol hr ?_;simp[execOp,ho,Instr.alloc,zeroValue,typeInfo,hi,hzz,newVar,newRow]
theorem ZP1(ok:Ok J){t:yc}{x:yn}{dd:Dv}(ho:o.op=.box t x)(hsol:dd.bE=af)(hr:yJ J dd (a.eval x)):YH P o a J (.ak J.H.length 0 []) (J.H++[.var dd af]):=by
 refine PP (v:=a.eval x) (t:=t) ok hsol hr ?_;simp[execOp,ho,Instr.box,newVar,newRow]
theorem nW{J:Sg}:∀(yQ:yL Nat)(dd:Dv)(hs hs':yL al)(C:yL Prop)(off:Nat)(sub:Dv)(us:yL yh),Yf dd yQ hs=ab (C,off,sub,hs')->bc C->yH J dd us->
 ∃x y z,us=x++(y++z)/\x.length=off/\yH J sub y
 |[],dd,hs,hs',C,off,sub,us,h,hc,hr=>by
  simp only[Yf,yj,yl]at h;obtain⟨rfl,rfl,rfl,rfl⟩:=h
  exact⟨[],us,[],by simp,rfl,hr⟩
 |i::yQ,dd,hs,hs',C,off,sub,us,h,hc,hr=>by
  cases dd with
  |p q=>
   cases q with
   |agg xs=>
    simp only[Yf]at h;split at h
    .rename_i x hx;simp only[yp,yl]at h;obtain⟨⟨C1,off1,sub1,hs1⟩,h1,rfl,rfl,rfl,rfl⟩:=h;simp only[yH,aw]at hr;obtain⟨p1,p2,p3,rfl,h2,h3,_⟩:=kf hr hx;obtain⟨q1,q2,q3,rfl,h4,h5⟩:=nW yQ (.p x) _ _ _ _ _ p2 h1 hc (by simpa[yH] using h3);exact⟨p1++q1,q2,q3++p3,by simp,by rw[yr,h2,h4],h5⟩
    .cases h
   |arr n s xs=>
    simp only[Yf]at h;split at h
    .rename_i y hs1;simp only[yp,yl]at h;obtain⟨⟨C1,off1,sub1,hs1⟩,h1,rfl,rfl,rfl,rfl⟩:=h;obtain⟨hx,hc⟩:=hc;simp only[yH,aw]at hr;obtain⟨hl,zU,hr⟩:=hr;obtain⟨p1,p2,p3,rfl,h2,h3,_⟩:=kf hr hx;obtain⟨q1,q2,q3,rfl,h4,h5⟩:=nW yQ (.p y) _ _ _ _ _ p2 h1 hc (by simpa[yH] using h3);have hi:i < xs.length:=(yo.1 hx).1;exact⟨p1++q1,q2,q3++p3,by simp,by rw[yr,h2,h4,aL (WV zU i),yae,yay (Nat.le_of_lt hi)],h5⟩
    .cases h
   |_=>simp[Yf]at h
  |agg xs=>
   simp only[Yf]at h;split at h
   .rename_i x hx;simp only[yp,yl]at h;obtain⟨⟨C1,off1,sub1,hs1⟩,h1,rfl,rfl,rfl,rfl⟩:=h;simp only[yH]at hr;obtain⟨p1,p2,p3,rfl,h2,h3,_⟩:=kY hr hx;obtain⟨q1,q2,q3,rfl,h4,h5⟩:=nW yQ x _ _ _ _ _ p2 h1 hc h3;exact⟨p1++q1,q2,q3++p3,by simp,by rw[yr,h2,h4],h5⟩
   .cases h
  |arr n s xs=>
   simp only[Yf]at h;split at h
   .rename_i x hx;simp only[yp,yl]at h;obtain⟨⟨C1,off1,sub1,hs1⟩,h1,rfl,rfl,rfl,rfl⟩:=h;simp only[yH]at hr;obtain⟨hl,zU,hr⟩:=hr;obtain⟨p1,p2,p3,rfl,h2,h3,_⟩:=kY hr hx;obtain⟨q1,q2,q3,rfl,h4,h5⟩:=nW yQ x _ _ _ _ _ p2 h1 hc h3;have hi:i < xs.length:=(yo.1 hx).1;exact⟨p1++q1,q2,q3++p3,by simp,by rw[yr,h2,h4,cM (λy hy=>zU y (ybv hy)),yae,yay (Nat.le_of_lt hi)],h5⟩
   .cases h
  |_=>simp[Yf]at h
theorem tN(ok:Ok J){id off:Nat}{yQ:yL Nat}{dd sub:Dv}{st:Bool}{b:Nat}{C:yL Prop}{off':Nat}(hm:J.m[id]? =ab (ab b))(hH:J.H[id]? =ab (.var dd st))(hg:Yf dd yQ hs=ab (C,off',sub,hs'))(hc:bc C)(he:off'=off):
 ∃cs t x y z,J.w.heap[b]? =ab (.cells cs t (0,0))/\dd.size<=cs.size/\cs.toList.take dd.size=x++(y++z)/\x.length=off/\yH J sub y/\yH J dd (cs.toList.take dd.size)/\
  (∀(j:Nat)(u:yh),y[j]? =ab u->J.w.cell? ⟨b,off+j,ae⟩=ab u):=by
 obtain⟨b',cs,t,h1,h2,h3,h4⟩:=ok.dc id _ _ hH hm;cases h1;obtain⟨x,y,z,h5,h6,h7⟩:=nW yQ dd hs hs' C off' sub _ hg hc h3;subst he;refine⟨cs,t,x,y,z,h2,h4,h5,h6,h7,h3,λj u hu=> ?_⟩;rw[cell_of_row J.w b _ cs t (0,0) h2, <-ybt, <-h6];have hj:j < y.length:=(yo.1 hu).1
 have hlt:x.length+j < dd.size:=by
  have:=congrArg List.length h5;simp only[yae,yau,yr]at this;omega
 have h8:(cs.toList.take dd.size)[x.length+j]? =ab u:=by
  rw[h5,yam (by omega),yai (by omega)];simpa using hu
 rw[ych,yW hlt]at h8;exact h8
theorem PQ{d:Dv}{s N:Nat}(h:aO d s=ab N):d.size=N*s:=by
 unfold aO at h;split at h
 .split at h
  .rename_i e;cases h;rw[e];rfl
  .cases h
 .split at h
  .rename_i e;cases h;rw[e];rfl
  .cases h
 .cases h
theorem ZHA(ok:Ok J){id off v s N:Nat}{yQ:yL Nat}{dd sub:Dv}{st:Bool}{e:yc}{b:Nat}{C:yL Prop}{off':Nat}(hm:J.m[id]? =ab (ab b))(hH:J.H[id]? =ab (.row v s st e dd))(hN:aO dd s=ab N)
 (hg:Yf dd yQ hs=ab (C,off',sub,hs')) (hc:bc C) (he:off'=off):
 ∃cs cap x y z,J.w.heap[b]? =ab (.cells cs e (0,0))/\cs.size=cap*s/\N<=cap/\cap<=maxLen/\dd.size<=cs.size/\cs.toList.take dd.size=x++(y++z)/\x.length=off/\yH J sub y/\yH J dd (cs.toList.take dd.size)/\
  (∀(j:Nat)(u:yh),y[j]? =ab u->J.w.cell? ⟨b,off+j,ae⟩=ab u):=by
 obtain⟨N',hN',h⟩:=ok.dc id _ _ hH hm;rw[hN]at hN';cases hN';rcases h with⟨h,_⟩|⟨b',cs,cap,h1,h2,h4,h5,h6,h3⟩
 .cases h
 cases h1;have hsz:=PQ hN;rw[<-hsz]at h3;have hle:dd.size<=cs.size:=by rw[hsz,h4];exact ycg _ h5
 obtain⟨x,y,z,k5,k6,k7⟩:=nW yQ dd hs hs' C off' sub _ hg hc h3;subst he;refine⟨cs,cap,x,y,z,h2,h4,h5,h6,hle,k5,k6,k7,h3,λj u hu=> ?_⟩;rw[cell_of_row J.w b _ cs e (0,0) h2, <-ybt, <-k6];have hj:j < y.length:=(yo.1 hu).1
 have hlt:x.length+j < dd.size:=by
  have:=congrArg List.length k5;simp only[yae,yau,yr]at this;omega
 have h8:(cs.toList.take dd.size)[x.length+j]? =ab u:=by
  rw[k5,yam (by omega),yai (by omega)];simpa using hu
 rw[ych,yW hlt]at h8;exact h8
theorem ZL0(ok:Ok J){id v s b:Nat}{st:Bool}{e:yc}{dd:Dv}(hm:J.m[id]? =ab (ab b))(hH:J.H[id]? =ab (.row v s st e dd)):∃N,aO dd s=ab N:=by
 obtain⟨N',hN',_⟩:=ok.dc id _ _ hH hm;exact⟨N',hN'⟩
theorem PR{id v off v' s:Nat}{yQ:yL Nat}{st:Bool}{e:yc}{dd:Dv}{u:yh}(hx:yJ J (.aY id v off yQ) u)(hH:J.H[id]? =ab (.row v' s st e dd))(hv:v'=v):∃b,u=.pointer (ab ⟨b,off,ae⟩)/\J.m[id]? =ab (ab b):=by
 obtain⟨b,o',h1,v2,s2,st2,e2,d2,h2,h3,h4⟩:=tG hx;rw[hH]at h2;cases h2;obtain⟨h5,h6⟩:=h4 hv;exact⟨b,by rw[h1,h6],h5⟩
theorem ZOe(ok:Ok J)(yM:aD J ts a){t:yc}{x:yn}(ho:o.op=.load t x)(h:bD P o ts J.H hs=ab (C,d,hs'))(hc:bc C):YH P o a J d J.H:=by
 simp only[bD,ho]at h;have hx:=Zj (P:=P) yM 0 x;split at h
 .rename_i id off yQ hd;rw[hd]at hx;split at h
  .rename_i dd st hH;split at h
   .rename_i C1 off' sub hs1 hg;split at h
    .rename_i hk;simp only[yj,yl]at h;obtain⟨rfl,rfl,rfl⟩:=h;unfold gu at hk;simp only[yi,yT]at hk;obtain⟨⟨⟨k1,k2⟩,k3⟩,k4⟩:=hk;obtain⟨hc1,hc2⟩:=Zk.1 hc;obtain⟨b,hm,hv,hx⟩:=la hx;obtain⟨cs,t',p1,p2,p3,_,_,_,_,h5,_,h6⟩:=tN ok hm hH hg hc1 hc2.1;obtain⟨v,h7,h8⟩:=tC (P:=P) h5 h6 k1 k4 k3 k2;exact Zh ok (by simp[execOp,ho,hx,Instr.loadAt,Instr.sureAddr,h7]) h8
    .cases h
   .cases h
  .cases h
 .rename_i id v off yQ hd;rw[hd]at hx;split at h
  .rename_i v' s' st e dd hH;split at h
   .rename_i C1 off' sub hs1 hg;split at h
    .rename_i hk;simp only[yj,yl]at h;obtain⟨rfl,rfl,rfl⟩:=h;unfold gu at hk;simp only[yi,yT]at hk;obtain⟨⟨⟨⟨k1,k2⟩,k3⟩,k4⟩,hv⟩:=hk;obtain⟨hc1,hc2⟩:=Zk.1 hc;obtain⟨b,hx,hm⟩:=PR hx hH hv;obtain⟨N,hN⟩:=ZL0 ok hm hH;obtain⟨cs,cap,p1,p2,p3,_,_,_,_,_,_,_,h5,_,h6⟩:=ZHA ok hm hH hN hg hc1 hc2.1;obtain⟨v,h7,h8⟩:=tC (P:=P) h5 h6 k1 k4 k3 k2;exact Zh ok (by simp[execOp,ho,hx,Instr.loadAt,Instr.sureAddr,h7]) h8
    .cases h
   .cases h
  .cases h
 .cases h
end
end Go.Ev
end
