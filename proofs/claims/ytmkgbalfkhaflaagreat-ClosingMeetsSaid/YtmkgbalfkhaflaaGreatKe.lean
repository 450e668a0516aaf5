/- Parts of the proof, in one file. -/
import Derived.Test.YtmkgbalfkhaflaaGreatKd
open Bool renaming and_eq_true → yj
open Go renaming TypeId → yb, Program → yg, Value → yh, FuncId → yv
open Go.Proofs.Tryz renaming prog → yc
open Int renaming tmod → yaw
open List renaming length_append → yp, getElem?_eq_some_iff → yr, range → yw, replicate → yy, getElem?_eq_getElem → yac, length_cons → yae, map_cons → yag, mem_singleton → yan, getElem?_append_left → yao, getElem?_eq_none → yap, getElem?_cons_succ → yaq, getElem?_append_right → yas, mem_cons_self → yau, map_append → yav, mem_cons_of_mem → yay, map_map → ybd, append_nil → ybi, mem_append → yci, map_congr_left → ycj, length_replicate → ycp
open Nat renaming le_refl → yn, mod_eq_of_lt → yah, add_mul → yax, mod_lt → ybb, zero_add → ybg, mul_comm → ybj, mul_le_mul_right → yby, lt_or_ge → yca, eq_zero_or_pos → ycc
open Option renaming bind_some → ya, bind_eq_some_iff → yf, map_eq_some_iff → yq, map_some → yab
open Option.some renaming inj → ybn
open UInt32 renaming ofNat → ybs
open UInt64 renaming ofNat → yad, toNat_ofNat' → yba, toNat_lt → ybr, lt_iff_toNat_lt → ybz, le_iff_toNat_le → ycs
set_option linter.unusedVariables false
set_option linter.unusedSimpArgs false
section
namespace Go.Ev
def Zb{I X:Type}(step:I→Option (I⊕X)):Nat→I→Option X
 |0,_=>none
 |n+1,i=>(step i).bind λr=>match r with
  |.inl j=>Zb step n j
  |.inr x=>some x
theorem ZFP:∃n:Nat,n=18446744073709551616:=⟨_,rfl⟩
noncomputable def fuel:Nat:=Classical.choose ZFP
theorem Zda:fuel=18446744073709551616:=Classical.choose_spec ZFP
section
variable{P:yg}
def ZFQ(n0:Nat)(ex:Ex)(a:List TD)(h:List TEnt):(l:List XSh)→Option (XSh.sum l)
 |[]=>none
 |[e]=>if ex=e.ex then(Zxe n0 e.sl e.es a h).bind λvs=>toD e.ty vs else none
 |e::f::r=>match (if ex=e.ex then(Zxe n0 e.sl e.es a h).bind λvs=>toD e.ty vs else none) with
  |some x=>some (Sum.inl x:Ty.dens e.ty⊕XSh.sum (f::r))
  |none=>(ZFQ n0 ex a h (f::r)).map λx=>(Sum.inr x:Ty.dens e.ty⊕XSh.sum (f::r))
theorem ZpI{n0:Nat}{ex:Ex}{a:List TD}{h:List TEnt}:∀{l:List XSh}{o:XSh.sum l},ZFQ n0 ex a h l=some o→∀e vs,ZyW l o e vs→ex=e.ex∧Zxe n0 e.sl e.es a h=some vs
 |[],_,k,_,_,_=>by cases k
 |[e],o,k,x,vs,hs=>by
  obtain⟨rfl,rfl⟩:=hs;have k:(if ex=x.ex then(Zxe n0 x.sl x.es a h).bind λvs=>toD x.ty vs else none)=some o:=k
  split at k
  ·rename_i he;obtain⟨ws,h1,h2⟩:=yf.1 k;exact⟨he,by rw[h1,Zc9 _ _ _ h2]⟩
  ·cases k
 |e::f::r,o,k,x,vs,hs=>by
  simp only[ZFQ] at k;split at k
  ·rename_i y hy;cases k;obtain⟨rfl,rfl⟩:=hs;split at hy
   ·rename_i he;obtain⟨ws,h1,h2⟩:=yf.1 hy;exact⟨he,by rw[h1,Zc9 _ _ _ h2]⟩
   ·cases hy
  ·obtain⟨y,h1,h2⟩:=Zc k;subst h2;exact ZpI h1 x vs hs
def ZvA(P:yg)(fi:FI)(specs:Sp P)(body:Code)(n N:Nat)(sl:Slots)(es:List ESh)(I:List Ty)(xs:List XSh):Ty.dens I→Option (Ty.dens I⊕XSh.sum xs):=λv=>
 (V2 N sl es (ofD I v)).bind λs=>evT P fi specs body (n+1) 0 s.1 s.2 λex a h=>match ex with
   |.normal=>(Zxe s.2.length sl es a h).bind λvs=>(toD I vs).map .inl
   |ex=>(ZFQ s.2.length ex a h xs).map .inr
theorem ZFR{fi:FI}{specs:Sp P}{body:Code}{n N:Nat}{sl:Slots}{es:List ESh}{I:List Ty}{xs:List XSh}(ok:SpOk specs)(hl:ZkF P fi N body (n+1))(hb0:ZjG P fi N body 0):
 ∀(f:Nat)(v:Ty.dens I)(o:XSh.sum xs),Zb (ZvA P fi specs body n N sl es I xs) f v=some o→∀s,V2 N sl es (ofD I v)=some s→∀e vs s',ZyW xs o e vs→V2 N e.sl e.es vs=some s'→
  Zva P body (TD.ers (lk s.2) s.1) (erH s.2) e.ex (TD.ers (lk s'.2) s'.1) (erH s'.2)
 |0,_,_,h,_,_,_,_,_,_,_=>by cases h
 |f+1,v,o,h,s,hs,e,vs,s',hx,hs'=>by
  unfold Zb at h;obtain⟨r,h1,h2⟩:=yf.1 h;unfold ZvA at h1;rw[hs,ya] at h1;obtain⟨ex,a,h3,k1,k2,k3⟩:=Ws ok body _ _ _ _ _ (Zh1 hs) hl hb0 h1;split at k1
  ·obtain⟨ws,g1,k1⟩:=yf.1 k1;obtain⟨w,g2,rfl⟩:=Zc k1;obtain⟨a3,h4,g3,g4⟩:=ZpG (P:=P) g1;rw[k2] at g3;have r1:=g4 (ZQ _) k3;have:=ZFR ok hl hb0 f w o h2 (a3,h4) (by rw[Zc9 _ _ _ g2];exact g3) e vs s' hx hs';exact Zvc [] r1 this
  ·rename_i hne;obtain⟨w,g2,rfl⟩:=Zc k1;cases h2;obtain⟨g5,g6⟩:=ZpI g2 e vs hx;obtain⟨a3,h4,g3,g4⟩:=ZpG (P:=P) g6;rw[k2,hs'] at g3;cases g3;subst g5;exact Zvb hne (g4 (ZQ _) k3)
theorem ZLb{fi:FI}{specs:Sp P}{body:Code}{n N:Nat}{sl:Slots}{es:List ESh}{I:List Ty}{xs:List XSh}{step:Ty.dens I→Option (Ty.dens I⊕XSh.sum xs)}(f:Nat)(ok:SpOk specs)(hl:ZkF P fi N body (n+1))(hb0:ZjG P fi N body 0)
 (h:∀v,ZvA P fi specs body n N sl es I xs v=step v):Lp.Ok P N body ⟨sl,es,I,xs,Zb step f⟩:=by
 intro v o hL s hs e vs s' hx hs';have e1:ZvA P fi specs body n N sl es I xs=step:=funext h;subst e1;exact Zvd (ZFR ok hl hb0 f v o hL s hs e vs s' hx hs')
theorem Zdx:∀(c:Code)(k:Nat)(b:Code),(ZH c)[k]? =some (.loop b)→∀j x,(ZH b)[j]? =some x→(ZH c)[k+1+j]? =some x
 |.seq x y,k,b,h,j,z,hz=>by
  simp only[ZH] at h ⊢;rcases yca k (ZH x).length with hl|hl
  ·rw[yao hl] at h;have:=Zdx x k b h j z hz;rw[yao (yr.1 this).1];exact this
  ·rw[yas hl] at h;have:=Zdx y _ b h j z hz;rw[yas (by omega)];rw[show k+1+j - (ZH x).length=k - (ZH x).length+1+j by omega]
   exact this
 |.cond _ x y,k,b,h,j,z,hz=>by
  simp only[ZH] at h ⊢;rcases yca k (ZH x).length with hl|hl
  ·rw[yao hl] at h;have:=Zdx x k b h j z hz;rw[yao (yr.1 this).1];exact this
  ·rw[yas hl] at h;have:=Zdx y _ b h j z hz;rw[yas (by omega)];rw[show k+1+j - (ZH x).length=k - (ZH x).length+1+j by omega]
   exact this
 |.block _ a,k,b,h,j,z,hz=>Zdx a k b h j z hz
 |.scope a,k,b,h,j,z,hz=>Zdx a k b h j z hz
 |.loop a,k,b,h,j,z,hz=>by
  simp only[ZH] at h ⊢
  cases k with
  |zero=>
   simp only[List.getElem?_cons_zero,Option.some.injEq,Code.loop.injEq] at h;subst h;rw[show 0+1+j=j+1 by omega,yaq]
   exact hz
  |succ k=>
   rw[yaq] at h;rw[show k+1+1+j=(k+1+j)+1 by omega,yaq]
   exact Zdx a k b h j z hz
 |.skip,_,_,h,_,_,_=>by simp[ZH] at h
 |.region _ _ _,_,_,h,_,_,_=>by simp[ZH] at h
 |.rangeFunc _ _ _ _,_,_,h,_,_,_=>by simp[ZH] at h
 |.exit _,_,_,h,_,_,_=>by simp[ZH] at h
 |.ret,_,_,h,_,_,_=>by simp[ZH] at h
 |.label _,_,_,h,_,_,_=>by simp[ZH] at h
 |.goto _,_,_,h,_,_,_=>by simp[ZH] at h
 |.refuse _,_,_,h,_,_,_=>by simp[ZH] at h
def ZkG(P:yg)(g:yv)(N:Nat):List (Nat×Lp)→Prop
 |[]=>True
 |q::r=>q.2.Ok P N (Qe P g q.1)∧ZkG P g N r
theorem ZlT{g:yv}{N:Nat}:∀{l:List (Nat×Lp)}{n:Nat}{lp:Lp},ZkG P g N l→(n,lp)∈l→lp.Ok P N (Qe P g n)
 |[],_,_,_,h=>by cases h
 |q::r,n,lp,hk,h=>by
  rcases List.mem_cons.1 h with h|h
  ·subst h;exact hk.1
  ·exact ZlT hk.2 h
def Zak(P:yg)(g:yv):Code:=
 match P.funcs[g]? with
 |some fn=>fn.body.getD .skip
 |none=>.skip
theorem ZlU{g:yv}{k:Nat}{b:Code}(h:(ZH (Zak P g))[k]? =some (.loop b)):Qe P g k=b:=by
 unfold Qe ZEO;unfold Zak at h;split at h
 ·rename_i fn hf;rw[hf];dsimp only
  cases hb:fn.body with
  |none=>rw[hb] at h;simp[ZH] at h
  |some c=>
   rw[hb] at h;dsimp only[Option.getD] at h ⊢;rw[List.getD_eq_getElem?_getD,h];rfl
 ·simp[ZH] at h
theorem ZCe{g:yv}{fi:FI}{N:Nat}(h:ZkG P g N fi.lp):ZkF P fi N (Zak P g) 0:=by
 intro k b hk lp hl;rw[ybg] at hl;rw[←ZlU hk];exact ZlT h hl
theorem ZFS{g:yv}{fi:FI}{N k:Nat}(hk:(ZH (Zak P g))[k]? =some (.loop (Qe P g k)))(h:ZkG P g N fi.lp):ZkF P fi N (Qe P g k) (k+1):=by
 intro j b hj lp hl;have:=Zdx _ _ _ hk j _ hj;rw[←ZlU this];exact ZlT h hl
def Zon(P:yg)(g k:Nat):Bool:=
 match (ZH (Zak P g))[k]? with
 |some (.loop _)=>true
 |_=>false
theorem Zuy{g k:Nat}(h:Zon P g k=true):(ZH (Zak P g))[k]? =some (.loop (Qe P g k)):=by
 unfold Zon at h;split at h
 ·rename_i b hb;rw[hb,ZlU hb]
 ·cases h
def ZmA(c:Code)(m:Nat):Code:=((Wr c)[m]?).getD .skip
def Zs8(P:yg)(N:Nat)(c:Code):List (Nat×Lp)→Prop
 |[]=>True
 |q::r=>q.2.Is P N (ZmA c q.1)∧Zs8 P N c r
theorem ZvB{N:Nat}{c:Code}:∀{l:List (Nat×Lp)}{m:Nat}{bk:Lp},Zs8 P N c l→(m,bk)∈l→bk.Is P N (ZmA c m)
 |[],_,_,_,h=>by cases h
 |q::r,m,bk,hk,h=>by
  rcases List.mem_cons.1 h with h|h
  ·subst h;exact hk.1
  ·exact ZvB hk.2 h
theorem ZrW{fi:FI}{N:Nat}{c:Code}(h:Zs8 P N c fi.bk):ZjG P fi N c 0:=by
 intro k x hk bk hl;rw[ybg] at hl;have:=ZvB h hl;unfold ZmA at this;rw[hk] at this;exact this
def ZJZ(P:yg)(fi:FI)(specs:Sp P)(x:Code)(n N:Nat)(sl:Slots)(es:List ESh)(I:List Ty)(xs:List XSh):Ty.dens I→Option (XSh.sum xs):=λv=>
 (V2 N sl es (ofD I v)).bind λs=>evT P fi specs x n 0 s.1 s.2 λex a h=>ZFQ s.2.length ex a h xs
theorem Zs9{fi:FI}{specs:Sp P}{g n N:Nat}{x:Code}{sl:Slots}{es:List ESh}{I:List Ty}{xs:List XSh}{L:Ty.dens I→Option (XSh.sum xs)}(ok:SpOk specs)(hl:ZkG P g N fi.lp:=by exact True.intro)
 (hx:ZH x=((ZH (Zak P g)).drop n).take (Code.nl x):=by kernel_rfl) (h:∀v,ZJZ P fi specs x n N sl es I xs v=L v:=by intro v;kernel_rfl) (hb:Zs8 P N x fi.bk:=by exact True.intro):Lp.Is P N x ⟨sl,es,I,xs,L⟩:=by
 intro v o hL s hs e vs s' hsel hs';have hL:L v=some o:=hL;rw[←h v] at hL;unfold ZJZ at hL;have hs:V2 N sl es (ofD I v)=some s:=hs;rw[hs,ya] at hL
 have hlps:ZkF P fi N x n:=by
  intro k b hk lp hlp
  have h1:(ZH (Zak P g))[n+k]? =some (.loop b):=by
   rw[hx,List.getElem?_take] at hk;split at hk
   ·rw[List.getElem?_drop] at hk;exact hk
   ·cases hk
  rw[←ZlU h1];exact ZlT hl hlp
 obtain⟨ex,a,h',k1,k2,k3⟩:=Ws ok x _ _ _ _ _ (Zh1 hs) hlps (ZrW hb) hL;obtain⟨g5,g6⟩:=ZpI k1 e vs hsel;obtain⟨a3,h4,g3,g4⟩:=ZpG (P:=P) g6;have hs':V2 N e.sl e.es vs=some s':=hs';rw[k2,hs'] at g3;cases g3;subst g5;exact g4 (ZQ _) k3
theorem ZiQ{fi:FI}{specs:Sp P}{g k N:Nat}{sl:Slots}{es:List ESh}{I:List Ty}{xs:List XSh}{step:Ty.dens I→Option (Ty.dens I⊕XSh.sum xs)}(ok:SpOk specs)(hl:ZkG P g N fi.lp:=by exact True.intro)(hk:Zon P g k=true:=by kernel_rfl)
 (h:∀v,ZvA P fi specs (Qe P g k) k N sl es I xs v=step v:=by intro v;kernel_rfl) (hb:Zs8 P N (Qe P g k) fi.bk:=by exact True.intro):Lp.Ok P N (Qe P g k) ⟨sl,es,I,xs,Zb step fuel⟩:=
 ZLb fuel ok (ZFS (Zuy hk) hl) (ZrW hb) h
def Zuz{O:Type}(P:yg)(a:List TD)(h:List TEnt):List ResultVar→(List TD→List Hint→Option O)→Option O
 |[],K=>K [] []
 |.tmp t::r,K=>Zuz P a h r λds hs=>K (a.getD t .junk::ds) hs
 |.cell t ty::r,K=>match a.getD t .junk with
  |.ref id path=>(Zqv h id).bind λd=>gpT (lk h) path d λsub hs _=>if okT P ty (sub.er (lk h))=true then Zuz P a h r λds hs'=>K (sub::ds) (hs++hs') else none
  |_=>none
theorem Zh2{O:Type}{a:List TD}{h:List TEnt}{out:O}:∀(l:List ResultVar)(K:List TD→List Hint→Option O),Zuz P a h l K=some out→∃ds hs C,K ds hs=some out∧AllP C∧∀rest,Zui P (TD.ers (lk h) a) (erH h) l (hs++rest)=some (C,TD.ers (lk h) ds)
 |[],K,k=>⟨[],[],[],k,trivial,λ_=>rfl⟩
 |.tmp t::r,K,k=>by
  obtain⟨ds,hs,C,k1,k2,k3⟩:=Zh2 r _ k;refine⟨_,_,C,k1,k2,λrest=> ?_⟩
  simp only[Zui,k3 rest,yab,Zn4,TD.ers]
 |.cell t ty::r,K,k=>by
  unfold Zuz at k;split at k
  ·rename_i id path hx;obtain⟨d,h1,k⟩:=yf.1 k;obtain⟨st,h2,h3⟩:=ZfD h1;obtain⟨sub,hs,put,C,g1,g2,g3,_⟩:=Wp _ _ _ _ k;obtain⟨g4,g5⟩:=Za g1;obtain⟨ds,hs',C',k1,k2,k3⟩:=Zh2 r _ g5;refine⟨_,_,C++[ZeT path=Vh path]++C',k1,Zl.2 ⟨Zl.2 ⟨g2,(WK _).symm,ytt⟩,k2⟩,λrest=> ?_⟩;unfold Zui;rw[Zn4,hx];dsimp only[TD.er];rw[h3];dsimp only;rw[List.append_assoc,g3 (hs'++rest)];dsimp only;rw[if_pos g4,k3 rest];rfl
  ·cases k
def Zta:List TD→TD
 |[d]=>d
 |ds=>.tup ds
theorem ZlV{L:Lk}(ds:List TD):(Zta ds).er L=Zr4 (TD.ers L ds):=by
 match ds with
 |[]=>rfl
 |[d]=>rfl
 |_::_::_=>rfl
def TD.arg(L:Lk):TD→TD
 |.own id nn t c=>.p (.sl nn t (Z8 L id t c))
 |.agg ds=>TD.melt L ds
 |d=>d
theorem ZAX{L:Lk}(d:TD):(d.arg L).er L=(d.er L).arg:=by
 cases d <;> first|rfl|exact ZBO _
def ZFT(h:List TEnt)(rs:Sh)(es:List ESh)(n0:Nat)(r:TD):Option (List Nat):=
 let l:=ZJR h es 0 ((yw n0).map (λi=>(i,i))++Sh.ids rs r)
 ((yw es.length).drop n0).mapM λj=>l.lookup j
def ZH6(h:List TEnt)(n0:Nat)(ds:List TD)(e:XSh):Option (Ty.dens e.ty):=
 match e.sl with
 |[(0,rs)]=>(ZFT h rs e.es n0 (Zta ds)).bind λkeep=>
  if once (yw n0++keep) then(match Dv.rn (toIds (yw n0++keep)) ((Zta ds).er (lk h)) with
   |some _=>(Zta ds).rn (toIds (yw n0++keep))
   |none=>(Zta (ds.map (TD.arg (lk h)))).rn (toIds (yw n0++keep))).bind λr=>
   (Wq h (yw n0++keep) (yw n0++keep)).bind λh2=>(Sh.mt (lk h2) rs r).bind λq=>(ESh.mts (lk h2) e.es h2).bind λw=>toD e.ty (q.2++w.2)
  else none
 |_=>none
def Zze(h:List TEnt)(n0:Nat)(ds:List TD):(l:List XSh)→Option (XSh.sum l)
 |[]=>none
 |[e]=>ZH6 h n0 ds e
 |e::f::r=>match ZH6 h n0 ds e with
  |some x=>some (Sum.inl x:Ty.dens e.ty⊕XSh.sum (f::r))
  |none=>(Zze h n0 ds (f::r)).map λx=>(Sum.inr x:Ty.dens e.ty⊕XSh.sum (f::r))
theorem Ztb{h:List TEnt}{n0:Nat}{ds:List TD}:∀{l:List XSh}{o:XSh.sum l},Zze h n0 ds l=some o→∀e vs,ZyW l o e vs→∃x,ZH6 h n0 ds e=some x∧vs=ofD e.ty x
 |[],_,k,_,_,_=>by cases k
 |[e],o,k,x,vs,hs=>by
  obtain⟨rfl,rfl⟩:=hs
  exact⟨o,k,rfl⟩
 |e::f::r,o,k,x,vs,hs=>by
  simp only[Zze] at k;split at k
  ·rename_i y hy;cases k;obtain⟨rfl,rfl⟩:=hs;exact⟨y,hy,rfl⟩
  ·obtain⟨y,h1,h2⟩:=Zc k;subst h2;exact Ztb h1 x vs hs
def fnT(P:yg)(fi:FI)(specs:Sp P)(g:yv)(ps:List Sh)(es:List ESh)(ins:List Ty)(xs:List XSh):Ty.dens ins→Option (XSh.sum xs):=λx=>
 match P.funcs[g]? with
 |some fn=>match fn.body with
  |some c=>(Sh.fills ps (ofD ins x)).bind λq=>(ESh.fills es q.2).bind λw=>if w.2.isEmpty then
    evT P fi specs c 0 0 (q.1++yy (fn.ntmps - q.1.length) .junk) w.1 λex a h=>match ex with
     |.exit _=>none
     |_=>Zuz P a h fn.results.toList λds _=>Zze h w.1.length ds xs
    else none
  |none=>none
 |none=>none
def VM(P:yg)(g:yv):Nat:=
 match P.funcs[g]? with
 |some fn=>fn.ntmps
 |none=>0
theorem Ztc{fi:FI}{specs:Sp P}{g:yv}{ps:List Sh}{es:List ESh}{ins:List Ty}{xs:List XSh}{M:Ty.dens ins→Option (XSh.sum xs)}(ok:SpOk specs)(hl:ZkG P g (VM P g) fi.lp:=by exact True.intro)(hn:ps.length≤VM P g:=by decide+kernel)
 (h:∀x,fnT P fi specs g ps es ins xs x=M x:=by intro v;kernel_rfl) (hb:Zs8 P (VM P g) (Zak P g) fi.bk:=by exact True.intro):Fs.Ok (⟨g,ps,es,ins,xs,M⟩:Fs P):=by
 intro x o hM;have hM:M x=some o:=hM;rw[←h x] at hM;have hl':=ZCe hl;unfold fnT at hM;split at hM
 ·rename_i fn hf;split at hM
  ·rename_i c hb1;obtain⟨q,h1,hM⟩:=yf.1 hM;obtain⟨w,h2,hM⟩:=yf.1 hM;obtain⟨h3,hM⟩:=Za hM;have hN:VM P g=fn.ntmps:=by unfold VM;rw[hf]
   have hc:Zak P g=c:=by unfold Zak;rw[hf];dsimp only;rw[hb1];rfl
   rw[hc,hN] at hl' hb;have hb0:=ZrW hb;rw[hN] at hn
   have hlen:(q.1++yy (fn.ntmps - q.1.length) TD.junk).length=fn.ntmps:=by
    rw[yp,ycp,ZlR h1];omega
   obtain⟨ex,a,hh,k1,k2,k3⟩:=Ws ok c _ _ _ _ _ hlen hl' hb0 hM
   have hex:(ex=.ret∨ex=.normal)∧(Zuz P a hh fn.results.toList λds _=>Zze hh w.1.length ds xs)=some o:=by
    cases ex with
    |exit _=>cases k1
    |normal=>exact⟨.inr rfl,k1⟩
    |ret=>exact⟨.inl rfl,k1⟩
   obtain⟨hex,k1⟩:=hex;obtain⟨ds,hs,C,g1,g2,g3⟩:=Zh2 _ _ k1;refine⟨q.1,q.2,w.1,h1, ?_,λe vs s' hsel hfs=> ?_⟩
   ·rw[h2];have:w.2=[]:=by simpa using h3
    rw[←this]
   obtain⟨o1,g1,hvs⟩:=Ztb g1 e vs hsel;unfold ZH6 at g1;split at g1
   case h_2=>cases g1
   rename_i rs hsl;obtain⟨keep,g4,g1⟩:=yf.1 g1;obtain⟨g5,g1⟩:=Za g1;obtain⟨r,g6,g1⟩:=yf.1 g1;obtain⟨e2,g7,g1⟩:=yf.1 g1;obtain⟨z,g8,g1⟩:=yf.1 g1;obtain⟨y,g9,g1⟩:=yf.1 g1;obtain⟨b1,b2⟩:=Zh0 g9;have hcc:∀id t,Z8 (lk e2) id t none=Z8 (lk y.1) id t none:=λid t=>by rw[b2]
   have eo:=Zc9 _ _ _ g1
   have efill:s'=([z.1],y.1):=by
    rw[hvs,eo,hsl] at hfs;unfold V2 at hfs;rw[show shs [(0,rs)] 1=[rs] from rfl] at hfs
    simp only[Sh.fills,ZlP _ _ _ g8,ya,yab] at hfs;have:=Za4 g9 [];rw[ybi] at this;rw[this] at hfs;exact(ybn hfs).symm
   subst efill;refine⟨z.1,rfl, ?_⟩
   have hfin:fin P fn (TD.ers (lk hh) a) (erH hh) (erH w.1).length keep hs=some (C,r.er (lk e2),erH e2):=by
    unfold fin;have:=g3 [];rw[ybi] at this;rw[this];dsimp only;rw[ZQ,g5, ←ZlV,show subEnts (erH hh) _ _=some (erH e2) from Wj (Zas g7) g7]
    split at g6
    ·rename_i r0 hr0;have e4:=ZfG (Zas g7) _ _ g6;rw[e4]
    ·rename_i hr0;have e4:=ZfG (Zas g7) _ _ g6;rw[ZlV,ZP,ybd] at e4
     rw[hr0,show(TD.ers (lk hh) ds).map Dv.arg=ds.map (TD.er (lk hh) ∘ TD.arg (lk hh)) by
      rw[ZP,ybd];exact ycj λd _=>(ZAX d).symm,e4]
   have hrun:WC P c (TD.ers (lk w.1) q.1++yy (fn.ntmps - (TD.ers (lk w.1) q.1).length) .junk) (erH w.1) ex (TD.ers (lk hh) a) (erH hh):=by
    have e5:TD.ers (lk w.1) (q.1++yy (fn.ntmps - q.1.length) TD.junk)=TD.ers (lk w.1) q.1++yy (fn.ntmps - (TD.ers (lk w.1) q.1).length) .junk:=by
     rw[Zwr,ZP,ZP,yav,List.map_replicate];rfl
    rw[←e5];exact k3
   exact Zyr (Zkx hf hb1 hrun hex hfin g2) (ZsS hcc _ _ _ g8) (ZlQ hcc g9)
  ·cases hM
 ·cases hM
end
theorem ZpJ{P:yg}{g:yv}{t:Ty}{xs:List XSh}{MA:Ty.dens [.sl t]→Option (XSh.sum xs)}{MB:Ty.dens []→Option (XSh.sum xs)}(hA:Fs.Ok (⟨g,[.sl true t],[],[.sl t],xs,MA⟩:Fs P))(hB:Fs.Ok (⟨g,[.nil t],[],[],xs,MB⟩:Fs P))
 (h:MB ()=MA ([]:List t.den)):Fs.Ok (⟨g,[.v (.sl t)],[],[.sl t],xs,MA⟩:Fs P):=by
 intro l o hM;have key:∀(l:List t.den),Ty.cast (.sl t) (.sl t) l=some l:=λl=>Y6 (.sl t) l;obtain⟨a1,R1,H1,f1,f2,f3⟩:=hA l o hM
 have e1:a1=[.p (.sl (some true) t l)]∧R1=[]:=by
  have:Sh.fills [.sl true t] [(⟨.sl t,l⟩:TV)]=some (a1,R1):=f1;simp only[Sh.fills,Sh.fill] at this;rw[key l] at this;have this:some (([.p (.sl (some true) t l)]:List TD),([]:List TV))=some (a1,R1):=this;cases this;exact⟨rfl,rfl⟩
 obtain⟨rfl,rfl⟩:=e1;cases f2;refine⟨[.p (.v (.sl t) l)],[],[], ?_,rfl,λe vs s' hs hf=> ?_⟩
 ·show Sh.fills [.v (.sl t)] [(⟨.sl t,l⟩:TV)]=_;simp only[Sh.fills,Sh.fill];rw[key l];rfl
 ·obtain⟨r,r1,r2⟩:=f3 e vs s' hs hf;refine⟨r,r1, ?_⟩;refine ZBH (xs:=l.map t.enc) r2 λhl=> ?_;have hl:l=[]:=List.map_eq_nil_iff.1 hl;subst hl;obtain⟨a2,R2,H2,g1,g2,g3⟩:=hB () o (by rw[←hM];exact h);cases g1;cases g2;obtain⟨r',r1',r2'⟩:=g3 e vs s' hs hf;rw[r1] at r1';cases r1';exact r2'
def Ztd(n:Int):Option (List UInt8):=if(decide (0≤n)&&decide (n.toNat≤Zt))=true then some [] else none
theorem ZH7{P:yg}{g:yv}{e:yb}(h:∀n:Nat,n≤Zt→Con P g [.p (.sl (some false) 1 []),.p (.int .i64 (n:Int))] [] (.own 0 none 1 []) [.log 1 e []]):
 Fs.Ok (⟨g,[.nil .u8,.v (.int .i64)],[],[.int .i64],[⟨.ret,[(0,.own 0 .u8)],[.log .u8 e],[.sl .u8]⟩],Ztd⟩:Fs P):=by
 intro n o hM
 have key:∀(n:Int),Ztd n=some o→(0≤n∧n.toNat≤Zt)∧([]:List UInt8)=o:=λn hM=>by
  unfold Ztd at hM;obtain⟨h1,h2⟩:=Za (α:=List UInt8) hM;rw[yj,decide_eq_true_eq,decide_eq_true_eq] at h1;exact⟨h1,ybn h2⟩
 obtain⟨h1,h2⟩:=key n hM;cases h2;refine⟨[.p (.sl (some false) .u8 []),.p (.v (.int .i64) n)],[],[],rfl,rfl,λx vs s' hs hf=> ?_⟩;obtain⟨rfl,rfl⟩:=hs;cases hf;refine⟨_,rfl, ?_⟩;have:=h (Int.toNat n) h1.2;rw[Int.toNat_of_nonneg h1.1] at this;exact this
mutual
theorem ZvC:∀(s:Sh)(vs w:List TV)(q:TD×List TV),s.fill vs=some q→s.fill (vs++w)=some (q.1,q.2++w)
 |.v t,vs,w,q,h=>by
  cases vs with
  |nil=>cases h
  |cons x r=>
   obtain⟨y,h1,rfl⟩:=Zc (show(Ty.cast x.1 t x.2).map (λy=>((TD.p (.v t y),r):TD×List TV))=some q from h)
   show(Ty.cast x.1 t x.2).map (λy=>((TD.p (.v t y),r++w):TD×List TV))=_
   rw[h1];rfl
 |.elem t,vs,w,q,h=>by
  cases vs with
  |nil=>cases h
  |cons x r=>
   obtain⟨y,h1,rfl⟩:=Zc (show(Ty.cast x.1 t x.2).map (λy=>((TD.elem (.v t y),r):TD×List TV))=some q from h)
   show(Ty.cast x.1 t x.2).map (λy=>((TD.elem (.v t y),r++w):TD×List TV))=_
   rw[h1];rfl
 |.sl nn t,vs,w,q,h=>by
  cases vs with
  |nil=>cases h
  |cons x r=>
   obtain⟨y,h1,rfl⟩:=Zc (α:=(Ty.sl t).den) (show(Ty.cast x.1 (.sl t) x.2).map (λ(y:List t.den)=>((TD.p (.sl (some nn) t y),r):TD×List TV))=some q from h)
   show(Ty.cast x.1 (.sl t) x.2).map (λ(y:List t.den)=>((TD.p (.sl (some nn) t y),r++w):TD×List TV))=_
   rw[h1];rfl
 |.nil _,vs,w,q,h=>by cases h;rfl
 |.own _ _,vs,w,q,h=>by cases h;rfl
 |.ref _ _,vs,w,q,h=>by cases h;rfl
 |.mp _,vs,w,q,h=>by cases h;rfl
 |.rw _,vs,w,q,h=>by cases h;rfl
 |.rp j s p,vs,w,q,h=>by
  cases vs with
  |nil=>cases h
  |cons x r=>
   obtain⟨y,h1,rfl⟩:=Zc (α:=Int) (show(Ty.cast x.1 (.int .i64) x.2).map (λ(i:Int)=>((TD.rp j (.ix i.toNat s::p),r):TD×List TV))=some q from h)
   show(Ty.cast x.1 (.int .i64) x.2).map (λ(i:Int)=>((TD.rp j (.ix i.toNat s::p),r++w):TD×List TV))=_
   rw[h1];rfl
 |.view _ _ _ _ _,vs,w,q,h=>by cases h;rfl
 |.fn g l,vs,w,q,h=>by
  simp only[Sh.fill] at h ⊢;obtain⟨y,h1,rfl⟩:=Zc h
  rw[fills_more l vs w y h1];rfl
 |.agg l,vs,w,q,h=>by
  simp only[Sh.fill] at h ⊢;obtain⟨y,h1,rfl⟩:=Zc h
  rw[fills_more l vs w y h1];rfl
 |.arr n s l,vs,w,q,h=>by
  simp only[Sh.fill] at h ⊢;obtain⟨y,h1,rfl⟩:=Zc h
  rw[fills_more l vs w y h1];rfl
 |.tup l,vs,w,q,h=>by
  simp only[Sh.fill] at h ⊢;obtain⟨y,h1,rfl⟩:=Zc h
  rw[fills_more l vs w y h1];rfl
 |.iface t x,vs,w,q,h=>by
  simp only[Sh.fill] at h ⊢;obtain⟨y,h1,rfl⟩:=Zc h
  rw[ZvC x vs w y h1];rfl
 |.ptr0,vs,w,q,h=>by cases h;rfl
 |.fn0,vs,w,q,h=>by cases h;rfl
 |.if0,vs,w,q,h=>by cases h;rfl
 |.map0,vs,w,q,h=>by cases h;rfl
 |.junk,vs,w,q,h=>by cases h;rfl
theorem fills_more:∀(l:List Sh)(vs w:List TV)(q:List TD×List TV),Sh.fills l vs=some q→Sh.fills l (vs++w)=some (q.1,q.2++w)
 |[],vs,w,q,h=>by simp only[Sh.fills] at h;cases h;rfl
 |s::r,vs,w,q,h=>by
  simp only[Sh.fills] at h ⊢;obtain⟨a,h1,h⟩:=yf.1 h;obtain⟨b,h2,rfl⟩:=Zc h;rw[ZvC s vs w a h1,ya,fills_more r a.2 w b h2];rfl
end
theorem ZJ0{P:yg}{g:yv}{t:Ty}{e:yb}{rest:List Sh}{i1 i2:List Ty}{xs:List XSh}{M:Ty.dens i2→Option (XSh.sum xs)}(pk:Ty.dens i1→Ty.dens i2)(h:Fs.Ok (⟨g,.own 0 t::rest,[.log t e],i2,xs,M⟩:Fs P))
 (hp:∀x,ofD i2 (pk x)=ofD i1 x++[⟨.sl t,([]:List t.den)⟩]) (hf:∀x,∃a,Sh.fills rest (ofD i1 x)=some (a,[])):Fs.Ok (⟨g,.nil t::rest,[],i1,xs,λx=>M (pk x)⟩:Fs P):=by
 intro x o hM;obtain⟨args,R,H,f1,f2,f3⟩:=h (pk x) o hM;obtain⟨a,ha⟩:=hf x;have f1:Sh.fills (.own 0 t::rest) (ofD i2 (pk x))=some (args,R):=f1;rw[hp x] at f1;simp only[Sh.fills,Sh.fill,ya,fills_more rest _ _ _ ha,yab,Option.some.injEq,Prod.mk.injEq,List.nil_append] at f1;obtain⟨rfl,rfl⟩:=f1;have f2:((Ty.cast (.sl t) (.sl t) ([]:List t.den)).map λ(y:List t.den)=>((TEnt.log t e y,[]):TEnt×List TV)).bind (λa=>(ESh.fills [] a.2).map λb=>(a.1::b.1,b.2))=some (H,[]):=f2;have key:Ty.cast (.sl t) (.sl t) ([]:List t.den)=some ([]:List t.den):=Y6 (.sl t) ([]:List t.den);rw[key] at f2;cases f2;refine⟨.p (.sl (some false) t [])::a,[],[], ?_,rfl,λx' vs s' hs hf'=> ?_⟩
 ·show Sh.fills (.nil t::rest) (ofD i1 x)=_;simp only[Sh.fills,Sh.fill,ya,ha,yab]
 ·obtain⟨r,r1,r2⟩:=f3 x' vs s' hs hf';refine⟨r,r1, ?_⟩
  have e1:TD.ers (lk [.log t e []]) (.own 0 none t none::a)=.own 0 none t.size []::TD.ers (lk []) a:=by
   have e0:TD.ers (lk [.log t e []]) a=TD.ers (lk []) a:=(ers_cont (λid t'=>Zod (H:=[]) (T:=t) (e:=e) id t') a).symm;rw[TD.ers,e0];congr 1;rw[TD.er,show Z8 (lk [.log t e []]) 0 t none=[] from ZhZ (H:=[])]
   rfl
  have r2:Con P g (TD.ers (lk [.log t e []]) (.own 0 none t none::a)) (erH [.log t e []]) (r.er (lk s'.2)) (erH s'.2):=r2;rw[e1] at r2;exact Zys (H:=[]) (e:=e) r2
section
variable{P:yg}
theorem fnO(h:HI)(lp:List (Nat×Lp))(l:List (Fs P))(a:AllOk l){g:yv}{ps:List Sh}{es:List ESh}{ins:List Ty}{xs:List XSh}{M:Ty.dens ins→Option (XSh.sum xs)}(hl:ZkG P g (VM P g) lp:=by exact True.intro)(hn:ps.length≤VM P g:=by decide+kernel)
 (k:∀x,fnT P { hi:=h,lp:=lp} { l:=l} g ps es ins xs x=M x:=by intro v;kernel_rfl):Fs.Ok (⟨g,ps,es,ins,xs,M⟩:Fs P):=Ztc (okS a) hl hn k
abbrev Lp.okA(L:Lp)(P:yg)(g k:Nat):Prop:=L.Ok P (VM P g) (Qe P g k)
theorem ZC(h:HI)(lp:List (Nat×Lp))(l:List (Fs P))(a:AllOk l){g k N:Nat}{sl:Slots}{es:List ESh}{I:List Ty}{xs:List XSh}{step:Ty.dens I→Option (Ty.dens I⊕XSh.sum xs)}(hl:ZkG P g N lp:=by exact True.intro)(hk:Zon P g k=true:=by kernel_rfl)
 (h':∀v,ZvA P { hi:=h,lp:=lp} { l:=l} (Qe P g k) k N sl es I xs v=step v:=by intro v;kernel_rfl):Lp.Ok P N (Qe P g k) ⟨sl,es,I,xs,Zb step fuel⟩:=ZiQ (okS a) hl hk h'
theorem ZLc(n g:Nat)(h:HI)(lp:List (Nat×Lp))(l:List (Fs P))(a:AllOk l){N:Nat}{x:Code}{sl:Slots}{es:List ESh}{I:List Ty}{xs:List XSh}{L:Ty.dens I→Option (XSh.sum xs)}(hl:ZkG P g N lp:=by exact True.intro)
 (hx:ZH x=((ZH (Zak P g)).drop n).take (Code.nl x):=by kernel_rfl) (k:∀v,ZJZ P { hi:=h,lp:=lp} { l:=l} x n N sl es I xs v=L v:=by intro v;kernel_rfl):Lp.Is P N x ⟨sl,es,I,xs,L⟩:=Zs9 (n:=n) (g:=g) (okS a) hl hx k
end
end Go.Ev
end
section
namespace Go.Ev
universe u
variable{O:Type u}
def Zdy(n:Nat)(k:Nat→O):O:=Nat.rec (motive:=λ_=>O) (k 0) (λm _=>k (Nat.succ m)) n
theorem Xd(n:Nat)(k:Nat→O):Zdy n k=k n:=by cases n <;> rfl
def ZfH{α:Type}(f:α→(α→O)→O):List α→(List α→O)→O
 |[],k=>k []
 |a::r,k=>f a λa=>ZfH f r λr=>k (a::r)
theorem Vv{α:Type}{f:α→(α→O)→O}(hf:∀a k,f a k=k a):∀(l:List α)(k:List α→O),ZfH f l k=k l
 |[],k=>rfl
 |a::r,k=>by rw[ZfH,hf,Vv hf r]
def ZJ1(n:Int)(k:Int→O):O:=match n with
 |.ofNat n=>Zdy n λn=>k (.ofNat n)
 |.negSucc n=>Zdy n λn=>k (.negSucc n)
theorem ZH8(n:Int)(k:Int→O):ZJ1 n k=k n:=by cases n <;> (rw[ZJ1,Xd])
def Zte(b:Bool)(k:Bool→O):O:=match b with
 |true=>k true
 |false=>k false
theorem Zh3(b:Bool)(k:Bool→O):Zte b k=k b:=by cases b <;> rfl
mutual
def Ty.fo:(t:Ty)→t.den→(t.den→O)→O
 |.int _,x,k=>ZJ1 x k
 |.u8,x,k=>Zdy (UInt8.toNat x) λn=>k (UInt8.ofNat n)
 |.u32,x,k=>Zdy (UInt32.toNat x) λn=>k (ybs n)
 |.u64,x,k=>Zdy (UInt64.toNat x) λn=>k (yad n)
 |.bool,x,k=>Zte x k
 |.str,x,k=>k x
 |.sl t,x,k=>ZfH (Ty.fo t) x k
 |.arr _ t,x,k=>ZfH (Ty.fo t) x k
 |.st fs,x,k=>Ty.fos fs x k
def Ty.fos:(fs:List Ty)→Ty.dens fs→(Ty.dens fs→O)→O
 |[],_,k=>k ()
 |[t],x,k=>Ty.fo t x k
 |t::u::r,x,k=>Ty.fo t x.1 λa=>Ty.fos (u::r) x.2 λb=>k (a,b)
end
mutual
theorem Ty.fo_eq:∀(t:Ty)(x:t.den)(k:t.den→O),t.fo x k=k x
 |.int _,x,k=>ZH8 x k
 |.u8,x,k=>by rw[Ty.fo,Xd];exact congrArg k UInt8.ofNat_toNat
 |.u32,x,k=>by rw[Ty.fo,Xd];exact congrArg k UInt32.ofNat_toNat
 |.u64,x,k=>by rw[Ty.fo,Xd];exact congrArg k UInt64.ofNat_toNat
 |.bool,x,k=>Zh3 x k
 |.str,x,k=>rfl
 |.sl t,x,k=>by rw[Ty.fo];exact Vv (Ty.fo_eq t) x k
 |.arr _ t,x,k=>by rw[Ty.fo];exact Vv (Ty.fo_eq t) x k
 |.st fs,x,k=>Ty.fos_eq fs x k
theorem Ty.fos_eq:∀(fs:List Ty)(x:Ty.dens fs)(k:Ty.dens fs→O),Ty.fos fs x k=k x
 |[],_,k=>rfl
 |[t],x,k=>Ty.fo_eq t x k
 |t::u::r,x,k=>by rw[Ty.fos,Ty.fo_eq t];exact Ty.fos_eq (u::r) x.2 _
end
mutual
def TP.fo:TP→(TP→O)→O
 |.v t x,k=>t.fo x λx=>k (.v t x)
 |.sl nn t xs,k=>ZfH t.fo xs λxs=>k (.sl nn t xs)
 |.agg xs,k=>TP.fos xs λxs=>k (.agg xs)
 |.arr n s xs,k=>TP.fos xs λxs=>k (.arr n s xs)
 |.sll nn s xs,k=>TP.fos xs λxs=>k (.sll nn s xs)
 |.iface t x,k=>TP.fo x λx=>k (.iface t x)
 |x,k=>k x
def TP.fos:List TP→(List TP→O)→O
 |[],k=>k []
 |x::r,k=>TP.fo x λx=>TP.fos r λr=>k (x::r)
end
mutual
theorem TP.fo_eq:∀(x:TP)(k:TP→O),x.fo k=k x
 |.v t x,k=>by rw[TP.fo,Ty.fo_eq]
 |.sl nn t xs,k=>by rw[TP.fo,Vv (Ty.fo_eq t)]
 |.agg xs,k=>by rw[TP.fo,TP.fos_eq xs]
 |.arr n s xs,k=>by rw[TP.fo,TP.fos_eq xs]
 |.sll nn s xs,k=>by rw[TP.fo,TP.fos_eq xs]
 |.iface t x,k=>by rw[TP.fo,TP.fo_eq x]
 |.ptr0,k=>rfl
 |.fn0,k=>rfl
 |.if0,k=>rfl
 |.map0,k=>rfl
 |.fnv _,k=>rfl
theorem TP.fos_eq:∀(x:List TP)(k:List TP→O),TP.fos x k=k x
 |[],k=>rfl
 |x::r,k=>by rw[TP.fos,TP.fo_eq x,TP.fos_eq r]
end
def ZLd{α:Type}(f:α→(α→O)→O):Option α→(Option α→O)→O
 |none,k=>k none
 |some a,k=>f a λa=>k (some a)
theorem ZH9{α:Type}{f:α→(α→O)→O}(hf:∀a k,f a k=k a):∀(l:Option α)(k:Option α→O),ZLd f l k=k l
 |none,k=>rfl
 |some a,k=>hf a _
mutual
def TD.fo:TD→(TD→O)→O
 |.p x,k=>x.fo λx=>k (.p x)
 |.elem x,k=>x.fo λx=>k (.elem x)
 |.own id nn t c,k=>Zdy id λid=>ZLd (ZfH t.fo) c λc=>k (.own id nn t c)
 |.ref id q,k=>Zdy id λid=>k (.ref id q)
 |.view id q s lo n,k=>Zdy id λid=>Zdy s λs=>Zdy lo λlo=>Zdy n λn=>k (.view id q s lo n)
 |.agg xs,k=>TD.fos xs λxs=>k (.agg xs)
 |.arr n s xs,k=>Zdy n λn=>Zdy s λs=>TD.fos xs λxs=>k (.arr n s xs)
 |.fn f xs,k=>TD.fos xs λxs=>k (.fn f xs)
 |.iface t x,k=>TD.fo x λx=>k (.iface t x)
 |.tup xs,k=>TD.fos xs λxs=>k (.tup xs)
 |.mp id,k=>Zdy id λid=>k (.mp id)
 |.rv id v s lo n,k=>Zdy id λid=>Zdy v λv=>Zdy s λs=>Zdy lo λlo=>Zdy n λn=>k (.rv id v s lo n)
 |.rref id v q,k=>Zdy id λid=>Zdy v λv=>k (.rref id v q)
 |.rw id,k=>Zdy id λid=>k (.rw id)
 |.rp id q,k=>Zdy id λid=>k (.rp id q)
 |.junk,k=>k .junk
def TD.fos:List TD→(List TD→O)→O
 |[],k=>k []
 |x::r,k=>TD.fo x λx=>TD.fos r λr=>k (x::r)
end
mutual
theorem TD.fo_eq:∀(x:TD)(k:TD→O),x.fo k=k x
 |.p x,k=>by rw[TD.fo,TP.fo_eq]
 |.elem x,k=>by rw[TD.fo,TP.fo_eq]
 |.own id nn t c,k=>by rw[TD.fo,Xd,ZH9 (Vv (Ty.fo_eq t))]
 |.ref id q,k=>by rw[TD.fo,Xd]
 |.view id q s lo n,k=>by rw[TD.fo,Xd,Xd,Xd,Xd]
 |.agg xs,k=>by rw[TD.fo,TD.fos_eq xs]
 |.arr n s xs,k=>by rw[TD.fo,Xd,Xd,TD.fos_eq xs]
 |.fn f xs,k=>by rw[TD.fo,TD.fos_eq xs]
 |.iface t x,k=>by rw[TD.fo,TD.fo_eq x]
 |.tup xs,k=>by rw[TD.fo,TD.fos_eq xs]
 |.mp id,k=>by rw[TD.fo,Xd]
 |.rv id v s lo n,k=>by rw[TD.fo,Xd,Xd,Xd,Xd,Xd]
 |.rref id v q,k=>by rw[TD.fo,Xd,Xd]
 |.rw id,k=>by rw[TD.fo,Xd]
 |.rp id q,k=>by rw[TD.fo,Xd]
 |.junk,k=>rfl
theorem TD.fos_eq:∀(x:List TD)(k:List TD→O),TD.fos x k=k x
 |[],k=>rfl
 |x::r,k=>by rw[TD.fos,TD.fo_eq x,TD.fos_eq r]
end
def TEnt.fo(e:TEnt)(k:TEnt→O):O:=match e with
 |.var d st=>d.fo λd=>Zte st λst=>k (.var d st)
 |.log t e xs=>ZfH t.fo xs λxs=>k (.log t e xs)
 |.map tid a b l=>ZfH (λq k=>a.fo q.1 λx=>b.fo q.2 λy=>k (x,y)) l λl=>k (.map tid a b l)
 |.row v s st e d=>Zdy v λv=>Zdy s λs=>Zte st λst=>d.fo λd=>k (.row v s st e d)
 |.rowT t v st e xs=>Zte st λst=>ZfH t.fo xs λxs=>k (.rowT t v st e xs)
 |.rowN t np v st e a b=>Zte st λst=>ZfH t.fo a λa=>ZfH t.fo b λb=>k (.rowN t np v st e a b)
 |.rowM t np v st e a d b=>Zte st λst=>ZfH t.fo a λa=>d.fo λd=>ZfH t.fo b λb=>k (.rowM t np v st e a d b)
 |.gone=>k .gone
theorem TEnt.fo_eq(e:TEnt)(k:TEnt→O):e.fo k=k e:=by
 cases e with
 |var d st=>rw[TEnt.fo,TD.fo_eq,Zh3]
 |log t e xs=>rw[TEnt.fo,Vv (Ty.fo_eq t)]
 |map tid a b l=>rw[TEnt.fo,Vv λq k=>by rw[Ty.fo_eq a,Ty.fo_eq b]]
 |row v s st e d=>rw[TEnt.fo,Xd,Xd,Zh3,TD.fo_eq]
 |rowT t v st e xs=>rw[TEnt.fo,Zh3,Vv (Ty.fo_eq t)]
 |rowN t np v st e a b=>rw[TEnt.fo,Zh3,Vv (Ty.fo_eq t),Vv (Ty.fo_eq t)]
 |rowM t np v st e a d b=>rw[TEnt.fo,Zh3,Vv (Ty.fo_eq t),TD.fo_eq,Vv (Ty.fo_eq t)]
 |gone=>rfl
def foS(a:List TD)(h:List TEnt)(k:List TD→List TEnt→O):O:=TD.fos a λa=>ZfH TEnt.fo h λh=>k a h
theorem ZJ2(a:List TD)(h:List TEnt)(k:List TD→List TEnt→O):foS a h k=k a h:=by rw[foS,TD.fos_eq,Vv TEnt.fo_eq]
def foX:(l:List XSh)→XSh.sum l→(XSh.sum l→O)→O
 |[],x,k=>k x
 |[e],x,k=>Ty.fos e.ty x k
 |e::f::r,x,k=>match (x:Ty.dens e.ty⊕XSh.sum (f::r)) with
  |.inl x=>Ty.fos e.ty x λx=>k (.inl x:Ty.dens e.ty⊕XSh.sum (f::r))
  |.inr x=>foX (f::r) x λx=>k (.inr x:Ty.dens e.ty⊕XSh.sum (f::r))
theorem ZFU:∀(l:List XSh)(x:XSh.sum l)(k:XSh.sum l→O),foX l x k=k x
 |[],x,k=>rfl
 |[e],x,k=>Ty.fos_eq _ _ _
 |e::f::r,x,k=>by
  unfold foX
  cases (x:Ty.dens e.ty⊕XSh.sum (f::r)) with
  |inl x=>exact Ty.fos_eq _ _ _
  |inr x=>exact ZFU (f::r) x _
def Fs.fo{P:yg}(s:Fs P):Fs P:={ s with M:=λx=>Ty.fos s.ins x λx=>(s.M x).bind λo=>foX s.xs o some}
theorem Fs.fo_ok{P:yg}{s:Fs P}(h:s.Ok):s.fo.Ok:=by
 have e:s.fo=s:=by
  unfold Fs.fo
  have:(λx=>Ty.fos s.ins x λx=>(s.M x).bind λo=>foX s.xs o some)=s.M:=by
   funext x;rw[Ty.fos_eq]
   cases s.M x with
   |none=>rfl
   |some o=>exact ZFU _ _ _
  rw[this]
 rw[e];exact h
theorem Zzf{P:yg}:∀{l:List (Fs P)},AllOk l→AllOk (l.map Fs.fo)
 |[],_=>trivial
 |s::r,h=>⟨Fs.fo_ok h.1,Zzf h.2⟩
end Go.Ev
end
section
namespace Go.Ev
def Zxf(h:List TEnt)(n0:Nat)(r:TD):List Nat:=
 let got:=Zqz h 100000 (r.look++yw n0) []
 ((yw h.length).drop n0).filter got.contains
def Ty.mkFs(f:(T:Ty)→TD→Option T.den):(fs:List Ty)→List TD→Option (Ty.dens fs)
 |[],[]=>some ()
 |[t],[d]=>f t d
 |t::u::r,d::ds=>Zmz (f t d) (Ty.mkFs f (u::r) ds)
 |_,_=>none
def mkL{T:Ty}(f:TD→Option T.den):List TD→Option (List T.den)
 |[]=>some []
 |d::r=>(Zmz (f d) (mkL f r)).map λq=>q.1::q.2
def ZFV(H:List TEnt)(id:Nat)(u:Ty):Option (List u.den):=
 match H[id]? with
 |some (.rowT u' v false e l)=>Ty.castL u' u l
 |_=>none
theorem ZFW{H:List TEnt}{id:Nat}{u:Ty}{l:List u.den}(h:ZFV H id u=some l):DeepR (erH H) ((TD.rw id).er (lk H)) ((Ty.sl u).enc l):=by
 unfold ZFV at h;split at h
 ·rename_i u' v e l' hd;obtain⟨e1,h⟩:=ZK h;subst e1;subst h;have hE:(erH H)[id]? =some (.row v.length u'.size false e (.p (.arr l.length u'.size (l.map u'.enc)))):=Yn hd;have:=DeepR.rvp (lo:=0) (n:=l.length) hE (by omega);rw[(Zcq hd).1,ZAd];rw[List.drop_zero, ←List.length_map (f:=u'.enc),List.take_length,List.length_map] at this;exact this
 ·cases h
def Zzg(H:List TEnt):Nat→(T:Ty)→TD→Option T.den
 |0,_,_=>none
 |n+1,T,d=>match d with
  |.p x=>TP.to Zkz x T
  |.own id nn t c=>ZER true t (Z8 (lk H) id t c) T
  |.agg ds=>ZES (λfs=>Ty.mkFs (Zzg H n) fs ds) T
  |.rw id=>match T with
   |.sl u=>ZFV H id u
   |_=>none
  |.rv id v s lo k=>match T with
   |.sl u=>match H[id]? with
    |some (.row w s' false e d)=>if(w==v&&s'==s&&s==u.size)=true then match d with
      |.p x=>x.arow.bind λr=>(Ty.castL r.t u r.l).bind λl=>if decide (lo+k≤r.n)=true then some ((l.drop lo).take k) else none
      |.arr N s2 ds=>if(s2==s&&decide (lo+k≤N))=true then(mkL (Zzg H n u) ds).map λ(l:List u.den)=>(l.drop lo).take k else none
      |_=>none
     else none
    |_=>none
   |_=>none
  |_=>none
theorem ZCf{H:List Ent}{L:Lk}{f:(T:Ty)→TD→Option T.den}(hf:∀T d y,f T d=some y→DeepR H (d.er L) (T.enc y)):∀(fs:List Ty)(ds:List TD)(y:Ty.dens fs),Ty.mkFs f fs ds=some y→
 (TD.ers L ds).length=(Ty.encs fs y).length∧∀(i:Nat)(d:Dv)(z:Pl),(TD.ers L ds)[i]? =some d→(Ty.encs fs y)[i]? =some z→DeepR H d z
 |[],[],y,h=>⟨rfl,λi d z h1 _=>by simp[TD.ers] at h1⟩
 |[],_::_,y,h=>by cases h
 |[t],[],y,h=>by cases h
 |[t],[d],y,h=>by
  refine⟨rfl,λi d' z h1 h2=> ?_⟩
  cases i with
  |zero=>cases h1;cases h2;exact hf t d y h
  |succ i=>simp[TD.ers] at h1
 |[t],_::_::_,y,h=>by cases h
 |t::u::r,[],y,h=>by cases h
 |t::u::r,d::ds,y,h=>by
  obtain⟨h1,h2⟩:=Za2 (α:=t.den) (β:=Ty.dens (u::r)) h;obtain⟨h3,h4⟩:=ZCf hf (u::r) ds y.2 h2;refine⟨by rw[TD.ers,Ty.encs,yae,yae,h3],λi d' z k1 k2=> ?_⟩
  cases i with
  |zero=>cases k1;cases k2;exact hf t d y.1 h1
  |succ i=>exact h4 i d' z k1 k2
theorem ZFX{H:List Ent}{L:Lk}{T:Ty}{f:TD→Option T.den}(hf:∀d y,f d=some y→DeepR H (d.er L) (T.enc y)):∀(ds:List TD)(l:List T.den),mkL f ds=some l→
 (TD.ers L ds).length=(l.map T.enc).length∧∀(i:Nat)(d:Dv)(z:Pl),(TD.ers L ds)[i]? =some d→(l.map T.enc)[i]? =some z→DeepR H d z
 |[],l,h=>by cases h;exact⟨rfl,λi d z h1 _=>by simp[TD.ers] at h1⟩
 |d::ds,l,h=>by
  obtain⟨q,h1,rfl⟩:=Zc h;obtain⟨h1,h2⟩:=Za2 h1;obtain⟨h3,h4⟩:=ZFX hf ds q.2 h2;refine⟨by rw[TD.ers,yag,yae,yae,h3],λi d' z k1 k2=> ?_⟩
  cases i with
  |zero=>cases k1;cases k2;exact hf d q.1 h1
  |succ i=>exact h4 i d' z k1 k2
theorem Ztf{H:List TEnt}:∀(n:Nat)(T:Ty)(d:TD)(y:T.den),Zzg H n T d=some y→DeepR (erH H) (d.er (lk H)) (T.enc y)
 |0,_,_,_,h=>by cases h
 |n+1,T,d,y,h=>by
  unfold Zzg at h;split at h
  ·exact .wk (.p _) (Zyx h)
  ·rename_i id nn t c;obtain⟨l,_,e1,rfl⟩:=Zpz (nn:=none) h;rw[e1,TD.er];exact .wk (.own id nn t.size _) (PlWk.sl_mk (PlsWk.refl _))
  ·rename_i ds;obtain⟨fs,z,h1,e1⟩:=ZpA h;rw[e1,TD.er];obtain⟨h2,h3⟩:=ZCf (λT d y=>Ztf n T d y) fs ds z h1;exact .agg h2 h3
  ·rename_i id
   cases T with
   |sl u=>exact ZFW h
   |_=>cases h
  ·rename_i id v s lo k;split at h
   ·rename_i u;split at h
    ·rename_i w s' e dd hd;obtain⟨hk,g⟩:=Za h;clear h;simp only[yj,beq_iff_eq] at hk;obtain⟨⟨hk1,hk2⟩,hk3⟩:=hk;have hE:=Yn hd;rw[hk1,hk2,hk3] at hE;split at g
     ·rename_i x;obtain⟨r,p1,g1⟩:=yf.1 g;obtain⟨l,p2,g2⟩:=yf.1 g1;obtain⟨p3,g3⟩:=Za g2;cases g3;obtain⟨rn,rt,rl⟩:=r;obtain⟨e1,p2⟩:=ZK p2;dsimp only at e1 p2 p3;subst e1;subst p2;rw[TEnt.er,TD.er,Qg p1] at hE;have:=DeepR.rvp hE (of_decide_eq_true p3);rw[ZAd,List.map_take,List.map_drop,TD.er,hk3];exact this
     ·rename_i N s2 ds;obtain⟨p1,g1⟩:=Za g;simp only[yj,beq_iff_eq,decide_eq_true_eq] at p1;obtain⟨q1,p1⟩:=p1;obtain⟨l,p2,g2⟩:=Zc g1;subst g2;obtain⟨h2,h3⟩:=ZFX (λd y=>Ztf n u d y) ds l p2;rw[TEnt.er,TD.er,q1,hk3] at hE;have:=DeepR.rva hE p1 h2 h3;rw[ZAd,List.map_take,List.map_drop,TD.er,hk3];exact this
     ·cases g
    ·cases h
   ·cases h
  ·cases h
def Zzh:TEnt→TEnt
 |.row v s _ e d=>.row v s false e d
 |.rowT t v _ e l=>.rowT t v false e l
 |e=>e
def ZiR(ids:List Nat)(H:List TEnt):List TEnt:=(yw H.length).zipWith (λi e=>if ids.contains i then Zzh e else e) H
theorem ZFY(e:TEnt):lkE (some (Zzh e))=lkE (some e):=by cases e <;> rfl
theorem ZqE(ids:List Nat)(H:List TEnt)(i:Nat):(ZiR ids H)[i]? =(H[i]?).map λe=>if ids.contains i then Zzh e else e:=by
 unfold ZiR;rw[List.getElem?_zipWith];rcases yca i H.length with h|h
 ·rw[List.getElem?_range h,yac h];rfl
 ·rw[yap (by simpa using h),yap h];rfl
theorem Ztg(ids:List Nat)(H:List TEnt):lk (ZiR ids H)=lk H:=by
 funext i;unfold lk;rw[ZqE]
 cases H[i]? with
 |none=>rfl
 |some e=>
  show lkE (some (if ids.contains i=true then Zzh e else e))=_
  split
  ·exact ZFY e
  ·rfl
theorem ZAY(ids:List Nat)(H:List TEnt):WkH (erH H) (erH (ZiR ids H)):=by
 refine ZAM (by rw[ZQ,ZQ];unfold ZiR;simp) λi a b h1 h2=> ?_;unfold erH at h1 h2;rw[List.getElem?_map] at h1 h2;rw[Ztg,ZqE] at h2
 cases he:H[i]? with
 |none=>rw[he] at h1;cases h1
 |some e=>
  rw[he] at h1 h2;cases h1;cases h2;show WkE (e.er (lk H)) (TEnt.er (lk H) (if ids.contains i=true then Zzh e else e))
  split
  ·cases e <;> first|exact .refl _|exact .lock
  ·exact .refl _
def ZAZ:List TEnt→Nat→Bool
 |H,i=>match H[i]? with
  |some (.row _ _ _ _ _)=>true
  |some (.rowT _ _ _ _ _)=>true
  |_=>false
def ZCg(P:yg)(H:List TEnt)(t:yb)(d:TD):Option TD:=
 match d with
 |.p x=>some (.p x)
 |d=>(ZkA P tyD t).bind λT=>(Zzg H 100 T d).map λy=>.p (.v T y)
theorem Zzi{P:yg}{H:List TEnt}{t:yb}{d e:TD}(h:ZCg P H t d=some e):DeepP (erH H) (d.er (lk H)) (e.er (lk H)):=by
 unfold ZCg at h;split at h
 ·cases h;exact .refl _
 ·obtain⟨T,h1,h⟩:=yf.1 h;obtain⟨y,h2,rfl⟩:=Zc h;exact .deep (Ztf _ _ _ _ h2)
def Zxg(P:yg)(H:List TEnt):List yb→List TD→Option (List TD)
 |[],[]=>some []
 |t::r,d::ds=>match ZCg P H t d,Zxg P H r ds with
  |some a,some b=>some (a::b)
  |_,_=>none
 |_,_=>none
theorem ZvD{P:yg}{H:List TEnt}:∀{ts:List yb}{ds es:List TD},Zxg P H ts ds=some es→DeepL (erH H) (TD.ers (lk H) ds) (TD.ers (lk H) es)
 |[],[],es,h=>by cases h;exact .nil
 |[],_::_,es,h=>by cases h
 |_::_,[],es,h=>by cases h
 |t::r,d::ds,es,h=>by
  simp only[Zxg] at h;split at h
  ·rename_i a b h1 h2;cases h;exact .cons (Zzi h1) (ZvD h2)
  ·cases h
def ZFZ(P:yg)(H:List TEnt)(ts:List yb)(r:TD):Option TD:=
 match ts with
 |[t]=>ZCg P H t r
 |ts=>match r with
  |.tup ds=>(Zxg P H ts ds).map .tup
  |_=>none
theorem ZF0{P:yg}{H:List TEnt}{ts:List yb}{r r':TD}(h:ZFZ P H ts r=some r'):DeepT (erH H) (r.er (lk H)) (r'.er (lk H)):=by
 unfold ZFZ at h;split at h
 ·exact .one (Zzi h)
 ·split at h
  ·obtain⟨es,h1,rfl⟩:=Zc h;exact .tup (ZvD h1)
  ·cases h
def ZDS{O:Type}(P:yg)(ts:List yb)(r:TD)(H:List TEnt)(K:TD→List TEnt→Option O):Option O:=
 match ts with
 |[]=>K r H
 |ts=>(ZFZ P (ZiR ((Zqz H 100000 r.look []).filter (ZAZ H)) H) ts r).bind λr'=>K r' (ZiR ((Zqz H 100000 r.look []).filter (ZAZ H)) H)
theorem ZvE{O:Type}{P:yg}{ts:List yb}{r:TD}{H:List TEnt}{K:TD→List TEnt→Option O}{out:O}{g:yv}{args:List Dv}{H0:List Ent}(h:ZDS P ts r H K=some out)(hc:Con P g args H0 (r.er (lk H)) (erH H)):
 ∃r' H',K r' H'=some out∧Con P g args H0 (r'.er (lk H')) (erH H'):=by
 unfold ZDS at h;split at h
 ·exact⟨_,_,h,hc⟩
 ·obtain⟨r',h1,h2⟩:=yf.1 h;generalize (Zqz H 100000 r.look []).filter (ZAZ H)=ids at h1 h2;refine⟨_,_,h2,ZEQ hc (ZAY ids H) ?_⟩;have:=ZF0 h1;rw[Ztg] at this ⊢;exact this
def ZDT{O:Type}(h:List TEnt)(n0:Nat)(ds:List TD)(K:TD→List TEnt→Option O):Option O:=
 let keep:=Zxf h n0 (Zta ds)
 if once (yw n0++keep) then(match Dv.rn (toIds (yw n0++keep)) ((Zta ds).er (lk h)) with
  |some _=>(Zta ds).rn (toIds (yw n0++keep))
  |none=>(Zta (ds.map (TD.arg (lk h)))).rn (toIds (yw n0++keep))).bind λr=>
  (Wq h (yw n0++keep) (yw n0++keep)).bind λh2=>K r h2
 else none
section
variable{P:yg}
def ZF1(P:yg)(his:yv→HI)(l:List (Fs P))(mt:List (yb×String×yv))(ghs:yv→List (Nat×GOp)):Nat→(O:Type)→yv→List TD→List TEnt→(TD→List TEnt→Option O)→Option O
 |0,_,_,_,_,_=>none
 |n+1,O,g,args,H,K=>foS args H λargs H=>match P.funcs[g]? with
  |some fn=>match fn.body with
   |some c=>if decide (args.length≤fn.ntmps)=true then
     evT P { hi:=his g,un:=1000000,gh:=ghs g} ⟨l,ZF1 P his l mt ghs n,mt,[]⟩ c 0 0 (args++yy (fn.ntmps - args.length) .junk) H λex a h=>match ex with
      |.exit _=>none
      |_=>Zuz P a h fn.results.toList λds _=>ZDT h H.length ds λr h=>ZDS P (his g).deep r h λr h=>foS [r] h λrs h=>match rs with
       |[r]=>K r h
       |_=>none
     else none
   |none=>none
  |none=>none
theorem ZCh{his:yv→HI}{l:List (Fs P)}{mt:List (yb×String×yv)}{ghs:yv→List (Nat×GOp)}(hl:AllOk l)(hm:MtOk P mt):∀(n:Nat),HdOk P (ZF1 P his l mt ghs n)
 |0=>λ_ _ _ _ _ _ h=>by cases h
 |n+1=>λO g args H K out hM=>by
  unfold ZF1 at hM;simp only[ZJ2] at hM;split at hM
  ·rename_i fn hf;split at hM
   ·rename_i c hb1;obtain⟨hn,hM⟩:=Za hM;have hn:=of_decide_eq_true hn
    have hlen:(args++yy (fn.ntmps - args.length) TD.junk).length=fn.ntmps:=by
     rw[yp,ycp];omega
    obtain⟨ex,a,hh,k1,k2,k3⟩:=Ws (N:=fn.ntmps) (specs:=⟨l,ZF1 P his l mt ghs n,mt,[]⟩) ⟨hl,ZCh hl hm n,hm,ytt⟩ c _ _ _ _ _ hlen (λk b hk lp h=>by cases h) (λk b hk lp h=>by cases h) hM
    have hex:(ex=.ret∨ex=.normal)∧(Zuz P a hh fn.results.toList λds _=>ZDT hh H.length ds λr h=>ZDS P (his g).deep r h K)=some out:=by
     cases ex with
     |exit _=>cases k1
     |normal=>exact⟨.inr rfl,k1⟩
     |ret=>exact⟨.inl rfl,k1⟩
    obtain⟨hex,k1⟩:=hex;obtain⟨ds,hs,C,g1,g2,g3⟩:=Zh2 _ _ k1;unfold ZDT at g1;dsimp only at g1;generalize Zxf hh H.length (Zta ds)=keep at g1;obtain⟨g5,g1⟩:=Za g1;obtain⟨r,g6,g1⟩:=yf.1 g1;obtain⟨e2,g7,g1⟩:=yf.1 g1;refine ZvE g1 ?_
    have hfin:fin P fn (TD.ers (lk hh) a) (erH hh) (erH H).length keep hs=some (C,r.er (lk e2),erH e2):=by
     unfold fin;have:=g3 [];rw[ybi] at this;rw[this];dsimp only;rw[ZQ,g5, ←ZlV,show subEnts (erH hh) _ _=some (erH e2) from Wj (Zas g7) g7]
     split at g6
     ·rename_i r0 hr0;have e4:=ZfG (Zas g7) _ _ g6;rw[e4]
     ·rename_i hr0;have e4:=ZfG (Zas g7) _ _ g6;rw[ZlV,ZP,ybd] at e4
      rw[hr0,show(TD.ers (lk hh) ds).map Dv.arg=ds.map (TD.er (lk hh) ∘ TD.arg (lk hh)) by
       rw[ZP,ybd];exact ycj λd _=>(ZAX d).symm,e4]
    have hrun:WC P c (TD.ers (lk H) args++yy (fn.ntmps - (TD.ers (lk H) args).length) .junk) (erH H) ex (TD.ers (lk hh) a) (erH hh):=by
     have e5:TD.ers (lk H) (args++yy (fn.ntmps - args.length) TD.junk)=TD.ers (lk H) args++yy (fn.ntmps - (TD.ers (lk H) args).length) .junk:=by
      rw[Zwr,ZP,ZP,yav,List.map_replicate];rfl
     rw[←e5];exact k3
    exact Zkx hf hb1 hrun hex hfin g2
   ·cases hM
  ·cases hM
def ZJ3(P:yg)(his:yv→HI)(l:List (Fs P))(mt:List (yb×String×yv))(n:Nat)(g:yv)(ghs:yv→List (Nat×GOp):=λ_=>[]):Option Bool:=
 ZF1 P his l mt ghs n Bool g [] [] λr h=>match h with
  |[]=>r.boolT
  |_=>none
theorem ZIa{his:yv→HI}{l:List (Fs P)}{mt:List (yb×String×yv)}{ghs:yv→List (Nat×GOp)}{n:Nat}{g:yv}{b:Bool}(hl:AllOk l)(hm:MtOk P mt)(h:ZJ3 P his l mt n g ghs=some b):Con P g [] [] (.p (.bool b)) []:=by
 obtain⟨r,H',h1,h2⟩:=ZCh hl hm n _ _ _ _ _ _ h;split at h1
 ·rw[ZhX h1] at h2;exact h2
 ·cases h1
theorem ZJ4{his:yv→HI}{l:List (Fs P)}{mt:List (yb×String×yv)}{ghs:yv→List (Nat×GOp)}{n:Nat}{g:yv}{b:Bool}(hl:AllOk l)(hm:MtOk P mt)(h:ZJ3 P his l mt n g ghs=some b):
 Fs.Ok (⟨g,[],[],[],[⟨.ret,[(0,.v .bool)],[],[.bool]⟩],λ_=>some b⟩:Fs P):=by
 intro x o hM;cases hM;refine⟨[],[],[],rfl,rfl,λe vs s' hs hf=> ?_⟩;obtain⟨rfl,rfl⟩:=hs;cases hf;exact⟨_,rfl,ZIa hl hm h⟩
end
theorem okN{P:yg}(s:Nat→Fs P)(h:(s fuel).Ok):(s 18446744073709551616).Ok:=by
 rw[Zda] at h;exact h
theorem ZF2{P:yg}{g:yv}{args:List Dv}{H H1 H2:List Ent}{r r2:Dv}{keep:List Nat}(h:Con P g args H r H1)(ho:once (yw H.length++keep)=true)
 (hin:subEnts H1 (yw H.length++keep) (yw H.length++keep)=some H2) (hr:r.rn (toIds (yw H.length++keep))=some r2):Con P g args H r2 H2:=by
 intro σ vs ok e hv;refine Calls.mono (h σ vs ok e hv) ?_;rintro e' w' ⟨v,σ',h1,h2,h3,h4,h5,h6⟩;subst h3;subst e;exact⟨v,Zmy σ' (yw σ.H.length++keep) H2,h1,h2,rfl,ZrM ok h4 ho hin,ZrL h5 ho hin,Zfw (ZiL hin) hr h6⟩
def ZCi(h:List TEnt)(n0:Nat)(r:TD)(e:XSh):Option (Ty.dens e.ty):=
 match e.sl with
 |[(0,rs)]=>(ZFT h rs e.es n0 r).bind λkeep=>
  if once (yw n0++keep) then(r.rn (toIds (yw n0++keep))).bind λr=>
   (Wq h (yw n0++keep) (yw n0++keep)).bind λh2=>(Sh.mt (lk h2) rs r).bind λq=>(ESh.mts (lk h2) e.es h2).bind λw=>toD e.ty (q.2++w.2)
  else none
 |_=>none
def Zth(h:List TEnt)(n0:Nat)(r:TD):(l:List XSh)→Option (XSh.sum l)
 |[]=>none
 |[e]=>ZCi h n0 r e
 |e::f::q=>match ZCi h n0 r e with
  |some x=>some (Sum.inl x:Ty.dens e.ty⊕XSh.sum (f::q))
  |none=>(Zth h n0 r (f::q)).map λx=>(Sum.inr x:Ty.dens e.ty⊕XSh.sum (f::q))
theorem ZqF{h:List TEnt}{n0:Nat}{r:TD}:∀{l:List XSh}{o:XSh.sum l},Zth h n0 r l=some o→∀e vs,ZyW l o e vs→∃x,ZCi h n0 r e=some x∧vs=ofD e.ty x
 |[],_,k,_,_,_=>by cases k
 |[e],o,k,x,vs,hs=>by
  obtain⟨rfl,rfl⟩:=hs
  exact⟨o,k,rfl⟩
 |e::f::q,o,k,x,vs,hs=>by
  simp only[Zth] at k;split at k
  ·rename_i y hy;cases k;obtain⟨rfl,rfl⟩:=hs;exact⟨y,hy,rfl⟩
  ·obtain⟨y,h1,h2⟩:=Zc k;subst h2;exact ZqF h1 x vs hs
section
variable{P:yg}
def fnD(P:yg)(fi:FI)(specs:Sp P)(g:yv)(ps:List Sh)(es:List ESh)(ins:List Ty)(xs:List XSh):Ty.dens ins→Option (XSh.sum xs):=λx=>
 match P.funcs[g]? with
 |some fn=>match fn.body with
  |some c=>(Sh.fills ps (ofD ins x)).bind λq=>(ESh.fills es q.2).bind λw=>if w.2.isEmpty then
    evT P fi specs c 0 0 (q.1++yy (fn.ntmps - q.1.length) .junk) w.1 λex a h=>match ex with
     |.exit _=>none
     |_=>Zuz P a h fn.results.toList λds _=>ZDT h w.1.length ds λr h=>ZDS P fi.hi.deep r h λr h=>Zth h w.1.length r xs
    else none
  |none=>none
 |none=>none
theorem ZCj{fi:FI}{specs:Sp P}{g:yv}{ps:List Sh}{es:List ESh}{ins:List Ty}{xs:List XSh}{M:Ty.dens ins→Option (XSh.sum xs)}(ok:SpOk specs)(hl:ZkG P g (VM P g) fi.lp:=by exact True.intro)(hn:ps.length≤VM P g:=by decide+kernel)
 (h:∀x,fnD P fi specs g ps es ins xs x=M x:=by intro v;kernel_rfl) (hb:Zs8 P (VM P g) (Zak P g) fi.bk:=by exact True.intro):Fs.Ok (⟨g,ps,es,ins,xs,M⟩:Fs P):=by
 intro x o hM;have hM:M x=some o:=hM;rw[←h x] at hM;have hl':=ZCe hl;unfold fnD at hM;split at hM
 ·rename_i fn hf;split at hM
  ·rename_i c hb1;obtain⟨q,h1,hM⟩:=yf.1 hM;obtain⟨w,h2,hM⟩:=yf.1 hM;obtain⟨h3,hM⟩:=Za hM;have hN:VM P g=fn.ntmps:=by unfold VM;rw[hf]
   have hc:Zak P g=c:=by unfold Zak;rw[hf];dsimp only;rw[hb1];rfl
   rw[hc,hN] at hl' hb;have hb0:=ZrW hb;rw[hN] at hn
   have hlen:(q.1++yy (fn.ntmps - q.1.length) TD.junk).length=fn.ntmps:=by
    rw[yp,ycp,ZlR h1];omega
   obtain⟨ex,a,hh,k1,k2,k3⟩:=Ws ok c _ _ _ _ _ hlen hl' hb0 hM
   have hex:(ex=.ret∨ex=.normal)∧(Zuz P a hh fn.results.toList λds _=>ZDT hh w.1.length ds λr h=>ZDS P fi.hi.deep r h λr h=>Zth h w.1.length r xs)=some o:=by
    cases ex with
    |exit _=>cases k1
    |normal=>exact⟨.inr rfl,k1⟩
    |ret=>exact⟨.inl rfl,k1⟩
   obtain⟨hex,k1⟩:=hex;obtain⟨ds,hs,C,g1,g2,g3⟩:=Zh2 _ _ k1;refine⟨q.1,q.2,w.1,h1, ?_,λe vs s' hsel hfs=> ?_⟩
   ·rw[h2];have:w.2=[]:=by simpa using h3
    rw[←this]
   unfold ZDT at g1;dsimp only at g1;generalize Zxf hh w.1.length (Zta ds)=keep at g1;obtain⟨g5,g1⟩:=Za g1;obtain⟨r,g6,g1⟩:=yf.1 g1;obtain⟨e2,g7,g1⟩:=yf.1 g1
   have hrun:WC P c (TD.ers (lk w.1) q.1++yy (fn.ntmps - (TD.ers (lk w.1) q.1).length) .junk) (erH w.1) ex (TD.ers (lk hh) a) (erH hh):=by
    have e5:TD.ers (lk w.1) (q.1++yy (fn.ntmps - q.1.length) TD.junk)=TD.ers (lk w.1) q.1++yy (fn.ntmps - (TD.ers (lk w.1) q.1).length) .junk:=by
     rw[Zwr,ZP,ZP,yav,List.map_replicate];rfl
    rw[←e5];exact k3
   have hfin:fin P fn (TD.ers (lk hh) a) (erH hh) (erH w.1).length keep hs=some (C,r.er (lk e2),erH e2):=by
    unfold fin;have:=g3 [];rw[ybi] at this;rw[this];dsimp only;rw[ZQ,g5, ←ZlV,show subEnts (erH hh) _ _=some (erH e2) from Wj (Zas g7) g7]
    split at g6
    ·rename_i r0 hr0;have e4:=ZfG (Zas g7) _ _ g6;rw[e4]
    ·rename_i hr0;have e4:=ZfG (Zas g7) _ _ g6;rw[ZlV,ZP,ybd] at e4
     rw[hr0,show(TD.ers (lk hh) ds).map Dv.arg=ds.map (TD.er (lk hh) ∘ TD.arg (lk hh)) by
      rw[ZP,ybd];exact ycj λd _=>(ZAX d).symm,e4]
   obtain⟨r',H',m1,m2⟩:=ZvE g1 (Zkx hf hb1 hrun hex hfin g2);obtain⟨o1,m3,hvs⟩:=ZqF m1 e vs hsel;unfold ZCi at m3;split at m3
   case h_2=>cases m3
   rename_i rs hsl;obtain⟨keep2,n1,m3⟩:=yf.1 m3;obtain⟨n2,m3⟩:=Za m3;obtain⟨r3,n3,m3⟩:=yf.1 m3;obtain⟨e3,n4,m3⟩:=yf.1 m3;obtain⟨z,g8,m3⟩:=yf.1 m3;obtain⟨y,g9,m3⟩:=yf.1 m3;obtain⟨b1,b2⟩:=Zh0 g9;have hcc:∀id t,Z8 (lk e3) id t none=Z8 (lk y.1) id t none:=λid t=>by rw[b2]
   have eo:=Zc9 _ _ _ m3
   have efill:s'=([z.1],y.1):=by
    rw[hvs,eo,hsl] at hfs;unfold V2 at hfs;rw[show shs [(0,rs)] 1=[rs] from rfl] at hfs
    simp only[Sh.fills,ZlP _ _ _ g8,ya,yab] at hfs;have:=Za4 g9 [];rw[ybi] at this;rw[this] at hfs;exact(ybn hfs).symm
   subst efill;refine⟨z.1,rfl, ?_⟩
   have hk:Con P g (TD.ers (lk w.1) q.1) (erH w.1) (r3.er (lk e3)) (erH e3):=by
    refine ZF2 (keep:=keep2) m2 (by rw[ZQ];exact n2) ?_ ?_
    ·rw[ZQ];exact Wj (Zas n4) n4
    ·rw[ZQ];exact ZfG (Zas n4) _ _ n3
   exact Zyr hk (ZsS hcc _ _ _ g8) (ZlQ hcc g9)
  ·cases hM
 ·cases hM
end
end Go.Ev
end
section
namespace Go.Ev
open Go.RowKit Go.WideShapes Go.ChangeShapes
def Yw(P:yg):Nat→yb→Bool
 |0,_=>false
 |n+1,t=>match P.underlying t with
  |some .bool=>true
  |some (.int _)=>true
  |some .string=>true
  |some (.slice e)=>Yw P n e&&decide (0 < P.cellsOf e)
  |some (.array m e)=>Yw P n e&&P.cellsOf t==m*P.cellsOf e
  |some (.struct fs)=>(fs.toList.all λf=>Yw P n f.type)&&P.cellsOf t==(fs.toList.map λf=>P.cellsOf f.type).sum&&
    ((yw fs.toList.length).all λj=>match fs.toList[j]? with|some f=>f.offset==((fs.toList.take j).map λf=>P.cellsOf f.type).sum|none=>true)
  |_=>false
theorem Zxh(P:yg):Kids P (λt=>∃n,Yw P n t=true) where
 pointer:=by
  rintro t e ⟨n,h⟩ hu
  cases n with
  |zero=>simp[Yw] at h
  |succ n=>simp[Yw,hu] at h
 slice:=by
  rintro t e ⟨n,h⟩ hu
  cases n with
  |zero=>simp[Yw] at h
  |succ n=>simp[Yw,hu] at h;exact⟨n,h.1⟩
 array:=by
  rintro t e m ⟨n,h⟩ hu
  cases n with
  |zero=>simp[Yw] at h
  |succ n=>simp[Yw,hu] at h;exact⟨⟨n,h.1⟩,h.2⟩
 struct:=by
  rintro t fs ⟨n,h⟩ hu
  cases n with
  |zero=>simp[Yw] at h
  |succ n=>
   simp only[Yw,hu,yj,beq_iff_eq,List.all_eq_true] at h;obtain⟨⟨h1,h2⟩,h3⟩:=h;refine⟨λf hf=>⟨n,h1 f hf⟩,h2,λj f hf=> ?_⟩;have hj:j < fs.toList.length:=(yr.1 hf).1;have:=h3 j (by simpa using hj);rw[hf] at this;simpa using this
 map:=by
  rintro t k e ⟨n,h⟩ hu
  cases n with
  |zero=>simp[Yw] at h
  |succ n=>simp[Yw,hu] at h
def ZIb(R:yb→Pl→Prop):List Field→List Pl→Prop
 |[],[]=>True
 |f::fs,y::ys=>R f.type y∧ZIb R fs ys
 |_,_=>False
def wtP(P:yg):Nat→yb→Pl→Prop
 |0,_,_=>False
 |n+1,t,x=>match P.underlying t,x with
  |some .bool,.bool _=>True
  |some (.int k),.int k' m=>k'=k∧(Lit.int k m).wf=true
  |some .string,.str s=>s.size≤maxLen
  |some (.slice e),.sl nn s xs=>s=P.cellsOf e∧nn=none∧xs.length≤maxLen∧∀y,y∈xs→wtP P n e y
  |some (.array m e),.arr m' s xs=>m'=m∧s=P.cellsOf e∧xs.length=m∧∀y,y∈xs→wtP P n e y
  |some (.struct fs),.agg xs=>ZIb (wtP P n) fs.toList xs
  |_,_=>False
def Zxi:Nat→Nat→Prop:=λ_ _=>True
section
variable{H:Type}{enc:yb×yh→H}{P:yg}{w:World}{base:Nat}{sp:Nat→Bool}{held:Bool}
theorem ZDU:∀{s:Nat}{a:Addr}{cs:List yh},w.cells? base a s=some cs→cs.length=s∧∀j u,cs[j]? =some u→w.cell? (a.add j)=some u:=by
 intro s a cs h;unfold World.cells? at h;split at h
 ·have hl:cs.length=s:=by simpa using mapM_some_length h
  refine⟨hl,λj u hu=> ?_⟩;have hj:j < s:=by rw[←hl];exact(yr.1 hu).1
  have:=mapM_some_get h j j (by simp[hj]);rw[hu] at this;exact this
 ·cases h
theorem ZCk{e:yb}{n m:Nat}{a:Addr}{s:Nat}(hs:0 < s){elems:List (DataW H×List MemPlace)}{len:Nat}(hlen:elems.length=len)
 (ih:∀(cs:List yh)(x:DataW H×List MemPlace),DataW.trod enc P w base sp held m e cs=some x→cs.length=s→∃pl,wtP P n e pl∧repC w Zxi pl cs)
 (h:∀i,i < len→(w.cells? base (a.add (i*s)) s).bind (DataW.trod enc P w base sp held m e)=elems[i]?):
 ∀k,k≤len→∃(xs:List Pl)(us:List yh),xs.length=k∧(∀y,y∈xs→wtP P n e y)∧allSz s xs∧us.length=k*s∧repCs w Zxi xs us∧(∀j u,us[j]? =some u→w.cell? (a.add j)=some u)
 |0,_=>⟨[],[],rfl,(λy hy=>by cases hy),(λy hy=>by cases hy),by simp,by simp[repCs],by simp⟩
 |k+1,hk=>by
  obtain⟨xs,us,h1,h2,h3,h4,h5,h6⟩:=ZCk hs hlen ih h k (by omega);have hk':=h k (by omega);rw[yac (by omega)] at hk';obtain⟨cs,hc,ht⟩:=yf.1 hk';obtain⟨c1,c2⟩:=ZDU hc;obtain⟨pl,p1,p2⟩:=ih cs _ ht c1;have psz:pl.size=s:=by rw[←Wn _ _ p2,c1]
  refine⟨xs++[pl],us++cs,by simp[h1],λy hy=> ?_,λy hy=> ?_,by simp[h4,c1,yax],YF h5 (by simpa[repCs] using p2),λj u hu=> ?_⟩
  ·rcases yci.1 hy with hy|hy
   ·exact h2 y hy
   ·rw[yan.1 hy];exact p1
  ·rcases yci.1 hy with hy|hy
   ·exact h3 y hy
   ·rw[yan.1 hy];exact psz
  ·by_cases hj:j < us.length
   ·rw[yao hj] at hu;exact h6 j u hu
   ·rw[yas (by omega)] at hu;have:=c2 _ _ hu;rw[Addr.add_add] at this;rw[←this];congr 2;omega
theorem Zzj{e:yb}{n m:Nat}{s:Nat}{cs:List yh}{elems:List (DataW H×List MemPlace)}{len:Nat}(hlen:elems.length=len)(hcs:cs.length=len*s)
 (ih:∀(cs:List yh)(x:DataW H×List MemPlace),DataW.trod enc P w base sp held m e cs=some x→cs.length=s→∃pl,wtP P n e pl∧repC w Zxi pl cs)
 (h:∀i,i < len→DataW.trod enc P w base sp held m e ((cs.drop (i*s)).take s)=elems[i]?):
 ∀k,k≤len→∃(xs:List Pl),xs.length=k∧(∀y,y∈xs→wtP P n e y)∧allSz s xs∧repCs w Zxi xs (cs.take (k*s))
 |0,_=>⟨[],rfl,(λy hy=>by cases hy),(λy hy=>by cases hy),by simp[repCs]⟩
 |k+1,hk=>by
  obtain⟨xs,h1,h2,h3,h5⟩:=Zzj hlen hcs ih h k (by omega);have hk':=h k (by omega);rw[yac (by omega)] at hk';have hle:k*s+s≤len*s:=by rw[←Nat.succ_mul];exact yby _ hk
  have c1:((cs.drop (k*s)).take s).length=s:=by simp;omega
  obtain⟨pl,p1,p2⟩:=ih _ _ hk' c1;have psz:pl.size=s:=by rw[←Wn _ _ p2,c1]
  refine⟨xs++[pl],by simp[h1],λy hy=> ?_,λy hy=> ?_, ?_⟩
  ·rcases yci.1 hy with hy|hy
   ·exact h2 y hy
   ·rw[yan.1 hy];exact p1
  ·rcases yci.1 hy with hy|hy
   ·exact h3 y hy
   ·rw[yan.1 hy];exact psz
  ·rw[yax,Nat.one_mul,List.take_add];exact YF h5 (by simpa[repCs] using p2)
theorem ZvF{n m:Nat}{cs:List yh}
 (ih:∀(t:yb),Yw P n t=true→∀(cs:List yh)(x:DataW H×List MemPlace),DataW.trod enc P w base sp held m t cs=some x→∃pl,wtP P n t pl∧repC w Zxi pl cs):
 ∀(fs:List Field)(o:Nat),(∀f,f∈fs→Yw P n f.type=true)→(∀(j:Nat)f,fs[j]? =some f→f.offset=o+((fs.take j).map λf=>P.cellsOf f.type).sum)→
  cs.length=o+(fs.map λf=>P.cellsOf f.type).sum→(∀(j:Nat)f,fs[j]? =some f→∃x,DataW.trod enc P w base sp held m f.type ((cs.drop f.offset).take (P.cellsOf f.type))=some x)→
  ∃(xs:List Pl),ZIb (wtP P n) fs xs∧repCs w Zxi xs (cs.drop o)
 |[],o,_,_,hl,_=>⟨[],trivial,by simp only[repCs];apply List.drop_eq_nil_of_le;simp at hl;omega⟩
 |f::fs,o,hp,ho,hl,h=>by
  obtain⟨x,hx⟩:=h 0 f rfl;have ho0:=ho 0 f rfl;simp at ho0;rw[ho0] at hx;obtain⟨pl,p1,p2⟩:=ih f.type (hp f (yau ..)) _ _ hx;simp only[yag,List.sum_cons] at hl
  obtain⟨xs,q1,q2⟩:=ZvF ih fs (o+P.cellsOf f.type) (λg hg=>hp g (yay _ hg)) (λj g hg=>by
   have:=ho (j+1) g hg;simp only[List.take_succ_cons,yag,List.sum_cons] at this;omega) (by omega) (λj g hg=>h (j+1) g hg)
  refine⟨pl::xs,⟨p1,q1⟩, ?_⟩;simp only[repCs];refine⟨(cs.drop o).take (P.cellsOf f.type),(cs.drop o).drop (P.cellsOf f.type),(List.take_append_drop ..).symm,p2, ?_⟩;rw[List.drop_drop];exact q2
theorem ZIc:∀(n m:Nat)(t:yb),Yw P n t=true→∀(cs:List yh)(x:DataW H×List MemPlace),DataW.trod enc P w base sp held m t cs=some x→∃pl,wtP P n t pl∧repC w Zxi pl cs:=by
 intro n
 induction n with
 |zero=>intro m t h;simp[Yw] at h
 |succ n ih=>
  intro m t ht cs x h;unfold Yw at ht;split at ht
  ·rename_i hu;obtain⟨b,rfl,_⟩:=DataW.trod_bool hu h;exact⟨.bool b,by simp[wtP,hu],by simp[repC]⟩
  ·rename_i k hu;obtain⟨z,rfl,rfl,hw⟩:=DataW.trod_int hu h;exact⟨.int k z,by simp[wtP,hu,hw],by simp[repC]⟩
  ·rename_i hu;obtain⟨s,rfl,h2⟩:=DataW.trod_string hu h;exact⟨.str s,by simp[wtP,hu];exact h2.2,by simp[repC]⟩
  ·rename_i e hu;simp only[yj,decide_eq_true_eq] at ht;rcases DataW.trod_slice hu h with⟨rfl,rfl⟩|⟨a,len,cap,elems,rest,m',rfl,rfl,rfl,_,hle,hcap,hlen,hel,_⟩
   ·exact⟨.sl none (P.cellsOf e) [],by simp[wtP,hu],by simp only[repC];exact⟨(λy hy=>by cases hy),none,0,rfl,yn _,Nat.zero_le _,Yt _,λ_=>rfl,λh=>absurd rfl h⟩⟩
   ·obtain⟨xs,us,h1,h2,h3,h4,h5,h6⟩:=ZCk (n:=n) ht.2 hlen (λcs x hx _=>ih m' e ht.1 cs x hx) hel len (yn _);refine⟨.sl none (P.cellsOf e) xs,by simp only[wtP,hu];exact⟨trivial,trivial,by omega,h2⟩, ?_⟩;simp only[repC];refine⟨h3,some a,cap,by rw[h1],by omega,hcap,Yt _,by simp,λhne=> ?_⟩
    have hpos:0 < us.length:=by
     rw[h4];have:0 < len:=by rw[←h1];exact List.length_pos_iff.2 hne
     exact Nat.mul_pos this ht.2
    have hc0:=h6 0 us[0] (yac hpos);obtain⟨b,o,spot⟩:=a
    have hspot:spot=none:=by
     cases spot with
     |none=>rfl
     |some z=>
      exfalso;unfold World.cell? at hc0;split at hc0
      ·simp[Addr.add] at hc0
      ·cases hc0
    subst hspot;exact⟨b,o,us,rfl,h5,λj u hu=>⟨by have:=h6 j u hu;rwa [Addr.add_lit] at this,ytt⟩⟩
  ·rename_i k e hu;simp only[yj,beq_iff_eq] at ht;obtain⟨elems,m',rfl,rfl,hl,hlen,hel⟩:=DataW.trod_array hu h;obtain⟨xs,h1,h2,h3,h4⟩:=Zzj (n:=n) (s:=P.cellsOf e) hlen (by rw[hl,ht.2]) (λcs x hx _=>ih m' e ht.1 cs x hx) hel k (yn _);rw[List.take_of_length_le (by rw[hl,ht.2];exact yn _)] at h4;exact⟨.arr k (P.cellsOf e) xs,by simp only[wtP,hu];exact⟨trivial,trivial,h1,h2⟩,by simp only[repC];exact⟨h1,h3,h4⟩⟩
  ·rename_i fs hu;simp only[yj,beq_iff_eq,List.all_eq_true] at ht;obtain⟨⟨t1,t2⟩,t3⟩:=ht;obtain⟨elems,m',rfl,rfl,hl,hlen,hel⟩:=DataW.trod_struct hu h
   obtain⟨xs,q1,q2⟩:=ZvF (n:=n) (m:=m') (cs:=cs) (λt ht cs x hx=>ih m' t ht cs x hx) fs.toList 0 t1 (λj f hf=>by
    have hj:j < fs.toList.length:=(yr.1 hf).1;have:=t3 j (by simpa using hj);rw[hf] at this;simpa using this) (by rw[hl,t2];omega) (λj f hf=>by
    have hj:j < fs.toList.length:=(yr.1 hf).1;have:=hel j f (by simpa using hf);rw[yac (by rw[hlen];simpa using hj)] at this;exact⟨_,this⟩)
   exact⟨.agg xs,by simp only[wtP,hu];exact q1,by simp only[repC];simpa using q2⟩
  ·cases ht
end
end Go.Ev
namespace Go.Ev
open Go.RowKit Go.WideShapes Go.ChangeShapes
def ZId(P:yg)(n:Nat):List yb→List Pl→Prop
 |[],[]=>True
 |t::ts,x::xs=>wtP P n t x∧ZId P n ts xs
 |_,_=>False
section
variable{H:Type}{enc:yb×yh→H}{P:yg}
def sg0(W:World):Sg:={ F:=Zxi,B:=λb=>W.heap.size≤b,m:=[],H:=[],w:=W}
theorem ZJ5(W:World):Ok (sg0 W) where
 len:=rfl
 inj i j b h:=by simp[sg0] at h
 lt i b h:=by simp[sg0] at h
 ent i e a h:=by simp[sg0] at h
 new b h:=h
 own i b h:=by simp[sg0] at h
theorem ZF3(W:World)(b o:Nat):(sg0 W).stab b o:=⟨.inl trivial,λid e h=>by simp[sg0] at h⟩
theorem Zti{W:World}{x:Pl}{v:yh}{cs:List yh}(hx:repC W Zxi x cs)(hc:v.cells.toList=cs)(hv:x.isAgg=true→∃a,v=.agg a)(hn:x.isAgg=false→cs=[v]):repDV (sg0 W) (.p x) v:=by
 have hm:repC W (sg0 W).stab x cs:=Zbc (λb o u h _=>⟨h,ZF3 W b o⟩) x cs hx;refine⟨λha=> ?_,λha=> ?_⟩
 ·obtain⟨a,rfl⟩:=hv ha;refine⟨a,rfl, ?_⟩;simp only[repD];have:a.toList=cs:=by rw[←hc];rfl
  rw[this];exact hm
 ·simp only[repD];have e:=hn ha;rw[←e];exact hm
theorem ZJ6:∀{n:Nat}{t:yb}{x:Pl},wtP P n t x→x.isAgg=Wa P t
 |0,_,_,h=>by simp[wtP] at h
 |n+1,t,x,h=>by
  unfold wtP at h;split at h <;> rename_i hu <;> first|(simp[Pl.isAgg,Wa,hu];done)|exact h.elim
theorem ZCl{W:World}{n:Nat}(hval:∀(t:yb)(v:yh),Wa P t=true→Value.okWide P W .any 0 t v→∃a,v=.agg a):
 ∀(ts:List yb)(vs:List yh)(ds:List (DataW H))(ps:List MemPlace),(∀t,t∈ts→Yw P n t=true)→(∀(j:Nat)t v,ts[j]? =some t→vs[j]? =some v→(Wa P t=true→∃a,v=.agg a)∧(Wa P t=false→v.cells.toList=[v]))→
  DataW.TrodAll enc P W 0 (λ_=>true) true ts vs ds ps→∃xs,ZId P n ts xs∧repVs (sg0 W) (xs.map .p) vs
 |[],[],[],_,_,_,_=>⟨[],trivial,by simp[repVs]⟩
 |[],_::_,_,_,_,_,h=>by simp[DataW.TrodAll] at h
 |[],[],_::_,_,_,_,h=>by simp[DataW.TrodAll] at h
 |_::_,[],_,_,_,_,h=>by simp[DataW.TrodAll] at h
 |_::_,_::_,[],_,_,_,h=>by simp[DataW.TrodAll] at h
 |t::ts,v::vs,d::ds,ps,hp,hv,h=>by
  obtain⟨p,q,⟨fuel,h1⟩,h2,rfl⟩:=h;obtain⟨x,x1,x2⟩:=ZIc n fuel t (hp t (yau ..)) _ _ h1;obtain⟨xs,xs1,xs2⟩:=ZCl hval ts vs ds q (λu hu=>hp u (yay _ hu)) (λj u w' hj hw=>hv (j+1) u w' hj hw) h2;obtain⟨v1,v2⟩:=hv 0 t v rfl rfl;refine⟨x::xs,⟨x1,xs1⟩, ?_⟩;simp only[yag,repVs];have ha:=ZJ6 x1;exact⟨v,vs,rfl,Zti x2 rfl (λe=>v1 (by rw[←ha];exact e)) (λe=>v2 (by rw[←ha];exact e)),xs2⟩
theorem ZmB{W W':World}{sp':Nat→Bool}{n:Nat}:∀(ts:List yb)(vs:List yh)(ds:List (DataW H))(ps:List MemPlace),(∀t,t∈ts→Yw P n t=true)→
 DataW.TrodAll enc P W 0 (λ_=>true) true ts vs ds ps→(∀p∈ps,W.sameAt W' p)→(∀p∈ps,sp' p.block=true)→DataW.TrodAll enc P W' 0 sp' true ts vs ds ps
 |[],[],[],_,_,h,_,_=>h
 |[],_::_,_,_,_,h,_,_=>by simp[DataW.TrodAll] at h
 |[],[],_::_,_,_,h,_,_=>by simp[DataW.TrodAll] at h
 |_::_,[],_,_,_,h,_,_=>by simp[DataW.TrodAll] at h
 |_::_,_::_,[],_,_,h,_,_=>by simp[DataW.TrodAll] at h
 |t::ts,v::vs,d::ds,ps,hp,h,hs,hb=>by
  obtain⟨p,q,⟨fuel,h1⟩,h2,rfl⟩:=h;refine⟨p,q,⟨fuel, ?_⟩,ZmB ts vs ds q (λu hu=>hp u (yay _ hu)) h2 (λz hz=>hs z (List.mem_append_right _ hz)) (λz hz=>hb z (List.mem_append_right _ hz)),rfl⟩
  exact DataW.trod_stays (Zxh P) (λ{t e}⟨n,hn⟩hu=>by
   cases n with
   |zero=>simp[Yw] at hn
   |succ n=>simp[Yw,hu] at hn;exact hn.2) (by simp) ⟨n,hp t (yau ..)⟩ h1 (λz hz=>hs z (List.mem_append_left _ hz)) (λz hz=>hb z (List.mem_append_left _ hz))
theorem Zzk{W:World}{σ':Sg}(h:To (sg0 W) σ'):Below W.heap.size W σ'.w:=
 ⟨h.os,h.tape,h.output,h.size,λb hb=>h.block b hb (λid=>by simp[sg0])⟩
theorem Ztj{f:Func}{s:ChangeSpec}{apart fresh handsOn again:Bool}{W W':World}{args:Array yh}{v:yh}{ds gs:List (DataW H)}{before pa pv:List MemPlace}
 (hW:DataW.Whole enc P f.params.toList s.vars apart W args.toList ds gs before)
 (hres:∀(b:Nat)(sp:Nat→Bool)(hd:Bool),DataW.TrodAll enc P W' b sp hd f.resultTypes.toList (v.resultList f.resultTypes.size) (s.fn H (ds++gs)).results [])
 (hargs:∀sp:Nat→Bool,(∀p∈before,sp p.block=true)→DataW.TrodAll enc P W' 0 sp true f.params.toList args.toList (s.fn H (ds++gs)).args pa)
 (hvars:∀sp:Nat→Bool,(∀p∈before,sp p.block=true)→DataW.TrodVars enc P W' sp s.vars (s.fn H (ds++gs)).vars pv)
 (hps:before=pa++pv) (hb:Below W.heap.size W W')
 (hok:∀(j:Nat)(t:yb)(r:yh),f.resultTypes[j]? =some t→(v.resultList f.resultTypes.size)[j]? =some r→Value.okWide P W' .any 0 t r):
 s.post enc P f apart fresh handsOn again W args v W':=by
 have hlt:∀p∈before,p.block < W.heap.size:=λp hp=>hW.lt p hp;have hold:∀p∈before,(λb=>decide (b < W.heap.size)) p.block=true:=λp hp=>by simpa using hlt p hp
 refine⟨ds,gs,before,[],pa,pv,hW,hres _ _ _,hargs _ hold,hvars _ hold,World.keptBut_mono (λp hp=>⟨hp, ?_⟩) (hb.frame (· ∈before)),λ_=> ?_⟩
 ·rw[hps,yci] at hp;exact Or.inr hp
 ·obtain⟨_,_,_,_,_,hz,hn⟩:=hW;refine⟨hok,_,_,([]++pa)++pv,⟨[]++pa,pv,trodAll_append (hargs _ (λ_ _=>rfl)) (hres _ _ _),hvars _ (λ_ _=>rfl),rfl, ?_, ?_⟩, ?_⟩
  ·intro b off hp;have hin:MemPlace.cell b off∈before:=by rw[hps];simpa using hp
   rw[hb.frozen (hlt _ hin)];exact hz b off hin
  ·intro ha;have:=hn ha;rw[hps] at this;simpa using this
  ·intro p hp _;rw[hps];simpa using hp
theorem Zxj{f:yv}{fn:Func}{s:ChangeSpec}{n:Nat}{tb:yb}(hr:fn.resultTypes= #[tb])(ht:P.underlying tb=some .bool)(hv:s.vars=[])
 (hs:∀ds:List (DataW H),ds.length=fn.params.toList.length→s.fn H ds={ results:=[.lit (.bool true)],args:=ds}) (hp:∀t,t∈fn.params.toList→Yw P n t=true)
 (W:World) (base:Nat) (args:Array yh) (ds gs:List (DataW H)) (before:List MemPlace)
 (hval:∀(j:Nat)t v,fn.params[j]? =some t→args[j]? =some v→Value.okWide P W .any base t v) (hW:DataW.Whole enc P fn.params.toList s.vars false W args.toList ds gs before)
 (hc:∀xs:List Pl,ZId P n fn.params.toList xs→repVs (sg0 W) (xs.map .p) args.toList→Con P f (xs.map .p) [] (.p (.bool true)) []):
 Calls P f args W λe W'=>∃v,e=.returned v∧s.post enc P fn false true false false W args v W':=by
 have hW':=hW;obtain⟨p,q,hA,hV,rfl,hfz,hnd⟩:=hW;rw[hv] at hV
 obtain⟨rfl,rfl⟩:gs=[]∧q=[]:=by
  cases gs with
  |nil=>exact⟨rfl,hV⟩
  |cons g r=>simp[DataW.TrodVars] at hV
 have hlen:=trodAll_length hA
 obtain⟨xs,x1,x2⟩:=ZCl (enc:=enc) (P:=P) (W:=W) (n:=n) (λt v ha hok=>by
  unfold Value.okWide at hok;unfold Wa at ha;split at hok
  ·obtain⟨cs,rfl,_⟩:=hok;exact⟨cs,rfl⟩
  ·obtain⟨cs,rfl,_⟩:=hok;exact⟨cs,rfl⟩
  ·rename_i h1 h2;split at ha
   ·rename_i fs hu;exact absurd hu (h1 fs)
   ·rename_i k e hu;exact absurd hu (h2 k e)
   ·cases ha) fn.params.toList args.toList ds p hp (λj t v hj hvv=>by
  have hok:=hval j t v (by simpa using hj) (by simpa using hvv);refine⟨λha=> ?_,λha=> ?_⟩
  ·unfold Value.okWide at hok;unfold Wa at ha;split at hok
   ·obtain⟨cs,rfl,_⟩:=hok;exact⟨cs,rfl⟩
   ·obtain⟨cs,rfl,_⟩:=hok;exact⟨cs,rfl⟩
   ·rename_i h1 h2;split at ha
    ·rename_i fs hu;exact absurd hu (h1 fs)
    ·rename_i k e hu;exact absurd hu (h2 k e)
    ·cases ha
  ·obtain⟨m,hm⟩:∃m,Yw P (m+1) t=true:=by
    have:=hp t (List.mem_of_getElem? hj)
    cases n with
    |zero=>simp[Yw] at this
    |succ n=>exact⟨n,this⟩
   unfold Value.okWide at hok;unfold Yw at hm;unfold Wa at ha;split at hm <;> rename_i hu <;> simp only[hu] at hok ha
   all_goals first
    |(cases ha;done)
    |(cases hm;done)
    |(unfold Cell.okWide Cell.ok at hok;simp only[hu] at hok;cases v <;> first|rfl|(simp at hok;done))) hA
 have hcall:=hc xs x1 x2 (sg0 W) args.toList (ZJ5 W) rfl x2;rw[Array.toArray_toList] at hcall;refine Calls.mono hcall ?_;rintro e W' ⟨v,σ',rfl,rfl,hH,hto,hok,hrep⟩;have hbv:v=.bool true:=by simpa[repDV,Dv.isAgg,Pl.isAgg,repD,repC] using hrep
 subst hbv;have hb:=Zzk hto;simp only[ybi] at hW';have hlt:=hW'.lt
 have hsame:∀z∈p,W.sameAt σ'.w z:=by
  intro z hz;have hz':=hlt z hz
  cases z with
  |cell b o=>exact hb.cell (p:=⟨b,o,none⟩) hz'
  |map b=>exact hb.block b hz'
 have hfn:=hs ds hlen.2;refine⟨_,rfl,Ztj (pa:=p) (pv:=[]) hW' (λb sp hd=> ?_) (λsp h=> ?_) (λsp h=> ?_) (by simp) hb ?_⟩
 ·rw[ybi,hfn,hr];exact trodAll_cons_mk (shut_bool ht _) trodAll_mk0
 ·rw[ybi,hfn];exact ZmB fn.params.toList args.toList ds p hp hA hsame h
 ·rw[ybi,hfn,hv];rfl
 ·intro j t r hj hjr;rw[hr] at hj hjr
  cases j with
  |zero=>
   simp at hj;subst hj;have:r=.bool true:=by simpa[Value.resultList] using hjr.symm
   subst this
   exact okWide_bool_mk ht _
  |succ j=>simp at hj
end
end Go.Ev
namespace Go.Ev
end Go.Ev
end
section
namespace Go.Ev
mutual
def Ty.Wf:(t:Ty)→t.den→Prop
 |.int k,n=>(Lit.int k n).wf=true
 |.u8,_=>True
 |.u32,_=>True
 |.u64,_=>True
 |.bool,_=>True
 |.str,s=>s.size≤maxLen
 |.sl t,l=>List.length l≤maxLen∧∀x,List.Mem x l→Ty.Wf t x
 |.arr n t,l=>List.length l=n∧∀x,List.Mem x l→Ty.Wf t x
 |.st fs,x=>Ty.Wfs fs x
def Ty.Wfs:(fs:List Ty)→Ty.dens fs→Prop
 |[],_=>True
 |[t],x=>Ty.Wf t x
 |t::u::r,x=>Ty.Wf t x.1∧Ty.Wfs (u::r) x.2
end
mutual
def ZA0(P:yg):Nat→yb→Ty→Bool
 |0,_,_=>false
 |n+1,t,T=>match P.underlying t,T with
  |some (.int .u8),.u8=>true
  |some (.int .u32),.u32=>true
  |some (.int .u64),.u64=>true
  |some (.int k),.int k'=>decide (k=k')
  |some .bool,.bool=>true
  |some .string,.str=>true
  |some (.slice e),.sl T'=>P.cellsOf e==T'.size&&ZA0 P n e T'
  |some (.array m e),.arr m' T'=>m==m'&&(P.cellsOf e==T'.size&&ZA0 P n e T')
  |some (.struct fs),.st Ts=>tyOks P n fs.toList Ts
  |_,_=>false
def tyOks(P:yg):Nat→List Field→List Ty→Bool
 |0,_,_=>false
 |_+1,[],[]=>true
 |n+1,f::fs,T::Ts=>ZA0 P n f.type T&&tyOks P n fs Ts
 |_+1,_,_=>false
end
theorem ZLe{m:Int}(h:(Lit.int .u8 m).wf=true):∃b:UInt8,m=(b.toNat:Int):=by
 simp only[Lit.wf,yj,decide_eq_true_eq] at h;have h1:(0:Int)≤m:=h.1;have h2:m≤255:=h.2;refine⟨UInt8.ofNat m.toNat, ?_⟩;have:(UInt8.ofNat m.toNat).toNat=m.toNat:=by simp;omega
 rw[this];omega
theorem ZJ7{m:Int}(h:(Lit.int .u32 m).wf=true):∃b:UInt32,m=(b.toNat:Int):=by
 simp only[Lit.wf,yj,decide_eq_true_eq] at h;have h1:(0:Int)≤m:=h.1;have h2:m≤4294967295:=h.2;refine⟨ybs m.toNat, ?_⟩;have:(ybs m.toNat).toNat=m.toNat:=by simp;omega
 rw[this];omega
theorem ZJ8{m:Int}(h:(Lit.int .u64 m).wf=true):∃b:UInt64,m=(b.toNat:Int):=by
 simp only[Lit.wf,yj,decide_eq_true_eq] at h;have h1:(0:Int)≤m:=h.1;have h2:m≤18446744073709551615:=h.2;refine⟨yad m.toNat, ?_⟩;have:(yad m.toNat).toNat=m.toNat:=by simp;omega
 rw[this];omega
theorem ZA1{α β:Type}{f:α→β}{R:α→Prop}:∀{ys:List β},(∀y,y∈ys→∃x,y=f x∧R x)→∃l:List α,ys=l.map f∧∀x,List.Mem x l→R x
 |[],_=>⟨[],rfl,λx hx=>by cases hx⟩
 |y::ys,h=>by
  obtain⟨x,rfl,hx⟩:=h y (yau ..);obtain⟨l,rfl,hl⟩:=ZA1 (λz hz=>h z (yay _ hz))
  exact⟨x::l,rfl,λz hz=>by
   cases hz with
   |head=>exact hx
   |tail _ hz=>exact hl z hz⟩
mutual
theorem ZvG{P:yg}:∀(m n:Nat)(t:yb)(T:Ty)(x:Pl),ZA0 P m t T=true→wtP P n t x→∃v:T.den,T.Wf v∧x=T.enc v
 |0,_,_,_,_,h,_=>by simp[ZA0] at h
 |_+1,0,_,_,_,_,h=>by simp[wtP] at h
 |m+1,n+1,t,T,x,h,hw=>by
  unfold ZA0 at h;split at h
  ·rename_i hu;unfold wtP at hw;rw[hu] at hw;cases x <;> try exact hw.elim
   obtain⟨rfl,h2⟩:=hw;obtain⟨b,rfl⟩:=ZLe h2;exact⟨b,trivial,rfl⟩
  ·rename_i hu;unfold wtP at hw;rw[hu] at hw;cases x <;> try exact hw.elim
   obtain⟨rfl,h2⟩:=hw;obtain⟨b,rfl⟩:=ZJ7 h2;exact⟨b,trivial,rfl⟩
  ·rename_i hu;unfold wtP at hw;rw[hu] at hw;cases x <;> try exact hw.elim
   obtain⟨rfl,h2⟩:=hw;obtain⟨b,rfl⟩:=ZJ8 h2;exact⟨b,trivial,rfl⟩
  ·rename_i k k' hu;have h:=of_decide_eq_true h;subst h;unfold wtP at hw;rw[hu] at hw;cases x <;> try exact hw.elim
   obtain⟨rfl,h2⟩:=hw;exact⟨_,h2,rfl⟩
  ·rename_i hu;unfold wtP at hw;rw[hu] at hw;cases x <;> try exact hw.elim
   exact⟨_,trivial,rfl⟩
  ·rename_i hu;unfold wtP at hw;rw[hu] at hw;cases x <;> try exact hw.elim
   exact⟨_,hw,rfl⟩
  ·rename_i e T' hu;simp only[yj,beq_iff_eq] at h;unfold wtP at hw;rw[hu] at hw;cases x <;> try exact hw.elim
   obtain⟨rfl,rfl,h3,h4⟩:=hw
   obtain⟨l,rfl,h5⟩:=ZA1 λy hy=>(by
    obtain⟨v,a,b⟩:=ZvG m n e T' y h.2 (h4 y hy);exact⟨v,b,a⟩:∃v:T'.den,y=T'.enc v∧T'.Wf v)
   refine⟨l,⟨by simpa using h3,h5⟩, ?_⟩;rw[h.1];rfl
  ·rename_i m0 e m' T' hu;simp only[yj,beq_iff_eq] at h;obtain⟨rfl,h⟩:=h;unfold wtP at hw;rw[hu] at hw;cases x <;> try exact hw.elim
   obtain⟨rfl,rfl,h3,h4⟩:=hw
   obtain⟨l,rfl,h5⟩:=ZA1 λy hy=>(by
    obtain⟨v,a,b⟩:=ZvG m n e T' y h.2 (h4 y hy);exact⟨v,b,a⟩:∃v:T'.den,y=T'.enc v∧T'.Wf v)
   refine⟨l,⟨by simpa using h3,h5⟩, ?_⟩;rw[h.1];rfl
  ·rename_i fs Ts hu;unfold wtP at hw;rw[hu] at hw;cases x <;> try exact hw.elim
   rename_i xs;obtain⟨v,h1,rfl⟩:=wt_tys m n fs.toList Ts xs h hw;exact⟨v,h1,rfl⟩
  ·cases h
theorem wt_tys{P:yg}:∀(m n:Nat)(fs:List Field)(Ts:List Ty)(xs:List Pl),tyOks P m fs Ts=true→ZIb (wtP P n) fs xs→∃v:Ty.dens Ts,Ty.Wfs Ts v∧xs=Ty.encs Ts v
 |0,_,_,_,_,h,_=>by simp[tyOks] at h
 |m+1,n,[],[],[],h,hw=>⟨(),trivial,rfl⟩
 |m+1,n,[],[],_::_,h,hw=>hw.elim
 |m+1,n,[],_::_,_,h,hw=>by cases h
 |m+1,n,_::_,[],_,h,hw=>by cases h
 |m+1,n,_::_,_::_,[],h,hw=>hw.elim
 |m+1,n,f::fs,[T],x::xs,h,hw=>by
  simp only[tyOks,yj] at h;obtain⟨v,h1,rfl⟩:=ZvG m n f.type T x h.1 hw.1
  cases fs with
  |nil=>cases xs with
   |nil=>exact⟨v,h1,rfl⟩
   |cons _ _=>exact hw.2.elim
  |cons _ _=>
   cases m with
   |zero=>exact absurd h.2 (by simp[tyOks])
   |succ m=>exact absurd h.2 (by simp[tyOks])
 |m+1,n,f::fs,T::U::Ts,x::xs,h,hw=>by
  simp only[tyOks,yj] at h;obtain⟨v,h1,rfl⟩:=ZvG m n f.type T x h.1 hw.1;obtain⟨w,h2,rfl⟩:=wt_tys m n fs (U::Ts) xs h.2 hw.2;exact⟨(v,w),⟨h1,h2⟩,rfl⟩
end
theorem ZvH{I X:Type}{step:I→Option (I⊕X)}(Inv:I→Prop)(mu:I→Nat)(Post:X→Prop)
 (h:∀i,Inv i→(∃j,step i=some (.inl j)∧Inv j∧mu j < mu i)∨(∃x,step i=some (.inr x)∧Post x)):∀(n:Nat)(i:I),Inv i→mu i < n→∃x,Zb step n i=some x∧Post x
 |0,i,_,hn=>by omega
 |n+1,i,hi,hn=>by
  unfold Zb;rcases h i hi with⟨j,h1,h2,h3⟩|⟨x,h1,h2⟩
  ·rw[h1,ya];exact ZvH Inv mu Post h n j h2 (by omega)
  ·rw[h1,ya];exact⟨x,rfl,h2⟩
theorem WL{I X:Type}{step:I→Option (I⊕X)}(Inv:I→Prop)(mu:I→Nat)(Post:X→Prop)
 (h:∀i,Inv i→(∃j,step i=some (.inl j)∧Inv j∧mu j < mu i)∨(∃x,step i=some (.inr x)∧Post x)) (i:I) (hi:Inv i) (hm:mu i < 18446744073709551616):∃x,Zb step fuel i=some x∧Post x:=by
 refine ZvH Inv mu Post h fuel i hi ?_;rw[Zda];exact hm
theorem Zz{z:Int}(h1: -9223372036854775808≤z)(h2:z≤9223372036854775807):wi z=z:=by
 simp only[wi,IntKind.wrap,IntKind.signed,IntKind.bits];simp;omega
theorem ZeV{α:Type}{l:List α}{i:Int}{y:α}(h0:0≤i)(h:l[i.toNat]? =some y):idx l i=some y:=by
 unfold idx;rw[if_pos h0,h]
theorem ZbI{α:Type}{l:List α}{i:Nat}(h:i < l.length):∃y,l[i]? =some y:=⟨_,yac h⟩
theorem Yf{i:Int}{n:Nat}(h1:0≤i)(h2:i < (n:Int)):inB i n=true:=by simp[inB,h1,h2]
theorem Z2{n m b:Nat}(h1:(n+m)*b≤140737488355328)(h2:n+m≤9223372036854775807):apB n m b=true:=by
 unfold apB;rw[yj];exact⟨decide_eq_true h1,decide_eq_true h2⟩
def tdv:(ts:List Ty)→Ty.dens ts→List TD
 |[],_=>[]
 |[t],x=>[.p (.v t x)]
 |t::u::r,x=>.p (.v t x.1)::tdv (u::r) x.2
theorem ZCm:∀(ts:List Ty)(x:Ty.dens ts),Sh.fills (ts.map .v) (ofD ts x)=some (tdv ts x,[])
 |[],_=>rfl
 |[t],x=>by
  rw[show ofD [t] x=[⟨t,x⟩] from rfl,yag,List.map_nil,Sh.fills,Sh.fill]
  have e:=Y6 t x;dsimp only;rw[e]
  rfl
 |t::u::r,x=>by
  have h:=ZCm (u::r) x.2;have e:=Y6 t x.1;rw[show ofD (t::u::r) x=⟨t,x.1⟩::ofD (u::r) x.2 from rfl,yag,Sh.fills,Sh.fill]
  dsimp only;rw[e,yab,ya,h];rfl
theorem ZF4{L:Lk}:∀(ts:List Ty)(x:Ty.dens ts),TD.ers L (tdv ts x)=(Ty.encs ts x).map .p
 |[],_=>rfl
 |[t],x=>rfl
 |t::u::r,x=>by
  rw[show tdv (t::u::r) x=.p (.v t x.1)::tdv (u::r) x.2 from rfl,ZP,yag, ←ZP,ZF4 (u::r) x.2]
  rfl
theorem ZIe{P:yg}{g:yv}{ts:List Ty}{M:Ty.dens ts→Option Bool}(hok:Fs.Ok (⟨g,ts.map .v,[],ts,[⟨.ret,[(0,.v .bool)],[],[.bool]⟩],M⟩:Fs P)){x:Ty.dens ts}(h:M x=some true):
 Con P g ((Ty.encs ts x).map .p) [] (.p (.bool true)) []:=by
 obtain⟨args,R,H,h1,h2,h3⟩:=hok x true h;have e:=(ZCm ts x).symm.trans (show Sh.fills (ts.map .v) (ofD ts x)=some (args,R) from h1)
 cases e;cases h2
 obtain⟨r,h4,h5⟩:=h3 _ [⟨.bool,true⟩] ([.p (.v .bool true)],[]) ⟨rfl,rfl⟩ (by
  simp only[V2,shs];rfl)
 cases h4;rw[←ZF4 (L:=lk [])];exact h5
theorem Zno{P:yg}{s:Fs P}(h:s.Ok){M:Ty.dens s.ins→Option (XSh.sum s.xs)}(e:∀x,M x=s.M x):Fs.Ok (P:=P) { s with M:=M}:=by
 have:M=s.M:=funext e;subst this;exact h
def Ztk(P:yg)(m:Nat):List yb→List Ty→Bool
 |[],[]=>true
 |t::ts,T::Ts=>ZA0 P m t T&&Ztk P m ts Ts
 |_,_=>false
theorem ZCn{P:yg}{m n:Nat}:∀{ts:List yb}{Ts:List Ty}{xs:List Pl},Ztk P m ts Ts=true→ZId P n ts xs→∃v:Ty.dens Ts,Ty.Wfs Ts v∧xs=Ty.encs Ts v
 |[],[],[],_,_=>⟨(),trivial,rfl⟩
 |[],[],_::_,_,h=>h.elim
 |[],_::_,_,h,_=>by cases h
 |_::_,[],_,h,_=>by cases h
 |_::_,_::_,[],_,h=>h.elim
 |t::ts,[T],x::xs,h,hw=>by
  simp only[Ztk,yj] at h;obtain⟨v,h1,rfl⟩:=ZvG m n t T x h.1 hw.1
  cases ts with
  |nil=>cases xs with
   |nil=>exact⟨v,h1,rfl⟩
   |cons _ _=>exact hw.2.elim
  |cons _ _=>exact absurd h.2 (by simp[Ztk])
 |t::ts,T::U::Ts,x::xs,h,hw=>by
  simp only[Ztk,yj] at h;obtain⟨v,h1,rfl⟩:=ZvG m n t T x h.1 hw.1;obtain⟨w,h2,rfl⟩:=ZCn (Ts:=U::Ts) h.2 hw.2;exact⟨(v,w),⟨h1,h2⟩,rfl⟩
theorem Zxk{P:yg}{g:yv}{t:Ty}{xs:List XSh}{MA M:Ty.dens [.sl t]→Option (XSh.sum xs)}(hA:Fs.Ok (⟨g,[.sl true t],[],[.sl t],xs,MA⟩:Fs P))
 (h1:M ([]:List t.den)=none) (h2:∀(x:t.den)(l:List t.den),M (x::l)=MA (x::l)):Fs.Ok (⟨g,[.v (.sl t)],[],[.sl t],xs,M⟩:Fs P):=by
 intro l o hM;have key:∀(l:List t.den),Ty.cast (.sl t) (.sl t) l=some l:=λl=>Y6 (.sl t) l
 have h3:∀l:List t.den,M l=some o→MA l=some o∧l≠[]:=λl hl=>by
  cases l with
  |nil=>rw[h1] at hl;cases hl
  |cons x l=>exact⟨by rw[←h2];exact hl,by simp⟩
 obtain⟨hMA,hne⟩:=h3 l hM;obtain⟨a1,R1,H1,f1,f2,f3⟩:=hA l o hMA
 have e1:a1=[.p (.sl (some true) t l)]∧R1=[]:=by
  have:Sh.fills [.sl true t] [(⟨.sl t,l⟩:TV)]=some (a1,R1):=f1;simp only[Sh.fills,Sh.fill] at this;rw[key l] at this;have this:some (([.p (.sl (some true) t l)]:List TD),([]:List TV))=some (a1,R1):=this;cases this;exact⟨rfl,rfl⟩
 obtain⟨rfl,rfl⟩:=e1;cases f2;refine⟨[.p (.v (.sl t) l)],[],[], ?_,rfl,λe vs s' hs hf=> ?_⟩
 ·show Sh.fills [.v (.sl t)] [(⟨.sl t,l⟩:TV)]=_;simp only[Sh.fills,Sh.fill];rw[key l];rfl
 ·obtain⟨r,r1,r2⟩:=f3 e vs s' hs hf;exact⟨r,r1,ZBH (xs:=List.map t.enc l) r2 λhl=>absurd (List.map_eq_nil_iff.1 hl) hne⟩
theorem ZLf{P:yg}{g:yv}{ps:List Sh}{es:List ESh}{ins:List Ty}{xr xp:XSh}{MR:Ty.dens ins→Option (XSh.sum [xr])}{MP:Ty.dens ins→Option (XSh.sum [xp])}(c:Ty.dens ins→Bool)
 (hR:Fs.Ok (⟨g,ps,es,ins,[xr],MR⟩:Fs P)) (hP:Fs.Ok (⟨g,ps,es,ins,[xp],MP⟩:Fs P)):Fs.Ok (⟨g,ps,es,ins,[xr,xp],λx=>if c x=true then(MP x).map .inr else(MR x).map .inl⟩:Fs P):=by
 intro x o hM
 replace hM:(if c x=true then(MP x).map Sum.inr else(MR x).map Sum.inl)=some o:=hM
 split at hM
 ·obtain⟨y,h1,rfl⟩:=yq.1 hM;obtain⟨a,R,H,f1,f2,f3⟩:=hP x y h1;exact⟨a,R,H,f1,f2,λe vs s' hs hf=>f3 e vs s' hs hf⟩
 ·obtain⟨y,h1,rfl⟩:=yq.1 hM;obtain⟨a,R,H,f1,f2,f3⟩:=hR x y h1;exact⟨a,R,H,f1,f2,λe vs s' hs hf=>f3 e vs s' hs hf⟩
end Go.Ev
end
section
namespace Go.Proofs.YtmkgbalfkhaflaaGreat
open Go.Ev Go.RowKit Go.Lib
theorem ZA2(w:World):Calls yc 178 #[.slice none 0 0,.int .i64 0] w λe w'=>e=.returned (.slice none 0 0)∧w'=w:=by
 go_enter Tryz.func178,Tryz.ntmps178
 go_wp2
 go_ret
 exact⟨rfl,rfl⟩
theorem ZDV(n:Nat)(w:World)(h0:0 < n)(hn:n≤Zt):Calls yc 178 #[.slice none 0 0,.int .i64 n] w λe w'=>e=.returned (.slice (some ⟨w.heap.size,0,none⟩) 0 (grownCap w n 0 5))∧
 w'=w.drew.alloc (.cells (Builtin.zeroCells #[.int .u8 0] n++Builtin.zeroCells #[.int .u8 0] (grownCap w n 0 5 - n)) 5):=by
 have hb:n≤140737488355328:=hn;have h1:¬((n:Int) < 0):=by omega
 have h3:wrap64 ((n:Int) - ((0:Int) - (0:Int)))=(n:Int):=by unfold wrap64;omega
 have h3':wrap64 ((n:Int) - 0)=(n:Int):=by unfold wrap64;omega
 have h3'':wrap64 (n:Int)=(n:Int):=by unfold wrap64;omega
 have h4:(n:Int) > 0:=by omega
 have hi:∃i,yc.info? 5=some i∧i.zero=some (.int .u8 0)∧i.size=1∧i.bytes=1:=by
  have h:(yc.info? 5).map (λi=>(i.zero,i.size,i.bytes))=some (some (.int .u8 0),1,1):=by kernel_rfl
  obtain⟨i,h1,h2⟩:=yq.1 h;simp only[Prod.mk.injEq] at h2;exact⟨i,h1,h2.1,h2.2.1,h2.2.2⟩
 obtain⟨i,hi1,hi2,hi3,hi4⟩:=hi
 have hrz:∀ty,(Builtin.append_ #[74,3] ty #[.slice none 0 0,.int .i64 n]).run yc w=
  .ok (.slice (some ⟨w.heap.size,0,none⟩) n (grownCap w n 0 5)) (w.drew.alloc (.cells (Builtin.zeroCells #[.int .u8 0] n++Builtin.zeroCells #[.int .u8 0] (grownCap w n 0 5 - n)) 5)):=λty=>by
  have h:=Lib.run_append_grow_zeros (P:=yc) w 74 3 ty 5 i (.int .u8 0) .i64 .i64 Tryz.underlying74 Tryz.underlying3 hi1 hi2 none 0 0 [] (by rw[hi3];simp[Builtin.firstCells]) n h0 (by omega) (by omega) (by omega)
   (by rw[hi4];omega) (by rw[ybg];exact growslice_fits h0 (by rw[hi4];omega))
  simpa[Value.cells] using h
 obtain⟨G,hG⟩:∃G,G=grownCap w n 0 5:=⟨_,rfl⟩;have hGn:=grownCap_ge w n 0 5;have hG63:=grownCap_le_maxLen w n 0 5 (by unfold maxLen;omega);unfold maxLen at hG63;rw[←hG] at hrz hGn hG63 ⊢;clear hG
 go_enter Tryz.func178,Tryz.ntmps178
 go_wp2_with (at_builtin;refine Lib.wpList_append_run _ rfl _ _ _ _ rfl _ _ rfl rfl _ _ (hrz _) ?_)
 all_goals (go_ret;exact⟨rfl,rfl⟩)
theorem ZF5(n:Nat)(hn:n≤Zt):Con yc 178 [.p (.sl (some false) 1 []),.p (.int .i64 (n:Int))] [] (.own 0 none 1 []) [.log 1 5 []]:=by
 intro σ vs ok hH hvs;simp only[repVs] at hvs;obtain⟨v,_,rfl,hv,v2,_,rfl,hv2,rfl⟩:=hvs;obtain rfl:=Zsi hv
 obtain rfl:v2=.int .i64 n:=by
  have:=hv2.2 rfl;simpa[repD,repC] using this
 have hm:σ.m=[]:=List.eq_nil_of_length_eq_zero (by rw[ok.len,hH];rfl);rcases ycc n with rfl|h0
 ·refine(ZA2 σ.w).mono λe w'⟨he,hw⟩=> ?_;subst he;subst hw;obtain⟨to,ok'⟩:=WP (σ':={ σ with m:=σ.m++[none],H:=σ.H++[.log 1 5 []]}) ok rfl rfl rfl rfl (World.grownBy.refl σ.w none) (.inl rfl) (λ_=>.inl ⟨rfl,rfl⟩);refine⟨_,{ σ with m:=σ.m++[none],H:=σ.H++[.log 1 5 []]},rfl,rfl,by simp[hH],to,ok', ?_⟩;rw[Zd rfl];simp only[repD];exact⟨λ_ hx=>(by cases hx),none,0,rfl,yn _,by simp[maxLen],Yt _,λ_=>rfl,λh=>absurd rfl h,5,[],by simp[hH],yn _,λ_=>.inl ⟨by simp[hm],rfl,rfl⟩⟩
 ·refine(ZDV n σ.w h0 hn).mono λe w'⟨he,hw⟩=> ?_;subst he;subst hw;have hge:=grownCap_ge σ.w n 0 5;have hcm:=grownCap_le_maxLen σ.w n 0 5 (by have:n≤140737488355328:=hn;unfold maxLen;omega)
  have hsz:(Builtin.zeroCells #[.int .u8 0] n++Builtin.zeroCells #[.int .u8 0] (grownCap σ.w n 0 5 - n):Array yh).size=grownCap σ.w n 0 5*1:=by
   simp only[Array.size_append,size_zeroCells];simp;omega
  let cs:Array yh:=Builtin.zeroCells #[.int .u8 0] n++Builtin.zeroCells #[.int .u8 0] (grownCap σ.w n 0 5 - n);let σ':Sg:={ σ with m:=σ.m++[some σ.w.heap.size],H:=σ.H++[.log 1 5 []],w:=σ.w.drew.alloc (.cells cs 5)};have hblk:σ'.w.heap[σ.w.heap.size]? =some (.cells cs 5 (0,0)):=heap_alloc_new σ.w.drew _
  obtain⟨to,ok'⟩:=WP (σ':=σ') ok rfl rfl rfl rfl (XG σ.w (.cells cs 5) none) (.inr ⟨_,rfl,yn _,by simp[σ']⟩)
   (λleaf=>.inr ⟨σ.w.heap.size,_,grownCap σ.w n 0 5,rfl,hblk,hsz,Nat.zero_le _,hcm,λ_ hx=>(by cases hx),by simp[repCs]⟩)
  refine⟨_,σ',rfl,rfl,by simp[σ',hH],to,ok', ?_⟩;rw[Zd rfl];simp only[repD];exact⟨λ_ hx=>(by cases hx),_,_,rfl,Nat.zero_le _,hcm,Yt _,λh=>(by cases h),λh=>absurd rfl h,5,[],by simp[σ',hH],yn _,λ_=>.inr ⟨_,_,by simp[σ',hm],rfl,hblk,hsz⟩⟩
end Go.Proofs.YtmkgbalfkhaflaaGreat
end
section
set_option maxRecDepth 4000
namespace Go.Proofs.YtmkgbalfkhaflaaGreat
open Go Go.Ev
noncomputable section
abbrev yI:Ty:=.int .i64
abbrev Zq:Ty:=(.st [yI,yI,yI,.u64,yI])
abbrev Cond:Type:=(Int×Int×Int×UInt64×Int)
abbrev ZX:Ty:=(.st [.u64,.u64])
abbrev Sig:Type:=(UInt64×UInt64)
abbrev Sig.R(x:Sig):UInt64:=x.1
abbrev Zj:Ty:=(.st [(.arr 32 .u8),yI])
abbrev Zu:Type:=((List UInt8)×Int)
abbrev Zu.N(x:Zu):Int:=x.2
abbrev QA:Ty:=(.st [yI,(.sl ZX),.u64])
abbrev ZgZ:Type:=(Int×(List Sig)×UInt64)
abbrev yIn:Ty:=(.st [Zj,QA])
abbrev In:Type:=(Zu×ZgZ)
abbrev Zo:Ty:=(.st [(.sl .u64),yI,yI,.u64])
abbrev ZJ:Type:=((List UInt64)×Int×Int×UInt64)
abbrev Zn:Ty:=(.st [(.sl Zo)])
abbrev Lock:Type:=(List ZJ)
abbrev ZF:Ty:=(.st [yI,Zn])
abbrev Out:Type:=(Int×Lock)
abbrev yTx:Ty:=(.st [(.sl yIn),(.sl ZF),yI])
abbrev Tx:Type:=((List In)×(List Out)×Int)
abbrev Qi:Ty:=(.st [.u64,.u64,.u64,.u64,.u64])
abbrev Zal:Type:=(UInt64×UInt64×UInt64×UInt64×UInt64)
abbrev Zal.Cond(x:Zal):UInt64:=x.2.2.2.1
abbrev Zd4:Ty:=(.st [yI,yI,yI,yI,yI,yI])
abbrev ZbJ:Type:=(Int×Int×Int×Int×Int×Int)
abbrev Zi:Ty:=(.st [yI,yI,yI,Zq,.u64,(.sl .u8),yI,ZX,(.arr 32 .u8),.u64,yTx,Qi,Zd4,(.sl .u8)])
abbrev Msg:Type:=(Int×Int×Int×Cond×UInt64×(List UInt8)×Int×Sig×(List UInt8)×UInt64×Tx×Zal×ZbJ×(List UInt8))
abbrev Msg.Cond(x:Msg):Cond:=x.2.2.2.1
abbrev Msg.Bytes(x:Msg):(List UInt8):=x.2.2.2.2.2.2.2.2.2.2.2.2.2
def Zd5(F:Nat)(a0:Msg)(s0:Int):Option ((Bool×Int)):=
 some (a0.1==s0,s0)
def Zh4:Fs yc:=⟨100,[.v Zi,.ref 0 []],[.var (.v yI) true],[Zi,yI],[⟨.ret,[(0,.v .bool)],[.var (.v yI) true],[.bool,yI]⟩],λx=>Zd5 fuel x.1 x.2⟩
theorem Zoo:Zh4.Ok:=fnO { still:=[3]} [] [] trivial
def Zdz(F:Nat)(s:((List Msg)×Int×Int×Int)):Option (((List Msg)×Int×Int×Int)⊕((Int×Int)⊕Int)):=
 if(decide (s.2.2.1 < s.2.1))=true then
  (idx s.1 s.2.2.1).bind λe1=>
  (Zd5 F e1 s.2.2.2).bind λo2=>
  if o2.1=true then
   some (.inr (.inl (s.2.2.1,o2.2)))
  else
  some (.inl (s.1,s.2.1,wi (s.2.2.1+1),o2.2))
 else
 some (.inr (.inr s.2.2.2))
def Ztl:Lp:=⟨[(0,.v (.sl Zi)),(1,.fn 100 [.ref 0 []]),(7,.v yI),(8,.v yI)],[.var (.v yI) true],[(.sl Zi),yI,yI,yI],[⟨.ret,[(4,.v yI)],[.var (.v yI) true],[yI,yI]⟩,⟨.exit 0,[],[.var (.v yI) true],[yI]⟩],Zb (Zdz fuel) fuel⟩
theorem ZuA:Ztl.okA yc 99 0:=ZC { still:=[4,15]} [] [Zh4] ⟨Zoo,ytt⟩
def ZkH(F:Nat)(a0:(List Msg))(s0:Int):Option ((Int×Int)):=
 (Zb (Zdz F) F (a0,(a0.length:Int),0,s0)).bind λo3=>
 match o3 with
 |.inl o4=>
  some (o4.1,o4.2)
 |.inr o5=>
  some ((-1),o5)
def ZvI:Fs yc:=⟨99,[.v (.sl Zi),.fn 100 [.ref 0 []]],[.var (.v yI) true],[(.sl Zi),yI],[⟨.ret,[(0,.v yI)],[.var (.v yI) true],[yI,yI]⟩],λx=>ZkH fuel x.1 x.2⟩
theorem ZA3:ZvI.Ok:=fnO { still:=[4,15]} [(0,Ztl)] [] trivial ⟨ZuA,ytt⟩
def Vd(F:Nat)(a0:(List Msg))(a1:Int):Option ((Msg×Bool)):=
 (ZkH F a0 a1).bind λo8=>
 if(decide (o8.1 < 0))=true then
  some ((0,0,0,(0,0,0,0,0),0,[],0,(0,0),yzz,0,([],[],0),(0,0,0,0,0),(0,0,0,0,0,0),[]),false)
 else
 (idx a0 o8.1).bind λe9=>
 some (e9,true)
def Zd6(F:Nat):Fs yc:=⟨43,[.v (.sl Zi),.v yI],[],[(.sl Zi),yI],[⟨.ret,[(0,.tup [.v Zi,.v .bool])],[],[Zi,.bool]⟩],λx=>Vd F x.1 x.2⟩
def QB:Fs yc:=Zd6 fuel
theorem V3:QB.Ok:=fnO { still:=[5,7,8]} [] [ZvI] ⟨ZA3,ytt⟩
def WQ(F:Nat)(a0:ZbJ)(a1:Int):Option (Bool):=
 some (decide (a1 ≥ a0.1))
def Zhl:Fs yc:=⟨22,[.v Zd4,.v yI],[],[Zd4,yI],[⟨.ret,[(0,.v .bool)],[],[.bool]⟩],λx=>WQ fuel x.1 x.2⟩
theorem ZkI:Zhl.Ok:=fnO { still:=[4]} [] [] trivial
def ZqG:ByteArray:=⟨#[0,1,2,2,3,3,3,3,4,4,4,4,4,4,4,4,5,5,5,5,5,5,5,5,5,5,5,5,5,5,5,5,6,6,6,6,6,6,6,6,6,6,6,6,6,6,6,6,6,6,6,6,6,6,6,6,6,6,6,6,6,6,6,6,7,7,7,7,7,7,7,7,7,7,7,7,7,7,7,7,7,7,7,7,7,7,7,7,7,7,7,7,7,7,7,7,7,7,7,7,7,7,7,7,7,7,7,7,7,7,7,7,7,7,7,7,7,7,7,7,7,7,7,7,7,7,7,7,8,8,8,8,8,8,8,8,8,8,8,8,8,8,8,8,8,8,8,8,8,8,8,8,8,8,8,8,8,8,8,8,8,8,8,8,8,8,8,8,8,8,8,8,8,8,8,8,8,8,8,8,8,8,8,8,8,8,8,8,8,8,8,8,8,8,8,8,8,8,8,8,8,8,8,8,8,8,8,8,8,8,8,8,8,8,8,8,8,8,8,8,8,8,8,8,8,8,8,8,8,8,8,8,8,8,8,8,8,8,8,8,8,8,8,8,8,8,8,8,8,8,8,8,8,8,8,8]⟩
def ZqH(F:Nat)(a0:UInt64):Option (Int):=
 if(decide (a0 ≥ 4294967296))=true then
  if(decide ((ZL a0 32) ≥ 65536))=true then
   if(decide ((ZL (ZL a0 32) 16) ≥ 256))=true then
    let y10:UInt8:=w8 ((ZL (ZL (ZL a0 32) 16) 8).toNat:Int)
    (idx (Zl9 ZqG) (y10.toNat:Int)).bind λe11=>
    some (wi (56+(e11.toNat:Int)))
   else
   (idx (Zl9 ZqG) ((w8 ((ZL (ZL a0 32) 16).toNat:Int)).toNat:Int)).bind λe12=>
   some (wi (48+(e12.toNat:Int)))
  else
  if(decide ((ZL a0 32) ≥ 256))=true then
   (idx (Zl9 ZqG) ((w8 ((ZL (ZL a0 32) 8).toNat:Int)).toNat:Int)).bind λe13=>
   some (wi (40+(e13.toNat:Int)))
  else
  (idx (Zl9 ZqG) ((w8 ((ZL a0 32).toNat:Int)).toNat:Int)).bind λe14=>
  some (wi (32+(e14.toNat:Int)))
 else
 if(decide (a0 ≥ 65536))=true then
  if(decide ((ZL a0 16) ≥ 256))=true then
   (idx (Zl9 ZqG) ((w8 ((ZL (ZL a0 16) 8).toNat:Int)).toNat:Int)).bind λe15=>
   some (wi (24+(e15.toNat:Int)))
  else
  (idx (Zl9 ZqG) ((w8 ((ZL a0 16).toNat:Int)).toNat:Int)).bind λe16=>
  some (wi (16+(e16.toNat:Int)))
 else
 if(decide (a0 ≥ 256))=true then
  (idx (Zl9 ZqG) ((w8 ((ZL a0 8).toNat:Int)).toNat:Int)).bind λe17=>
  some (wi (8+(e17.toNat:Int)))
 else
 (idx (Zl9 ZqG) ((w8 (a0.toNat:Int)).toNat:Int)).bind λe18=>
 some (wi (0+(e18.toNat:Int)))
def Zop:Fs yc:=⟨192,[.v .u64],[],[.u64],[⟨.ret,[(0,.v yI)],[],[yI]⟩],λx=>ZqH fuel x⟩
theorem ZuB:Zop.Ok:=fnO { still:=[2]} [] [] trivial
def Yz(F:Nat)(a0:UInt64):Option (Int):=
 (ZqH F a0).bind λo19=>
 some (wi (64 - o19))
def Zcr:Fs yc:=⟨191,[.v .u64],[],[.u64],[⟨.ret,[(0,.v yI)],[],[yI]⟩],λx=>Yz fuel x⟩
theorem ZiS:Zcr.Ok:=fnO { still:=[2,3]} [] [Zop] ⟨ZuB,ytt⟩
def QC(F:Nat)(s:(UInt64×UInt64×UInt64×UInt64×UInt64×UInt64×UInt64×UInt64×UInt64)):Option ((UInt64×UInt64×UInt64×UInt64×UInt64×UInt64×UInt64×UInt64×UInt64)⊕(UInt64×UInt64×UInt64×UInt64×UInt64×UInt64×UInt64×UInt64)):=
 if(decide (s.2.2.2.2.2.2.2.1 ≥ 4294967296))=true then
  let y27:Bool:=decide ((s.2.2.2.2.2.2.2.2+s.2.2.1) ≥ 4294967296)
  if y27=true then
   some (.inr (s.1,s.2.1,s.2.2.1,s.2.2.2.1,s.2.2.2.2.1,s.2.2.2.2.2.1,s.2.2.2.2.2.2.1,s.2.2.2.2.2.2.2.1 - 1))
  else
  some (.inl (s.1,s.2.1,s.2.2.1,s.2.2.2.1,s.2.2.2.2.1,s.2.2.2.2.2.1,s.2.2.2.2.2.2.1,s.2.2.2.2.2.2.2.1 - 1,s.2.2.2.2.2.2.2.2+s.2.2.1))
 else
 let y28:Bool:=decide ((s.2.2.2.2.2.2.2.1*s.2.2.2.1) > ((4294967296*s.2.2.2.2.2.2.2.2)+s.2.2.2.2.2.1))
 if y28=true then
  let y29:Bool:=decide ((s.2.2.2.2.2.2.2.2+s.2.2.1) ≥ 4294967296)
  if y29=true then
   some (.inr (s.1,s.2.1,s.2.2.1,s.2.2.2.1,s.2.2.2.2.1,s.2.2.2.2.2.1,s.2.2.2.2.2.2.1,s.2.2.2.2.2.2.2.1 - 1))
  else
  some (.inl (s.1,s.2.1,s.2.2.1,s.2.2.2.1,s.2.2.2.2.1,s.2.2.2.2.2.1,s.2.2.2.2.2.2.1,s.2.2.2.2.2.2.2.1 - 1,s.2.2.2.2.2.2.2.2+s.2.2.1))
 else
 some (.inr (s.1,s.2.1,s.2.2.1,s.2.2.2.1,s.2.2.2.2.1,s.2.2.2.2.2.1,s.2.2.2.2.2.2.1,s.2.2.2.2.2.2.2.1))
def ZmC:Lp:=⟨[(2,.v .u64),(8,.v .u64),(9,.v .u64),(10,.v .u64),(11,.v .u64),(13,.v .u64),(14,.v .u64),(15,.v .u64),(16,.v .u64)],[],[.u64,.u64,.u64,.u64,.u64,.u64,.u64,.u64,.u64],[⟨.exit 0,[(2,.v .u64),(8,.v .u64),(9,.v .u64),(10,.v .u64),(11,.v .u64),(13,.v .u64),(14,.v .u64),(15,.v .u64)],[],[.u64,.u64,.u64,.u64,.u64,.u64,.u64,.u64]⟩],Zb (QC fuel) fuel⟩
theorem ZpK:ZmC.okA yc 185 0:=ZC { still:=[6,7,34]} [] [] trivial
def QD(F:Nat)(s:(UInt64×UInt64×UInt64×UInt64×UInt64×UInt64×UInt64×UInt64×UInt64)):Option ((UInt64×UInt64×UInt64×UInt64×UInt64×UInt64×UInt64×UInt64×UInt64)⊕(UInt64×UInt64×UInt64×UInt64×UInt64×UInt64)):=
 if(decide (s.2.2.2.2.2.2.2.2 ≥ 4294967296))=true then
  let y32:Bool:=decide ((s.2.2.2.2.2.2.1+s.2.2.1) ≥ 4294967296)
  if y32=true then
   some (.inr (s.1,s.2.1,s.2.2.2.2.1,s.2.2.2.2.2.1,s.2.2.2.2.2.2.2.1,s.2.2.2.2.2.2.2.2 - 1))
  else
  some (.inl (s.1,s.2.1,s.2.2.1,s.2.2.2.1,s.2.2.2.2.1,s.2.2.2.2.2.1,s.2.2.2.2.2.2.1+s.2.2.1,s.2.2.2.2.2.2.2.1,s.2.2.2.2.2.2.2.2 - 1))
 else
 let y33:Bool:=decide ((s.2.2.2.2.2.2.2.2*s.2.2.2.1) > ((4294967296*s.2.2.2.2.2.2.1)+s.2.2.2.2.1))
 if y33=true then
  let y34:Bool:=decide ((s.2.2.2.2.2.2.1+s.2.2.1) ≥ 4294967296)
  if y34=true then
   some (.inr (s.1,s.2.1,s.2.2.2.2.1,s.2.2.2.2.2.1,s.2.2.2.2.2.2.2.1,s.2.2.2.2.2.2.2.2 - 1))
  else
  some (.inl (s.1,s.2.1,s.2.2.1,s.2.2.2.1,s.2.2.2.2.1,s.2.2.2.2.2.1,s.2.2.2.2.2.2.1+s.2.2.1,s.2.2.2.2.2.2.2.1,s.2.2.2.2.2.2.2.2 - 1))
 else
 some (.inr (s.1,s.2.1,s.2.2.2.2.1,s.2.2.2.2.2.1,s.2.2.2.2.2.2.2.1,s.2.2.2.2.2.2.2.2))
def ZmD:Lp:=⟨[(2,.v .u64),(8,.v .u64),(9,.v .u64),(10,.v .u64),(14,.v .u64),(15,.v .u64),(16,.v .u64),(17,.v .u64),(18,.v .u64)],[],[.u64,.u64,.u64,.u64,.u64,.u64,.u64,.u64,.u64],[⟨.exit 2,[(2,.v .u64),(8,.v .u64),(14,.v .u64),(15,.v .u64),(17,.v .u64),(18,.v .u64)],[],[.u64,.u64,.u64,.u64,.u64,.u64]⟩],Zb (QD fuel) fuel⟩
theorem ZpL:ZmD.okA yc 185 1:=ZC { still:=[6,7,34]} [] [] trivial
def Zg0(F:Nat)(a0:UInt64)(a1:UInt64)(a2:UInt64):Option ((UInt64×UInt64)):=
 if(a2==0)=true then
  none
 else
 if(decide (a2≤a0))=true then
  none
 else
 if(a0==0)=true then
  if(a2 !=0)=true then
   if(a2 !=0)=true then
    some (a1 / a2,a1 % a2)
   else
   none
  else
  none
 else
 (Yz F a2).bind λo20=>
 let y21:UInt64:=ZL (Qh a2 (min ((w64 o20).toNat:Int).toNat 64)) 32;let y22:UInt64:=(Qh a2 (min ((w64 o20).toNat:Int).toNat 64))&&&4294967295;let y23:UInt64:=ZL a1 (min ((64 - (w64 o20)).toNat:Int).toNat 64);let y24:UInt64:=(Qh a0 (min ((w64 o20).toNat:Int).toNat 64))|||y23;let y25:UInt64:=ZL (Qh a1 (min ((w64 o20).toNat:Int).toNat 64)) 32;let y26:UInt64:=(Qh a1 (min ((w64 o20).toNat:Int).toNat 64))&&&4294967295
 if(y21 !=0)=true then
  (Zb (QC F) F (Qh a2 (min ((w64 o20).toNat:Int).toNat 64),w64 o20,y21,y22,y24,y25,y26,y24 / y21,y24 - ((y24 / y21)*y21))).bind λo30=>
  let y31:UInt64:=((o30.2.2.2.2.1*4294967296)+o30.2.2.2.2.2.1) - (o30.2.2.2.2.2.2.2*o30.1)
  if(o30.2.2.1 !=0)=true then
   (Zb (QD F) F (o30.1,o30.2.1,o30.2.2.1,o30.2.2.2.1,o30.2.2.2.2.2.2.1,o30.2.2.2.2.2.2.2,y31 - ((y31 / o30.2.2.1)*o30.2.2.1),y31,y31 / o30.2.2.1)).bind λo35=>
   let y36:UInt64:=((o35.2.2.2.2.1*4294967296)+o35.2.2.1) - (o35.2.2.2.2.2*o35.1)
   some ((o35.2.2.2.1*4294967296)+o35.2.2.2.2.2,ZL y36 (min (o35.2.1.toNat:Int).toNat 64))
  else
  none
 else
 none
def Zoq:Fs yc:=⟨185,[.v .u64,.v .u64,.v .u64],[],[.u64,.u64,.u64],[⟨.ret,[(0,.tup [.v .u64,.v .u64])],[],[.u64,.u64]⟩],λx=>Zg0 fuel x.1 x.2.1 x.2.2⟩
theorem ZuC:Zoq.Ok:=fnO { still:=[6,7,34]} [(0,ZmC),(1,ZmD)] [Zcr] ⟨ZiS,ytt⟩ ⟨ZpK,ZpL,ytt⟩
def ZbK(F:Nat)(a0:UInt64)(a1:UInt64)(a2:UInt64):Option (UInt64):=
 if(a2 !=0)=true then
  (Zg0 F (a0 % a2) a1 a2).bind λo37=>
  some o37.2
 else
 none
def ZfI(F:Nat):Fs yc:=⟨172,[.v .u64,.v .u64,.v .u64],[],[.u64,.u64,.u64],[⟨.ret,[(0,.v .u64)],[],[.u64]⟩],λx=>ZbK F x.1 x.2.1 x.2.2⟩
def ZuD:Fs yc:=ZfI fuel
theorem Ztm:ZuD.Ok:=fnO { still:=[6,12,13,14]} [] [Zoq] ⟨ZuC,ytt⟩
end
end Go.Proofs.YtmkgbalfkhaflaaGreat
end
section
namespace Go.Ev
theorem ZrX(a m:UInt64):(a - a / m*m).toNat=a.toNat % m.toNat:=by
 have h1:a.toNat / m.toNat*m.toNat≤a.toNat:=Nat.div_mul_le_self _ _;have h2:=ybr a
 have h3:(a / m*m).toNat=a.toNat / m.toNat*m.toNat:=by
  rw[UInt64.toNat_mul,UInt64.toNat_div,yah (by omega)]
 have h4:(a / m*m)≤a:=by rw[ycs,h3];exact h1
 rw[UInt64.toNat_sub_of_le _ _ h4,h3];have:=Nat.div_add_mod a.toNat m.toNat
 rw[ybj] at this;omega
theorem ZkJ(x:UInt64):(x&&&4294967295).toNat=x.toNat % 4294967296:=by
 rw[UInt64.toNat_and];exact Nat.and_two_pow_sub_one_eq_mod x.toNat 32
theorem Za5(x:UInt64)(n:Nat):(ZL x n).toNat=x.toNat / 2 ^ n:=by
 unfold ZL;rw[yba,yah (Nat.lt_of_le_of_lt (Nat.div_le_self ..) (ybr _))]
theorem ZlW{x y:UInt64}(h:x.toNat+y.toNat < 18446744073709551616):(x+y).toNat=x.toNat+y.toNat:=by
 rw[UInt64.toNat_add,yah h]
theorem ZlX{x y:UInt64}(h:x.toNat*y.toNat < 18446744073709551616):(x*y).toNat=x.toNat*y.toNat:=by
 rw[UInt64.toNat_mul,yah h]
theorem ZkK{a b:Nat}(ha:a < 4294967296)(hb:b < 4294967296):a*b≤18446744065119617025:=Nat.mul_le_mul (Nat.le_of_lt_succ ha) (Nat.le_of_lt_succ hb)
end Go.Ev
end
section
set_option maxRecDepth 4000
namespace Go.Proofs.YtmkgbalfkhaflaaGreat
open Go Go.Ev
section
variable{y1 y0 u d q r:Nat}
theorem ZLg(h:q*y1+r=u)(hc:4294967296*r+d < q*y0):u*4294967296+d < q*(y1*4294967296+y0):=by
 have e:q*(y1*4294967296+y0)=q*y1*4294967296+q*y0:=by rw[Nat.mul_add,Nat.mul_assoc]
 rw[e];omega
theorem ZF6(h:q*y1+r=u)(hc:q*y0≤4294967296*r+d):q*(y1*4294967296+y0)≤u*4294967296+d:=by
 have e:q*(y1*4294967296+y0)=q*y1*4294967296+q*y0:=by rw[Nat.mul_add,Nat.mul_assoc]
 rw[e];omega
theorem ZJ9(hu:u < y1*4294967296+y0)(hd:d < 4294967296):(u*4294967296+d) / (y1*4294967296+y0) < 4294967296:=by
 rw[Nat.div_lt_iff_lt_mul (by omega)];omega
theorem ZCo(h:q*y1+r=u)(hq:1≤q):(q - 1)*y1+(r+y1)=u:=by
 have e:q*y1=(q - 1)*y1+y1:=by
  rw[←Nat.succ_mul];congr 1;omega
 omega
theorem ZF7(hu:u < y1*4294967296+y0)(h0:y0 < 4294967296)(h:q*y1+r=u)(hr:4294967296≤r):q*y0≤4294967296*r+d:=by
 by_cases hq:q < 4294967296
 ·have:q*y0≤4294967295*4294967295:=Nat.mul_le_mul (by omega) (by omega);omega
 ·have:4294967296*y1≤q*y1:=yby _ (by omega);omega
end
theorem ZA4{q T Y:Nat}(hY:0 < Y)(h1:T / Y≤q)(h2:q*Y≤T):q=T / Y:=Nat.le_antisymm ((Nat.le_div_iff_mul_le hY).2 h2) h1
theorem Zzl{y1 y0 u d:Nat}{Q R Y0 Y1 D:UInt64}(hY1:Y1.toNat=y1)(hY0:Y0.toNat=y0)(hD:D.toNat=d)(h1:y1 < 4294967296)(h0:y0 < 4294967296)(hd:d < 4294967296)(hu:u < y1*4294967296+y0)
 (e:Q.toNat*y1+R.toNat=u) (hr:R.toNat < 4294967296) (hge:(u*4294967296+d) / (y1*4294967296+y0)≤Q.toNat):
 ((Q ≥ 4294967296∨(Q*Y0 > (4294967296*R)+D))∧(u*4294967296+d) / (y1*4294967296+y0)≤(Q - 1).toNat∧(Q - 1).toNat*y1+(R+Y1).toNat=u∧(R+Y1).toNat=R.toNat+y1)∨
 (¬Q ≥ 4294967296∧¬(Q*Y0 > (4294967296*R)+D)∧Q.toNat=(u*4294967296+d) / (y1*4294967296+y0)):=by
 have hadd:(R+Y1).toNat=R.toNat+y1:=by rw[ZlW (by omega),hY1]
 have hrd:((4294967296*R)+D).toNat=4294967296*R.toNat+d:=by
  have m:(4294967296*R:UInt64).toNat=4294967296*R.toNat:=by
   rw[ZlX (by show 4294967296*R.toNat < _;omega)];rfl
  rw[ZlW (by rw[m];omega),m,hD]
 have dec:1≤Q.toNat→(Q - 1).toNat=Q.toNat - 1:=λh=>by
  rw[UInt64.toNat_sub_of_le _ _ (by rw[ycs];exact h)];rfl
 by_cases c1:Q ≥ 4294967296
 ·left
  have hq:4294967296≤Q.toNat:=by
   rw[ge_iff_le,ycs] at c1;exact c1
  have:=ZJ9 hu hd;refine⟨.inl c1,by rw[dec (by omega)];omega, ?_,hadd⟩;rw[dec (by omega),hadd];exact ZCo e (by omega)
 have hq:Q.toNat < 4294967296:=by
  rw[ge_iff_le,ycs] at c1;exact Nat.lt_of_not_le c1
 have hmul:(Q*Y0).toNat=Q.toNat*y0:=by
  have:=ZkK hq h0;rw[ZlX (by rw[hY0];omega),hY0]
 by_cases c2:Q*Y0 > (4294967296*R)+D
 ·left
  have c3:4294967296*R.toNat+d < Q.toNat*y0:=by
   have:=ybz.1 c2;rw[hmul,hrd] at this;exact this
  have q1:1≤Q.toNat:=by
   rcases ycc Q.toNat with h|h
   ·rw[h,Nat.zero_mul] at c3;omega
   ·exact h
  have hg:=ZLg (d:=d) e c3;have hlt:(u*4294967296+d) / (y1*4294967296+y0) < Q.toNat:=(Nat.div_lt_iff_lt_mul (by omega)).2 hg;refine⟨.inr c2,by rw[dec q1];omega, ?_,hadd⟩;rw[dec q1,hadd];exact ZCo e q1
 ·right
  have c3:Q.toNat*y0≤4294967296*R.toNat+d:=by
   have:¬(((4294967296*R)+D).toNat < (Q*Y0).toNat):=λh=>c2 (ybz.2 h);rw[hmul,hrd] at this;omega
  exact⟨c1,c2,ZA4 (by omega) hge (ZF6 e c3)⟩
theorem ZLh{y1 y0 u d:Nat}{Yv N Y1 Y0 U D E Q R:UInt64}(hY1:Y1.toNat=y1)(hY0:Y0.toNat=y0)(hD:D.toNat=d)(h1:y1 < 4294967296)(h3:0 < y1)(h0:y0 < 4294967296)(hd:d < 4294967296)(hu:u < y1*4294967296+y0)
 (e:Q.toNat*y1+R.toNat=u) (hr:R.toNat < 4294967296) (hge:(u*4294967296+d) / (y1*4294967296+y0)≤Q.toNat):
 ∃q:UInt64,Zb (QC fuel) fuel (Yv,N,Y1,Y0,U,D,E,Q,R)=some (Yv,N,Y1,Y0,U,D,E,q)∧q.toNat=(u*4294967296+d) / (y1*4294967296+y0):=by
 obtain⟨x,hx,q,rfl,hq⟩:=WL (step:=QC fuel) (λs=>∃Q R:UInt64,s=(Yv,N,Y1,Y0,U,D,E,Q,R)∧Q.toNat*y1+R.toNat=u∧R.toNat < 4294967296∧(u*4294967296+d) / (y1*4294967296+y0)≤Q.toNat)
  (λs=>4294967296 - s.2.2.2.2.2.2.2.2.toNat) (λx=>∃q:UInt64,x=(Yv,N,Y1,Y0,U,D,E,q)∧q.toNat=(u*4294967296+d) / (y1*4294967296+y0)) (by
  rintro _ ⟨Q,R,rfl,e,hr,hge⟩;unfold QC;dsimp only;rcases Zzl hY1 hY0 hD h1 h0 hd hu e hr hge with⟨c,k1,k2,k3⟩|⟨c1,c2,k⟩
  ·have key:(∃j,(if decide (R+Y1 ≥ 4294967296)=true then some (Sum.inr (Yv,N,Y1,Y0,U,D,E,Q - 1)) else some (Sum.inl (Yv,N,Y1,Y0,U,D,E,Q - 1,R+Y1)):Option ((UInt64×UInt64×UInt64×UInt64×UInt64×UInt64×UInt64×UInt64×UInt64)⊕(UInt64×UInt64×UInt64×UInt64×UInt64×UInt64×UInt64×UInt64)))=some (.inl j)∧
    (∃Q R:UInt64,j=(Yv,N,Y1,Y0,U,D,E,Q,R)∧Q.toNat*y1+R.toNat=u∧R.toNat < 4294967296∧(u*4294967296+d) / (y1*4294967296+y0)≤Q.toNat)∧4294967296 - j.2.2.2.2.2.2.2.2.toNat < 4294967296 - R.toNat)∨
    (∃x,(if decide (R+Y1 ≥ 4294967296)=true then some (Sum.inr (Yv,N,Y1,Y0,U,D,E,Q - 1)) else some (Sum.inl (Yv,N,Y1,Y0,U,D,E,Q - 1,R+Y1)):Option ((UInt64×UInt64×UInt64×UInt64×UInt64×UInt64×UInt64×UInt64×UInt64)⊕(UInt64×UInt64×UInt64×UInt64×UInt64×UInt64×UInt64×UInt64)))=some (.inr x)∧
    ∃q:UInt64,x=(Yv,N,Y1,Y0,U,D,E,q)∧q.toNat=(u*4294967296+d) / (y1*4294967296+y0)):=by
    by_cases hb:R+Y1 ≥ 4294967296
    ·right;rw[if_pos (decide_eq_true hb)]
     have hb2:4294967296≤(R+Y1).toNat:=by
      rw[ge_iff_le,ycs] at hb;exact hb
     exact⟨_,rfl,_,rfl,ZA4 (by omega) k1 (ZF6 k2 (ZF7 hu h0 k2 hb2))⟩
    ·left;rw[if_neg (by rw[decide_eq_true_iff];exact hb)]
     have hb2:(R+Y1).toNat < 4294967296:=by
      rw[ge_iff_le,ycs] at hb;exact Nat.lt_of_not_le hb
     exact⟨_,rfl,⟨_,_,rfl,k2,hb2,k1⟩,by dsimp only;omega⟩
   rcases c with c|c
   ·rw[if_pos (decide_eq_true c)];exact key
   ·by_cases c1:Q ≥ 4294967296
    ·rw[if_pos (decide_eq_true c1)];exact key
    ·rw[if_neg (by rw[decide_eq_true_iff];exact c1),if_pos (decide_eq_true c)];exact key
  ·right;rw[if_neg (by rw[decide_eq_true_iff];exact c1),if_neg (by rw[decide_eq_true_iff];exact c2)];exact⟨_,rfl,_,rfl,k⟩) (Yv,N,Y1,Y0,U,D,E,Q,R) ⟨Q,R,rfl,e,hr,hge⟩ (by dsimp only;omega)
 exact⟨q,hx,hq⟩
theorem ZLi{y1 y0 u d:Nat}{Yv N Y1 Y0 U D E Q R:UInt64}(hY1:Y1.toNat=y1)(hY0:Y0.toNat=y0)(hD:D.toNat=d)(h1:y1 < 4294967296)(h3:0 < y1)(h0:y0 < 4294967296)(hd:d < 4294967296)(hu:u < y1*4294967296+y0)
 (e:Q.toNat*y1+R.toNat=u) (hr:R.toNat < 4294967296) (hge:(u*4294967296+d) / (y1*4294967296+y0)≤Q.toNat):
 ∃q:UInt64,Zb (QD fuel) fuel (Yv,N,Y1,Y0,D,E,R,U,Q)=some (Yv,N,D,E,U,q)∧q.toNat=(u*4294967296+d) / (y1*4294967296+y0):=by
 obtain⟨x,hx,q,rfl,hq⟩:=WL (step:=QD fuel) (λs=>∃Q R:UInt64,s=(Yv,N,Y1,Y0,D,E,R,U,Q)∧Q.toNat*y1+R.toNat=u∧R.toNat < 4294967296∧(u*4294967296+d) / (y1*4294967296+y0)≤Q.toNat)
  (λs=>4294967296 - s.2.2.2.2.2.2.1.toNat) (λx=>∃q:UInt64,x=(Yv,N,D,E,U,q)∧q.toNat=(u*4294967296+d) / (y1*4294967296+y0)) (by
  rintro _ ⟨Q,R,rfl,e,hr,hge⟩;unfold QD;dsimp only;rcases Zzl hY1 hY0 hD h1 h0 hd hu e hr hge with⟨c,k1,k2,k3⟩|⟨c1,c2,k⟩
  ·have key:(∃j,(if decide (R+Y1 ≥ 4294967296)=true then some (Sum.inr (Yv,N,D,E,U,Q - 1)) else some (Sum.inl (Yv,N,Y1,Y0,D,E,R+Y1,U,Q - 1)):Option ((UInt64×UInt64×UInt64×UInt64×UInt64×UInt64×UInt64×UInt64×UInt64)⊕(UInt64×UInt64×UInt64×UInt64×UInt64×UInt64)))=some (.inl j)∧
    (∃Q R:UInt64,j=(Yv,N,Y1,Y0,D,E,R,U,Q)∧Q.toNat*y1+R.toNat=u∧R.toNat < 4294967296∧(u*4294967296+d) / (y1*4294967296+y0)≤Q.toNat)∧4294967296 - j.2.2.2.2.2.2.1.toNat < 4294967296 - R.toNat)∨
    (∃x,(if decide (R+Y1 ≥ 4294967296)=true then some (Sum.inr (Yv,N,D,E,U,Q - 1)) else some (Sum.inl (Yv,N,Y1,Y0,D,E,R+Y1,U,Q - 1)):Option ((UInt64×UInt64×UInt64×UInt64×UInt64×UInt64×UInt64×UInt64×UInt64)⊕(UInt64×UInt64×UInt64×UInt64×UInt64×UInt64)))=some (.inr x)∧
    ∃q:UInt64,x=(Yv,N,D,E,U,q)∧q.toNat=(u*4294967296+d) / (y1*4294967296+y0)):=by
    by_cases hb:R+Y1 ≥ 4294967296
    ·right;rw[if_pos (decide_eq_true hb)]
     have hb2:4294967296≤(R+Y1).toNat:=by
      rw[ge_iff_le,ycs] at hb;exact hb
     exact⟨_,rfl,_,rfl,ZA4 (by omega) k1 (ZF6 k2 (ZF7 hu h0 k2 hb2))⟩
    ·left;rw[if_neg (by rw[decide_eq_true_iff];exact hb)]
     have hb2:(R+Y1).toNat < 4294967296:=by
      rw[ge_iff_le,ycs] at hb;exact Nat.lt_of_not_le hb
     exact⟨_,rfl,⟨_,_,rfl,k2,hb2,k1⟩,by dsimp only;omega⟩
   rcases c with c|c
   ·rw[if_pos (decide_eq_true c)];exact key
   ·by_cases c1:Q ≥ 4294967296
    ·rw[if_pos (decide_eq_true c1)];exact key
    ·rw[if_neg (by rw[decide_eq_true_iff];exact c1),if_pos (decide_eq_true c)];exact key
  ·right;rw[if_neg (by rw[decide_eq_true_iff];exact c1),if_neg (by rw[decide_eq_true_iff];exact c2)];exact⟨_,rfl,_,rfl,k⟩) (Yv,N,Y1,Y0,D,E,R,U,Q) ⟨Q,R,rfl,e,hr,hge⟩ (by dsimp only;omega)
 exact⟨q,hx,hq⟩
theorem ZCp{A B:UInt64}{a b:Nat}(hA:A.toNat=a % 18446744073709551616)(hB:B.toNat=b % 18446744073709551616)(h:b≤a)(hd:a - b < 18446744073709551616):(A - B).toNat=a - b:=by
 rw[UInt64.toNat_sub,hA,hB];omega
theorem ZqI(u y1:Nat):u / y1*y1+u % y1=u:=by
 have:=Nat.div_add_mod u y1;rw[ybj] at this;exact this
theorem ZF8{u y1 y0 d:Nat}(h1:0 < y1)(hd:d < 4294967296):(u*4294967296+d) / (y1*4294967296+y0)≤u / y1:=by
 have h:(u*4294967296+d) / (y1*4294967296+y0)≤(u*4294967296+d) / (y1*4294967296):=Nat.div_le_div_left (by omega) (by omega)
 have e:(u*4294967296+d) / (y1*4294967296)=u / y1:=by
  rw[ybj y1, ←Nat.div_div_eq_div_mul];congr 1;omega
 omega
theorem ZF9{a b y:UInt64}{s:Nat}{Y:UInt64}(hy:y≠0)(hs:Yz fuel y=some (s:Int))(s0:0 < s)(s1:s < 64)(hY:Qh y s=Y)(hYn:Y.toNat=y.toNat*2 ^ s)(hY63:9223372036854775808≤Y.toNat)(ha:a.toNat < y.toNat):
 ∃q r,Zg0 fuel a b y=some (q,r)∧r.toNat=(a.toNat*18446744073709551616+b.toNat) % y.toNat:=by
 have ha2:¬(y≤a):=by
  rw[ycs];omega
 unfold Zg0;rw[if_neg (by rw[beq_iff_eq];exact hy),if_neg (by rw[decide_eq_true_iff];exact ha2)];by_cases h0:a=0
 ·subst h0;rw[if_pos (by decide),if_pos (by rw[bne_iff_ne];exact hy),if_pos (by rw[bne_iff_ne];exact hy)];refine⟨_,_,rfl, ?_⟩;rw[UInt64.toNat_mod];simp
 rw[if_neg (by rw[beq_iff_eq];exact h0),hs,ya];dsimp only
 have w:w64 (s:Int)=yad s:=by
  unfold w64;congr 1;omega
 have ws:(w64 (s:Int)).toNat=s:=by rw[w,yba,yah (by omega)]
 have e1:min ((w64 (s:Int)).toNat:Int).toNat 64=s:=by rw[ws];omega
 have e2:(64 - w64 (s:Int)).toNat=64 - s:=by
  rw[UInt64.toNat_sub_of_le _ _ (by rw[ycs,ws];show s≤64;omega),ws];rfl
 have e3:min ((64 - w64 (s:Int)).toNat:Int).toNat 64=64 - s:=by rw[e2];omega
 rw[e1,e3,hY];have hYl:=ybr Y;have hb:=ybr b
 have p64:2 ^ (64 - s)*2 ^ s=18446744073709551616:=by
  rw[←Nat.pow_add];have:64 - s+s=64:=by omega
  rw[this]
 have hp:0 < 2 ^ s:=Nat.pow_pos (by decide);obtain⟨y1,hy1⟩:∃y1,y1=Y.toNat / 4294967296:=⟨_,rfl⟩;obtain⟨y0,hy0⟩:∃y0,y0=Y.toNat % 4294967296:=⟨_,rfl⟩;have hYd:Y.toNat=y1*4294967296+y0:=by omega
 have ty1:(ZL Y 32).toNat=y1:=by rw[Za5,hy1]
 have ty0:(Y&&&4294967295).toNat=y0:=by rw[ZkJ,hy0]
 have l1:y1 < 4294967296:=by omega
 have g1:2147483648≤y1:=by omega
 have l0:y0 < 4294967296:=by omega
 have hash:a.toNat*2 ^ s < Y.toNat:=by rw[hYn];exact Nat.mul_lt_mul_of_pos_right ha hp
 have bd:b.toNat / 2 ^ (64 - s) < 2 ^ s:=by
  rw[Nat.div_lt_iff_lt_mul (Nat.pow_pos (by decide)),ybj,p64];exact hb
 have tu:((Qh a s)|||(ZL b (64 - s))).toNat=a.toNat*2 ^ s+b.toNat / 2 ^ (64 - s):=by
  rw[UInt64.toNat_or,Za5];unfold Qh;rw[yba,yah (by omega),ybj, ←Nat.two_pow_add_eq_or_of_lt bd]
 have t10:(Qh b s).toNat=b.toNat*2 ^ s % 18446744073709551616:=by
  unfold Qh;rw[yba]
 obtain⟨u,hu⟩:∃u,u=a.toNat*2 ^ s+b.toNat / 2 ^ (64 - s):=⟨_,rfl⟩;obtain⟨v,hv⟩:∃v,v=b.toNat*2 ^ s % 18446744073709551616:=⟨_,rfl⟩;rw[←hu] at tu;rw[←hv] at t10
 have hbs:b.toNat*2 ^ s=b.toNat / 2 ^ (64 - s)*18446744073709551616+v:=by
  have h1:=Nat.div_add_mod (b.toNat*2 ^ s) 18446744073709551616
  have h2:b.toNat*2 ^ s / 18446744073709551616=b.toNat / 2 ^ (64 - s):=by
   rw[←p64];exact Nat.mul_div_mul_right _ _ hp
  rw[h2, ←hv] at h1;omega
 have hN:(a.toNat*18446744073709551616+b.toNat)*2 ^ s=u*18446744073709551616+v:=by
  rw[yax,hbs,hu,Nat.mul_right_comm];omega
 have uY:u < y1*4294967296+y0:=by
  rw[←hYd,hu,hYn];have h1:(a.toNat+1)*2 ^ s≤y.toNat*2 ^ s:=yby _ ha;rw[yax,Nat.one_mul] at h1;omega
 have hvl:v < 18446744073709551616:=by rw[hv];exact ybb _ (by decide)
 obtain⟨d1,hd1⟩:∃d1,d1=v / 4294967296:=⟨_,rfl⟩;obtain⟨d0,hd0⟩:∃d0,d0=v % 4294967296:=⟨_,rfl⟩;have td1:(ZL (Qh b s) 32).toNat=d1:=by rw[Za5,t10,hd1]
 have td0:((Qh b s)&&&4294967295).toNat=d0:=by rw[ZkJ,t10,hd0]
 generalize ((Qh a s)|||(ZL b (64 - s)):UInt64)=U at tu ⊢;generalize (ZL (Qh b s) 32:UInt64)=D1 at td1 ⊢;generalize ((Qh b s)&&&4294967295:UInt64)=D0 at td0 ⊢;generalize (ZL Y 32:UInt64)=Y1 at ty1 ⊢;generalize (Y&&&4294967295:UInt64)=Y0 at ty0 ⊢
 have y1ne:(Y1 !=0)=true:=by
  rw[bne_iff_ne];intro h;rw[h] at ty1;have:(0:UInt64).toNat=0:=rfl;omega
 rw[if_pos y1ne]
 have f1:(U / Y1).toNat*y1+(U - U / Y1*Y1).toNat=u:=by
  rw[ZrX,UInt64.toNat_div,tu,ty1];exact ZqI u y1
 have f2:(U - U / Y1*Y1).toNat < 4294967296:=by
  rw[ZrX,tu,ty1];exact Nat.lt_trans (ybb _ (by omega)) l1
 have f3:(u*4294967296+d1) / (y1*4294967296+y0)≤(U / Y1).toNat:=by
  rw[UInt64.toNat_div,tu,ty1];exact ZF8 (by omega) (by omega)
 obtain⟨q1,k1,k2⟩:=ZLh (Yv:=Y) (N:=w64 (s:Int)) (U:=U) (E:=D0) ty1 ty0 td1 l1 (by omega) l0 (by omega) uY f1 f2 f3;rw[k1,ya];dsimp only;rw[if_pos y1ne];have m1:=Nat.div_add_mod (u*4294967296+d1) Y.toNat
 have m2:(u*4294967296+d1) % Y.toNat < Y.toNat:=ybb _ (by omega);rw[←hYd] at k2
 have tv:(((U*4294967296)+D1) - (q1*Y)).toNat=(u*4294967296+d1) % Y.toNat:=by
  rw[ZCp (a:=u*4294967296+d1) (b:=q1.toNat*Y.toNat) ?_ ?_ ?_ ?_]
  ·rw[k2,ybj ((u*4294967296+d1) / Y.toNat)];omega
  ·rw[UInt64.toNat_add,UInt64.toNat_mul,tu,td1,show(4294967296:UInt64).toNat=4294967296 from rfl]
   omega
  ·rw[UInt64.toNat_mul]
  ·rw[k2,ybj ((u*4294967296+d1) / Y.toNat)];omega
  ·rw[k2,ybj ((u*4294967296+d1) / Y.toNat)];omega
 obtain⟨u2,hu2⟩:∃u2,u2=(u*4294967296+d1) % Y.toNat:=⟨_,rfl⟩;rw[←hu2] at tv m2 m1;generalize (((U*4294967296)+D1) - (q1*Y):UInt64)=V at tv ⊢
 have f4:(V / Y1).toNat*y1+(V - V / Y1*Y1).toNat=u2:=by
  rw[ZrX,UInt64.toNat_div,tv,ty1];exact ZqI u2 y1
 have f5:(V - V / Y1*Y1).toNat < 4294967296:=by
  rw[ZrX,tv,ty1];exact Nat.lt_trans (ybb _ (by omega)) l1
 have f6:(u2*4294967296+d0) / (y1*4294967296+y0)≤(V / Y1).toNat:=by
  rw[UInt64.toNat_div,tv,ty1];exact ZF8 (by omega) (by omega)
 obtain⟨q0,k3,k4⟩:=ZLi (Yv:=Y) (N:=w64 (s:Int)) (U:=V) (E:=q1) ty1 ty0 td0 l1 (by omega) l0 (by omega) (by rw[←hYd];exact m2) f4 f5 f6;rw[k3,ya];refine⟨_,_,rfl, ?_⟩;dsimp only;rw[e1,Za5];rw[←hYd] at k4;have m3:=Nat.div_add_mod (u2*4294967296+d0) Y.toNat
 have m4:(u2*4294967296+d0) % Y.toNat < Y.toNat:=ybb _ (by omega)
 have tr:(((V*4294967296)+D0) - (q0*Y)).toNat=(u2*4294967296+d0) % Y.toNat:=by
  rw[ZCp (a:=u2*4294967296+d0) (b:=q0.toNat*Y.toNat) ?_ ?_ ?_ ?_]
  ·rw[k4,ybj ((u2*4294967296+d0) / Y.toNat)];omega
  ·rw[UInt64.toNat_add,UInt64.toNat_mul,tv,td0,show(4294967296:UInt64).toNat=4294967296 from rfl]
   omega
  ·rw[UInt64.toNat_mul]
  ·rw[k4,ybj ((u2*4294967296+d0) / Y.toNat)];omega
  ·rw[k4,ybj ((u2*4294967296+d0) / Y.toNat)];omega
 rw[tr]
 have hNm:((a.toNat*18446744073709551616+b.toNat)*2 ^ s) % Y.toNat=(u2*4294967296+d0) % Y.toNat:=by
  have e:(a.toNat*18446744073709551616+b.toNat)*2 ^ s=u2*4294967296+d0+Y.toNat*((u*4294967296+d1) / Y.toNat*4294967296):=by
   rw[hN, ←Nat.mul_assoc];omega
  rw[e,Nat.add_mul_mod_self_left]
 rw[←hNm,hYn,Nat.mul_mod_mul_right,Nat.mul_div_cancel _ hp]
theorem Zxl{y Y:UInt64}{s:Nat}(a b:UInt64)(hy:y≠0)(hs:Yz fuel y=some (s:Int))(s0:0 < s)(s1:s < 64)(hY:Qh y s=Y)(hYn:Y.toNat=y.toNat*2 ^ s)(hY63:9223372036854775808≤Y.toNat):
 ZbK fuel a b y=some (yad ((a.toNat*18446744073709551616+b.toNat) % y.toNat)):=by
 have hp:0 < y.toNat:=by
  rcases ycc y.toNat with h|h
  ·exact absurd (UInt64.toNat_inj.1 h) hy
  ·exact h
 obtain⟨q,r,h1,h2⟩:=ZF9 (a:=a % y) (b:=b) hy hs s0 s1 hY hYn hY63 (by rw[UInt64.toNat_mod];exact ybb _ hp);unfold ZbK;rw[if_pos (by rw[bne_iff_ne];exact hy),h1,ya];dsimp only;rw[UInt64.toNat_mod,Nat.add_mod,Nat.mod_mul_mod, ←Nat.add_mod] at h2;rw[←h2,UInt64.ofNat_toNat]
theorem ZKa:Yz fuel 4611686018427377339=some ((2:Nat):Int):=by kernel_rfl
theorem ZKb:Yz fuel 2305843009213688669=some ((3:Nat):Int):=by kernel_rfl
theorem ZKc:Yz fuel 2305843009213688668=some ((3:Nat):Int):=by kernel_rfl
noncomputable def WR(F:Nat)(a0:UInt64)(a1:UInt64)(a2:UInt64):Option UInt64:=
 if(a2==4611686018427377339 || (a2==2305843009213688669 || a2==2305843009213688668))=true then some (yad ((a0.toNat*18446744073709551616+a1.toNat) % a2.toNat)) else ZbK F a0 a1 a2
theorem ZGa(a b y:UInt64):ZbK fuel a b y=WR fuel a b y:=by
 unfold WR;split
 ·rename_i h;simp only[Bool.or_eq_true,beq_iff_eq] at h;rcases h with rfl|rfl|rfl
  ·exact Zxl (Y:=18446744073709509356) (s:=2) a b (by decide) ZKa (by decide) (by decide) (by kernel_rfl) (by decide) (by decide)
  ·exact Zxl (Y:=18446744073709509352) (s:=3) a b (by decide) ZKb (by decide) (by decide) (by kernel_rfl) (by decide) (by decide)
  ·exact Zxl (Y:=18446744073709509344) (s:=3) a b (by decide) ZKc (by decide) (by decide) (by kernel_rfl) (by decide) (by decide)
 ·rfl
noncomputable def ZuE(F:Nat):Fs yc:={ ZfI F with M:=λx=>WR F x.1 x.2.1 x.2.2}
noncomputable def ZeW:Fs yc:=ZuE fuel
theorem Zhm:ZeW.Ok:=Zno (s:=ZfI fuel) Ztm λx=>(ZGa x.1 x.2.1 x.2.2).symm
end Go.Proofs.YtmkgbalfkhaflaaGreat
end
section
set_option maxRecDepth 4000
namespace Go.Proofs.YtmkgbalfkhaflaaGreat
open Go Go.Ev
noncomputable section
def ZeX(F:Nat)(a0:UInt64)(a1:UInt64):Option ((UInt64×UInt64)):=
 let y38:UInt64:=ZL ((a0&&&4294967295)*(a1&&&4294967295)) 32;let y39:UInt64:=(((ZL a0 32)*(a1&&&4294967295))+y38)&&&4294967295;let y40:UInt64:=ZL (((ZL a0 32)*(a1&&&4294967295))+y38) 32;let y41:UInt64:=ZL (y39+((a0&&&4294967295)*(ZL a1 32))) 32
 some ((((ZL a0 32)*(ZL a1 32))+y40)+y41,a0*a1)
def ZfJ(F:Nat):Fs yc:=⟨174,[.v .u64,.v .u64],[],[.u64,.u64],[⟨.ret,[(0,.tup [.v .u64,.v .u64])],[],[.u64,.u64]⟩],λx=>ZeX F x.1 x.2⟩
def ZuF:Fs yc:=ZfJ fuel
theorem Ztn:ZuF.Ok:=fnO { still:=[4,5]} [] [] trivial
end
end Go.Proofs.YtmkgbalfkhaflaaGreat
end
section
set_option maxRecDepth 4000
namespace Go.Proofs.YtmkgbalfkhaflaaGreat
open Go Go.Ev
theorem ZGb(x y:UInt64):∃h l,ZeX fuel x y=some (h,l)∧h.toNat*18446744073709551616+l.toNat=x.toNat*y.toNat:=by
 unfold ZeX;refine⟨_,_,rfl, ?_⟩;have hx:=ybr x;have hy:=ybr y;have x0l:x.toNat % 4294967296 < 4294967296:=ybb _ (by decide);have y0l:y.toNat % 4294967296 < 4294967296:=ybb _ (by decide);have x1l:x.toNat / 4294967296 < 4294967296:=by omega
 have y1l:y.toNat / 4294967296 < 4294967296:=by omega
 have xe:x.toNat=x.toNat / 4294967296*4294967296+x.toNat % 4294967296:=by omega
 have ye:y.toNat=y.toNat / 4294967296*4294967296+y.toNat % 4294967296:=by omega
 generalize hX1:x.toNat / 4294967296=x1 at*;generalize hX0:x.toNat % 4294967296=x0 at*;generalize hY1:y.toNat / 4294967296=y1 at*;generalize hY0:y.toNat % 4294967296=y0 at*;have p00:=ZkK x0l y0l;have p10:=ZkK x1l y0l;have p01:=ZkK x0l y1l;have p11:=ZkK x1l y1l
 have prod:x.toNat*y.toNat=x1*y1*18446744073709551616+(x1*y0+x0*y1)*4294967296+x0*y0:=by
  rw[xe,ye,yax,Nat.mul_add,Nat.mul_add]
  have e1:x1*4294967296*(y1*4294967296)=x1*y1*18446744073709551616:=by
   rw[Nat.mul_assoc,Nat.mul_left_comm 4294967296 y1, ←Nat.mul_assoc]
  have e2:x1*4294967296*y0=x1*y0*4294967296:=by rw[Nat.mul_right_comm]
  have e3:x0*(y1*4294967296)=x0*y1*4294967296:=by rw[Nat.mul_assoc]
  rw[e1,e2,e3];omega
 have q00:((x&&&4294967295)*(y&&&4294967295)).toNat=x0*y0:=by
  rw[ZlX (by rw[ZkJ,ZkJ,hX0,hY0];omega),ZkJ,ZkJ,hX0,hY0]
 have q10:((ZL x 32)*(y&&&4294967295)).toNat=x1*y0:=by
  rw[ZlX (by rw[Za5,ZkJ,show(2:Nat) ^ 32=4294967296 from rfl,hX1,hY0];omega),Za5,ZkJ,show(2:Nat) ^ 32=4294967296 from rfl,hX1,hY0]
 have q01:((x&&&4294967295)*(ZL y 32)).toNat=x0*y1:=by
  rw[ZlX (by rw[Za5,ZkJ,show(2:Nat) ^ 32=4294967296 from rfl,hX0,hY1];omega),Za5,ZkJ,show(2:Nat) ^ 32=4294967296 from rfl,hX0,hY1]
 have q11:((ZL x 32)*(ZL y 32)).toNat=x1*y1:=by
  rw[ZlX (by rw[Za5,Za5,show(2:Nat) ^ 32=4294967296 from rfl,hX1,hY1];omega),Za5,Za5,show(2:Nat) ^ 32=4294967296 from rfl,hX1,hY1]
 generalize hA:((x&&&4294967295)*(y&&&4294967295):UInt64)=A at*;generalize hB:((ZL x 32)*(y&&&4294967295):UInt64)=B at*;generalize hC:((x&&&4294967295)*(ZL y 32):UInt64)=C at*;generalize hD:((ZL x 32)*(ZL y 32):UInt64)=D at*;have s1:(ZL A 32).toNat=x0*y0 / 4294967296:=by rw[Za5,q00]
 have s2:(B+ZL A 32).toNat=x1*y0+x0*y0 / 4294967296:=by rw[ZlW (by rw[q10,s1];omega),q10,s1]
 have s3:((B+ZL A 32)&&&4294967295).toNat=(x1*y0+x0*y0 / 4294967296) % 4294967296:=by rw[ZkJ,s2]
 have s4:(ZL (B+ZL A 32) 32).toNat=(x1*y0+x0*y0 / 4294967296) / 4294967296:=by rw[Za5,s2]
 have s5:(((B+ZL A 32)&&&4294967295)+C).toNat=(x1*y0+x0*y0 / 4294967296) % 4294967296+x0*y1:=by rw[ZlW (by rw[s3,q01];omega),s3,q01]
 have s6:(ZL (((B+ZL A 32)&&&4294967295)+C) 32).toNat=((x1*y0+x0*y0 / 4294967296) % 4294967296+x0*y1) / 4294967296:=by rw[Za5,s5]
 have s7:(D+ZL (B+ZL A 32) 32).toNat=x1*y1+(x1*y0+x0*y0 / 4294967296) / 4294967296:=by rw[ZlW (by rw[q11,s4];omega),q11,s4]
 have s8:(x*y).toNat=x.toNat*y.toNat % 18446744073709551616:=UInt64.toNat_mul ..
 have s9:((D+ZL (B+ZL A 32) 32)+ZL (((B+ZL A 32)&&&4294967295)+C) 32).toNat=x1*y1+(x1*y0+x0*y0 / 4294967296) / 4294967296+((x1*y0+x0*y0 / 4294967296) % 4294967296+x0*y1) / 4294967296:=by
  rw[ZlW (by rw[s7,s6];omega),s7,s6]
 rw[s9,s8,prod];generalize x0*y0=a at*;generalize x1*y0=b at*;generalize x0*y1=c at*;generalize x1*y1=d at*;omega
theorem ZGc(x y:UInt64):ZeX fuel x y=some (yad (x.toNat*y.toNat / 18446744073709551616),yad (x.toNat*y.toNat % 18446744073709551616)):=by
 obtain⟨h,l,e,k⟩:=ZGb x y;have hl:=ybr l;rw[e, ←k,show(h.toNat*18446744073709551616+l.toNat) / 18446744073709551616=h.toNat by omega,show(h.toNat*18446744073709551616+l.toNat) % 18446744073709551616=l.toNat by omega,UInt64.ofNat_toNat,UInt64.ofNat_toNat]
noncomputable def ZdA(F:Nat)(a0:UInt64)(a1:UInt64):Option (UInt64×UInt64):=some (yad (a0.toNat*a1.toNat / 18446744073709551616),yad (a0.toNat*a1.toNat % 18446744073709551616))
noncomputable def ZuG(F:Nat):Fs yc:={ ZfJ F with M:=λx=>ZdA F x.1 x.2}
noncomputable def ZiT:Fs yc:=ZuG fuel
theorem ZmE:ZiT.Ok:=Zno (s:=ZfJ fuel) Ztn λx=>(ZGc x.1 x.2).symm
end Go.Proofs.YtmkgbalfkhaflaaGreat
end
section
set_option maxRecDepth 4000
namespace Go.Proofs.YtmkgbalfkhaflaaGreat
open Go Go.Ev
noncomputable section
def Yr(F:Nat)(a0:UInt64)(a1:UInt64):Option (UInt64):=
 (ZdA F a0 a1).bind λo42=>
 (WR F o42.1 o42.2 4611686018427377339).bind λo43=>
 some o43
def Zhn:Fs yc:=⟨155,[.v .u64,.v .u64],[],[.u64,.u64],[⟨.ret,[(0,.v .u64)],[],[.u64]⟩],λx=>Yr fuel x.1 x.2⟩
theorem ZkL:Zhn.Ok:=fnO { still:=[4,8,9,13,14]} [] [ZiT,ZeW] ⟨ZmE,Zhm,ytt⟩
def Vw(F:Nat)(s:(UInt64×UInt64×UInt64)):Option ((UInt64×UInt64×UInt64)⊕UInt64):=
 if(decide (s.2.1 > 0))=true then
  if((s.2.1&&&1)==1)=true then
   (Yr F s.2.2 s.1).bind λo44=>
   (Yr F s.1 s.1).bind λo45=>
   some (.inl (o45,ZL s.2.1 1,o44))
  else
  (Yr F s.1 s.1).bind λo46=>
  some (.inl (o46,ZL s.2.1 1,s.2.2))
 else
 some (.inr s.2.2)
def ZjH:Lp:=⟨[(0,.v .u64),(1,.v .u64),(5,.v .u64)],[],[.u64,.u64,.u64],[⟨.exit 0,[(5,.v .u64)],[],[.u64]⟩],Zb (Vw fuel) fuel⟩
theorem Znp:ZjH.okA yc 127 0:=ZC { still:=[4,13,14,16,17]} [] [Zhn] ⟨ZkL,ytt⟩
def Zho(F:Nat)(a0:UInt64)(a1:UInt64):Option (UInt64):=
 (Zb (Vw F) F (a0,a1,1)).bind λo47=>
 some o47
def Zd7(F:Nat):Fs yc:=⟨127,[.v .u64,.v .u64],[],[.u64,.u64],[⟨.ret,[(0,.v .u64)],[],[.u64]⟩],λx=>Zho F x.1 x.2⟩
def Zto:Fs yc:=Zd7 fuel
theorem Zrk:Zto.Ok:=fnO { still:=[4,13,14,16,17]} [(0,ZjH)] [] trivial ⟨Znp,ytt⟩
end
end Go.Proofs.YtmkgbalfkhaflaaGreat
end
section
namespace Go.Ev
def Pr(r:Nat):Prop:=1 < r∧∀k,0 < k→k < r→Nat.gcd k r=1
theorem php:∀(n:Nat)(f:Nat→Nat),(∀i,i≤n→f i < n)→∃i j,i < j∧j≤n∧f i=f j
 |0,f,h=>absurd (h 0 (yn _)) (Nat.not_lt_zero _)
 |n+1,f,h=>by
  by_cases hc:∃i,i≤n∧f i=f (n+1)
  ·obtain⟨i,h1,h2⟩:=hc;exact⟨i,n+1,by omega,yn _,h2⟩
  have hne:∀i,i≤n→f i≠f (n+1):=λi hi e=>hc ⟨i,hi,e⟩;have hv:=h (n+1) (yn _)
  obtain⟨i,j,h1,h2,h3⟩:=php n (λi=>if f i > f (n+1) then f i - 1 else f i) (λi hi=>by
   have a:=h i (by omega);have b:=hne i hi;show(if f i > f (n+1) then f i - 1 else f i) < n
   split <;> omega)
  refine⟨i,j,h1,by omega, ?_⟩;have a:=hne i (by omega);have b:=hne j (by omega);have h3:(if f i > f (n+1) then f i - 1 else f i)=(if f j > f (n+1) then f j - 1 else f j):=h3
  split at h3 <;> split at h3 <;> omega
theorem ZkM{h a m:Nat}(ha:h ^ a % m=1 % m)(k:Nat):h ^ (a*k) % m=1 % m:=by
 rw[Nat.pow_mul,Nat.pow_mod,ha, ←Nat.pow_mod,Nat.one_pow]
theorem Zzm{h a b m:Nat}(ha:h ^ a % m=1 % m)(hb:h ^ b % m=1 % m):h ^ (a % b) % m=1 % m:=by
 have e:a=b*(a / b)+a % b:=(Nat.div_add_mod a b).symm;rw[e,Nat.pow_add,Nat.mul_mod,ZkM hb, ←Nat.mul_mod,Nat.one_mul] at ha;exact ha
theorem ZqJ{h m:Nat}(a b:Nat)(ha:h ^ a % m=1 % m)(hb:h ^ b % m=1 % m):h ^ (Nat.gcd a b) % m=1 % m:=by
 induction a,b using Nat.gcd.induction with
 |H0 n=>rw[Nat.gcd_zero_left];exact hb
 |H1 a b h0 ih=>
  rw[Nat.gcd_rec];exact ih (Zzm hb ha) ha
theorem ZGd{h r m i j:Nat}(hr:h ^ r % m=1 % m)(hi:i < j)(hj:j < r)(e:h ^ i % m=h ^ j % m):h ^ (j - i) % m=1 % m:=by
 have h1:h ^ i*h ^ (r - i)=h ^ r:=by rw[←Nat.pow_add];congr 1;omega
 have h2:h ^ j*h ^ (r - i)=h ^ (j - i)*h ^ r:=by rw[←Nat.pow_add, ←Nat.pow_add];congr 1;omega
 have h3:h ^ j*h ^ (r - i) % m=1 % m:=by rw[Nat.mul_mod, ←e, ←Nat.mul_mod,h1,hr]
 rw[h2,Nat.mul_mod,hr, ←Nat.mul_mod,Nat.mul_one] at h3;exact h3
theorem ZA5{h r m i:Nat}(hm:1 < m)(hr:h ^ r % m=1 % m)(hi:i≤r):h ^ i % m≠0:=by
 intro e;have h1:h ^ i*h ^ (r - i)=h ^ r:=by rw[←Nat.pow_add];congr 1;omega
 rw[←h1,Nat.mul_mod,e,Nat.zero_mul,Nat.zero_mod,yah hm] at hr;omega
theorem ZA6{h r c:Nat}(hr:Pr r)(hc:1 < c)(h1:h ^ r % c=1 % c)(h2:h % c≠1 % c):r < c:=by
 rcases yca r c with k|k
 ·exact k
 exfalso
 obtain⟨i,j,a,b,e⟩:=php (c - 1) (λi=>h ^ i % c - 1) (λi hi=>by
  have:=ybb (h ^ i) (show c > 0 by omega);have:=ZA5 hc h1 (i:=i) (by omega);show h ^ i % c - 1 < c - 1;omega)
 have q1:=ZA5 hc h1 (i:=i) (by omega);have q2:=ZA5 hc h1 (i:=j) (by omega);have e:h ^ i % c - 1=h ^ j % c - 1:=e;have h3:=ZGd h1 a (by omega) (show h ^ i % c=h ^ j % c by omega);have h4:=ZqJ _ _ h3 h1;rw[hr.2 (j - i) (by omega) (by omega),Nat.pow_one] at h4;exact h2 h4
theorem ZCq{n r:Nat}(h:Nat)(hr:Pr r)(hn:1 < n)(hs:n≤r*r)(h1:h ^ r % n=1 % n)(h0:0 < h)(h2:Nat.gcd (h - 1) n=1):Pr n:=by
 refine⟨hn,λk k0 kn=> ?_⟩;have dn:Nat.gcd k n ∣ n:=Nat.gcd_dvd_right k n;have dk:Nat.gcd k n ∣ k:=Nat.gcd_dvd_left k n;have d0:0 < Nat.gcd k n:=Nat.gcd_pos_of_pos_left _ k0;have dl:Nat.gcd k n≤k:=Nat.le_of_dvd k0 dk;generalize Nat.gcd k n=d at*;by_cases d1:d=1
 ·exact d1
 exfalso
 have great:∀c,1 < c→c ∣ n→r < c:=λc c1 cn=>by
  refine ZA6 (h:=h) hr c1 ?_ λe=> ?_
  ·obtain⟨q,rfl⟩:=cn;have:=congrArg (· % c) h1;simp only[Nat.mod_mul_right_mod] at this;exact this
  ·have k1:c ∣ h - 1:=Nat.dvd_of_mod_eq_zero (Nat.sub_mod_eq_zero_of_mod_eq e);have:=Nat.dvd_gcd k1 cn;rw[h2] at this;have:=Nat.le_of_dvd (by omega) this;omega
 obtain⟨e,rfl⟩:=dn
 have e1:1 < e:=by
  rcases yca 1 e with h|h
  ·exact h
  ·have:d*e≤d*1:=Nat.mul_le_mul_left _ h;omega
 have a:=great d (by omega) (Nat.dvd_mul_right ..);have b:=great e e1 (Nat.dvd_mul_left ..);have:=Nat.mul_le_mul (show r+1≤d from a) (show r+1≤e from b)
 rw[yax,Nat.mul_add] at this;omega
def ZCr(n:Nat):Nat→Bool
 |0=>true
 |k+1=>(decide (k < 1) || !(n % (k+1)==0))&&ZCr n k
theorem Ztp{n:Nat}:∀{k:Nat},ZCr n k=true→∀d,1 < d→d≤k→¬d ∣ n
 |0,_,d,h1,h2=>by omega
 |k+1,h,d,h1,h2=>by
  simp only[ZCr,yj,Bool.or_eq_true,decide_eq_true_eq,Bool.not_eq_true',beq_eq_false_iff_ne] at h;rcases yca d (k+1) with c|c
  ·exact Ztp h.2 d h1 (by omega)
  ·have:d=k+1:=by omega
   subst this;rcases h.1 with h|h
   ·omega
   ·intro q;exact h (Nat.mod_eq_zero_of_dvd q)
theorem ZGe{n s:Nat}(hn:1 < n)(hs:n < (s+1)*(s+1))(h:ZCr n s=true):Pr n:=by
 refine⟨hn,λk k0 kn=> ?_⟩;have dn:Nat.gcd k n ∣ n:=Nat.gcd_dvd_right k n;have d0:0 < Nat.gcd k n:=Nat.gcd_pos_of_pos_left _ k0;have dl:Nat.gcd k n≤k:=Nat.le_of_dvd k0 (Nat.gcd_dvd_left k n);generalize Nat.gcd k n=d at*;by_cases d1:d=1
 ·exact d1
 exfalso;obtain⟨e,rfl⟩:=dn
 have e1:1 < e:=by
  rcases yca 1 e with h|h
  ·exact h
  ·have:d*e≤d*1:=Nat.mul_le_mul_left _ h;omega
 rcases yca s d with a|a
 ·rcases yca s e with b|b
  ·have:=Nat.mul_le_mul (show s+1≤d from a) (show s+1≤e from b)
   omega
  ·exact Ztp h e e1 b (Nat.dvd_mul_left ..)
 ·exact Ztp h d (by omega) a (Nat.dvd_mul_right ..)
def pwm(m:Nat):Nat→Nat→Nat→Nat→Nat
 |0,_,_,o=>o
 |f+1,a,n,o=>if n=0 then o else pwm m f (a*a % m) (n / 2) (if n % 2=1 then o*a % m else o)
theorem Zxm{m:Nat}:∀(k a n o:Nat),n < 2 ^ k→pwm m k a n o % m=o*a ^ n % m
 |0,a,n,o,h=>by
  have:n=0:=by rw[Nat.pow_zero] at h;omega
  subst this
  rw[pwm,Nat.pow_zero,Nat.mul_one]
 |k+1,a,n,o,h=>by
  rw[pwm];by_cases h0:n=0
  ·rw[if_pos h0,h0,Nat.pow_zero,Nat.mul_one]
  rw[if_neg h0,Zxm k _ _ _ (by rw[Nat.pow_succ] at h;omega)]
  have e:a ^ n=(a*a) ^ (n / 2)*a ^ (n % 2):=by
   rw[←Nat.pow_two, ←Nat.pow_mul, ←Nat.pow_add];congr 1;omega
  have e2:(a*a % m) ^ (n / 2) % m=(a*a) ^ (n / 2) % m:=(Nat.pow_mod ..).symm;rw[e];split
  ·rename_i h1;rw[h1,Nat.pow_one,Nat.mul_mod,e2, ←Nat.mul_mod,Nat.mul_mod,Nat.mod_mod, ←Nat.mul_mod];congr 1;rw[Nat.mul_assoc,ybj a]
  ·rename_i h1;have:n % 2=0:=by omega
   rw[this,Nat.pow_zero,Nat.mul_one,Nat.mul_mod,e2, ←Nat.mul_mod]
theorem Ztq{m a n z:Nat}(k:Nat)(h:n < 2 ^ k)(e:pwm m k a n 1 % m=z):a ^ n % m=z:=by
 have:=Zxm (m:=m) k a n 1 h;rw[Nat.one_mul] at this;rw[←this,e]
def pc0:Nat:=7930907
def pc1:Nat:=11864636873
def pc2:Nat:=1732236983459
def pc3:Nat:=249442125618097
def ord:Nat:=2305843009213688669
def mdl:Nat:=4611686018427377339
theorem pr0:Pr pc0:=ZGe (s:=2816) (by decide) (by decide) (by decide+kernel)
theorem pr1:Pr pc1:=ZCq 409113128 pr0 (by decide) (by decide) (Ztq 23 (by decide) (by decide+kernel)) (by decide) (by decide+kernel)
theorem pr2:Pr pc2:=ZCq 353522539148 pr1 (by decide) (by decide) (Ztq 34 (by decide) (by decide+kernel)) (by decide) (by decide+kernel)
theorem pr3:Pr pc3:=ZCq 117107719143424 pr2 (by decide) (by decide) (Ztq 41 (by decide) (by decide+kernel)) (by decide) (by decide+kernel)
theorem pr4:Pr ord:=ZCq 732368710688439132 pr3 (by decide) (by decide) (Ztq 48 (by decide) (by decide+kernel)) (by decide) (by decide+kernel)
def Q6(a:Nat):Prop:=0 < a∧a < mdl∧a ^ ord % mdl=1
theorem ZLj{a:Nat}(h:a < mdl)(e:a ^ ord % mdl=1):Q6 a:=by
 refine⟨?_,h,e⟩;rcases ycc a with h0|h0
 ·subst h0;rw[Nat.zero_pow (by decide)] at e;cases e
 ·exact h0
theorem ZA7:Q6 1:=⟨by decide,by decide,by rw[Nat.one_pow];decide⟩
theorem ZGf:Q6 4:=⟨by decide,by decide,Ztq 61 (by decide) (by decide+kernel)⟩
theorem ZKd{a:Nat}(ha:Q6 a)(n:Nat):Q6 (a ^ n % mdl):=by
 refine ZLj (ybb _ (by decide)) ?_;rw[←Nat.pow_mod, ←Nat.pow_mul,ybj];exact ZkM (m:=mdl) ha.2.2 n
theorem ZIf{a:Nat}(ha:Q6 a)(n:Nat):a ^ (n % ord) % mdl=a ^ n % mdl:=by
 have e:n=ord*(n / ord)+n % ord:=(Nat.div_add_mod n _).symm;have h:=ZkM (m:=mdl) (k:=n / ord) ha.2.2
 conv=>rhs;rw[e]
 rw[Nat.pow_add,Nat.mul_mod,h, ←Nat.mul_mod,Nat.one_mul]
theorem ZKe{k:Nat}(h0:0 < k)(h1:k < ord):4 ^ k % mdl≠1:=by
 intro e;have:=ZqJ (h:=4) (m:=mdl) k _ e ZGf.2.2;rw[pr4.2 k h0 h1] at this;revert this;decide
end Go.Ev
end
section
set_option maxRecDepth 4000
namespace Go.Proofs.YtmkgbalfkhaflaaGreat
open Go Go.Ev
theorem ZGg{z:Nat}:(yad (z % 4611686018427377339)).toNat=z % 4611686018427377339:=by
 rw[yba,yah];exact Nat.lt_trans (ybb _ (by decide)) (by decide)
theorem Zzn(a b:UInt64):Yr fuel a b=some (yad (a.toNat*b.toNat % 4611686018427377339)):=by
 unfold Yr ZdA;rw[ya];dsimp only;unfold WR;rw[if_pos (by decide),ya,yba,yba];have h:a.toNat*b.toNat < 18446744073709551616*18446744073709551616:=Nat.mul_lt_mul'' (ybr a) (ybr b);have h2:a.toNat*b.toNat / 18446744073709551616 < 18446744073709551616:=(Nat.div_lt_iff_lt_mul (by decide)).2 h;generalize a.toNat*b.toNat=z at*;rw[show(4611686018427377339:UInt64).toNat=4611686018427377339 from rfl]
 have e:z / 18446744073709551616 % 2 ^ 64*18446744073709551616+z % 18446744073709551616 % 2 ^ 64=z:=by omega
 rw[e]
theorem Ztr:∀(k m:Nat)(A N O:UInt64),N.toNat < 2 ^ k→k < m→Zb (Vw fuel) m (A,N,O)=some (yad (pwm 4611686018427377339 k A.toNat N.toNat O.toNat))
 |k,0,_,_,_,_,h=>by omega
 |0,m+1,A,N,O,h,_=>by
  have hn:¬N > 0:=by
   intro h2;have h3:0 < N.toNat:=ybz.1 h2;rw[Nat.pow_zero] at h;omega
  have hs:Vw fuel (A,N,O)=if decide (N > 0)=true then(if((N&&&1)==1)=true then(Yr fuel O A).bind λo1=>(Yr fuel A A).bind λo2=>some (.inl (o2,ZL N 1,o1)) else(Yr fuel A A).bind λo2=>some (.inl (o2,ZL N 1,O))) else some (.inr O):=rfl
  unfold Zb;rw[hs]
  rw[if_neg (by rw[decide_eq_true_iff];exact hn),ya,pwm,UInt64.ofNat_toNat]
 |k+1,m+1,A,N,O,h,hm=>by
  have hs:Vw fuel (A,N,O)=if decide (N > 0)=true then(if((N&&&1)==1)=true then(Yr fuel O A).bind λo1=>(Yr fuel A A).bind λo2=>some (.inl (o2,ZL N 1,o1)) else(Yr fuel A A).bind λo2=>some (.inl (o2,ZL N 1,O))) else some (.inr O):=rfl
  unfold Zb;rw[hs];by_cases h2:N > 0
  ·have hp:0 < N.toNat→pwm 4611686018427377339 (k+1) A.toNat N.toNat O.toNat=pwm 4611686018427377339 k (A.toNat*A.toNat % 4611686018427377339) (N.toNat / 2) (if N.toNat % 2=1 then O.toNat*A.toNat % 4611686018427377339 else O.toNat):=λh=>by
    rw[pwm,if_neg (by omega)]
   have h3:0 < N.toNat:=ybz.1 h2
   have hsh:(ZL N 1).toNat=N.toNat / 2:=by
    unfold ZL;rw[yba,yah (Nat.lt_of_le_of_lt (Nat.div_le_self ..) (ybr _))]
   have hlt:(ZL N 1).toNat < 2 ^ k:=by
    rw[hsh];rw[Nat.pow_succ] at h;omega
   have hand:((N&&&1)==1)=decide (N.toNat % 2=1):=by
    rw[Bool.eq_iff_iff,beq_iff_eq,decide_eq_true_iff, ←UInt64.toNat_inj,UInt64.toNat_and];exact Iff.of_eq (congrArg (· =1) (Nat.and_one_is_mod _))
   rw[if_pos (decide_eq_true h2),hand,hp h3];simp only[Zzn];by_cases h4:N.toNat % 2=1
   ·rw[if_pos (decide_eq_true h4),if_pos h4,ya,ya,ya];dsimp only;rw[Ztr k m _ _ _ hlt (by omega),ZGg,ZGg,hsh]
   ·rw[if_neg (by rw[decide_eq_true_iff];exact h4),if_neg h4,ya,ya];dsimp only;rw[Ztr k m _ _ _ hlt (by omega),ZGg,hsh]
  ·have h3:N.toNat=0:=by
    rcases ycc N.toNat with h5|h5
    ·exact h5
    ·exact absurd (show(0:UInt64) < N from ybz.2 h5) h2
   rw[if_neg (by rw[decide_eq_true_iff];exact h2),ya,pwm,if_pos h3,UInt64.ofNat_toNat]
theorem ZGh(a n:UInt64):Zho fuel a n=some (yad (pwm 4611686018427377339 64 a.toNat n.toNat 1)):=by
 unfold Zho;rw[Ztr 64 fuel a n 1 (ybr _) (by rw[Zda];omega),ya];rfl
noncomputable def Q7(F:Nat)(a0:UInt64)(a1:UInt64):Option UInt64:=some (yad (pwm 4611686018427377339 64 a0.toNat a1.toNat 1))
noncomputable def Zts(F:Nat):Fs yc:={ Zd7 F with M:=λx=>Q7 F x.1 x.2}
noncomputable def Zdb:Fs yc:=Zts fuel
theorem ZfK:Zdb.Ok:=Zno (s:=Zd7 fuel) Zrk λx=>(ZGh x.1 x.2).symm
end Go.Proofs.YtmkgbalfkhaflaaGreat
end
section
set_option maxRecDepth 4000
namespace Go.Proofs.YtmkgbalfkhaflaaGreat
open Go Go.Ev
noncomputable section
def XN(F:Nat)(a0:UInt64):Option (Bool):=
 if(decide (a0 > 0))=true then
  if(decide (a0 < 4611686018427377339))=true then
   (Q7 F a0 2305843009213688669).bind λo48=>
   some (o48==1)
  else
  some false
 else
 some false
def Qc:Fs yc:=⟨70,[.v .u64],[],[.u64],[⟨.ret,[(0,.v .bool)],[],[.bool]⟩],λx=>XN fuel x⟩
theorem QE:Qc.Ok:=fnO { still:=[2,10]} [] [Zdb] ⟨ZfK,ytt⟩
def Qd(F:Nat)(a0:UInt64):Option (Bool):=
 (XN F a0).bind λo49=>
 some (!o49)
def ZfL:Fs yc:=⟨69,[.v .u64],[],[.u64],[⟨.ret,[(0,.v .bool)],[],[.bool]⟩],λx=>Qd fuel x⟩
theorem ZjI:ZfL.Ok:=fnO { still:=[2,3]} [] [Qc] ⟨QE,ytt⟩
def VN(F:Nat)(a0:Int):Option (Bool):=
 if(decide (a0 ≥ 0))=true then
  some (decide (a0≤1048576))
 else
 some false
def ZmF:Fs yc:=⟨72,[.v yI],[],[yI],[⟨.ret,[(0,.v .bool)],[],[.bool]⟩],λx=>VN fuel x⟩
theorem Ztt:ZmF.Ok:=fnO { still:=[2]} [] [] trivial
def Xk(F:Nat)(s:((List UInt64)×Int×Int)):Option (((List UInt64)×Int×Int)⊕(Int⊕Unit)):=
 if(decide (s.2.2 < s.2.1))=true then
  (idx s.1 s.2.2).bind λe51=>
  (Qd F e51).bind λo52=>
  if o52=true then
   some (.inr (.inl s.2.2))
  else
  some (.inl (s.1,s.2.1,wi (s.2.2+1)))
 else
 some (.inr (.inr ()))
def Zh5:Lp:=⟨[(0,.v (.sl .u64)),(1,.fn 69 []),(7,.v yI),(8,.v yI)],[],[(.sl .u64),yI,yI],[⟨.ret,[(4,.v yI)],[],[yI]⟩,⟨.exit 0,[],[],[]⟩],Zb (Xk fuel) fuel⟩
theorem Zma:Zh5.okA yc 128 0:=ZC { still:=[4,15]} [] [ZfL] ⟨ZjI,ytt⟩
def ZbL(F:Nat)(a0:(List UInt64)):Option (Int):=
 (Zb (Xk F) F (a0,(a0.length:Int),0)).bind λo53=>
 match o53 with
 |.inl o54=>
  some o54
 |.inr o55=>
  some (-1)
def ZjJ:Fs yc:=⟨128,[.v (.sl .u64),.fn 69 []],[],[(.sl .u64)],[⟨.ret,[(0,.v yI)],[],[yI]⟩],λx=>ZbL fuel x⟩
theorem ZpM:ZjJ.Ok:=fnO { still:=[4,15]} [(0,Zh5)] [] trivial ⟨Zma,ytt⟩
def ZcT(F:Nat)(a0:(List UInt64)):Option (Bool):=
 (ZbL F a0).bind λo56=>
 some (decide (o56 ≥ 0))
def ZqK:Fs yc:=⟨71,[.v (.sl .u64),.fn 69 []],[],[(.sl .u64)],[⟨.ret,[(0,.v .bool)],[],[.bool]⟩],λx=>ZcT fuel x⟩
theorem Zxn:ZqK.Ok:=fnO { still:=[4,5,6]} [] [ZjJ] ⟨ZpM,ytt⟩
def Wt(F:Nat)(s:((List ZJ)×Int×Int×Lock)):Option (((List ZJ)×Int×Int×Lock)⊕((Bool×Lock)⊕Lock)):=
 if(decide (s.2.2.1 < s.2.1))=true then
  (idx s.1 s.2.2.1).bind λe50=>
  if(decide ((e50.1.length:Int) > 12))=true then
   some (.inr (.inl (false,s.2.2.2)))
  else
  (ZcT F e50.1).bind λo57=>
  if o57=true then
   some (.inr (.inl (false,s.2.2.2)))
  else
  (VN F e50.2.1).bind λo58=>
  if(!o58)=true then
   some (.inr (.inl (false,s.2.2.2)))
  else
  (VN F e50.2.2.1).bind λo59=>
  if(!o59)=true then
   some (.inr (.inl (false,s.2.2.2)))
  else
  if(e50.2.2.2 !=0)=true then
   (Qd F e50.2.2.2).bind λo60=>
   if o60=true then
    some (.inr (.inl (false,s.2.2.2)))
   else
   some (.inl (s.1,s.2.1,wi (s.2.2.1+1),s.2.2.2))
  else
  some (.inl (s.1,s.2.1,wi (s.2.2.1+1),s.2.2.2))
 else
 some (.inr (.inr s.2.2.2))
def ZmG:Lp:=⟨[(1,.ref 0 []),(3,.fn 69 []),(7,.v (.sl Zo)),(8,.v yI),(9,.v yI)],[.var (.v Zn) true],[(.sl Zo),yI,yI,Zn],[⟨.ret,[(2,.v .bool)],[.var (.v Zn) true],[.bool,Zn]⟩,⟨.exit 0,[(1,.ref 0 [])],[.var (.v Zn) true],[Zn]⟩],Zb (Wt fuel) fuel⟩
theorem ZpN:ZmG.okA yc 24 0:=ZC { still:=[2,19,20,25,31,42]} [] [ZqK,ZmF,ZfL] ⟨Zxn,Ztt,ZjI,ytt⟩
def YA(F:Nat)(a0:Lock):Option (Bool):=
 (Zb (Wt F) F (a0,(a0.length:Int),0,a0)).bind λo61=>
 match o61 with
 |.inl o62=>
  some o62.1
 |.inr o63=>
  if(decide ((o63.length:Int) > 0))=true then
   some (decide ((o63.length:Int)≤4))
  else
  some false
def Zhp(F:Nat):Fs yc:=⟨24,[.v Zn],[],[Zn],[⟨.ret,[(0,.v .bool)],[],[.bool]⟩],λx=>YA F x⟩
def WS:Fs yc:=Zhp fuel
theorem Wl:WS.Ok:=fnO { still:=[2,19,20,25,31,42]} [(0,ZmG)] [] trivial ⟨ZpN,ytt⟩
def ZfM(F:Nat)(a0:Int):Option (Bool):=
 if(decide (a0 ≥ 0))=true then
  some (decide (a0≤1125899906842624))
 else
 some false
def ZqL:Fs yc:=⟨129,[.v yI],[],[yI],[⟨.ret,[(0,.v .bool)],[],[.bool]⟩],λx=>ZfM fuel x⟩
theorem Zxo:ZqL.Ok:=fnO { still:=[2]} [] [] trivial
def Zh6(F:Nat)(a0:Int)(a1:Int):Option ((Int×Bool)):=
 (ZfM F a0).bind λo64=>
 if(!o64)=true then
  some (0,false)
 else
 (ZfM F a1).bind λo65=>
 if(!o65)=true then
  some (0,false)
 else
 if(decide (a0 > (wi (1125899906842624 - a1))))=true then
  some (0,false)
 else
 some (wi (a0+a1),true)
def ZpO:Fs yc:=⟨74,[.v yI,.v yI],[],[yI,yI],[⟨.ret,[(0,.tup [.v yI,.v .bool])],[],[yI,.bool]⟩],λx=>Zh6 fuel x.1 x.2⟩
theorem Ztu:ZpO.Ok:=fnO { still:=[4,5,6,10]} [] [ZqL] ⟨Zxo,ytt⟩
def Xl(F:Nat)(a0:Int)(a1:Int)(a2:Int):Option (Bool):=
 if(decide (a1≤a0))=true then
  some (decide (a0≤a2))
 else
 some false
def ZjK:Fs yc:=⟨159,[.v yI,.v yI,.v yI],[],[yI,yI,yI],[⟨.ret,[(0,.v .bool)],[],[.bool]⟩],λx=>Xl fuel x.1 x.2.1 x.2.2⟩
theorem ZpP:ZjK.Ok:=fnO { still:=[6]} [] [] trivial
def ZeY(F:Nat)(a0:ZbJ):Option (Bool):=
 (Xl F a0.1 0 65536).bind λo66=>
 if o66=true then
  (Xl F a0.2.2.1 1 4096).bind λo67=>
  if o67=true then
   (Xl F a0.2.2.2.1 0 16).bind λo68=>
   if o68=true then
    (Xl F a0.2.1 a0.1 1125899906842624).bind λo69=>
    if o69=true then
     (Xl F a0.2.2.2.2.1 1 1125899906842624).bind λo70=>
     if o70=true then
      (Xl F a0.2.2.2.2.2 0 1125899906842624).bind λo71=>
      some o71
     else
     some false
    else
    some false
   else
   some false
  else
  some false
 else
 some false
def ZmH:Fs yc:=⟨120,[.v Zd4],[],[Zd4],[⟨.ret,[(0,.v .bool)],[],[.bool]⟩],λx=>ZeY fuel x⟩
def hi0:HI:={ still:=[2,7,12,18,25,27,33,39]}
theorem Ztv:ZmH.Ok:=fnO hi0 [] [ZjK] ⟨ZpP,ytt⟩
def Zd8(F:Nat)(a0:UInt64):Option (Bool):=
 if(a0==1)=true then
  some true
 else
 (XN F a0).bind λo72=>
 some (!o72)
def Zh7:Fs yc:=⟨160,[.v .u64],[],[.u64],[⟨.ret,[(0,.v .bool)],[],[.bool]⟩],λx=>Zd8 fuel x⟩
theorem Zor:Zh7.Ok:=fnO { still:=[2,6]} [] [Qc] ⟨QE,ytt⟩
def WT(F:Nat)(s:((List UInt64)×Int×Int)):Option (((List UInt64)×Int×Int)⊕(Int⊕Unit)):=
 if(decide (s.2.2 < s.2.1))=true then
  (idx s.1 s.2.2).bind λe73=>
  (Zd8 F e73).bind λo74=>
  if o74=true then
   some (.inr (.inl s.2.2))
  else
  some (.inl (s.1,s.2.1,wi (s.2.2+1)))
 else
 some (.inr (.inr ()))
def Zep:Lp:=⟨[(0,.v (.sl .u64)),(1,.fn 160 []),(7,.v yI),(8,.v yI)],[],[(.sl .u64),yI,yI],[⟨.ret,[(4,.v yI)],[],[yI]⟩,⟨.exit 0,[],[],[]⟩],Zb (WT fuel) fuel⟩
theorem ZiU:Zep.okA yc 128 0:=ZC { still:=[4,15]} [] [Zh7] ⟨Zor,ytt⟩
def ZbM(F:Nat)(a0:(List UInt64)):Option (Int):=
 (Zb (WT F) F (a0,(a0.length:Int),0)).bind λo75=>
 match o75 with
 |.inl o76=>
  some o76
 |.inr o77=>
  some (-1)
def ZfN:Fs yc:=⟨128,[.v (.sl .u64),.fn 160 []],[],[(.sl .u64)],[⟨.ret,[(0,.v yI)],[],[yI]⟩],λx=>ZbM fuel x⟩
theorem Zmb:ZfN.Ok:=fnO { still:=[4,15]} [(0,Zep)] [] trivial ⟨ZiU,ytt⟩
def Zhq(F:Nat)(a0:(List UInt64)):Option (Bool):=
 (ZbM F a0).bind λo78=>
 some (decide (o78 ≥ 0))
def ZkN:Fs yc:=⟨71,[.v (.sl .u64),.fn 160 []],[],[(.sl .u64)],[⟨.ret,[(0,.v .bool)],[],[.bool]⟩],λx=>Zhq fuel x⟩
theorem Zrl:ZkN.Ok:=fnO { still:=[4,5,6]} [] [ZfN] ⟨Zmb,ytt⟩
def Zdc(F:Nat)(a0:Zal):Option (Bool):=
 (Zhq F [a0.1,a0.2.1,a0.2.2.1,a0.2.2.2.1,a0.2.2.2.2]).bind λo79=>
 some (!o79)
def ZkO:Fs yc:=⟨121,[.v Qi],[],[Qi],[⟨.ret,[(0,.v .bool)],[],[.bool]⟩],λx=>Zdc fuel x⟩
theorem Zrm:ZkO.Ok:=fnO { still:=[2,14,15]} [] [ZkN] ⟨Zrl,ytt⟩
abbrev Zf:Ty:=(.st [Zj,yI,(.arr 2 Qi),(.arr 2 Zd4),yI])
abbrev ZE:Type:=(Zu×Int×(List Zal)×(List ZbJ)×Int)
def Zdd(F:Nat)(s:((List ZbJ)×Int×ZE)):Option (((List ZbJ)×Int×ZE)⊕((Int×ZE)⊕ZE)):=
 if(decide (s.2.1 < 2))=true then
  (idx s.1 s.2.1).bind λe80=>
  (ZeY F e80).bind λo81=>
  if(!o81)=true then
   some (.inr (.inl (1,s.2.2)))
  else
  if(inB s.2.1 2)=true then
   (s.2.2.2.2.1[s.2.1.toNat]?).bind λe82=>
   (Zdc F e82).bind λo83=>
   if(!o83)=true then
    some (.inr (.inl (1,s.2.2)))
   else
   some (.inl (s.1,wi (s.2.1+1),s.2.2))
  else
  none
 else
 some (.inr (.inr s.2.2))
def Zos:Lp:=⟨[(1,.ref 0 []),(34,.v (.arr 2 Zd4)),(35,.v yI)],[.var (.v Zf) true],[(.arr 2 Zd4),yI,Zf],[⟨.ret,[(2,.v yI)],[.var (.v Zf) true],[yI,Zf]⟩,⟨.exit 0,[(1,.ref 0 [])],[.var (.v Zf) true],[Zf]⟩],Zb (Zdd fuel) fuel⟩
theorem Zrn:Zos.okA yc 62 0:=ZC { still:=[2,39,46,55,59]} [] [ZmH,ZkO] ⟨Ztv,Zrm,ytt⟩
def ZiV(F:Nat)(a0:ZE):Option (Int):=
 if(decide (a0.2.1 < 1))=true then
  some 1
 else
 if(decide (a0.2.1 > 1125899906842624))=true then
  some 1
 else
 if(decide (a0.1.2 < 0))=true then
  some 1
 else
 if(decide (a0.1.2 ≥ 64))=true then
  some 1
 else
 if((bits .andNot .i64 a0.2.2.2.2 1)!=0)=true then
  some 1
 else
 (Zb (Zdd F) F (a0.2.2.2.1,0,a0)).bind λo84=>
 match o84 with
 |.inl o85=>
  some o85.1
 |.inr o86=>
  (o86.2.2.2.1[0]?).bind λe87=>
  (o86.2.2.2.1[1]?).bind λe88=>
  (Zh6 F e87.2.1 e88.2.1).bind λo89=>
  if(!o89.2)=true then
   some 10
  else
  if(decide (o89.1 > o86.2.1))=true then
   some 10
  else
  some 0
def ZqM:Fs yc:=⟨62,[.v Zf],[],[Zf],[⟨.ret,[(0,.v yI)],[],[yI]⟩],λx=>ZiV fuel x⟩
theorem Zxp:ZqM.Ok:=fnO { still:=[2,39,46,55,59]} [(0,Zos)] [ZpO] ⟨Ztu,ytt⟩ ⟨Zrn,ytt⟩
def Zd9(F:Nat)(a0:Int)(s0:Int)(s1:Int):Option ((Bool×Int×Int)):=
 if(decide (a0 < s0))=true then
  some (true,s0,s1)
 else
 some (decide (a0 > s1),s0,s1)
def Zh8:Fs yc:=⟨123,[.v yI,.ref 0 [],.ref 1 []],[.var (.v yI) true,.var (.v yI) true],[yI,yI,yI],[⟨.ret,[(0,.v .bool)],[.var (.v yI) true,.var (.v yI) true],[.bool,yI,yI]⟩],λx=>Zd9 fuel x.1 x.2.1 x.2.2⟩
theorem Zot:Zh8.Ok:=fnO { still:=[4]} [] [] trivial
def YX(F:Nat)(s:((List Int)×Int×Int×Int×Int)):Option (((List Int)×Int×Int×Int×Int)⊕((Int×Int×Int)⊕(Int×Int))):=
 if(decide (s.2.2.1 < s.2.1))=true then
  (idx s.1 s.2.2.1).bind λe90=>
  (Zd9 F e90 s.2.2.2.1 s.2.2.2.2).bind λo91=>
  if o91.1=true then
   some (.inr (.inl (s.2.2.1,o91.2.1,o91.2.2)))
  else
  some (.inl (s.1,s.2.1,wi (s.2.2.1+1),o91.2.1,o91.2.2))
 else
 some (.inr (.inr (s.2.2.2.1,s.2.2.2.2)))
def Qj:Lp:=⟨[(0,.v (.sl yI)),(1,.fn 123 [.ref 0 [],.ref 1 []]),(7,.v yI),(8,.v yI)],[.var (.v yI) true,.var (.v yI) true],[(.sl yI),yI,yI,yI,yI],[⟨.ret,[(4,.v yI)],[.var (.v yI) true,.var (.v yI) true],[yI,yI,yI]⟩,⟨.exit 0,[],[.var (.v yI) true,.var (.v yI) true],[yI,yI]⟩],Zb (YX fuel) fuel⟩
theorem ZcU:Qj.okA yc 161 0:=ZC { still:=[4,15]} [] [Zh8] ⟨Zot,ytt⟩
def WG(F:Nat)(a0:(List Int))(s0:Int)(s1:Int):Option ((Int×Int×Int)):=
 (Zb (YX F) F (a0,(a0.length:Int),0,s0,s1)).bind λo92=>
 match o92 with
 |.inl o93=>
  some (o93.1,o93.2.1,o93.2.2)
 |.inr o94=>
  some ((-1),o94.1,o94.2)
def QF:Fs yc:=⟨161,[.v (.sl yI),.fn 123 [.ref 0 [],.ref 1 []]],[.var (.v yI) true,.var (.v yI) true],[(.sl yI),yI,yI],[⟨.ret,[(0,.v yI)],[.var (.v yI) true,.var (.v yI) true],[yI,yI,yI]⟩],λx=>WG fuel x.1 x.2.1 x.2.2⟩
theorem ZeZ:QF.Ok:=fnO { still:=[4,15]} [(0,Qj)] [] trivial ⟨ZcU,ytt⟩
def X0(F:Nat)(a0:(List Int))(s0:Int)(s1:Int):Option ((Bool×Int×Int)):=
 (WG F a0 s0 s1).bind λo95=>
 some (decide (o95.1 ≥ 0),o95.2.1,o95.2.2)
def VD:Fs yc:=⟨122,[.v (.sl yI),.fn 123 [.ref 0 [],.ref 1 []]],[.var (.v yI) true,.var (.v yI) true],[(.sl yI),yI,yI],[⟨.ret,[(0,.v .bool)],[.var (.v yI) true,.var (.v yI) true],[.bool,yI,yI]⟩],λx=>X0 fuel x.1 x.2.1 x.2.2⟩
theorem ZcV:VD.Ok:=fnO { still:=[4,5,6]} [] [QF] ⟨ZeZ,ytt⟩
def YR(F:Nat)(a0:Int)(a1:Int)(a2:(List Int)):Option (Bool):=
 (X0 F a2 a0 a1).bind λo96=>
 some (!o96.1)
def ZfO:Fs yc:=⟨63,[.v yI,.v yI,.v (.sl yI)],[],[yI,yI,(.sl yI)],[⟨.ret,[(0,.v .bool)],[],[.bool]⟩],λx=>YR fuel x.1 x.2.1 x.2.2⟩
theorem ZjL:ZfO.Ok:=fnO { still:=[6,7,8]} [] [VD] ⟨ZcV,ytt⟩
def Zg1(F:Nat)(a0:Cond):Option (Bool):=
 (YR F 0 1 [a0.1]).bind λo97=>
 if o97=true then
  (YR F 1 1048576 [a0.2.1]).bind λo98=>
  if o98=true then
   (YR F 1 1125899906842624 [a0.2.2.1]).bind λo99=>
   if o99=true then
    (YR F 1 1048576 [a0.2.2.2.2]).bind λo100=>
    if o100=true then
     (XN F a0.2.2.2.1).bind λo101=>
     if o101=true then
      some (a0.2.2.2.1 !=1)
     else
     some false
    else
    some false
   else
   some false
  else
  some false
 else
 some false
def Zou:Fs yc:=⟨64,[.v Zq],[],[Zq],[⟨.ret,[(0,.v .bool)],[],[.bool]⟩],λx=>Zg1 fuel x⟩
theorem ZuH:Zou.Ok:=fnO { still:=[2,5,10,16,22,27]} [] [ZfO,Qc] ⟨ZjL,QE,ytt⟩
def Vx(F:Nat)(s:(Int×(List Int)×Int×Int)):Option ((Int×(List Int)×Int×Int)⊕(Int⊕Int)):=
 if(decide (s.2.2.2 < s.2.2.1))=true then
  (idx s.2.1 s.2.2.2).bind λe102=>
  if(e102 !=s.1)=true then
   some (.inr (.inl e102))
  else
  some (.inl (s.1,s.2.1,s.2.2.1,wi (s.2.2.2+1)))
 else
 some (.inr (.inr s.1))
def ZmI:Lp:=⟨[(3,.v yI),(6,.v (.sl yI)),(7,.v yI),(8,.v yI)],[],[yI,(.sl yI),yI,yI],[⟨.ret,[(2,.v yI)],[],[yI]⟩,⟨.exit 0,[(3,.v yI)],[],[yI]⟩],Zb (Vx fuel) fuel⟩
theorem ZpQ:ZmI.okA yc 124 0:=ZC { still:=[2]} [] [] trivial
def Zg2(F:Nat)(a0:(List Int)):Option (Int):=
 (Zb (Vx F) F (0,a0,(a0.length:Int),0)).bind λo103=>
 match o103 with
 |.inl o104=>
  some o104
 |.inr o105=>
  some o105
def Zov:Fs yc:=⟨124,[.v (.sl yI)],[],[(.sl yI)],[⟨.ret,[(0,.v yI)],[],[yI]⟩],λx=>Zg2 fuel x⟩
theorem ZuI:Zov.Ok:=fnO { still:=[2]} [(0,ZmI)] [] trivial ⟨ZpQ,ytt⟩
def ZbN(F:Nat)(a0:Int):Option (Bool):=
 some (a0 !=a0)
def ZjM:Fs yc:=⟨162,[.v yI],[],[yI],[⟨.ret,[(0,.v .bool)],[],[.bool]⟩],λx=>ZbN fuel x⟩
theorem ZpR:ZjM.Ok:=fnO { still:=[2]} [] [] trivial
def Vy(F:Nat)(a0:Int)(a1:Int):Option (Int):=
 (ZbN F a0).bind λo106=>
 (ZbN F a1).bind λo107=>
 if o106=true then
  if o107=true then
   some 0
  else
  some (-1)
 else
 if o107=true then
  some 1
 else
 if(decide (a0 < a1))=true then
  some (-1)
 else
 if(decide (a0 > a1))=true then
  some 1
 else
 some 0
def Zg3:Fs yc:=⟨125,[.v yI,.v yI],[],[yI,yI],[⟨.ret,[(0,.v yI)],[],[yI]⟩],λx=>Vy fuel x.1 x.2⟩
theorem Znq:Zg3.Ok:=fnO { still:=[4,7,9]} [] [ZjM] ⟨ZpR,ytt⟩
def Ze0(F:Nat)(a0:Cond)(a1:Cond):Option (Int):=
 (Vy F a0.1 a1.1).bind λo108=>
 (Vy F a0.2.1 a1.2.1).bind λo109=>
 (Zg2 F [o108,o109]).bind λo110=>
 some o110
def ZmJ:Fs yc:=⟨65,[.v Zq,.v Zq],[],[Zq,Zq],[⟨.ret,[(0,.v yI)],[],[yI]⟩],λx=>Ze0 fuel x.1 x.2⟩
theorem Ztw:ZmJ.Ok:=fnO { still:=[4,6,8,11,13,15]} [] [Zg3,Zov] ⟨Znq,ZuI,ytt⟩
abbrev Zg:Ty:=(.st [yI,(.arr 2 yI),(.sl Zq),yI])
abbrev State:Type:=(Int×(List Int)×(List Cond)×Int)
def WU(F:Nat)(s:(Int×Int×Int×(List Cond)×Int×Int×State)):Option ((Int×Int×Int×(List Cond)×Int×Int×State)⊕(Int×Int×State)):=
 if(decide (s.2.2.2.2.2.1 < s.2.2.2.2.1))=true then
  (idx s.2.2.2.1 s.2.2.2.2.2.1).bind λe111=>
  if(e111.1==(wi (1 - s.1)))=true then
   some (.inl (s.1,wi (s.2.1+1),wi (s.2.2.1+e111.2.2.1),s.2.2.2.1,s.2.2.2.2.1,wi (s.2.2.2.2.2.1+1),s.2.2.2.2.2.2))
  else
  some (.inl (s.1,s.2.1,s.2.2.1,s.2.2.2.1,s.2.2.2.2.1,wi (s.2.2.2.2.2.1+1),s.2.2.2.2.2.2))
 else
 some (.inr (s.2.1,s.2.2.1,s.2.2.2.2.2.2))
def Zh9:Lp:=⟨[(1,.v yI),(6,.v yI),(7,.v yI),(11,.v (.sl Zq)),(12,.v yI),(13,.v yI)],[.var (.v Zg) true],[yI,yI,yI,(.sl Zq),yI,yI,Zg],[⟨.exit 0,[(6,.v yI),(7,.v yI)],[.var (.v Zg) true],[yI,yI,Zg]⟩],Zb (WU fuel) fuel⟩
theorem Zmc:Zh9.okA yc 66 0:=ZC { still:=[4,5]} [] [] trivial
def ZbO(F:Nat)(a0:State)(a1:Int):Option ((Int×Int)):=
 (Zb (WU F) F (a1,0,0,a0.2.2.1,(a0.2.2.1.length:Int),0,a0)).bind λo112=>
 some (o112.1,o112.2.1)
def ZjN:Fs yc:=⟨66,[.v Zg,.v yI],[],[Zg,yI],[⟨.ret,[(0,.tup [.v yI,.v yI])],[],[yI,yI]⟩],λx=>ZbO fuel x.1 x.2⟩
theorem ZpS:ZjN.Ok:=fnO { still:=[4,5]} [(0,Zh9)] [] trivial ⟨Zmc,ytt⟩
def ZaL(F:Nat)(s:(Int×(List Cond)×Int×Int×State)):Option ((Int×(List Cond)×Int×Int×State)⊕(Int×State)):=
 if(decide (s.2.2.2.1 < s.2.2.1))=true then
  (idx s.2.1 s.2.2.2.1).bind λe115=>
  some (.inl (wi (s.1+e115.2.2.1),s.2.1,s.2.2.1,wi (s.2.2.2.1+1),s.2.2.2.2))
 else
 some (.inr (s.1,s.2.2.2.2))
def ZkP:Lp:=⟨[(3,.v yI),(14,.v (.sl Zq)),(15,.v yI),(16,.v yI)],[.var (.v Zg) true],[yI,(.sl Zq),yI,yI,Zg],[⟨.exit 0,[(3,.v yI)],[.var (.v Zg) true],[yI,Zg]⟩],Zb (ZaL fuel) fuel⟩
theorem Zow:ZkP.okA yc 67 0:=ZC { still:=[2]} [] [] trivial
def Ze1(F:Nat)(a0:State):Option (Int):=
 (a0.2.1[0]?).bind λe113=>
 (a0.2.1[1]?).bind λe114=>
 (Zb (ZaL F) F (wi (e113+e114),a0.2.2.1,(a0.2.2.1.length:Int),0,a0)).bind λo116=>
 some o116.1
def ZmK:Fs yc:=⟨67,[.v Zg],[],[Zg],[⟨.ret,[(0,.v yI)],[],[yI]⟩],λx=>Ze1 fuel x⟩
theorem Ztx:ZmK.Ok:=fnO { still:=[2]} [(0,ZkP)] [] trivial ⟨Zow,ytt⟩
def Zhr(F:Nat)(a0:Int):Option (Int):=
 if(decide (a0 < 0))=true then
  some 0
 else
 if(decide (a0 > 16))=true then
  some 0
 else
 some (wi (68+(wi (8*a0))))
def ZkQ:Fs yc:=⟨163,[.v yI],[],[yI],[⟨.ret,[(0,.v yI)],[],[yI]⟩],λx=>Zhr fuel x⟩
theorem Zro:ZkQ.Ok:=fnO { still:=[2]} [] [] trivial
def ZiW(F:Nat)(a0:Int)(a1:Int):Option (Int):=
 if(decide (a0 < 0))=true then
  some 0
 else
 if(decide (a0 > 1000))=true then
  some 0
 else
 (Zhr F a1).bind λo117=>
 some (wi (a0*o117))
def ZqN:Fs yc:=⟨126,[.v yI,.v yI],[],[yI,yI],[⟨.ret,[(0,.v yI)],[],[yI]⟩],λx=>ZiW fuel x.1 x.2⟩
theorem Zxq:ZqN.Ok:=fnO { still:=[4,12]} [] [ZkQ] ⟨Zro,ytt⟩
def Zg4(F:Nat)(a0:ZE)(a1:State):Option (Int):=
 (ZiW F a1.2.2.2 (a1.2.2.1.length:Int)).bind λo118=>
 some (wi (o118+660))
def Zox:Fs yc:=⟨68,[.v Zf,.v Zg],[],[Zf,Zg],[⟨.ret,[(0,.v yI)],[],[yI]⟩],λx=>Zg4 fuel x.1 x.2⟩
theorem ZuJ:Zox.Ok:=fnO { still:=[4,6,9]} [] [ZqN] ⟨Zxq,ytt⟩
def ZaM(F:Nat)(s:((List Cond)×Int×Int×ZE×State)):Option (((List Cond)×Int×Int×ZE×State)⊕((Bool×ZE×State)⊕(ZE×State))):=
 if(decide (s.2.2.1 < s.2.1))=true then
  (idx s.1 s.2.2.1).bind λe125=>
  (Zg1 F e125).bind λo126=>
  if(!o126)=true then
   some (.inr (.inl (false,s.2.2.2.1,s.2.2.2.2)))
  else
  if(inB (wi (1 - e125.1)) 2)=true then
   (s.2.2.2.1.2.2.2.1[(wi (1 - e125.1)).toNat]?).bind λe127=>
   if(decide (e125.2.2.1 < e127.2.2.2.2.1))=true then
    some (.inr (.inl (false,s.2.2.2.1,s.2.2.2.2)))
   else
   if(decide (s.2.2.1 > 0))=true then
    (idx s.2.2.2.2.2.2.1 (wi (s.2.2.1 - 1))).bind λe128=>
    (Ze0 F e128 e125).bind λo129=>
    if(decide (o129 ≥ 0))=true then
     some (.inr (.inl (false,s.2.2.2.1,s.2.2.2.2)))
    else
    some (.inl (s.1,s.2.1,wi (s.2.2.1+1),s.2.2.2.1,s.2.2.2.2))
   else
   some (.inl (s.1,s.2.1,wi (s.2.2.1+1),s.2.2.2.1,s.2.2.2.2))
  else
  none
 else
 some (.inr (.inr (s.2.2.2.1,s.2.2.2.2)))
def ZkR:Lp:=⟨[(2,.ref 0 []),(3,.ref 1 []),(46,.v (.sl Zq)),(47,.v yI),(48,.v yI)],[.var (.v Zf) true,.var (.v Zg) true],[(.sl Zq),yI,yI,Zf,Zg],[⟨.ret,[(4,.v .bool)],[.var (.v Zf) true,.var (.v Zg) true],[.bool,Zf,Zg]⟩,⟨.exit 0,[(2,.ref 0 []),(3,.ref 1 [])],[.var (.v Zf) true,.var (.v Zg) true],[Zf,Zg]⟩],Zb (ZaM fuel) fuel⟩
def hi1:HI:={ still:=[4,11,17,28,35,53,77,78,91,92,107,118,119]}
theorem Zoy:ZkR.okA yc 23 0:=ZC hi1 [] [Zou,ZmJ] ⟨ZuH,Ztw,ytt⟩
def ZaN(F:Nat)(s:((List ZbJ)×Int×ZE×State)):Option (((List ZbJ)×Int×ZE×State)⊕((Bool×ZE×State)⊕(ZE×State))):=
 if(decide (s.2.1 < 2))=true then
  (idx s.1 s.2.1).bind λe133=>
  (ZbO F s.2.2.2 s.2.1).bind λo134=>
  if(decide (o134.1 > e133.2.2.2.1))=true then
   some (.inr (.inl (false,s.2.2.1,s.2.2.2)))
  else
  if(decide (o134.2 > e133.2.2.2.2.2))=true then
   some (.inr (.inl (false,s.2.2.1,s.2.2.2)))
  else
  some (.inl (s.1,wi (s.2.1+1),s.2.2.1,s.2.2.2))
 else
 some (.inr (.inr (s.2.2.1,s.2.2.2)))
def ZkS:Lp:=⟨[(2,.ref 0 []),(3,.ref 1 []),(85,.v (.arr 2 Zd4)),(86,.v yI)],[.var (.v Zf) true,.var (.v Zg) true],[(.arr 2 Zd4),yI,Zf,Zg],[⟨.ret,[(4,.v .bool)],[.var (.v Zf) true,.var (.v Zg) true],[.bool,Zf,Zg]⟩,⟨.exit 2,[(2,.ref 0 []),(3,.ref 1 [])],[.var (.v Zf) true,.var (.v Zg) true],[Zf,Zg]⟩],Zb (ZaN fuel) fuel⟩
theorem Zoz:ZkS.okA yc 23 1:=ZC hi1 [] [ZjN] ⟨ZpS,ytt⟩
def Ze2(F:Nat)(a0:ZE)(a1:State):Option (Bool):=
 (ZiV F a0).bind λo119=>
 if(o119 !=0)=true then
  some false
 else
 (YR F 0 1048576 [a1.1]).bind λo120=>
 if(!o120)=true then
  some false
 else
 (a1.2.1[0]?).bind λe121=>
 (a1.2.1[1]?).bind λe122=>
 (YR F 0 1125899906842624 [e121,e122]).bind λo123=>
 if(!o123)=true then
  some false
 else
 (YR F 0 1000 [a1.2.2.2]).bind λo124=>
 if(!o124)=true then
  some false
 else
 if(decide ((a1.2.2.1.length:Int) > 16))=true then
  some false
 else
 (Zb (ZaM F) F (a1.2.2.1,(a1.2.2.1.length:Int),0,a0,a1)).bind λo130=>
 match o130 with
 |.inl o131=>
  some o131.1
 |.inr o132=>
  (Zb (ZaN F) F (o132.1.2.2.2.1,0,o132.1,o132.2)).bind λo135=>
  match o135 with
  |.inl o136=>
   some o136.1
  |.inr o137=>
   (Ze1 F o137.2).bind λo138=>
   if(o138==o137.1.2.1)=true then
    if(inB o137.1.2.2.2.2 2)=true then
     (o137.2.2.1[o137.1.2.2.2.2.toNat]?).bind λe139=>
     (Zg4 F o137.1 o137.2).bind λo140=>
     some (decide (e139 ≥ o140))
    else
    none
   else
   some false
def ZmL:Fs yc:=⟨23,[.v Zf,.v Zg],[],[Zf,Zg],[⟨.ret,[(0,.v .bool)],[],[.bool]⟩],λx=>Ze2 fuel x.1 x.2⟩
theorem Zty:ZmL.Ok:=fnO hi1 [(0,ZkR),(1,ZkS)] [ZqM,ZfO,ZmK,Zox] ⟨Zxp,ZjL,Ztx,ZuJ,ytt⟩ ⟨Zoy,Zoz,ytt⟩
def ZbP(F:Nat)(a0:ZE)(a1:State):Option (Bool):=
 if((a1.2.2.1.length:Int)==0)=true then
  (Ze2 F a0 a1).bind λo141=>
  some o141
 else
 some false
def ZfP(F:Nat):Fs yc:=⟨39,[.v Zf,.v Zg],[],[Zf,Zg],[⟨.ret,[(0,.v .bool)],[],[.bool]⟩],λx=>ZbP F x.1 x.2⟩
def Zhs:Fs yc:=ZfP fuel
theorem ZfQ:Zhs.Ok:=fnO { still:=[4,10,11]} [] [ZmL] ⟨Zty,ytt⟩
def YS(F:Nat)(a0:ZE)(a1:State)(a2:Int)(a3:Int):Option (Bool):=
 if(a2 !=a0.2.2.2.2)=true then
  some (a3==0)
 else
 if(decide (a3 ≥ 52))=true then
  if(inB a2 2)=true then
   (a1.2.1[a2.toNat]?).bind λe142=>
   some (decide (a3≤e142))
  else
  none
 else
 some false
def Zea(F:Nat):Fs yc:=⟨40,[.v Zf,.v Zg,.v yI,.v yI],[],[Zf,Zg,yI,yI],[⟨.ret,[(0,.v .bool)],[],[.bool]⟩],λx=>YS F x.1 x.2.1 x.2.2.1 x.2.2.2⟩
def ZbQ:Fs yc:=Zea fuel
theorem ZaO:ZbQ.Ok:=fnO { still:=[8]} [] [] trivial
def Xe(F:Nat)(s:((List (List UInt8))×Int×(List (List UInt8))×Int×Int)):Option (((List (List UInt8))×Int×(List (List UInt8))×Int×Int)⊕((List (List UInt8))×Int)):=
 if(decide (s.2.2.2.2 < s.2.2.2.1))=true then
  (idx s.2.2.1 s.2.2.2.2).bind λe143=>
  if(decide ((wi (s.2.1+(e143.length:Int))) < 0))=true then
   none
  else
  some (.inl (s.1,wi (s.2.1+(e143.length:Int)),s.2.2.1,s.2.2.2.1,wi (s.2.2.2.2+1)))
 else
 some (.inr (s.1,s.2.1))
def QG:Lp:=⟨[(0,.v (.sl (.sl .u8))),(3,.v yI),(9,.v (.sl (.sl .u8))),(10,.v yI),(11,.v yI)],[],[(.sl (.sl .u8)),yI,(.sl (.sl .u8)),yI,yI],[⟨.exit 0,[(0,.v (.sl (.sl .u8))),(3,.v yI)],[],[(.sl (.sl .u8)),yI]⟩],Zb (Xe fuel) fuel⟩
def hi2:HI:={ own:=[6,24,31,33],still:=[2,23]}
theorem ZdB:QG.okA yc 158 0:=ZC hi2 [] [] trivial
def Zbl:Fs yc:=⟨178,[.nil .u8,.v yI],[],[.int .i64],[⟨.ret,[(0,.own 0 .u8)],[.log .u8 5],[.sl .u8]⟩],Ztd⟩
theorem Zht:Zbl.Ok:=ZH7 ZF5
def Xf(F:Nat)(s:((List (List UInt8))×Int×Int×(List UInt8))):Option (((List (List UInt8))×Int×Int×(List UInt8))⊕(List UInt8)):=
 if(decide (s.2.2.1 < s.2.1))=true then
  (idx s.1 s.2.2.1).bind λe146=>
  if(apB s.2.2.2.length e146.length 1)=true then
   some (.inl (s.1,s.2.1,wi (s.2.2.1+1),s.2.2.2++e146))
  else
  none
 else
 some (.inr s.2.2.2)
def QH:Lp:=⟨[(6,.own 0 .u8),(25,.v (.sl (.sl .u8))),(26,.v yI),(27,.v yI)],[.log .u8 5],[(.sl (.sl .u8)),yI,yI,(.sl .u8)],[⟨.exit 2,[(6,.own 0 .u8)],[.log .u8 5],[(.sl .u8)]⟩],Zb (Xf fuel) fuel⟩
theorem ZdC:QH.okA yc 158 1:=ZC hi2 [] [] trivial
def YT(F:Nat)(a0:(List (List UInt8))):Option ((List UInt8)):=
 (Zb (Xe F) F (a0,0,a0,(a0.length:Int),0)).bind λo144=>
 (Ztd o144.2).bind λo145=>
 (Zb (Xf F) F (o144.1,(o144.1.length:Int),0,o145)).bind λo147=>
 some o147
def WH:Fs yc:=⟨158,[.v (.sl (.sl .u8))],[],[(.sl (.sl .u8))],[⟨.ret,[(0,.v (.sl .u8))],[],[(.sl .u8)]⟩],λx=>YT fuel x⟩
theorem QI:WH.Ok:=fnO hi2 [(0,QG),(1,QH)] [Zbl] ⟨Zht,ytt⟩ ⟨ZdB,ZdC,ytt⟩
def Za6(F:Nat)(a0:(List UInt8))(a1:(List UInt8)):Option ((List UInt8)):=
 (YT F [a0,a1]).bind λo148=>
 some o148
def Zg5:Fs yc:=⟨147,[.v (.sl .u8),.v (.sl .u8)],[],[(.sl .u8),(.sl .u8)],[⟨.ret,[(0,.v (.sl .u8))],[],[(.sl .u8)]⟩],λx=>Za6 fuel x.1 x.2⟩
theorem ZiX:Zg5.Ok:=fnO { still:=[4,7]} [] [WH] ⟨QI,ytt⟩
def Ze3(F:Nat)(s:(Int×(List UInt8))):Option ((Int×(List UInt8))⊕(Int×(List UInt8))):=
 if(decide (s.1 ≥ 128))=true then
  if(apB s.2.length 1 1)=true then
   let y149:(List UInt8):=s.2++([w8 (wi ((yaw s.1 128)+128))]:List UInt8)
   some (.inl (wi (Int.tdiv s.1 128),y149))
  else
  none
 else
 some (.inr (s.1,s.2))
def ZqO:Lp:=⟨[(0,.v yI),(3,.own 0 .u8)],[.log .u8 5],[yI,(.sl .u8)],[⟨.exit 0,[(0,.v yI),(3,.own 0 .u8)],[.log .u8 5],[yI,(.sl .u8)]⟩],Zb (Ze3 fuel) fuel⟩
def hi3:HI:={ own:=[3,8,14,15,19],still:=[2]}
theorem Ztz:ZqO.okA yc 148 0:=ZC hi3 [] [] trivial
def Zia(F:Nat)(a0:Int):Option ((List UInt8)):=
 (Zb (Ze3 F) F (a0,[])).bind λo150=>
 if(apB o150.2.length 1 1)=true then
  some (o150.2++([w8 o150.1]:List UInt8))
 else
 none
def Znr:Fs yc:=⟨148,[.v yI],[],[yI],[⟨.ret,[(0,.v (.sl .u8))],[],[(.sl .u8)]⟩],λx=>Zia fuel x⟩
theorem ZqP:Znr.Ok:=fnO hi3 [(0,ZqO)] [] trivial ⟨Ztz,ytt⟩
def WM(F:Nat)(a0:(List UInt8))(a1:Int):Option ((List UInt8)):=
 if(decide (a1 < 0))=true then
  (Za6 F a0 []).bind λo151=>
  some o151
 else
 (Zia F a1).bind λo152=>
 (Za6 F a0 o152).bind λo153=>
 some o153
def ZcW:Fs yc:=⟨104,[.v (.sl .u8),.v yI],[],[(.sl .u8),yI],[⟨.ret,[(0,.v (.sl .u8))],[],[(.sl .u8)]⟩],λx=>WM fuel x.1 x.2⟩
theorem ZdD:ZcW.Ok:=fnO { still:=[4,7,9,10,11]} [] [Zg5,Znr] ⟨ZiX,ZqP,ytt⟩
def ZaP(F:Nat)(s:((List UInt8)×UInt64×Int×(List UInt8))):Option (((List UInt8)×UInt64×Int×(List UInt8))⊕((List UInt8)×(List UInt8))):=
 if(decide (s.2.2.1 < 8))=true then
  if(decide (0≤wi (56 - (wi (8*s.2.2.1)))))=true then
   let y154:UInt64:=ZL s.2.1 (min (wi (56 - (wi (8*s.2.2.1)))).toNat 64)
   if(inB s.2.2.1 8)=true then
    (s.2.2.2[s.2.2.1.toNat]?).bind λe155=>
    let y156:(List UInt8):=s.2.2.2.set s.2.2.1.toNat (w8 (y154.toNat:Int))
    some (.inl (s.1,s.2.1,wi (s.2.2.1+1),y156))
   else
   none
  else
  none
 else
 some (.inr (s.1,s.2.2.2))
def ZkT:Lp:=⟨[(0,.v (.sl .u8)),(1,.v .u64),(5,.ref 0 []),(7,.v yI)],[.var (.v (.arr 8 .u8)) true],[(.sl .u8),.u64,yI,(.arr 8 .u8)],[⟨.exit 0,[(0,.v (.sl .u8)),(5,.ref 0 [])],[.var (.v (.arr 8 .u8)) true],[(.sl .u8),(.arr 8 .u8)]⟩],Zb (ZaP fuel) fuel⟩
theorem ZoA:ZkT.okA yc 105 0:=ZC { still:=[4,19,20],frz:=[20]} [] [] trivial
def ZbR(F:Nat)(a0:(List UInt8))(a1:UInt64):Option ((List UInt8)):=
 (Zb (ZaP F) F (a0,a1,0,[0,0,0,0,0,0,0,0])).bind λo157=>
 (Za6 F o157.1 o157.2).bind λo158=>
 some o158
def Zhu:Fs yc:=⟨105,[.v (.sl .u8),.v .u64],[],[(.sl .u8),.u64],[⟨.ret,[(0,.v (.sl .u8))],[],[(.sl .u8)]⟩],λx=>ZbR fuel x.1 x.2⟩
theorem ZkU:Zhu.Ok:=fnO { still:=[4,19,20],frz:=[20]} [(0,ZkT)] [Zg5] ⟨ZiX,ytt⟩ ⟨ZoA,ytt⟩
def QJ(F:Nat)(s:((List UInt8)×(List ZJ)×Int×Int×(List UInt64)×Int×Int×Lock×ZJ)):Option (((List UInt8)×(List ZJ)×Int×Int×(List UInt64)×Int×Int×Lock×ZJ)⊕((List UInt8)×(List ZJ)×Int×Int×Lock×ZJ)):=
 if(decide (s.2.2.2.2.2.2.1 < s.2.2.2.2.2.1))=true then
  (idx s.2.2.2.2.1 s.2.2.2.2.2.2.1).bind λe163=>
  (ZbR F s.1 e163).bind λo164=>
  some (.inl (o164,s.2.1,s.2.2.1,s.2.2.2.1,s.2.2.2.2.1,s.2.2.2.2.2.1,wi (s.2.2.2.2.2.2.1+1),s.2.2.2.2.2.2.2.1,s.2.2.2.2.2.2.2.2))
 else
 some (.inr (s.1,s.2.1,s.2.2.1,s.2.2.2.1,s.2.2.2.2.2.2.2.1,s.2.2.2.2.2.2.2.2))
abbrev tL0:List Ty:=[(.sl .u8),(.sl Zo),yI,yI,(.sl .u64),yI,yI,Zn,Zo]
def ZmM:Lp:=⟨[(3,.v (.sl .u8)),(5,.ref 1 []),(16,.v (.sl Zo)),(17,.v yI),(18,.v yI),(28,.v (.sl .u64)),(29,.v yI),(30,.v yI)],[.var (.v Zn) true,.var (.v Zo) true],tL0,[⟨.exit 2,[(3,.v (.sl .u8)),(5,.ref 1 []),(16,.v (.sl Zo)),(17,.v yI),(18,.v yI)],[.var (.v Zn) true,.var (.v Zo) true],[(.sl .u8),(.sl Zo),yI,yI,Zn,Zo]⟩],Zb (QJ fuel) fuel⟩
def hi4:HI:={ still:=[2,8,13,22,25,34,35,38,40,41,43,44,46]}
theorem ZpT:ZmM.okA yc 49 1:=ZC hi4 [] [Zhu] ⟨ZkU,ytt⟩
def ZbS(F:Nat)(s:((List UInt8)×(List ZJ)×Int×Int×Lock)):Option (((List UInt8)×(List ZJ)×Int×Int×Lock)⊕((List UInt8)×Lock)):=
 if(decide (s.2.2.2.1 < s.2.2.1))=true then
  (idx s.2.1 s.2.2.2.1).bind λe161=>
  (WM F s.1 (e161.1.length:Int)).bind λo162=>
  (Zb (QJ F) F (o162,s.2.1,s.2.2.1,s.2.2.2.1,e161.1,(e161.1.length:Int),0,s.2.2.2.2,e161)).bind λo165=>
  (WM F o165.1 o165.2.2.2.2.2.2.1).bind λo166=>
  (WM F o166 o165.2.2.2.2.2.2.2.1).bind λo167=>
  (ZbR F o167 o165.2.2.2.2.2.2.2.2).bind λo168=>
  some (.inl (o168,o165.2.1,o165.2.2.1,wi (o165.2.2.2.1+1),o165.2.2.2.2.1))
 else
 some (.inr (s.1,s.2.2.2.2))
def ZmN:Lp:=⟨[(3,.v (.sl .u8)),(16,.v (.sl Zo)),(17,.v yI),(18,.v yI)],[.var (.v Zn) true],[(.sl .u8),(.sl Zo),yI,yI,Zn],[⟨.exit 0,[(3,.v (.sl .u8))],[.var (.v Zn) true],[(.sl .u8),Zn]⟩],Zb (ZbS fuel) fuel⟩
theorem ZpU:ZmN.okA yc 49 0:=ZC hi4 [(1,ZmM)] [ZcW,Zhu] ⟨ZdD,ZkU,ytt⟩ ⟨ZpT,ytt⟩
def VE(F:Nat)(a0:Lock):Option ((List UInt8)):=
 (YA F a0).bind λo159=>
 if(!o159)=true then
  some []
 else
 (WM F [] (a0.length:Int)).bind λo160=>
 (Zb (ZbS F) F (o160,a0,(a0.length:Int),0,a0)).bind λo169=>
 some o169.1
def Zhv(F:Nat):Fs yc:=⟨49,[.v Zn],[],[Zn],[⟨.ret,[(0,.v (.sl .u8))],[],[(.sl .u8)]⟩],λx=>VE F x⟩
def ZbT:Fs yc:=Zhv fuel
theorem Zat:ZbT.Ok:=fnO hi4 [(0,ZmN)] [WS,ZcW] ⟨Wl,ZdD,ytt⟩ ⟨ZpU,ytt⟩
def Ya(F:Nat)(a0:(List UInt8)):Option ((List UInt8)):=
 if(apB 0 a0.length 1)=true then
  some a0
 else
 none
def WI(F:Nat):Fs yc:=⟨149,[.sl true .u8],[],[(.sl .u8)],[⟨.ret,[(0,.v (.sl .u8))],[],[(.sl .u8)]⟩],λx=>Ya F x⟩
def Zhw:Fs yc:=WI fuel
theorem Zae:Zhw.Ok:=fnO { own:=[5,7],still:=[2]} [] [] trivial
def QK(F:Nat):Option ((List UInt8)):=
 some []
def Ze4:Fs yc:=⟨149,[.nil .u8],[],[],[⟨.ret,[(0,.v (.sl .u8))],[],[(.sl .u8)]⟩],λx=>QK fuel⟩
theorem Zeb:Ze4.Ok:=fnO { own:=[5,7],still:=[2]} [] [] trivial
def Wu:Fs yc:=⟨149,[.v (.sl .u8)],[],[(.sl .u8)],[⟨.ret,[(0,.v (.sl .u8))],[],[(.sl .u8)]⟩],λx=>Ya fuel x⟩
theorem Qk:Wu.Ok:=ZpJ (t:=.u8) (xs:=[⟨.ret,[(0,.v (.sl .u8))],[],[(.sl .u8)]⟩]) (MA:=λ(x:(List UInt8))=>Ya fuel x) (MB:=λ_=>QK fuel) Zae Zeb rfl
abbrev Zr:Ty:=(.st [(.sl .u8),.bool])
abbrev Zy:Type:=((List UInt8)×Bool)
abbrev Zy.b(x:Zy):(List UInt8):=x.1
abbrev Zy.no(x:Zy):Bool:=x.2
def ZiY(F:Nat)(a0:(List UInt8)):Option (Zy):=
 (Ya F a0).bind λo170=>
 some (o170,false)
def ZqQ:Fs yc:=⟨106,[.v (.sl .u8)],[],[(.sl .u8)],[⟨.ret,[(0,.ref 0 [])],[.var (.v Zr) true],[Zr]⟩],λx=>ZiY fuel x⟩
theorem Zxr:ZqQ.Ok:=fnO { still:=[2,3]} [] [Wu] ⟨Qk,ytt⟩
def Xm(F:Nat)(s:((List UInt8)×(List UInt8)×Int×Int)):Option (((List UInt8)×(List UInt8)×Int×Int)⊕(Bool⊕Unit)):=
 if(decide (s.2.2.2 < s.2.2.1))=true then
  (idx s.1 s.2.2.2).bind λe171=>
  (idx s.2.1 s.2.2.2).bind λe172=>
  if(e171 !=e172)=true then
   some (.inr (.inl false))
  else
  some (.inl (s.1,s.2.1,s.2.2.1,wi (s.2.2.2+1)))
 else
 some (.inr (.inr ()))
def Zaf:Lp:=⟨[(0,.v (.sl .u8)),(1,.v (.sl .u8)),(12,.v yI),(13,.v yI)],[],[(.sl .u8),(.sl .u8),yI,yI],[⟨.ret,[(4,.v .bool)],[],[.bool]⟩,⟨.exit 0,[],[],[]⟩],Zb (Xm fuel) fuel⟩
theorem Zec:Zaf.okA yc 109 0:=ZC { still:=[4]} [] [] trivial
def XW(F:Nat)(a0:(List UInt8))(a1:(List UInt8)):Option (Bool):=
 if((a0.length:Int)!=(a1.length:Int))=true then
  some false
 else
 (Zb (Xm F) F (a0,a1,(a0.length:Int),0)).bind λo173=>
 match o173 with
 |.inl o174=>
  some o174
 |.inr o175=>
  some true
def WJ(F:Nat):Fs yc:=⟨109,[.v (.sl .u8),.v (.sl .u8)],[],[(.sl .u8),(.sl .u8)],[⟨.ret,[(0,.v .bool)],[],[.bool]⟩],λx=>XW F x.1 x.2⟩
def Zau:Fs yc:=WJ fuel
theorem Zag:Zau.Ok:=fnO { still:=[4]} [(0,Zaf)] [] trivial ⟨Zec,ytt⟩
def XH(F:Nat)(s0:Int)(s2:Zy):Option ((Bool×Int×Zy)):=
 if(decide (s0 ≥ (s2.1.length:Int)))=true then
  some (true,s0,s2)
 else
 if(decide (s0 > 8))=true then
  some (true,s0,s2)
 else
 if(decide (s0 > 0))=true then
  (idx s2.1 s0).bind λe177=>
  some (e177==0,s0,s2)
 else
 some (false,s0,s2)
def Zeq:Fs yc:=⟨150,[.ref 0 [],.ref 1 []],[.var (.v yI) true,.var (.ref 2 []) true,.var (.v Zr) true],[yI,Zr],[⟨.ret,[(0,.v .bool)],[.var (.v yI) true,.var (.ref 2 []) true,.var (.v Zr) true],[.bool,yI,Zr]⟩],λx=>XH fuel x.1 x.2⟩
theorem ZkV:Zeq.Ok:=fnO { still:=[2]} [] [] trivial
def WV(F:Nat)(s0:Zy):Option (Zy):=
 some ([],true)
def Za7:Fs yc:=⟨151,[.ref 0 []],[.var (.v Zr) true],[Zr],[⟨.ret,[(0,.tup [])],[.var (.v Zr) true],[Zr]⟩],λx=>WV fuel x⟩
theorem Zer:Za7.Ok:=fnO {} [] [] trivial
def X5(F:Nat)(s:(Int×Zy×Int)):Option ((Int×Zy×Int)⊕((Int×Zy×Int)⊕(Int×Zy×Int))):=
 (XH F s.2.2 s.2.1).bind λo178=>
 if o178.1=true then
  (WV F o178.2.2).bind λo179=>
  some (.inr (.inl (0,o179,o178.2.1)))
 else
 (idx o178.2.2.1 o178.2.1).bind λe180=>
 if(decide (0≤wi (7*o178.2.1)))=true then
  let y181:Int:=wi (((e180 % 128).toNat:Int)*2 ^ (min (wi (7*o178.2.1)).toNat 64))
  if(decide (e180 < 128))=true then
   some (.inr (.inr (bits .or .i64 s.1 y181,o178.2.2,wi (o178.2.1+1))))
  else
  some (.inl (bits .or .i64 s.1 y181,o178.2.2,wi (o178.2.1+1)))
 else
 none
def ZfR:Lp:=⟨[(1,.ref 1 []),(3,.v yI),(4,.ref 2 []),(5,.fn 150 [.ref 2 [],.ref 1 []])],[.var (.v Zr) true,.var (.ref 0 []) true,.var (.v yI) true],[yI,Zr,yI],[⟨.ret,[(2,.v yI)],[.var (.v Zr) true,.var (.ref 0 []) true,.var (.v yI) true],[yI,Zr,yI]⟩,⟨.exit 0,[(1,.ref 1 []),(3,.v yI),(4,.ref 2 [])],[.var (.v Zr) true,.var (.ref 0 []) true,.var (.v yI) true],[yI,Zr,yI]⟩],Zb (X5 fuel) fuel⟩
theorem Zj1:ZfR.okA yc 107 0:=ZC { still:=[2,10]} [] [Zeq,Za7] ⟨ZkV,Zer,ytt⟩
def XI(F:Nat)(s0:Zy):Option ((Int×Zy)):=
 (Zb (X5 F) F (0,s0,0)).bind λo182=>
 match o182 with
 |.inl o183=>
  some (o183.1,o183.2.1)
 |.inr o184=>
  if(Zbt o184.2.1.1.length (some o184.2.2) none)=true then
   some (o184.1,(o184.2.1.1.drop o184.2.2.toNat,o184.2.1.2))
  else
  none
def ZbU:Fs yc:=⟨107,[.ref 0 []],[.var (.v Zr) true],[Zr],[⟨.ret,[(0,.v yI)],[.var (.v Zr) true],[yI,Zr]⟩],λx=>XI fuel x⟩
theorem ZfS:ZbU.Ok:=fnO { still:=[2,10]} [(0,ZfR)] [] trivial ⟨Zj1,ytt⟩
def Ql(F:Nat)(a1:Int)(s0:Zy):Option (((List UInt8)×Zy)):=
 if s0.2=true then
  (WV F s0).bind λo187=>
  some ([],o187)
 else
 if(decide (a1 > (s0.1.length:Int)))=true then
  (WV F s0).bind λo188=>
  some ([],o188)
 else
 if(Zbt s0.1.length none (some a1))=true then
  (Ya F (s0.1.take a1.toNat)).bind λo189=>
  if(Zbt s0.1.length (some a1) none)=true then
   some (o189,(s0.1.drop a1.toNat,s0.2))
  else
  none
 else
 none
def ZfT:Fs yc:=⟨152,[.ref 0 [],.v yI],[.var (.v Zr) true],[yI,Zr],[⟨.ret,[(0,.v (.sl .u8))],[.var (.v Zr) true],[(.sl .u8),Zr]⟩],λx=>Ql fuel x.1 x.2⟩
theorem Zmd:ZfT.Ok:=fnO { still:=[4,19,26]} [] [Za7,Wu] ⟨Zer,Qk,ytt⟩
def Vj(F:Nat)(s:(UInt64×(List UInt8)×Int×Int×Zy)):Option ((UInt64×(List UInt8)×Int×Int×Zy)⊕(UInt64×Zy)):=
 if(decide (s.2.2.2.1 < s.2.2.1))=true then
  (idx s.2.1 s.2.2.2.1).bind λe191=>
  some (.inl ((Qh s.1 8)|||(yad e191.toNat),s.2.1,s.2.2.1,wi (s.2.2.2.1+1),s.2.2.2.2))
 else
 some (.inr (s.1,s.2.2.2.2))
def ZfU:Lp:=⟨[(3,.v .u64),(7,.v (.sl .u8)),(8,.v yI),(9,.v yI)],[.var (.v Zr) true],[.u64,(.sl .u8),yI,yI,Zr],[⟨.exit 0,[(3,.v .u64)],[.var (.v Zr) true],[.u64,Zr]⟩],Zb (Vj fuel) fuel⟩
theorem Zj2:ZfU.okA yc 108 0:=ZC { still:=[2,6]} [] [] trivial
def Vz(F:Nat)(s0:Zy):Option ((UInt64×Zy)):=
 (Ql F 8 s0).bind λo190=>
 (Zb (Vj F) F (0,o190.1,(o190.1.length:Int),0,o190.2)).bind λo192=>
 some (o192.1,o192.2)
def ZbV:Fs yc:=⟨108,[.ref 0 []],[.var (.v Zr) true],[Zr],[⟨.ret,[(0,.v .u64)],[.var (.v Zr) true],[.u64,Zr]⟩],λx=>Vz fuel x⟩
theorem ZfV:ZbV.Ok:=fnO { still:=[2,6]} [(0,ZfU)] [ZfT] ⟨Zmd,ytt⟩ ⟨Zj2,ytt⟩
abbrev dT0:Type:=((List UInt8)×Int×Int×Int×Int×Lock×Zy×(List ZJ)×Int×Int×UInt64×(List UInt64))
def ZLk:List ESh:=[.var (.v Zn) true,.var (.v Zr) true,.var (.agg [.own 3 Zo]) true,.log Zo 126,.var (.agg [.own 5 .u64,.v yI,.v yI,.v .u64]) true,.log .u64 37]
abbrev tL1:List Ty:=[(.sl .u8),yI,yI,Zn,Zr,(.sl Zo),yI,yI,.u64,(.sl .u64)]
abbrev tL2:List Ty:=[(.sl .u8),yI,yI,yI,yI,Zn,Zr,(.sl Zo),yI,yI,.u64,(.sl .u64)]
def hi5:HI:={ own:=[31,35,48,51],still:=[3,10,12,19,32,38,40,44,53,57,58,59],ghost:=[(5,[([0],Zo,126)]),(8,[([0],.u64,37)])]}
def Zav(F:Nat)(s:dT0):Option (dT0⊕((List UInt8)×Int×Int×Lock×Zy×(List ZJ)×Int×Int×UInt64×(List UInt64))):=
 if(decide (s.2.2.2.2.1 < s.2.2.2.1))=true then
  (Vz F s.2.2.2.2.2.2.1).bind λo207=>
  if(apB s.2.2.2.2.2.2.2.2.2.2.2.length 1 8)=true then
   let y208:(List UInt64):=s.2.2.2.2.2.2.2.2.2.2.2++([o207.1]:List UInt64)
   some (.inl (s.1,s.2.1,s.2.2.1,s.2.2.2.1,wi (s.2.2.2.2.1+1),s.2.2.2.2.2.1,o207.2,s.2.2.2.2.2.2.2.1,s.2.2.2.2.2.2.2.2.1,s.2.2.2.2.2.2.2.2.2.1,s.2.2.2.2.2.2.2.2.2.2.1,y208))
  else
  none
 else
 some (.inr (s.1,s.2.1,s.2.2.1,s.2.2.2.2.2.1,s.2.2.2.2.2.2.1,s.2.2.2.2.2.2.2.1,s.2.2.2.2.2.2.2.2.1,s.2.2.2.2.2.2.2.2.2.1,s.2.2.2.2.2.2.2.2.2.2.1,s.2.2.2.2.2.2.2.2.2.2.2))
def ZoB:Lp:=⟨[(0,.v (.sl .u8)),(2,.ref 0 []),(4,.ref 1 []),(5,.ref 2 []),(6,.v yI),(7,.v yI),(8,.ref 4 []),(27,.v yI),(28,.v yI)],ZLk,tL2,[⟨.exit 2,[(0,.v (.sl .u8)),(2,.ref 0 []),(4,.ref 1 []),(5,.ref 2 []),(6,.v yI),(7,.v yI),(8,.ref 4 [])],ZLk,tL1⟩],Zb (Zav fuel) fuel⟩
theorem Zrp:ZoB.okA yc 51 1:=ZC hi5 [] [ZbV] ⟨ZfV,ytt⟩
def Zde(F:Nat)(s:((List UInt8)×Int×Int×Lock×Zy×(List ZJ))):Option (((List UInt8)×Int×Int×Lock×Zy×(List ZJ))⊕((List UInt8)×Lock×Zy×(List ZJ))):=
 if(decide (s.2.2.1 < s.2.1))=true then
  (XI F s.2.2.2.2.1).bind λo206=>
  if(s.2.2.1==4)=true then
   some (.inr (s.1,s.2.2.2.1,o206.2,s.2.2.2.2.2))
  else
  if(decide (o206.1 > 12))=true then
   some (.inr (s.1,s.2.2.2.1,o206.2,s.2.2.2.2.2))
  else
  (Zb (Zav F) F (s.1,s.2.1,s.2.2.1,o206.1,0,s.2.2.2.1,o206.2,s.2.2.2.2.2,0,0,0,[])).bind λo209=>
  (XI F o209.2.2.2.2.1).bind λo210=>
  (XI F o210.2).bind λo211=>
  (Vz F o211.2).bind λo212=>
  if(apB o209.2.2.2.2.2.1.length 1 48)=true then
   let y213:(List ZJ):=o209.2.2.2.2.2.1++([(o209.2.2.2.2.2.2.2.2.2,o210.1,o211.1,o212.1)]:List ZJ)
   some (.inl (o209.1,o209.2.1,wi (o209.2.2.1+1),o209.2.2.2.1,o212.2,y213))
  else
  none
 else
 some (.inr (s.1,s.2.2.2.1,s.2.2.2.2.1,s.2.2.2.2.2))
def ZoC:Lp:=⟨[(0,.v (.sl .u8)),(2,.ref 0 []),(4,.ref 1 []),(5,.ref 2 []),(6,.v yI),(7,.v yI)],[.var (.v Zn) true,.var (.v Zr) true,.var (.agg [.own 3 Zo]) true,.log Zo 126],[(.sl .u8),yI,yI,Zn,Zr,(.sl Zo)],[⟨.exit 0,[(0,.v (.sl .u8)),(2,.ref 0 []),(5,.ref 2 [])],[.var (.v Zn) true,.var (.v Zr) true,.var (.agg [.own 3 Zo]) true,.log Zo 126],[(.sl .u8),Zn,Zr,(.sl Zo)]⟩],Zb (Zde fuel) fuel⟩
theorem Zrq:ZoC.okA yc 51 0:=ZC hi5 [(1,ZoB)] [ZbU,ZbV] ⟨ZfS,ZfV,ytt⟩ ⟨Zrp,ytt⟩
def Za8(F:Nat)(a0:(List UInt8)):Option ((Lock×Bool)):=
 (ZiY F a0).bind λo204=>
 (XI F o204).bind λo205=>
 (Zb (Zde F) F (a0,o205.1,0,[],o205.2,[])).bind λo214=>
 (YA F o214.2.2.2).bind λo215=>
 if(!o215)=true then
  some ([],false)
 else
 (VE F o214.2.2.2).bind λo216=>
 (XW F o216 o214.1).bind λo217=>
 if(!o217)=true then
  some ([],false)
 else
 some (o214.2.2.2,true)
def ZiZ(F:Nat):Fs yc:=⟨51,[.v (.sl .u8)],[],[(.sl .u8)],[⟨.ret,[(0,.tup [.v Zn,.v .bool])],[],[Zn,.bool]⟩],λx=>Za8 F x⟩
def ZkW:Fs yc:=ZiZ fuel
theorem Zi0:ZkW.Ok:=fnO hi5 [(0,ZoC)] [ZqQ,ZbU,WS,ZbT,Zau] ⟨Zxr,ZfS,Wl,Zat,Zag,ytt⟩ ⟨Zrq,ytt⟩
def Ve(F:Nat)(a0:Lock):Option (Lock):=
 (VE F a0).bind λo218=>
 (Za8 F o218).bind λo219=>
 some o219.1
def Zed(F:Nat):Fs yc:=⟨41,[.v Zn],[],[Zn],[⟨.ret,[(0,.v Zn)],[],[Zn]⟩],λx=>Ve F x⟩
def ZfW:Fs yc:=Zed fuel
theorem Zee:ZfW.Ok:=fnO { still:=[6,7]} [] [ZbT,ZkW] ⟨Zat,Zi0,ytt⟩
def ZaQ(F:Nat)(a0:Out)(a1:Out):Option (Int):=
 some (wi (a0.1 - a1.1))
def Zib:Fs yc:=⟨55,[.v ZF,.v ZF],[],[ZF,ZF],[⟨.ret,[(0,.v yI)],[],[yI]⟩],λx=>ZaQ fuel x.1 x.2⟩
theorem ZoD:Zib.Ok:=fnO { still:=[4]} [] [] trivial
abbrev dT1:Type:=(Int×(List Int)×Int×ZE×State×(List Lock)×Tx×(List In)×Int×(List Unit)×(List Out))
def ZLl:List ESh:=[.var (.v Zf) true,.var (.v Zg) true,.var (.v (.arr 2 Zn)) true,.var (.v yTx) true,.var (.agg [.v (.sl yIn),.rw 5,.v yI]) true,.row ZF true 96]
abbrev tL3:List Ty:=[yI,(.arr 2 yI),yI,Zf,Zg,(.arr 2 Zn),yTx,(.sl yIn),yI,(.sl (.st [])),(.sl ZF)]
def X1(F:Nat)(s:(Int×Int×Int×Int×(List Unit)×(List Out))):Option ((Int×Int×Int×Int×(List Unit)×(List Out))⊕(Int×Int×Int×(List Unit)×(List Out))):=
 if(decide (s.2.2.2.1 > s.1))=true then
  if(inB s.2.2.2.1 s.2.2.2.2.2.length)=true then
   (s.2.2.2.2.2[s.2.2.2.1.toNat]?).bind λe242=>
   if(inB (wi (s.2.2.2.1 - 1)) s.2.2.2.2.2.length)=true then
    (s.2.2.2.2.2[(wi (s.2.2.2.1 - 1)).toNat]?).bind λe243=>
    (ZaQ F e242 e243).bind λo244=>
    if(decide (o244 < 0))=true then
     if(inB (wi (s.2.2.2.1 - 1)) s.2.2.2.2.2.length)=true then
      (s.2.2.2.2.2[(wi (s.2.2.2.1 - 1)).toNat]?).bind λe245=>
      if(inB s.2.2.2.1 s.2.2.2.2.2.length)=true then
       (s.2.2.2.2.2[s.2.2.2.1.toNat]?).bind λe246=>
       if(inB s.2.2.2.1 s.2.2.2.2.2.length)=true then
        (s.2.2.2.2.2[s.2.2.2.1.toNat]?).bind λe247=>
        if(inB (wi (s.2.2.2.1 - 1)) ((s.2.2.2.2.2.set s.2.2.2.1.toNat e245).length))=true then
         ((s.2.2.2.2.2.set s.2.2.2.1.toNat e245)[(wi (s.2.2.2.1 - 1)).toNat]?).bind λe248=>
         let y249:(List Out):=(s.2.2.2.2.2.set s.2.2.2.1.toNat e245).set ((wi (s.2.2.2.1 - 1)).toNat) e246
         some (.inl (s.1,s.2.1,s.2.2.1,wi (s.2.2.2.1 - 1),s.2.2.2.2.1,y249))
        else
        none
       else
       none
      else
      none
     else
     none
    else
    some (.inr (s.1,s.2.1,s.2.2.1,s.2.2.2.2.1,s.2.2.2.2.2))
   else
   none
  else
  none
 else
 some (.inr (s.1,s.2.1,s.2.2.1,s.2.2.2.2.1,s.2.2.2.2.2))
def ZkX:Lp:=⟨[(0,.rw 0),(1,.v yI),(2,.v yI),(3,.fn 55 []),(8,.v yI),(9,.v yI)],[.row ZF true 96],[yI,yI,yI,yI,(.sl (.st [])),(.sl ZF)],[⟨.exit 2,[(0,.rw 0),(1,.v yI),(2,.v yI),(3,.fn 55 []),(8,.v yI)],[.row ZF true 96],[yI,yI,yI,(.sl (.st [])),(.sl ZF)]⟩],Zb (X1 fuel) fuel⟩
def hi7:HI:={ still:=[26,31],rowt:=[0,37,39]}
theorem ZoE:ZkX.okA yc 153 1:=ZC hi7 [] [Zib] ⟨ZoD,ytt⟩
def X2(F:Nat)(s:(Int×Int×Int×(List Unit)×(List Out))):Option ((Int×Int×Int×(List Unit)×(List Out))⊕((List Unit)×(List Out))):=
 if(decide (s.2.2.1 < s.2.1))=true then
  (Zb (X1 F) F (s.1,s.2.1,s.2.2.1,s.2.2.1,s.2.2.2.1,s.2.2.2.2)).bind λo250=>
  some (.inl (o250.1,o250.2.1,wi (o250.2.2.1+1),o250.2.2.2.1,o250.2.2.2.2))
 else
 some (.inr (s.2.2.2.1,s.2.2.2.2))
def ZkY:Lp:=⟨[(0,.rw 0),(1,.v yI),(2,.v yI),(3,.fn 55 []),(8,.v yI)],[.row ZF true 96],[yI,yI,yI,(.sl (.st [])),(.sl ZF)],[⟨.exit 0,[],[.row ZF true 96],[(.sl (.st [])),(.sl ZF)]⟩],Zb (X2 fuel) fuel⟩
theorem ZoF:ZkY.okA yc 153 0:=ZC hi7 [(1,ZkX)] [] trivial ⟨ZoE,ytt⟩
def VO(F:Nat)(a1:Int)(a2:Int)(s0_0:(List Unit))(s0_1:(List Out)):Option (((List Unit)×(List Out))):=
 (Zb (X2 F) F (a1,a2,wi (a1+1),s0_0,s0_1)).bind λo251=>
 some (o251.1,o251.2)
def Zhx:Fs yc:=⟨153,[.rw 0,.v yI,.v yI,.fn 55 []],[.row ZF true 96],[yI,yI,(.sl (.st [])),(.sl ZF)],[⟨.ret,[(0,.tup [])],[.row ZF true 96],[(.sl (.st [])),(.sl ZF)]⟩],λx=>VO fuel x.1 x.2.1 x.2.2.1 x.2.2.2⟩
theorem ZkZ:Zhx.Ok:=fnO hi7 [(0,ZkY)] [] trivial ⟨ZoF,ytt⟩
def X3(F:Nat)(s:(Int×Int×Int×Int×(List Unit)×(List Out))):Option ((Int×Int×Int×Int×(List Unit)×(List Out))⊕(Int×Int×Int×(List Unit)×(List Out))):=
 if(decide (s.2.2.2.1≤s.1))=true then
  (VO F s.2.2.1 s.2.2.2.1 s.2.2.2.2.1 s.2.2.2.2.2).bind λo252=>
  if(decide (s.2.2.2.2.1.length=o252.1.length)&&(decide (2=2)&&decide ((yy s.2.2.2.2.2.length ()).length=o252.2.length)))=true then
   some (.inl (s.1,s.2.1,s.2.2.2.1,wi (s.2.2.2.1+s.2.1),o252.1,o252.2))
  else
  none
 else
 some (.inr (s.1,s.2.1,s.2.2.1,s.2.2.2.2.1,s.2.2.2.2.2))
def Zk0:Lp:=⟨[(0,.rw 0),(1,.v yI),(2,.fn 55 []),(6,.v yI),(7,.v yI),(8,.v yI)],[.row ZF true 96],[yI,yI,yI,yI,(.sl (.st [])),(.sl ZF)],[⟨.exit 0,[(0,.rw 0),(1,.v yI),(2,.fn 55 []),(6,.v yI),(7,.v yI)],[.row ZF true 96],[yI,yI,yI,(.sl (.st [])),(.sl ZF)]⟩],Zb (X3 fuel) fuel⟩
def hi8:HI:={ still:=[15,16,17,24,25,26,37,40,41,42,56,57,58,59],rowt:=[0,14,23,36,55]}
theorem ZoG:Zk0.okA yc 111 0:=ZiQ (fi:={ hi:=hi8,gh:=[(3,.freshS 0)]}) (specs:={ l:=[Zhx]}) (okS ⟨ZkZ,ytt⟩)
def ZjO(F:Nat)(s:(Int×Int×Int×Int×(List Unit)×(List Out))):Option ((Int×Int×Int×Int×(List Unit)×(List Out))⊕(Int×Int×Int×(List Unit)×(List Out))):=
 if(decide (s.2.2.2.1≤s.1))=true then
  none
 else
 some (.inr (s.1,s.2.1,s.2.2.1,s.2.2.2.2.1,s.2.2.2.2.2))
def Zk1:Lp:=⟨[(1,.v yI),(2,.fn 55 []),(6,.v yI),(7,.v yI),(8,.v yI)],[.row ZF true 96],[yI,yI,yI,yI,(.sl (.st [])),(.sl ZF)],[⟨.exit 4,[(1,.v yI),(2,.fn 55 []),(6,.v yI),(7,.v yI)],[.row ZF true 96],[yI,yI,yI,(.sl (.st [])),(.sl ZF)]⟩],Zb (ZjO fuel) fuel⟩
theorem ZoH:Zk1.okA yc 111 2:=ZC hi8 [] [] trivial
def ZaR(F:Nat)(s:(Int×Int×(List Unit)×(List Out))):Option ((Int×Int×(List Unit)×(List Out))⊕((List Unit)×(List Out))):=
 if(decide (s.2.1 < s.1))=true then
  (Zb (ZjO F) F (s.1,s.2.1,0,wi (2*s.2.1),s.2.2.1,s.2.2.2)).bind λo255=>
  if(decide ((wi (o255.2.2.1+o255.2.1)) < o255.1))=true then
   none
  else
  some (.inl (o255.1,wi (o255.2.1*2),o255.2.2.2.1,o255.2.2.2.2))
 else
 some (.inr (s.2.2.1,s.2.2.2))
def Zk2:Lp:=⟨[(0,.junk),(1,.v yI),(2,.fn 55 []),(6,.v yI)],[.row ZF true 96],[yI,yI,(.sl (.st [])),(.sl ZF)],[⟨.exit 2,[],[.row ZF true 96],[(.sl (.st [])),(.sl ZF)]⟩],Zb (ZaR fuel) fuel⟩
theorem ZoI:Zk2.okA yc 111 1:=ZC hi8 [(2,Zk1)] [] trivial ⟨ZoH,ytt⟩
def Zi1(F:Nat)(a1:Int)(s0_0:(List Unit))(s0_1:(List Out)):Option (((List Unit)×(List Out))):=
 (Zb (X3 F) F (a1,20,0,20,s0_0,s0_1)).bind λo253=>
 (VO F o253.2.2.1 o253.1 o253.2.2.2.1 o253.2.2.2.2).bind λo254=>
 (Zb (ZaR F) F (o253.1,o253.2.1,o254.1,o254.2)).bind λo256=>
 some (o256.1,o256.2)
def ZmO:Fs yc:=⟨111,[.rw 0,.v yI,.fn 55 []],[.row ZF true 96],[yI,(.sl (.st [])),(.sl ZF)],[⟨.ret,[(0,.tup [])],[.row ZF true 96],[(.sl (.st [])),(.sl ZF)]⟩],λx=>Zi1 fuel x.1 x.2.1 x.2.2⟩
theorem ZtA:ZmO.Ok:=fnO hi8 [(0,Zk0),(1,Zk2)] [Zhx] ⟨ZkZ,ytt⟩ ⟨ZoG,ZoI,ytt⟩
def ZoJ(F:Nat)(s0_0:(List Unit))(s0_1:(List Out)):Option (((List Unit)×(List Out))):=
 (Zi1 F (s0_1.length:Int) s0_0 s0_1).bind λo257=>
 some (o257.1,o257.2)
def ZvJ:Fs yc:=⟨54,[.rw 0,.fn 55 []],[.row ZF true 96],[(.sl (.st [])),(.sl ZF)],[⟨.ret,[(0,.tup [])],[.row ZF true 96],[(.sl (.st [])),(.sl ZF)]⟩],λx=>ZoJ fuel x.1 x.2⟩
theorem ZA8:ZvJ.Ok:=fnO { still:=[6,7],rowt:=[0,4]} [] [ZmO] ⟨ZtA,ytt⟩
def VA(F:Nat)(s:dT1):Option (dT1⊕(ZE×State×(List Lock)×Tx×(List In)×Int×(List Unit)×(List Out))):=
 if(decide (s.2.2.1 < 2))=true then
  (idx s.2.1 s.2.2.1).bind λe265=>
  if(s.2.2.1==s.2.2.2.1.2.2.2.2)=true then
   (s.2.2.2.1.2.2.2.1[0]?).bind λe266=>
   (WQ F e266 (wi (e265 - s.1))).bind λo267=>
   if o267=true then
    (s.2.2.2.1.2.2.2.1[1]?).bind λe268=>
    (WQ F e268 (wi (e265 - s.1))).bind λo269=>
    if o269=true then
     if(inB s.2.2.1 2)=true then
      (s.2.2.2.2.2.1[s.2.2.1.toNat]?).bind λe270=>
      (Ve F e270).bind λo271=>
      if(apB s.2.2.2.2.2.2.2.2.2.2.length 1 32)=true then
       let y272:(List Out):=s.2.2.2.2.2.2.2.2.2.2++([(wi (e265 - s.1),o271)]:List Out)
       some (.inl (s.1,s.2.1,wi (s.2.2.1+1),s.2.2.2.1,s.2.2.2.2.1,s.2.2.2.2.2.1,s.2.2.2.2.2.2.1,s.2.2.2.2.2.2.2.1,s.2.2.2.2.2.2.2.2.1,()::s.2.2.2.2.2.2.2.2.2.1,y272))
      else
      none
     else
     none
    else
    some (.inl (s.1,s.2.1,wi (s.2.2.1+1),s.2.2.2.1,s.2.2.2.2.1,s.2.2.2.2.2.1,s.2.2.2.2.2.2.1,s.2.2.2.2.2.2.2.1,s.2.2.2.2.2.2.2.2.1,s.2.2.2.2.2.2.2.2.2.1,s.2.2.2.2.2.2.2.2.2.2))
   else
   some (.inl (s.1,s.2.1,wi (s.2.2.1+1),s.2.2.2.1,s.2.2.2.2.1,s.2.2.2.2.2.1,s.2.2.2.2.2.2.1,s.2.2.2.2.2.2.2.1,s.2.2.2.2.2.2.2.2.1,s.2.2.2.2.2.2.2.2.2.1,s.2.2.2.2.2.2.2.2.2.2))
  else
  (s.2.2.2.1.2.2.2.1[0]?).bind λe273=>
  (WQ F e273 e265).bind λo274=>
  if o274=true then
   (s.2.2.2.1.2.2.2.1[1]?).bind λe275=>
   (WQ F e275 e265).bind λo276=>
   if o276=true then
    if(inB s.2.2.1 2)=true then
     (s.2.2.2.2.2.1[s.2.2.1.toNat]?).bind λe277=>
     (Ve F e277).bind λo278=>
     if(apB s.2.2.2.2.2.2.2.2.2.2.length 1 32)=true then
      let y279:(List Out):=s.2.2.2.2.2.2.2.2.2.2++([(e265,o278)]:List Out)
      some (.inl (s.1,s.2.1,wi (s.2.2.1+1),s.2.2.2.1,s.2.2.2.2.1,s.2.2.2.2.2.1,s.2.2.2.2.2.2.1,s.2.2.2.2.2.2.2.1,s.2.2.2.2.2.2.2.2.1,()::s.2.2.2.2.2.2.2.2.2.1,y279))
     else
     none
    else
    none
   else
   some (.inl (s.1,s.2.1,wi (s.2.2.1+1),s.2.2.2.1,s.2.2.2.2.1,s.2.2.2.2.2.1,s.2.2.2.2.2.2.1,s.2.2.2.2.2.2.2.1,s.2.2.2.2.2.2.2.2.1,s.2.2.2.2.2.2.2.2.2.1,s.2.2.2.2.2.2.2.2.2.2))
  else
  some (.inl (s.1,s.2.1,wi (s.2.2.1+1),s.2.2.2.1,s.2.2.2.2.1,s.2.2.2.2.2.1,s.2.2.2.2.2.2.1,s.2.2.2.2.2.2.2.1,s.2.2.2.2.2.2.2.2.1,s.2.2.2.2.2.2.2.2.2.1,s.2.2.2.2.2.2.2.2.2.2))
 else
 some (.inr (s.2.2.2.1,s.2.2.2.2.1,s.2.2.2.2.2.1,s.2.2.2.2.2.2.1,s.2.2.2.2.2.2.2.1,s.2.2.2.2.2.2.2.2.1,s.2.2.2.2.2.2.2.2.2.1,s.2.2.2.2.2.2.2.2.2.2))
def ZjP:Lp:=⟨[(3,.v yI),(4,.ref 0 []),(6,.ref 2 []),(8,.ref 3 []),(10,.ref 4 []),(46,.v (.arr 2 yI)),(47,.v yI)],ZLl,tL3,[⟨.exit 1,[(8,.ref 3 []),(10,.ref 4 [])],ZLl,[Zf,Zg,(.arr 2 Zn),yTx,(.sl yIn),yI,(.sl (.st [])),(.sl ZF)]⟩],Zb (VA fuel) fuel⟩
def hi9:HI:={ own:=[71,79],still:=[9,14,15,21,26,32,33,35,36,60,61,66,67,75],rowt:=[71,79,83]}
theorem Zns:ZjP.okA yc 18 0:=ZC hi9 [] [Zhl,ZfW] ⟨ZkI,Zee,ytt⟩
def closing_MakeM(F:Nat)(a0:ZE)(a1:State)(a2:(List Lock))(a3:Int):Option ((Tx×Int)):=
 (ZbP F a0 a1).bind λo259=>
 if(!o259)=true then
  some (([],[],0),14)
 else
 (a2[0]?).bind λe260=>
 (YA F e260).bind λo261=>
 if(!o261)=true then
  some (([],[],0),1)
 else
 (a2[1]?).bind λe262=>
 (YA F e262).bind λo263=>
 if(!o263)=true then
  some (([],[],0),1)
 else
 (YS F a0 a1 a0.2.2.2.2 a3).bind λo264=>
 if(!o264)=true then
  some (([],[],0),13)
 else
 (Zb (VA F) F (a3,a1.2.1,0,a0,a1,a2,([],[],0),[(a0.1,(0,[],0))],2097154,[],[])).bind λo280=>
 (ZoJ F o280.2.2.2.2.2.2.1 o280.2.2.2.2.2.2.2).bind λo281=>
 if(decide (o280.2.2.2.2.2.2.1.length=o281.1.length)&&(decide (2=2)&&decide ((yy o280.2.2.2.2.2.2.2.length ()).length=o281.2.length)))=true then
  some ((o280.2.2.2.2.1,o281.2,o280.2.2.2.2.2.1),0)
 else
 none
def Zef(F:Nat):Fs yc:=⟨18,[.v Zf,.v Zg,.v (.arr 2 Zn),.v yI],[],[Zf,Zg,(.arr 2 Zn),yI],[⟨.ret,[(0,.tup [.v yTx,.v yI])],[],[yTx,yI]⟩],λx=>closing_MakeM F x.1 x.2.1 x.2.2.1 x.2.2.2⟩
def Zk3:Fs yc:=Zef fuel
theorem ZjQ:Zk3.Ok:=Ztc (fi:={ hi:=hi9,lp:=[(0,ZjP)],gh:=[(10,.rowt 10 [1] ZF 96),(19,.freshDone 10 1)]}) (specs:={ l:=[Zhs,WS,ZbQ,ZvJ]}) (okS ⟨ZfQ,Wl,ZaO,ZA8,ytt⟩) ⟨Zns,ytt⟩
def ZdE(F:Nat)(a0:ZgZ):Option (Bool):=
 if(decide (a0.1 ≥ 0))=true then
  if(decide (a0.1 < 4))=true then
   some (decide ((a0.2.1.length:Int)≤12))
  else
  some false
 else
 some false
def ZoK:Fs yc:=⟨73,[.v QA],[],[QA],[⟨.ret,[(0,.v .bool)],[],[.bool]⟩],λx=>ZdE fuel x⟩
theorem ZuK:ZoK.Ok:=fnO { still:=[2]} [] [] trivial
def ZbW(F:Nat)(s:((List In)×Int×Int×Tx×(List (Zu×Bool)))):Option (((List In)×Int×Int×Tx×(List (Zu×Bool)))⊕((Bool×Tx×(List (Zu×Bool)))⊕(Tx×(List (Zu×Bool))))):=
 if(decide (s.2.2.1 < s.2.1))=true then
  (idx s.1 s.2.2.1).bind λe282=>
  Zvk (Zky s.2.2.2.2 e282.1) (λe283=>
   if e283=true then
    some (.inr (.inl (false,s.2.2.2.1,s.2.2.2.2)))
   else
   if(decide (e282.1.2 < 0))=true then
    some (.inr (.inl (false,s.2.2.2.1,s.2.2.2.2)))
   else
   if(decide (e282.1.2 ≥ 64))=true then
    some (.inr (.inl (false,s.2.2.2.1,s.2.2.2.2)))
   else
   (ZdE F e282.2).bind λo284=>
   if(!o284)=true then
    some (.inr (.inl (false,s.2.2.2.1,s.2.2.2.2)))
   else
   some (.inl (s.1,s.2.1,wi (s.2.2.1+1),s.2.2.2.1,Zwp s.2.2.2.2 e282.1 true))) (
   if(decide (e282.1.2 < 0))=true then
    some (.inr (.inl (false,s.2.2.2.1,s.2.2.2.2)))
   else
   if(decide (e282.1.2 ≥ 64))=true then
    some (.inr (.inl (false,s.2.2.2.1,s.2.2.2.2)))
   else
   (ZdE F e282.2).bind λo285=>
   if(!o285)=true then
    some (.inr (.inl (false,s.2.2.2.1,s.2.2.2.2)))
   else
   some (.inl (s.1,s.2.1,wi (s.2.2.1+1),s.2.2.2.1,Zwp s.2.2.2.2 e282.1 true)))
 else
 some (.inr (.inr (s.2.2.2.1,s.2.2.2.2)))
def ZqR:Lp:=⟨[(1,.ref 0 []),(3,.mp 1),(33,.v (.sl yIn)),(34,.v yI),(35,.v yI)],[.var (.v yTx) true,.map 161 Zj .bool],[(.sl yIn),yI,yI,yTx,(Qz Zj .bool)],[⟨.ret,[(2,.v .bool)],[.var (.v yTx) true,.map 161 Zj .bool],[.bool,yTx,(Qz Zj .bool)]⟩,⟨.exit 0,[(1,.ref 0 [])],[.var (.v yTx) true,.map 161 Zj .bool],[yTx,(Qz Zj .bool)]⟩],Zb (ZbW fuel) fuel⟩
theorem ZtB:ZqR.okA yc 25 0:=ZC { still:=[2,57,73,75,83]} [] [ZoK] ⟨ZuK,ytt⟩
def Ze5(F:Nat)(s:(Int×(List Out)×Int×Int×Tx×(List (Zu×Bool)))):Option ((Int×(List Out)×Int×Int×Tx×(List (Zu×Bool)))⊕((Bool×Tx×(List (Zu×Bool)))⊕(Tx×(List (Zu×Bool))))):=
 if(decide (s.2.2.2.1 < s.2.2.1))=true then
  (idx s.2.1 s.2.2.2.1).bind λe289=>
  (Zh6 F s.1 e289.1).bind λo290=>
  if(!o290.2)=true then
   some (.inr (.inl (false,s.2.2.2.2.1,s.2.2.2.2.2)))
  else
  (YA F e289.2).bind λo291=>
  if(!o291)=true then
   some (.inr (.inl (false,s.2.2.2.2.1,s.2.2.2.2.2)))
  else
  some (.inl (o290.1,s.2.1,s.2.2.1,wi (s.2.2.2.1+1),s.2.2.2.2.1,s.2.2.2.2.2))
 else
 some (.inr (.inr (s.2.2.2.2.1,s.2.2.2.2.2)))
def ZqS:Lp:=⟨[(6,.v yI),(66,.v (.sl ZF)),(67,.v yI),(68,.v yI)],[.var (.v yTx) true,.map 161 Zj .bool],[yI,(.sl ZF),yI,yI,yTx,(Qz Zj .bool)],[⟨.ret,[(2,.v .bool)],[.var (.v yTx) true,.map 161 Zj .bool],[.bool,yTx,(Qz Zj .bool)]⟩,⟨.exit 2,[],[.var (.v yTx) true,.map 161 Zj .bool],[yTx,(Qz Zj .bool)]⟩],Zb (Ze5 fuel) fuel⟩
theorem ZtC:ZqS.okA yc 25 1:=ZC { still:=[2,57,73,75,83]} [] [ZpO,WS] ⟨Ztu,Wl,ytt⟩
def Zbm(F:Nat)(a0:Tx):Option (Bool):=
 if(decide ((a0.1.length:Int) < 1))=true then
  some false
 else
 if(decide ((a0.1.length:Int) > 64))=true then
  some false
 else
 if(decide ((a0.2.1.length:Int) > 64))=true then
  some false
 else
 if(decide (a0.2.2 < 0))=true then
  some false
 else
 (Zb (ZbW F) F (a0.1,(a0.1.length:Int),0,a0,([]:List (Zu×Bool)))).bind λo286=>
 match o286 with
 |.inl o287=>
  some o287.1
 |.inr o288=>
  (Zb (Ze5 F) F (0,o288.1.2.1,(o288.1.2.1.length:Int),0,o288.1,o288.2)).bind λo292=>
  match o292 with
  |.inl o293=>
   some o293.1
  |.inr o294=>
   some true
def ZfX:Fs yc:=⟨25,[.v yTx],[],[yTx],[⟨.ret,[(0,.v .bool)],[],[.bool]⟩],λx=>Zbm fuel x⟩
theorem Zg6:ZfX.Ok:=fnO { still:=[2,57,73,75,83]} [(0,ZqR),(1,ZqS)] [] trivial ⟨ZtB,ZtC,ytt⟩
def Zk4(F:Nat):Option ((List UInt32)):=
 some [1779033703,3144134277,1013904242,2773480762,1359893119,2600822924,528734635,1541459225]
def ZoL:Fs yc:=⟨156,[],[],[],[⟨.ret,[(0,.v (.arr 8 .u32))],[],[(.arr 8 .u32)]⟩],λx=>Zk4 fuel⟩
theorem ZuL:ZoL.Ok:=fnO {} [] [] trivial
def ZS(F:Nat)(a0:UInt32)(a1:Int):Option (UInt32):=
 let y296:UInt32:=Zbi a0 (min (((w64 a1)&&&31).toNat:Int).toNat 32);let y297:UInt32:=Zeo a0 (min ((32 - ((w64 a1)&&&31)).toNat:Int).toNat 32)
 some (y296|||y297)
def Zam:Fs yc:=⟨177,[.v .u32,.v yI],[],[.u32,yI],[⟨.ret,[(0,.v .u32)],[],[.u32]⟩],λx=>ZS fuel x.1 x.2⟩
theorem ZdF:Zam.Ok:=fnO { still:=[4]} [] [] trivial
def Ze6(F:Nat)(a0:(List UInt8)):Option (UInt32):=
 (idx a0 0).bind λe298=>
 (idx a0 1).bind λe299=>
 let y300:UInt32:=(Zbi (ybs e298.toNat) 24)|||(Zbi (ybs e299.toNat) 16)
 (idx a0 2).bind λe301=>
 (idx a0 3).bind λe302=>
 let y303:UInt32:=(y300|||(Zbi (ybs e301.toNat) 8))|||(ybs e302.toNat)
 some y303
def ZmP:Fs yc:=⟨187,[.v (.sl .u8)],[],[(.sl .u8)],[⟨.ret,[(0,.v .u32)],[],[.u32]⟩],λx=>Ze6 fuel x⟩
theorem ZtD:ZmP.Ok:=fnO { still:=[2]} [] [] trivial
def Qm(F:Nat)(s:((List UInt8)×Int×(List UInt32))):Option (((List UInt8)×Int×(List UInt32))⊕(List UInt32)):=
 if(decide (s.2.1 < 64))=true then
  if(decide (s.2.1 < 16))=true then
   if(Zbt s.1.length (some (wi (4*s.2.1))) none)=true then
    (Ze6 F (s.1.drop ((wi (4*s.2.1)).toNat))).bind λo304=>
    if(inB s.2.1 64)=true then
     (s.2.2[s.2.1.toNat]?).bind λe305=>
     some (.inl (s.1,wi (s.2.1+1),s.2.2.set s.2.1.toNat o304))
    else
    none
   else
   none
  else
  if(inB (wi (s.2.1 - 15)) 64)=true then
   (s.2.2[(wi (s.2.1 - 15)).toNat]?).bind λe306=>
   if(inB (wi (s.2.1 - 2)) 64)=true then
    (s.2.2[(wi (s.2.1 - 2)).toNat]?).bind λe307=>
    (ZS F e306 (-7)).bind λo308=>
    (ZS F e306 (-18)).bind λo309=>
    (ZS F e307 (-17)).bind λo310=>
    (ZS F e307 (-19)).bind λo311=>
    if(inB (wi (s.2.1 - 16)) 64)=true then
     (s.2.2[(wi (s.2.1 - 16)).toNat]?).bind λe312=>
     if(inB (wi (s.2.1 - 7)) 64)=true then
      (s.2.2[(wi (s.2.1 - 7)).toNat]?).bind λe313=>
      let y314:UInt32:=(e312+((o308^^^o309)^^^(Zeo e306 3)))+e313
      if(inB s.2.1 64)=true then
       (s.2.2[s.2.1.toNat]?).bind λe315=>
       let y316:(List UInt32):=s.2.2.set s.2.1.toNat (y314+((o310^^^o311)^^^(Zeo e307 10)))
       some (.inl (s.1,wi (s.2.1+1),y316))
      else
      none
     else
     none
    else
    none
   else
   none
  else
  none
 else
 some (.inr s.2.2)
def Zic:Lp:=⟨[(0,.v (.sl .u8)),(2,.ref 0 []),(8,.v yI)],[.var (.v (.arr 64 .u32)) true],[(.sl .u8),yI,(.arr 64 .u32)],[⟨.exit 0,[(2,.ref 0 [])],[.var (.v (.arr 64 .u32)) true],[(.arr 64 .u32)]⟩],Zb (Qm fuel) fuel⟩
theorem Zme:Zic.okA yc 175 0:=ZC { still:=[17,28,30,36,38]} [] [ZmP,Zam] ⟨ZtD,ZdF,ytt⟩
def ZbX(F:Nat)(a0:(List UInt8)):Option ((List UInt32)):=
 (Zb (Qm F) F (a0,0,[0,0,0,0,0,0,0,0,0,0,0,0,0,0,0,0,0,0,0,0,0,0,0,0,0,0,0,0,0,0,0,0,0,0,0,0,0,0,0,0,0,0,0,0,0,0,0,0,0,0,0,0,0,0,0,0,0,0,0,0,0,0,0,0])).bind λo317=>
 some o317
def ZjR:Fs yc:=⟨175,[.v (.sl .u8)],[],[(.sl .u8)],[⟨.ret,[(0,.v (.arr 64 .u32))],[],[(.arr 64 .u32)]⟩],λx=>ZbX fuel x⟩
theorem ZpV:ZjR.Ok:=fnO { still:=[17,28,30,36,38]} [(0,Zic)] [] trivial ⟨Zme,ytt⟩
def Zk5(F:Nat):Option ((List UInt32)):=
 some [1116352408,1899447441,3049323471,3921009573,961987163,1508970993,2453635748,2870763221,3624381080,310598401,607225278,1426881987,1925078388,2162078206,2614888103,3248222580,3835390401,4022224774,264347078,604807628,770255983,1249150122,1555081692,1996064986,2554220882,2821834349,2952996808,3210313671,3336571891,3584528711,113926993,338241895,666307205,773529912,1294757372,1396182291,1695183700,1986661051,2177026350,2456956037,2730485921,2820302411,3259730800,3345764771,3516065817,3600352804,4094571909,275423344,430227734,506948616,659060556,883997877,958139571,1322822218,1537002063,1747873779,1955562222,2024104815,2227730452,2361852424,2428436474,2756734187,3204031479,3329325298]
def ZoM:Fs yc:=⟨176,[],[],[],[⟨.ret,[(0,.v (.arr 64 .u32))],[],[(.arr 64 .u32)]⟩],λx=>Zk5 fuel⟩
theorem ZuM:ZoM.Ok:=fnO {} [] [] trivial
def VP(F:Nat)(s:(Int×(List UInt32)×(List UInt32)×(List UInt32)×(List UInt32)×(List UInt32))):Option ((Int×(List UInt32)×(List UInt32)×(List UInt32)×(List UInt32)×(List UInt32))⊕((List UInt32)×(List UInt32)×(List UInt32)×(List UInt32)×(List UInt32))):=
 if(decide (s.1 < 64))=true then
  (s.2.2.2.2.2[4]?).bind λe320=>
  (ZS F e320 (-6)).bind λo321=>
  (s.2.2.2.2.2[4]?).bind λe322=>
  (ZS F e322 (-11)).bind λo323=>
  (s.2.2.2.2.2[4]?).bind λe324=>
  (ZS F e324 (-25)).bind λo325=>
  (s.2.2.2.2.2[7]?).bind λe326=>
  (s.2.2.2.2.2[6]?).bind λe327=>
  (s.2.2.2.2.2[4]?).bind λe328=>
  (s.2.2.2.2.2[5]?).bind λe329=>
  (s.2.2.2.2.2[6]?).bind λe330=>
  let y331:UInt32:=(e326+((o321^^^o323)^^^o325))+(e327^^^(e328&&&(e329^^^e330)))
  if(inB s.1 64)=true then
   (s.2.2.2.2.1[s.1.toNat]?).bind λe332=>
   if(inB s.1 64)=true then
    (s.2.2.2.1[s.1.toNat]?).bind λe333=>
    (s.2.2.2.2.2[0]?).bind λe334=>
    (ZS F e334 (-2)).bind λo335=>
    (s.2.2.2.2.2[0]?).bind λe336=>
    (ZS F e336 (-13)).bind λo337=>
    (s.2.2.2.2.2[0]?).bind λe338=>
    (ZS F e338 (-22)).bind λo339=>
    (s.2.2.2.2.2[0]?).bind λe340=>
    (s.2.2.2.2.2[1]?).bind λe341=>
    (s.2.2.2.2.2[2]?).bind λe342=>
    (s.2.2.2.2.2[0]?).bind λe343=>
    (s.2.2.2.2.2[1]?).bind λe344=>
    let y345:UInt32:=((y331+e332)+e333)+((o335^^^o337)^^^o339);let y346:UInt32:=y345+((e340&&&e341)|||(e342&&&(e343|||e344)))
    (s.2.2.2.2.2[0]?).bind λe347=>
    (s.2.2.2.2.2[1]?).bind λe348=>
    (s.2.2.2.2.2[2]?).bind λe349=>
    (s.2.2.2.2.2[3]?).bind λe350=>
    (s.2.2.2.2.2[4]?).bind λe351=>
    (s.2.2.2.2.2[5]?).bind λe352=>
    (s.2.2.2.2.2[6]?).bind λe353=>
    some (.inl (wi (s.1+1),s.2.1,s.2.2.1,s.2.2.2.1,s.2.2.2.2.1,[y346,e347,e348,e349,e350+((y331+e332)+e333),e351,e352,e353]))
   else
   none
  else
  none
 else
 some (.inr (s.2.1,s.2.2.1,s.2.2.2.1,s.2.2.2.2.1,s.2.2.2.2.2))
def ZIg:List ESh:=[.var (.v (.arr 8 .u32)) true,.var (.v (.arr 8 .u32)) true,.var (.v (.arr 64 .u32)) true,.var (.v (.arr 64 .u32)) true,.var (.v (.arr 8 .u32)) true]
def Zg7:Lp:=⟨[(2,.ref 0 []),(4,.ref 1 []),(5,.ref 2 []),(6,.ref 3 []),(7,.ref 4 []),(18,.v yI)],ZIg,[yI,(.arr 8 .u32),(.arr 8 .u32),(.arr 64 .u32),(.arr 64 .u32),(.arr 8 .u32)],[⟨.exit 0,[(2,.ref 0 []),(4,.ref 1 []),(7,.ref 4 [])],ZIg,[(.arr 8 .u32),(.arr 8 .u32),(.arr 64 .u32),(.arr 64 .u32),(.arr 8 .u32)]⟩],Zb (VP fuel) fuel⟩
def ZKf:HI:={ still:=[14,22,25,29,57,60,64]}
theorem Zk6:Zg7.okA yc 157 0:=ZC ZKf [] [Zam] ⟨ZdF,ytt⟩
def VQ(F:Nat)(s:(Int×(List UInt32)×(List UInt32)×(List UInt32)×(List UInt32)×(List UInt32))):Option ((Int×(List UInt32)×(List UInt32)×(List UInt32)×(List UInt32)×(List UInt32))⊕((List UInt32)×(List UInt32)×(List UInt32)×(List UInt32)×(List UInt32))):=
 if(decide (s.1 < 8))=true then
  if(inB s.1 8)=true then
   (s.2.2.2.2.2[s.1.toNat]?).bind λe355=>
   if(inB s.1 8)=true then
    (s.2.1[s.1.toNat]?).bind λe356=>
    if(inB s.1 8)=true then
     (s.2.2.2.2.2[s.1.toNat]?).bind λe357=>
     some (.inl (wi (s.1+1),s.2.1,s.2.2.1,s.2.2.2.1,s.2.2.2.2.1,s.2.2.2.2.2.set s.1.toNat (e355+e356)))
    else
    none
   else
   none
  else
  none
 else
 some (.inr (s.2.1,s.2.2.1,s.2.2.2.1,s.2.2.2.2.1,s.2.2.2.2.2))
def Zg8:Lp:=⟨[(2,.ref 0 []),(4,.ref 1 []),(7,.ref 4 []),(104,.v yI)],ZIg,[yI,(.arr 8 .u32),(.arr 8 .u32),(.arr 64 .u32),(.arr 64 .u32),(.arr 8 .u32)],[⟨.exit 2,[(4,.ref 1 []),(7,.ref 4 [])],ZIg,[(.arr 8 .u32),(.arr 8 .u32),(.arr 64 .u32),(.arr 64 .u32),(.arr 8 .u32)]⟩],Zb (VQ fuel) fuel⟩
theorem Zk7:Zg8.okA yc 157 1:=ZC ZKf [] [] trivial
def V4(F:Nat)(a0:(List UInt32))(a1:(List UInt8)):Option ((List UInt32)):=
 (ZbX F a1).bind λo318=>
 (Zk5 F).bind λo319=>
 (Zb (VP F) F (0,a0,[0,0,0,0,0,0,0,0],o318,o319,a0)).bind λo354=>
 (Zb (VQ F) F (0,o354.1,o354.2.1,o354.2.2.1,o354.2.2.2.1,o354.2.2.2.2)).bind λo358=>
 some o358.2.2.2.2
def ZcX:Fs yc:=⟨157,[.v (.arr 8 .u32),.v (.sl .u8)],[],[(.arr 8 .u32),(.sl .u8)],[⟨.ret,[(0,.v (.arr 8 .u32))],[],[(.arr 8 .u32)]⟩],λx=>V4 fuel x.1 x.2⟩
theorem Zg9:ZcX.Ok:=fnO ZKf [(0,Zg7),(1,Zg8)] [ZjR,ZoM] ⟨ZpV,ZuM,ytt⟩ ⟨Zk6,Zk7,ytt⟩
def Yb(F:Nat)(a0:(List UInt8)):Option ((List UInt8)):=
 if(apB 0 a0.length 1)=true then
  some a0
 else
 none
def Ze7:Fs yc:=⟨149,[.sl true .u8],[],[(.sl .u8)],[⟨.ret,[(0,.own 0 .u8)],[.log .u8 5],[(.sl .u8)]⟩],λx=>Yb fuel x⟩
theorem Zeg:Ze7.Ok:=fnO { own:=[2,5,7]} [] [] trivial
def QL(F:Nat):Option ((List UInt8)):=
 some []
def Ze8:Fs yc:=⟨149,[.nil .u8],[],[],[⟨.ret,[(0,.own 0 .u8)],[.log .u8 5],[(.sl .u8)]⟩],λx=>QL fuel⟩
theorem Zeh:Ze8.Ok:=fnO { own:=[2,5,7]} [] [] trivial
def VF:Fs yc:=⟨149,[.v (.sl .u8)],[],[(.sl .u8)],[⟨.ret,[(0,.own 0 .u8)],[.log .u8 5],[(.sl .u8)]⟩],λx=>Yb fuel x⟩
theorem ZcY:VF.Ok:=ZpJ (t:=.u8) (xs:=[⟨.ret,[(0,.own 0 .u8)],[.log .u8 5],[(.sl .u8)]⟩]) (MA:=λ(x:(List UInt8))=>Yb fuel x) (MB:=λ_=>QL fuel) Zeg Zeh rfl
def Zdf(F:Nat)(s:((List UInt8)×(List UInt8)×(List UInt8))):Option (((List UInt8)×(List UInt8)×(List UInt8))⊕((List UInt8)×(List UInt8)×(List UInt8))):=
 if((yaw (s.2.2.length:Int) 64)!=56)=true then
  if(apB s.2.2.length 1 1)=true then
   some (.inl (s.1,s.2.1,s.2.2++([0]:List UInt8)))
  else
  none
 else
 some (.inr (s.1,s.2.1,s.2.2))
def ZoN:Lp:=⟨[(0,.v (.sl .u8)),(2,.ref 0 []),(3,.own 1 .u8)],[.var (.v (.arr 32 .u8)) true,.log .u8 5],[(.sl .u8),(.arr 32 .u8),(.sl .u8)],[⟨.exit 0,[(0,.v (.sl .u8)),(2,.ref 0 []),(3,.own 1 .u8)],[.var (.v (.arr 32 .u8)) true,.log .u8 5],[(.sl .u8),(.arr 32 .u8),(.sl .u8)]⟩],Zb (Zdf fuel) fuel⟩
def ZGi:HI:={ own:=[3,14,16,21,23,24,28,43],still:=[13,24,27,35,37,44,46]}
theorem Zrr:ZoN.okA yc 117 0:=ZC ZGi [] [] trivial
def Q8(F:Nat)(s:(Int×Int×(List UInt8)×(List UInt8))):Option ((Int×Int×(List UInt8)×(List UInt8))⊕((List UInt8)×(List UInt8))):=
 if(decide (s.2.1 ≥ 0))=true then
  if(decide (0≤s.2.1))=true then
   if(apB s.2.2.1.length 1 1)=true then
    let y362:(List UInt8):=s.2.2.1++([w8 (Int.fdiv s.1 (2 ^ (min s.2.1.toNat 64)))]:List UInt8)
    some (.inl (s.1,wi (s.2.1 - 8),y362,s.2.2.2))
   else
   none
  else
  none
 else
 some (.inr (s.2.2.1,s.2.2.2))
def ZjS:Lp:=⟨[(0,.own 0 .u8),(1,.v yI),(5,.v yI)],[.log .u8 5,.log .u8 5],[yI,yI,(.sl .u8),(.sl .u8)],[⟨.exit 0,[(0,.own 0 .u8)],[.log .u8 5,.log .u8 5],[(.sl .u8),(.sl .u8)]⟩],Zb (Q8 fuel) fuel⟩
theorem Znt:ZjS.okA yc 116 0:=ZC { own:=[0,4,10,16,17]} [] [] trivial
def Vf(F:Nat)(a1:Int)(s0:(List UInt8)):Option ((List UInt8)):=
 (Zb (Q8 F) F (a1,56,s0,[])).bind λo363=>
 some o363.1
def QM:Fs yc:=⟨116,[.own 0 .u8,.v yI],[.log .u8 5],[yI,(.sl .u8)],[⟨.ret,[(0,.own 0 .u8)],[.log .u8 5],[(.sl .u8)]⟩],λx=>Vf fuel x.1 x.2⟩
theorem Zei:QM.Ok:=fnO { own:=[0,4,10,16,17]} [(0,ZjS)] [] trivial ⟨Znt,ytt⟩
def Zdg(F:Nat)(s:((List UInt8)×(List UInt8)×(List UInt8)×(List UInt32))):Option (((List UInt8)×(List UInt8)×(List UInt8)×(List UInt32))⊕((List UInt8)×(List UInt8)×(List UInt32))):=
 if(decide ((s.1.length:Int) ≥ 64))=true then
  if(Zbt s.1.length none (some 64))=true then
   (V4 F s.2.2.2 (s.1.take 64)).bind λo366=>
   if(Zbt s.1.length (some 64) none)=true then
    some (.inl (s.1.drop 64,s.2.1,s.2.2.1,o366))
   else
   none
  else
  none
 else
 some (.inr (s.2.1,s.2.2.1,s.2.2.2))
def ZoO:Lp:=⟨[(0,.v (.sl .u8)),(2,.ref 0 []),(3,.own 1 .u8),(4,.ref 2 [])],[.var (.v (.arr 32 .u8)) true,.log .u8 5,.var (.v (.arr 8 .u32)) true],[(.sl .u8),(.arr 32 .u8),(.sl .u8),(.arr 8 .u32)],[⟨.exit 2,[(2,.ref 0 []),(3,.own 1 .u8),(4,.ref 2 [])],[.var (.v (.arr 32 .u8)) true,.log .u8 5,.var (.v (.arr 8 .u32)) true],[(.arr 32 .u8),(.sl .u8),(.arr 8 .u32)]⟩],Zb (Zdg fuel) fuel⟩
theorem Zrs:ZoO.okA yc 117 1:=ZC ZGi [] [ZcX] ⟨Zg9,ytt⟩
def Zdh(F:Nat)(s:((List UInt8)×(List UInt8)×(List UInt8)×(List UInt32))):Option (((List UInt8)×(List UInt8)×(List UInt8)×(List UInt32))⊕((List UInt8)×(List UInt8)×(List UInt32))):=
 if(decide ((s.1.length:Int) > 0))=true then
  if(Zbt s.1.length none (some 64))=true then
   (V4 F s.2.2.2 (s.1.take 64)).bind λo369=>
   if(Zbt s.1.length (some 64) none)=true then
    some (.inl (s.1.drop 64,s.2.1,s.2.2.1,o369))
   else
   none
  else
  none
 else
 some (.inr (s.2.1,s.2.2.1,s.2.2.2))
def ZoP:Lp:=⟨[(2,.ref 0 []),(3,.v (.sl .u8)),(4,.ref 2 [])],[.var (.v (.arr 32 .u8)) true,.log .u8 5,.var (.v (.arr 8 .u32)) true],[(.sl .u8),(.arr 32 .u8),(.sl .u8),(.arr 8 .u32)],[⟨.exit 4,[(2,.ref 0 []),(4,.ref 2 [])],[.var (.v (.arr 32 .u8)) true,.log .u8 5,.var (.v (.arr 8 .u32)) true],[(.arr 32 .u8),(.sl .u8),(.arr 8 .u32)]⟩],Zb (Zdh fuel) fuel⟩
theorem Zrt:ZoP.okA yc 117 2:=ZC ZGi [] [ZcX] ⟨Zg9,ytt⟩
def Zdi(F:Nat)(s:(Int×(List UInt8)×(List UInt8)×(List UInt32))):Option ((Int×(List UInt8)×(List UInt8)×(List UInt32))⊕((List UInt8)×(List UInt8)×(List UInt32))):=
 if(decide (s.1 < 32))=true then
  if(inB (wi (Int.tdiv s.1 4)) 8)=true then
   (s.2.2.2[(wi (Int.tdiv s.1 4)).toNat]?).bind λe371=>
   if(decide (0≤wi (24 - (wi (8*(yaw s.1 4))))))=true then
    let y372:UInt32:=Zeo e371 (min (wi (24 - (wi (8*(yaw s.1 4))))).toNat 32)
    if(inB s.1 32)=true then
     (s.2.1[s.1.toNat]?).bind λe373=>
     some (.inl (wi (s.1+1),s.2.1.set s.1.toNat (w8 (y372.toNat:Int)),s.2.2.1,s.2.2.2))
    else
    none
   else
   none
  else
  none
 else
 some (.inr (s.2.1,s.2.2.1,s.2.2.2))
def ZoQ:Lp:=⟨[(2,.ref 0 []),(4,.ref 2 []),(48,.v yI)],[.var (.v (.arr 32 .u8)) true,.log .u8 5,.var (.v (.arr 8 .u32)) true],[yI,(.arr 32 .u8),(.sl .u8),(.arr 8 .u32)],[⟨.exit 6,[(2,.ref 0 [])],[.var (.v (.arr 32 .u8)) true,.log .u8 5,.var (.v (.arr 8 .u32)) true],[(.arr 32 .u8),(.sl .u8),(.arr 8 .u32)]⟩],Zb (Zdi fuel) fuel⟩
theorem Zru:ZoQ.okA yc 117 3:=ZC ZGi [] [] trivial
def ZfY(F:Nat)(a0:(List UInt8)):Option ((List UInt8)):=
 let y359:Int:=wi ((a0.length:Int) - (yaw (a0.length:Int) 64))
 if(Zbt a0.length (some y359) none)=true then
  (Yb F (a0.drop y359.toNat)).bind λo360=>
  if(apB o360.length 1 1)=true then
   (Zb (Zdf F) F (a0,yzz,o360++([128]:List UInt8))).bind λo361=>
   (Vf F (wi (8*(o361.1.length:Int))) o361.2.2).bind λo364=>
   (Zk4 F).bind λo365=>
   (Zb (Zdg F) F (o361.1,o361.2.1,o364,o365)).bind λo367=>
   (Zb (Zdh F) F (o367.2.1,o367.1,o367.2.1,o367.2.2)).bind λo370=>
   (Zb (Zdi F) F (0,o370.1,o370.2.1,o370.2.2)).bind λo374=>
   some o374.1
  else
  none
 else
 none
def Zi2(F:Nat):Fs yc:=⟨117,[.v (.sl .u8)],[],[(.sl .u8)],[⟨.ret,[(0,.v (.arr 32 .u8))],[],[(.arr 32 .u8)]⟩],λx=>ZfY F x⟩
def Zzo:Fs yc:=Zi2 fuel
theorem Zxs:Zzo.Ok:=fnO ZGi [(0,ZoN),(1,ZoO),(2,ZoP),(3,ZoQ)] [QM,VF,ZoL] ⟨Zei,ZcY,ZuL,ytt⟩ ⟨Zrr,Zrs,Zrt,Zru,ytt⟩
end
end Go.Proofs.YtmkgbalfkhaflaaGreat
end
