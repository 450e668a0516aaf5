/- Parts of the proof, in one file. -/
import Derived.Test.YtmkgbalfkhaflaaGreatKd
open Bool renaming and_eq_true → yj
open Go renaming TypeId → yb, Program → yg, Value → yh, FuncId → yv
open Go.Proofs.Tryz renaming prog → yc
open Int renaming tmod → yar
open List renaming length_append → yp, getElem?_eq_some_iff → yr, range → yw, replicate → yy, length_map → yz, getElem?_eq_getElem → yac, map_cons → yaf, length_cons → yag, getElem?_append_left → yan, getElem?_eq_none → yao, getElem?_cons_succ → yap, getElem?_append_right → yat, mem_cons_self → yav, mem_cons_of_mem → yaw, map_append → yax, map_map → ybc, mem_cons → ybg, append_nil → ybh, map_congr_left → ycj, length_replicate → ycp, not_mem_nil → yct, getD_eq_getElem?_getD → ycx
open Nat renaming le_refl → yn, add → yu, shiftRight → yae, mod_eq_of_lt → yah, add_mul → yay, mod_lt → ybb, zero_add → ybe, mul_comm → ybi, mul_le_mul_right → ybx, lt_or_ge → yca, eq_zero_or_pos → ycc, lt_of_le_of_lt → ycu, two_pow_add_eq_or_of_lt → ycy, shiftRight_eq_div_pow → ydc
open Option renaming bind_some → ya, bind_eq_some_iff → yf, map_eq_some_iff → yq, map_some → yab
open Option.some renaming inj → ybm
open UInt32 renaming ofNat → ybs
open UInt64 renaming ofNat → yad, toNat_ofNat' → yba, toNat_lt → ybr, lt_iff_toNat_lt → ybz, le_iff_toNat_le → ycs
open UInt8 renaming toNat → yak, ofNat → yau
set_option linter.unusedVariables false
set_option linter.unusedSimpArgs false
section
namespace Go.Ev
def Zc{I X:Type}(step:I→Option (I⊕X)):Nat→I→Option X
 |0,_=>none
 |n+1,i=>(step i).bind λr=>match r with
  |.inl j=>Zc step n j
  |.inr x=>some x
theorem ZFc:∃n:Nat,n=18446744073709551616:=⟨_,rfl⟩
noncomputable def fuel:Nat:=Classical.choose ZFc
theorem ZcL:fuel=18446744073709551616:=Classical.choose_spec ZFc
section
variable{P:yg}
def ZFd(n0:Nat)(ex:Ex)(a:List TD)(h:List TEnt):(l:List XSh)→Option (XSh.sum l)
 |[]=>none
 |[e]=>if ex=e.ex then(Zwz n0 e.sl e.es a h).bind λvs=>toD e.ty vs else none
 |e::f::r=>match (if ex=e.ex then(Zwz n0 e.sl e.es a h).bind λvs=>toD e.ty vs else none) with
  |some x=>some (Sum.inl x:Ty.dens e.ty⊕XSh.sum (f::r))
  |none=>(ZFd n0 ex a h (f::r)).map λx=>(Sum.inr x:Ty.dens e.ty⊕XSh.sum (f::r))
theorem Zo1{n0:Nat}{ex:Ex}{a:List TD}{h:List TEnt}:∀{l:List XSh}{o:XSh.sum l},ZFd n0 ex a h l=some o→∀e vs,Zyh l o e vs→ex=e.ex∧Zwz n0 e.sl e.es a h=some vs
 |[],_,k,_,_,_=>by cases k
 |[e],o,k,x,vs,hs=>by
  obtain⟨rfl,rfl⟩:=hs;have k:(if ex=x.ex then(Zwz n0 x.sl x.es a h).bind λvs=>toD x.ty vs else none)=some o:=k
  split at k
  ·rename_i he;obtain⟨ws,h1,h2⟩:=yf.1 k;exact⟨he,by rw[h1,ZcK _ _ _ h2]⟩
  ·cases k
 |e::f::r,o,k,x,vs,hs=>by
  simp only[ZFd] at k;split at k
  ·rename_i y hy;cases k;obtain⟨rfl,rfl⟩:=hs;split at hy
   ·rename_i he;obtain⟨ws,h1,h2⟩:=yf.1 hy;exact⟨he,by rw[h1,ZcK _ _ _ h2]⟩
   ·cases hy
  ·obtain⟨y,h1,h2⟩:=Zb k;subst h2;exact Zo1 h1 x vs hs
def ZuV(P:yg)(fi:FI)(specs:Sp P)(body:Code)(n N:Nat)(sl:Slots)(es:List ESh)(I:List Ty)(xs:List XSh):Ty.dens I→Option (Ty.dens I⊕XSh.sum xs):=λv=>
 (VQ N sl es (ofD I v)).bind λs=>evT P fi specs body (n+1) 0 s.1 s.2 λex a h=>match ex with
   |.normal=>(Zwz s.2.length sl es a h).bind λvs=>(toD I vs).map .inl
   |ex=>(ZFd s.2.length ex a h xs).map .inr
theorem ZFe{fi:FI}{specs:Sp P}{body:Code}{n N:Nat}{sl:Slots}{es:List ESh}{I:List Ty}{xs:List XSh}(ok:SpOk specs)(hl:Zj7 P fi N body (n+1))(hb0:Zjc P fi N body 0):
 ∀(f:Nat)(v:Ty.dens I)(o:XSh.sum xs),Zc (ZuV P fi specs body n N sl es I xs) f v=some o→∀s,VQ N sl es (ofD I v)=some s→∀e vs s',Zyh xs o e vs→VQ N e.sl e.es vs=some s'→
  Zuw P body (TD.ers (lk s.2) s.1) (erH s.2) e.ex (TD.ers (lk s'.2) s'.1) (erH s'.2)
 |0,_,_,h,_,_,_,_,_,_,_=>by cases h
 |f+1,v,o,h,s,hs,e,vs,s',hx,hs'=>by
  unfold Zc at h;obtain⟨r,h1,h2⟩:=yf.1 h;unfold ZuV at h1;rw[hs,ya] at h1;obtain⟨ex,a,h3,k1,k2,k3⟩:=Wl ok body _ _ _ _ _ (ZhB hs) hl hb0 h1;split at k1
  ·obtain⟨ws,g1,k1⟩:=yf.1 k1;obtain⟨w,g2,rfl⟩:=Zb k1;obtain⟨a3,h4,g3,g4⟩:=ZoZ (P:=P) g1;rw[k2] at g3;have r1:=g4 (ZO _) k3;have:=ZFe ok hl hb0 f w o h2 (a3,h4) (by rw[ZcK _ _ _ g2];exact g3) e vs s' hx hs';exact Zuy [] r1 this
  ·rename_i hne;obtain⟨w,g2,rfl⟩:=Zb k1;cases h2;obtain⟨g5,g6⟩:=Zo1 g2 e vs hx;obtain⟨a3,h4,g3,g4⟩:=ZoZ (P:=P) g6;rw[k2,hs'] at g3;cases g3;subst g5;exact Zux hne (g4 (ZO _) k3)
theorem ZJ8{fi:FI}{specs:Sp P}{body:Code}{n N:Nat}{sl:Slots}{es:List ESh}{I:List Ty}{xs:List XSh}{step:Ty.dens I→Option (Ty.dens I⊕XSh.sum xs)}(f:Nat)(ok:SpOk specs)(hl:Zj7 P fi N body (n+1))(hb0:Zjc P fi N body 0)
 (h:∀v,ZuV P fi specs body n N sl es I xs v=step v):Lp.Ok P N body ⟨sl,es,I,xs,Zc step f⟩:=by
 intro v o hL s hs e vs s' hx hs';have e1:ZuV P fi specs body n N sl es I xs=step:=funext h;subst e1;exact Zuz (ZFe ok hl hb0 f v o hL s hs e vs s' hx hs')
theorem Zda:∀(c:Code)(k:Nat)(b:Code),(ZB c)[k]? =some (.loop b)→∀j x,(ZB b)[j]? =some x→(ZB c)[k+1+j]? =some x
 |.seq x y,k,b,h,j,z,hz=>by
  simp only[ZB] at h ⊢;rcases yca k (ZB x).length with hl|hl
  ·rw[yan hl] at h;have:=Zda x k b h j z hz;rw[yan (yr.1 this).1];exact this
  ·rw[yat hl] at h;have:=Zda y _ b h j z hz;rw[yat (by omega)];rw[show k+1+j - (ZB x).length=k - (ZB x).length+1+j by omega]
   exact this
 |.cond _ x y,k,b,h,j,z,hz=>by
  simp only[ZB] at h ⊢;rcases yca k (ZB x).length with hl|hl
  ·rw[yan hl] at h;have:=Zda x k b h j z hz;rw[yan (yr.1 this).1];exact this
  ·rw[yat hl] at h;have:=Zda y _ b h j z hz;rw[yat (by omega)];rw[show k+1+j - (ZB x).length=k - (ZB x).length+1+j by omega]
   exact this
 |.block _ a,k,b,h,j,z,hz=>Zda a k b h j z hz
 |.scope a,k,b,h,j,z,hz=>Zda a k b h j z hz
 |.loop a,k,b,h,j,z,hz=>by
  simp only[ZB] at h ⊢
  cases k with
  |zero=>
   simp only[List.getElem?_cons_zero,Option.some.injEq,Code.loop.injEq] at h;subst h;rw[show 0+1+j=j+1 by omega,yap]
   exact hz
  |succ k=>
   rw[yap] at h;rw[show k+1+1+j=(k+1+j)+1 by omega,yap]
   exact Zda a k b h j z hz
 |.skip,_,_,h,_,_,_=>by simp[ZB] at h
 |.region _ _ _,_,_,h,_,_,_=>by simp[ZB] at h
 |.rangeFunc _ _ _ _,_,_,h,_,_,_=>by simp[ZB] at h
 |.exit _,_,_,h,_,_,_=>by simp[ZB] at h
 |.ret,_,_,h,_,_,_=>by simp[ZB] at h
 |.label _,_,_,h,_,_,_=>by simp[ZB] at h
 |.goto _,_,_,h,_,_,_=>by simp[ZB] at h
 |.refuse _,_,_,h,_,_,_=>by simp[ZB] at h
def Zj8(P:yg)(g:yv)(N:Nat):List (Nat×Lp)→Prop
 |[]=>True
 |q::r=>q.2.Ok P N (W2 P g q.1)∧Zj8 P g N r
theorem Zlo{g:yv}{N:Nat}:∀{l:List (Nat×Lp)}{n:Nat}{lp:Lp},Zj8 P g N l→(n,lp)∈l→lp.Ok P N (W2 P g n)
 |[],_,_,_,h=>by cases h
 |q::r,n,lp,hk,h=>by
  rcases ybg.1 h with h|h
  ·subst h;exact hk.1
  ·exact Zlo hk.2 h
def ZaE(P:yg)(g:yv):Code:=
 match P.funcs[g]? with
 |some fn=>fn.body.getD .skip
 |none=>.skip
theorem Zlp{g:yv}{k:Nat}{b:Code}(h:(ZB (ZaE P g))[k]? =some (.loop b)):W2 P g k=b:=by
 unfold W2 ZEb;unfold ZaE at h;split at h
 ·rename_i fn hf;rw[hf];dsimp only
  cases hb:fn.body with
  |none=>rw[hb] at h;simp[ZB] at h
  |some c=>
   rw[hb] at h;dsimp only[Option.getD] at h ⊢;rw[ycx,h];rfl
 ·simp[ZB] at h
theorem ZBB{g:yv}{fi:FI}{N:Nat}(h:Zj8 P g N fi.lp):Zj7 P fi N (ZaE P g) 0:=by
 intro k b hk lp hl;rw[ybe] at hl;rw[←Zlp hk];exact Zlo h hl
theorem ZFf{g:yv}{fi:FI}{N k:Nat}(hk:(ZB (ZaE P g))[k]? =some (.loop (W2 P g k)))(h:Zj8 P g N fi.lp):Zj7 P fi N (W2 P g k) (k+1):=by
 intro j b hj lp hl;have:=Zda _ _ _ hk j _ hj;rw[←Zlp this];exact Zlo h hl
def ZnN(P:yg)(g k:Nat):Bool:=
 match (ZB (ZaE P g))[k]? with
 |some (.loop _)=>true
 |_=>false
theorem ZtS{g k:Nat}(h:ZnN P g k=true):(ZB (ZaE P g))[k]? =some (.loop (W2 P g k)):=by
 unfold ZnN at h;split at h
 ·rename_i b hb;rw[hb,Zlp hb]
 ·cases h
def Zfq(c:Code)(m:Nat):Code:=((Wj c)[m]?).getD .skip
def Zss(P:yg)(N:Nat)(c:Code):List (Nat×Lp)→Prop
 |[]=>True
 |q::r=>q.2.Is P N (Zfq c q.1)∧Zss P N c r
theorem ZuW{N:Nat}{c:Code}:∀{l:List (Nat×Lp)}{m:Nat}{bk:Lp},Zss P N c l→(m,bk)∈l→bk.Is P N (Zfq c m)
 |[],_,_,_,h=>by cases h
 |q::r,m,bk,hk,h=>by
  rcases ybg.1 h with h|h
  ·subst h;exact hk.1
  ·exact ZuW hk.2 h
theorem Zre{fi:FI}{N:Nat}{c:Code}(h:Zss P N c fi.bk):Zjc P fi N c 0:=by
 intro k x hk bk hl;rw[ybe] at hl;have:=ZuW h hl;unfold Zfq at this;rw[hk] at this;exact this
def ZI2(P:yg)(fi:FI)(specs:Sp P)(x:Code)(n N:Nat)(sl:Slots)(es:List ESh)(I:List Ty)(xs:List XSh):Ty.dens I→Option (XSh.sum xs):=λv=>
 (VQ N sl es (ofD I v)).bind λs=>evT P fi specs x n 0 s.1 s.2 λex a h=>ZFd s.2.length ex a h xs
theorem Zst{fi:FI}{specs:Sp P}{g n N:Nat}{x:Code}{sl:Slots}{es:List ESh}{I:List Ty}{xs:List XSh}{L:Ty.dens I→Option (XSh.sum xs)}(ok:SpOk specs)(hl:Zj8 P g N fi.lp:=by exact True.intro)
 (hx:ZB x=((ZB (ZaE P g)).drop n).take (Code.nl x):=by kernel_rfl) (h:∀v,ZI2 P fi specs x n N sl es I xs v=L v:=by intro v;kernel_rfl) (hb:Zss P N x fi.bk:=by exact True.intro):Lp.Is P N x ⟨sl,es,I,xs,L⟩:=by
 intro v o hL s hs e vs s' hsel hs';have hL:L v=some o:=hL;rw[←h v] at hL;unfold ZI2 at hL;have hs:VQ N sl es (ofD I v)=some s:=hs;rw[hs,ya] at hL
 have hlps:Zj7 P fi N x n:=by
  intro k b hk lp hlp
  have h1:(ZB (ZaE P g))[n+k]? =some (.loop b):=by
   rw[hx,List.getElem?_take] at hk;split at hk
   ·rw[List.getElem?_drop] at hk;exact hk
   ·cases hk
  rw[←Zlp h1];exact Zlo hl hlp
 obtain⟨ex,a,h',k1,k2,k3⟩:=Wl ok x _ _ _ _ _ (ZhB hs) hlps (Zre hb) hL;obtain⟨g5,g6⟩:=Zo1 k1 e vs hsel;obtain⟨a3,h4,g3,g4⟩:=ZoZ (P:=P) g6;have hs':VQ N e.sl e.es vs=some s':=hs';rw[k2,hs'] at g3;cases g3;subst g5;exact g4 (ZO _) k3
theorem Zlq{fi:FI}{specs:Sp P}{g k N:Nat}{sl:Slots}{es:List ESh}{I:List Ty}{xs:List XSh}{step:Ty.dens I→Option (Ty.dens I⊕XSh.sum xs)}(ok:SpOk specs)(hl:Zj8 P g N fi.lp:=by exact True.intro)(hk:ZnN P g k=true:=by kernel_rfl)
 (h:∀v,ZuV P fi specs (W2 P g k) k N sl es I xs v=step v:=by intro v;kernel_rfl) (hb:Zss P N (W2 P g k) fi.bk:=by exact True.intro):Lp.Ok P N (W2 P g k) ⟨sl,es,I,xs,Zc step fuel⟩:=
 ZJ8 fuel ok (ZFf (ZtS hk) hl) (Zre hb) h
def ZtT{O:Type}(P:yg)(a:List TD)(h:List TEnt):List ResultVar→(List TD→List Hint→Option O)→Option O
 |[],K=>K [] []
 |.tmp t::r,K=>ZtT P a h r λds hs=>K (a.getD t .junk::ds) hs
 |.cell t ty::r,K=>match a.getD t .junk with
  |.ref id path=>(ZpQ h id).bind λd=>gpT (lk h) path d λsub hs _=>if okT P ty (sub.er (lk h))=true then ZtT P a h r λds hs'=>K (sub::ds) (hs++hs') else none
  |_=>none
theorem ZhC{O:Type}{a:List TD}{h:List TEnt}{out:O}:∀(l:List ResultVar)(K:List TD→List Hint→Option O),ZtT P a h l K=some out→∃ds hs C,K ds hs=some out∧AllP C∧∀rest,ZtC P (TD.ers (lk h) a) (erH h) l (hs++rest)=some (C,TD.ers (lk h) ds)
 |[],K,k=>⟨[],[],[],k,trivial,λ_=>rfl⟩
 |.tmp t::r,K,k=>by
  obtain⟨ds,hs,C,k1,k2,k3⟩:=ZhC r _ k;refine⟨_,_,C,k1,k2,λrest=> ?_⟩
  simp only[ZtC,k3 rest,yab,Znu,TD.ers]
 |.cell t ty::r,K,k=>by
  unfold ZtT at k;split at k
  ·rename_i id path hx;obtain⟨d,h1,k⟩:=yf.1 k;obtain⟨st,h2,h3⟩:=Zfm h1;obtain⟨sub,hs,put,C,g1,g2,g3,_⟩:=Wh _ _ _ _ k;obtain⟨g4,g5⟩:=Za g1;obtain⟨ds,hs',C',k1,k2,k3⟩:=ZhC r _ g5;refine⟨_,_,C++[ZeB path=W8 path]++C',k1,Zj.2 ⟨Zj.2 ⟨g2,(WE _).symm,ytt⟩,k2⟩,λrest=> ?_⟩;unfold ZtC;rw[Znu,hx];dsimp only[TD.er];rw[h3];dsimp only;rw[List.append_assoc,g3 (hs'++rest)];dsimp only;rw[if_pos g4,k3 rest];rfl
  ·cases k
def Zsu:List TD→TD
 |[d]=>d
 |ds=>.tup ds
theorem Zlr{L:Lk}(ds:List TD):(Zsu ds).er L=Zro (TD.ers L ds):=by
 match ds with
 |[]=>rfl
 |[d]=>rfl
 |_::_::_=>rfl
def TD.arg(L:Lk):TD→TD
 |.own id nn t c=>.p (.sl nn t (Ya L id t c))
 |.agg ds=>TD.melt L ds
 |d=>d
theorem ZAk{L:Lk}(d:TD):(d.arg L).er L=(d.er L).arg:=by
 cases d <;> first|rfl|exact ZBa _
def ZFg(h:List TEnt)(rs:Sh)(es:List ESh)(n0:Nat)(r:TD):Option (List Nat):=
 let l:=ZIU h es 0 ((yw n0).map (λi=>(i,i))++Sh.ids rs r)
 ((yw es.length).drop n0).mapM λj=>l.lookup j
def ZHj(h:List TEnt)(n0:Nat)(ds:List TD)(e:XSh):Option (Ty.dens e.ty):=
 match e.sl with
 |[(0,rs)]=>(ZFg h rs e.es n0 (Zsu ds)).bind λkeep=>
  if once (yw n0++keep) then(match Dv.rn (toIds (yw n0++keep)) ((Zsu ds).er (lk h)) with
   |some _=>(Zsu ds).rn (toIds (yw n0++keep))
   |none=>(Zsu (ds.map (TD.arg (lk h)))).rn (toIds (yw n0++keep))).bind λr=>
   (Wi h (yw n0++keep) (yw n0++keep)).bind λh2=>(Sh.mt (lk h2) rs r).bind λq=>(ESh.mts (lk h2) e.es h2).bind λw=>toD e.ty (q.2++w.2)
  else none
 |_=>none
def Zyz(h:List TEnt)(n0:Nat)(ds:List TD):(l:List XSh)→Option (XSh.sum l)
 |[]=>none
 |[e]=>ZHj h n0 ds e
 |e::f::r=>match ZHj h n0 ds e with
  |some x=>some (Sum.inl x:Ty.dens e.ty⊕XSh.sum (f::r))
  |none=>(Zyz h n0 ds (f::r)).map λx=>(Sum.inr x:Ty.dens e.ty⊕XSh.sum (f::r))
theorem Zsv{h:List TEnt}{n0:Nat}{ds:List TD}:∀{l:List XSh}{o:XSh.sum l},Zyz h n0 ds l=some o→∀e vs,Zyh l o e vs→∃x,ZHj h n0 ds e=some x∧vs=ofD e.ty x
 |[],_,k,_,_,_=>by cases k
 |[e],o,k,x,vs,hs=>by
  obtain⟨rfl,rfl⟩:=hs
  exact⟨o,k,rfl⟩
 |e::f::r,o,k,x,vs,hs=>by
  simp only[Zyz] at k;split at k
  ·rename_i y hy;cases k;obtain⟨rfl,rfl⟩:=hs;exact⟨y,hy,rfl⟩
  ·obtain⟨y,h1,h2⟩:=Zb k;subst h2;exact Zsv h1 x vs hs
def fnT(P:yg)(fi:FI)(specs:Sp P)(g:yv)(ps:List Sh)(es:List ESh)(ins:List Ty)(xs:List XSh):Ty.dens ins→Option (XSh.sum xs):=λx=>
 match P.funcs[g]? with
 |some fn=>match fn.body with
  |some c=>(Sh.fills ps (ofD ins x)).bind λq=>(ESh.fills es q.2).bind λw=>if w.2.isEmpty then
    evT P fi specs c 0 0 (q.1++yy (fn.ntmps - q.1.length) .junk) w.1 λex a h=>match ex with
     |.exit _=>none
     |_=>ZtT P a h fn.results.toList λds _=>Zyz h w.1.length ds xs
    else none
  |none=>none
 |none=>none
def W4(P:yg)(g:yv):Nat:=
 match P.funcs[g]? with
 |some fn=>fn.ntmps
 |none=>0
theorem ZuX{fi:FI}{specs:Sp P}{g:yv}{ps:List Sh}{es:List ESh}{ins:List Ty}{xs:List XSh}{M:Ty.dens ins→Option (XSh.sum xs)}(ok:SpOk specs)(hl:Zj8 P g (W4 P g) fi.lp:=by exact True.intro)(hn:ps.length≤W4 P g:=by decide+kernel)
 (h:∀x,fnT P fi specs g ps es ins xs x=M x:=by intro v;kernel_rfl) (hb:Zss P (W4 P g) (ZaE P g) fi.bk:=by exact True.intro):Fs.Ok (⟨g,ps,es,ins,xs,M⟩:Fs P):=by
 intro x o hM;have hM:M x=some o:=hM;rw[←h x] at hM;have hl':=ZBB hl;unfold fnT at hM;split at hM
 ·rename_i fn hf;split at hM
  ·rename_i c hb1;obtain⟨q,h1,hM⟩:=yf.1 hM;obtain⟨w,h2,hM⟩:=yf.1 hM;obtain⟨h3,hM⟩:=Za hM;have hN:W4 P g=fn.ntmps:=by unfold W4;rw[hf]
   have hc:ZaE P g=c:=by unfold ZaE;rw[hf];dsimp only;rw[hb1];rfl
   rw[hc,hN] at hl' hb;have hb0:=Zre hb;rw[hN] at hn
   have hlen:(q.1++yy (fn.ntmps - q.1.length) TD.junk).length=fn.ntmps:=by
    rw[yp,ycp,Zlm h1];omega
   obtain⟨ex,a,hh,k1,k2,k3⟩:=Wl ok c _ _ _ _ _ hlen hl' hb0 hM
   have hex:(ex=.ret∨ex=.normal)∧(ZtT P a hh fn.results.toList λds _=>Zyz hh w.1.length ds xs)=some o:=by
    cases ex with
    |exit _=>cases k1
    |normal=>exact⟨.inr rfl,k1⟩
    |ret=>exact⟨.inl rfl,k1⟩
   obtain⟨hex,k1⟩:=hex;obtain⟨ds,hs,C,g1,g2,g3⟩:=ZhC _ _ k1;refine⟨q.1,q.2,w.1,h1, ?_,λe vs s' hsel hfs=> ?_⟩
   ·rw[h2];have:w.2=[]:=by simpa using h3
    rw[←this]
   obtain⟨o1,g1,hvs⟩:=Zsv g1 e vs hsel;unfold ZHj at g1;split at g1
   case h_2=>cases g1
   rename_i rs hsl;obtain⟨keep,g4,g1⟩:=yf.1 g1;obtain⟨g5,g1⟩:=Za g1;obtain⟨r,g6,g1⟩:=yf.1 g1;obtain⟨e2,g7,g1⟩:=yf.1 g1;obtain⟨z,g8,g1⟩:=yf.1 g1;obtain⟨y,g9,g1⟩:=yf.1 g1;obtain⟨b1,b2⟩:=ZhA g9;have hcc:∀id t,Ya (lk e2) id t none=Ya (lk y.1) id t none:=λid t=>by rw[b2]
   have eo:=ZcK _ _ _ g1
   have efill:s'=([z.1],y.1):=by
    rw[hvs,eo,hsl] at hfs;unfold VQ at hfs;rw[show shs [(0,rs)] 1=[rs] from rfl] at hfs
    simp only[Sh.fills,Zlk _ _ _ g8,ya,yab] at hfs;have:=ZaD g9 [];rw[ybh] at this;rw[this] at hfs;exact(ybm hfs).symm
   subst efill;refine⟨z.1,rfl, ?_⟩
   have hfin:fin P fn (TD.ers (lk hh) a) (erH hh) (erH w.1).length keep hs=some (C,r.er (lk e2),erH e2):=by
    unfold fin;have:=g3 [];rw[ybh] at this;rw[this];dsimp only;rw[ZO,g5, ←Zlr,show subEnts (erH hh) _ _=some (erH e2) from Wd (Q6 g7) g7]
    split at g6
    ·rename_i r0 hr0;have e4:=Zfp (Q6 g7) _ _ g6;rw[e4]
    ·rename_i hr0;have e4:=Zfp (Q6 g7) _ _ g6;rw[Zlr,ZN,ybc] at e4
     rw[hr0,show(TD.ers (lk hh) ds).map Dv.arg=ds.map (TD.er (lk hh) ∘ TD.arg (lk hh)) by
      rw[ZN,ybc];exact ycj λd _=>(ZAk d).symm,e4]
   have hrun:Ww P c (TD.ers (lk w.1) q.1++yy (fn.ntmps - (TD.ers (lk w.1) q.1).length) .junk) (erH w.1) ex (TD.ers (lk hh) a) (erH hh):=by
    have e5:TD.ers (lk w.1) (q.1++yy (fn.ntmps - q.1.length) TD.junk)=TD.ers (lk w.1) q.1++yy (fn.ntmps - (TD.ers (lk w.1) q.1).length) .junk:=by
     rw[ZvM,ZN,ZN,yax,List.map_replicate];rfl
    rw[←e5];exact k3
   exact ZxL (Zj0 hf hb1 hrun hex hfin g2) (Zsc hcc _ _ _ g8) (Zll hcc g9)
  ·cases hM
 ·cases hM
end
theorem Zo2{P:yg}{g:yv}{t:Ty}{xs:List XSh}{MA:Ty.dens [.sl t]→Option (XSh.sum xs)}{MB:Ty.dens []→Option (XSh.sum xs)}(hA:Fs.Ok (⟨g,[.sl true t],[],[.sl t],xs,MA⟩:Fs P))(hB:Fs.Ok (⟨g,[.nil t],[],[],xs,MB⟩:Fs P))
 (h:MB ()=MA ([]:List t.den)):Fs.Ok (⟨g,[.v (.sl t)],[],[.sl t],xs,MA⟩:Fs P):=by
 intro l o hM;have key:∀(l:List t.den),Ty.cast (.sl t) (.sl t) l=some l:=λl=>Y5 (.sl t) l;obtain⟨a1,R1,H1,f1,f2,f3⟩:=hA l o hM
 have e1:a1=[.p (.sl (some true) t l)]∧R1=[]:=by
  have:Sh.fills [.sl true t] [(⟨.sl t,l⟩:TV)]=some (a1,R1):=f1;simp only[Sh.fills,Sh.fill] at this;rw[key l] at this;have this:some (([.p (.sl (some true) t l)]:List TD),([]:List TV))=some (a1,R1):=this;cases this;exact⟨rfl,rfl⟩
 obtain⟨rfl,rfl⟩:=e1;cases f2;refine⟨[.p (.v (.sl t) l)],[],[], ?_,rfl,λe vs s' hs hf=> ?_⟩
 ·show Sh.fills [.v (.sl t)] [(⟨.sl t,l⟩:TV)]=_;simp only[Sh.fills,Sh.fill];rw[key l];rfl
 ·obtain⟨r,r1,r2⟩:=f3 e vs s' hs hf;refine⟨r,r1, ?_⟩;refine ZA3 (xs:=l.map t.enc) r2 λhl=> ?_;have hl:l=[]:=List.map_eq_nil_iff.1 hl;subst hl;obtain⟨a2,R2,H2,g1,g2,g3⟩:=hB () o (by rw[←hM];exact h);cases g1;cases g2;obtain⟨r',r1',r2'⟩:=g3 e vs s' hs hf;rw[r1] at r1';cases r1';exact r2'
def Zsw(n:Int):Option (List UInt8):=if(decide (0≤n)&&decide (n.toNat≤Zn))=true then some [] else none
theorem ZHk{P:yg}{g:yv}{e:yb}(h:∀n:Nat,n≤Zn→Con P g [.p (.sl (some false) 1 []),.p (.int .i64 (n:Int))] [] (.own 0 none 1 []) [.log 1 e []]):
 Fs.Ok (⟨g,[.nil .u8,.v (.int .i64)],[],[.int .i64],[⟨.ret,[(0,.own 0 .u8)],[.log .u8 e],[.sl .u8]⟩],Zsw⟩:Fs P):=by
 intro n o hM
 have key:∀(n:Int),Zsw n=some o→(0≤n∧n.toNat≤Zn)∧([]:List UInt8)=o:=λn hM=>by
  unfold Zsw at hM;obtain⟨h1,h2⟩:=Za (α:=List UInt8) hM;rw[yj,decide_eq_true_eq,decide_eq_true_eq] at h1;exact⟨h1,ybm h2⟩
 obtain⟨h1,h2⟩:=key n hM;cases h2;refine⟨[.p (.sl (some false) .u8 []),.p (.v (.int .i64) n)],[],[],rfl,rfl,λx vs s' hs hf=> ?_⟩;obtain⟨rfl,rfl⟩:=hs;cases hf;refine⟨_,rfl, ?_⟩;have:=h (Int.toNat n) h1.2;rw[Int.toNat_of_nonneg h1.1] at this;exact this
mutual
theorem ZuY:∀(s:Sh)(vs w:List TV)(q:TD×List TV),s.fill vs=some q→s.fill (vs++w)=some (q.1,q.2++w)
 |.v t,vs,w,q,h=>by
  cases vs with
  |nil=>cases h
  |cons x r=>
   obtain⟨y,h1,rfl⟩:=Zb (show(Ty.cast x.1 t x.2).map (λy=>((TD.p (.v t y),r):TD×List TV))=some q from h)
   show(Ty.cast x.1 t x.2).map (λy=>((TD.p (.v t y),r++w):TD×List TV))=_
   rw[h1];rfl
 |.elem t,vs,w,q,h=>by
  cases vs with
  |nil=>cases h
  |cons x r=>
   obtain⟨y,h1,rfl⟩:=Zb (show(Ty.cast x.1 t x.2).map (λy=>((TD.elem (.v t y),r):TD×List TV))=some q from h)
   show(Ty.cast x.1 t x.2).map (λy=>((TD.elem (.v t y),r++w):TD×List TV))=_
   rw[h1];rfl
 |.sl nn t,vs,w,q,h=>by
  cases vs with
  |nil=>cases h
  |cons x r=>
   obtain⟨y,h1,rfl⟩:=Zb (α:=(Ty.sl t).den) (show(Ty.cast x.1 (.sl t) x.2).map (λ(y:List t.den)=>((TD.p (.sl (some nn) t y),r):TD×List TV))=some q from h)
   show(Ty.cast x.1 (.sl t) x.2).map (λ(y:List t.den)=>((TD.p (.sl (some nn) t y),r++w):TD×List TV))=_
   rw[h1];rfl
 |.nil _,vs,w,q,h=>by cases h;rfl
 |.own _ _,vs,w,q,h=>by cases h;rfl
 |.ref _ _,vs,w,q,h=>by cases h;rfl
 |.mp _,vs,w,q,h=>by cases h;rfl
 |.rw _,vs,w,q,h=>by cases h;rfl
 |.rp j s p,vs,w,q,h=>by
  cases vs with
  |nil=>cases h
  |cons x r=>
   obtain⟨y,h1,rfl⟩:=Zb (α:=Int) (show(Ty.cast x.1 (.int .i64) x.2).map (λ(i:Int)=>((TD.rp j (.ix i.toNat s::p),r):TD×List TV))=some q from h)
   show(Ty.cast x.1 (.int .i64) x.2).map (λ(i:Int)=>((TD.rp j (.ix i.toNat s::p),r++w):TD×List TV))=_
   rw[h1];rfl
 |.view _ _ _ _ _,vs,w,q,h=>by cases h;rfl
 |.fn g l,vs,w,q,h=>by
  simp only[Sh.fill] at h ⊢;obtain⟨y,h1,rfl⟩:=Zb h
  rw[fills_more l vs w y h1];rfl
 |.agg l,vs,w,q,h=>by
  simp only[Sh.fill] at h ⊢;obtain⟨y,h1,rfl⟩:=Zb h
  rw[fills_more l vs w y h1];rfl
 |.arr n s l,vs,w,q,h=>by
  simp only[Sh.fill] at h ⊢;obtain⟨y,h1,rfl⟩:=Zb h
  rw[fills_more l vs w y h1];rfl
 |.tup l,vs,w,q,h=>by
  simp only[Sh.fill] at h ⊢;obtain⟨y,h1,rfl⟩:=Zb h
  rw[fills_more l vs w y h1];rfl
 |.iface t x,vs,w,q,h=>by
  simp only[Sh.fill] at h ⊢;obtain⟨y,h1,rfl⟩:=Zb h
  rw[ZuY x vs w y h1];rfl
 |.ptr0,vs,w,q,h=>by cases h;rfl
 |.fn0,vs,w,q,h=>by cases h;rfl
 |.if0,vs,w,q,h=>by cases h;rfl
 |.map0,vs,w,q,h=>by cases h;rfl
 |.junk,vs,w,q,h=>by cases h;rfl
theorem fills_more:∀(l:List Sh)(vs w:List TV)(q:List TD×List TV),Sh.fills l vs=some q→Sh.fills l (vs++w)=some (q.1,q.2++w)
 |[],vs,w,q,h=>by simp only[Sh.fills] at h;cases h;rfl
 |s::r,vs,w,q,h=>by
  simp only[Sh.fills] at h ⊢;obtain⟨a,h1,h⟩:=yf.1 h;obtain⟨b,h2,rfl⟩:=Zb h;rw[ZuY s vs w a h1,ya,fills_more r a.2 w b h2];rfl
end
theorem ZI3{P:yg}{g:yv}{t:Ty}{e:yb}{rest:List Sh}{i1 i2:List Ty}{xs:List XSh}{M:Ty.dens i2→Option (XSh.sum xs)}(pk:Ty.dens i1→Ty.dens i2)(h:Fs.Ok (⟨g,.own 0 t::rest,[.log t e],i2,xs,M⟩:Fs P))
 (hp:∀x,ofD i2 (pk x)=ofD i1 x++[⟨.sl t,([]:List t.den)⟩]) (hf:∀x,∃a,Sh.fills rest (ofD i1 x)=some (a,[])):Fs.Ok (⟨g,.nil t::rest,[],i1,xs,λx=>M (pk x)⟩:Fs P):=by
 intro x o hM;obtain⟨args,R,H,f1,f2,f3⟩:=h (pk x) o hM;obtain⟨a,ha⟩:=hf x;have f1:Sh.fills (.own 0 t::rest) (ofD i2 (pk x))=some (args,R):=f1;rw[hp x] at f1;simp only[Sh.fills,Sh.fill,ya,fills_more rest _ _ _ ha,yab,Option.some.injEq,Prod.mk.injEq,List.nil_append] at f1;obtain⟨rfl,rfl⟩:=f1;have f2:((Ty.cast (.sl t) (.sl t) ([]:List t.den)).map λ(y:List t.den)=>((TEnt.log t e y,[]):TEnt×List TV)).bind (λa=>(ESh.fills [] a.2).map λb=>(a.1::b.1,b.2))=some (H,[]):=f2;have key:Ty.cast (.sl t) (.sl t) ([]:List t.den)=some ([]:List t.den):=Y5 (.sl t) ([]:List t.den);rw[key] at f2;cases f2;refine⟨.p (.sl (some false) t [])::a,[],[], ?_,rfl,λx' vs s' hs hf'=> ?_⟩
 ·show Sh.fills (.nil t::rest) (ofD i1 x)=_;simp only[Sh.fills,Sh.fill,ya,ha,yab]
 ·obtain⟨r,r1,r2⟩:=f3 x' vs s' hs hf';refine⟨r,r1, ?_⟩
  have e1:TD.ers (lk [.log t e []]) (.own 0 none t none::a)=.own 0 none t.size []::TD.ers (lk []) a:=by
   have e0:TD.ers (lk [.log t e []]) a=TD.ers (lk []) a:=(ers_cont (λid t'=>ZnD (H:=[]) (T:=t) (e:=e) id t') a).symm;rw[TD.ers,e0];congr 1;rw[TD.er,show Ya (lk [.log t e []]) 0 t none=[] from Zhz (H:=[])]
   rfl
  have r2:Con P g (TD.ers (lk [.log t e []]) (.own 0 none t none::a)) (erH [.log t e []]) (r.er (lk s'.2)) (erH s'.2):=r2;rw[e1] at r2;exact ZxN (H:=[]) (e:=e) r2
section
variable{P:yg}
theorem fnO(h:HI)(lp:List (Nat×Lp))(l:List (Fs P))(a:AllOk l){g:yv}{ps:List Sh}{es:List ESh}{ins:List Ty}{xs:List XSh}{M:Ty.dens ins→Option (XSh.sum xs)}(hl:Zj8 P g (W4 P g) lp:=by exact True.intro)(hn:ps.length≤W4 P g:=by decide+kernel)
 (k:∀x,fnT P { hi:=h,lp:=lp} { l:=l} g ps es ins xs x=M x:=by intro v;kernel_rfl):Fs.Ok (⟨g,ps,es,ins,xs,M⟩:Fs P):=ZuX (okS a) hl hn k
abbrev Lp.okA(L:Lp)(P:yg)(g k:Nat):Prop:=L.Ok P (W4 P g) (W2 P g k)
theorem ZC(h:HI)(lp:List (Nat×Lp))(l:List (Fs P))(a:AllOk l){g k N:Nat}{sl:Slots}{es:List ESh}{I:List Ty}{xs:List XSh}{step:Ty.dens I→Option (Ty.dens I⊕XSh.sum xs)}(hl:Zj8 P g N lp:=by exact True.intro)(hk:ZnN P g k=true:=by kernel_rfl)
 (h':∀v,ZuV P { hi:=h,lp:=lp} { l:=l} (W2 P g k) k N sl es I xs v=step v:=by intro v;kernel_rfl):Lp.Ok P N (W2 P g k) ⟨sl,es,I,xs,Zc step fuel⟩:=Zlq (okS a) hl hk h'
theorem ZHl(n g:Nat)(h:HI)(lp:List (Nat×Lp))(l:List (Fs P))(a:AllOk l){N:Nat}{x:Code}{sl:Slots}{es:List ESh}{I:List Ty}{xs:List XSh}{L:Ty.dens I→Option (XSh.sum xs)}(hl:Zj8 P g N lp:=by exact True.intro)
 (hx:ZB x=((ZB (ZaE P g)).drop n).take (Code.nl x):=by kernel_rfl) (k:∀v,ZI2 P { hi:=h,lp:=lp} { l:=l} x n N sl es I xs v=L v:=by intro v;kernel_rfl):Lp.Is P N x ⟨sl,es,I,xs,L⟩:=Zst (n:=n) (g:=g) (okS a) hl hx k
end
end Go.Ev
end
section
namespace Go.Ev
universe u
variable{O:Type u}
def Zdb(n:Nat)(k:Nat→O):O:=Nat.rec (motive:=λ_=>O) (k 0) (λm _=>k (Nat.succ m)) n
theorem Xc(n:Nat)(k:Nat→O):Zdb n k=k n:=by cases n <;> rfl
def Zfr{α:Type}(f:α→(α→O)→O):List α→(List α→O)→O
 |[],k=>k []
 |a::r,k=>f a λa=>Zfr f r λr=>k (a::r)
theorem Vm{α:Type}{f:α→(α→O)→O}(hf:∀a k,f a k=k a):∀(l:List α)(k:List α→O),Zfr f l k=k l
 |[],k=>rfl
 |a::r,k=>by rw[Zfr,hf,Vm hf r]
def ZI4(n:Int)(k:Int→O):O:=match n with
 |.ofNat n=>Zdb n λn=>k (.ofNat n)
 |.negSucc n=>Zdb n λn=>k (.negSucc n)
theorem ZHm(n:Int)(k:Int→O):ZI4 n k=k n:=by cases n <;> (rw[ZI4,Xc])
def Zsx(b:Bool)(k:Bool→O):O:=match b with
 |true=>k true
 |false=>k false
theorem ZhD(b:Bool)(k:Bool→O):Zsx b k=k b:=by cases b <;> rfl
mutual
def Ty.fo:(t:Ty)→t.den→(t.den→O)→O
 |.int _,x,k=>ZI4 x k
 |.u8,x,k=>Zdb (yak x) λn=>k (yau n)
 |.u32,x,k=>Zdb (UInt32.toNat x) λn=>k (ybs n)
 |.u64,x,k=>Zdb (UInt64.toNat x) λn=>k (yad n)
 |.bool,x,k=>Zsx x k
 |.str,x,k=>k x
 |.sl t,x,k=>Zfr (Ty.fo t) x k
 |.arr _ t,x,k=>Zfr (Ty.fo t) x k
 |.st fs,x,k=>Ty.fos fs x k
def Ty.fos:(fs:List Ty)→Ty.dens fs→(Ty.dens fs→O)→O
 |[],_,k=>k ()
 |[t],x,k=>Ty.fo t x k
 |t::u::r,x,k=>Ty.fo t x.1 λa=>Ty.fos (u::r) x.2 λb=>k (a,b)
end
mutual
theorem Ty.fo_eq:∀(t:Ty)(x:t.den)(k:t.den→O),t.fo x k=k x
 |.int _,x,k=>ZHm x k
 |.u8,x,k=>by rw[Ty.fo,Xc];exact congrArg k UInt8.ofNat_toNat
 |.u32,x,k=>by rw[Ty.fo,Xc];exact congrArg k UInt32.ofNat_toNat
 |.u64,x,k=>by rw[Ty.fo,Xc];exact congrArg k UInt64.ofNat_toNat
 |.bool,x,k=>ZhD x k
 |.str,x,k=>rfl
 |.sl t,x,k=>by rw[Ty.fo];exact Vm (Ty.fo_eq t) x k
 |.arr _ t,x,k=>by rw[Ty.fo];exact Vm (Ty.fo_eq t) x k
 |.st fs,x,k=>Ty.fos_eq fs x k
theorem Ty.fos_eq:∀(fs:List Ty)(x:Ty.dens fs)(k:Ty.dens fs→O),Ty.fos fs x k=k x
 |[],_,k=>rfl
 |[t],x,k=>Ty.fo_eq t x k
 |t::u::r,x,k=>by rw[Ty.fos,Ty.fo_eq t];exact Ty.fos_eq (u::r) x.2 _
end
mutual
def TP.fo:TP→(TP→O)→O
 |.v t x,k=>t.fo x λx=>k (.v t x)
 |.sl nn t xs,k=>Zfr t.fo xs λxs=>k (.sl nn t xs)
 |.agg xs,k=>TP.fos xs λxs=>k (.agg xs)
 |.arr n s xs,k=>TP.fos xs λxs=>k (.arr n s xs)
 |.sll nn s xs,k=>TP.fos xs λxs=>k (.sll nn s xs)
 |.iface t x,k=>TP.fo x λx=>k (.iface t x)
 |x,k=>k x
def TP.fos:List TP→(List TP→O)→O
 |[],k=>k []
 |x::r,k=>TP.fo x λx=>TP.fos r λr=>k (x::r)
end
mutual
theorem TP.fo_eq:∀(x:TP)(k:TP→O),x.fo k=k x
 |.v t x,k=>by rw[TP.fo,Ty.fo_eq]
 |.sl nn t xs,k=>by rw[TP.fo,Vm (Ty.fo_eq t)]
 |.agg xs,k=>by rw[TP.fo,TP.fos_eq xs]
 |.arr n s xs,k=>by rw[TP.fo,TP.fos_eq xs]
 |.sll nn s xs,k=>by rw[TP.fo,TP.fos_eq xs]
 |.iface t x,k=>by rw[TP.fo,TP.fo_eq x]
 |.ptr0,k=>rfl
 |.fn0,k=>rfl
 |.if0,k=>rfl
 |.map0,k=>rfl
 |.fnv _,k=>rfl
theorem TP.fos_eq:∀(x:List TP)(k:List TP→O),TP.fos x k=k x
 |[],k=>rfl
 |x::r,k=>by rw[TP.fos,TP.fo_eq x,TP.fos_eq r]
end
def ZJ9{α:Type}(f:α→(α→O)→O):Option α→(Option α→O)→O
 |none,k=>k none
 |some a,k=>f a λa=>k (some a)
theorem ZHn{α:Type}{f:α→(α→O)→O}(hf:∀a k,f a k=k a):∀(l:Option α)(k:Option α→O),ZJ9 f l k=k l
 |none,k=>rfl
 |some a,k=>hf a _
mutual
def TD.fo:TD→(TD→O)→O
 |.p x,k=>x.fo λx=>k (.p x)
 |.elem x,k=>x.fo λx=>k (.elem x)
 |.own id nn t c,k=>Zdb id λid=>ZJ9 (Zfr t.fo) c λc=>k (.own id nn t c)
 |.ref id q,k=>Zdb id λid=>k (.ref id q)
 |.view id q s lo n,k=>Zdb id λid=>Zdb s λs=>Zdb lo λlo=>Zdb n λn=>k (.view id q s lo n)
 |.agg xs,k=>TD.fos xs λxs=>k (.agg xs)
 |.arr n s xs,k=>Zdb n λn=>Zdb s λs=>TD.fos xs λxs=>k (.arr n s xs)
 |.fn f xs,k=>TD.fos xs λxs=>k (.fn f xs)
 |.iface t x,k=>TD.fo x λx=>k (.iface t x)
 |.tup xs,k=>TD.fos xs λxs=>k (.tup xs)
 |.mp id,k=>Zdb id λid=>k (.mp id)
 |.rv id v s lo n,k=>Zdb id λid=>Zdb v λv=>Zdb s λs=>Zdb lo λlo=>Zdb n λn=>k (.rv id v s lo n)
 |.rref id v q,k=>Zdb id λid=>Zdb v λv=>k (.rref id v q)
 |.rw id,k=>Zdb id λid=>k (.rw id)
 |.rp id q,k=>Zdb id λid=>k (.rp id q)
 |.junk,k=>k .junk
def TD.fos:List TD→(List TD→O)→O
 |[],k=>k []
 |x::r,k=>TD.fo x λx=>TD.fos r λr=>k (x::r)
end
mutual
theorem TD.fo_eq:∀(x:TD)(k:TD→O),x.fo k=k x
 |.p x,k=>by rw[TD.fo,TP.fo_eq]
 |.elem x,k=>by rw[TD.fo,TP.fo_eq]
 |.own id nn t c,k=>by rw[TD.fo,Xc,ZHn (Vm (Ty.fo_eq t))]
 |.ref id q,k=>by rw[TD.fo,Xc]
 |.view id q s lo n,k=>by rw[TD.fo,Xc,Xc,Xc,Xc]
 |.agg xs,k=>by rw[TD.fo,TD.fos_eq xs]
 |.arr n s xs,k=>by rw[TD.fo,Xc,Xc,TD.fos_eq xs]
 |.fn f xs,k=>by rw[TD.fo,TD.fos_eq xs]
 |.iface t x,k=>by rw[TD.fo,TD.fo_eq x]
 |.tup xs,k=>by rw[TD.fo,TD.fos_eq xs]
 |.mp id,k=>by rw[TD.fo,Xc]
 |.rv id v s lo n,k=>by rw[TD.fo,Xc,Xc,Xc,Xc,Xc]
 |.rref id v q,k=>by rw[TD.fo,Xc,Xc]
 |.rw id,k=>by rw[TD.fo,Xc]
 |.rp id q,k=>by rw[TD.fo,Xc]
 |.junk,k=>rfl
theorem TD.fos_eq:∀(x:List TD)(k:List TD→O),TD.fos x k=k x
 |[],k=>rfl
 |x::r,k=>by rw[TD.fos,TD.fo_eq x,TD.fos_eq r]
end
def TEnt.fo(e:TEnt)(k:TEnt→O):O:=match e with
 |.var d st=>d.fo λd=>Zsx st λst=>k (.var d st)
 |.log t e xs=>Zfr t.fo xs λxs=>k (.log t e xs)
 |.map tid a b l=>Zfr (λq k=>a.fo q.1 λx=>b.fo q.2 λy=>k (x,y)) l λl=>k (.map tid a b l)
 |.row v s st e d=>Zdb v λv=>Zdb s λs=>Zsx st λst=>d.fo λd=>k (.row v s st e d)
 |.rowT t v st e xs=>Zsx st λst=>Zfr t.fo xs λxs=>k (.rowT t v st e xs)
 |.rowN t np v st e a b=>Zsx st λst=>Zfr t.fo a λa=>Zfr t.fo b λb=>k (.rowN t np v st e a b)
 |.rowM t np v st e a d b=>Zsx st λst=>Zfr t.fo a λa=>d.fo λd=>Zfr t.fo b λb=>k (.rowM t np v st e a d b)
 |.gone=>k .gone
theorem TEnt.fo_eq(e:TEnt)(k:TEnt→O):e.fo k=k e:=by
 cases e with
 |var d st=>rw[TEnt.fo,TD.fo_eq,ZhD]
 |log t e xs=>rw[TEnt.fo,Vm (Ty.fo_eq t)]
 |map tid a b l=>rw[TEnt.fo,Vm λq k=>by rw[Ty.fo_eq a,Ty.fo_eq b]]
 |row v s st e d=>rw[TEnt.fo,Xc,Xc,ZhD,TD.fo_eq]
 |rowT t v st e xs=>rw[TEnt.fo,ZhD,Vm (Ty.fo_eq t)]
 |rowN t np v st e a b=>rw[TEnt.fo,ZhD,Vm (Ty.fo_eq t),Vm (Ty.fo_eq t)]
 |rowM t np v st e a d b=>rw[TEnt.fo,ZhD,Vm (Ty.fo_eq t),TD.fo_eq,Vm (Ty.fo_eq t)]
 |gone=>rfl
def foS(a:List TD)(h:List TEnt)(k:List TD→List TEnt→O):O:=TD.fos a λa=>Zfr TEnt.fo h λh=>k a h
theorem ZI5(a:List TD)(h:List TEnt)(k:List TD→List TEnt→O):foS a h k=k a h:=by rw[foS,TD.fos_eq,Vm TEnt.fo_eq]
def foX:(l:List XSh)→XSh.sum l→(XSh.sum l→O)→O
 |[],x,k=>k x
 |[e],x,k=>Ty.fos e.ty x k
 |e::f::r,x,k=>match (x:Ty.dens e.ty⊕XSh.sum (f::r)) with
  |.inl x=>Ty.fos e.ty x λx=>k (.inl x:Ty.dens e.ty⊕XSh.sum (f::r))
  |.inr x=>foX (f::r) x λx=>k (.inr x:Ty.dens e.ty⊕XSh.sum (f::r))
theorem ZFh:∀(l:List XSh)(x:XSh.sum l)(k:XSh.sum l→O),foX l x k=k x
 |[],x,k=>rfl
 |[e],x,k=>Ty.fos_eq _ _ _
 |e::f::r,x,k=>by
  unfold foX
  cases (x:Ty.dens e.ty⊕XSh.sum (f::r)) with
  |inl x=>exact Ty.fos_eq _ _ _
  |inr x=>exact ZFh (f::r) x _
def Fs.fo{P:yg}(s:Fs P):Fs P:={ s with M:=λx=>Ty.fos s.ins x λx=>(s.M x).bind λo=>foX s.xs o some}
theorem Fs.fo_ok{P:yg}{s:Fs P}(h:s.Ok):s.fo.Ok:=by
 have e:s.fo=s:=by
  unfold Fs.fo
  have:(λx=>Ty.fos s.ins x λx=>(s.M x).bind λo=>foX s.xs o some)=s.M:=by
   funext x;rw[Ty.fos_eq]
   cases s.M x with
   |none=>rfl
   |some o=>exact ZFh _ _ _
  rw[this]
 rw[e];exact h
theorem ZyA{P:yg}:∀{l:List (Fs P)},AllOk l→AllOk (l.map Fs.fo)
 |[],_=>trivial
 |s::r,h=>⟨Fs.fo_ok h.1,ZyA h.2⟩
end Go.Ev
end
section
namespace Go.Ev
def ZwA(h:List TEnt)(n0:Nat)(r:TD):List Nat:=
 let got:=ZpU h 100000 (r.look++yw n0) []
 ((yw h.length).drop n0).filter got.contains
def Ty.mkFs(f:(T:Ty)→TD→Option T.den):(fs:List Ty)→List TD→Option (Ty.dens fs)
 |[],[]=>some ()
 |[t],[d]=>f t d
 |t::u::r,d::ds=>Zl1 (f t d) (Ty.mkFs f (u::r) ds)
 |_,_=>none
def mkL{T:Ty}(f:TD→Option T.den):List TD→Option (List T.den)
 |[]=>some []
 |d::r=>(Zl1 (f d) (mkL f r)).map λq=>q.1::q.2
def ZFi(H:List TEnt)(id:Nat)(u:Ty):Option (List u.den):=
 match H[id]? with
 |some (.rowT u' v false e l)=>Ty.castL u' u l
 |_=>none
theorem ZFj{H:List TEnt}{id:Nat}{u:Ty}{l:List u.den}(h:ZFi H id u=some l):DeepR (erH H) ((TD.rw id).er (lk H)) ((Ty.sl u).enc l):=by
 unfold ZFi at h;split at h
 ·rename_i u' v e l' hd;obtain⟨e1,h⟩:=ZE h;subst e1;subst h;have hE:(erH H)[id]? =some (.row v.length u'.size false e (.p (.arr l.length u'.size (l.map u'.enc)))):=Yo hd;have:=DeepR.rvp (lo:=0) (n:=l.length) hE (by omega);rw[(ZbW hd).1,ZzA];rw[List.drop_zero, ←yz (f:=u'.enc),List.take_length,yz] at this;exact this
 ·cases h
def ZyB(H:List TEnt):Nat→(T:Ty)→TD→Option T.den
 |0,_,_=>none
 |n+1,T,d=>match d with
  |.p x=>TP.to Zj1 x T
  |.own id nn t c=>ZEe true t (Ya (lk H) id t c) T
  |.agg ds=>ZEf (λfs=>Ty.mkFs (ZyB H n) fs ds) T
  |.rw id=>match T with
   |.sl u=>ZFi H id u
   |_=>none
  |.rv id v s lo k=>match T with
   |.sl u=>match H[id]? with
    |some (.row w s' false e d)=>if(w==v&&s'==s&&s==u.size)=true then match d with
      |.p x=>x.arow.bind λr=>(Ty.castL r.t u r.l).bind λl=>if decide (lo+k≤r.n)=true then some ((l.drop lo).take k) else none
      |.arr N s2 ds=>if(s2==s&&decide (lo+k≤N))=true then(mkL (ZyB H n u) ds).map λ(l:List u.den)=>(l.drop lo).take k else none
      |_=>none
     else none
    |_=>none
   |_=>none
  |_=>none
theorem ZBC{H:List Ent}{L:Lk}{f:(T:Ty)→TD→Option T.den}(hf:∀T d y,f T d=some y→DeepR H (d.er L) (T.enc y)):∀(fs:List Ty)(ds:List TD)(y:Ty.dens fs),Ty.mkFs f fs ds=some y→
 (TD.ers L ds).length=(Ty.encs fs y).length∧∀(i:Nat)(d:Dv)(z:Pl),(TD.ers L ds)[i]? =some d→(Ty.encs fs y)[i]? =some z→DeepR H d z
 |[],[],y,h=>⟨rfl,λi d z h1 _=>by simp[TD.ers] at h1⟩
 |[],_::_,y,h=>by cases h
 |[t],[],y,h=>by cases h
 |[t],[d],y,h=>by
  refine⟨rfl,λi d' z h1 h2=> ?_⟩
  cases i with
  |zero=>cases h1;cases h2;exact hf t d y h
  |succ i=>simp[TD.ers] at h1
 |[t],_::_::_,y,h=>by cases h
 |t::u::r,[],y,h=>by cases h
 |t::u::r,d::ds,y,h=>by
  obtain⟨h1,h2⟩:=ZaB (α:=t.den) (β:=Ty.dens (u::r)) h;obtain⟨h3,h4⟩:=ZBC hf (u::r) ds y.2 h2;refine⟨by rw[TD.ers,Ty.encs,yag,yag,h3],λi d' z k1 k2=> ?_⟩
  cases i with
  |zero=>cases k1;cases k2;exact hf t d y.1 h1
  |succ i=>exact h4 i d' z k1 k2
theorem ZFk{H:List Ent}{L:Lk}{T:Ty}{f:TD→Option T.den}(hf:∀d y,f d=some y→DeepR H (d.er L) (T.enc y)):∀(ds:List TD)(l:List T.den),mkL f ds=some l→
 (TD.ers L ds).length=(l.map T.enc).length∧∀(i:Nat)(d:Dv)(z:Pl),(TD.ers L ds)[i]? =some d→(l.map T.enc)[i]? =some z→DeepR H d z
 |[],l,h=>by cases h;exact⟨rfl,λi d z h1 _=>by simp[TD.ers] at h1⟩
 |d::ds,l,h=>by
  obtain⟨q,h1,rfl⟩:=Zb h;obtain⟨h1,h2⟩:=ZaB h1;obtain⟨h3,h4⟩:=ZFk hf ds q.2 h2;refine⟨by rw[TD.ers,yaf,yag,yag,h3],λi d' z k1 k2=> ?_⟩
  cases i with
  |zero=>cases k1;cases k2;exact hf d q.1 h1
  |succ i=>exact h4 i d' z k1 k2
theorem Zsy{H:List TEnt}:∀(n:Nat)(T:Ty)(d:TD)(y:T.den),ZyB H n T d=some y→DeepR (erH H) (d.er (lk H)) (T.enc y)
 |0,_,_,_,h=>by cases h
 |n+1,T,d,y,h=>by
  unfold ZyB at h;split at h
  ·exact .wk (.p _) (ZxS h)
  ·rename_i id nn t c;obtain⟨l,_,e1,rfl⟩:=ZoS (nn:=none) h;rw[e1,TD.er];exact .wk (.own id nn t.size _) (PlWk.sl_mk (PlsWk.refl _))
  ·rename_i ds;obtain⟨fs,z,h1,e1⟩:=ZoT h;rw[e1,TD.er];obtain⟨h2,h3⟩:=ZBC (λT d y=>Zsy n T d y) fs ds z h1;exact .agg h2 h3
  ·rename_i id
   cases T with
   |sl u=>exact ZFj h
   |_=>cases h
  ·rename_i id v s lo k;split at h
   ·rename_i u;split at h
    ·rename_i w s' e dd hd;obtain⟨hk,g⟩:=Za h;clear h;simp only[yj,beq_iff_eq] at hk;obtain⟨⟨hk1,hk2⟩,hk3⟩:=hk;have hE:=Yo hd;rw[hk1,hk2,hk3] at hE;split at g
     ·rename_i x;obtain⟨r,p1,g1⟩:=yf.1 g;obtain⟨l,p2,g2⟩:=yf.1 g1;obtain⟨p3,g3⟩:=Za g2;cases g3;obtain⟨rn,rt,rl⟩:=r;obtain⟨e1,p2⟩:=ZE p2;dsimp only at e1 p2 p3;subst e1;subst p2;rw[TEnt.er,TD.er,V2 p1] at hE;have:=DeepR.rvp hE (of_decide_eq_true p3);rw[ZzA,List.map_take,List.map_drop,TD.er,hk3];exact this
     ·rename_i N s2 ds;obtain⟨p1,g1⟩:=Za g;simp only[yj,beq_iff_eq,decide_eq_true_eq] at p1;obtain⟨q1,p1⟩:=p1;obtain⟨l,p2,g2⟩:=Zb g1;subst g2;obtain⟨h2,h3⟩:=ZFk (λd y=>Zsy n u d y) ds l p2;rw[TEnt.er,TD.er,q1,hk3] at hE;have:=DeepR.rva hE p1 h2 h3;rw[ZzA,List.map_take,List.map_drop,TD.er,hk3];exact this
     ·cases g
    ·cases h
   ·cases h
  ·cases h
def ZyC:TEnt→TEnt
 |.row v s _ e d=>.row v s false e d
 |.rowT t v _ e l=>.rowT t v false e l
 |e=>e
def Zip(ids:List Nat)(H:List TEnt):List TEnt:=(yw H.length).zipWith (λi e=>if ids.contains i then ZyC e else e) H
theorem ZFl(e:TEnt):lkE (some (ZyC e))=lkE (some e):=by cases e <;> rfl
theorem ZpZ(ids:List Nat)(H:List TEnt)(i:Nat):(Zip ids H)[i]? =(H[i]?).map λe=>if ids.contains i then ZyC e else e:=by
 unfold Zip;rw[List.getElem?_zipWith];rcases yca i H.length with h|h
 ·rw[List.getElem?_range h,yac h];rfl
 ·rw[yao (by simpa using h),yao h];rfl
theorem Zsz(ids:List Nat)(H:List TEnt):lk (Zip ids H)=lk H:=by
 funext i;unfold lk;rw[ZpZ]
 cases H[i]? with
 |none=>rfl
 |some e=>
  show lkE (some (if ids.contains i=true then ZyC e else e))=_
  split
  ·exact ZFl e
  ·rfl
theorem ZAl(ids:List Nat)(H:List TEnt):WkH (erH H) (erH (Zip ids H)):=by
 refine Zz9 (by rw[ZO,ZO];unfold Zip;simp) λi a b h1 h2=> ?_;unfold erH at h1 h2;rw[List.getElem?_map] at h1 h2;rw[Zsz,ZpZ] at h2
 cases he:H[i]? with
 |none=>rw[he] at h1;cases h1
 |some e=>
  rw[he] at h1 h2;cases h1;cases h2;show WkE (e.er (lk H)) (TEnt.er (lk H) (if ids.contains i=true then ZyC e else e))
  split
  ·cases e <;> first|exact .refl _|exact .lock
  ·exact .refl _
def ZAm:List TEnt→Nat→Bool
 |H,i=>match H[i]? with
  |some (.row _ _ _ _ _)=>true
  |some (.rowT _ _ _ _ _)=>true
  |_=>false
def ZBD(P:yg)(H:List TEnt)(t:yb)(d:TD):Option TD:=
 match d with
 |.p x=>some (.p x)
 |d=>(Zj2 P tyD t).bind λT=>(ZyB H 100 T d).map λy=>.p (.v T y)
theorem ZyD{P:yg}{H:List TEnt}{t:yb}{d e:TD}(h:ZBD P H t d=some e):DeepP (erH H) (d.er (lk H)) (e.er (lk H)):=by
 unfold ZBD at h;split at h
 ·cases h;exact .refl _
 ·obtain⟨T,h1,h⟩:=yf.1 h;obtain⟨y,h2,rfl⟩:=Zb h;exact .deep (Zsy _ _ _ _ h2)
def ZwB(P:yg)(H:List TEnt):List yb→List TD→Option (List TD)
 |[],[]=>some []
 |t::r,d::ds=>match ZBD P H t d,ZwB P H r ds with
  |some a,some b=>some (a::b)
  |_,_=>none
 |_,_=>none
theorem ZuZ{P:yg}{H:List TEnt}:∀{ts:List yb}{ds es:List TD},ZwB P H ts ds=some es→DeepL (erH H) (TD.ers (lk H) ds) (TD.ers (lk H) es)
 |[],[],es,h=>by cases h;exact .nil
 |[],_::_,es,h=>by cases h
 |_::_,[],es,h=>by cases h
 |t::r,d::ds,es,h=>by
  simp only[ZwB] at h;split at h
  ·rename_i a b h1 h2;cases h;exact .cons (ZyD h1) (ZuZ h2)
  ·cases h
def ZFm(P:yg)(H:List TEnt)(ts:List yb)(r:TD):Option TD:=
 match ts with
 |[t]=>ZBD P H t r
 |ts=>match r with
  |.tup ds=>(ZwB P H ts ds).map .tup
  |_=>none
theorem ZFn{P:yg}{H:List TEnt}{ts:List yb}{r r':TD}(h:ZFm P H ts r=some r'):DeepT (erH H) (r.er (lk H)) (r'.er (lk H)):=by
 unfold ZFm at h;split at h
 ·exact .one (ZyD h)
 ·split at h
  ·obtain⟨es,h1,rfl⟩:=Zb h;exact .tup (ZuZ h1)
  ·cases h
def ZDb{O:Type}(P:yg)(ts:List yb)(r:TD)(H:List TEnt)(K:TD→List TEnt→Option O):Option O:=
 match ts with
 |[]=>K r H
 |ts=>(ZFm P (Zip ((ZpU H 100000 r.look []).filter (ZAm H)) H) ts r).bind λr'=>K r' (Zip ((ZpU H 100000 r.look []).filter (ZAm H)) H)
theorem Zu0{O:Type}{P:yg}{ts:List yb}{r:TD}{H:List TEnt}{K:TD→List TEnt→Option O}{out:O}{g:yv}{args:List Dv}{H0:List Ent}(h:ZDb P ts r H K=some out)(hc:Con P g args H0 (r.er (lk H)) (erH H)):
 ∃r' H',K r' H'=some out∧Con P g args H0 (r'.er (lk H')) (erH H'):=by
 unfold ZDb at h;split at h
 ·exact⟨_,_,h,hc⟩
 ·obtain⟨r',h1,h2⟩:=yf.1 h;generalize (ZpU H 100000 r.look []).filter (ZAm H)=ids at h1 h2;refine⟨_,_,h2,ZEd hc (ZAl ids H) ?_⟩;have:=ZFn h1;rw[Zsz] at this ⊢;exact this
def ZDc{O:Type}(h:List TEnt)(n0:Nat)(ds:List TD)(K:TD→List TEnt→Option O):Option O:=
 let keep:=ZwA h n0 (Zsu ds)
 if once (yw n0++keep) then(match Dv.rn (toIds (yw n0++keep)) ((Zsu ds).er (lk h)) with
  |some _=>(Zsu ds).rn (toIds (yw n0++keep))
  |none=>(Zsu (ds.map (TD.arg (lk h)))).rn (toIds (yw n0++keep))).bind λr=>
  (Wi h (yw n0++keep) (yw n0++keep)).bind λh2=>K r h2
 else none
section
variable{P:yg}
def ZFo(P:yg)(his:yv→HI)(l:List (Fs P))(mt:List (yb×String×yv))(ghs:yv→List (Nat×GOp)):Nat→(O:Type)→yv→List TD→List TEnt→(TD→List TEnt→Option O)→Option O
 |0,_,_,_,_,_=>none
 |n+1,O,g,args,H,K=>foS args H λargs H=>match P.funcs[g]? with
  |some fn=>match fn.body with
   |some c=>if decide (args.length≤fn.ntmps)=true then
     evT P { hi:=his g,un:=1000000,gh:=ghs g} ⟨l,ZFo P his l mt ghs n,mt,[]⟩ c 0 0 (args++yy (fn.ntmps - args.length) .junk) H λex a h=>match ex with
      |.exit _=>none
      |_=>ZtT P a h fn.results.toList λds _=>ZDc h H.length ds λr h=>ZDb P (his g).deep r h λr h=>foS [r] h λrs h=>match rs with
       |[r]=>K r h
       |_=>none
     else none
   |none=>none
  |none=>none
theorem ZBE{his:yv→HI}{l:List (Fs P)}{mt:List (yb×String×yv)}{ghs:yv→List (Nat×GOp)}(hl:AllOk l)(hm:MtOk P mt):∀(n:Nat),HdOk P (ZFo P his l mt ghs n)
 |0=>λ_ _ _ _ _ _ h=>by cases h
 |n+1=>λO g args H K out hM=>by
  unfold ZFo at hM;simp only[ZI5] at hM;split at hM
  ·rename_i fn hf;split at hM
   ·rename_i c hb1;obtain⟨hn,hM⟩:=Za hM;have hn:=of_decide_eq_true hn
    have hlen:(args++yy (fn.ntmps - args.length) TD.junk).length=fn.ntmps:=by
     rw[yp,ycp];omega
    obtain⟨ex,a,hh,k1,k2,k3⟩:=Wl (N:=fn.ntmps) (specs:=⟨l,ZFo P his l mt ghs n,mt,[]⟩) ⟨hl,ZBE hl hm n,hm,ytt⟩ c _ _ _ _ _ hlen (λk b hk lp h=>by cases h) (λk b hk lp h=>by cases h) hM
    have hex:(ex=.ret∨ex=.normal)∧(ZtT P a hh fn.results.toList λds _=>ZDc hh H.length ds λr h=>ZDb P (his g).deep r h K)=some out:=by
     cases ex with
     |exit _=>cases k1
     |normal=>exact⟨.inr rfl,k1⟩
     |ret=>exact⟨.inl rfl,k1⟩
    obtain⟨hex,k1⟩:=hex;obtain⟨ds,hs,C,g1,g2,g3⟩:=ZhC _ _ k1;unfold ZDc at g1;dsimp only at g1;generalize ZwA hh H.length (Zsu ds)=keep at g1;obtain⟨g5,g1⟩:=Za g1;obtain⟨r,g6,g1⟩:=yf.1 g1;obtain⟨e2,g7,g1⟩:=yf.1 g1;refine Zu0 g1 ?_
    have hfin:fin P fn (TD.ers (lk hh) a) (erH hh) (erH H).length keep hs=some (C,r.er (lk e2),erH e2):=by
     unfold fin;have:=g3 [];rw[ybh] at this;rw[this];dsimp only;rw[ZO,g5, ←Zlr,show subEnts (erH hh) _ _=some (erH e2) from Wd (Q6 g7) g7]
     split at g6
     ·rename_i r0 hr0;have e4:=Zfp (Q6 g7) _ _ g6;rw[e4]
     ·rename_i hr0;have e4:=Zfp (Q6 g7) _ _ g6;rw[Zlr,ZN,ybc] at e4
      rw[hr0,show(TD.ers (lk hh) ds).map Dv.arg=ds.map (TD.er (lk hh) ∘ TD.arg (lk hh)) by
       rw[ZN,ybc];exact ycj λd _=>(ZAk d).symm,e4]
    have hrun:Ww P c (TD.ers (lk H) args++yy (fn.ntmps - (TD.ers (lk H) args).length) .junk) (erH H) ex (TD.ers (lk hh) a) (erH hh):=by
     have e5:TD.ers (lk H) (args++yy (fn.ntmps - args.length) TD.junk)=TD.ers (lk H) args++yy (fn.ntmps - (TD.ers (lk H) args).length) .junk:=by
      rw[ZvM,ZN,ZN,yax,List.map_replicate];rfl
     rw[←e5];exact k3
    exact Zj0 hf hb1 hrun hex hfin g2
   ·cases hM
  ·cases hM
def ZI6(P:yg)(his:yv→HI)(l:List (Fs P))(mt:List (yb×String×yv))(n:Nat)(g:yv)(ghs:yv→List (Nat×GOp):=λ_=>[]):Option Bool:=
 ZFo P his l mt ghs n Bool g [] [] λr h=>match h with
  |[]=>r.boolT
  |_=>none
theorem ZHo{his:yv→HI}{l:List (Fs P)}{mt:List (yb×String×yv)}{ghs:yv→List (Nat×GOp)}{n:Nat}{g:yv}{b:Bool}(hl:AllOk l)(hm:MtOk P mt)(h:ZI6 P his l mt n g ghs=some b):Con P g [] [] (.p (.bool b)) []:=by
 obtain⟨r,H',h1,h2⟩:=ZBE hl hm n _ _ _ _ _ _ h;split at h1
 ·rw[Zhx h1] at h2;exact h2
 ·cases h1
theorem ZI7{his:yv→HI}{l:List (Fs P)}{mt:List (yb×String×yv)}{ghs:yv→List (Nat×GOp)}{n:Nat}{g:yv}{b:Bool}(hl:AllOk l)(hm:MtOk P mt)(h:ZI6 P his l mt n g ghs=some b):
 Fs.Ok (⟨g,[],[],[],[⟨.ret,[(0,.v .bool)],[],[.bool]⟩],λ_=>some b⟩:Fs P):=by
 intro x o hM;cases hM;refine⟨[],[],[],rfl,rfl,λe vs s' hs hf=> ?_⟩;obtain⟨rfl,rfl⟩:=hs;cases hf;exact⟨_,rfl,ZHo hl hm h⟩
end
theorem okN{P:yg}(s:Nat→Fs P)(h:(s fuel).Ok):(s 18446744073709551616).Ok:=by
 rw[ZcL] at h;exact h
theorem ZFp{P:yg}{g:yv}{args:List Dv}{H H1 H2:List Ent}{r r2:Dv}{keep:List Nat}(h:Con P g args H r H1)(ho:once (yw H.length++keep)=true)
 (hin:subEnts H1 (yw H.length++keep) (yw H.length++keep)=some H2) (hr:r.rn (toIds (yw H.length++keep))=some r2):Con P g args H r2 H2:=by
 intro σ vs ok e hv;refine Calls.mono (h σ vs ok e hv) ?_;rintro e' w' ⟨v,σ',h1,h2,h3,h4,h5,h6⟩;subst h3;subst e;exact⟨v,Zl0 σ' (yw σ.H.length++keep) H2,h1,h2,rfl,Zq4 ok h4 ho hin,Zq3 h5 ho hin,Zff (Zik hin) hr h6⟩
def ZBF(h:List TEnt)(n0:Nat)(r:TD)(e:XSh):Option (Ty.dens e.ty):=
 match e.sl with
 |[(0,rs)]=>(ZFg h rs e.es n0 r).bind λkeep=>
  if once (yw n0++keep) then(r.rn (toIds (yw n0++keep))).bind λr=>
   (Wi h (yw n0++keep) (yw n0++keep)).bind λh2=>(Sh.mt (lk h2) rs r).bind λq=>(ESh.mts (lk h2) e.es h2).bind λw=>toD e.ty (q.2++w.2)
  else none
 |_=>none
def ZsA(h:List TEnt)(n0:Nat)(r:TD):(l:List XSh)→Option (XSh.sum l)
 |[]=>none
 |[e]=>ZBF h n0 r e
 |e::f::q=>match ZBF h n0 r e with
  |some x=>some (Sum.inl x:Ty.dens e.ty⊕XSh.sum (f::q))
  |none=>(ZsA h n0 r (f::q)).map λx=>(Sum.inr x:Ty.dens e.ty⊕XSh.sum (f::q))
theorem Zp0{h:List TEnt}{n0:Nat}{r:TD}:∀{l:List XSh}{o:XSh.sum l},ZsA h n0 r l=some o→∀e vs,Zyh l o e vs→∃x,ZBF h n0 r e=some x∧vs=ofD e.ty x
 |[],_,k,_,_,_=>by cases k
 |[e],o,k,x,vs,hs=>by
  obtain⟨rfl,rfl⟩:=hs
  exact⟨o,k,rfl⟩
 |e::f::q,o,k,x,vs,hs=>by
  simp only[ZsA] at k;split at k
  ·rename_i y hy;cases k;obtain⟨rfl,rfl⟩:=hs;exact⟨y,hy,rfl⟩
  ·obtain⟨y,h1,h2⟩:=Zb k;subst h2;exact Zp0 h1 x vs hs
section
variable{P:yg}
def fnD(P:yg)(fi:FI)(specs:Sp P)(g:yv)(ps:List Sh)(es:List ESh)(ins:List Ty)(xs:List XSh):Ty.dens ins→Option (XSh.sum xs):=λx=>
 match P.funcs[g]? with
 |some fn=>match fn.body with
  |some c=>(Sh.fills ps (ofD ins x)).bind λq=>(ESh.fills es q.2).bind λw=>if w.2.isEmpty then
    evT P fi specs c 0 0 (q.1++yy (fn.ntmps - q.1.length) .junk) w.1 λex a h=>match ex with
     |.exit _=>none
     |_=>ZtT P a h fn.results.toList λds _=>ZDc h w.1.length ds λr h=>ZDb P fi.hi.deep r h λr h=>ZsA h w.1.length r xs
    else none
  |none=>none
 |none=>none
theorem ZHp{fi:FI}{specs:Sp P}{g:yv}{ps:List Sh}{es:List ESh}{ins:List Ty}{xs:List XSh}{M:Ty.dens ins→Option (XSh.sum xs)}(ok:SpOk specs)(hl:Zj8 P g (W4 P g) fi.lp:=by exact True.intro)(hn:ps.length≤W4 P g:=by decide+kernel)
 (h:∀x,fnD P fi specs g ps es ins xs x=M x:=by intro v;kernel_rfl) (hb:Zss P (W4 P g) (ZaE P g) fi.bk:=by exact True.intro):Fs.Ok (⟨g,ps,es,ins,xs,M⟩:Fs P):=by
 intro x o hM;have hM:M x=some o:=hM;rw[←h x] at hM;have hl':=ZBB hl;unfold fnD at hM;split at hM
 ·rename_i fn hf;split at hM
  ·rename_i c hb1;obtain⟨q,h1,hM⟩:=yf.1 hM;obtain⟨w,h2,hM⟩:=yf.1 hM;obtain⟨h3,hM⟩:=Za hM;have hN:W4 P g=fn.ntmps:=by unfold W4;rw[hf]
   have hc:ZaE P g=c:=by unfold ZaE;rw[hf];dsimp only;rw[hb1];rfl
   rw[hc,hN] at hl' hb;have hb0:=Zre hb;rw[hN] at hn
   have hlen:(q.1++yy (fn.ntmps - q.1.length) TD.junk).length=fn.ntmps:=by
    rw[yp,ycp,Zlm h1];omega
   obtain⟨ex,a,hh,k1,k2,k3⟩:=Wl ok c _ _ _ _ _ hlen hl' hb0 hM
   have hex:(ex=.ret∨ex=.normal)∧(ZtT P a hh fn.results.toList λds _=>ZDc hh w.1.length ds λr h=>ZDb P fi.hi.deep r h λr h=>ZsA h w.1.length r xs)=some o:=by
    cases ex with
    |exit _=>cases k1
    |normal=>exact⟨.inr rfl,k1⟩
    |ret=>exact⟨.inl rfl,k1⟩
   obtain⟨hex,k1⟩:=hex;obtain⟨ds,hs,C,g1,g2,g3⟩:=ZhC _ _ k1;refine⟨q.1,q.2,w.1,h1, ?_,λe vs s' hsel hfs=> ?_⟩
   ·rw[h2];have:w.2=[]:=by simpa using h3
    rw[←this]
   unfold ZDc at g1;dsimp only at g1;generalize ZwA hh w.1.length (Zsu ds)=keep at g1;obtain⟨g5,g1⟩:=Za g1;obtain⟨r,g6,g1⟩:=yf.1 g1;obtain⟨e2,g7,g1⟩:=yf.1 g1
   have hrun:Ww P c (TD.ers (lk w.1) q.1++yy (fn.ntmps - (TD.ers (lk w.1) q.1).length) .junk) (erH w.1) ex (TD.ers (lk hh) a) (erH hh):=by
    have e5:TD.ers (lk w.1) (q.1++yy (fn.ntmps - q.1.length) TD.junk)=TD.ers (lk w.1) q.1++yy (fn.ntmps - (TD.ers (lk w.1) q.1).length) .junk:=by
     rw[ZvM,ZN,ZN,yax,List.map_replicate];rfl
    rw[←e5];exact k3
   have hfin:fin P fn (TD.ers (lk hh) a) (erH hh) (erH w.1).length keep hs=some (C,r.er (lk e2),erH e2):=by
    unfold fin;have:=g3 [];rw[ybh] at this;rw[this];dsimp only;rw[ZO,g5, ←Zlr,show subEnts (erH hh) _ _=some (erH e2) from Wd (Q6 g7) g7]
    split at g6
    ·rename_i r0 hr0;have e4:=Zfp (Q6 g7) _ _ g6;rw[e4]
    ·rename_i hr0;have e4:=Zfp (Q6 g7) _ _ g6;rw[Zlr,ZN,ybc] at e4
     rw[hr0,show(TD.ers (lk hh) ds).map Dv.arg=ds.map (TD.er (lk hh) ∘ TD.arg (lk hh)) by
      rw[ZN,ybc];exact ycj λd _=>(ZAk d).symm,e4]
   obtain⟨r',H',m1,m2⟩:=Zu0 g1 (Zj0 hf hb1 hrun hex hfin g2);obtain⟨o1,m3,hvs⟩:=Zp0 m1 e vs hsel;unfold ZBF at m3;split at m3
   case h_2=>cases m3
   rename_i rs hsl;obtain⟨keep2,n1,m3⟩:=yf.1 m3;obtain⟨n2,m3⟩:=Za m3;obtain⟨r3,n3,m3⟩:=yf.1 m3;obtain⟨e3,n4,m3⟩:=yf.1 m3;obtain⟨z,g8,m3⟩:=yf.1 m3;obtain⟨y,g9,m3⟩:=yf.1 m3;obtain⟨b1,b2⟩:=ZhA g9;have hcc:∀id t,Ya (lk e3) id t none=Ya (lk y.1) id t none:=λid t=>by rw[b2]
   have eo:=ZcK _ _ _ m3
   have efill:s'=([z.1],y.1):=by
    rw[hvs,eo,hsl] at hfs;unfold VQ at hfs;rw[show shs [(0,rs)] 1=[rs] from rfl] at hfs
    simp only[Sh.fills,Zlk _ _ _ g8,ya,yab] at hfs;have:=ZaD g9 [];rw[ybh] at this;rw[this] at hfs;exact(ybm hfs).symm
   subst efill;refine⟨z.1,rfl, ?_⟩
   have hk:Con P g (TD.ers (lk w.1) q.1) (erH w.1) (r3.er (lk e3)) (erH e3):=by
    refine ZFp (keep:=keep2) m2 (by rw[ZO];exact n2) ?_ ?_
    ·rw[ZO];exact Wd (Q6 n4) n4
    ·rw[ZO];exact Zfp (Q6 n4) _ _ n3
   exact ZxL hk (Zsc hcc _ _ _ g8) (Zll hcc g9)
  ·cases hM
 ·cases hM
end
end Go.Ev
end
section
namespace Go.Ev
open Go.RowKit Go.WideShapes Go.ChangeShapes
def YA(P:yg):Nat→yb→Bool
 |0,_=>false
 |n+1,t=>match P.underlying t with
  |some .bool=>true
  |some (.int _)=>true
  |some .string=>true
  |some (.slice e)=>YA P n e&&decide (0 < P.cellsOf e)
  |some (.array m e)=>YA P n e&&P.cellsOf t==m*P.cellsOf e
  |some (.struct fs)=>(fs.toList.all λf=>YA P n f.type)&&P.cellsOf t==(fs.toList.map λf=>P.cellsOf f.type).sum&&
    ((yw fs.toList.length).all λj=>match fs.toList[j]? with|some f=>f.offset==((fs.toList.take j).map λf=>P.cellsOf f.type).sum|none=>true)
  |_=>false
theorem ZwC(P:yg):Kids P (λt=>∃n,YA P n t=true) where
 pointer:=by
  rintro t e ⟨n,h⟩ hu
  cases n with
  |zero=>simp[YA] at h
  |succ n=>simp[YA,hu] at h
 slice:=by
  rintro t e ⟨n,h⟩ hu
  cases n with
  |zero=>simp[YA] at h
  |succ n=>simp[YA,hu] at h;exact⟨n,h.1⟩
 array:=by
  rintro t e m ⟨n,h⟩ hu
  cases n with
  |zero=>simp[YA] at h
  |succ n=>simp[YA,hu] at h;exact⟨⟨n,h.1⟩,h.2⟩
 struct:=by
  rintro t fs ⟨n,h⟩ hu
  cases n with
  |zero=>simp[YA] at h
  |succ n=>
   simp only[YA,hu,yj,beq_iff_eq,List.all_eq_true] at h;obtain⟨⟨h1,h2⟩,h3⟩:=h;refine⟨λf hf=>⟨n,h1 f hf⟩,h2,λj f hf=> ?_⟩;have hj:j < fs.toList.length:=(yr.1 hf).1;have:=h3 j (by simpa using hj);rw[hf] at this;simpa using this
 map:=by
  rintro t k e ⟨n,h⟩ hu
  cases n with
  |zero=>simp[YA] at h
  |succ n=>simp[YA,hu] at h
def ZHq(R:yb→Pl→Prop):List Field→List Pl→Prop
 |[],[]=>True
 |f::fs,y::ys=>R f.type y∧ZHq R fs ys
 |_,_=>False
def wtP(P:yg):Nat→yb→Pl→Prop
 |0,_,_=>False
 |n+1,t,x=>match P.underlying t,x with
  |some .bool,.bool _=>True
  |some (.int k),.int k' m=>k'=k∧(Lit.int k m).wf=true
  |some .string,.str s=>s.size≤maxLen
  |some (.slice e),.sl nn s xs=>s=P.cellsOf e∧nn=none∧xs.length≤maxLen∧∀y,y∈xs→wtP P n e y
  |some (.array m e),.arr m' s xs=>m'=m∧s=P.cellsOf e∧xs.length=m∧∀y,y∈xs→wtP P n e y
  |some (.struct fs),.agg xs=>ZHq (wtP P n) fs.toList xs
  |_,_=>False
def ZwD:Nat→Nat→Prop:=λ_ _=>True
section
variable{H:Type}{enc:yb×yh→H}{P:yg}{w:World}{base:Nat}{sp:Nat→Bool}{held:Bool}
theorem ZDd:∀{s:Nat}{a:Addr}{cs:List yh},w.cells? base a s=some cs→cs.length=s∧∀j u,cs[j]? =some u→w.cell? (a.add j)=some u:=by
 intro s a cs h;unfold World.cells? at h;split at h
 ·have hl:cs.length=s:=by simpa using mapM_some_length h
  refine⟨hl,λj u hu=> ?_⟩;have hj:j < s:=by rw[←hl];exact(yr.1 hu).1
  have:=mapM_some_get h j j (by simp[hj]);rw[hu] at this;exact this
 ·cases h
end
end Go.Ev
namespace Go.Ev
open Go.RowKit Go.WideShapes Go.ChangeShapes
def ZHr(P:yg)(n:Nat):List yb→List Pl→Prop
 |[],[]=>True
 |t::ts,x::xs=>wtP P n t x∧ZHr P n ts xs
 |_,_=>False
section
variable{H:Type}{enc:yb×yh→H}{P:yg}
def sg0(W:World):Sg:={ F:=ZwD,B:=λb=>W.heap.size≤b,m:=[],H:=[],w:=W}
theorem ZI8(W:World):Ok (sg0 W) where
 len:=rfl
 inj i j b h:=by simp[sg0] at h
 lt i b h:=by simp[sg0] at h
 ent i e a h:=by simp[sg0] at h
 new b h:=h
 own i b h:=by simp[sg0] at h
theorem ZFq(W:World)(b o:Nat):(sg0 W).stab b o:=⟨.inl trivial,λid e h=>by simp[sg0] at h⟩
theorem ZsB{W:World}{x:Pl}{v:yh}{cs:List yh}(hx:repC W ZwD x cs)(hc:v.cells.toList=cs)(hv:x.isAgg=true→∃a,v=.agg a)(hn:x.isAgg=false→cs=[v]):repDV (sg0 W) (.p x) v:=by
 have hm:repC W (sg0 W).stab x cs:=ZaM (λb o u h _=>⟨h,ZFq W b o⟩) x cs hx;refine⟨λha=> ?_,λha=> ?_⟩
 ·obtain⟨a,rfl⟩:=hv ha;refine⟨a,rfl, ?_⟩;simp only[repD];have:a.toList=cs:=by rw[←hc];rfl
  rw[this];exact hm
 ·simp only[repD];have e:=hn ha;rw[←e];exact hm
theorem ZI9:∀{n:Nat}{t:yb}{x:Pl},wtP P n t x→x.isAgg=X7 P t
 |0,_,_,h=>by simp[wtP] at h
 |n+1,t,x,h=>by
  unfold wtP at h;split at h <;> rename_i hu <;> first|(simp[Pl.isAgg,X7,hu];done)|exact h.elim
theorem Zl2{W W':World}{sp':Nat→Bool}{n:Nat}:∀(ts:List yb)(vs:List yh)(ds:List (DataW H))(ps:List MemPlace),(∀t,t∈ts→YA P n t=true)→
 DataW.TrodAll enc P W 0 (λ_=>true) true ts vs ds ps→(∀p∈ps,W.sameAt W' p)→(∀p∈ps,sp' p.block=true)→DataW.TrodAll enc P W' 0 sp' true ts vs ds ps
 |[],[],[],_,_,h,_,_=>h
 |[],_::_,_,_,_,h,_,_=>by simp[DataW.TrodAll] at h
 |[],[],_::_,_,_,h,_,_=>by simp[DataW.TrodAll] at h
 |_::_,[],_,_,_,h,_,_=>by simp[DataW.TrodAll] at h
 |_::_,_::_,[],_,_,h,_,_=>by simp[DataW.TrodAll] at h
 |t::ts,v::vs,d::ds,ps,hp,h,hs,hb=>by
  obtain⟨p,q,⟨fuel,h1⟩,h2,rfl⟩:=h;refine⟨p,q,⟨fuel, ?_⟩,Zl2 ts vs ds q (λu hu=>hp u (yaw _ hu)) h2 (λz hz=>hs z (List.mem_append_right _ hz)) (λz hz=>hb z (List.mem_append_right _ hz)),rfl⟩
  exact DataW.trod_stays (ZwC P) (λ{t e}⟨n,hn⟩hu=>by
   cases n with
   |zero=>simp[YA] at hn
   |succ n=>simp[YA,hu] at hn;exact hn.2) (by simp) ⟨n,hp t (yav ..)⟩ h1 (λz hz=>hs z (List.mem_append_left _ hz)) (λz hz=>hb z (List.mem_append_left _ hz))
theorem ZyE{W:World}{σ':Sg}(h:To (sg0 W) σ'):Below W.heap.size W σ'.w:=
 ⟨h.os,h.tape,h.output,h.size,λb hb=>h.block b hb (λid=>by simp[sg0])⟩
theorem ZsC{f:Func}{s:ChangeSpec}{apart fresh handsOn again:Bool}{W W':World}{args:Array yh}{v:yh}{ds gs:List (DataW H)}{before pa pv:List MemPlace}
 (hW:DataW.Whole enc P f.params.toList s.vars apart W args.toList ds gs before)
 (hres:∀(b:Nat)(sp:Nat→Bool)(hd:Bool),DataW.TrodAll enc P W' b sp hd f.resultTypes.toList (v.resultList f.resultTypes.size) (s.fn H (ds++gs)).results [])
 (hargs:∀sp:Nat→Bool,(∀p∈before,sp p.block=true)→DataW.TrodAll enc P W' 0 sp true f.params.toList args.toList (s.fn H (ds++gs)).args pa)
 (hvars:∀sp:Nat→Bool,(∀p∈before,sp p.block=true)→DataW.TrodVars enc P W' sp s.vars (s.fn H (ds++gs)).vars pv)
 (hps:before=pa++pv) (hb:Below W.heap.size W W')
 (hok:∀(j:Nat)(t:yb)(r:yh),f.resultTypes[j]? =some t→(v.resultList f.resultTypes.size)[j]? =some r→Value.okWide P W' .any 0 t r):
 s.post enc P f apart fresh handsOn again W args v W':=by
 have hlt:∀p∈before,p.block < W.heap.size:=λp hp=>hW.lt p hp;have hold:∀p∈before,(λb=>decide (b < W.heap.size)) p.block=true:=λp hp=>by simpa using hlt p hp
 refine⟨ds,gs,before,[],pa,pv,hW,hres _ _ _,hargs _ hold,hvars _ hold,World.keptBut_mono (λp hp=>⟨hp, ?_⟩) (hb.frame (· ∈before)),λ_=> ?_⟩
 ·rw[hps,List.mem_append] at hp;exact Or.inr hp
 ·obtain⟨_,_,_,_,_,hz,hn⟩:=hW;refine⟨hok,_,_,([]++pa)++pv,⟨[]++pa,pv,trodAll_append (hargs _ (λ_ _=>rfl)) (hres _ _ _),hvars _ (λ_ _=>rfl),rfl, ?_, ?_⟩, ?_⟩
  ·intro b off hp;have hin:MemPlace.cell b off∈before:=by rw[hps];simpa using hp
   rw[hb.frozen (hlt _ hin)];exact hz b off hin
  ·intro ha;have:=hn ha;rw[hps] at this;simpa using this
  ·intro p hp _;rw[hps];simpa using hp
end
end Go.Ev
namespace Go.Ev
end Go.Ev
end
section
namespace Go.Ev
mutual
def Ty.Wf:(t:Ty)→t.den→Prop
 |.int k,n=>(Lit.int k n).wf=true
 |.u8,_=>True
 |.u32,_=>True
 |.u64,_=>True
 |.bool,_=>True
 |.str,s=>s.size≤maxLen
 |.sl t,l=>List.length l≤maxLen∧∀x,List.Mem x l→Ty.Wf t x
 |.arr n t,l=>List.length l=n∧∀x,List.Mem x l→Ty.Wf t x
 |.st fs,x=>Ty.Wfs fs x
def Ty.Wfs:(fs:List Ty)→Ty.dens fs→Prop
 |[],_=>True
 |[t],x=>Ty.Wf t x
 |t::u::r,x=>Ty.Wf t x.1∧Ty.Wfs (u::r) x.2
end
mutual
def ZAn(P:yg):Nat→yb→Ty→Bool
 |0,_,_=>false
 |n+1,t,T=>match P.underlying t,T with
  |some (.int .u8),.u8=>true
  |some (.int .u32),.u32=>true
  |some (.int .u64),.u64=>true
  |some (.int k),.int k'=>decide (k=k')
  |some .bool,.bool=>true
  |some .string,.str=>true
  |some (.slice e),.sl T'=>P.cellsOf e==T'.size&&ZAn P n e T'
  |some (.array m e),.arr m' T'=>m==m'&&(P.cellsOf e==T'.size&&ZAn P n e T')
  |some (.struct fs),.st Ts=>tyOks P n fs.toList Ts
  |_,_=>false
def tyOks(P:yg):Nat→List Field→List Ty→Bool
 |0,_,_=>false
 |_+1,[],[]=>true
 |n+1,f::fs,T::Ts=>ZAn P n f.type T&&tyOks P n fs Ts
 |_+1,_,_=>false
end
theorem ZKa{m:Int}(h:(Lit.int .u8 m).wf=true):∃b:UInt8,m=(b.toNat:Int):=by
 simp only[Lit.wf,yj,decide_eq_true_eq] at h;have h1:(0:Int)≤m:=h.1;have h2:m≤255:=h.2;refine⟨yau m.toNat, ?_⟩;have:(yau m.toNat).toNat=m.toNat:=by simp;omega
 rw[this];omega
theorem ZJa{m:Int}(h:(Lit.int .u32 m).wf=true):∃b:UInt32,m=(b.toNat:Int):=by
 simp only[Lit.wf,yj,decide_eq_true_eq] at h;have h1:(0:Int)≤m:=h.1;have h2:m≤4294967295:=h.2;refine⟨ybs m.toNat, ?_⟩;have:(ybs m.toNat).toNat=m.toNat:=by simp;omega
 rw[this];omega
theorem ZJb{m:Int}(h:(Lit.int .u64 m).wf=true):∃b:UInt64,m=(b.toNat:Int):=by
 simp only[Lit.wf,yj,decide_eq_true_eq] at h;have h1:(0:Int)≤m:=h.1;have h2:m≤18446744073709551615:=h.2;refine⟨yad m.toNat, ?_⟩;have:(yad m.toNat).toNat=m.toNat:=by simp;omega
 rw[this];omega
theorem ZAo{α β:Type}{f:α→β}{R:α→Prop}:∀{ys:List β},(∀y,y∈ys→∃x,y=f x∧R x)→∃l:List α,ys=l.map f∧∀x,List.Mem x l→R x
 |[],_=>⟨[],rfl,λx hx=>by cases hx⟩
 |y::ys,h=>by
  obtain⟨x,rfl,hx⟩:=h y (yav ..);obtain⟨l,rfl,hl⟩:=ZAo (λz hz=>h z (yaw _ hz))
  exact⟨x::l,rfl,λz hz=>by
   cases hz with
   |head=>exact hx
   |tail _ hz=>exact hl z hz⟩
mutual
theorem Zu1{P:yg}:∀(m n:Nat)(t:yb)(T:Ty)(x:Pl),ZAn P m t T=true→wtP P n t x→∃v:T.den,T.Wf v∧x=T.enc v
 |0,_,_,_,_,h,_=>by simp[ZAn] at h
 |_+1,0,_,_,_,_,h=>by simp[wtP] at h
 |m+1,n+1,t,T,x,h,hw=>by
  unfold ZAn at h;split at h
  ·rename_i hu;unfold wtP at hw;rw[hu] at hw;cases x <;> try exact hw.elim
   obtain⟨rfl,h2⟩:=hw;obtain⟨b,rfl⟩:=ZKa h2;exact⟨b,trivial,rfl⟩
  ·rename_i hu;unfold wtP at hw;rw[hu] at hw;cases x <;> try exact hw.elim
   obtain⟨rfl,h2⟩:=hw;obtain⟨b,rfl⟩:=ZJa h2;exact⟨b,trivial,rfl⟩
  ·rename_i hu;unfold wtP at hw;rw[hu] at hw;cases x <;> try exact hw.elim
   obtain⟨rfl,h2⟩:=hw;obtain⟨b,rfl⟩:=ZJb h2;exact⟨b,trivial,rfl⟩
  ·rename_i k k' hu;have h:=of_decide_eq_true h;subst h;unfold wtP at hw;rw[hu] at hw;cases x <;> try exact hw.elim
   obtain⟨rfl,h2⟩:=hw;exact⟨_,h2,rfl⟩
  ·rename_i hu;unfold wtP at hw;rw[hu] at hw;cases x <;> try exact hw.elim
   exact⟨_,trivial,rfl⟩
  ·rename_i hu;unfold wtP at hw;rw[hu] at hw;cases x <;> try exact hw.elim
   exact⟨_,hw,rfl⟩
  ·rename_i e T' hu;simp only[yj,beq_iff_eq] at h;unfold wtP at hw;rw[hu] at hw;cases x <;> try exact hw.elim
   obtain⟨rfl,rfl,h3,h4⟩:=hw
   obtain⟨l,rfl,h5⟩:=ZAo λy hy=>(by
    obtain⟨v,a,b⟩:=Zu1 m n e T' y h.2 (h4 y hy);exact⟨v,b,a⟩:∃v:T'.den,y=T'.enc v∧T'.Wf v)
   refine⟨l,⟨by simpa using h3,h5⟩, ?_⟩;rw[h.1];rfl
  ·rename_i m0 e m' T' hu;simp only[yj,beq_iff_eq] at h;obtain⟨rfl,h⟩:=h;unfold wtP at hw;rw[hu] at hw;cases x <;> try exact hw.elim
   obtain⟨rfl,rfl,h3,h4⟩:=hw
   obtain⟨l,rfl,h5⟩:=ZAo λy hy=>(by
    obtain⟨v,a,b⟩:=Zu1 m n e T' y h.2 (h4 y hy);exact⟨v,b,a⟩:∃v:T'.den,y=T'.enc v∧T'.Wf v)
   refine⟨l,⟨by simpa using h3,h5⟩, ?_⟩;rw[h.1];rfl
  ·rename_i fs Ts hu;unfold wtP at hw;rw[hu] at hw;cases x <;> try exact hw.elim
   rename_i xs;obtain⟨v,h1,rfl⟩:=wt_tys m n fs.toList Ts xs h hw;exact⟨v,h1,rfl⟩
  ·cases h
theorem wt_tys{P:yg}:∀(m n:Nat)(fs:List Field)(Ts:List Ty)(xs:List Pl),tyOks P m fs Ts=true→ZHq (wtP P n) fs xs→∃v:Ty.dens Ts,Ty.Wfs Ts v∧xs=Ty.encs Ts v
 |0,_,_,_,_,h,_=>by simp[tyOks] at h
 |m+1,n,[],[],[],h,hw=>⟨(),trivial,rfl⟩
 |m+1,n,[],[],_::_,h,hw=>hw.elim
 |m+1,n,[],_::_,_,h,hw=>by cases h
 |m+1,n,_::_,[],_,h,hw=>by cases h
 |m+1,n,_::_,_::_,[],h,hw=>hw.elim
 |m+1,n,f::fs,[T],x::xs,h,hw=>by
  simp only[tyOks,yj] at h;obtain⟨v,h1,rfl⟩:=Zu1 m n f.type T x h.1 hw.1
  cases fs with
  |nil=>cases xs with
   |nil=>exact⟨v,h1,rfl⟩
   |cons _ _=>exact hw.2.elim
  |cons _ _=>
   cases m with
   |zero=>exact absurd h.2 (by simp[tyOks])
   |succ m=>exact absurd h.2 (by simp[tyOks])
 |m+1,n,f::fs,T::U::Ts,x::xs,h,hw=>by
  simp only[tyOks,yj] at h;obtain⟨v,h1,rfl⟩:=Zu1 m n f.type T x h.1 hw.1;obtain⟨w,h2,rfl⟩:=wt_tys m n fs (U::Ts) xs h.2 hw.2;exact⟨(v,w),⟨h1,h2⟩,rfl⟩
end
theorem Zu2{I X:Type}{step:I→Option (I⊕X)}(Inv:I→Prop)(mu:I→Nat)(Post:X→Prop)
 (h:∀i,Inv i→(∃j,step i=some (.inl j)∧Inv j∧mu j < mu i)∨(∃x,step i=some (.inr x)∧Post x)):∀(n:Nat)(i:I),Inv i→mu i < n→∃x,Zc step n i=some x∧Post x
 |0,i,_,hn=>by omega
 |n+1,i,hi,hn=>by
  unfold Zc;rcases h i hi with⟨j,h1,h2,h3⟩|⟨x,h1,h2⟩
  ·rw[h1,ya];exact Zu2 Inv mu Post h n j h2 (by omega)
  ·rw[h1,ya];exact⟨x,rfl,h2⟩
theorem WF{I X:Type}{step:I→Option (I⊕X)}(Inv:I→Prop)(mu:I→Nat)(Post:X→Prop)
 (h:∀i,Inv i→(∃j,step i=some (.inl j)∧Inv j∧mu j < mu i)∨(∃x,step i=some (.inr x)∧Post x)) (i:I) (hi:Inv i) (hm:mu i < 18446744073709551616):∃x,Zc step fuel i=some x∧Post x:=by
 refine Zu2 Inv mu Post h fuel i hi ?_;rw[ZcL];exact hm
theorem ZD{z:Int}(h1: -9223372036854775808≤z)(h2:z≤9223372036854775807):wi z=z:=by
 simp only[wi,IntKind.wrap,IntKind.signed,IntKind.bits];simp;omega
theorem ZgC{α:Type}{l:List α}{i:Int}{y:α}(h0:0≤i)(h:l[i.toNat]? =some y):idx l i=some y:=by
 unfold idx;rw[if_pos h0,h]
theorem Zbh{α:Type}{l:List α}{i:Nat}(h:i < l.length):∃y,l[i]? =some y:=⟨_,yac h⟩
theorem Xf{i:Int}{n:Nat}(h1:0≤i)(h2:i < (n:Int)):inB i n=true:=by simp[inB,h1,h2]
theorem Yj{n m b:Nat}(h1:(n+m)*b≤140737488355328)(h2:n+m≤9223372036854775807):apB n m b=true:=by
 unfold apB;rw[yj];exact⟨decide_eq_true h1,decide_eq_true h2⟩
def tdv:(ts:List Ty)→Ty.dens ts→List TD
 |[],_=>[]
 |[t],x=>[.p (.v t x)]
 |t::u::r,x=>.p (.v t x.1)::tdv (u::r) x.2
theorem ZBG:∀(ts:List Ty)(x:Ty.dens ts),Sh.fills (ts.map .v) (ofD ts x)=some (tdv ts x,[])
 |[],_=>rfl
 |[t],x=>by
  rw[show ofD [t] x=[⟨t,x⟩] from rfl,yaf,List.map_nil,Sh.fills,Sh.fill]
  have e:=Y5 t x;dsimp only;rw[e]
  rfl
 |t::u::r,x=>by
  have h:=ZBG (u::r) x.2;have e:=Y5 t x.1;rw[show ofD (t::u::r) x=⟨t,x.1⟩::ofD (u::r) x.2 from rfl,yaf,Sh.fills,Sh.fill]
  dsimp only;rw[e,yab,ya,h];rfl
theorem ZFr{L:Lk}:∀(ts:List Ty)(x:Ty.dens ts),TD.ers L (tdv ts x)=(Ty.encs ts x).map .p
 |[],_=>rfl
 |[t],x=>rfl
 |t::u::r,x=>by
  rw[show tdv (t::u::r) x=.p (.v t x.1)::tdv (u::r) x.2 from rfl,ZN,yaf, ←ZN,ZFr (u::r) x.2]
  rfl
theorem ZHs{P:yg}{g:yv}{ts:List Ty}{M:Ty.dens ts→Option Bool}(hok:Fs.Ok (⟨g,ts.map .v,[],ts,[⟨.ret,[(0,.v .bool)],[],[.bool]⟩],M⟩:Fs P)){x:Ty.dens ts}(h:M x=some true):
 Con P g ((Ty.encs ts x).map .p) [] (.p (.bool true)) []:=by
 obtain⟨args,R,H,h1,h2,h3⟩:=hok x true h;have e:=(ZBG ts x).symm.trans (show Sh.fills (ts.map .v) (ofD ts x)=some (args,R) from h1)
 cases e;cases h2
 obtain⟨r,h4,h5⟩:=h3 _ [⟨.bool,true⟩] ([.p (.v .bool true)],[]) ⟨rfl,rfl⟩ (by
  simp only[VQ,shs];rfl)
 cases h4;rw[←ZFr (L:=lk [])];exact h5
theorem ZmQ{P:yg}{s:Fs P}(h:s.Ok){M:Ty.dens s.ins→Option (XSh.sum s.xs)}(e:∀x,M x=s.M x):Fs.Ok (P:=P) { s with M:=M}:=by
 have:M=s.M:=funext e;subst this;exact h
def ZsD(P:yg)(m:Nat):List yb→List Ty→Bool
 |[],[]=>true
 |t::ts,T::Ts=>ZAn P m t T&&ZsD P m ts Ts
 |_,_=>false
theorem ZBH{P:yg}{m n:Nat}:∀{ts:List yb}{Ts:List Ty}{xs:List Pl},ZsD P m ts Ts=true→ZHr P n ts xs→∃v:Ty.dens Ts,Ty.Wfs Ts v∧xs=Ty.encs Ts v
 |[],[],[],_,_=>⟨(),trivial,rfl⟩
 |[],[],_::_,_,h=>h.elim
 |[],_::_,_,h,_=>by cases h
 |_::_,[],_,h,_=>by cases h
 |_::_,_::_,[],_,h=>h.elim
 |t::ts,[T],x::xs,h,hw=>by
  simp only[ZsD,yj] at h;obtain⟨v,h1,rfl⟩:=Zu1 m n t T x h.1 hw.1
  cases ts with
  |nil=>cases xs with
   |nil=>exact⟨v,h1,rfl⟩
   |cons _ _=>exact hw.2.elim
  |cons _ _=>exact absurd h.2 (by simp[ZsD])
 |t::ts,T::U::Ts,x::xs,h,hw=>by
  simp only[ZsD,yj] at h;obtain⟨v,h1,rfl⟩:=Zu1 m n t T x h.1 hw.1;obtain⟨w,h2,rfl⟩:=ZBH (Ts:=U::Ts) h.2 hw.2;exact⟨(v,w),⟨h1,h2⟩,rfl⟩
theorem ZwE{P:yg}{g:yv}{t:Ty}{xs:List XSh}{MA M:Ty.dens [.sl t]→Option (XSh.sum xs)}(hA:Fs.Ok (⟨g,[.sl true t],[],[.sl t],xs,MA⟩:Fs P))
 (h1:M ([]:List t.den)=none) (h2:∀(x:t.den)(l:List t.den),M (x::l)=MA (x::l)):Fs.Ok (⟨g,[.v (.sl t)],[],[.sl t],xs,M⟩:Fs P):=by
 intro l o hM;have key:∀(l:List t.den),Ty.cast (.sl t) (.sl t) l=some l:=λl=>Y5 (.sl t) l
 have h3:∀l:List t.den,M l=some o→MA l=some o∧l≠[]:=λl hl=>by
  cases l with
  |nil=>rw[h1] at hl;cases hl
  |cons x l=>exact⟨by rw[←h2];exact hl,by simp⟩
 obtain⟨hMA,hne⟩:=h3 l hM;obtain⟨a1,R1,H1,f1,f2,f3⟩:=hA l o hMA
 have e1:a1=[.p (.sl (some true) t l)]∧R1=[]:=by
  have:Sh.fills [.sl true t] [(⟨.sl t,l⟩:TV)]=some (a1,R1):=f1;simp only[Sh.fills,Sh.fill] at this;rw[key l] at this;have this:some (([.p (.sl (some true) t l)]:List TD),([]:List TV))=some (a1,R1):=this;cases this;exact⟨rfl,rfl⟩
 obtain⟨rfl,rfl⟩:=e1;cases f2;refine⟨[.p (.v (.sl t) l)],[],[], ?_,rfl,λe vs s' hs hf=> ?_⟩
 ·show Sh.fills [.v (.sl t)] [(⟨.sl t,l⟩:TV)]=_;simp only[Sh.fills,Sh.fill];rw[key l];rfl
 ·obtain⟨r,r1,r2⟩:=f3 e vs s' hs hf;exact⟨r,r1,ZA3 (xs:=List.map t.enc l) r2 λhl=>absurd (List.map_eq_nil_iff.1 hl) hne⟩
theorem ZKb{P:yg}{g:yv}{ps:List Sh}{es:List ESh}{ins:List Ty}{xr xp:XSh}{MR:Ty.dens ins→Option (XSh.sum [xr])}{MP:Ty.dens ins→Option (XSh.sum [xp])}(c:Ty.dens ins→Bool)
 (hR:Fs.Ok (⟨g,ps,es,ins,[xr],MR⟩:Fs P)) (hP:Fs.Ok (⟨g,ps,es,ins,[xp],MP⟩:Fs P)):Fs.Ok (⟨g,ps,es,ins,[xr,xp],λx=>if c x=true then(MP x).map .inr else(MR x).map .inl⟩:Fs P):=by
 intro x o hM
 replace hM:(if c x=true then(MP x).map Sum.inr else(MR x).map Sum.inl)=some o:=hM
 split at hM
 ·obtain⟨y,h1,rfl⟩:=yq.1 hM;obtain⟨a,R,H,f1,f2,f3⟩:=hP x y h1;exact⟨a,R,H,f1,f2,λe vs s' hs hf=>f3 e vs s' hs hf⟩
 ·obtain⟨y,h1,rfl⟩:=yq.1 hM;obtain⟨a,R,H,f1,f2,f3⟩:=hR x y h1;exact⟨a,R,H,f1,f2,λe vs s' hs hf=>f3 e vs s' hs hf⟩
end Go.Ev
end
section
namespace Go.Proofs.YtmkgbalfkhaflaaGreat
open Go.Ev Go.RowKit Go.Lib
theorem ZAp(w:World):Calls yc 178 #[.slice none 0 0,.int .i64 0] w λe w'=>e=.returned (.slice none 0 0)∧w'=w:=by
 go_enter Tryz.func178,Tryz.ntmps178
 go_wp2
 go_ret
 exact⟨rfl,rfl⟩
theorem ZDe(n:Nat)(w:World)(h0:0 < n)(hn:n≤Zn):Calls yc 178 #[.slice none 0 0,.int .i64 n] w λe w'=>e=.returned (.slice (some ⟨w.heap.size,0,none⟩) 0 (grownCap w n 0 5))∧
 w'=w.drew.alloc (.cells (Builtin.zeroCells #[.int .u8 0] n++Builtin.zeroCells #[.int .u8 0] (grownCap w n 0 5 - n)) 5):=by
 have hb:n≤140737488355328:=hn;have h1:¬((n:Int) < 0):=by omega
 have h3:wrap64 ((n:Int) - ((0:Int) - (0:Int)))=(n:Int):=by unfold wrap64;omega
 have h3':wrap64 ((n:Int) - 0)=(n:Int):=by unfold wrap64;omega
 have h3'':wrap64 (n:Int)=(n:Int):=by unfold wrap64;omega
 have h4:(n:Int) > 0:=by omega
 have hi:∃i,yc.info? 5=some i∧i.zero=some (.int .u8 0)∧i.size=1∧i.bytes=1:=by
  have h:(yc.info? 5).map (λi=>(i.zero,i.size,i.bytes))=some (some (.int .u8 0),1,1):=by kernel_rfl
  obtain⟨i,h1,h2⟩:=yq.1 h;simp only[Prod.mk.injEq] at h2;exact⟨i,h1,h2.1,h2.2.1,h2.2.2⟩
 obtain⟨i,hi1,hi2,hi3,hi4⟩:=hi
 have hrz:∀ty,(Builtin.append_ #[74,3] ty #[.slice none 0 0,.int .i64 n]).run yc w=
  .ok (.slice (some ⟨w.heap.size,0,none⟩) n (grownCap w n 0 5)) (w.drew.alloc (.cells (Builtin.zeroCells #[.int .u8 0] n++Builtin.zeroCells #[.int .u8 0] (grownCap w n 0 5 - n)) 5)):=λty=>by
  have h:=Lib.run_append_grow_zeros (P:=yc) w 74 3 ty 5 i (.int .u8 0) .i64 .i64 Tryz.underlying74 Tryz.underlying3 hi1 hi2 none 0 0 [] (by rw[hi3];simp[Builtin.firstCells]) n h0 (by omega) (by omega) (by omega)
   (by rw[hi4];omega) (by rw[ybe];exact growslice_fits h0 (by rw[hi4];omega))
  simpa[Value.cells] using h
 obtain⟨G,hG⟩:∃G,G=grownCap w n 0 5:=⟨_,rfl⟩;have hGn:=grownCap_ge w n 0 5;have hG63:=grownCap_le_maxLen w n 0 5 (by unfold maxLen;omega);unfold maxLen at hG63;rw[←hG] at hrz hGn hG63 ⊢;clear hG
 go_enter Tryz.func178,Tryz.ntmps178
 go_wp2_with (at_builtin;refine Lib.wpList_append_run _ rfl _ _ _ _ rfl _ _ rfl rfl _ _ (hrz _) ?_)
 all_goals (go_ret;exact⟨rfl,rfl⟩)
theorem ZFs(n:Nat)(hn:n≤Zn):Con yc 178 [.p (.sl (some false) 1 []),.p (.int .i64 (n:Int))] [] (.own 0 none 1 []) [.log 1 5 []]:=by
 intro σ vs ok hH hvs;simp only[repVs] at hvs;obtain⟨v,_,rfl,hv,v2,_,rfl,hv2,rfl⟩:=hvs;obtain rfl:=ZrC hv
 obtain rfl:v2=.int .i64 n:=by
  have:=hv2.2 rfl;simpa[repD,repC] using this
 have hm:σ.m=[]:=List.eq_nil_of_length_eq_zero (by rw[ok.len,hH];rfl);rcases ycc n with rfl|h0
 ·refine(ZAp σ.w).mono λe w'⟨he,hw⟩=> ?_;subst he;subst hw;obtain⟨to,ok'⟩:=WJ (σ':={ σ with m:=σ.m++[none],H:=σ.H++[.log 1 5 []]}) ok rfl rfl rfl rfl (World.grownBy.refl σ.w none) (.inl rfl) (λ_=>.inl ⟨rfl,rfl⟩);refine⟨_,{ σ with m:=σ.m++[none],H:=σ.H++[.log 1 5 []]},rfl,rfl,by simp[hH],to,ok', ?_⟩;rw[Zd rfl];simp only[repD];exact⟨λ_ hx=>(by cases hx),none,0,rfl,yn _,by simp[maxLen],Yx _,λ_=>rfl,λh=>absurd rfl h,5,[],by simp[hH],yn _,λ_=>.inl ⟨by simp[hm],rfl,rfl⟩⟩
 ·refine(ZDe n σ.w h0 hn).mono λe w'⟨he,hw⟩=> ?_;subst he;subst hw;have hge:=grownCap_ge σ.w n 0 5;have hcm:=grownCap_le_maxLen σ.w n 0 5 (by have:n≤140737488355328:=hn;unfold maxLen;omega)
  have hsz:(Builtin.zeroCells #[.int .u8 0] n++Builtin.zeroCells #[.int .u8 0] (grownCap σ.w n 0 5 - n):Array yh).size=grownCap σ.w n 0 5*1:=by
   simp only[Array.size_append,size_zeroCells];simp;omega
  let cs:Array yh:=Builtin.zeroCells #[.int .u8 0] n++Builtin.zeroCells #[.int .u8 0] (grownCap σ.w n 0 5 - n);let σ':Sg:={ σ with m:=σ.m++[some σ.w.heap.size],H:=σ.H++[.log 1 5 []],w:=σ.w.drew.alloc (.cells cs 5)};have hblk:σ'.w.heap[σ.w.heap.size]? =some (.cells cs 5 (0,0)):=heap_alloc_new σ.w.drew _
  obtain⟨to,ok'⟩:=WJ (σ':=σ') ok rfl rfl rfl rfl (XG σ.w (.cells cs 5) none) (.inr ⟨_,rfl,yn _,by simp[σ']⟩)
   (λleaf=>.inr ⟨σ.w.heap.size,_,grownCap σ.w n 0 5,rfl,hblk,hsz,Nat.zero_le _,hcm,λ_ hx=>(by cases hx),by simp[repCs]⟩)
  refine⟨_,σ',rfl,rfl,by simp[σ',hH],to,ok', ?_⟩;rw[Zd rfl];simp only[repD];exact⟨λ_ hx=>(by cases hx),_,_,rfl,Nat.zero_le _,hcm,Yx _,λh=>(by cases h),λh=>absurd rfl h,5,[],by simp[σ',hH],yn _,λ_=>.inr ⟨_,_,by simp[σ',hm],rfl,hblk,hsz⟩⟩
end Go.Proofs.YtmkgbalfkhaflaaGreat
end
section
set_option maxRecDepth 4000
namespace Go.Proofs.YtmkgbalfkhaflaaGreat
open Go Go.Ev
noncomputable section
abbrev yI:Ty:=.int .i64
abbrev Zq:Ty:=(.st [yI,yI,yI,.u64,yI])
abbrev Cond:Type:=(Int×Int×Int×UInt64×Int)
abbrev Z1:Ty:=(.st [.u64,.u64])
abbrev Sig:Type:=(UInt64×UInt64)
abbrev Sig.R(x:Sig):UInt64:=x.1
abbrev XU:Ty:=(.st [(.arr 32 .u8),yI])
abbrev Xw:Type:=((List UInt8)×Int)
abbrev Xw.N(x:Xw):Int:=x.2
abbrev ZsE:Ty:=(.st [yI,(.sl Z1),.u64])
abbrev ZBI:Type:=(Int×(List Sig)×UInt64)
abbrev yIn:Ty:=(.st [XU,ZsE])
abbrev In:Type:=(Xw×ZBI)
abbrev Zp:Ty:=(.st [(.sl .u64),yI,yI,.u64])
abbrev ZM:Type:=((List UInt64)×Int×Int×UInt64)
abbrev Zo:Ty:=(.st [(.sl Zp)])
abbrev Lock:Type:=(List ZM)
abbrev ZL:Ty:=(.st [yI,Zo])
abbrev Out:Type:=(Int×Lock)
abbrev yTx:Ty:=(.st [(.sl yIn),(.sl ZL),yI])
abbrev Tx:Type:=((List In)×(List Out)×Int)
abbrev V4:Ty:=(.st [.u64,.u64,.u64,.u64,.u64])
abbrev QZ:Type:=(UInt64×UInt64×UInt64×UInt64×UInt64)
abbrev QZ.Cond(x:QZ):UInt64:=x.2.2.2.1
abbrev ZdL:Ty:=(.st [yI,yI,yI,yI,yI,yI])
abbrev Zbi:Type:=(Int×Int×Int×Int×Int×Int)
abbrev Zi:Ty:=(.st [yI,yI,yI,Zq,.u64,(.sl .u8),yI,Z1,(.arr 32 .u8),.u64,yTx,V4,ZdL,(.sl .u8)])
abbrev Msg:Type:=(Int×Int×Int×Cond×UInt64×(List UInt8)×Int×Sig×(List UInt8)×UInt64×Tx×QZ×Zbi×(List UInt8))
abbrev Msg.Cond(x:Msg):Cond:=x.2.2.2.1
def ZdM(F:Nat)(a0:Msg)(s0:Int):Option ((Bool×Int)):=
 some (a0.1==s0,s0)
def ZhE:Fs yc:=⟨100,[.v Zi,.ref 0 []],[.var (.v yI) true],[Zi,yI],[⟨.ret,[(0,.v .bool)],[.var (.v yI) true],[.bool,yI]⟩],λx=>ZdM fuel x.1 x.2⟩
theorem ZnO:ZhE.Ok:=fnO { still:=[3]} [] [] trivial
def Zdc(F:Nat)(s:((List Msg)×Int×Int×Int)):Option (((List Msg)×Int×Int×Int)⊕((Int×Int)⊕Int)):=
 if(decide (s.2.2.1 < s.2.1))=true then
  (idx s.1 s.2.2.1).bind λe1=>
  (ZdM F e1 s.2.2.2).bind λo2=>
  if o2.1=true then
   some (.inr (.inl (s.2.2.1,o2.2)))
  else
  some (.inl (s.1,s.2.1,wi (s.2.2.1+1),o2.2))
 else
 some (.inr (.inr s.2.2.2))
def ZsF:Lp:=⟨[(0,.v (.sl Zi)),(1,.fn 100 [.ref 0 []]),(7,.v yI),(8,.v yI)],[.var (.v yI) true],[(.sl Zi),yI,yI,yI],[⟨.ret,[(4,.v yI)],[.var (.v yI) true],[yI,yI]⟩,⟨.exit 0,[],[.var (.v yI) true],[yI]⟩],Zc (Zdc fuel) fuel⟩
theorem ZtU:ZsF.okA yc 99 0:=ZC { still:=[4,15]} [] [ZhE] ⟨ZnO,ytt⟩
def Zj9(F:Nat)(a0:(List Msg))(s0:Int):Option ((Int×Int)):=
 (Zc (Zdc F) F (a0,(a0.length:Int),0,s0)).bind λo3=>
 match o3 with
 |.inl o4=>
  some (o4.1,o4.2)
 |.inr o5=>
  some ((-1),o5)
def Zu3:Fs yc:=⟨99,[.v (.sl Zi),.fn 100 [.ref 0 []]],[.var (.v yI) true],[(.sl Zi),yI],[⟨.ret,[(0,.v yI)],[.var (.v yI) true],[yI,yI]⟩],λx=>Zj9 fuel x.1 x.2⟩
theorem ZAq:Zu3.Ok:=fnO { still:=[4,15]} [(0,ZsF)] [] trivial ⟨ZtU,ytt⟩
def VV(F:Nat)(a0:(List Msg))(a1:Int):Option ((Msg×Bool)):=
 (Zj9 F a0 a1).bind λo8=>
 if(decide (o8.1 < 0))=true then
  some ((0,0,0,(0,0,0,0,0),0,[],0,(0,0),yzz,0,([],[],0),(0,0,0,0,0),(0,0,0,0,0,0),[]),false)
 else
 (idx a0 o8.1).bind λe9=>
 some (e9,true)
def ZdN(F:Nat):Fs yc:=⟨43,[.v (.sl Zi),.v yI],[],[(.sl Zi),yI],[⟨.ret,[(0,.tup [.v Zi,.v .bool])],[],[Zi,.bool]⟩],λx=>VV F x.1 x.2⟩
def Zbj:Fs yc:=ZdN fuel
theorem Zak:Zbj.Ok:=fnO { still:=[5,7,8]} [] [Zu3] ⟨ZAq,ytt⟩
def XL(F:Nat)(a0:Zbi)(a1:Int):Option (Bool):=
 some (decide (a1 ≥ a0.1))
def ZcM:Fs yc:=⟨22,[.v ZdL,.v yI],[],[ZdL,yI],[⟨.ret,[(0,.v .bool)],[],[.bool]⟩],λx=>XL fuel x.1 x.2⟩
theorem Zfs:ZcM.Ok:=fnO { still:=[4]} [] [] trivial
def Zp1:ByteArray:=⟨#[0,1,2,2,3,3,3,3,4,4,4,4,4,4,4,4,5,5,5,5,5,5,5,5,5,5,5,5,5,5,5,5,6,6,6,6,6,6,6,6,6,6,6,6,6,6,6,6,6,6,6,6,6,6,6,6,6,6,6,6,6,6,6,6,7,7,7,7,7,7,7,7,7,7,7,7,7,7,7,7,7,7,7,7,7,7,7,7,7,7,7,7,7,7,7,7,7,7,7,7,7,7,7,7,7,7,7,7,7,7,7,7,7,7,7,7,7,7,7,7,7,7,7,7,7,7,7,7,8,8,8,8,8,8,8,8,8,8,8,8,8,8,8,8,8,8,8,8,8,8,8,8,8,8,8,8,8,8,8,8,8,8,8,8,8,8,8,8,8,8,8,8,8,8,8,8,8,8,8,8,8,8,8,8,8,8,8,8,8,8,8,8,8,8,8,8,8,8,8,8,8,8,8,8,8,8,8,8,8,8,8,8,8,8,8,8,8,8,8,8,8,8,8,8,8,8,8,8,8,8,8,8,8,8,8,8,8,8,8,8,8,8,8,8,8,8,8,8,8,8,8,8,8,8,8,8]⟩
def Zp2(F:Nat)(a0:UInt64):Option (Int):=
 if(decide (a0 ≥ 4294967296))=true then
  if(decide ((ZG a0 32) ≥ 65536))=true then
   if(decide ((ZG (ZG a0 32) 16) ≥ 256))=true then
    let y10:UInt8:=w8 ((ZG (ZG (ZG a0 32) 16) 8).toNat:Int)
    (idx (ZlB Zp1) (y10.toNat:Int)).bind λe11=>
    some (wi (56+(e11.toNat:Int)))
   else
   (idx (ZlB Zp1) ((w8 ((ZG (ZG a0 32) 16).toNat:Int)).toNat:Int)).bind λe12=>
   some (wi (48+(e12.toNat:Int)))
  else
  if(decide ((ZG a0 32) ≥ 256))=true then
   (idx (ZlB Zp1) ((w8 ((ZG (ZG a0 32) 8).toNat:Int)).toNat:Int)).bind λe13=>
   some (wi (40+(e13.toNat:Int)))
  else
  (idx (ZlB Zp1) ((w8 ((ZG a0 32).toNat:Int)).toNat:Int)).bind λe14=>
  some (wi (32+(e14.toNat:Int)))
 else
 if(decide (a0 ≥ 65536))=true then
  if(decide ((ZG a0 16) ≥ 256))=true then
   (idx (ZlB Zp1) ((w8 ((ZG (ZG a0 16) 8).toNat:Int)).toNat:Int)).bind λe15=>
   some (wi (24+(e15.toNat:Int)))
  else
  (idx (ZlB Zp1) ((w8 ((ZG a0 16).toNat:Int)).toNat:Int)).bind λe16=>
  some (wi (16+(e16.toNat:Int)))
 else
 if(decide (a0 ≥ 256))=true then
  (idx (ZlB Zp1) ((w8 ((ZG a0 8).toNat:Int)).toNat:Int)).bind λe17=>
  some (wi (8+(e17.toNat:Int)))
 else
 (idx (ZlB Zp1) ((w8 (a0.toNat:Int)).toNat:Int)).bind λe18=>
 some (wi (0+(e18.toNat:Int)))
def ZnP:Fs yc:=⟨192,[.v .u64],[],[.u64],[⟨.ret,[(0,.v yI)],[],[yI]⟩],λx=>Zp2 fuel x⟩
theorem ZtV:ZnP.Ok:=fnO { still:=[2]} [] [] trivial
def YD(F:Nat)(a0:UInt64):Option (Int):=
 (Zp2 F a0).bind λo19=>
 some (wi (64 - o19))
def ZbX:Fs yc:=⟨191,[.v .u64],[],[.u64],[⟨.ret,[(0,.v yI)],[],[yI]⟩],λx=>YD fuel x⟩
theorem Ziq:ZbX.Ok:=fnO { still:=[2,3]} [] [ZnP] ⟨ZtV,ytt⟩
def Qp(F:Nat)(s:(UInt64×UInt64×UInt64×UInt64×UInt64×UInt64×UInt64×UInt64×UInt64)):Option ((UInt64×UInt64×UInt64×UInt64×UInt64×UInt64×UInt64×UInt64×UInt64)⊕(UInt64×UInt64×UInt64×UInt64×UInt64×UInt64×UInt64×UInt64)):=
 if(decide (s.2.2.2.2.2.2.2.1 ≥ 4294967296))=true then
  let y27:Bool:=decide ((s.2.2.2.2.2.2.2.2+s.2.2.1) ≥ 4294967296)
  if y27=true then
   some (.inr (s.1,s.2.1,s.2.2.1,s.2.2.2.1,s.2.2.2.2.1,s.2.2.2.2.2.1,s.2.2.2.2.2.2.1,s.2.2.2.2.2.2.2.1 - 1))
  else
  some (.inl (s.1,s.2.1,s.2.2.1,s.2.2.2.1,s.2.2.2.2.1,s.2.2.2.2.2.1,s.2.2.2.2.2.2.1,s.2.2.2.2.2.2.2.1 - 1,s.2.2.2.2.2.2.2.2+s.2.2.1))
 else
 let y28:Bool:=decide ((s.2.2.2.2.2.2.2.1*s.2.2.2.1) > ((4294967296*s.2.2.2.2.2.2.2.2)+s.2.2.2.2.2.1))
 if y28=true then
  let y29:Bool:=decide ((s.2.2.2.2.2.2.2.2+s.2.2.1) ≥ 4294967296)
  if y29=true then
   some (.inr (s.1,s.2.1,s.2.2.1,s.2.2.2.1,s.2.2.2.2.1,s.2.2.2.2.2.1,s.2.2.2.2.2.2.1,s.2.2.2.2.2.2.2.1 - 1))
  else
  some (.inl (s.1,s.2.1,s.2.2.1,s.2.2.2.1,s.2.2.2.2.1,s.2.2.2.2.2.1,s.2.2.2.2.2.2.1,s.2.2.2.2.2.2.2.1 - 1,s.2.2.2.2.2.2.2.2+s.2.2.1))
 else
 some (.inr (s.1,s.2.1,s.2.2.1,s.2.2.2.1,s.2.2.2.2.1,s.2.2.2.2.2.1,s.2.2.2.2.2.2.1,s.2.2.2.2.2.2.2.1))
def Zl3:Lp:=⟨[(2,.v .u64),(8,.v .u64),(9,.v .u64),(10,.v .u64),(11,.v .u64),(13,.v .u64),(14,.v .u64),(15,.v .u64),(16,.v .u64)],[],[.u64,.u64,.u64,.u64,.u64,.u64,.u64,.u64,.u64],[⟨.exit 0,[(2,.v .u64),(8,.v .u64),(9,.v .u64),(10,.v .u64),(11,.v .u64),(13,.v .u64),(14,.v .u64),(15,.v .u64)],[],[.u64,.u64,.u64,.u64,.u64,.u64,.u64,.u64]⟩],Zc (Qp fuel) fuel⟩
theorem Zo3:Zl3.okA yc 185 0:=ZC { still:=[6,7,34]} [] [] trivial
def Qq(F:Nat)(s:(UInt64×UInt64×UInt64×UInt64×UInt64×UInt64×UInt64×UInt64×UInt64)):Option ((UInt64×UInt64×UInt64×UInt64×UInt64×UInt64×UInt64×UInt64×UInt64)⊕(UInt64×UInt64×UInt64×UInt64×UInt64×UInt64)):=
 if(decide (s.2.2.2.2.2.2.2.2 ≥ 4294967296))=true then
  let y32:Bool:=decide ((s.2.2.2.2.2.2.1+s.2.2.1) ≥ 4294967296)
  if y32=true then
   some (.inr (s.1,s.2.1,s.2.2.2.2.1,s.2.2.2.2.2.1,s.2.2.2.2.2.2.2.1,s.2.2.2.2.2.2.2.2 - 1))
  else
  some (.inl (s.1,s.2.1,s.2.2.1,s.2.2.2.1,s.2.2.2.2.1,s.2.2.2.2.2.1,s.2.2.2.2.2.2.1+s.2.2.1,s.2.2.2.2.2.2.2.1,s.2.2.2.2.2.2.2.2 - 1))
 else
 let y33:Bool:=decide ((s.2.2.2.2.2.2.2.2*s.2.2.2.1) > ((4294967296*s.2.2.2.2.2.2.1)+s.2.2.2.2.1))
 if y33=true then
  let y34:Bool:=decide ((s.2.2.2.2.2.2.1+s.2.2.1) ≥ 4294967296)
  if y34=true then
   some (.inr (s.1,s.2.1,s.2.2.2.2.1,s.2.2.2.2.2.1,s.2.2.2.2.2.2.2.1,s.2.2.2.2.2.2.2.2 - 1))
  else
  some (.inl (s.1,s.2.1,s.2.2.1,s.2.2.2.1,s.2.2.2.2.1,s.2.2.2.2.2.1,s.2.2.2.2.2.2.1+s.2.2.1,s.2.2.2.2.2.2.2.1,s.2.2.2.2.2.2.2.2 - 1))
 else
 some (.inr (s.1,s.2.1,s.2.2.2.2.1,s.2.2.2.2.2.1,s.2.2.2.2.2.2.2.1,s.2.2.2.2.2.2.2.2))
def Zl4:Lp:=⟨[(2,.v .u64),(8,.v .u64),(9,.v .u64),(10,.v .u64),(14,.v .u64),(15,.v .u64),(16,.v .u64),(17,.v .u64),(18,.v .u64)],[],[.u64,.u64,.u64,.u64,.u64,.u64,.u64,.u64,.u64],[⟨.exit 2,[(2,.v .u64),(8,.v .u64),(14,.v .u64),(15,.v .u64),(17,.v .u64),(18,.v .u64)],[],[.u64,.u64,.u64,.u64,.u64,.u64]⟩],Zc (Qq fuel) fuel⟩
theorem Zo4:Zl4.okA yc 185 1:=ZC { still:=[6,7,34]} [] [] trivial
def ZgD(F:Nat)(a0:UInt64)(a1:UInt64)(a2:UInt64):Option ((UInt64×UInt64)):=
 if(a2==0)=true then
  none
 else
 if(decide (a2≤a0))=true then
  none
 else
 if(a0==0)=true then
  if(a2 !=0)=true then
   if(a2 !=0)=true then
    some (a1 / a2,a1 % a2)
   else
   none
  else
  none
 else
 (YD F a2).bind λo20=>
 let y21:UInt64:=ZG (V3 a2 (min ((w64 o20).toNat:Int).toNat 64)) 32;let y22:UInt64:=(V3 a2 (min ((w64 o20).toNat:Int).toNat 64))&&&4294967295;let y23:UInt64:=ZG a1 (min ((64 - (w64 o20)).toNat:Int).toNat 64);let y24:UInt64:=(V3 a0 (min ((w64 o20).toNat:Int).toNat 64))|||y23;let y25:UInt64:=ZG (V3 a1 (min ((w64 o20).toNat:Int).toNat 64)) 32;let y26:UInt64:=(V3 a1 (min ((w64 o20).toNat:Int).toNat 64))&&&4294967295
 if(y21 !=0)=true then
  (Zc (Qp F) F (V3 a2 (min ((w64 o20).toNat:Int).toNat 64),w64 o20,y21,y22,y24,y25,y26,y24 / y21,y24 - ((y24 / y21)*y21))).bind λo30=>
  let y31:UInt64:=((o30.2.2.2.2.1*4294967296)+o30.2.2.2.2.2.1) - (o30.2.2.2.2.2.2.2*o30.1)
  if(o30.2.2.1 !=0)=true then
   (Zc (Qq F) F (o30.1,o30.2.1,o30.2.2.1,o30.2.2.2.1,o30.2.2.2.2.2.2.1,o30.2.2.2.2.2.2.2,y31 - ((y31 / o30.2.2.1)*o30.2.2.1),y31,y31 / o30.2.2.1)).bind λo35=>
   let y36:UInt64:=((o35.2.2.2.2.1*4294967296)+o35.2.2.1) - (o35.2.2.2.2.2*o35.1)
   some ((o35.2.2.2.1*4294967296)+o35.2.2.2.2.2,ZG y36 (min (o35.2.1.toNat:Int).toNat 64))
  else
  none
 else
 none
def ZnQ:Fs yc:=⟨185,[.v .u64,.v .u64,.v .u64],[],[.u64,.u64,.u64],[⟨.ret,[(0,.tup [.v .u64,.v .u64])],[],[.u64,.u64]⟩],λx=>ZgD fuel x.1 x.2.1 x.2.2⟩
theorem ZtW:ZnQ.Ok:=fnO { still:=[6,7,34]} [(0,Zl3),(1,Zl4)] [ZbX] ⟨Ziq,ytt⟩ ⟨Zo3,Zo4,ytt⟩
def Zbk(F:Nat)(a0:UInt64)(a1:UInt64)(a2:UInt64):Option (UInt64):=
 if(a2 !=0)=true then
  (ZgD F (a0 % a2) a1 a2).bind λo37=>
  some o37.2
 else
 none
def Zft(F:Nat):Fs yc:=⟨172,[.v .u64,.v .u64,.v .u64],[],[.u64,.u64,.u64],[⟨.ret,[(0,.v .u64)],[],[.u64]⟩],λx=>Zbk F x.1 x.2.1 x.2.2⟩
def ZtX:Fs yc:=Zft fuel
theorem ZsG:ZtX.Ok:=fnO { still:=[6,12,13,14]} [] [ZnQ] ⟨ZtW,ytt⟩
end
end Go.Proofs.YtmkgbalfkhaflaaGreat
end
section
namespace Go.Ev
theorem Zrf(a m:UInt64):(a - a / m*m).toNat=a.toNat % m.toNat:=by
 have h1:a.toNat / m.toNat*m.toNat≤a.toNat:=Nat.div_mul_le_self _ _;have h2:=ybr a
 have h3:(a / m*m).toNat=a.toNat / m.toNat*m.toNat:=by
  rw[UInt64.toNat_mul,UInt64.toNat_div,yah (by omega)]
 have h4:(a / m*m)≤a:=by rw[ycs,h3];exact h1
 rw[UInt64.toNat_sub_of_le _ _ h4,h3];have:=Nat.div_add_mod a.toNat m.toNat
 rw[ybi] at this;omega
theorem Zka(x:UInt64):(x&&&4294967295).toNat=x.toNat % 4294967296:=by
 rw[UInt64.toNat_and];exact Nat.and_two_pow_sub_one_eq_mod x.toNat 32
theorem ZaF(x:UInt64)(n:Nat):(ZG x n).toNat=x.toNat / 2 ^ n:=by
 unfold ZG;rw[yba,yah (ycu (Nat.div_le_self ..) (ybr _))]
theorem Zls{x y:UInt64}(h:x.toNat+y.toNat < 18446744073709551616):(x+y).toNat=x.toNat+y.toNat:=by
 rw[UInt64.toNat_add,yah h]
theorem Zlt{x y:UInt64}(h:x.toNat*y.toNat < 18446744073709551616):(x*y).toNat=x.toNat*y.toNat:=by
 rw[UInt64.toNat_mul,yah h]
theorem Zkb{a b:Nat}(ha:a < 4294967296)(hb:b < 4294967296):a*b≤18446744065119617025:=Nat.mul_le_mul (Nat.le_of_lt_succ ha) (Nat.le_of_lt_succ hb)
end Go.Ev
end
section
set_option maxRecDepth 4000
namespace Go.Proofs.YtmkgbalfkhaflaaGreat
open Go Go.Ev
section
variable{y1 y0 u d q r:Nat}
theorem ZKc(h:q*y1+r=u)(hc:4294967296*r+d < q*y0):u*4294967296+d < q*(y1*4294967296+y0):=by
 have e:q*(y1*4294967296+y0)=q*y1*4294967296+q*y0:=by rw[Nat.mul_add,Nat.mul_assoc]
 rw[e];omega
theorem ZFt(h:q*y1+r=u)(hc:q*y0≤4294967296*r+d):q*(y1*4294967296+y0)≤u*4294967296+d:=by
 have e:q*(y1*4294967296+y0)=q*y1*4294967296+q*y0:=by rw[Nat.mul_add,Nat.mul_assoc]
 rw[e];omega
theorem ZJc(hu:u < y1*4294967296+y0)(hd:d < 4294967296):(u*4294967296+d) / (y1*4294967296+y0) < 4294967296:=by
 rw[Nat.div_lt_iff_lt_mul (by omega)];omega
theorem ZBJ(h:q*y1+r=u)(hq:1≤q):(q - 1)*y1+(r+y1)=u:=by
 have e:q*y1=(q - 1)*y1+y1:=by
  rw[←Nat.succ_mul];congr 1;omega
 omega
theorem ZFu(hu:u < y1*4294967296+y0)(h0:y0 < 4294967296)(h:q*y1+r=u)(hr:4294967296≤r):q*y0≤4294967296*r+d:=by
 by_cases hq:q < 4294967296
 ·have:q*y0≤4294967295*4294967295:=Nat.mul_le_mul (by omega) (by omega);omega
 ·have:4294967296*y1≤q*y1:=ybx _ (by omega);omega
end
theorem ZAr{q T Y:Nat}(hY:0 < Y)(h1:T / Y≤q)(h2:q*Y≤T):q=T / Y:=Nat.le_antisymm ((Nat.le_div_iff_mul_le hY).2 h2) h1
theorem ZyF{y1 y0 u d:Nat}{Q R Y0 Y1 D:UInt64}(hY1:Y1.toNat=y1)(hY0:Y0.toNat=y0)(hD:D.toNat=d)(h1:y1 < 4294967296)(h0:y0 < 4294967296)(hd:d < 4294967296)(hu:u < y1*4294967296+y0)
 (e:Q.toNat*y1+R.toNat=u) (hr:R.toNat < 4294967296) (hge:(u*4294967296+d) / (y1*4294967296+y0)≤Q.toNat):
 ((Q ≥ 4294967296∨(Q*Y0 > (4294967296*R)+D))∧(u*4294967296+d) / (y1*4294967296+y0)≤(Q - 1).toNat∧(Q - 1).toNat*y1+(R+Y1).toNat=u∧(R+Y1).toNat=R.toNat+y1)∨
 (¬Q ≥ 4294967296∧¬(Q*Y0 > (4294967296*R)+D)∧Q.toNat=(u*4294967296+d) / (y1*4294967296+y0)):=by
 have hadd:(R+Y1).toNat=R.toNat+y1:=by rw[Zls (by omega),hY1]
 have hrd:((4294967296*R)+D).toNat=4294967296*R.toNat+d:=by
  have m:(4294967296*R:UInt64).toNat=4294967296*R.toNat:=by
   rw[Zlt (by show 4294967296*R.toNat < _;omega)];rfl
  rw[Zls (by rw[m];omega),m,hD]
 have dec:1≤Q.toNat→(Q - 1).toNat=Q.toNat - 1:=λh=>by
  rw[UInt64.toNat_sub_of_le _ _ (by rw[ycs];exact h)];rfl
 by_cases c1:Q ≥ 4294967296
 ·left
  have hq:4294967296≤Q.toNat:=by
   rw[ge_iff_le,ycs] at c1;exact c1
  have:=ZJc hu hd;refine⟨.inl c1,by rw[dec (by omega)];omega, ?_,hadd⟩;rw[dec (by omega),hadd];exact ZBJ e (by omega)
 have hq:Q.toNat < 4294967296:=by
  rw[ge_iff_le,ycs] at c1;exact Nat.lt_of_not_le c1
 have hmul:(Q*Y0).toNat=Q.toNat*y0:=by
  have:=Zkb hq h0;rw[Zlt (by rw[hY0];omega),hY0]
 by_cases c2:Q*Y0 > (4294967296*R)+D
 ·left
  have c3:4294967296*R.toNat+d < Q.toNat*y0:=by
   have:=ybz.1 c2;rw[hmul,hrd] at this;exact this
  have q1:1≤Q.toNat:=by
   rcases ycc Q.toNat with h|h
   ·rw[h,Nat.zero_mul] at c3;omega
   ·exact h
  have hg:=ZKc (d:=d) e c3;have hlt:(u*4294967296+d) / (y1*4294967296+y0) < Q.toNat:=(Nat.div_lt_iff_lt_mul (by omega)).2 hg;refine⟨.inr c2,by rw[dec q1];omega, ?_,hadd⟩;rw[dec q1,hadd];exact ZBJ e q1
 ·right
  have c3:Q.toNat*y0≤4294967296*R.toNat+d:=by
   have:¬(((4294967296*R)+D).toNat < (Q*Y0).toNat):=λh=>c2 (ybz.2 h);rw[hmul,hrd] at this;omega
  exact⟨c1,c2,ZAr (by omega) hge (ZFt e c3)⟩
theorem ZKd{y1 y0 u d:Nat}{Yv N Y1 Y0 U D E Q R:UInt64}(hY1:Y1.toNat=y1)(hY0:Y0.toNat=y0)(hD:D.toNat=d)(h1:y1 < 4294967296)(h3:0 < y1)(h0:y0 < 4294967296)(hd:d < 4294967296)(hu:u < y1*4294967296+y0)
 (e:Q.toNat*y1+R.toNat=u) (hr:R.toNat < 4294967296) (hge:(u*4294967296+d) / (y1*4294967296+y0)≤Q.toNat):
 ∃q:UInt64,Zc (Qp fuel) fuel (Yv,N,Y1,Y0,U,D,E,Q,R)=some (Yv,N,Y1,Y0,U,D,E,q)∧q.toNat=(u*4294967296+d) / (y1*4294967296+y0):=by
 obtain⟨x,hx,q,rfl,hq⟩:=WF (step:=Qp fuel) (λs=>∃Q R:UInt64,s=(Yv,N,Y1,Y0,U,D,E,Q,R)∧Q.toNat*y1+R.toNat=u∧R.toNat < 4294967296∧(u*4294967296+d) / (y1*4294967296+y0)≤Q.toNat)
  (λs=>4294967296 - s.2.2.2.2.2.2.2.2.toNat) (λx=>∃q:UInt64,x=(Yv,N,Y1,Y0,U,D,E,q)∧q.toNat=(u*4294967296+d) / (y1*4294967296+y0)) (by
  rintro _ ⟨Q,R,rfl,e,hr,hge⟩;unfold Qp;dsimp only;rcases ZyF hY1 hY0 hD h1 h0 hd hu e hr hge with⟨c,k1,k2,k3⟩|⟨c1,c2,k⟩
  ·have key:(∃j,(if decide (R+Y1 ≥ 4294967296)=true then some (Sum.inr (Yv,N,Y1,Y0,U,D,E,Q - 1)) else some (Sum.inl (Yv,N,Y1,Y0,U,D,E,Q - 1,R+Y1)):Option ((UInt64×UInt64×UInt64×UInt64×UInt64×UInt64×UInt64×UInt64×UInt64)⊕(UInt64×UInt64×UInt64×UInt64×UInt64×UInt64×UInt64×UInt64)))=some (.inl j)∧
    (∃Q R:UInt64,j=(Yv,N,Y1,Y0,U,D,E,Q,R)∧Q.toNat*y1+R.toNat=u∧R.toNat < 4294967296∧(u*4294967296+d) / (y1*4294967296+y0)≤Q.toNat)∧4294967296 - j.2.2.2.2.2.2.2.2.toNat < 4294967296 - R.toNat)∨
    (∃x,(if decide (R+Y1 ≥ 4294967296)=true then some (Sum.inr (Yv,N,Y1,Y0,U,D,E,Q - 1)) else some (Sum.inl (Yv,N,Y1,Y0,U,D,E,Q - 1,R+Y1)):Option ((UInt64×UInt64×UInt64×UInt64×UInt64×UInt64×UInt64×UInt64×UInt64)⊕(UInt64×UInt64×UInt64×UInt64×UInt64×UInt64×UInt64×UInt64)))=some (.inr x)∧
    ∃q:UInt64,x=(Yv,N,Y1,Y0,U,D,E,q)∧q.toNat=(u*4294967296+d) / (y1*4294967296+y0)):=by
    by_cases hb:R+Y1 ≥ 4294967296
    ·right;rw[if_pos (decide_eq_true hb)]
     have hb2:4294967296≤(R+Y1).toNat:=by
      rw[ge_iff_le,ycs] at hb;exact hb
     exact⟨_,rfl,_,rfl,ZAr (by omega) k1 (ZFt k2 (ZFu hu h0 k2 hb2))⟩
    ·left;rw[if_neg (by rw[decide_eq_true_iff];exact hb)]
     have hb2:(R+Y1).toNat < 4294967296:=by
      rw[ge_iff_le,ycs] at hb;exact Nat.lt_of_not_le hb
     exact⟨_,rfl,⟨_,_,rfl,k2,hb2,k1⟩,by dsimp only;omega⟩
   rcases c with c|c
   ·rw[if_pos (decide_eq_true c)];exact key
   ·by_cases c1:Q ≥ 4294967296
    ·rw[if_pos (decide_eq_true c1)];exact key
    ·rw[if_neg (by rw[decide_eq_true_iff];exact c1),if_pos (decide_eq_true c)];exact key
  ·right;rw[if_neg (by rw[decide_eq_true_iff];exact c1),if_neg (by rw[decide_eq_true_iff];exact c2)];exact⟨_,rfl,_,rfl,k⟩) (Yv,N,Y1,Y0,U,D,E,Q,R) ⟨Q,R,rfl,e,hr,hge⟩ (by dsimp only;omega)
 exact⟨q,hx,hq⟩
theorem ZKe{y1 y0 u d:Nat}{Yv N Y1 Y0 U D E Q R:UInt64}(hY1:Y1.toNat=y1)(hY0:Y0.toNat=y0)(hD:D.toNat=d)(h1:y1 < 4294967296)(h3:0 < y1)(h0:y0 < 4294967296)(hd:d < 4294967296)(hu:u < y1*4294967296+y0)
 (e:Q.toNat*y1+R.toNat=u) (hr:R.toNat < 4294967296) (hge:(u*4294967296+d) / (y1*4294967296+y0)≤Q.toNat):
 ∃q:UInt64,Zc (Qq fuel) fuel (Yv,N,Y1,Y0,D,E,R,U,Q)=some (Yv,N,D,E,U,q)∧q.toNat=(u*4294967296+d) / (y1*4294967296+y0):=by
 obtain⟨x,hx,q,rfl,hq⟩:=WF (step:=Qq fuel) (λs=>∃Q R:UInt64,s=(Yv,N,Y1,Y0,D,E,R,U,Q)∧Q.toNat*y1+R.toNat=u∧R.toNat < 4294967296∧(u*4294967296+d) / (y1*4294967296+y0)≤Q.toNat)
  (λs=>4294967296 - s.2.2.2.2.2.2.1.toNat) (λx=>∃q:UInt64,x=(Yv,N,D,E,U,q)∧q.toNat=(u*4294967296+d) / (y1*4294967296+y0)) (by
  rintro _ ⟨Q,R,rfl,e,hr,hge⟩;unfold Qq;dsimp only;rcases ZyF hY1 hY0 hD h1 h0 hd hu e hr hge with⟨c,k1,k2,k3⟩|⟨c1,c2,k⟩
  ·have key:(∃j,(if decide (R+Y1 ≥ 4294967296)=true then some (Sum.inr (Yv,N,D,E,U,Q - 1)) else some (Sum.inl (Yv,N,Y1,Y0,D,E,R+Y1,U,Q - 1)):Option ((UInt64×UInt64×UInt64×UInt64×UInt64×UInt64×UInt64×UInt64×UInt64)⊕(UInt64×UInt64×UInt64×UInt64×UInt64×UInt64)))=some (.inl j)∧
    (∃Q R:UInt64,j=(Yv,N,Y1,Y0,D,E,R,U,Q)∧Q.toNat*y1+R.toNat=u∧R.toNat < 4294967296∧(u*4294967296+d) / (y1*4294967296+y0)≤Q.toNat)∧4294967296 - j.2.2.2.2.2.2.1.toNat < 4294967296 - R.toNat)∨
    (∃x,(if decide (R+Y1 ≥ 4294967296)=true then some (Sum.inr (Yv,N,D,E,U,Q - 1)) else some (Sum.inl (Yv,N,Y1,Y0,D,E,R+Y1,U,Q - 1)):Option ((UInt64×UInt64×UInt64×UInt64×UInt64×UInt64×UInt64×UInt64×UInt64)⊕(UInt64×UInt64×UInt64×UInt64×UInt64×UInt64)))=some (.inr x)∧
    ∃q:UInt64,x=(Yv,N,D,E,U,q)∧q.toNat=(u*4294967296+d) / (y1*4294967296+y0)):=by
    by_cases hb:R+Y1 ≥ 4294967296
    ·right;rw[if_pos (decide_eq_true hb)]
     have hb2:4294967296≤(R+Y1).toNat:=by
      rw[ge_iff_le,ycs] at hb;exact hb
     exact⟨_,rfl,_,rfl,ZAr (by omega) k1 (ZFt k2 (ZFu hu h0 k2 hb2))⟩
    ·left;rw[if_neg (by rw[decide_eq_true_iff];exact hb)]
     have hb2:(R+Y1).toNat < 4294967296:=by
      rw[ge_iff_le,ycs] at hb;exact Nat.lt_of_not_le hb
     exact⟨_,rfl,⟨_,_,rfl,k2,hb2,k1⟩,by dsimp only;omega⟩
   rcases c with c|c
   ·rw[if_pos (decide_eq_true c)];exact key
   ·by_cases c1:Q ≥ 4294967296
    ·rw[if_pos (decide_eq_true c1)];exact key
    ·rw[if_neg (by rw[decide_eq_true_iff];exact c1),if_pos (decide_eq_true c)];exact key
  ·right;rw[if_neg (by rw[decide_eq_true_iff];exact c1),if_neg (by rw[decide_eq_true_iff];exact c2)];exact⟨_,rfl,_,rfl,k⟩) (Yv,N,Y1,Y0,D,E,R,U,Q) ⟨Q,R,rfl,e,hr,hge⟩ (by dsimp only;omega)
 exact⟨q,hx,hq⟩
theorem ZBK{A B:UInt64}{a b:Nat}(hA:A.toNat=a % 18446744073709551616)(hB:B.toNat=b % 18446744073709551616)(h:b≤a)(hd:a - b < 18446744073709551616):(A - B).toNat=a - b:=by
 rw[UInt64.toNat_sub,hA,hB];omega
theorem Zp3(u y1:Nat):u / y1*y1+u % y1=u:=by
 have:=Nat.div_add_mod u y1;rw[ybi] at this;exact this
theorem ZFv{u y1 y0 d:Nat}(h1:0 < y1)(hd:d < 4294967296):(u*4294967296+d) / (y1*4294967296+y0)≤u / y1:=by
 have h:(u*4294967296+d) / (y1*4294967296+y0)≤(u*4294967296+d) / (y1*4294967296):=Nat.div_le_div_left (by omega) (by omega)
 have e:(u*4294967296+d) / (y1*4294967296)=u / y1:=by
  rw[ybi y1, ←Nat.div_div_eq_div_mul];congr 1;omega
 omega
theorem ZFw{a b y:UInt64}{s:Nat}{Y:UInt64}(hy:y≠0)(hs:YD fuel y=some (s:Int))(s0:0 < s)(s1:s < 64)(hY:V3 y s=Y)(hYn:Y.toNat=y.toNat*2 ^ s)(hY63:9223372036854775808≤Y.toNat)(ha:a.toNat < y.toNat):
 ∃q r,ZgD fuel a b y=some (q,r)∧r.toNat=(a.toNat*18446744073709551616+b.toNat) % y.toNat:=by
 have ha2:¬(y≤a):=by
  rw[ycs];omega
 unfold ZgD;rw[if_neg (by rw[beq_iff_eq];exact hy),if_neg (by rw[decide_eq_true_iff];exact ha2)];by_cases h0:a=0
 ·subst h0;rw[if_pos (by decide),if_pos (by rw[bne_iff_ne];exact hy),if_pos (by rw[bne_iff_ne];exact hy)];refine⟨_,_,rfl, ?_⟩;rw[UInt64.toNat_mod];simp
 rw[if_neg (by rw[beq_iff_eq];exact h0),hs,ya];dsimp only
 have w:w64 (s:Int)=yad s:=by
  unfold w64;congr 1;omega
 have ws:(w64 (s:Int)).toNat=s:=by rw[w,yba,yah (by omega)]
 have e1:min ((w64 (s:Int)).toNat:Int).toNat 64=s:=by rw[ws];omega
 have e2:(64 - w64 (s:Int)).toNat=64 - s:=by
  rw[UInt64.toNat_sub_of_le _ _ (by rw[ycs,ws];show s≤64;omega),ws];rfl
 have e3:min ((64 - w64 (s:Int)).toNat:Int).toNat 64=64 - s:=by rw[e2];omega
 rw[e1,e3,hY];have hYl:=ybr Y;have hb:=ybr b
 have p64:2 ^ (64 - s)*2 ^ s=18446744073709551616:=by
  rw[←Nat.pow_add];have:64 - s+s=64:=by omega
  rw[this]
 have hp:0 < 2 ^ s:=Nat.pow_pos (by decide);obtain⟨y1,hy1⟩:∃y1,y1=Y.toNat / 4294967296:=⟨_,rfl⟩;obtain⟨y0,hy0⟩:∃y0,y0=Y.toNat % 4294967296:=⟨_,rfl⟩;have hYd:Y.toNat=y1*4294967296+y0:=by omega
 have ty1:(ZG Y 32).toNat=y1:=by rw[ZaF,hy1]
 have ty0:(Y&&&4294967295).toNat=y0:=by rw[Zka,hy0]
 have l1:y1 < 4294967296:=by omega
 have g1:2147483648≤y1:=by omega
 have l0:y0 < 4294967296:=by omega
 have hash:a.toNat*2 ^ s < Y.toNat:=by rw[hYn];exact Nat.mul_lt_mul_of_pos_right ha hp
 have bd:b.toNat / 2 ^ (64 - s) < 2 ^ s:=by
  rw[Nat.div_lt_iff_lt_mul (Nat.pow_pos (by decide)),ybi,p64];exact hb
 have tu:((V3 a s)|||(ZG b (64 - s))).toNat=a.toNat*2 ^ s+b.toNat / 2 ^ (64 - s):=by
  rw[UInt64.toNat_or,ZaF];unfold V3;rw[yba,yah (by omega),ybi, ←ycy bd]
 have t10:(V3 b s).toNat=b.toNat*2 ^ s % 18446744073709551616:=by
  unfold V3;rw[yba]
 obtain⟨u,hu⟩:∃u,u=a.toNat*2 ^ s+b.toNat / 2 ^ (64 - s):=⟨_,rfl⟩;obtain⟨v,hv⟩:∃v,v=b.toNat*2 ^ s % 18446744073709551616:=⟨_,rfl⟩;rw[←hu] at tu;rw[←hv] at t10
 have hbs:b.toNat*2 ^ s=b.toNat / 2 ^ (64 - s)*18446744073709551616+v:=by
  have h1:=Nat.div_add_mod (b.toNat*2 ^ s) 18446744073709551616
  have h2:b.toNat*2 ^ s / 18446744073709551616=b.toNat / 2 ^ (64 - s):=by
   rw[←p64];exact Nat.mul_div_mul_right _ _ hp
  rw[h2, ←hv] at h1;omega
 have hN:(a.toNat*18446744073709551616+b.toNat)*2 ^ s=u*18446744073709551616+v:=by
  rw[yay,hbs,hu,Nat.mul_right_comm];omega
 have uY:u < y1*4294967296+y0:=by
  rw[←hYd,hu,hYn];have h1:(a.toNat+1)*2 ^ s≤y.toNat*2 ^ s:=ybx _ ha;rw[yay,Nat.one_mul] at h1;omega
 have hvl:v < 18446744073709551616:=by rw[hv];exact ybb _ (by decide)
 obtain⟨d1,hd1⟩:∃d1,d1=v / 4294967296:=⟨_,rfl⟩;obtain⟨d0,hd0⟩:∃d0,d0=v % 4294967296:=⟨_,rfl⟩;have td1:(ZG (V3 b s) 32).toNat=d1:=by rw[ZaF,t10,hd1]
 have td0:((V3 b s)&&&4294967295).toNat=d0:=by rw[Zka,t10,hd0]
 generalize ((V3 a s)|||(ZG b (64 - s)):UInt64)=U at tu ⊢;generalize (ZG (V3 b s) 32:UInt64)=D1 at td1 ⊢;generalize ((V3 b s)&&&4294967295:UInt64)=D0 at td0 ⊢;generalize (ZG Y 32:UInt64)=Y1 at ty1 ⊢;generalize (Y&&&4294967295:UInt64)=Y0 at ty0 ⊢
 have y1ne:(Y1 !=0)=true:=by
  rw[bne_iff_ne];intro h;rw[h] at ty1;have:(0:UInt64).toNat=0:=rfl;omega
 rw[if_pos y1ne]
 have f1:(U / Y1).toNat*y1+(U - U / Y1*Y1).toNat=u:=by
  rw[Zrf,UInt64.toNat_div,tu,ty1];exact Zp3 u y1
 have f2:(U - U / Y1*Y1).toNat < 4294967296:=by
  rw[Zrf,tu,ty1];exact Nat.lt_trans (ybb _ (by omega)) l1
 have f3:(u*4294967296+d1) / (y1*4294967296+y0)≤(U / Y1).toNat:=by
  rw[UInt64.toNat_div,tu,ty1];exact ZFv (by omega) (by omega)
 obtain⟨q1,k1,k2⟩:=ZKd (Yv:=Y) (N:=w64 (s:Int)) (U:=U) (E:=D0) ty1 ty0 td1 l1 (by omega) l0 (by omega) uY f1 f2 f3;rw[k1,ya];dsimp only;rw[if_pos y1ne];have m1:=Nat.div_add_mod (u*4294967296+d1) Y.toNat
 have m2:(u*4294967296+d1) % Y.toNat < Y.toNat:=ybb _ (by omega);rw[←hYd] at k2
 have tv:(((U*4294967296)+D1) - (q1*Y)).toNat=(u*4294967296+d1) % Y.toNat:=by
  rw[ZBK (a:=u*4294967296+d1) (b:=q1.toNat*Y.toNat) ?_ ?_ ?_ ?_]
  ·rw[k2,ybi ((u*4294967296+d1) / Y.toNat)];omega
  ·rw[UInt64.toNat_add,UInt64.toNat_mul,tu,td1,show(4294967296:UInt64).toNat=4294967296 from rfl]
   omega
  ·rw[UInt64.toNat_mul]
  ·rw[k2,ybi ((u*4294967296+d1) / Y.toNat)];omega
  ·rw[k2,ybi ((u*4294967296+d1) / Y.toNat)];omega
 obtain⟨u2,hu2⟩:∃u2,u2=(u*4294967296+d1) % Y.toNat:=⟨_,rfl⟩;rw[←hu2] at tv m2 m1;generalize (((U*4294967296)+D1) - (q1*Y):UInt64)=V at tv ⊢
 have f4:(V / Y1).toNat*y1+(V - V / Y1*Y1).toNat=u2:=by
  rw[Zrf,UInt64.toNat_div,tv,ty1];exact Zp3 u2 y1
 have f5:(V - V / Y1*Y1).toNat < 4294967296:=by
  rw[Zrf,tv,ty1];exact Nat.lt_trans (ybb _ (by omega)) l1
 have f6:(u2*4294967296+d0) / (y1*4294967296+y0)≤(V / Y1).toNat:=by
  rw[UInt64.toNat_div,tv,ty1];exact ZFv (by omega) (by omega)
 obtain⟨q0,k3,k4⟩:=ZKe (Yv:=Y) (N:=w64 (s:Int)) (U:=V) (E:=q1) ty1 ty0 td0 l1 (by omega) l0 (by omega) (by rw[←hYd];exact m2) f4 f5 f6;rw[k3,ya];refine⟨_,_,rfl, ?_⟩;dsimp only;rw[e1,ZaF];rw[←hYd] at k4;have m3:=Nat.div_add_mod (u2*4294967296+d0) Y.toNat
 have m4:(u2*4294967296+d0) % Y.toNat < Y.toNat:=ybb _ (by omega)
 have tr:(((V*4294967296)+D0) - (q0*Y)).toNat=(u2*4294967296+d0) % Y.toNat:=by
  rw[ZBK (a:=u2*4294967296+d0) (b:=q0.toNat*Y.toNat) ?_ ?_ ?_ ?_]
  ·rw[k4,ybi ((u2*4294967296+d0) / Y.toNat)];omega
  ·rw[UInt64.toNat_add,UInt64.toNat_mul,tv,td0,show(4294967296:UInt64).toNat=4294967296 from rfl]
   omega
  ·rw[UInt64.toNat_mul]
  ·rw[k4,ybi ((u2*4294967296+d0) / Y.toNat)];omega
  ·rw[k4,ybi ((u2*4294967296+d0) / Y.toNat)];omega
 rw[tr]
 have hNm:((a.toNat*18446744073709551616+b.toNat)*2 ^ s) % Y.toNat=(u2*4294967296+d0) % Y.toNat:=by
  have e:(a.toNat*18446744073709551616+b.toNat)*2 ^ s=u2*4294967296+d0+Y.toNat*((u*4294967296+d1) / Y.toNat*4294967296):=by
   rw[hN, ←Nat.mul_assoc];omega
  rw[e,Nat.add_mul_mod_self_left]
 rw[←hNm,hYn,Nat.mul_mod_mul_right,Nat.mul_div_cancel _ hp]
theorem ZwF{y Y:UInt64}{s:Nat}(a b:UInt64)(hy:y≠0)(hs:YD fuel y=some (s:Int))(s0:0 < s)(s1:s < 64)(hY:V3 y s=Y)(hYn:Y.toNat=y.toNat*2 ^ s)(hY63:9223372036854775808≤Y.toNat):
 Zbk fuel a b y=some (yad ((a.toNat*18446744073709551616+b.toNat) % y.toNat)):=by
 have hp:0 < y.toNat:=by
  rcases ycc y.toNat with h|h
  ·exact absurd (UInt64.toNat_inj.1 h) hy
  ·exact h
 obtain⟨q,r,h1,h2⟩:=ZFw (a:=a % y) (b:=b) hy hs s0 s1 hY hYn hY63 (by rw[UInt64.toNat_mod];exact ybb _ hp);unfold Zbk;rw[if_pos (by rw[bne_iff_ne];exact hy),h1,ya];dsimp only;rw[UInt64.toNat_mod,Nat.add_mod,Nat.mod_mul_mod, ←Nat.add_mod] at h2;rw[←h2,UInt64.ofNat_toNat]
theorem ZJd:YD fuel 4611686018427377339=some ((2:Nat):Int):=by kernel_rfl
theorem ZJe:YD fuel 2305843009213688669=some ((3:Nat):Int):=by kernel_rfl
theorem ZJf:YD fuel 2305843009213688668=some ((3:Nat):Int):=by kernel_rfl
noncomputable def WK(F:Nat)(a0:UInt64)(a1:UInt64)(a2:UInt64):Option UInt64:=
 if(a2==4611686018427377339 || (a2==2305843009213688669 || a2==2305843009213688668))=true then some (yad ((a0.toNat*18446744073709551616+a1.toNat) % a2.toNat)) else Zbk F a0 a1 a2
theorem ZFx(a b y:UInt64):Zbk fuel a b y=WK fuel a b y:=by
 unfold WK;split
 ·rename_i h;simp only[Bool.or_eq_true,beq_iff_eq] at h;rcases h with rfl|rfl|rfl
  ·exact ZwF (Y:=18446744073709509356) (s:=2) a b (by decide) ZJd (by decide) (by decide) (by kernel_rfl) (by decide) (by decide)
  ·exact ZwF (Y:=18446744073709509352) (s:=3) a b (by decide) ZJe (by decide) (by decide) (by kernel_rfl) (by decide) (by decide)
  ·exact ZwF (Y:=18446744073709509344) (s:=3) a b (by decide) ZJf (by decide) (by decide) (by kernel_rfl) (by decide) (by decide)
 ·rfl
noncomputable def ZtY(F:Nat):Fs yc:={ Zft F with M:=λx=>WK F x.1 x.2.1 x.2.2}
noncomputable def ZeD:Fs yc:=ZtY fuel
theorem ZgY:ZeD.Ok:=ZmQ (s:=Zft fuel) ZsG λx=>(ZFx x.1 x.2.1 x.2.2).symm
end Go.Proofs.YtmkgbalfkhaflaaGreat
end
section
set_option maxRecDepth 4000
namespace Go.Proofs.YtmkgbalfkhaflaaGreat
open Go Go.Ev
noncomputable section
def ZeE(F:Nat)(a0:UInt64)(a1:UInt64):Option ((UInt64×UInt64)):=
 let y38:UInt64:=ZG ((a0&&&4294967295)*(a1&&&4294967295)) 32;let y39:UInt64:=(((ZG a0 32)*(a1&&&4294967295))+y38)&&&4294967295;let y40:UInt64:=ZG (((ZG a0 32)*(a1&&&4294967295))+y38) 32;let y41:UInt64:=ZG (y39+((a0&&&4294967295)*(ZG a1 32))) 32
 some ((((ZG a0 32)*(ZG a1 32))+y40)+y41,a0*a1)
def Zfu(F:Nat):Fs yc:=⟨174,[.v .u64,.v .u64],[],[.u64,.u64],[⟨.ret,[(0,.tup [.v .u64,.v .u64])],[],[.u64,.u64]⟩],λx=>ZeE F x.1 x.2⟩
def ZtZ:Fs yc:=Zfu fuel
theorem ZsH:ZtZ.Ok:=fnO { still:=[4,5]} [] [] trivial
end
end Go.Proofs.YtmkgbalfkhaflaaGreat
end
section
set_option maxRecDepth 4000
namespace Go.Proofs.YtmkgbalfkhaflaaGreat
open Go Go.Ev
theorem ZFy(x y:UInt64):∃h l,ZeE fuel x y=some (h,l)∧h.toNat*18446744073709551616+l.toNat=x.toNat*y.toNat:=by
 unfold ZeE;refine⟨_,_,rfl, ?_⟩;have hx:=ybr x;have hy:=ybr y;have x0l:x.toNat % 4294967296 < 4294967296:=ybb _ (by decide);have y0l:y.toNat % 4294967296 < 4294967296:=ybb _ (by decide);have x1l:x.toNat / 4294967296 < 4294967296:=by omega
 have y1l:y.toNat / 4294967296 < 4294967296:=by omega
 have xe:x.toNat=x.toNat / 4294967296*4294967296+x.toNat % 4294967296:=by omega
 have ye:y.toNat=y.toNat / 4294967296*4294967296+y.toNat % 4294967296:=by omega
 generalize hX1:x.toNat / 4294967296=x1 at*;generalize hX0:x.toNat % 4294967296=x0 at*;generalize hY1:y.toNat / 4294967296=y1 at*;generalize hY0:y.toNat % 4294967296=y0 at*;have p00:=Zkb x0l y0l;have p10:=Zkb x1l y0l;have p01:=Zkb x0l y1l;have p11:=Zkb x1l y1l
 have prod:x.toNat*y.toNat=x1*y1*18446744073709551616+(x1*y0+x0*y1)*4294967296+x0*y0:=by
  rw[xe,ye,yay,Nat.mul_add,Nat.mul_add]
  have e1:x1*4294967296*(y1*4294967296)=x1*y1*18446744073709551616:=by
   rw[Nat.mul_assoc,Nat.mul_left_comm 4294967296 y1, ←Nat.mul_assoc]
  have e2:x1*4294967296*y0=x1*y0*4294967296:=by rw[Nat.mul_right_comm]
  have e3:x0*(y1*4294967296)=x0*y1*4294967296:=by rw[Nat.mul_assoc]
  rw[e1,e2,e3];omega
 have q00:((x&&&4294967295)*(y&&&4294967295)).toNat=x0*y0:=by
  rw[Zlt (by rw[Zka,Zka,hX0,hY0];omega),Zka,Zka,hX0,hY0]
 have q10:((ZG x 32)*(y&&&4294967295)).toNat=x1*y0:=by
  rw[Zlt (by rw[ZaF,Zka,show(2:Nat) ^ 32=4294967296 from rfl,hX1,hY0];omega),ZaF,Zka,show(2:Nat) ^ 32=4294967296 from rfl,hX1,hY0]
 have q01:((x&&&4294967295)*(ZG y 32)).toNat=x0*y1:=by
  rw[Zlt (by rw[ZaF,Zka,show(2:Nat) ^ 32=4294967296 from rfl,hX0,hY1];omega),ZaF,Zka,show(2:Nat) ^ 32=4294967296 from rfl,hX0,hY1]
 have q11:((ZG x 32)*(ZG y 32)).toNat=x1*y1:=by
  rw[Zlt (by rw[ZaF,ZaF,show(2:Nat) ^ 32=4294967296 from rfl,hX1,hY1];omega),ZaF,ZaF,show(2:Nat) ^ 32=4294967296 from rfl,hX1,hY1]
 generalize hA:((x&&&4294967295)*(y&&&4294967295):UInt64)=A at*;generalize hB:((ZG x 32)*(y&&&4294967295):UInt64)=B at*;generalize hC:((x&&&4294967295)*(ZG y 32):UInt64)=C at*;generalize hD:((ZG x 32)*(ZG y 32):UInt64)=D at*;have s1:(ZG A 32).toNat=x0*y0 / 4294967296:=by rw[ZaF,q00]
 have s2:(B+ZG A 32).toNat=x1*y0+x0*y0 / 4294967296:=by rw[Zls (by rw[q10,s1];omega),q10,s1]
 have s3:((B+ZG A 32)&&&4294967295).toNat=(x1*y0+x0*y0 / 4294967296) % 4294967296:=by rw[Zka,s2]
 have s4:(ZG (B+ZG A 32) 32).toNat=(x1*y0+x0*y0 / 4294967296) / 4294967296:=by rw[ZaF,s2]
 have s5:(((B+ZG A 32)&&&4294967295)+C).toNat=(x1*y0+x0*y0 / 4294967296) % 4294967296+x0*y1:=by rw[Zls (by rw[s3,q01];omega),s3,q01]
 have s6:(ZG (((B+ZG A 32)&&&4294967295)+C) 32).toNat=((x1*y0+x0*y0 / 4294967296) % 4294967296+x0*y1) / 4294967296:=by rw[ZaF,s5]
 have s7:(D+ZG (B+ZG A 32) 32).toNat=x1*y1+(x1*y0+x0*y0 / 4294967296) / 4294967296:=by rw[Zls (by rw[q11,s4];omega),q11,s4]
 have s8:(x*y).toNat=x.toNat*y.toNat % 18446744073709551616:=UInt64.toNat_mul ..
 have s9:((D+ZG (B+ZG A 32) 32)+ZG (((B+ZG A 32)&&&4294967295)+C) 32).toNat=x1*y1+(x1*y0+x0*y0 / 4294967296) / 4294967296+((x1*y0+x0*y0 / 4294967296) % 4294967296+x0*y1) / 4294967296:=by
  rw[Zls (by rw[s7,s6];omega),s7,s6]
 rw[s9,s8,prod];generalize x0*y0=a at*;generalize x1*y0=b at*;generalize x0*y1=c at*;generalize x1*y1=d at*;omega
theorem ZFz(x y:UInt64):ZeE fuel x y=some (yad (x.toNat*y.toNat / 18446744073709551616),yad (x.toNat*y.toNat % 18446744073709551616)):=by
 obtain⟨h,l,e,k⟩:=ZFy x y;have hl:=ybr l;rw[e, ←k,show(h.toNat*18446744073709551616+l.toNat) / 18446744073709551616=h.toNat by omega,show(h.toNat*18446744073709551616+l.toNat) % 18446744073709551616=l.toNat by omega,UInt64.ofNat_toNat,UInt64.ofNat_toNat]
noncomputable def Zdd(F:Nat)(a0:UInt64)(a1:UInt64):Option (UInt64×UInt64):=some (yad (a0.toNat*a1.toNat / 18446744073709551616),yad (a0.toNat*a1.toNat % 18446744073709551616))
noncomputable def Zt0(F:Nat):Fs yc:={ Zfu F with M:=λx=>Zdd F x.1 x.2}
noncomputable def Zir:Fs yc:=Zt0 fuel
theorem Zl5:Zir.Ok:=ZmQ (s:=Zfu fuel) ZsH λx=>(ZFz x.1 x.2).symm
end Go.Proofs.YtmkgbalfkhaflaaGreat
end
section
set_option maxRecDepth 4000
namespace Go.Proofs.YtmkgbalfkhaflaaGreat
open Go Go.Ev
noncomputable section
def Yu(F:Nat)(a0:UInt64)(a1:UInt64):Option (UInt64):=
 (Zdd F a0 a1).bind λo42=>
 (WK F o42.1 o42.2 4611686018427377339).bind λo43=>
 some o43
def ZgZ:Fs yc:=⟨155,[.v .u64,.v .u64],[],[.u64,.u64],[⟨.ret,[(0,.v .u64)],[],[.u64]⟩],λx=>Yu fuel x.1 x.2⟩
theorem Zkc:ZgZ.Ok:=fnO { still:=[4,8,9,13,14]} [] [Zir,ZeD] ⟨Zl5,ZgY,ytt⟩
def Vn(F:Nat)(s:(UInt64×UInt64×UInt64)):Option ((UInt64×UInt64×UInt64)⊕UInt64):=
 if(decide (s.2.1 > 0))=true then
  if((s.2.1&&&1)==1)=true then
   (Yu F s.2.2 s.1).bind λo44=>
   (Yu F s.1 s.1).bind λo45=>
   some (.inl (o45,ZG s.2.1 1,o44))
  else
  (Yu F s.1 s.1).bind λo46=>
  some (.inl (o46,ZG s.2.1 1,s.2.2))
 else
 some (.inr s.2.2)
def Zjd:Lp:=⟨[(0,.v .u64),(1,.v .u64),(5,.v .u64)],[],[.u64,.u64,.u64],[⟨.exit 0,[(5,.v .u64)],[],[.u64]⟩],Zc (Vn fuel) fuel⟩
theorem ZmR:Zjd.okA yc 127 0:=ZC { still:=[4,13,14,16,17]} [] [ZgZ] ⟨Zkc,ytt⟩
def Zg0(F:Nat)(a0:UInt64)(a1:UInt64):Option (UInt64):=
 (Zc (Vn F) F (a0,a1,1)).bind λo47=>
 some o47
def ZdO(F:Nat):Fs yc:=⟨127,[.v .u64,.v .u64],[],[.u64,.u64],[⟨.ret,[(0,.v .u64)],[],[.u64]⟩],λx=>Zg0 F x.1 x.2⟩
def ZsI:Fs yc:=ZdO fuel
theorem ZqE:ZsI.Ok:=fnO { still:=[4,13,14,16,17]} [(0,Zjd)] [] trivial ⟨ZmR,ytt⟩
end
end Go.Proofs.YtmkgbalfkhaflaaGreat
end
section
namespace Go.Ev
def Pr(r:Nat):Prop:=1 < r∧∀k,0 < k→k < r→Nat.gcd k r=1
theorem php:∀(n:Nat)(f:Nat→Nat),(∀i,i≤n→f i < n)→∃i j,i < j∧j≤n∧f i=f j
 |0,f,h=>absurd (h 0 (yn _)) (Nat.not_lt_zero _)
 |n+1,f,h=>by
  by_cases hc:∃i,i≤n∧f i=f (n+1)
  ·obtain⟨i,h1,h2⟩:=hc;exact⟨i,n+1,by omega,yn _,h2⟩
  have hne:∀i,i≤n→f i≠f (n+1):=λi hi e=>hc ⟨i,hi,e⟩;have hv:=h (n+1) (yn _)
  obtain⟨i,j,h1,h2,h3⟩:=php n (λi=>if f i > f (n+1) then f i - 1 else f i) (λi hi=>by
   have a:=h i (by omega);have b:=hne i hi;show(if f i > f (n+1) then f i - 1 else f i) < n
   split <;> omega)
  refine⟨i,j,h1,by omega, ?_⟩;have a:=hne i (by omega);have b:=hne j (by omega);have h3:(if f i > f (n+1) then f i - 1 else f i)=(if f j > f (n+1) then f j - 1 else f j):=h3
  split at h3 <;> split at h3 <;> omega
theorem Zkd{h a m:Nat}(ha:h ^ a % m=1 % m)(k:Nat):h ^ (a*k) % m=1 % m:=by
 rw[Nat.pow_mul,Nat.pow_mod,ha, ←Nat.pow_mod,Nat.one_pow]
theorem ZyG{h a b m:Nat}(ha:h ^ a % m=1 % m)(hb:h ^ b % m=1 % m):h ^ (a % b) % m=1 % m:=by
 have e:a=b*(a / b)+a % b:=(Nat.div_add_mod a b).symm;rw[e,Nat.pow_add,Nat.mul_mod,Zkd hb, ←Nat.mul_mod,Nat.one_mul] at ha;exact ha
theorem Zp4{h m:Nat}(a b:Nat)(ha:h ^ a % m=1 % m)(hb:h ^ b % m=1 % m):h ^ (Nat.gcd a b) % m=1 % m:=by
 induction a,b using Nat.gcd.induction with
 |H0 n=>rw[Nat.gcd_zero_left];exact hb
 |H1 a b h0 ih=>
  rw[Nat.gcd_rec];exact ih (ZyG hb ha) ha
theorem ZFA{h r m i j:Nat}(hr:h ^ r % m=1 % m)(hi:i < j)(hj:j < r)(e:h ^ i % m=h ^ j % m):h ^ (j - i) % m=1 % m:=by
 have h1:h ^ i*h ^ (r - i)=h ^ r:=by rw[←Nat.pow_add];congr 1;omega
 have h2:h ^ j*h ^ (r - i)=h ^ (j - i)*h ^ r:=by rw[←Nat.pow_add, ←Nat.pow_add];congr 1;omega
 have h3:h ^ j*h ^ (r - i) % m=1 % m:=by rw[Nat.mul_mod, ←e, ←Nat.mul_mod,h1,hr]
 rw[h2,Nat.mul_mod,hr, ←Nat.mul_mod,Nat.mul_one] at h3;exact h3
theorem ZAs{h r m i:Nat}(hm:1 < m)(hr:h ^ r % m=1 % m)(hi:i≤r):h ^ i % m≠0:=by
 intro e;have h1:h ^ i*h ^ (r - i)=h ^ r:=by rw[←Nat.pow_add];congr 1;omega
 rw[←h1,Nat.mul_mod,e,Nat.zero_mul,Nat.zero_mod,yah hm] at hr;omega
theorem ZAt{h r c:Nat}(hr:Pr r)(hc:1 < c)(h1:h ^ r % c=1 % c)(h2:h % c≠1 % c):r < c:=by
 rcases yca r c with k|k
 ·exact k
 exfalso
 obtain⟨i,j,a,b,e⟩:=php (c - 1) (λi=>h ^ i % c - 1) (λi hi=>by
  have:=ybb (h ^ i) (show c > 0 by omega);have:=ZAs hc h1 (i:=i) (by omega);show h ^ i % c - 1 < c - 1;omega)
 have q1:=ZAs hc h1 (i:=i) (by omega);have q2:=ZAs hc h1 (i:=j) (by omega);have e:h ^ i % c - 1=h ^ j % c - 1:=e;have h3:=ZFA h1 a (by omega) (show h ^ i % c=h ^ j % c by omega);have h4:=Zp4 _ _ h3 h1;rw[hr.2 (j - i) (by omega) (by omega),Nat.pow_one] at h4;exact h2 h4
theorem ZBL{n r:Nat}(h:Nat)(hr:Pr r)(hn:1 < n)(hs:n≤r*r)(h1:h ^ r % n=1 % n)(h0:0 < h)(h2:Nat.gcd (h - 1) n=1):Pr n:=by
 refine⟨hn,λk k0 kn=> ?_⟩;have dn:Nat.gcd k n ∣ n:=Nat.gcd_dvd_right k n;have dk:Nat.gcd k n ∣ k:=Nat.gcd_dvd_left k n;have d0:0 < Nat.gcd k n:=Nat.gcd_pos_of_pos_left _ k0;have dl:Nat.gcd k n≤k:=Nat.le_of_dvd k0 dk;generalize Nat.gcd k n=d at*;by_cases d1:d=1
 ·exact d1
 exfalso
 have great:∀c,1 < c→c ∣ n→r < c:=λc c1 cn=>by
  refine ZAt (h:=h) hr c1 ?_ λe=> ?_
  ·obtain⟨q,rfl⟩:=cn;have:=congrArg (· % c) h1;simp only[Nat.mod_mul_right_mod] at this;exact this
  ·have k1:c ∣ h - 1:=Nat.dvd_of_mod_eq_zero (Nat.sub_mod_eq_zero_of_mod_eq e);have:=Nat.dvd_gcd k1 cn;rw[h2] at this;have:=Nat.le_of_dvd (by omega) this;omega
 obtain⟨e,rfl⟩:=dn
 have e1:1 < e:=by
  rcases yca 1 e with h|h
  ·exact h
  ·have:d*e≤d*1:=Nat.mul_le_mul_left _ h;omega
 have a:=great d (by omega) (Nat.dvd_mul_right ..);have b:=great e e1 (Nat.dvd_mul_left ..);have:=Nat.mul_le_mul (show r+1≤d from a) (show r+1≤e from b)
 rw[yay,Nat.mul_add] at this;omega
def ZBM(n:Nat):Nat→Bool
 |0=>true
 |k+1=>(decide (k < 1) || !(n % (k+1)==0))&&ZBM n k
theorem ZsJ{n:Nat}:∀{k:Nat},ZBM n k=true→∀d,1 < d→d≤k→¬d ∣ n
 |0,_,d,h1,h2=>by omega
 |k+1,h,d,h1,h2=>by
  simp only[ZBM,yj,Bool.or_eq_true,decide_eq_true_eq,Bool.not_eq_true',beq_eq_false_iff_ne] at h;rcases yca d (k+1) with c|c
  ·exact ZsJ h.2 d h1 (by omega)
  ·have:d=k+1:=by omega
   subst this;rcases h.1 with h|h
   ·omega
   ·intro q;exact h (Nat.mod_eq_zero_of_dvd q)
theorem ZFB{n s:Nat}(hn:1 < n)(hs:n < (s+1)*(s+1))(h:ZBM n s=true):Pr n:=by
 refine⟨hn,λk k0 kn=> ?_⟩;have dn:Nat.gcd k n ∣ n:=Nat.gcd_dvd_right k n;have d0:0 < Nat.gcd k n:=Nat.gcd_pos_of_pos_left _ k0;have dl:Nat.gcd k n≤k:=Nat.le_of_dvd k0 (Nat.gcd_dvd_left k n);generalize Nat.gcd k n=d at*;by_cases d1:d=1
 ·exact d1
 exfalso;obtain⟨e,rfl⟩:=dn
 have e1:1 < e:=by
  rcases yca 1 e with h|h
  ·exact h
  ·have:d*e≤d*1:=Nat.mul_le_mul_left _ h;omega
 rcases yca s d with a|a
 ·rcases yca s e with b|b
  ·have:=Nat.mul_le_mul (show s+1≤d from a) (show s+1≤e from b)
   omega
  ·exact ZsJ h e e1 b (Nat.dvd_mul_left ..)
 ·exact ZsJ h d (by omega) a (Nat.dvd_mul_right ..)
def pwm(m:Nat):Nat→Nat→Nat→Nat→Nat
 |0,_,_,o=>o
 |f+1,a,n,o=>if n=0 then o else pwm m f (a*a % m) (n / 2) (if n % 2=1 then o*a % m else o)
theorem ZwG{m:Nat}:∀(k a n o:Nat),n < 2 ^ k→pwm m k a n o % m=o*a ^ n % m
 |0,a,n,o,h=>by
  have:n=0:=by rw[Nat.pow_zero] at h;omega
  subst this
  rw[pwm,Nat.pow_zero,Nat.mul_one]
 |k+1,a,n,o,h=>by
  rw[pwm];by_cases h0:n=0
  ·rw[if_pos h0,h0,Nat.pow_zero,Nat.mul_one]
  rw[if_neg h0,ZwG k _ _ _ (by rw[Nat.pow_succ] at h;omega)]
  have e:a ^ n=(a*a) ^ (n / 2)*a ^ (n % 2):=by
   rw[←Nat.pow_two, ←Nat.pow_mul, ←Nat.pow_add];congr 1;omega
  have e2:(a*a % m) ^ (n / 2) % m=(a*a) ^ (n / 2) % m:=(Nat.pow_mod ..).symm;rw[e];split
  ·rename_i h1;rw[h1,Nat.pow_one,Nat.mul_mod,e2, ←Nat.mul_mod,Nat.mul_mod,Nat.mod_mod, ←Nat.mul_mod];congr 1;rw[Nat.mul_assoc,ybi a]
  ·rename_i h1;have:n % 2=0:=by omega
   rw[this,Nat.pow_zero,Nat.mul_one,Nat.mul_mod,e2, ←Nat.mul_mod]
theorem ZsK{m a n z:Nat}(k:Nat)(h:n < 2 ^ k)(e:pwm m k a n 1 % m=z):a ^ n % m=z:=by
 have:=ZwG (m:=m) k a n 1 h;rw[Nat.one_mul] at this;rw[←this,e]
def pc0:Nat:=7930907
def pc1:Nat:=11864636873
def pc2:Nat:=1732236983459
def pc3:Nat:=249442125618097
def ord:Nat:=2305843009213688669
def mdl:Nat:=4611686018427377339
theorem pr0:Pr pc0:=ZFB (s:=2816) (by decide) (by decide) (by decide+kernel)
theorem pr1:Pr pc1:=ZBL 409113128 pr0 (by decide) (by decide) (ZsK 23 (by decide) (by decide+kernel)) (by decide) (by decide+kernel)
theorem pr2:Pr pc2:=ZBL 353522539148 pr1 (by decide) (by decide) (ZsK 34 (by decide) (by decide+kernel)) (by decide) (by decide+kernel)
theorem pr3:Pr pc3:=ZBL 117107719143424 pr2 (by decide) (by decide) (ZsK 41 (by decide) (by decide+kernel)) (by decide) (by decide+kernel)
theorem pr4:Pr ord:=ZBL 732368710688439132 pr3 (by decide) (by decide) (ZsK 48 (by decide) (by decide+kernel)) (by decide) (by decide+kernel)
def Q7(a:Nat):Prop:=0 < a∧a < mdl∧a ^ ord % mdl=1
theorem ZKf{a:Nat}(h:a < mdl)(e:a ^ ord % mdl=1):Q7 a:=by
 refine⟨?_,h,e⟩;rcases ycc a with h0|h0
 ·subst h0;rw[Nat.zero_pow (by decide)] at e;cases e
 ·exact h0
theorem ZAu:Q7 1:=⟨by decide,by decide,by rw[Nat.one_pow];decide⟩
theorem ZFC:Q7 4:=⟨by decide,by decide,ZsK 61 (by decide) (by decide+kernel)⟩
theorem ZJg{a:Nat}(ha:Q7 a)(n:Nat):Q7 (a ^ n % mdl):=by
 refine ZKf (ybb _ (by decide)) ?_;rw[←Nat.pow_mod, ←Nat.pow_mul,ybi];exact Zkd (m:=mdl) ha.2.2 n
theorem ZHt{a:Nat}(ha:Q7 a)(n:Nat):a ^ (n % ord) % mdl=a ^ n % mdl:=by
 have e:n=ord*(n / ord)+n % ord:=(Nat.div_add_mod n _).symm;have h:=Zkd (m:=mdl) (k:=n / ord) ha.2.2
 conv=>rhs;rw[e]
 rw[Nat.pow_add,Nat.mul_mod,h, ←Nat.mul_mod,Nat.one_mul]
theorem ZJh{k:Nat}(h0:0 < k)(h1:k < ord):4 ^ k % mdl≠1:=by
 intro e;have:=Zp4 (h:=4) (m:=mdl) k _ e ZFC.2.2;rw[pr4.2 k h0 h1] at this;revert this;decide
end Go.Ev
end
section
set_option maxRecDepth 4000
namespace Go.Proofs.YtmkgbalfkhaflaaGreat
open Go Go.Ev
theorem ZFD{z:Nat}:(yad (z % 4611686018427377339)).toNat=z % 4611686018427377339:=by
 rw[yba,yah];exact Nat.lt_trans (ybb _ (by decide)) (by decide)
theorem ZyH(a b:UInt64):Yu fuel a b=some (yad (a.toNat*b.toNat % 4611686018427377339)):=by
 unfold Yu Zdd;rw[ya];dsimp only;unfold WK;rw[if_pos (by decide),ya,yba,yba];have h:a.toNat*b.toNat < 18446744073709551616*18446744073709551616:=Nat.mul_lt_mul'' (ybr a) (ybr b);have h2:a.toNat*b.toNat / 18446744073709551616 < 18446744073709551616:=(Nat.div_lt_iff_lt_mul (by decide)).2 h;generalize a.toNat*b.toNat=z at*;rw[show(4611686018427377339:UInt64).toNat=4611686018427377339 from rfl]
 have e:z / 18446744073709551616 % 2 ^ 64*18446744073709551616+z % 18446744073709551616 % 2 ^ 64=z:=by omega
 rw[e]
theorem ZsL:∀(k m:Nat)(A N O:UInt64),N.toNat < 2 ^ k→k < m→Zc (Vn fuel) m (A,N,O)=some (yad (pwm 4611686018427377339 k A.toNat N.toNat O.toNat))
 |k,0,_,_,_,_,h=>by omega
 |0,m+1,A,N,O,h,_=>by
  have hn:¬N > 0:=by
   intro h2;have h3:0 < N.toNat:=ybz.1 h2;rw[Nat.pow_zero] at h;omega
  have hs:Vn fuel (A,N,O)=if decide (N > 0)=true then(if((N&&&1)==1)=true then(Yu fuel O A).bind λo1=>(Yu fuel A A).bind λo2=>some (.inl (o2,ZG N 1,o1)) else(Yu fuel A A).bind λo2=>some (.inl (o2,ZG N 1,O))) else some (.inr O):=rfl
  unfold Zc;rw[hs]
  rw[if_neg (by rw[decide_eq_true_iff];exact hn),ya,pwm,UInt64.ofNat_toNat]
 |k+1,m+1,A,N,O,h,hm=>by
  have hs:Vn fuel (A,N,O)=if decide (N > 0)=true then(if((N&&&1)==1)=true then(Yu fuel O A).bind λo1=>(Yu fuel A A).bind λo2=>some (.inl (o2,ZG N 1,o1)) else(Yu fuel A A).bind λo2=>some (.inl (o2,ZG N 1,O))) else some (.inr O):=rfl
  unfold Zc;rw[hs];by_cases h2:N > 0
  ·have hp:0 < N.toNat→pwm 4611686018427377339 (k+1) A.toNat N.toNat O.toNat=pwm 4611686018427377339 k (A.toNat*A.toNat % 4611686018427377339) (N.toNat / 2) (if N.toNat % 2=1 then O.toNat*A.toNat % 4611686018427377339 else O.toNat):=λh=>by
    rw[pwm,if_neg (by omega)]
   have h3:0 < N.toNat:=ybz.1 h2
   have hsh:(ZG N 1).toNat=N.toNat / 2:=by
    unfold ZG;rw[yba,yah (ycu (Nat.div_le_self ..) (ybr _))]
   have hlt:(ZG N 1).toNat < 2 ^ k:=by
    rw[hsh];rw[Nat.pow_succ] at h;omega
   have hand:((N&&&1)==1)=decide (N.toNat % 2=1):=by
    rw[Bool.eq_iff_iff,beq_iff_eq,decide_eq_true_iff, ←UInt64.toNat_inj,UInt64.toNat_and];exact Iff.of_eq (congrArg (· =1) (Nat.and_one_is_mod _))
   rw[if_pos (decide_eq_true h2),hand,hp h3];simp only[ZyH];by_cases h4:N.toNat % 2=1
   ·rw[if_pos (decide_eq_true h4),if_pos h4,ya,ya,ya];dsimp only;rw[ZsL k m _ _ _ hlt (by omega),ZFD,ZFD,hsh]
   ·rw[if_neg (by rw[decide_eq_true_iff];exact h4),if_neg h4,ya,ya];dsimp only;rw[ZsL k m _ _ _ hlt (by omega),ZFD,hsh]
  ·have h3:N.toNat=0:=by
    rcases ycc N.toNat with h5|h5
    ·exact h5
    ·exact absurd (show(0:UInt64) < N from ybz.2 h5) h2
   rw[if_neg (by rw[decide_eq_true_iff];exact h2),ya,pwm,if_pos h3,UInt64.ofNat_toNat]
theorem ZFE(a n:UInt64):Zg0 fuel a n=some (yad (pwm 4611686018427377339 64 a.toNat n.toNat 1)):=by
 unfold Zg0;rw[ZsL 64 fuel a n 1 (ybr _) (by rw[ZcL];omega),ya];rfl
noncomputable def QN(F:Nat)(a0:UInt64)(a1:UInt64):Option UInt64:=some (yad (pwm 4611686018427377339 64 a0.toNat a1.toNat 1))
noncomputable def ZsM(F:Nat):Fs yc:={ ZdO F with M:=λx=>QN F x.1 x.2}
noncomputable def ZcN:Fs yc:=ZsM fuel
theorem Zfv:ZcN.Ok:=ZmQ (s:=ZdO fuel) ZqE λx=>(ZFE x.1 x.2).symm
end Go.Proofs.YtmkgbalfkhaflaaGreat
end
section
set_option maxRecDepth 4000
namespace Go.Proofs.YtmkgbalfkhaflaaGreat
open Go Go.Ev
noncomputable section
def XM(F:Nat)(a0:UInt64):Option (Bool):=
 if(decide (a0 > 0))=true then
  if(decide (a0 < 4611686018427377339))=true then
   (QN F a0 2305843009213688669).bind λo48=>
   some (o48==1)
  else
  some false
 else
 some false
def VW:Fs yc:=⟨70,[.v .u64],[],[.u64],[⟨.ret,[(0,.v .bool)],[],[.bool]⟩],λx=>XM fuel x⟩
theorem Qr:VW.Ok:=fnO { still:=[2,10]} [] [ZcN] ⟨Zfv,ytt⟩
def VX(F:Nat)(a0:UInt64):Option (Bool):=
 (XM F a0).bind λo49=>
 some (!o49)
def Zfw:Fs yc:=⟨69,[.v .u64],[],[.u64],[⟨.ret,[(0,.v .bool)],[],[.bool]⟩],λx=>VX fuel x⟩
theorem Zje:Zfw.Ok:=fnO { still:=[2,3]} [] [VW] ⟨Qr,ytt⟩
def VC(F:Nat)(a0:Int):Option (Bool):=
 if(decide (a0 ≥ 0))=true then
  some (decide (a0≤1048576))
 else
 some false
def Zl6:Fs yc:=⟨72,[.v yI],[],[yI],[⟨.ret,[(0,.v .bool)],[],[.bool]⟩],λx=>VC fuel x⟩
theorem ZsN:Zl6.Ok:=fnO { still:=[2]} [] [] trivial
def Xj(F:Nat)(s:((List UInt64)×Int×Int)):Option (((List UInt64)×Int×Int)⊕(Int⊕Unit)):=
 if(decide (s.2.2 < s.2.1))=true then
  (idx s.1 s.2.2).bind λe51=>
  (VX F e51).bind λo52=>
  if o52=true then
   some (.inr (.inl s.2.2))
  else
  some (.inl (s.1,s.2.1,wi (s.2.2+1)))
 else
 some (.inr (.inr ()))
def ZhF:Lp:=⟨[(0,.v (.sl .u64)),(1,.fn 69 []),(7,.v yI),(8,.v yI)],[],[(.sl .u64),yI,yI],[⟨.ret,[(4,.v yI)],[],[yI]⟩,⟨.exit 0,[],[],[]⟩],Zc (Xj fuel) fuel⟩
theorem ZlC:ZhF.okA yc 128 0:=ZC { still:=[4,15]} [] [Zfw] ⟨Zje,ytt⟩
def Zbl(F:Nat)(a0:(List UInt64)):Option (Int):=
 (Zc (Xj F) F (a0,(a0.length:Int),0)).bind λo53=>
 match o53 with
 |.inl o54=>
  some o54
 |.inr o55=>
  some (-1)
def Zjf:Fs yc:=⟨128,[.v (.sl .u64),.fn 69 []],[],[(.sl .u64)],[⟨.ret,[(0,.v yI)],[],[yI]⟩],λx=>Zbl fuel x⟩
theorem Zo5:Zjf.Ok:=fnO { still:=[4,15]} [(0,ZhF)] [] trivial ⟨ZlC,ytt⟩
def Zcp(F:Nat)(a0:(List UInt64)):Option (Bool):=
 (Zbl F a0).bind λo56=>
 some (decide (o56 ≥ 0))
def Zp5:Fs yc:=⟨71,[.v (.sl .u64),.fn 69 []],[],[(.sl .u64)],[⟨.ret,[(0,.v .bool)],[],[.bool]⟩],λx=>Zcp fuel x⟩
theorem ZwH:Zp5.Ok:=fnO { still:=[4,5,6]} [] [Zjf] ⟨Zo5,ytt⟩
def Wm(F:Nat)(s:((List ZM)×Int×Int×Lock)):Option (((List ZM)×Int×Int×Lock)⊕((Bool×Lock)⊕Lock)):=
 if(decide (s.2.2.1 < s.2.1))=true then
  (idx s.1 s.2.2.1).bind λe50=>
  if(decide ((e50.1.length:Int) > 12))=true then
   some (.inr (.inl (false,s.2.2.2)))
  else
  (Zcp F e50.1).bind λo57=>
  if o57=true then
   some (.inr (.inl (false,s.2.2.2)))
  else
  (VC F e50.2.1).bind λo58=>
  if(!o58)=true then
   some (.inr (.inl (false,s.2.2.2)))
  else
  (VC F e50.2.2.1).bind λo59=>
  if(!o59)=true then
   some (.inr (.inl (false,s.2.2.2)))
  else
  if(e50.2.2.2 !=0)=true then
   (VX F e50.2.2.2).bind λo60=>
   if o60=true then
    some (.inr (.inl (false,s.2.2.2)))
   else
   some (.inl (s.1,s.2.1,wi (s.2.2.1+1),s.2.2.2))
  else
  some (.inl (s.1,s.2.1,wi (s.2.2.1+1),s.2.2.2))
 else
 some (.inr (.inr s.2.2.2))
def Zl7:Lp:=⟨[(1,.ref 0 []),(3,.fn 69 []),(7,.v (.sl Zp)),(8,.v yI),(9,.v yI)],[.var (.v Zo) true],[(.sl Zp),yI,yI,Zo],[⟨.ret,[(2,.v .bool)],[.var (.v Zo) true],[.bool,Zo]⟩,⟨.exit 0,[(1,.ref 0 [])],[.var (.v Zo) true],[Zo]⟩],Zc (Wm fuel) fuel⟩
theorem Zo6:Zl7.okA yc 24 0:=ZC { still:=[2,19,20,25,31,42]} [] [Zp5,Zl6,Zfw] ⟨ZwH,ZsN,Zje,ytt⟩
def Y6(F:Nat)(a0:Lock):Option (Bool):=
 (Zc (Wm F) F (a0,(a0.length:Int),0,a0)).bind λo61=>
 match o61 with
 |.inl o62=>
  some o62.1
 |.inr o63=>
  if(decide ((o63.length:Int) > 0))=true then
   some (decide ((o63.length:Int)≤4))
  else
  some false
def Zg1(F:Nat):Fs yc:=⟨24,[.v Zo],[],[Zo],[⟨.ret,[(0,.v .bool)],[],[.bool]⟩],λx=>Y6 F x⟩
def QO:Fs yc:=Zg1 fuel
theorem VY:QO.Ok:=fnO { still:=[2,19,20,25,31,42]} [(0,Zl7)] [] trivial ⟨Zo6,ytt⟩
def Zfx(F:Nat)(a0:Int):Option (Bool):=
 if(decide (a0 ≥ 0))=true then
  some (decide (a0≤1125899906842624))
 else
 some false
def Zp6:Fs yc:=⟨129,[.v yI],[],[yI],[⟨.ret,[(0,.v .bool)],[],[.bool]⟩],λx=>Zfx fuel x⟩
theorem ZwI:Zp6.Ok:=fnO { still:=[2]} [] [] trivial
def ZhG(F:Nat)(a0:Int)(a1:Int):Option ((Int×Bool)):=
 (Zfx F a0).bind λo64=>
 if(!o64)=true then
  some (0,false)
 else
 (Zfx F a1).bind λo65=>
 if(!o65)=true then
  some (0,false)
 else
 if(decide (a0 > (wi (1125899906842624 - a1))))=true then
  some (0,false)
 else
 some (wi (a0+a1),true)
def Zo7:Fs yc:=⟨74,[.v yI,.v yI],[],[yI,yI],[⟨.ret,[(0,.tup [.v yI,.v .bool])],[],[yI,.bool]⟩],λx=>ZhG fuel x.1 x.2⟩
theorem ZsO:Zo7.Ok:=fnO { still:=[4,5,6,10]} [] [Zp6] ⟨ZwI,ytt⟩
def Xk(F:Nat)(a0:Int)(a1:Int)(a2:Int):Option (Bool):=
 if(decide (a1≤a0))=true then
  some (decide (a0≤a2))
 else
 some false
def Zjg:Fs yc:=⟨159,[.v yI,.v yI,.v yI],[],[yI,yI,yI],[⟨.ret,[(0,.v .bool)],[],[.bool]⟩],λx=>Xk fuel x.1 x.2.1 x.2.2⟩
theorem Zo8:Zjg.Ok:=fnO { still:=[6]} [] [] trivial
def ZeF(F:Nat)(a0:Zbi):Option (Bool):=
 (Xk F a0.1 0 65536).bind λo66=>
 if o66=true then
  (Xk F a0.2.2.1 1 4096).bind λo67=>
  if o67=true then
   (Xk F a0.2.2.2.1 0 16).bind λo68=>
   if o68=true then
    (Xk F a0.2.1 a0.1 1125899906842624).bind λo69=>
    if o69=true then
     (Xk F a0.2.2.2.2.1 1 1125899906842624).bind λo70=>
     if o70=true then
      (Xk F a0.2.2.2.2.2 0 1125899906842624).bind λo71=>
      some o71
     else
     some false
    else
    some false
   else
   some false
  else
  some false
 else
 some false
def Zl8:Fs yc:=⟨120,[.v ZdL],[],[ZdL],[⟨.ret,[(0,.v .bool)],[],[.bool]⟩],λx=>ZeF fuel x⟩
def hi0:HI:={ still:=[2,7,12,18,25,27,33,39]}
theorem ZsP:Zl8.Ok:=fnO hi0 [] [Zjg] ⟨Zo8,ytt⟩
def ZdP(F:Nat)(a0:UInt64):Option (Bool):=
 if(a0==1)=true then
  some true
 else
 (XM F a0).bind λo72=>
 some (!o72)
def ZhH:Fs yc:=⟨160,[.v .u64],[],[.u64],[⟨.ret,[(0,.v .bool)],[],[.bool]⟩],λx=>ZdP fuel x⟩
theorem ZnR:ZhH.Ok:=fnO { still:=[2,6]} [] [VW] ⟨Qr,ytt⟩
def WL(F:Nat)(s:((List UInt64)×Int×Int)):Option (((List UInt64)×Int×Int)⊕(Int⊕Unit)):=
 if(decide (s.2.2 < s.2.1))=true then
  (idx s.1 s.2.2).bind λe73=>
  (ZdP F e73).bind λo74=>
  if o74=true then
   some (.inr (.inl s.2.2))
  else
  some (.inl (s.1,s.2.1,wi (s.2.2+1)))
 else
 some (.inr (.inr ()))
def Zd7:Lp:=⟨[(0,.v (.sl .u64)),(1,.fn 160 []),(7,.v yI),(8,.v yI)],[],[(.sl .u64),yI,yI],[⟨.ret,[(4,.v yI)],[],[yI]⟩,⟨.exit 0,[],[],[]⟩],Zc (WL fuel) fuel⟩
theorem Zis:Zd7.okA yc 128 0:=ZC { still:=[4,15]} [] [ZhH] ⟨ZnR,ytt⟩
def Zbm(F:Nat)(a0:(List UInt64)):Option (Int):=
 (Zc (WL F) F (a0,(a0.length:Int),0)).bind λo75=>
 match o75 with
 |.inl o76=>
  some o76
 |.inr o77=>
  some (-1)
def Zfy:Fs yc:=⟨128,[.v (.sl .u64),.fn 160 []],[],[(.sl .u64)],[⟨.ret,[(0,.v yI)],[],[yI]⟩],λx=>Zbm fuel x⟩
theorem ZlD:Zfy.Ok:=fnO { still:=[4,15]} [(0,Zd7)] [] trivial ⟨Zis,ytt⟩
def Zg2(F:Nat)(a0:(List UInt64)):Option (Bool):=
 (Zbm F a0).bind λo78=>
 some (decide (o78 ≥ 0))
def Zke:Fs yc:=⟨71,[.v (.sl .u64),.fn 160 []],[],[(.sl .u64)],[⟨.ret,[(0,.v .bool)],[],[.bool]⟩],λx=>Zg2 fuel x⟩
theorem ZqF:Zke.Ok:=fnO { still:=[4,5,6]} [] [Zfy] ⟨ZlD,ytt⟩
def ZcO(F:Nat)(a0:QZ):Option (Bool):=
 (Zg2 F [a0.1,a0.2.1,a0.2.2.1,a0.2.2.2.1,a0.2.2.2.2]).bind λo79=>
 some (!o79)
def Zkf:Fs yc:=⟨121,[.v V4],[],[V4],[⟨.ret,[(0,.v .bool)],[],[.bool]⟩],λx=>ZcO fuel x⟩
theorem ZqG:Zkf.Ok:=fnO { still:=[2,14,15]} [] [Zke] ⟨ZqF,ytt⟩
abbrev Zh:Ty:=(.st [XU,yI,(.arr 2 V4),(.arr 2 ZdL),yI])
abbrev ZH:Type:=(Xw×Int×(List QZ)×(List Zbi)×Int)
def ZcP(F:Nat)(s:((List Zbi)×Int×ZH)):Option (((List Zbi)×Int×ZH)⊕((Int×ZH)⊕ZH)):=
 if(decide (s.2.1 < 2))=true then
  (idx s.1 s.2.1).bind λe80=>
  (ZeF F e80).bind λo81=>
  if(!o81)=true then
   some (.inr (.inl (1,s.2.2)))
  else
  if(inB s.2.1 2)=true then
   (s.2.2.2.2.1[s.2.1.toNat]?).bind λe82=>
   (ZcO F e82).bind λo83=>
   if(!o83)=true then
    some (.inr (.inl (1,s.2.2)))
   else
   some (.inl (s.1,wi (s.2.1+1),s.2.2))
  else
  none
 else
 some (.inr (.inr s.2.2))
def ZnS:Lp:=⟨[(1,.ref 0 []),(34,.v (.arr 2 ZdL)),(35,.v yI)],[.var (.v Zh) true],[(.arr 2 ZdL),yI,Zh],[⟨.ret,[(2,.v yI)],[.var (.v Zh) true],[yI,Zh]⟩,⟨.exit 0,[(1,.ref 0 [])],[.var (.v Zh) true],[Zh]⟩],Zc (ZcP fuel) fuel⟩
theorem ZqH:ZnS.okA yc 62 0:=ZC { still:=[2,39,46,55,59]} [] [Zl8,Zkf] ⟨ZsP,ZqG,ytt⟩
def Zit(F:Nat)(a0:ZH):Option (Int):=
 if(decide (a0.2.1 < 1))=true then
  some 1
 else
 if(decide (a0.2.1 > 1125899906842624))=true then
  some 1
 else
 if(decide (a0.1.2 < 0))=true then
  some 1
 else
 if(decide (a0.1.2 ≥ 64))=true then
  some 1
 else
 if((bits .andNot .i64 a0.2.2.2.2 1)!=0)=true then
  some 1
 else
 (Zc (ZcP F) F (a0.2.2.2.1,0,a0)).bind λo84=>
 match o84 with
 |.inl o85=>
  some o85.1
 |.inr o86=>
  (o86.2.2.2.1[0]?).bind λe87=>
  (o86.2.2.2.1[1]?).bind λe88=>
  (ZhG F e87.2.1 e88.2.1).bind λo89=>
  if(!o89.2)=true then
   some 10
  else
  if(decide (o89.1 > o86.2.1))=true then
   some 10
  else
  some 0
def Zp7:Fs yc:=⟨62,[.v Zh],[],[Zh],[⟨.ret,[(0,.v yI)],[],[yI]⟩],λx=>Zit fuel x⟩
theorem ZwJ:Zp7.Ok:=fnO { still:=[2,39,46,55,59]} [(0,ZnS)] [Zo7] ⟨ZsO,ytt⟩ ⟨ZqH,ytt⟩
def ZdQ(F:Nat)(a0:Int)(s0:Int)(s1:Int):Option ((Bool×Int×Int)):=
 if(decide (a0 < s0))=true then
  some (true,s0,s1)
 else
 some (decide (a0 > s1),s0,s1)
def ZhI:Fs yc:=⟨123,[.v yI,.ref 0 [],.ref 1 []],[.var (.v yI) true,.var (.v yI) true],[yI,yI,yI],[⟨.ret,[(0,.v .bool)],[.var (.v yI) true,.var (.v yI) true],[.bool,yI,yI]⟩],λx=>ZdQ fuel x.1 x.2.1 x.2.2⟩
theorem ZnT:ZhI.Ok:=fnO { still:=[4]} [] [] trivial
def YX(F:Nat)(s:((List Int)×Int×Int×Int×Int)):Option (((List Int)×Int×Int×Int×Int)⊕((Int×Int×Int)⊕(Int×Int))):=
 if(decide (s.2.2.1 < s.2.1))=true then
  (idx s.1 s.2.2.1).bind λe90=>
  (ZdQ F e90 s.2.2.2.1 s.2.2.2.2).bind λo91=>
  if o91.1=true then
   some (.inr (.inl (s.2.2.1,o91.2.1,o91.2.2)))
  else
  some (.inl (s.1,s.2.1,wi (s.2.2.1+1),o91.2.1,o91.2.2))
 else
 some (.inr (.inr (s.2.2.2.1,s.2.2.2.2)))
def V5:Lp:=⟨[(0,.v (.sl yI)),(1,.fn 123 [.ref 0 [],.ref 1 []]),(7,.v yI),(8,.v yI)],[.var (.v yI) true,.var (.v yI) true],[(.sl yI),yI,yI,yI,yI],[⟨.ret,[(4,.v yI)],[.var (.v yI) true,.var (.v yI) true],[yI,yI,yI]⟩,⟨.exit 0,[],[.var (.v yI) true,.var (.v yI) true],[yI,yI]⟩],Zc (YX fuel) fuel⟩
theorem Zcq:V5.okA yc 161 0:=ZC { still:=[4,15]} [] [ZhI] ⟨ZnT,ytt⟩
def WA(F:Nat)(a0:(List Int))(s0:Int)(s1:Int):Option ((Int×Int×Int)):=
 (Zc (YX F) F (a0,(a0.length:Int),0,s0,s1)).bind λo92=>
 match o92 with
 |.inl o93=>
  some (o93.1,o93.2.1,o93.2.2)
 |.inr o94=>
  some ((-1),o94.1,o94.2)
def Qs:Fs yc:=⟨161,[.v (.sl yI),.fn 123 [.ref 0 [],.ref 1 []]],[.var (.v yI) true,.var (.v yI) true],[(.sl yI),yI,yI],[⟨.ret,[(0,.v yI)],[.var (.v yI) true,.var (.v yI) true],[yI,yI,yI]⟩],λx=>WA fuel x.1 x.2.1 x.2.2⟩
theorem ZeG:Qs.Ok:=fnO { still:=[4,15]} [(0,V5)] [] trivial ⟨Zcq,ytt⟩
def XZ(F:Nat)(a0:(List Int))(s0:Int)(s1:Int):Option ((Bool×Int×Int)):=
 (WA F a0 s0 s1).bind λo95=>
 some (decide (o95.1 ≥ 0),o95.2.1,o95.2.2)
def Vt:Fs yc:=⟨122,[.v (.sl yI),.fn 123 [.ref 0 [],.ref 1 []]],[.var (.v yI) true,.var (.v yI) true],[(.sl yI),yI,yI],[⟨.ret,[(0,.v .bool)],[.var (.v yI) true,.var (.v yI) true],[.bool,yI,yI]⟩],λx=>XZ fuel x.1 x.2.1 x.2.2⟩
theorem Zcr:Vt.Ok:=fnO { still:=[4,5,6]} [] [Qs] ⟨ZeG,ytt⟩
def YS(F:Nat)(a0:Int)(a1:Int)(a2:(List Int)):Option (Bool):=
 (XZ F a2 a0 a1).bind λo96=>
 some (!o96.1)
def Zfz:Fs yc:=⟨63,[.v yI,.v yI,.v (.sl yI)],[],[yI,yI,(.sl yI)],[⟨.ret,[(0,.v .bool)],[],[.bool]⟩],λx=>YS fuel x.1 x.2.1 x.2.2⟩
theorem Zjh:Zfz.Ok:=fnO { still:=[6,7,8]} [] [Vt] ⟨Zcr,ytt⟩
def ZgE(F:Nat)(a0:Cond):Option (Bool):=
 (YS F 0 1 [a0.1]).bind λo97=>
 if o97=true then
  (YS F 1 1048576 [a0.2.1]).bind λo98=>
  if o98=true then
   (YS F 1 1125899906842624 [a0.2.2.1]).bind λo99=>
   if o99=true then
    (YS F 1 1048576 [a0.2.2.2.2]).bind λo100=>
    if o100=true then
     (XM F a0.2.2.2.1).bind λo101=>
     if o101=true then
      some (a0.2.2.2.1 !=1)
     else
     some false
    else
    some false
   else
   some false
  else
  some false
 else
 some false
def ZnU:Fs yc:=⟨64,[.v Zq],[],[Zq],[⟨.ret,[(0,.v .bool)],[],[.bool]⟩],λx=>ZgE fuel x⟩
theorem Zt1:ZnU.Ok:=fnO { still:=[2,5,10,16,22,27]} [] [Zfz,VW] ⟨Zjh,Qr,ytt⟩
def Vo(F:Nat)(s:(Int×(List Int)×Int×Int)):Option ((Int×(List Int)×Int×Int)⊕(Int⊕Int)):=
 if(decide (s.2.2.2 < s.2.2.1))=true then
  (idx s.2.1 s.2.2.2).bind λe102=>
  if(e102 !=s.1)=true then
   some (.inr (.inl e102))
  else
  some (.inl (s.1,s.2.1,s.2.2.1,wi (s.2.2.2+1)))
 else
 some (.inr (.inr s.1))
def Zl9:Lp:=⟨[(3,.v yI),(6,.v (.sl yI)),(7,.v yI),(8,.v yI)],[],[yI,(.sl yI),yI,yI],[⟨.ret,[(2,.v yI)],[],[yI]⟩,⟨.exit 0,[(3,.v yI)],[],[yI]⟩],Zc (Vo fuel) fuel⟩
theorem Zo9:Zl9.okA yc 124 0:=ZC { still:=[2]} [] [] trivial
def ZgF(F:Nat)(a0:(List Int)):Option (Int):=
 (Zc (Vo F) F (0,a0,(a0.length:Int),0)).bind λo103=>
 match o103 with
 |.inl o104=>
  some o104
 |.inr o105=>
  some o105
def ZnV:Fs yc:=⟨124,[.v (.sl yI)],[],[(.sl yI)],[⟨.ret,[(0,.v yI)],[],[yI]⟩],λx=>ZgF fuel x⟩
theorem Zt2:ZnV.Ok:=fnO { still:=[2]} [(0,Zl9)] [] trivial ⟨Zo9,ytt⟩
def Zbn(F:Nat)(a0:Int):Option (Bool):=
 some (a0 !=a0)
def Zji:Fs yc:=⟨162,[.v yI],[],[yI],[⟨.ret,[(0,.v .bool)],[],[.bool]⟩],λx=>Zbn fuel x⟩
theorem Zpa:Zji.Ok:=fnO { still:=[2]} [] [] trivial
def Vp(F:Nat)(a0:Int)(a1:Int):Option (Int):=
 (Zbn F a0).bind λo106=>
 (Zbn F a1).bind λo107=>
 if o106=true then
  if o107=true then
   some 0
  else
  some (-1)
 else
 if o107=true then
  some 1
 else
 if(decide (a0 < a1))=true then
  some (-1)
 else
 if(decide (a0 > a1))=true then
  some 1
 else
 some 0
def ZgG:Fs yc:=⟨125,[.v yI,.v yI],[],[yI,yI],[⟨.ret,[(0,.v yI)],[],[yI]⟩],λx=>Vp fuel x.1 x.2⟩
theorem ZmS:ZgG.Ok:=fnO { still:=[4,7,9]} [] [Zji] ⟨Zpa,ytt⟩
def ZeH(F:Nat)(a0:Cond)(a1:Cond):Option (Int):=
 (Vp F a0.1 a1.1).bind λo108=>
 (Vp F a0.2.1 a1.2.1).bind λo109=>
 (ZgF F [o108,o109]).bind λo110=>
 some o110
def Zma:Fs yc:=⟨65,[.v Zq,.v Zq],[],[Zq,Zq],[⟨.ret,[(0,.v yI)],[],[yI]⟩],λx=>ZeH fuel x.1 x.2⟩
theorem ZsQ:Zma.Ok:=fnO { still:=[4,6,8,11,13,15]} [] [ZgG,ZnV] ⟨ZmS,Zt2,ytt⟩
abbrev Zf:Ty:=(.st [yI,(.arr 2 yI),(.sl Zq),yI])
abbrev State:Type:=(Int×(List Int)×(List Cond)×Int)
def WM(F:Nat)(s:(Int×Int×Int×(List Cond)×Int×Int×State)):Option ((Int×Int×Int×(List Cond)×Int×Int×State)⊕(Int×Int×State)):=
 if(decide (s.2.2.2.2.2.1 < s.2.2.2.2.1))=true then
  (idx s.2.2.2.1 s.2.2.2.2.2.1).bind λe111=>
  if(e111.1==(wi (1 - s.1)))=true then
   some (.inl (s.1,wi (s.2.1+1),wi (s.2.2.1+e111.2.2.1),s.2.2.2.1,s.2.2.2.2.1,wi (s.2.2.2.2.2.1+1),s.2.2.2.2.2.2))
  else
  some (.inl (s.1,s.2.1,s.2.2.1,s.2.2.2.1,s.2.2.2.2.1,wi (s.2.2.2.2.2.1+1),s.2.2.2.2.2.2))
 else
 some (.inr (s.2.1,s.2.2.1,s.2.2.2.2.2.2))
def ZhJ:Lp:=⟨[(1,.v yI),(6,.v yI),(7,.v yI),(11,.v (.sl Zq)),(12,.v yI),(13,.v yI)],[.var (.v Zf) true],[yI,yI,yI,(.sl Zq),yI,yI,Zf],[⟨.exit 0,[(6,.v yI),(7,.v yI)],[.var (.v Zf) true],[yI,yI,Zf]⟩],Zc (WM fuel) fuel⟩
theorem ZlE:ZhJ.okA yc 66 0:=ZC { still:=[4,5]} [] [] trivial
def Zbo(F:Nat)(a0:State)(a1:Int):Option ((Int×Int)):=
 (Zc (WM F) F (a1,0,0,a0.2.2.1,(a0.2.2.1.length:Int),0,a0)).bind λo112=>
 some (o112.1,o112.2.1)
def Zjj:Fs yc:=⟨66,[.v Zf,.v yI],[],[Zf,yI],[⟨.ret,[(0,.tup [.v yI,.v yI])],[],[yI,yI]⟩],λx=>Zbo fuel x.1 x.2⟩
theorem Zpb:Zjj.Ok:=fnO { still:=[4,5]} [(0,ZhJ)] [] trivial ⟨ZlE,ytt⟩
def Zal(F:Nat)(s:(Int×(List Cond)×Int×Int×State)):Option ((Int×(List Cond)×Int×Int×State)⊕(Int×State)):=
 if(decide (s.2.2.2.1 < s.2.2.1))=true then
  (idx s.2.1 s.2.2.2.1).bind λe115=>
  some (.inl (wi (s.1+e115.2.2.1),s.2.1,s.2.2.1,wi (s.2.2.2.1+1),s.2.2.2.2))
 else
 some (.inr (s.1,s.2.2.2.2))
def Zkg:Lp:=⟨[(3,.v yI),(14,.v (.sl Zq)),(15,.v yI),(16,.v yI)],[.var (.v Zf) true],[yI,(.sl Zq),yI,yI,Zf],[⟨.exit 0,[(3,.v yI)],[.var (.v Zf) true],[yI,Zf]⟩],Zc (Zal fuel) fuel⟩
theorem ZnW:Zkg.okA yc 67 0:=ZC { still:=[2]} [] [] trivial
def ZeI(F:Nat)(a0:State):Option (Int):=
 (a0.2.1[0]?).bind λe113=>
 (a0.2.1[1]?).bind λe114=>
 (Zc (Zal F) F (wi (e113+e114),a0.2.2.1,(a0.2.2.1.length:Int),0,a0)).bind λo116=>
 some o116.1
def Zmb:Fs yc:=⟨67,[.v Zf],[],[Zf],[⟨.ret,[(0,.v yI)],[],[yI]⟩],λx=>ZeI fuel x⟩
theorem ZsR:Zmb.Ok:=fnO { still:=[2]} [(0,Zkg)] [] trivial ⟨ZnW,ytt⟩
def Zg3(F:Nat)(a0:Int):Option (Int):=
 if(decide (a0 < 0))=true then
  some 0
 else
 if(decide (a0 > 16))=true then
  some 0
 else
 some (wi (68+(wi (8*a0))))
def Zkh:Fs yc:=⟨163,[.v yI],[],[yI],[⟨.ret,[(0,.v yI)],[],[yI]⟩],λx=>Zg3 fuel x⟩
theorem ZqI:Zkh.Ok:=fnO { still:=[2]} [] [] trivial
def Ziu(F:Nat)(a0:Int)(a1:Int):Option (Int):=
 if(decide (a0 < 0))=true then
  some 0
 else
 if(decide (a0 > 1000))=true then
  some 0
 else
 (Zg3 F a1).bind λo117=>
 some (wi (a0*o117))
def Zp8:Fs yc:=⟨126,[.v yI,.v yI],[],[yI,yI],[⟨.ret,[(0,.v yI)],[],[yI]⟩],λx=>Ziu fuel x.1 x.2⟩
theorem ZwK:Zp8.Ok:=fnO { still:=[4,12]} [] [Zkh] ⟨ZqI,ytt⟩
def ZgH(F:Nat)(a0:ZH)(a1:State):Option (Int):=
 (Ziu F a1.2.2.2 (a1.2.2.1.length:Int)).bind λo118=>
 some (wi (o118+660))
def ZnX:Fs yc:=⟨68,[.v Zh,.v Zf],[],[Zh,Zf],[⟨.ret,[(0,.v yI)],[],[yI]⟩],λx=>ZgH fuel x.1 x.2⟩
theorem Zt3:ZnX.Ok:=fnO { still:=[4,6,9]} [] [Zp8] ⟨ZwK,ytt⟩
def Zam(F:Nat)(s:((List Cond)×Int×Int×ZH×State)):Option (((List Cond)×Int×Int×ZH×State)⊕((Bool×ZH×State)⊕(ZH×State))):=
 if(decide (s.2.2.1 < s.2.1))=true then
  (idx s.1 s.2.2.1).bind λe125=>
  (ZgE F e125).bind λo126=>
  if(!o126)=true then
   some (.inr (.inl (false,s.2.2.2.1,s.2.2.2.2)))
  else
  if(inB (wi (1 - e125.1)) 2)=true then
   (s.2.2.2.1.2.2.2.1[(wi (1 - e125.1)).toNat]?).bind λe127=>
   if(decide (e125.2.2.1 < e127.2.2.2.2.1))=true then
    some (.inr (.inl (false,s.2.2.2.1,s.2.2.2.2)))
   else
   if(decide (s.2.2.1 > 0))=true then
    (idx s.2.2.2.2.2.2.1 (wi (s.2.2.1 - 1))).bind λe128=>
    (ZeH F e128 e125).bind λo129=>
    if(decide (o129 ≥ 0))=true then
     some (.inr (.inl (false,s.2.2.2.1,s.2.2.2.2)))
    else
    some (.inl (s.1,s.2.1,wi (s.2.2.1+1),s.2.2.2.1,s.2.2.2.2))
   else
   some (.inl (s.1,s.2.1,wi (s.2.2.1+1),s.2.2.2.1,s.2.2.2.2))
  else
  none
 else
 some (.inr (.inr (s.2.2.2.1,s.2.2.2.2)))
def Zki:Lp:=⟨[(2,.ref 0 []),(3,.ref 1 []),(46,.v (.sl Zq)),(47,.v yI),(48,.v yI)],[.var (.v Zh) true,.var (.v Zf) true],[(.sl Zq),yI,yI,Zh,Zf],[⟨.ret,[(4,.v .bool)],[.var (.v Zh) true,.var (.v Zf) true],[.bool,Zh,Zf]⟩,⟨.exit 0,[(2,.ref 0 []),(3,.ref 1 [])],[.var (.v Zh) true,.var (.v Zf) true],[Zh,Zf]⟩],Zc (Zam fuel) fuel⟩
def hi1:HI:={ still:=[4,11,17,28,35,53,77,78,91,92,107,118,119]}
theorem ZnY:Zki.okA yc 23 0:=ZC hi1 [] [ZnU,Zma] ⟨Zt1,ZsQ,ytt⟩
def Zan(F:Nat)(s:((List Zbi)×Int×ZH×State)):Option (((List Zbi)×Int×ZH×State)⊕((Bool×ZH×State)⊕(ZH×State))):=
 if(decide (s.2.1 < 2))=true then
  (idx s.1 s.2.1).bind λe133=>
  (Zbo F s.2.2.2 s.2.1).bind λo134=>
  if(decide (o134.1 > e133.2.2.2.1))=true then
   some (.inr (.inl (false,s.2.2.1,s.2.2.2)))
  else
  if(decide (o134.2 > e133.2.2.2.2.2))=true then
   some (.inr (.inl (false,s.2.2.1,s.2.2.2)))
  else
  some (.inl (s.1,wi (s.2.1+1),s.2.2.1,s.2.2.2))
 else
 some (.inr (.inr (s.2.2.1,s.2.2.2)))
def Zkj:Lp:=⟨[(2,.ref 0 []),(3,.ref 1 []),(85,.v (.arr 2 ZdL)),(86,.v yI)],[.var (.v Zh) true,.var (.v Zf) true],[(.arr 2 ZdL),yI,Zh,Zf],[⟨.ret,[(4,.v .bool)],[.var (.v Zh) true,.var (.v Zf) true],[.bool,Zh,Zf]⟩,⟨.exit 2,[(2,.ref 0 []),(3,.ref 1 [])],[.var (.v Zh) true,.var (.v Zf) true],[Zh,Zf]⟩],Zc (Zan fuel) fuel⟩
theorem ZnZ:Zkj.okA yc 23 1:=ZC hi1 [] [Zjj] ⟨Zpb,ytt⟩
def ZeJ(F:Nat)(a0:ZH)(a1:State):Option (Bool):=
 (Zit F a0).bind λo119=>
 if(o119 !=0)=true then
  some false
 else
 (YS F 0 1048576 [a1.1]).bind λo120=>
 if(!o120)=true then
  some false
 else
 (a1.2.1[0]?).bind λe121=>
 (a1.2.1[1]?).bind λe122=>
 (YS F 0 1125899906842624 [e121,e122]).bind λo123=>
 if(!o123)=true then
  some false
 else
 (YS F 0 1000 [a1.2.2.2]).bind λo124=>
 if(!o124)=true then
  some false
 else
 if(decide ((a1.2.2.1.length:Int) > 16))=true then
  some false
 else
 (Zc (Zam F) F (a1.2.2.1,(a1.2.2.1.length:Int),0,a0,a1)).bind λo130=>
 match o130 with
 |.inl o131=>
  some o131.1
 |.inr o132=>
  (Zc (Zan F) F (o132.1.2.2.2.1,0,o132.1,o132.2)).bind λo135=>
  match o135 with
  |.inl o136=>
   some o136.1
  |.inr o137=>
   (ZeI F o137.2).bind λo138=>
   if(o138==o137.1.2.1)=true then
    if(inB o137.1.2.2.2.2 2)=true then
     (o137.2.2.1[o137.1.2.2.2.2.toNat]?).bind λe139=>
     (ZgH F o137.1 o137.2).bind λo140=>
     some (decide (e139 ≥ o140))
    else
    none
   else
   some false
def Zmc:Fs yc:=⟨23,[.v Zh,.v Zf],[],[Zh,Zf],[⟨.ret,[(0,.v .bool)],[],[.bool]⟩],λx=>ZeJ fuel x.1 x.2⟩
theorem ZsS:Zmc.Ok:=fnO hi1 [(0,Zki),(1,Zkj)] [Zp7,Zfz,Zmb,ZnX] ⟨ZwJ,Zjh,ZsR,Zt3,ytt⟩ ⟨ZnY,ZnZ,ytt⟩
def Zbp(F:Nat)(a0:ZH)(a1:State):Option (Bool):=
 if((a1.2.2.1.length:Int)==0)=true then
  (ZeJ F a0 a1).bind λo141=>
  some o141
 else
 some false
def ZfA(F:Nat):Fs yc:=⟨39,[.v Zh,.v Zf],[],[Zh,Zf],[⟨.ret,[(0,.v .bool)],[],[.bool]⟩],λx=>Zbp F x.1 x.2⟩
def Zg4:Fs yc:=ZfA fuel
theorem ZfB:Zg4.Ok:=fnO { still:=[4,10,11]} [] [Zmc] ⟨ZsS,ytt⟩
def YG(F:Nat)(a0:ZH)(a1:State)(a2:Int)(a3:Int):Option (Bool):=
 if(a2 !=a0.2.2.2.2)=true then
  some (a3==0)
 else
 if(decide (a3 ≥ 52))=true then
  if(inB a2 2)=true then
   (a1.2.1[a2.toNat]?).bind λe142=>
   some (decide (a3≤e142))
  else
  none
 else
 some false
def ZdR(F:Nat):Fs yc:=⟨40,[.v Zh,.v Zf,.v yI,.v yI],[],[Zh,Zf,yI,yI],[⟨.ret,[(0,.v .bool)],[],[.bool]⟩],λx=>YG F x.1 x.2.1 x.2.2.1 x.2.2.2⟩
def Zbq:Fs yc:=ZdR fuel
theorem Zao:Zbq.Ok:=fnO { still:=[8]} [] [] trivial
def Xd(F:Nat)(s:((List (List UInt8))×Int×(List (List UInt8))×Int×Int)):Option (((List (List UInt8))×Int×(List (List UInt8))×Int×Int)⊕((List (List UInt8))×Int)):=
 if(decide (s.2.2.2.2 < s.2.2.2.1))=true then
  (idx s.2.2.1 s.2.2.2.2).bind λe143=>
  if(decide ((wi (s.2.1+(e143.length:Int))) < 0))=true then
   none
  else
  some (.inl (s.1,wi (s.2.1+(e143.length:Int)),s.2.2.1,s.2.2.2.1,wi (s.2.2.2.2+1)))
 else
 some (.inr (s.1,s.2.1))
def Qt:Lp:=⟨[(0,.v (.sl (.sl .u8))),(3,.v yI),(9,.v (.sl (.sl .u8))),(10,.v yI),(11,.v yI)],[],[(.sl (.sl .u8)),yI,(.sl (.sl .u8)),yI,yI],[⟨.exit 0,[(0,.v (.sl (.sl .u8))),(3,.v yI)],[],[(.sl (.sl .u8)),yI]⟩],Zc (Xd fuel) fuel⟩
def hi2:HI:={ own:=[6,24,31,33],still:=[2,23]}
theorem Zde:Qt.okA yc 158 0:=ZC hi2 [] [] trivial
def ZaV:Fs yc:=⟨178,[.nil .u8,.v yI],[],[.int .i64],[⟨.ret,[(0,.own 0 .u8)],[.log .u8 5],[.sl .u8]⟩],Zsw⟩
theorem Zg5:ZaV.Ok:=ZHk ZFs
def Xe(F:Nat)(s:((List (List UInt8))×Int×Int×(List UInt8))):Option (((List (List UInt8))×Int×Int×(List UInt8))⊕(List UInt8)):=
 if(decide (s.2.2.1 < s.2.1))=true then
  (idx s.1 s.2.2.1).bind λe146=>
  if(apB s.2.2.2.length e146.length 1)=true then
   some (.inl (s.1,s.2.1,wi (s.2.2.1+1),s.2.2.2++e146))
  else
  none
 else
 some (.inr s.2.2.2)
def Qu:Lp:=⟨[(6,.own 0 .u8),(25,.v (.sl (.sl .u8))),(26,.v yI),(27,.v yI)],[.log .u8 5],[(.sl (.sl .u8)),yI,yI,(.sl .u8)],[⟨.exit 2,[(6,.own 0 .u8)],[.log .u8 5],[(.sl .u8)]⟩],Zc (Xe fuel) fuel⟩
theorem Zdf:Qu.okA yc 158 1:=ZC hi2 [] [] trivial
def YT(F:Nat)(a0:(List (List UInt8))):Option ((List UInt8)):=
 (Zc (Xd F) F (a0,0,a0,(a0.length:Int),0)).bind λo144=>
 (Zsw o144.2).bind λo145=>
 (Zc (Xe F) F (o144.1,(o144.1.length:Int),0,o145)).bind λo147=>
 some o147
def WB:Fs yc:=⟨158,[.v (.sl (.sl .u8))],[],[(.sl (.sl .u8))],[⟨.ret,[(0,.v (.sl .u8))],[],[(.sl .u8)]⟩],λx=>YT fuel x⟩
theorem Qv:WB.Ok:=fnO hi2 [(0,Qt),(1,Qu)] [ZaV] ⟨Zg5,ytt⟩ ⟨Zde,Zdf,ytt⟩
def ZaG(F:Nat)(a0:(List UInt8))(a1:(List UInt8)):Option ((List UInt8)):=
 (YT F [a0,a1]).bind λo148=>
 some o148
def ZgI:Fs yc:=⟨147,[.v (.sl .u8),.v (.sl .u8)],[],[(.sl .u8),(.sl .u8)],[⟨.ret,[(0,.v (.sl .u8))],[],[(.sl .u8)]⟩],λx=>ZaG fuel x.1 x.2⟩
theorem Ziv:ZgI.Ok:=fnO { still:=[4,7]} [] [WB] ⟨Qv,ytt⟩
def ZeK(F:Nat)(s:(Int×(List UInt8))):Option ((Int×(List UInt8))⊕(Int×(List UInt8))):=
 if(decide (s.1 ≥ 128))=true then
  if(apB s.2.length 1 1)=true then
   let y149:(List UInt8):=s.2++([w8 (wi ((yar s.1 128)+128))]:List UInt8)
   some (.inl (wi (Int.tdiv s.1 128),y149))
  else
  none
 else
 some (.inr (s.1,s.2))
def Zp9:Lp:=⟨[(0,.v yI),(3,.own 0 .u8)],[.log .u8 5],[yI,(.sl .u8)],[⟨.exit 0,[(0,.v yI),(3,.own 0 .u8)],[.log .u8 5],[yI,(.sl .u8)]⟩],Zc (ZeK fuel) fuel⟩
def hi3:HI:={ own:=[3,8,14,15,19],still:=[2]}
theorem ZsT:Zp9.okA yc 148 0:=ZC hi3 [] [] trivial
def ZhK(F:Nat)(a0:Int):Option ((List UInt8)):=
 (Zc (ZeK F) F (a0,[])).bind λo150=>
 if(apB o150.2.length 1 1)=true then
  some (o150.2++([w8 o150.1]:List UInt8))
 else
 none
def ZmT:Fs yc:=⟨148,[.v yI],[],[yI],[⟨.ret,[(0,.v (.sl .u8))],[],[(.sl .u8)]⟩],λx=>ZhK fuel x⟩
theorem Zqa:ZmT.Ok:=fnO hi3 [(0,Zp9)] [] trivial ⟨ZsT,ytt⟩
def WG(F:Nat)(a0:(List UInt8))(a1:Int):Option ((List UInt8)):=
 if(decide (a1 < 0))=true then
  (ZaG F a0 []).bind λo151=>
  some o151
 else
 (ZhK F a1).bind λo152=>
 (ZaG F a0 o152).bind λo153=>
 some o153
def Zcs:Fs yc:=⟨104,[.v (.sl .u8),.v yI],[],[(.sl .u8),yI],[⟨.ret,[(0,.v (.sl .u8))],[],[(.sl .u8)]⟩],λx=>WG fuel x.1 x.2⟩
theorem Zdg:Zcs.Ok:=fnO { still:=[4,7,9,10,11]} [] [ZgI,ZmT] ⟨Ziv,Zqa,ytt⟩
def Zap(F:Nat)(s:((List UInt8)×UInt64×Int×(List UInt8))):Option (((List UInt8)×UInt64×Int×(List UInt8))⊕((List UInt8)×(List UInt8))):=
 if(decide (s.2.2.1 < 8))=true then
  if(decide (0≤wi (56 - (wi (8*s.2.2.1)))))=true then
   let y154:UInt64:=ZG s.2.1 (min (wi (56 - (wi (8*s.2.2.1)))).toNat 64)
   if(inB s.2.2.1 8)=true then
    (s.2.2.2[s.2.2.1.toNat]?).bind λe155=>
    let y156:(List UInt8):=s.2.2.2.set s.2.2.1.toNat (w8 (y154.toNat:Int))
    some (.inl (s.1,s.2.1,wi (s.2.2.1+1),y156))
   else
   none
  else
  none
 else
 some (.inr (s.1,s.2.2.2))
def Zkk:Lp:=⟨[(0,.v (.sl .u8)),(1,.v .u64),(5,.ref 0 []),(7,.v yI)],[.var (.v (.arr 8 .u8)) true],[(.sl .u8),.u64,yI,(.arr 8 .u8)],[⟨.exit 0,[(0,.v (.sl .u8)),(5,.ref 0 [])],[.var (.v (.arr 8 .u8)) true],[(.sl .u8),(.arr 8 .u8)]⟩],Zc (Zap fuel) fuel⟩
theorem Zn0:Zkk.okA yc 105 0:=ZC { still:=[4,19,20],frz:=[20]} [] [] trivial
def Zbr(F:Nat)(a0:(List UInt8))(a1:UInt64):Option ((List UInt8)):=
 (Zc (Zap F) F (a0,a1,0,[0,0,0,0,0,0,0,0])).bind λo157=>
 (ZaG F o157.1 o157.2).bind λo158=>
 some o158
def Zg6:Fs yc:=⟨105,[.v (.sl .u8),.v .u64],[],[(.sl .u8),.u64],[⟨.ret,[(0,.v (.sl .u8))],[],[(.sl .u8)]⟩],λx=>Zbr fuel x.1 x.2⟩
theorem Zkl:Zg6.Ok:=fnO { still:=[4,19,20],frz:=[20]} [(0,Zkk)] [ZgI] ⟨Ziv,ytt⟩ ⟨Zn0,ytt⟩
def Qw(F:Nat)(s:((List UInt8)×(List ZM)×Int×Int×(List UInt64)×Int×Int×Lock×ZM)):Option (((List UInt8)×(List ZM)×Int×Int×(List UInt64)×Int×Int×Lock×ZM)⊕((List UInt8)×(List ZM)×Int×Int×Lock×ZM)):=
 if(decide (s.2.2.2.2.2.2.1 < s.2.2.2.2.2.1))=true then
  (idx s.2.2.2.2.1 s.2.2.2.2.2.2.1).bind λe163=>
  (Zbr F s.1 e163).bind λo164=>
  some (.inl (o164,s.2.1,s.2.2.1,s.2.2.2.1,s.2.2.2.2.1,s.2.2.2.2.2.1,wi (s.2.2.2.2.2.2.1+1),s.2.2.2.2.2.2.2.1,s.2.2.2.2.2.2.2.2))
 else
 some (.inr (s.1,s.2.1,s.2.2.1,s.2.2.2.1,s.2.2.2.2.2.2.2.1,s.2.2.2.2.2.2.2.2))
abbrev tL0:List Ty:=[(.sl .u8),(.sl Zp),yI,yI,(.sl .u64),yI,yI,Zo,Zp]
def Zmd:Lp:=⟨[(3,.v (.sl .u8)),(5,.ref 1 []),(16,.v (.sl Zp)),(17,.v yI),(18,.v yI),(28,.v (.sl .u64)),(29,.v yI),(30,.v yI)],[.var (.v Zo) true,.var (.v Zp) true],tL0,[⟨.exit 2,[(3,.v (.sl .u8)),(5,.ref 1 []),(16,.v (.sl Zp)),(17,.v yI),(18,.v yI)],[.var (.v Zo) true,.var (.v Zp) true],[(.sl .u8),(.sl Zp),yI,yI,Zo,Zp]⟩],Zc (Qw fuel) fuel⟩
def hi4:HI:={ still:=[2,8,13,22,25,34,35,38,40,41,43,44,46]}
theorem Zpc:Zmd.okA yc 49 1:=ZC hi4 [] [Zg6] ⟨Zkl,ytt⟩
def Zbs(F:Nat)(s:((List UInt8)×(List ZM)×Int×Int×Lock)):Option (((List UInt8)×(List ZM)×Int×Int×Lock)⊕((List UInt8)×Lock)):=
 if(decide (s.2.2.2.1 < s.2.2.1))=true then
  (idx s.2.1 s.2.2.2.1).bind λe161=>
  (WG F s.1 (e161.1.length:Int)).bind λo162=>
  (Zc (Qw F) F (o162,s.2.1,s.2.2.1,s.2.2.2.1,e161.1,(e161.1.length:Int),0,s.2.2.2.2,e161)).bind λo165=>
  (WG F o165.1 o165.2.2.2.2.2.2.1).bind λo166=>
  (WG F o166 o165.2.2.2.2.2.2.2.1).bind λo167=>
  (Zbr F o167 o165.2.2.2.2.2.2.2.2).bind λo168=>
  some (.inl (o168,o165.2.1,o165.2.2.1,wi (o165.2.2.2.1+1),o165.2.2.2.2.1))
 else
 some (.inr (s.1,s.2.2.2.2))
def Zme:Lp:=⟨[(3,.v (.sl .u8)),(16,.v (.sl Zp)),(17,.v yI),(18,.v yI)],[.var (.v Zo) true],[(.sl .u8),(.sl Zp),yI,yI,Zo],[⟨.exit 0,[(3,.v (.sl .u8))],[.var (.v Zo) true],[(.sl .u8),Zo]⟩],Zc (Zbs fuel) fuel⟩
theorem Zpd:Zme.okA yc 49 0:=ZC hi4 [(1,Zmd)] [Zcs,Zg6] ⟨Zdg,Zkl,ytt⟩ ⟨Zpc,ytt⟩
def Vu(F:Nat)(a0:Lock):Option ((List UInt8)):=
 (Y6 F a0).bind λo159=>
 if(!o159)=true then
  some []
 else
 (WG F [] (a0.length:Int)).bind λo160=>
 (Zc (Zbs F) F (o160,a0,(a0.length:Int),0,a0)).bind λo169=>
 some o169.1
def Zg7(F:Nat):Fs yc:=⟨49,[.v Zo],[],[Zo],[⟨.ret,[(0,.v (.sl .u8))],[],[(.sl .u8)]⟩],λx=>Vu F x⟩
def Zbt:Fs yc:=Zg7 fuel
theorem Q8:Zbt.Ok:=fnO hi4 [(0,Zme)] [QO,Zcs] ⟨VY,Zdg,ytt⟩ ⟨Zpd,ytt⟩
def Yb(F:Nat)(a0:(List UInt8)):Option ((List UInt8)):=
 if(apB 0 a0.length 1)=true then
  some a0
 else
 none
def WC(F:Nat):Fs yc:=⟨149,[.sl true .u8],[],[(.sl .u8)],[⟨.ret,[(0,.v (.sl .u8))],[],[(.sl .u8)]⟩],λx=>Yb F x⟩
def Zg8:Fs yc:=WC fuel
theorem QT:Zg8.Ok:=fnO { own:=[5,7],still:=[2]} [] [] trivial
def Qx(F:Nat):Option ((List UInt8)):=
 some []
def ZeL:Fs yc:=⟨149,[.nil .u8],[],[],[⟨.ret,[(0,.v (.sl .u8))],[],[(.sl .u8)]⟩],λx=>Qx fuel⟩
theorem ZdS:ZeL.Ok:=fnO { own:=[5,7],still:=[2]} [] [] trivial
def Wn:Fs yc:=⟨149,[.v (.sl .u8)],[],[(.sl .u8)],[⟨.ret,[(0,.v (.sl .u8))],[],[(.sl .u8)]⟩],λx=>Yb fuel x⟩
theorem V6:Wn.Ok:=Zo2 (t:=.u8) (xs:=[⟨.ret,[(0,.v (.sl .u8))],[],[(.sl .u8)]⟩]) (MA:=λ(x:(List UInt8))=>Yb fuel x) (MB:=λ_=>Qx fuel) QT ZdS rfl
abbrev Zm:Ty:=(.st [(.sl .u8),.bool])
abbrev Zt:Type:=((List UInt8)×Bool)
abbrev Zt.b(x:Zt):(List UInt8):=x.1
abbrev Zt.no(x:Zt):Bool:=x.2
def Ziw(F:Nat)(a0:(List UInt8)):Option (Zt):=
 (Yb F a0).bind λo170=>
 some (o170,false)
def Zqb:Fs yc:=⟨106,[.v (.sl .u8)],[],[(.sl .u8)],[⟨.ret,[(0,.ref 0 [])],[.var (.v Zm) true],[Zm]⟩],λx=>Ziw fuel x⟩
theorem ZwL:Zqb.Ok:=fnO { still:=[2,3]} [] [Wn] ⟨V6,ytt⟩
def Z0(F:Nat)(s:((List UInt8)×(List UInt8)×Int×Int)):Option (((List UInt8)×(List UInt8)×Int×Int)⊕(Bool⊕Unit)):=
 if(decide (s.2.2.2 < s.2.2.1))=true then
  (idx s.1 s.2.2.2).bind λe171=>
  (idx s.2.1 s.2.2.2).bind λe172=>
  if(e171 !=e172)=true then
   some (.inr (.inl false))
  else
  some (.inl (s.1,s.2.1,s.2.2.1,wi (s.2.2.2+1)))
 else
 some (.inr (.inr ()))
def QU:Lp:=⟨[(0,.v (.sl .u8)),(1,.v (.sl .u8)),(12,.v yI),(13,.v yI)],[],[(.sl .u8),(.sl .u8),yI,yI],[⟨.ret,[(4,.v .bool)],[],[.bool]⟩,⟨.exit 0,[],[],[]⟩],Zc (Z0 fuel) fuel⟩
theorem ZdT:QU.okA yc 109 0:=ZC { still:=[4]} [] [] trivial
def Yz(F:Nat)(a0:(List UInt8))(a1:(List UInt8)):Option (Bool):=
 if((a0.length:Int)!=(a1.length:Int))=true then
  some false
 else
 (Zc (Z0 F) F (a0,a1,(a0.length:Int),0)).bind λo173=>
 match o173 with
 |.inl o174=>
  some o174
 |.inr o175=>
  some true
def WD(F:Nat):Fs yc:=⟨109,[.v (.sl .u8),.v (.sl .u8)],[],[(.sl .u8),(.sl .u8)],[⟨.ret,[(0,.v .bool)],[],[.bool]⟩],λx=>Yz F x.1 x.2⟩
def Q9:Fs yc:=WD fuel
theorem QV:Q9.Ok:=fnO { still:=[4]} [(0,QU)] [] trivial ⟨ZdT,ytt⟩
def XH(F:Nat)(s0:Int)(s2:Zt):Option ((Bool×Int×Zt)):=
 if(decide (s0 ≥ (s2.1.length:Int)))=true then
  some (true,s0,s2)
 else
 if(decide (s0 > 8))=true then
  some (true,s0,s2)
 else
 if(decide (s0 > 0))=true then
  (idx s2.1 s0).bind λe177=>
  some (e177==0,s0,s2)
 else
 some (false,s0,s2)
def Zd8:Fs yc:=⟨150,[.ref 0 [],.ref 1 []],[.var (.v yI) true,.var (.ref 2 []) true,.var (.v Zm) true],[yI,Zm],[⟨.ret,[(0,.v .bool)],[.var (.v yI) true,.var (.ref 2 []) true,.var (.v Zm) true],[.bool,yI,Zm]⟩],λx=>XH fuel x.1 x.2⟩
theorem Zkm:Zd8.Ok:=fnO { still:=[2]} [] [] trivial
def WN(F:Nat)(s0:Zt):Option (Zt):=
 some ([],true)
def ZaH:Fs yc:=⟨151,[.ref 0 []],[.var (.v Zm) true],[Zm],[⟨.ret,[(0,.tup [])],[.var (.v Zm) true],[Zm]⟩],λx=>WN fuel x⟩
theorem Zd9:ZaH.Ok:=fnO {} [] [] trivial
def X4(F:Nat)(s:(Int×Zt×Int)):Option ((Int×Zt×Int)⊕((Int×Zt×Int)⊕(Int×Zt×Int))):=
 (XH F s.2.2 s.2.1).bind λo178=>
 if o178.1=true then
  (WN F o178.2.2).bind λo179=>
  some (.inr (.inl (0,o179,o178.2.1)))
 else
 (idx o178.2.2.1 o178.2.1).bind λe180=>
 if(decide (0≤wi (7*o178.2.1)))=true then
  let y181:Int:=wi (((e180 % 128).toNat:Int)*2 ^ (min (wi (7*o178.2.1)).toNat 64))
  if(decide (e180 < 128))=true then
   some (.inr (.inr (bits .or .i64 s.1 y181,o178.2.2,wi (o178.2.1+1))))
  else
  some (.inl (bits .or .i64 s.1 y181,o178.2.2,wi (o178.2.1+1)))
 else
 none
def ZfC:Lp:=⟨[(1,.ref 1 []),(3,.v yI),(4,.ref 2 []),(5,.fn 150 [.ref 2 [],.ref 1 []])],[.var (.v Zm) true,.var (.ref 0 []) true,.var (.v yI) true],[yI,Zm,yI],[⟨.ret,[(2,.v yI)],[.var (.v Zm) true,.var (.ref 0 []) true,.var (.v yI) true],[yI,Zm,yI]⟩,⟨.exit 0,[(1,.ref 1 []),(3,.v yI),(4,.ref 2 [])],[.var (.v Zm) true,.var (.ref 0 []) true,.var (.v yI) true],[yI,Zm,yI]⟩],Zc (X4 fuel) fuel⟩
theorem Zjx:ZfC.okA yc 107 0:=ZC { still:=[2,10]} [] [Zd8,ZaH] ⟨Zkm,Zd9,ytt⟩
def XI(F:Nat)(s0:Zt):Option ((Int×Zt)):=
 (Zc (X4 F) F (0,s0,0)).bind λo182=>
 match o182 with
 |.inl o183=>
  some (o183.1,o183.2.1)
 |.inr o184=>
  if(Za2 o184.2.1.1.length (some o184.2.2) none)=true then
   some (o184.1,(o184.2.1.1.drop o184.2.2.toNat,o184.2.1.2))
  else
  none
def Zbu:Fs yc:=⟨107,[.ref 0 []],[.var (.v Zm) true],[Zm],[⟨.ret,[(0,.v yI)],[.var (.v Zm) true],[yI,Zm]⟩],λx=>XI fuel x⟩
theorem ZfD:Zbu.Ok:=fnO { still:=[2,10]} [(0,ZfC)] [] trivial ⟨Zjx,ytt⟩
def V7(F:Nat)(a1:Int)(s0:Zt):Option (((List UInt8)×Zt)):=
 if s0.2=true then
  (WN F s0).bind λo187=>
  some ([],o187)
 else
 if(decide (a1 > (s0.1.length:Int)))=true then
  (WN F s0).bind λo188=>
  some ([],o188)
 else
 if(Za2 s0.1.length none (some a1))=true then
  (Yb F (s0.1.take a1.toNat)).bind λo189=>
  if(Za2 s0.1.length (some a1) none)=true then
   some (o189,(s0.1.drop a1.toNat,s0.2))
  else
  none
 else
 none
def ZfE:Fs yc:=⟨152,[.ref 0 [],.v yI],[.var (.v Zm) true],[yI,Zm],[⟨.ret,[(0,.v (.sl .u8))],[.var (.v Zm) true],[(.sl .u8),Zm]⟩],λx=>V7 fuel x.1 x.2⟩
theorem ZlF:ZfE.Ok:=fnO { still:=[4,19,26]} [] [ZaH,Wn] ⟨Zd9,V6,ytt⟩
def Vb(F:Nat)(s:(UInt64×(List UInt8)×Int×Int×Zt)):Option ((UInt64×(List UInt8)×Int×Int×Zt)⊕(UInt64×Zt)):=
 if(decide (s.2.2.2.1 < s.2.2.1))=true then
  (idx s.2.1 s.2.2.2.1).bind λe191=>
  some (.inl ((V3 s.1 8)|||(yad e191.toNat),s.2.1,s.2.2.1,wi (s.2.2.2.1+1),s.2.2.2.2))
 else
 some (.inr (s.1,s.2.2.2.2))
def ZfF:Lp:=⟨[(3,.v .u64),(7,.v (.sl .u8)),(8,.v yI),(9,.v yI)],[.var (.v Zm) true],[.u64,(.sl .u8),yI,yI,Zm],[⟨.exit 0,[(3,.v .u64)],[.var (.v Zm) true],[.u64,Zm]⟩],Zc (Vb fuel) fuel⟩
theorem Zjy:ZfF.okA yc 108 0:=ZC { still:=[2,6]} [] [] trivial
def Vq(F:Nat)(s0:Zt):Option ((UInt64×Zt)):=
 (V7 F 8 s0).bind λo190=>
 (Zc (Vb F) F (0,o190.1,(o190.1.length:Int),0,o190.2)).bind λo192=>
 some (o192.1,o192.2)
def Zbv:Fs yc:=⟨108,[.ref 0 []],[.var (.v Zm) true],[Zm],[⟨.ret,[(0,.v .u64)],[.var (.v Zm) true],[.u64,Zm]⟩],λx=>Vq fuel x⟩
theorem ZfG:Zbv.Ok:=fnO { still:=[2,6]} [(0,ZfF)] [ZfE] ⟨ZlF,ytt⟩ ⟨Zjy,ytt⟩
abbrev dT0:Type:=((List UInt8)×Int×Int×Int×Int×Lock×Zt×(List ZM)×Int×Int×UInt64×(List UInt64))
def ZKg:List ESh:=[.var (.v Zo) true,.var (.v Zm) true,.var (.agg [.own 3 Zp]) true,.log Zp 126,.var (.agg [.own 5 .u64,.v yI,.v yI,.v .u64]) true,.log .u64 37]
abbrev tL1:List Ty:=[(.sl .u8),yI,yI,Zo,Zm,(.sl Zp),yI,yI,.u64,(.sl .u64)]
abbrev tL2:List Ty:=[(.sl .u8),yI,yI,yI,yI,Zo,Zm,(.sl Zp),yI,yI,.u64,(.sl .u64)]
def hi5:HI:={ own:=[31,35,48,51],still:=[3,10,12,19,32,38,40,44,53,57,58,59],ghost:=[(5,[([0],Zp,126)]),(8,[([0],.u64,37)])]}
def XN(F:Nat)(s:dT0):Option (dT0⊕((List UInt8)×Int×Int×Lock×Zt×(List ZM)×Int×Int×UInt64×(List UInt64))):=
 if(decide (s.2.2.2.2.1 < s.2.2.2.1))=true then
  (Vq F s.2.2.2.2.2.2.1).bind λo207=>
  if(apB s.2.2.2.2.2.2.2.2.2.2.2.length 1 8)=true then
   let y208:(List UInt64):=s.2.2.2.2.2.2.2.2.2.2.2++([o207.1]:List UInt64)
   some (.inl (s.1,s.2.1,s.2.2.1,s.2.2.2.1,wi (s.2.2.2.2.1+1),s.2.2.2.2.2.1,o207.2,s.2.2.2.2.2.2.2.1,s.2.2.2.2.2.2.2.2.1,s.2.2.2.2.2.2.2.2.2.1,s.2.2.2.2.2.2.2.2.2.2.1,y208))
  else
  none
 else
 some (.inr (s.1,s.2.1,s.2.2.1,s.2.2.2.2.2.1,s.2.2.2.2.2.2.1,s.2.2.2.2.2.2.2.1,s.2.2.2.2.2.2.2.2.1,s.2.2.2.2.2.2.2.2.2.1,s.2.2.2.2.2.2.2.2.2.2.1,s.2.2.2.2.2.2.2.2.2.2.2))
def Zn1:Lp:=⟨[(0,.v (.sl .u8)),(2,.ref 0 []),(4,.ref 1 []),(5,.ref 2 []),(6,.v yI),(7,.v yI),(8,.ref 4 []),(27,.v yI),(28,.v yI)],ZKg,tL2,[⟨.exit 2,[(0,.v (.sl .u8)),(2,.ref 0 []),(4,.ref 1 []),(5,.ref 2 []),(6,.v yI),(7,.v yI),(8,.ref 4 [])],ZKg,tL1⟩],Zc (XN fuel) fuel⟩
theorem ZqJ:Zn1.okA yc 51 1:=ZC hi5 [] [Zbv] ⟨ZfG,ytt⟩
def W5(F:Nat)(s:((List UInt8)×Int×Int×Lock×Zt×(List ZM))):Option (((List UInt8)×Int×Int×Lock×Zt×(List ZM))⊕((List UInt8)×Lock×Zt×(List ZM))):=
 if(decide (s.2.2.1 < s.2.1))=true then
  (XI F s.2.2.2.2.1).bind λo206=>
  if(s.2.2.1==4)=true then
   some (.inr (s.1,s.2.2.2.1,o206.2,s.2.2.2.2.2))
  else
  if(decide (o206.1 > 12))=true then
   some (.inr (s.1,s.2.2.2.1,o206.2,s.2.2.2.2.2))
  else
  (Zc (XN F) F (s.1,s.2.1,s.2.2.1,o206.1,0,s.2.2.2.1,o206.2,s.2.2.2.2.2,0,0,0,[])).bind λo209=>
  (XI F o209.2.2.2.2.1).bind λo210=>
  (XI F o210.2).bind λo211=>
  (Vq F o211.2).bind λo212=>
  if(apB o209.2.2.2.2.2.1.length 1 48)=true then
   let y213:(List ZM):=o209.2.2.2.2.2.1++([(o209.2.2.2.2.2.2.2.2.2,o210.1,o211.1,o212.1)]:List ZM)
   some (.inl (o209.1,o209.2.1,wi (o209.2.2.1+1),o209.2.2.2.1,o212.2,y213))
  else
  none
 else
 some (.inr (s.1,s.2.2.2.1,s.2.2.2.2.1,s.2.2.2.2.2))
def Zn2:Lp:=⟨[(0,.v (.sl .u8)),(2,.ref 0 []),(4,.ref 1 []),(5,.ref 2 []),(6,.v yI),(7,.v yI)],[.var (.v Zo) true,.var (.v Zm) true,.var (.agg [.own 3 Zp]) true,.log Zp 126],[(.sl .u8),yI,yI,Zo,Zm,(.sl Zp)],[⟨.exit 0,[(0,.v (.sl .u8)),(2,.ref 0 []),(5,.ref 2 [])],[.var (.v Zo) true,.var (.v Zm) true,.var (.agg [.own 3 Zp]) true,.log Zp 126],[(.sl .u8),Zo,Zm,(.sl Zp)]⟩],Zc (W5 fuel) fuel⟩
theorem ZqK:Zn2.okA yc 51 0:=ZC hi5 [(1,Zn1)] [Zbu,Zbv] ⟨ZfD,ZfG,ytt⟩ ⟨ZqJ,ytt⟩
def lock_ReadM(F:Nat)(a0:(List UInt8)):Option ((Lock×Bool)):=
 (Ziw F a0).bind λo204=>
 (XI F o204).bind λo205=>
 (Zc (W5 F) F (a0,o205.1,0,[],o205.2,[])).bind λo214=>
 (Y6 F o214.2.2.2).bind λo215=>
 if(!o215)=true then
  some ([],false)
 else
 (Vu F o214.2.2.2).bind λo216=>
 (Yz F o216 o214.1).bind λo217=>
 if(!o217)=true then
  some ([],false)
 else
 some (o214.2.2.2,true)
def Zix(F:Nat):Fs yc:=⟨51,[.v (.sl .u8)],[],[(.sl .u8)],[⟨.ret,[(0,.tup [.v Zo,.v .bool])],[],[Zo,.bool]⟩],λx=>lock_ReadM F x⟩
def Zkn:Fs yc:=Zix fuel
theorem Ziy:Zkn.Ok:=fnO hi5 [(0,Zn2)] [Zqb,Zbu,QO,Zbt,Q9] ⟨ZwL,ZfD,VY,Q8,QV,ytt⟩ ⟨ZqK,ytt⟩
def W6(F:Nat)(a0:Lock):Option (Lock):=
 (Vu F a0).bind λo218=>
 (lock_ReadM F o218).bind λo219=>
 some o219.1
def ZdU(F:Nat):Fs yc:=⟨41,[.v Zo],[],[Zo],[⟨.ret,[(0,.v Zo)],[],[Zo]⟩],λx=>W6 F x⟩
def ZfH:Fs yc:=ZdU fuel
theorem ZdV:ZfH.Ok:=fnO { still:=[6,7]} [] [Zbt,Zkn] ⟨Q8,Ziy,ytt⟩
def Zaq(F:Nat)(a0:Out)(a1:Out):Option (Int):=
 some (wi (a0.1 - a1.1))
def ZhL:Fs yc:=⟨55,[.v ZL,.v ZL],[],[ZL,ZL],[⟨.ret,[(0,.v yI)],[],[yI]⟩],λx=>Zaq fuel x.1 x.2⟩
theorem Zn3:ZhL.Ok:=fnO { still:=[4]} [] [] trivial
abbrev dT1:Type:=(Int×(List Int)×Int×ZH×State×(List Lock)×Tx×(List In)×Int×(List Unit)×(List Out))
def ZKh:List ESh:=[.var (.v Zh) true,.var (.v Zf) true,.var (.v (.arr 2 Zo)) true,.var (.v yTx) true,.var (.agg [.v (.sl yIn),.rw 5,.v yI]) true,.row ZL true 96]
abbrev tL3:List Ty:=[yI,(.arr 2 yI),yI,Zh,Zf,(.arr 2 Zo),yTx,(.sl yIn),yI,(.sl (.st [])),(.sl ZL)]
def X0(F:Nat)(s:(Int×Int×Int×Int×(List Unit)×(List Out))):Option ((Int×Int×Int×Int×(List Unit)×(List Out))⊕(Int×Int×Int×(List Unit)×(List Out))):=
 if(decide (s.2.2.2.1 > s.1))=true then
  if(inB s.2.2.2.1 s.2.2.2.2.2.length)=true then
   (s.2.2.2.2.2[s.2.2.2.1.toNat]?).bind λe242=>
   if(inB (wi (s.2.2.2.1 - 1)) s.2.2.2.2.2.length)=true then
    (s.2.2.2.2.2[(wi (s.2.2.2.1 - 1)).toNat]?).bind λe243=>
    (Zaq F e242 e243).bind λo244=>
    if(decide (o244 < 0))=true then
     if(inB (wi (s.2.2.2.1 - 1)) s.2.2.2.2.2.length)=true then
      (s.2.2.2.2.2[(wi (s.2.2.2.1 - 1)).toNat]?).bind λe245=>
      if(inB s.2.2.2.1 s.2.2.2.2.2.length)=true then
       (s.2.2.2.2.2[s.2.2.2.1.toNat]?).bind λe246=>
       if(inB s.2.2.2.1 s.2.2.2.2.2.length)=true then
        (s.2.2.2.2.2[s.2.2.2.1.toNat]?).bind λe247=>
        if(inB (wi (s.2.2.2.1 - 1)) ((s.2.2.2.2.2.set s.2.2.2.1.toNat e245).length))=true then
         ((s.2.2.2.2.2.set s.2.2.2.1.toNat e245)[(wi (s.2.2.2.1 - 1)).toNat]?).bind λe248=>
         let y249:(List Out):=(s.2.2.2.2.2.set s.2.2.2.1.toNat e245).set ((wi (s.2.2.2.1 - 1)).toNat) e246
         some (.inl (s.1,s.2.1,s.2.2.1,wi (s.2.2.2.1 - 1),s.2.2.2.2.1,y249))
        else
        none
       else
       none
      else
      none
     else
     none
    else
    some (.inr (s.1,s.2.1,s.2.2.1,s.2.2.2.2.1,s.2.2.2.2.2))
   else
   none
  else
  none
 else
 some (.inr (s.1,s.2.1,s.2.2.1,s.2.2.2.2.1,s.2.2.2.2.2))
def Zko:Lp:=⟨[(0,.rw 0),(1,.v yI),(2,.v yI),(3,.fn 55 []),(8,.v yI),(9,.v yI)],[.row ZL true 96],[yI,yI,yI,yI,(.sl (.st [])),(.sl ZL)],[⟨.exit 2,[(0,.rw 0),(1,.v yI),(2,.v yI),(3,.fn 55 []),(8,.v yI)],[.row ZL true 96],[yI,yI,yI,(.sl (.st [])),(.sl ZL)]⟩],Zc (X0 fuel) fuel⟩
def hi7:HI:={ still:=[26,31],rowt:=[0,37,39]}
theorem Zn4:Zko.okA yc 153 1:=ZC hi7 [] [ZhL] ⟨Zn3,ytt⟩
def X1(F:Nat)(s:(Int×Int×Int×(List Unit)×(List Out))):Option ((Int×Int×Int×(List Unit)×(List Out))⊕((List Unit)×(List Out))):=
 if(decide (s.2.2.1 < s.2.1))=true then
  (Zc (X0 F) F (s.1,s.2.1,s.2.2.1,s.2.2.1,s.2.2.2.1,s.2.2.2.2)).bind λo250=>
  some (.inl (o250.1,o250.2.1,wi (o250.2.2.1+1),o250.2.2.2.1,o250.2.2.2.2))
 else
 some (.inr (s.2.2.2.1,s.2.2.2.2))
def Zkp:Lp:=⟨[(0,.rw 0),(1,.v yI),(2,.v yI),(3,.fn 55 []),(8,.v yI)],[.row ZL true 96],[yI,yI,yI,(.sl (.st [])),(.sl ZL)],[⟨.exit 0,[],[.row ZL true 96],[(.sl (.st [])),(.sl ZL)]⟩],Zc (X1 fuel) fuel⟩
theorem Zn5:Zkp.okA yc 153 0:=ZC hi7 [(1,Zko)] [] trivial ⟨Zn4,ytt⟩
def VD(F:Nat)(a1:Int)(a2:Int)(s0_0:(List Unit))(s0_1:(List Out)):Option (((List Unit)×(List Out))):=
 (Zc (X1 F) F (a1,a2,wi (a1+1),s0_0,s0_1)).bind λo251=>
 some (o251.1,o251.2)
def Zg9:Fs yc:=⟨153,[.rw 0,.v yI,.v yI,.fn 55 []],[.row ZL true 96],[yI,yI,(.sl (.st [])),(.sl ZL)],[⟨.ret,[(0,.tup [])],[.row ZL true 96],[(.sl (.st [])),(.sl ZL)]⟩],λx=>VD fuel x.1 x.2.1 x.2.2.1 x.2.2.2⟩
theorem Zkq:Zg9.Ok:=fnO hi7 [(0,Zkp)] [] trivial ⟨Zn5,ytt⟩
def X2(F:Nat)(s:(Int×Int×Int×Int×(List Unit)×(List Out))):Option ((Int×Int×Int×Int×(List Unit)×(List Out))⊕(Int×Int×Int×(List Unit)×(List Out))):=
 if(decide (s.2.2.2.1≤s.1))=true then
  (VD F s.2.2.1 s.2.2.2.1 s.2.2.2.2.1 s.2.2.2.2.2).bind λo252=>
  if(decide (s.2.2.2.2.1.length=o252.1.length)&&(decide (2=2)&&decide ((yy s.2.2.2.2.2.length ()).length=o252.2.length)))=true then
   some (.inl (s.1,s.2.1,s.2.2.2.1,wi (s.2.2.2.1+s.2.1),o252.1,o252.2))
  else
  none
 else
 some (.inr (s.1,s.2.1,s.2.2.1,s.2.2.2.2.1,s.2.2.2.2.2))
def Zkr:Lp:=⟨[(0,.rw 0),(1,.v yI),(2,.fn 55 []),(6,.v yI),(7,.v yI),(8,.v yI)],[.row ZL true 96],[yI,yI,yI,yI,(.sl (.st [])),(.sl ZL)],[⟨.exit 0,[(0,.rw 0),(1,.v yI),(2,.fn 55 []),(6,.v yI),(7,.v yI)],[.row ZL true 96],[yI,yI,yI,(.sl (.st [])),(.sl ZL)]⟩],Zc (X2 fuel) fuel⟩
def hi8:HI:={ still:=[15,16,17,24,25,26,37,40,41,42,56,57,58,59],rowt:=[0,14,23,36,55]}
theorem Zn6:Zkr.okA yc 111 0:=Zlq (fi:={ hi:=hi8,gh:=[(3,.freshS 0)]}) (specs:={ l:=[Zg9]}) (okS ⟨Zkq,ytt⟩)
def Zjk(F:Nat)(s:(Int×Int×Int×Int×(List Unit)×(List Out))):Option ((Int×Int×Int×Int×(List Unit)×(List Out))⊕(Int×Int×Int×(List Unit)×(List Out))):=
 if(decide (s.2.2.2.1≤s.1))=true then
  none
 else
 some (.inr (s.1,s.2.1,s.2.2.1,s.2.2.2.2.1,s.2.2.2.2.2))
def Zks:Lp:=⟨[(1,.v yI),(2,.fn 55 []),(6,.v yI),(7,.v yI),(8,.v yI)],[.row ZL true 96],[yI,yI,yI,yI,(.sl (.st [])),(.sl ZL)],[⟨.exit 4,[(1,.v yI),(2,.fn 55 []),(6,.v yI),(7,.v yI)],[.row ZL true 96],[yI,yI,yI,(.sl (.st [])),(.sl ZL)]⟩],Zc (Zjk fuel) fuel⟩
theorem Zn7:Zks.okA yc 111 2:=ZC hi8 [] [] trivial
def Zar(F:Nat)(s:(Int×Int×(List Unit)×(List Out))):Option ((Int×Int×(List Unit)×(List Out))⊕((List Unit)×(List Out))):=
 if(decide (s.2.1 < s.1))=true then
  (Zc (Zjk F) F (s.1,s.2.1,0,wi (2*s.2.1),s.2.2.1,s.2.2.2)).bind λo255=>
  if(decide ((wi (o255.2.2.1+o255.2.1)) < o255.1))=true then
   none
  else
  some (.inl (o255.1,wi (o255.2.1*2),o255.2.2.2.1,o255.2.2.2.2))
 else
 some (.inr (s.2.2.1,s.2.2.2))
def Zkt:Lp:=⟨[(0,.junk),(1,.v yI),(2,.fn 55 []),(6,.v yI)],[.row ZL true 96],[yI,yI,(.sl (.st [])),(.sl ZL)],[⟨.exit 2,[],[.row ZL true 96],[(.sl (.st [])),(.sl ZL)]⟩],Zc (Zar fuel) fuel⟩
theorem Zn8:Zkt.okA yc 111 1:=ZC hi8 [(2,Zks)] [] trivial ⟨Zn7,ytt⟩
def Ziz(F:Nat)(a1:Int)(s0_0:(List Unit))(s0_1:(List Out)):Option (((List Unit)×(List Out))):=
 (Zc (X2 F) F (a1,20,0,20,s0_0,s0_1)).bind λo253=>
 (VD F o253.2.2.1 o253.1 o253.2.2.2.1 o253.2.2.2.2).bind λo254=>
 (Zc (Zar F) F (o253.1,o253.2.1,o254.1,o254.2)).bind λo256=>
 some (o256.1,o256.2)
def Zmf:Fs yc:=⟨111,[.rw 0,.v yI,.fn 55 []],[.row ZL true 96],[yI,(.sl (.st [])),(.sl ZL)],[⟨.ret,[(0,.tup [])],[.row ZL true 96],[(.sl (.st [])),(.sl ZL)]⟩],λx=>Ziz fuel x.1 x.2.1 x.2.2⟩
theorem ZsU:Zmf.Ok:=fnO hi8 [(0,Zkr),(1,Zkt)] [Zg9] ⟨Zkq,ytt⟩ ⟨Zn6,Zn8,ytt⟩
def Zn9(F:Nat)(s0_0:(List Unit))(s0_1:(List Out)):Option (((List Unit)×(List Out))):=
 (Ziz F (s0_1.length:Int) s0_0 s0_1).bind λo257=>
 some (o257.1,o257.2)
def Zu4:Fs yc:=⟨54,[.rw 0,.fn 55 []],[.row ZL true 96],[(.sl (.st [])),(.sl ZL)],[⟨.ret,[(0,.tup [])],[.row ZL true 96],[(.sl (.st [])),(.sl ZL)]⟩],λx=>Zn9 fuel x.1 x.2⟩
theorem ZAv:Zu4.Ok:=fnO { still:=[6,7],rowt:=[0,4]} [] [Zmf] ⟨ZsU,ytt⟩
def Vr(F:Nat)(s:dT1):Option (dT1⊕(ZH×State×(List Lock)×Tx×(List In)×Int×(List Unit)×(List Out))):=
 if(decide (s.2.2.1 < 2))=true then
  (idx s.2.1 s.2.2.1).bind λe265=>
  if(s.2.2.1==s.2.2.2.1.2.2.2.2)=true then
   (s.2.2.2.1.2.2.2.1[0]?).bind λe266=>
   (XL F e266 (wi (e265 - s.1))).bind λo267=>
   if o267=true then
    (s.2.2.2.1.2.2.2.1[1]?).bind λe268=>
    (XL F e268 (wi (e265 - s.1))).bind λo269=>
    if o269=true then
     if(inB s.2.2.1 2)=true then
      (s.2.2.2.2.2.1[s.2.2.1.toNat]?).bind λe270=>
      (W6 F e270).bind λo271=>
      if(apB s.2.2.2.2.2.2.2.2.2.2.length 1 32)=true then
       let y272:(List Out):=s.2.2.2.2.2.2.2.2.2.2++([(wi (e265 - s.1),o271)]:List Out)
       some (.inl (s.1,s.2.1,wi (s.2.2.1+1),s.2.2.2.1,s.2.2.2.2.1,s.2.2.2.2.2.1,s.2.2.2.2.2.2.1,s.2.2.2.2.2.2.2.1,s.2.2.2.2.2.2.2.2.1,()::s.2.2.2.2.2.2.2.2.2.1,y272))
      else
      none
     else
     none
    else
    some (.inl (s.1,s.2.1,wi (s.2.2.1+1),s.2.2.2.1,s.2.2.2.2.1,s.2.2.2.2.2.1,s.2.2.2.2.2.2.1,s.2.2.2.2.2.2.2.1,s.2.2.2.2.2.2.2.2.1,s.2.2.2.2.2.2.2.2.2.1,s.2.2.2.2.2.2.2.2.2.2))
   else
   some (.inl (s.1,s.2.1,wi (s.2.2.1+1),s.2.2.2.1,s.2.2.2.2.1,s.2.2.2.2.2.1,s.2.2.2.2.2.2.1,s.2.2.2.2.2.2.2.1,s.2.2.2.2.2.2.2.2.1,s.2.2.2.2.2.2.2.2.2.1,s.2.2.2.2.2.2.2.2.2.2))
  else
  (s.2.2.2.1.2.2.2.1[0]?).bind λe273=>
  (XL F e273 e265).bind λo274=>
  if o274=true then
   (s.2.2.2.1.2.2.2.1[1]?).bind λe275=>
   (XL F e275 e265).bind λo276=>
   if o276=true then
    if(inB s.2.2.1 2)=true then
     (s.2.2.2.2.2.1[s.2.2.1.toNat]?).bind λe277=>
     (W6 F e277).bind λo278=>
     if(apB s.2.2.2.2.2.2.2.2.2.2.length 1 32)=true then
      let y279:(List Out):=s.2.2.2.2.2.2.2.2.2.2++([(e265,o278)]:List Out)
      some (.inl (s.1,s.2.1,wi (s.2.2.1+1),s.2.2.2.1,s.2.2.2.2.1,s.2.2.2.2.2.1,s.2.2.2.2.2.2.1,s.2.2.2.2.2.2.2.1,s.2.2.2.2.2.2.2.2.1,()::s.2.2.2.2.2.2.2.2.2.1,y279))
     else
     none
    else
    none
   else
   some (.inl (s.1,s.2.1,wi (s.2.2.1+1),s.2.2.2.1,s.2.2.2.2.1,s.2.2.2.2.2.1,s.2.2.2.2.2.2.1,s.2.2.2.2.2.2.2.1,s.2.2.2.2.2.2.2.2.1,s.2.2.2.2.2.2.2.2.2.1,s.2.2.2.2.2.2.2.2.2.2))
  else
  some (.inl (s.1,s.2.1,wi (s.2.2.1+1),s.2.2.2.1,s.2.2.2.2.1,s.2.2.2.2.2.1,s.2.2.2.2.2.2.1,s.2.2.2.2.2.2.2.1,s.2.2.2.2.2.2.2.2.1,s.2.2.2.2.2.2.2.2.2.1,s.2.2.2.2.2.2.2.2.2.2))
 else
 some (.inr (s.2.2.2.1,s.2.2.2.2.1,s.2.2.2.2.2.1,s.2.2.2.2.2.2.1,s.2.2.2.2.2.2.2.1,s.2.2.2.2.2.2.2.2.1,s.2.2.2.2.2.2.2.2.2.1,s.2.2.2.2.2.2.2.2.2.2))
def Zjl:Lp:=⟨[(3,.v yI),(4,.ref 0 []),(6,.ref 2 []),(8,.ref 3 []),(10,.ref 4 []),(46,.v (.arr 2 yI)),(47,.v yI)],ZKh,tL3,[⟨.exit 1,[(8,.ref 3 []),(10,.ref 4 [])],ZKh,[Zh,Zf,(.arr 2 Zo),yTx,(.sl yIn),yI,(.sl (.st [])),(.sl ZL)]⟩],Zc (Vr fuel) fuel⟩
def hi9:HI:={ own:=[71,79],still:=[9,14,15,21,26,32,33,35,36,60,61,66,67,75],rowt:=[71,79,83]}
theorem ZmU:Zjl.okA yc 18 0:=ZC hi9 [] [ZcM,ZfH] ⟨Zfs,ZdV,ytt⟩
def closing_MakeM(F:Nat)(a0:ZH)(a1:State)(a2:(List Lock))(a3:Int):Option ((Tx×Int)):=
 (Zbp F a0 a1).bind λo259=>
 if(!o259)=true then
  some (([],[],0),14)
 else
 (a2[0]?).bind λe260=>
 (Y6 F e260).bind λo261=>
 if(!o261)=true then
  some (([],[],0),1)
 else
 (a2[1]?).bind λe262=>
 (Y6 F e262).bind λo263=>
 if(!o263)=true then
  some (([],[],0),1)
 else
 (YG F a0 a1 a0.2.2.2.2 a3).bind λo264=>
 if(!o264)=true then
  some (([],[],0),13)
 else
 (Zc (Vr F) F (a3,a1.2.1,0,a0,a1,a2,([],[],0),[(a0.1,(0,[],0))],2097154,[],[])).bind λo280=>
 (Zn9 F o280.2.2.2.2.2.2.1 o280.2.2.2.2.2.2.2).bind λo281=>
 if(decide (o280.2.2.2.2.2.2.1.length=o281.1.length)&&(decide (2=2)&&decide ((yy o280.2.2.2.2.2.2.2.length ()).length=o281.2.length)))=true then
  some ((o280.2.2.2.2.1,o281.2,o280.2.2.2.2.2.1),0)
 else
 none
def ZdW(F:Nat):Fs yc:=⟨18,[.v Zh,.v Zf,.v (.arr 2 Zo),.v yI],[],[Zh,Zf,(.arr 2 Zo),yI],[⟨.ret,[(0,.tup [.v yTx,.v yI])],[],[yTx,yI]⟩],λx=>closing_MakeM F x.1 x.2.1 x.2.2.1 x.2.2.2⟩
def Zbw:Fs yc:=ZdW fuel
theorem Zas:Zbw.Ok:=ZuX (fi:={ hi:=hi9,lp:=[(0,Zjl)],gh:=[(10,.rowt 10 [1] ZL 96),(19,.freshDone 10 1)]}) (specs:={ l:=[Zg4,QO,Zbq,Zu4]}) (okS ⟨ZfB,VY,Zao,ZAv,ytt⟩) ⟨ZmU,ytt⟩
def Zdh(F:Nat)(a0:ZBI):Option (Bool):=
 if(decide (a0.1 ≥ 0))=true then
  if(decide (a0.1 < 4))=true then
   some (decide ((a0.2.1.length:Int)≤12))
  else
  some false
 else
 some false
def Zoa:Fs yc:=⟨73,[.v ZsE],[],[ZsE],[⟨.ret,[(0,.v .bool)],[],[.bool]⟩],λx=>Zdh fuel x⟩
theorem Zt4:Zoa.Ok:=fnO { still:=[2]} [] [] trivial
def Zbx(F:Nat)(s:((List In)×Int×Int×Tx×(List (Xw×Bool)))):Option (((List In)×Int×Int×Tx×(List (Xw×Bool)))⊕((Bool×Tx×(List (Xw×Bool)))⊕(Tx×(List (Xw×Bool))))):=
 if(decide (s.2.2.1 < s.2.1))=true then
  (idx s.1 s.2.2.1).bind λe282=>
  ZBg (ZvK s.2.2.2.2 e282.1) (λe283=>
   if e283=true then
    some (.inr (.inl (false,s.2.2.2.1,s.2.2.2.2)))
   else
   if(decide (e282.1.2 < 0))=true then
    some (.inr (.inl (false,s.2.2.2.1,s.2.2.2.2)))
   else
   if(decide (e282.1.2 ≥ 64))=true then
    some (.inr (.inl (false,s.2.2.2.1,s.2.2.2.2)))
   else
   (Zdh F e282.2).bind λo284=>
   if(!o284)=true then
    some (.inr (.inl (false,s.2.2.2.1,s.2.2.2.2)))
   else
   some (.inl (s.1,s.2.1,wi (s.2.2.1+1),s.2.2.2.1,ZxM s.2.2.2.2 e282.1 true))) (
   if(decide (e282.1.2 < 0))=true then
    some (.inr (.inl (false,s.2.2.2.1,s.2.2.2.2)))
   else
   if(decide (e282.1.2 ≥ 64))=true then
    some (.inr (.inl (false,s.2.2.2.1,s.2.2.2.2)))
   else
   (Zdh F e282.2).bind λo285=>
   if(!o285)=true then
    some (.inr (.inl (false,s.2.2.2.1,s.2.2.2.2)))
   else
   some (.inl (s.1,s.2.1,wi (s.2.2.1+1),s.2.2.2.1,ZxM s.2.2.2.2 e282.1 true)))
 else
 some (.inr (.inr (s.2.2.2.1,s.2.2.2.2)))
def Zqc:Lp:=⟨[(1,.ref 0 []),(3,.mp 1),(33,.v (.sl yIn)),(34,.v yI),(35,.v yI)],[.var (.v yTx) true,.map 161 XU .bool],[(.sl yIn),yI,yI,yTx,(ZqD XU .bool)],[⟨.ret,[(2,.v .bool)],[.var (.v yTx) true,.map 161 XU .bool],[.bool,yTx,(ZqD XU .bool)]⟩,⟨.exit 0,[(1,.ref 0 [])],[.var (.v yTx) true,.map 161 XU .bool],[yTx,(ZqD XU .bool)]⟩],Zc (Zbx fuel) fuel⟩
theorem ZsV:Zqc.okA yc 25 0:=ZC { still:=[2,57,73,75,83]} [] [Zoa] ⟨Zt4,ytt⟩
def ZeM(F:Nat)(s:(Int×(List Out)×Int×Int×Tx×(List (Xw×Bool)))):Option ((Int×(List Out)×Int×Int×Tx×(List (Xw×Bool)))⊕((Bool×Tx×(List (Xw×Bool)))⊕(Tx×(List (Xw×Bool))))):=
 if(decide (s.2.2.2.1 < s.2.2.1))=true then
  (idx s.2.1 s.2.2.2.1).bind λe289=>
  (ZhG F s.1 e289.1).bind λo290=>
  if(!o290.2)=true then
   some (.inr (.inl (false,s.2.2.2.2.1,s.2.2.2.2.2)))
  else
  (Y6 F e289.2).bind λo291=>
  if(!o291)=true then
   some (.inr (.inl (false,s.2.2.2.2.1,s.2.2.2.2.2)))
  else
  some (.inl (o290.1,s.2.1,s.2.2.1,wi (s.2.2.2.1+1),s.2.2.2.2.1,s.2.2.2.2.2))
 else
 some (.inr (.inr (s.2.2.2.2.1,s.2.2.2.2.2)))
def Zqd:Lp:=⟨[(6,.v yI),(66,.v (.sl ZL)),(67,.v yI),(68,.v yI)],[.var (.v yTx) true,.map 161 XU .bool],[yI,(.sl ZL),yI,yI,yTx,(ZqD XU .bool)],[⟨.ret,[(2,.v .bool)],[.var (.v yTx) true,.map 161 XU .bool],[.bool,yTx,(ZqD XU .bool)]⟩,⟨.exit 2,[],[.var (.v yTx) true,.map 161 XU .bool],[yTx,(ZqD XU .bool)]⟩],Zc (ZeM fuel) fuel⟩
theorem ZsW:Zqd.okA yc 25 1:=ZC { still:=[2,57,73,75,83]} [] [Zo7,QO] ⟨ZsO,VY,ytt⟩
def ZhM(F:Nat)(a0:Tx):Option (Bool):=
 if(decide ((a0.1.length:Int) < 1))=true then
  some false
 else
 if(decide ((a0.1.length:Int) > 64))=true then
  some false
 else
 if(decide ((a0.2.1.length:Int) > 64))=true then
  some false
 else
 if(decide (a0.2.2 < 0))=true then
  some false
 else
 (Zc (Zbx F) F (a0.1,(a0.1.length:Int),0,a0,([]:List (Xw×Bool)))).bind λo286=>
 match o286 with
 |.inl o287=>
  some o287.1
 |.inr o288=>
  (Zc (ZeM F) F (0,o288.1.2.1,(o288.1.2.1.length:Int),0,o288.1,o288.2)).bind λo292=>
  match o292 with
  |.inl o293=>
   some o293.1
  |.inr o294=>
   some true
def ZmV:Fs yc:=⟨25,[.v yTx],[],[yTx],[⟨.ret,[(0,.v .bool)],[],[.bool]⟩],λx=>ZhM fuel x⟩
theorem Zqe:ZmV.Ok:=fnO { still:=[2,57,73,75,83]} [(0,Zqc),(1,Zqd)] [] trivial ⟨ZsV,ZsW,ytt⟩
def Zku(F:Nat):Option ((List UInt32)):=
 some [1779033703,3144134277,1013904242,2773480762,1359893119,2600822924,528734635,1541459225]
def Zob:Fs yc:=⟨156,[],[],[],[⟨.ret,[(0,.v (.arr 8 .u32))],[],[(.arr 8 .u32)]⟩],λx=>Zku fuel⟩
theorem Zt5:Zob.Ok:=fnO {} [] [] trivial
def ZR(F:Nat)(a0:UInt32)(a1:Int):Option (UInt32):=
 let y296:UInt32:=ZaS a0 (min (((w64 a1)&&&31).toNat:Int).toNat 32);let y297:UInt32:=Zd6 a0 (min ((32 - ((w64 a1)&&&31)).toNat:Int).toNat 32)
 some (y296|||y297)
def Q0:Fs yc:=⟨177,[.v .u32,.v yI],[],[.u32,yI],[⟨.ret,[(0,.v .u32)],[],[.u32]⟩],λx=>ZR fuel x.1 x.2⟩
theorem Zdi:Q0.Ok:=fnO { still:=[4]} [] [] trivial
def ZeN(F:Nat)(a0:(List UInt8)):Option (UInt32):=
 (idx a0 0).bind λe298=>
 (idx a0 1).bind λe299=>
 let y300:UInt32:=(ZaS (ybs e298.toNat) 24)|||(ZaS (ybs e299.toNat) 16)
 (idx a0 2).bind λe301=>
 (idx a0 3).bind λe302=>
 let y303:UInt32:=(y300|||(ZaS (ybs e301.toNat) 8))|||(ybs e302.toNat)
 some y303
def Zmg:Fs yc:=⟨187,[.v (.sl .u8)],[],[(.sl .u8)],[⟨.ret,[(0,.v .u32)],[],[.u32]⟩],λx=>ZeN fuel x⟩
theorem ZsX:Zmg.Ok:=fnO { still:=[2]} [] [] trivial
def V8(F:Nat)(s:((List UInt8)×Int×(List UInt32))):Option (((List UInt8)×Int×(List UInt32))⊕(List UInt32)):=
 if(decide (s.2.1 < 64))=true then
  if(decide (s.2.1 < 16))=true then
   if(Za2 s.1.length (some (wi (4*s.2.1))) none)=true then
    (ZeN F (s.1.drop ((wi (4*s.2.1)).toNat))).bind λo304=>
    if(inB s.2.1 64)=true then
     (s.2.2[s.2.1.toNat]?).bind λe305=>
     some (.inl (s.1,wi (s.2.1+1),s.2.2.set s.2.1.toNat o304))
    else
    none
   else
   none
  else
  if(inB (wi (s.2.1 - 15)) 64)=true then
   (s.2.2[(wi (s.2.1 - 15)).toNat]?).bind λe306=>
   if(inB (wi (s.2.1 - 2)) 64)=true then
    (s.2.2[(wi (s.2.1 - 2)).toNat]?).bind λe307=>
    (ZR F e306 (-7)).bind λo308=>
    (ZR F e306 (-18)).bind λo309=>
    (ZR F e307 (-17)).bind λo310=>
    (ZR F e307 (-19)).bind λo311=>
    if(inB (wi (s.2.1 - 16)) 64)=true then
     (s.2.2[(wi (s.2.1 - 16)).toNat]?).bind λe312=>
     if(inB (wi (s.2.1 - 7)) 64)=true then
      (s.2.2[(wi (s.2.1 - 7)).toNat]?).bind λe313=>
      let y314:UInt32:=(e312+((o308^^^o309)^^^(Zd6 e306 3)))+e313
      if(inB s.2.1 64)=true then
       (s.2.2[s.2.1.toNat]?).bind λe315=>
       let y316:(List UInt32):=s.2.2.set s.2.1.toNat (y314+((o310^^^o311)^^^(Zd6 e307 10)))
       some (.inl (s.1,wi (s.2.1+1),y316))
      else
      none
     else
     none
    else
    none
   else
   none
  else
  none
 else
 some (.inr s.2.2)
def ZhN:Lp:=⟨[(0,.v (.sl .u8)),(2,.ref 0 []),(8,.v yI)],[.var (.v (.arr 64 .u32)) true],[(.sl .u8),yI,(.arr 64 .u32)],[⟨.exit 0,[(2,.ref 0 [])],[.var (.v (.arr 64 .u32)) true],[(.arr 64 .u32)]⟩],Zc (V8 fuel) fuel⟩
theorem ZlG:ZhN.okA yc 175 0:=ZC { still:=[17,28,30,36,38]} [] [Zmg,Q0] ⟨ZsX,Zdi,ytt⟩
def Zby(F:Nat)(a0:(List UInt8)):Option ((List UInt32)):=
 (Zc (V8 F) F (a0,0,[0,0,0,0,0,0,0,0,0,0,0,0,0,0,0,0,0,0,0,0,0,0,0,0,0,0,0,0,0,0,0,0,0,0,0,0,0,0,0,0,0,0,0,0,0,0,0,0,0,0,0,0,0,0,0,0,0,0,0,0,0,0,0,0])).bind λo317=>
 some o317
def Zjm:Fs yc:=⟨175,[.v (.sl .u8)],[],[(.sl .u8)],[⟨.ret,[(0,.v (.arr 64 .u32))],[],[(.arr 64 .u32)]⟩],λx=>Zby fuel x⟩
theorem Zpe:Zjm.Ok:=fnO { still:=[17,28,30,36,38]} [(0,ZhN)] [] trivial ⟨ZlG,ytt⟩
def Zkv(F:Nat):Option ((List UInt32)):=
 some [1116352408,1899447441,3049323471,3921009573,961987163,1508970993,2453635748,2870763221,3624381080,310598401,607225278,1426881987,1925078388,2162078206,2614888103,3248222580,3835390401,4022224774,264347078,604807628,770255983,1249150122,1555081692,1996064986,2554220882,2821834349,2952996808,3210313671,3336571891,3584528711,113926993,338241895,666307205,773529912,1294757372,1396182291,1695183700,1986661051,2177026350,2456956037,2730485921,2820302411,3259730800,3345764771,3516065817,3600352804,4094571909,275423344,430227734,506948616,659060556,883997877,958139571,1322822218,1537002063,1747873779,1955562222,2024104815,2227730452,2361852424,2428436474,2756734187,3204031479,3329325298]
def Zoc:Fs yc:=⟨176,[],[],[],[⟨.ret,[(0,.v (.arr 64 .u32))],[],[(.arr 64 .u32)]⟩],λx=>Zkv fuel⟩
theorem Zt6:Zoc.Ok:=fnO {} [] [] trivial
def VE(F:Nat)(s:(Int×(List UInt32)×(List UInt32)×(List UInt32)×(List UInt32)×(List UInt32))):Option ((Int×(List UInt32)×(List UInt32)×(List UInt32)×(List UInt32)×(List UInt32))⊕((List UInt32)×(List UInt32)×(List UInt32)×(List UInt32)×(List UInt32))):=
 if(decide (s.1 < 64))=true then
  (s.2.2.2.2.2[4]?).bind λe320=>
  (ZR F e320 (-6)).bind λo321=>
  (s.2.2.2.2.2[4]?).bind λe322=>
  (ZR F e322 (-11)).bind λo323=>
  (s.2.2.2.2.2[4]?).bind λe324=>
  (ZR F e324 (-25)).bind λo325=>
  (s.2.2.2.2.2[7]?).bind λe326=>
  (s.2.2.2.2.2[6]?).bind λe327=>
  (s.2.2.2.2.2[4]?).bind λe328=>
  (s.2.2.2.2.2[5]?).bind λe329=>
  (s.2.2.2.2.2[6]?).bind λe330=>
  let y331:UInt32:=(e326+((o321^^^o323)^^^o325))+(e327^^^(e328&&&(e329^^^e330)))
  if(inB s.1 64)=true then
   (s.2.2.2.2.1[s.1.toNat]?).bind λe332=>
   if(inB s.1 64)=true then
    (s.2.2.2.1[s.1.toNat]?).bind λe333=>
    (s.2.2.2.2.2[0]?).bind λe334=>
    (ZR F e334 (-2)).bind λo335=>
    (s.2.2.2.2.2[0]?).bind λe336=>
    (ZR F e336 (-13)).bind λo337=>
    (s.2.2.2.2.2[0]?).bind λe338=>
    (ZR F e338 (-22)).bind λo339=>
    (s.2.2.2.2.2[0]?).bind λe340=>
    (s.2.2.2.2.2[1]?).bind λe341=>
    (s.2.2.2.2.2[2]?).bind λe342=>
    (s.2.2.2.2.2[0]?).bind λe343=>
    (s.2.2.2.2.2[1]?).bind λe344=>
    let y345:UInt32:=((y331+e332)+e333)+((o335^^^o337)^^^o339);let y346:UInt32:=y345+((e340&&&e341)|||(e342&&&(e343|||e344)))
    (s.2.2.2.2.2[0]?).bind λe347=>
    (s.2.2.2.2.2[1]?).bind λe348=>
    (s.2.2.2.2.2[2]?).bind λe349=>
    (s.2.2.2.2.2[3]?).bind λe350=>
    (s.2.2.2.2.2[4]?).bind λe351=>
    (s.2.2.2.2.2[5]?).bind λe352=>
    (s.2.2.2.2.2[6]?).bind λe353=>
    some (.inl (wi (s.1+1),s.2.1,s.2.2.1,s.2.2.2.1,s.2.2.2.2.1,[y346,e347,e348,e349,e350+((y331+e332)+e333),e351,e352,e353]))
   else
   none
  else
  none
 else
 some (.inr (s.2.1,s.2.2.1,s.2.2.2.1,s.2.2.2.2.1,s.2.2.2.2.2))
def ZHu:List ESh:=[.var (.v (.arr 8 .u32)) true,.var (.v (.arr 8 .u32)) true,.var (.v (.arr 64 .u32)) true,.var (.v (.arr 64 .u32)) true,.var (.v (.arr 8 .u32)) true]
def ZgJ:Lp:=⟨[(2,.ref 0 []),(4,.ref 1 []),(5,.ref 2 []),(6,.ref 3 []),(7,.ref 4 []),(18,.v yI)],ZHu,[yI,(.arr 8 .u32),(.arr 8 .u32),(.arr 64 .u32),(.arr 64 .u32),(.arr 8 .u32)],[⟨.exit 0,[(2,.ref 0 []),(4,.ref 1 []),(7,.ref 4 [])],ZHu,[(.arr 8 .u32),(.arr 8 .u32),(.arr 64 .u32),(.arr 64 .u32),(.arr 8 .u32)]⟩],Zc (VE fuel) fuel⟩
def ZJi:HI:={ still:=[14,22,25,29,57,60,64]}
theorem Zkw:ZgJ.okA yc 157 0:=ZC ZJi [] [Q0] ⟨Zdi,ytt⟩
def VF(F:Nat)(s:(Int×(List UInt32)×(List UInt32)×(List UInt32)×(List UInt32)×(List UInt32))):Option ((Int×(List UInt32)×(List UInt32)×(List UInt32)×(List UInt32)×(List UInt32))⊕((List UInt32)×(List UInt32)×(List UInt32)×(List UInt32)×(List UInt32))):=
 if(decide (s.1 < 8))=true then
  if(inB s.1 8)=true then
   (s.2.2.2.2.2[s.1.toNat]?).bind λe355=>
   if(inB s.1 8)=true then
    (s.2.1[s.1.toNat]?).bind λe356=>
    if(inB s.1 8)=true then
     (s.2.2.2.2.2[s.1.toNat]?).bind λe357=>
     some (.inl (wi (s.1+1),s.2.1,s.2.2.1,s.2.2.2.1,s.2.2.2.2.1,s.2.2.2.2.2.set s.1.toNat (e355+e356)))
    else
    none
   else
   none
  else
  none
 else
 some (.inr (s.2.1,s.2.2.1,s.2.2.2.1,s.2.2.2.2.1,s.2.2.2.2.2))
def ZgK:Lp:=⟨[(2,.ref 0 []),(4,.ref 1 []),(7,.ref 4 []),(104,.v yI)],ZHu,[yI,(.arr 8 .u32),(.arr 8 .u32),(.arr 64 .u32),(.arr 64 .u32),(.arr 8 .u32)],[⟨.exit 2,[(4,.ref 1 []),(7,.ref 4 [])],ZHu,[(.arr 8 .u32),(.arr 8 .u32),(.arr 64 .u32),(.arr 64 .u32),(.arr 8 .u32)]⟩],Zc (VF fuel) fuel⟩
theorem Zkx:ZgK.okA yc 157 1:=ZC ZJi [] [] trivial
def VR(F:Nat)(a0:(List UInt32))(a1:(List UInt8)):Option ((List UInt32)):=
 (Zby F a1).bind λo318=>
 (Zkv F).bind λo319=>
 (Zc (VE F) F (0,a0,[0,0,0,0,0,0,0,0],o318,o319,a0)).bind λo354=>
 (Zc (VF F) F (0,o354.1,o354.2.1,o354.2.2.1,o354.2.2.2.1,o354.2.2.2.2)).bind λo358=>
 some o358.2.2.2.2
def Zct:Fs yc:=⟨157,[.v (.arr 8 .u32),.v (.sl .u8)],[],[(.arr 8 .u32),(.sl .u8)],[⟨.ret,[(0,.v (.arr 8 .u32))],[],[(.arr 8 .u32)]⟩],λx=>VR fuel x.1 x.2⟩
theorem ZgL:Zct.Ok:=fnO ZJi [(0,ZgJ),(1,ZgK)] [Zjm,Zoc] ⟨Zpe,Zt6,ytt⟩ ⟨Zkw,Zkx,ytt⟩
def Yc(F:Nat)(a0:(List UInt8)):Option ((List UInt8)):=
 if(apB 0 a0.length 1)=true then
  some a0
 else
 none
def ZeO:Fs yc:=⟨149,[.sl true .u8],[],[(.sl .u8)],[⟨.ret,[(0,.own 0 .u8)],[.log .u8 5],[(.sl .u8)]⟩],λx=>Yc fuel x⟩
theorem ZdX:ZeO.Ok:=fnO { own:=[2,5,7]} [] [] trivial
def Qy(F:Nat):Option ((List UInt8)):=
 some []
def ZeP:Fs yc:=⟨149,[.nil .u8],[],[],[⟨.ret,[(0,.own 0 .u8)],[.log .u8 5],[(.sl .u8)]⟩],λx=>Qy fuel⟩
theorem ZdY:ZeP.Ok:=fnO { own:=[2,5,7]} [] [] trivial
def Vv:Fs yc:=⟨149,[.v (.sl .u8)],[],[(.sl .u8)],[⟨.ret,[(0,.own 0 .u8)],[.log .u8 5],[(.sl .u8)]⟩],λx=>Yc fuel x⟩
theorem Zcu:Vv.Ok:=Zo2 (t:=.u8) (xs:=[⟨.ret,[(0,.own 0 .u8)],[.log .u8 5],[(.sl .u8)]⟩]) (MA:=λ(x:(List UInt8))=>Yc fuel x) (MB:=λ_=>Qy fuel) ZdX ZdY rfl
def ZcQ(F:Nat)(s:((List UInt8)×(List UInt8)×(List UInt8))):Option (((List UInt8)×(List UInt8)×(List UInt8))⊕((List UInt8)×(List UInt8)×(List UInt8))):=
 if((yar (s.2.2.length:Int) 64)!=56)=true then
  if(apB s.2.2.length 1 1)=true then
   some (.inl (s.1,s.2.1,s.2.2++([0]:List UInt8)))
  else
  none
 else
 some (.inr (s.1,s.2.1,s.2.2))
def Zod:Lp:=⟨[(0,.v (.sl .u8)),(2,.ref 0 []),(3,.own 1 .u8)],[.var (.v (.arr 32 .u8)) true,.log .u8 5],[(.sl .u8),(.arr 32 .u8),(.sl .u8)],[⟨.exit 0,[(0,.v (.sl .u8)),(2,.ref 0 []),(3,.own 1 .u8)],[.var (.v (.arr 32 .u8)) true,.log .u8 5],[(.sl .u8),(.arr 32 .u8),(.sl .u8)]⟩],Zc (ZcQ fuel) fuel⟩
def ZFF:HI:={ own:=[3,14,16,21,23,24,28,43],still:=[13,24,27,35,37,44,46]}
theorem ZqL:Zod.okA yc 117 0:=ZC ZFF [] [] trivial
def QP(F:Nat)(s:(Int×Int×(List UInt8)×(List UInt8))):Option ((Int×Int×(List UInt8)×(List UInt8))⊕((List UInt8)×(List UInt8))):=
 if(decide (s.2.1 ≥ 0))=true then
  if(decide (0≤s.2.1))=true then
   if(apB s.2.2.1.length 1 1)=true then
    let y362:(List UInt8):=s.2.2.1++([w8 (Int.fdiv s.1 (2 ^ (min s.2.1.toNat 64)))]:List UInt8)
    some (.inl (s.1,wi (s.2.1 - 8),y362,s.2.2.2))
   else
   none
  else
  none
 else
 some (.inr (s.2.2.1,s.2.2.2))
def Zjn:Lp:=⟨[(0,.own 0 .u8),(1,.v yI),(5,.v yI)],[.log .u8 5,.log .u8 5],[yI,yI,(.sl .u8),(.sl .u8)],[⟨.exit 0,[(0,.own 0 .u8)],[.log .u8 5,.log .u8 5],[(.sl .u8),(.sl .u8)]⟩],Zc (QP fuel) fuel⟩
theorem ZmW:Zjn.okA yc 116 0:=ZC { own:=[0,4,10,16,17]} [] [] trivial
def W7(F:Nat)(a1:Int)(s0:(List UInt8)):Option ((List UInt8)):=
 (Zc (QP F) F (a1,56,s0,[])).bind λo363=>
 some o363.1
def Qz:Fs yc:=⟨116,[.own 0 .u8,.v yI],[.log .u8 5],[yI,(.sl .u8)],[⟨.ret,[(0,.own 0 .u8)],[.log .u8 5],[(.sl .u8)]⟩],λx=>W7 fuel x.1 x.2⟩
theorem ZdZ:Qz.Ok:=fnO { own:=[0,4,10,16,17]} [(0,Zjn)] [] trivial ⟨ZmW,ytt⟩
def ZcR(F:Nat)(s:((List UInt8)×(List UInt8)×(List UInt8)×(List UInt32))):Option (((List UInt8)×(List UInt8)×(List UInt8)×(List UInt32))⊕((List UInt8)×(List UInt8)×(List UInt32))):=
 if(decide ((s.1.length:Int) ≥ 64))=true then
  if(Za2 s.1.length none (some 64))=true then
   (VR F s.2.2.2 (s.1.take 64)).bind λo366=>
   if(Za2 s.1.length (some 64) none)=true then
    some (.inl (s.1.drop 64,s.2.1,s.2.2.1,o366))
   else
   none
  else
  none
 else
 some (.inr (s.2.1,s.2.2.1,s.2.2.2))
def Zoe:Lp:=⟨[(0,.v (.sl .u8)),(2,.ref 0 []),(3,.own 1 .u8),(4,.ref 2 [])],[.var (.v (.arr 32 .u8)) true,.log .u8 5,.var (.v (.arr 8 .u32)) true],[(.sl .u8),(.arr 32 .u8),(.sl .u8),(.arr 8 .u32)],[⟨.exit 2,[(2,.ref 0 []),(3,.own 1 .u8),(4,.ref 2 [])],[.var (.v (.arr 32 .u8)) true,.log .u8 5,.var (.v (.arr 8 .u32)) true],[(.arr 32 .u8),(.sl .u8),(.arr 8 .u32)]⟩],Zc (ZcR fuel) fuel⟩
theorem ZqM:Zoe.okA yc 117 1:=ZC ZFF [] [Zct] ⟨ZgL,ytt⟩
def ZcS(F:Nat)(s:((List UInt8)×(List UInt8)×(List UInt8)×(List UInt32))):Option (((List UInt8)×(List UInt8)×(List UInt8)×(List UInt32))⊕((List UInt8)×(List UInt8)×(List UInt32))):=
 if(decide ((s.1.length:Int) > 0))=true then
  if(Za2 s.1.length none (some 64))=true then
   (VR F s.2.2.2 (s.1.take 64)).bind λo369=>
   if(Za2 s.1.length (some 64) none)=true then
    some (.inl (s.1.drop 64,s.2.1,s.2.2.1,o369))
   else
   none
  else
  none
 else
 some (.inr (s.2.1,s.2.2.1,s.2.2.2))
def Zof:Lp:=⟨[(2,.ref 0 []),(3,.v (.sl .u8)),(4,.ref 2 [])],[.var (.v (.arr 32 .u8)) true,.log .u8 5,.var (.v (.arr 8 .u32)) true],[(.sl .u8),(.arr 32 .u8),(.sl .u8),(.arr 8 .u32)],[⟨.exit 4,[(2,.ref 0 []),(4,.ref 2 [])],[.var (.v (.arr 32 .u8)) true,.log .u8 5,.var (.v (.arr 8 .u32)) true],[(.arr 32 .u8),(.sl .u8),(.arr 8 .u32)]⟩],Zc (ZcS fuel) fuel⟩
theorem ZqN:Zof.okA yc 117 2:=ZC ZFF [] [Zct] ⟨ZgL,ytt⟩
def ZcT(F:Nat)(s:(Int×(List UInt8)×(List UInt8)×(List UInt32))):Option ((Int×(List UInt8)×(List UInt8)×(List UInt32))⊕((List UInt8)×(List UInt8)×(List UInt32))):=
 if(decide (s.1 < 32))=true then
  if(inB (wi (Int.tdiv s.1 4)) 8)=true then
   (s.2.2.2[(wi (Int.tdiv s.1 4)).toNat]?).bind λe371=>
   if(decide (0≤wi (24 - (wi (8*(yar s.1 4))))))=true then
    let y372:UInt32:=Zd6 e371 (min (wi (24 - (wi (8*(yar s.1 4))))).toNat 32)
    if(inB s.1 32)=true then
     (s.2.1[s.1.toNat]?).bind λe373=>
     some (.inl (wi (s.1+1),s.2.1.set s.1.toNat (w8 (y372.toNat:Int)),s.2.2.1,s.2.2.2))
    else
    none
   else
   none
  else
  none
 else
 some (.inr (s.2.1,s.2.2.1,s.2.2.2))
def Zog:Lp:=⟨[(2,.ref 0 []),(4,.ref 2 []),(48,.v yI)],[.var (.v (.arr 32 .u8)) true,.log .u8 5,.var (.v (.arr 8 .u32)) true],[yI,(.arr 32 .u8),(.sl .u8),(.arr 8 .u32)],[⟨.exit 6,[(2,.ref 0 [])],[.var (.v (.arr 32 .u8)) true,.log .u8 5,.var (.v (.arr 8 .u32)) true],[(.arr 32 .u8),(.sl .u8),(.arr 8 .u32)]⟩],Zc (ZcT fuel) fuel⟩
theorem ZqO:Zog.okA yc 117 3:=ZC ZFF [] [] trivial
def ZfI(F:Nat)(a0:(List UInt8)):Option ((List UInt8)):=
 let y359:Int:=wi ((a0.length:Int) - (yar (a0.length:Int) 64))
 if(Za2 a0.length (some y359) none)=true then
  (Yc F (a0.drop y359.toNat)).bind λo360=>
  if(apB o360.length 1 1)=true then
   (Zc (ZcQ F) F (a0,yzz,o360++([128]:List UInt8))).bind λo361=>
   (W7 F (wi (8*(o361.1.length:Int))) o361.2.2).bind λo364=>
   (Zku F).bind λo365=>
   (Zc (ZcR F) F (o361.1,o361.2.1,o364,o365)).bind λo367=>
   (Zc (ZcS F) F (o367.2.1,o367.1,o367.2.1,o367.2.2)).bind λo370=>
   (Zc (ZcT F) F (0,o370.1,o370.2.1,o370.2.2)).bind λo374=>
   some o374.1
  else
  none
 else
 none
def ZiA(F:Nat):Fs yc:=⟨117,[.v (.sl .u8)],[],[(.sl .u8)],[⟨.ret,[(0,.v (.arr 32 .u8))],[],[(.arr 32 .u8)]⟩],λx=>ZfI F x⟩
def ZyI:Fs yc:=ZiA fuel
theorem ZwM:ZyI.Ok:=fnO ZFF [(0,Zod),(1,Zoe),(2,Zof),(3,Zog)] [Qz,Vv,Zob] ⟨ZdZ,Zcu,Zt5,ytt⟩ ⟨ZqL,ZqM,ZqN,ZqO,ytt⟩
end
end Go.Proofs.YtmkgbalfkhaflaaGreat
end
section
namespace Go.Sha
open Go.Ev
noncomputable def Zaa{α:Type}(n:Nat)(k:Nat→α):α:=Nat.rec (motive:=λ_=>α) (k 0) (λm _=>k (Nat.succ m)) n
theorem XP{α:Type}(n:Nat)(k:Nat→α):Zaa n k=k n:=by cases n <;> rfl
def dbl(x:Nat):Nat:=Nat.mul x 4294967297
def s0(x:Nat):Nat:=Nat.xor (Nat.xor (yae (dbl x) 7) (yae (dbl x) 18)) (yae x 3)
def s1(x:Nat):Nat:=Nat.xor (Nat.xor (yae (dbl x) 17) (yae (dbl x) 19)) (yae x 10)
def S0(x:Nat):Nat:=Nat.xor (Nat.xor (yae (dbl x) 2) (yae (dbl x) 13)) (yae (dbl x) 22)
def S1(x:Nat):Nat:=Nat.xor (Nat.xor (yae (dbl x) 6) (yae (dbl x) 11)) (yae (dbl x) 25)
def ch(e f g:Nat):Nat:=Nat.xor g (Nat.land e (Nat.xor f g))
def mj(a b c:Nat):Nat:=Nat.lor (Nat.land a b) (Nat.land c (Nat.lor a b))
def lo(x:Nat):Nat:=Nat.mod x 4294967296
def kw(W:Nat):Nat:=lo (yu (yu (yu (yae W 480) (s0 (lo (yae W 448)))) (lo (yae W 192))) (s1 (lo (yae W 32))))
def kn(W:Nat):Nat:=Nat.mod (yu (Nat.mul W 4294967296) (kw W)) (Nat.pow 2 512)
noncomputable def kst(k:Nat)(ih:Nat→Nat→Nat→Nat→Nat→Nat→Nat→Nat→Nat→Nat)(W a b c d e f g h:Nat):Nat:=
 Zaa (yu (yu (yu (yu h (S1 e)) (ch e f g)) k) (yae W 480)) λt=>
     Zaa (lo (yu (yu t (S0 a)) (mj a b c))) λa'=>Zaa (lo (yu d t)) λe'=>Zaa (kn W) λW'=>ih W' a' a b c e' e f g
noncomputable def kgo(ks:List Nat)(K:Nat→Nat→Nat→Nat→Nat→Nat→Nat→Nat→Nat):Nat→Nat→Nat→Nat→Nat→Nat→Nat→Nat→Nat→Nat:=
 List.rec (motive:=λ_=>Nat→Nat→Nat→Nat→Nat→Nat→Nat→Nat→Nat→Nat) (λ_=>K) (λk _ ih=>kst k ih) ks
def ks:List Nat:=[1116352408,1899447441,3049323471,3921009573,961987163,1508970993,2453635748,2870763221,3624381080,310598401,607225278,1426881987,1925078388,2162078206,2614888103,3248222580,3835390401,4022224774,264347078,604807628,770255983,1249150122,1555081692,1996064986,2554220882,2821834349,2952996808,3210313671,3336571891,3584528711,113926993,338241895,666307205,773529912,1294757372,1396182291,1695183700,1986661051,2177026350,2456956037,2730485921,2820302411,3259730800,3345764771,3516065817,3600352804,4094571909,275423344,430227734,506948616,659060556,883997877,958139571,1322822218,1537002063,1747873779,1955562222,2024104815,2227730452,2361852424,2428436474,2756734187,3204031479,3329325298]
def w32(H i:Nat):Nat:=lo (yae H i)
def cat(H x:Nat):Nat:=yu (Nat.mul H 4294967296) (lo x)
noncomputable def ZHv(H B:Nat):Nat:=
 Zaa (w32 H 224) λa=>Zaa (w32 H 192) λb=>Zaa (w32 H 160) λc=>Zaa (w32 H 128) λd=>Zaa (w32 H 96) λe=>Zaa (w32 H 64) λf=>Zaa (w32 H 32) λg=>Zaa (w32 H 0) λh=>
  kgo ks (λa' b' c' d' e' f' g' h'=>cat (cat (cat (cat (cat (cat (cat (cat 0 (yu a' a)) (yu b' b)) (yu c' c)) (yu d' d)) (yu e' e)) (yu f' f)) (yu g' g)) (yu h' h)) B a b c d e f g h
noncomputable def pk(l:List Nat)(n:Nat):Nat:=List.rec (motive:=λ_=>Nat→Nat) (λn=>n) (λx _ ih n=>Zaa (yu (Nat.mul n 256) x) ih) l n
noncomputable def ZJj(n:Nat)(l:List Nat)(H:Nat):Nat:=
 Nat.rec (motive:=λ_=>List Nat→Nat→Nat) (λ_ H=>H) (λ_ ih l H=>Zaa (ZHv H (pk (l.take 64) 0)) λH'=>ih (l.drop 64) H') n l H
noncomputable def outs(H:Nat)(l:List Nat):List UInt8:=List.rec (motive:=λ_=>List UInt8) [] (λs _ ih=>Zaa (Nat.mod (yae H s) 256) λx=>yau x::ih) l
def ZAw:List Nat:=[248,240,232,224,216,208,200,192,184,176,168,160,152,144,136,128,120,112,104,96,88,80,72,64,56,48,40,32,24,16,8,0]
def be8(n:Nat):List Nat:=[n / 2 ^ 56 % 256,n / 2 ^ 48 % 256,n / 2 ^ 40 % 256,n / 2 ^ 32 % 256,n / 2 ^ 24 % 256,n / 2 ^ 16 % 256,n / 2 ^ 8 % 256,n % 256]
def zs(n:Nat):Nat:=(119 - n % 64) % 64
def H0:Nat:=cat (cat (cat (cat (cat (cat (cat (cat 0 1779033703) 3144134277) 1013904242) 2773480762) 1359893119) 2600822924) 528734635) 1541459225
noncomputable def sha(l:List UInt8):List UInt8:=
 Zaa l.length λn=>Zaa (ZJj (Nat.div (yu n 72) 64) (l.map yak++(128::(yy (zs n) 0++be8 (8*n)))) H0) λH=>outs H ZAw
theorem QW(x y:UInt32):(x+y).toNat=lo (x.toNat+y.toNat):=by rw[UInt32.toNat_add];rfl
theorem Zmh(x y:UInt32):(x^^^y).toNat=Nat.xor x.toNat y.toNat:=UInt32.toNat_xor ..
theorem ZFG(x y:UInt32):(x&&&y).toNat=Nat.land x.toNat y.toNat:=UInt32.toNat_and ..
theorem ZwN(x y:UInt32):(x|||y).toNat=Nat.lor x.toNat y.toNat:=UInt32.toNat_or ..
theorem ZJk(x:UInt32):x.toNat < 4294967296:=x.toNat_lt
theorem Zu5(x:UInt32)(n:Nat):(Zd6 x n).toNat=yae x.toNat n:=by
 unfold Zd6;rw[UInt32.toNat_ofNat',show yae x.toNat n=x.toNat >>> n from rfl,ydc]
 exact yah (ycu (Nat.div_le_self _ _) (ZJk x))
theorem ZH2(x:Nat):lo x < 4294967296:=ybb _ (by omega)
theorem ZbY{x:Nat}(h:x < 4294967296):lo x=x:=yah h
theorem ZH3(x:UInt32){n k:Nat}(h:n+k=32)(hn:0 < n):(ZaS x k|||Zd6 x n).toNat=lo (yae (dbl x.toNat) n):=by
 rw[ZwN,Zu5];unfold ZaS;have hx:=ZJk x;generalize x.toNat=m at hx;have hp:2 ^ n*2 ^ k=4294967296:=by rw[←Nat.pow_add,h]
 rw[UInt32.toNat_ofNat',show yae m n=m >>> n from rfl,ydc,show yae (dbl m) n=(dbl m) >>> n from rfl,ydc]
 have e1:m*2 ^ k % 2 ^ 32=2 ^ k*(m % 2 ^ n):=by
  rw[show(2:Nat) ^ 32=2 ^ n*2 ^ k from hp.symm,Nat.mul_mod_mul_right]
  exact ybi ..
 have hd:m / 2 ^ n < 2 ^ k:=by
  rw[Nat.div_lt_iff_lt_mul (Nat.two_pow_pos n),ybi,hp];exact hx
 rw[e1,show Nat.lor (2 ^ k*(m % 2 ^ n)) (m / 2 ^ n)=2 ^ k*(m % 2 ^ n)|||m / 2 ^ n from rfl, ←ycy hd]
 have e2:dbl m=2 ^ n*(m*2 ^ k)+m:=by
  unfold dbl;rw[Nat.mul_left_comm,hp,show Nat.mul m 4294967297=m*4294967297 from rfl]
  omega
 rw[e2,Nat.mul_add_div (Nat.two_pow_pos n)];unfold lo;rw[show Nat.mod (m*2 ^ k+m / 2 ^ n) 4294967296=(m*2 ^ k+m / 2 ^ n) % 4294967296 from rfl,Nat.add_mod,show m*2 ^ k % 4294967296=2 ^ k*(m % 2 ^ n) from e1,yah (a:=m / 2 ^ n) (b:=4294967296) (by rw[←hp];exact Nat.lt_of_lt_of_le hd (Nat.le_mul_of_pos_left _ (Nat.two_pow_pos n)))]
 refine(yah ?_).symm;have hm:m % 2 ^ n < 2 ^ n:=ybb _ (Nat.two_pow_pos n)
 calc 2 ^ k*(m % 2 ^ n)+m / 2 ^ n < 2 ^ k*(m % 2 ^ n)+2 ^ k:=by omega
  _=2 ^ k*(m % 2 ^ n+1):=by rw[Nat.mul_add,Nat.mul_one]
  _≤2 ^ k*2 ^ n:=Nat.mul_le_mul_left _ hm
  _=4294967296:=by rw[ybi,hp]
theorem Zky(x y:Nat):lo (Nat.xor x y)=Nat.xor (lo x) (lo y):=Nat.xor_mod_two_pow (n:=32)
theorem ZFH(x:UInt32)(n:Nat):lo (yae x.toNat n)=yae x.toNat n:=by
 rw[←Zu5];exact ZbY (ZJk _)
theorem ZKi(x:UInt32){a b:UInt32}(ha:a.toNat=lo (yae (dbl x.toNat) 7))(hb:b.toNat=lo (yae (dbl x.toNat) 18)):((a^^^b)^^^Zd6 x 3).toNat=lo (s0 x.toNat):=by
 unfold s0;rw[Zmh,Zmh,Zu5,ha,hb,Zky,Zky,ZFH]
theorem ZKj(x:UInt32){a b:UInt32}(ha:a.toNat=lo (yae (dbl x.toNat) 17))(hb:b.toNat=lo (yae (dbl x.toNat) 19)):((a^^^b)^^^Zd6 x 10).toNat=lo (s1 x.toNat):=by
 unfold s1;rw[Zmh,Zmh,Zu5,ha,hb,Zky,Zky,ZFH]
theorem ZKk(x:UInt32){a b c:UInt32}(ha:a.toNat=lo (yae (dbl x.toNat) 2))(hb:b.toNat=lo (yae (dbl x.toNat) 13))(hc:c.toNat=lo (yae (dbl x.toNat) 22)):((a^^^b)^^^c).toNat=lo (S0 x.toNat):=by
 unfold S0;rw[Zmh,Zmh,ha,hb,hc,Zky,Zky]
theorem ZKl(x:UInt32){a b c:UInt32}(ha:a.toNat=lo (yae (dbl x.toNat) 6))(hb:b.toNat=lo (yae (dbl x.toNat) 11))(hc:c.toNat=lo (yae (dbl x.toNat) 25)):((a^^^b)^^^c).toNat=lo (S1 x.toNat):=by
 unfold S1;rw[Zmh,Zmh,ha,hb,hc,Zky,Zky]
theorem ZKm(e f g:UInt32):(g^^^(e&&&(f^^^g))).toNat=ch e.toNat f.toNat g.toNat:=by
 unfold ch;rw[Zmh,ZFG,Zmh]
theorem ZKn(a b c:UInt32):((a&&&b)|||(c&&&(a|||b))).toNat=mj a.toNat b.toNat c.toNat:=by
 unfold mj;rw[ZwN,ZFG,ZFG,ZwN]
theorem ZKo(a b c d:Nat):lo (lo (lo (a+lo b)+c)+lo d)=lo (a+b+c+d):=by
 show(((a+b % 4294967296) % 4294967296+c) % 4294967296+d % 4294967296) % 4294967296=(a+b+c+d) % 4294967296;omega
theorem ZKp(a b c d e:Nat):lo (lo (lo (lo (a+lo b)+c)+d)+e)=lo (yu (yu (yu (yu a b) c) d) e):=by
 show((((a+b % 4294967296) % 4294967296+c) % 4294967296+d) % 4294967296+e) % 4294967296=(a+b+c+d+e) % 4294967296;omega
theorem ZKq(t s m:Nat):lo (lo (lo t+lo s)+m)=lo (yu (yu t s) m):=by
 show((t % 4294967296+s % 4294967296) % 4294967296+m) % 4294967296=(t+s+m) % 4294967296;omega
theorem ZKr(d t:Nat):lo (d+lo t)=lo (yu d t):=by
 show(d+t % 4294967296) % 4294967296=(d+t) % 4294967296;omega
def pw(n:Nat)(l:List Nat):Nat:=l.foldl (λn x=>n*4294967296+x) n
theorem ZAx:∀(l:List Nat)(n:Nat),(∀x,x∈l→x < 4294967296)→pw n l / 2 ^ (32*l.length)=n
 |[],n,_=>by simp[pw]
 |x::r,n,h=>by
  have ih:=ZAx r (n*4294967296+x) (λy hy=>h y (yaw _ hy));have hx:=h x (yav ..);rw[show pw n (x::r)=pw (n*4294967296+x) r from rfl,yag,show 32*(r.length+1)=32*r.length+32 by omega,Nat.pow_add, ←Nat.div_div_eq_div_mul,ih]
  omega
theorem Zoh:∀(l:List Nat)(n:Nat),pw n l=n*2 ^ (32*l.length)+pw 0 l
 |[],n=>by simp[pw]
 |x::r,n=>by
  rw[show pw n (x::r)=pw (n*4294967296+x) r from rfl,show pw 0 (x::r)=pw (0*4294967296+x) r from rfl,Zoh r (n*4294967296+x),Zoh r (0*4294967296+x),yag,show 32*(r.length+1)=32+32*r.length by omega,Nat.pow_add,Nat.zero_mul,
   ybe,yay, ←Nat.mul_assoc,Nat.add_assoc]
theorem ZH4:∀(l:List Nat),(∀x,x∈l→x < 4294967296)→pw 0 l < 2 ^ (32*l.length)
 |[],_=>by simp[pw]
 |x::r,h=>by
  have ih:=ZH4 r (λy hy=>h y (yaw _ hy));have hx:=h x (yav ..);rw[show pw 0 (x::r)=pw (0*4294967296+x) r from rfl,Zoh,yag,show 32*(r.length+1)=32+32*r.length by omega,Nat.pow_add,Nat.zero_mul,ybe]
  have:(x+1)*2 ^ (32*r.length)≤2 ^ 32*2 ^ (32*r.length):=ybx _ (by omega);rw[yay,Nat.one_mul] at this;omega
theorem ZH5{n x s:Nat}{r:List Nat}(h:∀y,y∈r→y < 4294967296)(hs:s=32*r.length):yae (pw n (x::r)) s=n*4294967296+x:=by
 subst hs;rw[show yae (pw n (x::r)) (32*r.length)=pw n (x::r) >>> (32*r.length) from rfl,ydc]
 exact ZAx r (n*4294967296+x) h
theorem ZH6{n x s:Nat}{r:List Nat}(hx:x < 4294967296)(h:∀y,y∈r→y < 4294967296)(hs:s=32*r.length):lo (yae (pw n (x::r)) s)=x:=by
 rw[ZH5 h hs];show(n*4294967296+x) % 4294967296=x;omega
theorem ZAy(n:Nat)(l r:List Nat):pw n (l++r)=pw (pw n l) r:=List.foldl_append ..
theorem ZBN(n x:Nat)(r:List Nat):pw n (x::r)=pw (n*4294967296+x) r:=rfl
theorem ZgM{v l r:List Nat}{x s:Nat}(e:v=l++x::r)(h:∀y,y∈v→y < 4294967296)(hs:s=32*r.length):lo (yae (pw 0 v) s)=x:=by
 rw[e] at h ⊢;rw[ZAy];exact ZH6 (h x (by simp)) (λy hy=>h y (by simp[hy])) hs
def wd(ws:List Nat)(n:Nat):Nat:=if h:n < 16 then lo (ws.getD n 0) else lo (wd ws (n - 16)+s0 (wd ws (n - 15))+wd ws (n - 7)+s1 (wd ws (n - 2)))
termination_by n
decreasing_by all_goals omega
theorem ZKs(ws:List Nat)(n:Nat):wd ws n < 4294967296:=by
 rw[wd];split <;> exact ZH2 _
theorem ZwO(ws:List Nat)(n:Nat):wd ws (n+16)=lo (wd ws n+s0 (wd ws (n+1))+wd ws (n+9)+s1 (wd ws (n+14))):=by
 rw[wd,dif_neg (by omega)];simp only[Nat.add_sub_cancel,show n+16 - 15=n+1 by omega,show n+16 - 7=n+9 by omega,show n+16 - 2=n+14 by omega]
def win(ws:List Nat)(i:Nat):List Nat:=[wd ws i,wd ws (i+1),wd ws (i+2),wd ws (i+3),wd ws (i+4),wd ws (i+5),wd ws (i+6),wd ws (i+7),wd ws (i+8),wd ws (i+9),wd ws (i+10),wd ws (i+11),wd ws (i+12),wd ws (i+13),wd ws (i+14),wd ws (i+15)]
theorem ZAz{ws:List Nat}{i:Nat}{l:List Nat}(h:∀x,x∈l→∃j,x=wd ws j):∀x,x∈l→x < 4294967296:=λx hx=>by
 obtain⟨j,rfl⟩:=h x hx;exact ZKs _ _
theorem ZBO(ws:List Nat)(i:Nat):yae (pw 0 (win ws i)) 480=wd ws i:=by
 have h:=ZH5 (n:=0) (x:=wd ws i) (s:=480) (r:=(win ws i).tail) (ZAz (ws:=ws) (i:=i) (λx hx=>by
  simp only[win,List.tail_cons,ybg,yct,or_false] at hx;rcases hx with h|h|h|h|h|h|h|h|h|h|h|h|h|h|h <;> exact⟨_,h⟩)) rfl
 rw[Nat.zero_mul,ybe] at h;exact h
theorem ZJl(ws:List Nat)(i:Nat):kw (pw 0 (win ws i))=wd ws (i+16):=by
 have key:∀(l r:List Nat)(x s:Nat),win ws i=l++x::r→s=32*r.length→lo (yae (pw 0 (win ws i)) s)=x:=by
  intro l r x s e hs
  have hall:∀y,y∈win ws i→y < 4294967296:=ZAz (i:=i) λx hx=>by
   simp only[win,ybg,yct,or_false] at hx;rcases hx with h|h|h|h|h|h|h|h|h|h|h|h|h|h|h|h <;> exact⟨_,h⟩
  rw[e] at hall ⊢;rw[ZAy];exact ZH6 (hall x (by simp)) (λy hy=>hall y (by simp[hy])) hs
 unfold kw;rw[ZBO,key [_] _ (wd ws (i+1)) 448 rfl rfl,key [_,_,_,_,_,_,_,_,_] _ (wd ws (i+9)) 192 rfl rfl,key [_,_,_,_,_,_,_,_,_,_,_,_,_,_] _ (wd ws (i+14)) 32 rfl rfl,ZwO];rfl
theorem ZHw(a b m:Nat)(h:b < 2 ^ m):Nat.mod (a*2 ^ m+b) (Nat.pow 2 m)=b:=by
 show(a*2 ^ m+b) % 2 ^ m=b;rw[ybi,Nat.mul_add_mod];exact yah h
theorem ZJm(ws:List Nat)(i:Nat):kn (pw 0 (win ws i))=pw 0 (win ws (i+1)):=by
 have e:yu (Nat.mul (pw 0 (win ws i)) 4294967296) (kw (pw 0 (win ws i)))=pw (wd ws i) (win ws (i+1)):=by
  rw[ZJl];show pw 0 (win ws i)*4294967296+wd ws (i+16)=pw (wd ws i) (win ws (i+1));rw[show wd ws i=0*4294967296+wd ws i by omega];rfl
 unfold kn;rw[e,Zoh];have hl:(win ws (i+1)).length=16:=rfl
 have hlt:=ZH4 (win ws (i+1)) (ZAz (i:=i+1) λx hx=>by
  simp only[win,ybg,yct,or_false] at hx;rcases hx with h|h|h|h|h|h|h|h|h|h|h|h|h|h|h|h <;> exact⟨_,h⟩)
 rw[show 512=32*(win ws (i+1)).length by rw[hl]];exact ZHw _ _ _ hlt
def rnd(v:List Nat)(k w:Nat):List Nat:=match v with
 |[a,b,c,d,e,f,g,h]=>[lo (yu (yu (yu (yu (yu (yu h (S1 e)) (ch e f g)) k) w) (S0 a)) (mj a b c)),a,b,c,lo (yu d (yu (yu (yu (yu h (S1 e)) (ch e f g)) k) w)),e,f,g]
 |_=>[]
def rs(ws v:List Nat):Nat→List Nat
 |0=>v
 |i+1=>rnd (rs ws v i) (ks.getD i 0) (wd ws i)
theorem ZHx{v:List Nat}(h:v.length=8)(k w:Nat):(rnd v k w).length=8:=by
 match v,h with
 |[a,b,c,d,e,f,g,h],_=>rfl
theorem ZwP{ws v:List Nat}(h:v.length=8):∀i,(rs ws v i).length=8
 |0=>h
 |i+1=>ZHx (ZwP h i) _ _
noncomputable def ZFI(f:Nat→Nat→Nat→Nat→Nat→Nat→Nat→Nat→Nat)(v:List Nat):Nat:=match v with
 |[a,b,c,d,e,f',g,h]=>f a b c d e f' g h
 |_=>0
theorem Zlu{F:Nat→Nat→Nat→Nat→Nat→Nat→Nat→Nat→Nat}{a b c d e f g h:Nat}:ZFI F [a,b,c,d,e,f,g,h]=F a b c d e f g h:=rfl
theorem ZFJ(k:Nat)(l:List Nat)(K:Nat→Nat→Nat→Nat→Nat→Nat→Nat→Nat→Nat):kgo (k::l) K=kst k (kgo l K):=rfl
theorem ZsY(a b c d e f g h k w:Nat):rnd [a,b,c,d,e,f,g,h] k w=[lo (yu (yu (yu (yu (yu (yu h (S1 e)) (ch e f g)) k) w) (S0 a)) (mj a b c)),a,b,c,lo (yu d (yu (yu (yu (yu h (S1 e)) (ch e f g)) k) w)),e,f,g]:=rfl
theorem ZJn(k:Nat)(ih:Nat→Nat→Nat→Nat→Nat→Nat→Nat→Nat→Nat→Nat)(W a b c d e f g h:Nat):kst k ih W a b c d e f g h=
 ih (kn W) (lo (yu (yu (yu (yu (yu (yu h (S1 e)) (ch e f g)) k) (yae W 480)) (S0 a)) (mj a b c))) a b c (lo (yu d (yu (yu (yu (yu h (S1 e)) (ch e f g)) k) (yae W 480)))) e f g:=by
 unfold kst;rw[XP,XP,XP,XP]
theorem ZFK{ws v:List Nat}{K:Nat→Nat→Nat→Nat→Nat→Nat→Nat→Nat→Nat}{k w:Nat}{l:List Nat}(hv:v.length=8){W:Nat}(hW:yae W 480=w):ZFI (kgo (k::l) K W) v=ZFI (kgo l K (kn W)) (rnd v k w):=by
 match v,hv with
 |[a,b,c,d,e,f,g,h],_=>
  rw[ZFJ,Zlu,ZJn,hW,ZsY,Zlu]
theorem ZBP{ws v:List Nat}{K:Nat→Nat→Nat→Nat→Nat→Nat→Nat→Nat→Nat}(hv:v.length=8):∀(m i:Nat),i+m=64→ZFI (kgo (ks.drop i) K (pw 0 (win ws i))) (rs ws v i)=ZFI K (rs ws v 64)
 |0,i,h=>by
  have e:i=64:=by omega
  subst e;rw[show ks.drop 64=[] from rfl]
  generalize pw 0 (win ws 64)=W
  rfl
 |m+1,i,h=>by
  have hi:i < ks.length:=by show i < 64;omega
  rw[List.drop_eq_getElem_cons hi,ZFK (ws:=ws) (ZwP hv i) (ZBO ws i),ZJm];have:=ZBP (ws:=ws) (K:=K) hv m (i+1) (by omega);rw[show rs ws v (i+1)=rnd (rs ws v i) (ks.getD i 0) (wd ws i) from rfl,show ks.getD i 0=ks[i] by rw[ycx,yac hi];rfl] at this
  exact this
def ZiB(v ws:List Nat):List Nat:=List.zipWith (λx y=>lo (x+y)) (rs ws v 64) v
theorem ZfJ{v ws:List Nat}(h:v.length=8):(ZiB v ws).length=8:=by
 rw[ZiB,List.length_zipWith,ZwP h,h];rfl
theorem ZBQ{v ws:List Nat}:∀x,x∈ZiB v ws→x < 4294967296:=by
 intro x hx;unfold ZiB at hx;rw[List.mem_iff_getElem] at hx;obtain⟨i,hi,rfl⟩:=hx;rw[List.getElem_zipWith];exact ZH2 _
theorem ZHy{v ws:List Nat}(hv:v.length=8)(hlt:∀x,x∈v→x < 4294967296)(hw:ws.length=16)(hwl:∀x,x∈ws→x < 4294967296):ZHv (pw 0 v) (pw 0 ws)=pw 0 (ZiB v ws):=by
 have e0:ws=win ws 0:=by
  match ws,hw with
  |[a0,a1,a2,a3,a4,a5,a6,a7,a8,a9,a10,a11,a12,a13,a14,a15],_=>
   simp only[ybg,yct,or_false,forall_eq_or_imp,forall_eq] at hwl;obtain⟨h0,h1,h2,h3,h4,h5,h6,h7,h8,h9,h10,h11,h12,h13,h14,h15⟩:=hwl;have hs:∀n,n < 16→wd [a0,a1,a2,a3,a4,a5,a6,a7,a8,a9,a10,a11,a12,a13,a14,a15] n=lo ([a0,a1,a2,a3,a4,a5,a6,a7,a8,a9,a10,a11,a12,a13,a14,a15].getD n 0):=λn hn=>by rw[wd,dif_pos hn]
   unfold win;rw[hs 0 (by omega),hs (0+1) (by omega),hs (0+2) (by omega),hs (0+3) (by omega),hs (0+4) (by omega),hs (0+5) (by omega),hs (0+6) (by omega),hs (0+7) (by omega),hs (0+8) (by omega),hs (0+9) (by omega),hs (0+10) (by omega),hs (0+11) (by omega),hs (0+12) (by omega),hs (0+13) (by omega),hs (0+14) (by omega),hs (0+15) (by omega)];show _=[lo a0,lo a1,lo a2,lo a3,lo a4,lo a5,lo a6,lo a7,lo a8,lo a9,lo a10,lo a11,lo a12,lo a13,lo a14,lo a15];rw[ZbY h0,ZbY h1,ZbY h2,ZbY h3,ZbY h4,ZbY h5,ZbY h6,ZbY h7,ZbY h8,ZbY h9,ZbY h10,ZbY h11,ZbY h12,ZbY h13,ZbY h14,ZbY h15]
 match v,hv with
 |[a,b,c,d,e,f,g,h],hv=>
  have ea:w32 (pw 0 [a,b,c,d,e,f,g,h]) 224=a:=ZgM (l:=[]) (r:=[b,c,d,e,f,g,h]) rfl hlt rfl;have eb:w32 (pw 0 [a,b,c,d,e,f,g,h]) 192=b:=ZgM (l:=[a]) (r:=[c,d,e,f,g,h]) rfl hlt rfl;have ec:w32 (pw 0 [a,b,c,d,e,f,g,h]) 160=c:=ZgM (l:=[a,b]) (r:=[d,e,f,g,h]) rfl hlt rfl;have ed:w32 (pw 0 [a,b,c,d,e,f,g,h]) 128=d:=ZgM (l:=[a,b,c]) (r:=[e,f,g,h]) rfl hlt rfl;have ee:w32 (pw 0 [a,b,c,d,e,f,g,h]) 96=e:=ZgM (l:=[a,b,c,d]) (r:=[f,g,h]) rfl hlt rfl;have ef:w32 (pw 0 [a,b,c,d,e,f,g,h]) 64=f:=ZgM (l:=[a,b,c,d,e]) (r:=[g,h]) rfl hlt rfl;have eg:w32 (pw 0 [a,b,c,d,e,f,g,h]) 32=g:=ZgM (l:=[a,b,c,d,e,f]) (r:=[h]) rfl hlt rfl;have eh:w32 (pw 0 [a,b,c,d,e,f,g,h]) 0=h:=ZgM (l:=[a,b,c,d,e,f,g]) (r:=[]) rfl hlt rfl;unfold ZHv;rw[ea,eb,ec,ed,ee,ef,eg,eh,XP,XP,XP,XP,XP,XP,XP,XP];have hr:=ZBP (ws:=ws) (v:=[a,b,c,d,e,f,g,h]) (K:=λa' b' c' d' e' f' g' h'=>cat (cat (cat (cat (cat (cat (cat (cat 0 (yu a' a)) (yu b' b)) (yu c' c)) (yu d' d)) (yu e' e)) (yu f' f)) (yu g' g)) (yu h' h)) rfl 64 0 rfl;rw[←e0,show ks.drop 0=ks from rfl,show rs ws [a,b,c,d,e,f,g,h] 0=[a,b,c,d,e,f,g,h] from rfl,Zlu] at hr
  rw[hr];unfold ZiB;generalize rs ws [a,b,c,d,e,f,g,h] 64=q,ZwP (ws:=ws) hv 64=hq
  match q,hq with
  |[a',b',c',d',e',f',g',h'],_=>
   rw[Zlu];simp only[List.zipWith_cons_cons,List.zipWith_nil_right,ZBN,cat];rfl
theorem Zrg(x:Nat)(l:List Nat)(n:Nat):pk (x::l) n=pk l (n*256+x):=by
 show Zaa (yu (Nat.mul n 256) x) (pk l)=_;rw[XP];rfl
def Yg:List Nat→List Nat
 |a::b::c::d::r=>(((a*256+b)*256+c)*256+d)::Yg r
 |_=>[]
theorem ZyJ:∀(m:Nat)(l:List Nat)(n:Nat),l.length=4*m→pk l n=pw n (Yg l)
 |0,[],n,_=>rfl
 |0,_::_,_,h=>by simp at h
 |m+1,[],_,h=>by simp at h
 |m+1,[_],_,h=>by simp at h;omega
 |m+1,[_,_],_,h=>by simp at h;omega
 |m+1,[_,_,_],_,h=>by simp at h;omega
 |m+1,a::b::c::d::r,n,h=>by
  rw[Zrg,Zrg,Zrg,Zrg,Yg];rw[ZyJ m r _ (by simp at h;omega),ZBN];have e:(((n*256+a)*256+b)*256+c)*256+d=n*4294967296+(((a*256+b)*256+c)*256+d):=by omega
  rw[e]
theorem Zqf:∀(m:Nat)(l:List Nat),l.length=4*m→(Yg l).length=m
 |0,[],_=>rfl
 |0,_::_,h=>by simp at h
 |m+1,[],h=>by simp at h
 |m+1,[_],h=>by simp at h;omega
 |m+1,[_,_],h=>by simp at h;omega
 |m+1,[_,_,_],h=>by simp at h;omega
 |m+1,a::b::c::d::r,h=>by
  rw[Yg,yag,Zqf m r (by simp at h;omega)]
theorem ZsZ:∀(m:Nat)(l:List Nat),l.length=4*m→(∀x,x∈l→x < 256)→∀x,x∈Yg l→x < 4294967296
 |0,[],_,_,x,hx=>by simp[Yg] at hx
 |0,_::_,h,_,_,_=>by simp at h
 |m+1,[],h,_,_,_=>by simp at h
 |m+1,[_],h,_,_,_=>by simp at h;omega
 |m+1,[_,_],h,_,_,_=>by simp at h;omega
 |m+1,[_,_,_],h,_,_,_=>by simp at h;omega
 |m+1,a::b::c::d::r,h,hl,x,hx=>by
  rw[Yg] at hx;have h1:=hl a (by simp);have h2:=hl b (by simp);have h3:=hl c (by simp);have h4:=hl d (by simp);rcases ybg.1 hx with rfl|hx
  ·omega
  ·exact ZsZ m r (by simp at h;omega) (λy hy=>hl y (by simp[hy])) x hx
theorem Zkz:∀(i:Nat)(l:List Nat)(a b c d:Nat),l[4*i]? =some a→l[4*i+1]? =some b→l[4*i+2]? =some c→l[4*i+3]? =some d→(Yg l)[i]? =some (((a*256+b)*256+c)*256+d)
 |0,[],_,_,_,_,h,_,_,_=>by simp at h
 |0,[_],_,_,_,_,_,h,_,_=>by simp at h
 |0,[_,_],_,_,_,_,_,_,h,_=>by simp at h
 |0,[_,_,_],_,_,_,_,_,_,_,h=>by simp at h
 |0,a::b::c::d::r,_,_,_,_,h1,h2,h3,h4=>by
  simp at h1 h2 h3 h4;subst h1 h2 h3 h4
  rfl
 |i+1,[],_,_,_,_,h,_,_,_=>by simp at h
 |i+1,[_],_,_,_,_,h,_,_,_=>by simp[show 4*(i+1)=4*i+3+1 by omega] at h
 |i+1,[_,_],_,_,_,_,h,_,_,_=>by simp[show 4*(i+1)=4*i+2+1+1 by omega] at h
 |i+1,[_,_,_],_,_,_,_,h,_,_,_=>by simp[show 4*(i+1)=4*i+1+1+1+1 by omega] at h
 |i+1,a::b::c::d::r,_,_,_,_,h1,h2,h3,h4=>by
  rw[Yg,yap]
  exact Zkz i r _ _ _ _ (by simpa[show 4*(i+1)=4*i+1+1+1+1 by omega] using h1) (by simpa[show 4*(i+1)+1=4*i+1+1+1+1+1 by omega] using h2)
   (by simpa[show 4*(i+1)+2=4*i+2+1+1+1+1 by omega] using h3) (by simpa[show 4*(i+1)+3=4*i+3+1+1+1+1 by omega] using h4)
def ZfK:Nat→List Nat→List Nat→List Nat
 |0,_,v=>v
 |n+1,l,v=>ZfK n (l.drop 64) (ZiB v (Yg (l.take 64)))
theorem ZBR:∀(n:Nat)(l v:List Nat),l.length=64*n→(∀x,x∈l→x < 256)→v.length=8→(∀x,x∈v→x < 4294967296)→ZJj n l (pw 0 v)=pw 0 (ZfK n l v)
 |0,l,v,_,_,_,_=>rfl
 |n+1,l,v,h1,h2,h3,h4=>by
  show Zaa (ZHv (pw 0 v) (pk (l.take 64) 0)) (ZJj n (l.drop 64))=_;have hl:(l.take 64).length=4*16:=by rw[List.length_take];omega
  rw[XP,ZyJ 16 _ 0 hl,ZHy h3 h4 (Zqf 16 _ hl) (ZsZ 16 _ hl λx hx=>h2 x (List.mem_of_mem_take hx))];exact ZBR n (l.drop 64) _ (by rw[List.length_drop];omega) (λx hx=>h2 x (List.mem_of_mem_drop hx)) (ZfJ h3) ZBQ
theorem ZyK:∀(n:Nat)(l v:List Nat),v.length=8→(ZfK n l v).length=8
 |0,_,_,h=>h
 |n+1,l,v,h=>ZyK n _ _ (ZfJ h)
theorem ZBS:∀(n:Nat)(l v:List Nat),(∀x,x∈v→x < 4294967296)→∀x,x∈ZfK n l v→x < 4294967296
 |0,_,_,h=>h
 |n+1,l,v,h=>ZBS n _ _ ZBQ
theorem Zs0:∀(n m:Nat)(l r v:List Nat),l.length=64*n→ZfK (n+m) (l++r) v=ZfK m r (ZfK n l v)
 |0,m,l,r,v,h=>by
  have:l=[]:=List.length_eq_zero_iff.1 (by omega);subst this;rw[ybe]
  rfl
 |n+1,m,l,r,v,h=>by
  rw[show n+1+m=(n+m)+1 by omega,ZfK,List.drop_append_of_le_length (by omega),List.take_append_of_le_length (by omega),Zs0 n m _ r _ (by rw[List.length_drop];omega)];rfl
theorem Zlv:∀(c:Nat)(l v:List Nat),ZfK (c+1) l v=ZiB (ZfK c l v) (Yg ((l.drop (64*c)).take 64))
 |0,l,v=>by rw[Nat.mul_zero,List.drop_zero];rfl
 |c+1,l,v=>by
  rw[show ZfK (c+1+1) l v=ZfK (c+1) (l.drop 64) (ZiB v (Yg (l.take 64))) from rfl,Zlv c,List.drop_drop,show 64+64*c=64*(c+1) by omega]
  rfl
theorem ZyL(ws:List Nat){n x:Nat}(hn:n < 16)(h:ws[n]? =some x)(hx:x < 4294967296):wd ws n=x:=by
 rw[wd,dif_pos hn,ycx,h];exact ZbY hx
def ZFL(v:List Nat)(k:Nat):UInt8:=yau (v.getD (k / 4) 0 / 2 ^ (24 - 8*(k % 4)))
theorem ZHz{v:List Nat}(hv:v.length=8)(hlt:∀x,x∈v→x < 4294967296):outs (pw 0 v) ZAw=(yw 32).map (ZFL v):=by
 have hgo:∀(H:Nat)(l:List Nat),outs H l=l.map λs=>yau (H / 2 ^ s % 256):=by
  intro H l
  induction l with
  |nil=>rfl
  |cons s r ih=>
   show Zaa (Nat.mod (yae H s) 256) (λx=>yau x::outs H r)=_;rw[XP,ih,yaf,show yae H s=H >>> s from rfl,ydc]
   rfl
 have hb:∀(l r:List Nat)(x j s:Nat),v=l++x::r→j≤24→s=32*r.length+j→yau (pw 0 v / 2 ^ s % 256)=yau (x / 2 ^ j):=by
  intro l r x j s e hj hs;have hall:=hlt;rw[e] at hall
  have h1:pw 0 v / 2 ^ (32*r.length)=pw 0 l*4294967296+x:=by
   rw[e,ZAy];exact ZAx r _ (λy hy=>hall y (by simp[hy]))
  rw[hs,Nat.pow_add, ←Nat.div_div_eq_div_mul,h1]
  have h2:pw 0 l*4294967296+x=2 ^ j*(pw 0 l*2 ^ (24 - j)*256)+x:=by
   rw[show(4294967296:Nat)=2 ^ j*2 ^ (24 - j)*256 by rw[←Nat.pow_add,show j+(24 - j)=24 by omega]];congr 1;ac_rfl
  rw[h2,Nat.mul_add_div (Nat.two_pow_pos j),ybi (pw 0 l*2 ^ (24 - j)) 256,Nat.mul_add_mod];exact UInt8.toNat_inj.1 (by simp)
 match v,hv with
 |[a,b,c,d,e,f,g,h],_=>
  rw[hgo];simp only[ZAw,yaf,List.map_nil]
  rw[hb [] [b,c,d,e,f,g,h] a 24 248 rfl (by omega) rfl,hb [] [b,c,d,e,f,g,h] a 16 240 rfl (by omega) rfl,hb [] [b,c,d,e,f,g,h] a 8 232 rfl (by omega) rfl,hb [] [b,c,d,e,f,g,h] a 0 224 rfl (by omega) rfl,
   hb [a] [c,d,e,f,g,h] b 24 216 rfl (by omega) rfl,hb [a] [c,d,e,f,g,h] b 16 208 rfl (by omega) rfl,hb [a] [c,d,e,f,g,h] b 8 200 rfl (by omega) rfl,hb [a] [c,d,e,f,g,h] b 0 192 rfl (by omega) rfl,
   hb [a,b] [d,e,f,g,h] c 24 184 rfl (by omega) rfl,hb [a,b] [d,e,f,g,h] c 16 176 rfl (by omega) rfl,hb [a,b] [d,e,f,g,h] c 8 168 rfl (by omega) rfl,hb [a,b] [d,e,f,g,h] c 0 160 rfl (by omega) rfl,
   hb [a,b,c] [e,f,g,h] d 24 152 rfl (by omega) rfl,hb [a,b,c] [e,f,g,h] d 16 144 rfl (by omega) rfl,hb [a,b,c] [e,f,g,h] d 8 136 rfl (by omega) rfl,hb [a,b,c] [e,f,g,h] d 0 128 rfl (by omega) rfl,
   hb [a,b,c,d] [f,g,h] e 24 120 rfl (by omega) rfl,hb [a,b,c,d] [f,g,h] e 16 112 rfl (by omega) rfl,hb [a,b,c,d] [f,g,h] e 8 104 rfl (by omega) rfl,hb [a,b,c,d] [f,g,h] e 0 96 rfl (by omega) rfl,
   hb [a,b,c,d,e] [g,h] f 24 88 rfl (by omega) rfl,hb [a,b,c,d,e] [g,h] f 16 80 rfl (by omega) rfl,hb [a,b,c,d,e] [g,h] f 8 72 rfl (by omega) rfl,hb [a,b,c,d,e] [g,h] f 0 64 rfl (by omega) rfl,
   hb [a,b,c,d,e,f] [h] g 24 56 rfl (by omega) rfl,hb [a,b,c,d,e,f] [h] g 16 48 rfl (by omega) rfl,hb [a,b,c,d,e,f] [h] g 8 40 rfl (by omega) rfl,hb [a,b,c,d,e,f] [h] g 0 32 rfl (by omega) rfl,
   hb [a,b,c,d,e,f,g] [] h 24 24 rfl (by omega) rfl,hb [a,b,c,d,e,f,g] [] h 16 16 rfl (by omega) rfl,hb [a,b,c,d,e,f,g] [] h 8 8 rfl (by omega) rfl,hb [a,b,c,d,e,f,g] [] h 0 0 rfl (by omega) rfl]
  rfl
def ZfL(l:List UInt8):List Nat:=l.map yak++(128::(yy (zs l.length) 0++be8 (8*l.length)))
def Zcv:List Nat:=[1779033703,3144134277,1013904242,2773480762,1359893119,2600822924,528734635,1541459225]
theorem Zs1(l:List UInt8):(ZfL l).length=64*((l.length+72) / 64):=by
 unfold ZfL;simp only[yp,yz,yag,ycp,be8,List.length_nil,zs];omega
theorem ZDf(l:List UInt8):∀x,x∈ZfL l→x < 256:=by
 intro x hx;unfold ZfL at hx;simp only[List.mem_append,List.mem_map,ybg,List.mem_replicate,be8,yct,or_false] at hx;rcases hx with⟨y,_,rfl⟩|rfl|⟨_,rfl⟩|h
 ·exact y.toNat_lt
 ·omega
 ·omega
 ·rcases h with h|h|h|h|h|h|h|h <;> rw[h] <;> exact ybb _ (by omega)
theorem ZAA(l:List UInt8):sha l=(yw 32).map (ZFL (ZfK ((l.length+72) / 64) (ZfL l) Zcv)):=by
 unfold sha
 rw[XP,XP,show H0=pw 0 Zcv from rfl,show l.map yak++(128::(yy (zs l.length) 0++be8 (8*l.length)))=ZfL l from rfl,
  show Nat.div (yu l.length 72) 64=(l.length+72) / 64 from rfl]
 have hf:∀x,x∈Zcv→x < 4294967296:=by decide
 rw[ZBR _ _ _ (Zs1 l) (ZDf l) rfl hf];exact ZHz (ZyK _ _ _ rfl) (ZBS _ _ _ hf)
theorem ZLb(l:List UInt8):(sha l).length=32:=by rw[ZAA];simp
end Go.Sha
end
