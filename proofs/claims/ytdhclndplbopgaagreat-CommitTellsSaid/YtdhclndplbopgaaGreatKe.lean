/- Parts of the proof, in one file. -/
import Derived.Test.YtdhclndplbopgaaGreatKd
open Bool renaming and_eq_true → yj
open Go renaming TypeId → yc, Program → yg, Value → yh, FuncId → yu
open Go.Proofs.Tryz renaming prog → yb
open List renaming length_append → yo, getElem?_eq_some_iff → yq, range → yv, replicate → yx, length_map → yy, getElem?_eq_getElem → yab, append_assoc → yad, mem_cons → yae, map_cons → yag, mem_append → yah, length_take → yai, length_cons → yaj, getElem?_map → yal, not_mem_nil → yap, getElem?_eq_none → yaq, getElem?_append_left → yar, map_append → yas, getElem?_append_right → yat, mem_singleton → yav, mem_cons_self → yaw, getElem?_cons_succ → yax, mem_cons_of_mem → yay, append_nil → yaz, getElem?_cons_zero → ybb, map_map → ybe, take_append_drop → ybm, length_set → ybq, length_drop → ybu, map_take → ycd, map_nil → yce, map_congr_left → ycn, length_replicate → yct, getElem?_set_self → ycv, getD_eq_getElem?_getD → ycx
open Nat renaming le_refl → ym, add → yr, shiftRight → yaf, mod_eq_of_lt → yak, add_mul → yba, zero_add → ybh, mod_lt → ybj, mul_comm → ybo, eq_zero_or_pos → ycf, mul_le_mul_right → yci, lt_of_le_of_lt → ycw, two_pow_add_eq_or_of_lt → ycz, shiftRight_eq_div_pow → ydb
open Option renaming bind_some → ya, bind_eq_some_iff → yf, map_eq_some_iff → yp, map_some → yaa
open Option.some renaming inj → ybn
open UInt32 renaming toNat → yan, ofNat → ybs, toNat_ofNat' → ycs
open UInt64 renaming ofNat → yac, toNat_ofNat' → ybd, toNat_lt → ybt, lt_iff_toNat_lt → yca, toNat_inj → ycl, le_iff_toNat_le → ycu
open UInt8 renaming toNat → yam, ofNat → ybc
set_option linter.unusedVariables false
set_option linter.unusedSimpArgs false
section
namespace Go.Ev
def Zb{I X:Type}(step:I->yO (I⊕X)):Nat->I->yO X
 |0,_=>none
 |n+1,i=>(step i).bind λr=>match r with
  |.inl j=>Zb step n j
  |.inr x=>some x
theorem ZLS:∃n:Nat,n=18446744073709551616:=⟨_,rfl⟩
noncomputable def yD:Nat:=Classical.choose ZLS
theorem ZgL:yD=18446744073709551616:=Classical.choose_spec ZLS
section
variable{P:yg}
def ZOi(n0:Nat)(ex:Ex)(a:yL TD)(h:yL TEnt):(l:yL XSh)->yO (XSh.sum l)
 |[]=>none
 |[e]=>if ex=e.ex then(ZCw n0 e.sl e.es a h).bind λvs=>toD e.ty vs else none
 |e::f::r=>match (if ex=e.ex then(ZCw n0 e.sl e.es a h).bind λvs=>toD e.ty vs else none) with
  |some x=>some (Sum.inl x:Ty.dens e.ty⊕XSh.sum (f::r))
  |none=>(ZOi n0 ex a h (f::r)).map λx=>(Sum.inr x:Ty.dens e.ty⊕XSh.sum (f::r))
theorem ZAZ{n0:Nat}{ex:Ex}{a:yL TD}{h:yL TEnt}:∀{l:yL XSh}{o:XSh.sum l},ZOi n0 ex a h l=some o->∀e vs,ZEK l o e vs->ex=e.ex/\ZCw n0 e.sl e.es a h=some vs
 |[],_,k,_,_,_=>by cases k
 |[e],o,k,x,vs,hs=>by
  obtain⟨rfl,rfl⟩:=hs;have k:(if ex=x.ex then(ZCw n0 x.sl x.es a h).bind λvs=>toD x.ty vs else none)=some o:=k
  split at k
  ·rename_i he;obtain⟨ws,h1,h2⟩:=yf.1 k;exact⟨he,by rw[h1,Zev _ _ _ h2]⟩
  ·cases k
 |e::f::r,o,k,x,vs,hs=>by
  simp only[ZOi] at k;split at k
  ·rename_i y hy;cases k;obtain⟨rfl,rfl⟩:=hs;split at hy
   ·rename_i he;obtain⟨ws,h1,h2⟩:=yf.1 hy;exact⟨he,by rw[h1,Zev _ _ _ h2]⟩
   ·cases hy
  ·obtain⟨y,h1,h2⟩:=Zd k;subst h2;exact ZAZ h1 x vs hs
def ZA0(P:yg)(fi:FI)(specs:Sp P)(body:Code)(n N:Nat)(sl:Slots)(es:yL ESh)(I:yL Ty)(xs:yL XSh):Ty.dens I->yO (Ty.dens I⊕XSh.sum xs):=λv=>
 (Zba N sl es (ofD I v)).bind λs=>evT P fi specs body (n+1) 0 s.1 s.2 λex a h=>match ex with
   |.normal=>(ZCw s.2.length sl es a h).bind λvs=>(toD I vs).map .inl
   |ex=>(ZOi s.2.length ex a h xs).map .inr
theorem ZLT{fi:FI}{specs:Sp P}{body:Code}{n N:Nat}{sl:Slots}{es:yL ESh}{I:yL Ty}{xs:yL XSh}(ok:SpOk specs)(hl:Zqz P fi N body (n+1))(hb0:Zmw P fi N body 0):
 ∀(f:Nat)(v:Ty.dens I)(o:XSh.sum xs),Zb (ZA0 P fi specs body n N sl es I xs) f v=some o->∀s,Zba N sl es (ofD I v)=some s->∀e vs s',ZEK xs o e vs->Zba N e.sl e.es vs=some s'->
  ZAy P body (TD.ers (lk s.2) s.1) (erH s.2) e.ex (TD.ers (lk s'.2) s'.1) (erH s'.2)
 |0,_,_,h,_,_,_,_,_,_,_=>by cases h
 |f+1,v,o,h,s,hs,e,vs,s',hx,hs'=>by
  unfold Zb at h;obtain⟨r,h1,h2⟩:=yf.1 h;unfold ZA0 at h1;rw[hs,ya] at h1;obtain⟨ex,a,h3,k1,k2,k3⟩:=VF ok body _ _ _ _ _ (Zpy hs) hl hb0 h1;split at k1
  ·obtain⟨ws,g1,k1⟩:=yf.1 k1;obtain⟨w,g2,rfl⟩:=Zd k1;obtain⟨a3,h4,g3,g4⟩:=ZAW (P:=P) g1;rw[k2] at g3;have r1:=g4 (ZS _) k3;have:=ZLT ok hl hb0 f w o h2 (a3,h4) (by rw[Zev _ _ _ g2];exact g3) e vs s' hx hs';exact ZAA [] r1 this
  ·rename_i hne;obtain⟨w,g2,rfl⟩:=Zd k1;cases h2;obtain⟨g5,g6⟩:=ZAZ g2 e vs hx;obtain⟨a3,h4,g3,g4⟩:=ZAW (P:=P) g6;rw[k2,hs'] at g3;cases g3;subst g5;exact ZAz hne (g4 (ZS _) k3)
theorem ZRh{fi:FI}{specs:Sp P}{body:Code}{n N:Nat}{sl:Slots}{es:yL ESh}{I:yL Ty}{xs:yL XSh}{step:Ty.dens I->yO (Ty.dens I⊕XSh.sum xs)}(f:Nat)(ok:SpOk specs)(hl:Zqz P fi N body (n+1))(hb0:Zmw P fi N body 0)
 (h:∀v,ZA0 P fi specs body n N sl es I xs v=step v):Lp.Ok P N body ⟨sl,es,I,xs,Zb step f⟩:=by
 intro v o hL s hs e vs s' hx hs';have e1:ZA0 P fi specs body n N sl es I xs=step:=funext h;subst e1;exact ZAB (ZLT ok hl hb0 f v o hL s hs e vs s' hx hs')
theorem ZeV:∀(c:Code)(k:Nat)(b:Code),(ZK c)[k]? =some (.loop b)->∀j x,(ZK b)[j]? =some x->(ZK c)[k+1+j]? =some x
 |.seq x y,k,b,h,j,z,hz=>by
  simp only[ZK] at h ⊢;rcases Nat.lt_or_ge k (ZK x).length with hl|hl
  ·rw[yar hl] at h;have:=ZeV x k b h j z hz;rw[yar (yq.1 this).1];exact this
  ·rw[yat hl] at h;have:=ZeV y _ b h j z hz;rw[yat (by omega)];rw[show k+1+j - (ZK x).length=k - (ZK x).length+1+j by omega]
   exact this
 |.cond _ x y,k,b,h,j,z,hz=>by
  simp only[ZK] at h ⊢;rcases Nat.lt_or_ge k (ZK x).length with hl|hl
  ·rw[yar hl] at h;have:=ZeV x k b h j z hz;rw[yar (yq.1 this).1];exact this
  ·rw[yat hl] at h;have:=ZeV y _ b h j z hz;rw[yat (by omega)];rw[show k+1+j - (ZK x).length=k - (ZK x).length+1+j by omega]
   exact this
 |.block _ a,k,b,h,j,z,hz=>ZeV a k b h j z hz
 |.scope a,k,b,h,j,z,hz=>ZeV a k b h j z hz
 |.loop a,k,b,h,j,z,hz=>by
  simp only[ZK] at h ⊢
  cases k with
  |zero=>
   simp only[ybb,Option.some.injEq,Code.loop.injEq] at h;subst h;rw[show 0+1+j=j+1 by omega,yax]
   exact hz
  |succ k=>
   rw[yax] at h;rw[show k+1+1+j=(k+1+j)+1 by omega,yax]
   exact ZeV a k b h j z hz
 |.skip,_,_,h,_,_,_=>by simp[ZK] at h
 |.region _ _ _,_,_,h,_,_,_=>by simp[ZK] at h
 |.rangeFunc _ _ _ _,_,_,h,_,_,_=>by simp[ZK] at h
 |.exit _,_,_,h,_,_,_=>by simp[ZK] at h
 |.ret,_,_,h,_,_,_=>by simp[ZK] at h
 |.label _,_,_,h,_,_,_=>by simp[ZK] at h
 |.goto _,_,_,h,_,_,_=>by simp[ZK] at h
 |.refuse _,_,_,h,_,_,_=>by simp[ZK] at h
def Zsw(P:yg)(g:yu)(N:Nat):yL (Nat×Lp)->Prop
 |[]=>True
 |q::r=>q.2.Ok P N (Zd6 P g q.1)/\Zsw P g N r
theorem ZtS{g:yu}{N:Nat}:∀{l:yL (Nat×Lp)}{n:Nat}{lp:Lp},Zsw P g N l->(n,lp)∈l->lp.Ok P N (Zd6 P g n)
 |[],_,_,_,h=>by cases h
 |q::r,n,lp,hk,h=>by
  rcases yae.1 h with h|h
  ·subst h;exact hk.1
  ·exact ZtS hk.2 h
def ZfQ(P:yg)(g:yu):Code:=
 match P.funcs[g]? with
 |some fn=>fn.body.getD .skip
 |none=>.skip
theorem ZtT{g:yu}{k:Nat}{b:Code}(h:(ZK (ZfQ P g))[k]? =some (.loop b)):Zd6 P g k=b:=by
 unfold Zd6 ZKR;unfold ZfQ at h;split at h
 ·rename_i fn hf;rw[hf];dsimp only
  cases hb:fn.body with
  |none=>rw[hb] at h;simp[ZK] at h
  |some c=>
   rw[hb] at h;dsimp only[Option.getD] at h ⊢;rw[ycx,h];rfl
 ·simp[ZK] at h
theorem ZIu{g:yu}{fi:FI}{N:Nat}(h:Zsw P g N fi.lp):Zqz P fi N (ZfQ P g) 0:=by
 intro k b hk lp hl;rw[ybh] at hl;rw[<-ZtT hk];exact ZtS h hl
theorem ZLU{g:yu}{fi:FI}{N k:Nat}(hk:(ZK (ZfQ P g))[k]? =some (.loop (Zd6 P g k)))(h:Zsw P g N fi.lp):Zqz P fi N (Zd6 P g k) (k+1):=by
 intro j b hj lp hl;have:=ZeV _ _ _ hk j _ hj;rw[<-ZtT this];exact ZtS h hl
def Zsx(P:yg)(g k:Nat):Bool:=
 match (ZK (ZfQ P g))[k]? with
 |some (.loop _)=>true
 |_=>false
theorem ZzD{g k:Nat}(h:Zsx P g k=true):(ZK (ZfQ P g))[k]? =some (.loop (Zd6 P g k)):=by
 unfold Zsx at h;split at h
 ·rename_i b hb;rw[hb,ZtT hb]
 ·cases h
def ZLV(c:Code)(m:Nat):Code:=((Ve c)[m]?).getD .skip
def ZA1(P:yg)(N:Nat)(c:Code):yL (Nat×Lp)->Prop
 |[]=>True
 |q::r=>q.2.Is P N (ZLV c q.1)/\ZA1 P N c r
theorem ZA2{N:Nat}{c:Code}:∀{l:yL (Nat×Lp)}{m:Nat}{bk:Lp},ZA1 P N c l->(m,bk)∈l->bk.Is P N (ZLV c m)
 |[],_,_,_,h=>by cases h
 |q::r,m,bk,hk,h=>by
  rcases yae.1 h with h|h
  ·subst h;exact hk.1
  ·exact ZA2 hk.2 h
theorem ZCx{fi:FI}{N:Nat}{c:Code}(h:ZA1 P N c fi.bk):Zmw P fi N c 0:=by
 intro k x hk bk hl;rw[ybh] at hl;have:=ZA2 h hl;unfold ZLV at this;rw[hk] at this;exact this
theorem ZIv{fi:FI}{specs:Sp P}{g k N:Nat}{sl:Slots}{es:yL ESh}{I:yL Ty}{xs:yL XSh}{step:Ty.dens I->yO (Ty.dens I⊕XSh.sum xs)}(ok:SpOk specs)(hl:Zsw P g N fi.lp:=by exact True.intro)(hk:Zsx P g k=true:=by kernel_rfl)
 (h:∀v,ZA0 P fi specs (Zd6 P g k) k N sl es I xs v=step v:=by intro v;kernel_rfl) (hb:ZA1 P N (Zd6 P g k) fi.bk:=by exact True.intro):Lp.Ok P N (Zd6 P g k) ⟨sl,es,I,xs,Zb step yD⟩:=
 ZRh yD ok (ZLU (ZzD hk) hl) (ZCx hb) h
def ZzE{O:Type}(P:yg)(a:yL TD)(h:yL TEnt):yL ResultVar->(yL TD->yL Hint->yO O)->yO O
 |[],K=>K [] []
 |.tmp t::r,K=>ZzE P a h r λds hs=>K (a.getD t .junk::ds) hs
 |.cell t ty::r,K=>match a.getD t .junk with
  |.ref id yQ=>(ZuY h id).bind λd=>gpT (lk h) yQ d λsub hs _=>if okT P ty (sub.er (lk h))=true then ZzE P a h r λds hs'=>K (sub::ds) (hs++hs') else none
  |_=>none
theorem Zkl{O:Type}{a:yL TD}{h:yL TEnt}{out:O}:∀(l:yL ResultVar)(K:yL TD->yL Hint->yO O),ZzE P a h l K=some out->∃ds hs C,K ds hs=some out/\AllP C/\∀yK,Zzn P (TD.ers (lk h) a) (erH h) l (hs++yK)=some (C,TD.ers (lk h) ds)
 |[],K,k=>⟨[],[],[],k,zP,λ_=>rfl⟩
 |.tmp t::r,K,k=>by
  obtain⟨ds,hs,C,k1,k2,k3⟩:=Zkl r _ k;refine⟨_,_,C,k1,k2,λyK=> ?_⟩
  simp only[Zzn,k3 yK,yaa,Zsd,TD.ers]
 |.cell t ty::r,K,k=>by
  unfold ZzE at k;split at k
  ·rename_i id yQ hx;obtain⟨d,h1,k⟩:=yf.1 k;obtain⟨st,h2,h3⟩:=Zhx h1;obtain⟨sub,hs,put,C,g1,g2,g3,_⟩:=Vc _ _ _ _ k;obtain⟨g4,g5⟩:=Za g1;obtain⟨ds,hs',C',k1,k2,k3⟩:=Zkl r _ g5;refine⟨_,_,C++[ZgJ yQ=VZ yQ]++C',k1,Zq.2 ⟨Zq.2 ⟨g2,(Vw _).symm,ytt⟩,k2⟩,λyK=> ?_⟩;unfold Zzn;rw[Zsd,hx];dsimp only[TD.er];rw[h3];dsimp only;rw[yad,g3 (hs'++yK)];dsimp only;rw[yW g4,k3 yK];rfl
  ·cases k
def ZxI:yL TD->TD
 |[d]=>d
 |ds=>.tup ds
theorem ZpA{L:Lk}(ds:yL TD):(ZxI ds).er L=ZwE (TD.ers L ds):=by
 match ds with
 |[]=>rfl
 |[d]=>rfl
 |_::_::_=>rfl
def TD.arg(L:Lk):TD->TD
 |.own id nn t c=>.p (.sl nn t (Yb L id t c))
 |.agg ds=>TD.melt L ds
 |d=>d
theorem ZHa{L:Lk}(d:TD):(d.arg L).er L=(d.er L).arg:=by
 cases d <;> first|rfl|exact ZH5 _
def ZLW(h:yL TEnt)(rs:Sh)(es:yL ESh)(n0:Nat)(r:TD):yO (yL Nat):=
 let l:=ZP4 h es 0 ((yv n0).map (λi=>(i,i))++Sh.ids rs r)
 ((yv es.length).drop n0).mapM λj=>l.lookup j
def ZOj(h:yL TEnt)(n0:Nat)(ds:yL TD)(e:XSh):yO (Ty.dens e.ty):=
 match e.sl with
 |[(0,rs)]=>(ZLW h rs e.es n0 (ZxI ds)).bind λkeep=>
  if once (yv n0++keep) then(match Dv.rn (toIds (yv n0++keep)) ((ZxI ds).er (lk h)) with
   |some _=>(ZxI ds).rn (toIds (yv n0++keep))
   |none=>(ZxI (ds.map (TD.arg (lk h)))).rn (toIds (yv n0++keep))).bind λr=>
   (Vd h (yv n0++keep) (yv n0++keep)).bind λh2=>(Sh.mt (lk h2) rs r).bind λq=>(ESh.mts (lk h2) e.es h2).bind λw=>toD e.ty (q.2++w.2)
  else none
 |_=>none
def ZE2(h:yL TEnt)(n0:Nat)(ds:yL TD):(l:yL XSh)->yO (XSh.sum l)
 |[]=>none
 |[e]=>ZOj h n0 ds e
 |e::f::r=>match ZOj h n0 ds e with
  |some x=>some (Sum.inl x:Ty.dens e.ty⊕XSh.sum (f::r))
  |none=>(ZE2 h n0 ds (f::r)).map λx=>(Sum.inr x:Ty.dens e.ty⊕XSh.sum (f::r))
theorem ZxJ{h:yL TEnt}{n0:Nat}{ds:yL TD}:∀{l:yL XSh}{o:XSh.sum l},ZE2 h n0 ds l=some o->∀e vs,ZEK l o e vs->∃x,ZOj h n0 ds e=some x/\vs=ofD e.ty x
 |[],_,k,_,_,_=>by cases k
 |[e],o,k,x,vs,hs=>by
  obtain⟨rfl,rfl⟩:=hs
  exact⟨o,k,rfl⟩
 |e::f::r,o,k,x,vs,hs=>by
  simp only[ZE2] at k;split at k
  ·rename_i y hy;cases k;obtain⟨rfl,rfl⟩:=hs;exact⟨y,hy,rfl⟩
  ·obtain⟨y,h1,h2⟩:=Zd k;subst h2;exact ZxJ h1 x vs hs
def fnT(P:yg)(fi:FI)(specs:Sp P)(g:yu)(ps:yL Sh)(es:yL ESh)(ins:yL Ty)(xs:yL XSh):Ty.dens ins->yO (XSh.sum xs):=λx=>
 match P.funcs[g]? with
 |some fn=>match fn.body with
  |some c=>(Sh.fills ps (ofD ins x)).bind λq=>(ESh.fills es q.2).bind λw=>if w.2.isEmpty then
    evT P fi specs c 0 0 (q.1++yx (fn.ntmps - q.1.length) .junk) w.1 λex a h=>match ex with
     |.exit _=>none
     |_=>ZzE P a h fn.results.toList λds _=>ZE2 h w.1.length ds xs
    else none
  |none=>none
 |none=>none
def Zd9(P:yg)(g:yu):Nat:=
 match P.funcs[g]? with
 |some fn=>fn.ntmps
 |none=>0
theorem ZPb{fi:FI}{specs:Sp P}{g:yu}{ps:yL Sh}{es:yL ESh}{ins:yL Ty}{xs:yL XSh}{M:Ty.dens ins->yO (XSh.sum xs)}(ok:SpOk specs)(hl:Zsw P g (Zd9 P g) fi.lp:=by exact True.intro)(hn:ps.length<=Zd9 P g:=by decide+kernel)
 (h:∀x,fnT P fi specs g ps es ins xs x=M x:=by intro v;kernel_rfl) (hb:ZA1 P (Zd9 P g) (ZfQ P g) fi.bk:=by exact True.intro):Fs.Ok (⟨g,ps,es,ins,xs,M⟩:Fs P):=by
 intro x o hM;have hM:M x=some o:=hM;rw[<-h x] at hM;have hl':=ZIu hl;unfold fnT at hM;split at hM
 ·rename_i fn hf;split at hM
  ·rename_i c hb1;obtain⟨q,h1,hM⟩:=yf.1 hM;obtain⟨w,h2,hM⟩:=yf.1 hM;obtain⟨h3,hM⟩:=Za hM;have hN:Zd9 P g=fn.ntmps:=by unfold Zd9;rw[hf]
   have hc:ZfQ P g=c:=by unfold ZfQ;rw[hf];dsimp only;rw[hb1];rfl
   rw[hc,hN] at hl' hb;have hb0:=ZCx hb;rw[hN] at hn
   have zW:(q.1++yx (fn.ntmps - q.1.length) TD.junk).length=fn.ntmps:=by
    rw[yo,yct,Zpx h1];omega
   obtain⟨ex,a,hh,k1,k2,k3⟩:=VF ok c _ _ _ _ _ zW hl' hb0 hM
   have hex:(ex=.ret\/ex=.normal)/\(ZzE P a hh fn.results.toList λds _=>ZE2 hh w.1.length ds xs)=some o:=by
    cases ex with
    |exit _=>cases k1
    |normal=>exact⟨.inr rfl,k1⟩
    |ret=>exact⟨.inl rfl,k1⟩
   obtain⟨hex,k1⟩:=hex;obtain⟨ds,hs,C,g1,g2,g3⟩:=Zkl _ _ k1;refine⟨q.1,q.2,w.1,h1, ?_,λe vs s' hsel hfs=> ?_⟩
   ·rw[h2];have:w.2=[]:=by simpa using h3
    rw[<-this]
   obtain⟨o1,g1,hvs⟩:=ZxJ g1 e vs hsel;unfold ZOj at g1;split at g1
   case h_2=>cases g1
   rename_i rs hsl;obtain⟨keep,g4,g1⟩:=yf.1 g1;obtain⟨g5,g1⟩:=Za g1;obtain⟨r,g6,g1⟩:=yf.1 g1;obtain⟨e2,g7,g1⟩:=yf.1 g1;obtain⟨z,g8,g1⟩:=yf.1 g1;obtain⟨y,g9,g1⟩:=yf.1 g1;obtain⟨b1,b2⟩:=Zkk g9;have hcc:∀id t,Yb (lk e2) id t none=Yb (lk y.1) id t none:=λid t=>by rw[b2]
   have eo:=Zev _ _ _ g1
   have efill:s'=([z.1],y.1):=by
    rw[hvs,eo,hsl] at hfs;unfold Zba at hfs;rw[show shs [(0,rs)] 1=[rs] from rfl] at hfs
    simp only[Sh.fills,Zpv _ _ _ g8,ya,yaa] at hfs;have:=ZbT g9 [];rw[yaz] at this;rw[this] at hfs;exact(ybn hfs).symm
   subst efill;refine⟨z.1,rfl, ?_⟩
   have hfin:fin P fn (TD.ers (lk hh) a) (erH hh) (erH w.1).length keep hs=some (C,r.er (lk e2),erH e2):=by
    unfold fin;have:=g3 [];rw[yaz] at this;rw[this];dsimp only;rw[ZS,g5, <-ZpA,show subEnts (erH hh) _ _=some (erH e2) from W4 (Zbq g7) g7]
    split at g6
    ·rename_i r0 hr0;have e4:=ZhA (Zbq g7) _ _ g6;rw[e4]
    ·rename_i hr0;have e4:=ZhA (Zbq g7) _ _ g6;rw[ZpA,ZN,ybe] at e4
     rw[hr0,show(TD.ers (lk hh) ds).map Dv.arg=ds.map (TD.er (lk hh) ∘ TD.arg (lk hh)) by
      rw[ZN,ybe];exact ycn λd _=>(ZHa d).symm,e4]
   have zB:Vt P c (TD.ers (lk w.1) q.1++yx (fn.ntmps - (TD.ers (lk w.1) q.1).length) .junk) (erH w.1) ex (TD.ers (lk hh) a) (erH hh):=by
    have e5:TD.ers (lk w.1) (q.1++yx (fn.ntmps - q.1.length) TD.junk)=TD.ers (lk w.1) q.1++yx (fn.ntmps - (TD.ers (lk w.1) q.1).length) .junk:=by
     rw[ZBJ,ZN,ZN,yas,List.map_replicate];rfl
    rw[<-e5];exact k3
   exact ZEf (ZnM hf hb1 zB hex hfin g2) (Zxs hcc _ _ _ g8) (Zpw hcc g9)
  ·cases hM
 ·cases hM
end
theorem ZtU{P:yg}{g:yu}{t:Ty}{xs:yL XSh}{MA:Ty.dens [.sl t]->yO (XSh.sum xs)}{MB:Ty.dens []->yO (XSh.sum xs)}(hA:Fs.Ok (⟨g,[.sl true t],[],[.sl t],xs,MA⟩:Fs P))(hB:Fs.Ok (⟨g,[.nil t],[],[],xs,MB⟩:Fs P))
 (h:MB ()=MA ([]:yL t.den)):Fs.Ok (⟨g,[.v (.sl t)],[],[.sl t],xs,MA⟩:Fs P):=by
 intro l o hM;have key:∀(l:yL t.den),Ty.cast (.sl t) (.sl t) l=some l:=λl=>Xw (.sl t) l;obtain⟨a1,R1,H1,f1,f2,f3⟩:=hA l o hM
 have e1:a1=[.p (.sl (some true) t l)]/\R1=[]:=by
  have:Sh.fills [.sl true t] [(⟨.sl t,l⟩:TV)]=some (a1,R1):=f1;simp only[Sh.fills,Sh.fill] at this;rw[key l] at this;have this:some (([.p (.sl (some true) t l)]:yL TD),([]:yL TV))=some (a1,R1):=this;cases this;exact⟨rfl,rfl⟩
 obtain⟨rfl,rfl⟩:=e1;cases f2;refine⟨[.p (.v (.sl t) l)],[],[], ?_,rfl,λe vs s' hs hf=> ?_⟩
 ·show Sh.fills [.v (.sl t)] [(⟨.sl t,l⟩:TV)]=_;simp only[Sh.fills,Sh.fill];rw[key l];rfl
 ·obtain⟨r,r1,r2⟩:=f3 e vs s' hs hf;refine⟨r,r1, ?_⟩;refine ZHY (xs:=l.map t.enc) r2 λhl=> ?_;have hl:l=[]:=List.map_eq_nil_iff.1 hl;subst hl;obtain⟨a2,R2,H2,g1,g2,g3⟩:=hB () o (by rw[<-hM];exact h);cases g1;cases g2;obtain⟨r',r1',r2'⟩:=g3 e vs s' hs hf;rw[r1] at r1';cases r1';exact r2'
def ZxK(n:Int):yO (yL yB):=if(decide (0<=n)&&decide (n.toNat<=Zw))=true then some [] else none
theorem ZOk{P:yg}{g:yu}{e:yc}(h:∀n:Nat,n<=Zw->Con P g [.p (.sl (some false) 1 []),.p (.int .i64 (n:Int))] [] (.own 0 none 1 []) [.log 1 e []]):
 Fs.Ok (⟨g,[.nil .u8,.v (.int .i64)],[],[.int .i64],[⟨.ret,[(0,.own 0 .u8)],[.log .u8 e],[.sl .u8]⟩],ZxK⟩:Fs P):=by
 intro n o hM
 have key:∀(n:Int),ZxK n=some o->(0<=n/\n.toNat<=Zw)/\([]:yL yB)=o:=λn hM=>by
  unfold ZxK at hM;obtain⟨h1,h2⟩:=Za (α:=yL yB) hM;rw[yj,yP,yP] at h1;exact⟨h1,ybn h2⟩
 obtain⟨h1,h2⟩:=key n hM;cases h2;refine⟨[.p (.sl (some false) .u8 []),.p (.v (.int .i64) n)],[],[],rfl,rfl,λx vs s' hs hf=> ?_⟩;obtain⟨rfl,rfl⟩:=hs;cases hf;refine⟨_,rfl, ?_⟩;have:=h (Int.toNat n) h1.2;rw[Int.toNat_of_nonneg h1.1] at this;exact this
mutual
theorem ZA3:∀(s:Sh)(vs w:yL TV)(q:TD×yL TV),s.fill vs=some q->s.fill (vs++w)=some (q.1,q.2++w)
 |.v t,vs,w,q,h=>by
  cases vs with
  |nil=>cases h
  |cons x r=>
   obtain⟨y,h1,rfl⟩:=Zd (show(Ty.cast x.1 t x.2).map (λy=>((TD.p (.v t y),r):TD×yL TV))=some q from h)
   show(Ty.cast x.1 t x.2).map (λy=>((TD.p (.v t y),r++w):TD×yL TV))=_
   rw[h1];rfl
 |.elem t,vs,w,q,h=>by
  cases vs with
  |nil=>cases h
  |cons x r=>
   obtain⟨y,h1,rfl⟩:=Zd (show(Ty.cast x.1 t x.2).map (λy=>((TD.elem (.v t y),r):TD×yL TV))=some q from h)
   show(Ty.cast x.1 t x.2).map (λy=>((TD.elem (.v t y),r++w):TD×yL TV))=_
   rw[h1];rfl
 |.sl nn t,vs,w,q,h=>by
  cases vs with
  |nil=>cases h
  |cons x r=>
   obtain⟨y,h1,rfl⟩:=Zd (α:=(Ty.sl t).den) (show(Ty.cast x.1 (.sl t) x.2).map (λ(y:yL t.den)=>((TD.p (.sl (some nn) t y),r):TD×yL TV))=some q from h)
   show(Ty.cast x.1 (.sl t) x.2).map (λ(y:yL t.den)=>((TD.p (.sl (some nn) t y),r++w):TD×yL TV))=_
   rw[h1];rfl
 |.nil _,vs,w,q,h=>by cases h;rfl
 |.own _ _,vs,w,q,h=>by cases h;rfl
 |.ref _ _,vs,w,q,h=>by cases h;rfl
 |.mp _,vs,w,q,h=>by cases h;rfl
 |.rw _,vs,w,q,h=>by cases h;rfl
 |.rp j s p,vs,w,q,h=>by
  cases vs with
  |nil=>cases h
  |cons x r=>
   obtain⟨y,h1,rfl⟩:=Zd (α:=Int) (show(Ty.cast x.1 (.int .i64) x.2).map (λ(i:Int)=>((TD.rp j (.ix i.toNat s::p),r):TD×yL TV))=some q from h)
   show(Ty.cast x.1 (.int .i64) x.2).map (λ(i:Int)=>((TD.rp j (.ix i.toNat s::p),r++w):TD×yL TV))=_
   rw[h1];rfl
 |.view _ _ _ _ _,vs,w,q,h=>by cases h;rfl
 |.fn g l,vs,w,q,h=>by
  simp only[Sh.fill] at h ⊢;obtain⟨y,h1,rfl⟩:=Zd h
  rw[fills_more l vs w y h1];rfl
 |.agg l,vs,w,q,h=>by
  simp only[Sh.fill] at h ⊢;obtain⟨y,h1,rfl⟩:=Zd h
  rw[fills_more l vs w y h1];rfl
 |.arr n s l,vs,w,q,h=>by
  simp only[Sh.fill] at h ⊢;obtain⟨y,h1,rfl⟩:=Zd h
  rw[fills_more l vs w y h1];rfl
 |.tup l,vs,w,q,h=>by
  simp only[Sh.fill] at h ⊢;obtain⟨y,h1,rfl⟩:=Zd h
  rw[fills_more l vs w y h1];rfl
 |.iface t x,vs,w,q,h=>by
  simp only[Sh.fill] at h ⊢;obtain⟨y,h1,rfl⟩:=Zd h
  rw[ZA3 x vs w y h1];rfl
 |.ptr0,vs,w,q,h=>by cases h;rfl
 |.fn0,vs,w,q,h=>by cases h;rfl
 |.if0,vs,w,q,h=>by cases h;rfl
 |.map0,vs,w,q,h=>by cases h;rfl
 |.junk,vs,w,q,h=>by cases h;rfl
theorem fills_more:∀(l:yL Sh)(vs w:yL TV)(q:yL TD×yL TV),Sh.fills l vs=some q->Sh.fills l (vs++w)=some (q.1,q.2++w)
 |[],vs,w,q,h=>by simp only[Sh.fills] at h;cases h;rfl
 |s::r,vs,w,q,h=>by
  simp only[Sh.fills] at h ⊢;obtain⟨a,h1,h⟩:=yf.1 h;obtain⟨b,h2,rfl⟩:=Zd h;rw[ZA3 s vs w a h1,ya,fills_more r a.2 w b h2];rfl
end
theorem ZQc{P:yg}{g:yu}{t:Ty}{e:yc}{yK:yL Sh}{i1 i2:yL Ty}{xs:yL XSh}{M:Ty.dens i2->yO (XSh.sum xs)}(pk:Ty.dens i1->Ty.dens i2)(h:Fs.Ok (⟨g,.own 0 t::yK,[.log t e],i2,xs,M⟩:Fs P))
 (hp:∀x,ofD i2 (pk x)=ofD i1 x++[⟨.sl t,([]:yL t.den)⟩]) (hf:∀x,∃a,Sh.fills yK (ofD i1 x)=some (a,[])):Fs.Ok (⟨g,.nil t::yK,[],i1,xs,λx=>M (pk x)⟩:Fs P):=by
 intro x o hM;obtain⟨args,R,H,f1,f2,f3⟩:=h (pk x) o hM;obtain⟨a,ha⟩:=hf x;have f1:Sh.fills (.own 0 t::yK) (ofD i2 (pk x))=some (args,R):=f1;rw[hp x] at f1;simp only[Sh.fills,Sh.fill,ya,fills_more yK _ _ _ ha,yaa,Option.some.injEq,Prod.mk.injEq,List.nil_append] at f1;obtain⟨rfl,rfl⟩:=f1;have f2:((Ty.cast (.sl t) (.sl t) ([]:yL t.den)).map λ(y:yL t.den)=>((TEnt.log t e y,[]):TEnt×yL TV)).bind (λa=>(ESh.fills [] a.2).map λb=>(a.1::b.1,b.2))=some (H,[]):=f2;have key:Ty.cast (.sl t) (.sl t) ([]:yL t.den)=some ([]:yL t.den):=Xw (.sl t) ([]:yL t.den);rw[key] at f2;cases f2;refine⟨.p (.sl (some false) t [])::a,[],[], ?_,rfl,λx' vs s' hs hf'=> ?_⟩
 ·show Sh.fills (.nil t::yK) (ofD i1 x)=_;simp only[Sh.fills,Sh.fill,ya,ha,yaa]
 ·obtain⟨r,r1,r2⟩:=f3 x' vs s' hs hf';refine⟨r,r1, ?_⟩
  have e1:TD.ers (lk [.log t e []]) (.own 0 none t none::a)=.own 0 none t.size []::TD.ers (lk []) a:=by
   have e0:TD.ers (lk [.log t e []]) a=TD.ers (lk []) a:=(ers_cont (λid t'=>Zsm (H:=[]) (T:=t) (e:=e) id t') a).symm;rw[TD.ers,e0];congr 1;rw[TD.er,show Yb (lk [.log t e []]) 0 t none=[] from Zkj (H:=[])]
   rfl
  have r2:Con P g (TD.ers (lk [.log t e []]) (.own 0 none t none::a)) (erH [.log t e []]) (r.er (lk s'.2)) (erH s'.2):=r2;rw[e1] at r2;exact ZEg (H:=[]) (e:=e) r2
section
variable{P:yg}
theorem fnO(h:HI)(lp:yL (Nat×Lp))(l:yL (Fs P))(a:AllOk l){g:yu}{ps:yL Sh}{es:yL ESh}{ins:yL Ty}{xs:yL XSh}{M:Ty.dens ins->yO (XSh.sum xs)}(hl:Zsw P g (Zd9 P g) lp:=by exact True.intro)(hn:ps.length<=Zd9 P g:=by decide+kernel)
 (k:∀x,fnT P { hi:=h,lp:=lp} { l:=l} g ps es ins xs x=M x:=by intro v;kernel_rfl):Fs.Ok (⟨g,ps,es,ins,xs,M⟩:Fs P):=ZPb (okS a) hl hn k
abbrev Lp.okA(L:Lp)(P:yg)(g k:Nat):Prop:=L.Ok P (Zd9 P g) (Zd6 P g k)
theorem Zv(h:HI)(lp:yL (Nat×Lp))(l:yL (Fs P))(a:AllOk l){g k N:Nat}{sl:Slots}{es:yL ESh}{I:yL Ty}{xs:yL XSh}{step:Ty.dens I->yO (Ty.dens I⊕XSh.sum xs)}(hl:Zsw P g N lp:=by exact True.intro)(hk:Zsx P g k=true:=by kernel_rfl)
 (h':∀v,ZA0 P { hi:=h,lp:=lp} { l:=l} (Zd6 P g k) k N sl es I xs v=step v:=by intro v;kernel_rfl):Lp.Ok P N (Zd6 P g k) ⟨sl,es,I,xs,Zb step yD⟩:=ZIv (okS a) hl hk h'
end
end Go.Ev
end
section
namespace Go.Ev
universe u
variable{O:Type u}
def ZeW(n:Nat)(k:Nat->O):O:=Nat.rec (motive:=λ_=>O) (k 0) (λm _=>k (Nat.succ m)) n
theorem XH(n:Nat)(k:Nat->O):ZeW n k=k n:=by cases n <;> rfl
def ZhB{α:Type}(f:α->(α->O)->O):yL α->(yL α->O)->O
 |[],k=>k []
 |a::r,k=>f a λa=>ZhB f r λr=>k (a::r)
theorem Ql{α:Type}{f:α->(α->O)->O}(hf:∀a k,f a k=k a):∀(l:yL α)(k:yL α->O),ZhB f l k=k l
 |[],k=>rfl
 |a::r,k=>by rw[ZhB,hf,Ql hf r]
def ZQd(n:Int)(k:Int->O):O:=match n with
 |.ofNat n=>ZeW n λn=>k (.ofNat n)
 |.negSucc n=>ZeW n λn=>k (.negSucc n)
theorem ZOl(n:Int)(k:Int->O):ZQd n k=k n:=by cases n <;> (rw[ZQd,XH])
def ZxL(b:Bool)(k:Bool->O):O:=match b with
 |true=>k true
 |false=>k false
theorem Zkm(b:Bool)(k:Bool->O):ZxL b k=k b:=by cases b <;> rfl
mutual
def Ty.fo:(t:Ty)->t.den->(t.den->O)->O
 |.int _,x,k=>ZQd x k
 |.u8,x,k=>ZeW (yam x) λn=>k (ybc n)
 |.u32,x,k=>ZeW (yan x) λn=>k (ybs n)
 |.u64,x,k=>ZeW (UInt64.toNat x) λn=>k (yac n)
 |.bool,x,k=>ZxL x k
 |.str,x,k=>k x
 |.sl t,x,k=>ZhB (Ty.fo t) x k
 |.arr _ t,x,k=>ZhB (Ty.fo t) x k
 |.st fs,x,k=>Ty.fos fs x k
def Ty.fos:(fs:yL Ty)->Ty.dens fs->(Ty.dens fs->O)->O
 |[],_,k=>k ()
 |[t],x,k=>Ty.fo t x k
 |t::u::r,x,k=>Ty.fo t x.1 λa=>Ty.fos (u::r) x.2 λb=>k (a,b)
end
mutual
theorem Ty.fo_eq:∀(t:Ty)(x:t.den)(k:t.den->O),t.fo x k=k x
 |.int _,x,k=>ZOl x k
 |.u8,x,k=>by rw[Ty.fo,XH];exact congrArg k UInt8.ofNat_toNat
 |.u32,x,k=>by rw[Ty.fo,XH];exact congrArg k UInt32.ofNat_toNat
 |.u64,x,k=>by rw[Ty.fo,XH];exact congrArg k UInt64.ofNat_toNat
 |.bool,x,k=>Zkm x k
 |.str,x,k=>rfl
 |.sl t,x,k=>by rw[Ty.fo];exact Ql (Ty.fo_eq t) x k
 |.arr _ t,x,k=>by rw[Ty.fo];exact Ql (Ty.fo_eq t) x k
 |.st fs,x,k=>Ty.fos_eq fs x k
theorem Ty.fos_eq:∀(fs:yL Ty)(x:Ty.dens fs)(k:Ty.dens fs->O),Ty.fos fs x k=k x
 |[],_,k=>rfl
 |[t],x,k=>Ty.fo_eq t x k
 |t::u::r,x,k=>by rw[Ty.fos,Ty.fo_eq t];exact Ty.fos_eq (u::r) x.2 _
end
mutual
def TP.fo:TP->(TP->O)->O
 |.v t x,k=>t.fo x λx=>k (.v t x)
 |.sl nn t xs,k=>ZhB t.fo xs λxs=>k (.sl nn t xs)
 |.agg xs,k=>TP.fos xs λxs=>k (.agg xs)
 |.arr n s xs,k=>TP.fos xs λxs=>k (.arr n s xs)
 |.sll nn s xs,k=>TP.fos xs λxs=>k (.sll nn s xs)
 |.iface t x,k=>TP.fo x λx=>k (.iface t x)
 |x,k=>k x
def TP.fos:yL TP->(yL TP->O)->O
 |[],k=>k []
 |x::r,k=>TP.fo x λx=>TP.fos r λr=>k (x::r)
end
mutual
theorem TP.fo_eq:∀(x:TP)(k:TP->O),x.fo k=k x
 |.v t x,k=>by rw[TP.fo,Ty.fo_eq]
 |.sl nn t xs,k=>by rw[TP.fo,Ql (Ty.fo_eq t)]
 |.agg xs,k=>by rw[TP.fo,TP.fos_eq xs]
 |.arr n s xs,k=>by rw[TP.fo,TP.fos_eq xs]
 |.sll nn s xs,k=>by rw[TP.fo,TP.fos_eq xs]
 |.iface t x,k=>by rw[TP.fo,TP.fo_eq x]
 |.ptr0,k=>rfl
 |.fn0,k=>rfl
 |.if0,k=>rfl
 |.map0,k=>rfl
 |.fnv _,k=>rfl
theorem TP.fos_eq:∀(x:yL TP)(k:yL TP->O),TP.fos x k=k x
 |[],k=>rfl
 |x::r,k=>by rw[TP.fos,TP.fo_eq x,TP.fos_eq r]
end
def ZRi{α:Type}(f:α->(α->O)->O):yO α->(yO α->O)->O
 |none,k=>k none
 |some a,k=>f a λa=>k (some a)
theorem ZOm{α:Type}{f:α->(α->O)->O}(hf:∀a k,f a k=k a):∀(l:yO α)(k:yO α->O),ZRi f l k=k l
 |none,k=>rfl
 |some a,k=>hf a _
mutual
def TD.fo:TD->(TD->O)->O
 |.p x,k=>x.fo λx=>k (.p x)
 |.elem x,k=>x.fo λx=>k (.elem x)
 |.own id nn t c,k=>ZeW id λid=>ZRi (ZhB t.fo) c λc=>k (.own id nn t c)
 |.ref id q,k=>ZeW id λid=>k (.ref id q)
 |.view id q s lo n,k=>ZeW id λid=>ZeW s λs=>ZeW lo λlo=>ZeW n λn=>k (.view id q s lo n)
 |.agg xs,k=>TD.fos xs λxs=>k (.agg xs)
 |.arr n s xs,k=>ZeW n λn=>ZeW s λs=>TD.fos xs λxs=>k (.arr n s xs)
 |.fn f xs,k=>TD.fos xs λxs=>k (.fn f xs)
 |.iface t x,k=>TD.fo x λx=>k (.iface t x)
 |.tup xs,k=>TD.fos xs λxs=>k (.tup xs)
 |.mp id,k=>ZeW id λid=>k (.mp id)
 |.rv id v s lo n,k=>ZeW id λid=>ZeW v λv=>ZeW s λs=>ZeW lo λlo=>ZeW n λn=>k (.rv id v s lo n)
 |.rref id v q,k=>ZeW id λid=>ZeW v λv=>k (.rref id v q)
 |.rw id,k=>ZeW id λid=>k (.rw id)
 |.rp id q,k=>ZeW id λid=>k (.rp id q)
 |.junk,k=>k .junk
def TD.fos:yL TD->(yL TD->O)->O
 |[],k=>k []
 |x::r,k=>TD.fo x λx=>TD.fos r λr=>k (x::r)
end
mutual
theorem TD.fo_eq:∀(x:TD)(k:TD->O),x.fo k=k x
 |.p x,k=>by rw[TD.fo,TP.fo_eq]
 |.elem x,k=>by rw[TD.fo,TP.fo_eq]
 |.own id nn t c,k=>by rw[TD.fo,XH,ZOm (Ql (Ty.fo_eq t))]
 |.ref id q,k=>by rw[TD.fo,XH]
 |.view id q s lo n,k=>by rw[TD.fo,XH,XH,XH,XH]
 |.agg xs,k=>by rw[TD.fo,TD.fos_eq xs]
 |.arr n s xs,k=>by rw[TD.fo,XH,XH,TD.fos_eq xs]
 |.fn f xs,k=>by rw[TD.fo,TD.fos_eq xs]
 |.iface t x,k=>by rw[TD.fo,TD.fo_eq x]
 |.tup xs,k=>by rw[TD.fo,TD.fos_eq xs]
 |.mp id,k=>by rw[TD.fo,XH]
 |.rv id v s lo n,k=>by rw[TD.fo,XH,XH,XH,XH,XH]
 |.rref id v q,k=>by rw[TD.fo,XH,XH]
 |.rw id,k=>by rw[TD.fo,XH]
 |.rp id q,k=>by rw[TD.fo,XH]
 |.junk,k=>rfl
theorem TD.fos_eq:∀(x:yL TD)(k:yL TD->O),TD.fos x k=k x
 |[],k=>rfl
 |x::r,k=>by rw[TD.fos,TD.fo_eq x,TD.fos_eq r]
end
def TEnt.fo(e:TEnt)(k:TEnt->O):O:=match e with
 |.var d st=>d.fo λd=>ZxL st λst=>k (.var d st)
 |.log t e xs=>ZhB t.fo xs λxs=>k (.log t e xs)
 |.map tid a b l=>ZhB (λq k=>a.fo q.1 λx=>b.fo q.2 λy=>k (x,y)) l λl=>k (.map tid a b l)
 |.row v s st e d=>ZeW v λv=>ZeW s λs=>ZxL st λst=>d.fo λd=>k (.row v s st e d)
 |.rowT t v st e xs=>ZxL st λst=>ZhB t.fo xs λxs=>k (.rowT t v st e xs)
 |.rowN t np v st e a b=>ZxL st λst=>ZhB t.fo a λa=>ZhB t.fo b λb=>k (.rowN t np v st e a b)
 |.rowM t np v st e a d b=>ZxL st λst=>ZhB t.fo a λa=>d.fo λd=>ZhB t.fo b λb=>k (.rowM t np v st e a d b)
 |.gone=>k .gone
theorem TEnt.fo_eq(e:TEnt)(k:TEnt->O):e.fo k=k e:=by
 cases e with
 |var d st=>rw[TEnt.fo,TD.fo_eq,Zkm]
 |log t e xs=>rw[TEnt.fo,Ql (Ty.fo_eq t)]
 |map tid a b l=>rw[TEnt.fo,Ql λq k=>by rw[Ty.fo_eq a,Ty.fo_eq b]]
 |row v s st e d=>rw[TEnt.fo,XH,XH,Zkm,TD.fo_eq]
 |rowT t v st e xs=>rw[TEnt.fo,Zkm,Ql (Ty.fo_eq t)]
 |rowN t np v st e a b=>rw[TEnt.fo,Zkm,Ql (Ty.fo_eq t),Ql (Ty.fo_eq t)]
 |rowM t np v st e a d b=>rw[TEnt.fo,Zkm,Ql (Ty.fo_eq t),TD.fo_eq,Ql (Ty.fo_eq t)]
 |gone=>rfl
def foS(a:yL TD)(h:yL TEnt)(k:yL TD->yL TEnt->O):O:=TD.fos a λa=>ZhB TEnt.fo h λh=>k a h
theorem ZQe(a:yL TD)(h:yL TEnt)(k:yL TD->yL TEnt->O):foS a h k=k a h:=by rw[foS,TD.fos_eq,Ql TEnt.fo_eq]
end Go.Ev
end
section
namespace Go.Ev
def ZCy(h:yL TEnt)(n0:Nat)(r:TD):yL Nat:=
 let got:=Zu2 h 100000 (r.look++yv n0) []
 ((yv h.length).drop n0).filter got.contains
def Ty.mkFs(f:(T:Ty)->TD->yO T.den):(fs:yL Ty)->yL TD->yO (Ty.dens fs)
 |[],[]=>some ()
 |[t],[d]=>f t d
 |t::u::r,d::ds=>Zqy (f t d) (Ty.mkFs f (u::r) ds)
 |_,_=>none
def mkL{T:Ty}(f:TD->yO T.den):yL TD->yO (yL T.den)
 |[]=>some []
 |d::r=>(Zqy (f d) (mkL f r)).map λq=>q.1::q.2
def ZLX(H:yL TEnt)(id:Nat)(u:Ty):yO (yL u.den):=
 match H[id]? with
 |some (.rowT u' v false e l)=>Ty.castL u' u l
 |_=>none
theorem ZLY{H:yL TEnt}{id:Nat}{u:Ty}{l:yL u.den}(h:ZLX H id u=some l):DeepR (erH H) ((TD.rw id).er (lk H)) ((Ty.sl u).enc l):=by
 unfold ZLX at h;split at h
 ·rename_i u' v e l' hd;obtain⟨e1,h⟩:=ZI h;subst e1;subst h;have hE:(erH H)[id]? =some (.row v.length u'.size false e (.p (.arr l.length u'.size (l.map u'.enc)))):=Ym hd;have:=DeepR.rvp (lo:=0) (n:=l.length) hE (by omega);rw[(Zdf hd).1,ZGq];rw[List.drop_zero, <-yy (f:=u'.enc),List.take_length,yy] at this;exact this
 ·cases h
def ZE3(H:yL TEnt):Nat->(T:Ty)->TD->yO T.den
 |0,_,_=>none
 |n+1,T,d=>match d with
  |.p x=>TP.to ZnN x T
  |.own id nn t c=>ZKU true t (Yb (lk H) id t c) T
  |.agg ds=>ZKV (λfs=>Ty.mkFs (ZE3 H n) fs ds) T
  |.rw id=>match T with
   |.sl u=>ZLX H id u
   |_=>none
  |.rv id v s lo k=>match T with
   |.sl u=>match H[id]? with
    |some (.row w s' false e d)=>if(w==v&&s'==s&&s==u.size)=true then match d with
      |.p x=>x.arow.bind λr=>(Ty.castL r.t u r.l).bind λl=>if decide (lo+k<=r.n)=true then some ((l.drop lo).take k) else none
      |.arr N s2 ds=>if(s2==s&&decide (lo+k<=N))=true then(mkL (ZE3 H n u) ds).map λ(l:yL u.den)=>(l.drop lo).take k else none
      |_=>none
     else none
    |_=>none
   |_=>none
  |_=>none
theorem ZIw{H:yL Ent}{L:Lk}{f:(T:Ty)->TD->yO T.den}(hf:∀T d y,f T d=some y->DeepR H (d.er L) (T.enc y)):∀(fs:yL Ty)(ds:yL TD)(y:Ty.dens fs),Ty.mkFs f fs ds=some y->
 (TD.ers L ds).length=(Ty.encs fs y).length/\∀(i:Nat)(d:Dv)(z:Pl),(TD.ers L ds)[i]? =some d->(Ty.encs fs y)[i]? =some z->DeepR H d z
 |[],[],y,h=>⟨rfl,λi d z h1 _=>by simp[TD.ers] at h1⟩
 |[],_::_,y,h=>by cases h
 |[t],[],y,h=>by cases h
 |[t],[d],y,h=>by
  refine⟨rfl,λi d' z h1 h2=> ?_⟩
  cases i with
  |zero=>cases h1;cases h2;exact hf t d y h
  |succ i=>simp[TD.ers] at h1
 |[t],_::_::_,y,h=>by cases h
 |t::u::r,[],y,h=>by cases h
 |t::u::r,d::ds,y,h=>by
  obtain⟨h1,h2⟩:=ZbR (α:=t.den) (β:=Ty.dens (u::r)) h;obtain⟨h3,h4⟩:=ZIw hf (u::r) ds y.2 h2;refine⟨by rw[TD.ers,Ty.encs,yaj,yaj,h3],λi d' z k1 k2=> ?_⟩
  cases i with
  |zero=>cases k1;cases k2;exact hf t d y.1 h1
  |succ i=>exact h4 i d' z k1 k2
theorem ZLZ{H:yL Ent}{L:Lk}{T:Ty}{f:TD->yO T.den}(hf:∀d y,f d=some y->DeepR H (d.er L) (T.enc y)):∀(ds:yL TD)(l:yL T.den),mkL f ds=some l->
 (TD.ers L ds).length=(l.map T.enc).length/\∀(i:Nat)(d:Dv)(z:Pl),(TD.ers L ds)[i]? =some d->(l.map T.enc)[i]? =some z->DeepR H d z
 |[],l,h=>by cases h;exact⟨rfl,λi d z h1 _=>by simp[TD.ers] at h1⟩
 |d::ds,l,h=>by
  obtain⟨q,h1,rfl⟩:=Zd h;obtain⟨h1,h2⟩:=ZbR h1;obtain⟨h3,h4⟩:=ZLZ hf ds q.2 h2;refine⟨by rw[TD.ers,yag,yaj,yaj,h3],λi d' z k1 k2=> ?_⟩
  cases i with
  |zero=>cases k1;cases k2;exact hf d q.1 h1
  |succ i=>exact h4 i d' z k1 k2
theorem ZxM{H:yL TEnt}:∀(n:Nat)(T:Ty)(d:TD)(y:T.den),ZE3 H n T d=some y->DeepR (erH H) (d.er (lk H)) (T.enc y)
 |0,_,_,_,h=>by cases h
 |n+1,T,d,y,h=>by
  unfold ZE3 at h;split at h
  ·exact .wk (.p _) (ZEl h)
  ·rename_i id nn t c;obtain⟨l,_,e1,rfl⟩:=ZtK (nn:=none) h;rw[e1,TD.er];exact .wk (.own id nn t.size _) (PlWk.sl_mk (PlsWk.refl _))
  ·rename_i ds;obtain⟨fs,z,h1,e1⟩:=ZtL h;rw[e1,TD.er];obtain⟨h2,h3⟩:=ZIw (λT d y=>ZxM n T d y) fs ds z h1;exact .agg h2 h3
  ·rename_i id
   cases T with
   |sl u=>exact ZLY h
   |_=>cases h
  ·rename_i id v s lo k;split at h
   ·rename_i u;split at h
    ·rename_i w s' e dd hd;obtain⟨hk,g⟩:=Za h;clear h;simp only[yj,yT] at hk;obtain⟨⟨hk1,hk2⟩,hk3⟩:=hk;have hE:=Ym hd;rw[hk1,hk2,hk3] at hE;split at g
     ·rename_i x;obtain⟨r,p1,g1⟩:=yf.1 g;obtain⟨l,p2,g2⟩:=yf.1 g1;obtain⟨p3,g3⟩:=Za g2;cases g3;obtain⟨rn,rt,rl⟩:=r;obtain⟨e1,p2⟩:=ZI p2;dsimp only at e1 p2 p3;subst e1;subst p2;rw[TEnt.er,TD.er,Zab p1] at hE;have:=DeepR.rvp hE (yF p3);rw[ZGq,ycd,List.map_drop,TD.er,hk3];exact this
     ·rename_i N s2 ds;obtain⟨p1,g1⟩:=Za g;simp only[yj,yT,yP] at p1;obtain⟨q1,p1⟩:=p1;obtain⟨l,p2,g2⟩:=Zd g1;subst g2;obtain⟨h2,h3⟩:=ZLZ (λd y=>ZxM n u d y) ds l p2;rw[TEnt.er,TD.er,q1,hk3] at hE;have:=DeepR.rva hE p1 h2 h3;rw[ZGq,ycd,List.map_drop,TD.er,hk3];exact this
     ·cases g
    ·cases h
   ·cases h
  ·cases h
def ZE4:TEnt->TEnt
 |.row v s _ e d=>.row v s false e d
 |.rowT t v _ e l=>.rowT t v false e l
 |e=>e
def Zlq(ids:yL Nat)(H:yL TEnt):yL TEnt:=(yv H.length).zipWith (λi e=>if ids.contains i then ZE4 e else e) H
theorem ZL0(e:TEnt):lkE (some (ZE4 e))=lkE (some e):=by cases e <;> rfl
theorem Zu7(ids:yL Nat)(H:yL TEnt)(i:Nat):(Zlq ids H)[i]? =(H[i]?).map λe=>if ids.contains i then ZE4 e else e:=by
 unfold Zlq;rw[List.getElem?_zipWith];rcases Nat.lt_or_ge i H.length with h|h
 ·rw[List.getElem?_range h,yab h];rfl
 ·rw[yaq (by simpa using h),yaq h];rfl
theorem ZxN(ids:yL Nat)(H:yL TEnt):lk (Zlq ids H)=lk H:=by
 funext i;unfold lk;rw[Zu7]
 cases H[i]? with
 |none=>rfl
 |some e=>
  show lkE (some (if ids.contains i=true then ZE4 e else e))=_
  split
  ·exact ZL0 e
  ·rfl
theorem ZHb(ids:yL Nat)(H:yL TEnt):WkH (erH H) (erH (Zlq ids H)):=by
 refine ZGZ (by rw[ZS,ZS];unfold Zlq;simp) λi a b h1 h2=> ?_;unfold erH at h1 h2;rw[yal] at h1 h2;rw[ZxN,Zu7] at h2
 cases he:H[i]? with
 |none=>rw[he] at h1;cases h1
 |some e=>
  rw[he] at h1 h2;cases h1;cases h2;show WkE (e.er (lk H)) (TEnt.er (lk H) (if ids.contains i=true then ZE4 e else e))
  split
  ·cases e <;> first|exact .refl _|exact .lock
  ·exact .refl _
def ZHc:yL TEnt->Nat->Bool
 |H,i=>match H[i]? with
  |some (.row _ _ _ _ _)=>true
  |some (.rowT _ _ _ _ _)=>true
  |_=>false
def ZIx(P:yg)(H:yL TEnt)(t:yc)(d:TD):yO TD:=
 match d with
 |.p x=>some (.p x)
 |d=>(ZnO P tyD t).bind λT=>(ZE3 H 100 T d).map λy=>.p (.v T y)
theorem ZE5{P:yg}{H:yL TEnt}{t:yc}{d e:TD}(h:ZIx P H t d=some e):DeepP (erH H) (d.er (lk H)) (e.er (lk H)):=by
 unfold ZIx at h;split at h
 ·cases h;exact .refl _
 ·obtain⟨T,h1,h⟩:=yf.1 h;obtain⟨y,h2,rfl⟩:=Zd h;exact .deep (ZxM _ _ _ _ h2)
def ZCz(P:yg)(H:yL TEnt):yL yc->yL TD->yO (yL TD)
 |[],[]=>some []
 |t::r,d::ds=>match ZIx P H t d,ZCz P H r ds with
  |some a,some b=>some (a::b)
  |_,_=>none
 |_,_=>none
theorem ZA4{P:yg}{H:yL TEnt}:∀{ts:yL yc}{ds es:yL TD},ZCz P H ts ds=some es->DeepL (erH H) (TD.ers (lk H) ds) (TD.ers (lk H) es)
 |[],[],es,h=>by cases h;exact .nil
 |[],_::_,es,h=>by cases h
 |_::_,[],es,h=>by cases h
 |t::r,d::ds,es,h=>by
  simp only[ZCz] at h;split at h
  ·rename_i a b h1 h2;cases h;exact .cons (ZE5 h1) (ZA4 h2)
  ·cases h
def ZL1(P:yg)(H:yL TEnt)(ts:yL yc)(r:TD):yO TD:=
 match ts with
 |[t]=>ZIx P H t r
 |ts=>match r with
  |.tup ds=>(ZCz P H ts ds).map .tup
  |_=>none
theorem ZL2{P:yg}{H:yL TEnt}{ts:yL yc}{r r':TD}(h:ZL1 P H ts r=some r'):DeepT (erH H) (r.er (lk H)) (r'.er (lk H)):=by
 unfold ZL1 at h;split at h
 ·exact .one (ZE5 h)
 ·split at h
  ·obtain⟨es,h1,rfl⟩:=Zd h;exact .tup (ZA4 h1)
  ·cases h
def ZJT{O:Type}(P:yg)(ts:yL yc)(r:TD)(H:yL TEnt)(K:TD->yL TEnt->yO O):yO O:=
 match ts with
 |[]=>K r H
 |ts=>(ZL1 P (Zlq ((Zu2 H 100000 r.look []).filter (ZHc H)) H) ts r).bind λr'=>K r' (Zlq ((Zu2 H 100000 r.look []).filter (ZHc H)) H)
theorem ZA5{O:Type}{P:yg}{ts:yL yc}{r:TD}{H:yL TEnt}{K:TD->yL TEnt->yO O}{out:O}{g:yu}{args:yL Dv}{H0:yL Ent}(h:ZJT P ts r H K=some out)(hc:Con P g args H0 (r.er (lk H)) (erH H)):
 ∃r' H',K r' H'=some out/\Con P g args H0 (r'.er (lk H')) (erH H'):=by
 unfold ZJT at h;split at h
 ·exact⟨_,_,h,hc⟩
 ·obtain⟨r',h1,h2⟩:=yf.1 h;generalize (Zu2 H 100000 r.look []).filter (ZHc H)=ids at h1 h2;refine⟨_,_,h2,ZKT hc (ZHb ids H) ?_⟩;have:=ZL2 h1;rw[ZxN] at this ⊢;exact this
def ZJU{O:Type}(h:yL TEnt)(n0:Nat)(ds:yL TD)(K:TD->yL TEnt->yO O):yO O:=
 let keep:=ZCy h n0 (ZxI ds)
 if once (yv n0++keep) then(match Dv.rn (toIds (yv n0++keep)) ((ZxI ds).er (lk h)) with
  |some _=>(ZxI ds).rn (toIds (yv n0++keep))
  |none=>(ZxI (ds.map (TD.arg (lk h)))).rn (toIds (yv n0++keep))).bind λr=>
  (Vd h (yv n0++keep) (yv n0++keep)).bind λh2=>K r h2
 else none
section
variable{P:yg}
def ZL3(P:yg)(his:yu->HI)(l:yL (Fs P))(mt:yL (yc×String×yu))(ghs:yu->yL (Nat×GOp)):Nat->(O:Type)->yu->yL TD->yL TEnt->(TD->yL TEnt->yO O)->yO O
 |0,_,_,_,_,_=>none
 |n+1,O,g,args,H,K=>foS args H λargs H=>match P.funcs[g]? with
  |some fn=>match fn.body with
   |some c=>if decide (args.length<=fn.ntmps)=true then
     evT P { hi:=his g,un:=1000000,gh:=ghs g} ⟨l,ZL3 P his l mt ghs n,mt,[]⟩ c 0 0 (args++yx (fn.ntmps - args.length) .junk) H λex a h=>match ex with
      |.exit _=>none
      |_=>ZzE P a h fn.results.toList λds _=>ZJU h H.length ds λr h=>ZJT P (his g).deep r h λr h=>foS [r] h λrs h=>match rs with
       |[r]=>K r h
       |_=>none
     else none
   |none=>none
  |none=>none
theorem ZIy{his:yu->HI}{l:yL (Fs P)}{mt:yL (yc×String×yu)}{ghs:yu->yL (Nat×GOp)}(hl:AllOk l)(hm:MtOk P mt):∀(n:Nat),HdOk P (ZL3 P his l mt ghs n)
 |0=>λ_ _ _ _ _ _ h=>by cases h
 |n+1=>λO g args H K out hM=>by
  unfold ZL3 at hM;simp only[ZQe] at hM;split at hM
  ·rename_i fn hf;split at hM
   ·rename_i c hb1;obtain⟨hn,hM⟩:=Za hM;have hn:=yF hn
    have zW:(args++yx (fn.ntmps - args.length) TD.junk).length=fn.ntmps:=by
     rw[yo,yct];omega
    obtain⟨ex,a,hh,k1,k2,k3⟩:=VF (N:=fn.ntmps) (specs:=⟨l,ZL3 P his l mt ghs n,mt,[]⟩) ⟨hl,ZIy hl hm n,hm,ytt⟩ c _ _ _ _ _ zW (λk b hk lp h=>by cases h) (λk b hk lp h=>by cases h) hM
    have hex:(ex=.ret\/ex=.normal)/\(ZzE P a hh fn.results.toList λds _=>ZJU hh H.length ds λr h=>ZJT P (his g).deep r h K)=some out:=by
     cases ex with
     |exit _=>cases k1
     |normal=>exact⟨.inr rfl,k1⟩
     |ret=>exact⟨.inl rfl,k1⟩
    obtain⟨hex,k1⟩:=hex;obtain⟨ds,hs,C,g1,g2,g3⟩:=Zkl _ _ k1;unfold ZJU at g1;dsimp only at g1;generalize ZCy hh H.length (ZxI ds)=keep at g1;obtain⟨g5,g1⟩:=Za g1;obtain⟨r,g6,g1⟩:=yf.1 g1;obtain⟨e2,g7,g1⟩:=yf.1 g1;refine ZA5 g1 ?_
    have hfin:fin P fn (TD.ers (lk hh) a) (erH hh) (erH H).length keep hs=some (C,r.er (lk e2),erH e2):=by
     unfold fin;have:=g3 [];rw[yaz] at this;rw[this];dsimp only;rw[ZS,g5, <-ZpA,show subEnts (erH hh) _ _=some (erH e2) from W4 (Zbq g7) g7]
     split at g6
     ·rename_i r0 hr0;have e4:=ZhA (Zbq g7) _ _ g6;rw[e4]
     ·rename_i hr0;have e4:=ZhA (Zbq g7) _ _ g6;rw[ZpA,ZN,ybe] at e4
      rw[hr0,show(TD.ers (lk hh) ds).map Dv.arg=ds.map (TD.er (lk hh) ∘ TD.arg (lk hh)) by
       rw[ZN,ybe];exact ycn λd _=>(ZHa d).symm,e4]
    have zB:Vt P c (TD.ers (lk H) args++yx (fn.ntmps - (TD.ers (lk H) args).length) .junk) (erH H) ex (TD.ers (lk hh) a) (erH hh):=by
     have e5:TD.ers (lk H) (args++yx (fn.ntmps - args.length) TD.junk)=TD.ers (lk H) args++yx (fn.ntmps - (TD.ers (lk H) args).length) .junk:=by
      rw[ZBJ,ZN,ZN,yas,List.map_replicate];rfl
     rw[<-e5];exact k3
    exact ZnM hf hb1 zB hex hfin g2
   ·cases hM
  ·cases hM
def ZQf(P:yg)(his:yu->HI)(l:yL (Fs P))(mt:yL (yc×String×yu))(n:Nat)(g:yu)(ghs:yu->yL (Nat×GOp):=λ_=>[]):yO Bool:=
 ZL3 P his l mt ghs n Bool g [] [] λr h=>match h with
  |[]=>r.boolT
  |_=>none
theorem ZOn{his:yu->HI}{l:yL (Fs P)}{mt:yL (yc×String×yu)}{ghs:yu->yL (Nat×GOp)}{n:Nat}{g:yu}{b:Bool}(hl:AllOk l)(hm:MtOk P mt)(h:ZQf P his l mt n g ghs=some b):Con P g [] [] (.p (.bool b)) []:=by
 obtain⟨r,H',h1,h2⟩:=ZIy hl hm n _ _ _ _ _ _ h;split at h1
 ·rw[Zkh h1] at h2;exact h2
 ·cases h1
theorem ZQg{his:yu->HI}{l:yL (Fs P)}{mt:yL (yc×String×yu)}{ghs:yu->yL (Nat×GOp)}{n:Nat}{g:yu}{b:Bool}(hl:AllOk l)(hm:MtOk P mt)(h:ZQf P his l mt n g ghs=some b):
 Fs.Ok (⟨g,[],[],[],[⟨.ret,[(0,.v .bool)],[],[.bool]⟩],λ_=>some b⟩:Fs P):=by
 intro x o hM;cases hM;refine⟨[],[],[],rfl,rfl,λe vs s' hs hf=> ?_⟩;obtain⟨rfl,rfl⟩:=hs;cases hf;exact⟨_,rfl,ZOn hl hm h⟩
end
theorem okN{P:yg}(s:Nat->Fs P)(h:(s yD).Ok):(s 18446744073709551616).Ok:=by
 rw[ZgL] at h;exact h
theorem ZL4{P:yg}{g:yu}{args:yL Dv}{H H1 H2:yL Ent}{r r2:Dv}{keep:yL Nat}(h:Con P g args H r H1)(ho:once (yv H.length++keep)=true)
 (hin:subEnts H1 (yv H.length++keep) (yv H.length++keep)=some H2) (hr:r.rn (toIds (yv H.length++keep))=some r2):Con P g args H r2 H2:=by
 intro σ vs ok e hv;refine Calls.mono (h σ vs ok e hv) ?_;rintro e' w' ⟨v,σ',h1,h2,h3,h4,h5,h6⟩;subst h3;subst e;exact⟨v,Zqx σ' (yv σ.H.length++keep) H2,h1,h2,rfl,Zwn ok h4 ho hin,Zwm h5 ho hin,Zhq (Zlk hin) hr h6⟩
def ZIz(h:yL TEnt)(n0:Nat)(r:TD)(e:XSh):yO (Ty.dens e.ty):=
 match e.sl with
 |[(0,rs)]=>(ZLW h rs e.es n0 r).bind λkeep=>
  if once (yv n0++keep) then(r.rn (toIds (yv n0++keep))).bind λr=>
   (Vd h (yv n0++keep) (yv n0++keep)).bind λh2=>(Sh.mt (lk h2) rs r).bind λq=>(ESh.mts (lk h2) e.es h2).bind λw=>toD e.ty (q.2++w.2)
  else none
 |_=>none
def ZxO(h:yL TEnt)(n0:Nat)(r:TD):(l:yL XSh)->yO (XSh.sum l)
 |[]=>none
 |[e]=>ZIz h n0 r e
 |e::f::q=>match ZIz h n0 r e with
  |some x=>some (Sum.inl x:Ty.dens e.ty⊕XSh.sum (f::q))
  |none=>(ZxO h n0 r (f::q)).map λx=>(Sum.inr x:Ty.dens e.ty⊕XSh.sum (f::q))
theorem Zu8{h:yL TEnt}{n0:Nat}{r:TD}:∀{l:yL XSh}{o:XSh.sum l},ZxO h n0 r l=some o->∀e vs,ZEK l o e vs->∃x,ZIz h n0 r e=some x/\vs=ofD e.ty x
 |[],_,k,_,_,_=>by cases k
 |[e],o,k,x,vs,hs=>by
  obtain⟨rfl,rfl⟩:=hs
  exact⟨o,k,rfl⟩
 |e::f::q,o,k,x,vs,hs=>by
  simp only[ZxO] at k;split at k
  ·rename_i y hy;cases k;obtain⟨rfl,rfl⟩:=hs;exact⟨y,hy,rfl⟩
  ·obtain⟨y,h1,h2⟩:=Zd k;subst h2;exact Zu8 h1 x vs hs
section
variable{P:yg}
def fnD(P:yg)(fi:FI)(specs:Sp P)(g:yu)(ps:yL Sh)(es:yL ESh)(ins:yL Ty)(xs:yL XSh):Ty.dens ins->yO (XSh.sum xs):=λx=>
 match P.funcs[g]? with
 |some fn=>match fn.body with
  |some c=>(Sh.fills ps (ofD ins x)).bind λq=>(ESh.fills es q.2).bind λw=>if w.2.isEmpty then
    evT P fi specs c 0 0 (q.1++yx (fn.ntmps - q.1.length) .junk) w.1 λex a h=>match ex with
     |.exit _=>none
     |_=>ZzE P a h fn.results.toList λds _=>ZJU h w.1.length ds λr h=>ZJT P fi.hi.deep r h λr h=>ZxO h w.1.length r xs
    else none
  |none=>none
 |none=>none
theorem ZOo{fi:FI}{specs:Sp P}{g:yu}{ps:yL Sh}{es:yL ESh}{ins:yL Ty}{xs:yL XSh}{M:Ty.dens ins->yO (XSh.sum xs)}(ok:SpOk specs)(hl:Zsw P g (Zd9 P g) fi.lp:=by exact True.intro)(hn:ps.length<=Zd9 P g:=by decide+kernel)
 (h:∀x,fnD P fi specs g ps es ins xs x=M x:=by intro v;kernel_rfl) (hb:ZA1 P (Zd9 P g) (ZfQ P g) fi.bk:=by exact True.intro):Fs.Ok (⟨g,ps,es,ins,xs,M⟩:Fs P):=by
 intro x o hM;have hM:M x=some o:=hM;rw[<-h x] at hM;have hl':=ZIu hl;unfold fnD at hM;split at hM
 ·rename_i fn hf;split at hM
  ·rename_i c hb1;obtain⟨q,h1,hM⟩:=yf.1 hM;obtain⟨w,h2,hM⟩:=yf.1 hM;obtain⟨h3,hM⟩:=Za hM;have hN:Zd9 P g=fn.ntmps:=by unfold Zd9;rw[hf]
   have hc:ZfQ P g=c:=by unfold ZfQ;rw[hf];dsimp only;rw[hb1];rfl
   rw[hc,hN] at hl' hb;have hb0:=ZCx hb;rw[hN] at hn
   have zW:(q.1++yx (fn.ntmps - q.1.length) TD.junk).length=fn.ntmps:=by
    rw[yo,yct,Zpx h1];omega
   obtain⟨ex,a,hh,k1,k2,k3⟩:=VF ok c _ _ _ _ _ zW hl' hb0 hM
   have hex:(ex=.ret\/ex=.normal)/\(ZzE P a hh fn.results.toList λds _=>ZJU hh w.1.length ds λr h=>ZJT P fi.hi.deep r h λr h=>ZxO h w.1.length r xs)=some o:=by
    cases ex with
    |exit _=>cases k1
    |normal=>exact⟨.inr rfl,k1⟩
    |ret=>exact⟨.inl rfl,k1⟩
   obtain⟨hex,k1⟩:=hex;obtain⟨ds,hs,C,g1,g2,g3⟩:=Zkl _ _ k1;refine⟨q.1,q.2,w.1,h1, ?_,λe vs s' hsel hfs=> ?_⟩
   ·rw[h2];have:w.2=[]:=by simpa using h3
    rw[<-this]
   unfold ZJU at g1;dsimp only at g1;generalize ZCy hh w.1.length (ZxI ds)=keep at g1;obtain⟨g5,g1⟩:=Za g1;obtain⟨r,g6,g1⟩:=yf.1 g1;obtain⟨e2,g7,g1⟩:=yf.1 g1
   have zB:Vt P c (TD.ers (lk w.1) q.1++yx (fn.ntmps - (TD.ers (lk w.1) q.1).length) .junk) (erH w.1) ex (TD.ers (lk hh) a) (erH hh):=by
    have e5:TD.ers (lk w.1) (q.1++yx (fn.ntmps - q.1.length) TD.junk)=TD.ers (lk w.1) q.1++yx (fn.ntmps - (TD.ers (lk w.1) q.1).length) .junk:=by
     rw[ZBJ,ZN,ZN,yas,List.map_replicate];rfl
    rw[<-e5];exact k3
   have hfin:fin P fn (TD.ers (lk hh) a) (erH hh) (erH w.1).length keep hs=some (C,r.er (lk e2),erH e2):=by
    unfold fin;have:=g3 [];rw[yaz] at this;rw[this];dsimp only;rw[ZS,g5, <-ZpA,show subEnts (erH hh) _ _=some (erH e2) from W4 (Zbq g7) g7]
    split at g6
    ·rename_i r0 hr0;have e4:=ZhA (Zbq g7) _ _ g6;rw[e4]
    ·rename_i hr0;have e4:=ZhA (Zbq g7) _ _ g6;rw[ZpA,ZN,ybe] at e4
     rw[hr0,show(TD.ers (lk hh) ds).map Dv.arg=ds.map (TD.er (lk hh) ∘ TD.arg (lk hh)) by
      rw[ZN,ybe];exact ycn λd _=>(ZHa d).symm,e4]
   obtain⟨r',H',m1,m2⟩:=ZA5 g1 (ZnM hf hb1 zB hex hfin g2);obtain⟨o1,m3,hvs⟩:=Zu8 m1 e vs hsel;unfold ZIz at m3;split at m3
   case h_2=>cases m3
   rename_i rs hsl;obtain⟨keep2,n1,m3⟩:=yf.1 m3;obtain⟨n2,m3⟩:=Za m3;obtain⟨r3,n3,m3⟩:=yf.1 m3;obtain⟨e3,n4,m3⟩:=yf.1 m3;obtain⟨z,g8,m3⟩:=yf.1 m3;obtain⟨y,g9,m3⟩:=yf.1 m3;obtain⟨b1,b2⟩:=Zkk g9;have hcc:∀id t,Yb (lk e3) id t none=Yb (lk y.1) id t none:=λid t=>by rw[b2]
   have eo:=Zev _ _ _ m3
   have efill:s'=([z.1],y.1):=by
    rw[hvs,eo,hsl] at hfs;unfold Zba at hfs;rw[show shs [(0,rs)] 1=[rs] from rfl] at hfs
    simp only[Sh.fills,Zpv _ _ _ g8,ya,yaa] at hfs;have:=ZbT g9 [];rw[yaz] at this;rw[this] at hfs;exact(ybn hfs).symm
   subst efill;refine⟨z.1,rfl, ?_⟩
   have hk:Con P g (TD.ers (lk w.1) q.1) (erH w.1) (r3.er (lk e3)) (erH e3):=by
    refine ZL4 (keep:=keep2) m2 (by rw[ZS];exact n2) ?_ ?_
    ·rw[ZS];exact W4 (Zbq n4) n4
    ·rw[ZS];exact ZhA (Zbq n4) _ _ n3
   exact ZEf hk (Zxs hcc _ _ _ g8) (Zpw hcc g9)
  ·cases hM
 ·cases hM
end
end Go.Ev
end
section
namespace Go.Ev
open Go.RowKit Go.WideShapes Go.ChangeShapes
def YA(P:yg):Nat->yc->Bool
 |0,_=>false
 |n+1,t=>match P.underlying t with
  |some .bool=>true
  |some (.int _)=>true
  |some .string=>true
  |some (.slice e)=>YA P n e&&decide (0 < P.cellsOf e)
  |some (.array m e)=>YA P n e&&P.cellsOf t==m*P.cellsOf e
  |some (.struct fs)=>(fs.toList.all λf=>YA P n f.type)&&P.cellsOf t==(fs.toList.map λf=>P.cellsOf f.type).sum&&
    ((yv fs.toList.length).all λj=>match fs.toList[j]? with|some f=>f.offset==((fs.toList.take j).map λf=>P.cellsOf f.type).sum|none=>true)
  |_=>false
theorem ZCA(P:yg):Kids P (λt=>∃n,YA P n t=true) where
 pointer:=by
  rintro t e ⟨n,h⟩ hu
  cases n with
  |zero=>simp[YA] at h
  |succ n=>simp[YA,hu] at h
 slice:=by
  rintro t e ⟨n,h⟩ hu
  cases n with
  |zero=>simp[YA] at h
  |succ n=>simp[YA,hu] at h;exact⟨n,h.1⟩
 array:=by
  rintro t e m ⟨n,h⟩ hu
  cases n with
  |zero=>simp[YA] at h
  |succ n=>simp[YA,hu] at h;exact⟨⟨n,h.1⟩,h.2⟩
 struct:=by
  rintro t fs ⟨n,h⟩ hu
  cases n with
  |zero=>simp[YA] at h
  |succ n=>
   simp only[YA,hu,yj,yT,List.all_eq_true] at h;obtain⟨⟨h1,h2⟩,h3⟩:=h;refine⟨λf hf=>⟨n,h1 f hf⟩,h2,λj f hf=> ?_⟩;have hj:j < fs.toList.length:=(yq.1 hf).1;have:=h3 j (by simpa using hj);rw[hf] at this;simpa using this
 map:=by
  rintro t k e ⟨n,h⟩ hu
  cases n with
  |zero=>simp[YA] at h
  |succ n=>simp[YA,hu] at h
def ZOp(R:yc->Pl->Prop):yL Field->yL Pl->Prop
 |[],[]=>True
 |f::fs,y::ys=>R f.type y/\ZOp R fs ys
 |_,_=>False
def wtP(P:yg):Nat->yc->Pl->Prop
 |0,_,_=>False
 |n+1,t,x=>match P.underlying t,x with
  |some .bool,.bool _=>True
  |some (.int k),.int k' m=>k'=k/\(Lit.int k m).wf=true
  |some .string,.str s=>s.size<=maxLen
  |some (.slice e),.sl nn s xs=>s=P.cellsOf e/\nn=none/\xs.length<=maxLen/\∀y,y∈xs->wtP P n e y
  |some (.array m e),.arr m' s xs=>m'=m/\s=P.cellsOf e/\xs.length=m/\∀y,y∈xs->wtP P n e y
  |some (.struct fs),.agg xs=>ZOp (wtP P n) fs.toList xs
  |_,_=>False
def ZCB:Nat->Nat->Prop:=λ_ _=>True
section
variable{H:Type}{enc:yc×yh->H}{P:yg}{w:World}{base:Nat}{sp:Nat->Bool}{held:Bool}
theorem ZJV:∀{s:Nat}{a:Addr}{cs:yL yh},w.cells? base a s=some cs->cs.length=s/\∀j u,cs[j]? =some u->w.cell? (a.add j)=some u:=by
 intro s a cs h;unfold World.cells? at h;split at h
 ·have hl:cs.length=s:=by simpa using mapM_some_length h
  refine⟨hl,λj u hu=> ?_⟩;have hj:j < s:=by rw[<-hl];exact(yq.1 hu).1
  have:=mapM_some_get h j j (by simp[hj]);rw[hu] at this;exact this
 ·cases h
theorem ZIA{e:yc}{n m:Nat}{a:Addr}{s:Nat}(hs:0 < s){elems:yL (DataW H×yL MemPlace)}{len:Nat}(zW:elems.length=len)
 (ih:∀(cs:yL yh)(x:DataW H×yL MemPlace),DataW.trod enc P w base sp held m e cs=some x->cs.length=s->∃pl,wtP P n e pl/\repC w ZCB pl cs)
 (h:∀i,i < len->(w.cells? base (a.add (i*s)) s).bind (DataW.trod enc P w base sp held m e)=elems[i]?):
 ∀k,k<=len->∃(xs:yL Pl)(us:yL yh),xs.length=k/\(∀y,y∈xs->wtP P n e y)/\allSz s xs/\us.length=k*s/\repCs w ZCB xs us/\(∀j u,us[j]? =some u->w.cell? (a.add j)=some u)
 |0,_=>⟨[],[],rfl,(λy hy=>by cases hy),(λy hy=>by cases hy),by simp,by simp[repCs],by simp⟩
 |k+1,hk=>by
  obtain⟨xs,us,h1,h2,h3,h4,h5,h6⟩:=ZIA hs zW ih h k (by omega);have hk':=h k (by omega);rw[yab (by omega)] at hk';obtain⟨cs,hc,ht⟩:=yf.1 hk';obtain⟨c1,c2⟩:=ZJV hc;obtain⟨pl,p1,p2⟩:=ih cs _ ht c1;have psz:pl.size=s:=by rw[<-W8 _ _ p2,c1]
  refine⟨xs++[pl],us++cs,by simp[h1],λy hy=> ?_,λy hy=> ?_,by simp[h4,c1,yba],YM h5 (by simpa[repCs] using p2),λj u hu=> ?_⟩
  ·rcases yah.1 hy with hy|hy
   ·exact h2 y hy
   ·rw[yav.1 hy];exact p1
  ·rcases yah.1 hy with hy|hy
   ·exact h3 y hy
   ·rw[yav.1 hy];exact psz
  ·by_cases hj:j < us.length
   ·rw[yar hj] at hu;exact h6 j u hu
   ·rw[yat (by omega)] at hu;have:=c2 _ _ hu;rw[Addr.add_add] at this;rw[<-this];congr 2;omega
theorem ZE6{e:yc}{n m:Nat}{s:Nat}{cs:yL yh}{elems:yL (DataW H×yL MemPlace)}{len:Nat}(zW:elems.length=len)(hcs:cs.length=len*s)
 (ih:∀(cs:yL yh)(x:DataW H×yL MemPlace),DataW.trod enc P w base sp held m e cs=some x->cs.length=s->∃pl,wtP P n e pl/\repC w ZCB pl cs)
 (h:∀i,i < len->DataW.trod enc P w base sp held m e ((cs.drop (i*s)).take s)=elems[i]?):
 ∀k,k<=len->∃(xs:yL Pl),xs.length=k/\(∀y,y∈xs->wtP P n e y)/\allSz s xs/\repCs w ZCB xs (cs.take (k*s))
 |0,_=>⟨[],rfl,(λy hy=>by cases hy),(λy hy=>by cases hy),by simp[repCs]⟩
 |k+1,hk=>by
  obtain⟨xs,h1,h2,h3,h5⟩:=ZE6 zW hcs ih h k (by omega);have hk':=h k (by omega);rw[yab (by omega)] at hk';have hle:k*s+s<=len*s:=by rw[<-Nat.succ_mul];exact yci _ hk
  have c1:((cs.drop (k*s)).take s).length=s:=by simp;omega
  obtain⟨pl,p1,p2⟩:=ih _ _ hk' c1;have psz:pl.size=s:=by rw[<-W8 _ _ p2,c1]
  refine⟨xs++[pl],by simp[h1],λy hy=> ?_,λy hy=> ?_, ?_⟩
  ·rcases yah.1 hy with hy|hy
   ·exact h2 y hy
   ·rw[yav.1 hy];exact p1
  ·rcases yah.1 hy with hy|hy
   ·exact h3 y hy
   ·rw[yav.1 hy];exact psz
  ·rw[yba,Nat.one_mul,List.take_add];exact YM h5 (by simpa[repCs] using p2)
theorem ZA6{n m:Nat}{cs:yL yh}
 (ih:∀(t:yc),YA P n t=true->∀(cs:yL yh)(x:DataW H×yL MemPlace),DataW.trod enc P w base sp held m t cs=some x->∃pl,wtP P n t pl/\repC w ZCB pl cs):
 ∀(fs:yL Field)(o:Nat),(∀f,f∈fs->YA P n f.type=true)->(∀(j:Nat)f,fs[j]? =some f->f.offset=o+((fs.take j).map λf=>P.cellsOf f.type).sum)->
  cs.length=o+(fs.map λf=>P.cellsOf f.type).sum->(∀(j:Nat)f,fs[j]? =some f->∃x,DataW.trod enc P w base sp held m f.type ((cs.drop f.offset).take (P.cellsOf f.type))=some x)->
  ∃(xs:yL Pl),ZOp (wtP P n) fs xs/\repCs w ZCB xs (cs.drop o)
 |[],o,_,_,hl,_=>⟨[],zP,by simp only[repCs];apply List.drop_eq_nil_of_le;simp at hl;omega⟩
 |f::fs,o,hp,ho,hl,h=>by
  obtain⟨x,hx⟩:=h 0 f rfl;have ho0:=ho 0 f rfl;simp at ho0;rw[ho0] at hx;obtain⟨pl,p1,p2⟩:=ih f.type (hp f (yaw ..)) _ _ hx;simp only[yag,List.sum_cons] at hl
  obtain⟨xs,q1,q2⟩:=ZA6 ih fs (o+P.cellsOf f.type) (λg hg=>hp g (yay _ hg)) (λj g hg=>by
   have:=ho (j+1) g hg;simp only[List.take_succ_cons,yag,List.sum_cons] at this;omega) (by omega) (λj g hg=>h (j+1) g hg)
  refine⟨pl::xs,⟨p1,q1⟩, ?_⟩;simp only[repCs];refine⟨(cs.drop o).take (P.cellsOf f.type),(cs.drop o).drop (P.cellsOf f.type),(ybm ..).symm,p2, ?_⟩;rw[List.drop_drop];exact q2
theorem ZOq:∀(n m:Nat)(t:yc),YA P n t=true->∀(cs:yL yh)(x:DataW H×yL MemPlace),DataW.trod enc P w base sp held m t cs=some x->∃pl,wtP P n t pl/\repC w ZCB pl cs:=by
 intro n
 induction n with
 |zero=>intro m t h;simp[YA] at h
 |succ n ih=>
  intro m t ht cs x h;unfold YA at ht;split at ht
  ·rename_i hu;obtain⟨b,rfl,_⟩:=DataW.trod_bool hu h;exact⟨.bool b,by simp[wtP,hu],by simp[repC]⟩
  ·rename_i k hu;obtain⟨z,rfl,rfl,hw⟩:=DataW.trod_int hu h;exact⟨.int k z,by simp[wtP,hu,hw],by simp[repC]⟩
  ·rename_i hu;obtain⟨s,rfl,h2⟩:=DataW.trod_string hu h;exact⟨.str s,by simp[wtP,hu];exact h2.2,by simp[repC]⟩
  ·rename_i e hu;simp only[yj,yP] at ht;rcases DataW.trod_slice hu h with⟨rfl,rfl⟩|⟨a,len,cap,elems,yK,m',rfl,rfl,rfl,_,hle,hcap,zW,hel,_⟩
   ·exact⟨.sl none (P.cellsOf e) [],by simp[wtP,hu],by simp only[repC];exact⟨(λy hy=>by cases hy),none,0,rfl,ym _,Nat.zero_le _,Yx _,λ_=>rfl,λh=>absurd rfl h⟩⟩
   ·obtain⟨xs,us,h1,h2,h3,h4,h5,h6⟩:=ZIA (n:=n) ht.2 zW (λcs x hx _=>ih m' e ht.1 cs x hx) hel len (ym _);refine⟨.sl none (P.cellsOf e) xs,by simp only[wtP,hu];exact⟨zP,zP,by omega,h2⟩, ?_⟩;simp only[repC];refine⟨h3,some a,cap,by rw[h1],by omega,hcap,Yx _,by simp,λhne=> ?_⟩
    have hpos:0 < us.length:=by
     rw[h4];have:0 < len:=by rw[<-h1];exact List.length_pos_iff.2 hne
     exact Nat.mul_pos this ht.2
    have hc0:=h6 0 us[0] (yab hpos);obtain⟨b,o,spot⟩:=a
    have hspot:spot=none:=by
     cases spot with
     |none=>rfl
     |some z=>
      exfalso;unfold World.cell? at hc0;split at hc0
      ·simp[Addr.add] at hc0
      ·cases hc0
    subst hspot;exact⟨b,o,us,rfl,h5,λj u hu=>⟨by have:=h6 j u hu;rwa [Addr.add_lit] at this,ytt⟩⟩
  ·rename_i k e hu;simp only[yj,yT] at ht;obtain⟨elems,m',rfl,rfl,hl,zW,hel⟩:=DataW.trod_array hu h;obtain⟨xs,h1,h2,h3,h4⟩:=ZE6 (n:=n) (s:=P.cellsOf e) zW (by rw[hl,ht.2]) (λcs x hx _=>ih m' e ht.1 cs x hx) hel k (ym _);rw[List.take_of_length_le (by rw[hl,ht.2];exact ym _)] at h4;exact⟨.arr k (P.cellsOf e) xs,by simp only[wtP,hu];exact⟨zP,zP,h1,h2⟩,by simp only[repC];exact⟨h1,h3,h4⟩⟩
  ·rename_i fs hu;simp only[yj,yT,List.all_eq_true] at ht;obtain⟨⟨t1,t2⟩,t3⟩:=ht;obtain⟨elems,m',rfl,rfl,hl,zW,hel⟩:=DataW.trod_struct hu h
   obtain⟨xs,q1,q2⟩:=ZA6 (n:=n) (m:=m') (cs:=cs) (λt ht cs x hx=>ih m' t ht cs x hx) fs.toList 0 t1 (λj f hf=>by
    have hj:j < fs.toList.length:=(yq.1 hf).1;have:=t3 j (by simpa using hj);rw[hf] at this;simpa using this) (by rw[hl,t2];omega) (λj f hf=>by
    have hj:j < fs.toList.length:=(yq.1 hf).1;have:=hel j f (by simpa using hf);rw[yab (by rw[zW];simpa using hj)] at this;exact⟨_,this⟩)
   exact⟨.agg xs,by simp only[wtP,hu];exact q1,by simp only[repC];simpa using q2⟩
  ·cases ht
end
end Go.Ev
namespace Go.Ev
open Go.RowKit Go.WideShapes Go.ChangeShapes
def ZOr(P:yg)(n:Nat):yL yc->yL Pl->Prop
 |[],[]=>True
 |t::ts,x::xs=>wtP P n t x/\ZOr P n ts xs
 |_,_=>False
section
variable{H:Type}{enc:yc×yh->H}{P:yg}
def sg0(W:World):Sg:={ F:=ZCB,B:=λb=>W.heap.size<=b,m:=[],H:=[],w:=W}
theorem ZQh(W:World):Ok (sg0 W) where
 len:=rfl
 inj i j b h:=by simp[sg0] at h
 lt i b h:=by simp[sg0] at h
 ent i e a h:=by simp[sg0] at h
 new b h:=h
 own i b h:=by simp[sg0] at h
theorem ZL5(W:World)(b o:Nat):(sg0 W).stab b o:=⟨.inl trivial,λid e h=>by simp[sg0] at h⟩
theorem ZxP{W:World}{x:Pl}{v:yh}{cs:yL yh}(hx:repC W ZCB x cs)(hc:v.cells.toList=cs)(hv:x.isAgg=true->∃a,v=.agg a)(hn:x.isAgg=false->cs=[v]):yJ (sg0 W) (.p x) v:=by
 have hm:repC W (sg0 W).stab x cs:=Zb3 (λb o u h _=>⟨h,ZL5 W b o⟩) x cs hx;refine⟨λha=> ?_,λha=> ?_⟩
 ·obtain⟨a,rfl⟩:=hv ha;refine⟨a,rfl, ?_⟩;simp only[yH];have:a.toList=cs:=by rw[<-hc];rfl
  rw[this];exact hm
 ·simp only[yH];have e:=hn ha;rw[<-e];exact hm
theorem ZQi:∀{n:Nat}{t:yc}{x:Pl},wtP P n t x->x.isAgg=WR P t
 |0,_,_,h=>by simp[wtP] at h
 |n+1,t,x,h=>by
  unfold wtP at h;split at h <;> rename_i hu <;> first|(simp[Pl.isAgg,WR,hu];done)|exact h.elim
theorem ZIB{W:World}{n:Nat}(hval:∀(t:yc)(v:yh),WR P t=true->Value.okWide P W .any 0 t v->∃a,v=.agg a):
 ∀(ts:yL yc)(vs:yL yh)(ds:yL (DataW H))(ps:yL MemPlace),(∀t,t∈ts->YA P n t=true)->(∀(j:Nat)t v,ts[j]? =some t->vs[j]? =some v->(WR P t=true->∃a,v=.agg a)/\(WR P t=false->v.cells.toList=[v]))->
  DataW.TrodAll enc P W 0 (λ_=>true) true ts vs ds ps->∃xs,ZOr P n ts xs/\repVs (sg0 W) (xs.map .p) vs
 |[],[],[],_,_,_,_=>⟨[],zP,by simp[repVs]⟩
 |[],_::_,_,_,_,_,h=>by simp[DataW.TrodAll] at h
 |[],[],_::_,_,_,_,h=>by simp[DataW.TrodAll] at h
 |_::_,[],_,_,_,_,h=>by simp[DataW.TrodAll] at h
 |_::_,_::_,[],_,_,_,h=>by simp[DataW.TrodAll] at h
 |t::ts,v::vs,d::ds,ps,hp,hv,h=>by
  obtain⟨p,q,⟨yD,h1⟩,h2,rfl⟩:=h;obtain⟨x,x1,x2⟩:=ZOq n yD t (hp t (yaw ..)) _ _ h1;obtain⟨xs,xs1,xs2⟩:=ZIB hval ts vs ds q (λu hu=>hp u (yay _ hu)) (λj u w' hj hw=>hv (j+1) u w' hj hw) h2;obtain⟨v1,v2⟩:=hv 0 t v rfl rfl;refine⟨x::xs,⟨x1,xs1⟩, ?_⟩;simp only[yag,repVs];have ha:=ZQi x1;exact⟨v,vs,rfl,ZxP x2 rfl (λe=>v1 (by rw[<-ha];exact e)) (λe=>v2 (by rw[<-ha];exact e)),xs2⟩
theorem ZqA{W W':World}{sp':Nat->Bool}{n:Nat}:∀(ts:yL yc)(vs:yL yh)(ds:yL (DataW H))(ps:yL MemPlace),(∀t,t∈ts->YA P n t=true)->
 DataW.TrodAll enc P W 0 (λ_=>true) true ts vs ds ps->(∀p∈ps,W.sameAt W' p)->(∀p∈ps,sp' p.block=true)->DataW.TrodAll enc P W' 0 sp' true ts vs ds ps
 |[],[],[],_,_,h,_,_=>h
 |[],_::_,_,_,_,h,_,_=>by simp[DataW.TrodAll] at h
 |[],[],_::_,_,_,h,_,_=>by simp[DataW.TrodAll] at h
 |_::_,[],_,_,_,h,_,_=>by simp[DataW.TrodAll] at h
 |_::_,_::_,[],_,_,h,_,_=>by simp[DataW.TrodAll] at h
 |t::ts,v::vs,d::ds,ps,hp,h,hs,hb=>by
  obtain⟨p,q,⟨yD,h1⟩,h2,rfl⟩:=h;refine⟨p,q,⟨yD, ?_⟩,ZqA ts vs ds q (λu hu=>hp u (yay _ hu)) h2 (λz hz=>hs z (List.mem_append_right _ hz)) (λz hz=>hb z (List.mem_append_right _ hz)),rfl⟩
  exact DataW.trod_stays (ZCA P) (λ{t e}⟨n,hn⟩hu=>by
   cases n with
   |zero=>simp[YA] at hn
   |succ n=>simp[YA,hu] at hn;exact hn.2) (by simp) ⟨n,hp t (yaw ..)⟩ h1 (λz hz=>hs z (List.mem_append_left _ hz)) (λz hz=>hb z (List.mem_append_left _ hz))
theorem ZE7{W:World}{σ':Sg}(h:To (sg0 W) σ'):Below W.heap.size W σ'.w:=
 ⟨h.os,h.tape,h.output,h.size,λb hb=>h.block b hb (λid=>by simp[sg0])⟩
theorem ZxQ{f:Func}{s:ChangeSpec}{apart fresh handsOn again:Bool}{W W':World}{args:Array yh}{v:yh}{ds gs:yL (DataW H)}{before pa pv:yL MemPlace}
 (hW:DataW.Whole enc P f.params.toList s.vars apart W args.toList ds gs before)
 (hres:∀(b:Nat)(sp:Nat->Bool)(hd:Bool),DataW.TrodAll enc P W' b sp hd f.resultTypes.toList (v.resultList f.resultTypes.size) (s.fn H (ds++gs)).results [])
 (yR:∀sp:Nat->Bool,(∀p∈before,sp p.block=true)->DataW.TrodAll enc P W' 0 sp true f.params.toList args.toList (s.fn H (ds++gs)).args pa)
 (hvars:∀sp:Nat->Bool,(∀p∈before,sp p.block=true)->DataW.TrodVars enc P W' sp s.vars (s.fn H (ds++gs)).vars pv)
 (hps:before=pa++pv) (hb:Below W.heap.size W W')
 (hok:∀(j:Nat)(t:yc)(r:yh),f.resultTypes[j]? =some t->(v.resultList f.resultTypes.size)[j]? =some r->Value.okWide P W' .any 0 t r):
 s.post enc P f apart fresh handsOn again W args v W':=by
 have hlt:∀p∈before,p.block < W.heap.size:=λp hp=>hW.lt p hp;have hold:∀p∈before,(λb=>decide (b < W.heap.size)) p.block=true:=λp hp=>by simpa using hlt p hp
 refine⟨ds,gs,before,[],pa,pv,hW,hres _ _ _,yR _ hold,hvars _ hold,World.keptBut_mono (λp hp=>⟨hp, ?_⟩) (hb.frame (· ∈before)),λ_=> ?_⟩
 ·rw[hps,yah] at hp;exact Or.inr hp
 ·obtain⟨_,_,_,_,_,hz,hn⟩:=hW;refine⟨hok,_,_,([]++pa)++pv,⟨[]++pa,pv,trodAll_append (yR _ (λ_ _=>rfl)) (hres _ _ _),hvars _ (λ_ _=>rfl),rfl, ?_, ?_⟩, ?_⟩
  ·intro b off hp;have hin:MemPlace.cell b off∈before:=by rw[hps];simpa using hp
   rw[hb.frozen (hlt _ hin)];exact hz b off hin
  ·intro ha;have:=hn ha;rw[hps] at this;simpa using this
  ·intro p hp _;rw[hps];simpa using hp
theorem ZCC{f:yu}{fn:Func}{s:ChangeSpec}{n:Nat}{tb:yc}(hr:fn.resultTypes= #[tb])(ht:P.underlying tb=some .bool)(hv:s.vars=[])
 (hs:∀ds:yL (DataW H),ds.length=fn.params.toList.length->s.fn H ds={ results:=[.lit (.bool true)],args:=ds}) (hp:∀t,t∈fn.params.toList->YA P n t=true)
 (W:World) (base:Nat) (args:Array yh) (ds gs:yL (DataW H)) (before:yL MemPlace)
 (hval:∀(j:Nat)t v,fn.params[j]? =some t->args[j]? =some v->Value.okWide P W .any base t v) (hW:DataW.Whole enc P fn.params.toList s.vars false W args.toList ds gs before)
 (hc:∀xs:yL Pl,ZOr P n fn.params.toList xs->repVs (sg0 W) (xs.map .p) args.toList->Con P f (xs.map .p) [] (.p (.bool true)) []):
 Calls P f args W λe W'=>∃v,e=.returned v/\s.post enc P fn false true false false W args v W':=by
 have hW':=hW;obtain⟨p,q,hA,hV,rfl,hfz,hnd⟩:=hW;rw[hv] at hV
 obtain⟨rfl,rfl⟩:gs=[]/\q=[]:=by
  cases gs with
  |nil=>exact⟨rfl,hV⟩
  |cons g r=>simp[DataW.TrodVars] at hV
 have zW:=trodAll_length hA
 obtain⟨xs,x1,x2⟩:=ZIB (enc:=enc) (P:=P) (W:=W) (n:=n) (λt v ha hok=>by
  unfold Value.okWide at hok;unfold WR at ha;split at hok
  ·obtain⟨cs,rfl,_⟩:=hok;exact⟨cs,rfl⟩
  ·obtain⟨cs,rfl,_⟩:=hok;exact⟨cs,rfl⟩
  ·rename_i h1 h2;split at ha
   ·rename_i fs hu;exact absurd hu (h1 fs)
   ·rename_i k e hu;exact absurd hu (h2 k e)
   ·cases ha) fn.params.toList args.toList ds p hp (λj t v hj hvv=>by
  have hok:=hval j t v (by simpa using hj) (by simpa using hvv);refine⟨λha=> ?_,λha=> ?_⟩
  ·unfold Value.okWide at hok;unfold WR at ha;split at hok
   ·obtain⟨cs,rfl,_⟩:=hok;exact⟨cs,rfl⟩
   ·obtain⟨cs,rfl,_⟩:=hok;exact⟨cs,rfl⟩
   ·rename_i h1 h2;split at ha
    ·rename_i fs hu;exact absurd hu (h1 fs)
    ·rename_i k e hu;exact absurd hu (h2 k e)
    ·cases ha
  ·obtain⟨m,hm⟩:∃m,YA P (m+1) t=true:=by
    have:=hp t (List.mem_of_getElem? hj)
    cases n with
    |zero=>simp[YA] at this
    |succ n=>exact⟨n,this⟩
   unfold Value.okWide at hok;unfold YA at hm;unfold WR at ha;split at hm <;> rename_i hu <;> simp only[hu] at hok ha
   all_goals first
    |(cases ha;done)
    |(cases hm;done)
    |(unfold Cell.okWide Cell.ok at hok;simp only[hu] at hok;cases v <;> first|rfl|(simp at hok;done))) hA
 have hcall:=hc xs x1 x2 (sg0 W) args.toList (ZQh W) rfl x2;rw[Array.toArray_toList] at hcall;refine Calls.mono hcall ?_;rintro e W' ⟨v,σ',rfl,rfl,hH,hto,hok,yM⟩;have hbv:v=.bool true:=by simpa[yJ,Dv.isAgg,Pl.isAgg,yH,repC] using yM
 subst hbv;have hb:=ZE7 hto;simp only[yaz] at hW';have hlt:=hW'.lt
 have hsame:∀z∈p,W.sameAt σ'.w z:=by
  intro z hz;have hz':=hlt z hz
  cases z with
  |cell b o=>exact hb.cell (p:=⟨b,o,none⟩) hz'
  |map b=>exact hb.block b hz'
 have hfn:=hs ds zW.2;refine⟨_,rfl,ZxQ (pa:=p) (pv:=[]) hW' (λb sp hd=> ?_) (λsp h=> ?_) (λsp h=> ?_) (by simp) hb ?_⟩
 ·rw[yaz,hfn,hr];exact trodAll_cons_mk (shut_bool ht _) trodAll_mk0
 ·rw[yaz,hfn];exact ZqA fn.params.toList args.toList ds p hp hA hsame h
 ·rw[yaz,hfn,hv];rfl
 ·intro j t r hj hjr;rw[hr] at hj hjr
  cases j with
  |zero=>
   simp at hj;subst hj;have:r=.bool true:=by simpa[Value.resultList] using hjr.symm
   subst this
   exact okWide_bool_mk ht _
  |succ j=>simp at hj
end
end Go.Ev
namespace Go.Ev
end Go.Ev
end
section
namespace Go.Ev
mutual
def Ty.Wf:(t:Ty)->t.den->Prop
 |.int k,n=>(Lit.int k n).wf=true
 |.u8,_=>True
 |.u32,_=>True
 |.u64,_=>True
 |.bool,_=>True
 |.str,s=>s.size<=maxLen
 |.sl t,l=>List.length l<=maxLen/\∀x,List.Mem x l->Ty.Wf t x
 |.arr n t,l=>List.length l=n/\∀x,List.Mem x l->Ty.Wf t x
 |.st fs,x=>Ty.Wfs fs x
def Ty.Wfs:(fs:yL Ty)->Ty.dens fs->Prop
 |[],_=>True
 |[t],x=>Ty.Wf t x
 |t::u::r,x=>Ty.Wf t x.1/\Ty.Wfs (u::r) x.2
end
mutual
def ZHd(P:yg):Nat->yc->Ty->Bool
 |0,_,_=>false
 |n+1,t,T=>match P.underlying t,T with
  |some (.int .u8),.u8=>true
  |some (.int .u32),.u32=>true
  |some (.int .u64),.u64=>true
  |some (.int k),.int k'=>decide (k=k')
  |some .bool,.bool=>true
  |some .string,.str=>true
  |some (.slice e),.sl T'=>P.cellsOf e==T'.size&&ZHd P n e T'
  |some (.array m e),.arr m' T'=>m==m'&&(P.cellsOf e==T'.size&&ZHd P n e T')
  |some (.struct fs),.st Ts=>tyOks P n fs.toList Ts
  |_,_=>false
def tyOks(P:yg):Nat->yL Field->yL Ty->Bool
 |0,_,_=>false
 |_+1,[],[]=>true
 |n+1,f::fs,T::Ts=>ZHd P n f.type T&&tyOks P n fs Ts
 |_+1,_,_=>false
end
theorem ZRj{m:Int}(h:(Lit.int .u8 m).wf=true):∃b:yB,m=(b.toNat:Int):=by
 simp only[Lit.wf,yj,yP] at h;have h1:(0:Int)<=m:=h.1;have h2:m<=255:=h.2;refine⟨ybc m.toNat, ?_⟩;have:(ybc m.toNat).toNat=m.toNat:=by simp;omega
 rw[this];omega
theorem ZQj{m:Int}(h:(Lit.int .u32 m).wf=true):∃b:yV,m=(b.toNat:Int):=by
 simp only[Lit.wf,yj,yP] at h;have h1:(0:Int)<=m:=h.1;have h2:m<=4294967295:=h.2;refine⟨ybs m.toNat, ?_⟩;have:(ybs m.toNat).toNat=m.toNat:=by simp;omega
 rw[this];omega
theorem ZQk{m:Int}(h:(Lit.int .u64 m).wf=true):∃b:yU,m=(b.toNat:Int):=by
 simp only[Lit.wf,yj,yP] at h;have h1:(0:Int)<=m:=h.1;have h2:m<=18446744073709551615:=h.2;refine⟨yac m.toNat, ?_⟩;have:(yac m.toNat).toNat=m.toNat:=by simp;omega
 rw[this];omega
theorem ZHe{α β:Type}{f:α->β}{R:α->Prop}:∀{ys:yL β},(∀y,y∈ys->∃x,y=f x/\R x)->∃l:yL α,ys=l.map f/\∀x,List.Mem x l->R x
 |[],_=>⟨[],rfl,λx hx=>by cases hx⟩
 |y::ys,h=>by
  obtain⟨x,rfl,hx⟩:=h y (yaw ..);obtain⟨l,rfl,hl⟩:=ZHe (λz hz=>h z (yay _ hz))
  exact⟨x::l,rfl,λz hz=>by
   cases hz with
   |head=>exact hx
   |tail _ hz=>exact hl z hz⟩
mutual
theorem ZA7{P:yg}:∀(m n:Nat)(t:yc)(T:Ty)(x:Pl),ZHd P m t T=true->wtP P n t x->∃v:T.den,T.Wf v/\x=T.enc v
 |0,_,_,_,_,h,_=>by simp[ZHd] at h
 |_+1,0,_,_,_,_,h=>by simp[wtP] at h
 |m+1,n+1,t,T,x,h,hw=>by
  unfold ZHd at h;split at h
  ·rename_i hu;unfold wtP at hw;rw[hu] at hw;cases x <;> try exact hw.elim
   obtain⟨rfl,h2⟩:=hw;obtain⟨b,rfl⟩:=ZRj h2;exact⟨b,zP,rfl⟩
  ·rename_i hu;unfold wtP at hw;rw[hu] at hw;cases x <;> try exact hw.elim
   obtain⟨rfl,h2⟩:=hw;obtain⟨b,rfl⟩:=ZQj h2;exact⟨b,zP,rfl⟩
  ·rename_i hu;unfold wtP at hw;rw[hu] at hw;cases x <;> try exact hw.elim
   obtain⟨rfl,h2⟩:=hw;obtain⟨b,rfl⟩:=ZQk h2;exact⟨b,zP,rfl⟩
  ·rename_i k k' hu;have h:=yF h;subst h;unfold wtP at hw;rw[hu] at hw;cases x <;> try exact hw.elim
   obtain⟨rfl,h2⟩:=hw;exact⟨_,h2,rfl⟩
  ·rename_i hu;unfold wtP at hw;rw[hu] at hw;cases x <;> try exact hw.elim
   exact⟨_,zP,rfl⟩
  ·rename_i hu;unfold wtP at hw;rw[hu] at hw;cases x <;> try exact hw.elim
   exact⟨_,hw,rfl⟩
  ·rename_i e T' hu;simp only[yj,yT] at h;unfold wtP at hw;rw[hu] at hw;cases x <;> try exact hw.elim
   obtain⟨rfl,rfl,h3,h4⟩:=hw
   obtain⟨l,rfl,h5⟩:=ZHe λy hy=>(by
    obtain⟨v,a,b⟩:=ZA7 m n e T' y h.2 (h4 y hy);exact⟨v,b,a⟩:∃v:T'.den,y=T'.enc v/\T'.Wf v)
   refine⟨l,⟨by simpa using h3,h5⟩, ?_⟩;rw[h.1];rfl
  ·rename_i m0 e m' T' hu;simp only[yj,yT] at h;obtain⟨rfl,h⟩:=h;unfold wtP at hw;rw[hu] at hw;cases x <;> try exact hw.elim
   obtain⟨rfl,rfl,h3,h4⟩:=hw
   obtain⟨l,rfl,h5⟩:=ZHe λy hy=>(by
    obtain⟨v,a,b⟩:=ZA7 m n e T' y h.2 (h4 y hy);exact⟨v,b,a⟩:∃v:T'.den,y=T'.enc v/\T'.Wf v)
   refine⟨l,⟨by simpa using h3,h5⟩, ?_⟩;rw[h.1];rfl
  ·rename_i fs Ts hu;unfold wtP at hw;rw[hu] at hw;cases x <;> try exact hw.elim
   rename_i xs;obtain⟨v,h1,rfl⟩:=wt_tys m n fs.toList Ts xs h hw;exact⟨v,h1,rfl⟩
  ·cases h
theorem wt_tys{P:yg}:∀(m n:Nat)(fs:yL Field)(Ts:yL Ty)(xs:yL Pl),tyOks P m fs Ts=true->ZOp (wtP P n) fs xs->∃v:Ty.dens Ts,Ty.Wfs Ts v/\xs=Ty.encs Ts v
 |0,_,_,_,_,h,_=>by simp[tyOks] at h
 |m+1,n,[],[],[],h,hw=>⟨(),zP,rfl⟩
 |m+1,n,[],[],_::_,h,hw=>hw.elim
 |m+1,n,[],_::_,_,h,hw=>by cases h
 |m+1,n,_::_,[],_,h,hw=>by cases h
 |m+1,n,_::_,_::_,[],h,hw=>hw.elim
 |m+1,n,f::fs,[T],x::xs,h,hw=>by
  simp only[tyOks,yj] at h;obtain⟨v,h1,rfl⟩:=ZA7 m n f.type T x h.1 hw.1
  cases fs with
  |nil=>cases xs with
   |nil=>exact⟨v,h1,rfl⟩
   |cons _ _=>exact hw.2.elim
  |cons _ _=>
   cases m with
   |zero=>exact absurd h.2 (by simp[tyOks])
   |succ m=>exact absurd h.2 (by simp[tyOks])
 |m+1,n,f::fs,T::U::Ts,x::xs,h,hw=>by
  simp only[tyOks,yj] at h;obtain⟨v,h1,rfl⟩:=ZA7 m n f.type T x h.1 hw.1;obtain⟨w,h2,rfl⟩:=wt_tys m n fs (U::Ts) xs h.2 hw.2;exact⟨(v,w),⟨h1,h2⟩,rfl⟩
end
theorem ZA8{I X:Type}{step:I->yO (I⊕X)}(Inv:I->Prop)(mu:I->Nat)(Post:X->Prop)
 (h:∀i,Inv i->(∃j,step i=some (.inl j)/\Inv j/\mu j < mu i)\/(∃x,step i=some (.inr x)/\Post x)):∀(n:Nat)(i:I),Inv i->mu i < n->∃x,Zb step n i=some x/\Post x
 |0,i,_,hn=>by omega
 |n+1,i,hi,hn=>by
  unfold Zb;rcases h i hi with⟨j,h1,h2,h3⟩|⟨x,h1,h2⟩
  ·rw[h1,ya];exact ZA8 Inv mu Post h n j h2 (by omega)
  ·rw[h1,ya];exact⟨x,rfl,h2⟩
theorem Qm{I X:Type}{step:I->yO (I⊕X)}(Inv:I->Prop)(mu:I->Nat)(Post:X->Prop)
 (h:∀i,Inv i->(∃j,step i=some (.inl j)/\Inv j/\mu j < mu i)\/(∃x,step i=some (.inr x)/\Post x)) (i:I) (hi:Inv i) (hm:mu i < 18446744073709551616):∃x,Zb step yD i=some x/\Post x:=by
 refine ZA8 Inv mu Post h yD i hi ?_;rw[ZgL];exact hm
theorem ZU{z:Int}(h1: -9223372036854775808<=z)(h2:z<=9223372036854775807):wi z=z:=by
 simp only[wi,IntKind.wrap,IntKind.signed,IntKind.bits];simp;omega
theorem Zsy{α:Type}{l:yL α}{i:Int}{y:α}(h0:0<=i)(h:l[i.toNat]? =some y):idx l i=some y:=by
 unfold idx;rw[yW h0,h]
theorem Zea{α:Type}{l:yL α}{i:Nat}(h:i < l.length):∃y,l[i]? =some y:=⟨_,yab h⟩
theorem ZJ{i:Int}{n:Nat}(h1:0<=i)(h2:i < (n:Int)):inB i n=true:=by simp[inB,h1,h2]
theorem ZT{n m b:Nat}(h1:(n+m)*b<=140737488355328)(h2:n+m<=9223372036854775807):apB n m b=true:=by
 unfold apB;rw[yj];exact⟨yY h1,yY h2⟩
def tdv:(ts:yL Ty)->Ty.dens ts->yL TD
 |[],_=>[]
 |[t],x=>[.p (.v t x)]
 |t::u::r,x=>.p (.v t x.1)::tdv (u::r) x.2
theorem ZIC:∀(ts:yL Ty)(x:Ty.dens ts),Sh.fills (ts.map .v) (ofD ts x)=some (tdv ts x,[])
 |[],_=>rfl
 |[t],x=>by
  rw[show ofD [t] x=[⟨t,x⟩] from rfl,yag,yce,Sh.fills,Sh.fill]
  have e:=Xw t x;dsimp only;rw[e]
  rfl
 |t::u::r,x=>by
  have h:=ZIC (u::r) x.2;have e:=Xw t x.1;rw[show ofD (t::u::r) x=⟨t,x.1⟩::ofD (u::r) x.2 from rfl,yag,Sh.fills,Sh.fill]
  dsimp only;rw[e,yaa,ya,h];rfl
theorem ZL6{L:Lk}:∀(ts:yL Ty)(x:Ty.dens ts),TD.ers L (tdv ts x)=(Ty.encs ts x).map .p
 |[],_=>rfl
 |[t],x=>rfl
 |t::u::r,x=>by
  rw[show tdv (t::u::r) x=.p (.v t x.1)::tdv (u::r) x.2 from rfl,ZN,yag, <-ZN,ZL6 (u::r) x.2]
  rfl
theorem ZOs{P:yg}{g:yu}{ts:yL Ty}{M:Ty.dens ts->yO Bool}(hok:Fs.Ok (⟨g,ts.map .v,[],ts,[⟨.ret,[(0,.v .bool)],[],[.bool]⟩],M⟩:Fs P)){x:Ty.dens ts}(h:M x=some true):
 Con P g ((Ty.encs ts x).map .p) [] (.p (.bool true)) []:=by
 obtain⟨args,R,H,h1,h2,h3⟩:=hok x true h;have e:=(ZIC ts x).symm.trans (show Sh.fills (ts.map .v) (ofD ts x)=some (args,R) from h1)
 cases e;cases h2
 obtain⟨r,h4,h5⟩:=h3 _ [⟨.bool,true⟩] ([.p (.v .bool true)],[]) ⟨rfl,rfl⟩ (by
  simp only[Zba,shs];rfl)
 cases h4;rw[<-ZL6 (L:=lk [])];exact h5
theorem Zrp{P:yg}{s:Fs P}(h:s.Ok){M:Ty.dens s.ins->yO (XSh.sum s.xs)}(e:∀x,M x=s.M x):Fs.Ok (P:=P) { s with M:=M}:=by
 have:M=s.M:=funext e;subst this;exact h
def ZxR(P:yg)(m:Nat):yL yc->yL Ty->Bool
 |[],[]=>true
 |t::ts,T::Ts=>ZHd P m t T&&ZxR P m ts Ts
 |_,_=>false
theorem ZID{P:yg}{m n:Nat}:∀{ts:yL yc}{Ts:yL Ty}{xs:yL Pl},ZxR P m ts Ts=true->ZOr P n ts xs->∃v:Ty.dens Ts,Ty.Wfs Ts v/\xs=Ty.encs Ts v
 |[],[],[],_,_=>⟨(),zP,rfl⟩
 |[],[],_::_,_,h=>h.elim
 |[],_::_,_,h,_=>by cases h
 |_::_,[],_,h,_=>by cases h
 |_::_,_::_,[],_,h=>h.elim
 |t::ts,[T],x::xs,h,hw=>by
  simp only[ZxR,yj] at h;obtain⟨v,h1,rfl⟩:=ZA7 m n t T x h.1 hw.1
  cases ts with
  |nil=>cases xs with
   |nil=>exact⟨v,h1,rfl⟩
   |cons _ _=>exact hw.2.elim
  |cons _ _=>exact absurd h.2 (by simp[ZxR])
 |t::ts,T::U::Ts,x::xs,h,hw=>by
  simp only[ZxR,yj] at h;obtain⟨v,h1,rfl⟩:=ZA7 m n t T x h.1 hw.1;obtain⟨w,h2,rfl⟩:=ZID (Ts:=U::Ts) h.2 hw.2;exact⟨(v,w),⟨h1,h2⟩,rfl⟩
theorem ZCD{P:yg}{g:yu}{t:Ty}{xs:yL XSh}{MA M:Ty.dens [.sl t]->yO (XSh.sum xs)}(hA:Fs.Ok (⟨g,[.sl true t],[],[.sl t],xs,MA⟩:Fs P))
 (h1:M ([]:yL t.den)=none) (h2:∀(x:t.den)(l:yL t.den),M (x::l)=MA (x::l)):Fs.Ok (⟨g,[.v (.sl t)],[],[.sl t],xs,M⟩:Fs P):=by
 intro l o hM;have key:∀(l:yL t.den),Ty.cast (.sl t) (.sl t) l=some l:=λl=>Xw (.sl t) l
 have h3:∀l:yL t.den,M l=some o->MA l=some o/\l≠[]:=λl hl=>by
  cases l with
  |nil=>rw[h1] at hl;cases hl
  |cons x l=>exact⟨by rw[<-h2];exact hl,by simp⟩
 obtain⟨hMA,hne⟩:=h3 l hM;obtain⟨a1,R1,H1,f1,f2,f3⟩:=hA l o hMA
 have e1:a1=[.p (.sl (some true) t l)]/\R1=[]:=by
  have:Sh.fills [.sl true t] [(⟨.sl t,l⟩:TV)]=some (a1,R1):=f1;simp only[Sh.fills,Sh.fill] at this;rw[key l] at this;have this:some (([.p (.sl (some true) t l)]:yL TD),([]:yL TV))=some (a1,R1):=this;cases this;exact⟨rfl,rfl⟩
 obtain⟨rfl,rfl⟩:=e1;cases f2;refine⟨[.p (.v (.sl t) l)],[],[], ?_,rfl,λe vs s' hs hf=> ?_⟩
 ·show Sh.fills [.v (.sl t)] [(⟨.sl t,l⟩:TV)]=_;simp only[Sh.fills,Sh.fill];rw[key l];rfl
 ·obtain⟨r,r1,r2⟩:=f3 e vs s' hs hf;exact⟨r,r1,ZHY (xs:=List.map t.enc l) r2 λhl=>absurd (List.map_eq_nil_iff.1 hl) hne⟩
theorem ZL7{P:yg}{g:yu}{ps:yL Sh}{es:yL ESh}{ins:yL Ty}{xr xp:XSh}{MR:Ty.dens ins->yO (XSh.sum [xr])}{MP:Ty.dens ins->yO (XSh.sum [xp])}(c:Ty.dens ins->Bool)
 (hR:Fs.Ok (⟨g,ps,es,ins,[xr],MR⟩:Fs P)) (hP:Fs.Ok (⟨g,ps,es,ins,[xp],MP⟩:Fs P)):Fs.Ok (⟨g,ps,es,ins,[xr,xp],λx=>if c x=true then(MP x).map .inr else(MR x).map .inl⟩:Fs P):=by
 intro x o hM
 replace hM:(if c x=true then(MP x).map Sum.inr else(MR x).map Sum.inl)=some o:=hM
 split at hM
 ·obtain⟨y,h1,rfl⟩:=yp.1 hM;obtain⟨a,R,H,f1,f2,f3⟩:=hP x y h1;exact⟨a,R,H,f1,f2,λe vs s' hs hf=>f3 e vs s' hs hf⟩
 ·obtain⟨y,h1,rfl⟩:=yp.1 hM;obtain⟨a,R,H,f1,f2,f3⟩:=hR x y h1;exact⟨a,R,H,f1,f2,λe vs s' hs hf=>f3 e vs s' hs hf⟩
end Go.Ev
end
section
namespace Go.Proofs.YtdhclndplbopgaaGreat
open Go.Ev Go.RowKit Go.Lib
abbrev zN(t:Ty):List XSh:=[⟨.ret,[(0,.v t)],[],[t]⟩]
theorem ZHf(w:World):Calls yb 271 #[.slice none 0 0,.int .i64 0] w λe w'=>e=.returned (.slice none 0 0)/\w'=w:=by
 go_enter Tryz.func271,Tryz.ntmps271
 go_wp2
 go_ret
 exact⟨rfl,rfl⟩
theorem ZJW(n:Nat)(w:World)(h0:0 < n)(hn:n<=Zw):Calls yb 271 #[.slice none 0 0,.int .i64 n] w λe w'=>e=.returned (.slice (some ⟨w.heap.size,0,none⟩) 0 (grownCap w n 0 5))/\
 w'=w.drew.alloc (.cells (Builtin.zeroCells #[.int .u8 0] n++Builtin.zeroCells #[.int .u8 0] (grownCap w n 0 5 - n)) 5):=by
 have hb:n<=140737488355328:=hn;have h1:¬((n:Int) < 0):=by omega
 have h3:wrap64 ((n:Int) - ((0:Int) - (0:Int)))=(n:Int):=by unfold wrap64;omega
 have h3':wrap64 ((n:Int) - 0)=(n:Int):=by unfold wrap64;omega
 have h3'':wrap64 (n:Int)=(n:Int):=by unfold wrap64;omega
 have h4:(n:Int) > 0:=by omega
 have hi:∃i,yb.info? 5=some i/\i.zero=some (.int .u8 0)/\i.size=1/\i.bytes=1:=by
  have h:(yb.info? 5).map (λi=>(i.zero,i.size,i.bytes))=some (some (.int .u8 0),1,1):=by kernel_rfl
  obtain⟨i,h1,h2⟩:=yp.1 h;simp only[Prod.mk.injEq] at h2;exact⟨i,h1,h2.1,h2.2.1,h2.2.2⟩
 obtain⟨i,hi1,hi2,hi3,hi4⟩:=hi
 have hrz:∀ty,(Builtin.append_ #[93,3] ty #[.slice none 0 0,.int .i64 n]).run yb w=
  .ok (.slice (some ⟨w.heap.size,0,none⟩) n (grownCap w n 0 5)) (w.drew.alloc (.cells (Builtin.zeroCells #[.int .u8 0] n++Builtin.zeroCells #[.int .u8 0] (grownCap w n 0 5 - n)) 5)):=λty=>by
  have h:=Lib.run_append_grow_zeros (P:=yb) w 93 3 ty 5 i (.int .u8 0) .i64 .i64 Tryz.underlying93 Tryz.underlying3 hi1 hi2 none 0 0 [] (by rw[hi3];simp[Builtin.firstCells]) n h0 (by omega) (by omega) (by omega)
   (by rw[hi4];omega) (by rw[ybh];exact growslice_fits h0 (by rw[hi4];omega))
  simpa[Value.cells] using h
 obtain⟨G,hG⟩:∃G,G=grownCap w n 0 5:=⟨_,rfl⟩;have hGn:=grownCap_ge w n 0 5;have hG63:=grownCap_le_maxLen w n 0 5 (by unfold maxLen;omega);unfold maxLen at hG63;rw[<-hG] at hrz hGn hG63 ⊢;clear hG
 go_enter Tryz.func271,Tryz.ntmps271
 go_wp2_with (at_builtin;refine Lib.wpList_append_run _ rfl _ _ _ _ rfl _ _ rfl rfl _ _ (hrz _) ?_)
 all_goals (go_ret;exact⟨rfl,rfl⟩)
theorem ZL8(n:Nat)(hn:n<=Zw):Con yb 271 [.p (.sl (some false) 1 []),.p (.int .i64 (n:Int))] [] (.own 0 none 1 []) [.log 1 5 []]:=by
 intro σ vs ok hH hvs;simp only[repVs] at hvs;obtain⟨v,_,rfl,hv,v2,_,rfl,hv2,rfl⟩:=hvs;obtain rfl:=ZwS hv
 obtain rfl:v2=.int .i64 n:=by
  have:=hv2.2 rfl;simpa[yH,repC] using this
 have hm:σ.m=[]:=List.eq_nil_of_length_eq_zero (by rw[ok.len,hH];rfl);rcases ycf n with rfl|h0
 ·refine(ZHf σ.w).mono λe w'⟨he,hw⟩=> ?_;subst he;subst hw;obtain⟨to,ok'⟩:=VE (σ':={ σ with m:=σ.m++[none],H:=σ.H++[.log 1 5 []]}) ok rfl rfl rfl rfl (World.grownBy.refl σ.w none) (.inl rfl) (λ_=>.inl ⟨rfl,rfl⟩);refine⟨_,{ σ with m:=σ.m++[none],H:=σ.H++[.log 1 5 []]},rfl,rfl,by simp[hH],to,ok', ?_⟩;rw[Zi rfl];simp only[yH];exact⟨λ_ hx=>(by cases hx),none,0,rfl,ym _,by simp[maxLen],Yx _,λ_=>rfl,λh=>absurd rfl h,5,[],by simp[hH],ym _,λ_=>.inl ⟨by simp[hm],rfl,rfl⟩⟩
 ·refine(ZJW n σ.w h0 hn).mono λe w'⟨he,hw⟩=> ?_;subst he;subst hw;have hge:=grownCap_ge σ.w n 0 5;have hcm:=grownCap_le_maxLen σ.w n 0 5 (by have:n<=140737488355328:=hn;unfold maxLen;omega)
  have hsz:(Builtin.zeroCells #[.int .u8 0] n++Builtin.zeroCells #[.int .u8 0] (grownCap σ.w n 0 5 - n):Array yh).size=grownCap σ.w n 0 5*1:=by
   simp only[Array.size_append,size_zeroCells];simp;omega
  let cs:Array yh:=Builtin.zeroCells #[.int .u8 0] n++Builtin.zeroCells #[.int .u8 0] (grownCap σ.w n 0 5 - n);let σ':Sg:={ σ with m:=σ.m++[some σ.w.heap.size],H:=σ.H++[.log 1 5 []],w:=σ.w.drew.alloc (.cells cs 5)};have zV:σ'.w.heap[σ.w.heap.size]? =some (.cells cs 5 (0,0)):=heap_alloc_new σ.w.drew _
  obtain⟨to,ok'⟩:=VE (σ':=σ') ok rfl rfl rfl rfl (We σ.w (.cells cs 5) none) (.inr ⟨_,rfl,ym _,by simp[σ']⟩)
   (λleaf=>.inr ⟨σ.w.heap.size,_,grownCap σ.w n 0 5,rfl,zV,hsz,Nat.zero_le _,hcm,λ_ hx=>(by cases hx),by simp[repCs]⟩)
  refine⟨_,σ',rfl,rfl,by simp[σ',hH],to,ok', ?_⟩;rw[Zi rfl];simp only[yH];exact⟨λ_ hx=>(by cases hx),_,_,rfl,Nat.zero_le _,hcm,Yx _,λh=>(by cases h),λh=>absurd rfl h,5,[],by simp[σ',hH],ym _,λ_=>.inr ⟨_,_,by simp[σ',hm],rfl,zV,hsz⟩⟩
end Go.Proofs.YtdhclndplbopgaaGreat
end
section
set_option maxRecDepth 4000
namespace Go.Proofs.YtdhclndplbopgaaGreat
open Go Go.Ev
noncomputable section
abbrev yI:Ty:=.int .i64
def VG(F:Nat)(a0:Int):yO (Bool):=
 if(a0==0)=true then
  some true
 else
 some (a0==1)
def ZxS(F:Nat):Fs yb:=⟨44,[.v yI],[],[yI],(zN .bool),λx=>VG F x⟩
def Zjm:Fs yb:=ZxS yD
theorem ZnT:Zjm.Ok:=fnO { still:=[2]} [] [] trivial
def Zu9:ByteArray:=⟨#[0,1,2,2,3,3,3,3,4,4,4,4,4,4,4,4,5,5,5,5,5,5,5,5,5,5,5,5,5,5,5,5,6,6,6,6,6,6,6,6,6,6,6,6,6,6,6,6,6,6,6,6,6,6,6,6,6,6,6,6,6,6,6,6,7,7,7,7,7,7,7,7,7,7,7,7,7,7,7,7,7,7,7,7,7,7,7,7,7,7,7,7,7,7,7,7,7,7,7,7,7,7,7,7,7,7,7,7,7,7,7,7,7,7,7,7,7,7,7,7,7,7,7,7,7,7,7,7,8,8,8,8,8,8,8,8,8,8,8,8,8,8,8,8,8,8,8,8,8,8,8,8,8,8,8,8,8,8,8,8,8,8,8,8,8,8,8,8,8,8,8,8,8,8,8,8,8,8,8,8,8,8,8,8,8,8,8,8,8,8,8,8,8,8,8,8,8,8,8,8,8,8,8,8,8,8,8,8,8,8,8,8,8,8,8,8,8,8,8,8,8,8,8,8,8,8,8,8,8,8,8,8,8,8,8,8,8,8,8,8,8,8,8,8,8,8,8,8,8,8,8,8,8,8,8,8]⟩
def Zva(F:Nat)(a0:yU):yO (Int):=
 if(decide (a0 >= 4294967296))=true then
  if(decide ((ZH a0 32) >= 65536))=true then
   if(decide ((ZH (ZH a0 32) 16) >= 256))=true then
    let y1:yB:=w8 ((ZH (ZH (ZH a0 32) 16) 8).toNat:Int)
    (idx (Zll Zu9) (y1.toNat:Int)).bind λe2=>
    some (wi (56+(e2.toNat:Int)))
   else
   (idx (Zll Zu9) ((w8 ((ZH (ZH a0 32) 16).toNat:Int)).toNat:Int)).bind λe3=>
   some (wi (48+(e3.toNat:Int)))
  else
  if(decide ((ZH a0 32) >= 256))=true then
   (idx (Zll Zu9) ((w8 ((ZH (ZH a0 32) 8).toNat:Int)).toNat:Int)).bind λe4=>
   some (wi (40+(e4.toNat:Int)))
  else
  (idx (Zll Zu9) ((w8 ((ZH a0 32).toNat:Int)).toNat:Int)).bind λe5=>
  some (wi (32+(e5.toNat:Int)))
 else
 if(decide (a0 >= 65536))=true then
  if(decide ((ZH a0 16) >= 256))=true then
   (idx (Zll Zu9) ((w8 ((ZH (ZH a0 16) 8).toNat:Int)).toNat:Int)).bind λe6=>
   some (wi (24+(e6.toNat:Int)))
  else
  (idx (Zll Zu9) ((w8 ((ZH a0 16).toNat:Int)).toNat:Int)).bind λe7=>
  some (wi (16+(e7.toNat:Int)))
 else
 if(decide (a0 >= 256))=true then
  (idx (Zll Zu9) ((w8 ((ZH a0 8).toNat:Int)).toNat:Int)).bind λe8=>
  some (wi (8+(e8.toNat:Int)))
 else
 (idx (Zll Zu9) ((w8 (a0.toNat:Int)).toNat:Int)).bind λe9=>
 some (wi (0+(e9.toNat:Int)))
def ZzF(F:Nat):Fs yb:=⟨277,[.v .u64],[],[.u64],(zN yI),λx=>Zva F x⟩
def Zsz:Fs yb:=ZzF yD
theorem ZzG:Zsz.Ok:=fnO { still:=[2]} [] [] trivial
def YD(F:Nat)(a0:yU):yO (Int):=
 (Zva F a0).bind λo10=>
 some (wi (64 - o10))
def Zlr(F:Nat):Fs yb:=⟨267,[.v .u64],[],[.u64],(zN yI),λx=>YD F x⟩
def Zdg:Fs yb:=Zlr yD
theorem Zls:Zdg.Ok:=fnO { still:=[2,3]} [] [Zsz] ⟨ZzG,ytt⟩
abbrev qO:=yU×yU×yU×yU×yU×yU×yU×yU
def Zat(F:Nat)(s:(yU×qO)):yO ((yU×qO)⊕(qO)):=
 if(decide (s.2.2.2.2.2.2.2.1 >= 4294967296))=true then
  let y18:Bool:=decide ((s.2.2.2.2.2.2.2.2+s.2.2.1) >= 4294967296)
  if y18=true then
   some (.inr (s.1,s.2.1,s.2.2.1,s.2.2.2.1,s.2.2.2.2.1,s.2.2.2.2.2.1,s.2.2.2.2.2.2.1,s.2.2.2.2.2.2.2.1 - 1))
  else
  some (.inl (s.1,s.2.1,s.2.2.1,s.2.2.2.1,s.2.2.2.2.1,s.2.2.2.2.2.1,s.2.2.2.2.2.2.1,s.2.2.2.2.2.2.2.1 - 1,s.2.2.2.2.2.2.2.2+s.2.2.1))
 else
 let y19:Bool:=decide ((s.2.2.2.2.2.2.2.1*s.2.2.2.1) > ((4294967296*s.2.2.2.2.2.2.2.2)+s.2.2.2.2.2.1))
 if y19=true then
  let y20:Bool:=decide ((s.2.2.2.2.2.2.2.2+s.2.2.1) >= 4294967296)
  if y20=true then
   some (.inr (s.1,s.2.1,s.2.2.1,s.2.2.2.1,s.2.2.2.2.1,s.2.2.2.2.2.1,s.2.2.2.2.2.2.1,s.2.2.2.2.2.2.2.1 - 1))
  else
  some (.inl (s.1,s.2.1,s.2.2.1,s.2.2.2.1,s.2.2.2.2.1,s.2.2.2.2.2.1,s.2.2.2.2.2.2.1,s.2.2.2.2.2.2.2.1 - 1,s.2.2.2.2.2.2.2.2+s.2.2.1))
 else
 some (.inr (s.1,s.2.1,s.2.2.1,s.2.2.2.1,s.2.2.2.2.1,s.2.2.2.2.2.1,s.2.2.2.2.2.2.1,s.2.2.2.2.2.2.2.1))
def ZqB:Lp:=⟨[(2,.v .u64),(8,.v .u64),(9,.v .u64),(10,.v .u64),(11,.v .u64),(13,.v .u64),(14,.v .u64),(15,.v .u64),(16,.v .u64)],[],[.u64,.u64,.u64,.u64,.u64,.u64,.u64,.u64,.u64],[⟨.exit 0,[(2,.v .u64),(8,.v .u64),(9,.v .u64),(10,.v .u64),(11,.v .u64),(13,.v .u64),(14,.v .u64),(15,.v .u64)],[],[.u64,.u64,.u64,.u64,.u64,.u64,.u64,.u64]⟩],Zb (Zat yD) yD⟩
theorem ZtV:ZqB.okA yb 246 0:=Zv { still:=[6,7,34]} [] [] trivial
def Zau(F:Nat)(s:(yU×qO)):yO ((yU×qO)⊕(yU×yU×yU×yU×yU×yU)):=
 if(decide (s.2.2.2.2.2.2.2.2 >= 4294967296))=true then
  let y23:Bool:=decide ((s.2.2.2.2.2.2.1+s.2.2.1) >= 4294967296)
  if y23=true then
   some (.inr (s.1,s.2.1,s.2.2.2.2.1,s.2.2.2.2.2.1,s.2.2.2.2.2.2.2.1,s.2.2.2.2.2.2.2.2 - 1))
  else
  some (.inl (s.1,s.2.1,s.2.2.1,s.2.2.2.1,s.2.2.2.2.1,s.2.2.2.2.2.1,s.2.2.2.2.2.2.1+s.2.2.1,s.2.2.2.2.2.2.2.1,s.2.2.2.2.2.2.2.2 - 1))
 else
 let y24:Bool:=decide ((s.2.2.2.2.2.2.2.2*s.2.2.2.1) > ((4294967296*s.2.2.2.2.2.2.1)+s.2.2.2.2.1))
 if y24=true then
  let y25:Bool:=decide ((s.2.2.2.2.2.2.1+s.2.2.1) >= 4294967296)
  if y25=true then
   some (.inr (s.1,s.2.1,s.2.2.2.2.1,s.2.2.2.2.2.1,s.2.2.2.2.2.2.2.1,s.2.2.2.2.2.2.2.2 - 1))
  else
  some (.inl (s.1,s.2.1,s.2.2.1,s.2.2.2.1,s.2.2.2.2.1,s.2.2.2.2.2.1,s.2.2.2.2.2.2.1+s.2.2.1,s.2.2.2.2.2.2.2.1,s.2.2.2.2.2.2.2.2 - 1))
 else
 some (.inr (s.1,s.2.1,s.2.2.2.2.1,s.2.2.2.2.2.1,s.2.2.2.2.2.2.2.1,s.2.2.2.2.2.2.2.2))
def ZqC:Lp:=⟨[(2,.v .u64),(8,.v .u64),(9,.v .u64),(10,.v .u64),(14,.v .u64),(15,.v .u64),(16,.v .u64),(17,.v .u64),(18,.v .u64)],[],[.u64,.u64,.u64,.u64,.u64,.u64,.u64,.u64,.u64],[⟨.exit 2,[(2,.v .u64),(8,.v .u64),(14,.v .u64),(15,.v .u64),(17,.v .u64),(18,.v .u64)],[],[.u64,.u64,.u64,.u64,.u64,.u64]⟩],Zb (Zau yD) yD⟩
theorem ZtW:ZqC.okA yb 246 1:=Zv { still:=[6,7,34]} [] [] trivial
def Zi0(F:Nat)(a0:yU)(a1:yU)(a2:yU):yO ((yU×yU)):=
 if(a2==0)=true then
  none
 else
 if(decide (a2<=a0))=true then
  none
 else
 if(a0==0)=true then
  if(a2 !=0)=true then
   if(a2 !=0)=true then
    some (a1 / a2,a1 % a2)
   else
   none
  else
  none
 else
 (YD F a2).bind λo11=>
 let y12:yU:=ZH (Zar a2 (min ((w64 o11).toNat:Int).toNat 64)) 32;let y13:yU:=(Zar a2 (min ((w64 o11).toNat:Int).toNat 64))&&&4294967295;let y14:yU:=ZH a1 (min ((64 - (w64 o11)).toNat:Int).toNat 64);let y15:yU:=(Zar a0 (min ((w64 o11).toNat:Int).toNat 64))|||y14;let y16:yU:=ZH (Zar a1 (min ((w64 o11).toNat:Int).toNat 64)) 32;let y17:yU:=(Zar a1 (min ((w64 o11).toNat:Int).toNat 64))&&&4294967295
 if(y12 !=0)=true then
  (Zb (Zat F) F (Zar a2 (min ((w64 o11).toNat:Int).toNat 64),w64 o11,y12,y13,y15,y16,y17,y15 / y12,y15 - ((y15 / y12)*y12))).bind λo21=>
  let y22:yU:=((o21.2.2.2.2.1*4294967296)+o21.2.2.2.2.2.1) - (o21.2.2.2.2.2.2.2*o21.1)
  if(o21.2.2.1 !=0)=true then
   (Zb (Zau F) F (o21.1,o21.2.1,o21.2.2.1,o21.2.2.2.1,o21.2.2.2.2.2.2.1,o21.2.2.2.2.2.2.2,y22 - ((y22 / o21.2.2.1)*o21.2.2.1),y22,y22 / o21.2.2.1)).bind λo26=>
   let y27:yU:=((o26.2.2.2.2.1*4294967296)+o26.2.2.1) - (o26.2.2.2.2.2*o26.1)
   some ((o26.2.2.2.1*4294967296)+o26.2.2.2.2.2,ZH y27 (min (o26.2.1.toNat:Int).toNat 64))
  else
  none
 else
 none
def ZzH(F:Nat):Fs yb:=⟨246,[.v .u64,.v .u64,.v .u64],[],[.u64,.u64,.u64],[⟨.ret,[(0,.tup [.v .u64,.v .u64])],[],[.u64,.u64]⟩],λx=>Zi0 F x.1 x.2.1 x.2.2⟩
def ZsA:Fs yb:=ZzH yD
theorem ZzI:ZsA.Ok:=fnO { still:=[6,7,34]} [(0,ZqB),(1,ZqC)] [Zdg] ⟨Zls,ytt⟩ ⟨ZtV,ZtW,ytt⟩
def ZcC(F:Nat)(a0:yU)(a1:yU)(a2:yU):yO (yU):=
 if(a2 !=0)=true then
  (Zi0 F (a0 % a2) a1 a2).bind λo28=>
  some o28.2
 else
 none
def ZhC(F:Nat):Fs yb:=⟨198,[.v .u64,.v .u64,.v .u64],[],[.u64,.u64,.u64],(zN .u64),λx=>ZcC F x.1 x.2.1 x.2.2⟩
def ZzJ:Fs yb:=ZhC yD
theorem ZxT:ZzJ.Ok:=fnO { still:=[6,12,13,14]} [] [ZsA] ⟨ZzI,ytt⟩
end
end Go.Proofs.YtdhclndplbopgaaGreat
end
section
namespace Go.Ev
theorem Zwx(a m:yU):(a - a / m*m).toNat=a.toNat % m.toNat:=by
 have h1:a.toNat / m.toNat*m.toNat<=a.toNat:=Nat.div_mul_le_self _ _;have h2:=ybt a
 have h3:(a / m*m).toNat=a.toNat / m.toNat*m.toNat:=by
  rw[UInt64.toNat_mul,UInt64.toNat_div,yak (by omega)]
 have h4:(a / m*m)<=a:=by rw[ycu,h3];exact h1
 rw[UInt64.toNat_sub_of_le _ _ h4,h3];have:=Nat.div_add_mod a.toNat m.toNat
 rw[ybo] at this;omega
theorem ZnU(x:yU):(x&&&4294967295).toNat=x.toNat % 4294967296:=by
 rw[UInt64.toNat_and];exact Nat.and_two_pow_sub_one_eq_mod x.toNat 32
theorem Zav(x:yU)(n:Nat):(ZH x n).toNat=x.toNat / 2 ^ n:=by
 unfold ZH;rw[ybd,yak (ycw (Nat.div_le_self ..) (ybt _))]
theorem ZpB{x y:yU}(h:x.toNat+y.toNat < 18446744073709551616):(x+y).toNat=x.toNat+y.toNat:=by
 rw[UInt64.toNat_add,yak h]
theorem ZpC{x y:yU}(h:x.toNat*y.toNat < 18446744073709551616):(x*y).toNat=x.toNat*y.toNat:=by
 rw[UInt64.toNat_mul,yak h]
theorem ZnV{a b:Nat}(ha:a < 4294967296)(hb:b < 4294967296):a*b<=18446744065119617025:=Nat.mul_le_mul (Nat.le_of_lt_succ ha) (Nat.le_of_lt_succ hb)
end Go.Ev
end
section
set_option maxRecDepth 4000
namespace Go.Proofs.YtdhclndplbopgaaGreat
open Go Go.Ev
section
variable{y1 y0 u d q r:Nat}
theorem ZRk(h:q*y1+r=u)(hc:4294967296*r+d < q*y0):u*4294967296+d < q*(y1*4294967296+y0):=by
 have e:q*(y1*4294967296+y0)=q*y1*4294967296+q*y0:=by rw[Nat.mul_add,Nat.mul_assoc]
 rw[e];omega
theorem ZL9(h:q*y1+r=u)(hc:q*y0<=4294967296*r+d):q*(y1*4294967296+y0)<=u*4294967296+d:=by
 have e:q*(y1*4294967296+y0)=q*y1*4294967296+q*y0:=by rw[Nat.mul_add,Nat.mul_assoc]
 rw[e];omega
theorem ZQl(hu:u < y1*4294967296+y0)(hd:d < 4294967296):(u*4294967296+d) / (y1*4294967296+y0) < 4294967296:=by
 rw[Nat.div_lt_iff_lt_mul (by omega)];omega
theorem ZIE(h:q*y1+r=u)(hq:1<=q):(q - 1)*y1+(r+y1)=u:=by
 have e:q*y1=(q - 1)*y1+y1:=by
  rw[<-Nat.succ_mul];congr 1;omega
 omega
theorem ZMa(hu:u < y1*4294967296+y0)(h0:y0 < 4294967296)(h:q*y1+r=u)(hr:4294967296<=r):q*y0<=4294967296*r+d:=by
 by_cases hq:q < 4294967296
 ·have:q*y0<=4294967295*4294967295:=Nat.mul_le_mul (by omega) (by omega);omega
 ·have:4294967296*y1<=q*y1:=yci _ (by omega);omega
end
theorem ZHg{q T Y:Nat}(hY:0 < Y)(h1:T / Y<=q)(h2:q*Y<=T):q=T / Y:=Nat.le_antisymm ((Nat.le_div_iff_mul_le hY).2 h2) h1
theorem ZE8{y1 y0 u d:Nat}{Q R Y0 Y1 D:yU}(hY1:Y1.toNat=y1)(hY0:Y0.toNat=y0)(hD:D.toNat=d)(h1:y1 < 4294967296)(h0:y0 < 4294967296)(hd:d < 4294967296)(hu:u < y1*4294967296+y0)
 (e:Q.toNat*y1+R.toNat=u) (hr:R.toNat < 4294967296) (hge:(u*4294967296+d) / (y1*4294967296+y0)<=Q.toNat):
 ((Q >= 4294967296\/(Q*Y0 > (4294967296*R)+D))/\(u*4294967296+d) / (y1*4294967296+y0)<=(Q - 1).toNat/\(Q - 1).toNat*y1+(R+Y1).toNat=u/\(R+Y1).toNat=R.toNat+y1)\/
 (¬Q >= 4294967296/\¬(Q*Y0 > (4294967296*R)+D)/\Q.toNat=(u*4294967296+d) / (y1*4294967296+y0)):=by
 have hadd:(R+Y1).toNat=R.toNat+y1:=by rw[ZpB (by omega),hY1]
 have hrd:((4294967296*R)+D).toNat=4294967296*R.toNat+d:=by
  have m:(4294967296*R:yU).toNat=4294967296*R.toNat:=by
   rw[ZpC (by show 4294967296*R.toNat < _;omega)];rfl
  rw[ZpB (by rw[m];omega),m,hD]
 have dec:1<=Q.toNat->(Q - 1).toNat=Q.toNat - 1:=λh=>by
  rw[UInt64.toNat_sub_of_le _ _ (by rw[ycu];exact h)];rfl
 by_cases c1:Q >= 4294967296
 ·left
  have hq:4294967296<=Q.toNat:=by
   rw[ge_iff_le,ycu] at c1;exact c1
  have:=ZQl hu hd;refine⟨.inl c1,by rw[dec (by omega)];omega, ?_,hadd⟩;rw[dec (by omega),hadd];exact ZIE e (by omega)
 have hq:Q.toNat < 4294967296:=by
  rw[ge_iff_le,ycu] at c1;exact Nat.lt_of_not_le c1
 have hmul:(Q*Y0).toNat=Q.toNat*y0:=by
  have:=ZnV hq h0;rw[ZpC (by rw[hY0];omega),hY0]
 by_cases c2:Q*Y0 > (4294967296*R)+D
 ·left
  have c3:4294967296*R.toNat+d < Q.toNat*y0:=by
   have:=yca.1 c2;rw[hmul,hrd] at this;exact this
  have q1:1<=Q.toNat:=by
   rcases ycf Q.toNat with h|h
   ·rw[h,Nat.zero_mul] at c3;omega
   ·exact h
  have hg:=ZRk (d:=d) e c3;have hlt:(u*4294967296+d) / (y1*4294967296+y0) < Q.toNat:=(Nat.div_lt_iff_lt_mul (by omega)).2 hg;refine⟨.inr c2,by rw[dec q1];omega, ?_,hadd⟩;rw[dec q1,hadd];exact ZIE e q1
 ·right
  have c3:Q.toNat*y0<=4294967296*R.toNat+d:=by
   have:¬(((4294967296*R)+D).toNat < (Q*Y0).toNat):=λh=>c2 (yca.2 h);rw[hmul,hrd] at this;omega
  exact⟨c1,c2,ZHg (by omega) hge (ZL9 e c3)⟩
theorem ZRl{y1 y0 u d:Nat}{Yv N Y1 Y0 U D E Q R:yU}(hY1:Y1.toNat=y1)(hY0:Y0.toNat=y0)(hD:D.toNat=d)(h1:y1 < 4294967296)(h3:0 < y1)(h0:y0 < 4294967296)(hd:d < 4294967296)(hu:u < y1*4294967296+y0)
 (e:Q.toNat*y1+R.toNat=u) (hr:R.toNat < 4294967296) (hge:(u*4294967296+d) / (y1*4294967296+y0)<=Q.toNat):
 ∃q:yU,Zb (Zat yD) yD (Yv,N,Y1,Y0,U,D,E,Q,R)=some (Yv,N,Y1,Y0,U,D,E,q)/\q.toNat=(u*4294967296+d) / (y1*4294967296+y0):=by
 obtain⟨x,hx,q,rfl,hq⟩:=Qm (step:=Zat yD) (λs=>∃Q R:yU,s=(Yv,N,Y1,Y0,U,D,E,Q,R)/\Q.toNat*y1+R.toNat=u/\R.toNat < 4294967296/\(u*4294967296+d) / (y1*4294967296+y0)<=Q.toNat)
  (λs=>4294967296 - s.2.2.2.2.2.2.2.2.toNat) (λx=>∃q:yU,x=(Yv,N,Y1,Y0,U,D,E,q)/\q.toNat=(u*4294967296+d) / (y1*4294967296+y0)) (by
  rintro _ ⟨Q,R,rfl,e,hr,hge⟩;unfold Zat
  dsimp only;rcases ZE8 hY1 hY0 hD h1 h0 hd hu e hr hge with⟨c,k1,k2,k3⟩|⟨c1,c2,k⟩
  ·have key:(∃j,(if decide (R+Y1 >= 4294967296)=true then some (Sum.inr (Yv,N,Y1,Y0,U,D,E,Q - 1)) else some (Sum.inl (Yv,N,Y1,Y0,U,D,E,Q - 1,R+Y1)):yO ((yU×qO)⊕(qO)))=some (.inl j)/\
    (∃Q R:yU,j=(Yv,N,Y1,Y0,U,D,E,Q,R)/\Q.toNat*y1+R.toNat=u/\R.toNat < 4294967296/\(u*4294967296+d) / (y1*4294967296+y0)<=Q.toNat)/\4294967296 - j.2.2.2.2.2.2.2.2.toNat < 4294967296 - R.toNat)\/
    (∃x,(if decide (R+Y1 >= 4294967296)=true then some (Sum.inr (Yv,N,Y1,Y0,U,D,E,Q - 1)) else some (Sum.inl (Yv,N,Y1,Y0,U,D,E,Q - 1,R+Y1)):yO ((yU×qO)⊕(qO)))=some (.inr x)/\
    ∃q:yU,x=(Yv,N,Y1,Y0,U,D,E,q)/\q.toNat=(u*4294967296+d) / (y1*4294967296+y0)):=by
    by_cases hb:R+Y1 >= 4294967296
    ·right;rw[yW (yY hb)]
     have hb2:4294967296<=(R+Y1).toNat:=by
      rw[ge_iff_le,ycu] at hb;exact hb
     exact⟨_,rfl,_,rfl,ZHg (by omega) k1 (ZL9 k2 (ZMa hu h0 k2 hb2))⟩
    ·left;rw[yX (by rw[yN];exact hb)]
     have hb2:(R+Y1).toNat < 4294967296:=by
      rw[ge_iff_le,ycu] at hb;exact Nat.lt_of_not_le hb
     exact⟨_,rfl,⟨_,_,rfl,k2,hb2,k1⟩,by dsimp only;omega⟩
   rcases c with c|c
   ·rw[yW (yY c)];exact key
   ·by_cases c1:Q >= 4294967296
    ·rw[yW (yY c1)];exact key
    ·rw[yX (by rw[yN];exact c1),yW (yY c)];exact key
  ·right;rw[yX (by rw[yN];exact c1),yX (by rw[yN];exact c2)];exact⟨_,rfl,_,rfl,k⟩) (Yv,N,Y1,Y0,U,D,E,Q,R) ⟨Q,R,rfl,e,hr,hge⟩ (by dsimp only;omega)
 exact⟨q,hx,hq⟩
theorem ZRm{y1 y0 u d:Nat}{Yv N Y1 Y0 U D E Q R:yU}(hY1:Y1.toNat=y1)(hY0:Y0.toNat=y0)(hD:D.toNat=d)(h1:y1 < 4294967296)(h3:0 < y1)(h0:y0 < 4294967296)(hd:d < 4294967296)(hu:u < y1*4294967296+y0)
 (e:Q.toNat*y1+R.toNat=u) (hr:R.toNat < 4294967296) (hge:(u*4294967296+d) / (y1*4294967296+y0)<=Q.toNat):
 ∃q:yU,Zb (Zau yD) yD (Yv,N,Y1,Y0,D,E,R,U,Q)=some (Yv,N,D,E,U,q)/\q.toNat=(u*4294967296+d) / (y1*4294967296+y0):=by
 obtain⟨x,hx,q,rfl,hq⟩:=Qm (step:=Zau yD) (λs=>∃Q R:yU,s=(Yv,N,Y1,Y0,D,E,R,U,Q)/\Q.toNat*y1+R.toNat=u/\R.toNat < 4294967296/\(u*4294967296+d) / (y1*4294967296+y0)<=Q.toNat)
  (λs=>4294967296 - s.2.2.2.2.2.2.1.toNat) (λx=>∃q:yU,x=(Yv,N,D,E,U,q)/\q.toNat=(u*4294967296+d) / (y1*4294967296+y0)) (by
  rintro _ ⟨Q,R,rfl,e,hr,hge⟩;unfold Zau;dsimp only;rcases ZE8 hY1 hY0 hD h1 h0 hd hu e hr hge with⟨c,k1,k2,k3⟩|⟨c1,c2,k⟩
  ·have key:(∃j,(if decide (R+Y1 >= 4294967296)=true then some (Sum.inr (Yv,N,D,E,U,Q - 1)) else some (Sum.inl (Yv,N,Y1,Y0,D,E,R+Y1,U,Q - 1)):yO ((yU×qO)⊕(yU×yU×yU×yU×yU×yU)))=some (.inl j)/\
    (∃Q R:yU,j=(Yv,N,Y1,Y0,D,E,R,U,Q)/\Q.toNat*y1+R.toNat=u/\R.toNat < 4294967296/\(u*4294967296+d) / (y1*4294967296+y0)<=Q.toNat)/\4294967296 - j.2.2.2.2.2.2.1.toNat < 4294967296 - R.toNat)\/
    (∃x,(if decide (R+Y1 >= 4294967296)=true then some (Sum.inr (Yv,N,D,E,U,Q - 1)) else some (Sum.inl (Yv,N,Y1,Y0,D,E,R+Y1,U,Q - 1)):yO ((yU×qO)⊕(yU×yU×yU×yU×yU×yU)))=some (.inr x)/\
    ∃q:yU,x=(Yv,N,D,E,U,q)/\q.toNat=(u*4294967296+d) / (y1*4294967296+y0)):=by
    by_cases hb:R+Y1 >= 4294967296
    ·right;rw[yW (yY hb)]
     have hb2:4294967296<=(R+Y1).toNat:=by
      rw[ge_iff_le,ycu] at hb;exact hb
     exact⟨_,rfl,_,rfl,ZHg (by omega) k1 (ZL9 k2 (ZMa hu h0 k2 hb2))⟩
    ·left;rw[yX (by rw[yN];exact hb)]
     have hb2:(R+Y1).toNat < 4294967296:=by
      rw[ge_iff_le,ycu] at hb;exact Nat.lt_of_not_le hb
     exact⟨_,rfl,⟨_,_,rfl,k2,hb2,k1⟩,by dsimp only;omega⟩
   rcases c with c|c
   ·rw[yW (yY c)];exact key
   ·by_cases c1:Q >= 4294967296
    ·rw[yW (yY c1)];exact key
    ·rw[yX (by rw[yN];exact c1),yW (yY c)];exact key
  ·right;rw[yX (by rw[yN];exact c1),yX (by rw[yN];exact c2)];exact⟨_,rfl,_,rfl,k⟩) (Yv,N,Y1,Y0,D,E,R,U,Q) ⟨Q,R,rfl,e,hr,hge⟩ (by dsimp only;omega)
 exact⟨q,hx,hq⟩
theorem ZIF{A B:yU}{a b:Nat}(hA:A.toNat=a % 18446744073709551616)(hB:B.toNat=b % 18446744073709551616)(h:b<=a)(hd:a - b < 18446744073709551616):(A - B).toNat=a - b:=by
 rw[UInt64.toNat_sub,hA,hB];omega
theorem Zvb(u y1:Nat):u / y1*y1+u % y1=u:=by
 have:=Nat.div_add_mod u y1;rw[ybo] at this;exact this
theorem ZMb{u y1 y0 d:Nat}(h1:0 < y1)(hd:d < 4294967296):(u*4294967296+d) / (y1*4294967296+y0)<=u / y1:=by
 have h:(u*4294967296+d) / (y1*4294967296+y0)<=(u*4294967296+d) / (y1*4294967296):=Nat.div_le_div_left (by omega) (by omega)
 have e:(u*4294967296+d) / (y1*4294967296)=u / y1:=by
  rw[ybo y1, <-Nat.div_div_eq_div_mul];congr 1;omega
 omega
theorem ZMc{a b y:yU}{s:Nat}{Y:yU}(hy:y≠0)(hs:YD yD y=some (s:Int))(s0:0 < s)(s1:s < 64)(hY:Zar y s=Y)(hYn:Y.toNat=y.toNat*2 ^ s)(hY63:9223372036854775808<=Y.toNat)(ha:a.toNat < y.toNat):
 ∃q r,Zi0 yD a b y=some (q,r)/\r.toNat=(a.toNat*18446744073709551616+b.toNat) % y.toNat:=by
 have ha2:¬(y<=a):=by
  rw[ycu];omega
 unfold Zi0;rw[yX (by rw[yT];exact hy),yX (by rw[yN];exact ha2)];by_cases h0:a=0
 ·subst h0;rw[yW (by decide),yW (by rw[yE];exact hy),yW (by rw[yE];exact hy)];refine⟨_,_,rfl, ?_⟩;rw[UInt64.toNat_mod];simp
 rw[yX (by rw[yT];exact h0),hs,ya];dsimp only
 have w:w64 (s:Int)=yac s:=by
  unfold w64;congr 1;omega
 have ws:(w64 (s:Int)).toNat=s:=by rw[w,ybd,yak (by omega)]
 have e1:min ((w64 (s:Int)).toNat:Int).toNat 64=s:=by rw[ws];omega
 have e2:(64 - w64 (s:Int)).toNat=64 - s:=by
  rw[UInt64.toNat_sub_of_le _ _ (by rw[ycu,ws];show s<=64;omega),ws];rfl
 have e3:min ((64 - w64 (s:Int)).toNat:Int).toNat 64=64 - s:=by rw[e2];omega
 rw[e1,e3,hY];have hYl:=ybt Y;have hb:=ybt b
 have p64:2 ^ (64 - s)*2 ^ s=18446744073709551616:=by
  rw[<-Nat.pow_add];have:64 - s+s=64:=by omega
  rw[this]
 have hp:0 < 2 ^ s:=Nat.pow_pos (by decide);obtain⟨y1,hy1⟩:∃y1,y1=Y.toNat / 4294967296:=⟨_,rfl⟩;obtain⟨y0,hy0⟩:∃y0,y0=Y.toNat % 4294967296:=⟨_,rfl⟩;have hYd:Y.toNat=y1*4294967296+y0:=by omega
 have ty1:(ZH Y 32).toNat=y1:=by rw[Zav,hy1]
 have ty0:(Y&&&4294967295).toNat=y0:=by rw[ZnU,hy0]
 have l1:y1 < 4294967296:=by omega
 have g1:2147483648<=y1:=by omega
 have l0:y0 < 4294967296:=by omega
 have hash:a.toNat*2 ^ s < Y.toNat:=by rw[hYn];exact Nat.mul_lt_mul_of_pos_right ha hp
 have bd:b.toNat / 2 ^ (64 - s) < 2 ^ s:=by
  rw[Nat.div_lt_iff_lt_mul (Nat.pow_pos (by decide)),ybo,p64];exact hb
 have tu:((Zar a s)|||(ZH b (64 - s))).toNat=a.toNat*2 ^ s+b.toNat / 2 ^ (64 - s):=by
  rw[UInt64.toNat_or,Zav];unfold Zar;rw[ybd,yak (by omega),ybo, <-ycz bd]
 have t10:(Zar b s).toNat=b.toNat*2 ^ s % 18446744073709551616:=by
  unfold Zar;rw[ybd]
 obtain⟨u,hu⟩:∃u,u=a.toNat*2 ^ s+b.toNat / 2 ^ (64 - s):=⟨_,rfl⟩;obtain⟨v,hv⟩:∃v,v=b.toNat*2 ^ s % 18446744073709551616:=⟨_,rfl⟩;rw[<-hu] at tu;rw[<-hv] at t10
 have hbs:b.toNat*2 ^ s=b.toNat / 2 ^ (64 - s)*18446744073709551616+v:=by
  have h1:=Nat.div_add_mod (b.toNat*2 ^ s) 18446744073709551616
  have h2:b.toNat*2 ^ s / 18446744073709551616=b.toNat / 2 ^ (64 - s):=by
   rw[<-p64];exact Nat.mul_div_mul_right _ _ hp
  rw[h2, <-hv] at h1;omega
 have hN:(a.toNat*18446744073709551616+b.toNat)*2 ^ s=u*18446744073709551616+v:=by
  rw[yba,hbs,hu,Nat.mul_right_comm];omega
 have uY:u < y1*4294967296+y0:=by
  rw[<-hYd,hu,hYn];have h1:(a.toNat+1)*2 ^ s<=y.toNat*2 ^ s:=yci _ ha;rw[yba,Nat.one_mul] at h1;omega
 have hvl:v < 18446744073709551616:=by rw[hv];exact ybj _ (by decide)
 obtain⟨d1,hd1⟩:∃d1,d1=v / 4294967296:=⟨_,rfl⟩;obtain⟨d0,hd0⟩:∃d0,d0=v % 4294967296:=⟨_,rfl⟩;have td1:(ZH (Zar b s) 32).toNat=d1:=by rw[Zav,t10,hd1]
 have td0:((Zar b s)&&&4294967295).toNat=d0:=by rw[ZnU,t10,hd0]
 generalize ((Zar a s)|||(ZH b (64 - s)):yU)=U at tu ⊢;generalize (ZH (Zar b s) 32:yU)=D1 at td1 ⊢;generalize ((Zar b s)&&&4294967295:yU)=D0 at td0 ⊢;generalize (ZH Y 32:yU)=Y1 at ty1 ⊢;generalize (Y&&&4294967295:yU)=Y0 at ty0 ⊢
 have y1ne:(Y1 !=0)=true:=by
  rw[yE];intro h;rw[h] at ty1;have:(0:yU).toNat=0:=rfl;omega
 rw[yW y1ne]
 have f1:(U / Y1).toNat*y1+(U - U / Y1*Y1).toNat=u:=by
  rw[Zwx,UInt64.toNat_div,tu,ty1];exact Zvb u y1
 have f2:(U - U / Y1*Y1).toNat < 4294967296:=by
  rw[Zwx,tu,ty1];exact Nat.lt_trans (ybj _ (by omega)) l1
 have f3:(u*4294967296+d1) / (y1*4294967296+y0)<=(U / Y1).toNat:=by
  rw[UInt64.toNat_div,tu,ty1];exact ZMb (by omega) (by omega)
 obtain⟨q1,k1,k2⟩:=ZRl (Yv:=Y) (N:=w64 (s:Int)) (U:=U) (E:=D0) ty1 ty0 td1 l1 (by omega) l0 (by omega) uY f1 f2 f3;rw[k1,ya];dsimp only;rw[yW y1ne];have m1:=Nat.div_add_mod (u*4294967296+d1) Y.toNat
 have m2:(u*4294967296+d1) % Y.toNat < Y.toNat:=ybj _ (by omega);rw[<-hYd] at k2
 have tv:(((U*4294967296)+D1) - (q1*Y)).toNat=(u*4294967296+d1) % Y.toNat:=by
  rw[ZIF (a:=u*4294967296+d1) (b:=q1.toNat*Y.toNat) ?_ ?_ ?_ ?_]
  ·rw[k2,ybo ((u*4294967296+d1) / Y.toNat)];omega
  ·rw[UInt64.toNat_add,UInt64.toNat_mul,tu,td1,show(4294967296:yU).toNat=4294967296 from rfl]
   omega
  ·rw[UInt64.toNat_mul]
  ·rw[k2,ybo ((u*4294967296+d1) / Y.toNat)];omega
  ·rw[k2,ybo ((u*4294967296+d1) / Y.toNat)];omega
 obtain⟨u2,hu2⟩:∃u2,u2=(u*4294967296+d1) % Y.toNat:=⟨_,rfl⟩;rw[<-hu2] at tv m2 m1;generalize (((U*4294967296)+D1) - (q1*Y):yU)=V at tv ⊢
 have f4:(V / Y1).toNat*y1+(V - V / Y1*Y1).toNat=u2:=by
  rw[Zwx,UInt64.toNat_div,tv,ty1];exact Zvb u2 y1
 have f5:(V - V / Y1*Y1).toNat < 4294967296:=by
  rw[Zwx,tv,ty1];exact Nat.lt_trans (ybj _ (by omega)) l1
 have f6:(u2*4294967296+d0) / (y1*4294967296+y0)<=(V / Y1).toNat:=by
  rw[UInt64.toNat_div,tv,ty1];exact ZMb (by omega) (by omega)
 obtain⟨q0,k3,k4⟩:=ZRm (Yv:=Y) (N:=w64 (s:Int)) (U:=V) (E:=q1) ty1 ty0 td0 l1 (by omega) l0 (by omega) (by rw[<-hYd];exact m2) f4 f5 f6;rw[k3,ya];refine⟨_,_,rfl, ?_⟩;dsimp only;rw[e1,Zav];rw[<-hYd] at k4;have m3:=Nat.div_add_mod (u2*4294967296+d0) Y.toNat
 have m4:(u2*4294967296+d0) % Y.toNat < Y.toNat:=ybj _ (by omega)
 have tr:(((V*4294967296)+D0) - (q0*Y)).toNat=(u2*4294967296+d0) % Y.toNat:=by
  rw[ZIF (a:=u2*4294967296+d0) (b:=q0.toNat*Y.toNat) ?_ ?_ ?_ ?_]
  ·rw[k4,ybo ((u2*4294967296+d0) / Y.toNat)];omega
  ·rw[UInt64.toNat_add,UInt64.toNat_mul,tv,td0,show(4294967296:yU).toNat=4294967296 from rfl]
   omega
  ·rw[UInt64.toNat_mul]
  ·rw[k4,ybo ((u2*4294967296+d0) / Y.toNat)];omega
  ·rw[k4,ybo ((u2*4294967296+d0) / Y.toNat)];omega
 rw[tr]
 have hNm:((a.toNat*18446744073709551616+b.toNat)*2 ^ s) % Y.toNat=(u2*4294967296+d0) % Y.toNat:=by
  have e:(a.toNat*18446744073709551616+b.toNat)*2 ^ s=u2*4294967296+d0+Y.toNat*((u*4294967296+d1) / Y.toNat*4294967296):=by
   rw[hN, <-Nat.mul_assoc];omega
  rw[e,Nat.add_mul_mod_self_left]
 rw[<-hNm,hYn,Nat.mul_mod_mul_right,Nat.mul_div_cancel _ hp]
theorem ZCE{y Y:yU}{s:Nat}(a b:yU)(hy:y≠0)(hs:YD yD y=some (s:Int))(s0:0 < s)(s1:s < 64)(hY:Zar y s=Y)(hYn:Y.toNat=y.toNat*2 ^ s)(hY63:9223372036854775808<=Y.toNat):
 ZcC yD a b y=some (yac ((a.toNat*18446744073709551616+b.toNat) % y.toNat)):=by
 have hp:0 < y.toNat:=by
  rcases ycf y.toNat with h|h
  ·exact absurd (ycl.1 h) hy
  ·exact h
 obtain⟨q,r,h1,h2⟩:=ZMc (a:=a % y) (b:=b) hy hs s0 s1 hY hYn hY63 (by rw[UInt64.toNat_mod];exact ybj _ hp);unfold ZcC;rw[yW (by rw[yE];exact hy),h1,ya];dsimp only;rw[UInt64.toNat_mod,Nat.add_mod,Nat.mod_mul_mod, <-Nat.add_mod] at h2;rw[<-h2,UInt64.ofNat_toNat]
theorem ZQm:YD yD 4611686018427377339=some ((2:Nat):Int):=by kernel_rfl
theorem ZQn:YD yD 2305843009213688669=some ((3:Nat):Int):=by kernel_rfl
theorem ZQo:YD yD 2305843009213688668=some ((3:Nat):Int):=by kernel_rfl
noncomputable def VH(F:Nat)(a0:yU)(a1:yU)(a2:yU):yO yU:=
 if(a2==4611686018427377339 || (a2==2305843009213688669 || a2==2305843009213688668))=true then some (yac ((a0.toNat*18446744073709551616+a1.toNat) % a2.toNat)) else ZcC F a0 a1 a2
theorem ZMd(a b y:yU):ZcC yD a b y=VH yD a b y:=by
 unfold VH;split
 ·rename_i h;simp only[Bool.or_eq_true,yT] at h;rcases h with rfl|rfl|rfl
  ·exact ZCE (Y:=18446744073709509356) (s:=2) a b (by decide) ZQm (by decide) (by decide) (by kernel_rfl) (by decide) (by decide)
  ·exact ZCE (Y:=18446744073709509352) (s:=3) a b (by decide) ZQn (by decide) (by decide) (by kernel_rfl) (by decide) (by decide)
  ·exact ZCE (Y:=18446744073709509344) (s:=3) a b (by decide) ZQo (by decide) (by decide) (by kernel_rfl) (by decide) (by decide)
 ·rfl
noncomputable def ZzK(F:Nat):Fs yb:={ ZhC F with M:=λx=>VH F x.1 x.2.1 x.2.2}
noncomputable def ZgM:Fs yb:=ZzK yD
theorem Zjn:ZgM.Ok:=Zrp (s:=ZhC yD) ZxT λx=>(ZMd x.1 x.2.1 x.2.2).symm
end Go.Proofs.YtdhclndplbopgaaGreat
end
section
set_option maxRecDepth 4000
namespace Go.Proofs.YtdhclndplbopgaaGreat
open Go Go.Ev
noncomputable section
def ZgN(F:Nat)(a0:yU)(a1:yU):yO ((yU×yU)):=
 let y29:yU:=ZH ((a0&&&4294967295)*(a1&&&4294967295)) 32;let y30:yU:=(((ZH a0 32)*(a1&&&4294967295))+y29)&&&4294967295;let y31:yU:=ZH (((ZH a0 32)*(a1&&&4294967295))+y29) 32;let y32:yU:=ZH (y30+((a0&&&4294967295)*(ZH a1 32))) 32
 some ((((ZH a0 32)*(ZH a1 32))+y31)+y32,a0*a1)
def ZhD(F:Nat):Fs yb:=⟨251,[.v .u64,.v .u64],[],[.u64,.u64],[⟨.ret,[(0,.tup [.v .u64,.v .u64])],[],[.u64,.u64]⟩],λx=>ZgN F x.1 x.2⟩
def ZzL:Fs yb:=ZhD yD
theorem ZxU:ZzL.Ok:=fnO { still:=[4,5]} [] [] trivial
end
end Go.Proofs.YtdhclndplbopgaaGreat
end
section
set_option maxRecDepth 4000
namespace Go.Proofs.YtdhclndplbopgaaGreat
open Go Go.Ev
theorem ZMe(x y:yU):∃h l,ZgN yD x y=some (h,l)/\h.toNat*18446744073709551616+l.toNat=x.toNat*y.toNat:=by
 unfold ZgN;refine⟨_,_,rfl, ?_⟩;have hx:=ybt x;have hy:=ybt y;have x0l:x.toNat % 4294967296 < 4294967296:=ybj _ (by decide);have y0l:y.toNat % 4294967296 < 4294967296:=ybj _ (by decide);have x1l:x.toNat / 4294967296 < 4294967296:=by omega
 have y1l:y.toNat / 4294967296 < 4294967296:=by omega
 have xe:x.toNat=x.toNat / 4294967296*4294967296+x.toNat % 4294967296:=by omega
 have ye:y.toNat=y.toNat / 4294967296*4294967296+y.toNat % 4294967296:=by omega
 generalize hX1:x.toNat / 4294967296=x1 at*;generalize hX0:x.toNat % 4294967296=x0 at*;generalize hY1:y.toNat / 4294967296=y1 at*;generalize hY0:y.toNat % 4294967296=y0 at*;have p00:=ZnV x0l y0l;have p10:=ZnV x1l y0l;have p01:=ZnV x0l y1l;have p11:=ZnV x1l y1l
 have prod:x.toNat*y.toNat=x1*y1*18446744073709551616+(x1*y0+x0*y1)*4294967296+x0*y0:=by
  rw[xe,ye,yba,Nat.mul_add,Nat.mul_add]
  have e1:x1*4294967296*(y1*4294967296)=x1*y1*18446744073709551616:=by
   rw[Nat.mul_assoc,Nat.mul_left_comm 4294967296 y1, <-Nat.mul_assoc]
  have e2:x1*4294967296*y0=x1*y0*4294967296:=by rw[Nat.mul_right_comm]
  have e3:x0*(y1*4294967296)=x0*y1*4294967296:=by rw[Nat.mul_assoc]
  rw[e1,e2,e3];omega
 have q00:((x&&&4294967295)*(y&&&4294967295)).toNat=x0*y0:=by
  rw[ZpC (by rw[ZnU,ZnU,hX0,hY0];omega),ZnU,ZnU,hX0,hY0]
 have q10:((ZH x 32)*(y&&&4294967295)).toNat=x1*y0:=by
  rw[ZpC (by rw[Zav,ZnU,show(2:Nat) ^ 32=4294967296 from rfl,hX1,hY0];omega),Zav,ZnU,show(2:Nat) ^ 32=4294967296 from rfl,hX1,hY0]
 have q01:((x&&&4294967295)*(ZH y 32)).toNat=x0*y1:=by
  rw[ZpC (by rw[Zav,ZnU,show(2:Nat) ^ 32=4294967296 from rfl,hX0,hY1];omega),Zav,ZnU,show(2:Nat) ^ 32=4294967296 from rfl,hX0,hY1]
 have q11:((ZH x 32)*(ZH y 32)).toNat=x1*y1:=by
  rw[ZpC (by rw[Zav,Zav,show(2:Nat) ^ 32=4294967296 from rfl,hX1,hY1];omega),Zav,Zav,show(2:Nat) ^ 32=4294967296 from rfl,hX1,hY1]
 generalize hA:((x&&&4294967295)*(y&&&4294967295):yU)=A at*;generalize hB:((ZH x 32)*(y&&&4294967295):yU)=B at*;generalize hC:((x&&&4294967295)*(ZH y 32):yU)=C at*;generalize hD:((ZH x 32)*(ZH y 32):yU)=D at*;have s1:(ZH A 32).toNat=x0*y0 / 4294967296:=by rw[Zav,q00]
 have s2:(B+ZH A 32).toNat=x1*y0+x0*y0 / 4294967296:=by rw[ZpB (by rw[q10,s1];omega),q10,s1]
 have s3:((B+ZH A 32)&&&4294967295).toNat=(x1*y0+x0*y0 / 4294967296) % 4294967296:=by rw[ZnU,s2]
 have s4:(ZH (B+ZH A 32) 32).toNat=(x1*y0+x0*y0 / 4294967296) / 4294967296:=by rw[Zav,s2]
 have s5:(((B+ZH A 32)&&&4294967295)+C).toNat=(x1*y0+x0*y0 / 4294967296) % 4294967296+x0*y1:=by rw[ZpB (by rw[s3,q01];omega),s3,q01]
 have s6:(ZH (((B+ZH A 32)&&&4294967295)+C) 32).toNat=((x1*y0+x0*y0 / 4294967296) % 4294967296+x0*y1) / 4294967296:=by rw[Zav,s5]
 have s7:(D+ZH (B+ZH A 32) 32).toNat=x1*y1+(x1*y0+x0*y0 / 4294967296) / 4294967296:=by rw[ZpB (by rw[q11,s4];omega),q11,s4]
 have s8:(x*y).toNat=x.toNat*y.toNat % 18446744073709551616:=UInt64.toNat_mul ..
 have s9:((D+ZH (B+ZH A 32) 32)+ZH (((B+ZH A 32)&&&4294967295)+C) 32).toNat=x1*y1+(x1*y0+x0*y0 / 4294967296) / 4294967296+((x1*y0+x0*y0 / 4294967296) % 4294967296+x0*y1) / 4294967296:=by
  rw[ZpB (by rw[s7,s6];omega),s7,s6]
 rw[s9,s8,prod];generalize x0*y0=a at*;generalize x1*y0=b at*;generalize x0*y1=c at*;generalize x1*y1=d at*;omega
theorem ZMf(x y:yU):ZgN yD x y=some (yac (x.toNat*y.toNat / 18446744073709551616),yac (x.toNat*y.toNat % 18446744073709551616)):=by
 obtain⟨h,l,e,k⟩:=ZMe x y;have hl:=ybt l;rw[e, <-k,show(h.toNat*18446744073709551616+l.toNat) / 18446744073709551616=h.toNat by omega,show(h.toNat*18446744073709551616+l.toNat) % 18446744073709551616=l.toNat by omega,UInt64.ofNat_toNat,UInt64.ofNat_toNat]
noncomputable def ZeX(F:Nat)(a0:yU)(a1:yU):yO (yU×yU):=some (yac (a0.toNat*a1.toNat / 18446744073709551616),yac (a0.toNat*a1.toNat % 18446744073709551616))
noncomputable def ZzM(F:Nat):Fs yb:={ ZhD F with M:=λx=>ZeX F x.1 x.2}
noncomputable def Zlt:Fs yb:=ZzM yD
theorem ZqD:Zlt.Ok:=Zrp (s:=ZhD yD) ZxU λx=>(ZMf x.1 x.2).symm
end Go.Proofs.YtdhclndplbopgaaGreat
end
section
set_option maxRecDepth 4000
namespace Go.Proofs.YtdhclndplbopgaaGreat
open Go Go.Ev
noncomputable section
def Yt(F:Nat)(a0:yU)(a1:yU):yO (yU):=
 (ZeX F a0 a1).bind λo33=>
 (VH F o33.1 o33.2 4611686018427377339).bind λo34=>
 some o34
def ZxV(F:Nat):Fs yb:=⟨205,[.v .u64,.v .u64],[],[.u64,.u64],(zN .u64),λx=>Yt F x.1 x.2⟩
def Zjo:Fs yb:=ZxV yD
theorem ZnW:Zjo.Ok:=fnO { still:=[4,8,9,13,14]} [] [Zlt,ZgM] ⟨ZqD,Zjn,ytt⟩
def Qn(F:Nat)(s:(yU×yU×yU)):yO ((yU×yU×yU)⊕yU):=
 if(decide (s.2.1 > 0))=true then
  if((s.2.1&&&1)==1)=true then
   (Yt F s.2.2 s.1).bind λo35=>
   (Yt F s.1 s.1).bind λo36=>
   some (.inl (o36,ZH s.2.1 1,o35))
  else
  (Yt F s.1 s.1).bind λo37=>
  some (.inl (o37,ZH s.2.1 1,s.2.2))
 else
 some (.inr s.2.2)
def Zmx:Lp:=⟨[(0,.v .u64),(1,.v .u64),(5,.v .u64)],[],[.u64,.u64,.u64],[⟨.exit 0,[(5,.v .u64)],[],[.u64]⟩],Zb (Qn yD) yD⟩
theorem Zrq:Zmx.okA yb 119 0:=Zv { still:=[4,13,14,16,17]} [] [Zjo] ⟨ZnW,ytt⟩
def Zjp(F:Nat)(a0:yU)(a1:yU):yO (yU):=
 (Zb (Qn F) F (a0,a1,1)).bind λo38=>
 some o38
def ZfR(F:Nat):Fs yb:=⟨119,[.v .u64,.v .u64],[],[.u64,.u64],(zN .u64),λx=>Zjp F x.1 x.2⟩
def ZxW:Fs yb:=ZfR yD
theorem ZvL:ZxW.Ok:=fnO { still:=[4,13,14,16,17]} [(0,Zmx)] [] trivial ⟨Zrq,ytt⟩
end
end Go.Proofs.YtdhclndplbopgaaGreat
end
section
namespace Go.Ev
theorem Zvc{h a m:Nat}(ha:h ^ a % m=1 % m)(k:Nat):h ^ (a*k) % m=1 % m:=by
 rw[Nat.pow_mul,Nat.pow_mod,ha, <-Nat.pow_mod,Nat.one_pow]
def pwm(m:Nat):Nat->Nat->Nat->Nat->Nat
 |0,_,_,o=>o
 |f+1,a,n,o=>if n=0 then o else pwm m f (a*a % m) (n / 2) (if n % 2=1 then o*a % m else o)
theorem ZIG{m:Nat}:∀(k a n o:Nat),n < 2 ^ k->pwm m k a n o % m=o*a ^ n % m
 |0,a,n,o,h=>by
  have:n=0:=by rw[Nat.pow_zero] at h;omega
  subst this
  rw[pwm,Nat.pow_zero,Nat.mul_one]
 |k+1,a,n,o,h=>by
  rw[pwm];by_cases h0:n=0
  ·rw[yW h0,h0,Nat.pow_zero,Nat.mul_one]
  rw[yX h0,ZIG k _ _ _ (by rw[Nat.pow_succ] at h;omega)]
  have e:a ^ n=(a*a) ^ (n / 2)*a ^ (n % 2):=by
   rw[<-Nat.pow_two, <-Nat.pow_mul, <-Nat.pow_add];congr 1;omega
  have e2:(a*a % m) ^ (n / 2) % m=(a*a) ^ (n / 2) % m:=(Nat.pow_mod ..).symm;rw[e];split
  ·rename_i h1;rw[h1,Nat.pow_one,Nat.mul_mod,e2, <-Nat.mul_mod,Nat.mul_mod,Nat.mod_mod, <-Nat.mul_mod];congr 1;rw[Nat.mul_assoc,ybo a]
  ·rename_i h1;have:n % 2=0:=by omega
   rw[this,Nat.pow_zero,Nat.mul_one,Nat.mul_mod,e2, <-Nat.mul_mod]
def ord:Nat:=2305843009213688669
def mdl:Nat:=4611686018427377339
def QA(a:Nat):Prop:=0 < a/\a < mdl/\a ^ ord % mdl=1
theorem ZRn{a:Nat}(h:a < mdl)(e:a ^ ord % mdl=1):QA a:=by
 refine⟨?_,h,e⟩;rcases ycf a with h0|h0
 ·subst h0;rw[Nat.zero_pow (by decide)] at e;cases e
 ·exact h0
theorem ZMg:QA 1:=⟨by decide,by decide,by rw[Nat.one_pow];decide⟩
theorem ZQp{a:Nat}(ha:QA a)(n:Nat):QA (a ^ n % mdl):=by
 refine ZRn (ybj _ (by decide)) ?_;rw[<-Nat.pow_mod, <-Nat.pow_mul,ybo];exact Zvc (m:=mdl) ha.2.2 n
theorem ZOt{a:Nat}(ha:QA a)(n:Nat):a ^ (n % ord) % mdl=a ^ n % mdl:=by
 have e:n=ord*(n / ord)+n % ord:=(Nat.div_add_mod n _).symm;have h:=Zvc (m:=mdl) (k:=n / ord) ha.2.2
 conv=>rhs;rw[e]
 rw[Nat.pow_add,Nat.mul_mod,h, <-Nat.mul_mod,Nat.one_mul]
end Go.Ev
end
section
set_option maxRecDepth 4000
namespace Go.Proofs.YtdhclndplbopgaaGreat
open Go Go.Ev
theorem ZMh{z:Nat}:(yac (z % 4611686018427377339)).toNat=z % 4611686018427377339:=by
 rw[ybd,yak];exact Nat.lt_trans (ybj _ (by decide)) (by decide)
theorem ZE9(a b:yU):Yt yD a b=some (yac (a.toNat*b.toNat % 4611686018427377339)):=by
 unfold Yt ZeX;rw[ya];dsimp only;unfold VH;rw[yW (by decide),ya,ybd,ybd];have h:a.toNat*b.toNat < 18446744073709551616*18446744073709551616:=Nat.mul_lt_mul'' (ybt a) (ybt b);have h2:a.toNat*b.toNat / 18446744073709551616 < 18446744073709551616:=(Nat.div_lt_iff_lt_mul (by decide)).2 h;generalize a.toNat*b.toNat=z at*;rw[show(4611686018427377339:yU).toNat=4611686018427377339 from rfl]
 have e:z / 18446744073709551616 % 2 ^ 64*18446744073709551616+z % 18446744073709551616 % 2 ^ 64=z:=by omega
 rw[e]
theorem ZxX:∀(k m:Nat)(A N O:yU),N.toNat < 2 ^ k->k < m->Zb (Qn yD) m (A,N,O)=some (yac (pwm 4611686018427377339 k A.toNat N.toNat O.toNat))
 |k,0,_,_,_,_,h=>by omega
 |0,m+1,A,N,O,h,_=>by
  have hn:¬N > 0:=by
   intro h2;have h3:0 < N.toNat:=yca.1 h2;rw[Nat.pow_zero] at h;omega
  have hs:Qn yD (A,N,O)=if decide (N > 0)=true then(if((N&&&1)==1)=true then(Yt yD O A).bind λo1=>(Yt yD A A).bind λo2=>some (.inl (o2,ZH N 1,o1)) else(Yt yD A A).bind λo2=>some (.inl (o2,ZH N 1,O))) else some (.inr O):=rfl
  unfold Zb;rw[hs]
  rw[yX (by rw[yN];exact hn),ya,pwm,UInt64.ofNat_toNat]
 |k+1,m+1,A,N,O,h,hm=>by
  have hs:Qn yD (A,N,O)=if decide (N > 0)=true then(if((N&&&1)==1)=true then(Yt yD O A).bind λo1=>(Yt yD A A).bind λo2=>some (.inl (o2,ZH N 1,o1)) else(Yt yD A A).bind λo2=>some (.inl (o2,ZH N 1,O))) else some (.inr O):=rfl
  unfold Zb;rw[hs];by_cases h2:N > 0
  ·have hp:0 < N.toNat->pwm 4611686018427377339 (k+1) A.toNat N.toNat O.toNat=pwm 4611686018427377339 k (A.toNat*A.toNat % 4611686018427377339) (N.toNat / 2) (if N.toNat % 2=1 then O.toNat*A.toNat % 4611686018427377339 else O.toNat):=λh=>by
    rw[pwm,yX (by omega)]
   have h3:0 < N.toNat:=yca.1 h2
   have hsh:(ZH N 1).toNat=N.toNat / 2:=by
    unfold ZH;rw[ybd,yak (ycw (Nat.div_le_self ..) (ybt _))]
   have hlt:(ZH N 1).toNat < 2 ^ k:=by
    rw[hsh];rw[Nat.pow_succ] at h;omega
   have hand:((N&&&1)==1)=decide (N.toNat % 2=1):=by
    rw[Bool.eq_iff_iff,yT,yN, <-ycl,UInt64.toNat_and];exact Iff.of_eq (congrArg (· =1) (Nat.and_one_is_mod _))
   rw[yW (yY h2),hand,hp h3];simp only[ZE9];by_cases h4:N.toNat % 2=1
   ·rw[yW (yY h4),yW h4,ya,ya,ya];dsimp only;rw[ZxX k m _ _ _ hlt (by omega),ZMh,ZMh,hsh]
   ·rw[yX (by rw[yN];exact h4),yX h4,ya,ya];dsimp only;rw[ZxX k m _ _ _ hlt (by omega),ZMh,hsh]
  ·have h3:N.toNat=0:=by
    rcases ycf N.toNat with h5|h5
    ·exact h5
    ·exact absurd (show(0:yU) < N from yca.2 h5) h2
   rw[yX (by rw[yN];exact h2),ya,pwm,yW h3,UInt64.ofNat_toNat]
theorem ZMi(a n:yU):Zjp yD a n=some (yac (pwm 4611686018427377339 64 a.toNat n.toNat 1)):=by
 unfold Zjp;rw[ZxX 64 yD a n 1 (ybt _) (by rw[ZgL];omega),ya];rfl
noncomputable def ZaY(F:Nat)(a0:yU)(a1:yU):yO yU:=some (yac (pwm 4611686018427377339 64 a0.toNat a1.toNat 1))
noncomputable def ZxY(F:Nat):Fs yb:={ ZfR F with M:=λx=>ZaY F x.1 x.2}
noncomputable def Zew:Fs yb:=ZxY yD
theorem ZhE:Zew.Ok:=Zrp (s:=ZfR yD) ZvL λx=>(ZMi x.1 x.2).symm
end Go.Proofs.YtdhclndplbopgaaGreat
end
section
set_option maxRecDepth 4000
namespace Go.Proofs.YtdhclndplbopgaaGreat
open Go Go.Ev
noncomputable section
def XO(F:Nat)(a0:yU):yO (Bool):=
 if(decide (a0 > 0))=true then
  if(decide (a0 < 4611686018427377339))=true then
   (ZaY F a0 2305843009213688669).bind λo39=>
   some (o39==1)
  else
  some false
 else
 some false
def ZxZ(F:Nat):Fs yb:=⟨45,[.v .u64],[],[.u64],(zN .bool),λx=>XO F x⟩
def VW:Fs yb:=ZxZ yD
theorem Qo:VW.Ok:=fnO { still:=[2,10]} [] [Zew] ⟨ZhE,ytt⟩
def ZhF(F:Nat)(a0:Int):yO (Bool):=
 if(decide (a0 >= 0))=true then
  some (decide (a0<=1125899906842624))
 else
 some false
def ZCF(F:Nat):Fs yb:=⟨247,[.v yI],[],[yI],(zN .bool),λx=>ZhF F x⟩
def Zvd:Fs yb:=ZCF yD
theorem ZCG:Zvd.Ok:=fnO { still:=[2]} [] [] trivial
def ZhG(F:Nat)(a0:Int)(a1:Int):yO ((Int×Bool)):=
 (ZhF F a0).bind λo40=>
 if(!o40)=true then
  some (0,false)
 else
 (ZhF F a1).bind λo41=>
 if(!o41)=true then
  some (0,false)
 else
 if(decide (a0 > (wi (1125899906842624 - a1))))=true then
  some (0,false)
 else
 some (wi (a0+a1),true)
def ZHh(F:Nat):Fs yb:=⟨200,[.v yI,.v yI],[],[yI,yI],[⟨.ret,[(0,.tup [.v yI,.v .bool])],[],[yI,.bool]⟩],λx=>ZhG F x.1 x.2⟩
def ZtX:Fs yb:=ZHh yD
theorem Zx0:ZtX.Ok:=fnO { still:=[4,5,6,10]} [] [Zvd] ⟨ZCG,ytt⟩
def Wu(F:Nat)(a0:Int)(a1:Int)(a2:Int):yO (Bool):=
 if(decide (a1<=a0))=true then
  some (decide (a0<=a2))
 else
 some false
def ZtY(F:Nat):Fs yb:=⟨252,[.v yI,.v yI,.v yI],[],[yI,yI,yI],(zN .bool),λx=>Wu F x.1 x.2.1 x.2.2⟩
def Zmy:Fs yb:=ZtY yD
theorem ZtZ:Zmy.Ok:=fnO { still:=[6]} [] [] trivial
abbrev ZcD:Ty:=(.st [yI,yI,yI,yI,yI,yI])
abbrev Terms:Type:=(Int×Int×Int×Int×Int×Int)
def ZgO(F:Nat)(a0:Terms):yO (Bool):=
 (Wu F a0.1 0 65536).bind λo42=>
 if o42=true then
  (Wu F a0.2.2.1 1 4096).bind λo43=>
  if o43=true then
   (Wu F a0.2.2.2.1 0 16).bind λo44=>
   if o44=true then
    (Wu F a0.2.1 a0.1 1125899906842624).bind λo45=>
    if o45=true then
     (Wu F a0.2.2.2.2.1 1 1125899906842624).bind λo46=>
     if o46=true then
      (Wu F a0.2.2.2.2.2 0 1125899906842624).bind λo47=>
      some o47
     else
     some false
    else
    some false
   else
   some false
  else
  some false
 else
 some false
def Zx1(F:Nat):Fs yb:=⟨206,[.v ZcD],[],[ZcD],(zN .bool),λx=>ZgO F x⟩
def ZqE:Fs yb:=Zx1 yD
def hi0:HI:={ still:=[2,7,12,18,25,27,33,39]}
theorem Zx2:ZqE.Ok:=fnO hi0 [] [Zmy] ⟨ZtZ,ytt⟩
def ZbB(F:Nat)(a0:yU):yO (Bool):=
 if(a0==1)=true then
  some true
 else
 (XO F a0).bind λo48=>
 some (!o48)
def ZsB(F:Nat):Fs yb:=⟨253,[.v .u64],[],[.u64],(zN .bool),λx=>ZbB F x⟩
def Zkn:Fs yb:=ZsB yD
theorem ZsC:Zkn.Ok:=fnO { still:=[2,6]} [] [VW] ⟨Qo,ytt⟩
abbrev ZbC:Ty:=(.st [.u64,.u64,.u64,.u64,.u64])
abbrev Basics:Type:=(yU×yU×yU×yU×yU)
abbrev Basics.Cond(x:Basics):yU:=x.2.2.2.1
def VI(F:Nat)(s:((yL yU)×Int×Int)):yO (((yL yU)×Int×Int)⊕(Int⊕Unit)):=
 if(decide (s.2.2 < s.2.1))=true then
  (idx s.1 s.2.2).bind λe49=>
  (ZbB F e49).bind λo50=>
  if o50=true then
   some (.inr (.inl s.2.2))
  else
  some (.inl (s.1,s.2.1,wi (s.2.2+1)))
 else
 some (.inr (.inr ()))
def Zko:Lp:=⟨[(0,.v (.sl .u64)),(1,.fn 253 []),(7,.v yI),(8,.v yI)],[],[(.sl .u64),yI,yI],[⟨.ret,[(4,.v yI)],[],[yI]⟩,⟨.exit 0,[],[],[]⟩],Zb (VI yD) yD⟩
theorem ZpN:Zko.okA yb 233 0:=Zv { still:=[4,15]} [] [Zkn] ⟨ZsC,ytt⟩
def ZhH(F:Nat)(a0:(yL yU)):yO (Int):=
 (Zb (VI F) F (a0,(a0.length:Int),0)).bind λo51=>
 match o51 with
 |.inl o52=>
  some o52
 |.inr o53=>
  some (-1)
def Zt0(F:Nat):Fs yb:=⟨233,[.v (.sl .u64),.fn 253 []],[],[(.sl .u64)],(zN yI),λx=>ZhH F x⟩
def Zmz:Fs yb:=Zt0 yD
theorem Zt1:Zmz.Ok:=fnO { still:=[4,15]} [(0,Zko)] [] trivial ⟨ZpN,ytt⟩
def Zrr(F:Nat)(a0:(yL yU)):yO (Bool):=
 (ZhH F a0).bind λo54=>
 some (decide (o54 >= 0))
def ZCH(F:Nat):Fs yb:=⟨179,[.v (.sl .u64),.fn 253 []],[],[(.sl .u64)],(zN .bool),λx=>Zrr F x⟩
def Zve:Fs yb:=ZCH yD
theorem ZCI:Zve.Ok:=fnO { still:=[4,5,6]} [] [Zmz] ⟨Zt1,ytt⟩
def Zex(F:Nat)(a0:Basics):yO (Bool):=
 (Zrr F [a0.1,a0.2.1,a0.2.2.1,a0.2.2.2.1,a0.2.2.2.2]).bind λo55=>
 some (!o55)
def ZvM(F:Nat):Fs yb:=⟨207,[.v ZbC],[],[ZbC],(zN .bool),λx=>Zex F x⟩
def ZnX:Fs yb:=ZvM yD
theorem ZvN:ZnX.Ok:=fnO { still:=[2,14,15]} [] [Zve] ⟨ZCI,ytt⟩
abbrev Xx:Ty:=(.st [(.arr 32 .u8),yI])
abbrev XP:Type:=((yL yB)×Int)
abbrev XP.N(x:XP):Int:=x.2
abbrev Zu:Ty:=(.st [Xx,yI,(.arr 2 ZbC),(.arr 2 ZcD),yI])
abbrev Chan:Type:=(XP×Int×(yL Basics)×(yL Terms)×Int)
abbrev Chan.Basics(x:Chan):(yL Basics):=x.2.2.1
abbrev Chan.Terms(x:Chan):(yL Terms):=x.2.2.2.1
def Q2(F:Nat)(s:((yL Terms)×Int×Chan)):yO (((yL Terms)×Int×Chan)⊕((Int×Chan)⊕Chan)):=
 if(decide (s.2.1 < 2))=true then
  (idx s.1 s.2.1).bind λe56=>
  (ZgO F e56).bind λo57=>
  if(!o57)=true then
   some (.inr (.inl (1,s.2.2)))
  else
  if(inB s.2.1 2)=true then
   (s.2.2.2.2.1[s.2.1.toNat]?).bind λe58=>
   (Zex F e58).bind λo59=>
   if(!o59)=true then
    some (.inr (.inl (1,s.2.2)))
   else
   some (.inl (s.1,wi (s.2.1+1),s.2.2))
  else
  none
 else
 some (.inr (.inr s.2.2))
def ZsD:Lp:=⟨[(1,.ref 0 []),(34,.v (.arr 2 ZcD)),(35,.v yI)],[.var (.v Zu) true],[(.arr 2 ZcD),yI,Zu],[⟨.ret,[(2,.v yI)],[.var (.v Zu) true],[yI,Zu]⟩,⟨.exit 0,[(1,.ref 0 [])],[.var (.v Zu) true],[Zu]⟩],Zb (Q2 yD) yD⟩
theorem ZvO:ZsD.okA yb 120 0:=Zv { still:=[2,39,46,55,59]} [] [ZqE,ZnX] ⟨Zx2,ZvN,ytt⟩
def Zlu(F:Nat)(a0:Chan):yO (Int):=
 if(decide (a0.2.1 < 1))=true then
  some 1
 else
 if(decide (a0.2.1 > 1125899906842624))=true then
  some 1
 else
 if(decide (a0.1.2 < 0))=true then
  some 1
 else
 if(decide (a0.1.2 >= 64))=true then
  some 1
 else
 if((bits .andNot .i64 a0.2.2.2.2 1)!=0)=true then
  some 1
 else
 (Zb (Q2 F) F (a0.2.2.2.1,0,a0)).bind λo60=>
 match o60 with
 |.inl o61=>
  some o61.1
 |.inr o62=>
  (o62.2.2.2.1[0]?).bind λe63=>
  (o62.2.2.2.1[1]?).bind λe64=>
  (ZhG F e63.2.1 e64.2.1).bind λo65=>
  if(!o65.2)=true then
   some 10
  else
  if(decide (o65.1 > o62.2.1))=true then
   some 10
  else
  some 0
def ZCJ(F:Nat):Fs yb:=⟨120,[.v Zu],[],[Zu],(zN yI),λx=>Zlu F x⟩
def Zvf:Fs yb:=ZCJ yD
theorem ZCK:Zvf.Ok:=fnO { still:=[2,39,46,55,59]} [(0,ZsD)] [ZtX] ⟨Zx0,ytt⟩ ⟨ZvO,ytt⟩
def ZbD(F:Nat)(a0:Int)(s0:Int)(s1:Int):yO ((Bool×Int×Int)):=
 if(decide (a0 < s0))=true then
  some (true,s0,s1)
 else
 some (decide (a0 > s1),s0,s1)
def ZsE(F:Nat):Fs yb:=⟨209,[.v yI,.ref 0 [],.ref 1 []],[.var (.v yI) true,.var (.v yI) true],[yI,yI,yI],[⟨.ret,[(0,.v .bool)],[.var (.v yI) true,.var (.v yI) true],[.bool,yI,yI]⟩],λx=>ZbD F x.1 x.2.1 x.2.2⟩
def Zkp:Fs yb:=ZsE yD
theorem ZsF:Zkp.Ok:=fnO { still:=[4]} [] [] trivial
def ZV(F:Nat)(s:((yL Int)×Int×Int×Int×Int)):yO (((yL Int)×Int×Int×Int×Int)⊕((Int×Int×Int)⊕(Int×Int))):=
 if(decide (s.2.2.1 < s.2.1))=true then
  (idx s.1 s.2.2.1).bind λe66=>
  (ZbD F e66 s.2.2.2.1 s.2.2.2.2).bind λo67=>
  if o67.1=true then
   some (.inr (.inl (s.2.2.1,o67.2.1,o67.2.2)))
  else
  some (.inl (s.1,s.2.1,wi (s.2.2.1+1),o67.2.1,o67.2.2))
 else
 some (.inr (.inr (s.2.2.2.1,s.2.2.2.2)))
def Zac:Lp:=⟨[(0,.v (.sl yI)),(1,.fn 209 [.ref 0 [],.ref 1 []]),(7,.v yI),(8,.v yI)],[.var (.v yI) true,.var (.v yI) true],[(.sl yI),yI,yI,yI,yI],[⟨.ret,[(4,.v yI)],[.var (.v yI) true,.var (.v yI) true],[yI,yI,yI]⟩,⟨.exit 0,[],[.var (.v yI) true,.var (.v yI) true],[yI,yI]⟩],Zb (ZV yD) yD⟩
theorem Zeb:Zac.okA yb 254 0:=Zv { still:=[4,15]} [] [Zkp] ⟨ZsF,ytt⟩
def X8(F:Nat)(a0:(yL Int))(s0:Int)(s1:Int):yO ((Int×Int×Int)):=
 (Zb (ZV F) F (a0,(a0.length:Int),0,s0,s1)).bind λo68=>
 match o68 with
 |.inl o69=>
  some (o69.1,o69.2.1,o69.2.2)
 |.inr o70=>
  some ((-1),o70.1,o70.2)
def ZgP(F:Nat):Fs yb:=⟨254,[.v (.sl yI),.fn 209 [.ref 0 [],.ref 1 []]],[.var (.v yI) true,.var (.v yI) true],[(.sl yI),yI,yI],[⟨.ret,[(0,.v yI)],[.var (.v yI) true,.var (.v yI) true],[yI,yI,yI]⟩],λx=>X8 F x.1 x.2.1 x.2.2⟩
def Zaw:Fs yb:=ZgP yD
theorem ZgQ:Zaw.Ok:=fnO { still:=[4,15]} [(0,Zac)] [] trivial ⟨Zeb,ytt⟩
def Xo(F:Nat)(a0:(yL Int))(s0:Int)(s1:Int):yO ((Bool×Int×Int)):=
 (X8 F a0 s0 s1).bind λo71=>
 some (decide (o71.1 >= 0),o71.2.1,o71.2.2)
def Zec(F:Nat):Fs yb:=⟨208,[.v (.sl yI),.fn 209 [.ref 0 [],.ref 1 []]],[.var (.v yI) true,.var (.v yI) true],[(.sl yI),yI,yI],[⟨.ret,[(0,.v .bool)],[.var (.v yI) true,.var (.v yI) true],[.bool,yI,yI]⟩],λx=>Xo F x.1 x.2.1 x.2.2⟩
def Qv:Fs yb:=Zec yD
theorem Zed:Qv.Ok:=fnO { still:=[4,5,6]} [] [Zaw] ⟨ZgQ,ytt⟩
def Z9(F:Nat)(a0:Int)(a1:Int)(a2:(yL Int)):yO (Bool):=
 (Xo F a2 a0 a1).bind λo72=>
 some (!o72.1)
def ZvP(F:Nat):Fs yb:=⟨121,[.v yI,.v yI,.v (.sl yI)],[],[yI,yI,(.sl yI)],(zN .bool),λx=>Z9 F x.1 x.2.1 x.2.2⟩
def ZhI:Fs yb:=ZvP yD
theorem ZmA:ZhI.Ok:=fnO { still:=[6,7,8]} [] [Qv] ⟨Zed,ytt⟩
abbrev Yc:Ty:=(.st [yI,yI,yI,.u64,yI])
abbrev Cond:Type:=(Int×Int×Int×yU×Int)
def Zi1(F:Nat)(a0:Cond):yO (Bool):=
 (Z9 F 0 1 [a0.1]).bind λo73=>
 if o73=true then
  (Z9 F 1 1048576 [a0.2.1]).bind λo74=>
  if o74=true then
   (Z9 F 1 1125899906842624 [a0.2.2.1]).bind λo75=>
   if o75=true then
    (Z9 F 1 1048576 [a0.2.2.2.2]).bind λo76=>
    if o76=true then
     (XO F a0.2.2.2.1).bind λo77=>
     if o77=true then
      some (a0.2.2.2.1 !=1)
     else
     some false
    else
    some false
   else
   some false
  else
  some false
 else
 some false
def ZzN(F:Nat):Fs yb:=⟨122,[.v Yc],[],[Yc],(zN .bool),λx=>Zi1 F x⟩
def ZsG:Fs yb:=ZzN yD
theorem ZzO:ZsG.Ok:=fnO { still:=[2,5,10,16,22,27]} [] [ZhI,VW] ⟨ZmA,Qo,ytt⟩
def Qp(F:Nat)(s:(Int×(yL Int)×Int×Int)):yO ((Int×(yL Int)×Int×Int)⊕(Int⊕Int)):=
 if(decide (s.2.2.2 < s.2.2.1))=true then
  (idx s.2.1 s.2.2.2).bind λe78=>
  if(e78 !=s.1)=true then
   some (.inr (.inl e78))
  else
  some (.inl (s.1,s.2.1,s.2.2.1,wi (s.2.2.2+1)))
 else
 some (.inr (.inr s.1))
def ZqF:Lp:=⟨[(3,.v yI),(6,.v (.sl yI)),(7,.v yI),(8,.v yI)],[],[yI,(.sl yI),yI,yI],[⟨.ret,[(2,.v yI)],[],[yI]⟩,⟨.exit 0,[(3,.v yI)],[],[yI]⟩],Zb (Qp yD) yD⟩
theorem Zt2:ZqF.okA yb 59 0:=Zv { still:=[2]} [] [] trivial
def ZeY(F:Nat)(a0:(yL Int)):yO (Int):=
 (Zb (Qp F) F (0,a0,(a0.length:Int),0)).bind λo79=>
 match o79 with
 |.inl o80=>
  some o80
 |.inr o81=>
  some o81
def ZzP(F:Nat):Fs yb:=⟨59,[.v (.sl yI)],[],[(.sl yI)],(zN yI),λx=>ZeY F x⟩
def Zlv:Fs yb:=ZzP yD
theorem ZqG:Zlv.Ok:=fnO { still:=[2]} [(0,ZqF)] [] trivial ⟨Zt2,ytt⟩
def ZcE(F:Nat)(a0:Int):yO (Bool):=
 some (a0 !=a0)
def Zt3(F:Nat):Fs yb:=⟨133,[.v yI],[],[yI],(zN .bool),λx=>ZcE F x⟩
def ZmB:Fs yb:=Zt3 yD
theorem Zt4:ZmB.Ok:=fnO { still:=[2]} [] [] trivial
def YO(F:Nat)(a0:Int)(a1:Int):yO (Int):=
 (ZcE F a0).bind λo82=>
 (ZcE F a1).bind λo83=>
 if o82=true then
  if o83=true then
   some 0
  else
  some (-1)
 else
 if o83=true then
  some 1
 else
 if(decide (a0 < a1))=true then
  some (-1)
 else
 if(decide (a0 > a1))=true then
  some 1
 else
 some 0
def Zrs(F:Nat):Fs yb:=⟨60,[.v yI,.v yI],[],[yI,yI],(zN yI),λx=>YO F x.1 x.2⟩
def ZcF:Fs yb:=Zrs yD
theorem ZhJ:ZcF.Ok:=fnO { still:=[4,7,9]} [] [ZmB] ⟨Zt4,ytt⟩
def ZgR(F:Nat)(a0:Cond)(a1:Cond):yO (Int):=
 (YO F a0.1 a1.1).bind λo84=>
 (YO F a0.2.1 a1.2.1).bind λo85=>
 (ZeY F [o84,o85]).bind λo86=>
 some o86
def Zx3(F:Nat):Fs yb:=⟨123,[.v Yc,.v Yc],[],[Yc,Yc],(zN yI),λx=>ZgR F x.1 x.2⟩
def ZqH:Fs yb:=Zx3 yD
theorem Zx4:ZqH.Ok:=fnO { still:=[4,6,8,11,13,15]} [] [ZcF,Zlv] ⟨ZhJ,ZqG,ytt⟩
abbrev Zf:Ty:=(.st [yI,(.arr 2 yI),(.sl Yc),yI])
abbrev yG:Type:=(Int×(yL Int)×(yL Cond)×Int)
def Zad(F:Nat)(s:(Int×Int×Int×(yL Cond)×Int×Int×yG)):yO ((Int×Int×Int×(yL Cond)×Int×Int×yG)⊕(Int×Int×yG)):=
 if(decide (s.2.2.2.2.2.1 < s.2.2.2.2.1))=true then
  (idx s.2.2.2.1 s.2.2.2.2.2.1).bind λe87=>
  if(e87.1==(wi (1 - s.1)))=true then
   some (.inl (s.1,wi (s.2.1+1),wi (s.2.2.1+e87.2.2.1),s.2.2.2.1,s.2.2.2.2.1,wi (s.2.2.2.2.2.1+1),s.2.2.2.2.2.2))
  else
  some (.inl (s.1,s.2.1,s.2.2.1,s.2.2.2.1,s.2.2.2.2.1,wi (s.2.2.2.2.2.1+1),s.2.2.2.2.2.2))
 else
 some (.inr (s.2.1,s.2.2.1,s.2.2.2.2.2.2))
def Zkq:Lp:=⟨[(1,.v yI),(6,.v yI),(7,.v yI),(11,.v (.sl Yc)),(12,.v yI),(13,.v yI)],[.var (.v Zf) true],[yI,yI,yI,(.sl Yc),yI,yI,Zf],[⟨.exit 0,[(6,.v yI),(7,.v yI)],[.var (.v Zf) true],[yI,yI,Zf]⟩],Zb (Zad yD) yD⟩
theorem ZpO:Zkq.okA yb 124 0:=Zv { still:=[4,5]} [] [] trivial
def ZcG(F:Nat)(a0:yG)(a1:Int):yO ((Int×Int)):=
 (Zb (Zad F) F (a1,0,0,a0.2.2.1,(a0.2.2.1.length:Int),0,a0)).bind λo88=>
 some (o88.1,o88.2.1)
def Zt5(F:Nat):Fs yb:=⟨124,[.v Zf,.v yI],[],[Zf,yI],[⟨.ret,[(0,.tup [.v yI,.v yI])],[],[yI,yI]⟩],λx=>ZcG F x.1 x.2⟩
def ZmC:Fs yb:=Zt5 yD
theorem Zt6:ZmC.Ok:=fnO { still:=[4,5]} [(0,Zkq)] [] trivial ⟨ZpO,ytt⟩
def ZbE(F:Nat)(s:(Int×(yL Cond)×Int×Int×yG)):yO ((Int×(yL Cond)×Int×Int×yG)⊕(Int×yG)):=
 if(decide (s.2.2.2.1 < s.2.2.1))=true then
  (idx s.2.1 s.2.2.2.1).bind λe91=>
  some (.inl (wi (s.1+e91.2.2.1),s.2.1,s.2.2.1,wi (s.2.2.2.1+1),s.2.2.2.2))
 else
 some (.inr (s.1,s.2.2.2.2))
def ZnY:Lp:=⟨[(3,.v yI),(14,.v (.sl Yc)),(15,.v yI),(16,.v yI)],[.var (.v Zf) true],[yI,(.sl Yc),yI,yI,Zf],[⟨.exit 0,[(3,.v yI)],[.var (.v Zf) true],[yI,Zf]⟩],Zb (ZbE yD) yD⟩
theorem ZsH:ZnY.okA yb 125 0:=Zv { still:=[2]} [] [] trivial
def ZgS(F:Nat)(a0:yG):yO (Int):=
 (a0.2.1[0]?).bind λe89=>
 (a0.2.1[1]?).bind λe90=>
 (Zb (ZbE F) F (wi (e89+e90),a0.2.2.1,(a0.2.2.1.length:Int),0,a0)).bind λo92=>
 some o92.1
def Zx5(F:Nat):Fs yb:=⟨125,[.v Zf],[],[Zf],(zN yI),λx=>ZgS F x⟩
def ZqI:Fs yb:=Zx5 yD
theorem Zx6:ZqI.Ok:=fnO { still:=[2]} [(0,ZnY)] [] trivial ⟨ZsH,ytt⟩
def Zjq(F:Nat)(a0:Int):yO (Int):=
 if(decide (a0 < 0))=true then
  some 0
 else
 if(decide (a0 > 16))=true then
  some 0
 else
 some (wi (68+(wi (8*a0))))
def ZvQ(F:Nat):Fs yb:=⟨213,[.v yI],[],[yI],(zN yI),λx=>Zjq F x⟩
def ZnZ:Fs yb:=ZvQ yD
theorem ZvR:ZnZ.Ok:=fnO { still:=[2]} [] [] trivial
def ZhK(F:Nat)(a0:Int)(a1:Int):yO (Int):=
 if(decide (a0 < 0))=true then
  some 0
 else
 if(decide (a0 > 1000))=true then
  some 0
 else
 (Zjq F a1).bind λo93=>
 some (wi (a0*o93))
def ZCL(F:Nat):Fs yb:=⟨130,[.v yI,.v yI],[],[yI,yI],(zN yI),λx=>ZhK F x.1 x.2⟩
def Zn0:Fs yb:=ZCL yD
theorem ZsI:Zn0.Ok:=fnO { still:=[4,12]} [] [ZnZ] ⟨ZvR,ytt⟩
def Zi2(F:Nat)(a0:Chan)(a1:yG):yO (Int):=
 (ZhK F a1.2.2.2 (a1.2.2.1.length:Int)).bind λo94=>
 some (wi (o94+660))
def ZzQ(F:Nat):Fs yb:=⟨126,[.v Zu,.v Zf],[],[Zu,Zf],(zN yI),λx=>Zi2 F x.1 x.2⟩
def ZsJ:Fs yb:=ZzQ yD
theorem ZzR:ZsJ.Ok:=fnO { still:=[4,6,9]} [] [Zn0] ⟨ZsI,ytt⟩
def WK(F:Nat)(s:((yL Cond)×Int×Int×Chan×yG)):yO (((yL Cond)×Int×Int×Chan×yG)⊕((Bool×Chan×yG)⊕(Chan×yG))):=
 if(decide (s.2.2.1 < s.2.1))=true then
  (idx s.1 s.2.2.1).bind λe101=>
  (Zi1 F e101).bind λo102=>
  if(!o102)=true then
   some (.inr (.inl (false,s.2.2.2.1,s.2.2.2.2)))
  else
  if(inB (wi (1 - e101.1)) 2)=true then
   (s.2.2.2.1.2.2.2.1[(wi (1 - e101.1)).toNat]?).bind λe103=>
   if(decide (e101.2.2.1 < e103.2.2.2.2.1))=true then
    some (.inr (.inl (false,s.2.2.2.1,s.2.2.2.2)))
   else
   if(decide (s.2.2.1 > 0))=true then
    (idx s.2.2.2.2.2.2.1 (wi (s.2.2.1 - 1))).bind λe104=>
    (ZgR F e104 e101).bind λo105=>
    if(decide (o105 >= 0))=true then
     some (.inr (.inl (false,s.2.2.2.1,s.2.2.2.2)))
    else
    some (.inl (s.1,s.2.1,wi (s.2.2.1+1),s.2.2.2.1,s.2.2.2.2))
   else
   some (.inl (s.1,s.2.1,wi (s.2.2.1+1),s.2.2.2.1,s.2.2.2.2))
  else
  none
 else
 some (.inr (.inr (s.2.2.2.1,s.2.2.2.2)))
def Zn1:Lp:=⟨[(2,.ref 0 []),(3,.ref 1 []),(46,.v (.sl Yc)),(47,.v yI),(48,.v yI)],[.var (.v Zu) true,.var (.v Zf) true],[(.sl Yc),yI,yI,Zu,Zf],[⟨.ret,[(4,.v .bool)],[.var (.v Zu) true,.var (.v Zf) true],[.bool,Zu,Zf]⟩,⟨.exit 0,[(2,.ref 0 []),(3,.ref 1 [])],[.var (.v Zu) true,.var (.v Zf) true],[Zu,Zf]⟩],Zb (WK yD) yD⟩
def hi1:HI:={ still:=[4,11,17,28,35,53,77,78,91,92,107,118,119]}
theorem ZsK:Zn1.okA yb 46 0:=Zv hi1 [] [ZsG,ZqH] ⟨ZzO,Zx4,ytt⟩
def Vx(F:Nat)(s:((yL Terms)×Int×Chan×yG)):yO (((yL Terms)×Int×Chan×yG)⊕((Bool×Chan×yG)⊕(Chan×yG))):=
 if(decide (s.2.1 < 2))=true then
  (idx s.1 s.2.1).bind λe109=>
  (ZcG F s.2.2.2 s.2.1).bind λo110=>
  if(decide (o110.1 > e109.2.2.2.1))=true then
   some (.inr (.inl (false,s.2.2.1,s.2.2.2)))
  else
  if(decide (o110.2 > e109.2.2.2.2.2))=true then
   some (.inr (.inl (false,s.2.2.1,s.2.2.2)))
  else
  some (.inl (s.1,wi (s.2.1+1),s.2.2.1,s.2.2.2))
 else
 some (.inr (.inr (s.2.2.1,s.2.2.2)))
def Zn2:Lp:=⟨[(2,.ref 0 []),(3,.ref 1 []),(85,.v (.arr 2 ZcD)),(86,.v yI)],[.var (.v Zu) true,.var (.v Zf) true],[(.arr 2 ZcD),yI,Zu,Zf],[⟨.ret,[(4,.v .bool)],[.var (.v Zu) true,.var (.v Zf) true],[.bool,Zu,Zf]⟩,⟨.exit 2,[(2,.ref 0 []),(3,.ref 1 [])],[.var (.v Zu) true,.var (.v Zf) true],[Zu,Zf]⟩],Zb (Vx yD) yD⟩
theorem ZsL:Zn2.okA yb 46 1:=Zv hi1 [] [ZmC] ⟨Zt6,ytt⟩
def ZaZ(F:Nat)(a0:Chan)(a1:yG):yO (Bool):=
 (Zlu F a0).bind λo95=>
 if(o95 !=0)=true then
  some false
 else
 (Z9 F 0 1048576 [a1.1]).bind λo96=>
 if(!o96)=true then
  some false
 else
 (a1.2.1[0]?).bind λe97=>
 (a1.2.1[1]?).bind λe98=>
 (Z9 F 0 1125899906842624 [e97,e98]).bind λo99=>
 if(!o99)=true then
  some false
 else
 (Z9 F 0 1000 [a1.2.2.2]).bind λo100=>
 if(!o100)=true then
  some false
 else
 if(decide ((a1.2.2.1.length:Int) > 16))=true then
  some false
 else
 (Zb (WK F) F (a1.2.2.1,(a1.2.2.1.length:Int),0,a0,a1)).bind λo106=>
 match o106 with
 |.inl o107=>
  some o107.1
 |.inr o108=>
  (Zb (Vx F) F (o108.1.2.2.2.1,0,o108.1,o108.2)).bind λo111=>
  match o111 with
  |.inl o112=>
   some o112.1
  |.inr o113=>
   (ZgS F o113.2).bind λo114=>
   if(o114==o113.1.2.1)=true then
    if(inB o113.1.2.2.2.2 2)=true then
     (o113.2.2.1[o113.1.2.2.2.2.toNat]?).bind λe115=>
     (Zi2 F o113.1 o113.2).bind λo116=>
     some (decide (e115 >= o116))
    else
    none
   else
   some false
def Zx7(F:Nat):Fs yb:=⟨46,[.v Zu,.v Zf],[],[Zu,Zf],(zN .bool),λx=>ZaZ F x.1 x.2⟩
def Zjr:Fs yb:=Zx7 yD
theorem Zn3:Zjr.Ok:=fnO hi1 [(0,Zn1),(1,Zn2)] [Zvf,ZhI,ZqI,ZsJ] ⟨ZCK,ZmA,Zx6,ZzR,ytt⟩ ⟨ZsK,ZsL,ytt⟩
def Za0(F:Nat)(a0:yU):yO (yU):=
 (XO F a0).bind λo117=>
 if o117=true then
  some a0
 else
 some 1
def Zx8(F:Nat):Fs yb:=⟨211,[.v .u64],[],[.u64],(zN .u64),λx=>Za0 F x⟩
def Zey:Fs yb:=Zx8 yD
theorem ZhL:Zey.Ok:=fnO { still:=[2,3]} [] [VW] ⟨Qo,ytt⟩
def Zez(F:Nat)(s:(yU×(yL yU)×Int×Int)):yO ((yU×(yL yU)×Int×Int)⊕yU):=
 if(decide (s.2.2.2 < s.2.2.1))=true then
  (idx s.2.1 s.2.2.2).bind λe118=>
  (Za0 F e118).bind λo119=>
  (Yt F s.1 o119).bind λo120=>
  some (.inl (o120,s.2.1,s.2.2.1,wi (s.2.2.2+1)))
 else
 some (.inr s.1)
def ZsM:Lp:=⟨[(3,.v .u64),(6,.v (.sl .u64)),(7,.v yI),(8,.v yI)],[],[.u64,(.sl .u64),yI,yI],[⟨.exit 0,[(3,.v .u64)],[],[.u64]⟩],Zb (Zez yD) yD⟩
theorem ZvS:ZsM.okA yb 210 0:=Zv { still:=[2,12,13,14]} [] [Zey,Zjo] ⟨ZhL,ZnW,ytt⟩
def ZhM(F:Nat)(a0:(yL yU)):yO (yU):=
 (Zb (Zez F) F (1,a0,(a0.length:Int),0)).bind λo121=>
 some o121
def ZCM(F:Nat):Fs yb:=⟨210,[.v (.sl .u64)],[],[(.sl .u64)],(zN .u64),λx=>ZhM F x⟩
def Zn4:Fs yb:=ZCM yD
theorem ZsN:Zn4.Ok:=fnO { still:=[2,12,13,14]} [(0,ZsM)] [] trivial ⟨ZvS,ytt⟩
def Zee(F:Nat)(a0:yU)(a1:yU):yO (yU):=
 (ZhM F [a0,a1]).bind λo122=>
 some o122
def ZCN(F:Nat):Fs yb:=⟨127,[.v .u64,.v .u64],[],[.u64,.u64],(zN .u64),λx=>Zee F x.1 x.2⟩
def Zi3:Fs yb:=ZCN yD
theorem Zlw:Zi3.Ok:=fnO { still:=[4,7]} [] [Zn4] ⟨ZsN,ytt⟩
def QB(F:Nat)(a0:yU)(a1:yU):yO (yU):=
 (Za0 F a0).bind λo123=>
 (ZaY F o123 (a1 % 2305843009213688669)).bind λo124=>
 some o124
def Zx9(F:Nat):Fs yb:=⟨128,[.v .u64,.v .u64],[],[.u64,.u64],(zN .u64),λx=>QB F x.1 x.2⟩
def ZeA:Fs yb:=Zx9 yD
theorem ZhN:ZeA.Ok:=fnO { still:=[4,5,6,8]} [] [Zey,Zew] ⟨ZhL,ZhE,ytt⟩
def Qq(F:Nat)(s:(yU×(yL yB)×Int×(yL yB))):yO ((yU×(yL yB)×Int×(yL yB))⊕(yU×(yL yB))):=
 if(decide (s.2.2.1 < 32))=true then
  (idx s.2.1 s.2.2.1).bind λe125=>
  (VH F (ZH s.1 56) ((Zar s.1 8)|||(yac e125.toNat)) 2305843009213688668).bind λo126=>
  some (.inl (o126,s.2.1,wi (s.2.2.1+1),s.2.2.2))
 else
 some (.inr (s.1,s.2.2.2))
def ZqJ:Lp:=⟨[(3,.v .u64),(6,.v (.arr 32 .u8)),(7,.v yI)],[.var (.v (.arr 32 .u8)) true],[.u64,(.arr 32 .u8),yI,(.arr 32 .u8)],[⟨.exit 0,[(3,.v .u64)],[.var (.v (.arr 32 .u8)) true],[.u64,(.arr 32 .u8)]⟩],Zb (Qq yD) yD⟩
theorem Zt7:ZqJ.okA yb 115 0:=Zv { still:=[2,11,16]} [] [ZgM] ⟨Zjn,ytt⟩
def Zax(F:Nat)(a0:(yL yB)):yO (yU):=
 (Zb (Qq F) F (0,a0,0,a0)).bind λo127=>
 some (o127.1+1)
def ZzS(F:Nat):Fs yb:=⟨115,[.v (.arr 32 .u8)],[],[(.arr 32 .u8)],(zN .u64),λx=>Zax F x⟩
def ZcH:Fs yb:=ZzS yD
theorem ZeB:ZcH.Ok:=fnO { still:=[2,11,16]} [(0,ZqJ)] [] trivial ⟨Zt7,ytt⟩
def Zn5(F:Nat):yO ((yL yV)):=
 some [1779033703,3144134277,1013904242,2773480762,1359893119,2600822924,528734635,1541459225]
def ZzT(F:Nat):Fs yb:=⟨248,[],[],[],(zN (.arr 8 .u32)),λx=>Zn5 F⟩
def ZsO:Fs yb:=ZzT yD
theorem ZzU:ZsO.Ok:=fnO {} [] [] trivial
def ZP(F:Nat)(a0:yV)(a1:Int):yO (yV):=
 let y129:yV:=Zb9 a0 (min (((w64 a1)&&&31).toNat:Int).toNat 32);let y130:yV:=Zf4 a0 (min ((32 - ((w64 a1)&&&31)).toNat:Int).toNat 32)
 some (y129|||y130)
def Zn6(F:Nat):Fs yb:=⟨270,[.v .u32,.v yI],[],[.u32,yI],(zN .u32),λx=>ZP F x.1 x.2⟩
def Zbf:Fs yb:=Zn6 yD
theorem ZeZ:Zbf.Ok:=fnO { still:=[4]} [] [] trivial
def ZgT(F:Nat)(a0:(yL yB)):yO (yV):=
 (idx a0 0).bind λe131=>
 (idx a0 1).bind λe132=>
 let y133:yV:=(Zb9 (ybs e131.toNat) 24)|||(Zb9 (ybs e132.toNat) 16)
 (idx a0 2).bind λe134=>
 (idx a0 3).bind λe135=>
 let y136:yV:=(y133|||(Zb9 (ybs e134.toNat) 8))|||(ybs e135.toNat)
 some y136
def Zya(F:Nat):Fs yb:=⟨278,[.v (.sl .u8)],[],[(.sl .u8)],(zN .u32),λx=>ZgT F x⟩
def ZqK:Fs yb:=Zya yD
theorem Zyb:ZqK.Ok:=fnO { still:=[2]} [] [] trivial
def Zae(F:Nat)(s:((yL yB)×Int×(yL yV))):yO (((yL yB)×Int×(yL yV))⊕(yL yV)):=
 if(decide (s.2.1 < 64))=true then
  if(decide (s.2.1 < 16))=true then
   if(Zbp s.1.length (some (wi (4*s.2.1))) none)=true then
    (ZgT F (s.1.drop ((wi (4*s.2.1)).toNat))).bind λo137=>
    if(inB s.2.1 64)=true then
     (s.2.2[s.2.1.toNat]?).bind λe138=>
     some (.inl (s.1,wi (s.2.1+1),s.2.2.set s.2.1.toNat o137))
    else
    none
   else
   none
  else
  if(inB (wi (s.2.1 - 15)) 64)=true then
   (s.2.2[(wi (s.2.1 - 15)).toNat]?).bind λe139=>
   if(inB (wi (s.2.1 - 2)) 64)=true then
    (s.2.2[(wi (s.2.1 - 2)).toNat]?).bind λe140=>
    (ZP F e139 (-7)).bind λo141=>
    (ZP F e139 (-18)).bind λo142=>
    (ZP F e140 (-17)).bind λo143=>
    (ZP F e140 (-19)).bind λo144=>
    if(inB (wi (s.2.1 - 16)) 64)=true then
     (s.2.2[(wi (s.2.1 - 16)).toNat]?).bind λe145=>
     if(inB (wi (s.2.1 - 7)) 64)=true then
      (s.2.2[(wi (s.2.1 - 7)).toNat]?).bind λe146=>
      let y147:yV:=(e145+((o141^^^o142)^^^(Zf4 e139 3)))+e146
      if(inB s.2.1 64)=true then
       (s.2.2[s.2.1.toNat]?).bind λe148=>
       let y149:(yL yV):=s.2.2.set s.2.1.toNat (y147+((o143^^^o144)^^^(Zf4 e140 10)))
       some (.inl (s.1,wi (s.2.1+1),y149))
      else
      none
     else
     none
    else
    none
   else
   none
  else
  none
 else
 some (.inr s.2.2)
def Zkr:Lp:=⟨[(0,.v (.sl .u8)),(2,.ref 0 []),(8,.v yI)],[.var (.v (.arr 64 .u32)) true],[(.sl .u8),yI,(.arr 64 .u32)],[⟨.exit 0,[(2,.ref 0 [])],[.var (.v (.arr 64 .u32)) true],[(.arr 64 .u32)]⟩],Zb (Zae yD) yD⟩
theorem ZpP:Zkr.okA yb 268 0:=Zv { still:=[17,28,30,36,38]} [] [ZqK,Zbf] ⟨Zyb,ZeZ,ytt⟩
def ZcI(F:Nat)(a0:(yL yB)):yO ((yL yV)):=
 (Zb (Zae F) F (a0,0,[0,0,0,0,0,0,0,0,0,0,0,0,0,0,0,0,0,0,0,0,0,0,0,0,0,0,0,0,0,0,0,0,0,0,0,0,0,0,0,0,0,0,0,0,0,0,0,0,0,0,0,0,0,0,0,0,0,0,0,0,0,0,0,0])).bind λo150=>
 some o150
def Zt8(F:Nat):Fs yb:=⟨268,[.v (.sl .u8)],[],[(.sl .u8)],(zN (.arr 64 .u32)),λx=>ZcI F x⟩
def ZmD:Fs yb:=Zt8 yD
theorem Zt9:ZmD.Ok:=fnO { still:=[17,28,30,36,38]} [(0,Zkr)] [] trivial ⟨ZpP,ytt⟩
def Zn7(F:Nat):yO ((yL yV)):=
 some [1116352408,1899447441,3049323471,3921009573,961987163,1508970993,2453635748,2870763221,3624381080,310598401,607225278,1426881987,1925078388,2162078206,2614888103,3248222580,3835390401,4022224774,264347078,604807628,770255983,1249150122,1555081692,1996064986,2554220882,2821834349,2952996808,3210313671,3336571891,3584528711,113926993,338241895,666307205,773529912,1294757372,1396182291,1695183700,1986661051,2177026350,2456956037,2730485921,2820302411,3259730800,3345764771,3516065817,3600352804,4094571909,275423344,430227734,506948616,659060556,883997877,958139571,1322822218,1537002063,1747873779,1955562222,2024104815,2227730452,2361852424,2428436474,2756734187,3204031479,3329325298]
def ZzV(F:Nat):Fs yb:=⟨269,[],[],[],(zN (.arr 64 .u32)),λx=>Zn7 F⟩
def ZsP:Fs yb:=ZzV yD
theorem ZzW:ZsP.Ok:=fnO {} [] [] trivial
def QC(F:Nat)(s:(Int×(yL yV)×(yL yV)×(yL yV)×(yL yV)×(yL yV))):yO ((Int×(yL yV)×(yL yV)×(yL yV)×(yL yV)×(yL yV))⊕((yL yV)×(yL yV)×(yL yV)×(yL yV)×(yL yV))):=
 if(decide (s.1 < 64))=true then
  (s.2.2.2.2.2[4]?).bind λe153=>
  (ZP F e153 (-6)).bind λo154=>
  (s.2.2.2.2.2[4]?).bind λe155=>
  (ZP F e155 (-11)).bind λo156=>
  (s.2.2.2.2.2[4]?).bind λe157=>
  (ZP F e157 (-25)).bind λo158=>
  (s.2.2.2.2.2[7]?).bind λe159=>
  (s.2.2.2.2.2[6]?).bind λe160=>
  (s.2.2.2.2.2[4]?).bind λe161=>
  (s.2.2.2.2.2[5]?).bind λe162=>
  (s.2.2.2.2.2[6]?).bind λe163=>
  let y164:yV:=(e159+((o154^^^o156)^^^o158))+(e160^^^(e161&&&(e162^^^e163)))
  if(inB s.1 64)=true then
   (s.2.2.2.2.1[s.1.toNat]?).bind λe165=>
   if(inB s.1 64)=true then
    (s.2.2.2.1[s.1.toNat]?).bind λe166=>
    (s.2.2.2.2.2[0]?).bind λe167=>
    (ZP F e167 (-2)).bind λo168=>
    (s.2.2.2.2.2[0]?).bind λe169=>
    (ZP F e169 (-13)).bind λo170=>
    (s.2.2.2.2.2[0]?).bind λe171=>
    (ZP F e171 (-22)).bind λo172=>
    (s.2.2.2.2.2[0]?).bind λe173=>
    (s.2.2.2.2.2[1]?).bind λe174=>
    (s.2.2.2.2.2[2]?).bind λe175=>
    (s.2.2.2.2.2[0]?).bind λe176=>
    (s.2.2.2.2.2[1]?).bind λe177=>
    let y178:yV:=((y164+e165)+e166)+((o168^^^o170)^^^o172);let y179:yV:=y178+((e173&&&e174)|||(e175&&&(e176|||e177)))
    (s.2.2.2.2.2[0]?).bind λe180=>
    (s.2.2.2.2.2[1]?).bind λe181=>
    (s.2.2.2.2.2[2]?).bind λe182=>
    (s.2.2.2.2.2[3]?).bind λe183=>
    (s.2.2.2.2.2[4]?).bind λe184=>
    (s.2.2.2.2.2[5]?).bind λe185=>
    (s.2.2.2.2.2[6]?).bind λe186=>
    some (.inl (wi (s.1+1),s.2.1,s.2.2.1,s.2.2.2.1,s.2.2.2.2.1,[y179,e180,e181,e182,e183+((y164+e165)+e166),e184,e185,e186]))
   else
   none
  else
  none
 else
 some (.inr (s.2.1,s.2.2.1,s.2.2.2.1,s.2.2.2.2.1,s.2.2.2.2.2))
def ZOu:yL ESh:=[.var (.v (.arr 8 .u32)) true,.var (.v (.arr 8 .u32)) true,.var (.v (.arr 64 .u32)) true,.var (.v (.arr 64 .u32)) true,.var (.v (.arr 8 .u32)) true]
def Zi4:Lp:=⟨[(2,.ref 0 []),(4,.ref 1 []),(5,.ref 2 []),(6,.ref 3 []),(7,.ref 4 []),(18,.v yI)],ZOu,[yI,(.arr 8 .u32),(.arr 8 .u32),(.arr 64 .u32),(.arr 64 .u32),(.arr 8 .u32)],[⟨.exit 0,[(2,.ref 0 []),(4,.ref 1 []),(7,.ref 4 [])],ZOu,[(.arr 8 .u32),(.arr 8 .u32),(.arr 64 .u32),(.arr 64 .u32),(.arr 8 .u32)]⟩],Zb (QC yD) yD⟩
def hi2:HI:={ still:=[14,22,25,29,57,60,64]}
theorem Zn8:Zi4.okA yb 249 0:=Zv hi2 [] [Zbf] ⟨ZeZ,ytt⟩
def QD(F:Nat)(s:(Int×(yL yV)×(yL yV)×(yL yV)×(yL yV)×(yL yV))):yO ((Int×(yL yV)×(yL yV)×(yL yV)×(yL yV)×(yL yV))⊕((yL yV)×(yL yV)×(yL yV)×(yL yV)×(yL yV))):=
 if(decide (s.1 < 8))=true then
  if(inB s.1 8)=true then
   (s.2.2.2.2.2[s.1.toNat]?).bind λe188=>
   if(inB s.1 8)=true then
    (s.2.1[s.1.toNat]?).bind λe189=>
    if(inB s.1 8)=true then
     (s.2.2.2.2.2[s.1.toNat]?).bind λe190=>
     some (.inl (wi (s.1+1),s.2.1,s.2.2.1,s.2.2.2.1,s.2.2.2.2.1,s.2.2.2.2.2.set s.1.toNat (e188+e189)))
    else
    none
   else
   none
  else
  none
 else
 some (.inr (s.2.1,s.2.2.1,s.2.2.2.1,s.2.2.2.2.1,s.2.2.2.2.2))
def Zi5:Lp:=⟨[(2,.ref 0 []),(4,.ref 1 []),(7,.ref 4 []),(104,.v yI)],ZOu,[yI,(.arr 8 .u32),(.arr 8 .u32),(.arr 64 .u32),(.arr 64 .u32),(.arr 8 .u32)],[⟨.exit 2,[(4,.ref 1 []),(7,.ref 4 [])],ZOu,[(.arr 8 .u32),(.arr 8 .u32),(.arr 64 .u32),(.arr 64 .u32),(.arr 8 .u32)]⟩],Zb (QD yD) yD⟩
theorem Zn9:Zi5.okA yb 249 1:=Zv hi2 [] [] trivial
def QZ(F:Nat)(a0:(yL yV))(a1:(yL yB)):yO ((yL yV)):=
 (ZcI F a1).bind λo151=>
 (Zn7 F).bind λo152=>
 (Zb (QC F) F (0,a0,[0,0,0,0,0,0,0,0],o151,o152,a0)).bind λo187=>
 (Zb (QD F) F (0,o187.1,o187.2.1,o187.2.2.1,o187.2.2.2.1,o187.2.2.2.2)).bind λo191=>
 some o191.2.2.2.2
def ZsQ(F:Nat):Fs yb:=⟨249,[.v (.arr 8 .u32),.v (.sl .u8)],[],[(.arr 8 .u32),(.sl .u8)],(zN (.arr 8 .u32)),λx=>QZ F x.1 x.2⟩
def Zef:Fs yb:=ZsQ yD
theorem Zi6:Zef.Ok:=fnO hi2 [(0,Zi4),(1,Zi5)] [ZmD,ZsP] ⟨Zt9,ZzW,ytt⟩ ⟨Zn8,Zn9,ytt⟩
def Ye(F:Nat)(a0:(yL yB)):yO ((yL yB)):=
 if(apB 0 a0.length 1)=true then
  some a0
 else
 none
def ZfS(F:Nat):Fs yb:=⟨239,[.sl true .u8],[],[(.sl .u8)],[⟨.ret,[(0,.own 0 .u8)],[.log .u8 5],[(.sl .u8)]⟩],λx=>Ye F x⟩
def ZgU:Fs yb:=ZfS yD
theorem ZfT:ZgU.Ok:=fnO { own:=[2,5,7]} [] [] trivial
def Zay(F:Nat):yO ((yL yB)):=
 some []
def ZfU(F:Nat):Fs yb:=⟨239,[.nil .u8],[],[],[⟨.ret,[(0,.own 0 .u8)],[.log .u8 5],[(.sl .u8)]⟩],λx=>Zay F⟩
def ZgV:Fs yb:=ZfU yD
theorem ZfV:ZgV.Ok:=fnO { own:=[2,5,7]} [] [] trivial
def Zeg(F:Nat):Fs yb:=⟨239,[.v (.sl .u8)],[],[(.sl .u8)],[⟨.ret,[(0,.own 0 .u8)],[.log .u8 5],[(.sl .u8)]⟩],λx=>Ye F x⟩
def Qw:Fs yb:=Zeg yD
theorem Zeh:Qw.Ok:=ZtU (t:=.u8) (xs:=[⟨.ret,[(0,.own 0 .u8)],[.log .u8 5],[(.sl .u8)]⟩]) (MA:=λ(x:(yL yB))=>Ye yD x) (MB:=λ_=>Zay yD) ZfT ZfV rfl
def ZeC(F:Nat)(s:((yL yB)×(yL yB)×(yL yB))):yO (((yL yB)×(yL yB)×(yL yB))⊕((yL yB)×(yL yB)×(yL yB))):=
 if((Int.tmod (s.2.2.length:Int) 64)!=56)=true then
  if(apB s.2.2.length 1 1)=true then
   some (.inl (s.1,s.2.1,s.2.2++([0]:yL yB)))
  else
  none
 else
 some (.inr (s.1,s.2.1,s.2.2))
abbrev zS:List ESh:=[.var (.v (.arr 32 .u8)) true,.log .u8 5]
def ZsR:Lp:=⟨[(0,.v (.sl .u8)),(2,.ref 0 []),(3,.own 1 .u8)],zS,[(.sl .u8),(.arr 32 .u8),(.sl .u8)],[⟨.exit 0,[(0,.v (.sl .u8)),(2,.ref 0 []),(3,.own 1 .u8)],zS,[(.sl .u8),(.arr 32 .u8),(.sl .u8)]⟩],Zb (ZeC yD) yD⟩
def hi3:HI:={ own:=[3,14,16,21,23,24,28,43],still:=[13,24,27,35,37,44,46]}
theorem ZvT:ZsR.okA yb 202 0:=Zv hi3 [] [] trivial
def Za1(F:Nat)(s:(Int×Int×(yL yB)×(yL yB))):yO ((Int×Int×(yL yB)×(yL yB))⊕((yL yB)×(yL yB))):=
 if(decide (s.2.1 >= 0))=true then
  if(decide (0<=s.2.1))=true then
   if(apB s.2.2.1.length 1 1)=true then
    let y195:(yL yB):=s.2.2.1++([w8 (Int.fdiv s.1 (2 ^ (min s.2.1.toNat 64)))]:yL yB)
    some (.inl (s.1,wi (s.2.1 - 8),y195,s.2.2.2))
   else
   none
  else
  none
 else
 some (.inr (s.2.2.1,s.2.2.2))
def ZmE:Lp:=⟨[(0,.own 0 .u8),(1,.v yI),(5,.v yI)],[.log .u8 5,.log .u8 5],[yI,yI,(.sl .u8),(.sl .u8)],[⟨.exit 0,[(0,.own 0 .u8)],[.log .u8 5,.log .u8 5],[(.sl .u8),(.sl .u8)]⟩],Zb (Za1 yD) yD⟩
theorem Zrt:ZmE.okA yb 201 0:=Zv { own:=[0,4,10,16,17]} [] [] trivial
def VX(F:Nat)(a1:Int)(s0:(yL yB)):yO ((yL yB)):=
 (Zb (Za1 F) F (a1,56,s0,[])).bind λo196=>
 some o196.1
def ZfW(F:Nat):Fs yb:=⟨201,[.own 0 .u8,.v yI],[.log .u8 5],[yI,(.sl .u8)],[⟨.ret,[(0,.own 0 .u8)],[.log .u8 5],[(.sl .u8)]⟩],λx=>VX F x.1 x.2⟩
def ZhO:Fs yb:=ZfW yD
theorem ZfX:ZhO.Ok:=fnO { own:=[0,4,10,16,17]} [(0,ZmE)] [] trivial ⟨Zrt,ytt⟩
def ZeD(F:Nat)(s:((yL yB)×(yL yB)×(yL yB)×(yL yV))):yO (((yL yB)×(yL yB)×(yL yB)×(yL yV))⊕((yL yB)×(yL yB)×(yL yV))):=
 if(decide ((s.1.length:Int) >= 64))=true then
  if(Zbp s.1.length none (some 64))=true then
   (QZ F s.2.2.2 (s.1.take 64)).bind λo199=>
   if(Zbp s.1.length (some 64) none)=true then
    some (.inl (s.1.drop 64,s.2.1,s.2.2.1,o199))
   else
   none
  else
  none
 else
 some (.inr (s.2.1,s.2.2.1,s.2.2.2))
abbrev zQ:List ESh:=[.var (.v (.arr 32 .u8)) true,.log .u8 5,.var (.v (.arr 8 .u32)) true]
def ZsS:Lp:=⟨[(0,.v (.sl .u8)),(2,.ref 0 []),(3,.own 1 .u8),(4,.ref 2 [])],zQ,[(.sl .u8),(.arr 32 .u8),(.sl .u8),(.arr 8 .u32)],[⟨.exit 2,[(2,.ref 0 []),(3,.own 1 .u8),(4,.ref 2 [])],zQ,[(.arr 32 .u8),(.sl .u8),(.arr 8 .u32)]⟩],Zb (ZeD yD) yD⟩
theorem ZvU:ZsS.okA yb 202 1:=Zv hi3 [] [Zef] ⟨Zi6,ytt⟩
def ZeE(F:Nat)(s:((yL yB)×(yL yB)×(yL yB)×(yL yV))):yO (((yL yB)×(yL yB)×(yL yB)×(yL yV))⊕((yL yB)×(yL yB)×(yL yV))):=
 if(decide ((s.1.length:Int) > 0))=true then
  if(Zbp s.1.length none (some 64))=true then
   (QZ F s.2.2.2 (s.1.take 64)).bind λo202=>
   if(Zbp s.1.length (some 64) none)=true then
    some (.inl (s.1.drop 64,s.2.1,s.2.2.1,o202))
   else
   none
  else
  none
 else
 some (.inr (s.2.1,s.2.2.1,s.2.2.2))
def ZsT:Lp:=⟨[(2,.ref 0 []),(3,.v (.sl .u8)),(4,.ref 2 [])],zQ,[(.sl .u8),(.arr 32 .u8),(.sl .u8),(.arr 8 .u32)],[⟨.exit 4,[(2,.ref 0 []),(4,.ref 2 [])],zQ,[(.arr 32 .u8),(.sl .u8),(.arr 8 .u32)]⟩],Zb (ZeE yD) yD⟩
theorem ZvV:ZsT.okA yb 202 2:=Zv hi3 [] [Zef] ⟨Zi6,ytt⟩
def ZeF(F:Nat)(s:(Int×(yL yB)×(yL yB)×(yL yV))):yO ((Int×(yL yB)×(yL yB)×(yL yV))⊕((yL yB)×(yL yB)×(yL yV))):=
 if(decide (s.1 < 32))=true then
  if(inB (wi (Int.tdiv s.1 4)) 8)=true then
   (s.2.2.2[(wi (Int.tdiv s.1 4)).toNat]?).bind λe204=>
   if(decide (0<=wi (24 - (wi (8*(Int.tmod s.1 4))))))=true then
    let y205:yV:=Zf4 e204 (min (wi (24 - (wi (8*(Int.tmod s.1 4))))).toNat 32)
    if(inB s.1 32)=true then
     (s.2.1[s.1.toNat]?).bind λe206=>
     some (.inl (wi (s.1+1),s.2.1.set s.1.toNat (w8 (y205.toNat:Int)),s.2.2.1,s.2.2.2))
    else
    none
   else
   none
  else
  none
 else
 some (.inr (s.2.1,s.2.2.1,s.2.2.2))
def ZsU:Lp:=⟨[(2,.ref 0 []),(4,.ref 2 []),(48,.v yI)],zQ,[yI,(.arr 32 .u8),(.sl .u8),(.arr 8 .u32)],[⟨.exit 6,[(2,.ref 0 [])],zQ,[(.arr 32 .u8),(.sl .u8),(.arr 8 .u32)]⟩],Zb (ZeF yD) yD⟩
theorem ZvW:ZsU.okA yb 202 3:=Zv hi3 [] [] trivial
def ZhP(F:Nat)(a0:(yL yB)):yO ((yL yB)):=
 let y192:Int:=wi ((a0.length:Int) - (Int.tmod (a0.length:Int) 64))
 if(Zbp a0.length (some y192) none)=true then
  (Ye F (a0.drop y192.toNat)).bind λo193=>
  if(apB o193.length 1 1)=true then
   (Zb (ZeC F) F (a0,yzz,o193++([128]:yL yB))).bind λo194=>
   (VX F (wi (8*(o194.1.length:Int))) o194.2.2).bind λo197=>
   (Zn5 F).bind λo198=>
   (Zb (ZeD F) F (o194.1,o194.2.1,o197,o198)).bind λo200=>
   (Zb (ZeE F) F (o200.2.1,o200.1,o200.2.1,o200.2.2)).bind λo203=>
   (Zb (ZeF F) F (0,o203.1,o203.2.1,o203.2.2)).bind λo207=>
   some o207.1
  else
  none
 else
 none
def Zlx(F:Nat):Fs yb:=⟨202,[.v (.sl .u8)],[],[(.sl .u8)],(zN (.arr 32 .u8)),λx=>ZhP F x⟩
def ZFa:Fs yb:=Zlx yD
theorem ZCO:ZFa.Ok:=fnO hi3 [(0,ZsR),(1,ZsS),(2,ZsT),(3,ZsU)] [ZhO,Qw,ZsO] ⟨ZfX,Zeh,ZzU,ytt⟩ ⟨ZvT,ZvU,ZvV,ZvW,ytt⟩
end
end Go.Proofs.YtdhclndplbopgaaGreat
end
section
namespace Go.Sha
open Go.Ev
noncomputable def Zbr{α:Type}(n:Nat)(k:Nat->α):α:=Nat.rec (motive:=λ_=>α) (k 0) (λm _=>k (Nat.succ m)) n
theorem Wv{α:Type}(n:Nat)(k:Nat->α):Zbr n k=k n:=by cases n <;> rfl
def dbl(x:Nat):Nat:=Nat.mul x 4294967297
def s0(x:Nat):Nat:=Nat.xor (Nat.xor (yaf (dbl x) 7) (yaf (dbl x) 18)) (yaf x 3)
def s1(x:Nat):Nat:=Nat.xor (Nat.xor (yaf (dbl x) 17) (yaf (dbl x) 19)) (yaf x 10)
def S0(x:Nat):Nat:=Nat.xor (Nat.xor (yaf (dbl x) 2) (yaf (dbl x) 13)) (yaf (dbl x) 22)
def S1(x:Nat):Nat:=Nat.xor (Nat.xor (yaf (dbl x) 6) (yaf (dbl x) 11)) (yaf (dbl x) 25)
def ch(e f g:Nat):Nat:=Nat.xor g (Nat.land e (Nat.xor f g))
def mj(a b c:Nat):Nat:=Nat.lor (Nat.land a b) (Nat.land c (Nat.lor a b))
def lo(x:Nat):Nat:=Nat.mod x 4294967296
def kw(W:Nat):Nat:=lo (yr (yr (yr (yaf W 480) (s0 (lo (yaf W 448)))) (lo (yaf W 192))) (s1 (lo (yaf W 32))))
def kn(W:Nat):Nat:=Nat.mod (yr (Nat.mul W 4294967296) (kw W)) (Nat.pow 2 512)
noncomputable def kst(k:Nat)(ih:Nat->Nat->Nat->Nat->Nat->Nat->Nat->Nat->Nat->Nat)(W a b c d e f g h:Nat):Nat:=
 Zbr (yr (yr (yr (yr h (S1 e)) (ch e f g)) k) (yaf W 480)) λt=>
     Zbr (lo (yr (yr t (S0 a)) (mj a b c))) λa'=>Zbr (lo (yr d t)) λe'=>Zbr (kn W) λW'=>ih W' a' a b c e' e f g
noncomputable def kgo(ks:yL Nat)(K:Nat->Nat->Nat->Nat->Nat->Nat->Nat->Nat->Nat):Nat->Nat->Nat->Nat->Nat->Nat->Nat->Nat->Nat->Nat:=
 List.rec (motive:=λ_=>Nat->Nat->Nat->Nat->Nat->Nat->Nat->Nat->Nat->Nat) (λ_=>K) (λk _ ih=>kst k ih) ks
def ks:yL Nat:=[1116352408,1899447441,3049323471,3921009573,961987163,1508970993,2453635748,2870763221,3624381080,310598401,607225278,1426881987,1925078388,2162078206,2614888103,3248222580,3835390401,4022224774,264347078,604807628,770255983,1249150122,1555081692,1996064986,2554220882,2821834349,2952996808,3210313671,3336571891,3584528711,113926993,338241895,666307205,773529912,1294757372,1396182291,1695183700,1986661051,2177026350,2456956037,2730485921,2820302411,3259730800,3345764771,3516065817,3600352804,4094571909,275423344,430227734,506948616,659060556,883997877,958139571,1322822218,1537002063,1747873779,1955562222,2024104815,2227730452,2361852424,2428436474,2756734187,3204031479,3329325298]
def w32(H i:Nat):Nat:=lo (yaf H i)
def cat(H x:Nat):Nat:=yr (Nat.mul H 4294967296) (lo x)
noncomputable def ZOv(H B:Nat):Nat:=
 Zbr (w32 H 224) λa=>Zbr (w32 H 192) λb=>Zbr (w32 H 160) λc=>Zbr (w32 H 128) λd=>Zbr (w32 H 96) λe=>Zbr (w32 H 64) λf=>Zbr (w32 H 32) λg=>Zbr (w32 H 0) λh=>
  kgo ks (λa' b' c' d' e' f' g' h'=>cat (cat (cat (cat (cat (cat (cat (cat 0 (yr a' a)) (yr b' b)) (yr c' c)) (yr d' d)) (yr e' e)) (yr f' f)) (yr g' g)) (yr h' h)) B a b c d e f g h
noncomputable def pk(l:yL Nat)(n:Nat):Nat:=List.rec (motive:=λ_=>Nat->Nat) (λn=>n) (λx _ ih n=>Zbr (yr (Nat.mul n 256) x) ih) l n
noncomputable def ZQq(n:Nat)(l:yL Nat)(H:Nat):Nat:=
 Nat.rec (motive:=λ_=>yL Nat->Nat->Nat) (λ_ H=>H) (λ_ ih l H=>Zbr (ZOv H (pk (l.take 64) 0)) λH'=>ih (l.drop 64) H') n l H
noncomputable def outs(H:Nat)(l:yL Nat):yL yB:=List.rec (motive:=λ_=>yL yB) [] (λs _ ih=>Zbr (Nat.mod (yaf H s) 256) λx=>ybc x::ih) l
def ZHi:yL Nat:=[248,240,232,224,216,208,200,192,184,176,168,160,152,144,136,128,120,112,104,96,88,80,72,64,56,48,40,32,24,16,8,0]
def be8(n:Nat):yL Nat:=[n / 2 ^ 56 % 256,n / 2 ^ 48 % 256,n / 2 ^ 40 % 256,n / 2 ^ 32 % 256,n / 2 ^ 24 % 256,n / 2 ^ 16 % 256,n / 2 ^ 8 % 256,n % 256]
def zs(n:Nat):Nat:=(119 - n % 64) % 64
def H0:Nat:=cat (cat (cat (cat (cat (cat (cat (cat 0 1779033703) 3144134277) 1013904242) 2773480762) 1359893119) 2600822924) 528734635) 1541459225
noncomputable def sha(l:yL yB):yL yB:=
 Zbr l.length λn=>Zbr (ZQq (Nat.div (yr n 72) 64) (l.map yam++(128::(yx (zs n) 0++be8 (8*n)))) H0) λH=>outs H ZHi
theorem Zbb(x y:yV):(x+y).toNat=lo (x.toNat+y.toNat):=by rw[UInt32.toNat_add];rfl
theorem ZqL(x y:yV):(x^^^y).toNat=Nat.xor x.toNat y.toNat:=UInt32.toNat_xor ..
theorem ZMj(x y:yV):(x&&&y).toNat=Nat.land x.toNat y.toNat:=UInt32.toNat_and ..
theorem ZCP(x y:yV):(x|||y).toNat=Nat.lor x.toNat y.toNat:=UInt32.toNat_or ..
theorem ZQr(x:yV):x.toNat < 4294967296:=x.toNat_lt
theorem ZA9(x:yV)(n:Nat):(Zf4 x n).toNat=yaf x.toNat n:=by
 unfold Zf4;rw[ycs,show yaf x.toNat n=x.toNat >>> n from rfl,ydb]
 exact yak (ycw (Nat.div_le_self _ _) (ZQr x))
theorem ZPc(x:Nat):lo x < 4294967296:=ybj _ (by omega)
theorem Zdh{x:Nat}(h:x < 4294967296):lo x=x:=yak h
theorem ZPd(x:yV){n k:Nat}(h:n+k=32)(hn:0 < n):(Zb9 x k|||Zf4 x n).toNat=lo (yaf (dbl x.toNat) n):=by
 rw[ZCP,ZA9];unfold Zb9;have hx:=ZQr x;generalize x.toNat=m at hx;have hp:2 ^ n*2 ^ k=4294967296:=by rw[<-Nat.pow_add,h]
 rw[ycs,show yaf m n=m >>> n from rfl,ydb,show yaf (dbl m) n=(dbl m) >>> n from rfl,ydb]
 have e1:m*2 ^ k % 2 ^ 32=2 ^ k*(m % 2 ^ n):=by
  rw[show(2:Nat) ^ 32=2 ^ n*2 ^ k from hp.symm,Nat.mul_mod_mul_right]
  exact ybo ..
 have hd:m / 2 ^ n < 2 ^ k:=by
  rw[Nat.div_lt_iff_lt_mul (Nat.two_pow_pos n),ybo,hp];exact hx
 rw[e1,show Nat.lor (2 ^ k*(m % 2 ^ n)) (m / 2 ^ n)=2 ^ k*(m % 2 ^ n)|||m / 2 ^ n from rfl, <-ycz hd]
 have e2:dbl m=2 ^ n*(m*2 ^ k)+m:=by
  unfold dbl;rw[Nat.mul_left_comm,hp,show Nat.mul m 4294967297=m*4294967297 from rfl]
  omega
 rw[e2,Nat.mul_add_div (Nat.two_pow_pos n)];unfold lo;rw[show Nat.mod (m*2 ^ k+m / 2 ^ n) 4294967296=(m*2 ^ k+m / 2 ^ n) % 4294967296 from rfl,Nat.add_mod,show m*2 ^ k % 4294967296=2 ^ k*(m % 2 ^ n) from e1,yak (a:=m / 2 ^ n) (b:=4294967296) (by rw[<-hp];exact Nat.lt_of_lt_of_le hd (Nat.le_mul_of_pos_left _ (Nat.two_pow_pos n)))]
 refine(yak ?_).symm;have hm:m % 2 ^ n < 2 ^ n:=ybj _ (Nat.two_pow_pos n)
 calc 2 ^ k*(m % 2 ^ n)+m / 2 ^ n < 2 ^ k*(m % 2 ^ n)+2 ^ k:=by omega
  _=2 ^ k*(m % 2 ^ n+1):=by rw[Nat.mul_add,Nat.mul_one]
  _<=2 ^ k*2 ^ n:=Nat.mul_le_mul_left _ hm
  _=4294967296:=by rw[ybo,hp]
theorem Zoa(x y:Nat):lo (Nat.xor x y)=Nat.xor (lo x) (lo y):=Nat.xor_mod_two_pow (n:=32)
theorem ZMk(x:yV)(n:Nat):lo (yaf x.toNat n)=yaf x.toNat n:=by
 rw[<-ZA9];exact Zdh (ZQr _)
theorem ZRo(x:yV){a b:yV}(ha:a.toNat=lo (yaf (dbl x.toNat) 7))(hb:b.toNat=lo (yaf (dbl x.toNat) 18)):((a^^^b)^^^Zf4 x 3).toNat=lo (s0 x.toNat):=by
 unfold s0;rw[ZqL,ZqL,ZA9,ha,hb,Zoa,Zoa,ZMk]
theorem ZRp(x:yV){a b:yV}(ha:a.toNat=lo (yaf (dbl x.toNat) 17))(hb:b.toNat=lo (yaf (dbl x.toNat) 19)):((a^^^b)^^^Zf4 x 10).toNat=lo (s1 x.toNat):=by
 unfold s1;rw[ZqL,ZqL,ZA9,ha,hb,Zoa,Zoa,ZMk]
theorem ZRq(x:yV){a b c:yV}(ha:a.toNat=lo (yaf (dbl x.toNat) 2))(hb:b.toNat=lo (yaf (dbl x.toNat) 13))(hc:c.toNat=lo (yaf (dbl x.toNat) 22)):((a^^^b)^^^c).toNat=lo (S0 x.toNat):=by
 unfold S0;rw[ZqL,ZqL,ha,hb,hc,Zoa,Zoa]
theorem ZRr(x:yV){a b c:yV}(ha:a.toNat=lo (yaf (dbl x.toNat) 6))(hb:b.toNat=lo (yaf (dbl x.toNat) 11))(hc:c.toNat=lo (yaf (dbl x.toNat) 25)):((a^^^b)^^^c).toNat=lo (S1 x.toNat):=by
 unfold S1;rw[ZqL,ZqL,ha,hb,hc,Zoa,Zoa]
theorem ZRs(e f g:yV):(g^^^(e&&&(f^^^g))).toNat=ch e.toNat f.toNat g.toNat:=by
 unfold ch;rw[ZqL,ZMj,ZqL]
theorem ZRt(a b c:yV):((a&&&b)|||(c&&&(a|||b))).toNat=mj a.toNat b.toNat c.toNat:=by
 unfold mj;rw[ZCP,ZMj,ZMj,ZCP]
theorem ZRu(a b c d:Nat):lo (lo (lo (a+lo b)+c)+lo d)=lo (a+b+c+d):=by
 show(((a+b % 4294967296) % 4294967296+c) % 4294967296+d % 4294967296) % 4294967296=(a+b+c+d) % 4294967296;omega
theorem ZRv(a b c d e:Nat):lo (lo (lo (lo (a+lo b)+c)+d)+e)=lo (yr (yr (yr (yr a b) c) d) e):=by
 show((((a+b % 4294967296) % 4294967296+c) % 4294967296+d) % 4294967296+e) % 4294967296=(a+b+c+d+e) % 4294967296;omega
theorem ZRw(t s m:Nat):lo (lo (lo t+lo s)+m)=lo (yr (yr t s) m):=by
 show((t % 4294967296+s % 4294967296) % 4294967296+m) % 4294967296=(t+s+m) % 4294967296;omega
theorem ZRx(d t:Nat):lo (d+lo t)=lo (yr d t):=by
 show(d+t % 4294967296) % 4294967296=(d+t) % 4294967296;omega
def pw(n:Nat)(l:yL Nat):Nat:=l.foldl (λn x=>n*4294967296+x) n
theorem ZHj:∀(l:yL Nat)(n:Nat),(∀x,x∈l->x < 4294967296)->pw n l / 2 ^ (32*l.length)=n
 |[],n,_=>by simp[pw]
 |x::r,n,h=>by
  have ih:=ZHj r (n*4294967296+x) (λy hy=>h y (yay _ hy));have hx:=h x (yaw ..);rw[show pw n (x::r)=pw (n*4294967296+x) r from rfl,yaj,show 32*(r.length+1)=32*r.length+32 by omega,Nat.pow_add, <-Nat.div_div_eq_div_mul,ih]
  omega
theorem ZsV:∀(l:yL Nat)(n:Nat),pw n l=n*2 ^ (32*l.length)+pw 0 l
 |[],n=>by simp[pw]
 |x::r,n=>by
  rw[show pw n (x::r)=pw (n*4294967296+x) r from rfl,show pw 0 (x::r)=pw (0*4294967296+x) r from rfl,ZsV r (n*4294967296+x),ZsV r (0*4294967296+x),yaj,show 32*(r.length+1)=32+32*r.length by omega,Nat.pow_add,Nat.zero_mul,
   ybh,yba, <-Nat.mul_assoc,Nat.add_assoc]
theorem ZPe:∀(l:yL Nat),(∀x,x∈l->x < 4294967296)->pw 0 l < 2 ^ (32*l.length)
 |[],_=>by simp[pw]
 |x::r,h=>by
  have ih:=ZPe r (λy hy=>h y (yay _ hy));have hx:=h x (yaw ..);rw[show pw 0 (x::r)=pw (0*4294967296+x) r from rfl,ZsV,yaj,show 32*(r.length+1)=32+32*r.length by omega,Nat.pow_add,Nat.zero_mul,ybh]
  have:(x+1)*2 ^ (32*r.length)<=2 ^ 32*2 ^ (32*r.length):=yci _ (by omega);rw[yba,Nat.one_mul] at this;omega
theorem ZPf{n x s:Nat}{r:yL Nat}(h:∀y,y∈r->y < 4294967296)(hs:s=32*r.length):yaf (pw n (x::r)) s=n*4294967296+x:=by
 subst hs;rw[show yaf (pw n (x::r)) (32*r.length)=pw n (x::r) >>> (32*r.length) from rfl,ydb]
 exact ZHj r (n*4294967296+x) h
theorem ZPg{n x s:Nat}{r:yL Nat}(hx:x < 4294967296)(h:∀y,y∈r->y < 4294967296)(hs:s=32*r.length):lo (yaf (pw n (x::r)) s)=x:=by
 rw[ZPf h hs];show(n*4294967296+x) % 4294967296=x;omega
theorem ZHk(n:Nat)(l r:yL Nat):pw n (l++r)=pw (pw n l) r:=List.foldl_append ..
theorem ZIH(n x:Nat)(r:yL Nat):pw n (x::r)=pw (n*4294967296+x) r:=rfl
theorem Zi7{v l r:yL Nat}{x s:Nat}(e:v=l++x::r)(h:∀y,y∈v->y < 4294967296)(hs:s=32*r.length):lo (yaf (pw 0 v) s)=x:=by
 rw[e] at h ⊢;rw[ZHk];exact ZPg (h x (by simp)) (λy hy=>h y (by simp[hy])) hs
def wd(ws:yL Nat)(n:Nat):Nat:=if h:n < 16 then lo (ws.getD n 0) else lo (wd ws (n - 16)+s0 (wd ws (n - 15))+wd ws (n - 7)+s1 (wd ws (n - 2)))
termination_by n
decreasing_by all_goals omega
theorem ZRy(ws:yL Nat)(n:Nat):wd ws n < 4294967296:=by
 rw[wd];split <;> exact ZPc _
theorem ZCQ(ws:yL Nat)(n:Nat):wd ws (n+16)=lo (wd ws n+s0 (wd ws (n+1))+wd ws (n+9)+s1 (wd ws (n+14))):=by
 rw[wd,dif_neg (by omega)];simp only[Nat.add_sub_cancel,show n+16 - 15=n+1 by omega,show n+16 - 7=n+9 by omega,show n+16 - 2=n+14 by omega]
def win(ws:yL Nat)(i:Nat):yL Nat:=[wd ws i,wd ws (i+1),wd ws (i+2),wd ws (i+3),wd ws (i+4),wd ws (i+5),wd ws (i+6),wd ws (i+7),wd ws (i+8),wd ws (i+9),wd ws (i+10),wd ws (i+11),wd ws (i+12),wd ws (i+13),wd ws (i+14),wd ws (i+15)]
theorem ZHl{ws:yL Nat}{i:Nat}{l:yL Nat}(h:∀x,x∈l->∃j,x=wd ws j):∀x,x∈l->x < 4294967296:=λx hx=>by
 obtain⟨j,rfl⟩:=h x hx;exact ZRy _ _
theorem ZII(ws:yL Nat)(i:Nat):yaf (pw 0 (win ws i)) 480=wd ws i:=by
 have h:=ZPf (n:=0) (x:=wd ws i) (s:=480) (r:=(win ws i).tail) (ZHl (ws:=ws) (i:=i) (λx hx=>by
  simp only[win,List.tail_cons,yae,yap,or_false] at hx;rcases hx with h|h|h|h|h|h|h|h|h|h|h|h|h|h|h <;> exact⟨_,h⟩)) rfl
 rw[Nat.zero_mul,ybh] at h;exact h
theorem ZQs(ws:yL Nat)(i:Nat):kw (pw 0 (win ws i))=wd ws (i+16):=by
 have key:∀(l r:yL Nat)(x s:Nat),win ws i=l++x::r->s=32*r.length->lo (yaf (pw 0 (win ws i)) s)=x:=by
  intro l r x s e hs
  have zU:∀y,y∈win ws i->y < 4294967296:=ZHl (i:=i) λx hx=>by
   simp only[win,yae,yap,or_false] at hx;rcases hx with h|h|h|h|h|h|h|h|h|h|h|h|h|h|h|h <;> exact⟨_,h⟩
  rw[e] at zU ⊢;rw[ZHk];exact ZPg (zU x (by simp)) (λy hy=>zU y (by simp[hy])) hs
 unfold kw;rw[ZII,key [_] _ (wd ws (i+1)) 448 rfl rfl,key [_,_,_,_,_,_,_,_,_] _ (wd ws (i+9)) 192 rfl rfl,key [_,_,_,_,_,_,_,_,_,_,_,_,_,_] _ (wd ws (i+14)) 32 rfl rfl,ZCQ];rfl
theorem ZOw(a b m:Nat)(h:b < 2 ^ m):Nat.mod (a*2 ^ m+b) (Nat.pow 2 m)=b:=by
 show(a*2 ^ m+b) % 2 ^ m=b;rw[ybo,Nat.mul_add_mod];exact yak h
theorem ZQt(ws:yL Nat)(i:Nat):kn (pw 0 (win ws i))=pw 0 (win ws (i+1)):=by
 have e:yr (Nat.mul (pw 0 (win ws i)) 4294967296) (kw (pw 0 (win ws i)))=pw (wd ws i) (win ws (i+1)):=by
  rw[ZQs];show pw 0 (win ws i)*4294967296+wd ws (i+16)=pw (wd ws i) (win ws (i+1));rw[show wd ws i=0*4294967296+wd ws i by omega];rfl
 unfold kn;rw[e,ZsV];have hl:(win ws (i+1)).length=16:=rfl
 have hlt:=ZPe (win ws (i+1)) (ZHl (i:=i+1) λx hx=>by
  simp only[win,yae,yap,or_false] at hx;rcases hx with h|h|h|h|h|h|h|h|h|h|h|h|h|h|h|h <;> exact⟨_,h⟩)
 rw[show 512=32*(win ws (i+1)).length by rw[hl]];exact ZOw _ _ _ hlt
def rnd(v:yL Nat)(k w:Nat):yL Nat:=match v with
 |[a,b,c,d,e,f,g,h]=>[lo (yr (yr (yr (yr (yr (yr h (S1 e)) (ch e f g)) k) w) (S0 a)) (mj a b c)),a,b,c,lo (yr d (yr (yr (yr (yr h (S1 e)) (ch e f g)) k) w)),e,f,g]
 |_=>[]
def rs(ws v:yL Nat):Nat->yL Nat
 |0=>v
 |i+1=>rnd (rs ws v i) (ks.getD i 0) (wd ws i)
theorem ZOx{v:yL Nat}(h:v.length=8)(k w:Nat):(rnd v k w).length=8:=by
 match v,h with
 |[a,b,c,d,e,f,g,h],_=>rfl
theorem ZCR{ws v:yL Nat}(h:v.length=8):∀i,(rs ws v i).length=8
 |0=>h
 |i+1=>ZOx (ZCR h i) _ _
noncomputable def ZMl(f:Nat->Nat->Nat->Nat->Nat->Nat->Nat->Nat->Nat)(v:yL Nat):Nat:=match v with
 |[a,b,c,d,e,f',g,h]=>f a b c d e f' g h
 |_=>0
theorem ZpD{F:Nat->Nat->Nat->Nat->Nat->Nat->Nat->Nat->Nat}{a b c d e f g h:Nat}:ZMl F [a,b,c,d,e,f,g,h]=F a b c d e f g h:=rfl
theorem ZMm(k:Nat)(l:yL Nat)(K:Nat->Nat->Nat->Nat->Nat->Nat->Nat->Nat->Nat):kgo (k::l) K=kst k (kgo l K):=rfl
theorem Zyc(a b c d e f g h k w:Nat):rnd [a,b,c,d,e,f,g,h] k w=[lo (yr (yr (yr (yr (yr (yr h (S1 e)) (ch e f g)) k) w) (S0 a)) (mj a b c)),a,b,c,lo (yr d (yr (yr (yr (yr h (S1 e)) (ch e f g)) k) w)),e,f,g]:=rfl
theorem ZQu(k:Nat)(ih:Nat->Nat->Nat->Nat->Nat->Nat->Nat->Nat->Nat->Nat)(W a b c d e f g h:Nat):kst k ih W a b c d e f g h=
 ih (kn W) (lo (yr (yr (yr (yr (yr (yr h (S1 e)) (ch e f g)) k) (yaf W 480)) (S0 a)) (mj a b c))) a b c (lo (yr d (yr (yr (yr (yr h (S1 e)) (ch e f g)) k) (yaf W 480)))) e f g:=by
 unfold kst;rw[Wv,Wv,Wv,Wv]
theorem ZMn{ws v:yL Nat}{K:Nat->Nat->Nat->Nat->Nat->Nat->Nat->Nat->Nat}{k w:Nat}{l:yL Nat}(hv:v.length=8){W:Nat}(hW:yaf W 480=w):ZMl (kgo (k::l) K W) v=ZMl (kgo l K (kn W)) (rnd v k w):=by
 match v,hv with
 |[a,b,c,d,e,f,g,h],_=>
  rw[ZMm,ZpD,ZQu,hW,Zyc,ZpD]
theorem ZIJ{ws v:yL Nat}{K:Nat->Nat->Nat->Nat->Nat->Nat->Nat->Nat->Nat}(hv:v.length=8):∀(m i:Nat),i+m=64->ZMl (kgo (ks.drop i) K (pw 0 (win ws i))) (rs ws v i)=ZMl K (rs ws v 64)
 |0,i,h=>by
  have e:i=64:=by omega
  subst e;rw[show ks.drop 64=[] from rfl]
  generalize pw 0 (win ws 64)=W
  rfl
 |m+1,i,h=>by
  have hi:i < ks.length:=by show i < 64;omega
  rw[List.drop_eq_getElem_cons hi,ZMn (ws:=ws) (ZCR hv i) (ZII ws i),ZQt];have:=ZIJ (ws:=ws) (K:=K) hv m (i+1) (by omega);rw[show rs ws v (i+1)=rnd (rs ws v i) (ks.getD i 0) (wd ws i) from rfl,show ks.getD i 0=ks[i] by rw[ycx,yab hi];rfl] at this
  exact this
def Zly(v ws:yL Nat):yL Nat:=List.zipWith (λx y=>lo (x+y)) (rs ws v 64) v
theorem ZhQ{v ws:yL Nat}(h:v.length=8):(Zly v ws).length=8:=by
 rw[Zly,List.length_zipWith,ZCR h,h];rfl
theorem ZIK{v ws:yL Nat}:∀x,x∈Zly v ws->x < 4294967296:=by
 intro x hx;unfold Zly at hx;rw[List.mem_iff_getElem] at hx;obtain⟨i,hi,rfl⟩:=hx;rw[List.getElem_zipWith];exact ZPc _
theorem ZOy{v ws:yL Nat}(hv:v.length=8)(hlt:∀x,x∈v->x < 4294967296)(hw:ws.length=16)(hwl:∀x,x∈ws->x < 4294967296):ZOv (pw 0 v) (pw 0 ws)=pw 0 (Zly v ws):=by
 have e0:ws=win ws 0:=by
  match ws,hw with
  |[a0,a1,a2,a3,a4,a5,a6,a7,a8,a9,a10,a11,a12,a13,a14,a15],_=>
   simp only[yae,yap,or_false,forall_eq_or_imp,forall_eq] at hwl;obtain⟨h0,h1,h2,h3,h4,h5,h6,h7,h8,h9,h10,h11,h12,h13,h14,h15⟩:=hwl;have hs:∀n,n < 16->wd [a0,a1,a2,a3,a4,a5,a6,a7,a8,a9,a10,a11,a12,a13,a14,a15] n=lo ([a0,a1,a2,a3,a4,a5,a6,a7,a8,a9,a10,a11,a12,a13,a14,a15].getD n 0):=λn hn=>by rw[wd,dif_pos hn]
   unfold win;rw[hs 0 (by omega),hs (0+1) (by omega),hs (0+2) (by omega),hs (0+3) (by omega),hs (0+4) (by omega),hs (0+5) (by omega),hs (0+6) (by omega),hs (0+7) (by omega),hs (0+8) (by omega),hs (0+9) (by omega),hs (0+10) (by omega),hs (0+11) (by omega),hs (0+12) (by omega),hs (0+13) (by omega),hs (0+14) (by omega),hs (0+15) (by omega)];show _=[lo a0,lo a1,lo a2,lo a3,lo a4,lo a5,lo a6,lo a7,lo a8,lo a9,lo a10,lo a11,lo a12,lo a13,lo a14,lo a15];rw[Zdh h0,Zdh h1,Zdh h2,Zdh h3,Zdh h4,Zdh h5,Zdh h6,Zdh h7,Zdh h8,Zdh h9,Zdh h10,Zdh h11,Zdh h12,Zdh h13,Zdh h14,Zdh h15]
 match v,hv with
 |[a,b,c,d,e,f,g,h],hv=>
  have ea:w32 (pw 0 [a,b,c,d,e,f,g,h]) 224=a:=Zi7 (l:=[]) (r:=[b,c,d,e,f,g,h]) rfl hlt rfl;have eb:w32 (pw 0 [a,b,c,d,e,f,g,h]) 192=b:=Zi7 (l:=[a]) (r:=[c,d,e,f,g,h]) rfl hlt rfl;have ec:w32 (pw 0 [a,b,c,d,e,f,g,h]) 160=c:=Zi7 (l:=[a,b]) (r:=[d,e,f,g,h]) rfl hlt rfl;have ed:w32 (pw 0 [a,b,c,d,e,f,g,h]) 128=d:=Zi7 (l:=[a,b,c]) (r:=[e,f,g,h]) rfl hlt rfl;have ee:w32 (pw 0 [a,b,c,d,e,f,g,h]) 96=e:=Zi7 (l:=[a,b,c,d]) (r:=[f,g,h]) rfl hlt rfl;have ef:w32 (pw 0 [a,b,c,d,e,f,g,h]) 64=f:=Zi7 (l:=[a,b,c,d,e]) (r:=[g,h]) rfl hlt rfl;have eg:w32 (pw 0 [a,b,c,d,e,f,g,h]) 32=g:=Zi7 (l:=[a,b,c,d,e,f]) (r:=[h]) rfl hlt rfl;have eh:w32 (pw 0 [a,b,c,d,e,f,g,h]) 0=h:=Zi7 (l:=[a,b,c,d,e,f,g]) (r:=[]) rfl hlt rfl;unfold ZOv;rw[ea,eb,ec,ed,ee,ef,eg,eh,Wv,Wv,Wv,Wv,Wv,Wv,Wv,Wv];have hr:=ZIJ (ws:=ws) (v:=[a,b,c,d,e,f,g,h]) (K:=λa' b' c' d' e' f' g' h'=>cat (cat (cat (cat (cat (cat (cat (cat 0 (yr a' a)) (yr b' b)) (yr c' c)) (yr d' d)) (yr e' e)) (yr f' f)) (yr g' g)) (yr h' h)) rfl 64 0 rfl;rw[<-e0,show ks.drop 0=ks from rfl,show rs ws [a,b,c,d,e,f,g,h] 0=[a,b,c,d,e,f,g,h] from rfl,ZpD] at hr
  rw[hr];unfold Zly;generalize rs ws [a,b,c,d,e,f,g,h] 64=q,ZCR (ws:=ws) hv 64=hq
  match q,hq with
  |[a',b',c',d',e',f',g',h'],_=>
   rw[ZpD];simp only[List.zipWith_cons_cons,List.zipWith_nil_right,ZIH,cat];rfl
theorem Zwy(x:Nat)(l:yL Nat)(n:Nat):pk (x::l) n=pk l (n*256+x):=by
 show Zbr (yr (Nat.mul n 256) x) (pk l)=_;rw[Wv];rfl
def Yf:yL Nat->yL Nat
 |a::b::c::d::r=>(((a*256+b)*256+c)*256+d)::Yf r
 |_=>[]
theorem ZFb:∀(m:Nat)(l:yL Nat)(n:Nat),l.length=4*m->pk l n=pw n (Yf l)
 |0,[],n,_=>rfl
 |0,_::_,_,h=>by simp at h
 |m+1,[],_,h=>by simp at h
 |m+1,[_],_,h=>by simp at h;omega
 |m+1,[_,_],_,h=>by simp at h;omega
 |m+1,[_,_,_],_,h=>by simp at h;omega
 |m+1,a::b::c::d::r,n,h=>by
  rw[Zwy,Zwy,Zwy,Zwy,Yf];rw[ZFb m r _ (by simp at h;omega),ZIH];have e:(((n*256+a)*256+b)*256+c)*256+d=n*4294967296+(((a*256+b)*256+c)*256+d):=by omega
  rw[e]
theorem Zvg:∀(m:Nat)(l:yL Nat),l.length=4*m->(Yf l).length=m
 |0,[],_=>rfl
 |0,_::_,h=>by simp at h
 |m+1,[],h=>by simp at h
 |m+1,[_],h=>by simp at h;omega
 |m+1,[_,_],h=>by simp at h;omega
 |m+1,[_,_,_],h=>by simp at h;omega
 |m+1,a::b::c::d::r,h=>by
  rw[Yf,yaj,Zvg m r (by simp at h;omega)]
theorem Zyd:∀(m:Nat)(l:yL Nat),l.length=4*m->(∀x,x∈l->x < 256)->∀x,x∈Yf l->x < 4294967296
 |0,[],_,_,x,hx=>by simp[Yf] at hx
 |0,_::_,h,_,_,_=>by simp at h
 |m+1,[],h,_,_,_=>by simp at h
 |m+1,[_],h,_,_,_=>by simp at h;omega
 |m+1,[_,_],h,_,_,_=>by simp at h;omega
 |m+1,[_,_,_],h,_,_,_=>by simp at h;omega
 |m+1,a::b::c::d::r,h,hl,x,hx=>by
  rw[Yf] at hx;have h1:=hl a (by simp);have h2:=hl b (by simp);have h3:=hl c (by simp);have h4:=hl d (by simp);rcases yae.1 hx with rfl|hx
  ·omega
  ·exact Zyd m r (by simp at h;omega) (λy hy=>hl y (by simp[hy])) x hx
theorem Zob:∀(i:Nat)(l:yL Nat)(a b c d:Nat),l[4*i]? =some a->l[4*i+1]? =some b->l[4*i+2]? =some c->l[4*i+3]? =some d->(Yf l)[i]? =some (((a*256+b)*256+c)*256+d)
 |0,[],_,_,_,_,h,_,_,_=>by simp at h
 |0,[_],_,_,_,_,_,h,_,_=>by simp at h
 |0,[_,_],_,_,_,_,_,_,h,_=>by simp at h
 |0,[_,_,_],_,_,_,_,_,_,_,h=>by simp at h
 |0,a::b::c::d::r,_,_,_,_,h1,h2,h3,h4=>by
  simp at h1 h2 h3 h4;subst h1 h2 h3 h4
  rfl
 |i+1,[],_,_,_,_,h,_,_,_=>by simp at h
 |i+1,[_],_,_,_,_,h,_,_,_=>by simp[show 4*(i+1)=4*i+3+1 by omega] at h
 |i+1,[_,_],_,_,_,_,h,_,_,_=>by simp[show 4*(i+1)=4*i+2+1+1 by omega] at h
 |i+1,[_,_,_],_,_,_,_,h,_,_,_=>by simp[show 4*(i+1)=4*i+1+1+1+1 by omega] at h
 |i+1,a::b::c::d::r,_,_,_,_,h1,h2,h3,h4=>by
  rw[Yf,yax]
  exact Zob i r _ _ _ _ (by simpa[show 4*(i+1)=4*i+1+1+1+1 by omega] using h1) (by simpa[show 4*(i+1)+1=4*i+1+1+1+1+1 by omega] using h2)
   (by simpa[show 4*(i+1)+2=4*i+2+1+1+1+1 by omega] using h3) (by simpa[show 4*(i+1)+3=4*i+3+1+1+1+1 by omega] using h4)
def ZhR:Nat->yL Nat->yL Nat->yL Nat
 |0,_,v=>v
 |n+1,l,v=>ZhR n (l.drop 64) (Zly v (Yf (l.take 64)))
theorem ZIL:∀(n:Nat)(l v:yL Nat),l.length=64*n->(∀x,x∈l->x < 256)->v.length=8->(∀x,x∈v->x < 4294967296)->ZQq n l (pw 0 v)=pw 0 (ZhR n l v)
 |0,l,v,_,_,_,_=>rfl
 |n+1,l,v,h1,h2,h3,h4=>by
  show Zbr (ZOv (pw 0 v) (pk (l.take 64) 0)) (ZQq n (l.drop 64))=_;have hl:(l.take 64).length=4*16:=by rw[yai];omega
  rw[Wv,ZFb 16 _ 0 hl,ZOy h3 h4 (Zvg 16 _ hl) (Zyd 16 _ hl λx hx=>h2 x (List.mem_of_mem_take hx))];exact ZIL n (l.drop 64) _ (by rw[ybu];omega) (λx hx=>h2 x (List.mem_of_mem_drop hx)) (ZhQ h3) ZIK
theorem ZFc:∀(n:Nat)(l v:yL Nat),v.length=8->(ZhR n l v).length=8
 |0,_,_,h=>h
 |n+1,l,v,h=>ZFc n _ _ (ZhQ h)
theorem ZIM:∀(n:Nat)(l v:yL Nat),(∀x,x∈v->x < 4294967296)->∀x,x∈ZhR n l v->x < 4294967296
 |0,_,_,h=>h
 |n+1,l,v,h=>ZIM n _ _ ZIK
theorem Zye:∀(n m:Nat)(l r v:yL Nat),l.length=64*n->ZhR (n+m) (l++r) v=ZhR m r (ZhR n l v)
 |0,m,l,r,v,h=>by
  have:l=[]:=List.length_eq_zero_iff.1 (by omega);subst this;rw[ybh]
  rfl
 |n+1,m,l,r,v,h=>by
  rw[show n+1+m=(n+m)+1 by omega,ZhR,List.drop_append_of_le_length (by omega),List.take_append_of_le_length (by omega),Zye n m _ r _ (by rw[ybu];omega)];rfl
theorem ZpE:∀(c:Nat)(l v:yL Nat),ZhR (c+1) l v=Zly (ZhR c l v) (Yf ((l.drop (64*c)).take 64))
 |0,l,v=>by rw[Nat.mul_zero,List.drop_zero];rfl
 |c+1,l,v=>by
  rw[show ZhR (c+1+1) l v=ZhR (c+1) (l.drop 64) (Zly v (Yf (l.take 64))) from rfl,ZpE c,List.drop_drop,show 64+64*c=64*(c+1) by omega]
  rfl
theorem ZFd(ws:yL Nat){n x:Nat}(hn:n < 16)(h:ws[n]? =some x)(hx:x < 4294967296):wd ws n=x:=by
 rw[wd,dif_pos hn,ycx,h];exact Zdh hx
def ZMo(v:yL Nat)(k:Nat):yB:=ybc (v.getD (k / 4) 0 / 2 ^ (24 - 8*(k % 4)))
theorem ZOz{v:yL Nat}(hv:v.length=8)(hlt:∀x,x∈v->x < 4294967296):outs (pw 0 v) ZHi=(yv 32).map (ZMo v):=by
 have hgo:∀(H:Nat)(l:yL Nat),outs H l=l.map λs=>ybc (H / 2 ^ s % 256):=by
  intro H l
  induction l with
  |nil=>rfl
  |cons s r ih=>
   show Zbr (Nat.mod (yaf H s) 256) (λx=>ybc x::outs H r)=_;rw[Wv,ih,yag,show yaf H s=H >>> s from rfl,ydb]
   rfl
 have hb:∀(l r:yL Nat)(x j s:Nat),v=l++x::r->j<=24->s=32*r.length+j->ybc (pw 0 v / 2 ^ s % 256)=ybc (x / 2 ^ j):=by
  intro l r x j s e hj hs;have zU:=hlt;rw[e] at zU
  have h1:pw 0 v / 2 ^ (32*r.length)=pw 0 l*4294967296+x:=by
   rw[e,ZHk];exact ZHj r _ (λy hy=>zU y (by simp[hy]))
  rw[hs,Nat.pow_add, <-Nat.div_div_eq_div_mul,h1]
  have h2:pw 0 l*4294967296+x=2 ^ j*(pw 0 l*2 ^ (24 - j)*256)+x:=by
   rw[show(4294967296:Nat)=2 ^ j*2 ^ (24 - j)*256 by rw[<-Nat.pow_add,show j+(24 - j)=24 by omega]];congr 1;ac_rfl
  rw[h2,Nat.mul_add_div (Nat.two_pow_pos j),ybo (pw 0 l*2 ^ (24 - j)) 256,Nat.mul_add_mod];exact UInt8.toNat_inj.1 (by simp)
 match v,hv with
 |[a,b,c,d,e,f,g,h],_=>
  rw[hgo];simp only[ZHi,yag,yce]
  rw[hb [] [b,c,d,e,f,g,h] a 24 248 rfl (by omega) rfl,hb [] [b,c,d,e,f,g,h] a 16 240 rfl (by omega) rfl,hb [] [b,c,d,e,f,g,h] a 8 232 rfl (by omega) rfl,hb [] [b,c,d,e,f,g,h] a 0 224 rfl (by omega) rfl,
   hb [a] [c,d,e,f,g,h] b 24 216 rfl (by omega) rfl,hb [a] [c,d,e,f,g,h] b 16 208 rfl (by omega) rfl,hb [a] [c,d,e,f,g,h] b 8 200 rfl (by omega) rfl,hb [a] [c,d,e,f,g,h] b 0 192 rfl (by omega) rfl,
   hb [a,b] [d,e,f,g,h] c 24 184 rfl (by omega) rfl,hb [a,b] [d,e,f,g,h] c 16 176 rfl (by omega) rfl,hb [a,b] [d,e,f,g,h] c 8 168 rfl (by omega) rfl,hb [a,b] [d,e,f,g,h] c 0 160 rfl (by omega) rfl,
   hb [a,b,c] [e,f,g,h] d 24 152 rfl (by omega) rfl,hb [a,b,c] [e,f,g,h] d 16 144 rfl (by omega) rfl,hb [a,b,c] [e,f,g,h] d 8 136 rfl (by omega) rfl,hb [a,b,c] [e,f,g,h] d 0 128 rfl (by omega) rfl,
   hb [a,b,c,d] [f,g,h] e 24 120 rfl (by omega) rfl,hb [a,b,c,d] [f,g,h] e 16 112 rfl (by omega) rfl,hb [a,b,c,d] [f,g,h] e 8 104 rfl (by omega) rfl,hb [a,b,c,d] [f,g,h] e 0 96 rfl (by omega) rfl,
   hb [a,b,c,d,e] [g,h] f 24 88 rfl (by omega) rfl,hb [a,b,c,d,e] [g,h] f 16 80 rfl (by omega) rfl,hb [a,b,c,d,e] [g,h] f 8 72 rfl (by omega) rfl,hb [a,b,c,d,e] [g,h] f 0 64 rfl (by omega) rfl,
   hb [a,b,c,d,e,f] [h] g 24 56 rfl (by omega) rfl,hb [a,b,c,d,e,f] [h] g 16 48 rfl (by omega) rfl,hb [a,b,c,d,e,f] [h] g 8 40 rfl (by omega) rfl,hb [a,b,c,d,e,f] [h] g 0 32 rfl (by omega) rfl,
   hb [a,b,c,d,e,f,g] [] h 24 24 rfl (by omega) rfl,hb [a,b,c,d,e,f,g] [] h 16 16 rfl (by omega) rfl,hb [a,b,c,d,e,f,g] [] h 8 8 rfl (by omega) rfl,hb [a,b,c,d,e,f,g] [] h 0 0 rfl (by omega) rfl]
  rfl
def ZhS(l:yL yB):yL Nat:=l.map yam++(128::(yx (zs l.length) 0++be8 (8*l.length)))
def Zei:yL Nat:=[1779033703,3144134277,1013904242,2773480762,1359893119,2600822924,528734635,1541459225]
theorem Zyf(l:yL yB):(ZhS l).length=64*((l.length+72) / 64):=by
 unfold ZhS;simp only[yo,yy,yaj,yct,be8,List.length_nil,zs];omega
theorem ZJX(l:yL yB):∀x,x∈ZhS l->x < 256:=by
 intro x hx;unfold ZhS at hx;simp only[yah,List.mem_map,yae,List.mem_replicate,be8,yap,or_false] at hx;rcases hx with⟨y,_,rfl⟩|rfl|⟨_,rfl⟩|h
 ·exact y.toNat_lt
 ·omega
 ·omega
 ·rcases h with h|h|h|h|h|h|h|h <;> rw[h] <;> exact ybj _ (by omega)
theorem ZHm(l:yL yB):sha l=(yv 32).map (ZMo (ZhR ((l.length+72) / 64) (ZhS l) Zei)):=by
 unfold sha
 rw[Wv,Wv,show H0=pw 0 Zei from rfl,show l.map yam++(128::(yx (zs l.length) 0++be8 (8*l.length)))=ZhS l from rfl,
  show Nat.div (yr l.length 72) 64=(l.length+72) / 64 from rfl]
 have hf:∀x,x∈Zei->x < 4294967296:=by decide
 rw[ZIL _ _ _ (Zyf l) (ZJX l) rfl hf];exact ZOz (ZFc _ _ _ rfl) (ZIM _ _ _ hf)
theorem ZR0(l:yL yB):(sha l).length=32:=by rw[ZHm];simp
end Go.Sha
end
section
set_option maxRecDepth 4000
namespace Go.Proofs.YtdhclndplbopgaaGreat
open Go Go.Ev Go.Sha
theorem Zjs(x:yV)(n k:Nat)(h:n+k=32)(hn:0 < n){z:Int}(hz:((w64 z)&&&31).toNat=k):∃o,ZP yD x z=some o/\o.toNat=lo (yaf (dbl x.toNat) n):=by
 refine⟨_,rfl, ?_⟩;have e1:((((w64 z)&&&31).toNat:Int)).toNat=k:=by rw[hz];rfl
 have e2:(32 - ((w64 z)&&&31)).toNat=n:=by
  have h1:((w64 z)&&&31)=yac k:=ycl.1 (by rw[hz,ybd];omega);rw[h1,UInt64.toNat_sub,ybd];show(2 ^ 64 - k % 2 ^ 64+32) % 2 ^ 64=n;omega
 rw[e1,show((((32 - ((w64 z)&&&31)).toNat:Nat):Int)).toNat=n by rw[e2];rfl,Nat.min_eq_left (by omega),Nat.min_eq_left (by omega)];exact ZPd x h hn
theorem ZQv{l:yL yB}{a b c d:yB}(ha:l[0]? =some a)(hb:l[1]? =some b)(hc:l[2]? =some c)(hd:l[3]? =some d):∃o,ZgT yD l=some o/\o.toNat=((a.toNat*256+b.toNat)*256+c.toNat)*256+d.toNat:=by
 unfold ZgT;rw[Zsy (i:=0) (by omega) ha,Zsy (i:=1) (by omega) hb,Zsy (i:=2) (by omega) hc,Zsy (i:=3) (by omega) hd];refine⟨_,rfl, ?_⟩;have h1:=a.toNat_lt;have h2:=b.toNat_lt;have h3:=c.toNat_lt;have h4:=d.toNat_lt
 have hs:∀(x:yB)(n:Nat),n<=24->(Zb9 (ybs x.toNat) n).toNat=x.toNat*2 ^ n:=by
  intro x n hn;have hx:=x.toNat_lt;unfold Zb9;rw[ycs,ycs,yak (a:=x.toNat) (by omega)];refine yak ?_
  calc x.toNat*2 ^ n < 2 ^ 8*2 ^ n:=Nat.mul_lt_mul_of_pos_right hx (Nat.two_pow_pos n)
   _=2 ^ (8+n):=(Nat.pow_add ..).symm
   _<=2 ^ 32:=Nat.pow_le_pow_right (by omega) (by omega)
 rw[ZCP,ZCP,ZCP,hs _ _ (by omega),hs _ _ (by omega),hs _ _ (by omega),ycs,yak (a:=d.toNat) (by omega)]
 have k1:Nat.lor (a.toNat*2 ^ 24) (b.toNat*2 ^ 16)=2 ^ 16*(a.toNat*256+b.toNat):=by
  rw[ybo a.toNat,show Nat.lor (2 ^ 24*a.toNat) (b.toNat*2 ^ 16)=2 ^ 24*a.toNat|||b.toNat*2 ^ 16 from rfl, <-ycz (by omega)]
  omega
 have k2:Nat.lor (2 ^ 16*(a.toNat*256+b.toNat)) (c.toNat*2 ^ 8)=2 ^ 8*((a.toNat*256+b.toNat)*256+c.toNat):=by
  rw[show Nat.lor (2 ^ 16*(a.toNat*256+b.toNat)) (c.toNat*2 ^ 8)=2 ^ 16*(a.toNat*256+b.toNat)|||c.toNat*2 ^ 8 from rfl, <-ycz (by omega)]
  omega
 rw[k1,k2,show Nat.lor (2 ^ 8*((a.toNat*256+b.toNat)*256+c.toNat)) d.toNat=2 ^ 8*((a.toNat*256+b.toNat)*256+c.toNat)|||d.toNat from rfl, <-ycz (by omega)]
 omega
theorem ZMp{l:yL yB}(h:l.length=64):∃o,ZcI yD l=some o/\o.length=64/\∀(i:Nat)x,i < 64->o[i]? =some x->x.toNat=wd (Yf (l.map yam)) i:=by
 unfold ZcI;generalize hz:([0,0,0,0,0,0,0,0,0,0,0,0,0,0,0,0,0,0,0,0,0,0,0,0,0,0,0,0,0,0,0,0,0,0,0,0,0,0,0,0,0,0,0,0,0,0,0,0,0,0,0,0,0,0,0,0,0,0,0,0,0,0,0,0]:yL yV)=z;have hzl:z.length=64:=by rw[<-hz];rfl
 refine Exists.elim (Qm (step:=Zae yD) (λs=>s.1=l/\0<=s.2.1/\s.2.1<=64/\s.2.2.length=64/\∀(j:Nat)x,(j:Int) < s.2.1->s.2.2[j]? =some x->x.toNat=wd (Yf (l.map yam)) j) (λs=>(64 - s.2.1).toNat)
  (λo=>o.length=64/\∀(j:Nat)x,j < 64->o[j]? =some x->x.toNat=wd (Yf (l.map yam)) j) ?_ (l,(0:Int),z) ⟨rfl,Int.le_refl _,by dsimp only;omega,hzl,λj x hj=>by dsimp only at hj;omega⟩ (by dsimp only;omega)) ?_
 rotate_left
 ·rintro o ⟨h1,h2⟩;exact⟨o,by rw[h1];rfl,h2⟩
 ·rintro⟨b,i,w⟩ ⟨hb,h0,h64,hw,hv⟩;dsimp only at hb h0 h64 hw hv;subst hb;unfold Zae;dsimp only
  have hset:∀(y:yV),y.toNat=wd (Yf (b.map yam)) i.toNat->i < 64->∀(j:Nat)x,(j:Int) < i+1->(w.set i.toNat y)[j]? =some x->x.toNat=wd (Yf (b.map yam)) j:=by
   intro y hy hi j x hj hx;by_cases hji:j=i.toNat
   ·subst hji;rw[ycv (by omega)] at hx;cases hx;exact hy
   ·rw[List.getElem?_set_ne (Ne.symm hji)] at hx;exact hv j x (by omega) hx
  by_cases hi:i < 64
  ·left;rw[yW (yY hi)];obtain⟨e,he⟩:=Zea (l:=w) (i:=i.toNat) (by omega);by_cases h16:i < 16
   ·rw[yW (yY h16),ZU (z:=4*i) (by omega) (by omega),yW (by simp only[Zbp,yj,yP];omega)];have g:∀k:Nat,k < 4->∃x,b[4*i.toNat+k]? =some x:=λk hk=>Zea (by omega);obtain⟨x0,g0⟩:=g 0 (by omega);obtain⟨x1,g1⟩:=g 1 (by omega);obtain⟨x2,g2⟩:=g 2 (by omega);obtain⟨x3,g3⟩:=g 3 (by omega);have e4:(4*i).toNat=4*i.toNat:=by omega
    obtain⟨o,ho,hoe⟩:=ZQv (l:=b.drop (4*i).toNat) (by rw[List.getElem?_drop,e4];exact g0) (by rw[List.getElem?_drop,e4];exact g1) (by rw[List.getElem?_drop,e4];exact g2) (by rw[List.getElem?_drop,e4];exact g3);rw[ho,ya,yW (ZJ h0 (by omega)),he,ya,ZU (z:=i+1) (by omega) (by omega)];refine⟨_,rfl,⟨rfl,by dsimp only;omega,by dsimp only;omega,by dsimp only;rw[ybq];exact hw,hset o ?_ hi⟩,by dsimp only;omega⟩;have mg:∀(k:Nat)(x:yB),b[k]? =some x->(b.map yam)[k]? =some x.toNat:=λk x hx=>by rw[yal,hx];rfl
    have hwg:=Zob i.toNat (b.map yam) _ _ _ _ (mg _ _ g0) (mg _ _ g1) (mg _ _ g2) (mg _ _ g3);rw[hoe];have b0:=x0.toNat_lt;have b1:=x1.toNat_lt;have b2:=x2.toNat_lt;have b3:=x3.toNat_lt;exact(ZFd _ (by omega) hwg (by omega)).symm
   ·rw[yX (by simpa using h16)];rw[ZU (z:=i - 15) (by omega) (by omega),ZU (z:=i - 2) (by omega) (by omega),ZU (z:=i - 16) (by omega) (by omega),ZU (z:=i - 7) (by omega) (by omega),ZU (z:=i+1) (by omega) (by omega)];obtain⟨e1,he1⟩:=Zea (l:=w) (i:=(i - 15).toNat) (by omega);obtain⟨e2,he2⟩:=Zea (l:=w) (i:=(i - 2).toNat) (by omega);obtain⟨e3,he3⟩:=Zea (l:=w) (i:=(i - 16).toNat) (by omega);obtain⟨e4,he4⟩:=Zea (l:=w) (i:=(i - 7).toNat) (by omega);have v1:=hv _ _ (by omega) he1;have v2:=hv _ _ (by omega) he2;have v3:=hv _ _ (by omega) he3;have v4:=hv _ _ (by omega) he4;rw[yW (ZJ (by omega) (by omega)),he1,ya,yW (ZJ (by omega) (by omega)),he2,ya];obtain⟨o1,ho1,p1⟩:=Zjs e1 7 25 rfl (by omega) (z:= -7) rfl;obtain⟨o2,ho2,p2⟩:=Zjs e1 18 14 rfl (by omega) (z:= -18) rfl;obtain⟨o3,ho3,p3⟩:=Zjs e2 17 15 rfl (by omega) (z:= -17) rfl;obtain⟨o4,ho4,p4⟩:=Zjs e2 19 13 rfl (by omega) (z:= -19) rfl;rw[ho1,ya,ho2,ya,ho3,ya,ho4,ya];rw[yW (ZJ (by omega) (by omega)),he3,ya,yW (ZJ (by omega) (by omega)),he4,ya]
    try dsimp only
    rw[yW (ZJ h0 (by omega)),he,ya];refine⟨_,rfl,⟨rfl,by dsimp only;omega,by dsimp only;omega,by dsimp only;rw[ybq];exact hw,hset _ ?_ hi⟩,by dsimp only;omega⟩;have hn:=ZCQ (Yf (b.map yam)) (i - 16).toNat
    rw[show(i - 16).toNat+16=i.toNat by omega,show(i - 16).toNat+1=(i - 15).toNat by omega,show(i - 16).toNat+9=(i - 7).toNat by omega,show(i - 16).toNat+14=(i - 2).toNat by omega, <-v1, <-v2, <-v3, <-v4] at hn;rw[hn];rw[Zbb,Zbb,Zbb,ZRo e1 p1 p2,ZRp e2 p3 p4];exact ZRu ..
  ·right;rw[yX (by simpa using hi)];exact⟨_,rfl,hw,λj x hj hx=>hv j x (by omega) hx⟩
theorem ZMq{st:yL yV}{l:yL yB}(hs:st.length=8)(h:l.length=64):∃o,QZ yD st l=some o/\o.map yan=Zly (st.map yan) (Yf (l.map yam)):=by
 unfold QZ;obtain⟨w,hw,hwl,hwv⟩:=ZMp h;obtain⟨k,hk,hkv⟩:∃k,Zn7 yD=some k/\k.map yan=ks:=⟨_,rfl,rfl⟩;have hkl:k.length=64:=by rw[<-yy (f:=yan),hkv];rfl
 generalize hws:Yf (l.map yam)=ws at hwv;rw[hw,ya,hk,ya]
 refine Exists.elim (Qm (step:=QC yD) (λs=>0<=s.1/\s.1<=64/\s.2.1=st/\s.2.2.2.1=w/\s.2.2.2.2.1=k/\s.2.2.2.2.2.length=8/\s.2.2.2.2.2.map yan=rs ws (st.map yan) s.1.toNat) (λs=>(64 - s.1).toNat)
  (λo=>o.1=st/\o.2.2.2.2.length=8/\o.2.2.2.2.map yan=rs ws (st.map yan) 64) ?_ ((0:Int),st,([0,0,0,0,0,0,0,0]:yL yV),w,k,st) ⟨Int.le_refl _,by dsimp only;omega,rfl,rfl,rfl,hs,rfl⟩ (by dsimp only;omega)) ?_
 rotate_left
 ·rintro o ⟨h1,p0,p1,p2⟩;rw[h1,ya];have hml:(Zly (st.map yan) ws).length=8:=ZhQ (by rw[yy];exact hs)
  refine Exists.elim (Qm (step:=QD yD) (λs=>0<=s.1/\s.1<=8/\s.2.1=st/\s.2.2.2.2.2.length=8/\(∀(j:Nat)x,s.2.2.2.2.2[j]? =some x->if(j:Int) < s.1 then(Zly (st.map yan) ws)[j]? =some x.toNat else(rs ws (st.map yan) 64)[j]? =some x.toNat)) (λs=>(8 - s.1).toNat)
   (λo=>o.2.2.2.2.map yan=Zly (st.map yan) ws) ?_ ((0:Int),o.1,o.2.1,o.2.2.1,o.2.2.2.1,o.2.2.2.2) ⟨Int.le_refl _,by dsimp only;omega,p0,p1,λj x hx=>by
     dsimp only at hx ⊢;rw[yX (by omega), <-p2,yal,hx];rfl⟩ (by dsimp only;omega)) ?_
  rotate_left
  ·rintro q ⟨h2,q2⟩;rw[h2,ya];exact⟨_,rfl,q2⟩
  ·rintro⟨i,a,b,c,d,e⟩ ⟨h0,h8,ha,he,hv⟩;dsimp only at h0 h8 ha he hv;subst ha;unfold QD;dsimp only;by_cases hi:i < 8
   ·left;obtain⟨e1,he1⟩:=Zea (l:=e) (i:=i.toNat) (by omega);obtain⟨e2,he2⟩:=Zea (l:=a) (i:=i.toNat) (by omega);simp only[yY hi,if_true,ZJ h0 (show i < ((8:Nat):Int) by omega),he1,he2,ya];rw[ZU (z:=i+1) (by omega) (by omega)];refine⟨_,rfl,⟨by dsimp only;omega,by dsimp only;omega,rfl,by dsimp only;rw[ybq];exact he, ?_⟩,by dsimp only;omega⟩;intro j x hx;dsimp only at hx ⊢;by_cases hji:j=i.toNat
    ·subst hji;rw[ycv (by omega)] at hx;cases hx;rw[yW (by omega),Zbb];have k1:=hv _ _ he1;rw[yX (by omega)] at k1;unfold Zly;rw[List.getElem?_zipWith,k1,yal,he2];rfl
    ·rw[List.getElem?_set_ne (Ne.symm hji)] at hx;have k1:=hv j x hx;by_cases hj:(j:Int) < i
     ·rw[yW hj] at k1;rw[yW (by omega)];exact k1
     ·rw[yX hj] at k1;rw[yX (by omega)];exact k1
   ·right;rw[yX (by simpa using hi)];refine⟨_,rfl, ?_⟩;dsimp only;apply List.ext_getElem?;intro j;rw[yal];by_cases hj:j < 8
    ·obtain⟨x,hx⟩:=Zea (l:=e) (i:=j) (by omega);have:=hv j x hx;rw[yW (by omega)] at this;rw[hx,this];rfl
    ·rw[yaq (by omega),yaq (by omega)];rfl
 ·rintro⟨i,a,b,c,d,e⟩ ⟨h0,h64,ha,hc,hd,he,hv⟩;dsimp only at h0 h64 ha hc hd he hv;subst ha hc hd;unfold QC;dsimp only;by_cases hi:i < 64
  ·left
   match e,he,hv with
   |[x0,x1,x2,x3,x4,x5,x6,x7],_,hv=>
    obtain⟨e1,he1⟩:=Zea (l:=d) (i:=i.toNat) (by omega);obtain⟨e2,he2⟩:=Zea (l:=c) (i:=i.toNat) (by omega);obtain⟨o1,ho1,p1⟩:=Zjs x4 6 26 rfl (by omega) (z:= -6) rfl;obtain⟨o2,ho2,p2⟩:=Zjs x4 11 21 rfl (by omega) (z:= -11) rfl;obtain⟨o3,ho3,p3⟩:=Zjs x4 25 7 rfl (by omega) (z:= -25) rfl;obtain⟨o4,ho4,p4⟩:=Zjs x0 2 30 rfl (by omega) (z:= -2) rfl;obtain⟨o5,ho5,p5⟩:=Zjs x0 13 19 rfl (by omega) (z:= -13) rfl;obtain⟨o6,ho6,p6⟩:=Zjs x0 22 10 rfl (by omega) (z:= -22) rfl;generalize ZP yD=R at ho1 ho2 ho3 ho4 ho5 ho6 ⊢;rw[yW (yY hi)];simp only[ybb,yax];rw[ya,ho1,ya,ya,ho2,ya,ya,ho3,ya,ya,ya,ya,ya,ya];rw[yW (ZJ h0 (show i < ((64:Nat):Int) by omega)),he1,ya,yW (ZJ h0 (show i < ((64:Nat):Int) by omega)),he2,ya,ya,ho4,ya,ya,ho5,ya,ya,ho6];rw[ya,ya,ya,ya,ya,ya];rw[ya,ya,ya,ya,ya,ya,ya];rw[ZU (z:=i+1) (by omega) (by omega)];refine⟨_,rfl,⟨by dsimp only;omega,by dsimp only;omega,rfl,rfl,rfl,rfl, ?_⟩,by dsimp only;omega⟩;dsimp only;rw[show(i+1).toNat=i.toNat+1 by omega,show rs ws (a.map yan) (i.toNat+1)=rnd (rs ws (a.map yan) i.toNat) (ks.getD i.toNat 0) (wd ws i.toNat) from rfl, <-hv]
    have hk1:ks.getD i.toNat 0=e1.toNat:=by
     rw[<-hkv,ycx,yal,he1];rfl
    rw[hk1, <-hwv i.toNat e2 (by omega) he2];simp only[yag,yce];rw[Zyc]
    have kt:((x7+((o1^^^o2)^^^o3))+(x6^^^(x4&&&(x5^^^x6)))+e1+e2).toNat=lo (yr (yr (yr (yr x7.toNat (S1 x4.toNat)) (ch x4.toNat x5.toNat x6.toNat)) e1.toNat) e2.toNat):=by
     rw[Zbb,Zbb,Zbb,Zbb,ZRr x4 p1 p2 p3,ZRs];exact ZRv ..
    have ka:((x7+((o1^^^o2)^^^o3))+(x6^^^(x4&&&(x5^^^x6)))+e1+e2+((o4^^^o5)^^^o6)+((x0&&&x1)|||(x2&&&(x0|||x1)))).toNat=lo (yr (yr (yr (yr (yr (yr x7.toNat (S1 x4.toNat)) (ch x4.toNat x5.toNat x6.toNat)) e1.toNat) e2.toNat) (S0 x0.toNat)) (mj x0.toNat x1.toNat x2.toNat)):=by
     rw[Zbb,Zbb,kt,ZRq x0 p4 p5 p6,ZRt];exact ZRw ..
    have ke:(x3+(((x7+((o1^^^o2)^^^o3))+(x6^^^(x4&&&(x5^^^x6))))+e1+e2)).toNat=lo (yr x3.toNat (yr (yr (yr (yr x7.toNat (S1 x4.toNat)) (ch x4.toNat x5.toNat x6.toNat)) e1.toNat) e2.toNat)):=by
     rw[Zbb,kt];exact ZRx ..
    rw[ka,ke]
  ·right;rw[yX (by simpa using hi)];have e64:i=64:=by omega
   subst e64;exact⟨_,rfl,rfl,he,hv⟩
def Ww(n:Nat):yL yB:=(be8 n).map ybc
theorem ZCS{n:Nat}{b:yL yB}(h:b.length<=1000000000000):VX yD (n:Int) b=some (b++Ww n):=by
 unfold VX
 obtain⟨o,h1,h2⟩:=Qm (step:=Za1 yD) (λs=>∃k:Nat,k<=8/\s.1=(n:Int)/\s.2.1=56 - 8*(k:Int)/\s.2.2.1=b++(Ww n).take k) (λs=>(s.2.1+8).toNat) (λo=>o.1=b++Ww n) (by
  rintro⟨a,i,c,d⟩ ⟨k,hk,ha,hi,hc⟩;dsimp only at ha hi hc;subst ha;unfold Za1;dsimp only;have hcl:c.length<=b.length+8:=by rw[hc,yo,yai];omega
  by_cases h0:i >= 0
  ·left;rw[yW (yY h0),yW (yY h0),yW (ZT (by omega) (by omega)),ZU (z:=i - 8) (by omega) (by omega)];refine⟨_,rfl,⟨k+1,by omega,rfl,by dsimp only;omega, ?_⟩,by dsimp only;omega⟩;dsimp only
   have hw:∀m:Nat,w8 (Int.fdiv (n:Int) (2 ^ m))=ybc (n / 2 ^ m % 256):=by
    intro m;unfold w8;rw[Int.fdiv_eq_ediv_of_nonneg _ (by exact Int.le_of_lt (Int.pow_pos (by omega)))];congr 1
   have hmin:min i.toNat 64=56 - 8*k:=by omega
   rw[hmin,hw,hc,yad];congr 1;have hk8:k < 8:=by omega
   match k,hk8 with
   |0,_=>rfl
   |1,_=>rfl
   |2,_=>rfl
   |3,_=>rfl
   |4,_=>rfl
   |5,_=>rfl
   |6,_=>rfl
   |7,_=>
    show _++[ybc (n / 2 ^ 0 % 256)]=_;rw[Nat.pow_zero,Nat.div_one];rfl
  ·right;rw[yX (by simpa using h0)];have hk8:k=8:=by omega
   subst hk8;exact⟨_,rfl,hc⟩) (((n:Int),(56:Int),b,([]:yL yB))) ⟨0,by omega,rfl,by simp,by simp⟩ (by dsimp only;omega)
 rw[h1,ya,h2]
theorem ZQw{l:yL yB}(h:l.length<=4294967296):ZhP yD l=some (sha l):=by
 unfold ZhP
 have hm:Int.tmod (l.length:Int) 64=((l.length % 64:Nat):Int):=by
  rw[Int.tmod_eq_emod_of_nonneg (by omega)];omega
 have hlt:l.length % 64 < 64:=ybj _ (by omega);have hle:l.length % 64<=l.length:=Nat.mod_le _ _;rw[hm,ZU (z:=(l.length:Int) - ((l.length % 64:Nat):Int)) (by omega) (by omega)];dsimp only;rw[yW (by simp only[Zbp,yj,yP];omega)];have hq:((l.length:Int) - ((l.length % 64:Nat):Int)).toNat=64*(l.length / 64):=by omega
 rw[hq]
 have hdl:(l.drop (64*(l.length / 64))).length=l.length % 64:=by
  rw[ybu];omega
 generalize ht:l.drop (64*(l.length / 64))=t at hdl
 have hcl:Ye yD t=some t:=by
  unfold Ye;rw[yW (ZT (by omega) (by omega))]
 rw[hcl,ya,yW (ZT (by omega) (by omega))];generalize hz:yzz=z;have hzl:z.length=32:=by rw[<-hz];rfl
 have hzs:zs l.length=(119 - t.length) % 64:=by unfold zs;rw[hdl]
 obtain⟨o,h1,p1,p2,p3⟩:=Qm (step:=ZeC yD) (λs=>s.1=l/\s.2.1=z/\∃j,j<=zs l.length/\s.2.2=t++([128]:yL yB)++yx j 0) (λs=>184 - s.2.2.length)
  (λo=>o.1=l/\o.2.1=z/\o.2.2=t++([128]:yL yB)++yx (zs l.length) 0) (by
  rintro⟨a,b,c⟩ ⟨k1,k2,j,k3,k4⟩;dsimp only at k1 k2 k3 k4;have hcl:c.length=t.length+1+j:=by rw[k4,yo,yo,yct];rfl
  unfold ZeC;dsimp only
  have hm:Int.tmod (c.length:Int) 64=((c.length % 64:Nat):Int):=by
   rw[Int.tmod_eq_emod_of_nonneg (by omega)];omega
  rw[hm];by_cases hi:c.length % 64=56
  ·right;rw[yX (by simp;omega)];have:j=zs l.length:=by omega
   subst this;exact⟨_,rfl,k1,k2,k4⟩
  ·left;rw[yW (by simp;omega),yW (ZT (by omega) (by omega))];have hj:j≠zs l.length:=λe=>hi (by omega);refine⟨_,rfl,⟨k1,k2,j+1,by omega, ?_⟩, ?_⟩
   ·dsimp only;rw[k4,yad,List.replicate_succ',yad]
   ·dsimp only;rw[yo,List.length_singleton];omega) (l,z,t++([128]:yL yB)) ⟨rfl,rfl,0,Nat.zero_le _,by simp⟩ (by dsimp only;omega)
 rw[h1,ya,p1,p2,p3,ZU (z:=8*(l.length:Int)) (by omega) (by omega),show 8*(l.length:Int)=((8*l.length:Nat):Int) by omega,ZCS (by
  rw[yo,yo,yct];simp;omega),ya]
 obtain⟨f,hf,hfl⟩:∃f,Zn5 yD=some f/\f.map yan=Zei:=⟨_,rfl,rfl⟩;have hf8:f.length=8:=by rw[<-yy (f:=yan),hfl];rfl
 rw[hf,ya];generalize hE:t++([128]:yL yB)++yx (zs l.length) 0++Ww (8*l.length)=E
 have hEl:E.length=64*((t.length+72) / 64):=by
  rw[<-hE];simp only[yo,yct,List.length_singleton,Ww,yy,be8,yaj,List.length_nil];omega
 obtain⟨o3,h3,r1,r2,r3,r4⟩:=Qm (step:=ZeD yD) (λs=>s.2.1=z/\s.2.2.1=E/\s.2.2.2.length=8/\∃c,c<=l.length / 64/\s.1=l.drop (64*c)/\s.2.2.2.map yan=ZhR c (l.map yam) Zei) (λs=>s.1.length)
  (λx=>x.1=z/\x.2.1=E/\x.2.2.length=8/\x.2.2.map yan=ZhR (l.length / 64) (l.map yam) Zei) (by
  rintro⟨a,b,c,d⟩ ⟨k1,k2,k3,j,k4,k5,k6⟩;dsimp only at k1 k2 k3 k4 k5 k6;have hal:a.length=l.length - 64*j:=by rw[k5,ybu]
  unfold ZeD;dsimp only;by_cases hi:(a.length:Int) >= 64
  ·left;obtain⟨m,hm1,hm2⟩:=ZMq (st:=d) (l:=a.take 64) k3 (by rw[yai];omega);rw[yW (yY hi),yW (by simp only[Zbp,yj,yP];omega),hm1,ya,yW (by simp only[Zbp,yj,yP];omega)];refine⟨_,rfl,⟨k1,k2, ?_,j+1,by omega, ?_, ?_⟩,by dsimp only;rw[ybu];omega⟩
   ·dsimp only;rw[<-yy (f:=yan),hm2];exact ZhQ (by rw[yy];exact k3)
   ·dsimp only;rw[k5,List.drop_drop];congr 1
   ·dsimp only;rw[hm2,ZpE,k6,k5,ycd,List.map_drop]
  ·right;rw[yX (by simpa using hi)];have:j=l.length / 64:=by omega
   subst this;exact⟨_,rfl,k1,k2,k3,k6⟩) (l,z,E,f) ⟨rfl,rfl,hf8,0,Nat.zero_le _,by simp,hfl⟩ (by dsimp only;omega)
 rw[h3,ya,r1,r2];generalize hv1:ZhR (l.length / 64) (l.map yam) Zei=v1 at r4
 obtain⟨o4,h4,s1,s2,s3⟩:=Qm (step:=ZeE yD) (λs=>s.2.1=z/\s.2.2.2.length=8/\∃c,c<=E.length / 64/\s.1=E.drop (64*c)/\s.2.2.2.map yan=ZhR c (E.map yam) v1) (λs=>s.1.length)
  (λx=>x.1=z/\x.2.2.length=8/\x.2.2.map yan=ZhR (E.length / 64) (E.map yam) v1) (by
  rintro⟨a,b,c,d⟩ ⟨k1,k3,j,k4,k5,k6⟩;dsimp only at k1 k3 k4 k5 k6;have hal:a.length=E.length - 64*j:=by rw[k5,ybu]
  unfold ZeE;dsimp only;by_cases hi:(a.length:Int) > 0
  ·left;obtain⟨m,hm1,hm2⟩:=ZMq (st:=d) (l:=a.take 64) k3 (by rw[yai];omega);rw[yW (yY hi),yW (by simp only[Zbp,yj,yP];omega),hm1,ya,yW (by simp only[Zbp,yj,yP];omega)];refine⟨_,rfl,⟨k1, ?_,j+1,by omega, ?_, ?_⟩,by dsimp only;rw[ybu];omega⟩
   ·dsimp only;rw[<-yy (f:=yan),hm2];exact ZhQ (by rw[yy];exact k3)
   ·dsimp only;rw[k5,List.drop_drop];congr 1
   ·dsimp only;rw[hm2,ZpE,k6,k5,ycd,List.map_drop]
  ·right;rw[yX (by simpa using hi)];have:j=E.length / 64:=by omega
   subst this;exact⟨_,rfl,k1,k3,k6⟩) (E,z,E,o3.2.2) ⟨rfl,r3,0,Nat.zero_le _,by simp,r4⟩ (by dsimp only;omega)
 rw[h4,ya];generalize hv2:ZhR (E.length / 64) (E.map yam) v1=v2 at s3
 obtain⟨o5,h5,t1,t2⟩:=Qm (step:=ZeF yD) (λs=>0<=s.1/\s.1<=32/\s.2.1.length=32/\s.2.2.2=o4.2.2/\∀(j:Nat),(j:Int) < s.1->s.2.1[j]? =some (Go.Sha.ZMo v2 j)) (λs=>(32 - s.1).toNat)
  (λx=>x.1.length=32/\∀(j:Nat),j < 32->x.1[j]? =some (Go.Sha.ZMo v2 j)) (by
  rintro⟨i,a,b,c⟩ ⟨h0,h32,ha,hc,hv⟩;dsimp only at h0 h32 ha hc hv;subst hc;unfold ZeF;dsimp only;by_cases hi:i < 32
  ·left;rw[yW (yY hi)];have e1:Int.tdiv i 4=i / 4:=Int.tdiv_eq_ediv_of_nonneg h0;have e2:Int.tmod i 4=i % 4:=Int.tmod_eq_emod_of_nonneg h0;rw[e1,e2,ZU (z:=i / 4) (by omega) (by omega),ZU (z:=8*(i % 4)) (by omega) (by omega),ZU (z:=24 - 8*(i % 4)) (by omega) (by omega),ZU (z:=i+1) (by omega) (by omega)];obtain⟨x1,hx1⟩:=Zea (l:=o4.2.2) (i:=(i / 4).toNat) (by omega);obtain⟨x2,hx2⟩:=Zea (l:=a) (i:=i.toNat) (by omega);rw[yW (ZJ (by omega) (by omega)),hx1,ya,yW (yY (by omega))]
   try dsimp only
   rw[yW (ZJ (by omega) (by omega)),hx2,ya];refine⟨_,rfl,⟨by dsimp only;omega,by dsimp only;omega,by dsimp only;rw[ybq];exact ha,rfl, ?_⟩,by dsimp only;omega⟩;intro j hj;dsimp only at hj ⊢;by_cases hji:j=i.toNat
   ·subst hji;rw[ycv (by omega)];congr 1;unfold Go.Sha.ZMo
    have hx:v2.getD (i.toNat / 4) 0=x1.toNat:=by
     rw[<-s3,ycx,yal,show i.toNat / 4=(i / 4).toNat by omega,hx1];rfl
    rw[hx,show min (24 - 8*(i % 4)).toNat 32=24 - 8*(i.toNat % 4) by omega,ZA9];unfold w8;have e3:∀m:Nat,(((m:Nat):Int) % 256).toNat=m % 256:=λm=>by omega
    rw[e3,show yaf x1.toNat (24 - 8*(i.toNat % 4))=x1.toNat >>> (24 - 8*(i.toNat % 4)) from rfl,ydb]
    exact UInt8.toNat_inj.1 (by simp)
   ·rw[List.getElem?_set_ne (Ne.symm hji)];exact hv j (by omega)
  ·right;rw[yX (by simpa using hi)];exact⟨_,rfl,ha,λj hj=>hv j (by omega)⟩) ((0:Int),o4.1,o4.2.1,o4.2.2) ⟨Int.le_refl _,by dsimp only;omega,by dsimp only;rw[s1];exact hzl,rfl,λj hj=>by dsimp only at hj;omega⟩ (by dsimp only;omega)
 rw[h5,ya,ZHm];congr 1
 have hpad:ZhS l=(l.take (64*(l.length / 64))).map yam++E.map yam:=by
  unfold ZhS;rw[<-hE, <-ht];simp only[yas,List.map_replicate,yag,yce,Ww,ybe];rw[<-yad, <-yad, <-yad, <-yas,ybm]
  have:be8 (8*l.length)=(be8 (8*l.length)).map (yam ∘ ybc):=by
   simp[be8]
  rw[<-this];simp
 have hw:((l.take (64*(l.length / 64))).map yam).length=64*(l.length / 64):=by
  rw[yy,yai];omega
 have hv:v2=ZhR ((l.length+72) / 64) (ZhS l) Zei:=by
  rw[hpad,show(l.length+72) / 64=l.length / 64+E.length / 64 by omega,Zye _ _ _ _ _ hw, <-hv2, <-hv1];congr 1;have:=Zye (l.length / 64) 0 _ ((l.drop (64*(l.length / 64))).map yam) Zei hw;rw[<-yas,ybm,Nat.add_zero] at this;exact this
 rw[<-hv];apply List.ext_getElem?;intro j;by_cases hj:j < 32
 ·rw[t2 j hj,yal,List.getElem?_range hj];rfl
 ·rw[yaq (by omega),yaq (by simp;omega)]
noncomputable def Zks(F:Nat)(a0:yL yB):yO (yL yB):=if decide (a0.length<=4294967296)=true then some (sha a0) else ZhP F a0
noncomputable def ZFe(F:Nat):Fs yb:={ Zlx F with M:=λx=>Zks F x}
noncomputable def Zyg:Fs yb:=ZFe yD
theorem ZFf:Zyg.Ok:=Zrp (s:=Zlx yD) ZCO λx=>by
 show Zks yD x=ZhP yD x;unfold Zks;split
 ·rename_i h;exact(ZQw (yF h)).symm
 ·rfl
theorem ZOA{l:yL yB}(h:l.length<=4294967296):Zks yD l=some (sha l):=yW (yY h)
end Go.Proofs.YtdhclndplbopgaaGreat
end
