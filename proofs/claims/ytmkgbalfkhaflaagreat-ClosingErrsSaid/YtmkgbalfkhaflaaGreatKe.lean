/- Parts of the proof, in one file. -/
import Derived.Test.YtmkgbalfkhaflaaGreatKd
open Bool renaming and_eq_true → yi
open Go renaming TypeId → yc, Program → yg, Value → yh, FuncId → yu, World → yy
open Go.Proofs.Tryz renaming prog → ya
open List renaming getElem?_eq_some_iff → yp, length_append → yr, range → yv, replicate → yx, length_map → yz, getElem?_eq_getElem → yac, length_cons → yad, map_cons → yaf, getElem?_map → yah, getElem?_append_left → yan, getElem?_eq_none → yao, getElem?_append_right → yap, map_append → yar, mem_cons_self → yat, mem_cons_of_mem → yau, getElem?_cons_succ → yav, map_map → yax, mem_singleton → yay, all_eq_true → yba, append_nil → ybh, getElem?_cons_zero → ybk, ext_getElem? → ybl, mem_of_getElem? → yby, map_congr_left → ycg, length_replicate → ycm, getElem?_set_self → yco
open Nat renaming le_refl → yn, mod_eq_of_lt → yaj, add_mul → yas, zero_add → ybb, mod_lt → ybc, mul_comm → ybi, mul_le_mul_right → ybu, lt_or_ge → ybw, add_assoc → ycc, eq_zero_or_pos → ycf
open Option renaming bind_some → yb, bind_eq_some_iff → yf, map_eq_some_iff → yo, map_some → yab
open Option.some renaming injEq → yj, inj → ybj
open UInt32 renaming ofNat → ybn
open UInt64 renaming ofNat → yal, toNat_ofNat' → ybe, toNat_lt → ybm, lt_iff_toNat_lt → ybv, le_iff_toNat_le → ycp
set_option linter.unusedVariables false
set_option linter.unusedSimpArgs false
section
namespace Go.Ev
def X7(H H':List Ent):Prop:=∀σ:Sg,Ok σ→σ.H=H→∃σ':Sg,σ'.w=σ.w∧σ'.H=H'∧To σ σ'∧Ok σ'
theorem X7.refl(H:List Ent):X7 H H:=λσ ok h=>⟨σ,rfl,h,To.refl σ,ok⟩
theorem X7.trans{A B C:List Ent}(h:X7 A B)(k:X7 B C):X7 A C:=λσ ok e=>by
 obtain⟨σ1,a1,a2,a3,a4⟩:=h σ ok e;obtain⟨σ2,b1,b2,b3,b4⟩:=k σ1 a4 a2;exact⟨σ2,b1.trans a1,b2,a3.trans b3,b4⟩
theorem ZHk{H H':List Ent}(h:WkH H H'):X7 H H':=λσ ok e=>by
 subst e;obtain⟨to,ok'⟩:=Zn6 ok h;exact⟨{ σ with H:=H'},rfl,rfl,to,ok'⟩
theorem ZJy{P:yg}{c:Code}{ts ts1 ts2:List Dv}{H H1 H2:List Ent}{ex:Ex}(h:X7 H H1∧∀(σ:Sg)(a:Act),RepT σ ts a→RepT σ ts1 a)(r:X3 P c ts1 H1 ex ts2 H2):X3 P c ts H ex ts2 H2:=by
 intro σ a ok hH hrep;obtain⟨σ1,e1,e2,e3,e4⟩:=h.1 σ ok hH;have:=r σ1 a e4 e2 (h.2 _ _ (hrep.to e3.leaf));rw[e1] at this;refine wp_mono this ?_;rintro e' a' w' ⟨rfl,σ2,q1,q2,q3,q4,q5⟩;exact⟨rfl,σ2,q1,q2,e3.trans q3,q4,q5⟩
theorem ZHl{H:List Ent}{j:Nat}{x x' y:Ent}(hj:H[j]? =some x)
 (hy:∀σ:Sg,entOk σ none y)
 (hvar:(∃d st,x=.var d st)→∃d st,x'=.var d st) (hmap:(∃t kvs,x=.map t kvs)→∃t kvs,x'=.map t kvs) (hlog:∀s e xs,x≠ .log s e xs)
 (hunl:∀o,x.unlocked o→x'.unlocked o)
 (hrow:∀v s st e d,x=.row v s st e d→∃st' d',x'=.row v s st' e d')
 (hent:∀(σ:Sg)(mi:Option Nat),σ.H[H.length]? =some y→σ.m[H.length]? =some none→entOk σ mi x→entOk σ mi x'):X7 H ((H++[y]).set j x'):=by
 intro σ ok hH;subst hH;have hjl:j < σ.H.length:=(yp.1 hj).1;obtain⟨to1,ok1⟩:=Ww (σ':={ σ with m:=σ.m++[none],H:=σ.H++[y]}) ok rfl rfl rfl rfl (World.grownBy.refl σ.w none) (.inl rfl) (λ_=>hy _);obtain⟨mi,hm⟩:∃mi,σ.m[j]? =some mi:=⟨_,yac (by rw[ok.len];exact hjl)⟩;let σ1:Sg:={ σ with m:=σ.m++[none],H:=σ.H++[y]};let σ2:Sg:={ σ1 with m:=σ1.m.set j mi,H:=σ1.H.set j x'}
 have hH1:σ1.H[j]? =some x:=by
  show(σ.H++[y])[j]? =_;rw[yan hjl];exact hj
 have hm1:σ1.m[j]? =some mi:=by
  show(σ.m++[none])[j]? =_;rw[yan (by rw[ok.len];exact hjl)];exact hm
 have hx:=ok1.ent j x mi hH1 hm1
 obtain⟨to2,ok2⟩:=Xy (σ':=σ2) (mi:=mi) (mi':=mi) ok1 hH1 hm1 rfl rfl rfl rfl rfl rfl rfl (yn _)
  (λ_ _ _=>rfl) (λ_ _ _ _ _ h=>h) (λo _ hu=>hunl o hu) (.inl rfl) (λq=>⟨rfl,hvar q⟩) (λq=>⟨rfl,hmap q⟩) (λs e xs q=>absurd q (hlog s e xs))
  (λleaf=>by
    refine hent σ2 mi ?_ ?_ (ZbH leaf (λb _=>rfl) hx)
    ·show(σ1.H.set j _)[σ.H.length]? =_;rw[List.getElem?_set,if_neg (by omega)];simp[σ1]
    ·show(σ1.m.set j _)[σ.H.length]? =_;rw[List.getElem?_set,if_neg (by omega)];show(σ.m++[none])[σ.H.length]? =_;rw[yap (by rw[ok.len];exact yn _),ok.len];simp)
  (λv s st e d q=>by
    obtain⟨st',d',q'⟩:=hrow v s st e d q;exact⟨v,st',d',q',yn _,λ_=>⟨rfl,λb cur _ hc=>⟨cur,hc,rfl⟩⟩⟩)
 exact⟨σ2,rfl,rfl,to1.trans to2,ok2⟩
theorem ZwR{σ:Sg}{s:Nat}{a:List yh}(h:repD σ (.p (.sl (some false) s [])) a):a=[.slice none 0 0]:=by
 simp only[repD,repC] at h;obtain⟨_,A,c,rfl,w1,w2,w3,w4,w5⟩:=h
 have hA:A=none:=by
  have:=w3 false rfl
  cases A with
  |none=>rfl
  |some _=>cases this
 subst hA;have hc:=w4 rfl;subst hc;rfl
theorem ZD0{H:List Ent}{j s:Nat}{e:yc}{d d':Dv}{st:Bool}{path:List Nat}(hj:H[j]? =some (.var d st))(hg:Y6 d path s (.rv H.length 0 s 0 0)=some d'):
 X7 H ((H++[Ent.row 0 s true e (.p (.arr 0 s []))]).set j (.var d' st)):=by
 have hsz:=ZaA path d d' s _ rfl hg;refine ZHl hj (λσ=>⟨0,by simp[rowN],.inl ⟨rfl,rfl⟩⟩) (λ_=>⟨_,_,rfl⟩) (λ⟨_,_,q⟩=>by cases q) (λ_ _ _ q=>by cases q) (λo hu=>hu) (λ_ _ _ _ _ q=>by cases q) ?_;rintro σ mi h1 h2 ⟨b,cs,t,rfl,q2,q3,q4⟩;refine⟨b,cs,t,rfl,q2, ?_,by rw[hsz];exact q4⟩;rw[hsz];refine Zcs path d d' s _ (λa ha=> ?_) hg _ q3;have:=ZwR ha;subst this;simp only[repD];exact⟨none,0,rfl,yn _,by simp[maxLen],λ_=>rfl,λh=>absurd h (Nat.lt_irrefl 0),0,s,true,e,_,h1,yn _,λ_=>⟨rfl,.inl ⟨h2,rfl,rfl⟩⟩⟩
theorem ZHm{H:List Ent}{j s s' v N:Nat}{st:Bool}{e e':yc}{xs:List Pl}{k:Nat}{x:Pl}{y:Dv}{path:List Nat}(hj:H[j]? =some (.row v s st e (.p (.arr N s xs))))(hx:xs[k]? =some x)
 (hg:Y6 (.p x) path s' (.own H.length none s' [])=some y):X7 H ((H++[Ent.log s' e' []]).set j (.row v s st e (.arr N s ((xs.map .p).set k y)))):=by
 have hsz:=ZaA path (.p x) y s' _ rfl hg;refine ZHl hj (λσ=>.inl ⟨rfl,rfl⟩) (λ⟨_,_,q⟩=>by cases q) (λ⟨_,_,q⟩=>by cases q) (λ_ _ _ q=>by cases q) (λo hu=> ?_) (λv2 s2 st2 e2 d2 q=>by cases q;exact⟨_,_,rfl⟩) ?_
 ·obtain⟨u1,N',u2,u3⟩:=hu;exact⟨u1,N',by rw[←u2];simp[rowN],u3⟩
 rintro σ mi h1 h2 ⟨N',q1,q2⟩;refine⟨N',by rw[←q1];simp[rowN], ?_⟩;rcases q2 with q2|⟨b,cur,cap,e3,e4,e5,e6,e7,e8⟩
 ·exact .inl q2
 refine .inr ⟨b,cur,cap,e3,e4,e5,e6,e7, ?_⟩;have hk:(xs.map Dv.p)[k]? =some (.p x):=by rw[yah,hx];rfl
 simp only[repD,repC] at e8 ⊢;obtain⟨r1,r2,r3⟩:=e8;refine⟨by simpa using r1,λz hz=> ?_, ?_⟩
 ·rcases List.mem_or_eq_of_mem_set hz with hz|hz
  ·obtain⟨w,hw,rfl⟩:=List.mem_map.1 hz;exact r2 w hw
  ·subst hz;rw[hsz];exact r2 x (yby hx)
 ·refine Zlz (x:=.p x) (y:=y) (λa ha=>Zcs path (.p x) y s' _ (λa ha=> ?_) hg a ha) _ k _ hk (ZfR.2 r3);have:=ZwR ha;subst this;simp only[repD];exact⟨λ_ hx=>(by cases hx),none,0,rfl,yn _,by simp[maxLen],ZY _,λ_=>rfl,λh=>absurd rfl h,e',[],h1,yn _,λ_=>.inl ⟨h2,rfl,rfl⟩⟩
theorem ZJz{H:List Ent}{j:Nat}{d d':Dv}{st:Bool}(hj:H[j]? =some (.var d st))(hsz:d'.size=d.size)(hd:∀σ:Sg,Ok σ→σ.H=H→∀us,repD σ d us→repD σ d' us):X7 H (H.set j (.var d' st)):=by
 intro σ ok hH;subst hH;have hjl:j < σ.H.length:=(yp.1 hj).1;obtain⟨mi,hm⟩:∃mi,σ.m[j]? =some mi:=⟨_,yac (by rw[ok.len];exact hjl)⟩;let σ2:Sg:={ σ with m:=σ.m.set j mi,H:=σ.H.set j (.var d' st)};obtain⟨b,cs,t,rfl,q2,q3,q4⟩:=ok.ent j _ mi hj hm;have q5:=hd σ ok rfl _ q3
 obtain⟨to2,ok2⟩:=Xy (σ':=σ2) (mi:=some b) (mi':=some b) ok hj hm rfl rfl rfl rfl rfl rfl rfl (yn _)
  (λ_ _ _=>rfl) (λ_ _ _ _ _ h=>h) (λo _ hu=>hu) (.inl rfl) (λq=>⟨rfl,_,_,rfl⟩) (λ⟨_,_,q⟩=>by cases q) (λs e xs q=>by cases q)
  (λleaf=>⟨b,cs,t,rfl,q2,by rw[hsz];exact Z5 leaf _ _ q5,by rw[hsz];exact q4⟩)
  (λv s st e d q=>by cases q)
 exact⟨σ2,rfl,rfl,to2,ok2⟩
def ZLd{α O:Type}(l:List α)(f:α→List α→Option O):Option O:=match l with
 |x::r=>f x r
 |[]=>none
inductive GOp where
 |rows (t:Tmp) (path:List Nat) (T:Ty) (e:yc) (np:List Nat)
 |focus (t:Tmp) (U:Ty) (e:yc)
 |done (t:Tmp)
 |fresh (t:Tmp) (i:Nat)
 |rowt (t:Tmp) (path:List Nat) (T:Ty) (e:yc)
 |freshS (t:Tmp)
 |freshV (t:Tmp)
 |freshDone (t:Tmp) (i:Nat)
 |any (t:Tmp) (i:Nat) (T:Ty)
 |melt (t:Tmp)
 |split (t:Tmp) (ks:List Nat)
 |nn (t:Tmp)
def ZHn:TEnt→Bool
 |.rowN _ _ _ true _ _ _=>true
 |_=>false
section
variable{O:Type}{out:O}
abbrev Kh(O:Type):=List TD→List TEnt→Option O
def ZCD(t:Tmp)(path:List Nat)(T:Ty)(e:yc)(np:List Nat)(a:List TD)(h:List TEnt)(K:Kh O):Option O:=
 match a[t]? with
 |some (.ref id [])=>match h[id]? with
  |some (.var d true)=>(ZeP T (.rw h.length) path d).bind λd'=>if(TD.frees h.length a&&h.all (TEnt.free h.length))=true then K a ((h++[TEnt.rowN T np [] true e [] []]).set id (.var d' true)) else none
  |_=>none
 |_=>none
def ZCE(t:Tmp)(path:List Nat)(T:Ty)(e:yc)(a:List TD)(h:List TEnt)(K:Kh O):Option O:=
 match a[t]? with
 |some (.ref id [])=>match h[id]? with
  |some (.var d true)=>(ZeP T (.rw h.length) path d).bind λd'=>if(TD.frees h.length a&&h.all (TEnt.free h.length))=true then K a ((h++[TEnt.rowT T [] true e []]).set id (.var d' true)) else none
  |_=>none
 |_=>none
def Zyt(t:Tmp)(U:Ty)(e:yc)(a:List TD)(h:List TEnt)(K:Kh O):Option O:=
 let j:=h.findIdx ZHn
 match h[j]?,((a[t]?).bind TD.num) with
 |some (.rowN T np v true e' pre post),some i=>if(TD.frees h.length a&&h.all (TEnt.free h.length))=true then if decide (i.n=(pre.length:Int))=true then ZLd post λx r=>
   (ZeP U (.own h.length none U none) np (.p (Xx np (.v T x)))).bind λd=>K a ((h++[TEnt.log U e []]).set j (.rowM T np v true e' pre d r)) else none else none
 |_,_=>none
def ZAK(h:List TEnt):TD→Option (TD×List Nat)
 |.rw j=>match h[j]? with
  |some (.rowN T _ _ _ _ pre [])=>some (.p (.sl none T pre),[j])
  |some (.rowT T _ _ _ l)=>some (.p (.sl none T l),[j])
  |_=>none
 |d=>some (d,[])
def ZHo(h:List TEnt):TD→(TD→List Nat→Option O)→Option O
 |.rw j,K=>match h[j]? with
  |some (.rowN T _ _ _ _ pre post)=>if post.isEmpty=true then K (.p (.sl none T pre)) [j] else none
  |some (.rowT T _ _ _ l)=>K (.p (.sl none T l)) [j]
  |_=>none
 |d,K=>K d []
theorem ZCF{h:List TEnt}{d:TD}{K:TD→List Nat→Option O}(k:ZHo h d K=some out):∃q,ZAK h d=some q∧K q.1 q.2=some out:=by
 unfold ZHo at k;unfold ZAK;split at k
 ·rename_i j;dsimp only;split at k
  ·rename_i T np v st e pre post hd;rw[hd];obtain⟨h1,k⟩:=Za k
   cases post with
   |nil=>exact⟨_,rfl,k⟩
   |cons _ _=>cases h1
  ·rename_i T v st e l hd;rw[hd];exact⟨_,rfl,k⟩
  ·cases k
 ·rename_i hne;refine⟨(d,[]), ?_,k⟩;cases d <;> first|rfl|exact absurd rfl (hne _)
def ZCG(h:List TEnt):List TD→(List TD→List Nat→Option O)→Option O
 |[],K=>K [] []
 |d::r,K=>ZHo h d λx l=>ZCG h r λy m=>K (x::y) (l++m)
def ZtR(h:List TEnt):List TD→Option (List TD×List Nat)
 |[]=>some ([],[])
 |d::r=>match ZAK h d,ZtR h r with
  |some q,some w=>some (q.1::w.1,q.2++w.2)
  |_,_=>none
theorem Zra{h:List TEnt}:∀{ds:List TD}{K:List TD→List Nat→Option O},ZCG h ds K=some out→∃q,ZtR h ds=some q∧K q.1 q.2=some out
 |[],K,k=>⟨_,rfl,k⟩
 |d::r,K,k=>by
  obtain⟨q,h1,k⟩:=ZCF k;obtain⟨w,h2,k⟩:=Zra k;exact⟨(q.1::w.1,q.2++w.2),by simp only[ZtR,h1,h2],k⟩
def Zki:TEnt→TEnt
 |.rowN T np v _ e a b=>.rowN T np v false e a b
 |.rowT t v _ e l=>.rowT t v false e l
 |e=>e
def ZbM(ids:List Nat)(H:List TEnt):List TEnt:=(yv H.length).zipWith (λi e=>if ids.contains i then Zki e else e) H
def ZtS(t:Tmp)(a:List TD)(h:List TEnt)(K:Kh O):Option O:=
 match a[t]? with
 |some (.ref id [])=>match h[id]? with
  |some (.var (.agg ds) st)=>ZCG h ds λx l=>K a ((ZbM l h).set id (.var (.agg x) st))
  |_=>none
 |_=>none
def Zsz(t:Tmp)(i:Nat)(a:List TD)(h:List TEnt)(K:Kh O):Option O:=
 match a[t]? with
 |some (.ref j [])=>match h[j]? with
  |some (.var (.agg ds) st)=>match ds[i]? with
   |some (.rv id v s 0 n)=>match h[id]? with
    |some (.rowT T w _ _ l)=>if(decide (v=w.length)&&(decide (s=T.size)&&decide (n=l.length)))=true then K a (h.set j (.var (.agg (ds.set i (.rw id))) st)) else none
    |_=>none
   |_=>none
  |_=>none
 |_=>none
def ZtT(t:Tmp)(a:List TD)(h:List TEnt)(K:Kh O):Option O:=
 match a[t]? with
 |some (.rv id v s 0 n)=>match h[id]? with
  |some (.rowT T w _ _ l)=>if(decide (v=w.length)&&(decide (s=T.size)&&decide (n=l.length)))=true then K (a.set t (.rw id)) h else none
  |_=>none
 |_=>none
def ZtU(t:Tmp)(a:List TD)(h:List TEnt)(K:Kh O):Option O:=
 match a[t]? with
 |some (.ref j [])=>match h[j]? with
  |some (.var (.rv id v s 0 n) st)=>match h[id]? with
   |some (.rowT T w _ _ l)=>if(decide (v=w.length)&&(decide (s=T.size)&&decide (n=l.length)))=true then K a (h.set j (.var (.rw id) st)) else none
   |_=>none
  |_=>none
 |_=>none
def ZHp(t:Tmp)(i:Nat)(T:Ty)(a:List TD)(h:List TEnt)(K:Kh O):Option O:=
 match a[t]? with
 |some (.ref j [])=>match h[j]? with
  |some (.var (.agg ds) st)=>match ds[i]? with
   |some (.p x)=>(TP.to Zkb x T).bind λy=>K a (h.set j (.var (.agg (ds.set i (.p (.v T y)))) st))
   |_=>none
  |_=>none
 |_=>none
def ZCH(t:Tmp)(a:List TD)(h:List TEnt)(K:Kh O):Option O:=
 match a[t]? with
 |some (.ref j [])=>match h[j]? with
  |some (.var (.p (.arr n s xs)) st)=>K a (h.set j (.var (.arr n s (xs.map TD.p)) st))
  |_=>K a h
 |_=>K a h
def Zyu(z:Int)(t:Tmp)(a:List TD)(h:List TEnt)(K:Kh O):List Nat→Option O
 |[]=>none
 |n::r=>if(z==(n:Int))=true then K (a.set t (.p (.v (.int .i64) (n:Int)))) h else Zyu z t a h K r
def Zyv(t:Tmp)(ks:List Nat)(a:List TD)(h:List TEnt)(K:Kh O):Option O:=
 match a.getD t .junk with
 |.p (.v (.int .i64) z)=>Zyu z t a h K ks
 |_=>none
def ZLe(t:Tmp)(a:List TD)(h:List TEnt)(K:Kh O):Option O:=
 match a.getD t .junk with
 |.ref _ _=>K a h
 |_=>none
def ghT:GOp→List TD→List TEnt→Kh O→Option O
 |.rows t path T e np,a,h,K=>ZCD t path T e np a h K
 |.focus t U e,a,h,K=>Zyt t U e a h K
 |.done t,a,h,K=>ZtS t a h K
 |.fresh t i,a,h,K=>Zsz t i a h K
 |.rowt t path T e,a,h,K=>ZCE t path T e a h K
 |.freshS t,a,h,K=>ZtT t a h K
 |.freshV t,a,h,K=>ZtU t a h K
 |.freshDone t i,a,h,K=>Zsz t i a h λa h=>ZtS t a h K
 |.any t i T,a,h,K=>ZHp t i T a h K
 |.melt t,a,h,K=>ZCH t a h K
 |.split t ks,a,h,K=>Zyv t ks a h K
 |.nn t,a,h,K=>ZLe t a h K
def ghO(g:Option GOp)(a:List TD)(h:List TEnt)(K:Kh O):Option O:=
 match g with
 |none=>K a h
 |some g=>ghT g a h K
theorem Zyw{H:List TEnt}{e:TEnt}(h:H.all (TEnt.free H.length)=true):erH (H++[e])=erH H++[e.er (lk (H++[e]))]:=by
 unfold erH;rw[yar];congr 1;refine ycg λx hx=> ?_;have hf:=yba.1 h x hx;exact(ZAt (λid t hn=>ZaI id t hn) x hf).symm
theorem Zyx{H:List TEnt}{e:TEnt}{a:List TD}(h:TD.frees H.length a=true):TD.ers (lk (H++[e])) a=TD.ers (lk H) a:=(ers_free (λid t hn=>ZaI id t hn) a h).symm
theorem ZAL{t:Tmp}{path:List Nat}{T:Ty}{e:yc}{np:List Nat}{a:List TD}{h:List TEnt}{K:Kh O}(k:ZCD t path T e np a h K=some out):
 ∃a' h',K a' h'=some out∧a'.length=a.length∧X7 (erH h) (erH h')∧∀(σ:Sg)(act:Act),RepT σ (TD.ers (lk h) a) act→RepT σ (TD.ers (lk h') a') act:=by
 unfold ZCD at k;split at k
 ·rename_i id hid;split at k
  ·rename_i d hd;obtain⟨d',h1,k⟩:=yf.1 k;obtain⟨h2,k⟩:=Za k;rw[yi] at h2;have hlt:id < h.length:=(yp.1 hd).1;have hd':(h++[TEnt.rowN T np [] true e [] []])[id]? =some (.var d true):=by rw[yan hlt];exact hd
   have hL:lk ((h++[TEnt.rowN T np [] true e [] []]).set id (.var d' true))=lk (h++[TEnt.rowN T np [] true e [] []]):=Ve hd' rfl rfl;refine⟨_,_,k,rfl, ?_,λσ act r=> ?_⟩
   ·have e1:erH ((h++[TEnt.rowN T np [] true e [] []]).set id (.var d' true))=(erH h++[Ent.row 0 T.size true e (.p (.arr 0 T.size []))]).set id (.var (d'.er (lk (h++[TEnt.rowN T np [] true e [] []]))) true):=by
     rw[Xj hL,Zyw h2.2];rfl
    rw[e1];have hj:(erH h)[id]? =some (.var (d.er (lk h)) true):=by rw[ZV hd];rfl
    refine ZD0 (path:=path) hj ?_;have e2:=Zex (L:=lk (h++[TEnt.rowN T np [] true e [] []])) path d d' h1;have e3:d.er (lk (h++[TEnt.rowN T np [] true e [] []]))=d.er (lk h):=(Zb9 (λid t hn=>ZaI id t hn) d (yba.1 h2.2 _ (yby hd))).symm;rw[e3,(Zd3 (q:=(0,T.size,0)) (x:=.rowN T np [] true e [] []) (List.getElem?_concat_length ..) rfl).1] at e2;rw[ZM];exact e2
   ·rw[hL,Zyx h2.1];exact r
  ·cases k
 ·cases k
theorem ZAM{t:Tmp}{path:List Nat}{T:Ty}{e:yc}{a:List TD}{h:List TEnt}{K:Kh O}(k:ZCE t path T e a h K=some out):
 ∃a' h',K a' h'=some out∧a'.length=a.length∧X7 (erH h) (erH h')∧∀(σ:Sg)(act:Act),RepT σ (TD.ers (lk h) a) act→RepT σ (TD.ers (lk h') a') act:=by
 unfold ZCE at k;split at k
 ·rename_i id hid;split at k
  ·rename_i d hd;obtain⟨d',h1,k⟩:=yf.1 k;obtain⟨h2,k⟩:=Za k;rw[yi] at h2;have hlt:id < h.length:=(yp.1 hd).1;have hd':(h++[TEnt.rowT T [] true e []])[id]? =some (.var d true):=by rw[yan hlt];exact hd
   have hL:lk ((h++[TEnt.rowT T [] true e []]).set id (.var d' true))=lk (h++[TEnt.rowT T [] true e []]):=Ve hd' rfl rfl;refine⟨_,_,k,rfl, ?_,λσ act r=> ?_⟩
   ·have e1:erH ((h++[TEnt.rowT T [] true e []]).set id (.var d' true))=(erH h++[Ent.row 0 T.size true e (.p (.arr 0 T.size []))]).set id (.var (d'.er (lk (h++[TEnt.rowT T [] true e []]))) true):=by
     rw[Xj hL,Zyw h2.2];rfl
    rw[e1];have hj:(erH h)[id]? =some (.var (d.er (lk h)) true):=by rw[ZV hd];rfl
    refine ZD0 (path:=path) hj ?_;have e2:=Zex (L:=lk (h++[TEnt.rowT T [] true e []])) path d d' h1;have e3:d.er (lk (h++[TEnt.rowT T [] true e []]))=d.er (lk h):=(Zb9 (λid t hn=>ZaI id t hn) d (yba.1 h2.2 _ (yby hd))).symm;rw[e3,(Zbg (T:=T) (v:=[]) (l:=[]) (List.getElem?_concat_length ..)).1] at e2;rw[ZM];exact e2
   ·rw[hL,Zyx h2.1];exact r
  ·cases k
 ·cases k
theorem Zyy{t:Tmp}{U:Ty}{e:yc}{a:List TD}{h:List TEnt}{K:Kh O}(k:Zyt t U e a h K=some out):
 ∃a' h',K a' h'=some out∧a'.length=a.length∧X7 (erH h) (erH h')∧∀(σ:Sg)(act:Act),RepT σ (TD.ers (lk h) a) act→RepT σ (TD.ers (lk h') a') act:=by
 unfold Zyt at k;dsimp only at k;generalize h.findIdx ZHn=j at k;split at k
 ·rename_i T np v e' pre post i hd hi;obtain⟨h2,k⟩:=Za k;obtain⟨_,k⟩:=Za k;simp only[yi] at h2;obtain⟨h2,h3⟩:=h2
  cases post with
  |nil=>cases k
  |cons x r=>
   have k:((ZeP U (.own h.length none U none) np (.p (Xx np (.v T x)))).bind λd=>K a ((h++[TEnt.log U e []]).set j (.rowM T np v true e' pre d r)))=some out:=k;obtain⟨d,h1,k⟩:=yf.1 k;have hlt:j < h.length:=(yp.1 hd).1;have hd':(h++[TEnt.log U e []])[j]? =some (.rowN T np v true e' pre (x::r)):=by rw[yan hlt];exact hd
   have hL:lk ((h++[TEnt.log U e []]).set j (.rowM T np v true e' pre d r))=lk (h++[TEnt.log U e []]):=ZDK hd' rfl;refine⟨_,_,k,rfl, ?_,λσ act rr=> ?_⟩
   ·have e1:erH ((h++[TEnt.log U e []]).set j (.rowM T np v true e' pre d r))=(erH h++[Ent.log U.size e []]).set j (.row v.length T.size true e' (.arr (pre.length+(r.length+1)) T.size (((pre.map T.enc++(x::r).map λx=>(Xx np (.v T x)).pe).map .p).set pre.length (d.er (lk (h++[TEnt.log U e []])))))):=by
     rw[Xj hL,Zyw h3];have hm:=ZDL (pre.map λx=>Dv.p (T.enc x)) (r.map λx=>.p (Xx np (.v T x)).pe) (.p (Xx np (.v T x)).pe) (d.er (lk (h++[TEnt.log U e []])));rw[yz] at hm
     have hm2:((pre.map T.enc++(x::r).map λx=>(Xx np (.v T x)).pe).map Dv.p).set pre.length (d.er (lk (h++[TEnt.log U e []])))=(pre.map λx=>Dv.p (T.enc x))++d.er (lk (h++[TEnt.log U e []]))::r.map λx=>.p (Xx np (.v T x)).pe:=by
      rw[yar,yax,yax];exact hm
     rw[hm2];rfl
    rw[e1];have hj:(erH h)[j]? =some (.row v.length T.size true e' (.p (.arr (pre.length+(r.length+1)) T.size (pre.map T.enc++(x::r).map λx=>(Xx np (.v T x)).pe)))):=by rw[ZV hd];rfl
    have hx:(pre.map T.enc++(x::r).map λx=>(Xx np (.v T x)).pe)[pre.length]? =some (Xx np (.v T x)).pe:=by
     have:=Zym (pre.map T.enc) (r.map λx=>(Xx np (.v T x)).pe) (Xx np (.v T x)).pe;rw[yz] at this;exact this
    refine ZHm (path:=np) hj hx ?_;have e2:=Zex (L:=lk (h++[TEnt.log U e []])) np _ d h1
    have e3:(TD.own h.length none U none).er (lk (h++[TEnt.log U e []]))=.own h.length none U.size []:=by
     rw[TD.er,Zew];rfl
    rw[e3,TD.er] at e2;rw[ZM];exact e2
   ·rw[hL,Zyx h2];exact rr
 ·cases k
theorem ZHq(e:TEnt):lkE (some (Zki e))=lkE (some e):=by cases e <;> rfl
theorem Zh8(ids:List Nat)(H:List TEnt)(i:Nat):(ZbM ids H)[i]? =(H[i]?).map λe=>if ids.contains i then Zki e else e:=by
 unfold ZbM;rw[List.getElem?_zipWith];rcases ybw i H.length with h|h
 ·rw[List.getElem?_range h,yac h];rfl
 ·rw[yao (by simpa using h),yao h];rfl
theorem ZwS(ids:List Nat)(H:List TEnt):lk (ZbM ids H)=lk H:=by
 funext i;unfold lk;rw[Zh8]
 cases H[i]? with
 |none=>rfl
 |some e=>
  show lkE (some (if ids.contains i=true then Zki e else e))=_
  split
  ·exact ZHq e
  ·rfl
theorem ZFw(ids:List Nat)(H:List TEnt):WkH (erH H) (erH (ZbM ids H)):=by
 refine ZCA (by rw[ZM,ZM];unfold ZbM;simp) λi a b h1 h2=> ?_;unfold erH at h1 h2;rw[yah] at h1 h2;rw[ZwS,Zh8] at h2
 cases he:H[i]? with
 |none=>rw[he] at h1;cases h1
 |some e=>
  rw[he] at h1 h2;cases h1;cases h2;show WkE (e.er (lk H)) (TEnt.er (lk H) (if ids.contains i=true then Zki e else e))
  split
  ·cases e <;> first|exact .refl _|exact .lock
  ·exact .refl _
theorem ZHr{h H:List TEnt}{d:TD}{q:TD×List Nat}(hq:ZAK h d=some q)(hL:lk H=lk h)(hl:∀j,j∈q.2→∀e,h[j]? =some e→H[j]? =some (Zki e)):
 (q.1.er (lk H)).size=(d.er (lk H)).size∧∀σ:Sg,Ok σ→σ.H=erH H→∀us,repD σ (d.er (lk H)) us→repD σ (q.1.er (lk H)) us:=by
 have other:∀x:TD,(q.1.er (lk H)).size=(q.1.er (lk H)).size∧∀σ:Sg,Ok σ→σ.H=erH H→∀us,repD σ (q.1.er (lk H)) us→repD σ (q.1.er (lk H)) us:=λ_=>⟨rfl,λ_ _ _ _ r=>r⟩
 have row:∀(j:Nat)(v:Nat)(s:Nat)(e:yc)(xs:List Pl)(T:Ty)(l:List T.den),(TD.rw j).er (lk H)=.rv j v s 0 xs.length→(erH H)[j]? =some (.row v s false e (.p (.arr xs.length s xs)))→s=T.size→xs=l.map T.enc→
  ((TD.p (.sl none T l)).er (lk H)).size=((TD.rw j).er (lk H)).size∧∀σ:Sg,Ok σ→σ.H=erH H→∀us,repD σ ((TD.rw j).er (lk H)) us→repD σ ((TD.p (.sl none T l)).er (lk H)) us:=by
  intro j v s e xs T l e1 e2 e3 e4;subst e3;rw[e1];refine⟨rfl,λσ ok hH us r=> ?_⟩;have dr:=DeepR.rvp (H:=σ.H) (lo:=0) (n:=xs.length) (by rw[hH];exact e2) (by omega);rw[List.drop_zero,List.take_length] at dr;have:=Ztl ok dr us r;rw[TD.er,TP.pe, ←e4];simpa[repD] using this
 unfold ZAK at hq;split at hq
 ·rename_i j;split at hq
  ·rename_i T np v st e pre hd;cases hq;have hH:=hl j (yat ..) _ hd;have hr:=Zd3 (q:=(v.length,T.size,pre.length+0)) (x:=Zki (.rowN T np v st e pre [])) hH rfl;refine row j v.length T.size e (pre.map T.enc) T pre (by rw[hr.1,yz];rfl) ?_ rfl rfl;rw[ZV hH,yz];simp only[Zki,TEnt.er,List.map_nil,ybh,List.length_nil,Nat.add_zero]
  ·rename_i T v st e l hd;cases hq;have hH:=hl j (yat ..) _ hd;have hr:=Zbg (T:=T) (v:=v) (st:=false) (e:=e) (l:=l) hH;refine row j v.length T.size e (l.map T.enc) T l (by rw[hr.1,yz]) ?_ rfl rfl;rw[ZV hH,yz];rfl
  ·cases hq
 ·cases hq;exact other d
theorem ZwT{h H:List TEnt}:∀{ds:List TD}{q:List TD×List Nat},ZtR h ds=some q→lk H=lk h→(∀j,j∈q.2→∀e,h[j]? =some e→H[j]? =some (Zki e))→
 Dv.sizes (TD.ers (lk H) q.1)=Dv.sizes (TD.ers (lk H) ds)∧∀σ:Sg,Ok σ→σ.H=erH H→∀us,repDs σ (TD.ers (lk H) ds) us→repDs σ (TD.ers (lk H) q.1) us
 |[],q,hq,hL,hl=>by cases hq;exact⟨rfl,λ_ _ _ _ r=>r⟩
 |d::r,q,hq,hL,hl=>by
  simp only[ZtR] at hq;split at hq
  ·rename_i q1 q2 h1 h2;cases hq;obtain⟨a1,a2⟩:=ZHr h1 hL (λj hj=>hl j (List.mem_append_left _ hj));obtain⟨b1,b2⟩:=ZwT h2 hL (λj hj=>hl j (List.mem_append_right _ hj));refine⟨by simp only[TD.ers,Dv.sizes];rw[a1,b1],λσ ok hH us rr=> ?_⟩;simp only[TD.ers,repDs] at rr ⊢;obtain⟨u1,u2,e1,e2,e3⟩:=rr;exact⟨u1,u2,e1,a2 σ ok hH _ e2,b2 σ ok hH _ e3⟩
  ·cases hq
theorem Zrb{t:Tmp}{a:List TD}{h:List TEnt}{K:Kh O}(k:ZtS t a h K=some out):
 ∃a' h',K a' h'=some out∧a'.length=a.length∧X7 (erH h) (erH h')∧∀(σ:Sg)(act:Act),RepT σ (TD.ers (lk h) a) act→RepT σ (TD.ers (lk h') a') act:=by
 unfold ZtS at k;split at k
 ·rename_i id hid;split at k
  ·rename_i ds st hd;obtain⟨q,h1,k⟩:=Zra k
   have hd2:(ZbM q.2 h)[id]? =some (.var (.agg ds) st):=by
    rw[Zh8,hd];show some (if q.2.contains id=true then Zki (.var (.agg ds) st) else .var (.agg ds) st)=_
    split <;> rfl
   have hL0:lk (ZbM q.2 h)=lk h:=ZwS _ _;have hL:lk ((ZbM q.2 h).set id (.var (.agg q.1) st))=lk (ZbM q.2 h):=Ve hd2 rfl rfl;refine⟨_,_,k,rfl,(ZHk (ZFw q.2 h)).trans ?_,λσ act rr=>by rw[hL,hL0];exact rr⟩;rw[Xj hL];have hj:(erH (ZbM q.2 h))[id]? =some (.var (.agg (TD.ers (lk (ZbM q.2 h)) ds)) st):=by rw[ZV hd2];rfl
   obtain⟨c1,c2⟩:=ZwT (H:=ZbM q.2 h) h1 hL0 (λj hj e he=>by
    rw[Zh8,he];show some (if q.2.contains j=true then Zki e else e)=_
    rw[if_pos (by simpa using hj)])
   refine ZJz hj ?_ λσ ok hH us r=> ?_
   ·exact c1
   ·simp only[TD.er,repD] at r ⊢;exact c2 σ ok hH us r
  ·cases k
 ·cases k
theorem ZAN{L:Lk}{ds:List TD}{i:Nat}{x y:TD}(h:ds[i]? =some x)(e:y.er L=x.er L):TD.ers L (ds.set i y)=TD.ers L ds:=by
 rw[ZI,ZI,List.map_set,e];apply ybl;intro k;by_cases hk:i=k
 ·subst hk;rw[yco (by rw[yz];exact(yp.1 h).1),yah,h];rfl
 ·rw[List.getElem?_set_ne hk]
theorem ZoE{t:Tmp}{i:Nat}{a:List TD}{h:List TEnt}{K:Kh O}(k:Zsz t i a h K=some out):
 ∃a' h',K a' h'=some out∧a'.length=a.length∧X7 (erH h) (erH h')∧∀(σ:Sg)(act:Act),RepT σ (TD.ers (lk h) a) act→RepT σ (TD.ers (lk h') a') act:=by
 unfold Zsz at k;split at k
 ·rename_i j hj;split at k
  ·rename_i ds st hd;split at k
   ·rename_i id v s n hi;split at k
    ·rename_i T w st' e l hr;obtain⟨c,k2⟩:=Za k;clear k;rw[yi,yi,decide_eq_true_eq,decide_eq_true_eq,decide_eq_true_eq] at c;obtain⟨rfl,rfl,rfl⟩:=c;have hL:lk (h.set j (.var (.agg (ds.set i (.rw id))) st))=lk h:=Ve hd rfl rfl
     have he:(TD.rw id).er (lk h)=(TD.rv id w.length T.size 0 l.length).er (lk h):=by
      refine(Zyi (v:=w) (s:=T.size) (N:=l.length) ?_).1;unfold ZX lk;dsimp only;rw[hr];rfl
     refine⟨_,_,k2,rfl, ?_,λσ act rr=>by rw[hL];exact rr⟩
     have e2:erH (h.set j (.var (.agg (ds.set i (.rw id))) st))=erH h:=by
      rw[Xj hL];show(erH h).set j (.var (.agg (TD.ers (lk h) (ds.set i (.rw id)))) st)=erH h;rw[ZAN hi he];apply ybl;intro q;by_cases hq:j=q
      ·subst hq;have hjl:(erH h)[j]? =some (.var (.agg (TD.ers (lk h) ds)) st):=by rw[ZV hd];rfl
       rw[yco (yp.1 hjl).1,hjl]
      ·rw[List.getElem?_set_ne hq]
     rw[e2];exact X7.refl _
    ·cases k
   ·cases k
  ·cases k
 ·cases k
theorem ZAO{h:List TEnt}{id:Nat}{T:Ty}{w:List Unit}{st:Bool}{e:yc}{l:List T.den}(hr:h[id]? =some (.rowT T w st e l)):(TD.rw id).er (lk h)=(TD.rv id w.length T.size 0 l.length).er (lk h):=by
 refine(Zyi (v:=w) (s:=T.size) (N:=l.length) ?_).1;unfold ZX lk;dsimp only;rw[hr];rfl
theorem ZvE{t:Tmp}{a:List TD}{h:List TEnt}{K:Kh O}(k:ZtT t a h K=some out):
 ∃a' h',K a' h'=some out∧a'.length=a.length∧X7 (erH h) (erH h')∧∀(σ:Sg)(act:Act),RepT σ (TD.ers (lk h) a) act→RepT σ (TD.ers (lk h') a') act:=by
 unfold ZtT at k;split at k
 ·rename_i id v s n hi;split at k
  ·rename_i T w st' e l hr;obtain⟨c,k2⟩:=Za k;clear k;rw[yi,yi,decide_eq_true_eq,decide_eq_true_eq,decide_eq_true_eq] at c;obtain⟨rfl,rfl,rfl⟩:=c;exact⟨_,_,k2,List.length_set,X7.refl _,λσ act rr=>by rw[ZAN hi (ZAO hr)];exact rr⟩
  ·cases k
 ·cases k
theorem ZvF{t:Tmp}{a:List TD}{h:List TEnt}{K:Kh O}(k:ZtU t a h K=some out):
 ∃a' h',K a' h'=some out∧a'.length=a.length∧X7 (erH h) (erH h')∧∀(σ:Sg)(act:Act),RepT σ (TD.ers (lk h) a) act→RepT σ (TD.ers (lk h') a') act:=by
 unfold ZtU at k;split at k
 ·rename_i j hj;split at k
  ·rename_i id v s n st hd;split at k
   ·rename_i T w st' e l hr;obtain⟨c,k2⟩:=Za k;clear k;rw[yi,yi,decide_eq_true_eq,decide_eq_true_eq,decide_eq_true_eq] at c;obtain⟨rfl,rfl,rfl⟩:=c;have hL:lk (h.set j (.var (.rw id) st))=lk h:=Ve hd rfl rfl;refine⟨_,_,k2,rfl, ?_,λσ act rr=>by rw[hL];exact rr⟩
    have e2:erH (h.set j (.var (.rw id) st))=erH h:=by
     rw[Xj hL];show(erH h).set j (.var ((TD.rw id).er (lk h)) st)=erH h;rw[ZAO hr];apply ybl;intro q;by_cases hq:j=q
     ·subst hq;have hjl:(erH h)[j]? =some (.var ((TD.rv id w.length T.size 0 l.length).er (lk h)) st):=by rw[ZV hd];rfl
      rw[yco (yp.1 hjl).1,hjl]
     ·rw[List.getElem?_set_ne hq]
    rw[e2];exact X7.refl _
   ·cases k
  ·cases k
 ·cases k
theorem ZD1:∀{l:List Dv}{i:Nat}{d e:Dv},l[i]? =some d→Wk d e→WkL l (l.set i e)
 |[],_,_,_,h,_=>by simp at h
 |x::r,0,d,e,h,k=>by
  simp only[ybk,yj] at h;subst h
  exact .cons k (WkL.refl r)
 |x::r,i+1,d,e,h,k=>by
  simp only[yav] at h;exact .cons (Wk.refl x) (ZD1 h k)
theorem ZHs{L:Lk}:∀{ds:List TD}{i:Nat}{d e:TD},ds[i]? =some d→(TD.ers L ds)[i]? =some (d.er L)∧TD.ers L (ds.set i e)=(TD.ers L ds).set i (e.er L)
 |[],_,_,_,h=>by simp at h
 |x::r,0,d,e,h=>by
  simp only[ybk,yj] at h;subst h
  exact⟨rfl,rfl⟩
 |x::r,i+1,d,e,h=>by
  simp only[yav] at h;obtain⟨h1,h2⟩:=ZHs (e:=e) h;exact⟨h1,by show x.er L::TD.ers L (r.set i e)=_;rw[h2];rfl⟩
theorem ZCI{t:Tmp}{i:Nat}{T:Ty}{a:List TD}{h:List TEnt}{K:Kh O}(k:ZHp t i T a h K=some out):
 ∃a' h',K a' h'=some out∧a'.length=a.length∧X7 (erH h) (erH h')∧∀(σ:Sg)(act:Act),RepT σ (TD.ers (lk h) a) act→RepT σ (TD.ers (lk h') a') act:=by
 unfold ZHp at k;split at k
 ·rename_i j hj;split at k
  ·rename_i ds st hd;split at k
   ·rename_i x hx;obtain⟨y,h1,k⟩:=yf.1 k;have hL:lk (h.set j (.var (.agg (ds.set i (.p (.v T y)))) st))=lk h:=Ve hd rfl rfl;refine⟨_,_,k,rfl, ?_,λσ act rr=>by rw[hL];exact rr⟩;rw[Xj hL];have hjl:(erH h)[j]? =some (.var (.agg (TD.ers (lk h) ds)) st):=by rw[ZV hd];rfl
    obtain⟨e1,e2⟩:=ZHs (L:=lk h) (e:=.p (.v T y)) hx;refine ZHk (WkH.set_at hjl (WkE.var ?_));show Wk (.agg (TD.ers (lk h) ds)) (.agg (TD.ers (lk h) (ds.set i (.p (.v T y)))));rw[e2];exact WkL.agg (ZD1 e1 (Wk.p (Zz7 h1)))
   ·cases k
  ·cases k
 ·cases k
theorem Wk.melt{n s:Nat}{xs:List Pl}:Wk (.p (.arr n s xs)) (.arr n s (xs.map Dv.p)):=⟨rfl,rfl,λσ vs r=>by
 simp only[repD,repC] at r ⊢;exact⟨by rw[yz];exact r.1,λx hx=>by obtain⟨y,hy,rfl⟩:=List.mem_map.1 hx;exact r.2.1 y hy,ZfR.2 r.2.2⟩⟩
theorem ZAP{t:Tmp}{a:List TD}{h:List TEnt}{K:Kh O}(k:ZCH t a h K=some out):
 ∃a' h',K a' h'=some out∧a'.length=a.length∧X7 (erH h) (erH h')∧∀(σ:Sg)(act:Act),RepT σ (TD.ers (lk h) a) act→RepT σ (TD.ers (lk h') a') act:=by
 unfold ZCH at k;split at k
 ·rename_i j hj;split at k
  ·rename_i n s xs st hd;have hL:lk (h.set j (.var (.arr n s (xs.map TD.p)) st))=lk h:=Ve hd rfl rfl;refine⟨_,_,k,rfl, ?_,λσ act rr=>by rw[hL];exact rr⟩;rw[Xj hL];have hjl:(erH h)[j]? =some (.var (.p (.arr n s (TP.pes xs))) st):=by rw[ZV hd];rfl
   refine ZHk (WkH.set_at hjl (WkE.var ?_));show Wk (.p (.arr n s (TP.pes xs))) (.arr n s (TD.ers (lk h) (xs.map TD.p)))
   have e:TD.ers (lk h) (xs.map TD.p)=(TP.pes xs).map Dv.p:=by
    rw[ZI,VG,yax,yax];rfl
   rw[e];exact Wk.melt
  ·exact⟨_,_,k,rfl,X7.refl _,λ_ _ r=>r⟩
 ·exact⟨_,_,k,rfl,X7.refl _,λ_ _ r=>r⟩
theorem Zrc{z:Int}{t:Tmp}{a:List TD}{h:List TEnt}{K:Kh O}(ha:a.getD t .junk=.p (.v (.int .i64) z)):∀{ks:List Nat},Zyu z t a h K ks=some out→K a h=some out
 |[],k=>by cases k
 |n::r,k=>by
  unfold Zyu at k;split at k
  ·rename_i e;have e:z=(n:Int):=by simpa using e
   rw[ZeS (by rw[ha,e])] at k;exact k
  ·exact Zrc ha k
theorem Zyz{t:Tmp}{ks:List Nat}{a:List TD}{h:List TEnt}{K:Kh O}(k:Zyv t ks a h K=some out):
 ∃a' h',K a' h'=some out∧a'.length=a.length∧X7 (erH h) (erH h')∧∀(σ:Sg)(act:Act),RepT σ (TD.ers (lk h) a) act→RepT σ (TD.ers (lk h') a') act:=by
 unfold Zyv at k;split at k
 ·rename_i z hz;exact⟨_,_,Zrc hz k,rfl,X7.refl _,λ_ _ r=>r⟩
 ·cases k
theorem ZHt{g:Option GOp}{a:List TD}{h:List TEnt}{K:Kh O}(k:ghO g a h K=some out):
 ∃a' h',K a' h'=some out∧a'.length=a.length∧X7 (erH h) (erH h')∧∀(σ:Sg)(act:Act),RepT σ (TD.ers (lk h) a) act→RepT σ (TD.ers (lk h') a') act:=by
 unfold ghO at k;split at k
 ·exact⟨_,_,k,rfl,X7.refl _,λ_ _ r=>r⟩
 ·rename_i g
  cases g with
  |rows t path T e np=>exact ZAL k
  |focus t U e=>exact Zyy k
  |done t=>exact Zrb k
  |fresh t i=>exact ZoE k
  |rowt t path T e=>exact ZAM k
  |freshS t=>exact ZvE k
  |freshV t=>exact ZvF k
  |freshDone t i=>
   obtain⟨a1,h1,k,l1,g1,r1⟩:=ZoE (K:=λa h=>ZtS t a h K) k;obtain⟨a2,h2,k,l2,g2,r2⟩:=Zrb k
   exact⟨a2,h2,k,l2.trans l1,g1.trans g2,λσ act r=>r2 σ act (r1 σ act r)⟩
  |any t i T=>exact ZCI k
  |melt t=>exact ZAP k
  |split t ks=>exact Zyz k
  |nn t=>
   replace k:ZLe t a h K=some out:=k
   unfold ZLe at k;split at k
   ·exact⟨_,_,k,rfl,X7.refl _,λ_ _ r=>r⟩
   ·cases k
end
end Go.Ev
end
section
namespace Go.Ev
section
variable{P:yg}
theorem ZAQ{x y:Code}{ts ts1 ts2:List Dv}{H H1 H2:List Ent}{ex:Ex}(r1:X3 P x ts H .normal ts1 H1)(r2:X3 P y ts1 H1 ex ts2 H2):X3 P (.seq x y) ts H ex ts2 H2:=by
 intro σ a ok hH hrep;refine wp_seq (wp_mono (r1 σ a ok hH hrep) ?_);rintro e a' w' ⟨rfl,σ1,rfl,e1,to1,ok1,hrep1⟩;refine wp_mono (r2 σ1 a' ok1 e1 hrep1) ?_;rintro e a'' w'' ⟨rfl,σ2,rfl,e2,to2,ok2,hrep2⟩;exact⟨rfl,σ2,rfl,e2,to1.trans to2,ok2,hrep2⟩
theorem ZwU{x y:Code}{ts ts1:List Dv}{H H1:List Ent}{ex:Ex}(hne:ex≠ .normal)(r1:X3 P x ts H ex ts1 H1):X3 P (.seq x y) ts H ex ts1 H1:=by
 intro σ a ok hH hrep;refine wp_seq (wp_mono (r1 σ a ok hH hrep) ?_);rintro e a' w' ⟨rfl,hq⟩
 cases ex with
 |normal=>exact absurd rfl hne
 |exit id=>exact⟨rfl,hq⟩
 |ret=>exact⟨rfl,hq⟩
theorem ZlK{c:Operand}{x y:Code}{ts ts1:List Dv}{H H1:List Ent}{ex:Ex}{b:Bool}(hc:Zv P ts 0 c=.p (.bool b))(r1:X3 P (if b then x else y) ts H ex ts1 H1):X3 P (.cond c x y) ts H ex ts1 H1:=by
 intro σ a ok hH hrep;have hv:=Zn (P:=P) hrep 0 c;rw[hc] at hv;cases b
 ·exact wp_cond_false (Yn hv) (r1 σ a ok hH hrep)
 ·exact wp_cond_true (Yn hv) (r1 σ a ok hH hrep)
def ZyA(id:Nat):Ex→Ex
 |.exit i=>if i=id then .normal else .exit i
 |ex=>ex
theorem ZCJ{id:Nat}{body:Code}{ts ts1:List Dv}{H H1:List Ent}{ex:Ex}(r1:X3 P body ts H ex ts1 H1):X3 P (.block id body) ts H (ZyA id ex) ts1 H1:=by
 intro σ a ok hH hrep;refine wp_block (wp_mono (r1 σ a ok hH hrep) ?_);rintro e a' w' ⟨rfl,hq⟩
 cases ex with
 |normal=>exact⟨rfl,hq⟩
 |exit id'=>
  simp only[Ex.to,Exit.inBlock,ZyA];split
  ·exact⟨rfl,hq⟩
  ·exact⟨rfl,hq⟩
 |ret=>exact⟨rfl,hq⟩
theorem ZCK{body:Code}{ts ts1:List Dv}{H H1:List Ent}{ex:Ex}(r1:X3 P body ts H ex ts1 H1):X3 P (.scope body) ts H ex ts1 H1:=by
 intro σ a ok hH hrep;refine wp_scope_straight (wp_mono (r1 σ a ok hH hrep) ?_);rintro e a' w' ⟨rfl,hq⟩;cases ex <;> exact⟨rfl,hq⟩
theorem ZFx{ts:List Dv}{H:List Ent}:X3 P .skip ts H .normal ts H:=λσ a ok hH hrep=>wp_skip ⟨rfl,σ,rfl,hH,To.refl σ,ok,hrep⟩
theorem ZCL{n:Nat}{ts:List Dv}{H:List Ent}:X3 P (.label n) ts H .normal ts H:=λσ a ok hH hrep=>wp_label ⟨rfl,σ,rfl,hH,To.refl σ,ok,hrep⟩
theorem ZFy{n:Nat}{ts:List Dv}{H:List Ent}:X3 P (.exit n) ts H (.exit n) ts H:=λσ a ok hH hrep=>wp_exit ⟨rfl,σ,rfl,hH,To.refl σ,ok,hrep⟩
theorem ZHu{ts:List Dv}{H:List Ent}:X3 P .ret ts H .ret ts H:=λσ a ok hH hrep=>wp_ret ⟨rfl,σ,rfl,hH,To.refl σ,ok,hrep⟩
theorem ZFz{c:Code}{ts ts1:List Dv}{H H1:List Ent}{ex:Ex}(keep:List Nat)(r:X3 P c ts H ex ts1 H1):X3 P c ts H ex (ZQ keep 0 ts1) H1:=by
 intro σ a ok hH hrep;refine wp_mono (r σ a ok hH hrep) ?_;rintro e a' w' ⟨rfl,σ1,rfl,e1,to1,ok1,hrep1⟩;exact⟨rfl,σ1,rfl,e1,to1,ok1,ZaB keep hrep1⟩
def ZAR(n0:Nat)(sl:Slots)(es:List ESh)(a:List TD)(h:List TEnt):Option (List TV):=
 if once (yv n0++[]) then(X6 h (yv n0++[]) (yv n0++[])).bind λh2=>(TD.rns (toIds (yv n0++[])) (ZiZ (sl.map (·.1)) 0 a)).bind λa2=>
  (Sh.mts (lk h2) (shs sl a.length) a2).bind λq=>(ESh.mts (lk h2) es h2).bind λw=>some (q.2++w.2)
 else none
theorem ZCM{n0:Nat}{sl:Slots}{es:List ESh}{a:List TD}{h:List TEnt}{vs:List TV}(k:ZAR n0 sl es a h=some vs):
 ∃a3 h3,Vt a.length sl es vs=some (a3,h3)∧∀{c:Code}{ts:List Dv}{H:List Ent}{ex:Ex},H.length=n0→X3 P c ts H ex (TD.ers (lk h) a) (erH h)→X3 P c ts H ex (TD.ers (lk h3) a3) (erH h3):=by
 unfold ZAR at k;split at k
 ·rename_i ho;obtain⟨h2,h1,k⟩:=yf.1 k;obtain⟨a2,e2,k⟩:=yf.1 k;obtain⟨q,e3,k⟩:=yf.1 k;obtain⟨w,e4,k⟩:=yf.1 k;cases k;obtain⟨g1,g2⟩:=Zhf e4;have hc:∀id t,ZX (lk h2) id t none=ZX (lk w.1) id t none:=λid t=>by rw[g2]
  refine⟨q.1,w.1, ?_,λ{c ts H ex}hl r=> ?_⟩
  ·unfold Vt;rw[mts_fills _ _ _ e3];have:=Q8 e4 [];rw[ybh] at this;rw[yb,this];rfl
  ·have r1:=ZFz (sl.map (·.1)) r;rw[←ZoB] at r1;have r2:=ZFa [] [] r1 (by rw[hl];exact ho) (by rw[hl];exact X0 (QO h1) h1) (by rw[hl];exact rns_er (QO h1) _ _ e2);exact ZwE r2 (mts_wk hc _ _ _ e3) (ZlH hc e4)
 ·cases k
theorem ZCN{n0:Nat}{sl:Slots}{es:List ESh}{a:List TD}{h:List TEnt}{vs:List TV}(hn:h.length=n0)(k:ZAR n0 sl es a h=some vs):
 ∃a3 h3,Vt a.length sl es vs=some (a3,h3)∧∀(σ:Sg)(act:Act),Ok σ→σ.H=erH h→RepT σ (TD.ers (lk h) a) act→∃σ':Sg,σ'.w=σ.w∧σ'.H=erH h3∧To σ σ'∧Ok σ'∧RepT σ' (TD.ers (lk h3) a3) act:=by
 subst hn;unfold ZAR at k;split at k
 ·rename_i ho;obtain⟨h2,h1,k⟩:=yf.1 k;obtain⟨a2,e2,k⟩:=yf.1 k;obtain⟨q,e3,k⟩:=yf.1 k;obtain⟨w,e4,k⟩:=yf.1 k;cases k;obtain⟨g1,g2⟩:=Zhf e4;have hc:∀id t,ZX (lk h2) id t none=ZX (lk w.1) id t none:=λid t=>by rw[g2]
  refine⟨q.1,w.1, ?_,λσ act ok hH hrep=> ?_⟩
  ·unfold Vt;rw[mts_fills _ _ _ e3];have:=Q8 e4 [];rw[ybh] at this;rw[yb,this];rfl
  ·have r1:=ZaB (sl.map (·.1)) hrep;rw[←ZoB] at r1
   have hin:subEnts σ.H (yv σ.H.length++[]) (yv σ.H.length++[])=some (erH h2):=by
    rw[hH,ZM];exact X0 (QO h1) h1
   have ho':once (yv σ.H.length++[])=true:=by rw[hH,ZM];exact ho
   have e2':Dv.rns (toIds (yv σ.H.length++[])) (TD.ers (lk h) (ZiZ (sl.map (·.1)) 0 a))=some (TD.ers (lk h2) a2):=by
    rw[hH,ZM];exact rns_er (QO h1) _ _ e2
   have r2:=ZzY (Zh4 hin) e2' r1;have to1:=Zsr ok (To.refl σ) ho' hin;have ok1:=Zsq ok ho' hin;obtain⟨to2,ok2⟩:=Zn6 (σ:=ZmB σ (yv σ.H.length++[]) (erH h2)) ok1 (H':=erH w.1) (ZlH hc e4);exact⟨{ ZmB σ (yv σ.H.length++[]) (erH h2) with H:=erH w.1},rfl,rfl,to1.trans to2,ok2,(mts_wk hc _ _ _ e3).repT (r2.to to2.leaf)⟩
 ·cases k
def ZLf(L:Lk):ESh→TEnt→Option TEnt
 |.rowN _ _ _ _,.rowM u np v st e pre mid post=>(ZK1 L u mid).map λy=>.rowN u np v st e (pre++[y]) post
 |_,x=>some x
def ZHv(L:Lk):List ESh→List TEnt→Option (List TEnt)
 |[],h=>some h
 |_::_,[]=>some []
 |s::r,x::h=>match ZLf L s x,ZHv L r h with
  |some y,some ys=>some (y::ys)
  |_,_=>none
theorem ZJA{L:Lk}{s:ESh}{x y:TEnt}(h:ZLf L s x=some y):lkE (some y)=lkE (some x)∧WkE (x.er L) (y.er L):=by
 unfold ZLf at h;split at h
 ·rename_i u np v st e pre mid post;obtain⟨c,h1,rfl⟩:=Zb h;refine⟨?_,ZDP (ZDM h1)⟩;simp only[lkE,yr,yad,List.length_nil];rw[ycc,Nat.add_comm (0+1)]
 ·cases h;exact⟨rfl,.refl _⟩
theorem ZD2{L:Lk}:∀{es:List ESh}{h h':List TEnt},ZHv L es h=some h'→h'.length=h.length∧(∀j:Nat,lkE (h'[j]?)=lkE (h[j]?))∧WkH (h.map (TEnt.er L)) (h'.map (TEnt.er L))
 |[],h,h',k=>by cases k;exact⟨rfl,λ_=>rfl,WkH.refl _⟩
 |_::_,[],h',k=>by cases k;exact⟨rfl,λ_=>rfl,WkH.refl _⟩
 |s::r,x::h,h',k=>by
  simp only[ZHv] at k;split at k
  ·rename_i y ys h1 h2;cases k;obtain⟨a1,a2⟩:=ZJA h1;obtain⟨b1,b2,b3⟩:=ZD2 h2;refine⟨by simp[b1],λj=> ?_,.cons a2 b3⟩
   cases j with
   |zero=>exact a1
   |succ j=>exact b2 j
  ·cases k
theorem ZD3{es:List ESh}{h h':List TEnt}(k:ZHv (lk h) es h=some h'):h'.length=h.length∧lk h'=lk h∧WkH (erH h) (erH h'):=by
 obtain⟨a,b,c⟩:=ZD2 k;have e:lk h'=lk h:=funext b;refine⟨a,e, ?_⟩;unfold erH;rw[e];exact c
def ZyB(n0:Nat)(sl:Slots)(es:List ESh)(a:List TD)(h:List TEnt):Option (List TV):=(ZHv (lk h) es h).bind λh=>ZAR n0 sl es a h
theorem Zp7{n0:Nat}{sl:Slots}{es:List ESh}{a:List TD}{h:List TEnt}{vs:List TV}(k:ZyB n0 sl es a h=some vs):
 ∃a3 h3,Vt a.length sl es vs=some (a3,h3)∧∀{c:Code}{ts:List Dv}{H:List Ent}{ex:Ex},H.length=n0→X3 P c ts H ex (TD.ers (lk h) a) (erH h)→X3 P c ts H ex (TD.ers (lk h3) a3) (erH h3):=by
 obtain⟨h1,k1,k2⟩:=yf.1 k;obtain⟨e1,e2,e3⟩:=ZD3 k1;obtain⟨a3,h3,g1,g2⟩:=ZCM (P:=P) k2;refine⟨a3,h3,g1,λhl r=>g2 hl ?_⟩;rw[e2];exact ZwE r (WkL.refl _) e3
theorem ZwV{n0:Nat}{sl:Slots}{es:List ESh}{a:List TD}{h:List TEnt}{vs:List TV}(hn:h.length=n0)(k:ZyB n0 sl es a h=some vs):
 ∃a3 h3,Vt a.length sl es vs=some (a3,h3)∧∀(σ:Sg)(act:Act),Ok σ→σ.H=erH h→RepT σ (TD.ers (lk h) a) act→∃σ':Sg,σ'.w=σ.w∧σ'.H=erH h3∧To σ σ'∧Ok σ'∧RepT σ' (TD.ers (lk h3) a3) act:=by
 obtain⟨h1,k1,k2⟩:=yf.1 k;obtain⟨e1,e2,e3⟩:=ZD3 k1;obtain⟨a3,h3,g1,g2⟩:=ZCN (by rw[e1];exact hn) k2;refine⟨a3,h3,g1,λσ act ok hH hr=> ?_⟩;obtain⟨to,ok'⟩:=Zn6 ok (H':=erH h1) (by rw[hH];exact e3);obtain⟨σ2,q1,q2,q3,q4,q5⟩:=g2 { σ with H:=erH h1} act ok' rfl (by rw[e2];exact hr.to to.leaf);exact⟨σ2,q1,q2,to.trans q3,q4,q5⟩
structure Lp where
 sl:Slots
 es:List ESh
 I:List Ty
 xs:List XSh
 L:Ty.dens I→Option (XSh.sum xs)
def Lp.Is(P:yg)(n:Nat)(c:Code)(lp:Lp):Prop:=
 ∀v o,lp.L v=some o→∀s,Vt n lp.sl lp.es (ofD lp.I v)=some s→∀e vs s',ZAB lp.xs o e vs→Vt n e.sl e.es vs=some s'→
  X3 P c (TD.ers (lk s.2) s.1) (erH s.2) e.ex (TD.ers (lk s'.2) s'.1) (erH s'.2)
abbrev Lp.Ok(P:yg)(n:Nat)(body:Code)(lp:Lp):Prop:=lp.Is P n (.loop body)
structure FI where
 hi:HI:={}
 lp:List (Nat×Lp):=[]
 bk:List (Nat×Lp):=[]
 gh:List (Nat×GOp):=[]
 un:Nat:=0
def Code.nl:Code→Nat
 |.seq a b=>Code.nl a+Code.nl b
 |.cond _ a b=>Code.nl a+Code.nl b
 |.block _ a=>Code.nl a
 |.scope a=>Code.nl a
 |.loop a=>Code.nl a+1
 |_=>0
def Code.ns:Code→Nat
 |.seq a b=>Code.ns a+Code.ns b+1
 |.cond _ a b=>Code.ns a+Code.ns b
 |.block _ a=>Code.ns a
 |.scope a=>Code.ns a
 |.loop a=>Code.ns a
 |_=>0
theorem ZaK:∀c:Code,(ZD c).length=Code.nl c
 |.seq a b=>by simp only[ZD,yr,ZaK a,ZaK b,Code.nl]
 |.cond _ a b=>by simp only[ZD,yr,ZaK a,ZaK b,Code.nl]
 |.block _ a=>by simp only[ZD,ZaK a,Code.nl]
 |.scope a=>by simp only[ZD,ZaK a,Code.nl]
 |.loop a=>by simp only[ZD,yad,ZaK a,Code.nl]
 |.skip=>rfl
 |.region _ _ _=>rfl
 |.rangeFunc _ _ _ _=>rfl
 |.exit _=>rfl
 |.ret=>rfl
 |.label _=>rfl
 |.goto _=>rfl
 |.refuse _=>rfl
def ZsA{O:Type}(step:List TD→List TEnt→Kc O→Option O):Nat→List TD→List TEnt→Kc O→Option O
 |0,_,_,_=>none
 |k+1,a,h,K=>step a h λex a' h'=>match ex with
  |.normal=>ZsA step k a' h' K
  |ex=>K ex a' h'
theorem Zrd{O:Type}{body:Code}{N:Nat}{step:List TD→List TEnt→Kc O→Option O}
 (hs:∀(a:List TD)(h:List TEnt)(K:Kc O)(out:O),a.length=N→step a h K=some out→∃ex a' h',K ex a' h'=some out∧a'.length=N∧X3 P body (TD.ers (lk h) a) (erH h) ex (TD.ers (lk h') a') (erH h')):
 ∀(k:Nat)(a:List TD)(h:List TEnt)(K:Kc O)(out:O),a.length=N→ZsA step k a h K=some out→∃ex a' h',K ex a' h'=some out∧a'.length=N∧Zwz P body (TD.ers (lk h) a) (erH h) ex (TD.ers (lk h') a') (erH h')
 |0,_,_,_,_,_,k=>by cases k
 |n+1,a,h,K,out,hN,k=>by
  unfold ZsA at k;obtain⟨ex,a1,h1,k1,k2,k3⟩:=hs _ _ _ _ hN k;split at k1
  ·obtain⟨ex2,a2,h2,k4,k5,k6⟩:=Zrd hs n a1 h1 K out k2 k1;exact⟨ex2,a2,h2,k4,k5,ZwB [] k3 k6⟩
  ·rename_i hne;exact⟨_,a1,h1,k1,k2,ZwA hne k3⟩
def Zp8(m:Nat)(a:List TD)(h:List TEnt):List (Nat×Lp)→Option (Σ bk:Lp,Ty.dens bk.I)
 |[]=>none
 |q::r=>if Nat.beq q.1 m=true then match (ZyB h.length q.2.sl q.2.es a h).bind (toD q.2.I) with
   |some v=>some ⟨q.2,v⟩
   |none=>Zp8 m a h r
  else Zp8 m a h r
theorem Zf6{m:Nat}{a:List TD}{h:List TEnt}{b:Σ bk:Lp,Ty.dens bk.I}:∀{l:List (Nat×Lp)},Zp8 m a h l=some b→(m,b.1)∈l∧∃vs,ZyB h.length b.1.sl b.1.es a h=some vs∧toD b.1.I vs=some b.2
 |[],k=>by cases k
 |q::r,k=>by
  unfold Zp8 at k;split at k
  ·rename_i hm;split at k
   ·rename_i v hv;cases k;have e:=Nat.eq_of_beq_eq_true hm;refine⟨?_,yf.1 hv⟩;rw[←e];exact yat ..
   ·obtain⟨h1,h2⟩:=Zf6 k;exact⟨yau _ h1,h2⟩
  ·obtain⟨h1,h2⟩:=Zf6 k;exact⟨yau _ h1,h2⟩
def evT{O:Type}(P:yg)(fi:FI)(specs:Sp P):Code→Nat→Nat→List TD→List TEnt→Kc O→Option O
 |.skip,_,_,a,h,K=>K .normal a h
 |.label _,_,_,a,h,K=>K .normal a h
 |.region _ ops draw,_,_,a,h,K=>if draw=true then ZK9 P fi.hi specs ops a h λa' h'=>K .normal a' h' else if ZLc ops=true then ZCy P fi.hi specs ops (ops.toList.take (ops.size - 5)) a h λa' h' _=>ZDZ P (ops.toList.drop (ops.size - 5)) a' h' λa' h'=>K .normal a' h'
  else ZCy P fi.hi specs ops ops.toList a h λa' h' _=>K .normal a' h'
 |.seq x y,n,m,a,h,K=>ghO (fi.gh.lookup m) a h λa h=>match Zp8 m a h fi.bk with
  |none=>evT P fi specs x n (m+1) a h λex a' h'=>match ex with
   |.normal=>evT P fi specs y (n+Code.nl x) (m+1+Code.ns x) a' h' K
   |ex=>K ex a' h'
  |some bk=>(bk.1.L bk.2).bind λo=>xT a.length bk.1.xs o λex a' h'=>match ex with
   |.normal=>evT P fi specs y (n+Code.nl x) (m+1+Code.ns x) a' h' K
   |ex=>K ex a' h'
 |.cond c x y,n,m,a,h,K=>((arT P a 0 c).bind TD.boolT).bind λb=>match c with
  |.tmp t=>if b=true then evT P fi specs x n m (a.set t (ZvD true)) h K else evT P fi specs y (n+Code.nl x) (m+Code.ns x) (a.set t (ZvD false)) h K
  |_=>if b=true then evT P fi specs x n m a h K else evT P fi specs y (n+Code.nl x) (m+Code.ns x) a h K
 |.block id body,n,m,a,h,K=>evT P fi specs body n m a h λex a' h'=>K (ZyA id ex) a' h'
 |.loop body,n,m,a,h,K=>match Zp8 n a h fi.lp with
  |some lp=>(lp.1.L lp.2).bind λo=>xT a.length lp.1.xs o K
  |none=>ZsA (λa h K=>evT P fi specs body (n+1) m a h K) fi.un a h K
 |.scope body,n,m,a,h,K=>evT P fi specs body n m a h K
 |.exit id,_,_,a,h,K=>K (.exit id) a h
 |.ret,_,_,a,h,K=>K .ret a h
 |_,_,_,_,_,_=>none
def X8:Code→List Code
 |.seq a b=>a::(X8 a++X8 b)
 |.cond _ a b=>X8 a++X8 b
 |.block _ a=>X8 a
 |.scope a=>X8 a
 |.loop a=>X8 a
 |_=>[]
theorem ZaL:∀c:Code,(X8 c).length=Code.ns c
 |.seq a b=>by simp only[X8,yad,yr,ZaL a,ZaL b,Code.ns]
 |.cond _ a b=>by simp only[X8,yr,ZaL a,ZaL b,Code.ns]
 |.block _ a=>by simp only[X8,ZaL a,Code.ns]
 |.scope a=>by simp only[X8,ZaL a,Code.ns]
 |.loop a=>by simp only[X8,ZaL a,Code.ns]
 |.skip=>rfl
 |.region _ _ _=>rfl
 |.rangeFunc _ _ _ _=>rfl
 |.exit _=>rfl
 |.ret=>rfl
 |.label _=>rfl
 |.goto _=>rfl
 |.refuse _=>rfl
def Zi0(P:yg)(fi:FI)(N:Nat)(c:Code)(m:Nat):Prop:=∀(k:Nat)(x:Code),(X8 c)[k]? =some x→∀bk,(m+k,bk)∈fi.bk→bk.Is P N x
theorem ZHw{fi:FI}{N:Nat}{x y c:Code}{m:Nat}(e:X8 c=X8 x++X8 y)(h:Zi0 P fi N c m):Zi0 P fi N x m:=λk b hk=>h k b (by
 rw[e,yan (yp.1 hk).1];exact hk)
theorem ZFA{fi:FI}{N:Nat}{x y c:Code}{m:Nat}(e:X8 c=X8 x++X8 y)(h:Zi0 P fi N c m):Zi0 P fi N y (m+Code.ns x):=λk b hk lp hl=>h (Code.ns x+k) b (by
 rw[e,yap (by rw[ZaL];omega),ZaL];rw[show Code.ns x+k - Code.ns x=k by omega];exact hk) lp (by rw[←ycc];exact hl)
theorem ZHx{fi:FI}{N:Nat}{x y:Code}{m:Nat}(h:Zi0 P fi N (.seq x y) m):Zi0 P fi N x (m+1):=λk b hk lp hl=>h (k+1) b (by
 rw[X8,yav,yan (yp.1 hk).1];exact hk) lp (by rw[show m+(k+1)=m+1+k by omega];exact hl)
theorem ZAS{fi:FI}{N:Nat}{x y:Code}{m:Nat}(h:Zi0 P fi N (.seq x y) m):Zi0 P fi N y (m+1+Code.ns x):=λk b hk lp hl=>h (Code.ns x+k+1) b (by
 rw[X8,yav,yap (by rw[ZaL];omega),ZaL];rw[show Code.ns x+k - Code.ns x=k by omega];exact hk) lp (by rw[show m+(Code.ns x+k+1)=m+1+Code.ns x+k by omega];exact hl)
def Zkj(P:yg)(fi:FI)(N:Nat)(c:Code)(n:Nat):Prop:=∀(k:Nat)(b:Code),(ZD c)[k]? =some (.loop b)→∀lp,(n+k,lp)∈fi.lp→lp.Ok P N b
theorem ZAT{fi:FI}{N:Nat}{x y c:Code}{n:Nat}(e:ZD c=ZD x++ZD y)(h:Zkj P fi N c n):Zkj P fi N x n:=λk b hk=>h k b (by
 rw[e,yan (yp.1 hk).1];exact hk)
theorem ZwW{fi:FI}{N:Nat}{x y c:Code}{n:Nat}(e:ZD c=ZD x++ZD y)(h:Zkj P fi N c n):Zkj P fi N y (n+Code.nl x):=λk b hk lp hl=>h (Code.nl x+k) b (by
 rw[e,yap (by rw[ZaK];omega),ZaK];rw[show Code.nl x+k - Code.nl x=k by omega];exact hk) lp (by rw[←ycc];exact hl)
theorem X9{O:Type}{fi:FI}{specs:Sp P}{out:O}{N:Nat}(ok:SpOk specs):∀(c:Code)(n m:Nat)(a:List TD)(h:List TEnt)(K:Kc O),a.length=N→Zkj P fi N c n→Zi0 P fi N c m→evT P fi specs c n m a h K=some out→
 ∃ex a' h',K ex a' h'=some out∧a'.length=N∧X3 P c (TD.ers (lk h) a) (erH h) ex (TD.ers (lk h') a') (erH h')
 |.skip,n,m,a,h,K,hN,hl,hb0,k=>⟨_,_,_,k,hN,ZFx⟩
 |.label _,n,m,a,h,K,hN,hl,hb0,k=>⟨_,_,_,k,hN,ZCL⟩
 |.exit _,n,m,a,h,K,hN,hl,hb0,k=>⟨_,_,_,k,hN,ZFy⟩
 |.ret,n,m,a,h,K,hN,hl,hb0,k=>⟨_,_,_,k,hN,ZHu⟩
 |.region id ops draw,n,m,a,h,K,hN,hl,hb0,k=>by
  unfold evT at k
  cases draw with
  |true=>
   rw[if_pos rfl] at k;obtain⟨a',h',k1,k2,k3⟩:=ZFq ok k
   exact⟨_,_,_,k1,by rw[k2,hN],k3 id⟩
  |false=>
   rw[if_neg (by decide)] at k;split at k
   ·obtain⟨a',h',k1,k2,k3⟩:=ZFv ok k;exact⟨_,_,_,k1,by rw[k2,hN],k3 id⟩
   ·obtain⟨a',h',hs,k1,k2,k3⟩:=ZFr ok k
    exact⟨_,_,_,k1,by rw[k2,hN],k3 id⟩
 |.seq x y,n,m,a,h,K,hN,hl,hb0,k=>by
  have hx:=ZAT (x:=x) (y:=y) rfl hl;have hy:=ZwW (x:=x) (y:=y) rfl hl;unfold evT at k;obtain⟨a0,h0,k,hN0,gst⟩:=ZHt k;rw[hN] at hN0
  suffices key:∃ex a' h',K ex a' h'=some out∧a'.length=N∧X3 P (.seq x y) (TD.ers (lk h0) a0) (erH h0) ex (TD.ers (lk h') a') (erH h') by
   obtain⟨ex,a',h',g1,g2,g3⟩:=key;exact⟨ex,a',h',g1,g2,ZJy gst g3⟩
  clear gst;have hN:=hN0;clear hN0;split at k
  ·obtain⟨ex,a1,h1,k1,k2,k3⟩:=X9 ok x _ _ _ _ _ hN hx (ZHx hb0) k;split at k1
   ·obtain⟨ex2,a2,h2,k4,k5,k6⟩:=X9 ok y _ _ _ _ _ k2 hy (ZAS hb0) k1;exact⟨_,_,_,k4,k5,ZAQ k3 k6⟩
   ·rename_i hne;exact⟨_,_,_,k1,k2,ZwU hne k3⟩
  ·rename_i bkv hbk;obtain⟨bk,v⟩:=bkv;obtain⟨hbk,vs,j1,j2⟩:=Zf6 hbk;dsimp only at hbk j1 j2 k;obtain⟨o,j3,k⟩:=yf.1 k;obtain⟨e,vs',s,g1,g2,g3⟩:=Zsx k;obtain⟨a3,h3,j4,j5⟩:=ZwV rfl j1;have hok:=hb0 0 x rfl bk (by rw[Nat.add_zero];exact hbk);rw[hN] at g2 j4;have e1:=Zca _ _ _ j2;have r:=hok v o j3 (a3,h3) (by rw[e1];exact j4) e vs' s g1 g2
   have k3:X3 P x (TD.ers (lk h0) a0) (erH h0) e.ex (TD.ers (lk s.2) s.1) (erH s.2):=by
    intro σ act okσ hH hrep;obtain⟨σ1,p1,p2,p3,p4,p5⟩:=j5 σ act okσ hH hrep;rw[←p1];refine wp_mono (r σ1 act p4 p2 p5) ?_;rintro e' a' w' ⟨rfl,σ2,q1,q2,q3,q4,q5⟩;exact⟨rfl,σ2,q1,q2,p3.trans q3,q4,q5⟩
   split at g3
   ·rename_i he;rw[he] at k3;obtain⟨ex2,a2,h2,k4,k5,k6⟩:=X9 ok y _ _ _ _ _ (Zhg g2) hy (ZAS hb0) g3;exact⟨_,_,_,k4,k5,ZAQ k3 k6⟩
   ·rename_i hne
    exact⟨_,_,_,g3,Zhg g2,ZwU hne k3⟩
 |.cond c x y,n,m,a,h,K,hN,hl,hb0,k=>by
  have hx:=ZAT (x:=x) (y:=y) rfl hl;have hy:=ZwW (x:=x) (y:=y) rfl hl;have bx:=ZHw (x:=x) (y:=y) rfl hb0;have bY:=ZFA (x:=x) (y:=y) rfl hb0;unfold evT at k;obtain⟨b,k0,k⟩:=yf.1 k;obtain⟨d,k00,k01⟩:=yf.1 k0;have hc:=Zr (L:=lk h) k00;rw[Zhc k01] at hc;split at k
  ·rename_i t;cases k00;have e:=ZAH k01;split at k
   ·rename_i hb;subst hb;rw[ZeS e] at k;obtain⟨ex,a1,h1,k1,k2,k3⟩:=X9 ok x _ _ _ _ _ hN hx bx k;exact⟨_,_,_,k1,k2,ZlK hc k3⟩
   ·rename_i hb;have hb:b=false:=by simpa using hb
    subst hb;rw[ZeS e] at k;obtain⟨ex,a1,h1,k1,k2,k3⟩:=X9 ok y _ _ _ _ _ hN hy bY k;exact⟨_,_,_,k1,k2,ZlK hc k3⟩
  ·split at k
   ·rename_i hb;subst hb;obtain⟨ex,a1,h1,k1,k2,k3⟩:=X9 ok x _ _ _ _ _ hN hx bx k;exact⟨_,_,_,k1,k2,ZlK hc k3⟩
   ·rename_i hb;have hb:b=false:=by simpa using hb
    subst hb;obtain⟨ex,a1,h1,k1,k2,k3⟩:=X9 ok y _ _ _ _ _ hN hy bY k
    exact⟨_,_,_,k1,k2,ZlK hc k3⟩
 |.block id body,n,m,a,h,K,hN,hl,hb0,k=>by
  unfold evT at k;obtain⟨ex,a1,h1,k1,k2,k3⟩:=X9 ok body _ _ _ _ _ hN hl hb0 k
  exact⟨_,_,_,k1,k2,ZCJ k3⟩
 |.scope body,n,m,a,h,K,hN,hl,hb0,k=>by
  unfold evT at k;obtain⟨ex,a1,h1,k1,k2,k3⟩:=X9 ok body _ _ _ _ _ hN hl hb0 k
  exact⟨_,_,_,k1,k2,ZCK k3⟩
 |.loop body,n,m,a,h,K,hN,hl,hb0,k=>by
  unfold evT at k;split at k
  ·rename_i lpv hlp;obtain⟨lp,v⟩:=lpv;obtain⟨hlp,vs,j1,j2⟩:=Zf6 hlp;dsimp only at hlp j1 j2 k;obtain⟨o,j3,k⟩:=yf.1 k;obtain⟨e,vs',s,g1,g2,g3⟩:=Zsx k;obtain⟨a3,h3,j4,j5⟩:=ZwV rfl j1;have hok:=hl 0 body rfl lp (by rw[Nat.add_zero];exact hlp);rw[hN] at g2 j4;have e1:=Zca _ _ _ j2;have r:=hok v o j3 (a3,h3) (by rw[e1];exact j4) e vs' s g1 g2;refine⟨_,_,_,g3,Zhg g2, ?_⟩;intro σ act okσ hH hrep;obtain⟨σ1,p1,p2,p3,p4,p5⟩:=j5 σ act okσ hH hrep;rw[←p1];refine wp_mono (r σ1 act p4 p2 p5) ?_;rintro e' a' w' ⟨rfl,σ2,q1,q2,q3,q4,q5⟩;exact⟨rfl,σ2,q1,q2,p3.trans q3,q4,q5⟩
  ·have hl1:Zkj P fi N body (n+1):=λk b hk lp hl2=>hl (k+1) b (by rw[ZD,yav];exact hk) lp (by rw[show n+(k+1)=n+1+k by omega];exact hl2);obtain⟨ex,a1,h1,k1,k2,k3⟩:=Zrd (λa h K out hN k=>X9 ok body _ _ _ _ K hN hl1 hb0 k) _ _ _ _ _ hN k
   exact⟨ex,a1,h1,k1,k2,ZwC k3⟩
 |.rangeFunc _ _ _ _,_,_,_,_,_,_,_,_,k=>by cases k
 |.goto _,_,_,_,_,_,_,_,_,k=>by cases k
 |.refuse _,_,_,_,_,_,_,_,_,k=>by cases k
end
end Go.Ev
end
section
namespace Go.Ev
def Zc{I X:Type}(step:I→Option (I⊕X)):Nat→I→Option X
 |0,_=>none
 |n+1,i=>(step i).bind λr=>match r with
  |.inl j=>Zc step n j
  |.inr x=>some x
theorem ZHy:∃n:Nat,n=18446744073709551616:=⟨_,rfl⟩
noncomputable def fuel:Nat:=Classical.choose ZHy
theorem Zd5:fuel=18446744073709551616:=Classical.choose_spec ZHy
section
variable{P:yg}
def ZHz(n0:Nat)(ex:Ex)(a:List TD)(h:List TEnt):(l:List XSh)→Option (XSh.sum l)
 |[]=>none
 |[e]=>if ex=e.ex then(ZyB n0 e.sl e.es a h).bind λvs=>toD e.ty vs else none
 |e::f::r=>match (if ex=e.ex then(ZyB n0 e.sl e.es a h).bind λvs=>toD e.ty vs else none) with
  |some x=>some (Sum.inl x:Ty.dens e.ty⊕XSh.sum (f::r))
  |none=>(ZHz n0 ex a h (f::r)).map λx=>(Sum.inr x:Ty.dens e.ty⊕XSh.sum (f::r))
theorem Zp9{n0:Nat}{ex:Ex}{a:List TD}{h:List TEnt}:∀{l:List XSh}{o:XSh.sum l},ZHz n0 ex a h l=some o→∀e vs,ZAB l o e vs→ex=e.ex∧ZyB n0 e.sl e.es a h=some vs
 |[],_,k,_,_,_=>by cases k
 |[e],o,k,x,vs,hs=>by
  obtain⟨rfl,rfl⟩:=hs;have k:(if ex=x.ex then(ZyB n0 x.sl x.es a h).bind λvs=>toD x.ty vs else none)=some o:=k
  split at k
  ·rename_i he;obtain⟨ws,h1,h2⟩:=yf.1 k;exact⟨he,by rw[h1,Zca _ _ _ h2]⟩
  ·cases k
 |e::f::r,o,k,x,vs,hs=>by
  simp only[ZHz] at k;split at k
  ·rename_i y hy;cases k;obtain⟨rfl,rfl⟩:=hs;split at hy
   ·rename_i he;obtain⟨ws,h1,h2⟩:=yf.1 hy;exact⟨he,by rw[h1,Zca _ _ _ h2]⟩
   ·cases hy
  ·obtain⟨y,h1,h2⟩:=Zb k;subst h2;exact Zp9 h1 x vs hs
def ZAU(P:yg)(fi:FI)(specs:Sp P)(body:Code)(n N:Nat)(sl:Slots)(es:List ESh)(I:List Ty)(xs:List XSh):Ty.dens I→Option (Ty.dens I⊕XSh.sum xs):=λv=>
 (Vt N sl es (ofD I v)).bind λs=>evT P fi specs body (n+1) 0 s.1 s.2 λex a h=>match ex with
   |.normal=>(ZyB s.2.length sl es a h).bind λvs=>(toD I vs).map .inl
   |ex=>(ZHz s.2.length ex a h xs).map .inr
theorem ZHA{fi:FI}{specs:Sp P}{body:Code}{n N:Nat}{sl:Slots}{es:List ESh}{I:List Ty}{xs:List XSh}(ok:SpOk specs)(hl:Zkj P fi N body (n+1))(hb0:Zi0 P fi N body 0):
 ∀(f:Nat)(v:Ty.dens I)(o:XSh.sum xs),Zc (ZAU P fi specs body n N sl es I xs) f v=some o→∀s,Vt N sl es (ofD I v)=some s→∀e vs s',ZAB xs o e vs→Vt N e.sl e.es vs=some s'→
  Zwz P body (TD.ers (lk s.2) s.1) (erH s.2) e.ex (TD.ers (lk s'.2) s'.1) (erH s'.2)
 |0,_,_,h,_,_,_,_,_,_,_=>by cases h
 |f+1,v,o,h,s,hs,e,vs,s',hx,hs'=>by
  unfold Zc at h;obtain⟨r,h1,h2⟩:=yf.1 h;unfold ZAU at h1;rw[hs,yb] at h1;obtain⟨ex,a,h3,k1,k2,k3⟩:=X9 ok body _ _ _ _ _ (Zhg hs) hl hb0 h1;split at k1
  ·obtain⟨ws,g1,k1⟩:=yf.1 k1;obtain⟨w,g2,rfl⟩:=Zb k1;obtain⟨a3,h4,g3,g4⟩:=Zp7 (P:=P) g1;rw[k2] at g3;have r1:=g4 (ZM _) k3;have:=ZHA ok hl hb0 f w o h2 (a3,h4) (by rw[Zca _ _ _ g2];exact g3) e vs s' hx hs';exact ZwB [] r1 this
  ·rename_i hne;obtain⟨w,g2,rfl⟩:=Zb k1;cases h2;obtain⟨g5,g6⟩:=Zp9 g2 e vs hx;obtain⟨a3,h4,g3,g4⟩:=Zp7 (P:=P) g6;rw[k2,hs'] at g3;cases g3;subst g5;exact ZwA hne (g4 (ZM _) k3)
theorem ZMc{fi:FI}{specs:Sp P}{body:Code}{n N:Nat}{sl:Slots}{es:List ESh}{I:List Ty}{xs:List XSh}{step:Ty.dens I→Option (Ty.dens I⊕XSh.sum xs)}(f:Nat)(ok:SpOk specs)(hl:Zkj P fi N body (n+1))(hb0:Zi0 P fi N body 0)
 (h:∀v,ZAU P fi specs body n N sl es I xs v=step v):Lp.Ok P N body ⟨sl,es,I,xs,Zc step f⟩:=by
 intro v o hL s hs e vs s' hx hs';have e1:ZAU P fi specs body n N sl es I xs=step:=funext h;subst e1;exact ZwC (ZHA ok hl hb0 f v o hL s hs e vs s' hx hs')
theorem Zcu:∀(c:Code)(k:Nat)(b:Code),(ZD c)[k]? =some (.loop b)→∀j x,(ZD b)[j]? =some x→(ZD c)[k+1+j]? =some x
 |.seq x y,k,b,h,j,z,hz=>by
  simp only[ZD] at h ⊢;rcases ybw k (ZD x).length with hl|hl
  ·rw[yan hl] at h;have:=Zcu x k b h j z hz;rw[yan (yp.1 this).1];exact this
  ·rw[yap hl] at h;have:=Zcu y _ b h j z hz;rw[yap (by omega)];rw[show k+1+j - (ZD x).length=k - (ZD x).length+1+j by omega]
   exact this
 |.cond _ x y,k,b,h,j,z,hz=>by
  simp only[ZD] at h ⊢;rcases ybw k (ZD x).length with hl|hl
  ·rw[yan hl] at h;have:=Zcu x k b h j z hz;rw[yan (yp.1 this).1];exact this
  ·rw[yap hl] at h;have:=Zcu y _ b h j z hz;rw[yap (by omega)];rw[show k+1+j - (ZD x).length=k - (ZD x).length+1+j by omega]
   exact this
 |.block _ a,k,b,h,j,z,hz=>Zcu a k b h j z hz
 |.scope a,k,b,h,j,z,hz=>Zcu a k b h j z hz
 |.loop a,k,b,h,j,z,hz=>by
  simp only[ZD] at h ⊢
  cases k with
  |zero=>
   simp only[ybk,yj,Code.loop.injEq] at h;subst h;rw[show 0+1+j=j+1 by omega,yav]
   exact hz
  |succ k=>
   rw[yav] at h;rw[show k+1+1+j=(k+1+j)+1 by omega,yav]
   exact Zcu a k b h j z hz
 |.skip,_,_,h,_,_,_=>by simp[ZD] at h
 |.region _ _ _,_,_,h,_,_,_=>by simp[ZD] at h
 |.rangeFunc _ _ _ _,_,_,h,_,_,_=>by simp[ZD] at h
 |.exit _,_,_,h,_,_,_=>by simp[ZD] at h
 |.ret,_,_,h,_,_,_=>by simp[ZD] at h
 |.label _,_,_,h,_,_,_=>by simp[ZD] at h
 |.goto _,_,_,h,_,_,_=>by simp[ZD] at h
 |.refuse _,_,_,h,_,_,_=>by simp[ZD] at h
def Zre(P:yg)(g:yu)(N:Nat):List (Nat×Lp)→Prop
 |[]=>True
 |q::r=>q.2.Ok P N (Zm P g q.1)∧Zre P g N r
theorem ZlL{g:yu}{N:Nat}:∀{l:List (Nat×Lp)}{n:Nat}{lp:Lp},Zre P g N l→(n,lp)∈l→lp.Ok P N (Zm P g n)
 |[],_,_,_,h=>by cases h
 |q::r,n,lp,hk,h=>by
  rcases List.mem_cons.1 h with h|h
  ·subst h;exact hk.1
  ·exact ZlL hk.2 h
def Wa(P:yg)(g:yu):Code:=
 match P.funcs[g]? with
 |some fn=>fn.body.getD .skip
 |none=>.skip
theorem ZlM{g:yu}{k:Nat}{b:Code}(h:(ZD (Wa P g))[k]? =some (.loop b)):Zm P g k=b:=by
 unfold Zm ZGs;unfold Wa at h;split at h
 ·rename_i fn hf;rw[hf];dsimp only
  cases hb:fn.body with
  |none=>rw[hb] at h;simp[ZD] at h
  |some c=>
   rw[hb] at h;dsimp only[Option.getD] at h ⊢;rw[List.getD_eq_getElem?_getD,h];rfl
 ·simp[ZD] at h
theorem ZD4{g:yu}{fi:FI}{N:Nat}(h:Zre P g N fi.lp):Zkj P fi N (Wa P g) 0:=by
 intro k b hk lp hl;rw[ybb] at hl;rw[←ZlM hk];exact ZlL h hl
theorem ZHB{g:yu}{fi:FI}{N k:Nat}(hk:(ZD (Wa P g))[k]? =some (.loop (Zm P g k)))(h:Zre P g N fi.lp):Zkj P fi N (Zm P g k) (k+1):=by
 intro j b hj lp hl;have:=Zcu _ _ _ hk j _ hj;rw[←ZlM this];exact ZlL h hl
def ZtV(P:yg)(g k:Nat):Bool:=
 match (ZD (Wa P g))[k]? with
 |some (.loop _)=>true
 |_=>false
theorem ZvG{g k:Nat}(h:ZtV P g k=true):(ZD (Wa P g))[k]? =some (.loop (Zm P g k)):=by
 unfold ZtV at h;split at h
 ·rename_i b hb;rw[hb,ZlM hb]
 ·cases h
def Zi1(c:Code)(m:Nat):Code:=((X8 c)[m]?).getD .skip
def ZtW(P:yg)(N:Nat)(c:Code):List (Nat×Lp)→Prop
 |[]=>True
 |q::r=>q.2.Is P N (Zi1 c q.1)∧ZtW P N c r
theorem ZwX{N:Nat}{c:Code}:∀{l:List (Nat×Lp)}{m:Nat}{bk:Lp},ZtW P N c l→(m,bk)∈l→bk.Is P N (Zi1 c m)
 |[],_,_,_,h=>by cases h
 |q::r,m,bk,hk,h=>by
  rcases List.mem_cons.1 h with h|h
  ·subst h;exact hk.1
  ·exact ZwX hk.2 h
theorem ZsB{fi:FI}{N:Nat}{c:Code}(h:ZtW P N c fi.bk):Zi0 P fi N c 0:=by
 intro k x hk bk hl;rw[ybb] at hl;have:=ZwX h hl;unfold Zi1 at this;rw[hk] at this;exact this
def ZMd(P:yg)(fi:FI)(specs:Sp P)(x:Code)(n N:Nat)(sl:Slots)(es:List ESh)(I:List Ty)(xs:List XSh):Ty.dens I→Option (XSh.sum xs):=λv=>
 (Vt N sl es (ofD I v)).bind λs=>evT P fi specs x n 0 s.1 s.2 λex a h=>ZHz s.2.length ex a h xs
theorem Zh9{fi:FI}{specs:Sp P}{g n N:Nat}{x:Code}{sl:Slots}{es:List ESh}{I:List Ty}{xs:List XSh}{L:Ty.dens I→Option (XSh.sum xs)}(ok:SpOk specs)(hl:Zre P g N fi.lp)
 (hx:ZD x=((ZD (Wa P g)).drop n).take (Code.nl x)) (h:∀v,ZMd P fi specs x n N sl es I xs v=L v) (hb:ZtW P N x fi.bk:=by exact True.intro):Lp.Is P N x ⟨sl,es,I,xs,L⟩:=by
 intro v o hL s hs e vs s' hsel hs';have hL:L v=some o:=hL;rw[←h v] at hL;unfold ZMd at hL;have hs:Vt N sl es (ofD I v)=some s:=hs;rw[hs,yb] at hL
 have hlps:Zkj P fi N x n:=by
  intro k b hk lp hlp
  have h1:(ZD (Wa P g))[n+k]? =some (.loop b):=by
   rw[hx,List.getElem?_take] at hk;split at hk
   ·rw[List.getElem?_drop] at hk;exact hk
   ·cases hk
  rw[←ZlM h1];exact ZlL hl hlp
 obtain⟨ex,a,h',k1,k2,k3⟩:=X9 ok x _ _ _ _ _ (Zhg hs) hlps (ZsB hb) hL;obtain⟨g5,g6⟩:=Zp9 k1 e vs hsel;obtain⟨a3,h4,g3,g4⟩:=Zp7 (P:=P) g6;have hs':Vt N e.sl e.es vs=some s':=hs';rw[k2,hs'] at g3;cases g3;subst g5;exact g4 (ZM _) k3
theorem Zh{fi:FI}{specs:Sp P}{g k N:Nat}{sl:Slots}{es:List ESh}{I:List Ty}{xs:List XSh}{step:Ty.dens I→Option (Ty.dens I⊕XSh.sum xs)}(ok:SpOk specs)(hl:Zre P g N fi.lp)(hk:ZtV P g k=true)
 (h:∀v,ZAU P fi specs (Zm P g k) k N sl es I xs v=step v) (hb:ZtW P N (Zm P g k) fi.bk:=by exact True.intro):Lp.Ok P N (Zm P g k) ⟨sl,es,I,xs,Zc step fuel⟩:=
 ZMc fuel ok (ZHB (ZvG hk) hl) (ZsB hb) h
def ZvH{O:Type}(P:yg)(a:List TD)(h:List TEnt):List ResultVar→(List TD→List Hint→Option O)→Option O
 |[],K=>K [] []
 |.tmp t::r,K=>ZvH P a h r λds hs=>K (a.getD t .junk::ds) hs
 |.cell t ty::r,K=>match a.getD t .junk with
  |.ref id path=>(Zq5 h id).bind λd=>gpT (lk h) path d λsub hs _=>if okT P ty (sub.er (lk h))=true then ZvH P a h r λds hs'=>K (sub::ds) (hs++hs') else none
  |_=>none
theorem Zhh{O:Type}{a:List TD}{h:List TEnt}{out:O}:∀(l:List ResultVar)(K:List TD→List Hint→Option O),ZvH P a h l K=some out→∃ds hs C,K ds hs=some out∧AllP C∧∀rest,Zvp P (TD.ers (lk h) a) (erH h) l (hs++rest)=some (C,TD.ers (lk h) ds)
 |[],K,k=>⟨[],[],[],k,trivial,λ_=>rfl⟩
 |.tmp t::r,K,k=>by
  obtain⟨ds,hs,C,k1,k2,k3⟩:=Zhh r _ k;refine⟨_,_,C,k1,k2,λrest=> ?_⟩
  simp only[Zvp,k3 rest,yab,Zom,TD.ers]
 |.cell t ty::r,K,k=>by
  unfold ZvH at k;split at k
  ·rename_i id path hx;obtain⟨d,h1,k⟩:=yf.1 k;obtain⟨st,h2,h3⟩:=ZeN h1;obtain⟨sub,hs,put,C,g1,g2,g3,_⟩:=XA _ _ _ _ k;obtain⟨g4,g5⟩:=Za g1;obtain⟨ds,hs',C',k1,k2,k3⟩:=Zhh r _ g5;refine⟨_,_,C++[Zau path=X5 path]++C',k1,Zk.2 ⟨Zk.2 ⟨g2,(XH _).symm,trivial⟩,k2⟩,λrest=> ?_⟩;unfold Zvp;rw[Zom,hx];dsimp only[TD.er];rw[h3];dsimp only;rw[List.append_assoc,g3 (hs'++rest)];dsimp only;rw[if_pos g4,k3 rest];rfl
  ·cases k
def ZtX:List TD→TD
 |[d]=>d
 |ds=>.tup ds
theorem ZlN{L:Lk}(ds:List TD):(ZtX ds).er L=ZsJ (TD.ers L ds):=by
 match ds with
 |[]=>rfl
 |[d]=>rfl
 |_::_::_=>rfl
def TD.arg(L:Lk):TD→TD
 |.own id nn t c=>.p (.sl nn t (ZX L id t c))
 |.agg ds=>TD.melt L ds
 |d=>d
theorem ZCO{L:Lk}(d:TD):(d.arg L).er L=(d.er L).arg:=by
 cases d <;> first|rfl|exact ZDB _
def ZHC(h:List TEnt)(rs:Sh)(es:List ESh)(n0:Nat)(r:TD):Option (List Nat):=
 let l:=ZK5 h es 0 ((yv n0).map (λi=>(i,i))++Sh.ids rs r)
 ((yv es.length).drop n0).mapM λj=>l.lookup j
def ZJB(h:List TEnt)(n0:Nat)(ds:List TD)(e:XSh):Option (Ty.dens e.ty):=
 match e.sl with
 |[(0,rs)]=>(ZHC h rs e.es n0 (ZtX ds)).bind λkeep=>
  if once (yv n0++keep) then(match Dv.rn (toIds (yv n0++keep)) ((ZtX ds).er (lk h)) with
   |some _=>(ZtX ds).rn (toIds (yv n0++keep))
   |none=>(ZtX (ds.map (TD.arg (lk h)))).rn (toIds (yv n0++keep))).bind λr=>
   (X6 h (yv n0++keep) (yv n0++keep)).bind λh2=>(Sh.mt (lk h2) rs r).bind λq=>(ESh.mts (lk h2) e.es h2).bind λw=>toD e.ty (q.2++w.2)
  else none
 |_=>none
def ZAV(h:List TEnt)(n0:Nat)(ds:List TD):(l:List XSh)→Option (XSh.sum l)
 |[]=>none
 |[e]=>ZJB h n0 ds e
 |e::f::r=>match ZJB h n0 ds e with
  |some x=>some (Sum.inl x:Ty.dens e.ty⊕XSh.sum (f::r))
  |none=>(ZAV h n0 ds (f::r)).map λx=>(Sum.inr x:Ty.dens e.ty⊕XSh.sum (f::r))
theorem ZtY{h:List TEnt}{n0:Nat}{ds:List TD}:∀{l:List XSh}{o:XSh.sum l},ZAV h n0 ds l=some o→∀e vs,ZAB l o e vs→∃x,ZJB h n0 ds e=some x∧vs=ofD e.ty x
 |[],_,k,_,_,_=>by cases k
 |[e],o,k,x,vs,hs=>by
  obtain⟨rfl,rfl⟩:=hs
  exact⟨o,k,rfl⟩
 |e::f::r,o,k,x,vs,hs=>by
  simp only[ZAV] at k;split at k
  ·rename_i y hy;cases k;obtain⟨rfl,rfl⟩:=hs;exact⟨y,hy,rfl⟩
  ·obtain⟨y,h1,h2⟩:=Zb k;subst h2;exact ZtY h1 x vs hs
def fnT(P:yg)(fi:FI)(specs:Sp P)(g:yu)(ps:List Sh)(es:List ESh)(ins:List Ty)(xs:List XSh):Ty.dens ins→Option (XSh.sum xs):=λx=>
 match P.funcs[g]? with
 |some fn=>match fn.body with
  |some c=>(Sh.fills ps (ofD ins x)).bind λq=>(ESh.fills es q.2).bind λw=>if w.2.isEmpty then
    evT P fi specs c 0 0 (q.1++yx (fn.ntmps - q.1.length) .junk) w.1 λex a h=>match ex with
     |.exit _=>none
     |_=>ZvH P a h fn.results.toList λds _=>ZAV h w.1.length ds xs
    else none
  |none=>none
 |none=>none
def Zj(P:yg)(g:yu):Nat:=
 match P.funcs[g]? with
 |some fn=>fn.ntmps
 |none=>0
theorem Zf{fi:FI}{specs:Sp P}{g:yu}{ps:List Sh}{es:List ESh}{ins:List Ty}{xs:List XSh}{M:Ty.dens ins→Option (XSh.sum xs)}(ok:SpOk specs)(hl:Zre P g (Zj P g) fi.lp)(hn:ps.length≤Zj P g)
 (h:∀x,fnT P fi specs g ps es ins xs x=M x) (hb:ZtW P (Zj P g) (Wa P g) fi.bk:=by exact True.intro):Fs.Ok (⟨g,ps,es,ins,xs,M⟩:Fs P):=by
 intro x o hM;have hM:M x=some o:=hM;rw[←h x] at hM;have hl':=ZD4 hl;unfold fnT at hM;split at hM
 ·rename_i fn hf;split at hM
  ·rename_i c hb1;obtain⟨q,h1,hM⟩:=yf.1 hM;obtain⟨w,h2,hM⟩:=yf.1 hM;obtain⟨h3,hM⟩:=Za hM;have hN:Zj P g=fn.ntmps:=by unfold Zj;rw[hf]
   have hc:Wa P g=c:=by unfold Wa;rw[hf];dsimp only;rw[hb1];rfl
   rw[hc,hN] at hl' hb;have hb0:=ZsB hb;rw[hN] at hn
   have hlen:(q.1++yx (fn.ntmps - q.1.length) TD.junk).length=fn.ntmps:=by
    rw[yr,ycm,ZlI h1];omega
   obtain⟨ex,a,hh,k1,k2,k3⟩:=X9 ok c _ _ _ _ _ hlen hl' hb0 hM
   have hex:(ex=.ret∨ex=.normal)∧(ZvH P a hh fn.results.toList λds _=>ZAV hh w.1.length ds xs)=some o:=by
    cases ex with
    |exit _=>cases k1
    |normal=>exact⟨.inr rfl,k1⟩
    |ret=>exact⟨.inl rfl,k1⟩
   obtain⟨hex,k1⟩:=hex;obtain⟨ds,hs,C,g1,g2,g3⟩:=Zhh _ _ k1;refine⟨q.1,q.2,w.1,h1, ?_,λe vs s' hsel hfs=> ?_⟩
   ·rw[h2];have:w.2=[]:=by simpa using h3
    rw[←this]
   obtain⟨o1,g1,hvs⟩:=ZtY g1 e vs hsel;unfold ZJB at g1;split at g1
   case h_2=>cases g1
   rename_i rs hsl;obtain⟨keep,g4,g1⟩:=yf.1 g1;obtain⟨g5,g1⟩:=Za g1;obtain⟨r,g6,g1⟩:=yf.1 g1;obtain⟨e2,g7,g1⟩:=yf.1 g1;obtain⟨z,g8,g1⟩:=yf.1 g1;obtain⟨y,g9,g1⟩:=yf.1 g1;obtain⟨b1,b2⟩:=Zhf g9;have hcc:∀id t,ZX (lk e2) id t none=ZX (lk y.1) id t none:=λid t=>by rw[b2]
   have eo:=Zca _ _ _ g1
   have efill:s'=([z.1],y.1):=by
    rw[hvs,eo,hsl] at hfs;unfold Vt at hfs;rw[show shs [(0,rs)] 1=[rs] from rfl] at hfs
    simp only[Sh.fills,ZlG _ _ _ g8,yb,yab] at hfs;have:=Q8 g9 [];rw[ybh] at this;rw[this] at hfs;exact(ybj hfs).symm
   subst efill;refine⟨z.1,rfl, ?_⟩
   have hfin:fin P fn (TD.ers (lk hh) a) (erH hh) (erH w.1).length keep hs=some (C,r.er (lk e2),erH e2):=by
    unfold fin;have:=g3 [];rw[ybh] at this;rw[this];dsimp only;rw[ZM,g5, ←ZlN,show subEnts (erH hh) _ _=some (erH e2) from X0 (QO g7) g7]
    split at g6
    ·rename_i r0 hr0;have e4:=ZeR (QO g7) _ _ g6;rw[e4]
    ·rename_i hr0;have e4:=ZeR (QO g7) _ _ g6;rw[ZlN,ZI,yax] at e4
     rw[hr0,show(TD.ers (lk hh) ds).map Dv.arg=ds.map (TD.er (lk hh) ∘ TD.arg (lk hh)) by
      rw[ZI,yax];exact ycg λd _=>(ZCO d).symm,e4]
   have hrun:X3 P c (TD.ers (lk w.1) q.1++yx (fn.ntmps - (TD.ers (lk w.1) q.1).length) .junk) (erH w.1) ex (TD.ers (lk hh) a) (erH hh):=by
    have e5:TD.ers (lk w.1) (q.1++yx (fn.ntmps - q.1.length) TD.junk)=TD.ers (lk w.1) q.1++yx (fn.ntmps - (TD.ers (lk w.1) q.1).length) .junk:=by
     rw[Zh5,ZI,ZI,yar,List.map_replicate];rfl
    rw[←e5];exact k3
   exact ZzZ (Zka hf hb1 hrun hex hfin g2) (ZtE hcc _ _ _ g8) (ZlH hcc g9)
  ·cases hM
 ·cases hM
end
theorem Zqa{P:yg}{g:yu}{t:Ty}{xs:List XSh}{MA:Ty.dens [.sl t]→Option (XSh.sum xs)}{MB:Ty.dens []→Option (XSh.sum xs)}(hA:Fs.Ok (⟨g,[.sl true t],[],[.sl t],xs,MA⟩:Fs P))(hB:Fs.Ok (⟨g,[.nil t],[],[],xs,MB⟩:Fs P))
 (h:MB ()=MA ([]:List t.den)):Fs.Ok (⟨g,[.v (.sl t)],[],[.sl t],xs,MA⟩:Fs P):=by
 intro l o hM;have key:∀(l:List t.den),Ty.cast (.sl t) (.sl t) l=some l:=λl=>YP (.sl t) l;obtain⟨a1,R1,H1,f1,f2,f3⟩:=hA l o hM
 have e1:a1=[.p (.sl (some true) t l)]∧R1=[]:=by
  have:Sh.fills [.sl true t] [(⟨.sl t,l⟩:TV)]=some (a1,R1):=f1;simp only[Sh.fills,Sh.fill] at this;rw[key l] at this;have this:some (([.p (.sl (some true) t l)]:List TD),([]:List TV))=some (a1,R1):=this;cases this;exact⟨rfl,rfl⟩
 obtain⟨rfl,rfl⟩:=e1;cases f2;refine⟨[.p (.v (.sl t) l)],[],[], ?_,rfl,λe vs s' hs hf=> ?_⟩
 ·show Sh.fills [.v (.sl t)] [(⟨.sl t,l⟩:TV)]=_;simp only[Sh.fills,Sh.fill];rw[key l];rfl
 ·obtain⟨r,r1,r2⟩:=f3 e vs s' hs hf;refine⟨r,r1, ?_⟩;refine ZDu (xs:=l.map t.enc) r2 λhl=> ?_;have hl:l=[]:=List.map_eq_nil_iff.1 hl;subst hl;obtain⟨a2,R2,H2,g1,g2,g3⟩:=hB () o (by rw[←hM];exact h);cases g1;cases g2;obtain⟨r',r1',r2'⟩:=g3 e vs s' hs hf;rw[r1] at r1';cases r1';exact r2'
def ZtZ(n:Int):Option (List UInt8):=if(decide (0≤n)&&decide (n.toNat≤Zs))=true then some [] else none
theorem ZJC{P:yg}{g:yu}{e:yc}(h:∀n:Nat,n≤Zs→Con P g [.p (.sl (some false) 1 []),.p (.int .i64 (n:Int))] [] (.own 0 none 1 []) [.log 1 e []]):
 Fs.Ok (⟨g,[.nil .u8,.v (.int .i64)],[],[.int .i64],[⟨.ret,[(0,.own 0 .u8)],[.log .u8 e],[.sl .u8]⟩],ZtZ⟩:Fs P):=by
 intro n o hM
 have key:∀(n:Int),ZtZ n=some o→(0≤n∧n.toNat≤Zs)∧([]:List UInt8)=o:=λn hM=>by
  unfold ZtZ at hM;obtain⟨h1,h2⟩:=Za (α:=List UInt8) hM;rw[yi,decide_eq_true_eq,decide_eq_true_eq] at h1;exact⟨h1,ybj h2⟩
 obtain⟨h1,h2⟩:=key n hM;cases h2;refine⟨[.p (.sl (some false) .u8 []),.p (.v (.int .i64) n)],[],[],rfl,rfl,λx vs s' hs hf=> ?_⟩;obtain⟨rfl,rfl⟩:=hs;cases hf;refine⟨_,rfl, ?_⟩;have:=h (Int.toNat n) h1.2;rw[Int.toNat_of_nonneg h1.1] at this;exact this
mutual
theorem ZwY:∀(s:Sh)(vs w:List TV)(q:TD×List TV),s.fill vs=some q→s.fill (vs++w)=some (q.1,q.2++w)
 |.v t,vs,w,q,h=>by
  cases vs with
  |nil=>cases h
  |cons x r=>
   obtain⟨y,h1,rfl⟩:=Zb (show(Ty.cast x.1 t x.2).map (λy=>((TD.p (.v t y),r):TD×List TV))=some q from h)
   show(Ty.cast x.1 t x.2).map (λy=>((TD.p (.v t y),r++w):TD×List TV))=_
   rw[h1];rfl
 |.elem t,vs,w,q,h=>by
  cases vs with
  |nil=>cases h
  |cons x r=>
   obtain⟨y,h1,rfl⟩:=Zb (show(Ty.cast x.1 t x.2).map (λy=>((TD.elem (.v t y),r):TD×List TV))=some q from h)
   show(Ty.cast x.1 t x.2).map (λy=>((TD.elem (.v t y),r++w):TD×List TV))=_
   rw[h1];rfl
 |.sl nn t,vs,w,q,h=>by
  cases vs with
  |nil=>cases h
  |cons x r=>
   obtain⟨y,h1,rfl⟩:=Zb (α:=(Ty.sl t).den) (show(Ty.cast x.1 (.sl t) x.2).map (λ(y:List t.den)=>((TD.p (.sl (some nn) t y),r):TD×List TV))=some q from h)
   show(Ty.cast x.1 (.sl t) x.2).map (λ(y:List t.den)=>((TD.p (.sl (some nn) t y),r++w):TD×List TV))=_
   rw[h1];rfl
 |.nil _,vs,w,q,h=>by cases h;rfl
 |.own _ _,vs,w,q,h=>by cases h;rfl
 |.ref _ _,vs,w,q,h=>by cases h;rfl
 |.mp _,vs,w,q,h=>by cases h;rfl
 |.rw _,vs,w,q,h=>by cases h;rfl
 |.rp j s p,vs,w,q,h=>by
  cases vs with
  |nil=>cases h
  |cons x r=>
   obtain⟨y,h1,rfl⟩:=Zb (α:=Int) (show(Ty.cast x.1 (.int .i64) x.2).map (λ(i:Int)=>((TD.rp j (.ix i.toNat s::p),r):TD×List TV))=some q from h)
   show(Ty.cast x.1 (.int .i64) x.2).map (λ(i:Int)=>((TD.rp j (.ix i.toNat s::p),r++w):TD×List TV))=_
   rw[h1];rfl
 |.view _ _ _ _ _,vs,w,q,h=>by cases h;rfl
 |.fn g l,vs,w,q,h=>by
  simp only[Sh.fill] at h ⊢;obtain⟨y,h1,rfl⟩:=Zb h
  rw[fills_more l vs w y h1];rfl
 |.agg l,vs,w,q,h=>by
  simp only[Sh.fill] at h ⊢;obtain⟨y,h1,rfl⟩:=Zb h
  rw[fills_more l vs w y h1];rfl
 |.arr n s l,vs,w,q,h=>by
  simp only[Sh.fill] at h ⊢;obtain⟨y,h1,rfl⟩:=Zb h
  rw[fills_more l vs w y h1];rfl
 |.tup l,vs,w,q,h=>by
  simp only[Sh.fill] at h ⊢;obtain⟨y,h1,rfl⟩:=Zb h
  rw[fills_more l vs w y h1];rfl
 |.iface t x,vs,w,q,h=>by
  simp only[Sh.fill] at h ⊢;obtain⟨y,h1,rfl⟩:=Zb h
  rw[ZwY x vs w y h1];rfl
 |.ptr0,vs,w,q,h=>by cases h;rfl
 |.fn0,vs,w,q,h=>by cases h;rfl
 |.if0,vs,w,q,h=>by cases h;rfl
 |.map0,vs,w,q,h=>by cases h;rfl
 |.junk,vs,w,q,h=>by cases h;rfl
theorem fills_more:∀(l:List Sh)(vs w:List TV)(q:List TD×List TV),Sh.fills l vs=some q→Sh.fills l (vs++w)=some (q.1,q.2++w)
 |[],vs,w,q,h=>by simp only[Sh.fills] at h;cases h;rfl
 |s::r,vs,w,q,h=>by
  simp only[Sh.fills] at h ⊢;obtain⟨a,h1,h⟩:=yf.1 h;obtain⟨b,h2,rfl⟩:=Zb h;rw[ZwY s vs w a h1,yb,fills_more r a.2 w b h2];rfl
end
theorem ZLg{P:yg}{g:yu}{t:Ty}{e:yc}{rest:List Sh}{i1 i2:List Ty}{xs:List XSh}{M:Ty.dens i2→Option (XSh.sum xs)}(pk:Ty.dens i1→Ty.dens i2)(h:Fs.Ok (⟨g,.own 0 t::rest,[.log t e],i2,xs,M⟩:Fs P))
 (hp:∀x,ofD i2 (pk x)=ofD i1 x++[⟨.sl t,([]:List t.den)⟩]) (hf:∀x,∃a,Sh.fills rest (ofD i1 x)=some (a,[])):Fs.Ok (⟨g,.nil t::rest,[],i1,xs,λx=>M (pk x)⟩:Fs P):=by
 intro x o hM;obtain⟨args,R,H,f1,f2,f3⟩:=h (pk x) o hM;obtain⟨a,ha⟩:=hf x;have f1:Sh.fills (.own 0 t::rest) (ofD i2 (pk x))=some (args,R):=f1;rw[hp x] at f1;simp only[Sh.fills,Sh.fill,yb,fills_more rest _ _ _ ha,yab,yj,Prod.mk.injEq,List.nil_append] at f1;obtain⟨rfl,rfl⟩:=f1;have f2:((Ty.cast (.sl t) (.sl t) ([]:List t.den)).map λ(y:List t.den)=>((TEnt.log t e y,[]):TEnt×List TV)).bind (λa=>(ESh.fills [] a.2).map λb=>(a.1::b.1,b.2))=some (H,[]):=f2;have key:Ty.cast (.sl t) (.sl t) ([]:List t.den)=some ([]:List t.den):=YP (.sl t) ([]:List t.den);rw[key] at f2;cases f2;refine⟨.p (.sl (some false) t [])::a,[],[], ?_,rfl,λx' vs s' hs hf'=> ?_⟩
 ·show Sh.fills (.nil t::rest) (ofD i1 x)=_;simp only[Sh.fills,Sh.fill,yb,ha,yab]
 ·obtain⟨r,r1,r2⟩:=f3 x' vs s' hs hf';refine⟨r,r1, ?_⟩
  have e1:TD.ers (lk [.log t e []]) (.own 0 none t none::a)=.own 0 none t.size []::TD.ers (lk []) a:=by
   have e0:TD.ers (lk [.log t e []]) a=TD.ers (lk []) a:=(ers_cont (λid t'=>Zov (H:=[]) (T:=t) (e:=e) id t') a).symm;rw[TD.ers,e0];congr 1;rw[TD.er,show ZX (lk [.log t e []]) 0 t none=[] from Zew (H:=[])]
   rfl
  have r2:Con P g (TD.ers (lk [.log t e []]) (.own 0 none t none::a)) (erH [.log t e []]) (r.er (lk s'.2)) (erH s'.2):=r2;rw[e1] at r2;exact Zz2 (H:=[]) (e:=e) r2
end Go.Ev
end
section
namespace Go.Ev
universe u
variable{O:Type u}
def Zcv(n:Nat)(k:Nat→O):O:=Nat.rec (motive:=λ_=>O) (k 0) (λm _=>k (Nat.succ m)) n
theorem YY(n:Nat)(k:Nat→O):Zcv n k=k n:=by cases n <;> rfl
def ZeT{α:Type}(f:α→(α→O)→O):List α→(List α→O)→O
 |[],k=>k []
 |a::r,k=>f a λa=>ZeT f r λr=>k (a::r)
theorem WV{α:Type}{f:α→(α→O)→O}(hf:∀a k,f a k=k a):∀(l:List α)(k:List α→O),ZeT f l k=k l
 |[],k=>rfl
 |a::r,k=>by rw[ZeT,hf,WV hf r]
def ZLh(n:Int)(k:Int→O):O:=match n with
 |.ofNat n=>Zcv n λn=>k (.ofNat n)
 |.negSucc n=>Zcv n λn=>k (.negSucc n)
theorem ZJD(n:Int)(k:Int→O):ZLh n k=k n:=by cases n <;> (rw[ZLh,YY])
def Zt0(b:Bool)(k:Bool→O):O:=match b with
 |true=>k true
 |false=>k false
theorem Zhi(b:Bool)(k:Bool→O):Zt0 b k=k b:=by cases b <;> rfl
mutual
def Ty.fo:(t:Ty)→t.den→(t.den→O)→O
 |.int _,x,k=>ZLh x k
 |.u8,x,k=>Zcv (UInt8.toNat x) λn=>k (UInt8.ofNat n)
 |.u32,x,k=>Zcv (UInt32.toNat x) λn=>k (ybn n)
 |.u64,x,k=>Zcv (UInt64.toNat x) λn=>k (yal n)
 |.bool,x,k=>Zt0 x k
 |.str,x,k=>k x
 |.sl t,x,k=>ZeT (Ty.fo t) x k
 |.arr _ t,x,k=>ZeT (Ty.fo t) x k
 |.st fs,x,k=>Ty.fos fs x k
def Ty.fos:(fs:List Ty)→Ty.dens fs→(Ty.dens fs→O)→O
 |[],_,k=>k ()
 |[t],x,k=>Ty.fo t x k
 |t::u::r,x,k=>Ty.fo t x.1 λa=>Ty.fos (u::r) x.2 λb=>k (a,b)
end
mutual
theorem Ty.fo_eq:∀(t:Ty)(x:t.den)(k:t.den→O),t.fo x k=k x
 |.int _,x,k=>ZJD x k
 |.u8,x,k=>by rw[Ty.fo,YY];exact congrArg k UInt8.ofNat_toNat
 |.u32,x,k=>by rw[Ty.fo,YY];exact congrArg k UInt32.ofNat_toNat
 |.u64,x,k=>by rw[Ty.fo,YY];exact congrArg k UInt64.ofNat_toNat
 |.bool,x,k=>Zhi x k
 |.str,x,k=>rfl
 |.sl t,x,k=>by rw[Ty.fo];exact WV (Ty.fo_eq t) x k
 |.arr _ t,x,k=>by rw[Ty.fo];exact WV (Ty.fo_eq t) x k
 |.st fs,x,k=>Ty.fos_eq fs x k
theorem Ty.fos_eq:∀(fs:List Ty)(x:Ty.dens fs)(k:Ty.dens fs→O),Ty.fos fs x k=k x
 |[],_,k=>rfl
 |[t],x,k=>Ty.fo_eq t x k
 |t::u::r,x,k=>by rw[Ty.fos,Ty.fo_eq t];exact Ty.fos_eq (u::r) x.2 _
end
mutual
def TP.fo:TP→(TP→O)→O
 |.v t x,k=>t.fo x λx=>k (.v t x)
 |.sl nn t xs,k=>ZeT t.fo xs λxs=>k (.sl nn t xs)
 |.agg xs,k=>TP.fos xs λxs=>k (.agg xs)
 |.arr n s xs,k=>TP.fos xs λxs=>k (.arr n s xs)
 |.sll nn s xs,k=>TP.fos xs λxs=>k (.sll nn s xs)
 |.iface t x,k=>TP.fo x λx=>k (.iface t x)
 |x,k=>k x
def TP.fos:List TP→(List TP→O)→O
 |[],k=>k []
 |x::r,k=>TP.fo x λx=>TP.fos r λr=>k (x::r)
end
mutual
theorem TP.fo_eq:∀(x:TP)(k:TP→O),x.fo k=k x
 |.v t x,k=>by rw[TP.fo,Ty.fo_eq]
 |.sl nn t xs,k=>by rw[TP.fo,WV (Ty.fo_eq t)]
 |.agg xs,k=>by rw[TP.fo,TP.fos_eq xs]
 |.arr n s xs,k=>by rw[TP.fo,TP.fos_eq xs]
 |.sll nn s xs,k=>by rw[TP.fo,TP.fos_eq xs]
 |.iface t x,k=>by rw[TP.fo,TP.fo_eq x]
 |.ptr0,k=>rfl
 |.fn0,k=>rfl
 |.if0,k=>rfl
 |.map0,k=>rfl
 |.fnv _,k=>rfl
theorem TP.fos_eq:∀(x:List TP)(k:List TP→O),TP.fos x k=k x
 |[],k=>rfl
 |x::r,k=>by rw[TP.fos,TP.fo_eq x,TP.fos_eq r]
end
def ZMe{α:Type}(f:α→(α→O)→O):Option α→(Option α→O)→O
 |none,k=>k none
 |some a,k=>f a λa=>k (some a)
theorem ZJE{α:Type}{f:α→(α→O)→O}(hf:∀a k,f a k=k a):∀(l:Option α)(k:Option α→O),ZMe f l k=k l
 |none,k=>rfl
 |some a,k=>hf a _
mutual
def TD.fo:TD→(TD→O)→O
 |.p x,k=>x.fo λx=>k (.p x)
 |.elem x,k=>x.fo λx=>k (.elem x)
 |.own id nn t c,k=>Zcv id λid=>ZMe (ZeT t.fo) c λc=>k (.own id nn t c)
 |.ref id q,k=>Zcv id λid=>k (.ref id q)
 |.view id q s lo n,k=>Zcv id λid=>Zcv s λs=>Zcv lo λlo=>Zcv n λn=>k (.view id q s lo n)
 |.agg xs,k=>TD.fos xs λxs=>k (.agg xs)
 |.arr n s xs,k=>Zcv n λn=>Zcv s λs=>TD.fos xs λxs=>k (.arr n s xs)
 |.fn f xs,k=>TD.fos xs λxs=>k (.fn f xs)
 |.iface t x,k=>TD.fo x λx=>k (.iface t x)
 |.tup xs,k=>TD.fos xs λxs=>k (.tup xs)
 |.mp id,k=>Zcv id λid=>k (.mp id)
 |.rv id v s lo n,k=>Zcv id λid=>Zcv v λv=>Zcv s λs=>Zcv lo λlo=>Zcv n λn=>k (.rv id v s lo n)
 |.rref id v q,k=>Zcv id λid=>Zcv v λv=>k (.rref id v q)
 |.rw id,k=>Zcv id λid=>k (.rw id)
 |.rp id q,k=>Zcv id λid=>k (.rp id q)
 |.junk,k=>k .junk
def TD.fos:List TD→(List TD→O)→O
 |[],k=>k []
 |x::r,k=>TD.fo x λx=>TD.fos r λr=>k (x::r)
end
mutual
theorem TD.fo_eq:∀(x:TD)(k:TD→O),x.fo k=k x
 |.p x,k=>by rw[TD.fo,TP.fo_eq]
 |.elem x,k=>by rw[TD.fo,TP.fo_eq]
 |.own id nn t c,k=>by rw[TD.fo,YY,ZJE (WV (Ty.fo_eq t))]
 |.ref id q,k=>by rw[TD.fo,YY]
 |.view id q s lo n,k=>by rw[TD.fo,YY,YY,YY,YY]
 |.agg xs,k=>by rw[TD.fo,TD.fos_eq xs]
 |.arr n s xs,k=>by rw[TD.fo,YY,YY,TD.fos_eq xs]
 |.fn f xs,k=>by rw[TD.fo,TD.fos_eq xs]
 |.iface t x,k=>by rw[TD.fo,TD.fo_eq x]
 |.tup xs,k=>by rw[TD.fo,TD.fos_eq xs]
 |.mp id,k=>by rw[TD.fo,YY]
 |.rv id v s lo n,k=>by rw[TD.fo,YY,YY,YY,YY,YY]
 |.rref id v q,k=>by rw[TD.fo,YY,YY]
 |.rw id,k=>by rw[TD.fo,YY]
 |.rp id q,k=>by rw[TD.fo,YY]
 |.junk,k=>rfl
theorem TD.fos_eq:∀(x:List TD)(k:List TD→O),TD.fos x k=k x
 |[],k=>rfl
 |x::r,k=>by rw[TD.fos,TD.fo_eq x,TD.fos_eq r]
end
def TEnt.fo(e:TEnt)(k:TEnt→O):O:=match e with
 |.var d st=>d.fo λd=>Zt0 st λst=>k (.var d st)
 |.log t e xs=>ZeT t.fo xs λxs=>k (.log t e xs)
 |.map tid a b l=>ZeT (λq k=>a.fo q.1 λx=>b.fo q.2 λy=>k (x,y)) l λl=>k (.map tid a b l)
 |.row v s st e d=>Zcv v λv=>Zcv s λs=>Zt0 st λst=>d.fo λd=>k (.row v s st e d)
 |.rowT t v st e xs=>Zt0 st λst=>ZeT t.fo xs λxs=>k (.rowT t v st e xs)
 |.rowN t np v st e a b=>Zt0 st λst=>ZeT t.fo a λa=>ZeT t.fo b λb=>k (.rowN t np v st e a b)
 |.rowM t np v st e a d b=>Zt0 st λst=>ZeT t.fo a λa=>d.fo λd=>ZeT t.fo b λb=>k (.rowM t np v st e a d b)
 |.gone=>k .gone
theorem TEnt.fo_eq(e:TEnt)(k:TEnt→O):e.fo k=k e:=by
 cases e with
 |var d st=>rw[TEnt.fo,TD.fo_eq,Zhi]
 |log t e xs=>rw[TEnt.fo,WV (Ty.fo_eq t)]
 |map tid a b l=>rw[TEnt.fo,WV λq k=>by rw[Ty.fo_eq a,Ty.fo_eq b]]
 |row v s st e d=>rw[TEnt.fo,YY,YY,Zhi,TD.fo_eq]
 |rowT t v st e xs=>rw[TEnt.fo,Zhi,WV (Ty.fo_eq t)]
 |rowN t np v st e a b=>rw[TEnt.fo,Zhi,WV (Ty.fo_eq t),WV (Ty.fo_eq t)]
 |rowM t np v st e a d b=>rw[TEnt.fo,Zhi,WV (Ty.fo_eq t),TD.fo_eq,WV (Ty.fo_eq t)]
 |gone=>rfl
def foS(a:List TD)(h:List TEnt)(k:List TD→List TEnt→O):O:=TD.fos a λa=>ZeT TEnt.fo h λh=>k a h
theorem ZLi(a:List TD)(h:List TEnt)(k:List TD→List TEnt→O):foS a h k=k a h:=by rw[foS,TD.fos_eq,WV TEnt.fo_eq]
def foX:(l:List XSh)→XSh.sum l→(XSh.sum l→O)→O
 |[],x,k=>k x
 |[e],x,k=>Ty.fos e.ty x k
 |e::f::r,x,k=>match (x:Ty.dens e.ty⊕XSh.sum (f::r)) with
  |.inl x=>Ty.fos e.ty x λx=>k (.inl x:Ty.dens e.ty⊕XSh.sum (f::r))
  |.inr x=>foX (f::r) x λx=>k (.inr x:Ty.dens e.ty⊕XSh.sum (f::r))
theorem ZHD:∀(l:List XSh)(x:XSh.sum l)(k:XSh.sum l→O),foX l x k=k x
 |[],x,k=>rfl
 |[e],x,k=>Ty.fos_eq _ _ _
 |e::f::r,x,k=>by
  unfold foX
  cases (x:Ty.dens e.ty⊕XSh.sum (f::r)) with
  |inl x=>exact Ty.fos_eq _ _ _
  |inr x=>exact ZHD (f::r) x _
def Fs.fo{P:yg}(s:Fs P):Fs P:={ s with M:=λx=>Ty.fos s.ins x λx=>(s.M x).bind λo=>foX s.xs o some}
theorem Fs.fo_ok{P:yg}{s:Fs P}(h:s.Ok):s.fo.Ok:=by
 have e:s.fo=s:=by
  unfold Fs.fo
  have:(λx=>Ty.fos s.ins x λx=>(s.M x).bind λo=>foX s.xs o some)=s.M:=by
   funext x;rw[Ty.fos_eq]
   cases s.M x with
   |none=>rfl
   |some o=>exact ZHD _ _ _
  rw[this]
 rw[e];exact h
theorem ZAW{P:yg}:∀{l:List (Fs P)},AllOk l→AllOk (l.map Fs.fo)
 |[],_=>trivial
 |s::r,h=>⟨Fs.fo_ok h.1,ZAW h.2⟩
end Go.Ev
end
section
namespace Go.Ev
def ZyC(h:List TEnt)(n0:Nat)(r:TD):List Nat:=
 let got:=Zq9 h 100000 (r.look++yv n0) []
 ((yv h.length).drop n0).filter got.contains
def Ty.mkFs(f:(T:Ty)→TD→Option T.den):(fs:List Ty)→List TD→Option (Ty.dens fs)
 |[],[]=>some ()
 |[t],[d]=>f t d
 |t::u::r,d::ds=>ZmC (f t d) (Ty.mkFs f (u::r) ds)
 |_,_=>none
def mkL{T:Ty}(f:TD→Option T.den):List TD→Option (List T.den)
 |[]=>some []
 |d::r=>(ZmC (f d) (mkL f r)).map λq=>q.1::q.2
def ZHE(H:List TEnt)(id:Nat)(u:Ty):Option (List u.den):=
 match H[id]? with
 |some (.rowT u' v false e l)=>Ty.castL u' u l
 |_=>none
theorem ZHF{H:List TEnt}{id:Nat}{u:Ty}{l:List u.den}(h:ZHE H id u=some l):DeepR (erH H) ((TD.rw id).er (lk H)) ((Ty.sl u).enc l):=by
 unfold ZHE at h;split at h
 ·rename_i u' v e l' hd;obtain⟨e1,h⟩:=ZE h;subst e1;subst h;have hE:(erH H)[id]? =some (.row v.length u'.size false e (.p (.arr l.length u'.size (l.map u'.enc)))):=ZV hd;have:=DeepR.rvp (lo:=0) (n:=l.length) hE (by omega);rw[(Zbg hd).1,ZBZ];rw[List.drop_zero, ←yz (f:=u'.enc),List.take_length,yz] at this;exact this
 ·cases h
def ZAX(H:List TEnt):Nat→(T:Ty)→TD→Option T.den
 |0,_,_=>none
 |n+1,T,d=>match d with
  |.p x=>TP.to Zkb x T
  |.own id nn t c=>ZGv true t (ZX (lk H) id t c) T
  |.agg ds=>ZGw (λfs=>Ty.mkFs (ZAX H n) fs ds) T
  |.rw id=>match T with
   |.sl u=>ZHE H id u
   |_=>none
  |.rv id v s lo k=>match T with
   |.sl u=>match H[id]? with
    |some (.row w s' false e d)=>if(w==v&&s'==s&&s==u.size)=true then match d with
      |.p x=>x.arow.bind λr=>(Ty.castL r.t u r.l).bind λl=>if decide (lo+k≤r.n)=true then some ((l.drop lo).take k) else none
      |.arr N s2 ds=>if(s2==s&&decide (lo+k≤N))=true then(mkL (ZAX H n u) ds).map λ(l:List u.den)=>(l.drop lo).take k else none
      |_=>none
     else none
    |_=>none
   |_=>none
  |_=>none
theorem ZD5{H:List Ent}{L:Lk}{f:(T:Ty)→TD→Option T.den}(hf:∀T d y,f T d=some y→DeepR H (d.er L) (T.enc y)):∀(fs:List Ty)(ds:List TD)(y:Ty.dens fs),Ty.mkFs f fs ds=some y→
 (TD.ers L ds).length=(Ty.encs fs y).length∧∀(i:Nat)(d:Dv)(z:Pl),(TD.ers L ds)[i]? =some d→(Ty.encs fs y)[i]? =some z→DeepR H d z
 |[],[],y,h=>⟨rfl,λi d z h1 _=>by simp[TD.ers] at h1⟩
 |[],_::_,y,h=>by cases h
 |[t],[],y,h=>by cases h
 |[t],[d],y,h=>by
  refine⟨rfl,λi d' z h1 h2=> ?_⟩
  cases i with
  |zero=>cases h1;cases h2;exact hf t d y h
  |succ i=>simp[TD.ers] at h1
 |[t],_::_::_,y,h=>by cases h
 |t::u::r,[],y,h=>by cases h
 |t::u::r,d::ds,y,h=>by
  obtain⟨h1,h2⟩:=Qa (α:=t.den) (β:=Ty.dens (u::r)) h;obtain⟨h3,h4⟩:=ZD5 hf (u::r) ds y.2 h2;refine⟨by rw[TD.ers,Ty.encs,yad,yad,h3],λi d' z k1 k2=> ?_⟩
  cases i with
  |zero=>cases k1;cases k2;exact hf t d y.1 h1
  |succ i=>exact h4 i d' z k1 k2
theorem ZHG{H:List Ent}{L:Lk}{T:Ty}{f:TD→Option T.den}(hf:∀d y,f d=some y→DeepR H (d.er L) (T.enc y)):∀(ds:List TD)(l:List T.den),mkL f ds=some l→
 (TD.ers L ds).length=(l.map T.enc).length∧∀(i:Nat)(d:Dv)(z:Pl),(TD.ers L ds)[i]? =some d→(l.map T.enc)[i]? =some z→DeepR H d z
 |[],l,h=>by cases h;exact⟨rfl,λi d z h1 _=>by simp[TD.ers] at h1⟩
 |d::ds,l,h=>by
  obtain⟨q,h1,rfl⟩:=Zb h;obtain⟨h1,h2⟩:=Qa h1;obtain⟨h3,h4⟩:=ZHG hf ds q.2 h2;refine⟨by rw[TD.ers,yaf,yad,yad,h3],λi d' z k1 k2=> ?_⟩
  cases i with
  |zero=>cases k1;cases k2;exact hf d q.1 h1
  |succ i=>exact h4 i d' z k1 k2
theorem Zt1{H:List TEnt}:∀(n:Nat)(T:Ty)(d:TD)(y:T.den),ZAX H n T d=some y→DeepR (erH H) (d.er (lk H)) (T.enc y)
 |0,_,_,_,h=>by cases h
 |n+1,T,d,y,h=>by
  unfold ZAX at h;split at h
  ·exact .wk (.p _) (Zz7 h)
  ·rename_i id nn t c;obtain⟨l,_,e1,rfl⟩:=ZpY (nn:=none) h;rw[e1,TD.er];exact .wk (.own id nn t.size _) (PlWk.sl_mk (PlsWk.refl _))
  ·rename_i ds;obtain⟨fs,z,h1,e1⟩:=ZpZ h;rw[e1,TD.er];obtain⟨h2,h3⟩:=ZD5 (λT d y=>Zt1 n T d y) fs ds z h1;exact .agg h2 h3
  ·rename_i id
   cases T with
   |sl u=>exact ZHF h
   |_=>cases h
  ·rename_i id v s lo k;split at h
   ·rename_i u;split at h
    ·rename_i w s' e dd hd;obtain⟨hk,g⟩:=Za h;clear h;simp only[yi,beq_iff_eq] at hk;obtain⟨⟨hk1,hk2⟩,hk3⟩:=hk;have hE:=ZV hd;rw[hk1,hk2,hk3] at hE;split at g
     ·rename_i x;obtain⟨r,p1,g1⟩:=yf.1 g;obtain⟨l,p2,g2⟩:=yf.1 g1;obtain⟨p3,g3⟩:=Za g2;cases g3;obtain⟨rn,rt,rl⟩:=r;obtain⟨e1,p2⟩:=ZE p2;dsimp only at e1 p2 p3;subst e1;subst p2;rw[TEnt.er,TD.er,VI p1] at hE;have:=DeepR.rvp hE (of_decide_eq_true p3);rw[ZBZ,List.map_take,List.map_drop,TD.er,hk3];exact this
     ·rename_i N s2 ds;obtain⟨p1,g1⟩:=Za g;simp only[yi,beq_iff_eq,decide_eq_true_eq] at p1;obtain⟨q1,p1⟩:=p1;obtain⟨l,p2,g2⟩:=Zb g1;subst g2;obtain⟨h2,h3⟩:=ZHG (λd y=>Zt1 n u d y) ds l p2;rw[TEnt.er,TD.er,q1,hk3] at hE;have:=DeepR.rva hE p1 h2 h3;rw[ZBZ,List.map_take,List.map_drop,TD.er,hk3];exact this
     ·cases g
    ·cases h
   ·cases h
  ·cases h
def ZAY:TEnt→TEnt
 |.row v s _ e d=>.row v s false e d
 |.rowT t v _ e l=>.rowT t v false e l
 |e=>e
def Zia(ids:List Nat)(H:List TEnt):List TEnt:=(yv H.length).zipWith (λi e=>if ids.contains i then ZAY e else e) H
theorem ZHH(e:TEnt):lkE (some (ZAY e))=lkE (some e):=by cases e <;> rfl
theorem Zrf(ids:List Nat)(H:List TEnt)(i:Nat):(Zia ids H)[i]? =(H[i]?).map λe=>if ids.contains i then ZAY e else e:=by
 unfold Zia;rw[List.getElem?_zipWith];rcases ybw i H.length with h|h
 ·rw[List.getElem?_range h,yac h];rfl
 ·rw[yao (by simpa using h),yao h];rfl
theorem Zt2(ids:List Nat)(H:List TEnt):lk (Zia ids H)=lk H:=by
 funext i;unfold lk;rw[Zrf]
 cases H[i]? with
 |none=>rfl
 |some e=>
  show lkE (some (if ids.contains i=true then ZAY e else e))=_
  split
  ·exact ZHH e
  ·rfl
theorem ZCP(ids:List Nat)(H:List TEnt):WkH (erH H) (erH (Zia ids H)):=by
 refine ZCA (by rw[ZM,ZM];unfold Zia;simp) λi a b h1 h2=> ?_;unfold erH at h1 h2;rw[yah] at h1 h2;rw[Zt2,Zrf] at h2
 cases he:H[i]? with
 |none=>rw[he] at h1;cases h1
 |some e=>
  rw[he] at h1 h2;cases h1;cases h2;show WkE (e.er (lk H)) (TEnt.er (lk H) (if ids.contains i=true then ZAY e else e))
  split
  ·cases e <;> first|exact .refl _|exact .lock
  ·exact .refl _
def ZCQ:List TEnt→Nat→Bool
 |H,i=>match H[i]? with
  |some (.row _ _ _ _ _)=>true
  |some (.rowT _ _ _ _ _)=>true
  |_=>false
def ZD6(P:yg)(H:List TEnt)(t:yc)(d:TD):Option TD:=
 match d with
 |.p x=>some (.p x)
 |d=>(Zjq P tyD t).bind λT=>(ZAX H 100 T d).map λy=>.p (.v T y)
theorem ZAZ{P:yg}{H:List TEnt}{t:yc}{d e:TD}(h:ZD6 P H t d=some e):DeepP (erH H) (d.er (lk H)) (e.er (lk H)):=by
 unfold ZD6 at h;split at h
 ·cases h;exact .refl _
 ·obtain⟨T,h1,h⟩:=yf.1 h;obtain⟨y,h2,rfl⟩:=Zb h;exact .deep (Zt1 _ _ _ _ h2)
def ZyD(P:yg)(H:List TEnt):List yc→List TD→Option (List TD)
 |[],[]=>some []
 |t::r,d::ds=>match ZD6 P H t d,ZyD P H r ds with
  |some a,some b=>some (a::b)
  |_,_=>none
 |_,_=>none
theorem ZwZ{P:yg}{H:List TEnt}:∀{ts:List yc}{ds es:List TD},ZyD P H ts ds=some es→DeepL (erH H) (TD.ers (lk H) ds) (TD.ers (lk H) es)
 |[],[],es,h=>by cases h;exact .nil
 |[],_::_,es,h=>by cases h
 |_::_,[],es,h=>by cases h
 |t::r,d::ds,es,h=>by
  simp only[ZyD] at h;split at h
  ·rename_i a b h1 h2;cases h;exact .cons (ZAZ h1) (ZwZ h2)
  ·cases h
def ZHI(P:yg)(H:List TEnt)(ts:List yc)(r:TD):Option TD:=
 match ts with
 |[t]=>ZD6 P H t r
 |ts=>match r with
  |.tup ds=>(ZyD P H ts ds).map .tup
  |_=>none
theorem ZHJ{P:yg}{H:List TEnt}{ts:List yc}{r r':TD}(h:ZHI P H ts r=some r'):DeepT (erH H) (r.er (lk H)) (r'.er (lk H)):=by
 unfold ZHI at h;split at h
 ·exact .one (ZAZ h)
 ·split at h
  ·obtain⟨es,h1,rfl⟩:=Zb h;exact .tup (ZwZ h1)
  ·cases h
def ZFB{O:Type}(P:yg)(ts:List yc)(r:TD)(H:List TEnt)(K:TD→List TEnt→Option O):Option O:=
 match ts with
 |[]=>K r H
 |ts=>(ZHI P (Zia ((Zq9 H 100000 r.look []).filter (ZCQ H)) H) ts r).bind λr'=>K r' (Zia ((Zq9 H 100000 r.look []).filter (ZCQ H)) H)
theorem Zw0{O:Type}{P:yg}{ts:List yc}{r:TD}{H:List TEnt}{K:TD→List TEnt→Option O}{out:O}{g:yu}{args:List Dv}{H0:List Ent}(h:ZFB P ts r H K=some out)(hc:Con P g args H0 (r.er (lk H)) (erH H)):
 ∃r' H',K r' H'=some out∧Con P g args H0 (r'.er (lk H')) (erH H'):=by
 unfold ZFB at h;split at h
 ·exact⟨_,_,h,hc⟩
 ·obtain⟨r',h1,h2⟩:=yf.1 h;generalize (Zq9 H 100000 r.look []).filter (ZCQ H)=ids at h1 h2;refine⟨_,_,h2,ZGu hc (ZCP ids H) ?_⟩;have:=ZHJ h1;rw[Zt2] at this ⊢;exact this
def ZFC{O:Type}(h:List TEnt)(n0:Nat)(ds:List TD)(K:TD→List TEnt→Option O):Option O:=
 let keep:=ZyC h n0 (ZtX ds)
 if once (yv n0++keep) then(match Dv.rn (toIds (yv n0++keep)) ((ZtX ds).er (lk h)) with
  |some _=>(ZtX ds).rn (toIds (yv n0++keep))
  |none=>(ZtX (ds.map (TD.arg (lk h)))).rn (toIds (yv n0++keep))).bind λr=>
  (X6 h (yv n0++keep) (yv n0++keep)).bind λh2=>K r h2
 else none
section
variable{P:yg}
def ZHK(P:yg)(his:yu→HI)(l:List (Fs P))(mt:List (yc×String×yu))(ghs:yu→List (Nat×GOp)):Nat→(O:Type)→yu→List TD→List TEnt→(TD→List TEnt→Option O)→Option O
 |0,_,_,_,_,_=>none
 |n+1,O,g,args,H,K=>foS args H λargs H=>match P.funcs[g]? with
  |some fn=>match fn.body with
   |some c=>if decide (args.length≤fn.ntmps)=true then
     evT P { hi:=his g,un:=1000000,gh:=ghs g} ⟨l,ZHK P his l mt ghs n,mt,[]⟩ c 0 0 (args++yx (fn.ntmps - args.length) .junk) H λex a h=>match ex with
      |.exit _=>none
      |_=>ZvH P a h fn.results.toList λds _=>ZFC h H.length ds λr h=>ZFB P (his g).deep r h λr h=>foS [r] h λrs h=>match rs with
       |[r]=>K r h
       |_=>none
     else none
   |none=>none
  |none=>none
theorem ZD7{his:yu→HI}{l:List (Fs P)}{mt:List (yc×String×yu)}{ghs:yu→List (Nat×GOp)}(hl:AllOk l)(hm:MtOk P mt):∀(n:Nat),HdOk P (ZHK P his l mt ghs n)
 |0=>λ_ _ _ _ _ _ h=>by cases h
 |n+1=>λO g args H K out hM=>by
  unfold ZHK at hM;simp only[ZLi] at hM;split at hM
  ·rename_i fn hf;split at hM
   ·rename_i c hb1;obtain⟨hn,hM⟩:=Za hM;have hn:=of_decide_eq_true hn
    have hlen:(args++yx (fn.ntmps - args.length) TD.junk).length=fn.ntmps:=by
     rw[yr,ycm];omega
    obtain⟨ex,a,hh,k1,k2,k3⟩:=X9 (N:=fn.ntmps) (specs:=⟨l,ZHK P his l mt ghs n,mt,[]⟩) ⟨hl,ZD7 hl hm n,hm,trivial⟩ c _ _ _ _ _ hlen (λk b hk lp h=>by cases h) (λk b hk lp h=>by cases h) hM
    have hex:(ex=.ret∨ex=.normal)∧(ZvH P a hh fn.results.toList λds _=>ZFC hh H.length ds λr h=>ZFB P (his g).deep r h K)=some out:=by
     cases ex with
     |exit _=>cases k1
     |normal=>exact⟨.inr rfl,k1⟩
     |ret=>exact⟨.inl rfl,k1⟩
    obtain⟨hex,k1⟩:=hex;obtain⟨ds,hs,C,g1,g2,g3⟩:=Zhh _ _ k1;unfold ZFC at g1;dsimp only at g1;generalize ZyC hh H.length (ZtX ds)=keep at g1;obtain⟨g5,g1⟩:=Za g1;obtain⟨r,g6,g1⟩:=yf.1 g1;obtain⟨e2,g7,g1⟩:=yf.1 g1;refine Zw0 g1 ?_
    have hfin:fin P fn (TD.ers (lk hh) a) (erH hh) (erH H).length keep hs=some (C,r.er (lk e2),erH e2):=by
     unfold fin;have:=g3 [];rw[ybh] at this;rw[this];dsimp only;rw[ZM,g5, ←ZlN,show subEnts (erH hh) _ _=some (erH e2) from X0 (QO g7) g7]
     split at g6
     ·rename_i r0 hr0;have e4:=ZeR (QO g7) _ _ g6;rw[e4]
     ·rename_i hr0;have e4:=ZeR (QO g7) _ _ g6;rw[ZlN,ZI,yax] at e4
      rw[hr0,show(TD.ers (lk hh) ds).map Dv.arg=ds.map (TD.er (lk hh) ∘ TD.arg (lk hh)) by
       rw[ZI,yax];exact ycg λd _=>(ZCO d).symm,e4]
    have hrun:X3 P c (TD.ers (lk H) args++yx (fn.ntmps - (TD.ers (lk H) args).length) .junk) (erH H) ex (TD.ers (lk hh) a) (erH hh):=by
     have e5:TD.ers (lk H) (args++yx (fn.ntmps - args.length) TD.junk)=TD.ers (lk H) args++yx (fn.ntmps - (TD.ers (lk H) args).length) .junk:=by
      rw[Zh5,ZI,ZI,yar,List.map_replicate];rfl
     rw[←e5];exact k3
    exact Zka hf hb1 hrun hex hfin g2
   ·cases hM
  ·cases hM
def ZLj(P:yg)(his:yu→HI)(l:List (Fs P))(mt:List (yc×String×yu))(n:Nat)(g:yu)(ghs:yu→List (Nat×GOp):=λ_=>[]):Option Bool:=
 ZHK P his l mt ghs n Bool g [] [] λr h=>match h with
  |[]=>r.boolT
  |_=>none
theorem ZJF{his:yu→HI}{l:List (Fs P)}{mt:List (yc×String×yu)}{ghs:yu→List (Nat×GOp)}{n:Nat}{g:yu}{b:Bool}(hl:AllOk l)(hm:MtOk P mt)(h:ZLj P his l mt n g ghs=some b):Con P g [] [] (.p (.bool b)) []:=by
 obtain⟨r,H',h1,h2⟩:=ZD7 hl hm n _ _ _ _ _ _ h;split at h1
 ·rw[Zhc h1] at h2;exact h2
 ·cases h1
theorem ZLk{his:yu→HI}{l:List (Fs P)}{mt:List (yc×String×yu)}{ghs:yu→List (Nat×GOp)}{n:Nat}{g:yu}{b:Bool}(hl:AllOk l)(hm:MtOk P mt)(h:ZLj P his l mt n g ghs=some b):
 Fs.Ok (⟨g,[],[],[],[⟨.ret,[(0,.v .bool)],[],[.bool]⟩],λ_=>some b⟩:Fs P):=by
 intro x o hM;cases hM;refine⟨[],[],[],rfl,rfl,λe vs s' hs hf=> ?_⟩;obtain⟨rfl,rfl⟩:=hs;cases hf;exact⟨_,rfl,ZJF hl hm h⟩
end
theorem okN{P:yg}(s:Nat→Fs P)(h:(s fuel).Ok):(s 18446744073709551616).Ok:=by
 rw[Zd5] at h;exact h
theorem ZHL{P:yg}{g:yu}{args:List Dv}{H H1 H2:List Ent}{r r2:Dv}{keep:List Nat}(h:Con P g args H r H1)(ho:once (yv H.length++keep)=true)
 (hin:subEnts H1 (yv H.length++keep) (yv H.length++keep)=some H2) (hr:r.rn (toIds (yv H.length++keep))=some r2):Con P g args H r2 H2:=by
 intro σ vs ok e hv;refine Calls.mono (h σ vs ok e hv) ?_;rintro e' w' ⟨v,σ',h1,h2,h3,h4,h5,h6⟩;subst h3;subst e;exact⟨v,ZmB σ' (yv σ.H.length++keep) H2,h1,h2,rfl,Zsr ok h4 ho hin,Zsq h5 ho hin,ZeF (Zh4 hin) hr h6⟩
def ZD8(h:List TEnt)(n0:Nat)(r:TD)(e:XSh):Option (Ty.dens e.ty):=
 match e.sl with
 |[(0,rs)]=>(ZHC h rs e.es n0 r).bind λkeep=>
  if once (yv n0++keep) then(r.rn (toIds (yv n0++keep))).bind λr=>
   (X6 h (yv n0++keep) (yv n0++keep)).bind λh2=>(Sh.mt (lk h2) rs r).bind λq=>(ESh.mts (lk h2) e.es h2).bind λw=>toD e.ty (q.2++w.2)
  else none
 |_=>none
def Zt3(h:List TEnt)(n0:Nat)(r:TD):(l:List XSh)→Option (XSh.sum l)
 |[]=>none
 |[e]=>ZD8 h n0 r e
 |e::f::q=>match ZD8 h n0 r e with
  |some x=>some (Sum.inl x:Ty.dens e.ty⊕XSh.sum (f::q))
  |none=>(Zt3 h n0 r (f::q)).map λx=>(Sum.inr x:Ty.dens e.ty⊕XSh.sum (f::q))
theorem Zrg{h:List TEnt}{n0:Nat}{r:TD}:∀{l:List XSh}{o:XSh.sum l},Zt3 h n0 r l=some o→∀e vs,ZAB l o e vs→∃x,ZD8 h n0 r e=some x∧vs=ofD e.ty x
 |[],_,k,_,_,_=>by cases k
 |[e],o,k,x,vs,hs=>by
  obtain⟨rfl,rfl⟩:=hs
  exact⟨o,k,rfl⟩
 |e::f::q,o,k,x,vs,hs=>by
  simp only[Zt3] at k;split at k
  ·rename_i y hy;cases k;obtain⟨rfl,rfl⟩:=hs;exact⟨y,hy,rfl⟩
  ·obtain⟨y,h1,h2⟩:=Zb k;subst h2;exact Zrg h1 x vs hs
section
variable{P:yg}
def fnD(P:yg)(fi:FI)(specs:Sp P)(g:yu)(ps:List Sh)(es:List ESh)(ins:List Ty)(xs:List XSh):Ty.dens ins→Option (XSh.sum xs):=λx=>
 match P.funcs[g]? with
 |some fn=>match fn.body with
  |some c=>(Sh.fills ps (ofD ins x)).bind λq=>(ESh.fills es q.2).bind λw=>if w.2.isEmpty then
    evT P fi specs c 0 0 (q.1++yx (fn.ntmps - q.1.length) .junk) w.1 λex a h=>match ex with
     |.exit _=>none
     |_=>ZvH P a h fn.results.toList λds _=>ZFC h w.1.length ds λr h=>ZFB P fi.hi.deep r h λr h=>Zt3 h w.1.length r xs
    else none
  |none=>none
 |none=>none
theorem ZD9{fi:FI}{specs:Sp P}{g:yu}{ps:List Sh}{es:List ESh}{ins:List Ty}{xs:List XSh}{M:Ty.dens ins→Option (XSh.sum xs)}(ok:SpOk specs)(hl:Zre P g (Zj P g) fi.lp)(hn:ps.length≤Zj P g)
 (h:∀x,fnD P fi specs g ps es ins xs x=M x) (hb:ZtW P (Zj P g) (Wa P g) fi.bk:=by exact True.intro):Fs.Ok (⟨g,ps,es,ins,xs,M⟩:Fs P):=by
 intro x o hM;have hM:M x=some o:=hM;rw[←h x] at hM;have hl':=ZD4 hl;unfold fnD at hM;split at hM
 ·rename_i fn hf;split at hM
  ·rename_i c hb1;obtain⟨q,h1,hM⟩:=yf.1 hM;obtain⟨w,h2,hM⟩:=yf.1 hM;obtain⟨h3,hM⟩:=Za hM;have hN:Zj P g=fn.ntmps:=by unfold Zj;rw[hf]
   have hc:Wa P g=c:=by unfold Wa;rw[hf];dsimp only;rw[hb1];rfl
   rw[hc,hN] at hl' hb;have hb0:=ZsB hb;rw[hN] at hn
   have hlen:(q.1++yx (fn.ntmps - q.1.length) TD.junk).length=fn.ntmps:=by
    rw[yr,ycm,ZlI h1];omega
   obtain⟨ex,a,hh,k1,k2,k3⟩:=X9 ok c _ _ _ _ _ hlen hl' hb0 hM
   have hex:(ex=.ret∨ex=.normal)∧(ZvH P a hh fn.results.toList λds _=>ZFC hh w.1.length ds λr h=>ZFB P fi.hi.deep r h λr h=>Zt3 h w.1.length r xs)=some o:=by
    cases ex with
    |exit _=>cases k1
    |normal=>exact⟨.inr rfl,k1⟩
    |ret=>exact⟨.inl rfl,k1⟩
   obtain⟨hex,k1⟩:=hex;obtain⟨ds,hs,C,g1,g2,g3⟩:=Zhh _ _ k1;refine⟨q.1,q.2,w.1,h1, ?_,λe vs s' hsel hfs=> ?_⟩
   ·rw[h2];have:w.2=[]:=by simpa using h3
    rw[←this]
   unfold ZFC at g1;dsimp only at g1;generalize ZyC hh w.1.length (ZtX ds)=keep at g1;obtain⟨g5,g1⟩:=Za g1;obtain⟨r,g6,g1⟩:=yf.1 g1;obtain⟨e2,g7,g1⟩:=yf.1 g1
   have hrun:X3 P c (TD.ers (lk w.1) q.1++yx (fn.ntmps - (TD.ers (lk w.1) q.1).length) .junk) (erH w.1) ex (TD.ers (lk hh) a) (erH hh):=by
    have e5:TD.ers (lk w.1) (q.1++yx (fn.ntmps - q.1.length) TD.junk)=TD.ers (lk w.1) q.1++yx (fn.ntmps - (TD.ers (lk w.1) q.1).length) .junk:=by
     rw[Zh5,ZI,ZI,yar,List.map_replicate];rfl
    rw[←e5];exact k3
   have hfin:fin P fn (TD.ers (lk hh) a) (erH hh) (erH w.1).length keep hs=some (C,r.er (lk e2),erH e2):=by
    unfold fin;have:=g3 [];rw[ybh] at this;rw[this];dsimp only;rw[ZM,g5, ←ZlN,show subEnts (erH hh) _ _=some (erH e2) from X0 (QO g7) g7]
    split at g6
    ·rename_i r0 hr0;have e4:=ZeR (QO g7) _ _ g6;rw[e4]
    ·rename_i hr0;have e4:=ZeR (QO g7) _ _ g6;rw[ZlN,ZI,yax] at e4
     rw[hr0,show(TD.ers (lk hh) ds).map Dv.arg=ds.map (TD.er (lk hh) ∘ TD.arg (lk hh)) by
      rw[ZI,yax];exact ycg λd _=>(ZCO d).symm,e4]
   obtain⟨r',H',m1,m2⟩:=Zw0 g1 (Zka hf hb1 hrun hex hfin g2);obtain⟨o1,m3,hvs⟩:=Zrg m1 e vs hsel;unfold ZD8 at m3;split at m3
   case h_2=>cases m3
   rename_i rs hsl;obtain⟨keep2,n1,m3⟩:=yf.1 m3;obtain⟨n2,m3⟩:=Za m3;obtain⟨r3,n3,m3⟩:=yf.1 m3;obtain⟨e3,n4,m3⟩:=yf.1 m3;obtain⟨z,g8,m3⟩:=yf.1 m3;obtain⟨y,g9,m3⟩:=yf.1 m3;obtain⟨b1,b2⟩:=Zhf g9;have hcc:∀id t,ZX (lk e3) id t none=ZX (lk y.1) id t none:=λid t=>by rw[b2]
   have eo:=Zca _ _ _ m3
   have efill:s'=([z.1],y.1):=by
    rw[hvs,eo,hsl] at hfs;unfold Vt at hfs;rw[show shs [(0,rs)] 1=[rs] from rfl] at hfs
    simp only[Sh.fills,ZlG _ _ _ g8,yb,yab] at hfs;have:=Q8 g9 [];rw[ybh] at this;rw[this] at hfs;exact(ybj hfs).symm
   subst efill;refine⟨z.1,rfl, ?_⟩
   have hk:Con P g (TD.ers (lk w.1) q.1) (erH w.1) (r3.er (lk e3)) (erH e3):=by
    refine ZHL (keep:=keep2) m2 (by rw[ZM];exact n2) ?_ ?_
    ·rw[ZM];exact X0 (QO n4) n4
    ·rw[ZM];exact ZeR (QO n4) _ _ n3
   exact ZzZ hk (ZtE hcc _ _ _ g8) (ZlH hcc g9)
  ·cases hM
 ·cases hM
end
end Go.Ev
end
section
namespace Go.Ev
open Go.RowKit Go.WideShapes Go.ChangeShapes
def Yc(P:yg):Nat→yc→Bool
 |0,_=>false
 |n+1,t=>match P.underlying t with
  |some .bool=>true
  |some (.int _)=>true
  |some .string=>true
  |some (.slice e)=>Yc P n e&&decide (0 < P.cellsOf e)
  |some (.array m e)=>Yc P n e&&P.cellsOf t==m*P.cellsOf e
  |some (.struct fs)=>(fs.toList.all λf=>Yc P n f.type)&&P.cellsOf t==(fs.toList.map λf=>P.cellsOf f.type).sum&&
    ((yv fs.toList.length).all λj=>match fs.toList[j]? with|some f=>f.offset==((fs.toList.take j).map λf=>P.cellsOf f.type).sum|none=>true)
  |_=>false
theorem ZyE(P:yg):Kids P (λt=>∃n,Yc P n t=true) where
 pointer:=by
  rintro t e ⟨n,h⟩ hu
  cases n with
  |zero=>simp[Yc] at h
  |succ n=>simp[Yc,hu] at h
 slice:=by
  rintro t e ⟨n,h⟩ hu
  cases n with
  |zero=>simp[Yc] at h
  |succ n=>simp[Yc,hu] at h;exact⟨n,h.1⟩
 array:=by
  rintro t e m ⟨n,h⟩ hu
  cases n with
  |zero=>simp[Yc] at h
  |succ n=>simp[Yc,hu] at h;exact⟨⟨n,h.1⟩,h.2⟩
 struct:=by
  rintro t fs ⟨n,h⟩ hu
  cases n with
  |zero=>simp[Yc] at h
  |succ n=>
   simp only[Yc,hu,yi,beq_iff_eq,yba] at h;obtain⟨⟨h1,h2⟩,h3⟩:=h;refine⟨λf hf=>⟨n,h1 f hf⟩,h2,λj f hf=> ?_⟩;have hj:j < fs.toList.length:=(yp.1 hf).1;have:=h3 j (by simpa using hj);rw[hf] at this;simpa using this
 map:=by
  rintro t k e ⟨n,h⟩ hu
  cases n with
  |zero=>simp[Yc] at h
  |succ n=>simp[Yc,hu] at h
def ZJG(R:yc→Pl→Prop):List Field→List Pl→Prop
 |[],[]=>True
 |f::fs,y::ys=>R f.type y∧ZJG R fs ys
 |_,_=>False
def wtP(P:yg):Nat→yc→Pl→Prop
 |0,_,_=>False
 |n+1,t,x=>match P.underlying t,x with
  |some .bool,.bool _=>True
  |some (.int k),.int k' m=>k'=k∧(Lit.int k m).wf=true
  |some .string,.str s=>s.size≤maxLen
  |some (.slice e),.sl nn s xs=>s=P.cellsOf e∧nn=none∧xs.length≤maxLen∧∀y,y∈xs→wtP P n e y
  |some (.array m e),.arr m' s xs=>m'=m∧s=P.cellsOf e∧xs.length=m∧∀y,y∈xs→wtP P n e y
  |some (.struct fs),.agg xs=>ZJG (wtP P n) fs.toList xs
  |_,_=>False
def ZyF:Nat→Nat→Prop:=λ_ _=>True
section
variable{H:Type}{enc:yc×yh→H}{P:yg}{w:yy}{base:Nat}{sp:Nat→Bool}{held:Bool}
theorem ZFD:∀{s:Nat}{a:Addr}{cs:List yh},w.cells? base a s=some cs→cs.length=s∧∀j u,cs[j]? =some u→w.cell? (a.add j)=some u:=by
 intro s a cs h;unfold World.cells? at h;split at h
 ·have hl:cs.length=s:=by simpa using mapM_some_length h
  refine⟨hl,λj u hu=> ?_⟩;have hj:j < s:=by rw[←hl];exact(yp.1 hu).1
  have:=mapM_some_get h j j (by simp[hj]);rw[hu] at this;exact this
 ·cases h
theorem ZEa{e:yc}{n m:Nat}{a:Addr}{s:Nat}(hs:0 < s){elems:List (DataW H×List MemPlace)}{len:Nat}(hlen:elems.length=len)
 (ih:∀(cs:List yh)(x:DataW H×List MemPlace),DataW.trod enc P w base sp held m e cs=some x→cs.length=s→∃pl,wtP P n e pl∧repC w ZyF pl cs)
 (h:∀i,i < len→(w.cells? base (a.add (i*s)) s).bind (DataW.trod enc P w base sp held m e)=elems[i]?):
 ∀k,k≤len→∃(xs:List Pl)(us:List yh),xs.length=k∧(∀y,y∈xs→wtP P n e y)∧allSz s xs∧us.length=k*s∧repCs w ZyF xs us∧(∀j u,us[j]? =some u→w.cell? (a.add j)=some u)
 |0,_=>⟨[],[],rfl,(λy hy=>by cases hy),(λy hy=>by cases hy),by simp,by simp[repCs],by simp⟩
 |k+1,hk=>by
  obtain⟨xs,us,h1,h2,h3,h4,h5,h6⟩:=ZEa hs hlen ih h k (by omega);have hk':=h k (by omega);rw[yac (by omega)] at hk';obtain⟨cs,hc,ht⟩:=yf.1 hk';obtain⟨c1,c2⟩:=ZFD hc;obtain⟨pl,p1,p2⟩:=ih cs _ ht c1;have psz:pl.size=s:=by rw[←X2 _ _ p2,c1]
  refine⟨xs++[pl],us++cs,by simp[h1],λy hy=> ?_,λy hy=> ?_,by simp[h4,c1,yas],Yj h5 (by simpa[repCs] using p2),λj u hu=> ?_⟩
  ·rcases List.mem_append.1 hy with hy|hy
   ·exact h2 y hy
   ·rw[yay.1 hy];exact p1
  ·rcases List.mem_append.1 hy with hy|hy
   ·exact h3 y hy
   ·rw[yay.1 hy];exact psz
  ·by_cases hj:j < us.length
   ·rw[yan hj] at hu;exact h6 j u hu
   ·rw[yap (by omega)] at hu;have:=c2 _ _ hu;rw[Addr.add_add] at this;rw[←this];congr 2;omega
theorem ZA0{e:yc}{n m:Nat}{s:Nat}{cs:List yh}{elems:List (DataW H×List MemPlace)}{len:Nat}(hlen:elems.length=len)(hcs:cs.length=len*s)
 (ih:∀(cs:List yh)(x:DataW H×List MemPlace),DataW.trod enc P w base sp held m e cs=some x→cs.length=s→∃pl,wtP P n e pl∧repC w ZyF pl cs)
 (h:∀i,i < len→DataW.trod enc P w base sp held m e ((cs.drop (i*s)).take s)=elems[i]?):
 ∀k,k≤len→∃(xs:List Pl),xs.length=k∧(∀y,y∈xs→wtP P n e y)∧allSz s xs∧repCs w ZyF xs (cs.take (k*s))
 |0,_=>⟨[],rfl,(λy hy=>by cases hy),(λy hy=>by cases hy),by simp[repCs]⟩
 |k+1,hk=>by
  obtain⟨xs,h1,h2,h3,h5⟩:=ZA0 hlen hcs ih h k (by omega);have hk':=h k (by omega);rw[yac (by omega)] at hk';have hle:k*s+s≤len*s:=by rw[←Nat.succ_mul];exact ybu _ hk
  have c1:((cs.drop (k*s)).take s).length=s:=by simp;omega
  obtain⟨pl,p1,p2⟩:=ih _ _ hk' c1;have psz:pl.size=s:=by rw[←X2 _ _ p2,c1]
  refine⟨xs++[pl],by simp[h1],λy hy=> ?_,λy hy=> ?_, ?_⟩
  ·rcases List.mem_append.1 hy with hy|hy
   ·exact h2 y hy
   ·rw[yay.1 hy];exact p1
  ·rcases List.mem_append.1 hy with hy|hy
   ·exact h3 y hy
   ·rw[yay.1 hy];exact psz
  ·rw[yas,Nat.one_mul,List.take_add];exact Yj h5 (by simpa[repCs] using p2)
theorem Zw1{n m:Nat}{cs:List yh}
 (ih:∀(t:yc),Yc P n t=true→∀(cs:List yh)(x:DataW H×List MemPlace),DataW.trod enc P w base sp held m t cs=some x→∃pl,wtP P n t pl∧repC w ZyF pl cs):
 ∀(fs:List Field)(o:Nat),(∀f,f∈fs→Yc P n f.type=true)→(∀(j:Nat)f,fs[j]? =some f→f.offset=o+((fs.take j).map λf=>P.cellsOf f.type).sum)→
  cs.length=o+(fs.map λf=>P.cellsOf f.type).sum→(∀(j:Nat)f,fs[j]? =some f→∃x,DataW.trod enc P w base sp held m f.type ((cs.drop f.offset).take (P.cellsOf f.type))=some x)→
  ∃(xs:List Pl),ZJG (wtP P n) fs xs∧repCs w ZyF xs (cs.drop o)
 |[],o,_,_,hl,_=>⟨[],trivial,by simp only[repCs];apply List.drop_eq_nil_of_le;simp at hl;omega⟩
 |f::fs,o,hp,ho,hl,h=>by
  obtain⟨x,hx⟩:=h 0 f rfl;have ho0:=ho 0 f rfl;simp at ho0;rw[ho0] at hx;obtain⟨pl,p1,p2⟩:=ih f.type (hp f (yat ..)) _ _ hx;simp only[yaf,List.sum_cons] at hl
  obtain⟨xs,q1,q2⟩:=Zw1 ih fs (o+P.cellsOf f.type) (λg hg=>hp g (yau _ hg)) (λj g hg=>by
   have:=ho (j+1) g hg;simp only[List.take_succ_cons,yaf,List.sum_cons] at this;omega) (by omega) (λj g hg=>h (j+1) g hg)
  refine⟨pl::xs,⟨p1,q1⟩, ?_⟩;simp only[repCs];refine⟨(cs.drop o).take (P.cellsOf f.type),(cs.drop o).drop (P.cellsOf f.type),(List.take_append_drop ..).symm,p2, ?_⟩;rw[List.drop_drop];exact q2
theorem ZJH:∀(n m:Nat)(t:yc),Yc P n t=true→∀(cs:List yh)(x:DataW H×List MemPlace),DataW.trod enc P w base sp held m t cs=some x→∃pl,wtP P n t pl∧repC w ZyF pl cs:=by
 intro n
 induction n with
 |zero=>intro m t h;simp[Yc] at h
 |succ n ih=>
  intro m t ht cs x h;unfold Yc at ht;split at ht
  ·rename_i hu;obtain⟨b,rfl,_⟩:=DataW.trod_bool hu h;exact⟨.bool b,by simp[wtP,hu],by simp[repC]⟩
  ·rename_i k hu;obtain⟨z,rfl,rfl,hw⟩:=DataW.trod_int hu h;exact⟨.int k z,by simp[wtP,hu,hw],by simp[repC]⟩
  ·rename_i hu;obtain⟨s,rfl,h2⟩:=DataW.trod_string hu h;exact⟨.str s,by simp[wtP,hu];exact h2.2,by simp[repC]⟩
  ·rename_i e hu;simp only[yi,decide_eq_true_eq] at ht;rcases DataW.trod_slice hu h with⟨rfl,rfl⟩|⟨a,len,cap,elems,rest,m',rfl,rfl,rfl,_,hle,hcap,hlen,hel,_⟩
   ·exact⟨.sl none (P.cellsOf e) [],by simp[wtP,hu],by simp only[repC];exact⟨(λy hy=>by cases hy),none,0,rfl,yn _,Nat.zero_le _,ZY _,λ_=>rfl,λh=>absurd rfl h⟩⟩
   ·obtain⟨xs,us,h1,h2,h3,h4,h5,h6⟩:=ZEa (n:=n) ht.2 hlen (λcs x hx _=>ih m' e ht.1 cs x hx) hel len (yn _);refine⟨.sl none (P.cellsOf e) xs,by simp only[wtP,hu];exact⟨trivial,trivial,by omega,h2⟩, ?_⟩;simp only[repC];refine⟨h3,some a,cap,by rw[h1],by omega,hcap,ZY _,by simp,λhne=> ?_⟩
    have hpos:0 < us.length:=by
     rw[h4];have:0 < len:=by rw[←h1];exact List.length_pos_iff.2 hne
     exact Nat.mul_pos this ht.2
    have hc0:=h6 0 us[0] (yac hpos);obtain⟨b,o,spot⟩:=a
    have hspot:spot=none:=by
     cases spot with
     |none=>rfl
     |some z=>
      exfalso;unfold World.cell? at hc0;split at hc0
      ·simp[Addr.add] at hc0
      ·cases hc0
    subst hspot;exact⟨b,o,us,rfl,h5,λj u hu=>⟨by have:=h6 j u hu;rwa [Addr.add_lit] at this,trivial⟩⟩
  ·rename_i k e hu;simp only[yi,beq_iff_eq] at ht;obtain⟨elems,m',rfl,rfl,hl,hlen,hel⟩:=DataW.trod_array hu h;obtain⟨xs,h1,h2,h3,h4⟩:=ZA0 (n:=n) (s:=P.cellsOf e) hlen (by rw[hl,ht.2]) (λcs x hx _=>ih m' e ht.1 cs x hx) hel k (yn _);rw[List.take_of_length_le (by rw[hl,ht.2];exact yn _)] at h4;exact⟨.arr k (P.cellsOf e) xs,by simp only[wtP,hu];exact⟨trivial,trivial,h1,h2⟩,by simp only[repC];exact⟨h1,h3,h4⟩⟩
  ·rename_i fs hu;simp only[yi,beq_iff_eq,yba] at ht;obtain⟨⟨t1,t2⟩,t3⟩:=ht;obtain⟨elems,m',rfl,rfl,hl,hlen,hel⟩:=DataW.trod_struct hu h
   obtain⟨xs,q1,q2⟩:=Zw1 (n:=n) (m:=m') (cs:=cs) (λt ht cs x hx=>ih m' t ht cs x hx) fs.toList 0 t1 (λj f hf=>by
    have hj:j < fs.toList.length:=(yp.1 hf).1;have:=t3 j (by simpa using hj);rw[hf] at this;simpa using this) (by rw[hl,t2];omega) (λj f hf=>by
    have hj:j < fs.toList.length:=(yp.1 hf).1;have:=hel j f (by simpa using hf);rw[yac (by rw[hlen];simpa using hj)] at this;exact⟨_,this⟩)
   exact⟨.agg xs,by simp only[wtP,hu];exact q1,by simp only[repC];simpa using q2⟩
  ·cases ht
end
end Go.Ev
namespace Go.Ev
open Go.RowKit Go.WideShapes Go.ChangeShapes
def ZJI(P:yg)(n:Nat):List yc→List Pl→Prop
 |[],[]=>True
 |t::ts,x::xs=>wtP P n t x∧ZJI P n ts xs
 |_,_=>False
section
variable{H:Type}{enc:yc×yh→H}{P:yg}
def sg0(W:yy):Sg:={ F:=ZyF,B:=λb=>W.heap.size≤b,m:=[],H:=[],w:=W}
theorem ZLl(W:yy):Ok (sg0 W) where
 len:=rfl
 inj i j b h:=by simp[sg0] at h
 lt i b h:=by simp[sg0] at h
 ent i e a h:=by simp[sg0] at h
 new b h:=h
 own i b h:=by simp[sg0] at h
theorem ZHM(W:yy)(b o:Nat):(sg0 W).stab b o:=⟨.inl trivial,λid e h=>by simp[sg0] at h⟩
theorem Zt4{W:yy}{x:Pl}{v:yh}{cs:List yh}(hx:repC W ZyF x cs)(hc:v.cells.toList=cs)(hv:x.isAgg=true→∃a,v=.agg a)(hn:x.isAgg=false→cs=[v]):repDV (sg0 W) (.p x) v:=by
 have hm:repC W (sg0 W).stab x cs:=Zaf (λb o u h _=>⟨h,ZHM W b o⟩) x cs hx;refine⟨λha=> ?_,λha=> ?_⟩
 ·obtain⟨a,rfl⟩:=hv ha;refine⟨a,rfl, ?_⟩;simp only[repD];have:a.toList=cs:=by rw[←hc];rfl
  rw[this];exact hm
 ·simp only[repD];have e:=hn ha;rw[←e];exact hm
theorem ZLm:∀{n:Nat}{t:yc}{x:Pl},wtP P n t x→x.isAgg=XU P t
 |0,_,_,h=>by simp[wtP] at h
 |n+1,t,x,h=>by
  unfold wtP at h;split at h <;> rename_i hu <;> first|(simp[Pl.isAgg,XU,hu];done)|exact h.elim
theorem ZEb{W:yy}{n:Nat}(hval:∀(t:yc)(v:yh),XU P t=true→Value.okWide P W .any 0 t v→∃a,v=.agg a):
 ∀(ts:List yc)(vs:List yh)(ds:List (DataW H))(ps:List MemPlace),(∀t,t∈ts→Yc P n t=true)→(∀(j:Nat)t v,ts[j]? =some t→vs[j]? =some v→(XU P t=true→∃a,v=.agg a)∧(XU P t=false→v.cells.toList=[v]))→
  DataW.TrodAll enc P W 0 (λ_=>true) true ts vs ds ps→∃xs,ZJI P n ts xs∧repVs (sg0 W) (xs.map .p) vs
 |[],[],[],_,_,_,_=>⟨[],trivial,by simp[repVs]⟩
 |[],_::_,_,_,_,_,h=>by simp[DataW.TrodAll] at h
 |[],[],_::_,_,_,_,h=>by simp[DataW.TrodAll] at h
 |_::_,[],_,_,_,_,h=>by simp[DataW.TrodAll] at h
 |_::_,_::_,[],_,_,_,h=>by simp[DataW.TrodAll] at h
 |t::ts,v::vs,d::ds,ps,hp,hv,h=>by
  obtain⟨p,q,⟨fuel,h1⟩,h2,rfl⟩:=h;obtain⟨x,x1,x2⟩:=ZJH n fuel t (hp t (yat ..)) _ _ h1;obtain⟨xs,xs1,xs2⟩:=ZEb hval ts vs ds q (λu hu=>hp u (yau _ hu)) (λj u w' hj hw=>hv (j+1) u w' hj hw) h2;obtain⟨v1,v2⟩:=hv 0 t v rfl rfl;refine⟨x::xs,⟨x1,xs1⟩, ?_⟩;simp only[yaf,repVs];have ha:=ZLm x1;exact⟨v,vs,rfl,Zt4 x2 rfl (λe=>v1 (by rw[←ha];exact e)) (λe=>v2 (by rw[←ha];exact e)),xs2⟩
theorem ZmE{W W':yy}{sp':Nat→Bool}{n:Nat}:∀(ts:List yc)(vs:List yh)(ds:List (DataW H))(ps:List MemPlace),(∀t,t∈ts→Yc P n t=true)→
 DataW.TrodAll enc P W 0 (λ_=>true) true ts vs ds ps→(∀p∈ps,W.sameAt W' p)→(∀p∈ps,sp' p.block=true)→DataW.TrodAll enc P W' 0 sp' true ts vs ds ps
 |[],[],[],_,_,h,_,_=>h
 |[],_::_,_,_,_,h,_,_=>by simp[DataW.TrodAll] at h
 |[],[],_::_,_,_,h,_,_=>by simp[DataW.TrodAll] at h
 |_::_,[],_,_,_,h,_,_=>by simp[DataW.TrodAll] at h
 |_::_,_::_,[],_,_,h,_,_=>by simp[DataW.TrodAll] at h
 |t::ts,v::vs,d::ds,ps,hp,h,hs,hb=>by
  obtain⟨p,q,⟨fuel,h1⟩,h2,rfl⟩:=h;refine⟨p,q,⟨fuel, ?_⟩,ZmE ts vs ds q (λu hu=>hp u (yau _ hu)) h2 (λz hz=>hs z (List.mem_append_right _ hz)) (λz hz=>hb z (List.mem_append_right _ hz)),rfl⟩
  exact DataW.trod_stays (ZyE P) (λ{t e}⟨n,hn⟩hu=>by
   cases n with
   |zero=>simp[Yc] at hn
   |succ n=>simp[Yc,hu] at hn;exact hn.2) (by simp) ⟨n,hp t (yat ..)⟩ h1 (λz hz=>hs z (List.mem_append_left _ hz)) (λz hz=>hb z (List.mem_append_left _ hz))
theorem ZA1{W:yy}{σ':Sg}(h:To (sg0 W) σ'):Below W.heap.size W σ'.w:=
 ⟨h.os,h.tape,h.output,h.size,λb hb=>h.block b hb (λid=>by simp[sg0])⟩
theorem Zt5{f:Func}{s:ChangeSpec}{apart fresh handsOn again:Bool}{W W':yy}{args:Array yh}{v:yh}{ds gs:List (DataW H)}{before pa pv:List MemPlace}
 (hW:DataW.Whole enc P f.params.toList s.vars apart W args.toList ds gs before)
 (hres:∀(b:Nat)(sp:Nat→Bool)(hd:Bool),DataW.TrodAll enc P W' b sp hd f.resultTypes.toList (v.resultList f.resultTypes.size) (s.fn H (ds++gs)).results [])
 (hargs:∀sp:Nat→Bool,(∀p∈before,sp p.block=true)→DataW.TrodAll enc P W' 0 sp true f.params.toList args.toList (s.fn H (ds++gs)).args pa)
 (hvars:∀sp:Nat→Bool,(∀p∈before,sp p.block=true)→DataW.TrodVars enc P W' sp s.vars (s.fn H (ds++gs)).vars pv)
 (hps:before=pa++pv) (hb:Below W.heap.size W W')
 (hok:∀(j:Nat)(t:yc)(r:yh),f.resultTypes[j]? =some t→(v.resultList f.resultTypes.size)[j]? =some r→Value.okWide P W' .any 0 t r):
 s.post enc P f apart fresh handsOn again W args v W':=by
 have hlt:∀p∈before,p.block < W.heap.size:=λp hp=>hW.lt p hp;have hold:∀p∈before,(λb=>decide (b < W.heap.size)) p.block=true:=λp hp=>by simpa using hlt p hp
 refine⟨ds,gs,before,[],pa,pv,hW,hres _ _ _,hargs _ hold,hvars _ hold,World.keptBut_mono (λp hp=>⟨hp, ?_⟩) (hb.frame (· ∈before)),λ_=> ?_⟩
 ·rw[hps,List.mem_append] at hp;exact Or.inr hp
 ·obtain⟨_,_,_,_,_,hz,hn⟩:=hW;refine⟨hok,_,_,([]++pa)++pv,⟨[]++pa,pv,trodAll_append (hargs _ (λ_ _=>rfl)) (hres _ _ _),hvars _ (λ_ _=>rfl),rfl, ?_, ?_⟩, ?_⟩
  ·intro b off hp;have hin:MemPlace.cell b off∈before:=by rw[hps];simpa using hp
   rw[hb.frozen (hlt _ hin)];exact hz b off hin
  ·intro ha;have:=hn ha;rw[hps] at this;simpa using this
  ·intro p hp _;rw[hps];simpa using hp
theorem ZyG{f:yu}{fn:Func}{s:ChangeSpec}{n:Nat}{tb:yc}(hr:fn.resultTypes= #[tb])(ht:P.underlying tb=some .bool)(hv:s.vars=[])
 (hs:∀ds:List (DataW H),ds.length=fn.params.toList.length→s.fn H ds={ results:=[.lit (.bool true)],args:=ds}) (hp:∀t,t∈fn.params.toList→Yc P n t=true)
 (W:yy) (base:Nat) (args:Array yh) (ds gs:List (DataW H)) (before:List MemPlace)
 (hval:∀(j:Nat)t v,fn.params[j]? =some t→args[j]? =some v→Value.okWide P W .any base t v) (hW:DataW.Whole enc P fn.params.toList s.vars false W args.toList ds gs before)
 (hc:∀xs:List Pl,ZJI P n fn.params.toList xs→repVs (sg0 W) (xs.map .p) args.toList→Con P f (xs.map .p) [] (.p (.bool true)) []):
 Calls P f args W λe W'=>∃v,e=.returned v∧s.post enc P fn false true false false W args v W':=by
 have hW':=hW;obtain⟨p,q,hA,hV,rfl,hfz,hnd⟩:=hW;rw[hv] at hV
 obtain⟨rfl,rfl⟩:gs=[]∧q=[]:=by
  cases gs with
  |nil=>exact⟨rfl,hV⟩
  |cons g r=>simp[DataW.TrodVars] at hV
 have hlen:=trodAll_length hA
 obtain⟨xs,x1,x2⟩:=ZEb (enc:=enc) (P:=P) (W:=W) (n:=n) (λt v ha hok=>by
  unfold Value.okWide at hok;unfold XU at ha;split at hok
  ·obtain⟨cs,rfl,_⟩:=hok;exact⟨cs,rfl⟩
  ·obtain⟨cs,rfl,_⟩:=hok;exact⟨cs,rfl⟩
  ·rename_i h1 h2;split at ha
   ·rename_i fs hu;exact absurd hu (h1 fs)
   ·rename_i k e hu;exact absurd hu (h2 k e)
   ·cases ha) fn.params.toList args.toList ds p hp (λj t v hj hvv=>by
  have hok:=hval j t v (by simpa using hj) (by simpa using hvv);refine⟨λha=> ?_,λha=> ?_⟩
  ·unfold Value.okWide at hok;unfold XU at ha;split at hok
   ·obtain⟨cs,rfl,_⟩:=hok;exact⟨cs,rfl⟩
   ·obtain⟨cs,rfl,_⟩:=hok;exact⟨cs,rfl⟩
   ·rename_i h1 h2;split at ha
    ·rename_i fs hu;exact absurd hu (h1 fs)
    ·rename_i k e hu;exact absurd hu (h2 k e)
    ·cases ha
  ·obtain⟨m,hm⟩:∃m,Yc P (m+1) t=true:=by
    have:=hp t (yby hj)
    cases n with
    |zero=>simp[Yc] at this
    |succ n=>exact⟨n,this⟩
   unfold Value.okWide at hok;unfold Yc at hm;unfold XU at ha;split at hm <;> rename_i hu <;> simp only[hu] at hok ha
   all_goals first
    |(cases ha;done)
    |(cases hm;done)
    |(unfold Cell.okWide Cell.ok at hok;simp only[hu] at hok;cases v <;> first|rfl|(simp at hok;done))) hA
 have hcall:=hc xs x1 x2 (sg0 W) args.toList (ZLl W) rfl x2;rw[Array.toArray_toList] at hcall;refine Calls.mono hcall ?_;rintro e W' ⟨v,σ',rfl,rfl,hH,hto,hok,hrep⟩;have hbv:v=.bool true:=by simpa[repDV,Dv.isAgg,Pl.isAgg,repD,repC] using hrep
 subst hbv;have hb:=ZA1 hto;simp only[ybh] at hW';have hlt:=hW'.lt
 have hsame:∀z∈p,W.sameAt σ'.w z:=by
  intro z hz;have hz':=hlt z hz
  cases z with
  |cell b o=>exact hb.cell (p:=⟨b,o,none⟩) hz'
  |map b=>exact hb.block b hz'
 have hfn:=hs ds hlen.2;refine⟨_,rfl,Zt5 (pa:=p) (pv:=[]) hW' (λb sp hd=> ?_) (λsp h=> ?_) (λsp h=> ?_) (by simp) hb ?_⟩
 ·rw[ybh,hfn,hr];exact trodAll_cons_mk (shut_bool ht _) trodAll_mk0
 ·rw[ybh,hfn];exact ZmE fn.params.toList args.toList ds p hp hA hsame h
 ·rw[ybh,hfn,hv];rfl
 ·intro j t r hj hjr;rw[hr] at hj hjr
  cases j with
  |zero=>
   simp at hj;subst hj;have:r=.bool true:=by simpa[Value.resultList] using hjr.symm
   subst this
   exact okWide_bool_mk ht _
  |succ j=>simp at hj
end
end Go.Ev
namespace Go.Ev
end Go.Ev
end
section
namespace Go.Ev
mutual
def Ty.Wf:(t:Ty)→t.den→Prop
 |.int k,n=>(Lit.int k n).wf=true
 |.u8,_=>True
 |.u32,_=>True
 |.u64,_=>True
 |.bool,_=>True
 |.str,s=>s.size≤maxLen
 |.sl t,l=>List.length l≤maxLen∧∀x,List.Mem x l→Ty.Wf t x
 |.arr n t,l=>List.length l=n∧∀x,List.Mem x l→Ty.Wf t x
 |.st fs,x=>Ty.Wfs fs x
def Ty.Wfs:(fs:List Ty)→Ty.dens fs→Prop
 |[],_=>True
 |[t],x=>Ty.Wf t x
 |t::u::r,x=>Ty.Wf t x.1∧Ty.Wfs (u::r) x.2
end
mutual
def ZCR(P:yg):Nat→yc→Ty→Bool
 |0,_,_=>false
 |n+1,t,T=>match P.underlying t,T with
  |some (.int .u8),.u8=>true
  |some (.int .u32),.u32=>true
  |some (.int .u64),.u64=>true
  |some (.int k),.int k'=>decide (k=k')
  |some .bool,.bool=>true
  |some .string,.str=>true
  |some (.slice e),.sl T'=>P.cellsOf e==T'.size&&ZCR P n e T'
  |some (.array m e),.arr m' T'=>m==m'&&(P.cellsOf e==T'.size&&ZCR P n e T')
  |some (.struct fs),.st Ts=>tyOks P n fs.toList Ts
  |_,_=>false
def tyOks(P:yg):Nat→List Field→List Ty→Bool
 |0,_,_=>false
 |_+1,[],[]=>true
 |n+1,f::fs,T::Ts=>ZCR P n f.type T&&tyOks P n fs Ts
 |_+1,_,_=>false
end
theorem ZMf{m:Int}(h:(Lit.int .u8 m).wf=true):∃b:UInt8,m=(b.toNat:Int):=by
 simp only[Lit.wf,yi,decide_eq_true_eq] at h;have h1:(0:Int)≤m:=h.1;have h2:m≤255:=h.2;refine⟨UInt8.ofNat m.toNat, ?_⟩;have:(UInt8.ofNat m.toNat).toNat=m.toNat:=by simp;omega
 rw[this];omega
theorem ZLn{m:Int}(h:(Lit.int .u32 m).wf=true):∃b:UInt32,m=(b.toNat:Int):=by
 simp only[Lit.wf,yi,decide_eq_true_eq] at h;have h1:(0:Int)≤m:=h.1;have h2:m≤4294967295:=h.2;refine⟨ybn m.toNat, ?_⟩;have:(ybn m.toNat).toNat=m.toNat:=by simp;omega
 rw[this];omega
theorem ZLo{m:Int}(h:(Lit.int .u64 m).wf=true):∃b:UInt64,m=(b.toNat:Int):=by
 simp only[Lit.wf,yi,decide_eq_true_eq] at h;have h1:(0:Int)≤m:=h.1;have h2:m≤18446744073709551615:=h.2;refine⟨yal m.toNat, ?_⟩;have:(yal m.toNat).toNat=m.toNat:=by simp;omega
 rw[this];omega
theorem ZCS{α β:Type}{f:α→β}{R:α→Prop}:∀{ys:List β},(∀y,y∈ys→∃x,y=f x∧R x)→∃l:List α,ys=l.map f∧∀x,List.Mem x l→R x
 |[],_=>⟨[],rfl,λx hx=>by cases hx⟩
 |y::ys,h=>by
  obtain⟨x,rfl,hx⟩:=h y (yat ..);obtain⟨l,rfl,hl⟩:=ZCS (λz hz=>h z (yau _ hz))
  exact⟨x::l,rfl,λz hz=>by
   cases hz with
   |head=>exact hx
   |tail _ hz=>exact hl z hz⟩
mutual
theorem Zw2{P:yg}:∀(m n:Nat)(t:yc)(T:Ty)(x:Pl),ZCR P m t T=true→wtP P n t x→∃v:T.den,T.Wf v∧x=T.enc v
 |0,_,_,_,_,h,_=>by simp[ZCR] at h
 |_+1,0,_,_,_,_,h=>by simp[wtP] at h
 |m+1,n+1,t,T,x,h,hw=>by
  unfold ZCR at h;split at h
  ·rename_i hu;unfold wtP at hw;rw[hu] at hw;cases x <;> try exact hw.elim
   obtain⟨rfl,h2⟩:=hw;obtain⟨b,rfl⟩:=ZMf h2;exact⟨b,trivial,rfl⟩
  ·rename_i hu;unfold wtP at hw;rw[hu] at hw;cases x <;> try exact hw.elim
   obtain⟨rfl,h2⟩:=hw;obtain⟨b,rfl⟩:=ZLn h2;exact⟨b,trivial,rfl⟩
  ·rename_i hu;unfold wtP at hw;rw[hu] at hw;cases x <;> try exact hw.elim
   obtain⟨rfl,h2⟩:=hw;obtain⟨b,rfl⟩:=ZLo h2;exact⟨b,trivial,rfl⟩
  ·rename_i k k' hu;have h:=of_decide_eq_true h;subst h;unfold wtP at hw;rw[hu] at hw;cases x <;> try exact hw.elim
   obtain⟨rfl,h2⟩:=hw;exact⟨_,h2,rfl⟩
  ·rename_i hu;unfold wtP at hw;rw[hu] at hw;cases x <;> try exact hw.elim
   exact⟨_,trivial,rfl⟩
  ·rename_i hu;unfold wtP at hw;rw[hu] at hw;cases x <;> try exact hw.elim
   exact⟨_,hw,rfl⟩
  ·rename_i e T' hu;simp only[yi,beq_iff_eq] at h;unfold wtP at hw;rw[hu] at hw;cases x <;> try exact hw.elim
   obtain⟨rfl,rfl,h3,h4⟩:=hw
   obtain⟨l,rfl,h5⟩:=ZCS λy hy=>(by
    obtain⟨v,a,b⟩:=Zw2 m n e T' y h.2 (h4 y hy);exact⟨v,b,a⟩:∃v:T'.den,y=T'.enc v∧T'.Wf v)
   refine⟨l,⟨by simpa using h3,h5⟩, ?_⟩;rw[h.1];rfl
  ·rename_i m0 e m' T' hu;simp only[yi,beq_iff_eq] at h;obtain⟨rfl,h⟩:=h;unfold wtP at hw;rw[hu] at hw;cases x <;> try exact hw.elim
   obtain⟨rfl,rfl,h3,h4⟩:=hw
   obtain⟨l,rfl,h5⟩:=ZCS λy hy=>(by
    obtain⟨v,a,b⟩:=Zw2 m n e T' y h.2 (h4 y hy);exact⟨v,b,a⟩:∃v:T'.den,y=T'.enc v∧T'.Wf v)
   refine⟨l,⟨by simpa using h3,h5⟩, ?_⟩;rw[h.1];rfl
  ·rename_i fs Ts hu;unfold wtP at hw;rw[hu] at hw;cases x <;> try exact hw.elim
   rename_i xs;obtain⟨v,h1,rfl⟩:=wt_tys m n fs.toList Ts xs h hw;exact⟨v,h1,rfl⟩
  ·cases h
theorem wt_tys{P:yg}:∀(m n:Nat)(fs:List Field)(Ts:List Ty)(xs:List Pl),tyOks P m fs Ts=true→ZJG (wtP P n) fs xs→∃v:Ty.dens Ts,Ty.Wfs Ts v∧xs=Ty.encs Ts v
 |0,_,_,_,_,h,_=>by simp[tyOks] at h
 |m+1,n,[],[],[],h,hw=>⟨(),trivial,rfl⟩
 |m+1,n,[],[],_::_,h,hw=>hw.elim
 |m+1,n,[],_::_,_,h,hw=>by cases h
 |m+1,n,_::_,[],_,h,hw=>by cases h
 |m+1,n,_::_,_::_,[],h,hw=>hw.elim
 |m+1,n,f::fs,[T],x::xs,h,hw=>by
  simp only[tyOks,yi] at h;obtain⟨v,h1,rfl⟩:=Zw2 m n f.type T x h.1 hw.1
  cases fs with
  |nil=>cases xs with
   |nil=>exact⟨v,h1,rfl⟩
   |cons _ _=>exact hw.2.elim
  |cons _ _=>
   cases m with
   |zero=>exact absurd h.2 (by simp[tyOks])
   |succ m=>exact absurd h.2 (by simp[tyOks])
 |m+1,n,f::fs,T::U::Ts,x::xs,h,hw=>by
  simp only[tyOks,yi] at h;obtain⟨v,h1,rfl⟩:=Zw2 m n f.type T x h.1 hw.1;obtain⟨w,h2,rfl⟩:=wt_tys m n fs (U::Ts) xs h.2 hw.2;exact⟨(v,w),⟨h1,h2⟩,rfl⟩
end
theorem Zw3{I X:Type}{step:I→Option (I⊕X)}(Inv:I→Prop)(mu:I→Nat)(Post:X→Prop)
 (h:∀i,Inv i→(∃j,step i=some (.inl j)∧Inv j∧mu j < mu i)∨(∃x,step i=some (.inr x)∧Post x)):∀(n:Nat)(i:I),Inv i→mu i < n→∃x,Zc step n i=some x∧Post x
 |0,i,_,hn=>by omega
 |n+1,i,hi,hn=>by
  unfold Zc;rcases h i hi with⟨j,h1,h2,h3⟩|⟨x,h1,h2⟩
  ·rw[h1,yb];exact Zw3 Inv mu Post h n j h2 (by omega)
  ·rw[h1,yb];exact⟨x,rfl,h2⟩
theorem WW{I X:Type}{step:I→Option (I⊕X)}(Inv:I→Prop)(mu:I→Nat)(Post:X→Prop)
 (h:∀i,Inv i→(∃j,step i=some (.inl j)∧Inv j∧mu j < mu i)∨(∃x,step i=some (.inr x)∧Post x)) (i:I) (hi:Inv i) (hm:mu i < 18446744073709551616):∃x,Zc step fuel i=some x∧Post x:=by
 refine Zw3 Inv mu Post h fuel i hi ?_;rw[Zd5];exact hm
theorem ZN{z:Int}(h1: -9223372036854775808≤z)(h2:z≤9223372036854775807):wi z=z:=by
 simp only[wi,IntKind.wrap,IntKind.signed,IntKind.bits];simp;omega
theorem Zib{α:Type}{l:List α}{i:Int}{y:α}(h0:0≤i)(h:l[i.toNat]? =some y):idx l i=some y:=by
 unfold idx;rw[if_pos h0,h]
theorem ZbN{α:Type}{l:List α}{i:Nat}(h:i < l.length):∃y,l[i]? =some y:=⟨_,yac h⟩
theorem Wb{i:Int}{n:Nat}(h1:0≤i)(h2:i < (n:Int)):inB i n=true:=by simp[inB,h1,h2]
theorem Ys{n m b:Nat}(h1:(n+m)*b≤140737488355328)(h2:n+m≤9223372036854775807):apB n m b=true:=by
 unfold apB;rw[yi];exact⟨decide_eq_true h1,decide_eq_true h2⟩
def tdv:(ts:List Ty)→Ty.dens ts→List TD
 |[],_=>[]
 |[t],x=>[.p (.v t x)]
 |t::u::r,x=>.p (.v t x.1)::tdv (u::r) x.2
theorem ZEc:∀(ts:List Ty)(x:Ty.dens ts),Sh.fills (ts.map .v) (ofD ts x)=some (tdv ts x,[])
 |[],_=>rfl
 |[t],x=>by
  rw[show ofD [t] x=[⟨t,x⟩] from rfl,yaf,List.map_nil,Sh.fills,Sh.fill]
  have e:=YP t x;dsimp only;rw[e]
  rfl
 |t::u::r,x=>by
  have h:=ZEc (u::r) x.2;have e:=YP t x.1;rw[show ofD (t::u::r) x=⟨t,x.1⟩::ofD (u::r) x.2 from rfl,yaf,Sh.fills,Sh.fill]
  dsimp only;rw[e,yab,yb,h];rfl
theorem ZHN{L:Lk}:∀(ts:List Ty)(x:Ty.dens ts),TD.ers L (tdv ts x)=(Ty.encs ts x).map .p
 |[],_=>rfl
 |[t],x=>rfl
 |t::u::r,x=>by
  rw[show tdv (t::u::r) x=.p (.v t x.1)::tdv (u::r) x.2 from rfl,ZI,yaf, ←ZI,ZHN (u::r) x.2]
  rfl
theorem ZJJ{P:yg}{g:yu}{ts:List Ty}{M:Ty.dens ts→Option Bool}(hok:Fs.Ok (⟨g,ts.map .v,[],ts,[⟨.ret,[(0,.v .bool)],[],[.bool]⟩],M⟩:Fs P)){x:Ty.dens ts}(h:M x=some true):
 Con P g ((Ty.encs ts x).map .p) [] (.p (.bool true)) []:=by
 obtain⟨args,R,H,h1,h2,h3⟩:=hok x true h;have e:=(ZEc ts x).symm.trans (show Sh.fills (ts.map .v) (ofD ts x)=some (args,R) from h1)
 cases e;cases h2
 obtain⟨r,h4,h5⟩:=h3 _ [⟨.bool,true⟩] ([.p (.v .bool true)],[]) ⟨rfl,rfl⟩ (by
  simp only[Vt,shs];rfl)
 cases h4;rw[←ZHN (L:=lk [])];exact h5
theorem Znv{P:yg}{s:Fs P}(h:s.Ok){M:Ty.dens s.ins→Option (XSh.sum s.xs)}(e:∀x,M x=s.M x):Fs.Ok (P:=P) { s with M:=M}:=by
 have:M=s.M:=funext e;subst this;exact h
def Zt6(P:yg)(m:Nat):List yc→List Ty→Bool
 |[],[]=>true
 |t::ts,T::Ts=>ZCR P m t T&&Zt6 P m ts Ts
 |_,_=>false
theorem ZEd{P:yg}{m n:Nat}:∀{ts:List yc}{Ts:List Ty}{xs:List Pl},Zt6 P m ts Ts=true→ZJI P n ts xs→∃v:Ty.dens Ts,Ty.Wfs Ts v∧xs=Ty.encs Ts v
 |[],[],[],_,_=>⟨(),trivial,rfl⟩
 |[],[],_::_,_,h=>h.elim
 |[],_::_,_,h,_=>by cases h
 |_::_,[],_,h,_=>by cases h
 |_::_,_::_,[],_,h=>h.elim
 |t::ts,[T],x::xs,h,hw=>by
  simp only[Zt6,yi] at h;obtain⟨v,h1,rfl⟩:=Zw2 m n t T x h.1 hw.1
  cases ts with
  |nil=>cases xs with
   |nil=>exact⟨v,h1,rfl⟩
   |cons _ _=>exact hw.2.elim
  |cons _ _=>exact absurd h.2 (by simp[Zt6])
 |t::ts,T::U::Ts,x::xs,h,hw=>by
  simp only[Zt6,yi] at h;obtain⟨v,h1,rfl⟩:=Zw2 m n t T x h.1 hw.1;obtain⟨w,h2,rfl⟩:=ZEd (Ts:=U::Ts) h.2 hw.2;exact⟨(v,w),⟨h1,h2⟩,rfl⟩
theorem ZyH{P:yg}{g:yu}{t:Ty}{xs:List XSh}{MA M:Ty.dens [.sl t]→Option (XSh.sum xs)}(hA:Fs.Ok (⟨g,[.sl true t],[],[.sl t],xs,MA⟩:Fs P))
 (h1:M ([]:List t.den)=none) (h2:∀(x:t.den)(l:List t.den),M (x::l)=MA (x::l)):Fs.Ok (⟨g,[.v (.sl t)],[],[.sl t],xs,M⟩:Fs P):=by
 intro l o hM;have key:∀(l:List t.den),Ty.cast (.sl t) (.sl t) l=some l:=λl=>YP (.sl t) l
 have h3:∀l:List t.den,M l=some o→MA l=some o∧l≠[]:=λl hl=>by
  cases l with
  |nil=>rw[h1] at hl;cases hl
  |cons x l=>exact⟨by rw[←h2];exact hl,by simp⟩
 obtain⟨hMA,hne⟩:=h3 l hM;obtain⟨a1,R1,H1,f1,f2,f3⟩:=hA l o hMA
 have e1:a1=[.p (.sl (some true) t l)]∧R1=[]:=by
  have:Sh.fills [.sl true t] [(⟨.sl t,l⟩:TV)]=some (a1,R1):=f1;simp only[Sh.fills,Sh.fill] at this;rw[key l] at this;have this:some (([.p (.sl (some true) t l)]:List TD),([]:List TV))=some (a1,R1):=this;cases this;exact⟨rfl,rfl⟩
 obtain⟨rfl,rfl⟩:=e1;cases f2;refine⟨[.p (.v (.sl t) l)],[],[], ?_,rfl,λe vs s' hs hf=> ?_⟩
 ·show Sh.fills [.v (.sl t)] [(⟨.sl t,l⟩:TV)]=_;simp only[Sh.fills,Sh.fill];rw[key l];rfl
 ·obtain⟨r,r1,r2⟩:=f3 e vs s' hs hf;exact⟨r,r1,ZDu (xs:=List.map t.enc l) r2 λhl=>absurd (List.map_eq_nil_iff.1 hl) hne⟩
theorem ZMg{P:yg}{g:yu}{ps:List Sh}{es:List ESh}{ins:List Ty}{xr xp:XSh}{MR:Ty.dens ins→Option (XSh.sum [xr])}{MP:Ty.dens ins→Option (XSh.sum [xp])}(c:Ty.dens ins→Bool)
 (hR:Fs.Ok (⟨g,ps,es,ins,[xr],MR⟩:Fs P)) (hP:Fs.Ok (⟨g,ps,es,ins,[xp],MP⟩:Fs P)):Fs.Ok (⟨g,ps,es,ins,[xr,xp],λx=>if c x=true then(MP x).map .inr else(MR x).map .inl⟩:Fs P):=by
 intro x o hM
 replace hM:(if c x=true then(MP x).map Sum.inr else(MR x).map Sum.inl)=some o:=hM
 split at hM
 ·obtain⟨y,h1,rfl⟩:=yo.1 hM;obtain⟨a,R,H,f1,f2,f3⟩:=hP x y h1;exact⟨a,R,H,f1,f2,λe vs s' hs hf=>f3 e vs s' hs hf⟩
 ·obtain⟨y,h1,rfl⟩:=yo.1 hM;obtain⟨a,R,H,f1,f2,f3⟩:=hR x y h1;exact⟨a,R,H,f1,f2,λe vs s' hs hf=>f3 e vs s' hs hf⟩
end Go.Ev
end
section
namespace Go.Proofs.YtmkgbalfkhaflaaGreat
open Go.Ev Go.RowKit Go.Lib
theorem ZCT(w:yy):Calls ya 178 #[.slice none 0 0,.int .i64 0] w λe w'=>e=.returned (.slice none 0 0)∧w'=w:=by
 go_enter Tryz.func178,Tryz.ntmps178
 go_wp2
 go_ret
 exact⟨rfl,rfl⟩
theorem ZFE(n:Nat)(w:yy)(h0:0 < n)(hn:n≤Zs):Calls ya 178 #[.slice none 0 0,.int .i64 n] w λe w'=>e=.returned (.slice (some ⟨w.heap.size,0,none⟩) 0 (grownCap w n 0 5))∧
 w'=w.drew.alloc (.cells (Builtin.zeroCells #[.int .u8 0] n++Builtin.zeroCells #[.int .u8 0] (grownCap w n 0 5 - n)) 5):=by
 have hb:n≤140737488355328:=hn;have h1:¬((n:Int) < 0):=by omega
 have h3:wrap64 ((n:Int) - ((0:Int) - (0:Int)))=(n:Int):=by unfold wrap64;omega
 have h3':wrap64 ((n:Int) - 0)=(n:Int):=by unfold wrap64;omega
 have h3'':wrap64 (n:Int)=(n:Int):=by unfold wrap64;omega
 have h4:(n:Int) > 0:=by omega
 have hi:∃i,ya.info? 5=some i∧i.zero=some (.int .u8 0)∧i.size=1∧i.bytes=1:=by
  have h:(ya.info? 5).map (λi=>(i.zero,i.size,i.bytes))=some (some (.int .u8 0),1,1):=by kernel_rfl
  obtain⟨i,h1,h2⟩:=yo.1 h;simp only[Prod.mk.injEq] at h2;exact⟨i,h1,h2.1,h2.2.1,h2.2.2⟩
 obtain⟨i,hi1,hi2,hi3,hi4⟩:=hi
 have hrz:∀ty,(Builtin.append_ #[74,3] ty #[.slice none 0 0,.int .i64 n]).run ya w=
  .ok (.slice (some ⟨w.heap.size,0,none⟩) n (grownCap w n 0 5)) (w.drew.alloc (.cells (Builtin.zeroCells #[.int .u8 0] n++Builtin.zeroCells #[.int .u8 0] (grownCap w n 0 5 - n)) 5)):=λty=>by
  have h:=Lib.run_append_grow_zeros (P:=ya) w 74 3 ty 5 i (.int .u8 0) .i64 .i64 Tryz.underlying74 Tryz.underlying3 hi1 hi2 none 0 0 [] (by rw[hi3];simp[Builtin.firstCells]) n h0 (by omega) (by omega) (by omega)
   (by rw[hi4];omega) (by rw[ybb];exact growslice_fits h0 (by rw[hi4];omega))
  simpa[Value.cells] using h
 obtain⟨G,hG⟩:∃G,G=grownCap w n 0 5:=⟨_,rfl⟩;have hGn:=grownCap_ge w n 0 5;have hG63:=grownCap_le_maxLen w n 0 5 (by unfold maxLen;omega);unfold maxLen at hG63;rw[←hG] at hrz hGn hG63 ⊢;clear hG
 go_enter Tryz.func178,Tryz.ntmps178
 go_wp2_with (at_builtin;refine Lib.wpList_append_run _ rfl _ _ _ _ rfl _ _ rfl rfl _ _ (hrz _) ?_)
 all_goals (go_ret;exact⟨rfl,rfl⟩)
theorem ZHO(n:Nat)(hn:n≤Zs):Con ya 178 [.p (.sl (some false) 1 []),.p (.int .i64 (n:Int))] [] (.own 0 none 1 []) [.log 1 5 []]:=by
 intro σ vs ok hH hvs;simp only[repVs] at hvs;obtain⟨v,_,rfl,hv,v2,_,rfl,hv2,rfl⟩:=hvs;obtain rfl:=ZqU hv
 obtain rfl:v2=.int .i64 n:=by
  have:=hv2.2 rfl;simpa[repD,repC] using this
 have hm:σ.m=[]:=List.eq_nil_of_length_eq_zero (by rw[ok.len,hH];rfl);rcases ycf n with rfl|h0
 ·refine(ZCT σ.w).mono λe w'⟨he,hw⟩=> ?_;subst he;subst hw;obtain⟨to,ok'⟩:=Ww (σ':={ σ with m:=σ.m++[none],H:=σ.H++[.log 1 5 []]}) ok rfl rfl rfl rfl (World.grownBy.refl σ.w none) (.inl rfl) (λ_=>.inl ⟨rfl,rfl⟩);refine⟨_,{ σ with m:=σ.m++[none],H:=σ.H++[.log 1 5 []]},rfl,rfl,by simp[hH],to,ok', ?_⟩;rw[Ze rfl];simp only[repD];exact⟨λ_ hx=>(by cases hx),none,0,rfl,yn _,by simp[maxLen],ZY _,λ_=>rfl,λh=>absurd rfl h,5,[],by simp[hH],yn _,λ_=>.inl ⟨by simp[hm],rfl,rfl⟩⟩
 ·refine(ZFE n σ.w h0 hn).mono λe w'⟨he,hw⟩=> ?_;subst he;subst hw;have hge:=grownCap_ge σ.w n 0 5;have hcm:=grownCap_le_maxLen σ.w n 0 5 (by have:n≤140737488355328:=hn;unfold maxLen;omega)
  have hsz:(Builtin.zeroCells #[.int .u8 0] n++Builtin.zeroCells #[.int .u8 0] (grownCap σ.w n 0 5 - n):Array yh).size=grownCap σ.w n 0 5*1:=by
   simp only[Array.size_append,size_zeroCells];simp;omega
  let cs:Array yh:=Builtin.zeroCells #[.int .u8 0] n++Builtin.zeroCells #[.int .u8 0] (grownCap σ.w n 0 5 - n);let σ':Sg:={ σ with m:=σ.m++[some σ.w.heap.size],H:=σ.H++[.log 1 5 []],w:=σ.w.drew.alloc (.cells cs 5)};have hblk:σ'.w.heap[σ.w.heap.size]? =some (.cells cs 5 (0,0)):=heap_alloc_new σ.w.drew _
  obtain⟨to,ok'⟩:=Ww (σ':=σ') ok rfl rfl rfl rfl (YO σ.w (.cells cs 5) none) (.inr ⟨_,rfl,yn _,by simp[σ']⟩)
   (λleaf=>.inr ⟨σ.w.heap.size,_,grownCap σ.w n 0 5,rfl,hblk,hsz,Nat.zero_le _,hcm,λ_ hx=>(by cases hx),by simp[repCs]⟩)
  refine⟨_,σ',rfl,rfl,by simp[σ',hH],to,ok', ?_⟩;rw[Ze rfl];simp only[repD];exact⟨λ_ hx=>(by cases hx),_,_,rfl,Nat.zero_le _,hcm,ZY _,λh=>(by cases h),λh=>absurd rfl h,5,[],by simp[σ',hH],yn _,λ_=>.inr ⟨_,_,by simp[σ',hm],rfl,hblk,hsz⟩⟩
end Go.Proofs.YtmkgbalfkhaflaaGreat
end
section
set_option maxRecDepth 4000
namespace Go.Proofs.YtmkgbalfkhaflaaGreat
open Go Go.Ev
noncomputable section
abbrev yI:Ty:=.int .i64
abbrev ZB:Ty:=(.st [yI,yI,yI,.u64,yI])
abbrev ZL:Type:=(Int×Int×Int×UInt64×Int)
abbrev Z9:Ty:=(.st [.u64,.u64])
abbrev Sig:Type:=(UInt64×UInt64)
abbrev Sig.R(x:Sig):UInt64:=x.1
abbrev XI:Ty:=(.st [(.arr 32 .u8),yI])
abbrev XQ:Type:=((List UInt8)×Int)
abbrev XQ.N(x:XQ):Int:=x.2
abbrev Zt7:Ty:=(.st [yI,(.sl Z9),.u64])
abbrev ZEe:Type:=(Int×(List Sig)×UInt64)
abbrev yIn:Ty:=(.st [XI,Zt7])
abbrev In:Type:=(XQ×ZEe)
abbrev Zo:Ty:=(.st [(.sl .u64),yI,yI,.u64])
abbrev ZC:Type:=((List UInt64)×Int×Int×UInt64)
abbrev Zp:Ty:=(.st [(.sl Zo)])
abbrev Zz:Type:=(List ZC)
abbrev Zy:Ty:=(.st [yI,Zp])
abbrev Out:Type:=(Int×Zz)
abbrev yTx:Ty:=(.st [(.sl yIn),(.sl Zy),yI])
abbrev Tx:Type:=((List In)×(List Out)×Int)
abbrev VK:Ty:=(.st [.u64,.u64,.u64,.u64,.u64])
abbrev VF:Type:=(UInt64×UInt64×UInt64×UInt64×UInt64)
abbrev VF.Cond(x:VF):UInt64:=x.2.2.2.1
abbrev Zc8:Ty:=(.st [yI,yI,yI,yI,yI,yI])
abbrev QP:Type:=(Int×Int×Int×Int×Int×Int)
abbrev Zw:Ty:=(.st [yI,yI,yI,ZB,.u64,(.sl .u8),yI,Z9,(.arr 32 .u8),.u64,yTx,VK,Zc8,(.sl .u8)])
abbrev Msg:Type:=(Int×Int×Int×ZL×UInt64×(List UInt8)×Int×Sig×(List UInt8)×UInt64×Tx×VF×QP×(List UInt8))
abbrev Msg.Cond(x:Msg):ZL:=x.2.2.2.1
abbrev Msg.Bytes(x:Msg):(List UInt8):=x.2.2.2.2.2.2.2.2.2.2.2.2.2
def Zc9(F:Nat)(a0:Msg)(s0:Int):Option ((Bool×Int)):=
 some (a0.1==s0,s0)
def ZoF(F:Nat):Fs ya:=⟨100,[.v Zw,.ref 0 []],[.var (.v yI) true],[Zw,yI],[⟨.ret,[(0,.v .bool)],[.var (.v yI) true],[.bool,yI]⟩],λx=>Zc9 F x.1 x.2⟩
def Zhj:Fs ya:=ZoF fuel
theorem ZoG:Zhj.Ok:=Zf (fi:={ hi:={ still:=[3]},lp:=[]}) (specs:={ l:=[]}) (okS trivial) trivial (by decide+kernel) (λx=>by kernel_rfl)
def Zcw(F:Nat)(s:((List Msg)×Int×Int×Int)):Option (((List Msg)×Int×Int×Int)⊕((Int×Int)⊕Int)):=
 if(decide (s.2.2.1 < s.2.1))=true then
  (idx s.1 s.2.2.1).bind λe1=>
  (Zc9 F e1 s.2.2.2).bind λo2=>
  if o2.1=true then
   some (.inr (.inl (s.2.2.1,o2.2)))
  else
  some (.inl (s.1,s.2.1,wi (s.2.2.1+1),o2.2))
 else
 some (.inr (.inr s.2.2.2))
def Zt8:Lp:=⟨[(0,.v (.sl Zw)),(1,.fn 100 [.ref 0 []]),(7,.v yI),(8,.v yI)],[.var (.v yI) true],[(.sl Zw),yI,yI,yI],[⟨.ret,[(4,.v yI)],[.var (.v yI) true],[yI,yI]⟩,⟨.exit 0,[],[.var (.v yI) true],[yI]⟩],Zc (Zcw fuel) fuel⟩
theorem ZvI:Zt8.Ok ya (Zj ya 99) (Zm ya 99 0):=Zh (fi:={ hi:={ still:=[4,15]},lp:=[]}) (specs:={ l:=[Zhj]}) (okS ⟨ZoG,trivial⟩) trivial (by kernel_rfl) (λv=>by kernel_rfl)
def Zkk(F:Nat)(a0:(List Msg))(s0:Int):Option ((Int×Int)):=
 (Zc (Zcw F) F (a0,(a0.length:Int),(0:Int),s0)).bind λo3=>
 match o3 with
 |.inl o4=>
  some (o4.1,o4.2)
 |.inr o5=>
  some ((-1:Int),o5)
def ZCU(F:Nat):Fs ya:=⟨99,[.v (.sl Zw),.fn 100 [.ref 0 []]],[.var (.v yI) true],[(.sl Zw),yI],[⟨.ret,[(0,.v yI)],[.var (.v yI) true],[yI,yI]⟩],λx=>Zkk F x.1 x.2⟩
def Zw4:Fs ya:=ZCU fuel
theorem ZCV:Zw4.Ok:=Zf (fi:={ hi:={ still:=[4,15]},lp:=[(0,Zt8)]}) (specs:={ l:=[]}) (okS trivial) ⟨ZvI,trivial⟩ (by decide+kernel) (λx=>by kernel_rfl)
def Vz(F:Nat)(a0:(List Msg))(a1:Int):Option ((Msg×Bool)):=
 (Zkk F a0 a1).bind λo8=>
 if(decide (o8.1 < 0))=true then
  some (((0:Int),(0:Int),(0:Int),((0:Int),(0:Int),(0:Int),(0:UInt64),(0:Int)),(0:UInt64),([]:List UInt8),(0:Int),((0:UInt64),(0:UInt64)),([0,0,0,0,0,0,0,0,0,0,0,0,0,0,0,0,0,0,0,0,0,0,0,0,0,0,0,0,0,0,0,0]:List UInt8),(0:UInt64),(([]:List In),([]:List Out),(0:Int)),((0:UInt64),(0:UInt64),(0:UInt64),(0:UInt64),(0:UInt64)),((0:Int),(0:Int),(0:Int),(0:Int),(0:Int),(0:Int)),([]:List UInt8)),false)
 else
 (idx a0 o8.1).bind λe9=>
 some (e9,true)
def Zda(F:Nat):Fs ya:=⟨43,[.v (.sl Zw),.v yI],[],[(.sl Zw),yI],[⟨.ret,[(0,.tup [.v Zw,.v .bool])],[],[Zw,.bool]⟩],λx=>Vz F x.1 x.2⟩
def ZaM:Fs ya:=Zda fuel
theorem QX:ZaM.Ok:=Zf (fi:={ hi:={ still:=[5,7,8]},lp:=[]}) (specs:={ l:=[Zw4]}) (okS ⟨ZCV,trivial⟩) trivial (by decide+kernel) (λx=>by kernel_rfl)
def ZaN(F:Nat)(a0:QP)(a1:Int):Option (Bool):=
 some (decide (a1 ≥ a0.1))
def Zt9(F:Nat):Fs ya:=⟨22,[.v Zc8,.v yI],[],[Zc8,yI],[⟨.ret,[(0,.v .bool)],[],[.bool]⟩],λx=>ZaN F x.1 x.2⟩
def ZmF:Fs ya:=Zt9 fuel
theorem Zua:ZmF.Ok:=Zf (fi:={ hi:={ still:=[4]},lp:=[]}) (specs:={ l:=[]}) (okS trivial) trivial (by decide+kernel) (λx=>by kernel_rfl)
def Zrh:ByteArray:=⟨#[0,1,2,2,3,3,3,3,4,4,4,4,4,4,4,4,5,5,5,5,5,5,5,5,5,5,5,5,5,5,5,5,6,6,6,6,6,6,6,6,6,6,6,6,6,6,6,6,6,6,6,6,6,6,6,6,6,6,6,6,6,6,6,6,7,7,7,7,7,7,7,7,7,7,7,7,7,7,7,7,7,7,7,7,7,7,7,7,7,7,7,7,7,7,7,7,7,7,7,7,7,7,7,7,7,7,7,7,7,7,7,7,7,7,7,7,7,7,7,7,7,7,7,7,7,7,7,7,8,8,8,8,8,8,8,8,8,8,8,8,8,8,8,8,8,8,8,8,8,8,8,8,8,8,8,8,8,8,8,8,8,8,8,8,8,8,8,8,8,8,8,8,8,8,8,8,8,8,8,8,8,8,8,8,8,8,8,8,8,8,8,8,8,8,8,8,8,8,8,8,8,8,8,8,8,8,8,8,8,8,8,8,8,8,8,8,8,8,8,8,8,8,8,8,8,8,8,8,8,8,8,8,8,8,8,8,8,8,8,8,8,8,8,8,8,8,8,8,8,8,8,8,8,8,8,8]⟩
def Zri(F:Nat)(a0:UInt64):Option (Int):=
 if(decide (a0 ≥ 4294967296))=true then
  if(decide ((ZF a0 32) ≥ 65536))=true then
   if(decide ((ZF (ZF a0 32) 16) ≥ 256))=true then
    let y10:UInt8:=w8 ((ZF (ZF (ZF a0 32) 16) 8).toNat:Int)
    (idx (Zp1 Zrh) (y10.toNat:Int)).bind λe11=>
    some (wi (56+(e11.toNat:Int)))
   else
   (idx (Zp1 Zrh) ((w8 ((ZF (ZF a0 32) 16).toNat:Int)).toNat:Int)).bind λe12=>
   some (wi (48+(e12.toNat:Int)))
  else
  if(decide ((ZF a0 32) ≥ 256))=true then
   (idx (Zp1 Zrh) ((w8 ((ZF (ZF a0 32) 8).toNat:Int)).toNat:Int)).bind λe13=>
   some (wi (40+(e13.toNat:Int)))
  else
  (idx (Zp1 Zrh) ((w8 ((ZF a0 32).toNat:Int)).toNat:Int)).bind λe14=>
  some (wi (32+(e14.toNat:Int)))
 else
 if(decide (a0 ≥ 65536))=true then
  if(decide ((ZF a0 16) ≥ 256))=true then
   (idx (Zp1 Zrh) ((w8 ((ZF (ZF a0 16) 8).toNat:Int)).toNat:Int)).bind λe15=>
   some (wi (24+(e15.toNat:Int)))
  else
  (idx (Zp1 Zrh) ((w8 ((ZF a0 16).toNat:Int)).toNat:Int)).bind λe16=>
  some (wi (16+(e16.toNat:Int)))
 else
 if(decide (a0 ≥ 256))=true then
  (idx (Zp1 Zrh) ((w8 ((ZF a0 8).toNat:Int)).toNat:Int)).bind λe17=>
  some (wi (8+(e17.toNat:Int)))
 else
 (idx (Zp1 Zrh) ((w8 (a0.toNat:Int)).toNat:Int)).bind λe18=>
 some (wi (0+(e18.toNat:Int)))
def ZvJ(F:Nat):Fs ya:=⟨192,[.v .u64],[],[.u64],[⟨.ret,[(0,.v yI)],[],[yI]⟩],λx=>Zri F x⟩
def ZoH:Fs ya:=ZvJ fuel
theorem ZvK:ZoH.Ok:=Zf (fi:={ hi:={ still:=[2]},lp:=[]}) (specs:={ l:=[]}) (okS trivial) trivial (by decide+kernel) (λx=>by kernel_rfl)
def Yg(F:Nat)(a0:UInt64):Option (Int):=
 (Zri F a0).bind λo19=>
 some (wi (64 - o19))
def Zic(F:Nat):Fs ya:=⟨191,[.v .u64],[],[.u64],[⟨.ret,[(0,.v yI)],[],[yI]⟩],λx=>Yg F x⟩
def Zbh:Fs ya:=Zic fuel
theorem Zid:Zbh.Ok:=Zf (fi:={ hi:={ still:=[2,3]},lp:=[]}) (specs:={ l:=[ZoH]}) (okS ⟨ZvK,trivial⟩) trivial (by decide+kernel) (λx=>by kernel_rfl)
def Qb(F:Nat)(s:(UInt64×UInt64×UInt64×UInt64×UInt64×UInt64×UInt64×UInt64×UInt64)):Option ((UInt64×UInt64×UInt64×UInt64×UInt64×UInt64×UInt64×UInt64×UInt64)⊕(UInt64×UInt64×UInt64×UInt64×UInt64×UInt64×UInt64×UInt64)):=
 if(decide (s.2.2.2.2.2.2.2.1 ≥ 4294967296))=true then
  let y27:Bool:=decide ((s.2.2.2.2.2.2.2.2+s.2.2.1) ≥ 4294967296)
  if y27=true then
   some (.inr (s.1,s.2.1,s.2.2.1,s.2.2.2.1,s.2.2.2.2.1,s.2.2.2.2.2.1,s.2.2.2.2.2.2.1,s.2.2.2.2.2.2.2.1 - 1))
  else
  some (.inl (s.1,s.2.1,s.2.2.1,s.2.2.2.1,s.2.2.2.2.1,s.2.2.2.2.2.1,s.2.2.2.2.2.2.1,s.2.2.2.2.2.2.2.1 - 1,s.2.2.2.2.2.2.2.2+s.2.2.1))
 else
 let y28:Bool:=decide ((s.2.2.2.2.2.2.2.1*s.2.2.2.1) > ((4294967296*s.2.2.2.2.2.2.2.2)+s.2.2.2.2.2.1))
 if y28=true then
  let y29:Bool:=decide ((s.2.2.2.2.2.2.2.2+s.2.2.1) ≥ 4294967296)
  if y29=true then
   some (.inr (s.1,s.2.1,s.2.2.1,s.2.2.2.1,s.2.2.2.2.1,s.2.2.2.2.2.1,s.2.2.2.2.2.2.1,s.2.2.2.2.2.2.2.1 - 1))
  else
  some (.inl (s.1,s.2.1,s.2.2.1,s.2.2.2.1,s.2.2.2.2.1,s.2.2.2.2.2.1,s.2.2.2.2.2.2.1,s.2.2.2.2.2.2.2.1 - 1,s.2.2.2.2.2.2.2.2+s.2.2.1))
 else
 some (.inr (s.1,s.2.1,s.2.2.1,s.2.2.2.1,s.2.2.2.2.1,s.2.2.2.2.2.1,s.2.2.2.2.2.2.1,s.2.2.2.2.2.2.2.1))
def ZmG:Lp:=⟨[(2,.v .u64),(8,.v .u64),(9,.v .u64),(10,.v .u64),(11,.v .u64),(13,.v .u64),(14,.v .u64),(15,.v .u64),(16,.v .u64)],[],[.u64,.u64,.u64,.u64,.u64,.u64,.u64,.u64,.u64],[⟨.exit 0,[(2,.v .u64),(8,.v .u64),(9,.v .u64),(10,.v .u64),(11,.v .u64),(13,.v .u64),(14,.v .u64),(15,.v .u64)],[],[.u64,.u64,.u64,.u64,.u64,.u64,.u64,.u64]⟩],Zc (Qb fuel) fuel⟩
theorem Zqb:ZmG.Ok ya (Zj ya 185) (Zm ya 185 0):=Zh (fi:={ hi:={ still:=[6,7,34]},lp:=[]}) (specs:={ l:=[]}) (okS trivial) trivial (by kernel_rfl) (λv=>by kernel_rfl)
def Qc(F:Nat)(s:(UInt64×UInt64×UInt64×UInt64×UInt64×UInt64×UInt64×UInt64×UInt64)):Option ((UInt64×UInt64×UInt64×UInt64×UInt64×UInt64×UInt64×UInt64×UInt64)⊕(UInt64×UInt64×UInt64×UInt64×UInt64×UInt64)):=
 if(decide (s.2.2.2.2.2.2.2.2 ≥ 4294967296))=true then
  let y32:Bool:=decide ((s.2.2.2.2.2.2.1+s.2.2.1) ≥ 4294967296)
  if y32=true then
   some (.inr (s.1,s.2.1,s.2.2.2.2.1,s.2.2.2.2.2.1,s.2.2.2.2.2.2.2.1,s.2.2.2.2.2.2.2.2 - 1))
  else
  some (.inl (s.1,s.2.1,s.2.2.1,s.2.2.2.1,s.2.2.2.2.1,s.2.2.2.2.2.1,s.2.2.2.2.2.2.1+s.2.2.1,s.2.2.2.2.2.2.2.1,s.2.2.2.2.2.2.2.2 - 1))
 else
 let y33:Bool:=decide ((s.2.2.2.2.2.2.2.2*s.2.2.2.1) > ((4294967296*s.2.2.2.2.2.2.1)+s.2.2.2.2.1))
 if y33=true then
  let y34:Bool:=decide ((s.2.2.2.2.2.2.1+s.2.2.1) ≥ 4294967296)
  if y34=true then
   some (.inr (s.1,s.2.1,s.2.2.2.2.1,s.2.2.2.2.2.1,s.2.2.2.2.2.2.2.1,s.2.2.2.2.2.2.2.2 - 1))
  else
  some (.inl (s.1,s.2.1,s.2.2.1,s.2.2.2.1,s.2.2.2.2.1,s.2.2.2.2.2.1,s.2.2.2.2.2.2.1+s.2.2.1,s.2.2.2.2.2.2.2.1,s.2.2.2.2.2.2.2.2 - 1))
 else
 some (.inr (s.1,s.2.1,s.2.2.2.2.1,s.2.2.2.2.2.1,s.2.2.2.2.2.2.2.1,s.2.2.2.2.2.2.2.2))
def ZmH:Lp:=⟨[(2,.v .u64),(8,.v .u64),(9,.v .u64),(10,.v .u64),(14,.v .u64),(15,.v .u64),(16,.v .u64),(17,.v .u64),(18,.v .u64)],[],[.u64,.u64,.u64,.u64,.u64,.u64,.u64,.u64,.u64],[⟨.exit 2,[(2,.v .u64),(8,.v .u64),(14,.v .u64),(15,.v .u64),(17,.v .u64),(18,.v .u64)],[],[.u64,.u64,.u64,.u64,.u64,.u64]⟩],Zc (Qc fuel) fuel⟩
theorem Zqc:ZmH.Ok ya (Zj ya 185) (Zm ya 185 1):=Zh (fi:={ hi:={ still:=[6,7,34]},lp:=[]}) (specs:={ l:=[]}) (okS trivial) trivial (by kernel_rfl) (λv=>by kernel_rfl)
def Zf7(F:Nat)(a0:UInt64)(a1:UInt64)(a2:UInt64):Option ((UInt64×UInt64)):=
 if(a2==0)=true then
  none
 else
 if(decide (a2≤a0))=true then
  none
 else
 if(a0==0)=true then
  if(a2 !=0)=true then
   if(a2 !=0)=true then
    some (a1 / a2,a1 % a2)
   else
   none
  else
  none
 else
 (Yg F a2).bind λo20=>
 let y21:UInt64:=ZF (VJ a2 (min ((w64 o20).toNat:Int).toNat 64)) 32;let y22:UInt64:=(VJ a2 (min ((w64 o20).toNat:Int).toNat 64))&&&4294967295;let y23:UInt64:=ZF a1 (min ((64 - (w64 o20)).toNat:Int).toNat 64);let y24:UInt64:=(VJ a0 (min ((w64 o20).toNat:Int).toNat 64))|||y23;let y25:UInt64:=ZF (VJ a1 (min ((w64 o20).toNat:Int).toNat 64)) 32;let y26:UInt64:=(VJ a1 (min ((w64 o20).toNat:Int).toNat 64))&&&4294967295
 if(y21 !=0)=true then
  (Zc (Qb F) F (VJ a2 (min ((w64 o20).toNat:Int).toNat 64),w64 o20,y21,y22,y24,y25,y26,y24 / y21,y24 - ((y24 / y21)*y21))).bind λo30=>
  let y31:UInt64:=((o30.2.2.2.2.1*4294967296)+o30.2.2.2.2.2.1) - (o30.2.2.2.2.2.2.2*o30.1)
  if(o30.2.2.1 !=0)=true then
   (Zc (Qc F) F (o30.1,o30.2.1,o30.2.2.1,o30.2.2.2.1,o30.2.2.2.2.2.2.1,o30.2.2.2.2.2.2.2,y31 - ((y31 / o30.2.2.1)*o30.2.2.1),y31,y31 / o30.2.2.1)).bind λo35=>
   let y36:UInt64:=((o35.2.2.2.2.1*4294967296)+o35.2.2.1) - (o35.2.2.2.2.2*o35.1)
   some ((o35.2.2.2.1*4294967296)+o35.2.2.2.2.2,ZF y36 (min (o35.2.1.toNat:Int).toNat 64))
  else
  none
 else
 none
def ZvL(F:Nat):Fs ya:=⟨185,[.v .u64,.v .u64,.v .u64],[],[.u64,.u64,.u64],[⟨.ret,[(0,.tup [.v .u64,.v .u64])],[],[.u64,.u64]⟩],λx=>Zf7 F x.1 x.2.1 x.2.2⟩
def ZoI:Fs ya:=ZvL fuel
theorem ZvM:ZoI.Ok:=Zf (fi:={ hi:={ still:=[6,7,34]},lp:=[(0,ZmG),(1,ZmH)]}) (specs:={ l:=[Zbh]}) (okS ⟨Zid,trivial⟩) ⟨Zqb,Zqc,trivial⟩ (by decide+kernel) (λx=>by kernel_rfl)
def ZaO(F:Nat)(a0:UInt64)(a1:UInt64)(a2:UInt64):Option (UInt64):=
 if(a2 !=0)=true then
  (Zf7 F (a0 % a2) a1 a2).bind λo37=>
  some o37.2
 else
 none
def ZeU(F:Nat):Fs ya:=⟨172,[.v .u64,.v .u64,.v .u64],[],[.u64,.u64,.u64],[⟨.ret,[(0,.v .u64)],[],[.u64]⟩],λx=>ZaO F x.1 x.2.1 x.2.2⟩
def ZvN:Fs ya:=ZeU fuel
theorem Zub:ZvN.Ok:=Zf (fi:={ hi:={ still:=[6,12,13,14]},lp:=[]}) (specs:={ l:=[ZoI]}) (okS ⟨ZvM,trivial⟩) trivial (by decide+kernel) (λx=>by kernel_rfl)
end
end Go.Proofs.YtmkgbalfkhaflaaGreat
end
section
namespace Go.Ev
theorem ZsC(a m:UInt64):(a - a / m*m).toNat=a.toNat % m.toNat:=by
 have h1:a.toNat / m.toNat*m.toNat≤a.toNat:=Nat.div_mul_le_self _ _;have h2:=ybm a
 have h3:(a / m*m).toNat=a.toNat / m.toNat*m.toNat:=by
  rw[UInt64.toNat_mul,UInt64.toNat_div,yaj (by omega)]
 have h4:(a / m*m)≤a:=by rw[ycp,h3];exact h1
 rw[UInt64.toNat_sub_of_le _ _ h4,h3];have:=Nat.div_add_mod a.toNat m.toNat
 rw[ybi] at this;omega
theorem Zkl(x:UInt64):(x&&&4294967295).toNat=x.toNat % 4294967296:=by
 rw[UInt64.toNat_and];exact Nat.and_two_pow_sub_one_eq_mod x.toNat 32
theorem Q9(x:UInt64)(n:Nat):(ZF x n).toNat=x.toNat / 2 ^ n:=by
 unfold ZF;rw[ybe,yaj (Nat.lt_of_le_of_lt (Nat.div_le_self ..) (ybm _))]
theorem ZlO{x y:UInt64}(h:x.toNat+y.toNat < 18446744073709551616):(x+y).toNat=x.toNat+y.toNat:=by
 rw[UInt64.toNat_add,yaj h]
theorem ZlP{x y:UInt64}(h:x.toNat*y.toNat < 18446744073709551616):(x*y).toNat=x.toNat*y.toNat:=by
 rw[UInt64.toNat_mul,yaj h]
theorem Zkm{a b:Nat}(ha:a < 4294967296)(hb:b < 4294967296):a*b≤18446744065119617025:=Nat.mul_le_mul (Nat.le_of_lt_succ ha) (Nat.le_of_lt_succ hb)
end Go.Ev
end
section
set_option maxRecDepth 4000
namespace Go.Proofs.YtmkgbalfkhaflaaGreat
open Go Go.Ev
section
variable{y1 y0 u d q r:Nat}
theorem ZMh(h:q*y1+r=u)(hc:4294967296*r+d < q*y0):u*4294967296+d < q*(y1*4294967296+y0):=by
 have e:q*(y1*4294967296+y0)=q*y1*4294967296+q*y0:=by rw[Nat.mul_add,Nat.mul_assoc]
 rw[e];omega
theorem ZHP(h:q*y1+r=u)(hc:q*y0≤4294967296*r+d):q*(y1*4294967296+y0)≤u*4294967296+d:=by
 have e:q*(y1*4294967296+y0)=q*y1*4294967296+q*y0:=by rw[Nat.mul_add,Nat.mul_assoc]
 rw[e];omega
theorem ZLp(hu:u < y1*4294967296+y0)(hd:d < 4294967296):(u*4294967296+d) / (y1*4294967296+y0) < 4294967296:=by
 rw[Nat.div_lt_iff_lt_mul (by omega)];omega
theorem ZEf(h:q*y1+r=u)(hq:1≤q):(q - 1)*y1+(r+y1)=u:=by
 have e:q*y1=(q - 1)*y1+y1:=by
  rw[←Nat.succ_mul];congr 1;omega
 omega
theorem ZHQ(hu:u < y1*4294967296+y0)(h0:y0 < 4294967296)(h:q*y1+r=u)(hr:4294967296≤r):q*y0≤4294967296*r+d:=by
 by_cases hq:q < 4294967296
 ·have:q*y0≤4294967295*4294967295:=Nat.mul_le_mul (by omega) (by omega);omega
 ·have:4294967296*y1≤q*y1:=ybu _ (by omega);omega
end
theorem ZCW{q T Y:Nat}(hY:0 < Y)(h1:T / Y≤q)(h2:q*Y≤T):q=T / Y:=Nat.le_antisymm ((Nat.le_div_iff_mul_le hY).2 h2) h1
theorem ZA2{y1 y0 u d:Nat}{Q R Y0 Y1 D:UInt64}(hY1:Y1.toNat=y1)(hY0:Y0.toNat=y0)(hD:D.toNat=d)(h1:y1 < 4294967296)(h0:y0 < 4294967296)(hd:d < 4294967296)(hu:u < y1*4294967296+y0)
 (e:Q.toNat*y1+R.toNat=u) (hr:R.toNat < 4294967296) (hge:(u*4294967296+d) / (y1*4294967296+y0)≤Q.toNat):
 ((Q ≥ 4294967296∨(Q*Y0 > (4294967296*R)+D))∧(u*4294967296+d) / (y1*4294967296+y0)≤(Q - 1).toNat∧(Q - 1).toNat*y1+(R+Y1).toNat=u∧(R+Y1).toNat=R.toNat+y1)∨
 (¬Q ≥ 4294967296∧¬(Q*Y0 > (4294967296*R)+D)∧Q.toNat=(u*4294967296+d) / (y1*4294967296+y0)):=by
 have hadd:(R+Y1).toNat=R.toNat+y1:=by rw[ZlO (by omega),hY1]
 have hrd:((4294967296*R)+D).toNat=4294967296*R.toNat+d:=by
  have m:(4294967296*R:UInt64).toNat=4294967296*R.toNat:=by
   rw[ZlP (by show 4294967296*R.toNat < _;omega)];rfl
  rw[ZlO (by rw[m];omega),m,hD]
 have dec:1≤Q.toNat→(Q - 1).toNat=Q.toNat - 1:=λh=>by
  rw[UInt64.toNat_sub_of_le _ _ (by rw[ycp];exact h)];rfl
 by_cases c1:Q ≥ 4294967296
 ·left
  have hq:4294967296≤Q.toNat:=by
   rw[ge_iff_le,ycp] at c1;exact c1
  have:=ZLp hu hd;refine⟨.inl c1,by rw[dec (by omega)];omega, ?_,hadd⟩;rw[dec (by omega),hadd];exact ZEf e (by omega)
 have hq:Q.toNat < 4294967296:=by
  rw[ge_iff_le,ycp] at c1;exact Nat.lt_of_not_le c1
 have hmul:(Q*Y0).toNat=Q.toNat*y0:=by
  have:=Zkm hq h0;rw[ZlP (by rw[hY0];omega),hY0]
 by_cases c2:Q*Y0 > (4294967296*R)+D
 ·left
  have c3:4294967296*R.toNat+d < Q.toNat*y0:=by
   have:=ybv.1 c2;rw[hmul,hrd] at this;exact this
  have q1:1≤Q.toNat:=by
   rcases ycf Q.toNat with h|h
   ·rw[h,Nat.zero_mul] at c3;omega
   ·exact h
  have hg:=ZMh (d:=d) e c3;have hlt:(u*4294967296+d) / (y1*4294967296+y0) < Q.toNat:=(Nat.div_lt_iff_lt_mul (by omega)).2 hg;refine⟨.inr c2,by rw[dec q1];omega, ?_,hadd⟩;rw[dec q1,hadd];exact ZEf e q1
 ·right
  have c3:Q.toNat*y0≤4294967296*R.toNat+d:=by
   have:¬(((4294967296*R)+D).toNat < (Q*Y0).toNat):=λh=>c2 (ybv.2 h);rw[hmul,hrd] at this;omega
  exact⟨c1,c2,ZCW (by omega) hge (ZHP e c3)⟩
theorem ZMi{y1 y0 u d:Nat}{Yv N Y1 Y0 U D E Q R:UInt64}(hY1:Y1.toNat=y1)(hY0:Y0.toNat=y0)(hD:D.toNat=d)(h1:y1 < 4294967296)(h3:0 < y1)(h0:y0 < 4294967296)(hd:d < 4294967296)(hu:u < y1*4294967296+y0)
 (e:Q.toNat*y1+R.toNat=u) (hr:R.toNat < 4294967296) (hge:(u*4294967296+d) / (y1*4294967296+y0)≤Q.toNat):
 ∃q:UInt64,Zc (Qb fuel) fuel (Yv,N,Y1,Y0,U,D,E,Q,R)=some (Yv,N,Y1,Y0,U,D,E,q)∧q.toNat=(u*4294967296+d) / (y1*4294967296+y0):=by
 obtain⟨x,hx,q,rfl,hq⟩:=WW (step:=Qb fuel) (λs=>∃Q R:UInt64,s=(Yv,N,Y1,Y0,U,D,E,Q,R)∧Q.toNat*y1+R.toNat=u∧R.toNat < 4294967296∧(u*4294967296+d) / (y1*4294967296+y0)≤Q.toNat)
  (λs=>4294967296 - s.2.2.2.2.2.2.2.2.toNat) (λx=>∃q:UInt64,x=(Yv,N,Y1,Y0,U,D,E,q)∧q.toNat=(u*4294967296+d) / (y1*4294967296+y0)) (by
  rintro _ ⟨Q,R,rfl,e,hr,hge⟩;unfold Qb;dsimp only;rcases ZA2 hY1 hY0 hD h1 h0 hd hu e hr hge with⟨c,k1,k2,k3⟩|⟨c1,c2,k⟩
  ·have key:(∃j,(if decide (R+Y1 ≥ 4294967296)=true then some (Sum.inr (Yv,N,Y1,Y0,U,D,E,Q - 1)) else some (Sum.inl (Yv,N,Y1,Y0,U,D,E,Q - 1,R+Y1)):Option ((UInt64×UInt64×UInt64×UInt64×UInt64×UInt64×UInt64×UInt64×UInt64)⊕(UInt64×UInt64×UInt64×UInt64×UInt64×UInt64×UInt64×UInt64)))=some (.inl j)∧
    (∃Q R:UInt64,j=(Yv,N,Y1,Y0,U,D,E,Q,R)∧Q.toNat*y1+R.toNat=u∧R.toNat < 4294967296∧(u*4294967296+d) / (y1*4294967296+y0)≤Q.toNat)∧4294967296 - j.2.2.2.2.2.2.2.2.toNat < 4294967296 - R.toNat)∨
    (∃x,(if decide (R+Y1 ≥ 4294967296)=true then some (Sum.inr (Yv,N,Y1,Y0,U,D,E,Q - 1)) else some (Sum.inl (Yv,N,Y1,Y0,U,D,E,Q - 1,R+Y1)):Option ((UInt64×UInt64×UInt64×UInt64×UInt64×UInt64×UInt64×UInt64×UInt64)⊕(UInt64×UInt64×UInt64×UInt64×UInt64×UInt64×UInt64×UInt64)))=some (.inr x)∧
    ∃q:UInt64,x=(Yv,N,Y1,Y0,U,D,E,q)∧q.toNat=(u*4294967296+d) / (y1*4294967296+y0)):=by
    by_cases hb:R+Y1 ≥ 4294967296
    ·right;rw[if_pos (decide_eq_true hb)]
     have hb2:4294967296≤(R+Y1).toNat:=by
      rw[ge_iff_le,ycp] at hb;exact hb
     exact⟨_,rfl,_,rfl,ZCW (by omega) k1 (ZHP k2 (ZHQ hu h0 k2 hb2))⟩
    ·left;rw[if_neg (by rw[decide_eq_true_iff];exact hb)]
     have hb2:(R+Y1).toNat < 4294967296:=by
      rw[ge_iff_le,ycp] at hb;exact Nat.lt_of_not_le hb
     exact⟨_,rfl,⟨_,_,rfl,k2,hb2,k1⟩,by dsimp only;omega⟩
   rcases c with c|c
   ·rw[if_pos (decide_eq_true c)];exact key
   ·by_cases c1:Q ≥ 4294967296
    ·rw[if_pos (decide_eq_true c1)];exact key
    ·rw[if_neg (by rw[decide_eq_true_iff];exact c1),if_pos (decide_eq_true c)];exact key
  ·right;rw[if_neg (by rw[decide_eq_true_iff];exact c1),if_neg (by rw[decide_eq_true_iff];exact c2)];exact⟨_,rfl,_,rfl,k⟩) (Yv,N,Y1,Y0,U,D,E,Q,R) ⟨Q,R,rfl,e,hr,hge⟩ (by dsimp only;omega)
 exact⟨q,hx,hq⟩
theorem ZMj{y1 y0 u d:Nat}{Yv N Y1 Y0 U D E Q R:UInt64}(hY1:Y1.toNat=y1)(hY0:Y0.toNat=y0)(hD:D.toNat=d)(h1:y1 < 4294967296)(h3:0 < y1)(h0:y0 < 4294967296)(hd:d < 4294967296)(hu:u < y1*4294967296+y0)
 (e:Q.toNat*y1+R.toNat=u) (hr:R.toNat < 4294967296) (hge:(u*4294967296+d) / (y1*4294967296+y0)≤Q.toNat):
 ∃q:UInt64,Zc (Qc fuel) fuel (Yv,N,Y1,Y0,D,E,R,U,Q)=some (Yv,N,D,E,U,q)∧q.toNat=(u*4294967296+d) / (y1*4294967296+y0):=by
 obtain⟨x,hx,q,rfl,hq⟩:=WW (step:=Qc fuel) (λs=>∃Q R:UInt64,s=(Yv,N,Y1,Y0,D,E,R,U,Q)∧Q.toNat*y1+R.toNat=u∧R.toNat < 4294967296∧(u*4294967296+d) / (y1*4294967296+y0)≤Q.toNat)
  (λs=>4294967296 - s.2.2.2.2.2.2.1.toNat) (λx=>∃q:UInt64,x=(Yv,N,D,E,U,q)∧q.toNat=(u*4294967296+d) / (y1*4294967296+y0)) (by
  rintro _ ⟨Q,R,rfl,e,hr,hge⟩;unfold Qc;dsimp only;rcases ZA2 hY1 hY0 hD h1 h0 hd hu e hr hge with⟨c,k1,k2,k3⟩|⟨c1,c2,k⟩
  ·have key:(∃j,(if decide (R+Y1 ≥ 4294967296)=true then some (Sum.inr (Yv,N,D,E,U,Q - 1)) else some (Sum.inl (Yv,N,Y1,Y0,D,E,R+Y1,U,Q - 1)):Option ((UInt64×UInt64×UInt64×UInt64×UInt64×UInt64×UInt64×UInt64×UInt64)⊕(UInt64×UInt64×UInt64×UInt64×UInt64×UInt64)))=some (.inl j)∧
    (∃Q R:UInt64,j=(Yv,N,Y1,Y0,D,E,R,U,Q)∧Q.toNat*y1+R.toNat=u∧R.toNat < 4294967296∧(u*4294967296+d) / (y1*4294967296+y0)≤Q.toNat)∧4294967296 - j.2.2.2.2.2.2.1.toNat < 4294967296 - R.toNat)∨
    (∃x,(if decide (R+Y1 ≥ 4294967296)=true then some (Sum.inr (Yv,N,D,E,U,Q - 1)) else some (Sum.inl (Yv,N,Y1,Y0,D,E,R+Y1,U,Q - 1)):Option ((UInt64×UInt64×UInt64×UInt64×UInt64×UInt64×UInt64×UInt64×UInt64)⊕(UInt64×UInt64×UInt64×UInt64×UInt64×UInt64)))=some (.inr x)∧
    ∃q:UInt64,x=(Yv,N,D,E,U,q)∧q.toNat=(u*4294967296+d) / (y1*4294967296+y0)):=by
    by_cases hb:R+Y1 ≥ 4294967296
    ·right;rw[if_pos (decide_eq_true hb)]
     have hb2:4294967296≤(R+Y1).toNat:=by
      rw[ge_iff_le,ycp] at hb;exact hb
     exact⟨_,rfl,_,rfl,ZCW (by omega) k1 (ZHP k2 (ZHQ hu h0 k2 hb2))⟩
    ·left;rw[if_neg (by rw[decide_eq_true_iff];exact hb)]
     have hb2:(R+Y1).toNat < 4294967296:=by
      rw[ge_iff_le,ycp] at hb;exact Nat.lt_of_not_le hb
     exact⟨_,rfl,⟨_,_,rfl,k2,hb2,k1⟩,by dsimp only;omega⟩
   rcases c with c|c
   ·rw[if_pos (decide_eq_true c)];exact key
   ·by_cases c1:Q ≥ 4294967296
    ·rw[if_pos (decide_eq_true c1)];exact key
    ·rw[if_neg (by rw[decide_eq_true_iff];exact c1),if_pos (decide_eq_true c)];exact key
  ·right;rw[if_neg (by rw[decide_eq_true_iff];exact c1),if_neg (by rw[decide_eq_true_iff];exact c2)];exact⟨_,rfl,_,rfl,k⟩) (Yv,N,Y1,Y0,D,E,R,U,Q) ⟨Q,R,rfl,e,hr,hge⟩ (by dsimp only;omega)
 exact⟨q,hx,hq⟩
theorem ZEg{A B:UInt64}{a b:Nat}(hA:A.toNat=a % 18446744073709551616)(hB:B.toNat=b % 18446744073709551616)(h:b≤a)(hd:a - b < 18446744073709551616):(A - B).toNat=a - b:=by
 rw[UInt64.toNat_sub,hA,hB];omega
theorem Zrj(u y1:Nat):u / y1*y1+u % y1=u:=by
 have:=Nat.div_add_mod u y1;rw[ybi] at this;exact this
theorem ZHR{u y1 y0 d:Nat}(h1:0 < y1)(hd:d < 4294967296):(u*4294967296+d) / (y1*4294967296+y0)≤u / y1:=by
 have h:(u*4294967296+d) / (y1*4294967296+y0)≤(u*4294967296+d) / (y1*4294967296):=Nat.div_le_div_left (by omega) (by omega)
 have e:(u*4294967296+d) / (y1*4294967296)=u / y1:=by
  rw[ybi y1, ←Nat.div_div_eq_div_mul];congr 1;omega
 omega
theorem ZHS{a b y:UInt64}{s:Nat}{Y:UInt64}(hy:y≠0)(hs:Yg fuel y=some (s:Int))(s0:0 < s)(s1:s < 64)(hY:VJ y s=Y)(hYn:Y.toNat=y.toNat*2 ^ s)(hY63:9223372036854775808≤Y.toNat)(ha:a.toNat < y.toNat):
 ∃q r,Zf7 fuel a b y=some (q,r)∧r.toNat=(a.toNat*18446744073709551616+b.toNat) % y.toNat:=by
 have ha2:¬(y≤a):=by
  rw[ycp];omega
 unfold Zf7;rw[if_neg (by rw[beq_iff_eq];exact hy),if_neg (by rw[decide_eq_true_iff];exact ha2)];by_cases h0:a=0
 ·subst h0;rw[if_pos (by decide),if_pos (by rw[bne_iff_ne];exact hy),if_pos (by rw[bne_iff_ne];exact hy)];refine⟨_,_,rfl, ?_⟩;rw[UInt64.toNat_mod];simp
 rw[if_neg (by rw[beq_iff_eq];exact h0),hs,yb];dsimp only
 have w:w64 (s:Int)=yal s:=by
  unfold w64;congr 1;omega
 have ws:(w64 (s:Int)).toNat=s:=by rw[w,ybe,yaj (by omega)]
 have e1:min ((w64 (s:Int)).toNat:Int).toNat 64=s:=by rw[ws];omega
 have e2:(64 - w64 (s:Int)).toNat=64 - s:=by
  rw[UInt64.toNat_sub_of_le _ _ (by rw[ycp,ws];show s≤64;omega),ws];rfl
 have e3:min ((64 - w64 (s:Int)).toNat:Int).toNat 64=64 - s:=by rw[e2];omega
 rw[e1,e3,hY];have hYl:=ybm Y;have hb:=ybm b
 have p64:2 ^ (64 - s)*2 ^ s=18446744073709551616:=by
  rw[←Nat.pow_add];have:64 - s+s=64:=by omega
  rw[this]
 have hp:0 < 2 ^ s:=Nat.pow_pos (by decide);obtain⟨y1,hy1⟩:∃y1,y1=Y.toNat / 4294967296:=⟨_,rfl⟩;obtain⟨y0,hy0⟩:∃y0,y0=Y.toNat % 4294967296:=⟨_,rfl⟩;have hYd:Y.toNat=y1*4294967296+y0:=by omega
 have ty1:(ZF Y 32).toNat=y1:=by rw[Q9,hy1]
 have ty0:(Y&&&4294967295).toNat=y0:=by rw[Zkl,hy0]
 have l1:y1 < 4294967296:=by omega
 have g1:2147483648≤y1:=by omega
 have l0:y0 < 4294967296:=by omega
 have hash:a.toNat*2 ^ s < Y.toNat:=by rw[hYn];exact Nat.mul_lt_mul_of_pos_right ha hp
 have bd:b.toNat / 2 ^ (64 - s) < 2 ^ s:=by
  rw[Nat.div_lt_iff_lt_mul (Nat.pow_pos (by decide)),ybi,p64];exact hb
 have tu:((VJ a s)|||(ZF b (64 - s))).toNat=a.toNat*2 ^ s+b.toNat / 2 ^ (64 - s):=by
  rw[UInt64.toNat_or,Q9];unfold VJ;rw[ybe,yaj (by omega),ybi, ←Nat.two_pow_add_eq_or_of_lt bd]
 have t10:(VJ b s).toNat=b.toNat*2 ^ s % 18446744073709551616:=by
  unfold VJ;rw[ybe]
 obtain⟨u,hu⟩:∃u,u=a.toNat*2 ^ s+b.toNat / 2 ^ (64 - s):=⟨_,rfl⟩;obtain⟨v,hv⟩:∃v,v=b.toNat*2 ^ s % 18446744073709551616:=⟨_,rfl⟩;rw[←hu] at tu;rw[←hv] at t10
 have hbs:b.toNat*2 ^ s=b.toNat / 2 ^ (64 - s)*18446744073709551616+v:=by
  have h1:=Nat.div_add_mod (b.toNat*2 ^ s) 18446744073709551616
  have h2:b.toNat*2 ^ s / 18446744073709551616=b.toNat / 2 ^ (64 - s):=by
   rw[←p64];exact Nat.mul_div_mul_right _ _ hp
  rw[h2, ←hv] at h1;omega
 have hN:(a.toNat*18446744073709551616+b.toNat)*2 ^ s=u*18446744073709551616+v:=by
  rw[yas,hbs,hu,Nat.mul_right_comm];omega
 have uY:u < y1*4294967296+y0:=by
  rw[←hYd,hu,hYn];have h1:(a.toNat+1)*2 ^ s≤y.toNat*2 ^ s:=ybu _ ha;rw[yas,Nat.one_mul] at h1;omega
 have hvl:v < 18446744073709551616:=by rw[hv];exact ybc _ (by decide)
 obtain⟨d1,hd1⟩:∃d1,d1=v / 4294967296:=⟨_,rfl⟩;obtain⟨d0,hd0⟩:∃d0,d0=v % 4294967296:=⟨_,rfl⟩;have td1:(ZF (VJ b s) 32).toNat=d1:=by rw[Q9,t10,hd1]
 have td0:((VJ b s)&&&4294967295).toNat=d0:=by rw[Zkl,t10,hd0]
 generalize ((VJ a s)|||(ZF b (64 - s)):UInt64)=U at tu ⊢;generalize (ZF (VJ b s) 32:UInt64)=D1 at td1 ⊢;generalize ((VJ b s)&&&4294967295:UInt64)=D0 at td0 ⊢;generalize (ZF Y 32:UInt64)=Y1 at ty1 ⊢;generalize (Y&&&4294967295:UInt64)=Y0 at ty0 ⊢
 have y1ne:(Y1 !=0)=true:=by
  rw[bne_iff_ne];intro h;rw[h] at ty1;have:(0:UInt64).toNat=0:=rfl;omega
 rw[if_pos y1ne]
 have f1:(U / Y1).toNat*y1+(U - U / Y1*Y1).toNat=u:=by
  rw[ZsC,UInt64.toNat_div,tu,ty1];exact Zrj u y1
 have f2:(U - U / Y1*Y1).toNat < 4294967296:=by
  rw[ZsC,tu,ty1];exact Nat.lt_trans (ybc _ (by omega)) l1
 have f3:(u*4294967296+d1) / (y1*4294967296+y0)≤(U / Y1).toNat:=by
  rw[UInt64.toNat_div,tu,ty1];exact ZHR (by omega) (by omega)
 obtain⟨q1,k1,k2⟩:=ZMi (Yv:=Y) (N:=w64 (s:Int)) (U:=U) (E:=D0) ty1 ty0 td1 l1 (by omega) l0 (by omega) uY f1 f2 f3;rw[k1,yb];dsimp only;rw[if_pos y1ne];have m1:=Nat.div_add_mod (u*4294967296+d1) Y.toNat
 have m2:(u*4294967296+d1) % Y.toNat < Y.toNat:=ybc _ (by omega);rw[←hYd] at k2
 have tv:(((U*4294967296)+D1) - (q1*Y)).toNat=(u*4294967296+d1) % Y.toNat:=by
  rw[ZEg (a:=u*4294967296+d1) (b:=q1.toNat*Y.toNat) ?_ ?_ ?_ ?_]
  ·rw[k2,ybi ((u*4294967296+d1) / Y.toNat)];omega
  ·rw[UInt64.toNat_add,UInt64.toNat_mul,tu,td1,show(4294967296:UInt64).toNat=4294967296 from rfl]
   omega
  ·rw[UInt64.toNat_mul]
  ·rw[k2,ybi ((u*4294967296+d1) / Y.toNat)];omega
  ·rw[k2,ybi ((u*4294967296+d1) / Y.toNat)];omega
 obtain⟨u2,hu2⟩:∃u2,u2=(u*4294967296+d1) % Y.toNat:=⟨_,rfl⟩;rw[←hu2] at tv m2 m1;generalize (((U*4294967296)+D1) - (q1*Y):UInt64)=V at tv ⊢
 have f4:(V / Y1).toNat*y1+(V - V / Y1*Y1).toNat=u2:=by
  rw[ZsC,UInt64.toNat_div,tv,ty1];exact Zrj u2 y1
 have f5:(V - V / Y1*Y1).toNat < 4294967296:=by
  rw[ZsC,tv,ty1];exact Nat.lt_trans (ybc _ (by omega)) l1
 have f6:(u2*4294967296+d0) / (y1*4294967296+y0)≤(V / Y1).toNat:=by
  rw[UInt64.toNat_div,tv,ty1];exact ZHR (by omega) (by omega)
 obtain⟨q0,k3,k4⟩:=ZMj (Yv:=Y) (N:=w64 (s:Int)) (U:=V) (E:=q1) ty1 ty0 td0 l1 (by omega) l0 (by omega) (by rw[←hYd];exact m2) f4 f5 f6;rw[k3,yb];refine⟨_,_,rfl, ?_⟩;dsimp only;rw[e1,Q9];rw[←hYd] at k4;have m3:=Nat.div_add_mod (u2*4294967296+d0) Y.toNat
 have m4:(u2*4294967296+d0) % Y.toNat < Y.toNat:=ybc _ (by omega)
 have tr:(((V*4294967296)+D0) - (q0*Y)).toNat=(u2*4294967296+d0) % Y.toNat:=by
  rw[ZEg (a:=u2*4294967296+d0) (b:=q0.toNat*Y.toNat) ?_ ?_ ?_ ?_]
  ·rw[k4,ybi ((u2*4294967296+d0) / Y.toNat)];omega
  ·rw[UInt64.toNat_add,UInt64.toNat_mul,tv,td0,show(4294967296:UInt64).toNat=4294967296 from rfl]
   omega
  ·rw[UInt64.toNat_mul]
  ·rw[k4,ybi ((u2*4294967296+d0) / Y.toNat)];omega
  ·rw[k4,ybi ((u2*4294967296+d0) / Y.toNat)];omega
 rw[tr]
 have hNm:((a.toNat*18446744073709551616+b.toNat)*2 ^ s) % Y.toNat=(u2*4294967296+d0) % Y.toNat:=by
  have e:(a.toNat*18446744073709551616+b.toNat)*2 ^ s=u2*4294967296+d0+Y.toNat*((u*4294967296+d1) / Y.toNat*4294967296):=by
   rw[hN, ←Nat.mul_assoc];omega
  rw[e,Nat.add_mul_mod_self_left]
 rw[←hNm,hYn,Nat.mul_mod_mul_right,Nat.mul_div_cancel _ hp]
theorem ZyI{y Y:UInt64}{s:Nat}(a b:UInt64)(hy:y≠0)(hs:Yg fuel y=some (s:Int))(s0:0 < s)(s1:s < 64)(hY:VJ y s=Y)(hYn:Y.toNat=y.toNat*2 ^ s)(hY63:9223372036854775808≤Y.toNat):
 ZaO fuel a b y=some (yal ((a.toNat*18446744073709551616+b.toNat) % y.toNat)):=by
 have hp:0 < y.toNat:=by
  rcases ycf y.toNat with h|h
  ·exact absurd (UInt64.toNat_inj.1 h) hy
  ·exact h
 obtain⟨q,r,h1,h2⟩:=ZHS (a:=a % y) (b:=b) hy hs s0 s1 hY hYn hY63 (by rw[UInt64.toNat_mod];exact ybc _ hp);unfold ZaO;rw[if_pos (by rw[bne_iff_ne];exact hy),h1,yb];dsimp only;rw[UInt64.toNat_mod,Nat.add_mod,Nat.mod_mul_mod, ←Nat.add_mod] at h2;rw[←h2,UInt64.ofNat_toNat]
theorem ZLq:Yg fuel 4611686018427377339=some ((2:Nat):Int):=by kernel_rfl
theorem ZLr:Yg fuel 2305843009213688669=some ((3:Nat):Int):=by kernel_rfl
theorem ZLs:Yg fuel 2305843009213688668=some ((3:Nat):Int):=by kernel_rfl
noncomputable def W3(F:Nat)(a0:UInt64)(a1:UInt64)(a2:UInt64):Option UInt64:=
 if(a2==4611686018427377339 || (a2==2305843009213688669 || a2==2305843009213688668))=true then some (yal ((a0.toNat*18446744073709551616+a1.toNat) % a2.toNat)) else ZaO F a0 a1 a2
theorem ZHT(a b y:UInt64):ZaO fuel a b y=W3 fuel a b y:=by
 unfold W3;split
 ·rename_i h;simp only[Bool.or_eq_true,beq_iff_eq] at h;rcases h with rfl|rfl|rfl
  ·exact ZyI (Y:=18446744073709509356) (s:=2) a b (by decide) ZLq (by decide) (by decide) (by kernel_rfl) (by decide) (by decide)
  ·exact ZyI (Y:=18446744073709509352) (s:=3) a b (by decide) ZLr (by decide) (by decide) (by kernel_rfl) (by decide) (by decide)
  ·exact ZyI (Y:=18446744073709509344) (s:=3) a b (by decide) ZLs (by decide) (by decide) (by kernel_rfl) (by decide) (by decide)
 ·rfl
noncomputable def ZvO(F:Nat):Fs ya:={ ZeU F with M:=λx=>W3 F x.1 x.2.1 x.2.2}
noncomputable def Zd6:Fs ya:=ZvO fuel
theorem Zgy:Zd6.Ok:=Znv (s:=ZeU fuel) Zub λx=>(ZHT x.1 x.2.1 x.2.2).symm
end Go.Proofs.YtmkgbalfkhaflaaGreat
end
section
set_option maxRecDepth 4000
namespace Go.Proofs.YtmkgbalfkhaflaaGreat
open Go Go.Ev
noncomputable section
def Zd7(F:Nat)(a0:UInt64)(a1:UInt64):Option ((UInt64×UInt64)):=
 let y38:UInt64:=ZF ((a0&&&4294967295)*(a1&&&4294967295)) 32;let y39:UInt64:=(((ZF a0 32)*(a1&&&4294967295))+y38)&&&4294967295;let y40:UInt64:=ZF (((ZF a0 32)*(a1&&&4294967295))+y38) 32;let y41:UInt64:=ZF (y39+((a0&&&4294967295)*(ZF a1 32))) 32
 some ((((ZF a0 32)*(ZF a1 32))+y40)+y41,a0*a1)
def ZeV(F:Nat):Fs ya:=⟨174,[.v .u64,.v .u64],[],[.u64,.u64],[⟨.ret,[(0,.tup [.v .u64,.v .u64])],[],[.u64,.u64]⟩],λx=>Zd7 F x.1 x.2⟩
def ZvP:Fs ya:=ZeV fuel
theorem Zuc:ZvP.Ok:=Zf (fi:={ hi:={ still:=[4,5]},lp:=[]}) (specs:={ l:=[]}) (okS trivial) trivial (by decide+kernel) (λx=>by kernel_rfl)
end
end Go.Proofs.YtmkgbalfkhaflaaGreat
end
section
set_option maxRecDepth 4000
namespace Go.Proofs.YtmkgbalfkhaflaaGreat
open Go Go.Ev
theorem ZHU(x y:UInt64):∃h l,Zd7 fuel x y=some (h,l)∧h.toNat*18446744073709551616+l.toNat=x.toNat*y.toNat:=by
 unfold Zd7;refine⟨_,_,rfl, ?_⟩;have hx:=ybm x;have hy:=ybm y;have x0l:x.toNat % 4294967296 < 4294967296:=ybc _ (by decide);have y0l:y.toNat % 4294967296 < 4294967296:=ybc _ (by decide);have x1l:x.toNat / 4294967296 < 4294967296:=by omega
 have y1l:y.toNat / 4294967296 < 4294967296:=by omega
 have xe:x.toNat=x.toNat / 4294967296*4294967296+x.toNat % 4294967296:=by omega
 have ye:y.toNat=y.toNat / 4294967296*4294967296+y.toNat % 4294967296:=by omega
 generalize hX1:x.toNat / 4294967296=x1 at*;generalize hX0:x.toNat % 4294967296=x0 at*;generalize hY1:y.toNat / 4294967296=y1 at*;generalize hY0:y.toNat % 4294967296=y0 at*;have p00:=Zkm x0l y0l;have p10:=Zkm x1l y0l;have p01:=Zkm x0l y1l;have p11:=Zkm x1l y1l
 have prod:x.toNat*y.toNat=x1*y1*18446744073709551616+(x1*y0+x0*y1)*4294967296+x0*y0:=by
  rw[xe,ye,yas,Nat.mul_add,Nat.mul_add]
  have e1:x1*4294967296*(y1*4294967296)=x1*y1*18446744073709551616:=by
   rw[Nat.mul_assoc,Nat.mul_left_comm 4294967296 y1, ←Nat.mul_assoc]
  have e2:x1*4294967296*y0=x1*y0*4294967296:=by rw[Nat.mul_right_comm]
  have e3:x0*(y1*4294967296)=x0*y1*4294967296:=by rw[Nat.mul_assoc]
  rw[e1,e2,e3];omega
 have q00:((x&&&4294967295)*(y&&&4294967295)).toNat=x0*y0:=by
  rw[ZlP (by rw[Zkl,Zkl,hX0,hY0];omega),Zkl,Zkl,hX0,hY0]
 have q10:((ZF x 32)*(y&&&4294967295)).toNat=x1*y0:=by
  rw[ZlP (by rw[Q9,Zkl,show(2:Nat) ^ 32=4294967296 from rfl,hX1,hY0];omega),Q9,Zkl,show(2:Nat) ^ 32=4294967296 from rfl,hX1,hY0]
 have q01:((x&&&4294967295)*(ZF y 32)).toNat=x0*y1:=by
  rw[ZlP (by rw[Q9,Zkl,show(2:Nat) ^ 32=4294967296 from rfl,hX0,hY1];omega),Q9,Zkl,show(2:Nat) ^ 32=4294967296 from rfl,hX0,hY1]
 have q11:((ZF x 32)*(ZF y 32)).toNat=x1*y1:=by
  rw[ZlP (by rw[Q9,Q9,show(2:Nat) ^ 32=4294967296 from rfl,hX1,hY1];omega),Q9,Q9,show(2:Nat) ^ 32=4294967296 from rfl,hX1,hY1]
 generalize hA:((x&&&4294967295)*(y&&&4294967295):UInt64)=A at*;generalize hB:((ZF x 32)*(y&&&4294967295):UInt64)=B at*;generalize hC:((x&&&4294967295)*(ZF y 32):UInt64)=C at*;generalize hD:((ZF x 32)*(ZF y 32):UInt64)=D at*;have s1:(ZF A 32).toNat=x0*y0 / 4294967296:=by rw[Q9,q00]
 have s2:(B+ZF A 32).toNat=x1*y0+x0*y0 / 4294967296:=by rw[ZlO (by rw[q10,s1];omega),q10,s1]
 have s3:((B+ZF A 32)&&&4294967295).toNat=(x1*y0+x0*y0 / 4294967296) % 4294967296:=by rw[Zkl,s2]
 have s4:(ZF (B+ZF A 32) 32).toNat=(x1*y0+x0*y0 / 4294967296) / 4294967296:=by rw[Q9,s2]
 have s5:(((B+ZF A 32)&&&4294967295)+C).toNat=(x1*y0+x0*y0 / 4294967296) % 4294967296+x0*y1:=by rw[ZlO (by rw[s3,q01];omega),s3,q01]
 have s6:(ZF (((B+ZF A 32)&&&4294967295)+C) 32).toNat=((x1*y0+x0*y0 / 4294967296) % 4294967296+x0*y1) / 4294967296:=by rw[Q9,s5]
 have s7:(D+ZF (B+ZF A 32) 32).toNat=x1*y1+(x1*y0+x0*y0 / 4294967296) / 4294967296:=by rw[ZlO (by rw[q11,s4];omega),q11,s4]
 have s8:(x*y).toNat=x.toNat*y.toNat % 18446744073709551616:=UInt64.toNat_mul ..
 have s9:((D+ZF (B+ZF A 32) 32)+ZF (((B+ZF A 32)&&&4294967295)+C) 32).toNat=x1*y1+(x1*y0+x0*y0 / 4294967296) / 4294967296+((x1*y0+x0*y0 / 4294967296) % 4294967296+x0*y1) / 4294967296:=by
  rw[ZlO (by rw[s7,s6];omega),s7,s6]
 rw[s9,s8,prod];generalize x0*y0=a at*;generalize x1*y0=b at*;generalize x0*y1=c at*;generalize x1*y1=d at*;omega
theorem ZHV(x y:UInt64):Zd7 fuel x y=some (yal (x.toNat*y.toNat / 18446744073709551616),yal (x.toNat*y.toNat % 18446744073709551616)):=by
 obtain⟨h,l,e,k⟩:=ZHU x y;have hl:=ybm l;rw[e, ←k,show(h.toNat*18446744073709551616+l.toNat) / 18446744073709551616=h.toNat by omega,show(h.toNat*18446744073709551616+l.toNat) % 18446744073709551616=l.toNat by omega,UInt64.ofNat_toNat,UInt64.ofNat_toNat]
noncomputable def Zf8(F:Nat)(a0:UInt64)(a1:UInt64):Option (UInt64×UInt64):=some (yal (a0.toNat*a1.toNat / 18446744073709551616),yal (a0.toNat*a1.toNat % 18446744073709551616))
noncomputable def ZvQ(F:Nat):Fs ya:={ ZeV F with M:=λx=>Zf8 F x.1 x.2}
noncomputable def Zie:Fs ya:=ZvQ fuel
theorem ZmI:Zie.Ok:=Znv (s:=ZeV fuel) Zuc λx=>(ZHV x.1 x.2).symm
end Go.Proofs.YtmkgbalfkhaflaaGreat
end
section
set_option maxRecDepth 4000
namespace Go.Proofs.YtmkgbalfkhaflaaGreat
open Go Go.Ev
noncomputable section
def Yl(F:Nat)(a0:UInt64)(a1:UInt64):Option (UInt64):=
 (Zf8 F a0 a1).bind λo42=>
 (W3 F o42.1 o42.2 (4611686018427377339:UInt64)).bind λo43=>
 some o43
def Zud(F:Nat):Fs ya:=⟨155,[.v .u64,.v .u64],[],[.u64,.u64],[⟨.ret,[(0,.v .u64)],[],[.u64]⟩],λx=>Yl F x.1 x.2⟩
def Zgz:Fs ya:=Zud fuel
theorem Zkn:Zgz.Ok:=Zf (fi:={ hi:={ still:=[4,8,9,13,14]},lp:=[]}) (specs:={ l:=[Zie,Zd6]}) (okS ⟨ZmI,Zgy,trivial⟩) trivial (by decide+kernel) (λx=>by kernel_rfl)
def WX(F:Nat)(s:(UInt64×UInt64×UInt64)):Option ((UInt64×UInt64×UInt64)⊕UInt64):=
 if(decide (s.2.1 > 0))=true then
  if((s.2.1&&&1)==1)=true then
   (Yl F s.2.2 s.1).bind λo44=>
   (Yl F s.1 s.1).bind λo45=>
   some (.inl (o45,ZF s.2.1 1,o44))
  else
  (Yl F s.1 s.1).bind λo46=>
  some (.inl (o46,ZF s.2.1 1,s.2.2))
 else
 some (.inr s.2.2)
def Zi2:Lp:=⟨[(0,.v .u64),(1,.v .u64),(5,.v .u64)],[],[.u64,.u64,.u64],[⟨.exit 0,[(5,.v .u64)],[],[.u64]⟩],Zc (WX fuel) fuel⟩
theorem Znw:Zi2.Ok ya (Zj ya 127) (Zm ya 127 0):=Zh (fi:={ hi:={ still:=[4,13,14,16,17]},lp:=[]}) (specs:={ l:=[Zgz]}) (okS ⟨Zkn,trivial⟩) trivial (by kernel_rfl) (λv=>by kernel_rfl)
def ZgA(F:Nat)(a0:UInt64)(a1:UInt64):Option (UInt64):=
 (Zc (WX F) F (a0,a1,(1:UInt64))).bind λo47=>
 some o47
def Zdb(F:Nat):Fs ya:=⟨127,[.v .u64,.v .u64],[],[.u64,.u64],[⟨.ret,[(0,.v .u64)],[],[.u64]⟩],λx=>ZgA F x.1 x.2⟩
def Zue:Fs ya:=Zdb fuel
theorem ZrU:Zue.Ok:=Zf (fi:={ hi:={ still:=[4,13,14,16,17]},lp:=[(0,Zi2)]}) (specs:={ l:=[]}) (okS trivial) ⟨Znw,trivial⟩ (by decide+kernel) (λx=>by kernel_rfl)
end
end Go.Proofs.YtmkgbalfkhaflaaGreat
end
section
namespace Go.Ev
def Pr(r:Nat):Prop:=1 < r∧∀k,0 < k→k < r→Nat.gcd k r=1
theorem php:∀(n:Nat)(f:Nat→Nat),(∀i,i≤n→f i < n)→∃i j,i < j∧j≤n∧f i=f j
 |0,f,h=>absurd (h 0 (yn _)) (Nat.not_lt_zero _)
 |n+1,f,h=>by
  by_cases hc:∃i,i≤n∧f i=f (n+1)
  ·obtain⟨i,h1,h2⟩:=hc;exact⟨i,n+1,by omega,yn _,h2⟩
  have hne:∀i,i≤n→f i≠f (n+1):=λi hi e=>hc ⟨i,hi,e⟩;have hv:=h (n+1) (yn _)
  obtain⟨i,j,h1,h2,h3⟩:=php n (λi=>if f i > f (n+1) then f i - 1 else f i) (λi hi=>by
   have a:=h i (by omega);have b:=hne i hi;show(if f i > f (n+1) then f i - 1 else f i) < n
   split <;> omega)
  refine⟨i,j,h1,by omega, ?_⟩;have a:=hne i (by omega);have b:=hne j (by omega);have h3:(if f i > f (n+1) then f i - 1 else f i)=(if f j > f (n+1) then f j - 1 else f j):=h3
  split at h3 <;> split at h3 <;> omega
theorem Zko{h a m:Nat}(ha:h ^ a % m=1 % m)(k:Nat):h ^ (a*k) % m=1 % m:=by
 rw[Nat.pow_mul,Nat.pow_mod,ha, ←Nat.pow_mod,Nat.one_pow]
theorem ZA3{h a b m:Nat}(ha:h ^ a % m=1 % m)(hb:h ^ b % m=1 % m):h ^ (a % b) % m=1 % m:=by
 have e:a=b*(a / b)+a % b:=(Nat.div_add_mod a b).symm;rw[e,Nat.pow_add,Nat.mul_mod,Zko hb, ←Nat.mul_mod,Nat.one_mul] at ha;exact ha
theorem Zrk{h m:Nat}(a b:Nat)(ha:h ^ a % m=1 % m)(hb:h ^ b % m=1 % m):h ^ (Nat.gcd a b) % m=1 % m:=by
 induction a,b using Nat.gcd.induction with
 |H0 n=>rw[Nat.gcd_zero_left];exact hb
 |H1 a b h0 ih=>
  rw[Nat.gcd_rec];exact ih (ZA3 hb ha) ha
theorem ZHW{h r m i j:Nat}(hr:h ^ r % m=1 % m)(hi:i < j)(hj:j < r)(e:h ^ i % m=h ^ j % m):h ^ (j - i) % m=1 % m:=by
 have h1:h ^ i*h ^ (r - i)=h ^ r:=by rw[←Nat.pow_add];congr 1;omega
 have h2:h ^ j*h ^ (r - i)=h ^ (j - i)*h ^ r:=by rw[←Nat.pow_add, ←Nat.pow_add];congr 1;omega
 have h3:h ^ j*h ^ (r - i) % m=1 % m:=by rw[Nat.mul_mod, ←e, ←Nat.mul_mod,h1,hr]
 rw[h2,Nat.mul_mod,hr, ←Nat.mul_mod,Nat.mul_one] at h3;exact h3
theorem ZCX{h r m i:Nat}(hm:1 < m)(hr:h ^ r % m=1 % m)(hi:i≤r):h ^ i % m≠0:=by
 intro e;have h1:h ^ i*h ^ (r - i)=h ^ r:=by rw[←Nat.pow_add];congr 1;omega
 rw[←h1,Nat.mul_mod,e,Nat.zero_mul,Nat.zero_mod,yaj hm] at hr;omega
theorem ZCY{h r c:Nat}(hr:Pr r)(hc:1 < c)(h1:h ^ r % c=1 % c)(h2:h % c≠1 % c):r < c:=by
 rcases ybw r c with k|k
 ·exact k
 exfalso
 obtain⟨i,j,a,b,e⟩:=php (c - 1) (λi=>h ^ i % c - 1) (λi hi=>by
  have:=ybc (h ^ i) (show c > 0 by omega);have:=ZCX hc h1 (i:=i) (by omega);show h ^ i % c - 1 < c - 1;omega)
 have q1:=ZCX hc h1 (i:=i) (by omega);have q2:=ZCX hc h1 (i:=j) (by omega);have e:h ^ i % c - 1=h ^ j % c - 1:=e;have h3:=ZHW h1 a (by omega) (show h ^ i % c=h ^ j % c by omega);have h4:=Zrk _ _ h3 h1;rw[hr.2 (j - i) (by omega) (by omega),Nat.pow_one] at h4;exact h2 h4
theorem ZEh{n r:Nat}(h:Nat)(hr:Pr r)(hn:1 < n)(hs:n≤r*r)(h1:h ^ r % n=1 % n)(h0:0 < h)(h2:Nat.gcd (h - 1) n=1):Pr n:=by
 refine⟨hn,λk k0 kn=> ?_⟩;have dn:Nat.gcd k n ∣ n:=Nat.gcd_dvd_right k n;have dk:Nat.gcd k n ∣ k:=Nat.gcd_dvd_left k n;have d0:0 < Nat.gcd k n:=Nat.gcd_pos_of_pos_left _ k0;have dl:Nat.gcd k n≤k:=Nat.le_of_dvd k0 dk;generalize Nat.gcd k n=d at*;by_cases d1:d=1
 ·exact d1
 exfalso
 have great:∀c,1 < c→c ∣ n→r < c:=λc c1 cn=>by
  refine ZCY (h:=h) hr c1 ?_ λe=> ?_
  ·obtain⟨q,rfl⟩:=cn;have:=congrArg (· % c) h1;simp only[Nat.mod_mul_right_mod] at this;exact this
  ·have k1:c ∣ h - 1:=Nat.dvd_of_mod_eq_zero (Nat.sub_mod_eq_zero_of_mod_eq e);have:=Nat.dvd_gcd k1 cn;rw[h2] at this;have:=Nat.le_of_dvd (by omega) this;omega
 obtain⟨e,rfl⟩:=dn
 have e1:1 < e:=by
  rcases ybw 1 e with h|h
  ·exact h
  ·have:d*e≤d*1:=Nat.mul_le_mul_left _ h;omega
 have a:=great d (by omega) (Nat.dvd_mul_right ..);have b:=great e e1 (Nat.dvd_mul_left ..);have:=Nat.mul_le_mul (show r+1≤d from a) (show r+1≤e from b)
 rw[yas,Nat.mul_add] at this;omega
def ZEi(n:Nat):Nat→Bool
 |0=>true
 |k+1=>(decide (k < 1) || !(n % (k+1)==0))&&ZEi n k
theorem Zuf{n:Nat}:∀{k:Nat},ZEi n k=true→∀d,1 < d→d≤k→¬d ∣ n
 |0,_,d,h1,h2=>by omega
 |k+1,h,d,h1,h2=>by
  simp only[ZEi,yi,Bool.or_eq_true,decide_eq_true_eq,Bool.not_eq_true',beq_eq_false_iff_ne] at h;rcases ybw d (k+1) with c|c
  ·exact Zuf h.2 d h1 (by omega)
  ·have:d=k+1:=by omega
   subst this;rcases h.1 with h|h
   ·omega
   ·intro q;exact h (Nat.mod_eq_zero_of_dvd q)
theorem ZHX{n s:Nat}(hn:1 < n)(hs:n < (s+1)*(s+1))(h:ZEi n s=true):Pr n:=by
 refine⟨hn,λk k0 kn=> ?_⟩;have dn:Nat.gcd k n ∣ n:=Nat.gcd_dvd_right k n;have d0:0 < Nat.gcd k n:=Nat.gcd_pos_of_pos_left _ k0;have dl:Nat.gcd k n≤k:=Nat.le_of_dvd k0 (Nat.gcd_dvd_left k n);generalize Nat.gcd k n=d at*;by_cases d1:d=1
 ·exact d1
 exfalso;obtain⟨e,rfl⟩:=dn
 have e1:1 < e:=by
  rcases ybw 1 e with h|h
  ·exact h
  ·have:d*e≤d*1:=Nat.mul_le_mul_left _ h;omega
 rcases ybw s d with a|a
 ·rcases ybw s e with b|b
  ·have:=Nat.mul_le_mul (show s+1≤d from a) (show s+1≤e from b)
   omega
  ·exact Zuf h e e1 b (Nat.dvd_mul_left ..)
 ·exact Zuf h d (by omega) a (Nat.dvd_mul_right ..)
def pwm(m:Nat):Nat→Nat→Nat→Nat→Nat
 |0,_,_,o=>o
 |f+1,a,n,o=>if n=0 then o else pwm m f (a*a % m) (n / 2) (if n % 2=1 then o*a % m else o)
theorem ZyJ{m:Nat}:∀(k a n o:Nat),n < 2 ^ k→pwm m k a n o % m=o*a ^ n % m
 |0,a,n,o,h=>by
  have:n=0:=by rw[Nat.pow_zero] at h;omega
  subst this
  rw[pwm,Nat.pow_zero,Nat.mul_one]
 |k+1,a,n,o,h=>by
  rw[pwm];by_cases h0:n=0
  ·rw[if_pos h0,h0,Nat.pow_zero,Nat.mul_one]
  rw[if_neg h0,ZyJ k _ _ _ (by rw[Nat.pow_succ] at h;omega)]
  have e:a ^ n=(a*a) ^ (n / 2)*a ^ (n % 2):=by
   rw[←Nat.pow_two, ←Nat.pow_mul, ←Nat.pow_add];congr 1;omega
  have e2:(a*a % m) ^ (n / 2) % m=(a*a) ^ (n / 2) % m:=(Nat.pow_mod ..).symm;rw[e];split
  ·rename_i h1;rw[h1,Nat.pow_one,Nat.mul_mod,e2, ←Nat.mul_mod,Nat.mul_mod,Nat.mod_mod, ←Nat.mul_mod];congr 1;rw[Nat.mul_assoc,ybi a]
  ·rename_i h1;have:n % 2=0:=by omega
   rw[this,Nat.pow_zero,Nat.mul_one,Nat.mul_mod,e2, ←Nat.mul_mod]
theorem Zug{m a n z:Nat}(k:Nat)(h:n < 2 ^ k)(e:pwm m k a n 1 % m=z):a ^ n % m=z:=by
 have:=ZyJ (m:=m) k a n 1 h;rw[Nat.one_mul] at this;rw[←this,e]
def pc0:Nat:=7930907
def pc1:Nat:=11864636873
def pc2:Nat:=1732236983459
def pc3:Nat:=249442125618097
def ord:Nat:=2305843009213688669
def mdl:Nat:=4611686018427377339
theorem pr0:Pr pc0:=ZHX (s:=2816) (by decide) (by decide) (by decide+kernel)
theorem pr1:Pr pc1:=ZEh 409113128 pr0 (by decide) (by decide) (Zug 23 (by decide) (by decide+kernel)) (by decide) (by decide+kernel)
theorem pr2:Pr pc2:=ZEh 353522539148 pr1 (by decide) (by decide) (Zug 34 (by decide) (by decide+kernel)) (by decide) (by decide+kernel)
theorem pr3:Pr pc3:=ZEh 117107719143424 pr2 (by decide) (by decide) (Zug 41 (by decide) (by decide+kernel)) (by decide) (by decide+kernel)
theorem pr4:Pr ord:=ZEh 732368710688439132 pr3 (by decide) (by decide) (Zug 48 (by decide) (by decide+kernel)) (by decide) (by decide+kernel)
def QH(a:Nat):Prop:=0 < a∧a < mdl∧a ^ ord % mdl=1
theorem ZMk{a:Nat}(h:a < mdl)(e:a ^ ord % mdl=1):QH a:=by
 refine⟨?_,h,e⟩;rcases ycf a with h0|h0
 ·subst h0;rw[Nat.zero_pow (by decide)] at e;cases e
 ·exact h0
theorem ZLt:QH 1:=⟨by decide,by decide,by rw[Nat.one_pow];decide⟩
theorem ZHY:QH 4:=⟨by decide,by decide,Zug 61 (by decide) (by decide+kernel)⟩
theorem ZLu{a:Nat}(ha:QH a)(n:Nat):QH (a ^ n % mdl):=by
 refine ZMk (ybc _ (by decide)) ?_;rw[←Nat.pow_mod, ←Nat.pow_mul,ybi];exact Zko (m:=mdl) ha.2.2 n
theorem ZJK{a:Nat}(ha:QH a)(n:Nat):a ^ (n % ord) % mdl=a ^ n % mdl:=by
 have e:n=ord*(n / ord)+n % ord:=(Nat.div_add_mod n _).symm;have h:=Zko (m:=mdl) (k:=n / ord) ha.2.2
 conv=>rhs;rw[e]
 rw[Nat.pow_add,Nat.mul_mod,h, ←Nat.mul_mod,Nat.one_mul]
theorem ZLv{k:Nat}(h0:0 < k)(h1:k < ord):4 ^ k % mdl≠1:=by
 intro e;have:=Zrk (h:=4) (m:=mdl) k _ e ZHY.2.2;rw[pr4.2 k h0 h1] at this;revert this;decide
end Go.Ev
end
section
set_option maxRecDepth 4000
namespace Go.Proofs.YtmkgbalfkhaflaaGreat
open Go Go.Ev
theorem ZHZ{z:Nat}:(yal (z % 4611686018427377339)).toNat=z % 4611686018427377339:=by
 rw[ybe,yaj];exact Nat.lt_trans (ybc _ (by decide)) (by decide)
theorem ZH0(a b:UInt64):Yl fuel a b=some (yal (a.toNat*b.toNat % 4611686018427377339)):=by
 unfold Yl Zf8;rw[yb];dsimp only;unfold W3;rw[if_pos (by decide),yb,ybe,ybe];have h:a.toNat*b.toNat < 18446744073709551616*18446744073709551616:=Nat.mul_lt_mul'' (ybm a) (ybm b);have h2:a.toNat*b.toNat / 18446744073709551616 < 18446744073709551616:=(Nat.div_lt_iff_lt_mul (by decide)).2 h;generalize a.toNat*b.toNat=z at*;rw[show(4611686018427377339:UInt64).toNat=4611686018427377339 from rfl]
 have e:z / 18446744073709551616 % 2 ^ 64*18446744073709551616+z % 18446744073709551616 % 2 ^ 64=z:=by omega
 rw[e]
theorem Zuh:∀(k m:Nat)(A N O:UInt64),N.toNat < 2 ^ k→k < m→Zc (WX fuel) m (A,N,O)=some (yal (pwm 4611686018427377339 k A.toNat N.toNat O.toNat))
 |k,0,_,_,_,_,h=>by omega
 |0,m+1,A,N,O,h,_=>by
  have hn:¬N > 0:=by
   intro h2;have h3:0 < N.toNat:=ybv.1 h2;rw[Nat.pow_zero] at h;omega
  have hs:WX fuel (A,N,O)=if decide (N > 0)=true then(if((N&&&1)==1)=true then(Yl fuel O A).bind λo1=>(Yl fuel A A).bind λo2=>some (.inl (o2,ZF N 1,o1)) else(Yl fuel A A).bind λo2=>some (.inl (o2,ZF N 1,O))) else some (.inr O):=rfl
  unfold Zc;rw[hs]
  rw[if_neg (by rw[decide_eq_true_iff];exact hn),yb,pwm,UInt64.ofNat_toNat]
 |k+1,m+1,A,N,O,h,hm=>by
  have hs:WX fuel (A,N,O)=if decide (N > 0)=true then(if((N&&&1)==1)=true then(Yl fuel O A).bind λo1=>(Yl fuel A A).bind λo2=>some (.inl (o2,ZF N 1,o1)) else(Yl fuel A A).bind λo2=>some (.inl (o2,ZF N 1,O))) else some (.inr O):=rfl
  unfold Zc;rw[hs];by_cases h2:N > 0
  ·have hp:0 < N.toNat→pwm 4611686018427377339 (k+1) A.toNat N.toNat O.toNat=pwm 4611686018427377339 k (A.toNat*A.toNat % 4611686018427377339) (N.toNat / 2) (if N.toNat % 2=1 then O.toNat*A.toNat % 4611686018427377339 else O.toNat):=λh=>by
    rw[pwm,if_neg (by omega)]
   have h3:0 < N.toNat:=ybv.1 h2
   have hsh:(ZF N 1).toNat=N.toNat / 2:=by
    unfold ZF;rw[ybe,yaj (Nat.lt_of_le_of_lt (Nat.div_le_self ..) (ybm _))]
   have hlt:(ZF N 1).toNat < 2 ^ k:=by
    rw[hsh];rw[Nat.pow_succ] at h;omega
   have hand:((N&&&1)==1)=decide (N.toNat % 2=1):=by
    rw[Bool.eq_iff_iff,beq_iff_eq,decide_eq_true_iff, ←UInt64.toNat_inj,UInt64.toNat_and];exact Iff.of_eq (congrArg (· =1) (Nat.and_one_is_mod _))
   rw[if_pos (decide_eq_true h2),hand,hp h3];simp only[ZH0];by_cases h4:N.toNat % 2=1
   ·rw[if_pos (decide_eq_true h4),if_pos h4,yb,yb,yb];dsimp only;rw[Zuh k m _ _ _ hlt (by omega),ZHZ,ZHZ,hsh]
   ·rw[if_neg (by rw[decide_eq_true_iff];exact h4),if_neg h4,yb,yb];dsimp only;rw[Zuh k m _ _ _ hlt (by omega),ZHZ,hsh]
  ·have h3:N.toNat=0:=by
    rcases ycf N.toNat with h5|h5
    ·exact h5
    ·exact absurd (show(0:UInt64) < N from ybv.2 h5) h2
   rw[if_neg (by rw[decide_eq_true_iff];exact h2),yb,pwm,if_pos h3,UInt64.ofNat_toNat]
theorem ZH1(a n:UInt64):ZgA fuel a n=some (yal (pwm 4611686018427377339 64 a.toNat n.toNat 1)):=by
 unfold ZgA;rw[Zuh 64 fuel a n 1 (ybm _) (by rw[Zd5];omega),yb];rfl
noncomputable def Qv(F:Nat)(a0:UInt64)(a1:UInt64):Option UInt64:=some (yal (pwm 4611686018427377339 64 a0.toNat a1.toNat 1))
noncomputable def Zui(F:Nat):Fs ya:={ Zdb F with M:=λx=>Qv F x.1 x.2}
noncomputable def Zcc:Fs ya:=Zui fuel
theorem ZeW:Zcc.Ok:=Znv (s:=Zdb fuel) ZrU λx=>(ZH1 x.1 x.2).symm
end Go.Proofs.YtmkgbalfkhaflaaGreat
end
section
set_option maxRecDepth 4000
namespace Go.Proofs.YtmkgbalfkhaflaaGreat
open Go Go.Ev
noncomputable section
def Xz(F:Nat)(a0:UInt64):Option (Bool):=
 if(decide (a0 > 0))=true then
  if(decide (a0 < 4611686018427377339))=true then
   (Qv F a0 (2305843009213688669:UInt64)).bind λo48=>
   some (o48==1)
  else
  some false
 else
 some false
def Zuj(F:Nat):Fs ya:=⟨70,[.v .u64],[],[.u64],[⟨.ret,[(0,.v .bool)],[],[.bool]⟩],λx=>Xz F x⟩
def VA:Fs ya:=Zuj fuel
theorem Qd:VA.Ok:=Zf (fi:={ hi:={ still:=[2,10]},lp:=[]}) (specs:={ l:=[Zcc]}) (okS ⟨ZeW,trivial⟩) trivial (by decide+kernel) (λx=>by kernel_rfl)
def VB(F:Nat)(a0:UInt64):Option (Bool):=
 (Xz F a0).bind λo49=>
 some (!o49)
def ZrV(F:Nat):Fs ya:=⟨69,[.v .u64],[],[.u64],[⟨.ret,[(0,.v .bool)],[],[.bool]⟩],λx=>VB F x⟩
def ZeX:Fs ya:=ZrV fuel
theorem Zi3:ZeX.Ok:=Zf (fi:={ hi:={ still:=[2,3]},lp:=[]}) (specs:={ l:=[VA]}) (okS ⟨Qd,trivial⟩) trivial (by decide+kernel) (λx=>by kernel_rfl)
def Vf(F:Nat)(a0:Int):Option (Bool):=
 if(decide (a0 ≥ 0))=true then
  some (decide (a0≤1048576))
 else
 some false
def Zuk(F:Nat):Fs ya:=⟨72,[.v yI],[],[yI],[⟨.ret,[(0,.v .bool)],[],[.bool]⟩],λx=>Vf F x⟩
def ZmJ:Fs ya:=Zuk fuel
theorem Zul:ZmJ.Ok:=Zf (fi:={ hi:={ still:=[2]},lp:=[]}) (specs:={ l:=[]}) (okS trivial) trivial (by decide+kernel) (λx=>by kernel_rfl)
def Y7(F:Nat)(s:((List UInt64)×Int×Int)):Option (((List UInt64)×Int×Int)⊕(Int⊕Unit)):=
 if(decide (s.2.2 < s.2.1))=true then
  (idx s.1 s.2.2).bind λe51=>
  (VB F e51).bind λo52=>
  if o52=true then
   some (.inr (.inl s.2.2))
  else
  some (.inl (s.1,s.2.1,wi (s.2.2+1)))
 else
 some (.inr (.inr ()))
def Zhk:Lp:=⟨[(0,.v (.sl .u64)),(1,.fn 69 []),(7,.v yI),(8,.v yI)],[],[(.sl .u64),yI,yI],[⟨.ret,[(4,.v yI)],[],[yI]⟩,⟨.exit 0,[],[],[]⟩],Zc (Y7 fuel) fuel⟩
theorem ZlW:Zhk.Ok ya (Zj ya 128) (Zm ya 128 0):=Zh (fi:={ hi:={ still:=[4,15]},lp:=[]}) (specs:={ l:=[ZeX]}) (okS ⟨Zi3,trivial⟩) trivial (by kernel_rfl) (λv=>by kernel_rfl)
def ZaP(F:Nat)(a0:(List UInt64)):Option (Int):=
 (Zc (Y7 F) F (a0,(a0.length:Int),(0:Int))).bind λo53=>
 match o53 with
 |.inl o54=>
  some o54
 |.inr o55=>
  some (-1:Int)
def Zqd(F:Nat):Fs ya:=⟨128,[.v (.sl .u64),.fn 69 []],[],[(.sl .u64)],[⟨.ret,[(0,.v yI)],[],[yI]⟩],λx=>ZaP F x⟩
def Zi4:Fs ya:=Zqd fuel
theorem Zqe:Zi4.Ok:=Zf (fi:={ hi:={ still:=[4,15]},lp:=[(0,Zhk)]}) (specs:={ l:=[]}) (okS trivial) ⟨ZlW,trivial⟩ (by decide+kernel) (λx=>by kernel_rfl)
def ZbO(F:Nat)(a0:(List UInt64)):Option (Bool):=
 (ZaP F a0).bind λo56=>
 some (decide (o56 ≥ 0))
def ZyK(F:Nat):Fs ya:=⟨71,[.v (.sl .u64),.fn 69 []],[],[(.sl .u64)],[⟨.ret,[(0,.v .bool)],[],[.bool]⟩],λx=>ZbO F x⟩
def Zrl:Fs ya:=ZyK fuel
theorem ZyL:Zrl.Ok:=Zf (fi:={ hi:={ still:=[4,5,6]},lp:=[]}) (specs:={ l:=[Zi4]}) (okS ⟨Zqe,trivial⟩) trivial (by decide+kernel) (λx=>by kernel_rfl)
def Wc(F:Nat)(s:((List ZC)×Int×Int×Zz)):Option (((List ZC)×Int×Int×Zz)⊕((Bool×Zz)⊕Zz)):=
 if(decide (s.2.2.1 < s.2.1))=true then
  (idx s.1 s.2.2.1).bind λe50=>
  if(decide ((e50.1.length:Int) > 12))=true then
   some (.inr (.inl (false,s.2.2.2)))
  else
  (ZbO F e50.1).bind λo57=>
  if o57=true then
   some (.inr (.inl (false,s.2.2.2)))
  else
  (Vf F e50.2.1).bind λo58=>
  if(!o58)=true then
   some (.inr (.inl (false,s.2.2.2)))
  else
  (Vf F e50.2.2.1).bind λo59=>
  if(!o59)=true then
   some (.inr (.inl (false,s.2.2.2)))
  else
  if(e50.2.2.2 !=0)=true then
   (VB F e50.2.2.2).bind λo60=>
   if o60=true then
    some (.inr (.inl (false,s.2.2.2)))
   else
   some (.inl (s.1,s.2.1,wi (s.2.2.1+1),s.2.2.2))
  else
  some (.inl (s.1,s.2.1,wi (s.2.2.1+1),s.2.2.2))
 else
 some (.inr (.inr s.2.2.2))
def ZmK:Lp:=⟨[(1,.ref 0 []),(3,.fn 69 []),(7,.v (.sl Zo)),(8,.v yI),(9,.v yI)],[.var (.v Zp) true],[(.sl Zo),yI,yI,Zp],[⟨.ret,[(2,.v .bool)],[.var (.v Zp) true],[.bool,Zp]⟩,⟨.exit 0,[(1,.ref 0 [])],[.var (.v Zp) true],[Zp]⟩],Zc (Wc fuel) fuel⟩
theorem Zqf:ZmK.Ok ya (Zj ya 24) (Zm ya 24 0):=Zh (fi:={ hi:={ still:=[2,19,20,25,31,42]},lp:=[]}) (specs:={ l:=[Zrl,ZmJ,ZeX]}) (okS ⟨ZyL,Zul,Zi3,trivial⟩) trivial (by kernel_rfl) (λv=>by kernel_rfl)
def YQ(F:Nat)(a0:Zz):Option (Bool):=
 (Zc (Wc F) F (a0,(a0.length:Int),(0:Int),a0)).bind λo61=>
 match o61 with
 |.inl o62=>
  some o62.1
 |.inr o63=>
  if(decide ((o63.length:Int) > 0))=true then
   some (decide ((o63.length:Int)≤4))
  else
  some false
def ZgB(F:Nat):Fs ya:=⟨24,[.v Zp],[],[Zp],[⟨.ret,[(0,.v .bool)],[],[.bool]⟩],λx=>YQ F x⟩
def Qw:Fs ya:=ZgB fuel
theorem VC:Qw.Ok:=Zf (fi:={ hi:={ still:=[2,19,20,25,31,42]},lp:=[(0,ZmK)]}) (specs:={ l:=[]}) (okS trivial) ⟨Zqf,trivial⟩ (by decide+kernel) (λx=>by kernel_rfl)
def ZeY(F:Nat)(a0:Int):Option (Bool):=
 if(decide (a0 ≥ 0))=true then
  some (decide (a0≤1125899906842624))
 else
 some false
def ZyM(F:Nat):Fs ya:=⟨129,[.v yI],[],[yI],[⟨.ret,[(0,.v .bool)],[],[.bool]⟩],λx=>ZeY F x⟩
def Zrm:Fs ya:=ZyM fuel
theorem ZyN:Zrm.Ok:=Zf (fi:={ hi:={ still:=[2]},lp:=[]}) (specs:={ l:=[]}) (okS trivial) trivial (by decide+kernel) (λx=>by kernel_rfl)
def Zhl(F:Nat)(a0:Int)(a1:Int):Option ((Int×Bool)):=
 (ZeY F a0).bind λo64=>
 if(!o64)=true then
  some ((0:Int),false)
 else
 (ZeY F a1).bind λo65=>
 if(!o65)=true then
  some ((0:Int),false)
 else
 if(decide (a0 > (wi (1125899906842624 - a1))))=true then
  some ((0:Int),false)
 else
 some (wi (a0+a1),true)
def ZCZ(F:Nat):Fs ya:=⟨74,[.v yI,.v yI],[],[yI,yI],[⟨.ret,[(0,.tup [.v yI,.v .bool])],[],[yI,.bool]⟩],λx=>Zhl F x.1 x.2⟩
def Zqg:Fs ya:=ZCZ fuel
theorem Zum:Zqg.Ok:=Zf (fi:={ hi:={ still:=[4,5,6,10]},lp:=[]}) (specs:={ l:=[Zrm]}) (okS ⟨ZyN,trivial⟩) trivial (by decide+kernel) (λx=>by kernel_rfl)
def Y8(F:Nat)(a0:Int)(a1:Int)(a2:Int):Option (Bool):=
 if(decide (a1≤a0))=true then
  some (decide (a0≤a2))
 else
 some false
def Zqh(F:Nat):Fs ya:=⟨159,[.v yI,.v yI,.v yI],[],[yI,yI,yI],[⟨.ret,[(0,.v .bool)],[],[.bool]⟩],λx=>Y8 F x.1 x.2.1 x.2.2⟩
def Zi5:Fs ya:=Zqh fuel
theorem Zqi:Zi5.Ok:=Zf (fi:={ hi:={ still:=[6]},lp:=[]}) (specs:={ l:=[]}) (okS trivial) trivial (by decide+kernel) (λx=>by kernel_rfl)
def Zd8(F:Nat)(a0:QP):Option (Bool):=
 (Y8 F a0.1 (0:Int) (65536:Int)).bind λo66=>
 if o66=true then
  (Y8 F a0.2.2.1 (1:Int) (4096:Int)).bind λo67=>
  if o67=true then
   (Y8 F a0.2.2.2.1 (0:Int) (16:Int)).bind λo68=>
   if o68=true then
    (Y8 F a0.2.1 a0.1 (1125899906842624:Int)).bind λo69=>
    if o69=true then
     (Y8 F a0.2.2.2.2.1 (1:Int) (1125899906842624:Int)).bind λo70=>
     if o70=true then
      (Y8 F a0.2.2.2.2.2 (0:Int) (1125899906842624:Int)).bind λo71=>
      some o71
     else
     some false
    else
    some false
   else
   some false
  else
  some false
 else
 some false
def Zun(F:Nat):Fs ya:=⟨120,[.v Zc8],[],[Zc8],[⟨.ret,[(0,.v .bool)],[],[.bool]⟩],λx=>Zd8 F x⟩
def ZmL:Fs ya:=Zun fuel
theorem Zuo:ZmL.Ok:=Zf (fi:={ hi:={ still:=[2,7,12,18,25,27,33,39]},lp:=[]}) (specs:={ l:=[Zi5]}) (okS ⟨Zqi,trivial⟩) trivial (by decide+kernel) (λx=>by kernel_rfl)
def Zdc(F:Nat)(a0:UInt64):Option (Bool):=
 if(a0==1)=true then
  some true
 else
 (Xz F a0).bind λo72=>
 some (!o72)
def ZoJ(F:Nat):Fs ya:=⟨160,[.v .u64],[],[.u64],[⟨.ret,[(0,.v .bool)],[],[.bool]⟩],λx=>Zdc F x⟩
def Zhm:Fs ya:=ZoJ fuel
theorem ZoK:Zhm.Ok:=Zf (fi:={ hi:={ still:=[2,6]},lp:=[]}) (specs:={ l:=[VA]}) (okS ⟨Qd,trivial⟩) trivial (by decide+kernel) (λx=>by kernel_rfl)
def Wx(F:Nat)(s:((List UInt64)×Int×Int)):Option (((List UInt64)×Int×Int)⊕(Int⊕Unit)):=
 if(decide (s.2.2 < s.2.1))=true then
  (idx s.1 s.2.2).bind λe73=>
  (Zdc F e73).bind λo74=>
  if o74=true then
   some (.inr (.inl s.2.2))
  else
  some (.inl (s.1,s.2.1,wi (s.2.2+1)))
 else
 some (.inr (.inr ()))
def Zdz:Lp:=⟨[(0,.v (.sl .u64)),(1,.fn 160 []),(7,.v yI),(8,.v yI)],[],[(.sl .u64),yI,yI],[⟨.ret,[(4,.v yI)],[],[yI]⟩,⟨.exit 0,[],[],[]⟩],Zc (Wx fuel) fuel⟩
theorem Zif:Zdz.Ok ya (Zj ya 128) (Zm ya 128 0):=Zh (fi:={ hi:={ still:=[4,15]},lp:=[]}) (specs:={ l:=[Zhm]}) (okS ⟨ZoK,trivial⟩) trivial (by kernel_rfl) (λv=>by kernel_rfl)
def ZaQ(F:Nat)(a0:(List UInt64)):Option (Int):=
 (Zc (Wx F) F (a0,(a0.length:Int),(0:Int))).bind λo75=>
 match o75 with
 |.inl o76=>
  some o76
 |.inr o77=>
  some (-1:Int)
def ZlX(F:Nat):Fs ya:=⟨128,[.v (.sl .u64),.fn 160 []],[],[(.sl .u64)],[⟨.ret,[(0,.v yI)],[],[yI]⟩],λx=>ZaQ F x⟩
def ZeZ:Fs ya:=ZlX fuel
theorem ZlY:ZeZ.Ok:=Zf (fi:={ hi:={ still:=[4,15]},lp:=[(0,Zdz)]}) (specs:={ l:=[]}) (okS trivial) ⟨Zif,trivial⟩ (by decide+kernel) (λx=>by kernel_rfl)
def ZgC(F:Nat)(a0:(List UInt64)):Option (Bool):=
 (ZaQ F a0).bind λo78=>
 some (decide (o78 ≥ 0))
def ZrW(F:Nat):Fs ya:=⟨71,[.v (.sl .u64),.fn 160 []],[],[(.sl .u64)],[⟨.ret,[(0,.v .bool)],[],[.bool]⟩],λx=>ZgC F x⟩
def Zkp:Fs ya:=ZrW fuel
theorem ZrX:Zkp.Ok:=Zf (fi:={ hi:={ still:=[4,5,6]},lp:=[]}) (specs:={ l:=[ZeZ]}) (okS ⟨ZlY,trivial⟩) trivial (by decide+kernel) (λx=>by kernel_rfl)
def Zcd(F:Nat)(a0:VF):Option (Bool):=
 (ZgC F ([a0.1,a0.2.1,a0.2.2.1,a0.2.2.2.1,a0.2.2.2.2]:List UInt64)).bind λo79=>
 some (!o79)
def ZrY(F:Nat):Fs ya:=⟨121,[.v VK],[],[VK],[⟨.ret,[(0,.v .bool)],[],[.bool]⟩],λx=>Zcd F x⟩
def Zkq:Fs ya:=ZrY fuel
theorem ZrZ:Zkq.Ok:=Zf (fi:={ hi:={ still:=[2,14,15]},lp:=[]}) (specs:={ l:=[Zkp]}) (okS ⟨ZrX,trivial⟩) trivial (by decide+kernel) (λx=>by kernel_rfl)
abbrev Zl:Ty:=(.st [XI,yI,(.arr 2 VK),(.arr 2 Zc8),yI])
abbrev ZH:Type:=(XQ×Int×(List VF)×(List QP)×Int)
def Zce(F:Nat)(s:((List QP)×Int×ZH)):Option (((List QP)×Int×ZH)⊕((Int×ZH)⊕ZH)):=
 if(decide (s.2.1 < 2))=true then
  (idx s.1 s.2.1).bind λe80=>
  (Zd8 F e80).bind λo81=>
  if(!o81)=true then
   some (.inr (.inl ((1:Int),s.2.2)))
  else
  if(inB s.2.1 2)=true then
   (s.2.2.2.2.1[s.2.1.toNat]?).bind λe82=>
   (Zcd F e82).bind λo83=>
   if(!o83)=true then
    some (.inr (.inl ((1:Int),s.2.2)))
   else
   some (.inl (s.1,wi (s.2.1+1),s.2.2))
  else
  none
 else
 some (.inr (.inr s.2.2))
def ZoL:Lp:=⟨[(1,.ref 0 []),(34,.v (.arr 2 Zc8)),(35,.v yI)],[.var (.v Zl) true],[(.arr 2 Zc8),yI,Zl],[⟨.ret,[(2,.v yI)],[.var (.v Zl) true],[yI,Zl]⟩,⟨.exit 0,[(1,.ref 0 [])],[.var (.v Zl) true],[Zl]⟩],Zc (Zce fuel) fuel⟩
theorem Zr0:ZoL.Ok ya (Zj ya 62) (Zm ya 62 0):=Zh (fi:={ hi:={ still:=[2,39,46,55,59]},lp:=[]}) (specs:={ l:=[ZmL,Zkq]}) (okS ⟨Zuo,ZrZ,trivial⟩) trivial (by kernel_rfl) (λv=>by kernel_rfl)
def Zig(F:Nat)(a0:ZH):Option (Int):=
 if(decide (a0.2.1 < 1))=true then
  some (1:Int)
 else
 if(decide (a0.2.1 > 1125899906842624))=true then
  some (1:Int)
 else
 if(decide (a0.1.2 < 0))=true then
  some (1:Int)
 else
 if(decide (a0.1.2 ≥ 64))=true then
  some (1:Int)
 else
 if((bits .andNot .i64 a0.2.2.2.2 1)!=0)=true then
  some (1:Int)
 else
 (Zc (Zce F) F (a0.2.2.2.1,(0:Int),a0)).bind λo84=>
 match o84 with
 |.inl o85=>
  some o85.1
 |.inr o86=>
  (o86.2.2.2.1[0]?).bind λe87=>
  (o86.2.2.2.1[1]?).bind λe88=>
  (Zhl F e87.2.1 e88.2.1).bind λo89=>
  if(!o89.2)=true then
   some (10:Int)
  else
  if(decide (o89.1 > o86.2.1))=true then
   some (10:Int)
  else
  some (0:Int)
def ZyO(F:Nat):Fs ya:=⟨62,[.v Zl],[],[Zl],[⟨.ret,[(0,.v yI)],[],[yI]⟩],λx=>Zig F x⟩
def Zrn:Fs ya:=ZyO fuel
theorem ZyP:Zrn.Ok:=Zf (fi:={ hi:={ still:=[2,39,46,55,59]},lp:=[(0,ZoL)]}) (specs:={ l:=[Zqg]}) (okS ⟨Zum,trivial⟩) ⟨Zr0,trivial⟩ (by decide+kernel) (λx=>by kernel_rfl)
def Zdd(F:Nat)(a0:Int)(s0:Int)(s1:Int):Option ((Bool×Int×Int)):=
 if(decide (a0 < s0))=true then
  some (true,s0,s1)
 else
 some (decide (a0 > s1),s0,s1)
def ZoM(F:Nat):Fs ya:=⟨123,[.v yI,.ref 0 [],.ref 1 []],[.var (.v yI) true,.var (.v yI) true],[yI,yI,yI],[⟨.ret,[(0,.v .bool)],[.var (.v yI) true,.var (.v yI) true],[.bool,yI,yI]⟩],λx=>Zdd F x.1 x.2.1 x.2.2⟩
def Zhn:Fs ya:=ZoM fuel
theorem ZoN:Zhn.Ok:=Zf (fi:={ hi:={ still:=[4]},lp:=[]}) (specs:={ l:=[]}) (okS trivial) trivial (by decide+kernel) (λx=>by kernel_rfl)
def Yz(F:Nat)(s:((List Int)×Int×Int×Int×Int)):Option (((List Int)×Int×Int×Int×Int)⊕((Int×Int×Int)⊕(Int×Int))):=
 if(decide (s.2.2.1 < s.2.1))=true then
  (idx s.1 s.2.2.1).bind λe90=>
  (Zdd F e90 s.2.2.2.1 s.2.2.2.2).bind λo91=>
  if o91.1=true then
   some (.inr (.inl (s.2.2.1,o91.2.1,o91.2.2)))
  else
  some (.inl (s.1,s.2.1,wi (s.2.2.1+1),o91.2.1,o91.2.2))
 else
 some (.inr (.inr (s.2.2.2.1,s.2.2.2.2)))
def VL:Lp:=⟨[(0,.v (.sl yI)),(1,.fn 123 [.ref 0 [],.ref 1 []]),(7,.v yI),(8,.v yI)],[.var (.v yI) true,.var (.v yI) true],[(.sl yI),yI,yI,yI,yI],[⟨.ret,[(4,.v yI)],[.var (.v yI) true,.var (.v yI) true],[yI,yI,yI]⟩,⟨.exit 0,[],[.var (.v yI) true,.var (.v yI) true],[yI,yI]⟩],Zc (Yz fuel) fuel⟩
theorem ZbP:VL.Ok ya (Zj ya 161) (Zm ya 161 0):=Zh (fi:={ hi:={ still:=[4,15]},lp:=[]}) (specs:={ l:=[Zhn]}) (okS ⟨ZoN,trivial⟩) trivial (by kernel_rfl) (λv=>by kernel_rfl)
def Wp(F:Nat)(a0:(List Int))(s0:Int)(s1:Int):Option ((Int×Int×Int)):=
 (Zc (Yz F) F (a0,(a0.length:Int),(0:Int),s0,s1)).bind λo92=>
 match o92 with
 |.inl o93=>
  some (o93.1,o93.2.1,o93.2.2)
 |.inr o94=>
  some ((-1:Int),o94.1,o94.2)
def Zd9(F:Nat):Fs ya:=⟨161,[.v (.sl yI),.fn 123 [.ref 0 [],.ref 1 []]],[.var (.v yI) true,.var (.v yI) true],[(.sl yI),yI,yI],[⟨.ret,[(0,.v yI)],[.var (.v yI) true,.var (.v yI) true],[yI,yI,yI]⟩],λx=>Wp F x.1 x.2.1 x.2.2⟩
def Qe:Fs ya:=Zd9 fuel
theorem Zea:Qe.Ok:=Zf (fi:={ hi:={ still:=[4,15]},lp:=[(0,VL)]}) (specs:={ l:=[]}) (okS trivial) ⟨ZbP,trivial⟩ (by decide+kernel) (λx=>by kernel_rfl)
def XM(F:Nat)(a0:(List Int))(s0:Int)(s1:Int):Option ((Bool×Int×Int)):=
 (Wp F a0 s0 s1).bind λo95=>
 some (decide (o95.1 ≥ 0),o95.2.1,o95.2.2)
def ZbQ(F:Nat):Fs ya:=⟨122,[.v (.sl yI),.fn 123 [.ref 0 [],.ref 1 []]],[.var (.v yI) true,.var (.v yI) true],[(.sl yI),yI,yI],[⟨.ret,[(0,.v .bool)],[.var (.v yI) true,.var (.v yI) true],[.bool,yI,yI]⟩],λx=>XM F x.1 x.2.1 x.2.2⟩
def W4:Fs ya:=ZbQ fuel
theorem ZbR:W4.Ok:=Zf (fi:={ hi:={ still:=[4,5,6]},lp:=[]}) (specs:={ l:=[Qe]}) (okS ⟨Zea,trivial⟩) trivial (by decide+kernel) (λx=>by kernel_rfl)
def Yt(F:Nat)(a0:Int)(a1:Int)(a2:(List Int)):Option (Bool):=
 (XM F a2 a0 a1).bind λo96=>
 some (!o96.1)
def Zr1(F:Nat):Fs ya:=⟨63,[.v yI,.v yI,.v (.sl yI)],[],[yI,yI,(.sl yI)],[⟨.ret,[(0,.v .bool)],[],[.bool]⟩],λx=>Yt F x.1 x.2.1 x.2.2⟩
def Ze0:Fs ya:=Zr1 fuel
theorem Zi6:Ze0.Ok:=Zf (fi:={ hi:={ still:=[6,7,8]},lp:=[]}) (specs:={ l:=[W4]}) (okS ⟨ZbR,trivial⟩) trivial (by decide+kernel) (λx=>by kernel_rfl)
def Zf9(F:Nat)(a0:ZL):Option (Bool):=
 (Yt F (0:Int) (1:Int) ([a0.1]:List Int)).bind λo97=>
 if o97=true then
  (Yt F (1:Int) (1048576:Int) ([a0.2.1]:List Int)).bind λo98=>
  if o98=true then
   (Yt F (1:Int) (1125899906842624:Int) ([a0.2.2.1]:List Int)).bind λo99=>
   if o99=true then
    (Yt F (1:Int) (1048576:Int) ([a0.2.2.2.2]:List Int)).bind λo100=>
    if o100=true then
     (Xz F a0.2.2.2.1).bind λo101=>
     if o101=true then
      some (a0.2.2.2.1 !=1)
     else
     some false
    else
    some false
   else
   some false
  else
  some false
 else
 some false
def ZvR(F:Nat):Fs ya:=⟨64,[.v ZB],[],[ZB],[⟨.ret,[(0,.v .bool)],[],[.bool]⟩],λx=>Zf9 F x⟩
def ZoO:Fs ya:=ZvR fuel
theorem ZvS:ZoO.Ok:=Zf (fi:={ hi:={ still:=[2,5,10,16,22,27]},lp:=[]}) (specs:={ l:=[Ze0,VA]}) (okS ⟨Zi6,Qd,trivial⟩) trivial (by decide+kernel) (λx=>by kernel_rfl)
def WY(F:Nat)(s:(Int×(List Int)×Int×Int)):Option ((Int×(List Int)×Int×Int)⊕(Int⊕Int)):=
 if(decide (s.2.2.2 < s.2.2.1))=true then
  (idx s.2.1 s.2.2.2).bind λe102=>
  if(e102 !=s.1)=true then
   some (.inr (.inl e102))
  else
  some (.inl (s.1,s.2.1,s.2.2.1,wi (s.2.2.2+1)))
 else
 some (.inr (.inr s.1))
def ZmM:Lp:=⟨[(3,.v yI),(6,.v (.sl yI)),(7,.v yI),(8,.v yI)],[],[yI,(.sl yI),yI,yI],[⟨.ret,[(2,.v yI)],[],[yI]⟩,⟨.exit 0,[(3,.v yI)],[],[yI]⟩],Zc (WY fuel) fuel⟩
theorem Zqj:ZmM.Ok ya (Zj ya 124) (Zm ya 124 0):=Zh (fi:={ hi:={ still:=[2]},lp:=[]}) (specs:={ l:=[]}) (okS trivial) trivial (by kernel_rfl) (λv=>by kernel_rfl)
def Zga(F:Nat)(a0:(List Int)):Option (Int):=
 (Zc (WY F) F ((0:Int),a0,(a0.length:Int),(0:Int))).bind λo103=>
 match o103 with
 |.inl o104=>
  some o104
 |.inr o105=>
  some o105
def ZvT(F:Nat):Fs ya:=⟨124,[.v (.sl yI)],[],[(.sl yI)],[⟨.ret,[(0,.v yI)],[],[yI]⟩],λx=>Zga F x⟩
def ZoP:Fs ya:=ZvT fuel
theorem ZvU:ZoP.Ok:=Zf (fi:={ hi:={ still:=[2]},lp:=[(0,ZmM)]}) (specs:={ l:=[]}) (okS trivial) ⟨Zqj,trivial⟩ (by decide+kernel) (λx=>by kernel_rfl)
def ZaR(F:Nat)(a0:Int):Option (Bool):=
 some (a0 !=a0)
def Zqk(F:Nat):Fs ya:=⟨162,[.v yI],[],[yI],[⟨.ret,[(0,.v .bool)],[],[.bool]⟩],λx=>ZaR F x⟩
def Zi7:Fs ya:=Zqk fuel
theorem Zql:Zi7.Ok:=Zf (fi:={ hi:={ still:=[2]},lp:=[]}) (specs:={ l:=[]}) (okS trivial) trivial (by decide+kernel) (λx=>by kernel_rfl)
def WZ(F:Nat)(a0:Int)(a1:Int):Option (Int):=
 (ZaR F a0).bind λo106=>
 (ZaR F a1).bind λo107=>
 if o106=true then
  if o107=true then
   some (0:Int)
  else
  some (-1:Int)
 else
 if o107=true then
  some (1:Int)
 else
 if(decide (a0 < a1))=true then
  some (-1:Int)
 else
 if(decide (a0 > a1))=true then
  some (1:Int)
 else
 some (0:Int)
def Znx(F:Nat):Fs ya:=⟨125,[.v yI,.v yI],[],[yI,yI],[⟨.ret,[(0,.v yI)],[],[yI]⟩],λx=>WZ F x.1 x.2⟩
def Zgb:Fs ya:=Znx fuel
theorem Zny:Zgb.Ok:=Zf (fi:={ hi:={ still:=[4,7,9]},lp:=[]}) (specs:={ l:=[Zi7]}) (okS ⟨Zql,trivial⟩) trivial (by decide+kernel) (λx=>by kernel_rfl)
def Zeb(F:Nat)(a0:ZL)(a1:ZL):Option (Int):=
 (WZ F a0.1 a1.1).bind λo108=>
 (WZ F a0.2.1 a1.2.1).bind λo109=>
 (Zga F ([o108,o109]:List Int)).bind λo110=>
 some o110
def Zup(F:Nat):Fs ya:=⟨65,[.v ZB,.v ZB],[],[ZB,ZB],[⟨.ret,[(0,.v yI)],[],[yI]⟩],λx=>Zeb F x.1 x.2⟩
def ZmN:Fs ya:=Zup fuel
theorem Zuq:ZmN.Ok:=Zf (fi:={ hi:={ still:=[4,6,8,11,13,15]},lp:=[]}) (specs:={ l:=[Zgb,ZoP]}) (okS ⟨Zny,ZvU,trivial⟩) trivial (by decide+kernel) (λx=>by kernel_rfl)
abbrev Zg:Ty:=(.st [yI,(.arr 2 yI),(.sl ZB),yI])
abbrev State:Type:=(Int×(List Int)×(List ZL)×Int)
def Wy(F:Nat)(s:(Int×Int×Int×(List ZL)×Int×Int×State)):Option ((Int×Int×Int×(List ZL)×Int×Int×State)⊕(Int×Int×State)):=
 if(decide (s.2.2.2.2.2.1 < s.2.2.2.2.1))=true then
  (idx s.2.2.2.1 s.2.2.2.2.2.1).bind λe111=>
  if(e111.1==(wi (1 - s.1)))=true then
   some (.inl (s.1,wi (s.2.1+1),wi (s.2.2.1+e111.2.2.1),s.2.2.2.1,s.2.2.2.2.1,wi (s.2.2.2.2.2.1+1),s.2.2.2.2.2.2))
  else
  some (.inl (s.1,s.2.1,s.2.2.1,s.2.2.2.1,s.2.2.2.2.1,wi (s.2.2.2.2.2.1+1),s.2.2.2.2.2.2))
 else
 some (.inr (s.2.1,s.2.2.1,s.2.2.2.2.2.2))
def Zho:Lp:=⟨[(1,.v yI),(6,.v yI),(7,.v yI),(11,.v (.sl ZB)),(12,.v yI),(13,.v yI)],[.var (.v Zg) true],[yI,yI,yI,(.sl ZB),yI,yI,Zg],[⟨.exit 0,[(6,.v yI),(7,.v yI)],[.var (.v Zg) true],[yI,yI,Zg]⟩],Zc (Wy fuel) fuel⟩
theorem ZlZ:Zho.Ok ya (Zj ya 66) (Zm ya 66 0):=Zh (fi:={ hi:={ still:=[4,5]},lp:=[]}) (specs:={ l:=[]}) (okS trivial) trivial (by kernel_rfl) (λv=>by kernel_rfl)
def ZaS(F:Nat)(a0:State)(a1:Int):Option ((Int×Int)):=
 (Zc (Wy F) F (a1,(0:Int),(0:Int),a0.2.2.1,(a0.2.2.1.length:Int),(0:Int),a0)).bind λo112=>
 some (o112.1,o112.2.1)
def Zqm(F:Nat):Fs ya:=⟨66,[.v Zg,.v yI],[],[Zg,yI],[⟨.ret,[(0,.tup [.v yI,.v yI])],[],[yI,yI]⟩],λx=>ZaS F x.1 x.2⟩
def Zi8:Fs ya:=Zqm fuel
theorem Zqn:Zi8.Ok:=Zf (fi:={ hi:={ still:=[4,5]},lp:=[(0,Zho)]}) (specs:={ l:=[]}) (okS trivial) ⟨ZlZ,trivial⟩ (by decide+kernel) (λx=>by kernel_rfl)
def QY(F:Nat)(s:(Int×(List ZL)×Int×Int×State)):Option ((Int×(List ZL)×Int×Int×State)⊕(Int×State)):=
 if(decide (s.2.2.2.1 < s.2.2.1))=true then
  (idx s.2.1 s.2.2.2.1).bind λe115=>
  some (.inl (wi (s.1+e115.2.2.1),s.2.1,s.2.2.1,wi (s.2.2.2.1+1),s.2.2.2.2))
 else
 some (.inr (s.1,s.2.2.2.2))
def Zkr:Lp:=⟨[(3,.v yI),(14,.v (.sl ZB)),(15,.v yI),(16,.v yI)],[.var (.v Zg) true],[yI,(.sl ZB),yI,yI,Zg],[⟨.exit 0,[(3,.v yI)],[.var (.v Zg) true],[yI,Zg]⟩],Zc (QY fuel) fuel⟩
theorem ZoQ:Zkr.Ok ya (Zj ya 67) (Zm ya 67 0):=Zh (fi:={ hi:={ still:=[2]},lp:=[]}) (specs:={ l:=[]}) (okS trivial) trivial (by kernel_rfl) (λv=>by kernel_rfl)
def Zec(F:Nat)(a0:State):Option (Int):=
 (a0.2.1[0]?).bind λe113=>
 (a0.2.1[1]?).bind λe114=>
 (Zc (QY F) F (wi (e113+e114),a0.2.2.1,(a0.2.2.1.length:Int),(0:Int),a0)).bind λo116=>
 some o116.1
def Zur(F:Nat):Fs ya:=⟨67,[.v Zg],[],[Zg],[⟨.ret,[(0,.v yI)],[],[yI]⟩],λx=>Zec F x⟩
def ZmO:Fs ya:=Zur fuel
theorem Zus:ZmO.Ok:=Zf (fi:={ hi:={ still:=[2]},lp:=[(0,Zkr)]}) (specs:={ l:=[]}) (okS trivial) ⟨ZoQ,trivial⟩ (by decide+kernel) (λx=>by kernel_rfl)
def ZgD(F:Nat)(a0:Int):Option (Int):=
 if(decide (a0 < 0))=true then
  some (0:Int)
 else
 if(decide (a0 > 16))=true then
  some (0:Int)
 else
 some (wi (68+(wi (8*a0))))
def Zr2(F:Nat):Fs ya:=⟨163,[.v yI],[],[yI],[⟨.ret,[(0,.v yI)],[],[yI]⟩],λx=>ZgD F x⟩
def Zks:Fs ya:=Zr2 fuel
theorem Zr3:Zks.Ok:=Zf (fi:={ hi:={ still:=[2]},lp:=[]}) (specs:={ l:=[]}) (okS trivial) trivial (by decide+kernel) (λx=>by kernel_rfl)
def Zih(F:Nat)(a0:Int)(a1:Int):Option (Int):=
 if(decide (a0 < 0))=true then
  some (0:Int)
 else
 if(decide (a0 > 1000))=true then
  some (0:Int)
 else
 (ZgD F a1).bind λo117=>
 some (wi (a0*o117))
def ZyQ(F:Nat):Fs ya:=⟨126,[.v yI,.v yI],[],[yI,yI],[⟨.ret,[(0,.v yI)],[],[yI]⟩],λx=>Zih F x.1 x.2⟩
def Zro:Fs ya:=ZyQ fuel
theorem ZyR:Zro.Ok:=Zf (fi:={ hi:={ still:=[4,12]},lp:=[]}) (specs:={ l:=[Zks]}) (okS ⟨Zr3,trivial⟩) trivial (by decide+kernel) (λx=>by kernel_rfl)
def Zgc(F:Nat)(a0:ZH)(a1:State):Option (Int):=
 (Zih F a1.2.2.2 (a1.2.2.1.length:Int)).bind λo118=>
 some (wi (o118+660))
def ZvV(F:Nat):Fs ya:=⟨68,[.v Zl,.v Zg],[],[Zl,Zg],[⟨.ret,[(0,.v yI)],[],[yI]⟩],λx=>Zgc F x.1 x.2⟩
def ZoR:Fs ya:=ZvV fuel
theorem ZvW:ZoR.Ok:=Zf (fi:={ hi:={ still:=[4,6,9]},lp:=[]}) (specs:={ l:=[Zro]}) (okS ⟨ZyR,trivial⟩) trivial (by decide+kernel) (λx=>by kernel_rfl)
def QZ(F:Nat)(s:((List ZL)×Int×Int×ZH×State)):Option (((List ZL)×Int×Int×ZH×State)⊕((Bool×ZH×State)⊕(ZH×State))):=
 if(decide (s.2.2.1 < s.2.1))=true then
  (idx s.1 s.2.2.1).bind λe125=>
  (Zf9 F e125).bind λo126=>
  if(!o126)=true then
   some (.inr (.inl (false,s.2.2.2.1,s.2.2.2.2)))
  else
  if(inB (wi (1 - e125.1)) 2)=true then
   (s.2.2.2.1.2.2.2.1[(wi (1 - e125.1)).toNat]?).bind λe127=>
   if(decide (e125.2.2.1 < e127.2.2.2.2.1))=true then
    some (.inr (.inl (false,s.2.2.2.1,s.2.2.2.2)))
   else
   if(decide (s.2.2.1 > 0))=true then
    (idx s.2.2.2.2.2.2.1 (wi (s.2.2.1 - 1))).bind λe128=>
    (Zeb F e128 e125).bind λo129=>
    if(decide (o129 ≥ 0))=true then
     some (.inr (.inl (false,s.2.2.2.1,s.2.2.2.2)))
    else
    some (.inl (s.1,s.2.1,wi (s.2.2.1+1),s.2.2.2.1,s.2.2.2.2))
   else
   some (.inl (s.1,s.2.1,wi (s.2.2.1+1),s.2.2.2.1,s.2.2.2.2))
  else
  none
 else
 some (.inr (.inr (s.2.2.2.1,s.2.2.2.2)))
def Zkt:Lp:=⟨[(2,.ref 0 []),(3,.ref 1 []),(46,.v (.sl ZB)),(47,.v yI),(48,.v yI)],[.var (.v Zl) true,.var (.v Zg) true],[(.sl ZB),yI,yI,Zl,Zg],[⟨.ret,[(4,.v .bool)],[.var (.v Zl) true,.var (.v Zg) true],[.bool,Zl,Zg]⟩,⟨.exit 0,[(2,.ref 0 []),(3,.ref 1 [])],[.var (.v Zl) true,.var (.v Zg) true],[Zl,Zg]⟩],Zc (QZ fuel) fuel⟩
theorem ZoS:Zkt.Ok ya (Zj ya 23) (Zm ya 23 0):=Zh (fi:={ hi:={ still:=[4,11,17,28,35,53,77,78,91,92,107,118,119]},lp:=[]}) (specs:={ l:=[ZoO,ZmN]}) (okS ⟨ZvS,Zuq,trivial⟩) trivial (by kernel_rfl) (λv=>by kernel_rfl)
def Q0(F:Nat)(s:((List QP)×Int×ZH×State)):Option (((List QP)×Int×ZH×State)⊕((Bool×ZH×State)⊕(ZH×State))):=
 if(decide (s.2.1 < 2))=true then
  (idx s.1 s.2.1).bind λe133=>
  (ZaS F s.2.2.2 s.2.1).bind λo134=>
  if(decide (o134.1 > e133.2.2.2.1))=true then
   some (.inr (.inl (false,s.2.2.1,s.2.2.2)))
  else
  if(decide (o134.2 > e133.2.2.2.2.2))=true then
   some (.inr (.inl (false,s.2.2.1,s.2.2.2)))
  else
  some (.inl (s.1,wi (s.2.1+1),s.2.2.1,s.2.2.2))
 else
 some (.inr (.inr (s.2.2.1,s.2.2.2)))
def Zku:Lp:=⟨[(2,.ref 0 []),(3,.ref 1 []),(85,.v (.arr 2 Zc8)),(86,.v yI)],[.var (.v Zl) true,.var (.v Zg) true],[(.arr 2 Zc8),yI,Zl,Zg],[⟨.ret,[(4,.v .bool)],[.var (.v Zl) true,.var (.v Zg) true],[.bool,Zl,Zg]⟩,⟨.exit 2,[(2,.ref 0 []),(3,.ref 1 [])],[.var (.v Zl) true,.var (.v Zg) true],[Zl,Zg]⟩],Zc (Q0 fuel) fuel⟩
theorem ZoT:Zku.Ok ya (Zj ya 23) (Zm ya 23 1):=Zh (fi:={ hi:={ still:=[4,11,17,28,35,53,77,78,91,92,107,118,119]},lp:=[]}) (specs:={ l:=[Zi8]}) (okS ⟨Zqn,trivial⟩) trivial (by kernel_rfl) (λv=>by kernel_rfl)
def Zed(F:Nat)(a0:ZH)(a1:State):Option (Bool):=
 (Zig F a0).bind λo119=>
 if(o119 !=0)=true then
  some false
 else
 (Yt F (0:Int) (1048576:Int) ([a1.1]:List Int)).bind λo120=>
 if(!o120)=true then
  some false
 else
 (a1.2.1[0]?).bind λe121=>
 (a1.2.1[1]?).bind λe122=>
 (Yt F (0:Int) (1125899906842624:Int) ([e121,e122]:List Int)).bind λo123=>
 if(!o123)=true then
  some false
 else
 (Yt F (0:Int) (1000:Int) ([a1.2.2.2]:List Int)).bind λo124=>
 if(!o124)=true then
  some false
 else
 if(decide ((a1.2.2.1.length:Int) > 16))=true then
  some false
 else
 (Zc (QZ F) F (a1.2.2.1,(a1.2.2.1.length:Int),(0:Int),a0,a1)).bind λo130=>
 match o130 with
 |.inl o131=>
  some o131.1
 |.inr o132=>
  (Zc (Q0 F) F (o132.1.2.2.2.1,(0:Int),o132.1,o132.2)).bind λo135=>
  match o135 with
  |.inl o136=>
   some o136.1
  |.inr o137=>
   (Zec F o137.2).bind λo138=>
   if(o138==o137.1.2.1)=true then
    if(inB o137.1.2.2.2.2 2)=true then
     (o137.2.2.1[o137.1.2.2.2.2.toNat]?).bind λe139=>
     (Zgc F o137.1 o137.2).bind λo140=>
     some (decide (e139 ≥ o140))
    else
    none
   else
   some false
def Zut(F:Nat):Fs ya:=⟨23,[.v Zl,.v Zg],[],[Zl,Zg],[⟨.ret,[(0,.v .bool)],[],[.bool]⟩],λx=>Zed F x.1 x.2⟩
def ZmP:Fs ya:=Zut fuel
theorem Zuu:ZmP.Ok:=Zf (fi:={ hi:={ still:=[4,11,17,28,35,53,77,78,91,92,107,118,119]},lp:=[(0,Zkt),(1,Zku)]}) (specs:={ l:=[Zrn,Ze0,ZmO,ZoR]}) (okS ⟨ZyP,Zi6,Zus,ZvW,trivial⟩) ⟨ZoS,ZoT,trivial⟩ (by decide+kernel) (λx=>by kernel_rfl)
def ZaT(F:Nat)(a0:ZH)(a1:State):Option (Bool):=
 if((a1.2.2.1.length:Int)==0)=true then
  (Zed F a0 a1).bind λo141=>
  some o141
 else
 some false
def Ze1(F:Nat):Fs ya:=⟨39,[.v Zl,.v Zg],[],[Zl,Zg],[⟨.ret,[(0,.v .bool)],[],[.bool]⟩],λx=>ZaT F x.1 x.2⟩
def ZgE:Fs ya:=Ze1 fuel
theorem Ze2:ZgE.Ok:=Zf (fi:={ hi:={ still:=[4,10,11]},lp:=[]}) (specs:={ l:=[ZmP]}) (okS ⟨Zuu,trivial⟩) trivial (by decide+kernel) (λx=>by kernel_rfl)
def X1(F:Nat)(a0:ZH)(a1:State)(a2:Int)(a3:Int):Option (Bool):=
 if(a2 !=a0.2.2.2.2)=true then
  some (a3==0)
 else
 if(decide (a3 ≥ 52))=true then
  if(inB a2 2)=true then
   (a1.2.1[a2.toNat]?).bind λe142=>
   some (decide (a3≤e142))
  else
  none
 else
 some false
def Zde(F:Nat):Fs ya:=⟨40,[.v Zl,.v Zg,.v yI,.v yI],[],[Zl,Zg,yI,yI],[⟨.ret,[(0,.v .bool)],[],[.bool]⟩],λx=>X1 F x.1 x.2.1 x.2.2.1 x.2.2.2⟩
def Ze3:Fs ya:=Zde fuel
theorem Zdf:Ze3.Ok:=Zf (fi:={ hi:={ still:=[8]},lp:=[]}) (specs:={ l:=[]}) (okS trivial) trivial (by decide+kernel) (λx=>by kernel_rfl)
def YZ(F:Nat)(s:((List (List UInt8))×Int×(List (List UInt8))×Int×Int)):Option (((List (List UInt8))×Int×(List (List UInt8))×Int×Int)⊕((List (List UInt8))×Int)):=
 if(decide (s.2.2.2.2 < s.2.2.2.1))=true then
  (idx s.2.2.1 s.2.2.2.2).bind λe143=>
  if(decide ((wi (s.2.1+(e143.length:Int))) < 0))=true then
   none
  else
  some (.inl (s.1,wi (s.2.1+(e143.length:Int)),s.2.2.1,s.2.2.2.1,wi (s.2.2.2.2+1)))
 else
 some (.inr (s.1,s.2.1))
def Qf:Lp:=⟨[(0,.v (.sl (.sl .u8))),(3,.v yI),(9,.v (.sl (.sl .u8))),(10,.v yI),(11,.v yI)],[],[(.sl (.sl .u8)),yI,(.sl (.sl .u8)),yI,yI],[⟨.exit 0,[(0,.v (.sl (.sl .u8))),(3,.v yI)],[],[(.sl (.sl .u8)),yI]⟩],Zc (YZ fuel) fuel⟩
theorem Zcx:Qf.Ok ya (Zj ya 158) (Zm ya 158 0):=Zh (fi:={ hi:={ own:=[6,24,31,33],still:=[2,23]},lp:=[]}) (specs:={ l:=[]}) (okS trivial) trivial (by kernel_rfl) (λv=>by kernel_rfl)
def Zan:Fs ya:=⟨178,[.nil .u8,.v yI],[],[.int .i64],[⟨.ret,[(0,.own 0 .u8)],[.log .u8 5],[.sl .u8]⟩],ZtZ⟩
theorem ZgF:Zan.Ok:=ZJC ZHO
def Y2(F:Nat)(s:((List (List UInt8))×Int×Int×(List UInt8))):Option (((List (List UInt8))×Int×Int×(List UInt8))⊕(List UInt8)):=
 if(decide (s.2.2.1 < s.2.1))=true then
  (idx s.1 s.2.2.1).bind λe146=>
  if(apB s.2.2.2.length e146.length 1)=true then
   some (.inl (s.1,s.2.1,wi (s.2.2.1+1),s.2.2.2++e146))
  else
  none
 else
 some (.inr s.2.2.2)
def Qg:Lp:=⟨[(6,.own 0 .u8),(25,.v (.sl (.sl .u8))),(26,.v yI),(27,.v yI)],[.log .u8 5],[(.sl (.sl .u8)),yI,yI,(.sl .u8)],[⟨.exit 2,[(6,.own 0 .u8)],[.log .u8 5],[(.sl .u8)]⟩],Zc (Y2 fuel) fuel⟩
theorem Zcy:Qg.Ok ya (Zj ya 158) (Zm ya 158 1):=Zh (fi:={ hi:={ own:=[6,24,31,33],still:=[2,23]},lp:=[]}) (specs:={ l:=[]}) (okS trivial) trivial (by kernel_rfl) (λv=>by kernel_rfl)
def Yu(F:Nat)(a0:(List (List UInt8))):Option ((List UInt8)):=
 (Zc (YZ F) F (a0,(0:Int),a0,(a0.length:Int),(0:Int))).bind λo144=>
 (ZtZ o144.2).bind λo145=>
 (Zc (Y2 F) F (o144.1,(o144.1.length:Int),(0:Int),o145)).bind λo147=>
 some o147
def Ze4(F:Nat):Fs ya:=⟨158,[.v (.sl (.sl .u8))],[],[(.sl (.sl .u8))],[⟨.ret,[(0,.v (.sl .u8))],[],[(.sl .u8)]⟩],λx=>Yu F x⟩
def Wq:Fs ya:=Ze4 fuel
theorem Qh:Wq.Ok:=Zf (fi:={ hi:={ own:=[6,24,31,33],still:=[2,23]},lp:=[(0,Qf),(1,Qg)]}) (specs:={ l:=[Zan]}) (okS ⟨ZgF,trivial⟩) ⟨Zcx,Zcy,trivial⟩ (by decide+kernel) (λx=>by kernel_rfl)
def Zaa(F:Nat)(a0:(List UInt8))(a1:(List UInt8)):Option ((List UInt8)):=
 (Yu F ([a0,a1]:List (List UInt8))).bind λo148=>
 some o148
def ZyS(F:Nat):Fs ya:=⟨147,[.v (.sl .u8),.v (.sl .u8)],[],[(.sl .u8),(.sl .u8)],[⟨.ret,[(0,.v (.sl .u8))],[],[(.sl .u8)]⟩],λx=>Zaa F x.1 x.2⟩
def Zgd:Fs ya:=ZyS fuel
theorem Zii:Zgd.Ok:=Zf (fi:={ hi:={ still:=[4,7]},lp:=[]}) (specs:={ l:=[Wq]}) (okS ⟨Qh,trivial⟩) trivial (by decide+kernel) (λx=>by kernel_rfl)
def Zee(F:Nat)(s:(Int×(List UInt8))):Option ((Int×(List UInt8))⊕(Int×(List UInt8))):=
 if(decide (s.1 ≥ 128))=true then
  if(apB s.2.length 1 1)=true then
   let y149:(List UInt8):=s.2++([w8 (wi ((Int.tmod s.1 128)+128))]:List UInt8)
   some (.inl (wi (Int.tdiv s.1 128),y149))
  else
  none
 else
 some (.inr (s.1,s.2))
def Zrp:Lp:=⟨[(0,.v yI),(3,.own 0 .u8)],[.log .u8 5],[yI,(.sl .u8)],[⟨.exit 0,[(0,.v yI),(3,.own 0 .u8)],[.log .u8 5],[yI,(.sl .u8)]⟩],Zc (Zee fuel) fuel⟩
theorem Zuv:Zrp.Ok ya (Zj ya 148) (Zm ya 148 0):=Zh (fi:={ hi:={ own:=[3,8,14,15,19],still:=[2]},lp:=[]}) (specs:={ l:=[]}) (okS trivial) trivial (by kernel_rfl) (λv=>by kernel_rfl)
def Zhp(F:Nat)(a0:Int):Option ((List UInt8)):=
 (Zc (Zee F) F (a0,([]:List UInt8))).bind λo150=>
 if(apB o150.2.length 1 1)=true then
  some (o150.2++([w8 o150.1]:List UInt8))
 else
 none
def ZA4(F:Nat):Fs ya:=⟨148,[.v yI],[],[yI],[⟨.ret,[(0,.v (.sl .u8))],[],[(.sl .u8)]⟩],λx=>Zhp F x⟩
def Znz:Fs ya:=ZA4 fuel
theorem Zrq:Znz.Ok:=Zf (fi:={ hi:={ own:=[3,8,14,15,19],still:=[2]},lp:=[(0,Zrp)]}) (specs:={ l:=[]}) (okS trivial) ⟨Zuv,trivial⟩ (by decide+kernel) (λx=>by kernel_rfl)
def Wt(F:Nat)(a0:(List UInt8))(a1:Int):Option ((List UInt8)):=
 if(decide (a1 < 0))=true then
  (Zaa F a0 ([]:List UInt8)).bind λo151=>
  some o151
 else
 (Zhp F a1).bind λo152=>
 (Zaa F a0 o152).bind λo153=>
 some o153
def ZA5(F:Nat):Fs ya:=⟨104,[.v (.sl .u8),.v yI],[],[(.sl .u8),yI],[⟨.ret,[(0,.v (.sl .u8))],[],[(.sl .u8)]⟩],λx=>Wt F x.1 x.2⟩
def ZbS:Fs ya:=ZA5 fuel
theorem Zcz:ZbS.Ok:=Zf (fi:={ hi:={ still:=[4,7,9,10,11]},lp:=[]}) (specs:={ l:=[Zgd,Znz]}) (okS ⟨Zii,Zrq,trivial⟩) trivial (by decide+kernel) (λx=>by kernel_rfl)
def Q1(F:Nat)(s:((List UInt8)×UInt64×Int×(List UInt8))):Option (((List UInt8)×UInt64×Int×(List UInt8))⊕((List UInt8)×(List UInt8))):=
 if(decide (s.2.2.1 < 8))=true then
  if(decide (0≤wi (56 - (wi (8*s.2.2.1)))))=true then
   let y154:UInt64:=ZF s.2.1 (min (wi (56 - (wi (8*s.2.2.1)))).toNat 64)
   if(inB s.2.2.1 8)=true then
    (s.2.2.2[s.2.2.1.toNat]?).bind λe155=>
    let y156:(List UInt8):=s.2.2.2.set s.2.2.1.toNat (w8 (y154.toNat:Int))
    some (.inl (s.1,s.2.1,wi (s.2.2.1+1),y156))
   else
   none
  else
  none
 else
 some (.inr (s.1,s.2.2.2))
def Zkv:Lp:=⟨[(0,.v (.sl .u8)),(1,.v .u64),(5,.ref 0 []),(7,.v yI)],[.var (.v (.arr 8 .u8)) true],[(.sl .u8),.u64,yI,(.arr 8 .u8)],[⟨.exit 0,[(0,.v (.sl .u8)),(5,.ref 0 [])],[.var (.v (.arr 8 .u8)) true],[(.sl .u8),(.arr 8 .u8)]⟩],Zc (Q1 fuel) fuel⟩
theorem ZoU:Zkv.Ok ya (Zj ya 105) (Zm ya 105 0):=Zh (fi:={ hi:={ still:=[4,19,20],frz:=[20]},lp:=[]}) (specs:={ l:=[]}) (okS trivial) trivial (by kernel_rfl) (λv=>by kernel_rfl)
def ZaU(F:Nat)(a0:(List UInt8))(a1:UInt64):Option ((List UInt8)):=
 (Zc (Q1 F) F (a0,a1,(0:Int),([0,0,0,0,0,0,0,0]:List UInt8))).bind λo157=>
 (Zaa F o157.1 o157.2).bind λo158=>
 some o158
def Zuw(F:Nat):Fs ya:=⟨105,[.v (.sl .u8),.v .u64],[],[(.sl .u8),.u64],[⟨.ret,[(0,.v (.sl .u8))],[],[(.sl .u8)]⟩],λx=>ZaU F x.1 x.2⟩
def ZgG:Fs ya:=Zuw fuel
theorem Zkw:ZgG.Ok:=Zf (fi:={ hi:={ still:=[4,19,20],frz:=[20]},lp:=[(0,Zkv)]}) (specs:={ l:=[Zgd]}) (okS ⟨Zii,trivial⟩) ⟨ZoU,trivial⟩ (by decide+kernel) (λx=>by kernel_rfl)
def Qi(F:Nat)(s:((List UInt8)×(List ZC)×Int×Int×(List UInt64)×Int×Int×Zz×ZC)):Option (((List UInt8)×(List ZC)×Int×Int×(List UInt64)×Int×Int×Zz×ZC)⊕((List UInt8)×(List ZC)×Int×Int×Zz×ZC)):=
 if(decide (s.2.2.2.2.2.2.1 < s.2.2.2.2.2.1))=true then
  (idx s.2.2.2.2.1 s.2.2.2.2.2.2.1).bind λe163=>
  (ZaU F s.1 e163).bind λo164=>
  some (.inl (o164,s.2.1,s.2.2.1,s.2.2.2.1,s.2.2.2.2.1,s.2.2.2.2.2.1,wi (s.2.2.2.2.2.2.1+1),s.2.2.2.2.2.2.2.1,s.2.2.2.2.2.2.2.2))
 else
 some (.inr (s.1,s.2.1,s.2.2.1,s.2.2.2.1,s.2.2.2.2.2.2.2.1,s.2.2.2.2.2.2.2.2))
def ZmQ:Lp:=⟨[(3,.v (.sl .u8)),(5,.ref 1 []),(16,.v (.sl Zo)),(17,.v yI),(18,.v yI),(28,.v (.sl .u64)),(29,.v yI),(30,.v yI)],[.var (.v Zp) true,.var (.v Zo) true],[(.sl .u8),(.sl Zo),yI,yI,(.sl .u64),yI,yI,Zp,Zo],[⟨.exit 2,[(3,.v (.sl .u8)),(5,.ref 1 []),(16,.v (.sl Zo)),(17,.v yI),(18,.v yI)],[.var (.v Zp) true,.var (.v Zo) true],[(.sl .u8),(.sl Zo),yI,yI,Zp,Zo]⟩],Zc (Qi fuel) fuel⟩
theorem Zqo:ZmQ.Ok ya (Zj ya 49) (Zm ya 49 1):=Zh (fi:={ hi:={ still:=[2,8,13,22,25,34,35,38,40,41,43,44,46]},lp:=[]}) (specs:={ l:=[ZgG]}) (okS ⟨Zkw,trivial⟩) trivial (by kernel_rfl) (λv=>by kernel_rfl)
def ZaV(F:Nat)(s:((List UInt8)×(List ZC)×Int×Int×Zz)):Option (((List UInt8)×(List ZC)×Int×Int×Zz)⊕((List UInt8)×Zz)):=
 if(decide (s.2.2.2.1 < s.2.2.1))=true then
  (idx s.2.1 s.2.2.2.1).bind λe161=>
  (Wt F s.1 (e161.1.length:Int)).bind λo162=>
  (Zc (Qi F) F (o162,s.2.1,s.2.2.1,s.2.2.2.1,e161.1,(e161.1.length:Int),(0:Int),s.2.2.2.2,e161)).bind λo165=>
  (Wt F o165.1 o165.2.2.2.2.2.2.1).bind λo166=>
  (Wt F o166 o165.2.2.2.2.2.2.2.1).bind λo167=>
  (ZaU F o167 o165.2.2.2.2.2.2.2.2).bind λo168=>
  some (.inl (o168,o165.2.1,o165.2.2.1,wi (o165.2.2.2.1+1),o165.2.2.2.2.1))
 else
 some (.inr (s.1,s.2.2.2.2))
def ZmR:Lp:=⟨[(3,.v (.sl .u8)),(16,.v (.sl Zo)),(17,.v yI),(18,.v yI)],[.var (.v Zp) true],[(.sl .u8),(.sl Zo),yI,yI,Zp],[⟨.exit 0,[(3,.v (.sl .u8))],[.var (.v Zp) true],[(.sl .u8),Zp]⟩],Zc (ZaV fuel) fuel⟩
theorem Zqp:ZmR.Ok ya (Zj ya 49) (Zm ya 49 0):=Zh (fi:={ hi:={ still:=[2,8,13,22,25,34,35,38,40,41,43,44,46]},lp:=[(1,ZmQ)]}) (specs:={ l:=[ZbS,ZgG]}) (okS ⟨Zcz,Zkw,trivial⟩) ⟨Zqo,trivial⟩ (by kernel_rfl) (λv=>by kernel_rfl)
end
end Go.Proofs.YtmkgbalfkhaflaaGreat
end
