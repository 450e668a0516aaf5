/- Parts of the proof, in one file. -/
import Derived.Test.YtmkgbalfkhaflaaGreatKd
open Bool renaming and_eq_true → yg
open Go.Proofs.Tryz renaming prog → ya
open List renaming getElem?_eq_some_iff → yj, length_append → yl, range → yp, replicate → yr, length_map → yu, getElem?_eq_getElem → yw, map_cons → yx, length_cons → yz, getElem?_map → yac, getElem?_append_left → yah, getElem?_cons_succ → yaj, getElem?_append_right → yak, getElem?_eq_none → yam, map_append → yan, mem_cons_self → yao, getElem?_cons_zero → yaq, mem_cons_of_mem → yar, mem_singleton → yat, map_map → yau, all_eq_true → yaw, append_nil → ybb, ext_getElem? → ybk, mem_of_getElem? → ybu, map_congr_left → ybz, getElem?_set_self → ycc, length_replicate → yci, getElem?_set_ne → ycr
open Nat renaming le_refl → yi, mod_eq_of_lt → yai, add_mul → yap, zero_add → yax, mod_lt → ybd, mul_comm → ybe, mul_le_mul_right → ybr, lt_or_ge → ybt, add_assoc → ybw, eq_zero_or_pos → ybx
open Option renaming bind_some → yb, bind_eq_some_iff → yc, map_some → yy
open Option.some renaming injEq → yf, inj → ybi
open UInt32 renaming ofNat → ybh
open UInt64 renaming ofNat → yaf, toNat_ofNat' → ybc, toNat_lt → ybg, lt_iff_toNat_lt → ybs, le_iff_toNat_le → yck
set_option linter.unusedVariables false
set_option linter.unusedSimpArgs false
section
namespace Go.Ev
def Wr (H H':List Ent):Prop:=∀σ:Sg,Ok σ→σ.H=H→∃σ':Sg,σ'.w=σ.w∧σ'.H=H'∧To σ σ'∧Ok σ'
theorem Wr.refl (H:List Ent):Wr H H:=fun σ ok h=>⟨σ,rfl,h,To.refl σ,ok⟩
theorem Wr.trans {A B C:List Ent} (h:Wr A B) (k:Wr B C):Wr A C:=fun σ ok e=>by
 obtain ⟨σ1,a1,a2,a3,a4⟩:=h σ ok e
 obtain ⟨σ2,b1,b2,b3,b4⟩:=k σ1 a4 a2
 exact ⟨σ2,b1.trans a1,b2,a3.trans b3,b4⟩
theorem ZFA {H H':List Ent} (h:WkH H H'):Wr H H':=fun σ ok e=>by
 subst e
 obtain ⟨to,ok'⟩:=Zmt ok h
 exact ⟨{ σ with H:=H'},rfl,rfl,to,ok'⟩
theorem ZHS {P:Program} {c:Code} {ts ts1 ts2:List Dv} {H H1 H2:List Ent} {ex:Ex} (h:Wr H H1∧∀(σ:Sg) (a:Act),RepT σ ts a→RepT σ ts1 a) (r:XM P c ts1 H1 ex ts2 H2):XM P c ts H ex ts2 H2:=by
 intro σ a ok hH hrep
 obtain ⟨σ1,e1,e2,e3,e4⟩:=h.1 σ ok hH
 have:=r σ1 a e4 e2 (h.2 _ _ (hrep.to e3.leaf))
 rw [e1] at this
 refine wp_mono this ?_
 rintro e' a' w' ⟨rfl,σ2,q1,q2,q3,q4,q5⟩
 exact ⟨rfl,σ2,q1,q2,e3.trans q3,q4,q5⟩
theorem ZFB {H:List Ent} {j:Nat} {x x' y:Ent} (hj:H[j]? =some x)
 (hy:∀σ:Sg,entOk σ none y)
 (hvar:(∃d st,x=.var d st)→∃d st,x'=.var d st) (hmap:(∃t kvs,x=.map t kvs)→∃t kvs,x'=.map t kvs) (hlog:∀s e xs,x≠ .log s e xs)
 (hunl:∀o,x.unlocked o→x'.unlocked o)
 (hrow:∀v s st e d,x=.row v s st e d→∃st' d',x'=.row v s st' e d')
 (hent:∀(σ:Sg) (mi:Option Nat),σ.H[H.length]? =some y→σ.m[H.length]? =some none→entOk σ mi x→entOk σ mi x'):Wr H ((H++[y]).set j x'):=by
 intro σ ok hH
 subst hH
 have hjl:j < σ.H.length:=(yj.1 hj).1
 obtain ⟨to1,ok1⟩:=X6 (σ':={ σ with m:=σ.m++[none],H:=σ.H++[y]}) ok rfl rfl rfl rfl (World.grownBy.refl σ.w none) (.inl rfl) (fun _=>hy _)
 obtain ⟨mi,hm⟩:∃mi,σ.m[j]? =some mi:=⟨_,yw (by rw [ok.len];exact hjl)⟩
 let σ1:Sg:={ σ with m:=σ.m++[none],H:=σ.H++[y]}
 let σ2:Sg:={ σ1 with m:=σ1.m.set j mi,H:=σ1.H.set j x'}
 have hH1:σ1.H[j]? =some x:=by
  show (σ.H++[y])[j]? =_
  rw [yah hjl]
  exact hj
 have hm1:σ1.m[j]? =some mi:=by
  show (σ.m++[none])[j]? =_
  rw [yah (by rw [ok.len];exact hjl)]
  exact hm
 have hx:=ok1.ent j x mi hH1 hm1
 obtain ⟨to2,ok2⟩:=Xl (σ':=σ2) (mi:=mi) (mi':=mi) ok1 hH1 hm1 rfl rfl rfl rfl rfl rfl rfl (yi _)
  (fun _ _ _=>rfl) (fun _ _ _ _ _ h=>h) (fun o _ hu=>hunl o hu) (.inl rfl) (fun q=>⟨rfl,hvar q⟩) (fun q=>⟨rfl,hmap q⟩) (fun s e xs q=>absurd q (hlog s e xs))
  (fun leaf=>by
    refine hent σ2 mi ?_ ?_ (Za0 leaf (fun b _=>rfl) hx)
    ·show (σ1.H.set j _)[σ.H.length]? =_
     rw [List.getElem?_set,if_neg (by omega)]
     simp [σ1]
    ·show (σ1.m.set j _)[σ.H.length]? =_
     rw [List.getElem?_set,if_neg (by omega)]
     show (σ.m++[none])[σ.H.length]? =_
     rw [yak (by rw [ok.len];exact yi _),ok.len]
     simp)
  (fun v s st e d q=>by
    obtain ⟨st',d',q'⟩:=hrow v s st e d q
    exact ⟨v,st',d',q',yi _,fun _=>⟨rfl,fun b cur _ hc=>⟨cur,hc,rfl⟩⟩⟩)
 exact ⟨σ2,rfl,rfl,to1.trans to2,ok2⟩
theorem Zvg {σ:Sg} {s:Nat} {a:List Value} (h:repD σ (.p (.sl (some false) s [])) a):a=[.slice none 0 0]:=by
 simp only [repD,repC] at h
 obtain ⟨_,A,c,rfl,w1,w2,w3,w4,w5⟩:=h
 have hA:A=none:=by
  have:=w3 false rfl
  cases A with
  |none=>rfl
  |some _=>cases this
 subst hA
 have hc:=w4 rfl
 subst hc
 rfl
theorem ZCj {H:List Ent} {j s:Nat} {e:TypeId} {d d':Dv} {st:Bool} {path:List Nat} (hj:H[j]? =some (.var d st)) (hg:YO d path s (.rv H.length 0 s 0 0)=some d'):
 Wr H ((H++[Ent.row 0 s true e (.p (.arr 0 s []))]).set j (.var d' st)):=by
 have hsz:=QZ path d d' s _ rfl hg
 refine ZFB hj (fun σ=>⟨0,by simp [rowN],.inl ⟨rfl,rfl⟩⟩) (fun _=>⟨_,_,rfl⟩) (fun ⟨_,_,q⟩=>by cases q) (fun _ _ _ q=>by cases q) (fun o hu=>hu) (fun _ _ _ _ _ q=>by cases q) ?_
 rintro σ mi h1 h2 ⟨b,cs,t,rfl,q2,q3,q4⟩
 refine ⟨b,cs,t,rfl,q2, ?_,by rw [hsz];exact q4⟩
 rw [hsz]
 refine ZbI path d d' s _ (fun a ha=> ?_) hg _ q3
 have:=Zvg ha
 subst this
 simp only [repD]
 exact ⟨none,0,rfl,yi _,by simp [maxLen],fun _=>rfl,fun h=>absurd h (Nat.lt_irrefl 0),0,s,true,e,_,h1,yi _,fun _=>⟨rfl,.inl ⟨h2,rfl,rfl⟩⟩⟩
theorem ZFC {H:List Ent} {j s s' v N:Nat} {st:Bool} {e e':TypeId} {xs:List Pl} {k:Nat} {x:Pl} {y:Dv} {path:List Nat} (hj:H[j]? =some (.row v s st e (.p (.arr N s xs)))) (hx:xs[k]? =some x)
 (hg:YO (.p x) path s' (.own H.length none s' [])=some y):Wr H ((H++[Ent.log s' e' []]).set j (.row v s st e (.arr N s ((xs.map .p).set k y)))):=by
 have hsz:=QZ path (.p x) y s' _ rfl hg
 refine ZFB hj (fun σ=>.inl ⟨rfl,rfl⟩) (fun ⟨_,_,q⟩=>by cases q) (fun ⟨_,_,q⟩=>by cases q) (fun _ _ _ q=>by cases q) (fun o hu=> ?_) (fun v2 s2 st2 e2 d2 q=>by cases q;exact ⟨_,_,rfl⟩) ?_
 ·obtain ⟨u1,N',u2,u3⟩:=hu
  exact ⟨u1,N',by rw [←u2];simp [rowN],u3⟩
 rintro σ mi h1 h2 ⟨N',q1,q2⟩
 refine ⟨N',by rw [←q1];simp [rowN], ?_⟩
 rcases q2 with q2|⟨b,cur,cap,e3,e4,e5,e6,e7,e8⟩
 ·exact .inl q2
 refine .inr ⟨b,cur,cap,e3,e4,e5,e6,e7, ?_⟩
 have hk:(xs.map Dv.p)[k]? =some (.p x):=by rw [yac,hx];rfl
 simp only [repD,repC] at e8 ⊢
 obtain ⟨r1,r2,r3⟩:=e8
 refine ⟨by simpa using r1,fun z hz=> ?_, ?_⟩
 ·rcases List.mem_or_eq_of_mem_set hz with hz|hz
  ·obtain ⟨w,hw,rfl⟩:=List.mem_map.1 hz
   exact r2 w hw
  ·subst hz
   rw [hsz]
   exact r2 x (ybu hx)
 ·refine Zke (x:=.p x) (y:=y) (fun a ha=>ZbI path (.p x) y s' _ (fun a ha=> ?_) hg a ha) _ k _ hk (ZeG.2 r3)
  have:=Zvg ha
  subst this
  simp only [repD]
  exact ⟨fun _ hx=>(by cases hx),none,0,rfl,yi _,by simp [maxLen],ZT _,fun _=>rfl,fun h=>absurd rfl h,e',[],h1,yi _,fun _=>.inl ⟨h2,rfl,rfl⟩⟩
theorem ZHT {H:List Ent} {j:Nat} {d d':Dv} {st:Bool} (hj:H[j]? =some (.var d st)) (hsz:d'.size=d.size) (hd:∀σ:Sg,Ok σ→σ.H=H→∀us,repD σ d us→repD σ d' us):Wr H (H.set j (.var d' st)):=by
 intro σ ok hH
 subst hH
 have hjl:j < σ.H.length:=(yj.1 hj).1
 obtain ⟨mi,hm⟩:∃mi,σ.m[j]? =some mi:=⟨_,yw (by rw [ok.len];exact hjl)⟩
 let σ2:Sg:={ σ with m:=σ.m.set j mi,H:=σ.H.set j (.var d' st)}
 obtain ⟨b,cs,t,rfl,q2,q3,q4⟩:=ok.ent j _ mi hj hm
 have q5:=hd σ ok rfl _ q3
 obtain ⟨to2,ok2⟩:=Xl (σ':=σ2) (mi:=some b) (mi':=some b) ok hj hm rfl rfl rfl rfl rfl rfl rfl (yi _)
  (fun _ _ _=>rfl) (fun _ _ _ _ _ h=>h) (fun o _ hu=>hu) (.inl rfl) (fun q=>⟨rfl,_,_,rfl⟩) (fun ⟨_,_,q⟩=>by cases q) (fun s e xs q=>by cases q)
  (fun leaf=>⟨b,cs,t,rfl,q2,by rw [hsz];exact Z2 leaf _ _ q5,by rw [hsz];exact q4⟩)
  (fun v s st e d q=>by cases q)
 exact ⟨σ2,rfl,rfl,to2,ok2⟩
def ZJu {α O:Type} (l:List α) (f:α→List α→Option O):Option O:=match l with
 |x::r=>f x r
 |[]=>none
inductive GOp where
 |rows (t:Tmp) (path:List Nat) (T:Ty) (e:TypeId) (np:List Nat)
 |focus (t:Tmp) (U:Ty) (e:TypeId)
 |done (t:Tmp)
 |fresh (t:Tmp) (i:Nat)
 |rowt (t:Tmp) (path:List Nat) (T:Ty) (e:TypeId)
 |freshS (t:Tmp)
 |freshV (t:Tmp)
 |freshDone (t:Tmp) (i:Nat)
 |any (t:Tmp) (i:Nat) (T:Ty)
 |melt (t:Tmp)
def ZFD:TEnt→Bool
 |.rowN _ _ _ true _ _ _=>true
 |_=>false
section
variable {O:Type} {out:O}
abbrev Kh (O:Type):=List TD→List TEnt→Option O
def ZAZ (t:Tmp) (path:List Nat) (T:Ty) (e:TypeId) (np:List Nat) (a:List TD) (h:List TEnt) (K:Kh O):Option O:=
 match a[t]? with
 |some (.ref id [])=>match h[id]? with
  |some (.var d true)=>(ZdO T (.rw h.length) path d).bind fun d'=>if (TD.frees h.length a&&h.all (TEnt.free h.length))=true then K a ((h++[TEnt.rowN T np [] true e [] []]).set id (.var d' true)) else none
  |_=>none
 |_=>none
def ZA0 (t:Tmp) (path:List Nat) (T:Ty) (e:TypeId) (a:List TD) (h:List TEnt) (K:Kh O):Option O:=
 match a[t]? with
 |some (.ref id [])=>match h[id]? with
  |some (.var d true)=>(ZdO T (.rw h.length) path d).bind fun d'=>if (TD.frees h.length a&&h.all (TEnt.free h.length))=true then K a ((h++[TEnt.rowT T [] true e []]).set id (.var d' true)) else none
  |_=>none
 |_=>none
def ZwV (t:Tmp) (U:Ty) (e:TypeId) (a:List TD) (h:List TEnt) (K:Kh O):Option O:=
 let j:=h.findIdx ZFD
 match h[j]?,((a[t]?).bind TD.num) with
 |some (.rowN T np v true e' pre post),some i=>if (TD.frees h.length a&&h.all (TEnt.free h.length))=true then if decide (i.n=(pre.length:Int))=true then ZJu post fun x r=>
   (ZdO U (.own h.length none U none) np (.p (Xj np (.v T x)))).bind fun d=>K a ((h++[TEnt.log U e []]).set j (.rowM T np v true e' pre d r)) else none else none
 |_,_=>none
def Zy8 (h:List TEnt):TD→Option (TD×List Nat)
 |.rw j=>match h[j]? with
  |some (.rowN T _ _ _ _ pre [])=>some (.p (.sl none T pre),[j])
  |some (.rowT T _ _ _ l)=>some (.p (.sl none T l),[j])
  |_=>none
 |d=>some (d,[])
def ZFE (h:List TEnt):TD→(TD→List Nat→Option O)→Option O
 |.rw j,K=>match h[j]? with
  |some (.rowN T _ _ _ _ pre post)=>if post.isEmpty=true then K (.p (.sl none T pre)) [j] else none
  |some (.rowT T _ _ _ l)=>K (.p (.sl none T l)) [j]
  |_=>none
 |d,K=>K d []
theorem ZA1 {h:List TEnt} {d:TD} {K:TD→List Nat→Option O} (k:ZFE h d K=some out):∃q,Zy8 h d=some q∧K q.1 q.2=some out:=by
 unfold ZFE at k
 unfold Zy8
 split at k
 ·rename_i j
  dsimp only
  split at k
  ·rename_i T np v st e pre post hd
   rw [hd]
   obtain ⟨h1,k⟩:=Za k
   cases post with
   |nil=>exact ⟨_,rfl,k⟩
   |cons _ _=>cases h1
  ·rename_i T v st e l hd
   rw [hd]
   exact ⟨_,rfl,k⟩
  ·cases k
 ·rename_i hne
  refine ⟨(d,[]), ?_,k⟩
  cases d <;> first|rfl|exact absurd rfl (hne _)
def ZA2 (h:List TEnt):List TD→(List TD→List Nat→Option O)→Option O
 |[],K=>K [] []
 |d::r,K=>ZFE h d fun x l=>ZA2 h r fun y m=>K (x::y) (l++m)
def Zsd (h:List TEnt):List TD→Option (List TD×List Nat)
 |[]=>some ([],[])
 |d::r=>match Zy8 h d,Zsd h r with
  |some q,some w=>some (q.1::w.1,q.2++w.2)
  |_,_=>none
theorem Zpv {h:List TEnt}:∀{ds:List TD} {K:List TD→List Nat→Option O},ZA2 h ds K=some out→∃q,Zsd h ds=some q∧K q.1 q.2=some out
 |[],K,k=>⟨_,rfl,k⟩
 |d::r,K,k=>by
  obtain ⟨q,h1,k⟩:=ZA1 k
  obtain ⟨w,h2,k⟩:=Zpv k
  exact ⟨(q.1::w.1,q.2++w.2),by simp only [Zsd,h1,h2],k⟩
def ZiR:TEnt→TEnt
 |.rowN T np v _ e a b=>.rowN T np v false e a b
 |.rowT t v _ e l=>.rowT t v false e l
 |e=>e
def Za6 (ids:List Nat) (H:List TEnt):List TEnt:=(yp H.length).zipWith (fun i e=>if ids.contains i then ZiR e else e) H
def Zse (t:Tmp) (a:List TD) (h:List TEnt) (K:Kh O):Option O:=
 match a[t]? with
 |some (.ref id [])=>match h[id]? with
  |some (.var (.agg ds) st)=>ZA2 h ds fun x l=>K a ((Za6 l h).set id (.var (.agg x) st))
  |_=>none
 |_=>none
def ZqW (t:Tmp) (i:Nat) (a:List TD) (h:List TEnt) (K:Kh O):Option O:=
 match a[t]? with
 |some (.ref j [])=>match h[j]? with
  |some (.var (.agg ds) st)=>match ds[i]? with
   |some (.rv id v s 0 n)=>match h[id]? with
    |some (.rowT T w _ _ l)=>if (decide (v=w.length)&&(decide (s=T.size)&&decide (n=l.length)))=true then K a (h.set j (.var (.agg (ds.set i (.rw id))) st)) else none
    |_=>none
   |_=>none
  |_=>none
 |_=>none
def Zsf (t:Tmp) (a:List TD) (h:List TEnt) (K:Kh O):Option O:=
 match a[t]? with
 |some (.rv id v s 0 n)=>match h[id]? with
  |some (.rowT T w _ _ l)=>if (decide (v=w.length)&&(decide (s=T.size)&&decide (n=l.length)))=true then K (a.set t (.rw id)) h else none
  |_=>none
 |_=>none
def Zsg (t:Tmp) (a:List TD) (h:List TEnt) (K:Kh O):Option O:=
 match a[t]? with
 |some (.ref j [])=>match h[j]? with
  |some (.var (.rv id v s 0 n) st)=>match h[id]? with
   |some (.rowT T w _ _ l)=>if (decide (v=w.length)&&(decide (s=T.size)&&decide (n=l.length)))=true then K a (h.set j (.var (.rw id) st)) else none
   |_=>none
  |_=>none
 |_=>none
def ZFF (t:Tmp) (i:Nat) (T:Ty) (a:List TD) (h:List TEnt) (K:Kh O):Option O:=
 match a[t]? with
 |some (.ref j [])=>match h[j]? with
  |some (.var (.agg ds) st)=>match ds[i]? with
   |some (.p x)=>(TP.to ZiK x T).bind fun y=>K a (h.set j (.var (.agg (ds.set i (.p (.v T y)))) st))
   |_=>none
  |_=>none
 |_=>none
def ZA3 (t:Tmp) (a:List TD) (h:List TEnt) (K:Kh O):Option O:=
 match a[t]? with
 |some (.ref j [])=>match h[j]? with
  |some (.var (.p (.arr n s xs)) st)=>K a (h.set j (.var (.arr n s (xs.map TD.p)) st))
  |_=>K a h
 |_=>K a h
def ghT:GOp→List TD→List TEnt→Kh O→Option O
 |.rows t path T e np,a,h,K=>ZAZ t path T e np a h K
 |.focus t U e,a,h,K=>ZwV t U e a h K
 |.done t,a,h,K=>Zse t a h K
 |.fresh t i,a,h,K=>ZqW t i a h K
 |.rowt t path T e,a,h,K=>ZA0 t path T e a h K
 |.freshS t,a,h,K=>Zsf t a h K
 |.freshV t,a,h,K=>Zsg t a h K
 |.freshDone t i,a,h,K=>ZqW t i a h fun a h=>Zse t a h K
 |.any t i T,a,h,K=>ZFF t i T a h K
 |.melt t,a,h,K=>ZA3 t a h K
def ghO (g:Option GOp) (a:List TD) (h:List TEnt) (K:Kh O):Option O:=
 match g with
 |none=>K a h
 |some g=>ghT g a h K
theorem ZwW {H:List TEnt} {e:TEnt} (h:H.all (TEnt.free H.length)=true):erH (H++[e])=erH H++[e.er (lk (H++[e]))]:=by
 unfold erH
 rw [yan]
 congr 1
 refine ybz fun x hx=> ?_
 have hf:=yaw.1 h x hx
 exact (ZyS (fun id t hn=>Q7 id t hn) x hf).symm
theorem ZwX {H:List TEnt} {e:TEnt} {a:List TD} (h:TD.frees H.length a=true):TD.ers (lk (H++[e])) a=TD.ers (lk H) a:=(ers_free (fun id t hn=>Q7 id t hn) a h).symm
theorem Zy9 {t:Tmp} {path:List Nat} {T:Ty} {e:TypeId} {np:List Nat} {a:List TD} {h:List TEnt} {K:Kh O} (k:ZAZ t path T e np a h K=some out):
 ∃a' h',K a' h'=some out∧a'.length=a.length∧Wr (erH h) (erH h')∧∀(σ:Sg) (act:Act),RepT σ (TD.ers (lk h) a) act→RepT σ (TD.ers (lk h') a') act:=by
 unfold ZAZ at k
 split at k
 ·rename_i id hid
  split at k
  ·rename_i d hd
   obtain ⟨d',h1,k⟩:=yc.1 k
   obtain ⟨h2,k⟩:=Za k
   rw [yg] at h2
   have hlt:id < h.length:=(yj.1 hd).1
   have hd':(h++[TEnt.rowN T np [] true e [] []])[id]? =some (.var d true):=by rw [yah hlt];exact hd
   have hL:lk ((h++[TEnt.rowN T np [] true e [] []]).set id (.var d' true))=lk (h++[TEnt.rowN T np [] true e [] []]):=WR hd' rfl rfl
   refine ⟨_,_,k,rfl, ?_,fun σ act r=> ?_⟩
   ·have e1:erH ((h++[TEnt.rowN T np [] true e [] []]).set id (.var d' true))=(erH h++[Ent.row 0 T.size true e (.p (.arr 0 T.size []))]).set id (.var (d'.er (lk (h++[TEnt.rowN T np [] true e [] []]))) true):=by
     rw [Y7 hL,ZwW h2.2]
     rfl
    rw [e1]
    have hj:(erH h)[id]? =some (.var (d.er (lk h)) true):=by rw [ZP hd];rfl
    refine ZCj (path:=path) hj ?_
    have e2:=Zdv (L:=lk (h++[TEnt.rowN T np [] true e [] []])) path d d' h1
    have e3:d.er (lk (h++[TEnt.rowN T np [] true e [] []]))=d.er (lk h):=(Zbm (fun id t hn=>Q7 id t hn) d (yaw.1 h2.2 _ (ybu hd))).symm
    rw [e3,(Zc4 (q:=(0,T.size,0)) (x:=.rowN T np [] true e [] []) (List.getElem?_concat_length ..) rfl).1] at e2
    rw [ZI]
    exact e2
   ·rw [hL,ZwX h2.1]
    exact r
  ·cases k
 ·cases k
theorem Zza {t:Tmp} {path:List Nat} {T:Ty} {e:TypeId} {a:List TD} {h:List TEnt} {K:Kh O} (k:ZA0 t path T e a h K=some out):
 ∃a' h',K a' h'=some out∧a'.length=a.length∧Wr (erH h) (erH h')∧∀(σ:Sg) (act:Act),RepT σ (TD.ers (lk h) a) act→RepT σ (TD.ers (lk h') a') act:=by
 unfold ZA0 at k
 split at k
 ·rename_i id hid
  split at k
  ·rename_i d hd
   obtain ⟨d',h1,k⟩:=yc.1 k
   obtain ⟨h2,k⟩:=Za k
   rw [yg] at h2
   have hlt:id < h.length:=(yj.1 hd).1
   have hd':(h++[TEnt.rowT T [] true e []])[id]? =some (.var d true):=by rw [yah hlt];exact hd
   have hL:lk ((h++[TEnt.rowT T [] true e []]).set id (.var d' true))=lk (h++[TEnt.rowT T [] true e []]):=WR hd' rfl rfl
   refine ⟨_,_,k,rfl, ?_,fun σ act r=> ?_⟩
   ·have e1:erH ((h++[TEnt.rowT T [] true e []]).set id (.var d' true))=(erH h++[Ent.row 0 T.size true e (.p (.arr 0 T.size []))]).set id (.var (d'.er (lk (h++[TEnt.rowT T [] true e []]))) true):=by
     rw [Y7 hL,ZwW h2.2]
     rfl
    rw [e1]
    have hj:(erH h)[id]? =some (.var (d.er (lk h)) true):=by rw [ZP hd];rfl
    refine ZCj (path:=path) hj ?_
    have e2:=Zdv (L:=lk (h++[TEnt.rowT T [] true e []])) path d d' h1
    have e3:d.er (lk (h++[TEnt.rowT T [] true e []]))=d.er (lk h):=(Zbm (fun id t hn=>Q7 id t hn) d (yaw.1 h2.2 _ (ybu hd))).symm
    rw [e3,(ZaE (T:=T) (v:=[]) (l:=[]) (List.getElem?_concat_length ..)).1] at e2
    rw [ZI]
    exact e2
   ·rw [hL,ZwX h2.1]
    exact r
  ·cases k
 ·cases k
theorem ZwY {t:Tmp} {U:Ty} {e:TypeId} {a:List TD} {h:List TEnt} {K:Kh O} (k:ZwV t U e a h K=some out):
 ∃a' h',K a' h'=some out∧a'.length=a.length∧Wr (erH h) (erH h')∧∀(σ:Sg) (act:Act),RepT σ (TD.ers (lk h) a) act→RepT σ (TD.ers (lk h') a') act:=by
 unfold ZwV at k
 dsimp only at k
 generalize h.findIdx ZFD=j at k
 split at k
 ·rename_i T np v e' pre post i hd hi
  obtain ⟨h2,k⟩:=Za k
  obtain ⟨_,k⟩:=Za k
  simp only [yg] at h2
  obtain ⟨h2,h3⟩:=h2
  cases post with
  |nil=>cases k
  |cons x r=>
   have k:((ZdO U (.own h.length none U none) np (.p (Xj np (.v T x)))).bind fun d=>K a ((h++[TEnt.log U e []]).set j (.rowM T np v true e' pre d r)))=some out:=k
   obtain ⟨d,h1,k⟩:=yc.1 k
   have hlt:j < h.length:=(yj.1 hd).1
   have hd':(h++[TEnt.log U e []])[j]? =some (.rowN T np v true e' pre (x::r)):=by rw [yah hlt];exact hd
   have hL:lk ((h++[TEnt.log U e []]).set j (.rowM T np v true e' pre d r))=lk (h++[TEnt.log U e []]):=ZB5 hd' rfl
   refine ⟨_,_,k,rfl, ?_,fun σ act rr=> ?_⟩
   ·have e1:erH ((h++[TEnt.log U e []]).set j (.rowM T np v true e' pre d r))=(erH h++[Ent.log U.size e []]).set j (.row v.length T.size true e' (.arr (pre.length+(r.length+1)) T.size (((pre.map T.enc++(x::r).map fun x=>(Xj np (.v T x)).pe).map .p).set pre.length (d.er (lk (h++[TEnt.log U e []])))))):=by
     rw [Y7 hL,ZwW h3]
     have hm:=ZB6 (pre.map fun x=>Dv.p (T.enc x)) (r.map fun x=>.p (Xj np (.v T x)).pe) (.p (Xj np (.v T x)).pe) (d.er (lk (h++[TEnt.log U e []])))
     rw [yu] at hm
     have hm2:((pre.map T.enc++(x::r).map fun x=>(Xj np (.v T x)).pe).map Dv.p).set pre.length (d.er (lk (h++[TEnt.log U e []])))=(pre.map fun x=>Dv.p (T.enc x))++d.er (lk (h++[TEnt.log U e []]))::r.map fun x=>.p (Xj np (.v T x)).pe:=by
      rw [yan,yau,yau]
      exact hm
     rw [hm2]
     rfl
    rw [e1]
    have hj:(erH h)[j]? =some (.row v.length T.size true e' (.p (.arr (pre.length+(r.length+1)) T.size (pre.map T.enc++(x::r).map fun x=>(Xj np (.v T x)).pe)))):=by rw [ZP hd];rfl
    have hx:(pre.map T.enc++(x::r).map fun x=>(Xj np (.v T x)).pe)[pre.length]? =some (Xj np (.v T x)).pe:=by
     have:=ZwO (pre.map T.enc) (r.map fun x=>(Xj np (.v T x)).pe) (Xj np (.v T x)).pe
     rw [yu] at this
     exact this
    refine ZFC (path:=np) hj hx ?_
    have e2:=Zdv (L:=lk (h++[TEnt.log U e []])) np _ d h1
    have e3:(TD.own h.length none U none).er (lk (h++[TEnt.log U e []]))=.own h.length none U.size []:=by
     rw [TD.er,Zdu]
     rfl
    rw [e3,TD.er] at e2
    rw [ZI]
    exact e2
   ·rw [hL,ZwX h2]
    exact rr
 ·cases k
theorem ZFG (e:TEnt):lkE (some (ZiR e))=lkE (some e):=by cases e <;> rfl
theorem ZgL (ids:List Nat) (H:List TEnt) (i:Nat):(Za6 ids H)[i]? =(H[i]?).map fun e=>if ids.contains i then ZiR e else e:=by
 unfold Za6
 rw [List.getElem?_zipWith]
 rcases ybt i H.length with h|h
 ·rw [List.getElem?_range h,yw h]
  rfl
 ·rw [yam (by simpa using h),yam h]
  rfl
theorem Zvh (ids:List Nat) (H:List TEnt):lk (Za6 ids H)=lk H:=by
 funext i
 unfold lk
 rw [ZgL]
 cases H[i]? with
 |none=>rfl
 |some e=>
  show lkE (some (if ids.contains i=true then ZiR e else e))=_
  split
  ·exact ZFG e
  ·rfl
theorem ZDP (ids:List Nat) (H:List TEnt):WkH (erH H) (erH (Za6 ids H)):=by
 refine ZAW (by rw [ZI,ZI];unfold Za6;simp) fun i a b h1 h2=> ?_
 unfold erH at h1 h2
 rw [yac] at h1 h2
 rw [Zvh,ZgL] at h2
 cases he:H[i]? with
 |none=>rw [he] at h1;cases h1
 |some e=>
  rw [he] at h1 h2
  cases h1
  cases h2
  show WkE (e.er (lk H)) (TEnt.er (lk H) (if ids.contains i=true then ZiR e else e))
  split
  ·cases e <;> first|exact .refl _|exact .lock
  ·exact .refl _
theorem ZFH {h H:List TEnt} {d:TD} {q:TD×List Nat} (hq:Zy8 h d=some q) (hL:lk H=lk h) (hl:∀j,j∈q.2→∀e,h[j]? =some e→H[j]? =some (ZiR e)):
 (q.1.er (lk H)).size=(d.er (lk H)).size∧∀σ:Sg,Ok σ→σ.H=erH H→∀us,repD σ (d.er (lk H)) us→repD σ (q.1.er (lk H)) us:=by
 have other:∀x:TD,(q.1.er (lk H)).size=(q.1.er (lk H)).size∧∀σ:Sg,Ok σ→σ.H=erH H→∀us,repD σ (q.1.er (lk H)) us→repD σ (q.1.er (lk H)) us:=fun _=>⟨rfl,fun _ _ _ _ r=>r⟩
 have row:∀(j:Nat) (v:Nat) (s:Nat) (e:TypeId) (xs:List Pl) (T:Ty) (l:List T.den),(TD.rw j).er (lk H)=.rv j v s 0 xs.length→(erH H)[j]? =some (.row v s false e (.p (.arr xs.length s xs)))→s=T.size→xs=l.map T.enc→
  ((TD.p (.sl none T l)).er (lk H)).size=((TD.rw j).er (lk H)).size∧∀σ:Sg,Ok σ→σ.H=erH H→∀us,repD σ ((TD.rw j).er (lk H)) us→repD σ ((TD.p (.sl none T l)).er (lk H)) us:=by
  intro j v s e xs T l e1 e2 e3 e4
  subst e3
  rw [e1]
  refine ⟨rfl,fun σ ok hH us r=> ?_⟩
  have dr:=DeepR.rvp (H:=σ.H) (lo:=0) (n:=xs.length) (by rw [hH];exact e2) (by omega)
  rw [List.drop_zero,List.take_length] at dr
  have:=ZrJ ok dr us r
  rw [TD.er,TP.pe, ←e4]
  simpa [repD] using this
 unfold Zy8 at hq
 split at hq
 ·rename_i j
  split at hq
  ·rename_i T np v st e pre hd
   cases hq
   have hH:=hl j (yao ..) _ hd
   have hr:=Zc4 (q:=(v.length,T.size,pre.length+0)) (x:=ZiR (.rowN T np v st e pre [])) hH rfl
   refine row j v.length T.size e (pre.map T.enc) T pre (by rw [hr.1,yu];rfl) ?_ rfl rfl
   rw [ZP hH,yu]
   simp only [ZiR,TEnt.er,List.map_nil,ybb,List.length_nil,Nat.add_zero]
  ·rename_i T v st e l hd
   cases hq
   have hH:=hl j (yao ..) _ hd
   have hr:=ZaE (T:=T) (v:=v) (st:=false) (e:=e) (l:=l) hH
   refine row j v.length T.size e (l.map T.enc) T l (by rw [hr.1,yu]) ?_ rfl rfl
   rw [ZP hH,yu]
   rfl
  ·cases hq
 ·cases hq
  exact other d
theorem Zvi {h H:List TEnt}:∀{ds:List TD} {q:List TD×List Nat},Zsd h ds=some q→lk H=lk h→(∀j,j∈q.2→∀e,h[j]? =some e→H[j]? =some (ZiR e))→
 Dv.sizes (TD.ers (lk H) q.1)=Dv.sizes (TD.ers (lk H) ds)∧∀σ:Sg,Ok σ→σ.H=erH H→∀us,repDs σ (TD.ers (lk H) ds) us→repDs σ (TD.ers (lk H) q.1) us
 |[],q,hq,hL,hl=>by cases hq;exact ⟨rfl,fun _ _ _ _ r=>r⟩
 |d::r,q,hq,hL,hl=>by
  simp only [Zsd] at hq
  split at hq
  ·rename_i q1 q2 h1 h2
   cases hq
   obtain ⟨a1,a2⟩:=ZFH h1 hL (fun j hj=>hl j (List.mem_append_left _ hj))
   obtain ⟨b1,b2⟩:=Zvi h2 hL (fun j hj=>hl j (List.mem_append_right _ hj))
   refine ⟨by simp only [TD.ers,Dv.sizes];rw [a1,b1],fun σ ok hH us rr=> ?_⟩
   simp only [TD.ers,repDs] at rr ⊢
   obtain ⟨u1,u2,e1,e2,e3⟩:=rr
   exact ⟨u1,u2,e1,a2 σ ok hH _ e2,b2 σ ok hH _ e3⟩
  ·cases hq
theorem Zpw {t:Tmp} {a:List TD} {h:List TEnt} {K:Kh O} (k:Zse t a h K=some out):
 ∃a' h',K a' h'=some out∧a'.length=a.length∧Wr (erH h) (erH h')∧∀(σ:Sg) (act:Act),RepT σ (TD.ers (lk h) a) act→RepT σ (TD.ers (lk h') a') act:=by
 unfold Zse at k
 split at k
 ·rename_i id hid
  split at k
  ·rename_i ds st hd
   obtain ⟨q,h1,k⟩:=Zpv k
   have hd2:(Za6 q.2 h)[id]? =some (.var (.agg ds) st):=by
    rw [ZgL,hd]
    show some (if q.2.contains id=true then ZiR (.var (.agg ds) st) else .var (.agg ds) st)=_
    split <;> rfl
   have hL0:lk (Za6 q.2 h)=lk h:=Zvh _ _
   have hL:lk ((Za6 q.2 h).set id (.var (.agg q.1) st))=lk (Za6 q.2 h):=WR hd2 rfl rfl
   refine ⟨_,_,k,rfl,(ZFA (ZDP q.2 h)).trans ?_,fun σ act rr=>by rw [hL,hL0];exact rr⟩
   rw [Y7 hL]
   have hj:(erH (Za6 q.2 h))[id]? =some (.var (.agg (TD.ers (lk (Za6 q.2 h)) ds)) st):=by rw [ZP hd2];rfl
   obtain ⟨c1,c2⟩:=Zvi (H:=Za6 q.2 h) h1 hL0 (fun j hj e he=>by
    rw [ZgL,he]
    show some (if q.2.contains j=true then ZiR e else e)=_
    rw [if_pos (by simpa using hj)])
   refine ZHT hj ?_ fun σ ok hH us r=> ?_
   ·exact c1
   ·simp only [TD.er,repD] at r ⊢
    exact c2 σ ok hH us r
  ·cases k
 ·cases k
theorem Zzb {L:Lk} {ds:List TD} {i:Nat} {x y:TD} (h:ds[i]? =some x) (e:y.er L=x.er L):TD.ers L (ds.set i y)=TD.ers L ds:=by
 rw [ZB,ZB,List.map_set,e]
 apply ybk
 intro k
 by_cases hk:i=k
 ·subst hk
  rw [ycc (by rw [yu];exact (yj.1 h).1),yac,h]
  rfl
 ·rw [ycr hk]
theorem Zm1 {t:Tmp} {i:Nat} {a:List TD} {h:List TEnt} {K:Kh O} (k:ZqW t i a h K=some out):
 ∃a' h',K a' h'=some out∧a'.length=a.length∧Wr (erH h) (erH h')∧∀(σ:Sg) (act:Act),RepT σ (TD.ers (lk h) a) act→RepT σ (TD.ers (lk h') a') act:=by
 unfold ZqW at k
 split at k
 ·rename_i j hj
  split at k
  ·rename_i ds st hd
   split at k
   ·rename_i id v s n hi
    split at k
    ·rename_i T w st' e l hr
     obtain ⟨c,k2⟩:=Za k
     clear k
     rw [yg,yg,decide_eq_true_eq,decide_eq_true_eq,decide_eq_true_eq] at c
     obtain ⟨rfl,rfl,rfl⟩:=c
     have hL:lk (h.set j (.var (.agg (ds.set i (.rw id))) st))=lk h:=WR hd rfl rfl
     have he:(TD.rw id).er (lk h)=(TD.rv id w.length T.size 0 l.length).er (lk h):=by
      refine (ZwK (v:=w) (s:=T.size) (N:=l.length) ?_).1
      unfold ZR lk
      dsimp only
      rw [hr]
      rfl
     refine ⟨_,_,k2,rfl, ?_,fun σ act rr=>by rw [hL];exact rr⟩
     have e2:erH (h.set j (.var (.agg (ds.set i (.rw id))) st))=erH h:=by
      rw [Y7 hL]
      show (erH h).set j (.var (.agg (TD.ers (lk h) (ds.set i (.rw id)))) st)=erH h
      rw [Zzb hi he]
      apply ybk
      intro q
      by_cases hq:j=q
      ·subst hq
       have hjl:(erH h)[j]? =some (.var (.agg (TD.ers (lk h) ds)) st):=by rw [ZP hd];rfl
       rw [ycc (yj.1 hjl).1,hjl]
      ·rw [ycr hq]
     rw [e2]
     exact Wr.refl _
    ·cases k
   ·cases k
  ·cases k
 ·cases k
theorem Zzc {h:List TEnt} {id:Nat} {T:Ty} {w:List Unit} {st:Bool} {e:TypeId} {l:List T.den} (hr:h[id]? =some (.rowT T w st e l)):(TD.rw id).er (lk h)=(TD.rv id w.length T.size 0 l.length).er (lk h):=by
 refine (ZwK (v:=w) (s:=T.size) (N:=l.length) ?_).1
 unfold ZR lk
 dsimp only
 rw [hr]
 rfl
theorem Zt3 {t:Tmp} {a:List TD} {h:List TEnt} {K:Kh O} (k:Zsf t a h K=some out):
 ∃a' h',K a' h'=some out∧a'.length=a.length∧Wr (erH h) (erH h')∧∀(σ:Sg) (act:Act),RepT σ (TD.ers (lk h) a) act→RepT σ (TD.ers (lk h') a') act:=by
 unfold Zsf at k
 split at k
 ·rename_i id v s n hi
  split at k
  ·rename_i T w st' e l hr
   obtain ⟨c,k2⟩:=Za k
   clear k
   rw [yg,yg,decide_eq_true_eq,decide_eq_true_eq,decide_eq_true_eq] at c
   obtain ⟨rfl,rfl,rfl⟩:=c
   exact ⟨_,_,k2,List.length_set,Wr.refl _,fun σ act rr=>by rw [Zzb hi (Zzc hr)];exact rr⟩
  ·cases k
 ·cases k
theorem Zt4 {t:Tmp} {a:List TD} {h:List TEnt} {K:Kh O} (k:Zsg t a h K=some out):
 ∃a' h',K a' h'=some out∧a'.length=a.length∧Wr (erH h) (erH h')∧∀(σ:Sg) (act:Act),RepT σ (TD.ers (lk h) a) act→RepT σ (TD.ers (lk h') a') act:=by
 unfold Zsg at k
 split at k
 ·rename_i j hj
  split at k
  ·rename_i id v s n st hd
   split at k
   ·rename_i T w st' e l hr
    obtain ⟨c,k2⟩:=Za k
    clear k
    rw [yg,yg,decide_eq_true_eq,decide_eq_true_eq,decide_eq_true_eq] at c
    obtain ⟨rfl,rfl,rfl⟩:=c
    have hL:lk (h.set j (.var (.rw id) st))=lk h:=WR hd rfl rfl
    refine ⟨_,_,k2,rfl, ?_,fun σ act rr=>by rw [hL];exact rr⟩
    have e2:erH (h.set j (.var (.rw id) st))=erH h:=by
     rw [Y7 hL]
     show (erH h).set j (.var ((TD.rw id).er (lk h)) st)=erH h
     rw [Zzc hr]
     apply ybk
     intro q
     by_cases hq:j=q
     ·subst hq
      have hjl:(erH h)[j]? =some (.var ((TD.rv id w.length T.size 0 l.length).er (lk h)) st):=by rw [ZP hd];rfl
      rw [ycc (yj.1 hjl).1,hjl]
     ·rw [ycr hq]
    rw [e2]
    exact Wr.refl _
   ·cases k
  ·cases k
 ·cases k
theorem ZCk:∀{l:List Dv} {i:Nat} {d e:Dv},l[i]? =some d→Wk d e→WkL l (l.set i e)
 |[],_,_,_,h,_=>by simp at h
 |x::r,0,d,e,h,k=>by
  simp only [yaq,yf] at h
  subst h
  exact .cons k (WkL.refl r)
 |x::r,i+1,d,e,h,k=>by
  simp only [yaj] at h
  exact .cons (Wk.refl x) (ZCk h k)
theorem ZFI {L:Lk}:∀{ds:List TD} {i:Nat} {d e:TD},ds[i]? =some d→(TD.ers L ds)[i]? =some (d.er L)∧TD.ers L (ds.set i e)=(TD.ers L ds).set i (e.er L)
 |[],_,_,_,h=>by simp at h
 |x::r,0,d,e,h=>by
  simp only [yaq,yf] at h
  subst h
  exact ⟨rfl,rfl⟩
 |x::r,i+1,d,e,h=>by
  simp only [yaj] at h
  obtain ⟨h1,h2⟩:=ZFI (e:=e) h
  exact ⟨h1,by show x.er L::TD.ers L (r.set i e)=_;rw [h2];rfl⟩
theorem ZA4 {t:Tmp} {i:Nat} {T:Ty} {a:List TD} {h:List TEnt} {K:Kh O} (k:ZFF t i T a h K=some out):
 ∃a' h',K a' h'=some out∧a'.length=a.length∧Wr (erH h) (erH h')∧∀(σ:Sg) (act:Act),RepT σ (TD.ers (lk h) a) act→RepT σ (TD.ers (lk h') a') act:=by
 unfold ZFF at k
 split at k
 ·rename_i j hj
  split at k
  ·rename_i ds st hd
   split at k
   ·rename_i x hx
    obtain ⟨y,h1,k⟩:=yc.1 k
    have hL:lk (h.set j (.var (.agg (ds.set i (.p (.v T y)))) st))=lk h:=WR hd rfl rfl
    refine ⟨_,_,k,rfl, ?_,fun σ act rr=>by rw [hL];exact rr⟩
    rw [Y7 hL]
    have hjl:(erH h)[j]? =some (.var (.agg (TD.ers (lk h) ds)) st):=by rw [ZP hd];rfl
    obtain ⟨e1,e2⟩:=ZFI (L:=lk h) (e:=.p (.v T y)) hx
    refine ZFA (WkH.set_at hjl (WkE.var ?_))
    show Wk (.agg (TD.ers (lk h) ds)) (.agg (TD.ers (lk h) (ds.set i (.p (.v T y)))))
    rw [e2]
    exact WkL.agg (ZCk e1 (Wk.p (Zyw h1)))
   ·cases k
  ·cases k
 ·cases k
theorem Wk.melt {n s:Nat} {xs:List Pl}:Wk (.p (.arr n s xs)) (.arr n s (xs.map Dv.p)):=⟨rfl,rfl,fun σ vs r=>by
 simp only [repD,repC] at r ⊢
 exact ⟨by rw [yu];exact r.1,fun x hx=>by obtain ⟨y,hy,rfl⟩:=List.mem_map.1 hx;exact r.2.1 y hy,ZeG.2 r.2.2⟩⟩
theorem Zzd {t:Tmp} {a:List TD} {h:List TEnt} {K:Kh O} (k:ZA3 t a h K=some out):
 ∃a' h',K a' h'=some out∧a'.length=a.length∧Wr (erH h) (erH h')∧∀(σ:Sg) (act:Act),RepT σ (TD.ers (lk h) a) act→RepT σ (TD.ers (lk h') a') act:=by
 unfold ZA3 at k
 split at k
 ·rename_i j hj
  split at k
  ·rename_i n s xs st hd
   have hL:lk (h.set j (.var (.arr n s (xs.map TD.p)) st))=lk h:=WR hd rfl rfl
   refine ⟨_,_,k,rfl, ?_,fun σ act rr=>by rw [hL];exact rr⟩
   rw [Y7 hL]
   have hjl:(erH h)[j]? =some (.var (.p (.arr n s (TP.pes xs))) st):=by rw [ZP hd];rfl
   refine ZFA (WkH.set_at hjl (WkE.var ?_))
   show Wk (.p (.arr n s (TP.pes xs))) (.arr n s (TD.ers (lk h) (xs.map TD.p)))
   have e:TD.ers (lk h) (xs.map TD.p)=(TP.pes xs).map Dv.p:=by
    rw [ZB,Vj,yau,yau]
    rfl
   rw [e]
   exact Wk.melt
  ·exact ⟨_,_,k,rfl,Wr.refl _,fun _ _ r=>r⟩
 ·exact ⟨_,_,k,rfl,Wr.refl _,fun _ _ r=>r⟩
theorem ZFJ {g:Option GOp} {a:List TD} {h:List TEnt} {K:Kh O} (k:ghO g a h K=some out):
 ∃a' h',K a' h'=some out∧a'.length=a.length∧Wr (erH h) (erH h')∧∀(σ:Sg) (act:Act),RepT σ (TD.ers (lk h) a) act→RepT σ (TD.ers (lk h') a') act:=by
 unfold ghO at k
 split at k
 ·exact ⟨_,_,k,rfl,Wr.refl _,fun _ _ r=>r⟩
 ·rename_i g
  cases g with
  |rows t path T e np=>exact Zy9 k
  |focus t U e=>exact ZwY k
  |done t=>exact Zpw k
  |fresh t i=>exact Zm1 k
  |rowt t path T e=>exact Zza k
  |freshS t=>exact Zt3 k
  |freshV t=>exact Zt4 k
  |freshDone t i=>
   obtain ⟨a1,h1,k,l1,g1,r1⟩:=Zm1 (K:=fun a h=>Zse t a h K) k
   obtain ⟨a2,h2,k,l2,g2,r2⟩:=Zpw k
   exact ⟨a2,h2,k,l2.trans l1,g1.trans g2,fun σ act r=>r2 σ act (r1 σ act r)⟩
  |any t i T=>exact ZA4 k
  |melt t=>exact Zzd k
end
end Go.Ev
end
section
namespace Go.Ev
section
variable {P:Program}
theorem Zze {x y:Code} {ts ts1 ts2:List Dv} {H H1 H2:List Ent} {ex:Ex} (r1:XM P x ts H .normal ts1 H1) (r2:XM P y ts1 H1 ex ts2 H2):XM P (.seq x y) ts H ex ts2 H2:=by
 intro σ a ok hH hrep
 refine wp_seq (wp_mono (r1 σ a ok hH hrep) ?_)
 rintro e a' w' ⟨rfl,σ1,rfl,e1,to1,ok1,hrep1⟩
 refine wp_mono (r2 σ1 a' ok1 e1 hrep1) ?_
 rintro e a'' w'' ⟨rfl,σ2,rfl,e2,to2,ok2,hrep2⟩
 exact ⟨rfl,σ2,rfl,e2,to1.trans to2,ok2,hrep2⟩
theorem Zvj {x y:Code} {ts ts1:List Dv} {H H1:List Ent} {ex:Ex} (hne:ex≠ .normal) (r1:XM P x ts H ex ts1 H1):XM P (.seq x y) ts H ex ts1 H1:=by
 intro σ a ok hH hrep
 refine wp_seq (wp_mono (r1 σ a ok hH hrep) ?_)
 rintro e a' w' ⟨rfl,hq⟩
 cases ex with
 |normal=>exact absurd rfl hne
 |exit id=>exact ⟨rfl,hq⟩
 |ret=>exact ⟨rfl,hq⟩
theorem Zkq {c:Operand} {x y:Code} {ts ts1:List Dv} {H H1:List Ent} {ex:Ex} {b:Bool} (hc:Zs P ts 0 c=.p (.bool b)) (r1:XM P (if b then x else y) ts H ex ts1 H1):XM P (.cond c x y) ts H ex ts1 H1:=by
 intro σ a ok hH hrep
 have hv:=Zj (P:=P) hrep 0 c
 rw [hc] at hv
 cases b
 ·exact wp_cond_false (Ym hv) (r1 σ a ok hH hrep)
 ·exact wp_cond_true (Ym hv) (r1 σ a ok hH hrep)
def ZwZ (id:Nat):Ex→Ex
 |.exit i=>if i=id then .normal else .exit i
 |ex=>ex
theorem ZA5 {id:Nat} {body:Code} {ts ts1:List Dv} {H H1:List Ent} {ex:Ex} (r1:XM P body ts H ex ts1 H1):XM P (.block id body) ts H (ZwZ id ex) ts1 H1:=by
 intro σ a ok hH hrep
 refine wp_block (wp_mono (r1 σ a ok hH hrep) ?_)
 rintro e a' w' ⟨rfl,hq⟩
 cases ex with
 |normal=>exact ⟨rfl,hq⟩
 |exit id'=>
  simp only [Ex.to,Exit.inBlock,ZwZ]
  split
  ·exact ⟨rfl,hq⟩
  ·exact ⟨rfl,hq⟩
 |ret=>exact ⟨rfl,hq⟩
theorem ZA6 {body:Code} {ts ts1:List Dv} {H H1:List Ent} {ex:Ex} (r1:XM P body ts H ex ts1 H1):XM P (.scope body) ts H ex ts1 H1:=by
 intro σ a ok hH hrep
 refine wp_scope_straight (wp_mono (r1 σ a ok hH hrep) ?_)
 rintro e a' w' ⟨rfl,hq⟩
 cases ex <;> exact ⟨rfl,hq⟩
theorem ZDQ {ts:List Dv} {H:List Ent}:XM P .skip ts H .normal ts H:=fun σ a ok hH hrep=>wp_skip ⟨rfl,σ,rfl,hH,To.refl σ,ok,hrep⟩
theorem ZA7 {n:Nat} {ts:List Dv} {H:List Ent}:XM P (.label n) ts H .normal ts H:=fun σ a ok hH hrep=>wp_label ⟨rfl,σ,rfl,hH,To.refl σ,ok,hrep⟩
theorem ZDR {n:Nat} {ts:List Dv} {H:List Ent}:XM P (.exit n) ts H (.exit n) ts H:=fun σ a ok hH hrep=>wp_exit ⟨rfl,σ,rfl,hH,To.refl σ,ok,hrep⟩
theorem ZFK {ts:List Dv} {H:List Ent}:XM P .ret ts H .ret ts H:=fun σ a ok hH hrep=>wp_ret ⟨rfl,σ,rfl,hH,To.refl σ,ok,hrep⟩
theorem ZDS {c:Code} {ts ts1:List Dv} {H H1:List Ent} {ex:Ex} (keep:List Nat) (r:XM P c ts H ex ts1 H1):XM P c ts H ex (ZH keep 0 ts1) H1:=by
 intro σ a ok hH hrep
 refine wp_mono (r σ a ok hH hrep) ?_
 rintro e a' w' ⟨rfl,σ1,rfl,e1,to1,ok1,hrep1⟩
 exact ⟨rfl,σ1,rfl,e1,to1,ok1,Q0 keep hrep1⟩
def Zzf (n0:Nat) (sl:Slots) (es:List ESh) (a:List TD) (h:List TEnt):Option (List TV):=
 if once (yp n0++[]) then (X7 h (yp n0++[]) (yp n0++[])).bind fun h2=>(TD.rns (toIds (yp n0++[])) (ZhB (sl.map (·.1)) 0 a)).bind fun a2=>
  (Sh.mts (lk h2) (shs sl a.length) a2).bind fun q=>(ESh.mts (lk h2) es h2).bind fun w=>some (q.2++w.2)
 else none
theorem ZA8 {n0:Nat} {sl:Slots} {es:List ESh} {a:List TD} {h:List TEnt} {vs:List TV} (k:Zzf n0 sl es a h=some vs):
 ∃a3 h3,V8 a.length sl es vs=some (a3,h3)∧∀{c:Code} {ts:List Dv} {H:List Ent} {ex:Ex},H.length=n0→XM P c ts H ex (TD.ers (lk h) a) (erH h)→XM P c ts H ex (TD.ers (lk h3) a3) (erH h3):=by
 unfold Zzf at k
 split at k
 ·rename_i ho
  obtain ⟨h2,h1,k⟩:=yc.1 k
  obtain ⟨a2,e2,k⟩:=yc.1 k
  obtain ⟨q,e3,k⟩:=yc.1 k
  obtain ⟨w,e4,k⟩:=yc.1 k
  cases k
  obtain ⟨g1,g2⟩:=ZfW e4
  have hc:∀id t,ZR (lk h2) id t none=ZR (lk w.1) id t none:=fun id t=>by rw [g2]
  refine ⟨q.1,w.1, ?_,fun {c ts H ex} hl r=> ?_⟩
  ·unfold V8
   rw [mts_fills _ _ _ e3]
   have:=Za5 e4 []
   rw [ybb] at this
   rw [yb,this]
   rfl
  ·have r1:=ZDS (sl.map (·.1)) r
   rw [←ZmY] at r1
   have r2:=ZDt [] [] r1 (by rw [hl];exact ho) (by rw [hl];exact X8 (Q9 h1) h1) (by rw [hl];exact rns_er (Q9 h1) _ _ e2)
   exact Zu3 r2 (mts_wk hc _ _ _ e3) (Zkm hc e4)
 ·cases k
theorem ZA9 {n0:Nat} {sl:Slots} {es:List ESh} {a:List TD} {h:List TEnt} {vs:List TV} (hn:h.length=n0) (k:Zzf n0 sl es a h=some vs):
 ∃a3 h3,V8 a.length sl es vs=some (a3,h3)∧∀(σ:Sg) (act:Act),Ok σ→σ.H=erH h→RepT σ (TD.ers (lk h) a) act→∃σ':Sg,σ'.w=σ.w∧σ'.H=erH h3∧To σ σ'∧Ok σ'∧RepT σ' (TD.ers (lk h3) a3) act:=by
 subst hn
 unfold Zzf at k
 split at k
 ·rename_i ho
  obtain ⟨h2,h1,k⟩:=yc.1 k
  obtain ⟨a2,e2,k⟩:=yc.1 k
  obtain ⟨q,e3,k⟩:=yc.1 k
  obtain ⟨w,e4,k⟩:=yc.1 k
  cases k
  obtain ⟨g1,g2⟩:=ZfW e4
  have hc:∀id t,ZR (lk h2) id t none=ZR (lk w.1) id t none:=fun id t=>by rw [g2]
  refine ⟨q.1,w.1, ?_,fun σ act ok hH hrep=> ?_⟩
  ·unfold V8
   rw [mts_fills _ _ _ e3]
   have:=Za5 e4 []
   rw [ybb] at this
   rw [yb,this]
   rfl
  ·have r1:=Q0 (sl.map (·.1)) hrep
   rw [←ZmY] at r1
   have hin:subEnts σ.H (yp σ.H.length++[]) (yp σ.H.length++[])=some (erH h2):=by
    rw [hH,ZI]
    exact X8 (Q9 h1) h1
   have ho':once (yp σ.H.length++[])=true:=by rw [hH,ZI];exact ho
   have e2':Dv.rns (toIds (yp σ.H.length++[])) (TD.ers (lk h) (ZhB (sl.map (·.1)) 0 a))=some (TD.ers (lk h2) a2):=by
    rw [hH,ZI]
    exact rns_er (Q9 h1) _ _ e2
   have r2:=Zyo (ZgF hin) e2' r1
   have to1:=ZqP ok (To.refl σ) ho' hin
   have ok1:=ZqO ok ho' hin
   obtain ⟨to2,ok2⟩:=Zmt (σ:=Zk9 σ (yp σ.H.length++[]) (erH h2)) ok1 (H':=erH w.1) (Zkm hc e4)
   exact ⟨{ Zk9 σ (yp σ.H.length++[]) (erH h2) with H:=erH w.1},rfl,rfl,to1.trans to2,ok2,(mts_wk hc _ _ _ e3).repT (r2.to to2.leaf)⟩
 ·cases k
def ZJv (L:Lk):ESh→TEnt→Option TEnt
 |.rowN _ _ _ _,.rowM u np v st e pre mid post=>(ZJl L u mid).map fun y=>.rowN u np v st e (pre++[y]) post
 |_,x=>some x
def ZFL (L:Lk):List ESh→List TEnt→Option (List TEnt)
 |[],h=>some h
 |_::_,[]=>some []
 |s::r,x::h=>match ZJv L s x,ZFL L r h with
  |some y,some ys=>some (y::ys)
  |_,_=>none
theorem ZHU {L:Lk} {s:ESh} {x y:TEnt} (h:ZJv L s x=some y):lkE (some y)=lkE (some x)∧WkE (x.er L) (y.er L):=by
 unfold ZJv at h
 split at h
 ·rename_i u np v st e pre mid post
  obtain ⟨c,h1,rfl⟩:=Zb h
  refine ⟨?_,ZCa (ZB7 h1)⟩
  simp only [lkE,yl,yz,List.length_nil]
  rw [ybw,Nat.add_comm (0+1)]
 ·cases h
  exact ⟨rfl,.refl _⟩
theorem ZCl {L:Lk}:∀{es:List ESh} {h h':List TEnt},ZFL L es h=some h'→h'.length=h.length∧(∀j:Nat,lkE (h'[j]?)=lkE (h[j]?))∧WkH (h.map (TEnt.er L)) (h'.map (TEnt.er L))
 |[],h,h',k=>by cases k;exact ⟨rfl,fun _=>rfl,WkH.refl _⟩
 |_::_,[],h',k=>by cases k;exact ⟨rfl,fun _=>rfl,WkH.refl _⟩
 |s::r,x::h,h',k=>by
  simp only [ZFL] at k
  split at k
  ·rename_i y ys h1 h2
   cases k
   obtain ⟨a1,a2⟩:=ZHU h1
   obtain ⟨b1,b2,b3⟩:=ZCl h2
   refine ⟨by simp [b1],fun j=> ?_,.cons a2 b3⟩
   cases j with
   |zero=>exact a1
   |succ j=>exact b2 j
  ·cases k
theorem ZCm {es:List ESh} {h h':List TEnt} (k:ZFL (lk h) es h=some h'):h'.length=h.length∧lk h'=lk h∧WkH (erH h) (erH h'):=by
 obtain ⟨a,b,c⟩:=ZCl k
 have e:lk h'=lk h:=funext b
 refine ⟨a,e, ?_⟩
 unfold erH
 rw [e]
 exact c
def Zw0 (n0:Nat) (sl:Slots) (es:List ESh) (a:List TD) (h:List TEnt):Option (List TV):=(ZFL (lk h) es h).bind fun h=>Zzf n0 sl es a h
theorem Zvk {n0:Nat} {sl:Slots} {es:List ESh} {a:List TD} {h:List TEnt} {vs:List TV} (k:Zw0 n0 sl es a h=some vs):
 ∃a3 h3,V8 a.length sl es vs=some (a3,h3)∧∀{c:Code} {ts:List Dv} {H:List Ent} {ex:Ex},H.length=n0→XM P c ts H ex (TD.ers (lk h) a) (erH h)→XM P c ts H ex (TD.ers (lk h3) a3) (erH h3):=by
 obtain ⟨h1,k1,k2⟩:=yc.1 k
 obtain ⟨e1,e2,e3⟩:=ZCm k1
 obtain ⟨a3,h3,g1,g2⟩:=ZA8 (P:=P) k2
 refine ⟨a3,h3,g1,fun hl r=>g2 hl ?_⟩
 rw [e2]
 exact Zu3 r (WkL.refl _) e3
theorem Zvl {n0:Nat} {sl:Slots} {es:List ESh} {a:List TD} {h:List TEnt} {vs:List TV} (hn:h.length=n0) (k:Zw0 n0 sl es a h=some vs):
 ∃a3 h3,V8 a.length sl es vs=some (a3,h3)∧∀(σ:Sg) (act:Act),Ok σ→σ.H=erH h→RepT σ (TD.ers (lk h) a) act→∃σ':Sg,σ'.w=σ.w∧σ'.H=erH h3∧To σ σ'∧Ok σ'∧RepT σ' (TD.ers (lk h3) a3) act:=by
 obtain ⟨h1,k1,k2⟩:=yc.1 k
 obtain ⟨e1,e2,e3⟩:=ZCm k1
 obtain ⟨a3,h3,g1,g2⟩:=ZA9 (by rw [e1];exact hn) k2
 refine ⟨a3,h3,g1,fun σ act ok hH hr=> ?_⟩
 obtain ⟨to,ok'⟩:=Zmt ok (H':=erH h1) (by rw [hH];exact e3)
 obtain ⟨σ2,q1,q2,q3,q4,q5⟩:=g2 { σ with H:=erH h1} act ok' rfl (by rw [e2];exact hr.to to.leaf)
 exact ⟨σ2,q1,q2,to.trans q3,q4,q5⟩
structure Lp where
 sl:Slots
 es:List ESh
 I:List Ty
 xs:List XSh
 L:Ty.dens I→Option (XSh.sum xs)
def Lp.Is (P:Program) (n:Nat) (c:Code) (lp:Lp):Prop:=
 ∀v o,lp.L v=some o→∀s,V8 n lp.sl lp.es (ofD lp.I v)=some s→∀e vs s',Zy0 lp.xs o e vs→V8 n e.sl e.es vs=some s'→
  XM P c (TD.ers (lk s.2) s.1) (erH s.2) e.ex (TD.ers (lk s'.2) s'.1) (erH s'.2)
abbrev Lp.Ok (P:Program) (n:Nat) (body:Code) (lp:Lp):Prop:=lp.Is P n (.loop body)
structure FI where
 hi:HI:={}
 lp:List (Nat×Lp):=[]
 bk:List (Nat×Lp):=[]
 gh:List (Nat×GOp):=[]
 un:Nat:=0
def Code.nl:Code→Nat
 |.seq a b=>Code.nl a+Code.nl b
 |.cond _ a b=>Code.nl a+Code.nl b
 |.block _ a=>Code.nl a
 |.scope a=>Code.nl a
 |.loop a=>Code.nl a+1
 |_=>0
def Code.ns:Code→Nat
 |.seq a b=>Code.ns a+Code.ns b+1
 |.cond _ a b=>Code.ns a+Code.ns b
 |.block _ a=>Code.ns a
 |.scope a=>Code.ns a
 |.loop a=>Code.ns a
 |_=>0
theorem Zaa:∀c:Code,(ZA c).length=Code.nl c
 |.seq a b=>by simp only [ZA,yl,Zaa a,Zaa b,Code.nl]
 |.cond _ a b=>by simp only [ZA,yl,Zaa a,Zaa b,Code.nl]
 |.block _ a=>by simp only [ZA,Zaa a,Code.nl]
 |.scope a=>by simp only [ZA,Zaa a,Code.nl]
 |.loop a=>by simp only [ZA,yz,Zaa a,Code.nl]
 |.skip=>rfl
 |.region _ _ _=>rfl
 |.rangeFunc _ _ _ _=>rfl
 |.exit _=>rfl
 |.ret=>rfl
 |.label _=>rfl
 |.goto _=>rfl
 |.refuse _=>rfl
def ZqX {O:Type} (step:List TD→List TEnt→Kc O→Option O):Nat→List TD→List TEnt→Kc O→Option O
 |0,_,_,_=>none
 |k+1,a,h,K=>step a h fun ex a' h'=>match ex with
  |.normal=>ZqX step k a' h' K
  |ex=>K ex a' h'
theorem Zpx {O:Type} {body:Code} {N:Nat} {step:List TD→List TEnt→Kc O→Option O}
 (hs:∀(a:List TD) (h:List TEnt) (K:Kc O) (out:O),a.length=N→step a h K=some out→∃ex a' h',K ex a' h'=some out∧a'.length=N∧XM P body (TD.ers (lk h) a) (erH h) ex (TD.ers (lk h') a') (erH h')):
 ∀(k:Nat) (a:List TD) (h:List TEnt) (K:Kc O) (out:O),a.length=N→ZqX step k a h K=some out→∃ex a' h',K ex a' h'=some out∧a'.length=N∧ZuY P body (TD.ers (lk h) a) (erH h) ex (TD.ers (lk h') a') (erH h')
 |0,_,_,_,_,_,k=>by cases k
 |n+1,a,h,K,out,hN,k=>by
  unfold ZqX at k
  obtain ⟨ex,a1,h1,k1,k2,k3⟩:=hs _ _ _ _ hN k
  split at k1
  ·obtain ⟨ex2,a2,h2,k4,k5,k6⟩:=Zpx hs n a1 h1 K out k2 k1
   exact ⟨ex2,a2,h2,k4,k5,Zu0 [] k3 k6⟩
  ·rename_i hne
   exact ⟨_,a1,h1,k1,k2,ZuZ hne k3⟩
def evT {O:Type} (P:Program) (fi:FI) (specs:Sp P):Code→Nat→Nat→List TD→List TEnt→Kc O→Option O
 |.skip,_,_,a,h,K=>K .normal a h
 |.label _,_,_,a,h,K=>K .normal a h
 |.region _ ops draw,_,_,a,h,K=>if draw=true then ZJq P fi.hi specs ops a h fun a' h'=>K .normal a' h' else if ZJt ops=true then ZAU P fi.hi specs ops (ops.toList.take (ops.size - 5)) a h fun a' h' _=>ZCi P (ops.toList.drop (ops.size - 5)) a' h' fun a' h'=>K .normal a' h'
  else ZAU P fi.hi specs ops ops.toList a h fun a' h' _=>K .normal a' h'
 |.seq x y,n,m,a,h,K=>ghO (fi.gh.lookup m) a h fun a h=>match fi.bk.lookup m with
  |none=>evT P fi specs x n (m+1) a h fun ex a' h'=>match ex with
   |.normal=>evT P fi specs y (n+Code.nl x) (m+1+Code.ns x) a' h' K
   |ex=>K ex a' h'
  |some bk=>(Zw0 h.length bk.sl bk.es a h).bind fun vs=>(toD bk.I vs).bind fun v=>(bk.L v).bind fun o=>xT a.length bk.xs o fun ex a' h'=>match ex with
   |.normal=>evT P fi specs y (n+Code.nl x) (m+1+Code.ns x) a' h' K
   |ex=>K ex a' h'
 |.cond c x y,n,m,a,h,K=>((arT P a 0 c).bind TD.boolT).bind fun b=>match c with
  |.tmp t=>if b=true then evT P fi specs x n m (a.set t (Zt2 true)) h K else evT P fi specs y (n+Code.nl x) (m+Code.ns x) (a.set t (Zt2 false)) h K
  |_=>if b=true then evT P fi specs x n m a h K else evT P fi specs y (n+Code.nl x) (m+Code.ns x) a h K
 |.block id body,n,m,a,h,K=>evT P fi specs body n m a h fun ex a' h'=>K (ZwZ id ex) a' h'
 |.loop body,n,m,a,h,K=>match fi.lp.lookup n with
  |some lp=>(Zw0 h.length lp.sl lp.es a h).bind fun vs=>(toD lp.I vs).bind fun v=>(lp.L v).bind fun o=>xT a.length lp.xs o K
  |none=>ZqX (fun a h K=>evT P fi specs body (n+1) m a h K) fi.un a h K
 |.scope body,n,m,a,h,K=>evT P fi specs body n m a h K
 |.exit id,_,_,a,h,K=>K (.exit id) a h
 |.ret,_,_,a,h,K=>K .ret a h
 |_,_,_,_,_,_=>none
def XP:Code→List Code
 |.seq a b=>a::(XP a++XP b)
 |.cond _ a b=>XP a++XP b
 |.block _ a=>XP a
 |.scope a=>XP a
 |.loop a=>XP a
 |_=>[]
theorem Zab:∀c:Code,(XP c).length=Code.ns c
 |.seq a b=>by simp only [XP,yz,yl,Zab a,Zab b,Code.ns]
 |.cond _ a b=>by simp only [XP,yl,Zab a,Zab b,Code.ns]
 |.block _ a=>by simp only [XP,Zab a,Code.ns]
 |.scope a=>by simp only [XP,Zab a,Code.ns]
 |.loop a=>by simp only [XP,Zab a,Code.ns]
 |.skip=>rfl
 |.region _ _ _=>rfl
 |.rangeFunc _ _ _ _=>rfl
 |.exit _=>rfl
 |.ret=>rfl
 |.label _=>rfl
 |.goto _=>rfl
 |.refuse _=>rfl
def ZhC (P:Program) (fi:FI) (N:Nat) (c:Code) (m:Nat):Prop:=∀(k:Nat) (x:Code),(XP c)[k]? =some x→∀bk,fi.bk.lookup (m+k)=some bk→bk.Is P N x
theorem ZFM {fi:FI} {N:Nat} {x y c:Code} {m:Nat} (e:XP c=XP x++XP y) (h:ZhC P fi N c m):ZhC P fi N x m:=fun k b hk=>h k b (by
 rw [e,yah (yj.1 hk).1]
 exact hk)
theorem ZDT {fi:FI} {N:Nat} {x y c:Code} {m:Nat} (e:XP c=XP x++XP y) (h:ZhC P fi N c m):ZhC P fi N y (m+Code.ns x):=fun k b hk lp hl=>h (Code.ns x+k) b (by
 rw [e,yak (by rw [Zab];omega),Zab]
 rw [show Code.ns x+k - Code.ns x=k by omega]
 exact hk) lp (by rw [←ybw];exact hl)
theorem ZFN {fi:FI} {N:Nat} {x y:Code} {m:Nat} (h:ZhC P fi N (.seq x y) m):ZhC P fi N x (m+1):=fun k b hk lp hl=>h (k+1) b (by
 rw [XP,yaj,yah (yj.1 hk).1]
 exact hk) lp (by rw [show m+(k+1)=m+1+k by omega];exact hl)
theorem Zzg {fi:FI} {N:Nat} {x y:Code} {m:Nat} (h:ZhC P fi N (.seq x y) m):ZhC P fi N y (m+1+Code.ns x):=fun k b hk lp hl=>h (Code.ns x+k+1) b (by
 rw [XP,yaj,yak (by rw [Zab];omega),Zab]
 rw [show Code.ns x+k - Code.ns x=k by omega]
 exact hk) lp (by rw [show m+(Code.ns x+k+1)=m+1+Code.ns x+k by omega];exact hl)
def Zlc (P:Program) (fi:FI) (N:Nat) (c:Code) (n:Nat):Prop:=∀(k:Nat) (b:Code),(ZA c)[k]? =some (.loop b)→∀lp,fi.lp.lookup (n+k)=some lp→lp.Ok P N b
theorem Zzh {fi:FI} {N:Nat} {x y c:Code} {n:Nat} (e:ZA c=ZA x++ZA y) (h:Zlc P fi N c n):Zlc P fi N x n:=fun k b hk=>h k b (by
 rw [e,yah (yj.1 hk).1]
 exact hk)
theorem Zvm {fi:FI} {N:Nat} {x y c:Code} {n:Nat} (e:ZA c=ZA x++ZA y) (h:Zlc P fi N c n):Zlc P fi N y (n+Code.nl x):=fun k b hk lp hl=>h (Code.nl x+k) b (by
 rw [e,yak (by rw [Zaa];omega),Zaa]
 rw [show Code.nl x+k - Code.nl x=k by omega]
 exact hk) lp (by rw [←ybw];exact hl)
theorem X9 {O:Type} {fi:FI} {specs:Sp P} {out:O} {N:Nat} (ok:SpOk specs):∀(c:Code) (n m:Nat) (a:List TD) (h:List TEnt) (K:Kc O),a.length=N→Zlc P fi N c n→ZhC P fi N c m→evT P fi specs c n m a h K=some out→
 ∃ex a' h',K ex a' h'=some out∧a'.length=N∧XM P c (TD.ers (lk h) a) (erH h) ex (TD.ers (lk h') a') (erH h')
 |.skip,n,m,a,h,K,hN,hl,hb0,k=>⟨_,_,_,k,hN,ZDQ⟩
 |.label _,n,m,a,h,K,hN,hl,hb0,k=>⟨_,_,_,k,hN,ZA7⟩
 |.exit _,n,m,a,h,K,hN,hl,hb0,k=>⟨_,_,_,k,hN,ZDR⟩
 |.ret,n,m,a,h,K,hN,hl,hb0,k=>⟨_,_,_,k,hN,ZFK⟩
 |.region id ops draw,n,m,a,h,K,hN,hl,hb0,k=>by
  unfold evT at k
  cases draw with
  |true=>
   rw [if_pos rfl] at k
   obtain ⟨a',h',k1,k2,k3⟩:=ZDJ ok k
   exact ⟨_,_,_,k1,by rw [k2,hN],k3 id⟩
  |false=>
   rw [if_neg (by decide)] at k
   split at k
   ·obtain ⟨a',h',k1,k2,k3⟩:=ZDO ok k
    exact ⟨_,_,_,k1,by rw [k2,hN],k3 id⟩
   ·obtain ⟨a',h',hs,k1,k2,k3⟩:=ZDK ok k
    exact ⟨_,_,_,k1,by rw [k2,hN],k3 id⟩
 |.seq x y,n,m,a,h,K,hN,hl,hb0,k=>by
  have hx:=Zzh (x:=x) (y:=y) rfl hl
  have hy:=Zvm (x:=x) (y:=y) rfl hl
  unfold evT at k
  obtain ⟨a0,h0,k,hN0,gst⟩:=ZFJ k
  rw [hN] at hN0
  suffices key:∃ex a' h',K ex a' h'=some out∧a'.length=N∧XM P (.seq x y) (TD.ers (lk h0) a0) (erH h0) ex (TD.ers (lk h') a') (erH h') by
   obtain ⟨ex,a',h',g1,g2,g3⟩:=key
   exact ⟨ex,a',h',g1,g2,ZHS gst g3⟩
  clear gst
  have hN:=hN0
  clear hN0
  split at k
  ·obtain ⟨ex,a1,h1,k1,k2,k3⟩:=X9 ok x _ _ _ _ _ hN hx (ZFN hb0) k
   split at k1
   ·obtain ⟨ex2,a2,h2,k4,k5,k6⟩:=X9 ok y _ _ _ _ _ k2 hy (Zzg hb0) k1
    exact ⟨_,_,_,k4,k5,Zze k3 k6⟩
   ·rename_i hne
    exact ⟨_,_,_,k1,k2,Zvj hne k3⟩
  ·rename_i bk hbk
   obtain ⟨vs,j1,k⟩:=yc.1 k
   obtain ⟨v,j2,k⟩:=yc.1 k
   obtain ⟨o,j3,k⟩:=yc.1 k
   obtain ⟨e,vs',s,g1,g2,g3⟩:=ZqV k
   obtain ⟨a3,h3,j4,j5⟩:=Zvl rfl j1
   have hok:=hb0 0 x rfl bk (by rw [Nat.add_zero];exact hbk)
   rw [hN] at g2 j4
   have e1:=Zc5 _ _ _ j2
   have r:=hok v o j3 (a3,h3) (by rw [e1];exact j4) e vs' s g1 g2
   have k3:XM P x (TD.ers (lk h0) a0) (erH h0) e.ex (TD.ers (lk s.2) s.1) (erH s.2):=by
    intro σ act okσ hH hrep
    obtain ⟨σ1,p1,p2,p3,p4,p5⟩:=j5 σ act okσ hH hrep
    rw [←p1]
    refine wp_mono (r σ1 act p4 p2 p5) ?_
    rintro e' a' w' ⟨rfl,σ2,q1,q2,q3,q4,q5⟩
    exact ⟨rfl,σ2,q1,q2,p3.trans q3,q4,q5⟩
   split at g3
   ·rename_i he
    rw [he] at k3
    obtain ⟨ex2,a2,h2,k4,k5,k6⟩:=X9 ok y _ _ _ _ _ (Zko g2) hy (Zzg hb0) g3
    exact ⟨_,_,_,k4,k5,Zze k3 k6⟩
   ·rename_i hne
    exact ⟨_,_,_,g3,Zko g2,Zvj hne k3⟩
 |.cond c x y,n,m,a,h,K,hN,hl,hb0,k=>by
  have hx:=Zzh (x:=x) (y:=y) rfl hl
  have hy:=Zvm (x:=x) (y:=y) rfl hl
  have bx:=ZFM (x:=x) (y:=y) rfl hb0
  have bY:=ZDT (x:=x) (y:=y) rfl hb0
  unfold evT at k
  obtain ⟨b,k0,k⟩:=yc.1 k
  obtain ⟨d,k00,k01⟩:=yc.1 k0
  have hc:=Zo (L:=lk h) k00
  rw [ZfT k01] at hc
  split at k
  ·rename_i t
   cases k00
   have e:=Zy5 k01
   split at k
   ·rename_i hb
    subst hb
    rw [ZfX e] at k
    obtain ⟨ex,a1,h1,k1,k2,k3⟩:=X9 ok x _ _ _ _ _ hN hx bx k
    exact ⟨_,_,_,k1,k2,Zkq hc k3⟩
   ·rename_i hb
    have hb:b=false:=by simpa using hb
    subst hb
    rw [ZfX e] at k
    obtain ⟨ex,a1,h1,k1,k2,k3⟩:=X9 ok y _ _ _ _ _ hN hy bY k
    exact ⟨_,_,_,k1,k2,Zkq hc k3⟩
  ·split at k
   ·rename_i hb
    subst hb
    obtain ⟨ex,a1,h1,k1,k2,k3⟩:=X9 ok x _ _ _ _ _ hN hx bx k
    exact ⟨_,_,_,k1,k2,Zkq hc k3⟩
   ·rename_i hb
    have hb:b=false:=by simpa using hb
    subst hb
    obtain ⟨ex,a1,h1,k1,k2,k3⟩:=X9 ok y _ _ _ _ _ hN hy bY k
    exact ⟨_,_,_,k1,k2,Zkq hc k3⟩
 |.block id body,n,m,a,h,K,hN,hl,hb0,k=>by
  unfold evT at k
  obtain ⟨ex,a1,h1,k1,k2,k3⟩:=X9 ok body _ _ _ _ _ hN hl hb0 k
  exact ⟨_,_,_,k1,k2,ZA5 k3⟩
 |.scope body,n,m,a,h,K,hN,hl,hb0,k=>by
  unfold evT at k
  obtain ⟨ex,a1,h1,k1,k2,k3⟩:=X9 ok body _ _ _ _ _ hN hl hb0 k
  exact ⟨_,_,_,k1,k2,ZA6 k3⟩
 |.loop body,n,m,a,h,K,hN,hl,hb0,k=>by
  unfold evT at k
  split at k
  ·rename_i lp hlp
   obtain ⟨vs,j1,k⟩:=yc.1 k
   obtain ⟨v,j2,k⟩:=yc.1 k
   obtain ⟨o,j3,k⟩:=yc.1 k
   obtain ⟨e,vs',s,g1,g2,g3⟩:=ZqV k
   obtain ⟨a3,h3,j4,j5⟩:=Zvl rfl j1
   have hok:=hl 0 body rfl lp (by rw [Nat.add_zero];exact hlp)
   rw [hN] at g2 j4
   have e1:=Zc5 _ _ _ j2
   have r:=hok v o j3 (a3,h3) (by rw [e1];exact j4) e vs' s g1 g2
   refine ⟨_,_,_,g3,Zko g2, ?_⟩
   intro σ act okσ hH hrep
   obtain ⟨σ1,p1,p2,p3,p4,p5⟩:=j5 σ act okσ hH hrep
   rw [←p1]
   refine wp_mono (r σ1 act p4 p2 p5) ?_
   rintro e' a' w' ⟨rfl,σ2,q1,q2,q3,q4,q5⟩
   exact ⟨rfl,σ2,q1,q2,p3.trans q3,q4,q5⟩
  ·have hl1:Zlc P fi N body (n+1):=fun k b hk lp hl2=>hl (k+1) b (by rw [ZA,yaj];exact hk) lp (by rw [show n+(k+1)=n+1+k by omega];exact hl2)
   obtain ⟨ex,a1,h1,k1,k2,k3⟩:=Zpx (fun a h K out hN k=>X9 ok body _ _ _ _ K hN hl1 hb0 k) _ _ _ _ _ hN k
   exact ⟨ex,a1,h1,k1,k2,Zu1 k3⟩
 |.rangeFunc _ _ _ _,_,_,_,_,_,_,_,_,k=>by cases k
 |.goto _,_,_,_,_,_,_,_,_,k=>by cases k
 |.refuse _,_,_,_,_,_,_,_,_,k=>by cases k
end
end Go.Ev
end
section
namespace Go.Ev
def Zc {I X:Type} (step:I→Option (I⊕X)):Nat→I→Option X
 |0,_=>none
 |n+1,i=>(step i).bind fun r=>match r with
  |.inl j=>Zc step n j
  |.inr x=>some x
theorem ZFO:∃n:Nat,n=18446744073709551616:=⟨_,rfl⟩
noncomputable def fuel:Nat:=Classical.choose ZFO
theorem Zbo:fuel=18446744073709551616:=Classical.choose_spec ZFO
section
variable {P:Program}
def ZHV (n0:Nat) (ex:Ex) (a:List TD) (h:List TEnt):(l:List XSh)→Option (XSh.sum l)
 |[]=>none
 |[e]=>if ex=e.ex then (Zw0 n0 e.sl e.es a h).bind fun vs=>toD e.ty vs else none
 |e::f::r=>match (if ex=e.ex then (Zw0 n0 e.sl e.es a h).bind fun vs=>toD e.ty vs else none) with
  |some x=>some (Sum.inl x:Ty.dens e.ty⊕XSh.sum (f::r))
  |none=>(ZHV n0 ex a h (f::r)).map fun x=>(Sum.inr x:Ty.dens e.ty⊕XSh.sum (f::r))
theorem Zvn {n0:Nat} {ex:Ex} {a:List TD} {h:List TEnt}:∀{l:List XSh} {o:XSh.sum l},ZHV n0 ex a h l=some o→∀e vs,Zy0 l o e vs→ex=e.ex∧Zw0 n0 e.sl e.es a h=some vs
 |[],_,k,_,_,_=>by cases k
 |[e],o,k,x,vs,hs=>by
  obtain ⟨rfl,rfl⟩:=hs
  have k:(if ex=x.ex then (Zw0 n0 x.sl x.es a h).bind fun vs=>toD x.ty vs else none)=some o:=k
  split at k
  ·rename_i he
   obtain ⟨ws,h1,h2⟩:=yc.1 k
   exact ⟨he,by rw [h1,Zc5 _ _ _ h2]⟩
  ·cases k
 |e::f::r,o,k,x,vs,hs=>by
  simp only [ZHV] at k
  split at k
  ·rename_i y hy
   cases k
   obtain ⟨rfl,rfl⟩:=hs
   split at hy
   ·rename_i he
    obtain ⟨ws,h1,h2⟩:=yc.1 hy
    exact ⟨he,by rw [h1,Zc5 _ _ _ h2]⟩
   ·cases hy
  ·obtain ⟨y,h1,h2⟩:=Zb k
   subst h2
   exact Zvn h1 x vs hs
def Zzi (P:Program) (fi:FI) (specs:Sp P) (body:Code) (n N:Nat) (sl:Slots) (es:List ESh) (I:List Ty) (xs:List XSh):Ty.dens I→Option (Ty.dens I⊕XSh.sum xs):=fun v=>
 (V8 N sl es (ofD I v)).bind fun s=>evT P fi specs body (n+1) 0 s.1 s.2 fun ex a h=>match ex with
   |.normal=>(Zw0 s.2.length sl es a h).bind fun vs=>(toD I vs).map .inl
   |ex=>(ZHV s.2.length ex a h xs).map .inr
theorem ZFP {fi:FI} {specs:Sp P} {body:Code} {n N:Nat} {sl:Slots} {es:List ESh} {I:List Ty} {xs:List XSh} (ok:SpOk specs) (hl:Zlc P fi N body (n+1)) (hb0:ZhC P fi N body 0):
 ∀(f:Nat) (v:Ty.dens I) (o:XSh.sum xs),Zc (Zzi P fi specs body n N sl es I xs) f v=some o→∀s,V8 N sl es (ofD I v)=some s→∀e vs s',Zy0 xs o e vs→V8 N e.sl e.es vs=some s'→
  ZuY P body (TD.ers (lk s.2) s.1) (erH s.2) e.ex (TD.ers (lk s'.2) s'.1) (erH s'.2)
 |0,_,_,h,_,_,_,_,_,_,_=>by cases h
 |f+1,v,o,h,s,hs,e,vs,s',hx,hs'=>by
  unfold Zc at h
  obtain ⟨r,h1,h2⟩:=yc.1 h
  unfold Zzi at h1
  rw [hs,yb] at h1
  obtain ⟨ex,a,h3,k1,k2,k3⟩:=X9 ok body _ _ _ _ _ (Zko hs) hl hb0 h1
  split at k1
  ·obtain ⟨ws,g1,k1⟩:=yc.1 k1
   obtain ⟨w,g2,rfl⟩:=Zb k1
   obtain ⟨a3,h4,g3,g4⟩:=Zvk (P:=P) g1
   rw [k2] at g3
   have r1:=g4 (ZI _) k3
   have:=ZFP ok hl hb0 f w o h2 (a3,h4) (by rw [Zc5 _ _ _ g2];exact g3) e vs s' hx hs'
   exact Zu0 [] r1 this
  ·rename_i hne
   obtain ⟨w,g2,rfl⟩:=Zb k1
   cases h2
   obtain ⟨g5,g6⟩:=Zvn g2 e vs hx
   obtain ⟨a3,h4,g3,g4⟩:=Zvk (P:=P) g6
   rw [k2,hs'] at g3
   cases g3
   subst g5
   exact ZuZ hne (g4 (ZI _) k3)
theorem ZKn {fi:FI} {specs:Sp P} {body:Code} {n N:Nat} {sl:Slots} {es:List ESh} {I:List Ty} {xs:List XSh} {step:Ty.dens I→Option (Ty.dens I⊕XSh.sum xs)} (f:Nat) (ok:SpOk specs) (hl:Zlc P fi N body (n+1)) (hb0:ZhC P fi N body 0)
 (h:∀v,Zzi P fi specs body n N sl es I xs v=step v):Lp.Ok P N body ⟨sl,es,I,xs,Zc step f⟩:=by
 intro v o hL s hs e vs s' hx hs'
 have e1:Zzi P fi specs body n N sl es I xs=step:=funext h
 subst e1
 exact Zu1 (ZFP ok hl hb0 f v o hL s hs e vs s' hx hs')
theorem ZbK:∀(c:Code) (k:Nat) (b:Code),(ZA c)[k]? =some (.loop b)→∀j x,(ZA b)[j]? =some x→(ZA c)[k+1+j]? =some x
 |.seq x y,k,b,h,j,z,hz=>by
  simp only [ZA] at h ⊢
  rcases ybt k (ZA x).length with hl|hl
  ·rw [yah hl] at h
   have:=ZbK x k b h j z hz
   rw [yah (yj.1 this).1]
   exact this
  ·rw [yak hl] at h
   have:=ZbK y _ b h j z hz
   rw [yak (by omega)]
   rw [show k+1+j - (ZA x).length=k - (ZA x).length+1+j by omega]
   exact this
 |.cond _ x y,k,b,h,j,z,hz=>by
  simp only [ZA] at h ⊢
  rcases ybt k (ZA x).length with hl|hl
  ·rw [yah hl] at h
   have:=ZbK x k b h j z hz
   rw [yah (yj.1 this).1]
   exact this
  ·rw [yak hl] at h
   have:=ZbK y _ b h j z hz
   rw [yak (by omega)]
   rw [show k+1+j - (ZA x).length=k - (ZA x).length+1+j by omega]
   exact this
 |.block _ a,k,b,h,j,z,hz=>ZbK a k b h j z hz
 |.scope a,k,b,h,j,z,hz=>ZbK a k b h j z hz
 |.loop a,k,b,h,j,z,hz=>by
  simp only [ZA] at h ⊢
  cases k with
  |zero=>
   simp only [yaq,yf,Code.loop.injEq] at h
   subst h
   rw [show 0+1+j=j+1 by omega,yaj]
   exact hz
  |succ k=>
   rw [yaj] at h
   rw [show k+1+1+j=(k+1+j)+1 by omega,yaj]
   exact ZbK a k b h j z hz
 |.skip,_,_,h,_,_,_=>by simp [ZA] at h
 |.region _ _ _,_,_,h,_,_,_=>by simp [ZA] at h
 |.rangeFunc _ _ _ _,_,_,h,_,_,_=>by simp [ZA] at h
 |.exit _,_,_,h,_,_,_=>by simp [ZA] at h
 |.ret,_,_,h,_,_,_=>by simp [ZA] at h
 |.label _,_,_,h,_,_,_=>by simp [ZA] at h
 |.goto _,_,_,h,_,_,_=>by simp [ZA] at h
 |.refuse _,_,_,h,_,_,_=>by simp [ZA] at h
def Zsh (P:Program) (g:FuncId) (N:Nat):List (Nat×Lp)→Prop
 |[]=>True
 |q::r=>q.2.Ok P N (Zk P g q.1)∧Zsh P g N r
theorem Zox {g:FuncId} {N:Nat}:∀{l:List (Nat×Lp)} {n:Nat} {lp:Lp},Zsh P g N l→l.lookup n=some lp→lp.Ok P N (Zk P g n)
 |[],_,_,_,h=>by cases h
 |q::r,n,lp,hk,h=>by
  rw [List.lookup_cons] at h
  split at h
  ·rename_i e
   cases h
   rw [beq_iff_eq] at e
   rw [e]
   exact hk.1
  ·exact Zox hk.2 h
def Zcf (P:Program) (g:FuncId):Code:=
 match P.funcs[g]? with
 |some fn=>fn.body.getD .skip
 |none=>.skip
theorem Zoy {g:FuncId} {k:Nat} {b:Code} (h:(ZA (Zcf P g))[k]? =some (.loop b)):Zk P g k=b:=by
 unfold Zk ZEL
 unfold Zcf at h
 split at h
 ·rename_i fn hf
  rw [hf]
  dsimp only
  cases hb:fn.body with
  |none=>rw [hb] at h;simp [ZA] at h
  |some c=>
   rw [hb] at h
   dsimp only [Option.getD] at h ⊢
   rw [List.getD_eq_getElem?_getD,h]
   rfl
 ·simp [ZA] at h
theorem ZCn {g:FuncId} {fi:FI} {N:Nat} (h:Zsh P g N fi.lp):Zlc P fi N (Zcf P g) 0:=by
 intro k b hk lp hl
 rw [yax] at hl
 rw [←Zoy hk]
 exact Zox h hl
theorem ZFQ {g:FuncId} {fi:FI} {N k:Nat} (hk:(ZA (Zcf P g))[k]? =some (.loop (Zk P g k))) (h:Zsh P g N fi.lp):Zlc P fi N (Zk P g k) (k+1):=by
 intro j b hj lp hl
 have:=ZbK _ _ _ hk j _ hj
 rw [←Zoy this]
 exact Zox h hl
def Zsi (P:Program) (g k:Nat):Bool:=
 match (ZA (Zcf P g))[k]? with
 |some (.loop _)=>true
 |_=>false
theorem Zt5 {g k:Nat} (h:Zsi P g k=true):(ZA (Zcf P g))[k]? =some (.loop (Zk P g k)):=by
 unfold Zsi at h
 split at h
 ·rename_i b hb
  rw [hb,Zoy hb]
 ·cases h
def ZFR (c:Code) (m:Nat):Code:=((XP c)[m]?).getD .skip
def Zvo (P:Program) (N:Nat) (c:Code):List (Nat×Lp)→Prop
 |[]=>True
 |q::r=>q.2.Is P N (ZFR c q.1)∧Zvo P N c r
theorem Zvp {N:Nat} {c:Code}:∀{l:List (Nat×Lp)} {m:Nat} {bk:Lp},Zvo P N c l→l.lookup m=some bk→bk.Is P N (ZFR c m)
 |[],_,_,_,h=>by cases h
 |q::r,m,bk,hk,h=>by
  rw [List.lookup_cons] at h
  split at h
  ·rename_i he
   cases h
   have:m=q.1:=by simpa using he
   rw [this]
   exact hk.1
  ·exact Zvp hk.2 h
theorem Zw1 {fi:FI} {N:Nat} {c:Code} (h:Zvo P N c fi.bk):ZhC P fi N c 0:=by
 intro k x hk bk hl
 rw [yax] at hl
 have:=Zvp h hl
 unfold ZFR at this
 rw [hk] at this
 exact this
theorem Zg {fi:FI} {specs:Sp P} {g k N:Nat} {sl:Slots} {es:List ESh} {I:List Ty} {xs:List XSh} {step:Ty.dens I→Option (Ty.dens I⊕XSh.sum xs)} (ok:SpOk specs) (hl:Zsh P g N fi.lp) (hk:Zsi P g k=true)
 (h:∀v,Zzi P fi specs (Zk P g k) k N sl es I xs v=step v) (hb:Zvo P N (Zk P g k) fi.bk:=by exact True.intro):Lp.Ok P N (Zk P g k) ⟨sl,es,I,xs,Zc step fuel⟩:=
 ZKn fuel ok (ZFQ (Zt5 hk) hl) (Zw1 hb) h
def Zt6 {O:Type} (P:Program) (a:List TD) (h:List TEnt):List ResultVar→(List TD→List Hint→Option O)→Option O
 |[],K=>K [] []
 |.tmp t::r,K=>Zt6 P a h r fun ds hs=>K (a.getD t .junk::ds) hs
 |.cell t ty::r,K=>match a.getD t .junk with
  |.ref id path=>(Zpq h id).bind fun d=>gpT (lk h) path d fun sub hs _=>if okT P ty (sub.er (lk h))=true then Zt6 P a h r fun ds hs'=>K (sub::ds) (hs++hs') else none
  |_=>none
theorem ZfY {O:Type} {a:List TD} {h:List TEnt} {out:O}:∀(l:List ResultVar) (K:List TD→List Hint→Option O),Zt6 P a h l K=some out→∃ds hs C,K ds hs=some out∧AllP C∧∀rest,ZtO P (TD.ers (lk h) a) (erH h) l (hs++rest)=some (C,TD.ers (lk h) ds)
 |[],K,k=>⟨[],[],[],k,trivial,fun _=>rfl⟩
 |.tmp t::r,K,k=>by
  obtain ⟨ds,hs,C,k1,k2,k3⟩:=ZfY r _ k
  refine ⟨_,_,C,k1,k2,fun rest=> ?_⟩
  simp only [ZtO,k3 rest,yy,ZmJ,TD.ers]
 |.cell t ty::r,K,k=>by
  unfold Zt6 at k
  split at k
  ·rename_i id path hx
   obtain ⟨d,h1,k⟩:=yc.1 k
   obtain ⟨st,h2,h3⟩:=ZdM h1
   obtain ⟨sub,hs,put,C,g1,g2,g3,_⟩:=Xn _ _ _ _ k
   obtain ⟨g4,g5⟩:=Za g1
   obtain ⟨ds,hs',C',k1,k2,k3⟩:=ZfY r _ g5
   refine ⟨_,_,C++[QT path=XO path]++C',k1,Zi.2 ⟨Zi.2 ⟨g2,(Xs _).symm,trivial⟩,k2⟩,fun rest=> ?_⟩
   unfold ZtO
   rw [ZmJ,hx]
   dsimp only [TD.er]
   rw [h3]
   dsimp only
   rw [List.append_assoc,g3 (hs'++rest)]
   dsimp only
   rw [if_pos g4,k3 rest]
   rfl
  ·cases k
def Zsj:List TD→TD
 |[d]=>d
 |ds=>.tup ds
theorem Zkr {L:Lk} (ds:List TD):(Zsj ds).er L=Zq7 (TD.ers L ds):=by
 match ds with
 |[]=>rfl
 |[d]=>rfl
 |_::_::_=>rfl
def TD.arg (L:Lk):TD→TD
 |.own id nn t c=>.p (.sl nn t (ZR L id t c))
 |.agg ds=>TD.melt L ds
 |d=>d
theorem ZBa {L:Lk} (d:TD):(d.arg L).er L=(d.er L).arg:=by
 cases d <;> first|rfl|exact ZBV _
def ZFS (h:List TEnt) (rs:Sh) (es:List ESh) (n0:Nat) (r:TD):Option (List Nat):=
 let l:=ZJp h es 0 ((yp n0).map (fun i=>(i,i))++Sh.ids rs r)
 ((yp es.length).drop n0).mapM fun j=>l.lookup j
def ZHW (h:List TEnt) (n0:Nat) (ds:List TD) (e:XSh):Option (Ty.dens e.ty):=
 match e.sl with
 |[(0,rs)]=>(ZFS h rs e.es n0 (Zsj ds)).bind fun keep=>
  if once (yp n0++keep) then (match Dv.rn (toIds (yp n0++keep)) ((Zsj ds).er (lk h)) with
   |some _=>(Zsj ds).rn (toIds (yp n0++keep))
   |none=>(Zsj (ds.map (TD.arg (lk h)))).rn (toIds (yp n0++keep))).bind fun r=>
   (X7 h (yp n0++keep) (yp n0++keep)).bind fun h2=>(Sh.mt (lk h2) rs r).bind fun q=>(ESh.mts (lk h2) e.es h2).bind fun w=>toD e.ty (q.2++w.2)
  else none
 |_=>none
def Zzj (h:List TEnt) (n0:Nat) (ds:List TD):(l:List XSh)→Option (XSh.sum l)
 |[]=>none
 |[e]=>ZHW h n0 ds e
 |e::f::r=>match ZHW h n0 ds e with
  |some x=>some (Sum.inl x:Ty.dens e.ty⊕XSh.sum (f::r))
  |none=>(Zzj h n0 ds (f::r)).map fun x=>(Sum.inr x:Ty.dens e.ty⊕XSh.sum (f::r))
theorem Zsk {h:List TEnt} {n0:Nat} {ds:List TD}:∀{l:List XSh} {o:XSh.sum l},Zzj h n0 ds l=some o→∀e vs,Zy0 l o e vs→∃x,ZHW h n0 ds e=some x∧vs=ofD e.ty x
 |[],_,k,_,_,_=>by cases k
 |[e],o,k,x,vs,hs=>by
  obtain ⟨rfl,rfl⟩:=hs
  exact ⟨o,k,rfl⟩
 |e::f::r,o,k,x,vs,hs=>by
  simp only [Zzj] at k
  split at k
  ·rename_i y hy
   cases k
   obtain ⟨rfl,rfl⟩:=hs
   exact ⟨y,hy,rfl⟩
  ·obtain ⟨y,h1,h2⟩:=Zb k
   subst h2
   exact Zsk h1 x vs hs
def fnT (P:Program) (fi:FI) (specs:Sp P) (g:FuncId) (ps:List Sh) (es:List ESh) (ins:List Ty) (xs:List XSh):Ty.dens ins→Option (XSh.sum xs):=fun x=>
 match P.funcs[g]? with
 |some fn=>match fn.body with
  |some c=>(Sh.fills ps (ofD ins x)).bind fun q=>(ESh.fills es q.2).bind fun w=>if w.2.isEmpty then
    evT P fi specs c 0 0 (q.1++yr (fn.ntmps - q.1.length) .junk) w.1 fun ex a h=>match ex with
     |.exit _=>none
     |_=>Zt6 P a h fn.results.toList fun ds _=>Zzj h w.1.length ds xs
    else none
  |none=>none
 |none=>none
def Zl (P:Program) (g:FuncId):Nat:=
 match P.funcs[g]? with
 |some fn=>fn.ntmps
 |none=>0
theorem Ze {fi:FI} {specs:Sp P} {g:FuncId} {ps:List Sh} {es:List ESh} {ins:List Ty} {xs:List XSh} {M:Ty.dens ins→Option (XSh.sum xs)} (ok:SpOk specs) (hl:Zsh P g (Zl P g) fi.lp) (hn:ps.length≤Zl P g)
 (h:∀x,fnT P fi specs g ps es ins xs x=M x) (hb:Zvo P (Zl P g) (Zcf P g) fi.bk:=by exact True.intro):Fs.Ok (⟨g,ps,es,ins,xs,M⟩:Fs P):=by
 intro x o hM
 have hM:M x=some o:=hM
 rw [←h x] at hM
 have hl':=ZCn hl
 unfold fnT at hM
 split at hM
 ·rename_i fn hf
  split at hM
  ·rename_i c hb1
   obtain ⟨q,h1,hM⟩:=yc.1 hM
   obtain ⟨w,h2,hM⟩:=yc.1 hM
   obtain ⟨h3,hM⟩:=Za hM
   have hN:Zl P g=fn.ntmps:=by unfold Zl;rw [hf]
   have hc:Zcf P g=c:=by unfold Zcf;rw [hf];dsimp only;rw [hb1];rfl
   rw [hc,hN] at hl' hb
   have hb0:=Zw1 hb
   rw [hN] at hn
   have hlen:(q.1++yr (fn.ntmps - q.1.length) TD.junk).length=fn.ntmps:=by
    rw [yl,yci,Zkn h1]
    omega
   obtain ⟨ex,a,hh,k1,k2,k3⟩:=X9 ok c _ _ _ _ _ hlen hl' hb0 hM
   have hex:(ex=.ret∨ex=.normal)∧(Zt6 P a hh fn.results.toList fun ds _=>Zzj hh w.1.length ds xs)=some o:=by
    cases ex with
    |exit _=>cases k1
    |normal=>exact ⟨.inr rfl,k1⟩
    |ret=>exact ⟨.inl rfl,k1⟩
   obtain ⟨hex,k1⟩:=hex
   obtain ⟨ds,hs,C,g1,g2,g3⟩:=ZfY _ _ k1
   refine ⟨q.1,q.2,w.1,h1, ?_,fun e vs s' hsel hfs=> ?_⟩
   ·rw [h2]
    have:w.2=[]:=by simpa using h3
    rw [←this]
   obtain ⟨o1,g1,hvs⟩:=Zsk g1 e vs hsel
   unfold ZHW at g1
   split at g1
   case h_2=>cases g1
   rename_i rs hsl
   obtain ⟨keep,g4,g1⟩:=yc.1 g1
   obtain ⟨g5,g1⟩:=Za g1
   obtain ⟨r,g6,g1⟩:=yc.1 g1
   obtain ⟨e2,g7,g1⟩:=yc.1 g1
   obtain ⟨z,g8,g1⟩:=yc.1 g1
   obtain ⟨y,g9,g1⟩:=yc.1 g1
   obtain ⟨b1,b2⟩:=ZfW g9
   have hcc:∀id t,ZR (lk e2) id t none=ZR (lk y.1) id t none:=fun id t=>by rw [b2]
   have eo:=Zc5 _ _ _ g1
   have efill:s'=([z.1],y.1):=by
    rw [hvs,eo,hsl] at hfs
    unfold V8 at hfs
    rw [show shs [(0,rs)] 1=[rs] from rfl] at hfs
    simp only [Sh.fills,Zkl _ _ _ g8,yb,yy] at hfs
    have:=Za5 g9 []
    rw [ybb] at this
    rw [this] at hfs
    exact (ybi hfs).symm
   subst efill
   refine ⟨z.1,rfl, ?_⟩
   have hfin:fin P fn (TD.ers (lk hh) a) (erH hh) (erH w.1).length keep hs=some (C,r.er (lk e2),erH e2):=by
    unfold fin
    have:=g3 []
    rw [ybb] at this
    rw [this]
    dsimp only
    rw [ZI,g5, ←Zkr,show subEnts (erH hh) _ _=some (erH e2) from X8 (Q9 g7) g7]
    split at g6
    ·rename_i r0 hr0
     have e4:=ZeU (Q9 g7) _ _ g6
     rw [e4]
    ·rename_i hr0
     have e4:=ZeU (Q9 g7) _ _ g6
     rw [Zkr,ZB,yau] at e4
     rw [hr0,show (TD.ers (lk hh) ds).map Dv.arg=ds.map (TD.er (lk hh) ∘ TD.arg (lk hh)) by
      rw [ZB,yau]
      exact ybz fun d _=>(ZBa d).symm,e4]
   have hrun:XM P c (TD.ers (lk w.1) q.1++yr (fn.ntmps - (TD.ers (lk w.1) q.1).length) .junk) (erH w.1) ex (TD.ers (lk hh) a) (erH hh):=by
    have e5:TD.ers (lk w.1) (q.1++yr (fn.ntmps - q.1.length) TD.junk)=TD.ers (lk w.1) q.1++yr (fn.ntmps - (TD.ers (lk w.1) q.1).length) .junk:=by
     rw [ZgG,ZB,ZB,yan,List.map_replicate]
     rfl
    rw [←e5]
    exact k3
   exact Zyp (ZiJ hf hb1 hrun hex hfin g2) (Zr2 hcc _ _ _ g8) (Zkm hcc g9)
  ·cases hM
 ·cases hM
end
theorem Zsl {P:Program} {g:FuncId} {t:Ty} {xs:List XSh} {MA:Ty.dens [.sl t]→Option (XSh.sum xs)} {MB:Ty.dens []→Option (XSh.sum xs)} (hA:Fs.Ok (⟨g,[.sl true t],[],[.sl t],xs,MA⟩:Fs P)) (hB:Fs.Ok (⟨g,[.nil t],[],[],xs,MB⟩:Fs P))
 (h:MB ()=MA ([]:List t.den)):Fs.Ok (⟨g,[.v (.sl t)],[],[.sl t],xs,MA⟩:Fs P):=by
 intro l o hM
 have key:∀(l:List t.den),Ty.cast (.sl t) (.sl t) l=some l:=fun l=>Y2 (.sl t) l
 obtain ⟨a1,R1,H1,f1,f2,f3⟩:=hA l o hM
 have e1:a1=[.p (.sl (some true) t l)]∧R1=[]:=by
  have:Sh.fills [.sl true t] [(⟨.sl t,l⟩:TV)]=some (a1,R1):=f1
  simp only [Sh.fills,Sh.fill] at this
  rw [key l] at this
  have this:some (([.p (.sl (some true) t l)]:List TD),([]:List TV))=some (a1,R1):=this
  cases this
  exact ⟨rfl,rfl⟩
 obtain ⟨rfl,rfl⟩:=e1
 cases f2
 refine ⟨[.p (.v (.sl t) l)],[],[], ?_,rfl,fun e vs s' hs hf=> ?_⟩
 ·show Sh.fills [.v (.sl t)] [(⟨.sl t,l⟩:TV)]=_
  simp only [Sh.fills,Sh.fill]
  rw [key l]
  rfl
 ·obtain ⟨r,r1,r2⟩:=f3 e vs s' hs hf
  refine ⟨r,r1, ?_⟩
  refine ZBO (xs:=l.map t.enc) r2 fun hl=> ?_
  have hl:l=[]:=List.map_eq_nil_iff.1 hl
  subst hl
  obtain ⟨a2,R2,H2,g1,g2,g3⟩:=hB () o (by rw [←hM];exact h)
  cases g1
  cases g2
  obtain ⟨r',r1',r2'⟩:=g3 e vs s' hs hf
  rw [r1] at r1'
  cases r1'
  exact r2'
def Zsm (n:Int):Option (List UInt8):=if (decide (0≤n)&&decide (n.toNat≤Zp))=true then some [] else none
theorem ZHX {P:Program} {g:FuncId} {e:TypeId} (h:∀n:Nat,n≤Zp→Con P g [.p (.sl (some false) 1 []),.p (.int .i64 (n:Int))] [] (.own 0 none 1 []) [.log 1 e []]):
 Fs.Ok (⟨g,[.nil .u8,.v (.int .i64)],[],[.int .i64],[⟨.ret,[(0,.own 0 .u8)],[.log .u8 e],[.sl .u8]⟩],Zsm⟩:Fs P):=by
 intro n o hM
 have key:∀(n:Int),Zsm n=some o→(0≤n∧n.toNat≤Zp)∧([]:List UInt8)=o:=fun n hM=>by
  unfold Zsm at hM
  obtain ⟨h1,h2⟩:=Za (α:=List UInt8) hM
  rw [yg,decide_eq_true_eq,decide_eq_true_eq] at h1
  exact ⟨h1,ybi h2⟩
 obtain ⟨h1,h2⟩:=key n hM
 cases h2
 refine ⟨[.p (.sl (some false) .u8 []),.p (.v (.int .i64) n)],[],[],rfl,rfl,fun x vs s' hs hf=> ?_⟩
 obtain ⟨rfl,rfl⟩:=hs
 cases hf
 refine ⟨_,rfl, ?_⟩
 have:=h (Int.toNat n) h1.2
 rw [Int.toNat_of_nonneg h1.1] at this
 exact this
mutual
theorem Zvq:∀(s:Sh) (vs w:List TV) (q:TD×List TV),s.fill vs=some q→s.fill (vs++w)=some (q.1,q.2++w)
 |.v t,vs,w,q,h=>by
  cases vs with
  |nil=>cases h
  |cons x r=>
   obtain ⟨y,h1,rfl⟩:=Zb (show (Ty.cast x.1 t x.2).map (fun y=>((TD.p (.v t y),r):TD×List TV))=some q from h)
   show (Ty.cast x.1 t x.2).map (fun y=>((TD.p (.v t y),r++w):TD×List TV))=_
   rw [h1];rfl
 |.elem t,vs,w,q,h=>by
  cases vs with
  |nil=>cases h
  |cons x r=>
   obtain ⟨y,h1,rfl⟩:=Zb (show (Ty.cast x.1 t x.2).map (fun y=>((TD.elem (.v t y),r):TD×List TV))=some q from h)
   show (Ty.cast x.1 t x.2).map (fun y=>((TD.elem (.v t y),r++w):TD×List TV))=_
   rw [h1];rfl
 |.sl nn t,vs,w,q,h=>by
  cases vs with
  |nil=>cases h
  |cons x r=>
   obtain ⟨y,h1,rfl⟩:=Zb (α:=(Ty.sl t).den) (show (Ty.cast x.1 (.sl t) x.2).map (fun (y:List t.den)=>((TD.p (.sl (some nn) t y),r):TD×List TV))=some q from h)
   show (Ty.cast x.1 (.sl t) x.2).map (fun (y:List t.den)=>((TD.p (.sl (some nn) t y),r++w):TD×List TV))=_
   rw [h1];rfl
 |.nil _,vs,w,q,h=>by cases h;rfl
 |.own _ _,vs,w,q,h=>by cases h;rfl
 |.ref _ _,vs,w,q,h=>by cases h;rfl
 |.mp _,vs,w,q,h=>by cases h;rfl
 |.rw _,vs,w,q,h=>by cases h;rfl
 |.rp j s p,vs,w,q,h=>by
  cases vs with
  |nil=>cases h
  |cons x r=>
   obtain ⟨y,h1,rfl⟩:=Zb (α:=Int) (show (Ty.cast x.1 (.int .i64) x.2).map (fun (i:Int)=>((TD.rp j (.ix i.toNat s::p),r):TD×List TV))=some q from h)
   show (Ty.cast x.1 (.int .i64) x.2).map (fun (i:Int)=>((TD.rp j (.ix i.toNat s::p),r++w):TD×List TV))=_
   rw [h1];rfl
 |.view _ _ _ _ _,vs,w,q,h=>by cases h;rfl
 |.fn g l,vs,w,q,h=>by
  simp only [Sh.fill] at h ⊢
  obtain ⟨y,h1,rfl⟩:=Zb h
  rw [fills_more l vs w y h1];rfl
 |.agg l,vs,w,q,h=>by
  simp only [Sh.fill] at h ⊢
  obtain ⟨y,h1,rfl⟩:=Zb h
  rw [fills_more l vs w y h1];rfl
 |.arr n s l,vs,w,q,h=>by
  simp only [Sh.fill] at h ⊢
  obtain ⟨y,h1,rfl⟩:=Zb h
  rw [fills_more l vs w y h1];rfl
 |.tup l,vs,w,q,h=>by
  simp only [Sh.fill] at h ⊢
  obtain ⟨y,h1,rfl⟩:=Zb h
  rw [fills_more l vs w y h1];rfl
 |.iface t x,vs,w,q,h=>by
  simp only [Sh.fill] at h ⊢
  obtain ⟨y,h1,rfl⟩:=Zb h
  rw [Zvq x vs w y h1];rfl
 |.ptr0,vs,w,q,h=>by cases h;rfl
 |.fn0,vs,w,q,h=>by cases h;rfl
 |.if0,vs,w,q,h=>by cases h;rfl
 |.map0,vs,w,q,h=>by cases h;rfl
 |.junk,vs,w,q,h=>by cases h;rfl
theorem fills_more:∀(l:List Sh) (vs w:List TV) (q:List TD×List TV),Sh.fills l vs=some q→Sh.fills l (vs++w)=some (q.1,q.2++w)
 |[],vs,w,q,h=>by simp only [Sh.fills] at h;cases h;rfl
 |s::r,vs,w,q,h=>by
  simp only [Sh.fills] at h ⊢
  obtain ⟨a,h1,h⟩:=yc.1 h
  obtain ⟨b,h2,rfl⟩:=Zb h
  rw [Zvq s vs w a h1,yb,fills_more r a.2 w b h2]
  rfl
end
theorem ZJw {P:Program} {g:FuncId} {t:Ty} {e:TypeId} {rest:List Sh} {i1 i2:List Ty} {xs:List XSh} {M:Ty.dens i2→Option (XSh.sum xs)} (pk:Ty.dens i1→Ty.dens i2) (h:Fs.Ok (⟨g,.own 0 t::rest,[.log t e],i2,xs,M⟩:Fs P))
 (hp:∀x,ofD i2 (pk x)=ofD i1 x++[⟨.sl t,([]:List t.den)⟩]) (hf:∀x,∃a,Sh.fills rest (ofD i1 x)=some (a,[])):Fs.Ok (⟨g,.nil t::rest,[],i1,xs,fun x=>M (pk x)⟩:Fs P):=by
 intro x o hM
 obtain ⟨args,R,H,f1,f2,f3⟩:=h (pk x) o hM
 obtain ⟨a,ha⟩:=hf x
 have f1:Sh.fills (.own 0 t::rest) (ofD i2 (pk x))=some (args,R):=f1
 rw [hp x] at f1
 simp only [Sh.fills,Sh.fill,yb,fills_more rest _ _ _ ha,yy,yf,Prod.mk.injEq,List.nil_append] at f1
 obtain ⟨rfl,rfl⟩:=f1
 have f2:((Ty.cast (.sl t) (.sl t) ([]:List t.den)).map fun (y:List t.den)=>((TEnt.log t e y,[]):TEnt×List TV)).bind (fun a=>(ESh.fills [] a.2).map fun b=>(a.1::b.1,b.2))=some (H,[]):=f2
 have key:Ty.cast (.sl t) (.sl t) ([]:List t.den)=some ([]:List t.den):=Y2 (.sl t) ([]:List t.den)
 rw [key] at f2
 cases f2
 refine ⟨.p (.sl (some false) t [])::a,[],[], ?_,rfl,fun x' vs s' hs hf'=> ?_⟩
 ·show Sh.fills (.nil t::rest) (ofD i1 x)=_
  simp only [Sh.fills,Sh.fill,yb,ha,yy]
 ·obtain ⟨r,r1,r2⟩:=f3 x' vs s' hs hf'
  refine ⟨r,r1, ?_⟩
  have e1:TD.ers (lk [.log t e []]) (.own 0 none t none::a)=.own 0 none t.size []::TD.ers (lk []) a:=by
   have e0:TD.ers (lk [.log t e []]) a=TD.ers (lk []) a:=(ers_cont (fun id t'=>ZmS (H:=[]) (T:=t) (e:=e) id t') a).symm
   rw [TD.ers,e0]
   congr 1
   rw [TD.er,show ZR (lk [.log t e []]) 0 t none=[] from Zdu (H:=[])]
   rfl
  have r2:Con P g (TD.ers (lk [.log t e []]) (.own 0 none t none::a)) (erH [.log t e []]) (r.er (lk s'.2)) (erH s'.2):=r2
  rw [e1] at r2
  exact Zyr (H:=[]) (e:=e) r2
end Go.Ev
end
section
namespace Go.Ev
universe u
variable {O:Type u}
def ZbL (n:Nat) (k:Nat→O):O:=Nat.rec (motive:=fun _=>O) (k 0) (fun m _=>k (Nat.succ m)) n
theorem YI (n:Nat) (k:Nat→O):ZbL n k=k n:=by cases n <;> rfl
def ZdP {α:Type} (f:α→(α→O)→O):List α→(List α→O)→O
 |[],k=>k []
 |a::r,k=>f a fun a=>ZdP f r fun r=>k (a::r)
theorem WA {α:Type} {f:α→(α→O)→O} (hf:∀a k,f a k=k a):∀(l:List α) (k:List α→O),ZdP f l k=k l
 |[],k=>rfl
 |a::r,k=>by rw [ZdP,hf,WA hf r]
def ZJx (n:Int) (k:Int→O):O:=match n with
 |.ofNat n=>ZbL n fun n=>k (.ofNat n)
 |.negSucc n=>ZbL n fun n=>k (.negSucc n)
theorem ZHY (n:Int) (k:Int→O):ZJx n k=k n:=by cases n <;> (rw [ZJx,YI])
def Zsn (b:Bool) (k:Bool→O):O:=match b with
 |true=>k true
 |false=>k false
theorem ZfZ (b:Bool) (k:Bool→O):Zsn b k=k b:=by cases b <;> rfl
mutual
def Ty.fo:(t:Ty)→t.den→(t.den→O)→O
 |.int _,x,k=>ZJx x k
 |.u8,x,k=>ZbL (UInt8.toNat x) fun n=>k (UInt8.ofNat n)
 |.u32,x,k=>ZbL (UInt32.toNat x) fun n=>k (ybh n)
 |.u64,x,k=>ZbL (UInt64.toNat x) fun n=>k (yaf n)
 |.bool,x,k=>Zsn x k
 |.str,x,k=>k x
 |.sl t,x,k=>ZdP (Ty.fo t) x k
 |.arr _ t,x,k=>ZdP (Ty.fo t) x k
 |.st fs,x,k=>Ty.fos fs x k
def Ty.fos:(fs:List Ty)→Ty.dens fs→(Ty.dens fs→O)→O
 |[],_,k=>k ()
 |[t],x,k=>Ty.fo t x k
 |t::u::r,x,k=>Ty.fo t x.1 fun a=>Ty.fos (u::r) x.2 fun b=>k (a,b)
end
mutual
theorem Ty.fo_eq:∀(t:Ty) (x:t.den) (k:t.den→O),t.fo x k=k x
 |.int _,x,k=>ZHY x k
 |.u8,x,k=>by rw [Ty.fo,YI];exact congrArg k UInt8.ofNat_toNat
 |.u32,x,k=>by rw [Ty.fo,YI];exact congrArg k UInt32.ofNat_toNat
 |.u64,x,k=>by rw [Ty.fo,YI];exact congrArg k UInt64.ofNat_toNat
 |.bool,x,k=>ZfZ x k
 |.str,x,k=>rfl
 |.sl t,x,k=>by rw [Ty.fo];exact WA (Ty.fo_eq t) x k
 |.arr _ t,x,k=>by rw [Ty.fo];exact WA (Ty.fo_eq t) x k
 |.st fs,x,k=>Ty.fos_eq fs x k
theorem Ty.fos_eq:∀(fs:List Ty) (x:Ty.dens fs) (k:Ty.dens fs→O),Ty.fos fs x k=k x
 |[],_,k=>rfl
 |[t],x,k=>Ty.fo_eq t x k
 |t::u::r,x,k=>by rw [Ty.fos,Ty.fo_eq t];exact Ty.fos_eq (u::r) x.2 _
end
mutual
def TP.fo:TP→(TP→O)→O
 |.v t x,k=>t.fo x fun x=>k (.v t x)
 |.sl nn t xs,k=>ZdP t.fo xs fun xs=>k (.sl nn t xs)
 |.agg xs,k=>TP.fos xs fun xs=>k (.agg xs)
 |.arr n s xs,k=>TP.fos xs fun xs=>k (.arr n s xs)
 |.sll nn s xs,k=>TP.fos xs fun xs=>k (.sll nn s xs)
 |.iface t x,k=>TP.fo x fun x=>k (.iface t x)
 |x,k=>k x
def TP.fos:List TP→(List TP→O)→O
 |[],k=>k []
 |x::r,k=>TP.fo x fun x=>TP.fos r fun r=>k (x::r)
end
mutual
theorem TP.fo_eq:∀(x:TP) (k:TP→O),x.fo k=k x
 |.v t x,k=>by rw [TP.fo,Ty.fo_eq]
 |.sl nn t xs,k=>by rw [TP.fo,WA (Ty.fo_eq t)]
 |.agg xs,k=>by rw [TP.fo,TP.fos_eq xs]
 |.arr n s xs,k=>by rw [TP.fo,TP.fos_eq xs]
 |.sll nn s xs,k=>by rw [TP.fo,TP.fos_eq xs]
 |.iface t x,k=>by rw [TP.fo,TP.fo_eq x]
 |.ptr0,k=>rfl
 |.fn0,k=>rfl
 |.if0,k=>rfl
 |.map0,k=>rfl
 |.fnv _,k=>rfl
theorem TP.fos_eq:∀(x:List TP) (k:List TP→O),TP.fos x k=k x
 |[],k=>rfl
 |x::r,k=>by rw [TP.fos,TP.fo_eq x,TP.fos_eq r]
end
def ZKo {α:Type} (f:α→(α→O)→O):Option α→(Option α→O)→O
 |none,k=>k none
 |some a,k=>f a fun a=>k (some a)
theorem ZHZ {α:Type} {f:α→(α→O)→O} (hf:∀a k,f a k=k a):∀(l:Option α) (k:Option α→O),ZKo f l k=k l
 |none,k=>rfl
 |some a,k=>hf a _
mutual
def TD.fo:TD→(TD→O)→O
 |.p x,k=>x.fo fun x=>k (.p x)
 |.elem x,k=>x.fo fun x=>k (.elem x)
 |.own id nn t c,k=>ZbL id fun id=>ZKo (ZdP t.fo) c fun c=>k (.own id nn t c)
 |.ref id q,k=>ZbL id fun id=>k (.ref id q)
 |.view id q s lo n,k=>ZbL id fun id=>ZbL s fun s=>ZbL lo fun lo=>ZbL n fun n=>k (.view id q s lo n)
 |.agg xs,k=>TD.fos xs fun xs=>k (.agg xs)
 |.arr n s xs,k=>ZbL n fun n=>ZbL s fun s=>TD.fos xs fun xs=>k (.arr n s xs)
 |.fn f xs,k=>TD.fos xs fun xs=>k (.fn f xs)
 |.iface t x,k=>TD.fo x fun x=>k (.iface t x)
 |.tup xs,k=>TD.fos xs fun xs=>k (.tup xs)
 |.mp id,k=>ZbL id fun id=>k (.mp id)
 |.rv id v s lo n,k=>ZbL id fun id=>ZbL v fun v=>ZbL s fun s=>ZbL lo fun lo=>ZbL n fun n=>k (.rv id v s lo n)
 |.rref id v q,k=>ZbL id fun id=>ZbL v fun v=>k (.rref id v q)
 |.rw id,k=>ZbL id fun id=>k (.rw id)
 |.rp id q,k=>ZbL id fun id=>k (.rp id q)
 |.junk,k=>k .junk
def TD.fos:List TD→(List TD→O)→O
 |[],k=>k []
 |x::r,k=>TD.fo x fun x=>TD.fos r fun r=>k (x::r)
end
mutual
theorem TD.fo_eq:∀(x:TD) (k:TD→O),x.fo k=k x
 |.p x,k=>by rw [TD.fo,TP.fo_eq]
 |.elem x,k=>by rw [TD.fo,TP.fo_eq]
 |.own id nn t c,k=>by rw [TD.fo,YI,ZHZ (WA (Ty.fo_eq t))]
 |.ref id q,k=>by rw [TD.fo,YI]
 |.view id q s lo n,k=>by rw [TD.fo,YI,YI,YI,YI]
 |.agg xs,k=>by rw [TD.fo,TD.fos_eq xs]
 |.arr n s xs,k=>by rw [TD.fo,YI,YI,TD.fos_eq xs]
 |.fn f xs,k=>by rw [TD.fo,TD.fos_eq xs]
 |.iface t x,k=>by rw [TD.fo,TD.fo_eq x]
 |.tup xs,k=>by rw [TD.fo,TD.fos_eq xs]
 |.mp id,k=>by rw [TD.fo,YI]
 |.rv id v s lo n,k=>by rw [TD.fo,YI,YI,YI,YI,YI]
 |.rref id v q,k=>by rw [TD.fo,YI,YI]
 |.rw id,k=>by rw [TD.fo,YI]
 |.rp id q,k=>by rw [TD.fo,YI]
 |.junk,k=>rfl
theorem TD.fos_eq:∀(x:List TD) (k:List TD→O),TD.fos x k=k x
 |[],k=>rfl
 |x::r,k=>by rw [TD.fos,TD.fo_eq x,TD.fos_eq r]
end
def TEnt.fo (e:TEnt) (k:TEnt→O):O:=match e with
 |.var d st=>d.fo fun d=>Zsn st fun st=>k (.var d st)
 |.log t e xs=>ZdP t.fo xs fun xs=>k (.log t e xs)
 |.map tid a b l=>ZdP (fun q k=>a.fo q.1 fun x=>b.fo q.2 fun y=>k (x,y)) l fun l=>k (.map tid a b l)
 |.row v s st e d=>ZbL v fun v=>ZbL s fun s=>Zsn st fun st=>d.fo fun d=>k (.row v s st e d)
 |.rowT t v st e xs=>Zsn st fun st=>ZdP t.fo xs fun xs=>k (.rowT t v st e xs)
 |.rowN t np v st e a b=>Zsn st fun st=>ZdP t.fo a fun a=>ZdP t.fo b fun b=>k (.rowN t np v st e a b)
 |.rowM t np v st e a d b=>Zsn st fun st=>ZdP t.fo a fun a=>d.fo fun d=>ZdP t.fo b fun b=>k (.rowM t np v st e a d b)
 |.gone=>k .gone
theorem TEnt.fo_eq (e:TEnt) (k:TEnt→O):e.fo k=k e:=by
 cases e with
 |var d st=>rw [TEnt.fo,TD.fo_eq,ZfZ]
 |log t e xs=>rw [TEnt.fo,WA (Ty.fo_eq t)]
 |map tid a b l=>rw [TEnt.fo,WA fun q k=>by rw [Ty.fo_eq a,Ty.fo_eq b]]
 |row v s st e d=>rw [TEnt.fo,YI,YI,ZfZ,TD.fo_eq]
 |rowT t v st e xs=>rw [TEnt.fo,ZfZ,WA (Ty.fo_eq t)]
 |rowN t np v st e a b=>rw [TEnt.fo,ZfZ,WA (Ty.fo_eq t),WA (Ty.fo_eq t)]
 |rowM t np v st e a d b=>rw [TEnt.fo,ZfZ,WA (Ty.fo_eq t),TD.fo_eq,WA (Ty.fo_eq t)]
 |gone=>rfl
def foS (a:List TD) (h:List TEnt) (k:List TD→List TEnt→O):O:=TD.fos a fun a=>ZdP TEnt.fo h fun h=>k a h
theorem ZJy (a:List TD) (h:List TEnt) (k:List TD→List TEnt→O):foS a h k=k a h:=by rw [foS,TD.fos_eq,WA TEnt.fo_eq]
def foX:(l:List XSh)→XSh.sum l→(XSh.sum l→O)→O
 |[],x,k=>k x
 |[e],x,k=>Ty.fos e.ty x k
 |e::f::r,x,k=>match (x:Ty.dens e.ty⊕XSh.sum (f::r)) with
  |.inl x=>Ty.fos e.ty x fun x=>k (.inl x:Ty.dens e.ty⊕XSh.sum (f::r))
  |.inr x=>foX (f::r) x fun x=>k (.inr x:Ty.dens e.ty⊕XSh.sum (f::r))
theorem ZFT:∀(l:List XSh) (x:XSh.sum l) (k:XSh.sum l→O),foX l x k=k x
 |[],x,k=>rfl
 |[e],x,k=>Ty.fos_eq _ _ _
 |e::f::r,x,k=>by
  unfold foX
  cases (x:Ty.dens e.ty⊕XSh.sum (f::r)) with
  |inl x=>exact Ty.fos_eq _ _ _
  |inr x=>exact ZFT (f::r) x _
def Fs.fo {P:Program} (s:Fs P):Fs P:={ s with M:=fun x=>Ty.fos s.ins x fun x=>(s.M x).bind fun o=>foX s.xs o some}
theorem Fs.fo_ok {P:Program} {s:Fs P} (h:s.Ok):s.fo.Ok:=by
 have e:s.fo=s:=by
  unfold Fs.fo
  have:(fun x=>Ty.fos s.ins x fun x=>(s.M x).bind fun o=>foX s.xs o some)=s.M:=by
   funext x
   rw [Ty.fos_eq]
   cases s.M x with
   |none=>rfl
   |some o=>exact ZFT _ _ _
  rw [this]
 rw [e]
 exact h
theorem Zzk {P:Program}:∀{l:List (Fs P)},AllOk l→AllOk (l.map Fs.fo)
 |[],_=>trivial
 |s::r,h=>⟨Fs.fo_ok h.1,Zzk h.2⟩
end Go.Ev
end
section
namespace Go.Ev
def Zw2 (h:List TEnt) (n0:Nat) (r:TD):List Nat:=
 let got:=Zpu h 100000 (r.look++yp n0) []
 ((yp h.length).drop n0).filter got.contains
def Ty.mkFs (f:(T:Ty)→TD→Option T.den):(fs:List Ty)→List TD→Option (Ty.dens fs)
 |[],[]=>some ()
 |[t],[d]=>f t d
 |t::u::r,d::ds=>Zla (f t d) (Ty.mkFs f (u::r) ds)
 |_,_=>none
def mkL {T:Ty} (f:TD→Option T.den):List TD→Option (List T.den)
 |[]=>some []
 |d::r=>(Zla (f d) (mkL f r)).map fun q=>q.1::q.2
def ZFU (H:List TEnt) (id:Nat) (u:Ty):Option (List u.den):=
 match H[id]? with
 |some (.rowT u' v false e l)=>Ty.castL u' u l
 |_=>none
theorem ZFV {H:List TEnt} {id:Nat} {u:Ty} {l:List u.den} (h:ZFU H id u=some l):DeepR (erH H) ((TD.rw id).er (lk H)) ((Ty.sl u).enc l):=by
 unfold ZFU at h
 split at h
 ·rename_i u' v e l' hd
  obtain ⟨e1,h⟩:=Zz h
  subst e1
  subst h
  have hE:(erH H)[id]? =some (.row v.length u'.size false e (.p (.arr l.length u'.size (l.map u'.enc)))):=ZP hd
  have:=DeepR.rvp (lo:=0) (n:=l.length) hE (by omega)
  rw [(ZaE hd).1,ZAl]
  rw [List.drop_zero, ←yu (f:=u'.enc),List.take_length,yu] at this
  exact this
 ·cases h
def Zzl (H:List TEnt):Nat→(T:Ty)→TD→Option T.den
 |0,_,_=>none
 |n+1,T,d=>match d with
  |.p x=>TP.to ZiK x T
  |.own id nn t c=>ZEO true t (ZR (lk H) id t c) T
  |.agg ds=>ZEP (fun fs=>Ty.mkFs (Zzl H n) fs ds) T
  |.rw id=>match T with
   |.sl u=>ZFU H id u
   |_=>none
  |.rv id v s lo k=>match T with
   |.sl u=>match H[id]? with
    |some (.row w s' false e d)=>if (w==v&&s'==s&&s==u.size)=true then match d with
      |.p x=>x.arow.bind fun r=>(Ty.castL r.t u r.l).bind fun l=>if decide (lo+k≤r.n)=true then some ((l.drop lo).take k) else none
      |.arr N s2 ds=>if (s2==s&&decide (lo+k≤N))=true then (mkL (Zzl H n u) ds).map fun (l:List u.den)=>(l.drop lo).take k else none
      |_=>none
     else none
    |_=>none
   |_=>none
  |_=>none
theorem ZCo {H:List Ent} {L:Lk} {f:(T:Ty)→TD→Option T.den} (hf:∀T d y,f T d=some y→DeepR H (d.er L) (T.enc y)):∀(fs:List Ty) (ds:List TD) (y:Ty.dens fs),Ty.mkFs f fs ds=some y→
 (TD.ers L ds).length=(Ty.encs fs y).length∧∀(i:Nat) (d:Dv) (z:Pl),(TD.ers L ds)[i]? =some d→(Ty.encs fs y)[i]? =some z→DeepR H d z
 |[],[],y,h=>⟨rfl,fun i d z h1 _=>by simp [TD.ers] at h1⟩
 |[],_::_,y,h=>by cases h
 |[t],[],y,h=>by cases h
 |[t],[d],y,h=>by
  refine ⟨rfl,fun i d' z h1 h2=> ?_⟩
  cases i with
  |zero=>cases h1;cases h2;exact hf t d y h
  |succ i=>simp [TD.ers] at h1
 |[t],_::_::_,y,h=>by cases h
 |t::u::r,[],y,h=>by cases h
 |t::u::r,d::ds,y,h=>by
  obtain ⟨h1,h2⟩:=VE (α:=t.den) (β:=Ty.dens (u::r)) h
  obtain ⟨h3,h4⟩:=ZCo hf (u::r) ds y.2 h2
  refine ⟨by rw [TD.ers,Ty.encs,yz,yz,h3],fun i d' z k1 k2=> ?_⟩
  cases i with
  |zero=>cases k1;cases k2;exact hf t d y.1 h1
  |succ i=>exact h4 i d' z k1 k2
theorem ZFW {H:List Ent} {L:Lk} {T:Ty} {f:TD→Option T.den} (hf:∀d y,f d=some y→DeepR H (d.er L) (T.enc y)):∀(ds:List TD) (l:List T.den),mkL f ds=some l→
 (TD.ers L ds).length=(l.map T.enc).length∧∀(i:Nat) (d:Dv) (z:Pl),(TD.ers L ds)[i]? =some d→(l.map T.enc)[i]? =some z→DeepR H d z
 |[],l,h=>by cases h;exact ⟨rfl,fun i d z h1 _=>by simp [TD.ers] at h1⟩
 |d::ds,l,h=>by
  obtain ⟨q,h1,rfl⟩:=Zb h
  obtain ⟨h1,h2⟩:=VE h1
  obtain ⟨h3,h4⟩:=ZFW hf ds q.2 h2
  refine ⟨by rw [TD.ers,yx,yz,yz,h3],fun i d' z k1 k2=> ?_⟩
  cases i with
  |zero=>cases k1;cases k2;exact hf d q.1 h1
  |succ i=>exact h4 i d' z k1 k2
theorem Zso {H:List TEnt}:∀(n:Nat) (T:Ty) (d:TD) (y:T.den),Zzl H n T d=some y→DeepR (erH H) (d.er (lk H)) (T.enc y)
 |0,_,_,_,h=>by cases h
 |n+1,T,d,y,h=>by
  unfold Zzl at h
  split at h
  ·exact .wk (.p _) (Zyw h)
  ·rename_i id nn t c
   obtain ⟨l,_,e1,rfl⟩:=Zoo (nn:=none) h
   rw [e1,TD.er]
   exact .wk (.own id nn t.size _) (PlWk.sl_mk (PlsWk.refl _))
  ·rename_i ds
   obtain ⟨fs,z,h1,e1⟩:=Zop h
   rw [e1,TD.er]
   obtain ⟨h2,h3⟩:=ZCo (fun T d y=>Zso n T d y) fs ds z h1
   exact .agg h2 h3
  ·rename_i id
   cases T with
   |sl u=>exact ZFV h
   |_=>cases h
  ·rename_i id v s lo k
   split at h
   ·rename_i u
    split at h
    ·rename_i w s' e dd hd
     obtain ⟨hk,g⟩:=Za h
     clear h
     simp only [yg,beq_iff_eq] at hk
     obtain ⟨⟨hk1,hk2⟩,hk3⟩:=hk
     have hE:=ZP hd
     rw [hk1,hk2,hk3] at hE
     split at g
     ·rename_i x
      obtain ⟨r,p1,g1⟩:=yc.1 g
      obtain ⟨l,p2,g2⟩:=yc.1 g1
      obtain ⟨p3,g3⟩:=Za g2
      cases g3
      obtain ⟨rn,rt,rl⟩:=r
      obtain ⟨e1,p2⟩:=Zz p2
      dsimp only at e1 p2 p3
      subst e1
      subst p2
      rw [TEnt.er,TD.er,Vl p1] at hE
      have:=DeepR.rvp hE (of_decide_eq_true p3)
      rw [ZAl,List.map_take,List.map_drop,TD.er,hk3]
      exact this
     ·rename_i N s2 ds
      obtain ⟨p1,g1⟩:=Za g
      simp only [yg,beq_iff_eq,decide_eq_true_eq] at p1
      obtain ⟨q1,p1⟩:=p1
      obtain ⟨l,p2,g2⟩:=Zb g1
      subst g2
      obtain ⟨h2,h3⟩:=ZFW (fun d y=>Zso n u d y) ds l p2
      rw [TEnt.er,TD.er,q1,hk3] at hE
      have:=DeepR.rva hE p1 h2 h3
      rw [ZAl,List.map_take,List.map_drop,TD.er,hk3]
      exact this
     ·cases g
    ·cases h
   ·cases h
  ·cases h
def Zzm:TEnt→TEnt
 |.row v s _ e d=>.row v s false e d
 |.rowT t v _ e l=>.rowT t v false e l
 |e=>e
def ZgM (ids:List Nat) (H:List TEnt):List TEnt:=(yp H.length).zipWith (fun i e=>if ids.contains i then Zzm e else e) H
theorem ZFX (e:TEnt):lkE (some (Zzm e))=lkE (some e):=by cases e <;> rfl
theorem Zpy (ids:List Nat) (H:List TEnt) (i:Nat):(ZgM ids H)[i]? =(H[i]?).map fun e=>if ids.contains i then Zzm e else e:=by
 unfold ZgM
 rw [List.getElem?_zipWith]
 rcases ybt i H.length with h|h
 ·rw [List.getElem?_range h,yw h]
  rfl
 ·rw [yam (by simpa using h),yam h]
  rfl
theorem Zsp (ids:List Nat) (H:List TEnt):lk (ZgM ids H)=lk H:=by
 funext i
 unfold lk
 rw [Zpy]
 cases H[i]? with
 |none=>rfl
 |some e=>
  show lkE (some (if ids.contains i=true then Zzm e else e))=_
  split
  ·exact ZFX e
  ·rfl
theorem ZBb (ids:List Nat) (H:List TEnt):WkH (erH H) (erH (ZgM ids H)):=by
 refine ZAW (by rw [ZI,ZI];unfold ZgM;simp) fun i a b h1 h2=> ?_
 unfold erH at h1 h2
 rw [yac] at h1 h2
 rw [Zsp,Zpy] at h2
 cases he:H[i]? with
 |none=>rw [he] at h1;cases h1
 |some e=>
  rw [he] at h1 h2
  cases h1
  cases h2
  show WkE (e.er (lk H)) (TEnt.er (lk H) (if ids.contains i=true then Zzm e else e))
  split
  ·cases e <;> first|exact .refl _|exact .lock
  ·exact .refl _
def ZBc:List TEnt→Nat→Bool
 |H,i=>match H[i]? with
  |some (.row _ _ _ _ _)=>true
  |some (.rowT _ _ _ _ _)=>true
  |_=>false
def ZCp (P:Program) (H:List TEnt) (t:TypeId) (d:TD):Option TD:=
 match d with
 |.p x=>some (.p x)
 |d=>(Zh5 P tyD t).bind fun T=>(Zzl H 100 T d).map fun y=>.p (.v T y)
theorem Zzn {P:Program} {H:List TEnt} {t:TypeId} {d e:TD} (h:ZCp P H t d=some e):DeepP (erH H) (d.er (lk H)) (e.er (lk H)):=by
 unfold ZCp at h
 split at h
 ·cases h;exact .refl _
 ·obtain ⟨T,h1,h⟩:=yc.1 h
  obtain ⟨y,h2,rfl⟩:=Zb h
  exact .deep (Zso _ _ _ _ h2)
def Zw3 (P:Program) (H:List TEnt):List TypeId→List TD→Option (List TD)
 |[],[]=>some []
 |t::r,d::ds=>match ZCp P H t d,Zw3 P H r ds with
  |some a,some b=>some (a::b)
  |_,_=>none
 |_,_=>none
theorem Zvr {P:Program} {H:List TEnt}:∀{ts:List TypeId} {ds es:List TD},Zw3 P H ts ds=some es→DeepL (erH H) (TD.ers (lk H) ds) (TD.ers (lk H) es)
 |[],[],es,h=>by cases h;exact .nil
 |[],_::_,es,h=>by cases h
 |_::_,[],es,h=>by cases h
 |t::r,d::ds,es,h=>by
  simp only [Zw3] at h
  split at h
  ·rename_i a b h1 h2
   cases h
   exact .cons (Zzn h1) (Zvr h2)
  ·cases h
def ZFY (P:Program) (H:List TEnt) (ts:List TypeId) (r:TD):Option TD:=
 match ts with
 |[t]=>ZCp P H t r
 |ts=>match r with
  |.tup ds=>(Zw3 P H ts ds).map .tup
  |_=>none
theorem ZFZ {P:Program} {H:List TEnt} {ts:List TypeId} {r r':TD} (h:ZFY P H ts r=some r'):DeepT (erH H) (r.er (lk H)) (r'.er (lk H)):=by
 unfold ZFY at h
 split at h
 ·exact .one (Zzn h)
 ·split at h
  ·obtain ⟨es,h1,rfl⟩:=Zb h
   exact .tup (Zvr h1)
  ·cases h
def ZDU {O:Type} (P:Program) (ts:List TypeId) (r:TD) (H:List TEnt) (K:TD→List TEnt→Option O):Option O:=
 match ts with
 |[]=>K r H
 |ts=>(ZFY P (ZgM ((Zpu H 100000 r.look []).filter (ZBc H)) H) ts r).bind fun r'=>K r' (ZgM ((Zpu H 100000 r.look []).filter (ZBc H)) H)
theorem Zvs {O:Type} {P:Program} {ts:List TypeId} {r:TD} {H:List TEnt} {K:TD→List TEnt→Option O} {out:O} {g:FuncId} {args:List Dv} {H0:List Ent} (h:ZDU P ts r H K=some out) (hc:Con P g args H0 (r.er (lk H)) (erH H)):
 ∃r' H',K r' H'=some out∧Con P g args H0 (r'.er (lk H')) (erH H'):=by
 unfold ZDU at h
 split at h
 ·exact ⟨_,_,h,hc⟩
 ·obtain ⟨r',h1,h2⟩:=yc.1 h
  generalize (Zpu H 100000 r.look []).filter (ZBc H)=ids at h1 h2
  refine ⟨_,_,h2,ZEN hc (ZBb ids H) ?_⟩
  have:=ZFZ h1
  rw [Zsp] at this ⊢
  exact this
def ZDV {O:Type} (h:List TEnt) (n0:Nat) (ds:List TD) (K:TD→List TEnt→Option O):Option O:=
 let keep:=Zw2 h n0 (Zsj ds)
 if once (yp n0++keep) then (match Dv.rn (toIds (yp n0++keep)) ((Zsj ds).er (lk h)) with
  |some _=>(Zsj ds).rn (toIds (yp n0++keep))
  |none=>(Zsj (ds.map (TD.arg (lk h)))).rn (toIds (yp n0++keep))).bind fun r=>
  (X7 h (yp n0++keep) (yp n0++keep)).bind fun h2=>K r h2
 else none
section
variable {P:Program}
def ZH0 (P:Program) (his:FuncId→HI) (l:List (Fs P)) (mt:List (TypeId×String×FuncId)) (ghs:FuncId→List (Nat×GOp)):Nat→(O:Type)→FuncId→List TD→List TEnt→(TD→List TEnt→Option O)→Option O
 |0,_,_,_,_,_=>none
 |n+1,O,g,args,H,K=>foS args H fun args H=>match P.funcs[g]? with
  |some fn=>match fn.body with
   |some c=>if decide (args.length≤fn.ntmps)=true then
     evT P { hi:=his g,un:=1000000,gh:=ghs g} ⟨l,ZH0 P his l mt ghs n,mt⟩ c 0 0 (args++yr (fn.ntmps - args.length) .junk) H fun ex a h=>match ex with
      |.exit _=>none
      |_=>Zt6 P a h fn.results.toList fun ds _=>ZDV h H.length ds fun r h=>ZDU P (his g).deep r h fun r h=>foS [r] h fun rs h=>match rs with
       |[r]=>K r h
       |_=>none
     else none
   |none=>none
  |none=>none
theorem ZCq {his:FuncId→HI} {l:List (Fs P)} {mt:List (TypeId×String×FuncId)} {ghs:FuncId→List (Nat×GOp)} (hl:AllOk l) (hm:MtOk P mt):∀(n:Nat),HdOk P (ZH0 P his l mt ghs n)
 |0=>fun _ _ _ _ _ _ h=>by cases h
 |n+1=>fun O g args H K out hM=>by
  unfold ZH0 at hM
  simp only [ZJy] at hM
  split at hM
  ·rename_i fn hf
   split at hM
   ·rename_i c hb1
    obtain ⟨hn,hM⟩:=Za hM
    have hn:=of_decide_eq_true hn
    have hlen:(args++yr (fn.ntmps - args.length) TD.junk).length=fn.ntmps:=by
     rw [yl,yci]
     omega
    obtain ⟨ex,a,hh,k1,k2,k3⟩:=X9 (N:=fn.ntmps) ⟨hl,ZCq hl hm n,hm⟩ c _ _ _ _ _ hlen (fun k b hk lp h=>by cases h) (fun k b hk lp h=>by cases h) hM
    have hex:(ex=.ret∨ex=.normal)∧(Zt6 P a hh fn.results.toList fun ds _=>ZDV hh H.length ds fun r h=>ZDU P (his g).deep r h K)=some out:=by
     cases ex with
     |exit _=>cases k1
     |normal=>exact ⟨.inr rfl,k1⟩
     |ret=>exact ⟨.inl rfl,k1⟩
    obtain ⟨hex,k1⟩:=hex
    obtain ⟨ds,hs,C,g1,g2,g3⟩:=ZfY _ _ k1
    unfold ZDV at g1
    dsimp only at g1
    generalize Zw2 hh H.length (Zsj ds)=keep at g1
    obtain ⟨g5,g1⟩:=Za g1
    obtain ⟨r,g6,g1⟩:=yc.1 g1
    obtain ⟨e2,g7,g1⟩:=yc.1 g1
    refine Zvs g1 ?_
    have hfin:fin P fn (TD.ers (lk hh) a) (erH hh) (erH H).length keep hs=some (C,r.er (lk e2),erH e2):=by
     unfold fin
     have:=g3 []
     rw [ybb] at this
     rw [this]
     dsimp only
     rw [ZI,g5, ←Zkr,show subEnts (erH hh) _ _=some (erH e2) from X8 (Q9 g7) g7]
     split at g6
     ·rename_i r0 hr0
      have e4:=ZeU (Q9 g7) _ _ g6
      rw [e4]
     ·rename_i hr0
      have e4:=ZeU (Q9 g7) _ _ g6
      rw [Zkr,ZB,yau] at e4
      rw [hr0,show (TD.ers (lk hh) ds).map Dv.arg=ds.map (TD.er (lk hh) ∘ TD.arg (lk hh)) by
       rw [ZB,yau]
       exact ybz fun d _=>(ZBa d).symm,e4]
    have hrun:XM P c (TD.ers (lk H) args++yr (fn.ntmps - (TD.ers (lk H) args).length) .junk) (erH H) ex (TD.ers (lk hh) a) (erH hh):=by
     have e5:TD.ers (lk H) (args++yr (fn.ntmps - args.length) TD.junk)=TD.ers (lk H) args++yr (fn.ntmps - (TD.ers (lk H) args).length) .junk:=by
      rw [ZgG,ZB,ZB,yan,List.map_replicate]
      rfl
     rw [←e5]
     exact k3
    exact ZiJ hf hb1 hrun hex hfin g2
   ·cases hM
  ·cases hM
def ZJz (P:Program) (his:FuncId→HI) (l:List (Fs P)) (mt:List (TypeId×String×FuncId)) (n:Nat) (g:FuncId) (ghs:FuncId→List (Nat×GOp):=fun _=>[]):Option Bool:=
 ZH0 P his l mt ghs n Bool g [] [] fun r h=>match h with
  |[]=>r.boolT
  |_=>none
theorem ZH1 {his:FuncId→HI} {l:List (Fs P)} {mt:List (TypeId×String×FuncId)} {ghs:FuncId→List (Nat×GOp)} {n:Nat} {g:FuncId} {b:Bool} (hl:AllOk l) (hm:MtOk P mt) (h:ZJz P his l mt n g ghs=some b):Con P g [] [] (.p (.bool b)) []:=by
 obtain ⟨r,H',h1,h2⟩:=ZCq hl hm n _ _ _ _ _ _ h
 split at h1
 ·rw [ZfT h1] at h2
  exact h2
 ·cases h1
theorem ZJA {his:FuncId→HI} {l:List (Fs P)} {mt:List (TypeId×String×FuncId)} {ghs:FuncId→List (Nat×GOp)} {n:Nat} {g:FuncId} {b:Bool} (hl:AllOk l) (hm:MtOk P mt) (h:ZJz P his l mt n g ghs=some b):
 Fs.Ok (⟨g,[],[],[],[⟨.ret,[(0,.v .bool)],[],[.bool]⟩],fun _=>some b⟩:Fs P):=by
 intro x o hM
 cases hM
 refine ⟨[],[],[],rfl,rfl,fun e vs s' hs hf=> ?_⟩
 obtain ⟨rfl,rfl⟩:=hs
 cases hf
 exact ⟨_,rfl,ZH1 hl hm h⟩
end
theorem okN {P:Program} (s:Nat→Fs P) (h:(s fuel).Ok):(s 18446744073709551616).Ok:=by
 rw [Zbo] at h
 exact h
end Go.Ev
end
section
namespace Go.Ev
theorem ZF0 {P:Program} {g:FuncId} {args:List Dv} {H H1 H2:List Ent} {r r2:Dv} {keep:List Nat} (h:Con P g args H r H1) (ho:once (yp H.length++keep)=true)
 (hin:subEnts H1 (yp H.length++keep) (yp H.length++keep)=some H2) (hr:r.rn (toIds (yp H.length++keep))=some r2):Con P g args H r2 H2:=by
 intro σ vs ok e hv
 refine Calls.mono (h σ vs ok e hv) ?_
 rintro e' w' ⟨v,σ',h1,h2,h3,h4,h5,h6⟩
 subst h3
 subst e
 exact ⟨v,Zk9 σ' (yp σ.H.length++keep) H2,h1,h2,rfl,ZqP ok h4 ho hin,ZqO h5 ho hin,ZdD (ZgF hin) hr h6⟩
def ZCr (h:List TEnt) (n0:Nat) (r:TD) (e:XSh):Option (Ty.dens e.ty):=
 match e.sl with
 |[(0,rs)]=>(ZFS h rs e.es n0 r).bind fun keep=>
  if once (yp n0++keep) then (r.rn (toIds (yp n0++keep))).bind fun r=>
   (X7 h (yp n0++keep) (yp n0++keep)).bind fun h2=>(Sh.mt (lk h2) rs r).bind fun q=>(ESh.mts (lk h2) e.es h2).bind fun w=>toD e.ty (q.2++w.2)
  else none
 |_=>none
def Zsq (h:List TEnt) (n0:Nat) (r:TD):(l:List XSh)→Option (XSh.sum l)
 |[]=>none
 |[e]=>ZCr h n0 r e
 |e::f::q=>match ZCr h n0 r e with
  |some x=>some (Sum.inl x:Ty.dens e.ty⊕XSh.sum (f::q))
  |none=>(Zsq h n0 r (f::q)).map fun x=>(Sum.inr x:Ty.dens e.ty⊕XSh.sum (f::q))
theorem Zpz {h:List TEnt} {n0:Nat} {r:TD}:∀{l:List XSh} {o:XSh.sum l},Zsq h n0 r l=some o→∀e vs,Zy0 l o e vs→∃x,ZCr h n0 r e=some x∧vs=ofD e.ty x
 |[],_,k,_,_,_=>by cases k
 |[e],o,k,x,vs,hs=>by
  obtain ⟨rfl,rfl⟩:=hs
  exact ⟨o,k,rfl⟩
 |e::f::q,o,k,x,vs,hs=>by
  simp only [Zsq] at k
  split at k
  ·rename_i y hy
   cases k
   obtain ⟨rfl,rfl⟩:=hs
   exact ⟨y,hy,rfl⟩
  ·obtain ⟨y,h1,h2⟩:=Zb k
   subst h2
   exact Zpz h1 x vs hs
section
variable {P:Program}
def fnD (P:Program) (fi:FI) (specs:Sp P) (g:FuncId) (ps:List Sh) (es:List ESh) (ins:List Ty) (xs:List XSh):Ty.dens ins→Option (XSh.sum xs):=fun x=>
 match P.funcs[g]? with
 |some fn=>match fn.body with
  |some c=>(Sh.fills ps (ofD ins x)).bind fun q=>(ESh.fills es q.2).bind fun w=>if w.2.isEmpty then
    evT P fi specs c 0 0 (q.1++yr (fn.ntmps - q.1.length) .junk) w.1 fun ex a h=>match ex with
     |.exit _=>none
     |_=>Zt6 P a h fn.results.toList fun ds _=>ZDV h w.1.length ds fun r h=>ZDU P fi.hi.deep r h fun r h=>Zsq h w.1.length r xs
    else none
  |none=>none
 |none=>none
theorem ZH2 {fi:FI} {specs:Sp P} {g:FuncId} {ps:List Sh} {es:List ESh} {ins:List Ty} {xs:List XSh} {M:Ty.dens ins→Option (XSh.sum xs)} (ok:SpOk specs) (hl:Zsh P g (Zl P g) fi.lp) (hn:ps.length≤Zl P g)
 (h:∀x,fnD P fi specs g ps es ins xs x=M x) (hb:Zvo P (Zl P g) (Zcf P g) fi.bk:=by exact True.intro):Fs.Ok (⟨g,ps,es,ins,xs,M⟩:Fs P):=by
 intro x o hM
 have hM:M x=some o:=hM
 rw [←h x] at hM
 have hl':=ZCn hl
 unfold fnD at hM
 split at hM
 ·rename_i fn hf
  split at hM
  ·rename_i c hb1
   obtain ⟨q,h1,hM⟩:=yc.1 hM
   obtain ⟨w,h2,hM⟩:=yc.1 hM
   obtain ⟨h3,hM⟩:=Za hM
   have hN:Zl P g=fn.ntmps:=by unfold Zl;rw [hf]
   have hc:Zcf P g=c:=by unfold Zcf;rw [hf];dsimp only;rw [hb1];rfl
   rw [hc,hN] at hl' hb
   have hb0:=Zw1 hb
   rw [hN] at hn
   have hlen:(q.1++yr (fn.ntmps - q.1.length) TD.junk).length=fn.ntmps:=by
    rw [yl,yci,Zkn h1]
    omega
   obtain ⟨ex,a,hh,k1,k2,k3⟩:=X9 ok c _ _ _ _ _ hlen hl' hb0 hM
   have hex:(ex=.ret∨ex=.normal)∧(Zt6 P a hh fn.results.toList fun ds _=>ZDV hh w.1.length ds fun r h=>ZDU P fi.hi.deep r h fun r h=>Zsq h w.1.length r xs)=some o:=by
    cases ex with
    |exit _=>cases k1
    |normal=>exact ⟨.inr rfl,k1⟩
    |ret=>exact ⟨.inl rfl,k1⟩
   obtain ⟨hex,k1⟩:=hex
   obtain ⟨ds,hs,C,g1,g2,g3⟩:=ZfY _ _ k1
   refine ⟨q.1,q.2,w.1,h1, ?_,fun e vs s' hsel hfs=> ?_⟩
   ·rw [h2]
    have:w.2=[]:=by simpa using h3
    rw [←this]
   unfold ZDV at g1
   dsimp only at g1
   generalize Zw2 hh w.1.length (Zsj ds)=keep at g1
   obtain ⟨g5,g1⟩:=Za g1
   obtain ⟨r,g6,g1⟩:=yc.1 g1
   obtain ⟨e2,g7,g1⟩:=yc.1 g1
   have hrun:XM P c (TD.ers (lk w.1) q.1++yr (fn.ntmps - (TD.ers (lk w.1) q.1).length) .junk) (erH w.1) ex (TD.ers (lk hh) a) (erH hh):=by
    have e5:TD.ers (lk w.1) (q.1++yr (fn.ntmps - q.1.length) TD.junk)=TD.ers (lk w.1) q.1++yr (fn.ntmps - (TD.ers (lk w.1) q.1).length) .junk:=by
     rw [ZgG,ZB,ZB,yan,List.map_replicate]
     rfl
    rw [←e5]
    exact k3
   have hfin:fin P fn (TD.ers (lk hh) a) (erH hh) (erH w.1).length keep hs=some (C,r.er (lk e2),erH e2):=by
    unfold fin
    have:=g3 []
    rw [ybb] at this
    rw [this]
    dsimp only
    rw [ZI,g5, ←Zkr,show subEnts (erH hh) _ _=some (erH e2) from X8 (Q9 g7) g7]
    split at g6
    ·rename_i r0 hr0
     have e4:=ZeU (Q9 g7) _ _ g6
     rw [e4]
    ·rename_i hr0
     have e4:=ZeU (Q9 g7) _ _ g6
     rw [Zkr,ZB,yau] at e4
     rw [hr0,show (TD.ers (lk hh) ds).map Dv.arg=ds.map (TD.er (lk hh) ∘ TD.arg (lk hh)) by
      rw [ZB,yau]
      exact ybz fun d _=>(ZBa d).symm,e4]
   obtain ⟨r',H',m1,m2⟩:=Zvs g1 (ZiJ hf hb1 hrun hex hfin g2)
   obtain ⟨o1,m3,hvs⟩:=Zpz m1 e vs hsel
   unfold ZCr at m3
   split at m3
   case h_2=>cases m3
   rename_i rs hsl
   obtain ⟨keep2,n1,m3⟩:=yc.1 m3
   obtain ⟨n2,m3⟩:=Za m3
   obtain ⟨r3,n3,m3⟩:=yc.1 m3
   obtain ⟨e3,n4,m3⟩:=yc.1 m3
   obtain ⟨z,g8,m3⟩:=yc.1 m3
   obtain ⟨y,g9,m3⟩:=yc.1 m3
   obtain ⟨b1,b2⟩:=ZfW g9
   have hcc:∀id t,ZR (lk e3) id t none=ZR (lk y.1) id t none:=fun id t=>by rw [b2]
   have eo:=Zc5 _ _ _ m3
   have efill:s'=([z.1],y.1):=by
    rw [hvs,eo,hsl] at hfs
    unfold V8 at hfs
    rw [show shs [(0,rs)] 1=[rs] from rfl] at hfs
    simp only [Sh.fills,Zkl _ _ _ g8,yb,yy] at hfs
    have:=Za5 g9 []
    rw [ybb] at this
    rw [this] at hfs
    exact (ybi hfs).symm
   subst efill
   refine ⟨z.1,rfl, ?_⟩
   have hk:Con P g (TD.ers (lk w.1) q.1) (erH w.1) (r3.er (lk e3)) (erH e3):=by
    refine ZF0 (keep:=keep2) m2 (by rw [ZI];exact n2) ?_ ?_
    ·rw [ZI]
     exact X8 (Q9 n4) n4
    ·rw [ZI]
     exact ZeU (Q9 n4) _ _ n3
   exact Zyp hk (Zr2 hcc _ _ _ g8) (Zkm hcc g9)
  ·cases hM
 ·cases hM
end
end Go.Ev
end
section
namespace Go.Ev
open Go.RowKit Go.WideShapes Go.ChangeShapes
def Yd (P:Program):Nat→TypeId→Bool
 |0,_=>false
 |n+1,t=>match P.underlying t with
  |some .bool=>true
  |some (.int _)=>true
  |some .string=>true
  |some (.slice e)=>Yd P n e&&decide (0 < P.cellsOf e)
  |some (.array m e)=>Yd P n e&&P.cellsOf t==m*P.cellsOf e
  |some (.struct fs)=>(fs.toList.all fun f=>Yd P n f.type)&&P.cellsOf t==(fs.toList.map fun f=>P.cellsOf f.type).sum&&
    ((yp fs.toList.length).all fun j=>match fs.toList[j]? with|some f=>f.offset==((fs.toList.take j).map fun f=>P.cellsOf f.type).sum|none=>true)
  |_=>false
theorem Zw4 (P:Program):Kids P (fun t=>∃n,Yd P n t=true) where
 pointer:=by
  rintro t e ⟨n,h⟩ hu
  cases n with
  |zero=>simp [Yd] at h
  |succ n=>simp [Yd,hu] at h
 slice:=by
  rintro t e ⟨n,h⟩ hu
  cases n with
  |zero=>simp [Yd] at h
  |succ n=>simp [Yd,hu] at h;exact ⟨n,h.1⟩
 array:=by
  rintro t e m ⟨n,h⟩ hu
  cases n with
  |zero=>simp [Yd] at h
  |succ n=>simp [Yd,hu] at h;exact ⟨⟨n,h.1⟩,h.2⟩
 struct:=by
  rintro t fs ⟨n,h⟩ hu
  cases n with
  |zero=>simp [Yd] at h
  |succ n=>
   simp only [Yd,hu,yg,beq_iff_eq,yaw] at h
   obtain ⟨⟨h1,h2⟩,h3⟩:=h
   refine ⟨fun f hf=>⟨n,h1 f hf⟩,h2,fun j f hf=> ?_⟩
   have hj:j < fs.toList.length:=(yj.1 hf).1
   have:=h3 j (by simpa using hj)
   rw [hf] at this
   simpa using this
 map:=by
  rintro t k e ⟨n,h⟩ hu
  cases n with
  |zero=>simp [Yd] at h
  |succ n=>simp [Yd,hu] at h
def ZH3 (R:TypeId→Pl→Prop):List Field→List Pl→Prop
 |[],[]=>True
 |f::fs,y::ys=>R f.type y∧ZH3 R fs ys
 |_,_=>False
def wtP (P:Program):Nat→TypeId→Pl→Prop
 |0,_,_=>False
 |n+1,t,x=>match P.underlying t,x with
  |some .bool,.bool _=>True
  |some (.int k),.int k' m=>k'=k∧(Lit.int k m).wf=true
  |some .string,.str s=>s.size≤maxLen
  |some (.slice e),.sl nn s xs=>s=P.cellsOf e∧nn=none∧xs.length≤maxLen∧∀y,y∈xs→wtP P n e y
  |some (.array m e),.arr m' s xs=>m'=m∧s=P.cellsOf e∧xs.length=m∧∀y,y∈xs→wtP P n e y
  |some (.struct fs),.agg xs=>ZH3 (wtP P n) fs.toList xs
  |_,_=>False
def Zw5:Nat→Nat→Prop:=fun _ _=>True
section
variable {H:Type} {enc:TypeId×Value→H} {P:Program} {w:World} {base:Nat} {sp:Nat→Bool} {held:Bool}
theorem ZDW:∀{s:Nat} {a:Addr} {cs:List Value},w.cells? base a s=some cs→cs.length=s∧∀j u,cs[j]? =some u→w.cell? (a.add j)=some u:=by
 intro s a cs h
 unfold World.cells? at h
 split at h
 ·have hl:cs.length=s:=by simpa using mapM_some_length h
  refine ⟨hl,fun j u hu=> ?_⟩
  have hj:j < s:=by rw [←hl];exact (yj.1 hu).1
  have:=mapM_some_get h j j (by simp [hj])
  rw [hu] at this
  exact this
 ·cases h
theorem ZCs {e:TypeId} {n m:Nat} {a:Addr} {s:Nat} (hs:0 < s) {elems:List (DataW H×List MemPlace)} {len:Nat} (hlen:elems.length=len)
 (ih:∀(cs:List Value) (x:DataW H×List MemPlace),DataW.trod enc P w base sp held m e cs=some x→cs.length=s→∃pl,wtP P n e pl∧repC w Zw5 pl cs)
 (h:∀i,i < len→(w.cells? base (a.add (i*s)) s).bind (DataW.trod enc P w base sp held m e)=elems[i]?):
 ∀k,k≤len→∃(xs:List Pl) (us:List Value),xs.length=k∧(∀y,y∈xs→wtP P n e y)∧allSz s xs∧us.length=k*s∧repCs w Zw5 xs us∧(∀j u,us[j]? =some u→w.cell? (a.add j)=some u)
 |0,_=>⟨[],[],rfl,(fun y hy=>by cases hy),(fun y hy=>by cases hy),by simp,by simp [repCs],by simp⟩
 |k+1,hk=>by
  obtain ⟨xs,us,h1,h2,h3,h4,h5,h6⟩:=ZCs hs hlen ih h k (by omega)
  have hk':=h k (by omega)
  rw [yw (by omega)] at hk'
  obtain ⟨cs,hc,ht⟩:=yc.1 hk'
  obtain ⟨c1,c2⟩:=ZDW hc
  obtain ⟨pl,p1,p2⟩:=ih cs _ ht c1
  have psz:pl.size=s:=by rw [←XL _ _ p2,c1]
  refine ⟨xs++[pl],us++cs,by simp [h1],fun y hy=> ?_,fun y hy=> ?_,by simp [h4,c1,yap],Ya h5 (by simpa [repCs] using p2),fun j u hu=> ?_⟩
  ·rcases List.mem_append.1 hy with hy|hy
   ·exact h2 y hy
   ·rw [yat.1 hy];exact p1
  ·rcases List.mem_append.1 hy with hy|hy
   ·exact h3 y hy
   ·rw [yat.1 hy];exact psz
  ·by_cases hj:j < us.length
   ·rw [yah hj] at hu;exact h6 j u hu
   ·rw [yak (by omega)] at hu
    have:=c2 _ _ hu
    rw [Addr.add_add] at this
    rw [←this]
    congr 2
    omega
theorem Zzo {e:TypeId} {n m:Nat} {s:Nat} {cs:List Value} {elems:List (DataW H×List MemPlace)} {len:Nat} (hlen:elems.length=len) (hcs:cs.length=len*s)
 (ih:∀(cs:List Value) (x:DataW H×List MemPlace),DataW.trod enc P w base sp held m e cs=some x→cs.length=s→∃pl,wtP P n e pl∧repC w Zw5 pl cs)
 (h:∀i,i < len→DataW.trod enc P w base sp held m e ((cs.drop (i*s)).take s)=elems[i]?):
 ∀k,k≤len→∃(xs:List Pl),xs.length=k∧(∀y,y∈xs→wtP P n e y)∧allSz s xs∧repCs w Zw5 xs (cs.take (k*s))
 |0,_=>⟨[],rfl,(fun y hy=>by cases hy),(fun y hy=>by cases hy),by simp [repCs]⟩
 |k+1,hk=>by
  obtain ⟨xs,h1,h2,h3,h5⟩:=Zzo hlen hcs ih h k (by omega)
  have hk':=h k (by omega)
  rw [yw (by omega)] at hk'
  have hle:k*s+s≤len*s:=by rw [←Nat.succ_mul];exact ybr _ hk
  have c1:((cs.drop (k*s)).take s).length=s:=by simp;omega
  obtain ⟨pl,p1,p2⟩:=ih _ _ hk' c1
  have psz:pl.size=s:=by rw [←XL _ _ p2,c1]
  refine ⟨xs++[pl],by simp [h1],fun y hy=> ?_,fun y hy=> ?_, ?_⟩
  ·rcases List.mem_append.1 hy with hy|hy
   ·exact h2 y hy
   ·rw [yat.1 hy];exact p1
  ·rcases List.mem_append.1 hy with hy|hy
   ·exact h3 y hy
   ·rw [yat.1 hy];exact psz
  ·rw [yap,Nat.one_mul,List.take_add]
   exact Ya h5 (by simpa [repCs] using p2)
theorem Zvt {n m:Nat} {cs:List Value}
 (ih:∀(t:TypeId),Yd P n t=true→∀(cs:List Value) (x:DataW H×List MemPlace),DataW.trod enc P w base sp held m t cs=some x→∃pl,wtP P n t pl∧repC w Zw5 pl cs):
 ∀(fs:List Field) (o:Nat),(∀f,f∈fs→Yd P n f.type=true)→(∀(j:Nat) f,fs[j]? =some f→f.offset=o+((fs.take j).map fun f=>P.cellsOf f.type).sum)→
  cs.length=o+(fs.map fun f=>P.cellsOf f.type).sum→(∀(j:Nat) f,fs[j]? =some f→∃x,DataW.trod enc P w base sp held m f.type ((cs.drop f.offset).take (P.cellsOf f.type))=some x)→
  ∃(xs:List Pl),ZH3 (wtP P n) fs xs∧repCs w Zw5 xs (cs.drop o)
 |[],o,_,_,hl,_=>⟨[],trivial,by simp only [repCs];apply List.drop_eq_nil_of_le;simp at hl;omega⟩
 |f::fs,o,hp,ho,hl,h=>by
  obtain ⟨x,hx⟩:=h 0 f rfl
  have ho0:=ho 0 f rfl
  simp at ho0
  rw [ho0] at hx
  obtain ⟨pl,p1,p2⟩:=ih f.type (hp f (yao ..)) _ _ hx
  simp only [yx,List.sum_cons] at hl
  obtain ⟨xs,q1,q2⟩:=Zvt ih fs (o+P.cellsOf f.type) (fun g hg=>hp g (yar _ hg)) (fun j g hg=>by
   have:=ho (j+1) g hg
   simp only [List.take_succ_cons,yx,List.sum_cons] at this
   omega) (by omega) (fun j g hg=>h (j+1) g hg)
  refine ⟨pl::xs,⟨p1,q1⟩, ?_⟩
  simp only [repCs]
  refine ⟨(cs.drop o).take (P.cellsOf f.type),(cs.drop o).drop (P.cellsOf f.type),(List.take_append_drop ..).symm,p2, ?_⟩
  rw [List.drop_drop]
  exact q2
theorem ZH4:∀(n m:Nat) (t:TypeId),Yd P n t=true→∀(cs:List Value) (x:DataW H×List MemPlace),DataW.trod enc P w base sp held m t cs=some x→∃pl,wtP P n t pl∧repC w Zw5 pl cs:=by
 intro n
 induction n with
 |zero=>intro m t h;simp [Yd] at h
 |succ n ih=>
  intro m t ht cs x h
  unfold Yd at ht
  split at ht
  ·rename_i hu
   obtain ⟨b,rfl,_⟩:=DataW.trod_bool hu h
   exact ⟨.bool b,by simp [wtP,hu],by simp [repC]⟩
  ·rename_i k hu
   obtain ⟨z,rfl,rfl,hw⟩:=DataW.trod_int hu h
   exact ⟨.int k z,by simp [wtP,hu,hw],by simp [repC]⟩
  ·rename_i hu
   obtain ⟨s,rfl,h2⟩:=DataW.trod_string hu h
   exact ⟨.str s,by simp [wtP,hu];exact h2.2,by simp [repC]⟩
  ·rename_i e hu
   simp only [yg,decide_eq_true_eq] at ht
   rcases DataW.trod_slice hu h with ⟨rfl,rfl⟩|⟨a,len,cap,elems,rest,m',rfl,rfl,rfl,_,hle,hcap,hlen,hel,_⟩
   ·exact ⟨.sl none (P.cellsOf e) [],by simp [wtP,hu],by simp only [repC];exact ⟨(fun y hy=>by cases hy),none,0,rfl,yi _,Nat.zero_le _,ZT _,fun _=>rfl,fun h=>absurd rfl h⟩⟩
   ·obtain ⟨xs,us,h1,h2,h3,h4,h5,h6⟩:=ZCs (n:=n) ht.2 hlen (fun cs x hx _=>ih m' e ht.1 cs x hx) hel len (yi _)
    refine ⟨.sl none (P.cellsOf e) xs,by simp only [wtP,hu];exact ⟨trivial,trivial,by omega,h2⟩, ?_⟩
    simp only [repC]
    refine ⟨h3,some a,cap,by rw [h1],by omega,hcap,ZT _,by simp,fun hne=> ?_⟩
    have hpos:0 < us.length:=by
     rw [h4]
     have:0 < len:=by rw [←h1];exact List.length_pos_iff.2 hne
     exact Nat.mul_pos this ht.2
    have hc0:=h6 0 us[0] (yw hpos)
    obtain ⟨b,o,spot⟩:=a
    have hspot:spot=none:=by
     cases spot with
     |none=>rfl
     |some z=>
      exfalso
      unfold World.cell? at hc0
      split at hc0
      ·simp [Addr.add] at hc0
      ·cases hc0
    subst hspot
    exact ⟨b,o,us,rfl,h5,fun j u hu=>⟨by have:=h6 j u hu;rwa [Addr.add_lit] at this,trivial⟩⟩
  ·rename_i k e hu
   simp only [yg,beq_iff_eq] at ht
   obtain ⟨elems,m',rfl,rfl,hl,hlen,hel⟩:=DataW.trod_array hu h
   obtain ⟨xs,h1,h2,h3,h4⟩:=Zzo (n:=n) (s:=P.cellsOf e) hlen (by rw [hl,ht.2]) (fun cs x hx _=>ih m' e ht.1 cs x hx) hel k (yi _)
   rw [List.take_of_length_le (by rw [hl,ht.2];exact yi _)] at h4
   exact ⟨.arr k (P.cellsOf e) xs,by simp only [wtP,hu];exact ⟨trivial,trivial,h1,h2⟩,by simp only [repC];exact ⟨h1,h3,h4⟩⟩
  ·rename_i fs hu
   simp only [yg,beq_iff_eq,yaw] at ht
   obtain ⟨⟨t1,t2⟩,t3⟩:=ht
   obtain ⟨elems,m',rfl,rfl,hl,hlen,hel⟩:=DataW.trod_struct hu h
   obtain ⟨xs,q1,q2⟩:=Zvt (n:=n) (m:=m') (cs:=cs) (fun t ht cs x hx=>ih m' t ht cs x hx) fs.toList 0 t1 (fun j f hf=>by
    have hj:j < fs.toList.length:=(yj.1 hf).1
    have:=t3 j (by simpa using hj)
    rw [hf] at this
    simpa using this) (by rw [hl,t2];omega) (fun j f hf=>by
    have hj:j < fs.toList.length:=(yj.1 hf).1
    have:=hel j f (by simpa using hf)
    rw [yw (by rw [hlen];simpa using hj)] at this
    exact ⟨_,this⟩)
   exact ⟨.agg xs,by simp only [wtP,hu];exact q1,by simp only [repC];simpa using q2⟩
  ·cases ht
end
end Go.Ev
namespace Go.Ev
open Go.RowKit Go.WideShapes Go.ChangeShapes
def ZH5 (P:Program) (n:Nat):List TypeId→List Pl→Prop
 |[],[]=>True
 |t::ts,x::xs=>wtP P n t x∧ZH5 P n ts xs
 |_,_=>False
section
variable {H:Type} {enc:TypeId×Value→H} {P:Program}
def sg0 (W:World):Sg:={ F:=Zw5,B:=fun b=>W.heap.size≤b,m:=[],H:=[],w:=W}
theorem ZJB (W:World):Ok (sg0 W) where
 len:=rfl
 inj i j b h:=by simp [sg0] at h
 lt i b h:=by simp [sg0] at h
 ent i e a h:=by simp [sg0] at h
 new b h:=h
 own i b h:=by simp [sg0] at h
theorem ZF1 (W:World) (b o:Nat):(sg0 W).stab b o:=⟨.inl trivial,fun id e h=>by simp [sg0] at h⟩
theorem Zsr {W:World} {x:Pl} {v:Value} {cs:List Value} (hx:repC W Zw5 x cs) (hc:v.cells.toList=cs) (hv:x.isAgg=true→∃a,v=.agg a) (hn:x.isAgg=false→cs=[v]):repDV (sg0 W) (.p x) v:=by
 have hm:repC W (sg0 W).stab x cs:=QE (fun b o u h _=>⟨h,ZF1 W b o⟩) x cs hx
 refine ⟨fun ha=> ?_,fun ha=> ?_⟩
 ·obtain ⟨a,rfl⟩:=hv ha
  refine ⟨a,rfl, ?_⟩
  simp only [repD]
  have:a.toList=cs:=by rw [←hc];rfl
  rw [this]
  exact hm
 ·simp only [repD]
  have e:=hn ha
  rw [←e]
  exact hm
theorem ZJC:∀{n:Nat} {t:TypeId} {x:Pl},wtP P n t x→x.isAgg=XG P t
 |0,_,_,h=>by simp [wtP] at h
 |n+1,t,x,h=>by
  unfold wtP at h
  split at h <;> rename_i hu <;> first|(simp [Pl.isAgg,XG,hu];done)|exact h.elim
theorem ZCt {W:World} {n:Nat} (hval:∀(t:TypeId) (v:Value),XG P t=true→Value.okWide P W .any 0 t v→∃a,v=.agg a):
 ∀(ts:List TypeId) (vs:List Value) (ds:List (DataW H)) (ps:List MemPlace),(∀t,t∈ts→Yd P n t=true)→(∀(j:Nat) t v,ts[j]? =some t→vs[j]? =some v→(XG P t=true→∃a,v=.agg a)∧(XG P t=false→v.cells.toList=[v]))→
  DataW.TrodAll enc P W 0 (fun _=>true) true ts vs ds ps→∃xs,ZH5 P n ts xs∧repVs (sg0 W) (xs.map .p) vs
 |[],[],[],_,_,_,_=>⟨[],trivial,by simp [repVs]⟩
 |[],_::_,_,_,_,_,h=>by simp [DataW.TrodAll] at h
 |[],[],_::_,_,_,_,h=>by simp [DataW.TrodAll] at h
 |_::_,[],_,_,_,_,h=>by simp [DataW.TrodAll] at h
 |_::_,_::_,[],_,_,_,h=>by simp [DataW.TrodAll] at h
 |t::ts,v::vs,d::ds,ps,hp,hv,h=>by
  obtain ⟨p,q,⟨fuel,h1⟩,h2,rfl⟩:=h
  obtain ⟨x,x1,x2⟩:=ZH4 n fuel t (hp t (yao ..)) _ _ h1
  obtain ⟨xs,xs1,xs2⟩:=ZCt hval ts vs ds q (fun u hu=>hp u (yar _ hu)) (fun j u w' hj hw=>hv (j+1) u w' hj hw) h2
  obtain ⟨v1,v2⟩:=hv 0 t v rfl rfl
  refine ⟨x::xs,⟨x1,xs1⟩, ?_⟩
  simp only [yx,repVs]
  have ha:=ZJC x1
  exact ⟨v,vs,rfl,Zsr x2 rfl (fun e=>v1 (by rw [←ha];exact e)) (fun e=>v2 (by rw [←ha];exact e)),xs2⟩
theorem Zld {W W':World} {sp':Nat→Bool} {n:Nat}:∀(ts:List TypeId) (vs:List Value) (ds:List (DataW H)) (ps:List MemPlace),(∀t,t∈ts→Yd P n t=true)→
 DataW.TrodAll enc P W 0 (fun _=>true) true ts vs ds ps→(∀p∈ps,W.sameAt W' p)→(∀p∈ps,sp' p.block=true)→DataW.TrodAll enc P W' 0 sp' true ts vs ds ps
 |[],[],[],_,_,h,_,_=>h
 |[],_::_,_,_,_,h,_,_=>by simp [DataW.TrodAll] at h
 |[],[],_::_,_,_,h,_,_=>by simp [DataW.TrodAll] at h
 |_::_,[],_,_,_,h,_,_=>by simp [DataW.TrodAll] at h
 |_::_,_::_,[],_,_,h,_,_=>by simp [DataW.TrodAll] at h
 |t::ts,v::vs,d::ds,ps,hp,h,hs,hb=>by
  obtain ⟨p,q,⟨fuel,h1⟩,h2,rfl⟩:=h
  refine ⟨p,q,⟨fuel, ?_⟩,Zld ts vs ds q (fun u hu=>hp u (yar _ hu)) h2 (fun z hz=>hs z (List.mem_append_right _ hz)) (fun z hz=>hb z (List.mem_append_right _ hz)),rfl⟩
  exact DataW.trod_stays (Zw4 P) (fun {t e} ⟨n,hn⟩ hu=>by
   cases n with
   |zero=>simp [Yd] at hn
   |succ n=>simp [Yd,hu] at hn;exact hn.2) (by simp) ⟨n,hp t (yao ..)⟩ h1 (fun z hz=>hs z (List.mem_append_left _ hz)) (fun z hz=>hb z (List.mem_append_left _ hz))
theorem Zzp {W:World} {σ':Sg} (h:To (sg0 W) σ'):Below W.heap.size W σ'.w:=
 ⟨h.os,h.tape,h.output,h.size,fun b hb=>h.block b hb (fun id=>by simp [sg0])⟩
theorem Zss {f:Func} {s:ChangeSpec} {apart fresh handsOn again:Bool} {W W':World} {args:Array Value} {v:Value} {ds gs:List (DataW H)} {before pa pv:List MemPlace}
 (hW:DataW.Whole enc P f.params.toList s.vars apart W args.toList ds gs before)
 (hres:∀(b:Nat) (sp:Nat→Bool) (hd:Bool),DataW.TrodAll enc P W' b sp hd f.resultTypes.toList (v.resultList f.resultTypes.size) (s.fn H (ds++gs)).results [])
 (hargs:∀sp:Nat→Bool,(∀p∈before,sp p.block=true)→DataW.TrodAll enc P W' 0 sp true f.params.toList args.toList (s.fn H (ds++gs)).args pa)
 (hvars:∀sp:Nat→Bool,(∀p∈before,sp p.block=true)→DataW.TrodVars enc P W' sp s.vars (s.fn H (ds++gs)).vars pv)
 (hps:before=pa++pv) (hb:Below W.heap.size W W')
 (hok:∀(j:Nat) (t:TypeId) (r:Value),f.resultTypes[j]? =some t→(v.resultList f.resultTypes.size)[j]? =some r→Value.okWide P W' .any 0 t r):
 s.post enc P f apart fresh handsOn again W args v W':=by
 have hlt:∀p∈before,p.block < W.heap.size:=fun p hp=>hW.lt p hp
 have hold:∀p∈before,(fun b=>decide (b < W.heap.size)) p.block=true:=fun p hp=>by simpa using hlt p hp
 refine ⟨ds,gs,before,[],pa,pv,hW,hres _ _ _,hargs _ hold,hvars _ hold,World.keptBut_mono (fun p hp=>⟨hp, ?_⟩) (hb.frame (· ∈before)),fun _=> ?_⟩
 ·rw [hps,List.mem_append] at hp
  exact Or.inr hp
 ·obtain ⟨_,_,_,_,_,hz,hn⟩:=hW
  refine ⟨hok,_,_,([]++pa)++pv,⟨[]++pa,pv,trodAll_append (hargs _ (fun _ _=>rfl)) (hres _ _ _),hvars _ (fun _ _=>rfl),rfl, ?_, ?_⟩, ?_⟩
  ·intro b off hp
   have hin:MemPlace.cell b off∈before:=by rw [hps];simpa using hp
   rw [hb.frozen (hlt _ hin)]
   exact hz b off hin
  ·intro ha
   have:=hn ha
   rw [hps] at this
   simpa using this
  ·intro p hp _
   rw [hps]
   simpa using hp
theorem Zw6 {f:FuncId} {fn:Func} {s:ChangeSpec} {n:Nat} {tb:TypeId} (hr:fn.resultTypes= #[tb]) (ht:P.underlying tb=some .bool) (hv:s.vars=[])
 (hs:∀ds:List (DataW H),ds.length=fn.params.toList.length→s.fn H ds={ results:=[.lit (.bool true)],args:=ds}) (hp:∀t,t∈fn.params.toList→Yd P n t=true)
 (W:World) (base:Nat) (args:Array Value) (ds gs:List (DataW H)) (before:List MemPlace)
 (hval:∀(j:Nat) t v,fn.params[j]? =some t→args[j]? =some v→Value.okWide P W .any base t v) (hW:DataW.Whole enc P fn.params.toList s.vars false W args.toList ds gs before)
 (hc:∀xs:List Pl,ZH5 P n fn.params.toList xs→repVs (sg0 W) (xs.map .p) args.toList→Con P f (xs.map .p) [] (.p (.bool true)) []):
 Calls P f args W fun e W'=>∃v,e=.returned v∧s.post enc P fn false true false false W args v W':=by
 have hW':=hW
 obtain ⟨p,q,hA,hV,rfl,hfz,hnd⟩:=hW
 rw [hv] at hV
 obtain ⟨rfl,rfl⟩:gs=[]∧q=[]:=by
  cases gs with
  |nil=>exact ⟨rfl,hV⟩
  |cons g r=>simp [DataW.TrodVars] at hV
 have hlen:=trodAll_length hA
 obtain ⟨xs,x1,x2⟩:=ZCt (enc:=enc) (P:=P) (W:=W) (n:=n) (fun t v ha hok=>by
  unfold Value.okWide at hok
  unfold XG at ha
  split at hok
  ·obtain ⟨cs,rfl,_⟩:=hok;exact ⟨cs,rfl⟩
  ·obtain ⟨cs,rfl,_⟩:=hok;exact ⟨cs,rfl⟩
  ·rename_i h1 h2
   split at ha
   ·rename_i fs hu;exact absurd hu (h1 fs)
   ·rename_i k e hu;exact absurd hu (h2 k e)
   ·cases ha) fn.params.toList args.toList ds p hp (fun j t v hj hvv=>by
  have hok:=hval j t v (by simpa using hj) (by simpa using hvv)
  refine ⟨fun ha=> ?_,fun ha=> ?_⟩
  ·unfold Value.okWide at hok
   unfold XG at ha
   split at hok
   ·obtain ⟨cs,rfl,_⟩:=hok;exact ⟨cs,rfl⟩
   ·obtain ⟨cs,rfl,_⟩:=hok;exact ⟨cs,rfl⟩
   ·rename_i h1 h2
    split at ha
    ·rename_i fs hu;exact absurd hu (h1 fs)
    ·rename_i k e hu;exact absurd hu (h2 k e)
    ·cases ha
  ·obtain ⟨m,hm⟩:∃m,Yd P (m+1) t=true:=by
    have:=hp t (ybu hj)
    cases n with
    |zero=>simp [Yd] at this
    |succ n=>exact ⟨n,this⟩
   unfold Value.okWide at hok
   unfold Yd at hm
   unfold XG at ha
   split at hm <;> rename_i hu <;> simp only [hu] at hok ha
   all_goals first
    |(cases ha;done)
    |(cases hm;done)
    |(unfold Cell.okWide Cell.ok at hok;simp only [hu] at hok;cases v <;> first|rfl|(simp at hok;done))) hA
 have hcall:=hc xs x1 x2 (sg0 W) args.toList (ZJB W) rfl x2
 rw [Array.toArray_toList] at hcall
 refine Calls.mono hcall ?_
 rintro e W' ⟨v,σ',rfl,rfl,hH,hto,hok,hrep⟩
 have hbv:v=.bool true:=by simpa [repDV,Dv.isAgg,Pl.isAgg,repD,repC] using hrep
 subst hbv
 have hb:=Zzp hto
 simp only [ybb] at hW'
 have hlt:=hW'.lt
 have hsame:∀z∈p,W.sameAt σ'.w z:=by
  intro z hz
  have hz':=hlt z hz
  cases z with
  |cell b o=>exact hb.cell (p:=⟨b,o,none⟩) hz'
  |map b=>exact hb.block b hz'
 have hfn:=hs ds hlen.2
 refine ⟨_,rfl,Zss (pa:=p) (pv:=[]) hW' (fun b sp hd=> ?_) (fun sp h=> ?_) (fun sp h=> ?_) (by simp) hb ?_⟩
 ·rw [ybb,hfn,hr]
  exact trodAll_cons_mk (shut_bool ht _) trodAll_mk0
 ·rw [ybb,hfn]
  exact Zld fn.params.toList args.toList ds p hp hA hsame h
 ·rw [ybb,hfn,hv]
  rfl
 ·intro j t r hj hjr
  rw [hr] at hj hjr
  cases j with
  |zero=>
   simp at hj
   subst hj
   have:r=.bool true:=by simpa [Value.resultList] using hjr.symm
   subst this
   exact okWide_bool_mk ht _
  |succ j=>simp at hj
end
end Go.Ev
namespace Go.Ev
end Go.Ev
end
section
namespace Go.Ev
mutual
def Ty.Wf:(t:Ty)→t.den→Prop
 |.int k,n=>(Lit.int k n).wf=true
 |.u8,_=>True
 |.u32,_=>True
 |.u64,_=>True
 |.bool,_=>True
 |.str,s=>s.size≤maxLen
 |.sl t,l=>List.length l≤maxLen∧∀x,List.Mem x l→Ty.Wf t x
 |.arr n t,l=>List.length l=n∧∀x,List.Mem x l→Ty.Wf t x
 |.st fs,x=>Ty.Wfs fs x
def Ty.Wfs:(fs:List Ty)→Ty.dens fs→Prop
 |[],_=>True
 |[t],x=>Ty.Wf t x
 |t::u::r,x=>Ty.Wf t x.1∧Ty.Wfs (u::r) x.2
end
mutual
def ZBd (P:Program):Nat→TypeId→Ty→Bool
 |0,_,_=>false
 |n+1,t,T=>match P.underlying t,T with
  |some (.int .u8),.u8=>true
  |some (.int .u32),.u32=>true
  |some (.int .u64),.u64=>true
  |some (.int k),.int k'=>decide (k=k')
  |some .bool,.bool=>true
  |some .string,.str=>true
  |some (.slice e),.sl T'=>P.cellsOf e==T'.size&&ZBd P n e T'
  |some (.array m e),.arr m' T'=>m==m'&&(P.cellsOf e==T'.size&&ZBd P n e T')
  |some (.struct fs),.st Ts=>tyOks P n fs.toList Ts
  |_,_=>false
def tyOks (P:Program):Nat→List Field→List Ty→Bool
 |0,_,_=>false
 |_+1,[],[]=>true
 |n+1,f::fs,T::Ts=>ZBd P n f.type T&&tyOks P n fs Ts
 |_+1,_,_=>false
end
theorem ZKp {m:Int} (h:(Lit.int .u8 m).wf=true):∃b:UInt8,m=(b.toNat:Int):=by
 simp only [Lit.wf,yg,decide_eq_true_eq] at h
 have h1:(0:Int)≤m:=h.1
 have h2:m≤255:=h.2
 refine ⟨UInt8.ofNat m.toNat, ?_⟩
 have:(UInt8.ofNat m.toNat).toNat=m.toNat:=by simp;omega
 rw [this]
 omega
theorem ZJD {m:Int} (h:(Lit.int .u32 m).wf=true):∃b:UInt32,m=(b.toNat:Int):=by
 simp only [Lit.wf,yg,decide_eq_true_eq] at h
 have h1:(0:Int)≤m:=h.1
 have h2:m≤4294967295:=h.2
 refine ⟨ybh m.toNat, ?_⟩
 have:(ybh m.toNat).toNat=m.toNat:=by simp;omega
 rw [this]
 omega
theorem ZJE {m:Int} (h:(Lit.int .u64 m).wf=true):∃b:UInt64,m=(b.toNat:Int):=by
 simp only [Lit.wf,yg,decide_eq_true_eq] at h
 have h1:(0:Int)≤m:=h.1
 have h2:m≤18446744073709551615:=h.2
 refine ⟨yaf m.toNat, ?_⟩
 have:(yaf m.toNat).toNat=m.toNat:=by simp;omega
 rw [this]
 omega
theorem ZBe {α β:Type} {f:α→β} {R:α→Prop}:∀{ys:List β},(∀y,y∈ys→∃x,y=f x∧R x)→∃l:List α,ys=l.map f∧∀x,List.Mem x l→R x
 |[],_=>⟨[],rfl,fun x hx=>by cases hx⟩
 |y::ys,h=>by
  obtain ⟨x,rfl,hx⟩:=h y (yao ..)
  obtain ⟨l,rfl,hl⟩:=ZBe (fun z hz=>h z (yar _ hz))
  exact ⟨x::l,rfl,fun z hz=>by
   cases hz with
   |head=>exact hx
   |tail _ hz=>exact hl z hz⟩
mutual
theorem Zvu {P:Program}:∀(m n:Nat) (t:TypeId) (T:Ty) (x:Pl),ZBd P m t T=true→wtP P n t x→∃v:T.den,T.Wf v∧x=T.enc v
 |0,_,_,_,_,h,_=>by simp [ZBd] at h
 |_+1,0,_,_,_,_,h=>by simp [wtP] at h
 |m+1,n+1,t,T,x,h,hw=>by
  unfold ZBd at h
  split at h
  ·rename_i hu
   unfold wtP at hw
   rw [hu] at hw
   cases x <;> try exact hw.elim
   obtain ⟨rfl,h2⟩:=hw
   obtain ⟨b,rfl⟩:=ZKp h2
   exact ⟨b,trivial,rfl⟩
  ·rename_i hu
   unfold wtP at hw
   rw [hu] at hw
   cases x <;> try exact hw.elim
   obtain ⟨rfl,h2⟩:=hw
   obtain ⟨b,rfl⟩:=ZJD h2
   exact ⟨b,trivial,rfl⟩
  ·rename_i hu
   unfold wtP at hw
   rw [hu] at hw
   cases x <;> try exact hw.elim
   obtain ⟨rfl,h2⟩:=hw
   obtain ⟨b,rfl⟩:=ZJE h2
   exact ⟨b,trivial,rfl⟩
  ·rename_i k k' hu
   have h:=of_decide_eq_true h
   subst h
   unfold wtP at hw
   rw [hu] at hw
   cases x <;> try exact hw.elim
   obtain ⟨rfl,h2⟩:=hw
   exact ⟨_,h2,rfl⟩
  ·rename_i hu
   unfold wtP at hw
   rw [hu] at hw
   cases x <;> try exact hw.elim
   exact ⟨_,trivial,rfl⟩
  ·rename_i hu
   unfold wtP at hw
   rw [hu] at hw
   cases x <;> try exact hw.elim
   exact ⟨_,hw,rfl⟩
  ·rename_i e T' hu
   simp only [yg,beq_iff_eq] at h
   unfold wtP at hw
   rw [hu] at hw
   cases x <;> try exact hw.elim
   obtain ⟨rfl,rfl,h3,h4⟩:=hw
   obtain ⟨l,rfl,h5⟩:=ZBe fun y hy=>(by
    obtain ⟨v,a,b⟩:=Zvu m n e T' y h.2 (h4 y hy)
    exact ⟨v,b,a⟩:∃v:T'.den,y=T'.enc v∧T'.Wf v)
   refine ⟨l,⟨by simpa using h3,h5⟩, ?_⟩
   rw [h.1]
   rfl
  ·rename_i m0 e m' T' hu
   simp only [yg,beq_iff_eq] at h
   obtain ⟨rfl,h⟩:=h
   unfold wtP at hw
   rw [hu] at hw
   cases x <;> try exact hw.elim
   obtain ⟨rfl,rfl,h3,h4⟩:=hw
   obtain ⟨l,rfl,h5⟩:=ZBe fun y hy=>(by
    obtain ⟨v,a,b⟩:=Zvu m n e T' y h.2 (h4 y hy)
    exact ⟨v,b,a⟩:∃v:T'.den,y=T'.enc v∧T'.Wf v)
   refine ⟨l,⟨by simpa using h3,h5⟩, ?_⟩
   rw [h.1]
   rfl
  ·rename_i fs Ts hu
   unfold wtP at hw
   rw [hu] at hw
   cases x <;> try exact hw.elim
   rename_i xs
   obtain ⟨v,h1,rfl⟩:=wt_tys m n fs.toList Ts xs h hw
   exact ⟨v,h1,rfl⟩
  ·cases h
theorem wt_tys {P:Program}:∀(m n:Nat) (fs:List Field) (Ts:List Ty) (xs:List Pl),tyOks P m fs Ts=true→ZH3 (wtP P n) fs xs→∃v:Ty.dens Ts,Ty.Wfs Ts v∧xs=Ty.encs Ts v
 |0,_,_,_,_,h,_=>by simp [tyOks] at h
 |m+1,n,[],[],[],h,hw=>⟨(),trivial,rfl⟩
 |m+1,n,[],[],_::_,h,hw=>hw.elim
 |m+1,n,[],_::_,_,h,hw=>by cases h
 |m+1,n,_::_,[],_,h,hw=>by cases h
 |m+1,n,_::_,_::_,[],h,hw=>hw.elim
 |m+1,n,f::fs,[T],x::xs,h,hw=>by
  simp only [tyOks,yg] at h
  obtain ⟨v,h1,rfl⟩:=Zvu m n f.type T x h.1 hw.1
  cases fs with
  |nil=>cases xs with
   |nil=>exact ⟨v,h1,rfl⟩
   |cons _ _=>exact hw.2.elim
  |cons _ _=>
   cases m with
   |zero=>exact absurd h.2 (by simp [tyOks])
   |succ m=>exact absurd h.2 (by simp [tyOks])
 |m+1,n,f::fs,T::U::Ts,x::xs,h,hw=>by
  simp only [tyOks,yg] at h
  obtain ⟨v,h1,rfl⟩:=Zvu m n f.type T x h.1 hw.1
  obtain ⟨w,h2,rfl⟩:=wt_tys m n fs (U::Ts) xs h.2 hw.2
  exact ⟨(v,w),⟨h1,h2⟩,rfl⟩
end
theorem Zvv {I X:Type} {step:I→Option (I⊕X)} (Inv:I→Prop) (mu:I→Nat) (Post:X→Prop)
 (h:∀i,Inv i→(∃j,step i=some (.inl j)∧Inv j∧mu j < mu i)∨(∃x,step i=some (.inr x)∧Post x)):∀(n:Nat) (i:I),Inv i→mu i < n→∃x,Zc step n i=some x∧Post x
 |0,i,_,hn=>by omega
 |n+1,i,hi,hn=>by
  unfold Zc
  rcases h i hi with ⟨j,h1,h2,h3⟩|⟨x,h1,h2⟩
  ·rw [h1,yb]
   exact Zvv Inv mu Post h n j h2 (by omega)
  ·rw [h1,yb]
   exact ⟨x,rfl,h2⟩
theorem WB {I X:Type} {step:I→Option (I⊕X)} (Inv:I→Prop) (mu:I→Nat) (Post:X→Prop)
 (h:∀i,Inv i→(∃j,step i=some (.inl j)∧Inv j∧mu j < mu i)∨(∃x,step i=some (.inr x)∧Post x)) (i:I) (hi:Inv i) (hm:mu i < 18446744073709551616):∃x,Zc step fuel i=some x∧Post x:=by
 refine Zvv Inv mu Post h fuel i hi ?_
 rw [Zbo]
 exact hm
theorem Zy {z:Int} (h1: -9223372036854775808≤z) (h2:z≤9223372036854775807):wi z=z:=by
 simp only [wi,IntKind.wrap,IntKind.signed,IntKind.bits]
 simp
 omega
theorem ZgN {α:Type} {l:List α} {i:Int} {y:α} (h0:0≤i) (h:l[i.toNat]? =some y):idx l i=some y:=by
 unfold idx
 rw [if_pos h0,h]
theorem Za7 {α:Type} {l:List α} {i:Nat} (h:i < l.length):∃y,l[i]? =some y:=⟨_,yw h⟩
theorem YP {i:Int} {n:Nat} (h1:0≤i) (h2:i < (n:Int)):inB i n=true:=by simp [inB,h1,h2]
theorem Yy {n m b:Nat} (h1:(n+m)*b≤140737488355328) (h2:n+m≤9223372036854775807):apB n m b=true:=by
 unfold apB
 rw [yg]
 exact ⟨decide_eq_true h1,decide_eq_true h2⟩
end Go.Ev
end
section
namespace Go.Ev
def tdv:(ts:List Ty)→Ty.dens ts→List TD
 |[],_=>[]
 |[t],x=>[.p (.v t x)]
 |t::u::r,x=>.p (.v t x.1)::tdv (u::r) x.2
theorem ZCu:∀(ts:List Ty) (x:Ty.dens ts),Sh.fills (ts.map .v) (ofD ts x)=some (tdv ts x,[])
 |[],_=>rfl
 |[t],x=>by
  rw [show ofD [t] x=[⟨t,x⟩] from rfl,yx,List.map_nil,Sh.fills,Sh.fill]
  have e:=Y2 t x
  dsimp only
  rw [e]
  rfl
 |t::u::r,x=>by
  have h:=ZCu (u::r) x.2
  have e:=Y2 t x.1
  rw [show ofD (t::u::r) x=⟨t,x.1⟩::ofD (u::r) x.2 from rfl,yx,Sh.fills,Sh.fill]
  dsimp only
  rw [e,yy,yb,h]
  rfl
theorem ZF2 {L:Lk}:∀(ts:List Ty) (x:Ty.dens ts),TD.ers L (tdv ts x)=(Ty.encs ts x).map .p
 |[],_=>rfl
 |[t],x=>rfl
 |t::u::r,x=>by
  rw [show tdv (t::u::r) x=.p (.v t x.1)::tdv (u::r) x.2 from rfl,ZB,yx, ←ZB,ZF2 (u::r) x.2]
  rfl
theorem ZH6 {P:Program} {g:FuncId} {ts:List Ty} {M:Ty.dens ts→Option Bool} (hok:Fs.Ok (⟨g,ts.map .v,[],ts,[⟨.ret,[(0,.v .bool)],[],[.bool]⟩],M⟩:Fs P)) {x:Ty.dens ts} (h:M x=some true):
 Con P g ((Ty.encs ts x).map .p) [] (.p (.bool true)) []:=by
 obtain ⟨args,R,H,h1,h2,h3⟩:=hok x true h
 have e:=(ZCu ts x).symm.trans (show Sh.fills (ts.map .v) (ofD ts x)=some (args,R) from h1)
 cases e
 cases h2
 obtain ⟨r,h4,h5⟩:=h3 _ [⟨.bool,true⟩] ([.p (.v .bool true)],[]) ⟨rfl,rfl⟩ (by
  simp only [V8,shs]
  rfl)
 cases h4
 rw [←ZF2 (L:=lk [])]
 exact h5
theorem Zl0 {P:Program} {s:Fs P} (h:s.Ok) {M:Ty.dens s.ins→Option (XSh.sum s.xs)} (e:∀x,M x=s.M x):Fs.Ok (P:=P) { s with M:=M}:=by
 have:M=s.M:=funext e
 subst this
 exact h
def Zst (P:Program) (m:Nat):List TypeId→List Ty→Bool
 |[],[]=>true
 |t::ts,T::Ts=>ZBd P m t T&&Zst P m ts Ts
 |_,_=>false
theorem ZCv {P:Program} {m n:Nat}:∀{ts:List TypeId} {Ts:List Ty} {xs:List Pl},Zst P m ts Ts=true→ZH5 P n ts xs→∃v:Ty.dens Ts,Ty.Wfs Ts v∧xs=Ty.encs Ts v
 |[],[],[],_,_=>⟨(),trivial,rfl⟩
 |[],[],_::_,_,h=>h.elim
 |[],_::_,_,h,_=>by cases h
 |_::_,[],_,h,_=>by cases h
 |_::_,_::_,[],_,h=>h.elim
 |t::ts,[T],x::xs,h,hw=>by
  simp only [Zst,yg] at h
  obtain ⟨v,h1,rfl⟩:=Zvu m n t T x h.1 hw.1
  cases ts with
  |nil=>cases xs with
   |nil=>exact ⟨v,h1,rfl⟩
   |cons _ _=>exact hw.2.elim
  |cons _ _=>exact absurd h.2 (by simp [Zst])
 |t::ts,T::U::Ts,x::xs,h,hw=>by
  simp only [Zst,yg] at h
  obtain ⟨v,h1,rfl⟩:=Zvu m n t T x h.1 hw.1
  obtain ⟨w,h2,rfl⟩:=ZCv (Ts:=U::Ts) h.2 hw.2
  exact ⟨(v,w),⟨h1,h2⟩,rfl⟩
end Go.Ev
end
section
namespace Go.Ev
theorem Zw7 {P:Program} {g:FuncId} {t:Ty} {xs:List XSh} {MA M:Ty.dens [.sl t]→Option (XSh.sum xs)} (hA:Fs.Ok (⟨g,[.sl true t],[],[.sl t],xs,MA⟩:Fs P))
 (h1:M ([]:List t.den)=none) (h2:∀(x:t.den) (l:List t.den),M (x::l)=MA (x::l)):Fs.Ok (⟨g,[.v (.sl t)],[],[.sl t],xs,M⟩:Fs P):=by
 intro l o hM
 have key:∀(l:List t.den),Ty.cast (.sl t) (.sl t) l=some l:=fun l=>Y2 (.sl t) l
 have h3:∀l:List t.den,M l=some o→MA l=some o∧l≠[]:=fun l hl=>by
  cases l with
  |nil=>rw [h1] at hl;cases hl
  |cons x l=>exact ⟨by rw [←h2];exact hl,by simp⟩
 obtain ⟨hMA,hne⟩:=h3 l hM
 obtain ⟨a1,R1,H1,f1,f2,f3⟩:=hA l o hMA
 have e1:a1=[.p (.sl (some true) t l)]∧R1=[]:=by
  have:Sh.fills [.sl true t] [(⟨.sl t,l⟩:TV)]=some (a1,R1):=f1
  simp only [Sh.fills,Sh.fill] at this
  rw [key l] at this
  have this:some (([.p (.sl (some true) t l)]:List TD),([]:List TV))=some (a1,R1):=this
  cases this
  exact ⟨rfl,rfl⟩
 obtain ⟨rfl,rfl⟩:=e1
 cases f2
 refine ⟨[.p (.v (.sl t) l)],[],[], ?_,rfl,fun e vs s' hs hf=> ?_⟩
 ·show Sh.fills [.v (.sl t)] [(⟨.sl t,l⟩:TV)]=_
  simp only [Sh.fills,Sh.fill]
  rw [key l]
  rfl
 ·obtain ⟨r,r1,r2⟩:=f3 e vs s' hs hf
  exact ⟨r,r1,ZBO (xs:=List.map t.enc l) r2 fun hl=>absurd (List.map_eq_nil_iff.1 hl) hne⟩
end Go.Ev
end
section
namespace Go.Proofs.YtmkgbalfkhaflaaGreat
open Go.Ev Go.RowKit Go.Lib
theorem ZBf (w:World):Calls ya 178 #[.slice none 0 0,.int .i64 0] w fun e w'=>e=.returned (.slice none 0 0)∧w'=w:=by
 go_enter Tryz.func178,Tryz.ntmps178
 go_wp2
 go_ret
 exact ⟨rfl,rfl⟩
theorem ZDX (n:Nat) (w:World) (h0:0 < n) (hn:n≤Zp):Calls ya 178 #[.slice none 0 0,.int .i64 n] w fun e w'=>e=.returned (.slice (some ⟨w.heap.size,0,none⟩) 0 (grownCap w n 0 5))∧
 w'=w.drew.alloc (.cells (Builtin.zeroCells #[.int .u8 0] n++Builtin.zeroCells #[.int .u8 0] (grownCap w n 0 5 - n)) 5):=by
 have hb:n≤140737488355328:=hn
 have h1:¬((n:Int) < 0):=by omega
 have h3:wrap64 ((n:Int) - ((0:Int) - (0:Int)))=(n:Int):=by unfold wrap64;omega
 have h3':wrap64 ((n:Int) - 0)=(n:Int):=by unfold wrap64;omega
 have h3'':wrap64 (n:Int)=(n:Int):=by unfold wrap64;omega
 have h4:(n:Int) > 0:=by omega
 have hi:∃i,ya.info? 5=some i∧i.zero=some (.int .u8 0)∧i.size=1∧i.bytes=1:=by
  have h:(ya.info? 5).map (fun i=>(i.zero,i.size,i.bytes))=some (some (.int .u8 0),1,1):=by kernel_rfl
  obtain ⟨i,h1,h2⟩:=Option.map_eq_some_iff.1 h
  simp only [Prod.mk.injEq] at h2
  exact ⟨i,h1,h2.1,h2.2.1,h2.2.2⟩
 obtain ⟨i,hi1,hi2,hi3,hi4⟩:=hi
 have hrz:∀ty,(Builtin.append_ #[74,3] ty #[.slice none 0 0,.int .i64 n]).run ya w=
  .ok (.slice (some ⟨w.heap.size,0,none⟩) n (grownCap w n 0 5)) (w.drew.alloc (.cells (Builtin.zeroCells #[.int .u8 0] n++Builtin.zeroCells #[.int .u8 0] (grownCap w n 0 5 - n)) 5)):=fun ty=>by
  have h:=Lib.run_append_grow_zeros (P:=ya) w 74 3 ty 5 i (.int .u8 0) .i64 .i64 Tryz.underlying74 Tryz.underlying3 hi1 hi2 none 0 0 [] (by rw [hi3];simp [Builtin.firstCells]) n h0 (by omega) (by omega) (by omega)
   (by rw [hi4];omega) (by rw [yax];exact growslice_fits h0 (by rw [hi4];omega))
  simpa [Value.cells] using h
 obtain ⟨G,hG⟩:∃G,G=grownCap w n 0 5:=⟨_,rfl⟩
 have hGn:=grownCap_ge w n 0 5
 have hG63:=grownCap_le_maxLen w n 0 5 (by unfold maxLen;omega)
 unfold maxLen at hG63
 rw [←hG] at hrz hGn hG63 ⊢
 clear hG
 go_enter Tryz.func178,Tryz.ntmps178
 go_wp2_with (at_builtin;refine Lib.wpList_append_run _ rfl _ _ _ _ rfl _ _ rfl rfl _ _ (hrz _) ?_)
 all_goals (go_ret;exact ⟨rfl,rfl⟩)
theorem ZF3 (n:Nat) (hn:n≤Zp):Con ya 178 [.p (.sl (some false) 1 []),.p (.int .i64 (n:Int))] [] (.own 0 none 1 []) [.log 1 5 []]:=by
 intro σ vs ok hH hvs
 simp only [repVs] at hvs
 obtain ⟨v,_,rfl,hv,v2,_,rfl,hv2,rfl⟩:=hvs
 obtain rfl:=Zpf hv
 obtain rfl:v2=.int .i64 n:=by
  have:=hv2.2 rfl
  simpa [repD,repC] using this
 have hm:σ.m=[]:=List.eq_nil_of_length_eq_zero (by rw [ok.len,hH];rfl)
 rcases ybx n with rfl|h0
 ·refine (ZBf σ.w).mono fun e w' ⟨he,hw⟩=> ?_
  subst he;subst hw
  obtain ⟨to,ok'⟩:=X6 (σ':={ σ with m:=σ.m++[none],H:=σ.H++[.log 1 5 []]}) ok rfl rfl rfl rfl (World.grownBy.refl σ.w none) (.inl rfl) (fun _=>.inl ⟨rfl,rfl⟩)
  refine ⟨_,{ σ with m:=σ.m++[none],H:=σ.H++[.log 1 5 []]},rfl,rfl,by simp [hH],to,ok', ?_⟩
  rw [Zd rfl]
  simp only [repD]
  exact ⟨fun _ hx=>(by cases hx),none,0,rfl,yi _,by simp [maxLen],ZT _,fun _=>rfl,fun h=>absurd rfl h,5,[],by simp [hH],yi _,fun _=>.inl ⟨by simp [hm],rfl,rfl⟩⟩
 ·refine (ZDX n σ.w h0 hn).mono fun e w' ⟨he,hw⟩=> ?_
  subst he;subst hw
  have hge:=grownCap_ge σ.w n 0 5
  have hcm:=grownCap_le_maxLen σ.w n 0 5 (by have:n≤140737488355328:=hn;unfold maxLen;omega)
  have hsz:(Builtin.zeroCells #[.int .u8 0] n++Builtin.zeroCells #[.int .u8 0] (grownCap σ.w n 0 5 - n):Array Value).size=grownCap σ.w n 0 5*1:=by
   simp only [Array.size_append,size_zeroCells]
   simp
   omega
  let cs:Array Value:=Builtin.zeroCells #[.int .u8 0] n++Builtin.zeroCells #[.int .u8 0] (grownCap σ.w n 0 5 - n)
  let σ':Sg:={ σ with m:=σ.m++[some σ.w.heap.size],H:=σ.H++[.log 1 5 []],w:=σ.w.drew.alloc (.cells cs 5)}
  have hblk:σ'.w.heap[σ.w.heap.size]? =some (.cells cs 5 (0,0)):=heap_alloc_new σ.w.drew _
  obtain ⟨to,ok'⟩:=X6 (σ':=σ') ok rfl rfl rfl rfl (YB σ.w (.cells cs 5) none) (.inr ⟨_,rfl,yi _,by simp [σ']⟩)
   (fun leaf=>.inr ⟨σ.w.heap.size,_,grownCap σ.w n 0 5,rfl,hblk,hsz,Nat.zero_le _,hcm,fun _ hx=>(by cases hx),by simp [repCs]⟩)
  refine ⟨_,σ',rfl,rfl,by simp [σ',hH],to,ok', ?_⟩
  rw [Zd rfl]
  simp only [repD]
  exact ⟨fun _ hx=>(by cases hx),_,_,rfl,Nat.zero_le _,hcm,ZT _,fun h=>(by cases h),fun h=>absurd rfl h,5,[],by simp [σ',hH],yi _,fun _=>.inr ⟨_,_,by simp [σ',hm],rfl,hblk,hsz⟩⟩
end Go.Proofs.YtmkgbalfkhaflaaGreat
end
section
set_option maxRecDepth 4000
namespace Go.Proofs.YtmkgbalfkhaflaaGreat
open Go Go.Ev
noncomputable section
abbrev Xk:Ty:=(.st [(.int .i64),(.int .i64),(.int .i64),.u64,(.int .i64)])
abbrev ZS:Type:=(Int×Int×Int×UInt64×Int)
abbrev W5:Ty:=(.st [.u64,.u64])
abbrev Sig:Type:=(UInt64×UInt64)
abbrev Sig.R (x:Sig):UInt64:=x.1
abbrev Sig.S (x:Sig):UInt64:=x.2
abbrev Xt:Ty:=(.st [(.arr 32 .u8),(.int .i64)])
abbrev XQ:Type:=((List UInt8)×Int)
abbrev XQ.N (x:XQ):Int:=x.2
abbrev Zsu:Ty:=(.st [(.int .i64),(.sl W5),.u64])
abbrev ZqY:Type:=(Int×(List Sig)×UInt64)
abbrev ZqY.Branch (x:ZqY):Int:=x.1
abbrev yIn:Ty:=(.st [Xt,Zsu])
abbrev In:Type:=(XQ×ZqY)
abbrev Zw:Ty:=(.st [(.sl .u64),(.int .i64),(.int .i64),.u64])
abbrev ZO:Type:=((List UInt64)×Int×Int×UInt64)
abbrev ZK:Ty:=(.st [(.sl Zw)])
abbrev Lock:Type:=(List ZO)
abbrev ZU:Ty:=(.st [(.int .i64),ZK])
abbrev Out:Type:=(Int×Lock)
abbrev Out.Lock (x:Out):Lock:=x.2
abbrev yTx:Ty:=(.st [(.sl yIn),(.sl ZU),(.int .i64)])
abbrev Tx:Type:=((List In)×(List Out)×Int)
abbrev Vn:Ty:=(.st [.u64,.u64,.u64,.u64,.u64])
abbrev WC:Type:=(UInt64×UInt64×UInt64×UInt64×UInt64)
abbrev WC.Cond (x:WC):UInt64:=x.2.2.2.1
abbrev Zcg:Ty:=(.st [(.int .i64),(.int .i64),(.int .i64),(.int .i64),(.int .i64),(.int .i64)])
abbrev VF:Type:=(Int×Int×Int×Int×Int×Int)
abbrev Zqe:Ty:=(.st [(.int .i64),(.int .i64),(.int .i64),Xk,.u64,(.sl .u8),(.int .i64),W5,(.arr 32 .u8),.u64,yTx,Vn,Zcg,(.sl .u8)])
abbrev Msg:Type:=(Int×Int×Int×ZS×UInt64×(List UInt8)×Int×Sig×(List UInt8)×UInt64×Tx×WC×VF×(List UInt8))
abbrev Msg.Cond (x:Msg):ZS:=x.2.2.2.1
abbrev Msg.Sig (x:Msg):Sig:=x.2.2.2.2.2.2.2.1
abbrev Msg.Sum (x:Msg):(List UInt8):=x.2.2.2.2.2.2.2.2.1
abbrev Msg.Tx (x:Msg):Tx:=x.2.2.2.2.2.2.2.2.2.2.1
abbrev Msg.Basics (x:Msg):WC:=x.2.2.2.2.2.2.2.2.2.2.2.1
abbrev Msg.Terms (x:Msg):VF:=x.2.2.2.2.2.2.2.2.2.2.2.2.1
abbrev Msg.Bytes (x:Msg):(List UInt8):=x.2.2.2.2.2.2.2.2.2.2.2.2.2
def ZhD (F:Nat) (a0:Msg) (s0:Int):Option ((Bool×Int)):=
 some (a0.1==s0,s0)
def Zm2 (F:Nat):Fs ya:=⟨100,[.v Zqe,.ref 0 []],[.var (.v (.int .i64)) true],[Zqe,(.int .i64)],[⟨.ret,[(0,.v .bool)],[.var (.v (.int .i64)) true],[.bool,(.int .i64)]⟩],fun x=>ZhD F x.1 x.2⟩
def Zf0:Fs ya:=Zm2 fuel
theorem Zm3:Zf0.Ok:=Ze (fi:={ hi:={ still:=[3]},lp:=[]}) (specs:={ l:=[]}) (okS trivial) trivial (by decide+kernel) (fun x=>by kernel_rfl)
def ZpA (F:Nat) (s:((List Msg)×Int×Int×Int)):Option (((List Msg)×Int×Int×Int)⊕((Int×Int)⊕Int)):=
 if (decide (s.2.2.1 < s.2.1))=true then
  (idx s.1 s.2.2.1).bind fun e1=>
  (ZhD F e1 s.2.2.2).bind fun o2=>
  if o2.1=true then
   some (.inr (.inl (s.2.2.1,o2.2)))
  else
  some (.inl (s.1,s.2.1,wi (s.2.2.1+1),o2.2))
 else
 some (.inr (.inr s.2.2.2))
def Zsv:Lp:=⟨[(0,.v (.sl Zqe)),(1,.fn 100 [.ref 0 []]),(7,.v (.int .i64)),(8,.v (.int .i64))],[.var (.v (.int .i64)) true],[(.sl Zqe),(.int .i64),(.int .i64),(.int .i64)],[⟨.ret,[(4,.v (.int .i64))],[.var (.v (.int .i64)) true],[(.int .i64),(.int .i64)]⟩,⟨.exit 0,[],[.var (.v (.int .i64)) true],[(.int .i64)]⟩],Zc (ZpA fuel) fuel⟩
theorem Zt7:Zsv.Ok ya (Zl ya 99) (Zk ya 99 0):=Zg (fi:={ hi:={ still:=[4,15]},lp:=[]}) (specs:={ l:=[Zf0]}) (okS ⟨Zm3,trivial⟩) trivial (by kernel_rfl) (fun v=>by kernel_rfl)
def Zzq (F:Nat) (a0:(List Msg)) (s0:Int):Option ((Int×Int)):=
 (Zc (ZpA F) F (a0,(a0.length:Int),(0:Int),s0)).bind fun o3=>
 match o3 with
 |.inl o4=>
  some (o4.1,o4.2)
 |.inr o5=>
  some ((-1:Int),o5)
def ZBg (F:Nat):Fs ya:=⟨99,[.v (.sl Zqe),.fn 100 [.ref 0 []]],[.var (.v (.int .i64)) true],[(.sl Zqe),(.int .i64)],[⟨.ret,[(0,.v (.int .i64))],[.var (.v (.int .i64)) true],[(.int .i64),(.int .i64)]⟩],fun x=>Zzq F x.1 x.2⟩
def Zvw:Fs ya:=ZBg fuel
theorem ZBh:Zvw.Ok:=Ze (fi:={ hi:={ still:=[4,15]},lp:=[(0,Zsv)]}) (specs:={ l:=[]}) (okS trivial) ⟨Zt7,trivial⟩ (by decide+kernel) (fun x=>by kernel_rfl)
def Zt8 (F:Nat) (a0:(List Msg)) (a1:Int):Option ((Msg×Bool)):=
 (Zzq F a0 a1).bind fun o8=>
 if (decide (o8.1 < 0))=true then
  some (((0:Int),(0:Int),(0:Int),((0:Int),(0:Int),(0:Int),(0:UInt64),(0:Int)),(0:UInt64),([]:List UInt8),(0:Int),((0:UInt64),(0:UInt64)),([0,0,0,0,0,0,0,0,0,0,0,0,0,0,0,0,0,0,0,0,0,0,0,0,0,0,0,0,0,0,0,0]:List UInt8),(0:UInt64),(([]:List In),([]:List Out),(0:Int)),((0:UInt64),(0:UInt64),(0:UInt64),(0:UInt64),(0:UInt64)),((0:Int),(0:Int),(0:Int),(0:Int),(0:Int),(0:Int)),([]:List UInt8)),false)
 else
 (idx a0 o8.1).bind fun e9=>
 some (e9,true)
def Zch (F:Nat):Fs ya:=⟨43,[.v (.sl Zqe),.v (.int .i64)],[],[(.sl Zqe),(.int .i64)],[⟨.ret,[(0,.tup [.v Zqe,.v .bool])],[],[Zqe,.bool]⟩],fun x=>Zt8 F x.1 x.2⟩
def Zsw:Fs ya:=Zch fuel
theorem Zqf:Zsw.Ok:=Ze (fi:={ hi:={ still:=[5,7,8]},lp:=[]}) (specs:={ l:=[Zvw]}) (okS ⟨ZBh,trivial⟩) trivial (by decide+kernel) (fun x=>by kernel_rfl)
def YQ (F:Nat) (a0:VF) (a1:Int):Option (Bool):=
 some (decide (a1 ≥ a0.1))
def Zsx (F:Nat):Fs ya:=⟨22,[.v Zcg,.v (.int .i64)],[],[Zcg,(.int .i64)],[⟨.ret,[(0,.v .bool)],[],[.bool]⟩],fun x=>YQ F x.1 x.2⟩
def Zbp:Fs ya:=Zsx fuel
theorem ZdQ:Zbp.Ok:=Ze (fi:={ hi:={ still:=[4]},lp:=[]}) (specs:={ l:=[]}) (okS trivial) trivial (by decide+kernel) (fun x=>by kernel_rfl)
def ZpB:ByteArray:=⟨#[0,1,2,2,3,3,3,3,4,4,4,4,4,4,4,4,5,5,5,5,5,5,5,5,5,5,5,5,5,5,5,5,6,6,6,6,6,6,6,6,6,6,6,6,6,6,6,6,6,6,6,6,6,6,6,6,6,6,6,6,6,6,6,6,7,7,7,7,7,7,7,7,7,7,7,7,7,7,7,7,7,7,7,7,7,7,7,7,7,7,7,7,7,7,7,7,7,7,7,7,7,7,7,7,7,7,7,7,7,7,7,7,7,7,7,7,7,7,7,7,7,7,7,7,7,7,7,7,8,8,8,8,8,8,8,8,8,8,8,8,8,8,8,8,8,8,8,8,8,8,8,8,8,8,8,8,8,8,8,8,8,8,8,8,8,8,8,8,8,8,8,8,8,8,8,8,8,8,8,8,8,8,8,8,8,8,8,8,8,8,8,8,8,8,8,8,8,8,8,8,8,8,8,8,8,8,8,8,8,8,8,8,8,8,8,8,8,8,8,8,8,8,8,8,8,8,8,8,8,8,8,8,8,8,8,8,8,8,8,8,8,8,8,8,8,8,8,8,8,8,8,8,8,8,8,8]⟩
def ZpC (F:Nat) (a0:UInt64):Option (Int):=
 if (decide (a0 ≥ 4294967296))=true then
  if (decide ((Zx a0 32) ≥ 65536))=true then
   if (decide ((Zx (Zx a0 32) 16) ≥ 256))=true then
    let y10:UInt8:=w8 ((Zx (Zx (Zx a0 32) 16) 8).toNat:Int)
    (idx (Zor ZpB) (y10.toNat:Int)).bind fun e11=>
    some (wi (56+(e11.toNat:Int)))
   else
   (idx (Zor ZpB) ((w8 ((Zx (Zx a0 32) 16).toNat:Int)).toNat:Int)).bind fun e12=>
   some (wi (48+(e12.toNat:Int)))
  else
  if (decide ((Zx a0 32) ≥ 256))=true then
   (idx (Zor ZpB) ((w8 ((Zx (Zx a0 32) 8).toNat:Int)).toNat:Int)).bind fun e13=>
   some (wi (40+(e13.toNat:Int)))
  else
  (idx (Zor ZpB) ((w8 ((Zx a0 32).toNat:Int)).toNat:Int)).bind fun e14=>
  some (wi (32+(e14.toNat:Int)))
 else
 if (decide (a0 ≥ 65536))=true then
  if (decide ((Zx a0 16) ≥ 256))=true then
   (idx (Zor ZpB) ((w8 ((Zx (Zx a0 16) 8).toNat:Int)).toNat:Int)).bind fun e15=>
   some (wi (24+(e15.toNat:Int)))
  else
  (idx (Zor ZpB) ((w8 ((Zx a0 16).toNat:Int)).toNat:Int)).bind fun e16=>
  some (wi (16+(e16.toNat:Int)))
 else
 if (decide (a0 ≥ 256))=true then
  (idx (Zor ZpB) ((w8 ((Zx a0 8).toNat:Int)).toNat:Int)).bind fun e17=>
  some (wi (8+(e17.toNat:Int)))
 else
 (idx (Zor ZpB) ((w8 (a0.toNat:Int)).toNat:Int)).bind fun e18=>
 some (wi (0+(e18.toNat:Int)))
def Zt9 (F:Nat):Fs ya:=⟨192,[.v .u64],[],[.u64],[⟨.ret,[(0,.v (.int .i64))],[],[(.int .i64)]⟩],fun x=>ZpC F x⟩
def Zm4:Fs ya:=Zt9 fuel
theorem Zua:Zm4.Ok:=Ze (fi:={ hi:={ still:=[2]},lp:=[]}) (specs:={ l:=[]}) (okS trivial) trivial (by decide+kernel) (fun x=>by kernel_rfl)
def Yh (F:Nat) (a0:UInt64):Option (Int):=
 (ZpC F a0).bind fun o19=>
 some (wi (64 - o19))
def ZgO (F:Nat):Fs ya:=⟨191,[.v .u64],[],[.u64],[⟨.ret,[(0,.v (.int .i64))],[],[(.int .i64)]⟩],fun x=>Yh F x⟩
def ZaF:Fs ya:=ZgO fuel
theorem ZgP:ZaF.Ok:=Ze (fi:={ hi:={ still:=[2,3]},lp:=[]}) (specs:={ l:=[Zm4]}) (okS ⟨Zua,trivial⟩) trivial (by decide+kernel) (fun x=>by kernel_rfl)
def VG (F:Nat) (s:(UInt64×UInt64×UInt64×UInt64×UInt64×UInt64×UInt64×UInt64×UInt64)):Option ((UInt64×UInt64×UInt64×UInt64×UInt64×UInt64×UInt64×UInt64×UInt64)⊕(UInt64×UInt64×UInt64×UInt64×UInt64×UInt64×UInt64×UInt64)):=
 if (decide (s.2.2.2.2.2.2.2.1 ≥ 4294967296))=true then
  let y27:Bool:=decide ((s.2.2.2.2.2.2.2.2+s.2.2.1) ≥ 4294967296)
  if y27=true then
   some (.inr (s.1,s.2.1,s.2.2.1,s.2.2.2.1,s.2.2.2.2.1,s.2.2.2.2.2.1,s.2.2.2.2.2.2.1,s.2.2.2.2.2.2.2.1 - 1))
  else
  some (.inl (s.1,s.2.1,s.2.2.1,s.2.2.2.1,s.2.2.2.2.1,s.2.2.2.2.2.1,s.2.2.2.2.2.2.1,s.2.2.2.2.2.2.2.1 - 1,s.2.2.2.2.2.2.2.2+s.2.2.1))
 else
 let y28:Bool:=decide ((s.2.2.2.2.2.2.2.1*s.2.2.2.1) > ((4294967296*s.2.2.2.2.2.2.2.2)+s.2.2.2.2.2.1))
 if y28=true then
  let y29:Bool:=decide ((s.2.2.2.2.2.2.2.2+s.2.2.1) ≥ 4294967296)
  if y29=true then
   some (.inr (s.1,s.2.1,s.2.2.1,s.2.2.2.1,s.2.2.2.2.1,s.2.2.2.2.2.1,s.2.2.2.2.2.2.1,s.2.2.2.2.2.2.2.1 - 1))
  else
  some (.inl (s.1,s.2.1,s.2.2.1,s.2.2.2.1,s.2.2.2.2.1,s.2.2.2.2.2.1,s.2.2.2.2.2.2.1,s.2.2.2.2.2.2.2.1 - 1,s.2.2.2.2.2.2.2.2+s.2.2.1))
 else
 some (.inr (s.1,s.2.1,s.2.2.1,s.2.2.2.1,s.2.2.2.2.1,s.2.2.2.2.2.1,s.2.2.2.2.2.2.1,s.2.2.2.2.2.2.2.1))
def Zle:Lp:=⟨[(2,.v .u64),(8,.v .u64),(9,.v .u64),(10,.v .u64),(11,.v .u64),(13,.v .u64),(14,.v .u64),(15,.v .u64),(16,.v .u64)],[],[.u64,.u64,.u64,.u64,.u64,.u64,.u64,.u64,.u64],[⟨.exit 0,[(2,.v .u64),(8,.v .u64),(9,.v .u64),(10,.v .u64),(11,.v .u64),(13,.v .u64),(14,.v .u64),(15,.v .u64)],[],[.u64,.u64,.u64,.u64,.u64,.u64,.u64,.u64]⟩],Zc (VG fuel) fuel⟩
theorem Zoz:Zle.Ok ya (Zl ya 185) (Zk ya 185 0):=Zg (fi:={ hi:={ still:=[6,7,34]},lp:=[]}) (specs:={ l:=[]}) (okS trivial) trivial (by kernel_rfl) (fun v=>by kernel_rfl)
def VH (F:Nat) (s:(UInt64×UInt64×UInt64×UInt64×UInt64×UInt64×UInt64×UInt64×UInt64)):Option ((UInt64×UInt64×UInt64×UInt64×UInt64×UInt64×UInt64×UInt64×UInt64)⊕(UInt64×UInt64×UInt64×UInt64×UInt64×UInt64)):=
 if (decide (s.2.2.2.2.2.2.2.2 ≥ 4294967296))=true then
  let y32:Bool:=decide ((s.2.2.2.2.2.2.1+s.2.2.1) ≥ 4294967296)
  if y32=true then
   some (.inr (s.1,s.2.1,s.2.2.2.2.1,s.2.2.2.2.2.1,s.2.2.2.2.2.2.2.1,s.2.2.2.2.2.2.2.2 - 1))
  else
  some (.inl (s.1,s.2.1,s.2.2.1,s.2.2.2.1,s.2.2.2.2.1,s.2.2.2.2.2.1,s.2.2.2.2.2.2.1+s.2.2.1,s.2.2.2.2.2.2.2.1,s.2.2.2.2.2.2.2.2 - 1))
 else
 let y33:Bool:=decide ((s.2.2.2.2.2.2.2.2*s.2.2.2.1) > ((4294967296*s.2.2.2.2.2.2.1)+s.2.2.2.2.1))
 if y33=true then
  let y34:Bool:=decide ((s.2.2.2.2.2.2.1+s.2.2.1) ≥ 4294967296)
  if y34=true then
   some (.inr (s.1,s.2.1,s.2.2.2.2.1,s.2.2.2.2.2.1,s.2.2.2.2.2.2.2.1,s.2.2.2.2.2.2.2.2 - 1))
  else
  some (.inl (s.1,s.2.1,s.2.2.1,s.2.2.2.1,s.2.2.2.2.1,s.2.2.2.2.2.1,s.2.2.2.2.2.2.1+s.2.2.1,s.2.2.2.2.2.2.2.1,s.2.2.2.2.2.2.2.2 - 1))
 else
 some (.inr (s.1,s.2.1,s.2.2.2.2.1,s.2.2.2.2.2.1,s.2.2.2.2.2.2.2.1,s.2.2.2.2.2.2.2.2))
def Zlf:Lp:=⟨[(2,.v .u64),(8,.v .u64),(9,.v .u64),(10,.v .u64),(14,.v .u64),(15,.v .u64),(16,.v .u64),(17,.v .u64),(18,.v .u64)],[],[.u64,.u64,.u64,.u64,.u64,.u64,.u64,.u64,.u64],[⟨.exit 2,[(2,.v .u64),(8,.v .u64),(14,.v .u64),(15,.v .u64),(17,.v .u64),(18,.v .u64)],[],[.u64,.u64,.u64,.u64,.u64,.u64]⟩],Zc (VH fuel) fuel⟩
theorem ZoA:Zlf.Ok ya (Zl ya 185) (Zk ya 185 1):=Zg (fi:={ hi:={ still:=[6,7,34]},lp:=[]}) (specs:={ l:=[]}) (okS trivial) trivial (by kernel_rfl) (fun v=>by kernel_rfl)
def ZeW (F:Nat) (a0:UInt64) (a1:UInt64) (a2:UInt64):Option ((UInt64×UInt64)):=
 if (a2==0)=true then
  none
 else
 if (decide (a2≤a0))=true then
  none
 else
 if (a0==0)=true then
  if (a2 !=0)=true then
   if (a2 !=0)=true then
    some (a1 / a2,a1 % a2)
   else
   none
  else
  none
 else
 (Yh F a2).bind fun o20=>
 let y21:UInt64:=Zx (Vm a2 (min ((w64 o20).toNat:Int).toNat 64)) 32
 let y22:UInt64:=(Vm a2 (min ((w64 o20).toNat:Int).toNat 64))&&&4294967295
 let y23:UInt64:=Zx a1 (min ((64 - (w64 o20)).toNat:Int).toNat 64)
 let y24:UInt64:=(Vm a0 (min ((w64 o20).toNat:Int).toNat 64))|||y23
 let y25:UInt64:=Zx (Vm a1 (min ((w64 o20).toNat:Int).toNat 64)) 32
 let y26:UInt64:=(Vm a1 (min ((w64 o20).toNat:Int).toNat 64))&&&4294967295
 if (y21 !=0)=true then
  (Zc (VG F) F (Vm a2 (min ((w64 o20).toNat:Int).toNat 64),w64 o20,y21,y22,y24,y25,y26,y24 / y21,y24 - ((y24 / y21)*y21))).bind fun o30=>
  let y31:UInt64:=((o30.2.2.2.2.1*4294967296)+o30.2.2.2.2.2.1) - (o30.2.2.2.2.2.2.2*o30.1)
  if (o30.2.2.1 !=0)=true then
   (Zc (VH F) F (o30.1,o30.2.1,o30.2.2.1,o30.2.2.2.1,o30.2.2.2.2.2.2.1,o30.2.2.2.2.2.2.2,y31 - ((y31 / o30.2.2.1)*o30.2.2.1),y31,y31 / o30.2.2.1)).bind fun o35=>
   let y36:UInt64:=((o35.2.2.2.2.1*4294967296)+o35.2.2.1) - (o35.2.2.2.2.2*o35.1)
   some ((o35.2.2.2.1*4294967296)+o35.2.2.2.2.2,Zx y36 (min (o35.2.1.toNat:Int).toNat 64))
  else
  none
 else
 none
def Zub (F:Nat):Fs ya:=⟨185,[.v .u64,.v .u64,.v .u64],[],[.u64,.u64,.u64],[⟨.ret,[(0,.tup [.v .u64,.v .u64])],[],[.u64,.u64]⟩],fun x=>ZeW F x.1 x.2.1 x.2.2⟩
def Zm5:Fs ya:=Zub fuel
theorem Zuc:Zm5.Ok:=Ze (fi:={ hi:={ still:=[6,7,34]},lp:=[(0,Zle),(1,Zlf)]}) (specs:={ l:=[ZaF]}) (okS ⟨ZgP,trivial⟩) ⟨Zoz,ZoA,trivial⟩ (by decide+kernel) (fun x=>by kernel_rfl)
def Zac (F:Nat) (a0:UInt64) (a1:UInt64) (a2:UInt64):Option (UInt64):=
 if (a2 !=0)=true then
  (ZeW F (a0 % a2) a1 a2).bind fun o37=>
  some o37.2
 else
 none
def ZdR (F:Nat):Fs ya:=⟨172,[.v .u64,.v .u64,.v .u64],[],[.u64,.u64,.u64],[⟨.ret,[(0,.v .u64)],[],[.u64]⟩],fun x=>Zac F x.1 x.2.1 x.2.2⟩
def Zud:Fs ya:=ZdR fuel
theorem Zsy:Zud.Ok:=Ze (fi:={ hi:={ still:=[6,12,13,14]},lp:=[]}) (specs:={ l:=[Zm5]}) (okS ⟨Zuc,trivial⟩) trivial (by decide+kernel) (fun x=>by kernel_rfl)
end
end Go.Proofs.YtmkgbalfkhaflaaGreat
end
section
namespace Go.Ev
theorem ZqZ (a m:UInt64):(a - a / m*m).toNat=a.toNat % m.toNat:=by
 have h1:a.toNat / m.toNat*m.toNat≤a.toNat:=Nat.div_mul_le_self _ _
 have h2:=ybg a
 have h3:(a / m*m).toNat=a.toNat / m.toNat*m.toNat:=by
  rw [UInt64.toNat_mul,UInt64.toNat_div,yai (by omega)]
 have h4:(a / m*m)≤a:=by rw [yck,h3];exact h1
 rw [UInt64.toNat_sub_of_le _ _ h4,h3]
 have:=Nat.div_add_mod a.toNat m.toNat
 rw [ybe] at this
 omega
theorem ZiS (x:UInt64):(x&&&4294967295).toNat=x.toNat % 4294967296:=by
 rw [UInt64.toNat_and]
 exact Nat.and_two_pow_sub_one_eq_mod x.toNat 32
theorem Qz (x:UInt64) (n:Nat):(Zx x n).toNat=x.toNat / 2 ^ n:=by
 unfold Zx
 rw [ybc,yai (Nat.lt_of_le_of_lt (Nat.div_le_self ..) (ybg _))]
theorem Zks {x y:UInt64} (h:x.toNat+y.toNat < 18446744073709551616):(x+y).toNat=x.toNat+y.toNat:=by
 rw [UInt64.toNat_add,yai h]
theorem Zkt {x y:UInt64} (h:x.toNat*y.toNat < 18446744073709551616):(x*y).toNat=x.toNat*y.toNat:=by
 rw [UInt64.toNat_mul,yai h]
theorem ZiT {a b:Nat} (ha:a < 4294967296) (hb:b < 4294967296):a*b≤18446744065119617025:=Nat.mul_le_mul (Nat.le_of_lt_succ ha) (Nat.le_of_lt_succ hb)
end Go.Ev
end
section
set_option maxRecDepth 4000
namespace Go.Proofs.YtmkgbalfkhaflaaGreat
open Go Go.Ev
section
variable {y1 y0 u d q r:Nat}
theorem ZKq (h:q*y1+r=u) (hc:4294967296*r+d < q*y0):u*4294967296+d < q*(y1*4294967296+y0):=by
 have e:q*(y1*4294967296+y0)=q*y1*4294967296+q*y0:=by rw [Nat.mul_add,Nat.mul_assoc]
 rw [e]
 omega
theorem ZF4 (h:q*y1+r=u) (hc:q*y0≤4294967296*r+d):q*(y1*4294967296+y0)≤u*4294967296+d:=by
 have e:q*(y1*4294967296+y0)=q*y1*4294967296+q*y0:=by rw [Nat.mul_add,Nat.mul_assoc]
 rw [e]
 omega
theorem ZJF (hu:u < y1*4294967296+y0) (hd:d < 4294967296):(u*4294967296+d) / (y1*4294967296+y0) < 4294967296:=by
 rw [Nat.div_lt_iff_lt_mul (by omega)]
 omega
theorem ZCw (h:q*y1+r=u) (hq:1≤q):(q - 1)*y1+(r+y1)=u:=by
 have e:q*y1=(q - 1)*y1+y1:=by
  rw [←Nat.succ_mul]
  congr 1
  omega
 omega
theorem ZF5 (hu:u < y1*4294967296+y0) (h0:y0 < 4294967296) (h:q*y1+r=u) (hr:4294967296≤r):q*y0≤4294967296*r+d:=by
 by_cases hq:q < 4294967296
 ·have:q*y0≤4294967295*4294967295:=Nat.mul_le_mul (by omega) (by omega)
  omega
 ·have:4294967296*y1≤q*y1:=ybr _ (by omega)
  omega
end
theorem ZBi {q T Y:Nat} (hY:0 < Y) (h1:T / Y≤q) (h2:q*Y≤T):q=T / Y:=Nat.le_antisymm ((Nat.le_div_iff_mul_le hY).2 h2) h1
theorem Zzr {y1 y0 u d:Nat} {Q R Y0 Y1 D:UInt64} (hY1:Y1.toNat=y1) (hY0:Y0.toNat=y0) (hD:D.toNat=d) (h1:y1 < 4294967296) (h0:y0 < 4294967296) (hd:d < 4294967296) (hu:u < y1*4294967296+y0)
 (e:Q.toNat*y1+R.toNat=u) (hr:R.toNat < 4294967296) (hge:(u*4294967296+d) / (y1*4294967296+y0)≤Q.toNat):
 ((Q ≥ 4294967296∨(Q*Y0 > (4294967296*R)+D))∧(u*4294967296+d) / (y1*4294967296+y0)≤(Q - 1).toNat∧(Q - 1).toNat*y1+(R+Y1).toNat=u∧(R+Y1).toNat=R.toNat+y1)∨
 (¬Q ≥ 4294967296∧¬(Q*Y0 > (4294967296*R)+D)∧Q.toNat=(u*4294967296+d) / (y1*4294967296+y0)):=by
 have hadd:(R+Y1).toNat=R.toNat+y1:=by rw [Zks (by omega),hY1]
 have hrd:((4294967296*R)+D).toNat=4294967296*R.toNat+d:=by
  have m:(4294967296*R:UInt64).toNat=4294967296*R.toNat:=by
   rw [Zkt (by show 4294967296*R.toNat < _;omega)]
   rfl
  rw [Zks (by rw [m];omega),m,hD]
 have dec:1≤Q.toNat→(Q - 1).toNat=Q.toNat - 1:=fun h=>by
  rw [UInt64.toNat_sub_of_le _ _ (by rw [yck];exact h)]
  rfl
 by_cases c1:Q ≥ 4294967296
 ·left
  have hq:4294967296≤Q.toNat:=by
   rw [ge_iff_le,yck] at c1
   exact c1
  have:=ZJF hu hd
  refine ⟨.inl c1,by rw [dec (by omega)];omega, ?_,hadd⟩
  rw [dec (by omega),hadd]
  exact ZCw e (by omega)
 have hq:Q.toNat < 4294967296:=by
  rw [ge_iff_le,yck] at c1
  exact Nat.lt_of_not_le c1
 have hmul:(Q*Y0).toNat=Q.toNat*y0:=by
  have:=ZiT hq h0
  rw [Zkt (by rw [hY0];omega),hY0]
 by_cases c2:Q*Y0 > (4294967296*R)+D
 ·left
  have c3:4294967296*R.toNat+d < Q.toNat*y0:=by
   have:=ybs.1 c2
   rw [hmul,hrd] at this
   exact this
  have q1:1≤Q.toNat:=by
   rcases ybx Q.toNat with h|h
   ·rw [h,Nat.zero_mul] at c3;omega
   ·exact h
  have hg:=ZKq (d:=d) e c3
  have hlt:(u*4294967296+d) / (y1*4294967296+y0) < Q.toNat:=(Nat.div_lt_iff_lt_mul (by omega)).2 hg
  refine ⟨.inr c2,by rw [dec q1];omega, ?_,hadd⟩
  rw [dec q1,hadd]
  exact ZCw e q1
 ·right
  have c3:Q.toNat*y0≤4294967296*R.toNat+d:=by
   have:¬(((4294967296*R)+D).toNat < (Q*Y0).toNat):=fun h=>c2 (ybs.2 h)
   rw [hmul,hrd] at this
   omega
  exact ⟨c1,c2,ZBi (by omega) hge (ZF4 e c3)⟩
theorem ZKr {y1 y0 u d:Nat} {Yv N Y1 Y0 U D E Q R:UInt64} (hY1:Y1.toNat=y1) (hY0:Y0.toNat=y0) (hD:D.toNat=d) (h1:y1 < 4294967296) (h3:0 < y1) (h0:y0 < 4294967296) (hd:d < 4294967296) (hu:u < y1*4294967296+y0)
 (e:Q.toNat*y1+R.toNat=u) (hr:R.toNat < 4294967296) (hge:(u*4294967296+d) / (y1*4294967296+y0)≤Q.toNat):
 ∃q:UInt64,Zc (VG fuel) fuel (Yv,N,Y1,Y0,U,D,E,Q,R)=some (Yv,N,Y1,Y0,U,D,E,q)∧q.toNat=(u*4294967296+d) / (y1*4294967296+y0):=by
 obtain ⟨x,hx,q,rfl,hq⟩:=WB (step:=VG fuel) (fun s=>∃Q R:UInt64,s=(Yv,N,Y1,Y0,U,D,E,Q,R)∧Q.toNat*y1+R.toNat=u∧R.toNat < 4294967296∧(u*4294967296+d) / (y1*4294967296+y0)≤Q.toNat)
  (fun s=>4294967296 - s.2.2.2.2.2.2.2.2.toNat) (fun x=>∃q:UInt64,x=(Yv,N,Y1,Y0,U,D,E,q)∧q.toNat=(u*4294967296+d) / (y1*4294967296+y0)) (by
  rintro _ ⟨Q,R,rfl,e,hr,hge⟩
  unfold VG
  dsimp only
  rcases Zzr hY1 hY0 hD h1 h0 hd hu e hr hge with ⟨c,k1,k2,k3⟩|⟨c1,c2,k⟩
  ·have key:(∃j,(if decide (R+Y1 ≥ 4294967296)=true then some (Sum.inr (Yv,N,Y1,Y0,U,D,E,Q - 1)) else some (Sum.inl (Yv,N,Y1,Y0,U,D,E,Q - 1,R+Y1)):Option ((UInt64×UInt64×UInt64×UInt64×UInt64×UInt64×UInt64×UInt64×UInt64)⊕(UInt64×UInt64×UInt64×UInt64×UInt64×UInt64×UInt64×UInt64)))=some (.inl j)∧
    (∃Q R:UInt64,j=(Yv,N,Y1,Y0,U,D,E,Q,R)∧Q.toNat*y1+R.toNat=u∧R.toNat < 4294967296∧(u*4294967296+d) / (y1*4294967296+y0)≤Q.toNat)∧4294967296 - j.2.2.2.2.2.2.2.2.toNat < 4294967296 - R.toNat)∨
    (∃x,(if decide (R+Y1 ≥ 4294967296)=true then some (Sum.inr (Yv,N,Y1,Y0,U,D,E,Q - 1)) else some (Sum.inl (Yv,N,Y1,Y0,U,D,E,Q - 1,R+Y1)):Option ((UInt64×UInt64×UInt64×UInt64×UInt64×UInt64×UInt64×UInt64×UInt64)⊕(UInt64×UInt64×UInt64×UInt64×UInt64×UInt64×UInt64×UInt64)))=some (.inr x)∧
    ∃q:UInt64,x=(Yv,N,Y1,Y0,U,D,E,q)∧q.toNat=(u*4294967296+d) / (y1*4294967296+y0)):=by
    by_cases hb:R+Y1 ≥ 4294967296
    ·right
     rw [if_pos (decide_eq_true hb)]
     have hb2:4294967296≤(R+Y1).toNat:=by
      rw [ge_iff_le,yck] at hb
      exact hb
     exact ⟨_,rfl,_,rfl,ZBi (by omega) k1 (ZF4 k2 (ZF5 hu h0 k2 hb2))⟩
    ·left
     rw [if_neg (by rw [decide_eq_true_iff];exact hb)]
     have hb2:(R+Y1).toNat < 4294967296:=by
      rw [ge_iff_le,yck] at hb
      exact Nat.lt_of_not_le hb
     exact ⟨_,rfl,⟨_,_,rfl,k2,hb2,k1⟩,by dsimp only;omega⟩
   rcases c with c|c
   ·rw [if_pos (decide_eq_true c)]
    exact key
   ·by_cases c1:Q ≥ 4294967296
    ·rw [if_pos (decide_eq_true c1)]
     exact key
    ·rw [if_neg (by rw [decide_eq_true_iff];exact c1),if_pos (decide_eq_true c)]
     exact key
  ·right
   rw [if_neg (by rw [decide_eq_true_iff];exact c1),if_neg (by rw [decide_eq_true_iff];exact c2)]
   exact ⟨_,rfl,_,rfl,k⟩) (Yv,N,Y1,Y0,U,D,E,Q,R) ⟨Q,R,rfl,e,hr,hge⟩ (by dsimp only;omega)
 exact ⟨q,hx,hq⟩
theorem ZKs {y1 y0 u d:Nat} {Yv N Y1 Y0 U D E Q R:UInt64} (hY1:Y1.toNat=y1) (hY0:Y0.toNat=y0) (hD:D.toNat=d) (h1:y1 < 4294967296) (h3:0 < y1) (h0:y0 < 4294967296) (hd:d < 4294967296) (hu:u < y1*4294967296+y0)
 (e:Q.toNat*y1+R.toNat=u) (hr:R.toNat < 4294967296) (hge:(u*4294967296+d) / (y1*4294967296+y0)≤Q.toNat):
 ∃q:UInt64,Zc (VH fuel) fuel (Yv,N,Y1,Y0,D,E,R,U,Q)=some (Yv,N,D,E,U,q)∧q.toNat=(u*4294967296+d) / (y1*4294967296+y0):=by
 obtain ⟨x,hx,q,rfl,hq⟩:=WB (step:=VH fuel) (fun s=>∃Q R:UInt64,s=(Yv,N,Y1,Y0,D,E,R,U,Q)∧Q.toNat*y1+R.toNat=u∧R.toNat < 4294967296∧(u*4294967296+d) / (y1*4294967296+y0)≤Q.toNat)
  (fun s=>4294967296 - s.2.2.2.2.2.2.1.toNat) (fun x=>∃q:UInt64,x=(Yv,N,D,E,U,q)∧q.toNat=(u*4294967296+d) / (y1*4294967296+y0)) (by
  rintro _ ⟨Q,R,rfl,e,hr,hge⟩
  unfold VH
  dsimp only
  rcases Zzr hY1 hY0 hD h1 h0 hd hu e hr hge with ⟨c,k1,k2,k3⟩|⟨c1,c2,k⟩
  ·have key:(∃j,(if decide (R+Y1 ≥ 4294967296)=true then some (Sum.inr (Yv,N,D,E,U,Q - 1)) else some (Sum.inl (Yv,N,Y1,Y0,D,E,R+Y1,U,Q - 1)):Option ((UInt64×UInt64×UInt64×UInt64×UInt64×UInt64×UInt64×UInt64×UInt64)⊕(UInt64×UInt64×UInt64×UInt64×UInt64×UInt64)))=some (.inl j)∧
    (∃Q R:UInt64,j=(Yv,N,Y1,Y0,D,E,R,U,Q)∧Q.toNat*y1+R.toNat=u∧R.toNat < 4294967296∧(u*4294967296+d) / (y1*4294967296+y0)≤Q.toNat)∧4294967296 - j.2.2.2.2.2.2.1.toNat < 4294967296 - R.toNat)∨
    (∃x,(if decide (R+Y1 ≥ 4294967296)=true then some (Sum.inr (Yv,N,D,E,U,Q - 1)) else some (Sum.inl (Yv,N,Y1,Y0,D,E,R+Y1,U,Q - 1)):Option ((UInt64×UInt64×UInt64×UInt64×UInt64×UInt64×UInt64×UInt64×UInt64)⊕(UInt64×UInt64×UInt64×UInt64×UInt64×UInt64)))=some (.inr x)∧
    ∃q:UInt64,x=(Yv,N,D,E,U,q)∧q.toNat=(u*4294967296+d) / (y1*4294967296+y0)):=by
    by_cases hb:R+Y1 ≥ 4294967296
    ·right
     rw [if_pos (decide_eq_true hb)]
     have hb2:4294967296≤(R+Y1).toNat:=by
      rw [ge_iff_le,yck] at hb
      exact hb
     exact ⟨_,rfl,_,rfl,ZBi (by omega) k1 (ZF4 k2 (ZF5 hu h0 k2 hb2))⟩
    ·left
     rw [if_neg (by rw [decide_eq_true_iff];exact hb)]
     have hb2:(R+Y1).toNat < 4294967296:=by
      rw [ge_iff_le,yck] at hb
      exact Nat.lt_of_not_le hb
     exact ⟨_,rfl,⟨_,_,rfl,k2,hb2,k1⟩,by dsimp only;omega⟩
   rcases c with c|c
   ·rw [if_pos (decide_eq_true c)]
    exact key
   ·by_cases c1:Q ≥ 4294967296
    ·rw [if_pos (decide_eq_true c1)]
     exact key
    ·rw [if_neg (by rw [decide_eq_true_iff];exact c1),if_pos (decide_eq_true c)]
     exact key
  ·right
   rw [if_neg (by rw [decide_eq_true_iff];exact c1),if_neg (by rw [decide_eq_true_iff];exact c2)]
   exact ⟨_,rfl,_,rfl,k⟩) (Yv,N,Y1,Y0,D,E,R,U,Q) ⟨Q,R,rfl,e,hr,hge⟩ (by dsimp only;omega)
 exact ⟨q,hx,hq⟩
theorem ZCx {A B:UInt64} {a b:Nat} (hA:A.toNat=a % 18446744073709551616) (hB:B.toNat=b % 18446744073709551616) (h:b≤a) (hd:a - b < 18446744073709551616):(A - B).toNat=a - b:=by
 rw [UInt64.toNat_sub,hA,hB]
 omega
theorem ZpD (u y1:Nat):u / y1*y1+u % y1=u:=by
 have:=Nat.div_add_mod u y1
 rw [ybe] at this
 exact this
theorem ZF6 {u y1 y0 d:Nat} (h1:0 < y1) (hd:d < 4294967296):(u*4294967296+d) / (y1*4294967296+y0)≤u / y1:=by
 have h:(u*4294967296+d) / (y1*4294967296+y0)≤(u*4294967296+d) / (y1*4294967296):=Nat.div_le_div_left (by omega) (by omega)
 have e:(u*4294967296+d) / (y1*4294967296)=u / y1:=by
  rw [ybe y1, ←Nat.div_div_eq_div_mul]
  congr 1
  omega
 omega
theorem ZF7 {a b y:UInt64} {s:Nat} {Y:UInt64} (hy:y≠0) (hs:Yh fuel y=some (s:Int)) (s0:0 < s) (s1:s < 64) (hY:Vm y s=Y) (hYn:Y.toNat=y.toNat*2 ^ s) (hY63:9223372036854775808≤Y.toNat) (ha:a.toNat < y.toNat):
 ∃q r,ZeW fuel a b y=some (q,r)∧r.toNat=(a.toNat*18446744073709551616+b.toNat) % y.toNat:=by
 have ha2:¬(y≤a):=by
  rw [yck]
  omega
 unfold ZeW
 rw [if_neg (by rw [beq_iff_eq];exact hy),if_neg (by rw [decide_eq_true_iff];exact ha2)]
 by_cases h0:a=0
 ·subst h0
  rw [if_pos (by decide),if_pos (by rw [bne_iff_ne];exact hy),if_pos (by rw [bne_iff_ne];exact hy)]
  refine ⟨_,_,rfl, ?_⟩
  rw [UInt64.toNat_mod]
  simp
 rw [if_neg (by rw [beq_iff_eq];exact h0),hs,yb]
 dsimp only
 have w:w64 (s:Int)=yaf s:=by
  unfold w64
  congr 1
  omega
 have ws:(w64 (s:Int)).toNat=s:=by rw [w,ybc,yai (by omega)]
 have e1:min ((w64 (s:Int)).toNat:Int).toNat 64=s:=by rw [ws];omega
 have e2:(64 - w64 (s:Int)).toNat=64 - s:=by
  rw [UInt64.toNat_sub_of_le _ _ (by rw [yck,ws];show s≤64;omega),ws]
  rfl
 have e3:min ((64 - w64 (s:Int)).toNat:Int).toNat 64=64 - s:=by rw [e2];omega
 rw [e1,e3,hY]
 have hYl:=ybg Y
 have hb:=ybg b
 have p64:2 ^ (64 - s)*2 ^ s=18446744073709551616:=by
  rw [←Nat.pow_add]
  have:64 - s+s=64:=by omega
  rw [this]
 have hp:0 < 2 ^ s:=Nat.pow_pos (by decide)
 obtain ⟨y1,hy1⟩:∃y1,y1=Y.toNat / 4294967296:=⟨_,rfl⟩
 obtain ⟨y0,hy0⟩:∃y0,y0=Y.toNat % 4294967296:=⟨_,rfl⟩
 have hYd:Y.toNat=y1*4294967296+y0:=by omega
 have ty1:(Zx Y 32).toNat=y1:=by rw [Qz,hy1]
 have ty0:(Y&&&4294967295).toNat=y0:=by rw [ZiS,hy0]
 have l1:y1 < 4294967296:=by omega
 have g1:2147483648≤y1:=by omega
 have l0:y0 < 4294967296:=by omega
 have hash:a.toNat*2 ^ s < Y.toNat:=by rw [hYn];exact Nat.mul_lt_mul_of_pos_right ha hp
 have bd:b.toNat / 2 ^ (64 - s) < 2 ^ s:=by
  rw [Nat.div_lt_iff_lt_mul (Nat.pow_pos (by decide)),ybe,p64]
  exact hb
 have tu:((Vm a s)|||(Zx b (64 - s))).toNat=a.toNat*2 ^ s+b.toNat / 2 ^ (64 - s):=by
  rw [UInt64.toNat_or,Qz]
  unfold Vm
  rw [ybc,yai (by omega),ybe, ←Nat.two_pow_add_eq_or_of_lt bd]
 have t10:(Vm b s).toNat=b.toNat*2 ^ s % 18446744073709551616:=by
  unfold Vm
  rw [ybc]
 obtain ⟨u,hu⟩:∃u,u=a.toNat*2 ^ s+b.toNat / 2 ^ (64 - s):=⟨_,rfl⟩
 obtain ⟨v,hv⟩:∃v,v=b.toNat*2 ^ s % 18446744073709551616:=⟨_,rfl⟩
 rw [←hu] at tu
 rw [←hv] at t10
 have hbs:b.toNat*2 ^ s=b.toNat / 2 ^ (64 - s)*18446744073709551616+v:=by
  have h1:=Nat.div_add_mod (b.toNat*2 ^ s) 18446744073709551616
  have h2:b.toNat*2 ^ s / 18446744073709551616=b.toNat / 2 ^ (64 - s):=by
   rw [←p64]
   exact Nat.mul_div_mul_right _ _ hp
  rw [h2, ←hv] at h1
  omega
 have hN:(a.toNat*18446744073709551616+b.toNat)*2 ^ s=u*18446744073709551616+v:=by
  rw [yap,hbs,hu,Nat.mul_right_comm]
  omega
 have uY:u < y1*4294967296+y0:=by
  rw [←hYd,hu,hYn]
  have h1:(a.toNat+1)*2 ^ s≤y.toNat*2 ^ s:=ybr _ ha
  rw [yap,Nat.one_mul] at h1
  omega
 have hvl:v < 18446744073709551616:=by rw [hv];exact ybd _ (by decide)
 obtain ⟨d1,hd1⟩:∃d1,d1=v / 4294967296:=⟨_,rfl⟩
 obtain ⟨d0,hd0⟩:∃d0,d0=v % 4294967296:=⟨_,rfl⟩
 have td1:(Zx (Vm b s) 32).toNat=d1:=by rw [Qz,t10,hd1]
 have td0:((Vm b s)&&&4294967295).toNat=d0:=by rw [ZiS,t10,hd0]
 generalize ((Vm a s)|||(Zx b (64 - s)):UInt64)=U at tu ⊢
 generalize (Zx (Vm b s) 32:UInt64)=D1 at td1 ⊢
 generalize ((Vm b s)&&&4294967295:UInt64)=D0 at td0 ⊢
 generalize (Zx Y 32:UInt64)=Y1 at ty1 ⊢
 generalize (Y&&&4294967295:UInt64)=Y0 at ty0 ⊢
 have y1ne:(Y1 !=0)=true:=by
  rw [bne_iff_ne]
  intro h
  rw [h] at ty1
  have:(0:UInt64).toNat=0:=rfl
  omega
 rw [if_pos y1ne]
 have f1:(U / Y1).toNat*y1+(U - U / Y1*Y1).toNat=u:=by
  rw [ZqZ,UInt64.toNat_div,tu,ty1]
  exact ZpD u y1
 have f2:(U - U / Y1*Y1).toNat < 4294967296:=by
  rw [ZqZ,tu,ty1]
  exact Nat.lt_trans (ybd _ (by omega)) l1
 have f3:(u*4294967296+d1) / (y1*4294967296+y0)≤(U / Y1).toNat:=by
  rw [UInt64.toNat_div,tu,ty1]
  exact ZF6 (by omega) (by omega)
 obtain ⟨q1,k1,k2⟩:=ZKr (Yv:=Y) (N:=w64 (s:Int)) (U:=U) (E:=D0) ty1 ty0 td1 l1 (by omega) l0 (by omega) uY f1 f2 f3
 rw [k1,yb]
 dsimp only
 rw [if_pos y1ne]
 have m1:=Nat.div_add_mod (u*4294967296+d1) Y.toNat
 have m2:(u*4294967296+d1) % Y.toNat < Y.toNat:=ybd _ (by omega)
 rw [←hYd] at k2
 have tv:(((U*4294967296)+D1) - (q1*Y)).toNat=(u*4294967296+d1) % Y.toNat:=by
  rw [ZCx (a:=u*4294967296+d1) (b:=q1.toNat*Y.toNat) ?_ ?_ ?_ ?_]
  ·rw [k2,ybe ((u*4294967296+d1) / Y.toNat)]
   omega
  ·rw [UInt64.toNat_add,UInt64.toNat_mul,tu,td1,show (4294967296:UInt64).toNat=4294967296 from rfl]
   omega
  ·rw [UInt64.toNat_mul]
  ·rw [k2,ybe ((u*4294967296+d1) / Y.toNat)]
   omega
  ·rw [k2,ybe ((u*4294967296+d1) / Y.toNat)]
   omega
 obtain ⟨u2,hu2⟩:∃u2,u2=(u*4294967296+d1) % Y.toNat:=⟨_,rfl⟩
 rw [←hu2] at tv m2 m1
 generalize (((U*4294967296)+D1) - (q1*Y):UInt64)=V at tv ⊢
 have f4:(V / Y1).toNat*y1+(V - V / Y1*Y1).toNat=u2:=by
  rw [ZqZ,UInt64.toNat_div,tv,ty1]
  exact ZpD u2 y1
 have f5:(V - V / Y1*Y1).toNat < 4294967296:=by
  rw [ZqZ,tv,ty1]
  exact Nat.lt_trans (ybd _ (by omega)) l1
 have f6:(u2*4294967296+d0) / (y1*4294967296+y0)≤(V / Y1).toNat:=by
  rw [UInt64.toNat_div,tv,ty1]
  exact ZF6 (by omega) (by omega)
 obtain ⟨q0,k3,k4⟩:=ZKs (Yv:=Y) (N:=w64 (s:Int)) (U:=V) (E:=q1) ty1 ty0 td0 l1 (by omega) l0 (by omega) (by rw [←hYd];exact m2) f4 f5 f6
 rw [k3,yb]
 refine ⟨_,_,rfl, ?_⟩
 dsimp only
 rw [e1,Qz]
 rw [←hYd] at k4
 have m3:=Nat.div_add_mod (u2*4294967296+d0) Y.toNat
 have m4:(u2*4294967296+d0) % Y.toNat < Y.toNat:=ybd _ (by omega)
 have tr:(((V*4294967296)+D0) - (q0*Y)).toNat=(u2*4294967296+d0) % Y.toNat:=by
  rw [ZCx (a:=u2*4294967296+d0) (b:=q0.toNat*Y.toNat) ?_ ?_ ?_ ?_]
  ·rw [k4,ybe ((u2*4294967296+d0) / Y.toNat)]
   omega
  ·rw [UInt64.toNat_add,UInt64.toNat_mul,tv,td0,show (4294967296:UInt64).toNat=4294967296 from rfl]
   omega
  ·rw [UInt64.toNat_mul]
  ·rw [k4,ybe ((u2*4294967296+d0) / Y.toNat)]
   omega
  ·rw [k4,ybe ((u2*4294967296+d0) / Y.toNat)]
   omega
 rw [tr]
 have hNm:((a.toNat*18446744073709551616+b.toNat)*2 ^ s) % Y.toNat=(u2*4294967296+d0) % Y.toNat:=by
  have e:(a.toNat*18446744073709551616+b.toNat)*2 ^ s=u2*4294967296+d0+Y.toNat*((u*4294967296+d1) / Y.toNat*4294967296):=by
   rw [hN, ←Nat.mul_assoc]
   omega
  rw [e,Nat.add_mul_mod_self_left]
 rw [←hNm,hYn,Nat.mul_mod_mul_right,Nat.mul_div_cancel _ hp]
theorem Zw8 {y Y:UInt64} {s:Nat} (a b:UInt64) (hy:y≠0) (hs:Yh fuel y=some (s:Int)) (s0:0 < s) (s1:s < 64) (hY:Vm y s=Y) (hYn:Y.toNat=y.toNat*2 ^ s) (hY63:9223372036854775808≤Y.toNat):
 Zac fuel a b y=some (yaf ((a.toNat*18446744073709551616+b.toNat) % y.toNat)):=by
 have hp:0 < y.toNat:=by
  rcases ybx y.toNat with h|h
  ·exact absurd (UInt64.toNat_inj.1 h) hy
  ·exact h
 obtain ⟨q,r,h1,h2⟩:=ZF7 (a:=a % y) (b:=b) hy hs s0 s1 hY hYn hY63 (by rw [UInt64.toNat_mod];exact ybd _ hp)
 unfold Zac
 rw [if_pos (by rw [bne_iff_ne];exact hy),h1,yb]
 dsimp only
 rw [UInt64.toNat_mod,Nat.add_mod,Nat.mod_mul_mod, ←Nat.add_mod] at h2
 rw [←h2,UInt64.ofNat_toNat]
theorem ZJG:Yh fuel 4611686018427377339=some ((2:Nat):Int):=by kernel_rfl
theorem ZJH:Yh fuel 2305843009213688669=some ((3:Nat):Int):=by kernel_rfl
theorem ZJI:Yh fuel 2305843009213688668=some ((3:Nat):Int):=by kernel_rfl
noncomputable def VI (F:Nat) (a0:UInt64) (a1:UInt64) (a2:UInt64):Option UInt64:=
 if (a2==4611686018427377339 || (a2==2305843009213688669 || a2==2305843009213688668))=true then some (yaf ((a0.toNat*18446744073709551616+a1.toNat) % a2.toNat)) else Zac F a0 a1 a2
theorem ZF8 (a b y:UInt64):Zac fuel a b y=VI fuel a b y:=by
 unfold VI
 split
 ·rename_i h
  simp only [Bool.or_eq_true,beq_iff_eq] at h
  rcases h with rfl|rfl|rfl
  ·exact Zw8 (Y:=18446744073709509356) (s:=2) a b (by decide) ZJG (by decide) (by decide) (by kernel_rfl) (by decide) (by decide)
  ·exact Zw8 (Y:=18446744073709509352) (s:=3) a b (by decide) ZJH (by decide) (by decide) (by kernel_rfl) (by decide) (by decide)
  ·exact Zw8 (Y:=18446744073709509344) (s:=3) a b (by decide) ZJI (by decide) (by decide) (by kernel_rfl) (by decide) (by decide)
 ·rfl
noncomputable def Zue (F:Nat):Fs ya:={ ZdR F with M:=fun x=>VI F x.1 x.2.1 x.2.2}
noncomputable def Zc6:Fs ya:=Zue fuel
theorem Zfi:Zc6.Ok:=Zl0 (s:=ZdR fuel) Zsy fun x=>(ZF8 x.1 x.2.1 x.2.2).symm
end Go.Proofs.YtmkgbalfkhaflaaGreat
end
section
set_option maxRecDepth 4000
namespace Go.Proofs.YtmkgbalfkhaflaaGreat
open Go Go.Ev
noncomputable section
def Zc7 (F:Nat) (a0:UInt64) (a1:UInt64):Option ((UInt64×UInt64)):=
 let y38:UInt64:=Zx ((a0&&&4294967295)*(a1&&&4294967295)) 32
 let y39:UInt64:=(((Zx a0 32)*(a1&&&4294967295))+y38)&&&4294967295
 let y40:UInt64:=Zx (((Zx a0 32)*(a1&&&4294967295))+y38) 32
 let y41:UInt64:=Zx (y39+((a0&&&4294967295)*(Zx a1 32))) 32
 some ((((Zx a0 32)*(Zx a1 32))+y40)+y41,a0*a1)
def ZdS (F:Nat):Fs ya:=⟨174,[.v .u64,.v .u64],[],[.u64,.u64],[⟨.ret,[(0,.tup [.v .u64,.v .u64])],[],[.u64,.u64]⟩],fun x=>Zc7 F x.1 x.2⟩
def Zuf:Fs ya:=ZdS fuel
theorem Zsz:Zuf.Ok:=Ze (fi:={ hi:={ still:=[4,5]},lp:=[]}) (specs:={ l:=[]}) (okS trivial) trivial (by decide+kernel) (fun x=>by kernel_rfl)
end
end Go.Proofs.YtmkgbalfkhaflaaGreat
end
section
set_option maxRecDepth 4000
namespace Go.Proofs.YtmkgbalfkhaflaaGreat
open Go Go.Ev
theorem ZF9 (x y:UInt64):∃h l,Zc7 fuel x y=some (h,l)∧h.toNat*18446744073709551616+l.toNat=x.toNat*y.toNat:=by
 unfold Zc7
 refine ⟨_,_,rfl, ?_⟩
 have hx:=ybg x
 have hy:=ybg y
 have x0l:x.toNat % 4294967296 < 4294967296:=ybd _ (by decide)
 have y0l:y.toNat % 4294967296 < 4294967296:=ybd _ (by decide)
 have x1l:x.toNat / 4294967296 < 4294967296:=by omega
 have y1l:y.toNat / 4294967296 < 4294967296:=by omega
 have xe:x.toNat=x.toNat / 4294967296*4294967296+x.toNat % 4294967296:=by omega
 have ye:y.toNat=y.toNat / 4294967296*4294967296+y.toNat % 4294967296:=by omega
 generalize hX1:x.toNat / 4294967296=x1 at*
 generalize hX0:x.toNat % 4294967296=x0 at*
 generalize hY1:y.toNat / 4294967296=y1 at*
 generalize hY0:y.toNat % 4294967296=y0 at*
 have p00:=ZiT x0l y0l
 have p10:=ZiT x1l y0l
 have p01:=ZiT x0l y1l
 have p11:=ZiT x1l y1l
 have prod:x.toNat*y.toNat=x1*y1*18446744073709551616+(x1*y0+x0*y1)*4294967296+x0*y0:=by
  rw [xe,ye,yap,Nat.mul_add,Nat.mul_add]
  have e1:x1*4294967296*(y1*4294967296)=x1*y1*18446744073709551616:=by
   rw [Nat.mul_assoc,Nat.mul_left_comm 4294967296 y1, ←Nat.mul_assoc]
  have e2:x1*4294967296*y0=x1*y0*4294967296:=by rw [Nat.mul_right_comm]
  have e3:x0*(y1*4294967296)=x0*y1*4294967296:=by rw [Nat.mul_assoc]
  rw [e1,e2,e3]
  omega
 have q00:((x&&&4294967295)*(y&&&4294967295)).toNat=x0*y0:=by
  rw [Zkt (by rw [ZiS,ZiS,hX0,hY0];omega),ZiS,ZiS,hX0,hY0]
 have q10:((Zx x 32)*(y&&&4294967295)).toNat=x1*y0:=by
  rw [Zkt (by rw [Qz,ZiS,show (2:Nat) ^ 32=4294967296 from rfl,hX1,hY0];omega),Qz,ZiS,show (2:Nat) ^ 32=4294967296 from rfl,hX1,hY0]
 have q01:((x&&&4294967295)*(Zx y 32)).toNat=x0*y1:=by
  rw [Zkt (by rw [Qz,ZiS,show (2:Nat) ^ 32=4294967296 from rfl,hX0,hY1];omega),Qz,ZiS,show (2:Nat) ^ 32=4294967296 from rfl,hX0,hY1]
 have q11:((Zx x 32)*(Zx y 32)).toNat=x1*y1:=by
  rw [Zkt (by rw [Qz,Qz,show (2:Nat) ^ 32=4294967296 from rfl,hX1,hY1];omega),Qz,Qz,show (2:Nat) ^ 32=4294967296 from rfl,hX1,hY1]
 generalize hA:((x&&&4294967295)*(y&&&4294967295):UInt64)=A at*
 generalize hB:((Zx x 32)*(y&&&4294967295):UInt64)=B at*
 generalize hC:((x&&&4294967295)*(Zx y 32):UInt64)=C at*
 generalize hD:((Zx x 32)*(Zx y 32):UInt64)=D at*
 have s1:(Zx A 32).toNat=x0*y0 / 4294967296:=by rw [Qz,q00]
 have s2:(B+Zx A 32).toNat=x1*y0+x0*y0 / 4294967296:=by rw [Zks (by rw [q10,s1];omega),q10,s1]
 have s3:((B+Zx A 32)&&&4294967295).toNat=(x1*y0+x0*y0 / 4294967296) % 4294967296:=by rw [ZiS,s2]
 have s4:(Zx (B+Zx A 32) 32).toNat=(x1*y0+x0*y0 / 4294967296) / 4294967296:=by rw [Qz,s2]
 have s5:(((B+Zx A 32)&&&4294967295)+C).toNat=(x1*y0+x0*y0 / 4294967296) % 4294967296+x0*y1:=by rw [Zks (by rw [s3,q01];omega),s3,q01]
 have s6:(Zx (((B+Zx A 32)&&&4294967295)+C) 32).toNat=((x1*y0+x0*y0 / 4294967296) % 4294967296+x0*y1) / 4294967296:=by rw [Qz,s5]
 have s7:(D+Zx (B+Zx A 32) 32).toNat=x1*y1+(x1*y0+x0*y0 / 4294967296) / 4294967296:=by rw [Zks (by rw [q11,s4];omega),q11,s4]
 have s8:(x*y).toNat=x.toNat*y.toNat % 18446744073709551616:=UInt64.toNat_mul ..
 have s9:((D+Zx (B+Zx A 32) 32)+Zx (((B+Zx A 32)&&&4294967295)+C) 32).toNat=x1*y1+(x1*y0+x0*y0 / 4294967296) / 4294967296+((x1*y0+x0*y0 / 4294967296) % 4294967296+x0*y1) / 4294967296:=by
  rw [Zks (by rw [s7,s6];omega),s7,s6]
 rw [s9,s8,prod]
 generalize x0*y0=a at*
 generalize x1*y0=b at*
 generalize x0*y1=c at*
 generalize x1*y1=d at*
 omega
theorem ZGa (x y:UInt64):Zc7 fuel x y=some (yaf (x.toNat*y.toNat / 18446744073709551616),yaf (x.toNat*y.toNat % 18446744073709551616)):=by
 obtain ⟨h,l,e,k⟩:=ZF9 x y
 have hl:=ybg l
 rw [e, ←k,show (h.toNat*18446744073709551616+l.toNat) / 18446744073709551616=h.toNat by omega,show (h.toNat*18446744073709551616+l.toNat) % 18446744073709551616=l.toNat by omega,UInt64.ofNat_toNat,UInt64.ofNat_toNat]
noncomputable def ZeX (F:Nat) (a0:UInt64) (a1:UInt64):Option (UInt64×UInt64):=some (yaf (a0.toNat*a1.toNat / 18446744073709551616),yaf (a0.toNat*a1.toNat % 18446744073709551616))
noncomputable def Zug (F:Nat):Fs ya:={ ZdS F with M:=fun x=>ZeX F x.1 x.2}
noncomputable def ZgQ:Fs ya:=Zug fuel
theorem Zlg:ZgQ.Ok:=Zl0 (s:=ZdS fuel) Zsz fun x=>(ZGa x.1 x.2).symm
end Go.Proofs.YtmkgbalfkhaflaaGreat
end
section
set_option maxRecDepth 4000
namespace Go.Proofs.YtmkgbalfkhaflaaGreat
open Go Go.Ev
noncomputable section
def Yl (F:Nat) (a0:UInt64) (a1:UInt64):Option (UInt64):=
 (ZeX F a0 a1).bind fun o42=>
 (VI F o42.1 o42.2 (4611686018427377339:UInt64)).bind fun o43=>
 some o43
def ZsA (F:Nat):Fs ya:=⟨155,[.v .u64,.v .u64],[],[.u64,.u64],[⟨.ret,[(0,.v .u64)],[],[.u64]⟩],fun x=>Yl F x.1 x.2⟩
def Zfj:Fs ya:=ZsA fuel
theorem ZiU:Zfj.Ok:=Ze (fi:={ hi:={ still:=[4,8,9,13,14]},lp:=[]}) (specs:={ l:=[ZgQ,Zc6]}) (okS ⟨Zlg,Zfi,trivial⟩) trivial (by decide+kernel) (fun x=>by kernel_rfl)
def WD (F:Nat) (s:(UInt64×UInt64×UInt64)):Option ((UInt64×UInt64×UInt64)⊕UInt64):=
 if (decide (s.2.1 > 0))=true then
  if ((s.2.1&&&1)==1)=true then
   (Yl F s.2.2 s.1).bind fun o44=>
   (Yl F s.1 s.1).bind fun o45=>
   some (.inl (o45,Zx s.2.1 1,o44))
  else
  (Yl F s.1 s.1).bind fun o46=>
  some (.inl (o46,Zx s.2.1 1,s.2.2))
 else
 some (.inr s.2.2)
def ZhE:Lp:=⟨[(0,.v .u64),(1,.v .u64),(5,.v .u64)],[],[.u64,.u64,.u64],[⟨.exit 0,[(5,.v .u64)],[],[.u64]⟩],Zc (WD fuel) fuel⟩
theorem Zl1:ZhE.Ok ya (Zl ya 127) (Zk ya 127 0):=Zg (fi:={ hi:={ still:=[4,13,14,16,17]},lp:=[]}) (specs:={ l:=[Zfj]}) (okS ⟨ZiU,trivial⟩) trivial (by kernel_rfl) (fun v=>by kernel_rfl)
def Zfk (F:Nat) (a0:UInt64) (a1:UInt64):Option (UInt64):=
 (Zc (WD F) F (a0,a1,(1:UInt64))).bind fun o47=>
 some o47
def Zci (F:Nat):Fs ya:=⟨127,[.v .u64,.v .u64],[],[.u64,.u64],[⟨.ret,[(0,.v .u64)],[],[.u64]⟩],fun x=>Zfk F x.1 x.2⟩
def ZsB:Fs ya:=Zci fuel
theorem Zqg:ZsB.Ok:=Ze (fi:={ hi:={ still:=[4,13,14,16,17]},lp:=[(0,ZhE)]}) (specs:={ l:=[]}) (okS trivial) ⟨Zl1,trivial⟩ (by decide+kernel) (fun x=>by kernel_rfl)
end
end Go.Proofs.YtmkgbalfkhaflaaGreat
end
section
namespace Go.Ev
def Pr (r:Nat):Prop:=1 < r∧∀k,0 < k→k < r→Nat.gcd k r=1
theorem php:∀(n:Nat) (f:Nat→Nat),(∀i,i≤n→f i < n)→∃i j,i < j∧j≤n∧f i=f j
 |0,f,h=>absurd (h 0 (yi _)) (Nat.not_lt_zero _)
 |n+1,f,h=>by
  by_cases hc:∃i,i≤n∧f i=f (n+1)
  ·obtain ⟨i,h1,h2⟩:=hc
   exact ⟨i,n+1,by omega,yi _,h2⟩
  have hne:∀i,i≤n→f i≠f (n+1):=fun i hi e=>hc ⟨i,hi,e⟩
  have hv:=h (n+1) (yi _)
  obtain ⟨i,j,h1,h2,h3⟩:=php n (fun i=>if f i > f (n+1) then f i - 1 else f i) (fun i hi=>by
   have a:=h i (by omega)
   have b:=hne i hi
   show (if f i > f (n+1) then f i - 1 else f i) < n
   split <;> omega)
  refine ⟨i,j,h1,by omega, ?_⟩
  have a:=hne i (by omega)
  have b:=hne j (by omega)
  have h3:(if f i > f (n+1) then f i - 1 else f i)=(if f j > f (n+1) then f j - 1 else f j):=h3
  split at h3 <;> split at h3 <;> omega
theorem ZiV {h a m:Nat} (ha:h ^ a % m=1 % m) (k:Nat):h ^ (a*k) % m=1 % m:=by
 rw [Nat.pow_mul,Nat.pow_mod,ha, ←Nat.pow_mod,Nat.one_pow]
theorem Zzs {h a b m:Nat} (ha:h ^ a % m=1 % m) (hb:h ^ b % m=1 % m):h ^ (a % b) % m=1 % m:=by
 have e:a=b*(a / b)+a % b:=(Nat.div_add_mod a b).symm
 rw [e,Nat.pow_add,Nat.mul_mod,ZiV hb, ←Nat.mul_mod,Nat.one_mul] at ha
 exact ha
theorem ZpE {h m:Nat} (a b:Nat) (ha:h ^ a % m=1 % m) (hb:h ^ b % m=1 % m):h ^ (Nat.gcd a b) % m=1 % m:=by
 induction a,b using Nat.gcd.induction with
 |H0 n=>rw [Nat.gcd_zero_left];exact hb
 |H1 a b h0 ih=>
  rw [Nat.gcd_rec]
  exact ih (Zzs hb ha) ha
theorem ZGb {h r m i j:Nat} (hr:h ^ r % m=1 % m) (hi:i < j) (hj:j < r) (e:h ^ i % m=h ^ j % m):h ^ (j - i) % m=1 % m:=by
 have h1:h ^ i*h ^ (r - i)=h ^ r:=by rw [←Nat.pow_add];congr 1;omega
 have h2:h ^ j*h ^ (r - i)=h ^ (j - i)*h ^ r:=by rw [←Nat.pow_add, ←Nat.pow_add];congr 1;omega
 have h3:h ^ j*h ^ (r - i) % m=1 % m:=by rw [Nat.mul_mod, ←e, ←Nat.mul_mod,h1,hr]
 rw [h2,Nat.mul_mod,hr, ←Nat.mul_mod,Nat.mul_one] at h3
 exact h3
theorem ZBj {h r m i:Nat} (hm:1 < m) (hr:h ^ r % m=1 % m) (hi:i≤r):h ^ i % m≠0:=by
 intro e
 have h1:h ^ i*h ^ (r - i)=h ^ r:=by rw [←Nat.pow_add];congr 1;omega
 rw [←h1,Nat.mul_mod,e,Nat.zero_mul,Nat.zero_mod,yai hm] at hr
 omega
theorem ZBk {h r c:Nat} (hr:Pr r) (hc:1 < c) (h1:h ^ r % c=1 % c) (h2:h % c≠1 % c):r < c:=by
 rcases ybt r c with k|k
 ·exact k
 exfalso
 obtain ⟨i,j,a,b,e⟩:=php (c - 1) (fun i=>h ^ i % c - 1) (fun i hi=>by
  have:=ybd (h ^ i) (show c > 0 by omega)
  have:=ZBj hc h1 (i:=i) (by omega)
  show h ^ i % c - 1 < c - 1
  omega)
 have q1:=ZBj hc h1 (i:=i) (by omega)
 have q2:=ZBj hc h1 (i:=j) (by omega)
 have e:h ^ i % c - 1=h ^ j % c - 1:=e
 have h3:=ZGb h1 a (by omega) (show h ^ i % c=h ^ j % c by omega)
 have h4:=ZpE _ _ h3 h1
 rw [hr.2 (j - i) (by omega) (by omega),Nat.pow_one] at h4
 exact h2 h4
theorem ZCy {n r:Nat} (h:Nat) (hr:Pr r) (hn:1 < n) (hs:n≤r*r) (h1:h ^ r % n=1 % n) (h0:0 < h) (h2:Nat.gcd (h - 1) n=1):Pr n:=by
 refine ⟨hn,fun k k0 kn=> ?_⟩
 have dn:Nat.gcd k n ∣ n:=Nat.gcd_dvd_right k n
 have dk:Nat.gcd k n ∣ k:=Nat.gcd_dvd_left k n
 have d0:0 < Nat.gcd k n:=Nat.gcd_pos_of_pos_left _ k0
 have dl:Nat.gcd k n≤k:=Nat.le_of_dvd k0 dk
 generalize Nat.gcd k n=d at*
 by_cases d1:d=1
 ·exact d1
 exfalso
 have great:∀c,1 < c→c ∣ n→r < c:=fun c c1 cn=>by
  refine ZBk (h:=h) hr c1 ?_ fun e=> ?_
  ·obtain ⟨q,rfl⟩:=cn
   have:=congrArg (· % c) h1
   simp only [Nat.mod_mul_right_mod] at this
   exact this
  ·have k1:c ∣ h - 1:=Nat.dvd_of_mod_eq_zero (Nat.sub_mod_eq_zero_of_mod_eq e)
   have:=Nat.dvd_gcd k1 cn
   rw [h2] at this
   have:=Nat.le_of_dvd (by omega) this
   omega
 obtain ⟨e,rfl⟩:=dn
 have e1:1 < e:=by
  rcases ybt 1 e with h|h
  ·exact h
  ·have:d*e≤d*1:=Nat.mul_le_mul_left _ h
   omega
 have a:=great d (by omega) (Nat.dvd_mul_right ..)
 have b:=great e e1 (Nat.dvd_mul_left ..)
 have:=Nat.mul_le_mul (show r+1≤d from a) (show r+1≤e from b)
 rw [yap,Nat.mul_add] at this
 omega
def ZCz (n:Nat):Nat→Bool
 |0=>true
 |k+1=>(decide (k < 1) || !(n % (k+1)==0))&&ZCz n k
theorem ZsC {n:Nat}:∀{k:Nat},ZCz n k=true→∀d,1 < d→d≤k→¬d ∣ n
 |0,_,d,h1,h2=>by omega
 |k+1,h,d,h1,h2=>by
  simp only [ZCz,yg,Bool.or_eq_true,decide_eq_true_eq,Bool.not_eq_true',beq_eq_false_iff_ne] at h
  rcases ybt d (k+1) with c|c
  ·exact ZsC h.2 d h1 (by omega)
  ·have:d=k+1:=by omega
   subst this
   rcases h.1 with h|h
   ·omega
   ·intro q
    exact h (Nat.mod_eq_zero_of_dvd q)
theorem ZGc {n s:Nat} (hn:1 < n) (hs:n < (s+1)*(s+1)) (h:ZCz n s=true):Pr n:=by
 refine ⟨hn,fun k k0 kn=> ?_⟩
 have dn:Nat.gcd k n ∣ n:=Nat.gcd_dvd_right k n
 have d0:0 < Nat.gcd k n:=Nat.gcd_pos_of_pos_left _ k0
 have dl:Nat.gcd k n≤k:=Nat.le_of_dvd k0 (Nat.gcd_dvd_left k n)
 generalize Nat.gcd k n=d at*
 by_cases d1:d=1
 ·exact d1
 exfalso
 obtain ⟨e,rfl⟩:=dn
 have e1:1 < e:=by
  rcases ybt 1 e with h|h
  ·exact h
  ·have:d*e≤d*1:=Nat.mul_le_mul_left _ h
   omega
 rcases ybt s d with a|a
 ·rcases ybt s e with b|b
  ·have:=Nat.mul_le_mul (show s+1≤d from a) (show s+1≤e from b)
   omega
  ·exact ZsC h e e1 b (Nat.dvd_mul_left ..)
 ·exact ZsC h d (by omega) a (Nat.dvd_mul_right ..)
def pwm (m:Nat):Nat→Nat→Nat→Nat→Nat
 |0,_,_,o=>o
 |f+1,a,n,o=>if n=0 then o else pwm m f (a*a % m) (n / 2) (if n % 2=1 then o*a % m else o)
theorem Zw9 {m:Nat}:∀(k a n o:Nat),n < 2 ^ k→pwm m k a n o % m=o*a ^ n % m
 |0,a,n,o,h=>by
  have:n=0:=by rw [Nat.pow_zero] at h;omega
  subst this
  rw [pwm,Nat.pow_zero,Nat.mul_one]
 |k+1,a,n,o,h=>by
  rw [pwm]
  by_cases h0:n=0
  ·rw [if_pos h0,h0,Nat.pow_zero,Nat.mul_one]
  rw [if_neg h0,Zw9 k _ _ _ (by rw [Nat.pow_succ] at h;omega)]
  have e:a ^ n=(a*a) ^ (n / 2)*a ^ (n % 2):=by
   rw [←Nat.pow_two, ←Nat.pow_mul, ←Nat.pow_add]
   congr 1
   omega
  have e2:(a*a % m) ^ (n / 2) % m=(a*a) ^ (n / 2) % m:=(Nat.pow_mod ..).symm
  rw [e]
  split
  ·rename_i h1
   rw [h1,Nat.pow_one,Nat.mul_mod,e2, ←Nat.mul_mod,Nat.mul_mod,Nat.mod_mod, ←Nat.mul_mod]
   congr 1
   rw [Nat.mul_assoc,ybe a]
  ·rename_i h1
   have:n % 2=0:=by omega
   rw [this,Nat.pow_zero,Nat.mul_one,Nat.mul_mod,e2, ←Nat.mul_mod]
theorem ZsD {m a n z:Nat} (k:Nat) (h:n < 2 ^ k) (e:pwm m k a n 1 % m=z):a ^ n % m=z:=by
 have:=Zw9 (m:=m) k a n 1 h
 rw [Nat.one_mul] at this
 rw [←this,e]
def pc0:Nat:=7930907
def pc1:Nat:=11864636873
def pc2:Nat:=1732236983459
def pc3:Nat:=249442125618097
def ord:Nat:=2305843009213688669
def mdl:Nat:=4611686018427377339
theorem pr0:Pr pc0:=ZGc (s:=2816) (by decide) (by decide) (by decide+kernel)
theorem pr1:Pr pc1:=ZCy 409113128 pr0 (by decide) (by decide) (ZsD 23 (by decide) (by decide+kernel)) (by decide) (by decide+kernel)
theorem pr2:Pr pc2:=ZCy 353522539148 pr1 (by decide) (by decide) (ZsD 34 (by decide) (by decide+kernel)) (by decide) (by decide+kernel)
theorem pr3:Pr pc3:=ZCy 117107719143424 pr2 (by decide) (by decide) (ZsD 41 (by decide) (by decide+kernel)) (by decide) (by decide+kernel)
theorem pr4:Pr ord:=ZCy 732368710688439132 pr3 (by decide) (by decide) (ZsD 48 (by decide) (by decide+kernel)) (by decide) (by decide+kernel)
def Zad (a:Nat):Prop:=0 < a∧a < mdl∧a ^ ord % mdl=1
theorem ZKt {a:Nat} (h:a < mdl) (e:a ^ ord % mdl=1):Zad a:=by
 refine ⟨?_,h,e⟩
 rcases ybx a with h0|h0
 ·subst h0
  rw [Nat.zero_pow (by decide)] at e
  cases e
 ·exact h0
theorem ZJJ:Zad 1:=⟨by decide,by decide,by rw [Nat.one_pow];decide⟩
theorem ZGd:Zad 4:=⟨by decide,by decide,ZsD 61 (by decide) (by decide+kernel)⟩
theorem ZJK {a:Nat} (ha:Zad a) (n:Nat):Zad (a ^ n % mdl):=by
 refine ZKt (ybd _ (by decide)) ?_
 rw [←Nat.pow_mod, ←Nat.pow_mul,ybe]
 exact ZiV (m:=mdl) ha.2.2 n
theorem ZH7 {a:Nat} (ha:Zad a) (n:Nat):a ^ (n % ord) % mdl=a ^ n % mdl:=by
 have e:n=ord*(n / ord)+n % ord:=(Nat.div_add_mod n _).symm
 have h:=ZiV (m:=mdl) (k:=n / ord) ha.2.2
 conv=>rhs;rw [e]
 rw [Nat.pow_add,Nat.mul_mod,h, ←Nat.mul_mod,Nat.one_mul]
theorem ZJL {k:Nat} (h0:0 < k) (h1:k < ord):4 ^ k % mdl≠1:=by
 intro e
 have:=ZpE (h:=4) (m:=mdl) k _ e ZGd.2.2
 rw [pr4.2 k h0 h1] at this
 revert this
 decide
end Go.Ev
end
section
set_option maxRecDepth 4000
namespace Go.Proofs.YtmkgbalfkhaflaaGreat
open Go Go.Ev
theorem ZGe {z:Nat}:(yaf (z % 4611686018427377339)).toNat=z % 4611686018427377339:=by
 rw [ybc,yai]
 exact Nat.lt_trans (ybd _ (by decide)) (by decide)
theorem ZGf (a b:UInt64):Yl fuel a b=some (yaf (a.toNat*b.toNat % 4611686018427377339)):=by
 unfold Yl ZeX
 rw [yb]
 dsimp only
 unfold VI
 rw [if_pos (by decide),yb,ybc,ybc]
 have h:a.toNat*b.toNat < 18446744073709551616*18446744073709551616:=Nat.mul_lt_mul'' (ybg a) (ybg b)
 have h2:a.toNat*b.toNat / 18446744073709551616 < 18446744073709551616:=(Nat.div_lt_iff_lt_mul (by decide)).2 h
 generalize a.toNat*b.toNat=z at*
 rw [show (4611686018427377339:UInt64).toNat=4611686018427377339 from rfl]
 have e:z / 18446744073709551616 % 2 ^ 64*18446744073709551616+z % 18446744073709551616 % 2 ^ 64=z:=by omega
 rw [e]
theorem ZsE:∀(k m:Nat) (A N O:UInt64),N.toNat < 2 ^ k→k < m→Zc (WD fuel) m (A,N,O)=some (yaf (pwm 4611686018427377339 k A.toNat N.toNat O.toNat))
 |k,0,_,_,_,_,h=>by omega
 |0,m+1,A,N,O,h,_=>by
  have hn:¬N > 0:=by
   intro h2
   have h3:0 < N.toNat:=ybs.1 h2
   rw [Nat.pow_zero] at h
   omega
  have hs:WD fuel (A,N,O)=if decide (N > 0)=true then (if ((N&&&1)==1)=true then (Yl fuel O A).bind fun o1=>(Yl fuel A A).bind fun o2=>some (.inl (o2,Zx N 1,o1)) else (Yl fuel A A).bind fun o2=>some (.inl (o2,Zx N 1,O))) else some (.inr O):=rfl
  unfold Zc
  rw [hs]
  rw [if_neg (by rw [decide_eq_true_iff];exact hn),yb,pwm,UInt64.ofNat_toNat]
 |k+1,m+1,A,N,O,h,hm=>by
  have hs:WD fuel (A,N,O)=if decide (N > 0)=true then (if ((N&&&1)==1)=true then (Yl fuel O A).bind fun o1=>(Yl fuel A A).bind fun o2=>some (.inl (o2,Zx N 1,o1)) else (Yl fuel A A).bind fun o2=>some (.inl (o2,Zx N 1,O))) else some (.inr O):=rfl
  unfold Zc
  rw [hs]
  by_cases h2:N > 0
  ·have hp:0 < N.toNat→pwm 4611686018427377339 (k+1) A.toNat N.toNat O.toNat=pwm 4611686018427377339 k (A.toNat*A.toNat % 4611686018427377339) (N.toNat / 2) (if N.toNat % 2=1 then O.toNat*A.toNat % 4611686018427377339 else O.toNat):=fun h=>by
    rw [pwm,if_neg (by omega)]
   have h3:0 < N.toNat:=ybs.1 h2
   have hsh:(Zx N 1).toNat=N.toNat / 2:=by
    unfold Zx
    rw [ybc,yai (Nat.lt_of_le_of_lt (Nat.div_le_self ..) (ybg _))]
   have hlt:(Zx N 1).toNat < 2 ^ k:=by
    rw [hsh]
    rw [Nat.pow_succ] at h
    omega
   have hand:((N&&&1)==1)=decide (N.toNat % 2=1):=by
    rw [Bool.eq_iff_iff,beq_iff_eq,decide_eq_true_iff, ←UInt64.toNat_inj,UInt64.toNat_and]
    exact Iff.of_eq (congrArg (· =1) (Nat.and_one_is_mod _))
   rw [if_pos (decide_eq_true h2),hand,hp h3]
   simp only [ZGf]
   by_cases h4:N.toNat % 2=1
   ·rw [if_pos (decide_eq_true h4),if_pos h4,yb,yb,yb]
    dsimp only
    rw [ZsE k m _ _ _ hlt (by omega),ZGe,ZGe,hsh]
   ·rw [if_neg (by rw [decide_eq_true_iff];exact h4),if_neg h4,yb,yb]
    dsimp only
    rw [ZsE k m _ _ _ hlt (by omega),ZGe,hsh]
  ·have h3:N.toNat=0:=by
    rcases ybx N.toNat with h5|h5
    ·exact h5
    ·exact absurd (show (0:UInt64) < N from ybs.2 h5) h2
   rw [if_neg (by rw [decide_eq_true_iff];exact h2),yb,pwm,if_pos h3,UInt64.ofNat_toNat]
theorem ZGg (a n:UInt64):Zfk fuel a n=some (yaf (pwm 4611686018427377339 64 a.toNat n.toNat 1)):=by
 unfold Zfk
 rw [ZsE 64 fuel a n 1 (ybg _) (by rw [Zbo];omega),yb]
 rfl
noncomputable def V2 (F:Nat) (a0:UInt64) (a1:UInt64):Option UInt64:=some (yaf (pwm 4611686018427377339 64 a0.toNat a1.toNat 1))
noncomputable def ZsF (F:Nat):Fs ya:={ Zci F with M:=fun x=>V2 F x.1 x.2}
noncomputable def Zbq:Fs ya:=ZsF fuel
theorem ZdT:Zbq.Ok:=Zl0 (s:=Zci fuel) Zqg fun x=>(ZGg x.1 x.2).symm
end Go.Proofs.YtmkgbalfkhaflaaGreat
end
section
set_option maxRecDepth 4000
namespace Go.Proofs.YtmkgbalfkhaflaaGreat
open Go Go.Ev
noncomputable section
def Xm (F:Nat) (a0:UInt64):Option (Bool):=
 if (decide (a0 > 0))=true then
  if (decide (a0 < 4611686018427377339))=true then
   (V2 F a0 (2305843009213688669:UInt64)).bind fun o48=>
   some (o48==1)
  else
  some false
 else
 some false
def ZsG (F:Nat):Fs ya:=⟨70,[.v .u64],[],[.u64],[⟨.ret,[(0,.v .bool)],[],[.bool]⟩],fun x=>Xm F x⟩
def Vc:Fs ya:=ZsG fuel
theorem VJ:Vc.Ok:=Ze (fi:={ hi:={ still:=[2,10]},lp:=[]}) (specs:={ l:=[Zbq]}) (okS ⟨ZdT,trivial⟩) trivial (by decide+kernel) (fun x=>by kernel_rfl)
def Vd (F:Nat) (a0:UInt64):Option (Bool):=
 (Xm F a0).bind fun o49=>
 some (!o49)
def Zqh (F:Nat):Fs ya:=⟨69,[.v .u64],[],[.u64],[⟨.ret,[(0,.v .bool)],[],[.bool]⟩],fun x=>Vd F x⟩
def ZdU:Fs ya:=Zqh fuel
theorem ZhF:ZdU.Ok:=Ze (fi:={ hi:={ still:=[2,3]},lp:=[]}) (specs:={ l:=[Vc]}) (okS ⟨VJ,trivial⟩) trivial (by decide+kernel) (fun x=>by kernel_rfl)
def WS (F:Nat) (a0:Int):Option (Bool):=
 if (decide (a0 ≥ 0))=true then
  some (decide (a0≤1048576))
 else
 some false
def ZsH (F:Nat):Fs ya:=⟨72,[.v (.int .i64)],[],[(.int .i64)],[⟨.ret,[(0,.v .bool)],[],[.bool]⟩],fun x=>WS F x⟩
def Zlh:Fs ya:=ZsH fuel
theorem ZsI:Zlh.Ok:=Ze (fi:={ hi:={ still:=[2]},lp:=[]}) (specs:={ l:=[]}) (okS trivial) trivial (by decide+kernel) (fun x=>by kernel_rfl)
def YR (F:Nat) (s:((List UInt64)×Int×Int)):Option (((List UInt64)×Int×Int)⊕(Int⊕Unit)):=
 if (decide (s.2.2 < s.2.1))=true then
  (idx s.1 s.2.2).bind fun e51=>
  (Vd F e51).bind fun o52=>
  if o52=true then
   some (.inr (.inl s.2.2))
  else
  some (.inl (s.1,s.2.1,wi (s.2.2+1)))
 else
 some (.inr (.inr ()))
def Zf1:Lp:=⟨[(0,.v (.sl .u64)),(1,.fn 69 []),(7,.v (.int .i64)),(8,.v (.int .i64))],[],[(.sl .u64),(.int .i64),(.int .i64)],[⟨.ret,[(4,.v (.int .i64))],[],[(.int .i64)]⟩,⟨.exit 0,[],[],[]⟩],Zc (YR fuel) fuel⟩
theorem Zkz:Zf1.Ok ya (Zl ya 128) (Zk ya 128 0):=Zg (fi:={ hi:={ still:=[4,15]},lp:=[]}) (specs:={ l:=[ZdU]}) (okS ⟨ZhF,trivial⟩) trivial (by kernel_rfl) (fun v=>by kernel_rfl)
def Zae (F:Nat) (a0:(List UInt64)):Option (Int):=
 (Zc (YR F) F (a0,(a0.length:Int),(0:Int))).bind fun o53=>
 match o53 with
 |.inl o54=>
  some o54
 |.inr o55=>
  some (-1:Int)
def ZoB (F:Nat):Fs ya:=⟨128,[.v (.sl .u64),.fn 69 []],[],[(.sl .u64)],[⟨.ret,[(0,.v (.int .i64))],[],[(.int .i64)]⟩],fun x=>Zae F x⟩
def ZhG:Fs ya:=ZoB fuel
theorem ZoC:ZhG.Ok:=Ze (fi:={ hi:={ still:=[4,15]},lp:=[(0,Zf1)]}) (specs:={ l:=[]}) (okS trivial) ⟨Zkz,trivial⟩ (by decide+kernel) (fun x=>by kernel_rfl)
def Za8 (F:Nat) (a0:(List UInt64)):Option (Bool):=
 (Zae F a0).bind fun o56=>
 some (decide (o56 ≥ 0))
def Zxa (F:Nat):Fs ya:=⟨71,[.v (.sl .u64),.fn 69 []],[],[(.sl .u64)],[⟨.ret,[(0,.v .bool)],[],[.bool]⟩],fun x=>Za8 F x⟩
def ZpF:Fs ya:=Zxa fuel
theorem Zxb:ZpF.Ok:=Ze (fi:={ hi:={ still:=[4,5,6]},lp:=[]}) (specs:={ l:=[ZhG]}) (okS ⟨ZoC,trivial⟩) trivial (by decide+kernel) (fun x=>by kernel_rfl)
def XR (F:Nat) (s:((List ZO)×Int×Int×Lock)):Option (((List ZO)×Int×Int×Lock)⊕((Bool×Lock)⊕Lock)):=
 if (decide (s.2.2.1 < s.2.1))=true then
  (idx s.1 s.2.2.1).bind fun e50=>
  if (decide ((e50.1.length:Int) > 12))=true then
   some (.inr (.inl (false,s.2.2.2)))
  else
  (Za8 F e50.1).bind fun o57=>
  if o57=true then
   some (.inr (.inl (false,s.2.2.2)))
  else
  (WS F e50.2.1).bind fun o58=>
  if (!o58)=true then
   some (.inr (.inl (false,s.2.2.2)))
  else
  (WS F e50.2.2.1).bind fun o59=>
  if (!o59)=true then
   some (.inr (.inl (false,s.2.2.2)))
  else
  if (e50.2.2.2 !=0)=true then
   (Vd F e50.2.2.2).bind fun o60=>
   if o60=true then
    some (.inr (.inl (false,s.2.2.2)))
   else
   some (.inl (s.1,s.2.1,wi (s.2.2.1+1),s.2.2.2))
  else
  some (.inl (s.1,s.2.1,wi (s.2.2.1+1),s.2.2.2))
 else
 some (.inr (.inr s.2.2.2))
def Zli:Lp:=⟨[(1,.ref 0 []),(3,.fn 69 []),(7,.v (.sl Zw)),(8,.v (.int .i64)),(9,.v (.int .i64))],[.var (.v ZK) true],[(.sl Zw),(.int .i64),(.int .i64),ZK],[⟨.ret,[(2,.v .bool)],[.var (.v ZK) true],[.bool,ZK]⟩,⟨.exit 0,[(1,.ref 0 [])],[.var (.v ZK) true],[ZK]⟩],Zc (XR fuel) fuel⟩
theorem ZoD:Zli.Ok ya (Zl ya 24) (Zk ya 24 0):=Zg (fi:={ hi:={ still:=[2,19,20,25,31,42]},lp:=[]}) (specs:={ l:=[ZpF,Zlh,ZdU]}) (okS ⟨Zxb,ZsI,ZhF,trivial⟩) trivial (by kernel_rfl) (fun v=>by kernel_rfl)
def YC (F:Nat) (a0:Lock):Option (Bool):=
 (Zc (XR F) F (a0,(a0.length:Int),(0:Int),a0)).bind fun o61=>
 match o61 with
 |.inl o62=>
  some o62.1
 |.inr o63=>
  if (decide ((o63.length:Int) > 0))=true then
   some (decide ((o63.length:Int)≤4))
  else
  some false
def Zfl (F:Nat):Fs ya:=⟨24,[.v ZK],[],[ZK],[⟨.ret,[(0,.v .bool)],[],[.bool]⟩],fun x=>YC F x⟩
def V3:Fs ya:=Zfl fuel
theorem Ve:V3.Ok:=Ze (fi:={ hi:={ still:=[2,19,20,25,31,42]},lp:=[(0,Zli)]}) (specs:={ l:=[]}) (okS trivial) ⟨ZoD,trivial⟩ (by decide+kernel) (fun x=>by kernel_rfl)
def ZdV (F:Nat) (a0:Int):Option (Bool):=
 if (decide (a0 ≥ 0))=true then
  some (decide (a0≤1125899906842624))
 else
 some false
def Zxc (F:Nat):Fs ya:=⟨129,[.v (.int .i64)],[],[(.int .i64)],[⟨.ret,[(0,.v .bool)],[],[.bool]⟩],fun x=>ZdV F x⟩
def ZpG:Fs ya:=Zxc fuel
theorem Zxd:ZpG.Ok:=Ze (fi:={ hi:={ still:=[2]},lp:=[]}) (specs:={ l:=[]}) (okS trivial) trivial (by decide+kernel) (fun x=>by kernel_rfl)
def Zf2 (F:Nat) (a0:Int) (a1:Int):Option ((Int×Bool)):=
 (ZdV F a0).bind fun o64=>
 if (!o64)=true then
  some ((0:Int),false)
 else
 (ZdV F a1).bind fun o65=>
 if (!o65)=true then
  some ((0:Int),false)
 else
 if (decide (a0 > (wi (1125899906842624 - a1))))=true then
  some ((0:Int),false)
 else
 some (wi (a0+a1),true)
def ZBl (F:Nat):Fs ya:=⟨74,[.v (.int .i64),.v (.int .i64)],[],[(.int .i64),(.int .i64)],[⟨.ret,[(0,.tup [.v (.int .i64),.v .bool])],[],[(.int .i64),.bool]⟩],fun x=>Zf2 F x.1 x.2⟩
def ZoE:Fs ya:=ZBl fuel
theorem ZsJ:ZoE.Ok:=Ze (fi:={ hi:={ still:=[4,5,6,10]},lp:=[]}) (specs:={ l:=[ZpG]}) (okS ⟨Zxd,trivial⟩) trivial (by decide+kernel) (fun x=>by kernel_rfl)
def YS (F:Nat) (a0:Int) (a1:Int) (a2:Int):Option (Bool):=
 if (decide (a1≤a0))=true then
  some (decide (a0≤a2))
 else
 some false
def ZoF (F:Nat):Fs ya:=⟨159,[.v (.int .i64),.v (.int .i64),.v (.int .i64)],[],[(.int .i64),(.int .i64),(.int .i64)],[⟨.ret,[(0,.v .bool)],[],[.bool]⟩],fun x=>YS F x.1 x.2.1 x.2.2⟩
def ZhH:Fs ya:=ZoF fuel
theorem ZoG:ZhH.Ok:=Ze (fi:={ hi:={ still:=[6]},lp:=[]}) (specs:={ l:=[]}) (okS trivial) trivial (by decide+kernel) (fun x=>by kernel_rfl)
def Zc8 (F:Nat) (a0:VF):Option (Bool):=
 (YS F a0.1 (0:Int) (65536:Int)).bind fun o66=>
 if o66=true then
  (YS F a0.2.2.1 (1:Int) (4096:Int)).bind fun o67=>
  if o67=true then
   (YS F a0.2.2.2.1 (0:Int) (16:Int)).bind fun o68=>
   if o68=true then
    (YS F a0.2.1 a0.1 (1125899906842624:Int)).bind fun o69=>
    if o69=true then
     (YS F a0.2.2.2.2.1 (1:Int) (1125899906842624:Int)).bind fun o70=>
     if o70=true then
      (YS F a0.2.2.2.2.2 (0:Int) (1125899906842624:Int)).bind fun o71=>
      some o71
     else
     some false
    else
    some false
   else
   some false
  else
  some false
 else
 some false
def ZsK (F:Nat):Fs ya:=⟨120,[.v Zcg],[],[Zcg],[⟨.ret,[(0,.v .bool)],[],[.bool]⟩],fun x=>Zc8 F x⟩
def Zlj:Fs ya:=ZsK fuel
theorem ZsL:Zlj.Ok:=Ze (fi:={ hi:={ still:=[2,7,12,18,25,27,33,39]},lp:=[]}) (specs:={ l:=[ZhH]}) (okS ⟨ZoG,trivial⟩) trivial (by decide+kernel) (fun x=>by kernel_rfl)
def Zcj (F:Nat) (a0:UInt64):Option (Bool):=
 if (a0==1)=true then
  some true
 else
 (Xm F a0).bind fun o72=>
 some (!o72)
def Zm6 (F:Nat):Fs ya:=⟨160,[.v .u64],[],[.u64],[⟨.ret,[(0,.v .bool)],[],[.bool]⟩],fun x=>Zcj F x⟩
def Zf3:Fs ya:=Zm6 fuel
theorem Zm7:Zf3.Ok:=Ze (fi:={ hi:={ still:=[2,6]},lp:=[]}) (specs:={ l:=[Vc]}) (okS ⟨VJ,trivial⟩) trivial (by decide+kernel) (fun x=>by kernel_rfl)
def Wa (F:Nat) (s:((List UInt64)×Int×Int)):Option (((List UInt64)×Int×Int)⊕(Int⊕Unit)):=
 if (decide (s.2.2 < s.2.1))=true then
  (idx s.1 s.2.2).bind fun e73=>
  (Zcj F e73).bind fun o74=>
  if o74=true then
   some (.inr (.inl s.2.2))
  else
  some (.inl (s.1,s.2.1,wi (s.2.2+1)))
 else
 some (.inr (.inr ()))
def ZcE:Lp:=⟨[(0,.v (.sl .u64)),(1,.fn 160 []),(7,.v (.int .i64)),(8,.v (.int .i64))],[],[(.sl .u64),(.int .i64),(.int .i64)],[⟨.ret,[(4,.v (.int .i64))],[],[(.int .i64)]⟩,⟨.exit 0,[],[],[]⟩],Zc (Wa fuel) fuel⟩
theorem ZgR:ZcE.Ok ya (Zl ya 128) (Zk ya 128 0):=Zg (fi:={ hi:={ still:=[4,15]},lp:=[]}) (specs:={ l:=[Zf3]}) (okS ⟨Zm7,trivial⟩) trivial (by kernel_rfl) (fun v=>by kernel_rfl)
def Zaf (F:Nat) (a0:(List UInt64)):Option (Int):=
 (Zc (Wa F) F (a0,(a0.length:Int),(0:Int))).bind fun o75=>
 match o75 with
 |.inl o76=>
  some o76
 |.inr o77=>
  some (-1:Int)
def ZkA (F:Nat):Fs ya:=⟨128,[.v (.sl .u64),.fn 160 []],[],[(.sl .u64)],[⟨.ret,[(0,.v (.int .i64))],[],[(.int .i64)]⟩],fun x=>Zaf F x⟩
def ZdW:Fs ya:=ZkA fuel
theorem ZkB:ZdW.Ok:=Ze (fi:={ hi:={ still:=[4,15]},lp:=[(0,ZcE)]}) (specs:={ l:=[]}) (okS trivial) ⟨ZgR,trivial⟩ (by decide+kernel) (fun x=>by kernel_rfl)
def Zfm (F:Nat) (a0:(List UInt64)):Option (Bool):=
 (Zaf F a0).bind fun o78=>
 some (decide (o78 ≥ 0))
def Zqi (F:Nat):Fs ya:=⟨71,[.v (.sl .u64),.fn 160 []],[],[(.sl .u64)],[⟨.ret,[(0,.v .bool)],[],[.bool]⟩],fun x=>Zfm F x⟩
def ZiW:Fs ya:=Zqi fuel
theorem Zqj:ZiW.Ok:=Ze (fi:={ hi:={ still:=[4,5,6]},lp:=[]}) (specs:={ l:=[ZdW]}) (okS ⟨ZkB,trivial⟩) trivial (by decide+kernel) (fun x=>by kernel_rfl)
def Zbr (F:Nat) (a0:WC):Option (Bool):=
 (Zfm F ([a0.1,a0.2.1,a0.2.2.1,a0.2.2.2.1,a0.2.2.2.2]:List UInt64)).bind fun o79=>
 some (!o79)
def Zqk (F:Nat):Fs ya:=⟨121,[.v Vn],[],[Vn],[⟨.ret,[(0,.v .bool)],[],[.bool]⟩],fun x=>Zbr F x⟩
def ZiX:Fs ya:=Zqk fuel
theorem Zql:ZiX.Ok:=Ze (fi:={ hi:={ still:=[2,14,15]},lp:=[]}) (specs:={ l:=[ZiW]}) (okS ⟨Zqj,trivial⟩) trivial (by decide+kernel) (fun x=>by kernel_rfl)
abbrev Zu:Ty:=(.st [Xt,(.int .i64),(.arr 2 Vn),(.arr 2 Zcg),(.int .i64)])
abbrev Z6:Type:=(XQ×Int×(List WC)×(List VF)×Int)
abbrev Z6.Basics (x:Z6):(List WC):=x.2.2.1
abbrev Z6.Terms (x:Z6):(List VF):=x.2.2.2.1
def Zbs (F:Nat) (s:((List VF)×Int×Z6)):Option (((List VF)×Int×Z6)⊕((Int×Z6)⊕Z6)):=
 if (decide (s.2.1 < 2))=true then
  (idx s.1 s.2.1).bind fun e80=>
  (Zc8 F e80).bind fun o81=>
  if (!o81)=true then
   some (.inr (.inl ((1:Int),s.2.2)))
  else
  if (inB s.2.1 2)=true then
   (s.2.2.2.2.1[s.2.1.toNat]?).bind fun e82=>
   (Zbr F e82).bind fun o83=>
   if (!o83)=true then
    some (.inr (.inl ((1:Int),s.2.2)))
   else
   some (.inl (s.1,wi (s.2.1+1),s.2.2))
  else
  none
 else
 some (.inr (.inr s.2.2))
def Zm8:Lp:=⟨[(1,.ref 0 []),(34,.v (.arr 2 Zcg)),(35,.v (.int .i64))],[.var (.v Zu) true],[(.arr 2 Zcg),(.int .i64),Zu],[⟨.ret,[(2,.v (.int .i64))],[.var (.v Zu) true],[(.int .i64),Zu]⟩,⟨.exit 0,[(1,.ref 0 [])],[.var (.v Zu) true],[Zu]⟩],Zc (Zbs fuel) fuel⟩
theorem Zqm:Zm8.Ok ya (Zl ya 62) (Zk ya 62 0):=Zg (fi:={ hi:={ still:=[2,39,46,55,59]},lp:=[]}) (specs:={ l:=[Zlj,ZiX]}) (okS ⟨ZsL,Zql,trivial⟩) trivial (by kernel_rfl) (fun v=>by kernel_rfl)
def ZgS (F:Nat) (a0:Z6):Option (Int):=
 if (decide (a0.2.1 < 1))=true then
  some (1:Int)
 else
 if (decide (a0.2.1 > 1125899906842624))=true then
  some (1:Int)
 else
 if (decide (a0.1.2 < 0))=true then
  some (1:Int)
 else
 if (decide (a0.1.2 ≥ 64))=true then
  some (1:Int)
 else
 if ((bits .andNot .i64 a0.2.2.2.2 1)!=0)=true then
  some (1:Int)
 else
 (Zc (Zbs F) F (a0.2.2.2.1,(0:Int),a0)).bind fun o84=>
 match o84 with
 |.inl o85=>
  some o85.1
 |.inr o86=>
  (o86.2.2.2.1[0]?).bind fun e87=>
  (o86.2.2.2.1[1]?).bind fun e88=>
  (Zf2 F e87.2.1 e88.2.1).bind fun o89=>
  if (!o89.2)=true then
   some (10:Int)
  else
  if (decide (o89.1 > o86.2.1))=true then
   some (10:Int)
  else
  some (0:Int)
def Zxe (F:Nat):Fs ya:=⟨62,[.v Zu],[],[Zu],[⟨.ret,[(0,.v (.int .i64))],[],[(.int .i64)]⟩],fun x=>ZgS F x⟩
def ZpH:Fs ya:=Zxe fuel
theorem Zxf:ZpH.Ok:=Ze (fi:={ hi:={ still:=[2,39,46,55,59]},lp:=[(0,Zm8)]}) (specs:={ l:=[ZoE]}) (okS ⟨ZsJ,trivial⟩) ⟨Zqm,trivial⟩ (by decide+kernel) (fun x=>by kernel_rfl)
def Zck (F:Nat) (a0:Int) (s0:Int) (s1:Int):Option ((Bool×Int×Int)):=
 if (decide (a0 < s0))=true then
  some (true,s0,s1)
 else
 some (decide (a0 > s1),s0,s1)
def Zm9 (F:Nat):Fs ya:=⟨123,[.v (.int .i64),.ref 0 [],.ref 1 []],[.var (.v (.int .i64)) true,.var (.v (.int .i64)) true],[(.int .i64),(.int .i64),(.int .i64)],[⟨.ret,[(0,.v .bool)],[.var (.v (.int .i64)) true,.var (.v (.int .i64)) true],[.bool,(.int .i64),(.int .i64)]⟩],fun x=>Zck F x.1 x.2.1 x.2.2⟩
def Zf4:Fs ya:=Zm9 fuel
theorem Zna:Zf4.Ok:=Ze (fi:={ hi:={ still:=[4]},lp:=[]}) (specs:={ l:=[]}) (okS trivial) trivial (by decide+kernel) (fun x=>by kernel_rfl)
def Yu (F:Nat) (s:((List Int)×Int×Int×Int×Int)):Option (((List Int)×Int×Int×Int×Int)⊕((Int×Int×Int)⊕(Int×Int))):=
 if (decide (s.2.2.1 < s.2.1))=true then
  (idx s.1 s.2.2.1).bind fun e90=>
  (Zck F e90 s.2.2.2.1 s.2.2.2.2).bind fun o91=>
  if o91.1=true then
   some (.inr (.inl (s.2.2.1,o91.2.1,o91.2.2)))
  else
  some (.inl (s.1,s.2.1,wi (s.2.2.1+1),o91.2.1,o91.2.2))
 else
 some (.inr (.inr (s.2.2.2.1,s.2.2.2.2)))
def Vo:Lp:=⟨[(0,.v (.sl (.int .i64))),(1,.fn 123 [.ref 0 [],.ref 1 []]),(7,.v (.int .i64)),(8,.v (.int .i64))],[.var (.v (.int .i64)) true,.var (.v (.int .i64)) true],[(.sl (.int .i64)),(.int .i64),(.int .i64),(.int .i64),(.int .i64)],[⟨.ret,[(4,.v (.int .i64))],[.var (.v (.int .i64)) true,.var (.v (.int .i64)) true],[(.int .i64),(.int .i64),(.int .i64)]⟩,⟨.exit 0,[],[.var (.v (.int .i64)) true,.var (.v (.int .i64)) true],[(.int .i64),(.int .i64)]⟩],Zc (Yu fuel) fuel⟩
theorem Za9:Vo.Ok ya (Zl ya 161) (Zk ya 161 0):=Zg (fi:={ hi:={ still:=[4,15]},lp:=[]}) (specs:={ l:=[Zf4]}) (okS ⟨Zna,trivial⟩) trivial (by kernel_rfl) (fun v=>by kernel_rfl)
def XZ (F:Nat) (a0:(List Int)) (s0:Int) (s1:Int):Option ((Int×Int×Int)):=
 (Zc (Yu F) F (a0,(a0.length:Int),(0:Int),s0,s1)).bind fun o92=>
 match o92 with
 |.inl o93=>
  some (o93.1,o93.2.1,o93.2.2)
 |.inr o94=>
  some ((-1:Int),o94.1,o94.2)
def Zc9 (F:Nat):Fs ya:=⟨161,[.v (.sl (.int .i64)),.fn 123 [.ref 0 [],.ref 1 []]],[.var (.v (.int .i64)) true,.var (.v (.int .i64)) true],[(.sl (.int .i64)),(.int .i64),(.int .i64)],[⟨.ret,[(0,.v (.int .i64))],[.var (.v (.int .i64)) true,.var (.v (.int .i64)) true],[(.int .i64),(.int .i64),(.int .i64)]⟩],fun x=>XZ F x.1 x.2.1 x.2.2⟩
def VK:Fs ya:=Zc9 fuel
theorem Zda:VK.Ok:=Ze (fi:={ hi:={ still:=[4,15]},lp:=[(0,Vo)]}) (specs:={ l:=[]}) (okS trivial) ⟨Za9,trivial⟩ (by decide+kernel) (fun x=>by kernel_rfl)
def Xw (F:Nat) (a0:(List Int)) (s0:Int) (s1:Int):Option ((Bool×Int×Int)):=
 (XZ F a0 s0 s1).bind fun o95=>
 some (decide (o95.1 ≥ 0),o95.2.1,o95.2.2)
def Zba (F:Nat):Fs ya:=⟨122,[.v (.sl (.int .i64)),.fn 123 [.ref 0 [],.ref 1 []]],[.var (.v (.int .i64)) true,.var (.v (.int .i64)) true],[(.sl (.int .i64)),(.int .i64),(.int .i64)],[⟨.ret,[(0,.v .bool)],[.var (.v (.int .i64)) true,.var (.v (.int .i64)) true],[.bool,(.int .i64),(.int .i64)]⟩],fun x=>Xw F x.1 x.2.1 x.2.2⟩
def WI:Fs ya:=Zba fuel
theorem Zbb:WI.Ok:=Ze (fi:={ hi:={ still:=[4,5,6]},lp:=[]}) (specs:={ l:=[VK]}) (okS ⟨Zda,trivial⟩) trivial (by decide+kernel) (fun x=>by kernel_rfl)
def Yp (F:Nat) (a0:Int) (a1:Int) (a2:(List Int)):Option (Bool):=
 (Xw F a2 a0 a1).bind fun o96=>
 some (!o96.1)
def Zqn (F:Nat):Fs ya:=⟨63,[.v (.int .i64),.v (.int .i64),.v (.sl (.int .i64))],[],[(.int .i64),(.int .i64),(.sl (.int .i64))],[⟨.ret,[(0,.v .bool)],[],[.bool]⟩],fun x=>Yp F x.1 x.2.1 x.2.2⟩
def ZdX:Fs ya:=Zqn fuel
theorem ZhI:ZdX.Ok:=Ze (fi:={ hi:={ still:=[6,7,8]},lp:=[]}) (specs:={ l:=[WI]}) (okS ⟨Zbb,trivial⟩) trivial (by decide+kernel) (fun x=>by kernel_rfl)
def ZeY (F:Nat) (a0:ZS):Option (Bool):=
 (Yp F (0:Int) (1:Int) ([a0.1]:List Int)).bind fun o97=>
 if o97=true then
  (Yp F (1:Int) (1048576:Int) ([a0.2.1]:List Int)).bind fun o98=>
  if o98=true then
   (Yp F (1:Int) (1125899906842624:Int) ([a0.2.2.1]:List Int)).bind fun o99=>
   if o99=true then
    (Yp F (1:Int) (1048576:Int) ([a0.2.2.2.2]:List Int)).bind fun o100=>
    if o100=true then
     (Xm F a0.2.2.2.1).bind fun o101=>
     if o101=true then
      some (a0.2.2.2.1 !=1)
     else
     some false
    else
    some false
   else
   some false
  else
  some false
 else
 some false
def Zuh (F:Nat):Fs ya:=⟨64,[.v Xk],[],[Xk],[⟨.ret,[(0,.v .bool)],[],[.bool]⟩],fun x=>ZeY F x⟩
def Znb:Fs ya:=Zuh fuel
theorem Zui:Znb.Ok:=Ze (fi:={ hi:={ still:=[2,5,10,16,22,27]},lp:=[]}) (specs:={ l:=[ZdX,Vc]}) (okS ⟨ZhI,VJ,trivial⟩) trivial (by decide+kernel) (fun x=>by kernel_rfl)
def WE (F:Nat) (s:(Int×(List Int)×Int×Int)):Option ((Int×(List Int)×Int×Int)⊕(Int⊕Int)):=
 if (decide (s.2.2.2 < s.2.2.1))=true then
  (idx s.2.1 s.2.2.2).bind fun e102=>
  if (e102 !=s.1)=true then
   some (.inr (.inl e102))
  else
  some (.inl (s.1,s.2.1,s.2.2.1,wi (s.2.2.2+1)))
 else
 some (.inr (.inr s.1))
def Zlk:Lp:=⟨[(3,.v (.int .i64)),(6,.v (.sl (.int .i64))),(7,.v (.int .i64)),(8,.v (.int .i64))],[],[(.int .i64),(.sl (.int .i64)),(.int .i64),(.int .i64)],[⟨.ret,[(2,.v (.int .i64))],[],[(.int .i64)]⟩,⟨.exit 0,[(3,.v (.int .i64))],[],[(.int .i64)]⟩],Zc (WE fuel) fuel⟩
theorem ZoH:Zlk.Ok ya (Zl ya 124) (Zk ya 124 0):=Zg (fi:={ hi:={ still:=[2]},lp:=[]}) (specs:={ l:=[]}) (okS trivial) trivial (by kernel_rfl) (fun v=>by kernel_rfl)
def ZeZ (F:Nat) (a0:(List Int)):Option (Int):=
 (Zc (WE F) F ((0:Int),a0,(a0.length:Int),(0:Int))).bind fun o103=>
 match o103 with
 |.inl o104=>
  some o104
 |.inr o105=>
  some o105
def Zuj (F:Nat):Fs ya:=⟨124,[.v (.sl (.int .i64))],[],[(.sl (.int .i64))],[⟨.ret,[(0,.v (.int .i64))],[],[(.int .i64)]⟩],fun x=>ZeZ F x⟩
def Znc:Fs ya:=Zuj fuel
theorem Zuk:Znc.Ok:=Ze (fi:={ hi:={ still:=[2]},lp:=[(0,Zlk)]}) (specs:={ l:=[]}) (okS trivial) ⟨ZoH,trivial⟩ (by decide+kernel) (fun x=>by kernel_rfl)
def Zag (F:Nat) (a0:Int):Option (Bool):=
 some (a0 !=a0)
def ZoI (F:Nat):Fs ya:=⟨162,[.v (.int .i64)],[],[(.int .i64)],[⟨.ret,[(0,.v .bool)],[],[.bool]⟩],fun x=>Zag F x⟩
def ZhJ:Fs ya:=ZoI fuel
theorem ZoJ:ZhJ.Ok:=Ze (fi:={ hi:={ still:=[2]},lp:=[]}) (specs:={ l:=[]}) (okS trivial) trivial (by decide+kernel) (fun x=>by kernel_rfl)
def WF (F:Nat) (a0:Int) (a1:Int):Option (Int):=
 (Zag F a0).bind fun o106=>
 (Zag F a1).bind fun o107=>
 if o106=true then
  if o107=true then
   some (0:Int)
  else
  some (-1:Int)
 else
 if o107=true then
  some (1:Int)
 else
 if (decide (a0 < a1))=true then
  some (-1:Int)
 else
 if (decide (a0 > a1))=true then
  some (1:Int)
 else
 some (0:Int)
def Zl2 (F:Nat):Fs ya:=⟨125,[.v (.int .i64),.v (.int .i64)],[],[(.int .i64),(.int .i64)],[⟨.ret,[(0,.v (.int .i64))],[],[(.int .i64)]⟩],fun x=>WF F x.1 x.2⟩
def Ze0:Fs ya:=Zl2 fuel
theorem Zl3:Ze0.Ok:=Ze (fi:={ hi:={ still:=[4,7,9]},lp:=[]}) (specs:={ l:=[ZhJ]}) (okS ⟨ZoJ,trivial⟩) trivial (by decide+kernel) (fun x=>by kernel_rfl)
def Zdb (F:Nat) (a0:ZS) (a1:ZS):Option (Int):=
 (WF F a0.1 a1.1).bind fun o108=>
 (WF F a0.2.1 a1.2.1).bind fun o109=>
 (ZeZ F ([o108,o109]:List Int)).bind fun o110=>
 some o110
def ZsM (F:Nat):Fs ya:=⟨65,[.v Xk,.v Xk],[],[Xk,Xk],[⟨.ret,[(0,.v (.int .i64))],[],[(.int .i64)]⟩],fun x=>Zdb F x.1 x.2⟩
def Zll:Fs ya:=ZsM fuel
theorem ZsN:Zll.Ok:=Ze (fi:={ hi:={ still:=[4,6,8,11,13,15]},lp:=[]}) (specs:={ l:=[Ze0,Znc]}) (okS ⟨Zl3,Zuk,trivial⟩) trivial (by decide+kernel) (fun x=>by kernel_rfl)
abbrev Zh:Ty:=(.st [(.int .i64),(.arr 2 (.int .i64)),(.sl Xk),(.int .i64)])
abbrev State:Type:=(Int×(List Int)×(List ZS)×Int)
def Wb (F:Nat) (s:(Int×Int×Int×(List ZS)×Int×Int×State)):Option ((Int×Int×Int×(List ZS)×Int×Int×State)⊕(Int×Int×State)):=
 if (decide (s.2.2.2.2.2.1 < s.2.2.2.2.1))=true then
  (idx s.2.2.2.1 s.2.2.2.2.2.1).bind fun e111=>
  if (e111.1==(wi (1 - s.1)))=true then
   some (.inl (s.1,wi (s.2.1+1),wi (s.2.2.1+e111.2.2.1),s.2.2.2.1,s.2.2.2.2.1,wi (s.2.2.2.2.2.1+1),s.2.2.2.2.2.2))
  else
  some (.inl (s.1,s.2.1,s.2.2.1,s.2.2.2.1,s.2.2.2.2.1,wi (s.2.2.2.2.2.1+1),s.2.2.2.2.2.2))
 else
 some (.inr (s.2.1,s.2.2.1,s.2.2.2.2.2.2))
def Zf5:Lp:=⟨[(1,.v (.int .i64)),(6,.v (.int .i64)),(7,.v (.int .i64)),(11,.v (.sl Xk)),(12,.v (.int .i64)),(13,.v (.int .i64))],[.var (.v Zh) true],[(.int .i64),(.int .i64),(.int .i64),(.sl Xk),(.int .i64),(.int .i64),Zh],[⟨.exit 0,[(6,.v (.int .i64)),(7,.v (.int .i64))],[.var (.v Zh) true],[(.int .i64),(.int .i64),Zh]⟩],Zc (Wb fuel) fuel⟩
theorem ZkC:Zf5.Ok ya (Zl ya 66) (Zk ya 66 0):=Zg (fi:={ hi:={ still:=[4,5]},lp:=[]}) (specs:={ l:=[]}) (okS trivial) trivial (by kernel_rfl) (fun v=>by kernel_rfl)
def Zah (F:Nat) (a0:State) (a1:Int):Option ((Int×Int)):=
 (Zc (Wb F) F (a1,(0:Int),(0:Int),a0.2.2.1,(a0.2.2.1.length:Int),(0:Int),a0)).bind fun o112=>
 some (o112.1,o112.2.1)
def ZoK (F:Nat):Fs ya:=⟨66,[.v Zh,.v (.int .i64)],[],[Zh,(.int .i64)],[⟨.ret,[(0,.tup [.v (.int .i64),.v (.int .i64)])],[],[(.int .i64),(.int .i64)]⟩],fun x=>Zah F x.1 x.2⟩
def ZhK:Fs ya:=ZoK fuel
theorem ZoL:ZhK.Ok:=Ze (fi:={ hi:={ still:=[4,5]},lp:=[(0,Zf5)]}) (specs:={ l:=[]}) (okS trivial) ⟨ZkC,trivial⟩ (by decide+kernel) (fun x=>by kernel_rfl)
def Qo (F:Nat) (s:(Int×(List ZS)×Int×Int×State)):Option ((Int×(List ZS)×Int×Int×State)⊕(Int×State)):=
 if (decide (s.2.2.2.1 < s.2.2.1))=true then
  (idx s.2.1 s.2.2.2.1).bind fun e115=>
  some (.inl (wi (s.1+e115.2.2.1),s.2.1,s.2.2.1,wi (s.2.2.2.1+1),s.2.2.2.2))
 else
 some (.inr (s.1,s.2.2.2.2))
def ZiY:Lp:=⟨[(3,.v (.int .i64)),(14,.v (.sl Xk)),(15,.v (.int .i64)),(16,.v (.int .i64))],[.var (.v Zh) true],[(.int .i64),(.sl Xk),(.int .i64),(.int .i64),Zh],[⟨.exit 0,[(3,.v (.int .i64))],[.var (.v Zh) true],[(.int .i64),Zh]⟩],Zc (Qo fuel) fuel⟩
theorem Znd:ZiY.Ok ya (Zl ya 67) (Zk ya 67 0):=Zg (fi:={ hi:={ still:=[2]},lp:=[]}) (specs:={ l:=[]}) (okS trivial) trivial (by kernel_rfl) (fun v=>by kernel_rfl)
def Zdc (F:Nat) (a0:State):Option (Int):=
 (a0.2.1[0]?).bind fun e113=>
 (a0.2.1[1]?).bind fun e114=>
 (Zc (Qo F) F (wi (e113+e114),a0.2.2.1,(a0.2.2.1.length:Int),(0:Int),a0)).bind fun o116=>
 some o116.1
def ZsO (F:Nat):Fs ya:=⟨67,[.v Zh],[],[Zh],[⟨.ret,[(0,.v (.int .i64))],[],[(.int .i64)]⟩],fun x=>Zdc F x⟩
def Zlm:Fs ya:=ZsO fuel
theorem ZsP:Zlm.Ok:=Ze (fi:={ hi:={ still:=[2]},lp:=[(0,ZiY)]}) (specs:={ l:=[]}) (okS trivial) ⟨Znd,trivial⟩ (by decide+kernel) (fun x=>by kernel_rfl)
def Zfn (F:Nat) (a0:Int):Option (Int):=
 if (decide (a0 < 0))=true then
  some (0:Int)
 else
 if (decide (a0 > 16))=true then
  some (0:Int)
 else
 some (wi (68+(wi (8*a0))))
def Zqo (F:Nat):Fs ya:=⟨163,[.v (.int .i64)],[],[(.int .i64)],[⟨.ret,[(0,.v (.int .i64))],[],[(.int .i64)]⟩],fun x=>Zfn F x⟩
def ZiZ:Fs ya:=Zqo fuel
theorem Zqp:ZiZ.Ok:=Ze (fi:={ hi:={ still:=[2]},lp:=[]}) (specs:={ l:=[]}) (okS trivial) trivial (by decide+kernel) (fun x=>by kernel_rfl)
def ZgT (F:Nat) (a0:Int) (a1:Int):Option (Int):=
 if (decide (a0 < 0))=true then
  some (0:Int)
 else
 if (decide (a0 > 1000))=true then
  some (0:Int)
 else
 (Zfn F a1).bind fun o117=>
 some (wi (a0*o117))
def Zxg (F:Nat):Fs ya:=⟨126,[.v (.int .i64),.v (.int .i64)],[],[(.int .i64),(.int .i64)],[⟨.ret,[(0,.v (.int .i64))],[],[(.int .i64)]⟩],fun x=>ZgT F x.1 x.2⟩
def ZpI:Fs ya:=Zxg fuel
theorem Zxh:ZpI.Ok:=Ze (fi:={ hi:={ still:=[4,12]},lp:=[]}) (specs:={ l:=[ZiZ]}) (okS ⟨Zqp,trivial⟩) trivial (by decide+kernel) (fun x=>by kernel_rfl)
def Ze1 (F:Nat) (a0:Z6) (a1:State):Option (Int):=
 (ZgT F a1.2.2.2 (a1.2.2.1.length:Int)).bind fun o118=>
 some (wi (o118+660))
def Zul (F:Nat):Fs ya:=⟨68,[.v Zu,.v Zh],[],[Zu,Zh],[⟨.ret,[(0,.v (.int .i64))],[],[(.int .i64)]⟩],fun x=>Ze1 F x.1 x.2⟩
def Zne:Fs ya:=Zul fuel
theorem Zum:Zne.Ok:=Ze (fi:={ hi:={ still:=[4,6,9]},lp:=[]}) (specs:={ l:=[ZpI]}) (okS ⟨Zxh,trivial⟩) trivial (by decide+kernel) (fun x=>by kernel_rfl)
def Qp (F:Nat) (s:((List ZS)×Int×Int×Z6×State)):Option (((List ZS)×Int×Int×Z6×State)⊕((Bool×Z6×State)⊕(Z6×State))):=
 if (decide (s.2.2.1 < s.2.1))=true then
  (idx s.1 s.2.2.1).bind fun e125=>
  (ZeY F e125).bind fun o126=>
  if (!o126)=true then
   some (.inr (.inl (false,s.2.2.2.1,s.2.2.2.2)))
  else
  if (inB (wi (1 - e125.1)) 2)=true then
   (s.2.2.2.1.2.2.2.1[(wi (1 - e125.1)).toNat]?).bind fun e127=>
   if (decide (e125.2.2.1 < e127.2.2.2.2.1))=true then
    some (.inr (.inl (false,s.2.2.2.1,s.2.2.2.2)))
   else
   if (decide (s.2.2.1 > 0))=true then
    (idx s.2.2.2.2.2.2.1 (wi (s.2.2.1 - 1))).bind fun e128=>
    (Zdb F e128 e125).bind fun o129=>
    if (decide (o129 ≥ 0))=true then
     some (.inr (.inl (false,s.2.2.2.1,s.2.2.2.2)))
    else
    some (.inl (s.1,s.2.1,wi (s.2.2.1+1),s.2.2.2.1,s.2.2.2.2))
   else
   some (.inl (s.1,s.2.1,wi (s.2.2.1+1),s.2.2.2.1,s.2.2.2.2))
  else
  none
 else
 some (.inr (.inr (s.2.2.2.1,s.2.2.2.2)))
def Zi0:Lp:=⟨[(2,.ref 0 []),(3,.ref 1 []),(46,.v (.sl Xk)),(47,.v (.int .i64)),(48,.v (.int .i64))],[.var (.v Zu) true,.var (.v Zh) true],[(.sl Xk),(.int .i64),(.int .i64),Zu,Zh],[⟨.ret,[(4,.v .bool)],[.var (.v Zu) true,.var (.v Zh) true],[.bool,Zu,Zh]⟩,⟨.exit 0,[(2,.ref 0 []),(3,.ref 1 [])],[.var (.v Zu) true,.var (.v Zh) true],[Zu,Zh]⟩],Zc (Qp fuel) fuel⟩
theorem Znf:Zi0.Ok ya (Zl ya 23) (Zk ya 23 0):=Zg (fi:={ hi:={ still:=[4,11,17,28,35,53,77,78,91,92,107,118,119]},lp:=[]}) (specs:={ l:=[Znb,Zll]}) (okS ⟨Zui,ZsN,trivial⟩) trivial (by kernel_rfl) (fun v=>by kernel_rfl)
def Qq (F:Nat) (s:((List VF)×Int×Z6×State)):Option (((List VF)×Int×Z6×State)⊕((Bool×Z6×State)⊕(Z6×State))):=
 if (decide (s.2.1 < 2))=true then
  (idx s.1 s.2.1).bind fun e133=>
  (Zah F s.2.2.2 s.2.1).bind fun o134=>
  if (decide (o134.1 > e133.2.2.2.1))=true then
   some (.inr (.inl (false,s.2.2.1,s.2.2.2)))
  else
  if (decide (o134.2 > e133.2.2.2.2.2))=true then
   some (.inr (.inl (false,s.2.2.1,s.2.2.2)))
  else
  some (.inl (s.1,wi (s.2.1+1),s.2.2.1,s.2.2.2))
 else
 some (.inr (.inr (s.2.2.1,s.2.2.2)))
def Zi1:Lp:=⟨[(2,.ref 0 []),(3,.ref 1 []),(85,.v (.arr 2 Zcg)),(86,.v (.int .i64))],[.var (.v Zu) true,.var (.v Zh) true],[(.arr 2 Zcg),(.int .i64),Zu,Zh],[⟨.ret,[(4,.v .bool)],[.var (.v Zu) true,.var (.v Zh) true],[.bool,Zu,Zh]⟩,⟨.exit 2,[(2,.ref 0 []),(3,.ref 1 [])],[.var (.v Zu) true,.var (.v Zh) true],[Zu,Zh]⟩],Zc (Qq fuel) fuel⟩
theorem Zng:Zi1.Ok ya (Zl ya 23) (Zk ya 23 1):=Zg (fi:={ hi:={ still:=[4,11,17,28,35,53,77,78,91,92,107,118,119]},lp:=[]}) (specs:={ l:=[ZhK]}) (okS ⟨ZoL,trivial⟩) trivial (by kernel_rfl) (fun v=>by kernel_rfl)
def V4 (F:Nat) (a0:Z6) (a1:State):Option (Bool):=
 (ZgS F a0).bind fun o119=>
 if (o119 !=0)=true then
  some false
 else
 (Yp F (0:Int) (1048576:Int) ([a1.1]:List Int)).bind fun o120=>
 if (!o120)=true then
  some false
 else
 (a1.2.1[0]?).bind fun e121=>
 (a1.2.1[1]?).bind fun e122=>
 (Yp F (0:Int) (1125899906842624:Int) ([e121,e122]:List Int)).bind fun o123=>
 if (!o123)=true then
  some false
 else
 (Yp F (0:Int) (1000:Int) ([a1.2.2.2]:List Int)).bind fun o124=>
 if (!o124)=true then
  some false
 else
 if (decide ((a1.2.2.1.length:Int) > 16))=true then
  some false
 else
 (Zc (Qp F) F (a1.2.2.1,(a1.2.2.1.length:Int),(0:Int),a0,a1)).bind fun o130=>
 match o130 with
 |.inl o131=>
  some o131.1
 |.inr o132=>
  (Zc (Qq F) F (o132.1.2.2.2.1,(0:Int),o132.1,o132.2)).bind fun o135=>
  match o135 with
  |.inl o136=>
   some o136.1
  |.inr o137=>
   (Zdc F o137.2).bind fun o138=>
   if (o138==o137.1.2.1)=true then
    if (inB o137.1.2.2.2.2 2)=true then
     (o137.2.2.1[o137.1.2.2.2.2.toNat]?).bind fun e139=>
     (Ze1 F o137.1 o137.2).bind fun o140=>
     some (decide (e139 ≥ o140))
    else
    none
   else
   some false
def ZsQ (F:Nat):Fs ya:=⟨23,[.v Zu,.v Zh],[],[Zu,Zh],[⟨.ret,[(0,.v .bool)],[],[.bool]⟩],fun x=>V4 F x.1 x.2⟩
def Zfo:Fs ya:=ZsQ fuel
theorem Zi2:Zfo.Ok:=Ze (fi:={ hi:={ still:=[4,11,17,28,35,53,77,78,91,92,107,118,119]},lp:=[(0,Zi0),(1,Zi1)]}) (specs:={ l:=[ZpH,ZdX,Zlm,Zne]}) (okS ⟨Zxf,ZhI,ZsP,Zum,trivial⟩) ⟨Znf,Zng,trivial⟩ (by decide+kernel) (fun x=>by kernel_rfl)
def V5 (F:Nat) (a0:Z6) (a1:State):Option (Bool):=
 if ((a1.2.2.1.length:Int)==0)=true then
  (V4 F a0 a1).bind fun o141=>
  some o141
 else
 some false
def ZdY (F:Nat):Fs ya:=⟨39,[.v Zu,.v Zh],[],[Zu,Zh],[⟨.ret,[(0,.v .bool)],[],[.bool]⟩],fun x=>V5 F x.1 x.2⟩
def Zln:Fs ya:=ZdY fuel
theorem Zi3:Zln.Ok:=Ze (fi:={ hi:={ still:=[4,10,11]},lp:=[]}) (specs:={ l:=[Zfo]}) (okS ⟨Zi2,trivial⟩) trivial (by decide+kernel) (fun x=>by kernel_rfl)
def Zbt (F:Nat) (a0:Z6) (a1:State) (a2:Int) (a3:Int):Option (Bool):=
 if (a2 !=a0.2.2.2.2)=true then
  some (a3==0)
 else
 if (decide (a3 ≥ 52))=true then
  if (inB a2 2)=true then
   (a1.2.1[a2.toNat]?).bind fun e142=>
   some (decide (a3≤e142))
  else
  none
 else
 some false
def Zcl (F:Nat):Fs ya:=⟨40,[.v Zu,.v Zh,.v (.int .i64),.v (.int .i64)],[],[Zu,Zh,(.int .i64),(.int .i64)],[⟨.ret,[(0,.v .bool)],[],[.bool]⟩],fun x=>Zbt F x.1 x.2.1 x.2.2.1 x.2.2.2⟩
def Zi4:Fs ya:=Zcl fuel
theorem ZhL:Zi4.Ok:=Ze (fi:={ hi:={ still:=[8]},lp:=[]}) (specs:={ l:=[]}) (okS trivial) trivial (by decide+kernel) (fun x=>by kernel_rfl)
def YJ (F:Nat) (s:((List (List UInt8))×Int×(List (List UInt8))×Int×Int)):Option (((List (List UInt8))×Int×(List (List UInt8))×Int×Int)⊕((List (List UInt8))×Int)):=
 if (decide (s.2.2.2.2 < s.2.2.2.1))=true then
  (idx s.2.2.1 s.2.2.2.2).bind fun e143=>
  if (decide ((wi (s.2.1+(e143.length:Int))) < 0))=true then
   none
  else
  some (.inl (s.1,wi (s.2.1+(e143.length:Int)),s.2.2.1,s.2.2.2.1,wi (s.2.2.2.2+1)))
 else
 some (.inr (s.1,s.2.1))
def VL:Lp:=⟨[(0,.v (.sl (.sl .u8))),(3,.v (.int .i64)),(9,.v (.sl (.sl .u8))),(10,.v (.int .i64)),(11,.v (.int .i64))],[],[(.sl (.sl .u8)),(.int .i64),(.sl (.sl .u8)),(.int .i64),(.int .i64)],[⟨.exit 0,[(0,.v (.sl (.sl .u8))),(3,.v (.int .i64))],[],[(.sl (.sl .u8)),(.int .i64)]⟩],Zc (YJ fuel) fuel⟩
theorem ZbM:VL.Ok ya (Zl ya 158) (Zk ya 158 0):=Zg (fi:={ hi:={ own:=[6,24,31,33],still:=[2,23]},lp:=[]}) (specs:={ l:=[]}) (okS trivial) trivial (by kernel_rfl) (fun v=>by kernel_rfl)
def QM:Fs ya:=⟨178,[.nil .u8,.v (.int .i64)],[],[.int .i64],[⟨.ret,[(0,.own 0 .u8)],[.log .u8 5],[.sl .u8]⟩],Zsm⟩
theorem Zfp:QM.Ok:=ZHX ZF3
def YK (F:Nat) (s:((List (List UInt8))×Int×Int×(List UInt8))):Option (((List (List UInt8))×Int×Int×(List UInt8))⊕(List UInt8)):=
 if (decide (s.2.2.1 < s.2.1))=true then
  (idx s.1 s.2.2.1).bind fun e146=>
  if (apB s.2.2.2.length e146.length 1)=true then
   some (.inl (s.1,s.2.1,wi (s.2.2.1+1),s.2.2.2++e146))
  else
  none
 else
 some (.inr s.2.2.2)
def VM:Lp:=⟨[(6,.own 0 .u8),(25,.v (.sl (.sl .u8))),(26,.v (.int .i64)),(27,.v (.int .i64))],[.log .u8 5],[(.sl (.sl .u8)),(.int .i64),(.int .i64),(.sl .u8)],[⟨.exit 2,[(6,.own 0 .u8)],[.log .u8 5],[(.sl .u8)]⟩],Zc (YK fuel) fuel⟩
theorem ZbN:VM.Ok ya (Zl ya 158) (Zk ya 158 1):=Zg (fi:={ hi:={ own:=[6,24,31,33],still:=[2,23]},lp:=[]}) (specs:={ l:=[]}) (okS trivial) trivial (by kernel_rfl) (fun v=>by kernel_rfl)
def Yq (F:Nat) (a0:(List (List UInt8))):Option ((List UInt8)):=
 (Zc (YJ F) F (a0,(0:Int),a0,(a0.length:Int),(0:Int))).bind fun o144=>
 (Zsm o144.2).bind fun o145=>
 (Zc (YK F) F (o144.1,(o144.1.length:Int),(0:Int),o145)).bind fun o147=>
 some o147
def ZdZ (F:Nat):Fs ya:=⟨158,[.v (.sl (.sl .u8))],[],[(.sl (.sl .u8))],[⟨.ret,[(0,.v (.sl .u8))],[],[(.sl .u8)]⟩],fun x=>Yq F x⟩
def X0:Fs ya:=ZdZ fuel
theorem VN:X0.Ok:=Ze (fi:={ hi:={ own:=[6,24,31,33],still:=[2,23]},lp:=[(0,VL),(1,VM)]}) (specs:={ l:=[QM]}) (okS ⟨Zfp,trivial⟩) ⟨ZbM,ZbN,trivial⟩ (by decide+kernel) (fun x=>by kernel_rfl)
def QA (F:Nat) (a0:(List UInt8)) (a1:(List UInt8)):Option ((List UInt8)):=
 (Yq F ([a0,a1]:List (List UInt8))).bind fun o148=>
 some o148
def Zxi (F:Nat):Fs ya:=⟨147,[.v (.sl .u8),.v (.sl .u8)],[],[(.sl .u8),(.sl .u8)],[⟨.ret,[(0,.v (.sl .u8))],[],[(.sl .u8)]⟩],fun x=>QA F x.1 x.2⟩
def Ze2:Fs ya:=Zxi fuel
theorem ZgU:Ze2.Ok:=Ze (fi:={ hi:={ still:=[4,7]},lp:=[]}) (specs:={ l:=[X0]}) (okS ⟨VN,trivial⟩) trivial (by decide+kernel) (fun x=>by kernel_rfl)
def Zdd (F:Nat) (s:(Int×(List UInt8))):Option ((Int×(List UInt8))⊕(Int×(List UInt8))):=
 if (decide (s.1 ≥ 128))=true then
  if (apB s.2.length 1 1)=true then
   let y149:(List UInt8):=s.2++([w8 (wi ((Int.tmod s.1 128)+128))]:List UInt8)
   some (.inl (wi (Int.tdiv s.1 128),y149))
  else
  none
 else
 some (.inr (s.1,s.2))
def ZpJ:Lp:=⟨[(0,.v (.int .i64)),(3,.own 0 .u8)],[.log .u8 5],[(.int .i64),(.sl .u8)],[⟨.exit 0,[(0,.v (.int .i64)),(3,.own 0 .u8)],[.log .u8 5],[(.int .i64),(.sl .u8)]⟩],Zc (Zdd fuel) fuel⟩
theorem ZsR:ZpJ.Ok ya (Zl ya 148) (Zk ya 148 0):=Zg (fi:={ hi:={ own:=[3,8,14,15,19],still:=[2]},lp:=[]}) (specs:={ l:=[]}) (okS trivial) trivial (by kernel_rfl) (fun v=>by kernel_rfl)
def Zf6 (F:Nat) (a0:Int):Option ((List UInt8)):=
 (Zc (Zdd F) F (a0,([]:List UInt8))).bind fun o150=>
 if (apB o150.2.length 1 1)=true then
  some (o150.2++([w8 o150.1]:List UInt8))
 else
 none
def Zzt (F:Nat):Fs ya:=⟨148,[.v (.int .i64)],[],[(.int .i64)],[⟨.ret,[(0,.v (.sl .u8))],[],[(.sl .u8)]⟩],fun x=>Zf6 F x⟩
def Zl4:Fs ya:=Zzt fuel
theorem ZpK:Zl4.Ok:=Ze (fi:={ hi:={ own:=[3,8,14,15,19],still:=[2]},lp:=[(0,ZpJ)]}) (specs:={ l:=[]}) (okS trivial) ⟨ZsR,trivial⟩ (by decide+kernel) (fun x=>by kernel_rfl)
def X3 (F:Nat) (a0:(List UInt8)) (a1:Int):Option ((List UInt8)):=
 if (decide (a1 < 0))=true then
  (QA F a0 ([]:List UInt8)).bind fun o151=>
  some o151
 else
 (Zf6 F a1).bind fun o152=>
 (QA F a0 o152).bind fun o153=>
 some o153
def Zzu (F:Nat):Fs ya:=⟨104,[.v (.sl .u8),.v (.int .i64)],[],[(.sl .u8),(.int .i64)],[⟨.ret,[(0,.v (.sl .u8))],[],[(.sl .u8)]⟩],fun x=>X3 F x.1 x.2⟩
def Zbc:Fs ya:=Zzu fuel
theorem ZbO:Zbc.Ok:=Ze (fi:={ hi:={ still:=[4,7,9,10,11]},lp:=[]}) (specs:={ l:=[Ze2,Zl4]}) (okS ⟨ZgU,ZpK,trivial⟩) trivial (by decide+kernel) (fun x=>by kernel_rfl)
def Qr (F:Nat) (s:((List UInt8)×UInt64×Int×(List UInt8))):Option (((List UInt8)×UInt64×Int×(List UInt8))⊕((List UInt8)×(List UInt8))):=
 if (decide (s.2.2.1 < 8))=true then
  if (decide (0≤wi (56 - (wi (8*s.2.2.1)))))=true then
   let y154:UInt64:=Zx s.2.1 (min (wi (56 - (wi (8*s.2.2.1)))).toNat 64)
   if (inB s.2.2.1 8)=true then
    (s.2.2.2[s.2.2.1.toNat]?).bind fun e155=>
    let y156:(List UInt8):=s.2.2.2.set s.2.2.1.toNat (w8 (y154.toNat:Int))
    some (.inl (s.1,s.2.1,wi (s.2.2.1+1),y156))
   else
   none
  else
  none
 else
 some (.inr (s.1,s.2.2.2))
def Zi5:Lp:=⟨[(0,.v (.sl .u8)),(1,.v .u64),(5,.ref 0 []),(7,.v (.int .i64))],[.var (.v (.arr 8 .u8)) true],[(.sl .u8),.u64,(.int .i64),(.arr 8 .u8)],[⟨.exit 0,[(0,.v (.sl .u8)),(5,.ref 0 [])],[.var (.v (.arr 8 .u8)) true],[(.sl .u8),(.arr 8 .u8)]⟩],Zc (Qr fuel) fuel⟩
theorem Znh:Zi5.Ok ya (Zl ya 105) (Zk ya 105 0):=Zg (fi:={ hi:={ still:=[4,19,20],frz:=[20]},lp:=[]}) (specs:={ l:=[]}) (okS trivial) trivial (by kernel_rfl) (fun v=>by kernel_rfl)
def Zai (F:Nat) (a0:(List UInt8)) (a1:UInt64):Option ((List UInt8)):=
 (Zc (Qr F) F (a0,a1,(0:Int),([0,0,0,0,0,0,0,0]:List UInt8))).bind fun o157=>
 (QA F o157.1 o157.2).bind fun o158=>
 some o158
def ZsS (F:Nat):Fs ya:=⟨105,[.v (.sl .u8),.v .u64],[],[(.sl .u8),.u64],[⟨.ret,[(0,.v (.sl .u8))],[],[(.sl .u8)]⟩],fun x=>Zai F x.1 x.2⟩
def Zfq:Fs ya:=ZsS fuel
theorem Zi6:Zfq.Ok:=Ze (fi:={ hi:={ still:=[4,19,20],frz:=[20]},lp:=[(0,Zi5)]}) (specs:={ l:=[Ze2]}) (okS ⟨ZgU,trivial⟩) ⟨Znh,trivial⟩ (by decide+kernel) (fun x=>by kernel_rfl)
def VO (F:Nat) (s:((List UInt8)×(List ZO)×Int×Int×(List UInt64)×Int×Int×Lock×ZO)):Option (((List UInt8)×(List ZO)×Int×Int×(List UInt64)×Int×Int×Lock×ZO)⊕((List UInt8)×(List ZO)×Int×Int×Lock×ZO)):=
 if (decide (s.2.2.2.2.2.2.1 < s.2.2.2.2.2.1))=true then
  (idx s.2.2.2.2.1 s.2.2.2.2.2.2.1).bind fun e163=>
  (Zai F s.1 e163).bind fun o164=>
  some (.inl (o164,s.2.1,s.2.2.1,s.2.2.2.1,s.2.2.2.2.1,s.2.2.2.2.2.1,wi (s.2.2.2.2.2.2.1+1),s.2.2.2.2.2.2.2.1,s.2.2.2.2.2.2.2.2))
 else
 some (.inr (s.1,s.2.1,s.2.2.1,s.2.2.2.1,s.2.2.2.2.2.2.2.1,s.2.2.2.2.2.2.2.2))
def Zlo:Lp:=⟨[(3,.v (.sl .u8)),(5,.ref 1 []),(16,.v (.sl Zw)),(17,.v (.int .i64)),(18,.v (.int .i64)),(28,.v (.sl .u64)),(29,.v (.int .i64)),(30,.v (.int .i64))],[.var (.v ZK) true,.var (.v Zw) true],[(.sl .u8),(.sl Zw),(.int .i64),(.int .i64),(.sl .u64),(.int .i64),(.int .i64),ZK,Zw],[⟨.exit 2,[(3,.v (.sl .u8)),(5,.ref 1 []),(16,.v (.sl Zw)),(17,.v (.int .i64)),(18,.v (.int .i64))],[.var (.v ZK) true,.var (.v Zw) true],[(.sl .u8),(.sl Zw),(.int .i64),(.int .i64),ZK,Zw]⟩],Zc (VO fuel) fuel⟩
theorem ZoM:Zlo.Ok ya (Zl ya 49) (Zk ya 49 1):=Zg (fi:={ hi:={ still:=[2,8,13,22,25,34,35,38,40,41,43,44,46]},lp:=[]}) (specs:={ l:=[Zfq]}) (okS ⟨Zi6,trivial⟩) trivial (by kernel_rfl) (fun v=>by kernel_rfl)
def Zaj (F:Nat) (s:((List UInt8)×(List ZO)×Int×Int×Lock)):Option (((List UInt8)×(List ZO)×Int×Int×Lock)⊕((List UInt8)×Lock)):=
 if (decide (s.2.2.2.1 < s.2.2.1))=true then
  (idx s.2.1 s.2.2.2.1).bind fun e161=>
  (X3 F s.1 (e161.1.length:Int)).bind fun o162=>
  (Zc (VO F) F (o162,s.2.1,s.2.2.1,s.2.2.2.1,e161.1,(e161.1.length:Int),(0:Int),s.2.2.2.2,e161)).bind fun o165=>
  (X3 F o165.1 o165.2.2.2.2.2.2.1).bind fun o166=>
  (X3 F o166 o165.2.2.2.2.2.2.2.1).bind fun o167=>
  (Zai F o167 o165.2.2.2.2.2.2.2.2).bind fun o168=>
  some (.inl (o168,o165.2.1,o165.2.2.1,wi (o165.2.2.2.1+1),o165.2.2.2.2.1))
 else
 some (.inr (s.1,s.2.2.2.2))
def Zlp:Lp:=⟨[(3,.v (.sl .u8)),(16,.v (.sl Zw)),(17,.v (.int .i64)),(18,.v (.int .i64))],[.var (.v ZK) true],[(.sl .u8),(.sl Zw),(.int .i64),(.int .i64),ZK],[⟨.exit 0,[(3,.v (.sl .u8))],[.var (.v ZK) true],[(.sl .u8),ZK]⟩],Zc (Zaj fuel) fuel⟩
theorem ZoN:Zlp.Ok ya (Zl ya 49) (Zk ya 49 0):=Zg (fi:={ hi:={ still:=[2,8,13,22,25,34,35,38,40,41,43,44,46]},lp:=[(1,Zlo)]}) (specs:={ l:=[Zbc,Zfq]}) (okS ⟨ZbO,Zi6,trivial⟩) ⟨ZoM,trivial⟩ (by kernel_rfl) (fun v=>by kernel_rfl)
end
end Go.Proofs.YtmkgbalfkhaflaaGreat
end
