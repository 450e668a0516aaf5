/- Parts of the proof, in one file. -/
import Derived.Test.YtpgpjjjoglafdaaGreatKd
open Array renaming getElem?_eq_some_iff → ycr, getD_eq_getD_getElem? → yda
open Bool renaming and_eq_true → yj, or_eq_true → ycd
open Go renaming TypeId → yc, Program → yg, Value → yh, FuncId → yu
open Go.Proofs.Tryz renaming prog → yb
open List renaming length_append → yo, getElem?_eq_some_iff → yq, range → yr, replicate → yv, length_map → yy, getElem?_eq_getElem → yz, append_assoc → yac, map_cons → yad, length_cons → yah, map_append → yai, getElem?_map → yaj, getElem?_append_left → yal, mem_cons_self → yam, getElem?_append_right → yan, mem_singleton → yao, mem_cons_of_mem → yap, append_nil → yar, map_map → yas, getElem?_eq_none → yat, getElem?_cons_succ → yav, mem_cons → yax, all_eq_true → yba, mem_of_getElem? → ybc, getElem?_cons_zero → ybd, mem_append → ybo, ext_getElem? → ybp, map_congr_left → ycn, length_replicate → yct, getElem?_set_self → ycw, getD_eq_getElem?_getD → ycz
open Nat renaming le_refl → ym, mod_eq_of_lt → yaq, add_mul → yau, zero_add → ybf, mod_lt → ybn, mul_comm → ybs, mul_mod → yby, lt_or_ge → ycc, mul_le_mul_right → ych, eq_zero_or_pos → yci
open Option renaming bind_some → ya, bind_eq_some_iff → yf, map_eq_some_iff → yp, map_some → yaa
open Option.some renaming injEq → yi, inj → ybi
open Prod.mk renaming injEq → yl
open UInt32 renaming ofNat → ycf
open UInt64 renaming ofNat → yaf, toNat_ofNat' → ybb, toNat_lt → ybx, le_iff_toNat_le → ycs, lt_iff_toNat_lt → ycu
set_option linter.unusedVariables false
set_option linter.unusedSimpArgs false
section
namespace Go.Ev
def X3(H H':yL Ent):Prop:=∀σ:Sg,Ok σ->σ.H=H->∃σ':Sg,σ'.w=σ.w/\σ'.H=H'/\To σ σ'/\Ok σ'
theorem X3.refl(H:yL Ent):X3 H H:=λσ ok h=>⟨σ,rfl,h,To.refl σ,ok⟩
theorem X3.trans{A B C:yL Ent}(h:X3 A B)(k:X3 B C):X3 A C:=λσ ok e=>by
 obtain⟨σ1,a1,a2,a3,a4⟩:=h σ ok e;obtain⟨σ2,b1,b2,b3,b4⟩:=k σ1 a4 a2;exact⟨σ2,b1.trans a1,b2,a3.trans b3,b4⟩
theorem ZBl{H H':yL Ent}(h:WkH H H'):X3 H H':=λσ ok e=>by
 subst e;obtain⟨to,ok'⟩:=ZiO ok h;exact⟨{ σ with H:=H'},rfl,rfl,to,ok'⟩
theorem ZHf{P:yg}{c:Code}{ts ts1 ts2:yL Dv}{H H1 H2:yL Ent}{ex:Ex}(h:X3 H H1/\∀(σ:Sg)(a:Act),RepT σ ts a->RepT σ ts1 a)(r:XD P c ts1 H1 ex ts2 H2):XD P c ts H ex ts2 H2:=by
 intro σ a ok hH yM;obtain⟨σ1,e1,e2,e3,e4⟩:=h.1 σ ok hH;have:=r σ1 a e4 e2 (h.2 _ _ (yM.to e3.leaf));rw[e1] at this;refine wp_mono this ?_;rintro e' a' w' ⟨rfl,σ2,q1,q2,q3,q4,q5⟩;exact⟨rfl,σ2,q1,q2,e3.trans q3,q4,q5⟩
theorem ZJk{H:yL Ent}{j:Nat}{x x' y:Ent}(hj:H[j]? =some x)
 (hy:∀σ:Sg,entOk σ none y)
 (hvar:(∃d st,x=.var d st)->∃d st,x'=.var d st) (hmap:(∃t kvs,x=.map t kvs)->∃t kvs,x'=.map t kvs) (hlog:∀s e xs,x≠ .log s e xs)
 (hunl:∀o,x.unlocked o->x'.unlocked o)
 (hrow:∀v s st e d,x=.row v s st e d->∃st' d',x'=.row v s st' e d')
 (hent:∀(σ:Sg)(mi:yO Nat),σ.H[H.length]? =some y->σ.m[H.length]? =some none->entOk σ mi x->entOk σ mi x'):X3 H ((H++[y]).set j x'):=by
 intro σ ok hH;subst hH;have hjl:j < σ.H.length:=(yq.1 hj).1;obtain⟨to1,ok1⟩:=X2 (σ':={ σ with m:=σ.m++[none],H:=σ.H++[y]}) ok rfl rfl rfl rfl (World.grownBy.refl σ.w none) (.inl rfl) (λ_=>hy _);obtain⟨mi,hm⟩:∃mi,σ.m[j]? =some mi:=⟨_,yz (by rw[ok.len];exact hjl)⟩;let σ1:Sg:={ σ with m:=σ.m++[none],H:=σ.H++[y]};let σ2:Sg:={ σ1 with m:=σ1.m.set j mi,H:=σ1.H.set j x'}
 have hH1:σ1.H[j]? =some x:=by
  show(σ.H++[y])[j]? =_;rw[yal hjl];exact hj
 have hm1:σ1.m[j]? =some mi:=by
  show(σ.m++[none])[j]? =_;rw[yal (by rw[ok.len];exact hjl)];exact hm
 have hx:=ok1.ent j x mi hH1 hm1
 obtain⟨to2,ok2⟩:=Y6 (σ':=σ2) (mi:=mi) (mi':=mi) ok1 hH1 hm1 rfl rfl rfl rfl rfl rfl rfl (ym _)
  (λ_ _ _=>rfl) (λ_ _ _ _ _ h=>h) (λo _ hu=>hunl o hu) (.inl rfl) (λq=>⟨rfl,hvar q⟩) (λq=>⟨rfl,hmap q⟩) (λs e xs q=>absurd q (hlog s e xs))
  (λleaf=>by
    refine hent σ2 mi ?_ ?_ (ZaG leaf (λb _=>rfl) hx)
    ·show(σ1.H.set j _)[σ.H.length]? =_;rw[List.getElem?_set,yX (by omega)];simp[σ1]
    ·show(σ1.m.set j _)[σ.H.length]? =_;rw[List.getElem?_set,yX (by omega)];show(σ.m++[none])[σ.H.length]? =_;rw[yan (by rw[ok.len];exact ym _),ok.len];simp)
  (λv s st e d q=>by
    obtain⟨st',d',q'⟩:=hrow v s st e d q;exact⟨v,st',d',q',ym _,λ_=>⟨rfl,λb cur _ hc=>⟨cur,hc,rfl⟩⟩⟩)
 exact⟨σ2,rfl,rfl,to1.trans to2,ok2⟩
theorem ZCO{σ:Sg}{s:Nat}{a:yL yh}(h:yH σ (.p (.sl (some false) s [])) a):a=[.slice none 0 0]:=by
 simp only[yH,repC] at h;obtain⟨_,A,c,rfl,w1,w2,w3,w4,w5⟩:=h
 have hA:A=none:=by
  have:=w3 false rfl
  cases A with
  |none=>rfl
  |some _=>cases this
 subst hA;have hc:=w4 rfl;subst hc;rfl
theorem ZHg{H:yL Ent}{j s:Nat}{e:yc}{d d':Dv}{st:Bool}{yQ:yL Nat}(hj:H[j]? =some (.var d st))(hg:YW d yQ s (.rv H.length 0 s 0 0)=some d'):
 X3 H ((H++[Ent.row 0 s true e (.p (.arr 0 s []))]).set j (.var d' st)):=by
 have hsz:=Zb1 yQ d d' s _ rfl hg;refine ZJk hj (λσ=>⟨0,by simp[rowN],.inl ⟨rfl,rfl⟩⟩) (λ_=>⟨_,_,rfl⟩) (λ⟨_,_,q⟩=>by cases q) (λ_ _ _ q=>by cases q) (λo hu=>hu) (λ_ _ _ _ _ q=>by cases q) ?_;rintro σ mi h1 h2 ⟨b,cs,t,rfl,q2,q3,q4⟩;refine⟨b,cs,t,rfl,q2, ?_,by rw[hsz];exact q4⟩;rw[hsz];refine ZdL yQ d d' s _ (λa ha=> ?_) hg _ q3;have:=ZCO ha;subst this;simp only[yH];exact⟨none,0,rfl,ym _,by simp[maxLen],λ_=>rfl,λh=>absurd h (Nat.lt_irrefl 0),0,s,true,e,_,h1,ym _,λ_=>⟨rfl,.inl ⟨h2,rfl,rfl⟩⟩⟩
theorem ZHh{H:yL Ent}{j:Nat}{d d':Dv}{st:Bool}(hj:H[j]? =some (.var d st))(hsz:d'.size=d.size)(hd:∀σ:Sg,Ok σ->σ.H=H->∀us,yH σ d us->yH σ d' us):X3 H (H.set j (.var d' st)):=by
 intro σ ok hH;subst hH;have hjl:j < σ.H.length:=(yq.1 hj).1;obtain⟨mi,hm⟩:∃mi,σ.m[j]? =some mi:=⟨_,yz (by rw[ok.len];exact hjl)⟩;let σ2:Sg:={ σ with m:=σ.m.set j mi,H:=σ.H.set j (.var d' st)};obtain⟨b,cs,t,rfl,q2,q3,q4⟩:=ok.ent j _ mi hj hm;have q5:=hd σ ok rfl _ q3
 obtain⟨to2,ok2⟩:=Y6 (σ':=σ2) (mi:=some b) (mi':=some b) ok hj hm rfl rfl rfl rfl rfl rfl rfl (ym _)
  (λ_ _ _=>rfl) (λ_ _ _ _ _ h=>h) (λo _ hu=>hu) (.inl rfl) (λq=>⟨rfl,_,_,rfl⟩) (λ⟨_,_,q⟩=>by cases q) (λs e xs q=>by cases q)
  (λleaf=>⟨b,cs,t,rfl,q2,by rw[hsz];exact Z1 leaf _ _ q5,by rw[hsz];exact q4⟩)
  (λv s st e d q=>by cases q)
 exact⟨σ2,rfl,rfl,to2,ok2⟩
inductive GOp where
 |done (t:Tmp)
 |fresh (t:Tmp) (i:Nat)
 |rowt (t:Tmp) (yQ:List Nat) (T:Ty) (e:yc)
 |freshS (t:Tmp)
 |freshV (t:Tmp)
 |freshDone (t:Tmp) (i:Nat)
 |any (t:Tmp) (i:Nat) (T:Ty)
 |melt (t:Tmp)
 |split (t:Tmp) (ks:List Nat)
 |nn (t:Tmp)
 |hole
 |flat (t:Tmp)
def ZK5:TEnt->Bool
 |.rowN _ _ _ true _ _ _=>true
 |_=>false
section
variable{O:Type}{out:O}
abbrev Kh(O:Type):=yL TD->yL TEnt->yO O
def ZK6(t:Tmp)(yQ:yL Nat)(T:Ty)(e:yc)(np:yL Nat)(a:yL TD)(h:yL TEnt)(K:Kh O):yO O:=
 match a[t]? with
 |some (.ref id [])=>match h[id]? with
  |some (.var d true)=>(Zfw T (.rw h.length) yQ d).bind λd'=>if(TD.frees h.length a&&h.all (TEnt.free h.length))=true then K a ((h++[TEnt.rowN T np [] true e [] []]).set id (.var d' true)) else none
  |_=>none
 |_=>none
def ZzR(t:Tmp)(yQ:yL Nat)(T:Ty)(e:yc)(a:yL TD)(h:yL TEnt)(K:Kh O):yO O:=
 match a[t]? with
 |some (.ref id [])=>match h[id]? with
  |some (.var d true)=>(Zfw T (.rw h.length) yQ d).bind λd'=>if(TD.frees h.length a&&h.all (TEnt.free h.length))=true then K a ((h++[TEnt.rowT T [] true e []]).set id (.var d' true)) else none
  |_=>none
 |_=>none
def Zxu(h:yL TEnt):TD->yO (TD×yL Nat)
 |.rw j=>match h[j]? with
  |some (.rowN T _ _ _ _ pre [])=>some (.p (.sl none T pre),[j])
  |some (.rowT T _ _ _ l)=>some (.p (.sl none T l),[j])
  |_=>none
 |d=>some (d,[])
def ZEH(h:yL TEnt):TD->(TD->yL Nat->yO O)->yO O
 |.rw j,K=>match h[j]? with
  |some (.rowN T _ _ _ _ pre post)=>if post.isEmpty=true then K (.p (.sl none T pre)) [j] else none
  |some (.rowT T _ _ _ l)=>K (.p (.sl none T l)) [j]
  |_=>none
 |d,K=>K d []
theorem ZzS{h:yL TEnt}{d:TD}{K:TD->yL Nat->yO O}(k:ZEH h d K=some out):∃q,Zxu h d=some q/\K q.1 q.2=some out:=by
 unfold ZEH at k;unfold Zxu;split at k
 ·rename_i j;dsimp only;split at k
  ·rename_i T np v st e pre post hd;rw[hd];obtain⟨h1,k⟩:=Za k
   cases post with
   |nil=>exact⟨_,rfl,k⟩
   |cons _ _=>cases h1
  ·rename_i T v st e l hd;rw[hd];exact⟨_,rfl,k⟩
  ·cases k
 ·rename_i hne;refine⟨(d,[]), ?_,k⟩;cases d <;> first|rfl|exact absurd rfl (hne _)
def ZzT(h:yL TEnt):yL TD->(yL TD->yL Nat->yO O)->yO O
 |[],K=>K [] []
 |d::r,K=>ZEH h d λx l=>ZzT h r λy m=>K (x::y) (l++m)
def Zp9(h:yL TEnt):yL TD->yO (yL TD×yL Nat)
 |[]=>some ([],[])
 |d::r=>match Zxu h d,Zp9 h r with
  |some q,some w=>some (q.1::w.1,q.2++w.2)
  |_,_=>none
theorem ZnF{h:yL TEnt}:∀{ds:yL TD}{K:yL TD->yL Nat->yO O},ZzT h ds K=some out->∃q,Zp9 h ds=some q/\K q.1 q.2=some out
 |[],K,k=>⟨_,rfl,k⟩
 |d::r,K,k=>by
  obtain⟨q,h1,k⟩:=ZzS k;obtain⟨w,h2,k⟩:=ZnF k;exact⟨(q.1::w.1,q.2++w.2),by simp only[Zp9,h1,h2],k⟩
def Zg2:TEnt->TEnt
 |.rowN T np v _ e a b=>.rowN T np v false e a b
 |.rowT t v _ e l=>.rowT t v false e l
 |e=>e
def ZaL(ids:yL Nat)(H:yL TEnt):yL TEnt:=(yr H.length).zipWith (λi e=>if ids.contains i then Zg2 e else e) H
def Zqa(t:Tmp)(a:yL TD)(h:yL TEnt)(K:Kh O):yO O:=
 match a[t]? with
 |some (.ref id [])=>match h[id]? with
  |some (.var (.agg ds) st)=>ZzT h ds λx l=>K a ((ZaL l h).set id (.var (.agg x) st))
  |_=>none
 |_=>none
def ZoW(t:Tmp)(i:Nat)(a:yL TD)(h:yL TEnt)(K:Kh O):yO O:=
 match a[t]? with
 |some (.ref j [])=>match h[j]? with
  |some (.var (.agg ds) st)=>match ds[i]? with
   |some (.rv id v s 0 n)=>match h[id]? with
    |some (.rowT T w _ _ l)=>if(decide (v=w.length)&&(decide (s=T.size)&&decide (n=l.length)))=true then K a (h.set j (.var (.agg (ds.set i (.rw id))) st)) else none
    |_=>none
   |_=>none
  |_=>none
 |_=>none
def Zqb(t:Tmp)(a:yL TD)(h:yL TEnt)(K:Kh O):yO O:=
 match a[t]? with
 |some (.rv id v s 0 n)=>match h[id]? with
  |some (.rowT T w _ _ l)=>if(decide (v=w.length)&&(decide (s=T.size)&&decide (n=l.length)))=true then K (a.set t (.rw id)) h else none
  |_=>none
 |_=>none
def Zqc(t:Tmp)(a:yL TD)(h:yL TEnt)(K:Kh O):yO O:=
 match a[t]? with
 |some (.ref j [])=>match h[j]? with
  |some (.var (.rv id v s 0 n) st)=>match h[id]? with
   |some (.rowT T w _ _ l)=>if(decide (v=w.length)&&(decide (s=T.size)&&decide (n=l.length)))=true then K a (h.set j (.var (.rw id) st)) else none
   |_=>none
  |_=>none
 |_=>none
def ZEI(t:Tmp)(i:Nat)(T:Ty)(a:yL TD)(h:yL TEnt)(K:Kh O):yO O:=
 match a[t]? with
 |some (.ref j [])=>match h[j]? with
  |some (.var (.agg ds) st)=>match ds[i]? with
   |some (.p x)=>(TP.to ZgW x T).bind λy=>K a (h.set j (.var (.agg (ds.set i (.p (.v T y)))) st))
   |_=>none
  |_=>none
 |_=>none
def ZzU(t:Tmp)(a:yL TD)(h:yL TEnt)(K:Kh O):yO O:=
 match a[t]? with
 |some (.ref j [])=>match h[j]? with
  |some (.var (.p (.arr n s xs)) st)=>K a (h.set j (.var (.arr n s (xs.map TD.p)) st))
  |_=>K a h
 |_=>K a h
def Zva(z:Int)(t:Tmp)(a:yL TD)(h:yL TEnt)(K:Kh O):yL Nat->yO O
 |[]=>none
 |n::r=>if(z==(n:Int))=true then K (a.set t (.p (.v (.int .i64) (n:Int)))) h else Zva z t a h K r
def Zvb(t:Tmp)(ks:yL Nat)(a:yL TD)(h:yL TEnt)(K:Kh O):yO O:=
 match a.getD t .junk with
 |.p (.v (.int .i64) z)=>Zva z t a h K ks
 |_=>none
def ZJl(t:Tmp)(a:yL TD)(h:yL TEnt)(K:Kh O):yO O:=
 match a.getD t .junk with
 |.ref _ _=>K a h
 |_=>none
def ZJm(a:yL TD)(h:yL TEnt)(K:Kh O):yO O:=K a (h++[.gone])
def ZzV(t:Tmp)(a:yL TD)(h:yL TEnt)(K:Kh O):yO O:=
 match a[t]? with
 |some (.ref j [])=>match h[j]? with
  |some (.var d st)=>(d.flat (lk h)).bind λx=>K a (h.set j (.var (.p x) st))
  |_=>none
 |_=>none
def ghT:GOp->yL TD->yL TEnt->Kh O->yO O
 |.done t,a,h,K=>Zqa t a h K
 |.fresh t i,a,h,K=>ZoW t i a h K
 |.rowt t yQ T e,a,h,K=>ZzR t yQ T e a h K
 |.freshS t,a,h,K=>Zqb t a h K
 |.freshV t,a,h,K=>Zqc t a h K
 |.freshDone t i,a,h,K=>ZoW t i a h λa h=>Zqa t a h K
 |.any t i T,a,h,K=>ZEI t i T a h K
 |.melt t,a,h,K=>ZzU t a h K
 |.split t ks,a,h,K=>Zvb t ks a h K
 |.nn t,a,h,K=>ZJl t a h K
 |.hole,a,h,K=>ZJm a h K
 |.flat t,a,h,K=>ZzV t a h K
def ghO(g:yO GOp)(a:yL TD)(h:yL TEnt)(K:Kh O):yO O:=
 match g with
 |none=>K a h
 |some g=>ghT g a h K
theorem ZHi{H:yL TEnt}{e:TEnt}(h:H.all (TEnt.free H.length)=true):erH (H++[e])=erH H++[e.er (lk (H++[e]))]:=by
 unfold erH;rw[yai];congr 1;refine ycn λx hx=> ?_;have hf:=yba.1 h x hx;exact(Zxi (λid t hn=>Zbm id t hn) x hf).symm
theorem ZHj{H:yL TEnt}{e:TEnt}{a:yL TD}(h:TD.frees H.length a=true):TD.ers (lk (H++[e])) a=TD.ers (lk H) a:=(ers_free (λid t hn=>Zbm id t hn) a h).symm
theorem Zxv{t:Tmp}{yQ:yL Nat}{T:Ty}{e:yc}{a:yL TD}{h:yL TEnt}{K:Kh O}(k:ZzR t yQ T e a h K=some out):
 ∃a' h',K a' h'=some out/\a'.length=a.length/\X3 (erH h) (erH h')/\∀(σ:Sg)(act:Act),RepT σ (TD.ers (lk h) a) act->RepT σ (TD.ers (lk h') a') act:=by
 unfold ZzR at k;split at k
 ·rename_i id hid;split at k
  ·rename_i d hd;obtain⟨d',h1,k⟩:=yf.1 k;obtain⟨h2,k⟩:=Za k;rw[yj] at h2;have hlt:id < h.length:=(yq.1 hd).1;have hd':(h++[TEnt.rowT T [] true e []])[id]? =some (.var d true):=by rw[yal hlt];exact hd
   have hL:lk ((h++[TEnt.rowT T [] true e []]).set id (.var d' true))=lk (h++[TEnt.rowT T [] true e []]):=WM hd' rfl rfl;refine⟨_,_,k,rfl, ?_,λσ act r=> ?_⟩
   ·have e1:erH ((h++[TEnt.rowT T [] true e []]).set id (.var d' true))=(erH h++[Ent.row 0 T.size true e (.p (.arr 0 T.size []))]).set id (.var (d'.er (lk (h++[TEnt.rowT T [] true e []]))) true):=by
     rw[Xf hL,ZHi h2.2];rfl
    rw[e1];have hj:(erH h)[id]? =some (.var (d.er (lk h)) true):=by rw[Z2 hd];rfl
    refine ZHg (yQ:=yQ) hj ?_;have e2:=Zic (L:=lk (h++[TEnt.rowT T [] true e []])) yQ d d' h1;have e3:d.er (lk (h++[TEnt.rowT T [] true e []]))=d.er (lk h):=(Zb5 (λid t hn=>Zbm id t hn) d (yba.1 h2.2 _ (ybc hd))).symm;rw[e3,(Zaz (T:=T) (v:=[]) (l:=[]) (List.getElem?_concat_length ..)).1] at e2;rw[ZC];exact e2
   ·rw[hL,ZHj h2.1];exact r
  ·cases k
 ·cases k
theorem ZEJ(e:TEnt):lkE (some (Zg2 e))=lkE (some e):=by cases e <;> rfl
theorem Zfx(ids:yL Nat)(H:yL TEnt)(i:Nat):(ZaL ids H)[i]? =(H[i]?).map λe=>if ids.contains i then Zg2 e else e:=by
 unfold ZaL;rw[List.getElem?_zipWith];rcases ycc i H.length with h|h
 ·rw[List.getElem?_range h,yz h];rfl
 ·rw[yat (by simpa using h),yat h];rfl
theorem Ztu(ids:yL Nat)(H:yL TEnt):lk (ZaL ids H)=lk H:=by
 funext i;unfold lk;rw[Zfx]
 cases H[i]? with
 |none=>rfl
 |some e=>
  show lkE (some (if ids.contains i=true then Zg2 e else e))=_
  split
  ·exact ZEJ e
  ·rfl
theorem ZCP(ids:yL Nat)(H:yL TEnt):WkH (erH H) (erH (ZaL ids H)):=by
 refine ZzQ (by rw[ZC,ZC];unfold ZaL;simp) λi a b h1 h2=> ?_;unfold erH at h1 h2;rw[yaj] at h1 h2;rw[Ztu,Zfx] at h2
 cases he:H[i]? with
 |none=>rw[he] at h1;cases h1
 |some e=>
  rw[he] at h1 h2;cases h1;cases h2;show WkE (e.er (lk H)) (TEnt.er (lk H) (if ids.contains i=true then Zg2 e else e))
  split
  ·cases e <;> first|exact .refl _|exact .lock
  ·exact .refl _
theorem ZEK{h H:yL TEnt}{d:TD}{q:TD×yL Nat}(hq:Zxu h d=some q)(hL:lk H=lk h)(hl:∀j,j∈q.2->∀e,h[j]? =some e->H[j]? =some (Zg2 e)):
 (q.1.er (lk H)).size=(d.er (lk H)).size/\∀σ:Sg,Ok σ->σ.H=erH H->∀us,yH σ (d.er (lk H)) us->yH σ (q.1.er (lk H)) us:=by
 have yS:∀x:TD,(q.1.er (lk H)).size=(q.1.er (lk H)).size/\∀σ:Sg,Ok σ->σ.H=erH H->∀us,yH σ (q.1.er (lk H)) us->yH σ (q.1.er (lk H)) us:=λ_=>⟨rfl,λ_ _ _ _ r=>r⟩
 have row:∀(j:Nat)(v:Nat)(s:Nat)(e:yc)(xs:yL Pl)(T:Ty)(l:yL T.den),(TD.rw j).er (lk H)=.rv j v s 0 xs.length->(erH H)[j]? =some (.row v s false e (.p (.arr xs.length s xs)))->s=T.size->xs=l.map T.enc->
  ((TD.p (.sl none T l)).er (lk H)).size=((TD.rw j).er (lk H)).size/\∀σ:Sg,Ok σ->σ.H=erH H->∀us,yH σ ((TD.rw j).er (lk H)) us->yH σ ((TD.p (.sl none T l)).er (lk H)) us:=by
  intro j v s e xs T l e1 e2 e3 e4;subst e3;rw[e1];refine⟨rfl,λσ ok hH us r=> ?_⟩;have dr:=DeepR.rvp (H:=σ.H) (lo:=0) (n:=xs.length) (by rw[hH];exact e2) (by omega);rw[List.drop_zero,List.take_length] at dr;have:=ZpI ok dr us r;rw[TD.er,TP.pe, <-e4];simpa[yH] using this
 unfold Zxu at hq;split at hq
 ·rename_i j;split at hq
  ·rename_i T np v st e pre hd;cases hq;have hH:=hl j (yam ..) _ hd;have hr:=ZG3 (q:=(v.length,T.size,pre.length+0)) (x:=Zg2 (.rowN T np v st e pre [])) hH rfl;refine row j v.length T.size e (pre.map T.enc) T pre (by rw[hr.1,yy];rfl) ?_ rfl rfl;rw[Z2 hH,yy];simp only[Zg2,TEnt.er,List.map_nil,yar,List.length_nil,Nat.add_zero]
  ·rename_i T v st e l hd;cases hq;have hH:=hl j (yam ..) _ hd;have hr:=Zaz (T:=T) (v:=v) (st:=false) (e:=e) (l:=l) hH;refine row j v.length T.size e (l.map T.enc) T l (by rw[hr.1,yy]) ?_ rfl rfl;rw[Z2 hH,yy];rfl
  ·cases hq
 ·cases hq;exact yS d
theorem Ztv{h H:yL TEnt}:∀{ds:yL TD}{q:yL TD×yL Nat},Zp9 h ds=some q->lk H=lk h->(∀j,j∈q.2->∀e,h[j]? =some e->H[j]? =some (Zg2 e))->
 Dv.sizes (TD.ers (lk H) q.1)=Dv.sizes (TD.ers (lk H) ds)/\∀σ:Sg,Ok σ->σ.H=erH H->∀us,repDs σ (TD.ers (lk H) ds) us->repDs σ (TD.ers (lk H) q.1) us
 |[],q,hq,hL,hl=>by cases hq;exact⟨rfl,λ_ _ _ _ r=>r⟩
 |d::r,q,hq,hL,hl=>by
  simp only[Zp9] at hq;split at hq
  ·rename_i q1 q2 h1 h2;cases hq;obtain⟨a1,a2⟩:=ZEK h1 hL (λj hj=>hl j (List.mem_append_left _ hj));obtain⟨b1,b2⟩:=Ztv h2 hL (λj hj=>hl j (List.mem_append_right _ hj));refine⟨by simp only[TD.ers,Dv.sizes];rw[a1,b1],λσ ok hH us rr=> ?_⟩;simp only[TD.ers,repDs] at rr ⊢;obtain⟨u1,u2,e1,e2,e3⟩:=rr;exact⟨u1,u2,e1,a2 σ ok hH _ e2,b2 σ ok hH _ e3⟩
  ·cases hq
theorem ZnG{t:Tmp}{a:yL TD}{h:yL TEnt}{K:Kh O}(k:Zqa t a h K=some out):
 ∃a' h',K a' h'=some out/\a'.length=a.length/\X3 (erH h) (erH h')/\∀(σ:Sg)(act:Act),RepT σ (TD.ers (lk h) a) act->RepT σ (TD.ers (lk h') a') act:=by
 unfold Zqa at k;split at k
 ·rename_i id hid;split at k
  ·rename_i ds st hd;obtain⟨q,h1,k⟩:=ZnF k
   have hd2:(ZaL q.2 h)[id]? =some (.var (.agg ds) st):=by
    rw[Zfx,hd];show some (if q.2.contains id=true then Zg2 (.var (.agg ds) st) else .var (.agg ds) st)=_
    split <;> rfl
   have hL0:lk (ZaL q.2 h)=lk h:=Ztu _ _;have hL:lk ((ZaL q.2 h).set id (.var (.agg q.1) st))=lk (ZaL q.2 h):=WM hd2 rfl rfl;refine⟨_,_,k,rfl,(ZBl (ZCP q.2 h)).trans ?_,λσ act rr=>by rw[hL,hL0];exact rr⟩;rw[Xf hL];have hj:(erH (ZaL q.2 h))[id]? =some (.var (.agg (TD.ers (lk (ZaL q.2 h)) ds)) st):=by rw[Z2 hd2];rfl
   obtain⟨c1,c2⟩:=Ztv (H:=ZaL q.2 h) h1 hL0 (λj hj e he=>by
    rw[Zfx,he];show some (if q.2.contains j=true then Zg2 e else e)=_
    rw[yW (by simpa using hj)])
   refine ZHh hj ?_ λσ ok hH us r=> ?_
   ·exact c1
   ·simp only[TD.er,yH] at r ⊢;exact c2 σ ok hH us r
  ·cases k
 ·cases k
theorem Zxw{L:Lk}{ds:yL TD}{i:Nat}{x y:TD}(h:ds[i]? =some x)(e:y.er L=x.er L):TD.ers L (ds.set i y)=TD.ers L ds:=by
 rw[ZB,ZB,List.map_set,e];apply ybp;intro k;by_cases hk:i=k
 ·subst hk;rw[ycw (by rw[yy];exact(yq.1 h).1),yaj,h];rfl
 ·rw[List.getElem?_set_ne hk]
theorem Zk5{t:Tmp}{i:Nat}{a:yL TD}{h:yL TEnt}{K:Kh O}(k:ZoW t i a h K=some out):
 ∃a' h',K a' h'=some out/\a'.length=a.length/\X3 (erH h) (erH h')/\∀(σ:Sg)(act:Act),RepT σ (TD.ers (lk h) a) act->RepT σ (TD.ers (lk h') a') act:=by
 unfold ZoW at k;split at k
 ·rename_i j hj;split at k
  ·rename_i ds st hd;split at k
   ·rename_i id v s n hi;split at k
    ·rename_i T w st' e l hr;obtain⟨c,k2⟩:=Za k;clear k;rw[yj,yj,yP,yP,yP] at c;obtain⟨rfl,rfl,rfl⟩:=c;have hL:lk (h.set j (.var (.agg (ds.set i (.rw id))) st))=lk h:=WM hd rfl rfl
     have he:(TD.rw id).er (lk h)=(TD.rv id w.length T.size 0 l.length).er (lk h):=by
      refine(Zu5 (v:=w) (s:=T.size) (N:=l.length) ?_).1;unfold ZW lk;dsimp only;rw[hr];rfl
     refine⟨_,_,k2,rfl, ?_,λσ act rr=>by rw[hL];exact rr⟩
     have e2:erH (h.set j (.var (.agg (ds.set i (.rw id))) st))=erH h:=by
      rw[Xf hL];show(erH h).set j (.var (.agg (TD.ers (lk h) (ds.set i (.rw id)))) st)=erH h;rw[Zxw hi he];apply ybp;intro q;by_cases hq:j=q
      ·subst hq;have hjl:(erH h)[j]? =some (.var (.agg (TD.ers (lk h) ds)) st):=by rw[Z2 hd];rfl
       rw[ycw (yq.1 hjl).1,hjl]
      ·rw[List.getElem?_set_ne hq]
     rw[e2];exact X3.refl _
    ·cases k
   ·cases k
  ·cases k
 ·cases k
theorem Zxx{h:yL TEnt}{id:Nat}{T:Ty}{w:yL Unit}{st:Bool}{e:yc}{l:yL T.den}(hr:h[id]? =some (.rowT T w st e l)):(TD.rw id).er (lk h)=(TD.rv id w.length T.size 0 l.length).er (lk h):=by
 refine(Zu5 (v:=w) (s:=T.size) (N:=l.length) ?_).1;unfold ZW lk;dsimp only;rw[hr];rfl
theorem Zr8{t:Tmp}{a:yL TD}{h:yL TEnt}{K:Kh O}(k:Zqb t a h K=some out):
 ∃a' h',K a' h'=some out/\a'.length=a.length/\X3 (erH h) (erH h')/\∀(σ:Sg)(act:Act),RepT σ (TD.ers (lk h) a) act->RepT σ (TD.ers (lk h') a') act:=by
 unfold Zqb at k;split at k
 ·rename_i id v s n hi;split at k
  ·rename_i T w st' e l hr;obtain⟨c,k2⟩:=Za k;clear k;rw[yj,yj,yP,yP,yP] at c;obtain⟨rfl,rfl,rfl⟩:=c;exact⟨_,_,k2,List.length_set,X3.refl _,λσ act rr=>by rw[Zxw hi (Zxx hr)];exact rr⟩
  ·cases k
 ·cases k
theorem Zr9{t:Tmp}{a:yL TD}{h:yL TEnt}{K:Kh O}(k:Zqc t a h K=some out):
 ∃a' h',K a' h'=some out/\a'.length=a.length/\X3 (erH h) (erH h')/\∀(σ:Sg)(act:Act),RepT σ (TD.ers (lk h) a) act->RepT σ (TD.ers (lk h') a') act:=by
 unfold Zqc at k;split at k
 ·rename_i j hj;split at k
  ·rename_i id v s n st hd;split at k
   ·rename_i T w st' e l hr;obtain⟨c,k2⟩:=Za k;clear k;rw[yj,yj,yP,yP,yP] at c;obtain⟨rfl,rfl,rfl⟩:=c;have hL:lk (h.set j (.var (.rw id) st))=lk h:=WM hd rfl rfl;refine⟨_,_,k2,rfl, ?_,λσ act rr=>by rw[hL];exact rr⟩
    have e2:erH (h.set j (.var (.rw id) st))=erH h:=by
     rw[Xf hL];show(erH h).set j (.var ((TD.rw id).er (lk h)) st)=erH h;rw[Zxx hr];apply ybp;intro q;by_cases hq:j=q
     ·subst hq;have hjl:(erH h)[j]? =some (.var ((TD.rv id w.length T.size 0 l.length).er (lk h)) st):=by rw[Z2 hd];rfl
      rw[ycw (yq.1 hjl).1,hjl]
     ·rw[List.getElem?_set_ne hq]
    rw[e2];exact X3.refl _
   ·cases k
  ·cases k
 ·cases k
theorem ZBm:∀{l:yL Dv}{i:Nat}{d e:Dv},l[i]? =some d->Wk d e->WkL l (l.set i e)
 |[],_,_,_,h,_=>by simp at h
 |x::r,0,d,e,h,k=>by
  simp only[ybd,yi] at h;subst h
  exact .cons k (WkL.refl r)
 |x::r,i+1,d,e,h,k=>by
  simp only[yav] at h;exact .cons (Wk.refl x) (ZBm h k)
theorem ZEL{L:Lk}:∀{ds:yL TD}{i:Nat}{d e:TD},ds[i]? =some d->(TD.ers L ds)[i]? =some (d.er L)/\TD.ers L (ds.set i e)=(TD.ers L ds).set i (e.er L)
 |[],_,_,_,h=>by simp at h
 |x::r,0,d,e,h=>by
  simp only[ybd,yi] at h;subst h
  exact⟨rfl,rfl⟩
 |x::r,i+1,d,e,h=>by
  simp only[yav] at h;obtain⟨h1,h2⟩:=ZEL (e:=e) h;exact⟨h1,by show x.er L::TD.ers L (r.set i e)=_;rw[h2];rfl⟩
theorem ZzW{t:Tmp}{i:Nat}{T:Ty}{a:yL TD}{h:yL TEnt}{K:Kh O}(k:ZEI t i T a h K=some out):
 ∃a' h',K a' h'=some out/\a'.length=a.length/\X3 (erH h) (erH h')/\∀(σ:Sg)(act:Act),RepT σ (TD.ers (lk h) a) act->RepT σ (TD.ers (lk h') a') act:=by
 unfold ZEI at k;split at k
 ·rename_i j hj;split at k
  ·rename_i ds st hd;split at k
   ·rename_i x hx;obtain⟨y,h1,k⟩:=yf.1 k;have hL:lk (h.set j (.var (.agg (ds.set i (.p (.v T y)))) st))=lk h:=WM hd rfl rfl;refine⟨_,_,k,rfl, ?_,λσ act rr=>by rw[hL];exact rr⟩;rw[Xf hL];have hjl:(erH h)[j]? =some (.var (.agg (TD.ers (lk h) ds)) st):=by rw[Z2 hd];rfl
    obtain⟨e1,e2⟩:=ZEL (L:=lk h) (e:=.p (.v T y)) hx;refine ZBl (WkH.set_at hjl (WkE.var ?_));show Wk (.agg (TD.ers (lk h) ds)) (.agg (TD.ers (lk h) (ds.set i (.p (.v T y)))));rw[e2];exact WkL.agg (ZBm e1 (Wk.p (ZwW h1)))
   ·cases k
  ·cases k
 ·cases k
theorem Wk.melt{n s:Nat}{xs:yL Pl}:Wk (.p (.arr n s xs)) (.arr n s (xs.map Dv.p)):=⟨rfl,rfl,λσ vs r=>by
 simp only[yH,repC] at r ⊢;exact⟨by rw[yy];exact r.1,λx hx=>by obtain⟨y,hy,rfl⟩:=List.mem_map.1 hx;exact r.2.1 y hy,Zfk.2 r.2.2⟩⟩
theorem Zxy{t:Tmp}{a:yL TD}{h:yL TEnt}{K:Kh O}(k:ZzU t a h K=some out):
 ∃a' h',K a' h'=some out/\a'.length=a.length/\X3 (erH h) (erH h')/\∀(σ:Sg)(act:Act),RepT σ (TD.ers (lk h) a) act->RepT σ (TD.ers (lk h') a') act:=by
 unfold ZzU at k;split at k
 ·rename_i j hj;split at k
  ·rename_i n s xs st hd;have hL:lk (h.set j (.var (.arr n s (xs.map TD.p)) st))=lk h:=WM hd rfl rfl;refine⟨_,_,k,rfl, ?_,λσ act rr=>by rw[hL];exact rr⟩;rw[Xf hL];have hjl:(erH h)[j]? =some (.var (.p (.arr n s (TP.pes xs))) st):=by rw[Z2 hd];rfl
   refine ZBl (WkH.set_at hjl (WkE.var ?_));show Wk (.p (.arr n s (TP.pes xs))) (.arr n s (TD.ers (lk h) (xs.map TD.p)))
   have e:TD.ers (lk h) (xs.map TD.p)=(TP.pes xs).map Dv.p:=by
    rw[ZB,Za2,yas,yas];rfl
   rw[e];exact Wk.melt
  ·exact⟨_,_,k,rfl,X3.refl _,λ_ _ r=>r⟩
 ·exact⟨_,_,k,rfl,X3.refl _,λ_ _ r=>r⟩
theorem Zxz{t:Tmp}{a:yL TD}{h:yL TEnt}{K:Kh O}(k:ZzV t a h K=some out):
 ∃a' h',K a' h'=some out/\a'.length=a.length/\X3 (erH h) (erH h')/\∀(σ:Sg)(act:Act),RepT σ (TD.ers (lk h) a) act->RepT σ (TD.ers (lk h') a') act:=by
 unfold ZzV at k;split at k
 ·rename_i j hj;split at k
  ·rename_i d st hd;obtain⟨x,h1,k⟩:=yf.1 k;have hL:lk (h.set j (.var (.p x) st))=lk h:=WM hd rfl rfl;refine⟨_,_,k,rfl, ?_,λσ act rr=>by rw[hL];exact rr⟩;rw[Xf hL];have hjl:(erH h)[j]? =some (.var (d.er (lk h)) st):=by rw[Z2 hd];rfl
   have hf:(d.er (lk h)).flat=some x.pe:=by rw[ZkP,h1];rfl
   refine ZBl (WkH.set_at hjl (WkE.var ?_))
   exact⟨(Zh4 _ _ hf).symm,(Zo9 hf).symm,λσ vs r=>by
    have:=ZeI _ _ _ hf r;show yH σ (.p x.pe) vs;simp only[yH];exact this⟩
  ·cases k
 ·cases k
theorem ZnH{z:Int}{t:Tmp}{a:yL TD}{h:yL TEnt}{K:Kh O}(ha:a.getD t .junk=.p (.v (.int .i64) z)):∀{ks:yL Nat},Zva z t a h K ks=some out->K a h=some out
 |[],k=>by cases k
 |n::r,k=>by
  unfold Zva at k;split at k
  ·rename_i e;have e:z=(n:Int):=by simpa using e
   rw[set_same (by rw[ha,e])] at k;exact k
  ·exact ZnH ha k
theorem Zvc{t:Tmp}{ks:yL Nat}{a:yL TD}{h:yL TEnt}{K:Kh O}(k:Zvb t ks a h K=some out):
 ∃a' h',K a' h'=some out/\a'.length=a.length/\X3 (erH h) (erH h')/\∀(σ:Sg)(act:Act),RepT σ (TD.ers (lk h) a) act->RepT σ (TD.ers (lk h') a') act:=by
 unfold Zvb at k;split at k
 ·rename_i z hz;exact⟨_,_,ZnH hz k,rfl,X3.refl _,λ_ _ r=>r⟩
 ·cases k
theorem ZEM{g:yO GOp}{a:yL TD}{h:yL TEnt}{K:Kh O}(k:ghO g a h K=some out):
 ∃a' h',K a' h'=some out/\a'.length=a.length/\X3 (erH h) (erH h')/\∀(σ:Sg)(act:Act),RepT σ (TD.ers (lk h) a) act->RepT σ (TD.ers (lk h') a') act:=by
 unfold ghO at k;split at k
 ·exact⟨_,_,k,rfl,X3.refl _,λ_ _ r=>r⟩
 ·rename_i g
  cases g with
  |done t=>exact ZnG k
  |fresh t i=>exact Zk5 k
  |rowt t yQ T e=>exact Zxv k
  |freshS t=>exact Zr8 k
  |freshV t=>exact Zr9 k
  |freshDone t i=>
   obtain⟨a1,h1,k,l1,g1,r1⟩:=Zk5 (K:=λa h=>Zqa t a h K) k;obtain⟨a2,h2,k,l2,g2,r2⟩:=ZnG k
   exact⟨a2,h2,k,l2.trans l1,g1.trans g2,λσ act r=>r2 σ act (r1 σ act r)⟩
  |any t i T=>exact ZzW k
  |melt t=>exact Zxy k
  |split t ks=>exact Zvc k
  |nn t=>
   replace k:ZJl t a h K=some out:=k
   unfold ZJl at k;split at k
   ·exact⟨_,_,k,rfl,X3.refl _,λ_ _ r=>r⟩
   ·cases k
  |flat t=>exact Zxz k
  |hole=>
   replace k:K a (h++[.gone])=some out:=k
   refine⟨_,_,k,rfl, ?_,λσ act rr=>by rw[Q4 rfl];exact rr⟩;rw[Q5 (Q4 rfl)];intro σ ok e;obtain⟨to,ok'⟩:=ZAP ok;exact⟨{ σ with m:=σ.m++[none],H:=σ.H++[.gone]},rfl,by rw[<-e];rfl,to,ok'⟩
end
end Go.Ev
end
section
namespace Go.Ev
section
variable{P:yg}
theorem Zk6{x y:Code}{ts ts1 ts2:yL Dv}{H H1 H2:yL Ent}{ex:Ex}(r1:XD P x ts H .normal ts1 H1)(r2:XD P y ts1 H1 ex ts2 H2):XD P (.seq x y) ts H ex ts2 H2:=by
 intro σ a ok hH yM;refine wp_seq (wp_mono (r1 σ a ok hH yM) ?_);rintro e a' w' ⟨rfl,σ1,rfl,e1,to1,ok1,hrep1⟩;refine wp_mono (r2 σ1 a' ok1 e1 hrep1) ?_;rintro e a'' w'' ⟨rfl,σ2,rfl,e2,to2,ok2,hrep2⟩;exact⟨rfl,σ2,rfl,e2,to1.trans to2,ok2,hrep2⟩
theorem Ztw{x y:Code}{ts ts1:yL Dv}{H H1:yL Ent}{ex:Ex}(hne:ex≠ .normal)(r1:XD P x ts H ex ts1 H1):XD P (.seq x y) ts H ex ts1 H1:=by
 intro σ a ok hH yM;refine wp_seq (wp_mono (r1 σ a ok hH yM) ?_);rintro e a' w' ⟨rfl,hq⟩
 cases ex with
 |normal=>exact absurd rfl hne
 |exit id=>exact⟨rfl,hq⟩
 |ret=>exact⟨rfl,hq⟩
theorem Zij{c:Operand}{x y:Code}{ts ts1:yL Dv}{H H1:yL Ent}{ex:Ex}{b:Bool}(hc:Zn P ts 0 c=.p (.bool b))(r1:XD P (if b then x else y) ts H ex ts1 H1):XD P (.cond c x y) ts H ex ts1 H1:=by
 intro σ a ok hH yM;have hv:=Zi (P:=P) yM 0 c;rw[hc] at hv;cases b
 ·exact wp_cond_false (Yj hv) (r1 σ a ok hH yM)
 ·exact wp_cond_true (Yj hv) (r1 σ a ok hH yM)
def Zvd(id:Nat):Ex->Ex
 |.exit i=>if i=id then .normal else .exit i
 |ex=>ex
theorem ZzX{id:Nat}{body:Code}{ts ts1:yL Dv}{H H1:yL Ent}{ex:Ex}(r1:XD P body ts H ex ts1 H1):XD P (.block id body) ts H (Zvd id ex) ts1 H1:=by
 intro σ a ok hH yM;refine wp_block (wp_mono (r1 σ a ok hH yM) ?_);rintro e a' w' ⟨rfl,hq⟩
 cases ex with
 |normal=>exact⟨rfl,hq⟩
 |exit id'=>
  simp only[Ex.to,Exit.inBlock,Zvd];split
  ·exact⟨rfl,hq⟩
  ·exact⟨rfl,hq⟩
 |ret=>exact⟨rfl,hq⟩
theorem ZzY{body:Code}{ts ts1:yL Dv}{H H1:yL Ent}{ex:Ex}(r1:XD P body ts H ex ts1 H1):XD P (.scope body) ts H ex ts1 H1:=by
 intro σ a ok hH yM;refine wp_scope_straight (wp_mono (r1 σ a ok hH yM) ?_);rintro e a' w' ⟨rfl,hq⟩;cases ex <;> exact⟨rfl,hq⟩
theorem ZCQ{ts:yL Dv}{H:yL Ent}:XD P .skip ts H .normal ts H:=λσ a ok hH yM=>wp_skip ⟨rfl,σ,rfl,hH,To.refl σ,ok,yM⟩
theorem ZzZ{n:Nat}{ts:yL Dv}{H:yL Ent}:XD P (.label n) ts H .normal ts H:=λσ a ok hH yM=>wp_label ⟨rfl,σ,rfl,hH,To.refl σ,ok,yM⟩
theorem ZCR{n:Nat}{ts:yL Dv}{H:yL Ent}:XD P (.exit n) ts H (.exit n) ts H:=λσ a ok hH yM=>wp_exit ⟨rfl,σ,rfl,hH,To.refl σ,ok,yM⟩
theorem ZxA{ts:yL Dv}{H:yL Ent}:XD P .ret ts H .ret ts H:=λσ a ok hH yM=>wp_ret ⟨rfl,σ,rfl,hH,To.refl σ,ok,yM⟩
theorem ZCS{c:Code}{ts ts1:yL Dv}{H H1:yL Ent}{ex:Ex}(keep:yL Nat)(r:XD P c ts H ex ts1 H1):XD P c ts H ex (ZF keep 0 ts1) H1:=by
 intro σ a ok hH yM;refine wp_mono (r σ a ok hH yM) ?_;rintro e a' w' ⟨rfl,σ1,rfl,e1,to1,ok1,hrep1⟩;exact⟨rfl,σ1,rfl,e1,to1,ok1,QX keep hrep1⟩
def ZxB(n0:Nat)(sl:Slots)(es:yL ESh)(a:yL TD)(h:yL TEnt):yO (yL TV):=
 if once (yr n0++[]) then(XK h (yr n0++[]) (yr n0++[])).bind λh2=>(TD.rns (toIds (yr n0++[])) (Zgb (sl.map (·.1)) 0 a)).bind λa2=>
  (Sh.mts (lk h2) (shs sl a.length) a2).bind λq=>(ESh.mts (lk h2) es h2).bind λw=>some (q.2++w.2)
 else none
theorem Zz0{n0:Nat}{sl:Slots}{es:yL ESh}{a:yL TD}{h:yL TEnt}{vs:yL TV}(k:ZxB n0 sl es a h=some vs):
 ∃a3 h3,VV a.length sl es vs=some (a3,h3)/\∀{c:Code}{ts:yL Dv}{H:yL Ent}{ex:Ex},H.length=n0->XD P c ts H ex (TD.ers (lk h) a) (erH h)->XD P c ts H ex (TD.ers (lk h3) a3) (erH h3):=by
 unfold ZxB at k;split at k
 ·rename_i ho;obtain⟨h2,h1,k⟩:=yf.1 k;obtain⟨a2,e2,k⟩:=yf.1 k;obtain⟨q,e3,k⟩:=yf.1 k;obtain⟨w,e4,k⟩:=yf.1 k;cases k;obtain⟨g1,g2⟩:=ZeS e4;have hc:∀id t,ZW (lk h2) id t none=ZW (lk w.1) id t none:=λid t=>by rw[g2]
  refine⟨q.1,w.1, ?_,λ{c ts H ex}hl r=> ?_⟩
  ·unfold VV;rw[mts_fills _ _ _ e3];have:=Qw e4 [];rw[yar] at this;rw[ya,this];rfl
  ·have r1:=ZCS (sl.map (·.1)) r;rw[<-Zk3] at r1;have r2:=ZCy [] [] r1 (by rw[hl];exact ho) (by rw[hl];exact Xw (V8 h1) h1) (by rw[hl];exact rns_er (V8 h1) _ _ e2);exact Ztg r2 (mts_wk hc _ _ _ e3) (Zig hc e4)
 ·cases k
theorem Zz1{n0:Nat}{sl:Slots}{es:yL ESh}{a:yL TD}{h:yL TEnt}{vs:yL TV}(hn:h.length=n0)(k:ZxB n0 sl es a h=some vs):
 ∃a3 h3,VV a.length sl es vs=some (a3,h3)/\∀(σ:Sg)(act:Act),Ok σ->σ.H=erH h->RepT σ (TD.ers (lk h) a) act->∃σ':Sg,σ'.w=σ.w/\σ'.H=erH h3/\To σ σ'/\Ok σ'/\RepT σ' (TD.ers (lk h3) a3) act:=by
 subst hn;unfold ZxB at k;split at k
 ·rename_i ho;obtain⟨h2,h1,k⟩:=yf.1 k;obtain⟨a2,e2,k⟩:=yf.1 k;obtain⟨q,e3,k⟩:=yf.1 k;obtain⟨w,e4,k⟩:=yf.1 k;cases k;obtain⟨g1,g2⟩:=ZeS e4;have hc:∀id t,ZW (lk h2) id t none=ZW (lk w.1) id t none:=λid t=>by rw[g2]
  refine⟨q.1,w.1, ?_,λσ act ok hH yM=> ?_⟩
  ·unfold VV;rw[mts_fills _ _ _ e3];have:=Qw e4 [];rw[yar] at this;rw[ya,this];rfl
  ·have r1:=QX (sl.map (·.1)) yM;rw[<-Zk3] at r1
   have hin:subEnts σ.H (yr σ.H.length++[]) (yr σ.H.length++[])=some (erH h2):=by
    rw[hH,ZC];exact Xw (V8 h1) h1
   have ho':once (yr σ.H.length++[])=true:=by rw[hH,ZC];exact ho
   have e2':Dv.rns (toIds (yr σ.H.length++[])) (TD.ers (lk h) (Zgb (sl.map (·.1)) 0 a))=some (TD.ers (lk h2) a2):=by
    rw[hH,ZC];exact rns_er (V8 h1) _ _ e2
   have r2:=ZwP (Zfu hin) e2' r1;have to1:=ZoR ok (To.refl σ) ho' hin;have ok1:=ZoQ ok ho' hin;obtain⟨to2,ok2⟩:=ZiO (σ:=ZiP σ (yr σ.H.length++[]) (erH h2)) ok1 (H':=erH w.1) (Zig hc e4);exact⟨{ ZiP σ (yr σ.H.length++[]) (erH h2) with H:=erH w.1},rfl,rfl,to1.trans to2,ok2,(mts_wk hc _ _ _ e3).repT (r2.to to2.leaf)⟩
 ·cases k
def ZJn(L:Lk):ESh->TEnt->yO TEnt
 |.rowN _ _ _ _,.rowM u np v st e pre mid post=>(ZJb L u mid).map λy=>.rowN u np v st e (pre++[y]) post
 |_,x=>some x
def ZEN(L:Lk):yL ESh->yL TEnt->yO (yL TEnt)
 |[],h=>some h
 |_::_,[]=>some []
 |s::r,x::h=>match ZJn L s x,ZEN L r h with
  |some y,some ys=>some (y::ys)
  |_,_=>none
theorem ZHk{L:Lk}{s:ESh}{x y:TEnt}(h:ZJn L s x=some y):lkE (some y)=lkE (some x)/\WkE (x.er L) (y.er L):=by
 unfold ZJn at h;split at h
 ·rename_i u np v st e pre mid post;obtain⟨c,h1,rfl⟩:=Zb h;refine⟨?_,ZBc (ZA9 h1)⟩;simp only[lkE,yo,yah,List.length_nil];rw[Nat.add_assoc,Nat.add_comm (0+1)]
 ·cases h;exact⟨rfl,.refl _⟩
theorem ZBn{L:Lk}:∀{es:yL ESh}{h h':yL TEnt},ZEN L es h=some h'->h'.length=h.length/\(∀j:Nat,lkE (h'[j]?)=lkE (h[j]?))/\WkH (h.map (TEnt.er L)) (h'.map (TEnt.er L))
 |[],h,h',k=>by cases k;exact⟨rfl,λ_=>rfl,WkH.refl _⟩
 |_::_,[],h',k=>by cases k;exact⟨rfl,λ_=>rfl,WkH.refl _⟩
 |s::r,x::h,h',k=>by
  simp only[ZEN] at k;split at k
  ·rename_i y ys h1 h2;cases k;obtain⟨a1,a2⟩:=ZHk h1;obtain⟨b1,b2,b3⟩:=ZBn h2;refine⟨by simp[b1],λj=> ?_,.cons a2 b3⟩
   cases j with
   |zero=>exact a1
   |succ j=>exact b2 j
  ·cases k
theorem ZBo{es:yL ESh}{h h':yL TEnt}(k:ZEN (lk h) es h=some h'):h'.length=h.length/\lk h'=lk h/\WkH (erH h) (erH h'):=by
 obtain⟨a,b,c⟩:=ZBn k;have e:lk h'=lk h:=funext b;refine⟨a,e, ?_⟩;unfold erH;rw[e];exact c
def Zve(n0:Nat)(sl:Slots)(es:yL ESh)(a:yL TD)(h:yL TEnt):yO (yL TV):=(ZEN (lk h) es h).bind λh=>ZxB n0 sl es a h
theorem Ztx{n0:Nat}{sl:Slots}{es:yL ESh}{a:yL TD}{h:yL TEnt}{vs:yL TV}(k:Zve n0 sl es a h=some vs):
 ∃a3 h3,VV a.length sl es vs=some (a3,h3)/\∀{c:Code}{ts:yL Dv}{H:yL Ent}{ex:Ex},H.length=n0->XD P c ts H ex (TD.ers (lk h) a) (erH h)->XD P c ts H ex (TD.ers (lk h3) a3) (erH h3):=by
 obtain⟨h1,k1,k2⟩:=yf.1 k;obtain⟨e1,e2,e3⟩:=ZBo k1;obtain⟨a3,h3,g1,g2⟩:=Zz0 (P:=P) k2;refine⟨a3,h3,g1,λhl r=>g2 hl ?_⟩;rw[e2];exact Ztg r (WkL.refl _) e3
theorem Zty{n0:Nat}{sl:Slots}{es:yL ESh}{a:yL TD}{h:yL TEnt}{vs:yL TV}(hn:h.length=n0)(k:Zve n0 sl es a h=some vs):
 ∃a3 h3,VV a.length sl es vs=some (a3,h3)/\∀(σ:Sg)(act:Act),Ok σ->σ.H=erH h->RepT σ (TD.ers (lk h) a) act->∃σ':Sg,σ'.w=σ.w/\σ'.H=erH h3/\To σ σ'/\Ok σ'/\RepT σ' (TD.ers (lk h3) a3) act:=by
 obtain⟨h1,k1,k2⟩:=yf.1 k;obtain⟨e1,e2,e3⟩:=ZBo k1;obtain⟨a3,h3,g1,g2⟩:=Zz1 (by rw[e1];exact hn) k2;refine⟨a3,h3,g1,λσ act ok hH hr=> ?_⟩;obtain⟨to,ok'⟩:=ZiO ok (H':=erH h1) (by rw[hH];exact e3);obtain⟨σ2,q1,q2,q3,q4,q5⟩:=g2 { σ with H:=erH h1} act ok' rfl (by rw[e2];exact hr.to to.leaf);exact⟨σ2,q1,q2,to.trans q3,q4,q5⟩
structure Lp where
 sl:Slots
 es:List ESh
 I:List Ty
 xs:List XSh
 L:Ty.dens I->Option (XSh.sum xs)
def Lp.Is(P:yg)(n:Nat)(c:Code)(lp:Lp):Prop:=
 ∀v o,lp.L v=some o->∀s,VV n lp.sl lp.es (ofD lp.I v)=some s->∀e vs s',Zxl lp.xs o e vs->VV n e.sl e.es vs=some s'->
  XD P c (TD.ers (lk s.2) s.1) (erH s.2) e.ex (TD.ers (lk s'.2) s'.1) (erH s'.2)
abbrev Lp.Ok(P:yg)(n:Nat)(body:Code)(lp:Lp):Prop:=lp.Is P n (.loop body)
structure FI where
 hi:HI:={}
 lp:List (Nat×Lp):=[]
 bk:List (Nat×Lp):=[]
 gh:List (Nat×GOp):=[]
 un:Nat:=0
def Code.nl:Code->Nat
 |.seq a b=>Code.nl a+Code.nl b
 |.cond _ a b=>Code.nl a+Code.nl b
 |.block _ a=>Code.nl a
 |.scope a=>Code.nl a
 |.loop a=>Code.nl a+1
 |_=>0
def Code.ns:Code->Nat
 |.seq a b=>Code.ns a+Code.ns b+1
 |.cond _ a b=>Code.ns a+Code.ns b
 |.block _ a=>Code.ns a
 |.scope a=>Code.ns a
 |.loop a=>Code.ns a
 |_=>0
theorem Q7:∀c:Code,(Zx c).length=Code.nl c
 |.seq a b=>by simp only[Zx,yo,Q7 a,Q7 b,Code.nl]
 |.cond _ a b=>by simp only[Zx,yo,Q7 a,Q7 b,Code.nl]
 |.block _ a=>by simp only[Zx,Q7 a,Code.nl]
 |.scope a=>by simp only[Zx,Q7 a,Code.nl]
 |.loop a=>by simp only[Zx,yah,Q7 a,Code.nl]
 |.skip=>rfl
 |.region _ _ _=>rfl
 |.rangeFunc _ _ _ _=>rfl
 |.exit _=>rfl
 |.ret=>rfl
 |.label _=>rfl
 |.goto _=>rfl
 |.refuse _=>rfl
def ZoX{O:Type}(step:yL TD->yL TEnt->Kc O->yO O):Nat->yL TD->yL TEnt->Kc O->yO O
 |0,_,_,_=>none
 |k+1,a,h,K=>step a h λex a' h'=>match ex with
  |.normal=>ZoX step k a' h' K
  |ex=>K ex a' h'
theorem ZnI{O:Type}{body:Code}{N:Nat}{step:yL TD->yL TEnt->Kc O->yO O}
 (hs:∀(a:yL TD)(h:yL TEnt)(K:Kc O)(out:O),a.length=N->step a h K=some out->∃ex a' h',K ex a' h'=some out/\a'.length=N/\XD P body (TD.ers (lk h) a) (erH h) ex (TD.ers (lk h') a') (erH h')):
 ∀(k:Nat)(a:yL TD)(h:yL TEnt)(K:Kc O)(out:O),a.length=N->ZoX step k a h K=some out->∃ex a' h',K ex a' h'=some out/\a'.length=N/\Ztb P body (TD.ers (lk h) a) (erH h) ex (TD.ers (lk h') a') (erH h')
 |0,_,_,_,_,_,k=>by cases k
 |n+1,a,h,K,out,hN,k=>by
  unfold ZoX at k;obtain⟨ex,a1,h1,k1,k2,k3⟩:=hs _ _ _ _ hN k;split at k1
  ·obtain⟨ex2,a2,h2,k4,k5,k6⟩:=ZnI hs n a1 h1 K out k2 k1;exact⟨ex2,a2,h2,k4,k5,Ztd [] k3 k6⟩
  ·rename_i hne;exact⟨_,a1,h1,k1,k2,Ztc hne k3⟩
def Zmx(m:Nat)(a:yL TD)(h:yL TEnt):yL (Nat×Lp)->yO (Σ bk:Lp,Ty.dens bk.I)
 |[]=>none
 |q::r=>if Nat.beq q.1 m=true then match (Zve h.length q.2.sl q.2.es a h).bind (toD q.2.I) with
   |some v=>some ⟨q.2,v⟩
   |none=>Zmx m a h r
  else Zmx m a h r
theorem ZdU{m:Nat}{a:yL TD}{h:yL TEnt}{b:Σ bk:Lp,Ty.dens bk.I}:∀{l:yL (Nat×Lp)},Zmx m a h l=some b->(m,b.1)∈l/\∃vs,Zve h.length b.1.sl b.1.es a h=some vs/\toD b.1.I vs=some b.2
 |[],k=>by cases k
 |q::r,k=>by
  unfold Zmx at k;split at k
  ·rename_i hm;split at k
   ·rename_i v hv;cases k;have e:=Nat.eq_of_beq_eq_true hm;refine⟨?_,yf.1 hv⟩;rw[<-e];exact yam ..
   ·obtain⟨h1,h2⟩:=ZdU k;exact⟨yap _ h1,h2⟩
  ·obtain⟨h1,h2⟩:=ZdU k;exact⟨yap _ h1,h2⟩
def evT{O:Type}(P:yg)(fi:FI)(specs:Sp P):Code->Nat->Nat->yL TD->yL TEnt->Kc O->yO O
 |.skip,_,_,a,h,K=>K .normal a h
 |.label _,_,_,a,h,K=>K .normal a h
 |.region _ ops draw,_,_,a,h,K=>if draw=true then ZJj P fi.hi specs ops a h λa' h'=>K .normal a' h' else ZEB P fi.hi specs ops ops.toList a h λa' h' _=>K .normal a' h'
 |.seq x y,n,m,a,h,K=>ghO (fi.gh.lookup m) a h λa h=>match Zmx m a h fi.bk with
  |none=>evT P fi specs x n (m+1) a h λex a' h'=>match ex with
   |.normal=>evT P fi specs y (n+Code.nl x) (m+1+Code.ns x) a' h' K
   |ex=>K ex a' h'
  |some bk=>(bk.1.L bk.2).bind λo=>xT a.length bk.1.xs o λex a' h'=>match ex with
   |.normal=>evT P fi specs y (n+Code.nl x) (m+1+Code.ns x) a' h' K
   |ex=>K ex a' h'
 |.cond c x y,n,m,a,h,K=>((arT P a 0 c).bind TD.boolT).bind λb=>match c with
  |.tmp t=>if b=true then evT P fi specs x n m (a.set t (Zr7 true)) h K else evT P fi specs y (n+Code.nl x) (m+Code.ns x) (a.set t (Zr7 false)) h K
  |_=>if b=true then evT P fi specs x n m a h K else evT P fi specs y (n+Code.nl x) (m+Code.ns x) a h K
 |.block id body,n,m,a,h,K=>evT P fi specs body n m a h λex a' h'=>K (Zvd id ex) a' h'
 |.loop body,n,m,a,h,K=>match Zmx n a h fi.lp with
  |some lp=>(lp.1.L lp.2).bind λo=>xT a.length lp.1.xs o K
  |none=>ZoX (λa h K=>evT P fi specs body (n+1) m a h K) fi.un a h K
 |.scope body,n,m,a,h,K=>evT P fi specs body n m a h K
 |.exit id,_,_,a,h,K=>K (.exit id) a h
 |.ret,_,_,a,h,K=>K .ret a h
 |_,_,_,_,_,_=>none
def XM:Code->yL Code
 |.seq a b=>a::(XM a++XM b)
 |.cond _ a b=>XM a++XM b
 |.block _ a=>XM a
 |.scope a=>XM a
 |.loop a=>XM a
 |_=>[]
theorem Q8:∀c:Code,(XM c).length=Code.ns c
 |.seq a b=>by simp only[XM,yah,yo,Q8 a,Q8 b,Code.ns]
 |.cond _ a b=>by simp only[XM,yo,Q8 a,Q8 b,Code.ns]
 |.block _ a=>by simp only[XM,Q8 a,Code.ns]
 |.scope a=>by simp only[XM,Q8 a,Code.ns]
 |.loop a=>by simp only[XM,Q8 a,Code.ns]
 |.skip=>rfl
 |.region _ _ _=>rfl
 |.rangeFunc _ _ _ _=>rfl
 |.exit _=>rfl
 |.ret=>rfl
 |.label _=>rfl
 |.goto _=>rfl
 |.refuse _=>rfl
def Zgc(P:yg)(fi:FI)(N:Nat)(c:Code)(m:Nat):Prop:=∀(k:Nat)(x:Code),(XM c)[k]? =some x->∀bk,(m+k,bk)∈fi.bk->bk.Is P N x
theorem ZEO{fi:FI}{N:Nat}{x y c:Code}{m:Nat}(e:XM c=XM x++XM y)(h:Zgc P fi N c m):Zgc P fi N x m:=λk b hk=>h k b (by
 rw[e,yal (yq.1 hk).1];exact hk)
theorem ZCT{fi:FI}{N:Nat}{x y c:Code}{m:Nat}(e:XM c=XM x++XM y)(h:Zgc P fi N c m):Zgc P fi N y (m+Code.ns x):=λk b hk lp hl=>h (Code.ns x+k) b (by
 rw[e,yan (by rw[Q8];omega),Q8];rw[show Code.ns x+k - Code.ns x=k by omega];exact hk) lp (by rw[<-Nat.add_assoc];exact hl)
theorem ZEP{fi:FI}{N:Nat}{x y:Code}{m:Nat}(h:Zgc P fi N (.seq x y) m):Zgc P fi N x (m+1):=λk b hk lp hl=>h (k+1) b (by
 rw[XM,yav,yal (yq.1 hk).1];exact hk) lp (by rw[show m+(k+1)=m+1+k by omega];exact hl)
theorem ZxC{fi:FI}{N:Nat}{x y:Code}{m:Nat}(h:Zgc P fi N (.seq x y) m):Zgc P fi N y (m+1+Code.ns x):=λk b hk lp hl=>h (Code.ns x+k+1) b (by
 rw[XM,yav,yan (by rw[Q8];omega),Q8];rw[show Code.ns x+k - Code.ns x=k by omega];exact hk) lp (by rw[show m+(Code.ns x+k+1)=m+1+Code.ns x+k by omega];exact hl)
def ZiS(P:yg)(fi:FI)(N:Nat)(c:Code)(n:Nat):Prop:=∀(k:Nat)(b:Code),(Zx c)[k]? =some (.loop b)->∀lp,(n+k,lp)∈fi.lp->lp.Ok P N b
theorem ZxD{fi:FI}{N:Nat}{x y c:Code}{n:Nat}(e:Zx c=Zx x++Zx y)(h:ZiS P fi N c n):ZiS P fi N x n:=λk b hk=>h k b (by
 rw[e,yal (yq.1 hk).1];exact hk)
theorem Ztz{fi:FI}{N:Nat}{x y c:Code}{n:Nat}(e:Zx c=Zx x++Zx y)(h:ZiS P fi N c n):ZiS P fi N y (n+Code.nl x):=λk b hk lp hl=>h (Code.nl x+k) b (by
 rw[e,yan (by rw[Q7];omega),Q7];rw[show Code.nl x+k - Code.nl x=k by omega];exact hk) lp (by rw[<-Nat.add_assoc];exact hl)
theorem X4{O:Type}{fi:FI}{specs:Sp P}{out:O}{N:Nat}(ok:SpOk specs):∀(c:Code)(n m:Nat)(a:yL TD)(h:yL TEnt)(K:Kc O),a.length=N->ZiS P fi N c n->Zgc P fi N c m->evT P fi specs c n m a h K=some out->
 ∃ex a' h',K ex a' h'=some out/\a'.length=N/\XD P c (TD.ers (lk h) a) (erH h) ex (TD.ers (lk h') a') (erH h')
 |.skip,n,m,a,h,K,hN,hl,hb0,k=>⟨_,_,_,k,hN,ZCQ⟩
 |.label _,n,m,a,h,K,hN,hl,hb0,k=>⟨_,_,_,k,hN,ZzZ⟩
 |.exit _,n,m,a,h,K,hN,hl,hb0,k=>⟨_,_,_,k,hN,ZCR⟩
 |.ret,n,m,a,h,K,hN,hl,hb0,k=>⟨_,_,_,k,hN,ZxA⟩
 |.region id ops draw,n,m,a,h,K,hN,hl,hb0,k=>by
  unfold evT at k
  cases draw with
  |true=>
   rw[yW rfl] at k;obtain⟨a',h',k1,k2,k3⟩:=ZCM ok k
   exact⟨_,_,_,k1,by rw[k2,hN],k3 id⟩
  |false=>
   rw[yX (by decide)] at k;obtain⟨a',h',hs,k1,k2,k3⟩:=ZCN ok k
   exact⟨_,_,_,k1,by rw[k2,hN],k3 id⟩
 |.seq x y,n,m,a,h,K,hN,hl,hb0,k=>by
  have hx:=ZxD (x:=x) (y:=y) rfl hl;have hy:=Ztz (x:=x) (y:=y) rfl hl;unfold evT at k;obtain⟨a0,h0,k,hN0,gst⟩:=ZEM k;rw[hN] at hN0
  suffices key:∃ex a' h',K ex a' h'=some out/\a'.length=N/\XD P (.seq x y) (TD.ers (lk h0) a0) (erH h0) ex (TD.ers (lk h') a') (erH h') by
   obtain⟨ex,a',h',g1,g2,g3⟩:=key;exact⟨ex,a',h',g1,g2,ZHf gst g3⟩
  clear gst;have hN:=hN0;clear hN0;split at k
  ·obtain⟨ex,a1,h1,k1,k2,k3⟩:=X4 ok x _ _ _ _ _ hN hx (ZEP hb0) k;split at k1
   ·obtain⟨ex2,a2,h2,k4,k5,k6⟩:=X4 ok y _ _ _ _ _ k2 hy (ZxC hb0) k1;exact⟨_,_,_,k4,k5,Zk6 k3 k6⟩
   ·rename_i hne;exact⟨_,_,_,k1,k2,Ztw hne k3⟩
  ·rename_i bkv hbk;obtain⟨bk,v⟩:=bkv;obtain⟨hbk,vs,j1,j2⟩:=ZdU hbk;dsimp only at hbk j1 j2 k;obtain⟨o,j3,k⟩:=yf.1 k;obtain⟨e,vs',s,g1,g2,g3⟩:=ZoU k;obtain⟨a3,h3,j4,j5⟩:=Zty rfl j1;have hok:=hb0 0 x rfl bk (by rw[Nat.add_zero];exact hbk);rw[hN] at g2 j4;have e1:=Za3 _ _ _ j2;have r:=hok v o j3 (a3,h3) (by rw[e1];exact j4) e vs' s g1 g2
   have k3:XD P x (TD.ers (lk h0) a0) (erH h0) e.ex (TD.ers (lk s.2) s.1) (erH s.2):=by
    intro σ act okσ hH yM;obtain⟨σ1,p1,p2,p3,p4,p5⟩:=j5 σ act okσ hH yM;rw[<-p1];refine wp_mono (r σ1 act p4 p2 p5) ?_;rintro e' a' w' ⟨rfl,σ2,q1,q2,q3,q4,q5⟩;exact⟨rfl,σ2,q1,q2,p3.trans q3,q4,q5⟩
   split at g3
   ·rename_i he;rw[he] at k3;obtain⟨ex2,a2,h2,k4,k5,k6⟩:=X4 ok y _ _ _ _ _ (Zii g2) hy (ZxC hb0) g3;exact⟨_,_,_,k4,k5,Zk6 k3 k6⟩
   ·rename_i hne
    exact⟨_,_,_,g3,Zii g2,Ztw hne k3⟩
 |.cond c x y,n,m,a,h,K,hN,hl,hb0,k=>by
  have hx:=ZxD (x:=x) (y:=y) rfl hl;have hy:=Ztz (x:=x) (y:=y) rfl hl;have bx:=ZEO (x:=x) (y:=y) rfl hb0;have bY:=ZCT (x:=x) (y:=y) rfl hb0;unfold evT at k;obtain⟨b,k0,k⟩:=yf.1 k;obtain⟨d,k00,k01⟩:=yf.1 k0;have hc:=Zm (L:=lk h) k00;rw[ZeP k01] at hc;split at k
  ·rename_i t;cases k00;have e:=Zxr k01;split at k
   ·rename_i hb;subst hb;rw[set_same e] at k;obtain⟨ex,a1,h1,k1,k2,k3⟩:=X4 ok x _ _ _ _ _ hN hx bx k;exact⟨_,_,_,k1,k2,Zij hc k3⟩
   ·rename_i hb;have hb:b=false:=by simpa using hb
    subst hb;rw[set_same e] at k;obtain⟨ex,a1,h1,k1,k2,k3⟩:=X4 ok y _ _ _ _ _ hN hy bY k;exact⟨_,_,_,k1,k2,Zij hc k3⟩
  ·split at k
   ·rename_i hb;subst hb;obtain⟨ex,a1,h1,k1,k2,k3⟩:=X4 ok x _ _ _ _ _ hN hx bx k;exact⟨_,_,_,k1,k2,Zij hc k3⟩
   ·rename_i hb;have hb:b=false:=by simpa using hb
    subst hb;obtain⟨ex,a1,h1,k1,k2,k3⟩:=X4 ok y _ _ _ _ _ hN hy bY k
    exact⟨_,_,_,k1,k2,Zij hc k3⟩
 |.block id body,n,m,a,h,K,hN,hl,hb0,k=>by
  unfold evT at k;obtain⟨ex,a1,h1,k1,k2,k3⟩:=X4 ok body _ _ _ _ _ hN hl hb0 k
  exact⟨_,_,_,k1,k2,ZzX k3⟩
 |.scope body,n,m,a,h,K,hN,hl,hb0,k=>by
  unfold evT at k;obtain⟨ex,a1,h1,k1,k2,k3⟩:=X4 ok body _ _ _ _ _ hN hl hb0 k
  exact⟨_,_,_,k1,k2,ZzY k3⟩
 |.loop body,n,m,a,h,K,hN,hl,hb0,k=>by
  unfold evT at k;split at k
  ·rename_i lpv hlp;obtain⟨lp,v⟩:=lpv;obtain⟨hlp,vs,j1,j2⟩:=ZdU hlp;dsimp only at hlp j1 j2 k;obtain⟨o,j3,k⟩:=yf.1 k;obtain⟨e,vs',s,g1,g2,g3⟩:=ZoU k;obtain⟨a3,h3,j4,j5⟩:=Zty rfl j1;have hok:=hl 0 body rfl lp (by rw[Nat.add_zero];exact hlp);rw[hN] at g2 j4;have e1:=Za3 _ _ _ j2;have r:=hok v o j3 (a3,h3) (by rw[e1];exact j4) e vs' s g1 g2;refine⟨_,_,_,g3,Zii g2, ?_⟩;intro σ act okσ hH yM;obtain⟨σ1,p1,p2,p3,p4,p5⟩:=j5 σ act okσ hH yM;rw[<-p1];refine wp_mono (r σ1 act p4 p2 p5) ?_;rintro e' a' w' ⟨rfl,σ2,q1,q2,q3,q4,q5⟩;exact⟨rfl,σ2,q1,q2,p3.trans q3,q4,q5⟩
  ·have hl1:ZiS P fi N body (n+1):=λk b hk lp hl2=>hl (k+1) b (by rw[Zx,yav];exact hk) lp (by rw[show n+(k+1)=n+1+k by omega];exact hl2);obtain⟨ex,a1,h1,k1,k2,k3⟩:=ZnI (λa h K out hN k=>X4 ok body _ _ _ _ K hN hl1 hb0 k) _ _ _ _ _ hN k
   exact⟨ex,a1,h1,k1,k2,Zte k3⟩
 |.rangeFunc _ _ _ _,_,_,_,_,_,_,_,_,k=>by cases k
 |.goto _,_,_,_,_,_,_,_,_,k=>by cases k
 |.refuse _,_,_,_,_,_,_,_,_,k=>by cases k
end
end Go.Ev
end
section
namespace Go.Ev
def Zc{I X:Type}(step:I->yO (I⊕X)):Nat->I->yO X
 |0,_=>none
 |n+1,i=>(step i).bind λr=>match r with
  |.inl j=>Zc step n j
  |.inr x=>some x
theorem ZEQ:∃n:Nat,n=18446744073709551616:=⟨_,rfl⟩
noncomputable def yD:Nat:=Classical.choose ZEQ
theorem Zfy:yD=18446744073709551616:=Classical.choose_spec ZEQ
section
variable{P:yg}
def ZHl(n0:Nat)(ex:Ex)(a:yL TD)(h:yL TEnt):(l:yL XSh)->yO (XSh.sum l)
 |[]=>none
 |[e]=>if ex=e.ex then(Zve n0 e.sl e.es a h).bind λvs=>toD e.ty vs else none
 |e::f::r=>match (if ex=e.ex then(Zve n0 e.sl e.es a h).bind λvs=>toD e.ty vs else none) with
  |some x=>some (Sum.inl x:Ty.dens e.ty⊕XSh.sum (f::r))
  |none=>(ZHl n0 ex a h (f::r)).map λx=>(Sum.inr x:Ty.dens e.ty⊕XSh.sum (f::r))
theorem ZtA{n0:Nat}{ex:Ex}{a:yL TD}{h:yL TEnt}:∀{l:yL XSh}{o:XSh.sum l},ZHl n0 ex a h l=some o->∀e vs,Zxl l o e vs->ex=e.ex/\Zve n0 e.sl e.es a h=some vs
 |[],_,k,_,_,_=>by cases k
 |[e],o,k,x,vs,hs=>by
  obtain⟨rfl,rfl⟩:=hs;have k:(if ex=x.ex then(Zve n0 x.sl x.es a h).bind λvs=>toD x.ty vs else none)=some o:=k
  split at k
  ·rename_i he;obtain⟨ws,h1,h2⟩:=yf.1 k;exact⟨he,by rw[h1,Za3 _ _ _ h2]⟩
  ·cases k
 |e::f::r,o,k,x,vs,hs=>by
  simp only[ZHl] at k;split at k
  ·rename_i y hy;cases k;obtain⟨rfl,rfl⟩:=hs;split at hy
   ·rename_i he;obtain⟨ws,h1,h2⟩:=yf.1 hy;exact⟨he,by rw[h1,Za3 _ _ _ h2]⟩
   ·cases hy
  ·obtain⟨y,h1,h2⟩:=Zb k;subst h2;exact ZtA h1 x vs hs
def ZtB(P:yg)(fi:FI)(specs:Sp P)(body:Code)(n N:Nat)(sl:Slots)(es:yL ESh)(I:yL Ty)(xs:yL XSh):Ty.dens I->yO (Ty.dens I⊕XSh.sum xs):=λv=>
 (VV N sl es (ofD I v)).bind λs=>evT P fi specs body (n+1) 0 s.1 s.2 λex a h=>match ex with
   |.normal=>(Zve s.2.length sl es a h).bind λvs=>(toD I vs).map .inl
   |ex=>(ZHl s.2.length ex a h xs).map .inr
theorem ZER{fi:FI}{specs:Sp P}{body:Code}{n N:Nat}{sl:Slots}{es:yL ESh}{I:yL Ty}{xs:yL XSh}(ok:SpOk specs)(hl:ZiS P fi N body (n+1))(hb0:Zgc P fi N body 0):
 ∀(f:Nat)(v:Ty.dens I)(o:XSh.sum xs),Zc (ZtB P fi specs body n N sl es I xs) f v=some o->∀s,VV N sl es (ofD I v)=some s->∀e vs s',Zxl xs o e vs->VV N e.sl e.es vs=some s'->
  Ztb P body (TD.ers (lk s.2) s.1) (erH s.2) e.ex (TD.ers (lk s'.2) s'.1) (erH s'.2)
 |0,_,_,h,_,_,_,_,_,_,_=>by cases h
 |f+1,v,o,h,s,hs,e,vs,s',hx,hs'=>by
  unfold Zc at h;obtain⟨r,h1,h2⟩:=yf.1 h;unfold ZtB at h1;rw[hs,ya] at h1;obtain⟨ex,a,h3,k1,k2,k3⟩:=X4 ok body _ _ _ _ _ (Zii hs) hl hb0 h1;split at k1
  ·obtain⟨ws,g1,k1⟩:=yf.1 k1;obtain⟨w,g2,rfl⟩:=Zb k1;obtain⟨a3,h4,g3,g4⟩:=Ztx (P:=P) g1;rw[k2] at g3;have r1:=g4 (ZC _) k3;have:=ZER ok hl hb0 f w o h2 (a3,h4) (by rw[Za3 _ _ _ g2];exact g3) e vs s' hx hs';exact Ztd [] r1 this
  ·rename_i hne;obtain⟨w,g2,rfl⟩:=Zb k1;cases h2;obtain⟨g5,g6⟩:=ZtA g2 e vs hx;obtain⟨a3,h4,g3,g4⟩:=Ztx (P:=P) g6;rw[k2,hs'] at g3;cases g3;subst g5;exact Ztc hne (g4 (ZC _) k3)
theorem ZKz{fi:FI}{specs:Sp P}{body:Code}{n N:Nat}{sl:Slots}{es:yL ESh}{I:yL Ty}{xs:yL XSh}{step:Ty.dens I->yO (Ty.dens I⊕XSh.sum xs)}(f:Nat)(ok:SpOk specs)(hl:ZiS P fi N body (n+1))(hb0:Zgc P fi N body 0)
 (h:∀v,ZtB P fi specs body n N sl es I xs v=step v):Lp.Ok P N body ⟨sl,es,I,xs,Zc step f⟩:=by
 intro v o hL s hs e vs s' hx hs';have e1:ZtB P fi specs body n N sl es I xs=step:=funext h;subst e1;exact Zte (ZER ok hl hb0 f v o hL s hs e vs s' hx hs')
theorem Zbn:∀(c:Code)(k:Nat)(b:Code),(Zx c)[k]? =some (.loop b)->∀j x,(Zx b)[j]? =some x->(Zx c)[k+1+j]? =some x
 |.seq x y,k,b,h,j,z,hz=>by
  simp only[Zx] at h ⊢;rcases ycc k (Zx x).length with hl|hl
  ·rw[yal hl] at h;have:=Zbn x k b h j z hz;rw[yal (yq.1 this).1];exact this
  ·rw[yan hl] at h;have:=Zbn y _ b h j z hz;rw[yan (by omega)];rw[show k+1+j - (Zx x).length=k - (Zx x).length+1+j by omega]
   exact this
 |.cond _ x y,k,b,h,j,z,hz=>by
  simp only[Zx] at h ⊢;rcases ycc k (Zx x).length with hl|hl
  ·rw[yal hl] at h;have:=Zbn x k b h j z hz;rw[yal (yq.1 this).1];exact this
  ·rw[yan hl] at h;have:=Zbn y _ b h j z hz;rw[yan (by omega)];rw[show k+1+j - (Zx x).length=k - (Zx x).length+1+j by omega]
   exact this
 |.block _ a,k,b,h,j,z,hz=>Zbn a k b h j z hz
 |.scope a,k,b,h,j,z,hz=>Zbn a k b h j z hz
 |.loop a,k,b,h,j,z,hz=>by
  simp only[Zx] at h ⊢
  cases k with
  |zero=>
   simp only[ybd,yi,Code.loop.injEq] at h;subst h;rw[show 0+1+j=j+1 by omega,yav]
   exact hz
  |succ k=>
   rw[yav] at h;rw[show k+1+1+j=(k+1+j)+1 by omega,yav]
   exact Zbn a k b h j z hz
 |.skip,_,_,h,_,_,_=>by simp[Zx] at h
 |.region _ _ _,_,_,h,_,_,_=>by simp[Zx] at h
 |.rangeFunc _ _ _ _,_,_,h,_,_,_=>by simp[Zx] at h
 |.exit _,_,_,h,_,_,_=>by simp[Zx] at h
 |.ret,_,_,h,_,_,_=>by simp[Zx] at h
 |.label _,_,_,h,_,_,_=>by simp[Zx] at h
 |.goto _,_,_,h,_,_,_=>by simp[Zx] at h
 |.refuse _,_,_,h,_,_,_=>by simp[Zx] at h
def Zk7(P:yg)(g:yu)(N:Nat):yL (Nat×Lp)->Prop
 |[]=>True
 |q::r=>q.2.Ok P N (ZaJ P g q.1)/\Zk7 P g N r
theorem Zmy{g:yu}{N:Nat}:∀{l:yL (Nat×Lp)}{n:Nat}{lp:Lp},Zk7 P g N l->(n,lp)∈l->lp.Ok P N (ZaJ P g n)
 |[],_,_,_,h=>by cases h
 |q::r,n,lp,hk,h=>by
  rcases yax.1 h with h|h
  ·subst h;exact hk.1
  ·exact Zmy hk.2 h
def Q9(P:yg)(g:yu):Code:=
 match P.funcs[g]? with
 |some fn=>fn.body.getD .skip
 |none=>.skip
theorem Zmz{g:yu}{k:Nat}{b:Code}(h:(Zx (Q9 P g))[k]? =some (.loop b)):ZaJ P g k=b:=by
 unfold ZaJ ZDQ;unfold Q9 at h;split at h
 ·rename_i fn hf;rw[hf];dsimp only
  cases hb:fn.body with
  |none=>rw[hb] at h;simp[Zx] at h
  |some c=>
   rw[hb] at h;dsimp only[Option.getD] at h ⊢;rw[ycz,h];rfl
 ·simp[Zx] at h
theorem ZBp{g:yu}{fi:FI}{N:Nat}(h:Zk7 P g N fi.lp):ZiS P fi N (Q9 P g) 0:=by
 intro k b hk lp hl;rw[ybf] at hl;rw[<-Zmz hk];exact Zmy h hl
theorem ZES{g:yu}{fi:FI}{N k:Nat}(hk:(Zx (Q9 P g))[k]? =some (.loop (ZaJ P g k)))(h:Zk7 P g N fi.lp):ZiS P fi N (ZaJ P g k) (k+1):=by
 intro j b hj lp hl;have:=Zbn _ _ _ hk j _ hj;rw[<-Zmz this];exact Zmy h hl
def Zk8(P:yg)(g k:Nat):Bool:=
 match (Zx (Q9 P g))[k]? with
 |some (.loop _)=>true
 |_=>false
theorem Zsa{g k:Nat}(h:Zk8 P g k=true):(Zx (Q9 P g))[k]? =some (.loop (ZaJ P g k)):=by
 unfold Zk8 at h;split at h
 ·rename_i b hb;rw[hb,Zmz hb]
 ·cases h
def ZET(c:Code)(m:Nat):Code:=((XM c)[m]?).getD .skip
def ZtC(P:yg)(N:Nat)(c:Code):yL (Nat×Lp)->Prop
 |[]=>True
 |q::r=>q.2.Is P N (ZET c q.1)/\ZtC P N c r
theorem ZtD{N:Nat}{c:Code}:∀{l:yL (Nat×Lp)}{m:Nat}{bk:Lp},ZtC P N c l->(m,bk)∈l->bk.Is P N (ZET c m)
 |[],_,_,_,h=>by cases h
 |q::r,m,bk,hk,h=>by
  rcases yax.1 h with h|h
  ·subst h;exact hk.1
  ·exact ZtD hk.2 h
theorem Zvf{fi:FI}{N:Nat}{c:Code}(h:ZtC P N c fi.bk):Zgc P fi N c 0:=by
 intro k x hk bk hl;rw[ybf] at hl;have:=ZtD h hl;unfold ZET at this;rw[hk] at this;exact this
theorem Zvg{fi:FI}{specs:Sp P}{g k N:Nat}{sl:Slots}{es:yL ESh}{I:yL Ty}{xs:yL XSh}{step:Ty.dens I->yO (Ty.dens I⊕XSh.sum xs)}(ok:SpOk specs)(hl:Zk7 P g N fi.lp:=by exact True.intro)(hk:Zk8 P g k=true:=by kernel_rfl)
 (h:∀v,ZtB P fi specs (ZaJ P g k) k N sl es I xs v=step v:=by intro v;kernel_rfl) (hb:ZtC P N (ZaJ P g k) fi.bk:=by exact True.intro):Lp.Ok P N (ZaJ P g k) ⟨sl,es,I,xs,Zc step yD⟩:=
 ZKz yD ok (ZES (Zsa hk) hl) (Zvf hb) h
def Zsb{O:Type}(P:yg)(a:yL TD)(h:yL TEnt):yL ResultVar->(yL TD->yL Hint->yO O)->yO O
 |[],K=>K [] []
 |.tmp t::r,K=>Zsb P a h r λds hs=>K (a.getD t .junk::ds) hs
 |.cell t ty::r,K=>match a.getD t .junk with
  |.ref id yQ=>(ZnA h id).bind λd=>gpT (lk h) yQ d λsub hs _=>if okT P ty (sub.er (lk h))=true then Zsb P a h r λds hs'=>K (sub::ds) (hs++hs') else none
  |_=>none
theorem ZeT{O:Type}{a:yL TD}{h:yL TEnt}{out:O}:∀(l:yL ResultVar)(K:yL TD->yL Hint->yO O),Zsb P a h l K=some out->∃ds hs C,K ds hs=some out/\AllP C/\∀yK,ZrU P (TD.ers (lk h) a) (erH h) l (hs++yK)=some (C,TD.ers (lk h) ds)
 |[],K,k=>⟨[],[],[],k,zP,λ_=>rfl⟩
 |.tmp t::r,K,k=>by
  obtain⟨ds,hs,C,k1,k2,k3⟩:=ZeT r _ k;refine⟨_,_,C,k1,k2,λyK=> ?_⟩
  simp only[ZrU,k3 yK,yaa,ZkN,TD.ers]
 |.cell t ty::r,K,k=>by
  unfold Zsb at k;split at k
  ·rename_i id yQ hx;obtain⟨d,h1,k⟩:=yf.1 k;obtain⟨st,h2,h3⟩:=ZcO h1;obtain⟨sub,hs,put,C,g1,g2,g3,_⟩:=XJ _ _ _ _ k;obtain⟨g4,g5⟩:=Za g1;obtain⟨ds,hs',C',k1,k2,k3⟩:=ZeT r _ g5;refine⟨_,_,C++[Zb6 yQ=Wg yQ]++C',k1,Zj.2 ⟨Zj.2 ⟨g2,(XT _).symm,ytt⟩,k2⟩,λyK=> ?_⟩;unfold ZrU;rw[ZkN,hx];dsimp only[TD.er];rw[h3];dsimp only;rw[yac,g3 (hs'++yK)];dsimp only;rw[yW g4,k3 yK];rfl
  ·cases k
def Zqd:yL TD->TD
 |[d]=>d
 |ds=>.tup ds
theorem Zik{L:Lk}(ds:yL TD):(Zqd ds).er L=Zo6 (TD.ers L ds):=by
 match ds with
 |[]=>rfl
 |[d]=>rfl
 |_::_::_=>rfl
def TD.arg(L:Lk):TD->TD
 |.own id nn t c=>.p (.sl nn t (ZW L id t c))
 |.agg ds=>TD.melt L ds
 |d=>d
theorem Zz2{L:Lk}(d:TD):(d.arg L).er L=(d.er L).arg:=by
 cases d <;> first|rfl|exact ZAZ _
def ZEU(h:yL TEnt)(rs:Sh)(es:yL ESh)(n0:Nat)(r:TD):yO (yL Nat):=
 let l:=ZJf h es 0 ((yr n0).map (λi=>(i,i))++Sh.ids rs r)
 ((yr es.length).drop n0).mapM λj=>l.lookup j
def ZHm(h:yL TEnt)(n0:Nat)(ds:yL TD)(e:XSh):yO (Ty.dens e.ty):=
 match e.sl with
 |[(0,rs)]=>(ZEU h rs e.es n0 (Zqd ds)).bind λkeep=>
  if once (yr n0++keep) then(match Dv.rn (toIds (yr n0++keep)) ((Zqd ds).er (lk h)) with
   |some _=>(Zqd ds).rn (toIds (yr n0++keep))
   |none=>(Zqd (ds.map (TD.arg (lk h)))).rn (toIds (yr n0++keep))).bind λr=>
   (XK h (yr n0++keep) (yr n0++keep)).bind λh2=>(Sh.mt (lk h2) rs r).bind λq=>(ESh.mts (lk h2) e.es h2).bind λw=>toD e.ty (q.2++w.2)
  else none
 |_=>none
def ZxE(h:yL TEnt)(n0:Nat)(ds:yL TD):(l:yL XSh)->yO (XSh.sum l)
 |[]=>none
 |[e]=>ZHm h n0 ds e
 |e::f::r=>match ZHm h n0 ds e with
  |some x=>some (Sum.inl x:Ty.dens e.ty⊕XSh.sum (f::r))
  |none=>(ZxE h n0 ds (f::r)).map λx=>(Sum.inr x:Ty.dens e.ty⊕XSh.sum (f::r))
theorem Zqe{h:yL TEnt}{n0:Nat}{ds:yL TD}:∀{l:yL XSh}{o:XSh.sum l},ZxE h n0 ds l=some o->∀e vs,Zxl l o e vs->∃x,ZHm h n0 ds e=some x/\vs=ofD e.ty x
 |[],_,k,_,_,_=>by cases k
 |[e],o,k,x,vs,hs=>by
  obtain⟨rfl,rfl⟩:=hs
  exact⟨o,k,rfl⟩
 |e::f::r,o,k,x,vs,hs=>by
  simp only[ZxE] at k;split at k
  ·rename_i y hy;cases k;obtain⟨rfl,rfl⟩:=hs;exact⟨y,hy,rfl⟩
  ·obtain⟨y,h1,h2⟩:=Zb k;subst h2;exact Zqe h1 x vs hs
def fnT(P:yg)(fi:FI)(specs:Sp P)(g:yu)(ps:yL Sh)(es:yL ESh)(ins:yL Ty)(xs:yL XSh):Ty.dens ins->yO (XSh.sum xs):=λx=>
 match P.funcs[g]? with
 |some fn=>match fn.body with
  |some c=>(Sh.fills ps (ofD ins x)).bind λq=>(ESh.fills es q.2).bind λw=>if w.2.isEmpty then
    evT P fi specs c 0 0 (q.1++yv (fn.ntmps - q.1.length) .junk) w.1 λex a h=>match ex with
     |.exit _=>none
     |_=>Zsb P a h fn.results.toList λds _=>ZxE h w.1.length ds xs
    else none
  |none=>none
 |none=>none
def ZaM(P:yg)(g:yu):Nat:=
 match P.funcs[g]? with
 |some fn=>fn.ntmps
 |none=>0
theorem ZEV{fi:FI}{specs:Sp P}{g:yu}{ps:yL Sh}{es:yL ESh}{ins:yL Ty}{xs:yL XSh}{M:Ty.dens ins->yO (XSh.sum xs)}(ok:SpOk specs)(hl:Zk7 P g (ZaM P g) fi.lp:=by exact True.intro)(hn:ps.length<=ZaM P g:=by decide+kernel)
 (h:∀x,fnT P fi specs g ps es ins xs x=M x:=by intro v;kernel_rfl) (hb:ZtC P (ZaM P g) (Q9 P g) fi.bk:=by exact True.intro):Fs.Ok (⟨g,ps,es,ins,xs,M⟩:Fs P):=by
 intro x o hM;have hM:M x=some o:=hM;rw[<-h x] at hM;have hl':=ZBp hl;unfold fnT at hM;split at hM
 ·rename_i fn hf;split at hM
  ·rename_i c hb1;obtain⟨q,h1,hM⟩:=yf.1 hM;obtain⟨w,h2,hM⟩:=yf.1 hM;obtain⟨h3,hM⟩:=Za hM;have hN:ZaM P g=fn.ntmps:=by unfold ZaM;rw[hf]
   have hc:Q9 P g=c:=by unfold Q9;rw[hf];dsimp only;rw[hb1];rfl
   rw[hc,hN] at hl' hb;have hb0:=Zvf hb;rw[hN] at hn
   have zW:(q.1++yv (fn.ntmps - q.1.length) TD.junk).length=fn.ntmps:=by
    rw[yo,yct,Zih h1];omega
   obtain⟨ex,a,hh,k1,k2,k3⟩:=X4 ok c _ _ _ _ _ zW hl' hb0 hM
   have hex:(ex=.ret\/ex=.normal)/\(Zsb P a hh fn.results.toList λds _=>ZxE hh w.1.length ds xs)=some o:=by
    cases ex with
    |exit _=>cases k1
    |normal=>exact⟨.inr rfl,k1⟩
    |ret=>exact⟨.inl rfl,k1⟩
   obtain⟨hex,k1⟩:=hex;obtain⟨ds,hs,C,g1,g2,g3⟩:=ZeT _ _ k1;refine⟨q.1,q.2,w.1,h1, ?_,λe vs s' hsel hfs=> ?_⟩
   ·rw[h2];have:w.2=[]:=by simpa using h3
    rw[<-this]
   obtain⟨o1,g1,hvs⟩:=Zqe g1 e vs hsel;unfold ZHm at g1;split at g1
   case h_2=>cases g1
   rename_i rs hsl;obtain⟨keep,g4,g1⟩:=yf.1 g1;obtain⟨g5,g1⟩:=Za g1;obtain⟨r,g6,g1⟩:=yf.1 g1;obtain⟨e2,g7,g1⟩:=yf.1 g1;obtain⟨z,g8,g1⟩:=yf.1 g1;obtain⟨y,g9,g1⟩:=yf.1 g1;obtain⟨b1,b2⟩:=ZeS g9;have hcc:∀id t,ZW (lk e2) id t none=ZW (lk y.1) id t none:=λid t=>by rw[b2]
   have eo:=Za3 _ _ _ g1
   have efill:s'=([z.1],y.1):=by
    rw[hvs,eo,hsl] at hfs;unfold VV at hfs;rw[show shs [(0,rs)] 1=[rs] from rfl] at hfs
    simp only[Sh.fills,Zif _ _ _ g8,ya,yaa] at hfs;have:=Qw g9 [];rw[yar] at this;rw[this] at hfs;exact(ybi hfs).symm
   subst efill;refine⟨z.1,rfl, ?_⟩
   have hfin:fin P fn (TD.ers (lk hh) a) (erH hh) (erH w.1).length keep hs=some (C,r.er (lk e2),erH e2):=by
    unfold fin;have:=g3 [];rw[yar] at this;rw[this];dsimp only;rw[ZC,g5, <-Zik,show subEnts (erH hh) _ _=some (erH e2) from Xw (V8 g7) g7]
    split at g6
    ·rename_i r0 hr0;have e4:=ZcT (V8 g7) _ _ g6;rw[e4]
    ·rename_i hr0;have e4:=ZcT (V8 g7) _ _ g6;rw[Zik,ZB,yas] at e4
     rw[hr0,show(TD.ers (lk hh) ds).map Dv.arg=ds.map (TD.er (lk hh) ∘ TD.arg (lk hh)) by
      rw[ZB,yas];exact ycn λd _=>(Zz2 d).symm,e4]
   have zB:XD P c (TD.ers (lk w.1) q.1++yv (fn.ntmps - (TD.ers (lk w.1) q.1).length) .junk) (erH w.1) ex (TD.ers (lk hh) a) (erH hh):=by
    have e5:TD.ers (lk w.1) (q.1++yv (fn.ntmps - q.1.length) TD.junk)=TD.ers (lk w.1) q.1++yv (fn.ntmps - (TD.ers (lk w.1) q.1).length) .junk:=by
     rw[Zuq,ZB,ZB,yai,List.map_replicate];rfl
    rw[<-e5];exact k3
   exact ZwQ (ZdO hf hb1 zB hex hfin g2) (ZpX hcc _ _ _ g8) (Zig hcc g9)
  ·cases hM
 ·cases hM
end
theorem Zvh{P:yg}{g:yu}{t:Ty}{xs:yL XSh}{MA:Ty.dens [.sl t]->yO (XSh.sum xs)}{MB:Ty.dens []->yO (XSh.sum xs)}(hA:Fs.Ok (⟨g,[.sl true t],[],[.sl t],xs,MA⟩:Fs P))(hB:Fs.Ok (⟨g,[.nil t],[],[],xs,MB⟩:Fs P))
 (h:MB ()=MA ([]:yL t.den)):Fs.Ok (⟨g,[.v (.sl t)],[],[.sl t],xs,MA⟩:Fs P):=by
 intro l o hM;have key:∀(l:yL t.den),Ty.cast (.sl t) (.sl t) l=some l:=λl=>YA (.sl t) l;obtain⟨a1,R1,H1,f1,f2,f3⟩:=hA l o hM
 have e1:a1=[.p (.sl (some true) t l)]/\R1=[]:=by
  have:Sh.fills [.sl true t] [(⟨.sl t,l⟩:TV)]=some (a1,R1):=f1;simp only[Sh.fills,Sh.fill] at this;rw[key l] at this;have this:some (([.p (.sl (some true) t l)]:yL TD),([]:yL TV))=some (a1,R1):=this;cases this;exact⟨rfl,rfl⟩
 obtain⟨rfl,rfl⟩:=e1;cases f2;refine⟨[.p (.v (.sl t) l)],[],[], ?_,rfl,λe vs s' hs hf=> ?_⟩
 ·show Sh.fills [.v (.sl t)] [(⟨.sl t,l⟩:TV)]=_;simp only[Sh.fills,Sh.fill];rw[key l];rfl
 ·obtain⟨r,r1,r2⟩:=f3 e vs s' hs hf;refine⟨r,r1, ?_⟩;refine ZAS (xs:=l.map t.enc) r2 λhl=> ?_;have hl:l=[]:=List.map_eq_nil_iff.1 hl;subst hl;obtain⟨a2,R2,H2,g1,g2,g3⟩:=hB () o (by rw[<-hM];exact h);cases g1;cases g2;obtain⟨r',r1',r2'⟩:=g3 e vs s' hs hf;rw[r1] at r1';cases r1';exact r2'
def Zqf(n:Int):yO (yL yB):=if(decide (0<=n)&&decide (n.toNat<=Zk))=true then some [] else none
theorem ZHn{P:yg}{g:yu}{e:yc}(h:∀n:Nat,n<=Zk->Con P g [.p (.sl (some false) 1 []),.p (.int .i64 (n:Int))] [] (.own 0 none 1 []) [.log 1 e []]):
 Fs.Ok (⟨g,[.nil .u8,.v (.int .i64)],[],[.int .i64],[⟨.ret,[(0,.own 0 .u8)],[.log .u8 e],[.sl .u8]⟩],Zqf⟩:Fs P):=by
 intro n o hM
 have key:∀(n:Int),Zqf n=some o->(0<=n/\n.toNat<=Zk)/\([]:yL yB)=o:=λn hM=>by
  unfold Zqf at hM;obtain⟨h1,h2⟩:=Za (α:=yL yB) hM;rw[yj,yP,yP] at h1;exact⟨h1,ybi h2⟩
 obtain⟨h1,h2⟩:=key n hM;cases h2;refine⟨[.p (.sl (some false) .u8 []),.p (.v (.int .i64) n)],[],[],rfl,rfl,λx vs s' hs hf=> ?_⟩;obtain⟨rfl,rfl⟩:=hs;cases hf;refine⟨_,rfl, ?_⟩;have:=h (Int.toNat n) h1.2;rw[Int.toNat_of_nonneg h1.1] at this;exact this
mutual
theorem ZtE:∀(s:Sh)(vs w:yL TV)(q:TD×yL TV),s.fill vs=some q->s.fill (vs++w)=some (q.1,q.2++w)
 |.v t,vs,w,q,h=>by
  cases vs with
  |nil=>cases h
  |cons x r=>
   obtain⟨y,h1,rfl⟩:=Zb (show(Ty.cast x.1 t x.2).map (λy=>((TD.p (.v t y),r):TD×yL TV))=some q from h)
   show(Ty.cast x.1 t x.2).map (λy=>((TD.p (.v t y),r++w):TD×yL TV))=_
   rw[h1];rfl
 |.elem t,vs,w,q,h=>by
  cases vs with
  |nil=>cases h
  |cons x r=>
   obtain⟨y,h1,rfl⟩:=Zb (show(Ty.cast x.1 t x.2).map (λy=>((TD.elem (.v t y),r):TD×yL TV))=some q from h)
   show(Ty.cast x.1 t x.2).map (λy=>((TD.elem (.v t y),r++w):TD×yL TV))=_
   rw[h1];rfl
 |.sl nn t,vs,w,q,h=>by
  cases vs with
  |nil=>cases h
  |cons x r=>
   obtain⟨y,h1,rfl⟩:=Zb (α:=(Ty.sl t).den) (show(Ty.cast x.1 (.sl t) x.2).map (λ(y:yL t.den)=>((TD.p (.sl (some nn) t y),r):TD×yL TV))=some q from h)
   show(Ty.cast x.1 (.sl t) x.2).map (λ(y:yL t.den)=>((TD.p (.sl (some nn) t y),r++w):TD×yL TV))=_
   rw[h1];rfl
 |.nil _,vs,w,q,h=>by cases h;rfl
 |.own _ _,vs,w,q,h=>by cases h;rfl
 |.ref _ _,vs,w,q,h=>by cases h;rfl
 |.mp _,vs,w,q,h=>by cases h;rfl
 |.rw _,vs,w,q,h=>by cases h;rfl
 |.rp j s p,vs,w,q,h=>by
  cases vs with
  |nil=>cases h
  |cons x r=>
   obtain⟨y,h1,rfl⟩:=Zb (α:=Int) (show(Ty.cast x.1 (.int .i64) x.2).map (λ(i:Int)=>((TD.rp j (.ix i.toNat s::p),r):TD×yL TV))=some q from h)
   show(Ty.cast x.1 (.int .i64) x.2).map (λ(i:Int)=>((TD.rp j (.ix i.toNat s::p),r++w):TD×yL TV))=_
   rw[h1];rfl
 |.view _ _ _ _ _,vs,w,q,h=>by cases h;rfl
 |.fn g l,vs,w,q,h=>by
  simp only[Sh.fill] at h ⊢;obtain⟨y,h1,rfl⟩:=Zb h
  rw[fills_more l vs w y h1];rfl
 |.agg l,vs,w,q,h=>by
  simp only[Sh.fill] at h ⊢;obtain⟨y,h1,rfl⟩:=Zb h
  rw[fills_more l vs w y h1];rfl
 |.arr n s l,vs,w,q,h=>by
  simp only[Sh.fill] at h ⊢;obtain⟨y,h1,rfl⟩:=Zb h
  rw[fills_more l vs w y h1];rfl
 |.tup l,vs,w,q,h=>by
  simp only[Sh.fill] at h ⊢;obtain⟨y,h1,rfl⟩:=Zb h
  rw[fills_more l vs w y h1];rfl
 |.iface t x,vs,w,q,h=>by
  simp only[Sh.fill] at h ⊢;obtain⟨y,h1,rfl⟩:=Zb h
  rw[ZtE x vs w y h1];rfl
 |.ptr0,vs,w,q,h=>by cases h;rfl
 |.fn0,vs,w,q,h=>by cases h;rfl
 |.if0,vs,w,q,h=>by cases h;rfl
 |.map0,vs,w,q,h=>by cases h;rfl
 |.junk,vs,w,q,h=>by cases h;rfl
theorem fills_more:∀(l:yL Sh)(vs w:yL TV)(q:yL TD×yL TV),Sh.fills l vs=some q->Sh.fills l (vs++w)=some (q.1,q.2++w)
 |[],vs,w,q,h=>by simp only[Sh.fills] at h;cases h;rfl
 |s::r,vs,w,q,h=>by
  simp only[Sh.fills] at h ⊢;obtain⟨a,h1,h⟩:=yf.1 h;obtain⟨b,h2,rfl⟩:=Zb h;rw[ZtE s vs w a h1,ya,fills_more r a.2 w b h2];rfl
end
theorem ZJo{P:yg}{g:yu}{t:Ty}{e:yc}{yK:yL Sh}{i1 i2:yL Ty}{xs:yL XSh}{M:Ty.dens i2->yO (XSh.sum xs)}(pk:Ty.dens i1->Ty.dens i2)(h:Fs.Ok (⟨g,.own 0 t::yK,[.log t e],i2,xs,M⟩:Fs P))
 (hp:∀x,ofD i2 (pk x)=ofD i1 x++[⟨.sl t,([]:yL t.den)⟩]) (hf:∀x,∃a,Sh.fills yK (ofD i1 x)=some (a,[])):Fs.Ok (⟨g,.nil t::yK,[],i1,xs,λx=>M (pk x)⟩:Fs P):=by
 intro x o hM;obtain⟨args,R,H,f1,f2,f3⟩:=h (pk x) o hM;obtain⟨a,ha⟩:=hf x;have f1:Sh.fills (.own 0 t::yK) (ofD i2 (pk x))=some (args,R):=f1;rw[hp x] at f1;simp only[Sh.fills,Sh.fill,ya,fills_more yK _ _ _ ha,yaa,yi,yl,List.nil_append] at f1;obtain⟨rfl,rfl⟩:=f1;have f2:((Ty.cast (.sl t) (.sl t) ([]:yL t.den)).map λ(y:yL t.den)=>((TEnt.log t e y,[]):TEnt×yL TV)).bind (λa=>(ESh.fills [] a.2).map λb=>(a.1::b.1,b.2))=some (H,[]):=f2;have key:Ty.cast (.sl t) (.sl t) ([]:yL t.den)=some ([]:yL t.den):=YA (.sl t) ([]:yL t.den);rw[key] at f2;cases f2;refine⟨.p (.sl (some false) t [])::a,[],[], ?_,rfl,λx' vs s' hs hf'=> ?_⟩
 ·show Sh.fills (.nil t::yK) (ofD i1 x)=_;simp only[Sh.fills,Sh.fill,ya,ha,yaa]
 ·obtain⟨r,r1,r2⟩:=f3 x' vs s' hs hf';refine⟨r,r1, ?_⟩
  have e1:TD.ers (lk [.log t e []]) (.own 0 none t none::a)=.own 0 none t.size []::TD.ers (lk []) a:=by
   have e0:TD.ers (lk [.log t e []]) a=TD.ers (lk []) a:=(ers_cont (λid t'=>ZkX (H:=[]) (T:=t) (e:=e) id t') a).symm;rw[TD.ers,e0];congr 1;rw[TD.er,show ZW (lk [.log t e []]) 0 t none=[] from ZeQ (H:=[])]
   rfl
  have r2:Con P g (TD.ers (lk [.log t e []]) (.own 0 none t none::a)) (erH [.log t e []]) (r.er (lk s'.2)) (erH s'.2):=r2;rw[e1] at r2;exact ZwR (H:=[]) (e:=e) r2
section
variable{P:yg}
theorem fnO(h:HI)(lp:yL (Nat×Lp))(l:yL (Fs P))(a:AllOk l){g:yu}{ps:yL Sh}{es:yL ESh}{ins:yL Ty}{xs:yL XSh}{M:Ty.dens ins->yO (XSh.sum xs)}(hl:Zk7 P g (ZaM P g) lp:=by exact True.intro)(hn:ps.length<=ZaM P g:=by decide+kernel)
 (k:∀x,fnT P { hi:=h,lp:=lp} { l:=l} g ps es ins xs x=M x:=by intro v;kernel_rfl):Fs.Ok (⟨g,ps,es,ins,xs,M⟩:Fs P):=ZEV (okS a) hl hn k
abbrev Lp.okA(L:Lp)(P:yg)(g k:Nat):Prop:=L.Ok P (ZaM P g) (ZaJ P g k)
theorem ZN(h:HI)(lp:yL (Nat×Lp))(l:yL (Fs P))(a:AllOk l){g k N:Nat}{sl:Slots}{es:yL ESh}{I:yL Ty}{xs:yL XSh}{step:Ty.dens I->yO (Ty.dens I⊕XSh.sum xs)}(hl:Zk7 P g N lp:=by exact True.intro)(hk:Zk8 P g k=true:=by kernel_rfl)
 (h':∀v,ZtB P { hi:=h,lp:=lp} { l:=l} (ZaJ P g k) k N sl es I xs v=step v:=by intro v;kernel_rfl):Lp.Ok P N (ZaJ P g k) ⟨sl,es,I,xs,Zc step yD⟩:=Zvg (okS a) hl hk h'
end
end Go.Ev
end
section
namespace Go.Ev
universe u
variable{O:Type u}
def Zbo(n:Nat)(k:Nat->O):O:=Nat.rec (motive:=λ_=>O) (k 0) (λm _=>k (Nat.succ m)) n
theorem YD(n:Nat)(k:Nat->O):Zbo n k=k n:=by cases n <;> rfl
def ZcU{α:Type}(f:α->(α->O)->O):yL α->(yL α->O)->O
 |[],k=>k []
 |a::r,k=>f a λa=>ZcU f r λr=>k (a::r)
theorem Wm{α:Type}{f:α->(α->O)->O}(hf:∀a k,f a k=k a):∀(l:yL α)(k:yL α->O),ZcU f l k=k l
 |[],k=>rfl
 |a::r,k=>by rw[ZcU,hf,Wm hf r]
def ZJp(n:Int)(k:Int->O):O:=match n with
 |.ofNat n=>Zbo n λn=>k (.ofNat n)
 |.negSucc n=>Zbo n λn=>k (.negSucc n)
theorem ZHo(n:Int)(k:Int->O):ZJp n k=k n:=by cases n <;> (rw[ZJp,YD])
def Zqg(b:Bool)(k:Bool->O):O:=match b with
 |true=>k true
 |false=>k false
theorem ZeU(b:Bool)(k:Bool->O):Zqg b k=k b:=by cases b <;> rfl
mutual
def Ty.fo:(t:Ty)->t.den->(t.den->O)->O
 |.int _,x,k=>ZJp x k
 |.u8,x,k=>Zbo (UInt8.toNat x) λn=>k (UInt8.ofNat n)
 |.u32,x,k=>Zbo (UInt32.toNat x) λn=>k (ycf n)
 |.u64,x,k=>Zbo (UInt64.toNat x) λn=>k (yaf n)
 |.bool,x,k=>Zqg x k
 |.str,x,k=>k x
 |.sl t,x,k=>ZcU (Ty.fo t) x k
 |.arr _ t,x,k=>ZcU (Ty.fo t) x k
 |.st fs,x,k=>Ty.fos fs x k
def Ty.fos:(fs:yL Ty)->Ty.dens fs->(Ty.dens fs->O)->O
 |[],_,k=>k ()
 |[t],x,k=>Ty.fo t x k
 |t::u::r,x,k=>Ty.fo t x.1 λa=>Ty.fos (u::r) x.2 λb=>k (a,b)
end
mutual
theorem Ty.fo_eq:∀(t:Ty)(x:t.den)(k:t.den->O),t.fo x k=k x
 |.int _,x,k=>ZHo x k
 |.u8,x,k=>by rw[Ty.fo,YD];exact congrArg k UInt8.ofNat_toNat
 |.u32,x,k=>by rw[Ty.fo,YD];exact congrArg k UInt32.ofNat_toNat
 |.u64,x,k=>by rw[Ty.fo,YD];exact congrArg k UInt64.ofNat_toNat
 |.bool,x,k=>ZeU x k
 |.str,x,k=>rfl
 |.sl t,x,k=>by rw[Ty.fo];exact Wm (Ty.fo_eq t) x k
 |.arr _ t,x,k=>by rw[Ty.fo];exact Wm (Ty.fo_eq t) x k
 |.st fs,x,k=>Ty.fos_eq fs x k
theorem Ty.fos_eq:∀(fs:yL Ty)(x:Ty.dens fs)(k:Ty.dens fs->O),Ty.fos fs x k=k x
 |[],_,k=>rfl
 |[t],x,k=>Ty.fo_eq t x k
 |t::u::r,x,k=>by rw[Ty.fos,Ty.fo_eq t];exact Ty.fos_eq (u::r) x.2 _
end
mutual
def TP.fo:TP->(TP->O)->O
 |.v t x,k=>t.fo x λx=>k (.v t x)
 |.sl nn t xs,k=>ZcU t.fo xs λxs=>k (.sl nn t xs)
 |.agg xs,k=>TP.fos xs λxs=>k (.agg xs)
 |.arr n s xs,k=>TP.fos xs λxs=>k (.arr n s xs)
 |.sll nn s xs,k=>TP.fos xs λxs=>k (.sll nn s xs)
 |.iface t x,k=>TP.fo x λx=>k (.iface t x)
 |x,k=>k x
def TP.fos:yL TP->(yL TP->O)->O
 |[],k=>k []
 |x::r,k=>TP.fo x λx=>TP.fos r λr=>k (x::r)
end
mutual
theorem TP.fo_eq:∀(x:TP)(k:TP->O),x.fo k=k x
 |.v t x,k=>by rw[TP.fo,Ty.fo_eq]
 |.sl nn t xs,k=>by rw[TP.fo,Wm (Ty.fo_eq t)]
 |.agg xs,k=>by rw[TP.fo,TP.fos_eq xs]
 |.arr n s xs,k=>by rw[TP.fo,TP.fos_eq xs]
 |.sll nn s xs,k=>by rw[TP.fo,TP.fos_eq xs]
 |.iface t x,k=>by rw[TP.fo,TP.fo_eq x]
 |.ptr0,k=>rfl
 |.fn0,k=>rfl
 |.if0,k=>rfl
 |.map0,k=>rfl
 |.fnv _,k=>rfl
theorem TP.fos_eq:∀(x:yL TP)(k:yL TP->O),TP.fos x k=k x
 |[],k=>rfl
 |x::r,k=>by rw[TP.fos,TP.fo_eq x,TP.fos_eq r]
end
def ZKA{α:Type}(f:α->(α->O)->O):yO α->(yO α->O)->O
 |none,k=>k none
 |some a,k=>f a λa=>k (some a)
theorem ZHp{α:Type}{f:α->(α->O)->O}(hf:∀a k,f a k=k a):∀(l:yO α)(k:yO α->O),ZKA f l k=k l
 |none,k=>rfl
 |some a,k=>hf a _
mutual
def TD.fo:TD->(TD->O)->O
 |.p x,k=>x.fo λx=>k (.p x)
 |.elem x,k=>x.fo λx=>k (.elem x)
 |.own id nn t c,k=>Zbo id λid=>ZKA (ZcU t.fo) c λc=>k (.own id nn t c)
 |.ref id q,k=>Zbo id λid=>k (.ref id q)
 |.view id q s lo n,k=>Zbo id λid=>Zbo s λs=>Zbo lo λlo=>Zbo n λn=>k (.view id q s lo n)
 |.agg xs,k=>TD.fos xs λxs=>k (.agg xs)
 |.arr n s xs,k=>Zbo n λn=>Zbo s λs=>TD.fos xs λxs=>k (.arr n s xs)
 |.fn f xs,k=>TD.fos xs λxs=>k (.fn f xs)
 |.iface t x,k=>TD.fo x λx=>k (.iface t x)
 |.tup xs,k=>TD.fos xs λxs=>k (.tup xs)
 |.mp id,k=>Zbo id λid=>k (.mp id)
 |.rv id v s lo n,k=>Zbo id λid=>Zbo v λv=>Zbo s λs=>Zbo lo λlo=>Zbo n λn=>k (.rv id v s lo n)
 |.rref id v q,k=>Zbo id λid=>Zbo v λv=>k (.rref id v q)
 |.rw id,k=>Zbo id λid=>k (.rw id)
 |.rp id q,k=>Zbo id λid=>k (.rp id q)
 |.junk,k=>k .junk
def TD.fos:yL TD->(yL TD->O)->O
 |[],k=>k []
 |x::r,k=>TD.fo x λx=>TD.fos r λr=>k (x::r)
end
mutual
theorem TD.fo_eq:∀(x:TD)(k:TD->O),x.fo k=k x
 |.p x,k=>by rw[TD.fo,TP.fo_eq]
 |.elem x,k=>by rw[TD.fo,TP.fo_eq]
 |.own id nn t c,k=>by rw[TD.fo,YD,ZHp (Wm (Ty.fo_eq t))]
 |.ref id q,k=>by rw[TD.fo,YD]
 |.view id q s lo n,k=>by rw[TD.fo,YD,YD,YD,YD]
 |.agg xs,k=>by rw[TD.fo,TD.fos_eq xs]
 |.arr n s xs,k=>by rw[TD.fo,YD,YD,TD.fos_eq xs]
 |.fn f xs,k=>by rw[TD.fo,TD.fos_eq xs]
 |.iface t x,k=>by rw[TD.fo,TD.fo_eq x]
 |.tup xs,k=>by rw[TD.fo,TD.fos_eq xs]
 |.mp id,k=>by rw[TD.fo,YD]
 |.rv id v s lo n,k=>by rw[TD.fo,YD,YD,YD,YD,YD]
 |.rref id v q,k=>by rw[TD.fo,YD,YD]
 |.rw id,k=>by rw[TD.fo,YD]
 |.rp id q,k=>by rw[TD.fo,YD]
 |.junk,k=>rfl
theorem TD.fos_eq:∀(x:yL TD)(k:yL TD->O),TD.fos x k=k x
 |[],k=>rfl
 |x::r,k=>by rw[TD.fos,TD.fo_eq x,TD.fos_eq r]
end
def TEnt.fo(e:TEnt)(k:TEnt->O):O:=match e with
 |.var d st=>d.fo λd=>Zqg st λst=>k (.var d st)
 |.log t e xs=>ZcU t.fo xs λxs=>k (.log t e xs)
 |.map tid a b l=>ZcU (λq k=>a.fo q.1 λx=>b.fo q.2 λy=>k (x,y)) l λl=>k (.map tid a b l)
 |.row v s st e d=>Zbo v λv=>Zbo s λs=>Zqg st λst=>d.fo λd=>k (.row v s st e d)
 |.rowT t v st e xs=>Zqg st λst=>ZcU t.fo xs λxs=>k (.rowT t v st e xs)
 |.rowN t np v st e a b=>Zqg st λst=>ZcU t.fo a λa=>ZcU t.fo b λb=>k (.rowN t np v st e a b)
 |.rowM t np v st e a d b=>Zqg st λst=>ZcU t.fo a λa=>d.fo λd=>ZcU t.fo b λb=>k (.rowM t np v st e a d b)
 |.gone=>k .gone
theorem TEnt.fo_eq(e:TEnt)(k:TEnt->O):e.fo k=k e:=by
 cases e with
 |var d st=>rw[TEnt.fo,TD.fo_eq,ZeU]
 |log t e xs=>rw[TEnt.fo,Wm (Ty.fo_eq t)]
 |map tid a b l=>rw[TEnt.fo,Wm λq k=>by rw[Ty.fo_eq a,Ty.fo_eq b]]
 |row v s st e d=>rw[TEnt.fo,YD,YD,ZeU,TD.fo_eq]
 |rowT t v st e xs=>rw[TEnt.fo,ZeU,Wm (Ty.fo_eq t)]
 |rowN t np v st e a b=>rw[TEnt.fo,ZeU,Wm (Ty.fo_eq t),Wm (Ty.fo_eq t)]
 |rowM t np v st e a d b=>rw[TEnt.fo,ZeU,Wm (Ty.fo_eq t),TD.fo_eq,Wm (Ty.fo_eq t)]
 |gone=>rfl
def foS(a:yL TD)(h:yL TEnt)(k:yL TD->yL TEnt->O):O:=TD.fos a λa=>ZcU TEnt.fo h λh=>k a h
theorem ZJq(a:yL TD)(h:yL TEnt)(k:yL TD->yL TEnt->O):foS a h k=k a h:=by rw[foS,TD.fos_eq,Wm TEnt.fo_eq]
end Go.Ev
end
section
namespace Go.Ev
def Zvi(h:yL TEnt)(n0:Nat)(r:TD):yL Nat:=
 let got:=ZnE h 100000 (r.look++yr n0) []
 ((yr h.length).drop n0).filter got.contains
def Ty.mkFs(f:(T:Ty)->TD->yO T.den):(fs:yL Ty)->yL TD->yO (Ty.dens fs)
 |[],[]=>some ()
 |[t],[d]=>f t d
 |t::u::r,d::ds=>ZiQ (f t d) (Ty.mkFs f (u::r) ds)
 |_,_=>none
def mkL{T:Ty}(f:TD->yO T.den):yL TD->yO (yL T.den)
 |[]=>some []
 |d::r=>(ZiQ (f d) (mkL f r)).map λq=>q.1::q.2
def ZEW(H:yL TEnt)(id:Nat)(u:Ty):yO (yL u.den):=
 match H[id]? with
 |some (.rowT u' v false e l)=>Ty.castL u' u l
 |_=>none
theorem ZEX{H:yL TEnt}{id:Nat}{u:Ty}{l:yL u.den}(h:ZEW H id u=some l):DeepR (erH H) ((TD.rw id).er (lk H)) ((Ty.sl u).enc l):=by
 unfold ZEW at h;split at h
 ·rename_i u' v e l' hd;obtain⟨e1,h⟩:=Zu h;subst e1;subst h;have hE:(erH H)[id]? =some (.row v.length u'.size false e (.p (.arr l.length u'.size (l.map u'.enc)))):=Z2 hd;have:=DeepR.rvp (lo:=0) (n:=l.length) hE (by omega);rw[(Zaz hd).1,Zzh];rw[List.drop_zero, <-yy (f:=u'.enc),List.take_length,yy] at this;exact this
 ·cases h
def ZxF(H:yL TEnt):Nat->(T:Ty)->TD->yO T.den
 |0,_,_=>none
 |n+1,T,d=>match d with
  |.p x=>TP.to ZgW x T
  |.own id nn t c=>ZDT true t (ZW (lk H) id t c) T
  |.agg ds=>ZDU (λfs=>Ty.mkFs (ZxF H n) fs ds) T
  |.rw id=>match T with
   |.sl u=>ZEW H id u
   |_=>none
  |.rv id v s lo k=>match T with
   |.sl u=>match H[id]? with
    |some (.row w s' false e d)=>if(w==v&&s'==s&&s==u.size)=true then match d with
      |.p x=>x.arow.bind λr=>(Ty.castL r.t u r.l).bind λl=>if decide (lo+k<=r.n)=true then some ((l.drop lo).take k) else none
      |.arr N s2 ds=>if(s2==s&&decide (lo+k<=N))=true then(mkL (ZxF H n u) ds).map λ(l:yL u.den)=>(l.drop lo).take k else none
      |_=>none
     else none
    |_=>none
   |_=>none
  |_=>none
theorem ZBq{H:yL Ent}{L:Lk}{f:(T:Ty)->TD->yO T.den}(hf:∀T d y,f T d=some y->DeepR H (d.er L) (T.enc y)):∀(fs:yL Ty)(ds:yL TD)(y:Ty.dens fs),Ty.mkFs f fs ds=some y->
 (TD.ers L ds).length=(Ty.encs fs y).length/\∀(i:Nat)(d:Dv)(z:Pl),(TD.ers L ds)[i]? =some d->(Ty.encs fs y)[i]? =some z->DeepR H d z
 |[],[],y,h=>⟨rfl,λi d z h1 _=>by simp[TD.ers] at h1⟩
 |[],_::_,y,h=>by cases h
 |[t],[],y,h=>by cases h
 |[t],[d],y,h=>by
  refine⟨rfl,λi d' z h1 h2=> ?_⟩
  cases i with
  |zero=>cases h1;cases h2;exact hf t d y h
  |succ i=>simp[TD.ers] at h1
 |[t],_::_::_,y,h=>by cases h
 |t::u::r,[],y,h=>by cases h
 |t::u::r,d::ds,y,h=>by
  obtain⟨h1,h2⟩:=Qu (α:=t.den) (β:=Ty.dens (u::r)) h;obtain⟨h3,h4⟩:=ZBq hf (u::r) ds y.2 h2;refine⟨by rw[TD.ers,Ty.encs,yah,yah,h3],λi d' z k1 k2=> ?_⟩
  cases i with
  |zero=>cases k1;cases k2;exact hf t d y.1 h1
  |succ i=>exact h4 i d' z k1 k2
theorem ZEY{H:yL Ent}{L:Lk}{T:Ty}{f:TD->yO T.den}(hf:∀d y,f d=some y->DeepR H (d.er L) (T.enc y)):∀(ds:yL TD)(l:yL T.den),mkL f ds=some l->
 (TD.ers L ds).length=(l.map T.enc).length/\∀(i:Nat)(d:Dv)(z:Pl),(TD.ers L ds)[i]? =some d->(l.map T.enc)[i]? =some z->DeepR H d z
 |[],l,h=>by cases h;exact⟨rfl,λi d z h1 _=>by simp[TD.ers] at h1⟩
 |d::ds,l,h=>by
  obtain⟨q,h1,rfl⟩:=Zb h;obtain⟨h1,h2⟩:=Qu h1;obtain⟨h3,h4⟩:=ZEY hf ds q.2 h2;refine⟨by rw[TD.ers,yad,yah,yah,h3],λi d' z k1 k2=> ?_⟩
  cases i with
  |zero=>cases k1;cases k2;exact hf d q.1 h1
  |succ i=>exact h4 i d' z k1 k2
theorem Zqh{H:yL TEnt}:∀(n:Nat)(T:Ty)(d:TD)(y:T.den),ZxF H n T d=some y->DeepR (erH H) (d.er (lk H)) (T.enc y)
 |0,_,_,_,h=>by cases h
 |n+1,T,d,y,h=>by
  unfold ZxF at h;split at h
  ·exact .wk (.p _) (ZwW h)
  ·rename_i id nn t c;obtain⟨l,_,e1,rfl⟩:=Zmq (nn:=none) h;rw[e1,TD.er];exact .wk (.own id nn t.size _) (PlWk.sl_mk (PlsWk.refl _))
  ·rename_i ds;obtain⟨fs,z,h1,e1⟩:=Zmr h;rw[e1,TD.er];obtain⟨h2,h3⟩:=ZBq (λT d y=>Zqh n T d y) fs ds z h1;exact .agg h2 h3
  ·rename_i id
   cases T with
   |sl u=>exact ZEX h
   |_=>cases h
  ·rename_i id v s lo k;split at h
   ·rename_i u;split at h
    ·rename_i w s' e dd hd;obtain⟨hk,g⟩:=Za h;clear h;simp only[yj,yT] at hk;obtain⟨⟨hk1,hk2⟩,hk3⟩:=hk;have hE:=Z2 hd;rw[hk1,hk2,hk3] at hE;split at g
     ·rename_i x;obtain⟨r,p1,g1⟩:=yf.1 g;obtain⟨l,p2,g2⟩:=yf.1 g1;obtain⟨p3,g3⟩:=Za g2;cases g3;obtain⟨rn,rt,rl⟩:=r;obtain⟨e1,p2⟩:=Zu p2;dsimp only at e1 p2 p3;subst e1;subst p2;rw[TEnt.er,TD.er,Vf p1] at hE;have:=DeepR.rvp hE (yF p3);rw[Zzh,List.map_take,List.map_drop,TD.er,hk3];exact this
     ·rename_i N s2 ds;obtain⟨p1,g1⟩:=Za g;simp only[yj,yT,yP] at p1;obtain⟨q1,p1⟩:=p1;obtain⟨l,p2,g2⟩:=Zb g1;subst g2;obtain⟨h2,h3⟩:=ZEY (λd y=>Zqh n u d y) ds l p2;rw[TEnt.er,TD.er,q1,hk3] at hE;have:=DeepR.rva hE p1 h2 h3;rw[Zzh,List.map_take,List.map_drop,TD.er,hk3];exact this
     ·cases g
    ·cases h
   ·cases h
  ·cases h
def ZxG:TEnt->TEnt
 |.row v s _ e d=>.row v s false e d
 |.rowT t v _ e l=>.rowT t v false e l
 |e=>e
def Zfz(ids:yL Nat)(H:yL TEnt):yL TEnt:=(yr H.length).zipWith (λi e=>if ids.contains i then ZxG e else e) H
theorem ZEZ(e:TEnt):lkE (some (ZxG e))=lkE (some e):=by cases e <;> rfl
theorem ZnJ(ids:yL Nat)(H:yL TEnt)(i:Nat):(Zfz ids H)[i]? =(H[i]?).map λe=>if ids.contains i then ZxG e else e:=by
 unfold Zfz;rw[List.getElem?_zipWith];rcases ycc i H.length with h|h
 ·rw[List.getElem?_range h,yz h];rfl
 ·rw[yat (by simpa using h),yat h];rfl
theorem Zqi(ids:yL Nat)(H:yL TEnt):lk (Zfz ids H)=lk H:=by
 funext i;unfold lk;rw[ZnJ]
 cases H[i]? with
 |none=>rfl
 |some e=>
  show lkE (some (if ids.contains i=true then ZxG e else e))=_
  split
  ·exact ZEZ e
  ·rfl
theorem Zz3(ids:yL Nat)(H:yL TEnt):WkH (erH H) (erH (Zfz ids H)):=by
 refine ZzQ (by rw[ZC,ZC];unfold Zfz;simp) λi a b h1 h2=> ?_;unfold erH at h1 h2;rw[yaj] at h1 h2;rw[Zqi,ZnJ] at h2
 cases he:H[i]? with
 |none=>rw[he] at h1;cases h1
 |some e=>
  rw[he] at h1 h2;cases h1;cases h2;show WkE (e.er (lk H)) (TEnt.er (lk H) (if ids.contains i=true then ZxG e else e))
  split
  ·cases e <;> first|exact .refl _|exact .lock
  ·exact .refl _
def Zz4:yL TEnt->Nat->Bool
 |H,i=>match H[i]? with
  |some (.row _ _ _ _ _)=>true
  |some (.rowT _ _ _ _ _)=>true
  |_=>false
def ZBr(P:yg)(H:yL TEnt)(t:yc)(d:TD):yO TD:=
 match d with
 |.p x=>some (.p x)
 |d=>(ZgB P tyD t).bind λT=>(ZxF H 100 T d).map λy=>.p (.v T y)
theorem ZxH{P:yg}{H:yL TEnt}{t:yc}{d e:TD}(h:ZBr P H t d=some e):DeepP (erH H) (d.er (lk H)) (e.er (lk H)):=by
 unfold ZBr at h;split at h
 ·cases h;exact .refl _
 ·obtain⟨T,h1,h⟩:=yf.1 h;obtain⟨y,h2,rfl⟩:=Zb h;exact .deep (Zqh _ _ _ _ h2)
def Zvj(P:yg)(H:yL TEnt):yL yc->yL TD->yO (yL TD)
 |[],[]=>some []
 |t::r,d::ds=>match ZBr P H t d,Zvj P H r ds with
  |some a,some b=>some (a::b)
  |_,_=>none
 |_,_=>none
theorem ZtF{P:yg}{H:yL TEnt}:∀{ts:yL yc}{ds es:yL TD},Zvj P H ts ds=some es->DeepL (erH H) (TD.ers (lk H) ds) (TD.ers (lk H) es)
 |[],[],es,h=>by cases h;exact .nil
 |[],_::_,es,h=>by cases h
 |_::_,[],es,h=>by cases h
 |t::r,d::ds,es,h=>by
  simp only[Zvj] at h;split at h
  ·rename_i a b h1 h2;cases h;exact .cons (ZxH h1) (ZtF h2)
  ·cases h
def ZE0(P:yg)(H:yL TEnt)(ts:yL yc)(r:TD):yO TD:=
 match ts with
 |[t]=>ZBr P H t r
 |ts=>match r with
  |.tup ds=>(Zvj P H ts ds).map .tup
  |_=>none
theorem ZE1{P:yg}{H:yL TEnt}{ts:yL yc}{r r':TD}(h:ZE0 P H ts r=some r'):DeepT (erH H) (r.er (lk H)) (r'.er (lk H)):=by
 unfold ZE0 at h;split at h
 ·exact .one (ZxH h)
 ·split at h
  ·obtain⟨es,h1,rfl⟩:=Zb h;exact .tup (ZtF h1)
  ·cases h
def ZCU{O:Type}(P:yg)(ts:yL yc)(r:TD)(H:yL TEnt)(K:TD->yL TEnt->yO O):yO O:=
 match ts with
 |[]=>K r H
 |ts=>(ZE0 P (Zfz ((ZnE H 100000 r.look []).filter (Zz4 H)) H) ts r).bind λr'=>K r' (Zfz ((ZnE H 100000 r.look []).filter (Zz4 H)) H)
theorem ZtG{O:Type}{P:yg}{ts:yL yc}{r:TD}{H:yL TEnt}{K:TD->yL TEnt->yO O}{out:O}{g:yu}{args:yL Dv}{H0:yL Ent}(h:ZCU P ts r H K=some out)(hc:Con P g args H0 (r.er (lk H)) (erH H)):
 ∃r' H',K r' H'=some out/\Con P g args H0 (r'.er (lk H')) (erH H'):=by
 unfold ZCU at h;split at h
 ·exact⟨_,_,h,hc⟩
 ·obtain⟨r',h1,h2⟩:=yf.1 h;generalize (ZnE H 100000 r.look []).filter (Zz4 H)=ids at h1 h2;refine⟨_,_,h2,ZDS hc (Zz3 ids H) ?_⟩;have:=ZE1 h1;rw[Zqi] at this ⊢;exact this
def ZCV{O:Type}(h:yL TEnt)(n0:Nat)(ds:yL TD)(K:TD->yL TEnt->yO O):yO O:=
 let keep:=Zvi h n0 (Zqd ds)
 if once (yr n0++keep) then(match Dv.rn (toIds (yr n0++keep)) ((Zqd ds).er (lk h)) with
  |some _=>(Zqd ds).rn (toIds (yr n0++keep))
  |none=>(Zqd (ds.map (TD.arg (lk h)))).rn (toIds (yr n0++keep))).bind λr=>
  (XK h (yr n0++keep) (yr n0++keep)).bind λh2=>K r h2
 else none
section
variable{P:yg}
def ZE2(P:yg)(his:yu->HI)(l:yL (Fs P))(mt:yL (yc×String×yu))(ghs:yu->yL (Nat×GOp)):Nat->(O:Type)->yu->yL TD->yL TEnt->(TD->yL TEnt->yO O)->yO O
 |0,_,_,_,_,_=>none
 |n+1,O,g,args,H,K=>foS args H λargs H=>match P.funcs[g]? with
  |some fn=>match fn.body with
   |some c=>if decide (args.length<=fn.ntmps)=true then
     evT P { hi:=his g,un:=1000000,gh:=ghs g} ⟨l,ZE2 P his l mt ghs n,mt,[]⟩ c 0 0 (args++yv (fn.ntmps - args.length) .junk) H λex a h=>match ex with
      |.exit _=>none
      |_=>Zsb P a h fn.results.toList λds _=>ZCV h H.length ds λr h=>ZCU P (his g).deep r h λr h=>foS [r] h λrs h=>match rs with
       |[r]=>K r h
       |_=>none
     else none
   |none=>none
  |none=>none
theorem ZBs{his:yu->HI}{l:yL (Fs P)}{mt:yL (yc×String×yu)}{ghs:yu->yL (Nat×GOp)}(hl:AllOk l)(hm:MtOk P mt):∀(n:Nat),HdOk P (ZE2 P his l mt ghs n)
 |0=>λ_ _ _ _ _ _ h=>by cases h
 |n+1=>λO g args H K out hM=>by
  unfold ZE2 at hM;simp only[ZJq] at hM;split at hM
  ·rename_i fn hf;split at hM
   ·rename_i c hb1;obtain⟨hn,hM⟩:=Za hM;have hn:=yF hn
    have zW:(args++yv (fn.ntmps - args.length) TD.junk).length=fn.ntmps:=by
     rw[yo,yct];omega
    obtain⟨ex,a,hh,k1,k2,k3⟩:=X4 (N:=fn.ntmps) (specs:=⟨l,ZE2 P his l mt ghs n,mt,[]⟩) ⟨hl,ZBs hl hm n,hm,ytt⟩ c _ _ _ _ _ zW (λk b hk lp h=>by cases h) (λk b hk lp h=>by cases h) hM
    have hex:(ex=.ret\/ex=.normal)/\(Zsb P a hh fn.results.toList λds _=>ZCV hh H.length ds λr h=>ZCU P (his g).deep r h K)=some out:=by
     cases ex with
     |exit _=>cases k1
     |normal=>exact⟨.inr rfl,k1⟩
     |ret=>exact⟨.inl rfl,k1⟩
    obtain⟨hex,k1⟩:=hex;obtain⟨ds,hs,C,g1,g2,g3⟩:=ZeT _ _ k1;unfold ZCV at g1;dsimp only at g1;generalize Zvi hh H.length (Zqd ds)=keep at g1;obtain⟨g5,g1⟩:=Za g1;obtain⟨r,g6,g1⟩:=yf.1 g1;obtain⟨e2,g7,g1⟩:=yf.1 g1;refine ZtG g1 ?_
    have hfin:fin P fn (TD.ers (lk hh) a) (erH hh) (erH H).length keep hs=some (C,r.er (lk e2),erH e2):=by
     unfold fin;have:=g3 [];rw[yar] at this;rw[this];dsimp only;rw[ZC,g5, <-Zik,show subEnts (erH hh) _ _=some (erH e2) from Xw (V8 g7) g7]
     split at g6
     ·rename_i r0 hr0;have e4:=ZcT (V8 g7) _ _ g6;rw[e4]
     ·rename_i hr0;have e4:=ZcT (V8 g7) _ _ g6;rw[Zik,ZB,yas] at e4
      rw[hr0,show(TD.ers (lk hh) ds).map Dv.arg=ds.map (TD.er (lk hh) ∘ TD.arg (lk hh)) by
       rw[ZB,yas];exact ycn λd _=>(Zz2 d).symm,e4]
    have zB:XD P c (TD.ers (lk H) args++yv (fn.ntmps - (TD.ers (lk H) args).length) .junk) (erH H) ex (TD.ers (lk hh) a) (erH hh):=by
     have e5:TD.ers (lk H) (args++yv (fn.ntmps - args.length) TD.junk)=TD.ers (lk H) args++yv (fn.ntmps - (TD.ers (lk H) args).length) .junk:=by
      rw[Zuq,ZB,ZB,yai,List.map_replicate];rfl
     rw[<-e5];exact k3
    exact ZdO hf hb1 zB hex hfin g2
   ·cases hM
  ·cases hM
def ZJr(P:yg)(his:yu->HI)(l:yL (Fs P))(mt:yL (yc×String×yu))(n:Nat)(g:yu)(ghs:yu->yL (Nat×GOp):=λ_=>[]):yO Bool:=
 ZE2 P his l mt ghs n Bool g [] [] λr h=>match h with
  |[]=>r.boolT
  |_=>none
theorem ZHq{his:yu->HI}{l:yL (Fs P)}{mt:yL (yc×String×yu)}{ghs:yu->yL (Nat×GOp)}{n:Nat}{g:yu}{b:Bool}(hl:AllOk l)(hm:MtOk P mt)(h:ZJr P his l mt n g ghs=some b):Con P g [] [] (.p (.bool b)) []:=by
 obtain⟨r,H',h1,h2⟩:=ZBs hl hm n _ _ _ _ _ _ h;split at h1
 ·rw[ZeP h1] at h2;exact h2
 ·cases h1
theorem ZJs{his:yu->HI}{l:yL (Fs P)}{mt:yL (yc×String×yu)}{ghs:yu->yL (Nat×GOp)}{n:Nat}{g:yu}{b:Bool}(hl:AllOk l)(hm:MtOk P mt)(h:ZJr P his l mt n g ghs=some b):
 Fs.Ok (⟨g,[],[],[],[⟨.ret,[(0,.v .bool)],[],[.bool]⟩],λ_=>some b⟩:Fs P):=by
 intro x o hM;cases hM;refine⟨[],[],[],rfl,rfl,λe vs s' hs hf=> ?_⟩;obtain⟨rfl,rfl⟩:=hs;cases hf;exact⟨_,rfl,ZHq hl hm h⟩
end
theorem okN{P:yg}(s:Nat->Fs P)(h:(s yD).Ok):(s 18446744073709551616).Ok:=by
 rw[Zfy] at h;exact h
theorem ZE3{P:yg}{g:yu}{args:yL Dv}{H H1 H2:yL Ent}{r r2:Dv}{keep:yL Nat}(h:Con P g args H r H1)(ho:once (yr H.length++keep)=true)
 (hin:subEnts H1 (yr H.length++keep) (yr H.length++keep)=some H2) (hr:r.rn (toIds (yr H.length++keep))=some r2):Con P g args H r2 H2:=by
 intro σ vs ok e hv;refine Calls.mono (h σ vs ok e hv) ?_;rintro e' w' ⟨v,σ',h1,h2,h3,h4,h5,h6⟩;subst h3;subst e;exact⟨v,ZiP σ' (yr σ.H.length++keep) H2,h1,h2,rfl,ZoR ok h4 ho hin,ZoQ h5 ho hin,ZcE (Zfu hin) hr h6⟩
def ZBt(h:yL TEnt)(n0:Nat)(r:TD)(e:XSh):yO (Ty.dens e.ty):=
 match e.sl with
 |[(0,rs)]=>(ZEU h rs e.es n0 r).bind λkeep=>
  if once (yr n0++keep) then(r.rn (toIds (yr n0++keep))).bind λr=>
   (XK h (yr n0++keep) (yr n0++keep)).bind λh2=>(Sh.mt (lk h2) rs r).bind λq=>(ESh.mts (lk h2) e.es h2).bind λw=>toD e.ty (q.2++w.2)
  else none
 |_=>none
def Zqj(h:yL TEnt)(n0:Nat)(r:TD):(l:yL XSh)->yO (XSh.sum l)
 |[]=>none
 |[e]=>ZBt h n0 r e
 |e::f::q=>match ZBt h n0 r e with
  |some x=>some (Sum.inl x:Ty.dens e.ty⊕XSh.sum (f::q))
  |none=>(Zqj h n0 r (f::q)).map λx=>(Sum.inr x:Ty.dens e.ty⊕XSh.sum (f::q))
theorem ZnK{h:yL TEnt}{n0:Nat}{r:TD}:∀{l:yL XSh}{o:XSh.sum l},Zqj h n0 r l=some o->∀e vs,Zxl l o e vs->∃x,ZBt h n0 r e=some x/\vs=ofD e.ty x
 |[],_,k,_,_,_=>by cases k
 |[e],o,k,x,vs,hs=>by
  obtain⟨rfl,rfl⟩:=hs
  exact⟨o,k,rfl⟩
 |e::f::q,o,k,x,vs,hs=>by
  simp only[Zqj] at k;split at k
  ·rename_i y hy;cases k;obtain⟨rfl,rfl⟩:=hs;exact⟨y,hy,rfl⟩
  ·obtain⟨y,h1,h2⟩:=Zb k;subst h2;exact ZnK h1 x vs hs
section
variable{P:yg}
def fnD(P:yg)(fi:FI)(specs:Sp P)(g:yu)(ps:yL Sh)(es:yL ESh)(ins:yL Ty)(xs:yL XSh):Ty.dens ins->yO (XSh.sum xs):=λx=>
 match P.funcs[g]? with
 |some fn=>match fn.body with
  |some c=>(Sh.fills ps (ofD ins x)).bind λq=>(ESh.fills es q.2).bind λw=>if w.2.isEmpty then
    evT P fi specs c 0 0 (q.1++yv (fn.ntmps - q.1.length) .junk) w.1 λex a h=>match ex with
     |.exit _=>none
     |_=>Zsb P a h fn.results.toList λds _=>ZCV h w.1.length ds λr h=>ZCU P fi.hi.deep r h λr h=>Zqj h w.1.length r xs
    else none
  |none=>none
 |none=>none
theorem ZBu{fi:FI}{specs:Sp P}{g:yu}{ps:yL Sh}{es:yL ESh}{ins:yL Ty}{xs:yL XSh}{M:Ty.dens ins->yO (XSh.sum xs)}(ok:SpOk specs)(hl:Zk7 P g (ZaM P g) fi.lp:=by exact True.intro)(hn:ps.length<=ZaM P g:=by decide+kernel)
 (h:∀x,fnD P fi specs g ps es ins xs x=M x:=by intro v;kernel_rfl) (hb:ZtC P (ZaM P g) (Q9 P g) fi.bk:=by exact True.intro):Fs.Ok (⟨g,ps,es,ins,xs,M⟩:Fs P):=by
 intro x o hM;have hM:M x=some o:=hM;rw[<-h x] at hM;have hl':=ZBp hl;unfold fnD at hM;split at hM
 ·rename_i fn hf;split at hM
  ·rename_i c hb1;obtain⟨q,h1,hM⟩:=yf.1 hM;obtain⟨w,h2,hM⟩:=yf.1 hM;obtain⟨h3,hM⟩:=Za hM;have hN:ZaM P g=fn.ntmps:=by unfold ZaM;rw[hf]
   have hc:Q9 P g=c:=by unfold Q9;rw[hf];dsimp only;rw[hb1];rfl
   rw[hc,hN] at hl' hb;have hb0:=Zvf hb;rw[hN] at hn
   have zW:(q.1++yv (fn.ntmps - q.1.length) TD.junk).length=fn.ntmps:=by
    rw[yo,yct,Zih h1];omega
   obtain⟨ex,a,hh,k1,k2,k3⟩:=X4 ok c _ _ _ _ _ zW hl' hb0 hM
   have hex:(ex=.ret\/ex=.normal)/\(Zsb P a hh fn.results.toList λds _=>ZCV hh w.1.length ds λr h=>ZCU P fi.hi.deep r h λr h=>Zqj h w.1.length r xs)=some o:=by
    cases ex with
    |exit _=>cases k1
    |normal=>exact⟨.inr rfl,k1⟩
    |ret=>exact⟨.inl rfl,k1⟩
   obtain⟨hex,k1⟩:=hex;obtain⟨ds,hs,C,g1,g2,g3⟩:=ZeT _ _ k1;refine⟨q.1,q.2,w.1,h1, ?_,λe vs s' hsel hfs=> ?_⟩
   ·rw[h2];have:w.2=[]:=by simpa using h3
    rw[<-this]
   unfold ZCV at g1;dsimp only at g1;generalize Zvi hh w.1.length (Zqd ds)=keep at g1;obtain⟨g5,g1⟩:=Za g1;obtain⟨r,g6,g1⟩:=yf.1 g1;obtain⟨e2,g7,g1⟩:=yf.1 g1
   have zB:XD P c (TD.ers (lk w.1) q.1++yv (fn.ntmps - (TD.ers (lk w.1) q.1).length) .junk) (erH w.1) ex (TD.ers (lk hh) a) (erH hh):=by
    have e5:TD.ers (lk w.1) (q.1++yv (fn.ntmps - q.1.length) TD.junk)=TD.ers (lk w.1) q.1++yv (fn.ntmps - (TD.ers (lk w.1) q.1).length) .junk:=by
     rw[Zuq,ZB,ZB,yai,List.map_replicate];rfl
    rw[<-e5];exact k3
   have hfin:fin P fn (TD.ers (lk hh) a) (erH hh) (erH w.1).length keep hs=some (C,r.er (lk e2),erH e2):=by
    unfold fin;have:=g3 [];rw[yar] at this;rw[this];dsimp only;rw[ZC,g5, <-Zik,show subEnts (erH hh) _ _=some (erH e2) from Xw (V8 g7) g7]
    split at g6
    ·rename_i r0 hr0;have e4:=ZcT (V8 g7) _ _ g6;rw[e4]
    ·rename_i hr0;have e4:=ZcT (V8 g7) _ _ g6;rw[Zik,ZB,yas] at e4
     rw[hr0,show(TD.ers (lk hh) ds).map Dv.arg=ds.map (TD.er (lk hh) ∘ TD.arg (lk hh)) by
      rw[ZB,yas];exact ycn λd _=>(Zz2 d).symm,e4]
   obtain⟨r',H',m1,m2⟩:=ZtG g1 (ZdO hf hb1 zB hex hfin g2);obtain⟨o1,m3,hvs⟩:=ZnK m1 e vs hsel;unfold ZBt at m3;split at m3
   case h_2=>cases m3
   rename_i rs hsl;obtain⟨keep2,n1,m3⟩:=yf.1 m3;obtain⟨n2,m3⟩:=Za m3;obtain⟨r3,n3,m3⟩:=yf.1 m3;obtain⟨e3,n4,m3⟩:=yf.1 m3;obtain⟨z,g8,m3⟩:=yf.1 m3;obtain⟨y,g9,m3⟩:=yf.1 m3;obtain⟨b1,b2⟩:=ZeS g9;have hcc:∀id t,ZW (lk e3) id t none=ZW (lk y.1) id t none:=λid t=>by rw[b2]
   have eo:=Za3 _ _ _ m3
   have efill:s'=([z.1],y.1):=by
    rw[hvs,eo,hsl] at hfs;unfold VV at hfs;rw[show shs [(0,rs)] 1=[rs] from rfl] at hfs
    simp only[Sh.fills,Zif _ _ _ g8,ya,yaa] at hfs;have:=Qw g9 [];rw[yar] at this;rw[this] at hfs;exact(ybi hfs).symm
   subst efill;refine⟨z.1,rfl, ?_⟩
   have hk:Con P g (TD.ers (lk w.1) q.1) (erH w.1) (r3.er (lk e3)) (erH e3):=by
    refine ZE3 (keep:=keep2) m2 (by rw[ZC];exact n2) ?_ ?_
    ·rw[ZC];exact Xw (V8 n4) n4
    ·rw[ZC];exact ZcT (V8 n4) _ _ n3
   exact ZwQ hk (ZpX hcc _ _ _ g8) (Zig hcc g9)
  ·cases hM
 ·cases hM
end
end Go.Ev
end
section
namespace Go.Ev
open Go.RowKit Go.WideShapes Go.ChangeShapes
def Z8(P:yg):Nat->yc->Bool
 |0,_=>false
 |n+1,t=>match P.underlying t with
  |some .bool=>true
  |some (.int _)=>true
  |some .string=>true
  |some (.slice e)=>Z8 P n e&&decide (0 < P.cellsOf e)
  |some (.array m e)=>Z8 P n e&&P.cellsOf t==m*P.cellsOf e
  |some (.struct fs)=>(fs.toList.all λf=>Z8 P n f.type)&&P.cellsOf t==(fs.toList.map λf=>P.cellsOf f.type).sum&&
    ((yr fs.toList.length).all λj=>match fs.toList[j]? with|some f=>f.offset==((fs.toList.take j).map λf=>P.cellsOf f.type).sum|none=>true)
  |_=>false
theorem Zvk(P:yg):Kids P (λt=>∃n,Z8 P n t=true) where
 pointer:=by
  rintro t e ⟨n,h⟩ hu
  cases n with
  |zero=>simp[Z8] at h
  |succ n=>simp[Z8,hu] at h
 slice:=by
  rintro t e ⟨n,h⟩ hu
  cases n with
  |zero=>simp[Z8] at h
  |succ n=>simp[Z8,hu] at h;exact⟨n,h.1⟩
 array:=by
  rintro t e m ⟨n,h⟩ hu
  cases n with
  |zero=>simp[Z8] at h
  |succ n=>simp[Z8,hu] at h;exact⟨⟨n,h.1⟩,h.2⟩
 struct:=by
  rintro t fs ⟨n,h⟩ hu
  cases n with
  |zero=>simp[Z8] at h
  |succ n=>
   simp only[Z8,hu,yj,yT,yba] at h;obtain⟨⟨h1,h2⟩,h3⟩:=h;refine⟨λf hf=>⟨n,h1 f hf⟩,h2,λj f hf=> ?_⟩;have hj:j < fs.toList.length:=(yq.1 hf).1;have:=h3 j (by simpa using hj);rw[hf] at this;simpa using this
 map:=by
  rintro t k e ⟨n,h⟩ hu
  cases n with
  |zero=>simp[Z8] at h
  |succ n=>simp[Z8,hu] at h
def ZHr(R:yc->Pl->Prop):yL Field->yL Pl->Prop
 |[],[]=>True
 |f::fs,y::ys=>R f.type y/\ZHr R fs ys
 |_,_=>False
def wtP(P:yg):Nat->yc->Pl->Prop
 |0,_,_=>False
 |n+1,t,x=>match P.underlying t,x with
  |some .bool,.bool _=>True
  |some (.int k),.int k' m=>k'=k/\(Lit.int k m).wf=true
  |some .string,.str s=>s.size<=maxLen
  |some (.slice e),.sl nn s xs=>s=P.cellsOf e/\nn=none/\xs.length<=maxLen/\∀y,y∈xs->wtP P n e y
  |some (.array m e),.arr m' s xs=>m'=m/\s=P.cellsOf e/\xs.length=m/\∀y,y∈xs->wtP P n e y
  |some (.struct fs),.agg xs=>ZHr (wtP P n) fs.toList xs
  |_,_=>False
def Zvl:Nat->Nat->Prop:=λ_ _=>True
section
variable{H:Type}{enc:yc×yh->H}{P:yg}{w:World}{base:Nat}{sp:Nat->Bool}{held:Bool}
theorem ZCW:∀{s:Nat}{a:Addr}{cs:yL yh},w.cells? base a s=some cs->cs.length=s/\∀j u,cs[j]? =some u->w.cell? (a.add j)=some u:=by
 intro s a cs h;unfold World.cells? at h;split at h
 ·have hl:cs.length=s:=by simpa using mapM_some_length h
  refine⟨hl,λj u hu=> ?_⟩;have hj:j < s:=by rw[<-hl];exact(yq.1 hu).1
  have:=mapM_some_get h j j (by simp[hj]);rw[hu] at this;exact this
 ·cases h
theorem ZBv{e:yc}{n m:Nat}{a:Addr}{s:Nat}(hs:0 < s){elems:yL (DataW H×yL MemPlace)}{len:Nat}(zW:elems.length=len)
 (ih:∀(cs:yL yh)(x:DataW H×yL MemPlace),DataW.trod enc P w base sp held m e cs=some x->cs.length=s->∃pl,wtP P n e pl/\repC w Zvl pl cs)
 (h:∀i,i < len->(w.cells? base (a.add (i*s)) s).bind (DataW.trod enc P w base sp held m e)=elems[i]?):
 ∀k,k<=len->∃(xs:yL Pl)(us:yL yh),xs.length=k/\(∀y,y∈xs->wtP P n e y)/\allSz s xs/\us.length=k*s/\repCs w Zvl xs us/\(∀j u,us[j]? =some u->w.cell? (a.add j)=some u)
 |0,_=>⟨[],[],rfl,(λy hy=>by cases hy),(λy hy=>by cases hy),by simp,by simp[repCs],by simp⟩
 |k+1,hk=>by
  obtain⟨xs,us,h1,h2,h3,h4,h5,h6⟩:=ZBv hs zW ih h k (by omega);have hk':=h k (by omega);rw[yz (by omega)] at hk';obtain⟨cs,hc,ht⟩:=yf.1 hk';obtain⟨c1,c2⟩:=ZCW hc;obtain⟨pl,p1,p2⟩:=ih cs _ ht c1;have psz:pl.size=s:=by rw[<-XE _ _ p2,c1]
  refine⟨xs++[pl],us++cs,by simp[h1],λy hy=> ?_,λy hy=> ?_,by simp[h4,c1,yau],Ye h5 (by simpa[repCs] using p2),λj u hu=> ?_⟩
  ·rcases ybo.1 hy with hy|hy
   ·exact h2 y hy
   ·rw[yao.1 hy];exact p1
  ·rcases ybo.1 hy with hy|hy
   ·exact h3 y hy
   ·rw[yao.1 hy];exact psz
  ·by_cases hj:j < us.length
   ·rw[yal hj] at hu;exact h6 j u hu
   ·rw[yan (by omega)] at hu;have:=c2 _ _ hu;rw[Addr.add_add] at this;rw[<-this];congr 2;omega
theorem ZxI{e:yc}{n m:Nat}{s:Nat}{cs:yL yh}{elems:yL (DataW H×yL MemPlace)}{len:Nat}(zW:elems.length=len)(hcs:cs.length=len*s)
 (ih:∀(cs:yL yh)(x:DataW H×yL MemPlace),DataW.trod enc P w base sp held m e cs=some x->cs.length=s->∃pl,wtP P n e pl/\repC w Zvl pl cs)
 (h:∀i,i < len->DataW.trod enc P w base sp held m e ((cs.drop (i*s)).take s)=elems[i]?):
 ∀k,k<=len->∃(xs:yL Pl),xs.length=k/\(∀y,y∈xs->wtP P n e y)/\allSz s xs/\repCs w Zvl xs (cs.take (k*s))
 |0,_=>⟨[],rfl,(λy hy=>by cases hy),(λy hy=>by cases hy),by simp[repCs]⟩
 |k+1,hk=>by
  obtain⟨xs,h1,h2,h3,h5⟩:=ZxI zW hcs ih h k (by omega);have hk':=h k (by omega);rw[yz (by omega)] at hk';have hle:k*s+s<=len*s:=by rw[<-Nat.succ_mul];exact ych _ hk
  have c1:((cs.drop (k*s)).take s).length=s:=by simp;omega
  obtain⟨pl,p1,p2⟩:=ih _ _ hk' c1;have psz:pl.size=s:=by rw[<-XE _ _ p2,c1]
  refine⟨xs++[pl],by simp[h1],λy hy=> ?_,λy hy=> ?_, ?_⟩
  ·rcases ybo.1 hy with hy|hy
   ·exact h2 y hy
   ·rw[yao.1 hy];exact p1
  ·rcases ybo.1 hy with hy|hy
   ·exact h3 y hy
   ·rw[yao.1 hy];exact psz
  ·rw[yau,Nat.one_mul,List.take_add];exact Ye h5 (by simpa[repCs] using p2)
theorem ZtH{n m:Nat}{cs:yL yh}
 (ih:∀(t:yc),Z8 P n t=true->∀(cs:yL yh)(x:DataW H×yL MemPlace),DataW.trod enc P w base sp held m t cs=some x->∃pl,wtP P n t pl/\repC w Zvl pl cs):
 ∀(fs:yL Field)(o:Nat),(∀f,f∈fs->Z8 P n f.type=true)->(∀(j:Nat)f,fs[j]? =some f->f.offset=o+((fs.take j).map λf=>P.cellsOf f.type).sum)->
  cs.length=o+(fs.map λf=>P.cellsOf f.type).sum->(∀(j:Nat)f,fs[j]? =some f->∃x,DataW.trod enc P w base sp held m f.type ((cs.drop f.offset).take (P.cellsOf f.type))=some x)->
  ∃(xs:yL Pl),ZHr (wtP P n) fs xs/\repCs w Zvl xs (cs.drop o)
 |[],o,_,_,hl,_=>⟨[],zP,by simp only[repCs];apply List.drop_eq_nil_of_le;simp at hl;omega⟩
 |f::fs,o,hp,ho,hl,h=>by
  obtain⟨x,hx⟩:=h 0 f rfl;have ho0:=ho 0 f rfl;simp at ho0;rw[ho0] at hx;obtain⟨pl,p1,p2⟩:=ih f.type (hp f (yam ..)) _ _ hx;simp only[yad,List.sum_cons] at hl
  obtain⟨xs,q1,q2⟩:=ZtH ih fs (o+P.cellsOf f.type) (λg hg=>hp g (yap _ hg)) (λj g hg=>by
   have:=ho (j+1) g hg;simp only[List.take_succ_cons,yad,List.sum_cons] at this;omega) (by omega) (λj g hg=>h (j+1) g hg)
  refine⟨pl::xs,⟨p1,q1⟩, ?_⟩;simp only[repCs];refine⟨(cs.drop o).take (P.cellsOf f.type),(cs.drop o).drop (P.cellsOf f.type),(List.take_append_drop ..).symm,p2, ?_⟩;rw[List.drop_drop];exact q2
theorem ZHs:∀(n m:Nat)(t:yc),Z8 P n t=true->∀(cs:yL yh)(x:DataW H×yL MemPlace),DataW.trod enc P w base sp held m t cs=some x->∃pl,wtP P n t pl/\repC w Zvl pl cs:=by
 intro n
 induction n with
 |zero=>intro m t h;simp[Z8] at h
 |succ n ih=>
  intro m t ht cs x h;unfold Z8 at ht;split at ht
  ·rename_i hu;obtain⟨b,rfl,_⟩:=DataW.trod_bool hu h;exact⟨.bool b,by simp[wtP,hu],by simp[repC]⟩
  ·rename_i k hu;obtain⟨z,rfl,rfl,hw⟩:=DataW.trod_int hu h;exact⟨.int k z,by simp[wtP,hu,hw],by simp[repC]⟩
  ·rename_i hu;obtain⟨s,rfl,h2⟩:=DataW.trod_string hu h;exact⟨.str s,by simp[wtP,hu];exact h2.2,by simp[repC]⟩
  ·rename_i e hu;simp only[yj,yP] at ht;rcases DataW.trod_slice hu h with⟨rfl,rfl⟩|⟨a,len,cap,elems,yK,m',rfl,rfl,rfl,_,hle,hcap,zW,hel,_⟩
   ·exact⟨.sl none (P.cellsOf e) [],by simp[wtP,hu],by simp only[repC];exact⟨(λy hy=>by cases hy),none,0,rfl,ym _,Nat.zero_le _,Z6 _,λ_=>rfl,λh=>absurd rfl h⟩⟩
   ·obtain⟨xs,us,h1,h2,h3,h4,h5,h6⟩:=ZBv (n:=n) ht.2 zW (λcs x hx _=>ih m' e ht.1 cs x hx) hel len (ym _);refine⟨.sl none (P.cellsOf e) xs,by simp only[wtP,hu];exact⟨zP,zP,by omega,h2⟩, ?_⟩;simp only[repC];refine⟨h3,some a,cap,by rw[h1],by omega,hcap,Z6 _,by simp,λhne=> ?_⟩
    have hpos:0 < us.length:=by
     rw[h4];have:0 < len:=by rw[<-h1];exact List.length_pos_iff.2 hne
     exact Nat.mul_pos this ht.2
    have hc0:=h6 0 us[0] (yz hpos);obtain⟨b,o,spot⟩:=a
    have hspot:spot=none:=by
     cases spot with
     |none=>rfl
     |some z=>
      exfalso;unfold World.cell? at hc0;split at hc0
      ·simp[Addr.add] at hc0
      ·cases hc0
    subst hspot;exact⟨b,o,us,rfl,h5,λj u hu=>⟨by have:=h6 j u hu;rwa [Addr.add_lit] at this,ytt⟩⟩
  ·rename_i k e hu;simp only[yj,yT] at ht;obtain⟨elems,m',rfl,rfl,hl,zW,hel⟩:=DataW.trod_array hu h;obtain⟨xs,h1,h2,h3,h4⟩:=ZxI (n:=n) (s:=P.cellsOf e) zW (by rw[hl,ht.2]) (λcs x hx _=>ih m' e ht.1 cs x hx) hel k (ym _);rw[List.take_of_length_le (by rw[hl,ht.2];exact ym _)] at h4;exact⟨.arr k (P.cellsOf e) xs,by simp only[wtP,hu];exact⟨zP,zP,h1,h2⟩,by simp only[repC];exact⟨h1,h3,h4⟩⟩
  ·rename_i fs hu;simp only[yj,yT,yba] at ht;obtain⟨⟨t1,t2⟩,t3⟩:=ht;obtain⟨elems,m',rfl,rfl,hl,zW,hel⟩:=DataW.trod_struct hu h
   obtain⟨xs,q1,q2⟩:=ZtH (n:=n) (m:=m') (cs:=cs) (λt ht cs x hx=>ih m' t ht cs x hx) fs.toList 0 t1 (λj f hf=>by
    have hj:j < fs.toList.length:=(yq.1 hf).1;have:=t3 j (by simpa using hj);rw[hf] at this;simpa using this) (by rw[hl,t2];omega) (λj f hf=>by
    have hj:j < fs.toList.length:=(yq.1 hf).1;have:=hel j f (by simpa using hf);rw[yz (by rw[zW];simpa using hj)] at this;exact⟨_,this⟩)
   exact⟨.agg xs,by simp only[wtP,hu];exact q1,by simp only[repC];simpa using q2⟩
  ·cases ht
end
end Go.Ev
namespace Go.Ev
open Go.RowKit Go.WideShapes Go.ChangeShapes
def ZHt(P:yg)(n:Nat):yL yc->yL Pl->Prop
 |[],[]=>True
 |t::ts,x::xs=>wtP P n t x/\ZHt P n ts xs
 |_,_=>False
section
variable{H:Type}{enc:yc×yh->H}{P:yg}
def sg0(W:World):Sg:={ F:=Zvl,B:=λb=>W.heap.size<=b,m:=[],H:=[],w:=W}
theorem ZJt(W:World):Ok (sg0 W) where
 len:=rfl
 inj i j b h:=by simp[sg0] at h
 lt i b h:=by simp[sg0] at h
 ent i e a h:=by simp[sg0] at h
 new b h:=h
 own i b h:=by simp[sg0] at h
theorem ZE4(W:World)(b o:Nat):(sg0 W).stab b o:=⟨.inl trivial,λid e h=>by simp[sg0] at h⟩
theorem Zqk{W:World}{x:Pl}{v:yh}{cs:yL yh}(hx:repC W Zvl x cs)(hc:v.cells.toList=cs)(hv:x.isAgg=true->∃a,v=.agg a)(hn:x.isAgg=false->cs=[v]):yJ (sg0 W) (.p x) v:=by
 have hm:repC W (sg0 W).stab x cs:=QE (λb o u h _=>⟨h,ZE4 W b o⟩) x cs hx;refine⟨λha=> ?_,λha=> ?_⟩
 ·obtain⟨a,rfl⟩:=hv ha;refine⟨a,rfl, ?_⟩;simp only[yH];have:a.toList=cs:=by rw[<-hc];rfl
  rw[this];exact hm
 ·simp only[yH];have e:=hn ha;rw[<-e];exact hm
theorem ZJu:∀{n:Nat}{t:yc}{x:Pl},wtP P n t x->x.isAgg=Xp P t
 |0,_,_,h=>by simp[wtP] at h
 |n+1,t,x,h=>by
  unfold wtP at h;split at h <;> rename_i hu <;> first|(simp[Pl.isAgg,Xp,hu];done)|exact h.elim
theorem ZBw{W:World}{n:Nat}(hval:∀(t:yc)(v:yh),Xp P t=true->Value.okWide P W .any 0 t v->∃a,v=.agg a):
 ∀(ts:yL yc)(vs:yL yh)(ds:yL (DataW H))(ps:yL MemPlace),(∀t,t∈ts->Z8 P n t=true)->(∀(j:Nat)t v,ts[j]? =some t->vs[j]? =some v->(Xp P t=true->∃a,v=.agg a)/\(Xp P t=false->v.cells.toList=[v]))->
  DataW.TrodAll enc P W 0 (λ_=>true) true ts vs ds ps->∃xs,ZHt P n ts xs/\repVs (sg0 W) (xs.map .p) vs
 |[],[],[],_,_,_,_=>⟨[],zP,by simp[repVs]⟩
 |[],_::_,_,_,_,_,h=>by simp[DataW.TrodAll] at h
 |[],[],_::_,_,_,_,h=>by simp[DataW.TrodAll] at h
 |_::_,[],_,_,_,_,h=>by simp[DataW.TrodAll] at h
 |_::_,_::_,[],_,_,_,h=>by simp[DataW.TrodAll] at h
 |t::ts,v::vs,d::ds,ps,hp,hv,h=>by
  obtain⟨p,q,⟨yD,h1⟩,h2,rfl⟩:=h;obtain⟨x,x1,x2⟩:=ZHs n yD t (hp t (yam ..)) _ _ h1;obtain⟨xs,xs1,xs2⟩:=ZBw hval ts vs ds q (λu hu=>hp u (yap _ hu)) (λj u w' hj hw=>hv (j+1) u w' hj hw) h2;obtain⟨v1,v2⟩:=hv 0 t v rfl rfl;refine⟨x::xs,⟨x1,xs1⟩, ?_⟩;simp only[yad,repVs];have ha:=ZJu x1;exact⟨v,vs,rfl,Zqk x2 rfl (λe=>v1 (by rw[<-ha];exact e)) (λe=>v2 (by rw[<-ha];exact e)),xs2⟩
theorem ZiT{W W':World}{sp':Nat->Bool}{n:Nat}:∀(ts:yL yc)(vs:yL yh)(ds:yL (DataW H))(ps:yL MemPlace),(∀t,t∈ts->Z8 P n t=true)->
 DataW.TrodAll enc P W 0 (λ_=>true) true ts vs ds ps->(∀p∈ps,W.sameAt W' p)->(∀p∈ps,sp' p.block=true)->DataW.TrodAll enc P W' 0 sp' true ts vs ds ps
 |[],[],[],_,_,h,_,_=>h
 |[],_::_,_,_,_,h,_,_=>by simp[DataW.TrodAll] at h
 |[],[],_::_,_,_,h,_,_=>by simp[DataW.TrodAll] at h
 |_::_,[],_,_,_,h,_,_=>by simp[DataW.TrodAll] at h
 |_::_,_::_,[],_,_,h,_,_=>by simp[DataW.TrodAll] at h
 |t::ts,v::vs,d::ds,ps,hp,h,hs,hb=>by
  obtain⟨p,q,⟨yD,h1⟩,h2,rfl⟩:=h;refine⟨p,q,⟨yD, ?_⟩,ZiT ts vs ds q (λu hu=>hp u (yap _ hu)) h2 (λz hz=>hs z (List.mem_append_right _ hz)) (λz hz=>hb z (List.mem_append_right _ hz)),rfl⟩
  exact DataW.trod_stays (Zvk P) (λ{t e}⟨n,hn⟩hu=>by
   cases n with
   |zero=>simp[Z8] at hn
   |succ n=>simp[Z8,hu] at hn;exact hn.2) (by simp) ⟨n,hp t (yam ..)⟩ h1 (λz hz=>hs z (List.mem_append_left _ hz)) (λz hz=>hb z (List.mem_append_left _ hz))
theorem ZxJ{W:World}{σ':Sg}(h:To (sg0 W) σ'):Below W.heap.size W σ'.w:=
 ⟨h.os,h.tape,h.output,h.size,λb hb=>h.block b hb (λid=>by simp[sg0])⟩
theorem Zql{f:Func}{s:ChangeSpec}{apart fresh handsOn again:Bool}{W W':World}{args:Array yh}{v:yh}{ds gs:yL (DataW H)}{before pa pv:yL MemPlace}
 (hW:DataW.Whole enc P f.params.toList s.vars apart W args.toList ds gs before)
 (hres:∀(b:Nat)(sp:Nat->Bool)(hd:Bool),DataW.TrodAll enc P W' b sp hd f.resultTypes.toList (v.resultList f.resultTypes.size) (s.fn H (ds++gs)).results [])
 (yR:∀sp:Nat->Bool,(∀p∈before,sp p.block=true)->DataW.TrodAll enc P W' 0 sp true f.params.toList args.toList (s.fn H (ds++gs)).args pa)
 (hvars:∀sp:Nat->Bool,(∀p∈before,sp p.block=true)->DataW.TrodVars enc P W' sp s.vars (s.fn H (ds++gs)).vars pv)
 (hps:before=pa++pv) (hb:Below W.heap.size W W')
 (hok:∀(j:Nat)(t:yc)(r:yh),f.resultTypes[j]? =some t->(v.resultList f.resultTypes.size)[j]? =some r->Value.okWide P W' .any 0 t r):
 s.post enc P f apart fresh handsOn again W args v W':=by
 have hlt:∀p∈before,p.block < W.heap.size:=λp hp=>hW.lt p hp;have hold:∀p∈before,(λb=>decide (b < W.heap.size)) p.block=true:=λp hp=>by simpa using hlt p hp
 refine⟨ds,gs,before,[],pa,pv,hW,hres _ _ _,yR _ hold,hvars _ hold,World.keptBut_mono (λp hp=>⟨hp, ?_⟩) (hb.frame (· ∈before)),λ_=> ?_⟩
 ·rw[hps,ybo] at hp;exact Or.inr hp
 ·obtain⟨_,_,_,_,_,hz,hn⟩:=hW;refine⟨hok,_,_,([]++pa)++pv,⟨[]++pa,pv,trodAll_append (yR _ (λ_ _=>rfl)) (hres _ _ _),hvars _ (λ_ _=>rfl),rfl, ?_, ?_⟩, ?_⟩
  ·intro b off hp;have hin:MemPlace.cell b off∈before:=by rw[hps];simpa using hp
   rw[hb.frozen (hlt _ hin)];exact hz b off hin
  ·intro ha;have:=hn ha;rw[hps] at this;simpa using this
  ·intro p hp _;rw[hps];simpa using hp
theorem Zvm{f:yu}{fn:Func}{s:ChangeSpec}{n:Nat}{tb:yc}(hr:fn.resultTypes= #[tb])(ht:P.underlying tb=some .bool)(hv:s.vars=[])
 (hs:∀ds:yL (DataW H),ds.length=fn.params.toList.length->s.fn H ds={ results:=[.lit (.bool true)],args:=ds}) (hp:∀t,t∈fn.params.toList->Z8 P n t=true)
 (W:World) (base:Nat) (args:Array yh) (ds gs:yL (DataW H)) (before:yL MemPlace)
 (hval:∀(j:Nat)t v,fn.params[j]? =some t->args[j]? =some v->Value.okWide P W .any base t v) (hW:DataW.Whole enc P fn.params.toList s.vars false W args.toList ds gs before)
 (hc:∀xs:yL Pl,ZHt P n fn.params.toList xs->repVs (sg0 W) (xs.map .p) args.toList->Con P f (xs.map .p) [] (.p (.bool true)) []):
 Calls P f args W λe W'=>∃v,e=.returned v/\s.post enc P fn false true false false W args v W':=by
 have hW':=hW;obtain⟨p,q,hA,hV,rfl,hfz,hnd⟩:=hW;rw[hv] at hV
 obtain⟨rfl,rfl⟩:gs=[]/\q=[]:=by
  cases gs with
  |nil=>exact⟨rfl,hV⟩
  |cons g r=>simp[DataW.TrodVars] at hV
 have zW:=trodAll_length hA
 obtain⟨xs,x1,x2⟩:=ZBw (enc:=enc) (P:=P) (W:=W) (n:=n) (λt v ha hok=>by
  unfold Value.okWide at hok;unfold Xp at ha;split at hok
  ·obtain⟨cs,rfl,_⟩:=hok;exact⟨cs,rfl⟩
  ·obtain⟨cs,rfl,_⟩:=hok;exact⟨cs,rfl⟩
  ·rename_i h1 h2;split at ha
   ·rename_i fs hu;exact absurd hu (h1 fs)
   ·rename_i k e hu;exact absurd hu (h2 k e)
   ·cases ha) fn.params.toList args.toList ds p hp (λj t v hj hvv=>by
  have hok:=hval j t v (by simpa using hj) (by simpa using hvv);refine⟨λha=> ?_,λha=> ?_⟩
  ·unfold Value.okWide at hok;unfold Xp at ha;split at hok
   ·obtain⟨cs,rfl,_⟩:=hok;exact⟨cs,rfl⟩
   ·obtain⟨cs,rfl,_⟩:=hok;exact⟨cs,rfl⟩
   ·rename_i h1 h2;split at ha
    ·rename_i fs hu;exact absurd hu (h1 fs)
    ·rename_i k e hu;exact absurd hu (h2 k e)
    ·cases ha
  ·obtain⟨m,hm⟩:∃m,Z8 P (m+1) t=true:=by
    have:=hp t (ybc hj)
    cases n with
    |zero=>simp[Z8] at this
    |succ n=>exact⟨n,this⟩
   unfold Value.okWide at hok;unfold Z8 at hm;unfold Xp at ha;split at hm <;> rename_i hu <;> simp only[hu] at hok ha
   all_goals first
    |(cases ha;done)
    |(cases hm;done)
    |(unfold Cell.okWide Cell.ok at hok;simp only[hu] at hok;cases v <;> first|rfl|(simp at hok;done))) hA
 have hcall:=hc xs x1 x2 (sg0 W) args.toList (ZJt W) rfl x2;rw[Array.toArray_toList] at hcall;refine Calls.mono hcall ?_;rintro e W' ⟨v,σ',rfl,rfl,hH,hto,hok,yM⟩;have hbv:v=.bool true:=by simpa[yJ,Dv.isAgg,Pl.isAgg,yH,repC] using yM
 subst hbv;have hb:=ZxJ hto;simp only[yar] at hW';have hlt:=hW'.lt
 have hsame:∀z∈p,W.sameAt σ'.w z:=by
  intro z hz;have hz':=hlt z hz
  cases z with
  |cell b o=>exact hb.cell (p:=⟨b,o,none⟩) hz'
  |map b=>exact hb.block b hz'
 have hfn:=hs ds zW.2;refine⟨_,rfl,Zql (pa:=p) (pv:=[]) hW' (λb sp hd=> ?_) (λsp h=> ?_) (λsp h=> ?_) (by simp) hb ?_⟩
 ·rw[yar,hfn,hr];exact trodAll_cons_mk (shut_bool ht _) trodAll_mk0
 ·rw[yar,hfn];exact ZiT fn.params.toList args.toList ds p hp hA hsame h
 ·rw[yar,hfn,hv];rfl
 ·intro j t r hj hjr;rw[hr] at hj hjr
  cases j with
  |zero=>
   simp at hj;subst hj;have:r=.bool true:=by simpa[Value.resultList] using hjr.symm
   subst this
   exact okWide_bool_mk ht _
  |succ j=>simp at hj
end
end Go.Ev
namespace Go.Ev
end Go.Ev
end
section
namespace Go.Ev
mutual
def Ty.Wf:(t:Ty)->t.den->Prop
 |.int k,n=>(Lit.int k n).wf=true
 |.u8,_=>True
 |.u32,_=>True
 |.u64,_=>True
 |.bool,_=>True
 |.str,s=>s.size<=maxLen
 |.sl t,l=>List.length l<=maxLen/\∀x,List.Mem x l->Ty.Wf t x
 |.arr n t,l=>List.length l=n/\∀x,List.Mem x l->Ty.Wf t x
 |.st fs,x=>Ty.Wfs fs x
def Ty.Wfs:(fs:yL Ty)->Ty.dens fs->Prop
 |[],_=>True
 |[t],x=>Ty.Wf t x
 |t::u::r,x=>Ty.Wf t x.1/\Ty.Wfs (u::r) x.2
end
mutual
def Zz5(P:yg):Nat->yc->Ty->Bool
 |0,_,_=>false
 |n+1,t,T=>match P.underlying t,T with
  |some (.int .u8),.u8=>true
  |some (.int .u32),.u32=>true
  |some (.int .u64),.u64=>true
  |some (.int k),.int k'=>decide (k=k')
  |some .bool,.bool=>true
  |some .string,.str=>true
  |some (.slice e),.sl T'=>P.cellsOf e==T'.size&&Zz5 P n e T'
  |some (.array m e),.arr m' T'=>m==m'&&(P.cellsOf e==T'.size&&Zz5 P n e T')
  |some (.struct fs),.st Ts=>tyOks P n fs.toList Ts
  |_,_=>false
def tyOks(P:yg):Nat->yL Field->yL Ty->Bool
 |0,_,_=>false
 |_+1,[],[]=>true
 |n+1,f::fs,T::Ts=>Zz5 P n f.type T&&tyOks P n fs Ts
 |_+1,_,_=>false
end
theorem ZKB{m:Int}(h:(Lit.int .u8 m).wf=true):∃b:yB,m=(b.toNat:Int):=by
 simp only[Lit.wf,yj,yP] at h;have h1:(0:Int)<=m:=h.1;have h2:m<=255:=h.2;refine⟨UInt8.ofNat m.toNat, ?_⟩;have:(UInt8.ofNat m.toNat).toNat=m.toNat:=by simp;omega
 rw[this];omega
theorem ZJv{m:Int}(h:(Lit.int .u32 m).wf=true):∃b:yV,m=(b.toNat:Int):=by
 simp only[Lit.wf,yj,yP] at h;have h1:(0:Int)<=m:=h.1;have h2:m<=4294967295:=h.2;refine⟨ycf m.toNat, ?_⟩;have:(ycf m.toNat).toNat=m.toNat:=by simp;omega
 rw[this];omega
theorem ZJw{m:Int}(h:(Lit.int .u64 m).wf=true):∃b:yU,m=(b.toNat:Int):=by
 simp only[Lit.wf,yj,yP] at h;have h1:(0:Int)<=m:=h.1;have h2:m<=18446744073709551615:=h.2;refine⟨yaf m.toNat, ?_⟩;have:(yaf m.toNat).toNat=m.toNat:=by simp;omega
 rw[this];omega
theorem Zz6{α β:Type}{f:α->β}{R:α->Prop}:∀{ys:yL β},(∀y,y∈ys->∃x,y=f x/\R x)->∃l:yL α,ys=l.map f/\∀x,List.Mem x l->R x
 |[],_=>⟨[],rfl,λx hx=>by cases hx⟩
 |y::ys,h=>by
  obtain⟨x,rfl,hx⟩:=h y (yam ..);obtain⟨l,rfl,hl⟩:=Zz6 (λz hz=>h z (yap _ hz))
  exact⟨x::l,rfl,λz hz=>by
   cases hz with
   |head=>exact hx
   |tail _ hz=>exact hl z hz⟩
mutual
theorem ZtI{P:yg}:∀(m n:Nat)(t:yc)(T:Ty)(x:Pl),Zz5 P m t T=true->wtP P n t x->∃v:T.den,T.Wf v/\x=T.enc v
 |0,_,_,_,_,h,_=>by simp[Zz5] at h
 |_+1,0,_,_,_,_,h=>by simp[wtP] at h
 |m+1,n+1,t,T,x,h,hw=>by
  unfold Zz5 at h;split at h
  ·rename_i hu;unfold wtP at hw;rw[hu] at hw;cases x <;> try exact hw.elim
   obtain⟨rfl,h2⟩:=hw;obtain⟨b,rfl⟩:=ZKB h2;exact⟨b,zP,rfl⟩
  ·rename_i hu;unfold wtP at hw;rw[hu] at hw;cases x <;> try exact hw.elim
   obtain⟨rfl,h2⟩:=hw;obtain⟨b,rfl⟩:=ZJv h2;exact⟨b,zP,rfl⟩
  ·rename_i hu;unfold wtP at hw;rw[hu] at hw;cases x <;> try exact hw.elim
   obtain⟨rfl,h2⟩:=hw;obtain⟨b,rfl⟩:=ZJw h2;exact⟨b,zP,rfl⟩
  ·rename_i k k' hu;have h:=yF h;subst h;unfold wtP at hw;rw[hu] at hw;cases x <;> try exact hw.elim
   obtain⟨rfl,h2⟩:=hw;exact⟨_,h2,rfl⟩
  ·rename_i hu;unfold wtP at hw;rw[hu] at hw;cases x <;> try exact hw.elim
   exact⟨_,zP,rfl⟩
  ·rename_i hu;unfold wtP at hw;rw[hu] at hw;cases x <;> try exact hw.elim
   exact⟨_,hw,rfl⟩
  ·rename_i e T' hu;simp only[yj,yT] at h;unfold wtP at hw;rw[hu] at hw;cases x <;> try exact hw.elim
   obtain⟨rfl,rfl,h3,h4⟩:=hw
   obtain⟨l,rfl,h5⟩:=Zz6 λy hy=>(by
    obtain⟨v,a,b⟩:=ZtI m n e T' y h.2 (h4 y hy);exact⟨v,b,a⟩:∃v:T'.den,y=T'.enc v/\T'.Wf v)
   refine⟨l,⟨by simpa using h3,h5⟩, ?_⟩;rw[h.1];rfl
  ·rename_i m0 e m' T' hu;simp only[yj,yT] at h;obtain⟨rfl,h⟩:=h;unfold wtP at hw;rw[hu] at hw;cases x <;> try exact hw.elim
   obtain⟨rfl,rfl,h3,h4⟩:=hw
   obtain⟨l,rfl,h5⟩:=Zz6 λy hy=>(by
    obtain⟨v,a,b⟩:=ZtI m n e T' y h.2 (h4 y hy);exact⟨v,b,a⟩:∃v:T'.den,y=T'.enc v/\T'.Wf v)
   refine⟨l,⟨by simpa using h3,h5⟩, ?_⟩;rw[h.1];rfl
  ·rename_i fs Ts hu;unfold wtP at hw;rw[hu] at hw;cases x <;> try exact hw.elim
   rename_i xs;obtain⟨v,h1,rfl⟩:=wt_tys m n fs.toList Ts xs h hw;exact⟨v,h1,rfl⟩
  ·cases h
theorem wt_tys{P:yg}:∀(m n:Nat)(fs:yL Field)(Ts:yL Ty)(xs:yL Pl),tyOks P m fs Ts=true->ZHr (wtP P n) fs xs->∃v:Ty.dens Ts,Ty.Wfs Ts v/\xs=Ty.encs Ts v
 |0,_,_,_,_,h,_=>by simp[tyOks] at h
 |m+1,n,[],[],[],h,hw=>⟨(),zP,rfl⟩
 |m+1,n,[],[],_::_,h,hw=>hw.elim
 |m+1,n,[],_::_,_,h,hw=>by cases h
 |m+1,n,_::_,[],_,h,hw=>by cases h
 |m+1,n,_::_,_::_,[],h,hw=>hw.elim
 |m+1,n,f::fs,[T],x::xs,h,hw=>by
  simp only[tyOks,yj] at h;obtain⟨v,h1,rfl⟩:=ZtI m n f.type T x h.1 hw.1
  cases fs with
  |nil=>cases xs with
   |nil=>exact⟨v,h1,rfl⟩
   |cons _ _=>exact hw.2.elim
  |cons _ _=>
   cases m with
   |zero=>exact absurd h.2 (by simp[tyOks])
   |succ m=>exact absurd h.2 (by simp[tyOks])
 |m+1,n,f::fs,T::U::Ts,x::xs,h,hw=>by
  simp only[tyOks,yj] at h;obtain⟨v,h1,rfl⟩:=ZtI m n f.type T x h.1 hw.1;obtain⟨w,h2,rfl⟩:=wt_tys m n fs (U::Ts) xs h.2 hw.2;exact⟨(v,w),⟨h1,h2⟩,rfl⟩
end
theorem ZtJ{I X:Type}{step:I->yO (I⊕X)}(Inv:I->Prop)(mu:I->Nat)(Post:X->Prop)
 (h:∀i,Inv i->(∃j,step i=some (.inl j)/\Inv j/\mu j < mu i)\/(∃x,step i=some (.inr x)/\Post x)):∀(n:Nat)(i:I),Inv i->mu i < n->∃x,Zc step n i=some x/\Post x
 |0,i,_,hn=>by omega
 |n+1,i,hi,hn=>by
  unfold Zc;rcases h i hi with⟨j,h1,h2,h3⟩|⟨x,h1,h2⟩
  ·rw[h1,ya];exact ZtJ Inv mu Post h n j h2 (by omega)
  ·rw[h1,ya];exact⟨x,rfl,h2⟩
theorem XV{I X:Type}{step:I->yO (I⊕X)}(Inv:I->Prop)(mu:I->Nat)(Post:X->Prop)
 (h:∀i,Inv i->(∃j,step i=some (.inl j)/\Inv j/\mu j < mu i)\/(∃x,step i=some (.inr x)/\Post x)) (i:I) (hi:Inv i) (hm:mu i < 18446744073709551616):∃x,Zc step yD i=some x/\Post x:=by
 refine ZtJ Inv mu Post h yD i hi ?_;rw[Zfy];exact hm
theorem ZP{z:Int}(h1: -9223372036854775808<=z)(h2:z<=9223372036854775807):wi z=z:=by
 simp only[wi,IntKind.wrap,IntKind.signed,IntKind.bits];simp;omega
theorem Zil{α:Type}{l:yL α}{i:Int}{y:α}(h0:0<=i)(h:l[i.toNat]? =some y):idx l i=some y:=by
 unfold idx;rw[yW h0,h]
theorem Zaa{α:Type}{l:yL α}{i:Nat}(h:i < l.length):∃y,l[i]? =some y:=⟨_,yz h⟩
theorem ZZ{i:Int}{n:Nat}(h1:0<=i)(h2:i < (n:Int)):inB i n=true:=by simp[inB,h1,h2]
theorem ZX{n m b:Nat}(h1:(n+m)*b<=140737488355328)(h2:n+m<=9223372036854775807):apB n m b=true:=by
 unfold apB;rw[yj];exact⟨yY h1,yY h2⟩
def tdv:(ts:yL Ty)->Ty.dens ts->yL TD
 |[],_=>[]
 |[t],x=>[.p (.v t x)]
 |t::u::r,x=>.p (.v t x.1)::tdv (u::r) x.2
theorem ZBx:∀(ts:yL Ty)(x:Ty.dens ts),Sh.fills (ts.map .v) (ofD ts x)=some (tdv ts x,[])
 |[],_=>rfl
 |[t],x=>by
  rw[show ofD [t] x=[⟨t,x⟩] from rfl,yad,List.map_nil,Sh.fills,Sh.fill]
  have e:=YA t x;dsimp only;rw[e]
  rfl
 |t::u::r,x=>by
  have h:=ZBx (u::r) x.2;have e:=YA t x.1;rw[show ofD (t::u::r) x=⟨t,x.1⟩::ofD (u::r) x.2 from rfl,yad,Sh.fills,Sh.fill]
  dsimp only;rw[e,yaa,ya,h];rfl
theorem ZE5{L:Lk}:∀(ts:yL Ty)(x:Ty.dens ts),TD.ers L (tdv ts x)=(Ty.encs ts x).map .p
 |[],_=>rfl
 |[t],x=>rfl
 |t::u::r,x=>by
  rw[show tdv (t::u::r) x=.p (.v t x.1)::tdv (u::r) x.2 from rfl,ZB,yad, <-ZB,ZE5 (u::r) x.2]
  rfl
theorem ZHu{P:yg}{g:yu}{ts:yL Ty}{M:Ty.dens ts->yO Bool}(hok:Fs.Ok (⟨g,ts.map .v,[],ts,[⟨.ret,[(0,.v .bool)],[],[.bool]⟩],M⟩:Fs P)){x:Ty.dens ts}(h:M x=some true):
 Con P g ((Ty.encs ts x).map .p) [] (.p (.bool true)) []:=by
 obtain⟨args,R,H,h1,h2,h3⟩:=hok x true h;have e:=(ZBx ts x).symm.trans (show Sh.fills (ts.map .v) (ofD ts x)=some (args,R) from h1)
 cases e;cases h2
 obtain⟨r,h4,h5⟩:=h3 _ [⟨.bool,true⟩] ([.p (.v .bool true)],[]) ⟨rfl,rfl⟩ (by
  simp only[VV,shs];rfl)
 cases h4;rw[<-ZE5 (L:=lk [])];exact h5
theorem Zvn{P:yg}{s:Fs P}(h:s.Ok){M:Ty.dens s.ins->yO (XSh.sum s.xs)}(e:∀x,M x=s.M x):Fs.Ok (P:=P) { s with M:=M}:=by
 have:M=s.M:=funext e;subst this;exact h
def Zqm(P:yg)(m:Nat):yL yc->yL Ty->Bool
 |[],[]=>true
 |t::ts,T::Ts=>Zz5 P m t T&&Zqm P m ts Ts
 |_,_=>false
theorem ZBy{P:yg}{m n:Nat}:∀{ts:yL yc}{Ts:yL Ty}{xs:yL Pl},Zqm P m ts Ts=true->ZHt P n ts xs->∃v:Ty.dens Ts,Ty.Wfs Ts v/\xs=Ty.encs Ts v
 |[],[],[],_,_=>⟨(),zP,rfl⟩
 |[],[],_::_,_,h=>h.elim
 |[],_::_,_,h,_=>by cases h
 |_::_,[],_,h,_=>by cases h
 |_::_,_::_,[],_,h=>h.elim
 |t::ts,[T],x::xs,h,hw=>by
  simp only[Zqm,yj] at h;obtain⟨v,h1,rfl⟩:=ZtI m n t T x h.1 hw.1
  cases ts with
  |nil=>cases xs with
   |nil=>exact⟨v,h1,rfl⟩
   |cons _ _=>exact hw.2.elim
  |cons _ _=>exact absurd h.2 (by simp[Zqm])
 |t::ts,T::U::Ts,x::xs,h,hw=>by
  simp only[Zqm,yj] at h;obtain⟨v,h1,rfl⟩:=ZtI m n t T x h.1 hw.1;obtain⟨w,h2,rfl⟩:=ZBy (Ts:=U::Ts) h.2 hw.2;exact⟨(v,w),⟨h1,h2⟩,rfl⟩
theorem Zvo{P:yg}{g:yu}{t:Ty}{xs:yL XSh}{MA M:Ty.dens [.sl t]->yO (XSh.sum xs)}(hA:Fs.Ok (⟨g,[.sl true t],[],[.sl t],xs,MA⟩:Fs P))
 (h1:M ([]:yL t.den)=none) (h2:∀(x:t.den)(l:yL t.den),M (x::l)=MA (x::l)):Fs.Ok (⟨g,[.v (.sl t)],[],[.sl t],xs,M⟩:Fs P):=by
 intro l o hM;have key:∀(l:yL t.den),Ty.cast (.sl t) (.sl t) l=some l:=λl=>YA (.sl t) l
 have h3:∀l:yL t.den,M l=some o->MA l=some o/\l≠[]:=λl hl=>by
  cases l with
  |nil=>rw[h1] at hl;cases hl
  |cons x l=>exact⟨by rw[<-h2];exact hl,by simp⟩
 obtain⟨hMA,hne⟩:=h3 l hM;obtain⟨a1,R1,H1,f1,f2,f3⟩:=hA l o hMA
 have e1:a1=[.p (.sl (some true) t l)]/\R1=[]:=by
  have:Sh.fills [.sl true t] [(⟨.sl t,l⟩:TV)]=some (a1,R1):=f1;simp only[Sh.fills,Sh.fill] at this;rw[key l] at this;have this:some (([.p (.sl (some true) t l)]:yL TD),([]:yL TV))=some (a1,R1):=this;cases this;exact⟨rfl,rfl⟩
 obtain⟨rfl,rfl⟩:=e1;cases f2;refine⟨[.p (.v (.sl t) l)],[],[], ?_,rfl,λe vs s' hs hf=> ?_⟩
 ·show Sh.fills [.v (.sl t)] [(⟨.sl t,l⟩:TV)]=_;simp only[Sh.fills,Sh.fill];rw[key l];rfl
 ·obtain⟨r,r1,r2⟩:=f3 e vs s' hs hf;exact⟨r,r1,ZAS (xs:=List.map t.enc l) r2 λhl=>absurd (List.map_eq_nil_iff.1 hl) hne⟩
theorem ZKC{P:yg}{g:yu}{ps:yL Sh}{es:yL ESh}{ins:yL Ty}{xr xp:XSh}{MR:Ty.dens ins->yO (XSh.sum [xr])}{MP:Ty.dens ins->yO (XSh.sum [xp])}(c:Ty.dens ins->Bool)
 (hR:Fs.Ok (⟨g,ps,es,ins,[xr],MR⟩:Fs P)) (hP:Fs.Ok (⟨g,ps,es,ins,[xp],MP⟩:Fs P)):Fs.Ok (⟨g,ps,es,ins,[xr,xp],λx=>if c x=true then(MP x).map .inr else(MR x).map .inl⟩:Fs P):=by
 intro x o hM
 replace hM:(if c x=true then(MP x).map Sum.inr else(MR x).map Sum.inl)=some o:=hM
 split at hM
 ·obtain⟨y,h1,rfl⟩:=yp.1 hM;obtain⟨a,R,H,f1,f2,f3⟩:=hP x y h1;exact⟨a,R,H,f1,f2,λe vs s' hs hf=>f3 e vs s' hs hf⟩
 ·obtain⟨y,h1,rfl⟩:=yp.1 hM;obtain⟨a,R,H,f1,f2,f3⟩:=hR x y h1;exact⟨a,R,H,f1,f2,λe vs s' hs hf=>f3 e vs s' hs hf⟩
end Go.Ev
end
section
namespace Go.Ev
section
variable{P:yg}{ops:Array Oper}
theorem ZE6{σ:Sg}{a:Act}{ts:yL Dv}{id:Nat}(hm:P.follows .mixedOrders=true)(ok:Ok σ)(yM:RepT σ ts a)(D:Nat->Dv)(Inv:(Nat->Bool)->yL Ent->Prop)
 (hu:∀i j,i < ops.size->j < ops.size->Xu ops.toList i≠none->Xu ops.toList i=Xu ops.toList j->i=j) (hback:Zcn ops.toList 0=true) (h0:Inv (λ_=>false) σ.H)
 (step:∀(X:Nat->Bool)(i:Nat)(o:Oper)(H:yL Ent),ops[i]? =some o->X i=false->(∀e,e∈o.after->Region.binds .any e=true->X e.on=true)->ZpD ops X->Inv X H->
   ∃hs C hs' H2,AllP C/\evG P ops o (tsX ops.size (Xu ops.toList) D ts X) H hs=some (C,D i,H2,hs')/\Inv (λj=>X j || decide (j=i)) H2)
 (Q:Exit->Act->World->Prop) (hQ:∀X a' σ',(∀j,j < ops.size->X j=true)->Inv X σ'.H->To σ σ'->Ok σ'->RepT σ' (tsX ops.size (Xu ops.toList) D ts X) a'->Q .normal a' σ'.w):(Code.region id ops true).wp P Q a σ.w:=by
 let n:=ops.size;refine wp_region_any hm ?_
 have walk:∀(yD:Nat)(listed:Array Bool)(a:Act)(σ1:Sg),listed.size=n->unl (λj=>listed.getD j false) n<=yD->ZpD ops (λj=>listed.getD j false)->To σ σ1->Ok σ1->
  RepT σ1 (tsX n (Xu ops.toList) D ts (λj=>listed.getD j false)) a->Inv (λj=>listed.getD j false) σ1.H->wpAny P .any ops Q yD listed a σ1.w:=by
  intro yD
  induction yD with
  |zero=>
   intro listed a σ1 hsz hun hcl1 to1 ok1 hrep1 hinv;have zU:=Zun (Nat.le_zero.1 hun);refine⟨?_,hQ _ a σ1 zU hinv to1 ok1 hrep1⟩;apply List.eq_nil_iff_forall_not_mem.2;intro j hj;obtain⟨h1,o,ho,_⟩:=mem_ready.1 hj;have hjn:j < n:=(ycr.1 ho).1;have h2:=zU j hjn;have hjs:j < listed.size:=by omega
   simp only[Array.getD,hjs,dif_pos] at h1 h2;rw[h1] at h2
   cases h2
  |succ yD ih=>
   intro listed a σ1 hsz hun hcl1 to1 ok1 hrep1 hinv;refine⟨λhr=> ?_,λi hi=> ?_⟩
   ·have zU:∀j,j < n->listed.getD j false=true:=by
     intro j
     induction j using Nat.strongRecOn with
     |_ j ihj=>
      intro hj
      cases hx:listed.getD j false with
      |true=>rfl
      |false=>
       have hjs:j < listed.size:=by omega
       have hjo:ops[j]? =some ops[j]:=Array.getElem?_eq_getElem hj
       have:j∈Region.ready .any ops listed:=by
        refine mem_ready.2 ⟨?_,ops[j],hjo,λe he hb=> ?_⟩
        ·simp only[Array.getD,hjs,dif_pos] at hx ⊢;exact hx
        ·have hlt:=ZjO ops.toList 0 hback j ops[j] (by simp) e he hb;exact ihj e.on (by omega) (by omega)
       rw[hr] at this;cases this
    exact hQ _ a σ1 zU hinv to1 ok1 hrep1
   ·obtain⟨h1,o,ho,hedge⟩:=mem_ready.1 hi;have hin:i < n:=(ycr.1 ho).1;have his:i < listed.size:=by omega
    let X:Nat->Bool:=λj=>listed.getD j false
    have hXi:X i=false:=by
     simp only[X,Array.getD,his,dif_pos] at h1 ⊢;exact h1
    have hgetset:∀j,(listed.setIfInBounds i true).getD j false=(X j || decide (j=i)):=by
     intro j;by_cases hji:j=i
     ·subst hji;simp[Array.getD,his]
     ·simp only[X,yda,Array.getElem?_setIfInBounds,hji,decide_false,Bool.or_false];rw[yX (λh=>hji h.symm)]
    have hfun:(λj=>(listed.setIfInBounds i true).getD j false)=λj=>X j || decide (j=i):=funext hgetset;obtain⟨hs,C,hs',H2,hc,hev,hinv2⟩:=step X i o σ1.H ho hXi hedge hcl1 hinv
    have key:=Zh5 (P:=P) (ops:=ops) ok1 hrep1 hev hc (wpAny P .any ops Q yD (listed.setIfInBounds i true)) Q (λv σ2 e1 to2 ok2 hrep2=>by
     refine ih _ _ σ2 (by simpa using hsz) ?_ ?_ (to1.trans to2) ok2 ?_ ?_
     ·have:=ZpG (Y:=λj=>(listed.setIfInBounds i true).getD j false) hXi hin (λj _=>hgetset j);have hX':unl X n<=yD+1:=hun;omega
     ·intro j o' hj hx e he hb;show(listed.setIfInBounds i true).getD e.on false=true;rw[hgetset];have hx':(listed.setIfInBounds i true).getD j false=true:=hx;rw[hgetset] at hx';by_cases hji:j=i
      ·subst hji;rw[ho] at hj;cases hj;have:X e.on=true:=hedge e he hb;rw[this];rfl
      ·simp only[hji,decide_false,Bool.or_false] at hx';have:X e.on=true:=hcl1 j o' hj hx' e he hb;rw[this];rfl
     ·have hd:o.dst=Xu ops.toList i:=by simp[Xu,ho]
      have hput:=Zul (ts0:=ts) (D:=D) hu hin hXi (λj(_:j < n)=>hgetset j);rw[<-hput, <-hd];exact hrep2
     ·rw[hfun,e1];exact hinv2)
    show wpOp P ops Q i _ a σ1.w;unfold wpOp;rw[ho];by_cases hw:Region.wanted o (yielded ops a.tmps)=true
    ·rw[yW hw] at key;simp only[hw,if_true];exact .inl key
    ·rw[yX hw] at key;simp only[hw];exact key
 have hdr2:σ.w.grownBy { σ.w with drawn:=σ.w.drawn+1} none:=by
  exact⟨rfl,rfl,rfl,ym _,λ_ _ _=>rfl⟩
 obtain⟨to0,ok0⟩:=Zkx ok hdr2
 have hfalse:∀j,(Array.replicate ops.size false).getD j false=false:=by
  intro j;by_cases hj:j < ops.size <;> simp[Array.getD,hj]
 have hff:(λj=>(Array.replicate ops.size false).getD j false)=λ_=>false:=funext hfalse;refine walk ops.size (Array.replicate ops.size false) a { σ with w:={ σ.w with drawn:=σ.w.drawn+1}} (by simp[n]) Zzd ?_ to0 ok0 ?_ ?_
 ·intro i o _ hx;have hx':(Array.replicate ops.size false).getD i false=true:=hx;rw[hfalse i] at hx';cases hx'
 ·rw[Zmn (λj _=>hfalse j)];exact yM.to to0.leaf
 ·rw[hff];exact h0
end
end Go.Ev
end
section
set_option maxRecDepth 10000
namespace Go.Proofs.YtpgpjjjoglafdaaGreat
open Go Go.Ev
abbrev zN(t:Ty):List XSh:=[⟨.ret,[(0,.v t)],[],[t]⟩]
def Wn(a b:Int):Pl:=.arr 2 1 [.int .i64 a,.int .i64 b]
def Wy(n:Int)(s:Bool):Pl:=.agg [.int .i64 n,.bool s]
def wkv:yL (Pl×Pl):=[(Wn 1 1,Wy 1 false),(Wn 5 1,Wy 2 false),(Wn 5 0,Wy 1 true),(Wn 6 1,Wy 1 true),(Wn 6 0,Wy 2 false)]
noncomputable def Zbp:Array Oper:=match Q9 yb 50 with|.seq _ (.seq (.region _ ops _) _)=>ops|_=> #[]
noncomputable def wO0:Array Oper:=match Q9 yb 50 with|.seq (.region _ ops _) _=>ops|_=> #[]
def wD:Nat->Dv
 |0=>.mp 0
 |1=>.p (Wn 1 1)
 |2=>.p (Wy 1 false)
 |4=>.p (Wn 5 1)
 |5=>.p (Wy 2 false)
 |7=>.p (Wn 5 0)
 |8=>.p (Wy 1 true)
 |10=>.p (Wn 6 1)
 |11=>.p (Wy 1 true)
 |13=>.p (Wn 6 0)
 |14=>.p (Wy 2 false)
 |16=>.mp 0
 |17=>.mp 0
 |_=>.junk
def wT0:yL Dv:=[.p .map0,.junk,.junk,.junk,.junk,.junk,.junk,.junk,.junk,.junk,.junk,.junk,.junk]
def sel(b:Bool)(q:Pl×Pl):yL (Pl×Pl):=if b then[q] else[]
def wX(X:Nat->Bool):yL (Pl×Pl):=sel (X 3) (Wn 1 1,Wy 1 false)++(sel (X 6) (Wn 5 1,Wy 2 false)++(sel (X 9) (Wn 5 0,Wy 1 true)++(sel (X 12) (Wn 6 1,Wy 1 true)++sel (X 15) (Wn 6 0,Wy 2 false))))
theorem Zk9(b:Bool)(q:Pl×Pl):(sel b q).Sublist [q]:=by
 cases b
 ·exact List.nil_sublist _
 ·exact List.Sublist.refl _
theorem ZJx(X:Nat->Bool):(wX X).Sublist wkv:=(Zk9 _ _).append ((Zk9 _ _).append ((Zk9 _ _).append ((Zk9 _ _).append (Zk9 _ _))))
theorem ZCX:(wkv.map (·.1)).Nodup:=by
 simp[wkv,Wn]
def ZHv(X:Nat->Bool)(H:yL Ent):Prop:=(X 0=true/\∃l,H=[.map 125 l]/\l.Perm (wX X))\/(X 0=false/\H=[]/\wX X=[])
theorem ZKD:∀q,q∈wkv->fitP yb 20 40 q.1:=by
 have h:ZiR yb 40 (.arr 2 (.int .i64))=true:=by kernel_rfl
 intro q hq;have k:=λa b:Int=>Q6 h ([a,b]:yL Int);simp only[wkv,yax,List.not_mem_nil,or_false] at hq;rcases hq with rfl|rfl|rfl|rfl|rfl
 ·exact k 1 1
 ·exact k 5 1
 ·exact k 5 0
 ·exact k 6 1
 ·exact k 6 0
theorem ZK7{q:Pl×Pl}{l A B:yL (Pl×Pl)}(hq:q∈wkv)(hp:l.Perm (A++B))(hs:(A++q::B).Sublist wkv):∃m,Ve yb 40 l/\Vd l q.1 q.2 m/\m.Perm (A++q::B):=by
 obtain⟨m,hm⟩:=Zpx q.1 q.2 l;have nd:((A++q::B).map (·.1)).Nodup:=ZCX.sublist (hs.map _);have nd0:((q::(A++B)).map (λx:Pl×Pl=>x.1)).Nodup:=(List.Perm.nodup_iff (List.Perm.map (λx:Pl×Pl=>x.1) (List.perm_middle (a:=q) (l₁:=A) (l₂:=B)))).1 nd;have nd1:(q.1::(A++B).map (λx:Pl×Pl=>x.1)).Nodup:=nd0;have nd2:=List.nodup_cons.1 nd1;have ndl:(l.map (·.1)).Nodup:=(hp.map _).nodup_iff.2 nd2.2;refine⟨m,λx hx=>ZKD x (hs.subset ?_),hm, ?_⟩
 ·have:=hp.mem_iff.1 hx;simp only[ybo,yax] at this ⊢;rcases this with h|h
  ·exact .inl h
  ·exact .inr (.inr h)
 ·have e:=Zfs ndl hm;rw[ZjM (λx hx ex=>nd2.1 (by rw[<-ex];exact List.mem_map.2 ⟨x,hp.mem_iff.1 hx,rfl⟩))] at e;exact e.trans ((List.Perm.cons _ hp).trans List.perm_middle.symm)
theorem ZBz:Zbp.size=18:=by kernel_rfl
theorem wu:∀i j,i < Zbp.size->j < Zbp.size->Xu Zbp.toList i≠none->Xu Zbp.toList i=Xu Zbp.toList j->i=j:=by
 rw[ZBz];intro i j hi hj;have h:((yr 18).all λi=>(yr 18).all λj=>Xu Zbp.toList i==none || !(Xu Zbp.toList i==Xu Zbp.toList j) || decide (i=j))=true:=by kernel_rfl
 have h1:=yba.1 (yba.1 h i (List.mem_range.2 hi)) j (List.mem_range.2 hj);intro h2 h3;rw[h3] at h2;simp only[ycd,yP,yT,Bool.not_eq_true',beq_eq_false_iff_ne] at h1;rcases h1 with(h1|h1)|h1
 ·exact absurd (h3.symm.trans h1) h2
 ·exact absurd h3 h1
 ·exact h1
noncomputable def wTs(X:Nat->Bool):yL Dv:=tsX Zbp.size (Xu Zbp.toList) wD wT0 X
theorem ZtK{X:Nat->Bool}{j t:Nat}(hj:j < 18)(hX:X j=true)(hd:Xu Zbp.toList j=some t)(ht:t < 13):(wTs X)[t]? =some (wD j):=by
 unfold wTs;rw[QZ (by exact ht),V6 wu (by rw[ZBz];exact hj) hX hd]
theorem ZBA{ts:yL Dv}{t:Nat}{d:Dv}(h:ts[t]? =some d):ts.getD t .junk=d:=by
 rw[ycz,h];rfl
noncomputable def wop(i:Nat):Oper:=Zbp.getD i default
theorem ZJy{i:Nat}{o:Oper}(h:Zbp[i]? =some o):o=wop i:=by
 unfold wop;rw[yda,h];rfl
noncomputable def ZxK(i e:Nat):Bool:=(wop i).after.any λx=>x.on==e&&Region.binds .any x
theorem Zla{X:Nat->Bool}{i e:Nat}(he:ZxK i e=true)(h:∀x,x∈(wop i).after->Region.binds .any x=true->X x.on=true):X e=true:=by
 unfold ZxK at he;obtain⟨x,hx⟩:=Array.any_eq_true'.1 he;obtain⟨x1,x2⟩:=hx;simp only[yj,yT] at x2;rw[<-x2.1];exact h x x1 x2.2
theorem ZJz{ts:yL Dv}{i a b:Nat}{k v:Pl}{l m:yL (Pl×Pl)}(ho:(wop i).op=.insert 125 (.tmp 1) (.tmp a) (.tmp b))(hg:(wop i).guard=none)(hd:(wop i).dst=none)(hv:v.soft=v)(h1:ts[1]? =some (.mp 0))(h2:ts[a]? =some (.p k))(h3:ts[b]? =some (.p v)):
 evG yb Zbp (wop i) ts [.map 125 l] [.kvs m]=some ([fitP yb 20 40 k,Ve yb 40 l,Vd l k v m],.junk,[.map 125 m],[]):=by
 have a1:Zn yb ts 125 (.tmp 1)=.mp 0:=ZBA h1;have a2:Zn yb ts 40 (.tmp a)=.p k:=ZBA h2;have a3:Zn yb ts 123 (.tmp b)=.p v:=ZBA h3;have u:yb.underlying 125=some (.map 40 123):=by kernel_rfl
 have kt:ZeH yb 40=true:=by kernel_rfl
 have e1:evN yb (wop i) ts [.kvs m]=none:=by unfold evN;rw[ho]
 have e2:evR yb (wop i) ts [.map 125 l] [.kvs m]=none:=by unfold evR;rw[ho]
 have e3:evE yb (wop i) ts [.map 125 l] [.kvs m]=some ([fitP yb 20 40 k,Ve yb 40 l,Vd l k v m],.junk,[.map 125 m],[]):=by
  unfold evE;rw[ho];dsimp only;rw[u,a1];dsimp only;rw[a2,a3];dsimp only[Dv.flat,ybd];rw[yW kt,hv];rfl
 unfold evG;rw[hg];dsimp only;unfold Zdz;rw[e1];dsimp only;rw[e2];dsimp only;rw[e3];rfl
theorem Yr{X:Nat->Bool}{i k:Nat}(h:k≠i)(q:Pl×Pl):sel (X k || decide (k=i)) q=sel (X k) q:=by
 rw[yZ h,Bool.or_false]
theorem Zqn{X:Nat->Bool}{i:Nat}(q:Pl×Pl):sel (X i || decide (i=i)) q=[q]:=by
 rw[yY rfl,Bool.or_true];rfl
theorem ZE7{X:Nat->Bool}{i:Nat}(h3:3≠i)(h6:6≠i)(h9:9≠i)(h12:12≠i)(h15:15≠i):wX (λj=>X j || decide (j=i))=wX X:=by
 unfold wX;rw[Yr h3,Yr h6,Yr h9,Yr h12,Yr h15]
def Zgd(i:Nat):Prop:=∀(X:Nat->Bool)(H:yL Ent),X i=false->(∀e,e∈(wop i).after->Region.binds .any e=true->X e.on=true)->ZpD Zbp X->ZHv X H->
 ∃hs C hs' H2,AllP C/\evG yb Zbp (wop i) (wTs X) H hs=some (C,wD i,H2,hs')/\ZHv (λj=>X j || decide (j=i)) H2
theorem ZmA{i:Nat}{hs:yL Hint}(h0:0≠i)(h3:3≠i)(h6:6≠i)(h9:9≠i)(h12:12≠i)(h15:15≠i)(h:∀X H,X i=false->(∀e,e∈(wop i).after->Region.binds .any e=true->X e.on=true)->evG yb Zbp (wop i) (wTs X) H hs=some ([],wD i,H,[])):Zgd i:=by
 intro X H hX he hc hi;refine⟨hs,[],[],H,zP,h X H hX he, ?_⟩;have h00:(X 0 || decide (0=i))=X 0:=by rw[yZ h0,Bool.or_false]
 unfold ZHv;rw[ZE7 h3 h6 h9 h12 h15];rcases hi with⟨a,l,b,c⟩|⟨a,b,c⟩
 ·exact .inl ⟨h00.trans a,l,b,c⟩
 ·exact .inr ⟨h00.trans a,b,c⟩
theorem V9{i:Nat}(h0:0≠i)(h3:3≠i)(h6:6≠i)(h9:9≠i)(h12:12≠i)(h15:15≠i)(h:∀ts H,evG yb Zbp (wop i) ts H []=some ([],wD i,H,[])):Zgd i:=
 ZmA (hs:=[]) h0 h3 h6 h9 h12 h15 λX H _ _=>h _ H
theorem ZE8:Zgd 0:=by
 intro X H hX he hc hi;rcases hi with⟨a,_⟩|⟨a,b,c⟩
 ·rw[hX] at a;cases a
 subst b;refine⟨[],[],[],[.map 125 []],zP,by kernel_rfl,.inl ⟨by simp,[],rfl, ?_⟩⟩;rw[ZE7 (by decide) (by decide) (by decide) (by decide) (by decide),c]
theorem Zg3{i a b:Nat}{q:Pl×Pl}(ho:(wop i).op=.insert 125 (.tmp 1) (.tmp a) (.tmp b))(hg:(wop i).guard=none)(hd:(wop i).dst=none)(hv:q.2.soft=q.2)(hq:q∈wkv)(hD:wD i=.junk)(h0:0≠i)
 (e0:ZxK i 0=true) (j k:Nat) (e1:ZxK i j=true) (e2:ZxK i k=true) (hj:j < 18) (hk:k < 18) (ha:a < 13) (hb:b < 13) (d0:Xu Zbp.toList 0=some 1) (dj:Xu Zbp.toList j=some a) (dk:Xu Zbp.toList k=some b)
 (vj:wD j=.p q.1) (vk:wD k=.p q.2) (A B:(Nat->Bool)->yL (Pl×Pl)) (f1:∀X,X i=false->wX X=A X++B X) (f2:∀X,wX (λj=>X j || decide (j=i))=A X++q::B X):Zgd i:=by
 intro X H hX he hc hi;have x0:=Zla e0 he;rcases hi with⟨_,l,rfl,hp⟩|⟨a,_⟩
 ·rw[f1 X hX] at hp;have hs:=ZJx (λj=>X j || decide (j=i));rw[f2] at hs;obtain⟨m,m1,m2,m3⟩:=ZK7 hq hp hs;refine⟨[.kvs m],[fitP yb 20 40 q.1,Ve yb 40 l,Vd l q.1 q.2 m],[],[.map 125 m],⟨ZKD q hq,m1,m2,ytt⟩, ?_,.inl ⟨?_,m,rfl,by rw[f2];exact m3⟩⟩
  ·rw[hD];refine ZJz ho hg hd hv ?_ ?_ ?_
   ·exact(ZtK (by omega) x0 d0 (by omega)).trans rfl
   ·exact(ZtK hj (Zla e1 he) dj ha).trans (by rw[vj])
   ·exact(ZtK hk (Zla e2 he) dk hb).trans (by rw[vk])
  ·show(X 0 || decide (0=i))=true;rw[x0];rfl
 ·rw[x0] at a;cases a
theorem ZJA:Zgd 3:=Zg3 (a:=2) (b:=3) (q:=(Wn 1 1,Wy 1 false)) (by kernel_rfl) (by kernel_rfl) (by kernel_rfl) (by kernel_rfl) (by simp[wkv]) rfl (by decide) (by kernel_rfl) 1 2 (by kernel_rfl) (by kernel_rfl) (by decide) (by decide) (by decide) (by decide) (by kernel_rfl) (by kernel_rfl) (by kernel_rfl) rfl rfl
 (λX=>[]) (λX=>sel (X 6) (Wn 5 1,Wy 2 false)++(sel (X 9) (Wn 5 0,Wy 1 true)++(sel (X 12) (Wn 6 1,Wy 1 true)++sel (X 15) (Wn 6 0,Wy 2 false))))
 (λX h=>by unfold wX;rw[h];rfl) (λX=>by unfold wX;rw[Zqn,Yr (by decide),Yr (by decide),Yr (by decide),Yr (by decide)];rfl)
theorem ZJB:Zgd 6:=Zg3 (a:=4) (b:=5) (q:=(Wn 5 1,Wy 2 false)) (by kernel_rfl) (by kernel_rfl) (by kernel_rfl) (by kernel_rfl) (by simp[wkv]) rfl (by decide) (by kernel_rfl) 4 5 (by kernel_rfl) (by kernel_rfl) (by decide) (by decide) (by decide) (by decide) (by kernel_rfl) (by kernel_rfl) (by kernel_rfl) rfl rfl
 (λX=>sel (X 3) (Wn 1 1,Wy 1 false)) (λX=>(sel (X 9) (Wn 5 0,Wy 1 true)++(sel (X 12) (Wn 6 1,Wy 1 true)++sel (X 15) (Wn 6 0,Wy 2 false))))
 (λX h=>by unfold wX;rw[h];rfl) (λX=>by unfold wX;rw[Zqn,Yr (by decide),Yr (by decide),Yr (by decide),Yr (by decide)];rfl)
theorem ZJC:Zgd 9:=Zg3 (a:=6) (b:=7) (q:=(Wn 5 0,Wy 1 true)) (by kernel_rfl) (by kernel_rfl) (by kernel_rfl) (by kernel_rfl) (by simp[wkv]) rfl (by decide) (by kernel_rfl) 7 8 (by kernel_rfl) (by kernel_rfl) (by decide) (by decide) (by decide) (by decide) (by kernel_rfl) (by kernel_rfl) (by kernel_rfl) rfl rfl
 (λX=>sel (X 3) (Wn 1 1,Wy 1 false)++sel (X 6) (Wn 5 1,Wy 2 false)) (λX=>((sel (X 12) (Wn 6 1,Wy 1 true)++sel (X 15) (Wn 6 0,Wy 2 false))))
 (λX h=>by unfold wX;rw[h,yac];rfl) (λX=>by unfold wX;rw[Zqn,Yr (by decide),Yr (by decide),Yr (by decide),Yr (by decide),yac];rfl)
theorem ZHw:Zgd 12:=Zg3 (a:=8) (b:=9) (q:=(Wn 6 1,Wy 1 true)) (by kernel_rfl) (by kernel_rfl) (by kernel_rfl) (by kernel_rfl) (by simp[wkv]) rfl (by decide) (by kernel_rfl) 10 11 (by kernel_rfl) (by kernel_rfl) (by decide) (by decide) (by decide) (by decide) (by kernel_rfl) (by kernel_rfl) (by kernel_rfl) rfl rfl
 (λX=>sel (X 3) (Wn 1 1,Wy 1 false)++(sel (X 6) (Wn 5 1,Wy 2 false)++sel (X 9) (Wn 5 0,Wy 1 true))) (λX=>sel (X 15) (Wn 6 0,Wy 2 false))
 (λX h=>by unfold wX;rw[h,yac,yac];rfl) (λX=>by unfold wX;rw[Zqn,Yr (by decide),Yr (by decide),Yr (by decide),Yr (by decide),yac,yac];rfl)
theorem ZHx:Zgd 15:=Zg3 (a:=10) (b:=11) (q:=(Wn 6 0,Wy 2 false)) (by kernel_rfl) (by kernel_rfl) (by kernel_rfl) (by kernel_rfl) (by simp[wkv]) rfl (by decide) (by kernel_rfl) 13 14 (by kernel_rfl) (by kernel_rfl) (by decide) (by decide) (by decide) (by decide) (by kernel_rfl) (by kernel_rfl) (by kernel_rfl) rfl rfl
 (λX=>sel (X 3) (Wn 1 1,Wy 1 false)++(sel (X 6) (Wn 5 1,Wy 2 false)++(sel (X 9) (Wn 5 0,Wy 1 true)++sel (X 12) (Wn 6 1,Wy 1 true)))) (λX=>[])
 (λX h=>by unfold wX;rw[h,yac,yac,yac];rfl) (λX=>by unfold wX;rw[Zqn,Yr (by decide),Yr (by decide),Yr (by decide),Yr (by decide),yac,yac,yac])
theorem ZIk{ts:yL Dv}{i s:Nat}{d:Dv}{H:yL Ent}(ho:(wop i).op=.move (.tmp s)\/(wop i).op=.assign (.tmp s))(hg:(wop i).guard=none)(h1:ts[s]? =some d):evG yb Zbp (wop i) ts H [.raw]=some ([],d,H,[]):=by
 have a1:Zn yb ts (wop i).type (.tmp s)=d:=ZBA h1
 have e1:evN yb (wop i) ts [.raw]=some ([],d,[]):=by
  unfold evN;rcases ho with ho|ho
  ·rw[ho];dsimp only;rw[a1]
  ·rw[ho];dsimp only;rw[a1]
 unfold evG;rw[hg];dsimp only;unfold Zdz;rw[e1];rfl
theorem ZHy:Zgd 16:=ZmA (by decide) (by decide) (by decide) (by decide) (by decide) (by decide) λX H hX he=>ZIk (s:=1) (.inl (by kernel_rfl)) (by kernel_rfl) (ZtK (j:=0) (by decide) (Zla (by kernel_rfl) he) (by kernel_rfl) (by decide))
theorem ZHz:Zgd 17:=ZmA (by decide) (by decide) (by decide) (by decide) (by decide) (by decide) λX H hX he=>ZIk (s:=12) (.inr (by kernel_rfl)) (by kernel_rfl) (ZtK (j:=16) (by decide) (Zla (by kernel_rfl) he) (by kernel_rfl) (by decide))
theorem ZCY:∀i,i < 18->Zgd i
 |0,_=>ZE8
 |1,_=>V9 (by decide) (by decide) (by decide) (by decide) (by decide) (by decide) λts H=>by kernel_rfl
 |2,_=>V9 (by decide) (by decide) (by decide) (by decide) (by decide) (by decide) λts H=>by kernel_rfl
 |3,_=>ZJA
 |4,_=>V9 (by decide) (by decide) (by decide) (by decide) (by decide) (by decide) λts H=>by kernel_rfl
 |5,_=>V9 (by decide) (by decide) (by decide) (by decide) (by decide) (by decide) λts H=>by kernel_rfl
 |6,_=>ZJB
 |7,_=>V9 (by decide) (by decide) (by decide) (by decide) (by decide) (by decide) λts H=>by kernel_rfl
 |8,_=>V9 (by decide) (by decide) (by decide) (by decide) (by decide) (by decide) λts H=>by kernel_rfl
 |9,_=>ZJC
 |10,_=>V9 (by decide) (by decide) (by decide) (by decide) (by decide) (by decide) λts H=>by kernel_rfl
 |11,_=>V9 (by decide) (by decide) (by decide) (by decide) (by decide) (by decide) λts H=>by kernel_rfl
 |12,_=>ZHw
 |13,_=>V9 (by decide) (by decide) (by decide) (by decide) (by decide) (by decide) λts H=>by kernel_rfl
 |14,_=>V9 (by decide) (by decide) (by decide) (by decide) (by decide) (by decide) λts H=>by kernel_rfl
 |15,_=>ZHx
 |16,_=>ZHy
 |17,_=>ZHz
 |_+18,h=>absurd h (by omega)
def wT1:yL Dv:=[.mp 0,.junk,.junk,.junk,.junk,.junk,.junk,.junk,.junk,.junk,.junk,.junk,.junk]
theorem ZE9:XD yb (.region 1 Zbp true) wT0 [] .normal wT1 [.map 125 wkv]:=by
 intro σ a ok hH yM;refine ZE6 (by kernel_rfl) ok yM wD ZHv wu (by kernel_rfl) (.inr ⟨rfl,hH,rfl⟩) (λX i o H ho hX he hc hi=> ?_) _ (λX a' σ' hX hi to ok' hrep'=>⟨rfl, ?_⟩)
 ·have hlt:i < 18:=by rw[<-ZBz];exact(ycr.1 ho).1
  have e:=ZJy ho;subst e;exact ZCY i hlt X H hX he hc hi
 ·rw[ZBz] at hX;rcases hi with⟨_,l,hl,hp⟩|⟨h,_⟩
  ·have e:wX X=wkv:=by
    unfold wX;rw[hX 3 (by decide),hX 6 (by decide),hX 9 (by decide),hX 12 (by decide),hX 15 (by decide)];rfl
   rw[e] at hp;obtain⟨to2,ok2⟩:=ZiO ok' (H':=[.map 125 wkv]) (by rw[hl];exact .cons (.perm hp) .nil);refine⟨{ σ' with H:=[.map 125 wkv]},rfl,rfl,to.trans to2,ok2, ?_⟩;have r2:=hrep'.to to2.leaf;refine⟨r2.size.trans (by rw[Xi];rfl),λi d hd=> ?_,r2.defers⟩
   match i,hd with
   |0,hd=>
    cases hd
    exact r2.at_ 0 _ (ZtK (j:=17) (by decide) (hX 17 (by decide)) (by kernel_rfl) (by decide))
   |i+1,hd=>
    have:d=.junk:=by
     have h9:(yv 12 Dv.junk)[i]? =some d:=hd;exact List.eq_of_mem_replicate (ybc h9)
    rw[this];exact YZ
  ·rw[hX 0 (by decide)] at h;cases h
theorem ZFa:Con yb 50 [] [] (.mp 0) [.map 125 wkv]:=by
 obtain⟨fn,hf,hb⟩:∃fn,yb.funcs[50]? =some fn/\fn.body=some (.seq (.region 0 wO0 false) (.seq (.region 1 Zbp true) .ret))/\fn.ntmps=13/\fn.results= #[.tmp 0]:=by
  have h:(yb.funcs[50]?).map (λfn=>(fn.body,fn.ntmps,fn.results))=some (some (.seq (.region 0 wO0 false) (.seq (.region 1 Zbp true) .ret)),13, #[.tmp 0]):=by kernel_rfl
  obtain⟨fn,h1,h2⟩:=yp.1 h;simp only[yl] at h2;exact⟨fn,h1,h2.1,h2.2.1,h2.2.2⟩
 have r0:XD yb (.region 0 wO0 false) (yv 13 .junk) [] .normal wT0 []:=ZjQ (hs:=[.raw]) (C:=[]) (hs':=[]) (by kernel_rfl) trivial;refine ZdO (ts':=wT1) (H1:=[.map 125 wkv]) (ex:=.ret) (keep:=[0]) (hs:=[]) (C:=[]) hf hb.1 ?_ (.inl rfl) ?_ trivial
 ·rw[hb.2.1];exact Zk6 r0 (Zk6 ZE9 ZxA)
 ·unfold fin;rw[hb.2.2];rfl
theorem ZCZ:Con yb 50 [] [.gone] (.mp 0) [.map 125 wkv]:=by
 intro σ vs ok hH hvs;let σ0:Sg:={ σ with m:=[],H:=[]}
 have nom:∀(i:Nat)x,σ0.m[i]? =some x->False:=λi x h=>by
  have:([]:yL (yO Nat))[i]? =some x:=h;simp at this
 have ok0:Ok σ0:={ len:=rfl,inj:=λi j b h=>(nom _ _ h).elim,lt:=λi b h=>(nom _ _ h).elim,ent:=λi e a _ h=>(nom _ _ h).elim,new:=ok.new,own:=λi b h=>(nom _ _ h).elim}
 have hno:∀(id:Nat)e,σ.H[id]? =some e->e=.gone:=λid e h=>by
  rw[hH] at h
  match id,h with
  |0,h=>cases h;rfl
  |id+1,h=>cases h
 refine Calls.mono (ZFa σ0 vs ok0 rfl hvs) ?_;rintro e w' ⟨v,σ',rfl,rfl,hH',to,ok',hv⟩;refine⟨v,σ',rfl,rfl,hH',⟨⟨λb o x h1 h2=> ?_, ?_, ?_, ?_, ?_⟩,to.F,to.B,to.os,to.tape,to.output,to.size,λb hb hn=>to.block b hb (λid h=>nom _ _ h),λid b h=> ?_, ?_⟩,ok',hv⟩
 ·exact to.leaf.cells b o x h1 ⟨h2.1,λid e h=>(nom _ _ h).elim⟩
 ·rintro id b h ⟨d,st,e⟩;cases hno id _ e
 ·rintro id s len A c ⟨e,ys,h,_⟩;cases hno id _ h
 ·rintro id b h ⟨q,kvs,e⟩;cases hno id _ e
 ·intro id v s st e d h;cases hno id _ h
 ·rcases to.same id b h with h|h
  ·exact(nom _ _ h).elim
  ·exact .inr h
 ·rw[ok.len,ok'.len,hH,hH'];exact ym _
theorem ZHA{M:Ty.dens []->yO (XSh.sum [⟨.ret,[(0,.mp 0)],[.map 125 (.arr 2 (.int .i64)) (.st [.int .i64,.bool])],[Zj1 (.arr 2 (.int .i64)) (.st [.int .i64,.bool])]⟩])}
 (h:∀x,M x=some ([([1,1],(1,false)),([5,1],(2,false)),([5,0],(1,true)),([6,1],(1,true)),([6,0],(2,false))]:yL (yL Int×Int×Bool))):
 Fs.Ok (⟨50,[],[.gone],[],[⟨.ret,[(0,.mp 0)],[.map 125 (.arr 2 (.int .i64)) (.st [.int .i64,.bool])],[Zj1 (.arr 2 (.int .i64)) (.st [.int .i64,.bool])]⟩],M⟩:Fs yb):=by
 intro v o hM;have hM:=(h v).symm.trans hM;cases hM;refine⟨[],[],[.gone],rfl,rfl,λx vs s' hs hf=> ?_⟩;obtain⟨rfl,rfl⟩:=hs;cases hf;exact⟨_,rfl,ZCZ⟩
end Go.Proofs.YtpgpjjjoglafdaaGreat
end
section
namespace Go.Proofs.YtpgpjjjoglafdaaGreat
open Go.Ev Go.RowKit Go.Lib
theorem Zz7(w:World):Calls yb 178 #[.slice none 0 0,.int .i64 0] w λe w'=>e=.returned (.slice none 0 0)/\w'=w:=by
 go_enter Tryz.func178,Tryz.ntmps178
 go_wp2
 go_ret
 exact⟨rfl,rfl⟩
theorem ZC0(n:Nat)(w:World)(h0:0 < n)(hn:n<=Zk):Calls yb 178 #[.slice none 0 0,.int .i64 n] w λe w'=>e=.returned (.slice (some ⟨w.heap.size,0,none⟩) 0 (grownCap w n 0 5))/\
 w'=w.drew.alloc (.cells (Builtin.zeroCells #[.int .u8 0] n++Builtin.zeroCells #[.int .u8 0] (grownCap w n 0 5 - n)) 5):=by
 have hb:n<=140737488355328:=hn;have h1:¬((n:Int) < 0):=by omega
 have h3:wrap64 ((n:Int) - ((0:Int) - (0:Int)))=(n:Int):=by unfold wrap64;omega
 have h3':wrap64 ((n:Int) - 0)=(n:Int):=by unfold wrap64;omega
 have h3'':wrap64 (n:Int)=(n:Int):=by unfold wrap64;omega
 have h4:(n:Int) > 0:=by omega
 have hi:∃i,yb.info? 5=some i/\i.zero=some (.int .u8 0)/\i.size=1/\i.bytes=1:=by
  have h:(yb.info? 5).map (λi=>(i.zero,i.size,i.bytes))=some (some (.int .u8 0),1,1):=by kernel_rfl
  obtain⟨i,h1,h2⟩:=yp.1 h;simp only[yl] at h2;exact⟨i,h1,h2.1,h2.2.1,h2.2.2⟩
 obtain⟨i,hi1,hi2,hi3,hi4⟩:=hi
 have hrz:∀ty,(Builtin.append_ #[118,3] ty #[.slice none 0 0,.int .i64 n]).run yb w=
  .ok (.slice (some ⟨w.heap.size,0,none⟩) n (grownCap w n 0 5)) (w.drew.alloc (.cells (Builtin.zeroCells #[.int .u8 0] n++Builtin.zeroCells #[.int .u8 0] (grownCap w n 0 5 - n)) 5)):=λty=>by
  have h:=Lib.run_append_grow_zeros (P:=yb) w 118 3 ty 5 i (.int .u8 0) .i64 .i64 Tryz.underlying118 Tryz.underlying3 hi1 hi2 none 0 0 [] (by rw[hi3];simp[Builtin.firstCells]) n h0 (by omega) (by omega) (by omega)
   (by rw[hi4];omega) (by rw[ybf];exact growslice_fits h0 (by rw[hi4];omega))
  simpa[Value.cells] using h
 obtain⟨G,hG⟩:∃G,G=grownCap w n 0 5:=⟨_,rfl⟩;have hGn:=grownCap_ge w n 0 5;have hG63:=grownCap_le_maxLen w n 0 5 (by unfold maxLen;omega);unfold maxLen at hG63;rw[<-hG] at hrz hGn hG63 ⊢;clear hG
 go_enter Tryz.func178,Tryz.ntmps178
 go_wp2_with (at_builtin;refine Lib.wpList_append_run _ rfl _ _ _ _ rfl _ _ rfl rfl _ _ (hrz _) ?_)
 all_goals (go_ret;exact⟨rfl,rfl⟩)
theorem ZFb(n:Nat)(hn:n<=Zk):Con yb 178 [.p (.sl (some false) 1 []),.p (.int .i64 (n:Int))] [] (.own 0 none 1 []) [.log 1 5 []]:=by
 intro σ vs ok hH hvs;simp only[repVs] at hvs;obtain⟨v,_,rfl,hv,v2,_,rfl,hv2,rfl⟩:=hvs;obtain rfl:=Zpm hv
 obtain rfl:v2=.int .i64 n:=by
  have:=hv2.2 rfl;simpa[yH,repC] using this
 have hm:σ.m=[]:=List.eq_nil_of_length_eq_zero (by rw[ok.len,hH];rfl);rcases yci n with rfl|h0
 ·refine(Zz7 σ.w).mono λe w'⟨he,hw⟩=> ?_;subst he;subst hw;obtain⟨to,ok'⟩:=X2 (σ':={ σ with m:=σ.m++[none],H:=σ.H++[.log 1 5 []]}) ok rfl rfl rfl rfl (World.grownBy.refl σ.w none) (.inl rfl) (λ_=>.inl ⟨rfl,rfl⟩);refine⟨_,{ σ with m:=σ.m++[none],H:=σ.H++[.log 1 5 []]},rfl,rfl,by simp[hH],to,ok', ?_⟩;rw[Zd rfl];simp only[yH];exact⟨λ_ hx=>(by cases hx),none,0,rfl,ym _,by simp[maxLen],Z6 _,λ_=>rfl,λh=>absurd rfl h,5,[],by simp[hH],ym _,λ_=>.inl ⟨by simp[hm],rfl,rfl⟩⟩
 ·refine(ZC0 n σ.w h0 hn).mono λe w'⟨he,hw⟩=> ?_;subst he;subst hw;have hge:=grownCap_ge σ.w n 0 5;have hcm:=grownCap_le_maxLen σ.w n 0 5 (by have:n<=140737488355328:=hn;unfold maxLen;omega)
  have hsz:(Builtin.zeroCells #[.int .u8 0] n++Builtin.zeroCells #[.int .u8 0] (grownCap σ.w n 0 5 - n):Array yh).size=grownCap σ.w n 0 5*1:=by
   simp only[Array.size_append,size_zeroCells];simp;omega
  let cs:Array yh:=Builtin.zeroCells #[.int .u8 0] n++Builtin.zeroCells #[.int .u8 0] (grownCap σ.w n 0 5 - n);let σ':Sg:={ σ with m:=σ.m++[some σ.w.heap.size],H:=σ.H++[.log 1 5 []],w:=σ.w.drew.alloc (.cells cs 5)};have zV:σ'.w.heap[σ.w.heap.size]? =some (.cells cs 5 (0,0)):=heap_alloc_new σ.w.drew _
  obtain⟨to,ok'⟩:=X2 (σ':=σ') ok rfl rfl rfl rfl (Y2 σ.w (.cells cs 5) none) (.inr ⟨_,rfl,ym _,by simp[σ']⟩)
   (λleaf=>.inr ⟨σ.w.heap.size,_,grownCap σ.w n 0 5,rfl,zV,hsz,Nat.zero_le _,hcm,λ_ hx=>(by cases hx),by simp[repCs]⟩)
  refine⟨_,σ',rfl,rfl,by simp[σ',hH],to,ok', ?_⟩;rw[Zd rfl];simp only[yH];exact⟨λ_ hx=>(by cases hx),_,_,rfl,Nat.zero_le _,hcm,Z6 _,λh=>(by cases h),λh=>absurd rfl h,5,[],by simp[σ',hH],ym _,λ_=>.inr ⟨_,_,by simp[σ',hm],rfl,zV,hsz⟩⟩
end Go.Proofs.YtpgpjjjoglafdaaGreat
end
section
set_option maxRecDepth 4000
namespace Go.Proofs.YtpgpjjjoglafdaaGreat
open Go Go.Ev
noncomputable section
abbrev yI:Ty:=.int .i64
def Xj(F:Nat)(a0:(yL yU)):yO ((yL yU)):=
 if(apB 0 a0.length 8)=true then
  some a0
 else
 none
def Zvp(F:Nat):Fs yb:=⟨93,[.sl true .u64],[],[(.sl .u64)],(zN (.sl .u64)),λx=>Xj F x⟩
def ZxL:Fs yb:=Zvp yD
theorem Zvq:ZxL.Ok:=fnO { own:=[5,7],still:=[2]} [] [] trivial
def ZiU(F:Nat):yO ((yL yU)):=
 some []
def Zoi(F:Nat):Fs yb:=⟨93,[.nil .u64],[],[],(zN (.sl .u64)),λx=>ZiU F⟩
def Zqo:Fs yb:=Zoi yD
theorem Zoj:Zqo.Ok:=fnO { own:=[5,7],still:=[2]} [] [] trivial
def Zqp(F:Nat):Fs yb:=⟨93,[.v (.sl .u64)],[],[(.sl .u64)],(zN (.sl .u64)),λx=>Xj F x⟩
def Qa:Fs yb:=Zqp yD
theorem Zab:Qa.Ok:=Zvh (t:=.u64) (xs:=(zN (.sl .u64))) (MA:=λ(x:(yL yU))=>Xj yD x) (MB:=λ_=>ZiU yD) Zvq Zoj rfl
abbrev Zo:Ty:=(.st [(.sl .u64),yI,yI,.u64])
abbrev Branch:Type:=((yL yU)×Int×Int×yU)
abbrev Z0:Ty:=(.st [(.sl Zo)])
abbrev Z3:Type:=(yL Branch)
def Zim(F:Nat)(a0:(yL yU)):yO (Z3):=
 (Xj F a0).bind λo1=>
 some [(o1,0,0,0)]
def ZxM(F:Nat):Fs yb:=⟨71,[.v (.sl .u64)],[],[(.sl .u64)],(zN Z0),λx=>Zim F x⟩
def Zqq:Fs yb:=ZxM yD
theorem ZxN:Zqq.Ok:=fnO { still:=[3]} [] [Qa] ⟨Zab,ytt⟩
def W5(F:Nat)(a0:yU):yO (Z3):=
 (Zim F [a0]).bind λo2=>
 some o2
def Zg4(F:Nat):Fs yb:=⟨24,[.v .u64],[],[.u64],(zN Z0),λx=>W5 F x⟩
def Zj4:Fs yb:=Zg4 yD
theorem Zg5:Zj4.Ok:=fnO { still:=[4]} [] [Zqq] ⟨ZxN,ytt⟩
def VL(F:Nat)(a0:Int):yO (Bool):=
 if(a0==0)=true then
  some true
 else
 some (a0==1)
def Zqr(F:Nat):Fs yb:=⟨32,[.v yI],[],[yI],(zN .bool),λx=>VL F x⟩
def ZiV:Fs yb:=Zqr yD
theorem Zqs:ZiV.Ok:=fnO { still:=[2]} [] [] trivial
def ZnL:ByteArray:=⟨#[0,1,2,2,3,3,3,3,4,4,4,4,4,4,4,4,5,5,5,5,5,5,5,5,5,5,5,5,5,5,5,5,6,6,6,6,6,6,6,6,6,6,6,6,6,6,6,6,6,6,6,6,6,6,6,6,6,6,6,6,6,6,6,6,7,7,7,7,7,7,7,7,7,7,7,7,7,7,7,7,7,7,7,7,7,7,7,7,7,7,7,7,7,7,7,7,7,7,7,7,7,7,7,7,7,7,7,7,7,7,7,7,7,7,7,7,7,7,7,7,7,7,7,7,7,7,7,7,8,8,8,8,8,8,8,8,8,8,8,8,8,8,8,8,8,8,8,8,8,8,8,8,8,8,8,8,8,8,8,8,8,8,8,8,8,8,8,8,8,8,8,8,8,8,8,8,8,8,8,8,8,8,8,8,8,8,8,8,8,8,8,8,8,8,8,8,8,8,8,8,8,8,8,8,8,8,8,8,8,8,8,8,8,8,8,8,8,8,8,8,8,8,8,8,8,8,8,8,8,8,8,8,8,8,8,8,8,8,8,8,8,8,8,8,8,8,8,8,8,8,8,8,8,8,8,8]⟩
def ZnM(F:Nat)(a0:yU):yO (Int):=
 if(decide (a0 >= 4294967296))=true then
  if(decide ((Zv a0 32) >= 65536))=true then
   if(decide ((Zv (Zv a0 32) 16) >= 256))=true then
    let y3:yB:=w8 ((Zv (Zv (Zv a0 32) 16) 8).toNat:Int)
    (idx (ZdB ZnL) (y3.toNat:Int)).bind λe4=>
    some (wi (56+(e4.toNat:Int)))
   else
   (idx (ZdB ZnL) ((w8 ((Zv (Zv a0 32) 16).toNat:Int)).toNat:Int)).bind λe5=>
   some (wi (48+(e5.toNat:Int)))
  else
  if(decide ((Zv a0 32) >= 256))=true then
   (idx (ZdB ZnL) ((w8 ((Zv (Zv a0 32) 8).toNat:Int)).toNat:Int)).bind λe6=>
   some (wi (40+(e6.toNat:Int)))
  else
  (idx (ZdB ZnL) ((w8 ((Zv a0 32).toNat:Int)).toNat:Int)).bind λe7=>
  some (wi (32+(e7.toNat:Int)))
 else
 if(decide (a0 >= 65536))=true then
  if(decide ((Zv a0 16) >= 256))=true then
   (idx (ZdB ZnL) ((w8 ((Zv (Zv a0 16) 8).toNat:Int)).toNat:Int)).bind λe8=>
   some (wi (24+(e8.toNat:Int)))
  else
  (idx (ZdB ZnL) ((w8 ((Zv a0 16).toNat:Int)).toNat:Int)).bind λe9=>
  some (wi (16+(e9.toNat:Int)))
 else
 if(decide (a0 >= 256))=true then
  (idx (ZdB ZnL) ((w8 ((Zv a0 8).toNat:Int)).toNat:Int)).bind λe10=>
  some (wi (8+(e10.toNat:Int)))
 else
 (idx (ZdB ZnL) ((w8 (a0.toNat:Int)).toNat:Int)).bind λe11=>
 some (wi (0+(e11.toNat:Int)))
def Zsc(F:Nat):Fs yb:=⟨183,[.v .u64],[],[.u64],(zN yI),λx=>ZnM F x⟩
def Zlb:Fs yb:=Zsc yD
theorem Zsd:Zlb.Ok:=fnO { still:=[2]} [] [] trivial
def Yb(F:Nat)(a0:yU):yO (Int):=
 (ZnM F a0).bind λo12=>
 some (wi (64 - o12))
def ZfA(F:Nat):Fs yb:=⟨173,[.v .u64],[],[.u64],(zN yI),λx=>Yb F x⟩
def ZaA:Fs yb:=ZfA yD
theorem ZfB:ZaA.Ok:=fnO { still:=[2,3]} [] [Zlb] ⟨Zsd,ytt⟩
abbrev zR:=yU×yU×yU×yU×yU×yU×yU×yU
def Vr(F:Nat)(s:(yU×zR)):yO ((yU×zR)⊕(zR)):=
 if(decide (s.2.2.2.2.2.2.2.1 >= 4294967296))=true then
  let y20:Bool:=decide ((s.2.2.2.2.2.2.2.2+s.2.2.1) >= 4294967296)
  if y20=true then
   some (.inr (s.1,s.2.1,s.2.2.1,s.2.2.2.1,s.2.2.2.2.1,s.2.2.2.2.2.1,s.2.2.2.2.2.2.1,s.2.2.2.2.2.2.2.1 - 1))
  else
  some (.inl (s.1,s.2.1,s.2.2.1,s.2.2.2.1,s.2.2.2.2.1,s.2.2.2.2.2.1,s.2.2.2.2.2.2.1,s.2.2.2.2.2.2.2.1 - 1,s.2.2.2.2.2.2.2.2+s.2.2.1))
 else
 let y21:Bool:=decide ((s.2.2.2.2.2.2.2.1*s.2.2.2.1) > ((4294967296*s.2.2.2.2.2.2.2.2)+s.2.2.2.2.2.1))
 if y21=true then
  let y22:Bool:=decide ((s.2.2.2.2.2.2.2.2+s.2.2.1) >= 4294967296)
  if y22=true then
   some (.inr (s.1,s.2.1,s.2.2.1,s.2.2.2.1,s.2.2.2.2.1,s.2.2.2.2.2.1,s.2.2.2.2.2.2.1,s.2.2.2.2.2.2.2.1 - 1))
  else
  some (.inl (s.1,s.2.1,s.2.2.1,s.2.2.2.1,s.2.2.2.2.1,s.2.2.2.2.2.1,s.2.2.2.2.2.2.1,s.2.2.2.2.2.2.2.1 - 1,s.2.2.2.2.2.2.2.2+s.2.2.1))
 else
 some (.inr (s.1,s.2.1,s.2.2.1,s.2.2.2.1,s.2.2.2.2.1,s.2.2.2.2.2.1,s.2.2.2.2.2.2.1,s.2.2.2.2.2.2.2.1))
def ZiW:Lp:=⟨[(2,.v .u64),(8,.v .u64),(9,.v .u64),(10,.v .u64),(11,.v .u64),(13,.v .u64),(14,.v .u64),(15,.v .u64),(16,.v .u64)],[],[.u64,.u64,.u64,.u64,.u64,.u64,.u64,.u64,.u64],[⟨.exit 0,[(2,.v .u64),(8,.v .u64),(9,.v .u64),(10,.v .u64),(11,.v .u64),(13,.v .u64),(14,.v .u64),(15,.v .u64)],[],[.u64,.u64,.u64,.u64,.u64,.u64,.u64,.u64]⟩],Zc (Vr yD) yD⟩
theorem ZmB:ZiW.okA yb 146 0:=ZN { still:=[6,7,34]} [] [] trivial
def Vs(F:Nat)(s:(yU×zR)):yO ((yU×zR)⊕(yU×yU×yU×yU×yU×yU)):=
 if(decide (s.2.2.2.2.2.2.2.2 >= 4294967296))=true then
  let y25:Bool:=decide ((s.2.2.2.2.2.2.1+s.2.2.1) >= 4294967296)
  if y25=true then
   some (.inr (s.1,s.2.1,s.2.2.2.2.1,s.2.2.2.2.2.1,s.2.2.2.2.2.2.2.1,s.2.2.2.2.2.2.2.2 - 1))
  else
  some (.inl (s.1,s.2.1,s.2.2.1,s.2.2.2.1,s.2.2.2.2.1,s.2.2.2.2.2.1,s.2.2.2.2.2.2.1+s.2.2.1,s.2.2.2.2.2.2.2.1,s.2.2.2.2.2.2.2.2 - 1))
 else
 let y26:Bool:=decide ((s.2.2.2.2.2.2.2.2*s.2.2.2.1) > ((4294967296*s.2.2.2.2.2.2.1)+s.2.2.2.2.1))
 if y26=true then
  let y27:Bool:=decide ((s.2.2.2.2.2.2.1+s.2.2.1) >= 4294967296)
  if y27=true then
   some (.inr (s.1,s.2.1,s.2.2.2.2.1,s.2.2.2.2.2.1,s.2.2.2.2.2.2.2.1,s.2.2.2.2.2.2.2.2 - 1))
  else
  some (.inl (s.1,s.2.1,s.2.2.1,s.2.2.2.1,s.2.2.2.2.1,s.2.2.2.2.2.1,s.2.2.2.2.2.2.1+s.2.2.1,s.2.2.2.2.2.2.2.1,s.2.2.2.2.2.2.2.2 - 1))
 else
 some (.inr (s.1,s.2.1,s.2.2.2.2.1,s.2.2.2.2.2.1,s.2.2.2.2.2.2.2.1,s.2.2.2.2.2.2.2.2))
def ZiX:Lp:=⟨[(2,.v .u64),(8,.v .u64),(9,.v .u64),(10,.v .u64),(14,.v .u64),(15,.v .u64),(16,.v .u64),(17,.v .u64),(18,.v .u64)],[],[.u64,.u64,.u64,.u64,.u64,.u64,.u64,.u64,.u64],[⟨.exit 2,[(2,.v .u64),(8,.v .u64),(14,.v .u64),(15,.v .u64),(17,.v .u64),(18,.v .u64)],[],[.u64,.u64,.u64,.u64,.u64,.u64]⟩],Zc (Vs yD) yD⟩
theorem ZmC:ZiX.okA yb 146 1:=ZN { still:=[6,7,34]} [] [] trivial
def ZdV(F:Nat)(a0:yU)(a1:yU)(a2:yU):yO ((yU×yU)):=
 if(a2==0)=true then
  none
 else
 if(decide (a2<=a0))=true then
  none
 else
 if(a0==0)=true then
  if(a2 !=0)=true then
   if(a2 !=0)=true then
    some (a1 / a2,a1 % a2)
   else
   none
  else
  none
 else
 (Yb F a2).bind λo13=>
 let y14:yU:=Zv (Vq a2 (min ((w64 o13).toNat:Int).toNat 64)) 32;let y15:yU:=(Vq a2 (min ((w64 o13).toNat:Int).toNat 64))&&&4294967295;let y16:yU:=Zv a1 (min ((64 - (w64 o13)).toNat:Int).toNat 64);let y17:yU:=(Vq a0 (min ((w64 o13).toNat:Int).toNat 64))|||y16;let y18:yU:=Zv (Vq a1 (min ((w64 o13).toNat:Int).toNat 64)) 32;let y19:yU:=(Vq a1 (min ((w64 o13).toNat:Int).toNat 64))&&&4294967295
 if(y14 !=0)=true then
  (Zc (Vr F) F (Vq a2 (min ((w64 o13).toNat:Int).toNat 64),w64 o13,y14,y15,y17,y18,y19,y17 / y14,y17 - ((y17 / y14)*y14))).bind λo23=>
  let y24:yU:=((o23.2.2.2.2.1*4294967296)+o23.2.2.2.2.2.1) - (o23.2.2.2.2.2.2.2*o23.1)
  if(o23.2.2.1 !=0)=true then
   (Zc (Vs F) F (o23.1,o23.2.1,o23.2.2.1,o23.2.2.2.1,o23.2.2.2.2.2.2.1,o23.2.2.2.2.2.2.2,y24 - ((y24 / o23.2.2.1)*o23.2.2.1),y24,y24 / o23.2.2.1)).bind λo28=>
   let y29:yU:=((o28.2.2.2.2.1*4294967296)+o28.2.2.1) - (o28.2.2.2.2.2*o28.1)
   some ((o28.2.2.2.1*4294967296)+o28.2.2.2.2.2,Zv y29 (min (o28.2.1.toNat:Int).toNat 64))
  else
  none
 else
 none
def Zse(F:Nat):Fs yb:=⟨146,[.v .u64,.v .u64,.v .u64],[],[.u64,.u64,.u64],[⟨.ret,[(0,.tup [.v .u64,.v .u64])],[],[.u64,.u64]⟩],λx=>ZdV F x.1 x.2.1 x.2.2⟩
def Zlc:Fs yb:=Zse yD
theorem Zsf:Zlc.Ok:=fnO { still:=[6,7,34]} [(0,ZiW),(1,ZiX)] [ZaA] ⟨ZfB,ytt⟩ ⟨ZmB,ZmC,ytt⟩
def Zac(F:Nat)(a0:yU)(a1:yU)(a2:yU):yO (yU):=
 if(a2 !=0)=true then
  (ZdV F (a0 % a2) a1 a2).bind λo30=>
  some o30.2
 else
 none
def ZcV(F:Nat):Fs yb:=⟨103,[.v .u64,.v .u64,.v .u64],[],[.u64,.u64,.u64],(zN .u64),λx=>Zac F x.1 x.2.1 x.2.2⟩
def Zsg:Fs yb:=ZcV yD
theorem Zqt:Zsg.Ok:=fnO { still:=[6,12,13,14]} [] [Zlc] ⟨Zsf,ytt⟩
end
end Go.Proofs.YtpgpjjjoglafdaaGreat
end
section
namespace Go.Ev
theorem ZoY(a m:yU):(a - a / m*m).toNat=a.toNat % m.toNat:=by
 have h1:a.toNat / m.toNat*m.toNat<=a.toNat:=Nat.div_mul_le_self _ _;have h2:=ybx a
 have h3:(a / m*m).toNat=a.toNat / m.toNat*m.toNat:=by
  rw[UInt64.toNat_mul,UInt64.toNat_div,yaq (by omega)]
 have h4:(a / m*m)<=a:=by rw[ycs,h3];exact h1
 rw[UInt64.toNat_sub_of_le _ _ h4,h3];have:=Nat.div_add_mod a.toNat m.toNat
 rw[ybs] at this;omega
theorem Zg6(x:yU):(x&&&4294967295).toNat=x.toNat % 4294967296:=by
 rw[UInt64.toNat_and];exact Nat.and_two_pow_sub_one_eq_mod x.toNat 32
theorem VX(x:yU)(n:Nat):(Zv x n).toNat=x.toNat / 2 ^ n:=by
 unfold Zv;rw[ybb,yaq (Nat.lt_of_le_of_lt (Nat.div_le_self ..) (ybx _))]
theorem Zin{x y:yU}(h:x.toNat+y.toNat < 18446744073709551616):(x+y).toNat=x.toNat+y.toNat:=by
 rw[UInt64.toNat_add,yaq h]
theorem Zio{x y:yU}(h:x.toNat*y.toNat < 18446744073709551616):(x*y).toNat=x.toNat*y.toNat:=by
 rw[UInt64.toNat_mul,yaq h]
theorem Zg7{a b:Nat}(ha:a < 4294967296)(hb:b < 4294967296):a*b<=18446744065119617025:=Nat.mul_le_mul (Nat.le_of_lt_succ ha) (Nat.le_of_lt_succ hb)
end Go.Ev
end
section
set_option maxRecDepth 4000
namespace Go.Proofs.YtpgpjjjoglafdaaGreat
open Go Go.Ev
section
variable{y1 y0 u d q r:Nat}
theorem ZKE(h:q*y1+r=u)(hc:4294967296*r+d < q*y0):u*4294967296+d < q*(y1*4294967296+y0):=by
 have e:q*(y1*4294967296+y0)=q*y1*4294967296+q*y0:=by rw[Nat.mul_add,Nat.mul_assoc]
 rw[e];omega
theorem ZFc(h:q*y1+r=u)(hc:q*y0<=4294967296*r+d):q*(y1*4294967296+y0)<=u*4294967296+d:=by
 have e:q*(y1*4294967296+y0)=q*y1*4294967296+q*y0:=by rw[Nat.mul_add,Nat.mul_assoc]
 rw[e];omega
theorem ZJD(hu:u < y1*4294967296+y0)(hd:d < 4294967296):(u*4294967296+d) / (y1*4294967296+y0) < 4294967296:=by
 rw[Nat.div_lt_iff_lt_mul (by omega)];omega
theorem ZBB(h:q*y1+r=u)(hq:1<=q):(q - 1)*y1+(r+y1)=u:=by
 have e:q*y1=(q - 1)*y1+y1:=by
  rw[<-Nat.succ_mul];congr 1;omega
 omega
theorem ZFd(hu:u < y1*4294967296+y0)(h0:y0 < 4294967296)(h:q*y1+r=u)(hr:4294967296<=r):q*y0<=4294967296*r+d:=by
 by_cases hq:q < 4294967296
 ·have:q*y0<=4294967295*4294967295:=Nat.mul_le_mul (by omega) (by omega);omega
 ·have:4294967296*y1<=q*y1:=ych _ (by omega);omega
end
theorem Zz8{q T Y:Nat}(hY:0 < Y)(h1:T / Y<=q)(h2:q*Y<=T):q=T / Y:=Nat.le_antisymm ((Nat.le_div_iff_mul_le hY).2 h2) h1
theorem ZxO{y1 y0 u d:Nat}{Q R Y0 Y1 D:yU}(hY1:Y1.toNat=y1)(hY0:Y0.toNat=y0)(hD:D.toNat=d)(h1:y1 < 4294967296)(h0:y0 < 4294967296)(hd:d < 4294967296)(hu:u < y1*4294967296+y0)
 (e:Q.toNat*y1+R.toNat=u) (hr:R.toNat < 4294967296) (hge:(u*4294967296+d) / (y1*4294967296+y0)<=Q.toNat):
 ((Q >= 4294967296\/(Q*Y0 > (4294967296*R)+D))/\(u*4294967296+d) / (y1*4294967296+y0)<=(Q - 1).toNat/\(Q - 1).toNat*y1+(R+Y1).toNat=u/\(R+Y1).toNat=R.toNat+y1)\/
 (¬Q >= 4294967296/\¬(Q*Y0 > (4294967296*R)+D)/\Q.toNat=(u*4294967296+d) / (y1*4294967296+y0)):=by
 have hadd:(R+Y1).toNat=R.toNat+y1:=by rw[Zin (by omega),hY1]
 have hrd:((4294967296*R)+D).toNat=4294967296*R.toNat+d:=by
  have m:(4294967296*R:yU).toNat=4294967296*R.toNat:=by
   rw[Zio (by show 4294967296*R.toNat < _;omega)];rfl
  rw[Zin (by rw[m];omega),m,hD]
 have dec:1<=Q.toNat->(Q - 1).toNat=Q.toNat - 1:=λh=>by
  rw[UInt64.toNat_sub_of_le _ _ (by rw[ycs];exact h)];rfl
 by_cases c1:Q >= 4294967296
 ·left
  have hq:4294967296<=Q.toNat:=by
   rw[ge_iff_le,ycs] at c1;exact c1
  have:=ZJD hu hd;refine⟨.inl c1,by rw[dec (by omega)];omega, ?_,hadd⟩;rw[dec (by omega),hadd];exact ZBB e (by omega)
 have hq:Q.toNat < 4294967296:=by
  rw[ge_iff_le,ycs] at c1;exact Nat.lt_of_not_le c1
 have hmul:(Q*Y0).toNat=Q.toNat*y0:=by
  have:=Zg7 hq h0;rw[Zio (by rw[hY0];omega),hY0]
 by_cases c2:Q*Y0 > (4294967296*R)+D
 ·left
  have c3:4294967296*R.toNat+d < Q.toNat*y0:=by
   have:=ycu.1 c2;rw[hmul,hrd] at this;exact this
  have q1:1<=Q.toNat:=by
   rcases yci Q.toNat with h|h
   ·rw[h,Nat.zero_mul] at c3;omega
   ·exact h
  have hg:=ZKE (d:=d) e c3;have hlt:(u*4294967296+d) / (y1*4294967296+y0) < Q.toNat:=(Nat.div_lt_iff_lt_mul (by omega)).2 hg;refine⟨.inr c2,by rw[dec q1];omega, ?_,hadd⟩;rw[dec q1,hadd];exact ZBB e q1
 ·right
  have c3:Q.toNat*y0<=4294967296*R.toNat+d:=by
   have:¬(((4294967296*R)+D).toNat < (Q*Y0).toNat):=λh=>c2 (ycu.2 h);rw[hmul,hrd] at this;omega
  exact⟨c1,c2,Zz8 (by omega) hge (ZFc e c3)⟩
theorem ZKF{y1 y0 u d:Nat}{Yv N Y1 Y0 U D E Q R:yU}(hY1:Y1.toNat=y1)(hY0:Y0.toNat=y0)(hD:D.toNat=d)(h1:y1 < 4294967296)(h3:0 < y1)(h0:y0 < 4294967296)(hd:d < 4294967296)(hu:u < y1*4294967296+y0)
 (e:Q.toNat*y1+R.toNat=u) (hr:R.toNat < 4294967296) (hge:(u*4294967296+d) / (y1*4294967296+y0)<=Q.toNat):
 ∃q:yU,Zc (Vr yD) yD (Yv,N,Y1,Y0,U,D,E,Q,R)=some (Yv,N,Y1,Y0,U,D,E,q)/\q.toNat=(u*4294967296+d) / (y1*4294967296+y0):=by
 obtain⟨x,hx,q,rfl,hq⟩:=XV (step:=Vr yD) (λs=>∃Q R:yU,s=(Yv,N,Y1,Y0,U,D,E,Q,R)/\Q.toNat*y1+R.toNat=u/\R.toNat < 4294967296/\(u*4294967296+d) / (y1*4294967296+y0)<=Q.toNat)
  (λs=>4294967296 - s.2.2.2.2.2.2.2.2.toNat) (λx=>∃q:yU,x=(Yv,N,Y1,Y0,U,D,E,q)/\q.toNat=(u*4294967296+d) / (y1*4294967296+y0)) (by
  rintro _ ⟨Q,R,rfl,e,hr,hge⟩;unfold Vr;dsimp only;rcases ZxO hY1 hY0 hD h1 h0 hd hu e hr hge with⟨c,k1,k2,k3⟩|⟨c1,c2,k⟩
  ·have key:(∃j,(if decide (R+Y1 >= 4294967296)=true then some (Sum.inr (Yv,N,Y1,Y0,U,D,E,Q - 1)) else some (Sum.inl (Yv,N,Y1,Y0,U,D,E,Q - 1,R+Y1)):yO ((yU×zR)⊕(zR)))=some (.inl j)/\
    (∃Q R:yU,j=(Yv,N,Y1,Y0,U,D,E,Q,R)/\Q.toNat*y1+R.toNat=u/\R.toNat < 4294967296/\(u*4294967296+d) / (y1*4294967296+y0)<=Q.toNat)/\4294967296 - j.2.2.2.2.2.2.2.2.toNat < 4294967296 - R.toNat)\/
    (∃x,(if decide (R+Y1 >= 4294967296)=true then some (Sum.inr (Yv,N,Y1,Y0,U,D,E,Q - 1)) else some (Sum.inl (Yv,N,Y1,Y0,U,D,E,Q - 1,R+Y1)):yO ((yU×zR)⊕(zR)))=some (.inr x)/\
    ∃q:yU,x=(Yv,N,Y1,Y0,U,D,E,q)/\q.toNat=(u*4294967296+d) / (y1*4294967296+y0)):=by
    by_cases hb:R+Y1 >= 4294967296
    ·right;rw[yW (yY hb)]
     have hb2:4294967296<=(R+Y1).toNat:=by
      rw[ge_iff_le,ycs] at hb;exact hb
     exact⟨_,rfl,_,rfl,Zz8 (by omega) k1 (ZFc k2 (ZFd hu h0 k2 hb2))⟩
    ·left;rw[yX (by rw[yN];exact hb)]
     have hb2:(R+Y1).toNat < 4294967296:=by
      rw[ge_iff_le,ycs] at hb;exact Nat.lt_of_not_le hb
     exact⟨_,rfl,⟨_,_,rfl,k2,hb2,k1⟩,by dsimp only;omega⟩
   rcases c with c|c
   ·rw[yW (yY c)];exact key
   ·by_cases c1:Q >= 4294967296
    ·rw[yW (yY c1)];exact key
    ·rw[yX (by rw[yN];exact c1),yW (yY c)];exact key
  ·right;rw[yX (by rw[yN];exact c1),yX (by rw[yN];exact c2)];exact⟨_,rfl,_,rfl,k⟩) (Yv,N,Y1,Y0,U,D,E,Q,R) ⟨Q,R,rfl,e,hr,hge⟩ (by dsimp only;omega)
 exact⟨q,hx,hq⟩
theorem ZKG{y1 y0 u d:Nat}{Yv N Y1 Y0 U D E Q R:yU}(hY1:Y1.toNat=y1)(hY0:Y0.toNat=y0)(hD:D.toNat=d)(h1:y1 < 4294967296)(h3:0 < y1)(h0:y0 < 4294967296)(hd:d < 4294967296)(hu:u < y1*4294967296+y0)
 (e:Q.toNat*y1+R.toNat=u) (hr:R.toNat < 4294967296) (hge:(u*4294967296+d) / (y1*4294967296+y0)<=Q.toNat):
 ∃q:yU,Zc (Vs yD) yD (Yv,N,Y1,Y0,D,E,R,U,Q)=some (Yv,N,D,E,U,q)/\q.toNat=(u*4294967296+d) / (y1*4294967296+y0):=by
 obtain⟨x,hx,q,rfl,hq⟩:=XV (step:=Vs yD) (λs=>∃Q R:yU,s=(Yv,N,Y1,Y0,D,E,R,U,Q)/\Q.toNat*y1+R.toNat=u/\R.toNat < 4294967296/\(u*4294967296+d) / (y1*4294967296+y0)<=Q.toNat)
  (λs=>4294967296 - s.2.2.2.2.2.2.1.toNat) (λx=>∃q:yU,x=(Yv,N,D,E,U,q)/\q.toNat=(u*4294967296+d) / (y1*4294967296+y0)) (by
  rintro _ ⟨Q,R,rfl,e,hr,hge⟩;unfold Vs;dsimp only;rcases ZxO hY1 hY0 hD h1 h0 hd hu e hr hge with⟨c,k1,k2,k3⟩|⟨c1,c2,k⟩
  ·have key:(∃j,(if decide (R+Y1 >= 4294967296)=true then some (Sum.inr (Yv,N,D,E,U,Q - 1)) else some (Sum.inl (Yv,N,Y1,Y0,D,E,R+Y1,U,Q - 1)):yO ((yU×zR)⊕(yU×yU×yU×yU×yU×yU)))=some (.inl j)/\
    (∃Q R:yU,j=(Yv,N,Y1,Y0,D,E,R,U,Q)/\Q.toNat*y1+R.toNat=u/\R.toNat < 4294967296/\(u*4294967296+d) / (y1*4294967296+y0)<=Q.toNat)/\4294967296 - j.2.2.2.2.2.2.1.toNat < 4294967296 - R.toNat)\/
    (∃x,(if decide (R+Y1 >= 4294967296)=true then some (Sum.inr (Yv,N,D,E,U,Q - 1)) else some (Sum.inl (Yv,N,Y1,Y0,D,E,R+Y1,U,Q - 1)):yO ((yU×zR)⊕(yU×yU×yU×yU×yU×yU)))=some (.inr x)/\
    ∃q:yU,x=(Yv,N,D,E,U,q)/\q.toNat=(u*4294967296+d) / (y1*4294967296+y0)):=by
    by_cases hb:R+Y1 >= 4294967296
    ·right;rw[yW (yY hb)]
     have hb2:4294967296<=(R+Y1).toNat:=by
      rw[ge_iff_le,ycs] at hb;exact hb
     exact⟨_,rfl,_,rfl,Zz8 (by omega) k1 (ZFc k2 (ZFd hu h0 k2 hb2))⟩
    ·left;rw[yX (by rw[yN];exact hb)]
     have hb2:(R+Y1).toNat < 4294967296:=by
      rw[ge_iff_le,ycs] at hb;exact Nat.lt_of_not_le hb
     exact⟨_,rfl,⟨_,_,rfl,k2,hb2,k1⟩,by dsimp only;omega⟩
   rcases c with c|c
   ·rw[yW (yY c)];exact key
   ·by_cases c1:Q >= 4294967296
    ·rw[yW (yY c1)];exact key
    ·rw[yX (by rw[yN];exact c1),yW (yY c)];exact key
  ·right;rw[yX (by rw[yN];exact c1),yX (by rw[yN];exact c2)];exact⟨_,rfl,_,rfl,k⟩) (Yv,N,Y1,Y0,D,E,R,U,Q) ⟨Q,R,rfl,e,hr,hge⟩ (by dsimp only;omega)
 exact⟨q,hx,hq⟩
theorem ZBC{A B:yU}{a b:Nat}(hA:A.toNat=a % 18446744073709551616)(hB:B.toNat=b % 18446744073709551616)(h:b<=a)(hd:a - b < 18446744073709551616):(A - B).toNat=a - b:=by
 rw[UInt64.toNat_sub,hA,hB];omega
theorem ZnN(u y1:Nat):u / y1*y1+u % y1=u:=by
 have:=Nat.div_add_mod u y1;rw[ybs] at this;exact this
theorem ZFe{u y1 y0 d:Nat}(h1:0 < y1)(hd:d < 4294967296):(u*4294967296+d) / (y1*4294967296+y0)<=u / y1:=by
 have h:(u*4294967296+d) / (y1*4294967296+y0)<=(u*4294967296+d) / (y1*4294967296):=Nat.div_le_div_left (by omega) (by omega)
 have e:(u*4294967296+d) / (y1*4294967296)=u / y1:=by
  rw[ybs y1, <-Nat.div_div_eq_div_mul];congr 1;omega
 omega
theorem ZFf{a b y:yU}{s:Nat}{Y:yU}(hy:y≠0)(hs:Yb yD y=some (s:Int))(s0:0 < s)(s1:s < 64)(hY:Vq y s=Y)(hYn:Y.toNat=y.toNat*2 ^ s)(hY63:9223372036854775808<=Y.toNat)(ha:a.toNat < y.toNat):
 ∃q r,ZdV yD a b y=some (q,r)/\r.toNat=(a.toNat*18446744073709551616+b.toNat) % y.toNat:=by
 have ha2:¬(y<=a):=by
  rw[ycs];omega
 unfold ZdV;rw[yX (by rw[yT];exact hy),yX (by rw[yN];exact ha2)];by_cases h0:a=0
 ·subst h0;rw[yW (by decide),yW (by rw[yE];exact hy),yW (by rw[yE];exact hy)];refine⟨_,_,rfl, ?_⟩;rw[UInt64.toNat_mod];simp
 rw[yX (by rw[yT];exact h0),hs,ya];dsimp only
 have w:w64 (s:Int)=yaf s:=by
  unfold w64;congr 1;omega
 have ws:(w64 (s:Int)).toNat=s:=by rw[w,ybb,yaq (by omega)]
 have e1:min ((w64 (s:Int)).toNat:Int).toNat 64=s:=by rw[ws];omega
 have e2:(64 - w64 (s:Int)).toNat=64 - s:=by
  rw[UInt64.toNat_sub_of_le _ _ (by rw[ycs,ws];show s<=64;omega),ws];rfl
 have e3:min ((64 - w64 (s:Int)).toNat:Int).toNat 64=64 - s:=by rw[e2];omega
 rw[e1,e3,hY];have hYl:=ybx Y;have hb:=ybx b
 have p64:2 ^ (64 - s)*2 ^ s=18446744073709551616:=by
  rw[<-Nat.pow_add];have:64 - s+s=64:=by omega
  rw[this]
 have hp:0 < 2 ^ s:=Nat.pow_pos (by decide);obtain⟨y1,hy1⟩:∃y1,y1=Y.toNat / 4294967296:=⟨_,rfl⟩;obtain⟨y0,hy0⟩:∃y0,y0=Y.toNat % 4294967296:=⟨_,rfl⟩;have hYd:Y.toNat=y1*4294967296+y0:=by omega
 have ty1:(Zv Y 32).toNat=y1:=by rw[VX,hy1]
 have ty0:(Y&&&4294967295).toNat=y0:=by rw[Zg6,hy0]
 have l1:y1 < 4294967296:=by omega
 have g1:2147483648<=y1:=by omega
 have l0:y0 < 4294967296:=by omega
 have hash:a.toNat*2 ^ s < Y.toNat:=by rw[hYn];exact Nat.mul_lt_mul_of_pos_right ha hp
 have bd:b.toNat / 2 ^ (64 - s) < 2 ^ s:=by
  rw[Nat.div_lt_iff_lt_mul (Nat.pow_pos (by decide)),ybs,p64];exact hb
 have tu:((Vq a s)|||(Zv b (64 - s))).toNat=a.toNat*2 ^ s+b.toNat / 2 ^ (64 - s):=by
  rw[UInt64.toNat_or,VX];unfold Vq;rw[ybb,yaq (by omega),ybs, <-Nat.two_pow_add_eq_or_of_lt bd]
 have t10:(Vq b s).toNat=b.toNat*2 ^ s % 18446744073709551616:=by
  unfold Vq;rw[ybb]
 obtain⟨u,hu⟩:∃u,u=a.toNat*2 ^ s+b.toNat / 2 ^ (64 - s):=⟨_,rfl⟩;obtain⟨v,hv⟩:∃v,v=b.toNat*2 ^ s % 18446744073709551616:=⟨_,rfl⟩;rw[<-hu] at tu;rw[<-hv] at t10
 have hbs:b.toNat*2 ^ s=b.toNat / 2 ^ (64 - s)*18446744073709551616+v:=by
  have h1:=Nat.div_add_mod (b.toNat*2 ^ s) 18446744073709551616
  have h2:b.toNat*2 ^ s / 18446744073709551616=b.toNat / 2 ^ (64 - s):=by
   rw[<-p64];exact Nat.mul_div_mul_right _ _ hp
  rw[h2, <-hv] at h1;omega
 have hN:(a.toNat*18446744073709551616+b.toNat)*2 ^ s=u*18446744073709551616+v:=by
  rw[yau,hbs,hu,Nat.mul_right_comm];omega
 have uY:u < y1*4294967296+y0:=by
  rw[<-hYd,hu,hYn];have h1:(a.toNat+1)*2 ^ s<=y.toNat*2 ^ s:=ych _ ha;rw[yau,Nat.one_mul] at h1;omega
 have hvl:v < 18446744073709551616:=by rw[hv];exact ybn _ (by decide)
 obtain⟨d1,hd1⟩:∃d1,d1=v / 4294967296:=⟨_,rfl⟩;obtain⟨d0,hd0⟩:∃d0,d0=v % 4294967296:=⟨_,rfl⟩;have td1:(Zv (Vq b s) 32).toNat=d1:=by rw[VX,t10,hd1]
 have td0:((Vq b s)&&&4294967295).toNat=d0:=by rw[Zg6,t10,hd0]
 generalize ((Vq a s)|||(Zv b (64 - s)):yU)=U at tu ⊢;generalize (Zv (Vq b s) 32:yU)=D1 at td1 ⊢;generalize ((Vq b s)&&&4294967295:yU)=D0 at td0 ⊢;generalize (Zv Y 32:yU)=Y1 at ty1 ⊢;generalize (Y&&&4294967295:yU)=Y0 at ty0 ⊢
 have y1ne:(Y1 !=0)=true:=by
  rw[yE];intro h;rw[h] at ty1;have:(0:yU).toNat=0:=rfl;omega
 rw[yW y1ne]
 have f1:(U / Y1).toNat*y1+(U - U / Y1*Y1).toNat=u:=by
  rw[ZoY,UInt64.toNat_div,tu,ty1];exact ZnN u y1
 have f2:(U - U / Y1*Y1).toNat < 4294967296:=by
  rw[ZoY,tu,ty1];exact Nat.lt_trans (ybn _ (by omega)) l1
 have f3:(u*4294967296+d1) / (y1*4294967296+y0)<=(U / Y1).toNat:=by
  rw[UInt64.toNat_div,tu,ty1];exact ZFe (by omega) (by omega)
 obtain⟨q1,k1,k2⟩:=ZKF (Yv:=Y) (N:=w64 (s:Int)) (U:=U) (E:=D0) ty1 ty0 td1 l1 (by omega) l0 (by omega) uY f1 f2 f3;rw[k1,ya];dsimp only;rw[yW y1ne];have m1:=Nat.div_add_mod (u*4294967296+d1) Y.toNat
 have m2:(u*4294967296+d1) % Y.toNat < Y.toNat:=ybn _ (by omega);rw[<-hYd] at k2
 have tv:(((U*4294967296)+D1) - (q1*Y)).toNat=(u*4294967296+d1) % Y.toNat:=by
  rw[ZBC (a:=u*4294967296+d1) (b:=q1.toNat*Y.toNat) ?_ ?_ ?_ ?_]
  ·rw[k2,ybs ((u*4294967296+d1) / Y.toNat)];omega
  ·rw[UInt64.toNat_add,UInt64.toNat_mul,tu,td1,show(4294967296:yU).toNat=4294967296 from rfl]
   omega
  ·rw[UInt64.toNat_mul]
  ·rw[k2,ybs ((u*4294967296+d1) / Y.toNat)];omega
  ·rw[k2,ybs ((u*4294967296+d1) / Y.toNat)];omega
 obtain⟨u2,hu2⟩:∃u2,u2=(u*4294967296+d1) % Y.toNat:=⟨_,rfl⟩;rw[<-hu2] at tv m2 m1;generalize (((U*4294967296)+D1) - (q1*Y):yU)=V at tv ⊢
 have f4:(V / Y1).toNat*y1+(V - V / Y1*Y1).toNat=u2:=by
  rw[ZoY,UInt64.toNat_div,tv,ty1];exact ZnN u2 y1
 have f5:(V - V / Y1*Y1).toNat < 4294967296:=by
  rw[ZoY,tv,ty1];exact Nat.lt_trans (ybn _ (by omega)) l1
 have f6:(u2*4294967296+d0) / (y1*4294967296+y0)<=(V / Y1).toNat:=by
  rw[UInt64.toNat_div,tv,ty1];exact ZFe (by omega) (by omega)
 obtain⟨q0,k3,k4⟩:=ZKG (Yv:=Y) (N:=w64 (s:Int)) (U:=V) (E:=q1) ty1 ty0 td0 l1 (by omega) l0 (by omega) (by rw[<-hYd];exact m2) f4 f5 f6;rw[k3,ya];refine⟨_,_,rfl, ?_⟩;dsimp only;rw[e1,VX];rw[<-hYd] at k4;have m3:=Nat.div_add_mod (u2*4294967296+d0) Y.toNat
 have m4:(u2*4294967296+d0) % Y.toNat < Y.toNat:=ybn _ (by omega)
 have tr:(((V*4294967296)+D0) - (q0*Y)).toNat=(u2*4294967296+d0) % Y.toNat:=by
  rw[ZBC (a:=u2*4294967296+d0) (b:=q0.toNat*Y.toNat) ?_ ?_ ?_ ?_]
  ·rw[k4,ybs ((u2*4294967296+d0) / Y.toNat)];omega
  ·rw[UInt64.toNat_add,UInt64.toNat_mul,tv,td0,show(4294967296:yU).toNat=4294967296 from rfl]
   omega
  ·rw[UInt64.toNat_mul]
  ·rw[k4,ybs ((u2*4294967296+d0) / Y.toNat)];omega
  ·rw[k4,ybs ((u2*4294967296+d0) / Y.toNat)];omega
 rw[tr]
 have hNm:((a.toNat*18446744073709551616+b.toNat)*2 ^ s) % Y.toNat=(u2*4294967296+d0) % Y.toNat:=by
  have e:(a.toNat*18446744073709551616+b.toNat)*2 ^ s=u2*4294967296+d0+Y.toNat*((u*4294967296+d1) / Y.toNat*4294967296):=by
   rw[hN, <-Nat.mul_assoc];omega
  rw[e,Nat.add_mul_mod_self_left]
 rw[<-hNm,hYn,Nat.mul_mod_mul_right,Nat.mul_div_cancel _ hp]
theorem Zvr{y Y:yU}{s:Nat}(a b:yU)(hy:y≠0)(hs:Yb yD y=some (s:Int))(s0:0 < s)(s1:s < 64)(hY:Vq y s=Y)(hYn:Y.toNat=y.toNat*2 ^ s)(hY63:9223372036854775808<=Y.toNat):
 Zac yD a b y=some (yaf ((a.toNat*18446744073709551616+b.toNat) % y.toNat)):=by
 have hp:0 < y.toNat:=by
  rcases yci y.toNat with h|h
  ·exact absurd (UInt64.toNat_inj.1 h) hy
  ·exact h
 obtain⟨q,r,h1,h2⟩:=ZFf (a:=a % y) (b:=b) hy hs s0 s1 hY hYn hY63 (by rw[UInt64.toNat_mod];exact ybn _ hp);unfold Zac;rw[yW (by rw[yE];exact hy),h1,ya];dsimp only;rw[UInt64.toNat_mod,Nat.add_mod,Nat.mod_mul_mod, <-Nat.add_mod] at h2;rw[<-h2,UInt64.ofNat_toNat]
theorem ZJE:Yb yD 4611686018427377339=some ((2:Nat):Int):=by kernel_rfl
theorem ZJF:Yb yD 2305843009213688669=some ((3:Nat):Int):=by kernel_rfl
theorem ZJG:Yb yD 2305843009213688668=some ((3:Nat):Int):=by kernel_rfl
noncomputable def Xx(F:Nat)(a0:yU)(a1:yU)(a2:yU):yO yU:=
 if(a2==4611686018427377339 || (a2==2305843009213688669 || a2==2305843009213688668))=true then some (yaf ((a0.toNat*18446744073709551616+a1.toNat) % a2.toNat)) else Zac F a0 a1 a2
theorem ZFg(a b y:yU):Zac yD a b y=Xx yD a b y:=by
 unfold Xx;split
 ·rename_i h;simp only[ycd,yT] at h;rcases h with rfl|rfl|rfl
  ·exact Zvr (Y:=18446744073709509356) (s:=2) a b (by decide) ZJE (by decide) (by decide) (by kernel_rfl) (by decide) (by decide)
  ·exact Zvr (Y:=18446744073709509352) (s:=3) a b (by decide) ZJF (by decide) (by decide) (by kernel_rfl) (by decide) (by decide)
  ·exact Zvr (Y:=18446744073709509344) (s:=3) a b (by decide) ZJG (by decide) (by decide) (by kernel_rfl) (by decide) (by decide)
 ·rfl
noncomputable def Zsh(F:Nat):Fs yb:={ ZcV F with M:=λx=>Xx F x.1 x.2.1 x.2.2}
noncomputable def Zb8:Fs yb:=Zsh yD
theorem Zek:Zb8.Ok:=Zvn (s:=ZcV yD) Zqt λx=>(ZFg x.1 x.2.1 x.2.2).symm
end Go.Proofs.YtpgpjjjoglafdaaGreat
end
section
set_option maxRecDepth 4000
namespace Go.Proofs.YtpgpjjjoglafdaaGreat
open Go Go.Ev
noncomputable section
def Zb9(F:Nat)(a0:yU)(a1:yU):yO ((yU×yU)):=
 let y31:yU:=Zv ((a0&&&4294967295)*(a1&&&4294967295)) 32;let y32:yU:=(((Zv a0 32)*(a1&&&4294967295))+y31)&&&4294967295;let y33:yU:=Zv (((Zv a0 32)*(a1&&&4294967295))+y31) 32;let y34:yU:=Zv (y32+((a0&&&4294967295)*(Zv a1 32))) 32
 some ((((Zv a0 32)*(Zv a1 32))+y33)+y34,a0*a1)
def ZcW(F:Nat):Fs yb:=⟨163,[.v .u64,.v .u64],[],[.u64,.u64],[⟨.ret,[(0,.tup [.v .u64,.v .u64])],[],[.u64,.u64]⟩],λx=>Zb9 F x.1 x.2⟩
def Zsi:Fs yb:=ZcW yD
theorem Zqu:Zsi.Ok:=fnO { still:=[4,5]} [] [] trivial
end
end Go.Proofs.YtpgpjjjoglafdaaGreat
end
section
set_option maxRecDepth 4000
namespace Go.Proofs.YtpgpjjjoglafdaaGreat
open Go Go.Ev
theorem ZFh(x y:yU):∃h l,Zb9 yD x y=some (h,l)/\h.toNat*18446744073709551616+l.toNat=x.toNat*y.toNat:=by
 unfold Zb9;refine⟨_,_,rfl, ?_⟩;have hx:=ybx x;have hy:=ybx y;have x0l:x.toNat % 4294967296 < 4294967296:=ybn _ (by decide);have y0l:y.toNat % 4294967296 < 4294967296:=ybn _ (by decide);have x1l:x.toNat / 4294967296 < 4294967296:=by omega
 have y1l:y.toNat / 4294967296 < 4294967296:=by omega
 have xe:x.toNat=x.toNat / 4294967296*4294967296+x.toNat % 4294967296:=by omega
 have ye:y.toNat=y.toNat / 4294967296*4294967296+y.toNat % 4294967296:=by omega
 generalize hX1:x.toNat / 4294967296=x1 at*;generalize hX0:x.toNat % 4294967296=x0 at*;generalize hY1:y.toNat / 4294967296=y1 at*;generalize hY0:y.toNat % 4294967296=y0 at*;have p00:=Zg7 x0l y0l;have p10:=Zg7 x1l y0l;have p01:=Zg7 x0l y1l;have p11:=Zg7 x1l y1l
 have prod:x.toNat*y.toNat=x1*y1*18446744073709551616+(x1*y0+x0*y1)*4294967296+x0*y0:=by
  rw[xe,ye,yau,Nat.mul_add,Nat.mul_add]
  have e1:x1*4294967296*(y1*4294967296)=x1*y1*18446744073709551616:=by
   rw[Nat.mul_assoc,Nat.mul_left_comm 4294967296 y1, <-Nat.mul_assoc]
  have e2:x1*4294967296*y0=x1*y0*4294967296:=by rw[Nat.mul_right_comm]
  have e3:x0*(y1*4294967296)=x0*y1*4294967296:=by rw[Nat.mul_assoc]
  rw[e1,e2,e3];omega
 have q00:((x&&&4294967295)*(y&&&4294967295)).toNat=x0*y0:=by
  rw[Zio (by rw[Zg6,Zg6,hX0,hY0];omega),Zg6,Zg6,hX0,hY0]
 have q10:((Zv x 32)*(y&&&4294967295)).toNat=x1*y0:=by
  rw[Zio (by rw[VX,Zg6,show(2:Nat) ^ 32=4294967296 from rfl,hX1,hY0];omega),VX,Zg6,show(2:Nat) ^ 32=4294967296 from rfl,hX1,hY0]
 have q01:((x&&&4294967295)*(Zv y 32)).toNat=x0*y1:=by
  rw[Zio (by rw[VX,Zg6,show(2:Nat) ^ 32=4294967296 from rfl,hX0,hY1];omega),VX,Zg6,show(2:Nat) ^ 32=4294967296 from rfl,hX0,hY1]
 have q11:((Zv x 32)*(Zv y 32)).toNat=x1*y1:=by
  rw[Zio (by rw[VX,VX,show(2:Nat) ^ 32=4294967296 from rfl,hX1,hY1];omega),VX,VX,show(2:Nat) ^ 32=4294967296 from rfl,hX1,hY1]
 generalize hA:((x&&&4294967295)*(y&&&4294967295):yU)=A at*;generalize hB:((Zv x 32)*(y&&&4294967295):yU)=B at*;generalize hC:((x&&&4294967295)*(Zv y 32):yU)=C at*;generalize hD:((Zv x 32)*(Zv y 32):yU)=D at*;have s1:(Zv A 32).toNat=x0*y0 / 4294967296:=by rw[VX,q00]
 have s2:(B+Zv A 32).toNat=x1*y0+x0*y0 / 4294967296:=by rw[Zin (by rw[q10,s1];omega),q10,s1]
 have s3:((B+Zv A 32)&&&4294967295).toNat=(x1*y0+x0*y0 / 4294967296) % 4294967296:=by rw[Zg6,s2]
 have s4:(Zv (B+Zv A 32) 32).toNat=(x1*y0+x0*y0 / 4294967296) / 4294967296:=by rw[VX,s2]
 have s5:(((B+Zv A 32)&&&4294967295)+C).toNat=(x1*y0+x0*y0 / 4294967296) % 4294967296+x0*y1:=by rw[Zin (by rw[s3,q01];omega),s3,q01]
 have s6:(Zv (((B+Zv A 32)&&&4294967295)+C) 32).toNat=((x1*y0+x0*y0 / 4294967296) % 4294967296+x0*y1) / 4294967296:=by rw[VX,s5]
 have s7:(D+Zv (B+Zv A 32) 32).toNat=x1*y1+(x1*y0+x0*y0 / 4294967296) / 4294967296:=by rw[Zin (by rw[q11,s4];omega),q11,s4]
 have s8:(x*y).toNat=x.toNat*y.toNat % 18446744073709551616:=UInt64.toNat_mul ..
 have s9:((D+Zv (B+Zv A 32) 32)+Zv (((B+Zv A 32)&&&4294967295)+C) 32).toNat=x1*y1+(x1*y0+x0*y0 / 4294967296) / 4294967296+((x1*y0+x0*y0 / 4294967296) % 4294967296+x0*y1) / 4294967296:=by
  rw[Zin (by rw[s7,s6];omega),s7,s6]
 rw[s9,s8,prod];generalize x0*y0=a at*;generalize x1*y0=b at*;generalize x0*y1=c at*;generalize x1*y1=d at*;omega
theorem ZFi(x y:yU):Zb9 yD x y=some (yaf (x.toNat*y.toNat / 18446744073709551616),yaf (x.toNat*y.toNat % 18446744073709551616)):=by
 obtain⟨h,l,e,k⟩:=ZFh x y;have hl:=ybx l;rw[e, <-k,show(h.toNat*18446744073709551616+l.toNat) / 18446744073709551616=h.toNat by omega,show(h.toNat*18446744073709551616+l.toNat) % 18446744073709551616=l.toNat by omega,UInt64.ofNat_toNat,UInt64.ofNat_toNat]
noncomputable def Zbq(F:Nat)(a0:yU)(a1:yU):yO (yU×yU):=some (yaf (a0.toNat*a1.toNat / 18446744073709551616),yaf (a0.toNat*a1.toNat % 18446744073709551616))
noncomputable def Zsj(F:Nat):Fs yb:={ ZcW F with M:=λx=>Zbq F x.1 x.2}
noncomputable def ZfC:Fs yb:=Zsj yD
theorem ZiY:ZfC.Ok:=Zvn (s:=ZcW yD) Zqu λx=>(ZFi x.1 x.2).symm
end Go.Proofs.YtpgpjjjoglafdaaGreat
end
section
set_option maxRecDepth 4000
namespace Go.Proofs.YtpgpjjjoglafdaaGreat
open Go Go.Ev
noncomputable section
def Z5(F:Nat)(a0:yU)(a1:yU):yO (yU):=
 (Zbq F a0 a1).bind λo35=>
 (Xx F o35.1 o35.2 4611686018427377339).bind λo36=>
 some o36
def Zqv(F:Nat):Fs yb:=⟨120,[.v .u64,.v .u64],[],[.u64,.u64],(zN .u64),λx=>Z5 F x.1 x.2⟩
def Zel:Fs yb:=Zqv yD
theorem Zg8:Zel.Ok:=fnO { still:=[4,8,9,13,14]} [] [ZfC,Zb8] ⟨ZiY,Zek,ytt⟩
def Wo(F:Nat)(s:(yU×yU×yU)):yO ((yU×yU×yU)⊕yU):=
 if(decide (s.2.1 > 0))=true then
  if((s.2.1&&&1)==1)=true then
   (Z5 F s.2.2 s.1).bind λo37=>
   (Z5 F s.1 s.1).bind λo38=>
   some (.inl (o38,Zv s.2.1 1,o37))
  else
  (Z5 F s.1 s.1).bind λo39=>
  some (.inl (o39,Zv s.2.1 1,s.2.2))
 else
 some (.inr s.2.2)
def Zge:Lp:=⟨[(0,.v .u64),(1,.v .u64),(5,.v .u64)],[],[.u64,.u64,.u64],[⟨.exit 0,[(5,.v .u64)],[],[.u64]⟩],Zc (Wo yD) yD⟩
theorem Zj5:Zge.okA yb 77 0:=ZN { still:=[4,13,14,16,17]} [] [Zel] ⟨Zg8,ytt⟩
def Zem(F:Nat)(a0:yU)(a1:yU):yO (yU):=
 (Zc (Wo F) F (a0,a1,1)).bind λo40=>
 some o40
def ZbD(F:Nat):Fs yb:=⟨77,[.v .u64,.v .u64],[],[.u64,.u64],(zN .u64),λx=>Zem F x.1 x.2⟩
def Zqw:Fs yb:=ZbD yD
theorem Zok:Zqw.Ok:=fnO { still:=[4,13,14,16,17]} [(0,Zge)] [] trivial ⟨Zj5,ytt⟩
end
end Go.Proofs.YtpgpjjjoglafdaaGreat
end
section
namespace Go.Ev
def Pr(r:Nat):Prop:=1 < r/\∀k,0 < k->k < r->Nat.gcd k r=1
theorem php:∀(n:Nat)(f:Nat->Nat),(∀i,i<=n->f i < n)->∃i j,i < j/\j<=n/\f i=f j
 |0,f,h=>absurd (h 0 (ym _)) (Nat.not_lt_zero _)
 |n+1,f,h=>by
  by_cases hc:∃i,i<=n/\f i=f (n+1)
  ·obtain⟨i,h1,h2⟩:=hc;exact⟨i,n+1,by omega,ym _,h2⟩
  have hne:∀i,i<=n->f i≠f (n+1):=λi hi e=>hc ⟨i,hi,e⟩;have hv:=h (n+1) (ym _)
  obtain⟨i,j,h1,h2,h3⟩:=php n (λi=>if f i > f (n+1) then f i - 1 else f i) (λi hi=>by
   have a:=h i (by omega);have b:=hne i hi;show(if f i > f (n+1) then f i - 1 else f i) < n
   split <;> omega)
  refine⟨i,j,h1,by omega, ?_⟩;have a:=hne i (by omega);have b:=hne j (by omega);have h3:(if f i > f (n+1) then f i - 1 else f i)=(if f j > f (n+1) then f j - 1 else f j):=h3
  split at h3 <;> split at h3 <;> omega
theorem Zg9{h a m:Nat}(ha:h ^ a % m=1 % m)(k:Nat):h ^ (a*k) % m=1 % m:=by
 rw[Nat.pow_mul,Nat.pow_mod,ha, <-Nat.pow_mod,Nat.one_pow]
theorem ZxP{h a b m:Nat}(ha:h ^ a % m=1 % m)(hb:h ^ b % m=1 % m):h ^ (a % b) % m=1 % m:=by
 have e:a=b*(a / b)+a % b:=(Nat.div_add_mod a b).symm;rw[e,Nat.pow_add,yby,Zg9 hb, <-yby,Nat.one_mul] at ha;exact ha
theorem ZnO{h m:Nat}(a b:Nat)(ha:h ^ a % m=1 % m)(hb:h ^ b % m=1 % m):h ^ (Nat.gcd a b) % m=1 % m:=by
 induction a,b using Nat.gcd.induction with
 |H0 n=>rw[Nat.gcd_zero_left];exact hb
 |H1 a b h0 ih=>
  rw[Nat.gcd_rec];exact ih (ZxP hb ha) ha
theorem ZFj{h r m i j:Nat}(hr:h ^ r % m=1 % m)(hi:i < j)(hj:j < r)(e:h ^ i % m=h ^ j % m):h ^ (j - i) % m=1 % m:=by
 have h1:h ^ i*h ^ (r - i)=h ^ r:=by rw[<-Nat.pow_add];congr 1;omega
 have h2:h ^ j*h ^ (r - i)=h ^ (j - i)*h ^ r:=by rw[<-Nat.pow_add, <-Nat.pow_add];congr 1;omega
 have h3:h ^ j*h ^ (r - i) % m=1 % m:=by rw[yby, <-e, <-yby,h1,hr]
 rw[h2,yby,hr, <-yby,Nat.mul_one] at h3;exact h3
theorem Zz9{h r m i:Nat}(hm:1 < m)(hr:h ^ r % m=1 % m)(hi:i<=r):h ^ i % m≠0:=by
 intro e;have h1:h ^ i*h ^ (r - i)=h ^ r:=by rw[<-Nat.pow_add];congr 1;omega
 rw[<-h1,yby,e,Nat.zero_mul,Nat.zero_mod,yaq hm] at hr;omega
theorem ZAa{h r c:Nat}(hr:Pr r)(hc:1 < c)(h1:h ^ r % c=1 % c)(h2:h % c≠1 % c):r < c:=by
 rcases ycc r c with k|k
 ·exact k
 exfalso
 obtain⟨i,j,a,b,e⟩:=php (c - 1) (λi=>h ^ i % c - 1) (λi hi=>by
  have:=ybn (h ^ i) (show c > 0 by omega);have:=Zz9 hc h1 (i:=i) (by omega);show h ^ i % c - 1 < c - 1;omega)
 have q1:=Zz9 hc h1 (i:=i) (by omega);have q2:=Zz9 hc h1 (i:=j) (by omega);have e:h ^ i % c - 1=h ^ j % c - 1:=e;have h3:=ZFj h1 a (by omega) (show h ^ i % c=h ^ j % c by omega);have h4:=ZnO _ _ h3 h1;rw[hr.2 (j - i) (by omega) (by omega),Nat.pow_one] at h4;exact h2 h4
theorem ZBD{n r:Nat}(h:Nat)(hr:Pr r)(hn:1 < n)(hs:n<=r*r)(h1:h ^ r % n=1 % n)(h0:0 < h)(h2:Nat.gcd (h - 1) n=1):Pr n:=by
 refine⟨hn,λk k0 kn=> ?_⟩;have dn:Nat.gcd k n ∣ n:=Nat.gcd_dvd_right k n;have dk:Nat.gcd k n ∣ k:=Nat.gcd_dvd_left k n;have d0:0 < Nat.gcd k n:=Nat.gcd_pos_of_pos_left _ k0;have dl:Nat.gcd k n<=k:=Nat.le_of_dvd k0 dk;generalize Nat.gcd k n=d at*;by_cases d1:d=1
 ·exact d1
 exfalso
 have great:∀c,1 < c->c ∣ n->r < c:=λc c1 cn=>by
  refine ZAa (h:=h) hr c1 ?_ λe=> ?_
  ·obtain⟨q,rfl⟩:=cn;have:=congrArg (· % c) h1;simp only[Nat.mod_mul_right_mod] at this;exact this
  ·have k1:c ∣ h - 1:=Nat.dvd_of_mod_eq_zero (Nat.sub_mod_eq_zero_of_mod_eq e);have:=Nat.dvd_gcd k1 cn;rw[h2] at this;have:=Nat.le_of_dvd (by omega) this;omega
 obtain⟨e,rfl⟩:=dn
 have e1:1 < e:=by
  rcases ycc 1 e with h|h
  ·exact h
  ·have:d*e<=d*1:=Nat.mul_le_mul_left _ h;omega
 have a:=great d (by omega) (Nat.dvd_mul_right ..);have b:=great e e1 (Nat.dvd_mul_left ..);have:=Nat.mul_le_mul (show r+1<=d from a) (show r+1<=e from b)
 rw[yau,Nat.mul_add] at this;omega
def ZBE(n:Nat):Nat->Bool
 |0=>true
 |k+1=>(decide (k < 1) || !(n % (k+1)==0))&&ZBE n k
theorem Zqx{n:Nat}:∀{k:Nat},ZBE n k=true->∀d,1 < d->d<=k->¬d ∣ n
 |0,_,d,h1,h2=>by omega
 |k+1,h,d,h1,h2=>by
  simp only[ZBE,yj,ycd,yP,Bool.not_eq_true',beq_eq_false_iff_ne] at h;rcases ycc d (k+1) with c|c
  ·exact Zqx h.2 d h1 (by omega)
  ·have:d=k+1:=by omega
   subst this;rcases h.1 with h|h
   ·omega
   ·intro q;exact h (Nat.mod_eq_zero_of_dvd q)
theorem ZFk{n s:Nat}(hn:1 < n)(hs:n < (s+1)*(s+1))(h:ZBE n s=true):Pr n:=by
 refine⟨hn,λk k0 kn=> ?_⟩;have dn:Nat.gcd k n ∣ n:=Nat.gcd_dvd_right k n;have d0:0 < Nat.gcd k n:=Nat.gcd_pos_of_pos_left _ k0;have dl:Nat.gcd k n<=k:=Nat.le_of_dvd k0 (Nat.gcd_dvd_left k n);generalize Nat.gcd k n=d at*;by_cases d1:d=1
 ·exact d1
 exfalso;obtain⟨e,rfl⟩:=dn
 have e1:1 < e:=by
  rcases ycc 1 e with h|h
  ·exact h
  ·have:d*e<=d*1:=Nat.mul_le_mul_left _ h;omega
 rcases ycc s d with a|a
 ·rcases ycc s e with b|b
  ·have:=Nat.mul_le_mul (show s+1<=d from a) (show s+1<=e from b)
   omega
  ·exact Zqx h e e1 b (Nat.dvd_mul_left ..)
 ·exact Zqx h d (by omega) a (Nat.dvd_mul_right ..)
def pwm(m:Nat):Nat->Nat->Nat->Nat->Nat
 |0,_,_,o=>o
 |f+1,a,n,o=>if n=0 then o else pwm m f (a*a % m) (n / 2) (if n % 2=1 then o*a % m else o)
theorem Zvs{m:Nat}:∀(k a n o:Nat),n < 2 ^ k->pwm m k a n o % m=o*a ^ n % m
 |0,a,n,o,h=>by
  have:n=0:=by rw[Nat.pow_zero] at h;omega
  subst this
  rw[pwm,Nat.pow_zero,Nat.mul_one]
 |k+1,a,n,o,h=>by
  rw[pwm];by_cases h0:n=0
  ·rw[yW h0,h0,Nat.pow_zero,Nat.mul_one]
  rw[yX h0,Zvs k _ _ _ (by rw[Nat.pow_succ] at h;omega)]
  have e:a ^ n=(a*a) ^ (n / 2)*a ^ (n % 2):=by
   rw[<-Nat.pow_two, <-Nat.pow_mul, <-Nat.pow_add];congr 1;omega
  have e2:(a*a % m) ^ (n / 2) % m=(a*a) ^ (n / 2) % m:=(Nat.pow_mod ..).symm;rw[e];split
  ·rename_i h1;rw[h1,Nat.pow_one,yby,e2, <-yby,yby,Nat.mod_mod, <-yby];congr 1;rw[Nat.mul_assoc,ybs a]
  ·rename_i h1;have:n % 2=0:=by omega
   rw[this,Nat.pow_zero,Nat.mul_one,yby,e2, <-yby]
theorem Zqy{m a n z:Nat}(k:Nat)(h:n < 2 ^ k)(e:pwm m k a n 1 % m=z):a ^ n % m=z:=by
 have:=Zvs (m:=m) k a n 1 h;rw[Nat.one_mul] at this;rw[<-this,e]
def pc0:Nat:=7930907
def pc1:Nat:=11864636873
def pc2:Nat:=1732236983459
def pc3:Nat:=249442125618097
def ord:Nat:=2305843009213688669
def mdl:Nat:=4611686018427377339
theorem pr0:Pr pc0:=ZFk (s:=2816) (by decide) (by decide) (by decide+kernel)
theorem pr1:Pr pc1:=ZBD 409113128 pr0 (by decide) (by decide) (Zqy 23 (by decide) (by decide+kernel)) (by decide) (by decide+kernel)
theorem pr2:Pr pc2:=ZBD 353522539148 pr1 (by decide) (by decide) (Zqy 34 (by decide) (by decide+kernel)) (by decide) (by decide+kernel)
theorem pr3:Pr pc3:=ZBD 117107719143424 pr2 (by decide) (by decide) (Zqy 41 (by decide) (by decide+kernel)) (by decide) (by decide+kernel)
theorem pr4:Pr ord:=ZBD 732368710688439132 pr3 (by decide) (by decide) (Zqy 48 (by decide) (by decide+kernel)) (by decide) (by decide+kernel)
def IsPt(a:Nat):Prop:=0 < a/\a < mdl/\a ^ ord % mdl=1
theorem ZIl{a:Nat}(h:a < mdl)(e:a ^ ord % mdl=1):IsPt a:=by
 refine⟨?_,h,e⟩;rcases yci a with h0|h0
 ·subst h0;rw[Nat.zero_pow (by decide)] at e;cases e
 ·exact h0
theorem ZAb:IsPt 1:=⟨by decide,by decide,by rw[Nat.one_pow];decide⟩
theorem ZFl:IsPt 4:=⟨by decide,by decide,Zqy 61 (by decide) (by decide+kernel)⟩
theorem ZJH{a b:Nat}(ha:IsPt a)(hb:IsPt b):IsPt (a*b % mdl):=by
 refine ZIl (ybn _ (by decide)) ?_;rw[<-Nat.pow_mod,Nat.mul_pow,yby,ha.2.2,hb.2.2];decide
theorem ZJI{a:Nat}(ha:IsPt a)(n:Nat):IsPt (a ^ n % mdl):=by
 refine ZIl (ybn _ (by decide)) ?_;rw[<-Nat.pow_mod, <-Nat.pow_mul,ybs];exact Zg9 (m:=mdl) ha.2.2 n
theorem ZHB{a:Nat}(ha:IsPt a)(n:Nat):a ^ (n % ord) % mdl=a ^ n % mdl:=by
 have e:n=ord*(n / ord)+n % ord:=(Nat.div_add_mod n _).symm;have h:=Zg9 (m:=mdl) (k:=n / ord) ha.2.2
 conv=>rhs;rw[e]
 rw[Nat.pow_add,yby,h, <-yby,Nat.one_mul]
theorem ZJJ{k:Nat}(h0:0 < k)(h1:k < ord):4 ^ k % mdl≠1:=by
 intro e;have:=ZnO (h:=4) (m:=mdl) k _ e ZFl.2.2;rw[pr4.2 k h0 h1] at this;revert this;decide
end Go.Ev
end
section
set_option maxRecDepth 4000
namespace Go.Proofs.YtpgpjjjoglafdaaGreat
open Go Go.Ev
theorem ZFm{z:Nat}:(yaf (z % 4611686018427377339)).toNat=z % 4611686018427377339:=by
 rw[ybb,yaq];exact Nat.lt_trans (ybn _ (by decide)) (by decide)
theorem ZxQ(a b:yU):Z5 yD a b=some (yaf (a.toNat*b.toNat % 4611686018427377339)):=by
 unfold Z5 Zbq;rw[ya];dsimp only;unfold Xx;rw[yW (by decide),ya,ybb,ybb];have h:a.toNat*b.toNat < 18446744073709551616*18446744073709551616:=Nat.mul_lt_mul'' (ybx a) (ybx b);have h2:a.toNat*b.toNat / 18446744073709551616 < 18446744073709551616:=(Nat.div_lt_iff_lt_mul (by decide)).2 h;generalize a.toNat*b.toNat=z at*;rw[show(4611686018427377339:yU).toNat=4611686018427377339 from rfl]
 have e:z / 18446744073709551616 % 2 ^ 64*18446744073709551616+z % 18446744073709551616 % 2 ^ 64=z:=by omega
 rw[e]
theorem Zqz:∀(k m:Nat)(A N O:yU),N.toNat < 2 ^ k->k < m->Zc (Wo yD) m (A,N,O)=some (yaf (pwm 4611686018427377339 k A.toNat N.toNat O.toNat))
 |k,0,_,_,_,_,h=>by omega
 |0,m+1,A,N,O,h,_=>by
  have hn:¬N > 0:=by
   intro h2;have h3:0 < N.toNat:=ycu.1 h2;rw[Nat.pow_zero] at h;omega
  have hs:Wo yD (A,N,O)=if decide (N > 0)=true then(if((N&&&1)==1)=true then(Z5 yD O A).bind λo1=>(Z5 yD A A).bind λo2=>some (.inl (o2,Zv N 1,o1)) else(Z5 yD A A).bind λo2=>some (.inl (o2,Zv N 1,O))) else some (.inr O):=rfl
  unfold Zc;rw[hs]
  rw[yX (by rw[yN];exact hn),ya,pwm,UInt64.ofNat_toNat]
 |k+1,m+1,A,N,O,h,hm=>by
  have hs:Wo yD (A,N,O)=if decide (N > 0)=true then(if((N&&&1)==1)=true then(Z5 yD O A).bind λo1=>(Z5 yD A A).bind λo2=>some (.inl (o2,Zv N 1,o1)) else(Z5 yD A A).bind λo2=>some (.inl (o2,Zv N 1,O))) else some (.inr O):=rfl
  unfold Zc;rw[hs];by_cases h2:N > 0
  ·have hp:0 < N.toNat->pwm 4611686018427377339 (k+1) A.toNat N.toNat O.toNat=pwm 4611686018427377339 k (A.toNat*A.toNat % 4611686018427377339) (N.toNat / 2) (if N.toNat % 2=1 then O.toNat*A.toNat % 4611686018427377339 else O.toNat):=λh=>by
    rw[pwm,yX (by omega)]
   have h3:0 < N.toNat:=ycu.1 h2
   have hsh:(Zv N 1).toNat=N.toNat / 2:=by
    unfold Zv;rw[ybb,yaq (Nat.lt_of_le_of_lt (Nat.div_le_self ..) (ybx _))]
   have hlt:(Zv N 1).toNat < 2 ^ k:=by
    rw[hsh];rw[Nat.pow_succ] at h;omega
   have hand:((N&&&1)==1)=decide (N.toNat % 2=1):=by
    rw[Bool.eq_iff_iff,yT,yN, <-UInt64.toNat_inj,UInt64.toNat_and];exact Iff.of_eq (congrArg (· =1) (Nat.and_one_is_mod _))
   rw[yW (yY h2),hand,hp h3];simp only[ZxQ];by_cases h4:N.toNat % 2=1
   ·rw[yW (yY h4),yW h4,ya,ya,ya];dsimp only;rw[Zqz k m _ _ _ hlt (by omega),ZFm,ZFm,hsh]
   ·rw[yX (by rw[yN];exact h4),yX h4,ya,ya];dsimp only;rw[Zqz k m _ _ _ hlt (by omega),ZFm,hsh]
  ·have h3:N.toNat=0:=by
    rcases yci N.toNat with h5|h5
    ·exact h5
    ·exact absurd (show(0:yU) < N from ycu.2 h5) h2
   rw[yX (by rw[yN];exact h2),ya,pwm,yW h3,UInt64.ofNat_toNat]
theorem ZFn(a n:yU):Zem yD a n=some (yaf (pwm 4611686018427377339 64 a.toNat n.toNat 1)):=by
 unfold Zem;rw[Zqz 64 yD a n 1 (ybx _) (by rw[Zfy];omega),ya];rfl
noncomputable def VM(F:Nat)(a0:yU)(a1:yU):yO yU:=some (yaf (pwm 4611686018427377339 64 a0.toNat a1.toNat 1))
noncomputable def ZqA(F:Nat):Fs yb:={ ZbD F with M:=λx=>VM F x.1 x.2}
noncomputable def Za4:Fs yb:=ZqA yD
theorem ZcX:Za4.Ok:=Zvn (s:=ZbD yD) Zok λx=>(ZFn x.1 x.2).symm
end Go.Proofs.YtpgpjjjoglafdaaGreat
end
