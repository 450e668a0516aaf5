/- Parts of the proof, in one file. -/
import Derived.Test.YtghfiijgklnflaaGreatKe
open Option renaming some → ab, none → ad
open Bool renaming true → ae, false → af
open Decidable renaming decide → ag
open Bool renaming and_eq_true → yi
open Go renaming TypeId → yb, Program → yg, Value → yh, FuncId → yr, World → yad
open Go.Proofs.Tryz renaming prog → yc
open List renaming length_append → yn, getElem?_eq_some_iff → yp, range → yu, length_map → yx, length_take → yy, replicate → yab, append_assoc → yac, getElem?_eq_getElem → yae, map_cons → yaf, getElem?_map → yah, getElem?_append_left → yaj, length_cons → yam, getElem?_append_right → yan, map_append → yaq, getElem?_eq_none → yat, mem_singleton → yav, length_set → yax, mem_cons_self → yay, mem_cons_of_mem → yba, append_nil → ybb, map_map → ybc, getElem?_cons_succ → ybe, length_drop → ybf, ext_getElem? → ybg, mem_map → ybj, take_append_drop → ybk, getElem?_set → ybm, all_eq_true → ybn, mem_of_getElem? → ybq, take_of_length_le → ybs, getElem?_cons_zero → ybt, mem_cons → ybz, length_nil → yce, map_congr_left → ycj, mem_append → ycm, length_replicate → ycp, getElem?_set_self → ycw, getD_eq_getElem?_getD → ydg
open Nat renaming le_refl → ym, add → yv, shiftRight → yak, mod_eq_of_lt → yas, zero_add → yau, add_mul → ybd, mul_comm → ybu, add_assoc → yci, lt_or_ge → yck, add_zero → ycl, eq_of_beq_eq_true → ydb, two_pow_add_eq_or_of_lt → ydf, shiftRight_eq_div_pow → ydh
open Option renaming bind_some → ya, bind_eq_some_iff → yf, map_some → yz
open Option.some renaming injEq → yj, inj → ybp
open UInt32 renaming toNat → yar, ofNat → yby, toNat_ofNat' → yct
open UInt64 renaming ofNat → yai
open UInt8 renaming toNat → yao, ofNat → yaw
set_option linter.unusedVariables false
set_option linter.unusedSimpArgs false
section
namespace Go.Ev
def Xt(H H':yL ar):Prop:=∀J:Sg,Ok J->J.H=H->∃J':Sg,J'.w=J.w/\J'.H=H'/\To J J'/\Ok J'
theorem Xt.refl(H:yL ar):Xt H H:=λJ c h=>⟨J,rfl,h,To.refl J,c⟩
theorem Xt.trans{A B C:yL ar}(h:Xt A B)(k:Xt B C):Xt A C:=λJ c e=>by
 obtain⟨J1,f,g,j,l⟩:=h J c e;obtain⟨J2,m,s,t,x⟩:=k J1 l g;exact⟨J2,m.trans f,s,j.trans t,x⟩
theorem oI{H H':yL ar}(h:ca H H'):Xt H H':=λJ f e=>by
 subst e;obtain⟨to,c⟩:=js f h;exact⟨{ J with H:=H'},rfl,rfl,to,c⟩
theorem ZKz{P:yg}{c:Code}{ts e f:yL Dv}{H H1 H2:yL ar}{g:Ex}(h:Xt H H1/\∀(J:Sg)(a:Act),ay J ts a->ay J e a)(r:Wq P c e H1 g f H2):Wq P c ts H g f H2:=by
 intro J a l m s;obtain⟨J1,t,x,j,y⟩:=h.1 J l m;have:=r J1 a y x (h.2 _ _ (s.to j.leaf));rw[t]at this;refine wp_mono this ?_;rintro I M Q ⟨rfl,J2,z,A,E,F,G⟩;exact⟨rfl,J2,z,A,j.trans E,F,G⟩
theorem FJ{H:yL ar}{j:Nat}{x x' y:ar}(hj:H[j]? =ab x)
 (hy:∀J:Sg,cW J ad y)
 (z:(∃d st,x=.var d st)->∃d st,x'=.var d st) (A:(∃t aN,x=.map t aN)->∃t aN,x'=.map t aN) (E:∀s e xs,x≠ .log s e xs)
 (F:∀o,x.bg o->x'.bg o)
 (G:∀v s st e d,x=.row v s st e d->∃f d',x'=.row v s f e d')
 (I:∀(J:Sg)(mi:yO Nat),J.H[H.length]? =ab y->J.m[H.length]? =ab ad->cW J mi x->cW J mi x') (W:x.eD=af:=by rfl) (hpm:∀v l,x≠ .bA v l:=by intro _ _ h;cases h):Xt H ((H++[y]).set j x'):=by
 intro J M hH;subst hH;have g:j < J.H.length:=(yp.1 hj).1;obtain⟨X,Q⟩:=WE (J':={ J with m:=J.m++[ad],H:=J.H++[y]}) M rfl rfl rfl rfl (World.grownBy.refl J.w ad) (.inl rfl) (λ_=>hy _);obtain⟨mi,hm⟩:∃mi,J.m[j]? =ab mi:=⟨_,yae (by rw[M.len];exact g)⟩;let J1:Sg:={ J with m:=J.m++[ad],H:=J.H++[y]};let J2:Sg:={ J1 with m:=J1.m.set j mi,H:=J1.H.set j x'}
 have S:J1.H[j]? =ab x:=by
  show(J.H++[y])[j]? =_;rw[yaj g];exact hj
 have T:J1.m[j]? =ab mi:=by
  show(J.m++[ad])[j]? =_;rw[yaj (by rw[M.len];exact g)];exact hm
 have hx:=Q.cA j x mi S T
 obtain⟨Y,Z⟩:=XE (J':=J2) (mi:=mi) (mi':=mi) Q S T rfl rfl rfl rfl rfl rfl rfl (ym _)
  (λ_ _ _=>rfl) (λ_ _ _ _ _ h=>h) (λo _ hu=>F o hu) (.inl rfl) (λq=>⟨rfl,z q⟩) (λq=>⟨rfl,A q⟩) (λs e xs q=>absurd q (E s e xs))
  (λU=>by
    refine I J2 mi ?_ ?_ (V6 U (λb _=>rfl) (λb c _ h=>⟨h,rfl⟩) hx)
    .show(J1.H.set j _)[J.H.length]? =_;rw[ybm,yX (by omega)];simp[J1]
    .show(J1.m.set j _)[J.H.length]? =_;rw[ybm,yX (by omega)];show(J.m++[ad])[J.H.length]? =_;rw[yan (by rw[M.len];exact ym _),M.len];simp)
  (λv s st e d q=>by
    obtain⟨f,d',q'⟩:=G v s st e d q;exact⟨v,f,d',q',ym _,λ_=>⟨rfl,λb cur _ hc=>⟨cur,hc,rfl⟩⟩⟩) (hmaps:=λq=>by rw[W]at q;cases q) (hpm:=λv l q=>absurd q (hpm v l))
 exact⟨J2,rfl,rfl,X.trans Y,Z⟩
theorem FK{J:Sg}{s:Nat}{a:yL yh}(h:yG J (.p (.sl (ab af) s [])) a):a=[.slice ad 0 0]:=by
 simp only[yG,aq]at h;obtain⟨_,A,c,rfl,l,m,e,f,t⟩:=h
 have g:A=ad:=by
  have:=e af rfl
  cases A with
  |none=>rfl
  |some _=>cases this
 subst g;have j:=f rfl;subst j;rfl
theorem ZEh{H:yL ar}{j s:Nat}{e:yb}{d d':Dv}{st:Bool}{yM:yL Nat}(g:H[j]? =ab (.var d st))(f:XD d yM s (.rv H.length 0 s 0 0)=ab d'):
 Xt H ((H++[ar.row 0 s ae e (.p (.arr 0 s []))]).set j (.var d' st)):=by
 have c:=oa yM d d' s _ rfl f;refine FJ g (λJ=>⟨0,by simp[aJ],.inl ⟨rfl,rfl⟩⟩) (λ_=>⟨_,_,rfl⟩) (λ⟨_,_,q⟩=>by cases q) (λ_ _ _ q=>by cases q) (λo l=>l) (λ_ _ _ _ _ q=>by cases q) ?_;rintro J G m x ⟨b,y,t,rfl,z,A,E⟩;refine⟨b,y,t,rfl,z, ?_,by rw[c];exact E⟩;rw[c];refine oc yM d d' s _ (λa F=> ?_) f _ A;have:=FK F;subst this;simp only[yG];exact⟨ad,0,rfl,ym _,by simp[maxLen],λ_=>rfl,λh=>absurd h (Nat.lt_irrefl 0),0,s,ae,e,_,m,ym _,λ_=>⟨rfl,.inl ⟨x,rfl,rfl⟩⟩⟩
theorem ZH8{H:yL ar}{j s c v N:Nat}{st:Bool}{e A:yb}{xs:yL Pl}{k:Nat}{x:Pl}{y:Dv}{yM:yL Nat}(I:H[j]? =ab (.row v s st e (.p (.arr N s xs))))(hx:xs[k]? =ab x)
 (E:XD (.p x) yM c (.own H.length ad c [])=ab y):Xt H ((H++[ar.log c A []]).set j (.row v s st e (.arr N s ((xs.map .p).set k y)))):=by
 have f:=oa yM (.p x) y c _ rfl E;refine FJ I (λJ=>.inl ⟨rfl,rfl⟩) (λ⟨_,_,q⟩=>by cases q) (λ⟨_,_,q⟩=>by cases q) (λ_ _ _ q=>by cases q) (λo M=> ?_) (λv2 s2 Q e2 d2 q=>by cases q;exact⟨_,_,rfl⟩) ?_
 .obtain⟨S,N',T,U⟩:=M;exact⟨S,N',by rw[<-T];simp[aJ],U⟩
 rintro J mi W X ⟨N',Y,g⟩;refine⟨N',by rw[<-Y];simp[aJ], ?_⟩;rcases g with g|⟨b,l,m,Z,e4,e5,e6,e7,F⟩
 .exact .inl g
 refine .inr ⟨b,l,m,Z,e4,e5,e6,e7, ?_⟩;have hk:(xs.map Dv.p)[k]? =ab (.p x):=by rw[yah,hx];rfl
 simp only[yG,aq]at F ⊢;obtain⟨r1,G,r3⟩:=F;refine⟨by simpa using r1,λz hz=> ?_, ?_⟩
 .rcases List.mem_or_eq_of_mem_set hz with hz|hz
  .obtain⟨w,hw,rfl⟩:=ybj.1 hz;exact G w hw
  .subst hz;rw[f];exact G x (ybq hx)
 .refine qb (x:=.p x) (y:=y) (λa t=>oc yM (.p x) y c _ (λa t=> ?_) E a t) _ k _ hk (jq.2 r3);have:=FK t;subst this;simp only[yG];exact⟨λ_ hx=>(by cases hx),ad,0,rfl,ym _,by simp[maxLen],Yd _,λ_=>rfl,λh=>absurd rfl h,A,[],W,ym _,λ_=>.inl ⟨X,rfl,rfl⟩⟩
theorem ZKA{H:yL ar}{j:Nat}{d d':Dv}{st:Bool}(l:H[j]? =ab (.var d st))(hsz:d'.size=d.size)(hd:∀J:Sg,Ok J->J.H=H->∀us,yG J d us->yG J d' us):Xt H (H.set j (.var d' st)):=by
 intro J f E;subst E;have x:j < J.H.length:=(yp.1 l).1;obtain⟨g,A⟩:∃g,J.m[j]? =ab g:=⟨_,yae (by rw[f.len];exact x)⟩;let J2:Sg:={ J with m:=J.m.set j g,H:=J.H.set j (.var d' st)};obtain⟨b,F,t,rfl,G,I,M⟩:=f.cA j _ g l A;have Q:=hd J f rfl _ I
 obtain⟨y,z⟩:=XE (J':=J2) (mi:=ab b) (mi':=ab b) f l A rfl rfl rfl rfl rfl rfl rfl (ym _)
  (λ_ _ _=>rfl) (λ_ _ _ _ _ h=>h) (λo _ S=>S) (.inl rfl) (λq=>⟨rfl,_,_,rfl⟩) (λ⟨_,_,q⟩=>by cases q) (λs e T q=>by cases q)
  (λc=>⟨b,F,t,rfl,G,by rw[hsz];exact Z7 c _ _ Q,by rw[hsz];exact M⟩)
  (λv s st e d q=>by cases q)
 exact⟨J2,rfl,rfl,y,z⟩
def uX{α O:Type}(l:yL α)(f:α->yL α->yO O):yO O:=match l with
 |x::r=>f x r
 |[]=>ad
inductive jH where
 |rows (t:Tmp) (yM:List Nat) (T:Ty) (e:yb) (np:List Nat)
 |focus (t:Tmp) (U:Ty) (e:yb)
 |done (t:Tmp)
 |fresh (t:Tmp) (i:Nat)
 |bj (t:Tmp) (yM:List Nat) (T:Ty) (e:yb)
 |iX (t:Tmp)
 |iY (t:Tmp)
 |fw (t:Tmp) (i:Nat)
 |any (t:Tmp) (i:Nat) (T:Ty)
 |df (t:Tmp)
 |split (t:Tmp) (ks:List Nat)
 |nn (t:Tmp)
 |hole
 |flat (t:Tmp)
 |rD (yM:List Nat) (U:Ty) (e:yb)
 |iZ (t:Tmp) (i:Nat) (ks:List Nat)
def ZH9:ah->Bool
 |.aJ _ _ _ ae _ _ _=>ae
 |_=>af
section
variable{O:Type}{out:O}
abbrev Kh(O:Type):=yL TD->yL ah->yO O
def FL(t:Tmp)(yM:yL Nat)(T:Ty)(e:yb)(c:yL Nat)(a:yL TD)(h:yL ah)(K:Kh O):yO O:=
 match a[t]? with
 |some (.am id [])=>match h[id]? with
  |some (.var d ae)=>(iw T (.rw h.length) yM d).bind λf=>if(TD.frees h.length a&&h.all (ah.free h.length))=ae then K a ((h++[ah.aJ T c [] ae e [] []]).set id (.var f ae)) else ad
  |_=>ad
 |_=>ad
def FM(t:Tmp)(yM:yL Nat)(T:Ty)(e:yb)(a:yL TD)(h:yL ah)(K:Kh O):yO O:=
 match a[t]? with
 |some (.am id [])=>match h[id]? with
  |some (.var d ae)=>(iw T (.rw h.length) yM d).bind λc=>if(TD.frees h.length a&&h.all (ah.free h.length))=ae then K a ((h++[ah.aF T [] ae e []]).set id (.var c ae)) else ad
  |_=>ad
 |_=>ad
def FN(t:Tmp)(U:Ty)(e:yb)(a:yL TD)(h:yL ah)(K:Kh O):yO O:=
 let j:=h.findIdx ZH9
 match h[j]?,((a[t]?).bind TD.num) with
 |some (.aJ T g v ae l c f),ab i=>if(TD.frees h.length a&&h.all (ah.free h.length))=ae then if ag (i.n=(c.length:Int))=ae then uX f λx r=>
   (iw U (.own h.length ad U ad) g (.p (Wi g (.v T x)))).bind λd=>K a ((h++[ah.log U e []]).set j (.bz T g v ae l c d r)) else ad else ad
 |_,_=>ad
def rE(h:yL ah):TD->yO (TD×yL Nat)
 |.rw j=>match h[j]? with
  |some (.aJ T _ _ _ _ c [])=>ab (.p (.sl ad T c),[j])
  |some (.aF T _ _ _ l)=>ab (.p (.sl ad T l),[j])
  |_=>ad
 |d=>ab (d,[])
def FO(h:yL ah):TD->(TD->yL Nat->yO O)->yO O
 |.rw j,K=>match h[j]? with
  |some (.aJ T _ _ _ _ e c)=>if c.isEmpty=ae then K (.p (.sl ad T e)) [j] else ad
  |some (.aF T _ _ _ l)=>K (.p (.sl ad T l)) [j]
  |_=>ad
 |d,K=>K d []
theorem ZCN{h:yL ah}{d:TD}{K:TD->yL Nat->yO O}(k:FO h d K=ab out):∃q,rE h d=ab q/\K q.1 q.2=ab out:=by
 unfold FO at k;unfold rE;split at k
 .rename_i j;dsimp only;split at k
  .rename_i T t v st e m c f;rw[f];obtain⟨s,k⟩:=Za k
   cases c with
   |nil=>exact⟨_,rfl,k⟩
   |cons _ _=>cases s
  .rename_i T v st e l f;rw[f];exact⟨_,rfl,k⟩
  .cases k
 .rename_i g;refine⟨(d,[]), ?_,k⟩;cases d <;> first|rfl|exact absurd rfl (g _)
def FP(h:yL ah):yL TD->(yL TD->yL Nat->yO O)->yO O
 |[],K=>K [] []
 |d::r,K=>FO h d λx l=>FP h r λy m=>K (x::y) (l++m)
def rF(h:yL ah):yL TD->yO (yL TD×yL Nat)
 |[]=>ab ([],[])
 |d::r=>match rE h d,rF h r with
  |some q,ab w=>ab (q.1::w.1,q.2++w.2)
  |_,_=>ad
theorem ZqE{h:yL ah}:∀{c:yL TD}{K:yL TD->yL Nat->yO O},FP h c K=ab out->∃q,rF h c=ab q/\K q.1 q.2=ab out
 |[],K,k=>⟨_,rfl,k⟩
 |d::r,K,k=>by
  obtain⟨q,e,k⟩:=ZCN k;obtain⟨w,f,k⟩:=ZqE k;exact⟨(q.1::w.1,q.2++w.2),by simp only[rF,e,f],k⟩
def ja:ah->ah
 |.aJ T c v _ e a b=>.aJ T c v af e a b
 |.aF t v _ e l=>.aF t v af e l
 |e=>e
def ia(ids:yL Nat)(H:yL ah):yL ah:=(yu H.length).zipWith (λi e=>if ids.contains i then ja e else e) H
def rG(t:Tmp)(a:yL TD)(h:yL ah)(K:Kh O):yO O:=
 match a[t]? with
 |some (.am id [])=>match h[id]? with
  |some (.var (.agg c) st)=>FP h c λx l=>K a ((ia l h).set id (.var (.agg x) st))
  |_=>ad
 |_=>ad
def uZ(t:Tmp)(i:Nat)(a:yL TD)(h:yL ah)(K:Kh O):yO O:=
 match a[t]? with
 |some (.am j [])=>match h[j]? with
  |some (.var (.agg c) st)=>match c[i]? with
   |some (.rv id v s 0 n)=>match h[id]? with
    |some (.aF T w _ _ l)=>if(ag (v=w.length)&&(ag (s=T.size)&&ag (n=l.length)))=ae then K a (h.set j (.var (.agg (c.set i (.rw id))) st)) else ad
    |_=>ad
   |_=>ad
  |_=>ad
 |_=>ad
def FQ(t:Tmp)(a:yL TD)(h:yL ah)(K:Kh O):yO O:=
 match a[t]? with
 |some (.rv id v s 0 n)=>match h[id]? with
  |some (.aF T w _ _ l)=>if(ag (v=w.length)&&(ag (s=T.size)&&ag (n=l.length)))=ae then K (a.set t (.rw id)) h else ad
  |_=>ad
 |_=>ad
def FR(t:Tmp)(a:yL TD)(h:yL ah)(K:Kh O):yO O:=
 match a[t]? with
 |some (.am j [])=>match h[j]? with
  |some (.var (.rv id v s 0 n) st)=>match h[id]? with
   |some (.aF T w _ _ l)=>if(ag (v=w.length)&&(ag (s=T.size)&&ag (n=l.length)))=ae then K a (h.set j (.var (.rw id) st)) else ad
   |_=>ad
  |_=>ad
 |_=>ad
def FS(t:Tmp)(i:Nat)(T:Ty)(a:yL TD)(h:yL ah)(K:Kh O):yO O:=
 match a[t]? with
 |some (.am j [])=>match h[j]? with
  |some (.var (.agg c) st)=>match c[i]? with
   |some (.p x)=>(TP.to gZ x T).bind λy=>K a (h.set j (.var (.agg (c.set i (.p (.v T y)))) st))
   |_=>ad
  |some (.var (.p x) st)=>(TP.to gZ x T).bind λy=>K a (h.set j (.var (.p (.v T y)) st))
  |_=>ad
 |_=>ad
def oJ:TP->TD
 |.arr n s c=>.arr n s (c.map TD.p)
 |x=>.p x
def FT(t:Tmp)(a:yL TD)(h:yL ah)(K:Kh O):yO O:=
 match a[t]? with
 |some (.am j [])=>match h[j]? with
  |some (.var (.p (.arr n s c)) st)=>K a (h.set j (.var (.arr n s (c.map TD.p)) st))
  |some (.var (.p (.agg c)) st)=>K a (h.set j (.var (.agg (c.map oJ)) st))
  |_=>K a h
 |_=>K a h
def va(z:Int)(t:Tmp)(a:yL TD)(h:yL ah)(K:Kh O):yL Nat->yO O
 |[]=>ad
 |n::r=>if(z==(n:Int))=ae then K (a.set t (.p (.v (.int .i64) (n:Int)))) h else va z t a h K r
def FU(t:Tmp)(ks:yL Nat)(a:yL TD)(h:yL ah)(K:Kh O):yO O:=
 match a.getD t .an with
 |.p (.v (.int .i64) z)=>va z t a h K ks
 |_=>ad
def vb{O:Type}(w:Nat)(f:Nat->yO O):yL Nat->yO O
 |[]=>ad
 |n::r=>if Nat.beq w n=ae then f n else vb w f r
def FV(t:Tmp)(i:Nat)(ks:yL Nat)(a:yL TD)(h:yL ah)(K:Kh O):yO O:=
 match a[t]? with
 |some (.am j [])=>match h[j]? with
  |some (.var (.agg c) st)=>match c[i]? with
   |some (.iface w y)=>vb w (λn=>K a (h.set j (.var (.agg (c.set i (.iface n y))) st))) ks
   |_=>ad
  |_=>ad
 |_=>ad
def FW(t:Tmp)(a:yL TD)(h:yL ah)(K:Kh O):yO O:=
 match a.getD t .an with
 |.am _ _=>K a h
 |_=>ad
def ZMx(a:yL TD)(h:yL ah)(K:Kh O):yO O:=K a (h++[.gone])
def FX(t:Tmp)(a:yL TD)(h:yL ah)(K:Kh O):yO O:=
 match a[t]? with
 |some (.am j [])=>match h[j]? with
  |some (.var d st)=>(d.flat (lk h)).bind λx=>K a (h.set j (.var (.p x) st))
  |_=>ad
 |_=>ad
def FY(yM:yL Nat)(U:Ty)(e:yb)(j:Nat)(a:yL TD)(h:yL ah)(K:Kh O):yO O:=
 match h[j]? with
 |some (.row v s ae f (.arr n c [x]))=>match iw U (.own h.length ad U ad) yM x with
  |some y=>if(ag (s=c)&&(TD.frees h.length a&&h.all (ah.free h.length)))=ae then K a ((h++[ah.log U e []]).set j (.row v s ae f (.arr n c [y]))) else ad
  |none=>K a h
 |_=>K a h
def vc(yM:yL Nat)(U:Ty)(e:yb):yL Nat->yL TD->yL ah->Kh O->yO O
 |[],a,h,K=>K a h
 |j::r,a,h,K=>FY yM U e j a h λa h=>vc yM U e r a h K
def ghT:jH->yL TD->yL ah->Kh O->yO O
 |.rows t c T e f,a,h,K=>FL t c T e f a h K
 |.focus t U e,a,h,K=>FN t U e a h K
 |.done t,a,h,K=>rG t a h K
 |.fresh t i,a,h,K=>uZ t i a h K
 |.bj t c T e,a,h,K=>FM t c T e a h K
 |.iX t,a,h,K=>FQ t a h K
 |.iY t,a,h,K=>FR t a h K
 |.fw t i,a,h,K=>uZ t i a h λa h=>rG t a h K
 |.any t i T,a,h,K=>FS t i T a h K
 |.df t,a,h,K=>FT t a h K
 |.split t ks,a,h,K=>FU t ks a h K
 |.nn t,a,h,K=>FW t a h K
 |.hole,a,h,K=>ZMx a h K
 |.flat t,a,h,K=>FX t a h K
 |.rD c U e,a,h,K=>vc c U e (yu h.length) a h K
 |.iZ t i ks,a,h,K=>FV t i ks a h K
def FZ(g:yO jH)(a:yL TD)(h:yL ah)(K:Kh O):yO O:=
 match g with
 |none=>K a h
 |some g=>ghT g a h K
theorem rH{H:yL ah}{e:ah}(h:H.all (ah.free H.length)=ae):aA (H++[e])=aA H++[e.er (lk (H++[e]))]:=by
 unfold aA;rw[yaq];congr 1;refine ycj λx c=> ?_;have f:=ybn.1 h x c;exact(DO (λid t g=>kz id t g) x f).symm
theorem ve{H:yL ah}{e:ah}{a:yL TD}(h:TD.frees H.length a=ae):TD.au (lk (H++[e])) a=TD.au (lk H) a:=(cr (λid t c=>kz id t c) a h).symm
theorem ZAu{t:Tmp}{yM:yL Nat}{T:Ty}{e:yb}{c:yL Nat}{a:yL TD}{h:yL ah}{K:Kh O}(k:FL t yM T e c a h K=ab out):
 ∃m s,K m s=ab out/\m.length=a.length/\Xt (aA h) (aA s)/\∀(J:Sg)(f:Act),ay J (TD.au (lk h) a) f->ay J (TD.au (lk s) m) f:=by
 unfold FL at k;split at k
 .rename_i id hid;split at k
  .rename_i d g;obtain⟨j,F,k⟩:=yf.1 k;obtain⟨l,k⟩:=Za k;rw[yi]at l;have y:id < h.length:=(yp.1 g).1;have z:(h++[ah.aJ T c [] ae e [] []])[id]? =ab (.var d ae):=by rw[yaj y];exact g
   have A:lk ((h++[ah.aJ T c [] ae e [] []]).set id (.var j ae))=lk (h++[ah.aJ T c [] ae e [] []]):=Wc z rfl rfl;refine⟨_,_,k,rfl, ?_,λJ f r=> ?_⟩
   .have G:aA ((h++[ah.aJ T c [] ae e [] []]).set id (.var j ae))=(aA h++[ar.row 0 T.size ae e (.p (.arr 0 T.size []))]).set id (.var (j.er (lk (h++[ah.aJ T c [] ae e [] []]))) ae):=by
     rw[YA A,rH l.2];rfl
    rw[G];have I:(aA h)[id]? =ab (.var (d.er (lk h)) ae):=by rw[ZD g];rfl
    refine ZEh (yM:=yM) I ?_;have E:=mV (L:=lk (h++[ah.aJ T c [] ae e [] []])) yM d j F;have M:d.er (lk (h++[ah.aJ T c [] ae e [] []]))=d.er (lk h):=(iO (λid t Q=>kz id t Q) d (ybn.1 l.2 _ (ybq g))).symm;rw[M,(kE (q:=(0,T.size,0)) (x:=.aJ T c [] ae e [] []) (List.getElem?_concat_length ..) rfl).1]at E;rw[ZE];exact E
   .rw[A,ve l.1];exact r
  .cases k
 .cases k
theorem ZAv{t:Tmp}{yM:yL Nat}{T:Ty}{e:yb}{a:yL TD}{h:yL ah}{K:Kh O}(k:FM t yM T e a h K=ab out):
 ∃m s,K m s=ab out/\m.length=a.length/\Xt (aA h) (aA s)/\∀(J:Sg)(c:Act),ay J (TD.au (lk h) a) c->ay J (TD.au (lk s) m) c:=by
 unfold FM at k;split at k
 .rename_i id hid;split at k
  .rename_i d f;obtain⟨g,E,k⟩:=yf.1 k;obtain⟨j,k⟩:=Za k;rw[yi]at j;have x:id < h.length:=(yp.1 f).1;have y:(h++[ah.aF T [] ae e []])[id]? =ab (.var d ae):=by rw[yaj x];exact f
   have z:lk ((h++[ah.aF T [] ae e []]).set id (.var g ae))=lk (h++[ah.aF T [] ae e []]):=Wc y rfl rfl;refine⟨_,_,k,rfl, ?_,λJ c r=> ?_⟩
   .have F:aA ((h++[ah.aF T [] ae e []]).set id (.var g ae))=(aA h++[ar.row 0 T.size ae e (.p (.arr 0 T.size []))]).set id (.var (g.er (lk (h++[ah.aF T [] ae e []]))) ae):=by
     rw[YA z,rH j.2];rfl
    rw[F];have G:(aA h)[id]? =ab (.var (d.er (lk h)) ae):=by rw[ZD f];rfl
    refine ZEh (yM:=yM) G ?_;have A:=mV (L:=lk (h++[ah.aF T [] ae e []])) yM d g E;have I:d.er (lk (h++[ah.aF T [] ae e []]))=d.er (lk h):=(iO (λid t M=>kz id t M) d (ybn.1 j.2 _ (ybq f))).symm;rw[I,(QJ (T:=T) (v:=[]) (l:=[]) (List.getElem?_concat_length ..)).1]at A;rw[ZE];exact A
   .rw[z,ve j.1];exact r
  .cases k
 .cases k
theorem Zyb{t:Tmp}{U:Ty}{e:yb}{a:yL TD}{h:yL ah}{K:Kh O}(k:FN t U e a h K=ab out):
 ∃y z,K y z=ab out/\y.length=a.length/\Xt (aA h) (aA z)/\∀(J:Sg)(g:Act),ay J (TD.au (lk h) a) g->ay J (TD.au (lk z) y) g:=by
 unfold FN at k;dsimp only at k;generalize h.findIdx ZH9=j at k;split at k
 .rename_i T f v l c m i A hi;obtain⟨s,k⟩:=Za k;obtain⟨_,k⟩:=Za k;simp only[yi]at s;obtain⟨s,S⟩:=s
  cases m with
  |nil=>cases k
  |cons x r=>
   have k:((iw U (.own h.length ad U ad) f (.p (Wi f (.v T x)))).bind λd=>K a ((h++[ah.log U e []]).set j (.bz T f v ae l c d r)))=ab out:=k;obtain⟨d,W,k⟩:=yf.1 k;have E:j < h.length:=(yp.1 A).1;have F:(h++[ah.log U e []])[j]? =ab (.aJ T f v ae l c (x::r)):=by rw[yaj E];exact A
   have I:lk ((h++[ah.log U e []]).set j (.bz T f v ae l c d r))=lk (h++[ah.log U e []]):=EA F rfl;refine⟨_,_,k,rfl, ?_,λJ g X=> ?_⟩
   .have Y:aA ((h++[ah.log U e []]).set j (.bz T f v ae l c d r))=(aA h++[ar.log U.size e []]).set j (.row v.length T.size ae l (.arr (c.length+(r.length+1)) T.size (((c.map T.enc++(x::r).map λx=>(Wi f (.v T x)).pe).map .p).set c.length (d.er (lk (h++[ah.log U e []])))))):=by
     rw[YA I,rH S];have M:=UM (c.map λx=>Dv.p (T.enc x)) (r.map λx=>.p (Wi f (.v T x)).pe) (.p (Wi f (.v T x)).pe) (d.er (lk (h++[ah.log U e []])));rw[yx]at M
     have G:((c.map T.enc++(x::r).map λx=>(Wi f (.v T x)).pe).map Dv.p).set c.length (d.er (lk (h++[ah.log U e []])))=(c.map λx=>Dv.p (T.enc x))++d.er (lk (h++[ah.log U e []]))::r.map λx=>.p (Wi f (.v T x)).pe:=by
      rw[yaq,ybc,ybc];exact M
     rw[G];rfl
    rw[Y];have Z:(aA h)[j]? =ab (.row v.length T.size ae l (.p (.arr (c.length+(r.length+1)) T.size (c.map T.enc++(x::r).map λx=>(Wi f (.v T x)).pe)))):=by rw[ZD A];rfl
    have hx:(c.map T.enc++(x::r).map λx=>(Wi f (.v T x)).pe)[c.length]? =ab (Wi f (.v T x)).pe:=by
     have:=EC (c.map T.enc) (r.map λx=>(Wi f (.v T x)).pe) (Wi f (.v T x)).pe;rw[yx]at this;exact this
    refine ZH8 (yM:=f) Z hx ?_;have Q:=mV (L:=lk (h++[ah.log U e []])) f _ d W
    have e3:(TD.own h.length ad U ad).er (lk (h++[ah.log U e []]))=.own h.length ad U.size []:=by
     rw[TD.er,mU];rfl
    rw[e3,TD.er]at Q;rw[ZE];exact Q
   .rw[I,ve s];exact X
 .cases k
theorem ZKB{H:yL ar}{j s c v N:Nat}{st:Bool}{e A:yb}{x y:Dv}{yM:yL Nat}(G:H[j]? =ab (.row v s st e (.arr N s [x])))
 (E:XD x yM c (.own H.length ad c [])=ab y):Xt H ((H++[ar.log c A []]).set j (.row v s st e (.arr N s [y]))):=by
 have f:=oa yM x y c _ rfl E;refine FJ G (λJ=>.inl ⟨rfl,rfl⟩) (λ⟨_,_,q⟩=>by cases q) (λ⟨_,_,q⟩=>by cases q) (λ_ _ _ q=>by cases q) (λo I=> ?_) (λv2 s2 M e2 d2 q=>by cases q;exact⟨_,_,rfl⟩) ?_
 .obtain⟨Q,N',S,T⟩:=I;exact⟨Q,N',by rw[<-S];simp[aJ],T⟩
 rintro J mi U W ⟨N',X,g⟩;refine⟨N',by rw[<-X];simp[aJ], ?_⟩;rcases g with g|⟨b,l,m,Y,Z,e5,e6,e7,F⟩
 .exact .inl g
 refine .inr ⟨b,l,m,Y,Z,e5,e6,e7, ?_⟩;simp only[yG]at F ⊢;obtain⟨r1,r2,r3⟩:=F;refine⟨by simpa using r1,λz hz=> ?_, ?_⟩
 .have:z=y:=by simpa using hz
  subst this;rw[f];exact r2 x (yav.2 rfl)
 .refine qb (x:=x) (y:=y) (λa t=>oc yM x y c _ (λa t=> ?_) E a t) [x] 0 _ rfl r3;have:=FK t;subst this;simp only[yG];exact⟨λ_ hx=>(by cases hx),ad,0,rfl,ym _,by simp[maxLen],Yd _,λ_=>rfl,λh=>absurd rfl h,A,[],U,ym _,λ_=>.inl ⟨W,rfl,rfl⟩⟩
theorem ZCR{yM:yL Nat}{U:Ty}{e:yb}{j:Nat}{a:yL TD}{h:yL ah}{K:Kh O}(k:FY yM U e j a h K=ab out):
 ∃t z,K t z=ab out/\t.length=a.length/\Xt (aA h) (aA z)/\∀(J:Sg)(c:Act),ay J (TD.au (lk h) a) c->ay J (TD.au (lk z) t) c:=by
 unfold FY at k;split at k
 .rename_i v s f n W x E;split at k
  .rename_i y Q;obtain⟨m,k⟩:=Za k;simp only[yi,yP]at m;obtain⟨hs,m,F⟩:=m;subst hs;have g:j < h.length:=(yp.1 E).1;have l:(h++[ah.log U e []])[j]? =ab (.row v s ae f (.arr n s [x])):=by rw[yaj g];exact E
   have G:lk ((h++[ah.log U e []]).set j (.row v s ae f (.arr n s [y])))=lk (h++[ah.log U e []]):=EA l rfl;refine⟨_,_,k,rfl, ?_,λJ c S=> ?_⟩
   .have T:aA ((h++[ah.log U e []]).set j (.row v s ae f (.arr n s [y])))=(aA h++[ar.log U.size e []]).set j (.row v s ae f (.arr n s [y.er (lk (h++[ah.log U e []]))])):=by
     rw[YA G,rH F];rfl
    rw[T]
    have I:(aA h++[ar.log U.size e []])[j]? =ab (.row v s ae f (.arr n s [x.er (lk (h++[ah.log U e []]))])):=by
     have A:aA (h++[ah.log U e []])=aA h++[ar.log U.size e []]:=by rw[rH F];rfl
     rw[<-A,ZD l];rfl
    rw[yaj (by rw[ZE];exact g)]at I;refine ZKB (yM:=yM) I ?_;have M:=mV (L:=lk (h++[ah.log U e []])) yM _ y Q
    have A:(TD.own h.length ad U ad).er (lk (h++[ah.log U e []]))=.own h.length ad U.size []:=by
     rw[TD.er,mU];rfl
    rw[A]at M;rw[ZE];exact M
   .rw[G,ve m];exact S
  .exact⟨_,_,k,rfl,Xt.refl _,λ_ _ r=>r⟩
 .exact⟨_,_,k,rfl,Xt.refl _,λ_ _ r=>r⟩
theorem ZqF{yM:yL Nat}{U:Ty}{e:yb}:∀{l:yL Nat}{a:yL TD}{h:yL ah}{K:Kh O},vc yM U e l a h K=ab out->
 ∃f g,K f g=ab out/\f.length=a.length/\Xt (aA h) (aA g)/\∀(J:Sg)(c:Act),ay J (TD.au (lk h) a) c->ay J (TD.au (lk g) f) c
 |[],a,h,K,k=>⟨_,_,k,rfl,Xt.refl _,λ_ _ r=>r⟩
 |j::r,a,h,K,k=>by
  obtain⟨F,G,k,m,s,t⟩:=ZCR (K:=λa h=>vc yM U e r a h K) k;obtain⟨x,y,k,z,A,E⟩:=ZqF k;exact⟨x,y,k,z.trans m,s.trans A,λJ c r=>E J c (t J c r)⟩
theorem ZId(e:ah):dc (ab (ja e))=dc (ab e):=by cases e <;> rfl
theorem vf(ids:yL Nat)(H:yL ah)(i:Nat):(ia ids H)[i]? =(H[i]?).map λe=>if ids.contains i then ja e else e:=by
 unfold ia;rw[List.getElem?_zipWith];rcases yck i H.length with h|h
 .rw[List.getElem?_range h,yae h];rfl
 .rw[yat (by simpa using h),yat h];rfl
theorem Zwa(ids:yL Nat)(H:yL ah):lk (ia ids H)=lk H:=by
 funext i;unfold lk;rw[vf]
 cases H[i]? with
 |none=>rfl
 |some e=>
  show dc (ab (if ids.contains i=ae then ja e else e))=_
  split
  .exact ZId e
  .rfl
theorem ZFF(ids:yL Nat)(H:yL ah):ca (aA H) (aA (ia ids H)):=by
 refine EK (by rw[ZE,ZE];unfold ia;simp) λi a b c f=> ?_;unfold aA at c f;rw[yah]at c f;rw[Zwa,vf]at f
 cases g:H[i]? with
 |none=>rw[g]at c;cases c
 |some e=>
  rw[g]at c f;cases c;cases f;show dI (e.er (lk H)) (ah.er (lk H) (if ids.contains i=ae then ja e else e))
  split
  .cases e <;> first|exact .refl _|exact .lock
  .exact .refl _
theorem ZIe{h H:yL ah}{d:TD}{q:TD×yL Nat}(hq:rE h d=ab q)(Q:lk H=lk h)(hl:∀j,j∈q.2->∀e,h[j]? =ab e->H[j]? =ab (ja e)):
 (q.1.er (lk H)).size=(d.er (lk H)).size/\∀J:Sg,Ok J->J.H=aA H->∀us,yG J (d.er (lk H)) us->yG J (q.1.er (lk H)) us:=by
 have z:∀x:TD,(q.1.er (lk H)).size=(q.1.er (lk H)).size/\∀J:Sg,Ok J->J.H=aA H->∀us,yG J (q.1.er (lk H)) us->yG J (q.1.er (lk H)) us:=λ_=>⟨rfl,λ_ _ _ _ r=>r⟩
 have row:∀(j:Nat)(v:Nat)(s:Nat)(e:yb)(g:yL Pl)(T:Ty)(l:yL T.aE),(TD.rw j).er (lk H)=.rv j v s 0 g.length->(aA H)[j]? =ab (.row v s af e (.p (.arr g.length s g)))->s=T.size->g=l.map T.enc->
  ((TD.p (.sl ad T l)).er (lk H)).size=((TD.rw j).er (lk H)).size/\∀J:Sg,Ok J->J.H=aA H->∀us,yG J ((TD.rw j).er (lk H)) us->yG J ((TD.p (.sl ad T l)).er (lk H)) us:=by
  intro j v s e g T l A E F G;subst F;rw[A];refine⟨rfl,λJ I f us r=> ?_⟩;have y:=bp.mI (H:=J.H) (lo:=0) (n:=g.length) (by rw[f];exact E) (by omega);rw[List.drop_zero,List.take_length]at y;have:=zL I y us r;rw[TD.er,TP.pe, <-G];simpa[yG] using this
 unfold rE at hq;split at hq
 .rename_i j;split at hq
  .rename_i T M v st e c m;cases hq;have f:=hl j (yay ..) _ m;have t:=kE (q:=(v.length,T.size,c.length+0)) (x:=ja (.aJ T M v st e c [])) f rfl;refine row j v.length T.size e (c.map T.enc) T c (by rw[t.1,yx];rfl) ?_ rfl rfl;rw[ZD f,yx];simp only[ja,ah.er,List.map_nil,ybb,yce,ycl]
  .rename_i T v st e l m;cases hq;have f:=hl j (yay ..) _ m;have t:=QJ (T:=T) (v:=v) (st:=af) (e:=e) (l:=l) f;refine row j v.length T.size e (l.map T.enc) T l (by rw[t.1,yx]) ?_ rfl rfl;rw[ZD f,yx];rfl
  .cases hq
 .cases hq;exact z d
theorem Zwb{h H:yL ah}:∀{f:yL TD}{q:yL TD×yL Nat},rF h f=ab q->lk H=lk h->(∀j,j∈q.2->∀e,h[j]? =ab e->H[j]? =ab (ja e))->
 Dv.sizes (TD.au (lk H) q.1)=Dv.sizes (TD.au (lk H) f)/\∀J:Sg,Ok J->J.H=aA H->∀us,aC J (TD.au (lk H) f) us->aC J (TD.au (lk H) q.1) us
 |[],q,c,g,l=>by cases c;exact⟨rfl,λ_ _ _ _ r=>r⟩
 |d::r,q,c,g,l=>by
  simp only[rF]at c;split at c
  .rename_i U W y z;cases c;obtain⟨A,E⟩:=ZIe y g (λj m=>l j (List.mem_append_left _ m));obtain⟨F,G⟩:=Zwb z g (λj m=>l j (List.mem_append_right _ m));refine⟨by simp only[TD.au,Dv.sizes];rw[A,F],λJ s t us x=> ?_⟩;simp only[TD.au,aC]at x ⊢;obtain⟨I,M,Q,S,T⟩:=x;exact⟨I,M,Q,E J s t _ S,G J s t _ T⟩
  .cases c
theorem ZqG{t:Tmp}{a:yL TD}{h:yL ah}{K:Kh O}(k:rG t a h K=ab out):
 ∃m s,K m s=ab out/\m.length=a.length/\Xt (aA h) (aA s)/\∀(J:Sg)(c:Act),ay J (TD.au (lk h) a) c->ay J (TD.au (lk s) m) c:=by
 unfold rG at k;split at k
 .rename_i id hid;split at k
  .rename_i l st z;obtain⟨q,A,k⟩:=ZqE k
   have f:(ia q.2 h)[id]? =ab (.var (.agg l) st):=by
    rw[vf,z];show ab (if q.2.contains id=ae then ja (.var (.agg l) st) else .var (.agg l) st)=_
    split <;> rfl
   have g:lk (ia q.2 h)=lk h:=Zwa _ _;have y:lk ((ia q.2 h).set id (.var (.agg q.1) st))=lk (ia q.2 h):=Wc f rfl rfl;refine⟨_,_,k,rfl,(oI (ZFF q.2 h)).trans ?_,λJ c E=>by rw[y,g];exact E⟩;rw[YA y];have x:(aA (ia q.2 h))[id]? =ab (.var (.agg (TD.au (lk (ia q.2 h)) l)) st):=by rw[ZD f];rfl
   obtain⟨F,G⟩:=Zwb (H:=ia q.2 h) A g (λj x e I=>by
    rw[vf,I];show ab (if q.2.contains j=ae then ja e else e)=_
    rw[yW (by simpa using x)])
   refine ZKA x ?_ λJ M Q S r=> ?_
   .exact F
   .simp only[TD.er,yG]at r ⊢;exact G J M Q S r
  .cases k
 .cases k
theorem ZAw{L:Lk}{c:yL TD}{i:Nat}{x y:TD}(h:c[i]? =ab x)(e:y.er L=x.er L):TD.au L (c.set i y)=TD.au L c:=by
 rw[ZC,ZC,List.map_set,e];apply ybg;intro k;by_cases f:i=k
 .subst f;rw[ycw (by rw[yx];exact(yp.1 h).1),yah,h];rfl
 .rw[List.getElem?_set_ne f]
theorem Zox{t:Tmp}{i:Nat}{a:yL TD}{h:yL ah}{K:Kh O}(k:uZ t i a h K=ab out):
 ∃x y,K x y=ab out/\x.length=a.length/\Xt (aA h) (aA y)/\∀(J:Sg)(f:Act),ay J (TD.au (lk h) a) f->ay J (TD.au (lk y) x) f:=by
 unfold uZ at k;split at k
 .rename_i j W;split at k
  .rename_i m st z;split at k
   .rename_i id v s n F;split at k
    .rename_i T w G e l I;obtain⟨c,M⟩:=Za k;clear k;rw[yi,yi,yP,yP,yP]at c;obtain⟨rfl,rfl,rfl⟩:=c;have A:lk (h.set j (.var (.agg (m.set i (.rw id))) st))=lk h:=Wc z rfl rfl
     have Q:(TD.rw id).er (lk h)=(TD.rv id w.length T.size 0 l.length).er (lk h):=by
      refine(uv (v:=w) (s:=T.size) (N:=l.length) ?_).1;unfold Yb lk;dsimp only;rw[I];rfl
     refine⟨_,_,M,rfl, ?_,λJ f S=>by rw[A];exact S⟩
     have U:aA (h.set j (.var (.agg (m.set i (.rw id))) st))=aA h:=by
      rw[YA A];show(aA h).set j (.var (.agg (TD.au (lk h) (m.set i (.rw id)))) st)=aA h;rw[ZAw F Q];apply ybg;intro q;by_cases E:j=q
      .subst E;have g:(aA h)[j]? =ab (.var (.agg (TD.au (lk h) m)) st):=by rw[ZD z];rfl
       rw[ycw (yp.1 g).1,g]
      .rw[List.getElem?_set_ne E]
     rw[U];exact Xt.refl _
    .cases k
   .cases k
  .cases k
 .cases k
theorem ZAx{h:yL ah}{id:Nat}{T:Ty}{w:yL Unit}{st:Bool}{e:yb}{l:yL T.aE}(c:h[id]? =ab (.aF T w st e l)):(TD.rw id).er (lk h)=(TD.rv id w.length T.size 0 l.length).er (lk h):=by
 refine(uv (v:=w) (s:=T.size) (N:=l.length) ?_).1;unfold Yb lk;dsimp only;rw[c];rfl
theorem ZuK{t:Tmp}{a:yL TD}{h:yL ah}{K:Kh O}(k:FQ t a h K=ab out):
 ∃g j,K g j=ab out/\g.length=a.length/\Xt (aA h) (aA j)/\∀(J:Sg)(f:Act),ay J (TD.au (lk h) a) f->ay J (TD.au (lk j) g) f:=by
 unfold FQ at k;split at k
 .rename_i id v s n m;split at k
  .rename_i T w x e l y;obtain⟨c,z⟩:=Za k;clear k;rw[yi,yi,yP,yP,yP]at c;obtain⟨rfl,rfl,rfl⟩:=c;exact⟨_,_,z,yax,Xt.refl _,λJ f A=>by rw[ZAw m (ZAx y)];exact A⟩
  .cases k
 .cases k
theorem ZuL{t:Tmp}{a:yL TD}{h:yL ah}{K:Kh O}(k:FR t a h K=ab out):
 ∃m x,K m x=ab out/\m.length=a.length/\Xt (aA h) (aA x)/\∀(J:Sg)(f:Act),ay J (TD.au (lk h) a) f->ay J (TD.au (lk x) m) f:=by
 unfold FR at k;split at k
 .rename_i j Q;split at k
  .rename_i id v s n st y;split at k
   .rename_i T w E e l F;obtain⟨c,G⟩:=Za k;clear k;rw[yi,yi,yP,yP,yP]at c;obtain⟨rfl,rfl,rfl⟩:=c;have z:lk (h.set j (.var (.rw id) st))=lk h:=Wc y rfl rfl;refine⟨_,_,G,rfl, ?_,λJ f I=>by rw[z];exact I⟩
    have M:aA (h.set j (.var (.rw id) st))=aA h:=by
     rw[YA z];show(aA h).set j (.var ((TD.rw id).er (lk h)) st)=aA h;rw[ZAx F];apply ybg;intro q;by_cases A:j=q
     .subst A;have g:(aA h)[j]? =ab (.var ((TD.rv id w.length T.size 0 l.length).er (lk h)) st):=by rw[ZD y];rfl
      rw[ycw (yp.1 g).1,g]
     .rw[List.getElem?_set_ne A]
    rw[M];exact Xt.refl _
   .cases k
  .cases k
 .cases k
theorem ZEi:∀{l:yL Dv}{i:Nat}{d e:Dv},l[i]? =ab d->Wk d e->cu l (l.set i e)
 |[],_,_,_,h,_=>by simp at h
 |x::r,0,d,e,h,k=>by
  simp only[ybt,yj]at h;subst h
  exact .cons k (cu.refl r)
 |x::r,i+1,d,e,h,k=>by
  simp only[ybe]at h;exact .cons (Wk.refl x) (ZEi h k)
theorem ZIf{L:Lk}:∀{c:yL TD}{i:Nat}{d e:TD},c[i]? =ab d->(TD.au L c)[i]? =ab (d.er L)/\TD.au L (c.set i e)=(TD.au L c).set i (e.er L)
 |[],_,_,_,h=>by simp at h
 |x::r,0,d,e,h=>by
  simp only[ybt,yj]at h;subst h
  exact⟨rfl,rfl⟩
 |x::r,i+1,d,e,h=>by
  simp only[ybe]at h;obtain⟨f,g⟩:=ZIf (e:=e) h;exact⟨f,by show x.er L::TD.au L (r.set i e)=_;rw[g];rfl⟩
theorem ZCS{t:Tmp}{i:Nat}{T:Ty}{a:yL TD}{h:yL ah}{K:Kh O}(k:FS t i T a h K=ab out):
 ∃s z,K s z=ab out/\s.length=a.length/\Xt (aA h) (aA z)/\∀(J:Sg)(c:Act),ay J (TD.au (lk h) a) c->ay J (TD.au (lk z) s) c:=by
 unfold FS at k;split at k
 .rename_i j M;split at k
  .rename_i m st g;split at k
   .rename_i x F;obtain⟨y,A,k⟩:=yf.1 k;have l:lk (h.set j (.var (.agg (m.set i (.p (.v T y)))) st))=lk h:=Wc g rfl rfl;refine⟨_,_,k,rfl, ?_,λJ c E=>by rw[l];exact E⟩;rw[YA l];have f:(aA h)[j]? =ab (.var (.agg (TD.au (lk h) m)) st):=by rw[ZD g];rfl
    obtain⟨G,I⟩:=ZIf (L:=lk h) (e:=.p (.v T y)) F;refine oI (ca.dh f (dI.var ?_));show Wk (.agg (TD.au (lk h) m)) (.agg (TD.au (lk h) (m.set i (.p (.v T y)))));rw[I];exact cu.agg (ZEi G (Wk.p (oj A)))
   .cases k
  .rename_i x st g;obtain⟨y,A,k⟩:=yf.1 k;have l:lk (h.set j (.var (.p (.v T y)) st))=lk h:=Wc g rfl rfl;refine⟨_,_,k,rfl, ?_,λJ c E=>by rw[l];exact E⟩;rw[YA l];have f:(aA h)[j]? =ab (.var (.p x.pe) st):=by rw[ZD g];rfl
   exact oI (ca.dh f (dI.var (Wk.p (oj A))))
  .cases k
 .cases k
theorem Wk.df{n s:Nat}{xs:yL Pl}:Wk (.p (.arr n s xs)) (.arr n s (xs.map Dv.p)):=⟨rfl,rfl,λJ vs r=>by
 simp only[yG,aq]at r ⊢;exact⟨by rw[yx];exact r.1,λx c=>by obtain⟨y,e,rfl⟩:=ybj.1 c;exact r.2.1 y e,jq.2 r.2.2⟩⟩
theorem ZIg(L:Lk)(x:TP):Wk (.p x.pe) ((oJ x).er L):=by
 unfold oJ;split
 .rename_i n s c;show Wk (.p (.arr n s (TP.bQ c))) (.arr n s (TD.au L (c.map TD.p)));rw[qE];exact Wk.df
 .exact Wk.refl _
theorem Zwc(L:Lk):∀(xs:yL TP),cu ((TP.bQ xs).map Dv.p) (TD.au L (xs.map oJ))
 |[]=>cu.nil
 |x::r=>cu.cons (ZIg L x) (Zwc L r)
theorem ZAy{t:Tmp}{a:yL TD}{h:yL ah}{K:Kh O}(k:FT t a h K=ab out):
 ∃x y,K x y=ab out/\x.length=a.length/\Xt (aA h) (aA y)/\∀(J:Sg)(f:Act),ay J (TD.au (lk h) a) f->ay J (TD.au (lk y) x) f:=by
 unfold FT at k;split at k
 .rename_i j F;split at k
  .rename_i n s c st l;have m:lk (h.set j (.var (.arr n s (c.map TD.p)) st))=lk h:=Wc l rfl rfl;refine⟨_,_,k,rfl, ?_,λJ f z=>by rw[m];exact z⟩;rw[YA m];have g:(aA h)[j]? =ab (.var (.p (.arr n s (TP.bQ c))) st):=by rw[ZD l];rfl
   refine oI (ca.dh g (dI.var ?_));show Wk (.p (.arr n s (TP.bQ c))) (.arr n s (TD.au (lk h) (c.map TD.p)))
   have e:TD.au (lk h) (c.map TD.p)=(TP.bQ c).map Dv.p:=by
    rw[ZC,VI,ybc,ybc];rfl
   rw[e];exact Wk.df
  .rename_i c st l;have m:lk (h.set j (.var (.agg (c.map oJ)) st))=lk h:=Wc l rfl rfl;refine⟨_,_,k,rfl, ?_,λJ f z=>by rw[m];exact z⟩;rw[YA m];have g:(aA h)[j]? =ab (.var (.p (.agg (TP.bQ c))) st):=by rw[ZD l];rfl
   refine oI (ca.dh g (dI.var ?_));show Wk (.p (.agg (TP.bQ c))) (.agg (TD.au (lk h) (c.map oJ)));have A:=UN (TP.bQ c);have E:=cu.agg (Zwc (lk h) c);exact⟨A.size.trans E.size,A.agg.trans E.agg,λJ vs r=>E.cG J vs (A.cG J vs r)⟩
  .exact⟨_,_,k,rfl,Xt.refl _,λ_ _ r=>r⟩
 .exact⟨_,_,k,rfl,Xt.refl _,λ_ _ r=>r⟩
theorem ZAz{t:Tmp}{a:yL TD}{h:yL ah}{K:Kh O}(k:FX t a h K=ab out):
 ∃e f,K e f=ab out/\e.length=a.length/\Xt (aA h) (aA f)/\∀(J:Sg)(c:Act),ay J (TD.au (lk h) a) c->ay J (TD.au (lk f) e) c:=by
 unfold FX at k;split at k
 .rename_i j A;split at k
  .rename_i d st m;obtain⟨x,y,k⟩:=yf.1 k;have s:lk (h.set j (.var (.p x) st))=lk h:=Wc m rfl rfl;refine⟨_,_,k,rfl, ?_,λJ c z=>by rw[s];exact z⟩;rw[YA s];have g:(aA h)[j]? =ab (.var (d.er (lk h)) st):=by rw[ZD m];rfl
   have l:(d.er (lk h)).flat=ab x.pe:=by rw[qp,y];rfl
   refine oI (ca.dh g (dI.var ?_))
   exact⟨(tn _ _ l).symm,(xw l).symm,λJ vs r=>by
    have:=pG _ _ _ l r;show yG J (.p x.pe) vs;simp only[yG];exact this⟩
  .cases k
 .cases k
theorem ZqH{z:Int}{t:Tmp}{a:yL TD}{h:yL ah}{K:Kh O}(ha:a.getD t .an=.p (.v (.int .i64) z)):∀{ks:yL Nat},va z t a h K ks=ab out->K a h=ab out
 |[],k=>by cases k
 |n::r,k=>by
  unfold va at k;split at k
  .rename_i e;have e:z=(n:Int):=by simpa using e
   rw[bD (by rw[ha,e])]at k;exact k
  .exact ZqH ha k
theorem Zyc{t:Tmp}{ks:yL Nat}{a:yL TD}{h:yL ah}{K:Kh O}(k:FU t ks a h K=ab out):
 ∃e f,K e f=ab out/\e.length=a.length/\Xt (aA h) (aA f)/\∀(J:Sg)(c:Act),ay J (TD.au (lk h) a) c->ay J (TD.au (lk f) e) c:=by
 unfold FU at k;split at k
 .rename_i z g;exact⟨_,_,ZqH g k,rfl,Xt.refl _,λ_ _ r=>r⟩
 .cases k
theorem Zwd{α:Type}{l:yL α}{i:Nat}{x:α}(h:l[i]? =ab x):l.set i x=l:=by
 apply ybg;intro j;rw[ybm];split
 .rename_i e;subst e;rw[h,yW (yp.1 h).1]
 .rfl
theorem Zoy{w:Nat}{f:Nat->yO O}:∀{ks:yL Nat},vb w f ks=ab out->f w=ab out
 |[],k=>by cases k
 |n::r,k=>by
  unfold vb at k;split at k
  .rename_i e;rw[ydb e];exact k
  .exact Zoy k
theorem ZuM{t:Tmp}{i:Nat}{ks:yL Nat}{a:yL TD}{h:yL ah}{K:Kh O}(k:FV t i ks a h K=ab out):
 ∃e f,K e f=ab out/\e.length=a.length/\Xt (aA h) (aA f)/\∀(J:Sg)(c:Act),ay J (TD.au (lk h) a) c->ay J (TD.au (lk f) e) c:=by
 unfold FV at k;split at k
 .split at k
  .rename_i j _ m st g;split at k
   .rename_i w y l;have k:=Zoy k;rw[Zwd l,Zwd g]at k;exact⟨_,_,k,rfl,Xt.refl _,λ_ _ r=>r⟩
   .cases k
  .cases k
 .cases k
theorem ZIh{g:yO jH}{a:yL TD}{h:yL ah}{K:Kh O}(k:FZ g a h K=ab out):
 ∃f j,K f j=ab out/\f.length=a.length/\Xt (aA h) (aA j)/\∀(J:Sg)(c:Act),ay J (TD.au (lk h) a) c->ay J (TD.au (lk j) f) c:=by
 unfold FZ at k;split at k
 .exact⟨_,_,k,rfl,Xt.refl _,λ_ _ r=>r⟩
 .rename_i g
  cases g with
  |rows t s T e S=>exact ZAu k
  |focus t U e=>exact Zyb k
  |done t=>exact ZqG k
  |fresh t i=>exact Zox k
  |bj t s T e=>exact ZAv k
  |iX t=>exact ZuK k
  |iY t=>exact ZuL k
  |fw t i=>
   obtain⟨W,X,k,x,y,z⟩:=Zox (K:=λa h=>rG t a h K) k;obtain⟨A,E,k,F,G,I⟩:=ZqG k
   exact⟨A,E,k,F.trans x,y.trans G,λJ c r=>I J c (z J c r)⟩
  |any t i T=>exact ZCS k
  |df t=>exact ZAy k
  |split t ks=>exact Zyc k
  |nn t=>
   replace k:FW t a h K=ab out:=k
   unfold FW at k;split at k
   .exact⟨_,_,k,rfl,Xt.refl _,λ_ _ r=>r⟩
   .cases k
  |flat t=>exact ZAz k
  |rD s U e=>exact ZqF k
  |iZ t i ks=>exact ZuM k
  |hole=>
   replace k:K a (h++[.gone])=ab out:=k
   refine⟨_,_,k,rfl, ?_,λJ c M=>by rw[hP rfl];exact M⟩;rw[Q0 (hP rfl)];intro J Q e;obtain⟨to,l⟩:=RJ Q;exact⟨{ J with m:=J.m++[ad],H:=J.H++[.gone]},rfl,by rw[<-e];rfl,to,l⟩
end
end Go.Ev
end
section
namespace Go.Ev
section
variable{P:yg}
theorem ZAA{x y:Code}{ts g h:yL Dv}{H H1 H2:yL ar}{t:Ex}(r1:Wq P x ts H .normal g H1)(z:Wq P y g H1 t h H2):Wq P (.seq x y) ts H t h H2:=by
 intro J a A E F;refine wp_seq (wp_mono (r1 J a A E F) ?_);rintro e G T ⟨rfl,J1,rfl,I,j,l,c⟩;refine wp_mono (z J1 G l I c) ?_;rintro e M Q ⟨rfl,J2,rfl,S,m,s,f⟩;exact⟨rfl,J2,rfl,S,j.trans m,s,f⟩
theorem Zwe{x y:Code}{ts c:yL Dv}{H H1:yL ar}{f:Ex}(g:f≠ .normal)(r1:Wq P x ts H f c H1):Wq P (.seq x y) ts H f c H1:=by
 intro J a j l m;refine wp_seq (wp_mono (r1 J a j l m) ?_);rintro e s t ⟨rfl,h⟩
 cases f with
 |normal=>exact absurd rfl g
 |exit id=>exact⟨rfl,h⟩
 |ret=>exact⟨rfl,h⟩
theorem vg{c:Operand}{x y:Code}{ts e:yL Dv}{H H1:yL ar}{h:Ex}{b:Bool}(hc:Zo P ts 0 c=.p (.bool b))(r1:Wq P (if b then x else y) ts H h e H1):Wq P (.cond c x y) ts H h e H1:=by
 intro J a j l f;have g:=Zh (P:=P) f 0 c;rw[hc]at g;cases b
 .exact wp_cond_false (Y6 g) (r1 J a j l f)
 .exact wp_cond_true (Y6 g) (r1 J a j l f)
def GA(id:Nat):Ex->Ex
 |.exit i=>if i=id then .normal else .exit i
 |c=>c
theorem ZCT{id:Nat}{c:Code}{ts f:yL Dv}{H H1:yL ar}{h:Ex}(r1:Wq P c ts H h f H1):Wq P (.block id c) ts H (GA id h) f H1:=by
 intro J a j l m;refine wp_block (wp_mono (r1 J a j l m) ?_);rintro e t x ⟨rfl,g⟩
 cases h with
 |normal=>exact⟨rfl,g⟩
 |exit s=>
  simp only[Ex.to,Exit.inBlock,GA];split
  .exact⟨rfl,g⟩
  .exact⟨rfl,g⟩
 |ret=>exact⟨rfl,g⟩
theorem ZCU{c:Code}{ts f:yL Dv}{H H1:yL ar}{g:Ex}(r1:Wq P c ts H g f H1):Wq P (.scope c) ts H g f H1:=by
 intro J a h j l;refine wp_scope_straight (wp_mono (r1 J a h j l) ?_);rintro e s t ⟨rfl,m⟩;cases g <;> exact⟨rfl,m⟩
theorem ZFG{ts:yL Dv}{H:yL ar}:Wq P .skip ts H .normal ts H:=λJ a c e f=>wp_skip ⟨rfl,J,rfl,e,To.refl J,c,f⟩
theorem ZCV{n:Nat}{ts:yL Dv}{H:yL ar}:Wq P (.label n) ts H .normal ts H:=λJ a c e f=>wp_label ⟨rfl,J,rfl,e,To.refl J,c,f⟩
theorem ZFH{n:Nat}{ts:yL Dv}{H:yL ar}:Wq P (.exit n) ts H (.exit n) ts H:=λJ a c e f=>wp_exit ⟨rfl,J,rfl,e,To.refl J,c,f⟩
theorem ZIi{ts:yL Dv}{H:yL ar}:Wq P .ret ts H .ret ts H:=λJ a c e f=>wp_ret ⟨rfl,J,rfl,e,To.refl J,c,f⟩
theorem Zwf{c:Code}{ts g:yL Dv}{H H1:yL ar}{l:Ex}(keep:yL Nat)(r:Wq P c ts H l g H1):Wq P c ts H l (ZR keep 0 g) H1:=by
 intro J a m s t;refine wp_mono (r J a m s t) ?_;rintro e y z ⟨rfl,J1,rfl,x,h,j,f⟩;exact⟨rfl,J1,rfl,x,h,j,qd keep f⟩
def rI(n0:Nat)(sl:ce)(es:yL bh)(a:yL TD)(h:yL ah):yO (yL TV):=
 if once (yu n0++[]) then(Wz h (yu n0++[]) (yu n0++[])).bind λc=>(TD.bi (aR (yu n0++[])) (gD (sl.map (·.1)) 0 a)).bind λe=>
  (Sh.cZ (lk c) (qZ sl a.length) e).bind λq=>(bh.cZ (lk c) es c).bind λw=>ab (q.2++w.2)
 else ad
theorem ZCW{n0:Nat}{sl:ce}{es:yL bh}{a:yL TD}{h:yL ah}{vs:yL TV}(k:rI n0 sl es a h=ab vs):
 ∃l h3,Q2 a.length sl es vs=ab (l,h3)/\∀{c:Code}{ts:yL Dv}{H:yL ar}{e:Ex},H.length=n0->Wq P c ts H e (TD.au (lk h) a) (aA h)->Wq P c ts H e (TD.au (lk h3) l) (aA h3):=by
 unfold rI at k;split at k
 .rename_i y;obtain⟨z,f,k⟩:=yf.1 k;obtain⟨G,A,k⟩:=yf.1 k;obtain⟨q,m,k⟩:=yf.1 k;obtain⟨w,g,k⟩:=yf.1 k;cases k;obtain⟨I,E⟩:=qX g;have s:∀id t,Yb (lk z) id t ad=Yb (lk w.1) id t ad:=λid t=>by rw[E]
  refine⟨q.1,w.1, ?_,λ{c ts H e}j r=> ?_⟩
  .unfold Q2;rw[bv _ _ _ m];have:=oz g [];rw[ybb]at this;rw[ya,this];rfl
  .have x:=Zwf (sl.map (·.1)) r;rw[<-rz]at x;have F:=RZ [] [] x (by rw[j];exact y) (by rw[j];exact WQ (fu f) f) (by rw[j];exact cx (fu f) _ _ A);exact SC F (cw s _ _ _ m) (qY s g)
 .cases k
theorem ZCX{n0:Nat}{sl:ce}{es:yL bh}{a:yL TD}{h:yL ah}{vs:yL TV}(Q:h.length=n0)(k:rI n0 sl es a h=ab vs):
 ∃E h3,Q2 a.length sl es vs=ab (E,h3)/\∀(J:Sg)(c:Act),Ok J->J.H=aA h->ay J (TD.au (lk h) a) c->∃J':Sg,J'.w=J.w/\J'.H=aA h3/\To J J'/\Ok J'/\ay J' (TD.au (lk h3) E) c:=by
 subst Q;unfold rI at k;split at k
 .rename_i S;obtain⟨f,l,k⟩:=yf.1 k;obtain⟨T,U,k⟩:=yf.1 k;obtain⟨q,F,k⟩:=yf.1 k;obtain⟨w,m,k⟩:=yf.1 k;cases k;obtain⟨Z,W⟩:=qX m;have G:∀id t,Yb (lk f) id t ad=Yb (lk w.1) id t ad:=λid t=>by rw[W]
  refine⟨q.1,w.1, ?_,λJ c I s X=> ?_⟩
  .unfold Q2;rw[bv _ _ _ F];have:=oz m [];rw[ybb]at this;rw[ya,this];rfl
  .have M:=qd (sl.map (·.1)) X;rw[<-rz]at M
   have e:aH J.H (yu J.H.length++[]) (yu J.H.length++[])=ab (aA f):=by
    rw[s,ZE];exact WQ (fu l) l
   have g:once (yu J.H.length++[])=ae:=by rw[s,ZE];exact S
   have x:Dv.bi (aR (yu J.H.length++[])) (TD.au (lk h) (gD (sl.map (·.1)) 0 a))=ab (TD.au (lk f) T):=by
    rw[s,ZE];exact cx (fu l) _ _ U
   have Y:=zy (lg e) x M;have y:=zw I (To.refl J) g e;have z:=tQ I g e;obtain⟨j,A⟩:=js (J:=iN J (yu J.H.length++[]) (aA f)) z (H':=aA w.1) (qY G m);exact⟨{ iN J (yu J.H.length++[]) (aA f) with H:=aA w.1},rfl,rfl,y.trans j,A,(cw G _ _ _ F).pM (Y.to j.leaf)⟩
 .cases k
def GB(L:Lk):bh->ah->yO ah
 |.aJ _ _ _ _,.bz u h v st e f g c=>(EH L u g).map λy=>.aJ u h v st e (f++[y]) c
 |_,x=>ab x
def rJ(L:Lk):yL bh->yL ah->yO (yL ah)
 |[],h=>ab h
 |_::_,[]=>ab []
 |s::r,x::h=>match GB L s x,rJ L r h with
  |some y,ab c=>ab (y::c)
  |_,_=>ad
theorem ZKC{L:Lk}{s:bh}{x y:ah}(h:GB L s x=ab y):dc (ab y)=dc (ab x)/\dI (x.er L) (y.er L):=by
 unfold GB at h;split at h
 .rename_i u m v st e g j f;obtain⟨c,l,rfl⟩:=Zd h;refine⟨?_,UR (UO l)⟩;simp only[dc,yn,yam,yce];rw[yci,Nat.add_comm (0+1)]
 .cases h;exact⟨rfl,.refl _⟩
theorem ZEj{L:Lk}:∀{es:yL bh}{h c:yL ah},rJ L es h=ab c->c.length=h.length/\(∀j:Nat,dc (c[j]?)=dc (h[j]?))/\ca (h.map (ah.er L)) (c.map (ah.er L))
 |[],h,c,k=>by cases k;exact⟨rfl,λ_=>rfl,ca.refl _⟩
 |_::_,[],c,k=>by cases k;exact⟨rfl,λ_=>rfl,ca.refl _⟩
 |s::r,x::h,c,k=>by
  simp only[rJ]at k;split at k
  .rename_i y A e f;cases k;obtain⟨g,l⟩:=ZKC e;obtain⟨m,t,z⟩:=ZEj f;refine⟨by simp[m],λj=> ?_,.cons l z⟩
   cases j with
   |zero=>exact g
   |succ j=>exact t j
  .cases k
theorem ZEk{es:yL bh}{h f:yL ah}(k:rJ (lk h) es h=ab f):f.length=h.length/\lk f=lk h/\ca (aA h) (aA f):=by
 obtain⟨a,b,c⟩:=ZEj k;have e:lk f=lk h:=funext b;refine⟨a,e, ?_⟩;unfold aA;rw[e];exact c
def oK(n0:Nat)(sl:ce)(es:yL bh)(a:yL TD)(h:yL ah):yO (yL TV):=(rJ (lk h) es h).bind λh=>rI n0 sl es a h
theorem Zwg{n0:Nat}{sl:ce}{es:yL bh}{a:yL TD}{h:yL ah}{vs:yL TV}(k:oK n0 sl es a h=ab vs):
 ∃e h3,Q2 a.length sl es vs=ab (e,h3)/\∀{c:Code}{ts:yL Dv}{H:yL ar}{f:Ex},H.length=n0->Wq P c ts H f (TD.au (lk h) a) (aA h)->Wq P c ts H f (TD.au (lk h3) e) (aA h3):=by
 obtain⟨y,g,j⟩:=yf.1 k;obtain⟨z,l,m⟩:=ZEk g;obtain⟨e,h3,s,t⟩:=ZCW (P:=P) j;refine⟨e,h3,s,λx r=>t x ?_⟩;rw[l];exact SC r (cu.refl _) m
theorem Zwh{n0:Nat}{sl:ce}{es:yL bh}{a:yL TD}{h:yL ah}{vs:yL TV}(j:h.length=n0)(k:oK n0 sl es a h=ab vs):
 ∃e h3,Q2 a.length sl es vs=ab (e,h3)/\∀(J:Sg)(c:Act),Ok J->J.H=aA h->ay J (TD.au (lk h) a) c->∃J':Sg,J'.w=J.w/\J'.H=aA h3/\To J J'/\Ok J'/\ay J' (TD.au (lk h3) e) c:=by
 obtain⟨g,l,m⟩:=yf.1 k;obtain⟨s,t,x⟩:=ZEk l;obtain⟨e,h3,y,z⟩:=ZCX (by rw[s];exact j) m;refine⟨e,h3,y,λJ c A E F=> ?_⟩;obtain⟨to,f⟩:=js A (H':=aA g) (by rw[E];exact x);obtain⟨J2,G,I,M,Q,S⟩:=z { J with H:=aA g} c f rfl (by rw[t];exact F.to to.leaf);exact⟨J2,G,I,to.trans M,Q,S⟩
structure Lp where
 sl:ce
 es:List bh
 I:List Ty
 xs:List bW
 L:Ty.aK I->Option (bW.sum xs)
def Lp.Is(P:yg)(n:Nat)(c:Code)(lp:Lp):Prop:=
 ∀v o,lp.L v=ab o->∀s,Q2 n lp.sl lp.es (dN lp.I v)=ab s->∀e vs f,mZ lp.xs o e vs->Q2 n e.sl e.es vs=ab f->
  Wq P c (TD.au (lk s.2) s.1) (aA s.2) e.ex (TD.au (lk f.2) f.1) (aA f.2)
abbrev Lp.Ok(P:yg)(n:Nat)(c:Code)(lp:Lp):Prop:=lp.Is P n (.loop c)
structure FI where
 hi:HI:={}
 lp:List (Nat×Lp):=[]
 bk:List (Nat×Lp):=[]
 gh:List (Nat×jH):=[]
 un:Nat:=0
def Code.nl:Code->Nat
 |.seq a b=>Code.nl a+Code.nl b
 |.cond _ a b=>Code.nl a+Code.nl b
 |.block _ a=>Code.nl a
 |.scope a=>Code.nl a
 |.loop a=>Code.nl a+1
 |_=>0
def Code.ns:Code->Nat
 |.seq a b=>Code.ns a+Code.ns b+1
 |.cond _ a b=>Code.ns a+Code.ns b
 |.block _ a=>Code.ns a
 |.scope a=>Code.ns a
 |.loop a=>Code.ns a
 |_=>0
theorem kI:∀c:Code,(ZK c).length=Code.nl c
 |.seq a b=>by simp only[ZK,yn,kI a,kI b,Code.nl]
 |.cond _ a b=>by simp only[ZK,yn,kI a,kI b,Code.nl]
 |.block _ a=>by simp only[ZK,kI a,Code.nl]
 |.scope a=>by simp only[ZK,kI a,Code.nl]
 |.loop a=>by simp only[ZK,yam,kI a,Code.nl]
 |.skip=>rfl
 |.region _ _ _=>rfl
 |.rangeFunc _ _ _ _=>rfl
 |.exit _=>rfl
 |.ret=>rfl
 |.label _=>rfl
 |.goto _=>rfl
 |.refuse _=>rfl
def vh{O:Type}(step:yL TD->yL ah->Kc O->yO O):Nat->yL TD->yL ah->Kc O->yO O
 |0,_,_,_=>ad
 |k+1,a,h,K=>step a h λex c e=>match ex with
  |.normal=>vh step k c e K
  |ex=>K ex c e
theorem ZqI{O:Type}{c:Code}{N:Nat}{step:yL TD->yL ah->Kc O->yO O}
 (hs:∀(a:yL TD)(h:yL ah)(K:Kc O)(out:O),a.length=N->step a h K=ab out->∃g e f,K g e f=ab out/\e.length=N/\Wq P c (TD.au (lk h) a) (aA h) g (TD.au (lk f) e) (aA f)):
 ∀(k:Nat)(a:yL TD)(h:yL ah)(K:Kc O)(out:O),a.length=N->vh step k a h K=ab out->∃g e f,K g e f=ab out/\e.length=N/\oe P c (TD.au (lk h) a) (aA h) g (TD.au (lk f) e) (aA f)
 |0,_,_,_,_,_,k=>by cases k
 |n+1,a,h,K,out,z,k=>by
  unfold vh at k;obtain⟨g,s,t,j,x,y⟩:=hs _ _ _ _ z k;split at j
  .obtain⟨l,A,E,F,G,I⟩:=ZqI hs n s t K out x j;exact⟨l,A,E,F,G,RT [] y I⟩
  .rename_i m;exact⟨_,s,t,j,x,RR m y⟩
def oL(m:Nat)(a:yL TD)(h:yL ah):yL (Nat×Lp)->yO (Σ bk:Lp,Ty.aK bk.I)
 |[]=>ad
 |q::r=>if Nat.beq q.1 m=ae then match (oK h.length q.2.sl q.2.es a h).bind (hU q.2.I) with
   |some v=>ab ⟨q.2,v⟩
   |none=>oL m a h r
  else oL m a h r
theorem vi{m:Nat}{a:yL TD}{h:yL ah}{b:Σ bk:Lp,Ty.aK bk.I}:∀{l:yL (Nat×Lp)},oL m a h l=ab b->(m,b.1)∈l/\∃vs,oK h.length b.1.sl b.1.es a h=ab vs/\hU b.1.I vs=ab b.2
 |[],k=>by cases k
 |q::r,k=>by
  unfold oL at k;split at k
  .rename_i g;split at k
   .rename_i v j;cases k;have e:=ydb g;refine⟨?_,yf.1 j⟩;rw[<-e];exact yay ..
   .obtain⟨c,f⟩:=vi k;exact⟨yba _ c,f⟩
  .obtain⟨c,f⟩:=vi k;exact⟨yba _ c,f⟩
def fx{O:Type}(P:yg)(fi:FI)(aD:Sp P):Code->Nat->Nat->yL TD->yL ah->Kc O->yO O
 |.skip,_,_,a,h,K=>K .normal a h
 |.label _,_,_,a,h,K=>K .normal a h
 |.region _ ops j,_,_,a,h,K=>if j=ae then FE P fi.hi aD ops a h λf g=>K .normal f g else if ZMv ops=ae then nj P fi.hi aD ops (ops.toList.take (ops.size - 5)) a h λf g _=>uW P (ops.toList.drop (ops.size - 5)) f g λf g=>K .normal f g
  else nj P fi.hi aD ops ops.toList a h λf g _=>K .normal f g
 |.seq x y,n,m,a,h,K=>FZ (fi.gh.lookup m) a h λa h=>match oL m a h fi.bk with
  |none=>fx P fi aD x n (m+1) a h λex f g=>match ex with
   |.normal=>fx P fi aD y (n+Code.nl x) (m+1+Code.ns x) f g K
   |ex=>K ex f g
  |some l=>(l.1.L l.2).bind λo=>xT a.length l.1.xs o λex f g=>match ex with
   |.normal=>fx P fi aD y (n+Code.nl x) (m+1+Code.ns x) f g K
   |ex=>K ex f g
 |.cond c x y,n,m,a,h,K=>((aS P a 0 c).bind TD.boolT).bind λb=>match c with
  |.tmp t=>if b=ae then fx P fi aD x n m (a.set t (jF ae)) h K else fx P fi aD y (n+Code.nl x) (m+Code.ns x) (a.set t (jF af)) h K
  |_=>if b=ae then fx P fi aD x n m a h K else fx P fi aD y (n+Code.nl x) (m+Code.ns x) a h K
 |.block id e,n,m,a,h,K=>fx P fi aD e n m a h λex f g=>K (GA id ex) f g
 |.loop e,n,m,a,h,K=>match oL n a h fi.lp with
  |some s=>(s.1.L s.2).bind λo=>xT a.length s.1.xs o K
  |none=>vh (λa h K=>fx P fi aD e (n+1) m a h K) fi.un a h K
 |.scope e,n,m,a,h,K=>fx P fi aD e n m a h K
 |.exit id,_,_,a,h,K=>K (.exit id) a h
 |.ret,_,_,a,h,K=>K .ret a h
 |_,_,_,_,_,_=>ad
def WF:Code->yL Code
 |.seq a b=>a::(WF a++WF b)
 |.cond _ a b=>WF a++WF b
 |.block _ a=>WF a
 |.scope a=>WF a
 |.loop a=>WF a
 |_=>[]
theorem jb:∀c:Code,(WF c).length=Code.ns c
 |.seq a b=>by simp only[WF,yam,yn,jb a,jb b,Code.ns]
 |.cond _ a b=>by simp only[WF,yn,jb a,jb b,Code.ns]
 |.block _ a=>by simp only[WF,jb a,Code.ns]
 |.scope a=>by simp only[WF,jb a,Code.ns]
 |.loop a=>by simp only[WF,jb a,Code.ns]
 |.skip=>rfl
 |.region _ _ _=>rfl
 |.rangeFunc _ _ _ _=>rfl
 |.exit _=>rfl
 |.ret=>rfl
 |.label _=>rfl
 |.goto _=>rfl
 |.refuse _=>rfl
def iA(P:yg)(fi:FI)(N:Nat)(c:Code)(m:Nat):Prop:=∀(k:Nat)(x:Code),(WF c)[k]? =ab x->∀e,(m+k,e)∈fi.bk->e.Is P N x
theorem ZIk{fi:FI}{N:Nat}{x y c:Code}{m:Nat}(e:WF c=WF x++WF y)(h:iA P fi N c m):iA P fi N x m:=λk b f=>h k b (by
 rw[e,yaj (yp.1 f).1];exact f)
theorem ZFJ{fi:FI}{N:Nat}{x y c:Code}{m:Nat}(e:WF c=WF x++WF y)(h:iA P fi N c m):iA P fi N y (m+Code.ns x):=λk b f g j=>h (Code.ns x+k) b (by
 rw[e,yan (by rw[jb];omega),jb];rw[show Code.ns x+k - Code.ns x=k by omega];exact f) g (by rw[<-yci];exact j)
theorem ZIl{fi:FI}{N:Nat}{x y:Code}{m:Nat}(h:iA P fi N (.seq x y) m):iA P fi N x (m+1):=λk b c e f=>h (k+1) b (by
 rw[WF,ybe,yaj (yp.1 c).1];exact c) e (by rw[show m+(k+1)=m+1+k by omega];exact f)
theorem ZAC{fi:FI}{N:Nat}{x y:Code}{m:Nat}(h:iA P fi N (.seq x y) m):iA P fi N y (m+1+Code.ns x):=λk b c e f=>h (Code.ns x+k+1) b (by
 rw[WF,ybe,yan (by rw[jb];omega),jb];rw[show Code.ns x+k - Code.ns x=k by omega];exact c) e (by rw[show m+(Code.ns x+k+1)=m+1+Code.ns x+k by omega];exact f)
def jI(P:yg)(fi:FI)(N:Nat)(c:Code)(n:Nat):Prop:=∀(k:Nat)(b:Code),(ZK c)[k]? =ab (.loop b)->∀e,(n+k,e)∈fi.lp->e.Ok P N b
theorem ZAD{fi:FI}{N:Nat}{x y c:Code}{n:Nat}(e:ZK c=ZK x++ZK y)(h:jI P fi N c n):jI P fi N x n:=λk b f=>h k b (by
 rw[e,yaj (yp.1 f).1];exact f)
theorem Zwi{fi:FI}{N:Nat}{x y c:Code}{n:Nat}(e:ZK c=ZK x++ZK y)(h:jI P fi N c n):jI P fi N y (n+Code.nl x):=λk b f g j=>h (Code.nl x+k) b (by
 rw[e,yan (by rw[kI];omega),kI];rw[show Code.nl x+k - Code.nl x=k by omega];exact f) g (by rw[<-yci];exact j)
theorem VS{O:Type}{fi:FI}{aD:Sp P}{out:O}{N:Nat}(ok:dt aD):∀(c:Code)(n m:Nat)(a:yL TD)(h:yL ah)(K:Kc O),a.length=N->jI P fi N c n->iA P fi N c m->fx P fi aD c n m a h K=ab out->
 ∃F G I,K F G I=ab out/\G.length=N/\Wq P c (TD.au (lk h) a) (aA h) F (TD.au (lk I) G) (aA I)
 |.skip,n,m,a,h,K,g,E,f,k=>⟨_,_,_,k,g,ZFG⟩
 |.label _,n,m,a,h,K,g,E,f,k=>⟨_,_,_,k,g,ZCV⟩
 |.exit _,n,m,a,h,K,g,E,f,k=>⟨_,_,_,k,g,ZFH⟩
 |.ret,n,m,a,h,K,g,E,f,k=>⟨_,_,_,k,g,ZIi⟩
 |.region id ops draw,n,m,a,h,K,g,E,f,k=>by
  unfold fx at k
  cases draw with
  |true=>
   rw[yW rfl]at k;obtain⟨G,I,l,A,j⟩:=ZFz ok k
   exact⟨_,_,_,l,by rw[A,g],j id⟩
  |false=>
   rw[yX (by decide)]at k;split at k
   .obtain⟨G,I,l,A,j⟩:=ZFE ok k;exact⟨_,_,_,l,by rw[A,g],j id⟩
   .obtain⟨G,I,hs,l,A,j⟩:=ZFA ok k
    exact⟨_,_,_,l,by rw[A,g],j id⟩
 |.seq x y,n,m,a,h,K,g,E,f,k=>by
  have hx:=ZAD (x:=x) (y:=y) rfl E;have hy:=Zwi (x:=x) (y:=y) rfl E;unfold fx at k;obtain⟨a0,h0,k,Y,cO⟩:=ZIh k;rw[g]at Y
  suffices key:∃F G I,K F G I=ab out/\G.length=N/\Wq P (.seq x y) (TD.au (lk h0) a0) (aA h0) F (TD.au (lk I) G) (aA I) by
   obtain⟨F,G,I,g1,S,Z⟩:=key;exact⟨F,G,I,g1,S,ZKz cO Z⟩
  clear cO;have g:=Y;clear Y;split at k
  .obtain⟨F,W,X,l,A,j⟩:=VS ok x _ _ _ _ _ g hx (ZIl f) k;split at l
   .obtain⟨ex2,a2,h2,k4,k5,k6⟩:=VS ok y _ _ _ _ _ A hy (ZAC f) l;exact⟨_,_,_,k4,k5,ZAA j k6⟩
   .rename_i hne;exact⟨_,_,_,l,A,Zwe hne j⟩
  .rename_i bkv T;obtain⟨bk,v⟩:=bkv;obtain⟨T,vs,j1,j2⟩:=vi T;dsimp only at T j1 j2 k;obtain⟨o,j3,k⟩:=yf.1 k;obtain⟨e,vs',s,g1,S,Z⟩:=re k;obtain⟨a3,h3,j4,j5⟩:=Zwh rfl j1;have hok:=f 0 x rfl bk (by rw[ycl];exact T);rw[g]at S j4;have e1:=jE _ _ _ j2;have r:=hok v o j3 (a3,h3) (by rw[e1];exact j4) e vs' s g1 S
   have j:Wq P x (TD.au (lk h0) a0) (aA h0) e.ex (TD.au (lk s.2) s.1) (aA s.2):=by
    intro J M okJ hH yK;obtain⟨J1,p1,p2,p3,p4,p5⟩:=j5 J M okJ hH yK;rw[<-p1];refine wp_mono (r J1 M p4 p2 p5) ?_;rintro e' G w' ⟨rfl,J2,q1,q2,q3,q4,q5⟩;exact⟨rfl,J2,q1,q2,p3.trans q3,q4,q5⟩
   split at Z
   .rename_i he;rw[he]at j;obtain⟨ex2,a2,h2,k4,k5,k6⟩:=VS ok y _ _ _ _ _ (uz S) hy (ZAC f) Z;exact⟨_,_,_,k4,k5,ZAA j k6⟩
   .rename_i hne
    exact⟨_,_,_,Z,uz S,Zwe hne j⟩
 |.cond c x y,n,m,a,h,K,g,E,f,k=>by
  have hx:=ZAD (x:=x) (y:=y) rfl E;have hy:=Zwi (x:=x) (y:=y) rfl E;have bx:=ZIk (x:=x) (y:=y) rfl f;have bY:=ZFJ (x:=x) (y:=y) rfl f;unfold fx at k;obtain⟨b,k0,k⟩:=yf.1 k;obtain⟨d,k00,k01⟩:=yf.1 k0;have hc:=Zk (L:=lk h) k00;rw[oq k01]at hc;split at k
  .rename_i t;cases k00;have e:=ZAq k01;split at k
   .rename_i Q;subst Q;rw[bD e]at k;obtain⟨F,W,X,l,A,j⟩:=VS ok x _ _ _ _ _ g hx bx k;exact⟨_,_,_,l,A,vg hc j⟩
   .rename_i Q;have Q:b=af:=by simpa using Q
    subst Q;rw[bD e]at k;obtain⟨F,W,X,l,A,j⟩:=VS ok y _ _ _ _ _ g hy bY k;exact⟨_,_,_,l,A,vg hc j⟩
  .split at k
   .rename_i Q;subst Q;obtain⟨F,W,X,l,A,j⟩:=VS ok x _ _ _ _ _ g hx bx k;exact⟨_,_,_,l,A,vg hc j⟩
   .rename_i Q;have Q:b=af:=by simpa using Q
    subst Q;obtain⟨F,W,X,l,A,j⟩:=VS ok y _ _ _ _ _ g hy bY k
    exact⟨_,_,_,l,A,vg hc j⟩
 |.block id z,n,m,a,h,K,g,E,f,k=>by
  unfold fx at k;obtain⟨F,W,X,l,A,j⟩:=VS ok z _ _ _ _ _ g E f k
  exact⟨_,_,_,l,A,ZCT j⟩
 |.scope z,n,m,a,h,K,g,E,f,k=>by
  unfold fx at k;obtain⟨F,W,X,l,A,j⟩:=VS ok z _ _ _ _ _ g E f k
  exact⟨_,_,_,l,A,ZCU j⟩
 |.loop z,n,m,a,h,K,g,E,f,k=>by
  unfold fx at k;split at k
  .rename_i lpv U;obtain⟨lp,v⟩:=lpv;obtain⟨U,vs,j1,j2⟩:=vi U;dsimp only at U j1 j2 k;obtain⟨o,j3,k⟩:=yf.1 k;obtain⟨e,vs',s,g1,S,Z⟩:=re k;obtain⟨a3,h3,j4,j5⟩:=Zwh rfl j1;have hok:=E 0 z rfl lp (by rw[ycl];exact U);rw[g]at S j4;have e1:=jE _ _ _ j2;have r:=hok v o j3 (a3,h3) (by rw[e1];exact j4) e vs' s g1 S;refine⟨_,_,_,Z,uz S, ?_⟩;intro J M okJ hH yK;obtain⟨J1,p1,p2,p3,p4,p5⟩:=j5 J M okJ hH yK;rw[<-p1];refine wp_mono (r J1 M p4 p2 p5) ?_;rintro e' G w' ⟨rfl,J2,q1,q2,q3,q4,q5⟩;exact⟨rfl,J2,q1,q2,p3.trans q3,q4,q5⟩
  .have hl1:jI P fi N z (n+1):=λk b hk lp hl2=>E (k+1) b (by rw[ZK,ybe];exact hk) lp (by rw[show n+(k+1)=n+1+k by omega];exact hl2);obtain⟨F,W,X,l,A,j⟩:=ZqI (λa h K out g k=>VS ok z _ _ _ _ K g hl1 f k) _ _ _ _ _ g k
   exact⟨F,W,X,l,A,RU j⟩
 |.rangeFunc _ _ _ _,_,_,_,_,_,_,_,_,k=>by cases k
 |.goto _,_,_,_,_,_,_,_,_,k=>by cases k
 |.refuse _,_,_,_,_,_,_,_,_,k=>by cases k
theorem ZAE{α:Type}{l:yL α}{i:Nat}{x:α}(h:l[i]? =ab x):l.set i x=l:=by
 apply ybg;intro j;rw[ybm];split
 .rename_i e;subst e;rw[h,yW (yp.1 h).1]
 .rfl
theorem Zto{J J':Sg}(hl:∀d vs,yG J d vs->yG J' d vs){x y:Dv}(f:∀vs,yG J x vs->yG J' y vs):∀(xs:yL Dv)(i:Nat),xs[i]? =ab x->∀vs,aC J xs vs->aC J' (xs.set i y) vs
 |[],i,h,_,_=>by simp at h
 |z::r,0,h,vs,k=>by
  simp only[ybt,yj]at h;subst h;simp only[aC,List.set_cons_zero]at k ⊢;obtain⟨j,c,e,l,g⟩:=k;refine⟨j,c,e,f j l, ?_⟩;clear e l
  induction r generalizing c with
  |nil=>simpa only[aC] using g
  |cons w r m=>
   simp only[aC]at g ⊢;obtain⟨a,b,e,s,t⟩:=g
   exact⟨a,b,e,hl _ _ s,m _ t⟩
 |z::r,i+1,h,vs,k=>by
  simp only[ybe]at h;simp only[aC,List.set_cons_succ]at k ⊢;obtain⟨j,c,e,l,g⟩:=k;exact⟨j,c,e,hl _ _ l,Zto hl f r i h c g⟩
theorem Ztp{x y:Dv}(e:y.size=x.size):∀(xs:yL Dv)(i:Nat),xs[i]? =ab x->Dv.sizes (xs.set i y)=Dv.sizes xs
 |[],i,h=>by simp at h
 |z::r,0,h=>by
  simp only[ybt,yj]at h;subst h
  simp only[List.set_cons_zero,Dv.sizes,e]
 |z::r,i+1,h=>by
  simp only[ybe]at h;simp only[List.set_cons_succ,Dv.sizes,Ztp e r i h]
theorem ZAF{n:Nat}:∀{e:yL TD}{i:Nat}{x:TD},TD.frees n e=ae->e[i]? =ab x->x.free n=ae
 |[],i,x,_,h=>by simp at h
 |y::r,0,x,c,h=>by
  simp only[TD.frees,yi]at c;simp only[ybt,yj]at h;rw[<-h]
  exact c.1
 |y::r,i+1,x,c,h=>by
  simp only[TD.frees,yi]at c;exact ZAF c.2 (by simpa using h)
theorem ZKD{h:yL ah}{j id i:Nat}{T:Ty}{v v':yL Unit}{st:Bool}{e:yb}{l:yL T.aE}{f:yL TD}{s:Bool}
 (W:h[j]? =ab (.aF T v st e l)) (hid:h[id]? =ab (.var (.agg f) s)) (hi:f[i]? =ab (.rw j)) (hlt:v.length < v'.length)
 (fh:∀(q:Nat)(x:ah),q≠id->h[q]? =ab x->x.free j=ae) (fd:∀(q:Nat)(x:TD),q≠i->f[q]? =ab x->x.free j=ae):
 (∀q t,q≠j->Yb (lk h) q t ad=Yb (lk (h.set j (.aF T v' st e l))) q t ad)/\Xt (aA h) (aA (h.set j (.aF T v' st e l))):=by
 have hc:∀q t,q≠j->Yb (lk h) q t ad=Yb (lk (h.set j (.aF T v' st e l))) q t ad:=λq t z=>by
  unfold Yb lk;rw[al (Ne.symm z)]
 refine⟨hc,λJ X Y=> ?_⟩
 have I:id≠j:=by
  rintro rfl;rw[W]at hid;cases hid
 have hjl:j < J.m.length:=by rw[X.len,Y,ZE];exact(yp.1 W).1
 have hil:id < J.m.length:=by rw[X.len,Y,ZE];exact(yp.1 hid).1
 obtain⟨mj,M⟩:∃x,J.m[j]? =ab x:=⟨_,yae hjl⟩;obtain⟨mi,Q⟩:∃x,J.m[id]? =ab x:=⟨_,yae hil⟩;have E:J.H[j]? =ab (.row v.length T.size st e (.p (.arr l.length T.size (l.map T.enc)))):=by rw[Y];exact ZD W
 have Z:J.H[id]? =ab (.var ((TD.agg f).er (lk h)) s):=by rw[Y];exact ZD hid
 let Ja:Sg:={ J with H:=J.H.set j (.row v'.length T.size st e (.p (.arr l.length T.size (l.map T.enc))))}
 obtain⟨toa,oka⟩:=XE (J':=Ja) (mi:=mj) (mi':=mj) X E M rfl rfl rfl (ZAE M).symm rfl rfl rfl (ym _) (λ_ _ _=>rfl) (λ_ _ _ _ _ h=>h) (λ_ _ h=>h) (.inl rfl)
  (λ⟨_,_,h⟩=>by cases h) (λ⟨_,_,h⟩=>by cases h) (λ_ _ _ h=>by cases h) (λg=>by
    obtain⟨N,h1,h2⟩:=X.cA j _ _ E M;refine⟨N,h1, ?_⟩;rcases h2 with h2|⟨b,cur,cap,a1,a2,a3,a4,a5,a6⟩
    .exact .inl h2
    .exact .inr ⟨b,cur,cap,a1,a2,a3,a4,a5,Z7 g _ _ a6⟩) (λv0 s0 st0 e0 d0 h0=>by
    cases h0;exact⟨_,_,_,rfl,Nat.le_of_lt hlt,λq=>by omega⟩)
 have F:Ja.H[id]? =ab (.var ((TD.agg f).er (lk h)) s):=by
  show(J.H.set j _)[id]? =_;rw[al (Ne.symm I)];exact Z
 let Jb:Sg:={ Ja with H:=Ja.H.set id (.var ((TD.agg f).er (lk (h.set j (.aF T v' st e l)))) s)}
 have G:Jb.H[j]? =ab (.row v'.length T.size st e (.p (.arr l.length T.size (l.map T.enc)))):=by
  show((J.H.set j _).set id _)[j]? =_;rw[al I];exact ai E
 have hj':(h.set j (ah.aF T v' st e l))[j]? =ab (.aF T v' st e l):=ai W;have er1:(TD.rw j).er (lk h)=.rv j v.length T.size 0 l.length:=(QJ W).1;have er2:(TD.rw j).er (lk (h.set j (.aF T v' st e l)))=.rv j v'.length T.size 0 l.length:=(QJ hj').1
 have au:TD.au (lk (h.set j (.aF T v' st e l))) f=(TD.au (lk h) f).set i (.rv j v'.length T.size 0 l.length):=by
  apply ybg;intro q;rw[ybm];by_cases z:i=q
  .subst z;rw[yW rfl,QH hi,er2,yW (by rw[jz];exact(yp.1 hi).1)]
  .rw[yX z]
   cases U:f[q]? with
   |none=>
    have:=List.getElem?_eq_none_iff.1 U
    rw[yat (by rw[jz];exact this),yat (by rw[jz];exact this)]
   |some x=>rw[QH U,QH U,iO hc x (fd q x (Ne.symm z) U)]
 obtain⟨tob,okb⟩:=XE (J':=Jb) (mi:=mi) (mi':=mi) oka F Q rfl rfl rfl (ZAE Q).symm rfl rfl rfl (ym _) (λ_ _ _=>rfl) (λ_ _ _ _ _ h=>h) (λ_ _ h=>h) (.inl rfl)
  (λ_=>⟨rfl,_,_,rfl⟩) (λ⟨_,_,h⟩=>by cases h) (λ_ _ _ h=>by cases h) (λg=>by
    obtain⟨b,cs,t,a1,a2,a3,a4⟩:=X.cA id _ _ Z Q
    have hsz:((TD.agg f).er (lk (h.set j (.aF T v' st e l)))).size=((TD.agg f).er (lk h)).size:=by
     simp only[TD.er,Dv.size,au];exact Ztp (x:=Dv.rv j v.length T.size 0 l.length) (y:=Dv.rv j v'.length T.size 0 l.length) rfl _ _ (by rw[QH hi,er1])
    refine⟨b,cs,t,a1,a2, ?_,by rw[hsz];exact a4⟩;rw[hsz];simp only[TD.er,yG]at a3 ⊢;rw[au];refine Zto (J:=J) (x:=Dv.rv j v.length T.size 0 l.length) (λd vs hd=>Z7 g _ _ (Z7 toa.leaf _ _ hd)) (λvs hd=> ?_) _ i (by rw[QH hi,er1]) _ a3;simp only[yG]at hd ⊢;obtain⟨A,c,g1,g2,g3,g4,g5,v0,s0,st0,e0,d0,g6,g7,g8⟩:=hd;rw[E]at g6;cases g6;obtain⟨g9,g10⟩:=g8 rfl;exact⟨A,c,g1,g2,g3,g4,g5,v'.length,T.size,st,e,_,G,ym _,λ_=>⟨rfl,g10⟩⟩)
 refine⟨Jb,rfl, ?_,toa.trans tob,okb⟩;apply ybg;intro q;show((J.H.set j _).set id _)[q]? =_;by_cases z:q=id
 .subst z;rw[ZD (by rw[al (Ne.symm I)];exact hid),ai F];rfl
 .by_cases S:q=j
  .subst S;rw[ZD hj'];exact G
  .rw[al (Ne.symm z),al (Ne.symm S),Y];unfold aA;rw[yah,yah,al (Ne.symm S)]
   cases U:h[q]? with
   |none=>rfl
   |some x=>
    rw[yz,yz,DO hc x (fh q x z U)]
theorem ZKE{J J1:Sg}(ok:Ok J)(to:To J J1){k j:Nat}{yJ:yL Nat}{H:yL ar}(hk:k < J.H.length)(hj:J.H.length<=j){v v2 s:Nat}{st st2:Bool}{e:yb}{d d2:Dv}
 (U:J1.H[k]? =ab (.row v s st e d)) (ej:J1.H[j]? =ab (.row v2 s st2 e d2)) (y:v < v2) (ho:once ((yu J.H.length).set k j++yJ)=ae) (hr:yJ.contains k=af)
 (hin:aH J1.H ((yu J.H.length).set k j++yJ) ((yu J.H.length).set k j++yJ)=ab H):To J (iN J1 ((yu J.H.length).set k j++yJ) H):=by
 have hp:∀id,id < J.H.length->id≠k->((yu J.H.length).set k j++yJ)[id]? =ab id:=λid h f=>by
  rw[yaj (by simpa using h),al (Ne.symm f),List.getElem?_range h]
 have X:((yu J.H.length).set k j++yJ)[k]? =ab j:=by
  rw[yaj (by simpa using hk)];exact ai (List.getElem?_range hk)
 have E:∀id,id < J.H.length->id≠k->aR ((yu J.H.length).set k j++yJ) id=ab id:=λid h f=>bJ ho (hp id h f);have hfk:aR ((yu J.H.length).set k j++yJ) j=ab k:=bJ ho X
 have hnk:∀q,((yu J.H.length).set k j++yJ)[q]? ≠ab k:=λq W=>by
  rcases yck q J.H.length with h|h
  .by_cases T:q=k
   .subst T;rw[X]at W;cases W;omega
   .rw[hp q h T]at W;cases W;exact T rfl
  .rw[yan (by simpa using h)]at W;have:=ybq W;rw[Bool.eq_false_iff]at hr;exact hr (by simpa using this)
 have rn:=lg hin;refine⟨⟨λb o v g G=> ?_,λid b g G=> ?_,λid s len A c g=> ?_,λid b g G=> ?_,λid v s st e d g=> ?_,λid v t u l g=> ?_,λid v l g=> ?_⟩,to.F,to.B,to.os,to.tape,to.output,to.size,λb g G h3=>to.block b g G h3,λid b h=> ?_, ?_,λb c h=>to.xs b c h.1⟩
 .obtain⟨h3,z⟩:=to.leaf.cells b o v g G;exact⟨h3,rn.aV b o v h3 z⟩
 .have y:id < J.H.length:=by rw[<-ok.len];exact(yp.1 g).1
  obtain⟨h3,z⟩:=to.leaf.var id b g G;by_cases f:id=k
  .subst f;obtain⟨d,st,z⟩:=z;rw[U]at z;cases z
  .exact⟨rn.m _ _ (E id y f) _ h3,rn.var (E id y f) z⟩
 .have y:id < J.H.length:=by
   obtain⟨e,ys,G,_⟩:=g;exact(yp.1 G).1
  have h3:=to.leaf.front _ _ _ _ _ g;by_cases f:id=k
  .subst f;obtain⟨e,ys,z,_⟩:=h3;rw[U]at z;cases z
  .exact rn.front (E id y f) h3
 .have y:id < J.H.length:=by rw[<-ok.len];exact(yp.1 g).1
  obtain⟨h3,z⟩:=to.leaf.map id b g G;by_cases f:id=k
  .subst f;obtain⟨d,st,z⟩:=z;rw[U]at z;cases z
  .exact⟨rn.m _ _ (E id y f) _ h3,rn.map (E id y f) z⟩
 .have I:id < J.H.length:=(yp.1 g).1;obtain⟨Y,st',d',M,Z,h7⟩:=to.leaf.row _ _ _ _ _ _ g;by_cases f:id=k
  .subst f;rw[U]at M;cases M;obtain⟨d3,h8⟩:=rn.row hfk ej;exact⟨v2,st2,d3,h8,by omega,λq=>by omega⟩
  .obtain⟨d2,h8⟩:=rn.row (E id I f) M;refine⟨Y,st',d2,h8,Z,λhv=> ?_⟩;obtain⟨h9,h10⟩:=h7 hv;refine⟨?_,h10⟩;have Q:∃x,J.m[id]? =ab x:=⟨_,yae (by rw[ok.len];exact I)⟩;obtain⟨x,S⟩:=Q;rw[S];exact rn.m _ _ (E id I f) _ (by rw[h9];exact S)
 .have I:id < J.H.length:=(yp.1 g).1;obtain⟨Y,l',M,Z,h7,h8⟩:=to.leaf.maps _ _ _ _ _ g;by_cases f:id=k
  .subst f;rw[U]at M;cases M
  .have Q:∃x,J.m[id]? =ab x:=⟨_,yae (by rw[ok.len];exact I)⟩;obtain⟨x,S⟩:=Q;refine⟨Y,l',rn.maps (E id I f) M,Z, ?_,h8⟩;rw[S];exact rn.m _ _ (E id I f) _ (by rw[h7];exact S)
 .have I:id < J.H.length:=(yp.1 g).1;obtain⟨Y,l',M,Z,h7⟩:=to.leaf.bA _ _ _ g;by_cases f:id=k
  .subst f;rw[U]at M;cases M
  .have Q:∃x,J.m[id]? =ab x:=⟨_,yae (by rw[ok.len];exact I)⟩;obtain⟨x,S⟩:=Q;exact⟨Y,l',rn.bA (E id I f) M,Z,λhv=>by rw[S];exact rn.m _ _ (E id I f) _ (by rw[h7 hv];exact S)⟩
 .obtain⟨x,g,G⟩:=km h;rcases to.same x b G with h3|h3
  .have y:x < J.H.length:=by rw[<-ok.len];exact(yp.1 h3).1
   by_cases f:x=k
   .subst f;exact absurd g (hnk _)
   .have:=pU ho _ _ _ g (hp x y f);subst this;exact .inl h3
  .exact .inr h3
 .show J.m.length<=(((yu J.H.length).set k j++yJ).map _).length;rw[ok.len];simp
def ZLt(n:Nat):yO TD->Bool
 |some (.rw j)=>Nat.beq j n
 |_=>af
def GC(n0 id i k:Nat)(a:yL TD)(h:yL ah):yO (yL TD×yL ah):=
 match h[id]?,h[k]?,h[n0]? with
 |some (.var (.agg f) j),ab (.aF T w st e l),ab (.aF U x c g m)=>
  if(Nat.ble (id+1) n0&&Nat.ble (k+1) n0&&ag (T.size=U.size)&&ag (e=g)&&ZLt n0 f[i]? &&TD.frees n0 a&&(h.set id .gone).all (ah.free n0)&&TD.frees n0 (f.set i .an)&&
   once ((yu n0).set k n0++List.range' (n0+1) (h.length - (n0+1)))&& !(List.range' (n0+1) (h.length - (n0+1))).contains k)=ae then
   (Wz (h.set n0 (.aF U (()::(w++x)) c g m)) ((yu n0).set k n0++List.range' (n0+1) (h.length - (n0+1))) ((yu n0).set k n0++List.range' (n0+1) (h.length - (n0+1)))).bind λs=>
     (TD.bi (aR ((yu n0).set k n0++List.range' (n0+1) (h.length - (n0+1)))) a).map λt=>(t,s)
  else ad
 |_,_,_=>ad
theorem ZIm{n0 id i k:Nat}{a:yL TD}{h:yL ah}{q:yL TD×yL ah}(hs:GC n0 id i k a h=ab q){c:Code}{ts:yL Dv}{H:yL ar}{ex:Ex}(hn:H.length=n0)
 (r:Wq P c ts H ex (TD.au (lk h) a) (aA h)):Wq P c ts H ex (TD.au (lk q.2) q.1) (aA q.2):=by
 unfold GC at hs;split at hs
 .rename_i ds stt T w st e l U x t F m h1 h2 G;split at hs
  .rename_i hb;simp only[yi,yP,Bool.not_eq_true']at hb;obtain⟨⟨⟨⟨⟨⟨⟨⟨⟨b1,I⟩,b3⟩,b4⟩,M⟩,b6⟩,b7⟩,b8⟩,b9⟩,A⟩:=hb;have b1:=Nat.le_of_ble_eq_true b1;have I:=Nat.le_of_ble_eq_true I;subst b4;obtain⟨h',S,hs⟩:=yf.1 hs;obtain⟨a',W,rfl⟩:=Zd hs
   have hi:ds[i]? =ab (.rw n0):=by
    unfold ZLt at M;split at M
    .rename_i j hj;rw[hj,ydb M]
    .cases M
   obtain⟨hc,gs⟩:=ZKD (v':=()::(w++x)) G h1 hi (by simp;omega) (λq y X Y=>by
    have:y∈h.set id .gone:=ybq (i:=q) (by rw[al (Ne.symm X)];exact Y);exact ybn.1 b7 y this) (λq y X Y=>ZAF b8 (i:=q) (by rw[al (Ne.symm X)];exact Y))
   intro J Z ok hH yK;have Q:J.H.length=n0:=by rw[hH,hn]
   refine wp_mono (r J Z ok hH yK) ?_;rintro e' a1 w' ⟨rfl,J1,rfl,g1,to1,ok1,z⟩;obtain⟨J2,e1,F,E,ok2⟩:=gs J1 ok1 g1;have f:=z.to E.leaf;rw[cr hc a b6]at f;have g:=WQ (fu S) S;rw[<-F, <-Q]at g;rw[<-Q]at b9 A W I G;have ho:=b9;refine⟨rfl,iN J2 ((yu J.H.length).set k J.H.length++List.range' (J.H.length+1) (h.length - (J.H.length+1))) (aA h'),e1,rfl,ZKE ok (to1.trans E) I (ym _) (v:=w.length) (v2:=(()::(w++x)).length) (s:=T.size) (st:=st) (st2:=t) (e:=e) (d:=.p (.arr l.length T.size (l.map T.enc))) (d2:=.p (.arr m.length U.size (m.map U.enc))) ?_ ?_ (by simp;omega) ho A g,tQ ok2 ho g, ?_⟩
   .rw[F];have:k≠n0:=by omega
    exact ZD (e:=.aF T w st e l) (by rw[al (Ne.symm this)];exact h2)
   .rw[F,b3];exact ZD (e:=.aF U (()::(w++x)) t e m) (by rw[Q]at G ⊢;exact ai G)
   .refine zy (lg g) (ts:=TD.au (lk (h.set n0 (.aF U (()::(w++x)) t e m))) a) ?_ f;rw[Q]at W ⊢;exact cx (fu S) _ _ W
  .cases hs
 .cases hs
def GD(n0:Nat):yL (Nat×Nat×Nat×Nat)->yL TD->yL ah->yO (yL TD×yL ah)
 |[],a,h=>ab (a,h)
 |x::r,a,h=>(GC n0 x.1 x.2.1 x.2.2.1 a h).bind λq=>GD n0 r q.1 q.2
theorem ZAG{n0:Nat}:∀{l:yL (Nat×Nat×Nat×Nat)}{a:yL TD}{h:yL ah}{q:yL TD×yL ah},GD n0 l a h=ab q->∀{c:Code}{ts:yL Dv}{H:yL ar}{e:Ex},H.length=n0->
 Wq P c ts H e (TD.au (lk h) a) (aA h)->Wq P c ts H e (TD.au (lk q.2) q.1) (aA q.2)
 |[],a,h,q,hs,c,ts,H,e,f,r=>by
  cases hs
  exact r
 |x::l,a,h,q,hs,c,ts,H,e,f,r=>by
  obtain⟨y,g,j⟩:=yf.1 hs;exact ZAG j f (ZIm g f r)
def vj(n0 id:Nat):Nat->yL Sh->yL TD->yL (Nat×Nat×Nat×Nat)
 |i,.rw k::c,.rw j::e=>if Nat.ble n0 j=ae then(id,i,k,j)::vj n0 id (i+1) c e else vj n0 id (i+1) c e
 |i,_::c,_::e=>vj n0 id (i+1) c e
 |_,_,_=>[]
def GF(n0:Nat):Nat->yL bh->yL ah->yL (Nat×Nat×Nat×Nat)
 |id,.var (.agg e) _::c,.var (.agg f) _::h=>vj n0 id 0 e f++GF n0 (id+1) c h
 |id,_::c,_::h=>GF n0 (id+1) c h
 |_,_,_=>[]
def ZNB(n0:Nat)(sl:ce)(es:yL bh)(sw:yL (Nat×Nat×Nat×Nat))(a:yL TD)(h:yL ah):yO (yL TV):=
 if once (yu n0++sw.map λx=>x.2.2.2) then(Wz h (yu n0++sw.map λx=>x.2.2.2) (yu n0++sw.map λx=>x.2.2.2)).bind λc=>
  (TD.bi (aR (yu n0++sw.map λx=>x.2.2.2)) (gD (sl.map (·.1)) 0 a)).bind λe=>(GD n0 sw e c).bind λq=>if Nat.beq q.1.length a.length=ae then oK n0 sl es q.1 q.2 else ad
 else ad
def nk(n0:Nat)(sl:ce)(es:yL bh)(a:yL TD)(h:yL ah):yO (yL TV):=
 match GF n0 0 es h with
 |[]=>oK n0 sl es a h
 |x::r=>ZNB n0 sl es (x::r) a h
theorem Zwj{n0:Nat}{sl:ce}{es:yL bh}{a:yL TD}{h:yL ah}{vs:yL TV}(k:nk n0 sl es a h=ab vs):
 ∃f h3,Q2 a.length sl es vs=ab (f,h3)/\∀{c:Code}{ts:yL Dv}{H:yL ar}{g:Ex},H.length=n0->Wq P c ts H g (TD.au (lk h) a) (aA h)->Wq P c ts H g (TD.au (lk h3) f) (aA h3):=by
 unfold nk at k;split at k
 .exact Zwg k
 .rename_i x r F;unfold ZNB at k;split at k
  .rename_i s;obtain⟨G,j,k⟩:=yf.1 k;obtain⟨I,t,k⟩:=yf.1 k;obtain⟨q,y,k⟩:=yf.1 k;split at k
   .rename_i z;obtain⟨f,h3,l,A⟩:=Zwg (P:=P) k;rw[ydb z]at l;refine⟨f,h3,l,λ{c ts H g}e E=>A e (ZAG y e ?_)⟩;have m:=Zwf (sl.map (·.1)) E;rw[<-rz]at m;exact RZ [] _ m (by rw[e];exact s) (by rw[e];exact WQ (fu j) j) (by rw[e];exact cx (fu j) _ _ t)
   .cases k
  .cases k
end
end Go.Ev
end
section
namespace Go.Ev
def Ze{I X:Type}(step:I->yO (I⊕X)):Nat->I->yO X
 |0,_=>ad
 |n+1,i=>(step i).bind λr=>match r with
  |.inl j=>Ze step n j
  |.inr x=>ab x
theorem ZIn:∃n:Nat,n=18446744073709551616:=⟨_,rfl⟩
noncomputable def yD:Nat:=Classical.choose ZIn
theorem kJ:yD=18446744073709551616:=Classical.choose_spec ZIn
section
variable{P:yg}
def vk(n0:Nat)(c:Ex)(a:yL TD)(h:yL ah):(l:yL bW)->yO (bW.sum l)
 |[]=>ad
 |[e]=>if c=e.ex then(nk n0 e.sl e.es a h).bind λvs=>hU e.ty vs else ad
 |e::f::r=>match (if c=e.ex then(nk n0 e.sl e.es a h).bind λvs=>hU e.ty vs else ad) with
  |some x=>ab (Sum.inl x:Ty.aK e.ty⊕bW.sum (f::r))
  |none=>(vk n0 c a h (f::r)).map λx=>(Sum.inr x:Ty.aK e.ty⊕bW.sum (f::r))
theorem Zwk{n0:Nat}{j:Ex}{a:yL TD}{h:yL ah}:∀{l:yL bW}{o:bW.sum l},vk n0 j a h l=ab o->∀e vs,mZ l o e vs->j=e.ex/\nk n0 e.sl e.es a h=ab vs
 |[],_,k,_,_,_=>by cases k
 |[e],o,k,x,vs,hs=>by
  obtain⟨rfl,rfl⟩:=hs;have k:(if j=x.ex then(nk n0 x.sl x.es a h).bind λvs=>hU x.ty vs else ad)=ab o:=k
  split at k
  .rename_i m;obtain⟨t,c,g⟩:=yf.1 k;exact⟨m,by rw[c,jE _ _ _ g]⟩
  .cases k
 |e::f::r,o,k,x,vs,hs=>by
  simp only[vk]at k;split at k
  .rename_i y s;cases k;obtain⟨rfl,rfl⟩:=hs;split at s
   .rename_i m;obtain⟨t,c,g⟩:=yf.1 s;exact⟨m,by rw[c,jE _ _ _ g]⟩
   .cases s
  .obtain⟨y,c,g⟩:=Zd k;subst g;exact Zwk c x vs hs
def oM(P:yg)(fi:FI)(aD:Sp P)(c:Code)(n N:Nat)(sl:ce)(es:yL bh)(I:yL Ty)(xs:yL bW):Ty.aK I->yO (Ty.aK I⊕bW.sum xs):=λv=>
 (Q2 N sl es (dN I v)).bind λs=>fx P fi aD c (n+1) 0 s.1 s.2 λex a h=>match ex with
   |.normal=>(nk s.2.length sl es a h).bind λvs=>(hU I vs).map .inl
   |ex=>(vk s.2.length ex a h xs).map .inr
theorem ZIo{fi:FI}{aD:Sp P}{c:Code}{n N:Nat}{sl:ce}{es:yL bh}{I:yL Ty}{xs:yL bW}(ok:dt aD)(hl:jI P fi N c (n+1))(j:iA P fi N c 0):
 ∀(f:Nat)(v:Ty.aK I)(o:bW.sum xs),Ze (oM P fi aD c n N sl es I xs) f v=ab o->∀s,Q2 N sl es (dN I v)=ab s->∀e vs g,mZ xs o e vs->Q2 N e.sl e.es vs=ab g->
  oe P c (TD.au (lk s.2) s.1) (aA s.2) e.ex (TD.au (lk g.2) g.1) (aA g.2)
 |0,_,_,h,_,_,_,_,_,_,_=>by cases h
 |f+1,v,o,h,s,hs,e,vs,g,A,hs'=>by
  unfold Ze at h;obtain⟨r,t,E⟩:=yf.1 h;unfold oM at t;rw[hs,ya]at t;obtain⟨X,a,Y,l,F,G⟩:=VS ok c _ _ _ _ _ (uz hs) hl j t;split at l
  .obtain⟨Z,S,l⟩:=yf.1 l;obtain⟨w,x,rfl⟩:=Zd l;obtain⟨M,Q,m,y⟩:=Zwj (P:=P) S;rw[F]at m;have T:=y (ZE _) G;have:=ZIo ok hl j f w o E (M,Q) (by rw[jE _ _ _ x];exact m) e vs g A hs';exact RT [] T this
  .rename_i z;obtain⟨w,x,rfl⟩:=Zd l;cases E;obtain⟨U,W⟩:=Zwk x e vs A;obtain⟨M,Q,m,y⟩:=Zwj (P:=P) W;rw[F,hs']at m;cases m;subst U;exact RR z (y (ZE _) G)
theorem ZNC{fi:FI}{aD:Sp P}{c:Code}{n N:Nat}{sl:ce}{es:yL bh}{I:yL Ty}{xs:yL bW}{step:Ty.aK I->yO (Ty.aK I⊕bW.sum xs)}(f:Nat)(ok:dt aD)(hl:jI P fi N c (n+1))(g:iA P fi N c 0)
 (h:∀v,oM P fi aD c n N sl es I xs v=step v):Lp.Ok P N c ⟨sl,es,I,xs,Ze step f⟩:=by
 intro v o j s hs e vs l m hs';have t:oM P fi aD c n N sl es I xs=step:=funext h;subst t;exact RU (ZIo ok hl g f v o j s hs e vs l m hs')
theorem lG:∀(c:Code)(k:Nat)(b:Code),(ZK c)[k]? =ab (.loop b)->∀j x,(ZK b)[j]? =ab x->(ZK c)[k+1+j]? =ab x
 |.seq x y,k,b,h,j,z,e=>by
  simp only[ZK]at h ⊢;rcases yck k (ZK x).length with hl|hl
  .rw[yaj hl]at h;have:=lG x k b h j z e;rw[yaj (yp.1 this).1];exact this
  .rw[yan hl]at h;have:=lG y _ b h j z e;rw[yan (by omega)];rw[show k+1+j - (ZK x).length=k - (ZK x).length+1+j by omega]
   exact this
 |.cond _ x y,k,b,h,j,z,e=>by
  simp only[ZK]at h ⊢;rcases yck k (ZK x).length with hl|hl
  .rw[yaj hl]at h;have:=lG x k b h j z e;rw[yaj (yp.1 this).1];exact this
  .rw[yan hl]at h;have:=lG y _ b h j z e;rw[yan (by omega)];rw[show k+1+j - (ZK x).length=k - (ZK x).length+1+j by omega]
   exact this
 |.block _ a,k,b,h,j,z,e=>lG a k b h j z e
 |.scope a,k,b,h,j,z,e=>lG a k b h j z e
 |.loop a,k,b,h,j,z,e=>by
  simp only[ZK]at h ⊢
  cases k with
  |zero=>
   simp only[ybt,yj,Code.loop.injEq]at h;subst h;rw[show 0+1+j=j+1 by omega,ybe]
   exact e
  |succ k=>
   rw[ybe]at h;rw[show k+1+1+j=(k+1+j)+1 by omega,ybe]
   exact lG a k b h j z e
 |.skip,_,_,h,_,_,_=>by simp[ZK]at h
 |.region _ _ _,_,_,h,_,_,_=>by simp[ZK]at h
 |.rangeFunc _ _ _ _,_,_,h,_,_,_=>by simp[ZK]at h
 |.exit _,_,_,h,_,_,_=>by simp[ZK]at h
 |.ret,_,_,h,_,_,_=>by simp[ZK]at h
 |.label _,_,_,h,_,_,_=>by simp[ZK]at h
 |.goto _,_,_,h,_,_,_=>by simp[ZK]at h
 |.refuse _,_,_,h,_,_,_=>by simp[ZK]at h
def lH(P:yg)(g:yr)(N:Nat):yL (Nat×Lp)->Prop
 |[]=>True
 |q::r=>q.2.Ok P N (gY P g q.1)/\lH P g N r
theorem GG{g:yr}{N:Nat}:∀{l:yL (Nat×Lp)}{n:Nat}{lp:Lp},lH P g N l->(n,lp)∈l->lp.Ok P N (gY P g n)
 |[],_,_,_,h=>by cases h
 |q::r,n,lp,c,h=>by
  rcases ybz.1 h with h|h
  .subst h;exact c.1
  .exact GG c.2 h
def kK(P:yg)(g:yr):Code:=
 match P.funcs[g]? with
 |some fn=>fn.body.getD .skip
 |none=>.skip
theorem GH{g:yr}{k:Nat}{b:Code}(h:(ZK (kK P g))[k]? =ab (.loop b)):gY P g k=b:=by
 unfold gY RY;unfold kK at h;split at h
 .rename_i fn f;rw[f];dsimp only
  cases e:fn.body with
  |none=>rw[e]at h;simp[ZK]at h
  |some c=>
   rw[e]at h;dsimp only[Option.getD]at h ⊢;rw[ydg,h];rfl
 .simp[ZK]at h
theorem ZKH{g:yr}{fi:FI}{N:Nat}(h:lH P g N fi.lp):jI P fi N (kK P g) 0:=by
 intro k b e lp c;rw[yau]at c;rw[<-GH e];exact GG h c
theorem ZIp{g:yr}{fi:FI}{N k:Nat}(c:(ZK (kK P g))[k]? =ab (.loop (gY P g k)))(h:lH P g N fi.lp):jI P fi N (gY P g k) (k+1):=by
 intro j b e lp f;have:=lG _ _ _ c j _ e;rw[<-GH this];exact GG h f
def vl(P:yg)(g k:Nat):Bool:=
 match (ZK (kK P g))[k]? with
 |some (.loop _)=>ae
 |_=>af
theorem ZuN{g k:Nat}(h:vl P g k=ae):(ZK (kK P g))[k]? =ab (.loop (gY P g k)):=by
 unfold vl at h;split at h
 .rename_i b c;rw[c,GH c]
 .cases h
def GI(c:Code)(m:Nat):Code:=((WF c)[m]?).getD .skip
def rK(P:yg)(N:Nat)(c:Code):yL (Nat×Lp)->Prop
 |[]=>True
 |q::r=>q.2.Is P N (GI c q.1)/\rK P N c r
theorem Zwm{N:Nat}{c:Code}:∀{l:yL (Nat×Lp)}{m:Nat}{bk:Lp},rK P N c l->(m,bk)∈l->bk.Is P N (GI c m)
 |[],_,_,_,h=>by cases h
 |q::r,m,bk,e,h=>by
  rcases ybz.1 h with h|h
  .subst h;exact e.1
  .exact Zwm e.2 h
theorem ZEl{fi:FI}{N:Nat}{c:Code}(h:rK P N c fi.bk):iA P fi N c 0:=by
 intro k x f bk e;rw[yau]at e;have:=Zwm h e;unfold GI at this;rw[f]at this;exact this
theorem ZEm{fi:FI}{aD:Sp P}{g k N:Nat}{sl:ce}{es:yL bh}{I:yL Ty}{xs:yL bW}{step:Ty.aK I->yO (Ty.aK I⊕bW.sum xs)}(ok:dt aD)(hl:lH P g N fi.lp:=by exact True.intro)(c:vl P g k=ae:=by kernel_rfl)
 (h:∀v,oM P fi aD (gY P g k) k N sl es I xs v=step v:=by intro v;kernel_rfl) (hb:rK P N (gY P g k) fi.bk:=by exact True.intro):Lp.Ok P N (gY P g k) ⟨sl,es,I,xs,Ze step yD⟩:=
 ZNC yD ok (ZIp (ZuN c) hl) (ZEl hb) h
def lI{O:Type}(P:yg)(a:yL TD)(h:yL ah):yL ResultVar->(yL TD->yL aj->yO O)->yO O
 |[],K=>K [] []
 |.tmp t::r,K=>lI P a h r λc hs=>K (a.getD t .an::c) hs
 |.cell t e::r,K=>match a.getD t .an with
  |.am id f=>(mQ h id).bind λd=>ei (lk h) f d λsub hs _=>if gv P e (sub.er (lk h))=ae then lI P a h r λc hs'=>K (sub::c) (hs++hs') else ad
  |_=>ad
theorem vm{O:Type}{a:yL TD}{h:yL ah}{out:O}:∀(l:yL ResultVar)(K:yL TD->yL aj->yO O),lI P a h l K=ab out->∃c hs C,K c hs=ab out/\aY C/\∀yJ,jp P (TD.au (lk h) a) (aA h) l (hs++yJ)=ab (C,TD.au (lk h) c)
 |[],K,k=>⟨[],[],[],k,zZ,λ_=>rfl⟩
 |.tmp t::r,K,k=>by
  obtain⟨c,hs,C,e,f,g⟩:=vm r _ k;refine⟨_,_,C,e,f,λyJ=> ?_⟩
  simp only[jp,g yJ,yz,ue,TD.au]
 |.cell t I::r,K,k=>by
  unfold lI at k;split at k
  .rename_i id j m;obtain⟨d,s,k⟩:=yf.1 k;obtain⟨st,M,x⟩:=qG s;obtain⟨sub,hs,y,C,z,A,E,_⟩:=X2 _ _ _ _ k;obtain⟨F,G⟩:=Za z;obtain⟨c,hs',C',e,f,g⟩:=vm r _ G;refine⟨_,_,C++[dF j=WW j]++C',e,Zj.2 ⟨Zj.2 ⟨A,(Ws _).symm,aw⟩,f⟩,λyJ=> ?_⟩;unfold jp;rw[ue,m];dsimp only[TD.er];rw[x];dsimp only;rw[yac,E (hs'++yJ)];dsimp only;rw[yW F,g yJ];rfl
  .cases k
def jJ:yL TD->TD
 |[d]=>d
 |c=>.bf c
theorem vn{L:Lk}(c:yL TD):(jJ c).er L=mc (TD.au L c):=by
 match c with
 |[]=>rfl
 |[d]=>rfl
 |_::_::_=>rfl
def TD.arg(L:Lk):TD->TD
 |.own id nn t c=>.p (.sl nn t (Yb L id t c))
 |.agg e=>TD.df L e
 |d=>d
theorem ZIr{L:Lk}(d:TD):(d.arg L).er L=(d.er L).arg:=by
 cases d <;> first|rfl|exact SW _
def ZMz(h:yL ah)(rs:Sh)(es:yL bh)(n0:Nat)(r:TD):yO (yL Nat):=
 let l:=EQ h es 0 ((yu n0).map (λi=>(i,i))++Sh.ids rs r)
 ((yu es.length).drop n0).mapM λj=>l.lookup j
def vo(h:yL ah)(n0:Nat)(f:yL TD)(e:bW):yO (Ty.aK e.ty):=
 match e.sl with
 |[(0,rs)]=>(ZMz h rs e.es n0 (jJ f)).bind λc=>
  if once (yu n0++c) then(match Dv.rn (aR (yu n0++c)) ((jJ f).er (lk h)) with
   |some _=>(jJ f).rn (aR (yu n0++c))
   |none=>(jJ (f.map (TD.arg (lk h)))).rn (aR (yu n0++c))).bind λr=>
   (Wz h (yu n0++c) (yu n0++c)).bind λg=>(Sh.mt (lk g) rs r).bind λq=>(bh.cZ (lk g) e.es g).bind λw=>hU e.ty (q.2++w.2)
  else ad
 |_=>ad
def rL(h:yL ah)(n0:Nat)(c:yL TD):(l:yL bW)->yO (bW.sum l)
 |[]=>ad
 |[e]=>vo h n0 c e
 |e::f::r=>match vo h n0 c e with
  |some x=>ab (Sum.inl x:Ty.aK e.ty⊕bW.sum (f::r))
  |none=>(rL h n0 c (f::r)).map λx=>(Sum.inr x:Ty.aK e.ty⊕bW.sum (f::r))
theorem Ztq{h:yL ah}{n0:Nat}{c:yL TD}:∀{l:yL bW}{o:bW.sum l},rL h n0 c l=ab o->∀e vs,mZ l o e vs->∃x,vo h n0 c e=ab x/\vs=dN e.ty x
 |[],_,k,_,_,_=>by cases k
 |[e],o,k,x,vs,hs=>by
  obtain⟨rfl,rfl⟩:=hs
  exact⟨o,k,rfl⟩
 |e::f::r,o,k,x,vs,hs=>by
  simp only[rL]at k;split at k
  .rename_i y g;cases k;obtain⟨rfl,rfl⟩:=hs;exact⟨y,g,rfl⟩
  .obtain⟨y,j,m⟩:=Zd k;subst m;exact Ztq j x vs hs
def GJ(P:yg)(fi:FI)(aD:Sp P)(g:yr)(e:yL Sh)(es:yL bh)(ins:yL Ty)(xs:yL bW):Ty.aK ins->yO (bW.sum xs):=λx=>
 match P.funcs[g]? with
 |some fn=>match fn.body with
  |some c=>(Sh.fills e (dN ins x)).bind λq=>(bh.fills es q.2).bind λw=>if w.2.isEmpty then
    fx P fi aD c 0 0 (q.1++yab (fn.ntmps - q.1.length) .an) w.1 λf a h=>match f with
     |.exit _=>ad
     |_=>lI P a h fn.results.toList λj _=>rL h w.1.length j xs
    else ad
  |none=>ad
 |none=>ad
def lJ(P:yg)(g:yr):Nat:=
 match P.funcs[g]? with
 |some fn=>fn.ntmps
 |none=>0
theorem GK{fi:FI}{aD:Sp P}{g:yr}{ps:yL Sh}{es:yL bh}{ins:yL Ty}{xs:yL bW}{M:Ty.aK ins->yO (bW.sum xs)}(ok:dt aD)(hl:lH P g (lJ P g) fi.lp:=by exact True.intro)(hn:ps.length<=lJ P g:=by decide+kernel)
 (h:∀x,GJ P fi aD g ps es ins xs x=M x:=by intro v;kernel_rfl) (hb:rK P (lJ P g) (kK P g) fi.bk:=by exact True.intro):Fs.Ok (⟨g,ps,es,ins,xs,M⟩:Fs P):=by
 intro x o j;have j:M x=ab o:=j;rw[<-h x]at j;have E:=ZKH hl;unfold GJ at j;split at j
 .rename_i fn hf;split at j
  .rename_i c F;obtain⟨q,h1,j⟩:=yf.1 j;obtain⟨w,h2,j⟩:=yf.1 j;obtain⟨h3,j⟩:=Za j;have hN:lJ P g=fn.ntmps:=by unfold lJ;rw[hf]
   have hc:kK P g=c:=by unfold kK;rw[hf];dsimp only;rw[F];rfl
   rw[hc,hN]at E hb;have hb0:=ZEl hb;rw[hN]at hn
   have zV:(q.1++yab (fn.ntmps - q.1.length) TD.an).length=fn.ntmps:=by
    rw[yn,ycp,EJ h1];omega
   obtain⟨W,a,m,G,k2,k3⟩:=VS ok c _ _ _ _ _ zV E hb0 j
   have s:(W=.ret\/W=.normal)/\(lI P a m fn.results.toList λX _=>rL m w.1.length X xs)=ab o:=by
    cases W with
    |exit _=>cases G
    |normal=>exact⟨.inr rfl,G⟩
    |ret=>exact⟨.inl rfl,G⟩
   obtain⟨s,G⟩:=s;obtain⟨X,hs,C,f,g2,g3⟩:=vm _ _ G;refine⟨q.1,q.2,w.1,h1, ?_,λe vs s' I l=> ?_⟩
   .rw[h2];have:w.2=[]:=by simpa using h3
    rw[<-this]
   obtain⟨o1,f,hvs⟩:=Ztq f e vs I;unfold vo at f;split at f
   case h_2=>cases f
   rename_i rs hsl;obtain⟨Q,g4,f⟩:=yf.1 f;obtain⟨g5,f⟩:=Za f;obtain⟨r,g6,f⟩:=yf.1 f;obtain⟨Y,Z,f⟩:=yf.1 f;obtain⟨z,g8,f⟩:=yf.1 f;obtain⟨y,g9,f⟩:=yf.1 f;obtain⟨b1,b2⟩:=qX g9;have S:∀id t,Yb (lk Y) id t ad=Yb (lk y.1) id t ad:=λid t=>by rw[b2]
   have eo:=jE _ _ _ f
   have A:s'=([z.1],y.1):=by
    rw[hvs,eo,hsl]at l;unfold Q2 at l;rw[show qZ [(0,rs)] 1=[rs] from rfl]at l
    simp only[Sh.fills,mX _ _ _ g8,ya,yz]at l;have:=oz g9 [];rw[ybb]at this;rw[this]at l;exact(ybp l).symm
   subst A;refine⟨z.1,rfl, ?_⟩
   have T:fin P fn (TD.au (lk m) a) (aA m) (aA w.1).length Q hs=ab (C,r.er (lk Y),aA Y):=by
    unfold fin;have:=g3 [];rw[ybb]at this;rw[this];dsimp only;rw[ZE,g5, <-vn,show aH (aA m) _ _=ab (aA Y) from WQ (fu Z) Z]
    split at g6
    .rename_i r0 U;have e4:=iz (fu Z) _ _ g6;rw[e4]
    .rename_i U;have e4:=iz (fu Z) _ _ g6;rw[vn,ZC,ybc]at e4
     rw[U,show(TD.au (lk m) X).map Dv.arg=X.map (TD.er (lk m) ∘ TD.arg (lk m)) by
      rw[ZC,ybc];exact ycj λd _=>(ZIr d).symm,e4]
   have zU:Wq P c (TD.au (lk w.1) q.1++yab (fn.ntmps - (TD.au (lk w.1) q.1).length) .an) (aA w.1) W (TD.au (lk m) a) (aA m):=by
    have e5:TD.au (lk w.1) (q.1++yab (fn.ntmps - q.1.length) TD.an)=TD.au (lk w.1) q.1++yab (fn.ntmps - (TD.au (lk w.1) q.1).length) .an:=by
     rw[jz,ZC,ZC,yaq,List.map_replicate];rfl
    rw[<-e5];exact k3
   exact SB (tR hf F zU s T g2) (lB S _ _ _ g8) (qY S g9)
  .cases j
 .cases j
end
theorem vp{P:yg}{g:yr}{t:Ty}{xs:yL bW}{MA:Ty.aK [.sl t]->yO (bW.sum xs)}{MB:Ty.aK []->yO (bW.sum xs)}(E:Fs.Ok (⟨g,[.sl ae t],[],[.sl t],xs,MA⟩:Fs P))(hB:Fs.Ok (⟨g,[.nil t],[],[],xs,MB⟩:Fs P))
 (h:MB ()=MA ([]:yL t.aE)):Fs.Ok (⟨g,[.v (.sl t)],[],[.sl t],xs,MA⟩:Fs P):=by
 intro l o x;have c:∀(l:yL t.aE),Ty.cast (.sl t) (.sl t) l=ab l:=λl=>YB (.sl t) l;obtain⟨j,R1,H1,f1,f2,f3⟩:=E l o x
 have F:j=[.p (.sl (ab ae) t l)]/\R1=[]:=by
  have:Sh.fills [.sl ae t] [(⟨.sl t,l⟩:TV)]=ab (j,R1):=f1;simp only[Sh.fills,Sh.fill]at this;rw[c l]at this;have this:ab (([.p (.sl (ab ae) t l)]:yL TD),([]:yL TV))=ab (j,R1):=this;cases this;exact⟨rfl,rfl⟩
 obtain⟨rfl,rfl⟩:=F;cases f2;refine⟨[.p (.v (.sl t) l)],[],[], ?_,rfl,λe vs y hs z=> ?_⟩
 .show Sh.fills [.v (.sl t)] [(⟨.sl t,l⟩:TV)]=_;simp only[Sh.fills,Sh.fill];rw[c l];rfl
 .obtain⟨r,A,G⟩:=f3 e vs y hs z;refine⟨r,A, ?_⟩;refine ZJU (xs:=l.map t.enc) G λm=> ?_;have m:l=[]:=List.map_eq_nil_iff.1 m;subst m;obtain⟨S,R2,H2,I,M,Q⟩:=hB () o (by rw[<-x];exact h);cases I;cases M;obtain⟨T,f,s⟩:=Q e vs y hs z;rw[A]at f;cases f;exact s
def nq(n:Int):yO aGO:=if(ag (0<=n)&&ag (n.toNat<=Zn))=ae then ab [] else ad
theorem ZKJ{P:yg}{g:yr}{e:yb}(h:∀n:Nat,n<=Zn->cF P g [.p (.sl (ab af) 1 []),.p (.int .i64 (n:Int))] [] (.own 0 ad 1 []) [.log 1 e []]):
 Fs.Ok (⟨g,[.nil .u8,.v (.int .i64)],[],[.int .i64],[⟨.ret,[(0,.own 0 .u8)],[.log .u8 e],[.sl .u8]⟩],nq⟩:Fs P):=by
 intro n o f
 have j:∀(n:Int),nq n=ab o->(0<=n/\n.toNat<=Zn)/\([]:yL yB)=o:=λn f=>by
  unfold nq at f;obtain⟨c,l⟩:=Za (α:=yL yB) f;rw[yi,yP,yP]at c;exact⟨c,ybp l⟩
 obtain⟨c,l⟩:=j n f;cases l;refine⟨[.p (.sl (ab af) .u8 []),.p (.v (.int .i64) n)],[],[],rfl,rfl,λx vs s hs m=> ?_⟩;obtain⟨rfl,rfl⟩:=hs;cases m;refine⟨_,rfl, ?_⟩;have:=h (Int.toNat n) c.2;rw[Int.toNat_of_nonneg c.1]at this;exact this
mutual
theorem GL:∀(s:Sh)(vs w:yL TV)(q:TD×yL TV),s.fill vs=ab q->s.fill (vs++w)=ab (q.1,q.2++w)
 |.v t,vs,w,q,h=>by
  cases vs with
  |nil=>cases h
  |cons x r=>
   obtain⟨y,c,rfl⟩:=Zd (show(Ty.cast x.1 t x.2).map (λy=>((TD.p (.v t y),r):TD×yL TV))=ab q from h)
   show(Ty.cast x.1 t x.2).map (λy=>((TD.p (.v t y),r++w):TD×yL TV))=_
   rw[c];rfl
 |.elem t,vs,w,q,h=>by
  cases vs with
  |nil=>cases h
  |cons x r=>
   obtain⟨y,c,rfl⟩:=Zd (show(Ty.cast x.1 t x.2).map (λy=>((TD.elem (.v t y),r):TD×yL TV))=ab q from h)
   show(Ty.cast x.1 t x.2).map (λy=>((TD.elem (.v t y),r++w):TD×yL TV))=_
   rw[c];rfl
 |.sl nn t,vs,w,q,h=>by
  cases vs with
  |nil=>cases h
  |cons x r=>
   obtain⟨y,c,rfl⟩:=Zd (α:=(Ty.sl t).aE) (show(Ty.cast x.1 (.sl t) x.2).map (λ(y:yL t.aE)=>((TD.p (.sl (ab nn) t y),r):TD×yL TV))=ab q from h)
   show(Ty.cast x.1 (.sl t) x.2).map (λ(y:yL t.aE)=>((TD.p (.sl (ab nn) t y),r++w):TD×yL TV))=_
   rw[c];rfl
 |.nil _,vs,w,q,h=>by cases h;rfl
 |.own _ _,vs,w,q,h=>by cases h;rfl
 |.am _ _,vs,w,q,h=>by cases h;rfl
 |.mp _,vs,w,q,h=>by cases h;rfl
 |.rw _,vs,w,q,h=>by cases h;rfl
 |.rp j s p,vs,w,q,h=>by
  cases vs with
  |nil=>cases h
  |cons x r=>
   obtain⟨y,c,rfl⟩:=Zd (α:=Int) (show(Ty.cast x.1 (.int .i64) x.2).map (λ(i:Int)=>((TD.rp j (.ix i.toNat s::p),r):TD×yL TV))=ab q from h)
   show(Ty.cast x.1 (.int .i64) x.2).map (λ(i:Int)=>((TD.rp j (.ix i.toNat s::p),r++w):TD×yL TV))=_
   rw[c];rfl
 |.view _ _ _ _ _,vs,w,q,h=>by cases h;rfl
 |.rv _ _ _ _ _,vs,w,q,h=>by cases h;rfl
 |.fn g l,vs,w,q,h=>by
  simp only[Sh.fill]at h ⊢;obtain⟨y,c,rfl⟩:=Zd h
  rw[cm l vs w y c];rfl
 |.agg l,vs,w,q,h=>by
  simp only[Sh.fill]at h ⊢;obtain⟨y,c,rfl⟩:=Zd h
  rw[cm l vs w y c];rfl
 |.arr n s l,vs,w,q,h=>by
  simp only[Sh.fill]at h ⊢;obtain⟨y,c,rfl⟩:=Zd h
  rw[cm l vs w y c];rfl
 |.bf l,vs,w,q,h=>by
  simp only[Sh.fill]at h ⊢;obtain⟨y,c,rfl⟩:=Zd h
  rw[cm l vs w y c];rfl
 |.iface t x,vs,w,q,h=>by
  simp only[Sh.fill]at h ⊢;obtain⟨y,c,rfl⟩:=Zd h
  rw[GL x vs w y c];rfl
 |.qV t u x,vs,w,q,h=>by
  cases vs with
  |nil=>cases h
  |cons z r=>
   simp only[Sh.fill,List.cons_append]at h ⊢
   cases e:Ty.cast z.1 .bool z.2 with
   |none=>rw[e]at h;cases h
   |some b=>
    rw[e]at h;obtain⟨y,c,rfl⟩:=Zd h;show((Sh.fill x (r++w)).map _)=_
    rw[GL x r w y c];rfl
 |.bH,vs,w,q,h=>by cases h;rfl
 |.fn0,vs,w,q,h=>by cases h;rfl
 |.dy,vs,w,q,h=>by cases h;rfl
 |.bR,vs,w,q,h=>by cases h;rfl
 |.an,vs,w,q,h=>by cases h;rfl
theorem cm:∀(l:yL Sh)(vs w:yL TV)(q:yL TD×yL TV),Sh.fills l vs=ab q->Sh.fills l (vs++w)=ab (q.1,q.2++w)
 |[],vs,w,q,h=>by simp only[Sh.fills]at h;cases h;rfl
 |s::r,vs,w,q,h=>by
  simp only[Sh.fills]at h ⊢;obtain⟨a,c,h⟩:=yf.1 h;obtain⟨b,e,rfl⟩:=Zd h;rw[GL s vs w a c,ya,cm r a.2 w b e];rfl
end
theorem ZMA{P:yg}{g:yr}{t:Ty}{e:yb}{yJ:yL Sh}{i1 i2:yL Ty}{xs:yL bW}{M:Ty.aK i2->yO (bW.sum xs)}(pk:Ty.aK i1->Ty.aK i2)(h:Fs.Ok (⟨g,.own 0 t::yJ,[.log t e],i2,xs,M⟩:Fs P))
 (hp:∀x,dN i2 (pk x)=dN i1 x++[⟨.sl t,([]:yL t.aE)⟩]) (z:∀x,∃a,Sh.fills yJ (dN i1 x)=ab (a,[])):Fs.Ok (⟨g,.nil t::yJ,[],i1,xs,λx=>M (pk x)⟩:Fs P):=by
 intro x o A;obtain⟨c,R,H,f1,f2,f3⟩:=h (pk x) o A;obtain⟨a,s⟩:=z x;have f1:Sh.fills (.own 0 t::yJ) (dN i2 (pk x))=ab (c,R):=f1;rw[hp x]at f1;simp only[Sh.fills,Sh.fill,ya,cm yJ _ _ _ s,yz,yj,Prod.mk.injEq,List.nil_append]at f1;obtain⟨rfl,rfl⟩:=f1;have f2:((Ty.cast (.sl t) (.sl t) ([]:yL t.aE)).map λ(y:yL t.aE)=>((ah.log t e y,[]):ah×yL TV)).bind (λa=>(bh.fills [] a.2).map λb=>(a.1::b.1,b.2))=ab (H,[]):=f2;have j:Ty.cast (.sl t) (.sl t) ([]:yL t.aE)=ab ([]:yL t.aE):=YB (.sl t) ([]:yL t.aE);rw[j]at f2;cases f2;refine⟨.p (.sl (ab af) t [])::a,[],[], ?_,rfl,λE vs l hs m=> ?_⟩
 .show Sh.fills (.nil t::yJ) (dN i1 x)=_;simp only[Sh.fills,Sh.fill,ya,s,yz]
 .obtain⟨r,F,f⟩:=f3 E vs l hs m;refine⟨r,F, ?_⟩
  have G:TD.au (lk [.log t e []]) (.own 0 ad t ad::a)=.own 0 ad t.size []::TD.au (lk []) a:=by
   have I:TD.au (lk [.log t e []]) a=TD.au (lk []) a:=(cb (λid Q=>uo (H:=[]) (T:=t) (e:=e) id Q) a).symm;rw[TD.au,I];congr 1;rw[TD.er,show Yb (lk [.log t e []]) 0 t ad=[] from mU (H:=[])]
   rfl
  have f:cF P g (TD.au (lk [.log t e []]) (.own 0 ad t ad::a)) (aA [.log t e []]) (r.er (lk l.2)) (aA l.2):=f;rw[G]at f;exact ZzL (H:=[]) (e:=e) f
section
variable{P:yg}
theorem aX(h:HI)(lp:yL (Nat×Lp))(l:yL (Fs P))(a:cP l){g:yr}{c:yL Sh}{es:yL bh}{ins:yL Ty}{xs:yL bW}{M:Ty.aK ins->yO (bW.sum xs)}(hl:lH P g (lJ P g) lp:=by exact True.intro)(e:c.length<=lJ P g:=by decide+kernel)
 (k:∀x,GJ P { hi:=h,lp:=lp} { l:=l} g c es ins xs x=M x:=by intro v;kernel_rfl):Fs.Ok (⟨g,c,es,ins,xs,M⟩:Fs P):=GK (rh a) hl e k
abbrev Lp.bq(L:Lp)(P:yg)(g k:Nat):Prop:=L.Ok P (lJ P g) (gY P g k)
theorem Zx(h:HI)(lp:yL (Nat×Lp))(l:yL (Fs P))(a:cP l){g k N:Nat}{sl:ce}{es:yL bh}{I:yL Ty}{xs:yL bW}{step:Ty.aK I->yO (Ty.aK I⊕bW.sum xs)}(hl:lH P g N lp:=by exact True.intro)(c:vl P g k=ae:=by kernel_rfl)
 (e:∀v,oM P { hi:=h,lp:=lp} { l:=l} (gY P g k) k N sl es I xs v=step v:=by intro v;kernel_rfl):Lp.Ok P N (gY P g k) ⟨sl,es,I,xs,Ze step yD⟩:=ZEm (rh a) hl c e
end
end Go.Ev
end
section
namespace Go.Ev
universe u
variable{O:Type u}
def du(n:Nat)(k:Nat->O):O:=Nat.rec (motive:=λ_=>O) (k 0) (λm _=>k (Nat.succ m)) n
theorem Yu(n:Nat)(k:Nat->O):du n k=k n:=by cases n <;> rfl
def fK{α:Type}(f:α->(α->O)->O):yL α->(yL α->O)->O
 |[],k=>k []
 |a::r,k=>f a λa=>fK f r λr=>k (a::r)
theorem WA{α:Type}{f:α->(α->O)->O}(c:∀a k,f a k=k a):∀(l:yL α)(k:yL α->O),fK f l k=k l
 |[],k=>rfl
 |a::r,k=>by rw[fK,c,WA c r]
def GM(n:Int)(k:Int->O):O:=match n with
 |.ofNat n=>du n λn=>k (.ofNat n)
 |.negSucc n=>du n λn=>k (.negSucc n)
theorem ZKK(n:Int)(k:Int->O):GM n k=k n:=by cases n <;> (rw[GM,Yu])
def nr(b:Bool)(k:Bool->O):O:=match b with
 |true=>k ae
 |false=>k af
theorem oN(b:Bool)(k:Bool->O):nr b k=k b:=by cases b <;> rfl
mutual
def Ty.fo:(t:Ty)->t.aE->(t.aE->O)->O
 |.int _,x,k=>GM x k
 |.u8,x,k=>du (yao x) λn=>k (yaw n)
 |.u32,x,k=>du (yar x) λn=>k (yby n)
 |.u64,x,k=>du (UInt64.toNat x) λn=>k (yai n)
 |.bool,x,k=>nr x k
 |.str,x,k=>k x
 |.sl t,x,k=>fK (Ty.fo t) x k
 |.arr _ t,x,k=>fK (Ty.fo t) x k
 |.st c,x,k=>Ty.eC c x k
def Ty.eC:(c:yL Ty)->Ty.aK c->(Ty.aK c->O)->O
 |[],_,k=>k ()
 |[t],x,k=>Ty.fo t x k
 |t::u::r,x,k=>Ty.fo t x.1 λa=>Ty.eC (u::r) x.2 λb=>k (a,b)
end
mutual
theorem Ty.bn:∀(t:Ty)(x:t.aE)(k:t.aE->O),t.fo x k=k x
 |.int _,x,k=>ZKK x k
 |.u8,x,k=>by rw[Ty.fo,Yu];exact congrArg k UInt8.ofNat_toNat
 |.u32,x,k=>by rw[Ty.fo,Yu];exact congrArg k UInt32.ofNat_toNat
 |.u64,x,k=>by rw[Ty.fo,Yu];exact congrArg k UInt64.ofNat_toNat
 |.bool,x,k=>oN x k
 |.str,x,k=>rfl
 |.sl t,x,k=>by rw[Ty.fo];exact WA (Ty.bn t) x k
 |.arr _ t,x,k=>by rw[Ty.fo];exact WA (Ty.bn t) x k
 |.st c,x,k=>Ty.bM c x k
theorem Ty.bM:∀(c:yL Ty)(x:Ty.aK c)(k:Ty.aK c->O),Ty.eC c x k=k x
 |[],_,k=>rfl
 |[t],x,k=>Ty.bn t x k
 |t::u::r,x,k=>by rw[Ty.eC,Ty.bn t];exact Ty.bM (u::r) x.2 _
end
mutual
def TP.fo:TP->(TP->O)->O
 |.v t x,k=>t.fo x λx=>k (.v t x)
 |.sl nn t c,k=>fK t.fo c λc=>k (.sl nn t c)
 |.agg c,k=>TP.eC c λc=>k (.agg c)
 |.arr n s c,k=>TP.eC c λc=>k (.arr n s c)
 |.ko nn s c,k=>TP.eC c λc=>k (.ko nn s c)
 |.iface t x,k=>TP.fo x λx=>k (.iface t x)
 |x,k=>k x
def TP.eC:yL TP->(yL TP->O)->O
 |[],k=>k []
 |x::r,k=>TP.fo x λx=>TP.eC r λr=>k (x::r)
end
mutual
theorem TP.bn:∀(x:TP)(k:TP->O),x.fo k=k x
 |.v t x,k=>by rw[TP.fo,Ty.bn]
 |.sl nn t c,k=>by rw[TP.fo,WA (Ty.bn t)]
 |.agg c,k=>by rw[TP.fo,TP.bM c]
 |.arr n s c,k=>by rw[TP.fo,TP.bM c]
 |.ko nn s c,k=>by rw[TP.fo,TP.bM c]
 |.iface t x,k=>by rw[TP.fo,TP.bn x]
 |.bH,k=>rfl
 |.fn0,k=>rfl
 |.dy,k=>rfl
 |.bR,k=>rfl
 |.fQ _,k=>rfl
theorem TP.bM:∀(x:yL TP)(k:yL TP->O),TP.eC x k=k x
 |[],k=>rfl
 |x::r,k=>by rw[TP.eC,TP.bn x,TP.bM r]
end
def ZND{α:Type}(f:α->(α->O)->O):yO α->(yO α->O)->O
 |none,k=>k ad
 |some a,k=>f a λa=>k (ab a)
theorem ZKL{α:Type}{f:α->(α->O)->O}(c:∀a k,f a k=k a):∀(l:yO α)(k:yO α->O),ZND f l k=k l
 |none,k=>rfl
 |some a,k=>c a _
mutual
def TD.fo:TD->(TD->O)->O
 |.p x,k=>x.fo λx=>k (.p x)
 |.elem x,k=>x.fo λx=>k (.elem x)
 |.own id nn t c,k=>du id λid=>ZND (fK t.fo) c λc=>k (.own id nn t c)
 |.am id q,k=>du id λid=>k (.am id q)
 |.view id q s lo n,k=>du id λid=>du s λs=>du lo λlo=>du n λn=>k (.view id q s lo n)
 |.agg e,k=>TD.eC e λe=>k (.agg e)
 |.arr n s e,k=>du n λn=>du s λs=>TD.eC e λe=>k (.arr n s e)
 |.fn f e,k=>TD.eC e λe=>k (.fn f e)
 |.iface t x,k=>TD.fo x λx=>k (.iface t x)
 |.bf e,k=>TD.eC e λe=>k (.bf e)
 |.mp id,k=>du id λid=>k (.mp id)
 |.cz id,k=>du id λid=>k (.cz id)
 |.cC id v g z,k=>du id λid=>du v λv=>k (.cC id v g z)
 |.pm id v,k=>du id λid=>du v λv=>k (.pm id v)
 |.rv id v s lo n,k=>du id λid=>du v λv=>du s λs=>du lo λlo=>du n λn=>k (.rv id v s lo n)
 |.aW id v q,k=>du id λid=>du v λv=>k (.aW id v q)
 |.rw id,k=>du id λid=>k (.rw id)
 |.rp id q,k=>du id λid=>k (.rp id q)
 |.an,k=>k .an
def TD.eC:yL TD->(yL TD->O)->O
 |[],k=>k []
 |x::r,k=>TD.fo x λx=>TD.eC r λr=>k (x::r)
end
mutual
theorem TD.bn:∀(x:TD)(k:TD->O),x.fo k=k x
 |.p x,k=>by rw[TD.fo,TP.bn]
 |.elem x,k=>by rw[TD.fo,TP.bn]
 |.own id nn t c,k=>by rw[TD.fo,Yu,ZKL (WA (Ty.bn t))]
 |.am id q,k=>by rw[TD.fo,Yu]
 |.view id q s lo n,k=>by rw[TD.fo,Yu,Yu,Yu,Yu]
 |.agg e,k=>by rw[TD.fo,TD.bM e]
 |.arr n s e,k=>by rw[TD.fo,Yu,Yu,TD.bM e]
 |.fn f e,k=>by rw[TD.fo,TD.bM e]
 |.iface t x,k=>by rw[TD.fo,TD.bn x]
 |.bf e,k=>by rw[TD.fo,TD.bM e]
 |.mp id,k=>by rw[TD.fo,Yu]
 |.cz id,k=>by rw[TD.fo,Yu]
 |.cC id v g z,k=>by rw[TD.fo,Yu,Yu]
 |.pm id v,k=>by rw[TD.fo,Yu,Yu]
 |.rv id v s lo n,k=>by rw[TD.fo,Yu,Yu,Yu,Yu,Yu]
 |.aW id v q,k=>by rw[TD.fo,Yu,Yu]
 |.rw id,k=>by rw[TD.fo,Yu]
 |.rp id q,k=>by rw[TD.fo,Yu]
 |.an,k=>rfl
theorem TD.bM:∀(x:yL TD)(k:yL TD->O),TD.eC x k=k x
 |[],k=>rfl
 |x::r,k=>by rw[TD.eC,TD.bn x,TD.bM r]
end
def ah.fo(e:ah)(k:ah->O):O:=match e with
 |.var d st=>d.fo λd=>nr st λst=>k (.var d st)
 |.log t e f=>fK t.fo f λf=>k (.log t e f)
 |.map g a b l=>fK (λq k=>a.fo q.1 λx=>b.fo q.2 λy=>k (x,y)) l λl=>k (.map g a b l)
 |.cN v j a b c l=>du v λv=>fK (λq k=>a.fo q.1 λx=>fK (λq k=>b.fo q.1 λx=>c.fo q.2 λy=>k (x,y)) q.2 λy=>k (x,y)) l λl=>k (.cN v j a b c l)
 |.dW v a b l=>du v λv=>fK (λq k=>a.fo q.1 λx=>b.fo q.2 λy=>k (x,y)) l λl=>k (.dW v a b l)
 |.row v s st e d=>du v λv=>du s λs=>nr st λst=>d.fo λd=>k (.row v s st e d)
 |.aF t v st e f=>nr st λst=>fK t.fo f λf=>k (.aF t v st e f)
 |.aJ t h v st e a b=>nr st λst=>fK t.fo a λa=>fK t.fo b λb=>k (.aJ t h v st e a b)
 |.bz t h v st e a d b=>nr st λst=>fK t.fo a λa=>d.fo λd=>fK t.fo b λb=>k (.bz t h v st e a d b)
 |.gone=>k .gone
theorem ah.bn(e:ah)(k:ah->O):e.fo k=k e:=by
 cases e with
 |var d st=>rw[ah.fo,TD.bn,oN]
 |log t e f=>rw[ah.fo,WA (Ty.bn t)]
 |map g a b l=>rw[ah.fo,WA λq k=>by rw[Ty.bn a,Ty.bn b]]
 |cN v j a b c l=>rw[ah.fo,Yu,WA λq k=>by rw[Ty.bn a,WA λq k=>by rw[Ty.bn b,Ty.bn c]]]
 |dW v a b l=>rw[ah.fo,Yu,WA λq k=>by rw[Ty.bn a,Ty.bn b]]
 |row v s st e d=>rw[ah.fo,Yu,Yu,oN,TD.bn]
 |aF t v st e f=>rw[ah.fo,oN,WA (Ty.bn t)]
 |aJ t h v st e a b=>rw[ah.fo,oN,WA (Ty.bn t),WA (Ty.bn t)]
 |bz t h v st e a d b=>rw[ah.fo,oN,WA (Ty.bn t),TD.bn,WA (Ty.bn t)]
 |gone=>rfl
def vq(a:yL TD)(h:yL ah)(k:yL TD->yL ah->O):O:=TD.eC a λa=>fK ah.fo h λh=>k a h
theorem ZMC(a:yL TD)(h:yL ah)(k:yL TD->yL ah->O):vq a h k=k a h:=by rw[vq,TD.bM,WA ah.bn]
def rM:(l:yL bW)->bW.sum l->(bW.sum l->O)->O
 |[],x,k=>k x
 |[e],x,k=>Ty.eC e.ty x k
 |e::f::r,x,k=>match (x:Ty.aK e.ty⊕bW.sum (f::r)) with
  |.inl x=>Ty.eC e.ty x λx=>k (.inl x:Ty.aK e.ty⊕bW.sum (f::r))
  |.inr x=>rM (f::r) x λx=>k (.inr x:Ty.aK e.ty⊕bW.sum (f::r))
theorem ZIt:∀(l:yL bW)(x:bW.sum l)(k:bW.sum l->O),rM l x k=k x
 |[],x,k=>rfl
 |[e],x,k=>Ty.bM _ _ _
 |e::f::r,x,k=>by
  unfold rM
  cases (x:Ty.aK e.ty⊕bW.sum (f::r)) with
  |inl x=>exact Ty.bM _ _ _
  |inr x=>exact ZIt (f::r) x _
def Fs.fo{P:yg}(s:Fs P):Fs P:={ s with M:=λx=>Ty.eC s.ins x λx=>(s.M x).bind λo=>rM s.xs o ab}
theorem Fs.rN{P:yg}{s:Fs P}(h:s.Ok):s.fo.Ok:=by
 have e:s.fo=s:=by
  unfold Fs.fo
  have:(λx=>Ty.eC s.ins x λx=>(s.M x).bind λo=>rM s.xs o ab)=s.M:=by
   funext x;rw[Ty.bM]
   cases s.M x with
   |none=>rfl
   |some o=>exact ZIt _ _ _
  rw[this]
 rw[e];exact h
theorem ZAK{P:yg}:∀{l:yL (Fs P)},cP l->cP (l.map Fs.fo)
 |[],_=>trivial
 |s::r,h=>⟨Fs.rN h.1,ZAK h.2⟩
end Go.Ev
end
section
namespace Go.Ev
def ZEn(h:yL ah)(n0:Nat)(r:TD):yL Nat:=
 let c:=lE h 100000 (r.look++yu n0) []
 ((yu h.length).drop n0).filter c.contains
def vr(P:yg)(H:yL ah)(t:yb)(d:TD):yO TD:=
 match d with
 |.p x=>ab (.p x)
 |d=>(eZ P fJ t).bind λT=>(oA H 100 T d).map λy=>.p (.v T y)
theorem ZAL{P:yg}{H:yL ah}{t:yb}{d e:TD}(h:vr P H t d=ab e):fm (aA H) (d.er (lk H)) (e.er (lk H)):=by
 unfold vr at h;split at h
 .cases h;exact .refl _
 .obtain⟨T,f,h⟩:=yf.1 h;obtain⟨y,c,rfl⟩:=Zd h;exact .deep (uA _ _ _ _ c)
def vt(P:yg)(H:yL ah):yL yb->yL TD->yO (yL TD)
 |[],[]=>ab []
 |t::r,d::c=>match vr P H t d,vt P H r c with
  |some a,ab b=>ab (a::b)
  |_,_=>ad
 |_,_=>ad
theorem Zwn{P:yg}{H:yL ah}:∀{ts:yL yb}{c es:yL TD},vt P H ts c=ab es->fp (aA H) (TD.au (lk H) c) (TD.au (lk H) es)
 |[],[],es,h=>by cases h;exact .nil
 |[],_::_,es,h=>by cases h
 |_::_,[],es,h=>by cases h
 |t::r,d::c,es,h=>by
  simp only[vt]at h;split at h
  .rename_i a b e f;cases h;exact .cons (ZAL e) (Zwn f)
  .cases h
def GN(P:yg)(H:yL ah)(ts:yL yb)(r:TD):yO TD:=
 match ts with
 |[t]=>vr P H t r
 |ts=>match r with
  |.bf c=>(vt P H ts c).map .bf
  |_=>ad
theorem ZIv{P:yg}{H:yL ah}{ts:yL yb}{r r':TD}(h:GN P H ts r=ab r'):gI (aA H) (r.er (lk H)) (r'.er (lk H)):=by
 unfold GN at h;split at h
 .exact .one (ZAL h)
 .split at h
  .obtain⟨e,c,rfl⟩:=Zd h;exact .bf (Zwn c)
  .cases h
def vu{O:Type}(P:yg)(ts:yL yb)(r:TD)(H:yL ah)(K:TD->yL ah->yO O):yO O:=
 match ts with
 |[]=>K r H
 |ts=>(GN P (nb ((lE H 100000 r.look []).filter (EN H)) H) ts r).bind λc=>K c (nb ((lE H 100000 r.look []).filter (EN H)) H)
theorem ZFK{O:Type}{P:yg}{ts:yL yb}{r:TD}{H:yL ah}{K:TD->yL ah->yO O}{out:O}{g:yr}{args:yL Dv}{H0:yL ar}(h:vu P ts r H K=ab out)(hc:cF P g args H0 (r.er (lk H)) (aA H)):
 ∃r' H',K r' H'=ab out/\cF P g args H0 (r'.er (lk H')) (aA H'):=by
 unfold vu at h;split at h
 .exact⟨_,_,h,hc⟩
 .obtain⟨r',c,e⟩:=yf.1 h;generalize (lE H 100000 r.look []).filter (EN H)=ids at c e;refine⟨_,_,e,ZG7 hc (ZCC ids H) ?_⟩;have:=ZIv c;rw[UV]at this ⊢;exact this
def GO{O:Type}(h:yL ah)(n0:Nat)(e:yL TD)(K:TD->yL ah->yO O):yO O:=
 let c:=ZEn h n0 (jJ e)
 if once (yu n0++c) then(match Dv.rn (aR (yu n0++c)) ((jJ e).er (lk h)) with
  |some _=>(jJ e).rn (aR (yu n0++c))
  |none=>(jJ (e.map (TD.arg (lk h)))).rn (aR (yu n0++c))).bind λr=>
  (Wz h (yu n0++c) (yu n0++c)).bind λf=>K r f
 else ad
section
variable{P:yg}
def rO(P:yg)(fG:yr->HI)(l:yL (Fs P))(mt:yL (yb×String×yr))(ii:yr->yL (Nat×jH))(f:yr->yL (Nat×Lp)):Nat->(O:Type)->yr->yL TD->yL ah->(TD->yL ah->yO O)->yO O
 |0,_,_,_,_,_=>ad
 |n+1,O,g,e,H,K=>vq e H λe H=>match P.funcs[g]? with
  |some fn=>match fn.body with
   |some c=>if ag (e.length<=fn.ntmps)=ae then
     fx P { hi:=fG g,un:=1000000,gh:=ii g,bk:=f g} ⟨l,rO P fG l mt ii f n,mt,[]⟩ c 0 0 (e++yab (fn.ntmps - e.length) .an) H λj a h=>match j with
      |.exit _=>ad
      |_=>lI P a h fn.results.toList λm _=>GO h H.length m λr h=>vu P (fG g).deep r h λr h=>vq [r] h λrs h=>match rs with
       |[r]=>K r h
       |_=>ad
     else ad
   |none=>ad
  |none=>ad
def GP(P:yg)(e:yr->yL (Nat×Lp)):Prop:=∀g fn c,P.funcs[g]? =ab fn->fn.body=ab c->∀k b,(WF c)[k]? =ab b->∀f,(k,f)∈e g->f.Is P fn.ntmps b
theorem ZEp{fG:yr->HI}{l:yL (Fs P)}{mt:yL (yb×String×yr)}{ii:yr->yL (Nat×jH)}{s:yr->yL (Nat×Lp)}(hl:cP l)(hm:gC P mt)(hb:GP P s):∀(n:Nat),nf P (rO P fG l mt ii s n)
 |0=>λ_ _ _ _ _ _ h=>by cases h
 |n+1=>λO g e H K out m=>by
  unfold rO at m;simp only[ZMC]at m;split at m
  .rename_i fn T;split at m
   .rename_i c x;obtain⟨U,m⟩:=Za m;have U:=yF U
    have Y:(e++yab (fn.ntmps - e.length) TD.an).length=fn.ntmps:=by
     rw[yn,ycp];omega
    obtain⟨G,a,f,y,k2,Z⟩:=VS (N:=fn.ntmps) (aD:=⟨l,rO P fG l mt ii s n,mt,[]⟩) ⟨hl,ZEp hl hm hb n,hm,aw⟩ c _ _ _ _ _ Y (λk b W X h=>by cases h) (λk b W X h=>hb g fn c T x k b W X (by rw[<-yau k];exact h)) m
    have t:(G=.ret\/G=.normal)/\(lI P a f fn.results.toList λz _=>GO f H.length z λr h=>vu P (fG g).deep r h K)=ab out:=by
     cases G with
     |exit _=>cases y
     |normal=>exact⟨.inr rfl,y⟩
     |ret=>exact⟨.inl rfl,y⟩
    obtain⟨t,y⟩:=t;obtain⟨z,hs,C,j,g2,g3⟩:=vm _ _ y;unfold GO at j;dsimp only at j;generalize ZEn f H.length (jJ z)=A at j;obtain⟨g5,j⟩:=Za j;obtain⟨r,Q,j⟩:=yf.1 j;obtain⟨S,I,j⟩:=yf.1 j;refine ZFK j ?_
    have E:fin P fn (TD.au (lk f) a) (aA f) (aA H).length A hs=ab (C,r.er (lk S),aA S):=by
     unfold fin;have:=g3 [];rw[ybb]at this;rw[this];dsimp only;rw[ZE,g5, <-vn,show aH (aA f) _ _=ab (aA S) from WQ (fu I) I]
     split at Q
     .rename_i r0 F;have M:=iz (fu I) _ _ Q;rw[M]
     .rename_i F;have M:=iz (fu I) _ _ Q;rw[vn,ZC,ybc]at M
      rw[F,show(TD.au (lk f) z).map Dv.arg=z.map (TD.er (lk f) ∘ TD.arg (lk f)) by
       rw[ZC,ybc];exact ycj λd _=>(ZIr d).symm,M]
    have zU:Wq P c (TD.au (lk H) e++yab (fn.ntmps - (TD.au (lk H) e).length) .an) (aA H) G (TD.au (lk f) a) (aA f):=by
     have e5:TD.au (lk H) (e++yab (fn.ntmps - e.length) TD.an)=TD.au (lk H) e++yab (fn.ntmps - (TD.au (lk H) e).length) .an:=by
      rw[jz,ZC,ZC,yaq,List.map_replicate];rfl
     rw[<-e5];exact Z
    exact tR T x zU t E g2
   .cases m
  .cases m
def GQ(P:yg)(fG:yr->HI)(l:yL (Fs P))(mt:yL (yb×String×yr))(n:Nat)(g:yr)(ii:yr->yL (Nat×jH):=λ_=>[])(c:yr->yL (Nat×Lp):=λ_=>[]):yO Bool:=
 rO P fG l mt ii c n Bool g [] [] λr h=>match h with
  |[]=>r.boolT
  |_=>ad
theorem ZKN{fG:yr->HI}{l:yL (Fs P)}{mt:yL (yb×String×yr)}{ii:yr->yL (Nat×jH)}{c:yr->yL (Nat×Lp)}{n:Nat}{g:yr}{b:Bool}(hl:cP l)(hm:gC P mt)(h:GQ P fG l mt n g ii c=ab b)(hb:GP P c:=by intro _ _ _ _ _ _ _ _ _ h;cases h):cF P g [] [] (.p (.bool b)) []:=by
 obtain⟨r,H',e,f⟩:=ZEp hl hm hb n _ _ _ _ _ _ h;split at e
 .rw[oq e]at f;exact f
 .cases e
theorem ZMG{fG:yr->HI}{l:yL (Fs P)}{mt:yL (yb×String×yr)}{ii:yr->yL (Nat×jH)}{c:yr->yL (Nat×Lp)}{n:Nat}{g:yr}{b:Bool}(hl:cP l)(hm:gC P mt)(h:GQ P fG l mt n g ii c=ab b)(hb:GP P c:=by intro _ _ _ _ _ _ _ _ _ h;cases h):
 Fs.Ok (⟨g,[],[],[],[⟨.ret,[(0,.v .bool)],[],[.bool]⟩],λ_=>ab b⟩:Fs P):=by
 intro x o f;cases f;refine⟨[],[],[],rfl,rfl,λe vs m hs j=> ?_⟩;obtain⟨rfl,rfl⟩:=hs;cases j;exact⟨_,rfl,ZKN hl hm h hb⟩
end
theorem fy{P:yg}(s:Nat->Fs P)(h:(s yD).Ok):(s 18446744073709551616).Ok:=by
 rw[kJ]at h;exact h
end Go.Ev
end
section
namespace Go.Ev
open Go.RowKit Go.WideShapes Go.ChangeShapes
def YL(P:yg):Nat->yb->Bool
 |0,_=>af
 |n+1,t=>match P.underlying t with
  |some .bool=>ae
  |some (.int _)=>ae
  |some .string=>ae
  |some (.slice e)=>YL P n e&&ag (0 < P.cellsOf e)
  |some (.array m e)=>YL P n e&&P.cellsOf t==m*P.cellsOf e
  |some (.struct c)=>(c.toList.all λf=>YL P n f.type)&&P.cellsOf t==(c.toList.map λf=>P.cellsOf f.type).sum&&
    ((yu c.toList.length).all λj=>match c.toList[j]? with|some f=>f.offset==((c.toList.take j).map λf=>P.cellsOf f.type).sum|none=>ae)
  |_=>af
theorem Zyg(P:yg):Kids P (λt=>∃n,YL P n t=ae) where
 pointer:=by
  rintro t e ⟨n,h⟩ hu
  cases n with
  |zero=>simp[YL]at h
  |succ n=>simp[YL,hu]at h
 slice:=by
  rintro t e ⟨n,h⟩ hu
  cases n with
  |zero=>simp[YL]at h
  |succ n=>simp[YL,hu]at h;exact⟨n,h.1⟩
 array:=by
  rintro t e m ⟨n,h⟩ hu
  cases n with
  |zero=>simp[YL]at h
  |succ n=>simp[YL,hu]at h;exact⟨⟨n,h.1⟩,h.2⟩
 struct:=by
  rintro t fs ⟨n,h⟩ hu
  cases n with
  |zero=>simp[YL]at h
  |succ n=>
   simp only[YL,hu,yi,yT,ybn]at h;obtain⟨⟨h1,h2⟩,h3⟩:=h;refine⟨λf hf=>⟨n,h1 f hf⟩,h2,λj f hf=> ?_⟩;have hj:j < fs.toList.length:=(yp.1 hf).1;have:=h3 j (by simpa using hj);rw[hf]at this;simpa using this
 map:=by
  rintro t k e ⟨n,h⟩ hu
  cases n with
  |zero=>simp[YL]at h
  |succ n=>simp[YL,hu]at h
def vv(R:yb->Pl->Prop):yL Field->yL Pl->Prop
 |[],[]=>True
 |f::c,y::e=>R f.type y/\vv R c e
 |_,_=>False
def dw(P:yg):Nat->yb->Pl->Prop
 |0,_,_=>False
 |n+1,t,x=>match P.underlying t,x with
  |some .bool,.bool _=>True
  |some (.int k),.int f m=>f=k/\(Lit.int k m).wf=ae
  |some .string,.str s=>s.size<=maxLen
  |some (.slice e),.sl nn s c=>s=P.cellsOf e/\nn=ad/\c.length<=maxLen/\∀y,y∈c->dw P n e y
  |some (.array m e),.arr g s c=>g=m/\s=P.cellsOf e/\c.length=m/\∀y,y∈c->dw P n e y
  |some (.struct h),.agg c=>vv (dw P n) h.toList c
  |_,_=>False
def kL:Nat->Nat->Prop:=λ_ _=>True
section
variable{H:Type}{enc:yb×yh->H}{P:yg}{w:yad}{base:Nat}{sp:Nat->Bool}{held:Bool}
theorem ZFL:∀{s:Nat}{a:Addr}{cs:yL yh},w.cells? base a s=ab cs->cs.length=s/\∀j u,cs[j]? =ab u->w.cell? (a.add j)=ab u:=by
 intro s a cs h;unfold World.cells? at h;split at h
 .have c:cs.length=s:=by simpa using mapM_some_length h
  refine⟨c,λj u e=> ?_⟩;have f:j < s:=by rw[<-c];exact(yp.1 e).1
  have:=mapM_some_get h j j (by simp[f]);rw[e]at this;exact this
 .cases h
theorem ZEq{e:yb}{n m:Nat}{a:Addr}{s:Nat}(hs:0 < s){c:yL (DataW H×yL MemPlace)}{len:Nat}(zV:c.length=len)
 (A:∀(cs:yL yh)(x:DataW H×yL MemPlace),DataW.trod enc P w base sp held m e cs=ab x->cs.length=s->∃f,dw P n e f/\aq w kL f cs)
 (h:∀i,i < len->(w.cells? base (a.add (i*s)) s).bind (DataW.trod enc P w base sp held m e)=c[i]?):
 ∀k,k<=len->∃(xs:yL Pl)(us:yL yh),xs.length=k/\(∀y,y∈xs->dw P n e y)/\aT s xs/\us.length=k*s/\ak w kL xs us/\(∀j u,us[j]? =ab u->w.cell? (a.add j)=ab u)
 |0,_=>⟨[],[],rfl,(λy hy=>by cases hy),(λy hy=>by cases hy),by simp,by simp[ak],by simp⟩
 |k+1,Z=>by
  obtain⟨xs,us,F,G,I,M,Q,S⟩:=ZEq hs zV A h k (by omega);have g:=h k (by omega);rw[yae (by omega)]at g;obtain⟨cs,T,U⟩:=yf.1 g;obtain⟨t,W⟩:=ZFL T;obtain⟨f,X,E⟩:=A cs _ U t;have z:f.size=s:=by rw[<-WR _ _ E,t]
  refine⟨xs++[f],us++cs,by simp[F],λy hy=> ?_,λy hy=> ?_,by simp[M,t,ybd],Ys Q (by simpa[ak] using E),λj u l=> ?_⟩
  .rcases ycm.1 hy with hy|hy
   .exact G y hy
   .rw[yav.1 hy];exact X
  .rcases ycm.1 hy with hy|hy
   .exact I y hy
   .rw[yav.1 hy];exact z
  .by_cases Y:j < us.length
   .rw[yaj Y]at l;exact S j u l
   .rw[yan (by omega)]at l;have:=W _ _ l;rw[Addr.add_add]at this;rw[<-this];congr 2;omega
theorem ZAM{e:yb}{n m:Nat}{s:Nat}{cs:yL yh}{c:yL (DataW H×yL MemPlace)}{len:Nat}(zV:c.length=len)(hcs:cs.length=len*s)
 (l:∀(cs:yL yh)(x:DataW H×yL MemPlace),DataW.trod enc P w base sp held m e cs=ab x->cs.length=s->∃f,dw P n e f/\aq w kL f cs)
 (h:∀i,i < len->DataW.trod enc P w base sp held m e ((cs.drop (i*s)).take s)=c[i]?):
 ∀k,k<=len->∃(xs:yL Pl),xs.length=k/\(∀y,y∈xs->dw P n e y)/\aT s xs/\ak w kL xs (cs.take (k*s))
 |0,_=>⟨[],rfl,(λy hy=>by cases hy),(λy hy=>by cases hy),by simp[ak]⟩
 |k+1,A=>by
  obtain⟨xs,E,F,G,I⟩:=ZAM zV hcs l h k (by omega);have g:=h k (by omega);rw[yae (by omega)]at g;have M:k*s+s<=len*s:=by rw[<-Nat.succ_mul];exact Nat.mul_le_mul_right _ A
  have t:((cs.drop (k*s)).take s).length=s:=by simp;omega
  obtain⟨f,Q,z⟩:=l _ _ g t;have j:f.size=s:=by rw[<-WR _ _ z,t]
  refine⟨xs++[f],by simp[E],λy hy=> ?_,λy hy=> ?_, ?_⟩
  .rcases ycm.1 hy with hy|hy
   .exact F y hy
   .rw[yav.1 hy];exact Q
  .rcases ycm.1 hy with hy|hy
   .exact G y hy
   .rw[yav.1 hy];exact j
  .rw[ybd,Nat.one_mul,List.take_add];exact Ys I (by simpa[ak] using z)
theorem Zwo{n m:Nat}{cs:yL yh}
 (z:∀(t:yb),YL P n t=ae->∀(cs:yL yh)(x:DataW H×yL MemPlace),DataW.trod enc P w base sp held m t cs=ab x->∃s,dw P n t s/\aq w kL s cs):
 ∀(c:yL Field)(o:Nat),(∀f,f∈c->YL P n f.type=ae)->(∀(j:Nat)f,c[j]? =ab f->f.offset=o+((c.take j).map λf=>P.cellsOf f.type).sum)->
  cs.length=o+(c.map λf=>P.cellsOf f.type).sum->(∀(j:Nat)f,c[j]? =ab f->∃x,DataW.trod enc P w base sp held m f.type ((cs.drop f.offset).take (P.cellsOf f.type))=ab x)->
  ∃(xs:yL Pl),vv (dw P n) c xs/\ak w kL xs (cs.drop o)
 |[],o,_,_,y,_=>⟨[],zZ,by simp only[ak];apply List.drop_eq_nil_of_le;simp at y;omega⟩
 |f::c,o,A,E,y,h=>by
  obtain⟨x,F⟩:=h 0 f rfl;have e:=E 0 f rfl;simp at e;rw[e]at F;obtain⟨s,G,I⟩:=z f.type (A f (yay ..)) _ _ F;simp only[yaf,List.sum_cons]at y
  obtain⟨xs,M,Q⟩:=Zwo z c (o+P.cellsOf f.type) (λg l=>A g (yba _ l)) (λj g l=>by
   have:=E (j+1) g l;simp only[List.take_succ_cons,yaf,List.sum_cons]at this;omega) (by omega) (λj g l=>h (j+1) g l)
  refine⟨s::xs,⟨G,M⟩, ?_⟩;simp only[ak];refine⟨(cs.drop o).take (P.cellsOf f.type),(cs.drop o).drop (P.cellsOf f.type),(ybk ..).symm,I, ?_⟩;rw[List.drop_drop];exact Q
theorem ZKP:∀(n m:Nat)(t:yb),YL P n t=ae->∀(cs:yL yh)(x:DataW H×yL MemPlace),DataW.trod enc P w base sp held m t cs=ab x->∃pl,dw P n t pl/\aq w kL pl cs:=by
 intro n
 induction n with
 |zero=>intro m t h;simp[YL]at h
 |succ n ih=>
  intro m t g cs x h;unfold YL at g;split at g
  .rename_i c;obtain⟨b,rfl,_⟩:=DataW.trod_bool c h;exact⟨.bool b,by simp[dw,c],by simp[aq]⟩
  .rename_i k c;obtain⟨z,rfl,rfl,hw⟩:=DataW.trod_int c h;exact⟨.int k z,by simp[dw,c,hw],by simp[aq]⟩
  .rename_i c;obtain⟨s,rfl,M⟩:=DataW.trod_string c h;exact⟨.str s,by simp[dw,c];exact M.2,by simp[aq]⟩
  .rename_i e c;simp only[yi,yP]at g;rcases DataW.trod_slice c h with⟨rfl,rfl⟩|⟨a,len,cap,l,yJ,I,rfl,rfl,rfl,_,hle,Q,S,A,_⟩
   .exact⟨.sl ad (P.cellsOf e) [],by simp[dw,c],by simp only[aq];exact⟨(λy hy=>by cases hy),ad,0,rfl,ym _,Nat.zero_le _,Yd _,λ_=>rfl,λh=>absurd rfl h⟩⟩
   .obtain⟨T,us,U,M,h3,Z,h5,h6⟩:=ZEq (n:=n) g.2 S (λcs x W _=>ih I e g.1 cs x W) A len (ym _);refine⟨.sl ad (P.cellsOf e) T,by simp only[dw,c];exact⟨zZ,zZ,by omega,M⟩, ?_⟩;simp only[aq];refine⟨h3,ab a,cap,by rw[U],by omega,Q,Yd _,by simp,λhne=> ?_⟩
    have X:0 < us.length:=by
     rw[Z];have:0 < len:=by rw[<-U];exact List.length_pos_iff.2 hne
     exact Nat.mul_pos this g.2
    have E:=h6 0 us[0] (yae X);obtain⟨b,o,F⟩:=a
    have G:F=ad:=by
     cases F with
     |none=>rfl
     |some z=>
      exfalso;unfold World.cell? at E;split at E
      .simp[Addr.add]at E
      .cases E
    subst G;exact⟨b,o,us,rfl,h5,λj u c=>⟨by have:=h6 j u c;rwa [Addr.add_lit]at this,aw⟩⟩
  .rename_i k e c;simp only[yi,yT]at g;obtain⟨l,I,rfl,rfl,hl,S,A⟩:=DataW.trod_array c h;obtain⟨T,U,M,h3,Z⟩:=ZAM (n:=n) (s:=P.cellsOf e) S (by rw[hl,g.2]) (λcs x W _=>ih I e g.1 cs x W) A k (ym _);rw[ybs (by rw[hl,g.2];exact ym _)]at Z;exact⟨.arr k (P.cellsOf e) T,by simp only[dw,c];exact⟨zZ,zZ,U,M⟩,by simp only[aq];exact⟨U,h3,Z⟩⟩
  .rename_i fs c;simp only[yi,yT,ybn]at g;obtain⟨⟨t1,t2⟩,t3⟩:=g;obtain⟨l,I,rfl,rfl,hl,S,A⟩:=DataW.trod_struct c h
   obtain⟨T,q1,q2⟩:=Zwo (n:=n) (m:=I) (cs:=cs) (λt g cs x W=>ih I t g cs x W) fs.toList 0 t1 (λj f Y=>by
    have hj:j < fs.toList.length:=(yp.1 Y).1;have:=t3 j (by simpa using hj);rw[Y]at this;simpa using this) (by rw[hl,t2];omega) (λj f Y=>by
    have hj:j < fs.toList.length:=(yp.1 Y).1;have:=A j f (by simpa using Y);rw[yae (by rw[S];simpa using hj)]at this;exact⟨_,this⟩)
   exact⟨.agg T,by simp only[dw,c];exact q1,by simp only[aq];simpa using q2⟩
  .cases g
end
end Go.Ev
namespace Go.Ev
open Go.RowKit Go.WideShapes Go.ChangeShapes
def vx(P:yg)(n:Nat):yL yb->yL Pl->Prop
 |[],[]=>True
 |t::ts,x::c=>dw P n t x/\vx P n ts c
 |_,_=>False
section
variable{H:Type}{enc:yb×yh->H}{P:yg}
def gL(W:yad):Sg:={ F:=kL,B:=λb=>W.heap.size<=b,m:=[],H:=[],w:=W,X:=λ_ _=>False}
theorem ZMH(W:yad):Ok (gL W) where
 len:=rfl
 inj i j b h:=by simp[gL]at h
 lt i b h:=by simp[gL]at h
 cA i e a h:=by simp[gL]at h
 new b h:=h
 own i b h:=by simp[gL]at h
 cQ b c h:=h.elim
 one b b' c h:=h.elim
theorem ZIx(W:yad)(b o:Nat):(gL W).aV b o:=⟨.inl trivial,λid e h=>by simp[gL]at h⟩
theorem Ztt{W:yad}{x:Pl}{v:yh}{cs:yL yh}(hx:aq W kL x cs)(hc:v.cells.toList=cs)(hv:x.isAgg=ae->∃a,v=.agg a)(g:x.isAgg=af->cs=[v]):yH (gL W) (.p x) v:=by
 have f:aq W (gL W).aV x cs:=Vd (λb o u h _=>⟨h,ZIx W b o⟩) x cs hx;refine⟨λc=> ?_,λc=> ?_⟩
 .obtain⟨a,rfl⟩:=hv c;refine⟨a,rfl, ?_⟩;simp only[yG];have:a.toList=cs:=by rw[<-hc];rfl
  rw[this];exact f
 .simp only[yG];have e:=g c;rw[<-e];exact f
theorem ZMI:∀{n:Nat}{t:yb}{x:Pl},dw P n t x->x.isAgg=Wa P t
 |0,_,_,h=>by simp[dw]at h
 |n+1,t,x,h=>by
  unfold dw at h;split at h <;> rename_i c <;> first|(simp[Pl.isAgg,Wa,c];done)|exact h.elim
theorem ZEr{W:yad}{n:Nat}(c:∀(t:yb)(v:yh),Wa P t=ae->Value.okWide P W .any 0 t v->∃a,v=.agg a):
 ∀(ts:yL yb)(vs:yL yh)(f:yL (DataW H))(m:yL MemPlace),(∀t,t∈ts->YL P n t=ae)->(∀(j:Nat)t v,ts[j]? =ab t->vs[j]? =ab v->(Wa P t=ae->∃a,v=.agg a)/\(Wa P t=af->v.cells.toList=[v]))->
  DataW.TrodAll enc P W 0 (λ_=>ae) ae ts vs f m->∃xs,vx P n ts xs/\aB (gL W) (xs.map .p) vs
 |[],[],[],_,_,_,_=>⟨[],zZ,by simp[aB]⟩
 |[],_::_,_,_,_,_,h=>by simp[DataW.TrodAll]at h
 |[],[],_::_,_,_,_,h=>by simp[DataW.TrodAll]at h
 |_::_,[],_,_,_,_,h=>by simp[DataW.TrodAll]at h
 |_::_,_::_,[],_,_,_,h=>by simp[DataW.TrodAll]at h
 |t::ts,v::vs,d::f,m,s,y,h=>by
  obtain⟨p,q,⟨yD,E⟩,F,rfl⟩:=h;obtain⟨x,z,G⟩:=ZKP n yD t (s t (yay ..)) _ _ E;obtain⟨xs,g,l⟩:=ZEr c ts vs f q (λu I=>s u (yba _ I)) (λj u M Q S=>y (j+1) u M Q S) F;obtain⟨T,U⟩:=y 0 t v rfl rfl;refine⟨x::xs,⟨z,g⟩, ?_⟩;simp only[yaf,aB];have A:=ZMI z;exact⟨v,vs,rfl,Ztt G rfl (λe=>T (by rw[<-A];exact e)) (λe=>U (by rw[<-A];exact e)),l⟩
theorem ZmW{W W':yad}{f:Nat->Bool}{n:Nat}:∀(ts:yL yb)(vs:yL yh)(j:yL (DataW H))(g:yL MemPlace),(∀t,t∈ts->YL P n t=ae)->
 DataW.TrodAll enc P W 0 (λ_=>ae) ae ts vs j g->(∀p∈g,W.sameAt W' p)->(∀p∈g,f p.block=ae)->DataW.TrodAll enc P W' 0 f ae ts vs j g
 |[],[],[],_,_,h,_,_=>h
 |[],_::_,_,_,_,h,_,_=>by simp[DataW.TrodAll]at h
 |[],[],_::_,_,_,h,_,_=>by simp[DataW.TrodAll]at h
 |_::_,[],_,_,_,h,_,_=>by simp[DataW.TrodAll]at h
 |_::_,_::_,[],_,_,h,_,_=>by simp[DataW.TrodAll]at h
 |t::ts,v::vs,d::j,g,s,h,hs,x=>by
  obtain⟨p,q,⟨yD,y⟩,A,rfl⟩:=h;refine⟨p,q,⟨yD, ?_⟩,ZmW ts vs j q (λu l=>s u (yba _ l)) A (λz c=>hs z (List.mem_append_right _ c)) (λz c=>x z (List.mem_append_right _ c)),rfl⟩
  exact DataW.trod_stays (Zyg P) (λ{t e}⟨n,m⟩l=>by
   cases n with
   |zero=>simp[YL]at m
   |succ n=>simp[YL,l]at m;exact m.2) (by simp) ⟨n,s t (yay ..)⟩ y (λz c=>hs z (List.mem_append_left _ c)) (λz c=>x z (List.mem_append_left _ c))
theorem ZAN{W:yad}{J':Sg}(h:To (gL W) J'):Below W.heap.size W J'.w:=
 ⟨h.os,h.tape,h.output,h.size,λb e=>h.block b e (λid=>by simp[gL]) (λc q=>q.elim)⟩
theorem Ztu{f:Func}{s:ChangeSpec}{e fresh handsOn x:Bool}{W W':yad}{args:Array yh}{v:yh}{y gs:yL (DataW H)}{c pa pv:yL MemPlace}
 (F:DataW.Whole enc P f.params.toList s.vars e W args.toList y gs c)
 (l:∀(b:Nat)(sp:Nat->Bool)(hd:Bool),DataW.TrodAll enc P W' b sp hd f.resultTypes.toList (v.resultList f.resultTypes.size) (s.fn H (y++gs)).results [])
 (G:∀sp:Nat->Bool,(∀p∈c,sp p.block=ae)->DataW.TrodAll enc P W' 0 sp ae f.params.toList args.toList (s.fn H (y++gs)).args pa)
 (g:∀sp:Nat->Bool,(∀p∈c,sp p.block=ae)->DataW.TrodVars enc P W' sp s.vars (s.fn H (y++gs)).vars pv)
 (hps:c=pa++pv) (hb:Below W.heap.size W W')
 (hok:∀(j:Nat)(t:yb)(r:yh),f.resultTypes[j]? =ab t->(v.resultList f.resultTypes.size)[j]? =ab r->Value.okWide P W' .any 0 t r):
 s.post enc P f e fresh handsOn x W args v W':=by
 have z:∀p∈c,p.block < W.heap.size:=λp h=>F.lt p h;have m:∀p∈c,(λb=>ag (b < W.heap.size)) p.block=ae:=λp h=>by simpa using z p h
 refine⟨y,gs,c,[],pa,pv,F,l _ _ _,G _ m,g _ m,World.keptBut_mono (λp h=>⟨h, ?_⟩) (hb.frame (· ∈c)),λ_=> ?_⟩
 .rw[hps,ycm]at h;exact Or.inr h
 .obtain⟨_,_,_,_,_,I,M⟩:=F;refine⟨hok,_,_,([]++pa)++pv,⟨[]++pa,pv,trodAll_append (G _ (λ_ _=>rfl)) (l _ _ _),g _ (λ_ _=>rfl),rfl, ?_, ?_⟩, ?_⟩
  .intro b A h;have E:MemPlace.cell b A∈c:=by rw[hps];simpa using h
   rw[hb.frozen (z _ E)];exact I b A E
  .intro Q;have:=M Q;rw[hps]at this;simpa using this
  .intro p h _;rw[hps];simpa using h
theorem Zyi{f:yr}{fn:Func}{s:ChangeSpec}{n:Nat}{tb:yb}(hr:fn.resultTypes= #[tb])(ht:P.underlying tb=ab .bool)(hv:s.vars=[])
 (hs:∀E:yL (DataW H),E.length=fn.params.toList.length->s.fn H E={ results:=[.lit (.bool ae)],args:=E}) (hp:∀t,t∈fn.params.toList->YL P n t=ae)
 (W:yad) (base:Nat) (args:Array yh) (E gs:yL (DataW H)) (A:yL MemPlace)
 (S:∀(j:Nat)t v,fn.params[j]? =ab t->args[j]? =ab v->Value.okWide P W .any base t v) (hW:DataW.Whole enc P fn.params.toList s.vars af W args.toList E gs A)
 (hc:∀xs:yL Pl,vx P n fn.params.toList xs->aB (gL W) (xs.map .p) args.toList->cF P f (xs.map .p) [] (.p (.bool ae)) []):
 Calls P f args W λe W'=>∃v,e=.returned v/\s.post enc P fn af ae af af W args v W':=by
 have F:=hW;obtain⟨p,q,X,Y,rfl,hfz,hnd⟩:=hW;rw[hv]at Y
 obtain⟨rfl,rfl⟩:gs=[]/\q=[]:=by
  cases gs with
  |nil=>exact⟨rfl,Y⟩
  |cons g r=>simp[DataW.TrodVars]at Y
 have zV:=trodAll_length X
 obtain⟨xs,x1,x2⟩:=ZEr (enc:=enc) (P:=P) (W:=W) (n:=n) (λt v l c=>by
  unfold Value.okWide at c;unfold Wa at l;split at c
  .obtain⟨G,rfl,_⟩:=c;exact⟨G,rfl⟩
  .obtain⟨G,rfl,_⟩:=c;exact⟨G,rfl⟩
  .rename_i Z h2;split at l
   .rename_i fs y;exact absurd y (Z fs)
   .rename_i k e y;exact absurd y (h2 k e)
   .cases l) fn.params.toList args.toList E p hp (λj t v I hvv=>by
  have c:=S j t v (by simpa using I) (by simpa using hvv);refine⟨λl=> ?_,λl=> ?_⟩
  .unfold Value.okWide at c;unfold Wa at l;split at c
   .obtain⟨G,rfl,_⟩:=c;exact⟨G,rfl⟩
   .obtain⟨G,rfl,_⟩:=c;exact⟨G,rfl⟩
   .rename_i Z h2;split at l
    .rename_i fs y;exact absurd y (Z fs)
    .rename_i k e y;exact absurd y (h2 k e)
    .cases l
  .obtain⟨m,hm⟩:∃m,YL P (m+1) t=ae:=by
    have:=hp t (ybq I)
    cases n with
    |zero=>simp[YL]at this
    |succ n=>exact⟨n,this⟩
   unfold Value.okWide at c;unfold YL at hm;unfold Wa at l;split at hm <;> rename_i y <;> simp only[y]at c l
   all_goals first
    |(cases l;done)
    |(cases hm;done)
    |(unfold Cell.okWide Cell.ok at c;simp only[y]at c;cases v <;> first|rfl|(simp at c;done))) X
 have x:=hc xs x1 x2 (gL W) args.toList (ZMH W) rfl x2;rw[Array.toArray_toList]at x;refine Calls.mono x ?_;rintro e W' ⟨v,J',rfl,rfl,hH,hto,c,yK⟩;have hbv:v=.bool ae:=by simpa[yH,Dv.isAgg,Pl.isAgg,yG,aq] using yK
 subst hbv;have hb:=ZAN hto;simp only[ybb]at F;have hlt:=F.lt
 have M:∀z∈p,W.sameAt J'.w z:=by
  intro z hz;have T:=hlt z hz
  cases z with
  |cell b o=>exact hb.cell (p:=⟨b,o,ad⟩) T
  |map b=>exact hb.block b T
 have Q:=hs E zV.2;refine⟨_,rfl,Ztu (pa:=p) (pv:=[]) F (λb sp hd=> ?_) (λsp h=> ?_) (λsp h=> ?_) (by simp) hb ?_⟩
 .rw[ybb,Q,hr];exact trodAll_cons_mk (shut_bool ht _) trodAll_mk0
 .rw[ybb,Q];exact ZmW fn.params.toList args.toList E p hp X M h
 .rw[ybb,Q,hv];rfl
 .intro j t r I U;rw[hr]at I U
  cases j with
  |zero=>
   simp at I;subst I;have:r=.bool ae:=by simpa[Value.resultList] using U.symm
   subst this
   exact okWide_bool_mk ht _
  |succ j=>simp at I
end
end Go.Ev
namespace Go.Ev
end Go.Ev
end
section
namespace Go.Ev
mutual
def Ty.Wf:(t:Ty)->t.aE->Prop
 |.int k,n=>(Lit.int k n).wf=ae
 |.u8,_=>True
 |.u32,_=>True
 |.u64,_=>True
 |.bool,_=>True
 |.str,s=>s.size<=maxLen
 |.sl t,l=>List.length l<=maxLen/\∀x,List.Mem x l->Ty.Wf t x
 |.arr n t,l=>List.length l=n/\∀x,List.Mem x l->Ty.Wf t x
 |.st c,x=>Ty.rP c x
def Ty.rP:(c:yL Ty)->Ty.aK c->Prop
 |[],_=>True
 |[t],x=>Ty.Wf t x
 |t::u::r,x=>Ty.Wf t x.1/\Ty.rP (u::r) x.2
end
mutual
def nu(P:yg):Nat->yb->Ty->Bool
 |0,_,_=>af
 |n+1,t,T=>match P.underlying t,T with
  |some (.int .u8),.u8=>ae
  |some (.int .u32),.u32=>ae
  |some (.int .u64),.u64=>ae
  |some (.int k),.int c=>ag (k=c)
  |some .bool,.bool=>ae
  |some .string,.str=>ae
  |some (.slice e),.sl T'=>P.cellsOf e==T'.size&&nu P n e T'
  |some (.array m e),.arr f T'=>m==f&&(P.cellsOf e==T'.size&&nu P n e T')
  |some (.struct g),.st Ts=>dY P n g.toList Ts
  |_,_=>af
def dY(P:yg):Nat->yL Field->yL Ty->Bool
 |0,_,_=>af
 |_+1,[],[]=>ae
 |n+1,f::c,T::Ts=>nu P n f.type T&&dY P n c Ts
 |_+1,_,_=>af
end
theorem ZNE{m:Int}(h:(Lit.int .u8 m).wf=ae):∃b:yB,m=(b.toNat:Int):=by
 simp only[Lit.wf,yi,yP]at h;have c:(0:Int)<=m:=h.1;have e:m<=255:=h.2;refine⟨yaw m.toNat, ?_⟩;have:(yaw m.toNat).toNat=m.toNat:=by simp;omega
 rw[this];omega
theorem ZMJ{m:Int}(h:(Lit.int .u32 m).wf=ae):∃b:yV,m=(b.toNat:Int):=by
 simp only[Lit.wf,yi,yP]at h;have c:(0:Int)<=m:=h.1;have e:m<=4294967295:=h.2;refine⟨yby m.toNat, ?_⟩;have:(yby m.toNat).toNat=m.toNat:=by simp;omega
 rw[this];omega
theorem ZMK{m:Int}(h:(Lit.int .u64 m).wf=ae):∃b:yU,m=(b.toNat:Int):=by
 simp only[Lit.wf,yi,yP]at h;have c:(0:Int)<=m:=h.1;have e:m<=18446744073709551615:=h.2;refine⟨yai m.toNat, ?_⟩;have:(yai m.toNat).toNat=m.toNat:=by simp;omega
 rw[this];omega
theorem GR{α β:Type}{f:α->β}{R:α->Prop}:∀{ys:yL β},(∀y,y∈ys->∃x,y=f x/\R x)->∃l:yL α,ys=l.map f/\∀x,List.Mem x l->R x
 |[],_=>⟨[],rfl,λx e=>by cases e⟩
 |y::ys,h=>by
  obtain⟨x,rfl,e⟩:=h y (yay ..);obtain⟨l,rfl,g⟩:=GR (λz c=>h z (yba _ c))
  exact⟨x::l,rfl,λz c=>by
   cases c with
   |head=>exact e
   |tail _ c=>exact g z c⟩
mutual
theorem oO{P:yg}:∀(m n:Nat)(t:yb)(T:Ty)(x:Pl),nu P m t T=ae->dw P n t x->∃v:T.aE,T.Wf v/\x=T.enc v
 |0,_,_,_,_,h,_=>by simp[nu]at h
 |_+1,0,_,_,_,_,h=>by simp[dw]at h
 |m+1,n+1,t,T,x,h,c=>by
  unfold nu at h;split at h
  .rename_i f;unfold dw at c;rw[f]at c;cases x <;> try exact c.elim
   obtain⟨rfl,g⟩:=c;obtain⟨b,rfl⟩:=ZNE g;exact⟨b,zZ,rfl⟩
  .rename_i f;unfold dw at c;rw[f]at c;cases x <;> try exact c.elim
   obtain⟨rfl,g⟩:=c;obtain⟨b,rfl⟩:=ZMJ g;exact⟨b,zZ,rfl⟩
  .rename_i f;unfold dw at c;rw[f]at c;cases x <;> try exact c.elim
   obtain⟨rfl,g⟩:=c;obtain⟨b,rfl⟩:=ZMK g;exact⟨b,zZ,rfl⟩
  .rename_i k I f;have h:=yF h;subst h;unfold dw at c;rw[f]at c;cases x <;> try exact c.elim
   obtain⟨rfl,g⟩:=c;exact⟨_,g,rfl⟩
  .rename_i f;unfold dw at c;rw[f]at c;cases x <;> try exact c.elim
   exact⟨_,zZ,rfl⟩
  .rename_i f;unfold dw at c;rw[f]at c;cases x <;> try exact c.elim
   exact⟨_,c,rfl⟩
  .rename_i e T' f;simp only[yi,yT]at h;unfold dw at c;rw[f]at c;cases x <;> try exact c.elim
   obtain⟨rfl,rfl,j,s⟩:=c
   obtain⟨l,rfl,z⟩:=GR λy A=>(by
    obtain⟨v,a,b⟩:=oO m n e T' y h.2 (s y A);exact⟨v,b,a⟩:∃v:T'.aE,y=T'.enc v/\T'.Wf v)
   refine⟨l,⟨by simpa using j,z⟩, ?_⟩;rw[h.1];rfl
  .rename_i M e Q T' f;simp only[yi,yT]at h;obtain⟨rfl,h⟩:=h;unfold dw at c;rw[f]at c;cases x <;> try exact c.elim
   obtain⟨rfl,rfl,j,s⟩:=c
   obtain⟨l,rfl,z⟩:=GR λy A=>(by
    obtain⟨v,a,b⟩:=oO m n e T' y h.2 (s y A);exact⟨v,b,a⟩:∃v:T'.aE,y=T'.enc v/\T'.Wf v)
   refine⟨l,⟨by simpa using j,z⟩, ?_⟩;rw[h.1];rfl
  .rename_i E Ts f;unfold dw at c;rw[f]at c;cases x <;> try exact c.elim
   rename_i F;obtain⟨v,G,rfl⟩:=jc m n E.toList Ts F h c;exact⟨v,G,rfl⟩
  .cases h
theorem jc{P:yg}:∀(m n:Nat)(e:yL Field)(Ts:yL Ty)(xs:yL Pl),dY P m e Ts=ae->vv (dw P n) e xs->∃v:Ty.aK Ts,Ty.rP Ts v/\xs=Ty.encs Ts v
 |0,_,_,_,_,h,_=>by simp[dY]at h
 |m+1,n,[],[],[],h,c=>⟨(),zZ,rfl⟩
 |m+1,n,[],[],_::_,h,c=>c.elim
 |m+1,n,[],_::_,_,h,c=>by cases h
 |m+1,n,_::_,[],_,h,c=>by cases h
 |m+1,n,_::_,_::_,[],h,c=>c.elim
 |m+1,n,f::e,[T],x::xs,h,c=>by
  simp only[dY,yi]at h;obtain⟨v,g,rfl⟩:=oO m n f.type T x h.1 c.1
  cases e with
  |nil=>cases xs with
   |nil=>exact⟨v,g,rfl⟩
   |cons _ _=>exact c.2.elim
  |cons _ _=>
   cases m with
   |zero=>exact absurd h.2 (by simp[dY])
   |succ m=>exact absurd h.2 (by simp[dY])
 |m+1,n,f::e,T::U::Ts,x::xs,h,c=>by
  simp only[dY,yi]at h;obtain⟨v,g,rfl⟩:=oO m n f.type T x h.1 c.1;obtain⟨w,j,rfl⟩:=jc m n e (U::Ts) xs h.2 c.2;exact⟨(v,w),⟨g,j⟩,rfl⟩
end
theorem Zwq{I X:Type}{step:I->yO (I⊕X)}(Inv:I->Prop)(c:I->Nat)(Post:X->Prop)
 (h:∀i,Inv i->(∃j,step i=ab (.inl j)/\Inv j/\c j < c i)\/(∃x,step i=ab (.inr x)/\Post x)):∀(n:Nat)(i:I),Inv i->c i < n->∃x,Ze step n i=ab x/\Post x
 |0,i,_,g=>by omega
 |n+1,i,l,g=>by
  unfold Ze;rcases h i l with⟨j,e,f,m⟩|⟨x,e,f⟩
  .rw[e,ya];exact Zwq Inv c Post h n j f (by omega)
  .rw[e,ya];exact⟨x,rfl,f⟩
theorem VT{I X:Type}{step:I->yO (I⊕X)}(Inv:I->Prop)(c:I->Nat)(Post:X->Prop)
 (h:∀i,Inv i->(∃j,step i=ab (.inl j)/\Inv j/\c j < c i)\/(∃x,step i=ab (.inr x)/\Post x)) (i:I) (hi:Inv i) (hm:c i < 18446744073709551616):∃x,Ze step yD i=ab x/\Post x:=by
 refine Zwq Inv c Post h yD i hi ?_;rw[kJ];exact hm
theorem Yf{z:Int}(h1: -9223372036854775808<=z)(h2:z<=9223372036854775807):wi z=z:=by
 simp only[wi,IntKind.wrap,IntKind.signed,IntKind.bits];simp;omega
theorem rQ{α:Type}{l:yL α}{i:Int}{y:α}(c:0<=i)(h:l[i.toNat]? =ab y):idx l i=ab y:=by
 unfold idx;rw[yW c,h]
theorem iB{α:Type}{l:yL α}{i:Nat}(h:i < l.length):∃y,l[i]? =ab y:=⟨_,yae h⟩
theorem XI{i:Int}{n:Nat}(h1:0<=i)(h2:i < (n:Int)):bK i n=ae:=by simp[bK,h1,h2]
theorem ZL{n m b:Nat}(h1:(n+m)*b<=140737488355328)(h2:n+m<=9223372036854775807):bU n m b=ae:=by
 unfold bU;rw[yi];exact⟨yY h1,yY h2⟩
def rR:(ts:yL Ty)->Ty.aK ts->yL TD
 |[],_=>[]
 |[t],x=>[.p (.v t x)]
 |t::u::r,x=>.p (.v t x.1)::rR (u::r) x.2
theorem ZEs:∀(ts:yL Ty)(x:Ty.aK ts),Sh.fills (ts.map .v) (dN ts x)=ab (rR ts x,[])
 |[],_=>rfl
 |[t],x=>by
  rw[show dN [t] x=[⟨t,x⟩] from rfl,yaf,List.map_nil,Sh.fills,Sh.fill]
  have e:=YB t x;dsimp only;rw[e]
  rfl
 |t::u::r,x=>by
  have h:=ZEs (u::r) x.2;have e:=YB t x.1;rw[show dN (t::u::r) x=⟨t,x.1⟩::dN (u::r) x.2 from rfl,yaf,Sh.fills,Sh.fill]
  dsimp only;rw[e,yz,ya,h];rfl
theorem ZIy{L:Lk}:∀(ts:yL Ty)(x:Ty.aK ts),TD.au L (rR ts x)=(Ty.encs ts x).map .p
 |[],_=>rfl
 |[t],x=>rfl
 |t::u::r,x=>by
  rw[show rR (t::u::r) x=.p (.v t x.1)::rR (u::r) x.2 from rfl,ZC,yaf, <-ZC,ZIy (u::r) x.2]
  rfl
theorem ZKR{P:yg}{g:yr}{ts:yL Ty}{M:Ty.aK ts->yO Bool}(hok:Fs.Ok (⟨g,ts.map .v,[],ts,[⟨.ret,[(0,.v .bool)],[],[.bool]⟩],M⟩:Fs P)){x:Ty.aK ts}(h:M x=ab ae):
 cF P g ((Ty.encs ts x).map .p) [] (.p (.bool ae)) []:=by
 obtain⟨c,R,H,f,j,l⟩:=hok x ae h;have e:=(ZEs ts x).symm.trans (show Sh.fills (ts.map .v) (dN ts x)=ab (c,R) from f)
 cases e;cases j
 obtain⟨r,m,s⟩:=l _ [⟨.bool,ae⟩] ([.p (.v .bool ae)],[]) ⟨rfl,rfl⟩ (by
  simp only[Q2,qZ];rfl)
 cases m;rw[<-ZIy (L:=lk [])];exact s
theorem nw{P:yg}{s:Fs P}(h:s.Ok){M:Ty.aK s.ins->yO (bW.sum s.xs)}(e:∀x,M x=s.M x):Fs.Ok (P:=P) { s with M:=M}:=by
 have:M=s.M:=funext e;subst this;exact h
def rS(P:yg)(m:Nat):yL yb->yL Ty->Bool
 |[],[]=>ae
 |t::ts,T::Ts=>nu P m t T&&rS P m ts Ts
 |_,_=>af
theorem ZEt{P:yg}{m n:Nat}:∀{ts:yL yb}{Ts:yL Ty}{xs:yL Pl},rS P m ts Ts=ae->vx P n ts xs->∃v:Ty.aK Ts,Ty.rP Ts v/\xs=Ty.encs Ts v
 |[],[],[],_,_=>⟨(),zZ,rfl⟩
 |[],[],_::_,_,h=>h.elim
 |[],_::_,_,h,_=>by cases h
 |_::_,[],_,h,_=>by cases h
 |_::_,_::_,[],_,h=>h.elim
 |t::ts,[T],x::xs,h,c=>by
  simp only[rS,yi]at h;obtain⟨v,e,rfl⟩:=oO m n t T x h.1 c.1
  cases ts with
  |nil=>cases xs with
   |nil=>exact⟨v,e,rfl⟩
   |cons _ _=>exact c.2.elim
  |cons _ _=>exact absurd h.2 (by simp[rS])
 |t::ts,T::U::Ts,x::xs,h,c=>by
  simp only[rS,yi]at h;obtain⟨v,e,rfl⟩:=oO m n t T x h.1 c.1;obtain⟨w,f,rfl⟩:=ZEt (Ts:=U::Ts) h.2 c.2;exact⟨(v,w),⟨e,f⟩,rfl⟩
def GS:yL aj:=[.raw,.raw,.raw,.raw,.raw,.raw,.raw,.b af,.raw,.raw,.raw,.raw,.bare,.raw,.raw,.bare,.gP,.raw,.raw,.raw,.raw,.raw,.raw,.raw]
def nx(i N:Nat)(xs:yL Pl):yL Pl:=(xs.drop (0+(i+1))).take (N - (i+1))
def gc(i N:Nat)(xs:yL Pl):Nat:=i+(nx i N xs).length
def rT(i N:Nat)(xs:yL Pl):yL Prop:=[0<=(i:Int),(i:Int)<=(i:Int)+1,(i:Int)+1<=(N:Int),(N:Int)<=(N:Int),((i:Int)==(i:Int)+1)=af,0<=(i:Int),(i:Int)<=(N:Int),0<=(i:Int)+1,(i:Int)+1<=(N:Int),
 0+(i+1)+(N - (i+1))<=N,0 < N,gc i N xs<=N,0<=(gc i N xs:Int),(gc i N xs:Int)<=(N:Int),0+N<=N,N - gc i N xs=1,0+gc i N xs+1<=N]
theorem GU{i:Nat}{xs:yL Pl}(h:i < xs.length):nx i xs.length xs=xs.drop (i+1)/\gc i xs.length xs=xs.length - 1:=by
 have e:nx i xs.length xs=xs.drop (i+1):=by
  unfold nx;rw[yau,ybs (by rw[ybf];exact ym _)]
 refine⟨e, ?_⟩;unfold gc;rw[e,ybf];omega
theorem ZKS{i:Nat}{xs:yL Pl}(h:i < xs.length):aY (rT i xs.length xs):=by
 obtain⟨_,e⟩:=GU h;unfold rT;rw[e];exact⟨by omega,by omega,by omega,Int.le_refl _,beq_eq_false_iff_ne.2 (by omega),by omega,by omega,by omega,by omega,by omega,by omega,by omega,by omega,by omega,by omega,by omega,by omega,aw⟩
theorem ZIB{i:Nat}{xs:yL Pl}(h:i < xs.length)(z:Pl):((xs.take i++(nx i xs.length xs++xs.drop (gc i xs.length xs))).set (0+gc i xs.length xs) z).take (gc i xs.length xs)=xs.eraseIdx i:=by
 obtain⟨c,e⟩:=GU h;rw[c,e,yau,List.eraseIdx_eq_take_drop_succ, <-yac]
 have f:(xs.take i++xs.drop (i+1)).length=xs.length - 1:=by
  rw[yn,yy,ybf];omega
 rw[List.set_append_right _ _ (by omega),List.take_append_of_le_length (by omega),ybs (by omega)]
theorem ZKT{P:yg}{g:yr}{s:Nat}{e:yb}{z:Pl}(h:∀(i N:Nat)(xs:yL Pl),qg P g [.rv 0 1 s 0 N,.p (.int .i64 (i:Int)),.p (.int .i64 ((i:Int)+1))] [.row 1 s ae e (.p (.arr N s xs))] GS []=
 ab (rT i N xs,.rv 0 1 s 0 (gc i N xs),[.row 1 s ae e (.p (.arr N s ((xs.take i++(nx i N xs++xs.drop (gc i N xs))).set (0+gc i N xs) z)))])){i:Nat}{xs:yL Pl}(hi:i < xs.length):
 cF P g [.rv 0 1 s 0 xs.length,.p (.int .i64 (i:Int)),.p (.int .i64 ((i:Int)+1))] [.row 1 s ae e (.p (.arr xs.length s xs))] (.rv 0 1 s 0 (xs.eraseIdx i).length) [.row 1 s ae e (.p (.arr (xs.eraseIdx i).length s (xs.eraseIdx i)))]:=by
 obtain⟨_,c⟩:=GU hi
 have f:(xs.eraseIdx i).length=gc i xs.length xs:=by
  rw[c,List.length_eraseIdx,yW hi]
 rw[f];refine ZJT GS [] (rT i xs.length xs) (h i xs.length xs) (ZKS hi) (Wk.refl _) ?_;rw[<-ZIB hi z];exact .cons (.shr (by omega)) .nil
def vy{t:Ty}(i j:Int)(v:yL Unit)(l:yL t.aE):yO (yL Unit×yL t.aE):=if(ag (0<=i)&&ag (j=i+1)&&(ag (v.length=1)&&ag (i < (l.length:Int))))=ae then ab (v,l.eraseIdx i.toNat) else ad
theorem vz{α β:Type}(f:α->β):∀(l:yL α)(i:Nat),(l.eraseIdx i).map f=(l.map f).eraseIdx i
 |[],_=>rfl
 |_::_,0=>rfl
 |x::l,i+1=>by
  show f x::(l.eraseIdx i).map f=f x::(l.map f).eraseIdx i;rw[vz f l i]
theorem ZML{P:yg}{g:yr}{t:Ty}{e:yb}{z:Pl}(h:∀(i N:Nat)(xs:yL Pl),qg P g [.rv 0 1 t.size 0 N,.p (.int .i64 (i:Int)),.p (.int .i64 ((i:Int)+1))] [.row 1 t.size ae e (.p (.arr N t.size xs))] GS []=
 ab (rT i N xs,.rv 0 1 t.size 0 (gc i N xs),[.row 1 t.size ae e (.p (.arr N t.size ((xs.take i++(nx i N xs++xs.drop (gc i N xs))).set (0+gc i N xs) z)))])):
 Fs.Ok (⟨g,[.rw 0,.v (.int .i64),.v (.int .i64)],[.row t ae e],[.int .i64,.int .i64,.sl (.st []),.sl t],[⟨.ret,[(0,.rw 0)],[.row t ae e],[.sl (.st []),.sl t]⟩],λx=>vy x.1 x.2.1 x.2.2.1 x.2.2.2⟩:Fs P):=by
 rintro⟨i,j,v,m⟩ o c;obtain⟨l,rfl⟩:∃l:yL t.aE,l=m:=⟨m,rfl⟩
 have f:∀(i j:Int)(v:yL Unit)(l:yL t.aE)(o:yL Unit×yL t.aE),vy i j v l=ab o->∃k:Nat,i=(k:Int)/\j=(k:Int)+1/\v=[()]/\k < l.length/\o=(v,l.eraseIdx k):=λi j v l o c=>by
  unfold vy at c;obtain⟨s,G⟩:=Za (α:=yL Unit×yL t.aE) c;rw[yi,yi,yi,yP,yP,yP,yP]at s;obtain⟨u,I⟩:=List.length_eq_one_iff.1 s.2.1;exact⟨i.toNat,by omega,by omega,I,by omega,(ybp G).symm⟩
 obtain⟨k,rfl,rfl,rfl,M,rfl⟩:=f i j v l o c;have y:Ty.cast aGS aGS ([()]:yL Unit)=ab ([()]:yL Unit):=YB aGS ([()]:yL Unit);have A:∀l:yL t.aE,Ty.cast (.sl t) (.sl t) l=ab l:=λl=>YB (.sl t) l;refine⟨[.rw 0,.p (.v (.int .i64) (k:Int)),.p (.v (.int .i64) ((k:Int)+1))],[⟨.sl (.st []),([()]:yL Unit)⟩,⟨.sl t,l⟩],[.aF t [()] ae e l],rfl, ?_,λU vs W hs Q=> ?_⟩
 .show((Ty.cast aGS aGS ([()]:yL Unit)).bind λ(v:yL Unit)=>(Ty.cast (.sl t) (.sl t) l).map λ(l:yL t.aE)=>((ah.aF t v ae e l,([]:yL TV)):ah×yL TV)).bind (λa=>(bh.fills [] a.2).map λb=>(a.1::b.1,b.2))=_;rw[y,A];rfl
 .obtain⟨rfl,rfl⟩:=hs
  have S:Q2 1 [(0,.rw 0)] [.row t ae e] [⟨.sl (.st []),([()]:yL Unit)⟩,⟨.sl t,l.eraseIdx k⟩]=ab ([.rw 0],[.aF t [()] ae e (l.eraseIdx k)]):=by
   show(((Ty.cast aGS aGS ([()]:yL Unit)).bind λ(v:yL Unit)=>(Ty.cast (.sl t) (.sl t) (l.eraseIdx k)).map λ(l:yL t.aE)=>((ah.aF t v ae e l,([]:yL TV)):ah×yL TV)).bind (λa=>(bh.fills [] a.2).map λb=>(a.1::b.1,b.2))).bind (λw=>if w.2.isEmpty then ab ([TD.rw 0],w.1) else ad)=_
   rw[y,A];rfl
  have T:=Q.symm.trans S;cases T;refine⟨_,rfl, ?_⟩;have E:∀l:yL t.aE,TD.er (lk [ah.aF t [()] ae e l]) (.rw 0)=.rv 0 1 t.size 0 l.length:=λl=>(uv (v:=[()]) rfl).1;show cF P g [TD.er (lk [ah.aF t [()] ae e l]) (.rw 0),.p (.int .i64 (k:Int)),.p (.int .i64 ((k:Int)+1))] [.row 1 t.size ae e (.p (.arr l.length t.size (l.map t.enc)))] (TD.er (lk [ah.aF t [()] ae e (l.eraseIdx k)]) (.rw 0)) [.row 1 t.size ae e (.p (.arr (l.eraseIdx k).length t.size ((l.eraseIdx k).map t.enc)))];rw[E,E,vz];have F:=ZKT h (i:=k) (xs:=l.map t.enc) (by rw[yx];exact M);rw[<-vz,yx,yx,vz]at F;exact F
end Go.Ev
end
section
namespace Go.Proofs.YtghfiijgklnflaaGreat
open Go.Ev Go.RowKit Go.Lib
abbrev zP(t:Ty):List bW:=[⟨.ret,[(0,.v t)],[],[t]⟩]
theorem ZC2(w:yad):Calls yc 199 #[.slice ad 0 0,.int .i64 0] w λe w'=>e=.returned (.slice ad 0 0)/\w'=w:=by
 go_enter Tryz.func199,Tryz.ntmps199
 go_wp2
 go_ret
 exact⟨rfl,rfl⟩
theorem ZFM(n:Nat)(w:yad)(s:0 < n)(z:n<=Zn):Calls yc 199 #[.slice ad 0 0,.int .i64 n] w λe w'=>e=.returned (.slice (ab ⟨w.heap.size,0,ad⟩) 0 (grownCap w n 0 5))/\
 w'=w.drew.alloc (.cells (Builtin.zeroCells #[.int .u8 0] n++Builtin.zeroCells #[.int .u8 0] (grownCap w n 0 5 - n)) 5):=by
 have F:n<=140737488355328:=z;have t:¬((n:Int) < 0):=by omega
 have I:wrap64 ((n:Int) - ((0:Int) - (0:Int)))=(n:Int):=by unfold wrap64;omega
 have A:wrap64 ((n:Int) - 0)=(n:Int):=by unfold wrap64;omega
 have x:wrap64 (n:Int)=(n:Int):=by unfold wrap64;omega
 have M:(n:Int) > 0:=by omega
 have E:∃i,yc.info? 5=ab i/\i.zero=ab (.int .u8 0)/\i.size=1/\i.bytes=1:=by
  have h:(yc.info? 5).map (λi=>(i.zero,i.size,i.bytes))=ab (ab (.int .u8 0),1,1):=by kernel_rfl
  obtain⟨i,t,g⟩:=Option.map_eq_some_iff.1 h;simp only[Prod.mk.injEq]at g;exact⟨i,t,g.1,g.2.1,g.2.2⟩
 obtain⟨i,ny,vP,j,hi4⟩:=E
 have f:∀l,(Builtin.append_ #[34,3] l #[.slice ad 0 0,.int .i64 n]).run yc w=
  .ok (.slice (ab ⟨w.heap.size,0,ad⟩) n (grownCap w n 0 5)) (w.drew.alloc (.cells (Builtin.zeroCells #[.int .u8 0] n++Builtin.zeroCells #[.int .u8 0] (grownCap w n 0 5 - n)) 5)):=λl=>by
  have h:=Lib.run_append_grow_zeros (P:=yc) w 34 3 l 5 i (.int .u8 0) .i64 .i64 Tryz.underlying34 Tryz.underlying3 ny vP ad 0 0 [] (by rw[j];simp[Builtin.firstCells]) n s (by omega) (by omega) (by omega)
   (by rw[hi4];omega) (by rw[yau];exact growslice_fits s (by rw[hi4];omega))
  simpa[Value.cells] using h
 obtain⟨G,y⟩:∃G,G=grownCap w n 0 5:=⟨_,rfl⟩;have m:=grownCap_ge w n 0 5;have c:=grownCap_le_maxLen w n 0 5 (by unfold maxLen;omega);unfold maxLen at c;rw[<-y]at f m c ⊢;clear y
 go_enter Tryz.func199,Tryz.ntmps199
 go_wp2_with (at_builtin;refine Lib.wpList_append_run _ rfl _ _ _ _ rfl _ _ rfl rfl _ _ (f _) ?_)
 all_goals (go_ret;exact⟨rfl,rfl⟩)
theorem ZIC(n:Nat)(E:n<=Zn):cF yc 199 [.p (.sl (ab af) 1 []),.p (.int .i64 (n:Int))] [] (.own 0 ad 1 []) [.log 1 5 []]:=by
 intro J vs t f g;simp only[aB]at g;obtain⟨v,_,rfl,M,Q,_,rfl,x,rfl⟩:=g;obtain rfl:=kZ M
 obtain rfl:Q=.int .i64 n:=by
  have:=x.2 rfl;simpa[yG,aq] using this
 have F:J.m=[]:=List.eq_nil_of_length_eq_zero (by rw[t.len,f];rfl);rcases Nat.eq_zero_or_pos n with rfl|h0
 .refine(ZC2 J.w).mono λe S⟨y,z⟩=> ?_;subst y;subst z;obtain⟨to,c⟩:=WE (J':={ J with m:=J.m++[ad],H:=J.H++[.log 1 5 []]}) t rfl rfl rfl rfl (World.grownBy.refl J.w ad) (.inl rfl) (λ_=>.inl ⟨rfl,rfl⟩);refine⟨_,{ J with m:=J.m++[ad],H:=J.H++[.log 1 5 []]},rfl,rfl,by simp[f],to,c, ?_⟩;rw[Zg rfl];simp only[yG];exact⟨λ_ j=>(by cases j),ad,0,rfl,ym _,by simp[maxLen],Yd _,λ_=>rfl,λh=>absurd rfl h,5,[],by simp[f],ym _,λ_=>.inl ⟨by simp[F],rfl,rfl⟩⟩
 .refine(ZFM n J.w h0 E).mono λe S⟨y,z⟩=> ?_;subst y;subst z;have T:=grownCap_ge J.w n 0 5;have l:=grownCap_le_maxLen J.w n 0 5 (by have:n<=140737488355328:=E;unfold maxLen;omega)
  have s:(Builtin.zeroCells #[.int .u8 0] n++Builtin.zeroCells #[.int .u8 0] (grownCap J.w n 0 5 - n):Array yh).size=grownCap J.w n 0 5*1:=by
   simp only[Array.size_append,size_zeroCells];simp;omega
  let A:Array yh:=Builtin.zeroCells #[.int .u8 0] n++Builtin.zeroCells #[.int .u8 0] (grownCap J.w n 0 5 - n);let J':Sg:={ J with m:=J.m++[ab J.w.heap.size],H:=J.H++[.log 1 5 []],w:=J.w.drew.alloc (.cells A 5)};have G:J'.w.heap[J.w.heap.size]? =ab (.cells A 5 (0,0)):=heap_alloc_new J.w.drew _
  obtain⟨to,c⟩:=WE (J':=J') t rfl rfl rfl rfl (Xs J.w (.cells A 5) ad) (.inr ⟨_,rfl,ym _,by simp[J']⟩)
   (λI=>.inr ⟨J.w.heap.size,_,grownCap J.w n 0 5,rfl,G,s,Nat.zero_le _,l,λ_ j=>(by cases j),by simp[ak]⟩)
  refine⟨_,J',rfl,rfl,by simp[J',f],to,c, ?_⟩;rw[Zg rfl];simp only[yG];exact⟨λ_ j=>(by cases j),_,_,rfl,Nat.zero_le _,l,Yd _,λh=>(by cases h),λh=>absurd rfl h,5,[],by simp[J',f],ym _,λ_=>.inr ⟨_,_,by simp[J',F],rfl,G,s⟩⟩
end Go.Proofs.YtghfiijgklnflaaGreat
end
section
set_option maxRecDepth 4000
namespace Go.Proofs.YtghfiijgklnflaaGreat
open Go Go.Ev
noncomputable section
abbrev yI:Ty:=.int .i64
def Yj(F:Nat)(a0:aGO):yO (aGO):=
 if(bU 0 a0.length 1)=ae then
  ab a0
 else
 ad
abbrev _root_.aGP:Go.Ev.Ty:=.sl .u8
def ZgH(F:Nat):Fs yc:=⟨102,[.sl ae .u8],[],[aGP],(zP aGP),λx=>Yj F x⟩
def Zhz:Fs yc:=ZgH yD
theorem ZgI:Zhz.Ok:=aX { own:=[5,7],still:=[2]} [] [] trivial
def Q3(F:Nat):yO (aGO):=
 ab []
def Zey(F:Nat):Fs yc:=⟨102,[.nil .u8],[],[],(zP aGP),λx=>Q3 F⟩
def Zfh:Fs yc:=Zey yD
theorem Zez:Zfh.Ok:=aX { own:=[5,7],still:=[2]} [] [] trivial
def Zfi(F:Nat):Fs yc:=⟨102,[.v aGP],[],[aGP],(zP aGP),λx=>Yj F x⟩
def WX:Fs yc:=Zfi yD
theorem QK:WX.Ok:=vp (t:=.u8) (xs:=(zP aGP)) (MA:=λ(x:aGO)=>Yj yD x) (MB:=λ_=>Q3 yD) ZgI Zez rfl
abbrev _root_.aGR:=yL yV
def GV(F:Nat):yO (aGR):=
 ab [1779033703,3144134277,1013904242,2773480762,1359893119,2600822924,528734635,1541459225]
def ZuP(F:Nat):Fs yc:=⟨104,[],[],[],(zP (.arr 8 .u32)),λx=>GV F⟩
def ZoB:Fs yc:=ZuP yD
theorem ZuQ:ZoB.Ok:=aX {} [] [] trivial
def ZQ(F:Nat)(a0:yV)(a1:Int):yO (yV):=
 let c:yV:=fq a0 (min (((cK a1)&&&31).toNat:Int).toNat 32);let e:yV:=gq a0 (min ((32 - ((cK a1)&&&31)).toNat:Int).toNat 32)
 ab (c|||e)
def ZkZ(F:Nat):Fs yc:=⟨155,[.v .u32,.v yI],[],[.u32,yI],(zP .u32),λx=>ZQ F x.1 x.2⟩
def GW:Fs yc:=ZkZ yD
theorem ZdS:GW.Ok:=aX { still:=[4]} [] [] trivial
def vA(F:Nat)(a0:aGO):yO (yV):=
 (idx a0 0).bind λc=>
 (idx a0 1).bind λe=>
 let f:yV:=(fq (yby c.toNat) 24)|||(fq (yby e.toNat) 16)
 (idx a0 2).bind λg=>
 (idx a0 3).bind λh=>
 let j:yV:=(f|||(fq (yby g.toNat) 8))|||(yby h.toNat)
 ab j
def Ztw(F:Nat):Fs yc:=⟨189,[.v aGP],[],[aGP],(zP .u32),λx=>vA F x⟩
def ZmX:Fs yc:=Ztw yD
theorem Ztx:ZmX.Ok:=aX { still:=[2]} [] [] trivial
def QL(F:Nat)(s:(aGO×Int×aGR)):yO ((aGO×Int×aGR)⊕aGR):=
 if(ag (s.2.1 < 64))=ae then
  if(ag (s.2.1 < 16))=ae then
   if(VQ s.1.length (ab (wi (4*s.2.1))) ad)=ae then
    (vA F (s.1.drop ((wi (4*s.2.1)).toNat))).bind λa=>
    if(bK s.2.1 64)=ae then
     (s.2.2[s.2.1.toNat]?).bind λb=>
     ab (.inl (s.1,wi (s.2.1+1),s.2.2.set s.2.1.toNat a))
    else
    ad
   else
   ad
  else
  if(bK (wi (s.2.1 - 15)) 64)=ae then
   (s.2.2[(wi (s.2.1 - 15)).toNat]?).bind λc=>
   if(bK (wi (s.2.1 - 2)) 64)=ae then
    (s.2.2[(wi (s.2.1 - 2)).toNat]?).bind λd=>
    (ZQ F c (-7)).bind λe=>
    (ZQ F c (-18)).bind λf=>
    (ZQ F d (-17)).bind λg=>
    (ZQ F d (-19)).bind λh=>
    if(bK (wi (s.2.1 - 16)) 64)=ae then
     (s.2.2[(wi (s.2.1 - 16)).toNat]?).bind λi=>
     if(bK (wi (s.2.1 - 7)) 64)=ae then
      (s.2.2[(wi (s.2.1 - 7)).toNat]?).bind λj=>
      let k:yV:=((i+((e^^^f)^^^(gq c 3)))+j)+((g^^^h)^^^(gq d 10))
      if(bK s.2.1 64)=ae then
       (s.2.2[s.2.1.toNat]?).bind λl=>
       ab (.inl (s.1,wi (s.2.1+1),s.2.2.set s.2.1.toNat k))
      else
      ad
     else
     ad
    else
    ad
   else
   ad
  else
  ad
 else
 ab (.inr s.2.2)
def Zik:Lp:=⟨[(0,.v aGP),(2,.am 0 []),(8,.v yI)],[.var (.v (.arr 64 .u32)) ae],[aGP,yI,(.arr 64 .u32)],[⟨.exit 0,[(2,.am 0 [])],[.var (.v (.arr 64 .u32)) ae],[(.arr 64 .u32)]⟩],Ze (QL yD) yD⟩
theorem Zmw:Zik.bq yc 153 0:=Zx { still:=[17,28,30,36,38]} [] [ZmX,GW] ⟨Ztx,ZdS,aw⟩
def vB(F:Nat)(a0:aGO):yO (aGR):=
 (Ze (QL F) F (a0,0,[0,0,0,0,0,0,0,0,0,0,0,0,0,0,0,0,0,0,0,0,0,0,0,0,0,0,0,0,0,0,0,0,0,0,0,0,0,0,0,0,0,0,0,0,0,0,0,0,0,0,0,0,0,0,0,0,0,0,0,0,0,0,0,0])).bind λa=>
 ab a
def ZpU(F:Nat):Fs yc:=⟨153,[.v aGP],[],[aGP],(zP (.arr 64 .u32)),λx=>vB F x⟩
def ZjV:Fs yc:=ZpU yD
theorem ZpV:ZjV.Ok:=aX { still:=[17,28,30,36,38]} [(0,Zik)] [] trivial ⟨Zmw,aw⟩
def GX(F:Nat):yO (aGR):=
 ab [1116352408,1899447441,3049323471,3921009573,961987163,1508970993,2453635748,2870763221,3624381080,310598401,607225278,1426881987,1925078388,2162078206,2614888103,3248222580,3835390401,4022224774,264347078,604807628,770255983,1249150122,1555081692,1996064986,2554220882,2821834349,2952996808,3210313671,3336571891,3584528711,113926993,338241895,666307205,773529912,1294757372,1396182291,1695183700,1986661051,2177026350,2456956037,2730485921,2820302411,3259730800,3345764771,3516065817,3600352804,4094571909,275423344,430227734,506948616,659060556,883997877,958139571,1322822218,1537002063,1747873779,1955562222,2024104815,2227730452,2361852424,2428436474,2756734187,3204031479,3329325298]
def ZuR(F:Nat):Fs yc:=⟨154,[],[],[],(zP (.arr 64 .u32)),λx=>GX F⟩
def ZoC:Fs yc:=ZuR yD
theorem ZuS:ZoC.Ok:=aX {} [] [] trivial
def Qa(F:Nat):(Int×aGR×aGR×aGR×aGR×aGR)->yO ((Int×aGR×aGR×aGR×aGR×aGR)⊕(aGR×aGR×aGR×aGR×aGR))
 |(a,e,f,d,c,b)=>
 if(ag (a < 64))=ae then
  (b[4]?).bind λg=>
  (ZQ F g (-6)).bind λh=>
  (b[4]?).bind λi=>
  (ZQ F i (-11)).bind λj=>
  (b[4]?).bind λk=>
  (ZQ F k (-25)).bind λl=>
  (b[7]?).bind λm=>
  (b[6]?).bind λn=>
  (b[4]?).bind λo=>
  (b[5]?).bind λp=>
  (b[6]?).bind λq=>
  let r:yV:=(m+((h^^^j)^^^l))+(n^^^(o&&&(p^^^q)))
  if(bK a 64)=ae then
   (c[a.toNat]?).bind λs=>
   if(bK a 64)=ae then
    (d[a.toNat]?).bind λt=>
    (b[0]?).bind λu=>
    (ZQ F u (-2)).bind λv=>
    (b[0]?).bind λw=>
    (ZQ F w (-13)).bind λx=>
    (b[0]?).bind λy=>
    (ZQ F y (-22)).bind λz=>
    (b[0]?).bind λA=>
    (b[1]?).bind λB=>
    (b[2]?).bind λC=>
    (b[0]?).bind λD=>
    (b[1]?).bind λE=>
    let G:yV:=(((r+s)+t)+((v^^^x)^^^z))+((A&&&B)|||(C&&&(D|||E)))
    (b[0]?).bind λH=>
    (b[1]?).bind λI=>
    (b[2]?).bind λJ=>
    (b[3]?).bind λK=>
    (b[4]?).bind λL=>
    (b[5]?).bind λM=>
    (b[6]?).bind λN=>
    ab (.inl (wi (a+1),e,f,d,c,[G,H,I,J,K+((r+s)+t),L,M,N]))
   else
   ad
  else
  ad
 else
 ab (.inr (e,f,d,c,b))
def vC:yL bh:=[.var (.v (.arr 8 .u32)) ae,.var (.v (.arr 8 .u32)) ae,.var (.v (.arr 64 .u32)) ae,.var (.v (.arr 64 .u32)) ae,.var (.v (.arr 8 .u32)) ae]
def Zhf:Lp:=⟨[(2,.am 0 []),(4,.am 1 []),(5,.am 2 []),(6,.am 3 []),(7,.am 4 []),(18,.v yI)],vC,[yI,(.arr 8 .u32),(.arr 8 .u32),(.arr 64 .u32),(.arr 64 .u32),(.arr 8 .u32)],[⟨.exit 0,[(2,.am 0 []),(4,.am 1 []),(7,.am 4 [])],vC,[(.arr 8 .u32),(.arr 8 .u32),(.arr 64 .u32),(.arr 64 .u32),(.arr 8 .u32)]⟩],Ze (Qa yD) yD⟩
def lK:HI:={ still:=[14,22,25,29,57,60,64]}
theorem Zk1:Zhf.bq yc 105 0:=Zx lK [] [GW] ⟨ZdS,aw⟩
def Qb(F:Nat):(Int×aGR×aGR×aGR×aGR×aGR)->yO ((Int×aGR×aGR×aGR×aGR×aGR)⊕(aGR×aGR×aGR×aGR×aGR))
 |(a,c,d,e,f,b)=>
 if(ag (a < 8))=ae then
  if(bK a 8)=ae then
   (b[a.toNat]?).bind λg=>
   if(bK a 8)=ae then
    (c[a.toNat]?).bind λh=>
    if(bK a 8)=ae then
     (b[a.toNat]?).bind λi=>
     ab (.inl (wi (a+1),c,d,e,f,b.set a.toNat (g+h)))
    else
    ad
   else
   ad
  else
  ad
 else
 ab (.inr (c,d,e,f,b))
def Zhg:Lp:=⟨[(2,.am 0 []),(4,.am 1 []),(7,.am 4 []),(104,.v yI)],vC,[yI,(.arr 8 .u32),(.arr 8 .u32),(.arr 64 .u32),(.arr 64 .u32),(.arr 8 .u32)],[⟨.exit 2,[(4,.am 1 []),(7,.am 4 [])],vC,[(.arr 8 .u32),(.arr 8 .u32),(.arr 64 .u32),(.arr 64 .u32),(.arr 8 .u32)]⟩],Ze (Qb yD) yD⟩
theorem Zk2:Zhg.bq yc 105 1:=Zx lK [] [] trivial
def Qv(F:Nat)(a0:aGR)(a1:aGO):yO (aGR):=
 (vB F a1).bind λg=>
 (GX F).bind λh=>
 (Ze (Qa F) F (0,a0,[0,0,0,0,0,0,0,0],g,h,a0)).bind λ(b,c,d,e,f)=>
 (Ze (Qb F) F (0,b,c,d,e,f)).bind λ(_,_,_,_,a)=>
 ab a
def ZoD(F:Nat):Fs yc:=⟨105,[.v (.arr 8 .u32),.v aGP],[],[(.arr 8 .u32),aGP],(zP (.arr 8 .u32)),λx=>Qv F x.1 x.2⟩
def GY:Fs yc:=ZoD yD
theorem Zhh:GY.Ok:=aX lK [(0,Zhf),(1,Zhg)] [ZjV,ZoC] ⟨ZpV,ZuS,aw⟩ ⟨Zk1,Zk2,aw⟩
def Yk(F:Nat)(a0:aGO):yO (aGO):=
 if(bU 0 a0.length 1)=ae then
  ab a0
 else
 ad
def ZeA(F:Nat):Fs yc:=⟨102,[.sl ae .u8],[],[aGP],[⟨.ret,[(0,.own 0 .u8)],[.log .u8 5],[aGP]⟩],λx=>Yk F x⟩
def Zfk:Fs yc:=ZeA yD
theorem ZeB:Zfk.Ok:=aX { own:=[2,5,7]} [] [] trivial
def Q4(F:Nat):yO (aGO):=
 ab []
def ZeC(F:Nat):Fs yc:=⟨102,[.nil .u8],[],[],[⟨.ret,[(0,.own 0 .u8)],[.log .u8 5],[aGP]⟩],λx=>Q4 F⟩
def Zfl:Fs yc:=ZeC yD
theorem ZeD:Zfl.Ok:=aX { own:=[2,5,7]} [] [] trivial
def Zc5(F:Nat):Fs yc:=⟨102,[.v aGP],[],[aGP],[⟨.ret,[(0,.own 0 .u8)],[.log .u8 5],[aGP]⟩],λx=>Yk F x⟩
def VZ:Fs yc:=Zc5 yD
theorem Zc6:VZ.Ok:=vp (t:=.u8) (xs:=[⟨.ret,[(0,.own 0 .u8)],[.log .u8 5],[aGP]⟩]) (MA:=λ(x:aGO)=>Yk yD x) (MB:=λ_=>Q4 yD) ZeB ZeD rfl
def vD(F:Nat)(s:(aGO×aGO×aGO)):yO ((aGO×aGO×aGO)⊕(aGO×aGO×aGO)):=
 if((Int.tmod (s.2.2.length:Int) 64)!=56)=ae then
  if(bU s.2.2.length 1 1)=ae then
   ab (.inl (s.1,s.2.1,s.2.2++([0]:yL yB)))
  else
  ad
 else
 ab (.inr (s.1,s.2.1,s.2.2))
abbrev _root_.aGQ:Go.Ev.Ty:=.arr 32 .u8
abbrev zJ:List bh:=[.var (.v aGQ) ae,.log .u8 5]
def ZoE:Lp:=⟨[(0,.v aGP),(2,.am 0 []),(3,.own 1 .u8)],zJ,[aGP,aGQ,aGP],[⟨.exit 0,[(0,.v aGP),(2,.am 0 []),(3,.own 1 .u8)],zJ,[aGP,aGQ,aGP]⟩],Ze (vD yD) yD⟩
def ny:HI:={ own:=[3,14,16,21,23,24,28,43],still:=[13,24,27,35,37,44,46]}
theorem Zri:ZoE.bq yc 45 0:=Zx ny [] [] trivial
def vE(F:Nat)(s:(Int×Int×aGO×aGO)):yO ((Int×Int×aGO×aGO)⊕(aGO×aGO)):=
 if(ag (s.2.1 >= 0))=ae then
  if(ag (0<=s.2.1))=ae then
   if(bU s.2.2.1.length 1 1)=ae then
    let a:aGO:=s.2.2.1++([w8 (Int.fdiv s.1 (2 ^ (min s.2.1.toNat 64)))]:yL yB)
    ab (.inl (s.1,wi (s.2.1 - 8),a,s.2.2.2))
   else
   ad
  else
  ad
 else
 ab (.inr (s.2.2.1,s.2.2.2))
def ZjW:Lp:=⟨[(0,.own 0 .u8),(1,.v yI),(5,.v yI)],[.log .u8 5,.log .u8 5],[yI,yI,aGP,aGP],[⟨.exit 0,[(0,.own 0 .u8)],[.log .u8 5,.log .u8 5],[aGP,aGP]⟩],Ze (vE yD) yD⟩
theorem ZnA:ZjW.bq yc 103 0:=Zx { own:=[0,4,10,16,17]} [] [] trivial
def VF(F:Nat)(a1:Int)(s0:aGO):yO (aGO):=
 (Ze (vE F) F (a1,56,s0,[])).bind λa=>
 ab a.1
def GZ(F:Nat):Fs yc:=⟨103,[.own 0 .u8,.v yI],[.log .u8 5],[yI,aGP],[⟨.ret,[(0,.own 0 .u8)],[.log .u8 5],[aGP]⟩],λx=>VF F x.1 x.2⟩
def HA:Fs yc:=GZ yD
theorem HB:HA.Ok:=aX { own:=[0,4,10,16,17]} [(0,ZjW)] [] trivial ⟨ZnA,aw⟩
def vF(F:Nat)(s:(aGO×aGO×aGO×aGR)):yO ((aGO×aGO×aGO×aGR)⊕(aGO×aGO×aGR)):=
 if(ag ((s.1.length:Int) >= 64))=ae then
  if(VQ s.1.length ad (ab 64))=ae then
   (Qv F s.2.2.2 (s.1.take 64)).bind λa=>
   if(VQ s.1.length (ab 64) ad)=ae then
    ab (.inl (s.1.drop 64,s.2.1,s.2.2.1,a))
   else
   ad
  else
  ad
 else
 ab (.inr (s.2.1,s.2.2.1,s.2.2.2))
abbrev zH:List bh:=[.var (.v aGQ) ae,.log .u8 5,.var (.v (.arr 8 .u32)) ae]
def ZoF:Lp:=⟨[(0,.v aGP),(2,.am 0 []),(3,.own 1 .u8),(4,.am 2 [])],zH,[aGP,aGQ,aGP,(.arr 8 .u32)],[⟨.exit 2,[(2,.am 0 []),(3,.own 1 .u8),(4,.am 2 [])],zH,[aGQ,aGP,(.arr 8 .u32)]⟩],Ze (vF yD) yD⟩
theorem Zrj:ZoF.bq yc 45 1:=Zx ny [] [GY] ⟨Zhh,aw⟩
def vG(F:Nat)(s:(aGO×aGO×aGO×aGR)):yO ((aGO×aGO×aGO×aGR)⊕(aGO×aGO×aGR)):=
 if(ag ((s.1.length:Int) > 0))=ae then
  if(VQ s.1.length ad (ab 64))=ae then
   (Qv F s.2.2.2 (s.1.take 64)).bind λa=>
   if(VQ s.1.length (ab 64) ad)=ae then
    ab (.inl (s.1.drop 64,s.2.1,s.2.2.1,a))
   else
   ad
  else
  ad
 else
 ab (.inr (s.2.1,s.2.2.1,s.2.2.2))
def ZoG:Lp:=⟨[(2,.am 0 []),(3,.v aGP),(4,.am 2 [])],zH,[aGP,aGQ,aGP,(.arr 8 .u32)],[⟨.exit 4,[(2,.am 0 []),(4,.am 2 [])],zH,[aGQ,aGP,(.arr 8 .u32)]⟩],Ze (vG yD) yD⟩
theorem Zrk:ZoG.bq yc 45 2:=Zx ny [] [GY] ⟨Zhh,aw⟩
def vH(F:Nat)(s:(Int×aGO×aGO×aGR)):yO ((Int×aGO×aGO×aGR)⊕(aGO×aGO×aGR)):=
 if(ag (s.1 < 32))=ae then
  if(bK (wi (Int.tdiv s.1 4)) 8)=ae then
   (s.2.2.2[(wi (Int.tdiv s.1 4)).toNat]?).bind λa=>
   if(ag (0<=wi (24 - (wi (8*(Int.tmod s.1 4))))))=ae then
    let b:yV:=gq a (min (wi (24 - (wi (8*(Int.tmod s.1 4))))).toNat 32)
    if(bK s.1 32)=ae then
     (s.2.1[s.1.toNat]?).bind λc=>
     ab (.inl (wi (s.1+1),s.2.1.set s.1.toNat (w8 (b.toNat:Int)),s.2.2.1,s.2.2.2))
    else
    ad
   else
   ad
  else
  ad
 else
 ab (.inr (s.2.1,s.2.2.1,s.2.2.2))
def ZoH:Lp:=⟨[(2,.am 0 []),(4,.am 2 []),(48,.v yI)],zH,[yI,aGQ,aGP,(.arr 8 .u32)],[⟨.exit 6,[(2,.am 0 [])],zH,[aGQ,aGP,(.arr 8 .u32)]⟩],Ze (vH yD) yD⟩
theorem Zrl:ZoH.bq yc 45 3:=Zx ny [] [] trivial
def rU(F:Nat)(a0:aGO):yO (aGO):=
 let a:Int:=wi ((a0.length:Int) - (Int.tmod (a0.length:Int) 64))
 if(VQ a0.length (ab a) ad)=ae then
  (Yk F (a0.drop a.toNat)).bind λb=>
  if(bU b.length 1 1)=ae then
   (Ze (vD F) F (a0,gk,b++([128]:yL yB))).bind λc=>
   (VF F (wi (8*(c.1.length:Int))) c.2.2).bind λd=>
   (GV F).bind λe=>
   (Ze (vF F) F (c.1,c.2.1,d,e)).bind λf=>
   (Ze (vG F) F (f.2.1,f.1,f.2.1,f.2.2)).bind λg=>
   (Ze (vH F) F (0,g.1,g.2.1,g.2.2)).bind λh=>
   ab h.1
  else
  ad
 else
 ad
def HC(F:Nat):Fs yc:=⟨45,[.v aGP],[],[aGP],(zP aGQ),λx=>rU F x⟩
def ZAO:Fs yc:=HC yD
theorem Zyk:ZAO.Ok:=aX ny [(0,ZoE),(1,ZoF),(2,ZoG),(3,ZoH)] [HA,VZ,ZoB] ⟨HB,Zc6,ZuQ,aw⟩ ⟨Zri,Zrj,Zrk,Zrl,aw⟩
end
end Go.Proofs.YtghfiijgklnflaaGreat
end
section
namespace Go.Sha
open Go.Ev
noncomputable def fa{α:Type}(n:Nat)(k:Nat->α):α:=Nat.rec (motive:=λ_=>α) (k 0) (λm _=>k (Nat.succ m)) n
theorem Wn{α:Type}(n:Nat)(k:Nat->α):fa n k=k n:=by cases n <;> rfl
def dU(x:Nat):Nat:=Nat.mul x 4294967297
def s0(x:Nat):Nat:=Nat.xor (Nat.xor (yak (dU x) 7) (yak (dU x) 18)) (yak x 3)
def s1(x:Nat):Nat:=Nat.xor (Nat.xor (yak (dU x) 17) (yak (dU x) 19)) (yak x 10)
def S0(x:Nat):Nat:=Nat.xor (Nat.xor (yak (dU x) 2) (yak (dU x) 13)) (yak (dU x) 22)
def S1(x:Nat):Nat:=Nat.xor (Nat.xor (yak (dU x) 6) (yak (dU x) 11)) (yak (dU x) 25)
def ch(e f g:Nat):Nat:=Nat.xor g (Nat.land e (Nat.xor f g))
def mj(a b c:Nat):Nat:=Nat.lor (Nat.land a b) (Nat.land c (Nat.lor a b))
def lo(x:Nat):Nat:=Nat.mod x 4294967296
def kw(W:Nat):Nat:=lo (yv (yv (yv (yak W 480) (s0 (lo (yak W 448)))) (lo (yak W 192))) (s1 (lo (yak W 32))))
def kn(W:Nat):Nat:=Nat.mod (yv (Nat.mul W 4294967296) (kw W)) (Nat.pow 2 512)
noncomputable def vI(k:Nat)(j:Nat->Nat->Nat->Nat->Nat->Nat->Nat->Nat->Nat->Nat)(W a b c d e f g h:Nat):Nat:=
 fa (yv (yv (yv (yv h (S1 e)) (ch e f g)) k) (yak W 480)) λt=>
     fa (lo (yv (yv t (S0 a)) (mj a b c))) λl=>fa (lo (yv d t)) λm=>fa (kn W) λW'=>j W' l a b c m e f g
noncomputable def oP(ks:yL Nat)(K:Nat->Nat->Nat->Nat->Nat->Nat->Nat->Nat->Nat):Nat->Nat->Nat->Nat->Nat->Nat->Nat->Nat->Nat->Nat:=
 List.rec (motive:=λ_=>Nat->Nat->Nat->Nat->Nat->Nat->Nat->Nat->Nat->Nat) (λ_=>K) (λk _ c=>vI k c) ks
def ks:yL Nat:=[1116352408,1899447441,3049323471,3921009573,961987163,1508970993,2453635748,2870763221,3624381080,310598401,607225278,1426881987,1925078388,2162078206,2614888103,3248222580,3835390401,4022224774,264347078,604807628,770255983,1249150122,1555081692,1996064986,2554220882,2821834349,2952996808,3210313671,3336571891,3584528711,113926993,338241895,666307205,773529912,1294757372,1396182291,1695183700,1986661051,2177026350,2456956037,2730485921,2820302411,3259730800,3345764771,3516065817,3600352804,4094571909,275423344,430227734,506948616,659060556,883997877,958139571,1322822218,1537002063,1747873779,1955562222,2024104815,2227730452,2361852424,2428436474,2756734187,3204031479,3329325298]
def w32(H i:Nat):Nat:=lo (yak H i)
def aP(H x:Nat):Nat:=yv (Nat.mul H 4294967296) (lo x)
noncomputable def vJ(H B:Nat):Nat:=
 fa (w32 H 224) λa=>fa (w32 H 192) λb=>fa (w32 H 160) λc=>fa (w32 H 128) λd=>fa (w32 H 96) λe=>fa (w32 H 64) λf=>fa (w32 H 32) λg=>fa (w32 H 0) λh=>
  oP ks (λj l m s t x y z=>aP (aP (aP (aP (aP (aP (aP (aP 0 (yv j a)) (yv l b)) (yv m c)) (yv s d)) (yv t e)) (yv x f)) (yv y g)) (yv z h)) B a b c d e f g h
noncomputable def pk(l:yL Nat)(n:Nat):Nat:=List.rec (motive:=λ_=>Nat->Nat) (λn=>n) (λx _ c n=>fa (yv (Nat.mul n 256) x) c) l n
noncomputable def HD(n:Nat)(l:yL Nat)(H:Nat):Nat:=
 Nat.rec (motive:=λ_=>yL Nat->Nat->Nat) (λ_ H=>H) (λ_ c l H=>fa (vJ H (pk (l.take 64) 0)) λH'=>c (l.drop 64) H') n l H
noncomputable def outs(H:Nat)(l:yL Nat):yL yB:=List.rec (motive:=λ_=>yL yB) [] (λs _ c=>fa (Nat.mod (yak H s) 256) λx=>yaw x::c) l
def HE:yL Nat:=[248,240,232,224,216,208,200,192,184,176,168,160,152,144,136,128,120,112,104,96,88,80,72,64,56,48,40,32,24,16,8,0]
def gM(n:Nat):yL Nat:=[n / 2 ^ 56 % 256,n / 2 ^ 48 % 256,n / 2 ^ 40 % 256,n / 2 ^ 32 % 256,n / 2 ^ 24 % 256,n / 2 ^ 16 % 256,n / 2 ^ 8 % 256,n % 256]
def zs(n:Nat):Nat:=(119 - n % 64) % 64
def H0:Nat:=aP (aP (aP (aP (aP (aP (aP (aP 0 1779033703) 3144134277) 1013904242) 2773480762) 1359893119) 2600822924) 528734635) 1541459225
noncomputable def fL(l:yL yB):yL yB:=
 fa l.length λn=>fa (HD (Nat.div (yv n 72) 64) (l.map yao++(128::(yab (zs n) 0++gM (8*n)))) H0) λH=>outs H HE
theorem eU(x y:yV):(x+y).toNat=lo (x.toNat+y.toNat):=by rw[UInt32.toNat_add];rfl
theorem jK(x y:yV):(x^^^y).toNat=Nat.xor x.toNat y.toNat:=UInt32.toNat_xor ..
theorem HF(x y:yV):(x&&&y).toNat=Nat.land x.toNat y.toNat:=UInt32.toNat_and ..
theorem kM(x y:yV):(x|||y).toNat=Nat.lor x.toNat y.toNat:=UInt32.toNat_or ..
theorem HG(x:yV):x.toNat < 4294967296:=x.toNat_lt
theorem oQ(x:yV)(n:Nat):(gq x n).toNat=yak x.toNat n:=by
 unfold gq;rw[yct,show yak x.toNat n=x.toNat >>> n from rfl,ydh]
 exact yas (Nat.lt_of_le_of_lt (Nat.div_le_self _ _) (HG x))
theorem ZLu(x:Nat):lo x < 4294967296:=Nat.mod_lt _ (by omega)
theorem fM{x:Nat}(h:x < 4294967296):lo x=x:=yas h
theorem ZLv(x:yV){n k:Nat}(h:n+k=32)(s:0 < n):(fq x k|||gq x n).toNat=lo (yak (dU x.toNat) n):=by
 rw[kM,oQ];unfold fq;have e:=HG x;generalize x.toNat=m at e;have c:2 ^ n*2 ^ k=4294967296:=by rw[<-Nat.pow_add,h]
 rw[yct,show yak m n=m >>> n from rfl,ydh,show yak (dU m) n=(dU m) >>> n from rfl,ydh]
 have f:m*2 ^ k % 2 ^ 32=2 ^ k*(m % 2 ^ n):=by
  rw[show(2:Nat) ^ 32=2 ^ n*2 ^ k from c.symm,Nat.mul_mod_mul_right]
  exact ybu ..
 have g:m / 2 ^ n < 2 ^ k:=by
  rw[Nat.div_lt_iff_lt_mul (Nat.two_pow_pos n),ybu,c];exact e
 rw[f,show Nat.lor (2 ^ k*(m % 2 ^ n)) (m / 2 ^ n)=2 ^ k*(m % 2 ^ n)|||m / 2 ^ n from rfl, <-ydf g]
 have j:dU m=2 ^ n*(m*2 ^ k)+m:=by
  unfold dU;rw[Nat.mul_left_comm,c,show Nat.mul m 4294967297=m*4294967297 from rfl]
  omega
 rw[j,Nat.mul_add_div (Nat.two_pow_pos n)];unfold lo;rw[show Nat.mod (m*2 ^ k+m / 2 ^ n) 4294967296=(m*2 ^ k+m / 2 ^ n) % 4294967296 from rfl,Nat.add_mod,show m*2 ^ k % 4294967296=2 ^ k*(m % 2 ^ n) from f,yas (a:=m / 2 ^ n) (b:=4294967296) (by rw[<-c];exact Nat.lt_of_lt_of_le g (Nat.le_mul_of_pos_left _ (Nat.two_pow_pos n)))]
 refine(yas ?_).symm;have l:m % 2 ^ n < 2 ^ n:=Nat.mod_lt _ (Nat.two_pow_pos n)
 calc 2 ^ k*(m % 2 ^ n)+m / 2 ^ n < 2 ^ k*(m % 2 ^ n)+2 ^ k:=by omega
  _=2 ^ k*(m % 2 ^ n+1):=by rw[Nat.mul_add,Nat.mul_one]
  _<=2 ^ k*2 ^ n:=Nat.mul_le_mul_left _ l
  _=4294967296:=by rw[ybu,c]
theorem lL(x y:Nat):lo (Nat.xor x y)=Nat.xor (lo x) (lo y):=Nat.xor_mod_two_pow (n:=32)
theorem ZIE(x:yV)(n:Nat):lo (yak x.toNat n)=yak x.toNat n:=by
 rw[<-oQ];exact fM (HG _)
theorem ZNF(x:yV){a b:yV}(ha:a.toNat=lo (yak (dU x.toNat) 7))(hb:b.toNat=lo (yak (dU x.toNat) 18)):((a^^^b)^^^gq x 3).toNat=lo (s0 x.toNat):=by
 unfold s0;rw[jK,jK,oQ,ha,hb,lL,lL,ZIE]
theorem ZNG(x:yV){a b:yV}(ha:a.toNat=lo (yak (dU x.toNat) 17))(hb:b.toNat=lo (yak (dU x.toNat) 19)):((a^^^b)^^^gq x 10).toNat=lo (s1 x.toNat):=by
 unfold s1;rw[jK,jK,oQ,ha,hb,lL,lL,ZIE]
theorem ZNH(x:yV){a b c:yV}(ha:a.toNat=lo (yak (dU x.toNat) 2))(hb:b.toNat=lo (yak (dU x.toNat) 13))(hc:c.toNat=lo (yak (dU x.toNat) 22)):((a^^^b)^^^c).toNat=lo (S0 x.toNat):=by
 unfold S0;rw[jK,jK,ha,hb,hc,lL,lL]
theorem ZNI(x:yV){a b c:yV}(ha:a.toNat=lo (yak (dU x.toNat) 6))(hb:b.toNat=lo (yak (dU x.toNat) 11))(hc:c.toNat=lo (yak (dU x.toNat) 25)):((a^^^b)^^^c).toNat=lo (S1 x.toNat):=by
 unfold S1;rw[jK,jK,ha,hb,hc,lL,lL]
theorem ZNJ(e f g:yV):(g^^^(e&&&(f^^^g))).toNat=ch e.toNat f.toNat g.toNat:=by
 unfold ch;rw[jK,HF,jK]
theorem ZNK(a b c:yV):((a&&&b)|||(c&&&(a|||b))).toNat=mj a.toNat b.toNat c.toNat:=by
 unfold mj;rw[kM,HF,HF,kM]
theorem ZNL(a b c d:Nat):lo (lo (lo (a+lo b)+c)+lo d)=lo (a+b+c+d):=by
 show(((a+b % 4294967296) % 4294967296+c) % 4294967296+d % 4294967296) % 4294967296=(a+b+c+d) % 4294967296;omega
theorem ZNM(a b c d e:Nat):lo (lo (lo (lo (a+lo b)+c)+d)+e)=lo (yv (yv (yv (yv a b) c) d) e):=by
 show((((a+b % 4294967296) % 4294967296+c) % 4294967296+d) % 4294967296+e) % 4294967296=(a+b+c+d+e) % 4294967296;omega
theorem ZNN(t s m:Nat):lo (lo (lo t+lo s)+m)=lo (yv (yv t s) m):=by
 show((t % 4294967296+s % 4294967296) % 4294967296+m) % 4294967296=(t+s+m) % 4294967296;omega
theorem ZNO(d t:Nat):lo (d+lo t)=lo (yv d t):=by
 show(d+t % 4294967296) % 4294967296=(d+t) % 4294967296;omega
def pw(n:Nat)(l:yL Nat):Nat:=l.foldl (λn x=>n*4294967296+x) n
theorem HJ:∀(l:yL Nat)(n:Nat),(∀x,x∈l->x < 4294967296)->pw n l / 2 ^ (32*l.length)=n
 |[],n,_=>by simp[pw]
 |x::r,n,h=>by
  have c:=HJ r (n*4294967296+x) (λy e=>h y (yba _ e));have f:=h x (yay ..);rw[show pw n (x::r)=pw (n*4294967296+x) r from rfl,yam,show 32*(r.length+1)=32*r.length+32 by omega,Nat.pow_add, <-Nat.div_div_eq_div_mul,c]
  omega
theorem vK:∀(l:yL Nat)(n:Nat),pw n l=n*2 ^ (32*l.length)+pw 0 l
 |[],n=>by simp[pw]
 |x::r,n=>by
  rw[show pw n (x::r)=pw (n*4294967296+x) r from rfl,show pw 0 (x::r)=pw (0*4294967296+x) r from rfl,vK r (n*4294967296+x),vK r (0*4294967296+x),yam,show 32*(r.length+1)=32+32*r.length by omega,Nat.pow_add,Nat.zero_mul,
   yau,ybd, <-Nat.mul_assoc,yci]
theorem ZLw:∀(l:yL Nat),(∀x,x∈l->x < 4294967296)->pw 0 l < 2 ^ (32*l.length)
 |[],_=>by simp[pw]
 |x::r,h=>by
  have e:=ZLw r (λy c=>h y (yba _ c));have f:=h x (yay ..);rw[show pw 0 (x::r)=pw (0*4294967296+x) r from rfl,vK,yam,show 32*(r.length+1)=32+32*r.length by omega,Nat.pow_add,Nat.zero_mul,yau]
  have:(x+1)*2 ^ (32*r.length)<=2 ^ 32*2 ^ (32*r.length):=Nat.mul_le_mul_right _ (by omega);rw[ybd,Nat.one_mul]at this;omega
theorem ZLx{n x s:Nat}{r:yL Nat}(h:∀y,y∈r->y < 4294967296)(hs:s=32*r.length):yak (pw n (x::r)) s=n*4294967296+x:=by
 subst hs;rw[show yak (pw n (x::r)) (32*r.length)=pw n (x::r) >>> (32*r.length) from rfl,ydh]
 exact HJ r (n*4294967296+x) h
theorem ZLy{n x s:Nat}{r:yL Nat}(hx:x < 4294967296)(h:∀y,y∈r->y < 4294967296)(hs:s=32*r.length):lo (yak (pw n (x::r)) s)=x:=by
 rw[ZLx h hs];show(n*4294967296+x) % 4294967296=x;omega
theorem HK(n:Nat)(l r:yL Nat):pw n (l++r)=pw (pw n l) r:=List.foldl_append ..
theorem ZEu(n x:Nat)(r:yL Nat):pw n (x::r)=pw (n*4294967296+x) r:=rfl
theorem lM{v l r:yL Nat}{x s:Nat}(e:v=l++x::r)(h:∀y,y∈v->y < 4294967296)(hs:s=32*r.length):lo (yak (pw 0 v) s)=x:=by
 rw[e]at h ⊢;rw[HK];exact ZLy (h x (by simp)) (λy c=>h y (by simp[c])) hs
def wd(ws:yL Nat)(n:Nat):Nat:=if h:n < 16 then lo (ws.getD n 0) else lo (wd ws (n - 16)+s0 (wd ws (n - 15))+wd ws (n - 7)+s1 (wd ws (n - 2)))
termination_by n
decreasing_by all_goals omega
theorem ZNP(ws:yL Nat)(n:Nat):wd ws n < 4294967296:=by
 rw[wd];split <;> exact ZLu _
theorem HL(ws:yL Nat)(n:Nat):wd ws (n+16)=lo (wd ws n+s0 (wd ws (n+1))+wd ws (n+9)+s1 (wd ws (n+14))):=by
 rw[wd,dif_neg (by omega)];simp only[Nat.add_sub_cancel,show n+16 - 15=n+1 by omega,show n+16 - 7=n+9 by omega,show n+16 - 2=n+14 by omega]
def win(ws:yL Nat)(i:Nat):yL Nat:=[wd ws i,wd ws (i+1),wd ws (i+2),wd ws (i+3),wd ws (i+4),wd ws (i+5),wd ws (i+6),wd ws (i+7),wd ws (i+8),wd ws (i+9),wd ws (i+10),wd ws (i+11),wd ws (i+12),wd ws (i+13),wd ws (i+14),wd ws (i+15)]
theorem HM{ws:yL Nat}{i:Nat}{l:yL Nat}(h:∀x,x∈l->∃j,x=wd ws j):∀x,x∈l->x < 4294967296:=λx c=>by
 obtain⟨j,rfl⟩:=h x c;exact ZNP _ _
theorem ZEv(ws:yL Nat)(i:Nat):yak (pw 0 (win ws i)) 480=wd ws i:=by
 have h:=ZLx (n:=0) (x:=wd ws i) (s:=480) (r:=(win ws i).tail) (HM (ws:=ws) (i:=i) (λx c=>by
  simp only[win,List.tail_cons,ybz,List.not_mem_nil,or_false]at c;rcases c with h|h|h|h|h|h|h|h|h|h|h|h|h|h|h <;> exact⟨_,h⟩)) rfl
 rw[Nat.zero_mul,yau]at h;exact h
theorem ZMO(ws:yL Nat)(i:Nat):kw (pw 0 (win ws i))=wd ws (i+16):=by
 have c:∀(l r:yL Nat)(x s:Nat),win ws i=l++x::r->s=32*r.length->lo (yak (pw 0 (win ws i)) s)=x:=by
  intro l r x s e hs
  have f:∀y,y∈win ws i->y < 4294967296:=HM (i:=i) λx g=>by
   simp only[win,ybz,List.not_mem_nil,or_false]at g;rcases g with h|h|h|h|h|h|h|h|h|h|h|h|h|h|h|h <;> exact⟨_,h⟩
  rw[e]at f ⊢;rw[HK];exact ZLy (f x (by simp)) (λy j=>f y (by simp[j])) hs
 unfold kw;rw[ZEv,c [_] _ (wd ws (i+1)) 448 rfl rfl,c [_,_,_,_,_,_,_,_,_] _ (wd ws (i+9)) 192 rfl rfl,c [_,_,_,_,_,_,_,_,_,_,_,_,_,_] _ (wd ws (i+14)) 32 rfl rfl,HL];rfl
theorem ZKX(a b m:Nat)(h:b < 2 ^ m):Nat.mod (a*2 ^ m+b) (Nat.pow 2 m)=b:=by
 show(a*2 ^ m+b) % 2 ^ m=b;rw[ybu,Nat.mul_add_mod];exact yas h
theorem ZMP(ws:yL Nat)(i:Nat):kn (pw 0 (win ws i))=pw 0 (win ws (i+1)):=by
 have e:yv (Nat.mul (pw 0 (win ws i)) 4294967296) (kw (pw 0 (win ws i)))=pw (wd ws i) (win ws (i+1)):=by
  rw[ZMO];show pw 0 (win ws i)*4294967296+wd ws (i+16)=pw (wd ws i) (win ws (i+1));rw[show wd ws i=0*4294967296+wd ws i by omega];rfl
 unfold kn;rw[e,vK];have g:(win ws (i+1)).length=16:=rfl
 have c:=ZLw (win ws (i+1)) (HM (i:=i+1) λx f=>by
  simp only[win,ybz,List.not_mem_nil,or_false]at f;rcases f with h|h|h|h|h|h|h|h|h|h|h|h|h|h|h|h <;> exact⟨_,h⟩)
 rw[show 512=32*(win ws (i+1)).length by rw[g]];exact ZKX _ _ _ c
def nA(v:yL Nat)(k w:Nat):yL Nat:=match v with
 |[a,b,c,d,e,f,g,h]=>[lo (yv (yv (yv (yv (yv (yv h (S1 e)) (ch e f g)) k) w) (S0 a)) (mj a b c)),a,b,c,lo (yv d (yv (yv (yv (yv h (S1 e)) (ch e f g)) k) w)),e,f,g]
 |_=>[]
def rs(ws v:yL Nat):Nat->yL Nat
 |0=>v
 |i+1=>nA (rs ws v i) (ks.getD i 0) (wd ws i)
theorem ZKY{v:yL Nat}(h:v.length=8)(k w:Nat):(nA v k w).length=8:=by
 match v,h with
 |[a,b,c,d,e,f,g,h],_=>rfl
theorem vL{ws v:yL Nat}(h:v.length=8):∀i,(rs ws v i).length=8
 |0=>h
 |i+1=>ZKY (vL h i) _ _
noncomputable def rV(f:Nat->Nat->Nat->Nat->Nat->Nat->Nat->Nat->Nat)(v:yL Nat):Nat:=match v with
 |[a,b,c,d,e,j,g,h]=>f a b c d e j g h
 |_=>0
theorem vM{F:Nat->Nat->Nat->Nat->Nat->Nat->Nat->Nat->Nat}{a b c d e f g h:Nat}:rV F [a,b,c,d,e,f,g,h]=F a b c d e f g h:=rfl
theorem ZIG(k:Nat)(l:yL Nat)(K:Nat->Nat->Nat->Nat->Nat->Nat->Nat->Nat->Nat):oP (k::l) K=vI k (oP l K):=rfl
theorem HN(a b c d e f g h k w:Nat):nA [a,b,c,d,e,f,g,h] k w=[lo (yv (yv (yv (yv (yv (yv h (S1 e)) (ch e f g)) k) w) (S0 a)) (mj a b c)),a,b,c,lo (yv d (yv (yv (yv (yv h (S1 e)) (ch e f g)) k) w)),e,f,g]:=rfl
theorem ZMQ(k:Nat)(j:Nat->Nat->Nat->Nat->Nat->Nat->Nat->Nat->Nat->Nat)(W a b c d e f g h:Nat):vI k j W a b c d e f g h=
 j (kn W) (lo (yv (yv (yv (yv (yv (yv h (S1 e)) (ch e f g)) k) (yak W 480)) (S0 a)) (mj a b c))) a b c (lo (yv d (yv (yv (yv (yv h (S1 e)) (ch e f g)) k) (yak W 480)))) e f g:=by
 unfold vI;rw[Wn,Wn,Wn,Wn]
theorem ZIH{ws v:yL Nat}{K:Nat->Nat->Nat->Nat->Nat->Nat->Nat->Nat->Nat}{k w:Nat}{l:yL Nat}(hv:v.length=8){W:Nat}(j:yak W 480=w):rV (oP (k::l) K W) v=rV (oP l K (kn W)) (nA v k w):=by
 match v,hv with
 |[a,b,c,d,e,f,g,h],_=>
  rw[ZIG,vM,ZMQ,j,HN,vM]
theorem ZEw{ws v:yL Nat}{K:Nat->Nat->Nat->Nat->Nat->Nat->Nat->Nat->Nat}(hv:v.length=8):∀(m i:Nat),i+m=64->rV (oP (ks.drop i) K (pw 0 (win ws i))) (rs ws v i)=rV K (rs ws v 64)
 |0,i,h=>by
  have e:i=64:=by omega
  subst e;rw[show ks.drop 64=[] from rfl]
  generalize pw 0 (win ws 64)=W
  rfl
 |m+1,i,h=>by
  have c:i < ks.length:=by show i < 64;omega
  rw[List.drop_eq_getElem_cons c,ZIH (ws:=ws) (vL hv i) (ZEv ws i),ZMP];have:=ZEw (ws:=ws) (K:=K) hv m (i+1) (by omega);rw[show rs ws v (i+1)=nA (rs ws v i) (ks.getD i 0) (wd ws i) from rfl,show ks.getD i 0=ks[i] by rw[ydg,yae c];rfl]at this
  exact this
def fF(v ws:yL Nat):yL Nat:=List.zipWith (λx y=>lo (x+y)) (rs ws v 64) v
theorem nB{v ws:yL Nat}(h:v.length=8):(fF v ws).length=8:=by
 rw[fF,List.length_zipWith,vL h,h];rfl
theorem ZEx{v ws:yL Nat}:∀x,x∈fF v ws->x < 4294967296:=by
 intro x c;unfold fF at c;rw[List.mem_iff_getElem]at c;obtain⟨i,e,rfl⟩:=c;rw[List.getElem_zipWith];exact ZLu _
theorem ZKZ{v ws:yL Nat}(hv:v.length=8)(j:∀x,x∈v->x < 4294967296)(hw:ws.length=16)(E:∀x,x∈ws->x < 4294967296):vJ (pw 0 v) (pw 0 ws)=pw 0 (fF v ws):=by
 have e0:ws=win ws 0:=by
  match ws,hw with
  |[F,G,I,M,Q,S,T,U,W,X,m,s,t,y,z,A],_=>
   simp only[ybz,List.not_mem_nil,or_false,forall_eq_or_imp,forall_eq]at E;obtain⟨h0,h1,h2,h3,h4,h5,h6,h7,h8,h9,Y,Z,h12,h13,h14,h15⟩:=E;have hs:∀n,n < 16->wd [F,G,I,M,Q,S,T,U,W,X,m,s,t,y,z,A] n=lo ([F,G,I,M,Q,S,T,U,W,X,m,s,t,y,z,A].getD n 0):=λn hn=>by rw[wd,dif_pos hn]
   unfold win;rw[hs 0 (by omega),hs (0+1) (by omega),hs (0+2) (by omega),hs (0+3) (by omega),hs (0+4) (by omega),hs (0+5) (by omega),hs (0+6) (by omega),hs (0+7) (by omega),hs (0+8) (by omega),hs (0+9) (by omega),hs (0+10) (by omega),hs (0+11) (by omega),hs (0+12) (by omega),hs (0+13) (by omega),hs (0+14) (by omega),hs (0+15) (by omega)];show _=[lo F,lo G,lo I,lo M,lo Q,lo S,lo T,lo U,lo W,lo X,lo m,lo s,lo t,lo y,lo z,lo A];rw[fM h0,fM h1,fM h2,fM h3,fM h4,fM h5,fM h6,fM h7,fM h8,fM h9,fM Y,fM Z,fM h12,fM h13,fM h14,fM h15]
 match v,hv with
 |[a,b,c,d,e,f,g,h],hv=>
  have ea:w32 (pw 0 [a,b,c,d,e,f,g,h]) 224=a:=lM (l:=[]) (r:=[b,c,d,e,f,g,h]) rfl j rfl;have eb:w32 (pw 0 [a,b,c,d,e,f,g,h]) 192=b:=lM (l:=[a]) (r:=[c,d,e,f,g,h]) rfl j rfl;have ec:w32 (pw 0 [a,b,c,d,e,f,g,h]) 160=c:=lM (l:=[a,b]) (r:=[d,e,f,g,h]) rfl j rfl;have ed:w32 (pw 0 [a,b,c,d,e,f,g,h]) 128=d:=lM (l:=[a,b,c]) (r:=[e,f,g,h]) rfl j rfl;have ee:w32 (pw 0 [a,b,c,d,e,f,g,h]) 96=e:=lM (l:=[a,b,c,d]) (r:=[f,g,h]) rfl j rfl;have ef:w32 (pw 0 [a,b,c,d,e,f,g,h]) 64=f:=lM (l:=[a,b,c,d,e]) (r:=[g,h]) rfl j rfl;have eg:w32 (pw 0 [a,b,c,d,e,f,g,h]) 32=g:=lM (l:=[a,b,c,d,e,f]) (r:=[h]) rfl j rfl;have eh:w32 (pw 0 [a,b,c,d,e,f,g,h]) 0=h:=lM (l:=[a,b,c,d,e,f,g]) (r:=[]) rfl j rfl;unfold vJ;rw[ea,eb,ec,ed,ee,ef,eg,eh,Wn,Wn,Wn,Wn,Wn,Wn,Wn,Wn];have hr:=ZEw (ws:=ws) (v:=[a,b,c,d,e,f,g,h]) (K:=λa' b' c' d' e' f' g' h'=>aP (aP (aP (aP (aP (aP (aP (aP 0 (yv a' a)) (yv b' b)) (yv c' c)) (yv d' d)) (yv e' e)) (yv f' f)) (yv g' g)) (yv h' h)) rfl 64 0 rfl;rw[<-e0,show ks.drop 0=ks from rfl,show rs ws [a,b,c,d,e,f,g,h] 0=[a,b,c,d,e,f,g,h] from rfl,vM]at hr
  rw[hr];unfold fF;generalize rs ws [a,b,c,d,e,f,g,h] 64=q,vL (ws:=ws) hv 64=hq
  match q,hq with
  |[a',b',c',d',e',f',g',h'],_=>
   rw[vM];simp only[List.zipWith_cons_cons,List.zipWith_nil_right,ZEu,aP];rfl
theorem vN(x:Nat)(l:yL Nat)(n:Nat):pk (x::l) n=pk l (n*256+x):=by
 show fa (yv (Nat.mul n 256) x) (pk l)=_;rw[Wn];rfl
def Yn:yL Nat->yL Nat
 |a::b::c::d::r=>(((a*256+b)*256+c)*256+d)::Yn r
 |_=>[]
theorem ZAP:∀(m:Nat)(l:yL Nat)(n:Nat),l.length=4*m->pk l n=pw n (Yn l)
 |0,[],n,_=>rfl
 |0,_::_,_,h=>by simp at h
 |m+1,[],_,h=>by simp at h
 |m+1,[_],_,h=>by simp at h;omega
 |m+1,[_,_],_,h=>by simp at h;omega
 |m+1,[_,_,_],_,h=>by simp at h;omega
 |m+1,a::b::c::d::r,n,h=>by
  rw[vN,vN,vN,vN,Yn];rw[ZAP m r _ (by simp at h;omega),ZEu];have e:(((n*256+a)*256+b)*256+c)*256+d=n*4294967296+(((a*256+b)*256+c)*256+d):=by omega
  rw[e]
theorem ZqK:∀(m:Nat)(l:yL Nat),l.length=4*m->(Yn l).length=m
 |0,[],_=>rfl
 |0,_::_,h=>by simp at h
 |m+1,[],h=>by simp at h
 |m+1,[_],h=>by simp at h;omega
 |m+1,[_,_],h=>by simp at h;omega
 |m+1,[_,_,_],h=>by simp at h;omega
 |m+1,a::b::c::d::r,h=>by
  rw[Yn,yam,ZqK m r (by simp at h;omega)]
theorem Ztz:∀(m:Nat)(l:yL Nat),l.length=4*m->(∀x,x∈l->x < 256)->∀x,x∈Yn l->x < 4294967296
 |0,[],_,_,x,hx=>by simp[Yn]at hx
 |0,_::_,h,_,_,_=>by simp at h
 |m+1,[],h,_,_,_=>by simp at h
 |m+1,[_],h,_,_,_=>by simp at h;omega
 |m+1,[_,_],h,_,_,_=>by simp at h;omega
 |m+1,[_,_,_],h,_,_,_=>by simp at h;omega
 |m+1,a::b::c::d::r,h,e,x,hx=>by
  rw[Yn]at hx;have g:=e a (by simp);have j:=e b (by simp);have s:=e c (by simp);have t:=e d (by simp);rcases ybz.1 hx with rfl|hx
  .omega
  .exact Ztz m r (by simp at h;omega) (λy f=>e y (by simp[f])) x hx
theorem HO:∀(i:Nat)(l:yL Nat)(a b c d:Nat),l[4*i]? =ab a->l[4*i+1]? =ab b->l[4*i+2]? =ab c->l[4*i+3]? =ab d->(Yn l)[i]? =ab (((a*256+b)*256+c)*256+d)
 |0,[],_,_,_,_,h,_,_,_=>by simp at h
 |0,[_],_,_,_,_,_,h,_,_=>by simp at h
 |0,[_,_],_,_,_,_,_,_,h,_=>by simp at h
 |0,[_,_,_],_,_,_,_,_,_,_,h=>by simp at h
 |0,a::b::c::d::r,_,_,_,_,e,f,g,j=>by
  simp at e f g j;subst e f g j
  rfl
 |i+1,[],_,_,_,_,h,_,_,_=>by simp at h
 |i+1,[_],_,_,_,_,h,_,_,_=>by simp[show 4*(i+1)=4*i+3+1 by omega]at h
 |i+1,[_,_],_,_,_,_,h,_,_,_=>by simp[show 4*(i+1)=4*i+2+1+1 by omega]at h
 |i+1,[_,_,_],_,_,_,_,h,_,_,_=>by simp[show 4*(i+1)=4*i+1+1+1+1 by omega]at h
 |i+1,a::b::c::d::r,_,_,_,_,e,f,g,j=>by
  rw[Yn,ybe]
  exact HO i r _ _ _ _ (by simpa[show 4*(i+1)=4*i+1+1+1+1 by omega] using e) (by simpa[show 4*(i+1)+1=4*i+1+1+1+1+1 by omega] using f)
   (by simpa[show 4*(i+1)+2=4*i+2+1+1+1+1 by omega] using g) (by simpa[show 4*(i+1)+3=4*i+3+1+1+1+1 by omega] using j)
def eR:Nat->yL Nat->yL Nat->yL Nat
 |0,_,v=>v
 |n+1,l,v=>eR n (l.drop 64) (fF v (Yn (l.take 64)))
theorem ZEy:∀(n:Nat)(l v:yL Nat),l.length=64*n->(∀x,x∈l->x < 256)->v.length=8->(∀x,x∈v->x < 4294967296)->HD n l (pw 0 v)=pw 0 (eR n l v)
 |0,l,v,_,_,_,_=>rfl
 |n+1,l,v,j,f,g,h=>by
  show fa (vJ (pw 0 v) (pk (l.take 64) 0)) (HD n (l.drop 64))=_;have c:(l.take 64).length=4*16:=by rw[yy];omega
  rw[Wn,ZAP 16 _ 0 c,ZKZ g h (ZqK 16 _ c) (Ztz 16 _ c λx e=>f x (List.mem_of_mem_take e))];exact ZEy n (l.drop 64) _ (by rw[ybf];omega) (λx e=>f x (List.mem_of_mem_drop e)) (nB g) ZEx
theorem ZAQ:∀(n:Nat)(l v:yL Nat),v.length=8->(eR n l v).length=8
 |0,_,_,h=>h
 |n+1,l,v,h=>ZAQ n _ _ (nB h)
theorem ZEz:∀(n:Nat)(l v:yL Nat),(∀x,x∈v->x < 4294967296)->∀x,x∈eR n l v->x < 4294967296
 |0,_,_,h=>h
 |n+1,l,v,h=>ZEz n _ _ ZEx
theorem HP:∀(n m:Nat)(l r v:yL Nat),l.length=64*n->eR (n+m) (l++r) v=eR m r (eR n l v)
 |0,m,l,r,v,h=>by
  have:l=[]:=List.length_eq_zero_iff.1 (by omega);subst this;rw[yau]
  rfl
 |n+1,m,l,r,v,h=>by
  rw[show n+1+m=(n+m)+1 by omega,eR,List.drop_append_of_le_length (by omega),List.take_append_of_le_length (by omega),HP n m _ r _ (by rw[ybf];omega)];rfl
theorem vO:∀(c:Nat)(l v:yL Nat),eR (c+1) l v=fF (eR c l v) (Yn ((l.drop (64*c)).take 64))
 |0,l,v=>by rw[Nat.mul_zero,List.drop_zero];rfl
 |c+1,l,v=>by
  rw[show eR (c+1+1) l v=eR (c+1) (l.drop 64) (fF v (Yn (l.take 64))) from rfl,vO c,List.drop_drop,show 64+64*c=64*(c+1) by omega]
  rfl
theorem ZAR(ws:yL Nat){n x:Nat}(c:n < 16)(h:ws[n]? =ab x)(hx:x < 4294967296):wd ws n=x:=by
 rw[wd,dif_pos c,ydg,h];exact fM hx
def lN(v:yL Nat)(k:Nat):yB:=yaw (v.getD (k / 4) 0 / 2 ^ (24 - 8*(k % 4)))
theorem ZK0{v:yL Nat}(hv:v.length=8)(t:∀x,x∈v->x < 4294967296):outs (pw 0 v) HE=(yu 32).map (lN v):=by
 have z:∀(H:Nat)(l:yL Nat),outs H l=l.map λs=>yaw (H / 2 ^ s % 256):=by
  intro H l
  induction l with
  |nil=>rfl
  |cons s r E=>
   show fa (Nat.mod (yak H s) 256) (λx=>yaw x::outs H r)=_;rw[Wn,E,yaf,show yak H s=H >>> s from rfl,ydh]
   rfl
 have m:∀(l r:yL Nat)(x j s:Nat),v=l++x::r->j<=24->s=32*r.length+j->yaw (pw 0 v / 2 ^ s % 256)=yaw (x / 2 ^ j):=by
  intro l r x j s e M hs;have A:=t;rw[e]at A
  have F:pw 0 v / 2 ^ (32*r.length)=pw 0 l*4294967296+x:=by
   rw[e,HK];exact HJ r _ (λy G=>A y (by simp[G]))
  rw[hs,Nat.pow_add, <-Nat.div_div_eq_div_mul,F]
  have I:pw 0 l*4294967296+x=2 ^ j*(pw 0 l*2 ^ (24 - j)*256)+x:=by
   rw[show(4294967296:Nat)=2 ^ j*2 ^ (24 - j)*256 by rw[<-Nat.pow_add,show j+(24 - j)=24 by omega]];congr 1;ac_rfl
  rw[I,Nat.mul_add_div (Nat.two_pow_pos j),ybu (pw 0 l*2 ^ (24 - j)) 256,Nat.mul_add_mod];exact UInt8.toNat_inj.1 (by simp)
 match v,hv with
 |[a,b,c,d,e,f,g,h],_=>
  rw[z];simp only[HE,yaf,List.map_nil]
  rw[m [] [b,c,d,e,f,g,h] a 24 248 rfl (by omega) rfl,m [] [b,c,d,e,f,g,h] a 16 240 rfl (by omega) rfl,m [] [b,c,d,e,f,g,h] a 8 232 rfl (by omega) rfl,m [] [b,c,d,e,f,g,h] a 0 224 rfl (by omega) rfl,
   m [a] [c,d,e,f,g,h] b 24 216 rfl (by omega) rfl,m [a] [c,d,e,f,g,h] b 16 208 rfl (by omega) rfl,m [a] [c,d,e,f,g,h] b 8 200 rfl (by omega) rfl,m [a] [c,d,e,f,g,h] b 0 192 rfl (by omega) rfl,
   m [a,b] [d,e,f,g,h] c 24 184 rfl (by omega) rfl,m [a,b] [d,e,f,g,h] c 16 176 rfl (by omega) rfl,m [a,b] [d,e,f,g,h] c 8 168 rfl (by omega) rfl,m [a,b] [d,e,f,g,h] c 0 160 rfl (by omega) rfl,
   m [a,b,c] [e,f,g,h] d 24 152 rfl (by omega) rfl,m [a,b,c] [e,f,g,h] d 16 144 rfl (by omega) rfl,m [a,b,c] [e,f,g,h] d 8 136 rfl (by omega) rfl,m [a,b,c] [e,f,g,h] d 0 128 rfl (by omega) rfl,
   m [a,b,c,d] [f,g,h] e 24 120 rfl (by omega) rfl,m [a,b,c,d] [f,g,h] e 16 112 rfl (by omega) rfl,m [a,b,c,d] [f,g,h] e 8 104 rfl (by omega) rfl,m [a,b,c,d] [f,g,h] e 0 96 rfl (by omega) rfl,
   m [a,b,c,d,e] [g,h] f 24 88 rfl (by omega) rfl,m [a,b,c,d,e] [g,h] f 16 80 rfl (by omega) rfl,m [a,b,c,d,e] [g,h] f 8 72 rfl (by omega) rfl,m [a,b,c,d,e] [g,h] f 0 64 rfl (by omega) rfl,
   m [a,b,c,d,e,f] [h] g 24 56 rfl (by omega) rfl,m [a,b,c,d,e,f] [h] g 16 48 rfl (by omega) rfl,m [a,b,c,d,e,f] [h] g 8 40 rfl (by omega) rfl,m [a,b,c,d,e,f] [h] g 0 32 rfl (by omega) rfl,
   m [a,b,c,d,e,f,g] [] h 24 24 rfl (by omega) rfl,m [a,b,c,d,e,f,g] [] h 16 16 rfl (by omega) rfl,m [a,b,c,d,e,f,g] [] h 8 8 rfl (by omega) rfl,m [a,b,c,d,e,f,g] [] h 0 0 rfl (by omega) rfl]
  rfl
def jd(l:yL yB):yL Nat:=l.map yao++(128::(yab (zs l.length) 0++gM (8*l.length)))
def ib:yL Nat:=[1779033703,3144134277,1013904242,2773480762,1359893119,2600822924,528734635,1541459225]
theorem ZtB(l:yL yB):(jd l).length=64*((l.length+72) / 64):=by
 unfold jd;simp only[yn,yx,yam,ycp,gM,yce,zs];omega
theorem ZFN(l:yL yB):∀x,x∈jd l->x < 256:=by
 intro x c;unfold jd at c;simp only[ycm,ybj,ybz,List.mem_replicate,gM,List.not_mem_nil,or_false]at c;rcases c with⟨y,_,rfl⟩|rfl|⟨_,rfl⟩|h
 .exact y.toNat_lt
 .omega
 .omega
 .rcases h with h|h|h|h|h|h|h|h <;> rw[h] <;> exact Nat.mod_lt _ (by omega)
theorem HQ(l:yL yB):fL l=(yu 32).map (lN (eR ((l.length+72) / 64) (jd l) ib)):=by
 unfold fL
 rw[Wn,Wn,show H0=pw 0 ib from rfl,show l.map yao++(128::(yab (zs l.length) 0++gM (8*l.length)))=jd l from rfl,
  show Nat.div (yv l.length 72) 64=(l.length+72) / 64 from rfl]
 have c:∀x,x∈ib->x < 4294967296:=by decide
 rw[ZEy _ _ _ (ZtB l) (ZFN l) rfl c];exact ZK0 (ZAQ _ _ _ rfl) (ZEz _ _ _ c)
theorem oR(l:yL yB):(fL l).length=32:=by rw[HQ];simp
end Go.Sha
end
section
set_option maxRecDepth 4000
namespace Go.Proofs.YtghfiijgklnflaaGreat
open Go Go.Ev Go.Sha
theorem jL(x:yV)(n k:Nat)(h:n+k=32)(c:0 < n){z:Int}(hz:((cK z)&&&31).toNat=k):∃o,ZQ yD x z=ab o/\o.toNat=lo (yak (dU x.toNat) n):=by
 refine⟨_,rfl, ?_⟩;have e:((((cK z)&&&31).toNat:Int)).toNat=k:=by rw[hz];rfl
 have f:(32 - ((cK z)&&&31)).toNat=n:=by
  have g:((cK z)&&&31)=yai k:=UInt64.toNat_inj.1 (by rw[hz,UInt64.toNat_ofNat'];omega);rw[g,UInt64.toNat_sub,UInt64.toNat_ofNat'];grind
 rw[e,show((((32 - ((cK z)&&&31)).toNat:Nat):Int)).toNat=n by rw[f];rfl,Nat.min_eq_left (by omega),Nat.min_eq_left (by omega)];exact ZLv x h c
theorem ZMR{l:yL yB}{a b c d:yB}(ha:l[0]? =ab a)(hb:l[1]? =ab b)(hc:l[2]? =ab c)(hd:l[3]? =ab d):∃o,vA yD l=ab o/\o.toNat=((a.toNat*256+b.toNat)*256+c.toNat)*256+d.toNat:=by
 unfold vA;rw[rQ (i:=0) (by omega) ha,rQ (i:=1) (by omega) hb,rQ (i:=2) (by omega) hc,rQ (i:=3) (by omega) hd];refine⟨_,rfl, ?_⟩;have h:=a.toNat_lt;have j:=b.toNat_lt;have m:=c.toNat_lt;have s:=d.toNat_lt
 have hs:∀(x:yB)(n:Nat),n<=24->(fq (yby x.toNat) n).toNat=x.toNat*2 ^ n:=by
  intro x n t;have e:=x.toNat_lt;unfold fq;rw[yct,yct,yas (a:=x.toNat) (by omega)];refine yas ?_
  calc x.toNat*2 ^ n < 2 ^ 8*2 ^ n:=Nat.mul_lt_mul_of_pos_right e (Nat.two_pow_pos n)
   _=2 ^ (8+n):=(Nat.pow_add ..).symm
   _<=2 ^ 32:=Nat.pow_le_pow_right (by omega) (by omega)
 rw[kM,kM,kM,hs _ _ (by omega),hs _ _ (by omega),hs _ _ (by omega),yct,yas (a:=d.toNat) (by omega)]
 have f:Nat.lor (a.toNat*2 ^ 24) (b.toNat*2 ^ 16)=2 ^ 16*(a.toNat*256+b.toNat):=by
  rw[ybu a.toNat,show Nat.lor (2 ^ 24*a.toNat) (b.toNat*2 ^ 16)=2 ^ 24*a.toNat|||b.toNat*2 ^ 16 from rfl, <-ydf (by omega)]
  omega
 have g:Nat.lor (2 ^ 16*(a.toNat*256+b.toNat)) (c.toNat*2 ^ 8)=2 ^ 8*((a.toNat*256+b.toNat)*256+c.toNat):=by
  rw[show Nat.lor (2 ^ 16*(a.toNat*256+b.toNat)) (c.toNat*2 ^ 8)=2 ^ 16*(a.toNat*256+b.toNat)|||c.toNat*2 ^ 8 from rfl, <-ydf (by omega)]
  omega
 rw[f,g,show Nat.lor (2 ^ 8*((a.toNat*256+b.toNat)*256+c.toNat)) d.toNat=2 ^ 8*((a.toNat*256+b.toNat)*256+c.toNat)|||d.toNat from rfl, <-ydf (by omega)]
 omega
theorem ZIJ{l:yL yB}(h:l.length=64):∃o,vB yD l=ab o/\o.length=64/\∀(i:Nat)x,i < 64->o[i]? =ab x->x.toNat=wd (Yn (l.map yao)) i:=by
 unfold vB;generalize hz:([0,0,0,0,0,0,0,0,0,0,0,0,0,0,0,0,0,0,0,0,0,0,0,0,0,0,0,0,0,0,0,0,0,0,0,0,0,0,0,0,0,0,0,0,0,0,0,0,0,0,0,0,0,0,0,0,0,0,0,0,0,0,0,0]:yL yV)=z;have M:z.length=64:=by rw[<-hz];rfl
 refine Exists.elim (VT (step:=QL yD) (λs=>s.1=l/\0<=s.2.1/\s.2.1<=64/\s.2.2.length=64/\∀(j:Nat)x,(j:Int) < s.2.1->s.2.2[j]? =ab x->x.toNat=wd (Yn (l.map yao)) j) (λs=>(64 - s.2.1).toNat)
  (λo=>o.length=64/\∀(j:Nat)x,j < 64->o[j]? =ab x->x.toNat=wd (Yn (l.map yao)) j) ?_ (l,(0:Int),z) ⟨rfl,Int.le_refl _,by dsimp only;omega,M,λj x hj=>by dsimp only at hj;omega⟩ (by dsimp only;omega)) ?_
 rotate_left
 .grind
 .rintro⟨b,i,w⟩ ⟨hb,Q,S,T,f⟩;dsimp only at hb Q S T f;subst hb;unfold QL;dsimp only
  have c:∀(y:yV),y.toNat=wd (Yn (b.map yao)) i.toNat->i < 64->∀(j:Nat)x,(j:Int) < i+1->(w.set i.toNat y)[j]? =ab x->x.toNat=wd (Yn (b.map yao)) j:=by
   all_goals grind
  by_cases U:i < 64
  .left;rw[yW (yY U)];obtain⟨e,he⟩:=iB (l:=w) (i:=i.toNat) (by omega);by_cases m:i < 16
   .rw[yW (yY m),Yf (z:=4*i) (by omega) (by omega),yW (by simp only[VQ,yi,yP];omega)];have g:∀k:Nat,k < 4->∃x,b[4*i.toNat+k]? =ab x:=λk hk=>iB (by omega);obtain⟨x0,g0⟩:=g 0 (by omega);obtain⟨x1,g1⟩:=g 1 (by omega);obtain⟨x2,g2⟩:=g 2 (by omega);obtain⟨x3,g3⟩:=g 3 (by omega);have t:(4*i).toNat=4*i.toNat:=by omega
    obtain⟨o,ho,W⟩:=ZMR (l:=b.drop (4*i).toNat) (by rw[List.getElem?_drop,t];exact g0) (by rw[List.getElem?_drop,t];exact g1) (by rw[List.getElem?_drop,t];exact g2) (by rw[List.getElem?_drop,t];exact g3);rw[ho,ya,yW (XI Q (by omega)),he,ya,Yf (z:=i+1) (by omega) (by omega)];refine⟨_,rfl,⟨rfl,by dsimp only;omega,by dsimp only;omega,by dsimp only;rw[yax];exact T,c o ?_ U⟩,by dsimp only;omega⟩;have I:∀(k:Nat)(x:yB),b[k]? =ab x->(b.map yao)[k]? =ab x.toNat:=λk x hx=>by rw[yah,hx];rfl
    have X:=HO i.toNat (b.map yao) _ _ _ _ (I _ _ g0) (I _ _ g1) (I _ _ g2) (I _ _ g3);rw[W];have b0:=x0.toNat_lt;have b1:=x1.toNat_lt;have b2:=x2.toNat_lt;have b3:=x3.toNat_lt;exact(ZAR _ (by omega) X (by omega)).symm
   .rw[yX (by simpa using m)];rw[Yf (z:=i - 15) (by omega) (by omega),Yf (z:=i - 2) (by omega) (by omega),Yf (z:=i - 16) (by omega) (by omega),Yf (z:=i - 7) (by omega) (by omega),Yf (z:=i+1) (by omega) (by omega)];obtain⟨Y,A⟩:=iB (l:=w) (i:=(i - 15).toNat) (by omega);obtain⟨Z,E⟩:=iB (l:=w) (i:=(i - 2).toNat) (by omega);obtain⟨e3,F⟩:=iB (l:=w) (i:=(i - 16).toNat) (by omega);obtain⟨t,G⟩:=iB (l:=w) (i:=(i - 7).toNat) (by omega);have v1:=f _ _ (by omega) A;have v2:=f _ _ (by omega) E;have v3:=f _ _ (by omega) F;have v4:=f _ _ (by omega) G;rw[yW (XI (by omega) (by omega)),A,ya,yW (XI (by omega) (by omega)),E,ya];obtain⟨o1,ho1,p1⟩:=jL Y 7 25 rfl (by omega) (z:= -7) rfl;obtain⟨o2,ho2,p2⟩:=jL Y 18 14 rfl (by omega) (z:= -18) rfl;obtain⟨o3,ho3,p3⟩:=jL Z 17 15 rfl (by omega) (z:= -17) rfl;obtain⟨o4,ho4,p4⟩:=jL Z 19 13 rfl (by omega) (z:= -19) rfl;rw[ho1,ya,ho2,ya,ho3,ya,ho4,ya];rw[yW (XI (by omega) (by omega)),F,ya,yW (XI (by omega) (by omega)),G,ya]
    try dsimp only
    rw[yW (XI Q (by omega)),he,ya];refine⟨_,rfl,⟨rfl,by dsimp only;omega,by dsimp only;omega,by dsimp only;rw[yax];exact T,c _ ?_ U⟩,by dsimp only;omega⟩;have hn:=HL (Yn (b.map yao)) (i - 16).toNat
    rw[show(i - 16).toNat+16=i.toNat by omega,show(i - 16).toNat+1=(i - 15).toNat by omega,show(i - 16).toNat+9=(i - 7).toNat by omega,show(i - 16).toNat+14=(i - 2).toNat by omega, <-v1, <-v2, <-v3, <-v4]at hn;rw[hn];rw[eU,eU,eU,ZNF Y p1 p2,ZNG Z p3 p4];exact ZNL ..
  grind
theorem ZIK{st:yL yV}{l:yL yB}(hs:st.length=8)(h:l.length=64):∃o,Qv yD st l=ab o/\o.map yar=fF (st.map yar) (Yn (l.map yao)):=by
 unfold Qv;obtain⟨w,hw,hwl,U⟩:=ZIJ h;obtain⟨k,hk,hkv⟩:∃k,GX yD=ab k/\k.map yar=ks:=⟨_,rfl,rfl⟩;have hkl:k.length=64:=by rw[<-yx (f:=yar),hkv];rfl
 generalize hws:Yn (l.map yao)=m at U;rw[hw,ya,hk,ya]
 refine Exists.elim (VT (step:=Qa yD) (λs=>0<=s.1/\s.1<=64/\s.2.1=st/\s.2.2.2.1=w/\s.2.2.2.2.1=k/\s.2.2.2.2.2.length=8/\s.2.2.2.2.2.map yar=rs m (st.map yar) s.1.toNat) (λs=>(64 - s.1).toNat)
  (λo=>o.1=st/\o.2.2.2.2.length=8/\o.2.2.2.2.map yar=rs m (st.map yar) 64) ?_ ((0:Int),st,([0,0,0,0,0,0,0,0]:yL yV),w,k,st) ⟨Int.le_refl _,by dsimp only;omega,rfl,rfl,rfl,hs,rfl⟩ (by dsimp only;omega)) ?_
 rotate_left
 .rintro o ⟨h1,p0,p1,p2⟩;rw[h1,ya];have hml:(fF (st.map yar) m).length=8:=nB (by rw[yx];exact hs)
  refine Exists.elim (VT (step:=Qb yD) (λs=>0<=s.1/\s.1<=8/\s.2.1=st/\s.2.2.2.2.2.length=8/\(∀(j:Nat)x,s.2.2.2.2.2[j]? =ab x->if(j:Int) < s.1 then(fF (st.map yar) m)[j]? =ab x.toNat else(rs m (st.map yar) 64)[j]? =ab x.toNat)) (λs=>(8 - s.1).toNat)
   (λo=>o.2.2.2.2.map yar=fF (st.map yar) m) ?_ ((0:Int),o.1,o.2.1,o.2.2.1,o.2.2.2.1,o.2.2.2.2) ⟨Int.le_refl _,by dsimp only;omega,p0,p1,λj x M=>by
     dsimp only at M ⊢;rw[yX (by omega), <-p2,yah,M];rfl⟩ (by dsimp only;omega)) ?_
  rotate_left
  .grind
  .rintro⟨i,a,b,c,d,e⟩ ⟨Q,h8,W,X,I⟩;dsimp only at Q h8 W X I;subst W;unfold Qb;dsimp only;by_cases Y:i < 8
   .left;obtain⟨E,t⟩:=iB (l:=e) (i:=i.toNat) (by omega);obtain⟨F,y⟩:=iB (l:=a) (i:=i.toNat) (by omega);simp only[yY Y,if_true,XI Q (show i < ((8:Nat):Int) by omega),t,y,ya];rw[Yf (z:=i+1) (by omega) (by omega)];refine⟨_,rfl,⟨by dsimp only;omega,by dsimp only;omega,rfl,by dsimp only;rw[yax];exact X, ?_⟩,by dsimp only;omega⟩;intro j x M;dsimp only at M ⊢;by_cases hji:j=i.toNat
    .subst hji;rw[ycw (by omega)]at M;cases M;rw[yW (by omega),eU];have k1:=I _ _ t;rw[yX (by omega)]at k1;unfold fF;grind
    grind
   .right;rw[yX (by simpa using Y)];refine⟨_,rfl, ?_⟩;dsimp only;apply ybg
    all_goals grind
 .rintro⟨i,a,b,c,d,e⟩ ⟨Q,h64,W,hc,hd,X,I⟩;dsimp only at Q h64 W hc hd X I;subst W hc hd;unfold Qa;dsimp only;by_cases Y:i < 64
  .left
   match e,X,I with
   |[G,x1,x2,x3,g,S,A,T],_,I=>
    obtain⟨E,t⟩:=iB (l:=d) (i:=i.toNat) (by omega);obtain⟨F,y⟩:=iB (l:=c) (i:=i.toNat) (by omega);obtain⟨o1,Z,p1⟩:=jL g 6 26 rfl (by omega) (z:= -6) rfl;obtain⟨o2,ho2,p2⟩:=jL g 11 21 rfl (by omega) (z:= -11) rfl;obtain⟨o3,ho3,p3⟩:=jL g 25 7 rfl (by omega) (z:= -25) rfl;obtain⟨o4,ho4,p4⟩:=jL G 2 30 rfl (by omega) (z:= -2) rfl;obtain⟨o5,ho5,p5⟩:=jL G 13 19 rfl (by omega) (z:= -13) rfl;obtain⟨o6,ho6,p6⟩:=jL G 22 10 rfl (by omega) (z:= -22) rfl;generalize ZQ yD=R at Z ho2 ho3 ho4 ho5 ho6 ⊢;rw[yW (yY Y)];simp only[ybt,ybe];rw[ya,Z,ya,ya,ho2,ya,ya,ho3,ya,ya,ya,ya,ya,ya];rw[yW (XI Q (show i < ((64:Nat):Int) by omega)),t,ya,yW (XI Q (show i < ((64:Nat):Int) by omega)),y,ya,ya,ho4,ya,ya,ho5,ya,ya,ho6];rw[ya,ya,ya,ya,ya,ya];rw[ya,ya,ya,ya,ya,ya,ya];rw[Yf (z:=i+1) (by omega) (by omega)];refine⟨_,rfl,⟨by dsimp only;omega,by dsimp only;omega,rfl,rfl,rfl,rfl, ?_⟩,by dsimp only;omega⟩;dsimp only;rw[show(i+1).toNat=i.toNat+1 by omega,show rs m (a.map yar) (i.toNat+1)=nA (rs m (a.map yar) i.toNat) (ks.getD i.toNat 0) (wd m i.toNat) from rfl, <-I]
    have hk1:ks.getD i.toNat 0=E.toNat:=by
     grind
    rw[hk1, <-U i.toNat F (by omega) y];simp only[yaf,List.map_nil];rw[HN]
    have kt:((T+((o1^^^o2)^^^o3))+(A^^^(g&&&(S^^^A)))+E+F).toNat=lo (yv (yv (yv (yv T.toNat (S1 g.toNat)) (ch g.toNat S.toNat A.toNat)) E.toNat) F.toNat):=by
     rw[eU,eU,eU,eU,ZNI g p1 p2 p3,ZNJ];exact ZNM ..
    have ka:((T+((o1^^^o2)^^^o3))+(A^^^(g&&&(S^^^A)))+E+F+((o4^^^o5)^^^o6)+((G&&&x1)|||(x2&&&(G|||x1)))).toNat=lo (yv (yv (yv (yv (yv (yv T.toNat (S1 g.toNat)) (ch g.toNat S.toNat A.toNat)) E.toNat) F.toNat) (S0 G.toNat)) (mj G.toNat x1.toNat x2.toNat)):=by
     rw[eU,eU,kt,ZNH G p4 p5 p6,ZNK];exact ZNN ..
    have ke:(x3+(((T+((o1^^^o2)^^^o3))+(A^^^(g&&&(S^^^A))))+E+F)).toNat=lo (yv x3.toNat (yv (yv (yv (yv T.toNat (S1 g.toNat)) (ch g.toNat S.toNat A.toNat)) E.toNat) F.toNat)):=by
     rw[eU,kt];exact ZNO ..
    rw[ka,ke]
  .right;rw[yX (by simpa using Y)];grind
def ep(n:Nat):yL yB:=(gM n).map yaw
theorem HR{n:Nat}{b:yL yB}(h:b.length<=1000000000000):VF yD (n:Int) b=ab (b++ep n):=by
 unfold VF
 obtain⟨o,t,x⟩:=VT (step:=vE yD) (λs=>∃k:Nat,k<=8/\s.1=(n:Int)/\s.2.1=56 - 8*(k:Int)/\s.2.2.1=b++(ep n).take k) (λs=>(s.2.1+8).toNat) (λo=>o.1=b++ep n) (by
  rintro⟨a,i,c,d⟩ ⟨k,F,l,y,g⟩;dsimp only at l y g;subst l;unfold vE;dsimp only;have A:c.length<=b.length+8:=by rw[g,yn,yy];omega
  by_cases j:i >= 0
  .left;rw[yW (yY j),yW (yY j),yW (ZL (by omega) (by omega)),Yf (z:=i - 8) (by omega) (by omega)];refine⟨_,rfl,⟨k+1,by omega,rfl,by dsimp only;omega, ?_⟩,by dsimp only;omega⟩;dsimp only
   have E:∀m:Nat,w8 (Int.fdiv (n:Int) (2 ^ m))=yaw (n / 2 ^ m % 256):=by
    intro m;unfold w8;rw[Int.fdiv_eq_ediv_of_nonneg _ (by exact Int.le_of_lt (Int.pow_pos (by omega)))];congr 1
   have f:min i.toNat 64=56 - 8*k:=by omega
   rw[f,E,g,yac];congr 1;have e:k < 8:=by omega
   match k,e with
   |0,_=>rfl
   |1,_=>rfl
   |2,_=>rfl
   |3,_=>rfl
   |4,_=>rfl
   |5,_=>rfl
   |6,_=>rfl
   |7,_=>
    show _++[yaw (n / 2 ^ 0 % 256)]=_;rw[Nat.pow_zero,Nat.div_one];rfl
  .right;rw[yX (by simpa using j)];have e:k=8:=by omega
   subst e;exact⟨_,rfl,g⟩) (((n:Int),(56:Int),b,([]:yL yB))) ⟨0,by omega,rfl,by simp,by simp⟩ (by dsimp only;omega)
 rw[t,ya,x]
theorem ZMS{l:yL yB}(h:l.length<=4294967296):rU yD l=ab (fL l):=by
 unfold rU
 have hm:Int.tmod (l.length:Int) 64=((l.length % 64:Nat):Int):=by
  rw[Int.tmod_eq_emod_of_nonneg (by omega)];omega
 have hlt:l.length % 64 < 64:=Nat.mod_lt _ (by omega);have hle:l.length % 64<=l.length:=Nat.mod_le _ _;rw[hm,Yf (z:=(l.length:Int) - ((l.length % 64:Nat):Int)) (by omega) (by omega)];dsimp only;rw[yW (by simp only[VQ,yi,yP];omega)];have hq:((l.length:Int) - ((l.length % 64:Nat):Int)).toNat=64*(l.length / 64):=by omega
 rw[hq]
 have U:(l.drop (64*(l.length / 64))).length=l.length % 64:=by
  rw[ybf];omega
 generalize ht:l.drop (64*(l.length / 64))=t at U
 have W:Yk yD t=ab t:=by
  unfold Yk;rw[yW (ZL (by omega) (by omega))]
 rw[W,ya,yW (ZL (by omega) (by omega))];generalize hz:gk=z;have hzl:z.length=32:=by rw[<-hz];rfl
 have hzs:zs l.length=(119 - t.length) % 64:=by unfold zs;rw[U]
 obtain⟨o,h1,p1,p2,p3⟩:=VT (step:=vD yD) (λs=>s.1=l/\s.2.1=z/\∃j,j<=zs l.length/\s.2.2=t++([128]:yL yB)++yab j 0) (λs=>184 - s.2.2.length)
  (λo=>o.1=l/\o.2.1=z/\o.2.2=t++([128]:yL yB)++yab (zs l.length) 0) (by
  rintro⟨a,b,c⟩ ⟨g,Q,j,y,I⟩;dsimp only at g Q y I;have W:c.length=t.length+1+j:=by rw[I,yn,yn,ycp];rfl
  unfold vD;dsimp only
  have hm:Int.tmod (c.length:Int) 64=((c.length % 64:Nat):Int):=by
   rw[Int.tmod_eq_emod_of_nonneg (by omega)];omega
  rw[hm];by_cases F:c.length % 64=56
  .right;rw[yX (by simp;omega)];have:j=zs l.length:=by omega
   subst this;exact⟨_,rfl,g,Q,I⟩
  .left;rw[yW (by simp;omega),yW (ZL (by omega) (by omega))];have M:j≠zs l.length:=λe=>F (by omega);refine⟨_,rfl,⟨g,Q,j+1,by omega, ?_⟩, ?_⟩
   .dsimp only;rw[I,yac,List.replicate_succ',yac]
   .dsimp only;rw[yn,List.length_singleton];omega) (l,z,t++([128]:yL yB)) ⟨rfl,rfl,0,Nat.zero_le _,by simp⟩ (by dsimp only;omega)
 rw[h1,ya,p1,p2,p3,Yf (z:=8*(l.length:Int)) (by omega) (by omega),show 8*(l.length:Int)=((8*l.length:Nat):Int) by omega,HR (by
  rw[yn,yn,ycp];simp;omega),ya]
 obtain⟨f,hf,X⟩:∃f,GV yD=ab f/\f.map yar=ib:=⟨_,rfl,rfl⟩;have hf8:f.length=8:=by rw[<-yx (f:=yar),X];rfl
 rw[hf,ya];generalize hE:t++([128]:yL yB)++yab (zs l.length) 0++ep (8*l.length)=E
 have hEl:E.length=64*((t.length+72) / 64):=by
  rw[<-hE];simp only[yn,ycp,List.length_singleton,ep,yx,gM,yam,yce];omega
 obtain⟨o3,h3,r1,r2,r3,r4⟩:=VT (step:=vF yD) (λs=>s.2.1=z/\s.2.2.1=E/\s.2.2.2.length=8/\∃c,c<=l.length / 64/\s.1=l.drop (64*c)/\s.2.2.2.map yar=eR c (l.map yao) ib) (λs=>s.1.length)
  (λx=>x.1=z/\x.2.1=E/\x.2.2.length=8/\x.2.2.map yar=eR (l.length / 64) (l.map yao) ib) (by
  rintro⟨a,b,c,d⟩ ⟨g,Q,y,j,I,G,S⟩;dsimp only at g Q y I G S;have hal:a.length=l.length - 64*j:=by rw[G,ybf]
  unfold vF;dsimp only;by_cases F:(a.length:Int) >= 64
  .left;obtain⟨m,T,A⟩:=ZIK (st:=d) (l:=a.take 64) y (by rw[yy];omega);rw[yW (yY F),yW (by simp only[VQ,yi,yP];omega),T,ya,yW (by simp only[VQ,yi,yP];omega)];refine⟨_,rfl,⟨g,Q, ?_,j+1,by omega, ?_, ?_⟩,by dsimp only;rw[ybf];omega⟩
   .dsimp only;rw[<-yx (f:=yar),A];exact nB (by rw[yx];exact y)
   .dsimp only;rw[G,List.drop_drop];congr 1
   .dsimp only;rw[A,vO,S,G,List.map_take,List.map_drop]
  .right;rw[yX (by simpa using F)];have:j=l.length / 64:=by omega
   subst this;exact⟨_,rfl,g,Q,y,S⟩) (l,z,E,f) ⟨rfl,rfl,hf8,0,Nat.zero_le _,by simp,X⟩ (by dsimp only;omega)
 rw[h3,ya,r1,r2];generalize hv1:eR (l.length / 64) (l.map yao) ib=v1 at r4
 obtain⟨Y,h4,s1,s2,s3⟩:=VT (step:=vG yD) (λs=>s.2.1=z/\s.2.2.2.length=8/\∃c,c<=E.length / 64/\s.1=E.drop (64*c)/\s.2.2.2.map yar=eR c (E.map yao) v1) (λs=>s.1.length)
  (λx=>x.1=z/\x.2.2.length=8/\x.2.2.map yar=eR (E.length / 64) (E.map yao) v1) (by
  rintro⟨a,b,c,d⟩ ⟨g,y,j,I,G,S⟩;dsimp only at g y I G S;have hal:a.length=E.length - 64*j:=by rw[G,ybf]
  unfold vG;dsimp only;by_cases F:(a.length:Int) > 0
  .left;obtain⟨m,T,A⟩:=ZIK (st:=d) (l:=a.take 64) y (by rw[yy];omega);rw[yW (yY F),yW (by simp only[VQ,yi,yP];omega),T,ya,yW (by simp only[VQ,yi,yP];omega)];refine⟨_,rfl,⟨g, ?_,j+1,by omega, ?_, ?_⟩,by dsimp only;rw[ybf];omega⟩
   .dsimp only;rw[<-yx (f:=yar),A];exact nB (by rw[yx];exact y)
   .dsimp only;rw[G,List.drop_drop];congr 1
   .dsimp only;rw[A,vO,S,G,List.map_take,List.map_drop]
  .right;rw[yX (by simpa using F)];have:j=E.length / 64:=by omega
   subst this;exact⟨_,rfl,g,y,S⟩) (E,z,E,o3.2.2) ⟨rfl,r3,0,Nat.zero_le _,by simp,r4⟩ (by dsimp only;omega)
 rw[h4,ya];generalize hv2:eR (E.length / 64) (E.map yao) v1=v2 at s3
 obtain⟨o5,h5,t1,t2⟩:=VT (step:=vH yD) (λs=>0<=s.1/\s.1<=32/\s.2.1.length=32/\s.2.2.2=Y.2.2/\∀(j:Nat),(j:Int) < s.1->s.2.1[j]? =ab (Go.Sha.lN v2 j)) (λs=>(32 - s.1).toNat)
  (λx=>x.1.length=32/\∀(j:Nat),j < 32->x.1[j]? =ab (Go.Sha.lN v2 j)) (by
  rintro⟨i,a,b,c⟩ ⟨h0,h32,ha,hc,Z⟩;dsimp only at h0 h32 ha hc Z;subst hc;unfold vH;dsimp only;by_cases F:i < 32
  .left;rw[yW (yY F)];have e1:Int.tdiv i 4=i / 4:=Int.tdiv_eq_ediv_of_nonneg h0;have e2:Int.tmod i 4=i % 4:=Int.tmod_eq_emod_of_nonneg h0;rw[e1,e2,Yf (z:=i / 4) (by omega) (by omega),Yf (z:=8*(i % 4)) (by omega) (by omega),Yf (z:=24 - 8*(i % 4)) (by omega) (by omega),Yf (z:=i+1) (by omega) (by omega)];obtain⟨x1,hx1⟩:=iB (l:=Y.2.2) (i:=(i / 4).toNat) (by omega);obtain⟨x2,hx2⟩:=iB (l:=a) (i:=i.toNat) (by omega);rw[yW (XI (by omega) (by omega)),hx1,ya,yW (yY (by omega))]
   try dsimp only
   rw[yW (XI (by omega) (by omega)),hx2,ya];refine⟨_,rfl,⟨by dsimp only;omega,by dsimp only;omega,by dsimp only;rw[yax];exact ha,rfl, ?_⟩,by dsimp only;omega⟩;intro j M;dsimp only at M ⊢;by_cases hji:j=i.toNat
   .subst hji;rw[ycw (by omega)];congr 1;unfold Go.Sha.lN
    have hx:v2.getD (i.toNat / 4) 0=x1.toNat:=by
     rw[<-s3,ydg,yah,show i.toNat / 4=(i / 4).toNat by omega,hx1];rfl
    rw[hx,show min (24 - 8*(i % 4)).toNat 32=24 - 8*(i.toNat % 4) by omega,oQ];unfold w8;have e3:∀m:Nat,(((m:Nat):Int) % 256).toNat=m % 256:=λm=>by omega
    rw[e3,show yak x1.toNat (24 - 8*(i.toNat % 4))=x1.toNat >>> (24 - 8*(i.toNat % 4)) from rfl,ydh]
    exact UInt8.toNat_inj.1 (by simp)
   .rw[List.getElem?_set_ne (Ne.symm hji)];exact Z j (by omega)
  .right;rw[yX (by simpa using F)];exact⟨_,rfl,ha,λj M=>Z j (by omega)⟩) ((0:Int),Y.1,Y.2.1,Y.2.2) ⟨Int.le_refl _,by dsimp only;omega,by dsimp only;rw[s1];exact hzl,rfl,λj M=>by dsimp only at M;omega⟩ (by dsimp only;omega)
 rw[h5,ya,HQ];congr 1
 have hpad:jd l=(l.take (64*(l.length / 64))).map yao++E.map yao:=by
  unfold jd;rw[<-hE, <-ht];simp only[yaq,List.map_replicate,yaf,List.map_nil,ep,ybc];rw[<-yac, <-yac, <-yac, <-yaq,ybk]
  have:gM (8*l.length)=(gM (8*l.length)).map (yao ∘ yaw):=by
   simp[gM]
  rw[<-this];simp
 have hw:((l.take (64*(l.length / 64))).map yao).length=64*(l.length / 64):=by
  rw[yx,yy];omega
 have Z:v2=eR ((l.length+72) / 64) (jd l) ib:=by
  rw[hpad,show(l.length+72) / 64=l.length / 64+E.length / 64 by omega,HP _ _ _ _ _ hw, <-hv2, <-hv1];congr 1;have:=HP (l.length / 64) 0 _ ((l.drop (64*(l.length / 64))).map yao) ib hw;rw[<-yaq,ybk,ycl]at this;exact this
 rw[<-Z];apply ybg;intro j;by_cases M:j < 32
 .rw[t2 j M,yah,List.getElem?_range M];rfl
 .rw[yat (by omega),yat (by simp;omega)]
noncomputable def rW(F:Nat)(a0:yL yB):yO aGO:=if ag (a0.length<=4294967296)=ae then ab (fL a0) else rU F a0
noncomputable def HS(F:Nat):Fs yc:={ HC F with M:=λx=>rW F x}
noncomputable def ZtC:Fs yc:=HS yD
theorem ZqL:ZtC.Ok:=nw (s:=HC yD) Zyk λx=>by
 show rW yD x=rU yD x;unfold rW;split
 .rename_i h;exact(ZMS (yF h)).symm
 .rfl
theorem ZK1{l:yL yB}(h:l.length<=4294967296):rW yD l=ab (fL l):=yW (yY h)
end Go.Proofs.YtghfiijgklnflaaGreat
end
