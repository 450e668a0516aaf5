/- Parts of the proof, in one file. -/
import Derived.Test.YtekdgjajmennjaaGreatKd
open Option renaming some → ab, none → ae
open Bool renaming true → af, false → ag
open Decidable renaming decide → ah
open Bool renaming and_eq_true → yi
open Go renaming TypeId → yc, Program → yg, Value → yh, FuncId → yq
open Go.Proofs.Tryz renaming prog → yb
open List renaming length_append → yl, getElem?_eq_some_iff → yo, range → yu, replicate → yw, length_map → yab, getElem?_eq_getElem → yac, map_cons → yag, length_cons → yam, map_append → yao, getElem?_append_right → yaq, append_nil → yar, mem_cons_self → yax, getElem?_cons_succ → yay, mem_cons_of_mem → yaz, getElem?_append_left → ybe, map_map → ybf, ext_getElem? → ybj, mem_cons → ybo, all_eq_true → ybx, not_mem_nil → ycm, map_congr_left → ycn, length_replicate → ycs, getD_eq_getElem?_getD → ycz
open Nat renaming le_refl → yj, add → yr, mod_eq_of_lt → yaf, shiftRight → yah, zero_add → yat, add_mul → yau, mod_lt → ybb, mul_comm → ybi, mul_mod → ybr, add_zero → ybu, eq_zero_or_pos → ycd, mul_le_mul_right → ycg, lt_or_ge → ych, two_pow_add_eq_or_of_lt → ycw, lt_of_le_of_lt → ycx, shiftRight_eq_div_pow → yda
open Option renaming bind_some → ya, bind_eq_some_iff → yf, map_eq_some_iff → yn, map_some → yaa
open Option.some renaming inj → yaw
open UInt32 renaming ofNat → ybq
open UInt64 renaming ofNat → yv, toNat_ofNat' → yan, toNat_lt → ybt, lt_iff_toNat_lt → ycc, le_iff_toNat_le → ycp
open UInt8 renaming toNat → yaj, ofNat → yav
set_option linter.unusedVariables false
set_option linter.unusedSimpArgs false
section
namespace Go.Ev
def eL(H H':yL ay):Prop:=∀σ:Sg,Ok σ->σ.H=H->∃σ':Sg,σ'.w=σ.w/\σ'.H=H'/\To σ σ'/\Ok σ'
theorem eL.refl(H:yL ay):eL H H:=λσ ok h=>⟨σ,rfl,h,To.refl σ,ok⟩
theorem eL.trans{A B C:yL ay}(h:eL A B)(k:eL B C):eL A C:=λσ ok e=>by
 obtain⟨σ1,a1,a2,a3,a4⟩:=h σ ok e;obtain⟨σ2,b1,b2,b3,b4⟩:=k σ1 a4 a2;exact⟨σ2,b1.trans a1,b2,a3.trans b3,b4⟩
theorem ZRK{H H':yL ay}(h:cg H H'):eL H H':=λσ ok e=>by
 subst e;obtain⟨to,ok'⟩:=jY ok h;grind
theorem ZQw{P:yg}{c:Code}{ts ts1 ts2:yL Dv}{H H1 H2:yL ay}{ex:Ex}(h:eL H H1/\∀(σ:Sg)(a:Act),aK σ ts a->aK σ ts1 a)(r:Vd P c ts1 H1 ex ts2 H2):Vd P c ts H ex ts2 H2:=by
 intro σ a ok hH yK;obtain⟨σ1,e1,e2,e3,e4⟩:=h.1 σ ok hH;have:=r σ1 a e4 e2 (h.2 _ _ (yK.to e3.leaf));rw[e1]at this;refine wp_mono this ?_;rintro e' a' w' ⟨rfl,σ2,q1,q2,q3,q4,q5⟩;exact⟨rfl,σ2,q1,q2,e3.trans q3,q4,q5⟩
theorem ZSL{H:yL ay}{j:Nat}{x x' y:ay}(hj:H[j]? =ab x)
 (hy:∀σ:Sg,dc σ ae y)
 (hvar:(∃d st,x=.var d st)->∃d st,x'=.var d st) (hmap:(∃t bu,x=.map t bu)->∃t bu,x'=.map t bu) (hlog:∀s e xs,x≠ .log s e xs)
 (hunl:∀o,x.bp o->x'.bp o)
 (hrow:∀v s st e d,x=.row v s st e d->∃st' d',x'=.row v s st' e d')
 (hent:∀(σ:Sg)(mi:yO Nat),σ.H[H.length]? =ab y->σ.m[H.length]? =ab ae->dc σ mi x->dc σ mi x'):eL H ((H++[y]).set j x'):=by
 intro σ ok hH;subst hH;have hjl:j < σ.H.length:=(yo.1 hj).1;obtain⟨to1,ok1⟩:=VV (σ':={ σ with m:=σ.m++[ae],H:=σ.H++[y]}) ok rfl rfl rfl rfl (World.grownBy.refl σ.w ae) (.inl rfl) (λ_=>hy _);obtain⟨mi,hm⟩:∃mi,σ.m[j]? =ab mi:=⟨_,yac (by rw[ok.len];exact hjl)⟩;let σ1:Sg:={ σ with m:=σ.m++[ae],H:=σ.H++[y]};let σ2:Sg:={ σ1 with m:=σ1.m.set j mi,H:=σ1.H.set j x'}
 have hH1:σ1.H[j]? =ab x:=by
  grind
 have hm1:σ1.m[j]? =ab mi:=by
  grind
 have hx:=ok1.cY j x mi hH1 hm1
 obtain⟨to2,ok2⟩:=Wg (σ':=σ2) (mi:=mi) (mi':=mi) ok1 hH1 hm1 rfl rfl rfl rfl rfl rfl rfl (yj _)
  (λ_ _ _=>rfl) (λ_ _ _ _ _ h=>h) (λo _ hu=>hunl o hu) (.inl rfl) (λq=>⟨rfl,hvar q⟩) (λq=>⟨rfl,hmap q⟩) (λs e xs q=>absurd q (hlog s e xs))
  (λleaf=>by
    refine hent σ2 mi ?_ ?_ (oQ leaf (λb _=>rfl) hx)
    .show(σ1.H.set j _)[σ.H.length]? =_;rw[List.getElem?_set,yX (by omega)];simp[σ1]
    .show(σ1.m.set j _)[σ.H.length]? =_;rw[List.getElem?_set,yX (by omega)];show(σ.m++[ae])[σ.H.length]? =_;rw[yaq (by rw[ok.len];exact yj _),ok.len];simp)
  (λv s st e d q=>by
    obtain⟨st',d',q'⟩:=hrow v s st e d q;exact⟨v,st',d',q',yj _,λ_=>⟨rfl,λb cur _ hc=>⟨cur,hc,rfl⟩⟩⟩)
 exact⟨σ2,rfl,rfl,to1.trans to2,ok2⟩
theorem ZLL{σ:Sg}{s:Nat}{a:yL yh}(h:yG σ (.p (.sl (ab ag) s [])) a):a=[.slice ae 0 0]:=by
 simp only[yG,aw]at h;obtain⟨_,A,c,rfl,w1,w2,w3,w4,w5⟩:=h
 have hA:A=ae:=by
  have:=w3 ag rfl;simp_all
 grind
theorem ZQx{H:yL ay}{j s:Nat}{e:yc}{d d':Dv}{st:Bool}{yM:yL Nat}(hj:H[j]? =ab (.var d st))(hg:WF d yM s (.rv H.length 0 s 0 0)=ab d'):
 eL H ((H++[ay.row 0 s af e (.p (.arr 0 s []))]).set j (.var d' st)):=by
 have hsz:=vA yM d d' s _ rfl hg;refine ZSL hj (λσ=>⟨0,by simp[aY],.inl ⟨rfl,rfl⟩⟩) (λ_=>⟨_,_,rfl⟩) (λ⟨_,_,q⟩=>by cases q) (λ_ _ _ q=>by cases q) (λo hu=>hu) (λ_ _ _ _ _ q=>by cases q) ?_;rintro σ mi h1 h2 ⟨b,cs,t,rfl,q2,q3,q4⟩;refine⟨b,cs,t,rfl,q2, ?_,by rw[hsz];exact q4⟩;rw[hsz];refine vB yM d d' s _ (λa ha=> ?_) hg _ q3;have:=ZLL ha;subst this;simp only[yG];exact⟨ae,0,rfl,yj _,by simp[maxLen],λ_=>rfl,λh=>absurd h (Nat.lt_irrefl 0),0,s,af,e,_,h1,yj _,λ_=>⟨rfl,.inl ⟨h2,rfl,rfl⟩⟩⟩
theorem ZQy{H:yL ay}{j:Nat}{d d':Dv}{st:Bool}(hj:H[j]? =ab (.var d st))(hsz:d'.size=d.size)(hd:∀σ:Sg,Ok σ->σ.H=H->∀us,yG σ d us->yG σ d' us):eL H (H.set j (.var d' st)):=by
 intro σ ok hH;subst hH;have hjl:j < σ.H.length:=(yo.1 hj).1;obtain⟨mi,hm⟩:∃mi,σ.m[j]? =ab mi:=⟨_,yac (by rw[ok.len];exact hjl)⟩;let σ2:Sg:={ σ with m:=σ.m.set j mi,H:=σ.H.set j (.var d' st)};obtain⟨b,cs,t,rfl,q2,q3,q4⟩:=ok.cY j _ mi hj hm;have q5:=hd σ ok rfl _ q3
 obtain⟨to2,ok2⟩:=Wg (σ':=σ2) (mi:=ab b) (mi':=ab b) ok hj hm rfl rfl rfl rfl rfl rfl rfl (yj _)
  (λ_ _ _=>rfl) (λ_ _ _ _ _ h=>h) (λo _ hu=>hu) (.inl rfl) (λq=>⟨rfl,_,_,rfl⟩) (λ⟨_,_,q⟩=>by cases q) (λs e xs q=>by cases q)
  (λleaf=>⟨b,cs,t,rfl,q2,by rw[hsz];exact Yi leaf _ _ q5,by rw[hsz];exact q4⟩)
  (λv s st e d q=>by cases q)
 grind
inductive kl where
 |done (t:Tmp)
 |fresh (t:Tmp) (i:Nat)
 |bM (t:Tmp) (yM:List Nat) (T:Ty) (e:yc)
 |gK (t:Tmp)
 |gL (t:Tmp)
 |fD (t:Tmp) (i:Nat)
 |flat (t:Tmp)
 |jC (t:Tmp) (i:Nat) (ks:List Nat)
def ZU4:ak->Bool
 |.aY _ _ _ af _ _ _=>af
 |_=>ag
section
variable{O:Type}{out:O}
abbrev Kh(O:Type):=yL TD->yL ak->yO O
def ZU5(t:Tmp)(yM:yL Nat)(T:Ty)(e:yc)(np:yL Nat)(a:yL TD)(h:yL ak)(K:Kh O):yO O:=
 match a[t]? with
 |some (.am id [])=>match h[id]? with
  |some (.var d af)=>(lg T (.rw h.length) yM d).bind λd'=>if(TD.frees h.length a&&h.all (ak.free h.length))=af then K a ((h++[ak.aY T np [] af e [] []]).set id (.var d' af)) else ae
  |_=>ae
 |_=>ae
def ZIG(t:Tmp)(yM:yL Nat)(T:Ty)(e:yc)(a:yL TD)(h:yL ak)(K:Kh O):yO O:=
 match a[t]? with
 |some (.am id [])=>match h[id]? with
  |some (.var d af)=>(lg T (.rw h.length) yM d).bind λd'=>if(TD.frees h.length a&&h.all (ak.free h.length))=af then K a ((h++[ak.aW T [] af e []]).set id (.var d' af)) else ae
  |_=>ae
 |_=>ae
def sW(h:yL ak):TD->yO (TD×yL Nat)
 |.rw j=>match h[j]? with
  |some (.aY T _ _ _ _ pre [])=>ab (.p (.sl ae T pre),[j])
  |some (.aW T _ _ _ l)=>ab (.p (.sl ae T l),[j])
  |_=>ae
 |d=>ab (d,[])
def KD(h:yL ak):TD->(TD->yL Nat->yO O)->yO O
 |.rw j,K=>match h[j]? with
  |some (.aY T _ _ _ _ pre post)=>if post.isEmpty=af then K (.p (.sl ae T pre)) [j] else ae
  |some (.aW T _ _ _ l)=>K (.p (.sl ae T l)) [j]
  |_=>ae
 |d,K=>K d []
theorem ZIH{h:yL ak}{d:TD}{K:TD->yL Nat->yO O}(k:KD h d K=ab out):∃q,sW h d=ab q/\K q.1 q.2=ab out:=by
 unfold KD at k;unfold sW;split at k
 .rename_i j;dsimp only;split at k
  all_goals simp_all
 simp_all
def KE(h:yL ak):yL TD->(yL TD->yL Nat->yO O)->yO O
 |[],K=>K [] []
 |d::r,K=>KD h d λx l=>KE h r λy m=>K (x::y) (l++m)
def sX(h:yL ak):yL TD->yO (yL TD×yL Nat)
 |[]=>ab ([],[])
 |d::r=>match sW h d,sX h r with
  |some q,ab w=>ab (q.1::w.1,q.2++w.2)
  |_,_=>ae
theorem Zxa{h:yL ak}:∀{ds:yL TD}{K:yL TD->yL Nat->yO O},KE h ds K=ab out->∃q,sX h ds=ab q/\K q.1 q.2=ab out
 |[],K,k=>⟨_,rfl,k⟩
 |d::r,K,k=>by
  obtain⟨q,h1,k⟩:=ZIH k;obtain⟨w,h2,k⟩:=Zxa k;exact⟨(q.1::w.1,q.2++w.2),by simp only[sX,h1,h2],k⟩
def jD:ak->ak
 |.aY T np v _ e a b=>.aY T np v ag e a b
 |.aW t v _ e l=>.aW t v ag e l
 |e=>e
def iz(ids:yL Nat)(H:yL ak):yL ak:=(yu H.length).zipWith (λi e=>if ids.contains i then jD e else e) H
def sY(t:Tmp)(a:yL TD)(h:yL ak)(K:Kh O):yO O:=
 match a[t]? with
 |some (.am id [])=>match h[id]? with
  |some (.var (.agg ds) st)=>KE h ds λx l=>K a ((iz l h).set id (.var (.agg x) st))
  |_=>ae
 |_=>ae
def wU(t:Tmp)(i:Nat)(a:yL TD)(h:yL ak)(K:Kh O):yO O:=
 match a[t]? with
 |some (.am j [])=>match h[j]? with
  |some (.var (.agg ds) st)=>match ds[i]? with
   |some (.rv id v s 0 n)=>match h[id]? with
    |some (.aW T w _ _ l)=>if(ah (v=w.length)&&(ah (s=T.size)&&ah (n=l.length)))=af then K a (h.set j (.var (.agg (ds.set i (.rw id))) st)) else ae
    |_=>ae
   |_=>ae
  |_=>ae
 |_=>ae
def KF(t:Tmp)(a:yL TD)(h:yL ak)(K:Kh O):yO O:=
 match a[t]? with
 |some (.rv id v s 0 n)=>match h[id]? with
  |some (.aW T w _ _ l)=>if(ah (v=w.length)&&(ah (s=T.size)&&ah (n=l.length)))=af then K (a.set t (.rw id)) h else ae
  |_=>ae
 |_=>ae
def KG(t:Tmp)(a:yL TD)(h:yL ak)(K:Kh O):yO O:=
 match a[t]? with
 |some (.am j [])=>match h[j]? with
  |some (.var (.rv id v s 0 n) st)=>match h[id]? with
   |some (.aW T w _ _ l)=>if(ah (v=w.length)&&(ah (s=T.size)&&ah (n=l.length)))=af then K a (h.set j (.var (.rw id) st)) else ae
   |_=>ae
  |_=>ae
 |_=>ae
def wV{O:Type}(w:Nat)(f:Nat->yO O):yL Nat->yO O
 |[]=>ae
 |n::r=>if Nat.beq w n=af then f n else wV w f r
def KH(t:Tmp)(i:Nat)(ks:yL Nat)(a:yL TD)(h:yL ak)(K:Kh O):yO O:=
 match a[t]? with
 |some (.am j [])=>match h[j]? with
  |some (.var (.agg ds) st)=>match ds[i]? with
   |some (.iface w y)=>wV w (λn=>K a (h.set j (.var (.agg (ds.set i (.iface n y))) st))) ks
   |_=>ae
  |_=>ae
 |_=>ae
def KI(t:Tmp)(a:yL TD)(h:yL ak)(K:Kh O):yO O:=
 match a[t]? with
 |some (.am j [])=>match h[j]? with
  |some (.var d st)=>(d.flat (lk h)).bind λx=>K a (h.set j (.var (.p x) st))
  |_=>ae
 |_=>ae
def ghT:kl->yL TD->yL ak->Kh O->yO O
 |.done t,a,h,K=>sY t a h K
 |.fresh t i,a,h,K=>wU t i a h K
 |.bM t yM T e,a,h,K=>ZIG t yM T e a h K
 |.gK t,a,h,K=>KF t a h K
 |.gL t,a,h,K=>KG t a h K
 |.fD t i,a,h,K=>wU t i a h λa h=>sY t a h K
 |.flat t,a,h,K=>KI t a h K
 |.jC t i ks,a,h,K=>KH t i ks a h K
def KJ(g:yO kl)(a:yL TD)(h:yL ak)(K:Kh O):yO O:=
 match g with
 |none=>K a h
 |some g=>ghT g a h K
theorem ZQz{H:yL ak}{e:ak}(h:H.all (ak.free H.length)=af):aG (H++[e])=aG H++[e.er (lk (H++[e]))]:=by
 unfold aG;rw[yao];congr 1;refine ycn λx hx=> ?_;have hf:=ybx.1 h x hx;exact(ZGs (λid t hn=>mh id t hn) x hf).symm
theorem ZQA{H:yL ak}{e:ak}{a:yL TD}(h:TD.frees H.length a=af):TD.aE (lk (H++[e])) a=TD.aE (lk H) a:=(cA (λid t hn=>mh id t hn) a h).symm
theorem ZGH{t:Tmp}{yM:yL Nat}{T:Ty}{e:yc}{a:yL TD}{h:yL ak}{K:Kh O}(k:ZIG t yM T e a h K=ab out):
 ∃a' h',K a' h'=ab out/\a'.length=a.length/\eL (aG h) (aG h')/\∀(σ:Sg)(act:Act),aK σ (TD.aE (lk h) a) act->aK σ (TD.aE (lk h') a') act:=by
 unfold ZIG at k;split at k
 .rename_i id hid;split at k
  .rename_i d hd;obtain⟨d',h1,k⟩:=yf.1 k;obtain⟨h2,k⟩:=Za k;rw[yi]at h2;have hlt:id < h.length:=(yo.1 hd).1;have hd':(h++[ak.aW T [] af e []])[id]? =ab (.var d af):=by rw[ybe hlt];exact hd
   have hL:lk ((h++[ak.aW T [] af e []]).set id (.var d' af))=lk (h++[ak.aW T [] af e []]):=gE hd' rfl rfl;refine⟨_,_,k,rfl, ?_,λσ act r=> ?_⟩
   .have e1:aG ((h++[ak.aW T [] af e []]).set id (.var d' af))=(aG h++[ay.row 0 T.size af e (.p (.arr 0 T.size []))]).set id (.var (d'.er (lk (h++[ak.aW T [] af e []]))) af):=by
     rw[Ql hL,ZQz h2.2];rfl
    rw[e1];have hj:(aG h)[id]? =ab (.var (d.er (lk h)) af):=by rw[Yq hd];rfl
    refine ZQx (yM:=yM) hj ?_;have e2:=wv (L:=lk (h++[ak.aW T [] af e []])) yM d d' h1;have e3:d.er (lk (h++[ak.aW T [] af e []]))=d.er (lk h):=(la (λid t hn=>mh id t hn) d (ybx.1 h2.2 _ (List.mem_of_getElem? hd))).symm;rw[e3,(gj (T:=T) (v:=[]) (l:=[]) (List.getElem?_concat_length ..)).1]at e2;rw[ZQ];exact e2
   .rw[hL,ZQA h2.1];exact r
  .cases k
 .cases k
theorem ZN4(e:ak):dt (ab (jD e))=dt (ab e):=by cases e <;> rfl
theorem wW(ids:yL Nat)(H:yL ak)(i:Nat):(iz ids H)[i]? =(H[i]?).map λe=>if ids.contains i then jD e else e:=by
 unfold iz
 all_goals grind
theorem ZCU(ids:yL Nat)(H:yL ak):lk (iz ids H)=lk H:=by
 funext i;unfold lk;rw[wW]
 cases H[i]? with
 |none=>rfl
 |some e=>
  show dt (ab (if ids.contains i=af then jD e else e))=_
  split
  .exact ZN4 e
  .rfl
theorem ZLM(ids:yL Nat)(H:yL ak):cg (aG H) (aG (iz ids H)):=by
 refine JJ (by rw[ZQ,ZQ];unfold iz;simp) λi a b h1 h2=> ?_;unfold aG at h1 h2;rw[List.getElem?_map]at h1 h2;rw[ZCU,wW]at h2
 cases he:H[i]? with
 |none=>rw[he]at h1;cases h1
 |some e=>
  rw[he]at h1 h2;cases h1;cases h2;show ez (e.er (lk H)) (ak.er (lk H) (if ids.contains i=af then jD e else e))
  split
  .cases e <;> first|exact .refl _|exact .lock
  .exact .refl _
theorem ZN5{h H:yL ak}{d:TD}{q:TD×yL Nat}(hq:sW h d=ab q)(hL:lk H=lk h)(hl:∀j,j∈q.2->∀e,h[j]? =ab e->H[j]? =ab (jD e)):
 (q.1.er (lk H)).size=(d.er (lk H)).size/\∀σ:Sg,Ok σ->σ.H=aG H->∀us,yG σ (d.er (lk H)) us->yG σ (q.1.er (lk H)) us:=by
 have yR:∀x:TD,(q.1.er (lk H)).size=(q.1.er (lk H)).size/\∀σ:Sg,Ok σ->σ.H=aG H->∀us,yG σ (q.1.er (lk H)) us->yG σ (q.1.er (lk H)) us:=λ_=>⟨rfl,λ_ _ _ _ r=>r⟩
 have row:∀(j:Nat)(v:Nat)(s:Nat)(e:yc)(xs:yL Pl)(T:Ty)(l:yL T.aQ),(TD.rw j).er (lk H)=.rv j v s 0 xs.length->(aG H)[j]? =ab (.row v s ag e (.p (.arr xs.length s xs)))->s=T.size->xs=l.map T.enc->
  ((TD.p (.sl ae T l)).er (lk H)).size=((TD.rw j).er (lk H)).size/\∀σ:Sg,Ok σ->σ.H=aG H->∀us,yG σ ((TD.rw j).er (lk H)) us->yG σ ((TD.p (.sl ae T l)).er (lk H)) us:=by
  intro j v s e xs T l e1 e2 e3 e4;subst e3;rw[e1];refine⟨rfl,λσ ok hH us r=> ?_⟩;have dr:=bv.nJ (H:=σ.H) (lo:=0) (n:=xs.length) (by rw[hH];exact e2) (by omega);rw[List.drop_zero,List.take_length]at dr;have:=FE ok dr us r;rw[TD.er,TP.pe, <-e4];simpa[yG] using this
 unfold sW at hq;split at hq
 .rename_i j;split at hq
  .rename_i T np v st e pre hd;cases hq;have hH:=hl j (yax ..) _ hd;have hr:=ZQg (q:=(v.length,T.size,pre.length+0)) (x:=jD (.aY T np v st e pre [])) hH rfl;refine row j v.length T.size e (pre.map T.enc) T pre (by rw[hr.1,yab];rfl) ?_ rfl rfl;rw[Yq hH,yab];simp only[jD,ak.er,List.map_nil,yar,List.length_nil,ybu]
  .rename_i T v st e l hd;cases hq;have hH:=hl j (yax ..) _ hd;have hr:=gj (T:=T) (v:=v) (st:=ag) (e:=e) (l:=l) hH;refine row j v.length T.size e (l.map T.enc) T l (by rw[hr.1,yab]) ?_ rfl rfl;rw[Yq hH,yab];rfl
  .cases hq
 grind
theorem ZCV{h H:yL ak}:∀{ds:yL TD}{q:yL TD×yL Nat},sX h ds=ab q->lk H=lk h->(∀j,j∈q.2->∀e,h[j]? =ab e->H[j]? =ab (jD e))->
 Dv.sizes (TD.aE (lk H) q.1)=Dv.sizes (TD.aE (lk H) ds)/\∀σ:Sg,Ok σ->σ.H=aG H->∀us,aI σ (TD.aE (lk H) ds) us->aI σ (TD.aE (lk H) q.1) us
 |[],q,hq,hL,hl=>by cases hq;exact⟨rfl,λ_ _ _ _ r=>r⟩
 |d::r,q,hq,hL,hl=>by
  simp only[sX]at hq;split at hq
  .rename_i q1 q2 h1 h2;cases hq;obtain⟨a1,a2⟩:=ZN5 h1 hL (λj hj=>hl j (List.mem_append_left _ hj));obtain⟨b1,b2⟩:=ZCV h2 hL (λj hj=>hl j (List.mem_append_right _ hj));refine⟨by simp only[TD.aE,Dv.sizes];rw[a1,b1],λσ ok hH us rr=> ?_⟩;simp only[TD.aE,aI]at rr ⊢;grind
  .cases hq
theorem Zxb{t:Tmp}{a:yL TD}{h:yL ak}{K:Kh O}(k:sY t a h K=ab out):
 ∃a' h',K a' h'=ab out/\a'.length=a.length/\eL (aG h) (aG h')/\∀(σ:Sg)(act:Act),aK σ (TD.aE (lk h) a) act->aK σ (TD.aE (lk h') a') act:=by
 unfold sY at k;split at k
 .rename_i id hid;split at k
  .rename_i ds st hd;obtain⟨q,h1,k⟩:=Zxa k
   have hd2:(iz q.2 h)[id]? =ab (.var (.agg ds) st):=by
    rw[wW,hd];show ab (if q.2.contains id=af then jD (.var (.agg ds) st) else .var (.agg ds) st)=_
    split <;> rfl
   have hL0:lk (iz q.2 h)=lk h:=ZCU _ _;have hL:lk ((iz q.2 h).set id (.var (.agg q.1) st))=lk (iz q.2 h):=gE hd2 rfl rfl;refine⟨_,_,k,rfl,(ZRK (ZLM q.2 h)).trans ?_,λσ act rr=>by rw[hL,hL0];exact rr⟩;rw[Ql hL];have hj:(aG (iz q.2 h))[id]? =ab (.var (.agg (TD.aE (lk (iz q.2 h)) ds)) st):=by rw[Yq hd2];rfl
   obtain⟨c1,c2⟩:=ZCV (H:=iz q.2 h) h1 hL0 (λj hj e he=>by
    rw[wW,he];show ab (if q.2.contains j=af then jD e else e)=_
    rw[yW (by simpa using hj)])
   refine ZQy hj ?_ λσ ok hH us r=> ?_
   .exact c1
   .simp only[TD.er,yG]at r ⊢;grind
  .cases k
 .cases k
theorem ZGI{L:Lk}{ds:yL TD}{i:Nat}{x y:TD}(h:ds[i]? =ab x)(e:y.er L=x.er L):TD.aE L (ds.set i y)=TD.aE L ds:=by
 rw[ZH,ZH,List.map_set,e];apply ybj
 all_goals grind
theorem Zuw{t:Tmp}{i:Nat}{a:yL TD}{h:yL ak}{K:Kh O}(k:wU t i a h K=ab out):
 ∃a' h',K a' h'=ab out/\a'.length=a.length/\eL (aG h) (aG h')/\∀(σ:Sg)(act:Act),aK σ (TD.aE (lk h) a) act->aK σ (TD.aE (lk h') a') act:=by
 unfold wU at k;split at k
 .rename_i j hj;split at k
  .rename_i ds st hd;split at k
   .rename_i id v s n hi;split at k
    .rename_i T w st' e l hr;obtain⟨c,k2⟩:=Za k;clear k;rw[yi,yi,yP,yP,yP]at c;obtain⟨rfl,rfl,rfl⟩:=c;have hL:lk (h.set j (.var (.agg (ds.set i (.rw id))) st))=lk h:=gE hd rfl rfl
     have he:(TD.rw id).er (lk h)=(TD.rv id w.length T.size 0 l.length).er (lk h):=by
      refine(JF (v:=w) (s:=T.size) (N:=l.length) ?_).1;unfold Yg lk;dsimp only;rw[hr];rfl
     refine⟨_,_,k2,rfl, ?_,λσ act rr=>by rw[hL];exact rr⟩
     have e2:aG (h.set j (.var (.agg (ds.set i (.rw id))) st))=aG h:=by
      rw[Ql hL];show(aG h).set j (.var (.agg (TD.aE (lk h) (ds.set i (.rw id)))) st)=aG h;rw[ZGI hi he];apply ybj;intro q;by_cases hq:j=q
      .subst hq;have hjl:(aG h)[j]? =ab (.var (.agg (TD.aE (lk h) ds)) st):=by rw[Yq hd];rfl
       grind
      grind
     rw[e2];exact eL.refl _
    .cases k
   .cases k
  .cases k
 .cases k
theorem ZGJ{h:yL ak}{id:Nat}{T:Ty}{w:yL Unit}{st:Bool}{e:yc}{l:yL T.aQ}(hr:h[id]? =ab (.aW T w st e l)):(TD.rw id).er (lk h)=(TD.rv id w.length T.size 0 l.length).er (lk h):=by
 refine(JF (v:=w) (s:=T.size) (N:=l.length) ?_).1;unfold Yg lk;dsimp only;rw[hr];rfl
theorem ZBH{t:Tmp}{a:yL TD}{h:yL ak}{K:Kh O}(k:KF t a h K=ab out):
 ∃a' h',K a' h'=ab out/\a'.length=a.length/\eL (aG h) (aG h')/\∀(σ:Sg)(act:Act),aK σ (TD.aE (lk h) a) act->aK σ (TD.aE (lk h') a') act:=by
 unfold KF at k;split at k
 .rename_i id v s n hi;split at k
  .rename_i T w st' e l hr;obtain⟨c,k2⟩:=Za k;clear k;rw[yi,yi,yP,yP,yP]at c;obtain⟨rfl,rfl,rfl⟩:=c;exact⟨_,_,k2,List.length_set,eL.refl _,λσ act rr=>by rw[ZGI hi (ZGJ hr)];exact rr⟩
  .cases k
 .cases k
theorem ZBI{t:Tmp}{a:yL TD}{h:yL ak}{K:Kh O}(k:KG t a h K=ab out):
 ∃a' h',K a' h'=ab out/\a'.length=a.length/\eL (aG h) (aG h')/\∀(σ:Sg)(act:Act),aK σ (TD.aE (lk h) a) act->aK σ (TD.aE (lk h') a') act:=by
 unfold KG at k;split at k
 .rename_i j hj;split at k
  .rename_i id v s n st hd;split at k
   .rename_i T w st' e l hr;obtain⟨c,k2⟩:=Za k;clear k;rw[yi,yi,yP,yP,yP]at c;obtain⟨rfl,rfl,rfl⟩:=c;have hL:lk (h.set j (.var (.rw id) st))=lk h:=gE hd rfl rfl;refine⟨_,_,k2,rfl, ?_,λσ act rr=>by rw[hL];exact rr⟩
    have e2:aG (h.set j (.var (.rw id) st))=aG h:=by
     rw[Ql hL];show(aG h).set j (.var ((TD.rw id).er (lk h)) st)=aG h;rw[ZGJ hr];apply ybj;intro q;by_cases hq:j=q
     .subst hq;have hjl:(aG h)[j]? =ab (.var ((TD.rv id w.length T.size 0 l.length).er (lk h)) st):=by rw[Yq hd];rfl
      rw[List.getElem?_set_self (yo.1 hjl).1,hjl]
     .rw[List.getElem?_set_ne hq]
    rw[e2];exact eL.refl _
   .cases k
  .cases k
 .cases k
theorem ZGK{t:Tmp}{a:yL TD}{h:yL ak}{K:Kh O}(k:KI t a h K=ab out):
 ∃a' h',K a' h'=ab out/\a'.length=a.length/\eL (aG h) (aG h')/\∀(σ:Sg)(act:Act),aK σ (TD.aE (lk h) a) act->aK σ (TD.aE (lk h') a') act:=by
 unfold KI at k;split at k
 .rename_i j hj;split at k
  .rename_i d st hd;obtain⟨x,h1,k⟩:=yf.1 k;have hL:lk (h.set j (.var (.p x) st))=lk h:=gE hd rfl rfl;refine⟨_,_,k,rfl, ?_,λσ act rr=>by rw[hL];exact rr⟩;rw[Ql hL];have hjl:(aG h)[j]? =ab (.var (d.er (lk h)) st):=by rw[Yq hd];rfl
   have hf:(d.er (lk h)).flat=ab x.pe:=by rw[rS,h1];rfl
   refine ZRK (cg.fG hjl (ez.var ?_))
   exact⟨(vi _ _ hf).symm,(DP hf).symm,λσ vs r=>by
    have:=rh _ _ _ hf r;show yG σ (.p x.pe) vs;simp only[yG];exact this⟩
  .cases k
 .cases k
theorem ZCW{α:Type}{l:yL α}{i:Nat}{x:α}(h:l[i]? =ab x):l.set i x=l:=by
 apply ybj
 all_goals grind
theorem Zux{w:Nat}{f:Nat->yO O}:∀{ks:yL Nat},wV w f ks=ab out->f w=ab out
 |[],k=>by cases k
 |n::r,k=>by
  unfold wV at k;split at k
  .simp_all
  .exact Zux k
theorem ZBJ{t:Tmp}{i:Nat}{ks:yL Nat}{a:yL TD}{h:yL ak}{K:Kh O}(k:KH t i ks a h K=ab out):
 ∃a' h',K a' h'=ab out/\a'.length=a.length/\eL (aG h) (aG h')/\∀(σ:Sg)(act:Act),aK σ (TD.aE (lk h) a) act->aK σ (TD.aE (lk h') a') act:=by
 unfold KH at k;split at k
 .split at k
  .rename_i j _ ds st hj;split at k
   .rename_i w y hi;have k:=Zux k;rw[ZCW hi,ZCW hj]at k;exact⟨_,_,k,rfl,eL.refl _,λ_ _ r=>r⟩
   .cases k
  .cases k
 .cases k
theorem ZN6{g:yO kl}{a:yL TD}{h:yL ak}{K:Kh O}(k:KJ g a h K=ab out):
 ∃a' h',K a' h'=ab out/\a'.length=a.length/\eL (aG h) (aG h')/\∀(σ:Sg)(act:Act),aK σ (TD.aE (lk h) a) act->aK σ (TD.aE (lk h') a') act:=by
 unfold KJ at k;split at k
 .exact⟨_,_,k,rfl,eL.refl _,λ_ _ r=>r⟩
 .rename_i g
  cases g with
  |done t=>exact Zxb k
  |fresh t i=>exact Zuw k
  |bM t yM T e=>exact ZGH k
  |gK t=>exact ZBH k
  |gL t=>exact ZBI k
  |fD t i=>
   obtain⟨a1,h1,k,l1,g1,r1⟩:=Zuw (K:=λa h=>sY t a h K) k;obtain⟨a2,h2,k,l2,g2,r2⟩:=Zxb k
   exact⟨a2,h2,k,l2.trans l1,g1.trans g2,λσ act r=>r2 σ act (r1 σ act r)⟩
  |flat t=>exact ZGK k
  |jC t i ks=>exact ZBJ k
end
end Go.Ev
end
section
namespace Go.Ev
section
variable{P:yg}
theorem ZGL{x y:Code}{ts ts1 ts2:yL Dv}{H H1 H2:yL ay}{ex:Ex}(r1:Vd P x ts H .normal ts1 H1)(r2:Vd P y ts1 H1 ex ts2 H2):Vd P (.seq x y) ts H ex ts2 H2:=by
 intro σ a ok hH yK;refine wp_seq (wp_mono (r1 σ a ok hH yK) ?_);rintro e a' w' ⟨rfl,σ1,rfl,e1,to1,ok1,hrep1⟩;refine wp_mono (r2 σ1 a' ok1 e1 hrep1) ?_;rintro e a'' w'' ⟨rfl,σ2,rfl,e2,to2,ok2,hrep2⟩;exact⟨rfl,σ2,rfl,e2,to1.trans to2,ok2,hrep2⟩
theorem ZCX{x y:Code}{ts ts1:yL Dv}{H H1:yL ay}{ex:Ex}(hne:ex≠ .normal)(r1:Vd P x ts H ex ts1 H1):Vd P (.seq x y) ts H ex ts1 H1:=by
 intro σ a ok hH yK;refine wp_seq (wp_mono (r1 σ a ok hH yK) ?_);rintro e a' w' ⟨rfl,hq⟩
 cases ex with
 |normal=>exact absurd rfl hne
 |exit id=>exact⟨rfl,hq⟩
 |ret=>exact⟨rfl,hq⟩
theorem wX{c:Operand}{x y:Code}{ts ts1:yL Dv}{H H1:yL ay}{ex:Ex}{b:Bool}(hc:ZB P ts 0 c=.p (.bool b))(r1:Vd P (if b then x else y) ts H ex ts1 H1):Vd P (.cond c x y) ts H ex ts1 H1:=by
 intro σ a ok hH yK;have hv:=Zs (P:=P) yK 0 c;rw[hc]at hv;cases b
 .exact wp_cond_false (Y5 hv) (r1 σ a ok hH yK)
 .exact wp_cond_true (Y5 hv) (r1 σ a ok hH yK)
def KK(id:Nat):Ex->Ex
 |.exit i=>if i=id then .normal else .exit i
 |ex=>ex
theorem ZIK{id:Nat}{body:Code}{ts ts1:yL Dv}{H H1:yL ay}{ex:Ex}(r1:Vd P body ts H ex ts1 H1):Vd P (.block id body) ts H (KK id ex) ts1 H1:=by
 intro σ a ok hH yK;refine wp_block (wp_mono (r1 σ a ok hH yK) ?_);rintro e a' w' ⟨rfl,hq⟩
 cases ex with
 |normal=>exact⟨rfl,hq⟩
 |exit id'=>
  simp only[Ex.to,Exit.inBlock,KK];split
  .exact⟨rfl,hq⟩
  .exact⟨rfl,hq⟩
 |ret=>exact⟨rfl,hq⟩
theorem ZIL{body:Code}{ts ts1:yL Dv}{H H1:yL ay}{ex:Ex}(r1:Vd P body ts H ex ts1 H1):Vd P (.scope body) ts H ex ts1 H1:=by
 intro σ a ok hH yK;refine wp_scope_straight (wp_mono (r1 σ a ok hH yK) ?_);rintro e a' w' ⟨rfl,hq⟩;cases ex <;> exact⟨rfl,hq⟩
theorem ZLN{ts:yL Dv}{H:yL ay}:Vd P .skip ts H .normal ts H:=λσ a ok hH yK=>wp_skip ⟨rfl,σ,rfl,hH,To.refl σ,ok,yK⟩
theorem ZIM{n:Nat}{ts:yL Dv}{H:yL ay}:Vd P (.label n) ts H .normal ts H:=λσ a ok hH yK=>wp_label ⟨rfl,σ,rfl,hH,To.refl σ,ok,yK⟩
theorem ZLO{n:Nat}{ts:yL Dv}{H:yL ay}:Vd P (.exit n) ts H (.exit n) ts H:=λσ a ok hH yK=>wp_exit ⟨rfl,σ,rfl,hH,To.refl σ,ok,yK⟩
theorem ZN7{ts:yL Dv}{H:yL ay}:Vd P .ret ts H .ret ts H:=λσ a ok hH yK=>wp_ret ⟨rfl,σ,rfl,hH,To.refl σ,ok,yK⟩
theorem ZLP{c:Code}{ts ts1:yL Dv}{H H1:yL ay}{ex:Ex}(keep:yL Nat)(r:Vd P c ts H ex ts1 H1):Vd P c ts H ex (ZS keep 0 ts1) H1:=by
 intro σ a ok hH yK;refine wp_mono (r σ a ok hH yK) ?_;rintro e a' w' ⟨rfl,σ1,rfl,e1,to1,ok1,hrep1⟩;exact⟨rfl,σ1,rfl,e1,to1,ok1,rI keep hrep1⟩
def sZ(n0:Nat)(sl:bV)(es:yL bf)(a:yL TD)(h:yL ak):yO (yL TV):=
 if once (yu n0++[]) then(Vn h (yu n0++[]) (yu n0++[])).bind λh2=>(TD.bt (aV (yu n0++[])) (hU (sl.map (·.1)) 0 a)).bind λa2=>
  (Sh.cX (lk h2) (pt sl a.length) a2).bind λq=>(bf.cX (lk h2) es h2).bind λw=>ab (q.2++w.2)
 else ae
theorem ZIN{n0:Nat}{sl:bV}{es:yL bf}{a:yL TD}{h:yL ak}{vs:yL TV}(k:sZ n0 sl es a h=ab vs):
 ∃a3 h3,QQ a.length sl es vs=ab (a3,h3)/\∀{c:Code}{ts:yL Dv}{H:yL ay}{ex:Ex},H.length=n0->Vd P c ts H ex (TD.aE (lk h) a) (aG h)->Vd P c ts H ex (TD.aE (lk h3) a3) (aG h3):=by
 unfold sZ at k;split at k
 .rename_i ho;obtain⟨h2,h1,k⟩:=yf.1 k;obtain⟨a2,e2,k⟩:=yf.1 k;obtain⟨q,e3,k⟩:=yf.1 k;obtain⟨w,e4,k⟩:=yf.1 k;cases k;obtain⟨g1,g2⟩:=pq e4;have hc:∀id t,Yg (lk h2) id t ae=Yg (lk w.1) id t ae:=λid t=>by rw[g2]
  refine⟨q.1,w.1, ?_,λ{c ts H ex}hl r=> ?_⟩
  .unfold QQ;rw[bH _ _ _ e3];have:=nY e4 [];grind
  .have r1:=ZLP (sl.map (·.1)) r;rw[<-wO]at r1;have r2:=ZLs [] [] r1 (by rw[hl];exact ho) (by rw[hl];exact W9 (fp h1) h1) (by rw[hl];exact cJ (fp h1) _ _ e2);exact ZCA r2 (cB hc _ _ _ e3) (pr hc e4)
 .cases k
theorem ZIO{n0:Nat}{sl:bV}{es:yL bf}{a:yL TD}{h:yL ak}{vs:yL TV}(hn:h.length=n0)(k:sZ n0 sl es a h=ab vs):
 ∃a3 h3,QQ a.length sl es vs=ab (a3,h3)/\∀(σ:Sg)(act:Act),Ok σ->σ.H=aG h->aK σ (TD.aE (lk h) a) act->∃σ':Sg,σ'.w=σ.w/\σ'.H=aG h3/\To σ σ'/\Ok σ'/\aK σ' (TD.aE (lk h3) a3) act:=by
 subst hn;unfold sZ at k;split at k
 .rename_i ho;obtain⟨h2,h1,k⟩:=yf.1 k;obtain⟨a2,e2,k⟩:=yf.1 k;obtain⟨q,e3,k⟩:=yf.1 k;obtain⟨w,e4,k⟩:=yf.1 k;cases k;obtain⟨g1,g2⟩:=pq e4;have hc:∀id t,Yg (lk h2) id t ae=Yg (lk w.1) id t ae:=λid t=>by rw[g2]
  refine⟨q.1,w.1, ?_,λσ act ok hH yK=> ?_⟩
  .unfold QQ;rw[bH _ _ _ e3];have:=nY e4 [];grind
  .have r1:=rI (sl.map (·.1)) yK;rw[<-wO]at r1
   have hin:aJ σ.H (yu σ.H.length++[]) (yu σ.H.length++[])=ab (aG h2):=by
    rw[hH,ZQ];exact W9 (fp h1) h1
   have ho':once (yu σ.H.length++[])=af:=by rw[hH,ZQ];exact ho
   have e2':Dv.bt (aV (yu σ.H.length++[])) (TD.aE (lk h) (hU (sl.map (·.1)) 0 a))=ab (TD.aE (lk h2) a2):=by
    rw[hH,ZQ];exact cJ (fp h1) _ _ e2
   have r2:=ZFZ (nI hin) e2' r1;have to1:=vH ok (To.refl σ) ho' hin;have ok1:=vG ok ho' hin;obtain⟨to2,ok2⟩:=jY (σ:=kh σ (yu σ.H.length++[]) (aG h2)) ok1 (H':=aG w.1) (pr hc e4);exact⟨{ kh σ (yu σ.H.length++[]) (aG h2) with H:=aG w.1},rfl,rfl,to1.trans to2,ok2,(cB hc _ _ _ e3).rm (r2.to to2.leaf)⟩
 .cases k
def KL(L:Lk):bf->ak->yO ak
 |.aY _ _ _ _,.bR u np v st e pre mid post=>(JH L u mid).map λy=>.aY u np v st e (pre++[y]) post
 |_,x=>ab x
def ta(L:Lk):yL bf->yL ak->yO (yL ak)
 |[],h=>ab h
 |_::_,[]=>ab []
 |s::r,x::h=>match KL L s x,ta L r h with
  |some y,ab ys=>ab (y::ys)
  |_,_=>ae
theorem ZQB{L:Lk}{s:bf}{x y:ak}(h:KL L s x=ab y):dt (ab y)=dt (ab x)/\ez (x.er L) (y.er L):=by
 unfold KL at h;split at h
 .rename_i u np v st e pre mid post;obtain⟨c,h1,rfl⟩:=Zd h;refine⟨?_,ZJ8 (ZJ5 h1)⟩;simp only[dt,yl,yam,List.length_nil];grind
 .cases h;exact⟨rfl,.refl _⟩
theorem ZKh{L:Lk}:∀{es:yL bf}{h h':yL ak},ta L es h=ab h'->h'.length=h.length/\(∀j:Nat,dt (h'[j]?)=dt (h[j]?))/\cg (h.map (ak.er L)) (h'.map (ak.er L))
 |[],h,h',k=>by cases k;exact⟨rfl,λ_=>rfl,cg.refl _⟩
 |_::_,[],h',k=>by cases k;exact⟨rfl,λ_=>rfl,cg.refl _⟩
 |s::r,x::h,h',k=>by
  simp only[ta]at k;split at k
  .rename_i y ys h1 h2;cases k;obtain⟨a1,a2⟩:=ZQB h1;obtain⟨b1,b2,b3⟩:=ZKh h2;refine⟨by simp[b1],λj=> ?_,.cons a2 b3⟩;grind
  .cases k
theorem ZKi{es:yL bf}{h h':yL ak}(k:ta (lk h) es h=ab h'):h'.length=h.length/\lk h'=lk h/\cg (aG h) (aG h'):=by
 obtain⟨a,b,c⟩:=ZKh k;have e:lk h'=lk h:=funext b;refine⟨a,e, ?_⟩;unfold aG;rw[e];exact c
def td(n0:Nat)(sl:bV)(es:yL bf)(a:yL TD)(h:yL ak):yO (yL TV):=(ta (lk h) es h).bind λh=>sZ n0 sl es a h
theorem ZLQ{n0:Nat}{sl:bV}{es:yL bf}{a:yL TD}{h:yL ak}{vs:yL TV}(k:td n0 sl es a h=ab vs):
 ∃a3 h3,QQ a.length sl es vs=ab (a3,h3)/\∀{c:Code}{ts:yL Dv}{H:yL ay}{ex:Ex},H.length=n0->Vd P c ts H ex (TD.aE (lk h) a) (aG h)->Vd P c ts H ex (TD.aE (lk h3) a3) (aG h3):=by
 obtain⟨h1,k1,k2⟩:=yf.1 k;obtain⟨e1,e2,e3⟩:=ZKi k1;obtain⟨a3,h3,g1,g2⟩:=ZIN (P:=P) k2;refine⟨a3,h3,g1,λhl r=>g2 hl ?_⟩;rw[e2];exact ZCA r (cF.refl _) e3
theorem ZCY{n0:Nat}{sl:bV}{es:yL bf}{a:yL TD}{h:yL ak}{vs:yL TV}(hn:h.length=n0)(k:td n0 sl es a h=ab vs):
 ∃a3 h3,QQ a.length sl es vs=ab (a3,h3)/\∀(σ:Sg)(act:Act),Ok σ->σ.H=aG h->aK σ (TD.aE (lk h) a) act->∃σ':Sg,σ'.w=σ.w/\σ'.H=aG h3/\To σ σ'/\Ok σ'/\aK σ' (TD.aE (lk h3) a3) act:=by
 obtain⟨h1,k1,k2⟩:=yf.1 k;obtain⟨e1,e2,e3⟩:=ZKi k1;obtain⟨a3,h3,g1,g2⟩:=ZIO (by rw[e1];exact hn) k2;refine⟨a3,h3,g1,λσ act ok hH hr=> ?_⟩;obtain⟨to,ok'⟩:=jY ok (H':=aG h1) (by rw[hH];exact e3);obtain⟨σ2,q1,q2,q3,q4,q5⟩:=g2 { σ with H:=aG h1} act ok' rfl (by rw[e2];exact hr.to to.leaf);exact⟨σ2,q1,q2,to.trans q3,q4,q5⟩
structure Lp where
 sl:bV
 es:List bf
 I:List Ty
 xs:List bD
 L:Ty.aH I->Option (bD.sum xs)
def Lp.Is(P:yg)(n:Nat)(c:Code)(lp:Lp):Prop:=
 ∀v o,lp.L v=ab o->∀s,QQ n lp.sl lp.es (dz lp.I v)=ab s->∀e vs s',mz lp.xs o e vs->QQ n e.sl e.es vs=ab s'->
  Vd P c (TD.aE (lk s.2) s.1) (aG s.2) e.ex (TD.aE (lk s'.2) s'.1) (aG s'.2)
abbrev Lp.Ok(P:yg)(n:Nat)(body:Code)(lp:Lp):Prop:=lp.Is P n (.loop body)
structure FI where
 hi:HI:={}
 lp:List (Nat×Lp):=[]
 bk:List (Nat×Lp):=[]
 gh:List (Nat×kl):=[]
 un:Nat:=0
def Code.nl:Code->Nat
 |.seq a b=>Code.nl a+Code.nl b
 |.cond _ a b=>Code.nl a+Code.nl b
 |.block _ a=>Code.nl a
 |.scope a=>Code.nl a
 |.loop a=>Code.nl a+1
 |_=>0
def Code.ns:Code->Nat
 |.seq a b=>Code.ns a+Code.ns b+1
 |.cond _ a b=>Code.ns a+Code.ns b
 |.block _ a=>Code.ns a
 |.scope a=>Code.ns a
 |.loop a=>Code.ns a
 |_=>0
theorem lm:∀c:Code,(ZF c).length=Code.nl c
 |.seq a b=>by simp only[ZF,yl,lm a,lm b,Code.nl]
 |.cond _ a b=>by simp only[ZF,yl,lm a,lm b,Code.nl]
 |.block _ a=>by simp only[ZF,lm a,Code.nl]
 |.scope a=>by simp only[ZF,lm a,Code.nl]
 |.loop a=>by simp only[ZF,yam,lm a,Code.nl]
 |.skip=>rfl
 |.region _ _ _=>rfl
 |.rangeFunc _ _ _ _=>rfl
 |.exit _=>rfl
 |.ret=>rfl
 |.label _=>rfl
 |.goto _=>rfl
 |.refuse _=>rfl
def wY{O:Type}(step:yL TD->yL ak->Kc O->yO O):Nat->yL TD->yL ak->Kc O->yO O
 |0,_,_,_=>ae
 |k+1,a,h,K=>step a h λex a' h'=>match ex with
  |.normal=>wY step k a' h' K
  |ex=>K ex a' h'
theorem Zxc{O:Type}{body:Code}{N:Nat}{step:yL TD->yL ak->Kc O->yO O}
 (hs:∀(a:yL TD)(h:yL ak)(K:Kc O)(out:O),a.length=N->step a h K=ab out->∃ex a' h',K ex a' h'=ab out/\a'.length=N/\Vd P body (TD.aE (lk h) a) (aG h) ex (TD.aE (lk h') a') (aG h')):
 ∀(k:Nat)(a:yL TD)(h:yL ak)(K:Kc O)(out:O),a.length=N->wY step k a h K=ab out->∃ex a' h',K ex a' h'=ab out/\a'.length=N/\oY P body (TD.aE (lk h) a) (aG h) ex (TD.aE (lk h') a') (aG h')
 |0,_,_,_,_,_,k=>by cases k
 |n+1,a,h,K,out,hN,k=>by
  unfold wY at k;obtain⟨ex,a1,h1,k1,k2,k3⟩:=hs _ _ _ _ hN k;split at k1
  .obtain⟨ex2,a2,h2,k4,k5,k6⟩:=Zxc hs n a1 h1 K out k2 k1;exact⟨ex2,a2,h2,k4,k5,ZCx [] k3 k6⟩
  .rename_i hne;exact⟨_,a1,h1,k1,k2,ZCw hne k3⟩
def pE(m:Nat)(a:yL TD)(h:yL ak):yL (Nat×Lp)->yO (Σ bk:Lp,Ty.aH bk.I)
 |[]=>ae
 |q::r=>if Nat.beq q.1 m=af then match (td h.length q.2.sl q.2.es a h).bind (hJ q.2.I) with
   |some v=>ab ⟨q.2,v⟩
   |none=>pE m a h r
  else pE m a h r
theorem wZ{m:Nat}{a:yL TD}{h:yL ak}{b:Σ bk:Lp,Ty.aH bk.I}:∀{l:yL (Nat×Lp)},pE m a h l=ab b->(m,b.1)∈l/\∃vs,td h.length b.1.sl b.1.es a h=ab vs/\hJ b.1.I vs=ab b.2
 |[],k=>by cases k
 |q::r,k=>by
  unfold pE at k;split at k
  .rename_i hm;split at k
   .rename_i v hv;cases k;have e:=Nat.eq_of_beq_eq_true hm;refine⟨?_,yf.1 hv⟩;grind
   .obtain⟨h1,h2⟩:=wZ k;grind
  .obtain⟨h1,h2⟩:=wZ k;grind
def fk{O:Type}(P:yg)(fi:FI)(aB:Sp P):Code->Nat->Nat->yL TD->yL ak->Kc O->yO O
 |.skip,_,_,a,h,K=>K .normal a h
 |.label _,_,_,a,h,K=>K .normal a h
 |.region _ ops draw,_,_,a,h,K=>if draw=af then KC P fi.hi aB ops a h λa' h'=>K .normal a' h' else sS P fi.hi aB ops ops.toList a h λa' h' _=>K .normal a' h'
 |.seq x y,n,m,a,h,K=>KJ (fi.gh.lookup m) a h λa h=>match pE m a h fi.bk with
  |none=>fk P fi aB x n (m+1) a h λex a' h'=>match ex with
   |.normal=>fk P fi aB y (n+Code.nl x) (m+1+Code.ns x) a' h' K
   |ex=>K ex a' h'
  |some bk=>(bk.1.L bk.2).bind λo=>xT a.length bk.1.xs o λex a' h'=>match ex with
   |.normal=>fk P fi aB y (n+Code.nl x) (m+1+Code.ns x) a' h' K
   |ex=>K ex a' h'
 |.cond c x y,n,m,a,h,K=>((bo P a 0 c).bind TD.boolT).bind λb=>match c with
  |.tmp t=>if b=af then fk P fi aB x n m (a.set t (kj af)) h K else fk P fi aB y (n+Code.nl x) (m+Code.ns x) (a.set t (kj ag)) h K
  |_=>if b=af then fk P fi aB x n m a h K else fk P fi aB y (n+Code.nl x) (m+Code.ns x) a h K
 |.block id body,n,m,a,h,K=>fk P fi aB body n m a h λex a' h'=>K (KK id ex) a' h'
 |.loop body,n,m,a,h,K=>match pE n a h fi.lp with
  |some lp=>(lp.1.L lp.2).bind λo=>xT a.length lp.1.xs o K
  |none=>wY (λa h K=>fk P fi aB body (n+1) m a h K) fi.un a h K
 |.scope body,n,m,a,h,K=>fk P fi aB body n m a h K
 |.exit id,_,_,a,h,K=>K (.exit id) a h
 |.ret,_,_,a,h,K=>K .ret a h
 |_,_,_,_,_,_=>ae
def Vo:Code->yL Code
 |.seq a b=>a::(Vo a++Vo b)
 |.cond _ a b=>Vo a++Vo b
 |.block _ a=>Vo a
 |.scope a=>Vo a
 |.loop a=>Vo a
 |_=>[]
theorem jE:∀c:Code,(Vo c).length=Code.ns c
 |.seq a b=>by simp only[Vo,yam,yl,jE a,jE b,Code.ns]
 |.cond _ a b=>by simp only[Vo,yl,jE a,jE b,Code.ns]
 |.block _ a=>by simp only[Vo,jE a,Code.ns]
 |.scope a=>by simp only[Vo,jE a,Code.ns]
 |.loop a=>by simp only[Vo,jE a,Code.ns]
 |.skip=>rfl
 |.region _ _ _=>rfl
 |.rangeFunc _ _ _ _=>rfl
 |.exit _=>rfl
 |.ret=>rfl
 |.label _=>rfl
 |.goto _=>rfl
 |.refuse _=>rfl
def iU(P:yg)(fi:FI)(N:Nat)(c:Code)(m:Nat):Prop:=∀(k:Nat)(x:Code),(Vo c)[k]? =ab x->∀bk,(m+k,bk)∈fi.bk->bk.Is P N x
theorem ZOa{fi:FI}{N:Nat}{x y c:Code}{m:Nat}(e:Vo c=Vo x++Vo y)(h:iU P fi N c m):iU P fi N x m:=λk b hk=>h k b (by
 rw[e,ybe (yo.1 hk).1];exact hk)
theorem ZLR{fi:FI}{N:Nat}{x y c:Code}{m:Nat}(e:Vo c=Vo x++Vo y)(h:iU P fi N c m):iU P fi N y (m+Code.ns x):=λk b hk lp hl=>h (Code.ns x+k) b (by
 rw[e,yaq (by rw[jE];omega),jE];rw[show Code.ns x+k - Code.ns x=k by omega];exact hk) lp (by rw[<-Nat.add_assoc];exact hl)
theorem ZOb{fi:FI}{N:Nat}{x y:Code}{m:Nat}(h:iU P fi N (.seq x y) m):iU P fi N x (m+1):=λk b hk lp hl=>h (k+1) b (by
 rw[Vo,yay,ybe (yo.1 hk).1];exact hk) lp (by rw[show m+(k+1)=m+1+k by omega];exact hl)
theorem ZGN{fi:FI}{N:Nat}{x y:Code}{m:Nat}(h:iU P fi N (.seq x y) m):iU P fi N y (m+1+Code.ns x):=λk b hk lp hl=>h (Code.ns x+k+1) b (by
 rw[Vo,yay,yaq (by rw[jE];omega),jE];rw[show Code.ns x+k - Code.ns x=k by omega];exact hk) lp (by rw[show m+(Code.ns x+k+1)=m+1+Code.ns x+k by omega];exact hl)
def jF(P:yg)(fi:FI)(N:Nat)(c:Code)(n:Nat):Prop:=∀(k:Nat)(b:Code),(ZF c)[k]? =ab (.loop b)->∀lp,(n+k,lp)∈fi.lp->lp.Ok P N b
theorem ZGO{fi:FI}{N:Nat}{x y c:Code}{n:Nat}(e:ZF c=ZF x++ZF y)(h:jF P fi N c n):jF P fi N x n:=λk b hk=>h k b (by
 rw[e,ybe (yo.1 hk).1];exact hk)
theorem ZCZ{fi:FI}{N:Nat}{x y c:Code}{n:Nat}(e:ZF c=ZF x++ZF y)(h:jF P fi N c n):jF P fi N y (n+Code.nl x):=λk b hk lp hl=>h (Code.nl x+k) b (by
 rw[e,yaq (by rw[lm];omega),lm];rw[show Code.nl x+k - Code.nl x=k by omega];exact hk) lp (by rw[<-Nat.add_assoc];exact hl)
theorem Vp{O:Type}{fi:FI}{aB:Sp P}{out:O}{N:Nat}(ok:dp aB):∀(c:Code)(n m:Nat)(a:yL TD)(h:yL ak)(K:Kc O),a.length=N->jF P fi N c n->iU P fi N c m->fk P fi aB c n m a h K=ab out->
 ∃ex a' h',K ex a' h'=ab out/\a'.length=N/\Vd P c (TD.aE (lk h) a) (aG h) ex (TD.aE (lk h') a') (aG h')
 |.skip,n,m,a,h,K,hN,hl,hb0,k=>⟨_,_,_,k,hN,ZLN⟩
 |.label _,n,m,a,h,K,hN,hl,hb0,k=>⟨_,_,_,k,hN,ZIM⟩
 |.exit _,n,m,a,h,K,hN,hl,hb0,k=>⟨_,_,_,k,hN,ZLO⟩
 |.ret,n,m,a,h,K,hN,hl,hb0,k=>⟨_,_,_,k,hN,ZN7⟩
 |.region id ops draw,n,m,a,h,K,hN,hl,hb0,k=>by
  unfold fk at k
  cases draw with
  |true=>
   rw[yW rfl]at k;obtain⟨a',h',k1,k2,k3⟩:=ZLJ ok k
   exact⟨_,_,_,k1,by rw[k2,hN],k3 id⟩
  |false=>
   rw[yX (by decide)]at k;obtain⟨a',h',hs,k1,k2,k3⟩:=ZLK ok k
   exact⟨_,_,_,k1,by rw[k2,hN],k3 id⟩
 |.seq x y,n,m,a,h,K,hN,hl,hb0,k=>by
  have hx:=ZGO (x:=x) (y:=y) rfl hl;have hy:=ZCZ (x:=x) (y:=y) rfl hl;unfold fk at k;obtain⟨a0,h0,k,hN0,eJ⟩:=ZN6 k;rw[hN]at hN0
  suffices key:∃ex a' h',K ex a' h'=ab out/\a'.length=N/\Vd P (.seq x y) (TD.aE (lk h0) a0) (aG h0) ex (TD.aE (lk h') a') (aG h') by
   obtain⟨ex,a',h',g1,g2,g3⟩:=key;exact⟨ex,a',h',g1,g2,ZQw eJ g3⟩
  clear eJ;have hN:=hN0;clear hN0;split at k
  .obtain⟨ex,a1,h1,k1,k2,k3⟩:=Vp ok x _ _ _ _ _ hN hx (ZOb hb0) k;split at k1
   .obtain⟨ex2,a2,h2,k4,k5,k6⟩:=Vp ok y _ _ _ _ _ k2 hy (ZGN hb0) k1;exact⟨_,_,_,k4,k5,ZGL k3 k6⟩
   .rename_i hne;exact⟨_,_,_,k1,k2,ZCX hne k3⟩
  .rename_i bkv hbk;obtain⟨bk,v⟩:=bkv;obtain⟨hbk,vs,j1,j2⟩:=wZ hbk;dsimp only at hbk j1 j2 k;obtain⟨o,j3,k⟩:=yf.1 k;obtain⟨e,vs',s,g1,g2,g3⟩:=sI k;obtain⟨a3,h3,j4,j5⟩:=ZCY rfl j1;have hok:=hb0 0 x rfl bk (by rw[ybu];exact hbk);rw[hN]at g2 j4;have e1:=jw _ _ _ j2;have r:=hok v o j3 (a3,h3) (by rw[e1];exact j4) e vs' s g1 g2
   have k3:Vd P x (TD.aE (lk h0) a0) (aG h0) e.ex (TD.aE (lk s.2) s.1) (aG s.2):=by
    intro σ act okσ hH yK;obtain⟨σ1,p1,p2,p3,p4,p5⟩:=j5 σ act okσ hH yK;rw[<-p1];refine wp_mono (r σ1 act p4 p2 p5) ?_;rintro e' a' w' ⟨rfl,σ2,q1,q2,q3,q4,q5⟩;exact⟨rfl,σ2,q1,q2,p3.trans q3,q4,q5⟩
   split at g3
   .rename_i he;rw[he]at k3;obtain⟨ex2,a2,h2,k4,k5,k6⟩:=Vp ok y _ _ _ _ _ (sH g2) hy (ZGN hb0) g3;exact⟨_,_,_,k4,k5,ZGL k3 k6⟩
   .rename_i hne
    exact⟨_,_,_,g3,sH g2,ZCX hne k3⟩
 |.cond c x y,n,m,a,h,K,hN,hl,hb0,k=>by
  have hx:=ZGO (x:=x) (y:=y) rfl hl;have hy:=ZCZ (x:=x) (y:=y) rfl hl;have bx:=ZOa (x:=x) (y:=y) rfl hb0;have bY:=ZLR (x:=x) (y:=y) rfl hb0;unfold fk at k;obtain⟨b,k0,k⟩:=yf.1 k;obtain⟨d,k00,k01⟩:=yf.1 k0;have hc:=Zz (L:=lk h) k00;rw[pi k01]at hc;split at k
  .rename_i t;cases k00;have e:=ZGD k01;split at k
   .rename_i hb;subst hb;rw[bq e]at k;obtain⟨ex,a1,h1,k1,k2,k3⟩:=Vp ok x _ _ _ _ _ hN hx bx k;exact⟨_,_,_,k1,k2,wX hc k3⟩
   .rename_i hb;have hb:b=ag:=by simpa using hb
    subst hb;rw[bq e]at k;obtain⟨ex,a1,h1,k1,k2,k3⟩:=Vp ok y _ _ _ _ _ hN hy bY k;exact⟨_,_,_,k1,k2,wX hc k3⟩
  .split at k
   .rename_i hb;subst hb;obtain⟨ex,a1,h1,k1,k2,k3⟩:=Vp ok x _ _ _ _ _ hN hx bx k;exact⟨_,_,_,k1,k2,wX hc k3⟩
   .rename_i hb;have hb:b=ag:=by simpa using hb
    subst hb;obtain⟨ex,a1,h1,k1,k2,k3⟩:=Vp ok y _ _ _ _ _ hN hy bY k
    exact⟨_,_,_,k1,k2,wX hc k3⟩
 |.block id body,n,m,a,h,K,hN,hl,hb0,k=>by
  unfold fk at k;obtain⟨ex,a1,h1,k1,k2,k3⟩:=Vp ok body _ _ _ _ _ hN hl hb0 k
  exact⟨_,_,_,k1,k2,ZIK k3⟩
 |.scope body,n,m,a,h,K,hN,hl,hb0,k=>by
  unfold fk at k;obtain⟨ex,a1,h1,k1,k2,k3⟩:=Vp ok body _ _ _ _ _ hN hl hb0 k
  exact⟨_,_,_,k1,k2,ZIL k3⟩
 |.loop body,n,m,a,h,K,hN,hl,hb0,k=>by
  unfold fk at k;split at k
  .rename_i lpv hlp;obtain⟨lp,v⟩:=lpv;obtain⟨hlp,vs,j1,j2⟩:=wZ hlp;dsimp only at hlp j1 j2 k;obtain⟨o,j3,k⟩:=yf.1 k;obtain⟨e,vs',s,g1,g2,g3⟩:=sI k;obtain⟨a3,h3,j4,j5⟩:=ZCY rfl j1;have hok:=hl 0 body rfl lp (by rw[ybu];exact hlp);rw[hN]at g2 j4;have e1:=jw _ _ _ j2;have r:=hok v o j3 (a3,h3) (by rw[e1];exact j4) e vs' s g1 g2;refine⟨_,_,_,g3,sH g2, ?_⟩;intro σ act okσ hH yK;obtain⟨σ1,p1,p2,p3,p4,p5⟩:=j5 σ act okσ hH yK;rw[<-p1];refine wp_mono (r σ1 act p4 p2 p5) ?_;rintro e' a' w' ⟨rfl,σ2,q1,q2,q3,q4,q5⟩;exact⟨rfl,σ2,q1,q2,p3.trans q3,q4,q5⟩
  .have hl1:jF P fi N body (n+1):=λk b hk lp hl2=>hl (k+1) b (by rw[ZF,yay];exact hk) lp (by rw[show n+(k+1)=n+1+k by omega];exact hl2);obtain⟨ex,a1,h1,k1,k2,k3⟩:=Zxc (λa h K out hN k=>Vp ok body _ _ _ _ K hN hl1 hb0 k) _ _ _ _ _ hN k
   exact⟨ex,a1,h1,k1,k2,ZCy k3⟩
 |.rangeFunc _ _ _ _,_,_,_,_,_,_,_,_,k=>by cases k
 |.goto _,_,_,_,_,_,_,_,_,k=>by cases k
 |.refuse _,_,_,_,_,_,_,_,_,k=>by cases k
def pF(n0:Nat)(sl:bV)(es:yL bf)(a:yL TD)(h:yL ak):yO (yL TV):=td n0 sl es a h
theorem KM{n0:Nat}{sl:bV}{es:yL bf}{a:yL TD}{h:yL ak}{vs:yL TV}(k:pF n0 sl es a h=ab vs):
 ∃a3 h3,QQ a.length sl es vs=ab (a3,h3)/\∀{c:Code}{ts:yL Dv}{H:yL ay}{ex:Ex},H.length=n0->Vd P c ts H ex (TD.aE (lk h) a) (aG h)->Vd P c ts H ex (TD.aE (lk h3) a3) (aG h3):=ZLQ k
end
end Go.Ev
end
section
namespace Go.Ev
def Zb{I X:Type}(step:I->yO (I⊕X)):Nat->I->yO X
 |0,_=>ae
 |n+1,i=>(step i).bind λr=>match r with
  |.inl j=>Zb step n j
  |.inr x=>ab x
theorem ZOc:∃n:Nat,n=18446744073709551616:=⟨_,rfl⟩
noncomputable def yD:Nat:=Classical.choose ZOc
theorem lr:yD=18446744073709551616:=Classical.choose_spec ZOc
section
variable{P:yg}
def te(n0:Nat)(ex:Ex)(a:yL TD)(h:yL ak):(l:yL bD)->yO (bD.sum l)
 |[]=>ae
 |[e]=>if ex=e.ex then(pF n0 e.sl e.es a h).bind λvs=>hJ e.ty vs else ae
 |e::f::r=>match (if ex=e.ex then(pF n0 e.sl e.es a h).bind λvs=>hJ e.ty vs else ae) with
  |some x=>ab (Sum.inl x:Ty.aH e.ty⊕bD.sum (f::r))
  |none=>(te n0 ex a h (f::r)).map λx=>(Sum.inr x:Ty.aH e.ty⊕bD.sum (f::r))
theorem KN{n0:Nat}{ex:Ex}{a:yL TD}{h:yL ak}:∀{l:yL bD}{o:bD.sum l},te n0 ex a h l=ab o->∀e vs,mz l o e vs->ex=e.ex/\pF n0 e.sl e.es a h=ab vs
 |[],_,k,_,_,_=>by cases k
 |[e],o,k,x,vs,hs=>by
  obtain⟨rfl,rfl⟩:=hs;have k:(if ex=x.ex then(pF n0 x.sl x.es a h).bind λvs=>hJ x.ty vs else ae)=ab o:=k
  split at k
  .rename_i he;obtain⟨ws,h1,h2⟩:=yf.1 k;exact⟨he,by rw[h1,jw _ _ _ h2]⟩
  .cases k
 |e::f::r,o,k,x,vs,hs=>by
  simp only[te]at k;split at k
  .rename_i y hy;cases k;obtain⟨rfl,rfl⟩:=hs;split at hy
   .rename_i he;obtain⟨ws,h1,h2⟩:=yf.1 hy;exact⟨he,by rw[h1,jw _ _ _ h2]⟩
   .cases hy
  .obtain⟨y,h1,h2⟩:=Zd k;subst h2;exact KN h1 x vs hs
def pG(P:yg)(fi:FI)(aB:Sp P)(body:Code)(n N:Nat)(sl:bV)(es:yL bf)(I:yL Ty)(xs:yL bD):Ty.aH I->yO (Ty.aH I⊕bD.sum xs):=λv=>
 (QQ N sl es (dz I v)).bind λs=>fk P fi aB body (n+1) 0 s.1 s.2 λex a h=>match ex with
   |.normal=>(pF s.2.length sl es a h).bind λvs=>(hJ I vs).map .inl
   |ex=>(te s.2.length ex a h xs).map .inr
theorem ZOe{fi:FI}{aB:Sp P}{body:Code}{n N:Nat}{sl:bV}{es:yL bf}{I:yL Ty}{xs:yL bD}(ok:dp aB)(hl:jF P fi N body (n+1))(hb0:iU P fi N body 0):
 ∀(f:Nat)(v:Ty.aH I)(o:bD.sum xs),Zb (pG P fi aB body n N sl es I xs) f v=ab o->∀s,QQ N sl es (dz I v)=ab s->∀e vs s',mz xs o e vs->QQ N e.sl e.es vs=ab s'->
  oY P body (TD.aE (lk s.2) s.1) (aG s.2) e.ex (TD.aE (lk s'.2) s'.1) (aG s'.2)
 |0,_,_,h,_,_,_,_,_,_,_=>by cases h
 |f+1,v,o,h,s,hs,e,vs,s',hx,hs'=>by
  unfold Zb at h;obtain⟨r,h1,h2⟩:=yf.1 h;unfold pG at h1;rw[hs,ya]at h1;obtain⟨ex,a,h3,k1,k2,k3⟩:=Vp ok body _ _ _ _ _ (sH hs) hl hb0 h1;split at k1
  .obtain⟨ws,g1,k1⟩:=yf.1 k1;obtain⟨w,g2,rfl⟩:=Zd k1;obtain⟨a3,h4,g3,g4⟩:=KM (P:=P) g1;rw[k2]at g3;have r1:=g4 (ZQ _) k3;have:=ZOe ok hl hb0 f w o h2 (a3,h4) (by rw[jw _ _ _ g2];exact g3) e vs s' hx hs';exact ZCx [] r1 this
  .rename_i hne;obtain⟨w,g2,rfl⟩:=Zd k1;cases h2;obtain⟨g5,g6⟩:=KN g2 e vs hx;obtain⟨a3,h4,g3,g4⟩:=KM (P:=P) g6;rw[k2,hs']at g3;cases g3;subst g5;exact ZCw hne (g4 (ZQ _) k3)
theorem ZT4{fi:FI}{aB:Sp P}{body:Code}{n N:Nat}{sl:bV}{es:yL bf}{I:yL Ty}{xs:yL bD}{step:Ty.aH I->yO (Ty.aH I⊕bD.sum xs)}(f:Nat)(ok:dp aB)(hl:jF P fi N body (n+1))(hb0:iU P fi N body 0)
 (h:∀v,pG P fi aB body n N sl es I xs v=step v):Lp.Ok P N body ⟨sl,es,I,xs,Zb step f⟩:=by
 intro v o hL s hs e vs s' hx hs';have e1:pG P fi aB body n N sl es I xs=step:=funext h;subst e1;exact ZCy (ZOe ok hl hb0 f v o hL s hs e vs s' hx hs')
theorem mF:∀(c:Code)(k:Nat)(b:Code),(ZF c)[k]? =ab (.loop b)->∀j x,(ZF b)[j]? =ab x->(ZF c)[k+1+j]? =ab x
 |.seq x y,k,b,h,j,z,hz=>by
  simp only[ZF]at h ⊢;rcases ych k (ZF x).length with hl|hl
  .rw[ybe hl]at h;have:=mF x k b h j z hz;rw[ybe (yo.1 this).1];exact this
  .rw[yaq hl]at h;have:=mF y _ b h j z hz;rw[yaq (by omega)];rw[show k+1+j - (ZF x).length=k - (ZF x).length+1+j by omega]
   exact this
 |.cond _ x y,k,b,h,j,z,hz=>by
  simp only[ZF]at h ⊢;rcases ych k (ZF x).length with hl|hl
  .rw[ybe hl]at h;have:=mF x k b h j z hz;rw[ybe (yo.1 this).1];exact this
  .rw[yaq hl]at h;have:=mF y _ b h j z hz;rw[yaq (by omega)];rw[show k+1+j - (ZF x).length=k - (ZF x).length+1+j by omega]
   exact this
 |.block _ a,k,b,h,j,z,hz=>mF a k b h j z hz
 |.scope a,k,b,h,j,z,hz=>mF a k b h j z hz
 |.loop a,k,b,h,j,z,hz=>by
  simp only[ZF]at h ⊢
  cases k with
  |zero=>
   simp only[List.getElem?_cons_zero,Option.some.injEq,Code.loop.injEq]at h;subst h;rw[show 0+1+j=j+1 by omega,yay]
   exact hz
  |succ k=>
   rw[yay]at h;rw[show k+1+1+j=(k+1+j)+1 by omega,yay]
   exact mF a k b h j z hz
 |.skip,_,_,h,_,_,_=>by simp[ZF]at h
 |.region _ _ _,_,_,h,_,_,_=>by simp[ZF]at h
 |.rangeFunc _ _ _ _,_,_,h,_,_,_=>by simp[ZF]at h
 |.exit _,_,_,h,_,_,_=>by simp[ZF]at h
 |.ret,_,_,h,_,_,_=>by simp[ZF]at h
 |.label _,_,_,h,_,_,_=>by simp[ZF]at h
 |.goto _,_,_,h,_,_,_=>by simp[ZF]at h
 |.refuse _,_,_,h,_,_,_=>by simp[ZF]at h
def jG(P:yg)(g:yq)(N:Nat):yL (Nat×Lp)->Prop
 |[]=>True
 |q::r=>q.2.Ok P N (iv P g q.1)/\jG P g N r
theorem xa{g:yq}{N:Nat}:∀{l:yL (Nat×Lp)}{n:Nat}{lp:Lp},jG P g N l->(n,lp)∈l->lp.Ok P N (iv P g n)
 |[],_,_,_,h=>by cases h
 |q::r,n,lp,hk,h=>by
  rcases ybo.1 h with h|h
  .subst h;exact hk.1
  .exact xa hk.2 h
def Q1(P:yg)(g:yq):Code:=
 match P.funcs[g]? with
 |some fn=>fn.body.getD .skip
 |none=>.skip
theorem xb{g:yq}{k:Nat}{b:Code}(h:(ZF (Q1 P g))[k]? =ab (.loop b)):iv P g k=b:=by
 unfold iv ZM2;unfold Q1 at h;split at h
 .rename_i fn hf;rw[hf];dsimp only
  cases hb:fn.body with
  |none=>rw[hb]at h;simp[ZF]at h
  |some c=>
   rw[hb]at h;dsimp only[Option.getD]at h ⊢;rw[ycz,h];rfl
 .simp[ZF]at h
theorem ZKj{g:yq}{fi:FI}{N:Nat}(h:jG P g N fi.lp):jF P fi N (Q1 P g) 0:=by
 intro k b hk lp hl;rw[yat]at hl;rw[<-xb hk];exact xa h hl
theorem ZOf{g:yq}{fi:FI}{N k:Nat}(hk:(ZF (Q1 P g))[k]? =ab (.loop (iv P g k)))(h:jG P g N fi.lp):jF P fi N (iv P g k) (k+1):=by
 intro j b hj lp hl;have:=mF _ _ _ hk j _ hj;rw[<-xb this];exact xa h hl
def xc(P:yg)(g k:Nat):Bool:=
 match (ZF (Q1 P g))[k]? with
 |some (.loop _)=>af
 |_=>ag
theorem ZBK{g k:Nat}(h:xc P g k=af):(ZF (Q1 P g))[k]? =ab (.loop (iv P g k)):=by
 unfold xc at h;split at h
 .rename_i b hb;rw[hb,xb hb]
 .cases h
def oi(c:Code)(m:Nat):Code:=((Vo c)[m]?).getD .skip
def oj(P:yg)(N:Nat)(c:Code):yL (Nat×Lp)->Prop
 |[]=>True
 |q::r=>q.2.Is P N (oi c q.1)/\oj P N c r
theorem ZC1{N:Nat}{c:Code}:∀{l:yL (Nat×Lp)}{m:Nat}{bk:Lp},oj P N c l->(m,bk)∈l->bk.Is P N (oi c m)
 |[],_,_,_,h=>by cases h
 |q::r,m,bk,hk,h=>by
  rcases ybo.1 h with h|h
  .subst h;exact hk.1
  .exact ZC1 hk.2 h
theorem xf{fi:FI}{N:Nat}{c:Code}(h:oj P N c fi.bk):iU P fi N c 0:=by
 intro k x hk bk hl;rw[yat]at hl;have:=ZC1 h hl;unfold oi at this;rw[hk]at this;exact this
def KO(P:yg)(fi:FI)(aB:Sp P)(x:Code)(n N:Nat)(sl:bV)(es:yL bf)(I:yL Ty)(xs:yL bD):Ty.aH I->yO (bD.sum xs):=λv=>
 (QQ N sl es (dz I v)).bind λs=>fk P fi aB x n 0 s.1 s.2 λex a h=>te s.2.length ex a h xs
theorem ZSO{fi:FI}{aB:Sp P}{g n N:Nat}{x:Code}{sl:bV}{es:yL bf}{I:yL Ty}{xs:yL bD}{L:Ty.aH I->yO (bD.sum xs)}(ok:dp aB)(hl:jG P g N fi.lp:=by exact True.intro)
 (hx:ZF x=((ZF (Q1 P g)).drop n).take (Code.nl x):=by kernel_rfl) (h:∀v,KO P fi aB x n N sl es I xs v=L v:=by intro v;kernel_rfl) (hb:oj P N x fi.bk:=by exact True.intro):Lp.Is P N x ⟨sl,es,I,xs,L⟩:=by
 intro v o hL s hs e vs s' hsel hs';have hL:L v=ab o:=hL;rw[<-h v]at hL;unfold KO at hL;have hs:QQ N sl es (dz I v)=ab s:=hs;rw[hs,ya]at hL
 have hlps:jF P fi N x n:=by
  intro k b hk lp hlp
  have h1:(ZF (Q1 P g))[n+k]? =ab (.loop b):=by
   rw[hx,List.getElem?_take]at hk;split at hk
   .rw[List.getElem?_drop]at hk;exact hk
   .cases hk
  rw[<-xb h1];exact xa hl hlp
 obtain⟨ex,a,h',k1,k2,k3⟩:=Vp ok x _ _ _ _ _ (sH hs) hlps (xf hb) hL;obtain⟨g5,g6⟩:=KN k1 e vs hsel;obtain⟨a3,h4,g3,g4⟩:=KM (P:=P) g6;have hs':QQ N e.sl e.es vs=ab s':=hs';rw[k2,hs']at g3;cases g3;subst g5;exact g4 (ZQ _) k3
theorem ZKk{fi:FI}{aB:Sp P}{g k N:Nat}{sl:bV}{es:yL bf}{I:yL Ty}{xs:yL bD}{step:Ty.aH I->yO (Ty.aH I⊕bD.sum xs)}(ok:dp aB)(hl:jG P g N fi.lp:=by exact True.intro)(hk:xc P g k=af:=by kernel_rfl)
 (h:∀v,pG P fi aB (iv P g k) k N sl es I xs v=step v:=by intro v;kernel_rfl) (hb:oj P N (iv P g k) fi.bk:=by exact True.intro):Lp.Ok P N (iv P g k) ⟨sl,es,I,xs,Zb step yD⟩:=
 ZT4 yD ok (ZOf (ZBK hk) hl) (xf hb) h
def km{O:Type}(P:yg)(a:yL TD)(h:yL ak):yL ResultVar->(yL TD->yL ar->yO O)->yO O
 |[],K=>K [] []
 |.tmp t::r,K=>km P a h r λds hs=>K (a.getD t .aA::ds) hs
 |.cell t ty::r,K=>match a.getD t .aA with
  |.am id yM=>(nW h id).bind λd=>eZ (lk h) yM d λsub hs _=>if gR P ty (sub.er (lk h))=af then km P a h r λds hs'=>K (sub::ds) (hs++hs') else ae
  |_=>ae
theorem tf{O:Type}{a:yL TD}{h:yL ak}{out:O}:∀(l:yL ResultVar)(K:yL TD->yL ar->yO O),km P a h l K=ab out->∃ds hs C,K ds hs=ab out/\ba C/\∀yJ,jX P (TD.aE (lk h) a) (aG h) l (hs++yJ)=ab (C,TD.aE (lk h) ds)
 |[],K,k=>⟨[],[],[],k,zZ,λ_=>rfl⟩
 |.tmp t::r,K,k=>by
  obtain⟨ds,hs,C,k1,k2,k3⟩:=tf r _ k;refine⟨_,_,C,k1,k2,λyJ=> ?_⟩
  simp only[jX,k3 yJ,yaa,vY,TD.aE]
 |.cell t ty::r,K,k=>by
  unfold km at k;split at k
  .rename_i id yM hx;obtain⟨d,h1,k⟩:=yf.1 k;obtain⟨st,h2,h3⟩:=ss h1;obtain⟨sub,hs,put,C,g1,g2,g3,_⟩:=WZ _ _ _ _ k;obtain⟨g4,g5⟩:=Za g1;obtain⟨ds,hs',C',k1,k2,k3⟩:=tf r _ g5;refine⟨_,_,C++[eI yM=Qj yM]++C',k1,Zr.2 ⟨Zr.2 ⟨g2,(VN _).symm,ao⟩,k2⟩,λyJ=> ?_⟩;unfold jX;rw[vY,hx];dsimp only[TD.er];rw[h3];dsimp only;rw[List.append_assoc,g3 (hs'++yJ)];dsimp only;rw[yW g4,k3 yJ];rfl
  .cases k
def jH:yL TD->TD
 |[d]=>d
 |ds=>.bi ds
theorem pH{L:Lk}(ds:yL TD):(jH ds).er L=nc (TD.aE L ds):=by
 match ds with
 |[]=>rfl
 |[d]=>rfl
 |_::_::_=>rfl
def TD.arg(L:Lk):TD->TD
 |.own id nn t c=>.p (.sl nn t (Yg L id t c))
 |.agg ds=>TD.eP L ds
 |d=>d
theorem KP{L:Lk}(d:TD):(d.arg L).er L=(d.er L).arg:=by
 cases d <;> first|rfl|exact ZJW _
def ZOg(h:yL ak)(rs:Sh)(es:yL bf)(n0:Nat)(r:TD):yO (yL Nat):=
 let l:=JP h es 0 ((yu n0).map (λi=>(i,i))++Sh.ids rs r)
 ((yu es.length).drop n0).mapM λj=>l.lookup j
def xg(h:yL ak)(n0:Nat)(ds:yL TD)(e:bD):yO (Ty.aH e.ty):=
 match e.sl with
 |[(0,rs)]=>(ZOg h rs e.es n0 (jH ds)).bind λkeep=>
  if once (yu n0++keep) then(match Dv.rn (aV (yu n0++keep)) ((jH ds).er (lk h)) with
   |some _=>(jH ds).rn (aV (yu n0++keep))
   |none=>(jH (ds.map (TD.arg (lk h)))).rn (aV (yu n0++keep))).bind λr=>
   (Vn h (yu n0++keep) (yu n0++keep)).bind λh2=>(Sh.mt (lk h2) rs r).bind λq=>(bf.cX (lk h2) e.es h2).bind λw=>hJ e.ty (q.2++w.2)
  else ae
 |_=>ae
def tg(h:yL ak)(n0:Nat)(ds:yL TD):(l:yL bD)->yO (bD.sum l)
 |[]=>ae
 |[e]=>xg h n0 ds e
 |e::f::r=>match xg h n0 ds e with
  |some x=>ab (Sum.inl x:Ty.aH e.ty⊕bD.sum (f::r))
  |none=>(tg h n0 ds (f::r)).map λx=>(Sum.inr x:Ty.aH e.ty⊕bD.sum (f::r))
theorem ZAe{h:yL ak}{n0:Nat}{ds:yL TD}:∀{l:yL bD}{o:bD.sum l},tg h n0 ds l=ab o->∀e vs,mz l o e vs->∃x,xg h n0 ds e=ab x/\vs=dz e.ty x
 |[],_,k,_,_,_=>by cases k
 |[e],o,k,x,vs,hs=>by
  obtain⟨rfl,rfl⟩:=hs
  exact⟨o,k,rfl⟩
 |e::f::r,o,k,x,vs,hs=>by
  simp only[tg]at k;split at k
  .rename_i y hy;cases k;obtain⟨rfl,rfl⟩:=hs;exact⟨y,hy,rfl⟩
  .obtain⟨y,h1,h2⟩:=Zd k;subst h2;exact ZAe h1 x vs hs
def KQ(P:yg)(fi:FI)(aB:Sp P)(g:yq)(ps:yL Sh)(es:yL bf)(ins:yL Ty)(xs:yL bD):Ty.aH ins->yO (bD.sum xs):=λx=>
 match P.funcs[g]? with
 |some fn=>match fn.body with
  |some c=>(Sh.fills ps (dz ins x)).bind λq=>(bf.fills es q.2).bind λw=>if w.2.isEmpty then
    fk P fi aB c 0 0 (q.1++yw (fn.ntmps - q.1.length) .aA) w.1 λex a h=>match ex with
     |.exit _=>ae
     |_=>km P a h fn.results.toList λds _=>tg h w.1.length ds xs
    else ae
  |none=>ae
 |none=>ae
def gk(P:yg)(g:yq):Nat:=
 match P.funcs[g]? with
 |some fn=>fn.ntmps
 |none=>0
theorem pI{fi:FI}{aB:Sp P}{g:yq}{ps:yL Sh}{es:yL bf}{ins:yL Ty}{xs:yL bD}{M:Ty.aH ins->yO (bD.sum xs)}(ok:dp aB)(hl:jG P g (gk P g) fi.lp:=by exact True.intro)(hn:ps.length<=gk P g:=by decide+kernel)
 (h:∀x,KQ P fi aB g ps es ins xs x=M x:=by intro v;kernel_rfl) (hb:oj P (gk P g) (Q1 P g) fi.bk:=by exact True.intro):Fs.Ok (⟨g,ps,es,ins,xs,M⟩:Fs P):=by
 intro x o hM;have hM:M x=ab o:=hM;rw[<-h x]at hM;have hl':=ZKj hl;unfold KQ at hM;split at hM
 .rename_i fn hf;split at hM
  .rename_i c hb1;obtain⟨q,h1,hM⟩:=yf.1 hM;obtain⟨w,h2,hM⟩:=yf.1 hM;obtain⟨h3,hM⟩:=Za hM;have hN:gk P g=fn.ntmps:=by unfold gk;rw[hf]
   have hc:Q1 P g=c:=by unfold Q1;rw[hf];dsimp only;rw[hb1];rfl
   rw[hc,hN]at hl' hb;have hb0:=xf hb;rw[hN]at hn
   have zV:(q.1++yw (fn.ntmps - q.1.length) TD.aA).length=fn.ntmps:=by
    rw[yl,ycs,wB h1];omega
   obtain⟨ex,a,hh,k1,k2,k3⟩:=Vp ok c _ _ _ _ _ zV hl' hb0 hM
   have hex:(ex=.ret\/ex=.normal)/\(km P a hh fn.results.toList λds _=>tg hh w.1.length ds xs)=ab o:=by
    cases ex with
    |exit _=>cases k1
    |normal=>exact⟨.inr rfl,k1⟩
    |ret=>exact⟨.inl rfl,k1⟩
   obtain⟨hex,k1⟩:=hex;obtain⟨ds,hs,C,g1,g2,g3⟩:=tf _ _ k1;refine⟨q.1,q.2,w.1,h1, ?_,λe vs s' hsel hfs=> ?_⟩
   .rw[h2];have:w.2=[]:=by simpa using h3
    rw[<-this]
   obtain⟨o1,g1,hvs⟩:=ZAe g1 e vs hsel;unfold xg at g1;split at g1
   case h_2=>cases g1
   rename_i rs hsl;obtain⟨keep,g4,g1⟩:=yf.1 g1;obtain⟨g5,g1⟩:=Za g1;obtain⟨r,g6,g1⟩:=yf.1 g1;obtain⟨e2,g7,g1⟩:=yf.1 g1;obtain⟨z,g8,g1⟩:=yf.1 g1;obtain⟨y,g9,g1⟩:=yf.1 g1;obtain⟨b1,b2⟩:=pq g9;have hcc:∀id t,Yg (lk e2) id t ae=Yg (lk y.1) id t ae:=λid t=>by rw[b2]
   have eo:=jw _ _ _ g1
   have efill:s'=([z.1],y.1):=by
    rw[hvs,eo,hsl]at hfs;unfold QQ at hfs;rw[show pt [(0,rs)] 1=[rs] from rfl]at hfs
    simp only[Sh.fills,my _ _ _ g8,ya,yaa]at hfs;have:=nY g9 [];rw[yar]at this;rw[this]at hfs;exact(yaw hfs).symm
   subst efill;refine⟨z.1,rfl, ?_⟩
   have hfin:fin P fn (TD.aE (lk hh) a) (aG hh) (aG w.1).length keep hs=ab (C,r.er (lk e2),aG e2):=by
    unfold fin;have:=g3 [];rw[yar]at this;rw[this];dsimp only;rw[ZQ,g5, <-pH,show aJ (aG hh) _ _=ab (aG e2) from W9 (fp g7) g7]
    split at g6
    .rename_i r0 hr0;have e4:=gF (fp g7) _ _ g6;rw[e4]
    .rename_i hr0;have e4:=gF (fp g7) _ _ g6;rw[pH,ZH,ybf]at e4
     rw[hr0,show(TD.aE (lk hh) ds).map Dv.arg=ds.map (TD.er (lk hh) ∘ TD.arg (lk hh)) by
      rw[ZH,ybf];exact ycn λd _=>(KP d).symm,e4]
   have zU:Vd P c (TD.aE (lk w.1) q.1++yw (fn.ntmps - (TD.aE (lk w.1) q.1).length) .aA) (aG w.1) ex (TD.aE (lk hh) a) (aG hh):=by
    have e5:TD.aE (lk w.1) (q.1++yw (fn.ntmps - q.1.length) TD.aA)=TD.aE (lk w.1) q.1++yw (fn.ntmps - (TD.aE (lk w.1) q.1).length) .aA:=by
     rw[vM,ZH,ZH,yao,List.map_replicate];rfl
    rw[<-e5];exact k3
   exact ZF0 (FB hf hb1 zU hex hfin g2) (lh hcc _ _ _ g8) (pr hcc g9)
  .cases hM
 .cases hM
end
theorem ol{P:yg}{g:yq}{t:Ty}{xs:yL bD}{MA:Ty.aH [.sl t]->yO (bD.sum xs)}{MB:Ty.aH []->yO (bD.sum xs)}(hA:Fs.Ok (⟨g,[.sl af t],[],[.sl t],xs,MA⟩:Fs P))(hB:Fs.Ok (⟨g,[.nil t],[],[],xs,MB⟩:Fs P))
 (h:MB ()=MA ([]:yL t.aQ)):Fs.Ok (⟨g,[.v (.sl t)],[],[.sl t],xs,MA⟩:Fs P):=by
 intro l o hM;have key:∀(l:yL t.aQ),Ty.cast (.sl t) (.sl t) l=ab l:=λl=>YF (.sl t) l;obtain⟨a1,R1,H1,f1,f2,f3⟩:=hA l o hM
 have e1:a1=[.p (.sl (ab af) t l)]/\R1=[]:=by
  have:Sh.fills [.sl af t] [(⟨.sl t,l⟩:TV)]=ab (a1,R1):=f1;simp only[Sh.fills,Sh.fill]at this;rw[key l]at this;have this:ab (([.p (.sl (ab af) t l)]:yL TD),([]:yL TV))=ab (a1,R1):=this;cases this;exact⟨rfl,rfl⟩
 obtain⟨rfl,rfl⟩:=e1;cases f2;refine⟨[.p (.v (.sl t) l)],[],[], ?_,rfl,λe vs s' hs hf=> ?_⟩
 .show Sh.fills [.v (.sl t)] [(⟨.sl t,l⟩:TV)]=_;simp only[Sh.fills,Sh.fill];rw[key l];rfl
 .obtain⟨r,r1,r2⟩:=f3 e vs s' hs hf;refine⟨r,r1, ?_⟩;refine ZJN (xs:=l.map t.enc) r2 λhl=> ?_;have hl:l=[]:=List.map_eq_nil_iff.1 hl;subst hl;obtain⟨a2,R2,H2,g1,g2,g3⟩:=hB () o (by rw[<-hM];exact h);cases g1;cases g2;obtain⟨r',r1',r2'⟩:=g3 e vs s' hs hf;rw[r1]at r1';cases r1';exact r2'
def om(n:Int):yO aSl:=if(ah (0<=n)&&ah (n.toNat<=Zv))=af then ab [] else ae
theorem ZQD{P:yg}{g:yq}{e:yc}(h:∀n:Nat,n<=Zv->cH P g [.p (.sl (ab ag) 1 []),.p (.int .i64 (n:Int))] [] (.own 0 ae 1 []) [.log 1 e []]):
 Fs.Ok (⟨g,[.nil .u8,.v (.int .i64)],[],[.int .i64],[⟨.ret,[(0,.own 0 .u8)],[.log .u8 e],[.sl .u8]⟩],om⟩:Fs P):=by
 intro n o hM
 have key:∀(n:Int),om n=ab o->(0<=n/\n.toNat<=Zv)/\([]:yL yB)=o:=λn hM=>by
  unfold om at hM;obtain⟨h1,h2⟩:=Za (α:=yL yB) hM;rw[yi,yP,yP]at h1;exact⟨h1,yaw h2⟩
 obtain⟨h1,h2⟩:=key n hM;cases h2;refine⟨[.p (.sl (ab ag) .u8 []),.p (.v (.int .i64) n)],[],[],rfl,rfl,λx vs s' hs hf=> ?_⟩;obtain⟨rfl,rfl⟩:=hs;cases hf;refine⟨_,rfl, ?_⟩;have:=h (Int.toNat n) h1.2;rw[Int.toNat_of_nonneg h1.1]at this;exact this
mutual
theorem KR:∀(s:Sh)(vs w:yL TV)(q:TD×yL TV),s.fill vs=ab q->s.fill (vs++w)=ab (q.1,q.2++w)
 |.v t,vs,w,q,h=>by
  cases vs with
  |nil=>cases h
  |cons x r=>
   obtain⟨y,h1,rfl⟩:=Zd (show(Ty.cast x.1 t x.2).map (λy=>((TD.p (.v t y),r):TD×yL TV))=ab q from h)
   show(Ty.cast x.1 t x.2).map (λy=>((TD.p (.v t y),r++w):TD×yL TV))=_
   rw[h1];rfl
 |.elem t,vs,w,q,h=>by
  cases vs with
  |nil=>cases h
  |cons x r=>
   obtain⟨y,h1,rfl⟩:=Zd (show(Ty.cast x.1 t x.2).map (λy=>((TD.elem (.v t y),r):TD×yL TV))=ab q from h)
   show(Ty.cast x.1 t x.2).map (λy=>((TD.elem (.v t y),r++w):TD×yL TV))=_
   rw[h1];rfl
 |.sl nn t,vs,w,q,h=>by
  cases vs with
  |nil=>cases h
  |cons x r=>
   obtain⟨y,h1,rfl⟩:=Zd (α:=(Ty.sl t).aQ) (show(Ty.cast x.1 (.sl t) x.2).map (λ(y:yL t.aQ)=>((TD.p (.sl (ab nn) t y),r):TD×yL TV))=ab q from h)
   show(Ty.cast x.1 (.sl t) x.2).map (λ(y:yL t.aQ)=>((TD.p (.sl (ab nn) t y),r++w):TD×yL TV))=_
   rw[h1];rfl
 |.nil _,vs,w,q,h=>by cases h;rfl
 |.own _ _,vs,w,q,h=>by cases h;rfl
 |.am _ _,vs,w,q,h=>by cases h;rfl
 |.mp _,vs,w,q,h=>by cases h;rfl
 |.rw _,vs,w,q,h=>by cases h;rfl
 |.rp j s p,vs,w,q,h=>by
  cases vs with
  |nil=>cases h
  |cons x r=>
   obtain⟨y,h1,rfl⟩:=Zd (α:=Int) (show(Ty.cast x.1 (.int .i64) x.2).map (λ(i:Int)=>((TD.rp j (.ix i.toNat s::p),r):TD×yL TV))=ab q from h)
   show(Ty.cast x.1 (.int .i64) x.2).map (λ(i:Int)=>((TD.rp j (.ix i.toNat s::p),r++w):TD×yL TV))=_
   rw[h1];rfl
 |.view _ _ _ _ _,vs,w,q,h=>by cases h;rfl
 |.rv _ _ _ _ _,vs,w,q,h=>by cases h;rfl
 |.fn g l,vs,w,q,h=>by
  simp only[Sh.fill]at h ⊢;obtain⟨y,h1,rfl⟩:=Zd h
  rw[cm l vs w y h1];rfl
 |.agg l,vs,w,q,h=>by
  simp only[Sh.fill]at h ⊢;obtain⟨y,h1,rfl⟩:=Zd h
  rw[cm l vs w y h1];rfl
 |.arr n s l,vs,w,q,h=>by
  simp only[Sh.fill]at h ⊢;obtain⟨y,h1,rfl⟩:=Zd h
  rw[cm l vs w y h1];rfl
 |.bi l,vs,w,q,h=>by
  simp only[Sh.fill]at h ⊢;obtain⟨y,h1,rfl⟩:=Zd h
  rw[cm l vs w y h1];rfl
 |.iface t x,vs,w,q,h=>by
  simp only[Sh.fill]at h ⊢;obtain⟨y,h1,rfl⟩:=Zd h
  rw[KR x vs w y h1];rfl
 |.sF t u x,vs,w,q,h=>by
  cases vs with
  |nil=>cases h
  |cons z r=>
   simp only[Sh.fill,List.cons_append]at h ⊢
   cases hb:Ty.cast z.1 .bool z.2 with
   |none=>rw[hb]at h;cases h
   |some b=>
    rw[hb]at h;obtain⟨y,h1,rfl⟩:=Zd h;show((Sh.fill x (r++w)).map _)=_
    rw[KR x r w y h1];rfl
 |.bE,vs,w,q,h=>by cases h;rfl
 |.fn0,vs,w,q,h=>by cases h;rfl
 |.dE,vs,w,q,h=>by cases h;rfl
 |.bU,vs,w,q,h=>by cases h;rfl
 |.aA,vs,w,q,h=>by cases h;rfl
theorem cm:∀(l:yL Sh)(vs w:yL TV)(q:yL TD×yL TV),Sh.fills l vs=ab q->Sh.fills l (vs++w)=ab (q.1,q.2++w)
 |[],vs,w,q,h=>by simp only[Sh.fills]at h;cases h;rfl
 |s::r,vs,w,q,h=>by
  simp only[Sh.fills]at h ⊢;obtain⟨a,h1,h⟩:=yf.1 h;obtain⟨b,h2,rfl⟩:=Zd h;rw[KR s vs w a h1,ya,cm r a.2 w b h2];rfl
end
theorem ZSP{P:yg}{g:yq}{t:Ty}{e:yc}{yJ:yL Sh}{i1 i2:yL Ty}{xs:yL bD}{M:Ty.aH i2->yO (bD.sum xs)}(pk:Ty.aH i1->Ty.aH i2)(h:Fs.Ok (⟨g,.own 0 t::yJ,[.log t e],i2,xs,M⟩:Fs P))
 (hp:∀x,dz i2 (pk x)=dz i1 x++[⟨.sl t,([]:yL t.aQ)⟩]) (hf:∀x,∃a,Sh.fills yJ (dz i1 x)=ab (a,[])):Fs.Ok (⟨g,.nil t::yJ,[],i1,xs,λx=>M (pk x)⟩:Fs P):=by
 intro x o hM;obtain⟨args,R,H,f1,f2,f3⟩:=h (pk x) o hM;obtain⟨a,ha⟩:=hf x;have f1:Sh.fills (.own 0 t::yJ) (dz i2 (pk x))=ab (args,R):=f1;rw[hp x]at f1;simp only[Sh.fills,Sh.fill,ya,cm yJ _ _ _ ha,yaa,Option.some.injEq,Prod.mk.injEq,List.nil_append]at f1;obtain⟨rfl,rfl⟩:=f1;have f2:((Ty.cast (.sl t) (.sl t) ([]:yL t.aQ)).map λ(y:yL t.aQ)=>((ak.log t e y,[]):ak×yL TV)).bind (λa=>(bf.fills [] a.2).map λb=>(a.1::b.1,b.2))=ab (H,[]):=f2;have key:Ty.cast (.sl t) (.sl t) ([]:yL t.aQ)=ab ([]:yL t.aQ):=YF (.sl t) ([]:yL t.aQ);rw[key]at f2;cases f2;refine⟨.p (.sl (ab ag) t [])::a,[],[], ?_,rfl,λx' vs s' hs hf'=> ?_⟩
 .show Sh.fills (.nil t::yJ) (dz i1 x)=_;simp only[Sh.fills,Sh.fill,ya,ha,yaa]
 .obtain⟨r,r1,r2⟩:=f3 x' vs s' hs hf';refine⟨r,r1, ?_⟩
  have e1:TD.aE (lk [.log t e []]) (.own 0 ae t ae::a)=.own 0 ae t.size []::TD.aE (lk []) a:=by
   have e0:TD.aE (lk [.log t e []]) a=TD.aE (lk []) a:=(bZ (λid t'=>wo (H:=[]) (T:=t) (e:=e) id t') a).symm;rw[TD.aE,e0];congr 1;rw[TD.er,show Yg (lk [.log t e []]) 0 t ae=[] from sx (H:=[])]
   rfl
  have r2:cH P g (TD.aE (lk [.log t e []]) (.own 0 ae t ae::a)) (aG [.log t e []]) (r.er (lk s'.2)) (aG s'.2):=r2;rw[e1]at r2;exact ZF2 (H:=[]) (e:=e) r2
section
variable{P:yg}
theorem aF(h:HI)(lp:yL (Nat×Lp))(l:yL (Fs P))(a:cG l){g:yq}{ps:yL Sh}{es:yL bf}{ins:yL Ty}{xs:yL bD}{M:Ty.aH ins->yO (bD.sum xs)}(hl:jG P g (gk P g) lp:=by exact True.intro)(hn:ps.length<=gk P g:=by decide+kernel)
 (k:∀x,KQ P { hi:=h,lp:=lp} { l:=l} g ps es ins xs x=M x:=by intro v;kernel_rfl):Fs.Ok (⟨g,ps,es,ins,xs,M⟩:Fs P):=pI (iw a) hl hn k
abbrev Lp.aT(L:Lp)(P:yg)(g k:Nat):Prop:=L.Ok P (gk P g) (iv P g k)
theorem Zm(h:HI)(lp:yL (Nat×Lp))(l:yL (Fs P))(a:cG l){g k N:Nat}{sl:bV}{es:yL bf}{I:yL Ty}{xs:yL bD}{step:Ty.aH I->yO (Ty.aH I⊕bD.sum xs)}(hl:jG P g N lp:=by exact True.intro)(hk:xc P g k=af:=by kernel_rfl)
 (h':∀v,pG P { hi:=h,lp:=lp} { l:=l} (iv P g k) k N sl es I xs v=step v:=by intro v;kernel_rfl):Lp.Ok P N (iv P g k) ⟨sl,es,I,xs,Zb step yD⟩:=ZKk (iw a) hl hk h'
theorem xh(n g:Nat)(h:HI)(lp:yL (Nat×Lp))(l:yL (Fs P))(a:cG l){N:Nat}{x:Code}{sl:bV}{es:yL bf}{I:yL Ty}{xs:yL bD}{L:Ty.aH I->yO (bD.sum xs)}(hl:jG P g N lp:=by exact True.intro)
 (hx:ZF x=((ZF (Q1 P g)).drop n).take (Code.nl x):=by kernel_rfl) (k:∀v,KO P { hi:=h,lp:=lp} { l:=l} x n N sl es I xs v=L v:=by intro v;kernel_rfl):Lp.Is P N x ⟨sl,es,I,xs,L⟩:=ZSO (n:=n) (g:=g) (iw a) hl hx k
end
end Go.Ev
end
section
namespace Go.Ev
universe u
variable{O:Type u}
def eD(n:Nat)(k:Nat->O):O:=Nat.rec (motive:=λ_=>O) (k 0) (λm _=>k (Nat.succ m)) n
theorem XQ(n:Nat)(k:Nat->O):eD n k=k n:=by cases n <;> rfl
def gM{α:Type}(f:α->(α->O)->O):yL α->(yL α->O)->O
 |[],k=>k []
 |a::r,k=>f a λa=>gM f r λr=>k (a::r)
theorem Qy{α:Type}{f:α->(α->O)->O}(hf:∀a k,f a k=k a):∀(l:yL α)(k:yL α->O),gM f l k=k l
 |[],k=>rfl
 |a::r,k=>by rw[gM,hf,Qy hf r]
def KS(n:Int)(k:Int->O):O:=match n with
 |.ofNat n=>eD n λn=>k (.ofNat n)
 |.negSucc n=>eD n λn=>k (.negSucc n)
theorem ZQF(n:Int)(k:Int->O):KS n k=k n:=by cases n <;> (rw[KS,XQ])
def oo(b:Bool)(k:Bool->O):O:=match b with
 |true=>k af
 |false=>k ag
theorem pJ(b:Bool)(k:Bool->O):oo b k=k b:=by cases b <;> rfl
mutual
def Ty.fo:(t:Ty)->t.aQ->(t.aQ->O)->O
 |.int _,x,k=>KS x k
 |.u8,x,k=>eD (yaj x) λn=>k (yav n)
 |.u32,x,k=>eD (UInt32.toNat x) λn=>k (ybq n)
 |.u64,x,k=>eD (UInt64.toNat x) λn=>k (yv n)
 |.bool,x,k=>oo x k
 |.str,x,k=>k x
 |.sl t,x,k=>gM (Ty.fo t) x k
 |.arr _ t,x,k=>gM (Ty.fo t) x k
 |.st fs,x,k=>Ty.eM fs x k
def Ty.eM:(fs:yL Ty)->Ty.aH fs->(Ty.aH fs->O)->O
 |[],_,k=>k ()
 |[t],x,k=>Ty.fo t x k
 |t::u::r,x,k=>Ty.fo t x.1 λa=>Ty.eM (u::r) x.2 λb=>k (a,b)
end
mutual
theorem Ty.bz:∀(t:Ty)(x:t.aQ)(k:t.aQ->O),t.fo x k=k x
 |.int _,x,k=>ZQF x k
 |.u8,x,k=>by rw[Ty.fo,XQ];exact congrArg k UInt8.ofNat_toNat
 |.u32,x,k=>by rw[Ty.fo,XQ];exact congrArg k UInt32.ofNat_toNat
 |.u64,x,k=>by rw[Ty.fo,XQ];exact congrArg k UInt64.ofNat_toNat
 |.bool,x,k=>pJ x k
 |.str,x,k=>rfl
 |.sl t,x,k=>by rw[Ty.fo];exact Qy (Ty.bz t) x k
 |.arr _ t,x,k=>by rw[Ty.fo];exact Qy (Ty.bz t) x k
 |.st fs,x,k=>Ty.bS fs x k
theorem Ty.bS:∀(fs:yL Ty)(x:Ty.aH fs)(k:Ty.aH fs->O),Ty.eM fs x k=k x
 |[],_,k=>rfl
 |[t],x,k=>Ty.bz t x k
 |t::u::r,x,k=>by rw[Ty.eM,Ty.bz t];exact Ty.bS (u::r) x.2 _
end
mutual
def TP.fo:TP->(TP->O)->O
 |.v t x,k=>t.fo x λx=>k (.v t x)
 |.sl nn t xs,k=>gM t.fo xs λxs=>k (.sl nn t xs)
 |.agg xs,k=>TP.eM xs λxs=>k (.agg xs)
 |.arr n s xs,k=>TP.eM xs λxs=>k (.arr n s xs)
 |.nL nn s xs,k=>TP.eM xs λxs=>k (.nL nn s xs)
 |.iface t x,k=>TP.fo x λx=>k (.iface t x)
 |x,k=>k x
def TP.eM:yL TP->(yL TP->O)->O
 |[],k=>k []
 |x::r,k=>TP.fo x λx=>TP.eM r λr=>k (x::r)
end
mutual
theorem TP.bz:∀(x:TP)(k:TP->O),x.fo k=k x
 |.v t x,k=>by rw[TP.fo,Ty.bz]
 |.sl nn t xs,k=>by rw[TP.fo,Qy (Ty.bz t)]
 |.agg xs,k=>by rw[TP.fo,TP.bS xs]
 |.arr n s xs,k=>by rw[TP.fo,TP.bS xs]
 |.nL nn s xs,k=>by rw[TP.fo,TP.bS xs]
 |.iface t x,k=>by rw[TP.fo,TP.bz x]
 |.bE,k=>rfl
 |.fn0,k=>rfl
 |.dE,k=>rfl
 |.bU,k=>rfl
 |.fS _,k=>rfl
theorem TP.bS:∀(x:yL TP)(k:yL TP->O),TP.eM x k=k x
 |[],k=>rfl
 |x::r,k=>by rw[TP.eM,TP.bz x,TP.bS r]
end
def ZT5{α:Type}(f:α->(α->O)->O):yO α->(yO α->O)->O
 |none,k=>k ae
 |some a,k=>f a λa=>k (ab a)
theorem ZQG{α:Type}{f:α->(α->O)->O}(hf:∀a k,f a k=k a):∀(l:yO α)(k:yO α->O),ZT5 f l k=k l
 |none,k=>rfl
 |some a,k=>hf a _
mutual
def TD.fo:TD->(TD->O)->O
 |.p x,k=>x.fo λx=>k (.p x)
 |.elem x,k=>x.fo λx=>k (.elem x)
 |.own id nn t c,k=>eD id λid=>ZT5 (gM t.fo) c λc=>k (.own id nn t c)
 |.am id q,k=>eD id λid=>k (.am id q)
 |.view id q s lo n,k=>eD id λid=>eD s λs=>eD lo λlo=>eD n λn=>k (.view id q s lo n)
 |.agg xs,k=>TD.eM xs λxs=>k (.agg xs)
 |.arr n s xs,k=>eD n λn=>eD s λs=>TD.eM xs λxs=>k (.arr n s xs)
 |.fn f xs,k=>TD.eM xs λxs=>k (.fn f xs)
 |.iface t x,k=>TD.fo x λx=>k (.iface t x)
 |.bi xs,k=>TD.eM xs λxs=>k (.bi xs)
 |.mp id,k=>eD id λid=>k (.mp id)
 |.rv id v s lo n,k=>eD id λid=>eD v λv=>eD s λs=>eD lo λlo=>eD n λn=>k (.rv id v s lo n)
 |.aZ id v q,k=>eD id λid=>eD v λv=>k (.aZ id v q)
 |.rw id,k=>eD id λid=>k (.rw id)
 |.rp id q,k=>eD id λid=>k (.rp id q)
 |.aA,k=>k .aA
def TD.eM:yL TD->(yL TD->O)->O
 |[],k=>k []
 |x::r,k=>TD.fo x λx=>TD.eM r λr=>k (x::r)
end
mutual
theorem TD.bz:∀(x:TD)(k:TD->O),x.fo k=k x
 |.p x,k=>by rw[TD.fo,TP.bz]
 |.elem x,k=>by rw[TD.fo,TP.bz]
 |.own id nn t c,k=>by rw[TD.fo,XQ,ZQG (Qy (Ty.bz t))]
 |.am id q,k=>by rw[TD.fo,XQ]
 |.view id q s lo n,k=>by rw[TD.fo,XQ,XQ,XQ,XQ]
 |.agg xs,k=>by rw[TD.fo,TD.bS xs]
 |.arr n s xs,k=>by rw[TD.fo,XQ,XQ,TD.bS xs]
 |.fn f xs,k=>by rw[TD.fo,TD.bS xs]
 |.iface t x,k=>by rw[TD.fo,TD.bz x]
 |.bi xs,k=>by rw[TD.fo,TD.bS xs]
 |.mp id,k=>by rw[TD.fo,XQ]
 |.rv id v s lo n,k=>by rw[TD.fo,XQ,XQ,XQ,XQ,XQ]
 |.aZ id v q,k=>by rw[TD.fo,XQ,XQ]
 |.rw id,k=>by rw[TD.fo,XQ]
 |.rp id q,k=>by rw[TD.fo,XQ]
 |.aA,k=>rfl
theorem TD.bS:∀(x:yL TD)(k:yL TD->O),TD.eM x k=k x
 |[],k=>rfl
 |x::r,k=>by rw[TD.eM,TD.bz x,TD.bS r]
end
def ak.fo(e:ak)(k:ak->O):O:=match e with
 |.var d st=>d.fo λd=>oo st λst=>k (.var d st)
 |.log t e xs=>gM t.fo xs λxs=>k (.log t e xs)
 |.map tid a b l=>gM (λq k=>a.fo q.1 λx=>b.fo q.2 λy=>k (x,y)) l λl=>k (.map tid a b l)
 |.row v s st e d=>eD v λv=>eD s λs=>oo st λst=>d.fo λd=>k (.row v s st e d)
 |.aW t v st e xs=>oo st λst=>gM t.fo xs λxs=>k (.aW t v st e xs)
 |.aY t np v st e a b=>oo st λst=>gM t.fo a λa=>gM t.fo b λb=>k (.aY t np v st e a b)
 |.bR t np v st e a d b=>oo st λst=>gM t.fo a λa=>d.fo λd=>gM t.fo b λb=>k (.bR t np v st e a d b)
 |.gone=>k .gone
theorem ak.bz(e:ak)(k:ak->O):e.fo k=k e:=by
 cases e with
 |var d st=>rw[ak.fo,TD.bz,pJ]
 |log t e xs=>rw[ak.fo,Qy (Ty.bz t)]
 |map tid a b l=>rw[ak.fo,Qy λq k=>by rw[Ty.bz a,Ty.bz b]]
 |row v s st e d=>rw[ak.fo,XQ,XQ,pJ,TD.bz]
 |aW t v st e xs=>rw[ak.fo,pJ,Qy (Ty.bz t)]
 |aY t np v st e a b=>rw[ak.fo,pJ,Qy (Ty.bz t),Qy (Ty.bz t)]
 |bR t np v st e a d b=>rw[ak.fo,pJ,Qy (Ty.bz t),TD.bz,Qy (Ty.bz t)]
 |gone=>rfl
def xi(a:yL TD)(h:yL ak)(k:yL TD->yL ak->O):O:=TD.eM a λa=>gM ak.fo h λh=>k a h
theorem ZSR(a:yL TD)(h:yL ak)(k:yL TD->yL ak->O):xi a h k=k a h:=by rw[xi,TD.bS,Qy ak.bz]
def th:(l:yL bD)->bD.sum l->(bD.sum l->O)->O
 |[],x,k=>k x
 |[e],x,k=>Ty.eM e.ty x k
 |e::f::r,x,k=>match (x:Ty.aH e.ty⊕bD.sum (f::r)) with
  |.inl x=>Ty.eM e.ty x λx=>k (.inl x:Ty.aH e.ty⊕bD.sum (f::r))
  |.inr x=>th (f::r) x λx=>k (.inr x:Ty.aH e.ty⊕bD.sum (f::r))
theorem ZOh:∀(l:yL bD)(x:bD.sum l)(k:bD.sum l->O),th l x k=k x
 |[],x,k=>rfl
 |[e],x,k=>Ty.bS _ _ _
 |e::f::r,x,k=>by
  unfold th
  cases (x:Ty.aH e.ty⊕bD.sum (f::r)) with
  |inl x=>exact Ty.bS _ _ _
  |inr x=>exact ZOh (f::r) x _
def Fs.fo{P:yg}(s:Fs P):Fs P:={ s with M:=λx=>Ty.eM s.ins x λx=>(s.M x).bind λo=>th s.xs o ab}
theorem Fs.ti{P:yg}{s:Fs P}(h:s.Ok):s.fo.Ok:=by
 have e:s.fo=s:=by
  unfold Fs.fo
  have:(λx=>Ty.eM s.ins x λx=>(s.M x).bind λo=>th s.xs o ab)=s.M:=by
   funext x;rw[Ty.bS]
   cases s.M x with
   |none=>rfl
   |some o=>exact ZOh _ _ _
  rw[this]
 rw[e];exact h
theorem ZGQ{P:yg}:∀{l:yL (Fs P)},cG l->cG (l.map Fs.fo)
 |[],_=>trivial
 |s::r,h=>⟨Fs.ti h.1,ZGQ h.2⟩
end Go.Ev
end
section
namespace Go.Ev
def KT(h:yL ak)(n0:Nat)(r:TD):yL Nat:=
 let got:=mC h 100000 (r.look++yu n0) []
 ((yu h.length).drop n0).filter got.contains
def xj(P:yg)(H:yL ak)(t:yc)(d:TD):yO TD:=
 match d with
 |.p x=>ab (.p x)
 |d=>(gf P gX t).bind λT=>(pu H 100 T d).map λy=>.p (.v T y)
theorem ZGR{P:yg}{H:yL ak}{t:yc}{d e:TD}(h:xj P H t d=ab e):fz (aG H) (d.er (lk H)) (e.er (lk H)):=by
 unfold xj at h;split at h
 .cases h;exact .refl _
 .obtain⟨T,h1,h⟩:=yf.1 h;obtain⟨y,h2,rfl⟩:=Zd h;exact .deep (wC _ _ _ _ h2)
def xk(P:yg)(H:yL ak):yL yc->yL TD->yO (yL TD)
 |[],[]=>ab []
 |t::r,d::ds=>match xj P H t d,xk P H r ds with
  |some a,ab b=>ab (a::b)
  |_,_=>ae
 |_,_=>ae
theorem ZC3{P:yg}{H:yL ak}:∀{ts:yL yc}{ds es:yL TD},xk P H ts ds=ab es->fA (aG H) (TD.aE (lk H) ds) (TD.aE (lk H) es)
 |[],[],es,h=>by cases h;exact .nil
 |[],_::_,es,h=>by cases h
 |_::_,[],es,h=>by cases h
 |t::r,d::ds,es,h=>by
  simp only[xk]at h;split at h
  .rename_i a b h1 h2;cases h;exact .cons (ZGR h1) (ZC3 h2)
  .cases h
def KU(P:yg)(H:yL ak)(ts:yL yc)(r:TD):yO TD:=
 match ts with
 |[t]=>xj P H t r
 |ts=>match r with
  |.bi ds=>(xk P H ts ds).map .bi
  |_=>ae
theorem ZOj{P:yg}{H:yL ak}{ts:yL yc}{r r':TD}(h:KU P H ts r=ab r'):gV (aG H) (r.er (lk H)) (r'.er (lk H)):=by
 unfold KU at h;split at h
 .exact .one (ZGR h)
 .split at h
  .obtain⟨es,h1,rfl⟩:=Zd h;exact .bi (ZC3 h1)
  .cases h
def xl{O:Type}(P:yg)(ts:yL yc)(r:TD)(H:yL ak)(K:TD->yL ak->yO O):yO O:=
 match ts with
 |[]=>K r H
 |ts=>(KU P (oa ((mC H 100000 r.look []).filter (JM H)) H) ts r).bind λr'=>K r' (oa ((mC H 100000 r.look []).filter (JM H)) H)
theorem ZLT{O:Type}{P:yg}{ts:yL yc}{r:TD}{H:yL ak}{K:TD->yL ak->yO O}{out:O}{g:yq}{args:yL Dv}{H0:yL ay}(h:xl P ts r H K=ab out)(hc:cH P g args H0 (r.er (lk H)) (aG H)):
 ∃r' H',K r' H'=ab out/\cH P g args H0 (r'.er (lk H')) (aG H'):=by
 unfold xl at h;split at h
 .exact⟨_,_,h,hc⟩
 .obtain⟨r',h1,h2⟩:=yf.1 h;generalize (mC H 100000 r.look []).filter (JM H)=ids at h1 h2;refine⟨_,_,h2,ZM5 hc (ZIC ids H) ?_⟩;have:=ZOj h1;rw[ZzS]at this ⊢;exact this
def pK{O:Type}(h:yL ak)(n0:Nat)(ds:yL TD)(K:TD->yL ak->yO O):yO O:=
 let keep:=KT h n0 (jH ds)
 if once (yu n0++keep) then(match Dv.rn (aV (yu n0++keep)) ((jH ds).er (lk h)) with
  |some _=>(jH ds).rn (aV (yu n0++keep))
  |none=>(jH (ds.map (TD.arg (lk h)))).rn (aV (yu n0++keep))).bind λr=>
  (Vn h (yu n0++keep) (yu n0++keep)).bind λh2=>K r h2
 else ae
section
variable{P:yg}
def tj(P:yg)(go:yq->HI)(l:yL (Fs P))(mt:yL (yc×String×yq))(iG:yq->yL (Nat×kl)):Nat->(O:Type)->yq->yL TD->yL ak->(TD->yL ak->yO O)->yO O
 |0,_,_,_,_,_=>ae
 |n+1,O,g,args,H,K=>xi args H λargs H=>match P.funcs[g]? with
  |some fn=>match fn.body with
   |some c=>if ah (args.length<=fn.ntmps)=af then
     fk P { hi:=go g,un:=1000000,gh:=iG g} ⟨l,tj P go l mt iG n,mt,[]⟩ c 0 0 (args++yw (fn.ntmps - args.length) .aA) H λex a h=>match ex with
      |.exit _=>ae
      |_=>km P a h fn.results.toList λds _=>pK h H.length ds λr h=>xi [r] h λrs h=>match rs with
       |[r]=>K r h
       |_=>ae
     else ae
   |none=>ae
  |none=>ae
theorem ZKm{go:yq->HI}{l:yL (Fs P)}{mt:yL (yc×String×yq)}{iG:yq->yL (Nat×kl)}(hl:cG l)(hm:gJ P mt):∀(n:Nat),od P (tj P go l mt iG n)
 |0=>λ_ _ _ _ _ _ h=>by cases h
 |n+1=>λO g args H K out hM=>by
  unfold tj at hM;simp only[ZSR]at hM;split at hM
  .rename_i fn hf;split at hM
   .rename_i c hb1;obtain⟨hn,hM⟩:=Za hM;have hn:=yF hn
    have zV:(args++yw (fn.ntmps - args.length) TD.aA).length=fn.ntmps:=by
     rw[yl,ycs];omega
    obtain⟨ex,a,hh,k1,k2,k3⟩:=Vp (N:=fn.ntmps) (aB:=⟨l,tj P go l mt iG n,mt,[]⟩) ⟨hl,ZKm hl hm n,hm,ao⟩ c _ _ _ _ _ zV (λk b hk lp h=>by cases h) (λk b hk lp h=>by cases h) hM
    have hex:(ex=.ret\/ex=.normal)/\(km P a hh fn.results.toList λds _=>pK hh H.length ds K)=ab out:=by
     cases ex with
     |exit _=>cases k1
     |normal=>exact⟨.inr rfl,k1⟩
     |ret=>exact⟨.inl rfl,k1⟩
    obtain⟨hex,k1⟩:=hex;obtain⟨ds,hs,C,g1,g2,g3⟩:=tf _ _ k1;unfold pK at g1;dsimp only at g1;generalize KT hh H.length (jH ds)=keep at g1;obtain⟨g5,g1⟩:=Za g1;obtain⟨r,g6,g1⟩:=yf.1 g1;obtain⟨e2,g7,g1⟩:=yf.1 g1;refine⟨_,_,g1, ?_⟩
    have hfin:fin P fn (TD.aE (lk hh) a) (aG hh) (aG H).length keep hs=ab (C,r.er (lk e2),aG e2):=by
     unfold fin;have:=g3 [];rw[yar]at this;rw[this];dsimp only;rw[ZQ,g5, <-pH,show aJ (aG hh) _ _=ab (aG e2) from W9 (fp g7) g7]
     split at g6
     .rename_i r0 hr0;have e4:=gF (fp g7) _ _ g6;rw[e4]
     .rename_i hr0;have e4:=gF (fp g7) _ _ g6;rw[pH,ZH,ybf]at e4
      rw[hr0,show(TD.aE (lk hh) ds).map Dv.arg=ds.map (TD.er (lk hh) ∘ TD.arg (lk hh)) by
       rw[ZH,ybf];exact ycn λd _=>(KP d).symm,e4]
    have zU:Vd P c (TD.aE (lk H) args++yw (fn.ntmps - (TD.aE (lk H) args).length) .aA) (aG H) ex (TD.aE (lk hh) a) (aG hh):=by
     have e5:TD.aE (lk H) (args++yw (fn.ntmps - args.length) TD.aA)=TD.aE (lk H) args++yw (fn.ntmps - (TD.aE (lk H) args).length) .aA:=by
      rw[vM,ZH,ZH,yao,List.map_replicate];rfl
     rw[<-e5];exact k3
    exact FB hf hb1 zU hex hfin g2
   .cases hM
  .cases hM
def KV(P:yg)(go:yq->HI)(l:yL (Fs P))(mt:yL (yc×String×yq))(n:Nat)(g:yq)(iG:yq->yL (Nat×kl):=λ_=>[]):yO Bool:=
 tj P go l mt iG n Bool g [] [] λr h=>match h with
  |[]=>r.boolT
  |_=>ae
theorem ZQI{go:yq->HI}{l:yL (Fs P)}{mt:yL (yc×String×yq)}{iG:yq->yL (Nat×kl)}{n:Nat}{g:yq}{b:Bool}(hl:cG l)(hm:gJ P mt)(h:KV P go l mt n g iG=ab b):cH P g [] [] (.p (.bool b)) []:=by
 obtain⟨r,H',h1,h2⟩:=ZKm hl hm n _ _ _ _ _ _ h;split at h1
 .rw[pi h1]at h2;exact h2
 .cases h1
theorem ZST{go:yq->HI}{l:yL (Fs P)}{mt:yL (yc×String×yq)}{iG:yq->yL (Nat×kl)}{n:Nat}{g:yq}{b:Bool}(hl:cG l)(hm:gJ P mt)(h:KV P go l mt n g iG=ab b):
 Fs.Ok (⟨g,[],[],[],[⟨.ret,[(0,.v .bool)],[],[.bool]⟩],λ_=>ab b⟩:Fs P):=by
 intro x o hM;cases hM;refine⟨[],[],[],rfl,rfl,λe vs s' hs hf=> ?_⟩;obtain⟨rfl,rfl⟩:=hs;cases hf;exact⟨_,rfl,ZQI hl hm h⟩
end
theorem eu{P:yg}(s:Nat->Fs P)(h:(s yD).Ok):(s 18446744073709551616).Ok:=by
 rw[lr]at h;exact h
theorem ZOl{P:yg}{g:yq}{args:yL Dv}{H H1 H2:yL ay}{r r2:Dv}{keep:yL Nat}(h:cH P g args H r H1)(ho:once (yu H.length++keep)=af)
 (hin:aJ H1 (yu H.length++keep) (yu H.length++keep)=ab H2) (hr:r.rn (aV (yu H.length++keep))=ab r2):cH P g args H r2 H2:=by
 intro σ vs ok e hv;refine Calls.mono (h σ vs ok e hv) ?_;rintro e' w' ⟨v,σ',h1,h2,h3,h4,h5,h6⟩;subst h3;subst e;exact⟨v,kh σ' (yu σ.H.length++keep) H2,h1,h2,rfl,vH ok h4 ho hin,vG h5 ho hin,nk (nI hin) hr h6⟩
def xm(h:yL ak)(n0:Nat)(r:TD)(e:bD):yO (Ty.aH e.ty):=
 match e.sl with
 |[(0,rs)]=>(ZOg h rs e.es n0 r).bind λkeep=>
  if once (yu n0++keep) then(r.rn (aV (yu n0++keep))).bind λr=>
   (Vn h (yu n0++keep) (yu n0++keep)).bind λh2=>(Sh.mt (lk h2) rs r).bind λq=>(bf.cX (lk h2) e.es h2).bind λw=>hJ e.ty (q.2++w.2)
  else ae
 |_=>ae
def tm(h:yL ak)(n0:Nat)(r:TD):(l:yL bD)->yO (bD.sum l)
 |[]=>ae
 |[e]=>xm h n0 r e
 |e::f::q=>match xm h n0 r e with
  |some x=>ab (Sum.inl x:Ty.aH e.ty⊕bD.sum (f::q))
  |none=>(tm h n0 r (f::q)).map λx=>(Sum.inr x:Ty.aH e.ty⊕bD.sum (f::q))
theorem Zxd{h:yL ak}{n0:Nat}{r:TD}:∀{l:yL bD}{o:bD.sum l},tm h n0 r l=ab o->∀e vs,mz l o e vs->∃x,xm h n0 r e=ab x/\vs=dz e.ty x
 |[],_,k,_,_,_=>by cases k
 |[e],o,k,x,vs,hs=>by
  obtain⟨rfl,rfl⟩:=hs
  exact⟨o,k,rfl⟩
 |e::f::q,o,k,x,vs,hs=>by
  simp only[tm]at k;split at k
  .rename_i y hy;cases k;obtain⟨rfl,rfl⟩:=hs;exact⟨y,hy,rfl⟩
  .obtain⟨y,h1,h2⟩:=Zd k;subst h2;exact Zxd h1 x vs hs
section
variable{P:yg}
def fnD(P:yg)(fi:FI)(aB:Sp P)(g:yq)(ps:yL Sh)(es:yL bf)(ins:yL Ty)(xs:yL bD):Ty.aH ins->yO (bD.sum xs):=λx=>
 match P.funcs[g]? with
 |some fn=>match fn.body with
  |some c=>(Sh.fills ps (dz ins x)).bind λq=>(bf.fills es q.2).bind λw=>if w.2.isEmpty then
    fk P fi aB c 0 0 (q.1++yw (fn.ntmps - q.1.length) .aA) w.1 λex a h=>match ex with
     |.exit _=>ae
     |_=>km P a h fn.results.toList λds _=>pK h w.1.length ds λr h=>xl P fi.hi.deep r h λr h=>tm h w.1.length r xs
    else ae
  |none=>ae
 |none=>ae
theorem xn{fi:FI}{aB:Sp P}{g:yq}{ps:yL Sh}{es:yL bf}{ins:yL Ty}{xs:yL bD}{M:Ty.aH ins->yO (bD.sum xs)}(ok:dp aB)(hl:jG P g (gk P g) fi.lp:=by exact True.intro)(hn:ps.length<=gk P g:=by decide+kernel)
 (h:∀x,fnD P fi aB g ps es ins xs x=M x:=by intro v;kernel_rfl) (hb:oj P (gk P g) (Q1 P g) fi.bk:=by exact True.intro):Fs.Ok (⟨g,ps,es,ins,xs,M⟩:Fs P):=by
 intro x o hM;have hM:M x=ab o:=hM;rw[<-h x]at hM;have hl':=ZKj hl;unfold fnD at hM;split at hM
 .rename_i fn hf;split at hM
  .rename_i c hb1;obtain⟨q,h1,hM⟩:=yf.1 hM;obtain⟨w,h2,hM⟩:=yf.1 hM;obtain⟨h3,hM⟩:=Za hM;have hN:gk P g=fn.ntmps:=by unfold gk;rw[hf]
   have hc:Q1 P g=c:=by unfold Q1;rw[hf];dsimp only;rw[hb1];rfl
   rw[hc,hN]at hl' hb;have hb0:=xf hb;rw[hN]at hn
   have zV:(q.1++yw (fn.ntmps - q.1.length) TD.aA).length=fn.ntmps:=by
    rw[yl,ycs,wB h1];omega
   obtain⟨ex,a,hh,k1,k2,k3⟩:=Vp ok c _ _ _ _ _ zV hl' hb0 hM
   have hex:(ex=.ret\/ex=.normal)/\(km P a hh fn.results.toList λds _=>pK hh w.1.length ds λr h=>xl P fi.hi.deep r h λr h=>tm h w.1.length r xs)=ab o:=by
    cases ex with
    |exit _=>cases k1
    |normal=>exact⟨.inr rfl,k1⟩
    |ret=>exact⟨.inl rfl,k1⟩
   obtain⟨hex,k1⟩:=hex;obtain⟨ds,hs,C,g1,g2,g3⟩:=tf _ _ k1;refine⟨q.1,q.2,w.1,h1, ?_,λe vs s' hsel hfs=> ?_⟩
   .rw[h2];have:w.2=[]:=by simpa using h3
    rw[<-this]
   unfold pK at g1;dsimp only at g1;generalize KT hh w.1.length (jH ds)=keep at g1;obtain⟨g5,g1⟩:=Za g1;obtain⟨r,g6,g1⟩:=yf.1 g1;obtain⟨e2,g7,g1⟩:=yf.1 g1
   have zU:Vd P c (TD.aE (lk w.1) q.1++yw (fn.ntmps - (TD.aE (lk w.1) q.1).length) .aA) (aG w.1) ex (TD.aE (lk hh) a) (aG hh):=by
    have e5:TD.aE (lk w.1) (q.1++yw (fn.ntmps - q.1.length) TD.aA)=TD.aE (lk w.1) q.1++yw (fn.ntmps - (TD.aE (lk w.1) q.1).length) .aA:=by
     rw[vM,ZH,ZH,yao,List.map_replicate];rfl
    rw[<-e5];exact k3
   have hfin:fin P fn (TD.aE (lk hh) a) (aG hh) (aG w.1).length keep hs=ab (C,r.er (lk e2),aG e2):=by
    unfold fin;have:=g3 [];rw[yar]at this;rw[this];dsimp only;rw[ZQ,g5, <-pH,show aJ (aG hh) _ _=ab (aG e2) from W9 (fp g7) g7]
    split at g6
    .rename_i r0 hr0;have e4:=gF (fp g7) _ _ g6;rw[e4]
    .rename_i hr0;have e4:=gF (fp g7) _ _ g6;rw[pH,ZH,ybf]at e4
     rw[hr0,show(TD.aE (lk hh) ds).map Dv.arg=ds.map (TD.er (lk hh) ∘ TD.arg (lk hh)) by
      rw[ZH,ybf];exact ycn λd _=>(KP d).symm,e4]
   obtain⟨r',H',m1,m2⟩:=ZLT g1 (FB hf hb1 zU hex hfin g2);obtain⟨o1,m3,hvs⟩:=Zxd m1 e vs hsel;unfold xm at m3;split at m3
   case h_2=>cases m3
   rename_i rs hsl;obtain⟨keep2,n1,m3⟩:=yf.1 m3;obtain⟨n2,m3⟩:=Za m3;obtain⟨r3,n3,m3⟩:=yf.1 m3;obtain⟨e3,n4,m3⟩:=yf.1 m3;obtain⟨z,g8,m3⟩:=yf.1 m3;obtain⟨y,g9,m3⟩:=yf.1 m3;obtain⟨b1,b2⟩:=pq g9;have hcc:∀id t,Yg (lk e3) id t ae=Yg (lk y.1) id t ae:=λid t=>by rw[b2]
   have eo:=jw _ _ _ m3
   have efill:s'=([z.1],y.1):=by
    rw[hvs,eo,hsl]at hfs;unfold QQ at hfs;rw[show pt [(0,rs)] 1=[rs] from rfl]at hfs
    simp only[Sh.fills,my _ _ _ g8,ya,yaa]at hfs;have:=nY g9 [];rw[yar]at this;rw[this]at hfs;exact(yaw hfs).symm
   subst efill;refine⟨z.1,rfl, ?_⟩
   have hk:cH P g (TD.aE (lk w.1) q.1) (aG w.1) (r3.er (lk e3)) (aG e3):=by
    refine ZOl (keep:=keep2) m2 (by rw[ZQ];exact n2) ?_ ?_
    .rw[ZQ];exact W9 (fp n4) n4
    .rw[ZQ];exact gF (fp n4) _ _ n3
   exact ZF0 hk (lh hcc _ _ _ g8) (pr hcc g9)
  .cases hM
 .cases hM
end
end Go.Ev
end
section
namespace Go.Ev
open Go.RowKit Go.WideShapes Go.ChangeShapes
def YJ(P:yg):Nat->yc->Bool
 |0,_=>ag
 |n+1,t=>match P.underlying t with
  |some .bool=>af
  |some (.int _)=>af
  |some .string=>af
  |some (.slice e)=>YJ P n e&&ah (0 < P.cellsOf e)
  |some (.array m e)=>YJ P n e&&P.cellsOf t==m*P.cellsOf e
  |some (.struct fs)=>(fs.toList.all λf=>YJ P n f.type)&&P.cellsOf t==(fs.toList.map λf=>P.cellsOf f.type).sum&&
    ((yu fs.toList.length).all λj=>match fs.toList[j]? with|some f=>f.offset==((fs.toList.take j).map λf=>P.cellsOf f.type).sum|none=>af)
  |_=>ag
theorem ZEy(P:yg):Kids P (λt=>∃n,YJ P n t=af) where
 pointer:=by
  rintro t e ⟨n,h⟩ hu
  cases n with
  |zero=>simp[YJ]at h
  |succ n=>simp[YJ,hu]at h
 slice:=by
  rintro t e ⟨n,h⟩ hu
  cases n with
  |zero=>simp[YJ]at h
  |succ n=>simp[YJ,hu]at h;exact⟨n,h.1⟩
 array:=by
  rintro t e m ⟨n,h⟩ hu
  cases n with
  |zero=>simp[YJ]at h
  |succ n=>simp[YJ,hu]at h;exact⟨⟨n,h.1⟩,h.2⟩
 struct:=by
  rintro t fs ⟨n,h⟩ hu
  cases n with
  |zero=>simp[YJ]at h
  |succ n=>
   simp only[YJ,hu,yi,yT,ybx]at h;obtain⟨⟨h1,h2⟩,h3⟩:=h;refine⟨λf hf=>⟨n,h1 f hf⟩,h2,λj f hf=> ?_⟩;have hj:j < fs.toList.length:=(yo.1 hf).1;have:=h3 j (by simpa using hj);rw[hf]at this;simpa using this
 map:=by
  rintro t k e ⟨n,h⟩ hu
  cases n with
  |zero=>simp[YJ]at h
  |succ n=>simp[YJ,hu]at h
def xo(R:yc->Pl->Prop):yL Field->yL Pl->Prop
 |[],[]=>True
 |f::fs,y::ys=>R f.type y/\xo R fs ys
 |_,_=>False
def dA(P:yg):Nat->yc->Pl->Prop
 |0,_,_=>False
 |n+1,t,x=>match P.underlying t,x with
  |some .bool,.bool _=>True
  |some (.int k),.int k' m=>k'=k/\(Lit.int k m).wf=af
  |some .string,.str s=>s.size<=maxLen
  |some (.slice e),.sl nn s xs=>s=P.cellsOf e/\nn=ae/\xs.length<=maxLen/\∀y,y∈xs->dA P n e y
  |some (.array m e),.arr m' s xs=>m'=m/\s=P.cellsOf e/\xs.length=m/\∀y,y∈xs->dA P n e y
  |some (.struct fs),.agg xs=>xo (dA P n) fs.toList xs
  |_,_=>False
def lu:Nat->Nat->Prop:=λ_ _=>True
section
variable{H:Type}{enc:yc×yh->H}{P:yg}{w:World}{base:Nat}{sp:Nat->Bool}{held:Bool}
theorem ZLV:∀{s:Nat}{a:Addr}{cs:yL yh},w.cells? base a s=ab cs->cs.length=s/\∀j u,cs[j]? =ab u->w.cell? (a.add j)=ab u:=by
 intro s a cs h;unfold World.cells? at h;split at h
 .have hl:cs.length=s:=by simpa using mapM_some_length h
  refine⟨hl,λj u hu=> ?_⟩;have hj:j < s:=by rw[<-hl];exact(yo.1 hu).1
  have:=mapM_some_get h j j (by simp[hj]);grind
 .cases h
theorem ZKo{e:yc}{n m:Nat}{a:Addr}{s:Nat}(hs:0 < s){elems:yL (DataW H×yL MemPlace)}{len:Nat}(zV:elems.length=len)
 (ih:∀(cs:yL yh)(x:DataW H×yL MemPlace),DataW.trod enc P w base sp held m e cs=ab x->cs.length=s->∃pl,dA P n e pl/\aw w lu pl cs)
 (h:∀i,i < len->(w.cells? base (a.add (i*s)) s).bind (DataW.trod enc P w base sp held m e)=elems[i]?):
 ∀k,k<=len->∃(xs:yL Pl)(us:yL yh),xs.length=k/\(∀y,y∈xs->dA P n e y)/\aR s xs/\us.length=k*s/\aq w lu xs us/\(∀j u,us[j]? =ab u->w.cell? (a.add j)=ab u)
 |0,_=>⟨[],[],rfl,(λy hy=>by cases hy),(λy hy=>by cases hy),by simp,by simp[aq],by simp⟩
 |k+1,hk=>by
  obtain⟨xs,us,h1,h2,h3,h4,h5,h6⟩:=ZKo hs zV ih h k (by omega);have hk':=h k (by omega);rw[yac (by omega)]at hk';obtain⟨cs,hc,ht⟩:=yf.1 hk';obtain⟨c1,c2⟩:=ZLV hc;obtain⟨pl,p1,p2⟩:=ih cs _ ht c1;have psz:pl.size=s:=by rw[<-Ve _ _ p2,c1]
  refine⟨xs++[pl],us++cs,by simp[h1],λy hy=> ?_,λy hy=> ?_,by simp[h4,c1,yau],Ym h5 (by simpa[aq] using p2),λj u hu=> ?_⟩
  .all_goals grind
  .rcases List.mem_append.1 hy with hy|hy
   .exact h3 y hy
   grind
  .by_cases hj:j < us.length
   .grind
   .rw[yaq (by omega)]at hu;have:=c2 _ _ hu;rw[Addr.add_add]at this;grind
theorem ZGS{e:yc}{n m:Nat}{s:Nat}{cs:yL yh}{elems:yL (DataW H×yL MemPlace)}{len:Nat}(zV:elems.length=len)(hcs:cs.length=len*s)
 (ih:∀(cs:yL yh)(x:DataW H×yL MemPlace),DataW.trod enc P w base sp held m e cs=ab x->cs.length=s->∃pl,dA P n e pl/\aw w lu pl cs)
 (h:∀i,i < len->DataW.trod enc P w base sp held m e ((cs.drop (i*s)).take s)=elems[i]?):
 ∀k,k<=len->∃(xs:yL Pl),xs.length=k/\(∀y,y∈xs->dA P n e y)/\aR s xs/\aq w lu xs (cs.take (k*s))
 |0,_=>⟨[],rfl,(λy hy=>by cases hy),(λy hy=>by cases hy),by simp[aq]⟩
 |k+1,hk=>by
  obtain⟨xs,h1,h2,h3,h5⟩:=ZGS zV hcs ih h k (by omega);have hk':=h k (by omega);rw[yac (by omega)]at hk';have hle:k*s+s<=len*s:=by rw[<-Nat.succ_mul];exact ycg _ hk
  have c1:((cs.drop (k*s)).take s).length=s:=by simp;omega
  obtain⟨pl,p1,p2⟩:=ih _ _ hk' c1;have psz:pl.size=s:=by rw[<-Ve _ _ p2,c1]
  refine⟨xs++[pl],by simp[h1],λy hy=> ?_,λy hy=> ?_, ?_⟩
  .all_goals grind
  .rcases List.mem_append.1 hy with hy|hy
   .exact h3 y hy
   grind
  .rw[yau,Nat.one_mul,List.take_add];exact Ym h5 (by simpa[aq] using p2)
theorem ZC4{n m:Nat}{cs:yL yh}
 (ih:∀(t:yc),YJ P n t=af->∀(cs:yL yh)(x:DataW H×yL MemPlace),DataW.trod enc P w base sp held m t cs=ab x->∃pl,dA P n t pl/\aw w lu pl cs):
 ∀(fs:yL Field)(o:Nat),(∀f,f∈fs->YJ P n f.type=af)->(∀(j:Nat)f,fs[j]? =ab f->f.offset=o+((fs.take j).map λf=>P.cellsOf f.type).sum)->
  cs.length=o+(fs.map λf=>P.cellsOf f.type).sum->(∀(j:Nat)f,fs[j]? =ab f->∃x,DataW.trod enc P w base sp held m f.type ((cs.drop f.offset).take (P.cellsOf f.type))=ab x)->
  ∃(xs:yL Pl),xo (dA P n) fs xs/\aq w lu xs (cs.drop o)
 |[],o,_,_,hl,_=>⟨[],zZ,by simp only[aq];apply List.drop_eq_nil_of_le;simp at hl;omega⟩
 |f::fs,o,hp,ho,hl,h=>by
  obtain⟨x,hx⟩:=h 0 f rfl;have ho0:=ho 0 f rfl;simp at ho0;rw[ho0]at hx;obtain⟨pl,p1,p2⟩:=ih f.type (hp f (yax ..)) _ _ hx;simp only[yag,List.sum_cons]at hl
  obtain⟨xs,q1,q2⟩:=ZC4 ih fs (o+P.cellsOf f.type) (λg hg=>hp g (yaz _ hg)) (λj g hg=>by
   have:=ho (j+1) g hg;simp only[List.take_succ_cons,yag,List.sum_cons]at this;omega) (by omega) (λj g hg=>h (j+1) g hg)
  refine⟨pl::xs,⟨p1,q1⟩, ?_⟩;simp only[aq];refine⟨(cs.drop o).take (P.cellsOf f.type),(cs.drop o).drop (P.cellsOf f.type),(List.take_append_drop ..).symm,p2, ?_⟩;simp_all
theorem ZQK:∀(n m:Nat)(t:yc),YJ P n t=af->∀(cs:yL yh)(x:DataW H×yL MemPlace),DataW.trod enc P w base sp held m t cs=ab x->∃pl,dA P n t pl/\aw w lu pl cs:=by
 intro n
 induction n with
 |zero=>intro m t h;simp[YJ]at h
 |succ n ih=>
  intro m t ht cs x h;unfold YJ at ht;split at ht
  .rename_i hu;obtain⟨b,rfl,_⟩:=DataW.trod_bool hu h;exact⟨.bool b,by simp[dA,hu],by simp[aw]⟩
  .rename_i k hu;obtain⟨z,rfl,rfl,hw⟩:=DataW.trod_int hu h;exact⟨.int k z,by simp[dA,hu,hw],by simp[aw]⟩
  .rename_i hu;obtain⟨s,rfl,h2⟩:=DataW.trod_string hu h;exact⟨.str s,by simp[dA,hu];exact h2.2,by simp[aw]⟩
  .rename_i e hu;simp only[yi,yP]at ht;rcases DataW.trod_slice hu h with⟨rfl,rfl⟩|⟨a,len,cap,elems,yJ,m',rfl,rfl,rfl,_,hle,hcap,zV,hel,_⟩
   .exact⟨.sl ae (P.cellsOf e) [],by simp[dA,hu],by simp only[aw];exact⟨(λy hy=>by cases hy),ae,0,rfl,yj _,Nat.zero_le _,YE _,λ_=>rfl,λh=>absurd rfl h⟩⟩
   .obtain⟨xs,us,h1,h2,h3,h4,h5,h6⟩:=ZKo (n:=n) ht.2 zV (λcs x hx _=>ih m' e ht.1 cs x hx) hel len (yj _);refine⟨.sl ae (P.cellsOf e) xs,by simp only[dA,hu];exact⟨zZ,zZ,by omega,h2⟩, ?_⟩;simp only[aw];refine⟨h3,ab a,cap,by rw[h1],by omega,hcap,YE _,by simp,λhne=> ?_⟩
    have hpos:0 < us.length:=by
     rw[h4];have:0 < len:=by rw[<-h1];exact List.length_pos_iff.2 hne
     simp_all
    have hc0:=h6 0 us[0] (yac hpos);obtain⟨b,o,spot⟩:=a
    have hspot:spot=ae:=by
     cases spot with
     |none=>rfl
     |some z=>
      exfalso;unfold World.cell? at hc0;split at hc0
      .simp[Addr.add]at hc0
      .cases hc0
    subst hspot;exact⟨b,o,us,rfl,h5,λj u hu=>⟨by have:=h6 j u hu;rwa [Addr.add_lit]at this,ao⟩⟩
  .rename_i k e hu;simp only[yi,yT]at ht;obtain⟨elems,m',rfl,rfl,hl,zV,hel⟩:=DataW.trod_array hu h;obtain⟨xs,h1,h2,h3,h4⟩:=ZGS (n:=n) (s:=P.cellsOf e) zV (by rw[hl,ht.2]) (λcs x hx _=>ih m' e ht.1 cs x hx) hel k (yj _);rw[List.take_of_length_le (by rw[hl,ht.2];exact yj _)]at h4;exact⟨.arr k (P.cellsOf e) xs,by simp only[dA,hu];exact⟨zZ,zZ,h1,h2⟩,by simp only[aw];exact⟨h1,h3,h4⟩⟩
  .rename_i fs hu;simp only[yi,yT,ybx]at ht;obtain⟨⟨t1,t2⟩,t3⟩:=ht;obtain⟨elems,m',rfl,rfl,hl,zV,hel⟩:=DataW.trod_struct hu h
   obtain⟨xs,q1,q2⟩:=ZC4 (n:=n) (m:=m') (cs:=cs) (λt ht cs x hx=>ih m' t ht cs x hx) fs.toList 0 t1 (λj f hf=>by
    have hj:j < fs.toList.length:=(yo.1 hf).1;have:=t3 j (by simpa using hj);rw[hf]at this;simpa using this) (by rw[hl,t2];omega) (λj f hf=>by
    have hj:j < fs.toList.length:=(yo.1 hf).1;have:=hel j f (by simpa using hf);rw[yac (by rw[zV];simpa using hj)]at this;exact⟨_,this⟩)
   exact⟨.agg xs,by simp only[dA,hu];exact q1,by simp only[aw];simpa using q2⟩
  .cases ht
end
end Go.Ev
namespace Go.Ev
open Go.RowKit Go.WideShapes Go.ChangeShapes
def xq(P:yg)(n:Nat):yL yc->yL Pl->Prop
 |[],[]=>True
 |t::ts,x::xs=>dA P n t x/\xq P n ts xs
 |_,_=>False
section
variable{H:Type}{enc:yc×yh->H}{P:yg}
def ia(W:World):Sg:={ F:=lu,B:=λb=>W.heap.size<=b,m:=[],H:=[],w:=W}
theorem ZSU(W:World):Ok (ia W) where
 len:=rfl
 inj i j b h:=by simp[ia]at h
 lt i b h:=by simp[ia]at h
 cY i e a h:=by simp[ia]at h
 new b h:=h
 own i b h:=by simp[ia]at h
theorem ZOm(W:World)(b o:Nat):(ia W).aU b o:=⟨.inl trivial,λid e h=>by simp[ia]at h⟩
theorem ZAi{W:World}{x:Pl}{v:yh}{cs:yL yh}(hx:aw W lu x cs)(hc:v.cells.toList=cs)(hv:x.isAgg=af->∃a,v=.agg a)(hn:x.isAgg=ag->cs=[v]):yH (ia W) (.p x) v:=by
 have hm:aw W (ia W).aU x cs:=jS (λb o u h _=>⟨h,ZOm W b o⟩) x cs hx;refine⟨λha=> ?_,λha=> ?_⟩
 .obtain⟨a,rfl⟩:=hv ha;refine⟨a,rfl, ?_⟩;simp only[yG];have:a.toList=cs:=by rw[<-hc];rfl
  rw[this];exact hm
 .simp only[yG];have e:=hn ha;rw[<-e];exact hm
theorem ZSV:∀{n:Nat}{t:yc}{x:Pl},dA P n t x->x.isAgg=WS P t
 |0,_,_,h=>by simp[dA]at h
 |n+1,t,x,h=>by
  unfold dA at h;split at h <;> rename_i hu <;> first|(simp[Pl.isAgg,WS,hu];done)|exact h.elim
theorem ZKp{W:World}{n:Nat}(hval:∀(t:yc)(v:yh),WS P t=af->Value.okWide P W .any 0 t v->∃a,v=.agg a):
 ∀(ts:yL yc)(vs:yL yh)(ds:yL (DataW H))(ps:yL MemPlace),(∀t,t∈ts->YJ P n t=af)->(∀(j:Nat)t v,ts[j]? =ab t->vs[j]? =ab v->(WS P t=af->∃a,v=.agg a)/\(WS P t=ag->v.cells.toList=[v]))->
  DataW.TrodAll enc P W 0 (λ_=>af) af ts vs ds ps->∃xs,xq P n ts xs/\aC (ia W) (xs.map .p) vs
 |[],[],[],_,_,_,_=>⟨[],zZ,by simp[aC]⟩
 |[],_::_,_,_,_,_,h=>by simp[DataW.TrodAll]at h
 |[],[],_::_,_,_,_,h=>by simp[DataW.TrodAll]at h
 |_::_,[],_,_,_,_,h=>by simp[DataW.TrodAll]at h
 |_::_,_::_,[],_,_,_,h=>by simp[DataW.TrodAll]at h
 |t::ts,v::vs,d::ds,ps,hp,hv,h=>by
  obtain⟨p,q,⟨yD,h1⟩,h2,rfl⟩:=h;obtain⟨x,x1,x2⟩:=ZQK n yD t (hp t (yax ..)) _ _ h1;obtain⟨xs,xs1,xs2⟩:=ZKp hval ts vs ds q (λu hu=>hp u (yaz _ hu)) (λj u w' hj hw=>hv (j+1) u w' hj hw) h2;obtain⟨v1,v2⟩:=hv 0 t v rfl rfl;refine⟨x::xs,⟨x1,xs1⟩, ?_⟩;simp only[yag,aC];have ha:=ZSV x1;exact⟨v,vs,rfl,ZAi x2 rfl (λe=>v1 (by rw[<-ha];exact e)) (λe=>v2 (by rw[<-ha];exact e)),xs2⟩
theorem Zsh{W W':World}{sp':Nat->Bool}{n:Nat}:∀(ts:yL yc)(vs:yL yh)(ds:yL (DataW H))(ps:yL MemPlace),(∀t,t∈ts->YJ P n t=af)->
 DataW.TrodAll enc P W 0 (λ_=>af) af ts vs ds ps->(∀p∈ps,W.sameAt W' p)->(∀p∈ps,sp' p.block=af)->DataW.TrodAll enc P W' 0 sp' af ts vs ds ps
 |[],[],[],_,_,h,_,_=>h
 |[],_::_,_,_,_,h,_,_=>by simp[DataW.TrodAll]at h
 |[],[],_::_,_,_,h,_,_=>by simp[DataW.TrodAll]at h
 |_::_,[],_,_,_,h,_,_=>by simp[DataW.TrodAll]at h
 |_::_,_::_,[],_,_,h,_,_=>by simp[DataW.TrodAll]at h
 |t::ts,v::vs,d::ds,ps,hp,h,hs,hb=>by
  obtain⟨p,q,⟨yD,h1⟩,h2,rfl⟩:=h;refine⟨p,q,⟨yD, ?_⟩,Zsh ts vs ds q (λu hu=>hp u (yaz _ hu)) h2 (λz hz=>hs z (List.mem_append_right _ hz)) (λz hz=>hb z (List.mem_append_right _ hz)),rfl⟩
  exact DataW.trod_stays (ZEy P) (λ{t e}⟨n,hn⟩hu=>by
   cases n with
   |zero=>simp[YJ]at hn
   |succ n=>simp[YJ,hu]at hn;exact hn.2) (by simp) ⟨n,hp t (yax ..)⟩ h1 (λz hz=>hs z (List.mem_append_left _ hz)) (λz hz=>hb z (List.mem_append_left _ hz))
theorem ZGT{W:World}{σ':Sg}(h:To (ia W) σ'):Below W.heap.size W σ'.w:=
 ⟨h.os,h.tape,h.output,h.size,λb hb=>h.block b hb (λid=>by simp[ia])⟩
theorem ZAj{f:Func}{s:ChangeSpec}{apart fresh handsOn again:Bool}{W W':World}{args:Array yh}{v:yh}{ds gs:yL (DataW H)}{before pa pv:yL MemPlace}
 (hW:DataW.Whole enc P f.params.toList s.vars apart W args.toList ds gs before)
 (hres:∀(b:Nat)(sp:Nat->Bool)(hd:Bool),DataW.TrodAll enc P W' b sp hd f.resultTypes.toList (v.resultList f.resultTypes.size) (s.fn H (ds++gs)).results [])
 (yQ:∀sp:Nat->Bool,(∀p∈before,sp p.block=af)->DataW.TrodAll enc P W' 0 sp af f.params.toList args.toList (s.fn H (ds++gs)).args pa)
 (hvars:∀sp:Nat->Bool,(∀p∈before,sp p.block=af)->DataW.TrodVars enc P W' sp s.vars (s.fn H (ds++gs)).vars pv)
 (hps:before=pa++pv) (hb:Below W.heap.size W W')
 (hok:∀(j:Nat)(t:yc)(r:yh),f.resultTypes[j]? =ab t->(v.resultList f.resultTypes.size)[j]? =ab r->Value.okWide P W' .any 0 t r):
 s.post enc P f apart fresh handsOn again W args v W':=by
 have hlt:∀p∈before,p.block < W.heap.size:=λp hp=>hW.lt p hp;have hold:∀p∈before,(λb=>ah (b < W.heap.size)) p.block=af:=λp hp=>by simpa using hlt p hp
 refine⟨ds,gs,before,[],pa,pv,hW,hres _ _ _,yQ _ hold,hvars _ hold,World.keptBut_mono (λp hp=>⟨hp, ?_⟩) (hb.frame (· ∈before)),λ_=> ?_⟩
 .grind
 .obtain⟨_,_,_,_,_,hz,hn⟩:=hW;refine⟨hok,_,_,([]++pa)++pv,⟨[]++pa,pv,trodAll_append (yQ _ (λ_ _=>rfl)) (hres _ _ _),hvars _ (λ_ _=>rfl),rfl, ?_, ?_⟩, ?_⟩
  .intro b off hp;have hin:MemPlace.cell b off∈before:=by rw[hps];simpa using hp
   rw[hb.frozen (hlt _ hin)];exact hz b off hin
  all_goals grind
theorem ZEA{f:yq}{fn:Func}{s:ChangeSpec}{n:Nat}{tb:yc}(hr:fn.resultTypes= #[tb])(ht:P.underlying tb=ab .bool)(hv:s.vars=[])
 (hs:∀ds:yL (DataW H),ds.length=fn.params.toList.length->s.fn H ds={ results:=[.lit (.bool af)],args:=ds}) (hp:∀t,t∈fn.params.toList->YJ P n t=af)
 (W:World) (base:Nat) (args:Array yh) (ds gs:yL (DataW H)) (before:yL MemPlace)
 (hval:∀(j:Nat)t v,fn.params[j]? =ab t->args[j]? =ab v->Value.okWide P W .any base t v) (hW:DataW.Whole enc P fn.params.toList s.vars ag W args.toList ds gs before)
 (hc:∀xs:yL Pl,xq P n fn.params.toList xs->aC (ia W) (xs.map .p) args.toList->cH P f (xs.map .p) [] (.p (.bool af)) []):
 Calls P f args W λe W'=>∃v,e=.returned v/\s.post enc P fn ag af ag ag W args v W':=by
 have hW':=hW;obtain⟨p,q,hA,hV,rfl,hfz,hnd⟩:=hW;rw[hv]at hV
 obtain⟨rfl,rfl⟩:gs=[]/\q=[]:=by
  cases gs with
  |nil=>exact⟨rfl,hV⟩
  |cons g r=>simp[DataW.TrodVars]at hV
 have zV:=trodAll_length hA
 obtain⟨xs,x1,x2⟩:=ZKp (enc:=enc) (P:=P) (W:=W) (n:=n) (λt v ha hok=>by
  unfold Value.okWide at hok;unfold WS at ha;split at hok
  .obtain⟨cs,rfl,_⟩:=hok;exact⟨cs,rfl⟩
  .obtain⟨cs,rfl,_⟩:=hok;exact⟨cs,rfl⟩
  .rename_i h1 h2;split at ha
   .rename_i fs hu;exact absurd hu (h1 fs)
   .rename_i k e hu;exact absurd hu (h2 k e)
   .cases ha) fn.params.toList args.toList ds p hp (λj t v hj hvv=>by
  have hok:=hval j t v (by simpa using hj) (by simpa using hvv);refine⟨λha=> ?_,λha=> ?_⟩
  .unfold Value.okWide at hok;unfold WS at ha;split at hok
   .obtain⟨cs,rfl,_⟩:=hok;exact⟨cs,rfl⟩
   .obtain⟨cs,rfl,_⟩:=hok;exact⟨cs,rfl⟩
   .rename_i h1 h2;split at ha
    .rename_i fs hu;exact absurd hu (h1 fs)
    .rename_i k e hu;exact absurd hu (h2 k e)
    .cases ha
  .obtain⟨m,hm⟩:∃m,YJ P (m+1) t=af:=by
    have:=hp t (List.mem_of_getElem? hj)
    cases n with
    |zero=>simp[YJ]at this
    |succ n=>exact⟨n,this⟩
   unfold Value.okWide at hok;unfold YJ at hm;unfold WS at ha;split at hm <;> rename_i hu <;> simp only[hu]at hok ha
   all_goals first
    |(cases ha;done)
    |(cases hm;done)
    |(unfold Cell.okWide Cell.ok at hok;simp only[hu]at hok;cases v <;> first|rfl|(simp at hok;done))) hA
 have hcall:=hc xs x1 x2 (ia W) args.toList (ZSU W) rfl x2;rw[Array.toArray_toList]at hcall;refine Calls.mono hcall ?_;rintro e W' ⟨v,σ',rfl,rfl,hH,hto,hok,yK⟩;have hbv:v=.bool af:=by simpa[yH,Dv.isAgg,Pl.isAgg,yG,aw] using yK
 subst hbv;have hb:=ZGT hto;simp only[yar]at hW';have hlt:=hW'.lt
 have hsame:∀z∈p,W.sameAt σ'.w z:=by
  intro z hz;have hz':=hlt z hz
  cases z with
  |cell b o=>exact hb.cell (p:=⟨b,o,ae⟩) hz'
  |map b=>exact hb.block b hz'
 have hfn:=hs ds zV.2;refine⟨_,rfl,ZAj (pa:=p) (pv:=[]) hW' (λb sp hd=> ?_) (λsp h=> ?_) (λsp h=> ?_) (by simp) hb ?_⟩
 .rw[yar,hfn,hr];exact trodAll_cons_mk (shut_bool ht _) trodAll_mk0
 .rw[yar,hfn];exact Zsh fn.params.toList args.toList ds p hp hA hsame h
 .rw[yar,hfn,hv];rfl
 .intro j t r hj hjr;rw[hr]at hj hjr
  cases j with
  |zero=>
   simp at hj;subst hj;have:r=.bool af:=by simpa[Value.resultList] using hjr.symm
   subst this
   exact okWide_bool_mk ht _
  |succ j=>simp at hj
end
end Go.Ev
namespace Go.Ev
end Go.Ev
end
section
namespace Go.Ev
mutual
def Ty.Wf:(t:Ty)->t.aQ->Prop
 |.int k,n=>(Lit.int k n).wf=af
 |.u8,_=>True
 |.u32,_=>True
 |.u64,_=>True
 |.bool,_=>True
 |.str,s=>s.size<=maxLen
 |.sl t,l=>List.length l<=maxLen/\∀x,List.Mem x l->Ty.Wf t x
 |.arr n t,l=>List.length l=n/\∀x,List.Mem x l->Ty.Wf t x
 |.st fs,x=>Ty.tn fs x
def Ty.tn:(fs:yL Ty)->Ty.aH fs->Prop
 |[],_=>True
 |[t],x=>Ty.Wf t x
 |t::u::r,x=>Ty.Wf t x.1/\Ty.tn (u::r) x.2
end
mutual
def oq(P:yg):Nat->yc->Ty->Bool
 |0,_,_=>ag
 |n+1,t,T=>match P.underlying t,T with
  |some (.int .u8),.u8=>af
  |some (.int .u32),.u32=>af
  |some (.int .u64),.u64=>af
  |some (.int k),.int k'=>ah (k=k')
  |some .bool,.bool=>af
  |some .string,.str=>af
  |some (.slice e),.sl T'=>P.cellsOf e==T'.size&&oq P n e T'
  |some (.array m e),.arr m' T'=>m==m'&&(P.cellsOf e==T'.size&&oq P n e T')
  |some (.struct fs),.st Ts=>eE P n fs.toList Ts
  |_,_=>ag
def eE(P:yg):Nat->yL Field->yL Ty->Bool
 |0,_,_=>ag
 |_+1,[],[]=>af
 |n+1,f::fs,T::Ts=>oq P n f.type T&&eE P n fs Ts
 |_+1,_,_=>ag
end
theorem ZT6{m:Int}(h:(Lit.int .u8 m).wf=af):∃b:yB,m=(b.toNat:Int):=by
 simp only[Lit.wf,yi,yP]at h;have h1:(0:Int)<=m:=h.1;have h2:m<=255:=h.2;refine⟨yav m.toNat, ?_⟩;have:(yav m.toNat).toNat=m.toNat:=by simp;omega
 rw[this];omega
theorem ZSW{m:Int}(h:(Lit.int .u32 m).wf=af):∃b:yV,m=(b.toNat:Int):=by
 simp only[Lit.wf,yi,yP]at h;have h1:(0:Int)<=m:=h.1;have h2:m<=4294967295:=h.2;refine⟨ybq m.toNat, ?_⟩;have:(ybq m.toNat).toNat=m.toNat:=by simp;omega
 rw[this];omega
theorem ZSX{m:Int}(h:(Lit.int .u64 m).wf=af):∃b:yU,m=(b.toNat:Int):=by
 simp only[Lit.wf,yi,yP]at h;have h1:(0:Int)<=m:=h.1;have h2:m<=18446744073709551615:=h.2;refine⟨yv m.toNat, ?_⟩;have:(yv m.toNat).toNat=m.toNat:=by simp;omega
 rw[this];omega
theorem KW{α β:Type}{f:α->β}{R:α->Prop}:∀{ys:yL β},(∀y,y∈ys->∃x,y=f x/\R x)->∃l:yL α,ys=l.map f/\∀x,List.Mem x l->R x
 |[],_=>⟨[],rfl,λx hx=>by cases hx⟩
 |y::ys,h=>by
  obtain⟨x,rfl,hx⟩:=h y (yax ..);obtain⟨l,rfl,hl⟩:=KW (λz hz=>h z (yaz _ hz))
  exact⟨x::l,rfl,λz hz=>by
   cases hz with
   |head=>exact hx
   |tail _ hz=>exact hl z hz⟩
mutual
theorem pL{P:yg}:∀(m n:Nat)(t:yc)(T:Ty)(x:Pl),oq P m t T=af->dA P n t x->∃v:T.aQ,T.Wf v/\x=T.enc v
 |0,_,_,_,_,h,_=>by simp[oq]at h
 |_+1,0,_,_,_,_,h=>by simp[dA]at h
 |m+1,n+1,t,T,x,h,hw=>by
  unfold oq at h;split at h
  .rename_i hu;unfold dA at hw;rw[hu]at hw;cases x <;> try exact hw.elim
   obtain⟨rfl,h2⟩:=hw;obtain⟨b,rfl⟩:=ZT6 h2;exact⟨b,zZ,rfl⟩
  .rename_i hu;unfold dA at hw;rw[hu]at hw;cases x <;> try exact hw.elim
   obtain⟨rfl,h2⟩:=hw;obtain⟨b,rfl⟩:=ZSW h2;exact⟨b,zZ,rfl⟩
  .rename_i hu;unfold dA at hw;rw[hu]at hw;cases x <;> try exact hw.elim
   obtain⟨rfl,h2⟩:=hw;obtain⟨b,rfl⟩:=ZSX h2;exact⟨b,zZ,rfl⟩
  .rename_i k k' hu;have h:=yF h;subst h;unfold dA at hw;rw[hu]at hw;cases x <;> try exact hw.elim
   obtain⟨rfl,h2⟩:=hw;exact⟨_,h2,rfl⟩
  .rename_i hu;unfold dA at hw;rw[hu]at hw;cases x <;> try exact hw.elim
   exact⟨_,zZ,rfl⟩
  .rename_i hu;unfold dA at hw;rw[hu]at hw;cases x <;> try exact hw.elim
   exact⟨_,hw,rfl⟩
  .rename_i e T' hu;simp only[yi,yT]at h;unfold dA at hw;rw[hu]at hw;cases x <;> try exact hw.elim
   obtain⟨rfl,rfl,h3,h4⟩:=hw
   obtain⟨l,rfl,h5⟩:=KW λy hy=>(by
    obtain⟨v,a,b⟩:=pL m n e T' y h.2 (h4 y hy);exact⟨v,b,a⟩:∃v:T'.aQ,y=T'.enc v/\T'.Wf v)
   refine⟨l,⟨by simpa using h3,h5⟩, ?_⟩;rw[h.1];rfl
  .rename_i m0 e m' T' hu;simp only[yi,yT]at h;obtain⟨rfl,h⟩:=h;unfold dA at hw;rw[hu]at hw;cases x <;> try exact hw.elim
   obtain⟨rfl,rfl,h3,h4⟩:=hw
   obtain⟨l,rfl,h5⟩:=KW λy hy=>(by
    obtain⟨v,a,b⟩:=pL m n e T' y h.2 (h4 y hy);exact⟨v,b,a⟩:∃v:T'.aQ,y=T'.enc v/\T'.Wf v)
   refine⟨l,⟨by simpa using h3,h5⟩, ?_⟩;rw[h.1];rfl
  .rename_i fs Ts hu;unfold dA at hw;rw[hu]at hw;cases x <;> try exact hw.elim
   rename_i xs;obtain⟨v,h1,rfl⟩:=jI m n fs.toList Ts xs h hw;exact⟨v,h1,rfl⟩
  .cases h
theorem jI{P:yg}:∀(m n:Nat)(fs:yL Field)(Ts:yL Ty)(xs:yL Pl),eE P m fs Ts=af->xo (dA P n) fs xs->∃v:Ty.aH Ts,Ty.tn Ts v/\xs=Ty.encs Ts v
 |0,_,_,_,_,h,_=>by simp[eE]at h
 |m+1,n,[],[],[],h,hw=>⟨(),zZ,rfl⟩
 |m+1,n,[],[],_::_,h,hw=>hw.elim
 |m+1,n,[],_::_,_,h,hw=>by cases h
 |m+1,n,_::_,[],_,h,hw=>by cases h
 |m+1,n,_::_,_::_,[],h,hw=>hw.elim
 |m+1,n,f::fs,[T],x::xs,h,hw=>by
  simp only[eE,yi]at h;obtain⟨v,h1,rfl⟩:=pL m n f.type T x h.1 hw.1
  cases fs with
  |nil=>cases xs with
   |nil=>exact⟨v,h1,rfl⟩
   |cons _ _=>exact hw.2.elim
  |cons _ _=>
   cases m with
   |zero=>exact absurd h.2 (by simp[eE])
   |succ m=>exact absurd h.2 (by simp[eE])
 |m+1,n,f::fs,T::U::Ts,x::xs,h,hw=>by
  simp only[eE,yi]at h;obtain⟨v,h1,rfl⟩:=pL m n f.type T x h.1 hw.1;obtain⟨w,h2,rfl⟩:=jI m n fs (U::Ts) xs h.2 hw.2;exact⟨(v,w),⟨h1,h2⟩,rfl⟩
end
theorem ZC6{I X:Type}{step:I->yO (I⊕X)}(Inv:I->Prop)(mu:I->Nat)(Post:X->Prop)
 (h:∀i,Inv i->(∃j,step i=ab (.inl j)/\Inv j/\mu j < mu i)\/(∃x,step i=ab (.inr x)/\Post x)):∀(n:Nat)(i:I),Inv i->mu i < n->∃x,Zb step n i=ab x/\Post x
 |0,i,_,hn=>by omega
 |n+1,i,hi,hn=>by
  unfold Zb;rcases h i hi with⟨j,h1,h2,h3⟩|⟨x,h1,h2⟩
  .rw[h1,ya];exact ZC6 Inv mu Post h n j h2 (by omega)
  .rw[h1,ya];exact⟨x,rfl,h2⟩
theorem VO{I X:Type}{step:I->yO (I⊕X)}(Inv:I->Prop)(mu:I->Nat)(Post:X->Prop)
 (h:∀i,Inv i->(∃j,step i=ab (.inl j)/\Inv j/\mu j < mu i)\/(∃x,step i=ab (.inr x)/\Post x)) (i:I) (hi:Inv i) (hm:mu i < 18446744073709551616):∃x,Zb step yD i=ab x/\Post x:=by
 refine ZC6 Inv mu Post h yD i hi ?_;rw[lr];exact hm
theorem ZT{z:Int}(h1: -9223372036854775808<=z)(h2:z<=9223372036854775807):wi z=z:=by
 simp only[wi,IntKind.wrap,IntKind.signed,IntKind.bits];simp;omega
theorem pM{α:Type}{l:yL α}{i:Int}{y:α}(h0:0<=i)(h:l[i.toNat]? =ab y):idx l i=ab y:=by
 unfold idx;rw[yW h0,h]
theorem iA{α:Type}{l:yL α}{i:Nat}(h:i < l.length):∃y,l[i]? =ab y:=⟨_,yac h⟩
theorem ZV{i:Int}{n:Nat}(h1:0<=i)(h2:i < (n:Int)):aS i n=af:=by simp[aS,h1,h2]
theorem ZL{n m b:Nat}(h1:(n+m)*b<=140737488355328)(h2:n+m<=9223372036854775807):bN n m b=af:=by
 unfold bN;rw[yi];exact⟨yY h1,yY h2⟩
def tp:(ts:yL Ty)->Ty.aH ts->yL TD
 |[],_=>[]
 |[t],x=>[.p (.v t x)]
 |t::u::r,x=>.p (.v t x.1)::tp (u::r) x.2
theorem ZKq:∀(ts:yL Ty)(x:Ty.aH ts),Sh.fills (ts.map .v) (dz ts x)=ab (tp ts x,[])
 |[],_=>rfl
 |[t],x=>by
  rw[show dz [t] x=[⟨t,x⟩] from rfl,yag,List.map_nil,Sh.fills,Sh.fill]
  have e:=YF t x;dsimp only;rw[e]
  rfl
 |t::u::r,x=>by
  have h:=ZKq (u::r) x.2;have e:=YF t x.1;rw[show dz (t::u::r) x=⟨t,x.1⟩::dz (u::r) x.2 from rfl,yag,Sh.fills,Sh.fill]
  dsimp only;rw[e,yaa,ya,h];rfl
theorem ZOn{L:Lk}:∀(ts:yL Ty)(x:Ty.aH ts),TD.aE L (tp ts x)=(Ty.encs ts x).map .p
 |[],_=>rfl
 |[t],x=>rfl
 |t::u::r,x=>by
  rw[show tp (t::u::r) x=.p (.v t x.1)::tp (u::r) x.2 from rfl,ZH,yag, <-ZH,ZOn (u::r) x.2]
  rfl
theorem ZQM{P:yg}{g:yq}{ts:yL Ty}{M:Ty.aH ts->yO Bool}(hok:Fs.Ok (⟨g,ts.map .v,[],ts,[⟨.ret,[(0,.v .bool)],[],[.bool]⟩],M⟩:Fs P)){x:Ty.aH ts}(h:M x=ab af):
 cH P g ((Ty.encs ts x).map .p) [] (.p (.bool af)) []:=by
 obtain⟨args,R,H,h1,h2,h3⟩:=hok x af h;have e:=(ZKq ts x).symm.trans (show Sh.fills (ts.map .v) (dz ts x)=ab (args,R) from h1)
 cases e;cases h2
 obtain⟨r,h4,h5⟩:=h3 _ [⟨.bool,af⟩] ([.p (.v .bool af)],[]) ⟨rfl,rfl⟩ (by
  simp only[QQ,pt];rfl)
 cases h4;rw[<-ZOn (L:=lk [])];exact h5
theorem ot{P:yg}{s:Fs P}(h:s.Ok){M:Ty.aH s.ins->yO (bD.sum s.xs)}(e:∀x,M x=s.M x):Fs.Ok (P:=P) { s with M:=M}:=by
 have:M=s.M:=funext e;subst this;exact h
def tq(P:yg)(m:Nat):yL yc->yL Ty->Bool
 |[],[]=>af
 |t::ts,T::Ts=>oq P m t T&&tq P m ts Ts
 |_,_=>ag
theorem ZKr{P:yg}{m n:Nat}:∀{ts:yL yc}{Ts:yL Ty}{xs:yL Pl},tq P m ts Ts=af->xq P n ts xs->∃v:Ty.aH Ts,Ty.tn Ts v/\xs=Ty.encs Ts v
 |[],[],[],_,_=>⟨(),zZ,rfl⟩
 |[],[],_::_,_,h=>h.elim
 |[],_::_,_,h,_=>by cases h
 |_::_,[],_,h,_=>by cases h
 |_::_,_::_,[],_,h=>h.elim
 |t::ts,[T],x::xs,h,hw=>by
  simp only[tq,yi]at h;obtain⟨v,h1,rfl⟩:=pL m n t T x h.1 hw.1
  cases ts with
  |nil=>cases xs with
   |nil=>exact⟨v,h1,rfl⟩
   |cons _ _=>exact hw.2.elim
  |cons _ _=>exact absurd h.2 (by simp[tq])
 |t::ts,T::U::Ts,x::xs,h,hw=>by
  simp only[tq,yi]at h;obtain⟨v,h1,rfl⟩:=pL m n t T x h.1 hw.1;obtain⟨w,h2,rfl⟩:=ZKr (Ts:=U::Ts) h.2 hw.2;exact⟨(v,w),⟨h1,h2⟩,rfl⟩
theorem KX{P:yg}{g:yq}{t:Ty}{xs:yL bD}{MA M:Ty.aH [.sl t]->yO (bD.sum xs)}(hA:Fs.Ok (⟨g,[.sl af t],[],[.sl t],xs,MA⟩:Fs P))
 (h1:M ([]:yL t.aQ)=ae) (h2:∀(x:t.aQ)(l:yL t.aQ),M (x::l)=MA (x::l)):Fs.Ok (⟨g,[.v (.sl t)],[],[.sl t],xs,M⟩:Fs P):=by
 intro l o hM;have key:∀(l:yL t.aQ),Ty.cast (.sl t) (.sl t) l=ab l:=λl=>YF (.sl t) l
 have h3:∀l:yL t.aQ,M l=ab o->MA l=ab o/\l≠[]:=λl hl=>by
  cases l with
  |nil=>rw[h1]at hl;cases hl
  |cons x l=>exact⟨by rw[<-h2];exact hl,by simp⟩
 obtain⟨hMA,hne⟩:=h3 l hM;obtain⟨a1,R1,H1,f1,f2,f3⟩:=hA l o hMA
 have e1:a1=[.p (.sl (ab af) t l)]/\R1=[]:=by
  have:Sh.fills [.sl af t] [(⟨.sl t,l⟩:TV)]=ab (a1,R1):=f1;simp only[Sh.fills,Sh.fill]at this;rw[key l]at this;have this:ab (([.p (.sl (ab af) t l)]:yL TD),([]:yL TV))=ab (a1,R1):=this;cases this;exact⟨rfl,rfl⟩
 obtain⟨rfl,rfl⟩:=e1;cases f2;refine⟨[.p (.v (.sl t) l)],[],[], ?_,rfl,λe vs s' hs hf=> ?_⟩
 .show Sh.fills [.v (.sl t)] [(⟨.sl t,l⟩:TV)]=_;simp only[Sh.fills,Sh.fill];rw[key l];rfl
 .obtain⟨r,r1,r2⟩:=f3 e vs s' hs hf;exact⟨r,r1,ZJN (xs:=List.map t.enc l) r2 λhl=>absurd (List.map_eq_nil_iff.1 hl) hne⟩
theorem KY{P:yg}{g:yq}{ps:yL Sh}{es:yL bf}{ins:yL Ty}{xr xp:bD}{MR:Ty.aH ins->yO (bD.sum [xr])}{MP:Ty.aH ins->yO (bD.sum [xp])}(c:Ty.aH ins->Bool)
 (hR:Fs.Ok (⟨g,ps,es,ins,[xr],MR⟩:Fs P)) (hP:Fs.Ok (⟨g,ps,es,ins,[xp],MP⟩:Fs P)):Fs.Ok (⟨g,ps,es,ins,[xr,xp],λx=>if c x=af then(MP x).map .inr else(MR x).map .inl⟩:Fs P):=by
 intro x o hM
 replace hM:(if c x=af then(MP x).map Sum.inr else(MR x).map Sum.inl)=ab o:=hM
 split at hM
 .obtain⟨y,h1,rfl⟩:=yn.1 hM;obtain⟨a,R,H,f1,f2,f3⟩:=hP x y h1;exact⟨a,R,H,f1,f2,λe vs s' hs hf=>f3 e vs s' hs hf⟩
 .obtain⟨y,h1,rfl⟩:=yn.1 hM;obtain⟨a,R,H,f1,f2,f3⟩:=hR x y h1;exact⟨a,R,H,f1,f2,λe vs s' hs hf=>f3 e vs s' hs hf⟩
end Go.Ev
end
section
namespace Go.Proofs.YtekdgjajmennjaaGreat
open Go.Ev Go.RowKit Go.Lib
abbrev zP(t:Ty):List bD:=[⟨.ret,[(0,.v t)],[],[t]⟩]
theorem ZIS(w:World):Calls yb 249 #[.slice ae 0 0,.int .i64 0] w λe w'=>e=.returned (.slice ae 0 0)/\w'=w:=by
 go_enter Tryz.func249,Tryz.ntmps249
 go_wp2
 go_ret
 exact⟨rfl,rfl⟩
theorem ZLW(n:Nat)(w:World)(h0:0 < n)(hn:n<=Zv):Calls yb 249 #[.slice ae 0 0,.int .i64 n] w λe w'=>e=.returned (.slice (ab ⟨w.heap.size,0,ae⟩) 0 (grownCap w n 0 5))/\
 w'=w.drew.alloc (.cells (Builtin.zeroCells #[.int .u8 0] n++Builtin.zeroCells #[.int .u8 0] (grownCap w n 0 5 - n)) 5):=by
 have hb:n<=140737488355328:=hn;have h1:¬((n:Int) < 0):=by omega
 have h3:wrap64 ((n:Int) - ((0:Int) - (0:Int)))=(n:Int):=by unfold wrap64;omega
 have h3':wrap64 ((n:Int) - 0)=(n:Int):=by unfold wrap64;omega
 have h3'':wrap64 (n:Int)=(n:Int):=by unfold wrap64;omega
 have h4:(n:Int) > 0:=by omega
 have hi:∃i,yb.info? 5=ab i/\i.zero=ab (.int .u8 0)/\i.size=1/\i.bytes=1:=by
  have h:(yb.info? 5).map (λi=>(i.zero,i.size,i.bytes))=ab (ab (.int .u8 0),1,1):=by kernel_rfl
  obtain⟨i,h1,h2⟩:=yn.1 h;simp only[Prod.mk.injEq]at h2;exact⟨i,h1,h2.1,h2.2.1,h2.2.2⟩
 obtain⟨i,tH,jK,hi3,hi4⟩:=hi
 have hrz:∀ty,(Builtin.append_ #[41,3] ty #[.slice ae 0 0,.int .i64 n]).run yb w=
  .ok (.slice (ab ⟨w.heap.size,0,ae⟩) n (grownCap w n 0 5)) (w.drew.alloc (.cells (Builtin.zeroCells #[.int .u8 0] n++Builtin.zeroCells #[.int .u8 0] (grownCap w n 0 5 - n)) 5)):=λty=>by
  have h:=Lib.run_append_grow_zeros (P:=yb) w 41 3 ty 5 i (.int .u8 0) .i64 .i64 Tryz.underlying41 Tryz.underlying3 tH jK ae 0 0 [] (by rw[hi3];simp[Builtin.firstCells]) n h0 (by omega) (by omega) (by omega)
   (by rw[hi4];omega) (by rw[yat];exact growslice_fits h0 (by rw[hi4];omega))
  simpa[Value.cells] using h
 obtain⟨G,hG⟩:∃G,G=grownCap w n 0 5:=⟨_,rfl⟩;have hGn:=grownCap_ge w n 0 5;have hG63:=grownCap_le_maxLen w n 0 5 (by unfold maxLen;omega);unfold maxLen at hG63;rw[<-hG]at hrz hGn hG63 ⊢;clear hG
 go_enter Tryz.func249,Tryz.ntmps249
 go_wp2_with (at_builtin;refine Lib.wpList_append_run _ rfl _ _ _ _ rfl _ _ rfl rfl _ _ (hrz _) ?_)
 all_goals (go_ret;exact⟨rfl,rfl⟩)
theorem ZOp(n:Nat)(hn:n<=Zv):cH yb 249 [.p (.sl (ab ag) 1 []),.p (.int .i64 (n:Int))] [] (.own 0 ae 1 []) [.log 1 5 []]:=by
 intro σ vs ok hH hvs;simp only[aC]at hvs;obtain⟨v,_,rfl,hv,v2,_,rfl,hv2,rfl⟩:=hvs;obtain rfl:=nA hv
 obtain rfl:v2=.int .i64 n:=by
  have:=hv2.2 rfl;simpa[yG,aw] using this
 have hm:σ.m=[]:=List.eq_nil_of_length_eq_zero (by rw[ok.len,hH];rfl);rcases ycd n with rfl|h0
 .refine(ZIS σ.w).mono λe w'⟨he,hw⟩=> ?_;subst he;subst hw;obtain⟨to,ok'⟩:=VV (σ':={ σ with m:=σ.m++[ae],H:=σ.H++[.log 1 5 []]}) ok rfl rfl rfl rfl (World.grownBy.refl σ.w ae) (.inl rfl) (λ_=>.inl ⟨rfl,rfl⟩);refine⟨_,{ σ with m:=σ.m++[ae],H:=σ.H++[.log 1 5 []]},rfl,rfl,by simp[hH],to,ok', ?_⟩;rw[Zi rfl];simp only[yG];exact⟨λ_ hx=>(by cases hx),ae,0,rfl,yj _,by simp[maxLen],YE _,λ_=>rfl,λh=>absurd rfl h,5,[],by simp[hH],yj _,λ_=>.inl ⟨by simp[hm],rfl,rfl⟩⟩
 .refine(ZLW n σ.w h0 hn).mono λe w'⟨he,hw⟩=> ?_;subst he;subst hw;have hge:=grownCap_ge σ.w n 0 5;have hcm:=grownCap_le_maxLen σ.w n 0 5 (by have:n<=140737488355328:=hn;unfold maxLen;omega)
  have hsz:(Builtin.zeroCells #[.int .u8 0] n++Builtin.zeroCells #[.int .u8 0] (grownCap σ.w n 0 5 - n):Array yh).size=grownCap σ.w n 0 5*1:=by
   simp only[Array.size_append,size_zeroCells];simp;omega
  let cs:Array yh:=Builtin.zeroCells #[.int .u8 0] n++Builtin.zeroCells #[.int .u8 0] (grownCap σ.w n 0 5 - n);let σ':Sg:={ σ with m:=σ.m++[ab σ.w.heap.size],H:=σ.H++[.log 1 5 []],w:=σ.w.drew.alloc (.cells cs 5)};have zB:σ'.w.heap[σ.w.heap.size]? =ab (.cells cs 5 (0,0)):=heap_alloc_new σ.w.drew _
  obtain⟨to,ok'⟩:=VV (σ':=σ') ok rfl rfl rfl rfl (Wu σ.w (.cells cs 5) ae) (.inr ⟨_,rfl,yj _,by simp[σ']⟩)
   (λleaf=>.inr ⟨σ.w.heap.size,_,grownCap σ.w n 0 5,rfl,zB,hsz,Nat.zero_le _,hcm,λ_ hx=>(by cases hx),by simp[aq]⟩)
  refine⟨_,σ',rfl,rfl,by simp[σ',hH],to,ok', ?_⟩;rw[Zi rfl];simp only[yG];exact⟨λ_ hx=>(by cases hx),_,_,rfl,Nat.zero_le _,hcm,YE _,λh=>(by cases h),λh=>absurd rfl h,5,[],by simp[σ',hH],yj _,λ_=>.inr ⟨_,_,by simp[σ',hm],rfl,zB,hsz⟩⟩
end Go.Proofs.YtekdgjajmennjaaGreat
end
section
set_option maxRecDepth 4000
namespace Go.Proofs.YtekdgjajmennjaaGreat
open Go Go.Ev
noncomputable section
abbrev yI:Ty:=.int .i64
def VW(F:Nat)(a0:yU):yO (Bool):=
 ab (ah (a0 < 2305843009213688669))
def tw:Fs yb:=⟨61,[.v .u64],[],[.u64],(zP .bool),λx=>VW yD x⟩
theorem xt:tw.Ok:=aF { still:=[2]} [] [] trivial
def Xn(F:Nat)(a0:Int)(a1:Int)(a2:Int):yO (Bool):=
 if(ah (a1<=a0))=af then
  ab (ah (a0<=a2))
 else
 ab ag
def Zop:Fs yb:=⟨200,[.v yI,.v yI,.v yI],[],[yI,yI,yI],(zP .bool),λx=>Xn yD x.1 x.2.1 x.2.2⟩
theorem Zv8:Zop.Ok:=aF { still:=[6]} [] [] trivial
abbrev ib:Ty:=(.st [yI,yI,yI,yI,yI,yI])
abbrev aX:Type:=(Int×Int×Int×Int×Int×Int)
def xu(F:Nat)(a0:aX):yO (Bool):=
 (Xn F a0.1 0 65536).bind λo1=>
 if o1=af then
  (Xn F a0.2.2.1 1 4096).bind λo2=>
  if o2=af then
   (Xn F a0.2.2.2.1 0 16).bind λo3=>
   if o3=af then
    (Xn F a0.2.1 a0.1 1125899906842624).bind λo4=>
    if o4=af then
     (Xn F a0.2.2.2.2.1 1 1125899906842624).bind λo5=>
     if o5=af then
      (Xn F a0.2.2.2.2.2 0 1125899906842624).bind λo6=>
      ab o6
     else
     ab ag
    else
    ab ag
   else
   ab ag
  else
  ab ag
 else
 ab ag
def Zsi:Fs yb:=⟨131,[.v ib],[],[ib],(zP .bool),λx=>xu yD x⟩
def xv:HI:={ still:=[2,7,12,18,25,27,33,39]}
theorem ZAl:Zsi.Ok:=aF xv [] [Zop] ⟨Zv8,ao⟩
def mG:ByteArray:=⟨#[0,1,2,2,3,3,3,3,4,4,4,4,4,4,4,4,5,5,5,5,5,5,5,5,5,5,5,5,5,5,5,5,6,6,6,6,6,6,6,6,6,6,6,6,6,6,6,6,6,6,6,6,6,6,6,6,6,6,6,6,6,6,6,6,7,7,7,7,7,7,7,7,7,7,7,7,7,7,7,7,7,7,7,7,7,7,7,7,7,7,7,7,7,7,7,7,7,7,7,7,7,7,7,7,7,7,7,7,7,7,7,7,7,7,7,7,7,7,7,7,7,7,7,7,7,7,7,7,8,8,8,8,8,8,8,8,8,8,8,8,8,8,8,8,8,8,8,8,8,8,8,8,8,8,8,8,8,8,8,8,8,8,8,8,8,8,8,8,8,8,8,8,8,8,8,8,8,8,8,8,8,8,8,8,8,8,8,8,8,8,8,8,8,8,8,8,8,8,8,8,8,8,8,8,8,8,8,8,8,8,8,8,8,8,8,8,8,8,8,8,8,8,8,8,8,8,8,8,8,8,8,8,8,8,8,8,8,8,8,8,8,8,8,8,8,8,8,8,8,8,8,8,8,8,8,8]⟩
def Zxf(F:Nat)(a0:yU):yO (Int):=
 if(ah (a0 >= 4294967296))=af then
  if(ah ((ZJ a0 32) >= 65536))=af then
   if(ah ((ZJ (ZJ a0 32) 16) >= 256))=af then
    let y7:yB:=w8 ((ZJ (ZJ (ZJ a0 32) 16) 8).toNat:Int)
    (idx (fg mG) (y7.toNat:Int)).bind λe8=>
    ab (wi (56+(e8.toNat:Int)))
   else
   (idx (fg mG) ((w8 ((ZJ (ZJ a0 32) 16).toNat:Int)).toNat:Int)).bind λe9=>
   ab (wi (48+(e9.toNat:Int)))
  else
  if(ah ((ZJ a0 32) >= 256))=af then
   (idx (fg mG) ((w8 ((ZJ (ZJ a0 32) 8).toNat:Int)).toNat:Int)).bind λa=>
   ab (wi (40+(a.toNat:Int)))
  else
  (idx (fg mG) ((w8 ((ZJ a0 32).toNat:Int)).toNat:Int)).bind λb=>
  ab (wi (32+(b.toNat:Int)))
 else
 if(ah (a0 >= 65536))=af then
  if(ah ((ZJ a0 16) >= 256))=af then
   (idx (fg mG) ((w8 ((ZJ (ZJ a0 16) 8).toNat:Int)).toNat:Int)).bind λc=>
   ab (wi (24+(c.toNat:Int)))
  else
  (idx (fg mG) ((w8 ((ZJ a0 16).toNat:Int)).toNat:Int)).bind λd=>
  ab (wi (16+(d.toNat:Int)))
 else
 if(ah (a0 >= 256))=af then
  (idx (fg mG) ((w8 ((ZJ a0 8).toNat:Int)).toNat:Int)).bind λe=>
  ab (wi (8+(e.toNat:Int)))
 else
 (idx (fg mG) ((w8 (a0.toNat:Int)).toNat:Int)).bind λf=>
 ab (wi (0+(f.toNat:Int)))
def Zuz:Fs yb:=⟨258,[.v .u64],[],[.u64],(zP yI),λx=>Zxf yD x⟩
theorem ZBM:Zuz.Ok:=aF { still:=[2]} [] [] trivial
def YN(F:Nat)(a0:yU):yO (Int):=
 (Zxf F a0).bind λa=>
 ab (wi (64 - a))
def Zeq:Fs yb:=⟨253,[.v .u64],[],[.u64],(zP yI),λx=>YN yD x⟩
theorem Znx:Zeq.Ok:=aF { still:=[2,3]} [] [Zuz] ⟨ZBM,ao⟩
abbrev qP:=yU×yU×yU×yU×yU×yU×yU×yU
def tx(F:Nat)(s:(yU×qP)):yO ((yU×qP)⊕(qP)):=
 if(ah (s.2.2.2.2.2.2.2.1 >= 4294967296))=af then
  let a:Bool:=ah ((s.2.2.2.2.2.2.2.2+s.2.2.1) >= 4294967296)
  if a=af then
   ab (.inr (s.1,s.2.1,s.2.2.1,s.2.2.2.1,s.2.2.2.2.1,s.2.2.2.2.2.1,s.2.2.2.2.2.2.1,s.2.2.2.2.2.2.2.1 - 1))
  else
  ab (.inl (s.1,s.2.1,s.2.2.1,s.2.2.2.1,s.2.2.2.2.1,s.2.2.2.2.2.1,s.2.2.2.2.2.2.1,s.2.2.2.2.2.2.2.1 - 1,s.2.2.2.2.2.2.2.2+s.2.2.1))
 else
 let b:Bool:=ah ((s.2.2.2.2.2.2.2.1*s.2.2.2.1) > ((4294967296*s.2.2.2.2.2.2.2.2)+s.2.2.2.2.2.1))
 if b=af then
  let c:Bool:=ah ((s.2.2.2.2.2.2.2.2+s.2.2.1) >= 4294967296)
  if c=af then
   ab (.inr (s.1,s.2.1,s.2.2.1,s.2.2.2.1,s.2.2.2.2.1,s.2.2.2.2.2.1,s.2.2.2.2.2.2.1,s.2.2.2.2.2.2.2.1 - 1))
  else
  ab (.inl (s.1,s.2.1,s.2.2.1,s.2.2.2.1,s.2.2.2.2.1,s.2.2.2.2.2.1,s.2.2.2.2.2.2.1,s.2.2.2.2.2.2.2.1 - 1,s.2.2.2.2.2.2.2.2+s.2.2.1))
 else
 ab (.inr (s.1,s.2.1,s.2.2.1,s.2.2.2.1,s.2.2.2.2.1,s.2.2.2.2.2.1,s.2.2.2.2.2.2.1,s.2.2.2.2.2.2.2.1))
def Zsj:Lp:=⟨[(2,.v .u64),(8,.v .u64),(9,.v .u64),(10,.v .u64),(11,.v .u64),(13,.v .u64),(14,.v .u64),(15,.v .u64),(16,.v .u64)],[],[.u64,.u64,.u64,.u64,.u64,.u64,.u64,.u64,.u64],[⟨.exit 0,[(2,.v .u64),(8,.v .u64),(9,.v .u64),(10,.v .u64),(11,.v .u64),(13,.v .u64),(14,.v .u64),(15,.v .u64)],[],[.u64,.u64,.u64,.u64,.u64,.u64,.u64,.u64]⟩],Zb (tx yD) yD⟩
theorem Zv9:Zsj.aT yb 233 0:=Zm { still:=[6,7,34]} [] [] trivial
def tz(F:Nat)(s:(yU×qP)):yO ((yU×qP)⊕(yU×yU×yU×yU×yU×yU)):=
 if(ah (s.2.2.2.2.2.2.2.2 >= 4294967296))=af then
  let a:Bool:=ah ((s.2.2.2.2.2.2.1+s.2.2.1) >= 4294967296)
  if a=af then
   ab (.inr (s.1,s.2.1,s.2.2.2.2.1,s.2.2.2.2.2.1,s.2.2.2.2.2.2.2.1,s.2.2.2.2.2.2.2.2 - 1))
  else
  ab (.inl (s.1,s.2.1,s.2.2.1,s.2.2.2.1,s.2.2.2.2.1,s.2.2.2.2.2.1,s.2.2.2.2.2.2.1+s.2.2.1,s.2.2.2.2.2.2.2.1,s.2.2.2.2.2.2.2.2 - 1))
 else
 let b:Bool:=ah ((s.2.2.2.2.2.2.2.2*s.2.2.2.1) > ((4294967296*s.2.2.2.2.2.2.1)+s.2.2.2.2.1))
 if b=af then
  let c:Bool:=ah ((s.2.2.2.2.2.2.1+s.2.2.1) >= 4294967296)
  if c=af then
   ab (.inr (s.1,s.2.1,s.2.2.2.2.1,s.2.2.2.2.2.1,s.2.2.2.2.2.2.2.1,s.2.2.2.2.2.2.2.2 - 1))
  else
  ab (.inl (s.1,s.2.1,s.2.2.1,s.2.2.2.1,s.2.2.2.2.1,s.2.2.2.2.2.1,s.2.2.2.2.2.2.1+s.2.2.1,s.2.2.2.2.2.2.2.1,s.2.2.2.2.2.2.2.2 - 1))
 else
 ab (.inr (s.1,s.2.1,s.2.2.2.2.1,s.2.2.2.2.2.1,s.2.2.2.2.2.2.2.1,s.2.2.2.2.2.2.2.2))
def Zsk:Lp:=⟨[(2,.v .u64),(8,.v .u64),(9,.v .u64),(10,.v .u64),(14,.v .u64),(15,.v .u64),(16,.v .u64),(17,.v .u64),(18,.v .u64)],[],[.u64,.u64,.u64,.u64,.u64,.u64,.u64,.u64,.u64],[⟨.exit 2,[(2,.v .u64),(8,.v .u64),(14,.v .u64),(15,.v .u64),(17,.v .u64),(18,.v .u64)],[],[.u64,.u64,.u64,.u64,.u64,.u64]⟩],Zb (tz yD) yD⟩
theorem Zwa:Zsk.aT yb 233 1:=Zm { still:=[6,7,34]} [] [] trivial
def xw(F:Nat)(a0:yU)(a1:yU)(a2:yU):yO ((yU×yU)):=
 if(a2==0)=af then
  ae
 else
 if(ah (a2<=a0))=af then
  ae
 else
 if(a0==0)=af then
  if(a2 !=0)=af then
   if(a2 !=0)=af then
    ab (a1 / a2,a1 % a2)
   else
   ae
  else
  ae
 else
 (YN F a2).bind λa=>
 let b:yU:=ZJ (QP a2 (min ((cD a).toNat:Int).toNat 64)) 32;let c:yU:=(QP a2 (min ((cD a).toNat:Int).toNat 64))&&&4294967295;let d:yU:=ZJ a1 (min ((64 - (cD a)).toNat:Int).toNat 64);let e:yU:=(QP a0 (min ((cD a).toNat:Int).toNat 64))|||d;let f:yU:=ZJ (QP a1 (min ((cD a).toNat:Int).toNat 64)) 32;let g:yU:=(QP a1 (min ((cD a).toNat:Int).toNat 64))&&&4294967295
 if(b !=0)=af then
  (Zb (tx F) F (QP a2 (min ((cD a).toNat:Int).toNat 64),cD a,b,c,e,f,g,e / b,e - ((e / b)*b))).bind λh=>
  let i:yU:=((h.2.2.2.2.1*4294967296)+h.2.2.2.2.2.1) - (h.2.2.2.2.2.2.2*h.1)
  if(h.2.2.1 !=0)=af then
   (Zb (tz F) F (h.1,h.2.1,h.2.2.1,h.2.2.2.1,h.2.2.2.2.2.2.1,h.2.2.2.2.2.2.2,i - ((i / h.2.2.1)*h.2.2.1),i,i / h.2.2.1)).bind λj=>
   let k:yU:=((j.2.2.2.2.1*4294967296)+j.2.2.1) - (j.2.2.2.2.2*j.1)
   ab ((j.2.2.2.1*4294967296)+j.2.2.2.2.2,ZJ k (min (j.2.1.toNat:Int).toNat 64))
  else
  ae
 else
 ae
def ZuA:Fs yb:=⟨233,[.v .u64,.v .u64,.v .u64],[],[.u64,.u64,.u64],[⟨.ret,[(0,.bi [.v .u64,.v .u64])],[],[.u64,.u64]⟩],λx=>xw yD x.1 x.2.1 x.2.2⟩
theorem ZBN:ZuA.Ok:=aF { still:=[6,7,34]} [(0,Zsj),(1,Zsk)] [Zeq] ⟨Znx,ao⟩ ⟨Zv9,Zwa,ao⟩
def tA(F:Nat)(a0:yU)(a1:yU)(a2:yU):yO (yU):=
 if(a2 !=0)=af then
  (xw F (a0 % a2) a1 a2).bind λa=>
  ab a.2
 else
 ae
def KZ(F:Nat):Fs yb:=⟨185,[.v .u64,.v .u64,.v .u64],[],[.u64,.u64,.u64],(zP .u64),λx=>tA F x.1 x.2.1 x.2.2⟩
def ZBO:Fs yb:=KZ yD
theorem ZAm:ZBO.Ok:=aF { still:=[6,12,13,14]} [] [ZuA] ⟨ZBN,ao⟩
end
end Go.Proofs.YtekdgjajmennjaaGreat
end
section
namespace Go.Ev
theorem xx(a m:yU):(a - a / m*m).toNat=a.toNat % m.toNat:=by
 have h1:a.toNat / m.toNat*m.toNat<=a.toNat:=Nat.div_mul_le_self _ _;have h2:=ybt a
 have h3:(a / m*m).toNat=a.toNat / m.toNat*m.toNat:=by
  rw[UInt64.toNat_mul,UInt64.toNat_div,yaf (by omega)]
 have h4:(a / m*m)<=a:=by rw[ycp,h3];exact h1
 rw[UInt64.toNat_sub_of_le _ _ h4,h3];have:=Nat.div_add_mod a.toNat m.toNat
 rw[ybi]at this;omega
theorem jJ(x:yU):(x&&&4294967295).toNat=x.toNat % 4294967296:=by
 rw[UInt64.toNat_and];exact Nat.and_two_pow_sub_one_eq_mod x.toNat 32
theorem gm(x:yU)(n:Nat):(ZJ x n).toNat=x.toNat / 2 ^ n:=by
 unfold ZJ;rw[yan,yaf (ycx (Nat.div_le_self ..) (ybt _))]
theorem pN{x y:yU}(h:x.toNat+y.toNat < 18446744073709551616):(x+y).toNat=x.toNat+y.toNat:=by
 rw[UInt64.toNat_add,yaf h]
theorem pO{x y:yU}(h:x.toNat*y.toNat < 18446744073709551616):(x*y).toNat=x.toNat*y.toNat:=by
 rw[UInt64.toNat_mul,yaf h]
theorem tB{a b:Nat}(ha:a < 4294967296)(hb:b < 4294967296):a*b<=18446744065119617025:=Nat.mul_le_mul (Nat.le_of_lt_succ ha) (Nat.le_of_lt_succ hb)
end Go.Ev
end
section
set_option maxRecDepth 4000
namespace Go.Proofs.YtekdgjajmennjaaGreat
open Go Go.Ev
section
variable{y1 y0 u d q r:Nat}
theorem ZT7(h:q*y1+r=u)(hc:4294967296*r+d < q*y0):u*4294967296+d < q*(y1*4294967296+y0):=by
 grind
theorem LA(h:q*y1+r=u)(hc:q*y0<=4294967296*r+d):q*(y1*4294967296+y0)<=u*4294967296+d:=by
 grind
theorem ZSY(hu:u < y1*4294967296+y0)(hd:d < 4294967296):(u*4294967296+d) / (y1*4294967296+y0) < 4294967296:=by
 rw[Nat.div_lt_iff_lt_mul (by omega)];omega
theorem ZKs(h:q*y1+r=u)(hq:1<=q):(q - 1)*y1+(r+y1)=u:=by
 have e:q*y1=(q - 1)*y1+y1:=by
  rw[<-Nat.succ_mul];congr 1;omega
 omega
theorem ZOr(hu:u < y1*4294967296+y0)(h0:y0 < 4294967296)(h:q*y1+r=u)(hr:4294967296<=r):q*y0<=4294967296*r+d:=by
 by_cases hq:q < 4294967296
 .have:q*y0<=4294967295*4294967295:=Nat.mul_le_mul (by omega) (by omega);omega
 .have:4294967296*y1<=q*y1:=ycg _ (by omega);omega
end
theorem LB{q T Y:Nat}(hY:0 < Y)(h1:T / Y<=q)(h2:q*Y<=T):q=T / Y:=Nat.le_antisymm ((Nat.le_div_iff_mul_le hY).2 h2) h1
theorem ZGU{y1 y0 u d:Nat}{Q R Y0 Y1 D:yU}(hY1:Y1.toNat=y1)(hY0:Y0.toNat=y0)(hD:D.toNat=d)(h1:y1 < 4294967296)(h0:y0 < 4294967296)(hd:d < 4294967296)(hu:u < y1*4294967296+y0)
 (e:Q.toNat*y1+R.toNat=u) (hr:R.toNat < 4294967296) (hge:(u*4294967296+d) / (y1*4294967296+y0)<=Q.toNat):
 ((Q >= 4294967296\/(Q*Y0 > (4294967296*R)+D))/\(u*4294967296+d) / (y1*4294967296+y0)<=(Q - 1).toNat/\(Q - 1).toNat*y1+(R+Y1).toNat=u/\(R+Y1).toNat=R.toNat+y1)\/
 (¬Q >= 4294967296/\¬(Q*Y0 > (4294967296*R)+D)/\Q.toNat=(u*4294967296+d) / (y1*4294967296+y0)):=by
 have hadd:(R+Y1).toNat=R.toNat+y1:=by rw[pN (by omega),hY1]
 have hrd:((4294967296*R)+D).toNat=4294967296*R.toNat+d:=by
  have m:(4294967296*R:yU).toNat=4294967296*R.toNat:=by
   rw[pO (by show 4294967296*R.toNat < _;omega)];rfl
  rw[pN (by rw[m];omega),m,hD]
 have dec:1<=Q.toNat->(Q - 1).toNat=Q.toNat - 1:=λh=>by
  rw[UInt64.toNat_sub_of_le _ _ (by rw[ycp];exact h)];rfl
 by_cases c1:Q >= 4294967296
 .left
  have hq:4294967296<=Q.toNat:=by
   rw[ge_iff_le,ycp]at c1;exact c1
  have:=ZSY hu hd;refine⟨.inl c1,by rw[dec (by omega)];omega, ?_,hadd⟩;rw[dec (by omega),hadd];exact ZKs e (by omega)
 have hq:Q.toNat < 4294967296:=by
  rw[ge_iff_le,ycp]at c1;grind
 have hmul:(Q*Y0).toNat=Q.toNat*y0:=by
  have:=tB hq h0;rw[pO (by rw[hY0];omega),hY0]
 by_cases c2:Q*Y0 > (4294967296*R)+D
 .left
  have c3:4294967296*R.toNat+d < Q.toNat*y0:=by
   have:=ycc.1 c2;grind
  have q1:1<=Q.toNat:=by
   all_goals grind
  have hg:=ZT7 (d:=d) e c3;have hlt:(u*4294967296+d) / (y1*4294967296+y0) < Q.toNat:=(Nat.div_lt_iff_lt_mul (by omega)).2 hg;refine⟨.inr c2,by rw[dec q1];omega, ?_,hadd⟩;rw[dec q1,hadd];exact ZKs e q1
 .right
  have c3:Q.toNat*y0<=4294967296*R.toNat+d:=by
   have:¬(((4294967296*R)+D).toNat < (Q*Y0).toNat):=λh=>c2 (ycc.2 h);grind
  exact⟨c1,c2,LB (by omega) hge (LA e c3)⟩
theorem ZT8{y1 y0 u d:Nat}{Yv N Y1 Y0 U D E Q R:yU}(hY1:Y1.toNat=y1)(hY0:Y0.toNat=y0)(hD:D.toNat=d)(h1:y1 < 4294967296)(h3:0 < y1)(h0:y0 < 4294967296)(hd:d < 4294967296)(hu:u < y1*4294967296+y0)
 (e:Q.toNat*y1+R.toNat=u) (hr:R.toNat < 4294967296) (hge:(u*4294967296+d) / (y1*4294967296+y0)<=Q.toNat):
 ∃q:yU,Zb (tx yD) yD (Yv,N,Y1,Y0,U,D,E,Q,R)=ab (Yv,N,Y1,Y0,U,D,E,q)/\q.toNat=(u*4294967296+d) / (y1*4294967296+y0):=by
 obtain⟨x,hx,q,rfl,hq⟩:=VO (step:=tx yD) (λs=>∃Q R:yU,s=(Yv,N,Y1,Y0,U,D,E,Q,R)/\Q.toNat*y1+R.toNat=u/\R.toNat < 4294967296/\(u*4294967296+d) / (y1*4294967296+y0)<=Q.toNat)
  (λs=>4294967296 - s.2.2.2.2.2.2.2.2.toNat) (λx=>∃q:yU,x=(Yv,N,Y1,Y0,U,D,E,q)/\q.toNat=(u*4294967296+d) / (y1*4294967296+y0)) (by
  rintro _ ⟨Q,R,rfl,e,hr,hge⟩;unfold tx;dsimp only;rcases ZGU hY1 hY0 hD h1 h0 hd hu e hr hge with⟨c,k1,k2,k3⟩|⟨c1,c2,k⟩
  .have key:(∃j,(if ah (R+Y1 >= 4294967296)=af then ab (Sum.inr (Yv,N,Y1,Y0,U,D,E,Q - 1)) else ab (Sum.inl (Yv,N,Y1,Y0,U,D,E,Q - 1,R+Y1)):yO ((yU×qP)⊕(qP)))=ab (.inl j)/\
    (∃Q R:yU,j=(Yv,N,Y1,Y0,U,D,E,Q,R)/\Q.toNat*y1+R.toNat=u/\R.toNat < 4294967296/\(u*4294967296+d) / (y1*4294967296+y0)<=Q.toNat)/\4294967296 - j.2.2.2.2.2.2.2.2.toNat < 4294967296 - R.toNat)\/
    (∃x,(if ah (R+Y1 >= 4294967296)=af then ab (Sum.inr (Yv,N,Y1,Y0,U,D,E,Q - 1)) else ab (Sum.inl (Yv,N,Y1,Y0,U,D,E,Q - 1,R+Y1)):yO ((yU×qP)⊕(qP)))=ab (.inr x)/\
    ∃q:yU,x=(Yv,N,Y1,Y0,U,D,E,q)/\q.toNat=(u*4294967296+d) / (y1*4294967296+y0)):=by
    by_cases hb:R+Y1 >= 4294967296
    .right;rw[yW (yY hb)]
     have hb2:4294967296<=(R+Y1).toNat:=by
      rw[ge_iff_le,ycp]at hb;exact hb
     exact⟨_,rfl,_,rfl,LB (by omega) k1 (LA k2 (ZOr hu h0 k2 hb2))⟩
    .left;rw[yX (by rw[yN];exact hb)]
     have hb2:(R+Y1).toNat < 4294967296:=by
      rw[ge_iff_le,ycp]at hb;grind
     grind
   rcases c with c|c
   .rw[yW (yY c)];exact key
   .by_cases c1:Q >= 4294967296
    .rw[yW (yY c1)];exact key
    .rw[yX (by rw[yN];exact c1),yW (yY c)];exact key
  .right;rw[yX (by rw[yN];exact c1),yX (by rw[yN];exact c2)];exact⟨_,rfl,_,rfl,k⟩) (Yv,N,Y1,Y0,U,D,E,Q,R) ⟨Q,R,rfl,e,hr,hge⟩ (by dsimp only;omega)
 grind
theorem ZT9{y1 y0 u d:Nat}{Yv N Y1 Y0 U D E Q R:yU}(hY1:Y1.toNat=y1)(hY0:Y0.toNat=y0)(hD:D.toNat=d)(h1:y1 < 4294967296)(h3:0 < y1)(h0:y0 < 4294967296)(hd:d < 4294967296)(hu:u < y1*4294967296+y0)
 (e:Q.toNat*y1+R.toNat=u) (hr:R.toNat < 4294967296) (hge:(u*4294967296+d) / (y1*4294967296+y0)<=Q.toNat):
 ∃q:yU,Zb (tz yD) yD (Yv,N,Y1,Y0,D,E,R,U,Q)=ab (Yv,N,D,E,U,q)/\q.toNat=(u*4294967296+d) / (y1*4294967296+y0):=by
 obtain⟨x,hx,q,rfl,hq⟩:=VO (step:=tz yD) (λs=>∃Q R:yU,s=(Yv,N,Y1,Y0,D,E,R,U,Q)/\Q.toNat*y1+R.toNat=u/\R.toNat < 4294967296/\(u*4294967296+d) / (y1*4294967296+y0)<=Q.toNat)
  (λs=>4294967296 - s.2.2.2.2.2.2.1.toNat) (λx=>∃q:yU,x=(Yv,N,D,E,U,q)/\q.toNat=(u*4294967296+d) / (y1*4294967296+y0)) (by
  rintro _ ⟨Q,R,rfl,e,hr,hge⟩;unfold tz;dsimp only;rcases ZGU hY1 hY0 hD h1 h0 hd hu e hr hge with⟨c,k1,k2,k3⟩|⟨c1,c2,k⟩
  .have key:(∃j,(if ah (R+Y1 >= 4294967296)=af then ab (Sum.inr (Yv,N,D,E,U,Q - 1)) else ab (Sum.inl (Yv,N,Y1,Y0,D,E,R+Y1,U,Q - 1)):yO ((yU×qP)⊕(yU×yU×yU×yU×yU×yU)))=ab (.inl j)/\
    (∃Q R:yU,j=(Yv,N,Y1,Y0,D,E,R,U,Q)/\Q.toNat*y1+R.toNat=u/\R.toNat < 4294967296/\(u*4294967296+d) / (y1*4294967296+y0)<=Q.toNat)/\4294967296 - j.2.2.2.2.2.2.1.toNat < 4294967296 - R.toNat)\/
    (∃x,(if ah (R+Y1 >= 4294967296)=af then ab (Sum.inr (Yv,N,D,E,U,Q - 1)) else ab (Sum.inl (Yv,N,Y1,Y0,D,E,R+Y1,U,Q - 1)):yO ((yU×qP)⊕(yU×yU×yU×yU×yU×yU)))=ab (.inr x)/\
    ∃q:yU,x=(Yv,N,D,E,U,q)/\q.toNat=(u*4294967296+d) / (y1*4294967296+y0)):=by
    by_cases hb:R+Y1 >= 4294967296
    .right;rw[yW (yY hb)]
     have hb2:4294967296<=(R+Y1).toNat:=by
      rw[ge_iff_le,ycp]at hb;exact hb
     exact⟨_,rfl,_,rfl,LB (by omega) k1 (LA k2 (ZOr hu h0 k2 hb2))⟩
    .left;rw[yX (by rw[yN];exact hb)]
     have hb2:(R+Y1).toNat < 4294967296:=by
      rw[ge_iff_le,ycp]at hb;grind
     grind
   rcases c with c|c
   .rw[yW (yY c)];exact key
   .by_cases c1:Q >= 4294967296
    .rw[yW (yY c1)];exact key
    .rw[yX (by rw[yN];exact c1),yW (yY c)];exact key
  .right;rw[yX (by rw[yN];exact c1),yX (by rw[yN];exact c2)];exact⟨_,rfl,_,rfl,k⟩) (Yv,N,Y1,Y0,D,E,R,U,Q) ⟨Q,R,rfl,e,hr,hge⟩ (by dsimp only;omega)
 grind
theorem ZKt{A B:yU}{a b:Nat}(hA:A.toNat=a % 18446744073709551616)(hB:B.toNat=b % 18446744073709551616)(h:b<=a)(hd:a - b < 18446744073709551616):(A - B).toNat=a - b:=by
 rw[UInt64.toNat_sub,hA,hB];omega
theorem Zxg(u y1:Nat):u / y1*y1+u % y1=u:=by
 have:=Nat.div_add_mod u y1;grind
theorem ZOs{u y1 y0 d:Nat}(h1:0 < y1)(hd:d < 4294967296):(u*4294967296+d) / (y1*4294967296+y0)<=u / y1:=by
 have h:(u*4294967296+d) / (y1*4294967296+y0)<=(u*4294967296+d) / (y1*4294967296):=Nat.div_le_div_left (by omega) (by omega)
 have e:(u*4294967296+d) / (y1*4294967296)=u / y1:=by
  rw[ybi y1, <-Nat.div_div_eq_div_mul];congr 1;omega
 omega
theorem ZOt{a b y:yU}{s:Nat}{Y:yU}(hy:y≠0)(hs:YN yD y=ab (s:Int))(s0:0 < s)(s1:s < 64)(hY:QP y s=Y)(hYn:Y.toNat=y.toNat*2 ^ s)(hY63:9223372036854775808<=Y.toNat)(ha:a.toNat < y.toNat):
 ∃q r,xw yD a b y=ab (q,r)/\r.toNat=(a.toNat*18446744073709551616+b.toNat) % y.toNat:=by
 have ha2:¬(y<=a):=by
  rw[ycp];omega
 unfold xw;rw[yX (by rw[yT];exact hy),yX (by rw[yN];exact ha2)];by_cases h0:a=0
 .subst h0;rw[yW (by decide),yW (by rw[yE];exact hy),yW (by rw[yE];exact hy)];refine⟨_,_,rfl, ?_⟩;simp_all
 rw[yX (by rw[yT];exact h0),hs,ya];dsimp only
 have w:cD (s:Int)=yv s:=by
  unfold cD;congr 1;omega
 have ws:(cD (s:Int)).toNat=s:=by rw[w,yan,yaf (by omega)]
 have e1:min ((cD (s:Int)).toNat:Int).toNat 64=s:=by rw[ws];omega
 have e2:(64 - cD (s:Int)).toNat=64 - s:=by
  rw[UInt64.toNat_sub_of_le _ _ (by rw[ycp,ws];show s<=64;omega),ws];rfl
 have e3:min ((64 - cD (s:Int)).toNat:Int).toNat 64=64 - s:=by rw[e2];omega
 rw[e1,e3,hY];have hYl:=ybt Y;have hb:=ybt b
 have p64:2 ^ (64 - s)*2 ^ s=18446744073709551616:=by
  rw[<-Nat.pow_add];grind
 have hp:0 < 2 ^ s:=Nat.pow_pos (by decide);obtain⟨y1,hy1⟩:∃y1,y1=Y.toNat / 4294967296:=⟨_,rfl⟩;obtain⟨y0,hy0⟩:∃y0,y0=Y.toNat % 4294967296:=⟨_,rfl⟩;have hYd:Y.toNat=y1*4294967296+y0:=by omega
 have ty1:(ZJ Y 32).toNat=y1:=by rw[gm,hy1]
 have ty0:(Y&&&4294967295).toNat=y0:=by rw[jJ,hy0]
 have l1:y1 < 4294967296:=by omega
 have g1:2147483648<=y1:=by omega
 have l0:y0 < 4294967296:=by omega
 have hash:a.toNat*2 ^ s < Y.toNat:=by rw[hYn];exact Nat.mul_lt_mul_of_pos_right ha hp
 have bd:b.toNat / 2 ^ (64 - s) < 2 ^ s:=by
  rw[Nat.div_lt_iff_lt_mul (Nat.pow_pos (by decide)),ybi,p64];exact hb
 have tu:((QP a s)|||(ZJ b (64 - s))).toNat=a.toNat*2 ^ s+b.toNat / 2 ^ (64 - s):=by
  rw[UInt64.toNat_or,gm];unfold QP;rw[yan,yaf (by omega),ybi, <-ycw bd]
 have t10:(QP b s).toNat=b.toNat*2 ^ s % 18446744073709551616:=by
  unfold QP;rw[yan]
 obtain⟨u,hu⟩:∃u,u=a.toNat*2 ^ s+b.toNat / 2 ^ (64 - s):=⟨_,rfl⟩;obtain⟨v,hv⟩:∃v,v=b.toNat*2 ^ s % 18446744073709551616:=⟨_,rfl⟩;rw[<-hu]at tu;rw[<-hv]at t10
 have hbs:b.toNat*2 ^ s=b.toNat / 2 ^ (64 - s)*18446744073709551616+v:=by
  have h1:=Nat.div_add_mod (b.toNat*2 ^ s) 18446744073709551616
  have h2:b.toNat*2 ^ s / 18446744073709551616=b.toNat / 2 ^ (64 - s):=by
   rw[<-p64];exact Nat.mul_div_mul_right _ _ hp
  rw[h2, <-hv]at h1;omega
 have hN:(a.toNat*18446744073709551616+b.toNat)*2 ^ s=u*18446744073709551616+v:=by
  rw[yau,hbs,hu,Nat.mul_right_comm];omega
 have uY:u < y1*4294967296+y0:=by
  rw[<-hYd,hu,hYn];have h1:(a.toNat+1)*2 ^ s<=y.toNat*2 ^ s:=ycg _ ha;rw[yau,Nat.one_mul]at h1;omega
 have hvl:v < 18446744073709551616:=by rw[hv];exact ybb _ (by decide)
 obtain⟨d1,hd1⟩:∃d1,d1=v / 4294967296:=⟨_,rfl⟩;obtain⟨d0,hd0⟩:∃d0,d0=v % 4294967296:=⟨_,rfl⟩;have td1:(ZJ (QP b s) 32).toNat=d1:=by rw[gm,t10,hd1]
 have td0:((QP b s)&&&4294967295).toNat=d0:=by rw[jJ,t10,hd0]
 generalize ((QP a s)|||(ZJ b (64 - s)):yU)=U at tu ⊢;generalize (ZJ (QP b s) 32:yU)=D1 at td1 ⊢;generalize ((QP b s)&&&4294967295:yU)=D0 at td0 ⊢;generalize (ZJ Y 32:yU)=Y1 at ty1 ⊢;generalize (Y&&&4294967295:yU)=Y0 at ty0 ⊢
 have y1ne:(Y1 !=0)=af:=by
  rw[yE];intro h;rw[h]at ty1;have:(0:yU).toNat=0:=rfl;omega
 rw[yW y1ne]
 have f1:(U / Y1).toNat*y1+(U - U / Y1*Y1).toNat=u:=by
  rw[xx,UInt64.toNat_div,tu,ty1];exact Zxg u y1
 have f2:(U - U / Y1*Y1).toNat < 4294967296:=by
  rw[xx,tu,ty1];exact Nat.lt_trans (ybb _ (by omega)) l1
 have f3:(u*4294967296+d1) / (y1*4294967296+y0)<=(U / Y1).toNat:=by
  rw[UInt64.toNat_div,tu,ty1];exact ZOs (by omega) (by omega)
 obtain⟨q1,k1,k2⟩:=ZT8 (Yv:=Y) (N:=cD (s:Int)) (U:=U) (E:=D0) ty1 ty0 td1 l1 (by omega) l0 (by omega) uY f1 f2 f3;rw[k1,ya];dsimp only;rw[yW y1ne];have m1:=Nat.div_add_mod (u*4294967296+d1) Y.toNat
 have m2:(u*4294967296+d1) % Y.toNat < Y.toNat:=ybb _ (by omega);rw[<-hYd]at k2
 have tv:(((U*4294967296)+D1) - (q1*Y)).toNat=(u*4294967296+d1) % Y.toNat:=by
  rw[ZKt (a:=u*4294967296+d1) (b:=q1.toNat*Y.toNat) ?_ ?_ ?_ ?_]
  .rw[k2,ybi ((u*4294967296+d1) / Y.toNat)];omega
  .rw[UInt64.toNat_add,UInt64.toNat_mul,tu,td1,show(4294967296:yU).toNat=4294967296 from rfl]
   omega
  .rw[UInt64.toNat_mul]
  .rw[k2,ybi ((u*4294967296+d1) / Y.toNat)];omega
  .rw[k2,ybi ((u*4294967296+d1) / Y.toNat)];omega
 obtain⟨u2,hu2⟩:∃u2,u2=(u*4294967296+d1) % Y.toNat:=⟨_,rfl⟩;rw[<-hu2]at tv m2 m1;generalize (((U*4294967296)+D1) - (q1*Y):yU)=V at tv ⊢
 have f4:(V / Y1).toNat*y1+(V - V / Y1*Y1).toNat=u2:=by
  rw[xx,UInt64.toNat_div,tv,ty1];exact Zxg u2 y1
 have f5:(V - V / Y1*Y1).toNat < 4294967296:=by
  rw[xx,tv,ty1];exact Nat.lt_trans (ybb _ (by omega)) l1
 have f6:(u2*4294967296+d0) / (y1*4294967296+y0)<=(V / Y1).toNat:=by
  rw[UInt64.toNat_div,tv,ty1];exact ZOs (by omega) (by omega)
 obtain⟨q0,k3,k4⟩:=ZT9 (Yv:=Y) (N:=cD (s:Int)) (U:=V) (E:=q1) ty1 ty0 td0 l1 (by omega) l0 (by omega) (by rw[<-hYd];exact m2) f4 f5 f6;rw[k3,ya];refine⟨_,_,rfl, ?_⟩;dsimp only;rw[e1,gm];rw[<-hYd]at k4;have m3:=Nat.div_add_mod (u2*4294967296+d0) Y.toNat
 have m4:(u2*4294967296+d0) % Y.toNat < Y.toNat:=ybb _ (by omega)
 have tr:(((V*4294967296)+D0) - (q0*Y)).toNat=(u2*4294967296+d0) % Y.toNat:=by
  rw[ZKt (a:=u2*4294967296+d0) (b:=q0.toNat*Y.toNat) ?_ ?_ ?_ ?_]
  .rw[k4,ybi ((u2*4294967296+d0) / Y.toNat)];omega
  .rw[UInt64.toNat_add,UInt64.toNat_mul,tv,td0,show(4294967296:yU).toNat=4294967296 from rfl]
   omega
  .rw[UInt64.toNat_mul]
  .rw[k4,ybi ((u2*4294967296+d0) / Y.toNat)];omega
  .rw[k4,ybi ((u2*4294967296+d0) / Y.toNat)];omega
 rw[tr]
 have hNm:((a.toNat*18446744073709551616+b.toNat)*2 ^ s) % Y.toNat=(u2*4294967296+d0) % Y.toNat:=by
  have e:(a.toNat*18446744073709551616+b.toNat)*2 ^ s=u2*4294967296+d0+Y.toNat*((u*4294967296+d1) / Y.toNat*4294967296):=by
   rw[hN, <-Nat.mul_assoc];omega
  rw[e,Nat.add_mul_mod_self_left]
 rw[<-hNm,hYn,Nat.mul_mod_mul_right,Nat.mul_div_cancel _ hp]
theorem LC{y Y:yU}{s:Nat}(a b:yU)(hy:y≠0)(hs:YN yD y=ab (s:Int))(s0:0 < s)(s1:s < 64)(hY:QP y s=Y)(hYn:Y.toNat=y.toNat*2 ^ s)(hY63:9223372036854775808<=Y.toNat):
 tA yD a b y=ab (yv ((a.toNat*18446744073709551616+b.toNat) % y.toNat)):=by
 have hp:0 < y.toNat:=by
  all_goals grind
 obtain⟨q,r,h1,h2⟩:=ZOt (a:=a % y) (b:=b) hy hs s0 s1 hY hYn hY63 (by rw[UInt64.toNat_mod];exact ybb _ hp);unfold tA;rw[yW (by rw[yE];exact hy),h1,ya];dsimp only;rw[UInt64.toNat_mod,Nat.add_mod,Nat.mod_mul_mod, <-Nat.add_mod]at h2;rw[<-h2,UInt64.ofNat_toNat]
theorem ZSZ:YN yD 4611686018427377339=ab ((2:Nat):Int):=by kernel_rfl
theorem ZS0:YN yD 2305843009213688669=ab ((3:Nat):Int):=by kernel_rfl
theorem ZS1:YN yD 2305843009213688668=ab ((3:Nat):Int):=by kernel_rfl
noncomputable def Va(F:Nat)(a0:yU)(a1:yU)(a2:yU):yO yU:=
 if(a2==4611686018427377339 || (a2==2305843009213688669 || a2==2305843009213688668))=af then ab (yv ((a0.toNat*18446744073709551616+a1.toNat) % a2.toNat)) else tA F a0 a1 a2
theorem ZOu(a b y:yU):tA yD a b y=Va yD a b y:=by
 unfold Va;split
 .rename_i h;simp only[Bool.or_eq_true,yT]at h;rcases h with rfl|rfl|rfl
  .exact LC (Y:=18446744073709509356) (s:=2) a b (by decide) ZSZ (by decide) (by decide) (by kernel_rfl) (by decide) (by decide)
  .exact LC (Y:=18446744073709509352) (s:=3) a b (by decide) ZS0 (by decide) (by decide) (by kernel_rfl) (by decide) (by decide)
  .exact LC (Y:=18446744073709509344) (s:=3) a b (by decide) ZS1 (by decide) (by decide) (by kernel_rfl) (by decide) (by decide)
 .rfl
noncomputable def ZBP(F:Nat):Fs yb:={ KZ F with M:=λx=>Va F x.1 x.2.1 x.2.2}
noncomputable def xy:Fs yb:=ZBP yD
theorem LD:xy.Ok:=ot (s:=KZ yD) ZAm λx=>(ZOu x.1 x.2.1 x.2.2).symm
end Go.Proofs.YtekdgjajmennjaaGreat
end
section
set_option maxRecDepth 4000
namespace Go.Proofs.YtekdgjajmennjaaGreat
open Go Go.Ev
noncomputable section
def xz(F:Nat)(a0:yU)(a1:yU):yO ((yU×yU)):=
 let a:yU:=ZJ ((a0&&&4294967295)*(a1&&&4294967295)) 32;let b:yU:=(((ZJ a0 32)*(a1&&&4294967295))+a)&&&4294967295;let c:yU:=ZJ (((ZJ a0 32)*(a1&&&4294967295))+a) 32;let d:yU:=ZJ (b+((a0&&&4294967295)*(ZJ a1 32))) 32
 ab ((((ZJ a0 32)*(ZJ a1 32))+c)+d,a0*a1)
def LF(F:Nat):Fs yb:=⟨247,[.v .u64,.v .u64],[],[.u64,.u64],[⟨.ret,[(0,.bi [.v .u64,.v .u64])],[],[.u64,.u64]⟩],λx=>xz F x.1 x.2⟩
def ZBQ:Fs yb:=LF yD
theorem ZAn:ZBQ.Ok:=aF { still:=[4,5]} [] [] trivial
end
end Go.Proofs.YtekdgjajmennjaaGreat
end
section
set_option maxRecDepth 4000
namespace Go.Proofs.YtekdgjajmennjaaGreat
open Go Go.Ev
theorem ZOv(x y:yU):∃h l,xz yD x y=ab (h,l)/\h.toNat*18446744073709551616+l.toNat=x.toNat*y.toNat:=by
 unfold xz;refine⟨_,_,rfl, ?_⟩;have hx:=ybt x;have hy:=ybt y;have x0l:x.toNat % 4294967296 < 4294967296:=ybb _ (by decide);have y0l:y.toNat % 4294967296 < 4294967296:=ybb _ (by decide);have x1l:x.toNat / 4294967296 < 4294967296:=by omega
 have y1l:y.toNat / 4294967296 < 4294967296:=by omega
 have xe:x.toNat=x.toNat / 4294967296*4294967296+x.toNat % 4294967296:=by omega
 have ye:y.toNat=y.toNat / 4294967296*4294967296+y.toNat % 4294967296:=by omega
 generalize hX1:x.toNat / 4294967296=x1 at*;generalize hX0:x.toNat % 4294967296=x0 at*;generalize hY1:y.toNat / 4294967296=y1 at*;generalize hY0:y.toNat % 4294967296=y0 at*;have p00:=tB x0l y0l;have p10:=tB x1l y0l;have p01:=tB x0l y1l;have p11:=tB x1l y1l
 have prod:x.toNat*y.toNat=x1*y1*18446744073709551616+(x1*y0+x0*y1)*4294967296+x0*y0:=by
  rw[xe,ye,yau,Nat.mul_add,Nat.mul_add]
  have e1:x1*4294967296*(y1*4294967296)=x1*y1*18446744073709551616:=by
   rw[Nat.mul_assoc,Nat.mul_left_comm 4294967296 y1, <-Nat.mul_assoc]
  have e2:x1*4294967296*y0=x1*y0*4294967296:=by rw[Nat.mul_right_comm]
  have e3:x0*(y1*4294967296)=x0*y1*4294967296:=by rw[Nat.mul_assoc]
  rw[e1,e2,e3];omega
 have q00:((x&&&4294967295)*(y&&&4294967295)).toNat=x0*y0:=by
  rw[pO (by rw[jJ,jJ,hX0,hY0];omega),jJ,jJ,hX0,hY0]
 have q10:((ZJ x 32)*(y&&&4294967295)).toNat=x1*y0:=by
  rw[pO (by rw[gm,jJ,show(2:Nat) ^ 32=4294967296 from rfl,hX1,hY0];omega),gm,jJ,show(2:Nat) ^ 32=4294967296 from rfl,hX1,hY0]
 have q01:((x&&&4294967295)*(ZJ y 32)).toNat=x0*y1:=by
  rw[pO (by rw[gm,jJ,show(2:Nat) ^ 32=4294967296 from rfl,hX0,hY1];omega),gm,jJ,show(2:Nat) ^ 32=4294967296 from rfl,hX0,hY1]
 have q11:((ZJ x 32)*(ZJ y 32)).toNat=x1*y1:=by
  rw[pO (by rw[gm,gm,show(2:Nat) ^ 32=4294967296 from rfl,hX1,hY1];omega),gm,gm,show(2:Nat) ^ 32=4294967296 from rfl,hX1,hY1]
 generalize hA:((x&&&4294967295)*(y&&&4294967295):yU)=A at*;generalize hB:((ZJ x 32)*(y&&&4294967295):yU)=B at*;generalize hC:((x&&&4294967295)*(ZJ y 32):yU)=C at*;generalize hD:((ZJ x 32)*(ZJ y 32):yU)=D at*;have s1:(ZJ A 32).toNat=x0*y0 / 4294967296:=by rw[gm,q00]
 have s2:(B+ZJ A 32).toNat=x1*y0+x0*y0 / 4294967296:=by rw[pN (by rw[q10,s1];omega),q10,s1]
 have s3:((B+ZJ A 32)&&&4294967295).toNat=(x1*y0+x0*y0 / 4294967296) % 4294967296:=by rw[jJ,s2]
 have s4:(ZJ (B+ZJ A 32) 32).toNat=(x1*y0+x0*y0 / 4294967296) / 4294967296:=by rw[gm,s2]
 have s5:(((B+ZJ A 32)&&&4294967295)+C).toNat=(x1*y0+x0*y0 / 4294967296) % 4294967296+x0*y1:=by rw[pN (by rw[s3,q01];omega),s3,q01]
 have s6:(ZJ (((B+ZJ A 32)&&&4294967295)+C) 32).toNat=((x1*y0+x0*y0 / 4294967296) % 4294967296+x0*y1) / 4294967296:=by rw[gm,s5]
 have s7:(D+ZJ (B+ZJ A 32) 32).toNat=x1*y1+(x1*y0+x0*y0 / 4294967296) / 4294967296:=by rw[pN (by rw[q11,s4];omega),q11,s4]
 have s8:(x*y).toNat=x.toNat*y.toNat % 18446744073709551616:=UInt64.toNat_mul ..
 have s9:((D+ZJ (B+ZJ A 32) 32)+ZJ (((B+ZJ A 32)&&&4294967295)+C) 32).toNat=x1*y1+(x1*y0+x0*y0 / 4294967296) / 4294967296+((x1*y0+x0*y0 / 4294967296) % 4294967296+x0*y1) / 4294967296:=by
  rw[pN (by rw[s7,s6];omega),s7,s6]
 rw[s9,s8,prod];generalize x0*y0=a at*;generalize x1*y0=b at*;generalize x0*y1=c at*;generalize x1*y1=d at*;omega
theorem ZOw(x y:yU):xz yD x y=ab (yv (x.toNat*y.toNat / 18446744073709551616),yv (x.toNat*y.toNat % 18446744073709551616)):=by
 obtain⟨h,l,e,k⟩:=ZOv x y;have hl:=ybt l;rw[e, <-k,show(h.toNat*18446744073709551616+l.toNat) / 18446744073709551616=h.toNat by omega,show(h.toNat*18446744073709551616+l.toNat) % 18446744073709551616=l.toNat by omega,UInt64.ofNat_toNat,UInt64.ofNat_toNat]
noncomputable def tC(F:Nat)(a0:yU)(a1:yU):yO (yU×yU):=ab (yv (a0.toNat*a1.toNat / 18446744073709551616),yv (a0.toNat*a1.toNat % 18446744073709551616))
noncomputable def ZBR(F:Nat):Fs yb:={ LF F with M:=λx=>tC F x.1 x.2}
noncomputable def LG:Fs yb:=ZBR yD
theorem Zsl:LG.Ok:=ot (s:=LF yD) ZAn λx=>(ZOw x.1 x.2).symm
end Go.Proofs.YtekdgjajmennjaaGreat
end
section
set_option maxRecDepth 4000
namespace Go.Proofs.YtekdgjajmennjaaGreat
open Go Go.Ev
noncomputable section
def YC(F:Nat)(a0:yU)(a1:yU):yO (yU):=
 (tC F a0 a1).bind λa=>
 (Va F a.1 a.2 4611686018427377339).bind λb=>
 ab b
def LH:Fs yb:=⟨223,[.v .u64,.v .u64],[],[.u64,.u64],(zP .u64),λx=>YC yD x.1 x.2⟩
theorem ZpT:LH.Ok:=aF { still:=[4,8,9,13,14]} [] [LG,xy] ⟨Zsl,LD,ao⟩
def Qz(F:Nat)(s:(yU×yU×yU)):yO ((yU×yU×yU)⊕yU):=
 if(ah (s.2.1 > 0))=af then
  if((s.2.1&&&1)==1)=af then
   (YC F s.2.2 s.1).bind λa=>
   (YC F s.1 s.1).bind λb=>
   ab (.inl (b,ZJ s.2.1 1,a))
  else
  (YC F s.1 s.1).bind λc=>
  ab (.inl (c,ZJ s.2.1 1,s.2.2))
 else
 ab (.inr s.2.2)
def Zoq:Lp:=⟨[(0,.v .u64),(1,.v .u64),(5,.v .u64)],[],[.u64,.u64,.u64],[⟨.exit 0,[(5,.v .u64)],[],[.u64]⟩],Zb (Qz yD) yD⟩
theorem Zti:Zoq.aT yb 170 0:=Zm { still:=[4,13,14,16,17]} [] [LH] ⟨ZpT,ao⟩
def LI(F:Nat)(a0:yU)(a1:yU):yO (yU):=
 (Zb (Qz F) F (a0,a1,1)).bind λa=>
 ab a
def LJ(F:Nat):Fs yb:=⟨170,[.v .u64,.v .u64],[],[.u64,.u64],(zP .u64),λx=>LI F x.1 x.2⟩
def ZAo:Fs yb:=LJ yD
theorem ZxW:ZAo.Ok:=aF { still:=[4,13,14,16,17]} [(0,Zoq)] [] trivial ⟨Zti,ao⟩
end
end Go.Proofs.YtekdgjajmennjaaGreat
end
section
namespace Go.Ev
def Pr(r:Nat):Prop:=1 < r/\∀k,0 < k->k < r->Nat.gcd k r=1
theorem php:∀(n:Nat)(f:Nat->Nat),(∀i,i<=n->f i < n)->∃i j,i < j/\j<=n/\f i=f j
 |0,f,h=>absurd (h 0 (yj _)) (Nat.not_lt_zero _)
 |n+1,f,h=>by
  by_cases hc:∃i,i<=n/\f i=f (n+1)
  .obtain⟨i,h1,h2⟩:=hc;exact⟨i,n+1,by omega,yj _,h2⟩
  have hne:∀i,i<=n->f i≠f (n+1):=λi hi e=>hc ⟨i,hi,e⟩;have hv:=h (n+1) (yj _)
  obtain⟨i,j,h1,h2,h3⟩:=php n (λi=>if f i > f (n+1) then f i - 1 else f i) (λi hi=>by
   have a:=h i (by omega);have b:=hne i hi;show(if f i > f (n+1) then f i - 1 else f i) < n
   split <;> omega)
  refine⟨i,j,h1,by omega, ?_⟩;have a:=hne i (by omega);have b:=hne j (by omega);have h3:(if f i > f (n+1) then f i - 1 else f i)=(if f j > f (n+1) then f j - 1 else f j):=h3
  split at h3 <;> split at h3 <;> omega
theorem LK{h a m:Nat}(ha:h ^ a % m=1 % m)(k:Nat):h ^ (a*k) % m=1 % m:=by
 rw[Nat.pow_mul,Nat.pow_mod,ha, <-Nat.pow_mod,Nat.one_pow]
theorem ZGV{h a b m:Nat}(ha:h ^ a % m=1 % m)(hb:h ^ b % m=1 % m):h ^ (a % b) % m=1 % m:=by
 have e:a=b*(a / b)+a % b:=(Nat.div_add_mod a b).symm;rw[e,Nat.pow_add,ybr,LK hb, <-ybr,Nat.one_mul]at ha;exact ha
theorem Zxh{h m:Nat}(a b:Nat)(ha:h ^ a % m=1 % m)(hb:h ^ b % m=1 % m):h ^ (Nat.gcd a b) % m=1 % m:=by
 induction a,b using Nat.gcd.induction with
 |H0 n=>rw[Nat.gcd_zero_left];exact hb
 |H1 a b h0 ih=>
  rw[Nat.gcd_rec];exact ih (ZGV hb ha) ha
theorem ZOx{h r m i j:Nat}(hr:h ^ r % m=1 % m)(hi:i < j)(hj:j < r)(e:h ^ i % m=h ^ j % m):h ^ (j - i) % m=1 % m:=by
 have h1:h ^ i*h ^ (r - i)=h ^ r:=by rw[<-Nat.pow_add];congr 1;omega
 have h2:h ^ j*h ^ (r - i)=h ^ (j - i)*h ^ r:=by rw[<-Nat.pow_add, <-Nat.pow_add];congr 1;omega
 have h3:h ^ j*h ^ (r - i) % m=1 % m:=by rw[ybr, <-e, <-ybr,h1,hr]
 rw[h2,ybr,hr, <-ybr,Nat.mul_one]at h3;exact h3
theorem LL{h r m i:Nat}(hm:1 < m)(hr:h ^ r % m=1 % m)(hi:i<=r):h ^ i % m≠0:=by
 intro e;have h1:h ^ i*h ^ (r - i)=h ^ r:=by rw[<-Nat.pow_add];congr 1;omega
 rw[<-h1,ybr,e,Nat.zero_mul,Nat.zero_mod,yaf hm]at hr;omega
theorem ZIV{h r c:Nat}(hr:Pr r)(hc:1 < c)(h1:h ^ r % c=1 % c)(h2:h % c≠1 % c):r < c:=by
 rcases ych r c with k|k
 .exact k
 exfalso
 obtain⟨i,j,a,b,e⟩:=php (c - 1) (λi=>h ^ i % c - 1) (λi hi=>by
  have:=ybb (h ^ i) (show c > 0 by omega);have:=LL hc h1 (i:=i) (by omega);show h ^ i % c - 1 < c - 1;omega)
 have q1:=LL hc h1 (i:=i) (by omega);have q2:=LL hc h1 (i:=j) (by omega);have e:h ^ i % c - 1=h ^ j % c - 1:=e;have h3:=ZOx h1 a (by omega) (show h ^ i % c=h ^ j % c by omega);have h4:=Zxh _ _ h3 h1;rw[hr.2 (j - i) (by omega) (by omega),Nat.pow_one]at h4;exact h2 h4
theorem xA{n r:Nat}(h:Nat)(hr:Pr r)(hn:1 < n)(hs:n<=r*r)(h1:h ^ r % n=1 % n)(h0:0 < h)(h2:Nat.gcd (h - 1) n=1):Pr n:=by
 refine⟨hn,λk k0 kn=> ?_⟩;have dn:Nat.gcd k n ∣ n:=Nat.gcd_dvd_right k n;have dk:Nat.gcd k n ∣ k:=Nat.gcd_dvd_left k n;have d0:0 < Nat.gcd k n:=Nat.gcd_pos_of_pos_left _ k0;have dl:Nat.gcd k n<=k:=Nat.le_of_dvd k0 dk;generalize Nat.gcd k n=d at*;by_cases d1:d=1
 .exact d1
 exfalso
 have great:∀c,1 < c->c ∣ n->r < c:=λc c1 cn=>by
  refine ZIV (h:=h) hr c1 ?_ λe=> ?_
  .obtain⟨q,rfl⟩:=cn;have:=congrArg (· % c) h1;simp only[Nat.mod_mul_right_mod]at this;exact this
  .have k1:c ∣ h - 1:=Nat.dvd_of_mod_eq_zero (Nat.sub_mod_eq_zero_of_mod_eq e);have:=Nat.dvd_gcd k1 cn;rw[h2]at this;have:=Nat.le_of_dvd (by omega) this;omega
 obtain⟨e,rfl⟩:=dn
 have e1:1 < e:=by
  rcases ych 1 e with h|h
  .exact h
  .have:d*e<=d*1:=Nat.mul_le_mul_left _ h;omega
 have a:=great d (by omega) (Nat.dvd_mul_right ..);have b:=great e e1 (Nat.dvd_mul_left ..);have:=Nat.mul_le_mul (show r+1<=d from a) (show r+1<=e from b)
 rw[yau,Nat.mul_add]at this;omega
def xB(n:Nat):Nat->Bool
 |0=>af
 |k+1=>(ah (k < 1) || !(n % (k+1)==0))&&xB n k
theorem LM{n:Nat}:∀{k:Nat},xB n k=af->∀d,1 < d->d<=k->¬d ∣ n
 |0,_,d,h1,h2=>by omega
 |k+1,h,d,h1,h2=>by
  simp only[xB,yi,Bool.or_eq_true,yP,Bool.not_eq_true',beq_eq_false_iff_ne]at h;rcases ych d (k+1) with c|c
  .exact LM h.2 d h1 (by omega)
  .have:d=k+1:=by omega
   subst this;rcases h.1 with h|h
   .omega
   .intro q;exact h (Nat.mod_eq_zero_of_dvd q)
theorem ZOy{n s:Nat}(hn:1 < n)(hs:n < (s+1)*(s+1))(h:xB n s=af):Pr n:=by
 refine⟨hn,λk k0 kn=> ?_⟩;have dn:Nat.gcd k n ∣ n:=Nat.gcd_dvd_right k n;have d0:0 < Nat.gcd k n:=Nat.gcd_pos_of_pos_left _ k0;have dl:Nat.gcd k n<=k:=Nat.le_of_dvd k0 (Nat.gcd_dvd_left k n);generalize Nat.gcd k n=d at*;by_cases d1:d=1
 .exact d1
 exfalso;obtain⟨e,rfl⟩:=dn
 have e1:1 < e:=by
  rcases ych 1 e with h|h
  .exact h
  .have:d*e<=d*1:=Nat.mul_le_mul_left _ h;omega
 rcases ych s d with a|a
 .rcases ych s e with b|b
  .have:=Nat.mul_le_mul (show s+1<=d from a) (show s+1<=e from b)
   omega
  .exact LM h e e1 b (Nat.dvd_mul_left ..)
 .exact LM h d (by omega) a (Nat.dvd_mul_right ..)
def fa(m:Nat):Nat->Nat->Nat->Nat->Nat
 |0,_,_,o=>o
 |f+1,a,n,o=>if n=0 then o else fa m f (a*a % m) (n / 2) (if n % 2=1 then o*a % m else o)
theorem LN{m:Nat}:∀(k a n o:Nat),n < 2 ^ k->fa m k a n o % m=o*a ^ n % m
 |0,a,n,o,h=>by
  have:n=0:=by rw[Nat.pow_zero]at h;omega
  subst this
  rw[fa,Nat.pow_zero,Nat.mul_one]
 |k+1,a,n,o,h=>by
  rw[fa];by_cases h0:n=0
  .rw[yW h0,h0,Nat.pow_zero,Nat.mul_one]
  rw[yX h0,LN k _ _ _ (by rw[Nat.pow_succ]at h;omega)]
  have e:a ^ n=(a*a) ^ (n / 2)*a ^ (n % 2):=by
   rw[<-Nat.pow_two, <-Nat.pow_mul, <-Nat.pow_add];congr 1;omega
  have e2:(a*a % m) ^ (n / 2) % m=(a*a) ^ (n / 2) % m:=(Nat.pow_mod ..).symm;rw[e];split
  .rename_i h1;rw[h1,Nat.pow_one,ybr,e2, <-ybr,ybr,Nat.mod_mod, <-ybr];congr 1;rw[Nat.mul_assoc,ybi a]
  .rename_i h1;have:n % 2=0:=by omega
   rw[this,Nat.pow_zero,Nat.mul_one,ybr,e2, <-ybr]
theorem tD{m a n z:Nat}(k:Nat)(h:n < 2 ^ k)(e:fa m k a n 1 % m=z):a ^ n % m=z:=by
 have:=LN (m:=m) k a n 1 h;rw[Nat.one_mul]at this;rw[<-this,e]
def pc0:Nat:=7930907
def pc1:Nat:=11864636873
def pc2:Nat:=1732236983459
def pc3:Nat:=249442125618097
def bO:Nat:=2305843009213688669
def dw:Nat:=4611686018427377339
theorem pr0:Pr pc0:=ZOy (s:=2816) (by decide) (by decide) (by decide+kernel)
theorem pr1:Pr pc1:=xA 409113128 pr0 (by decide) (by decide) (tD 23 (by decide) (by decide+kernel)) (by decide) (by decide+kernel)
theorem pr2:Pr pc2:=xA 353522539148 pr1 (by decide) (by decide) (tD 34 (by decide) (by decide+kernel)) (by decide) (by decide+kernel)
theorem pr3:Pr pc3:=xA 117107719143424 pr2 (by decide) (by decide) (tD 41 (by decide) (by decide+kernel)) (by decide) (by decide+kernel)
theorem pr4:Pr bO:=xA 732368710688439132 pr3 (by decide) (by decide) (tD 48 (by decide) (by decide+kernel)) (by decide) (by decide+kernel)
def cZ(a:Nat):Prop:=0 < a/\a < dw/\a ^ bO % dw=1
theorem ZUa{a:Nat}(h:a < dw)(e:a ^ bO % dw=1):cZ a:=by
 refine⟨?_,h,e⟩;rcases ycd a with h0|h0
 .subst h0;rw[Nat.zero_pow (by decide)]at e;cases e
 .exact h0
theorem LO:cZ 1:=⟨by decide,by decide,by rw[Nat.one_pow];decide⟩
theorem ZOz:cZ 4:=⟨by decide,by decide,tD 61 (by decide) (by decide+kernel)⟩
theorem ZS2{a:Nat}(ha:cZ a)(n:Nat):cZ (a ^ n % dw):=by
 refine ZUa (ybb _ (by decide)) ?_;rw[<-Nat.pow_mod, <-Nat.pow_mul,ybi];exact LK (m:=dw) ha.2.2 n
theorem ZQN{a:Nat}(ha:cZ a)(n:Nat):a ^ (n % bO) % dw=a ^ n % dw:=by
 have e:n=bO*(n / bO)+n % bO:=(Nat.div_add_mod n _).symm;have h:=LK (m:=dw) (k:=n / bO) ha.2.2
 conv=>rhs;rw[e]
 rw[Nat.pow_add,ybr,h, <-ybr,Nat.one_mul]
theorem ZS3{k:Nat}(h0:0 < k)(h1:k < bO):4 ^ k % dw≠1:=by
 intro e;have:=Zxh (h:=4) (m:=dw) k _ e ZOz.2.2;rw[pr4.2 k h0 h1]at this;revert this;decide
end Go.Ev
end
section
set_option maxRecDepth 4000
namespace Go.Proofs.YtekdgjajmennjaaGreat
open Go Go.Ev
theorem LP{z:Nat}:(yv (z % 4611686018427377339)).toNat=z % 4611686018427377339:=by
 rw[yan,yaf];exact Nat.lt_trans (ybb _ (by decide)) (by decide)
theorem ZGW(a b:yU):YC yD a b=ab (yv (a.toNat*b.toNat % 4611686018427377339)):=by
 unfold YC tC;rw[ya];dsimp only;unfold Va;rw[yW (by decide),ya,yan,yan];have h:a.toNat*b.toNat < 18446744073709551616*18446744073709551616:=Nat.mul_lt_mul'' (ybt a) (ybt b);have h2:a.toNat*b.toNat / 18446744073709551616 < 18446744073709551616:=(Nat.div_lt_iff_lt_mul (by decide)).2 h;generalize a.toNat*b.toNat=z at*;rw[show(4611686018427377339:yU).toNat=4611686018427377339 from rfl]
 have e:z / 18446744073709551616 % 2 ^ 64*18446744073709551616+z % 18446744073709551616 % 2 ^ 64=z:=by omega
 rw[e]
theorem LQ:∀(k m:Nat)(A N O:yU),N.toNat < 2 ^ k->k < m->Zb (Qz yD) m (A,N,O)=ab (yv (fa 4611686018427377339 k A.toNat N.toNat O.toNat))
 |k,0,_,_,_,_,h=>by omega
 |0,m+1,A,N,O,h,_=>by
  have hn:¬N > 0:=by
   intro h2;have h3:0 < N.toNat:=ycc.1 h2;rw[Nat.pow_zero]at h;omega
  have hs:Qz yD (A,N,O)=if ah (N > 0)=af then(if((N&&&1)==1)=af then(YC yD O A).bind λo1=>(YC yD A A).bind λo2=>ab (.inl (o2,ZJ N 1,o1)) else(YC yD A A).bind λo2=>ab (.inl (o2,ZJ N 1,O))) else ab (.inr O):=rfl
  unfold Zb;rw[hs]
  rw[yX (by rw[yN];exact hn),ya,fa,UInt64.ofNat_toNat]
 |k+1,m+1,A,N,O,h,hm=>by
  have hs:Qz yD (A,N,O)=if ah (N > 0)=af then(if((N&&&1)==1)=af then(YC yD O A).bind λo1=>(YC yD A A).bind λo2=>ab (.inl (o2,ZJ N 1,o1)) else(YC yD A A).bind λo2=>ab (.inl (o2,ZJ N 1,O))) else ab (.inr O):=rfl
  unfold Zb;rw[hs];by_cases h2:N > 0
  .have hp:0 < N.toNat->fa 4611686018427377339 (k+1) A.toNat N.toNat O.toNat=fa 4611686018427377339 k (A.toNat*A.toNat % 4611686018427377339) (N.toNat / 2) (if N.toNat % 2=1 then O.toNat*A.toNat % 4611686018427377339 else O.toNat):=λh=>by
    rw[fa,yX (by omega)]
   have h3:0 < N.toNat:=ycc.1 h2
   have hsh:(ZJ N 1).toNat=N.toNat / 2:=by
    unfold ZJ;rw[yan,yaf (ycx (Nat.div_le_self ..) (ybt _))]
   have hlt:(ZJ N 1).toNat < 2 ^ k:=by
    rw[hsh];rw[Nat.pow_succ]at h;omega
   have hand:((N&&&1)==1)=ah (N.toNat % 2=1):=by
    rw[Bool.eq_iff_iff,yT,yN, <-UInt64.toNat_inj,UInt64.toNat_and];exact Iff.of_eq (congrArg (· =1) (Nat.and_one_is_mod _))
   rw[yW (yY h2),hand,hp h3];simp only[ZGW];by_cases h4:N.toNat % 2=1
   .rw[yW (yY h4),yW h4,ya,ya,ya];dsimp only;rw[LQ k m _ _ _ hlt (by omega),LP,LP,hsh]
   .rw[yX (by rw[yN];exact h4),yX h4,ya,ya];dsimp only;rw[LQ k m _ _ _ hlt (by omega),LP,hsh]
  .have h3:N.toNat=0:=by
    rcases ycd N.toNat with h5|h5
    .exact h5
    .exact absurd (show(0:yU) < N from ycc.2 h5) h2
   rw[yX (by rw[yN];exact h2),ya,fa,yW h3,UInt64.ofNat_toNat]
theorem ZOB(a n:yU):LI yD a n=ab (yv (fa 4611686018427377339 64 a.toNat n.toNat 1)):=by
 unfold LI;rw[LQ 64 yD a n 1 (ybt _) (by rw[lr];omega),ya];rfl
noncomputable def pP(F:Nat)(a0:yU)(a1:yU):yO yU:=ab (yv (fa 4611686018427377339 64 a0.toNat a1.toNat 1))
noncomputable def ZAs(F:Nat):Fs yb:={ LJ F with M:=λx=>pP F x.1 x.2}
noncomputable def xC:Fs yb:=ZAs yD
theorem LR:xC.Ok:=ot (s:=LJ yD) ZxW λx=>(ZOB x.1 x.2).symm
end Go.Proofs.YtekdgjajmennjaaGreat
end
section
set_option maxRecDepth 4000
namespace Go.Proofs.YtekdgjajmennjaaGreat
open Go Go.Ev
noncomputable section
def XX(F:Nat)(a0:yU):yO (Bool):=
 if(ah (a0 > 0))=af then
  if(ah (a0 < 4611686018427377339))=af then
   (pP F a0 2305843009213688669).bind λa=>
   ab (a==1)
  else
  ab ag
 else
 ab ag
def LS(F:Nat):Fs yb:=⟨121,[.v .u64],[],[.u64],(zP .bool),λx=>XX F x⟩
def Qf:Fs yb:=LS yD
theorem Vq:Qf.Ok:=aF { still:=[2,10]} [] [xC] ⟨LR,ao⟩
def xD(F:Nat)(a0:yU):yO (Bool):=
 if(a0==1)=af then
  ab af
 else
 (XX F a0).bind λa=>
 ab (!a)
def Zml:Fs yb:=⟨201,[.v .u64],[],[.u64],(zP .bool),λx=>xD yD x⟩
theorem ZuB:Zml.Ok:=aF { still:=[2,6]} [] [Qf] ⟨Vq,ao⟩
abbrev VX:Ty:=(.st [.u64,.u64,.u64,.u64,.u64])
abbrev aN:Type:=(yU×yU×yU×yU×yU)
abbrev aN.Cond(x:aN):yU:=x.2.2.2.1
abbrev _root_.aSy:=yL yU
def VY(F:Nat)(s:(aSy×Int×Int)):yO ((aSy×Int×Int)⊕(Int⊕Unit)):=
 if(ah (s.2.2 < s.2.1))=af then
  (idx s.1 s.2.2).bind λa=>
  (xD F a).bind λb=>
  if b=af then
   ab (.inr (.inl s.2.2))
  else
  ab (.inl (s.1,s.2.1,wi (s.2.2+1)))
 else
 ab (.inr (.inr ()))
abbrev _root_.aSt:Go.Ev.Ty:=.sl .u64
def Zmm:Lp:=⟨[(0,.v aSt),(1,.fn 201 []),(7,.v yI),(8,.v yI)],[],[aSt,yI,yI],[⟨.ret,[(4,.v yI)],[],[yI]⟩,⟨.exit 0,[],[],[]⟩],Zb (VY yD) yD⟩
theorem ZrL:Zmm.aT yb 192 0:=Zm { still:=[4,15]} [] [Zml] ⟨ZuB,ao⟩
def LU(F:Nat)(a0:aSy):yO (Int):=
 (Zb (VY F) F (a0,(a0.length:Int),0)).bind λa=>
 match a with
 |.inl b=>
  ab b
 |.inr c=>
  ab (-1)
def Zor:Fs yb:=⟨192,[.v aSt,.fn 201 []],[],[aSt],(zP yI),λx=>LU yD x⟩
theorem Zwb:Zor.Ok:=aF { still:=[4,15]} [(0,Zmm)] [] trivial ⟨ZrL,ao⟩
def LV(F:Nat)(a0:aSy):yO (Bool):=
 (LU F a0).bind λa=>
 ab (ah (a >= 0))
def Zxi:Fs yb:=⟨122,[.v aSt,.fn 201 []],[],[aSt],(zP .bool),λx=>LV yD x⟩
theorem ZEE:Zxi.Ok:=aF { still:=[4,5,6]} [] [Zor] ⟨Zwb,ao⟩
def xE(F:Nat)(a0:aN):yO (Bool):=
 (LV F [a0.1,a0.2.1,a0.2.2.1,a0.2.2.2.1,a0.2.2.2.2]).bind λa=>
 ab (!a)
def ZpV:Fs yb:=⟨132,[.v VX],[],[VX],(zP .bool),λx=>xE yD x⟩
theorem ZxX:ZpV.Ok:=aF { still:=[2,14,15]} [] [Zxi] ⟨ZEE,ao⟩
def pQ(F:Nat)(a0:Int):yO (Bool):=
 if(ah (a0 >= 0))=af then
  ab (ah (a0<=1125899906842624))
 else
 ab ag
def Zxj:Fs yb:=⟨202,[.v yI],[],[yI],(zP .bool),λx=>pQ yD x⟩
theorem ZEF:Zxj.Ok:=aF { still:=[2]} [] [] trivial
def lw(F:Nat)(a0:Int)(a1:Int):yO ((Int×Bool)):=
 (pQ F a0).bind λa=>
 if(!a)=af then
  ab (0,ag)
 else
 (pQ F a1).bind λb=>
 if(!b)=af then
  ab (0,ag)
 else
 if(ah (a0 > (wi (1125899906842624 - a1))))=af then
  ab (0,ag)
 else
 ab (wi (a0+a1),af)
def LW:Fs yb:=⟨133,[.v yI,.v yI],[],[yI,yI],[⟨.ret,[(0,.bi [.v yI,.v .bool])],[],[yI,.bool]⟩],λx=>lw yD x.1 x.2⟩
theorem ZAt:LW.Ok:=aF { still:=[4,5,6,10]} [] [Zxj] ⟨ZEF,ao⟩
abbrev _root_.aSn:Go.Ev.Ty:=.arr 32 .u8
abbrev Zh:Ty:=(.st [aSn,yI])
abbrev al:Type:=(aSl×Int)
abbrev al.N(x:al):Int:=x.2
abbrev Z0:Ty:=(.st [Zh,yI,(.arr 2 VX),(.arr 2 ib),yI])
abbrev Chan:Type:=(al×Int×(yL aN)×(yL aX)×Int)
abbrev Chan.aN(x:Chan):(yL aN):=x.2.2.1
abbrev Chan.aX(x:Chan):(yL aX):=x.2.2.2.1
def pR(F:Nat)(s:((yL aX)×Int×Chan)):yO (((yL aX)×Int×Chan)⊕((Int×Chan)⊕Chan)):=
 if(ah (s.2.1 < 2))=af then
  (idx s.1 s.2.1).bind λa=>
  (xu F a).bind λb=>
  if(!b)=af then
   ab (.inr (.inl (1,s.2.2)))
  else
  if(aS s.2.1 2)=af then
   (s.2.2.2.2.1[s.2.1.toNat]?).bind λc=>
   (xE F c).bind λd=>
   if(!d)=af then
    ab (.inr (.inl (1,s.2.2)))
   else
   ab (.inl (s.1,wi (s.2.1+1),s.2.2))
  else
  ae
 else
 ab (.inr (.inr s.2.2))
def ZuC:Lp:=⟨[(1,.am 0 []),(34,.v (.arr 2 ib)),(35,.v yI)],[.var (.v Z0) af],[(.arr 2 ib),yI,Z0],[⟨.ret,[(2,.v yI)],[.var (.v Z0) af],[yI,Z0]⟩,⟨.exit 0,[(1,.am 0 [])],[.var (.v Z0) af],[Z0]⟩],Zb (pR yD) yD⟩
theorem ZxY:ZuC.aT yb 62 0:=Zm { still:=[2,39,46,55,59]} [] [Zsi,ZpV] ⟨ZAl,ZxX,ao⟩
def mH(F:Nat)(a0:Chan):yO (Int):=
 if(ah (a0.2.1 < 1))=af then
  ab 1
 else
 if(ah (a0.2.1 > 1125899906842624))=af then
  ab 1
 else
 if(ah (a0.1.2 < 0))=af then
  ab 1
 else
 if(ah (a0.1.2 >= 64))=af then
  ab 1
 else
 if((bits .andNot .i64 a0.2.2.2.2 1)!=0)=af then
  ab 1
 else
 (Zb (pR F) F (a0.2.2.2.1,0,a0)).bind λa=>
 match a with
 |.inl b=>
  ab b.1
 |.inr c=>
  (c.2.2.2.1[0]?).bind λd=>
  (c.2.2.2.1[1]?).bind λe=>
  (lw F d.2.1 e.2.1).bind λf=>
  if(!f.2)=af then
   ab 10
  else
  if(ah (f.1 > c.2.1))=af then
   ab 10
  else
  ab 0
def LX(F:Nat):Fs yb:=⟨62,[.v Z0],[],[Z0],(zP yI),λx=>mH F x⟩
def LY:Fs yb:=LX yD
theorem LZ:LY.Ok:=aF { still:=[2,39,46,55,59]} [(0,ZuC)] [LW] ⟨ZAt,ao⟩ ⟨ZxY,ao⟩
def xF(F:Nat)(a0:Int)(s0:Int)(s1:Int):yO ((Bool×Int×Int)):=
 if(ah (a0 < s0))=af then
  ab (af,s0,s1)
 else
 ab (ah (a0 > s1),s0,s1)
def ZkL:Fs yb:=⟨135,[.v yI,.am 0 [],.am 1 []],[.var (.v yI) af,.var (.v yI) af],[yI,yI,yI],[⟨.ret,[(0,.v .bool)],[.var (.v yI) af,.var (.v yI) af],[.bool,yI,yI]⟩],λx=>xF yD x.1 x.2.1 x.2.2⟩
theorem Ztk:ZkL.Ok:=aF { still:=[4]} [] [] trivial
abbrev _root_.aSA:=yL Int
def ZO(F:Nat)(s:(aSA×Int×Int×Int×Int)):yO ((aSA×Int×Int×Int×Int)⊕((Int×Int×Int)⊕(Int×Int))):=
 if(ah (s.2.2.1 < s.2.1))=af then
  (idx s.1 s.2.2.1).bind λa=>
  (xF F a s.2.2.2.1 s.2.2.2.2).bind λb=>
  if b.1=af then
   ab (.inr (.inl (s.2.2.1,b.2.1,b.2.2)))
  else
  ab (.inl (s.1,s.2.1,wi (s.2.2.1+1),b.2.1,b.2.2))
 else
 ab (.inr (.inr (s.2.2.2.1,s.2.2.2.2)))
abbrev _root_.aSz:Go.Ev.Ty:=.sl yI
def ZaM:Lp:=⟨[(0,.v aSz),(1,.fn 135 [.am 0 [],.am 1 []]),(7,.v yI),(8,.v yI)],[.var (.v yI) af,.var (.v yI) af],[aSz,yI,yI,yI,yI],[⟨.ret,[(4,.v yI)],[.var (.v yI) af,.var (.v yI) af],[yI,yI,yI]⟩,⟨.exit 0,[],[.var (.v yI) af,.var (.v yI) af],[yI,yI]⟩],Zb (ZO yD) yD⟩
theorem Zfc:ZaM.aT yb 203 0:=Zm { still:=[4,15]} [] [ZkL] ⟨Ztk,ao⟩
def Wh(F:Nat)(a0:aSA)(s0:Int)(s1:Int):yO ((Int×Int×Int)):=
 (Zb (ZO F) F (a0,(a0.length:Int),0,s0,s1)).bind λa=>
 match a with
 |.inl b=>
  ab (b.1,b.2.1,b.2.2)
 |.inr c=>
  ab ((-1),c.1,c.2)
def Zbg:Fs yb:=⟨203,[.v aSz,.fn 135 [.am 0 [],.am 1 []]],[.var (.v yI) af,.var (.v yI) af],[aSz,yI,yI],[⟨.ret,[(0,.v yI)],[.var (.v yI) af,.var (.v yI) af],[yI,yI,yI]⟩],λx=>Wh yD x.1 x.2.1 x.2.2⟩
theorem Zh2:Zbg.Ok:=aF { still:=[4,15]} [(0,ZaM)] [] trivial ⟨Zfc,ao⟩
def Xt(F:Nat)(a0:aSA)(s0:Int)(s1:Int):yO ((Bool×Int×Int)):=
 (Wh F a0 s0 s1).bind λa=>
 ab (ah (a.1 >= 0),a.2.1,a.2.2)
def QR:Fs yb:=⟨134,[.v aSz,.fn 135 [.am 0 [],.am 1 []]],[.var (.v yI) af,.var (.v yI) af],[aSz,yI,yI],[⟨.ret,[(0,.v .bool)],[.var (.v yI) af,.var (.v yI) af],[.bool,yI,yI]⟩],λx=>Xt yD x.1 x.2.1 x.2.2⟩
theorem Zfd:QR.Ok:=aF { still:=[4,5,6]} [] [Zbg] ⟨Zh2,ao⟩
def Vr(F:Nat)(a0:Int)(a1:Int)(a2:aSA):yO (Bool):=
 (Xt F a2 a0 a1).bind λa=>
 ab (!a.1)
def Zos:Fs yb:=⟨63,[.v yI,.v yI,.v aSz],[],[yI,yI,aSz],(zP .bool),λx=>Vr yD x.1 x.2.1 x.2.2⟩
theorem Zwd:Zos.Ok:=aF { still:=[6,7,8]} [] [QR] ⟨Zfd,ao⟩
def pS(F:Nat)(a0:yU):yO (yU):=
 (XX F a0).bind λa=>
 if a=af then
  ab a0
 else
 ab 1
def xG:Fs yb:=⟨171,[.v .u64],[],[.u64],(zP .u64),λx=>pS yD x⟩
theorem MC:xG.Ok:=aF { still:=[2,3]} [] [Qf] ⟨Vq,ao⟩
def Q2(F:Nat)(a0:yU)(a1:yU):yO (yU):=
 (pS F a0).bind λa=>
 (pP F a (a1 % 2305843009213688669)).bind λb=>
 ab b
def xH:Fs yb:=⟨88,[.v .u64,.v .u64],[],[.u64,.u64],(zP .u64),λx=>Q2 yD x.1 x.2⟩
theorem MD:xH.Ok:=aF { still:=[4,5,6,8]} [] [xG,xC] ⟨MC,LR,ao⟩
def Xb(F:Nat)(a0:yU):yO (yU):=
 (Q2 F 4 a0).bind λa=>
 ab a
def ME(F:Nat):Fs yb:=⟨32,[.v .u64],[],[.u64],(zP .u64),λx=>Xb F x⟩
def Q3:Fs yb:=ME yD
theorem Qg:Q3.Ok:=aF { still:=[2,3]} [] [xH] ⟨MD,ao⟩
abbrev fN:Ty:=(.st [.u64,.u64,.u64,.u64,.u64,aSn])
abbrev dV:Type:=(yU×yU×yU×yU×yU×aSl)
abbrev dV.Cond(x:dV):yU:=x.2.2.2.1
def xI(F:Nat)(a0:dV):yO (aN):=
 (Xb F a0.1).bind λa=>
 (Xb F a0.2.1).bind λb=>
 (Xb F a0.2.2.1).bind λc=>
 (Xb F a0.2.2.2.1).bind λd=>
 (Xb F a0.2.2.2.2.1).bind λe=>
 ab (a,b,c,d,e)
def MF(F:Nat):Fs yb:=⟨64,[.v fN],[],[fN],(zP VX),λx=>xI F x⟩
def Zsm:Fs yb:=MF yD
theorem ZpX:Zsm.Ok:=aF { still:=[4,7,10,13,16]} [] [Q3] ⟨Qg,ao⟩
abbrev Zc:Ty:=(.st [Z0,fN,yI,yI,yI])
abbrev aj:Type:=(Chan×dV×Int×Int×Int)
abbrev aj.Chan(x:aj):Chan:=x.1
abbrev aj.dV(x:aj):dV:=x.2.1
def Ys(F:Nat)(s:(aSy×Int×Int×aj)):yO ((aSy×Int×Int×aj)⊕((Bool×aj)⊕aj)):=
 if(ah (s.2.2.1 < s.2.1))=af then
  (idx s.1 s.2.2.1).bind λa=>
  (VW F a).bind λb=>
  if(!b)=af then
   ab (.inr (.inl (ag,s.2.2.2)))
  else
  ab (.inl (s.1,s.2.1,wi (s.2.2.1+1),s.2.2.2))
 else
 ab (.inr (.inr s.2.2.2))
def Zot:Lp:=⟨[(1,.am 0 []),(20,.v aSt),(21,.v yI),(22,.v yI)],[.var (.v Zc) af],[aSt,yI,yI,Zc],[⟨.ret,[(2,.v .bool)],[.var (.v Zc) af],[.bool,Zc]⟩,⟨.exit 0,[(1,.am 0 [])],[.var (.v Zc) af],[Zc]⟩],Zb (Ys yD) yD⟩
theorem Ztl:Zot.aT yb 17 0:=Zm { still:=[2,26,31,37,42,57]} [] [tw] ⟨xt,ao⟩
def XW(F:Nat)(a0:aj):yO (Bool):=
 (Zb (Ys F) F ([a0.2.1.1,a0.2.1.2.1,a0.2.1.2.2.1,a0.2.1.2.2.2.1,a0.2.1.2.2.2.2.1],5,0,a0)).bind λa=>
 match a with
 |.inl b=>
  ab b.1
 |.inr c=>
  (mH F c.1).bind λd=>
  if(d==0)=af then
   (Vr F 0 1 [c.2.2.1]).bind λe=>
   if e=af then
    (xI F c.2.1).bind λf=>
    if(aS c.2.2.1 2)=af then
     (c.1.2.2.1[c.2.2.1.toNat]?).bind λg=>
     if(ah (f=g))=af then
      (Vr F 0 1048576 [c.2.2.2.1,c.2.2.2.2]).bind λh=>
      ab h
     else
     ab ag
    else
    ae
   else
   ab ag
  else
  ab ag
def QA:Fs yb:=⟨17,[.v Zc],[],[Zc],(zP .bool),λx=>XW yD x⟩
theorem tE:QA.Ok:=aF { still:=[2,26,31,37,42,57]} [(0,Zot)] [LY,Zos,Zsm] ⟨LZ,Zwd,ZpX,ao⟩ ⟨Ztl,ao⟩
def MG(F:Nat)(a0:aSl):yO ((yU×aSl)):=
 ab (0,a0)
def Zxk:Fs yb:=⟨224,[.v aSn],[],[aSn],[⟨.ret,[(0,.fn 248 [.am 0 [],.am 1 []])],[.var (.v .u64) af,.var (.v aSn) af],[.u64,aSn]⟩],λx=>MG yD x⟩
theorem ZEG:Zxk.Ok:=aF { still:=[2]} [] [] trivial
def tF:ByteArray:=⟨#[115,116,114,101,97,109]⟩
def xJ(F:Nat)(s:(Int×Int×aSl×aSl)):yO ((Int×Int×aSl×aSl)⊕(aSl×aSl)):=
 if(ah (s.2.1 >= 0))=af then
  if(ah (0<=s.2.1))=af then
   if(bN s.2.2.1.length 1 1)=af then
    let a:aSl:=s.2.2.1++([w8 (Int.fdiv s.1 (2 ^ (min s.2.1.toNat 64)))]:yL yB)
    ab (.inl (s.1,wi (s.2.1 - 8),a,s.2.2.2))
   else
   ae
  else
  ae
 else
 ab (.inr (s.2.2.1,s.2.2.2))
abbrev _root_.aSm:Go.Ev.Ty:=.sl .u8
def ZuD:Lp:=⟨[(0,.own 0 .u8),(1,.v yI),(5,.v yI)],[.log .u8 5,.log .u8 5],[yI,yI,aSm,aSm],[⟨.exit 0,[(0,.own 0 .u8)],[.log .u8 5,.log .u8 5],[aSm,aSm]⟩],Zb (xJ yD) yD⟩
theorem ZxZ:ZuD.aT yb 186 0:=Zm { own:=[0,4,10,16,17]} [] [] trivial
def mI(F:Nat)(a1:Int)(s0:aSl):yO (aSl):=
 (Zb (xJ F) F (a1,56,s0,[])).bind λa=>
 ab a.1
def tG:Fs yb:=⟨186,[.own 0 .u8,.v yI],[.log .u8 5],[yI,aSm],[⟨.ret,[(0,.own 0 .u8)],[.log .u8 5],[aSm]⟩],λx=>mI yD x.1 x.2⟩
theorem MH:tG.Ok:=aF { own:=[0,4,10,16,17]} [(0,ZuD)] [] trivial ⟨ZxZ,ao⟩
def Zsn:Fs yb:=⟨186,[.nil .u8,.v yI],[],[yI],tG.xs,λx=>tG.M (x,([]:yL yB))⟩
theorem ZAu:Zsn.Ok:=ZSP (i1:=[yI]) (i2:=[yI,aSm]) (λx=>(x,([]:yL yB))) MH (λ_=>rfl) (λ_=>⟨_,rfl⟩)
abbrev _root_.aSM:=yL aSl
def VZ(F:Nat)(s:(aSM×Int×Int×aSl×aSl)):yO ((aSM×Int×Int×aSl×aSl)⊕(aSl×aSl)):=
 if(ah (s.2.2.1 < s.2.1))=af then
  (idx s.1 s.2.2.1).bind λa=>
  (mI F (a.length:Int) s.2.2.2.2).bind λb=>
  if(bN b.length a.length 1)=af then
   ab (.inl (s.1,s.2.1,wi (s.2.2.1+1),s.2.2.2.1,b++a))
  else
  ae
 else
 ab (.inr (s.2.2.2.1,s.2.2.2.2))
abbrev qY:List bf:=[.var (.v aSn) af,.log .u8 5]
abbrev _root_.aSL:Go.Ev.Ty:=.sl aSm
def Zxl:Lp:=⟨[(4,.am 0 []),(5,.own 1 .u8),(13,.v aSL),(14,.v yI),(15,.v yI)],qY,[aSL,yI,yI,aSn,aSm],[⟨.exit 0,[(4,.am 0 []),(5,.own 1 .u8)],qY,[aSn,aSm]⟩],Zb (VZ yD) yD⟩
def tH:HI:={ own:=[5,10,12,19,22,24],still:=[9,19,21,26]}
theorem ZAv:Zxl.aT yb 114 0:=Zm tH [] [tG] ⟨MH,ao⟩
def YG(F:Nat)(a0:aSl):yO (aSl):=
 if(bN 0 a0.length 1)=af then
  ab a0
 else
 ae
def Zlr:Fs yb:=⟨105,[.sl af .u8],[],[aSm],[⟨.ret,[(0,.own 0 .u8)],[.log .u8 5],[aSm]⟩],λx=>YG yD x⟩
theorem Zkk:Zlr.Ok:=aF { own:=[2,5,7]} [] [] trivial
def Zbi(F:Nat):yO (aSl):=
 ab []
def Zh4:Fs yb:=⟨105,[.nil .u8],[],[],[⟨.ret,[(0,.own 0 .u8)],[.log .u8 5],[aSm]⟩],λx=>Zbi yD⟩
theorem Zg1:Zh4.Ok:=aF { own:=[2,5,7]} [] [] trivial
def Zbj:Fs yb:=⟨105,[.v aSm],[],[aSm],[⟨.ret,[(0,.own 0 .u8)],[.log .u8 5],[aSm]⟩],λx=>YG yD x⟩
theorem Zh5:Zbj.Ok:=ol (t:=.u8) (xs:=[⟨.ret,[(0,.own 0 .u8)],[.log .u8 5],[aSm]⟩]) (MA:=λ(x:aSl)=>YG yD x) (MB:=λ_=>Zbi yD) Zkk Zg1 rfl
def xK(F:Nat)(s:(aSl×aSl×aSl)):yO ((aSl×aSl×aSl)⊕(aSl×aSl×aSl)):=
 if((Int.tmod (s.2.2.length:Int) 64)!=56)=af then
  if(bN s.2.2.length 1 1)=af then
   ab (.inl (s.1,s.2.1,s.2.2++([0]:yL yB)))
  else
  ae
 else
 ab (.inr (s.1,s.2.1,s.2.2))
def ZuE:Lp:=⟨[(0,.v aSm),(2,.am 0 []),(3,.own 1 .u8)],qY,[aSm,aSn,aSm],[⟨.exit 0,[(0,.v aSm),(2,.am 0 []),(3,.own 1 .u8)],qY,[aSm,aSn,aSm]⟩],Zb (xK yD) yD⟩
def jK:HI:={ own:=[3,14,16,21,23,24,28,43],still:=[13,24,27,35,37,44,46]}
theorem Zx0:ZuE.aT yb 187 0:=Zm jK [] [] trivial
abbrev _root_.aSr:=yL yV
def MI(F:Nat):yO (aSr):=
 ab [1779033703,3144134277,1013904242,2773480762,1359893119,2600822924,528734635,1541459225]
def ZuF:Fs yb:=⟨234,[],[],[],(zP (.arr 8 .u32)),λx=>MI yD⟩
theorem ZBS:ZuF.Ok:=aF {} [] [] trivial
def xL(F:Nat)(a0:aSl):yO (yV):=
 (idx a0 0).bind λa=>
 (idx a0 1).bind λb=>
 let c:yV:=(fB (ybq a.toNat) 24)|||(fB (ybq b.toNat) 16)
 (idx a0 2).bind λd=>
 (idx a0 3).bind λe=>
 let f:yV:=(c|||(fB (ybq d.toNat) 8))|||(ybq e.toNat)
 ab f
def Zso:Fs yb:=⟨259,[.v aSm],[],[aSm],(zP .u32),λx=>xL yD x⟩
theorem ZAw:Zso.Ok:=aF { still:=[2]} [] [] trivial
def ZR(F:Nat)(a0:yV)(a1:Int):yO (yV):=
 let a:yV:=fB a0 (min (((cD a1)&&&31).toNat:Int).toNat 32);let b:yV:=gx a0 (min ((32 - ((cD a1)&&&31)).toNat:Int).toNat 32)
 ab (a|||b)
def MJ:Fs yb:=⟨256,[.v .u32,.v yI],[],[.u32,yI],(zP .u32),λx=>ZR yD x.1 x.2⟩
theorem Zga:MJ.Ok:=aF { still:=[4]} [] [] trivial
def xM(F:Nat)(s:(aSl×Int×aSr)):yO ((aSl×Int×aSr)⊕aSr):=
 if(ah (s.2.1 < 64))=af then
  if(ah (s.2.1 < 16))=af then
   if(Q0 s.1.length (ab (wi (4*s.2.1))) ae)=af then
    (xL F (s.1.drop ((wi (4*s.2.1)).toNat))).bind λa=>
    if(aS s.2.1 64)=af then
     (s.2.2[s.2.1.toNat]?).bind λb=>
     ab (.inl (s.1,wi (s.2.1+1),s.2.2.set s.2.1.toNat a))
    else
    ae
   else
   ae
  else
  if(aS (wi (s.2.1 - 15)) 64)=af then
   (s.2.2[(wi (s.2.1 - 15)).toNat]?).bind λc=>
   if(aS (wi (s.2.1 - 2)) 64)=af then
    (s.2.2[(wi (s.2.1 - 2)).toNat]?).bind λd=>
    (ZR F c (-7)).bind λe=>
    (ZR F c (-18)).bind λf=>
    (ZR F d (-17)).bind λg=>
    (ZR F d (-19)).bind λh=>
    if(aS (wi (s.2.1 - 16)) 64)=af then
     (s.2.2[(wi (s.2.1 - 16)).toNat]?).bind λi=>
     if(aS (wi (s.2.1 - 7)) 64)=af then
      (s.2.2[(wi (s.2.1 - 7)).toNat]?).bind λj=>
      let k:yV:=(i+((e^^^f)^^^(gx c 3)))+j
      if(aS s.2.1 64)=af then
       (s.2.2[s.2.1.toNat]?).bind λl=>
       let m:aSr:=s.2.2.set s.2.1.toNat (k+((g^^^h)^^^(gx d 10)))
       ab (.inl (s.1,wi (s.2.1+1),m))
      else
      ae
     else
     ae
    else
    ae
   else
   ae
  else
  ae
 else
 ab (.inr s.2.2)
def Zmo:Lp:=⟨[(0,.v aSm),(2,.am 0 []),(8,.v yI)],[.var (.v (.arr 64 .u32)) af],[aSm,yI,(.arr 64 .u32)],[⟨.exit 0,[(2,.am 0 [])],[.var (.v (.arr 64 .u32)) af],[(.arr 64 .u32)]⟩],Zb (xM yD) yD⟩
theorem ZrM:Zmo.aT yb 254 0:=Zm { still:=[17,28,30,36,38]} [] [Zso,MJ] ⟨ZAw,Zga,ao⟩
def xN(F:Nat)(a0:aSl):yO (aSr):=
 (Zb (xM F) F (a0,0,[0,0,0,0,0,0,0,0,0,0,0,0,0,0,0,0,0,0,0,0,0,0,0,0,0,0,0,0,0,0,0,0,0,0,0,0,0,0,0,0,0,0,0,0,0,0,0,0,0,0,0,0,0,0,0,0,0,0,0,0,0,0,0,0])).bind λa=>
 ab a
def Zou:Fs yb:=⟨254,[.v aSm],[],[aSm],(zP (.arr 64 .u32)),λx=>xN yD x⟩
theorem Zwe:Zou.Ok:=aF { still:=[17,28,30,36,38]} [(0,Zmo)] [] trivial ⟨ZrM,ao⟩
def MK(F:Nat):yO (aSr):=
 ab [1116352408,1899447441,3049323471,3921009573,961987163,1508970993,2453635748,2870763221,3624381080,310598401,607225278,1426881987,1925078388,2162078206,2614888103,3248222580,3835390401,4022224774,264347078,604807628,770255983,1249150122,1555081692,1996064986,2554220882,2821834349,2952996808,3210313671,3336571891,3584528711,113926993,338241895,666307205,773529912,1294757372,1396182291,1695183700,1986661051,2177026350,2456956037,2730485921,2820302411,3259730800,3345764771,3516065817,3600352804,4094571909,275423344,430227734,506948616,659060556,883997877,958139571,1322822218,1537002063,1747873779,1955562222,2024104815,2227730452,2361852424,2428436474,2756734187,3204031479,3329325298]
def ZuG:Fs yb:=⟨255,[],[],[],(zP (.arr 64 .u32)),λx=>MK yD⟩
theorem ZBT:ZuG.Ok:=aF {} [] [] trivial
def Q4(F:Nat)(s:(Int×aSr×aSr×aSr×aSr×aSr)):yO ((Int×aSr×aSr×aSr×aSr×aSr)⊕(aSr×aSr×aSr×aSr×aSr)):=
 if(ah (s.1 < 64))=af then
  (s.2.2.2.2.2[4]?).bind λa=>
  (ZR F a (-6)).bind λb=>
  (s.2.2.2.2.2[4]?).bind λc=>
  (ZR F c (-11)).bind λd=>
  (s.2.2.2.2.2[4]?).bind λe=>
  (ZR F e (-25)).bind λf=>
  (s.2.2.2.2.2[7]?).bind λg=>
  (s.2.2.2.2.2[6]?).bind λh=>
  (s.2.2.2.2.2[4]?).bind λi=>
  (s.2.2.2.2.2[5]?).bind λj=>
  (s.2.2.2.2.2[6]?).bind λk=>
  let l:yV:=(g+((b^^^d)^^^f))+(h^^^(i&&&(j^^^k)))
  if(aS s.1 64)=af then
   (s.2.2.2.2.1[s.1.toNat]?).bind λm=>
   if(aS s.1 64)=af then
    (s.2.2.2.1[s.1.toNat]?).bind λn=>
    (s.2.2.2.2.2[0]?).bind λo=>
    (ZR F o (-2)).bind λp=>
    (s.2.2.2.2.2[0]?).bind λq=>
    (ZR F q (-13)).bind λr=>
    (s.2.2.2.2.2[0]?).bind λt=>
    (ZR F t (-22)).bind λu=>
    (s.2.2.2.2.2[0]?).bind λv=>
    (s.2.2.2.2.2[1]?).bind λw=>
    (s.2.2.2.2.2[2]?).bind λx=>
    (s.2.2.2.2.2[0]?).bind λy=>
    (s.2.2.2.2.2[1]?).bind λz=>
    let A:yV:=((l+m)+n)+((p^^^r)^^^u);let B:yV:=A+((v&&&w)|||(x&&&(y|||z)))
    (s.2.2.2.2.2[0]?).bind λC=>
    (s.2.2.2.2.2[1]?).bind λD=>
    (s.2.2.2.2.2[2]?).bind λE=>
    (s.2.2.2.2.2[3]?).bind λG=>
    (s.2.2.2.2.2[4]?).bind λH=>
    (s.2.2.2.2.2[5]?).bind λI=>
    (s.2.2.2.2.2[6]?).bind λJ=>
    ab (.inl (wi (s.1+1),s.2.1,s.2.2.1,s.2.2.2.1,s.2.2.2.2.1,[B,C,D,E,G+((l+m)+n),H,I,J]))
   else
   ae
  else
  ae
 else
 ab (.inr (s.2.1,s.2.2.1,s.2.2.2.1,s.2.2.2.2.1,s.2.2.2.2.2))
def xO:yL bf:=[.var (.v (.arr 8 .u32)) af,.var (.v (.arr 8 .u32)) af,.var (.v (.arr 64 .u32)) af,.var (.v (.arr 64 .u32)) af,.var (.v (.arr 8 .u32)) af]
def ZkM:Lp:=⟨[(2,.am 0 []),(4,.am 1 []),(5,.am 2 []),(6,.am 3 []),(7,.am 4 []),(18,.v yI)],xO,[yI,(.arr 8 .u32),(.arr 8 .u32),(.arr 64 .u32),(.arr 64 .u32),(.arr 8 .u32)],[⟨.exit 0,[(2,.am 0 []),(4,.am 1 []),(7,.am 4 [])],xO,[(.arr 8 .u32),(.arr 8 .u32),(.arr 64 .u32),(.arr 64 .u32),(.arr 8 .u32)]⟩],Zb (Q4 yD) yD⟩
def hi3:HI:={ still:=[14,22,25,29,57,60,64]}
theorem Zp0:ZkM.aT yb 235 0:=Zm hi3 [] [MJ] ⟨Zga,ao⟩
def Q5(F:Nat)(s:(Int×aSr×aSr×aSr×aSr×aSr)):yO ((Int×aSr×aSr×aSr×aSr×aSr)⊕(aSr×aSr×aSr×aSr×aSr)):=
 if(ah (s.1 < 8))=af then
  if(aS s.1 8)=af then
   (s.2.2.2.2.2[s.1.toNat]?).bind λa=>
   if(aS s.1 8)=af then
    (s.2.1[s.1.toNat]?).bind λb=>
    if(aS s.1 8)=af then
     (s.2.2.2.2.2[s.1.toNat]?).bind λc=>
     ab (.inl (wi (s.1+1),s.2.1,s.2.2.1,s.2.2.2.1,s.2.2.2.2.1,s.2.2.2.2.2.set s.1.toNat (a+b)))
    else
    ae
   else
   ae
  else
  ae
 else
 ab (.inr (s.2.1,s.2.2.1,s.2.2.2.1,s.2.2.2.2.1,s.2.2.2.2.2))
def ZkN:Lp:=⟨[(2,.am 0 []),(4,.am 1 []),(7,.am 4 []),(104,.v yI)],xO,[yI,(.arr 8 .u32),(.arr 8 .u32),(.arr 64 .u32),(.arr 64 .u32),(.arr 8 .u32)],[⟨.exit 2,[(4,.am 1 []),(7,.am 4 [])],xO,[(.arr 8 .u32),(.arr 8 .u32),(.arr 64 .u32),(.arr 64 .u32),(.arr 8 .u32)]⟩],Zb (Q5 yD) yD⟩
theorem Zp1:ZkN.aT yb 235 1:=Zm hi3 [] [] trivial
def tI(F:Nat)(a0:aSr)(a1:aSl):yO (aSr):=
 (xN F a1).bind λa=>
 (MK F).bind λb=>
 (Zb (Q4 F) F (0,a0,[0,0,0,0,0,0,0,0],a,b,a0)).bind λc=>
 (Zb (Q5 F) F (0,c.1,c.2.1,c.2.2.1,c.2.2.2.1,c.2.2.2.2)).bind λd=>
 ab d.2.2.2.2
def ML:Fs yb:=⟨235,[.v (.arr 8 .u32),.v aSm],[],[(.arr 8 .u32),aSm],(zP (.arr 8 .u32)),λx=>tI yD x.1 x.2⟩
theorem ZkO:ML.Ok:=aF hi3 [(0,ZkM),(1,ZkN)] [Zou,ZuG] ⟨Zwe,ZBT,ao⟩ ⟨Zp0,Zp1,ao⟩
def xP(F:Nat)(s:(aSl×aSl×aSl×aSr)):yO ((aSl×aSl×aSl×aSr)⊕(aSl×aSl×aSr)):=
 if(ah ((s.1.length:Int) >= 64))=af then
  if(Q0 s.1.length ae (ab 64))=af then
   (tI F s.2.2.2 (s.1.take 64)).bind λa=>
   if(Q0 s.1.length (ab 64) ae)=af then
    ab (.inl (s.1.drop 64,s.2.1,s.2.2.1,a))
   else
   ae
  else
  ae
 else
 ab (.inr (s.2.1,s.2.2.1,s.2.2.2))
abbrev qB:List bf:=[.var (.v aSn) af,.log .u8 5,.var (.v (.arr 8 .u32)) af]
def ZuH:Lp:=⟨[(0,.v aSm),(2,.am 0 []),(3,.own 1 .u8),(4,.am 2 [])],qB,[aSm,aSn,aSm,(.arr 8 .u32)],[⟨.exit 2,[(2,.am 0 []),(3,.own 1 .u8),(4,.am 2 [])],qB,[aSn,aSm,(.arr 8 .u32)]⟩],Zb (xP yD) yD⟩
theorem Zx1:ZuH.aT yb 187 1:=Zm jK [] [ML] ⟨ZkO,ao⟩
def xQ(F:Nat)(s:(aSl×aSl×aSl×aSr)):yO ((aSl×aSl×aSl×aSr)⊕(aSl×aSl×aSr)):=
 if(ah ((s.1.length:Int) > 0))=af then
  if(Q0 s.1.length ae (ab 64))=af then
   (tI F s.2.2.2 (s.1.take 64)).bind λa=>
   if(Q0 s.1.length (ab 64) ae)=af then
    ab (.inl (s.1.drop 64,s.2.1,s.2.2.1,a))
   else
   ae
  else
  ae
 else
 ab (.inr (s.2.1,s.2.2.1,s.2.2.2))
def ZuI:Lp:=⟨[(2,.am 0 []),(3,.v aSm),(4,.am 2 [])],qB,[aSm,aSn,aSm,(.arr 8 .u32)],[⟨.exit 4,[(2,.am 0 []),(4,.am 2 [])],qB,[aSn,aSm,(.arr 8 .u32)]⟩],Zb (xQ yD) yD⟩
theorem Zx2:ZuI.aT yb 187 2:=Zm jK [] [ML] ⟨ZkO,ao⟩
def xR(F:Nat)(s:(Int×aSl×aSl×aSr)):yO ((Int×aSl×aSl×aSr)⊕(aSl×aSl×aSr)):=
 if(ah (s.1 < 32))=af then
  if(aS (wi (Int.tdiv s.1 4)) 8)=af then
   (s.2.2.2[(wi (Int.tdiv s.1 4)).toNat]?).bind λa=>
   if(ah (0<=wi (24 - (wi (8*(Int.tmod s.1 4))))))=af then
    let b:yV:=gx a (min (wi (24 - (wi (8*(Int.tmod s.1 4))))).toNat 32)
    if(aS s.1 32)=af then
     (s.2.1[s.1.toNat]?).bind λc=>
     ab (.inl (wi (s.1+1),s.2.1.set s.1.toNat (w8 (b.toNat:Int)),s.2.2.1,s.2.2.2))
    else
    ae
   else
   ae
  else
  ae
 else
 ab (.inr (s.2.1,s.2.2.1,s.2.2.2))
def ZuJ:Lp:=⟨[(2,.am 0 []),(4,.am 2 []),(48,.v yI)],qB,[yI,aSn,aSm,(.arr 8 .u32)],[⟨.exit 6,[(2,.am 0 [])],qB,[aSn,aSm,(.arr 8 .u32)]⟩],Zb (xR yD) yD⟩
theorem Zx3:ZuJ.aT yb 187 3:=Zm jK [] [] trivial
def tJ(F:Nat)(a0:aSl):yO (aSl):=
 let a:Int:=wi ((a0.length:Int) - (Int.tmod (a0.length:Int) 64))
 if(Q0 a0.length (ab a) ae)=af then
  (YG F (a0.drop a.toNat)).bind λb=>
  if(bN b.length 1 1)=af then
   (Zb (xK F) F (a0,ct,b++([128]:yL yB))).bind λc=>
   (mI F (wi (8*(c.1.length:Int))) c.2.2).bind λd=>
   (MI F).bind λe=>
   (Zb (xP F) F (c.1,c.2.1,d,e)).bind λf=>
   (Zb (xQ F) F (f.2.1,f.1,f.2.1,f.2.2)).bind λg=>
   (Zb (xR F) F (0,g.1,g.2.1,g.2.2)).bind λh=>
   ab h.1
  else
  ae
 else
 ae
def MM(F:Nat):Fs yb:=⟨187,[.v aSm],[],[aSm],(zP aSn),λx=>tJ F x⟩
def ZGY:Fs yb:=MM yD
theorem ZEH:ZGY.Ok:=aF jK [(0,ZuE),(1,ZuH),(2,ZuI),(3,ZuJ)] [tG,Zbj,ZuF] ⟨MH,Zh5,ZBS,ao⟩ ⟨Zx0,Zx1,Zx2,Zx3,ao⟩
end
end Go.Proofs.YtekdgjajmennjaaGreat
end
section
namespace Go.Sha
open Go.Ev
noncomputable def fq{α:Type}(n:Nat)(k:Nat->α):α:=Nat.rec (motive:=λ_=>α) (k 0) (λm _=>k (Nat.succ m)) n
theorem WI{α:Type}(n:Nat)(k:Nat->α):fq n k=k n:=by cases n <;> rfl
def ew(x:Nat):Nat:=Nat.mul x 4294967297
def s0(x:Nat):Nat:=Nat.xor (Nat.xor (yah (ew x) 7) (yah (ew x) 18)) (yah x 3)
def s1(x:Nat):Nat:=Nat.xor (Nat.xor (yah (ew x) 17) (yah (ew x) 19)) (yah x 10)
def S0(x:Nat):Nat:=Nat.xor (Nat.xor (yah (ew x) 2) (yah (ew x) 13)) (yah (ew x) 22)
def S1(x:Nat):Nat:=Nat.xor (Nat.xor (yah (ew x) 6) (yah (ew x) 11)) (yah (ew x) 25)
def ch(e f g:Nat):Nat:=Nat.xor g (Nat.land e (Nat.xor f g))
def mj(a b c:Nat):Nat:=Nat.lor (Nat.land a b) (Nat.land c (Nat.lor a b))
def lo(x:Nat):Nat:=Nat.mod x 4294967296
def kw(W:Nat):Nat:=lo (yr (yr (yr (yah W 480) (s0 (lo (yah W 448)))) (lo (yah W 192))) (s1 (lo (yah W 32))))
def kn(W:Nat):Nat:=Nat.mod (yr (Nat.mul W 4294967296) (kw W)) (Nat.pow 2 512)
noncomputable def xS(k:Nat)(ih:Nat->Nat->Nat->Nat->Nat->Nat->Nat->Nat->Nat->Nat)(W a b c d e f g h:Nat):Nat:=
 fq (yr (yr (yr (yr h (S1 e)) (ch e f g)) k) (yah W 480)) λt=>
     fq (lo (yr (yr t (S0 a)) (mj a b c))) λa'=>fq (lo (yr d t)) λe'=>fq (kn W) λW'=>ih W' a' a b c e' e f g
noncomputable def pT(ks:yL Nat)(K:Nat->Nat->Nat->Nat->Nat->Nat->Nat->Nat->Nat):Nat->Nat->Nat->Nat->Nat->Nat->Nat->Nat->Nat->Nat:=
 List.rec (motive:=λ_=>Nat->Nat->Nat->Nat->Nat->Nat->Nat->Nat->Nat->Nat) (λ_=>K) (λk _ ih=>xS k ih) ks
def ks:yL Nat:=[1116352408,1899447441,3049323471,3921009573,961987163,1508970993,2453635748,2870763221,3624381080,310598401,607225278,1426881987,1925078388,2162078206,2614888103,3248222580,3835390401,4022224774,264347078,604807628,770255983,1249150122,1555081692,1996064986,2554220882,2821834349,2952996808,3210313671,3336571891,3584528711,113926993,338241895,666307205,773529912,1294757372,1396182291,1695183700,1986661051,2177026350,2456956037,2730485921,2820302411,3259730800,3345764771,3516065817,3600352804,4094571909,275423344,430227734,506948616,659060556,883997877,958139571,1322822218,1537002063,1747873779,1955562222,2024104815,2227730452,2361852424,2428436474,2756734187,3204031479,3329325298]
def w32(H i:Nat):Nat:=lo (yah H i)
def bA(H x:Nat):Nat:=yr (Nat.mul H 4294967296) (lo x)
noncomputable def xU(H B:Nat):Nat:=
 fq (w32 H 224) λa=>fq (w32 H 192) λb=>fq (w32 H 160) λc=>fq (w32 H 128) λd=>fq (w32 H 96) λe=>fq (w32 H 64) λf=>fq (w32 H 32) λg=>fq (w32 H 0) λh=>
  pT ks (λa' b' c' d' e' f' g' h'=>bA (bA (bA (bA (bA (bA (bA (bA 0 (yr a' a)) (yr b' b)) (yr c' c)) (yr d' d)) (yr e' e)) (yr f' f)) (yr g' g)) (yr h' h)) B a b c d e f g h
noncomputable def pk(l:yL Nat)(n:Nat):Nat:=List.rec (motive:=λ_=>Nat->Nat) (λn=>n) (λx _ ih n=>fq (yr (Nat.mul n 256) x) ih) l n
noncomputable def MN(n:Nat)(l:yL Nat)(H:Nat):Nat:=
 Nat.rec (motive:=λ_=>yL Nat->Nat->Nat) (λ_ H=>H) (λ_ ih l H=>fq (xU H (pk (l.take 64) 0)) λH'=>ih (l.drop 64) H') n l H
noncomputable def outs(H:Nat)(l:yL Nat):yL yB:=List.rec (motive:=λ_=>yL yB) [] (λs _ ih=>fq (Nat.mod (yah H s) 256) λx=>yav x::ih) l
def MO:yL Nat:=[248,240,232,224,216,208,200,192,184,176,168,160,152,144,136,128,120,112,104,96,88,80,72,64,56,48,40,32,24,16,8,0]
def ic(n:Nat):yL Nat:=[n / 2 ^ 56 % 256,n / 2 ^ 48 % 256,n / 2 ^ 40 % 256,n / 2 ^ 32 % 256,n / 2 ^ 24 % 256,n / 2 ^ 16 % 256,n / 2 ^ 8 % 256,n % 256]
def zs(n:Nat):Nat:=(119 - n % 64) % 64
def H0:Nat:=bA (bA (bA (bA (bA (bA (bA (bA 0 1779033703) 3144134277) 1013904242) 2773480762) 1359893119) 2600822924) 528734635) 1541459225
noncomputable def fO(l:yL yB):yL yB:=
 fq l.length λn=>fq (MN (Nat.div (yr n 72) 64) (l.map yaj++(128::(yw (zs n) 0++ic (8*n)))) H0) λH=>outs H MO
theorem fl(x y:yV):(x+y).toNat=lo (x.toNat+y.toNat):=by rw[UInt32.toNat_add];rfl
theorem ko(x y:yV):(x^^^y).toNat=Nat.xor x.toNat y.toNat:=UInt32.toNat_xor ..
theorem MQ(x y:yV):(x&&&y).toNat=Nat.land x.toNat y.toNat:=UInt32.toNat_and ..
theorem lx(x y:yV):(x|||y).toNat=Nat.lor x.toNat y.toNat:=UInt32.toNat_or ..
theorem MS(x:yV):x.toNat < 4294967296:=x.toNat_lt
theorem pU(x:yV)(n:Nat):(gx x n).toNat=yah x.toNat n:=by
 unfold gx;rw[UInt32.toNat_ofNat',show yah x.toNat n=x.toNat >>> n from rfl,yda]
 exact yaf (ycx (Nat.div_le_self _ _) (MS x))
theorem ZRL(x:Nat):lo x < 4294967296:=ybb _ (by omega)
theorem fP{x:Nat}(h:x < 4294967296):lo x=x:=yaf h
theorem ZRM(x:yV){n k:Nat}(h:n+k=32)(hn:0 < n):(fB x k|||gx x n).toNat=lo (yah (ew x.toNat) n):=by
 rw[lx,pU];unfold fB;have hx:=MS x;generalize x.toNat=m at hx;have hp:2 ^ n*2 ^ k=4294967296:=by rw[<-Nat.pow_add,h]
 rw[UInt32.toNat_ofNat',show yah m n=m >>> n from rfl,yda,show yah (ew m) n=(ew m) >>> n from rfl,yda]
 have e1:m*2 ^ k % 2 ^ 32=2 ^ k*(m % 2 ^ n):=by
  rw[show(2:Nat) ^ 32=2 ^ n*2 ^ k from hp.symm,Nat.mul_mod_mul_right]
  exact ybi ..
 have hd:m / 2 ^ n < 2 ^ k:=by
  rw[Nat.div_lt_iff_lt_mul (Nat.two_pow_pos n),ybi,hp];exact hx
 rw[e1,show Nat.lor (2 ^ k*(m % 2 ^ n)) (m / 2 ^ n)=2 ^ k*(m % 2 ^ n)|||m / 2 ^ n from rfl, <-ycw hd]
 have e2:ew m=2 ^ n*(m*2 ^ k)+m:=by
  unfold ew;rw[Nat.mul_left_comm,hp,show Nat.mul m 4294967297=m*4294967297 from rfl]
  omega
 rw[e2,Nat.mul_add_div (Nat.two_pow_pos n)];unfold lo;rw[show Nat.mod (m*2 ^ k+m / 2 ^ n) 4294967296=(m*2 ^ k+m / 2 ^ n) % 4294967296 from rfl,Nat.add_mod,show m*2 ^ k % 4294967296=2 ^ k*(m % 2 ^ n) from e1,yaf (a:=m / 2 ^ n) (b:=4294967296) (by rw[<-hp];exact Nat.lt_of_lt_of_le hd (Nat.le_mul_of_pos_left _ (Nat.two_pow_pos n)))]
 refine(yaf ?_).symm;have hm:m % 2 ^ n < 2 ^ n:=ybb _ (Nat.two_pow_pos n)
 calc 2 ^ k*(m % 2 ^ n)+m / 2 ^ n < 2 ^ k*(m % 2 ^ n)+2 ^ k:=by omega
  _=2 ^ k*(m % 2 ^ n+1):=by rw[Nat.mul_add,Nat.mul_one]
  _<=2 ^ k*2 ^ n:=Nat.mul_le_mul_left _ hm
  _=4294967296:=by rw[ybi,hp]
theorem mJ(x y:Nat):lo (Nat.xor x y)=Nat.xor (lo x) (lo y):=Nat.xor_mod_two_pow (n:=32)
theorem ZOD(x:yV)(n:Nat):lo (yah x.toNat n)=yah x.toNat n:=by
 rw[<-pU];exact fP (MS _)
theorem ZUb(x:yV){a b:yV}(ha:a.toNat=lo (yah (ew x.toNat) 7))(hb:b.toNat=lo (yah (ew x.toNat) 18)):((a^^^b)^^^gx x 3).toNat=lo (s0 x.toNat):=by
 unfold s0;rw[ko,ko,pU,ha,hb,mJ,mJ,ZOD]
theorem ZUc(x:yV){a b:yV}(ha:a.toNat=lo (yah (ew x.toNat) 17))(hb:b.toNat=lo (yah (ew x.toNat) 19)):((a^^^b)^^^gx x 10).toNat=lo (s1 x.toNat):=by
 unfold s1;rw[ko,ko,pU,ha,hb,mJ,mJ,ZOD]
theorem ZUd(x:yV){a b c:yV}(ha:a.toNat=lo (yah (ew x.toNat) 2))(hb:b.toNat=lo (yah (ew x.toNat) 13))(hc:c.toNat=lo (yah (ew x.toNat) 22)):((a^^^b)^^^c).toNat=lo (S0 x.toNat):=by
 unfold S0;rw[ko,ko,ha,hb,hc,mJ,mJ]
theorem ZUe(x:yV){a b c:yV}(ha:a.toNat=lo (yah (ew x.toNat) 6))(hb:b.toNat=lo (yah (ew x.toNat) 11))(hc:c.toNat=lo (yah (ew x.toNat) 25)):((a^^^b)^^^c).toNat=lo (S1 x.toNat):=by
 unfold S1;rw[ko,ko,ha,hb,hc,mJ,mJ]
theorem ZUf(e f g:yV):(g^^^(e&&&(f^^^g))).toNat=ch e.toNat f.toNat g.toNat:=by
 unfold ch;rw[ko,MQ,ko]
theorem ZUg(a b c:yV):((a&&&b)|||(c&&&(a|||b))).toNat=mj a.toNat b.toNat c.toNat:=by
 unfold mj;rw[lx,MQ,MQ,lx]
theorem ZUh(a b c d:Nat):lo (lo (lo (a+lo b)+c)+lo d)=lo (a+b+c+d):=by
 show(((a+b % 4294967296) % 4294967296+c) % 4294967296+d % 4294967296) % 4294967296=(a+b+c+d) % 4294967296;omega
theorem ZUi(a b c d e:Nat):lo (lo (lo (lo (a+lo b)+c)+d)+e)=lo (yr (yr (yr (yr a b) c) d) e):=by
 show((((a+b % 4294967296) % 4294967296+c) % 4294967296+d) % 4294967296+e) % 4294967296=(a+b+c+d+e) % 4294967296;omega
theorem ZUj(t s m:Nat):lo (lo (lo t+lo s)+m)=lo (yr (yr t s) m):=by
 show((t % 4294967296+s % 4294967296) % 4294967296+m) % 4294967296=(t+s+m) % 4294967296;omega
theorem ZUk(d t:Nat):lo (d+lo t)=lo (yr d t):=by
 show(d+t % 4294967296) % 4294967296=(d+t) % 4294967296;omega
def pw(n:Nat)(l:yL Nat):Nat:=l.foldl (λn x=>n*4294967296+x) n
theorem MT:∀(l:yL Nat)(n:Nat),(∀x,x∈l->x < 4294967296)->pw n l / 2 ^ (32*l.length)=n
 |[],n,_=>by simp[pw]
 |x::r,n,h=>by
  have ih:=MT r (n*4294967296+x) (λy hy=>h y (yaz _ hy));have hx:=h x (yax ..);rw[show pw n (x::r)=pw (n*4294967296+x) r from rfl,yam,show 32*(r.length+1)=32*r.length+32 by omega,Nat.pow_add, <-Nat.div_div_eq_div_mul,ih]
  omega
theorem xV:∀(l:yL Nat)(n:Nat),pw n l=n*2 ^ (32*l.length)+pw 0 l
 |[],n=>by simp[pw]
 |x::r,n=>by
  rw[show pw n (x::r)=pw (n*4294967296+x) r from rfl,show pw 0 (x::r)=pw (0*4294967296+x) r from rfl,xV r (n*4294967296+x),xV r (0*4294967296+x),yam,show 32*(r.length+1)=32+32*r.length by omega,Nat.pow_add,Nat.zero_mul,
   yat,yau, <-Nat.mul_assoc,Nat.add_assoc]
theorem ZRN:∀(l:yL Nat),(∀x,x∈l->x < 4294967296)->pw 0 l < 2 ^ (32*l.length)
 |[],_=>by simp[pw]
 |x::r,h=>by
  have ih:=ZRN r (λy hy=>h y (yaz _ hy));have hx:=h x (yax ..);rw[show pw 0 (x::r)=pw (0*4294967296+x) r from rfl,xV,yam,show 32*(r.length+1)=32+32*r.length by omega,Nat.pow_add,Nat.zero_mul,yat]
  have:(x+1)*2 ^ (32*r.length)<=2 ^ 32*2 ^ (32*r.length):=ycg _ (by omega);rw[yau,Nat.one_mul]at this;omega
theorem ZRO{n x s:Nat}{r:yL Nat}(h:∀y,y∈r->y < 4294967296)(hs:s=32*r.length):yah (pw n (x::r)) s=n*4294967296+x:=by
 subst hs;rw[show yah (pw n (x::r)) (32*r.length)=pw n (x::r) >>> (32*r.length) from rfl,yda]
 exact MT r (n*4294967296+x) h
theorem ZRP{n x s:Nat}{r:yL Nat}(hx:x < 4294967296)(h:∀y,y∈r->y < 4294967296)(hs:s=32*r.length):lo (yah (pw n (x::r)) s)=x:=by
 rw[ZRO h hs];show(n*4294967296+x) % 4294967296=x;omega
theorem MU(n:Nat)(l r:yL Nat):pw n (l++r)=pw (pw n l) r:=List.foldl_append ..
theorem ZKw(n x:Nat)(r:yL Nat):pw n (x::r)=pw (n*4294967296+x) r:=rfl
theorem mK{v l r:yL Nat}{x s:Nat}(e:v=l++x::r)(h:∀y,y∈v->y < 4294967296)(hs:s=32*r.length):lo (yah (pw 0 v) s)=x:=by
 rw[e]at h ⊢;rw[MU];exact ZRP (h x (by simp)) (λy hy=>h y (by simp[hy])) hs
def wd(ws:yL Nat)(n:Nat):Nat:=if h:n < 16 then lo (ws.getD n 0) else lo (wd ws (n - 16)+s0 (wd ws (n - 15))+wd ws (n - 7)+s1 (wd ws (n - 2)))
termination_by n
decreasing_by all_goals omega
theorem ZUl(ws:yL Nat)(n:Nat):wd ws n < 4294967296:=by
 rw[wd];split <;> exact ZRL _
theorem MV(ws:yL Nat)(n:Nat):wd ws (n+16)=lo (wd ws n+s0 (wd ws (n+1))+wd ws (n+9)+s1 (wd ws (n+14))):=by
 rw[wd,dif_neg (by omega)];simp only[Nat.add_sub_cancel,show n+16 - 15=n+1 by omega,show n+16 - 7=n+9 by omega,show n+16 - 2=n+14 by omega]
def win(ws:yL Nat)(i:Nat):yL Nat:=[wd ws i,wd ws (i+1),wd ws (i+2),wd ws (i+3),wd ws (i+4),wd ws (i+5),wd ws (i+6),wd ws (i+7),wd ws (i+8),wd ws (i+9),wd ws (i+10),wd ws (i+11),wd ws (i+12),wd ws (i+13),wd ws (i+14),wd ws (i+15)]
theorem MW{ws:yL Nat}{i:Nat}{l:yL Nat}(h:∀x,x∈l->∃j,x=wd ws j):∀x,x∈l->x < 4294967296:=λx hx=>by
 obtain⟨j,rfl⟩:=h x hx;exact ZUl _ _
theorem ZKx(ws:yL Nat)(i:Nat):yah (pw 0 (win ws i)) 480=wd ws i:=by
 have h:=ZRO (n:=0) (x:=wd ws i) (s:=480) (r:=(win ws i).tail) (MW (ws:=ws) (i:=i) (λx hx=>by
  simp only[win,List.tail_cons,ybo,ycm,or_false]at hx;rcases hx with h|h|h|h|h|h|h|h|h|h|h|h|h|h|h <;> exact⟨_,h⟩)) rfl
 rw[Nat.zero_mul,yat]at h;exact h
theorem ZS6(ws:yL Nat)(i:Nat):kw (pw 0 (win ws i))=wd ws (i+16):=by
 have key:∀(l r:yL Nat)(x s:Nat),win ws i=l++x::r->s=32*r.length->lo (yah (pw 0 (win ws i)) s)=x:=by
  intro l r x s e hs
  have zO:∀y,y∈win ws i->y < 4294967296:=MW (i:=i) λx hx=>by
   simp only[win,ybo,ycm,or_false]at hx;rcases hx with h|h|h|h|h|h|h|h|h|h|h|h|h|h|h|h <;> exact⟨_,h⟩
  rw[e]at zO ⊢;rw[MU];exact ZRP (zO x (by simp)) (λy hy=>zO y (by simp[hy])) hs
 unfold kw;rw[ZKx,key [_] _ (wd ws (i+1)) 448 rfl rfl,key [_,_,_,_,_,_,_,_,_] _ (wd ws (i+9)) 192 rfl rfl,key [_,_,_,_,_,_,_,_,_,_,_,_,_,_] _ (wd ws (i+14)) 32 rfl rfl,MV];rfl
theorem ZQQ(a b m:Nat)(h:b < 2 ^ m):Nat.mod (a*2 ^ m+b) (Nat.pow 2 m)=b:=by
 show(a*2 ^ m+b) % 2 ^ m=b;rw[ybi,Nat.mul_add_mod];exact yaf h
theorem ZS7(ws:yL Nat)(i:Nat):kn (pw 0 (win ws i))=pw 0 (win ws (i+1)):=by
 have e:yr (Nat.mul (pw 0 (win ws i)) 4294967296) (kw (pw 0 (win ws i)))=pw (wd ws i) (win ws (i+1)):=by
  rw[ZS6];show pw 0 (win ws i)*4294967296+wd ws (i+16)=pw (wd ws i) (win ws (i+1));rw[show wd ws i=0*4294967296+wd ws i by omega];rfl
 unfold kn;rw[e,xV];have hl:(win ws (i+1)).length=16:=rfl
 have hlt:=ZRN (win ws (i+1)) (MW (i:=i+1) λx hx=>by
  simp only[win,ybo,ycm,or_false]at hx;rcases hx with h|h|h|h|h|h|h|h|h|h|h|h|h|h|h|h <;> exact⟨_,h⟩)
 rw[show 512=32*(win ws (i+1)).length by rw[hl]];exact ZQQ _ _ _ hlt
def ou(v:yL Nat)(k w:Nat):yL Nat:=match v with
 |[a,b,c,d,e,f,g,h]=>[lo (yr (yr (yr (yr (yr (yr h (S1 e)) (ch e f g)) k) w) (S0 a)) (mj a b c)),a,b,c,lo (yr d (yr (yr (yr (yr h (S1 e)) (ch e f g)) k) w)),e,f,g]
 |_=>[]
def rs(ws v:yL Nat):Nat->yL Nat
 |0=>v
 |i+1=>ou (rs ws v i) (ks.getD i 0) (wd ws i)
theorem ZQR{v:yL Nat}(h:v.length=8)(k w:Nat):(ou v k w).length=8:=by
 match v,h with
 |[a,b,c,d,e,f,g,h],_=>rfl
theorem xW{ws v:yL Nat}(h:v.length=8):∀i,(rs ws v i).length=8
 |0=>h
 |i+1=>ZQR (xW h i) _ _
noncomputable def tK(f:Nat->Nat->Nat->Nat->Nat->Nat->Nat->Nat->Nat)(v:yL Nat):Nat:=match v with
 |[a,b,c,d,e,f',g,h]=>f a b c d e f' g h
 |_=>0
theorem xX{F:Nat->Nat->Nat->Nat->Nat->Nat->Nat->Nat->Nat}{a b c d e f g h:Nat}:tK F [a,b,c,d,e,f,g,h]=F a b c d e f g h:=rfl
theorem ZOF(k:Nat)(l:yL Nat)(K:Nat->Nat->Nat->Nat->Nat->Nat->Nat->Nat->Nat):pT (k::l) K=xS k (pT l K):=rfl
theorem MX(a b c d e f g h k w:Nat):ou [a,b,c,d,e,f,g,h] k w=[lo (yr (yr (yr (yr (yr (yr h (S1 e)) (ch e f g)) k) w) (S0 a)) (mj a b c)),a,b,c,lo (yr d (yr (yr (yr (yr h (S1 e)) (ch e f g)) k) w)),e,f,g]:=rfl
theorem ZS8(k:Nat)(ih:Nat->Nat->Nat->Nat->Nat->Nat->Nat->Nat->Nat->Nat)(W a b c d e f g h:Nat):xS k ih W a b c d e f g h=
 ih (kn W) (lo (yr (yr (yr (yr (yr (yr h (S1 e)) (ch e f g)) k) (yah W 480)) (S0 a)) (mj a b c))) a b c (lo (yr d (yr (yr (yr (yr h (S1 e)) (ch e f g)) k) (yah W 480)))) e f g:=by
 unfold xS;rw[WI,WI,WI,WI]
theorem ZOG{ws v:yL Nat}{K:Nat->Nat->Nat->Nat->Nat->Nat->Nat->Nat->Nat}{k w:Nat}{l:yL Nat}(hv:v.length=8){W:Nat}(hW:yah W 480=w):tK (pT (k::l) K W) v=tK (pT l K (kn W)) (ou v k w):=by
 match v,hv with
 |[a,b,c,d,e,f,g,h],_=>
  rw[ZOF,xX,ZS8,hW,MX,xX]
theorem ZKy{ws v:yL Nat}{K:Nat->Nat->Nat->Nat->Nat->Nat->Nat->Nat->Nat}(hv:v.length=8):∀(m i:Nat),i+m=64->tK (pT (ks.drop i) K (pw 0 (win ws i))) (rs ws v i)=tK K (rs ws v 64)
 |0,i,h=>by
  have e:i=64:=by omega
  subst e;rw[show ks.drop 64=[] from rfl]
  generalize pw 0 (win ws 64)=W
  rfl
 |m+1,i,h=>by
  have hi:i < ks.length:=by show i < 64;omega
  rw[List.drop_eq_getElem_cons hi,ZOG (ws:=ws) (xW hv i) (ZKx ws i),ZS7];have:=ZKy (ws:=ws) (K:=K) hv m (i+1) (by omega);rw[show rs ws v (i+1)=ou (rs ws v i) (ks.getD i 0) (wd ws i) from rfl,show ks.getD i 0=ks[i] by rw[ycz,yac hi];rfl]at this
  exact this
def fI(v ws:yL Nat):yL Nat:=List.zipWith (λx y=>lo (x+y)) (rs ws v 64) v
theorem ov{v ws:yL Nat}(h:v.length=8):(fI v ws).length=8:=by
 rw[fI,List.length_zipWith,xW h,h];rfl
theorem ZKz{v ws:yL Nat}:∀x,x∈fI v ws->x < 4294967296:=by
 intro x hx;unfold fI at hx;rw[List.mem_iff_getElem]at hx;obtain⟨i,hi,rfl⟩:=hx;rw[List.getElem_zipWith];exact ZRL _
theorem ZQS{v ws:yL Nat}(hv:v.length=8)(hlt:∀x,x∈v->x < 4294967296)(hw:ws.length=16)(hwl:∀x,x∈ws->x < 4294967296):xU (pw 0 v) (pw 0 ws)=pw 0 (fI v ws):=by
 have e0:ws=win ws 0:=by
  match ws,hw with
  |[a0,a1,a2,a3,a4,a5,a6,a7,a8,a9,a10,a11,a12,a13,a14,a15],_=>
   simp only[ybo,ycm,or_false,forall_eq_or_imp,forall_eq]at hwl;obtain⟨h0,h1,h2,h3,h4,h5,h6,h7,h8,h9,h10,h11,h12,h13,h14,h15⟩:=hwl;have hs:∀n,n < 16->wd [a0,a1,a2,a3,a4,a5,a6,a7,a8,a9,a10,a11,a12,a13,a14,a15] n=lo ([a0,a1,a2,a3,a4,a5,a6,a7,a8,a9,a10,a11,a12,a13,a14,a15].getD n 0):=λn hn=>by rw[wd,dif_pos hn]
   unfold win;rw[hs 0 (by omega),hs (0+1) (by omega),hs (0+2) (by omega),hs (0+3) (by omega),hs (0+4) (by omega),hs (0+5) (by omega),hs (0+6) (by omega),hs (0+7) (by omega),hs (0+8) (by omega),hs (0+9) (by omega),hs (0+10) (by omega),hs (0+11) (by omega),hs (0+12) (by omega),hs (0+13) (by omega),hs (0+14) (by omega),hs (0+15) (by omega)];show _=[lo a0,lo a1,lo a2,lo a3,lo a4,lo a5,lo a6,lo a7,lo a8,lo a9,lo a10,lo a11,lo a12,lo a13,lo a14,lo a15];rw[fP h0,fP h1,fP h2,fP h3,fP h4,fP h5,fP h6,fP h7,fP h8,fP h9,fP h10,fP h11,fP h12,fP h13,fP h14,fP h15]
 match v,hv with
 |[a,b,c,d,e,f,g,h],hv=>
  have ea:w32 (pw 0 [a,b,c,d,e,f,g,h]) 224=a:=mK (l:=[]) (r:=[b,c,d,e,f,g,h]) rfl hlt rfl;have eb:w32 (pw 0 [a,b,c,d,e,f,g,h]) 192=b:=mK (l:=[a]) (r:=[c,d,e,f,g,h]) rfl hlt rfl;have ec:w32 (pw 0 [a,b,c,d,e,f,g,h]) 160=c:=mK (l:=[a,b]) (r:=[d,e,f,g,h]) rfl hlt rfl;have ed:w32 (pw 0 [a,b,c,d,e,f,g,h]) 128=d:=mK (l:=[a,b,c]) (r:=[e,f,g,h]) rfl hlt rfl;have ee:w32 (pw 0 [a,b,c,d,e,f,g,h]) 96=e:=mK (l:=[a,b,c,d]) (r:=[f,g,h]) rfl hlt rfl;have ef:w32 (pw 0 [a,b,c,d,e,f,g,h]) 64=f:=mK (l:=[a,b,c,d,e]) (r:=[g,h]) rfl hlt rfl;have eg:w32 (pw 0 [a,b,c,d,e,f,g,h]) 32=g:=mK (l:=[a,b,c,d,e,f]) (r:=[h]) rfl hlt rfl;have eh:w32 (pw 0 [a,b,c,d,e,f,g,h]) 0=h:=mK (l:=[a,b,c,d,e,f,g]) (r:=[]) rfl hlt rfl;unfold xU;rw[ea,eb,ec,ed,ee,ef,eg,eh,WI,WI,WI,WI,WI,WI,WI,WI];have hr:=ZKy (ws:=ws) (v:=[a,b,c,d,e,f,g,h]) (K:=λa' b' c' d' e' f' g' h'=>bA (bA (bA (bA (bA (bA (bA (bA 0 (yr a' a)) (yr b' b)) (yr c' c)) (yr d' d)) (yr e' e)) (yr f' f)) (yr g' g)) (yr h' h)) rfl 64 0 rfl;rw[<-e0,show ks.drop 0=ks from rfl,show rs ws [a,b,c,d,e,f,g,h] 0=[a,b,c,d,e,f,g,h] from rfl,xX]at hr
  rw[hr];unfold fI;generalize rs ws [a,b,c,d,e,f,g,h] 64=q,xW (ws:=ws) hv 64=hq
  match q,hq with
  |[a',b',c',d',e',f',g',h'],_=>
   rw[xX];simp only[List.zipWith_cons_cons,List.zipWith_nil_right,ZKw,bA];rfl
theorem xY(x:Nat)(l:yL Nat)(n:Nat):pk (x::l) n=pk l (n*256+x):=by
 show fq (yr (Nat.mul n 256) x) (pk l)=_;rw[WI];rfl
def Yk:yL Nat->yL Nat
 |a::b::c::d::r=>(((a*256+b)*256+c)*256+d)::Yk r
 |_=>[]
theorem ZGZ:∀(m:Nat)(l:yL Nat)(n:Nat),l.length=4*m->pk l n=pw n (Yk l)
 |0,[],n,_=>rfl
 |0,_::_,_,h=>by simp at h
 |m+1,[],_,h=>by simp at h
 |m+1,[_],_,h=>by simp at h;omega
 |m+1,[_,_],_,h=>by simp at h;omega
 |m+1,[_,_,_],_,h=>by simp at h;omega
 |m+1,a::b::c::d::r,n,h=>by
  rw[xY,xY,xY,xY,Yk];rw[ZGZ m r _ (by simp at h;omega),ZKw];have e:(((n*256+a)*256+b)*256+c)*256+d=n*4294967296+(((a*256+b)*256+c)*256+d):=by omega
  rw[e]
theorem Zxm:∀(m:Nat)(l:yL Nat),l.length=4*m->(Yk l).length=m
 |0,[],_=>rfl
 |0,_::_,h=>by simp at h
 |m+1,[],h=>by simp at h
 |m+1,[_],h=>by simp at h;omega
 |m+1,[_,_],h=>by simp at h;omega
 |m+1,[_,_,_],h=>by simp at h;omega
 |m+1,a::b::c::d::r,h=>by
  rw[Yk,yam,Zxm m r (by simp at h;omega)]
theorem ZAy:∀(m:Nat)(l:yL Nat),l.length=4*m->(∀x,x∈l->x < 256)->∀x,x∈Yk l->x < 4294967296
 |0,[],_,_,x,hx=>by simp[Yk]at hx
 |0,_::_,h,_,_,_=>by simp at h
 |m+1,[],h,_,_,_=>by simp at h
 |m+1,[_],h,_,_,_=>by simp at h;omega
 |m+1,[_,_],h,_,_,_=>by simp at h;omega
 |m+1,[_,_,_],h,_,_,_=>by simp at h;omega
 |m+1,a::b::c::d::r,h,hl,x,hx=>by
  rw[Yk]at hx;have h1:=hl a (by simp);have h2:=hl b (by simp);have h3:=hl c (by simp);have h4:=hl d (by simp);rcases ybo.1 hx with rfl|hx
  .omega
  .exact ZAy m r (by simp at h;omega) (λy hy=>hl y (by simp[hy])) x hx
theorem MY:∀(i:Nat)(l:yL Nat)(a b c d:Nat),l[4*i]? =ab a->l[4*i+1]? =ab b->l[4*i+2]? =ab c->l[4*i+3]? =ab d->(Yk l)[i]? =ab (((a*256+b)*256+c)*256+d)
 |0,[],_,_,_,_,h,_,_,_=>by simp at h
 |0,[_],_,_,_,_,_,h,_,_=>by simp at h
 |0,[_,_],_,_,_,_,_,_,h,_=>by simp at h
 |0,[_,_,_],_,_,_,_,_,_,_,h=>by simp at h
 |0,a::b::c::d::r,_,_,_,_,h1,h2,h3,h4=>by
  simp at h1 h2 h3 h4;subst h1 h2 h3 h4
  rfl
 |i+1,[],_,_,_,_,h,_,_,_=>by simp at h
 |i+1,[_],_,_,_,_,h,_,_,_=>by simp[show 4*(i+1)=4*i+3+1 by omega]at h
 |i+1,[_,_],_,_,_,_,h,_,_,_=>by simp[show 4*(i+1)=4*i+2+1+1 by omega]at h
 |i+1,[_,_,_],_,_,_,_,h,_,_,_=>by simp[show 4*(i+1)=4*i+1+1+1+1 by omega]at h
 |i+1,a::b::c::d::r,_,_,_,_,h1,h2,h3,h4=>by
  rw[Yk,yay]
  exact MY i r _ _ _ _ (by simpa[show 4*(i+1)=4*i+1+1+1+1 by omega] using h1) (by simpa[show 4*(i+1)+1=4*i+1+1+1+1+1 by omega] using h2)
   (by simpa[show 4*(i+1)+2=4*i+2+1+1+1+1 by omega] using h3) (by simpa[show 4*(i+1)+3=4*i+3+1+1+1+1 by omega] using h4)
def fb:Nat->yL Nat->yL Nat->yL Nat
 |0,_,v=>v
 |n+1,l,v=>fb n (l.drop 64) (fI v (Yk (l.take 64)))
theorem ZKA:∀(n:Nat)(l v:yL Nat),l.length=64*n->(∀x,x∈l->x < 256)->v.length=8->(∀x,x∈v->x < 4294967296)->MN n l (pw 0 v)=pw 0 (fb n l v)
 |0,l,v,_,_,_,_=>rfl
 |n+1,l,v,h1,h2,h3,h4=>by
  show fq (xU (pw 0 v) (pk (l.take 64) 0)) (MN n (l.drop 64))=_;have hl:(l.take 64).length=4*16:=by rw[List.length_take];omega
  rw[WI,ZGZ 16 _ 0 hl,ZQS h3 h4 (Zxm 16 _ hl) (ZAy 16 _ hl λx hx=>h2 x (List.mem_of_mem_take hx))];exact ZKA n (l.drop 64) _ (by rw[List.length_drop];omega) (λx hx=>h2 x (List.mem_of_mem_drop hx)) (ov h3) ZKz
theorem ZG0:∀(n:Nat)(l v:yL Nat),v.length=8->(fb n l v).length=8
 |0,_,_,h=>h
 |n+1,l,v,h=>ZG0 n _ _ (ov h)
theorem ZKB:∀(n:Nat)(l v:yL Nat),(∀x,x∈v->x < 4294967296)->∀x,x∈fb n l v->x < 4294967296
 |0,_,_,h=>h
 |n+1,l,v,h=>ZKB n _ _ ZKz
theorem MZ:∀(n m:Nat)(l r v:yL Nat),l.length=64*n->fb (n+m) (l++r) v=fb m r (fb n l v)
 |0,m,l,r,v,h=>by
  have:l=[]:=List.length_eq_zero_iff.1 (by omega);subst this;rw[yat]
  rfl
 |n+1,m,l,r,v,h=>by
  rw[show n+1+m=(n+m)+1 by omega,fb,List.drop_append_of_le_length (by omega),List.take_append_of_le_length (by omega),MZ n m _ r _ (by rw[List.length_drop];omega)];rfl
theorem xZ:∀(c:Nat)(l v:yL Nat),fb (c+1) l v=fI (fb c l v) (Yk ((l.drop (64*c)).take 64))
 |0,l,v=>by rw[Nat.mul_zero,List.drop_zero];rfl
 |c+1,l,v=>by
  rw[show fb (c+1+1) l v=fb (c+1) (l.drop 64) (fI v (Yk (l.take 64))) from rfl,xZ c,List.drop_drop,show 64+64*c=64*(c+1) by omega]
  rfl
theorem ZG1(ws:yL Nat){n x:Nat}(hn:n < 16)(h:ws[n]? =ab x)(hx:x < 4294967296):wd ws n=x:=by
 rw[wd,dif_pos hn,ycz,h];exact fP hx
def mL(v:yL Nat)(k:Nat):yB:=yav (v.getD (k / 4) 0 / 2 ^ (24 - 8*(k % 4)))
theorem ZQT{v:yL Nat}(hv:v.length=8)(hlt:∀x,x∈v->x < 4294967296):outs (pw 0 v) MO=(yu 32).map (mL v):=by
 have hgo:∀(H:Nat)(l:yL Nat),outs H l=l.map λs=>yav (H / 2 ^ s % 256):=by
  intro H l
  induction l with
  |nil=>rfl
  |cons s r ih=>
   show fq (Nat.mod (yah H s) 256) (λx=>yav x::outs H r)=_;rw[WI,ih,yag,show yah H s=H >>> s from rfl,yda]
   rfl
 have hb:∀(l r:yL Nat)(x j s:Nat),v=l++x::r->j<=24->s=32*r.length+j->yav (pw 0 v / 2 ^ s % 256)=yav (x / 2 ^ j):=by
  intro l r x j s e hj hs;have zO:=hlt;rw[e]at zO
  have h1:pw 0 v / 2 ^ (32*r.length)=pw 0 l*4294967296+x:=by
   rw[e,MU];exact MT r _ (λy hy=>zO y (by simp[hy]))
  rw[hs,Nat.pow_add, <-Nat.div_div_eq_div_mul,h1]
  have h2:pw 0 l*4294967296+x=2 ^ j*(pw 0 l*2 ^ (24 - j)*256)+x:=by
   rw[show(4294967296:Nat)=2 ^ j*2 ^ (24 - j)*256 by rw[<-Nat.pow_add,show j+(24 - j)=24 by omega]];congr 1;ac_rfl
  rw[h2,Nat.mul_add_div (Nat.two_pow_pos j),ybi (pw 0 l*2 ^ (24 - j)) 256,Nat.mul_add_mod];exact UInt8.toNat_inj.1 (by simp)
 match v,hv with
 |[a,b,c,d,e,f,g,h],_=>
  rw[hgo];simp only[MO,yag,List.map_nil]
  rw[hb [] [b,c,d,e,f,g,h] a 24 248 rfl (by omega) rfl,hb [] [b,c,d,e,f,g,h] a 16 240 rfl (by omega) rfl,hb [] [b,c,d,e,f,g,h] a 8 232 rfl (by omega) rfl,hb [] [b,c,d,e,f,g,h] a 0 224 rfl (by omega) rfl,
   hb [a] [c,d,e,f,g,h] b 24 216 rfl (by omega) rfl,hb [a] [c,d,e,f,g,h] b 16 208 rfl (by omega) rfl,hb [a] [c,d,e,f,g,h] b 8 200 rfl (by omega) rfl,hb [a] [c,d,e,f,g,h] b 0 192 rfl (by omega) rfl,
   hb [a,b] [d,e,f,g,h] c 24 184 rfl (by omega) rfl,hb [a,b] [d,e,f,g,h] c 16 176 rfl (by omega) rfl,hb [a,b] [d,e,f,g,h] c 8 168 rfl (by omega) rfl,hb [a,b] [d,e,f,g,h] c 0 160 rfl (by omega) rfl,
   hb [a,b,c] [e,f,g,h] d 24 152 rfl (by omega) rfl,hb [a,b,c] [e,f,g,h] d 16 144 rfl (by omega) rfl,hb [a,b,c] [e,f,g,h] d 8 136 rfl (by omega) rfl,hb [a,b,c] [e,f,g,h] d 0 128 rfl (by omega) rfl,
   hb [a,b,c,d] [f,g,h] e 24 120 rfl (by omega) rfl,hb [a,b,c,d] [f,g,h] e 16 112 rfl (by omega) rfl,hb [a,b,c,d] [f,g,h] e 8 104 rfl (by omega) rfl,hb [a,b,c,d] [f,g,h] e 0 96 rfl (by omega) rfl,
   hb [a,b,c,d,e] [g,h] f 24 88 rfl (by omega) rfl,hb [a,b,c,d,e] [g,h] f 16 80 rfl (by omega) rfl,hb [a,b,c,d,e] [g,h] f 8 72 rfl (by omega) rfl,hb [a,b,c,d,e] [g,h] f 0 64 rfl (by omega) rfl,
   hb [a,b,c,d,e,f] [h] g 24 56 rfl (by omega) rfl,hb [a,b,c,d,e,f] [h] g 16 48 rfl (by omega) rfl,hb [a,b,c,d,e,f] [h] g 8 40 rfl (by omega) rfl,hb [a,b,c,d,e,f] [h] g 0 32 rfl (by omega) rfl,
   hb [a,b,c,d,e,f,g] [] h 24 24 rfl (by omega) rfl,hb [a,b,c,d,e,f,g] [] h 16 16 rfl (by omega) rfl,hb [a,b,c,d,e,f,g] [] h 8 8 rfl (by omega) rfl,hb [a,b,c,d,e,f,g] [] h 0 0 rfl (by omega) rfl]
  rfl
def jL(l:yL yB):yL Nat:=l.map yaj++(128::(yw (zs l.length) 0++ic (8*l.length)))
def iB:yL Nat:=[1779033703,3144134277,1013904242,2773480762,1359893119,2600822924,528734635,1541459225]
theorem ZAA(l:yL yB):(jL l).length=64*((l.length+72) / 64):=by
 unfold jL;simp only[yl,yab,yam,ycs,ic,List.length_nil,zs];omega
theorem ZLX(l:yL yB):∀x,x∈jL l->x < 256:=by
 intro x hx;unfold jL at hx;simp only[List.mem_append,List.mem_map,ybo,List.mem_replicate,ic,ycm,or_false]at hx;rcases hx with⟨y,_,rfl⟩|rfl|⟨_,rfl⟩|h
 .exact y.toNat_lt
 .omega
 .omega
 .rcases h with h|h|h|h|h|h|h|h <;> rw[h] <;> exact ybb _ (by omega)
theorem NA(l:yL yB):fO l=(yu 32).map (mL (fb ((l.length+72) / 64) (jL l) iB)):=by
 unfold fO
 rw[WI,WI,show H0=pw 0 iB from rfl,show l.map yaj++(128::(yw (zs l.length) 0++ic (8*l.length)))=jL l from rfl,
  show Nat.div (yr l.length 72) 64=(l.length+72) / 64 from rfl]
 have hf:∀x,x∈iB->x < 4294967296:=by decide
 rw[ZKA _ _ _ (ZAA l) (ZLX l) rfl hf];exact ZQT (ZG0 _ _ _ rfl) (ZKB _ _ _ hf)
theorem iV(l:yL yB):(fO l).length=32:=by rw[NA];simp
end Go.Sha
end
