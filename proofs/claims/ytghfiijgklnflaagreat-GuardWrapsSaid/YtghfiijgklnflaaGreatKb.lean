/- Parts of the proof, in one file. -/
import Derived.Test.YtghfiijgklnflaaGreatKa
open Option renaming some → ab, none → ad
open Bool renaming true → ae, false → af
open Decidable renaming decide → ag
open Array renaming length_toList → ybh, getElem?_toList → ybr, toArray_toList → yca, getElem?_eq_some_iff → ycr, toList_map → ycx
open Bool renaming and_eq_true → yi
open Go renaming TypeId → yb, Program → yg, Value → yh, Operand → yo, FuncId → yr, World → yad
open List renaming length_append → yn, getElem?_eq_some_iff → yp, length_map → yx, length_take → yy, append_assoc → yac, getElem?_eq_getElem → yae, map_cons → yaf, getElem?_map → yah, getElem?_append_left → yaj, length_cons → yam, getElem?_append_right → yan, mem_singleton → yav, length_set → yax, mem_cons_self → yay, mem_cons_of_mem → yba, map_map → ybc, getElem?_cons_succ → ybe, length_drop → ybf, ext_getElem? → ybg, mem_map → ybj, take_append_drop → ybk, map_set → ybl, getElem?_set → ybm, eq_nil_of_length_eq_zero → ybo, mem_of_getElem? → ybq, take_of_length_le → ybs, getElem?_cons_zero → ybt, mem_cons → ybz, mem_of_mem_take → ycc, length_nil → yce, length → ycf, getElem?_take → ycg, getElem_of_mem → ycn, mem_map_of_mem → ycv, mem_of_mem_drop → yde
open Nat renaming le_refl → ym, zero_add → yau, add_mul → ybd, min_eq_left → ybi, add_zero → ycl, eq_of_beq_eq_true → ydb
open Option renaming map_eq_some_iff → yq, map_some → yz
open Option.some renaming injEq → yj, inj → ybp
open Prod.mk renaming injEq → yl
set_option linter.unusedVariables false
set_option linter.unusedSimpArgs false
section
namespace Go.Ev
section
variable{P:yg}{o:Oper}{a:Act}{J:Sg}{ts:yL Dv}{hs hs':yL aj}{C:yL Prop}{d:Dv}
theorem kZ{s:Nat}{v:yh}(h:yH J (.p (.sl (ab af) s [])) v):v=.slice ad 0 0:=by
 obtain⟨_,A,c,rfl,_,_,e,f,_⟩:=Wy h;have:A=ad:=by simpa using e af rfl
 subst this;rw[f rfl];rfl
theorem Yi{x y:yo}{t u:yb}{c:Call}(ho:o.op=.call c)(hc:c.callee=.builtin .append)(f:c.args.toList=[x,y])(e:c.argTypes.toList=[t,u]){v:yh}{w':yad}
 (h:(Builtin.append_ #[t,u] o.type #[a.eval x,a.eval y]).run P J.w=.ok v w'):(execOp a.eval o).run P J.w=.ok (.value v) w':=by
 have g:c.args= #[x,y]:=by rw[<-yca (xs:=c.args),f]
 have j:c.argTypes= #[t,u]:=by rw[<-yca (xs:=c.argTypes),e]
 simp[execOp,ho,resolve,hc,g,j,invoke,builtin,h]
theorem mz{x:yo}{t:yb}{c:Call}(ho:o.op=.call c)(hc:c.callee=.builtin .len)(f:c.args.toList=[x])(e:c.argTypes.toList=[t]){v:yh}
 (h:(Builtin.len_ #[t] o.type #[a.eval x]).run P J.w=.ok v J.w):(execOp a.eval o).run P J.w=.ok (.value v) J.w:=by
 have g:c.args= #[x]:=by rw[<-yca (xs:=c.args),f]
 have j:c.argTypes= #[t]:=by rw[<-yca (xs:=c.argTypes),e]
 simp[execOp,ho,resolve,hc,g,j,invoke,builtin,h]
theorem ZGz{x y:yo}{t u:yb}{c:Call}(ho:o.op=.call c)(hc:c.callee=.builtin .max)(f:c.args.toList=[x,y])(e:c.argTypes.toList=[t,u]){v:yh}
 (h:(Builtin.max_ #[t,u] o.type #[a.eval x,a.eval y]).run P J.w=.ok v J.w):(execOp a.eval o).run P J.w=.ok (.value v) J.w:=by
 have g:c.args= #[x,y]:=by rw[<-yca (xs:=c.args),f]
 have j:c.argTypes= #[t,u]:=by rw[<-yca (xs:=c.argTypes),e]
 simp[execOp,ho,resolve,hc,g,j,invoke,builtin,h]
theorem ZGA{x y:yo}{t u:yb}{c:Call}(ho:o.op=.call c)(hc:c.callee=.builtin .min)(f:c.args.toList=[x,y])(e:c.argTypes.toList=[t,u]){v:yh}
 (h:(Builtin.min_ #[t,u] o.type #[a.eval x,a.eval y]).run P J.w=.ok v J.w):(execOp a.eval o).run P J.w=.ok (.value v) J.w:=by
 have g:c.args= #[x,y]:=by rw[<-yca (xs:=c.args),f]
 have j:c.argTypes= #[t,u]:=by rw[<-yca (xs:=c.argTypes),e]
 simp[execOp,ho,resolve,hc,g,j,invoke,builtin,h]
theorem tw(ok:Ok J)(id:Nat):J.m[id]? ≠ab (ab J.w.heap.size):=λh=>by
 have:=ok.lt id _ h;omega
theorem Zux(ok:Ok J)(A:ay J ts a){c:Call}{x y:yo}{t u e:yb}{i:TypeInfo}{ys:yL Pl}(ho:o.op=.call c)(Q:c.callee=.builtin .append)(S:c.args.toList=[x,y])
 (f:c.argTypes.toList=[t,u]) (ht:P.underlying t=ab (.slice e)) {s:Nat} (hx:Zo P ts t x=.p (.sl (ab af) s [])) (hi:P.info? e=ab i) (hz:bP i=ae) (E:i.size≠0)
 (g:gG P (P.cellsOf e) u (Zo P ts u y)=ab ys) (hb:ys.length*i.bytes<=Zn) (hm:ys.length<=maxLen):YH P o a J (.p (.sl ad (P.cellsOf e) ys)) J.H:=by
 have j:=Zh (P:=P) A t x;rw[hx]at j;have l:=kZ j;have F:P.cellsOf e=i.size:=by simp[Program.cellsOf,hi]
 rcases Qt (P:=P) (ty:=o.type) ok A ht hi hz E (nW (P:=P) A g) hb hm with⟨rfl,G⟩|⟨z,T,X,U,W,I,M,Y,G⟩
 .refine Zi ok (Yi ho Q S f (by rw[l];exact G)) ?_;exact Yp (λ_ hx=>by cases hx) (ym _) (by simp[maxLen]) (Yd _) (λ_=>rfl) (λh=>absurd rfl h)
 .obtain⟨to,m⟩:=pK ok (Xs J.w (.cells (z.toArray++T) e) ad);refine ZH (J':={ J with w:=J.w.drew.alloc (.cells (z.toArray++T) e)}) (Yi ho Q S f (by rw[l];exact G)) to m ?_;rw[F];have Z:z.length=ys.length*i.size:=by rw[aG _ _ W,aI U]
  refine xQ (Yd _) m U (ax to.leaf.cells _ _ W) (b:=J.w.heap.size) (cells:=z) (heap_alloc_new J.w.drew _) (ok.new _ (ym _)) (tw ok) (by simp) I M
theorem ZwV(ok:Ok J)(Q:ay J ts a){c:Call}{x y:yo}{t u e:yb}{i:TypeInfo}{ys:yL Pl}(ho:o.op=.call c)(yS:c.callee=.builtin .append)(yQ:c.args.toList=[x,y])
 (j:c.argTypes.toList=[t,u]) (ht:P.underlying t=ab (.slice e)) {s:Nat} (hx:Zo P ts t x=.p (.sl (ab af) s [])) (hi:P.info? e=ab i) (hz:bP i=ae) (S:i.size≠0)
 (l:gG P (P.cellsOf e) u (Zo P ts u y)=ab ys) (hb:ys.length*i.bytes<=Zn) (hm:ys.length<=maxLen):YH P o a J (.own J.H.length ad i.size ys) (J.H++[.log i.size e ys]):=by
 have z:=Zh (P:=P) Q t x;rw[hx]at z;have A:=kZ z;rcases Qt (P:=P) (ty:=o.type) ok Q ht hi hz S (nW (P:=P) Q l) hb hm with⟨rfl,T⟩|⟨E,U,W,X,Y,F,G,I,T⟩
 .obtain⟨to,g⟩:=WE (J':={ J with m:=J.m++[ad],H:=J.H++[.log i.size e []]}) ok rfl rfl rfl rfl (World.grownBy.refl J.w ad) (.inl rfl) (λ_=>.inl ⟨rfl,rfl⟩);refine ZH (J':={ J with m:=J.m++[ad],H:=J.H++[.log i.size e []]}) (Yi ho yS yQ j (by rw[A];exact T)) to g ?_;rw[Zg rfl];simp only[yG];refine⟨λ_ hx=>(by cases hx),ad,0,rfl,ym _,by simp[maxLen],Yd _,λ_=>rfl,λh=>absurd rfl h,e,[],by simp,ym _,λ_=>.inl ⟨?_,rfl,rfl⟩⟩;rw[yan (by rw[ok.len];exact ym _),ok.len];simp
 .let J':Sg:={ J with m:=J.m++[ab J.w.heap.size],H:=J.H++[.log i.size e ys],w:=J.w.drew.alloc (.cells (E.toArray++U) e)};have zV:E.length=ys.length*i.size:=by rw[aG _ _ Y,aI X]
  have Z:J'.w.heap[J.w.heap.size]? =ab (.cells (E.toArray++U) e (0,0)):=heap_alloc_new J.w.drew _
  have f:J'.m[J.H.length]? =ab (ab J.w.heap.size):=by
   show(J.m++[ab J.w.heap.size])[J.H.length]? =_;rw[yan (by rw[ok.len];exact ym _),ok.len];simp
  obtain⟨to,g⟩:=WE (J':=J') ok rfl rfl rfl rfl (Xs J.w (.cells (E.toArray++U) e) ad) (.inr ⟨_,rfl,ym _,by simp[J']⟩)
   (λM=>.inr ⟨J.w.heap.size,_,grownCap J.w ys.length 0 e,rfl,Z,I,F,G,X,by
     rw[<-zV];simpa using ax M.cells _ _ Y⟩)
  refine ZH (J':=J') (Yi ho yS yQ j (by rw[A];exact T)) to g ?_;have hemp:(!ys.isEmpty)=ae:=by cases ys <;> first|exact absurd rfl W|rfl
  rw[Zg rfl];simp only[yG]
  refine⟨X,_,_,rfl,F,G,Yd _,λh=>(by cases h),λ_=>⟨J.w.heap.size,0,E,rfl,ax to.leaf.cells _ _ Y,nX Z (λo ho=>⟨.inr (ok.new _ (ym _)),λid e' h1 h2=> ?_⟩) (by simp)⟩,
   e,ys,by simp[J'],ym _,λ_=>.inr ⟨_,_,f,rfl,Z,I⟩⟩
  have:id=J.H.length:=g.inj id J.H.length _ h1 f;subst this;have h3:J'.H[J.H.length]? =ab (.log i.size e ys):=by simp[J']
  rw[h3]at h2;cases h2;show o < ys.length*i.size;omega
theorem ZwW(ok:Ok J)(yK:ay J ts a){c:Call}{x y:yo}{t u e:yb}{i:TypeInfo}{xs ys:yL Pl}{id s:Nat}{nn:yO Bool}(ho:o.op=.call c)(yS:c.callee=.builtin .append)
 (yQ:c.args.toList=[x,y]) (htys:c.argTypes.toList=[t,u]) (ht:P.underlying t=ab (.slice e)) (hx:Zo P ts t x=.own id nn s xs) (hi:P.info? e=ab i) (hz:bP i=ae) (hs:i.size=s) (hne:s≠0)
 (hsrc:my P J s u (a.eval y) ys) (hH:J.H[id]? =ab (.log s e xs)) (hb:(xs.length+ys.length)*i.bytes<=Zn) (hm:xs.length+ys.length<=maxLen):
 YH P o a J (.own id ad s (xs++ys)) (J.H.set id (.log s e (xs++ys))):=by
 subst hs;have hxv:=Zh (P:=P) yK t x;rw[hx]at hxv;obtain⟨h1,A,cp,hv,h2,h3,h4,h5,h6,e0,ys0,h7,h8,h9⟩:=kW hxv;rw[hH]at h7;cases h7;have hsrc2:=hsrc;obtain⟨zW,hS,hr,zO⟩:=hsrc2;obtain⟨z,hzz,hzs⟩:=ju hz;have hH':=hH;have hidlt:id < J.m.length:=by rw[ok.len];exact(yp.1 hH).1
 have F:J.m[id]? =ab J.m[id]:=yae hidlt;have hent:=ok.cA id _ _ hH F
 have S:aT i.size (xs++ys):=by
  by_cases hy:ys=[]
  .subst hy;simpa using h1
  .exact Vh h1 (zO hy)
 have hnl:zW.length=ys.length*i.size:=hS.cells;have hone:∀v,v∈zW->v.oneCell'=ae:=cj _ _ hr;have zV:(xs++ys).length=xs.length+ys.length:=yn;rcases h9 rfl with⟨k1,rfl,rfl⟩|⟨b,g,k1,rfl,k3,k4⟩
 . 
  have hxs:xs=[]:=by
   rw[F]at k1;rcases hent with⟨_,h⟩|⟨b,g,cap,h,_⟩
   .exact h
   .rw[h]at k1;cases k1
  subst hxs;have hmn:J.m[id]=ad:=by rw[F]at k1;exact ybp k1
  skip
  skip
  rcases Qt (P:=P) (ty:=o.type) (u:=u) (y:=y) (ys:=ys) ok yK ht hi hz hne (by simpa[Program.cellsOf,hi] using hsrc) (by simpa using hb) (by simpa using hm) with⟨rfl,zU⟩|⟨G,yJ,hys,X,hr2,hge,hcm,hcs,zU⟩
  .obtain⟨to,Q⟩:=XE (J':={ J with m:=J.m.set id ad,H:=J.H.set id (.log i.size e ([]++[]))}) (mi:=ad) (mi':=ad) ok hH (by rw[F,hmn]) rfl rfl rfl rfl rfl rfl rfl (ym _)
    (λ_ _ _=>rfl) (λb o v h=>by cases h) (λo _ h=>h) (.inl rfl) (λ⟨d,st,h⟩=>by cases h) (λ⟨d,st,h⟩=>by cases h) (λs e' xs h=>⟨[],by cases h;rfl,by cases h;exact ym _,λ_=>⟨rfl,λ_ _=>rfl⟩⟩) (λ_=>.inl ⟨rfl,rfl⟩)
   refine ZH (J':={ J with m:=J.m.set id ad,H:=J.H.set id (.log i.size e ([]++[]))}) (Yi ho yS yQ htys (by rw[hv];exact zU)) to Q ?_;rw[Zg rfl];simp only[yG];exact⟨λ_ hx=>(by cases hx),ad,0,rfl,ym _,by simp[maxLen],Yd _,λ_=>rfl,λh=>absurd rfl h,e,[],ai hH,ym _,λ_=>.inl ⟨ai F,rfl,rfl⟩⟩
  .let J':Sg:={ J with m:=J.m.set id (ab J.w.heap.size),H:=J.H.set id (.log i.size e ([]++ys)),w:=J.w.drew.alloc (.cells (G.toArray++yJ) e)};have hl2:G.length=ys.length*i.size:=by rw[aG _ _ hr2,aI X]
   have zB:J'.w.heap[J.w.heap.size]? =ab (.cells (G.toArray++yJ) e (0,0)):=heap_alloc_new J.w.drew _;have hg:=Xs J.w (.cells (G.toArray++yJ) e) ad;have T:∀b,b < J.w.heap.size->J'.w.heap[b]? =J.w.heap[b]? :=λb hb=>hg.block b hb (by simp);have l:J'.m[id]? =ab (ab J.w.heap.size):=ai F;have E:J'.H[id]? =ab (.log i.size e ([]++ys)):=ai hH
   obtain⟨to,Q⟩:=XE (J':=J') (mi:=ad) (mi':=ab J.w.heap.size) ok hH (by rw[F,hmn]) rfl rfl rfl rfl rfl rfl rfl hg.size
    (λb hb _=>T b hb) (λb o v h=>by cases h) (λo h _=>by cases h) (.inr ⟨_,rfl,ym _,by simp[J']⟩) (λ⟨d,st,h⟩=>by cases h) (λ⟨d,st,h⟩=>by cases h)
    (λs' e' xs' h=>⟨ys,by cases h;rfl,by cases h;exact Nat.zero_le _,λhh=>by
      cases h;exact absurd (ybo (by simpa using hh)) hys⟩)
    (λI=>.inr ⟨J.w.heap.size,_,grownCap J.w ys.length 0 e,rfl,zB,hcs,hge,hcm,X,by
      show ak J'.w J'.aV ([]++ys) _;rw[List.nil_append, <-hl2];simpa using ax I.cells _ _ hr2⟩)
   refine ZH (J':=J') (Yi ho yS yQ htys (by rw[hv];exact zU)) to Q ?_;have hemp:(!ys.isEmpty)=ae:=by cases ys <;> first|exact absurd rfl hys|rfl
   rw[Zg rfl];simp only[yG]
   refine⟨X,_,_,rfl,hge,hcm,Yd _,λh=>(by cases h),λ_=>⟨J.w.heap.size,0,G,rfl,ax to.leaf.cells _ _ hr2,nX zB (λo ho=>⟨.inr (ok.new _ (ym _)),λj e' g1 g2=> ?_⟩) (by simp)⟩,
    e,_,E,ym _,λ_=>.inr ⟨_,_,l,rfl,zB,hcs⟩⟩
   have:j=id:=Q.inj j id _ g1 l;subst this;rw[E]at g2;cases g2;show o < ([]++ys).length*i.size;rw[List.nil_append];omega
 .have hmb:J.m[id]=ab b:=by rw[F]at k1;exact ybp k1
  rcases hent with⟨h,_⟩|⟨b',cur',cap,h,g3,g4,g5,g6,g7,g8⟩
  .rw[h]at hmb;cases hmb
  .rw[hmb]at h;cases h;rw[k3]at g3;cases g3
   have hcap:cp=cap:=by
    have:cp*i.size=cap*i.size:=by rw[<-k4, <-g4]
    exact Nat.eq_of_mul_eq_mul_right (Nat.pos_of_ne_zero hne) this
   subst hcap;have Y:(g.toList.take (xs.length*i.size)).length=xs.length*i.size:=by rw[aG _ _ g8,aI h1]
   skip
   skip
   by_cases U:xs.length+ys.length<=cp
   . 
    have zU:=xO (P:=P) (ty:=o.type) ht hi hS hone k3 U g4;let f:Array yh:=(g.toList.take (xs.length*i.size)++zW++g.toList.drop (xs.length*i.size+zW.length)).toArray;let J':Sg:={ J with m:=J.m.set id (ab b),H:=J.H.set id (.log i.size e (xs++ys)),w:=J.w.setRow b f};have hfit:xs.length*i.size+zW.length<=g.size:=by rw[hnl,g4, <-ybd];exact Nat.mul_le_mul_right _ U
    have W:f.size=cp*i.size:=by
     simp only[f,List.size_toArray,yn,ybf,ybh,Y];omega
    have zB:J'.w.heap[b]? =ab (.cells f e (0,0)):=setRow_heap J.w b g _ e _ k3;have hoth:∀j,b≠j->J'.w.heap[j]? =J.w.heap[j]? :=λj hj=>setRow_other J.w b j _ (Ne.symm hj);have l:J'.m[id]? =ab (ab b):=ai F;have E:J'.H[id]? =ab (.log i.size e (xs++ys)):=ai hH
    have hpre:∀o,o < xs.length*i.size->f[o]? =g[o]? :=by
     intro o ho;simp only[f,List.getElem?_toArray,yac];rw[yaj (by rw[Y];exact ho),ycg,yW ho];simp
    have Z:(g.toList.take (xs.length*i.size)++zW).length=(xs++ys).length*i.size:=by
     rw[zV,yn,Y,hnl,ybd]
    have htk:f.toList.take ((xs++ys).length*i.size)=g.toList.take (xs.length*i.size)++zW:=by
     rw[<-Z];exact List.take_left
    have hbl:ys.length=0->f=g:=by
     intro h0;have:zW=[]:=ybo (by rw[hnl,h0];simp);apply Array.ext';simp[f,this]
    obtain⟨to,Q⟩:=XE (J':=J') (mi:=ab b) (mi':=ab b) ok hH (by rw[F,hmb]) rfl rfl rfl rfl rfl rfl rfl (by simp[J'])
     (λj hj hne=>hoth j (λhh=>hne (by rw[hh]))) (λb' o v hb' hu M=>by
       cases hb';rw[cell_of_row J.w b o g e (0,0) k3]at M;show(J.w.setRow b f).cell? ⟨b,o,ad⟩=ab v;rw[cell_of_row _ b o f e (0,0) zB,hpre o hu];exact M)
     (λo _ hu=>by
       have hu':o < xs.length*i.size:=hu;show o < (xs++ys).length*i.size;rw[zV,ybd];omega) (.inl rfl) (λ⟨d,st,h⟩=>by cases h) (λ⟨d,st,h⟩=>by cases h)
     (λs' e' xs' h=>⟨xs++ys,by cases h;rfl,by cases h;simp,λhh=>by
       cases h;refine⟨rfl,λj _=> ?_⟩;have h0:ys.length=0:=by rw[zV]at hh;omega
       by_cases hj:b=j
       .subst hj;rw[zB,k3,hbl h0]
       .exact hoth j hj⟩)
     (λI=>.inr ⟨b,f,cp,rfl,zB,W,by rw[zV];exact U,h3,S,by
       rw[htk];exact Ys (ax I.cells _ _ g8) (ax I.cells _ _ hr)⟩)
    refine ZH (J':=J') (Yi ho yS yQ htys (by rw[hv];exact zU)) to Q ?_;rw[Zg rfl];simp only[yG,Bool.true_or]
    refine⟨S,ab ⟨b,0,ad⟩,cp,by rw[zV],by rw[zV];exact U,h3,Yd _,λh=>(by cases h),λ_=>⟨b,0,g.toList.take (xs.length*i.size)++zW,rfl,
     Ys (ax to.leaf.cells _ _ g8) (ax to.leaf.cells _ _ hr),nX zB (λo ho=> ?_) ?_⟩,e,_,E,ym _,λ_=>.inr ⟨b,f,l,rfl,zB,W⟩⟩
    .refine⟨.inr (ok.own id b k1),λj e' g1 g2=> ?_⟩;have:j=id:=Q.inj j id _ g1 l;subst this;rw[E]at g2;cases g2;show o < (xs++ys).length*i.size;rw[Z]at ho;exact ho
    .rw[Z];exact htk
   . 
    have hgr:cp < xs.length+ys.length:=by omega
    have hold:(Builtin.firstCells i.size xs.length (.slice (ab ⟨b,0,ad⟩) xs.length cp)).run P J.w.drew=.ok (g.toList.take (xs.length*i.size)).toArray J.w.drew:=
     run_firstCells_some J.w.drew i.size _ ⟨b,0,ad⟩ _ cp _ Y (λj v hj=>by
      rw[Addr.bB,yau];show J.w.cell? ⟨b,j,ad⟩=ab v
      have hj2:j < xs.length*i.size:=by
       have:=(yp.1 hj).1;rw[Y]at this;exact this
      rw[cell_of_row J.w b j g e (0,0) k3];rw[ycg,yW hj2]at hj;simpa using hj)
    have zU:=xP (P:=P) (ty:=o.type) ht hi hzz hS hold hgr hm hb;have hge:=grownCap_ge J.w (xs.length+ys.length) cp e;have hcm:=grownCap_le_maxLen J.w (xs.length+ys.length) cp e hm;let q:Nat:=grownCap J.w (xs.length+ys.length) cp e;let yJ:Array yh:=Builtin.zeroCells z.cells (q - (xs.length+ys.length));let f:Array yh:=(g.toList.take (xs.length*i.size)).toArray++zW.toArray++yJ;let J':Sg:={ J with m:=J.m.set id (ab J.w.heap.size),H:=J.H.set id (.log i.size e (xs++ys)),w:=J.w.drew.alloc (.cells f e)}
    have Z:(g.toList.take (xs.length*i.size)++zW).length=(xs++ys).length*i.size:=by
     rw[zV,yn,Y,hnl,ybd]
    have W:f.size=q*i.size:=by
     simp only[f,yJ,Array.size_append,List.size_toArray,size_zeroCells,hzs,Y,hnl, <-ybd];congr 1;omega
    have htk:f.toList.take ((xs++ys).length*i.size)=g.toList.take (xs.length*i.size)++zW:=by
     rw[<-Z];have:f.toList=(g.toList.take (xs.length*i.size)++zW)++yJ.toList:=by simp[f]
     rw[this];exact List.take_left
    have zB:J'.w.heap[J.w.heap.size]? =ab (.cells f e (0,0)):=heap_alloc_new J.w.drew _;have hg:=Xs J.w (.cells f e) ad;have T:∀b,b < J.w.heap.size->J'.w.heap[b]? =J.w.heap[b]? :=λb hb=>hg.block b hb (by simp);have l:J'.m[id]? =ab (ab J.w.heap.size):=ai F;have E:J'.H[id]? =ab (.log i.size e (xs++ys)):=ai hH
    obtain⟨to,Q⟩:=XE (J':=J') (mi:=ab b) (mi':=ab J.w.heap.size) ok hH (by rw[F,hmb]) rfl rfl rfl rfl rfl rfl rfl hg.size
     (λb hb _=>T b hb) (λb' o v hb' _ M=>by
       rw[World.cell?_of_block (w:=J.w) (T b' (WP M))];exact M)
     (λo h _=>by
       have:=ok.lt id b k1;cases h;omega) (.inr ⟨_,rfl,ym _,by simp[J']⟩) (λ⟨d,st,h⟩=>by cases h) (λ⟨d,st,h⟩=>by cases h)
     (λs' e' xs' h=>⟨xs++ys,by cases h;rfl,by cases h;simp,λhh=>by
       cases h;rw[zV]at hh;omega⟩)
     (λI=>.inr ⟨J.w.heap.size,f,q,rfl,zB,W,by rw[zV];exact hge,hcm,S,by
       rw[htk];exact Ys (ax I.cells _ _ g8) (ax I.cells _ _ hr)⟩)
    refine ZH (J':=J') (Yi ho yS yQ htys (by rw[hv];exact zU)) to Q ?_;rw[Zg rfl];simp only[yG,Bool.true_or]
    refine⟨S,ab ⟨J.w.heap.size,0,ad⟩,q,by rw[zV],by rw[zV];exact hge,hcm,Yd _,λh=>(by cases h),λ_=>⟨J.w.heap.size,0,g.toList.take (xs.length*i.size)++zW,rfl,
     Ys (ax to.leaf.cells _ _ g8) (ax to.leaf.cells _ _ hr),nX zB (λo ho=> ?_) ?_⟩,e,_,E,ym _,λ_=>.inr ⟨_,f,l,rfl,zB,W⟩⟩
    .refine⟨.inr (ok.new _ (ym _)),λj e' g1 g2=> ?_⟩;have:j=id:=Q.inj j id _ g1 l;subst this;rw[E]at g2;cases g2;show o < (xs++ys).length*i.size;rw[Z]at ho;exact ho
    .rw[Z];exact htk
theorem pR{t:yb}{len:Nat}{parts:Array (Nat×yo)}(ho:o.op=.buildSlice t len parts){v:yh}{w':yad}
 (h:(Instr.buildSlice t len (parts.map λq=>(q.1,a.eval q.2))).run P J.w=.ok v w'):(execOp a.eval o).run P J.w=.ok (.value v) w':=by
 simp[execOp,ho,h]
theorem tx(j:ay J ts a){t e:yb}{i:TypeInfo}{len:Nat}{parts:Array (Nat×yo)}{xs:yL Pl}(hu:P.underlying t=ab (.slice e))(hi:P.info? e=ab i)(hz:bP i=ae)
 (hsz:len*i.size<=16777216) (hl:Wx P ts e (P.cellsOf e) len parts.toList=ab xs):
 ∃cells:Array yh,(Instr.buildSlice t len (parts.map λq=>(q.1,a.eval q.2))).run P J.w=.ok (.slice (ab ⟨J.w.heap.size,0,ad⟩) len len) (J.w.alloc (.cells cells e))/\
  ak J.w J.aV xs cells.toList/\xs.length=len/\aT i.size xs/\cells.size=len*i.size:=by
 have c:P.cellsOf e=i.size:=by simp[Program.cellsOf,hi]
 rw[c]at hl
 obtain⟨cells,l,f,g,h⟩:=NL (P:=P) (t:=t) (parts:=parts.map λq=>(q.1,a.eval q.2)) (Q:=λcells=>ak J.w J.aV xs cells.toList/\xs.length=len/\aT i.size xs) J.w hu hi hz hsz (λZ m=>by
  obtain⟨cells,s,x⟩:=ZEX (P:=P) j hl Z m;exact⟨cells,by rw[ycx];exact s,x⟩)
 exact⟨cells,l,f,g,h,by rw[<-ybh,aG _ _ f,aI h,g]⟩
theorem NN(ok:Ok J)(j:ay J ts a){t e:yb}{i:TypeInfo}{len:Nat}{parts:Array (Nat×yo)}{xs:yL Pl}(ho:o.op=.buildSlice t len parts)(hu:P.underlying t=ab (.slice e))
 (hi:P.info? e=ab i) (hz:bP i=ae) (f:i.size≠0) (hsz:len*i.size<=16777216) (hl:Wx P ts e (P.cellsOf e) len parts.toList=ab xs):YH P o a J (.p (.sl (ab ae) i.size xs)) J.H:=by
 obtain⟨cells,l,m,h,s,x⟩:=tx (P:=P) j hu hi hz hsz hl;obtain⟨to,c⟩:=pK ok (World.grownBy_alloc J.w (.cells cells e) ad)
 have g:len<=maxLen:=by
  have:=Nat.le_mul_of_pos_right len (Nat.pos_of_ne_zero f);simp only[maxLen];omega
 refine ZH (J':={ J with w:=J.w.alloc (.cells cells e)}) (pR ho l) to c ?_;rw[<-h];exact xQ (jV rfl) c s (ax to.leaf.cells _ _ m) (b:=J.w.heap.size) (heap_alloc_new J.w _) (ok.new _ (ym _)) (tw ok) (ybs (ym _)) (ym _) (by rw[h];exact g)
theorem ZEY(ok:Ok J)(I:ay J ts a){t e:yb}{i:TypeInfo}{len:Nat}{parts:Array (Nat×yo)}{xs:yL Pl}(ho:o.op=.buildSlice t len parts)(hu:P.underlying t=ab (.slice e))
 (hi:P.info? e=ab i) (hz:bP i=ae) (x:i.size≠0) (hsz:len*i.size<=16777216) (hl:Wx P ts e (P.cellsOf e) len parts.toList=ab xs):
 YH P o a J (.own J.H.length (ab ae) i.size xs) (J.H++[.log i.size e xs]):=by
 obtain⟨cells,M,E,g,F,f⟩:=tx (P:=P) I hu hi hz hsz hl
 have j:len<=maxLen:=by
  have:=Nat.le_mul_of_pos_right len (Nat.pos_of_ne_zero x);simp only[maxLen];omega
 let J':Sg:={ J with m:=J.m++[ab J.w.heap.size],H:=J.H++[.log i.size e xs],w:=J.w.alloc (.cells cells e)};have y:J'.w.heap[J.w.heap.size]? =ab (.cells cells e (0,0)):=heap_alloc_new J.w _
 have c:J'.m[J.H.length]? =ab (ab J.w.heap.size):=by
  show(J.m++[ab J.w.heap.size])[J.H.length]? =_;rw[yan (by rw[ok.len];exact ym _),ok.len];simp
 have z:cells.toList.take (xs.length*i.size)=cells.toList:=ybs (by rw[g, <-f];simp)
 obtain⟨to,l⟩:=WE (J':=J') ok rfl rfl rfl rfl (World.grownBy_alloc J.w (.cells cells e) ad) (.inr ⟨_,rfl,ym _,by simp[J']⟩)
  (λs=>.inr ⟨J.w.heap.size,cells,len,rfl,y,f,by rw[g];exact ym _,j,F,by rw[z];exact ax s.cells _ _ E⟩)
 refine ZH (J':=J') (pR ho M) to l ?_;rw[Zg rfl];simp only[yG]
 refine⟨F,ab ⟨J.w.heap.size,0,ad⟩,len,by rw[g],by rw[g];exact ym _,j,jV rfl,λh=>(by cases h),λ_=>⟨J.w.heap.size,0,cells.toList,rfl,ax to.leaf.cells _ _ E,nX y (λQ A=>⟨.inr (ok.new _ (ym _)),λid U S G=> ?_⟩) (ybs (ym _))⟩,
  e,xs,by simp[J'],ym _,λ_=>.inr ⟨_,cells,c,rfl,y,f⟩⟩
 have:id=J.H.length:=l.inj id J.H.length _ S c;subst this;have T:J'.H[J.H.length]? =ab (.log i.size e xs):=by simp[J']
 rw[T]at G;cases G;show Q < xs.length*i.size;rw[g, <-f];simpa using A
theorem NO(ok:Ok J){t:yb}{f:Dv}{v:yh}{st:Bool}(g:f.bt=ae)(s:yH J f v)(hx:(execOp a.eval o).run P J.w=.ok (.value (.pointer (ab ⟨J.w.heap.size,0,ad⟩))) (J.w.alloc (.cells v.cells t))):
 YH P o a J (.am J.H.length 0 []) (J.H++[.var f st]):=by
 have c:=VY g s;let J':Sg:={ J with m:=J.m++[ab J.w.heap.size],H:=J.H++[.var f st],w:=J.w.alloc (.cells v.cells t)};have x:J'.w.heap[J.w.heap.size]? =ab (.cells v.cells t (0,0)):=heap_alloc_new J.w _;have h:=Wr _ _ c
 have e:J'.m[J.H.length]? =ab (ab J.w.heap.size):=by
  show(J.m++[ab J.w.heap.size])[J.H.length]? =_;rw[yan (by rw[ok.len];exact ym _),ok.len];simp
 obtain⟨to,l⟩:=WE (J':=J') ok rfl rfl rfl rfl (World.grownBy_alloc J.w (.cells v.cells t) ad) (.inr ⟨_,rfl,ym _,by simp[J']⟩)
  (λj=>⟨J.w.heap.size,v.cells,t,rfl,x,by rw[<-h,ybs (ym _)];exact Z7 j f _ c,by rw[<-h];simp⟩)
 refine ZH (J':=J') hx to l ?_;rw[Zg rfl];simp only[yG];exact⟨_,e,⟨f,st,by simp[J']⟩,rfl⟩
theorem ZLD(ok:Ok J){t:yb}{g:Dv}{v:yh}{st:Bool}{id:Nat}(hid:J.H[id]? =ab .gone)(x:g.bt=ae)(M:yH J g v)(hx:(execOp a.eval o).run P J.w=.ok (.value (.pointer (ab ⟨J.w.heap.size,0,ad⟩))) (J.w.alloc (.cells v.cells t))):
 YH P o a J (.am id 0 []) (J.H.set id (.var g st)):=by
 have c:=VY x M;have F:id < J.m.length:=by rw[ok.len];exact(yp.1 hid).1
 have A:J.m[id]? =ab J.m[id]:=yae F;let J':Sg:={ J with m:=J.m.set id (ab J.w.heap.size),H:=J.H.set id (.var g st),w:=J.w.alloc (.cells v.cells t)};have Q:J'.w.heap[J.w.heap.size]? =ab (.cells v.cells t (0,0)):=heap_alloc_new J.w _;have G:=World.grownBy_alloc J.w (.cells v.cells t) ad;have y:=Wr _ _ c;have l:J'.m[id]? =ab (ab J.w.heap.size):=ai A;have f:J'.H[id]? =ab (.var g st):=ai hid
 obtain⟨to,I⟩:=XE (J':=J') (mi:=J.m[id]) (mi':=ab J.w.heap.size) ok hid A rfl rfl rfl rfl rfl rfl rfl G.size
  (λj E _=>G.block j E (by simp)) (λb o v S _ T=>by
    have E:=ok.lt id b (by rw[A,S]);rw[World.cell?_of_block (w:=J.w) (G.block b E (by simp))];exact T) (λo U W=>by
    have E:=ok.lt id _ (by rw[A, <-U]);omega) (.inr ⟨_,rfl,ym _,by simp[J']⟩) (λ⟨d,st,h⟩=>by cases h) (λ⟨d,st,h⟩=>by cases h) (λs e X h=>by cases h)
  (λz=>⟨J.w.heap.size,v.cells,t,rfl,Q,by rw[<-y,ybs (ym _)];exact Z7 z g _ c,by rw[<-y];simp⟩)
  (λv s st e d h=>by cases h)
 refine ZH (J':=J') hx to I ?_;rw[Zg rfl];simp only[yG];exact⟨_,l,⟨g,st,f⟩,rfl⟩
theorem ZBL(ok:Ok J){t:yb}{i:TypeInfo}{id:Nat}(hid:J.H[id]? =ab .gone)(ho:o.op=.alloc t)(hi:P.info? t=ab i)(hz:i.zero.isSome=ae)(g:gv P t (YI P t)=ae)(e:(YI P t).bt=ae):
 YH P o a J (.am id 0 []) (J.H.set id (.var (YI P t) ae)):=by
 cases c:i.zero with
 |none=>simp[c]at hz
 |some z=>
  have f:yH J (YI P t) z:=by
   unfold YI;rw[hi];simp only[c];exact VB
  refine ZLD (v:=z) (t:=t) ok hid e f ?_;simp[execOp,ho,Instr.alloc,zeroValue,typeInfo,hi,c,newVar,newRow]
theorem ZJK(ok:Ok J){t:yb}{i:TypeInfo}(ho:o.op=.alloc t)(hi:P.info? t=ab i)(hz:i.zero.isSome=ae)(g:gv P t (YI P t)=ae)(e:(YI P t).bt=ae):
 YH P o a J (.am J.H.length 0 []) (J.H++[.var (YI P t) ae]):=by
 cases c:i.zero with
 |none=>simp[c]at hz
 |some z=>
  have f:yH J (YI P t) z:=by
   unfold YI;rw[hi];simp only[c];exact VB
  refine NO (v:=z) (t:=t) ok e f ?_;simp[execOp,ho,Instr.alloc,zeroValue,typeInfo,hi,c,newVar,newRow]
theorem ZNm(ok:Ok J){t:yb}{x:yo}{e:Dv}(ho:o.op=.box t x)(c:e.bt=ae)(f:yH J e (a.eval x)):YH P o a J (.am J.H.length 0 []) (J.H++[.var e ae]):=by
 refine NO (v:=a.eval x) (t:=t) ok c f ?_;simp[execOp,ho,Instr.box,newVar,newRow]
theorem nY{J:Sg}:∀(yM:yL Nat)(W:Dv)(hs hs':yL aj)(C:yL Prop)(g:Nat)(sub:Dv)(us:yL yh),Ym W yM hs=ab (C,g,sub,hs')->aY C->yG J W us->
 ∃x y z,us=x++(y++z)/\x.length=g/\yG J sub y
 |[],W,hs,hs',C,g,sub,us,h,m,c=>by
  simp only[Ym,yj,yl]at h;obtain⟨rfl,rfl,rfl,rfl⟩:=h
  exact⟨[],us,[],by simp,rfl,c⟩
 |i::yM,W,hs,hs',C,g,sub,us,h,m,c=>by
  cases W with
  |p q=>
   cases q with
   |agg X=>
    simp only[Ym]at h;split at h
    .rename_i x j;simp only[yq,yl]at h;obtain⟨⟨C1,e,f,l⟩,t,rfl,rfl,rfl,rfl⟩:=h;simp only[yG,aq]at c;obtain⟨A,E,F,rfl,G,I,_⟩:=jZ c j;obtain⟨M,Q,S,rfl,T,U⟩:=nY yM (.p x) _ _ _ _ _ E t m (by simpa[yG] using I);exact⟨A++M,Q,S++F,by simp,by rw[yn,G,T],U⟩
    .cases h
   |arr n s X=>
    simp only[Ym]at h;split at h
    .rename_i y l;simp only[yq,yl]at h;obtain⟨⟨C1,e,f,l⟩,t,rfl,rfl,rfl,rfl⟩:=h;obtain⟨j,m⟩:=m;simp only[yG,aq]at c;obtain⟨hl,Y,c⟩:=c;obtain⟨A,E,F,rfl,G,I,_⟩:=jZ c j;obtain⟨M,Q,S,rfl,T,U⟩:=nY yM (.p y) _ _ _ _ _ E t m (by simpa[yG] using I);have Z:i < X.length:=(yp.1 j).1;exact⟨A++M,Q,S++F,by simp,by rw[yn,G,T,aI (V5 Y i),yy,ybi (Nat.le_of_lt Z)],U⟩
    .cases h
   |_=>simp[Ym]at h
  |agg X=>
   simp only[Ym]at h;split at h
   .rename_i x j;simp only[yq,yl]at h;obtain⟨⟨C1,e,f,l⟩,t,rfl,rfl,rfl,rfl⟩:=h;simp only[yG]at c;obtain⟨A,E,F,rfl,G,I,_⟩:=kX c j;obtain⟨M,Q,S,rfl,T,U⟩:=nY yM x _ _ _ _ _ E t m I;exact⟨A++M,Q,S++F,by simp,by rw[yn,G,T],U⟩
   .cases h
  |arr n s X=>
   simp only[Ym]at h;split at h
   .rename_i x j;simp only[yq,yl]at h;obtain⟨⟨C1,e,f,l⟩,t,rfl,rfl,rfl,rfl⟩:=h;simp only[yG]at c;obtain⟨hl,Y,c⟩:=c;obtain⟨A,E,F,rfl,G,I,_⟩:=kX c j;obtain⟨M,Q,S,rfl,T,U⟩:=nY yM x _ _ _ _ _ E t m I;have Z:i < X.length:=(yp.1 j).1;exact⟨A++M,Q,S++F,by simp,by rw[yn,G,T,cD (λy hy=>Y y (ycc hy)),yy,ybi (Nat.le_of_lt Z)],U⟩
   .cases h
  |_=>simp[Ym]at h
theorem tz(ok:Ok J){id f:Nat}{yM:yL Nat}{e sub:Dv}{st:Bool}{b:Nat}{C:yL Prop}{c:Nat}(hm:J.m[id]? =ab (ab b))(hH:J.H[id]? =ab (.var e st))(G:Ym e yM hs=ab (C,c,sub,hs'))(hc:aY C)(he:c=f):
 ∃cs t x y z,J.w.heap[b]? =ab (.cells cs t (0,0))/\e.size<=cs.size/\cs.toList.take e.size=x++(y++z)/\x.length=f/\yG J sub y/\yG J e (cs.toList.take e.size)/\
  (∀(j:Nat)(u:yh),y[j]? =ab u->J.w.cell? ⟨b,f+j,ad⟩=ab u):=by
 obtain⟨S,cs,t,I,l,s,M⟩:=ok.cA id _ _ hH hm;cases I;obtain⟨x,y,z,g,A,Q⟩:=nY yM e hs hs' C c sub _ G hc s;subst he;refine⟨cs,t,x,y,z,l,M,g,A,Q,s,λj u E=> ?_⟩;rw[cell_of_row J.w b _ cs t (0,0) l, <-ybr, <-A];have T:j < y.length:=(yp.1 E).1
 have h:x.length+j < e.size:=by
  have:=congrArg ycf g;simp only[yy,ybh,yn]at this;omega
 have F:(cs.toList.take e.size)[x.length+j]? =ab u:=by
  rw[g,yan (by omega),yaj (by omega)];simpa using E
 rw[ycg,yW h]at F;exact F
theorem NP{d:Dv}{s N:Nat}(h:aJ d s=ab N):d.size=N*s:=by
 unfold aJ at h;split at h
 .split at h
  .rename_i e;cases h;rw[e];rfl
  .cases h
 .split at h
  .rename_i e;cases h;rw[e];rfl
  .cases h
 .cases h
theorem ZEZ(ok:Ok J){id g v s N:Nat}{yM:yL Nat}{c sub:Dv}{st:Bool}{e:yb}{b:Nat}{C:yL Prop}{f:Nat}(hm:J.m[id]? =ab (ab b))(hH:J.H[id]? =ab (.row v s st e c))(I:aJ c s=ab N)
 (X:Ym c yM hs=ab (C,f,sub,hs')) (hc:aY C) (he:f=g):
 ∃cs cap x y z,J.w.heap[b]? =ab (.cells cs e (0,0))/\cs.size=cap*s/\N<=cap/\cap<=maxLen/\c.size<=cs.size/\cs.toList.take c.size=x++(y++z)/\x.length=g/\yG J sub y/\yG J c (cs.toList.take c.size)/\
  (∀(j:Nat)(u:yh),y[j]? =ab u->J.w.cell? ⟨b,g+j,ad⟩=ab u):=by
 obtain⟨N',l,h⟩:=ok.cA id _ _ hH hm;rw[I]at l;cases l;rcases h with⟨h,_⟩|⟨b',cs,cap,Y,M,Q,S,Z,A⟩
 .cases h
 cases Y;have t:=NP I;rw[<-t]at A;have E:c.size<=cs.size:=by rw[t,Q];exact Nat.mul_le_mul_right _ S
 obtain⟨x,y,z,F,T,k7⟩:=nY yM c hs hs' C f sub _ X hc A;subst he;refine⟨cs,cap,x,y,z,M,Q,S,Z,E,F,T,k7,A,λj u U=> ?_⟩;rw[cell_of_row J.w b _ cs e (0,0) M, <-ybr, <-T];have hj:j < y.length:=(yp.1 U).1
 have G:x.length+j < c.size:=by
  have:=congrArg ycf F;simp only[yy,ybh,yn]at this;omega
 have W:(cs.toList.take c.size)[x.length+j]? =ab u:=by
  rw[F,yan (by omega),yaj (by omega)];simpa using U
 rw[ycg,yW G]at W;exact W
theorem ZJL(ok:Ok J){id v s b:Nat}{st:Bool}{e:yb}{f:Dv}(hm:J.m[id]? =ab (ab b))(hH:J.H[id]? =ab (.row v s st e f)):∃N,aJ f s=ab N:=by
 obtain⟨N',c,_⟩:=ok.cA id _ _ hH hm;exact⟨N',c⟩
theorem NQ{id v c v' s:Nat}{yM:yL Nat}{st:Bool}{e:yb}{g:Dv}{u:yh}(hx:yH J (.aW id v c yM) u)(hH:J.H[id]? =ab (.row v' s st e g))(hv:v'=v):∃b,u=.pointer (ab ⟨b,c,ad⟩)/\J.m[id]? =ab (ab b):=by
 obtain⟨b,y,h,z,A,j,E,d2,f,F,l⟩:=tj hx;rw[hH]at f;cases f;obtain⟨t,x⟩:=l hv;exact⟨b,by rw[h,x],t⟩
theorem ZLE(ok:Ok J)(X:ay J ts a){t:yb}{x:yo}(ho:o.op=.load t x)(h:bm P o ts J.H hs=ab (C,d,hs'))(hc:aY C):YH P o a J d J.H:=by
 simp only[bm,ho]at h;have c:=Zh (P:=P) X 0 x;split at h
 .rename_i id y Y z;rw[z]at c;split at h
  .rename_i Z st l;split at h
   .rename_i C1 m sub A E;split at h
    .rename_i f;simp only[yj,yl]at h;obtain⟨rfl,rfl,rfl⟩:=h;unfold gv at f;simp only[yi,yT]at f;obtain⟨⟨⟨F,G⟩,I⟩,M⟩:=f;obtain⟨g,j⟩:=Zj.1 hc;obtain⟨b,s,W,c⟩:=kY c;obtain⟨cs,t',p1,p2,p3,_,_,_,_,Q,_,S⟩:=tz ok s l E g j.1;obtain⟨v,T,U⟩:=tf (P:=P) Q S F M I G;exact Zi ok (by simp[execOp,ho,c,Instr.loadAt,Instr.sureAddr,T]) U
    .cases h
   .cases h
  .cases h
 .rename_i id v y Y z;rw[z]at c;split at h
  .rename_i v' s' st e Z l;split at h
   .rename_i C1 m sub A E;split at h
    .rename_i f;simp only[yj,yl]at h;obtain⟨rfl,rfl,rfl⟩:=h;unfold gv at f;simp only[yi,yT]at f;obtain⟨⟨⟨⟨F,G⟩,I⟩,M⟩,W⟩:=f;obtain⟨g,j⟩:=Zj.1 hc;obtain⟨b,c,s⟩:=NQ c l W;obtain⟨N,hN⟩:=ZJL ok s l;obtain⟨cs,cap,p1,p2,p3,_,_,_,_,_,_,_,Q,_,S⟩:=ZEZ ok s l hN E g j.1;obtain⟨v,T,U⟩:=tf (P:=P) Q S F M I G;exact Zi ok (by simp[execOp,ho,c,Instr.loadAt,Instr.sureAddr,T]) U
    .cases h
   .cases h
  .cases h
 .cases h
end
end Go.Ev
end
section
namespace Go.Ev
theorem ZE0{xs:yL Pl}{i:Nat}{x y:Pl}(hx:xs[i]? =ab x)(hs:y.size=x.size):Pl.sizes (xs.set i y)=Pl.sizes xs:=by
 rw[pP,pP,ybl,hs];congr 1;apply ybg;intro j;rw[ybm];split
 .rename_i h;subst h;have:=(yp.1 hx).1;rw[yah,hx];simp[this]
 .rfl
theorem NR{xs:yL Dv}{i:Nat}{x y:Dv}(hx:xs[i]? =ab x)(hs:y.size=x.size):Dv.sizes (xs.set i y)=Dv.sizes xs:=by
 rw[nV,nV,ybl,hs];congr 1;apply ybg;intro j;rw[ybm];split
 .rename_i h;subst h;have:=(yp.1 hx).1;rw[yah,hx];simp[this]
 .rfl
theorem mA{α:Type}{xs:yL α}{i:Nat}{x y:α}(hx:xs[i]? =ab x):xs.set i y=xs.take i++(y::xs.drop (i+1)):=by
 rw[List.set_eq_take_append_cons_drop,yW (yp.1 hx).1]
theorem tA{α:Type}{Q:α->Prop}{xs:yL α}{i:Nat}{y:α}(h:∀x,x∈xs->Q x)(c:Q y):∀x,x∈xs.set i y->Q x:=by
 intro x e;rcases List.mem_or_eq_of_mem_set e with h1|h1
 .exact h x h1
 .rw[h1];exact c
theorem pS{J:Sg}:∀{xs:yL Pl}{us:yL yh},ak J.w J.aV xs us->aC J (xs.map Dv.p) us
 |[],us,h=>by simpa[ak,aC] using h
 |x::xs,us,h=>by
  simp only[ak]at h;obtain⟨a,b,c,e,f⟩:=h;simp only[yaf,aC];exact⟨a,b,c,by simpa[yG] using e,pS f⟩
theorem la{J:Sg}:∀(yM:yL Nat)(dd:Dv)(hs hs':yL aj)(C:yL Prop)(Q:Nat)(sub:Dv)(us:yL yh),Ym dd yM hs=ab (C,Q,sub,hs')->aY C->yG J dd us->
 ∃x y z,us=x++(y++z)/\x.length=Q/\yG J sub y/\∀new t y',WU new dd yM hs=ab t->new.size=sub.size->yG J new y'->yG J t (x++(y'++z))/\t.size=dd.size
 |[],dd,hs,hs',C,Q,sub,us,h,hc,A=>by
  simp only[Ym,yj,yl]at h;obtain⟨rfl,rfl,rfl,rfl⟩:=h;refine⟨[],us,[],by simp,rfl,A,λnew t y' f hs E=> ?_⟩;simp only[WU,yj]at f;subst f
  exact⟨by simpa using E,hs⟩
 |i::yM,dd,hs,hs',C,Q,sub,us,h,hc,A=>by
  cases dd with
  |p q=>
   cases q with
   |agg xs=>
    simp only[Ym]at h;split at h
    .rename_i x c;simp only[yq,yl]at h;obtain⟨⟨C1,F,G,S⟩,h1,rfl,rfl,rfl,rfl⟩:=h;simp only[yG,aq]at A;obtain⟨g,p2,j,rfl,h2,h3,_,T,U⟩:=jZ A c;obtain⟨l,q2,m,rfl,h4,h5,W⟩:=la yM (.p x) _ _ _ _ _ p2 h1 hc (by simpa[yG] using h3);refine⟨g++l,q2,m++j,by simp,by rw[yn,h2,h4],h5,λnew t y' f hs E=> ?_⟩;simp only[WU,c]at f;split at f
     .rename_i y Z;cases f;obtain⟨I,M⟩:=W new _ y' Z hs E;have k3:y.size=x.size:=by simpa[Dv.size] using M
      refine⟨?_,by simp only[Dv.size,Pl.size];exact ZE0 c k3⟩;simp only[yG,aq];rw[mA c];have e:g++l++(y'++(m++j))=g++((l++(y'++m))++j):=by simp
      rw[e];refine Ys T ?_;simp only[ak];exact⟨_,_,rfl,by simpa[yG] using I,U⟩
     .rename_i y Z hne;cases f;obtain⟨I,M⟩:=W new _ y' hne hs E;have k3:y.size=x.size:=by simpa[Dv.size] using M
      have X:(xs.map Dv.p)[i]? =ab (.p x):=by rw[yah,c];rfl
      refine⟨?_,by
       simp only[Dv.size,Pl.size];rw[NR X k3,nV,pP,ybc];rfl⟩
      simp only[yG];rw[mA X];have e:g++l++(y'++(m++j))=g++((l++(y'++m))++j):=by simp
      rw[e, <-List.map_take, <-List.map_drop];refine pJ (pS T) ?_;simp only[aC];exact⟨_,_,rfl,I,pS U⟩
     .cases f
    .cases h
   |arr n s xs=>
    simp only[Ym]at h;split at h
    .rename_i y S;simp only[yq,yl]at h;obtain⟨⟨C1,F,G,S⟩,h1,rfl,rfl,rfl,rfl⟩:=h;obtain⟨c,hc⟩:=hc;simp only[yG,aq]at A;obtain⟨hl,Y,A⟩:=A;obtain⟨g,p2,j,rfl,h2,h3,_,T,U⟩:=jZ A c;obtain⟨l,q2,m,rfl,h4,h5,W⟩:=la yM (.p y) _ _ _ _ _ p2 h1 hc (by simpa[yG] using h3);have hi:i < xs.length:=(yp.1 c).1;refine⟨g++l,q2,m++j,by simp,by rw[yn,h2,h4,aI (V5 Y i),yy,ybi (Nat.le_of_lt hi)],h5,λnew t y' f hs E=> ?_⟩;simp only[WU]at f;split at f
     .rename_i z hz;cases f;obtain⟨I,M⟩:=W new _ y' hz hs E;have k3:z.size=y.size:=by simpa[Dv.size] using M
      have k4:z.size=s:=by rw[k3];exact Y y (ybq c)
      refine⟨?_,rfl⟩;simp only[yG,aq];refine⟨by rw[yax];exact hl,tA Y (by rw[xC];exact k4), ?_⟩;rw[mA c];have e:g++l++(y'++(m++j))=g++((l++(y'++m))++j):=by simp
      rw[e];refine Ys T ?_;simp only[ak];exact⟨_,_,rfl,(kh z).cG _ _ _ (by simpa[yG] using I),U⟩
     .rename_i z hz hne;cases f;obtain⟨I,M⟩:=W new _ y' hne hs E;have k3:z.size=y.size:=by simpa[Dv.size] using M
      have k4:z.size=s:=by rw[k3];exact Y y (ybq c)
      have X:(xs.map Dv.p)[i]? =ab (.p y):=by rw[yah,c];rfl
      refine⟨?_,rfl⟩;simp only[yG]
      refine⟨by rw[yax,yx];exact hl,tA (λq hq=>by
       obtain⟨q',hq',rfl⟩:=ybj.1 hq;exact Y q' hq') k4, ?_⟩
      rw[mA X];have e:g++l++(y'++(m++j))=g++((l++(y'++m))++j):=by simp
      rw[e, <-List.map_take, <-List.map_drop];refine pJ (pS T) ?_;simp only[aC];exact⟨_,_,rfl,I,pS U⟩
     .cases f
    .cases h
   |_=>simp[Ym]at h
  |agg xs=>
   simp only[Ym]at h;split at h
   .rename_i x c;simp only[yq,yl]at h;obtain⟨⟨C1,F,G,S⟩,h1,rfl,rfl,rfl,rfl⟩:=h;simp only[yG]at A;obtain⟨g,p2,j,rfl,h2,h3,_,T,U⟩:=kX A c;obtain⟨l,q2,m,rfl,h4,h5,W⟩:=la yM x _ _ _ _ _ p2 h1 hc h3;refine⟨g++l,q2,m++j,by simp,by rw[yn,h2,h4],h5,λnew t y' f hs E=> ?_⟩;simp only[WU,c,yq]at f;obtain⟨y,Z,rfl⟩:=f;obtain⟨I,M⟩:=W new _ y' Z hs E;refine⟨?_,by simp only[Dv.size];exact NR c M⟩;simp only[yG];rw[mA c];have e:g++l++(y'++(m++j))=g++((l++(y'++m))++j):=by simp
    rw[e];refine pJ T ?_;simp only[aC];exact⟨_,_,rfl,I,U⟩
   .cases h
  |arr n s xs=>
   simp only[Ym]at h;split at h
   .rename_i x c;simp only[yq,yl]at h;obtain⟨⟨C1,F,G,S⟩,h1,rfl,rfl,rfl,rfl⟩:=h;simp only[yG]at A;obtain⟨hl,Y,A⟩:=A;obtain⟨g,p2,j,rfl,h2,h3,_,T,U⟩:=kX A c;obtain⟨l,q2,m,rfl,h4,h5,W⟩:=la yM x _ _ _ _ _ p2 h1 hc h3;have hi:i < xs.length:=(yp.1 c).1;refine⟨g++l,q2,m++j,by simp,by rw[yn,h2,h4,cD (λy Z=>Y y (ycc Z)),yy,ybi (Nat.le_of_lt hi)],h5,λnew t y' f hs E=> ?_⟩;simp only[WU,c,yq]at f;obtain⟨y,Z,rfl⟩:=f;obtain⟨I,M⟩:=W new _ y' Z hs E;refine⟨?_,rfl⟩;simp only[yG];refine⟨by rw[yax];exact hl,tA Y (by rw[M];exact Y x (ybq c)), ?_⟩;rw[mA c];have e:g++l++(y'++(m++j))=g++((l++(y'++m))++j):=by simp
    rw[e];refine pJ T ?_;simp only[aC];exact⟨_,_,rfl,I,U⟩
   .cases h
  |_=>simp[Ym]at h
section
variable{P:yg}{o:Oper}{a:Act}{J:Sg}{ts:yL Dv}{hs hs':yL aj}{C:yL Prop}{d:Dv}
theorem Qx{J':Sg}(c:(execOp a.eval o).run P J.w=.ok .skip J'.w)(to:To J J')(ok:Ok J'):YH P o a J .an J'.H:=by
 intro K Q h;unfold Oper.wp;rw[c];exact h undef J' rfl to ok Wb
theorem NS{v:Dv}{u:yh}(c:yH J v u):yH J v.cB u:=by
 unfold Dv.cB;split
 .rename_i x e;exact pH e c
 .exact c
theorem NT{yM:yL Nat}{e v new:Dv}{u:yh}(h:io yM e v=ab new)(c:yH J v u):yH J new u:=by
 unfold io at h;split at h
 .cases h;exact NS c
 .split at h
  .cases h;exact NS c
  .cases h;exact c
theorem pT{x y z y':yL yh}{cs:Array yh}{n:Nat}(h:cs.toList.take n=x++(y++z))(hl:y'.length=y.length)(m:n<=cs.size):
 (cs.toList.take x.length++y'++cs.toList.drop (x.length+y'.length)).take n=x++(y'++z)/\(cs.toList.take x.length++y'++cs.toList.drop (x.length+y'.length)).length=cs.size:=by
 have f:n=x.length+(y.length+z.length):=by
  have:=congrArg ycf h;simp only[yy,ybh,yn]at this;omega
 have e:cs.toList=x++(y++z)++cs.toList.drop n:=by rw[<-h,ybk]
 have g:cs.toList.take x.length=x:=by rw[e];simp
 have j:cs.toList.drop (x.length+y'.length)=z++cs.toList.drop n:=by
  have l:cs.toList=(x++y)++(z++cs.toList.drop n):=by
   have:x++y++(z++cs.toList.drop n)=x++(y++z)++cs.toList.drop n:=by simp
   rw[this];exact e
  have c:x.length+y'.length=(x++y).length:=by rw[yn,hl]
  rw[c];have:=congrArg (List.drop (x++y).length) l;rw[List.drop_left]at this;exact this
 rw[g,j];constructor
 .have:x++y'++(z++cs.toList.drop n)=(x++(y'++z))++cs.toList.drop n:=by simp
  rw[this,f];have c:x.length+(y.length+z.length)=(x++(y'++z)).length:=by simp[hl]
  rw[c];exact List.take_left
 .simp only[yn,ybf,ybh];omega
theorem ZJM(ok:Ok J)(yK:ay J ts a){t:yb}{x y:yo}{id I:Nat}{yM:yL Nat}{A sub new g:Dv}{C1:yL Prop}{c:Nat}(ho:o.op=.store t x y)(hx:Zo P ts 0 x=.am id I yM)
 (hH:J.H[id]? =ab (.var A ae)) (hg:Ym A yM hs=ab (C1,c,sub,hs')) (hc:aY C1) (he:c=I) (hn:io yM A (Zo P ts t y)=ab new) (hp:WU new A yM hs=ab g)
 (E:new.bt=ae) (hsz:new.size=sub.size) (ht:P.cellsOf t=new.size) (hi:(P.info? t).isSome=ae):YH P o a J .an (J.H.set id (.var g ae)):=by
 subst he;have z:=Zh (P:=P) yK 0 x;have Y:=NT hn (Zh (P:=P) yK t y);rw[hx]at z;obtain⟨b,hm,hv,z⟩:=kY z;obtain⟨b',G,X,h1,h2,h3,h4⟩:=ok.cA id _ _ hH hm;cases h1;obtain⟨p1,p2,p3,h5,h6,h7,h8⟩:=la yM A hs hs' C1 c sub _ hg hc h3;have f:=VY E Y;obtain⟨h9,M⟩:=h8 new g _ hp hsz f;have Q:(a.eval y).cells.toList.length=new.size:=Wr _ _ f;have Z:p2.length=sub.size:=Wr _ _ h7;have hll:(a.eval y).cells.toList.length=p2.length:=by rw[Q,Z,hsz]
 obtain⟨k1,k2⟩:=pT h5 hll h4;rw[h6]at k1 k2
 have hnl:c+(a.eval y).cells.toList.length<=G.size:=by
  have:=congrArg ycf h5;simp only[yy,ybh,yn]at this;omega
 have S:∀u,u∈(a.eval y).cells.toList->u.oneCell'=ae:=tk new _ E f;have T:=run_storeCells_at P b c X (a.eval y).cells.toList 0 G J.w h2 (by simpa using hnl) S;simp only[ycl]at T;let l:Array yh:=(G.toList.take c++(a.eval y).cells.toList++G.toList.drop (c+(a.eval y).cells.toList.length)).toArray;let J':Sg:={ J with m:=J.m.set id (ab b),H:=J.H.set id (.var g ae),w:=J.w.setRow b l};have zB:J'.w.heap[b]? =ab (.cells l X (0,0)):=setRow_heap J.w b G _ X _ h2;have U:∀j,b≠j->J'.w.heap[j]? =J.w.heap[j]? :=λj hj=>setRow_other J.w b j _ (Ne.symm hj)
 obtain⟨to,ok'⟩:=XE (J':=J') (mi:=ab b) (mi':=ab b) ok hH hm rfl rfl rfl rfl rfl rfl rfl (by simp[J'])
  (λj hj hne=>U j (λhh=>hne (by rw[hh]))) (λb' o v _ hu _=>by cases hu) (λo _ hu=>by cases hu) (.inl rfl) (λ_=>⟨rfl,g,ae,rfl⟩) (λ⟨d,st,h⟩=>by cases h)
  (λs e xs h=>by cases h) (λW=>⟨b,l,X,rfl,zB,by rw[M];show yG J' g (l.toList.take A.size);rw[show l.toList.take A.size=p1++((a.eval y).cells.toList++p3) from k1];exact Z7 W g _ h9,by
    rw[M];show A.size<=l.size;have:l.size=G.size:=k2;omega⟩)
 refine Qx (J':=J') ?_ to ok'
 cases F:P.info? t with
 |none=>simp[F]at hi
 |some i=>
  have hs:(a.eval y).cells.size=i.size:=by
   rw[<-ybh,Q, <-ht];simp[Program.cellsOf,F]
  simp only[execOp,ho,z,Instr.storeAt,Instr.sureAddr,storeVar,sizeOf,typeInfo,Sem.run_bind,run_program,Result.andThen_ok,F,Sem.run_pure,hs,ne_eq,not_true,if_false,T];rfl
theorem NU(ok:Ok J)(U:ay J ts a){t e:yb}{x:yo}{lo hi:yO yo}{id c n s:Nat}{yM:yL Nat}{E:Dv}{st:Bool}{xs:yL Pl}{C1:yL Prop}{y:Nat}{l r:yO Int}
 (ho:o.op=.slice t x lo hi ad) (hu:P.underlying t=ab (.array n e)) (hx:Zo P ts t x=.am id c yM) (hl:fU P ts lo=ab l) (hr:fU P ts hi=ab r)
 (hH:J.H[id]? =ab (.var E st)) (hg:Ym E yM hs=ab (C1,y,.p (.arr n s xs),hs')) (hc:aY C1) (he:y=c) (hce:P.cellsOf e=s) (W:(P.info? e).isSome=ae) (X:n<=maxLen)
 (z:aY (Xf n l r)):YH P o a J (.p (.sl (ab ae) s (V4 xs l r))) (J.H.set id (.var E af)):=by
 have f:=Zh (P:=P) U t x;rw[hx]at f;obtain⟨b,T,hv,f⟩:=kY f;obtain⟨cs,t',p1,p2,p3,h2,h4,h5,h6,h7,h3,h8⟩:=tz ok T hH hg hc he;simp only[yG,aq]at h7;obtain⟨h9,Y,Z⟩:=h7;subst h9;let J':Sg:={ J with m:=J.m.set id (ab b),H:=J.H.set id (.var E af)};have F:J'.m[id]? =ab (ab b):=ai T;have G:J'.H[id]? =ab (.var E af):=ai hH
 obtain⟨to,M⟩:=XE (J':=J') (mi:=ab b) (mi':=ab b) ok hH T rfl rfl rfl rfl rfl rfl rfl (ym _)
  (λ_ _ _=>rfl) (λ_ _ _ _ _ h=>h) (λo _ hu=>rfl) (.inl rfl) (λ_=>⟨rfl,E,af,rfl⟩) (λ⟨d,st,h⟩=>by cases h)
  (λs e xs h=>by cases h) (λQ=>⟨b,cs,t',rfl,h2,Z7 Q E _ h3,h4⟩)
 have g:W9 J'.w J'.aV b c p2:=λj u hu=>by
  refine⟨h8 j u hu,.inr (ok.own id b T),λj' e' g1 g2=> ?_⟩;have:j'=id:=M.inj j' id _ g1 F;subst this;rw[G]at g2;cases g2;rfl
 obtain⟨p,q,hb,k1,k2,rfl,rfl⟩:=mv (P:=P) (w:=J.w) af xs.length xs.length _ _ _ _ (YT U hl) (YT U hr) z (ym _);obtain⟨j1,j2,j3,j4,j5,j6,j7⟩:=th (A:=ab ⟨b,c,ad⟩) (w:=J'.w) (S:=J'.aV) Y (ym _) X (λhA=>by cases hA) (λ_=>⟨b,c,p2,rfl,ax to.leaf.cells _ _ Z,g⟩) k1 k2
 have zU:(Instr.sliceAt t (a.eval x) (lo.map a.eval) (hi.map a.eval) ad).run P J.w=.ok (.slice (ab (if xs.length=(l.getD 0).toNat then(⟨b,c,ad⟩:Addr) else(⟨b,c,ad⟩:Addr).add ((l.getD 0).toNat*s))) ((r.getD (xs.length:Int)).toNat - (l.getD 0).toNat) (xs.length - (l.getD 0).toNat)) J.w:=by
  rw[f];simp[Instr.sliceAt,Instr.sureAddr,run_underlying hu,hb,Z0 W,hce]
 have I:(execOp a.eval o).run P J.w=.ok (.value (.slice (ab (if xs.length=(l.getD 0).toNat then(⟨b,c,ad⟩:Addr) else(⟨b,c,ad⟩:Addr).add ((l.getD 0).toNat*s))) ((r.getD (xs.length:Int)).toNat - (l.getD 0).toNat) (xs.length - (l.getD 0).toNat))) J'.w:=by
  show _=Result.ok _ J.w;simp only[execOp,ho,Option.map_none,Sem.run_bind,zU,Result.andThen_ok,Sem.run_pure]
 refine ZH I to M ?_;rw[ti xs l r z];have:=Yp (J:=J') j1 (by rw[j2];exact j3) j4 (jV j5) j6 j7;rw[j2]at this;simpa[apply_ite] using this
end
theorem pU:∀{ids:yL Nat},once ids=ae->∀(i j id:Nat),ids[i]? =ab id->ids[j]? =ab id->i=j
 |[],_,i,j,id,h,_=>by simp at h
 |x::r,f,i,j,id,c,e=>by
  simp only[once,yi,Bool.not_eq_true']at f;have g:x ∉ r:=by simpa using f.1
  cases i with
  |zero=>
   cases j with
   |zero=>rfl
   |succ j=>
    simp only[ybt,yj]at c;simp only[ybe]at e;subst c
    exact absurd (ybq e) g
  |succ i=>
   cases j with
   |zero=>
    simp only[ybt,yj]at e;simp only[ybe]at c;subst e
    exact absurd (ybq c) g
   |succ j=>
    simp only[ybe]at c e;rw[pU f.2 i j id c e]
theorem bL{ids:yL Nat}{id j:Nat}(h:ids.idxOf? id=ab j):ids[j]? =ab id:=by
 induction ids generalizing j with
 |nil=>simp at h
 |cons x r c=>
  rw[List.idxOf?_cons]at h;split at h
  .rename_i e;cases h;have:x=id:=by simpa using e
   simp[this]
  .simp only[yq]at h;obtain⟨k,f,rfl⟩:=h;simpa using c f
theorem bJ{ids:yL Nat}(ho:once ids=ae){id j:Nat}(h:ids[j]? =ab id):ids.idxOf? id=ab j:=by
 cases c:ids.idxOf? id with
 |none=>
  rw[List.idxOf?_eq_none_iff]at c
  exact absurd (ybq h) c
 |some k=>rw[pU ho k j id (bL c) h]
theorem tB{α:Type}:∀(H:yL α)(ids:yL Nat)(Hb:yL α),ids.length<=Hb.length->(ao H ids Hb).length=H.length+(Hb.length - ids.length)
 |H,[],Hb,_=>by simp[ao]
 |H,id::r,[],h=>by simp at h
 |H,id::r,e::Hb,h=>by
  simp only[yam]at h;rw[ao,tB _ r Hb (by omega),yax];simp
theorem Qy{α:Type}:∀(H:yL α)(ids:yL Nat)(Hb:yL α)(i:Nat),ids.length<=Hb.length->i < H.length->i ∉ ids->(ao H ids Hb)[i]? =H[i]?
 |H,[],Hb,i,_,c,_=>by simp only[ao];rw[yaj c]
 |H,id::r,[],i,h,_,_=>by simp at h
 |H,id::r,e::Hb,i,h,c,f=>by
  simp only[yam]at h;simp only[ybz,not_or]at f;rw[ao,Qy _ r Hb i (by omega) (by simpa using c) f.2,ybm,yX (Ne.symm f.1)]
theorem pV{α:Type}:∀(H:yL α)(ids:yL Nat)(Hb:yL α)(j id:Nat),once ids=ae->ids.length<=Hb.length->(∀i,i∈ids->i < H.length)->ids[j]? =ab id->(ao H ids Hb)[id]? =Hb[j]?
 |H,[],Hb,j,id,_,_,_,h=>by simp at h
 |H,x::r,[],j,id,_,h,_,_=>by simp at h
 |H,x::r,e::Hb,j,id,g,l,c,h=>by
  simp only[once,yi,Bool.not_eq_true']at g;have m:x ∉ r:=by simpa using g.1
  simp only[yam]at l;rw[ao]
  cases j with
  |zero=>
   simp only[ybt,yj]at h;subst h;have f:x < H.length:=c x (yay ..);rw[Qy _ r Hb x (by omega) (by simpa using f) m]
   simp[f]
  |succ j=>
   simp only[ybe]at h ⊢;exact pV _ r Hb j id g.2 (by omega) (λi s=>by rw[yax];exact c i (yba _ s)) h
theorem tC{α:Type}:∀(H:yL α)(ids:yL Nat)(Hb:yL α)(j:Nat),ids.length<=Hb.length->ids.length<=j->(ao H ids Hb)[H.length+(j - ids.length)]? =Hb[j]?
 |H,[],Hb,j,_,_=>by
  simp only[ao,yce,Nat.sub_zero];rw[yan (by omega)]
  simp
 |H,id::r,[],j,h,_=>by simp at h
 |H,id::r,e::Hb,j,h,c=>by
  simp only[yam]at h c
  cases j with
  |zero=>omega
  |succ j=>
   rw[ao];have:=tC (H.set id e) r Hb j (by omega) (by omega);rw[yax]at this;simp only[yam,ybe];rw[<-this];congr 1;omega
theorem QV{H:yL ar}{all:yL Nat}:∀{ids:yL Nat}{Hin:yL ar},aH H all ids=ab Hin->Hin.length=ids.length
 |[],Hin,h=>by simp only[aH,yj]at h;subst h;rfl
 |id::r,Hin,h=>by
  simp only[aH]at h;split at h
  .rename_i e f _ c;cases h;simp[QV c]
  .cases h
theorem VD{H:yL ar}{all:yL Nat}:∀{ids:yL Nat}{Hin:yL ar}{j id:Nat},aH H all ids=ab Hin->ids[j]? =ab id->
 ∃e f,H[id]? =ab e/\Hin[j]? =ab f/\e.rn (aR all)=ab f
 |[],Hin,j,id,_,c=>by simp at c
 |x::r,Hin,j,id,h,c=>by
  simp only[aH]at h;split at h
  .rename_i e y g l;cases h
   cases j with
   |zero=>
    simp only[ybt,yj]at c;subst c;simp only[Option.bind_eq_some_iff]at g;obtain⟨m,s,t⟩:=g
    exact⟨m,e,s,rfl,t⟩
   |succ j=>
    simp only[ybe]at c ⊢;exact VD l c
  .cases h
theorem NV{f:Nat->yO Nat}:∀{H Hb:yL ar},ar.bi f H=ab Hb->Hb.length=H.length
 |[],Hb,h=>by simp only[ar.bi,yj]at h;subst h;rfl
 |e::H,Hb,h=>by
  simp only[ar.bi]at h;split at h
  .rename_i y g _ c;cases h;simp[NV c]
  .cases h
theorem pW{f:Nat->yO Nat}:∀{H Hb:yL ar}{j:Nat}{e:ar},ar.bi f H=ab Hb->H[j]? =ab e->∃g,Hb[j]? =ab g/\e.rn f=ab g
 |[],Hb,j,e,_,c=>by simp at c
 |x::H,Hb,j,e,h,c=>by
  simp only[ar.bi]at h;split at h
  .rename_i y s l m;cases h
   cases j with
   |zero=>
    simp only[ybt,yj]at c;subst c
    exact⟨y,rfl,l⟩
   |succ j=>
    simp only[ybe]at c ⊢;exact pW m c
  .cases h
theorem NW{f:Nat->yO Nat}{d d':Dv}{s:Nat}(h:d.rn f=ab d'):aJ d' s=aJ d s:=by
 cases d with
 |p x=>simp only[Dv.rn,yj]at h;subst h;rfl
 |arr n t e=>simp only[Dv.rn,yq]at h;obtain⟨c,_,rfl⟩:=h;rfl
 |elem x=>simp only[Dv.rn,yj]at h;subst h;rfl
 |an=>simp only[Dv.rn,yj]at h;subst h;rfl
 |_=>simp only[Dv.rn,yq]at h;obtain⟨c,_,rfl⟩:=h;rfl
theorem xR{f:Nat->yO Nat}{e c:ar}{o:Nat}(h:e.rn f=ab c):c.bg o↔e.bg o:=by
 cases e with
 |var d st=>
  simp only[ar.rn,yq]at h;obtain⟨g,_,rfl⟩:=h
  exact Iff.rfl
 |log s t j=>simp only[ar.rn,yj]at h;subst h;exact Iff.rfl
 |map t aN=>simp only[ar.rn,yj]at h;subst h;exact Iff.rfl
 |maps v t u aN=>simp only[ar.rn,yj]at h;subst h;exact Iff.rfl
 |bA v aN=>simp only[ar.rn,yj]at h;subst h;exact Iff.rfl
 |row v s st e d=>
  simp only[ar.rn,yq]at h;obtain⟨g,h,rfl⟩:=h
  simp only[ar.bg,NW h]
 |gone=>simp only[ar.rn,yj]at h;subst h;exact Iff.rfl
theorem xS{f:Nat->yO Nat}{e c:ar}(h:e.rn f=ab c):c.eD=e.eD:=by
 cases e <;> simp only[ar.rn,yj,yq]at h <;> first|(subst h;rfl)|(obtain⟨g,_,rfl⟩:=h;rfl)
theorem xU{f:Nat->yO Nat}{J J':Sg}(h:Rn f J J'):∀(l:yL (Pl×Pl))(es:yL MapEntry),fe J l es->fe J' l es
 |[],[],k=>k
 |[],_::_,k=>k.elim
 |_::_,[],k=>k.elim
 |q::r,e::es,k=>⟨kf h rfl k.1,kf h rfl k.2.1,xU h r es k.2.2⟩
theorem NX{f:Nat->yO Nat}{J J':Sg}(h:Rn f J J'){b:Nat}(hx:∀c,J.X b c->J'.X b c):∀(l:yL (Pl×yL (Pl×Pl)))(es:yL MapEntry),fR J b l es->fR J' b l es
 |[],[],k=>k
 |[],_::_,k=>k.elim
 |_::_,[],k=>k.elim
 |q::r,e::es,k=>by
  obtain⟨m,⟨c,s,t,j,g,x,⟨y,p,z,A⟩,E⟩,F⟩:=k;exact⟨kf h rfl m,⟨c,s,hx c t,j,g,by rw[h.w];exact x,⟨y,p,z,xU h _ _ A⟩,E⟩,NX h hx r es F⟩
theorem xV{f:Nat->yO Nat}{J J':Sg}(h:Rn f J J'){a:yO Nat}{e S:ar}(he:e.rn f=ab S)(hx:∀b c,a=ab b->J.X b c->J'.X b c)(hok:cW J a e):cW J' a S:=by
 cases e with
 |var d st=>
  simp only[ar.rn,yq]at he;obtain⟨I,E,rfl⟩:=he;obtain⟨b,T,t,rfl,j,x,y⟩:=hok;have hs:=(kb d I E).1
  exact⟨b,T,t,rfl,by rw[h.w];exact j,by rw[hs];exact kc h d I _ E x,by rw[hs];exact y⟩
 |log s t U=>
  simp only[ar.rn,yj]at he;subst he;rcases hok with⟨rfl,j⟩|⟨b,z,A,rfl,j,x,y,F,G,W⟩
  .exact .inl ⟨rfl,j⟩
  .exact .inr ⟨b,z,A,rfl,by rw[h.w];exact j,x,y,F,G,ax h.cells U _ W⟩
 |map t aN=>
  simp only[ar.rn,yj]at he;subst he;obtain⟨b,m,g,rfl,j,x,y⟩:=hok;refine⟨b,m,g,rfl,by rw[h.w];exact j, ?_,y⟩
  have M:∀(l:yL (Pl×Pl))(m:yL MapEntry),fe J l m->fe J' l m:=by
   intro l
   induction l with
   |nil=>intro m k;cases m <;> exact k
   |cons q r Y=>
    intro m k
    cases m with
    |nil=>exact k
    |cons e m=>exact⟨kf h rfl k.1,kf h rfl k.2.1,Y m k.2.2⟩
  obtain⟨Z,p,Q,x⟩:=x
  exact⟨Z,p,Q,M _ _ x⟩
 |row v s st e d=>
  simp only[ar.rn,yq]at he;obtain⟨I,E,rfl⟩:=he;obtain⟨N,h0,j⟩:=hok;refine⟨N,by rw[NW E];exact h0, ?_⟩;rcases j with j|⟨b,z,A,rfl,j,x,y,F,G⟩
  .exact .inl j
  .exact .inr ⟨b,z,A,rfl,by rw[h.w];exact j,x,y,F,kc h d I _ E G⟩
 |maps v t u aN=>
  simp only[ar.rn,yj]at he;subst he;obtain⟨b,m,g,rfl,j,⟨l,x,y,F⟩,G⟩:=hok
  exact⟨b,m,g,rfl,by rw[h.w];exact j,⟨l,x,y,NX h (hx b · rfl) _ _ F⟩,G⟩
 |bA v aN=>
  simp only[ar.rn,yj]at he;subst he;rcases hok with hok|⟨b,m,g,rfl,j,⟨l,p,Q,x⟩,y⟩
  .exact .inl hok
  .exact .inr ⟨b,m,g,rfl,by rw[h.w];exact j,⟨l,p,Q,xU h _ _ x⟩,y⟩
 |gone=>simp only[ar.rn,yj]at he;subst he;trivial
section
variable{P:yg}{o:Oper}{a:Act}{J:Sg}{ts:yL Dv}
def callee(J:Sg)(ids:yL Nat)(Hin:yL ar):Sg:=
 { F:=J.aV,B:=λb=>J.w.heap.size<=b\/(∃j:Nat,(ids.map λid=>(J.m[id]?).getD ad)[j]? =ab (ab b))\/∃e:Nat,J.X e b/\∃j:Nat,(ids.map λid=>(J.m[id]?).getD ad)[j]? =ab (ab e),
   m:=ids.map λid=>(J.m[id]?).getD ad,H:=Hin,w:=J.w,X:=λb c=>J.X b c/\∃j:Nat,(ids.map λid=>(J.m[id]?).getD ad)[j]? =ab (ab b)}
theorem xW{ids:yL Nat}{Hin:yL ar}{j id:Nat}{x:yO Nat}(h:ids[j]? =ab id)(hm:J.m[id]? =ab x):(callee J ids Hin).m[j]? =ab x:=by
 show(ids.map λid=>(J.m[id]?).getD ad)[j]? =ab x;rw[yah,h];simp[hm]
theorem YN{ids:yL Nat}{Hin:yL ar}{j b:Nat}(h:(callee J ids Hin).m[j]? =ab (ab b)):∃id,ids[j]? =ab id/\J.m[id]? =ab (ab b):=by
 have e:(ids.map λid=>(J.m[id]?).getD ad)[j]? =ab (ab b):=h;rw[yah]at e;obtain⟨id,g,c⟩:=yq.1 e;refine⟨id,g, ?_⟩
 cases f:J.m[id]? with
 |none=>rw[f]at c;cases c
 |some x=>rw[f]at c;simp at c;rw[c]
theorem xX(ok:Ok J){ids:yL Nat}{Hin:yL ar}(ho:once ids=ae)(hin:aH J.H ids ids=ab Hin):Rn (aR ids) J (callee J ids Hin) where
 w:=rfl
 aV b o v _ h:=by
  refine⟨.inl h,λj e hj he=> ?_⟩;obtain⟨id,h1,h2⟩:=YN hj;obtain⟨e0,e',h3,h4,h5⟩:=VD hin h1;have he':Hin[j]? =ab e:=he;rw[h4]at he';cases he';exact(xR h5).2 (h.2 id e0 h2 h3)
 m id j hj x hx:=xW (bL hj) hx
 H id j hj e he:=by
   obtain⟨e0,e',h3,h4,h5⟩:=VD hin (bL hj);rw[he]at h3;cases h3;exact⟨e',h4,h5⟩
theorem ZE1(ok:Ok J){ids:yL Nat}{Hin:yL ar}(ho:once ids=ae)(hin:aH J.H ids ids=ab Hin):Ok (callee J ids Hin) where
 len:=by
  show(ids.map _).length=Hin.length;rw[yx,QV hin]
 inj i j b hi hj:=by
  obtain⟨x,h1,h2⟩:=YN hi;obtain⟨y,h3,h4⟩:=YN hj;have:=ok.inj x y b h2 h4;subst this;exact pU ho i j x h1 h3
 lt i b hi:=by
  obtain⟨x,h1,h2⟩:=YN hi;exact ok.lt x b h2
 cA i e x he hx:=by
  have he':Hin[i]? =ab e:=he;have hi:i < ids.length:=by rw[<-QV hin];exact(yp.1 he').1
  obtain⟨e0,e',h3,h4,h5⟩:=VD hin (yae hi);rw[he']at h4;cases h4
  have hm:∃y,J.m[ids[i]]? =ab y:=by
   have:ids[i] < J.m.length:=by rw[ok.len];exact(yp.1 h3).1
   exact⟨_,yae this⟩
  obtain⟨y,hy⟩:=hm;have:=xW (Hin:=Hin) (yae hi) hy;rw[hx]at this;cases this;exact xV (xX ok ho hin) h5 (λb c hb h=>⟨h,i,by rw[<-hb];exact hx⟩) (ok.cA _ _ _ h3 hy)
 new b hb:=.inl hb
 own i b hi:=.inr (.inl ⟨i,hi⟩)
 cQ b c h:=by
  obtain⟨h,j,hj⟩:=h;obtain⟨h1,h2,h3,i,e,h4,h5,h6⟩:=ok.cQ b c h;obtain⟨id,k1,k2⟩:=YN (J:=J) (Hin:=Hin) hj;have:=ok.inj i id b h4 k2;subst this;obtain⟨e0,e',q3,q4,q5⟩:=VD hin k1;rw[h5]at q3;cases q3;refine⟨h1,.inr (.inr ⟨b,h,j,hj⟩),λq hq=> ?_,j,e',hj,q4,by rw[xS q5];exact h6⟩;obtain⟨x,_,hx⟩:=YN hq;exact h3 x hx
 one b b' c h h':=ok.one b b' c h.1 h'.1
end
end Go.Ev
end
section
namespace Go.Ev
section
variable{P:yg}{o:Oper}{a:Act}{J:Sg}{ts:yL Dv}
def jv(J:Sg)(ids:yL Nat)(Hb:yL ar)(τ:Sg):Sg:=
 { F:=J.F,B:=J.B,m:=ao J.m ids τ.m,H:=ao J.H ids Hb,w:=τ.w,X:=λb c=>(J.X b c/\¬∃j:Nat,(ids.map λid=>(J.m[id]?).getD ad)[j]? =ab (ab b))\/τ.X b c}
theorem NY(ok:Ok J){ids:yL Nat}{Hin Hb:yL ar}{τ:Sg}(ho:once ids=ae)(hin:aH J.H ids ids=ab Hin)(to:To (callee J ids Hin) τ)(okτ:Ok τ)(hle:ids.length<=τ.H.length)
 (hb:ar.bi (aM ids J.H.length) τ.H=ab Hb):
 To J (jv J ids Hb τ)/\Ok (jv J ids Hb τ)/\Rn (aM ids J.H.length) τ (jv J ids Hb τ):=by
 have hbl:Hb.length=τ.H.length:=NV hb;have hml:τ.m.length=τ.H.length:=okτ.len
 have hidl:∀i,i∈ids->i < J.H.length:=by
  intro i G;obtain⟨j,z,rfl⟩:=ycn G;obtain⟨e0,_,h3,_⟩:=VD hin (yae z);exact(yp.1 h3).1
 have hidm:∀i,i∈ids->i < J.m.length:=λi G=>by rw[ok.len];exact hidl i G
 have mo:∀id,id < J.H.length->id ∉ ids->(ao J.m ids τ.m)[id]? =J.m[id]? :=λid h1 g=>Qy _ _ _ _ (by omega) (by rw[ok.len];exact h1) g;have Ho:∀id,id < J.H.length->id ∉ ids->(ao J.H ids Hb)[id]? =J.H[id]? :=λid h1 g=>Qy _ _ _ _ (by omega) h1 g;have ma:∀(j id:Nat),ids[j]? =ab id->(ao J.m ids τ.m)[id]? =τ.m[j]? :=λj id h=>pV _ _ _ _ _ ho (by omega) hidm h;have Ha:∀(j id:Nat),ids[j]? =ab id->(ao J.H ids Hb)[id]? =Hb[j]? :=λj id h=>pV _ _ _ _ _ ho (by omega) hidl h;have mn:∀j,ids.length<=j->(ao J.m ids τ.m)[J.H.length+(j - ids.length)]? =τ.m[j]? :=λj h=>by rw[<-ok.len];exact tC _ _ _ _ (by omega) h
 have Hn:∀j,ids.length<=j->(ao J.H ids Hb)[J.H.length+(j - ids.length)]? =Hb[j]? :=λj h=>tC _ _ _ _ (by omega) h
 have three:∀id,id < J.H.length+(τ.H.length - ids.length)->(id < J.H.length/\id ∉ ids)\/(∃j:Nat,ids[j]? =ab id)\/(∃j:Nat,ids.length<=j/\id=J.H.length+(j - ids.length)):=by
  intro id h;by_cases h1:id < J.H.length
  .by_cases g:id∈ids
   .obtain⟨j,z,rfl⟩:=ycn g;exact .inr (.inl ⟨j,yae z⟩)
   .exact .inl ⟨h1,g⟩
  .exact .inr (.inr ⟨ids.length+(id - J.H.length),by omega,by omega⟩)
 have mlen:(ao J.m ids τ.m).length=J.H.length+(τ.H.length - ids.length):=by rw[tB _ _ _ (by omega),ok.len,hml]
 have f:∀(j id:Nat),ids[j]? =ab id->aM ids J.H.length j=ab id:=λj id h=>by
  have z:j < ids.length:=(yp.1 h).1;unfold aM;rw[yW z,h]
 have fromNew:∀j,ids.length<=j->aM ids J.H.length j=ab (J.H.length+(j - ids.length)):=λj h=>by
  unfold aM;rw[yX (by omega)]
 have back:∀(id b:Nat),(ao J.m ids τ.m)[id]? =ab (ab b)->(id < J.H.length/\id ∉ ids/\J.m[id]? =ab (ab b))\/(∃j:Nat,aM ids J.H.length j=ab id/\τ.m[j]? =ab (ab b)/\(ao J.H ids Hb)[id]? =Hb[j]?):=by
  intro id b h;have y:id < J.H.length+(τ.H.length - ids.length):=by rw[<-mlen];exact(yp.1 h).1
  rcases three id y with⟨h1,g⟩|⟨j,h1⟩|⟨j,h1,rfl⟩
  .exact .inl ⟨h1,g,by rw[<-mo id h1 g];exact h⟩
  .exact .inr ⟨j,f j id h1,by rw[<-ma j id h1];exact h,Ha j id h1⟩
  .exact .inr ⟨j,fromNew j h1,by rw[<-mn j h1];exact h,Hn j h1⟩
 have keep:∀(id b:Nat),id ∉ ids->J.m[id]? =ab (ab b)->τ.w.heap[b]? =J.w.heap[b]? :=λid b h1 g=>
  to.block b (ok.lt id b g) (λj z=>by
    obtain⟨M,h3,h4⟩:=YN z;have:=ok.inj id M b g h4;subst this;exact h1 (ybq h3)) (λc hc=>(ok.cQ c b hc.1).2.2.1 id g)
 have keepX:∀(b c:Nat),J.X b c->(¬∃j:Nat,(ids.map λid=>(J.m[id]?).getD ad)[j]? =ab (ab b))->τ.w.heap[c]? =J.w.heap[c]? :=λb c h1 g=>
  to.block c (ok.cQ b c h1).1 (λj z=>by
    obtain⟨M,_,h4⟩:=YN z;exact(ok.cQ b c h1).2.2.1 M h4) (λb' hc=>by
    have:=ok.one b b' c h1 hc.1;subst this;exact g hc.2)
 have Q:∀(j b:Nat),τ.m[j]? =ab (ab b)->(∃id,ids[j]? =ab id/\J.m[id]? =ab (ab b))\/J.w.heap.size<=b:=by
  intro j b h;rcases to.same j b h with h1|h1
  .exact .inl (YN h1)
  .exact .inr h1
 have stabτ:∀b o v,τ.w.cell? ⟨b,o,ad⟩=ab v->τ.aV b o->(jv J ids Hb τ).aV b o:=by
  intro b o v hcell h;have hB:τ.B=(callee J ids Hin).B:=to.B;have hF:τ.F=(callee J ids Hin).F:=to.F
  have hfirst:J.aV b o\/J.B b:=by
   rcases h.1 with h1|h1
   .rw[hF]at h1;exact .inl h1
   .rw[hB]at h1;rcases h1 with h1|⟨j,z⟩|⟨W,h1,_⟩
    .exact .inr (ok.new b h1)
    .obtain⟨id,_,h3⟩:=YN (J:=J) (Hin:=Hin) z;exact .inr (ok.own id b h3)
    .exact .inr (ok.cQ W b h1).2.1
  refine⟨?_,λid e hid he=> ?_⟩
  .rcases hfirst with h1|h1
   .exact h1.1
   .exact .inr h1
  .have hid':(ao J.m ids τ.m)[id]? =ab (ab b):=hid;have T:(ao J.H ids Hb)[id]? =ab e:=he;rcases back id b hid' with⟨h1,g,h3⟩|⟨j,h1,g,h3⟩
   .rw[Ho id h1 g]at T;have hbs:=ok.lt id b h3;rcases h.1 with h4|h4
    .rw[hF]at h4;exact h4.2 id e h3 T
    .rw[hB]at h4;rcases h4 with h4|⟨j,z⟩|⟨W,h4,_⟩
     .omega
     .obtain⟨M,I,U⟩:=YN (J:=J) (Hin:=Hin) z;have:=ok.inj id M b h3 U;subst this;exact absurd (ybq I) g
     .exact absurd h3 ((ok.cQ W b h4).2.2.1 id)
   .rw[h3]at T;have z:j < τ.H.length:=by rw[<-hbl];exact(yp.1 T).1
    obtain⟨e',h4,I⟩:=pW hb (yae z);rw[T]at h4;cases h4;exact(xR I).2 (h.2 j _ g (yae z))
 have rn:Rn (aM ids J.H.length) τ (jv J ids Hb τ):=by
  refine⟨rfl,λb o v h1 g=>stabτ b o v h1 g,λj id z x Y=> ?_,λj id z e he=> ?_⟩
  .show(ao J.m ids τ.m)[id]? =ab x;unfold aM at z;split at z
   .rw[ma j id z];exact Y
   .cases z;rw[mn j (by omega)];exact Y
  .obtain⟨e',h4,I⟩:=pW hb he;refine⟨e', ?_,I⟩;show(ao J.H ids Hb)[id]? =ab e';unfold aM at z;split at z
   .rw[Ha j id z];exact h4
   .cases z;rw[Hn j (by omega)];exact h4
 have S:=xX ok ho hin
 have leaf:bO J (jv J ids Hb τ):=by
  refine⟨λb o v h1 g=> ?_,λid b h1 g=> ?_,λid s len A c h1=> ?_,λid b h1 g=> ?_,λid v s st e d h1=> ?_,λid v t u l h1=> ?_,λid v l h1=> ?_⟩
  .obtain⟨h3,h4⟩:=to.leaf.cells b o v h1 (S.aV b o v h1 g);exact⟨h3,stabτ b o v h3 h4⟩
  .have y:id < J.H.length:=by rw[<-ok.len];exact(yp.1 h1).1
   by_cases G:id∈ids
   .obtain⟨j,z,rfl⟩:=ycn G;have E:=yae z;have h3:aR ids ids[j]=ab j:=bJ ho E;obtain⟨h4,I⟩:=to.leaf.var j b (S.m _ _ h3 _ h1) (S.var h3 g);exact⟨rn.m _ _ (f j _ E) _ h4,rn.var (f j _ E) I⟩
   .exact⟨(mo id y G).trans h1,by
     obtain⟨d,st,g⟩:=g;exact⟨d,st,(Ho id y G).trans g⟩⟩
  .have h1':=h1;obtain⟨e,ys,g,h3,h4⟩:=h1;have y:id < J.H.length:=(yp.1 g).1;by_cases G:id∈ids
   .obtain⟨j,z,rfl⟩:=ycn G;have E:=yae z;have I:aR ids ids[j]=ab j:=bJ ho E;exact rn.front (f j _ E) (to.leaf.front _ _ _ _ _ (S.front I h1'))
   .refine⟨e,ys,(Ho id y G).trans g,h3,λhl=> ?_⟩;rcases h4 hl with⟨I,U⟩|⟨b,cur,I,U,h7,h8⟩
    .exact .inl ⟨(mo id y G).trans I,U⟩
    .exact .inr ⟨b,cur,(mo id y G).trans I,U,(keep id b G I).trans h7,h8⟩
  .have y:id < J.H.length:=by rw[<-ok.len];exact(yp.1 h1).1
   by_cases G:id∈ids
   .obtain⟨j,z,rfl⟩:=ycn G;have E:=yae z;have h3:aR ids ids[j]=ab j:=bJ ho E;obtain⟨h4,I⟩:=to.leaf.map j b (S.m _ _ h3 _ h1) (S.map h3 g);exact⟨rn.m _ _ (f j _ E) _ h4,rn.map (f j _ E) I⟩
   .exact⟨(mo id y G).trans h1,by
     obtain⟨d,st,g⟩:=g;exact⟨d,st,(Ho id y G).trans g⟩⟩
  .have y:id < J.H.length:=(yp.1 h1).1;by_cases G:id∈ids
   .obtain⟨j,z,rfl⟩:=ycn G;have E:=yae z;have h3:aR ids ids[j]=ab j:=bJ ho E;obtain⟨d1,h4⟩:=S.row h3 h1;obtain⟨v',st',d',I,U,h7⟩:=to.leaf.row _ _ _ _ _ _ h4;obtain⟨d2,h8⟩:=rn.row (f j _ E) I;refine⟨v',st',d2,h8,U,λhv=> ?_⟩;obtain⟨h9,h10⟩:=h7 hv;have hmm:∃x,J.m[ids[j]]? =ab x:=⟨_,yae (by rw[ok.len];exact y)⟩;obtain⟨x,Y⟩:=hmm;have Z:=S.m _ _ h3 _ Y;refine⟨by rw[Y];exact rn.m _ _ (f j _ E) _ (by rw[h9];exact Z),λb cur hb hc=> ?_⟩;rw[Y]at hb;cases hb;exact h10 b cur Z hc
   .exact⟨v,st,d,(Ho id y G).trans h1,ym _,λ_=>⟨mo id y G,λb cur hb hc=>⟨cur,(keep id b G hb).trans hc,rfl⟩⟩⟩
  .have y:id < J.H.length:=(yp.1 h1).1;by_cases G:id∈ids
   .obtain⟨j,z,rfl⟩:=ycn G;have E:=yae z;have h3:aR ids ids[j]=ab j:=bJ ho E;have h4:=S.maps h3 h1;obtain⟨v',l',I,U,h7,h8⟩:=to.leaf.maps _ _ _ _ _ h4;have hmm:∃x,J.m[ids[j]]? =ab x:=⟨_,yae (by rw[ok.len];exact y)⟩;obtain⟨x,Y⟩:=hmm;have Z:=S.m _ _ h3 _ Y;refine⟨v',l',rn.maps (f j _ E) I,U,by rw[Y];exact rn.m _ _ (f j _ E) _ (by rw[h7];exact Z),λhv=> ?_⟩;obtain⟨h9,h10⟩:=h8 hv;refine⟨h9,λb es clock hb hc=> ?_⟩;rw[Y]at hb;cases hb;exact h10 b es clock Z hc
   .exact⟨v,l,(Ho id y G).trans h1,ym _,mo id y G,λ_=>⟨rfl,λb es clock hb hc=>(keep id b G hb).trans hc⟩⟩
  .have y:id < J.H.length:=(yp.1 h1).1;by_cases G:id∈ids
   .obtain⟨j,z,rfl⟩:=ycn G;have E:=yae z;have h3:aR ids ids[j]=ab j:=bJ ho E;obtain⟨v',l',I,U,h7⟩:=to.leaf.bA _ _ _ (S.bA h3 h1);have hmm:∃x,J.m[ids[j]]? =ab x:=⟨_,yae (by rw[ok.len];exact y)⟩;obtain⟨x,Y⟩:=hmm;have Z:=S.m _ _ h3 _ Y;exact⟨v',l',rn.bA (f j _ E) I,U,λhv=>by rw[Y];exact rn.m _ _ (f j _ E) _ (by rw[h7 hv];exact Z)⟩
   .exact⟨v,l,(Ho id y G).trans h1,ym _,λ_=>mo id y G⟩
 have xsτ:∀b c,τ.X b c->(∃W,J.X W c/\∃j:Nat,(ids.map λid=>(J.m[id]?).getD ad)[j]? =ab (ab W))\/(∃i id,ids[i]? =ab id/\J.m[id]? =ab (ab c))\/J.w.heap.size<=c:=λb c h=>by
  rcases to.xs b c h with⟨W,h1⟩|⟨i,h1⟩|h1
  .exact .inl ⟨W,h1⟩
  .obtain⟨id,g,h3⟩:=YN (J:=J) (Hin:=Hin) h1;exact .inr (.inl ⟨i,id,g,h3⟩)
  .exact .inr (.inr h1)
 refine⟨⟨leaf,rfl,rfl,to.os,to.tape,to.output,to.size,λb hb hn hX=>to.block b hb (λj z=> ?_) (λc hc=>hX c hc.1),λid b h=> ?_, ?_,λb c h=> ?_⟩,⟨?_, ?_, ?_, ?_,λb h=>ok.new b (Nat.le_trans to.size h), ?_,λb c h=> ?_,λb b' c h h'=> ?_⟩,rn⟩
 .obtain⟨id,_,h3⟩:=YN (J:=J) (Hin:=Hin) z;exact hn id h3
 .rcases back id b h with⟨_,_,h3⟩|⟨j,h1,g,_⟩
  .exact .inl h3
  .rcases Q j b g with⟨M,h3,h4⟩|h3
   .have:=f j M h3;rw[h1]at this;cases this;exact .inl h4
   .exact .inr h3
 .show J.m.length<=(ao J.m ids τ.m).length;rw[mlen,ok.len];omega
 .rcases h with⟨h,_⟩|h
  .exact .inl ⟨b,h⟩
  .rcases xsτ b c h with⟨W,h1,_⟩|⟨i,id,_,h1⟩|h1
   .exact .inl ⟨W,h1⟩
   .exact .inr (.inl ⟨id,h1⟩)
   .exact .inr (.inr h1)
 .show(ao J.m ids τ.m).length=(ao J.H ids Hb).length;rw[mlen,tB _ _ _ (by omega),hbl]
 .intro i j b G z;rcases back i b G with⟨h1,g,h3⟩|⟨k,h1,g,_⟩ <;> rcases back j b z with⟨h4,I,U⟩|⟨l,h4,I,_⟩
  .exact ok.inj i j b h3 U
  .have hbs:=ok.lt i b h3;rcases Q l b I with⟨M,h7,h8⟩|h7
   .have:=ok.inj i M b h3 h8;subst this;exact absurd (ybq h7) g
   .omega
  .have hbs:=ok.lt j b U;rcases Q k b g with⟨M,h7,h8⟩|h7
   .have:=ok.inj j M b U h8;subst this;exact absurd (ybq h7) I
   .omega
  .have:=okτ.inj k l b g I;subst this;rw[h1]at h4;exact ybp h4
 .intro i b G;rcases back i b G with⟨_,_,h3⟩|⟨k,_,g,_⟩
  .exact Nat.lt_of_lt_of_le (ok.lt i b h3) to.size
  .exact okτ.lt k b g
 .intro i e x he Y;have T:(ao J.H ids Hb)[i]? =ab e:=he;have hx':(ao J.m ids τ.m)[i]? =ab x:=Y;have y:i < J.H.length+(τ.H.length - ids.length):=by rw[<-mlen];exact(yp.1 hx').1
  have viaτ:∀j,aM ids J.H.length j=ab i->τ.m[j]? =ab x->Hb[j]? =ab e->cW (jv J ids Hb τ) x e:=by
   intro j _ g h3;have z:j < τ.H.length:=by rw[<-hbl];exact(yp.1 h3).1
   obtain⟨e',h4,I⟩:=pW hb (yae z);rw[h3]at h4;cases h4;exact xV rn I (λb c _ h=>.inr h) (okτ.cA j _ x (yae z) g)
  rcases three i y with⟨h1,g⟩|⟨j,h1⟩|⟨j,h1,rfl⟩
  .rw[Ho i h1 g]at T;rw[mo i h1 g]at hx';refine V6 leaf (λb hb'=>keep i b g (by rw[hx',hb'])) (λb c hb' hbc=> ?_) (ok.cA i e x T hx')
   have hun:¬∃j:Nat,(ids.map λid=>(J.m[id]?).getD ad)[j]? =ab (ab b):=by
    rintro⟨j,z⟩;obtain⟨M,h3,h4⟩:=YN (J:=J) (Hin:=Hin) z;have:=ok.inj i M b (by rw[hx',hb']) h4;subst this;exact g (ybq h3)
   exact⟨.inl ⟨hbc,hun⟩,keepX b c hbc hun⟩
  .exact viaτ j (f j i h1) (by rw[<-ma j i h1];exact hx') (by rw[<-Ha j i h1];exact T)
  .exact viaτ j (fromNew j h1) (by rw[<-mn j h1];exact hx') (by rw[<-Hn j h1];exact T)
 .intro i b G;rcases back i b G with⟨_,_,h3⟩|⟨k,_,g,_⟩
  .exact ok.own i b h3
  .rcases Q k b g with⟨M,_,h8⟩|h7
   .exact ok.own M b h8
   .exact ok.new b h7
 .rcases h with⟨h,hun⟩|h
  .obtain⟨h1,g,h3,i,e,h4,I,U⟩:=ok.cQ b c h;have y:i < J.H.length:=(yp.1 I).1
   have hni:i ∉ ids:=λG=>by
    obtain⟨j,z,rfl⟩:=ycn G;exact hun ⟨j,xW (Hin:=Hin) (yae z) h4⟩
   refine⟨Nat.lt_of_lt_of_le h1 to.size,g,λq hq=> ?_,i,e,(mo i y hni).trans h4,(Ho i y hni).trans I,U⟩;rcases back q c hq with⟨_,_,h7⟩|⟨k,_,h7,_⟩
   .exact h3 q h7
   .rcases Q k c h7 with⟨M,_,h8⟩|h8
    .exact h3 M h8
    .omega
  .obtain⟨h1,g,h3,j,e,h4,I,U⟩:=okτ.cQ b c h;have z:j < τ.H.length:=(yp.1 I).1;obtain⟨e',q4,q5⟩:=pW hb I
   obtain⟨i,G⟩:∃i,aM ids J.H.length j=ab i:=by
    by_cases hjl:j < ids.length
    .exact⟨_,f j _ (yae hjl)⟩
    .exact⟨_,fromNew j (by omega)⟩
   refine⟨h1, ?_,λq hq=> ?_,i,e',rn.m _ _ G _ h4, ?_,by rw[xS q5];exact U⟩
   .rcases xsτ b c h with⟨W,h7,_⟩|⟨_,id,_,h7⟩|h7
    .exact(ok.cQ W c h7).2.1
    .exact ok.own id c h7
    .exact ok.new c h7
   .rcases back q c hq with⟨q1,q2,q3⟩|⟨k,_,q3,_⟩
    .rcases xsτ b c h with⟨W,h7,_⟩|⟨_,id,h8,h7⟩|h7
     .exact(ok.cQ W c h7).2.2.1 q q3
     .have:=ok.inj q id c q3 h7;subst this;exact q2 (ybq h8)
     .have:=ok.lt q c q3;omega
    .exact h3 k q3
   .obtain⟨e2,r1,r2⟩:=rn.H _ _ G _ I;rw[q5]at r2;cases r2;exact r1
 .have cross:∀b b',J.X b c->(¬∃j:Nat,(ids.map λid=>(J.m[id]?).getD ad)[j]? =ab (ab b))->τ.X b' c->b=b':=λb b' h1 g h3=>by
   rcases xsτ b' c h3 with⟨W,h4,I⟩|⟨_,id,_,h4⟩|h4
   .have:=ok.one b W c h1 h4;subst this;exact absurd I g
   .exact absurd h4 ((ok.cQ b c h1).2.2.1 id)
   .have:=(ok.cQ b c h1).1;omega
  rcases h with⟨h,h1⟩|h <;> rcases h' with⟨h',g⟩|h'
  .exact ok.one b b' c h h'
  .exact cross b b' h h1 h'
  .exact(cross b' b h' g h).symm
  .exact okτ.one b b' c h h'
theorem lb{args:yL yo}{c:yL yb}(e:ay J ts a)(ids:yL Nat)(hl:args.length=c.length):aB J ((args.zip c).map λq=>(Zo P ts q.2 q.1).bI ids) (args.map a.eval):=by
 induction args generalizing c with
 |nil=>simp[aB]
 |cons x args f=>
  cases c with
  |nil=>simp at hl
  |cons t c=>
   simp only[List.zip_cons_cons,yaf,aB];exact⟨_,_,rfl,xy ids (Zh e t x),f (by simpa using hl)⟩
theorem ZGB{cap:yL Dv}{cs:yL yh}(h:aB J cap cs):aB J (cap.map Dv.arg) cs:=by
 induction cap generalizing cs with
 |nil=>simpa using h
 |cons d cap e=>
  simp only[aB]at h;obtain⟨v,c,rfl,f,g⟩:=h;simp only[yaf,aB];exact⟨v,c,rfl,ZJG f,e g⟩
theorem mB{cap:yL Dv}{cs:yL yh}(ids:yL Nat)(h:aB J cap cs):aB J (cap.map (Dv.bI ids)) cs:=by
 induction cap generalizing cs with
 |nil=>simpa using h
 |cons d cap e=>
  simp only[aB]at h;obtain⟨v,c,rfl,f,g⟩:=h;simp only[yaf,aB];exact⟨v,c,rfl,xy ids f,e g⟩
theorem xY{c:Call}{f:yo}{g:yr}{h cs:Array yh}(w:yad)(ho:o.op=.call c)(hc:c.callee=.value f)(j:a.eval f=.func (.func g) h cs)(hb:gp P g=ae):
 (execOp a.eval o).run P w=.ok (.enter g (h++c.args.map a.eval++cs)) w:=by
 unfold gp at hb;split at hb
 .rename_i fn e;simp only[yi,Bool.not_eq_true']at hb;have l:¬fn.name= "runtime.NumGoroutine" :=by simpa using hb.2
  have m:fn.body.isNone=af:=by cases s:fn.body <;> simp[s]at hb ⊢
  simp only[execOp,ho,resolve,hc,j,Deferred.ofValue,Sem.run_bind,Sem.run_pure,Result.andThen_ok,invoke,callFunc,run_program,e];simp[l,m]
 .cases hb
theorem ZGC{fn:Func}(h:fn.name= "internal/bytealg.Compare"):Extern.find fn=ab Extern.BytealgCompare.compare:=by
 have c:Extern.allGenericRows.lookup "internal/bytealg.Compare" =ad:=by kernel_rfl
 have e:Extern.allTypedRows.lookup "internal/bytealg.Compare" =ad:=by kernel_rfl
 have f:Extern.allRows.lookup "internal/bytealg.Compare" =ab Extern.BytealgCompare.compare:=by kernel_rfl
 unfold Extern.find;dsimp only;rw[h,c,e,f];rfl
theorem ZGD{c:Call}{f:yo}{g:yr}{cs:Array yh}{v:yh}(w:yad)(ho:o.op=.call c)(hc:c.callee=.value f)(j:a.eval f=.func (.func g) #[] cs)(hb:lW P g=ae)
 (l:(Extern.BytealgCompare.compare (c.args.map a.eval++cs)).run P w=.ok v w):(execOp a.eval o).run P w=.ok (.value v) w:=by
 unfold lW at hb;rw[yi]at hb
 replace hb:=hb.2
 split at hb
 .rename_i fn h;simp only[yi,yT,Option.isNone_iff_eq_none]at hb;have e:=run_callFunc_extern (P:=P) h (by rw[hb.1.1];rfl) (by rw[hb.1.2];rfl) hb.2 (ZGC hb.1.1) (c.args.map a.eval++cs) w;rw[l]at e;simp only[execOp,ho,resolve,hc,j,Deferred.ofValue,Sem.run_bind,Sem.run_pure,Result.andThen_ok,invoke];rw[Array.empty_append];exact e
 .cases hb
theorem ZBM{g:yr}(w:yad)(args:Array yh)(hb:gp P g=ae):(callFunc g args).run P w=.ok (.enter g args) w:=by
 unfold gp at hb;split at hb
 .rename_i fn c;simp only[yi,Bool.not_eq_true']at hb;have e:¬fn.name= "runtime.NumGoroutine" :=by simpa using hb.2
  have f:fn.body.isNone=af:=by cases h:fn.body <;> simp[h]at hb ⊢
  simp only[callFunc,Sem.run_bind,run_program,Result.andThen_ok,c];simp[e,f]
 .cases hb
theorem xZ(ok:Ok J){g:yr}{y f:yL Dv}{z:Array yh}{ids:yL Nat}{Hin H' Hb:yL ar}{r r':Dv}(hx:(execOp a.eval o).run P J.w=.ok (.enter g z) J.w)(l:aB J y z.toList)
 (c:once ids=ae) (m:ids.length<=H'.length) (E:Dv.bi (aR ids) y=ab f)
 (h:aH J.H ids ids=ab Hin) (F:r.rn (aM ids J.H.length)=ab r') (hb:ar.bi (aM ids J.H.length) H'=ab Hb) (j:cF P g f Hin r H'):YH P o a J r' (ao J.H ids Hb):=by
 have A:=j (callee J ids Hin) _ (ZE1 ok c h) rfl (dg (xX ok c h) _ _ _ E l);intro K Q G;unfold Oper.wp;rw[hx];simp only[Oper.upon];rw[yca]at A;refine A.mono ?_;rintro e S ⟨v,τ,rfl,rfl,I,to,s,M⟩;subst I;obtain⟨t,x,rn⟩:=NY ok c h to s m hb;exact G v (jv J ids Hb τ) rfl t x (kf rn F M)
theorem ZJN(m:ay J ts a){c:Call}{f:yo}{g:yr}{cap:yL Dv}(ids:yL Nat)(x:Zo P ts 0 f=.fn g cap)(hsz:c.args.size=c.argTypes.size):
 ∃j cs,a.eval f=.func (.func (dQ g)) j cs/\aB J (ZZ P ids ts c g cap) (j++c.args.map a.eval++cs).toList:=by
 have h:=Zh (P:=P) m 0 f;rw[x]at h;obtain⟨j,cs,s,l,e⟩:=pO h;refine⟨j,cs,s, ?_⟩;unfold ZZ;by_cases t:g < big
 .rw[yW t]at l ⊢;subst l;rw[Array.empty_append]at e ⊢;rw[Array.toList_append,ycx];exact Vi (lb m ids (by simpa using hsz)) (mB ids e)
 .rw[yX t]at l ⊢;subst l;rw[Array.append_empty]at e ⊢;rw[Array.toList_append,ycx];exact Vi (mB ids e) (lb m ids (by simpa using hsz))
theorem NZ(ok:Ok J)(x:ay J ts a){c:Call}{f:yo}{g:yr}{cap e:yL Dv}{ids:yL Nat}{Hin H' Hb:yL ar}{r r':Dv}(ho:o.op=.call c)(G:c.callee=.value f)
 (I:Zo P ts 0 f=.fn g cap) (l:gp P (dQ g)=ae) (hsz:c.args.size=c.argTypes.size) (j:once ids=ae) (y:ids.length<=H'.length) (M:Dv.bi (aR ids) (ZZ P ids ts c g cap)=ab e)
 (z:aH J.H ids ids=ab Hin) (Q:r.rn (aM ids J.H.length)=ab r') (hb:ar.bi (aM ids J.H.length) H'=ab Hb) (m:cF P (dQ g) e Hin r H'):YH P o a J r' (ao J.H ids Hb):=by
 have s:=Zh (P:=P) x 0 f;rw[I]at s;obtain⟨S,T,A,t,h⟩:=pO s
 have E:aB J (ZZ P ids ts c g cap) (S++c.args.map a.eval++T).toList:=by
  unfold ZZ;by_cases F:g < big
  .rw[yW F]at t ⊢;subst t;rw[Array.empty_append]at h ⊢;rw[Array.toList_append,ycx];exact Vi (lb x ids (by simpa using hsz)) (mB ids h)
  .rw[yX F]at t ⊢;subst t;rw[Array.append_empty]at h ⊢;rw[Array.toList_append,ycx];exact Vi (mB ids h) (lb x ids (by simpa using hsz))
 exact xZ ok (xY J.w ho G A l) E j y M z Q hb m
theorem ZwX(ok:Ok J)(I:ay J ts a){c:Call}{f:yo}{j:String}{t:yb}{x:Dv}{g:yr}{h:yL Dv}{ids:yL Nat}{Hin H' Hb:yL ar}{r r':Dv}(ho:o.op=.call c)(M:c.callee=.invoke f j)
 (Q:Zo P ts 0 f=.iface t x) (s:gp P g=ae) (hsz:c.args.size=c.argTypes.size) (l:once ids=ae) (z:ids.length<=H'.length) (S:Dv.bi (aR ids) (x.bI ids::ZZ P ids ts c 0 [])=ab h)
 (A:aH J.H ids ids=ab Hin) (T:r.rn (aM ids J.H.length)=ab r') (hb:ar.bi (aM ids J.H.length) H'=ab Hb) (hm:jk P t j g) (y:cF P g h Hin r H'):YH P o a J r' (ao J.H ids Hb):=by
 have m:=Zh (P:=P) I 0 f;rw[Q,Zg rfl]at m;simp only[yG]at m;obtain⟨v,E,U,W⟩:=m;have E:a.eval f=.iface t v:=by simpa using E
 have F:yH J x v:=⟨U,W⟩
 have G:aB J (x.bI ids::ZZ P ids ts c 0 []) (#[v]++c.args.map a.eval).toList:=by
  rw[Array.toList_append,ycx];show aB J _ (v::c.args.toList.map a.eval);rw[aB];refine⟨v,_,rfl,xy ids F, ?_⟩;unfold ZZ;rw[yW (by decide),List.map_nil,List.append_nil];exact lb I ids (by simpa using hsz)
 have X:(execOp a.eval o).run P J.w=.ok (.enter g (#[v]++c.args.map a.eval)) J.w:=by
  have e:=hm v (c.args.map a.eval) J.w;rw[ZBM J.w _ s]at e;rw[<-e];have Y:(#[Value.iface t v]++c.args.map a.eval)[0]? =ab (.iface t v):=by simp[Array.getElem?_append]
  have Z:(#[Value.iface t v]++c.args.map a.eval).extract 1 (#[Value.iface t v]++c.args.map a.eval).size=c.args.map a.eval:=by
   apply Array.ext';simp;rw[ybs (by simp)]
  simp only[execOp,ho,resolve,M,E,Sem.run_bind,Sem.run_pure,Result.andThen_ok,invoke,Y,Z]
 exact xZ ok X G l z S A T hb y
mutual
theorem yA{w w':yad}{S S':Nat->Nat->Prop}:∀(x:Pl)(vs:yL yh),x.flat=ae->aq w S x vs->aq w' S' x vs
 |.int _ _,_,_,h=>by simpa[aq] using h
 |.bool _,_,_,h=>by simpa[aq] using h
 |.agg e,vs,c,h=>by
  simp only[aq]at h ⊢
  exact dR e vs c h
 |.arr n s e,vs,c,h=>by
  simp only[aq]at h ⊢
  exact⟨h.1,h.2.1,dR e vs c h.2.2⟩
 |.str _,_,c,_=>by cases c
 |.bH,_,c,_=>by cases c
 |.fn0,_,c,_=>by cases c
 |.dy,_,c,_=>by cases c
 |.bR,_,c,_=>by cases c
 |.fQ _,_,c,_=>by cases c
 |.sl _ _ _,_,c,_=>by cases c
 |.iface _ _,_,c,_=>by cases c
theorem dR{w w':yad}{S S':Nat->Nat->Prop}:∀(xs:yL Pl)(vs:yL yh),Pl.aL xs=ae->ak w S xs vs->ak w' S' xs vs
 |[],_,_,h=>by simpa[ak] using h
 |x::xs,vs,e,h=>by
  simp only[Pl.aL,yi]at e;simp only[ak]at h ⊢;obtain⟨f,c,g,j,l⟩:=h;exact⟨f,c,g,yA x f e.1 j,dR xs c e.2 l⟩
end
theorem ZJO{J J':Sg}{x:Pl}{v:yh}(c:x.flat=ae)(h:yH J (.p x) v):yH J' (.p x) v:=by
 obtain⟨f,g⟩:=h;refine⟨λq=> ?_,λq=> ?_⟩
 .obtain⟨j,l,e⟩:=f q;refine⟨j,l, ?_⟩;simp only[yG]at e ⊢;exact yA x _ c e
 .have:=g q;simp only[yG]at this ⊢;exact yA x _ c this
theorem ZJP(ok:Ok J):Ok (gU J) where
 len:=rfl
 inj i j b h:=by simp[gU]at h
 lt i b h:=by simp[gU]at h
 cA i e a h:=by simp[gU]at h
 new b h:=h
 own i b h:=by simp[gU]at h
 cQ b c h:=h.elim
 one b b' c h:=h.elim
theorem ZE2(ok:Ok J)(I:ay J ts a){c:Call}{f:yo}{g:yr}{cap:yL Dv}{Z:yL Pl}{r:Pl}(ho:o.op=.call c)(yS:c.callee=.value f)
 (hf:Zo P ts 0 f=.fn g cap) (y:gp P (dQ g)=ae) (hsz:c.args.size=c.argTypes.size) (x:r.flat=ae) {id:Nat} (hl:jW id (cn (J.H[id]?)) (ZZ P [] ts c g cap) Z)
 (z:cF P (dQ g) (Z.map Dv.p) [] (.p r) []):YH P o a J (.p r) J.H:=by
 have E:=Zh (P:=P) I 0 f;rw[hf]at E;obtain⟨fs,cs,M,G,m⟩:=pO E
 have S:aB J (ZZ P [] ts c g cap) (fs++c.args.map a.eval++cs).toList:=by
  unfold ZZ;by_cases hg:g < big
  .rw[yW hg]at G ⊢;subst G;rw[Array.empty_append]at m ⊢;rw[Array.toList_append,ycx];exact Vi (lb I [] (by simpa using hsz)) (mB [] m)
  .rw[yX hg]at G ⊢;subst G;rw[Array.append_empty]at m ⊢;rw[Array.toList_append,ycx];exact Vi (mB [] m) (lb I [] (by simpa using hsz))
 have hc:=z (gU J) _ (ZJP ok) rfl (hl J _ ok rfl S);intro K Q hK;unfold Oper.wp;rw[xY J.w ho yS M y];simp only[Oper.upon];rw[yca]at hc;refine hc.mono ?_;rintro e w' ⟨v,τ,rfl,rfl,hH,to,okτ,hv⟩
 have T:∀(b o:Nat)(v:yh),J.w.cell? ⟨b,o,ad⟩=ab v->b < J.w.heap.size:=λb o v h=>by
  rcases Nat.lt_or_ge b J.w.heap.size with q|q
  .exact q
  .simp[World.cell?,Array.getElem?_eq_none q]at h
 have U:To (callee J [] []) { callee J [] [] with w:=τ.w}:={
  leaf:=⟨λb o v h1 h2=>⟨(to.leaf.cells b o v h1 ⟨.inl (T b o v h1),λid e q=>by simp[gU]at q⟩).1,h2⟩,
   λid b h=>by simp[callee]at h,λid s len A c h=>by obtain⟨e,ys,h1,_⟩:=h;simp[callee]at h1,λid b h=>by simp[callee]at h,λid v s st e d h=>by simp[callee]at h,λid v t u l h=>(by simp[callee]at h),λid v l h=>(by simp[callee]at h)⟩
  F:=rfl
  B:=rfl
  os:=to.os
  tape:=to.tape
  output:=to.output
  size:=to.size
  block:=λb h _ _=>to.block b h (λid q=>by simp[gU]at q) (λc q=>q.elim)
  same:=λid b h=>by simp[callee]at h
  len:=ym _
  xs:=λb c h=>by
   obtain⟨_,j,h⟩:=h;simp at h}
 have W:Ok { callee J [] [] with w:=τ.w}:={
  len:=rfl
  inj:=λi j b h=>by simp[callee]at h
  lt:=λi b h=>by simp[callee]at h
  cA:=λi e a h=>by simp[callee]at h
  new:=λb h=>.inl (Nat.le_trans to.size h)
  own:=λi b h=>by simp[callee]at h
  cQ:=λb c h=>by
   obtain⟨_,j,h⟩:=h;simp at h
  one:=λb b' c h=>by
   obtain⟨_,j,h⟩:=h;simp at h}
 obtain⟨X,Y,_⟩:=NY (ids:=[]) (Hin:=[]) (Hb:=[]) ok rfl rfl U W (ym _) rfl;exact hK v (jv J [] [] { callee J [] [] with w:=τ.w}) (by simp[jv,ao]) X Y (ZJO x hv)
theorem ZNn(ok:Ok J)(l:ay J ts a){c:Call}{f:yo}{hs hs':yL aj}{C:yL Prop}{d:Dv}(ho:o.op=.call c)(j:c.callee=.value f)(h:bm P o ts J.H hs=ab (C,d,hs'))(hc:aY C):YH P o a J d J.H:=by
 simp only[bm,ho,j]at h;split at h
 .rename_i g m x r s t;split at h
  .split at h
   .rename_i e;simp only[yi,yT]at e;simp only[yj,yl]at h;obtain⟨rfl,rfl,rfl⟩:=h;exact ZE2 ok l ho j t e.1.1 e.1.2 e.2 hc.1 hc.2.1
   .cases h
  .cases h
 .cases h
end
end Go.Ev
end
section
namespace Go.Ev
theorem yC{w:yad}{S:Nat->Nat->Prop}{n s:Nat}{xs:yL Pl}{us:yL yh}(h:aq w S (.arr n s xs) us):xs.length=n/\aT s xs/\ak w S xs us:=by
 simpa[aq] using h
theorem OA{P:yg}{J:Sg}{d n:Nat}{e:yb}{s:Nat}(hs:P.cellsOf e=s)(A:s≠0)(hi:(P.info? e).isSome=ae)(hu:(P.underlying e).isSome=ae)
 (G:∀(x y:Pl)(a b:yh),aO P n e x->aO P n e y->yH J (.p x) a->yH J (.p y) b->∃r:Bool,(Op.equalIn d e a b).run P J.w=.ok r J.w/\(r=ae↔x=y))
 {cs h:Array yh} {m:Nat}:∀(xs ys:yL Pl)(i:Nat)(p j us vs:yL yh),(∀y,y∈xs->aO P n e y/\y.size=s/\Wa P e=y.isAgg)->(∀y,y∈ys->aO P n e y/\y.size=s/\Wa P e=y.isAgg)->
  cs.toList=p++us->h.toList=j++vs->p.length=i*s->j.length=i*s->ak J.w J.aV xs us->ak J.w J.aV ys vs->xs.length=m->ys.length=m->
  ∃r:Bool,(Op.eqItems d e s cs h (List.range' i m)).run P J.w=.ok r J.w/\(r=ae↔xs=ys)
 |[],ys,i,p,j,us,vs,_,_,_,_,_,_,_,_,g,l=>by
  subst g;have:ys=[]:=ybo l;subst this
  exact⟨ae,by simp[Op.eqItems],by simp⟩
 |x::xs,[],_,_,_,_,_,_,_,_,_,_,_,_,_,g,l=>by simp at g l;omega
 |x::xs,y::ys,i,p,j,us,vs,I,M,Q,S,T,U,W,X,g,l=>by
  obtain⟨Y,rfl⟩:∃Y,m=Y+1:=⟨xs.length,by simpa using g.symm⟩;simp only[ak]at W X;obtain⟨u1,u2,rfl,Z,q2⟩:=W;obtain⟨v1,v2,rfl,q3,q4⟩:=X;obtain⟨f1,f2,f3⟩:=I x (yay ..);obtain⟨g1,g2,g3⟩:=M y (yay ..);obtain⟨a,ha,ra⟩:=jr (P:=P) (J:=J) (t:=e) (d:=.p x) Q (by simpa[yG] using Z) (by rw[hs];exact f2.symm) hi hu f3 (by show x.size≠0;omega);obtain⟨b,hb,rb⟩:=jr (P:=P) (J:=J) (t:=e) (d:=.p y) S (by simpa[yG] using q3) (by rw[hs];exact g2.symm) hi hu g3 (by show y.size≠0;omega);rw[T]at ha;rw[U]at hb;obtain⟨r,hr,c⟩:=G x y a b f1 g1 ra rb;have s1:=WR _ _ Z;have s2:=WR _ _ q3
  obtain⟨r',E,f⟩:=OA hs A hi hu G xs ys (i+1) (p++u1) (j++v1) u2 v2 (λz F=>I z (yba _ F)) (λz F=>M z (yba _ F))
   (by rw[Q,yac]) (by rw[S,yac]) (by rw[yn,T,s1,f2,ybd,Nat.one_mul]) (by rw[yn,U,s2,g2,ybd,Nat.one_mul]) q2 q4 (by simpa using g) (by simpa using l)
  rw[List.range'_succ];simp only[Op.eqItems,Sem.run_bind,ha,hb,hr,Result.andThen_ok];cases r
  .exact⟨af,by simp,by simp;intro e;exact absurd (c.2 e) (by simp)⟩
  .refine⟨r',by simpa using E, ?_⟩;rw[f];simp[c.1 rfl]
theorem OB{P:yg}{J:Sg}{d:Nat}{R:yb->Pl->Prop}
 (A:∀(t:yb)(x y:Pl)(a b:yh),R t x->R t y->yH J (.p x) a->yH J (.p y) b->∃r:Bool,(Op.equalIn d t a b).run P J.w=.ok r J.w/\(r=ae↔x=y))
 {cs j:Array yh}:∀(l:yL Field)(xs ys:yL Pl)(o:Nat)(p s us vs:yL yh),gR P R l o xs->gR P R l o ys->
  cs.toList=p++us->j.toList=s++vs->p.length=o->s.length=o->ak J.w J.aV xs us->ak J.w J.aV ys vs->
  ∃r:Bool,(Op.eqFields d cs j l).run P J.w=.ok r J.w/\(r=ae↔xs=ys)
 |[],[],[],_,_,_,_,_,_,_,_,_,_,_,_,_=>⟨ae,by simp[Op.eqFields],by simp⟩
 |[],_::_,_,_,_,_,_,_,h,_,_,_,_,_,_,_=>by simp[gR]at h
 |[],[],_::_,_,_,_,_,_,_,h,_,_,_,_,_,_=>by simp[gR]at h
 |_::_,[],_,_,_,_,_,_,h,_,_,_,_,_,_,_=>by simp[gR]at h
 |_::_,_::_,[],_,_,_,_,_,_,h,_,_,_,_,_,_=>by simp[gR]at h
 |f::l,x::xs,y::ys,o,p,s,us,vs,E,F,G,I,M,Q,S,T=>by
  simp only[gR]at E F;obtain⟨a1,U,W,X,Y,a6,a7,a8,a9⟩:=E;obtain⟨_,_,Z,_,_,b6,b7,b8,b9⟩:=F;simp only[ak]at S T;obtain⟨u1,u2,rfl,q1,q2⟩:=S;obtain⟨v1,v2,rfl,q3,q4⟩:=T;obtain⟨a,ha,ra⟩:=jr (P:=P) (J:=J) (t:=f.type) (d:=.p x) G (by simpa[yG] using q1) W X Y a6 a7;obtain⟨b,hb,rb⟩:=jr (P:=P) (J:=J) (t:=f.type) (d:=.p y) I (by simpa[yG] using q3) Z X Y b6 b7;rw[M, <-U]at ha;rw[Q, <-U]at hb;obtain⟨r,hr,c⟩:=A f.type x y a b a8 b8 ra rb;have s1:=WR _ _ q1;have s2:=WR _ _ q3;have m:x.size=y.size:=W.symm.trans Z
  obtain⟨r',z,g⟩:=OB A l xs ys (o+x.size) (p++u1) (s++v1) u2 v2 a9 (by rw[m];exact b9)
   (by rw[G,yac]) (by rw[I,yac]) (by rw[yn,M,s1]) (by rw[yn,Q,s2,m]) q2 q4
  simp only[Op.eqFields,a1,ne_eq,not_false_eq_true,if_true,Sem.run_bind,ha,hb,hr,Result.andThen_ok];cases r
  .exact⟨af,by simp,by simp;intro e;exact absurd (c.2 e) (by simp)⟩
  .refine⟨r',by simpa using z, ?_⟩;rw[g];simp[c.1 rfl]
theorem za{P:yg}{J:Sg}:∀(n:Nat)(t:yb)(x y:Pl)(a b:yh),aO P n t x->aO P n t y->yH J (.p x) a->yH J (.p y) b->
 ∀d,∃r:Bool,(Op.equalIn (d+n) t a b).run P J.w=.ok r J.w/\(r=ae↔x=y)
 |0,_,_,_,_,_,h,_,_,_,_=>by simp[aO]at h
 |n+1,t,x,y,a,b,E,c,f,g,d=>by
  unfold aO at E c;split at E
  .rename_i j;rw[j]at c;split at c <;> rename_i F <;> simp only[reduceCtorEq,yj]at F
   all_goals first
    |(rw[Y6 f,Y6 g]
      exact⟨_,run_equalIn_bool' J.w (d+n) t _ _ j,by simp⟩)
    |exact c.elim
  .rename_i k k' z j;rw[j]at c;split at c <;> rename_i F <;> simp only[reduceCtorEq,yj,TypeDesc.int.injEq]at F
   all_goals first
    |(subst E;subst c;subst F
      rw[ZG f,ZG g]
      exact⟨_,run_equalIn_int J.w (d+n) t _ _ _ _ j,by simp⟩)
    |exact c.elim
  .rename_i m e m' s Q j;rw[j]at c;split at c <;> rename_i F <;> simp only[reduceCtorEq,yj,TypeDesc.array.injEq]at F
   .rename_i Y S;obtain⟨rfl,rfl⟩:=F;obtain⟨rfl,G,T,W,Z,h5⟩:=E;obtain⟨rfl,g1,_,_,_,g5⟩:=c;obtain rfl:s=Y:=G.symm.trans g1;rw[Ya (by rfl)]at f g;obtain⟨I,rfl,f⟩:=f;obtain⟨l,rfl,g⟩:=g;simp only[yG]at f g;obtain⟨n1,_,f⟩:=yC f;obtain⟨n2,_,g⟩:=yC g;obtain⟨i,hi⟩:=Option.isSome_iff_exists.1 W;obtain⟨r,U,A⟩:=OA (P:=P) (J:=J) (d:=d+n) (n:=n) (e:=e) (s:=s) G T W Z (λx y a b E c f g=>za n e x y a b E c f g d) Q S 0 [] [] I.toList l.toList h5 g5 rfl rfl (by simp) (by simp) f g n1 n2;refine⟨r, ?_,by rw[A];simp⟩;rw[show d+(n+1)=(d+n)+1 from rfl,run_equalIn_array J.w (d+n) I l j hi,List.range_eq_range',G]
    exact U
   all_goals first
    |exact c.elim
  .rename_i X Q j;rw[j]at c;split at c <;> rename_i F <;> simp only[reduceCtorEq,yj,TypeDesc.struct.injEq]at F
   all_goals first
    |exact c.elim
    |skip
   rename_i S;subst F;obtain⟨G,T⟩:=E;obtain⟨_,g2⟩:=c;rw[Ya (by rfl)]at f g;obtain⟨I,rfl,f⟩:=f;obtain⟨l,rfl,g⟩:=g;simp only[yG,aq]at f g;have M:P.fieldsOf t=X:=by simp[Program.fieldsOf,j]
   obtain⟨r,U,A⟩:=OB (P:=P) (J:=J) (d:=d+n) (R:=aO P n) (λt x y a b E c f g=>za n t x y a b E c f g d) X.toList Q S 0 [] [] I.toList l.toList T g2 rfl rfl rfl rfl f g;refine⟨r, ?_,by rw[A];simp⟩;rw[show d+(n+1)=(d+n)+1 from rfl,run_equalIn_struct J.w (d+n) t I l (by rw[M];exact j) G,M]
   exact U
  .exact E.elim
theorem zb{P:yg}{J:Sg}{t:yb}{x y:Pl}{a b:yh}(hx:aO P 20 t x)(e:aO P 20 t y)(f:yH J (.p x) a)(g:yH J (.p y) b){β:Bool}(h:β=ae↔x=y):
 (Op.equal t a b).run P J.w=.ok β J.w:=by
 obtain⟨r,j,c⟩:=za 20 t x y a b hx e f g 9980;have:r=β:=by rw[Bool.eq_iff_iff,c,h]
 subst this;exact j
def mC:yh->Bool
 |.bool _|.pointer _|.slice _ _ _|.func _ _ _|.nilFunc=>ae
 |_=>af
theorem OC{op:BinOp}{t:yb}{x y:yo}{a b:yh}(h:mC a=ae):eqGuard op t x y a b=pure ():=by
 cases op <;> cases a <;> first|rfl|(simp[mC]at h)
theorem ZwY{t:yb}{a b:yh}(h:mC a=ae):binOp .eql t a b=(do pure (.bool (<-Op.equal t a b))):=by
 cases a <;> first|(simp[mC]at h;done)|(cases b <;> rfl)
theorem ZwZ{t:yb}{a b:yh}(h:mC a=ae):binOp .neq t a b=(do pure (.bool (!(<-Op.equal t a b)))):=by
 cases a <;> first|(simp[mC]at h;done)|(cases b <;> rfl)
theorem Qu{P:yg}{t:yb}{a b:yh}{r:Bool}{w:yad}(h:∀n,(Op.equalIn (n+1) t a b).run P w=.ok r w):(Op.equal t a b).run P w=.ok r w:=h 9999
theorem OD{P:yg}{t:yb}{x y:Dv}{hs hs':yL aj}{C:yL Prop}{r:Bool}(h:il P t x y hs=ab (C,r,hs'))(hc:aY C){J:Sg}{a b:yh}
 (ha:yH J x a) (hb:yH J y b):(Op.equal t a b).run P J.w=.ok r J.w/\(mC a=ae\/((∃cs,a=.agg cs)/\(∃cs,b=.agg cs)/\P.eqGuardType P.depth t=af)):=by
 unfold il at h;have step:∀(d:TypeDesc),P.underlying t=ab d->(underlying t).run P J.w=.ok d J.w:=λd G=>run_underlying G J.w;split at h
 all_goals first
  |(cases h;done)
  |skip
 rotate_right 2
 iterate 2
  .split at h
   .split at h
    .rename_i I;simp only[yj,yl]at h;obtain⟨rfl,rfl,rfl⟩:=h;obtain⟨M,Q,S,_⟩:=hc;refine⟨zb M Q ha hb S,.inr ⟨?_, ?_,I⟩⟩
     .obtain⟨cs,e,_⟩:=(Ya (by rfl)).1 ha;exact⟨cs,e⟩
     .obtain⟨cs,e,_⟩:=(Ya (by rfl)).1 hb;exact⟨cs,e⟩
    .cases h
   .cases h
 case' h_9=>
  rename_i g;split at h
  .simp only[yj,yl]at h;obtain⟨rfl,rfl,rfl⟩:=h;obtain⟨_,A,c,rfl,_,_,_,_,s⟩:=Wy ha;obtain⟨_,B,m,rfl,_,_,j,_⟩:=Wy hb;have f:B=ad:=by simpa using j af rfl
   subst f;obtain⟨T,U,E,rfl,_⟩:=s hc.1;exact⟨Qu λn=>by simp[Op.equalIn,step _ g],.inl rfl⟩
  .cases h
 case' h_10=>
  rename_i g;split at h
  .simp only[yj,yl]at h;obtain⟨rfl,rfl,rfl⟩:=h;obtain⟨_,A,c,rfl,_,_,_,_,s,_⟩:=kW ha;obtain⟨_,B,m,rfl,_,_,j,_⟩:=Wy hb;have f:B=ad:=by simpa using j af rfl
   subst f;obtain⟨T,U,E,rfl,_⟩:=s hc.1;exact⟨Qu λn=>by simp[Op.equalIn,step _ g],.inl rfl⟩
  .cases h
 all_goals
  rename_i g;simp only[yj,yl]at h;obtain⟨rfl,rfl,rfl⟩:=h;refine(λq:_/\_=>⟨q.1,.inl q.2⟩) ?_
 .rw[Y6 ha,Y6 hb];exact⟨Qu λn=>by simp[Op.equalIn,step _ g],rfl⟩
 .rw[pF hb];rw[Zg (by rfl)]at ha;simp only[yG,List.cons.injEq,and_true]at ha;obtain⟨F,_,_,rfl⟩:=ha;exact⟨Qu λn=>by simp[Op.equalIn,step _ g],rfl⟩
 .rw[pF hb];rw[Zg (by rfl)]at ha;simp only[yG,List.cons.injEq,and_true]at ha;obtain⟨F,W,E,rfl,_⟩:=ha;exact⟨Qu λn=>by simp[Op.equalIn,step _ g],rfl⟩
 .rw[pF hb];rw[Zg (by rfl)]at ha;simp only[yG,List.cons.injEq,and_true]at ha;obtain⟨F,W,rfl,_⟩:=ha;exact⟨Qu λn=>by simp[Op.equalIn,step _ g],rfl⟩
 .rw[pF ha,pF hb];exact⟨Qu λn=>by simp[Op.equalIn,step _ g],rfl⟩
 .obtain⟨_,A,c,rfl,_,_,z,_⟩:=Wy ha;obtain⟨_,B,m,rfl,_,_,j,_⟩:=Wy hb;have f:B=ad:=by simpa using j af rfl
  subst f;have l:=z _ rfl;subst l;refine⟨?_,rfl⟩;cases A <;> (refine Qu λn=> ?_;simp[Op.equalIn,step _ g])
 .obtain⟨_,A,c,rfl,_,_,z,_⟩:=kW ha;obtain⟨_,B,m,rfl,_,_,j,_⟩:=Wy hb;have f:B=ad:=by simpa using j af rfl
  subst f;have l:=z _ rfl;subst l;refine⟨?_,rfl⟩;cases A <;> (refine Qu λn=> ?_;simp[Op.equalIn,step _ g])
 .rw[Zg (by rfl)]at ha;simp only[yG,List.cons.injEq,and_true]at ha;obtain⟨X,Y,Z,_,_,rfl,_⟩:=ha;obtain⟨_,B,m,rfl,_,_,j,_⟩:=Wy hb;have f:B=ad:=by simpa using j af rfl
  subst f;exact⟨Qu λn=>by simp[Op.equalIn,step _ g],rfl⟩
 .rw[xu hb];rw[Zg (by rfl)]at ha;simp only[yG,List.cons.injEq,and_true]at ha;obtain⟨fs,cs,rfl,_⟩:=ha;exact⟨Qu λn=>by simp[Op.equalIn,step _ g],rfl⟩
 .rw[xu ha,xu hb];exact⟨Qu λn=>by simp[Op.equalIn,step _ g],rfl⟩
theorem Zzp{P:yg}{op:BinOp}{t:yb}{x y:Dv}{hs hs':yL aj}{C:yL Prop}{d:Dv}(h:gn P op t x y hs=ab (C,d,hs'))(hc:aY C){J:Sg}{a b:yh}
 (ha:yH J x a) (hb:yH J y b) (m s:yo):
 ∃v,(eqGuard op t m s a b).run P J.w=.ok () J.w/\(binOp op t a b).run P J.w=.ok v J.w/\yH J d v:=by
 unfold gn at h;split at h
 .have z:=ZG ha;have A:=ZG hb;subst z;subst A;split at h
  .rename_i E;obtain⟨v,g,f⟩:=Zuv (P:=P) (yk:= ‹IntKind›) h hc J;refine⟨v,by rw[eqGuard_at_int];rfl, ?_,f⟩;cases op <;> first|(simp[xq]at E;done)|exact g
  .split at h
   .rename_i F;subst F;obtain⟨v,g,f⟩:=Zzj (P:=P) h hc J t;exact⟨v,by rw[eqGuard_at_int];rfl,g,f⟩
   .cases h
 .rw[nS ha,nS hb];split at h
  .simp only[yj,yl]at h;obtain⟨rfl,rfl,rfl⟩:=h;exact⟨_,rfl,by rw[<-ByteArray.toList_eq, <-ByteArray.toList_eq];rfl,Yc _⟩
  .simp only[yj,yl]at h;obtain⟨rfl,rfl,rfl⟩:=h;exact⟨_,rfl,by rw[<-ByteArray.toList_eq, <-ByteArray.toList_eq];rfl,Yc _⟩
  .cases h
 .split at h
  .simp only[yq,yl]at h;obtain⟨⟨C',r,l⟩,g,rfl,rfl,rfl⟩:=h;obtain⟨f,c⟩:=OD g hc ha hb;refine⟨.bool r, ?_, ?_,Yc _⟩
   .rcases c with c|⟨⟨j,rfl⟩,⟨e,rfl⟩,c⟩
    .rw[OC c];rfl
    .exact run_eqGuard_agg _ _ _ _ _ _ _ c
   .rcases c with c|⟨⟨j,rfl⟩,⟨e,rfl⟩,c⟩
    .rw[ZwY c];simp[f]
    .rw[show binOp .eql t (.agg j) (.agg e)=(do pure (.bool (<-Op.equal t (.agg j) (.agg e)))) from rfl];simp[f]
  .simp only[yq,yl]at h;obtain⟨⟨C',r,l⟩,g,rfl,rfl,rfl⟩:=h;obtain⟨f,c⟩:=OD g hc ha hb;refine⟨.bool (!r), ?_, ?_,Yc _⟩
   .rcases c with c|⟨⟨j,rfl⟩,⟨e,rfl⟩,c⟩
    .rw[OC c];rfl
    .exact run_eqGuard_agg _ _ _ _ _ _ _ c
   .rcases c with c|⟨⟨j,rfl⟩,⟨e,rfl⟩,c⟩
    .rw[ZwZ c];simp[f]
    .rw[show binOp .neq t (.agg j) (.agg e)=(do pure (.bool (!(<-Op.equal t (.agg j) (.agg e))))) from rfl];simp[f]
  .cases h
end Go.Ev
end
section
namespace Go.Ev
section
variable{P:yg}{o:Oper}{a:Act}{J:Sg}{ts:yL Dv}{hs hs':yL aj}{C:yL Prop}{d:Dv}
theorem OE(H:yL ar):ao H [] []=H:=by simp[ao]
theorem pX:(aR []:Nat->yO Nat)=λ_=>ad:=by
 funext i;simp[aR]
mutual
theorem mD{f:Nat->yO Nat}:∀(x y:Dv),x.rn (λ_=>ad)=ab y->x.rn f=ab x
 |.p x,_,_=>rfl
 |.elem x,_,_=>rfl
 |.am _ _ _,_,h=>by simp[Dv.rn]at h
 |.own _ _ _ _,_,h=>by simp[Dv.rn]at h
 |.view _ _ _ _ _ _,_,h=>by simp[Dv.rn]at h
 |.agg c,_,h=>by
  simp only[Dv.rn,yq]at h ⊢;obtain⟨j,e,_⟩:=h
  exact⟨c,bG c j e,rfl⟩
 |.arr n s c,_,h=>by
  simp only[Dv.rn,yq]at h ⊢;obtain⟨j,e,_⟩:=h
  exact⟨c,bG c j e,rfl⟩
 |.fn g c,_,h=>by
  simp only[Dv.rn,yq]at h ⊢;obtain⟨j,e,_⟩:=h
  exact⟨c,bG c j e,rfl⟩
 |.iface t x,_,h=>by
  simp only[Dv.rn,yq]at h ⊢;obtain⟨y,e,_⟩:=h
  exact⟨x,mD x y e,rfl⟩
 |.bf c,_,h=>by
  simp only[Dv.rn,yq]at h ⊢;obtain⟨j,e,_⟩:=h
  exact⟨c,bG c j e,rfl⟩
 |.mp _,_,h=>by simp[Dv.rn]at h
 |.cz _,_,h=>by simp[Dv.rn]at h
 |.cC _ _ _,_,h=>by simp[Dv.rn]at h
 |.pm _ _,_,h=>by simp[Dv.rn]at h
 |.rv _ _ _ _ _,_,h=>by simp[Dv.rn]at h
 |.aW _ _ _ _,_,h=>by simp[Dv.rn]at h
 |.an,_,_=>rfl
theorem bG{f:Nat->yO Nat}:∀(x y:yL Dv),Dv.bi (λ_=>ad) x=ab y->Dv.bi f x=ab x
 |[],_,_=>rfl
 |x::c,_,h=>by
  simp only[Dv.bi]at h;split at h
  .rename_i y e g j;simp[Dv.bi,mD x y g,bG c e j]
  .cases h
end
theorem OF{src dst e:yb}{xs:yL Pl}{b:ByteArray}{nn:yO Bool}{v:yh}(hs:P.underlying src=ab (.slice e))(he:P.underlying e=ab (.int .u8))(hd:P.underlying dst=ab .string)
 (hv:yH J (.p (.sl nn 1 xs)) v) (hx:xs=b.data.toList.map λx=>.int .u8 (x.toNat:Int)):(convert src dst v).run P J.w=.ok (.string b) J.w:=by
 obtain⟨s,A,c,rfl,Q,S,T,U,t⟩:=Wy hv;by_cases f:xs=[]
 .have y:b=⟨#[]⟩:=by
   rw[f]at hx;have:b.data.toList=[]:=List.map_eq_nil_iff.1 hx.symm;apply ByteArray.ext;exact Array.toList_inj.1 this
  subst y;subst f
  cases A with
  |none=>exact Go.Lib.run_convert_nil_bytes J.w src dst e c hs he hd
  |some A=>
   have z:=run_convert_bytes_string (P:=P) J.w src dst e (ab A) 0 c hs he hd;rw[yce,z];simp[Conv.bytesToString,loadCells,loadCellsFrom];rfl
 .obtain⟨E,F,W,rfl,G,I⟩:=t f;have j:xs.length=b.size:=by rw[hx];simp
  rw[j];refine Go.Lib.run_convert_whole (P:=P) J.w src e dst hs he hd E F b (λi l=> ?_) c;have M:i < xs.length:=by rw[j];exact l
  have g:xs[i]? =ab (.int .u8 (b[i].toNat:Int)):=by
   rw[hx,yah]
   have:b.data.toList[i]? =ab b[i]:=by
    rw[ybr];exact Array.getElem?_eq_getElem (by simpa using l)
   rw[this];rfl
  obtain⟨X,m,h⟩:=te s G I g;simp only[aq]at m;subst m;have:=(h 0 _ rfl).1;simpa using this
theorem OG{t e:yb}{x:yo}{n s:Nat}{xs:yL Pl}{nn:yO Bool}(ok:Ok J)(ho:o.op=.sliceToArrayPointer t x)(hu:P.underlying t=ab (.array n e))(hv:yH J (.p (.sl nn s xs)) (a.eval x))(m:n≠0)(f:n<=xs.length):
 YH P o a J (.elem (.arr n s (xs.take n))) J.H:=by
 obtain⟨y,A,c,hv,Q,S,T,U,z⟩:=Wy hv
 have j:xs≠[]:=by
  rintro rfl;simp at f;exact m f
 obtain⟨g,h,W,rfl,l,E⟩:=z j;have F:xs=xs.take n++xs.drop n:=(ybk n xs).symm;rw[F]at l;obtain⟨G,X,rfl,I,M⟩:=Yh l;refine Zi (v:=.pointer (ab ⟨g,h,ad⟩)) ok ?_ ?_
 .have:(Instr.arrayAt t (.slice (ab ⟨g,h,ad⟩) xs.length c)).run P J.w=.ok (.pointer (ab ⟨g,h,ad⟩)) J.w:=by
   simp[Instr.arrayAt,run_underlying hu,show¬xs.length < n by omega]
  simp[execOp,ho,hv,this]
 .rw[Zg rfl];simp only[yG];refine⟨g,h,G,rfl, ?_,(W9.append E).1⟩;simp only[aq];exact⟨by rw[yy];omega,V5 y n,I⟩
theorem OH{xs:yL Pl}{b:ByteArray}{nn:yO Bool}{v:yh}(hv:yH J (.p (.sl nn 1 xs)) v)(hx:xs=gu b):(Extern.Bytes.bytesOf v).run P J.w=.ok b J.w:=by
 obtain⟨Q,A,c,rfl,Y,Z,h4,h5,G⟩:=Wy hv;have zV:xs.length=b.size:=by rw[hx,gu,yx,ybh];rfl
 have g:xs=[]->b=.empty:=λS=>by
  apply ByteArray.ext;apply Array.toList_inj.1;rw[S]at hx;exact List.map_eq_nil_iff.1 hx.symm
 cases A with
 |none=>
  have s:xs=[]:=by
   rcases List.eq_nil_or_concat xs with h|⟨l,z,h⟩
   .exact h
   .obtain⟨_,_,_,q,_⟩:=G (by rw[h];simp);cases q
  rw[g s]
  simp[Extern.Bytes.bytesOf]
 |some A=>
  by_cases f:xs=[]
  .rw[g f,f];simp[Extern.Bytes.bytesOf,Extern.Bytes.loadBytes]
  .obtain⟨t,y,us,e,T,U⟩:=G f;cases e
   have I:=Go.Lib.run_loadBytesX (P:=P) J.w (b.data.toList.map λx=>(x.toNat:Int)) ⟨t,y,ad⟩ .empty (λj x M=>by
    have e:(⟨t,y,ad⟩:Addr).add j=⟨t,y+j,ad⟩:=by unfold Addr.add;split <;> simp_all
    rw[e]
    have E:xs[j]? =ab (.int .u8 x):=by
     rw[hx,gu,yah];rw[yah]at M;obtain⟨z,m,rfl⟩:=yq.1 M;rw[m];rfl
    obtain⟨uy,m,F⟩:=te Q T U E;simp only[aq]at m;subst m;have:=(F 0 _ rfl).1;simpa using this)
   have W:(b.data.toList.map λx=>(x.toNat:Int)).length=xs.length:=by rw[hx,gu,yx,yx]
   rw[W]at I;simp only[Extern.Bytes.bytesOf];rw[I];congr 1;apply ByteArray.ext
   have X:Go.Lib.bytesOf (b.data.toList.map λx=>(x.toNat:Int))=b.data.toList:=by
    unfold Go.Lib.bytesOf;rw[ybc]
    conv=>rhs;rw[<-List.map_id b.data.toList]
    exact List.map_congr_left λz _=>by simp
   rw[X];show(#[]:Array yB)++b.data.toList.toArray=b.data;simp
theorem ZE3(ok:Ok J)(m:ay J ts a){c:Call}{f:yo}{g:yr}{z A:yO Bool}{xs ys:yL Pl}{x y:ByteArray}(ho:o.op=.call c)(E:c.callee=.value f)(F:Zo P ts 0 f=.fn g [])(hb:lW P g=ae)
 (hsz:c.args.size=c.argTypes.size) (G:ZZ P [] ts c g []=[.p (.sl z 1 xs),.p (.sl A 1 ys)]) (hx:xs=gu x) (I:ys=gu y):YH P o a J (.p (.int .i64 (Go.Lib.compareBytes x.data.toList y.data.toList))) J.H:=by
 have h:=Zh (P:=P) m 0 f;rw[F]at h
 have s:g < big:=by
  unfold lW at hb;rw[yi,yP]at hb;exact hb.1
 obtain⟨t,j,l⟩:=ZLC s h
 have e:aB J (ZZ P [] ts c g []) (c.args.map a.eval++t).toList:=by
  unfold ZZ;rw[yW s,Array.toList_append,ycx];exact Vi (lb m [] (by simpa using hsz)) (mB [] l)
 rw[G]at e;simp only[aB]at e;obtain⟨u,Z,M,Q,v,r2,S,T,U⟩:=e;subst S;subst U;have W:c.args.map a.eval++t= #[u,v]:=Array.toList_inj.1 M;refine Zi ok (ZGD J.w ho E j hb ?_) (Zu _ _);rw[W];have X:=OH (P:=P) Q hx;have Y:=OH (P:=P) T I;change Sem.run P (do pure (goInt (Extern.BytealgCompare.cmp (<-Extern.Bytes.bytesOf u) (<-Extern.Bytes.bytesOf v)))) J.w=_
 simp only[Sem.run_bind,X,Y,Sem.run_pure,Result.andThen];rw[Go.Lib.cmp_eq];rfl
theorem ZBN(ok:Ok J){src dst e:yb}{x:yo}{b:ByteArray}(ho:o.op=.convert src dst x)(hs:P.underlying src=ab .string)(hd:P.underlying dst=ab (.slice e))(he:P.underlying e=ab (.int .u8))
 (hv:a.eval x=.string b) (hb:b.size<=maxLen):YH P o a J (.p (.sl (ab ae) 1 (b.data.toList.map λx=>.int .u8 (x.toNat:Int)))) J.H:=by
 have t:J.w.grownBy (Go.Lib.bytesWorld J.w e b) ad:=⟨rfl,rfl,rfl,by rw[Go.Lib.bytesWorld_size];omega,λk A _=>Go.Lib.bytesWorld_at_old J.w e b k A⟩;obtain⟨to,c⟩:=pK ok t;have f:=Go.Lib.run_convert_string_bytes (P:=P) J.w src dst e b hs hd he
 refine ZH (J':={ J with w:=Go.Lib.bytesWorld J.w e b}) (v:=.slice (ab ⟨J.w.heap.size,0,ad⟩) b.size (grownCap J.w b.size 0 e)) (by
  have E:execOp a.eval o=(do pure (.value (<-convert src dst (.string b)))):=by simp only[execOp,ho,hv]
  rw[E];generalize Go.Lib.bytesWorld J.w e b=Q at f;generalize grownCap J.w b.size 0 e=S at f;simp[f]) to c ?_
 have g:(b.data.toList.map λx=>Pl.int .u8 (x.toNat:Int)).length=b.size:=by rw[yx,ybh];rfl
 have F:aT 1 (b.data.toList.map λx=>Pl.int .u8 (x.toNat:Int)):=λy G=>by
  obtain⟨z,_,rfl⟩:=ybj.1 G;rfl
 rw[<-g];refine Yp F (by rw[g];exact grownCap_ge ..) (by rw[g];exact grownCap_le_maxLen _ _ _ _ hb) (jV rfl) (λh=>(by cases h)) (λ_=>⟨J.w.heap.size,0,b.data.toList.map λx=>.int .u8 (x.toNat:Int),rfl, ?_,λj u m=>⟨?_, ?_⟩⟩)
 .generalize b.data.toList=l
  induction l with
  |nil=>simp[ak]
  |cons z l I=>exact⟨[_],_,rfl,by simp[aq],I⟩
 .rw[yah]at m;obtain⟨z,s,rfl⟩:=yq.1 m
  have M:j < b.size:=by
   have:=(yp.1 s).1;rw[ybh]at this;exact this
  rw[yau];have:=Go.Lib.bytesWorld_cell J.w e b j M;rw[this,List.getD_eq_getElem?_getD,s,Option.getD_some]
 .exact xB c (ok.new _ (ym _)) (tw ok)
theorem ZGE(ok:Ok J){t e I:yb}{id v n:Nat}{x:yo}{xs:yL Pl}(ho:o.op=.convert t t x)(ht:P.underlying t=ab (.slice e))(he:P.underlying e=ab (.int .u8))
 (hv:yH J (.rv id v 1 0 n) (a.eval x)) (hH:J.H[id]? =ab (.row v 1 ae I (.p (.arr n 1 xs)))) (hn:0 < n):
 YH P o a J (.p (.sl (ab ae) 1 xs)) (J.H.set id (.row (v+1) 1 ae I (.p (.arr 0 1 [])))):=by
 rw[Zg rfl]at hv;simp only[yG]at hv;obtain⟨A,c,h1,h2,h3,h4,h5,v1,s1,st1,e1,d1,k1,k2,k3⟩:=hv;rw[hH]at k1;cases k1;have hx:a.eval x=.slice A n c:=by simpa using h1
 rcases (k3 rfl).2 with⟨_,_,s⟩|⟨b,f,s,T,k6,k7⟩
 .omega
 have U:=k7 (by omega);rw[Nat.zero_mul]at U;obtain⟨N,q1,M⟩:=ok.cA id _ _ hH s;simp only[aJ,if_true,yj]at q1;subst q1;rcases M with⟨M,_⟩|⟨b',cur',cap,M,q3,q4,q5,q6,q7⟩
 .cases M
 cases M;rw[T]at q3;cases q3
 have X:J.w.shape? b=ab (I,f.size):=by
  unfold World.shape?;rw[T]
 let l:yad:=J.w.freeze ⟨b,f.size,ad⟩ 1;have hlt:b < J.w.heap.size:=ok.lt id b s
 have g:l.heap=J.w.heap.modify b λ
  |.cells c elem (lo,E)=>.cells c elem (if lo==E then(f.size,f.size+1) else(min lo f.size,max E (f.size+1)))
  |o=>o:=by
  simp only[l,World.freeze];rfl
 have Q:l.heap[b]? =ab (.cells f I (f.size,f.size+1)):=by
  rw[g,Array.getElem?_modify,yW rfl,T];rfl
 have Y:∀z,z≠b->l.heap[z]? =J.w.heap[z]? :=λz Z=>by
  rw[g,Array.getElem?_modify,yX (Ne.symm Z)]
 have F:∀i y,J.w.cell? ⟨b,i,ad⟩=ab y->l.cell? ⟨b,i,ad⟩=ab y:=λi y h=>by
  unfold World.cell? at h ⊢;rw[T]at h;rw[Q];exact h
 let J':Sg:={ J with w:=l,m:=J.m.set id ad,H:=J.H.set id (.row (v+1) 1 ae I (.p (.arr 0 1 [])))}
 obtain⟨to,S⟩:=ZJJ (J':=J') ok hH s rfl rfl rfl rfl rfl rfl rfl (by show J.w.heap.size<=l.heap.size;rw[g,Array.size_modify];exact ym _) (λz _ Z=>Y z Z) F
  ⟨0,by simp[aJ],.inl ⟨rfl,rfl⟩⟩ rfl
 refine ZH (J':=J') (v:=.slice A n c) (by
  have e1:execOp a.eval o=(do pure (.value (<-convert t t (.slice A n c)))):=by simp only[execOp,ho,hx]
  rw[e1,U];simp[convert,run_underlying ht,run_underlying he,markStringish,X,J',l]) to S ?_
 simp only[yG,aq]at q7;obtain⟨r1,r2,r3⟩:=q7;rw[<-r1];refine Yp r2 (by rw[r1];exact h2) h3 (by rw[U];exact jV rfl) h4 λ_=>⟨b,0,_,U,ax to.leaf.cells xs _ r3,λj u W=>⟨?_, ?_⟩⟩
 .rw[yau];unfold World.cell?;show(match l.heap[b]? with|_=>_)=_
  rw[Q]
  have hj:f.toList[j]? =ab u:=by
   rw[ycg]at W;split at W
   .exact W
   .cases W
  simpa using hj
 .exact xB S (ok.own id b s) λi E=>by
   by_cases G:i=id
   .subst G;have:J'.m[i]? =ab ad:=ai s;rw[this]at E;cases E
   .have:J'.m[i]? =J.m[i]? :=al (Ne.symm G);rw[this]at E;exact G (ok.inj i id b E s)
theorem ZE4(ok:Ok J)(G:ay J ts a)(h:aU P o ts hs=ab (C,d,hs'))(hc:aY C):YH P o a J d J.H:=by
 have h0:=h;unfold aU at h;split at h
 .rename_i x E
  have main:d=Zo P ts o.type x->YH P o a J d J.H:=λe=>by
   subst e;exact Zi (v:=a.eval x) ok (by simp[execOp,E]) (Zh G _ _)
  split at h
  .simp only[yj,yl]at h;exact main h.2.1.symm
  .cases h
 .rename_i x E
  have main:d=Zo P ts o.type x->YH P o a J d J.H:=λe=>by
   subst e;exact Zi (v:=a.eval x) ok (by simp[execOp,E]) (Zh G _ _)
  split at h
  .simp only[yj,yl]at h;exact main h.2.1.symm
  .cases h
 .rename_i c x y E;split at h
  .rename_i t β T hcv;simp only[yj,yl]at h;obtain⟨rfl,rfl,rfl⟩:=h;have hb:=Zh (P:=P) G 0 c;rw[hcv]at hb;have hb':=Y6 hb;have ht:t=β:=hc.1;subst ht;refine Zi (v:=if t then a.eval x else a.eval y) ok (by simp[execOp,E,hb',asBool]) ?_
   cases t
   .exact Zh G _ _
   .exact Zh G _ _
  .cases h
 .rename_i x E;split at h
  .rename_i i f p F;simp only[yj,yl]at h;obtain⟨rfl,rfl,rfl⟩:=h;have l:=Zh (P:=P) G 0 x;rw[F]at l;obtain⟨b,M,U,W⟩:=kY l;exact Zi (v:=a.eval x) ok (by simp[execOp,E,W]) l
  .rename_i i v f p F;simp only[yj,yl]at h;obtain⟨rfl,rfl,rfl⟩:=h;have l:=Zh (P:=P) G 0 x;rw[F]at l;obtain⟨b,o',W,_⟩:=tj l;exact Zi (v:=a.eval x) ok (by simp[execOp,E,W]) l
  .rename_i y F;simp only[yj,yl]at h;obtain⟨rfl,rfl,rfl⟩:=h;have l:=Zh (P:=P) G 0 x;rw[F]at l;obtain⟨b,o',us,W,_⟩:=pN l;exact Zi (v:=a.eval x) ok (by simp[execOp,E,W]) l
  .rename_i f cap F;simp only[yj,yl]at h;obtain⟨rfl,rfl,rfl⟩:=h;have l:=Zh (P:=P) G 0 x;rw[F]at l;obtain⟨fs,cs,W,_⟩:=pO l;exact Zi (v:=a.eval x) ok (by simp[execOp,E,W]) l
  .cases h
 .rename_i op t x y yt E;obtain⟨v,M,U,W⟩:=Zzp (P:=P) h hc (Zh G t x) (Zh G yt y) x y;exact Zi ok (by simp[execOp,E,M,U]) W
 .rename_i t x E;split at h
  .rename_i b F;simp only[yj,yl]at h;obtain⟨rfl,rfl,rfl⟩:=h;have l:=Zh (P:=P) G 0 x;rw[F]at l;exact Zi (v:=.bool (!b)) ok (by simp[execOp,E,Y6 l,Op.unary]) (Yc _)
  .cases h
 .rename_i t x E;split at h
  .rename_i k n F;have l:=Zh (P:=P) G 0 x;rw[F]at l;exact Zi ok (by simp[execOp,E,ZG l,Op.unary,Op.intArith]) (pI h hc J)
  .cases h
 .rename_i t x E;split at h
  .rename_i k n F;have l:=Zh (P:=P) G 0 x;rw[F]at l;split at h
   .cases h
   .rename_i I;simp only[yj,yl]at h;obtain⟨rfl,rfl,rfl⟩:=h;exact Zi ok (by simp[execOp,E,ZG l,Op.unary,I,intBits_xor]) (Zu k _)
  .cases h
 .rename_i src dst x E;split at h
  .rename_i d1 k k' n T hd1 F;have l:=Zh (P:=P) G src x;rw[F]at l;refine Zi ok ?_ (pI h hc J);simp[execOp,E,ZG l,convert,run_underlying T,run_underlying hd1,Conv.intToInt]
  .rename_i e nn s xs T hd1 F;have l:=Zh (P:=P) G src x;rw[F]at l;split at h
   .rename_i b hs2 he;split at h
    .rename_i M;subst M;simp only[yj,yl]at h;obtain⟨rfl,rfl,rfl⟩:=h;refine Zi (v:=.string b) ok ?_ (by simp[yH,Dv.isAgg,Pl.isAgg,yG,aq]);have zU:=OF (P:=P) T he hd1 l hc.1;simp[execOp,E,zU]
    .cases h
   .cases h
  .rename_i e id nn s xs T hd1 F;have l:=Zh (P:=P) G src x;rw[F]at l;split at h
   .rename_i b hs2 he;split at h
    .rename_i M;subst M;simp only[yj,yl]at h;obtain⟨rfl,rfl,rfl⟩:=h;refine Zi (v:=.string b) ok ?_ (by simp[yH,Dv.isAgg,Pl.isAgg,yG,aq]);have zU:=OF (P:=P) T he hd1 (nT l) hc.1;simp[execOp,E,zU]
    .cases h
   .cases h
  .rename_i e b T hd1 F;have l:=Zh (P:=P) G src x;rw[F]at l;split at h
   .rename_i he;simp only[yj,yl]at h;obtain⟨rfl,rfl,rfl⟩:=h;exact ZBN ok E T hd1 he (nS l) hc.1
   .cases h
  .cases h
 .rename_i t x E;have l:=Zh (P:=P) G 0 x;split at h
  .rename_i n e nn s xs S F;rw[F]at l;split at h
   .rename_i hn;simp only[yj,yl]at h;obtain⟨rfl,rfl,rfl⟩:=h;exact OG ok E S l (by simpa using hn) hc.1
   .cases h
  .rename_i n e id nn s xs S F;rw[F]at l;split at h
   .rename_i hn;simp only[yj,yl]at h;obtain⟨rfl,rfl,rfl⟩:=h;exact OG ok E S (nT l) (by simpa using hn) hc.1
   .cases h
  .cases h
 .rename_i f first captured E
  split at h
  .rename_i hf;simp only[yj,yl]at h;obtain⟨rfl,rfl,rfl⟩:=h;rw[yi,yP]at hf;obtain⟨hf,Y⟩:=hf;have:first= #[]:=by simpa using hf
   subst this;refine Zi (v:=.func (.func f) #[] (captured.map a.eval)) ok (by simp[execOp,E,Instr.makeFunc]) ?_;rw[Zg rfl];simp only[yG];refine⟨#[],captured.map a.eval, ?_,yW Y,by rw[Array.empty_append,ycx];exact xF _ _ (λx=>Zh G 0 x) _⟩;unfold dQ;rw[yW Y]
  .split at h
   .rename_i hc2;simp only[yj,yl]at h;obtain⟨rfl,rfl,rfl⟩:=h;have:captured= #[]:=by simpa using hc2
    subst this;have hge:¬f+big < big:=Nat.not_lt.2 (Nat.le_add_left big f);refine Zi (v:=.func (.func f) (first.map a.eval) #[]) ok (by simp[execOp,E,Instr.makeFunc]) ?_
    rw[Zg rfl];simp only[yG];refine⟨first.map a.eval, #[], ?_,yX hge,by rw[Array.append_empty,ycx];exact xF _ _ (λx=>Zh G 0 x) _⟩
    unfold dQ;rw[yX hge,Nat.add_sub_cancel]
   .cases h
 .rename_i t x E;split at h
  .cases h
  .rename_i u S hne;simp only[yj,yl]at h;obtain⟨rfl,rfl,rfl⟩:=h;obtain⟨M,U⟩:=Zh (P:=P) G t x;refine Zi (v:=.iface t (a.eval x)) ok ?_ ?_
   .have e:(Instr.makeInterface t (a.eval x)).run P J.w=.ok (.iface t (a.eval x)) J.w:=by
     simp only[Instr.makeInterface,Sem.run_bind,run_underlying hne,Result.andThen_ok];rfl
    simp[execOp,E,e]
   .rw[Zg rfl];simp only[yG];exact⟨a.eval x,rfl,M,U⟩
  .cases h
 .rename_i t x i E;simp only[yq,yl]at h;obtain⟨d1,M,rfl,rfl,rfl⟩:=h;obtain⟨u,U,W⟩:=Zuw M (Zh (P:=P) G t x);exact Zi ok (by simp[execOp,E,U]) W
 .rename_i t x i E;have l:=Zh (P:=P) G 0 x;split at h
  .rename_i fs id X yM S F;rw[F]at l;split at h
   .rename_i f hf;split at h
    .rename_i I;simp only[yi,yE]at I;simp only[yj,yl]at h;obtain⟨rfl,rfl,rfl⟩:=h;obtain⟨b,M,U,W⟩:=kY l;refine Zi (v:=.pointer (ab ⟨b,X+f.offset,ad⟩)) ok ?_ ?_
     .have hs:=Z0 (P:=P) I.2 J.w
      have hr:(fieldPlace ⟨b,X,ad⟩ f).run P J.w=.ok ⟨b,X+f.offset,ad⟩ J.w:=by
       unfold fieldPlace;rw[Sem.run_bind,hs];simp only[Result.andThen_ok,I.1,if_false,Sem.run_pure,Addr.bB]
      simp[execOp,E,W,Instr.fieldAt,run_underlying S,hf,Instr.sureAddr,hr]
     .rw[Zg rfl];simp only[yG];exact⟨b,M,U,rfl⟩
    .cases h
   .cases h
  .rename_i fs id v X yM S F;rw[F]at l;split at h
   .rename_i f hf;split at h
    .rename_i I;simp only[yi,yE]at I;simp only[yj,yl]at h;obtain⟨rfl,rfl,rfl⟩:=h;obtain⟨b,o',W,h4⟩:=tj l;refine Zi (v:=.pointer (ab ⟨b,o'+f.offset,ad⟩)) ok ?_ (xG (xH h4));have hs:=Z0 (P:=P) I.2 J.w
     have hr:(fieldPlace ⟨b,o',ad⟩ f).run P J.w=.ok ⟨b,o'+f.offset,ad⟩ J.w:=by
      unfold fieldPlace;rw[Sem.run_bind,hs];simp only[Result.andThen_ok,I.1,if_false,Sem.run_pure,Addr.bB]
     simp[execOp,E,W,Instr.fieldAt,run_underlying S,hf,Instr.sureAddr,hr]
    .cases h
   .cases h
  .rename_i fs y S F;rw[F]at l;split at h
   .rename_i z hz;simp only[yj,yl]at h;obtain⟨rfl,rfl,rfl⟩:=h;obtain⟨b,X,us,M,U,W⟩:=pN l;unfold im at hz;rw[S]at hz;split at hz
    .rename_i fs' xs hfs hxs;cases hfs;cases hxs;split at hz
     .rename_i y' hy;split at hz
      .rename_i hok;cases hz;unfold kS at hok;split at hok
       .rename_i f hf;simp only[yi,yT,yE]at hok;obtain⟨⟨⟨⟨⟨k1,k2⟩,k3⟩,k4⟩,k5⟩,k6⟩:=hok;simp only[aq]at U;obtain⟨p1,p2,p3,rfl,e1,e2,_⟩:=jZ U hy;refine Zi (v:=.pointer (ab ⟨b,X+f.offset,ad⟩)) ok ?_ ?_
        .have hs:=Z0 (P:=P) k3 J.w
         have hr:(fieldPlace ⟨b,X,ad⟩ f).run P J.w=.ok ⟨b,X+f.offset,ad⟩ J.w:=by
          unfold fieldPlace;rw[Sem.run_bind,hs];simp only[Result.andThen_ok,k2,k6,if_false,Sem.run_pure,Addr.bB]
         simp[execOp,E,M,Instr.fieldAt,run_underlying S,hf,Instr.sureAddr,hr]
        .rw[Zg rfl];simp only[yG];refine⟨b,_,p2,rfl,e2, ?_⟩;have:=(W9.append (W9.append W).2).1;rw[e1, <-k1]at this;exact this
       .cases hok
      .cases hz
     .cases hz
    .rename_i hxs;cases hxs
    .cases hz
   .cases h
  .cases h
 .rename_i t x ix E;exact Zzl ok G E h0 hc
 .rename_i t x ix E;have l:=Zh (P:=P) G t x;have hi:=Zh (P:=P) G 0 ix;split at h
  .rename_i n e n' s xs k i S F hix;rw[F]at l;rw[hix]at hi;split at h
   .rename_i y T;split at h
    .rename_i I;simp only[yi,yP,yT,yE]at I;obtain⟨⟨⟨⟨⟨rfl,k1⟩,k2⟩,k3⟩,k4⟩,k5⟩:=I;simp only[yj,yl]at h;obtain⟨rfl,rfl,rfl⟩:=h;obtain⟨c1,c2,_⟩:=hc;obtain⟨cs,hcs,hr⟩:=(Ya rfl).1 l;simp only[yG,aq]at hr;obtain⟨r1,r2,r3⟩:=hr;obtain⟨p1,p2,p3,ecs,e1,e2,_⟩:=jZ r3 c2;have Y:i.toNat < xs.length:=(yp.1 c2).1;have hys:y.size=s:=r2 y (ybq c2)
     have hpl:p1.length=i.toNat*s:=by
      rw[e1,aI (V5 r2 _),yy,ybi (Nat.le_of_lt Y)]
     obtain⟨v,M,U⟩:=jr (P:=P) (J:=J) (t:=e) (d:=.p y) ecs (by simpa[yG] using e2) (by rw[k1];exact hys.symm) k4 k3 k2 (by show y.size≠0;rw[hys];exact k5);refine Zi ok ?_ U;have hb:0<=i/\i < (n:Int):=⟨c1,by omega⟩;rw[hpl, <-k1]at M;simp[execOp,E,hcs,ZG hi,Instr.index,asIntOf,run_underlying S,hb,Z0 k4,M]
    .cases h
   .cases h
  .rename_i s k i S F hix;rw[F]at l;rw[hix]at hi;split at h
   .rename_i b T;simp only[yj,yl]at h;obtain⟨rfl,rfl,rfl⟩:=h;obtain⟨c1,c2,_⟩:=hc;obtain⟨x0,M,rfl⟩:=yq.1 c2;refine Zi ok (v:=.int .u8 x0.toNat) ?_ (Zu _ _)
    have hg:s[i.toNat]? =ab x0:=by
     rw[<-M];have Y:i.toNat < s.data.toList.length:=(yp.1 M).1;have hlt':i.toNat < s.size:=by simpa using Y
     rw[getElem?_pos s i.toNat hlt',yae Y];rfl
    simp[execOp,E,nS l,ZG hi,Instr.index,asIntOf,run_underlying S,c1,hg]
   .cases h
  .rename_i n e n' s xs k i S F hix;rw[F]at l;rw[hix]at hi;split at h
   .rename_i y c2;split at h
    .rename_i I;simp only[yi,yP,yT,yE]at I;obtain⟨⟨⟨⟨⟨rfl,k1⟩,k2⟩,k3⟩,k4⟩,k5⟩:=I;simp only[yj,yl]at h;obtain⟨rfl,rfl,rfl⟩:=h;obtain⟨c1,_⟩:=hc;obtain⟨cs,hcs,hr⟩:=(Ya rfl).1 l;simp only[yG]at hr;obtain⟨r1,r2,r3⟩:=hr;obtain⟨p1,p2,p3,ecs,e1,e2,_⟩:=kX r3 c2;have Y:i.toNat < xs.length:=(yp.1 c2).1;have hys:y.size=s:=r2 y (ybq c2)
     have hpl:p1.length=i.toNat*s:=by
      rw[e1,cD (λx F=>r2 x (ycc F)),yy,ybi (Nat.le_of_lt Y)]
     obtain⟨v,M,U⟩:=jr (P:=P) (J:=J) (t:=e) (d:=y) ecs e2 (by rw[k1];exact hys.symm) k4 k3 k2 (by rw[hys];exact k5);refine Zi ok ?_ U;have hb:0<=i/\i < (n:Int):=⟨c1,by omega⟩;rw[hpl, <-k1]at M;simp[execOp,E,hcs,ZG hi,Instr.index,asIntOf,run_underlying S,hb,Z0 k4,M]
    .cases h
   .cases h
  .cases h
 .rename_i t x lo hi E;exact ZJH ok G E h0 hc
 .rename_i t x lo hi mx E;exact ZGx ok G E h0 hc
 .rename_i x i E;split at h
  .rename_i ds F;simp only[yq,yl]at h;obtain⟨d1,M,rfl,rfl,rfl⟩:=h;have l:=Zh (P:=P) G 0 x;rw[F,Zg rfl]at l;simp only[yG,List.cons.injEq,and_true]at l;obtain⟨cs,l,hr⟩:=l;obtain⟨v,U,W⟩:=xE hr M;have h2':cs[i]? =ab v:=by simpa using U
   exact Zi ok (by simp[execOp,E,l,Instr.extract,h2']) W
  .cases h
 .rename_i t x E;split at h
  .rename_i y F;split at h
   .rename_i I;simp only[yi,yT,yP]at I;obtain⟨⟨⟨k1,k2⟩,k3⟩,k4⟩:=I;simp only[yj,yl]at h;obtain⟨rfl,rfl,rfl⟩:=h;have l:=Zh (P:=P) G 0 x;rw[F]at l;obtain⟨b,X,us,M,U,W⟩:=pN l;obtain⟨v,h4,h5⟩:=tf (P:=P) (J:=J) (d:=.p y) (by simpa[yG] using U) (λj u S=>(W j u S).1) k1 k4 k3 k2;exact Zi ok (by simp[execOp,E,M,Instr.loadAt,Instr.sureAddr,h4]) h5
   .cases h
  .cases h
 .rename_i t parts E;exact ZJI ok G E h0
 .rename_i c E;split at h
  .rename_i yS;split at h
   .rename_i x t Z Q;have l:=Zh (P:=P) G t x;split at h
    .rename_i e nn s xs S F;rw[F]at l;simp only[yj,yl]at h;obtain⟨rfl,rfl,rfl⟩:=h;obtain⟨_,A,cp,M,_⟩:=Wy l;exact Zi ok (mz E yS Z Q (by rw[M];simp[Builtin.len_,run_underlying S];rfl)) (Zu _ _)
    .rename_i e id nn s xs S F;rw[F]at l;simp only[yj,yl]at h;obtain⟨rfl,rfl,rfl⟩:=h;obtain⟨_,A,cp,M,_⟩:=kW l;exact Zi ok (mz E yS Z Q (by rw[M];simp[Builtin.len_,run_underlying S];rfl)) (Zu _ _)
    .rename_i e id X yM s lo n S F;rw[F]at l;simp only[yj,yl]at h;obtain⟨rfl,rfl,rfl⟩:=h;obtain⟨b,cp,aa,_,_,M,_⟩:=mw l;exact Zi ok (mz E yS Z Q (by rw[M];simp[Builtin.len_,run_underlying S];rfl)) (Zu _ _)
    .rename_i e id v s lo n S F;rw[F]at l;simp only[yj,yl]at h;obtain⟨rfl,rfl,rfl⟩:=h;obtain⟨A,cp,M,_⟩:=jt l;exact Zi ok (mz E yS Z Q (by rw[M];simp[Builtin.len_,run_underlying S];rfl)) (Zu _ _)
    .rename_i dd n e S;simp only[yj,yl]at h;obtain⟨rfl,rfl,rfl⟩:=h;exact Zi ok (mz E yS Z Q (by simp[Builtin.len_,run_underlying S];rfl)) (Zu _ _)
    .rename_i s S F;rw[F]at l;simp only[yj,yl]at h;obtain⟨rfl,rfl,rfl⟩:=h;exact Zi ok (mz E yS Z Q (by rw[nS l];simp[Builtin.len_,run_underlying S];rfl)) (Zu _ _)
    .cases h
   .cases h
  .rename_i yS;split at h
   .rename_i x y t u Z Q;have l:=Zh (P:=P) G t x;have hw:=Zh (P:=P) G u y;split at h
    .rename_i m n F hy;rw[F]at l;rw[hy]at hw;simp only[yj,yl]at h;obtain⟨rfl,rfl,rfl⟩:=h;exact Zi ok (ZGz E yS Z Q (by rw[ZG l,ZG hw];simp[Builtin.max_,Builtin.max2])) (Zu _ _)
    .cases h
   .cases h
  .rename_i yS;split at h
   .rename_i x y t u Z Q;have l:=Zh (P:=P) G t x;have hw:=Zh (P:=P) G u y;split at h
    .rename_i m n F hy;rw[F]at l;rw[hy]at hw;simp only[yj,yl]at h;obtain⟨rfl,rfl,rfl⟩:=h;exact Zi ok (ZGA E yS Z Q (by rw[ZG l,ZG hw];simp[Builtin.min_,Builtin.min2])) (Zu _ _)
    .cases h
   .cases h
  .rename_i yS;split at h
   .rename_i x y t u T Z Q;split at h
    .rename_i e s S F;split at h
     .rename_i i ys hi hsrc;split at h
      .rename_i I;simp only[yi,yE]at I;simp only[yj,yl]at h;obtain⟨rfl,rfl,rfl⟩:=h;exact Zux ok G E yS Z Q S F hi I.1 I.2 hsrc hc.1 hc.2.1
      .cases h
     .cases h
    .cases h
   .cases h
  .rename_i f yS;split at h
   .rename_i g cap r T hf;split at h
    .rename_i I;simp only[yi,yT]at I;split at h
     .rename_i args' r1 Z hr;simp only[yj,yl]at h;obtain⟨rfl,rfl,rfl⟩:=h
      have:=NZ (P:=P) (ids:=[]) (Hin:=[]) (H':=[]) (Hb:=[]) (r:=r) (r':=r) ok G E yS hf I.1 I.2 rfl (ym _) (by rw[pX];exact Z) rfl
       (mD r r1 hr) rfl hc.1
      rwa [OE]at this
     .cases h
    .cases h
   .rename_i g x y T hf;split at h
    .rename_i I;simp only[yi,yT]at I;split at h
     .rename_i n1 s xs n2 s' ys Z;split at h
      .rename_i M;obtain⟨M,U⟩:=M;subst M;subst U;simp only[yj,yl]at h;obtain⟨rfl,rfl,rfl⟩:=h;exact ZE3 ok G E yS hf I.1 I.2 Z hc.1 hc.2.1
      .cases h
     .cases h
    .cases h
   .cases h
  .cases h
 .rename_i t len parts E;split at h
  .rename_i T;split at h
   .rename_i e S;split at h
    .rename_i i xs hi hl;split at h
     .rename_i I;simp only[yi,yE,yP]at I;simp only[yj,yl]at h;obtain⟨rfl,rfl,rfl⟩:=h;exact tg (NN ok G E S hi I.1.1 I.1.2 I.2 hl) (Wk.p (bw.pL (by rw[<-Pl.ck];exact cq _))) (ca.refl _)
     .cases h
    .cases h
   .cases h
  .rename_i T;split at h
   .rename_i e S;split at h
    .rename_i i xs hi hl;split at h
     .rename_i I;simp only[yi,yE,yP]at I;simp only[yj,yl]at h;obtain⟨rfl,rfl,rfl⟩:=h;exact NN ok G E S hi I.1.1 I.1.2 I.2 hl
     .cases h
    .cases h
   .cases h
  .cases h
 .cases h
theorem ZE5{x y:yo}{t u:yb}{c:Call}{w':yad}(ho:o.op=.call c)(hc:c.callee=.builtin .copy)(f:c.args.toList=[x,y])(e:c.argTypes.toList=[t,u]){v:yh}
 (h:(Builtin.copy_ #[t,u] o.type #[a.eval x,a.eval y]).run P J.w=.ok v w'):(execOp a.eval o).run P J.w=.ok (.value v) w':=by
 have g:c.args= #[x,y]:=by rw[<-yca (xs:=c.args),f]
 have j:c.argTypes= #[t,u]:=by rw[<-yca (xs:=c.argTypes),e]
 simp[execOp,ho,resolve,hc,g,j,invoke,builtin,h]
theorem tD(ok:Ok J){id v v' s lo n N:Nat}{st:Bool}{e:yb}{zs:yL Pl}{u:yh}(hx:yH J (.rv id v s lo n) u)(hH:J.H[id]? =ab (.row v' s st e (.p (.arr N s zs))))(hv:v'=v)(hle:lo+n<=N):
 ∃A c,u=.slice A n c/\n<=c/\c<=maxLen/\(A=ad->c=0)/\aT s ((zs.drop lo).take n)/\((zs.drop lo).take n).length=n/\∃q,ak J.w J.aV ((zs.drop lo).take n) q/\q.length=n*s/\
  (0 < n->∃b cur cap,A=ab ⟨b,lo*s,ad⟩/\J.m[id]? =ab (ab b)/\J.w.heap[b]? =ab (.cells cur e (0,0))/\cur.size=cap*s/\∀(j:Nat)(u:yh),q[j]? =ab u->J.w.cell? ⟨b,lo*s+j,ad⟩=ab u):=by
 obtain⟨A,c,rfl,Z,h3,h4,h5,v2,s2,st2,t,d2,h6,S,h8⟩:=jt hx;rw[hH]at h6;cases h6;obtain⟨_,h9⟩:=h8 hv;have g:id < J.m.length:=by rw[ok.len];exact(yp.1 hH).1
 have l:J.m[id]? =ab J.m[id]:=yae g;obtain⟨N',y,E⟩:=ok.cA id _ _ hH l;simp only[aJ,if_true,yj]at y;subst y;by_cases hn:n=0
 .subst hn;refine⟨A,c,rfl,Z,h3,h4, ?_,by simp,[],by simp[ak],by simp,λh=>absurd h (by omega)⟩;simp only[List.take_zero];intro x hx;cases hx
 have hpos:0 < n:=Nat.pos_of_ne_zero hn;rcases h9 with⟨_,_,M⟩|⟨b,cur,F,T,k3,k4⟩
 .omega
 rw[l]at F;rcases E with⟨Q,_⟩|⟨b',cur',cap,Q,g2,g4,g5,g6,g7⟩
 .rw[Q]at F;cases F
 rw[Q]at F;cases F;rw[T]at g2;cases g2;simp only[yG,aq]at g7;obtain⟨hxl,G,S⟩:=g7
 have f:zs=zs.take lo++((zs.drop lo).take n++zs.drop (lo+n)):=by
  have U:zs.drop (lo+n)=(zs.drop lo).drop n:=by rw[List.drop_drop]
  rw[U,ybk,ybk]
 rw[f]at S;obtain⟨q1,q23,U,r1,W⟩:=Yh S;obtain⟨X,q3,rfl,r2,r3⟩:=Yh W;have Y:aT s (zs.take lo):=λz M=>G z (ycc M);have I:aT s ((zs.drop lo).take n):=λz M=>G z (yde (ycc M));have ly:((zs.drop lo).take n).length=n:=by rw[yy,ybf,ybi (by omega)]
 have l1:q1.length=lo*s:=by rw[aG _ _ r1,aI Y,yy,ybi (by omega)]
 have l2:X.length=n*s:=by rw[aG _ _ r2,aI I,ly]
 refine⟨A,c,rfl,Z,h3,h4,I,ly,X,r2,l2,λ_=>⟨b,cur,cap,k4 (by omega),by rw[l,Q],T,g4,λj u hu=> ?_⟩⟩;rw[cell_of_row J.w b _ cur e (0,0) T, <-ybr];have hj:j < X.length:=(yp.1 hu).1
 have t:(cur.toList.take (N*s))[lo*s+j]? =ab u:=by
  rw[U,yan (by omega),l1,Nat.add_sub_cancel_left,yaj hj];exact hu
 rw[ycg]at t;split at t
 .exact t
 .cases t
theorem tE(ok:Ok J)(yK:ay J ts a){s:Nat}{u ut:yb}{y:yo}{ys:yL Pl}{M:yL aj}{C1:yL Prop}(h:gV P s u J.H hs (Zo P ts ut y)=ab (C1,ys,M))(hc:aY C1):
 my P J s u (a.eval y) ys:=by
 unfold gV at h;split at h
 .rename_i id off yM s' lo n hd;have m:=Zh (P:=P) yK ut y;rw[hd]at m;obtain⟨b,Q,A,hm,t,S,Z,hcm,hA⟩:=mw m;split at h
  .rename_i e dd st hu hH;split at h
   .rename_i C2 c N g zs hs2 hg;split at h
    .rename_i hk;simp only[yi,yP]at hk;obtain⟨rfl,rfl⟩:=hk;simp only[yj,yl]at h;obtain⟨rfl,rfl,rfl⟩:=h;obtain⟨c1,rfl,c2,_⟩:=Zj.1 hc;obtain⟨b',Y,t',h1,h2,h3,h4⟩:=ok.cA id _ _ hH hm;cases h1;obtain⟨p1,p2,p3,h5,h6,h7,_⟩:=la yM dd hs hs2 C2 c (.p (.arr N g zs)) _ hg c1 h3;simp only[yG,aq]at h7;obtain⟨hxl,hxs,h7⟩:=h7
     have x:zs=zs.take lo++((zs.drop lo).take n++zs.drop (lo+n)):=by
      have e1:zs.drop (lo+n)=(zs.drop lo).drop n:=by rw[List.drop_drop]
      rw[e1,ybk,ybk]
     rw[x]at h7;obtain⟨q1,q23,rfl,r1,r23⟩:=Yh h7;obtain⟨l,q3,rfl,r2,r3⟩:=Yh r23;have M:aT g (zs.take lo):=λz T=>hxs z (ycc T);have E:aT g ((zs.drop lo).take n):=λz T=>hxs z (yde (ycc T));have I:((zs.drop lo).take n).length=n:=by rw[yy,ybf,ybi (by omega)]
     have l1:q1.length=lo*g:=by rw[aG _ _ r1,aI M,yy,ybi (by omega)]
     have U:l.length=n*g:=by rw[aG _ _ r2,aI E,I]
     rw[S];refine⟨l,⟨.inl ⟨_,hu⟩,λw'=>by rw[I];rfl, ?_, ?_,by rw[I];exact U⟩,r2,λ_=>E⟩
     all_goals
      rw[I];rcases Nat.eq_zero_or_pos n with h0|h0
      .subst h0;have T:l=[]:=ybo (by rw[U];simp);rw[T];simp[Builtin.firstCells,loadCells,loadCellsFrom]
      .rw[hA h0];refine run_firstCells_some _ g _ ⟨b,c+lo*g,ad⟩ _ Q l U (λj v t=> ?_);rw[Addr.bB];have f:J.w.cell? ⟨b,c+lo*g+j,ad⟩=Y[c+lo*g+j]? :=cell_of_row J.w b _ Y t' (0,0) h2
       first
        |(rw[f, <-ybr]
          have W:Y.toList.take dd.size=(p1++q1)++(l++(q3++p3)):=by rw[h5];simp
          have X:(p1++q1).length=c+lo*g:=by rw[yn,h6,l1]
          have hj:j < l.length:=(yp.1 t).1
          have F:(Y.toList.take dd.size)[c+lo*g+j]? =ab v:=by
           rw[W,yan (by omega),X,Nat.add_sub_cancel_left,yaj hj];exact t
          rw[ycg]at F;split at F
          .exact F
          .cases F)
        |(show J.w.drew.cell? _=_
          have G:J.w.drew.cell? ⟨b,c+lo*g+j,ad⟩=J.w.cell? ⟨b,c+lo*g+j,ad⟩:=rfl;rw[G,f, <-ybr];have W:Y.toList.take dd.size=(p1++q1)++(l++(q3++p3)):=by rw[h5];simp
          have X:(p1++q1).length=c+lo*g:=by rw[yn,h6,l1]
          have hj:j < l.length:=(yp.1 t).1
          have F:(Y.toList.take dd.size)[c+lo*g+j]? =ab v:=by
           rw[W,yan (by omega),X,Nat.add_sub_cancel_left,yaj hj];exact t
          rw[ycg]at F;split at F
          .exact F
          .cases F)
    .cases h
   .cases h
  .cases h
 .rename_i id v s' lo n hd;have m:=Zh (P:=P) yK ut y;rw[hd]at m;split at h
  .rename_i e v' g st e' N s3 zs hu hH;split at h
   .rename_i hk;simp only[yi,yP,yT]at hk;obtain⟨⟨⟨rfl,rfl⟩,rfl⟩,t⟩:=hk;simp only[yj,yl]at h;obtain⟨rfl,rfl,rfl⟩:=h;obtain⟨A,Q,S,Z,hcm,hA,E,I,l,r2,U,hq⟩:=tD ok m hH t hc.1;rw[S];refine⟨l,⟨.inl ⟨_,hu⟩,λw'=>by rw[I];rfl, ?_, ?_,by rw[I];exact U⟩,r2,λ_=>E⟩
    all_goals
     rw[I];rcases Nat.eq_zero_or_pos n with h0|h0
     .subst h0;have T:l=[]:=ybo (by rw[U];simp);rw[T];cases A <;> simp[Builtin.firstCells,loadCells,loadCellsFrom]
     .obtain⟨b,cur,cp,rfl,_,_,_,f⟩:=hq h0;refine run_firstCells_some _ _ _ ⟨b,_,ad⟩ _ Q l U (λj v t=> ?_);rw[Addr.bB];exact f j v t
   .cases h
  .cases h
 .simp only[yq,yl]at h;obtain⟨zs,h1,rfl,rfl,rfl⟩:=h;exact nW (P:=P) yK h1
theorem ZLF(ok:Ok J)(yK:ay J ts a){c:Call}{x y:yo}{t u e:yb}{id W s lo n N:Nat}{yM:yL Nat}{S l:Dv}{xs ys:yL Pl}{C1:yL Prop}{f:Nat}(ho:o.op=.call c)(yS:c.callee=.builtin .copy)
 (yQ:c.args.toList=[x,y]) (X:c.argTypes.toList=[t,u]) (ht:P.underlying t=ab (.slice e)) (hx:Zo P ts t x=.view id W yM s lo n) (Y:gG P s u (Zo P ts u y)=ab ys)
 (hH:J.H[id]? =ab (.var S ae)) (hg:Ym S yM hs=ab (C1,f,.p (.arr N s xs),hs')) (hc:aY C1) (he:f=W) (hp:WU (.p (.arr N s (nP xs ys lo))) S yM hs=ab l)
 (hce:P.cellsOf e=s) (hi:(P.info? e).isSome=ae) (hm':ys.length<=n) (hn:lo+n<=N):YH P o a J (.p (.int .i64 (ys.length:Int))) (J.H.set id (.var l ae)):=by
 subst he;have G:=Zh (P:=P) yK t x;rw[hx]at G;obtain⟨b,cap,A,hm,hv,G,hcap,hcm,hA⟩:=mw G;obtain⟨E,hS,Z,zO⟩:=nW (P:=P) yK Y;obtain⟨b',I,t',h1,h2,h3,h4⟩:=ok.cA id _ _ hH hm;cases h1;obtain⟨p1,p2,p3,h5,h6,h7,h8⟩:=la yM S hs hs' C1 f (.p (.arr N s xs)) _ hg hc h3;simp only[yG,aq]at h7;obtain⟨hxl,T,h7⟩:=h7;have hlo:lo+ys.length<=xs.length:=by omega
 have M:xs=xs.take lo++((xs.drop lo).take ys.length++xs.drop (lo+ys.length)):=by
  have e1:xs.drop (lo+ys.length)=(xs.drop lo).drop ys.length:=by rw[List.drop_drop]
  rw[e1,ybk,ybk]
 rw[M]at h7;obtain⟨q1,q23,rfl,r1,r23⟩:=Yh h7;obtain⟨q2,q3,rfl,r2,r3⟩:=Yh r23;have hs1:aT s (xs.take lo):=λz F=>T z (ycc F);have hs2:aT s ((xs.drop lo).take ys.length):=λz F=>T z (yde (ycc F));have hs3:aT s (xs.drop (lo+ys.length)):=λz F=>T z (yde F);have l1:q1.length=lo*s:=by rw[aG _ _ r1,aI hs1,yy,ybi (by omega)]
 have l2:q2.length=ys.length*s:=by rw[aG _ _ r2,aI hs2,yy,ybf,ybi (by omega)]
 have ln:E.length=ys.length*s:=hS.cells
 have hys:aT s ys:=by
  by_cases h0:ys=[]
  .subst h0;intro z F;cases F
  .exact zO h0
 have Q:yG J (.p (.arr N s (nP xs ys lo))) (q1++(E++q3)):=by
  simp only[yG,aq];refine⟨?_, ?_, ?_⟩
  .unfold nP;simp only[yn,yy,ybf];omega
  .exact Vh hs1 (Vh hys hs3)
  .exact Ys r1 (Ys Z r3)
 obtain⟨h9,h10⟩:=h8 _ l _ hp rfl Q;have h5':I.toList.take S.size=(p1++q1)++(q2++(q3++p3)):=by rw[h5];simp
 have hll:E.length=q2.length:=by rw[ln,l2]
 obtain⟨k1,k2⟩:=pT h5' hll h4;have hpl:(p1++q1).length=f+lo*s:=by rw[yn,h6,l1]
 rw[hpl]at k1 k2
 have hnl:f+lo*s+E.length<=I.size:=by
  have:=congrArg ycf h5';simp only[yy,ybh,yn]at this;omega
 have hone:∀v,v∈E->v.oneCell'=ae:=cj _ _ Z;have hst:=run_storeCells_at P b (f+lo*s) t' E 0 I J.w h2 (by simpa using hnl) hone;simp only[ycl]at hst;let g:Array yh:=(I.toList.take (f+lo*s)++E++I.toList.drop (f+lo*s+E.length)).toArray
 have hstA:(storeCells A E 0).run P J.w=.ok () (J.w.setRow b g):=by
  by_cases h0:ys.length=0
  .have F:E=[]:=ybo (by rw[ln,h0];simp)
   have e1:g=I:=by
    simp only[g,F,List.append_nil,yce,ycl,ybk,yca]
   rw[e1,setRow_self J.w b I t' (0,0) h2,F];simp[storeCells]
  .rw[hA (by omega)];exact hst
 let J':Sg:={ J with m:=J.m.set id (ab b),H:=J.H.set id (.var l ae),w:=J.w.setRow b g};have zB:J'.w.heap[b]? =ab (.cells g t' (0,0)):=setRow_heap J.w b I _ t' _ h2;have hoth:∀j,b≠j->J'.w.heap[j]? =J.w.heap[j]? :=λj hj=>setRow_other J.w b j _ (Ne.symm hj)
 obtain⟨to,ok'⟩:=XE (J':=J') (mi:=ab b) (mi':=ab b) ok hH hm rfl rfl rfl rfl rfl rfl rfl (by simp[J'])
  (λj hj hne=>hoth j (λhh=>hne (by rw[hh]))) (λb' o v _ hu _=>by cases hu) (λo _ hu=>by cases hu) (.inl rfl) (λ_=>⟨rfl,l,ae,rfl⟩) (λ⟨d,st,h⟩=>by cases h)
  (λs e xs h=>by cases h) (λleaf=>⟨b,g,t',rfl,zB,by rw[h10];show yG J' l (g.toList.take S.size);rw[show g.toList.take S.size=p1++((q1++(E++q3))++p3) from by rw[k1];simp];exact Z7 leaf l _ h9,by
    rw[h10];show S.size<=g.size;have:g.size=I.size:=k2;omega⟩)
 refine ZH (J':=J') (v:=goInt ys.length) (ZE5 ho yS yQ X ?_) to ok' (by rw[Zg rfl];simp[yG,aq,goInt])
 cases U:P.info? e with
 |none=>simp[U]at hi
 |some i=>
  have hsz:i.size=s:=by rw[<-hce];simp[Program.cellsOf,U]
  have hmin:Nat.min ys.length n=ys.length:=ybi hm';rw[G];simp[Builtin.copy_,run_underlying ht,hS.len,hmin,sizeOf,typeInfo,U,hsz,hS.first,hstA,goInt,J']
end
end Go.Ev
end
section
namespace Go.Ev
def pY:yh->Bool
 |.int _ _=>ae
 |.bool _=>ae
 |_=>af
mutual
theorem pZ{w w':yad}{S S':Nat->Nat->Prop}:∀(x:Pl)(us vs:yL yh),x.flat=ae->aq w S x us->aq w' S' x vs->us=vs/\∀u,u∈us->pY u=ae
 |.int _ _,us,vs,_,h,k=>by simp only[aq]at h k;subst h;subst k;exact⟨rfl,λu e=>by rw[yav.1 e];rfl⟩
 |.bool _,us,vs,_,h,k=>by simp only[aq]at h k;subst h;subst k;exact⟨rfl,λu e=>by rw[yav.1 e];rfl⟩
 |.str _,_,_,h,_,_=>by simp[Pl.flat]at h
 |.bH,_,_,h,_,_=>by simp[Pl.flat]at h
 |.fn0,_,_,h,_,_=>by simp[Pl.flat]at h
 |.dy,_,_,h,_,_=>by simp[Pl.flat]at h
 |.bR,_,_,h,_,_=>by simp[Pl.flat]at h
 |.fQ _,_,_,h,_,_=>by simp[Pl.flat]at h
 |.agg f,us,vs,c,h,k=>by
  simp only[Pl.flat]at c;simp only[aq]at h k
  exact di f us vs c h k
 |.arr n s f,us,vs,c,h,k=>by
  simp only[Pl.flat]at c;simp only[aq]at h k
  exact di f us vs c h.2.2 k.2.2
 |.sl _ _ _,_,_,h,_,_=>by simp[Pl.flat]at h
 |.iface _ _,_,_,h,_,_=>by simp[Pl.flat]at h
theorem di{w w':yad}{S S':Nat->Nat->Prop}:∀(xs:yL Pl)(us vs:yL yh),Pl.aL xs=ae->ak w S xs us->ak w' S' xs vs->us=vs/\∀u,u∈us->pY u=ae
 |[],us,vs,_,h,k=>by simp only[ak]at h k;subst h;subst k;exact⟨rfl,λu hu=>by cases hu⟩
 |x::xs,us,vs,e,h,k=>by
  simp only[Pl.aL,yi]at e;simp only[ak]at h k;obtain⟨a,b,rfl,f,g⟩:=h;obtain⟨c,d,rfl,j,l⟩:=k;obtain⟨rfl,m⟩:=pZ x a c e.1 f j;obtain⟨rfl,s⟩:=di xs b d e.2 g l;refine⟨rfl,λu hu=> ?_⟩;rcases List.mem_append.1 hu with hu|hu
  .exact m u hu
  .exact s u hu
end
theorem qa{J J':Sg}{x:Pl}{a b:yh}(f:x.flat=ae)(ha:yH J (.p x) a)(hb:yH J' (.p x) b):a=b:=by
 cases c:x.isAgg with
 |true=>
  obtain⟨g,rfl,h⟩:=(Ya (d:=.p x) c).1 ha;obtain⟨j,rfl,k⟩:=(Ya (d:=.p x) c).1 hb;simp only[yG]at h k;obtain⟨e,_⟩:=pZ x _ _ f h k
  rw[show g=j from by cases g;cases j;simpa using e]
 |false=>
  have h:=(Zg (d:=.p x) c).1 ha;have k:=(Zg (d:=.p x) c).1 hb;simp only[yG]at h k;obtain⟨e,_⟩:=pZ x _ _ f h k;simpa using e
theorem OI(n:Nat):∀{u:yh},pY u=ae->Instr.sameBits n u u=ae:=by
 intro u h;cases u <;> first|(cases n <;> simp[Instr.sameBits];done)|(simp[pY]at h)
theorem tF{J:Sg}{x:Pl}{a:yh}(g:x.flat=ae)(ha:yH J (.p x) a):Instr.sameBits 10000 a a=ae:=by
 cases j:x.isAgg with
 |true=>
  obtain⟨c,rfl,h⟩:=(Ya (d:=.p x) j).1 ha;simp only[yG]at h;obtain⟨_,e⟩:=pZ x _ _ g h h;show(c.size==c.size&&(c.toList.zip c.toList).all λ(x,y)=>Instr.sameBits 9999 x y)=ae;simp only[beq_self_eq_true,Bool.true_and,List.all_eq_true];intro p hp
  have f:∀(l:yL yh),(∀u,u∈l->pY u=ae)->∀p,p∈l.zip l->Instr.sameBits 9999 p.1 p.2=ae:=by
   intro l
   induction l with
   |nil=>intro _ p hp;cases hp
   |cons z r s=>
    intro m p hp;simp only[List.zip_cons_cons]at hp;rcases ybz.1 hp with rfl|hp
    .exact OI 9999 (m z (yay ..))
    .exact s (λu t=>m u (yba _ t)) p hp
  exact f _ e p hp
 |false=>
  have h:=(Zg (d:=.p x) j).1 ha;simp only[yG]at h;obtain⟨_,e⟩:=pZ x _ _ g h h;exact OI 10000 (e a (yav.2 rfl))
theorem OJ{P:yg}{n:Nat}(e:∀(t:yb)(x:Pl),aO P n t x->x.flat=ae):∀(c:yL Field)(o:Nat)(xs:yL Pl),gR P (aO P n) c o xs->Pl.aL xs=ae
 |[],_,[],_=>rfl
 |[],_,_::_,h=>h.elim
 |_::_,_,[],h=>h.elim
 |f::c,o,y::g,h=>by
  obtain⟨_,_,_,_,_,_,_,a,b⟩:=h;simp only[Pl.aL,e _ _ a,OJ e c _ g b,Bool.and_self]
theorem OL:∀{xs:yL Pl},(∀y,y∈xs->y.flat=ae)->Pl.aL xs=ae
 |[],_=>rfl
 |x::xs,h=>by simp only[Pl.aL,h x (yay ..),OL λy c=>h y (yba _ c),Bool.and_self]
theorem QW{P:yg}:∀(n:Nat)(t:yb)(x:Pl),aO P n t x->x.flat=ae
 |0,_,_,h=>by simp[aO]at h
 |n+1,t,x,h=>by
  unfold aO at h;split at h
  .rfl
  .rfl
  .obtain⟨_,_,_,_,_,h⟩:=h;simp only[Pl.flat];exact OL λy c=>QW n _ y (h y c).1
  .simp only[Pl.flat];exact OJ (QW n) _ _ _ h.2
  .exact h.elim
theorem Xk{P:yg}{J:Sg}{em:Bool}:∀(n:Nat)(t:yb)(x:Pl)(a:yh),aO P n t x->yH J (.p x) a->∀d,(Instr.checkKey em (d+n) t a).run P J.w=.ok () J.w
 |0,_,_,_,h,_,_=>by simp[aO]at h
 |n+1,t,x,a,A,c,d=>by
  unfold aO at A;rw[show d+(n+1)=(d+n)+1 from rfl]
  split at A
  .rename_i g;rw[Y6 c];simp[Instr.checkKey,run_underlying g]
  .rename_i k k' z g;rw[ZG c];simp[Instr.checkKey,run_underlying g]
  .rename_i m e m' s j g;obtain⟨rfl,U,T,h3,h4,h5⟩:=A;rw[Ya (by rfl)]at c;obtain⟨E,rfl,c⟩:=c;simp only[yG]at c;obtain⟨n1,W,F⟩:=yC c;clear c W;subst n1;rw[Instr.checkKey];simp only[Sem.run_bind,run_underlying g,Result.andThen_ok];simp only[Std.Legacy.Range.forIn_eq_forIn_range',Std.Legacy.Range.size,Nat.sub_zero,Nat.add_one_sub_one,Nat.div_one];obtain⟨i,p,l,lK,G,I,M⟩:∃(i:Nat)(p l:yL yh),i=0/\E.toList=p++l/\p.length=i*s/\ak J.w J.aV j l:=⟨0,[],E.toList,rfl,rfl,by simp,F⟩;rw[<-lK];clear lK F g
   induction j generalizing i p l with
   |nil=>simp
   |cons x j X=>
    simp only[ak]at M;obtain⟨Y,Z,rfl,Q,q2⟩:=M;obtain⟨f1,f2,f3⟩:=h5 x (yay ..);obtain⟨a,S,c⟩:=jr (P:=P) (J:=J) (t:=e) (d:=.p x) G (by simpa[yG] using Q) (by rw[U];exact f2.symm) h3 h4 f3 (by show x.size≠0;omega);rw[I]at S;have s1:=WR _ _ Q;have hk:=Xk (em:=em) n e x a f1 c d;rw[yam,List.range'_succ];simp only[List.forIn_cons,Sem.run_bind,Z0 h3,U,Result.andThen_ok,S,hk,Sem.run_pure];exact X (λy hy=>h5 y (yba _ hy)) (i+1) (p++Y) Z (by rw[G,yac]) (by rw[yn,I,s1,f2,ybd,Nat.one_mul]) q2
  .rename_i fs j g;obtain⟨U,T⟩:=A;rw[Ya (by rfl)]at c;obtain⟨E,rfl,c⟩:=c;simp only[yG,aq]at c;rw[Instr.checkKey];simp only[Sem.run_bind,run_underlying g,Result.andThen_ok];rw[<-Array.forIn_toList];obtain⟨o,p,l,ho,G,I,M⟩:∃(o:Nat)(p l:yL yh),o=0/\E.toList=p++l/\p.length=o/\ak J.w J.aV j l:=⟨0,[],E.toList,rfl,rfl,rfl,c⟩;rw[<-ho]at T;clear ho c g;generalize fs.toList=L at*
   induction L generalizing j o p l with
   |nil=>simp
   |cons f L X=>
    cases j with
    |nil=>exact T.elim
    |cons x j=>
     obtain⟨a1,a2,a3,a4,a5,a6,a7,a8,a9⟩:=T;simp only[ak]at M;obtain⟨Y,Z,rfl,Q,q2⟩:=M;obtain⟨a,S,c⟩:=jr (P:=P) (J:=J) (t:=f.type) (d:=.p x) G (by simpa[yG] using Q) a3 a4 a5 a6 a7;rw[I, <-a2]at S;have s1:=WR _ _ Q;have hk:=Xk (em:=em) n f.type x a a8 c d;simp only[List.forIn_cons,a1,ne_eq,not_false_eq_true,if_true,Sem.run_bind,S,Result.andThen_ok,hk,Sem.run_pure];exact X j (o+x.size) (p++Y) Z (by rw[G,yac]) (by rw[yn,I,s1]) q2 a9
  .exact A.elim
end Go.Ev
namespace Go.Ev
structure cH(P:yg)(J:Sg)(kt:yb)(k:Pl)(F:List MapEntry->Nat->Option (Nat×yh)->Prop):Prop where
 nil:∀i,F [] i ad
 eq:∀(e:MapEntry)es i(q:Pl),aO P 20 kt q->yH J (.p q) e.key->k=q->F (e::es) i (ab (i,e.val))
 ne:∀(e:MapEntry)es i(q:Pl)r,aO P 20 kt q->yH J (.p q) e.key->k≠q->F es (i+1) r->F (e::es) i r
theorem OM{P:yg}{J:Sg}{kt:yb}{k:Pl}{a:yh}(hk:aO P 20 kt k)(ra:yH J (.p k) a):cH P J kt k λes i r=>(Instr.findAsking kt a es i).run P J.w=.ok r J.w where
 nil i:=by simp[Instr.findAsking]
 eq e es i q hq rq h:=by
  have:=zb (β:=ae) hk hq ra rq (by simp[h]);simp[Instr.findAsking,this]
 ne e es i q r hq rq h hr:=by
  have:=zb (β:=af) hk hq ra rq (by simp[h]);simp[Instr.findAsking,this,hr]
theorem ON{P:yg}{J:Sg}{kt:yb}{d:TypeDesc}{k:Pl}{a:yh}(hd:P.underlying kt=ab d)(hs:(∃q,d=.int q)\/d=.bool)(hk:aO P 20 kt k)(ra:yH J (.p k) a):
 cH P J kt k λes i r=>Instr.findNow d a es i=ab r where
 nil i:=rfl
 eq e es i q hq rq h:=by
  subst h;have hv:=qa (QW 20 kt k hk) ra rq;unfold aO at hk;rw[hd]at hk;rcases hs with⟨kk,rfl⟩|rfl
  .cases k <;> first|exact hk.elim|skip
   subst hk;have e1:=ZG rq;have e2:=ZG ra;simp[Instr.findNow,Instr.sameNow,e1,e2]
  .cases k <;> first|exact hk.elim|skip
   have e1:=Y6 rq;have e2:=Y6 ra;simp[Instr.findNow,Instr.sameNow,e1,e2]
 ne e es i q r hq rq h hr:=by
  unfold aO at hk hq;rw[hd]at hk hq;rcases hs with⟨kk,rfl⟩|rfl
  .cases k <;> first|exact hk.elim|skip
   cases q <;> first|exact hq.elim|skip
   subst hk;have hq':=hq;simp only at hq';subst hq';have e1:=ZG rq;have e2:=ZG ra;have h':¬(‹Int› :Int)=_:=λhh=>h (by rw[hh]);rw[e2]at hr ⊢;simp only[Instr.findNow,Instr.sameNow,e1,if_true];rw[beq_eq_false_iff_ne.2 (λhh=>h' hh.symm)];exact hr
  .cases k <;> first|exact hk.elim|skip
   cases q <;> first|exact hq.elim|skip
   have e1:=Y6 rq;have e2:=Y6 ra;have h':¬(‹Bool› :Bool)=_:=λhh=>h (by rw[hh]);rw[e2]at hr ⊢;simp only[Instr.findNow,Instr.sameNow,e1];rw[beq_eq_false_iff_ne.2 (λhh=>h' hh.symm)];exact hr
theorem OO{P:yg}{J:Sg}{t:yb}{k:Pl}{F:yL MapEntry->Nat->yO (Nat×yh)->Prop}(c:cH P J t k F):∀(aN:yL (Pl×Pl))(es:yL MapEntry)(i:Nat)(r:yO Pl),fe J aN es->VH P t aN->WO aN k r->
 (r=ad->F es i ad)/\∀v,r=ab v->∃(j:Nat)(u:yh),F es i (ab (j,u))/\yH J (.p v) u
 |[],[],i,r,_,_,h=>by
  simp only[WO]at h;subst h
  exact⟨λ_=>c.nil i,λv f=>by cases f⟩
 |[],_::_,_,_,h,_,_=>h.elim
 |_::_,[],_,_,h,_,_=>h.elim
 |q::l,e::es,i,r,⟨m,y,A⟩,x,h=>by
  have s:=x q (yay ..);simp only[WO]at h;rcases h with⟨g,rfl⟩|⟨g,E⟩
  .exact⟨λh=>(by cases h),λv f=>⟨i,e.val,c.eq e es i q.1 s m g,by cases f;exact y⟩⟩
  .obtain⟨G,I⟩:=OO c l es (i+1) r A (λz M=>x z (yba _ M)) E;refine⟨λh=>c.ne e es i q.1 ad s m g (G h),λv f=> ?_⟩;obtain⟨j,u,Q,S⟩:=I v f;exact⟨j,u,c.ne e es i q.1 _ s m g Q,S⟩
theorem zc{P:yg}{J:Sg}{G:yb}{k v:Pl}{F:yL MapEntry->Nat->yO (Nat×yh)->Prop}(m:cH P J G k F):∀(aN:yL (Pl×Pl))(es:yL MapEntry)(i:Nat)(l:yL (Pl×Pl)),fe J aN es->VH P G aN->QG aN k v l->
 (∃(j:Nat)(e:MapEntry),F es i (ab (i+j,e.val))/\es[j]? =ab e/\yH J (.p k) e.key/\∀c,yH J (.p k) c.key->yH J (.p v) c.val->fe J l (es.set j c))\/
 (F es i ad/\∀c,yH J (.p k) c.key->yH J (.p v) c.val->fe J l (es++[c]))
 |[],[],i,l,_,_,h=>by
  simp only[QG]at h;subst h
  exact .inr ⟨m.nil i,λc f x=>⟨f,x,aw⟩⟩
 |[],_::_,_,_,h,_,_=>h.elim
 |_::_,[],_,_,h,_,_=>h.elim
 |q::r,e::es,i,l,⟨g,I,M⟩,Q,h=>by
  have y:=Q q (yay ..);simp only[QG]at h;rcases h with⟨f,rfl⟩|⟨f,S,rfl,x⟩
  .exact .inl ⟨0,e,m.eq e es i q.1 y g f,rfl,by rw[f];exact g,λc s t=>⟨s,t,M⟩⟩
  .rcases zc m r es (i+1) S M (λz T=>Q z (yba _ T)) x with⟨j,U,A,E,W,X⟩|⟨A,E⟩
   .exact .inl ⟨j+1,U,by have:=m.ne e es i q.1 _ y g f A;rwa [show i+1+j=i+(j+1) by omega]at this,by simpa using E,W,λc s t=>⟨g,I,X c s t⟩⟩
   .exact .inr ⟨m.ne e es i q.1 _ y g f A,λc s t=>⟨g,I,E c s t⟩⟩
theorem OP{P:yg}{J:Sg}{x:yb}{k:Pl}{F:yL MapEntry->Nat->yO (Nat×yh)->Prop}(c:cH P J x k F):∀(aN:yL (Pl×Pl))(es:yL MapEntry)(i:Nat)(l:yL (Pl×Pl)),fe J aN es->VH P x aN->fT aN k l->
 (∃(j:Nat)(u:yh),F es i (ab (i+j,u))/\j < es.length/\fe J l (es.eraseIdx j))\/(F es i ad/\fe J l es)
 |[],[],i,l,_,_,h=>by
  simp only[fT]at h;subst h
  exact .inr ⟨c.nil i,aw⟩
 |[],_::_,_,_,h,_,_=>h.elim
 |_::_,[],_,_,h,_,_=>h.elim
 |q::r,e::es,i,l,⟨f,y,A⟩,E,h=>by
  have m:=E q (yay ..);simp only[fT]at h;rcases h with⟨g,rfl⟩|⟨g,G,rfl,I⟩
  .exact .inl ⟨0,e.val,c.eq e es i q.1 m f g,by simp,A⟩
  .rcases OP c r es (i+1) G A (λz M=>E z (yba _ M)) I with⟨j,u,s,t,Q⟩|⟨s,t⟩
   .exact .inl ⟨j+1,u,by have:=c.ne e es i q.1 _ m f g s;rwa [show i+1+j=i+(j+1) by omega]at this,by simpa using t,⟨f,y,Q⟩⟩
   .exact .inr ⟨c.ne e es i q.1 _ m f g s,⟨f,y,t⟩⟩
theorem OQ{J:Sg}{es:yL MapEntry}(h:ff J [] es):fe J [] es:=by
 obtain⟨l,p,_,r⟩:=h;rw[List.Perm.eq_nil p]at r;exact r
theorem OR{J:Sg}{q:Pl×Pl}{es:yL MapEntry}(h:fe J [q] es):ff J [q] es:=⟨_,.refl _,by simp,h⟩
theorem OS{k v:Pl}:∀{l:yL (Pl×Pl)},WO l k (ab v)->(k,v)∈l
 |[],h=>by simp[WO]at h
 |q::r,h=>by
  simp only[WO]at h;rcases h with⟨rfl,h⟩|⟨_,h⟩
  .cases h;exact yay ..
  .exact yba _ (OS h)
theorem OT{k:Pl}:∀{l:yL (Pl×Pl)},WO l k ad->∀q,q∈l->q.1≠k
 |[],_,q,hq=>by cases hq
 |x::r,h,q,hq=>by
  simp only[WO]at h;rcases h with⟨_,h⟩|⟨c,h⟩
  .cases h
  .rcases ybz.1 hq with rfl|hq
   .exact λe=>c e.symm
   .exact OT h q hq
theorem OU{k v:Pl}:∀{l:yL (Pl×Pl)},(l.map (·.1)).Nodup->(k,v)∈l->WO l k (ab v)
 |[],_,h=>by cases h
 |q::r,c,h=>by
  simp only[WO];rw[yaf,List.nodup_cons]at c;rcases ybz.1 h with rfl|h
  .exact .inl ⟨rfl,rfl⟩
  .refine .inr ⟨λe=>c.1 ?_,OU c.2 h⟩;rw[<-e];exact ybj.2 ⟨_,h,rfl⟩
theorem OV{k:Pl}:∀{l:yL (Pl×Pl)},(∀q,q∈l->q.1≠k)->WO l k ad
 |[],_=>by simp[WO]
 |q::r,h=>by
  simp only[WO];exact .inr ⟨λe=>h q (yay ..) e.symm,OV λx c=>h x (yba _ c)⟩
theorem ZBO{k:Pl}{r:yO Pl}{l l':yL (Pl×Pl)}(p:l'.Perm l)(c:(l.map (·.1)).Nodup)(h:WO l k r):WO l' k r:=by
 cases r with
 |none=>exact OV λq e=>OT h q (p.mem_iff.1 e)
 |some v=>exact OU ((p.map _).nodup_iff.2 c) (p.mem_iff.2 (OS h))
section
open Classical
theorem OW{k:Pl}:∀{l:yL (Pl×Pl)},(∀q,q∈l->q.1≠k)->(l.filter λq=>ag (q.1≠k))=l:=λh=>List.filter_eq_self.2 λq c=>yY (h q c)
theorem ze{k v:Pl}:∀{l m:yL (Pl×Pl)},(l.map (·.1)).Nodup->QG l k v m->m.Perm ((k,v)::l.filter λq=>ag (q.1≠k))
 |[],m,_,h=>by
  simp only[QG]at h;subst h
  exact .refl _
 |q::r,m,c,h=>by
  rw[yaf,List.nodup_cons]at c;simp only[QG]at h;rcases h with⟨rfl,rfl⟩|⟨f,j,rfl,h⟩
  .rw[List.filter_cons_of_neg (by simp),OW (λx g e=>c.1 (by rw[<-e];exact ybj.2 ⟨_,g,rfl⟩))]
  .rw[List.filter_cons_of_pos (by simpa using λe:q.1=k=>f e.symm)];exact((ze c.2 h).cons q).trans (.swap _ _ _)
theorem OX(k v:Pl):∀(l:yL (Pl×Pl)),∃m,QG l k v m
 |[]=>⟨_,rfl⟩
 |q::r=>by
  by_cases h:k=q.1
  .exact⟨_,.inl ⟨h,rfl⟩⟩
  .obtain⟨m,c⟩:=OX k v r;exact⟨_,.inr ⟨h,m,rfl,c⟩⟩
theorem zf{k:Pl}:∀{l m:yL (Pl×Pl)},(l.map (·.1)).Nodup->fT l k m->m=l.filter λq=>ag (q.1≠k)
 |[],m,_,h=>by
  simp only[fT]at h;subst h
  rfl
 |q::r,m,c,h=>by
  rw[yaf,List.nodup_cons]at c;simp only[fT]at h;rcases h with⟨rfl,rfl⟩|⟨f,j,rfl,h⟩
  .rw[List.filter_cons_of_neg (by simp),OW (λx g e=>c.1 (by rw[<-e];exact ybj.2 ⟨_,g,rfl⟩))]
  .rw[List.filter_cons_of_pos (by simpa using λe:q.1=k=>f e.symm), <-zf c.2 h]
theorem OY(k:Pl):∀(l:yL (Pl×Pl)),∃m,fT l k m
 |[]=>⟨_,rfl⟩
 |q::r=>by
  by_cases h:k=q.1
  .exact⟨_,.inl ⟨h,rfl⟩⟩
  .obtain⟨m,c⟩:=OY k r;exact⟨_,.inr ⟨h,m,rfl,c⟩⟩
theorem OZ{k:Pl}{l:yL (Pl×Pl)}(c:(l.map (·.1)).Nodup):((l.filter λq=>ag (q.1≠k)).map (·.1)).Nodup:=c.sublist ((List.filter_sublist (l:=l)).map _)
theorem ZBP{k v:Pl}{l l' m:yL (Pl×Pl)}(p:l'.Perm l)(c:(l.map (·.1)).Nodup)(h:QG l k v m):(m.map (·.1)).Nodup/\∃m',QG l' k v m'/\m'.Perm m:=by
 have f:=(p.map (·.1)).nodup_iff.2 c;obtain⟨m',g⟩:=OX k v l';have e:=ze c h;refine⟨(e.map _).nodup_iff.2 ?_,m',g,(ze f g).trans ((List.Perm.cons _ (p.filter _)).trans e.symm)⟩;rw[yaf,List.nodup_cons];refine⟨λj=> ?_,OZ c⟩;obtain⟨q,s,t⟩:=ybj.1 j;have:=(List.mem_filter.1 s).2;simp at this;exact this t
theorem ZBQ{k:Pl}{l l' m:yL (Pl×Pl)}(p:l'.Perm l)(c:(l.map (·.1)).Nodup)(h:fT l k m):(m.map (·.1)).Nodup/\∃m',fT l' k m'/\m'.Perm m:=by
 have e:=(p.map (·.1)).nodup_iff.2 c;obtain⟨m',f⟩:=OY k l';rw[zf c h];exact⟨OZ c,m',f,by rw[zf e f];exact p.filter _⟩
end
theorem tG{P:yg}{J:Sg}{c:yb}{k:Pl}{F:yL MapEntry->Nat->yO (Nat×yh)->Prop}(e:cH P J c k F)(aN:yL (Pl×Pl))(es:yL MapEntry)(i:Nat)(r:yO Pl)(h:ff J aN es)(f:VH P c aN)(g:WO aN k r):
 (r=ad->F es i ad)/\∀v,r=ab v->∃(j:Nat)(u:yh),F es i (ab (j,u))/\yH J (.p v) u:=by
 obtain⟨l,p,m,s⟩:=h;exact OO e l es i r s (λq t=>f q (p.mem_iff.1 t)) (ZBO p m g)
theorem zg{P:yg}{J:Sg}{y:yb}{k v:Pl}{F:yL MapEntry->Nat->yO (Nat×yh)->Prop}(A:cH P J y k F)(aN:yL (Pl×Pl))(es:yL MapEntry)(i:Nat)(l:yL (Pl×Pl))(h:ff J aN es)(E:VH P y aN)(hp:QG aN k v l):
 (∃(j:Nat)(e:MapEntry),F es i (ab (i+j,e.val))/\es[j]? =ab e/\yH J (.p k) e.key/\∀c,yH J (.p k) c.key->yH J (.p v) c.val->ff J l (es.set j c))\/
 (F es i ad/\∀c,yH J (.p k) c.key->yH J (.p v) c.val->ff J l (es++[c])):=by
 obtain⟨G,p,I,M⟩:=h;obtain⟨f,g,Q,z⟩:=ZBP p I hp;rcases zc A G es i g M (λq S=>E q (p.mem_iff.1 S)) Q with⟨j,e,m,s,T,U⟩|⟨m,s⟩
 .exact .inl ⟨j,e,m,s,T,λc t x=>⟨g,z,f,U c t x⟩⟩
 .exact .inr ⟨m,λc t x=>⟨g,z,f,s c t x⟩⟩
theorem ZJQ{P:yg}{J:Sg}{m:yb}{k:Pl}{F:yL MapEntry->Nat->yO (Nat×yh)->Prop}(t:cH P J m k F)(aN:yL (Pl×Pl))(es:yL MapEntry)(i:Nat)(l:yL (Pl×Pl))(h:ff J aN es)(x:VH P m aN)(hp:fT aN k l):
 (∃(j:Nat)(u:yh),F es i (ab (i+j,u))/\j < es.length/\ff J l (es.eraseIdx j))\/(F es i ad/\ff J l es):=by
 obtain⟨y,p,z,A⟩:=h;obtain⟨c,e,E,s⟩:=ZBQ p z hp;rcases OP t y es i e A (λq G=>x q (p.mem_iff.1 G)) E with⟨j,u,f,g,I⟩|⟨f,g⟩
 .exact .inl ⟨j,u,f,g,e,s,c,I⟩
 .exact .inr ⟨f,e,s,c,g⟩
theorem VE{P:yg}{J:Sg}{g:yb}{k:Pl}{a:yh}(f:eS P g=ae)(j:aO P 20 g k)(l:yH J (.p k) a):
 ∃F,cH P J g k F/\∀es r,F es 0 r->(Instr.findKey g a es).run P J.w=.ok r J.w:=by
 unfold eS at f;split at f
 .rename_i q c;exact⟨_,ON c (.inl ⟨_,rfl⟩) j l,λes r h=>Go.MapKept.run_findKey c h⟩
 .rename_i c;exact⟨_,ON c (.inr rfl) j l,λes r h=>Go.MapKept.run_findKey c h⟩
 .rename_i n e c;exact⟨_,OM j l,λes r h=>by rw[run_findKey_eq J.w (by rw[c])];exact h⟩
 .rename_i m c;exact⟨_,OM j l,λes r h=>by rw[run_findKey_eq J.w (by rw[c])];exact h⟩
 .cases f
theorem Yt{P:yg}{w:yad}{b:Nat}{es:Array MapEntry}{c:Nat}(h:w.heap[b]? =ab (.map es c)):(getObj b).run P w=.ok (.map es c) w:=Go.MapKept.run_getObj_map h
theorem tH{J:Sg}{x y:Dv}{u v:yh}(h1:yH J x u)(h2:yH J y v):yH J (.bf [x,y]) (.tuple #[u,v]):=by
 rw[Zg rfl];simp only[yG];exact⟨#[u,v],rfl,by simp only[aB];exact⟨u,[v],rfl,h1,v,[],rfl,h2,rfl⟩⟩
theorem ZLG{J:Sg}{k:Pl}{v:yh}(h:yH J (.p k) v):pz J.w J.aV k v:=
 ⟨λc=>by
  obtain⟨f,g,e⟩:=h.1 c;simp only[yG]at e;exact⟨f,g,e⟩,λc=>by
  have:=h.2 c;simpa only[yG] using this⟩
theorem PA{J:Sg}{k:Pl}{v:yh}(h:pz J.w J.aV k v):yH J (.p k) v:=
 ⟨λc=>by
  obtain⟨e,f,g⟩:=h.1 c;exact⟨e,f,by simpa only[yG] using g⟩,λc=>by
  have:=h.2 c;simpa only[yG] using this⟩
theorem PB{J:Sg}{c:IntKind}{z:Int}{v:yh}(h:yH J (.p (.int c z)) v):v=.int c z:=by
 have:=h.2 rfl;simp only[yG,aq]at this;simpa using this
theorem ZJR{P:yg}{n:Nat}{e:yb}{f:IntKind}{z:Int}(h:aO P (n+1) e (.int f z)):P.underlying e=ab (.int f):=by
 unfold aO at h;split at h <;> rename_i c <;> first|(cases c;subst h;assumption)|cases c|exact h.elim
theorem ZBR{P:yg}{n:Nat}{e:yb}{c:IntKind}{q:Pl}(h:aO P (n+1) e q)(hu:P.underlying e=ab (.int c)):∃z,q=.int c z:=by
 unfold aO at h;rw[hu]at h
 cases q with
 |int k z=>
  have:k=c:=h;subst this
  exact⟨z,rfl⟩
 |_=>exact h.elim
theorem zh{P:yg}{J:Sg}{f:yb}{c:IntKind}{z:Int}{q:Pl}{v:yh}(h1:aO P 20 f (.int c z))(h2:aO P 20 f q)(r1:yH J (.p (.int c z)) v)(g:yH J (.p q) v):q=.int c z:=by
 obtain⟨h,rfl⟩:=ZBR (n:=19) h2 (ZJR (n:=19) h1);have e:=PB r1;rw[e]at g;cases PB g;rfl
theorem PC{J:Sg}{id:Nat}{v:yh}(h:yH J (.cz id) v):∃b,J.m[id]? =ab (ab b)/\v=.map (ab b):=by
 have:=h.2 rfl;simp only[yG]at this;obtain⟨b,c,_,e⟩:=this;exact⟨b,c,by simpa using e⟩
theorem PD{J:Sg}{id v:Nat}{k:Pl}{x:yh}(h:yH J (.cC id v k) x):∃c,x=.map c/\pA J id v k (.map c):=by
 have:=h.2 rfl;simp only[yG]at this;obtain⟨c,e,f⟩:=this;exact⟨c,by simpa using e,f⟩
theorem zi{P:yg}{J:Sg}{A:yb}{k:Pl}{b:Nat}{F:yL MapEntry->Nat->yO (Nat×yh)->Prop}(m:cH P J A k F):∀(l:yL (Pl×yL (Pl×Pl)))(es:yL MapEntry)(i:Nat),fR J b l es->fH P A l->(l.map (·.1)).Nodup->
 (k ∉ l.map (·.1)->F es i ad)/\∀aN,(k,aN)∈l->∃(j:Nat)(g:MapEntry)(c:Nat),F es i (ab (i+j,g.val))/\es[j]? =ab g/\yH J (.p k) g.key/\g.val=.map (ab c)/\J.X b c/\iG J c aN/\l[j]? =ab (k,aN)
 |[],[],i,_,_,_=>⟨λ_=>m.nil i,λaN h=>by cases h⟩
 |[],_::_,_,h,_,_=>h.elim
 |_::_,[],_,h,_,_=>h.elim
 |q::l,e::es,i,⟨s,⟨c,G,I,M⟩,Q⟩,E,t=>by
  have x:=E q (yay ..);rw[yaf,List.nodup_cons]at t;obtain⟨S,T⟩:=zi m l es (i+1) Q (λz U=>E z (yba _ U)) t.2;refine⟨λh=> ?_,λaN h=> ?_⟩
  .rw[yaf,ybz,not_or]at h;exact m.ne e es i q.1 ad x s h.1 (S h.2)
  .rcases ybz.1 h with h|h
   .subst h;exact⟨0,e,c,m.eq e es i k x s rfl,rfl,s,G,I,M,rfl⟩
   .have y:k≠q.1:=λW=>t.1 (W ▸ ycv (f:=(·.1)) h);obtain⟨j,g,Y,Z,b2,b3,b4,b5,b6,b7⟩:=T aN h;refine⟨j+1,g,Y, ?_,by simpa using b2,b3,b4,b5,b6,by simpa using b7⟩;have:=m.ne e es i q.1 _ x s y Z
    rwa [show i+1+j=i+(j+1) by omega]at this
theorem tI{J:Sg}{b:Nat}:∀{l:yL (Pl×yL (Pl×Pl))}{es:yL MapEntry}{f:MapEntry},fR J b l es->f∈es->∃q,q∈l/\yH J (.p q.1) f.key/\∃c,f.val=.map (ab c)/\J.X b c/\iG J c q.2
 |[],[],_,_,h=>by cases h
 |[],_::_,_,h,_=>h.elim
 |_::_,[],_,h,_=>h.elim
 |q::l,e::es,f,⟨g,j,m⟩,h=>by
  rcases ybz.1 h with rfl|h
  .exact⟨q,yay ..,g,j⟩
  .obtain⟨s,t,x⟩:=tI m h;exact⟨s,yba _ t,x⟩
theorem ZLH{l:yL (Pl×yL (Pl×Pl))}{k:Pl}{x y:yL (Pl×Pl)}(c:(l.map (·.1)).Nodup)(hx:(k,x)∈l)(e:(k,y)∈l):x=y:=by
 induction l with
 |nil=>cases hx
 |cons q r g=>
  rw[yaf,List.nodup_cons]at c;rcases ybz.1 hx with h1|h1 <;> rcases ybz.1 e with h2|h2
  .rw[<-h1]at h2;exact(Prod.mk.inj h2).2.symm
  .exact absurd (ycv (f:=(·.1)) h2) (by rw[<-h1]at c;exact c.1)
  .exact absurd (ycv (f:=(·.1)) h1) (by rw[<-h2]at c;exact c.1)
  .exact g c.2 h1 h2
section
variable{P:yg}{o:Oper}{a:Act}{J:Sg}{ts:yL Dv}
theorem ZNo(ok:Ok J)(W:ay J ts a){t f A E u:yb}{x ix:yo}{id v:Nat}{k:Pl}{l:yL (Pl×yL (Pl×Pl))}(ho:o.op=.lookup t x ix af)(hu:P.underlying t=ab (.map f A))(hx:Zo P ts t x=.cz id)(hk:Zo P ts f ix=.p k)
 (hH:J.H[id]? =ab (.maps v E u l)) (G:eS P f=ae) (hz:∃i,P.info? A=ab i/\i.zero=ab (.map ad)) (X:aO P 20 f k) (c2:fH P f l):YH P o a J (.cC id v k) J.H:=by
 have y:=Zh (P:=P) W t x;rw[hx]at y;obtain⟨b,Y,Z⟩:=PC y;have g:=Zh (P:=P) W f ix;rw[hk]at g;obtain⟨b',I,m,h1,M,⟨l',p,nd,mr⟩,h4,h5⟩:=ok.cA id _ _ hH Y;cases h1;obtain⟨F,hF,zU⟩:=VE (P:=P) G X g;have g6:=Xk (em:=I.isEmpty) 20 f k _ X g 9980;have Q:(l'.map (·.1)).Nodup:=((p.map _).nodup_iff).2 nd;obtain⟨a1,a2⟩:=zi hF l' I.toList 0 mr (λq hq=>c2 q (p.mem_iff.1 hq)) Q;by_cases s:k∈l.map (·.1)
 .obtain⟨⟨k',aN⟩,z,rfl⟩:=ybj.1 s;obtain⟨j,en,c,b1,b2,b3,b4,_⟩:=a2 aN (p.mem_iff.2 z);have S:=zU _ _ b1
  have e:(Instr.lookup t (a.eval x) (a.eval ix) af).run P J.w=.ok en.val J.w:=by
   simp only[Instr.lookup,Sem.run_bind,run_underlying hu,Result.andThen_ok,Z,Yt M,Sem.run_pure,g6,S];rfl
  refine Zi ok (by simp[execOp,ho,e];rfl) ?_;rw[b4,Zg rfl];simp only[yG];exact⟨ab c,rfl,v,E,u,l,hH,ym _,λ_=>.inr ⟨b,I,m,en,Y,M,ybq b2,ZLG b3,b4.symm⟩⟩
 .have S:=zU _ _ (a1 (λh=>s ((p.map _).mem_iff.1 h)));obtain⟨i,hi,T⟩:=hz;have U:(zeroValue A).run P J.w=.ok (.map ad) J.w:=by simp[zeroValue,typeInfo,hi,T]
  have e:(Instr.lookup t (a.eval x) (a.eval ix) af).run P J.w=.ok (.map ad) J.w:=by
   simp only[Instr.lookup,Sem.run_bind,run_underlying hu,Result.andThen_ok,Z,Yt M,Sem.run_pure,g6,S,U];rfl
  refine Zi ok (by simp[execOp,ho,e];rfl) ?_;rw[Zg rfl];simp only[yG];exact⟨ad,rfl,v,E,u,l,hH,ym _,λ_=>.inl ⟨s,rfl⟩⟩
theorem PE(ok:Ok J){id v:Nat}{S u s:yb}{j:IntKind}{z:Int}{l:yL (Pl×yL (Pl×Pl))}{aN:yL (Pl×Pl)}{y:yO Nat}(h:pA J id v (.int j z) (.map y))(hH:J.H[id]? =ab (.maps v S u l))
 (f0:aO P 20 s (.int j z)) (f1:fH P s l) (g:lV l (.int j z) aN):
 (y=ad/\aN=[]/\Pl.int j z ∉ l.map (·.1))\/∃b c,y=ab c/\J.m[id]? =ab (ab b)/\J.X b c/\iG J c aN/\(Pl.int j z,aN)∈l:=by
 obtain⟨v',t2,u2,l2,F,q2,T⟩:=h;rw[hH]at F;cases F;rcases T rfl with⟨t,A⟩|⟨b,es,E,en,t,A,U,W,G⟩
 .rcases g with g|⟨_,g⟩
  .exact absurd (ycv (f:=(·.1)) g) t
  .cases A;exact .inl ⟨rfl,g,t⟩
 .obtain⟨b',Y,x,Z,I,⟨l',p,nd,mr⟩,_⟩:=ok.cA id _ _ hH t;cases Z;rw[A]at I;cases I;obtain⟨q,M,k2,c,k3,k4,k5⟩:=tI mr U;have hq:=zh f0 (f1 q (p.mem_iff.1 M)) (PA W) k2
  have e:(Pl.int j z,q.2)∈l:=by
   rw[<-hq];exact p.mem_iff.1 M
  have Q:aN=q.2:=by
   rcases g with g|⟨g,_⟩
   .exact ZLH nd g e
   .exact absurd (ycv (f:=(·.1)) e) g
  rw[k3]at G;cases G;exact .inr ⟨b,c,rfl,t,k4,by rw[Q];exact k5,by rw[Q];exact e⟩
theorem PF(ok:Ok J)(yK:ay J ts a){t m E t' u G:yb}{x ix:yo}{e:Bool}{id v:Nat}{X:IntKind}{z:Int}{k:Pl}{l:yL (Pl×yL (Pl×Pl))}{aN:yL (Pl×Pl)}(ho:o.op=.lookup t x ix e)(hu:P.underlying t=ab (.map m E))(hx:Zo P ts t x=.cC id v (.int X z))(hk:Zo P ts m ix=.p k)
 (hH:J.H[id]? =ab (.maps v t' u l)) (Y:eS P m=ae) (f0:aO P 20 G (.int X z)) (f1:fH P G l) (hh:lV l (.int X z) aN) (c1:aO P 20 m k) (c2:VH P m aN):
 (∀y,WO aN k (ab y)->YH P o a J (if e then .bf [.p y,.p (.bool ae)] else .p y) J.H)/\
 (jl P E=ae->WO aN k ad->YH P o a J (if e then .bf [YI P E,.p (.bool af)] else YI P E) J.H):=by
 have I:=Zh (P:=P) yK t x;rw[hx]at I;obtain⟨ob,T,Z⟩:=PD I;have s:=Zh (P:=P) yK m ix;rw[hk]at s;obtain⟨F,hF,zU⟩:=VE (P:=P) Y c1 s
 obtain⟨h,e1,e2⟩:∃h:Array MapEntry,((ob=ad/\h= #[])\/∃c f,ob=ab c/\J.w.heap[c]? =ab (.map h f))/\ff J aN h.toList:=by
  rcases PE (P:=P) ok Z hH f0 f1 hh with⟨rfl,rfl,_⟩|⟨b,c,rfl,_,_,⟨h,f,M,h2,_⟩,_⟩
  .exact⟨#[],.inl ⟨rfl,rfl⟩,[],.refl _,List.nodup_nil,aw⟩
  .exact⟨h,.inr ⟨c,f,rfl,M⟩,h2⟩
 have U:=Xk (em:=h.isEmpty) 20 m k _ c1 s 9980;refine⟨λy hy=> ?_,λW hy=> ?_⟩
 .obtain⟨_,g2⟩:=tG hF aN h.toList 0 _ e2 c2 hy;obtain⟨j,w,g3,g4⟩:=g2 y rfl;have Q:=zU _ _ g3
  have g:(Instr.lookup t (a.eval x) (a.eval ix) e).run P J.w=.ok (if e then .tuple #[w,.bool ae] else w) J.w:=by
   rcases e1 with⟨rfl,rfl⟩|⟨c,f,rfl,M⟩
   .simp only[Instr.lookup,Sem.run_bind,run_underlying hu,Result.andThen_ok,T,Sem.run_pure,U,Q]
   .simp only[Instr.lookup,Sem.run_bind,run_underlying hu,Result.andThen_ok,T,Yt M,Sem.run_pure,U,Q]
  refine Zi ok (by simp[execOp,ho,g];rfl) ?_;cases e
  .exact g4
  .exact tH g4 (Yc _)
 .obtain⟨g1,_⟩:=tG hF aN h.toList 0 _ e2 c2 hy;have Q:=zU _ _ (g1 rfl)
  obtain⟨w,hw,S⟩:∃w,(zeroValue E).run P J.w=.ok w J.w/\yH J (YI P E) w:=by
   unfold jl at W;split at W
   .rename_i i hi
    cases A:i.zero with
    |none=>simp[A]at W
    |some w=>
     refine⟨w,by simp[zeroValue,typeInfo,hi,A], ?_⟩;unfold YI;rw[hi];simp only[A];exact VB
   .cases W
  have g:(Instr.lookup t (a.eval x) (a.eval ix) e).run P J.w=.ok (if e then .tuple #[w,.bool af] else w) J.w:=by
   rcases e1 with⟨rfl,rfl⟩|⟨c,f,rfl,M⟩
   .simp only[Instr.lookup,Sem.run_bind,run_underlying hu,Result.andThen_ok,T,Sem.run_pure,U,Q,hw]
   .simp only[Instr.lookup,Sem.run_bind,run_underlying hu,Result.andThen_ok,T,Yt M,Sem.run_pure,U,Q,hw]
  refine Zi ok (by simp[execOp,ho,g];rfl) ?_;cases e
  .exact S
  .exact tH S (Yc _)
end
open Classical in
theorem zj{l:yL (Pl×yL (Pl×Pl))}{k:Pl}{x:yL (Pl×Pl)}(h:k∈l.map (·.1)):gm l k x=l.map λq=>if q.1=k then(k,x) else q:=yW h
theorem zk{l:yL (Pl×yL (Pl×Pl))}{k:Pl}{x:yL (Pl×Pl)}(h:k∈l.map (·.1)):(gm l k x).map (·.1)=l.map (·.1):=by
 classical
 rw[zj h,ybc];apply List.map_congr_left;intro q _;show(if q.1=k then(k,x) else q).1=q.1
 split
 .rename_i e;exact e.symm
 .rfl
open Classical in
theorem PG{J J':Sg}(f:bO J J')(y:J'.X=J.X){b c:Nat}{k:Pl}{x:yL (Pl×Pl)}(I:∀j,j≠c->J'.w.heap[j]? =J.w.heap[j]?)(hx:iG J' c x):∀(l:yL (Pl×yL (Pl×Pl)))(es:yL MapEntry),fR J b l es->
 (∀q e,(q,e)∈l.zip es->(q.1=k↔e.val=.map (ab c)))->fR J' b (l.map λq=>if q.1=k then(k,x) else q) es
 |[],[],_,_=>trivial
 |[],_::_,h,_=>h.elim
 |_::_,[],h,_=>h.elim
 |q::l,e::es,⟨M,⟨t,m,z,A,g,T,U,W⟩,Y⟩,Q=>by
  have S:=Q q e (by simp);refine⟨?_, ?_,PG f y I hx l es Y λq e h=>Q q e (by simp[h])⟩
  .show yH J' (.p (if q.1=k then(k,x) else q).1) e.key
   split
   .rename_i s;rw[<-s];exact Y5 f M
   .exact Y5 f M
  .show∃E,e.val=.map (ab E)/\J'.X b E/\iG J' E (if q.1=k then(k,x) else q).2
   split
   .rename_i s
    have F:t=c:=by
     have:=S.1 s;rw[m]at this;simpa using this
    rw[F]at m z;exact⟨c,m,by rw[y];exact z,hx⟩
   .rename_i s;have G:t≠c:=λZ=>s (S.2 (by rw[m,Z]));exact⟨t,m,by rw[y];exact z,A,g,(I t G).trans T,VC f U,W⟩
theorem ZLI{J:Sg}{b c:Nat}{k:Pl}{j:Nat}{s:MapEntry}{x:yL (Pl×Pl)}{l:yL (Pl×yL (Pl×Pl))}{es:yL MapEntry}(y:(l.map (·.1)).Nodup)(z:(es.map (·.val)).Nodup)(hl:l[j]? =ab (k,x))(he:es[j]? =ab s)(hc:s.val=.map (ab c)):
 ∀q e,(q,e)∈l.zip es->(q.1=k↔e.val=.map (ab c)):=by
 intro q e h;obtain⟨i,t⟩:=List.mem_iff_getElem?.1 h;rw[List.getElem?_zip_eq_some]at t;obtain⟨g,m⟩:=t;constructor
 .intro A
  have f:i=j:=by
   refine(List.getElem?_inj (i:=i) (j:=j) (by rw[yx];exact(yp.1 g).1) y).1 ?_;rw[yah,yah,g,hl,yz,yz,A]
  subst f;rw[he]at m;cases m;exact hc
 .intro E
  have f:i=j:=by
   refine(List.getElem?_inj (i:=i) (j:=j) (by rw[yx];exact(yp.1 m).1) z).1 ?_;rw[yah,yah,m,he,yz,yz,E,hc]
  subst f;rw[hl]at g;cases g;rfl
theorem PH{J:Sg}{b:Nat}:∀{l:yL (Pl×yL (Pl×Pl))}{es:yL MapEntry},fR J b l es->l.length=es.length
 |[],[],_=>rfl
 |[],_::_,h=>h.elim
 |_::_,[],h=>h.elim
 |_::l,_::es,h=>by simp[PH h.2.2]
theorem PI{J:Sg}{b:Nat}{k:Pl}{x:yL (Pl×Pl)}:∀{l:yL (Pl×yL (Pl×Pl))}{es:yL MapEntry},fR J b l es->(k,x)∈l->∃(j:Nat)(f:MapEntry)(c:Nat),l[j]? =ab (k,x)/\es[j]? =ab f/\f.val=.map (ab c)/\yH J (.p k) f.key/\J.X b c/\iG J c x
 |[],[],_,h=>by cases h
 |[],_::_,h,_=>h.elim
 |_::_,[],h,_=>h.elim
 |q::l,e::es,⟨g,⟨c,m,s,t⟩,y⟩,h=>by
  rcases ybz.1 h with h|h
  .subst h;exact⟨0,e,c,rfl,rfl,m,g,s,t⟩
  .obtain⟨j,f,z,A,E,F⟩:=PI y h;exact⟨j+1,f,z,by simpa using A,by simpa using E,F⟩
section
variable{P:yg}{o:Oper}{a:Act}{J:Sg}{ts:yL Dv}
open Classical in
theorem PJ(ok:Ok J){id b c v:Nat}{t u:yb}{l:yL (Pl×yL (Pl×Pl))}{k:Pl}{x x':yL (Pl×Pl)}{es es':Array MapEntry}{Y clock':Nat}(hH:J.H[id]? =ab (.maps v t u l))(hm:J.m[id]? =ab (ab b))(hx:J.X b c)
 (hb:J.w.heap[c]? =ab (.map es Y)) (W:(k,x)∈l) (hc:∀(bb:Nat)(M:Array MapEntry)(T j:Nat)(en:MapEntry),J.m[id]? =ab (ab bb)->J.w.heap[bb]? =ab (.map M T)->M.toList[j]? =ab en->yH J (.p k) en.key->en.val=.map (ab c))
 (hl:ff J x' es'.toList) (hbo:QU es' clock'):
 let J':Sg:={ J with H:=J.H.set id (.maps v t u (gm l k x')),w:={ J.w with heap:=J.w.heap.setIfInBounds c (.map es' clock')}}
 To J J'/\Ok J':=by
 intro J';obtain⟨g1,Z⟩:=Go.MapKept.heap_set (w:=J.w) (o':=.map es' clock') hb;have Z:∀j,j≠c->J'.w.heap[j]? =J.w.heap[j]? :=λj hj=>Z j hj;have g1:J'.w.heap[c]? =ab (.map es' clock'):=g1;have Q:k∈l.map (·.1):=ycv (f:=(·.1)) W;have hno:=(ok.cQ b c hx).2.2.1;have I:∀j y,J.m[j]? =ab (ab y)->J'.w.heap[y]? =J.w.heap[y]? :=λj y h=>Z y λe=>hno j (by rw[<-e];exact h);have Hs:∀j,j≠id->J'.H[j]? =J.H[j]? :=λj hj=>al (Ne.symm hj);have Hi:J'.H[id]? =ab (.maps v t u (gm l k x')):=ai hH;have U:J'.w.heap.size=J.w.heap.size:=by simp[J']
 have G:bO J J':=by
  refine⟨λF o' w E z=>⟨?_,z.1,λj e hj he=> ?_⟩,λj y E z=>⟨E, ?_⟩,λj s len A cc E=> ?_,λj y E z=>⟨E, ?_⟩,λj v' s st e d E=> ?_,λj v' t' u' l' E=> ?_,λj v' l' E=> ?_⟩
  .rw[World.cell?_of_block (w:=J.w) (Z F λe=>by subst e;simp[World.cell?,hb]at E)];exact E
  .by_cases g:j=id
   .subst g;exact(z.2 j _ hj hH).elim
   .rw[Hs j g]at he;exact z.2 j e hj he
  .obtain⟨d,st,z⟩:=z;by_cases g:j=id
   .subst g;rw[hH]at z;cases z
   .exact⟨d,st,by rw[Hs j g];exact z⟩
  .obtain⟨e,ys,z,S,h4⟩:=E;by_cases g:j=id
   .subst g;rw[hH]at z;cases z
   .refine⟨e,ys,by rw[Hs j g];exact z,S,λhl=> ?_⟩;rcases h4 hl with h5|⟨F,cur,h5,h6,h7,h8⟩
    .exact .inl h5
    .exact .inr ⟨F,cur,h5,h6,(I j F h5).trans h7,h8⟩
  .obtain⟨d,st,z⟩:=z;by_cases g:j=id
   .subst g;rw[hH]at z;cases z
   .exact⟨d,st,by rw[Hs j g];exact z⟩
  .by_cases g:j=id
   .subst g;rw[hH]at E;cases E
   .exact⟨v',st,d,by rw[Hs j g];exact E,ym _,λ_=>⟨rfl,λF cur z S=>⟨cur,(I j F z).trans S,rfl⟩⟩⟩
  .by_cases g:j=id
   .subst g;rw[hH]at E;cases E;exact⟨v,_,Hi,ym _,rfl,λ_=>⟨zk Q,λF es2 cl z S=>(I j F z).trans S⟩⟩
   .exact⟨v',l',by rw[Hs j g];exact E,ym _,rfl,λ_=>⟨rfl,λF es2 cl z S=>(I j F z).trans S⟩⟩
  .by_cases g:j=id
   .subst g;rw[hH]at E;cases E
   .exact⟨v',l',by rw[Hs j g];exact E,ym _,λ_=>rfl⟩
 have hinn:iG J' c x':=⟨es',clock',g1,VC G hl,hbo⟩;refine⟨⟨G,rfl,rfl,rfl,rfl,rfl,Nat.le_of_eq U.symm,λF E z S=>Z F λe=>S b (by rw[e];exact hx),λj y h=>.inl h,ym _,λF c' h=>.inl ⟨F,h⟩⟩, ?_⟩;refine⟨by show J.m.length=(J.H.set id _).length;rw[yax];exact ok.len,ok.inj,λj y h=>by rw[U];exact ok.lt j y h,λj e y E z=> ?_,λF h=>ok.new F (by rw[<-U];exact h),ok.own,λF c' h=> ?_,ok.one⟩
 .by_cases g:j=id
  .subst g;have E:J'.H[j]? =ab e:=E;rw[Hi]at E;cases E;have z:J.m[j]? =ab y:=z;obtain⟨bb,M,T,e1,e2,⟨l',p,nd,mr⟩,nv,obo⟩:=ok.cA j _ _ hH z;subst e1;rw[hm]at z;cases z;have nd':(l'.map (·.1)).Nodup:=((p.map _).nodup_iff).2 nd;obtain⟨i,en,c',q1,q2,q3,q4,q5,q6⟩:=PI mr (p.mem_iff.2 W)
   have hcc:c'=c:=by
    have:=hc b M T i en hm e2 q2 q4;rw[q3]at this;simpa using this
   subst hcc;refine⟨b,M,T,rfl,(I j b hm).trans e2,⟨l'.map λq=>if q.1=k then(k,x') else q, ?_,by rw[zk Q];exact nd,PG G rfl Z hinn l' _ mr (ZLI (J:=J) (b:=b) nd' nv q1 q2 q3)⟩,nv,obo⟩
   rw[zj Q];exact p.map _
  .have E:J'.H[j]? =ab e:=E;rw[Hs j g]at E;have z:J.m[j]? =ab y:=z;refine V6 G (λF hb'=>I j F (by rw[z,hb'])) (λF c' hb' hx'=>⟨hx',Z c' λe=> ?_⟩) (ok.cA j e y E z);subst e;have:=ok.one F b c' hx' hx;subst this;exact g (ok.inj j id F (by rw[z,hb']) hm)
 .obtain⟨E,z,S,i,e,h4,h5,h6⟩:=ok.cQ F c' h;refine⟨by rw[U];exact E,z,S, ?_⟩;by_cases hii:i=id
  .subst hii;exact⟨i,_,h4,Hi,rfl⟩
  .exact⟨i,e,h4,by rw[Hs i hii];exact h5,h6⟩
end
theorem mE{J:Sg}{id:Nat}{v:yh}(h:yH J (.mp id) v):∃b,J.m[id]? =ab (ab b)/\v=.map (ab b):=by
 rw[Zg rfl]at h;simp only[yG]at h;obtain⟨b,c,_,e⟩:=h;exact⟨b,c,by simpa using e⟩
theorem zl{J:Sg}:∀(l:yL (Pl×Pl))(es:yL MapEntry),fe J l es->es.length=l.length
 |[],[],_=>rfl
 |[],_::_,h=>h.elim
 |_::_,[],h=>h.elim
 |_::l,_::es,h=>by rw[yam,yam,zl l es h.2.2]
theorem tJ{es:Array MapEntry}{c:Nat}(h:QU es c)(j:Nat){f:MapEntry->MapEntry}(F:∀e,(f e).born=e.born):QU (es.modify j f) c:=by
 have m:∀(q:Nat)g,(es.modify j f)[q]? =ab g->∃s,es[q]? =ab s/\g.born=s.born:=by
  intro q g l;rw[Array.getElem?_modify]at l;split at l
  .obtain⟨t,x,y⟩:=yq.1 l;exact⟨t,x,by rw[<-y,F]⟩
  .exact⟨g,l,rfl⟩
 refine⟨λq g l=> ?_,λq E g z l A G=> ?_⟩
 .obtain⟨t,x,y⟩:=m q g l;rw[y];exact h.1 q t x
 .obtain⟨t,x,y⟩:=m q g l;obtain⟨I,M,Q⟩:=m E z A;exact h.2 q E t I x M (by rw[<-y, <-Q,G])
theorem nZ{es:Array MapEntry}{c:Nat}(h:QU es c){e:MapEntry}(he:e.born=c):QU (es.push e) (c+1):=by
 have j:∀(q:Nat)f,(es.push e)[q]? =ab f->(es[q]? =ab f/\f.born < c)\/(q=es.size/\f.born=c):=by
  intro q f g;rw[Array.getElem?_push]at g;split at g
  .rename_i y;cases g;exact .inr ⟨y,he⟩
  .exact .inl ⟨g,h.1 q f g⟩
 refine⟨λq f g=> ?_,λq t f l g s z=> ?_⟩
 .rcases j q f g with⟨_,m⟩|⟨_,m⟩ <;> omega
 .rcases j q f g with⟨m,A⟩|⟨m,A⟩ <;> rcases j t l s with⟨x,E⟩|⟨x,E⟩
  .exact h.2 q t f l m x z
  .omega
  .omega
  .omega
theorem ZBS{es:Array MapEntry}{c:Nat}(h:QU es c)(j:Nat):QU (es.eraseIdxIfInBounds j) c:=by
 have g:∀(q:Nat)e,(es.eraseIdxIfInBounds j)[q]? =ab e->es[if q < j then q else q+1]? =ab e:=by
  intro q e f;rw[<-ybr,Array.toList_eraseIdxIfInBounds,List.getElem?_eraseIdx]at f;rw[<-ybr];split at f <;> rename_i s
  .rw[yW s];exact f
  .rw[yX s];exact f
 refine⟨λq e f=>h.1 _ e (g q e f),λq t e l f m x=> ?_⟩;have:=h.2 _ _ e l (g q e f) (g t l m) x;split at this <;> split at this <;> omega
section
variable{P:yg}{o:Oper}{a:Act}{J:Sg}{ts:yL Dv}{hs hs':yL aj}{C:yL Prop}{d:Dv}{H':yL ar}
theorem ZGI(ok:Ok J)(W:ay J ts a){t:yb}{x ix:yo}{e:Bool}(ho:o.op=.lookup t x ix e)(h:bm P o ts J.H hs=ab (C,d,hs'))(hc:aY C):YH P o a J d J.H:=by
 simp only[bm,ho]at h;have hx:=Zh (P:=P) W t x;split at h
 .rename_i X Z id M g;rw[g]at hx;obtain⟨b,hm,hv⟩:=mE hx;have m:=Zh (P:=P) W X ix;split at h
  .rename_i k t' aN v Q E G;rw[E]at m;obtain⟨b',Y,S,h1,h2,h3,h3b⟩:=ok.cA id _ _ G hm;cases h1;split at h
   .rename_i c;simp only[yj,yl]at h;obtain⟨rfl,rfl,rfl⟩:=h;obtain⟨s,I,T,_⟩:=hc;obtain⟨F,hF,zU⟩:=VE (P:=P) c s m;obtain⟨_,g2⟩:=tG hF aN Y.toList 0 _ h3 I T;obtain⟨j,u,g3,g4⟩:=g2 v rfl;have g5:=zU _ _ g3;have g6:=Xk (em:=Y.isEmpty) 20 X k _ s m 9980
    have f:(Instr.lookup t (a.eval x) (a.eval ix) e).run P J.w=.ok (if e then .tuple #[u,.bool ae] else u) J.w:=by
     simp only[Instr.lookup,Sem.run_bind,run_underlying M,Result.andThen_ok,hv,Yt h2,Sem.run_pure,g6,g5]
    refine Zi ok (by simp[execOp,ho,f];rfl) ?_;cases e
    .exact g4
    .exact tH g4 (Yc _)
   .cases h
  .rename_i k t' aN Q E G;rw[E]at m;obtain⟨b',Y,S,h1,h2,h3,h3b⟩:=ok.cA id _ _ G hm;cases h1;split at h
   .rename_i c;simp only[yi]at c;simp only[yj,yl]at h;obtain⟨rfl,rfl,rfl⟩:=h;obtain⟨s,I,T,_⟩:=hc;obtain⟨F,hF,zU⟩:=VE (P:=P) c.1 s m;obtain⟨g1,_⟩:=tG hF aN Y.toList 0 _ h3 I T;have g5:=zU _ _ (g1 rfl);have g6:=Xk (em:=Y.isEmpty) 20 X k _ s m 9980
    obtain⟨hz,A⟩:∃z,(zeroValue Z).run P J.w=.ok z J.w/\yH J (YI P Z) z:=by
     have h9:=c.2;unfold jl at h9;split at h9
     .rename_i i hi
      cases U:i.zero with
      |none=>simp[U]at h9
      |some z=>
       refine⟨z,by simp[zeroValue,typeInfo,hi,U], ?_⟩;unfold YI;rw[hi];simp only[U];exact VB
     .cases h9
    have f:(Instr.lookup t (a.eval x) (a.eval ix) e).run P J.w=.ok (if e then .tuple #[hz,.bool af] else hz) J.w:=by
     simp only[Instr.lookup,Sem.run_bind,run_underlying M,Result.andThen_ok,hv,Yt h2,Sem.run_pure,g6,g5,A.1]
    refine Zi ok (by simp[execOp,ho,f];rfl) ?_;cases e
    .exact A.2
    .exact tH A.2 (Yc _)
   .cases h
  .cases h
 .rename_i X Z id M g;split at h
  .rename_i k v t' u' l E G;split at h
   .rename_i c;simp only[yi]at c;simp only[yj,yl]at h;obtain⟨rfl,rfl,rfl⟩:=h;obtain⟨s,I,_⟩:=hc;exact ZNo ok W ho M g E G c.1 (ZJF c.2) s I
   .cases h
  .cases h
 .rename_i X Z id v ik z M g;split at h
  .rename_i k v' t' u' l aN y Q E G;split at h
   .rename_i kt0 et0 hu0;split at h
    .rename_i c;simp only[yi]at c;have:=ydb c.2;subst this;simp only[yj,yl]at h;obtain⟨rfl,rfl,rfl⟩:=h;obtain⟨f0,f1,hh,s,I,T,_⟩:=hc;exact(PF ok W ho M g E G c.1 f0 f1 hh s I).1 y T
    .cases h
   .cases h
  .rename_i k v' t' u' l aN Q E G;split at h
   .rename_i kt0 et0 hu0;split at h
    .rename_i c;simp only[yi]at c;have:=ydb c.1.2;subst this;simp only[yj,yl]at h;obtain⟨rfl,rfl,rfl⟩:=h;obtain⟨f0,f1,hh,s,I,T,_⟩:=hc;exact(PF ok W ho M g E G c.1.1 f0 f1 hh s I).2 c.2 T
    .cases h
   .cases h
  .cases h
 .cases h
theorem ZGJ(ok:Ok J)(s:ay J ts a){c:Call}(ho:o.op=.call c)(j:c.callee=.builtin .len)(h:bm P o ts J.H hs=ab (C,d,hs'))(hc:aY C):YH P o a J d J.H:=by
 simp only[bm,ho,j]at h;split at h
 .rename_i x t y e;have l:=Zh (P:=P) s t x;split at h
  .rename_i U W id z f;rw[f]at l;obtain⟨b,A,E⟩:=mE l;split at h
   .rename_i X aN F;obtain⟨Y,m,g,G,I,M,Q⟩:=ok.cA id _ _ F A;cases G;simp only[yj,yl]at h;obtain⟨rfl,rfl,rfl⟩:=h
    have S:m.toList.length=aN.length:=by
     obtain⟨Z,p,_,T⟩:=M;rw[zl _ _ T,p.length_eq]
    refine Zi ok (mz ho j y e (v:=goInt m.size) (by rw[E];simp[Builtin.len_,run_underlying z,Yt I])) ?_;rw[<-ybh,S];exact Zu _ _
   .cases h
  .cases h
 .cases h
theorem ZE6(ok:Ok J){t:yb}(ho:o.op=.makeMap t ad):YH P o a J (.mp J.H.length) (J.H++[.map t []]):=by
 let J':Sg:={ J with m:=J.m++[ab J.w.heap.size],H:=J.H++[.map t []],w:=J.w.alloc (.map #[] 0)};have g:J'.w.heap[J.w.heap.size]? =ab (.map #[] 0):=heap_alloc_new J.w _
 have c:J'.m[J.H.length]? =ab (ab J.w.heap.size):=by
  show(J.m++[ab J.w.heap.size])[J.H.length]? =_;rw[yan (by rw[ok.len];exact ym _),ok.len];simp
 obtain⟨to,e⟩:=WE (J':=J') ok rfl rfl rfl rfl (World.grownBy_alloc J.w (.map #[] 0) ad) (.inr ⟨_,rfl,ym _,by simp[J']⟩)
  (λf=>⟨J.w.heap.size, #[],0,rfl,g,⟨[],.refl _,List.nodup_nil,aw⟩,by simp[QU]⟩)
 refine ZH (J':=J') (v:=.map (ab J.w.heap.size)) ?_ to e ?_
 .have:(Instr.makeMap t ad).run P J.w=.ok (.map (ab J.w.heap.size)) (J.w.alloc (.map #[] 0)):=rfl;simp[execOp,ho,this,J']
 .rw[Zg rfl];simp only[yG];exact⟨_,c,⟨t,[],by simp[J']⟩,rfl⟩
theorem lc(ok:Ok J){id b:Nat}{t:yb}{aN l:yL (Pl×Pl)}{es es':Array MapEntry}{c clock':Nat}(hH:J.H[id]? =ab (.map t aN))(hm:J.m[id]? =ab (ab b))(hb:J.w.heap[b]? =ab (.map es c))
 (hl:ff J l es'.toList) (g:QU es' clock'):
 let J':Sg:={ J with m:=J.m.set id (ab b),H:=J.H.set id (.map t l),w:={ J.w with heap:=J.w.heap.setIfInBounds b (.map es' clock')}}
 To J J'/\Ok J':=by
 intro J';obtain⟨A,E⟩:=Go.MapKept.heap_set (w:=J.w) (o':=.map es' clock') hb
 exact XE (J':=J') (mi:=ab b) (mi':=ab b) ok hH hm rfl rfl rfl rfl rfl rfl rfl (by simp[J'])
  (λj I x=>E j (λF=>x (by rw[F]))) (λM o v y z G=>by
    cases y;simp[World.cell?,hb]at G) (λo _ z=>by cases z) (.inl rfl) (λ⟨d,st,h⟩=>by cases h) (λ_=>⟨rfl,t,l,rfl⟩)
  (λs e Q h=>by cases h) (λf=>⟨b,es',clock',rfl,A,VC f hl,g⟩)
theorem Zzz(ok:Ok J)(W:ay J ts a){t g X:yb}{m k x:yo}{id:Nat}{t':yb}{kk v:Pl}{aN l:yL (Pl×Pl)}(ho:o.op=.mapUpdate t m k x)(hu:P.underlying t=ab (.map g X))
 (hx:Zo P ts t m=.mp id) (hk:Zo P ts g k=.p kk) (hv:(Zo P ts X x).flat=ab v) (hH:J.H[id]? =ab (.map t' aN)) (Y:eS P g=ae) (S:aO P 20 g kk) (c2:VH P g aN) (c3:QG aN kk v.soft l):
 YH P o a J .an (J.H.set id (.map t' l)):=by
 have E:=Zh (P:=P) W t m;rw[hx]at E;obtain⟨b,Z,G⟩:=mE E;have c:=Zh (P:=P) W g k;rw[hk]at c;have I:=(Wk.p (kh v)).dv (pH hv (Zh (P:=P) W X x));obtain⟨b',h,f,h1,A,h3,M⟩:=ok.cA id _ _ hH Z;cases h1;obtain⟨F,hF,zU⟩:=VE (P:=P) Y S c;have g6:=Xk (em:=af) 20 g kk _ S c 9980;rcases zg hF aN h.toList 0 l h3 c2 c3 with⟨j,e,f1,f2,f3,f4⟩|⟨f1,f2⟩
 .have T:=zU _ _ f1;rw[yau]at T;have U:h[j]? =ab e:=by rw[<-ybr];exact f2
  have s:e.key=a.eval k:=qa (QW 20 g kk S) f3 c
  have y:Instr.sameBits 10000 e.key (a.eval k)=ae:=by
   rw[s];exact tF (QW 20 g kk S) c
  have hes:(h.modify j λe=>{ e with key:=a.eval k,val:=a.eval x}).toList=h.toList.set j { e with key:=a.eval k,val:=a.eval x}:=by
   apply ybg;intro i;rw[ybr,Array.getElem?_modify,ybm,ybr];by_cases Q:j=i
   .subst Q;have hlt:j < h.toList.length:=by simpa using(ycr.1 U).1
    simp[U,hlt];exact(ycr.1 U).1
   .simp[Q]
  obtain⟨to,z⟩:=lc (es':=h.modify j λe=>{ e with key:=a.eval k,val:=a.eval x}) (clock':=f) ok hH Z A (l:=l) (by rw[hes];exact f4 _ c I) (tJ M j λe=>rfl);refine Qx ?_ to z;simp only[execOp,ho,G,Instr.mapUpdate,Sem.run_bind,run_underlying hu,Result.andThen_ok,Yt A,g6,T,Instr.keyThatStays,U,yz,Option.getD_some,y,if_true,Sem.run_pure,Go.MapKept.run_setObj_map _ A]
 .have T:=zU _ _ f1;obtain⟨to,z⟩:=lc (es':=h.push { key:=a.eval k,val:=a.eval x,born:=f}) (clock':=f+1) ok hH Z A (l:=l) (by rw[Array.toList_push];exact f2 _ c I) (nZ M rfl);refine Qx ?_ to z;simp only[execOp,ho,G,Instr.mapUpdate,Sem.run_bind,run_underlying hu,Result.andThen_ok,Yt A,g6,T,Sem.run_pure,Go.MapKept.run_setObj_map _ A]
theorem ZGK(ok:Ok J)(W:ay J ts a){t g X:yb}{m k x:yo}{id:Nat}{t':yb}{kk v:Pl}{aN l:yL (Pl×Pl)}(ho:o.op=.insert t m k x)(hu:P.underlying t=ab (.map g X))
 (hx:Zo P ts t m=.mp id) (hk:Zo P ts g k=.p kk) (hv:(Zo P ts X x).flat=ab v) (hH:J.H[id]? =ab (.map t' aN)) (Y:eS P g=ae) (S:aO P 20 g kk) (c2:VH P g aN) (c3:QG aN kk v.soft l):
 YH P o a J .an (J.H.set id (.map t' l)):=by
 have E:=Zh (P:=P) W t m;rw[hx]at E;obtain⟨b,Z,G⟩:=mE E;have c:=Zh (P:=P) W g k;rw[hk]at c;have I:=(Wk.p (kh v)).dv (pH hv (Zh (P:=P) W X x));obtain⟨b',h,f,h1,A,h3,M⟩:=ok.cA id _ _ hH Z;cases h1;obtain⟨F,hF,zU⟩:=VE (P:=P) Y S c;have g6:=Xk (em:=af) 20 g kk _ S c 9980;rcases zg hF aN h.toList 0 l h3 c2 c3 with⟨j,e,f1,f2,f3,f4⟩|⟨f1,f2⟩
 .have T:=zU _ _ f1;rw[yau]at T;have U:h[j]? =ab e:=by rw[<-ybr];exact f2
  have s:e.key=a.eval k:=qa (QW 20 g kk S) f3 c
  have y:Instr.sameBits 10000 e.key (a.eval k)=ae:=by
   rw[s];exact tF (QW 20 g kk S) c
  have hes:(h.modify j λe=>{ e with key:=a.eval k,val:=a.eval x}).toList=h.toList.set j { e with key:=a.eval k,val:=a.eval x}:=by
   apply ybg;intro i;rw[ybr,Array.getElem?_modify,ybm,ybr];by_cases Q:j=i
   .subst Q;have hlt:j < h.toList.length:=by simpa using(ycr.1 U).1
    simp[U,hlt];exact(ycr.1 U).1
   .simp[Q]
  obtain⟨to,z⟩:=lc (es':=h.modify j λe=>{ e with key:=a.eval k,val:=a.eval x}) (clock':=f) ok hH Z A (l:=l) (by rw[hes];exact f4 _ c I) (tJ M j λe=>rfl);refine Qx ?_ to z;simp only[execOp,ho,G,Instr.mapUpdate,Sem.run_bind,run_underlying hu,Result.andThen_ok,Yt A,g6,T,Instr.keyThatStays,U,yz,Option.getD_some,y,if_true,Sem.run_pure,Go.MapKept.run_setObj_map _ A]
 .have T:=zU _ _ f1;obtain⟨to,z⟩:=lc (es':=h.push { key:=a.eval k,val:=a.eval x,born:=f}) (clock':=f+1) ok hH Z A (l:=l) (by rw[Array.toList_push];exact f2 _ c I) (nZ M rfl);refine Qx ?_ to z;simp only[execOp,ho,G,Instr.mapUpdate,Sem.run_bind,run_underlying hu,Result.andThen_ok,Yt A,g6,T,Sem.run_pure,Go.MapKept.run_setObj_map _ A]
theorem PK{x y:yo}{t u:yb}{c:Call}{w':yad}(ho:o.op=.call c)(hc:c.callee=.builtin .delete)(f:c.args.toList=[x,y])(e:c.argTypes.toList=[t,u]){v:yh}
 (h:(Builtin.delete_ #[t,u] o.type #[a.eval x,a.eval y]).run P J.w=.ok v w'):(execOp a.eval o).run P J.w=.ok (.value v) w':=by
 have g:c.args= #[x,y]:=by rw[<-yca (xs:=c.args),f]
 have j:c.argTypes= #[t,u]:=by rw[<-yca (xs:=c.argTypes),e]
 simp[execOp,ho,resolve,hc,g,j,invoke,builtin,h]
theorem ZGL(ok:Ok J)(S:ay J ts a){c:Call}{t u y et:yb}{m k:yo}{id:Nat}{T:yb}{kk:Pl}{aN l:yL (Pl×Pl)}(ho:o.op=.call c)(U:c.callee=.builtin .delete)(W:c.args.toList=[m,k])(f:c.argTypes.toList=[t,u])
 (hu:P.underlying t=ab (.map y et)) (hx:Zo P ts t m=.mp id) (hk:Zo P ts u k=.p kk) (hH:J.H[id]? =ab (.map T aN)) (M:eS P y=ae) (X:aO P 20 y kk) (c2:VH P y aN) (c3:fT aN kk l):
 YH P o a J (.bf []) (J.H.set id (.map T l)):=by
 have z:=Zh (P:=P) S t m;rw[hx]at z;obtain⟨b,Q,A⟩:=mE z;have h:=Zh (P:=P) S u k;rw[hk]at h;obtain⟨b',G,e,h1,x,h3,E⟩:=ok.cA id _ _ hH Q;cases h1;obtain⟨F,hF,Y⟩:=VE (P:=P) M X h;have Z:=Xk (em:=G.isEmpty) 20 y kk _ X h 9980
 have g:∀{J':Sg},yH J' (.bf []) (.tuple #[]):=by
  intro J';rw[Zg rfl];simp only[yG];exact⟨#[],rfl,by simp[aB]⟩
 rcases ZJQ hF aN G.toList 0 l h3 c2 c3 with⟨j,q,f1,f2,f3⟩|⟨f1,f2⟩
 .have I:=Y _ _ f1;rw[yau]at I;obtain⟨to,s⟩:=lc (es':=G.eraseIdxIfInBounds j) (clock':=e) ok hH Q x (l:=l) (by rw[Array.toList_eraseIdxIfInBounds];exact f3) (ZBS E j);refine ZH (v:=.tuple #[]) (PK ho U W f ?_) to s g;simp[Builtin.delete_,run_underlying hu,A,Yt x,Z,I,Go.MapKept.run_setObj_map _ x]
 .have I:=Y _ _ f1;obtain⟨to,s⟩:=lc (es':=G) (clock':=e) ok hH Q x (l:=l) f2 E;refine ZH (v:=.tuple #[]) (PK ho U W f ?_) to s g;simp[Builtin.delete_,run_underlying hu,A,Yt x,Z,I,Go.MapKept.run_setObj_map _ x]
end
end Go.Ev
end
section
namespace Go.Ev
section
variable{P:yg}{o:Oper}{a:Act}{J:Sg}{ts:yL Dv}
theorem ZBT(ok:Ok J){t u:yb}(ho:o.op=.makeMap t ad):YH P o a J (.cz J.H.length) (J.H++[.maps 0 t u []]):=by
 let J':Sg:={ J with m:=J.m++[ab J.w.heap.size],H:=J.H++[.maps 0 t u []],w:=J.w.alloc (.map #[] 0)};have g:J'.w.heap[J.w.heap.size]? =ab (.map #[] 0):=heap_alloc_new J.w _
 have c:J'.m[J.H.length]? =ab (ab J.w.heap.size):=by
  show(J.m++[ab J.w.heap.size])[J.H.length]? =_;rw[yan (by rw[ok.len];exact ym _),ok.len];simp
 obtain⟨to,e⟩:=WE (J':=J') ok rfl rfl rfl rfl (World.grownBy_alloc J.w (.map #[] 0) ad) (.inr ⟨_,rfl,ym _,by simp[J']⟩)
  (λf=>⟨J.w.heap.size, #[],0,rfl,g,⟨[],.refl _,List.nodup_nil,aw⟩,List.nodup_nil,by simp[QU]⟩)
 refine ZH (J':=J') (v:=.map (ab J.w.heap.size)) ?_ to e ?_
 .have:(Instr.makeMap t ad).run P J.w=.ok (.map (ab J.w.heap.size)) (J.w.alloc (.map #[] 0)):=rfl;simp[execOp,ho,this,J']
 .rw[Zg rfl];simp only[yG];exact⟨_,c,⟨0,t,u,[],by simp[J']⟩,rfl⟩
theorem ZGM(ok:Ok J){t:yb}(ho:o.op=.makeMap t ad):YH P o a J (.pm J.H.length 0) (J.H++[.bA 0 []]):=by
 let J':Sg:={ J with m:=J.m++[ab J.w.heap.size],H:=J.H++[.bA 0 []],w:=J.w.alloc (.map #[] 0)};have g:J'.w.heap[J.w.heap.size]? =ab (.map #[] 0):=heap_alloc_new J.w _
 have c:J'.m[J.H.length]? =ab (ab J.w.heap.size):=by
  show(J.m++[ab J.w.heap.size])[J.H.length]? =_;rw[yan (by rw[ok.len];exact ym _),ok.len];simp
 obtain⟨to,e⟩:=WE (J':=J') ok rfl rfl rfl rfl (World.grownBy_alloc J.w (.map #[] 0) ad) (.inr ⟨_,rfl,ym _,by simp[J']⟩)
  (λf=>.inr ⟨J.w.heap.size, #[],0,rfl,g,⟨[],.refl _,List.nodup_nil,aw⟩,by simp[QU]⟩)
 refine ZH (J':=J') (v:=.map (ab J.w.heap.size)) ?_ to e ?_
 .have:(Instr.makeMap t ad).run P J.w=.ok (.map (ab J.w.heap.size)) (J.w.alloc (.map #[] 0)):=rfl;simp[execOp,ho,this,J']
 .rw[Zg rfl];simp only[yG];exact⟨_,rfl,0,[],by simp[J'],ym _,λ_=>⟨_,rfl,c⟩⟩
theorem ZLJ{b:Nat}{c:yb}{m:IntKind}{z:Int}{l:yL (Pl×yL (Pl×Pl))}{es:yL MapEntry}(t:fR J b l es)(A:(l.map (·.1)).Nodup)(f0:aO P 20 c (.int m z))(f1:fH P c l){i j:Nat}{e1 e2:MapEntry}
 (h1:es[i]? =ab e1) (h2:es[j]? =ab e2) (r1:yH J (.p (.int m z)) e1.key) (E:yH J (.p (.int m z)) e2.key):i=j:=by
 have f:∀{l:yL (Pl×yL (Pl×Pl))}{es:yL MapEntry},fR J b l es->∀{i:Nat}{e:MapEntry},es[i]? =ab e->∃q,l[i]? =ab q/\yH J (.p q.1) e.key:=by
  intro l
  induction l with
  |nil=>intro es h i e g;cases es with
   |nil=>simp at g
   |cons _ _=>exact h.elim
  |cons q r F=>
   intro es h i e g
   cases es with
   |nil=>exact h.elim
   |cons x X=>
    obtain⟨G,_,I⟩:=h
    cases i with
    |zero=>cases g;exact⟨q,rfl,G⟩
    |succ i=>simpa using F I (by simpa using g)
 obtain⟨M,s,Q⟩:=f t h1;obtain⟨S,y,T⟩:=f t h2;have U:=zh f0 (f1 M (ybq s)) r1 Q;have W:=zh f0 (f1 S (ybq y)) E T;refine(List.getElem?_inj (i:=i) (j:=j) (by rw[yx];exact(yp.1 s).1) A).1 ?_;rw[yah,yah,s,y,yz,yz,U,W]
theorem ZGN(ok:Ok J)(yK:ay J ts a){t E et t' u W:yb}{m k x:yo}{id v:Nat}{Y:IntKind}{z:Int}{kk y:Pl}{l:yL (Pl×yL (Pl×Pl))}{aN g:yL (Pl×Pl)}(ho:o.op=.mapUpdate t m k x)(hu:P.underlying t=ab (.map E et))
 (hx:Zo P ts t m=.cC id v (.int Y z)) (hk:Zo P ts E k=.p kk) (hv:(Zo P ts et x).flat=ab y) (hH:J.H[id]? =ab (.maps v t' u l)) (hkt:eS P E=ae) (f0:aO P 20 W (.int Y z)) (f1:fH P W l) (h:(Pl.int Y z,aN)∈l)
 (c1:aO P 20 E kk) (c2:VH P E aN) (c3:QG aN kk y.soft g):YH P o a J .an (J.H.set id (.maps v t' u (gm l (.int Y z) g))):=by
 have Z:=Zh (P:=P) yK t m;rw[hx]at Z;obtain⟨ob,hmv,hat⟩:=PD Z;have s:=Zh (P:=P) yK E k;rw[hk]at s;have hvv:=(Wk.p (kh y)).dv (pH hv (Zh (P:=P) yK et x))
 obtain⟨b,c,rfl,hm,hX,⟨I,A,G,h3,h3b⟩,hcc⟩:∃b c,ob=ab c/\J.m[id]? =ab (ab b)/\J.X b c/\iG J c aN/\
  (∀(bb:Nat)(M:Array MapEntry)(ocl j:Nat)(en:MapEntry),J.m[id]? =ab (ab bb)->J.w.heap[bb]? =ab (.map M ocl)->M.toList[j]? =ab en->yH J (.p (.int Y z)) en.key->en.val=.map (ab c)):=by
  rcases PE (P:=P) ok hat hH f0 f1 (.inl h) with⟨_,_,q⟩|⟨b,c,rfl,q2,q3,q4,_⟩
  .exact absurd (ycv (f:=(·.1)) h) q
  .refine⟨b,c,rfl,q2,q3,q4,λbb M ocl j en g1 g2 g3 g4=> ?_⟩;obtain⟨v',t2,u2,l2,p1,p2,p3⟩:=hat
   rw[hH]at p1;cases p1;rcases p3 rfl with⟨a1,_⟩|⟨b2,es2,cl2,en2,a1,a2,a3,a4,a5⟩
   .exact absurd (ycv (f:=(·.1)) h) a1
   .rw[a1]at g1;cases g1;rw[a2]at g2;cases g2;obtain⟨b',es',clock',h1,G,⟨l',p,nd,mr⟩,_⟩:=ok.cA id _ _ hH a1;cases h1;rw[a2]at G;cases G;obtain⟨i,hi⟩:=List.mem_iff_getElem?.1 a3;have:=ZLJ (P:=P) mr (((p.map _).nodup_iff).2 nd) f0 (λq hq=>f1 q (p.mem_iff.1 hq)) hi g3 (PA a4) g4;subst this;rw[hi]at g3;cases g3;exact a5.symm
 obtain⟨F,hF,zU⟩:=VE (P:=P) hkt c1 s;have g6:=Xk (em:=af) 20 E kk _ c1 s 9980;rcases zg hF aN I.toList 0 g h3 c2 c3 with⟨j,e,Q,f2,f3,f4⟩|⟨Q,f2⟩
 .have g5:=zU _ _ Q;rw[yau]at g5;have he:I[j]? =ab e:=by rw[<-ybr];exact f2
  have S:e.key=a.eval k:=qa (QW 20 E kk c1) f3 s
  have T:Instr.sameBits 10000 e.key (a.eval k)=ae:=by
   rw[S];exact tF (QW 20 E kk c1) s
  have hes:(I.modify j λe=>{ e with key:=a.eval k,val:=a.eval x}).toList=I.toList.set j { e with key:=a.eval k,val:=a.eval x}:=by
   apply ybg;intro i;rw[ybr,Array.getElem?_modify,ybm,ybr];by_cases hij:j=i
   .subst hij;have hlt:j < I.toList.length:=by simpa using(ycr.1 he).1
    simp[he,hlt];exact(ycr.1 he).1
   .simp[hij]
  obtain⟨to,U⟩:=PJ (es':=I.modify j λe=>{ e with key:=a.eval k,val:=a.eval x}) (clock':=A) (x':=g) ok hH hm hX G h hcc (by rw[hes];exact f4 _ s hvv) (tJ h3b j λe=>rfl);refine Qx ?_ to U;simp only[execOp,ho,hmv,Instr.mapUpdate,Sem.run_bind,run_underlying hu,Result.andThen_ok,Yt G,g6,g5,Instr.keyThatStays,he,yz,Option.getD_some,T,if_true,Sem.run_pure,Go.MapKept.run_setObj_map _ G]
 .have g5:=zU _ _ Q;obtain⟨to,U⟩:=PJ (es':=I.push { key:=a.eval k,val:=a.eval x,born:=A}) (clock':=A+1) (x':=g) ok hH hm hX G h hcc (by rw[Array.toList_push];exact f2 _ s hvv) (nZ h3b rfl);refine Qx ?_ to U;simp only[execOp,ho,hmv,Instr.mapUpdate,Sem.run_bind,run_underlying hu,Result.andThen_ok,Yt G,g6,g5,Sem.run_pure,Go.MapKept.run_setObj_map _ G]
end
end Go.Ev
end
section
namespace Go.Ev
theorem zm{J:Sg}{b:Nat}:∀{l:yL (Pl×yL (Pl×Pl))}{es:yL MapEntry},l.length=es.length->(∀(i:Nat)q e,l[i]? =ab q->es[i]? =ab e->yH J (.p q.1) e.key/\∃c,e.val=.map (ab c)/\J.X b c/\iG J c q.2)->fR J b l es
 |[],[],_,_=>trivial
 |[],_::_,h,_=>by simp at h
 |_::_,[],h,_=>by simp at h
 |q::l,e::es,h,k=>⟨(k 0 q e rfl rfl).1,(k 0 q e rfl rfl).2,zm (by simpa using h) λi q e f g=>k (i+1) q e (by simpa using f) (by simpa using g)⟩
theorem zn{J:Sg}{b:Nat}:∀{l:yL (Pl×yL (Pl×Pl))}{es:yL MapEntry},fR J b l es->∀(i:Nat)q e,l[i]? =ab q->es[i]? =ab e->yH J (.p q.1) e.key/\∃c,e.val=.map (ab c)/\J.X b c/\iG J c q.2
 |[],_,_,_,_,_,h,_=>by simp at h
 |_::_,[],h,_,_,_,_,_=>h.elim
 |q::l,e::es,⟨j,m,s⟩,0,_,_,f,g=>by
  cases f;cases g
  exact⟨j,m⟩
 |q::l,e::es,⟨j,m,s⟩,i+1,t,x,f,g=>zn s i t x (by simpa using f) (by simpa using g)
theorem PL{α:Type}{x:α}:∀{l:yL α}(j:Nat),l.Nodup->x ∉ l->(l.set j x).Nodup
 |[],_,_,_=>by simp
 |y::l,0,h,k=>by
  rw[List.set_cons_zero,List.nodup_cons];rw[List.nodup_cons]at h
  exact⟨λq=>k (yba _ q),h.2⟩
 |y::l,j+1,h,k=>by
  rw[List.set_cons_succ,List.nodup_cons];rw[List.nodup_cons]at h;rw[ybz,not_or]at k
  exact⟨λq=>by
   rcases List.mem_or_eq_of_mem_set q with q|q
   .exact h.1 q
   .exact k.1 q.symm,PL j h.2 k.2⟩
section
variable{P:yg}{o:Oper}{a:Act}{J:Sg}{ts:yL Dv}
def mF(J:Sg)(id e b v v2:Nat)(t u:yb)(l:yL (Pl×yL (Pl×Pl)))(es:Array MapEntry)(c:Nat):Sg:=
 { F:=J.F,B:=J.B,m:=J.m.set e ad,H:=(J.H.set id (.maps (v+1) t u l)).set e (.bA (v2+1) []),w:={ J.w with heap:=J.w.heap.setIfInBounds b (.map es c)},
   X:=λB C=>(B=b/\∃f,f∈es.toList/\f.val=.map (ab C))\/(B≠b/\J.X B C)}
theorem PM(ok:Ok J){id f b c v v2:Nat}{t u:yb}{l l':yL (Pl×yL (Pl×Pl))}{x:yL (Pl×Pl)}{es es':Array MapEntry}{clock clock':Nat}(hH:J.H[id]? =ab (.maps v t u l))(hm:J.m[id]? =ab (ab b))(hb:J.w.heap[b]? =ab (.map es clock))
 (M:J.H[f]? =ab (.bA v2 x)) (S:J.m[f]? =ab (ab c)) (Y:∀T C,T∈es'.toList->T.val=.map (ab C)->C=c\/J.X b C)
 (hent:bO J (mF J id f b v v2 t u l' es' clock')->(∀j,j≠b->(mF J id f b v v2 t u l' es' clock').w.heap[j]? =J.w.heap[j]?)->∃l1,l1.Perm l'/\(l'.map (·.1)).Nodup/\fR (mF J id f b v v2 t u l' es' clock') b l1 es'.toList)
 (hnv:(es'.toList.map (·.val)).Nodup) (hbo:QU es' clock'):To J (mF J id f b v v2 t u l' es' clock')/\Ok (mF J id f b v v2 t u l' es' clock'):=by
 obtain⟨g1,g2⟩:=Go.MapKept.heap_set (w:=J.w) (o':=.map es' clock') hb;generalize E:mF J id f b v v2 t u l' es' clock'=J' at hent ⊢;have g2:∀j,j≠b->J'.w.heap[j]? =J.w.heap[j]? :=λj Z=>by rw[<-E];exact g2 j Z
 have g1:J'.w.heap[b]? =ab (.map es' clock'):=by rw[<-E];exact g1
 have hne:id≠f:=λe=>by
  rw[e,M]at hH;cases hH
 have U:∀j,j≠f->J'.m[j]? =J.m[j]? :=λj Z=>by rw[<-E];exact al (Ne.symm Z)
 have m2:J'.m[f]? =ab ad:=by rw[<-E];exact ai S
 have mo:∀j y,J'.m[j]? =ab (ab y)->j≠f/\J.m[j]? =ab (ab y):=λj y h=>by
  by_cases Z:j=f
  .subst Z;rw[m2]at h;cases h
  .exact⟨Z,by rw[<-U j Z];exact h⟩
 have Hs:∀j,j≠id->j≠f->J'.H[j]? =J.H[j]? :=λj z g=>by
  rw[<-E];show((J.H.set id _).set f _)[j]? =_;rw[al (Ne.symm g),al (Ne.symm z)]
 have Hi:J'.H[id]? =ab (.maps (v+1) t u l'):=by
  rw[<-E];show((J.H.set id _).set f _)[id]? =_;rw[al (Ne.symm hne)];exact ai hH
 have H2:J'.H[f]? =ab (.bA (v2+1) []):=by
  rw[<-E];exact ai (y:=.bA v2 x) (by rw[al hne];exact M)
 have hob:∀j y,j≠id->J.m[j]? =ab (ab y)->J'.w.heap[y]? =J.w.heap[y]? :=λj y Z h=>g2 y λe=>Z (ok.inj j id y h (by rw[e];exact hm));have hsz:J'.w.heap.size=J.w.heap.size:=by rw[<-E];simp[mF]
 have eF:J'.F=J.F:=by rw[<-E];rfl
 have eB:J'.B=J.B:=by rw[<-E];rfl
 have eX:∀B C,J'.X B C↔(B=b/\∃T,T∈es'.toList/\T.val=.map (ab C))\/(B≠b/\J.X B C):=λB C=>by rw[<-E];rfl
 have leaf:bO J J':=by
  refine⟨λQ o' w z g=>⟨?_,by rw[eF,eB];exact g.1,λj e Z he=> ?_⟩,λj y z g=> ?_,λj s len A cc z=> ?_,λj y z g=> ?_,λj v' s st e d z=> ?_,λj v' t' u' l2 z=> ?_,λj v' l2 z=> ?_⟩
  .rw[World.cell?_of_block (w:=J.w) (g2 Q λe=>by subst e;simp[World.cell?,hb]at z)];exact z
  .obtain⟨W,k2⟩:=mo j Q Z;by_cases hji:j=id
   .subst hji;exact(g.2 j _ k2 hH).elim
   .rw[Hs j hji W]at he;exact g.2 j e k2 he
  .obtain⟨d,st,g⟩:=g;have I:j≠id:=λe=>by subst e;rw[hH]at g;cases g
   have G:j≠f:=λe=>by subst e;rw[M]at g;cases g
   exact⟨by rw[U j G];exact z,d,st,by rw[Hs j I G];exact g⟩
  .obtain⟨e,ys,g,h5,h6⟩:=z;have I:j≠id:=λe=>by subst e;rw[hH]at g;cases g
   have G:j≠f:=λe=>by subst e;rw[M]at g;cases g
   refine⟨e,ys,by rw[Hs j I G];exact g,h5,λhl=> ?_⟩;rcases h6 hl with⟨h7,h8⟩|⟨Q,cur,h7,h8,h9,h10⟩
   .exact .inl ⟨by rw[U j G];exact h7,h8⟩
   .exact .inr ⟨Q,cur,by rw[U j G];exact h7,h8,(hob j Q I h7).trans h9,h10⟩
  .obtain⟨d,st,g⟩:=g;have I:j≠id:=λe=>by subst e;rw[hH]at g;cases g
   have G:j≠f:=λe=>by subst e;rw[M]at g;cases g
   exact⟨by rw[U j G];exact z,d,st,by rw[Hs j I G];exact g⟩
  .have I:j≠id:=λe=>by subst e;rw[hH]at z;cases z
   have G:j≠f:=λe=>by subst e;rw[M]at z;cases z
   exact⟨v',st,d,by rw[Hs j I G];exact z,ym _,λ_=>⟨U j G,λQ cur h5 h6=>⟨cur,(hob j Q I h5).trans h6,rfl⟩⟩⟩
  .have G:j≠f:=λe=>by subst e;rw[M]at z;cases z
   by_cases I:j=id
   .subst I;rw[hH]at z;cases z;exact⟨v+1,l',Hi,Nat.le_succ _,U j G,λq=>by omega⟩
   .exact⟨v',l2,by rw[Hs j I G];exact z,ym _,U j G,λ_=>⟨rfl,λQ es2 cl h5 h6=>(hob j Q I h5).trans h6⟩⟩
  .have I:j≠id:=λe=>by subst e;rw[hH]at z;cases z
   by_cases G:j=f
   .subst G;rw[M]at z;cases z;exact⟨v2+1,[],H2,Nat.le_succ _,λq=>by omega⟩
   .exact⟨v',l2,by rw[Hs j I G];exact z,ym _,λ_=>U j G⟩
 have hno:∀C,J.X b C->C≠c:=λC h e=>(ok.cQ b C h).2.2.1 f (by rw[e];exact S);refine⟨⟨leaf,eF,eB,by rw[<-E];rfl,by rw[<-E];rfl,by rw[<-E];rfl,Nat.le_of_eq hsz.symm,λQ z g I=>g2 Q λe=>g id (by rw[e];exact hm),λj y h=>.inl (mo j y h).2,by rw[<-E];exact Nat.le_of_eq (yax ..).symm,λB C h=> ?_⟩, ?_⟩
 .rcases (eX B C).1 h with⟨_,T,W,k2⟩|⟨_,k⟩
  .rcases Y T C W k2 with k|k
   .exact .inr (.inl ⟨f,by rw[k];exact S⟩)
   .exact .inl ⟨b,k⟩
  .exact .inl ⟨B,k⟩
 refine⟨by rw[<-E];show(J.m.set f ad).length=((J.H.set id _).set f _).length;rw[yax,yax,yax];exact ok.len,λi j y z g=>ok.inj i j y (mo i y z).2 (mo j y g).2,λj y h=>by rw[hsz];exact ok.lt j y (mo j y h).2,λj e y z g=> ?_,
  λQ h=>by rw[eB];exact ok.new Q (by rw[<-hsz];exact h),λj y h=>by rw[eB];exact ok.own j y (mo j y h).2,λB C h=> ?_,λB B2 C h h'=> ?_⟩
 .by_cases G:j=f
  .subst G;rw[H2]at z;rw[m2]at g;cases z;cases g;exact .inl rfl
  .by_cases I:j=id
   .subst I;rw[Hi]at z;rw[U j G,hm]at g;cases z;cases g;exact⟨b,es',clock',rfl,g1,hent leaf g2,hnv,hbo⟩
   .rw[Hs j I G]at z;rw[U j G]at g;refine V6 leaf (λQ hb'=>hob j Q I (by rw[g,hb'])) (λQ c' hb' hx'=>⟨(eX Q c').2 (.inr ⟨λe=> ?_,hx'⟩),g2 c' λe=> ?_⟩) (ok.cA j e y z g)
    .exact I (ok.inj j id Q (by rw[g,hb']) (by rw[e];exact hm))
    .exact(ok.cQ Q c' hx').2.2.1 id (by rw[e];exact hm)
 .rw[hsz,eB];rcases (eX B C).1 h with⟨k0,T,W,k2⟩|⟨k0,k⟩
  .subst k0;rcases Y T C W k2 with k|k
   .subst k;exact⟨ok.lt f C S,ok.own f C S,λi hi=>(mo i C hi).1 (ok.inj i f C (mo i C hi).2 S),id,_,by rw[U id hne];exact hm,Hi,rfl⟩
   .obtain⟨z,g,I,_⟩:=ok.cQ B C k;exact⟨z,g,λi hi=>I i (mo i C hi).2,id,_,by rw[U id hne];exact hm,Hi,rfl⟩
  .obtain⟨z,g,I,i,e,G,h5,h6⟩:=ok.cQ B C k;have h7:i≠id:=λe=>by subst e;rw[hm]at G;cases G;exact k0 rfl
   have h8:i≠f:=λe=>by subst e;rw[M]at h5;cases h5;cases h6
   exact⟨z,g,λi hi=>I i (mo i C hi).2,i,e,by rw[U i h8];exact G,by rw[Hs i h7 h8];exact h5,h6⟩
 .have cross:∀B2,B2≠b->J.X B2 C->(∃T,T∈es'.toList/\T.val=.map (ab C))->False:=λB2 k0 k⟨T,W,k2⟩=>by
   rcases Y T C W k2 with q|q
   .exact(ok.cQ B2 C k).2.2.1 f (by rw[q];exact S)
   .exact k0 (ok.one B2 b C k q)
  rcases (eX B C).1 h with⟨k0,W⟩|⟨k0,W⟩ <;> rcases (eX B2 C).1 h' with⟨j0,j1⟩|⟨j0,j1⟩
  .rw[k0,j0]
  .exact(cross B2 j0 j1 W).elim
  .exact(cross B k0 W j1).elim
  .exact ok.one B B2 C W j1
theorem ZLK{J:Sg}{id v:Nat}{x:yh}(h:yH J (.pm id v) x):∃c,x=.map c/\sQ J id v c:=by
 have:=h.2 rfl;simp only[yG]at this;obtain⟨c,e,f⟩:=this;exact⟨c,by simpa using e,f⟩
open Classical in
theorem ZGQ(ok:Ok J)(yK:ay J ts a){t kt et t' u:yb}{m k x:yo}{id M v v2:Nat}{kk:Pl}{l:yL (Pl×yL (Pl×Pl))}{aN:yL (Pl×Pl)}(ho:o.op=.mapUpdate t m k x)(hu:P.underlying t=ab (.map kt et))
 (hx:Zo P ts t m=.cz id) (hk:Zo P ts kt k=.p kk) (hv:Zo P ts et x=.pm M v2) (hH:J.H[id]? =ab (.maps v t' u l)) (T:J.H[M]? =ab (.bA v2 aN)) (hkt:eS P kt=ae) (c1:aO P 20 kt kk) (c2:fH P kt l):
 YH P o a J .an ((J.H.set id (.maps (v+1) t' u (gm l kk aN))).set M (.bA (v2+1) [])):=by
 have hxv:=Zh (P:=P) yK t m;rw[hx]at hxv;obtain⟨b,hm,hmv⟩:=PC hxv;have G:=Zh (P:=P) yK kt k;rw[hk]at G;have hvv:=Zh (P:=P) yK et x;rw[hv]at hvv;obtain⟨ob,E,v',kvs',p1,p2,p3⟩:=ZLK hvv;rw[T]at p1;cases p1;obtain⟨c,rfl,U⟩:=p3 rfl;obtain⟨b',W,s,h1,h2,⟨l',p,nd,mr⟩,nv,bo⟩:=ok.cA id _ _ hH hm;cases h1
 have hinn:∃ie ic,J.w.heap[c]? =ab (.map ie ic)/\ff J aN ie.toList/\QU ie ic:=by
  rcases ok.cA M _ _ T U with q|⟨b2,ie,ic,q1,g,Y,q4⟩
  .cases q
  .cases q1;exact⟨ie,ic,g,Y,q4⟩
 obtain⟨ie,ic,i1,i2,i3⟩:=hinn
 have hcb:c≠b:=λe=>by
  have:=ok.inj id M b hm (by rw[<-e];exact U);subst this;rw[T]at hH;cases hH
 have hno:∀C,J.X b C->C≠c:=λC h e=>(ok.cQ b C h).2.2.1 M (by rw[e];exact U);have hnb:∀C,J.X b C->C≠b:=λC h e=>(ok.cQ b C h).2.2.1 id (by rw[e];exact hm)
 have hnc:Value.map (ab c) ∉ W.toList.map (·.val):=λq=>by
  obtain⟨en,q1,g⟩:=ybj.1 q;obtain⟨_,_,_,c',Y,q4,_⟩:=tI mr q1;rw[Y]at g;have:c'=c:=by simpa using g
  exact hno c' q4 this
 have nd':(l'.map (·.1)).Nodup:=((p.map _).nodup_iff).2 nd;obtain⟨F,hF,zU⟩:=VE (P:=P) hkt c1 G;have g6:=Xk (em:=af) 20 kt kk _ c1 G 9980;obtain⟨a1,a2⟩:=zi hF l' W.toList 0 mr (λq hq=>c2 q (p.mem_iff.1 hq)) nd';have zV:=PH mr
 have old:∀(en:MapEntry)C,en∈W.toList->en.val=.map (ab C)->J.X b C:=λen C h1 h2=>by
  obtain⟨_,_,_,c',Y,q4,_⟩:=tI mr h1;rw[Y]at h2;have:c'=C:=by simpa using h2
  rw[<-this];exact q4
 by_cases Q:kk∈l.map (·.1)
 .obtain⟨⟨k',kvo⟩,hmem,rfl⟩:=ybj.1 Q;obtain⟨j,en,c0,f1,f2,f3,f4,_,_,w1⟩:=a2 kvo (p.mem_iff.2 hmem);have g5:=zU _ _ f1;rw[yau]at g5;have he:W[j]? =ab en:=by rw[<-ybr];exact f2
  have hsame:en.key=a.eval k:=qa (QW 20 kt k' c1) f3 G
  have hbits:Instr.sameBits 10000 en.key (a.eval k)=ae:=by
   rw[hsame];exact tF (QW 20 kt k' c1) G
  have Z:(W.modify j λe=>{ e with key:=a.eval k,val:=a.eval x}).toList=W.toList.set j { en with key:=a.eval k,val:=a.eval x}:=by
   apply ybg;intro i;rw[ybr,Array.getElem?_modify,ybm,ybr];by_cases S:j=i
   .subst S;have hlt:j < W.toList.length:=by simpa using(ycr.1 he).1
    simp[he,hlt];exact(ycr.1 he).1
   .simp[S]
  obtain⟨to,ok'⟩:=PM (es':=W.modify j λe=>{ e with key:=a.eval k,val:=a.eval x}) (clock':=s) (l':=gm l k' aN) ok hH hm h2 T U
   (λen' C q1 g=>by
     rw[Z]at q1;rcases List.mem_or_eq_of_mem_set q1 with q1|q1
     .exact .inr (old en' C q1 g)
     .subst q1;left;have:Value.map (ab c)=.map (ab C):=by rw[<-E];exact g
      simpa using this.symm)
   (λf zB=>⟨l'.map λq=>if q.1=k' then(k',aN) else q,by rw[zj Q];exact p.map _,by rw[zk Q];exact nd,by
     rw[Z];refine zm (by rw[yx,yax];exact zV) λi q e q1 g=> ?_;rw[yah]at q1;obtain⟨q0,Y,rfl⟩:=yq.1 q1;have A:e∈W.toList.set j { en with key:=a.eval k,val:=a.eval x}:=ybq g;rw[ybm]at g;by_cases S:j=i
     .subst S;rw[yW rfl,yW (yp.1 f2).1]at g;cases g;rw[w1]at Y;cases Y;rw[yW rfl];exact⟨Y5 f G,c,E,.inl ⟨rfl,_,by rw[Z];exact A,E⟩,ie,ic,(zB c hcb).trans i1,VC f i2,i3⟩
     .rw[yX S]at g;obtain⟨y1,I,y2,y3,ie',ic',y4,y5,y6⟩:=zn mr i q0 e Y g;have hq:q0.1≠k':=λhq=>S ((List.getElem?_inj (i:=i) (j:=j) (by rw[yx];exact(yp.1 Y).1) nd').1 (by rw[yah,yah,Y,w1,yz,yz,hq])).symm;rw[yX hq];exact⟨Y5 f y1,I,y2,.inl ⟨rfl,e,by rw[Z];exact A,y2⟩,ie',ic',(zB I (hnb I y3)).trans y4,VC f y5,y6⟩⟩)
   (by rw[Z,ybl];exact PL _ nv (by show a.eval x ∉ _;rw[E];exact hnc)) (tJ bo j λe=>rfl)
  refine Qx ?_ to ok';simp only[execOp,ho,hmv,Instr.mapUpdate,Sem.run_bind,run_underlying hu,Result.andThen_ok,Yt h2,g6,g5,Instr.keyThatStays,he,yz,Option.getD_some,hbits,if_true,Sem.run_pure,Go.MapKept.run_setObj_map _ h2];rfl
 .have g5:=zU _ _ (a1 (λh=>Q ((p.map _).mem_iff.1 h)));have hpt:gm l kk aN=l++[(kk,aN)]:=yX Q
  obtain⟨to,ok'⟩:=PM (es':=W.push { key:=a.eval k,val:=a.eval x,born:=s}) (clock':=s+1) (l':=gm l kk aN) ok hH hm h2 T U
   (λen' C q1 g=>by
     rw[Array.toList_push,List.mem_append,yav]at q1;rcases q1 with q1|q1
     .exact .inr (old en' C q1 g)
     .subst q1;left;have:Value.map (ab c)=.map (ab C):=by rw[<-E];exact g
      simpa using this.symm)
   (λf zB=>⟨l'++[(kk,aN)],by rw[hpt];exact p.append_right _,by
     rw[hpt,List.map_append,List.map_singleton,List.nodup_append]
     exact⟨nd,by simp,λy hy z hz e=>by
      rw[yav.1 hz]at e;rw[e]at hy;exact Q hy⟩,by
     rw[Array.toList_push];refine zm (by simp[zV]) λi q e q1 g=> ?_;have A:e∈W.toList++[{ key:=a.eval k,val:=a.eval x,born:=s}]:=ybq g;rcases Nat.lt_or_ge i l'.length with hi|hi
     .rw[yaj hi]at q1;rw[yaj (by rw[<-zV];exact hi)]at g;obtain⟨y1,I,y2,y3,ie',ic',y4,y5,y6⟩:=zn mr i q e q1 g;exact⟨Y5 f y1,I,y2,.inl ⟨rfl,e,by rw[Array.toList_push];exact A,y2⟩,ie',ic',(zB I (hnb I y3)).trans y4,VC f y5,y6⟩
     .rw[yan hi]at q1;rw[yan (by rw[<-zV];exact hi), <-zV]at g
      have lK:i - l'.length=0:=by
       have:=(yp.1 q1).1;simp at this;omega
      rw[lK]at q1 g;cases q1;cases g;exact⟨Y5 f G,c,E,.inl ⟨rfl,_,by rw[Array.toList_push];exact A,E⟩,ie,ic,(zB c hcb).trans i1,VC f i2,i3⟩⟩)
   (by
     rw[Array.toList_push,List.map_append,List.map_singleton,List.nodup_append];refine⟨nv,by simp,λy hy z hz e=> ?_⟩;rw[yav.1 hz,show({ key:=a.eval k,val:=a.eval x,born:=s}:MapEntry).val=a.eval x from rfl,E]at e
     rw[e]at hy;exact hnc hy) (nZ bo rfl)
  refine Qx ?_ to ok';simp only[execOp,ho,hmv,Instr.mapUpdate,Sem.run_bind,run_underlying hu,Result.andThen_ok,Yt h2,g6,g5,Sem.run_pure,Go.MapKept.run_setObj_map _ h2];rfl
end
end Go.Ev
end
