/- Parts of the proof, in one file. -/
import Derived.Test.YtghfiijgklnflaaGreatKb
open Option renaming some → ab, none → ad
open Bool renaming true → ae, false → af
open Decidable renaming decide → ag
open Array renaming length_toList → ybh, getElem?_toList → ybr, toArray_toList → yca, getElem?_eq_some_iff → ycr, getElem?_eq_getElem → ycs, getD_eq_getD_getElem? → ydi
open Bool renaming and_eq_true → yi, false_eq_true → ybw, or_eq_true → yco
open Go renaming TypeId → yb, Program → yg, Value → yh, Operand → yo, FuncId → yr, World → yad
open List renaming length_append → yn, getElem?_eq_some_iff → yp, range → yu, length_map → yx, length_take → yy, replicate → yab, append_assoc → yac, getElem?_eq_getElem → yae, map_cons → yaf, take_length → yag, getElem?_map → yah, getElem?_append_left → yaj, length_cons → yam, getElem?_append_right → yan, getElem?_eq_none → yat, length_set → yax, mem_cons_self → yay, getElem?_cons_succ → ybe, length_drop → ybf, ext_getElem? → ybg, mem_map → ybj, take_append_drop → ybk, getElem?_set → ybm, all_eq_true → ybn, eq_nil_of_length_eq_zero → ybo, take_of_length_le → ybs, getElem?_cons_zero → ybt, mem_of_mem_take → ycc, getElem?_take → ycg, mem_of_mem_drop → yde
open Nat renaming le_refl → ym, zero_add → yau, add_mul → ybd, min_eq_left → ybi, mul_le_mul_right → ycb, add_assoc → yci, lt_or_ge → yck, add_zero → ycl, eq_zero_or_pos → ycu, eq_of_beq_eq_true → ydb
open Option renaming map_eq_some_iff → yq, map_some → yz
open Option.some renaming injEq → yj, inj → ybp
open Prod.mk renaming injEq → yl
set_option linter.unusedVariables false
set_option linter.unusedSimpArgs false
section
namespace Go.Ev
section
variable{P:yg}{o:Oper}{a:Act}{J:Sg}{ts:yL Dv}{hs hs':yL aj}{C:yL Prop}{d:Dv}{H':yL ar}
theorem tK{P:yg}{w:yad}{t e:yb}{i:TypeInfo}{z:yh}{n c:Int}(hu:P.underlying t=ab (.slice e))(hi:P.info? e=ab i)(hz:i.zero=ab z)(h:0<=n)(h1:n<=c)(h2:c.toNat*i.bytes<=Zn)(h3:c.toNat<=maxLen):
 ∃cells:Array yh,(Instr.makeSlice t (.int .i64 n) (.int .i64 c)).run P w=.ok (.slice (ab ⟨w.heap.size,0,ad⟩) n.toNat c.toNat) (w.alloc (.cells cells e))/\cells.size=c.toNat*i.size/\
  (i.size=1->∀k,k < c.toNat->cells[k]? =ab (z.cells[k % z.cells.size]!)):=by
 have l:∀m:Int,0<=m->m.toNat<=maxLen->IntKind.i64.wrap m=m:=λm a b=>by
  refine md ?_;simp[maxLen]at b;simp[V3,IntKind.min,IntKind.max,IntKind.signed,IntKind.bits];omega
 have f:=l n h (by omega);have g:=l c (by omega) h3
 have s:¬((281474976710656:Int) < (i.bytes:Int)*c):=by
  have e:(i.bytes:Int)*c=((c.toNat*i.bytes:Nat):Int):=by
   rw[Int.natCast_mul,Int.toNat_of_nonneg (by omega),Int.mul_comm]
  rw[e];simp only[Zn]at h2;omega
 have x:¬(c.toNat*i.bytes > roomBytes):=by
  simp only[Zn]at h2;simp only[roomBytes];omega
 by_cases j:c.toNat*i.size=0
 .refine⟨(Array.range (c.toNat*i.size)).map λ_=>default, ?_,by simp,λe k y=> ?_⟩
  .simp[Instr.makeSlice,run_underlying hu,asInt,asIntOf,typeInfo,hi,f,g,askRoom,x,sizeOf,j,newRow,h,show¬c < 0 by omega,show¬n < 0 by omega,show¬c < n by omega,s]
  .rw[e,Nat.mul_one]at j;omega
 .refine⟨(Array.range (c.toNat*i.size)).map (z.cells[· % z.cells.size]!), ?_,by simp,λe k y=> ?_⟩
  .simp[Instr.makeSlice,run_underlying hu,asInt,asIntOf,typeInfo,hi,f,g,askRoom,x,sizeOf,j,newRow,h,show¬c < 0 by omega,show¬n < 0 by omega,show¬c < n by omega,s,zeroValue,hz]
  .simp[e,y]
theorem ZE7(ok:Ok J){t e:yb}{l c:yo}{i:TypeInfo}{n j:Int}(I:ay J ts a)(ho:o.op=.makeSlice t l c)(hu:P.underlying t=ab (.slice e))(hl:Zo P ts 0 l=.p (.int .i64 n))(x:Zo P ts 0 c=.p (.int .i64 j))
 (hi:P.info? e=ab i) (hz:bP i=ae) (S:i.size≠0) (T:n=0) (h1:0<=j) (h2:j.toNat*i.bytes<=Zn) (h3:j.toNat<=maxLen):
 YH P o a J (.own J.H.length (ab ae) i.size []) (J.H++[.log i.size e []]):=by
 subst T;obtain⟨z,y,U⟩:=ju hz;obtain⟨cells,W,s,_⟩:=tK (w:=J.w) (t:=t) hu hi y (Int.le_refl 0) h1 h2 h3;have A:=ZG (hl ▸ Zh (P:=P) I 0 l);have E:=ZG (x ▸ Zh (P:=P) I 0 c);let J':Sg:={ J with m:=J.m++[ab J.w.heap.size],H:=J.H++[.log i.size e []],w:=J.w.alloc (.cells cells e)};have M:J'.w.heap[J.w.heap.size]? =ab (.cells cells e (0,0)):=heap_alloc_new J.w _
 have g:J'.m[J.H.length]? =ab (ab J.w.heap.size):=by
  show(J.m++[ab J.w.heap.size])[J.H.length]? =_;rw[yan (by rw[ok.len];exact ym _),ok.len];simp
 obtain⟨to,F⟩:=WE (J':=J') ok rfl rfl rfl rfl (World.grownBy_alloc J.w (.cells cells e) ad) (.inr ⟨_,rfl,ym _,by simp[J']⟩)
  (λQ=>.inr ⟨J.w.heap.size,cells,j.toNat,rfl,M,s,Nat.zero_le _,h3,λ_ G=>(by cases G),by simp[ak]⟩)
 refine ZH (J':=J') (v:=.slice (ab ⟨J.w.heap.size,0,ad⟩) 0 j.toNat) ?_ to F ?_
 .have f:=W;simp only[Int.toNat_zero]at f;simp[execOp,ho,A,E,f,J']
 .rw[Zg rfl];simp only[yG];refine⟨λ_ G=>(by cases G),ab ⟨J.w.heap.size,0,ad⟩,j.toNat,rfl,Nat.zero_le _,h3, ?_,(λh=>by cases h),λh=>absurd rfl h,e,[],by simp[J'],ym _,λ_=>.inr ?_⟩
  .simp[ij]
  .exact⟨J.w.heap.size,cells,g,rfl,M,s⟩
theorem zo{w:yad}{S:Nat->Nat->Prop}{z:Pl}{v:yh}(h:aq w S z [v]):∀n,ak w S (yab n z) (yab n v)
 |0=>by simp[ak]
 |n+1=>by
  rw[List.replicate_succ,List.replicate_succ];simp only[ak];exact⟨[v],yab n v,rfl,h,zo h n⟩
theorem ZBW(ok:Ok J){t e:yb}{l c:yo}{i:TypeInfo}{z:Pl}{n f:Int}(yK:ay J ts a)(ho:o.op=.makeSlice t l c)(hu:P.underlying t=ab (.slice e))(hl:Zo P ts 0 l=.p (.int .i64 n))(M:Zo P ts 0 c=.p (.int .i64 f))
 (hi:P.info? e=ab i) (hz:bP i=ae) (j:i.size=1) (hzp:YI P e=.p z) (Q:z.size=1) (hza:z.isAgg=af) (h0:f=n) (h1:0<=n) (h2:n.toNat*i.bytes<=Zn) (h3:n.toNat<=maxLen):
 YH P o a J (.view J.H.length 0 [] 1 0 n.toNat) (J.H++[.var (.p (.arr n.toNat 1 (yab n.toNat z))) ae]):=by
 subst h0;obtain⟨x,F,S⟩:=ju hz;obtain⟨cells,zU,T,U⟩:=tK (w:=J.w) (t:=t) hu hi F h1 (Int.le_refl f) h2 h3;have W:=ZG (hl ▸ Zh (P:=P) yK 0 l);have X:=ZG (M ▸ Zh (P:=P) yK 0 c)
 have A:yH J (YI P e) x:=by
  unfold YI;rw[hi];simp only[F];exact VB
 rw[hzp]at A;have A:=VY (d:=.p z) rfl A
 obtain⟨E,G⟩:∃E,x.cells.toList=[E]:=by
  have h9:x.cells.toList.length=1:=by rw[ybh,S,j]
  match hq:x.cells.toList,h9 with
  |[E],_=>exact⟨E,rfl⟩
 rw[G]at A;have Y:x.cells= #[E]:=by rw[<-yca (xs:=x.cells),G]
 have g:cells.toList=yab f.toNat E:=by
  apply ybg;intro k;rw[ybr,List.getElem?_replicate];by_cases Z:k < f.toNat
  .rw[U j k Z,yW Z,Y];simp[Nat.mod_one]
  .rw[yX Z];refine Array.getElem?_eq_none ?_;rw[T,j];omega
 let J':Sg:={ J with m:=J.m++[ab J.w.heap.size],H:=J.H++[.var (.p (.arr f.toNat 1 (yab f.toNat z))) ae],w:=J.w.alloc (.cells cells e)};have zB:J'.w.heap[J.w.heap.size]? =ab (.cells cells e (0,0)):=heap_alloc_new J.w _
 have h:J'.m[J.H.length]? =ab (ab J.w.heap.size):=by
  show(J.m++[ab J.w.heap.size])[J.H.length]? =_;rw[yan (by rw[ok.len];exact ym _),ok.len];simp
 have hcl:cells.toList.length=f.toNat:=by rw[g];simp
 obtain⟨to,ok'⟩:=WE (J':=J') ok rfl rfl rfl rfl (World.grownBy_alloc J.w (.cells cells e) ad) (.inr ⟨_,rfl,ym _,by simp[J']⟩)
  (λI=>⟨J.w.heap.size,cells,e,rfl,zB,by
    have s:Dv.size (.p (.arr f.toNat 1 (yab f.toNat z)))=f.toNat:=by show f.toNat*1=_;omega
    rw[s,ybs (by omega)];refine Z7 I _ _ ?_;simp only[yG,aq];refine⟨by simp,λy hy=>by rw[(List.mem_replicate.1 hy).2];exact Q, ?_⟩;rw[g];simp only[yG]at A;exact zo A _,by
    have s:Dv.size (.p (.arr f.toNat 1 (yab f.toNat z)))=f.toNat:=by show f.toNat*1=_;omega
    rw[s, <-ybh,hcl];exact ym _⟩)
 refine ZH (J':=J') (v:=.slice (ab ⟨J.w.heap.size,0,ad⟩) f.toNat f.toNat) ?_ to ok' ?_
 .simp[execOp,ho,W,X,zU,J']
 .rw[Zg rfl];simp only[yG];exact⟨J.w.heap.size,f.toNat,_,h,⟨.p (.arr f.toNat 1 (yab f.toNat z)),ae,by simp[J']⟩,rfl,ym _,h3,λ_=>by simp⟩
theorem PN(ok:Ok J)(yK:ay J ts a){t:yb}{x:yo}(ho:∀w,(execOp a.eval o).run P w=.ok (.value (a.eval x)) w)(h:iJ (Zo P ts t x) J.H hs=ab (C,d,H',hs'))(hc:aY C):YH P o a J d H':=by
 have Q:=Zh (P:=P) yK t x;unfold iJ at h;split at h
 .rename_i id off yM s lo n hx;rw[hx]at Q;obtain⟨b,c,A,Z,hv,hve,E,hcm,hA⟩:=mw Q;split at h
  .rename_i dd st S;split at h
   .rename_i C1 off' n' s' f hs1 hg;split at h
    .rename_i hs0;subst hs0;simp only[yj,yl]at h;obtain⟨rfl,rfl,rfl,rfl⟩:=h;obtain⟨c1,c2,c3,_⟩:=Zj.1 hc;obtain⟨cs,t',p1,p2,p3,h2,h4,h5,h6,h7,h3,h8⟩:=tz ok Z S hg c1 c2;simp only[yG,aq]at h7;obtain⟨h9,h10,h11⟩:=h7;subst h9;let J':Sg:={ J with m:=J.m.set id (ab b),H:=J.H.set id (.var dd af)};have g:J'.m[id]? =ab (ab b):=ai Z;have l:J'.H[id]? =ab (.var dd af):=ai S
     obtain⟨to,F⟩:=XE (J':=J') (mi:=ab b) (mi':=ab b) ok S Z rfl rfl rfl rfl rfl rfl rfl (ym _)
      (λ_ _ _=>rfl) (λ_ _ _ _ _ h=>h) (λo _ M=>rfl) (.inl rfl) (λ_=>⟨rfl,dd,af,rfl⟩) (λ⟨d,st,h⟩=>by cases h)
      (λs e f h=>by cases h) (λG=>⟨b,cs,t',rfl,h2,Z7 G dd _ h3,h4⟩)
     have T:W9 J'.w J'.aV b off p2:=λj u M=>by
      refine⟨h8 j u M,.inr (ok.own id b Z),λj' e' g1 g2=> ?_⟩;have:j'=id:=F.inj j' id _ g1 g;subst this;rw[l]at g2;cases g2;rfl
     have Y:=ax to.leaf.cells _ _ h11
     have U:f=f.take lo++((f.drop lo).take n++f.drop (lo+n)):=by
      have e1:f.drop (lo+n)=(f.drop lo).drop n:=by rw[List.drop_drop]
      rw[e1,ybk,ybk]
     have zV:((f.drop lo).take n).length=n:=by rw[yy,ybf];omega
     have hsub:aT s' ((f.drop lo).take n):=λz hz=>h10 z (yde (ycc hz));have hr2:=ZH (P:=P) (o:=o) (a:=a) (J:=J) (J':=J') (v:=a.eval x) (d:=.p (.sl (ab ae) s' ((f.drop lo).take n))) (ho J.w) to F;refine hr2 ?_;rw[hve]
     have I:=Yp (J:=J') (nn:=ab ae) (A:=ab A) (c:=c) hsub (by rw[zV];exact E) hcm (jV rfl) (λh=>by cases h) (λhne=>by
      have hn:0 < n:=by
       rcases ycu n with h0|h0
       .subst h0;simp at hne
       .exact h0
      rw[U]at Y;obtain⟨q1,q23,e1,r1,r23⟩:=Yh Y;obtain⟨q2,q3,e2,r2,r3⟩:=Yh r23
      have l1:q1.length=lo*s':=by
       rw[aG _ _ r1,aI (λz hz=>h10 z (ycc hz)),yy,ybi (by omega)]
      refine⟨b,off+lo*s',q2,by rw[hA hn],r2,λj u M=> ?_⟩
      have hj:p2[lo*s'+j]? =ab u:=by
       rw[e1,yan (by omega),l1,Nat.add_sub_cancel_left,e2,yaj (yp.1 M).1];exact M
      have:=T (lo*s'+j) u hj
      rwa [<-yci]at this)
     rw[zV]at I;exact I
    .cases h
   .cases h
  .cases h
 .rename_i id v s lo n hx;rw[hx]at Q;split at h
  .rename_i v' s' st e N y f S;split at h
   .rename_i hk;simp only[yi,yP,yT]at hk;obtain⟨⟨rfl,rfl⟩,hv⟩:=hk;subst hv;simp only[yj,yl]at h;obtain⟨rfl,rfl,rfl,rfl⟩:=h;obtain⟨A,c,hve,E,hcm,hA,hsy,ly,q,hr,lq,hq⟩:=tD ok Q S rfl hc.1;have hidlt:id < J.m.length:=by rw[ok.len];exact(yp.1 S).1
    have W:J.m[id]? =ab J.m[id]:=yae hidlt;let J':Sg:={ J with m:=J.m.set id J.m[id],H:=J.H.set id (.row v' y af e (.p (.arr N y f)))};have g:J'.m[id]? =ab J.m[id]:=ai W;have l:J'.H[id]? =ab (.row v' y af e (.p (.arr N y f))):=ai S
    obtain⟨to,F⟩:=XE (J':=J') (mi:=J.m[id]) (mi':=J.m[id]) ok S W rfl rfl rfl rfl rfl rfl rfl (ym _)
     (λ_ _ _=>rfl) (λ_ _ _ _ _ h=>h) (λo _ M=>⟨rfl,M.2⟩) (.inl rfl) (λ⟨d,st,h⟩=>by cases h) (λ⟨d,st,h⟩=>by cases h)
     (λs e f h=>by cases h) (λG=>by
       obtain⟨N',h1,h2⟩:=ok.cA id _ _ S W;refine⟨N',h1, ?_⟩;rcases h2 with h2|⟨b,X,cap,g1,g2,g3,g4,g5,g6⟩
       .exact .inl h2
       .exact .inr ⟨b,X,cap,g1,g2,g3,g4,g5,Z7 G _ _ g6⟩)
     (λv s st e d h=>by cases h;exact⟨v',af,_,rfl,ym _,λ_=>⟨rfl,λb X _ hb=>⟨X,hb,rfl⟩⟩⟩)
    refine ZH (P:=P) (o:=o) (a:=a) (J:=J) (J':=J') (v:=a.eval x) (d:=.p (.sl ad y ((f.drop lo).take n))) (ho J.w) to F ?_;rw[hve]
    have I:=Yp (J:=J') (nn:=ad) (A:=A) (c:=c) hsy (by rw[ly];exact E) hcm (Yd _) hA (λhne=>by
     have hn:0 < n:=by
      rcases ycu n with h0|h0
      .subst h0;simp at hne
      .exact h0
     obtain⟨b,X,cap,rfl,Z,hb,hcs,hcell⟩:=hq hn;refine⟨b,_,q,rfl,ax to.leaf.cells _ _ hr,λj u M=>⟨hcell j u M,.inr (ok.own id b Z),λj' e' g1 g2=> ?_⟩⟩;have:j'=id:=F.inj j' id b g1 (by rw[g, <-W];exact Z);subst this;rw[l]at g2;cases g2;refine⟨rfl,N,yW rfl, ?_⟩;have h1:=(yp.1 M).1;have h2:(lo+n)*y<=N*y:=ycb _ hc.1;rw[lq]at h1;rw[ybd]at h2;omega)
    rw[ly]at I;exact I
   .cases h
  .cases h
 .cases h
end
end Go.Ev
end
section
namespace Go.Ev
theorem qb{J:Sg}{x y:Dv}(e:∀a,yG J x a->yG J y a):∀(c:yL Dv)(k:Nat)(us:yL yh),c[k]? =ab x->aC J c us->aC J (c.set k y) us
 |[],_,_,h,_=>by simp at h
 |z::c,0,us,h,f=>by
  simp only[ybt,yj]at h;subst h;simp only[aC,List.set_cons_zero]at f ⊢;obtain⟨a,b,g,j,l⟩:=f
  exact⟨a,b,g,e a j,l⟩
 |z::c,k+1,us,h,f=>by
  simp only[ybe]at h;simp only[aC,List.set_cons_succ]at f ⊢;obtain⟨a,b,g,j,l⟩:=f;exact⟨a,b,g,j,qb e c k b h l⟩
theorem PO{c:yL Dv}{k:Nat}{x y:Dv}(h:c[k]? =ab x)(hs:y.size=x.size):Dv.sizes (c.set k y)=Dv.sizes c:=by
 induction c generalizing k with
 |nil=>simp at h
 |cons z c e=>
  cases k with
  |zero=>
   simp only[ybt,yj]at h;subst h
   simp only[List.set_cons_zero,Dv.sizes,hs]
  |succ k=>
   simp only[ybe]at h;simp only[List.set_cons_succ,Dv.sizes,e h]
theorem PP:∀(xs:yL Pl),Dv.sizes (xs.map .p)=Pl.sizes xs
 |[]=>rfl
 |x::xs=>by simp only[yaf,Dv.sizes,Pl.sizes,PP xs];rfl
theorem PQ{d d':Dv}{s:Nat}{new:Dv}(h:XD d [] s new=ab d'):d=.p (.sl (ab af) s [])/\d'=new:=by
 unfold XD at h;split at h
 .split at h
  .rename_i e;cases h;subst e;exact⟨rfl,rfl⟩
  .cases h
 .contradiction
 .contradiction
 .cases h
theorem PR{d d':Dv}{i:Nat}{r:yL Nat}{s:Nat}{new:Dv}(h:XD d (i::r) s new=ab d'):
 (∃xs x y,d=.p (.agg xs)/\xs[i]? =ab x/\XD (.p x) r s new=ab y/\d'=.agg ((xs.map Dv.p).set i y))\/∃xs x y,d=.agg xs/\xs[i]? =ab x/\XD x r s new=ab y/\d'=.agg (xs.set i y):=by
 cases d with
 |p q=>
  cases q with
  |agg xs=>
   simp only[XD]at h
   cases c:xs[i]? with
   |none=>simp[c]at h
   |some x=>
    simp only[c]at h;obtain⟨y,e,rfl⟩:=yq.1 h
    exact .inl ⟨xs,x,y,rfl,c,e,rfl⟩
  |_=>simp[XD]at h
 |agg xs=>
  simp only[XD]at h
  cases c:xs[i]? with
  |none=>simp[c]at h
  |some x=>
   simp only[c]at h;obtain⟨y,e,rfl⟩:=yq.1 h
   exact .inr ⟨xs,x,y,rfl,c,e,rfl⟩
 |_=>simp[XD]at h
theorem oa:∀(yM:yL Nat)(d d':Dv)(s:Nat)(new:Dv),new.size=1->XD d yM s new=ab d'->d'.size=d.size
 |[],d,d',s,new,c,h=>by
  obtain⟨rfl,rfl⟩:=PQ h;rw[c]
  rfl
 |i::r,d,d',s,new,c,h=>by
  rcases PR h with⟨j,x,y,rfl,e,f,rfl⟩|⟨j,x,y,rfl,e,f,rfl⟩
  .have:=oa r (.p x) y s new c f;have g:(j.map Dv.p)[i]? =ab (.p x):=by rw[yah,e];rfl
   simp only[Dv.size];rw[PO g this,PP];rfl
  .simp only[Dv.size];exact PO e (oa r x y s new c f)
theorem oc{J:Sg}:∀(yM:yL Nat)(d d':Dv)(s:Nat)(new:Dv),(∀a,yG J (.p (.sl (ab af) s [])) a->yG J new a)->XD d yM s new=ab d'->∀us,yG J d us->yG J d' us
 |[],d,d',s,new,e,h,us,c=>by
  obtain⟨rfl,rfl⟩:=PQ h
  exact e us c
 |i::r,d,d',s,new,e,h,us,c=>by
  rcases PR h with⟨l,x,y,rfl,f,g,rfl⟩|⟨l,x,y,rfl,f,g,rfl⟩
  .have j:(l.map Dv.p)[i]? =ab (.p x):=by rw[yah,f];rfl
   simp only[yG,aq]at c ⊢;exact qb (oc r (.p x) y s new e g) _ i us j (jq.2 c)
  .simp only[yG]at c ⊢;exact qb (oc r x y s new e g) _ i us f c
theorem ZBX{J:Sg}(ok:Ok J){j s:Nat}{e:yb}{d d':Dv}{st:Bool}{yM:yL Nat}(y:J.H[j]? =ab (.var d st))(Q:XD d yM s (.own J.H.length ad s [])=ab d'):
 ∃J2:Sg,J2.H=(J.H++[ar.log s e []]).set j (.var d' st)/\J2.w=J.w/\To J J2/\Ok J2:=by
 obtain⟨g,z⟩:=WE (J':={ J with m:=J.m++[ad],H:=J.H++[.log s e []]}) ok rfl rfl rfl rfl (World.grownBy.refl J.w ad) (.inl rfl) (λ_=>.inl ⟨rfl,rfl⟩);have f:j < J.H.length:=(yp.1 y).1
 obtain⟨S,T⟩:∃S,J.m[j]? =ab S:=by
  have:j < J.m.length:=by rw[ok.len];exact f
  exact⟨_,yae this⟩
 obtain⟨b,W,t,rfl,X,Y,Z⟩:=ok.cA j _ _ y T;let J1:Sg:={ J with m:=J.m++[ad],H:=J.H++[.log s e []]};let J2:Sg:={ J1 with m:=J1.m.set j (ab b),H:=J1.H.set j (.var d' st)}
 have E:J1.H[j]? =ab (.var d st):=by
  show(J.H++[ar.log s e []])[j]? =_;rw[yaj f];exact y
 have F:J1.m[j]? =ab (ab b):=by
  show(J.m++[ad])[j]? =_;rw[yaj (by rw[ok.len];exact f)];exact T
 have l:=oa yM d d' s _ rfl Q
 obtain⟨G,I⟩:=XE (J':=J2) (mi:=ab b) (mi':=ab b) z E F rfl rfl rfl rfl rfl rfl rfl (ym _)
  (λ_ _ _=>rfl) (λ_ _ _ _ _ h=>h) (λo _ hu=>hu) (.inl rfl) (λ_=>⟨rfl,_,_,rfl⟩) (λ⟨_,_,M⟩=>by cases M) (λ_ _ _ M=>by cases M)
  (λx=>by
    refine⟨b,W,t,rfl,X, ?_,by rw[l];exact Z⟩;rw[l];refine oc yM d d' s _ (λa U=> ?_) Q _ (Z7 (g.leaf.trans x) _ _ Y);simp only[yG,aq]at U ⊢;obtain⟨_,A,c,rfl,w1,w2,w3,w4,w5⟩:=U
    have hA:A=ad:=by
     have:=w3 af rfl
     cases A with
     |none=>rfl
     |some _=>cases this
    subst hA;have hc:=w4 rfl;subst hc;refine⟨λ_ hx=>(by cases hx),ad,0,rfl,ym _,by simp[maxLen],Yd _,λ_=>rfl,λh=>absurd rfl h,e,[], ?_,ym _,λ_=>.inl ⟨?_,rfl,rfl⟩⟩
    .show(J1.H.set j _)[J.H.length]? =_;rw[ybm,yX (by omega)];simp[J1]
    .show(J1.m.set j _)[J.H.length]? =_;rw[ybm,yX (by omega)];show(J.m++[ad])[J.H.length]? =_;rw[yan (by rw[ok.len];exact ym _),ok.len];simp)
 exact⟨J2,rfl,rfl,g.trans G,I⟩
theorem zp:∀(hs:yL aj)(d:Dv)(H0 L:yL ar){J:Sg},Ok J->J.H=H0++.var d ae::L->∃J2:Sg,J2.H=H0++.var (YM d (H0.length+1+L.length) hs).1 ae::(L++(YM d (H0.length+1+L.length) hs).2.1)/\J2.w=J.w/\To J J2/\Ok J2
 |[],d,H0,L,J,c,h=>⟨J,by simp[YM,h],rfl,To.refl J,c⟩
 |x::hs,d,H0,L,J,c,h=>by
  have base:YM d (H0.length+1+L.length) (x::hs)=(d,[],x::hs)->∃J2:Sg,J2.H=H0++.var (YM d (H0.length+1+L.length) (x::hs)).1 ae::(L++(YM d (H0.length+1+L.length) (x::hs)).2.1)/\J2.w=J.w/\To J J2/\Ok J2:=λe=>by
   rw[e];exact⟨J,by simp[h],rfl,To.refl J,c⟩
  cases x with
  |aZ m s e=>
   cases f:XD d m s (.own (H0.length+1+L.length) ad s []) with
   |none=>exact base (by simp[YM,f])
   |some g=>
    have t:J.H.length=H0.length+1+L.length:=by rw[h];simp;omega
    obtain⟨J1,y,z,A,E⟩:=ZBX (e:=e) c (j:=H0.length) (s:=s) (d:=d) (d':=g) (st:=ae) (yM:=m) (by rw[h];simp) (by rw[t];exact f)
    have l:J1.H=H0++.var g ae::(L++[ar.log s e []]):=by
     rw[y,h];simp[List.set_append]
    obtain⟨J2,f1,f2,f3,f4⟩:=zp hs g H0 (L++[ar.log s e []]) E l;refine⟨J2, ?_,by rw[f2,z],A.trans f3,f4⟩;rw[f1];simp only[YM,f,yn,yam,List.length_nil]
    simp[yci]
  |_=>exact base (by simp[YM])
theorem PS{P:yg}{o:Oper}{a:Act}{J:Sg}{d:Dv}{H1 H2:yL ar}(h:YH P o a J d H1)(k:∀J1:Sg,J1.H=H1->Ok J1->∃J2:Sg,J2.H=H2/\J2.w=J1.w/\To J1 J2/\Ok J2):YH P o a J d H2:=by
 intro K Q f;refine h K Q λv J1 g c e j=> ?_;obtain⟨J2,f1,f2,f3,f4⟩:=k J1 g e;rw[<-f2];exact f v J2 f1 (c.trans f3) f4 (Y5 f3.leaf j)
theorem PT{P:yg}{o:Oper}{a:Act}{J:Sg}{d c:Dv}{H:yL ar}(h:YH P o a J d (H++[.var c ae]))(hs:yL aj):YH P o a J d (H++.var (YM c (H.length+1) hs).1 ae::(YM c (H.length+1) hs).2.1):=by
 refine PS h λJ1 f e=> ?_;obtain⟨J2,f1,f2,f3,f4⟩:=zp hs c H [] e f;exact⟨J2,by simpa using f1,f2,f3,f4⟩
theorem Zw4{P:yg}{o:Oper}{a:Act}{J:Sg}{d c:Dv}{H:yL ar}{id:Nat}{x:ar}(h:YH P o a J d (H.set id (.var c ae)))(hid:H[id]? =ab x)(hs:yL aj):YH P o a J d (H.set id (.var (YM c H.length hs).1 ae)++(YM c H.length hs).2.1):=by
 have f:id < H.length:=(yp.1 hid).1;have e:∀v:ar,H.set id v=H.take id++v::H.drop (id+1):=λv=>List.set_eq_take_append_cons_drop.trans (yW f);refine PS h λJ1 j g=> ?_;rw[e]at j;obtain⟨J2,f1,f2,f3,f4⟩:=zp hs c (H.take id) (H.drop (id+1)) g j;have l:(H.take id).length+1+(H.drop (id+1)).length=H.length:=by simp;omega
 rw[l]at f1;refine⟨J2, ?_,f2,f3,f4⟩;rw[f1,e];simp
end Go.Ev
end
section
namespace Go.Ev
section
variable{P:yg}{o:Oper}{a:Act}{J:Sg}{ts:yL Dv}{hs hs':yL aj}{C:yL Prop}{d:Dv}{H':yL ar}
theorem ZzB(ok:Ok J)(yK:ay J ts a){t:yb}{x y:yo}{id v v' s S:Nat}{yM:yL Nat}{e:yb}{A sub new g:Dv}{C1:yL Prop}{c:Nat}(ho:o.op=.store t x y)(hx:Zo P ts 0 x=.aW id v S yM)
 (hH:J.H[id]? =ab (.row v' s ae e A)) (hv:v'=v) (hg:Ym A yM hs=ab (C1,c,sub,hs')) (hc:aY C1) (he:c=S) (hn:io yM A (Zo P ts t y)=ab new) (hp:WU new A yM hs=ab g)
 (F:new.bt=ae) (hsz:new.size=sub.size) (ht:P.cellsOf t=new.size) (hi:(P.info? t).isSome=ae) (hN':aJ g s=aJ A s):YH P o a J .an (J.H.set id (.row v s ae e g)):=by
 subst he;subst hv;have E:=Zh (P:=P) yK 0 x;have hyv:=NT hn (Zh (P:=P) yK t y);rw[hx]at E;obtain⟨b,E,hm⟩:=NQ E hH rfl;obtain⟨N,hN,T⟩:=ok.cA id _ _ hH hm;rcases T with⟨h1,_⟩|⟨b',M,cap,h1,h2,U,W,hcm,h3⟩
 .cases h1
 cases h1;have l:=NP hN;rw[<-l]at h3;have h4:A.size<=M.size:=by rw[l,U];exact ycb _ W
 obtain⟨p1,p2,p3,h5,h6,h7,h8⟩:=la yM A hs hs' C1 c sub _ hg hc h3;have f:=VY F hyv;obtain⟨h9,h10⟩:=h8 new g _ hp hsz f;have X:(a.eval y).cells.toList.length=new.size:=Wr _ _ f;have hl2:p2.length=sub.size:=Wr _ _ h7;have hll:(a.eval y).cells.toList.length=p2.length:=by rw[X,hl2,hsz]
 obtain⟨k1,k2⟩:=pT h5 hll h4;rw[h6]at k1 k2
 have hnl:c+(a.eval y).cells.toList.length<=M.size:=by
  have:=congrArg List.length h5;simp only[yy,ybh,yn]at this;omega
 have Y:∀u,u∈(a.eval y).cells.toList->u.oneCell'=ae:=tk new _ F f;have Z:=run_storeCells_at P b c e (a.eval y).cells.toList 0 M J.w h2 (by simpa using hnl) Y;simp only[ycl]at Z;let z:Array yh:=(M.toList.take c++(a.eval y).cells.toList++M.toList.drop (c+(a.eval y).cells.toList.length)).toArray;let J':Sg:={ J with m:=J.m.set id (ab b),H:=J.H.set id (.row v' s ae e g),w:=J.w.setRow b z};have G:z.size=M.size:=k2;have zB:J'.w.heap[b]? =ab (.cells z e (0,0)):=setRow_heap J.w b M _ e _ h2;have hoth:∀j,b≠j->J'.w.heap[j]? =J.w.heap[j]? :=λj hj=>setRow_other J.w b j _ (Ne.symm hj)
 obtain⟨to,ok'⟩:=XE (J':=J') (mi:=ab b) (mi':=ab b) ok hH hm rfl rfl rfl rfl rfl rfl rfl (by simp[J'])
  (λj hj hne=>hoth j (λhh=>hne (by rw[hh]))) (λb' o v _ hu _=>by cases hu.1) (λo _ hu=>by cases hu.1) (.inl rfl) (λ⟨d,st,h⟩=>by cases h) (λ⟨d,st,h⟩=>by cases h)
  (λs e xs h=>by cases h) (λleaf=>⟨N,by rw[hN'];exact hN,.inr ⟨b,z,cap,rfl,zB,by rw[G];exact U,W,hcm,by
    rw[<-l];show yG J' g (z.toList.take A.size);rw[show z.toList.take A.size=p1++((a.eval y).cells.toList++p3) from k1]
    exact Z7 leaf g _ h9⟩⟩)
  (λv s st e2 d h=>by cases h;exact⟨v',ae,_,rfl,ym _,λ_=>⟨rfl,λb2 cur hb2 I=>by
    cases hb2;rw[h2]at I;cases I;exact⟨z,zB,G⟩⟩⟩)
 refine Qx (J':=J') ?_ to ok'
 cases Q:P.info? t with
 |none=>simp[Q]at hi
 |some i=>
  have hs:(a.eval y).cells.size=i.size:=by
   rw[<-ybh,X, <-ht];simp[Program.cellsOf,Q]
  simp only[execOp,ho,E,Instr.storeAt,Instr.sureAddr,storeVar,sizeOf,typeInfo,Sem.run_bind,run_program,Result.andThen_ok,Q,Sem.run_pure,hs,ne_eq,not_true,if_false,Z];rfl
theorem qc(ok:Ok J){s:Nat}{e:yb}{f:Dv}{N n cap:Nat}{cells:Array yh}{w':yad}{v:yh}(z:J.w.grownBy w' ad)(y:w'.heap[J.w.heap.size]? =ab (.cells cells e (0,0)))(hcs:cells.size=cap*s)(l:J.w.heap.size < w'.heap.size)
 (A:aJ f s=ab N) (t:N<=cap) (g:cap<=maxLen) (F:n<=N) (E:yG J f (cells.toList.take (N*s))) (hx:(execOp a.eval o).run P J.w=.ok (.value (.slice (ab ⟨J.w.heap.size,0,ad⟩) n cap)) w'):
 YH P o a J (.rv J.H.length 0 s 0 n) (J.H++[.row 0 s ae e f]):=by
 let J':Sg:={ J with m:=J.m++[ab J.w.heap.size],H:=J.H++[.row 0 s ae e f],w:=w'}
 have c:J'.m[J.H.length]? =ab (ab J.w.heap.size):=by
  show(J.m++[ab J.w.heap.size])[J.H.length]? =_;rw[yan (by rw[ok.len];exact ym _),ok.len];simp
 obtain⟨to,x⟩:=WE (J':=J') ok rfl rfl rfl rfl z (.inr ⟨_,rfl,ym _,l⟩)
  (λj=>⟨N,A,.inr ⟨J.w.heap.size,cells,cap,rfl,y,hcs,t,g,Z7 j _ _ E⟩⟩)
 refine ZH (J':=J') hx to x ?_;rw[Zg rfl];simp only[yG];refine⟨_,_,rfl,by omega,g,λh=>(by cases h),λ_=>⟨_,_,rfl⟩,0,s,ae,e,f,by simp[J'],ym _,λ_=>⟨rfl,.inr ⟨J.w.heap.size,cells,c,y,by rw[hcs,yau],λ_=>by simp⟩⟩⟩
theorem ZE8(ok:Ok J){t e:yb}{l c:yo}{i:TypeInfo}{n g:Int}(A:ay J ts a)(ho:o.op=.makeSlice t l c)(hu:P.underlying t=ab (.slice e))(hl:Zo P ts 0 l=.p (.int .i64 n))(h:Zo P ts 0 c=.p (.int .i64 g))
 (hi:P.info? e=ab i) (hz:bP i=ae) (E:n=0) (h1:0<=g) (h2:g.toNat*i.bytes<=Zn) (h3:g.toNat<=maxLen):
 YH P o a J (.rv J.H.length 0 i.size 0 0) (J.H++[.row 0 i.size ae e (.p (.arr 0 i.size []))]):=by
 subst E;obtain⟨z,j,F⟩:=ju hz;obtain⟨cells,G,m,_⟩:=tK (w:=J.w) (t:=t) hu hi j (Int.le_refl 0) h1 h2 h3;have s:=ZG (hl ▸ Zh (P:=P) A 0 l);have y:=ZG (h ▸ Zh (P:=P) A 0 c);refine qc (N:=0) (cap:=g.toNat) (w':=J.w.alloc (.cells cells e)) (v:=.bool ae) ok (World.grownBy_alloc J.w (.cells cells e) ad) (heap_alloc_new J.w _) m (by simp) (by simp[aJ]) (Nat.zero_le _) h3 (ym _) ?_ ?_
 .simp[yG,aq,ak];intro x I;cases I
 .have f:=G;simp only[Int.toNat_zero]at f;simp[execOp,ho,s,y,f]
theorem ZBY(ok:Ok J){t e:yb}{l c:yo}{i:TypeInfo}{z:Pl}{n h:Int}(W:ay J ts a)(ho:o.op=.makeSlice t l c)(hu:P.underlying t=ab (.slice e))(hl:Zo P ts 0 l=.p (.int .i64 n))(F:Zo P ts 0 c=.p (.int .i64 h))
 (hi:P.info? e=ab i) (hz:bP i=ae) (g:i.size=1) (hzp:YI P e=.p z) (G:z.size=1) (X:z.isAgg=af) (Y:h=n) (h1:0<=n) (h2:n.toNat*i.bytes<=Zn) (h3:n.toNat<=maxLen):
 YH P o a J (.rv J.H.length 0 1 0 n.toNat) (J.H++[.row 0 1 ae e (.p (.arr n.toNat 1 (yab n.toNat z)))]):=by
 subst Y;obtain⟨j,x,I⟩:=ju hz;obtain⟨cells,Z,A,M⟩:=tK (w:=J.w) (t:=t) hu hi x h1 (Int.le_refl h) h2 h3;have Q:=ZG (hl ▸ Zh (P:=P) W 0 l);have S:=ZG (F ▸ Zh (P:=P) W 0 c)
 have m:yH J (YI P e) j:=by
  unfold YI;rw[hi];simp only[x];exact VB
 rw[hzp]at m;have m:=VY (d:=.p z) rfl m
 obtain⟨s,E⟩:∃s,j.cells.toList=[s]:=by
  have h9:j.cells.toList.length=1:=by rw[ybh,I,g]
  match hq:j.cells.toList,h9 with
  |[s],_=>exact⟨s,rfl⟩
 rw[E]at m;have T:j.cells= #[s]:=by rw[<-yca (xs:=j.cells),E]
 have f:cells.toList=yab h.toNat s:=by
  apply ybg;intro k;rw[ybr,List.getElem?_replicate];by_cases U:k < h.toNat
  .rw[M g k U,yW U,T];simp[Nat.mod_one]
  .rw[yX U];refine Array.getElem?_eq_none ?_;rw[A,g];omega
 have hcl:cells.toList.length=h.toNat:=by rw[f];simp
 refine qc (N:=h.toNat) (cap:=h.toNat) (w':=J.w.alloc (.cells cells e)) (v:=.bool ae) ok (World.grownBy_alloc J.w (.cells cells e) ad) (heap_alloc_new J.w _) (by rw[A,g]) (by simp) (by simp[aJ]) (ym _) h3 (ym _) ?_ ?_
 .rw[Nat.mul_one,ybs (by omega),f];simp only[yG,aq];refine⟨by simp,λy hy=>by rw[(List.mem_replicate.1 hy).2];exact G, ?_⟩;simp only[yG]at m;exact zo m _
 .simp[execOp,ho,Q,S,Z]
theorem ZE9(ok:Ok J)(h:ay J ts a){t e:yb}{i:TypeInfo}{len:Nat}{parts:Array (Nat×yo)}{xs:yL Pl}(ho:o.op=.buildSlice t len parts)(hu:P.underlying t=ab (.slice e))
 (hi:P.info? e=ab i) (hz:bP i=ae) (f:i.size≠0) (hsz:len*i.size<=16777216) (hl:Wx P ts e (P.cellsOf e) len parts.toList=ab xs):
 YH P o a J (.rv J.H.length 0 i.size 0 len) (J.H++[.row 0 i.size ae e (.p (.arr len i.size (xs.map Pl.soft)))]):=by
 obtain⟨cells,j,l,m,s,c⟩:=tx (P:=P) h hu hi hz hsz hl
 have g:len<=maxLen:=by
  have:=Nat.le_mul_of_pos_right len (Nat.pos_of_ne_zero f);simp only[maxLen];omega
 refine qc (N:=len) (cap:=len) (w':=J.w.alloc (.cells cells e)) (v:=.bool ae) ok (World.grownBy_alloc J.w (.cells cells e) ad) (heap_alloc_new J.w _) c (by simp) (by simp[aJ]) (ym _) g (ym _) ?_ (pR ho j);rw[<-c, <-ybh,yag];simp only[yG,aq];refine⟨by rw[yx];exact m,λy z=> ?_, ?_⟩
 .obtain⟨x,A,rfl⟩:=ybj.1 z;rw[xC];exact s x A
 .rw[<-Pl.ck];exact(cq xs).cG _ _ _ l
theorem ZBZ(ok:Ok J)(S:ay J ts a){t e:yb}{i:TypeInfo}{len id v:Nat}{st:Bool}{T:Dv}{parts:Array (Nat×yo)}{xs:yL Pl}(ho:o.op=.buildSlice t len parts)(hu:P.underlying t=ab (.slice e))
 (hi:P.info? e=ab i) (hz:bP i=ae) (F:i.size≠0) (hsz:len*i.size<=16777216) (hl:Wx P ts e (P.cellsOf e) len parts.toList=ab xs) (hH:J.H[id]? =ab (.row v i.size st e T)):
 YH P o a J (.rv id (v+1) i.size 0 len) (J.H.set id (.row (v+1) i.size ae e (.p (.arr len i.size (xs.map Pl.soft))))):=by
 obtain⟨cells,U,W,X,Y,f⟩:=tx (P:=P) S hu hi hz hsz hl
 have l:len<=maxLen:=by
  have:=Nat.le_mul_of_pos_right len (Nat.pos_of_ne_zero F);simp only[maxLen];omega
 have G:id < J.m.length:=by rw[ok.len];exact(yp.1 hH).1
 have A:J.m[id]? =ab J.m[id]:=yae G;let J':Sg:={ J with m:=J.m.set id (ab J.w.heap.size),H:=J.H.set id (.row (v+1) i.size ae e (.p (.arr len i.size (xs.map Pl.soft)))),w:=J.w.alloc (.cells cells e)};have Q:J'.w.heap[J.w.heap.size]? =ab (.cells cells e (0,0)):=heap_alloc_new J.w _;have I:=World.grownBy_alloc J.w (.cells cells e) ad;have g:J'.m[id]? =ab (ab J.w.heap.size):=ai A;have c:J'.H[id]? =ab (.row (v+1) i.size ae e (.p (.arr len i.size (xs.map Pl.soft)))):=ai hH
 obtain⟨to,M⟩:=XE (J':=J') (mi:=J.m[id]) (mi':=ab J.w.heap.size) ok hH A rfl rfl rfl rfl rfl rfl rfl I.size
  (λj E _=>I.block j E (by simp)) (λb o v Z _ hc=>by
    have E:=ok.lt id b (by rw[A,Z]);rw[World.cell?_of_block (w:=J.w) (I.block b E (by simp))];exact hc) (λo he hu=>by
    have E:=ok.lt id _ (by rw[A, <-he]);omega) (.inr ⟨_,rfl,ym _,by simp[J']⟩) (λ⟨d,st,h⟩=>by cases h) (λ⟨d,st,h⟩=>by cases h) (λs e xs h=>by cases h)
  (λz=>⟨len,by simp[aJ],.inr ⟨_,cells,len,rfl,Q,f,ym _,l,by
    rw[<-f, <-ybh,yag];simp only[yG,aq];refine⟨by rw[yx];exact X,λy hy=> ?_, ?_⟩
    .obtain⟨x,hx,rfl⟩:=ybj.1 hy;rw[xC];exact Y x hx
    .rw[<-Pl.ck];exact(cq xs).cG _ _ _ (ax z.cells _ _ W)⟩⟩)
  (λv' s' st' e' d' h=>by cases h;exact⟨v+1,ae,_,rfl,Nat.le_succ _,λhv=>absurd hv (by omega)⟩)
 refine ZH (J':=J') (pR ho U) to M ?_;rw[Zg rfl];simp only[yG];refine⟨ab ⟨J.w.heap.size,0,ad⟩,len,rfl,ym _,l,λh=>(by cases h),λ_=>⟨_,_,rfl⟩,v+1,i.size,ae,e,_,c,ym _,λ_=>⟨rfl,.inr ⟨_,cells,g,Q,by rw[yau];exact f,λ_=>by rw[Nat.zero_mul]⟩⟩⟩
theorem ZB0(ok:Ok J)(m:ay J ts a){t e:yb}{i:TypeInfo}{len:Nat}{parts:Array (Nat×yo)}{c:yL Dv}(ho:o.op=.buildSlice t len parts)(hu:P.underlying t=ab (.slice e))
 (hi:P.info? e=ab i) (hz:bP i=ae) (h:i.size≠0) (hsz:len*i.size<=16777216) (hl:nO P ts e (P.cellsOf e) len parts.toList=ab c):
 YH P o a J (.rv J.H.length 0 i.size 0 len) (J.H++[.row 0 i.size ae e (.arr len i.size c)]):=by
 have j:P.cellsOf e=i.size:=by simp[Program.cellsOf,hi]
 rw[j]at hl
 obtain⟨cells,s,y,z,A⟩:=NL (P:=P) (t:=t) (parts:=parts.map λq=>(q.1,a.eval q.2)) (Q:=λcells=>aC J c cells.toList/\c.length=len/\∀x,x∈c->x.size=i.size) J.w hu hi hz hsz (λZ E=>by
  obtain⟨cells,F,G⟩:=ZBK (P:=P) m hl Z E;exact⟨cells,by rw[Array.toList_map];exact F,G⟩)
 have f:yG J (.arr len i.size c) cells.toList:=by
  simp only[yG];exact⟨z,A,y⟩
 have g:cells.size=len*i.size:=by rw[<-ybh];exact Wr _ _ f
 have l:len<=maxLen:=by
  have:=Nat.le_mul_of_pos_right len (Nat.pos_of_ne_zero h);simp only[maxLen];omega
 refine qc (N:=len) (cap:=len) (w':=J.w.alloc (.cells cells e)) (v:=.bool ae) ok (World.grownBy_alloc J.w (.cells cells e) ad) (heap_alloc_new J.w _) g (by simp) (by simp[aJ]) (ym _) l (ym _) ?_ (pR ho s);rw[<-g, <-ybh,yag];exact f
theorem Zuy(ok:Ok J)(S:ay J ts a){c:Call}{x y:yo}{t u e:yb}{i:TypeInfo}{ys:yL Pl}(ho:o.op=.call c)(T:c.callee=.builtin .append)(U:c.args.toList=[x,y])
 (g:c.argTypes.toList=[t,u]) (ht:P.underlying t=ab (.slice e)) {s:Nat} (hx:Zo P ts t x=.p (.sl (ab af) s [])) (hi:P.info? e=ab i) (hz:bP i=ae) (A:i.size≠0)
 (j:my P J (P.cellsOf e) u (a.eval y) ys) (hb:ys.length*i.bytes<=Zn) (hm:ys.length<=maxLen):
 YH P o a J (.rv J.H.length 0 i.size 0 ys.length) (J.H++[.row 0 i.size ae e (.p (.arr ys.length i.size ys))]):=by
 have l:=Zh (P:=P) S t x;rw[hx]at l;have z:=kZ l;have hce:P.cellsOf e=i.size:=by simp[Program.cellsOf,hi]
 rcases Qt (P:=P) (ty:=o.type) ok S ht hi hz A j hb hm with⟨rfl,E⟩|⟨F,W,hys,X,Y,G,I,M,E⟩
 .let J':Sg:={ J with m:=J.m++[ad],H:=J.H++[.row 0 i.size ae e (.p (.arr 0 i.size []))]}
  have f:J'.m[J.H.length]? =ab ad:=by
   show(J.m++[ad])[J.H.length]? =_;rw[yan (by rw[ok.len];exact ym _),ok.len];simp
  obtain⟨to,Q⟩:=WE (J':=J') ok rfl rfl rfl rfl (World.grownBy.refl J.w ad) (.inl rfl) (λZ=>⟨0,by simp[aJ],.inl ⟨rfl,rfl⟩⟩);refine ZH (J':=J') (Yi ho T U g (by rw[z];exact E)) to Q ?_;rw[Zg rfl];simp only[yG];refine⟨ad,0,rfl,ym _,by simp[maxLen],λ_=>rfl,λh=>(by simp at h),0,i.size,ae,e,.p (.arr 0 i.size []),by simp[J'],ym _,λ_=>⟨rfl,.inl ⟨f,rfl,rfl⟩⟩⟩
 .have zV:F.length=ys.length*i.size:=by rw[aG _ _ Y,aI X]
  refine qc (N:=ys.length) (cap:=grownCap J.w ys.length 0 e) (w':=J.w.drew.alloc (.cells (F.toArray++W) e)) (v:=.bool ae) ok (Xs J.w (.cells (F.toArray++W) e) ad) (heap_alloc_new J.w.drew _) M (by simp) (by simp[aJ]) G I (ym _) ?_ (Yi ho T U g (by rw[z];exact E));rw[<-zV];simp only[Array.toList_append,List.take_left',yG,aq];exact⟨zZ,X,Y⟩
theorem zq{w:yad}{t u ty e:yb}{i:TypeInfo}{S:yh}{zW:yL yh}{A:yO Addr}{n c:Nat}(ht:P.underlying t=ab (.slice e))(hi:P.info? e=ab i)(m:Src P w u i.size S 0 zW)(s:n<=c)(x:A=ad->c=0):
 (Builtin.append_ #[t,u] ty #[.slice A n c,S]).run P w=.ok (.slice A n c) w:=by
 obtain⟨g,j,l,y,z⟩:=m;have f:zW=[]:=ybo (by rw[z];simp);subst f
 rcases g with⟨E,hu⟩|hu <;>
  (cases A with
   |none=>
    have:=x rfl;have h:n=0:=by omega
    subst this;subst h
    simp[Builtin.append_,run_underlying ht,run_underlying hu,sizeOf,typeInfo,hi,j,l]
   |some A=>
    simp[Builtin.append_,run_underlying ht,run_underlying hu,sizeOf,typeInfo,hi,j,l,s,storeCells])
theorem Zuz(ok:Ok J)(m:ay J ts a){c:Call}{x y:yo}{t u e:yb}{i:TypeInfo}{id v s lo n:Nat}(ho:o.op=.call c)(z:c.callee=.builtin .append)(E:c.args.toList=[x,y])
 (h:c.argTypes.toList=[t,u]) (ht:P.underlying t=ab (.slice e)) (hx:Zo P ts t x=.rv id v s lo n) (hi:P.info? e=ab i)
 (f:my P J (P.cellsOf e) u (a.eval y) []):YH P o a J (.rv id v s lo n) J.H:=by
 have g:=Zh (P:=P) m t x;rw[hx]at g;have j:=g;obtain⟨A,Q,F,G,S,I,_⟩:=jt g;have l:P.cellsOf e=i.size:=by simp[Program.cellsOf,hi]
 rw[l]at f;obtain⟨T,M,_,_⟩:=f;refine Zi (v:=a.eval x) ok (Yi ho z E h ?_) j;rw[F];exact zq (P:=P) (ty:=o.type) ht hi M G I
theorem PU{v s N o:Nat}{st:Bool}{e:yb}{xs:yL Pl}(hu:(ar.row v s st e (.p (.arr N s xs))).bg o):st=af/\o < N*s:=by
 obtain⟨f,N',c,g⟩:=hu;rw[show aJ (.p (.arr N s xs)) s=ab N from yW rfl]at c
 cases c;exact⟨f,g⟩
theorem zr{v v' s n N m o:Nat}{st:Bool}{e:yb}{xs ys:yL Pl}(c:st=ae\/n=N)(hu:(ar.row v s st e (.p (.arr N s xs))).bg o):(ar.row v' s st e (.p (.arr (n+m) s ys))).bg o:=by
 obtain⟨f,g⟩:=PU hu;refine⟨f,n+m,yW rfl, ?_⟩;rcases c with h|h
 .rw[h]at f;cases f
 .subst h;rw[ybd];omega
theorem Zw5(ok:Ok J)(yK:ay J ts a){c:Call}{x y:yo}{t u e:yb}{i:TypeInfo}{xs ys:yL Pl}{id v n N:Nat}{st:Bool}(hst:st=ae\/n=N)(ho:o.op=.call c)(yS:c.callee=.builtin .append)
 (yQ:c.args.toList=[x,y]) (W:c.argTypes.toList=[t,u]) (ht:P.underlying t=ab (.slice e)) (hx:Zo P ts t x=.rv id v i.size 0 n) (hi:P.info? e=ab i) (hz:bP i=ae) (hne:i.size≠0)
 (hsrc:my P J i.size u (a.eval y) ys) (hH:J.H[id]? =ab (.row v i.size st e (.p (.arr N i.size xs)))) (hnN:n<=N) (hb:(n+ys.length)*i.bytes<=Zn) (hm:n+ys.length<=maxLen):
 YH P o a J (.rv id (v+1) i.size 0 (n+ys.length)) (J.H.set id (.row (v+1) i.size st e (.p (.arr (n+ys.length) i.size (xs.take n++ys))))):=by
 have hxv:=Zh (P:=P) yK t x;rw[hx]at hxv;obtain⟨A0,c0,hv0,_,_,_,S,Z,q,hq,T,hqc⟩:=tD ok hxv hH rfl (by omega:0+n<=N);simp only[List.drop_zero]at S Z hq;obtain⟨A,X,hv,h2,h3,h4,h5,v2,s2,st2,e2,d2,h6,h7,h8⟩:=jt hxv;rw[hv]at hv0;injection hv0 with e1 e2 e3;subst e1;subst e3;rw[hH]at h6;cases h6;obtain⟨_,h9⟩:=h8 rfl;have hsrc2:=hsrc;obtain⟨Y,hS,hr,zO⟩:=hsrc2;obtain⟨z,hzz,hzs⟩:=ju hz;have hidlt:id < J.m.length:=by rw[ok.len];exact(yp.1 hH).1
 have I:J.m[id]? =ab J.m[id]:=yae hidlt;have hnl:Y.length=ys.length*i.size:=hS.cells;have hone:∀v,v∈Y->v.oneCell'=ae:=cj _ _ hr;have zV:(xs.take n++ys).length=n+ys.length:=by rw[yn,Z]
 have hall':aT i.size (xs.take n++ys):=by
  by_cases hy:ys=[]
  .subst hy;simpa using S
  .exact Vh S (zO hy)
 have hrowN:aJ (.p (.arr (n+ys.length) i.size (xs.take n++ys))) i.size=ab (n+ys.length):=by simp[aJ]
 have grow:X < n+ys.length->YH P o a J (.rv id (v+1) i.size 0 (n+ys.length)) (J.H.set id (.row (v+1) i.size st e (.p (.arr (n+ys.length) i.size (xs.take n++ys))))):=by
  intro hgr
  have hold:(Builtin.firstCells i.size n (.slice A n X)).run P J.w.drew=.ok q.toArray J.w.drew:=by
   rcases ycu n with h0|h0
   .subst h0;have:q=[]:=ybo (by rw[T];simp);subst this;cases A <;> simp[Builtin.firstCells,loadCells,loadCellsFrom]
   .obtain⟨b,F,cap,rfl,_,_,_,g⟩:=hqc h0;refine run_firstCells_some _ _ _ ⟨b,_,ad⟩ _ X q T (λj v hv=> ?_);rw[Addr.bB];exact g j v hv
  have zU:=xP (P:=P) (ty:=o.type) ht hi hzz hS hold hgr hm hb;have hge:=grownCap_ge J.w (n+ys.length) X e;have hcm:=grownCap_le_maxLen J.w (n+ys.length) X e hm;let k:Nat:=grownCap J.w (n+ys.length) X e;let yJ:Array yh:=Builtin.zeroCells z.cells (k - (n+ys.length));let f:Array yh:=q.toArray++Y.toArray++yJ;let J':Sg:={ J with m:=J.m.set id (ab J.w.heap.size),H:=J.H.set id (.row (v+1) i.size st e (.p (.arr (n+ys.length) i.size (xs.take n++ys)))),w:=J.w.drew.alloc (.cells f e)}
  have Q:f.size=k*i.size:=by
   simp only[f,yJ,Array.size_append,List.size_toArray,size_zeroCells,hzs,T,hnl, <-ybd];congr 1;omega
  have htk:f.toList.take ((n+ys.length)*i.size)=q++Y:=by
   have e1:(q++Y).length=(n+ys.length)*i.size:=by rw[yn,T,hnl,ybd]
   rw[<-e1];have:f.toList=(q++Y)++yJ.toList:=by simp[f]
   rw[this];exact List.take_left
  have zB:J'.w.heap[J.w.heap.size]? =ab (.cells f e (0,0)):=heap_alloc_new J.w.drew _;have hg:=Xs J.w (.cells f e) ad;have hblk':∀b,b < J.w.heap.size->J'.w.heap[b]? =J.w.heap[b]? :=λb hb=>hg.block b hb (by simp);have l:J'.m[id]? =ab (ab J.w.heap.size):=ai I;have E:J'.H[id]? =ab (.row (v+1) i.size st e (.p (.arr (n+ys.length) i.size (xs.take n++ys)))):=ai hH
  obtain⟨to,U⟩:=XE (J':=J') (mi:=J.m[id]) (mi':=ab J.w.heap.size) ok hH I rfl rfl rfl rfl rfl rfl rfl hg.size
   (λb hb _=>hblk' b hb) (λb' o v hb' _ g=>by
     rw[World.cell?_of_block (w:=J.w) (hblk' b' (WP g))];exact g)
   (λo h _=>by
     have:=ok.lt id J.w.heap.size (by rw[I, <-h]);omega) (.inr ⟨_,rfl,ym _,by simp[J']⟩) (λ⟨d,st,h⟩=>by cases h) (λ⟨d,st,h⟩=>by cases h)
   (λs' e' xs' h=>by cases h)
   (λG=>⟨n+ys.length,hrowN,.inr ⟨J.w.heap.size,f,k,rfl,zB,Q,hge,hcm,by
     rw[htk];simp only[yG,aq];exact⟨zV,hall',Ys (ax G.cells _ _ hq) (ax G.cells _ _ hr)⟩⟩⟩)
   (λv2 s st e d h=>by cases h;exact⟨v+1,_,_,rfl,by omega,λhh=>absurd hh (by omega)⟩)
  refine ZH (J':=J') (Yi ho yS yQ W (by rw[hv];exact zU)) to U ?_;rw[Zg rfl];simp only[yG];exact⟨_,_,rfl,hge,hcm,λh=>(by cases h),λ_=>⟨_,_,rfl⟩,v+1,i.size,st,e,_,E,ym _,λ_=>⟨rfl,.inr ⟨J.w.heap.size,f,l,zB,by rw[Q,yau],λ_=>by simp⟩⟩⟩
 rcases h9 with⟨k1,rfl,k2⟩|⟨b,F,k1,k3,k4,k5⟩
 .have hc0:X=0:=by omega
  subst hc0;have hn0:n=0:=by omega
  subst hn0;rcases ycu ys.length with h0|h0
  .have hys:ys=[]:=ybo h0;subst hys;have zU:=zq (P:=P) (ty:=o.type) (A:=ad) (n:=0) (c:=0) ht hi hS (ym _) (λ_=>rfl);let J':Sg:={ J with m:=J.m.set id J.m[id],H:=J.H.set id (.row (v+1) i.size st e (.p (.arr (0+([]:yL Pl).length) i.size (xs.take 0++[]))))};have l:J'.m[id]? =ab J.m[id]:=ai I;have E:J'.H[id]? =ab (.row (v+1) i.size st e (.p (.arr (0+([]:yL Pl).length) i.size (xs.take 0++[])))):=ai hH;have hmn:J.m[id]=ad:=by rw[I]at k1;exact ybp k1
   obtain⟨to,U⟩:=XE (J':=J') (mi:=J.m[id]) (mi':=J.m[id]) ok hH I rfl rfl rfl rfl rfl rfl rfl (ym _)
    (λ_ _ _=>rfl) (λ_ _ _ _ _ h=>h) (λo _ hu=>zr hst hu) (.inl rfl) (λ⟨d,st,h⟩=>by cases h) (λ⟨d,st,h⟩=>by cases h)
    (λs e xs h=>by cases h) (λG=>⟨0,by simp[aJ],.inl ⟨hmn,rfl⟩⟩)
    (λv2 s st e d h=>by cases h;exact⟨v+1,_,_,rfl,by omega,λhh=>absurd hh (by omega)⟩)
   refine ZH (J':=J') (Yi ho yS yQ W (by rw[hv];exact zU)) to U ?_;rw[Zg rfl];simp only[yG];exact⟨ad,0,rfl,ym _,by simp[maxLen],λ_=>rfl,λh=>(by simp at h),v+1,i.size,st,e,_,E,ym _,λ_=>⟨rfl,.inl ⟨by rw[l,hmn],rfl,rfl⟩⟩⟩
  .exact grow (by omega)
 .by_cases M:n+ys.length<=X
  .have hmb:J.m[id]=ab b:=by rw[I]at k1;exact ybp k1
   rw[yau]at k4;rcases ycu X with hcp0|hcp0
   .have hn0:n=0:=by omega
    have hy0:ys.length=0:=by omega
    have hys:ys=[]:=ybo hy0;subst hys;have zU:=zq (P:=P) (ty:=o.type) ht hi hS h2 h4;let J':Sg:={ J with m:=J.m.set id (ab b),H:=J.H.set id (.row (v+1) i.size st e (.p (.arr (n+([]:yL Pl).length) i.size (xs.take n++[]))))};have l:J'.m[id]? =ab (ab b):=ai I;have E:J'.H[id]? =ab (.row (v+1) i.size st e (.p (.arr (n+([]:yL Pl).length) i.size (xs.take n++[])))):=ai hH
    obtain⟨to,U⟩:=XE (J':=J') (mi:=ab b) (mi':=ab b) ok hH k1 rfl rfl rfl rfl rfl rfl rfl (ym _)
     (λ_ _ _=>rfl) (λ_ _ _ _ _ h=>h) (λo _ hu=>zr hst hu) (.inl rfl) (λ⟨d,st,h⟩=>by cases h) (λ⟨d,st,h⟩=>by cases h)
     (λs e xs h=>by cases h) (λG=>⟨n,by simp[aJ],.inr ⟨b,F,X,rfl,k3,k4,h2,h3,by
       subst hn0;simp[yG,aq,ak];intro x hx;cases hx⟩⟩)
     (λv2 s st e d h=>by cases h;exact⟨v+1,_,_,rfl,by omega,λhh=>absurd hh (by omega)⟩)
    refine ZH (J':=J') (Yi ho yS yQ W (by rw[hv];exact zU)) to U ?_;rw[Zg rfl];simp only[yG];exact⟨A,X,rfl,h2,h3,h4,h5,v+1,i.size,st,e,_,E,ym _,λ_=>⟨rfl,.inr ⟨b,F,l,k3,by rw[yau];exact k4,λh=>absurd h (by omega)⟩⟩⟩
   have hA:=k5 hcp0;rw[Nat.zero_mul]at hA;subst hA;have zU:=xO (P:=P) (ty:=o.type) ht hi hS hone k3 M k4
   have hus:(F.toList.take (n*i.size)).length=n*i.size:=by
    rw[yy,ybh,k4];exact ybi (ycb _ h2)
   have hqe:F.toList.take (n*i.size)=q:=by
    rcases ycu n with h0|h0
    .subst h0;have:q=[]:=ybo (by rw[T];simp);rw[this];simp
    .obtain⟨b2,cur2,cap2,hbb,hm2,hb2,hcs2,g⟩:=hqc h0
     have hbe:b=b2:=by
      injection hbb with hb';injection hb'
     subst hbe;apply ybg;intro j;rw[ycg];by_cases hj:j < n*i.size
     .rw[yW hj];have hjq:j < q.length:=by rw[T];exact hj
      have:=g j q[j] (yae hjq);rw[Nat.zero_mul,yau,cell_of_row J.w b j F e (0,0) k3, <-ybr]at this;rw[this,yae hjq]
     .rw[yX hj,yat (by rw[T];omega)]
   let f:Array yh:=(F.toList.take (n*i.size)++Y++F.toList.drop (n*i.size+Y.length)).toArray;let J':Sg:={ J with m:=J.m.set id (ab b),H:=J.H.set id (.row (v+1) i.size st e (.p (.arr (n+ys.length) i.size (xs.take n++ys)))),w:=J.w.setRow b f};have hfit:n*i.size+Y.length<=F.size:=by rw[hnl,k4, <-ybd];exact ycb _ M
   have Q:f.size=X*i.size:=by
    simp only[f,List.size_toArray,yn,ybf,ybh,hus];omega
   have zB:J'.w.heap[b]? =ab (.cells f e (0,0)):=setRow_heap J.w b F _ e _ k3;have hoth:∀j,b≠j->J'.w.heap[j]? =J.w.heap[j]? :=λj hj=>setRow_other J.w b j _ (Ne.symm hj);have l:J'.m[id]? =ab (ab b):=ai I;have E:J'.H[id]? =ab (.row (v+1) i.size st e (.p (.arr (n+ys.length) i.size (xs.take n++ys)))):=ai hH
   have htk:f.toList.take ((n+ys.length)*i.size)=q++Y:=by
    have e1:(F.toList.take (n*i.size)++Y).length=(n+ys.length)*i.size:=by rw[yn,hus,hnl,ybd]
    rw[<-e1, <-hqe];exact List.take_left
   obtain⟨to,U⟩:=XE (J':=J') (mi:=ab b) (mi':=ab b) ok hH k1 rfl rfl rfl rfl rfl rfl rfl (by simp[J'])
    (λj hj hne=>hoth j (λhh=>hne (by rw[hh]))) (λb' o v hb' hu g=>by
      cases hb'
      have ho':o < n*i.size:=by
       rcases hst with h|h
       .rw[h]at hu;cases hu.1
       .rw[h];exact(PU hu).2
      rw[cell_of_row J'.w b o f e (0,0) zB];rw[cell_of_row J.w b o F e (0,0) k3, <-ybr]at g;rw[show f[o]? =(F.toList.take (n*i.size)++Y++F.toList.drop (n*i.size+Y.length))[o]? from by simp[f],yac,yaj (by rw[hus];exact ho'),ycg,yW ho']
      exact g)
    (λo _ hu=>zr hst hu) (.inl rfl) (λ⟨d,st,h⟩=>by cases h) (λ⟨d,st,h⟩=>by cases h)
    (λs' e' xs' h=>by cases h)
    (λG=>⟨n+ys.length,hrowN,.inr ⟨b,f,X,rfl,zB,Q,M,h3,by
      rw[htk];simp only[yG,aq];exact⟨zV,hall',Ys (ax G.cells _ _ hq) (ax G.cells _ _ hr)⟩⟩⟩)
    (λv2 s st e d h=>by cases h;exact⟨v+1,_,_,rfl,by omega,λhh=>absurd hh (by omega)⟩)
   refine ZH (J':=J') (Yi ho yS yQ W (by rw[hv];exact zU)) to U ?_;rw[Zg rfl];simp only[yG];exact⟨_,_,rfl,M,h3,λh=>(by cases h),λ_=>⟨_,_,rfl⟩,v+1,i.size,st,e,_,E,ym _,λ_=>⟨rfl,.inr ⟨b,f,l,zB,by rw[Q,yau],λ_=>by simp⟩⟩⟩
  .exact grow (by omega)
theorem ZuA(ok:Ok J)(yK:ay J ts a){c:Call}{x y:yo}{t u e:yb}{i:TypeInfo}{xs ys:yL Pl}{id v n N:Nat}(ho:o.op=.call c)(yS:c.callee=.builtin .append)
 (yQ:c.args.toList=[x,y]) (htys:c.argTypes.toList=[t,u]) (ht:P.underlying t=ab (.slice e)) (hx:Zo P ts t x=.rv id v i.size 0 n) (hi:P.info? e=ab i) (hz:bP i=ae) (S:i.size≠0)
 (hsrc:my P J i.size u (a.eval y) ys) (hH:J.H[id]? =ab (.row v i.size ae e (.p (.arr N i.size xs)))) (hpos:0 < N) (F:n+ys.length<=N):
 YH P o a J (.rv id v i.size 0 (n+ys.length)) (J.H.set id (.row v i.size ae e (.p (.arr N i.size (xs.take n++(ys++xs.drop (n+ys.length))))))):=by
 have hxv:=Zh (P:=P) yK t x;rw[hx]at hxv;obtain⟨A,cp,hv,h2,h3,h4,h5,v2,s2,st2,e2,d2,h6,h7,h8⟩:=jt hxv;rw[hH]at h6;cases h6;obtain⟨_,h9⟩:=h8 rfl;have T:=hsrc;obtain⟨zW,hS,hr,zO⟩:=T;have U:id < J.m.length:=by rw[ok.len];exact(yp.1 hH).1
 have G:J.m[id]? =ab J.m[id]:=yae U;have hnl:zW.length=ys.length*i.size:=hS.cells;have hone:∀v,v∈zW->v.oneCell'=ae:=cj _ _ hr;obtain⟨N',hN',hent⟩:=ok.cA id _ _ hH G;simp only[aJ,if_true,yj]at hN';subst hN';rcases hent with⟨_,h0⟩|⟨b,g,cap,hh,g2,g4,g5,g6,g7⟩
 .omega
 simp only[yG,aq]at g7;obtain⟨hxl,I,g7⟩:=g7;rcases h9 with⟨k1,_,_⟩|⟨b',cur',k1,k3,k4,k5⟩
 .rw[G,hh]at k1;cases k1
 rw[G,hh]at k1;cases k1;rw[g2]at k3;cases k3;have hm:J.m[id]? =ab (ab b):=by rw[G,hh]
 rw[yau]at k4;have hcc:cp=cap:=Nat.eq_of_mul_eq_mul_right (Nat.pos_of_ne_zero S) (k4.symm.trans g4);subst hcc;have l:n+ys.length<=cp:=Nat.le_trans F g5;have hA:=k5 (by omega);rw[Nat.zero_mul]at hA;subst hA;have zU:=xO (P:=P) (ty:=o.type) ht hi hS hone g2 l k4
 have M:xs=xs.take n++((xs.drop n).take ys.length++xs.drop (n+ys.length)):=by
  have e1:xs.drop (n+ys.length)=(xs.drop n).drop ys.length:=by rw[List.drop_drop]
  rw[e1,ybk,ybk]
 have g7':=g7;rw[M]at g7';obtain⟨q1,q23,e1,r1,r23⟩:=Yh g7';obtain⟨q2,q3,rfl,r2,r3⟩:=Yh r23;have W:aT i.size (xs.take n):=V5 I n;have hs2:aT i.size ((xs.drop n).take ys.length):=V5 (ta I n) _;have ly:((xs.drop n).take ys.length).length=ys.length:=by rw[yy,ybf,ybi (by omega)]
 have l1:q1.length=n*i.size:=by rw[aG _ _ r1,aI W,yy,ybi (by omega)]
 have l2:q2.length=ys.length*i.size:=by rw[aG _ _ r2,aI hs2,ly]
 have hsz:N*i.size<=g.size:=by rw[g4];exact ycb _ g5
 obtain⟨m1,m2⟩:=pT (y':=zW) e1 (by rw[hnl,l2]) hsz;rw[l1]at m1 m2;let f:Array yh:=(g.toList.take (n*i.size)++zW++g.toList.drop (n*i.size+zW.length)).toArray;let J':Sg:={ J with m:=J.m.set id (ab b),H:=J.H.set id (.row v i.size ae e (.p (.arr N i.size (xs.take n++(ys++xs.drop (n+ys.length)))))),w:=J.w.setRow b f};have E:f.size=g.size:=m2;have zB:J'.w.heap[b]? =ab (.cells f e (0,0)):=setRow_heap J.w b g _ e _ g2;have hoth:∀j,b≠j->J'.w.heap[j]? =J.w.heap[j]? :=λj hj=>setRow_other J.w b j _ (Ne.symm hj);have X:J'.m[id]? =ab (ab b):=ai hm;have Y:J'.H[id]? =ab (.row v i.size ae e (.p (.arr N i.size (xs.take n++(ys++xs.drop (n+ys.length)))))):=ai hH
 have Z:aT i.size (xs.take n++(ys++xs.drop (n+ys.length))):=by
  by_cases hy:ys=[]
  .subst hy;exact Vh W (Vh (λz hz=>by cases hz) (ta I _))
  .exact Vh W (Vh (zO hy) (ta I _))
 obtain⟨to,ok'⟩:=XE (J':=J') (mi:=ab b) (mi':=ab b) ok hH hm rfl rfl rfl rfl rfl rfl rfl (by simp[J'])
  (λj hj S=>hoth j (λhh=>S (by rw[hh]))) (λb' o v _ hu _=>by cases hu.1) (λo _ hu=>by cases hu.1) (.inl rfl) (λ⟨d,st,h⟩=>by cases h) (λ⟨d,st,h⟩=>by cases h)
  (λs e xs h=>by cases h) (λleaf=>⟨N,by simp[aJ],.inr ⟨b,f,cp,rfl,zB,by rw[E];exact g4,g5,g6,by
    rw[show f.toList.take (N*i.size)=q1++(zW++q3) from m1]
    refine Z7 leaf _ _ ?_;simp only[yG,aq];refine⟨by rw[yn,yn,yy,ybf];omega,Z,Ys r1 (Ys hr r3)⟩⟩⟩)
  (λv2 s st e2 d h=>by cases h;exact⟨v,ae,_,rfl,ym _,λ_=>⟨rfl,λb2 cur2 hb2 Q=>by
    cases hb2;rw[g2]at Q;cases Q;exact⟨f,zB,E⟩⟩⟩)
 refine ZH (J':=J') (Yi ho yS yQ htys (by rw[hv];exact zU)) to ok' ?_;rw[Zg rfl];simp only[yG];exact⟨_,_,rfl,l,h3,λh=>(by cases h),λ_=>⟨_,_,rfl⟩,v,i.size,ae,e,_,Y,ym _,λ_=>⟨rfl,.inr ⟨b,f,X,zB,by rw[E,yau];exact k4,λ_=>by simp⟩⟩⟩
theorem ZuB(z:Array yh):(Builtin.zeroCells z 1).toList=z.toList:=by
 apply List.ext_getElem
 .simp[Builtin.zeroCells]
 .intro i f e;have c:i < z.size:=by simpa using e
  simp[Builtin.zeroCells,Nat.mod_eq_of_lt c,c]
theorem ZzC(ok:Ok J)(yK:ay J ts a){c:Call}{x:yo}{t e M:yb}{i:TypeInfo}{z:Pl}{xs:yL Pl}{id v lo N:Nat}(ho:o.op=.call c)(yS:c.callee=.builtin .clear)
 (yQ:c.args.toList=[x]) (Q:c.argTypes.toList=[t]) (ht:P.underlying t=ab (.slice e)) (hx:Zo P ts t x=.rv id v i.size lo 1) (hi:P.info? e=ab i) (hz:bP i=ae) (S:i.size≠0) (hzp:YI P e=.p z) (hzs:z.size=i.size)
 (hH:J.H[id]? =ab (.row v i.size ae M (.p (.arr N i.size xs)))) (T:lo+1<=N):
 YH P o a J (.bf []) (J.H.set id (.row v i.size ae M (.p (.arr N i.size (xs.set lo z))))):=by
 have U:=Zh (P:=P) yK t x;rw[hx]at U;obtain⟨A,cc,hv,h2,h3,h4,hpall,hplen,q,hq,hql,hqc⟩:=tD ok U hH rfl T;obtain⟨b,f,cap,rfl,hm,hb,hcs,hcell⟩:=hqc (by omega);obtain⟨N',W,X⟩:=ok.cA id _ _ hH hm;simp only[aJ,if_true,yj]at W;subst W;rcases X with⟨h,_⟩|⟨b',cur',Y,h,g2,g4,g5,g6,g7⟩
 .cases h
 cases h;rw[hb]at g2;cases g2;obtain⟨l,Z,hzsz⟩:=ju hz
 have hzr:yH J (.p z) l:=by
  rw[<-hzp];unfold YI;rw[hi];simp only[Z];exact VB
 have F:=VY (d:=.p z) rfl hzr;simp only[yG]at F;have G:∀u,u∈l.cells.toList->u.oneCell'=ae:=xz _ _ F;have hzl:l.cells.toList.length=i.size:=by rw[ybh,hzsz]
 simp only[yG,aq]at g7;obtain⟨hxl,I,h7⟩:=g7;have hlo:lo < xs.length:=by omega
 have hxi:xs[lo]? =ab xs[lo]:=yae hlo;obtain⟨p1,p2,p3,e1,l1,r2,l2,r1,r3⟩:=jZ h7 hxi;have l1':p1.length=lo*i.size:=by rw[l1,aI (λz hz=>I z (ycc hz)),yy,ybi (by omega)]
 have l2':p2.length=i.size:=by rw[l2];exact I _ (List.getElem_mem hlo)
 have hsz:N*i.size<=f.size:=by rw[g4];exact ycb _ g5
 obtain⟨k1,k2⟩:=pT (y':=l.cells.toList) e1 (by rw[hzl,l2']) hsz;rw[l1']at k1 k2
 have hnl:lo*i.size+l.cells.toList.length<=f.size:=by
  rw[hzl, <-Nat.succ_mul];exact Nat.le_trans (ycb _ T) hsz
 have hst:=run_storeCells_at P b (lo*i.size) M l.cells.toList 0 f J.w hb (by simpa using hnl) G;simp only[ycl]at hst;let g:Array yh:=(f.toList.take (lo*i.size)++l.cells.toList++f.toList.drop (lo*i.size+l.cells.toList.length)).toArray;let J':Sg:={ J with m:=J.m.set id (ab b),H:=J.H.set id (.row v i.size ae M (.p (.arr N i.size (xs.set lo z)))),w:=J.w.setRow b g};have y:g.size=f.size:=k2;have zB:J'.w.heap[b]? =ab (.cells g M (0,0)):=setRow_heap J.w b f _ M _ hb;have hoth:∀j,b≠j->J'.w.heap[j]? =J.w.heap[j]? :=λj hj=>setRow_other J.w b j _ (Ne.symm hj)
 obtain⟨to,ok'⟩:=XE (J':=J') (mi:=ab b) (mi':=ab b) ok hH hm rfl rfl rfl rfl rfl rfl rfl (by simp[J'])
  (λj hj S=>hoth j (λhh=>S (by rw[hh]))) (λb' o v _ hu _=>by cases hu.1) (λo _ hu=>by cases hu.1) (.inl rfl) (λ⟨d,st,h⟩=>by cases h) (λ⟨d,st,h⟩=>by cases h)
  (λs e xs h=>by cases h) (λleaf=>⟨N,by simp[aJ],.inr ⟨b,g,Y,rfl,zB,by rw[y];exact g4,g5,g6,by
    rw[show g.toList.take (N*i.size)=p1++(l.cells.toList++p3) from k1]
    refine Z7 leaf _ _ ?_;simp only[yG,aq];refine⟨by rw[yax];exact hxl,tA I hzs, ?_⟩;rw[mA hxi];refine Ys r1 ?_;simp only[ak];exact⟨_,_,rfl,F,r3⟩⟩⟩)
  (λv2 s st e2 d h=>by cases h;exact⟨v,ae,_,rfl,ym _,λ_=>⟨rfl,λb2 cur2 hb2 E=>by
    cases hb2;rw[hb]at E;cases E;exact⟨g,zB,y⟩⟩⟩)
 have h1:c.args= #[x]:=by rw[<-yca (xs:=c.args),yQ]
 have h2':c.argTypes= #[t]:=by rw[<-yca (xs:=c.argTypes),Q]
 have hzv:(zeroValue e).run P J.w=.ok l J.w:=by simp[zeroValue,typeInfo,hi,Z]
 have zU:(Builtin.clear_ #[t] o.type #[a.eval x]).run P J.w=.ok (.tuple #[]) J'.w:=by
  rw[hv];simp[Builtin.clear_,run_underlying ht,hzv,ZuB,hst,J',g]
 refine ZH (J':=J') (v:=.tuple #[]) ?_ to ok' ?_
 .simp[execOp,ho,resolve,yS,h1,h2',invoke,builtin,zU]
 .rw[Zg rfl];simp only[yG];exact⟨#[],rfl,by simp[aB]⟩
theorem PV(ok:Ok J)(S:ay J ts a){t:yb}{x:yo}{lo hi:yO yo}(ho:o.op=.slice t x lo hi ad)(h:bm P o ts J.H hs=ab (C,d,hs'))(hc:aY C):YH P o a J d J.H:=by
 simp only[bm,ho]at h;have T:=Zh (P:=P) S t x;split at h
 .rename_i e id v s l0 n l r Y Z j hl hr;rw[j]at T;split at h
  .rename_i v' U st e' dd E;split at h
   .rename_i N hN;split at h
    .rename_i F;simp only[yi,yP,yT]at F;simp only[yE]at F;obtain⟨⟨⟨⟨k1,W⟩,k3⟩,k4⟩,k5⟩:=F;subst k3;subst k4;simp only[yj,yl]at h;obtain⟨rfl,rfl,rfl⟩:=h;obtain⟨G,c2,c3,_⟩:=hc;obtain⟨A,c,T,h2,h3,h4,h5,h6⟩:=jt T
     have I:N<=l0+c/\(0 < c->∃b o',A=ab ⟨b,o',ad⟩):=by
      obtain⟨v2,s2,st2,e2,d2,g1,g2,g3⟩:=h6;rw[E]at g1;cases g1;obtain⟨_,g4⟩:=g3 rfl;have y:id < J.m.length:=by rw[ok.len];exact(yp.1 E).1
      have z:J.m[id]? =ab J.m[id]:=yae y;obtain⟨N2,X,g⟩:=ok.cA id _ _ E z;rw[hN]at X;cases X;rcases g4 with⟨f,rfl,g6⟩|⟨b,cur,f,g6,g7,g8⟩
      .rw[z]at f;have f:=ybp f;rcases g with⟨_,g⟩|⟨b,cur,M,g,_⟩
       .exact⟨by omega,λh=>absurd h (by omega)⟩
       .rw[g]at f;cases f
      .rw[z]at f;have f:=ybp f;rcases g with⟨g,_⟩|⟨b2,cur2,M,g,q3,q4,q5,q6,_⟩
       .rw[g]at f;cases f
       .rw[g]at f;cases f;rw[g6]at q3;cases q3;refine⟨?_,λh=>⟨b,_,g8 h⟩⟩;have:M*U=(l0+c)*U:=by rw[<-q4,g7]
        have:=Nat.eq_of_mul_eq_mul_right (Nat.pos_of_ne_zero k5) this;omega
     have hbd:∃p q,(Instr.sliceBounds ae n c (lo.map a.eval) (hi.map a.eval) ad).run P J.w=.ok (p,q,c) J.w/\p=(l.getD 0).toNat/\q=r.toNat/\p<=q/\q<=c:=by
      rcases YT S hr with⟨_,q⟩|⟨W,i2,e2,g⟩
      .cases q
      cases g;have b2:0<=r/\r<=(c:Int):=⟨by omega,by omega⟩;rcases YT S hl with⟨Q,q⟩|⟨k1,i1,Q,X⟩
      .subst q;refine⟨0,r.toNat, ?_,rfl,rfl,Nat.zero_le _,by omega⟩;rw[Q,e2];simp[Instr.sliceBounds,Instr.sliceBound,asIntOf,b2]
      .subst X;simp only[Option.getD_some]at G c2;have b1:0<=i1/\i1<=(r.toNat:Int):=⟨G,by omega⟩;refine⟨i1.toNat,r.toNat, ?_,rfl,rfl,by omega,by omega⟩;rw[Q,e2];simp[Instr.sliceBounds,Instr.sliceBound,asIntOf,b1,b2];omega
     obtain⟨p,q,hb,rfl,rfl,hpq,hqc⟩:=hbd;refine Zi (v:=.slice (if c=(l.getD 0).toNat then A else A.map (·.add ((l.getD 0).toNat*U))) (r.toNat - (l.getD 0).toNat) (c - (l.getD 0).toNat)) ok ?_ ?_
     .have zU:(Instr.sliceAt t (a.eval x) (lo.map a.eval) (hi.map a.eval) ad).run P J.w=.ok (.slice (if c=(l.getD 0).toNat then A else A.map (·.add ((l.getD 0).toNat*U))) (r.toNat - (l.getD 0).toNat) (c - (l.getD 0).toNat)) J.w:=by
       rw[T];simp[Instr.sliceAt,Instr.slice,run_underlying Z,hb,Z0 W,k1]
      simp[execOp,ho,zU]
     .exact NB h2 h3 h4 I.2 h6 hpq hqc
    .cases h
   .cases h
  .cases h
 .rename_i n e id off yM l r Y Z j hl hr;split at h
  .rename_i dd E;split at h
   .rename_i C1 off' n' s xs hs2 hg;split at h
    .rename_i F;simp only[yi,yP]at F;obtain⟨⟨⟨rfl,W⟩,k3⟩,k4⟩:=F;simp only[yj,yl]at h;obtain⟨rfl,rfl,rfl⟩:=h;obtain⟨G,c2⟩:=Zj.1 hc;obtain⟨G,c3⟩:=Zj.1 G;have:=NU ok S ho Z j hl hr E hg G c3.1 W k3 k4 c2
     have Q:J.H.set id (.var dd af)=J.H:=by
      obtain⟨h1,h2⟩:=yp.1 E;rw[<-h2,List.set_getElem_self]
     rw[Q]at this;exact this
    .cases h
   .cases h
  .cases h
 .cases h
theorem ZFa(ok:Ok J)(Q:ay J ts a)(h:bZ P o ts J.H hs=ab (C,d,H',hs'))(hc:aY C):YH P o a J d H':=by
 unfold bZ at h;split at h
 .rename_i x E;have W:=Zh (P:=P) Q o.type x;split at h
  .rename_i t' A;split at h
   .split at h
    .rename_i e s F I;rw[I]at W;split at h
     .rename_i i S;split at h
      .simp only[yj,yl]at h;obtain⟨rfl,rfl,rfl,rfl⟩:=h;obtain⟨to,ok'⟩:=WE (J':={ J with m:=J.m++[ad],H:=J.H++[.log i.size e []]}) ok rfl rfl rfl rfl (World.grownBy.refl J.w ad) (.inl rfl) (λ_=>.inl ⟨rfl,rfl⟩);refine ZH (J':={ J with m:=J.m++[ad],H:=J.H++[.log i.size e []]}) (v:=.slice ad 0 0) (by simp[execOp,E,kZ W]) to ok' ?_;rw[Zg rfl];simp only[yG];refine⟨λ_ I=>(by cases I),ad,0,rfl,ym _,by simp[maxLen],Yd _,λ_=>rfl,λh=>absurd rfl h,e,[],by simp,ym _,λ_=>.inl ⟨?_,rfl,rfl⟩⟩;rw[yan (by rw[ok.len];exact ym _),ok.len];simp
      .cases h
     .cases h
    .cases h
   .cases h
  .rename_i t' A;split at h
   .split at h
    .rename_i e s F I;rw[I]at W;split at h
     .rename_i i S;split at h
      .simp only[yj,yl]at h;obtain⟨rfl,rfl,rfl,rfl⟩:=h;let J':Sg:={ J with m:=J.m++[ad],H:=J.H++[.row 0 i.size ae e (.p (.arr 0 i.size []))]}
       have hmlast:J'.m[J.H.length]? =ab ad:=by
        show(J.m++[ad])[J.H.length]? =_;rw[yan (by rw[ok.len];exact ym _),ok.len];simp
       obtain⟨to,ok'⟩:=WE (J':=J') ok rfl rfl rfl rfl (World.grownBy.refl J.w ad) (.inl rfl) (λ_=>⟨0,by simp[aJ],.inl ⟨rfl,rfl⟩⟩);refine ZH (J':=J') (v:=.slice ad 0 0) (by simp[J',execOp,E,kZ W]) to ok' ?_;rw[Zg rfl];simp only[yG];exact⟨ad,0,rfl,ym _,by simp[maxLen],λ_=>rfl,λh=>absurd h (Nat.lt_irrefl _),0,i.size,ae,e,.p (.arr 0 i.size []),by simp[J'],ym _,λ_=>⟨rfl,.inl ⟨hmlast,rfl,rfl⟩⟩⟩
      .cases h
     .cases h
    .cases h
   .cases h
  .rename_i t' A;split at h
   .exact PN ok Q (by simp[execOp,E]) h hc
   .cases h
  .cases h
 .rename_i x E;split at h
  .rename_i t' A;split at h
   .exact PN ok Q (by simp[execOp,E]) h hc
   .cases h
  .cases h
 .rename_i t l c E;split at h
  .rename_i e n n' F Y hcp;split at h
   .rename_i i A S;split at h
    .rename_i j;simp only[yi,yE]at j;simp only[yj,yl]at h;obtain⟨rfl,rfl,rfl,rfl⟩:=h;exact ZE7 ok Q E F Y hcp S j.1 j.2 hc.1 hc.2.1 hc.2.2.1 hc.2.2.2.1
    .cases h
   .rename_i i A S;split at h
    .rename_i j;simp only[yi,yE]at j;simp only[yj,yl]at h;obtain⟨rfl,rfl,rfl,rfl⟩:=h;exact ZE8 ok Q E F Y hcp S j.1 hc.1 hc.2.1 hc.2.2.1 hc.2.2.2.1
    .cases h
   .rename_i i A S;split at h
    .rename_i z hz;split at h
     .rename_i j;simp only[yi,yP,Bool.not_eq_true']at j;simp only[yj,yl]at h;obtain⟨rfl,rfl,rfl,rfl⟩:=h;exact ZBW ok Q E F Y hcp S j.1.1.1 j.1.1.2 hz j.1.2 j.2 hc.1 hc.2.1 hc.2.2.1 hc.2.2.2.1
     .cases h
    .cases h
   .rename_i i A S;split at h
    .rename_i z hz;split at h
     .rename_i j;simp only[yi,yP,Bool.not_eq_true']at j;simp only[yj,yl]at h;obtain⟨rfl,rfl,rfl,rfl⟩:=h;exact ZBY ok Q E F Y hcp S j.1.1.1 j.1.1.2 hz j.1.2 j.2 hc.1 hc.2.1 hc.2.2.1 hc.2.2.2.1
     .cases h
    .cases h
   .cases h
  .cases h
 .rename_i t E;split at h
  .simp only[yj,yl]at h;obtain⟨rfl,rfl,rfl,rfl⟩:=h;exact ZBT ok E
  .split at h
   .simp only[yj,yl]at h;obtain⟨rfl,rfl,rfl,rfl⟩:=h;exact ZGM ok E
   .simp only[yj,yl]at h;obtain⟨rfl,rfl,rfl,rfl⟩:=h;exact ZE6 ok E
   .cases h
 .rename_i t m k x E;split at h
  .rename_i kt et id F I;split at h
   .rename_i kk v t' aN l A j W T;split at h
    .rename_i U;simp only[yj,yl]at h;obtain⟨rfl,rfl,rfl,rfl⟩:=h;exact Zzz ok Q E F I j W T U hc.1 hc.2.1 hc.2.2.1
    .cases h
   .cases h
  .rename_i kt et id v ik z F I;split at h
   .rename_i kk y v' t' u' l aN kvs2 l2 A j W T;split at h
    .rename_i kt0 et0 hu0;split at h
     .rename_i U;simp only[yi]at U;have:=ydb U.2;subst this;simp only[yj,yl]at h;obtain⟨rfl,rfl,rfl,rfl⟩:=h;obtain⟨f0,f1,f2,f3,f4,f5,f6,_⟩:=hc;rw[f6];exact ZGN ok Q E F I j W T U.1 f0 f1 f2 f3 f4 f5
     .cases h
    .cases h
   .cases h
  .rename_i kt et id F I;split at h
   .rename_i kk id2 v2 v t' u' l l2 A j W T;split at h
    .rename_i v2' aN hH2;split at h
     .rename_i U;simp only[yi]at U;have:=ydb U.2;subst this;simp only[yj,yl]at h;obtain⟨rfl,rfl,rfl,rfl⟩:=h;obtain⟨f1,f2,f3,_⟩:=hc;rw[f3];exact ZGQ ok Q E F I j W T hH2 U.1 f1 f2
     .cases h
    .cases h
   .cases h
  .cases h
 .rename_i t m k x E;split at h
  .rename_i kt et id F I;split at h
   .rename_i kk v t' aN l A j W T;split at h
    .rename_i U;simp only[yj,yl]at h;obtain⟨rfl,rfl,rfl,rfl⟩:=h;exact ZGK ok Q E F I j W T U hc.1 hc.2.1 hc.2.2.1
    .cases h
   .cases h
  .cases h
 .rename_i t E;split at h
  .rename_i i S;split at h
   .split at h
    .rename_i j;simp only[yi]at j;simp only[yj,yl]at h;obtain⟨rfl,rfl,rfl,rfl⟩:=h;exact PT (ZJK ok E S (by obtain⟨z,hz,_⟩:=ju j.1.1;rw[hz];rfl) j.1.2 j.2) _
    .cases h
   .cases h
  .cases h
 .rename_i t x E;have W:=Zh (P:=P) Q t x;split at h
  .split at h
   .rename_i j;simp only[yj,yl]at h;obtain⟨rfl,rfl,rfl,rfl⟩:=h;refine PT (ZNm ok E j ?_) _;unfold lX;split
    .rename_i y hy;exact ZET hy W
    .exact W
   .cases h
  .cases h
 .rename_i t x y E;split at h
  .rename_i id off yM I;split at h
   .rename_i dd T;split at h
    .rename_i C1 off' sub A hg;split at h
     .rename_i new hn;split at h
      .rename_i d' hp;split at h
       .rename_i j;simp only[yi,yT]at j;obtain⟨⟨⟨⟨k1,k2⟩,k3⟩,k4⟩,k5⟩:=j;split at h
        .simp only[yj,yl]at h;obtain⟨rfl,rfl,rfl,rfl⟩:=h;obtain⟨X,c2⟩:=Zj.1 hc;exact Zw4 (ZJM ok Q E I T hg X c2.1 hn hp k1 k2 k3 k4) T _
        .cases h
       .cases h
      .cases h
     .cases h
    .cases h
   .cases h
  .rename_i id v off yM I;split at h
   .rename_i v' s e dd T;split at h
    .rename_i C1 off' sub A hg;split at h
     .rename_i new hn;split at h
      .rename_i d' hp;split at h
       .rename_i j;simp only[yi,yT]at j;obtain⟨⟨⟨⟨⟨⟨k1,k2⟩,k3⟩,k4⟩,k5⟩,k6⟩,k7⟩:=j;simp only[yj,yl]at h;obtain⟨rfl,rfl,rfl,rfl⟩:=h;obtain⟨X,c2⟩:=Zj.1 hc;exact ZzB ok Q E I T k6 hg X c2.1 hn hp k1 k2 k3 k4 k7
       .cases h
      .cases h
     .cases h
    .cases h
   .cases h
  .cases h
 .rename_i t len parts E;split at h
  .rename_i id A;split at h
   .rename_i e v s st e' dd F T;split at h
    .rename_i i xs S Y;split at h
     .rename_i j;simp only[yi,yE,yP,yT]at j;obtain⟨⟨j,rfl⟩,rfl⟩:=j;simp only[yj,yl]at h;obtain⟨rfl,rfl,rfl,rfl⟩:=h;exact ZBZ ok Q E F S j.1.1 j.1.2 j.2 Y T
     .cases h
    .cases h
   .cases h
  .rename_i A;split at h
   .rename_i e F;split at h
    .rename_i i xs S Y;split at h
     .rename_i j;simp only[yi,yE,yP]at j;simp only[yj,yl]at h;obtain⟨rfl,rfl,rfl,rfl⟩:=h;exact ZE9 ok Q E F S j.1.1 j.1.2 j.2 Y
     .cases h
    .cases h
   .cases h
  .rename_i A;split at h
   .rename_i e F;split at h
    .rename_i i xs S Y;split at h
     .rename_i j;simp only[yi,yE,yP]at j;simp only[yj,yl]at h;obtain⟨rfl,rfl,rfl,rfl⟩:=h;exact ZB0 ok Q E F S j.1.1 j.1.2 j.2 Y
     .cases h
    .cases h
   .cases h
  .rename_i A;split at h
   .rename_i e F;split at h
    .rename_i i xs S Y;split at h
     .rename_i j;simp only[yi,yE,yP]at j;simp only[yj,yl]at h;obtain⟨rfl,rfl,rfl,rfl⟩:=h;exact tg (ZEY ok Q E F S j.1.1 j.1.2 j.2 Y) (Wk.mh (by rw[<-Pl.ck];exact cq _)) (ca.append (ca.refl _) (.cons (.log (by rw[<-Pl.ck];exact cq _)) .nil))
     .cases h
    .cases h
   .cases h
  .cases h
 .rename_i src dst x E;split at h
  .rename_i e id v s lo n F I;have W:=Zh (P:=P) Q src x;rw[I]at W;split at h
   .rename_i v' s' e' N s2 xs T he;split at h
    .rename_i j;simp only[yi,yT,yE]at j;obtain⟨⟨⟨⟨⟨⟨⟨k1,k2⟩,k3⟩,k4⟩,k5⟩,k6⟩,k7⟩,k8⟩:=j;simp only[yj,yl]at h;obtain⟨rfl,rfl,rfl,rfl⟩:=h;subst k1 k2 k3 k4 k5 k6 k7;exact ZGE ok E F he W T (by omega)
    .cases h
   .cases h
  .cases h
 .rename_i t x lo S E;split at h
  .rename_i n e id off yM l r F I Y hr;split at h
   .rename_i A;split at h
    .rename_i dd st T;split at h
     .rename_i C1 off' n' s xs hs2 hg;split at h
      .rename_i j;simp only[yi,yP]at j;obtain⟨⟨⟨rfl,k2⟩,k3⟩,k4⟩:=j;simp only[yj,yl]at h;obtain⟨rfl,rfl,rfl,rfl⟩:=h;obtain⟨X,c2⟩:=Zj.1 hc;obtain⟨X,c3⟩:=Zj.1 X;exact NU ok Q E F I Y hr T hg X c3.1 k2 k3 k4 c2
      .cases h
     .cases h
    .cases h
   .cases h
  .rename_i e id v s lo' n l r F I Y hr;split at h
   .rename_i A;split at h
    .rename_i v' s' e' N s2 xs T;split at h
     .rename_i j;simp only[yi,yT,yE,yP]at j;obtain⟨⟨⟨⟨⟨⟨⟨k1,k2⟩,k3⟩,k4⟩,k5⟩,k6⟩,k7⟩,k8⟩:=j;simp only[yj,yl]at h;obtain⟨rfl,rfl,rfl,rfl⟩:=h;subst k3;subst k4;subst k5;subst k7
      have hR:bm P o ts J.H (.raw::A)=ab ([0<=l.getD 0,l.getD 0<=r,0+r.toNat<=N],.rv id v' s2 (0+(l.getD 0).toNat) (r.toNat - (l.getD 0).toNat),A):=by
       unfold bm;rw[E];dsimp only;rw[F,I,Y,hr];dsimp only;rw[T];simp[aJ,k1,k2,k6]
      have:=PV ok Q E hR ⟨by rw[k8];omega,by rw[k8];exact hc.1,by rw[yau];exact hc.2.1,aw⟩;rw[k8]at this;exact tg this (Wk.of_eq (by simp)) (ca.dh T (.shr hc.2.1))
     .cases h
    .cases h
   .cases h
  .cases h
 .rename_i c E;split at h
  .rename_i Z;split at h
   .rename_i x y t u yQ M;split at h
    .rename_i e id nn s xs F I;split at h
     .rename_i i C1 ys A s' e' zs S G T;split at h
      .rename_i j;simp only[yi,yE,yP]at j;obtain⟨⟨⟨⟨k1,k2⟩,rfl⟩,rfl⟩,k5⟩:=j;simp only[yj,yl]at h;obtain⟨rfl,rfl,rfl,rfl⟩:=h;obtain⟨X,rfl,c2,c3,_⟩:=Zj.1 hc;exact ZwW ok Q E Z yQ M F I S k1 k2 k5 (tE ok Q G X) T c2 c3
      .cases h
     .cases h
    .rename_i e s F I;split at h
     .rename_i A i ys S G;split at h
      .rename_i j;simp only[yi,yE]at j;simp only[yj,yl]at h;obtain⟨rfl,rfl,rfl,rfl⟩:=h;exact ZwV ok Q E Z yQ M F I S j.1 j.2 G hc.1 hc.2.1
      .cases h
     .rename_i A i ys S G;split at h
      .rename_i j;simp only[yi,yE]at j;simp only[yj,yl]at h;obtain⟨rfl,rfl,rfl,rfl⟩:=h;exact Zuy ok Q E Z yQ M F I S j.1 j.2 (nW (P:=P) Q G) hc.1 hc.2.1
      .cases h
     .cases h
    .rename_i e id v s lo n F I;split at h
     .rename_i hs0;split at h
      .rename_i i C1 ys A S G;split at h
       .rename_i j;simp only[yj,yl]at h;obtain⟨rfl,rfl,rfl,rfl⟩:=h;obtain⟨X,rfl,_⟩:=Zj.1 hc;exact Zuz ok Q E Z yQ M F I S (tE ok Q G X)
       .cases h
      .cases h
     .rename_i hs0;split at h
      .rename_i i C1 ys A v' s' st' e' N s'' xs S G T;split at h
       .rename_i j;simp only[yi,yE,yP,yT]at j;obtain⟨⟨⟨⟨⟨⟨⟨k1,rfl⟩,rfl⟩,rfl⟩,rfl⟩,k5⟩,rfl⟩,rfl⟩:=j;simp only[yj,yl]at h;obtain⟨rfl,rfl,rfl,rfl⟩:=h;obtain⟨X,cc⟩:=Zj.1 hc;have c2:=cc.1;have c3:=cc.2.1;have c4:=cc.2.2.1;have c5:=cc.2.2.2.1;exact Zw5 ok Q c5 E Z yQ M F I S k1 k5 (tE ok Q G X) T c2 c3 c4
       .cases h
      .cases h
     .rename_i hs0;split at h
      .rename_i i C1 ys A v' s' e' N s'' xs S G T;split at h
       .rename_i j;simp only[yi,yE,yP,yT]at j;obtain⟨⟨⟨⟨⟨⟨⟨k1,rfl⟩,rfl⟩,rfl⟩,rfl⟩,k5⟩,rfl⟩,rfl⟩:=j;simp only[yj,yl]at h;obtain⟨rfl,rfl,rfl,rfl⟩:=h;obtain⟨X,cc⟩:=Zj.1 hc;exact ZuA ok Q E Z yQ M F I S k1 k5 (tE ok Q G X) T cc.1 cc.2.1
       .cases h
      .cases h
     .cases h
    .cases h
   .cases h
  .rename_i Z;split at h
   .rename_i x t yQ M;split at h
    .rename_i e id v s lo n F I;split at h
     .rename_i i z v' s' e' N s'' xs S hz T;split at h
      .rename_i j;simp only[yi,yE,yP,yT]at j;obtain⟨⟨⟨⟨⟨⟨k1,rfl⟩,rfl⟩,rfl⟩,rfl⟩,k5⟩,k6⟩:=j;simp only[yj,yl]at h;obtain⟨rfl,rfl,rfl,rfl⟩:=h;obtain⟨rfl,hc1,_⟩:=hc;exact tg (ZzC ok Q E Z yQ M F I S k1 k5 hz k6 T hc1) (Wk.refl _) (ca.bD _ _ (.row ⟨Wk.p (bw.iL (bc.bD (kh z) _ _)),rfl⟩))
      .cases h
     .cases h
    .cases h
   .cases h
  .rename_i Z;split at h
   .rename_i x y t u yQ M;split at h
    .rename_i kt et id F I;split at h
     .rename_i kk t' aN l A j T;split at h
      .rename_i U;simp only[yj,yl]at h;obtain⟨rfl,rfl,rfl,rfl⟩:=h;exact ZGL ok Q E Z yQ M F I j T U hc.1 hc.2.1 hc.2.2.1
      .cases h
     .cases h
    .cases h
   .cases h
  .rename_i Z;split at h
   .rename_i x y t u yQ M;split at h
    .rename_i e id off yM s lo n F I;split at h
     .rename_i ys dd G T;split at h
      .rename_i C1 off' N s' xs A hg;split at h
       .rename_i dd' hp;split at h
        .rename_i j;simp only[yi,yP]at j;obtain⟨⟨rfl,k2⟩,k3⟩:=j;simp only[yj,yl]at h;obtain⟨rfl,rfl,rfl,rfl⟩:=h;obtain⟨X,c2⟩:=Zj.1 hc;exact ZLF ok Q E Z yQ M F I G T hg X c2.1 hp k2 k3 c2.2.1 c2.2.2.1
        .cases h
       .cases h
      .cases h
     .cases h
    .cases h
   .cases h
  .rename_i f Z;split at h
   .rename_i g cap r Hc ids A hf;split at h
    .rename_i j;simp only[yi,yT,yP]at j;split at h
     .rename_i args' Hin r' Hb yQ hin hr hb;simp only[yj,yl]at h;obtain⟨rfl,rfl,rfl,rfl⟩:=h;exact NZ ok Q E Z hf j.1.1.1 j.1.1.2 j.1.2 j.2 yQ hin hr hb hc.1
     .cases h
    .cases h
   .cases h
  .rename_i recv name Z;split at h
   .rename_i t x g r Hc ids A hf;split at h
    .rename_i j;simp only[yi,yT,yP]at j;split at h
     .rename_i args' Hin r' Hb yQ hin hr hb;simp only[yj,yl]at h;obtain⟨rfl,rfl,rfl,rfl⟩:=h;exact ZwX ok Q E Z hf j.1.1.1 j.1.1.2 j.1.2 j.2 yQ hin hr hb hc.1 hc.2.1
     .cases h
    .cases h
   .cases h
  .cases h
 .cases h
theorem PW(ok:Ok J)(j:ay J ts a)(h:eG P o ts J.H hs=ab (C,d,H',hs'))(hc:aY C):YH P o a J d H':=by
 unfold eG at h;split at h
 .rename_i C1 d1 m e;simp only[yj,yl]at h;obtain⟨rfl,rfl,rfl,rfl⟩:=h;exact ZE4 ok j e hc
 .split at h
  .rename_i C1 d1 m e;simp only[yj,yl]at h;obtain⟨rfl,rfl,rfl,rfl⟩:=h;have l:=e;unfold bm at l;split at l
   .rename_i t x g;exact ZLE ok j g e hc
   .rename_i t x lo z g;exact PV ok j g e hc
   .rename_i t x ix s g;exact ZGI ok j g e hc
   .rename_i c g;split at l
    .rename_i y;exact ZGJ ok j g y e hc
    .rename_i f y;exact ZNn ok j g y e hc
    .cases l
   .cases l
  .exact ZFa ok j h hc
theorem mG{J':Sg}{v:yh}(f:ay J' ts a)(hd:yH J' d v):ay J' (fI ts o.dst d) (a.put o.dst v):=by
 unfold fI Act.put
 cases o.dst with
 |none=>exact f
 |some t=>
  refine⟨by simpa using f.size,λi e c=> ?_,f.defers⟩;rw[ybm]at c;split at c
  .rename_i h;subst h;split at c
   .rename_i g;cases c;have:t < a.tmps.size:=by rw[f.size];exact g
    simpa[Array.getD,this] using hd
   .cases c
  .rename_i h;have:=f.at_ i e c;simpa[ydi,Array.getElem?_setIfInBounds,h] using this
theorem PX{v:yh}{J':Sg}{dst:yO Tmp}(hc:aY (iq dst d hs).1)(hd:yH J' d v):yH J' (iq dst d hs).2.1 v:=by
 exact hd
theorem PY{J':Sg}:yH J' (.bf []) undef:=by
 rw[Zg rfl];simp only[yG];exact⟨#[],rfl,by simp[aB]⟩
theorem tL{ops:Array Oper}(ok:Ok J)(g:ay J ts a)(h:cR P ops o ts J.H hs=ab (C,d,H',hs'))(hc:aY C)(K:Act->yad->Prop)(Q:Exit->Act->yad->Prop)
 (G:∀v J',J'.H=H'->To J J'->Ok J'->ay J' (fI ts o.dst d) (a.put o.dst v)->K (a.put o.dst v) J'.w):
 if Region.wanted o (yielded ops a.tmps) then o.wp P a J.w K Q else K (a.put o.dst undef) J.w:=by
 unfold cR at h;split at h
 .rename_i z;simp only[yq,yl]at h;obtain⟨⟨C1,d1,H1,A⟩,m,rfl,rfl,rfl,rfl⟩:=h;obtain⟨S,T⟩:=Zj.1 hc;have s:Region.wanted o (yielded ops a.tmps)=ae:=by simp[Region.wanted,z]
  rw[yW s];exact PW ok g m S K Q λv J' U to x W=>G v J' U to x (mG (g.to to.leaf) (PX T W))
 .rename_i j l z;split at h
  .rename_i t β A E
   have I:yielded ops a.tmps j=ab t:=by
    unfold yielded;simp only[yq]at E;obtain⟨e,m,y⟩:=E;rw[m];simp only[Option.bind_some]
    have f:e < ts.length:=by
     rcases yck e ts.length with h3|h3
     .exact h3
     .simp[List.getD,yat h3]at y
    have h3:=g.at_ e (.p (.bool t)) (by
     have:=yae f;simp only[List.getD,this,Option.getD_some]at y;rw[this,y])
    have F:=Y6 h3;have c:e < a.tmps.size:=by rw[g.size];exact f
    rw[ycs c];simp only[Array.getD,c,dif_pos]at F;have M:a.tmps[e]=.bool t:=by simpa using F
    rw[M]
   split at h
   .rename_i X;simp only[yq,yl]at h;obtain⟨⟨C1,d1,H1,hs2⟩,m,rfl,rfl,rfl,rfl⟩:=h;obtain⟨Y,Z⟩:=hc;obtain⟨S,T⟩:=Zj.1 Z;have s:Region.wanted o (yielded ops a.tmps)=ae:=by simp[Region.wanted,z,I,Y,X]
    rw[yW s];exact PW ok g m S K Q λv J' U to x W=>G v J' U to x (mG (g.to to.leaf) (PX T W))
   .rename_i X;simp only[yj,yl]at h;obtain⟨rfl,rfl,rfl,rfl⟩:=h;have Y:t=β:=hc.1
    have s:Region.wanted o (yielded ops a.tmps)=af:=by
     simp only[Region.wanted,z,I,Y];cases β <;> cases l <;> simp at X ⊢
    rw[s];exact G undef J rfl (To.refl J) ok (mG g PY)
  .rename_i A E;simp only[yj,yl]at h;obtain⟨rfl,rfl,rfl,rfl⟩:=h
   have I:yielded ops a.tmps j=ad:=by
    unfold yielded;simp only[yq]at E;obtain⟨e,m,y⟩:=E;rw[m];simp only[Option.bind_some]
    have f:e < ts.length:=by
     rcases yck e ts.length with h3|h3
     .exact h3
     .simp[List.getD,yat h3]at y
    have h3:=g.at_ e (.bf []) (by
     have:=yae f;simp only[List.getD,this,Option.getD_some]at y;rw[this,y])
    have F:=h3.2 rfl;simp only[yG]at F;obtain⟨cs,M,h6⟩:=F;have c:e < a.tmps.size:=by rw[g.size];exact f
    rw[ycs c];simp only[Array.getD,c,dif_pos]at M;have h7:a.tmps[e]=.tuple cs:=by simpa using M
    rw[h7]
   have s:Region.wanted o (yielded ops a.tmps)=af:=by
    simp only[Region.wanted,z,I];cases l <;> rfl
   rw[s];exact G undef J rfl (To.refl J) ok (mG g PY)
  .cases h
theorem PZ{ops:Array Oper}(Q:Exit->Act->yad->Prop){g:yL Dv}:∀(l:yL Oper)(k:Nat)(ts:yL Dv)(J:Sg)(a:Act)(hs hs':yL aj)(C:yL Prop)(H':yL ar),
 (∀j,l[j]? =ops[k+j]?)->Ok J->ay J ts a->jm P ops l ts J.H hs=ab (C,g,H',hs')->aY C->
 (∀m J',J'.H=H'->To J J'->Ok J'->ay J' g m->Q .normal m J'.w)->wpOps P ops Q (List.range' k l.length) a J.w
 |[],k,ts,J,a,hs,hs',C,H',_,s,t,h,G,x=>by
  simp only[jm,yj,yl]at h;obtain⟨rfl,rfl,rfl,rfl⟩:=h
  exact x a J rfl (To.refl J) s t
 |o::l,k,ts,J,a,hs,hs',C,H',I,s,t,h,G,x=>by
  simp only[jm]at h;split at h
  .rename_i C1 d1 H1 y S;split at h
   .rename_i C2 T H2 U W;simp only[yj,yl]at h;obtain⟨rfl,rfl,rfl,rfl⟩:=h;obtain⟨X,Y⟩:=Zj.1 G;have Z:ops[k]? =ab o:=by simpa using(I 0).symm
    simp only[yam,List.range'_succ,wpOps,Z]
    have c:=tL (P:=P) (ops:=ops) s t S X (wpOps P ops Q (List.range' (k+1) l.length)) Q (λv J1 e1 z A e=>by
     subst e1
     exact PZ Q l (k+1) _ J1 _ y _ C2 _ (λj=>by have:=I (j+1);simpa[yci,Nat.add_comm 1 j] using this) A e W Y
      (λm J' e2 E F f=>x m J' e2 (z.trans E) F f))
    by_cases M:Region.wanted o (yielded ops a.tmps)=ae
    .rw[yW M]at c ⊢;exact .inl c
    .rw[yX M]at c ⊢;exact c
   .cases h
  .cases h
end
end Go.Ev
end
section
namespace Go.Ev
section
variable{P:yg}{o:Oper}{ts:yL Dv}{H H' H2:yL ar}{hs hs':yL aj}{C:yL Prop}{d:Dv}
theorem ZGR{id:Nat}(h:nQ P o ts=ab id)(hx:jn o=af)(e:cn (H[id]?)=cn (H2[id]?)):bm P o ts H2 hs=bm P o ts H hs:=by
 unfold nQ at h;unfold bm
 cases M:o.op with
 |load t a=>
  simp only[M]at h ⊢
  cases m:Zo P ts 0 a with
  |am i Q W=>
   simp only[m,yj]at h;subst h;simp only
   cases l:H[i]? with
   |none=>
    rw[l]at e
    cases j:H2[i]? with
    |none=>rfl
    |some x=>rw[j]at e;cases x <;> simp[cn]at e
   |some y=>
    rw[l]at e
    cases j:H2[i]? with
    |none=>rw[j]at e;cases y <;> simp[cn]at e
    |some x=>
     rw[j]at e
     cases x <;> cases y <;> simp_all[cn]
  |aW i v Q W=>
   simp only[m,yj]at h;subst h;simp only
   cases l:H[i]? with
   |none=>
    rw[l]at e
    cases j:H2[i]? with
    |none=>rfl
    |some x=>rw[j]at e;cases x <;> simp[cn]at e
   |some y=>
    rw[l]at e
    cases j:H2[i]? with
    |none=>rw[j]at e;cases y <;> simp[cn]at e
    |some x=>
     rw[j]at e
     cases x <;> cases y <;> simp_all[cn]
  |_=>simp[m]at h
 |call c=>
  simp only[M]at h ⊢
  cases S:c.callee with
  |value f=>
   simp only[S]at h ⊢
   cases m:Zo P ts 0 f with
   |fn g X=>
    simp only[m]at h;split
    .rename_i g' T ps r Y Z;cases Z;rw[h];dsimp only;rw[e]
    .rfl
   |_=>simp[m]at h
  |_=>simp[S]at h
 |lookup t x ix ok=>
  simp only[M]at h ⊢
  cases m:Zo P ts t x with
  |mp i=>
   simp only[m,yj]at h;subst h
   have s:H2[i]? =H[i]? \/((∃d1 s1,H[i]? =ab (.var d1 s1))/\∃d2 G,H2[i]? =ab (.var d2 G))\/((∃z s1 t1 A d1,H[i]? =ab (.row z s1 t1 A d1))/\∃z s1 t1 A d1,H2[i]? =ab (.row z s1 t1 A d1)):=by
    cases l:H[i]? with
    |none=>
     rw[l]at e
     cases j:H2[i]? with
     |none=>exact .inl rfl
     |some x=>rw[j]at e;cases x <;> simp[cn]at e
    |some y=>
     rw[l]at e
     cases j:H2[i]? with
     |none=>rw[j]at e;cases y <;> simp[cn]at e
     |some x=>
      rw[j]at e;cases x <;> cases y <;> simp_all[cn]
   cases P.underlying t with
   |none=>rfl
   |some u=>
    cases u with
    |map I U=>
     dsimp only;rcases s with s|⟨⟨d1,s1,E⟩,d2,G,F⟩|⟨⟨_,_,_,_,_,E⟩,_,_,_,_,_,F⟩
     .rw[s]
     .rw[E,F];cases Zo P ts I ix <;> rfl
     .rw[E,F]
      cases Zo P ts I ix <;> rfl
    |_=>rfl
  |cz i=>
   simp only[m,yj]at h;subst h
   have s:H2[i]? =H[i]? \/((∃d1 s1,H[i]? =ab (.var d1 s1))/\∃d2 G,H2[i]? =ab (.var d2 G))\/((∃z s1 t1 A d1,H[i]? =ab (.row z s1 t1 A d1))/\∃z s1 t1 A d1,H2[i]? =ab (.row z s1 t1 A d1)):=by
    cases l:H[i]? with
    |none=>
     rw[l]at e
     cases j:H2[i]? with
     |none=>exact .inl rfl
     |some x=>rw[j]at e;cases x <;> simp[cn]at e
    |some y=>
     rw[l]at e
     cases j:H2[i]? with
     |none=>rw[j]at e;cases y <;> simp[cn]at e
     |some x=>
      rw[j]at e;cases x <;> cases y <;> simp_all[cn]
   cases P.underlying t with
   |none=>rfl
   |some u=>
    cases u with
    |map I U=>
     dsimp only;rcases s with s|⟨⟨d1,s1,E⟩,d2,G,F⟩|⟨⟨_,_,_,_,_,E⟩,_,_,_,_,_,F⟩
     .rw[s]
     .rw[E,F];cases Zo P ts I ix <;> rfl
     .rw[E,F]
      cases Zo P ts I ix <;> rfl
    |_=>rfl
  |cC i v0 k0=>
   simp only[m,yj]at h;subst h
   have s:H2[i]? =H[i]? \/((∃d1 s1,H[i]? =ab (.var d1 s1))/\∃d2 G,H2[i]? =ab (.var d2 G))\/((∃z s1 t1 A d1,H[i]? =ab (.row z s1 t1 A d1))/\∃z s1 t1 A d1,H2[i]? =ab (.row z s1 t1 A d1)):=by
    cases l:H[i]? with
    |none=>
     rw[l]at e
     cases j:H2[i]? with
     |none=>exact .inl rfl
     |some x=>rw[j]at e;cases x <;> simp[cn]at e
    |some y=>
     rw[l]at e
     cases j:H2[i]? with
     |none=>rw[j]at e;cases y <;> simp[cn]at e
     |some x=>
      rw[j]at e;cases x <;> cases y <;> simp_all[cn]
   cases P.underlying t with
   |none=>rfl
   |some u=>
    cases u with
    |map I U=>
     cases k0 <;> try rfl
     dsimp only;rcases s with s|⟨⟨d1,s1,E⟩,d2,G,F⟩|⟨⟨_,_,_,_,_,E⟩,_,_,_,_,_,F⟩
     .rw[s]
     .rw[E,F];cases Zo P ts I ix <;> rfl
     .rw[E,F]
      cases Zo P ts I ix <;> rfl
    |_=>rfl
  |_=>simp[m]at h
 |slice t x lo hi mx=>simp[jn,M]at hx
 |_=>simp[M]at h
def fl(o:Oper)(x:yO ar):yO ar:=if jn o=ae then x else cn x
theorem ZLL{id:Nat}(h:nQ P o ts=ab id)(e:fl o (H[id]?)=fl o (H2[id]?)):bm P o ts H2 hs=bm P o ts H hs:=by
 unfold fl at e
 cases c:jn o with
 |false=>
  rw[c]at e
  exact ZGR h c (by simpa using e)
 |true=>
  rw[c,yW rfl,yW rfl]at e;unfold jn at c;split at c
  .rename_i t x lo g j f;unfold nQ at h;rw[f]at h;unfold bm;rw[f]
   cases j with
   |some m=>simp at h
   |none=>
    dsimp only at h ⊢;split at h
    .rename_i i s A y;cases h;rw[y]
     cases P.underlying t with
     |none=>rfl
     |some u=>
      cases fU P ts lo with
      |none=>cases u <;> rfl
      |some l=>
       cases fU P ts g with
       |none=>cases u <;> rfl
       |some E=>
        cases hs with
        |nil=>cases u <;> rfl
        |cons z F=>cases u <;> cases z <;> first|rfl|(dsimp only;rw[e])
    .cases h
  .cases c
theorem ZFb{H:yL ar}{x:ar}{i:Nat}(hi:i < H.length):cn ((H++[x])[i]?)=cn (H[i]?):=by
 rw[yaj hi]
theorem od{H:yL ar}{x:ar}{i id:Nat}(h:¬id=i):cn ((H.set id x)[i]?)=cn (H[i]?):=by
 rw[ybm,yX h]
theorem RA{H:yL ar}{c:Dv}{i id:Nat}(f:∃st,H[id]? =ab (.var c st)):cn ((H.set id (.var c af))[i]?)=cn (H[i]?):=by
 obtain⟨st,h⟩:=f;by_cases e:id=i
 .subst e;rw[ybm,yW rfl,yW (yp.1 h).1,h];rfl
 .exact od e
theorem ZGS{H:yL ar}{c:Dv}{v s:Nat}{e:yb}{i id:Nat}(f:∃st,H[id]? =ab (.row v s st e c)):cn ((H.set id (.row v s af e c))[i]?)=cn (H[i]?):=by
 obtain⟨st,h⟩:=f;by_cases e:id=i
 .subst e;rw[ybm,yW rfl,yW (yp.1 h).1,h];rfl
 .exact od e
theorem RB:∀(ids:yL Nat)(H Hb:yL ar){i:Nat},i < H.length->ids.contains i=af->cn ((ao H ids Hb)[i]?)=cn (H[i]?)
 |[],H,Hb,i,c,_=>by
  simp only[ao]
  rw[yaj c]
 |_::_,H,[],i,c,_=>by simp only[ao]
 |id::r,H,e::Hb,i,c,h=>by
  simp only[List.contains_cons,Bool.or_eq_false_iff,beq_eq_false_iff_ne]at h;simp only[ao];rw[RB r (H.set id e) Hb (by simpa using c) h.2];exact od (λf=>h.1 f.symm)
theorem ZGT{dv:Dv}{i:Nat}(h:iJ dv H hs=ab (C,d,H',hs')):cn (H'[i]?)=cn (H[i]?):=by
 unfold iJ at h
 repeat' split at h
 all_goals first
  |(cases h;done)
  |(simp only[yj,yl]at h
    obtain⟨rfl,rfl,rfl,rfl⟩:=h
    first
     |exact RA ⟨_,by assumption⟩
     |(rename_i c
       simp only[yi,yP,yT]at c;obtain⟨⟨rfl,rfl⟩,rfl⟩:=c;exact ZGS ⟨_,by assumption⟩))
theorem RC{l:yL Nat}{i:Nat}(h:bZ P o ts H hs=ab (C,d,H',hs'))(ht:iK P o ts hs=ab l)(hi:i < H.length)(hl:l.contains i=af):cn (H'[i]?)=cn (H[i]?):=by
 unfold bZ at h
 repeat' (first|split at h|(dsimp only at h;split at h))
 all_goals first
  |(cases h;done)
  |exact ZGT h
  |(simp only[yj,yl]at h
    obtain⟨rfl,rfl,rfl,rfl⟩:=h
    first
     |rfl
     |exact ZFb hi
     |(rw[yaj hi];done)
     |exact RA ⟨_,by assumption⟩
     |(rw[yaj (by simpa using hi)]
       refine od ?_;rintro rfl;simp_all[iK]
       exact hl (by rw[<-ht];simp))
     |(refine RB _ _ _ hi ?_
       simp_all[iK])
     |(refine od ?_
       simp_all[iK]
       done)
     |(refine od ?_
       rintro rfl;simp_all[iK]
       exact hl (by rw[<-ht];simp))
     |(exfalso
       simp_all[iK]
       done))
end
end Go.Ev
end
section
namespace Go.Ev
theorem tM(keep:yL Nat):∀(l:yL Dv)(k t:Nat),(ZR keep k l)[t]? =(l[t]?).map λd=>if keep.contains (k+t) then d else .an
 |[],k,t=>by simp[ZR]
 |d::l,k,0=>by simp[ZR]
 |d::l,k,t+1=>by
  simp only[ZR,ybe];rw[tM keep l (k+1) t];simp[yci,Nat.add_comm 1 t]
theorem qd{J:Sg}{a:Act}{ts:yL Dv}(keep:yL Nat)(h:ay J ts a):ay J (ZR keep 0 ts) a:=by
 refine⟨?_,λi d e=> ?_,h.defers⟩
 .rw[h.size]
  have:∀(l:yL Dv)(k:Nat),(ZR keep k l).length=l.length:=by
   intro l
   induction l with
   |nil=>intro k;rfl
   |cons x l f=>intro k;simp[ZR,f]
  exact(this ts 0).symm
 .rw[tM]at e;obtain⟨g,j,c⟩:=yq.1 e;split at c
  .rw[<-c];exact h.at_ i g j
  .rw[<-c];exact Wb
theorem zu(A:yL Nat)(i j:Nat):∀(es:yL Edge)(m:Nat),(es.foldl (λm e=>if Region.binds .any e&&ag (e.on < i) then m|||(1 <<< e.on)|||A.getD e.on 0 else m) m).testBit j=ae->
 m.testBit j=ae\/∃e,e∈es/\Region.binds .any e=ae/\e.on < i/\(e.on=j\/(A.getD e.on 0).testBit j=ae)
 |[],m,h=>.inl h
 |e::es,m,h=>by
  simp only[List.foldl_cons]at h;rcases zu A i j es _ h with h1|⟨f,h1,g⟩
  .split at h1
   .rename_i c;simp only[yi,yP]at c;simp only[Nat.testBit_or,yco,Nat.one_shiftLeft,Nat.testBit_two_pow,yP]at h1;rcases h1 with(h1|h1)|h1
    .exact .inl h1
    .exact .inr ⟨e,yay ..,c.1,c.2,.inl h1⟩
    .exact .inr ⟨e,yay ..,c.1,c.2,.inr h1⟩
   .exact .inl h1
  .exact .inr ⟨f,List.mem_cons_of_mem _ h1,g⟩
section
variable{P:yg}{ops:Array Oper}
def RD(ops:Array Oper)(X:Nat->Bool):Prop:=∀i o,ops[i]? =ab o->X i=ae->∀e,e∈o.after->Region.binds .any e=ae->X e.on=ae
theorem RE{X:Nat->Bool}{A:yL Nat}(m:RD ops X)(s:∀i o,ops[i]? =ab o->A.getD i 0=mb A i o):∀(i:Nat),(∃o,ops[i]? =ab o)->X i=ae->∀j,(A.getD i 0).testBit j=ae->X j=ae:=by
 intro i
 induction i using Nat.strongRecOn with
 |_ i t=>
  rintro⟨o,c⟩ x j f;rw[s i o c]at f;unfold mb at f;rcases zu A i j _ _ f with h|⟨e,y,z,E,h4⟩
  .simp at h
  .have l:=m i o c x e (by simpa using y) z;rcases h4 with h4|h4
   .rw[<-h4];exact l
   .have g:e.on < ops.size:=by
     have:=(ycr.1 c).1;omega
    exact t e.on E ⟨ops[e.on],ycs g⟩ l j h4
def val(n:Nat)(dst:Nat->yO Tmp)(D:Nat->Dv)(ts0:yL Dv)(X:Nat->Bool)(t:Nat):Dv:=
 match (yu n).find? λj=>X j&&dst j==ab t with
 |some j=>D j
 |none=>ts0.getD t .an
def dS(n:Nat)(dst:Nat->yO Tmp)(D:Nat->Dv)(ts0:yL Dv)(X:Nat->Bool):yL Dv:=(yu ts0.length).map (val n dst D ts0 X)
variable{n:Nat}{dst:Nat->yO Tmp}{D:Nat->Dv}{ts0:yL Dv}
theorem kj(hu:∀i j,i < n->j < n->dst i≠ad->dst i=dst j->i=j){X:Nat->Bool}{t j:Nat}(f:j < n)(g:X j=ae)(hd:dst j=ab t):val n dst D ts0 X t=D j:=by
 unfold val
 cases c:(yu n).find? λj=>X j&&dst j==ab t with
 |none=>
  rw[List.find?_eq_none]at c;have:=c j (List.mem_range.2 f)
  simp[g,hd]at this
 |some i=>
  have e:=List.find?_some c;have h:=List.mem_of_find?_eq_some c;simp only[yi,yT]at e;have l:i < n:=List.mem_range.1 h;rw[hu i j l f (by rw[e.2];simp) (by rw[e.2,hd])]
theorem kl{X:Nat->Bool}{t:Nat}(h:∀j,j < n->X j=ae->dst j≠ab t):val n dst D ts0 X t=ts0.getD t .an:=by
 unfold val
 cases e:(yu n).find? λj=>X j&&dst j==ab t with
 |none=>rfl
 |some i=>
  have c:=List.find?_some e;have f:=List.mem_range.1 (List.mem_of_find?_eq_some e);simp only[yi,yT]at c;exact absurd c.2 (h i f c.1)
theorem WV{X:Nat->Bool}:(dS n dst D ts0 X).length=ts0.length:=by simp[dS]
theorem jw{X:Nat->Bool}{t:Nat}(h:t < ts0.length):(dS n dst D ts0 X)[t]? =ab (val n dst D ts0 X t):=by
 simp[dS,h]
theorem RF{X:Nat->Bool}(h:∀j,j < n->X j=af):dS n dst D ts0 X=ts0:=by
 apply ybg;intro t;by_cases c:t < ts0.length
 .rw[jw c,kl (λj f e=>by rw[h j f]at e;cases e)];simp[List.getD,c]
 .rw[yat (by rw[WV];omega),yat (by omega)]
theorem RG(hu:∀i j,i < n->j < n->dst i≠ad->dst i=dst j->i=j){X Y:Nat->Bool}{i:Nat}(hi:i < n)(z:X i=af)(m:∀j,j < n->Y j=(X j || decide (j=i))):
 fI (dS n dst D ts0 X) (dst i) (D i)=dS n dst D ts0 Y:=by
 apply ybg;intro t;by_cases l:t < ts0.length
 .rw[jw l]
  have c:dst i≠ab t->val n dst D ts0 Y t=val n dst D ts0 X t:=by
   intro s;by_cases f:∃j,j < n/\X j=ae/\dst j=ab t
   .obtain⟨j,e,h2,g⟩:=f;rw[kj hu e h2 g,kj hu e (by rw[m j e,h2];rfl) g]
   .rw[kl (λj e h2 g=>f ⟨j,e,h2,g⟩),kl (λj e h2 g=> ?_)];rw[m j e]at h2;simp only[yco,yP]at h2;rcases h2 with h2|h2
    .exact f ⟨j,e,h2,g⟩
    .subst h2;exact s g
  unfold fI
  cases x:dst i with
  |none=>
   rw[c (by rw[x];simp),jw l]
  |some y=>
   rw[ybm];by_cases h:y=t
   .subst h;rw[yW rfl,yW (by rw[WV];exact l),kj hu hi (by rw[m i hi];simp) x]
   .rw[yX h,jw l,c (by rw[x];simpa using h)]
 .have A:(fI (dS n dst D ts0 X) (dst i) (D i)).length=ts0.length:=by
   unfold fI
   cases dst i with
   |none=>rw[WV]
   |some y=>rw[yax,WV]
  rw[yat (by rw[A];omega),yat (by rw[WV];omega)]
theorem ZFc(hu:∀i j,i < n->j < n->dst i≠ad->dst i=dst j->i=j){X Y:Nat->Bool}{keep:yL Nat}(h:∀j t,j < n->dst j=ab t->t∈keep->X j=Y j):
 ZR keep 0 (dS n dst D ts0 X)=ZR keep 0 (dS n dst D ts0 Y):=by
 apply ybg;intro t;rw[tM,tM];by_cases s:t < ts0.length
 .rw[jw s,jw s];simp only[yz,yau];by_cases m:t∈keep
  .have f:keep.contains t=ae:=by simpa using m
   rw[f];simp only[if_true];congr 1;by_cases g:∃j,j < n/\X j=ae/\dst j=ab t
   .obtain⟨j,c,l,e⟩:=g;rw[kj hu c l e,kj hu c (by rw[<-h j t c e m];exact l) e]
   .rw[kl (λj c l e=>g ⟨j,c,l,e⟩),kl (λj c l e=>g ⟨j,c,by rw[h j t c e m];exact l,e⟩)]
  .have f:keep.contains t=af:=by simpa using m
   rw[f];rfl
 .rw[yat (by rw[WV];omega),yat (by rw[WV];omega)]
end
section
variable{P:yg}{ops:Array Oper}
theorem tN{o:Oper}{ts:yL Dv}{H H2:yL ar}{hs:yL aj}{r:yL Prop×Dv×yL ar×yL aj}(h:eG P o ts H hs=ab r)(e:(aU P o ts hs).isSome=ae):r.2.2.1=H/\eG P o ts H2 hs=ab (r.1,r.2.1,H2,r.2.2.2):=by
 unfold eG at h ⊢
 cases c:aU P o ts hs with
 |none=>simp[c]at e
 |some q=>
  simp only[c,yj]at h;subst h;exact⟨rfl,rfl⟩
theorem RH{o:Oper}{ts:yL Dv}{H:yL ar}{hs:yL aj}{r:yL Prop×Dv×yL ar×yL aj}(h:eG P o ts H hs=ab r)(f:(aU P o ts hs).isSome=af)(g:(bm P o ts H hs).isSome=ae):r.2.2.1=H:=by
 unfold eG at h
 cases c:aU P o ts hs with
 |some q=>simp[c]at f
 |none=>
  cases e:bm P o ts H hs with
  |none=>simp[e]at g
  |some q=>
   simp only[c,e,yj]at h;subst h;rfl
theorem ZGW{o:Oper}{ts:yL Dv}{H H2:yL ar}{hs:yL aj}{C:yL Prop}{d:Dv}{H':yL ar}{hs':yL aj}(h:cR P ops o ts H hs=ab (C,d,H',hs'))(hc:bC P o ts H hs=0):
 H'=H/\cR P ops o ts H2 hs=ab (C,d,H2,hs'):=by
 unfold cR at h ⊢;unfold bC at hc
 cases x:o.guard with
 |none=>
  simp only[x]at h hc ⊢
  have e:(aU P o ts hs).isSome=ae:=by
   cases f:(aU P o ts hs).isSome with
   |true=>rfl
   |false=>
    rw[f]at hc;simp only[ybw,if_false]at hc;split at hc <;> simp at hc
  simp only[yq,yl]at h;obtain⟨⟨C1,d1,H1,c⟩,j,rfl,rfl,rfl,rfl⟩:=h;obtain⟨l,m⟩:=tN (H2:=H2) j e
  exact⟨l,by rw[m];rfl⟩
 |some z=>
  obtain⟨g,y⟩:=z;simp only[x]at h hc ⊢;split at h
  .rename_i t β c E;dsimp only at hc;split at h
   .rename_i s;rw[yW s]at hc ⊢
    have e:(aU P o ts c).isSome=ae:=by
     cases f:(aU P o ts c).isSome with
     |true=>rfl
     |false=>
      rw[f]at hc;simp only[ybw,if_false]at hc;split at hc <;> simp at hc
    simp only[yq,yl]at h;obtain⟨⟨C1,d1,H1,A⟩,j,rfl,rfl,rfl,rfl⟩:=h;obtain⟨l,m⟩:=tN (H2:=H2) j e;exact⟨l,by rw[m];rfl⟩
   .rename_i s;rw[yX s];simp only[yj,yl]at h;obtain⟨rfl,rfl,rfl,rfl⟩:=h;exact⟨rfl,rfl⟩
  .simp only[yj,yl]at h;obtain⟨rfl,rfl,rfl,rfl⟩:=h;exact⟨rfl,rfl⟩
  .cases h
theorem ZGX{o:Oper}{ts:yL Dv}{H:yL ar}{hs:yL aj}{C:yL Prop}{d:Dv}{H':yL ar}{hs':yL aj}(h:cR P ops o ts H hs=ab (C,d,H',hs'))(hc:bC P o ts H hs≠2):H'=H:=by
 unfold cR at h;unfold bC at hc
 cases l:o.guard with
 |none=>
  simp only[l]at h hc;simp only[yq,yl]at h;obtain⟨⟨C1,d1,H1,c⟩,f,rfl,rfl,rfl,rfl⟩:=h
  cases e:(aU P o ts hs).isSome with
  |true=>exact(tN (H2:=[]) f e).1
  |false=>
   cases j:(bm P o ts H hs).isSome with
   |true=>exact RH f e j
   |false=>simp[e,j]at hc
 |some s=>
  obtain⟨g,m⟩:=s;simp only[l]at h hc;split at h
  .rename_i t β c z;dsimp only at hc;split at h
   .rename_i x;simp only[yW x]at hc;simp only[yq,yl]at h;obtain⟨⟨C1,d1,H1,y⟩,f,rfl,rfl,rfl,rfl⟩:=h
    cases e:(aU P o ts c).isSome with
    |true=>exact(tN (H2:=[]) f e).1
    |false=>
     cases j:(bm P o ts H c).isSome with
     |true=>exact RH f e j
     |false=>simp[e,j]at hc
   .simp only[yj,yl]at h;obtain⟨rfl,rfl,rfl,rfl⟩:=h;rfl
  .simp only[yj,yl]at h;obtain⟨rfl,rfl,rfl,rfl⟩:=h;rfl
  .cases h
theorem ZNp{o:Oper}{ts:yL Dv}{H H2:yL ar}{hs:yL aj}{C:yL Prop}{d:Dv}{H':yL ar}{hs':yL aj}(h:cR P ops o ts H hs=ab (C,d,H',hs'))(hc:bC P o ts H hs=1)
 (l:∀hs,bm P o ts H2 hs=bm P o ts H hs):cR P ops o ts H2 hs=ab (C,d,H2,hs'):=by
 unfold bC at hc;unfold cR at h ⊢
 cases m:o.guard with
 |none=>
  simp only[m]at h hc ⊢
  cases c:aU P o ts hs with
  |some q=>simp[c]at hc
  |none=>
   cases e:bm P o ts H hs with
   |none=>simp[c,e]at hc
   |some q=>
    unfold eG at h ⊢;rw[l];simp only[c,e,yz,yj,yl]at h ⊢
    exact⟨h.1,h.2.1,zZ,h.2.2.2⟩
 |some x=>
  obtain⟨g,s⟩:=x;simp only[m]at h hc ⊢;split at h
  .rename_i t β f y;dsimp only at hc;split at h
   .rename_i j;rw[yW j]at hc ⊢
    cases c:aU P o ts f with
    |some q=>simp[c]at hc
    |none=>
     cases e:bm P o ts H f with
     |none=>simp[c,e]at hc
     |some q=>
      unfold eG at h ⊢;rw[l];simp only[c,e,yz,yj,yl]at h ⊢;exact⟨h.1,h.2.1,zZ,h.2.2.2⟩
   .rename_i j;simp[j]at hc
  .simp at hc
  .cases h
theorem ZFd{o:Oper}{ts:yL Dv}{H:yL ar}{hs:yL aj}{C:yL Prop}{d:Dv}{H':yL ar}{hs':yL aj}{l:yL Nat}{i:Nat}(h:cR P ops o ts H hs=ab (C,d,H',hs'))(hc:bC P o ts H hs=2)
 (ht:jY P o ts hs=ab l) (hi:i < H.length) (hl:l.contains i=af):cn (H'[i]?)=cn (H[i]?):=by
 unfold jY at ht
 cases c:o.guard with
 |some g=>simp[c]at ht
 |none=>
  simp only[c,Option.isNone_none,if_true]at ht;unfold bC at hc;unfold cR at h;simp only[c]at h hc
  cases e:aU P o ts hs with
  |some q=>simp[e]at hc
  |none=>
   cases j:bm P o ts H hs with
   |some q=>simp[e,j]at hc
   |none=>
    simp only[yq,yl]at h;obtain⟨⟨C1,d1,H1,m⟩,f,rfl,rfl,rfl,rfl⟩:=h;unfold eG at f;simp only[e,j]at f;exact RC f ht hi hl
theorem ZGY{g:yr}{args:yL Dv}{r:Dv}{e:ar}(h:cF P g args [] r [e])(hn:∃x,Dv.bi (aR []) args=ab x):cF P g args [.gone] r [e]:=by
 intro J vs Q S hv;obtain⟨x,T⟩:=hn
 have hst:∀(b o:Nat),(J.F b o\/J.B b)->J.aV b o:=λb o q=>⟨q,λid G _ y=>by
  rw[S]at y
  cases id with
  |zero=>cases y;trivial
  |succ i=>simp at y⟩
 have E:∀(id:Nat)(G:ar),J.H[id]? =ab G->G=.gone:=λid G y=>by
  rw[S]at y
  cases id with
  |zero=>cases y;rfl
  |succ i=>simp at y
 have hX:∀b c,¬J.X b c:=λb c q=>by
  obtain⟨_,_,_,i,G,_,q1,q2⟩:=Q.cQ b c q;rw[E i G q1]at q2;cases q2
 let J0:Sg:={ F:=J.F,B:=J.B,m:=[],H:=[],w:=J.w,X:=λ_ _=>False};have U:Ok J0:=⟨rfl,λi j b h=>by simp[J0]at h,λi b h=>by simp[J0]at h,λi e a h=>by simp[J0]at h,Q.new,λi b h=>by simp[J0]at h,λb c h=>h.elim,λb b' c h=>h.elim⟩;have hz:∀id,aR [] id=ad:=λid=>by simp[aR]
 have W:Rn (aR []) J J0:=⟨rfl,λb o u _ q=>⟨q.1,λid G q=>by simp[J0]at q⟩,λid Y q=>(by rw[hz]at q;cases q),λid Y q=>(by rw[hz]at q;cases q)⟩
 have Z:x=args:=by
  have e1:=T;rw[pX]at e1;have e2:=bG (f:=aR []) _ _ e1;rw[T]at e2;exact ybp e2
 have hv2:aB J0 args vs:=by
  have z:=dg W _ _ _ T hv
  rwa [Z]at z
 refine(h J0 vs U rfl hv2).mono ?_;rintro ex w' ⟨v,τ,rfl,rfl,hτ,to,I,hr⟩;have okm:J.m.length=1:=by rw[Q.len,S];rfl
 have M:τ.m.length=1:=by rw[I.len,hτ];rfl
 refine⟨v,τ,rfl,rfl,hτ,⟨⟨λb o u z y=> ?_,λid b z y=> ?_,λid s len A c z=> ?_,λid b z y=> ?_,λid v s st e d z=> ?_,λid v t u l z=> ?_,λid v l z=> ?_⟩,to.F,to.B,to.os,to.tape,to.output,to.size,λb z _ _=>to.block b z (λid q=>by simp[J0]at q) (λc q=>q.elim),λid b z=> ?_, ?_,λb c q=> ?_⟩,I,hr⟩
 .exact to.leaf.cells b o u z ⟨y.1,λid e q=>by simp[J0]at q⟩
 .obtain⟨d,st,y⟩:=y;cases E _ _ y
 .obtain⟨G,ys,y,_⟩:=z;cases E _ _ y
 .obtain⟨t,aN,y⟩:=y;cases E _ _ y
 .cases E _ _ z
 .cases E _ _ z
 .cases E _ _ z
 .rcases to.same id b z with q|q
  .simp[J0]at q
  .exact .inr q
 .rw[okm,M];exact ym _
 .rcases to.xs b c q with⟨_,q⟩|⟨i,q⟩|q
  .exact q.elim
  .simp[J0]at q
  .exact .inr (.inr q)
theorem RI{o:Oper}{ts:yL Dv}{H H2:yL ar}{hs:yL aj}{C:yL Prop}{d:Dv}{H':yL ar}{hs':yL aj}(h:cR P ops o ts H hs=ab (C,d,H',hs'))(hp:ir o hs H.length=ae)(hl:H2.length=H.length):
 bC P o ts H hs=2/\∃E,H'=H++E/\cR P ops o ts H2 hs=ab (C,d,H2++E,hs'):=by
 unfold ir at hp;rw[yi]at hp;obtain⟨s,hp⟩:=hp;have s:o.guard=ad:=by simpa using s
 split at hp
 .rename_i t j;have l:∀hs,aU P o ts hs=ad:=λhs=>by unfold aU;rw[j]
  have m:∀H hs,bm P o ts H hs=ad:=λH hs=>by unfold bm;rw[j]
  refine⟨?_, ?_⟩
  .unfold bC;rw[s];simp[l,m]
  .unfold cR at h ⊢;rw[s]at h ⊢;dsimp only at h ⊢;unfold eG at h ⊢;rw[l,m]at h;rw[l,m];dsimp only at h ⊢;unfold bZ at h ⊢;rw[j]at h ⊢;dsimp only at h ⊢;rw[hl];split at h
   .split at h
    .split at h
     .simp only[yz,yj,yl]at h;obtain⟨rfl,rfl,rfl,rfl⟩:=h;rename_i hi _ _ S z;refine⟨_,rfl, ?_⟩;rw[yW z];rfl
     .cases h
    .cases h
   .cases h
 .rename_i c j;split at hp
  .rename_i f A;split at hp
   .rename_i r Hn ids x;rw[yi]at hp;have y:ids=[]:=by simpa using hp.1
    subst y;have hp:=hp.2;unfold lY at hp;simp only[yi,yT]at hp;have F:Hn≠[]:=λq=>by rw[q]at hp;simp at hp
    have l:aU P o ts (.call r Hn []::x)=ad:=by
     unfold aU;rw[j];dsimp only;rw[A];dsimp only;split
     .rename_i e;simp only[List.cons.injEq,aj.call.injEq]at e;exact absurd e.1.2.1 F
     .rename_i e;cases e
     .rfl
    have m:∀H,bm P o ts H (.call r Hn []::x)=ad:=λH=>by
     unfold bm;rw[j];dsimp only;rw[A];dsimp only;split
     .rename_i e;cases e
     .rfl
    refine⟨?_, ?_⟩
    .unfold bC;rw[s];simp[l,m]
    .unfold cR at h ⊢;rw[s]at h ⊢;dsimp only at h ⊢;unfold eG at h ⊢;rw[l,m]at h;rw[l,m];dsimp only at h ⊢;unfold bZ at h ⊢;rw[j]at h ⊢;dsimp only at h ⊢;rw[A]at h ⊢;dsimp only at h ⊢;rw[hl];split at h
     .rename_i g T r2 H2' I U ha e;simp only[List.cons.injEq,aj.call.injEq]at e;obtain⟨⟨rfl,rfl,rfl⟩,rfl⟩:=e;split at h
      .rename_i z;split at h
       .rename_i G Hin r' Hb W M Y Z;simp only[yz,yj,yl]at h;obtain⟨rfl,rfl,rfl,rfl⟩:=h;have Q:∀(X:yL ar),aH X [] []=ab []:=λX=>rfl;rw[Q]at M;cases M;refine⟨Hb,by simp[ao,iq], ?_⟩;rw[yW z,W,Q,Y,Z];simp[ao,iq]
       .cases h
      .cases h
     .cases h
   .cases hp
  .cases hp
 .cases hp
theorem ZzF:∀{hs:yL aj}{d:Dv}{n:Nat},(YM d n hs).2.1=[]->(YM d n hs).1=d
 |[],d,n,_=>by simp[YM]
 |x::hs,d,n,h=>by
  cases x with
  |aZ f s e=>
   simp only[YM]at h ⊢;split
   .rename_i g c;rw[c]at h;cases h
   .rfl
  |_=>simp[YM]
theorem RJ{J:Sg}(ok:Ok J):To J { J with m:=J.m++[ad],H:=J.H++[.gone]}/\Ok { J with m:=J.m++[ad],H:=J.H++[.gone]}:=
 WE (J':={ J with m:=J.m++[ad],H:=J.H++[.gone]}) ok rfl rfl rfl rfl (World.grownBy.refl J.w ad) (.inl rfl) (λ_=>trivial)
mutual
theorem jx{f g:Nat->yO Nat}(c:∀j k,f j=ab k->g j=ab k):∀(d d':Dv),d.rn f=ab d'->d.rn g=ab d'
 |.p x,d',h=>h
 |.elem x,d',h=>h
 |.am id y z,d',h=>by
  simp only[Dv.rn,yq]at h ⊢;obtain⟨i,e,l⟩:=h
  exact⟨i,c _ _ e,l⟩
 |.own id nn s m,d',h=>by
  simp only[Dv.rn,yq]at h ⊢;obtain⟨i,e,l⟩:=h
  exact⟨i,c _ _ e,l⟩
 |.view id y z s lo n,d',h=>by
  simp only[Dv.rn,yq]at h ⊢;obtain⟨i,e,l⟩:=h
  exact⟨i,c _ _ e,l⟩
 |.mp id,d',h=>by
  simp only[Dv.rn,yq]at h ⊢;obtain⟨i,e,l⟩:=h
  exact⟨i,c _ _ e,l⟩
 |.cz id,d',h=>by
  simp only[Dv.rn,yq]at h ⊢;obtain⟨i,e,l⟩:=h
  exact⟨i,c _ _ e,l⟩
 |.cC id v k,d',h=>by
  simp only[Dv.rn,yq]at h ⊢;obtain⟨i,e,l⟩:=h
  exact⟨i,c _ _ e,l⟩
 |.pm id v,d',h=>by
  simp only[Dv.rn,yq]at h ⊢;obtain⟨i,e,l⟩:=h
  exact⟨i,c _ _ e,l⟩
 |.rv id v s lo n,d',h=>by
  simp only[Dv.rn,yq]at h ⊢;obtain⟨i,e,l⟩:=h
  exact⟨i,c _ _ e,l⟩
 |.aW id v y z,d',h=>by
  simp only[Dv.rn,yq]at h ⊢;obtain⟨i,e,l⟩:=h
  exact⟨i,c _ _ e,l⟩
 |.agg m,d',h=>by
  simp only[Dv.rn,yq]at h ⊢;obtain⟨i,e,l⟩:=h
  exact⟨i,dj c m i e,l⟩
 |.arr n s m,d',h=>by
  simp only[Dv.rn,yq]at h ⊢;obtain⟨i,e,l⟩:=h
  exact⟨i,dj c m i e,l⟩
 |.fn A m,d',h=>by
  simp only[Dv.rn,yq]at h ⊢;obtain⟨i,e,l⟩:=h
  exact⟨i,dj c m i e,l⟩
 |.iface t x,d',h=>by
  simp only[Dv.rn,yq]at h ⊢;obtain⟨i,e,l⟩:=h
  exact⟨i,jx c x i e,l⟩
 |.bf m,d',h=>by
  simp only[Dv.rn,yq]at h ⊢;obtain⟨i,e,l⟩:=h
  exact⟨i,dj c m i e,l⟩
 |.an,d',h=>h
theorem dj{f g:Nat->yO Nat}(c:∀j k,f j=ab k->g j=ab k):∀(d d':yL Dv),Dv.bi f d=ab d'->Dv.bi g d=ab d'
 |[],d',h=>h
 |x::r,d',h=>by
  simp only[Dv.bi]at h ⊢;split at h
  .rename_i y e l m;rw[jx c x y l,dj c r e m];exact h
  .cases h
end
theorem ZGZ{f g:Nat->yO Nat}(c:∀j k,f j=ab k->g j=ab k):∀(d d':ar),d.rn f=ab d'->d.rn g=ab d'
 |.var d st,d',h=>by
  simp only[ar.rn,yq]at h ⊢;obtain⟨i,l,m⟩:=h
  exact⟨i,jx c d i l,m⟩
 |.row v s st e d,d',h=>by
  simp only[ar.rn,yq]at h ⊢;obtain⟨i,l,m⟩:=h
  exact⟨i,jx c d i l,m⟩
 |.log _ _ _,d',h=>h
 |.map _ _,d',h=>h
 |.maps _ _ _ _,d',h=>h
 |.bA _ _,d',h=>h
 |.gone,d',h=>h
theorem mH{f g:Nat->yO Nat}(c:∀j k,f j=ab k->g j=ab k):∀(d d':yL ar),ar.bi f d=ab d'->ar.bi g d=ab d'
 |[],d',h=>h
 |x::r,d',h=>by
  simp only[ar.bi]at h ⊢;split at h
  .rename_i y e l m;rw[ZGZ c x y l,mH c r e m];exact h
  .cases h
theorem lf(ids:yL Nat)(n:Nat):∀j k,ids[j]? =ab k->aM ids n j=ab k:=λj k h=>by
 unfold aM;rw[yW (yp.1 h).1];exact h
theorem V7{H E:yL ar}{all:yL Nat}:∀{ids:yL Nat}{Hin:yL ar},aH H all ids=ab Hin->aH (H++E) all ids=ab Hin/\∀id,id∈ids->id < H.length
 |[],Hin,h=>⟨h,λ_ h=>by cases h⟩
 |id::r,Hin,h=>by
  simp only[aH]at h ⊢;split at h
  .rename_i e t g j;obtain⟨l,m⟩:=V7 (E:=E) j;obtain⟨x,s,y⟩:=Option.bind_eq_some_iff.1 g;have c:=(yp.1 s).1;rw[yaj c,g,l]
   exact⟨h,λi f=>by
    cases f with
    |head=>exact c
    |tail _ f=>exact m i f⟩
  .cases h
theorem qe{α:Type}{E:yL α}:∀{ids:yL Nat}{H Hb:yL α},Hb.length=ids.length->(∀id,id∈ids->id < H.length)->ao (H++E) ids Hb=ao H ids Hb++E/\(ao H ids Hb).length=H.length
 |[],H,Hb,c,_=>by
  have:Hb=[]:=ybo (by simpa using c);subst this
  simp[ao]
 |id::r,H,[],c,_=>by simp at c
 |id::r,H,e::Hb,c,f=>by
  simp only[ao];rw[List.set_append_left _ _ (f id (yay ..))];obtain⟨g,j⟩:=qe (E:=E) (ids:=r) (H:=H.set id e) (Hb:=Hb) (by simpa using c) (λi h=>by rw[yax];exact f i (List.mem_cons_of_mem _ h));exact⟨g,by rw[j,yax]⟩
theorem tO{f:Nat->yO Nat}:∀{l l':yL ar},ar.bi f l=ab l'->l'.length=l.length
 |[],l',h=>by cases h;rfl
 |x::r,l',h=>by
  simp only[ar.bi]at h;split at h
  .rename_i y e g c;cases h;rw[yam,yam,tO c]
  .cases h
theorem ZJS{o:Oper}{ts:yL Dv}{H:yL ar}{hs:yL aj}{C:yL Prop}{d:Dv}{H':yL ar}{hs':yL aj}(h:cR P ops o ts H hs=ab (C,d,H',hs'))(hp:jX o hs=ae):
 bC P o ts H hs≠1/\H'.length=H.length/\∀E,cR P ops o ts (H++E) hs=ab (C,d,H'++E,hs'):=by
 unfold jX at hp;rw[yi]at hp;obtain⟨S,hp⟩:=hp;have S:o.guard=ad:=by simpa using S
 have F:(∀H,bm P o ts H hs=ad)->(∀H1,bZ P o ts H hs=ab (C,d,H1,hs')->H1.length=H.length/\∀E,bZ P o ts (H++E) hs=ab (C,d,H1++E,hs'))->
  bC P o ts H hs≠1/\H'.length=H.length/\∀E,cR P ops o ts (H++E) hs=ab (C,d,H'++E,hs'):=by
  intro U e;refine⟨?_, ?_⟩
  .unfold bC;rw[S];simp only[U];split <;> simp
  .unfold cR at h ⊢;rw[S]at h ⊢;dsimp only at h ⊢;unfold eG at h ⊢
   cases hn:aU P o ts hs with
   |some q=>
    rw[hn]at h;simp only[yz,yj,yl]at h;obtain⟨W,T,rfl,h4⟩:=h;refine⟨rfl,λE=> ?_⟩;simp only[yz,yj,yl]
    exact⟨W,T,zZ,h4⟩
   |none=>
    rw[hn,U]at h;dsimp only at h;obtain⟨⟨C1,d1,H1,hs1⟩,W,T⟩:=yq.1 h;simp only[iq,List.append_nil,yl]at T;obtain⟨rfl,rfl,rfl,rfl⟩:=T;obtain⟨k1,k2⟩:=e H1 W;refine⟨k1,λE=> ?_⟩;rw[U];dsimp only;rw[k2 E];simp[iq]
 split at hp
 .rename_i c A;split at hp
  .rename_i f l;split at hp
   .rename_i r Hn ids X;unfold lY at hp;simp only[yi,yT,Option.isSome_iff_exists]at hp;obtain⟨⟨Y,d0,G⟩,Hb0,m⟩:=hp;refine F (λH=>by unfold bm;rw[A];dsimp only;rw[l];dsimp only;try (split <;> first|rfl|(rename_i s;cases s))) λH1 e=> ?_
    unfold bZ at e;rw[A]at e;dsimp only at e;rw[l]at e;dsimp only at e;split at e
    .rename_i g cap r2 H2 I Z ha s;simp only[List.cons.injEq,aj.call.injEq]at s;obtain⟨⟨rfl,rfl,rfl⟩,rfl⟩:=s;split at e
     .rename_i hk;split at e
      .rename_i y Hin r' Hb e1 z M Q;simp only[yj,yl]at e;obtain⟨rfl,rfl,rfl,rfl⟩:=e;rw[jx (lf ids H.length) _ _ G]at M;cases M;rw[mH (lf ids H.length) _ _ m]at Q;cases Q;have j:Hb0.length=ids.length:=by rw[tO m,Y]
       refine⟨(qe (E:=[]) j (V7 (E:=[]) z).2).2,λE=> ?_⟩;unfold bZ;rw[A];dsimp only;rw[l];dsimp only;rw[ha];dsimp only;rw[yW hk,e1,(V7 (E:=E) z).1,jx (lf ids _) _ _ G,mH (lf ids _) _ _ m];dsimp only;rw[(qe (E:=E) j (V7 (E:=[]) z).2).1]
      .cases e
     .cases e
    .cases e
   .cases hp
  .rename_i rc nm l;split at hp
   .rename_i g0 r Hn ids X;unfold lY at hp;simp only[yi,yT,Option.isSome_iff_exists]at hp;obtain⟨⟨Y,d0,G⟩,Hb0,m⟩:=hp;refine F (λH=>by unfold bm;rw[A];dsimp only;rw[l]) λH1 e=> ?_;unfold bZ at e;rw[A]at e;dsimp only at e;rw[l]at e;dsimp only at e;split at e
    .rename_i t x g r2 H2 I Z ha s;simp only[List.cons.injEq,aj.call.injEq,aj.gQ.injEq]at s;obtain⟨rfl,⟨rfl,rfl,rfl⟩,rfl⟩:=s;split at e
     .rename_i hk;split at e
      .rename_i y Hin r' Hb e1 z M Q;simp only[yj,yl]at e;obtain⟨rfl,rfl,rfl,rfl⟩:=e;rw[jx (lf ids H.length) _ _ G]at M;cases M;rw[mH (lf ids H.length) _ _ m]at Q;cases Q;have j:Hb0.length=ids.length:=by rw[tO m,Y]
       refine⟨(qe (E:=[]) j (V7 (E:=[]) z).2).2,λE=> ?_⟩;unfold bZ;rw[A];dsimp only;rw[l];dsimp only;rw[ha];dsimp only;rw[yW hk,e1,(V7 (E:=E) z).1,jx (lf ids _) _ _ G,mH (lf ids _) _ _ m];dsimp only;rw[(qe (E:=E) j (V7 (E:=[]) z).2).1]
      .cases e
     .cases e
    .cases e
   .cases hp
  .cases hp
 .cases hp
theorem ZG0{J:Sg}{a:Act}{o:Oper}{ts:yL Dv}{H E:yL ar}{hs:yL aj}{C:yL Prop}{d:Dv}{H':yL ar}{hs':yL aj}(ok:Ok J)(X:ay J ts a)(h:cR P ops o ts H hs=ab (C,d,H',hs'))(Y:aY C)(hp:ir o hs H.length=ae)
 (hl:H'.length=H.length+1) (hJ:J.H=H++.gone::E) (K:Act->yad->Prop) (Q:Exit->Act->yad->Prop)
 (Z:∀v J',J'.H=H'++E->To J J'->Ok J'->ay J' (fI ts o.dst d) (a.put o.dst v)->K (a.put o.dst v) J'.w):
 if Region.wanted o (yielded ops a.tmps) then o.wp P a J.w K Q else K (a.put o.dst undef) J.w:=by
 unfold ir at hp;rw[yi]at hp;obtain⟨F,hp⟩:=hp;have F:o.guard=ad:=by simpa using F
 have hw:Region.wanted o (yielded ops a.tmps)=ae:=by simp[Region.wanted,F]
 rw[yW hw];split at hp
 .rename_i t e;have n1:∀hs,aU P o ts hs=ad:=λhs=>by unfold aU;rw[e]
  have n2:∀H hs,bm P o ts H hs=ad:=λH hs=>by unfold bm;rw[e]
  unfold cR at h;rw[F]at h;dsimp only at h;unfold eG at h;rw[n1,n2]at h;dsimp only at h;unfold bZ at h;rw[e]at h;dsimp only at h;split at h
  .rename_i i hi;split at h
   .split at h
    .rename_i s;simp only[yz,yj,yl]at h;obtain⟨rfl,rfl,rfl,rfl⟩:=h;rw[yn,yam]at hl;have he:(YM (YI P t) (H.length+1) hs).2.1=[]:=ybo (by omega);have hd:=ZzF he;rw[he,hd]at Z;simp only[yi]at s;obtain⟨z,hzz,_⟩:=ju s.1.1;have hid:J.H[H.length]? =ab .gone:=by rw[hJ,yan (ym _),Nat.sub_self];rfl
     have h1:=ZBL (P:=P) (o:=o) (a:=a) ok hid e hi (by rw[hzz];rfl) s.1.2 s.2;refine h1 K Q λv J' y to A hv=>Z v J' ?_ to A (mG (X.to to.leaf) hv);rw[y,hJ,List.set_append_right _ _ (ym _),Nat.sub_self];simp
    .cases h
   .cases h
  .cases h
 .rename_i c e;split at hp
  .rename_i f W;split at hp
   .rename_i r Hn ids G;rw[yi]at hp;have I:ids=[]:=by simpa using hp.1
    subst I;have hp:=hp.2;unfold lY at hp;simp only[yi,yT,Option.isSome_iff_exists]at hp;obtain⟨⟨p1,r0,p2⟩,Hb0,p3⟩:=hp;have M:Hn≠[]:=λq=>by rw[q]at p1;simp at p1
    obtain⟨S,rfl⟩:∃S,Hn=[S]:=by
     cases Hn with
     |nil=>exact absurd rfl M
     |cons x q=>cases q with
      |nil=>exact⟨x,rfl⟩
      |cons _ _=>simp at p1
    have n1:aU P o ts (.call r [S] []::G)=ad:=by
     unfold aU;rw[e];dsimp only;rw[W];dsimp only;split
     .rename_i l;simp only[List.cons.injEq,aj.call.injEq]at l;exact absurd l.1.2.1 M
     .rename_i l;cases l
     .rfl
    have n2:∀H,bm P o ts H (.call r [S] []::G)=ad:=λH=>by
     unfold bm;rw[e];dsimp only;rw[W];dsimp only;split
     .rename_i l;cases l
     .rfl
    unfold cR at h;rw[F]at h;dsimp only at h;unfold eG at h;rw[n1,n2]at h;dsimp only at h;unfold bZ at h;rw[e]at h;dsimp only at h;rw[W]at h;dsimp only at h;split at h
    .rename_i g cap r2 H2' ids2 hs2 ha l;simp only[List.cons.injEq,aj.call.injEq]at l;obtain⟨⟨rfl,rfl,rfl⟩,rfl⟩:=l;split at h
     .rename_i s;split at h
      .rename_i args' Hin r' Hb y e2 e3 e4;simp only[yz,yj,yl]at h;obtain⟨rfl,rfl,rfl,rfl⟩:=h;have e5:aH H [] []=ab []:=rfl;rw[e5]at e2;cases e2;simp only[yi,yT,yP]at s
       have hm:∀(m:Nat)(j k:Nat),[H.length][j]? =ab k->aM [] H.length j=ab k:=λm j k q=>by
        cases j with
        |zero=>cases q;simp[aM]
        |succ j=>simp at q
       have T:∀(m:Nat)(j k:Nat),[H.length][j]? =ab k->aM [H.length] m j=ab k:=λm j k q=>by
        cases j with
        |zero=>cases q;simp[aM]
        |succ j=>simp at q
       have f1:=jx (hm 0) _ _ p2;rw[f1]at e3;cases e3;have f2:=mH (hm 0) _ _ p3;rw[f2]at e4;cases e4;have U:Hb0.length=1:=by rw[tO p3];rfl
       obtain⟨b0,rfl⟩:∃b0,Hb0=[b0]:=by
        cases Hb0 with
        |nil=>simp at U
        |cons x q=>cases q with
         |nil=>exact⟨x,rfl⟩
         |cons _ _=>simp at U
       obtain⟨fs,cs,hfe,hav⟩:=ZJN (P:=P) X (c:=c) [] ha s.1.1.2;have hid:J.H[H.length]? =ab .gone:=by rw[hJ,yan (ym _),Nat.sub_self];rfl
       have e7:=y;rw[pX]at e7;have e8:=bG (f:=aR []) _ _ e7;rw[y]at e8;cases e8;have e6:=bG (f:=aR [H.length]) _ _ e7
       have hin:aH J.H [H.length] [H.length]=ab [.gone]:=by
        simp[aH,hid,ar.rn]
       have hx:=xY (P:=P) (o:=o) (a:=a) J.w e W hfe s.1.1.1
       have h1:=xZ (P:=P) (o:=o) (a:=a) (ids:=[H.length]) (Hin:=[.gone]) (H':=[S]) (Hb:=[b0]) ok hx hav rfl (ym _) e6 hin (jx (T J.H.length) _ _ p2) (mH (T J.H.length) _ _ p3)
        (ZGY Y.1 ⟨_,y⟩)
       refine h1 K Q λv J' y to A hv=>Z v J' ?_ to A (mG (X.to to.leaf) hv);rw[y,hJ];simp[ao,List.set_append_right]
      .cases h
     .cases h
    .cases h
   .cases hp
  .cases hp
 .cases hp
theorem ZG1{o:Oper}{ts:yL Dv}{H:yL ar}{hs:yL aj}:bC P o ts H hs<=2:=by
 unfold bC
 repeat' split
 all_goals omega
end
def jy(ts:yL Dv)(l:yL (yO Tmp×Dv)):yL Dv:=l.foldl (λts q=>fI ts q.1 q.2) ts
section
variable{P:yg}{ops:Array Oper}
theorem RK:∀(l:yL Oper)(ts:yL Dv)(H:yL ar)(hs:yL aj)(C:yL Prop)(rs:yL Rec)(e:yL Dv)(H':yL ar)(hs':yL aj),lZ P ops l ts H hs=ab (C,rs,e,H',hs')->aY C->
 rs.length=l.length/\e=jy ts ((l.zip rs).map λq=>(q.1.dst,q.2.d))/\(l=[]->H'=H)/\
 ∀(i:Nat)(o:Oper),l[i]? =ab o->∃r,rs[i]? =ab r/\aY r.C/\cR P ops o (ZR (looks ops o) 0 (jy ts (((l.zip rs).take i).map λq=>(q.1.dst,q.2.d)))) r.H r.hs=ab (r.C,r.d,r.H',r.hs')/\
  r.bu=bC P o (ZR (looks ops o) 0 (jy ts (((l.zip rs).take i).map λq=>(q.1.dst,q.2.d)))) r.H r.hs/\
  (r.rd=pC P o (ZR (looks ops o) 0 (jy ts (((l.zip rs).take i).map λq=>(q.1.dst,q.2.d))))/\r.tc=jY P o (ZR (looks ops o) 0 (jy ts (((l.zip rs).take i).map λq=>(q.1.dst,q.2.d)))) r.hs/\r.push=ir o r.hs r.H.length/\r.loc=jX o r.hs/\r.ex=jn o)/\(i=0->r.H=H)/\(∀g,rs[i+1]? =ab g->g.H=r.H')/\(i+1=l.length->H'=r.H')
 |[],ts,H,hs,C,rs,e,H',hs',h,y=>by
  simp only[lZ,yj,yl]at h;obtain⟨rfl,rfl,rfl,rfl,rfl⟩:=h
  exact⟨rfl,rfl,λ_=>rfl,λi o f=>by simp at f⟩
 |o::l,ts,H,hs,C,rs,e,H',hs',h,y=>by
  simp only[lZ]at h;split at h
  .rename_i C1 d1 H1 E F;split at h
   .rename_i C2 m G H2 I M;simp only[yj,yl]at h;obtain⟨rfl,rfl,rfl,rfl,rfl⟩:=h;obtain⟨Q,S⟩:=Zj.1 y;obtain⟨z,T,U,A⟩:=RK l _ _ _ _ _ _ _ _ M S;refine⟨by simp[z],by rw[T];rfl,by simp,λi W f=> ?_⟩
    cases i with
    |zero=>
     simp only[ybt,yj]at f;subst f;refine⟨_,rfl,Q,F,rfl,⟨rfl,rfl,rfl,rfl,rfl⟩,λ_=>rfl,λg c=> ?_,λs=> ?_⟩
     .simp only[ybe]at c
      cases l with
      |nil=>
       have:m=[]:=ybo (by simpa using z);subst this
       simp at c
      |cons X l2=>
       obtain⟨r,j,_,_,_,_,t,_⟩:=A 0 X rfl;rw[c]at j;cases j;exact t rfl
     .have:l=[]:=ybo (by simpa using s.symm)
      exact U this
    |succ i=>
     simp only[ybe]at f;obtain⟨r,j,t,Y,Z,x,j5,j6,j7⟩:=A i W f;refine⟨r,by simpa using j,t,Y,Z,x,λh0=>by omega,λg c=>j6 g (by simpa using c),λs=>j7 (by simpa using s)⟩
   .cases h
  .cases h
theorem ZFe(ts:yL Dv)(l:yL (yO Tmp×Dv))(q:yO Tmp×Dv):jy ts (l++[q])=fI (jy ts l) q.1 q.2:=by simp[jy]
def gX(X:Nat->Bool):Nat->Nat
 |0=>0
 |k+1=>gX X k+(if X k then 0 else 1)
theorem RL{X:Nat->Bool}:∀{k:Nat},gX X k=0->∀j,j < k->X j=ae
 |0,_,j,h=>by omega
 |k+1,h,j,f=>by
  simp only[gX]at h;by_cases c:j=k
  .subst c
   cases e:X j with
   |true=>rfl
   |false=>simp[e]at h
  .exact RL (k:=k) (by omega) j (by omega)
theorem RM{X:Nat->Bool}:∀{k:Nat},gX X k<=k
 |0=>ym _
 |k+1=>by
  have:=RM (X:=X) (k:=k);simp only[gX];split <;> omega
theorem RN{X Y:Nat->Bool}:∀{k:Nat},(∀j,j < k->Y j=X j)->gX Y k=gX X k
 |0,_=>rfl
 |k+1,h=>by
  simp only[gX];rw[RN (k:=k) (λj c=>h j (by omega)),h k (by omega)]
theorem RO{X Y:Nat->Bool}{i:Nat}(hi:X i=af):∀{k:Nat},i < k->(∀j,j < k->Y j=(X j || decide (j=i)))->gX Y k+1=gX X k
 |0,h,_=>by omega
 |k+1,h,c=>by
  simp only[gX];by_cases f:i=k
  .subst f
   rw[RN (X:=X) (Y:=Y) (λj g=>by
    rw[c j (by omega)];have:¬j=i:=by omega
    simp[this]),c i (by omega),hi]
   simp
  .have:=RO hi (k:=k) (by omega) (λj g=>c j (by omega));have e:¬k=i:=λh=>f h.symm;rw[c k (by omega)];simp only[e,decide_false,Bool.or_false];omega
theorem RP:∀(l:yL Oper)(i:Nat),pD l i=ae->∀(j:Nat)(o:Oper),l[j]? =ab o->∀e,e∈o.after->Region.binds .any e=ae->e.on < i+j
 |[],i,_,j,o,c,_,_,_=>by simp at c
 |o::l,i,h,j,m,c,e,f,g=>by
  simp only[pD,yi,ybn]at h
  cases j with
  |zero=>
   simp only[ybt,yj]at c;subst c;have:=h.1 e (by simpa using f)
   simpa[g] using this
  |succ j=>
   simp only[ybe]at c;have:=RP l (i+1) h.2 j m c e f g;omega
theorem RQ(keep:yL Nat):∀(l:yL Dv)(k:Nat),(ZR keep k l).length=l.length
 |[],k=>rfl
 |x::l,k=>by simp[ZR,RQ keep l]
theorem ZLM{J:Sg}{a:Act}{ts ms:yL Dv}{dst:yO Tmp}{d:Dv}{v:yh}(hl:ms.length=ts.length)(h1:ay J ts a)(h2:ay J (fI ms dst d) (a.put dst v)):ay J (fI ts dst d) (a.put dst v):=by
 unfold fI Act.put at*
 cases dst with
 |none=>exact h1
 |some t=>
  refine⟨by simpa using h1.size,λi e f=> ?_,h1.defers⟩;by_cases c:t=i
  .subst c;refine h2.at_ t e ?_;simp only[ybm]at f ⊢;rw[hl];exact f
  .rw[ybm,yX c]at f;have:=h1.at_ i e f;simpa[ydi,Array.getElem?_setIfInBounds,c] using this
theorem Zw7{J:Sg}{a:Act}{ts:yL Dv}{hs hs':yL aj}{C:yL Prop}{ts':yL Dv}{H':yL ar}{id:Nat}(ok:Ok J)(yK:ay J ts a)(h:sZ P ops ts J.H hs=ab (C,ts',H',hs'))(hc:aY C)
 (Q:Exit->Act->yad->Prop) (hQ:∀a' J',J'.H=H'->To J J'->Ok J'->ay J' ts' a'->Q .normal a' J'.w):(Code.region id ops ae).wp P Q a J.w:=by
 unfold sZ at h;split at h
 .rename_i hm;split at h
  .rename_i C1 rs ts1 H1 hs1 hev;split at h
   .rename_i hdr;simp only[yj,yl]at h;obtain⟨rfl,rfl,rfl,rfl⟩:=h;obtain⟨zV,hts',hnil,zY⟩:=RK _ _ _ _ _ _ _ _ _ hev hc;let n:=ops.size;let dst:Nat->yO Tmp:=λi=>gW ops.toList i;let D:Nat->Dv:=λi=>((rs[i]?).map (·.d)).getD .an;let bu:Nat->Nat:=λi=>(rs.map (·.bu)).getD i 0;let A:yL Nat:=xt ops.toList;have hn:ops.toList.length=n:=by simp[n]
    have hrl:rs.length=n:=by rw[zV,hn]
    unfold sY at hdr;simp only[yi]at hdr;obtain⟨⟨⟨⟨⟨_,hback⟩,hanc⟩,huniq⟩,hlook⟩,kG⟩:=hdr;have hopl:∀(i:Nat),ops.toList[i]? =ops[i]? :=λi=>by simp
    have hA:∀i o,ops[i]? =ab o->A.getD i 0=mb A i o:=by
     intro i o ho;have hi:i < n:=(ycr.1 ho).1;have:=ybn.1 hanc i (List.mem_range.2 (by rw[hn];exact hi));rw[hopl,ho]at this;simpa using this
    have hu:∀i j,i < n->j < n->dst i≠ad->dst i=dst j->i=j:=by
     intro i j hi hj M h2;have:=ybn.1 (ybn.1 huniq i (List.mem_range.2 (by rw[hn];exact hi))) j (List.mem_range.2 (by rw[hn];exact hj));simp only[yco,yT,Bool.not_eq_true',beq_eq_false_iff_ne,ne_eq]at this;rcases this with(h3|h3)|h3
     .exact h3
     .exact absurd h3 M
     .exact absurd h2 h3
    have hL:∀i o j t,ops[i]? =ab o->j < n->dst j=ab t->t∈looks ops o->i≠j->(if j < i then(A.getD i 0).testBit j else(A.getD j 0).testBit i)=ae:=by
     intro i o j t ho hj hd ht hne;have hi:i < n:=(ycr.1 ho).1;have M:=ybn.1 hlook i (List.mem_range.2 (by rw[hn];exact hi));rw[hopl,ho]at M;have h2:=ybn.1 M j (List.mem_range.2 (by rw[hn];exact hj));have hd':gW ops.toList j=ab t:=hd;rw[hd']at h2;have hk:(looks ops o).contains t=ae:=by simpa using ht
     simp only[hk,yco,yT,Bool.not_true,Bool.or_false]at h2;rcases h2 with h2|h2
     .exact absurd h2 hne
     .exact h2
    obtain⟨s,_,kG⟩:=List.any_eq_true.1 kG
    have hE0:∀i j,i < n->j < n->bu i≠0->bu j=2->i≠j->(if j < i then(A.getD i 0).testBit j else(A.getD j 0).testBit i)=ae\/(bu i=1/\kV rs i j=ae)\/jo rs s i j=ae:=by
     intro i j hi hj M h2 hne;have h3:=ybn.1 kG i (List.mem_range.2 (by rw[hn];exact hi));simp only[yco,yT]at h3;rcases h3 with h3|h3
     .exact absurd h3 M
     .have h4:=ybn.1 h3 j (List.mem_range.2 (by rw[hn];exact hj));have h2':(List.map (λx=>x.bu) rs).getD j 0=2:=h2;rw[h2']at h4;simp only[yco,yi,yT,beq_self_eq_true,Bool.not_true]at h4;rcases h4 with((h4|h4)|h4)|h4
      .exfalso;rcases h4 with h4|h4
       .exact hne h4
       .cases h4
      .exact .inl h4
      .exact .inr (.inl h4)
      .exact .inr (.inr h4)
    have hTS:∀i,i<=n->jy ts (((ops.toList.zip rs).take i).map λq=>(q.1.dst,q.2.d))=dS n dst D ts (λj=>ag (j < i)):=by
     intro i
     induction i with
     |zero=>
      intro _;rw[RF (λj _=>by simp)]
      simp[jy]
     |succ i ih=>
      intro hi;have M:i < ops.toList.length:=by rw[hn];omega
      have h2:i < rs.length:=by rw[hrl];omega
      have hz:(ops.toList.zip rs)[i]? =ab (ops.toList[i],rs[i]):=by
       rw[List.getElem?_zip_eq_some];exact⟨yae M,yae h2⟩
      rw[List.take_add_one,hz];simp only[Option.toList_some,List.map_append,yaf,List.map_nil];rw[ZFe,ih (by omega)];have hd:ops.toList[i].dst=dst i:=by show _=gW ops.toList i;unfold gW;rw[yae M];rfl
      have hD:rs[i].d=D i:=by simp[D,yae h2]
      rw[hd,hD]
      exact RG hu (by omega) (by simp) (λj _=>by
       by_cases hj:j < i <;> by_cases hj2:j=i <;> simp[hj,hj2] <;> omega)
    have T:∀(i:Nat)(o:Oper),ops[i]? =ab o->∃r,rs[i]? =ab r/\aY r.C/\cR P ops o (ZR (looks ops o) 0 (dS n dst D ts (λj=>ag (j < i)))) r.H r.hs=ab (r.C,r.d,r.H',r.hs')/\
     r.bu=bC P o (ZR (looks ops o) 0 (dS n dst D ts (λj=>ag (j < i)))) r.H r.hs/\
     (r.rd=pC P o (ZR (looks ops o) 0 (dS n dst D ts (λj=>ag (j < i))))/\r.tc=jY P o (ZR (looks ops o) 0 (dS n dst D ts (λj=>ag (j < i)))) r.hs/\r.push=ir o r.hs r.H.length/\r.loc=jX o r.hs/\r.ex=jn o)/\(i=0->r.H=J.H)/\(∀r2,rs[i+1]? =ab r2->r2.H=r.H')/\(i+1=n->H1=r.H'):=by
     intro i o ho;have hi:i < n:=(ycr.1 ho).1;obtain⟨r,W,k2,k3,k4,k45,k5,k6,k7⟩:=zY i o (by rw[hopl];exact ho);rw[hTS i (by omega)]at k3 k4 k45;exact⟨r,W,k2,k3,k4,k45,k5,k6,λhl=>k7 (by rw[hn];exact hl)⟩
    let HH:Nat->yL ar:=λi=>if i < n then((rs[i]?).map (·.H)).getD [] else H1
    have z:∀i r,rs[i]? =ab r->HH i=r.H/\HH (i+1)=r.H':=by
     intro i r hr;have hi:i < n:=by rw[<-hrl];exact(yp.1 hr).1
     have hio:ops[i]? =ab ops[i]:=ycs hi;obtain⟨r',W,_,_,_,_,_,k6,k7⟩:=T i _ hio;rw[hr]at W;cases W;refine⟨by simp[HH,hi,hr], ?_⟩;by_cases h2:i+1 < n
     .have h3:i+1 < rs.length:=by rw[hrl];exact h2
      have h4:=yae h3;simp only[HH,h2,if_true,h4,yz,Option.getD_some];exact k6 _ h4
     .simp only[HH,h2,if_false];exact k7 (by omega)
    have hcl:∀i r,rs[i]? =ab r->bu i=r.bu:=by
     intro i r hr;simp[bu,List.getD,hr]
    have hstay:∀i,i < n->bu i≠2->HH (i+1)=HH i:=by
     intro i hi h2;have hio:ops[i]? =ab ops[i]:=ycs hi;obtain⟨r,W,_,k3,k4,_⟩:=T i _ hio;rw[(z i r W).1,(z i r W).2];exact ZGX k3 (by rw[<-k4, <-hcl i r W];exact h2)
    have hlev:∀(i k:Nat),i+k<=n->(∀e,i<=e->e < i+k->bu e≠2)->HH (i+k)=HH i:=by
     intro i k
     induction k with
     |zero=>intro _ _;rfl
     |succ k ih=>
      intro hk F;rw[<-yci,hstay (i+k) (by omega) (F _ (by omega) (by omega)),ih (by omega) (λe M h2=>F e M (by omega))]
    let Lev:(Nat->Bool)->Nat->Prop:=λX i=>i<=n/\∀e,e < n->bu e=2->(X e=ae↔e < i)
    have hsameLev:∀(X:Nat->Bool)(i k:Nat),Lev X i->Lev X k->HH i=HH k:=by
     have main:∀(X:Nat->Bool)(i k:Nat),i<=k->Lev X i->Lev X k->HH i=HH k:=by
      intro X i k hik M h2
      have:=hlev i (k - i) (by have:=h2.1;omega) (λe he1 he2 g=>by
       have hen:e < n:=by have:=h2.1;omega
       have h3:=(M.2 e hen g);have h4:=(h2.2 e hen g);have:X e=ae:=h4.2 (by omega);have:=h3.1 this;omega)
      rw[<-this];congr 1;omega
     intro X i k M h2;rcases Nat.le_total i k with h3|h3
     .exact main X i k h3 M h2
     .exact(main X k i h3 h2 M).symm
    have hcle:∀i,i < n->bu i<=2:=by
     intro i hi;obtain⟨r,W,_,k3,k4,_⟩:=T i _ (ycs hi);rw[hcl i r W,k4];exact ZG1
    have hpsh:∀i r,rs[i]? =ab r->r.push=ae->bu i=2/\∃E,HH (i+1)=HH i++E/\∀o,ops[i]? =ab o->∀H2,H2.length=(HH i).length->cR P ops o (ZR (looks ops o) 0 (dS n dst D ts (λj=>ag (j < i)))) H2 r.hs=ab (r.C,r.d,H2++E,r.hs'):=by
     intro i r hr hp;have hi:i < n:=by rw[<-hrl];exact(yp.1 hr).1
     have hio:ops[i]? =ab ops[i]:=ycs hi;obtain⟨r',W,_,k3,k4,k45,_⟩:=T i _ hio;rw[hr]at W;cases W;rw[k45.2.2.1]at hp;obtain⟨q1,E,Z,_⟩:=RI (H2:=r.H) k3 hp rfl;refine⟨by rw[hcl i r hr,k4,q1],E,by rw[(z i r hr).1,(z i r hr).2,Z],λo ho H2 hl=> ?_⟩;rw[hio]at ho;cases ho;obtain⟨_,E2,q3,q4⟩:=RI (H2:=H2) k3 hp (by rw[hl,(z i r hr).1]);rw[Z]at q3;rw[List.append_cancel_left q3];exact q4
    have hlocc:∀i r,rs[i]? =ab r->r.loc=ae->bu i≠1/\(HH (i+1)).length=(HH i).length/\∀o,ops[i]? =ab o->∀E,cR P ops o (ZR (looks ops o) 0 (dS n dst D ts (λj=>ag (j < i)))) (HH i++E) r.hs=ab (r.C,r.d,HH (i+1)++E,r.hs'):=by
     intro i r hr hp;have hi:i < n:=by rw[<-hrl];exact(yp.1 hr).1
     have hio:ops[i]? =ab ops[i]:=ycs hi;obtain⟨r',W,_,k3,k4,k45,_⟩:=T i _ hio;rw[hr]at W;cases W;rw[k45.2.2.2.1]at hp;obtain⟨q1,Z,q3⟩:=ZJS k3 hp;refine⟨by rw[hcl i r hr,k4];exact q1,by rw[(z i r hr).1,(z i r hr).2,Z],λo ho E=> ?_⟩;rw[hio]at ho;cases ho;rw[(z i r hr).1,(z i r hr).2];exact q3 E
    let Psh:Nat->Prop:=λi=>∃r,rs[i]? =ab r/\r.push=ae;let Loc:Nat->Prop:=λi=>∃r,rs[i]? =ab r/\r.loc=ae;let Pu:Nat->Prop:=λi=>∃r,rs[i]? =ab r/\r.push=ae/\r.H'.length=r.H.length+1/\∀k q,k < i->rs[k]? =ab q->q.H.length<=r.H.length
    have hcomm:∀i j,jo rs s i j=ae->(Loc s\/Pu s)/\((i=s/\s < j/\Psh j)\/(j=s/\s < i/\Psh i)):=by
     intro i j h
     have hget:∀(f:Rec->Bool)(k:Nat),((rs[k]?).map f).getD af=ae->∃r,rs[k]? =ab r/\f r=ae:=by
      intro f k hk
      cases hr:rs[k]? with
      |none=>rw[hr]at hk;cases hk
      |some r=>rw[hr]at hk;exact⟨r,rfl,hk⟩
     unfold jo at h;simp only[yi,yco,yT,yP]at h;obtain⟨M,h2⟩:=h;refine⟨?_, ?_⟩
     .obtain⟨r,q1,Z⟩:=hget _ _ M;unfold sX at Z;simp only[yco,yi,yT,ybn,yP]at Z;rcases Z with Z|⟨⟨Z,q3⟩,q4⟩
      .exact .inl ⟨r,q1,Z⟩
      .refine .inr ⟨r,q1,Z,q3,λk q hk hq=>q4 q ?_⟩;rw[List.mem_iff_getElem?];exact⟨k,by rw[ycg,yW hk];exact hq⟩
     rcases h2 with⟨⟨h3,h4⟩,h5⟩|⟨⟨h3,h4⟩,h5⟩
     .exact .inl ⟨h3,h4,hget _ _ h5⟩
     .exact .inr ⟨h3,h4,hget _ _ h5⟩
    let CG:yL ar->Prop:=λG=>(Loc s/\G=[])\/(Pu s/\G=[.gone])
    have hGl:∀G,CG G->(HH (s+1)).length=(HH s).length+G.length:=by
     rintro G (⟨⟨r,q1,Z⟩,rfl⟩|⟨⟨r,q1,_,Z,_⟩,rfl⟩)
     .rw[(hlocc s r q1 Z).2.1];rfl
     .rw[(z s r q1).1,(z s r q1).2,Z];rfl
    let Hole:(Nat->Bool)->yL ar->Prop:=λX Hc=>∃S e0 E G,s < n/\CG G/\bu s=2/\S<=n/\X s=af/\(∀e,e < n->bu e=2->(X e=ae↔e < S/\e≠s))/\(s < e0/\e0 < S/\bu e0=2/\HH e0=HH (s+1))/\
     (∀e,s < e->e < S->bu e=2->Psh e)/\Hc=HH s++(G++E)/\HH S=HH (s+1)++E
    let Inv:(Nat->Bool)->yL ar->Prop:=λX Hc=>(∃i,Lev X i/\Hc=HH i)\/Hole X Hc;refine wp_region_any hm ?_
    have walk:∀(yD:Nat)(c:Array Bool)(a:Act)(J1:Sg),c.size=n->gX (λj=>c.getD j af) n<=yD->RD ops (λj=>c.getD j af)->To J J1->Ok J1->
     ay J1 (dS n dst D ts (λj=>c.getD j af)) a->Inv (λj=>c.getD j af) J1.H->wpAny P .any ops Q yD c a J1.w:=by
     intro yD
     induction yD with
     |zero=>
      intro c a J1 hsz hun hcl1 to1 ok1 hrep1 hlv;have zO:=RL (Nat.le_zero.1 hun);refine⟨?_, ?_⟩
      .apply List.eq_nil_iff_forall_not_mem.2;intro j hj;obtain⟨M,o,ho,_⟩:=mem_ready.1 hj;have hjn:j < n:=(ycr.1 ho).1;have h2:=zO j hjn;have hjs:j < c.size:=by omega
       simp only[Array.getD,hjs,dif_pos]at M h2;rw[M]at h2;cases h2
      .rcases hlv with⟨i,hi,hH⟩|⟨S,e0,E,G,g1,_,_,_,g2,_⟩
       case inr=>exact absurd ((zO s g1).symm.trans g2) (by simp)
       have hln:Lev (λj=>c.getD j af) n:=⟨ym _,λe F _=>⟨λ_=>F,λ_=>zO e F⟩⟩;refine hQ a J1 ?_ to1 ok1 ?_
       .rw[hH,hsameLev _ i n hi hln];simp[HH]
       .have:ts1=dS n dst D ts (λj=>c.getD j af):=by
         have y:=hTS n (ym _);rw[ybs (by rw[List.length_zip,hn,hrl];simp)]at y;rw[hts',y];apply ybg;intro t;by_cases ht:t < ts.length
         .rw[jw ht,jw ht];congr 1;by_cases hex:∃j,j < n/\dst j=ab t
          .obtain⟨j,M,h2⟩:=hex;rw[kj hu M (by simpa using M) h2,kj hu M (zO j M) h2]
          .rw[kl (λj M _ h3=>hex ⟨j,M,h3⟩),kl (λj M _ h3=>hex ⟨j,M,h3⟩)]
         .rw[yat (by rw[WV];omega),yat (by rw[WV];omega)]
        rw[this]
        exact hrep1
     |succ yD ih=>
      intro c a J1 hsz hun hcl1 to1 ok1 hrep1 hlv;refine⟨λhr=> ?_,λi hi=> ?_⟩
      . 
       have zO:∀j,j < n->c.getD j af=ae:=by
        intro j
        induction j using Nat.strongRecOn with
        |_ j ihj=>
         intro hj
         cases U:c.getD j af with
         |true=>rfl
         |false=>
          have hjs:j < c.size:=by omega
          have hjo:ops[j]? =ab ops[j]:=ycs hj
          have:j∈Region.ready .any ops c:=by
           refine mem_ready.2 ⟨?_,ops[j],hjo,λe F hb=> ?_⟩
           .simp only[Array.getD,hjs,dif_pos]at U ⊢;exact U
           .have hlt:=RP ops.toList 0 hback j ops[j] (by rw[hopl];exact hjo) e F hb;exact ihj e.on (by omega) (by omega)
          rw[hr]at this;cases this
       rcases hlv with⟨i,hi,hH⟩|⟨S,e0,E,G,g1,_,_,_,g2,_⟩
       case inr=>exact absurd ((zO s g1).symm.trans g2) (by simp)
       have hln:Lev (λj=>c.getD j af) n:=⟨ym _,λe F _=>⟨λ_=>F,λ_=>zO e F⟩⟩;refine hQ a J1 ?_ to1 ok1 ?_
       .rw[hH,hsameLev _ i n hi hln];simp[HH]
       .have:ts1=dS n dst D ts (λj=>c.getD j af):=by
         have y:=hTS n (ym _);rw[ybs (by rw[List.length_zip,hn,hrl];simp)]at y;rw[hts',y];apply ybg;intro t;by_cases ht:t < ts.length
         .rw[jw ht,jw ht];congr 1;by_cases hex:∃j,j < n/\dst j=ab t
          .obtain⟨j,M,h2⟩:=hex;rw[kj hu M (by simpa using M) h2,kj hu M (zO j M) h2]
          .rw[kl (λj M _ h3=>hex ⟨j,M,h3⟩),kl (λj M _ h3=>hex ⟨j,M,h3⟩)]
         .rw[yat (by rw[WV];omega),yat (by rw[WV];omega)]
        rw[this];exact hrep1
      . 
       obtain⟨M,o,ho,hedge⟩:=mem_ready.1 hi;have hin:i < n:=(ycr.1 ho).1;have fG:i < c.size:=by omega
       let X:Nat->Bool:=λj=>c.getD j af
       have hXi:X i=af:=by
        simp only[X,Array.getD,fG,dif_pos]at M ⊢;exact M
       have hancL:∀j,(A.getD i 0).testBit j=ae->X j=ae:=by
        intro j hj;rw[hA i o ho]at hj;unfold mb at hj;rcases zu A i j _ _ hj with h|⟨e,y,e2,e3,e4⟩
        .simp at h
        .have F:=hedge e (by simpa using y) e2;rcases e4 with e4|e4
         .rw[<-e4];exact F
         .exact RE hcl1 hA e.on ⟨ops[e.on],ycs (by omega)⟩ F j e4
       have hancR:∀j,j < n->X j=ae->(A.getD j 0).testBit i=ae->False:=by
        intro j hj U hb;have:=RE hcl1 hA j ⟨ops[j],ycs hj⟩ U i hb;have hXi':(c.getD i af)=af:=hXi;rw[hXi']at this;cases this
       obtain⟨r,W,k2,k3,k4,k45,_,_,_⟩:=T i o ho
       have hmask:ZR (looks ops o) 0 (dS n dst D ts X)=ZR (looks ops o) 0 (dS n dst D ts (λj=>ag (j < i))):=by
        refine ZFc hu (λj t hj hd ht=> ?_);by_cases hij:i=j
        .subst hij;rw[hXi];simp
        .have:=hL i o j t ho hj hd ht hij;split at this
         .rename_i hlt;rw[hancL j this];simp[hlt]
         .rename_i hge
          have hxf:X j=af:=by
           cases U:X j with
           |false=>rfl
           |true=>exact(hancR j hj U this).elim
          rw[hxf];simp[hge]
       have hXi2:X i=af:=hXi
       have hgetset:∀j,(c.setIfInBounds i ae).getD j af=(X j || decide (j=i)):=by
        intro j;by_cases hji:j=i
        .subst hji;simp[Array.getD,fG]
        .simp only[X,ydi,Array.getElem?_setIfInBounds,hji,decide_false,Bool.or_false];rw[yX (λh=>hji h.symm)]
       have hord:∀e,e < n->bu i≠0->bu e=2->i≠e->¬(bu i=1/\kV rs i e=ae)->¬jo rs s i e=ae->(X e=ae↔e < i):=by
        intro e F h0 g hie hf hcm;rcases hE0 i e hin F h0 g hie with h3|h3|h3
        .split at h3
         .rename_i hlt;exact⟨λ_=>hlt,λ_=>hancL e h3⟩
         .rename_i hge;exact⟨λU=>(hancR e F U h3).elim,λh=>absurd h hge⟩
        .exact absurd h3 hf
        .exact absurd h3 hcm
       have hkeep:bu i≠2->Inv (λj=>(c.setIfInBounds i ae).getD j af) J1.H:=by
        intro h2
        have hX':∀e,bu e=2->((c.setIfInBounds i ae).getD e af=ae↔X e=ae):=by
         intro e g
         have hne:¬e=i:=by
          rintro rfl;exact h2 g
         rw[hgetset e];simp only[hne,decide_false,Bool.or_false]
        rcases hlv with⟨S,I,hlv2⟩|⟨S,e0,E,G,g1,g2,g3,g4,g5,g6,g7,g8,g9,g10⟩
        .exact .inl ⟨S,⟨I.1,λe F g=>(hX' e g).trans (I.2 e F g)⟩,hlv2⟩
        .refine .inr ⟨S,e0,E,G,g1,g2,g3,g4, ?_,λe F g=>(hX' e g).trans (g6 e F g),g7,g8,g9,g10⟩;have:=hX' s g3;show(c.setIfInBounds i ae).getD s af=af
         cases U:(c.setIfInBounds i ae).getD s af with
         |false=>rfl
         |true=>
          have h9:=this.1 U;have g5':X s=af:=g5;rw[g5']at h9;cases h9
       let SO:yL ar->Prop:=λH2=>∀K:Act->yad->Prop,(∀v J2,J2.H=H2->To J1 J2->Ok J2->ay J2 (fI (ZR (looks ops o) 0 (dS n dst D ts X)) o.dst r.d) (a.put o.dst v)->K (a.put o.dst v) J2.w)->
        if Region.wanted o (yielded ops a.tmps) then o.wp P a J1.w K Q else K (a.put o.dst undef) J1.w
       have soE:∀H2,cR P ops o (ZR (looks ops o) 0 (dS n dst D ts (λj=>ag (j < i)))) J1.H r.hs=ab (r.C,r.d,H2,r.hs')->SO H2:=λH2 h K hK=>by
        rw[<-hmask]at h;exact tL (P:=P) (ops:=ops) ok1 (qd (looks ops o) hrep1) h k2 K Q hK
       have soG:∀G H2,(G=[]\/G=[.gone])->cR P ops o (ZR (looks ops o) 0 (dS n dst D ts (λj=>ag (j < i)))) (J1.H++G) r.hs=ab (r.C,r.d,H2,r.hs')->SO H2:=λG H2 hG h=>by
        rcases hG with rfl|rfl
        .rw[List.append_nil]at h;exact soE H2 h
        .intro K hK;rw[<-hmask]at h;obtain⟨t1,o1⟩:=RJ ok1;exact tL (P:=P) (ops:=ops) (J:={ J1 with m:=J1.m++[ad],H:=J1.H++[.gone]}) o1 ((qd (looks ops o) hrep1).to t1.leaf) h k2 K Q λv J2 y to2 ok2 hr2=>hK v J2 y (t1.trans to2) ok2 hr2
       have hnow:∃H2,SO H2/\Inv (λj=>(c.setIfInBounds i ae).getD j af) H2:=by
        by_cases h0:bu i=0
        .obtain⟨y,e2⟩:=ZGW (H2:=J1.H) k3 (by rw[<-k4, <-hcl i r W];exact h0);exact⟨J1.H,soE _ e2,hkeep (by omega)⟩
        by_cases h01:bu i=1
        .have hkc:bC P o (ZR (looks ops o) 0 (dS n dst D ts (λj=>ag (j < i)))) r.H r.hs=1:=by rw[<-k4, <-hcl i r W];exact h01
         have hnc:∀e,¬jo rs s i e=ae:=by
          intro e hcm;obtain⟨q0,q3|q3⟩:=hcomm i e hcm
          .obtain⟨rfl,_⟩:=q3;rcases q0 with⟨rc,q1,Z⟩|⟨rc,q1,Z,_⟩
           .exact(hlocc _ rc q1 Z).1 h01
           .have:=(hpsh _ rc q1 Z).1;omega
          .obtain⟨_,_,rp,q4,q5⟩:=q3;have:=(hpsh i rp q4 q5).1;omega
         have hdis:∀e,e < n->bu e=2->¬(X e=ae↔e < i)->kV rs i e=ae:=by
          intro e F g U;by_cases hf:kV rs i e=ae
          .exact hf
          .exact absurd (hord e F h0 g (by rintro rfl;omega) (λh=>hf h.2) (hnc e)) U
         have hfr:∀k,k < n->kV rs i k=ae->True/\∃id,r.rd=ab id/\id < (HH k).length/\id < (HH i).length/\(bu k=2->fl o ((HH (k+1))[id]?)=fl o ((HH k)[id]?)):=by
          intro k hk hf;have hko:ops[k]? =ab ops[k]:=ycs hk;obtain⟨q,g1,_,g3,g4,g45,_⟩:=T k _ hko;unfold kV at hf;rw[W,g1]at hf;dsimp only at hf;split at hf
          .rename_i id y;simp only[yi,yP]at hf;have hrd:=k45.1;rw[y]at hrd;unfold pC at hrd
           .refine⟨zZ,id,y,by rw[(z k q g1).1];exact hf.1.1,by rw[(z i r W).1];exact hf.1.2,λhck=> ?_⟩;rw[(z k q g1).1,(z k q g1).2];have hf2:=hf.2;rw[k45.2.2.2.2]at hf2;unfold fl;by_cases hex:jn o=ae
            .rw[yW hex]at hf2;rw[yW hex,yW hex];obtain⟨_,E,p3,_⟩:=hpsh k q g1 hf2;rw[(z k q g1).1,(z k q g1).2]at p3;rw[p3,yaj hf.1.1]
            .rw[yX hex]at hf2;rw[yX hex,yX hex];rw[yco]at hf2;rcases hf2 with hf2|hf2
             .split at hf2
              .rename_i l e2;exact ZFd g3 (by rw[<-g4, <-hcl k q g1];exact hck) (by rw[<-g45.2.1,e2]) hf.1.1 (by simpa using hf2)
              .cases hf2
             .exact@of_decide_eq_true _ (Classical.propDecidable _) hf2
          .cases hf
         have hchain:∀(id k a:Nat),a+k<=n->(∀e,a<=e->e < a+k->bu e=2->fl o ((HH (e+1))[id]?)=fl o ((HH e)[id]?))->fl o ((HH (a+k))[id]?)=fl o ((HH a)[id]?):=by
          intro id k a
          induction k with
          |zero=>intro _ _;rfl
          |succ k ihk=>
           intro hk F;rw[<-yci, <-ihk (by omega) (λe M h2=>F e M (by omega))];by_cases h2:bu (a+k)=2
           .exact F (a+k) (by omega) (by omega) h2
           .rw[hstay (a+k) (by omega) h2]
         have hreads:∀id,r.rd=ab id->nQ P o (ZR (looks ops o) 0 (dS n dst D ts (λj=>ag (j < i))))=ab id:=by
          intro id y;have hrd:=k45.1;rw[y]at hrd;exact hrd.symm
         have hfin:True->∀id,r.rd=ab id->fl o ((HH i)[id]?)=fl o (J1.H[id]?)->∃H2,SO H2/\Inv (λj=>(c.setIfInBounds i ae).getD j af) H2:=by
          intro hg id y e2;rw[(z i r W).1]at e2;exact⟨J1.H,soE _ (ZNp k3 hkc (λ_=>ZLL (hreads id y) e2)),hkeep (by omega)⟩
         rcases hlv with⟨S,I,hlv2⟩|⟨S,e0,E,G,g1,g2,g3,g4,g5,g6,g7,g8,g9,g10⟩
         .by_cases hsame:Lev X i
          .have hHi:J1.H=r.H:=by
            rw[hlv2,hsameLev X S i I hsame,(z i r W).1]
           have hr':r.H'=r.H:=by
            have:=hstay i hin (by omega);rw[(z i r W).1,(z i r W).2]at this;exact this
           refine⟨J1.H,soE _ (by rw[hHi,k3,hr']),hkeep (by omega)⟩
          .have hex:∃e,e < n/\bu e=2/\¬(X e=ae↔e < i):=by
            refine Classical.byContradiction λhno=>hsame ⟨by omega,λe F g=> ?_⟩;exact Classical.byContradiction λh=>hno ⟨e,F,g,h⟩
           obtain⟨y,he1,hce1,hx1⟩:=hex;obtain⟨hg,id,hid,_⟩:=hfr y he1 (hdis y he1 hce1 hx1);refine hfin hg id hid ?_;have hln:=I.1
           have hst:∀e,e < n->bu e=2->¬(X e=ae↔e < i)->fl o ((HH (e+1))[id]?)=fl o ((HH e)[id]?):=by
            intro e F g U;obtain⟨_,id',hid',_,_,h5⟩:=hfr e F (hdis e F g U);rw[hid]at hid';cases hid';exact h5 g
           rw[hlv2];rcases Nat.le_total S i with hle|hle
           .have:=hchain id (i - S) S (by omega) (λe M h2 h3=>hst e (by omega) h3 (λU=>by
             have h4:=(I.2 e (by omega) h3).1 (U.2 (by omega));omega))
            rw[show S+(i - S)=i by omega]at this;exact this
           .have:=hchain id (S - i) i (by omega) (λe M h2 h3=>hst e (by omega) h3 (λU=>by
             have h4:=U.1 ((I.2 e (by omega) h3).2 (by omega));omega))
            rw[show i+(S - i)=S by omega]at this;exact this.symm
         . 
          have hic:¬i=s:=by
           rintro rfl;omega
          obtain⟨ge1,ge2,ge3,ge4⟩:=g7;have hclen:=hGl G g2;have hxe0:X e0=ae:=(g6 e0 (by omega) ge3).2 ⟨ge2,by omega⟩;have hxc0:X s=af:=g5
          have hid:True/\∃id,r.rd=ab id/\id < (HH s).length:=by
           by_cases hlt:s < i
           .obtain⟨hg,id,q1,Z,_⟩:=hfr s g1 (hdis s g1 g3 (λU=>by
             rw[hxc0]at U;have:=U.2 hlt;cases this))
            exact⟨hg,id,q1,Z⟩
           .obtain⟨hg,id,q1,Z,q20,_⟩:=hfr e0 (by omega) (hdis e0 (by omega) ge3 (λU=>by
             have:=U.1 hxe0;omega))
            refine⟨hg,id,q1, ?_⟩;rcases g2 with⟨_,rfl⟩|⟨⟨rc,p1,_,_,p4⟩,rfl⟩
            .rw[ge4,hclen]at Z;exact Z
            .have:=p4 i r (by omega) W;rw[(z i r W).1]at q20;rw[(z s rc p1).1];omega
          obtain⟨hg,id,hid,hidl⟩:=hid;refine hfin hg id hid ?_
          have hst:∀e,e < n->bu e=2->¬(X e=ae↔e < i)->fl o ((HH (e+1))[id]?)=fl o ((HH e)[id]?):=by
           intro e F g U;obtain⟨_,id',hid',_,_,h5⟩:=hfr e F (hdis e F g U);rw[hid]at hid';cases hid';exact h5 g
          rw[g9,yaj hidl];by_cases hlt:s < i
          . 
           have hc1:fl o ((HH (s+1))[id]?)=fl o ((HH s)[id]?):=hst s g1 g3 (λU=>by
            rw[hxc0]at U;have:=U.2 hlt;cases this)
           have hup:∀k,s+1+k<=S->id < (HH (s+1+k)).length/\fl o ((HH (s+1+k))[id]?)=fl o ((HH (s+1))[id]?):=by
            intro k
            induction k with
            |zero=>intro _;exact⟨by rw[ycl,hclen];omega,rfl⟩
            |succ k ihk=>
             intro hk;obtain⟨j1,j2⟩:=ihk (by omega);rw[<-yci];by_cases h2:bu (s+1+k)=2
             .obtain⟨rp,p1,p2⟩:=g8 (s+1+k) (by omega) (by omega) h2;obtain⟨_,E2,p3,_⟩:=hpsh _ rp p1 p2;rw[p3,yaj j1];exact⟨by rw[yn];omega,j2⟩
             .rw[hstay (s+1+k) (by omega) h2];exact⟨j1,j2⟩
           rcases Nat.le_total i S with hle|hle
           .have:=(hup (i - (s+1)) (by omega)).2;rw[show s+1+(i - (s+1))=i by omega]at this;rw[this,hc1]
           .have h6:=(hup (S - (s+1)) (by omega)).2;rw[show s+1+(S - (s+1))=S by omega]at h6
            have:=hchain id (i - S) S (by omega) (λe M h2 h3=>hst e (by omega) h3 (λU=>by
             have h4:=(g6 e (by omega) h3).1 (U.2 (by omega));omega))
            rw[show S+(i - S)=i by omega]at this;rw[this,h6,hc1]
          .have:=hchain id (s - i) i (by omega) (λe M h2 h3=>hst e (by omega) h3 (λU=>by
            have h4:=U.1 ((g6 e (by omega) h3).2 ⟨by omega,by omega⟩);omega))
           rw[show i+(s - i)=s by omega]at this;exact this.symm
        have h2:bu i=2:=by
         have:=hcle i hin;omega
        have hord2:∀e,e < n->bu e=2->i≠e->¬jo rs s i e=ae->(X e=ae↔e < i):=λe F g hie hcm=>hord e F h0 g hie (λh=>h01 h.1) hcm
        have hset:∀e,((c.setIfInBounds i ae).getD e af=ae↔(X e=ae\/e=i)):=by
         intro e;rw[hgetset e];simp
        by_cases hall2:∀e,e < n->bu e=2->(X e=ae↔e < i)
        . 
         have hli:Lev X i:=⟨by omega,hall2⟩
         have hHi:J1.H=r.H:=by
          rcases hlv with⟨S,I,hlv2⟩|⟨S,e0,E,G,g1,g2,g3,g4,g5,g6,g7,g8,g9,g10⟩
          .rw[hlv2,hsameLev X S i I hli,(z i r W).1]
          .exfalso;obtain⟨ge1,ge2,ge3,ge4⟩:=g7;have q1:=(hall2 e0 (by omega) ge3).1 ((g6 e0 (by omega) ge3).2 ⟨ge2,by omega⟩);have Z:=(hall2 s g1 g3).2 (by omega);have g5':X s=af:=g5;rw[g5']at Z;cases Z
         rw[<-hHi]at k3;refine⟨r.H',soE _ k3,.inl ⟨i+1,⟨by omega,λe F g=> ?_⟩,((z i r W).2).symm⟩⟩;refine(hset e).trans ?_;rw[hall2 e F g];omega
        . 
         have hex:∃e,e < n/\bu e=2/\i≠e/\¬(X e=ae↔e < i):=by
          refine Classical.byContradiction λhno=>hall2 λe F g=> ?_;by_cases hie:i=e
          .subst hie;rw[hXi2];simp
          .exact Classical.byContradiction λh=>hno ⟨e,F,g,hie,h⟩
         obtain⟨y,he1,hce1,hie1,hx1⟩:=hex;have hcm1:jo rs s i y=ae:=Classical.byContradiction λh=>hx1 (hord2 y he1 hce1 hie1 h);obtain⟨hLP,hcases⟩:=hcomm i y hcm1;rcases hcases with⟨hic,hlt1,hpe1⟩|⟨hec,hlt1,hpi⟩
         . 
          subst hic
          have hxe1:X y=ae:=by
           cases U:X y with
           |true=>rfl
           |false=>
            exfalso;apply hx1;rw[U];exact⟨λh=>(by cases h),λh=>(by omega)⟩
          rcases hlv with⟨S,I,hlv2⟩|⟨S,e0,E,G,g1,g2,g3,g4,g5,g6,g7,g8,g9,g10⟩
          .exfalso;have q1:=(I.2 y he1 hce1).1 hxe1;have Z:=(I.2 i hin h2).2 (by omega);have hXi3:X i=af:=hXi;have q2':X i=ae:=Z;rw[hXi3]at q2';cases q2'
          .have hso:SO (HH (i+1)++E):=by
            rcases g2 with⟨⟨rc,hrc,hrcl⟩,rfl⟩|⟨⟨rc,hrc,hrp,hrl,_⟩,rfl⟩
            .rw[hrc]at W;cases W;obtain⟨_,_,hcev⟩:=hlocc i r hrc hrcl;exact soE _ (by rw[g9];exact hcev o ho E)
            .rw[hrc]at W;cases W;intro K hK;have hp:ir o r.hs r.H.length=ae:=by rw[<-k45.2.2.1];exact hrp
             rw[<-hmask]at k3;refine ZG0 (P:=P) (ops:=ops) (E:=E) ok1 (qd (looks ops o) hrep1) k3 k2 hp hrl (by rw[g9,(z i r hrc).1];rfl) K Q λv J2 y to2 ok2 hr2=>hK v J2 (by rw[y,(z i r hrc).2]) to2 ok2 hr2
           refine⟨HH (i+1)++E,hso,.inl ⟨S,⟨g4,λe F g=> ?_⟩,g10.symm⟩⟩;refine(hset e).trans ?_;have q:=g6 e F g;obtain⟨ge1,ge2,_⟩:=g7;constructor
           .rintro(q1|q1)
            .exact(q.1 q1).1
            .omega
           .intro q1;by_cases hei:e=i
            .exact .inr hei
            .exact .inl (q.2 ⟨q1,hei⟩)
         . 
          subst hec
          have hxc:X y=af:=by
           cases U:X y with
           |false=>rfl
           |true=>
            exfalso;apply hx1;rw[U];exact⟨λ_=>hlt1,λ_=>rfl⟩
          have hoth:∀e,e < n->bu e=2->e≠y->(X e=ae↔e < i):=by
           intro e F g hne;by_cases hie:i=e
           .subst hie;rw[hXi2];simp
           .refine hord2 e F g hie λhcm=> ?_;obtain⟨_,q|q⟩:=hcomm i e hcm
            .omega
            .exact hne q.1
          obtain⟨rp,hrp,hrpp⟩:=hpi;obtain⟨_,Ei,hpE,hpev⟩:=hpsh i rp hrp hrpp
          have hexG:∃G,CG G/\(G=[]\/G=[.gone]):=by
           rcases hLP with h|h
           .exact⟨[],.inl ⟨h,rfl⟩,.inl rfl⟩
           .exact⟨[.gone],.inr ⟨h,rfl⟩,.inr rfl⟩
          rw[hrp]at W;cases W;rcases hlv with⟨S,I,hlv2⟩|⟨S,e0,E,G,g1,g2,g3,g4,g5,g6,g7,g8,g9,g10⟩
          .have hlc:Lev X y:=⟨by omega,λe F g=>by
            by_cases hne:e=y
            .subst hne;rw[hxc];simp
            .rw[hoth e F g hne];constructor
             .intro q;have q1:=(I.2 e F g).1 ((hoth e F g hne).2 q)
              have Z:¬y < S:=λq3=>by
               have q9:X y=ae:=(I.2 y he1 hce1).2 q3;rw[hxc]at q9;cases q9
              omega
             .intro q;omega⟩
           have hmid:∀e,y < e->e < i->bu e≠2:=by
            intro e q1 Z g;have q3:=(hoth e (by omega) g (by omega)).2 Z;have q4:=(hlc.2 e (by omega) g).1 q3;omega
           have hHi:HH i=HH (y+1):=by
            have:=hlev (y+1) (i - (y+1)) (by omega) (λe q1 Z=>hmid e (by omega) (by omega));rw[show y+1+(i - (y+1))=i by omega]at this;exact this
           have hH1:J1.H=HH y:=by rw[hlv2,hsameLev X S y I hlc]
           obtain⟨G,hCG,hG2⟩:=hexG;have hclen:=hGl G hCG
           have hso:SO (HH y++(G++Ei)):=soG G _ hG2 (by
            rw[<-yac,hH1];exact hpev o ho (HH y++G) (by rw[hHi,hclen,yn]))
           refine⟨HH y++(G++Ei),hso,.inr ⟨i+1,i,Ei,G,he1,hCG,hce1,by omega, ?_,λe F g=> ?_,⟨hlt1,by omega,h2,hHi⟩,λe q1 Z q3=> ?_,rfl,by rw[hpE,hHi]⟩⟩
           .show(c.setIfInBounds i ae).getD y af=af
            cases U:(c.setIfInBounds i ae).getD y af with
            |false=>rfl
            |true=>
             rcases (hset y).1 U with q|q
             .rw[hxc]at q;cases q
             .omega
           .refine(hset e).trans ?_;by_cases hne:e=y
            .subst hne;rw[hxc];constructor
             .rintro(q|q)
              .cases q
              .omega
             .rintro⟨_,q⟩;exact absurd rfl q
            .rw[hoth e F g hne];omega
           .by_cases hei:e=i
            .subst hei;exact⟨_,hrp,hrpp⟩
            .exact absurd q3 (hmid e q1 (by omega))
          .obtain⟨ge1,ge2,ge3,ge4⟩:=g7
           have hlvi:S<=i:=by
            rcases yck i S with q|q
            .exfalso;have:=(g6 i hin h2).2 ⟨q,by omega⟩;have hXi3:X i=af:=hXi;have q2':X i=ae:=this;rw[hXi3]at q2';cases q2'
            .exact q
           have hHi:HH i=HH S:=by
            have:=hlev S (i - S) (by omega) (λe q1 Z g=>by
             have q3:=(hoth e (by omega) g (by omega)).2 (by omega);have q4:=(g6 e (by omega) g).1 q3;omega)
            rw[show S+(i - S)=i by omega]at this;exact this
           have hclen:=hGl G g2;have hso:SO (J1.H++Ei):=soE _ (hpev o ho J1.H (by rw[hHi,g10,g9,yn,yn,yn,hclen];omega));refine⟨J1.H++Ei,hso,.inr ⟨i+1,e0,E++Ei,G,he1,g2,hce1,by omega, ?_,λe F g=> ?_,⟨ge1,by omega,ge3,ge4⟩,λe q1 Z q3=> ?_,by rw[g9,yac,yac],by rw[hpE,hHi,g10,yac]⟩⟩
           .show(c.setIfInBounds i ae).getD y af=af
            cases U:(c.setIfInBounds i ae).getD y af with
            |false=>rfl
            |true=>
             rcases (hset y).1 U with q|q
             .rw[hxc]at q;cases q
             .omega
           .refine(hset e).trans ?_;by_cases hne:e=y
            .subst hne;rw[hxc];constructor
             .rintro(q|q)
              .cases q
              .omega
             .rintro⟨_,q⟩;exact absurd rfl q
            .rw[hoth e F g hne];omega
           .by_cases hei:e=i
            .subst hei;exact⟨_,hrp,hrpp⟩
            .have q4:=(hoth e (by omega) q3 (by omega)).2 (by omega);have q5:=(g6 e (by omega) q3).1 q4;exact g8 e q1 q5.1 q3
       obtain⟨H2,hso2,hinv⟩:=hnow
       have key:=hso2 (wpAny P .any ops Q yD (c.setIfInBounds i ae)) (λv J2 y to2 ok2 hrep2=>by
        have hgetset:∀j,(c.setIfInBounds i ae).getD j af=(X j || decide (j=i)):=by
         intro j;by_cases hji:j=i
         .subst hji;simp[Array.getD,fG]
         .simp only[X,ydi,Array.getElem?_setIfInBounds,hji,decide_false,Bool.or_false];rw[yX (λh=>hji h.symm)]
        refine ih _ _ J2 (by simpa using hsz) ?_ ?_ (to1.trans to2) ok2 ?_ (by rw[y];exact hinv)
        .have:=RO (Y:=λj=>(c.setIfInBounds i ae).getD j af) hXi hin (λj _=>hgetset j);have hX':gX X n<=yD+1:=hun;omega
        .intro j o' hj U e F hb;show(c.setIfInBounds i ae).getD e.on af=ae;rw[hgetset];have hx':(c.setIfInBounds i ae).getD j af=ae:=U;rw[hgetset]at hx';by_cases hji:j=i
         .subst hji;rw[ho]at hj;cases hj;have:X e.on=ae:=hedge e F hb;rw[this];rfl
         .simp only[hji,decide_false,Bool.or_false]at hx';have:X e.on=ae:=hcl1 j o' hj hx' e F hb;rw[this];rfl
        .have hd:o.dst=dst i:=by simp[dst,gW,ho]
         have hD:r.d=D i:=by simp[D,W]
         have hput:=RG (ts0:=ts) (D:=D) hu hin hXi (λj(_:j < n)=>hgetset j);rw[<-hput, <-hd, <-hD];exact ZLM (RQ _ _ _) (hrep1.to to2.leaf) hrep2)
       show wpOp P ops Q i _ a J1.w;unfold wpOp;rw[ho];by_cases hw:Region.wanted o (yielded ops a.tmps)=ae
       .rw[yW hw]at key;simp only[hw,if_true];exact .inl key
       .rw[yX hw]at key;simp only[hw];exact key
    have hdr2:J.w.grownBy { J.w with drawn:=J.w.drawn+1} ad:=by
     exact⟨rfl,rfl,rfl,ym _,λ_ _ _=>rfl⟩
    obtain⟨to0,ok0⟩:=pK ok hdr2
    have hfalse:∀j,(Array.replicate ops.size af).getD j af=af:=by
     intro j;by_cases hj:j < ops.size <;> simp[Array.getD,hj]
    refine walk ops.size (Array.replicate ops.size af) a { J with w:={ J.w with drawn:=J.w.drawn+1}} (by simp[n]) ?_ ?_ to0 ok0 ?_ (.inl ⟨0,⟨Nat.zero_le _,λe _ _=> ?_⟩, ?_⟩)
    .exact RM
    .intro i o _ U;have hx':(Array.replicate ops.size af).getD i af=ae:=U;rw[hfalse i]at hx';cases hx'
    .rw[RF (λj _=>hfalse j)];exact yK.to to0.leaf
    .show(Array.replicate ops.size af).getD e af=ae↔e < 0;rw[hfalse e];simp
    .show J.H=HH 0;by_cases h0:0 < n
     .obtain⟨r,W,_,_,_,_,k5,_⟩:=T 0 _ (ycs h0);rw[(z 0 r W).1,k5 rfl]
     .have:ops.toList=[]:=ybo (by omega);simp only[HH,h0,if_false];exact(hnil this).symm
   .cases h
  .cases h
 .cases h
end
end Go.Ev
end
section
namespace Go.Ev
section
variable{P:yg}
theorem tP{J:Sg}{a:Act}:∀{mask:yL Nat}{ts:yL Dv},ay J ts a->ay J (pE ts mask) a
 |[],_,h=>h
 |i::r,ts,h=>by
  refine tP (mask:=r) ⟨by simpa using h.size,λj d c=> ?_,h.defers⟩;rw[ybm]at c;split at c
  .split at c
   .cases c;exact Wb
   .cases c
  .exact h.at_ j d c
theorem QX:∀(c:Code)(ts:yL Dv)(H:yL ar)(hs hs':yL aj)(C:yL Prop)(z:Ex)(f:yL Dv)(H':yL ar),ev P c ts H hs=ab (C,z,f,H',hs')->aY C->Wq P c ts H z f H'
 |.skip,ts,H,hs,hs',C,z,f,H',h,s=>by
  simp only[ev,yj,yl]at h;obtain⟨rfl,rfl,rfl,rfl,rfl⟩:=h
  exact λJ a l m g=>wp_skip ⟨rfl,J,rfl,m,To.refl J,l,g⟩
 |.label _,ts,H,hs,hs',C,z,f,H',h,s=>by
  simp only[ev,yj,yl]at h;obtain⟨rfl,rfl,rfl,rfl,rfl⟩:=h
  exact λJ a l m g=>wp_label ⟨rfl,J,rfl,m,To.refl J,l,g⟩
 |.region id ops draw,ts,H,hs,hs',C,z,f,H',h,s=>by
  cases draw with
  |true=>
   simp only[ev,if_true]at h;simp only[yq,yl]at h;obtain⟨⟨C1,I,H1,E⟩,M,rfl,rfl,rfl,rfl,rfl⟩:=h;intro J a l m g;subst m
   exact Zw7 l g M s _ λS J' e1 to T F=>⟨rfl,J',rfl,e1,to,T,F⟩
  |false=>
   simp only[ev,ybw,if_false]at h;simp only[yq,yl]at h;obtain⟨⟨C1,I,H1,E⟩,M,rfl,rfl,rfl,rfl,rfl⟩:=h;intro J a l m g;subst m;refine wp_region ?_
   have:=PZ (P:=P) (ops:=ops) (λe S Z=>e=Ex.normal.to/\∃J',J'.w=Z/\J'.H=H1/\To J J'/\Ok J'/\ay J' I S) ops.toList 0 ts J a hs E C1 H1 (λj=>by simp) l g M s
    (λS J' e1 to T F=>⟨rfl,J',rfl,e1,to,T,F⟩)
   rw[List.range_eq_range']
   simpa using this
 |.seq x y,ts,H,hs,hs',C,z,f,H',h,s=>by
  simp only[ev]at h;split at h
  .rename_i C1 I H1 E M;split at h
   .rename_i C2 ex2 ts2 H2 hs2 h2;simp only[yj,yl]at h;obtain⟨rfl,rfl,rfl,rfl,rfl⟩:=h;obtain⟨c1,c2⟩:=Zj.1 s;have G:=QX x _ _ _ _ _ _ _ _ M c1;have r2:=QX y _ _ _ _ _ _ _ _ h2 c2;intro J a l m g;refine wp_seq (wp_mono (G J a l m g) ?_);rintro e S Z ⟨rfl,J1,rfl,e1,to1,ok1,U⟩;refine wp_mono (r2 J1 S ok1 e1 U) ?_;rintro e a'' w'' ⟨rfl,J2,rfl,e2,to2,ok2,W⟩;exact⟨rfl,J2,rfl,e2,to1.trans to2,ok2,W⟩
   .cases h
  .rename_i r X;have G:=QX x _ _ _ _ _ _ _ _ h s;intro J a l m g;refine wp_seq (wp_mono (G J a l m g) ?_);rintro e S Z ⟨rfl,Q⟩
   cases z with
   |normal=>exact absurd h (X _ _ _ _)
   |exit id=>exact⟨rfl,Q⟩
   |ret=>exact⟨rfl,Q⟩
 |.cond c x y,ts,H,hs,hs',C,z,f,H',h,s=>by
  simp only[ev]at h;split at h
  .rename_i t E Y;simp only[yq,yl]at h;obtain⟨⟨C1,r⟩,M,rfl,rfl⟩:=h;obtain⟨c0,c1⟩:=s;have G:=QX x _ _ _ _ _ _ _ _ M c1;intro J a l m g;have hv:=Zh (P:=P) g 0 c;rw[Y]at hv;exact wp_cond_true (by rw[Y6 hv,c0]) (G J a l m g)
  .rename_i t E Y;simp only[yq,yl]at h;obtain⟨⟨C1,r⟩,M,rfl,rfl⟩:=h;obtain⟨c0,c1⟩:=s;have G:=QX y _ _ _ _ _ _ _ _ M c1;intro J a l m g;have hv:=Zh (P:=P) g 0 c;rw[Y]at hv;exact wp_cond_false (by rw[Y6 hv,c0]) (G J a l m g)
  .cases h
 |.block id A,ts,H,hs,hs',C,z,f,H',h,s=>by
  simp only[ev]at h;split at h
  .rename_i C1 id' I H1 E M;simp only[yj,yl]at h;obtain⟨rfl,rfl,rfl,rfl,rfl⟩:=h;have G:=QX A _ _ _ _ _ _ _ _ M s;intro J a l m g;refine wp_block (wp_mono (G J a l m g) ?_);rintro e S Z ⟨rfl,Q⟩;simp only[Ex.to,Exit.inBlock];split
   .rename_i he;exact⟨rfl,Q⟩
   .rename_i he;exact⟨rfl,Q⟩
  .rename_i r X;have G:=QX A _ _ _ _ _ _ _ _ h s;intro J a l m g;refine wp_block (wp_mono (G J a l m g) ?_);rintro e S Z ⟨rfl,Q⟩
   cases z with
   |normal=>exact⟨rfl,Q⟩
   |exit id'=>exact absurd h (X _ _ _ _ _)
   |ret=>exact⟨rfl,Q⟩
 |.loop A,ts,H,hs,hs',C,z,f,H',h,s=>by
  simp only[ev]at h;split at h
  .rename_i mask ex1 I H1 E;split at h
   .cases h
   .simp only[yj,yl]at h;obtain⟨rfl,rfl,rfl,rfl,rfl⟩:=h;exact λJ a l m g=>s.1 J a l m (tP g)
  .cases h
 |.scope A,ts,H,hs,hs',C,z,f,H',h,s=>by
  simp only[ev]at h;have G:=QX A _ _ _ _ _ _ _ _ h s;intro J a l m g;refine wp_scope_straight (wp_mono (G J a l m g) ?_);rintro e S Z ⟨rfl,Q⟩
  cases z <;> exact⟨rfl,Q⟩
 |.exit id,ts,H,hs,hs',C,z,f,H',h,s=>by
  simp only[ev,yj,yl]at h;obtain⟨rfl,rfl,rfl,rfl,rfl⟩:=h
  exact λJ a l m g=>wp_exit ⟨rfl,J,rfl,m,To.refl J,l,g⟩
 |.ret,ts,H,hs,hs',C,z,f,H',h,s=>by
  simp only[ev,yj,yl]at h;obtain⟨rfl,rfl,rfl,rfl,rfl⟩:=h
  exact λJ a l m g=>wp_ret ⟨rfl,J,rfl,m,To.refl J,l,g⟩
 |.rangeFunc _ _ _ _,ts,H,hs,hs',C,z,f,H',h,s=>by simp[ev]at h
 |.goto _,ts,H,hs,hs',C,z,f,H',h,s=>by simp[ev]at h
 |.refuse _,ts,H,hs,hs',C,z,f,H',h,s=>by simp[ev]at h
def oe(P:yg)(c:Code)(ts:yL Dv)(H:yL ar)(l:Ex)(f:yL Dv)(H':yL ar):Prop:=
 ∀(J:Sg)(a:Act),Ok J->J.H=H->ay J ts a->∀(b:Frame)(k:yL Item)(g:yL Frame),
  ∃e h j,(e=l.to/\∃J',J'.w=j/\J'.H=H'/\To J J'/\Ok J'/\ay J' f h)/\Arrives P (lone (b.at a (.code c::.inLoop c::k)) g J.w) b k g e h j
theorem RR{c:Code}{ts g:yL Dv}{H H':yL ar}{j:Ex}(l:j≠ .normal)(h:Wq P c ts H j g H'):oe P c ts H j g H':=by
 intro J a s t y b k z;obtain⟨e,A,E,F,f⟩:=h J a s t y b (.inLoop c::k) z;obtain⟨G,m⟩:=F;subst G;refine⟨j.to,A,E,⟨rfl,m⟩, ?_⟩
 cases j with
 |normal=>exact absurd rfl l
 |exit id=>exact .pass (x:=.inLoop c) rfl (λ_ _=>.inl (by simp[Ex.to])) f
 |ret=>exact .pass (x:=.inLoop c) rfl (λ_ _=>.inl (by simp[Ex.to])) f
theorem RT{c:Code}{ts j l:yL Dv}{H H1 H':yL ar}{s:Ex}(mask:yL Nat)(h1:Wq P c ts H .normal j H1)(h2:oe P c (pE j mask) H1 s l H'):oe P c ts H s l H':=by
 intro J a E F G b k A;obtain⟨e,I,T,⟨rfl,J1,rfl,M,t,x,f⟩,m⟩:=h1 J a E F G b (.inLoop c::k) A;obtain⟨e,Q,U,⟨rfl,J2,rfl,S,y,z,g⟩,h⟩:=h2 J1 I x M (tP f) b k A;exact⟨s.to,Q,J2.w,⟨rfl,J2,rfl,S,t.trans y,z,g⟩,.of_steps (Steps.trans m (.one step_inLoop)) h⟩
theorem RU{c:Code}{ts f:yL Dv}{H H':yL ar}{j:Ex}(h:oe P c ts H j f H'):Wq P (.loop c) ts H j f H':=by
 intro J a l m s b k t;obtain⟨e,x,y,z,g⟩:=h J a l m s b k t;exact⟨e,x,y,z,.of_steps (.one step_loop) g⟩
def iN(J:Sg)(L:yL Nat)(H:yL ar):Sg:={ F:=J.F,B:=J.B,m:=L.map λid=>(J.m[id]?).getD ad,H:=H,w:=J.w,X:=λb c=>J.X b c/\∃j:Nat,(L.map λid=>(J.m[id]?).getD ad)[j]? =ab (ab b)}
theorem RV{J:Sg}{L:yL Nat}{H:yL ar}{j id:Nat}{x:yO Nat}(h:L[j]? =ab id)(hm:J.m[id]? =ab x):(iN J L H).m[j]? =ab x:=by
 show(L.map λid=>(J.m[id]?).getD ad)[j]? =ab x;rw[yah,h];simp[hm]
theorem km{J:Sg}{L:yL Nat}{H:yL ar}{j b:Nat}(h:(iN J L H).m[j]? =ab (ab b)):∃id,L[j]? =ab id/\J.m[id]? =ab (ab b):=
 YN (J:=J) (ids:=L) (Hin:=H) h
theorem lg{J:Sg}{L:yL Nat}{H:yL ar}(hin:aH J.H L L=ab H):Rn (aR L) J (iN J L H) where
 w:=rfl
 aV b o v _ h:=by
  refine⟨h.1,λj e hj he=> ?_⟩;obtain⟨id,h1,h2⟩:=km hj;obtain⟨e0,e',h3,h4,h5⟩:=VD hin h1;have he':H[j]? =ab e:=he;rw[h4]at he';cases he';exact(xR h5).2 (h.2 id e0 h2 h3)
 m id j hj x hx:=RV (bL hj) hx
 H id j hj e he:=by
   obtain⟨e0,e',h3,h4,h5⟩:=VD hin (bL hj);rw[he]at h3;cases h3;exact⟨e',h4,h5⟩
theorem tQ{J:Sg}(ok:Ok J){L:yL Nat}{H:yL ar}(ho:once L=ae)(hin:aH J.H L L=ab H):Ok (iN J L H) where
 len:=by
  show(L.map _).length=H.length;rw[yx,QV hin]
 inj i j b hi hj:=by
  obtain⟨x,h1,h2⟩:=km hi;obtain⟨y,h3,h4⟩:=km hj;have:=ok.inj x y b h2 h4;subst this;exact pU ho i j x h1 h3
 lt i b hi:=by
  obtain⟨x,h1,h2⟩:=km hi;exact ok.lt x b h2
 cA i e x he hx:=by
  have he':H[i]? =ab e:=he;have hi:i < L.length:=by rw[<-QV hin];exact(yp.1 he').1
  obtain⟨e0,e',h3,h4,h5⟩:=VD hin (yae hi);rw[he']at h4;cases h4
  have hm:∃y,J.m[L[i]]? =ab y:=by
   have:L[i] < J.m.length:=by rw[ok.len];exact(yp.1 h3).1
   exact⟨_,yae this⟩
  obtain⟨y,hy⟩:=hm;have:=RV (H:=H) (yae hi) hy;rw[hx]at this;cases this;exact xV (lg hin) h5 (λb c hb h=>⟨h,i,by rw[<-hb];exact hx⟩) (ok.cA _ _ _ h3 hy)
 new b hb:=ok.new b hb
 own i b hi:=by
  obtain⟨x,h1,h2⟩:=km hi;exact ok.own x b h2
 cQ b c h:=by
  obtain⟨h,j,hj⟩:=h;obtain⟨h1,h2,h3,i,e,h4,h5,h6⟩:=ok.cQ b c h;obtain⟨id,k1,k2⟩:=km (H:=H) hj;have:=ok.inj i id b h4 k2;subst this;obtain⟨e0,e',q3,q4,q5⟩:=VD hin k1;rw[h5]at q3;cases q3;refine⟨h1,h2,λq hq=> ?_,j,e',hj,q4,by rw[xS q5];exact h6⟩;obtain⟨x,_,hx⟩:=km hq;exact h3 x hx
 one b b' c h h':=ok.one b b' c h.1 h'.1
theorem zw{J J':Sg}(ok:Ok J)(to:To J J'){keep:yL Nat}{H:yL ar}(ho:once (yu J.H.length++keep)=ae)(T:aH J'.H (yu J.H.length++keep) (yu J.H.length++keep)=ab H):
 To J (iN J' (yu J.H.length++keep) H):=by
 have j:∀id,id < J.H.length->aR (yu J.H.length++keep) id=ab id:=λid h=>by
  refine bJ ho ?_;rw[yaj (by simpa using h),List.getElem?_range h]
 have rn:=lg T;refine⟨⟨λb o v g y=> ?_,λid b g y=> ?_,λid s len A c g=> ?_,λid b g y=> ?_,λid v s st e d g=> ?_,λid v t u l g=> ?_,λid v l g=> ?_⟩,to.F,to.B,to.os,to.tape,to.output,to.size,λb g y h3=>to.block b g y h3,λid b h=> ?_, ?_,λb c h=>to.xs b c h.1⟩
 .obtain⟨h3,E⟩:=to.leaf.cells b o v g y;exact⟨h3,rn.aV b o v h3 E⟩
 .have f:id < J.H.length:=by rw[<-ok.len];exact(yp.1 g).1
  obtain⟨h3,E⟩:=to.leaf.var id b g y;exact⟨rn.m _ _ (j id f) _ h3,rn.var (j id f) E⟩
 .have f:id < J.H.length:=by
   obtain⟨e,ys,y,_⟩:=g;exact(yp.1 y).1
  exact rn.front (j id f) (to.leaf.front _ _ _ _ _ g)
 .have f:id < J.H.length:=by rw[<-ok.len];exact(yp.1 g).1
  obtain⟨h3,E⟩:=to.leaf.map id b g y;exact⟨rn.m _ _ (j id f) _ h3,rn.map (j id f) E⟩
 .have f:id < J.H.length:=(yp.1 g).1;obtain⟨I,U,d',M,Q,S⟩:=to.leaf.row _ _ _ _ _ _ g;obtain⟨d2,W⟩:=rn.row (j id f) M;refine⟨I,U,d2,W,Q,λX=> ?_⟩;obtain⟨h9,Y⟩:=S X;refine⟨?_,Y⟩;have z:∃x,J.m[id]? =ab x:=⟨_,yae (by rw[ok.len];exact f)⟩;obtain⟨x,G⟩:=z;rw[G];exact rn.m _ _ (j id f) _ (by rw[h9];exact G)
 .have f:id < J.H.length:=(yp.1 g).1;obtain⟨I,Z,M,Q,S,W⟩:=to.leaf.maps _ _ _ _ _ g;have z:∃x,J.m[id]? =ab x:=⟨_,yae (by rw[ok.len];exact f)⟩;obtain⟨x,G⟩:=z;refine⟨I,Z,rn.maps (j id f) M,Q, ?_,W⟩;rw[G];exact rn.m _ _ (j id f) _ (by rw[S];exact G)
 .have f:id < J.H.length:=(yp.1 g).1;obtain⟨I,Z,M,Q,S⟩:=to.leaf.bA _ _ _ g;have z:∃x,J.m[id]? =ab x:=⟨_,yae (by rw[ok.len];exact f)⟩;obtain⟨x,G⟩:=z;exact⟨I,Z,rn.bA (j id f) M,Q,λX=>by rw[G];exact rn.m _ _ (j id f) _ (by rw[S X];exact G)⟩
 .obtain⟨x,g,y⟩:=km h;rcases to.same x b y with h3|h3
  .have f:x < J.H.length:=by rw[<-ok.len];exact(yp.1 h3).1
   have:=bJ ho g;have E:=j x f;unfold aR at E;rw[this]at E;cases E;exact .inl h3
  .exact .inr h3
 .show J.m.length<=((yu J.H.length++keep).map _).length;rw[ok.len];simp
def qf(tmps:Array yh):ResultVar->Sem yh
 |.tmp t=>pure (tmps.getD t undef)
 |.cell x t=>do loadVar t (<-asAddr (tmps.getD x undef))
theorem ZB1(fn:Func)(tmps:Array yh):results fn tmps=(do let vs <-fn.results.mapM (qf tmps);pure (if h:vs.size=1 then vs[0] else .tuple vs)):=by
 unfold results
 have:(λ(rv:ResultVar)=>(match rv with|.tmp t=>pure (tmps.getD t undef)|.cell a t=>do loadVar t (<-asAddr (tmps.getD a undef)):Sem yh))=qf tmps:=by
  funext rv;cases rv <;> rfl
 exact congrArg (λf=>(do let vs <-fn.results.mapM f;pure (if h:vs.size=1 then vs[0] else .tuple vs):Sem yh)) this
theorem zx{J:Sg}{a:Act}{ts:yL Dv}(ok:Ok J)(j:ay J ts a):∀(rs:yL ResultVar)(hs:yL aj)(C:yL Prop)(e:yL Dv),jp P ts J.H rs hs=ab (C,e)->aY C->
 ∃vs,Sem.run P (rs.mapM (qf a.tmps)) J.w=Result.ok vs J.w/\aB J e vs
 |[],hs,C,e,h,_=>by
  simp only[jp,yj,yl]at h;obtain⟨rfl,rfl⟩:=h
  exact⟨[],by simp,by simp[aB]⟩
 |.tmp t::r,hs,C,e,h,l=>by
  simp only[jp,yq,yl]at h;obtain⟨⟨C1,c⟩,m,rfl,rfl⟩:=h;obtain⟨vs,s,y⟩:=zx ok j r hs C1 c m l;have M:=Zh (P:=P) j 0 (.tmp t);refine⟨a.tmps.getD t undef::vs, ?_, ?_⟩
  .simp only[List.mapM_cons,qf,Sem.run_bind,Sem.run_pure,Result.andThen_ok,s]
  .simp only[aB]
   exact⟨_,_,rfl,M,y⟩
 |.cell x t::r,hs,C,e,h,l=>by
  simp only[jp]at h;split at h
  .rename_i id f yM Q;split at h
   .rename_i dd st S;split at h
    .rename_i C1 G sub z T;split at h
     .rename_i A;simp only[yq,yl]at h;obtain⟨⟨C2,c⟩,m,rfl,rfl⟩:=h;obtain⟨E,U⟩:=Zj.1 l;obtain⟨E,W⟩:=Zj.1 E;obtain⟨vs,s,y⟩:=zx ok j r z C2 c m U;have I:=Zh (P:=P) j 0 (.tmp x);simp only[Zo,Q]at I;obtain⟨b,X,_,F⟩:=kY I;unfold gv at A;simp only[yi,yT]at A;obtain⟨⟨⟨Y,Z⟩,k3⟩,k4⟩:=A;obtain⟨cs,t',p1,p2,p3,_,_,_,_,h5,_,h6⟩:=tz ok X S T E W.1;obtain⟨v,h7,h8⟩:=tf (P:=P) h5 h6 Y k4 k3 Z;have g:a.tmps.getD x undef=.pointer (ab ⟨b,f,ad⟩):=F;refine⟨v::vs, ?_, ?_⟩
      .have ha:asAddr (a.tmps.getD x undef)=pure ⟨b,f,ad⟩:=by rw[g];rfl
       simp only[List.mapM_cons,qf,ha,Sem.run_bind,Sem.run_pure,Result.andThen_ok,h7,s]
      .simp only[aB];exact⟨_,_,rfl,h8,y⟩
     .cases h
    .cases h
   .cases h
  .cases h
theorem RW{J:Sg}{c:yL Dv}{vs:yL yh}(h:aB J c vs):yH J (mc c) (if h:vs.toArray.size=1 then vs.toArray[0] else .tuple vs.toArray):=by
 have j:=xD h;unfold mc;split
 .rename_i d;simp only[aB]at h;obtain⟨v,f,rfl,l,m⟩:=h;have:f=[]:=m;subst this;have e:(if h:[v].toArray.size=1 then[v].toArray[0] else Value.tuple [v].toArray)=v:=by simp
  rw[e];exact l
 .rename_i g
  have s:¬vs.toArray.size=1:=by
   intro hs;have t:c.length=1:=by rw[<-j];simpa using hs
   match c,t with
   |[d],_=>exact g d rfl
  rw[dif_neg s,Zg rfl];simp only[yG];exact⟨_,rfl,by simpa using h⟩
theorem tR{g:yr}{fn:Func}{c:Code}{args z:yL Dv}{H H1 H':yL ar}{G:Ex}{r:Dv}{keep:yL Nat}{hs:yL aj}{C:yL Prop}(hf:P.funcs[g]? =ab fn)(hb:fn.body=ab c)
 (hr:Wq P c (args++yab (fn.ntmps - args.length) .an) H G z H1) (Q:G=.ret\/G=.normal) (f:fin P fn z H1 H.length keep hs=ab (C,r,H')) (hc:aY C):cF P g args H r H':=by
 intro J vs W X A;refine calls_of_wp hf hb ?_;have Y:=xD A
 have yK:ay J (args++yab (fn.ntmps - args.length) .an) { tmps:=vs.toArray++Array.replicate (fn.ntmps - vs.toArray.size) undef,defers:=[]}:=by
  refine⟨by simp[Y],λi d I=> ?_,rfl⟩;rcases yck i args.length with h1|h1
  .rw[yaj h1]at I;obtain⟨v,S,M⟩:=xE A I
   have h4:(vs.toArray++Array.replicate (fn.ntmps - vs.toArray.size) undef)[i]? =ab v:=by
    rw[Array.getElem?_append_left (by simpa[Y] using h1)];simpa using S
   rw[ydi,h4];exact M
  .rw[yan h1]at I;have:=List.eq_of_mem_replicate (List.mem_of_getElem? I);rw[this];exact Wb
 refine wp_mono (hr J _ W X yK) ?_;rintro e a Z ⟨rfl,J',rfl,e1,to,E,s⟩;unfold fin at f;split at f
 .rename_i C1 ds t;dsimp only at f
  have x:∀r,(mc ds).rn (aR (yu H.length++keep))=ab r\/(mc (ds.map Dv.arg)).rn (aR (yu H.length++keep))=ab r->once (yu H.length++keep)=ae->
   aH H1 (yu H.length++keep) (yu H.length++keep)=ab H'->aY C1->a.defers=[]/\∃v,(results fn a.tmps).run P J'.w=.ok v J'.w/\
    ∃F J'',(Ending.returned v)=.returned F/\J''.w=J'.w/\J''.H=H'/\To J J''/\Ok J''/\yH J'' r F:=by
   intro r hrn l j T;refine⟨s.defers, ?_⟩;rw[<-e1]at t j;obtain⟨m,S,M⟩:=zx (P:=P) E s _ _ _ _ t T
   refine⟨if h:m.toArray.size=1 then m.toArray[0] else .tuple m.toArray, ?_,if h:m.toArray.size=1 then m.toArray[0] else .tuple m.toArray,
    iN J' (yu H.length++keep) H',rfl,rfl,rfl, ?_,tQ E l j, ?_⟩
   .rw[ZB1,Sem.run_bind, <-yca (xs:=fn.results),List.mapM_toArray];simp only[Sem.run_map,S,Result.andThen_ok,Sem.run_pure]
   .rw[<-X]at l j ⊢;exact zw W to l j
   .rcases hrn with hrn|hrn
    .exact kf (lg j) hrn (RW M)
    .refine kf (lg j) hrn (RW ?_);exact ZGB M
  have y:bodyPost P fn (λe Z=>∃v J'',e=.returned v/\J''.w=Z/\J''.H=H'/\To J J''/\Ok J''/\yH J'' r v) G.to a J'.w:=by
   have zO:a.defers=[]/\∃v,(results fn a.tmps).run P J'.w=.ok v J'.w/\∃F J'',(Ending.returned v)=.returned F/\J''.w=J'.w/\J''.H=H'/\To J J''/\Ok J''/\yH J'' r F:=by
    split at f
    .rename_i U hrn j;simp only[yj,yl]at f;obtain⟨rfl,rfl,rfl⟩:=f;exact x _ (.inl hrn) U j hc
    .rename_i U hrn _ j;simp only[yj,yl]at f;obtain⟨rfl,rfl,rfl⟩:=f;exact x _ (.inr hrn) U j hc
    .cases f
   rcases Q with rfl|rfl
   .exact zO
   .exact zO
  exact y
 .cases f
end
end Go.Ev
end
section
namespace Go.Ev
noncomputable def qg(P:yg)(g:yr)(args:yL Dv)(H:yL ar)(hs:yL aj)(keep:yL Nat):yO (yL Prop×Dv×yL ar):=
 match P.funcs[g]? with
 |some fn=>match fn.body with
  |some c=>match ev P c (args++yab (fn.ntmps - args.length) .an) H hs with
   |some (C,.ret,e,H1,hs')=>match fin P fn e H1 H.length keep hs' with
    |some (C2,r,H')=>ab (C++C2,r,H')
    |none=>ad
   |some (C,.normal,e,H1,hs')=>match fin P fn e H1 H.length keep hs' with
    |some (C2,r,H')=>ab (C++C2,r,H')
    |none=>ad
   |_=>ad
  |none=>ad
 |none=>ad
theorem ZFf{P:yg}{g:yr}{args:yL Dv}{H H':yL ar}{hs:yL aj}{keep:yL Nat}{C:yL Prop}{r:Dv}(h:qg P g args H hs keep=ab (C,r,H'))(hc:aY C):cF P g args H r H':=by
 unfold qg at h;split at h
 .rename_i fn s;split at h
  .rename_i c t;split at h
   .rename_i C1 j H1 hs' f;split at h
    .rename_i C2 x H2 e;simp only[yj,yl]at h;obtain⟨rfl,rfl,rfl⟩:=h;obtain⟨l,m⟩:=Zj.1 hc;exact tR s t (QX c _ _ _ _ _ _ _ _ f l) (.inl rfl) e m
    .cases h
   .rename_i C1 j H1 hs' f;split at h
    .rename_i C2 x H2 e;simp only[yj,yl]at h;obtain⟨rfl,rfl,rfl⟩:=h;obtain⟨l,m⟩:=Zj.1 hc;exact tR s t (QX c _ _ _ _ _ _ _ _ f l) (.inr rfl) e m
    .cases h
   .cases h
  .cases h
 .cases h
theorem RX{P:yg}{c:Code}{ts e:yL Dv}{H H':yL ar}{f:Ex}{hs hs':yL aj}{C:yL Prop}(h:ev P c ts H hs=ab (C,f,e,H',hs'))(hc:aY C):Wq P c ts H f e H':=
 QX c _ _ _ _ _ _ _ _ h hc
def ZK:Code->yL Code
 |.seq a b=>ZK a++ZK b
 |.cond _ a b=>ZK a++ZK b
 |.block _ a=>ZK a
 |.scope a=>ZK a
 |.loop a=>.loop a::ZK a
 |_=>[]
def RY(P:yg)(g i:Nat):Code:=
 match P.funcs[g]? with
 |some fn=>match fn.body with
  |some c=>(ZK c).getD i .skip
  |none=>.skip
 |none=>.skip
def ZLN:Code->Code
 |.loop a=>a
 |c=>c
def gY(P:yg)(g i:Nat):Code:=ZLN (RY P g i)
def u8(b:yB):Pl:=.int .u8 (b.toNat:Int)
theorem zy{f:Nat->yO Nat}{J J':Sg}(h:Rn f J J'){ts l:yL Dv}{a:Act}(e:Dv.bi f ts=ab l)(t:ay J ts a):ay J' l a:=by
 refine⟨by rw[xA e];exact t.size, ?_,t.defers⟩
 have z:∀(m s:yL Dv),Dv.bi f m=ab s->∀(i:Nat)(d:Dv),s[i]? =ab d->∃d0,m[i]? =ab d0/\d0.rn f=ab d:=by
  intro m
  induction m with
  |nil=>
   intro s c i d g;simp only[Dv.bi,yj]at c;subst c
   simp at g
  |cons x r A=>
   intro s c i d g;simp only[Dv.bi]at c;split at c
   .rename_i y E F G;cases c
    cases i with
    |zero=>simp only[ybt,yj]at g ⊢;subst g;exact⟨x,rfl,F⟩
    |succ j=>simp only[ybe]at g ⊢;exact A _ G j d g
   .cases c
 intro i d I;obtain⟨d0,c,g⟩:=z ts l e i d I;exact kf h g (t.at_ i d0 c)
theorem RZ{P:yg}{c:Code}{ts h j:yL Dv}{H H1 H2:yL ar}{s:Ex}(mask keep:yL Nat)(h1:Wq P c ts H s h H1)
 (ho:once (yu H.length++keep)=ae) (f:aH H1 (yu H.length++keep) (yu H.length++keep)=ab H2)
 (e:Dv.bi (aR (yu H.length++keep)) (pE h mask)=ab j):Wq P c ts H s j H2:=by
 intro J a t x y;subst x;refine wp_mono (h1 J a t rfl y) ?_;rintro A E F ⟨rfl,J1,rfl,z,l,m,g⟩;subst z;exact⟨rfl,iN J1 (yu J.H.length++keep) H2,rfl,rfl,zw t l ho f,tQ m ho f,zy (lg f) e (tP (mask:=mask) g)⟩
end Go.Ev
namespace Go.Ev
theorem SA{P:yg}{g:yr}{args c:yL Dv}{H H0 H':yL ar}{r:Dv}(h:cF P g c H0 r H')(ha:cu args c)(hH:ca H H0):cF P g args H r H':=by
 intro J vs s e t;subst e;obtain⟨to,f⟩:=js s hH;refine Calls.mono (h { J with H:=H0} vs f rfl (ha.vs ?_)) ?_
 .have:=to.leaf;clear f h;have m:∀(l:yL Dv)(j:yL yh),aB J l j->aB { J with H:=H0} l j:=λl j q=>cg this l j q;exact m _ _ t
 .rintro e G ⟨v,J',x,y,z,A,E,F⟩;exact⟨v,J',x,y,z,to.trans A,E,F⟩
theorem SB{P:yg}{g:yr}{args:yL Dv}{H H1 H':yL ar}{r r':Dv}(h:cF P g args H r H1)(f:Wk r r')(hH:ca H1 H'):cF P g args H r' H':=by
 intro J vs j e l;refine Calls.mono (h J vs j e l) ?_;rintro e A ⟨v,J',m,s,t,x,y,z⟩;subst t;obtain⟨to,c⟩:=js y hH;exact⟨v,{ J' with H:=H'},m,s,rfl,x.trans to,c,f.dv (Y5 to.leaf z)⟩
theorem SC{P:yg}{c:Code}{ts f g:yL Dv}{H H1 H2:yL ar}{l:Ex}(h:Wq P c ts H l f H1)(ht:cu f g)(hH:ca H1 H2):Wq P c ts H l g H2:=by
 intro J a m e s;refine wp_mono (h J a m e s) ?_;rintro E F G ⟨t,J',rfl,x,y,z,A⟩;subst x;obtain⟨to,j⟩:=js z hH;exact⟨t,{ J' with H:=H2},rfl,rfl,y.trans to,j,ht.pM (A.to to.leaf)⟩
end Go.Ev
namespace Go.Ev
theorem ZJT{P:yg}{g:yr}{args:yL Dv}{H H1 H':yL ar}{r r':Dv}(hs:yL aj)(keep:yL Nat)(C:yL Prop)(h:qg P g args H hs keep=ab (C,r,H1))(hc:aY C)(e:Wk r r')(c:ca H1 H'):cF P g args H r' H':=
 SB (ZFf h hc) e c
theorem SD{α β:Type}{f:α->β}(c:∀a b,f a=f b->a=b):∀{l m:yL α},l.map f=m.map f->l=m
 |[],[],_=>rfl
 |[],_::_,h=>by simp at h
 |_::_,[],h=>by simp at h
 |x::l,y::m,h=>by
  simp only[yaf,List.cons.injEq]at h;rw[c _ _ h.1,SD c h.2]
instance(k:IntKind)(x:Int):Decidable (V3 k x):=by unfold V3;exact inferInstance
theorem tS{P:yg}{R R':yb->Pl->Prop}(h:∀t x,R t x->R' t x):∀(c:yL Field)(o:Nat)(xs:yL Pl),gR P R c o xs->gR P R' c o xs
 |[],_,[],_=>trivial
 |[],_,_::_,k=>k.elim
 |_::_,_,[],k=>k.elim
 |f::c,o,y::e,k=>by
  obtain⟨g,j,l,m,s,z,A,E,F⟩:=k;exact⟨g,j,l,m,s,z,A,h _ _ E,tS h c _ e F⟩
theorem tT{P:yg}:∀{n:Nat}{t:yb}{x:Pl},aO P n t x->aO P (n+1) t x
 |0,t,x,h=>by simp[aO]at h
 |n+1,t,x,h=>by
  unfold aO at h ⊢;split at h
  .trivial
  .exact h
  .obtain⟨f,g,j,l,m,c⟩:=h;exact⟨f,g,j,l,m,λy e=>⟨tT (c y e).1,(c y e).2⟩⟩
  .exact⟨h.1,tS (λt x k=>tT k) _ _ _ h.2⟩
  .exact h.elim
theorem ZJU{P:yg}{g:yr}{s:Nat}{xs:yL Pl}{H H':yL ar}{r:Dv}{yJ:yL Dv}(h1:cF P g (.p (.sl (ab ae) s xs)::yJ) H r H')(h2:xs=[]->cF P g (.p (.sl (ab af) s [])::yJ) H r H'):
 cF P g (.p (.sl ad s xs)::yJ) H r H':=by
 intro J vs l e m;simp only[aB]at m;obtain⟨v,I,rfl,M,f⟩:=m;obtain⟨t,A,c,rfl,y,z,S,E,F⟩:=Wy M
 cases j:A with
 |none=>
  have Q:xs=[]:=by
   cases xs with
   |nil=>rfl
   |cons x r=>obtain⟨b,o,T,G,_⟩:=F (by simp);rw[j]at G;cases G
  subst Q;subst j;refine h2 rfl J _ l e ?_;simp only[aB]
  exact⟨_,_,rfl,Yp t y z (ML rfl) E (λh=>absurd rfl h),f⟩
 |some a=>
  subst j;refine h1 J _ l e ?_;simp only[aB];exact⟨_,_,rfl,Yp t y z (jV rfl) E F,f⟩
end Go.Ev
namespace Go.Ev
end Go.Ev
namespace Go.Ev
def st(n:Nat)(l:yL (Nat×Dv)):yL Dv:=(yu n).map λi=>(l.lookup i).getD .an
inductive og:List (Nat×Dv)->List (Nat×Dv)->Prop where
 |nil:og [] []
 |cons {i:Nat} {d e:Dv} {l m:List (Nat×Dv)} (h:Wk d e) (k:og l m):og ((i,d)::l) ((i,e)::m)
theorem og.look{l m:yL (Nat×Dv)}(h:og l m)(i:Nat):Wk ((l.lookup i).getD .an) ((m.lookup i).getD .an):=by
 induction h with
 |nil=>exact Wk.refl _
 |cons h k c=>
  rename_i j d e l m;simp only[List.lookup_cons];split
  .exact h
  .exact c
theorem cu.st{n:Nat}{l m:yL (Nat×Dv)}(h:og l m):cu (st n l) (st n m):=by
 unfold Go.Ev.st;generalize yu n=r
 induction r with
 |nil=>exact .nil
 |cons i r c=>exact .cons (h.look i) c
end Go.Ev
end
section
namespace Go.Ev
section
variable{K V:Type}[DecidableEq K]
def cv(c:K->Pl)(ev:V->Pl)(l:yL (K×V)):yL (Pl×Pl):=l.map λq=>(c q.1,ev q.2)
def gx:yL (K×V)->K->yO V
 |[],_=>ad
 |q::l,k=>if k=q.1 then ab q.2 else gx l k
def fB:yL (K×V)->K->V->yL (K×V)
 |[],k,v=>[(k,v)]
 |q::l,k,v=>if k=q.1 then(k,v)::l else q::fB l k v
def oh:yL (K×V)->K->yL (K×V)
 |[],_=>[]
 |q::l,k=>if k=q.1 then l else q::oh l k
theorem zA{c:K->Pl}{ev:V->Pl}(hi:∀x y,c x=c y↔x=y)(k:K):∀l:yL (K×V),WO (cv c ev l) (c k) ((gx l k).map ev)
 |[]=>rfl
 |q::l=>by
  show WO ((c q.1,ev q.2)::cv c ev l) (c k) _;unfold WO gx;by_cases h:k=q.1
  .left;rw[yW h];exact⟨(hi _ _).2 h,rfl⟩
  .right;rw[yX h];exact⟨λe=>h ((hi _ _).1 e),zA hi k l⟩
theorem SE{c:K->Pl}{ev:V->Pl}(hi:∀x y,c x=c y↔x=y){k:K}{l:yL (K×V)}{v:V}(h:gx l k=ab v):WO (cv c ev l) (c k) (ab (ev v)):=by
 have:=zA (ev:=ev) hi k l;rw[h]at this;exact this
theorem SF{c:K->Pl}{ev:V->Pl}(hi:∀x y,c x=c y↔x=y){k:K}{l:yL (K×V)}(h:(gx l k).isSome=af):WO (cv c ev l) (c k) ad:=by
 have:=zA (ev:=ev) hi k l
 cases e:gx l k with
 |none=>rw[e]at this;exact this
 |some v=>rw[e]at h;cases h
theorem tU{c:K->Pl}{ev:V->Pl}(hi:∀x y,c x=c y↔x=y)(k:K)(v:V):∀l:yL (K×V),QG (cv c ev l) (c k) (ev v) (cv c ev (fB l k v))
 |[]=>rfl
 |q::l=>by
  show QG ((c q.1,ev q.2)::cv c ev l) (c k) (ev v) _;unfold QG fB;by_cases h:k=q.1
  .left;rw[yW h];exact⟨(hi _ _).2 h,rfl⟩
  .right;rw[yX h];exact⟨λe=>h ((hi _ _).1 e),_,rfl,tU hi k v l⟩
theorem SG{c:K->Pl}{ev:V->Pl}(hi:∀x y,c x=c y↔x=y)(k:K):∀l:yL (K×V),fT (cv c ev l) (c k) (cv c ev (oh l k))
 |[]=>rfl
 |q::l=>by
  show fT ((c q.1,ev q.2)::cv c ev l) (c k) _;unfold fT oh;by_cases h:k=q.1
  .left;rw[yW h];exact⟨(hi _ _).2 h,rfl⟩
  .right;rw[yX h];exact⟨λe=>h ((hi _ _).1 e),_,rfl,SG hi k l⟩
end
theorem lh{K V:Type}{P:yg}{c:yb}{e:K->Pl}{ev:V->Pl}(h:∀x,aO P 20 c (e x))(l:yL (K×V)):VH P c (cv e ev l):=by
 intro q f;obtain⟨p,_,rfl⟩:=ybj.1 f;exact h _
end Go.Ev
namespace Go.Ev
theorem ZzL{P:yg}{g:yr}{s:Nat}{e:yb}{H H':yL ar}{r:Dv}{yJ:yL Dv}(h:cF P g (.own H.length ad s []::yJ) (H++[.log s e []]) r H'):
 cF P g (.p (.sl (ab af) s [])::yJ) H r H':=by
 intro J vs f x t;simp only[aB]at t;obtain⟨v,j,rfl,y,c⟩:=t;obtain rfl:=kZ y;subst x;obtain⟨to,l⟩:=WE (J':={ J with m:=J.m++[ad],H:=J.H++[.log s e []]}) f rfl rfl rfl rfl (World.grownBy.refl J.w ad) (.inl rfl) (λ_=>.inl ⟨rfl,rfl⟩);refine(h { J with m:=J.m++[ad],H:=J.H++[.log s e []]} (.slice ad 0 0::j) l rfl ?_).mono λQ S⟨v,J',z,A,E,F,G,I⟩=>⟨v,J',z,A,E,to.trans F,G,I⟩;simp only[aB];refine⟨_,_,rfl,(Zg (d:=.own J.H.length ad s []) rfl).2 ?_,cg to.leaf _ _ c⟩;simp only[yG];refine⟨λ_ M=>(by cases M),ad,0,rfl,ym _,by simp[maxLen],Yd _,λ_=>rfl,λh=>absurd rfl h,e,[],by simp,ym _,λ_=>.inl ⟨?_,rfl,rfl⟩⟩;rw[yan (by rw[f.len];exact ym _),f.len];simp
end Go.Ev
namespace Go.Ev
end Go.Ev
end
section
namespace Go.Ev
inductive bp(H:List ar):Dv->Pl->Prop where
 |p (x:Pl):bp H (.p x) x
 |own (id:Nat) (nn:Option Bool) (s:Nat) (xs:List Pl):bp H (.own id nn s xs) (.sl nn s xs)
 |agg {ds:List Dv} {ys:List Pl} (hl:ds.length=ys.length) (h:∀(i:Nat)(d:Dv)(y:Pl),ds[i]? =ab d->ys[i]? =ab y->bp H d y):bp H (.agg ds) (.agg ys)
 |mI {id v s lo n N:Nat} {e:yb} {xs:List Pl} (hH:H[id]? =ab (.row v s af e (.p (.arr N s xs)))) (hle:lo+n<=N):bp H (.rv id v s lo n) (.sl ad s ((xs.drop lo).take n))
 |qh {id v s lo n N:Nat} {e:yb} {ds:List Dv} {ys:List Pl} (hH:H[id]? =ab (.row v s af e (.arr N s ds))) (hle:lo+n<=N) (hl:ds.length=ys.length)
   (h:∀(i:Nat)(d:Dv)(y:Pl),ds[i]? =ab d->ys[i]? =ab y->bp H d y):bp H (.rv id v s lo n) (.sl ad s ((ys.drop lo).take n))
 |vw {id s lo n N:Nat} {xs:List Pl} (hH:H[id]? =ab (.var (.p (.arr N s xs)) af)) (hle:lo+n<=N):bp H (.view id 0 [] s lo n) (.sl (ab ae) s ((xs.drop lo).take n))
 |wk {d:Dv} {x y:Pl} (h:bp H d x) (k:bw x y):bp H d y
theorem zC{J:Sg}:∀{e:yL Dv}{ys:yL Pl}{us:yL yh},e.length=ys.length->(∀(i:Nat)(d:Dv)(y:Pl),e[i]? =ab d->ys[i]? =ab y->∀vs,yG J d vs->aq J.w J.aV y vs)->aC J e us->ak J.w J.aV ys us
 |[],[],us,_,_,h=>by simpa[aC,ak] using h
 |[],_::_,_,c,_,_=>by simp at c
 |_::_,[],_,c,_,_=>by simp at c
 |d::e,y::ys,us,c,f,h=>by
  simp only[aC]at h;obtain⟨a,b,g,j,l⟩:=h;simp only[ak];exact⟨a,b,g,f 0 d y rfl rfl a j,zC (by simpa using c) (λi d y m s=>f (i+1) d y (by simpa using m) (by simpa using s)) l⟩
theorem SH{J:Sg}(ok:Ok J){id v s lo n N:Nat}{e:yb}{U:Dv}{xs:yL Pl}{u:yh}(hx:yH J (.rv id v s lo n) u)(hH:J.H[id]? =ab (.row v s af e U))(hN:aJ U s=ab N)(W:lo+n<=N)
 (hd:∀us,yG J U us->xs.length=N/\aT s xs/\ak J.w J.aV xs us):yH J (.p (.sl ad s ((xs.drop lo).take n))) u:=by
 obtain⟨A,c,rfl,h2,h3,h4,h5,v2,s2,st2,t,d2,h6,X,h8⟩:=jt hx;rw[hH]at h6;cases h6;obtain⟨_,Y⟩:=h8 rfl;have l:id < J.m.length:=by rw[ok.len];exact(yp.1 hH).1
 have f:J.m[id]? =ab J.m[id]:=yae l;obtain⟨N',x,y⟩:=ok.cA id _ _ hH f;rw[hN]at x;cases x;by_cases hn:n=0
 .subst hn;have:=Yp (J:=J) (nn:=ad) (s:=s) (xs:=[]) (A:=A) (c:=c) (λ_ hx=>by cases hx) (by simp) h3 (Yd _) h4 (λh=>absurd rfl h);simpa using this
 have hpos:0 < n:=Nat.pos_of_ne_zero hn;rcases Y with⟨_,_,T⟩|⟨b,E,F,k2,k3,k4⟩
 .omega
 rw[f]at F;rcases y with⟨G,_⟩|⟨b',cur',cap,G,I,g4,g5,g6,g7⟩
 .rw[G]at F;cases F
 rw[G]at F;cases F;rw[k2]at I;cases I;obtain⟨hxl,M,X⟩:=hd _ g7
 have g:xs=xs.take lo++((xs.drop lo).take n++xs.drop (lo+n)):=by
  have Z:xs.drop (lo+n)=(xs.drop lo).drop n:=by rw[List.drop_drop]
  rw[Z,ybk,ybk]
 rw[g]at X;obtain⟨q1,q23,Z,r1,r23⟩:=Yh X;obtain⟨q2,q3,rfl,r2,r3⟩:=Yh r23;have Q:aT s ((xs.drop lo).take n):=λz T=>M z (yde (ycc T));have ly:((xs.drop lo).take n).length=n:=by rw[yy,ybf,ybi (by omega)]
 have l1:q1.length=lo*s:=by rw[aG _ _ r1,aI (λz T=>M z (ycc T)),yy,ybi (by omega)]
 have S:=Yp (J:=J) (nn:=ad) (A:=A) (c:=c) Q (by rw[ly];exact h2) h3 (Yd _) h4 (λ_=>by
  refine⟨b,lo*s,q2,k4 (by omega),r2,λj u hu=>⟨?_,.inr (ok.own id b (by rw[f,G])),λj' e' g1 I=> ?_⟩⟩
  .rw[cell_of_row J.w b _ E e (0,0) k2, <-ybr];have hj:j < q2.length:=(yp.1 hu).1
   have t:(E.toList.take (N*s))[lo*s+j]? =ab u:=by
    rw[Z,yan (by omega),l1,Nat.add_sub_cancel_left,yaj hj];exact hu
   rw[ycg]at t;split at t
   .exact t
   .cases t
  .have:j'=id:=ok.inj j' id b g1 (by rw[f,G]);subst this;rw[hH]at I;cases I;refine⟨rfl,N,hN, ?_⟩;have hj:=(yp.1 hu).1;have l2:q2.length=n*s:=by rw[aG _ _ r2,aI Q,ly]
   have Y:(lo+n)*s<=N*s:=ycb _ W;rw[l2]at hj;rw[ybd]at Y;omega)
 rw[ly]at S;exact S
theorem ZG5{J:Sg}(ok:Ok J){id s lo n N:Nat}{xs:yL Pl}{u:yh}(hx:yH J (.view id 0 [] s lo n) u)(hH:J.H[id]? =ab (.var (.p (.arr N s xs)) af))(Z:lo+n<=N):yH J (.p (.sl (ab ae) s ((xs.drop lo).take n))) u:=by
 obtain⟨b,c,a,E,_,rfl,h2,h3,h4⟩:=mw hx;obtain⟨b',F,t',h5,h6,f,h8⟩:=ok.cA id _ _ hH E;cases h5;simp only[yG,aq]at f;obtain⟨hxl,g,f⟩:=f
 have e:xs=xs.take lo++((xs.drop lo).take n++xs.drop (lo+n)):=by
  have l:xs.drop (lo+n)=(xs.drop lo).drop n:=by rw[List.drop_drop]
  rw[l,ybk,ybk]
 rw[e]at f;obtain⟨U,q23,l,r1,G⟩:=Yh f;obtain⟨I,q3,rfl,r2,r3⟩:=Yh G;have M:aT s ((xs.drop lo).take n):=λz Q=>g z (yde (ycc Q));have S:((xs.drop lo).take n).length=n:=by rw[yy,ybf,ybi (by omega)]
 have l1:U.length=lo*s:=by rw[aG _ _ r1,aI (λz Q=>g z (ycc Q)),yy,ybi (by omega)]
 have t:=Yp (J:=J) (nn:=ab ae) (A:=ab a) (c:=c) M (by rw[S];exact h2) h3 (jV rfl) (λh=>by cases h) (λT=>by
  have x:0 < n:=by
   rcases ycu n with h0|h0
   .exact absurd (ybo (S.trans h0)) T
   .exact h0
  refine⟨b,0+lo*s,I,by rw[h4 x],r2,λj u W=>⟨?_,.inr (ok.own id b E),λX e' g1 Y=> ?_⟩⟩
  .rw[cell_of_row J.w b _ F t' (0,0) h6, <-ybr];have hj:j < I.length:=(yp.1 W).1
   have e3:∀m,F.toList.take m=U++(I++q3)->(F.toList.take m)[lo*s+j]? =ab u:=λm l=>by
    rw[l,yan (by omega),l1,Nat.add_sub_cancel_left,yaj hj];exact W
   have y:=e3 _ l;rw[ycg]at y;rw[yau];split at y
   .exact y
   .cases y
  .have:X=id:=ok.inj X id b g1 E;subst this;rw[hH]at Y;cases Y;rfl)
 rw[S]at t;exact t
theorem zL{J:Sg}(ok:Ok J){d:Dv}{x:Pl}(h:bp J.H d x):∀vs,yG J d vs->aq J.w J.aV x vs:=by
 induction h with
 |p x=>intro vs f;simpa[yG] using f
 |own id nn s Z=>
  intro vs f;have j:∃v,vs=[v]:=by simp only[yG]at f;obtain⟨_,A,c,rfl,_⟩:=f;exact⟨_,rfl⟩
  obtain⟨v,rfl⟩:=j;have:=nT ((Zg (by rfl)).2 f);rw[Zg (by rfl)]at this
  simpa[yG] using this
 |agg m h l=>
  intro vs f;simp only[yG]at f;simp only[aq]
  exact zC m l f
 |mI t g=>
  intro vs f;have j:∃v,vs=[v]:=by simp only[yG]at f;obtain⟨A,c,rfl,_⟩:=f;exact⟨_,rfl⟩
  obtain⟨v,rfl⟩:=j;have:=SH ok ((Zg (by rfl)).2 f) t (by simp[aJ]) g (λM h=>by simp only[yG,aq]at h;exact h);rw[Zg (by rfl)]at this
  simpa[yG] using this
 |qh t g m h l=>
  rename_i id v s lo n N e Q S;intro vs f;have j:∃v,vs=[v]:=by simp only[yG]at f;obtain⟨A,c,rfl,_⟩:=f;exact⟨_,rfl⟩
  obtain⟨v,rfl⟩:=j
  have:=SH (xs:=S) ok ((Zg (by rfl)).2 f) t (by simp[aJ]) g (λM h=>by
   simp only[yG]at h;obtain⟨T,U,F⟩:=h;refine⟨by rw[<-m];exact T, ?_,zC m l F⟩;intro y W;obtain⟨i,G⟩:=List.getElem?_of_mem W;have z:i < Q.length:=by rw[m];exact(yp.1 G).1
   have E:=yae z;obtain⟨a,b,c,e1,l1,I,_⟩:=kX F E;have X:=WR _ _ (l i _ y E G b I);have Y:=Wr _ _ I;rw[<-X,Y];exact U _ (List.mem_of_getElem? E))
  rw[Zg (by rfl)]at this
  simpa[yG] using this
 |vw t g=>
  intro vs f;have j:∃v,vs=[v]:=by simp only[yG]at f;obtain⟨b,c,a,_,_,rfl,_⟩:=f;exact⟨_,rfl⟩
  obtain⟨v,rfl⟩:=j;have:=ZG5 ok ((Zg (by rfl)).2 f) t g;rw[Zg (by rfl)]at this
  simpa[yG] using this
 |wk h k l=>intro vs f;exact k.cG _ _ _ (l vs f)
theorem SI{J:Sg}(ok:Ok J){d:Dv}{x:Pl}(h:bp J.H d x){v:yh}(f:yH J d v):yH J (.p x) v:=by
 have e:d.isAgg=x.isAgg:=by
  have c:∀{d:Dv}{x:Pl},bp J.H d x->d.isAgg=x.isAgg:=by
   intro d x h
   induction h with
   |p x=>rfl
   |own=>rfl
   |agg=>rfl
   |mI=>rfl
   |qh=>rfl
   |vw=>rfl
   |wk h k g=>rw[<-k.agg];exact g
  exact c h
 obtain⟨j,l⟩:=f;refine⟨λq=> ?_,λq=> ?_⟩
 .obtain⟨m,s,t⟩:=j (by rw[e];exact q);exact⟨m,s,by simp only[yG];exact zL ok h _ t⟩
 .simp only[yG];exact zL ok h _ (l (by rw[e];exact q))
inductive fm(H:List ar):Dv->Dv->Prop where
 |refl (d:Dv):fm H d d
 |deep {d:Dv} {x:Pl} (h:bp H d x):fm H d (.p x)
inductive fp(H:List ar):List Dv->List Dv->Prop where
 |nil:fp H [] []
 |cons {d e:Dv} {ds es:List Dv} (h:fm H d e) (k:fp H ds es):fp H (d::ds) (e::es)
theorem SJ{J:Sg}(ok:Ok J){d e:Dv}(h:fm J.H d e){v:yh}(c:yH J d v):yH J e v:=by
 cases h with
 |refl=>exact c
 |deep h=>exact SI ok h c
theorem ZG6{J:Sg}(ok:Ok J){e es:yL Dv}(h:fp J.H e es):∀{vs:yL yh},aB J e vs->aB J es vs:=by
 induction h with
 |nil=>intro vs h;exact h
 |cons h k g=>
  intro vs f;simp only[aB]at f ⊢;obtain⟨v,c,j,l,m⟩:=f;exact⟨v,c,j,SJ ok h l,g m⟩
inductive gI(H:List ar):Dv->Dv->Prop where
 |one {d e:Dv} (h:fm H d e):gI H d e
 |bf {ds es:List Dv} (h:fp H ds es):gI H (.bf ds) (.bf es)
theorem ZG7{P:yg}{g:yr}{args:yL Dv}{H H1 H':yL ar}{r r':Dv}(h:cF P g args H r H1)(hH:ca H1 H')(f:gI H' r r'):cF P g args H r' H':=by
 intro J vs l e m;refine Calls.mono (h J vs l e m) ?_;rintro e I ⟨v,J',s,t,x,y,z,A⟩;subst x;obtain⟨to,c⟩:=js z hH;have j:=Y5 to.leaf A;refine⟨v,{ J' with H:=H'},s,t,rfl,y.trans to,c, ?_⟩
 cases f with
 |one f=>exact SJ c f j
 |bf f=>
  rw[Zg rfl]at j ⊢;simp only[yG]at j ⊢;obtain⟨E,F,G⟩:=j;exact⟨E,F,ZG6 c f G⟩
end Go.Ev
end
