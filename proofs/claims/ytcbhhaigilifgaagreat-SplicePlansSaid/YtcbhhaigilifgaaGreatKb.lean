/- Parts of the proof, in one file. -/
import Derived.Test.YtcbhhaigilifgaaGreatKa
open Option renaming some → ab, none → ad
open Bool renaming true → ae, false → af
open Decidable renaming decide → ag
open Array renaming length_toList → ybu, toArray_toList → ycf, getElem?_toList → ycl, getElem?_eq_some_iff → ycv
open Bool renaming and_eq_true → yi
open Go renaming TypeId → yc, Program → yg, Value → yh, Oper → yj, Operand → yp, FuncId → yr, World → yy
open List renaming length_append → yl, getElem?_eq_some_iff → yu, replicate → yx, length_map → yaa, append_assoc → yab, length_take → yac, getElem?_eq_getElem → yad, map_cons → yag, length_cons → yah, getElem?_map → yak, getElem?_cons_succ → yaq, getElem?_append_right → yas, getElem?_cons_zero → yav, mem_cons_self → yay, mem_cons_of_mem → yaz, getElem?_append_left → ybd, mem_singleton → ybf, take_append_drop → ybg, eq_nil_of_length_eq_zero → ybh, getElem_of_mem → ybi, ext_getElem? → ybl, length_set → ybp, mem_of_getElem? → ybs, length_drop → ybt, mem_of_mem_take → ybw, mem_map → ybx, getElem?_set → yby, mem_cons → ycc, take_of_length_le → ycj, length_nil → ycn, getElem?_take → yct, mem_of_mem_drop → ycy
open Nat renaming le_refl → ym, zero_add → yax, min_eq_left → ybb, add_mul → ybc, mul_le_mul_right → ycb, add_zero → ych, eq_zero_or_pos → ycq
open Option renaming map_eq_some_iff → yv
open Option.some renaming injEq → yo, inj → ybq
open Prod.mk renaming injEq → yq
set_option linter.unusedVariables false
set_option linter.unusedSimpArgs false
section
namespace Go.Ev
theorem ZGe{xs:yL Pl}{i:Nat}{x y:Pl}(f:xs[i]? =ab x)(hs:y.size=x.size):Pl.sizes (xs.set i y)=Pl.sizes xs:=by
 rw[pi,pi,List.map_set,hs];congr 1;apply ybl;intro j;rw[yby];split
 .rename_i h;subst h;have:=(yu.1 f).1;rw[yak,f];simp[this]
 .rfl
theorem TE{xs:yL Dv}{i:Nat}{x y:Dv}(f:xs[i]? =ab x)(hs:y.size=x.size):Dv.sizes (xs.set i y)=Dv.sizes xs:=by
 rw[ph,ph,List.map_set,hs];congr 1;apply ybl;intro j;rw[yby];split
 .rename_i h;subst h;have:=(yu.1 f).1;rw[yak,f];simp[this]
 .rfl
theorem nK{α:Type}{xs:yL α}{i:Nat}{x y:α}(f:xs[i]? =ab x):xs.set i y=xs.take i++(y::xs.drop (i+1)):=by
 rw[List.set_eq_take_append_cons_drop,yW (yu.1 f).1]
theorem vc{α:Type}{Q:α->Prop}{xs:yL α}{i:Nat}{y:α}(h:∀x,x∈xs->Q x)(f:Q y):∀x,x∈xs.set i y->Q x:=by
 intro x g;rcases List.mem_or_eq_of_mem_set g with h1|h1
 .exact h x h1
 .rw[h1];exact f
theorem qV{J:Sg}:∀{xs:yL Pl}{us:yL yh},au J.w J.bh xs us->aM J (xs.map Dv.p) us
 |[],us,h=>by simpa[au,aM] using h
 |x::xs,us,h=>by
  simp only[au]at h;obtain⟨a,b,f,g,j⟩:=h;simp only[yag,aM];exact⟨a,b,f,by simpa[yH] using g,qV j⟩
theorem lh{J:Sg}:∀(yQ:yL Nat)(dd:Dv)(hs hs':yL ar)(C:yL Prop)(off:Nat)(sub:Dv)(us:yL yh),Z9 dd yQ hs=ab (C,off,sub,hs')->aZ C->yH J dd us->
 ∃x y z,us=x++(y++z)/\x.length=off/\yH J sub y/\∀new dd' y',WS new dd yQ hs=ab dd'->new.size=sub.size->yH J new y'->yH J dd' (x++(y'++z))/\dd'.size=dd.size
 |[],dd,hs,hs',C,off,sub,us,h,Y,B=>by
  simp only[Z9,yo,yq]at h;obtain⟨rfl,rfl,rfl,rfl⟩:=h;refine⟨[],us,[],by simp,rfl,B,λnew dd' y' g hs E=> ?_⟩;simp only[WS,yo]at g;subst g
  exact⟨by simpa using E,hs⟩
 |i::yQ,dd,hs,hs',C,off,sub,us,h,Y,B=>by
  cases dd with
  |p q=>
   cases q with
   |agg Z=>
    simp only[Z9]at h;split at h
    .rename_i x f;simp only[yv,yq]at h;obtain⟨⟨C1,F,G,Q⟩,h1,rfl,rfl,rfl,rfl⟩:=h;simp only[yH,aA]at B;obtain⟨j,p2,l,rfl,h2,h3,_,R,S⟩:=kW B f;obtain⟨m,q2,A,rfl,h4,h5,T⟩:=lh yQ (.p x) _ _ _ _ _ p2 h1 Y (by simpa[yH] using h3);refine⟨j++m,q2,A++l,by simp,by rw[yl,h2,h4],h5,λnew dd' y' g hs E=> ?_⟩;simp only[WS,f]at g;split at g
     .rename_i y X;cases g;obtain⟨I,M⟩:=T new _ y' X hs E;have k3:y.size=x.size:=by simpa[Dv.size] using M
      refine⟨?_,by simp only[Dv.size,Pl.size];exact ZGe f k3⟩;simp only[yH,aA];rw[nK f];have e:j++m++(y'++(A++l))=j++((m++(y'++A))++l):=by simp
      rw[e];refine Ym R ?_;simp only[au];exact⟨_,_,rfl,by simpa[yH] using I,S⟩
     .rename_i y X hne;cases g;obtain⟨I,M⟩:=T new _ y' hne hs E;have k3:y.size=x.size:=by simpa[Dv.size] using M
      have U:(Z.map Dv.p)[i]? =ab (.p x):=by rw[yak,f];rfl
      refine⟨?_,by
       simp only[Dv.size,Pl.size];rw[TE U k3,ph,pi,List.map_map];rfl⟩
      simp only[yH];rw[nK U];have e:j++m++(y'++(A++l))=j++((m++(y'++A))++l):=by simp
      rw[e, <-List.map_take, <-List.map_drop];refine qM (qV R) ?_;simp only[aM];exact⟨_,_,rfl,I,qV S⟩
     .cases g
    .cases h
   |arr n s Z=>
    simp only[Z9]at h;split at h
    .rename_i y Q;simp only[yv,yq]at h;obtain⟨⟨C1,F,G,Q⟩,h1,rfl,rfl,rfl,rfl⟩:=h;obtain⟨f,Y⟩:=Y;simp only[yH,aA]at B;obtain⟨hl,W,B⟩:=B;obtain⟨j,p2,l,rfl,h2,h3,_,R,S⟩:=kW B f;obtain⟨m,q2,A,rfl,h4,h5,T⟩:=lh yQ (.p y) _ _ _ _ _ p2 h1 Y (by simpa[yH] using h3);have hi:i < Z.length:=(yu.1 f).1;refine⟨j++m,q2,A++l,by simp,by rw[yl,h2,h4,aR (Qc W i),yac,ybb (Nat.le_of_lt hi)],h5,λnew dd' y' g hs E=> ?_⟩;simp only[WS]at g;split at g
     .rename_i z hz;cases g;obtain⟨I,M⟩:=T new _ y' hz hs E;have k3:z.size=y.size:=by simpa[Dv.size] using M
      have k4:z.size=s:=by rw[k3];exact W y (ybs f)
      refine⟨?_,rfl⟩;simp only[yH,aA];refine⟨by rw[ybp];exact hl,vc W (by rw[BD];exact k4), ?_⟩;rw[nK f];have e:j++m++(y'++(A++l))=j++((m++(y'++A))++l):=by simp
      rw[e];refine Ym R ?_;simp only[au];exact⟨_,_,rfl,(md z).df _ _ _ (by simpa[yH] using I),S⟩
     .rename_i z hz hne;cases g;obtain⟨I,M⟩:=T new _ y' hne hs E;have k3:z.size=y.size:=by simpa[Dv.size] using M
      have k4:z.size=s:=by rw[k3];exact W y (ybs f)
      have U:(Z.map Dv.p)[i]? =ab (.p y):=by rw[yak,f];rfl
      refine⟨?_,rfl⟩;simp only[yH]
      refine⟨by rw[ybp,yaa];exact hl,vc (λq hq=>by
       obtain⟨q',hq',rfl⟩:=ybx.1 hq;exact W q' hq') k4, ?_⟩
      rw[nK U];have e:j++m++(y'++(A++l))=j++((m++(y'++A))++l):=by simp
      rw[e, <-List.map_take, <-List.map_drop];refine qM (qV R) ?_;simp only[aM];exact⟨_,_,rfl,I,qV S⟩
     .cases g
    .cases h
   |_=>simp[Z9]at h
  |agg Z=>
   simp only[Z9]at h;split at h
   .rename_i x f;simp only[yv,yq]at h;obtain⟨⟨C1,F,G,Q⟩,h1,rfl,rfl,rfl,rfl⟩:=h;simp only[yH]at B;obtain⟨j,p2,l,rfl,h2,h3,_,R,S⟩:=mc B f;obtain⟨m,q2,A,rfl,h4,h5,T⟩:=lh yQ x _ _ _ _ _ p2 h1 Y h3;refine⟨j++m,q2,A++l,by simp,by rw[yl,h2,h4],h5,λnew dd' y' g hs E=> ?_⟩;simp only[WS,f,yv]at g;obtain⟨y,X,rfl⟩:=g;obtain⟨I,M⟩:=T new _ y' X hs E;refine⟨?_,by simp only[Dv.size];exact TE f M⟩;simp only[yH];rw[nK f];have e:j++m++(y'++(A++l))=j++((m++(y'++A))++l):=by simp
    rw[e];refine qM R ?_;simp only[aM];exact⟨_,_,rfl,I,S⟩
   .cases h
  |arr n s Z=>
   simp only[Z9]at h;split at h
   .rename_i x f;simp only[yv,yq]at h;obtain⟨⟨C1,F,G,Q⟩,h1,rfl,rfl,rfl,rfl⟩:=h;simp only[yH]at B;obtain⟨hl,W,B⟩:=B;obtain⟨j,p2,l,rfl,h2,h3,_,R,S⟩:=mc B f;obtain⟨m,q2,A,rfl,h4,h5,T⟩:=lh yQ x _ _ _ _ _ p2 h1 Y h3;have hi:i < Z.length:=(yu.1 f).1;refine⟨j++m,q2,A++l,by simp,by rw[yl,h2,h4,cU (λy X=>W y (ybw X)),yac,ybb (Nat.le_of_lt hi)],h5,λnew dd' y' g hs E=> ?_⟩;simp only[WS,f,yv]at g;obtain⟨y,X,rfl⟩:=g;obtain⟨I,M⟩:=T new _ y' X hs E;refine⟨?_,rfl⟩;simp only[yH];refine⟨by rw[ybp];exact hl,vc W (by rw[M];exact W x (ybs f)), ?_⟩;rw[nK f];have e:j++m++(y'++(A++l))=j++((m++(y'++A))++l):=by simp
    rw[e];refine qM R ?_;simp only[aM];exact⟨_,_,rfl,I,S⟩
   .cases h
  |_=>simp[Z9]at h
section
variable{P:yg}{o:yj}{a:Act}{J:Sg}{ts:yL Dv}{hs hs':yL ar}{C:yL Prop}{d:Dv}
theorem qW{J':Sg}(f:(execOp a.eval o).run P J.w=.ok .skip J'.w)(to:To J J')(ok:Ok J'):YZ P o a J .ak J'.H:=by
 intro K Q h;unfold Oper.wp;rw[f];exact h undef J' rfl to ok YG
theorem TF{v:Dv}{u:yh}(f:yJ J v u):yJ J v.cO u:=by
 unfold Dv.cO;split
 .rename_i x g;exact AY g f
 .exact f
theorem TG{yQ:yL Nat}{dd v new:Dv}{u:yh}(h:jc yQ dd v=ab new)(f:yJ J v u):yJ J new u:=by
 unfold jc at h;split at h
 .cases h;exact TF f
 .split at h
  .cases h;exact TF f
  .cases h;exact f
theorem pn{x y z y':yL yh}{cs:Array yh}{n:Nat}(h:cs.toList.take n=x++(y++z))(hl:y'.length=y.length)(A:n<=cs.size):
 (cs.toList.take x.length++y'++cs.toList.drop (x.length+y'.length)).take n=x++(y'++z)/\(cs.toList.take x.length++y'++cs.toList.drop (x.length+y'.length)).length=cs.size:=by
 have g:n=x.length+(y.length+z.length):=by
  have:=congrArg List.length h;simp only[yac,ybu,yl]at this;omega
 have e:cs.toList=x++(y++z)++cs.toList.drop n:=by rw[<-h,ybg]
 have j:cs.toList.take x.length=x:=by rw[e];simp
 have l:cs.toList.drop (x.length+y'.length)=z++cs.toList.drop n:=by
  have m:cs.toList=(x++y)++(z++cs.toList.drop n):=by
   have:x++y++(z++cs.toList.drop n)=x++(y++z)++cs.toList.drop n:=by simp
   rw[this];exact e
  have f:x.length+y'.length=(x++y).length:=by rw[yl,hl]
  rw[f];have:=congrArg (List.drop (x++y).length) m;rw[List.drop_left]at this;exact this
 rw[j,l];constructor
 .have:x++y'++(z++cs.toList.drop n)=(x++(y'++z))++cs.toList.drop n:=by simp
  rw[this,g];have f:x.length+(y.length+z.length)=(x++(y'++z)).length:=by simp[hl]
  rw[f];exact List.take_left
 .simp only[yl,ybt,ybu];omega
theorem ZK8(ok:Ok J)(yM:aB J ts a){t:yc}{x y:yp}{id off:Nat}{yQ:yL Nat}{dd sub new dd':Dv}{C1:yL Prop}{off':Nat}(ho:o.op=.store t x y)(hx:aC P ts 0 x=.aj id off yQ)
 (hH:J.H[id]? =ab (.var dd ae)) (hg:Z9 dd yQ hs=ab (C1,off',sub,hs')) (hc:aZ C1) (he:off'=off) (hn:jc yQ dd (aC P ts t y)=ab new) (hp:WS new dd yQ hs=ab dd')
 (z:new.bG=ae) (hsz:new.size=sub.size) (ht:P.cellsOf t=new.size) (hi:(P.info? t).isSome=ae):YZ P o a J .ak (J.H.set id (.var dd' ae)):=by
 subst he;have l:=Zo (P:=P) yM 0 x;have S:=TG hn (Zo (P:=P) yM t y);rw[hx]at l;obtain⟨b,hm,hv,l⟩:=lc l;obtain⟨b',B,R,h1,h2,h3,h4⟩:=ok.dx id _ _ hH hm;cases h1;obtain⟨p1,p2,p3,h5,h6,h7,h8⟩:=lh yQ dd hs hs' C1 off' sub _ hg hc h3;have f:=V7 z S;obtain⟨h9,E⟩:=h8 new dd' _ hp hsz f;have F:(a.eval y).cells.toList.length=new.size:=X2 _ _ f;have T:p2.length=sub.size:=X2 _ _ h7;have U:(a.eval y).cells.toList.length=p2.length:=by rw[F,T,hsz]
 obtain⟨k1,k2⟩:=pn h5 U h4;rw[h6]at k1 k2
 have W:off'+(a.eval y).cells.toList.length<=B.size:=by
  have:=congrArg List.length h5;simp only[yac,ybu,yl]at this;omega
 have G:∀u,u∈(a.eval y).cells.toList->u.oneCell'=ae:=qQ new _ z f;have I:=run_storeCells_at P b off' R (a.eval y).cells.toList 0 B J.w h2 (by simpa using W) G;simp only[ych]at I;let g:Array yh:=(B.toList.take off'++(a.eval y).cells.toList++B.toList.drop (off'+(a.eval y).cells.toList.length)).toArray;let J':Sg:={ J with m:=J.m.set id (ab b),H:=J.H.set id (.var dd' ae),w:=J.w.setRow b g};have zV:J'.w.heap[b]? =ab (.cells g R (0,0)):=setRow_heap J.w b B _ R _ h2;have M:∀j,b≠j->J'.w.heap[j]? =J.w.heap[j]? :=λj hj=>setRow_other J.w b j _ (Ne.symm hj)
 obtain⟨to,X⟩:=Xy (J':=J') (mi:=ab b) (mi':=ab b) ok hH hm rfl rfl rfl rfl rfl rfl rfl (by simp[J'])
  (λj hj Y=>M j (λhh=>Y (by rw[hh]))) (λb' o v _ Z _=>by cases Z) (λo _ Z=>by cases Z) (.inl rfl) (λ_=>⟨rfl,dd',ae,rfl⟩) (λ⟨d,st,h⟩=>by cases h)
  (λs e xs h=>by cases h) (λQ=>⟨b,g,R,rfl,zV,by rw[E];show yH J' dd' (g.toList.take dd.size);rw[show g.toList.take dd.size=p1++((a.eval y).cells.toList++p3) from k1];exact Yb Q dd' _ h9,by
    rw[E];show dd.size<=g.size;have:g.size=B.size:=k2;omega⟩)
 refine qW (J':=J') ?_ to X
 cases A:P.info? t with
 |none=>simp[A]at hi
 |some i=>
  have hs:(a.eval y).cells.size=i.size:=by
   rw[<-ybu,F, <-ht];simp[Program.cellsOf,A]
  simp only[execOp,ho,l,Instr.storeAt,Instr.sureAddr,storeVar,sizeOf,typeInfo,Sem.run_bind,run_program,Result.andThen_ok,A,Sem.run_pure,hs,ne_eq,not_true,if_false,I];rfl
theorem TH(ok:Ok J)(M:aB J ts a){t e:yc}{x:yp}{lo hi:yO yp}{id off n s:Nat}{yQ:yL Nat}{dd:Dv}{st:Bool}{xs:yL Pl}{C1:yL Prop}{off':Nat}{l r:yO Int}
 (ho:o.op=.slice t x lo hi ad) (hu:P.underlying t=ab (.array n e)) (hx:aC P ts t x=.aj id off yQ) (hl:go P ts lo=ab l) (hr:go P ts hi=ab r)
 (hH:J.H[id]? =ab (.var dd st)) (hg:Z9 dd yQ hs=ab (C1,off',.p (.arr n s xs),hs')) (hc:aZ C1) (he:off'=off) (hce:P.cellsOf e=s) (Q:(P.info? e).isSome=ae) (R:n<=maxLen)
 (y:aZ (Xd n l r)):YZ P o a J (.p (.sl (ab ae) s (Qb xs l r))) (J.H.set id (.var dd af)):=by
 have f:=Zo (P:=P) M t x;rw[hx]at f;obtain⟨b,I,hv,f⟩:=lc f;obtain⟨cs,t',p1,W,p3,h2,h4,h5,h6,X,h3,h8⟩:=vb ok I hH hg hc he;simp only[yH,aA]at X;obtain⟨h9,T,U⟩:=X;subst h9;let J':Sg:={ J with m:=J.m.set id (ab b),H:=J.H.set id (.var dd af)};have z:J'.m[id]? =ab (ab b):=an I;have B:J'.H[id]? =ab (.var dd af):=an hH
 obtain⟨to,F⟩:=Xy (J':=J') (mi:=ab b) (mi':=ab b) ok hH I rfl rfl rfl rfl rfl rfl rfl (ym _)
  (λ_ _ _=>rfl) (λ_ _ _ _ _ h=>h) (λo _ hu=>rfl) (.inl rfl) (λ_=>⟨rfl,dd,af,rfl⟩) (λ⟨d,st,h⟩=>by cases h)
  (λs e xs h=>by cases h) (λG=>⟨b,cs,t',rfl,h2,Yb G dd _ h3,h4⟩)
 have g:W9 J'.w J'.bh b off W:=λj u hu=>by
  refine⟨h8 j u hu,.inr (ok.own id b I),λY e' g1 Z=> ?_⟩;have:Y=id:=F.inj Y id _ g1 z;subst this;rw[B]at Z;cases Z;rfl
 obtain⟨p,q,hb,k1,k2,rfl,rfl⟩:=nE (P:=P) (w:=J.w) af xs.length xs.length _ _ _ _ (YM M hl) (YM M hr) y (ym _);obtain⟨j1,j2,j3,j4,j5,j6,j7⟩:=uS (A:=ab ⟨b,off,ad⟩) (w:=J'.w) (S:=J'.bh) T (ym _) R (λhA=>by cases hA) (λ_=>⟨b,off,W,rfl,aD to.leaf.cells _ _ U,g⟩) k1 k2
 have zB:(Instr.sliceAt t (a.eval x) (lo.map a.eval) (hi.map a.eval) ad).run P J.w=.ok (.slice (ab (if xs.length=(l.getD 0).toNat then(⟨b,off,ad⟩:Addr) else(⟨b,off,ad⟩:Addr).add ((l.getD 0).toNat*s))) ((r.getD (xs.length:Int)).toNat - (l.getD 0).toNat) (xs.length - (l.getD 0).toNat)) J.w:=by
  rw[f];simp[Instr.sliceAt,Instr.sureAddr,run_underlying hu,hb,Z3 Q,hce]
 have E:(execOp a.eval o).run P J.w=.ok (.value (.slice (ab (if xs.length=(l.getD 0).toNat then(⟨b,off,ad⟩:Addr) else(⟨b,off,ad⟩:Addr).add ((l.getD 0).toNat*s))) ((r.getD (xs.length:Int)).toNat - (l.getD 0).toNat) (xs.length - (l.getD 0).toNat))) J'.w:=by
  show _=Result.ok _ J.w;simp only[execOp,ho,Option.map_none,Sem.run_bind,zB,Result.andThen_ok,Sem.run_pure]
 refine ZS E to F ?_;rw[uT xs l r y];have:=YH (J:=J') j1 (by rw[j2];exact j3) j4 (kR j5) j6 j7;rw[j2]at this;simpa[apply_ite] using this
end
theorem ve:∀{ids:yL Nat},once ids=ae->∀(i j id:Nat),ids[i]? =ab id->ids[j]? =ab id->i=j
 |[],_,i,j,id,h,_=>by simp at h
 |x::r,l,i,j,id,f,g=>by
  simp only[once,yi,Bool.not_eq_true']at l;have m:x ∉ r:=by simpa using l.1
  cases i with
  |zero=>
   cases j with
   |zero=>rfl
   |succ j=>
    simp only[yav,yo]at f;simp only[yaq]at g;subst f
    exact absurd (ybs g) m
  |succ i=>
   cases j with
   |zero=>
    simp only[yav,yo]at g;simp only[yaq]at f;subst g
    exact absurd (ybs f) m
   |succ j=>
    simp only[yaq]at f g;rw[ve l.2 i j id f g]
theorem cv{ids:yL Nat}{id j:Nat}(h:ids.idxOf? id=ab j):ids[j]? =ab id:=by
 induction ids generalizing j with
 |nil=>simp at h
 |cons x r f=>
  rw[List.idxOf?_cons]at h;split at h
  .rename_i g;cases h;have:x=id:=by simpa using g
   simp[this]
  .simp only[yv]at h;obtain⟨k,l,rfl⟩:=h;simpa using f l
theorem cR{ids:yL Nat}(ho:once ids=ae){id j:Nat}(h:ids[j]? =ab id):ids.idxOf? id=ab j:=by
 cases f:ids.idxOf? id with
 |none=>
  rw[List.idxOf?_eq_none_iff]at f
  exact absurd (ybs h) f
 |some k=>rw[ve ho k j id (cv f) h]
theorem BO{α:Type}:∀(H:yL α)(ids:yL Nat)(Hb:yL α),ids.length<=Hb.length->(aw H ids Hb).length=H.length+(Hb.length - ids.length)
 |H,[],Hb,_=>by simp[aw]
 |H,id::r,[],h=>by simp at h
 |H,id::r,e::Hb,h=>by
  simp only[yah]at h;rw[aw,BO _ r Hb (by omega),ybp];simp
theorem qX{α:Type}:∀(H:yL α)(ids:yL Nat)(Hb:yL α)(i:Nat),ids.length<=Hb.length->i < H.length->i ∉ ids->(aw H ids Hb)[i]? =H[i]?
 |H,[],Hb,i,_,f,_=>by simp only[aw];rw[ybd f]
 |H,id::r,[],i,h,_,_=>by simp at h
 |H,id::r,e::Hb,i,h,f,g=>by
  simp only[yah]at h;simp only[ycc,not_or]at g;rw[aw,qX _ r Hb i (by omega) (by simpa using f) g.2,yby,yX (Ne.symm g.1)]
theorem vf{α:Type}:∀(H:yL α)(ids:yL Nat)(Hb:yL α)(j id:Nat),once ids=ae->ids.length<=Hb.length->(∀i,i∈ids->i < H.length)->ids[j]? =ab id->(aw H ids Hb)[id]? =Hb[j]?
 |H,[],Hb,j,id,_,_,_,h=>by simp at h
 |H,x::r,[],j,id,_,h,_,_=>by simp at h
 |H,x::r,e::Hb,j,id,l,m,f,h=>by
  simp only[once,yi,Bool.not_eq_true']at l;have y:x ∉ r:=by simpa using l.1
  simp only[yah]at m;rw[aw]
  cases j with
  |zero=>
   simp only[yav,yo]at h;subst h;have g:x < H.length:=f x (yay ..);rw[qX _ r Hb x (by omega) (by simpa using g) y]
   simp[g]
  |succ j=>
   simp only[yaq]at h ⊢;exact vf _ r Hb j id l.2 (by omega) (λi z=>by rw[ybp];exact f i (yaz _ z)) h
theorem vg{α:Type}:∀(H:yL α)(ids:yL Nat)(Hb:yL α)(j:Nat),ids.length<=Hb.length->ids.length<=j->(aw H ids Hb)[H.length+(j - ids.length)]? =Hb[j]?
 |H,[],Hb,j,_,_=>by
  simp only[aw,ycn,Nat.sub_zero];rw[yas (by omega)]
  simp
 |H,id::r,[],j,h,_=>by simp at h
 |H,id::r,e::Hb,j,h,f=>by
  simp only[yah]at h f
  cases j with
  |zero=>omega
  |succ j=>
   rw[aw];have:=vg (H.set id e) r Hb j (by omega) (by omega);rw[ybp]at this;simp only[yah,yaq];rw[<-this];congr 1;omega
theorem Q8{H:yL aq}{all:yL Nat}:∀{ids:yL Nat}{Hin:yL aq},aN H all ids=ab Hin->Hin.length=ids.length
 |[],Hin,h=>by simp only[aN,yo]at h;subst h;rfl
 |id::r,Hin,h=>by
  simp only[aN]at h;split at h
  .rename_i e g _ f;cases h;simp[Q8 f]
  .cases h
theorem Q9{H:yL aq}{all:yL Nat}:∀{ids:yL Nat}{Hin:yL aq}{j id:Nat},aN H all ids=ab Hin->ids[j]? =ab id->
 ∃e g,H[id]? =ab e/\Hin[j]? =ab g/\e.rn (bg all)=ab g
 |[],Hin,j,id,_,f=>by simp at f
 |x::r,Hin,j,id,h,f=>by
  simp only[aN]at h;split at h
  .rename_i e B l m;cases h
   cases j with
   |zero=>
    simp only[yav,yo]at f;subst f;simp only[Option.bind_eq_some_iff]at l;obtain⟨y,z,A⟩:=l
    exact⟨y,e,z,rfl,A⟩
   |succ j=>
    simp only[yaq]at f ⊢;exact Q9 m f
  .cases h
theorem TI{f:Nat->yO Nat}:∀{H Hb:yL aq},aq.bB f H=ab Hb->Hb.length=H.length
 |[],Hb,h=>by simp only[aq.bB,yo]at h;subst h;rfl
 |e::H,Hb,h=>by
  simp only[aq.bB]at h;split at h
  .rename_i y j _ g;cases h;simp[TI g]
  .cases h
theorem vh{f:Nat->yO Nat}:∀{H Hb:yL aq}{j:Nat}{e:aq},aq.bB f H=ab Hb->H[j]? =ab e->∃l,Hb[j]? =ab l/\e.rn f=ab l
 |[],Hb,j,e,_,g=>by simp at g
 |x::H,Hb,j,e,h,g=>by
  simp only[aq.bB]at h;split at h
  .rename_i y A m z;cases h
   cases j with
   |zero=>
    simp only[yav,yo]at g;subst g
    exact⟨y,rfl,m⟩
   |succ j=>
    simp only[yaq]at g ⊢;exact vh z g
  .cases h
theorem TJ{f:Nat->yO Nat}{d d':Dv}{s:Nat}(h:d.rn f=ab d'):aS d' s=aS d s:=by
 cases d with
 |p x=>simp only[Dv.rn,yo]at h;subst h;rfl
 |arr n t j=>simp only[Dv.rn,yv]at h;obtain⟨g,_,rfl⟩:=h;rfl
 |elem x=>simp only[Dv.rn,yo]at h;subst h;rfl
 |ak=>simp only[Dv.rn,yo]at h;subst h;rfl
 |_=>simp only[Dv.rn,yv]at h;obtain⟨g,_,rfl⟩:=h;rfl
theorem BP{f:Nat->yO Nat}{e g:aq}{o:Nat}(h:e.rn f=ab g):g.bw o↔e.bw o:=by
 cases e with
 |var d st=>
  simp only[aq.rn,yv]at h;obtain⟨j,_,rfl⟩:=h
  exact Iff.rfl
 |log s t l=>simp only[aq.rn,yo]at h;subst h;exact Iff.rfl
 |map t bU=>simp only[aq.rn,yo]at h;subst h;exact Iff.rfl
 |row v s st e d=>
  simp only[aq.rn,yv]at h;obtain⟨j,h,rfl⟩:=h
  simp only[aq.bw,TJ h]
 |gone=>simp only[aq.rn,yo]at h;subst h;exact Iff.rfl
theorem BQ{f:Nat->yO Nat}{J J':Sg}(h:Rn f J J'){a:yO Nat}{e R:aq}(he:e.rn f=ab R)(m:dw J a e):dw J' a R:=by
 cases e with
 |var d st=>
  simp only[aq.rn,yv]at he;obtain⟨G,F,rfl⟩:=he;obtain⟨b,S,t,rfl,g,y,z⟩:=m;have hs:=(kX d G F).1
  exact⟨b,S,t,rfl,by rw[h.w];exact g,by rw[hs];exact kY h d G _ F y,by rw[hs];exact z⟩
 |log s t T=>
  simp only[aq.rn,yo]at he;subst he;rcases m with⟨rfl,g⟩|⟨b,A,B,rfl,g,y,z,I,M,U⟩
  .exact .inl ⟨rfl,g⟩
  .exact .inr ⟨b,A,B,rfl,by rw[h.w];exact g,y,z,I,M,aD h.cells T _ U⟩
 |map t bU=>
  simp only[aq.rn,yo]at he;subst he;obtain⟨b,j,E,rfl,g,y,z⟩:=m;refine⟨b,j,E,rfl,by rw[h.w];exact g, ?_,z⟩
  have Q:∀(l:yL (Pl×Pl))(j:yL MapEntry),io J l j->io J' l j:=by
   intro l
   induction l with
   |nil=>intro j k;cases j <;> exact k
   |cons q r W=>
    intro j k
    cases j with
    |nil=>exact k
    |cons e j=>exact⟨kZ h rfl k.1,kZ h rfl k.2.1,W j k.2.2⟩
  obtain⟨X,p,Y,y⟩:=y
  exact⟨X,p,Y,Q _ _ y⟩
 |row v s st e d=>
  simp only[aq.rn,yv]at he;obtain⟨G,F,rfl⟩:=he;obtain⟨N,Z,g⟩:=m;refine⟨N,by rw[TJ F];exact Z, ?_⟩;rcases g with g|⟨b,A,B,rfl,g,y,z,I,M⟩
  .exact .inl g
  .exact .inr ⟨b,A,B,rfl,by rw[h.w];exact g,y,z,I,kY h d G _ F M⟩
 |gone=>simp only[aq.rn,yo]at he;subst he;trivial
section
variable{P:yg}{o:yj}{a:Act}{J:Sg}{ts:yL Dv}
def callee(J:Sg)(ids:yL Nat)(Hin:yL aq):Sg:=
 { F:=J.bh,B:=λb=>J.w.heap.size<=b\/∃j:Nat,(ids.map λid=>(J.m[id]?).getD ad)[j]? =ab (ab b),m:=ids.map λid=>(J.m[id]?).getD ad,H:=Hin,w:=J.w}
theorem TK{ids:yL Nat}{Hin:yL aq}{j id:Nat}{x:yO Nat}(h:ids[j]? =ab id)(hm:J.m[id]? =ab x):(callee J ids Hin).m[j]? =ab x:=by
 show(ids.map λid=>(J.m[id]?).getD ad)[j]? =ab x;rw[yak,h];simp[hm]
theorem WT{ids:yL Nat}{Hin:yL aq}{j b:Nat}(h:(callee J ids Hin).m[j]? =ab (ab b)):∃id,ids[j]? =ab id/\J.m[id]? =ab (ab b):=by
 have g:(ids.map λid=>(J.m[id]?).getD ad)[j]? =ab (ab b):=h;rw[yak]at g;obtain⟨id,y,f⟩:=yv.1 g;refine⟨id,y, ?_⟩
 cases l:J.m[id]? with
 |none=>rw[l]at f;cases f
 |some x=>rw[l]at f;simp at f;rw[f]
theorem BR(ok:Ok J){ids:yL Nat}{Hin:yL aq}(ho:once ids=ae)(hin:aN J.H ids ids=ab Hin):Rn (bg ids) J (callee J ids Hin) where
 w:=rfl
 bh b o v _ h:=by
  refine⟨.inl h,λj e hj he=> ?_⟩;obtain⟨id,h1,h2⟩:=WT hj;obtain⟨e0,e',h3,h4,h5⟩:=Q9 hin h1;have he':Hin[j]? =ab e:=he;rw[h4]at he';cases he';exact(BP h5).2 (h.2 id e0 h2 h3)
 m id j hj x hx:=TK (cv hj) hx
 H id j hj e he:=by
   obtain⟨e0,e',h3,h4,h5⟩:=Q9 hin (cv hj);rw[he]at h3;cases h3;exact⟨e',h4,h5⟩
theorem ZGf(ok:Ok J){ids:yL Nat}{Hin:yL aq}(ho:once ids=ae)(hin:aN J.H ids ids=ab Hin):Ok (callee J ids Hin) where
 len:=by
  show(ids.map _).length=Hin.length;rw[yaa,Q8 hin]
 inj i j b hi hj:=by
  obtain⟨x,h1,h2⟩:=WT hi;obtain⟨y,h3,h4⟩:=WT hj;have:=ok.inj x y b h2 h4;subst this;exact ve ho i j x h1 h3
 lt i b hi:=by
  obtain⟨x,h1,h2⟩:=WT hi;exact ok.lt x b h2
 dx i e x he hx:=by
  have he':Hin[i]? =ab e:=he;have hi:i < ids.length:=by rw[<-Q8 hin];exact(yu.1 he').1
  obtain⟨e0,e',h3,h4,h5⟩:=Q9 hin (yad hi);rw[he']at h4;cases h4
  have hm:∃y,J.m[ids[i]]? =ab y:=by
   have:ids[i] < J.m.length:=by rw[ok.len];exact(yu.1 h3).1
   exact⟨_,yad this⟩
  obtain⟨y,hy⟩:=hm;have:=TK (Hin:=Hin) (yad hi) hy;rw[hx]at this;cases this;exact BQ (BR ok ho hin) h5 (ok.dx _ _ _ h3 hy)
 new b hb:=.inl hb
 own i b hi:=.inr ⟨i,hi⟩
end
end Go.Ev
end
section
namespace Go.Ev
section
variable{P:yg}{o:yj}{a:Act}{J:Sg}{ts:yL Dv}
def mf(J:Sg)(ids:yL Nat)(Hb:yL aq)(τ:Sg):Sg:=
 { F:=J.F,B:=J.B,m:=aw J.m ids τ.m,H:=aw J.H ids Hb,w:=τ.w}
theorem ZGg(ok:Ok J){ids:yL Nat}{Hin Hb:yL aq}{τ:Sg}(ho:once ids=ae)(hin:aN J.H ids ids=ab Hin)(to:To (callee J ids Hin) τ)(okτ:Ok τ)(hle:ids.length<=τ.H.length)
 (hb:aq.bB (aU ids J.H.length) τ.H=ab Hb):
 To J (mf J ids Hb τ)/\Ok (mf J ids Hb τ)/\Rn (aU ids J.H.length) τ (mf J ids Hb τ):=by
 have hbl:Hb.length=τ.H.length:=TI hb;have hml:τ.m.length=τ.H.length:=okτ.len
 have hidl:∀i,i∈ids->i < J.H.length:=by
  intro i G;obtain⟨j,y,rfl⟩:=ybi G;obtain⟨e0,_,h3,_⟩:=Q9 hin (yad y);exact(yu.1 h3).1
 have hidm:∀i,i∈ids->i < J.m.length:=λi G=>by rw[ok.len];exact hidl i G
 have mo:∀id,id < J.H.length->id ∉ ids->(aw J.m ids τ.m)[id]? =J.m[id]? :=λid h1 g=>qX _ _ _ _ (by omega) (by rw[ok.len];exact h1) g;have Ho:∀id,id < J.H.length->id ∉ ids->(aw J.H ids Hb)[id]? =J.H[id]? :=λid h1 g=>qX _ _ _ _ (by omega) h1 g;have ma:∀(j id:Nat),ids[j]? =ab id->(aw J.m ids τ.m)[id]? =τ.m[j]? :=λj id h=>vf _ _ _ _ _ ho (by omega) hidm h;have Ha:∀(j id:Nat),ids[j]? =ab id->(aw J.H ids Hb)[id]? =Hb[j]? :=λj id h=>vf _ _ _ _ _ ho (by omega) hidl h;have mn:∀j,ids.length<=j->(aw J.m ids τ.m)[J.H.length+(j - ids.length)]? =τ.m[j]? :=λj h=>by rw[<-ok.len];exact vg _ _ _ _ (by omega) h
 have Hn:∀j,ids.length<=j->(aw J.H ids Hb)[J.H.length+(j - ids.length)]? =Hb[j]? :=λj h=>vg _ _ _ _ (by omega) h
 have W:∀id,id < J.H.length+(τ.H.length - ids.length)->(id < J.H.length/\id ∉ ids)\/(∃j:Nat,ids[j]? =ab id)\/(∃j:Nat,ids.length<=j/\id=J.H.length+(j - ids.length)):=by
  intro id h;by_cases h1:id < J.H.length
  .by_cases g:id∈ids
   .obtain⟨j,y,rfl⟩:=ybi g;exact .inr (.inl ⟨j,yad y⟩)
   .exact .inl ⟨h1,g⟩
  .exact .inr (.inr ⟨ids.length+(id - J.H.length),by omega,by omega⟩)
 have T:(aw J.m ids τ.m).length=J.H.length+(τ.H.length - ids.length):=by rw[BO _ _ _ (by omega),ok.len,hml]
 have f:∀(j id:Nat),ids[j]? =ab id->aU ids J.H.length j=ab id:=λj id h=>by
  have y:j < ids.length:=(yu.1 h).1;unfold aU;rw[yW y,h]
 have fromNew:∀j,ids.length<=j->aU ids J.H.length j=ab (J.H.length+(j - ids.length)):=λj h=>by
  unfold aU;rw[yX (by omega)]
 have back:∀(id b:Nat),(aw J.m ids τ.m)[id]? =ab (ab b)->(id < J.H.length/\id ∉ ids/\J.m[id]? =ab (ab b))\/(∃j:Nat,aU ids J.H.length j=ab id/\τ.m[j]? =ab (ab b)/\(aw J.H ids Hb)[id]? =Hb[j]?):=by
  intro id b h;have z:id < J.H.length+(τ.H.length - ids.length):=by rw[<-T];exact(yu.1 h).1
  rcases W id z with⟨h1,g⟩|⟨j,h1⟩|⟨j,h1,rfl⟩
  .exact .inl ⟨h1,g,by rw[<-mo id h1 g];exact h⟩
  .exact .inr ⟨j,f j id h1,by rw[<-ma j id h1];exact h,Ha j id h1⟩
  .exact .inr ⟨j,fromNew j h1,by rw[<-mn j h1];exact h,Hn j h1⟩
 have X:∀(id b:Nat),id ∉ ids->J.m[id]? =ab (ab b)->τ.w.heap[b]? =J.w.heap[b]? :=λid b h1 g=>
  to.block b (ok.lt id b g) (λj y=>by
    obtain⟨Q,h3,h4⟩:=WT y;have:=ok.inj id Q b g h4;subst this;exact h1 (ybs h3))
 have M:∀(j b:Nat),τ.m[j]? =ab (ab b)->(∃id,ids[j]? =ab id/\J.m[id]? =ab (ab b))\/J.w.heap.size<=b:=by
  intro j b h;rcases to.same j b h with h1|h1
  .exact .inl (WT h1)
  .exact .inr h1
 have Y:∀b o v,τ.w.cell? ⟨b,o,ad⟩=ab v->τ.bh b o->(mf J ids Hb τ).bh b o:=by
  intro b o v hcell h;have hB:τ.B=(callee J ids Hin).B:=to.B;have hF:τ.F=(callee J ids Hin).F:=to.F
  have hfirst:J.bh b o\/J.B b:=by
   rcases h.1 with h1|h1
   .rw[hF]at h1;exact .inl h1
   .rw[hB]at h1;rcases h1 with h1|⟨j,y⟩
    .exact .inr (ok.new b h1)
    .obtain⟨id,_,h3⟩:=WT (J:=J) (Hin:=Hin) y;exact .inr (ok.own id b h3)
  refine⟨?_,λid e hid he=> ?_⟩
  .rcases hfirst with h1|h1
   .exact h1.1
   .exact .inr h1
  .have hid':(aw J.m ids τ.m)[id]? =ab (ab b):=hid;have R:(aw J.H ids Hb)[id]? =ab e:=he;rcases back id b hid' with⟨h1,g,h3⟩|⟨j,h1,g,h3⟩
   .rw[Ho id h1 g]at R;have hbs:=ok.lt id b h3;rcases h.1 with h4|h4
    .rw[hF]at h4;exact h4.2 id e h3 R
    .rw[hB]at h4;rcases h4 with h4|⟨j,y⟩
     .omega
     .obtain⟨Q,I,Z⟩:=WT (J:=J) (Hin:=Hin) y;have:=ok.inj id Q b h3 Z;subst this;exact absurd (ybs I) g
   .rw[h3]at R;have y:j < τ.H.length:=by rw[<-hbl];exact(yu.1 R).1
    obtain⟨e',h4,I⟩:=vh hb (yad y);rw[R]at h4;cases h4;exact(BP I).2 (h.2 j _ g (yad y))
 have rn:Rn (aU ids J.H.length) τ (mf J ids Hb τ):=by
  refine⟨rfl,λb o v h1 g=>Y b o v h1 g,λj id y x hx=> ?_,λj id y e he=> ?_⟩
  .show(aw J.m ids τ.m)[id]? =ab x;unfold aU at y;split at y
   .rw[ma j id y];exact hx
   .cases y;rw[mn j (by omega)];exact hx
  .obtain⟨e',h4,I⟩:=vh hb he;refine⟨e', ?_,I⟩;show(aw J.H ids Hb)[id]? =ab e';unfold aU at y;split at y
   .rw[Ha j id y];exact h4
   .cases y;rw[Hn j (by omega)];exact h4
 have S:=BR ok ho hin
 have leaf:cl J (mf J ids Hb τ):=by
  refine⟨λb o v h1 g=> ?_,λid b h1 g=> ?_,λid s len A c h1=> ?_,λid b h1 g=> ?_,λid v s st e d h1=> ?_⟩
  .obtain⟨h3,h4⟩:=to.leaf.cells b o v h1 (S.bh b o v h1 g);exact⟨h3,Y b o v h3 h4⟩
  .have z:id < J.H.length:=by rw[<-ok.len];exact(yu.1 h1).1
   by_cases G:id∈ids
   .obtain⟨j,y,rfl⟩:=ybi G;have E:=yad y;have h3:bg ids ids[j]=ab j:=cR ho E;obtain⟨h4,I⟩:=to.leaf.var j b (S.m _ _ h3 _ h1) (S.var h3 g);exact⟨rn.m _ _ (f j _ E) _ h4,rn.var (f j _ E) I⟩
   .exact⟨(mo id z G).trans h1,by
     obtain⟨d,st,g⟩:=g;exact⟨d,st,(Ho id z G).trans g⟩⟩
  .have h1':=h1;obtain⟨e,ys,g,h3,h4⟩:=h1;have z:id < J.H.length:=(yu.1 g).1;by_cases G:id∈ids
   .obtain⟨j,y,rfl⟩:=ybi G;have E:=yad y;have I:bg ids ids[j]=ab j:=cR ho E;exact rn.front (f j _ E) (to.leaf.front _ _ _ _ _ (S.front I h1'))
   .refine⟨e,ys,(Ho id z G).trans g,h3,λhl=> ?_⟩;rcases h4 hl with⟨I,Z⟩|⟨b,cur,I,Z,h7,h8⟩
    .exact .inl ⟨(mo id z G).trans I,Z⟩
    .exact .inr ⟨b,cur,(mo id z G).trans I,Z,(X id b G I).trans h7,h8⟩
  .have z:id < J.H.length:=by rw[<-ok.len];exact(yu.1 h1).1
   by_cases G:id∈ids
   .obtain⟨j,y,rfl⟩:=ybi G;have E:=yad y;have h3:bg ids ids[j]=ab j:=cR ho E;obtain⟨h4,I⟩:=to.leaf.map j b (S.m _ _ h3 _ h1) (S.map h3 g);exact⟨rn.m _ _ (f j _ E) _ h4,rn.map (f j _ E) I⟩
   .exact⟨(mo id z G).trans h1,by
     obtain⟨d,st,g⟩:=g;exact⟨d,st,(Ho id z G).trans g⟩⟩
  .have z:id < J.H.length:=(yu.1 h1).1;by_cases G:id∈ids
   .obtain⟨j,y,rfl⟩:=ybi G;have E:=yad y;have h3:bg ids ids[j]=ab j:=cR ho E;obtain⟨d1,h4⟩:=S.row h3 h1;obtain⟨v',st',d',I,Z,h7⟩:=to.leaf.row _ _ _ _ _ _ h4;obtain⟨d2,h8⟩:=rn.row (f j _ E) I;refine⟨v',st',d2,h8,Z,λhv=> ?_⟩;obtain⟨h9,h10⟩:=h7 hv;have hmm:∃x,J.m[ids[j]]? =ab x:=⟨_,yad (by rw[ok.len];exact z)⟩;obtain⟨x,hx⟩:=hmm;have hcx:=S.m _ _ h3 _ hx;refine⟨by rw[hx];exact rn.m _ _ (f j _ E) _ (by rw[h9];exact hcx),λb cur hb hc=> ?_⟩;rw[hx]at hb;cases hb;exact h10 b cur hcx hc
   .exact⟨v,st,d,(Ho id z G).trans h1,ym _,λ_=>⟨mo id z G,λb cur hb hc=>⟨cur,(X id b G hb).trans hc,rfl⟩⟩⟩
 refine⟨⟨leaf,rfl,rfl,to.os,to.tape,to.output,to.size,λb hb hn=>to.block b hb (λj y=> ?_),λid b h=> ?_, ?_⟩,⟨?_, ?_, ?_, ?_,λb h=>ok.new b (Nat.le_trans to.size h), ?_⟩,rn⟩
 .obtain⟨id,_,h3⟩:=WT (J:=J) (Hin:=Hin) y;exact hn id h3
 .rcases back id b h with⟨_,_,h3⟩|⟨j,h1,g,_⟩
  .exact .inl h3
  .rcases M j b g with⟨Q,h3,h4⟩|h3
   .have:=f j Q h3;rw[h1]at this;cases this;exact .inl h4
   .exact .inr h3
 .show J.m.length<=(aw J.m ids τ.m).length;rw[T,ok.len];omega
 .show(aw J.m ids τ.m).length=(aw J.H ids Hb).length;rw[T,BO _ _ _ (by omega),hbl]
 .intro i j b G y;rcases back i b G with⟨h1,g,h3⟩|⟨k,h1,g,_⟩ <;> rcases back j b y with⟨h4,I,Z⟩|⟨l,h4,I,_⟩
  .exact ok.inj i j b h3 Z
  .have hbs:=ok.lt i b h3;rcases M l b I with⟨Q,h7,h8⟩|h7
   .have:=ok.inj i Q b h3 h8;subst this;exact absurd (ybs h7) g
   .omega
  .have hbs:=ok.lt j b Z;rcases M k b g with⟨Q,h7,h8⟩|h7
   .have:=ok.inj j Q b Z h8;subst this;exact absurd (ybs h7) I
   .omega
  .have:=okτ.inj k l b g I;subst this;rw[h1]at h4;exact ybq h4
 .intro i b G;rcases back i b G with⟨_,_,h3⟩|⟨k,_,g,_⟩
  .exact Nat.lt_of_lt_of_le (ok.lt i b h3) to.size
  .exact okτ.lt k b g
 .intro i e x he hx;have R:(aw J.H ids Hb)[i]? =ab e:=he;have U:(aw J.m ids τ.m)[i]? =ab x:=hx;have z:i < J.H.length+(τ.H.length - ids.length):=by rw[<-T];exact(yu.1 U).1
  have viaτ:∀j,aU ids J.H.length j=ab i->τ.m[j]? =ab x->Hb[j]? =ab e->dw (mf J ids Hb τ) x e:=by
   intro j _ g h3;have y:j < τ.H.length:=by rw[<-hbl];exact(yu.1 h3).1
   obtain⟨e',h4,I⟩:=vh hb (yad y);rw[h3]at h4;cases h4;exact BQ rn I (okτ.dx j _ x (yad y) g)
  rcases W i z with⟨h1,g⟩|⟨j,h1⟩|⟨j,h1,rfl⟩
  .rw[Ho i h1 g]at R;rw[mo i h1 g]at U;exact nA leaf (λb hb'=>X i b g (by rw[U,hb'])) (ok.dx i e x R U)
  .exact viaτ j (f j i h1) (by rw[<-ma j i h1];exact U) (by rw[<-Ha j i h1];exact R)
  .exact viaτ j (fromNew j h1) (by rw[<-mn j h1];exact U) (by rw[<-Hn j h1];exact R)
 .intro i b G;rcases back i b G with⟨_,_,h3⟩|⟨k,_,g,_⟩
  .exact ok.own i b h3
  .rcases M k b g with⟨Q,_,h8⟩|h7
   .exact ok.own Q b h8
   .exact ok.new b h7
theorem po{args:yL yp}{f:yL yc}(g:aB J ts a)(ids:yL Nat)(hl:args.length=f.length):aH J ((args.zip f).map λq=>(aC P ts q.2 q.1).cn ids) (args.map a.eval):=by
 induction args generalizing f with
 |nil=>simp[aH]
 |cons x args h=>
  cases f with
  |nil=>simp at hl
  |cons t f=>
   simp only[List.zip_cons_cons,yag,aH];exact⟨_,_,rfl,AZ ids (Zo g t x),h (by simpa using hl)⟩
theorem TL{cap:yL Dv}{cs:yL yh}(h:aH J cap cs):aH J (cap.map Dv.arg) cs:=by
 induction cap generalizing cs with
 |nil=>simpa using h
 |cons d cap g=>
  simp only[aH]at h;obtain⟨v,f,rfl,j,l⟩:=h;simp only[yag,aH];exact⟨v,f,rfl,ZK3 j,g l⟩
theorem qY{cap:yL Dv}{cs:yL yh}(ids:yL Nat)(h:aH J cap cs):aH J (cap.map (Dv.cn ids)) cs:=by
 induction cap generalizing cs with
 |nil=>simpa using h
 |cons d cap g=>
  simp only[aH]at h;obtain⟨v,f,rfl,j,l⟩:=h;simp only[yag,aH];exact⟨v,f,rfl,AZ ids j,g l⟩
theorem TM{c:Call}{f:yp}{g:yr}{j cs:Array yh}(w:yy)(ho:o.op=.call c)(hc:c.callee=.value f)(l:a.eval f=.func (.func g) j cs)(hb:iy P g=ae):
 (execOp a.eval o).run P w=.ok (.enter g (j++c.args.map a.eval++cs)) w:=by
 unfold iy at hb;split at hb
 .rename_i fn h;simp only[yi,Bool.not_eq_true']at hb;have m:¬fn.name= "runtime.NumGoroutine" :=by simpa using hb.2
  have y:fn.body.isNone=af:=by cases z:fn.body <;> simp[z]at hb ⊢
  simp only[execOp,ho,resolve,hc,l,Deferred.ofValue,Sem.run_bind,Sem.run_pure,Result.andThen_ok,invoke,callFunc,run_program,h];simp[m,y]
 .cases hb
theorem ZHR{fn:Func}(h:fn.name= "internal/bytealg.Compare"):Extern.find fn=ab Extern.BytealgCompare.compare:=by
 have f:Extern.allGenericRows.lookup "internal/bytealg.Compare" =ad:=by kernel_rfl
 have g:Extern.allTypedRows.lookup "internal/bytealg.Compare" =ad:=by kernel_rfl
 have j:Extern.allRows.lookup "internal/bytealg.Compare" =ab Extern.BytealgCompare.compare:=by kernel_rfl
 unfold Extern.find;dsimp only;rw[h,f,g,j];rfl
theorem ZHS{c:Call}{f:yp}{g:yr}{cs:Array yh}{v:yh}(w:yy)(ho:o.op=.call c)(hc:c.callee=.value f)(l:a.eval f=.func (.func g) #[] cs)(hb:nj P g=ae)
 (m:(Extern.BytealgCompare.compare (c.args.map a.eval++cs)).run P w=.ok v w):(execOp a.eval o).run P w=.ok (.value v) w:=by
 unfold nj at hb;rw[yi]at hb
 replace hb:=hb.2
 split at hb
 .rename_i fn j;simp only[yi,yT,Option.isNone_iff_eq_none]at hb;have h:=run_callFunc_extern (P:=P) j (by rw[hb.1.1];rfl) (by rw[hb.1.2];rfl) hb.2 (ZHR hb.1.1) (c.args.map a.eval++cs) w;rw[m]at h;simp only[execOp,ho,resolve,hc,l,Deferred.ofValue,Sem.run_bind,Sem.run_pure,Result.andThen_ok,invoke];rw[Array.empty_append];exact h
 .cases hb
theorem ZDa{g:yr}(w:yy)(args:Array yh)(hb:iy P g=ae):(callFunc g args).run P w=.ok (.enter g args) w:=by
 unfold iy at hb;split at hb
 .rename_i fn f;simp only[yi,Bool.not_eq_true']at hb;have h:¬fn.name= "runtime.NumGoroutine" :=by simpa using hb.2
  have j:fn.body.isNone=af:=by cases l:fn.body <;> simp[l]at hb ⊢
  simp only[callFunc,Sem.run_bind,run_program,Result.andThen_ok,f];simp[h,j]
 .cases hb
theorem BS(ok:Ok J){g:yr}{E h:yL Dv}{F:Array yh}{ids:yL Nat}{Hin H' Hb:yL aq}{r r':Dv}(I:(execOp a.eval o).run P J.w=.ok (.enter g F) J.w)(m:aH J E F.toList)
 (f:once ids=ae) (y:ids.length<=H'.length) (M:Dv.bB (bg ids) E=ab h)
 (j:aN J.H ids ids=ab Hin) (R:r.rn (aU ids J.H.length)=ab r') (hb:aq.bB (aU ids J.H.length) H'=ab Hb) (l:bZ P g h Hin r H'):YZ P o a J r' (aw J.H ids Hb):=by
 have G:=l (callee J ids Hin) _ (ZGf ok f j) rfl (dA (BR ok f j) _ _ _ M m);intro K Q S;unfold Oper.wp;rw[I];simp only[Oper.upon];rw[ycf]at G;refine G.mono ?_;rintro e W ⟨v,τ,rfl,rfl,T,to,z,U⟩;subst T;obtain⟨A,B,rn⟩:=ZGg ok f j to z y hb;exact S v (mf J ids Hb τ) rfl A B (kZ rn R U)
theorem ZK9(y:aB J ts a){c:Call}{f:yp}{g:yr}{cap:yL Dv}(ids:yL Nat)(B:aC P ts 0 f=.fn g cap)(hsz:c.args.size=c.argTypes.size):
 ∃l cs,a.eval f=.func (.func (fI g)) l cs/\aH J (Xe P ids ts c g cap) (l++c.args.map a.eval++cs).toList:=by
 have j:=Zo (P:=P) y 0 f;rw[B]at j;obtain⟨l,cs,z,m,h⟩:=uV j;refine⟨l,cs,z, ?_⟩;unfold Xe;by_cases A:g < big
 .rw[yW A]at m ⊢;subst m;rw[Array.empty_append]at h ⊢;rw[Array.toList_append,Array.toList_map];exact pg (po y ids (by simpa using hsz)) (qY ids h)
 .rw[yX A]at m ⊢;subst m;rw[Array.append_empty]at h ⊢;rw[Array.toList_append,Array.toList_map];exact pg (qY ids h) (po y ids (by simpa using hsz))
theorem TN(ok:Ok J)(B:aB J ts a){c:Call}{f:yp}{g:yr}{cap h:yL Dv}{ids:yL Nat}{Hin H' Hb:yL aq}{r r':Dv}(ho:o.op=.call c)(Q:c.callee=.value f)
 (R:aC P ts 0 f=.fn g cap) (m:iy P (fI g)=ae) (hsz:c.args.size=c.argTypes.size) (l:once ids=ae) (E:ids.length<=H'.length) (S:Dv.bB (bg ids) (Xe P ids ts c g cap)=ab h)
 (F:aN J.H ids ids=ab Hin) (T:r.rn (aU ids J.H.length)=ab r') (hb:aq.bB (aU ids J.H.length) H'=ab Hb) (y:bZ P (fI g) h Hin r H'):YZ P o a J r' (aw J.H ids Hb):=by
 have z:=Zo (P:=P) B 0 f;rw[R]at z;obtain⟨U,W,G,A,j⟩:=uV z
 have I:aH J (Xe P ids ts c g cap) (U++c.args.map a.eval++W).toList:=by
  unfold Xe;by_cases M:g < big
  .rw[yW M]at A ⊢;subst A;rw[Array.empty_append]at j ⊢;rw[Array.toList_append,Array.toList_map];exact pg (po B ids (by simpa using hsz)) (qY ids j)
  .rw[yX M]at A ⊢;subst A;rw[Array.append_empty]at j ⊢;rw[Array.toList_append,Array.toList_map];exact pg (qY ids j) (po B ids (by simpa using hsz))
 exact BS ok (TM J.w ho Q G m) I l E S F T hb y
theorem ZyQ(ok:Ok J)(I:aB J ts a){c:Call}{f:yp}{j:String}{t:yc}{x:Dv}{g:yr}{h:yL Dv}{ids:yL Nat}{Hin H' Hb:yL aq}{r r':Dv}(ho:o.op=.call c)(M:c.callee=.invoke f j)
 (Q:aC P ts 0 f=.iface t x) (y:iy P g=ae) (hsz:c.args.size=c.argTypes.size) (l:once ids=ae) (A:ids.length<=H'.length) (R:Dv.bB (bg ids) (x.cn ids::Xe P ids ts c 0 [])=ab h)
 (B:aN J.H ids ids=ab Hin) (S:r.rn (aU ids J.H.length)=ab r') (hb:aq.bB (aU ids J.H.length) H'=ab Hb) (hm:oV P t j g) (z:bZ P g h Hin r H'):YZ P o a J r' (aw J.H ids Hb):=by
 have m:=Zo (P:=P) I 0 f;rw[Q,Zj rfl]at m;simp only[yH]at m;obtain⟨v,E,T,U⟩:=m;have E:a.eval f=.iface t v:=by simpa using E
 have F:yJ J x v:=⟨T,U⟩
 have G:aH J (x.cn ids::Xe P ids ts c 0 []) (#[v]++c.args.map a.eval).toList:=by
  rw[Array.toList_append,Array.toList_map];show aH J _ (v::c.args.toList.map a.eval);rw[aH];refine⟨v,_,rfl,AZ ids F, ?_⟩;unfold Xe;rw[yW (by decide),List.map_nil,List.append_nil];exact po I ids (by simpa using hsz)
 have W:(execOp a.eval o).run P J.w=.ok (.enter g (#[v]++c.args.map a.eval)) J.w:=by
  have e:=hm v (c.args.map a.eval) J.w;rw[ZDa J.w _ y]at e;rw[<-e];have X:(#[Value.iface t v]++c.args.map a.eval)[0]? =ab (.iface t v):=by simp[Array.getElem?_append]
  have Y:(#[Value.iface t v]++c.args.map a.eval).extract 1 (#[Value.iface t v]++c.args.map a.eval).size=c.args.map a.eval:=by
   apply Array.ext';simp;rw[ycj (by simp)]
  simp only[execOp,ho,resolve,M,E,Sem.run_bind,Sem.run_pure,Result.andThen_ok,invoke,X,Y]
 exact BS ok W G l A R B S hb z
end
end Go.Ev
end
section
namespace Go.Ev
theorem BT{w:yy}{S:Nat->Nat->Prop}{n s:Nat}{xs:yL Pl}{us:yL yh}(h:aA w S (.arr n s xs) us):xs.length=n/\bc s xs/\au w S xs us:=by
 simpa[aA] using h
theorem TO{P:yg}{J:Sg}{d n:Nat}{e:yc}{s:Nat}(hs:P.cellsOf e=s)(B:s≠0)(hi:(P.info? e).isSome=ae)(hu:(P.underlying e).isSome=ae)
 (G:∀(x y:Pl)(a b:yh),bu P n e x->bu P n e y->yJ J (.p x) a->yJ J (.p y) b->∃r:Bool,(Op.equalIn d e a b).run P J.w=.ok r J.w/\(r=ae↔x=y))
 {cs j:Array yh} {m:Nat}:∀(xs ys:yL Pl)(i:Nat)(p l us vs:yL yh),(∀y,y∈xs->bu P n e y/\y.size=s/\X0 P e=y.isAgg)->(∀y,y∈ys->bu P n e y/\y.size=s/\X0 P e=y.isAgg)->
  cs.toList=p++us->j.toList=l++vs->p.length=i*s->l.length=i*s->au J.w J.bh xs us->au J.w J.bh ys vs->xs.length=m->ys.length=m->
  ∃r:Bool,(Op.eqItems d e s cs j (List.range' i m)).run P J.w=.ok r J.w/\(r=ae↔xs=ys)
 |[],ys,i,p,l,us,vs,_,_,_,_,_,_,_,_,h,A=>by
  subst h;have:ys=[]:=ybh A;subst this
  exact⟨ae,by simp[Op.eqItems],by simp⟩
 |x::xs,[],_,_,_,_,_,_,_,_,_,_,_,_,_,h,A=>by simp at h A;omega
 |x::xs,y::ys,i,p,l,us,vs,I,M,Q,R,S,T,U,W,h,A=>by
  obtain⟨X,rfl⟩:∃X,m=X+1:=⟨xs.length,by simpa using h.symm⟩;simp only[au]at U W;obtain⟨u1,u2,rfl,Y,q2⟩:=U;obtain⟨v1,v2,rfl,Z,q4⟩:=W;obtain⟨f1,f2,f3⟩:=I x (yay ..);obtain⟨g1,g2,g3⟩:=M y (yay ..);obtain⟨a,ha,ra⟩:=kl (P:=P) (J:=J) (t:=e) (d:=.p x) Q (by simpa[yH] using Y) (by rw[hs];exact f2.symm) hi hu f3 (by show x.size≠0;omega);obtain⟨b,hb,rb⟩:=kl (P:=P) (J:=J) (t:=e) (d:=.p y) R (by simpa[yH] using Z) (by rw[hs];exact g2.symm) hi hu g3 (by show y.size≠0;omega);rw[S]at ha;rw[T]at hb;obtain⟨r,hr,f⟩:=G x y a b f1 g1 ra rb;have s1:=WV _ _ Y;have s2:=WV _ _ Z
  obtain⟨r',E,g⟩:=TO hs B hi hu G xs ys (i+1) (p++u1) (l++v1) u2 v2 (λz F=>I z (yaz _ F)) (λz F=>M z (yaz _ F))
   (by rw[Q,yab]) (by rw[R,yab]) (by rw[yl,S,s1,f2,ybc,Nat.one_mul]) (by rw[yl,T,s2,g2,ybc,Nat.one_mul]) q2 q4 (by simpa using h) (by simpa using A)
  rw[List.range'_succ];simp only[Op.eqItems,Sem.run_bind,ha,hb,hr,Result.andThen_ok];cases r
  .exact⟨af,by simp,by simp;intro e;exact absurd (f.2 e) (by simp)⟩
  .refine⟨r',by simpa using E, ?_⟩;rw[g];simp[f.1 rfl]
theorem TQ{P:yg}{J:Sg}{d:Nat}{R:yc->Pl->Prop}
 (E:∀(t:yc)(x y:Pl)(a b:yh),R t x->R t y->yJ J (.p x) a->yJ J (.p y) b->∃r:Bool,(Op.equalIn d t a b).run P J.w=.ok r J.w/\(r=ae↔x=y))
 {cs l:Array yh}:∀(m:yL Field)(xs ys:yL Pl)(o:Nat)(p A us vs:yL yh),iu P R m o xs->iu P R m o ys->
  cs.toList=p++us->l.toList=A++vs->p.length=o->A.length=o->au J.w J.bh xs us->au J.w J.bh ys vs->
  ∃r:Bool,(Op.eqFields d cs l m).run P J.w=.ok r J.w/\(r=ae↔xs=ys)
 |[],[],[],_,_,_,_,_,_,_,_,_,_,_,_,_=>⟨ae,by simp[Op.eqFields],by simp⟩
 |[],_::_,_,_,_,_,_,_,h,_,_,_,_,_,_,_=>by simp[iu]at h
 |[],[],_::_,_,_,_,_,_,_,h,_,_,_,_,_,_=>by simp[iu]at h
 |_::_,[],_,_,_,_,_,_,h,_,_,_,_,_,_,_=>by simp[iu]at h
 |_::_,_::_,[],_,_,_,_,_,_,h,_,_,_,_,_,_=>by simp[iu]at h
 |f::m,x::xs,y::ys,o,p,A,us,vs,F,G,I,M,Q,S,T,U=>by
  simp only[iu]at F G;obtain⟨a1,W,X,Y,Z,a6,a7,a8,a9⟩:=F;obtain⟨_,_,b3,_,_,b6,b7,b8,b9⟩:=G;simp only[au]at T U;obtain⟨u1,u2,rfl,q1,q2⟩:=T;obtain⟨v1,v2,rfl,q3,q4⟩:=U;obtain⟨a,ha,ra⟩:=kl (P:=P) (J:=J) (t:=f.type) (d:=.p x) I (by simpa[yH] using q1) X Y Z a6 a7;obtain⟨b,hb,rb⟩:=kl (P:=P) (J:=J) (t:=f.type) (d:=.p y) M (by simpa[yH] using q3) b3 Y Z b6 b7;rw[Q, <-W]at ha;rw[S, <-W]at hb;obtain⟨r,hr,g⟩:=E f.type x y a b a8 b8 ra rb;have s1:=WV _ _ q1;have s2:=WV _ _ q3;have z:x.size=y.size:=X.symm.trans b3
  obtain⟨r',B,j⟩:=TQ E m xs ys (o+x.size) (p++u1) (A++v1) u2 v2 a9 (by rw[z];exact b9)
   (by rw[I,yab]) (by rw[M,yab]) (by rw[yl,Q,s1]) (by rw[yl,S,s2,z]) q2 q4
  simp only[Op.eqFields,a1,ne_eq,not_false_eq_true,if_true,Sem.run_bind,ha,hb,hr,Result.andThen_ok];cases r
  .exact⟨af,by simp,by simp;intro e;exact absurd (g.2 e) (by simp)⟩
  .refine⟨r',by simpa using B, ?_⟩;rw[j];simp[g.1 rfl]
theorem BU{P:yg}{J:Sg}:∀(n:Nat)(t:yc)(x y:Pl)(a b:yh),bu P n t x->bu P n t y->yJ J (.p x) a->yJ J (.p y) b->
 ∀d,∃r:Bool,(Op.equalIn (d+n) t a b).run P J.w=.ok r J.w/\(r=ae↔x=y)
 |0,_,_,_,_,_,h,_,_,_,_=>by simp[bu]at h
 |n+1,t,x,y,a,b,E,f,g,j,d=>by
  unfold bu at E f;split at E
  .rename_i l;rw[l]at f;split at f <;> rename_i F <;> simp only[reduceCtorEq,yo]at F
   all_goals first
    |(rw[Yl g,Yl j]
      exact⟨_,run_equalIn_bool' J.w (d+n) t _ _ l,by simp⟩)
    |exact f.elim
  .rename_i k k' z l;rw[l]at f;split at f <;> rename_i F <;> simp only[reduceCtorEq,yo,TypeDesc.int.injEq]at F
   all_goals first
    |(subst E;subst f;subst F
      rw[ZH g,ZH j]
      exact⟨_,run_equalIn_int J.w (d+n) t _ _ _ _ l,by simp⟩)
    |exact f.elim
  .rename_i m e m' s Q l;rw[l]at f;split at f <;> rename_i F <;> simp only[reduceCtorEq,yo,TypeDesc.array.injEq]at F
   .rename_i Y S;obtain⟨rfl,rfl⟩:=F;obtain⟨rfl,G,T,W,Z,h5⟩:=E;obtain⟨rfl,g1,_,_,_,g5⟩:=f;obtain rfl:s=Y:=G.symm.trans g1;rw[ZZ (by rfl)]at g j;obtain⟨I,rfl,g⟩:=g;obtain⟨A,rfl,j⟩:=j;simp only[yH]at g j;obtain⟨n1,_,g⟩:=BT g;obtain⟨n2,_,j⟩:=BT j;obtain⟨i,hi⟩:=Option.isSome_iff_exists.1 W;obtain⟨r,U,B⟩:=TO (P:=P) (J:=J) (d:=d+n) (n:=n) (e:=e) (s:=s) G T W Z (λx y a b E f g j=>BU n e x y a b E f g j d) Q S 0 [] [] I.toList A.toList h5 g5 rfl rfl (by simp) (by simp) g j n1 n2;refine⟨r, ?_,by rw[B];simp⟩;rw[show d+(n+1)=(d+n)+1 from rfl,run_equalIn_array J.w (d+n) I A l hi,List.range_eq_range',G]
    exact U
   all_goals first
    |exact f.elim
  .rename_i X Q l;rw[l]at f;split at f <;> rename_i F <;> simp only[reduceCtorEq,yo,TypeDesc.struct.injEq]at F
   all_goals first
    |exact f.elim
    |skip
   rename_i S;subst F;obtain⟨G,T⟩:=E;obtain⟨_,g2⟩:=f;rw[ZZ (by rfl)]at g j;obtain⟨I,rfl,g⟩:=g;obtain⟨A,rfl,j⟩:=j;simp only[yH,aA]at g j;have M:P.fieldsOf t=X:=by simp[Program.fieldsOf,l]
   obtain⟨r,U,B⟩:=TQ (P:=P) (J:=J) (d:=d+n) (R:=bu P n) (λt x y a b E f g j=>BU n t x y a b E f g j d) X.toList Q S 0 [] [] I.toList A.toList T g2 rfl rfl rfl rfl g j;refine⟨r, ?_,by rw[B];simp⟩;rw[show d+(n+1)=(d+n)+1 from rfl,run_equalIn_struct J.w (d+n) t I A (by rw[M];exact l) G,M]
   exact U
  .exact E.elim
theorem BV{P:yg}{J:Sg}{t:yc}{x y:Pl}{a b:yh}(g:bu P 20 t x)(j:bu P 20 t y)(l:yJ J (.p x) a)(m:yJ J (.p y) b){β:Bool}(h:β=ae↔x=y):
 (Op.equal t a b).run P J.w=.ok β J.w:=by
 obtain⟨r,z,f⟩:=BU 20 t x y a b g j l m 9980;have:r=β:=by rw[Bool.eq_iff_iff,f,h]
 subst this;exact z
def nL:yh->Bool
 |.bool _|.pointer _|.slice _ _ _|.func _ _ _|.nilFunc=>ae
 |_=>af
theorem TS{op:BinOp}{t:yc}{x y:yp}{a b:yh}(h:nL a=ae):eqGuard op t x y a b=pure ():=by
 cases op <;> cases a <;> first|rfl|(simp[nL]at h)
theorem ZyR{t:yc}{a b:yh}(h:nL a=ae):binOp .eql t a b=(do pure (.bool (<-Op.equal t a b))):=by
 cases a <;> first|(simp[nL]at h;done)|(cases b <;> rfl)
theorem ZyS{t:yc}{a b:yh}(h:nL a=ae):binOp .neq t a b=(do pure (.bool (!(<-Op.equal t a b)))):=by
 cases a <;> first|(simp[nL]at h;done)|(cases b <;> rfl)
theorem Qy{P:yg}{t:yc}{a b:yh}{r:Bool}{w:yy}(h:∀n,(Op.equalIn (n+1) t a b).run P w=.ok r w):(Op.equal t a b).run P w=.ok r w:=h 9999
theorem TT{P:yg}{t:yc}{x y:Dv}{hs hs':yL ar}{C:yL Prop}{r:Bool}(h:ja P t x y hs=ab (C,r,hs'))(hc:aZ C){J:Sg}{a b:yh}
 (ha:yJ J x a) (hb:yJ J y b):(Op.equal t a b).run P J.w=.ok r J.w/\(nL a=ae\/((∃cs,a=.agg cs)/\(∃cs,b=.agg cs)/\P.eqGuardType P.depth t=af)):=by
 unfold ja at h;have step:∀(d:TypeDesc),P.underlying t=ab d->(underlying t).run P J.w=.ok d J.w:=λd I=>run_underlying I J.w;split at h
 all_goals first
  |(cases h;done)
  |skip
 rotate_right 2
 iterate 2
  .split at h
   .split at h
    .rename_i M;cases h;obtain⟨Q,R,S,_⟩:=hc;refine⟨BV Q R ha hb S,.inr ⟨?_, ?_,M⟩⟩
     .obtain⟨cs,e,_⟩:=(ZZ (by rfl)).1 ha;exact⟨cs,e⟩
     .obtain⟨cs,e,_⟩:=(ZZ (by rfl)).1 hb;exact⟨cs,e⟩
    .cases h
   .cases h
 case' h_9=>
  rename_i g;split at h
  .cases h;obtain⟨_,A,c,rfl,_,_,_,_,z⟩:=WD ha;obtain⟨_,B,m,rfl,_,_,j,_⟩:=WD hb;have f:B=ad:=by simpa using j af rfl
   subst f;obtain⟨T,U,F,rfl,_⟩:=z hc.1;exact⟨Qy λn=>by simp[Op.equalIn,step _ g],.inl rfl⟩
  .cases h
 case' h_10=>
  rename_i g;split at h
  .cases h;obtain⟨_,A,c,rfl,_,_,_,_,z,_⟩:=mb ha;obtain⟨_,B,m,rfl,_,_,j,_⟩:=WD hb;have f:B=ad:=by simpa using j af rfl
   subst f;obtain⟨T,U,F,rfl,_⟩:=z hc.1;exact⟨Qy λn=>by simp[Op.equalIn,step _ g],.inl rfl⟩
  .cases h
 all_goals
  rename_i g;cases h;refine(λq:_/\_=>⟨q.1,.inl q.2⟩) ?_
 .rw[Yl ha,Yl hb];exact⟨Qy λn=>by simp[Op.equalIn,step _ g],rfl⟩
 .rw[qJ hb];rw[Zj (by rfl)]at ha;simp only[yH,List.cons.injEq,and_true]at ha;obtain⟨G,_,_,rfl⟩:=ha;exact⟨Qy λn=>by simp[Op.equalIn,step _ g],rfl⟩
 .rw[qJ hb];rw[Zj (by rfl)]at ha;simp only[yH,List.cons.injEq,and_true]at ha;obtain⟨G,W,F,rfl,_⟩:=ha;exact⟨Qy λn=>by simp[Op.equalIn,step _ g],rfl⟩
 .rw[qJ hb];rw[Zj (by rfl)]at ha;simp only[yH,List.cons.injEq,and_true]at ha;obtain⟨G,W,rfl,_⟩:=ha;exact⟨Qy λn=>by simp[Op.equalIn,step _ g],rfl⟩
 .rw[qJ ha,qJ hb];exact⟨Qy λn=>by simp[Op.equalIn,step _ g],rfl⟩
 .obtain⟨_,A,c,rfl,_,_,E,_⟩:=WD ha;obtain⟨_,B,m,rfl,_,_,j,_⟩:=WD hb;have f:B=ad:=by simpa using j af rfl
  subst f;have l:=E _ rfl;subst l;refine⟨?_,rfl⟩;cases A <;> (refine Qy λn=> ?_;simp[Op.equalIn,step _ g])
 .obtain⟨_,A,c,rfl,_,_,E,_⟩:=mb ha;obtain⟨_,B,m,rfl,_,_,j,_⟩:=WD hb;have f:B=ad:=by simpa using j af rfl
  subst f;have l:=E _ rfl;subst l;refine⟨?_,rfl⟩;cases A <;> (refine Qy λn=> ?_;simp[Op.equalIn,step _ g])
 .rw[Zj (by rfl)]at ha;simp only[yH,List.cons.injEq,and_true]at ha;obtain⟨X,Y,Z,_,_,rfl,_⟩:=ha;obtain⟨_,B,m,rfl,_,_,j,_⟩:=WD hb;have f:B=ad:=by simpa using j af rfl
  subst f;exact⟨Qy λn=>by simp[Op.equalIn,step _ g],rfl⟩
 .rw[AV hb];rw[Zj (by rfl)]at ha;simp only[yH,List.cons.injEq,and_true]at ha;obtain⟨fs,cs,rfl,_⟩:=ha;exact⟨Qy λn=>by simp[Op.equalIn,step _ g],rfl⟩
 .rw[AV ha,AV hb];exact⟨Qy λn=>by simp[Op.equalIn,step _ g],rfl⟩
theorem ZAO{P:yg}{op:BinOp}{t:yc}{x y:Dv}{hs hs':yL ar}{C:yL Prop}{d:Dv}(h:gH P op t x y hs=ab (C,d,hs'))(hc:aZ C){J:Sg}{a b:yh}
 (ha:yJ J x a) (hb:yJ J y b) (A B:yp):
 ∃v,(eqGuard op t A B a b).run P J.w=.ok () J.w/\(binOp op t a b).run P J.w=.ok v J.w/\yJ J d v:=by
 unfold gH at h;split at h
 .have E:=ZH ha;have F:=ZH hb;subst E;subst F;split at h
  .rename_i G;obtain⟨v,l,j⟩:=ZwA (P:=P) (yk:= ‹IntKind›) h hc J;refine⟨v,by rw[eqGuard_at_int];rfl, ?_,j⟩;cases op <;> first|(simp[AT]at G;done)|exact l
  .split at h
   .rename_i I;subst I;obtain⟨v,l,j⟩:=ZAF (P:=P) h hc J t;exact⟨v,by rw[eqGuard_at_int];rfl,l,j⟩
   .cases h
 .rw[pc ha,pc hb];split at h
  .cases h;exact⟨_,rfl,by rw[<-ByteArray.toList_eq, <-ByteArray.toList_eq];rfl,Yh _⟩
  .cases h;exact⟨_,rfl,by rw[<-ByteArray.toList_eq, <-ByteArray.toList_eq];rfl,Yh _⟩
  .cases h
 .split at h
  .simp only[yv,yq]at h;obtain⟨⟨C',r,z⟩,l,rfl,rfl,rfl⟩:=h;obtain⟨j,f⟩:=TT l hc ha hb;refine⟨.bool r, ?_, ?_,Yh _⟩
   .rcases f with f|⟨⟨m,rfl⟩,⟨g,rfl⟩,f⟩
    .rw[TS f];rfl
    .exact run_eqGuard_agg _ _ _ _ _ _ _ f
   .rcases f with f|⟨⟨m,rfl⟩,⟨g,rfl⟩,f⟩
    .rw[ZyR f];simp[j]
    .rw[show binOp .eql t (.agg m) (.agg g)=(do pure (.bool (<-Op.equal t (.agg m) (.agg g)))) from rfl];simp[j]
  .simp only[yv,yq]at h;obtain⟨⟨C',r,z⟩,l,rfl,rfl,rfl⟩:=h;obtain⟨j,f⟩:=TT l hc ha hb;refine⟨.bool (!r), ?_, ?_,Yh _⟩
   .rcases f with f|⟨⟨m,rfl⟩,⟨g,rfl⟩,f⟩
    .rw[TS f];rfl
    .exact run_eqGuard_agg _ _ _ _ _ _ _ f
   .rcases f with f|⟨⟨m,rfl⟩,⟨g,rfl⟩,f⟩
    .rw[ZyS f];simp[j]
    .rw[show binOp .neq t (.agg m) (.agg g)=(do pure (.bool (!(<-Op.equal t (.agg m) (.agg g))))) from rfl];simp[j]
  .cases h
end Go.Ev
end
section
namespace Go.Ev
section
variable{P:yg}{o:yj}{a:Act}{J:Sg}{ts:yL Dv}{hs hs':yL ar}{C:yL Prop}{d:Dv}
theorem TU(H:yL aq):aw H [] []=H:=by simp[aw]
theorem qZ:(bg []:Nat->yO Nat)=λ_=>ad:=by
 funext i;simp[bg]
mutual
theorem re{f:Nat->yO Nat}:∀(x y:Dv),x.rn (λ_=>ad)=ab y->x.rn f=ab x
 |.p x,_,_=>rfl
 |.elem x,_,_=>rfl
 |.aj _ _ _,_,h=>by simp[Dv.rn]at h
 |.own _ _ _ _,_,h=>by simp[Dv.rn]at h
 |.view _ _ _ _ _ _,_,h=>by simp[Dv.rn]at h
 |.agg j,_,h=>by
  simp only[Dv.rn,yv]at h ⊢;obtain⟨m,l,_⟩:=h
  exact⟨j,bR j m l,rfl⟩
 |.arr n s j,_,h=>by
  simp only[Dv.rn,yv]at h ⊢;obtain⟨m,l,_⟩:=h
  exact⟨j,bR j m l,rfl⟩
 |.fn g j,_,h=>by
  simp only[Dv.rn,yv]at h ⊢;obtain⟨m,l,_⟩:=h
  exact⟨j,bR j m l,rfl⟩
 |.iface t x,_,h=>by
  simp only[Dv.rn,yv]at h ⊢;obtain⟨y,l,_⟩:=h
  exact⟨x,re x y l,rfl⟩
 |.bm j,_,h=>by
  simp only[Dv.rn,yv]at h ⊢;obtain⟨m,l,_⟩:=h
  exact⟨j,bR j m l,rfl⟩
 |.mp _,_,h=>by simp[Dv.rn]at h
 |.rv _ _ _ _ _,_,h=>by simp[Dv.rn]at h
 |.ba _ _ _ _,_,h=>by simp[Dv.rn]at h
 |.ak,_,_=>rfl
theorem bR{f:Nat->yO Nat}:∀(x y:yL Dv),Dv.bB (λ_=>ad) x=ab y->Dv.bB f x=ab x
 |[],_,_=>rfl
 |x::g,_,h=>by
  simp only[Dv.bB]at h;split at h
  .rename_i y j l m;simp[Dv.bB,re x y l,bR g j m]
  .cases h
end
theorem TW{src dst e:yc}{xs:yL Pl}{b:ByteArray}{nn:yO Bool}{v:yh}(hs:P.underlying src=ab (.slice e))(he:P.underlying e=ab (.int .u8))(hd:P.underlying dst=ab .string)
 (hv:yJ J (.p (.sl nn 1 xs)) v) (g:xs=b.data.toList.map λx=>.int .u8 (x.toNat:Int)):(convert src dst v).run P J.w=.ok (.string b) J.w:=by
 obtain⟨z,A,c,rfl,S,T,U,W,B⟩:=WD hv;by_cases f:xs=[]
 .have E:b=⟨#[]⟩:=by
   rw[f]at g;have:b.data.toList=[]:=List.map_eq_nil_iff.1 g.symm;apply ByteArray.ext;grind
  subst E;subst f
  cases A with
  |none=>exact Go.Lib.run_convert_nil_bytes J.w src dst e c hs he hd
  |some A=>
   have F:=run_convert_bytes_string (P:=P) J.w src dst e (ab A) 0 c hs he hd;rw[ycn,F];simp[Conv.bytesToString,loadCells,loadCellsFrom];rfl
 .obtain⟨G,I,X,rfl,M,Q⟩:=B f;have l:xs.length=b.size:=by rw[g];simp
  rw[l];refine Go.Lib.run_convert_whole (P:=P) J.w src e dst hs he hd G I b (λi m=> ?_) c;have R:i < xs.length:=by rw[l];exact m
  have h:xs[i]? =ab (.int .u8 (b[i].toNat:Int)):=by
   rw[g,yak]
   have:b.data.toList[i]? =ab b[i]:=by
    rw[ycl];exact Array.getElem?_eq_getElem (by simpa using m)
   rw[this];rfl
  obtain⟨Y,y,j⟩:=uO z M Q h;simp only[aA]at y;subst y;have:=(j 0 _ rfl).1;grind
theorem TX{t e:yc}{x:yp}{n s:Nat}{xs:yL Pl}{nn:yO Bool}(ok:Ok J)(ho:o.op=.sliceToArrayPointer t x)(hu:P.underlying t=ab (.array n e))(hv:yJ J (.p (.sl nn s xs)) (a.eval x))(I:n≠0)(l:n<=xs.length):
 YZ P o a J (.elem (.arr n s (xs.take n))) J.H:=by
 obtain⟨m,A,c,hv,M,Q,R,S,y⟩:=WD hv
 have h:xs≠[]:=by
  grind
 obtain⟨f,g,T,rfl,j,z⟩:=y h;have B:xs=xs.take n++xs.drop n:=(ybg n xs).symm;rw[B]at j;obtain⟨E,U,rfl,F,G⟩:=Yd j;refine Zk (v:=.pointer (ab ⟨f,g,ad⟩)) ok ?_ ?_
 .have:(Instr.arrayAt t (.slice (ab ⟨f,g,ad⟩) xs.length c)).run P J.w=.ok (.pointer (ab ⟨f,g,ad⟩)) J.w:=by
   simp[Instr.arrayAt,run_underlying hu,show¬xs.length < n by omega]
  simp[execOp,ho,hv,this]
 .rw[Zj rfl];simp only[yH];refine⟨f,g,E,rfl, ?_,(W9.append z).1⟩;simp only[aA];exact⟨by rw[yac];omega,Qc m n,F⟩
theorem TY{xs:yL Pl}{b:ByteArray}{nn:yO Bool}{v:yh}(hv:yJ J (.p (.sl nn 1 xs)) v)(g:xs=gM b):(Extern.Bytes.bytesOf v).run P J.w=.ok b J.w:=by
 obtain⟨I,A,c,rfl,W,X,Y,Z,M⟩:=WD hv;have zW:xs.length=b.size:=by rw[g,gM,yaa,ybu];rfl
 have h:xs=[]->b=.empty:=λQ=>by
  apply ByteArray.ext;apply Array.toList_inj.1;rw[Q]at g;exact List.map_eq_nil_iff.1 g.symm
 cases A with
 |none=>
  have l:xs=[]:=by
   all_goals grind
  rw[h l]
  simp[Extern.Bytes.bytesOf]
 |some A=>
  by_cases f:xs=[]
  .rw[h f,f];simp[Extern.Bytes.bytesOf,Extern.Bytes.loadBytes]
  .obtain⟨m,y,us,e,R,S⟩:=M f;cases e
   have F:=Go.Lib.run_loadBytesX (P:=P) J.w (b.data.toList.map λx=>(x.toNat:Int)) ⟨m,y,ad⟩ .empty (λj x hj=>by
    have e:(⟨m,y,ad⟩:Addr).add j=⟨m,y+j,ad⟩:=by unfold Addr.add;split <;> simp_all
    rw[e]
    have B:xs[j]? =ab (.int .u8 x):=by
     rw[g,gM,yak];grind
    obtain⟨uy,G,E⟩:=uO I R S B;simp only[aA]at G;subst G;have:=(E 0 _ rfl).1;simpa using this)
   have T:(b.data.toList.map λx=>(x.toNat:Int)).length=xs.length:=by rw[g,gM,yaa,yaa]
   rw[T]at F;simp only[Extern.Bytes.bytesOf];rw[F];congr 1;apply ByteArray.ext
   have U:Go.Lib.bytesOf (b.data.toList.map λx=>(x.toNat:Int))=b.data.toList:=by
    unfold Go.Lib.bytesOf;rw[List.map_map]
    conv=>rhs;rw[<-List.map_id b.data.toList]
    exact List.map_congr_left λz _=>by simp
   rw[U];show(#[]:Array yB)++b.data.toList.toArray=b.data;simp
theorem ZGh(ok:Ok J)(z:aB J ts a){c:Call}{f:yp}{g:yr}{E F:yO Bool}{xs ys:yL Pl}{x y:ByteArray}(ho:o.op=.call c)(G:c.callee=.value f)(I:aC P ts 0 f=.fn g [])(hb:nj P g=ae)
 (hsz:c.args.size=c.argTypes.size) (M:Xe P [] ts c g []=[.p (.sl E 1 xs),.p (.sl F 1 ys)]) (Q:xs=gM x) (R:ys=gM y):YZ P o a J (.p (.int .i64 (Go.Lib.compareBytes x.data.toList y.data.toList))) J.H:=by
 have j:=Zo (P:=P) z 0 f;rw[I]at j
 have A:g < big:=by
  unfold nj at hb;grind
 obtain⟨B,l,m⟩:=SJ A j
 have h:aH J (Xe P [] ts c g []) (c.args.map a.eval++B).toList:=by
  unfold Xe;rw[yW A,Array.toList_append,Array.toList_map];exact pg (po z [] (by simpa using hsz)) (qY [] m)
 rw[M]at h;simp only[aH]at h;obtain⟨u,r1,S,T,v,r2,U,W,X⟩:=h;subst U;subst X;have e4:c.args.map a.eval++B= #[u,v]:=Array.toList_inj.1 S;refine Zk ok (ZHS J.w ho G l hb ?_) (Zx _ _);rw[e4];have Y:=TY (P:=P) T Q;have Z:=TY (P:=P) W R;change Sem.run P (do pure (goInt (Extern.BytealgCompare.cmp (<-Extern.Bytes.bytesOf u) (<-Extern.Bytes.bytesOf v)))) J.w=_
 simp only[Sem.run_bind,Y,Z,Sem.run_pure,Result.andThen];rw[Go.Lib.cmp_eq];rfl
theorem ZDb(ok:Ok J){src dst e:yc}{x:yp}{b:ByteArray}(ho:o.op=.convert src dst x)(hs:P.underlying src=ab .string)(hd:P.underlying dst=ab (.slice e))(he:P.underlying e=ab (.int .u8))
 (hv:a.eval x=.string b) (hb:b.size<=maxLen):YZ P o a J (.p (.sl (ab ae) 1 (b.data.toList.map λx=>.int .u8 (x.toNat:Int)))) J.H:=by
 have B:J.w.grownBy (Go.Lib.bytesWorld J.w e b) ad:=⟨rfl,rfl,rfl,by rw[Go.Lib.bytesWorld_size];omega,λk E _=>Go.Lib.bytesWorld_at_old J.w e b k E⟩;obtain⟨to,f⟩:=nB ok B;have g:=Go.Lib.run_convert_string_bytes (P:=P) J.w src dst e b hs hd he
 refine ZS (J':={ J with w:=Go.Lib.bytesWorld J.w e b}) (v:=.slice (ab ⟨J.w.heap.size,0,ad⟩) b.size (grownCap J.w b.size 0 e)) (by
  have F:execOp a.eval o=(do pure (.value (<-convert src dst (.string b)))):=by simp only[execOp,ho,hv]
  rw[F];generalize Go.Lib.bytesWorld J.w e b=w1 at g;generalize grownCap J.w b.size 0 e=R at g;simp[g]) to f ?_
 have m:(b.data.toList.map λx=>Pl.int .u8 (x.toNat:Int)).length=b.size:=by rw[yaa,ybu];rfl
 have G:bc 1 (b.data.toList.map λx=>Pl.int .u8 (x.toNat:Int)):=λy I=>by
  obtain⟨z,_,rfl⟩:=ybx.1 I;rfl
 rw[<-m];refine YH G (by rw[m];exact grownCap_ge ..) (by rw[m];exact grownCap_le_maxLen _ _ _ _ hb) (kR rfl) (λh=>(by cases h)) (λ_=>⟨J.w.heap.size,0,b.data.toList.map λx=>.int .u8 (x.toNat:Int),rfl, ?_,λj u A=>⟨?_, ?_⟩⟩)
 .generalize b.data.toList=l
  induction l with
  |nil=>simp[au]
  |cons z l M=>exact⟨[_],_,rfl,by simp[aA],M⟩
 .rw[yak]at A;obtain⟨z,S,rfl⟩:=yv.1 A
  have Q:j < b.size:=by
   grind
  rw[yax];have:=Go.Lib.bytesWorld_cell J.w e b j Q;grind
 .exact SE f (ok.new _ (ym _)) (BN ok)
theorem ZGi(ok:Ok J)(F:aB J ts a)(h:bj P o ts hs=ab (C,d,hs'))(hc:aZ C):YZ P o a J d J.H:=by
 have h0:=h;unfold bj at h;split at h
 .rename_i x B
  have main:d=aC P ts o.type x->YZ P o a J d J.H:=λe=>by
   subst e;exact Zk (v:=a.eval x) ok (by simp[execOp,B]) (Zo F _ _)
  split at h
  .simp only[yo,yq]at h;exact main h.2.1.symm
  .cases h
 .rename_i x B
  have main:d=aC P ts o.type x->YZ P o a J d J.H:=λe=>by
   subst e;exact Zk (v:=a.eval x) ok (by simp[execOp,B]) (Zo F _ _)
  split at h
  .simp only[yo,yq]at h;exact main h.2.1.symm
  .cases h
 .rename_i c x y B;split at h
  .rename_i t β R hcv;simp only[yo,yq]at h;obtain⟨rfl,rfl,rfl⟩:=h;have hb:=Zo (P:=P) F 0 c;rw[hcv]at hb;have hb':=Yl hb;have ht:t=β:=hc.1;subst ht;refine Zk (v:=if t then a.eval x else a.eval y) ok (by simp[execOp,B,hb',asBool]) ?_
   cases t
   .exact Zo F _ _
   .exact Zo F _ _
  .cases h
 .rename_i x B;split at h
  .rename_i i f p E;simp only[yo,yq]at h;obtain⟨rfl,rfl,rfl⟩:=h;have l:=Zo (P:=P) F 0 x;rw[E]at l;obtain⟨b,I,S,T⟩:=lc l;exact Zk (v:=a.eval x) ok (by simp[execOp,B,T]) l
  .rename_i i v f p E;simp only[yo,yq]at h;obtain⟨rfl,rfl,rfl⟩:=h;have l:=Zo (P:=P) F 0 x;rw[E]at l;obtain⟨b,o',T,_⟩:=uU l;exact Zk (v:=a.eval x) ok (by simp[execOp,B,T]) l
  .rename_i y E;simp only[yo,yq]at h;obtain⟨rfl,rfl,rfl⟩:=h;have l:=Zo (P:=P) F 0 x;rw[E]at l;obtain⟨b,o',us,T,_⟩:=qP l;exact Zk (v:=a.eval x) ok (by simp[execOp,B,T]) l
  .rename_i f cap E;simp only[yo,yq]at h;obtain⟨rfl,rfl,rfl⟩:=h;have l:=Zo (P:=P) F 0 x;rw[E]at l;obtain⟨fs,cs,T,_⟩:=uV l;exact Zk (v:=a.eval x) ok (by simp[execOp,B,T]) l
  .cases h
 .rename_i op t x y yt B;obtain⟨v,I,S,T⟩:=ZAO (P:=P) h hc (Zo F t x) (Zo F yt y) x y;exact Zk ok (by simp[execOp,B,I,S]) T
 .rename_i t x B;split at h
  .rename_i b E;simp only[yo,yq]at h;obtain⟨rfl,rfl,rfl⟩:=h;have l:=Zo (P:=P) F 0 x;rw[E]at l;exact Zk (v:=.bool (!b)) ok (by simp[execOp,B,Yl l,Op.unary]) (Yh _)
  .cases h
 .rename_i t x B;split at h
  .rename_i k n E;have l:=Zo (P:=P) F 0 x;rw[E]at l;exact Zk ok (by simp[execOp,B,ZH l,Op.unary,Op.intArith]) (qL h hc J)
  .cases h
 .rename_i t x B;split at h
  .rename_i k n E;have l:=Zo (P:=P) F 0 x;rw[E]at l;split at h
   .cases h
   .rename_i G;simp only[yo,yq]at h;obtain⟨rfl,rfl,rfl⟩:=h;exact Zk ok (by simp[execOp,B,ZH l,Op.unary,G,intBits_xor]) (Zx k _)
  .cases h
 .rename_i src dst x B;split at h
  .rename_i d1 k k' n R X E;have l:=Zo (P:=P) F src x;rw[E]at l;refine Zk ok ?_ (qL h hc J);simp[execOp,B,ZH l,convert,run_underlying R,run_underlying X,Conv.intToInt]
  .rename_i e nn s xs R X E;have l:=Zo (P:=P) F src x;rw[E]at l;split at h
   .rename_i b hs2 he;split at h
    .rename_i I;subst I;simp only[yo,yq]at h;obtain⟨rfl,rfl,rfl⟩:=h;refine Zk (v:=.string b) ok ?_ (by simp[yJ,Dv.isAgg,Pl.isAgg,yH,aA]);have zB:=TW (P:=P) R he X l hc.1;simp[execOp,B,zB]
    .cases h
   .cases h
  .rename_i e id nn s xs R X E;have l:=Zo (P:=P) F src x;rw[E]at l;split at h
   .rename_i b hs2 he;split at h
    .rename_i I;subst I;simp only[yo,yq]at h;obtain⟨rfl,rfl,rfl⟩:=h;refine Zk (v:=.string b) ok ?_ (by simp[yJ,Dv.isAgg,Pl.isAgg,yH,aA]);have zB:=TW (P:=P) R he X (pd l) hc.1;simp[execOp,B,zB]
    .cases h
   .cases h
  .rename_i e b R X E;have l:=Zo (P:=P) F src x;rw[E]at l;split at h
   .rename_i he;simp only[yo,yq]at h;obtain⟨rfl,rfl,rfl⟩:=h;exact ZDb ok B R X he (pc l) hc.1
   .cases h
  .cases h
 .rename_i t x B;have l:=Zo (P:=P) F 0 x;split at h
  .rename_i n e nn s xs Q E;rw[E]at l;split at h
   .rename_i hn;simp only[yo,yq]at h;obtain⟨rfl,rfl,rfl⟩:=h;exact TX ok B Q l (by simpa using hn) hc.1
   .cases h
  .rename_i n e id nn s xs Q E;rw[E]at l;split at h
   .rename_i hn;simp only[yo,yq]at h;obtain⟨rfl,rfl,rfl⟩:=h;exact TX ok B Q (pd l) (by simpa using hn) hc.1
   .cases h
  .cases h
 .rename_i f first captured B
  split at h
  .rename_i hf;simp only[yo,yq]at h;obtain⟨rfl,rfl,rfl⟩:=h;rw[yi,yP]at hf;obtain⟨hf,U⟩:=hf;have:first= #[]:=by simpa using hf
   subst this;refine Zk (v:=.func (.func f) #[] (captured.map a.eval)) ok (by simp[execOp,B,Instr.makeFunc]) ?_;rw[Zj rfl];simp only[yH];refine⟨#[],captured.map a.eval, ?_,yW U,by rw[Array.empty_append,Array.toList_map];exact BE _ _ (λx=>Zo F 0 x) _⟩;unfold fI;rw[yW U]
  .split at h
   .rename_i hc2;simp only[yo,yq]at h;obtain⟨rfl,rfl,rfl⟩:=h;have:captured= #[]:=by simpa using hc2
    subst this;have hge:¬f+big < big:=Nat.not_lt.2 (Nat.le_add_left big f);refine Zk (v:=.func (.func f) (first.map a.eval) #[]) ok (by simp[execOp,B,Instr.makeFunc]) ?_
    rw[Zj rfl];simp only[yH];refine⟨first.map a.eval, #[], ?_,yX hge,by rw[Array.append_empty,Array.toList_map];exact BE _ _ (λx=>Zo F 0 x) _⟩
    unfold fI;rw[yX hge,Nat.add_sub_cancel]
   .cases h
 .rename_i t x B;split at h
  .cases h
  .rename_i u Q hne;simp only[yo,yq]at h;obtain⟨rfl,rfl,rfl⟩:=h;obtain⟨I,S⟩:=Zo (P:=P) F t x;refine Zk (v:=.iface t (a.eval x)) ok ?_ ?_
   .have e:(Instr.makeInterface t (a.eval x)).run P J.w=.ok (.iface t (a.eval x)) J.w:=by
     simp only[Instr.makeInterface,Sem.run_bind,run_underlying hne,Result.andThen_ok];rfl
    simp[execOp,B,e]
   .rw[Zj rfl];simp only[yH];exact⟨a.eval x,rfl,I,S⟩
  .cases h
 .rename_i t x i B;simp only[yv,yq]at h;obtain⟨d1,I,rfl,rfl,rfl⟩:=h;obtain⟨u,S,T⟩:=ZwB I (Zo (P:=P) F t x);exact Zk ok (by simp[execOp,B,S]) T
 .rename_i t x i B;have l:=Zo (P:=P) F 0 x;split at h
  .rename_i fs id off yQ Q E;rw[E]at l;split at h
   .rename_i f hf;split at h
    .rename_i G;simp only[yi,yE]at G;simp only[yo,yq]at h;obtain⟨rfl,rfl,rfl⟩:=h;obtain⟨b,I,S,T⟩:=lc l;refine Zk (v:=.pointer (ab ⟨b,off+f.offset,ad⟩)) ok ?_ ?_
     .have hs:=Z3 (P:=P) G.2 J.w
      have Y:(fieldPlace ⟨b,off,ad⟩ f).run P J.w=.ok ⟨b,off+f.offset,ad⟩ J.w:=by
       unfold fieldPlace;rw[Sem.run_bind,hs];simp only[Result.andThen_ok,G.1,if_false,Sem.run_pure,Addr.bI]
      simp[execOp,B,T,Instr.fieldAt,run_underlying Q,hf,Instr.sureAddr,Y]
     .rw[Zj rfl];simp only[yH];exact⟨b,I,S,rfl⟩
    .cases h
   .cases h
  .rename_i fs id v off yQ Q E;rw[E]at l;split at h
   .rename_i f hf;split at h
    .rename_i G;simp only[yi,yE]at G;simp only[yo,yq]at h;obtain⟨rfl,rfl,rfl⟩:=h;obtain⟨b,o',T,h4⟩:=uU l;refine Zk (v:=.pointer (ab ⟨b,o'+f.offset,ad⟩)) ok ?_ (BF (BG h4));have hs:=Z3 (P:=P) G.2 J.w
     have Y:(fieldPlace ⟨b,o',ad⟩ f).run P J.w=.ok ⟨b,o'+f.offset,ad⟩ J.w:=by
      unfold fieldPlace;rw[Sem.run_bind,hs];simp only[Result.andThen_ok,G.1,if_false,Sem.run_pure,Addr.bI]
     simp[execOp,B,T,Instr.fieldAt,run_underlying Q,hf,Instr.sureAddr,Y]
    .cases h
   .cases h
  .rename_i fs y Q E;rw[E]at l;split at h
   .rename_i z hz;simp only[yo,yq]at h;obtain⟨rfl,rfl,rfl⟩:=h;obtain⟨b,off,us,I,S,T⟩:=qP l;unfold jb at hz;rw[Q]at hz;split at hz
    .rename_i fs' xs hfs hxs;cases hfs;cases hxs;split at hz
     .rename_i y' hy;split at hz
      .rename_i hok;cases hz;unfold kg at hok;split at hok
       .rename_i f hf;simp only[yi,yT,yE]at hok;obtain⟨⟨⟨⟨⟨k1,k2⟩,k3⟩,k4⟩,k5⟩,k6⟩:=hok;simp only[aA]at S;obtain⟨p1,p2,p3,rfl,e1,e2,_⟩:=kW S hy;refine Zk (v:=.pointer (ab ⟨b,off+f.offset,ad⟩)) ok ?_ ?_
        .have hs:=Z3 (P:=P) k3 J.w
         have Y:(fieldPlace ⟨b,off,ad⟩ f).run P J.w=.ok ⟨b,off+f.offset,ad⟩ J.w:=by
          unfold fieldPlace;rw[Sem.run_bind,hs];simp only[Result.andThen_ok,k2,k6,if_false,Sem.run_pure,Addr.bI]
         simp[execOp,B,I,Instr.fieldAt,run_underlying Q,hf,Instr.sureAddr,Y]
        .rw[Zj rfl];simp only[yH];refine⟨b,_,p2,rfl,e2, ?_⟩;have:=(W9.append (W9.append T).2).1;rw[e1, <-k1]at this;exact this
       .cases hok
      .cases hz
     .cases hz
    .rename_i hxs;cases hxs
    .cases hz
   .cases h
  .cases h
 .rename_i t x ix B;exact ZAI ok F B h0 hc
 .rename_i t x ix B;have l:=Zo (P:=P) F t x;have hi:=Zo (P:=P) F 0 ix;split at h
  .rename_i n e n' s xs k i Q E hix;rw[E]at l;rw[hix]at hi;split at h
   .rename_i y R;split at h
    .rename_i G;simp only[yi,yP,yT,yE]at G;obtain⟨⟨⟨⟨⟨rfl,k1⟩,k2⟩,k3⟩,k4⟩,k5⟩:=G;simp only[yo,yq]at h;obtain⟨rfl,rfl,rfl⟩:=h;obtain⟨c1,c2,_⟩:=hc;obtain⟨cs,hcs,Y⟩:=(ZZ rfl).1 l;simp only[yH,aA]at Y;obtain⟨r1,r2,r3⟩:=Y;obtain⟨p1,p2,p3,ecs,e1,e2,_⟩:=kW r3 c2;have U:i.toNat < xs.length:=(yu.1 c2).1;have hys:y.size=s:=r2 y (ybs c2)
     have hpl:p1.length=i.toNat*s:=by
      rw[e1,aR (Qc r2 _),yac,ybb (Nat.le_of_lt U)]
     obtain⟨v,I,S⟩:=kl (P:=P) (J:=J) (t:=e) (d:=.p y) ecs (by simpa[yH] using e2) (by rw[k1];exact hys.symm) k4 k3 k2 (by show y.size≠0;rw[hys];exact k5);refine Zk ok ?_ S;have hb:0<=i/\i < (n:Int):=⟨c1,by omega⟩;rw[hpl, <-k1]at I;simp[execOp,B,hcs,ZH hi,Instr.index,asIntOf,run_underlying Q,hb,Z3 k4,I]
    .cases h
   .cases h
  .rename_i s k i Q E hix;rw[E]at l;rw[hix]at hi;split at h
   .rename_i b R;simp only[yo,yq]at h;obtain⟨rfl,rfl,rfl⟩:=h;obtain⟨c1,c2,_⟩:=hc;obtain⟨x0,I,rfl⟩:=yv.1 c2;refine Zk ok (v:=.int .u8 x0.toNat) ?_ (Zx _ _)
    have hg:s[i.toNat]? =ab x0:=by
     rw[<-I];have U:i.toNat < s.data.toList.length:=(yu.1 I).1;have hlt':i.toNat < s.size:=by simpa using U
     rw[getElem?_pos s i.toNat hlt',yad U];rfl
    simp[execOp,B,pc l,ZH hi,Instr.index,asIntOf,run_underlying Q,c1,hg]
   .cases h
  .rename_i n e n' s xs k i Q E hix;rw[E]at l;rw[hix]at hi;split at h
   .rename_i y c2;split at h
    .rename_i G;simp only[yi,yP,yT,yE]at G;obtain⟨⟨⟨⟨⟨rfl,k1⟩,k2⟩,k3⟩,k4⟩,k5⟩:=G;simp only[yo,yq]at h;obtain⟨rfl,rfl,rfl⟩:=h;obtain⟨c1,_⟩:=hc;obtain⟨cs,hcs,Y⟩:=(ZZ rfl).1 l;simp only[yH]at Y;obtain⟨r1,r2,r3⟩:=Y;obtain⟨p1,p2,p3,ecs,e1,e2,_⟩:=mc r3 c2;have U:i.toNat < xs.length:=(yu.1 c2).1;have hys:y.size=s:=r2 y (ybs c2)
     have hpl:p1.length=i.toNat*s:=by
      rw[e1,cU (λx E=>r2 x (ybw E)),yac,ybb (Nat.le_of_lt U)]
     obtain⟨v,I,S⟩:=kl (P:=P) (J:=J) (t:=e) (d:=y) ecs e2 (by rw[k1];exact hys.symm) k4 k3 k2 (by rw[hys];exact k5);refine Zk ok ?_ S;have hb:0<=i/\i < (n:Int):=⟨c1,by omega⟩;rw[hpl, <-k1]at I;simp[execOp,B,hcs,ZH hi,Instr.index,asIntOf,run_underlying Q,hb,Z3 k4,I]
    .cases h
   .cases h
  .cases h
 .rename_i t x lo hi B;exact ZK4 ok F B h0 hc
 .rename_i t x lo hi mx B;exact ZHM ok F B h0 hc
 .rename_i x i B;split at h
  .rename_i ds E;simp only[yv,yq]at h;obtain⟨d1,I,rfl,rfl,rfl⟩:=h;have l:=Zo (P:=P) F 0 x;rw[E,Zj rfl]at l;simp only[yH,List.cons.injEq,and_true]at l;obtain⟨cs,l,Y⟩:=l;obtain⟨v,S,T⟩:=uR Y I;have h2':cs[i]? =ab v:=by simpa using S
   exact Zk ok (by simp[execOp,B,l,Instr.extract,h2']) T
  .cases h
 .rename_i t x B;split at h
  .rename_i y E;split at h
   .rename_i G;simp only[yi,yT,yP]at G;obtain⟨⟨⟨k1,k2⟩,k3⟩,k4⟩:=G;simp only[yo,yq]at h;obtain⟨rfl,rfl,rfl⟩:=h;have l:=Zo (P:=P) F 0 x;rw[E]at l;obtain⟨b,off,us,I,S,T⟩:=qP l;obtain⟨v,h4,h5⟩:=uP (P:=P) (J:=J) (d:=.p y) (by simpa[yH] using S) (λj u Q=>(T j u Q).1) k1 k4 k3 k2;exact Zk ok (by simp[execOp,B,I,Instr.loadAt,Instr.sureAddr,h4]) h5
   .cases h
  .cases h
 .rename_i t parts B;exact ZK5 ok F B h0
 .rename_i c B;split at h
  .rename_i Z;split at h
   .rename_i x t W M;have l:=Zo (P:=P) F t x;split at h
    .rename_i e nn s xs Q E;rw[E]at l;simp only[yo,yq]at h;obtain⟨rfl,rfl,rfl⟩:=h;obtain⟨_,A,cp,I,_⟩:=WD l;exact Zk ok (nJ B Z W M (by rw[I];simp[Builtin.len_,run_underlying Q];rfl)) (Zx _ _)
    .rename_i e id nn s xs Q E;rw[E]at l;simp only[yo,yq]at h;obtain⟨rfl,rfl,rfl⟩:=h;obtain⟨_,A,cp,I,_⟩:=mb l;exact Zk ok (nJ B Z W M (by rw[I];simp[Builtin.len_,run_underlying Q];rfl)) (Zx _ _)
    .rename_i e id off yQ s lo n Q E;rw[E]at l;simp only[yo,yq]at h;obtain⟨rfl,rfl,rfl⟩:=h;obtain⟨b,cp,aa,_,_,I,_⟩:=nF l;exact Zk ok (nJ B Z W M (by rw[I];simp[Builtin.len_,run_underlying Q];rfl)) (Zx _ _)
    .rename_i e id v s lo n Q E;rw[E]at l;simp only[yo,yq]at h;obtain⟨rfl,rfl,rfl⟩:=h;obtain⟨A,cp,I,_⟩:=ko l;exact Zk ok (nJ B Z W M (by rw[I];simp[Builtin.len_,run_underlying Q];rfl)) (Zx _ _)
    .rename_i dd n e Q;simp only[yo,yq]at h;obtain⟨rfl,rfl,rfl⟩:=h;exact Zk ok (nJ B Z W M (by simp[Builtin.len_,run_underlying Q];rfl)) (Zx _ _)
    .rename_i s Q E;rw[E]at l;simp only[yo,yq]at h;obtain⟨rfl,rfl,rfl⟩:=h;exact Zk ok (nJ B Z W M (by rw[pc l];simp[Builtin.len_,run_underlying Q];rfl)) (Zx _ _)
    .cases h
   .cases h
  .rename_i Z;split at h
   .rename_i x y t u W M;have l:=Zo (P:=P) F t x;have hw:=Zo (P:=P) F u y;split at h
    .rename_i m n E hy;rw[E]at l;rw[hy]at hw;simp only[yo,yq]at h;obtain⟨rfl,rfl,rfl⟩:=h;exact Zk ok (ZHP B Z W M (by rw[ZH l,ZH hw];simp[Builtin.max_,Builtin.max2])) (Zx _ _)
    .cases h
   .cases h
  .rename_i Z;split at h
   .rename_i x y t u W M;have l:=Zo (P:=P) F t x;have hw:=Zo (P:=P) F u y;split at h
    .rename_i m n E hy;rw[E]at l;rw[hy]at hw;simp only[yo,yq]at h;obtain⟨rfl,rfl,rfl⟩:=h;exact Zk ok (ZHQ B Z W M (by rw[ZH l,ZH hw];simp[Builtin.min_,Builtin.min2])) (Zx _ _)
    .cases h
   .cases h
  .rename_i Z;split at h
   .rename_i x y t u R W M;split at h
    .rename_i e s Q E;split at h
     .rename_i i ys hi hsrc;split at h
      .rename_i G;simp only[yi,yE]at G;simp only[yo,yq]at h;obtain⟨rfl,rfl,rfl⟩:=h;exact ZwC ok F B Z W M Q E hi G.1 G.2 hsrc hc.1 hc.2.1
      .cases h
     .cases h
    .cases h
   .cases h
  .rename_i f Z;split at h
   .rename_i g cap r R hf;split at h
    .rename_i G;simp only[yi,yT]at G;split at h
     .rename_i args' r1 W Y;simp only[yo,yq]at h;obtain⟨rfl,rfl,rfl⟩:=h
      have:=TN (P:=P) (ids:=[]) (Hin:=[]) (H':=[]) (Hb:=[]) (r:=r) (r':=r) ok F B Z hf G.1 G.2 rfl (ym _) (by rw[qZ];exact W) rfl
       (re r r1 Y) rfl hc.1
      rwa [TU]at this
     .cases h
    .cases h
   .rename_i g x y R hf;split at h
    .rename_i G;simp only[yi,yT]at G;split at h
     .rename_i n1 s xs n2 s' ys W;split at h
      .rename_i I;obtain⟨I,S⟩:=I;subst I;subst S;simp only[yo,yq]at h;obtain⟨rfl,rfl,rfl⟩:=h;exact ZGh ok F B Z hf G.1 G.2 W hc.1 hc.2.1
      .cases h
     .cases h
    .cases h
   .cases h
  .cases h
 .rename_i t len parts B;split at h
  .rename_i R;split at h
   .rename_i e Q;split at h
    .rename_i i xs hi hl;split at h
     .rename_i G;simp only[yi,yE,yP]at G;simp only[yo,yq]at h;obtain⟨rfl,rfl,rfl⟩:=h;exact Vg (SZ ok F B Q hi G.1.1 G.1.2 G.2 hl) (Wk.p (bF.qN (by rw[<-Pl.cH];exact cL _))) (ca.refl _)
     .cases h
    .cases h
   .cases h
  .rename_i R;split at h
   .rename_i e Q;split at h
    .rename_i i xs hi hl;split at h
     .rename_i G;simp only[yi,yE,yP]at G;simp only[yo,yq]at h;obtain⟨rfl,rfl,rfl⟩:=h;exact SZ ok F B Q hi G.1.1 G.1.2 G.2 hl
     .cases h
    .cases h
   .cases h
  .cases h
 .cases h
theorem ZGj{x y:yp}{t u:yc}{c:Call}{w':yy}(ho:o.op=.call c)(hc:c.callee=.builtin .copy)(g:c.args.toList=[x,y])(f:c.argTypes.toList=[t,u]){v:yh}
 (h:(Builtin.copy_ #[t,u] o.type #[a.eval x,a.eval y]).run P J.w=.ok v w'):(execOp a.eval o).run P J.w=.ok (.value v) w':=by
 have j:c.args= #[x,y]:=by rw[<-ycf (xs:=c.args),g]
 have l:c.argTypes= #[t,u]:=by rw[<-ycf (xs:=c.argTypes),f]
 simp[execOp,ho,resolve,hc,j,l,invoke,builtin,h]
theorem vi(ok:Ok J){id v Z s lo n N:Nat}{st:Bool}{e:yc}{zs:yL Pl}{u:yh}(R:yJ J (.rv id v s lo n) u)(hH:J.H[id]? =ab (.row Z s st e (.p (.arr N s zs))))(hv:Z=v)(hle:lo+n<=N):
 ∃A c,u=.slice A n c/\n<=c/\c<=maxLen/\(A=ad->c=0)/\bc s ((zs.drop lo).take n)/\((zs.drop lo).take n).length=n/\∃q,au J.w J.bh ((zs.drop lo).take n) q/\q.length=n*s/\
  (0 < n->∃b cur cap,A=ab ⟨b,lo*s,ad⟩/\J.m[id]? =ab (ab b)/\J.w.heap[b]? =ab (.cells cur e (0,0))/\cur.size=cap*s/\∀(j:Nat)(u:yh),q[j]? =ab u->J.w.cell? ⟨b,lo*s+j,ad⟩=ab u):=by
 obtain⟨A,c,rfl,h2,h3,h4,h5,v2,s2,st2,y,d2,h6,S,h8⟩:=ko R;rw[hH]at h6;cases h6;obtain⟨_,h9⟩:=h8 hv;have g:id < J.m.length:=by rw[ok.len];exact(yu.1 hH).1
 have l:J.m[id]? =ab J.m[id]:=yad g;obtain⟨N',B,E⟩:=ok.dx id _ _ hH l;simp only[aS,if_true,yo]at B;subst B;by_cases hn:n=0
 .subst hn;refine⟨A,c,rfl,h2,h3,h4, ?_,by simp,[],by simp[au],by simp,λh=>absurd h (by omega)⟩;simp only[List.take_zero];intro x R;cases R
 have hpos:0 < n:=Nat.pos_of_ne_zero hn;rcases h9 with⟨_,_,M⟩|⟨b,cur,F,T,k3,k4⟩
 .omega
 rw[l]at F;rcases E with⟨Q,_⟩|⟨b',cur',cap,Q,g2,g4,g5,g6,g7⟩
 .rw[Q]at F;cases F
 rw[Q]at F;cases F;rw[T]at g2;cases g2;simp only[yH,aA]at g7;obtain⟨hxl,G,S⟩:=g7
 have f:zs=zs.take lo++((zs.drop lo).take n++zs.drop (lo+n)):=by
  have U:zs.drop (lo+n)=(zs.drop lo).drop n:=by rw[List.drop_drop]
  rw[U,ybg,ybg]
 rw[f]at S;obtain⟨q1,q23,U,r1,W⟩:=Yd S;obtain⟨X,q3,rfl,r2,r3⟩:=Yd W;have Y:bc s (zs.take lo):=λz M=>G z (ybw M);have I:bc s ((zs.drop lo).take n):=λz M=>G z (ycy (ybw M));have ly:((zs.drop lo).take n).length=n:=by rw[yac,ybt,ybb (by omega)]
 have l1:q1.length=lo*s:=by rw[aO _ _ r1,aR Y,yac,ybb (by omega)]
 have l2:X.length=n*s:=by rw[aO _ _ r2,aR I,ly]
 refine⟨A,c,rfl,h2,h3,h4,I,ly,X,r2,l2,λ_=>⟨b,cur,cap,k4 (by omega),by rw[l,Q],T,g4,λj u hu=> ?_⟩⟩;rw[cell_of_row J.w b _ cur e (0,0) T, <-ycl];have hj:j < X.length:=(yu.1 hu).1
 have y:(cur.toList.take (N*s))[lo*s+j]? =ab u:=by
  rw[U,yas (by omega),l1,Nat.add_sub_cancel_left,ybd hj];exact hu
 rw[yct]at y;split at y
 .exact y
 .cases y
theorem vj(ok:Ok J)(yM:aB J ts a){s:Nat}{u ut:yc}{y:yp}{ys:yL Pl}{hs1:yL ar}{C1:yL Prop}(h:iz P s u J.H hs (aC P ts ut y)=ab (C1,ys,hs1))(hc:aZ C1):
 nG P J s u (a.eval y) ys:=by
 unfold iz at h;split at h
 .rename_i id off yQ s' lo n hd;have B:=Zo (P:=P) yM ut y;rw[hd]at B;obtain⟨b,R,A,hm,E,S,Z,hcm,hA⟩:=nF B;split at h
  .rename_i e dd st hu hH;split at h
   .rename_i C2 f N l zs hs2 hg;split at h
    .rename_i hk;simp only[yi,yP]at hk;obtain⟨rfl,rfl⟩:=hk;simp only[yo,yq]at h;obtain⟨rfl,rfl,rfl⟩:=h;obtain⟨c1,rfl,c2,_⟩:=Zm.1 hc;obtain⟨b',Y,t',h1,h2,h3,h4⟩:=ok.dx id _ _ hH hm;cases h1;obtain⟨p1,p2,p3,h5,h6,h7,_⟩:=lh yQ dd hs hs2 C2 f (.p (.arr N l zs)) _ hg c1 h3;simp only[yH,aA]at h7;obtain⟨hxl,hxs,h7⟩:=h7
     have F:zs=zs.take lo++((zs.drop lo).take n++zs.drop (lo+n)):=by
      have e1:zs.drop (lo+n)=(zs.drop lo).drop n:=by rw[List.drop_drop]
      rw[e1,ybg,ybg]
     rw[F]at h7;obtain⟨q1,q23,rfl,r1,r23⟩:=Yd h7;obtain⟨m,q3,rfl,r2,r3⟩:=Yd r23;have hs1:bc l (zs.take lo):=λz T=>hxs z (ybw T);have G:bc l ((zs.drop lo).take n):=λz T=>hxs z (ycy (ybw T));have Q:((zs.drop lo).take n).length=n:=by rw[yac,ybt,ybb (by omega)]
     have l1:q1.length=lo*l:=by rw[aO _ _ r1,aR hs1,yac,ybb (by omega)]
     have U:m.length=n*l:=by rw[aO _ _ r2,aR G,Q]
     rw[S];refine⟨m,⟨.inl ⟨_,hu⟩,λw'=>by rw[Q];rfl, ?_, ?_,by rw[Q];exact U⟩,r2,λ_=>G⟩
     all_goals
      rw[Q];rcases ycq n with h0|h0
      .subst h0;have T:m=[]:=ybh (by rw[U];simp);rw[T];simp[Builtin.firstCells,loadCells,loadCellsFrom]
      .rw[hA h0];refine run_firstCells_some _ l _ ⟨b,f+lo*l,ad⟩ _ R m U (λj v E=> ?_);rw[Addr.bI];have g:J.w.cell? ⟨b,f+lo*l+j,ad⟩=Y[f+lo*l+j]? :=cell_of_row J.w b _ Y t' (0,0) h2
       first
        |(rw[g, <-ycl]
          have W:Y.toList.take dd.size=(p1++q1)++(m++(q3++p3)):=by rw[h5];simp
          have X:(p1++q1).length=f+lo*l:=by rw[yl,h6,l1]
          have hj:j < m.length:=(yu.1 E).1
          have I:(Y.toList.take dd.size)[f+lo*l+j]? =ab v:=by
           rw[W,yas (by omega),X,Nat.add_sub_cancel_left,ybd hj];exact E
          rw[yct]at I;split at I
          .exact I
          .cases I)
        |(show J.w.drew.cell? _=_
          have M:J.w.drew.cell? ⟨b,f+lo*l+j,ad⟩=J.w.cell? ⟨b,f+lo*l+j,ad⟩:=rfl;rw[M,g, <-ycl];have W:Y.toList.take dd.size=(p1++q1)++(m++(q3++p3)):=by rw[h5];simp
          have X:(p1++q1).length=f+lo*l:=by rw[yl,h6,l1]
          have hj:j < m.length:=(yu.1 E).1
          have I:(Y.toList.take dd.size)[f+lo*l+j]? =ab v:=by
           rw[W,yas (by omega),X,Nat.add_sub_cancel_left,ybd hj];exact E
          rw[yct]at I;split at I
          .exact I
          .cases I)
    .cases h
   .cases h
  .cases h
 .rename_i id v s' lo n hd;have B:=Zo (P:=P) yM ut y;rw[hd]at B;split at h
  .rename_i e v' l st e' N s3 zs hu hH;split at h
   .rename_i hk;simp only[yi,yP,yT]at hk;obtain⟨⟨⟨rfl,rfl⟩,rfl⟩,E⟩:=hk;simp only[yo,yq]at h;obtain⟨rfl,rfl,rfl⟩:=h;obtain⟨A,R,S,Z,hcm,hA,G,Q,m,r2,U,hq⟩:=vi ok B hH E hc.1;rw[S];refine⟨m,⟨.inl ⟨_,hu⟩,λw'=>by rw[Q];rfl, ?_, ?_,by rw[Q];exact U⟩,r2,λ_=>G⟩
    all_goals
     rw[Q];rcases ycq n with h0|h0
     .subst h0;have T:m=[]:=ybh (by rw[U];simp);rw[T];cases A <;> simp[Builtin.firstCells,loadCells,loadCellsFrom]
     .obtain⟨b,cur,cp,rfl,_,_,_,g⟩:=hq h0;refine run_firstCells_some _ _ _ ⟨b,_,ad⟩ _ R m U (λj v E=> ?_);rw[Addr.bI];exact g j v E
   .cases h
  .cases h
 .simp only[yv,yq]at h;obtain⟨zs,h1,rfl,rfl,rfl⟩:=h;exact qS (P:=P) yM h1
theorem ZNp(ok:Ok J)(yM:aB J ts a){c:Call}{x y:yp}{t u e:yc}{id off s lo n N:Nat}{yQ:yL Nat}{dd dd':Dv}{xs ys:yL Pl}{C1:yL Prop}{off':Nat}(ho:o.op=.call c)(zL:c.callee=.builtin .copy)
 (yR:c.args.toList=[x,y]) (Q:c.argTypes.toList=[t,u]) (ht:P.underlying t=ab (.slice e)) (hx:aC P ts t x=.view id off yQ s lo n) (R:iw P s u (aC P ts u y)=ab ys)
 (hH:J.H[id]? =ab (.var dd ae)) (hg:Z9 dd yQ hs=ab (C1,off',.p (.arr N s xs),hs')) (hc:aZ C1) (he:off'=off) (hp:WS (.p (.arr N s (oY xs ys lo))) dd yQ hs=ab dd')
 (hce:P.cellsOf e=s) (hi:(P.info? e).isSome=ae) (hm':ys.length<=n) (hn:lo+n<=N):YZ P o a J (.p (.int .i64 (ys.length:Int))) (J.H.set id (.var dd' ae)):=by
 subst he;have B:=Zo (P:=P) yM t x;rw[hx]at B;obtain⟨b,cap,A,hm,hv,B,hcap,hcm,hA⟩:=nF B;obtain⟨g,hS,S,zU⟩:=qS (P:=P) yM R;obtain⟨b',E,T,h1,h2,h3,h4⟩:=ok.dx id _ _ hH hm;cases h1;obtain⟨p1,p2,p3,h5,h6,U,h8⟩:=lh yQ dd hs hs' C1 off' (.p (.arr N s xs)) _ hg hc h3;simp only[yH,aA]at U;obtain⟨hxl,I,U⟩:=U;have hlo:lo+ys.length<=xs.length:=by omega
 have F:xs=xs.take lo++((xs.drop lo).take ys.length++xs.drop (lo+ys.length)):=by
  have e1:xs.drop (lo+ys.length)=(xs.drop lo).drop ys.length:=by rw[List.drop_drop]
  rw[e1,ybg,ybg]
 rw[F]at U;obtain⟨W,q23,rfl,r1,r23⟩:=Yd U;obtain⟨q2,q3,rfl,r2,r3⟩:=Yd r23;have X:bc s (xs.take lo):=λz l=>I z (ybw l);have hs2:bc s ((xs.drop lo).take ys.length):=λz l=>I z (ycy (ybw l));have hs3:bc s (xs.drop (lo+ys.length)):=λz l=>I z (ycy l);have l1:W.length=lo*s:=by rw[aO _ _ r1,aR X,yac,ybb (by omega)]
 have l2:q2.length=ys.length*s:=by rw[aO _ _ r2,aR hs2,yac,ybt,ybb (by omega)]
 have ln:g.length=ys.length*s:=hS.cells
 have hys:bc s ys:=by
  by_cases h0:ys=[]
  .subst h0;intro z l;cases l
  .exact zU h0
 have G:yH J (.p (.arr N s (oY xs ys lo))) (W++(g++q3)):=by
  simp only[yH,aA];refine⟨?_, ?_, ?_⟩
  .unfold oY;simp only[yl,yac,ybt];omega
  .exact Vf X (Vf hys hs3)
  .exact Ym r1 (Ym S r3)
 obtain⟨h9,Y⟩:=h8 _ dd' _ hp rfl G;have Z:E.toList.take dd.size=(p1++W)++(q2++(q3++p3)):=by rw[h5];simp
 have hll:g.length=q2.length:=by rw[ln,l2]
 obtain⟨k1,k2⟩:=pn Z hll h4;have hpl:(p1++W).length=off'+lo*s:=by rw[yl,h6,l1]
 rw[hpl]at k1 k2
 have hnl:off'+lo*s+g.length<=E.size:=by
  have:=congrArg List.length Z;simp only[yac,ybu,yl]at this;omega
 have hone:∀v,v∈g->v.oneCell'=ae:=cG _ _ S;have hst:=run_storeCells_at P b (off'+lo*s) T g 0 E J.w h2 (by simpa using hnl) hone;simp only[ych]at hst;let f:Array yh:=(E.toList.take (off'+lo*s)++g++E.toList.drop (off'+lo*s+g.length)).toArray
 have hstA:(storeCells A g 0).run P J.w=.ok () (J.w.setRow b f):=by
  by_cases h0:ys.length=0
  .have l:g=[]:=ybh (by rw[ln,h0];simp)
   have e1:f=E:=by
    simp only[f,l,List.append_nil,ycn,ych,ybg,ycf]
   rw[e1,setRow_self J.w b E T (0,0) h2,l];simp[storeCells]
  .rw[hA (by omega)];exact hst
 let J':Sg:={ J with m:=J.m.set id (ab b),H:=J.H.set id (.var dd' ae),w:=J.w.setRow b f};have zV:J'.w.heap[b]? =ab (.cells f T (0,0)):=setRow_heap J.w b E _ T _ h2;have hoth:∀j,b≠j->J'.w.heap[j]? =J.w.heap[j]? :=λj hj=>setRow_other J.w b j _ (Ne.symm hj)
 obtain⟨to,ok'⟩:=Xy (J':=J') (mi:=ab b) (mi':=ab b) ok hH hm rfl rfl rfl rfl rfl rfl rfl (by simp[J'])
  (λj hj hne=>hoth j (λhh=>hne (by rw[hh]))) (λb' o v _ hu _=>by cases hu) (λo _ hu=>by cases hu) (.inl rfl) (λ_=>⟨rfl,dd',ae,rfl⟩) (λ⟨d,st,h⟩=>by cases h)
  (λs e xs h=>by cases h) (λleaf=>⟨b,f,T,rfl,zV,by rw[Y];show yH J' dd' (f.toList.take dd.size);rw[show f.toList.take dd.size=p1++((W++(g++q3))++p3) from by rw[k1];simp];exact Yb leaf dd' _ h9,by
    rw[Y];show dd.size<=f.size;have:f.size=E.size:=k2;omega⟩)
 refine ZS (J':=J') (v:=goInt ys.length) (ZGj ho zL yR Q ?_) to ok' (by rw[Zj rfl];simp[yH,aA,goInt])
 cases M:P.info? e with
 |none=>simp[M]at hi
 |some i=>
  have hsz:i.size=s:=by rw[<-hce];simp[Program.cellsOf,M]
  have hmin:Nat.min ys.length n=ys.length:=ybb hm';rw[B];simp[Builtin.copy_,run_underlying ht,hS.len,hmin,sizeOf,typeInfo,M,hsz,hS.first,hstA,goInt,J']
end
end Go.Ev
end
section
namespace Go.Ev
def rf:yh->Bool
 |.int _ _=>ae
 |.bool _=>ae
 |_=>af
mutual
theorem rg{w w':yy}{S S':Nat->Nat->Prop}:∀(x:Pl)(us vs:yL yh),x.flat=ae->aA w S x us->aA w' S' x vs->us=vs/\∀u,u∈us->rf u=ae
 |.int _ _,us,vs,_,h,k=>by simp only[aA]at h k;subst h;subst k;exact⟨rfl,λu g=>by rw[ybf.1 g];rfl⟩
 |.bool _,us,vs,_,h,k=>by simp only[aA]at h k;subst h;subst k;exact⟨rfl,λu g=>by rw[ybf.1 g];rfl⟩
 |.str _,_,_,h,_,_=>by simp[Pl.flat]at h
 |.cb,_,_,h,_,_=>by simp[Pl.flat]at h
 |.fn0,_,_,h,_,_=>by simp[Pl.flat]at h
 |.ew,_,_,h,_,_=>by simp[Pl.flat]at h
 |.cD,_,_,h,_,_=>by simp[Pl.flat]at h
 |.gG _,_,_,h,_,_=>by simp[Pl.flat]at h
 |.agg j,us,vs,f,h,k=>by
  simp only[Pl.flat]at f;simp only[aA]at h k
  exact dB j us vs f h k
 |.arr n s j,us,vs,f,h,k=>by
  simp only[Pl.flat]at f;simp only[aA]at h k
  exact dB j us vs f h.2.2 k.2.2
 |.sl _ _ _,_,_,h,_,_=>by simp[Pl.flat]at h
 |.iface _ _,_,_,h,_,_=>by simp[Pl.flat]at h
theorem dB{w w':yy}{S S':Nat->Nat->Prop}:∀(xs:yL Pl)(us vs:yL yh),Pl.aW xs=ae->au w S xs us->au w' S' xs vs->us=vs/\∀u,u∈us->rf u=ae
 |[],us,vs,_,h,k=>by simp only[au]at h k;subst h;subst k;exact⟨rfl,λu hu=>by cases hu⟩
 |x::xs,us,vs,f,h,k=>by
  simp only[Pl.aW,yi]at f;simp only[au]at h k;obtain⟨a,b,rfl,g,j⟩:=h;obtain⟨c,d,rfl,l,m⟩:=k;obtain⟨rfl,y⟩:=rg x a c f.1 g l;obtain⟨rfl,z⟩:=dB xs b d f.2 j m;refine⟨rfl,λu hu=> ?_⟩;rcases List.mem_append.1 hu with hu|hu
  .exact y u hu
  .exact z u hu
end
theorem TZ{J J':Sg}{x:Pl}{a b:yh}(g:x.flat=ae)(ha:yJ J (.p x) a)(hb:yJ J' (.p x) b):a=b:=by
 cases f:x.isAgg with
 |true=>
  obtain⟨j,rfl,h⟩:=(ZZ (d:=.p x) f).1 ha;obtain⟨l,rfl,k⟩:=(ZZ (d:=.p x) f).1 hb;simp only[yH]at h k;obtain⟨e,_⟩:=rg x _ _ g h k
  rw[show j=l from by cases j;cases l;simpa using e]
 |false=>
  have h:=(Zj (d:=.p x) f).1 ha;have k:=(Zj (d:=.p x) f).1 hb;simp only[yH]at h k;obtain⟨e,_⟩:=rg x _ _ g h k;simpa using e
theorem UA(n:Nat):∀{u:yh},rf u=ae->Instr.sameBits n u u=ae:=by
 intro u h;cases u <;> first|(cases n <;> simp[Instr.sameBits];done)|(simp[rf]at h)
theorem ZGk{J:Sg}{x:Pl}{a:yh}(j:x.flat=ae)(ha:yJ J (.p x) a):Instr.sameBits 10000 a a=ae:=by
 cases m:x.isAgg with
 |true=>
  obtain⟨f,rfl,h⟩:=(ZZ (d:=.p x) m).1 ha;simp only[yH]at h;obtain⟨_,e⟩:=rg x _ _ j h h;show(f.size==f.size&&(f.toList.zip f.toList).all λ(x,y)=>Instr.sameBits 9999 x y)=ae;simp only[beq_self_eq_true,Bool.true_and,List.all_eq_true];intro p hp
  have g:∀(l:yL yh),(∀u,u∈l->rf u=ae)->∀p,p∈l.zip l->Instr.sameBits 9999 p.1 p.2=ae:=by
   intro l
   induction l with
   |nil=>intro _ p hp;cases hp
   |cons z r B=>
    intro A p hp;simp only[List.zip_cons_cons]at hp;rcases ycc.1 hp with rfl|hp
    .exact UA 9999 (A z (yay ..))
    .exact B (λu E=>A u (yaz _ E)) p hp
  exact g _ e p hp
 |false=>
  have h:=(Zj (d:=.p x) m).1 ha;simp only[yH]at h;obtain⟨_,e⟩:=rg x _ _ j h h;exact UA 10000 (e a (ybf.2 rfl))
theorem UB{P:yg}{n:Nat}(j:∀(t:yc)(x:Pl),bu P n t x->x.flat=ae):∀(g:yL Field)(o:Nat)(xs:yL Pl),iu P (bu P n) g o xs->Pl.aW xs=ae
 |[],_,[],_=>rfl
 |[],_,_::_,h=>h.elim
 |_::_,_,[],h=>h.elim
 |f::g,o,y::l,h=>by
  obtain⟨_,_,_,_,_,_,_,a,b⟩:=h;simp only[Pl.aW,j _ _ a,UB j g _ l b,Bool.and_self]
theorem UC:∀{xs:yL Pl},(∀y,y∈xs->y.flat=ae)->Pl.aW xs=ae
 |[],_=>rfl
 |x::xs,h=>by simp only[Pl.aW,h x (yay ..),UC λy f=>h y (yaz _ f),Bool.and_self]
theorem rh{P:yg}:∀(n:Nat)(t:yc)(x:Pl),bu P n t x->x.flat=ae
 |0,_,_,h=>by simp[bu]at h
 |n+1,t,x,h=>by
  unfold bu at h;split at h
  .rfl
  .rfl
  .obtain⟨_,_,_,_,_,h⟩:=h;simp only[Pl.flat];exact UC λy f=>rh n _ y (h y f).1
  .simp only[Pl.flat];exact UB (rh n) _ _ _ h.2
  .exact h.elim
theorem ri{P:yg}{J:Sg}{em:Bool}:∀(n:Nat)(t:yc)(x:Pl)(a:yh),bu P n t x->yJ J (.p x) a->∀d,(Instr.checkKey em (d+n) t a).run P J.w=.ok () J.w
 |0,_,_,_,h,_,_=>by simp[bu]at h
 |n+1,t,x,a,R,g,d=>by
  unfold bu at R;rw[show d+(n+1)=(d+n)+1 from rfl]
  split at R
  .rename_i j;rw[Yl g];simp[Instr.checkKey,run_underlying j]
  .rename_i k k' z j;rw[ZH g];simp[Instr.checkKey,run_underlying j]
  .rename_i m e m' s l j;obtain⟨rfl,T,S,h3,h4,h5⟩:=R;rw[ZZ (by rfl)]at g;obtain⟨B,rfl,g⟩:=g;simp only[yH]at g;obtain⟨n1,U,E⟩:=BT g;clear g U;subst n1;rw[Instr.checkKey];simp only[Sem.run_bind,run_underlying j,Result.andThen_ok];simp only[Std.Legacy.Range.forIn_eq_forIn_range',Std.Legacy.Range.size,Nat.sub_zero,Nat.add_one_sub_one,Nat.div_one];obtain⟨i,p,A,jo,F,G,I⟩:∃(i:Nat)(p A:yL yh),i=0/\B.toList=p++A/\p.length=i*s/\au J.w J.bh l A:=⟨0,[],B.toList,rfl,rfl,by simp,E⟩;rw[<-jo];clear jo E j
   induction l generalizing i p A with
   |nil=>simp
   |cons x l W=>
    simp only[au]at I;obtain⟨X,Y,rfl,M,Z⟩:=I;obtain⟨f1,f2,f3⟩:=h5 x (yay ..);obtain⟨a,Q,g⟩:=kl (P:=P) (J:=J) (t:=e) (d:=.p x) F (by simpa[yH] using M) (by rw[T];exact f2.symm) h3 h4 f3 (by show x.size≠0;omega);rw[G]at Q;have s1:=WV _ _ M;have hk:=ri (em:=em) n e x a f1 g d;rw[yah,List.range'_succ];simp only[List.forIn_cons,Sem.run_bind,Z3 h3,T,Result.andThen_ok,Q,hk,Sem.run_pure];exact W (λy hy=>h5 y (yaz _ hy)) (i+1) (p++X) Y (by rw[F,yab]) (by rw[yl,G,s1,f2,ybc,Nat.one_mul]) Z
  .rename_i fs l j;obtain⟨T,S⟩:=R;rw[ZZ (by rfl)]at g;obtain⟨B,rfl,g⟩:=g;simp only[yH,aA]at g;rw[Instr.checkKey];simp only[Sem.run_bind,run_underlying j,Result.andThen_ok];rw[<-Array.forIn_toList];obtain⟨o,p,A,ho,F,G,I⟩:∃(o:Nat)(p A:yL yh),o=0/\B.toList=p++A/\p.length=o/\au J.w J.bh l A:=⟨0,[],B.toList,rfl,rfl,rfl,g⟩;rw[<-ho]at S;clear ho g j;generalize fs.toList=L at*
   induction L generalizing l o p A with
   |nil=>simp
   |cons f L W=>
    cases l with
    |nil=>exact S.elim
    |cons x l=>
     obtain⟨a1,a2,a3,a4,a5,a6,a7,a8,a9⟩:=S;simp only[au]at I;obtain⟨X,Y,rfl,M,Z⟩:=I;obtain⟨a,Q,g⟩:=kl (P:=P) (J:=J) (t:=f.type) (d:=.p x) F (by simpa[yH] using M) a3 a4 a5 a6 a7;rw[G, <-a2]at Q;have s1:=WV _ _ M;have hk:=ri (em:=em) n f.type x a a8 g d;simp only[List.forIn_cons,a1,ne_eq,not_false_eq_true,if_true,Sem.run_bind,Q,Result.andThen_ok,hk,Sem.run_pure];exact W l (o+x.size) (p++X) Y (by rw[F,yab]) (by rw[yl,G,s1]) Z a9
  grind
end Go.Ev
namespace Go.Ev
structure dR(P:yg)(J:Sg)(kt:yc)(k:Pl)(F:List MapEntry->Nat->Option (Nat×yh)->Prop):Prop where
 nil:∀i,F [] i ad
 eq:∀(e:MapEntry)es i(q:Pl),bu P 20 kt q->yJ J (.p q) e.key->k=q->F (e::es) i (ab (i,e.val))
 ne:∀(e:MapEntry)es i(q:Pl)r,bu P 20 kt q->yJ J (.p q) e.key->k≠q->F es (i+1) r->F (e::es) i r
theorem UD{P:yg}{J:Sg}{kt:yc}{k:Pl}{a:yh}(hk:bu P 20 kt k)(ra:yJ J (.p k) a):dR P J kt k λes i r=>(Instr.findAsking kt a es i).run P J.w=.ok r J.w where
 nil i:=by simp[Instr.findAsking]
 eq e es i q hq rq h:=by
  have:=BV (β:=ae) hk hq ra rq (by simp[h]);simp[Instr.findAsking,this]
 ne e es i q r hq rq h hr:=by
  have:=BV (β:=af) hk hq ra rq (by simp[h]);simp[Instr.findAsking,this,hr]
theorem UE{P:yg}{J:Sg}{kt:yc}{d:TypeDesc}{k:Pl}{a:yh}(hd:P.underlying kt=ab d)(hs:(∃q,d=.int q)\/d=.bool)(hk:bu P 20 kt k)(ra:yJ J (.p k) a):
 dR P J kt k λes i r=>Instr.findNow d a es i=ab r where
 nil i:=rfl
 eq e es i q hq rq h:=by
  subst h;have hv:=TZ (rh 20 kt k hk) ra rq;unfold bu at hk;rw[hd]at hk;rcases hs with⟨kk,rfl⟩|rfl
  .cases k <;> first|exact hk.elim|skip
   subst hk;have e1:=ZH rq;have e2:=ZH ra;simp[Instr.findNow,Instr.sameNow,e1,e2]
  .cases k <;> first|exact hk.elim|skip
   have e1:=Yl rq;have e2:=Yl ra;simp[Instr.findNow,Instr.sameNow,e1,e2]
 ne e es i q r hq rq h hr:=by
  unfold bu at hk hq;rw[hd]at hk hq;rcases hs with⟨kk,rfl⟩|rfl
  .cases k <;> first|exact hk.elim|skip
   cases q <;> first|exact hq.elim|skip
   subst hk;have hq':=hq;simp only at hq';subst hq';have e1:=ZH rq;have e2:=ZH ra;have h':¬(‹Int› :Int)=_:=λhh=>h (by rw[hh]);rw[e2]at hr ⊢;simp only[Instr.findNow,Instr.sameNow,e1,if_true];grind
  .cases k <;> first|exact hk.elim|skip
   cases q <;> first|exact hq.elim|skip
   have e1:=Yl rq;have e2:=Yl ra;have h':¬(‹Bool› :Bool)=_:=λhh=>h (by rw[hh]);rw[e2]at hr ⊢;simp only[Instr.findNow,Instr.sameNow,e1];grind
theorem UF{P:yg}{J:Sg}{B:yc}{k:Pl}{F:yL MapEntry->Nat->yO (Nat×yh)->Prop}(f:dR P J B k F):∀(bU:yL (Pl×Pl))(es:yL MapEntry)(i:Nat)(r:yO Pl),io J bU es->iZ P B bU->V6 bU k r->
 (r=ad->F es i ad)/\∀v,r=ab v->∃(j:Nat)(u:yh),F es i (ab (j,u))/\yJ J (.p v) u
 |[],[],i,r,_,_,h=>by
  simp only[V6]at h;subst h
  exact⟨λ_=>f.nil i,λv g=>by cases g⟩
 |[],_::_,_,_,h,_,_=>h.elim
 |_::_,[],_,_,h,_,_=>h.elim
 |q::l,e::es,i,r,⟨y,G,I⟩,E,h=>by
  have A:=E q (yay ..);simp only[V6]at h;rcases h with⟨m,rfl⟩|⟨m,M⟩
  .exact⟨λh=>(by cases h),λv g=>⟨i,e.val,f.eq e es i q.1 A y m,by cases g;exact G⟩⟩
  .obtain⟨Q,R⟩:=UF f l es (i+1) r I (λz S=>E z (yaz _ S)) M;refine⟨λh=>f.ne e es i q.1 ad A y m (Q h),λv g=> ?_⟩;obtain⟨j,u,T,U⟩:=R v g;exact⟨j,u,f.ne e es i q.1 _ A y m T,U⟩
theorem UG{P:yg}{J:Sg}{Q:yc}{k v:Pl}{F:yL MapEntry->Nat->yO (Nat×yh)->Prop}(y:dR P J Q k F):∀(bU:yL (Pl×Pl))(es:yL MapEntry)(i:Nat)(l:yL (Pl×Pl)),io J bU es->iZ P Q bU->gn bU k v l->
 (∃(j:Nat)(e:MapEntry),F es i (ab (i+j,e.val))/\es[j]? =ab e/\yJ J (.p k) e.key/\∀f,yJ J (.p k) f.key->yJ J (.p v) f.val->io J l (es.set j f))\/
 (F es i ad/\∀f,yJ J (.p k) f.key->yJ J (.p v) f.val->io J l (es++[f]))
 |[],[],i,l,_,_,h=>by
  simp only[gn]at h;subst h
  exact .inr ⟨y.nil i,λf g E=>⟨g,E,ao⟩⟩
 |[],_::_,_,_,h,_,_=>h.elim
 |_::_,[],_,_,h,_,_=>h.elim
 |q::r,e::es,i,l,⟨m,R,S⟩,T,h=>by
  have G:=T q (yay ..);simp only[gn]at h;rcases h with⟨g,rfl⟩|⟨g,U,rfl,E⟩
  .exact .inl ⟨0,e,y.eq e es i q.1 G m g,rfl,by rw[g];exact m,λf A B=>⟨A,B,S⟩⟩
  .rcases UG y r es (i+1) U S (λz W=>T z (yaz _ W)) E with⟨j,X,I,M,Y,Z⟩|⟨I,M⟩
   .exact .inl ⟨j+1,X,by have:=y.ne e es i q.1 _ G m g I;rwa [show i+1+j=i+(j+1) by omega]at this,by simpa using M,Y,λf A B=>⟨m,R,Z f A B⟩⟩
   .exact .inr ⟨y.ne e es i q.1 _ G m g I,λf A B=>⟨m,R,M f A B⟩⟩
theorem UH{k v:Pl}:∀{l:yL (Pl×Pl)},V6 l k (ab v)->(k,v)∈l
 |[],h=>by simp[V6]at h
 |q::r,h=>by
  simp only[V6]at h;rcases h with⟨rfl,h⟩|⟨_,h⟩
  .grind
  .exact yaz _ (UH h)
theorem UI{k:Pl}:∀{l:yL (Pl×Pl)},V6 l k ad->∀q,q∈l->q.1≠k
 |[],_,q,hq=>by cases hq
 |x::r,h,q,hq=>by
  simp only[V6]at h;rcases h with⟨_,h⟩|⟨f,h⟩
  .cases h
  .rcases ycc.1 hq with rfl|hq
   .grind
   .exact UI h q hq
theorem UJ{k v:Pl}:∀{l:yL (Pl×Pl)},(l.map (·.1)).Nodup->(k,v)∈l->V6 l k (ab v)
 |[],_,h=>by cases h
 |q::r,f,h=>by
  simp only[V6];rw[yag,List.nodup_cons]at f;rcases ycc.1 h with rfl|h
  .grind
  .refine .inr ⟨λe=>f.1 ?_,UJ f.2 h⟩;grind
theorem UK{k:Pl}:∀{l:yL (Pl×Pl)},(∀q,q∈l->q.1≠k)->V6 l k ad
 |[],_=>by simp[V6]
 |q::r,h=>by
  simp only[V6];exact .inr ⟨λe=>h q (yay ..) e.symm,UK λx f=>h x (yaz _ f)⟩
theorem ZDc{k:Pl}{r:yO Pl}{l f:yL (Pl×Pl)}(p:f.Perm l)(g:(l.map (·.1)).Nodup)(h:V6 l k r):V6 f k r:=by
 cases r with
 |none=>exact UK λq j=>UI h q (p.mem_iff.1 j)
 |some v=>exact UJ ((p.map _).nodup_iff.2 g) (p.mem_iff.2 (UH h))
section
open Classical
theorem ZDd{k:Pl}:∀{l:yL (Pl×Pl)},(∀q,q∈l->q.1≠k)->(l.filter λq=>ag (q.1≠k))=l:=λh=>List.filter_eq_self.2 λq f=>yY (h q f)
theorem BW{k v:Pl}:∀{l m:yL (Pl×Pl)},(l.map (·.1)).Nodup->gn l k v m->m.Perm ((k,v)::l.filter λq=>ag (q.1≠k))
 |[],m,_,h=>by
  simp only[gn]at h
  grind
 |q::r,m,f,h=>by
  rw[yag,List.nodup_cons]at f;simp only[gn]at h;rcases h with⟨rfl,rfl⟩|⟨g,y,rfl,h⟩
  .rw[List.filter_cons_of_neg (by simp),ZDd (λx j e=>f.1 (by rw[<-e];exact ybx.2 ⟨_,j,rfl⟩))]
  .rw[List.filter_cons_of_pos (by simpa using λe:q.1=k=>g e.symm)];exact((BW f.2 h).cons q).trans (.swap _ _ _)
theorem UL(k v:Pl):∀(l:yL (Pl×Pl)),∃m,gn l k v m
 |[]=>⟨_,rfl⟩
 |q::r=>by
  by_cases h:k=q.1
  .exact⟨_,.inl ⟨h,rfl⟩⟩
  .obtain⟨m,f⟩:=UL k v r;exact⟨_,.inr ⟨h,m,rfl,f⟩⟩
theorem ZDe{k v:Pl}{l f m:yL (Pl×Pl)}(p:f.Perm l)(j:(l.map (·.1)).Nodup)(h:gn l k v m):(m.map (·.1)).Nodup/\∃m',gn f k v m'/\m'.Perm m:=by
 have g:=(p.map (·.1)).nodup_iff.2 j;obtain⟨m',y⟩:=UL k v f;have e:=BW j h;refine⟨(e.map _).nodup_iff.2 ?_,m',y,(BW g y).trans ((List.Perm.cons _ (p.filter _)).trans e.symm)⟩;grind
end
theorem UM{P:yg}{J:Sg}{f:yc}{k:Pl}{F:yL MapEntry->Nat->yO (Nat×yh)->Prop}(g:dR P J f k F)(bU:yL (Pl×Pl))(es:yL MapEntry)(i:Nat)(r:yO Pl)(h:kf J bU es)(m:iZ P f bU)(y:V6 bU k r):
 (r=ad->F es i ad)/\∀v,r=ab v->∃(j:Nat)(u:yh),F es i (ab (j,u))/\yJ J (.p v) u:=by
 obtain⟨l,p,z,A⟩:=h;exact UF g l es i r A (λq B=>m q (p.mem_iff.1 B)) (ZDc p z y)
theorem ZLa{P:yg}{J:Sg}{E:yc}{k v:Pl}{F:yL MapEntry->Nat->yO (Nat×yh)->Prop}(I:dR P J E k F)(bU:yL (Pl×Pl))(es:yL MapEntry)(i:Nat)(l:yL (Pl×Pl))(h:kf J bU es)(M:iZ P E bU)(hp:gn bU k v l):
 (∃(j:Nat)(e:MapEntry),F es i (ab (i+j,e.val))/\es[j]? =ab e/\yJ J (.p k) e.key/\∀f,yJ J (.p k) f.key->yJ J (.p v) f.val->kf J l (es.set j f))\/
 (F es i ad/\∀f,yJ J (.p k) f.key->yJ J (.p v) f.val->kf J l (es++[f])):=by
 obtain⟨Q,p,R,S⟩:=h;obtain⟨g,m,T,G⟩:=ZDe p R hp;rcases UG I Q es i m S (λq U=>M q (p.mem_iff.1 U)) T with⟨j,e,y,z,W,X⟩|⟨y,z⟩
 .exact .inl ⟨j,e,y,z,W,λf A B=>⟨m,G,g,X f A B⟩⟩
 .exact .inr ⟨y,λf A B=>⟨m,G,g,z f A B⟩⟩
theorem BX{P:yg}{J:Sg}{j:yc}{k:Pl}{a:yh}(g:lX P j=ae)(l:bu P 20 j k)(m:yJ J (.p k) a):
 ∃F,dR P J j k F/\∀es r,F es 0 r->(Instr.findKey j a es).run P J.w=.ok r J.w:=by
 unfold lX at g;split at g
 .rename_i q f;exact⟨_,UE f (.inl ⟨_,rfl⟩) l m,λes r h=>Go.MapKept.run_findKey f h⟩
 .rename_i f;exact⟨_,UE f (.inr rfl) l m,λes r h=>Go.MapKept.run_findKey f h⟩
 .rename_i n e f;exact⟨_,UD l m,λes r h=>by rw[run_findKey_eq J.w (by rw[f])];exact h⟩
 .rename_i y f;exact⟨_,UD l m,λes r h=>by rw[run_findKey_eq J.w (by rw[f])];exact h⟩
 .cases g
theorem BY{J:Sg}{id:Nat}{v:yh}(h:yJ J (.mp id) v):∃b,J.m[id]? =ab (ab b)/\v=.map (ab b):=by
 rw[Zj rfl]at h;simp only[yH]at h;obtain⟨b,f,_,g⟩:=h;exact⟨b,f,by simpa using g⟩
theorem UN{J:Sg}:∀(l:yL (Pl×Pl))(es:yL MapEntry),io J l es->es.length=l.length
 |[],[],_=>rfl
 |[],_::_,h=>h.elim
 |_::_,[],h=>h.elim
 |_::l,_::es,h=>by rw[yah,yah,UN l es h.2.2]
theorem ZHT{es:Array MapEntry}{g:Nat}(h:nh es g)(j:Nat){f:MapEntry->MapEntry}(M:∀e,(f e).born=e.born):nh (es.modify j f) g:=by
 have y:∀(q:Nat)l,(es.modify j f)[q]? =ab l->∃z,es[q]? =ab z/\l.born=z.born:=by
  intro q l m;rw[Array.getElem?_modify]at m;split at m
  .obtain⟨A,B,E⟩:=yv.1 m;exact⟨A,B,by rw[<-E,M]⟩
  .exact⟨l,m,rfl⟩
 refine⟨λq l m=> ?_,λq I l F m G Q=> ?_⟩
 .obtain⟨A,B,E⟩:=y q l m;rw[E];exact h.1 q A B
 .obtain⟨A,B,E⟩:=y q l m;obtain⟨R,S,T⟩:=y I F G;exact h.2 q I A R B S (by rw[<-E, <-T,Q])
theorem ZGl{es:Array MapEntry}{f:Nat}(h:nh es f){e:MapEntry}(he:e.born=f):nh (es.push e) (f+1):=by
 have l:∀(q:Nat)g,(es.push e)[q]? =ab g->(es[q]? =ab g/\g.born < f)\/(q=es.size/\g.born=f):=by
  intro q g j;rw[Array.getElem?_push]at j;split at j
  .rename_i E;cases j;exact .inr ⟨E,he⟩
  .exact .inl ⟨j,h.1 q g j⟩
 refine⟨λq g j=> ?_,λq A g m j z F=> ?_⟩
 .rcases l q g j with⟨_,y⟩|⟨_,y⟩ <;> omega
 .rcases l q g j with⟨y,G⟩|⟨y,G⟩ <;> rcases l A m z with⟨B,I⟩|⟨B,I⟩
  .exact h.2 q A g m y B F
  .omega
  .omega
  .omega
theorem rj{P:yg}{w:yy}{b:Nat}{es:Array MapEntry}{f:Nat}(h:w.heap[b]? =ab (.map es f)):(getObj b).run P w=.ok (.map es f) w:=Go.MapKept.run_getObj_map h
section
variable{P:yg}{o:yj}{a:Act}{J:Sg}{ts:yL Dv}{hs hs':yL ar}{C:yL Prop}{d:Dv}{H':yL aq}
theorem UO{J:Sg}{x y:Dv}{u v:yh}(h1:yJ J x u)(h2:yJ J y v):yJ J (.bm [x,y]) (.tuple #[u,v]):=by
 rw[Zj rfl];simp only[yH];exact⟨#[u,v],rfl,by simp only[aH];exact⟨u,[v],rfl,h1,v,[],rfl,h2,rfl⟩⟩
theorem ZHU(ok:Ok J)(yM:aB J ts a){t:yc}{x ix:yp}{f:Bool}(ho:o.op=.lookup t x ix f)(h:bH P o ts J.H hs=ab (C,d,hs'))(hc:aZ C):YZ P o a J d J.H:=by
 simp only[bH,ho]at h;have hx:=Zo (P:=P) yM t x;split at h
 .rename_i M et id hu Q;rw[Q]at hx;obtain⟨b,hm,hv⟩:=BY hx;have l:=Zo (P:=P) yM M ix;split at h
  .rename_i k t' bU v R S T;rw[S]at l;obtain⟨b',E,A,U,W,X,Y⟩:=ok.dx id _ _ T hm;cases U;split at h
   .rename_i m;cases h;obtain⟨G,Z,c3,_⟩:=hc;obtain⟨F,hF,zB⟩:=BX (P:=P) m G l;obtain⟨_,g2⟩:=UM hF bU E.toList 0 _ X Z c3;obtain⟨j,u,g3,g4⟩:=g2 v rfl;have g5:=zB _ _ g3;have g6:=ri (em:=E.isEmpty) 20 M k _ G l 9980
    have g:(Instr.lookup t (a.eval x) (a.eval ix) f).run P J.w=.ok (if f then .tuple #[u,.bool ae] else u) J.w:=by
     simp only[Instr.lookup,Sem.run_bind,run_underlying hu,Result.andThen_ok,hv,rj W,Sem.run_pure,g6,g5]
    refine Zk ok (by simp[execOp,ho,g];rfl) ?_;cases f
    .exact g4
    .exact UO g4 (Yh _)
   .cases h
  .rename_i k t' bU R S T;rw[S]at l;obtain⟨b',E,A,U,W,X,Y⟩:=ok.dx id _ _ T hm;cases U;split at h
   .rename_i m;simp only[yi]at m;cases h;obtain⟨G,Z,c3,_⟩:=hc;obtain⟨F,hF,zB⟩:=BX (P:=P) m.1 G l;obtain⟨g1,_⟩:=UM hF bU E.toList 0 _ X Z c3;have g5:=zB _ _ (g1 rfl);have g6:=ri (em:=E.isEmpty) 20 M k _ G l 9980
    obtain⟨hz,y⟩:∃z,(zeroValue et).run P J.w=.ok z J.w/\yJ J (bf P et) z:=by
     have I:=m.2;unfold AS at I;split at I
     .rename_i i hi
      cases B:i.zero with
      |none=>simp[B]at I
      |some z=>
       refine⟨z,by simp[zeroValue,typeInfo,hi,B], ?_⟩;unfold bf;rw[hi];simp only[B];exact nw
     .cases I
    have g:(Instr.lookup t (a.eval x) (a.eval ix) f).run P J.w=.ok (if f then .tuple #[hz,.bool af] else hz) J.w:=by
     simp only[Instr.lookup,Sem.run_bind,run_underlying hu,Result.andThen_ok,hv,rj W,Sem.run_pure,g6,g5,y.1]
    refine Zk ok (by simp[execOp,ho,g];rfl) ?_;cases f
    .exact y.2
    .exact UO y.2 (Yh _)
   .cases h
  .cases h
 .cases h
theorem ZHV(ok:Ok J)(z:aB J ts a){c:Call}(ho:o.op=.call c)(l:c.callee=.builtin .len)(h:bH P o ts J.H hs=ab (C,d,hs'))(hc:aZ C):YZ P o a J d J.H:=by
 simp only[bH,ho,l]at h;split at h
 .rename_i x t A f;have m:=Zo (P:=P) z t x;split at h
  .rename_i U W id B g;rw[g]at m;obtain⟨b,E,F⟩:=BY m;split at h
   .rename_i X bU G;obtain⟨Y,y,j,I,M,Q,R⟩:=ok.dx id _ _ G E;cases I;cases h
    have S:y.toList.length=bU.length:=by
     obtain⟨Z,p,_,T⟩:=Q;rw[UN _ _ T,p.length_eq]
    refine Zk ok (nJ ho l A f (v:=goInt y.size) (by rw[F];simp[Builtin.len_,run_underlying B,rj M])) ?_;rw[<-ybu,S];exact Zx _ _
   .cases h
  .cases h
 .cases h
theorem ZGm(ok:Ok J){t:yc}(ho:o.op=.makeMap t ad):YZ P o a J (.mp J.H.length) (J.H++[.map t []]):=by
 let J':Sg:={ J with m:=J.m++[ab J.w.heap.size],H:=J.H++[.map t []],w:=J.w.alloc (.map #[] 0)};have j:J'.w.heap[J.w.heap.size]? =ab (.map #[] 0):=heap_alloc_new J.w _
 have f:J'.m[J.H.length]? =ab (ab J.w.heap.size):=by
  show(J.m++[ab J.w.heap.size])[J.H.length]? =_;rw[yas (by rw[ok.len];exact ym _),ok.len];simp
 obtain⟨to,g⟩:=Vh (J':=J') ok rfl rfl rfl rfl (World.grownBy_alloc J.w (.map #[] 0) ad) (.inr ⟨_,rfl,ym _,by simp[J']⟩)
  (λh=>⟨J.w.heap.size, #[],0,rfl,j,⟨[],.refl _,List.nodup_nil,ao⟩,by simp[nh]⟩)
 refine ZS (J':=J') (v:=.map (ab J.w.heap.size)) ?_ to g ?_
 .have:(Instr.makeMap t ad).run P J.w=.ok (.map (ab J.w.heap.size)) (J.w.alloc (.map #[] 0)):=rfl;simp[execOp,ho,this,J']
 .rw[Zj rfl];simp only[yH];exact⟨_,f,⟨t,[],by simp[J']⟩,rfl⟩
theorem UP(ok:Ok J){id b:Nat}{t:yc}{bU l:yL (Pl×Pl)}{es es':Array MapEntry}{f clock':Nat}(hH:J.H[id]? =ab (.map t bU))(hm:J.m[id]? =ab (ab b))(hb:J.w.heap[b]? =ab (.map es f))
 (hl:kf J l es'.toList) (y:nh es' clock'):
 let J':Sg:={ J with m:=J.m.set id (ab b),H:=J.H.set id (.map t l),w:={ J.w with heap:=J.w.heap.setIfInBounds b (.map es' clock')}}
 To J J'/\Ok J':=by
 intro J';obtain⟨E,F⟩:=Go.MapKept.heap_set (w:=J.w) (o':=.map es' clock') hb
 exact Xy (J':=J') (mi:=ab b) (mi':=ab b) ok hH hm rfl rfl rfl rfl rfl rfl rfl (by simp[J'])
  (λj M z=>F j (λG=>z (by rw[G]))) (λQ o v A B I=>by
    cases A;simp[World.cell?,hb]at I) (λo _ B=>by cases B) (.inl rfl) (λ⟨d,st,h⟩=>by cases h) (λ_=>⟨rfl,t,l,rfl⟩)
  (λs e R h=>by cases h) (λg=>⟨b,es',clock',rfl,E,SD g hl,y⟩)
theorem ZAW(ok:Ok J)(X:aB J ts a){t h Y:yc}{m k x:yp}{id:Nat}{t':yc}{E v:Pl}{bU l:yL (Pl×Pl)}(ho:o.op=.mapUpdate t m k x)(hu:P.underlying t=ab (.map h Y))
 (hx:aC P ts t m=.mp id) (hk:aC P ts h k=.p E) (hv:(aC P ts Y x).flat=ab v) (hH:J.H[id]? =ab (.map t' bU)) (Z:lX P h=ae) (T:bu P 20 h E) (c2:iZ P h bU) (c3:gn bU E v.soft l):
 YZ P o a J .ak (J.H.set id (.map t' l)):=by
 have I:=Zo (P:=P) X t m;rw[hx]at I;obtain⟨b,hm,M⟩:=BY I;have f:=Zo (P:=P) X h k;rw[hk]at f;have Q:=(Wk.p (md v)).dv (AY hv (Zo (P:=P) X Y x));obtain⟨b',y,g,h1,G,h3,R⟩:=ok.dx id _ _ hH hm;cases h1;obtain⟨F,hF,zB⟩:=BX (P:=P) Z T f;have g6:=ri (em:=af) 20 h E _ T f 9980;rcases ZLa hF bU y.toList 0 l h3 c2 c3 with⟨j,e,f1,f2,f3,f4⟩|⟨f1,f2⟩
 .have U:=zB _ _ f1;rw[yax]at U;have W:y[j]? =ab e:=by rw[<-ycl];exact f2
  have z:e.key=a.eval k:=TZ (rh 20 h E T) f3 f
  have A:Instr.sameBits 10000 e.key (a.eval k)=ae:=by
   rw[z];exact ZGk (rh 20 h E T) f
  have hes:(y.modify j λe=>{ e with key:=a.eval k,val:=a.eval x}).toList=y.toList.set j { e with key:=a.eval k,val:=a.eval x}:=by
   apply ybl;intro i;rw[ycl,Array.getElem?_modify,yby,ycl];by_cases S:j=i
   .subst S;have hlt:j < y.toList.length:=by simpa using(ycv.1 W).1
    simp[W,hlt];exact(ycv.1 W).1
   .simp[S]
  obtain⟨to,B⟩:=UP (es':=y.modify j λe=>{ e with key:=a.eval k,val:=a.eval x}) (clock':=g) ok hH hm G (l:=l) (by rw[hes];exact f4 _ f Q) (ZHT R j λe=>rfl);refine qW ?_ to B;simp only[execOp,ho,M,Instr.mapUpdate,Sem.run_bind,run_underlying hu,Result.andThen_ok,rj G,g6,U,Instr.keyThatStays,W,Option.map_some,Option.getD_some,A,if_true,Sem.run_pure,Go.MapKept.run_setObj_map _ G]
 .have U:=zB _ _ f1;obtain⟨to,B⟩:=UP (es':=y.push { key:=a.eval k,val:=a.eval x,born:=g}) (clock':=g+1) ok hH hm G (l:=l) (by rw[Array.toList_push];exact f2 _ f Q) (ZGl R rfl);refine qW ?_ to B;simp only[execOp,ho,M,Instr.mapUpdate,Sem.run_bind,run_underlying hu,Result.andThen_ok,rj G,g6,U,Sem.run_pure,Go.MapKept.run_setObj_map _ G]
end
end Go.Ev
end
section
namespace Go.Ev
section
variable{P:yg}{o:yj}{a:Act}{J:Sg}{ts:yL Dv}{hs hs':yL ar}{C:yL Prop}{d:Dv}{H':yL aq}
theorem BZ{P:yg}{w:yy}{t e:yc}{i:TypeInfo}{z:yh}{n f:Int}(hu:P.underlying t=ab (.slice e))(hi:P.info? e=ab i)(hz:i.zero=ab z)(j:0<=n)(h1:n<=f)(h2:f.toNat*i.bytes<=Zr)(h3:f.toNat<=maxLen):
 ∃cells:Array yh,(Instr.makeSlice t (.int .i64 n) (.int .i64 f)).run P w=.ok (.slice (ab ⟨w.heap.size,0,ad⟩) n.toNat f.toNat) (w.alloc (.cells cells e))/\cells.size=f.toNat*i.size/\
  (i.size=1->∀k,k < f.toNat->cells[k]? =ab (z.cells[k % z.cells.size]!)):=by
 have y:∀m:Int,0<=m->m.toNat<=maxLen->IntKind.i64.wrap m=m:=λm a b=>by
  refine ny ?_;simp[maxLen]at b;simp[WW,IntKind.min,IntKind.max,IntKind.signed,IntKind.bits];omega
 have g:=y n j (by omega);have h:=y f (by omega) h3
 have A:¬((281474976710656:Int) < (i.bytes:Int)*f):=by
  have e:(i.bytes:Int)*f=((f.toNat*i.bytes:Nat):Int):=by
   rw[Int.natCast_mul,Int.toNat_of_nonneg (by omega),Int.mul_comm]
  rw[e];simp only[Zr]at h2;omega
 have B:¬(f.toNat*i.bytes > roomBytes):=by
  simp only[Zr]at h2;simp only[roomBytes];omega
 by_cases l:f.toNat*i.size=0
 .refine⟨(Array.range (f.toNat*i.size)).map λ_=>default, ?_,by simp,λe k E=> ?_⟩
  .simp[Instr.makeSlice,run_underlying hu,asInt,asIntOf,typeInfo,hi,g,h,askRoom,B,sizeOf,l,newRow,j,show¬f < 0 by omega,show¬n < 0 by omega,show¬f < n by omega,A]
  .rw[e,Nat.mul_one]at l;omega
 .refine⟨(Array.range (f.toNat*i.size)).map (z.cells[· % z.cells.size]!), ?_,by simp,λe k E=> ?_⟩
  .simp[Instr.makeSlice,run_underlying hu,asInt,asIntOf,typeInfo,hi,g,h,askRoom,B,sizeOf,l,newRow,j,show¬f < 0 by omega,show¬n < 0 by omega,show¬f < n by omega,A,zeroValue,hz]
  .simp[e,E]
theorem ZGn(ok:Ok J){t e:yc}{l c:yp}{i:TypeInfo}{n j:Int}(M:aB J ts a)(ho:o.op=.makeSlice t l c)(hu:P.underlying t=ab (.slice e))(hl:aC P ts 0 l=.p (.int .i64 n))(A:aC P ts 0 c=.p (.int .i64 j))
 (hi:P.info? e=ab i) (hz:cq i=ae) (S:i.size≠0) (T:n=0) (h1:0<=j) (h2:j.toNat*i.bytes<=Zr) (h3:j.toNat<=maxLen):
 YZ P o a J (.own J.H.length (ab ae) i.size []) (J.H++[.log i.size e []]):=by
 subst T;obtain⟨z,B,U⟩:=lf hz;obtain⟨cells,W,y,_⟩:=BZ (w:=J.w) (t:=t) hu hi B (Int.le_refl 0) h1 h2 h3;have E:=ZH (hl ▸ Zo (P:=P) M 0 l);have F:=ZH (A ▸ Zo (P:=P) M 0 c);let J':Sg:={ J with m:=J.m++[ab J.w.heap.size],H:=J.H++[.log i.size e []],w:=J.w.alloc (.cells cells e)};have Q:J'.w.heap[J.w.heap.size]? =ab (.cells cells e (0,0)):=heap_alloc_new J.w _
 have g:J'.m[J.H.length]? =ab (ab J.w.heap.size):=by
  show(J.m++[ab J.w.heap.size])[J.H.length]? =_;rw[yas (by rw[ok.len];exact ym _),ok.len];simp
 obtain⟨to,G⟩:=Vh (J':=J') ok rfl rfl rfl rfl (World.grownBy_alloc J.w (.cells cells e) ad) (.inr ⟨_,rfl,ym _,by simp[J']⟩)
  (λR=>.inr ⟨J.w.heap.size,cells,j.toNat,rfl,Q,y,Nat.zero_le _,h3,λ_ I=>(by cases I),by simp[au]⟩)
 refine ZS (J':=J') (v:=.slice (ab ⟨J.w.heap.size,0,ad⟩) 0 j.toNat) ?_ to G ?_
 .have f:=W;simp only[Int.toNat_zero]at f;simp[execOp,ho,E,F,f,J']
 .rw[Zj rfl];simp only[yH];refine⟨λ_ I=>(by cases I),ab ⟨J.w.heap.size,0,ad⟩,j.toNat,rfl,Nat.zero_le _,h3, ?_,(λh=>by cases h),λh=>absurd rfl h,e,[],by simp[J'],ym _,λ_=>.inr ?_⟩
  .simp[iY]
  .exact⟨J.w.heap.size,cells,g,rfl,Q,y⟩
theorem UQ{w:yy}{S:Nat->Nat->Prop}{z:Pl}{v:yh}(h:aA w S z [v]):∀n,au w S (yx n z) (yx n v)
 |0=>by simp[au]
 |n+1=>by
  rw[List.replicate_succ,List.replicate_succ];simp only[au];exact⟨[v],yx n v,rfl,h,UQ h n⟩
theorem ZDg(ok:Ok J){t e:yc}{l c:yp}{i:TypeInfo}{z:Pl}{n f:Int}(yM:aB J ts a)(ho:o.op=.makeSlice t l c)(hu:P.underlying t=ab (.slice e))(hl:aC P ts 0 l=.p (.int .i64 n))(M:aC P ts 0 c=.p (.int .i64 f))
 (hi:P.info? e=ab i) (hz:cq i=ae) (hs1:i.size=1) (hzp:bf P e=.p z) (Q:z.size=1) (hza:z.isAgg=af) (h0:f=n) (h1:0<=n) (h2:n.toNat*i.bytes<=Zr) (h3:n.toNat<=maxLen):
 YZ P o a J (.view J.H.length 0 [] 1 0 n.toNat) (J.H++[.var (.p (.arr n.toNat 1 (yx n.toNat z))) ae]):=by
 subst h0;obtain⟨A,F,R⟩:=lf hz;obtain⟨cells,zB,S,T⟩:=BZ (w:=J.w) (t:=t) hu hi F h1 (Int.le_refl f) h2 h3;have U:=ZH (hl ▸ Zo (P:=P) yM 0 l);have W:=ZH (M ▸ Zo (P:=P) yM 0 c)
 have B:yJ J (bf P e) A:=by
  unfold bf;rw[hi];simp only[F];exact nw
 rw[hzp]at B;have B:=V7 (d:=.p z) rfl B
 obtain⟨E,G⟩:∃E,A.cells.toList=[E]:=by
  have h9:A.cells.toList.length=1:=by rw[ybu,R,hs1]
  match hq:A.cells.toList,h9 with
  |[E],_=>exact⟨E,rfl⟩
 rw[G]at B;have X:A.cells= #[E]:=by rw[<-ycf (xs:=A.cells),G]
 have g:cells.toList=yx f.toNat E:=by
  apply ybl;intro k;rw[ycl,List.getElem?_replicate];by_cases Y:k < f.toNat
  .rw[T hs1 k Y,yW Y,X];simp[Nat.mod_one]
  .rw[yX Y];refine Array.getElem?_eq_none ?_;rw[S,hs1];omega
 let J':Sg:={ J with m:=J.m++[ab J.w.heap.size],H:=J.H++[.var (.p (.arr f.toNat 1 (yx f.toNat z))) ae],w:=J.w.alloc (.cells cells e)};have zV:J'.w.heap[J.w.heap.size]? =ab (.cells cells e (0,0)):=heap_alloc_new J.w _
 have h:J'.m[J.H.length]? =ab (ab J.w.heap.size):=by
  show(J.m++[ab J.w.heap.size])[J.H.length]? =_;rw[yas (by rw[ok.len];exact ym _),ok.len];simp
 have Z:cells.toList.length=f.toNat:=by rw[g];simp
 obtain⟨to,ok'⟩:=Vh (J':=J') ok rfl rfl rfl rfl (World.grownBy_alloc J.w (.cells cells e) ad) (.inr ⟨_,rfl,ym _,by simp[J']⟩)
  (λI=>⟨J.w.heap.size,cells,e,rfl,zV,by
    have j:Dv.size (.p (.arr f.toNat 1 (yx f.toNat z)))=f.toNat:=by show f.toNat*1=_;omega
    rw[j,ycj (by omega)];refine Yb I _ _ ?_;simp only[yH,aA];refine⟨by simp,λy hy=>by rw[(List.mem_replicate.1 hy).2];exact Q, ?_⟩;rw[g];simp only[yH]at B;exact UQ B _,by
    have j:Dv.size (.p (.arr f.toNat 1 (yx f.toNat z)))=f.toNat:=by show f.toNat*1=_;omega
    rw[j, <-ybu,Z];exact ym _⟩)
 refine ZS (J':=J') (v:=.slice (ab ⟨J.w.heap.size,0,ad⟩) f.toNat f.toNat) ?_ to ok' ?_
 .simp[execOp,ho,U,W,zB,J']
 .rw[Zj rfl];simp only[yH];exact⟨J.w.heap.size,f.toNat,_,h,⟨.p (.arr f.toNat 1 (yx f.toNat z)),ae,by simp[J']⟩,rfl,ym _,h3,λ_=>by simp⟩
theorem UR(ok:Ok J)(yM:aB J ts a){t:yc}{x:yp}(ho:∀w,(execOp a.eval o).run P w=.ok (.value (a.eval x)) w)(h:jw (aC P ts t x) J.H hs=ab (C,d,H',hs'))(hc:aZ C):YZ P o a J d H':=by
 have M:=Zo (P:=P) yM t x;unfold jw at h;split at h
 .rename_i id off yQ s lo n hx;rw[hx]at M;obtain⟨b,c,A,X,hv,Y,B,Z,hA⟩:=nF M;split at h
  .rename_i dd st Q;split at h
   .rename_i C1 off' n' s' f hs1 hg;split at h
    .rename_i hs0;subst hs0;cases h;obtain⟨c1,c2,c3,_⟩:=Zm.1 hc;obtain⟨cs,t',p1,p2,p3,h2,h4,h5,h6,h7,h3,h8⟩:=vb ok X Q hg c1 c2;simp only[yH,aA]at h7;obtain⟨h9,h10,h11⟩:=h7;subst h9;let J':Sg:={ J with m:=J.m.set id (ab b),H:=J.H.set id (.var dd af)};have g:J'.m[id]? =ab (ab b):=an X;have l:J'.H[id]? =ab (.var dd af):=an Q
     obtain⟨to,E⟩:=Xy (J':=J') (mi:=ab b) (mi':=ab b) ok Q X rfl rfl rfl rfl rfl rfl rfl (ym _)
      (λ_ _ _=>rfl) (λ_ _ _ _ _ h=>h) (λo _ I=>rfl) (.inl rfl) (λ_=>⟨rfl,dd,af,rfl⟩) (λ⟨d,st,h⟩=>by cases h)
      (λs e f h=>by cases h) (λF=>⟨b,cs,t',rfl,h2,Yb F dd _ h3,h4⟩)
     have R:W9 J'.w J'.bh b off p2:=λj u I=>by
      refine⟨h8 j u I,.inr (ok.own id b X),λj' e' g1 g2=> ?_⟩;have:j'=id:=E.inj j' id _ g1 g;subst this;rw[l]at g2;cases g2;rfl
     have W:=aD to.leaf.cells _ _ h11
     have S:f=f.take lo++((f.drop lo).take n++f.drop (lo+n)):=by
      have e1:f.drop (lo+n)=(f.drop lo).drop n:=by rw[List.drop_drop]
      rw[e1,ybg,ybg]
     have zW:((f.drop lo).take n).length=n:=by rw[yac,ybt];omega
     have hsub:bc s' ((f.drop lo).take n):=λz hz=>h10 z (ycy (ybw hz));have hr2:=ZS (P:=P) (o:=o) (a:=a) (J:=J) (J':=J') (v:=a.eval x) (d:=.p (.sl (ab ae) s' ((f.drop lo).take n))) (ho J.w) to E;refine hr2 ?_;rw[Y]
     have G:=YH (J:=J') (nn:=ab ae) (A:=ab A) (c:=c) hsub (by rw[zW];exact B) Z (kR rfl) (λh=>by cases h) (λhne=>by
      have hn:0 < n:=by
       rcases ycq n with h0|h0
       .subst h0;simp at hne
       .exact h0
      rw[S]at W;obtain⟨q1,q23,e1,r1,r23⟩:=Yd W;obtain⟨q2,q3,e2,r2,r3⟩:=Yd r23
      have l1:q1.length=lo*s':=by
       rw[aO _ _ r1,aR (λz hz=>h10 z (ybw hz)),yac,ybb (by omega)]
      refine⟨b,off+lo*s',q2,by rw[hA hn],r2,λj u I=> ?_⟩
      have hj:p2[lo*s'+j]? =ab u:=by
       rw[e1,yas (by omega),l1,Nat.add_sub_cancel_left,e2,ybd (yu.1 I).1];exact I
      have:=R (lo*s'+j) u hj
      rwa [<-Nat.add_assoc]at this)
     rw[zW]at G;exact G
    .cases h
   .cases h
  .cases h
 .rename_i id v s lo n hx;rw[hx]at M;split at h
  .rename_i v' s' st e N y f Q;split at h
   .rename_i hk;simp only[yi,yP,yT]at hk;obtain⟨⟨rfl,rfl⟩,hv⟩:=hk;subst hv;cases h;obtain⟨A,c,Y,B,Z,hA,hsy,ly,q,hr,lq,hq⟩:=vi ok M Q rfl hc.1;have hidlt:id < J.m.length:=by rw[ok.len];exact(yu.1 Q).1
    have T:J.m[id]? =ab J.m[id]:=yad hidlt;let J':Sg:={ J with m:=J.m.set id J.m[id],H:=J.H.set id (.row v' y af e (.p (.arr N y f)))};have g:J'.m[id]? =ab J.m[id]:=an T;have l:J'.H[id]? =ab (.row v' y af e (.p (.arr N y f))):=an Q
    obtain⟨to,E⟩:=Xy (J':=J') (mi:=J.m[id]) (mi':=J.m[id]) ok Q T rfl rfl rfl rfl rfl rfl rfl (ym _)
     (λ_ _ _=>rfl) (λ_ _ _ _ _ h=>h) (λo _ I=>⟨rfl,I.2⟩) (.inl rfl) (λ⟨d,st,h⟩=>by cases h) (λ⟨d,st,h⟩=>by cases h)
     (λs e f h=>by cases h) (λF=>by
       obtain⟨N',h1,h2⟩:=ok.dx id _ _ Q T;refine⟨N',h1, ?_⟩;rcases h2 with h2|⟨b,U,cap,g1,g2,g3,g4,g5,g6⟩
       .exact .inl h2
       .exact .inr ⟨b,U,cap,g1,g2,g3,g4,g5,Yb F _ _ g6⟩)
     (λv s st e d h=>by cases h;exact⟨v',af,_,rfl,ym _,λ_=>⟨rfl,λb U _ hb=>⟨U,hb,rfl⟩⟩⟩)
    refine ZS (P:=P) (o:=o) (a:=a) (J:=J) (J':=J') (v:=a.eval x) (d:=.p (.sl ad y ((f.drop lo).take n))) (ho J.w) to E ?_;rw[Y]
    have G:=YH (J:=J') (nn:=ad) (A:=A) (c:=c) hsy (by rw[ly];exact B) Z (Yk _) hA (λhne=>by
     have hn:0 < n:=by
      rcases ycq n with h0|h0
      .subst h0;simp at hne
      .exact h0
     obtain⟨b,U,cap,rfl,X,hb,hcs,hcell⟩:=hq hn;refine⟨b,_,q,rfl,aD to.leaf.cells _ _ hr,λj u I=>⟨hcell j u I,.inr (ok.own id b X),λj' e' g1 g2=> ?_⟩⟩;have:j'=id:=E.inj j' id b g1 (by rw[g, <-T];exact X);subst this;rw[l]at g2;cases g2;refine⟨rfl,N,yW rfl, ?_⟩;have h1:=(yu.1 I).1;have h2:(lo+n)*y<=N*y:=ycb _ hc.1;rw[lq]at h1;rw[ybc]at h2;omega)
    rw[ly]at G;exact G
   .cases h
  .cases h
 .cases h
end
end Go.Ev
end
section
namespace Go.Ev
theorem vk{J:Sg}{x y:Dv}(j:∀a,yH J x a->yH J y a):∀(f:yL Dv)(k:Nat)(us:yL yh),f[k]? =ab x->aM J f us->aM J (f.set k y) us
 |[],_,_,h,_=>by simp at h
 |z::f,0,us,h,g=>by
  simp only[yav,yo]at h;subst h;simp only[aM,List.set_cons_zero]at g ⊢
  grind
 |z::f,k+1,us,h,g=>by
  simp only[yaq]at h;simp only[aM,List.set_cons_succ]at g ⊢;obtain⟨a,b,l,m,A⟩:=g;exact⟨a,b,l,m,vk j f k b h A⟩
theorem US{f:yL Dv}{k:Nat}{x y:Dv}(h:f[k]? =ab x)(hs:y.size=x.size):Dv.sizes (f.set k y)=Dv.sizes f:=by
 induction f generalizing k with
 |nil=>simp at h
 |cons z f g=>
  cases k with
  |zero=>
   simp only[yav,yo]at h;subst h
   simp only[List.set_cons_zero,Dv.sizes,hs]
  |succ k=>
   simp only[yaq]at h;simp only[List.set_cons_succ,Dv.sizes,g h]
theorem UT:∀(xs:yL Pl),Dv.sizes (xs.map .p)=Pl.sizes xs
 |[]=>rfl
 |x::xs=>by simp only[yag,Dv.sizes,Pl.sizes,UT xs];rfl
theorem UU{d d':Dv}{s:Nat}{new:Dv}(h:XO d [] s new=ab d'):d=.p (.sl (ab af) s [])/\d'=new:=by
 unfold XO at h
 all_goals grind
theorem UV{d d':Dv}{i:Nat}{r:yL Nat}{s:Nat}{new:Dv}(h:XO d (i::r) s new=ab d'):
 (∃xs x y,d=.p (.agg xs)/\xs[i]? =ab x/\XO (.p x) r s new=ab y/\d'=.agg ((xs.map Dv.p).set i y))\/∃xs x y,d=.agg xs/\xs[i]? =ab x/\XO x r s new=ab y/\d'=.agg (xs.set i y):=by
 cases d with
 |p q=>
  cases q with
  |agg xs=>
   simp only[XO]at h
   cases f:xs[i]? with
   |none=>simp[f]at h
   |some x=>
    simp only[f]at h;obtain⟨y,g,rfl⟩:=yv.1 h
    exact .inl ⟨xs,x,y,rfl,f,g,rfl⟩
  |_=>simp[XO]at h
 |agg xs=>
  simp only[XO]at h
  cases f:xs[i]? with
  |none=>simp[f]at h
  |some x=>
   simp only[f]at h;obtain⟨y,g,rfl⟩:=yv.1 h
   exact .inr ⟨xs,x,y,rfl,f,g,rfl⟩
 |_=>simp[XO]at h
theorem rk:∀(yQ:yL Nat)(d d':Dv)(s:Nat)(new:Dv),new.size=1->XO d yQ s new=ab d'->d'.size=d.size
 |[],d,d',s,new,f,h=>by
  obtain⟨rfl,rfl⟩:=UU h;rw[f]
  rfl
 |i::r,d,d',s,new,f,h=>by
  rcases UV h with⟨m,x,y,rfl,g,j,rfl⟩|⟨m,x,y,rfl,g,j,rfl⟩
  .have:=rk r (.p x) y s new f j;have l:(m.map Dv.p)[i]? =ab (.p x):=by rw[yak,g];rfl
   simp only[Dv.size];rw[US l this,UT];rfl
  .simp only[Dv.size];exact US g (rk r x y s new f j)
theorem rm{J:Sg}:∀(yQ:yL Nat)(d d':Dv)(s:Nat)(new:Dv),(∀a,yH J (.p (.sl (ab af) s [])) a->yH J new a)->XO d yQ s new=ab d'->∀us,yH J d us->yH J d' us
 |[],d,d',s,new,g,h,us,f=>by
  obtain⟨rfl,rfl⟩:=UU h
  exact g us f
 |i::r,d,d',s,new,g,h,us,f=>by
  rcases UV h with⟨z,x,y,rfl,j,l,rfl⟩|⟨z,x,y,rfl,j,l,rfl⟩
  .have m:(z.map Dv.p)[i]? =ab (.p x):=by rw[yak,j];rfl
   simp only[yH,aA]at f ⊢;exact vk (rm r (.p x) y s new g l) _ i us m (jx.2 f)
  .simp only[yH]at f ⊢;exact vk (rm r x y s new g l) _ i us j f
theorem ZDh{J:Sg}(ok:Ok J){j s:Nat}{e:yc}{d d':Dv}{st:Bool}{yQ:yL Nat}(M:J.H[j]? =ab (.var d st))(Q:XO d yQ s (.own J.H.length ad s [])=ab d'):
 ∃J2:Sg,J2.H=(J.H++[aq.log s e []]).set j (.var d' st)/\J2.w=J.w/\To J J2/\Ok J2:=by
 obtain⟨f,y⟩:=Vh (J':={ J with m:=J.m++[ad],H:=J.H++[.log s e []]}) ok rfl rfl rfl rfl (World.grownBy.refl J.w ad) (.inl rfl) (λ_=>.inl ⟨rfl,rfl⟩);have z:j < J.H.length:=(yu.1 M).1
 obtain⟨R,T⟩:∃R,J.m[j]? =ab R:=by
  have:j < J.m.length:=by rw[ok.len];exact z
  simp_all
 obtain⟨b,U,t,rfl,W,X,Y⟩:=ok.dx j _ _ M T;let J1:Sg:={ J with m:=J.m++[ad],H:=J.H++[.log s e []]};let J2:Sg:={ J1 with m:=J1.m.set j (ab b),H:=J1.H.set j (.var d' st)}
 have B:J1.H[j]? =ab (.var d st):=by
  grind
 have E:J1.m[j]? =ab (ab b):=by
  grind
 have g:=rk yQ d d' s _ rfl Q
 obtain⟨F,G⟩:=Xy (J':=J2) (mi:=ab b) (mi':=ab b) y B E rfl rfl rfl rfl rfl rfl rfl (ym _)
  (λ_ _ _=>rfl) (λ_ _ _ _ _ h=>h) (λo _ Z=>Z) (.inl rfl) (λ_=>⟨rfl,_,_,rfl⟩) (λ⟨_,_,I⟩=>by cases I) (λ_ _ _ I=>by cases I)
  (λl=>by
    refine⟨b,U,t,rfl,W, ?_,by rw[g];exact Y⟩;rw[g];refine rm yQ d d' s _ (λa S=> ?_) Q _ (Yb (f.leaf.trans l) _ _ X);simp only[yH,aA]at S ⊢;obtain⟨_,A,c,rfl,w1,w2,w3,w4,w5⟩:=S
    have hA:A=ad:=by
     have:=w3 af rfl;simp_all
    subst hA;have hc:=w4 rfl;subst hc;refine⟨λ_ hx=>(by cases hx),ad,0,rfl,ym _,by simp[maxLen],Yk _,λ_=>rfl,λh=>absurd rfl h,e,[], ?_,ym _,λ_=>.inl ⟨?_,rfl,rfl⟩⟩
    .show(J1.H.set j _)[J.H.length]? =_;rw[yby,yX (by omega)];simp[J1]
    .show(J1.m.set j _)[J.H.length]? =_;rw[yby,yX (by omega)];show(J.m++[ad])[J.H.length]? =_;rw[yas (by rw[ok.len];exact ym _),ok.len];simp)
 exact⟨J2,rfl,rfl,f.trans F,G⟩
theorem CA:∀(hs:yL ar)(d:Dv)(H0 L:yL aq){J:Sg},Ok J->J.H=H0++.var d ae::L->∃J2:Sg,J2.H=H0++.var (YF d (H0.length+1+L.length) hs).1 ae::(L++(YF d (H0.length+1+L.length) hs).2.1)/\J2.w=J.w/\To J J2/\Ok J2
 |[],d,H0,L,J,f,h=>⟨J,by simp[YF,h],rfl,To.refl J,f⟩
 |x::hs,d,H0,L,J,f,h=>by
  have base:YF d (H0.length+1+L.length) (x::hs)=(d,[],x::hs)->∃J2:Sg,J2.H=H0++.var (YF d (H0.length+1+L.length) (x::hs)).1 ae::(L++(YF d (H0.length+1+L.length) (x::hs)).2.1)/\J2.w=J.w/\To J J2/\Ok J2:=λe=>by
   rw[e];exact⟨J,by simp[h],rfl,To.refl J,f⟩
  cases x with
  |cm y s e=>
   cases g:XO d y s (.own (H0.length+1+L.length) ad s []) with
   |none=>exact base (by simp[YF,g])
   |some l=>
    have z:J.H.length=H0.length+1+L.length:=by rw[h];simp;omega
    obtain⟨J1,E,A,B,e4⟩:=ZDh (e:=e) f (j:=H0.length) (s:=s) (d:=d) (d':=l) (st:=ae) (yQ:=y) (by rw[h];simp) (by rw[z];exact g)
    have m:J1.H=H0++.var l ae::(L++[aq.log s e []]):=by
     grind
    obtain⟨J2,f1,f2,f3,f4⟩:=CA hs l H0 (L++[aq.log s e []]) e4 m;refine⟨J2, ?_,by rw[f2,A],B.trans f3,f4⟩;rw[f1];simp only[YF,g,yl,yah,ycn]
    simp[Nat.add_assoc]
  |_=>exact base (by simp[YF])
theorem UW{P:yg}{o:yj}{a:Act}{J:Sg}{d:Dv}{H1 H2:yL aq}(h:YZ P o a J d H1)(k:∀J1:Sg,J1.H=H1->Ok J1->∃J2:Sg,J2.H=H2/\J2.w=J1.w/\To J1 J2/\Ok J2):YZ P o a J d H2:=by
 intro K Q j;refine h K Q λv J1 l f g m=> ?_;obtain⟨J2,f1,f2,f3,f4⟩:=k J1 l g;rw[<-f2];exact j v J2 f1 (f.trans f3) f4 (Qa f3.leaf m)
theorem UX{P:yg}{o:yj}{a:Act}{J:Sg}{d dd:Dv}{H:yL aq}(h:YZ P o a J d (H++[.var dd ae]))(hs:yL ar):YZ P o a J d (H++.var (YF dd (H.length+1) hs).1 ae::(YF dd (H.length+1) hs).2.1):=by
 refine UW h λJ1 g f=> ?_;obtain⟨J2,f1,f2,f3,f4⟩:=CA hs dd H [] f g;grind
theorem ZyT{P:yg}{o:yj}{a:Act}{J:Sg}{d dd:Dv}{H:yL aq}{id:Nat}{x:aq}(h:YZ P o a J d (H.set id (.var dd ae)))(hid:H[id]? =ab x)(hs:yL ar):YZ P o a J d (H.set id (.var (YF dd H.length hs).1 ae)++(YF dd H.length hs).2.1):=by
 have f:id < H.length:=(yu.1 hid).1;have e:∀v:aq,H.set id v=H.take id++v::H.drop (id+1):=λv=>List.set_eq_take_append_cons_drop.trans (yW f);refine UW h λJ1 j g=> ?_;rw[e]at j;obtain⟨J2,f1,f2,f3,f4⟩:=CA hs dd (H.take id) (H.drop (id+1)) g j;grind
end Go.Ev
end
section
namespace Go.Ev
section
variable{P:yg}{o:yj}{a:Act}{J:Sg}{ts:yL Dv}{hs hs':yL ar}{C:yL Prop}{d:Dv}{H':yL aq}
theorem ZAY(ok:Ok J)(yM:aB J ts a){t:yc}{x y:yp}{id v X s off:Nat}{yQ:yL Nat}{e:yc}{dd sub new dd':Dv}{C1:yL Prop}{off':Nat}(ho:o.op=.store t x y)(hx:aC P ts 0 x=.ba id v off yQ)
 (hH:J.H[id]? =ab (.row X s ae e dd)) (hv:X=v) (hg:Z9 dd yQ hs=ab (C1,off',sub,hs')) (hc:aZ C1) (he:off'=off) (hn:jc yQ dd (aC P ts t y)=ab new) (hp:WS new dd yQ hs=ab dd')
 (A:new.bG=ae) (hsz:new.size=sub.size) (ht:P.cellsOf t=new.size) (hi:(P.info? t).isSome=ae) (Y:aS dd' s=aS dd s):YZ P o a J .ak (J.H.set id (.row v s ae e dd')):=by
 subst he;subst hv;have z:=Zo (P:=P) yM 0 x;have Z:=TG hn (Zo (P:=P) yM t y);rw[hx]at z;obtain⟨b,z,hm⟩:=TC z hH rfl;obtain⟨N,hN,I⟩:=ok.dx id _ _ hH hm;rcases I with⟨h1,_⟩|⟨b',F,cap,h1,h2,M,Q,hcm,h3⟩
 .cases h1
 cases h1;have g:=TB hN;rw[<-g]at h3;have h4:dd.size<=F.size:=by rw[g,M];exact ycb _ Q
 obtain⟨p1,p2,p3,h5,h6,h7,h8⟩:=lh yQ dd hs hs' C1 off' sub _ hg hc h3;have f:=V7 A Z;obtain⟨h9,h10⟩:=h8 new dd' _ hp hsz f;have R:(a.eval y).cells.toList.length=new.size:=X2 _ _ f;have hl2:p2.length=sub.size:=X2 _ _ h7;have hll:(a.eval y).cells.toList.length=p2.length:=by rw[R,hl2,hsz]
 obtain⟨k1,k2⟩:=pn h5 hll h4;rw[h6]at k1 k2
 have hnl:off'+(a.eval y).cells.toList.length<=F.size:=by
  have:=congrArg List.length h5;grind
 have S:∀u,u∈(a.eval y).cells.toList->u.oneCell'=ae:=qQ new _ A f;have T:=run_storeCells_at P b off' e (a.eval y).cells.toList 0 F J.w h2 (by simpa using hnl) S;simp only[ych]at T;let l:Array yh:=(F.toList.take off'++(a.eval y).cells.toList++F.toList.drop (off'+(a.eval y).cells.toList.length)).toArray;let J':Sg:={ J with m:=J.m.set id (ab b),H:=J.H.set id (.row X s ae e dd'),w:=J.w.setRow b l};have B:l.size=F.size:=k2;have zV:J'.w.heap[b]? =ab (.cells l e (0,0)):=setRow_heap J.w b F _ e _ h2;have U:∀j,b≠j->J'.w.heap[j]? =J.w.heap[j]? :=λj hj=>setRow_other J.w b j _ (Ne.symm hj)
 obtain⟨to,ok'⟩:=Xy (J':=J') (mi:=ab b) (mi':=ab b) ok hH hm rfl rfl rfl rfl rfl rfl rfl (by simp[J'])
  (λj hj hne=>U j (λhh=>hne (by rw[hh]))) (λb' o v _ hu _=>by cases hu.1) (λo _ hu=>by cases hu.1) (.inl rfl) (λ⟨d,st,h⟩=>by cases h) (λ⟨d,st,h⟩=>by cases h)
  (λs e xs h=>by cases h) (λW=>⟨N,by rw[Y];exact hN,.inr ⟨b,l,cap,rfl,zV,by rw[B];exact M,Q,hcm,by
    rw[<-g];show yH J' dd' (l.toList.take dd.size);rw[show l.toList.take dd.size=p1++((a.eval y).cells.toList++p3) from k1]
    exact Yb W dd' _ h9⟩⟩)
  (λv s st e2 d h=>by cases h;exact⟨X,ae,_,rfl,ym _,λ_=>⟨rfl,λb2 cur hb2 E=>by
    cases hb2;rw[h2]at E;cases E;exact⟨l,zV,B⟩⟩⟩)
 refine qW (J':=J') ?_ to ok'
 cases G:P.info? t with
 |none=>simp[G]at hi
 |some i=>
  have hs:(a.eval y).cells.size=i.size:=by
   rw[<-ybu,R, <-ht];simp[Program.cellsOf,G]
  simp only[execOp,ho,z,Instr.storeAt,Instr.sureAddr,storeVar,sizeOf,typeInfo,Sem.run_bind,run_program,Result.andThen_ok,G,Sem.run_pure,hs,ne_eq,not_true,if_false,T];rfl
theorem CB(ok:Ok J){s:Nat}{e:yc}{dd:Dv}{N n cap:Nat}{cells:Array yh}{w':yy}{v:yh}(B:J.w.grownBy w' ad)(A:w'.heap[J.w.heap.size]? =ab (.cells cells e (0,0)))(hcs:cells.size=cap*s)(l:J.w.heap.size < w'.heap.size)
 (E:aS dd s=ab N) (y:N<=cap) (g:cap<=maxLen) (I:n<=N) (F:yH J dd (cells.toList.take (N*s))) (G:(execOp a.eval o).run P J.w=.ok (.value (.slice (ab ⟨J.w.heap.size,0,ad⟩) n cap)) w'):
 YZ P o a J (.rv J.H.length 0 s 0 n) (J.H++[.row 0 s ae e dd]):=by
 let J':Sg:={ J with m:=J.m++[ab J.w.heap.size],H:=J.H++[.row 0 s ae e dd],w:=w'}
 have f:J'.m[J.H.length]? =ab (ab J.w.heap.size):=by
  show(J.m++[ab J.w.heap.size])[J.H.length]? =_;rw[yas (by rw[ok.len];exact ym _),ok.len];simp
 obtain⟨to,z⟩:=Vh (J':=J') ok rfl rfl rfl rfl B (.inr ⟨_,rfl,ym _,l⟩)
  (λj=>⟨N,E,.inr ⟨J.w.heap.size,cells,cap,rfl,A,hcs,y,g,Yb j _ _ F⟩⟩)
 refine ZS (J':=J') G to z ?_;rw[Zj rfl];simp only[yH];refine⟨_,_,rfl,by omega,g,λh=>(by cases h),λ_=>⟨_,_,rfl⟩,0,s,ae,e,dd,by simp[J'],ym _,λ_=>⟨rfl,.inr ⟨J.w.heap.size,cells,f,A,by rw[hcs,yax],λ_=>by simp⟩⟩⟩
theorem ZGo(ok:Ok J){t e:yc}{l c:yp}{i:TypeInfo}{n g:Int}(B:aB J ts a)(ho:o.op=.makeSlice t l c)(hu:P.underlying t=ab (.slice e))(hl:aC P ts 0 l=.p (.int .i64 n))(h:aC P ts 0 c=.p (.int .i64 g))
 (hi:P.info? e=ab i) (hz:cq i=ae) (E:n=0) (h1:0<=g) (h2:g.toNat*i.bytes<=Zr) (h3:g.toNat<=maxLen):
 YZ P o a J (.rv J.H.length 0 i.size 0 0) (J.H++[.row 0 i.size ae e (.p (.arr 0 i.size []))]):=by
 subst E;obtain⟨z,j,F⟩:=lf hz;obtain⟨cells,G,m,_⟩:=BZ (w:=J.w) (t:=t) hu hi j (Int.le_refl 0) h1 h2 h3;have y:=ZH (hl ▸ Zo (P:=P) B 0 l);have A:=ZH (h ▸ Zo (P:=P) B 0 c);refine CB (N:=0) (cap:=g.toNat) (w':=J.w.alloc (.cells cells e)) (v:=.bool ae) ok (World.grownBy_alloc J.w (.cells cells e) ad) (heap_alloc_new J.w _) m (by simp) (by simp[aS]) (Nat.zero_le _) h3 (ym _) ?_ ?_
 .simp[yH,aA,au];intro x I;cases I
 .have f:=G;simp only[Int.toNat_zero]at f;simp[execOp,ho,y,A,f]
theorem ZGp(ok:Ok J)(j:aB J ts a){t e:yc}{i:TypeInfo}{len:Nat}{parts:Array (Nat×yp)}{xs:yL Pl}(ho:o.op=.buildSlice t len parts)(hu:P.underlying t=ab (.slice e))
 (hi:P.info? e=ab i) (hz:cq i=ae) (g:i.size≠0) (hsz:len*i.size<=16777216) (hl:Wc P ts e (P.cellsOf e) len parts.toList=ab xs):
 YZ P o a J (.rv J.H.length 0 i.size 0 len) (J.H++[.row 0 i.size ae e (.p (.arr len i.size (xs.map Pl.soft)))]):=by
 obtain⟨cells,l,m,z,A,f⟩:=qU (P:=P) j hu hi hz hsz hl
 have h:len<=maxLen:=by
  have:=Nat.le_mul_of_pos_right len (Nat.pos_of_ne_zero g);simp only[maxLen];omega
 refine CB (N:=len) (cap:=len) (w':=J.w.alloc (.cells cells e)) (v:=.bool ae) ok (World.grownBy_alloc J.w (.cells cells e) ad) (heap_alloc_new J.w _) f (by simp) (by simp[aS]) (ym _) h (ym _) ?_ (qT ho l);rw[<-f, <-ybu,List.take_length];simp only[yH,aA];refine⟨by rw[yaa];exact z,λy B=> ?_, ?_⟩
 .obtain⟨x,E,rfl⟩:=ybx.1 B;rw[BD];exact A x E
 .rw[<-Pl.cH];exact(cL xs).df _ _ _ m
theorem ZDi(ok:Ok J)(R:aB J ts a){t e:yc}{i:TypeInfo}{len id v:Nat}{st:Bool}{dd:Dv}{parts:Array (Nat×yp)}{xs:yL Pl}(ho:o.op=.buildSlice t len parts)(hu:P.underlying t=ab (.slice e))
 (hi:P.info? e=ab i) (hz:cq i=ae) (F:i.size≠0) (hsz:len*i.size<=16777216) (hl:Wc P ts e (P.cellsOf e) len parts.toList=ab xs) (hH:J.H[id]? =ab (.row v i.size st e dd)):
 YZ P o a J (.rv id (v+1) i.size 0 len) (J.H.set id (.row (v+1) i.size ae e (.p (.arr len i.size (xs.map Pl.soft))))):=by
 obtain⟨cells,S,T,U,W,g⟩:=qU (P:=P) R hu hi hz hsz hl
 have z:len<=maxLen:=by
  have:=Nat.le_mul_of_pos_right len (Nat.pos_of_ne_zero F);simp only[maxLen];omega
 have G:id < J.m.length:=by rw[ok.len];exact(yu.1 hH).1
 have B:J.m[id]? =ab J.m[id]:=yad G;let J':Sg:={ J with m:=J.m.set id (ab J.w.heap.size),H:=J.H.set id (.row (v+1) i.size ae e (.p (.arr len i.size (xs.map Pl.soft)))),w:=J.w.alloc (.cells cells e)};have Q:J'.w.heap[J.w.heap.size]? =ab (.cells cells e (0,0)):=heap_alloc_new J.w _;have I:=World.grownBy_alloc J.w (.cells cells e) ad;have l:J'.m[id]? =ab (ab J.w.heap.size):=an B;have f:J'.H[id]? =ab (.row (v+1) i.size ae e (.p (.arr len i.size (xs.map Pl.soft)))):=an hH
 obtain⟨to,M⟩:=Xy (J':=J') (mi:=J.m[id]) (mi':=ab J.w.heap.size) ok hH B rfl rfl rfl rfl rfl rfl rfl I.size
  (λj E _=>I.block j E (by simp)) (λb o v X _ Y=>by
    have E:=ok.lt id b (by rw[B,X]);rw[World.cell?_of_block (w:=J.w) (I.block b E (by simp))];exact Y) (λo Z hu=>by
    have E:=ok.lt id _ (by rw[B, <-Z]);omega) (.inr ⟨_,rfl,ym _,by simp[J']⟩) (λ⟨d,st,h⟩=>by cases h) (λ⟨d,st,h⟩=>by cases h) (λs e xs h=>by cases h)
  (λA=>⟨len,by simp[aS],.inr ⟨_,cells,len,rfl,Q,g,ym _,z,by
    rw[<-g, <-ybu,List.take_length];simp only[yH,aA];refine⟨by rw[yaa];exact U,λy hy=> ?_, ?_⟩
    .obtain⟨x,hx,rfl⟩:=ybx.1 hy;rw[BD];exact W x hx
    .rw[<-Pl.cH];exact(cL xs).df _ _ _ (aD A.cells _ _ T)⟩⟩)
  (λv' s' st' e' d' h=>by cases h;exact⟨v+1,ae,_,rfl,Nat.le_succ _,λhv=>absurd hv (by omega)⟩)
 refine ZS (J':=J') (qT ho S) to M ?_;rw[Zj rfl];simp only[yH];refine⟨ab ⟨J.w.heap.size,0,ad⟩,len,rfl,ym _,z,λh=>(by cases h),λ_=>⟨_,_,rfl⟩,v+1,i.size,ae,e,_,f,ym _,λ_=>⟨rfl,.inr ⟨_,cells,l,Q,by rw[yax];exact g,λ_=>by rw[Nat.zero_mul]⟩⟩⟩
theorem ZwD(ok:Ok J)(Q:aB J ts a){c:Call}{x y:yp}{t u e:yc}{i:TypeInfo}{ys:yL Pl}(ho:o.op=.call c)(R:c.callee=.builtin .append)(S:c.args.toList=[x,y])
 (g:c.argTypes.toList=[t,u]) (ht:P.underlying t=ab (.slice e)) {s:Nat} (W:aC P ts t x=.p (.sl (ab af) s [])) (hi:P.info? e=ab i) (hz:cq i=ae) (A:i.size≠0)
 (j:nG P J (P.cellsOf e) u (a.eval y) ys) (hb:ys.length*i.bytes<=Zr) (hm:ys.length<=maxLen):
 YZ P o a J (.rv J.H.length 0 i.size 0 ys.length) (J.H++[.row 0 i.size ae e (.p (.arr ys.length i.size ys))]):=by
 have l:=Zo (P:=P) Q t x;rw[W]at l;have z:=nI l;have X:P.cellsOf e=i.size:=by simp[Program.cellsOf,hi]
 rcases uZ (P:=P) (ty:=o.type) ok Q ht hi hz A j hb hm with⟨rfl,B⟩|⟨E,T,Y,Z,hr,F,G,I,B⟩
 .let J':Sg:={ J with m:=J.m++[ad],H:=J.H++[.row 0 i.size ae e (.p (.arr 0 i.size []))]}
  have f:J'.m[J.H.length]? =ab ad:=by
   show(J.m++[ad])[J.H.length]? =_;rw[yas (by rw[ok.len];exact ym _),ok.len];simp
  obtain⟨to,M⟩:=Vh (J':=J') ok rfl rfl rfl rfl (World.grownBy.refl J.w ad) (.inl rfl) (λU=>⟨0,by simp[aS],.inl ⟨rfl,rfl⟩⟩);refine ZS (J':=J') (Yx ho R S g (by rw[z];exact B)) to M ?_;rw[Zj rfl];simp only[yH];refine⟨ad,0,rfl,ym _,by simp[maxLen],λ_=>rfl,λh=>(by simp at h),0,i.size,ae,e,.p (.arr 0 i.size []),by simp[J'],ym _,λ_=>⟨rfl,.inl ⟨f,rfl,rfl⟩⟩⟩
 .have zW:E.length=ys.length*i.size:=by rw[aO _ _ hr,aR Z]
  refine CB (N:=ys.length) (cap:=grownCap J.w ys.length 0 e) (w':=J.w.drew.alloc (.cells (E.toArray++T) e)) (v:=.bool ae) ok (X3 J.w (.cells (E.toArray++T) e) ad) (heap_alloc_new J.w.drew _) I (by simp) (by simp[aS]) F G (ym _) ?_ (Yx ho R S g (by rw[z];exact B));rw[<-zW];simp only[Array.toList_append,List.take_left',yH,aA];grind
theorem CC{w:yy}{t u ty e:yc}{i:TypeInfo}{S:yh}{zX:yL yh}{A:yO Addr}{n c:Nat}(ht:P.underlying t=ab (.slice e))(hi:P.info? e=ab i)(m:Src P w u i.size S 0 zX)(y:n<=c)(z:A=ad->c=0):
 (Builtin.append_ #[t,u] ty #[.slice A n c,S]).run P w=.ok (.slice A n c) w:=by
 obtain⟨g,j,l,B,E⟩:=m;have f:zX=[]:=ybh (by rw[E];simp);subst f
 rcases g with⟨F,hu⟩|hu <;>
  (cases A with
   |none=>
    have:=z rfl;have h:n=0:=by omega
    subst this;subst h
    simp[Builtin.append_,run_underlying ht,run_underlying hu,sizeOf,typeInfo,hi,j,l]
   |some A=>
    simp[Builtin.append_,run_underlying ht,run_underlying hu,sizeOf,typeInfo,hi,j,l,y,storeCells])
theorem ZwE(ok:Ok J)(m:aB J ts a){c:Call}{x y:yp}{t u e:yc}{i:TypeInfo}{id v s lo n:Nat}(ho:o.op=.call c)(z:c.callee=.builtin .append)(B:c.args.toList=[x,y])
 (h:c.argTypes.toList=[t,u]) (ht:P.underlying t=ab (.slice e)) (E:aC P ts t x=.rv id v s lo n) (hi:P.info? e=ab i)
 (f:nG P J (P.cellsOf e) u (a.eval y) []):YZ P o a J (.rv id v s lo n) J.H:=by
 have g:=Zo (P:=P) m t x;rw[E]at g;have j:=g;obtain⟨A,Q,F,G,R,I,_⟩:=ko g;have l:P.cellsOf e=i.size:=by simp[Program.cellsOf,hi]
 rw[l]at f;obtain⟨S,M,_,_⟩:=f;refine Zk (v:=a.eval x) ok (Yx ho z B h ?_) j;rw[F];exact CC (P:=P) (ty:=o.type) ht hi M G I
theorem UY{v s N o:Nat}{st:Bool}{e:yc}{xs:yL Pl}(hu:(aq.row v s st e (.p (.arr N s xs))).bw o):st=af/\o < N*s:=by
 obtain⟨g,N',f,h⟩:=hu;rw[show aS (.p (.arr N s xs)) s=ab N from yW rfl]at f
 grind
theorem CD{v g s n N m o:Nat}{st:Bool}{e:yc}{xs ys:yL Pl}(f:st=ae\/n=N)(hu:(aq.row v s st e (.p (.arr N s xs))).bw o):(aq.row g s st e (.p (.arr (n+m) s ys))).bw o:=by
 obtain⟨j,l⟩:=UY hu;refine⟨j,n+m,yW rfl, ?_⟩;rcases f with h|h
 .grind
 .subst h;grind
theorem ZyV(ok:Ok J)(yM:aB J ts a){c:Call}{x y:yp}{t u e:yc}{i:TypeInfo}{xs ys:yL Pl}{id v n N:Nat}{st:Bool}(hst:st=ae\/n=N)(ho:o.op=.call c)(zL:c.callee=.builtin .append)
 (yR:c.args.toList=[x,y]) (R:c.argTypes.toList=[t,u]) (ht:P.underlying t=ab (.slice e)) (hx:aC P ts t x=.rv id v i.size 0 n) (hi:P.info? e=ab i) (hz:cq i=ae) (hne:i.size≠0)
 (hsrc:nG P J i.size u (a.eval y) ys) (hH:J.H[id]? =ab (.row v i.size st e (.p (.arr N i.size xs)))) (hnN:n<=N) (hb:(n+ys.length)*i.bytes<=Zr) (hm:n+ys.length<=maxLen):
 YZ P o a J (.rv id (v+1) i.size 0 (n+ys.length)) (J.H.set id (.row (v+1) i.size st e (.p (.arr (n+ys.length) i.size (xs.take n++ys))))):=by
 have hxv:=Zo (P:=P) yM t x;rw[hx]at hxv;obtain⟨A0,c0,hv0,_,_,_,U,W,q,hq,X,hqc⟩:=vi ok hxv hH rfl (by omega:0+n<=N);simp only[List.drop_zero]at U W hq;obtain⟨A,S,hv,h2,h3,h4,h5,v2,s2,st2,e2,d2,h6,h7,h8⟩:=ko hxv;rw[hv]at hv0;injection hv0 with e1 e2 e3;subst e1;subst e3;rw[hH]at h6;cases h6;obtain⟨_,h9⟩:=h8 rfl;have hsrc2:=hsrc;obtain⟨T,hS,hr,zU⟩:=hsrc2;obtain⟨z,hzz,hzs⟩:=lf hz;have hidlt:id < J.m.length:=by rw[ok.len];exact(yu.1 hH).1
 have G:J.m[id]? =ab J.m[id]:=yad hidlt;have hnl:T.length=ys.length*i.size:=hS.cells;have hone:∀v,v∈T->v.oneCell'=ae:=cG _ _ hr;have zW:(xs.take n++ys).length=n+ys.length:=by rw[yl,W]
 have Y:bc i.size (xs.take n++ys):=by
  by_cases hy:ys=[]
  .grind
  .exact Vf U (zU hy)
 have Z:aS (.p (.arr (n+ys.length) i.size (xs.take n++ys))) i.size=ab (n+ys.length):=by simp[aS]
 have grow:S < n+ys.length->YZ P o a J (.rv id (v+1) i.size 0 (n+ys.length)) (J.H.set id (.row (v+1) i.size st e (.p (.arr (n+ys.length) i.size (xs.take n++ys))))):=by
  intro hgr
  have hold:(Builtin.firstCells i.size n (.slice A n S)).run P J.w.drew=.ok q.toArray J.w.drew:=by
   rcases ycq n with h0|h0
   .subst h0;have:q=[]:=ybh (by rw[X];simp);subst this;cases A <;> simp[Builtin.firstCells,loadCells,loadCellsFrom]
   .obtain⟨b,E,cap,rfl,_,_,_,g⟩:=hqc h0;refine run_firstCells_some _ _ _ ⟨b,_,ad⟩ _ S q X (λj v hv=> ?_);rw[Addr.bI];simp_all
  have zB:=BM (P:=P) (ty:=o.type) ht hi hzz hS hold hgr hm hb;have hge:=grownCap_ge J.w (n+ys.length) S e;have hcm:=grownCap_le_maxLen J.w (n+ys.length) S e hm;let k:Nat:=grownCap J.w (n+ys.length) S e;let yK:Array yh:=Builtin.zeroCells z.cells (k - (n+ys.length));let f:Array yh:=q.toArray++T.toArray++yK;let J':Sg:={ J with m:=J.m.set id (ab J.w.heap.size),H:=J.H.set id (.row (v+1) i.size st e (.p (.arr (n+ys.length) i.size (xs.take n++ys)))),w:=J.w.drew.alloc (.cells f e)}
  have M:f.size=k*i.size:=by
   simp only[f,yK,Array.size_append,List.size_toArray,size_zeroCells,hzs,X,hnl, <-ybc];congr 1;omega
  have htk:f.toList.take ((n+ys.length)*i.size)=q++T:=by
   have e1:(q++T).length=(n+ys.length)*i.size:=by rw[yl,X,hnl,ybc]
   grind
  have zV:J'.w.heap[J.w.heap.size]? =ab (.cells f e (0,0)):=heap_alloc_new J.w.drew _;have hg:=X3 J.w (.cells f e) ad;have hblk':∀b,b < J.w.heap.size->J'.w.heap[b]? =J.w.heap[b]? :=λb hb=>hg.block b hb (by simp);have l:J'.m[id]? =ab (ab J.w.heap.size):=an G;have B:J'.H[id]? =ab (.row (v+1) i.size st e (.p (.arr (n+ys.length) i.size (xs.take n++ys)))):=an hH
  obtain⟨to,Q⟩:=Xy (J':=J') (mi:=J.m[id]) (mi':=ab J.w.heap.size) ok hH G rfl rfl rfl rfl rfl rfl rfl hg.size
   (λb hb _=>hblk' b hb) (λb' o v hb' _ g=>by
     rw[World.cell?_of_block (w:=J.w) (hblk' b' (VE g))];exact g)
   (λo h _=>by
     have:=ok.lt id J.w.heap.size (by rw[G, <-h]);omega) (.inr ⟨_,rfl,ym _,by simp[J']⟩) (λ⟨d,st,h⟩=>by cases h) (λ⟨d,st,h⟩=>by cases h)
   (λs' e' xs' h=>by cases h)
   (λF=>⟨n+ys.length,Z,.inr ⟨J.w.heap.size,f,k,rfl,zV,M,hge,hcm,by
     rw[htk];simp only[yH,aA];exact⟨zW,Y,Ym (aD F.cells _ _ hq) (aD F.cells _ _ hr)⟩⟩⟩)
   (λv2 s st e d h=>by cases h;exact⟨v+1,_,_,rfl,by omega,λhh=>absurd hh (by omega)⟩)
  refine ZS (J':=J') (Yx ho zL yR R (by rw[hv];exact zB)) to Q ?_;rw[Zj rfl];simp only[yH];exact⟨_,_,rfl,hge,hcm,λh=>(by cases h),λ_=>⟨_,_,rfl⟩,v+1,i.size,st,e,_,B,ym _,λ_=>⟨rfl,.inr ⟨J.w.heap.size,f,l,zV,by rw[M,yax],λ_=>by simp⟩⟩⟩
 rcases h9 with⟨k1,rfl,k2⟩|⟨b,E,k1,k3,k4,k5⟩
 .have hc0:S=0:=by omega
  subst hc0;have hn0:n=0:=by omega
  subst hn0;rcases ycq ys.length with h0|h0
  .have hys:ys=[]:=ybh h0;subst hys;have zB:=CC (P:=P) (ty:=o.type) (A:=ad) (n:=0) (c:=0) ht hi hS (ym _) (λ_=>rfl);let J':Sg:={ J with m:=J.m.set id J.m[id],H:=J.H.set id (.row (v+1) i.size st e (.p (.arr (0+([]:yL Pl).length) i.size (xs.take 0++[]))))};have l:J'.m[id]? =ab J.m[id]:=an G;have B:J'.H[id]? =ab (.row (v+1) i.size st e (.p (.arr (0+([]:yL Pl).length) i.size (xs.take 0++[])))):=an hH;have hmn:J.m[id]=ad:=by rw[G]at k1;exact ybq k1
   obtain⟨to,Q⟩:=Xy (J':=J') (mi:=J.m[id]) (mi':=J.m[id]) ok hH G rfl rfl rfl rfl rfl rfl rfl (ym _)
    (λ_ _ _=>rfl) (λ_ _ _ _ _ h=>h) (λo _ hu=>CD hst hu) (.inl rfl) (λ⟨d,st,h⟩=>by cases h) (λ⟨d,st,h⟩=>by cases h)
    (λs e xs h=>by cases h) (λF=>⟨0,by simp[aS],.inl ⟨hmn,rfl⟩⟩)
    (λv2 s st e d h=>by cases h;exact⟨v+1,_,_,rfl,by omega,λhh=>absurd hh (by omega)⟩)
   refine ZS (J':=J') (Yx ho zL yR R (by rw[hv];exact zB)) to Q ?_;rw[Zj rfl];simp only[yH];exact⟨ad,0,rfl,ym _,by simp[maxLen],λ_=>rfl,λh=>(by simp at h),v+1,i.size,st,e,_,B,ym _,λ_=>⟨rfl,.inl ⟨by rw[l,hmn],rfl,rfl⟩⟩⟩
  grind
 .by_cases I:n+ys.length<=S
  .have hmb:J.m[id]=ab b:=by rw[G]at k1;exact ybq k1
   rw[yax]at k4;rcases ycq S with hcp0|hcp0
   .have hn0:n=0:=by omega
    have hy0:ys.length=0:=by omega
    have hys:ys=[]:=ybh hy0;subst hys;have zB:=CC (P:=P) (ty:=o.type) ht hi hS h2 h4;let J':Sg:={ J with m:=J.m.set id (ab b),H:=J.H.set id (.row (v+1) i.size st e (.p (.arr (n+([]:yL Pl).length) i.size (xs.take n++[]))))};have l:J'.m[id]? =ab (ab b):=an G;have B:J'.H[id]? =ab (.row (v+1) i.size st e (.p (.arr (n+([]:yL Pl).length) i.size (xs.take n++[])))):=an hH
    obtain⟨to,Q⟩:=Xy (J':=J') (mi:=ab b) (mi':=ab b) ok hH k1 rfl rfl rfl rfl rfl rfl rfl (ym _)
     (λ_ _ _=>rfl) (λ_ _ _ _ _ h=>h) (λo _ hu=>CD hst hu) (.inl rfl) (λ⟨d,st,h⟩=>by cases h) (λ⟨d,st,h⟩=>by cases h)
     (λs e xs h=>by cases h) (λF=>⟨n,by simp[aS],.inr ⟨b,E,S,rfl,k3,k4,h2,h3,by
       subst hn0;simp[yH,aA,au];intro x hx;cases hx⟩⟩)
     (λv2 s st e d h=>by cases h;exact⟨v+1,_,_,rfl,by omega,λhh=>absurd hh (by omega)⟩)
    refine ZS (J':=J') (Yx ho zL yR R (by rw[hv];exact zB)) to Q ?_;rw[Zj rfl];simp only[yH];exact⟨A,S,rfl,h2,h3,h4,h5,v+1,i.size,st,e,_,B,ym _,λ_=>⟨rfl,.inr ⟨b,E,l,k3,by rw[yax];exact k4,λh=>absurd h (by omega)⟩⟩⟩
   have hA:=k5 hcp0;rw[Nat.zero_mul]at hA;subst hA;have zB:=BL (P:=P) (ty:=o.type) ht hi hS hone k3 I k4
   have hus:(E.toList.take (n*i.size)).length=n*i.size:=by
    simp_all
   have hqe:E.toList.take (n*i.size)=q:=by
    rcases ycq n with h0|h0
    .grind
    .obtain⟨b2,cur2,cap2,hbb,hm2,hb2,hcs2,g⟩:=hqc h0
     have hbe:b=b2:=by
      grind
     subst hbe;apply ybl;intro j;rw[yct];by_cases hj:j < n*i.size
     .rw[yW hj];have hjq:j < q.length:=by rw[X];exact hj
      have:=g j q[j] (yad hjq);rw[Nat.zero_mul,yax,cell_of_row J.w b j E e (0,0) k3, <-ycl]at this;grind
     grind
   let f:Array yh:=(E.toList.take (n*i.size)++T++E.toList.drop (n*i.size+T.length)).toArray;let J':Sg:={ J with m:=J.m.set id (ab b),H:=J.H.set id (.row (v+1) i.size st e (.p (.arr (n+ys.length) i.size (xs.take n++ys)))),w:=J.w.setRow b f};have hfit:n*i.size+T.length<=E.size:=by rw[hnl,k4, <-ybc];exact ycb _ I
   have M:f.size=S*i.size:=by
    grind
   have zV:J'.w.heap[b]? =ab (.cells f e (0,0)):=setRow_heap J.w b E _ e _ k3;have hoth:∀j,b≠j->J'.w.heap[j]? =J.w.heap[j]? :=λj hj=>setRow_other J.w b j _ (Ne.symm hj);have l:J'.m[id]? =ab (ab b):=an G;have B:J'.H[id]? =ab (.row (v+1) i.size st e (.p (.arr (n+ys.length) i.size (xs.take n++ys)))):=an hH
   have htk:f.toList.take ((n+ys.length)*i.size)=q++T:=by
    have e1:(E.toList.take (n*i.size)++T).length=(n+ys.length)*i.size:=by rw[yl,hus,hnl,ybc]
    grind
   obtain⟨to,Q⟩:=Xy (J':=J') (mi:=ab b) (mi':=ab b) ok hH k1 rfl rfl rfl rfl rfl rfl rfl (by simp[J'])
    (λj hj hne=>hoth j (λhh=>hne (by rw[hh]))) (λb' o v hb' hu g=>by
      cases hb'
      have ho':o < n*i.size:=by
       rcases hst with h|h
       .rw[h]at hu;cases hu.1
       .rw[h];exact(UY hu).2
      rw[cell_of_row J'.w b o f e (0,0) zV];rw[cell_of_row J.w b o E e (0,0) k3, <-ycl]at g;rw[show f[o]? =(E.toList.take (n*i.size)++T++E.toList.drop (n*i.size+T.length))[o]? from by simp[f],yab,ybd (by rw[hus];exact ho'),yct,yW ho']
      exact g)
    (λo _ hu=>CD hst hu) (.inl rfl) (λ⟨d,st,h⟩=>by cases h) (λ⟨d,st,h⟩=>by cases h)
    (λs' e' xs' h=>by cases h)
    (λF=>⟨n+ys.length,Z,.inr ⟨b,f,S,rfl,zV,M,I,h3,by
      rw[htk];simp only[yH,aA];exact⟨zW,Y,Ym (aD F.cells _ _ hq) (aD F.cells _ _ hr)⟩⟩⟩)
    (λv2 s st e d h=>by cases h;exact⟨v+1,_,_,rfl,by omega,λhh=>absurd hh (by omega)⟩)
   refine ZS (J':=J') (Yx ho zL yR R (by rw[hv];exact zB)) to Q ?_;rw[Zj rfl];simp only[yH];exact⟨_,_,rfl,I,h3,λh=>(by cases h),λ_=>⟨_,_,rfl⟩,v+1,i.size,st,e,_,B,ym _,λ_=>⟨rfl,.inr ⟨b,f,l,zV,by rw[M,yax],λ_=>by simp⟩⟩⟩
  grind
theorem ZwF(ok:Ok J)(yM:aB J ts a){c:Call}{x y:yp}{t u e:yc}{i:TypeInfo}{xs ys:yL Pl}{id v n N:Nat}(ho:o.op=.call c)(zL:c.callee=.builtin .append)
 (yR:c.args.toList=[x,y]) (Z:c.argTypes.toList=[t,u]) (ht:P.underlying t=ab (.slice e)) (hx:aC P ts t x=.rv id v i.size 0 n) (hi:P.info? e=ab i) (hz:cq i=ae) (Q:i.size≠0)
 (hsrc:nG P J i.size u (a.eval y) ys) (hH:J.H[id]? =ab (.row v i.size ae e (.p (.arr N i.size xs)))) (hpos:0 < N) (E:n+ys.length<=N):
 YZ P o a J (.rv id v i.size 0 (n+ys.length)) (J.H.set id (.row v i.size ae e (.p (.arr N i.size (xs.take n++(ys++xs.drop (n+ys.length))))))):=by
 have hxv:=Zo (P:=P) yM t x;rw[hx]at hxv;obtain⟨A,cp,hv,h2,h3,h4,h5,v2,s2,st2,e2,d2,h6,h7,h8⟩:=ko hxv;rw[hH]at h6;cases h6;obtain⟨_,h9⟩:=h8 rfl;have R:=hsrc;obtain⟨Y,hS,hr,zU⟩:=R;have S:id < J.m.length:=by rw[ok.len];exact(yu.1 hH).1
 have F:J.m[id]? =ab J.m[id]:=yad S;have hnl:Y.length=ys.length*i.size:=hS.cells;have hone:∀v,v∈Y->v.oneCell'=ae:=cG _ _ hr;obtain⟨N',hN',hent⟩:=ok.dx id _ _ hH F;simp only[aS,if_true,yo]at hN';subst hN';rcases hent with⟨_,h0⟩|⟨b,g,cap,hh,g2,g4,g5,g6,g7⟩
 .omega
 simp only[yH,aA]at g7;obtain⟨hxl,G,g7⟩:=g7;rcases h9 with⟨k1,_,_⟩|⟨b',cur',k1,k3,k4,k5⟩
 .rw[F,hh]at k1;cases k1
 rw[F,hh]at k1;cases k1;rw[g2]at k3;cases k3;have hm:J.m[id]? =ab (ab b):=by rw[F,hh]
 rw[yax]at k4;have hcc:cp=cap:=Nat.eq_of_mul_eq_mul_right (Nat.pos_of_ne_zero Q) (k4.symm.trans g4);subst hcc;have l:n+ys.length<=cp:=Nat.le_trans E g5;have hA:=k5 (by omega);rw[Nat.zero_mul]at hA;subst hA;have zB:=BL (P:=P) (ty:=o.type) ht hi hS hone g2 l k4
 have I:xs=xs.take n++((xs.drop n).take ys.length++xs.drop (n+ys.length)):=by
  have e1:xs.drop (n+ys.length)=(xs.drop n).drop ys.length:=by rw[List.drop_drop]
  rw[e1,ybg,ybg]
 have g7':=g7;rw[I]at g7';obtain⟨q1,q23,e1,r1,r23⟩:=Yd g7';obtain⟨q2,q3,rfl,r2,r3⟩:=Yd r23;have T:bc i.size (xs.take n):=Qc G n;have hs2:bc i.size ((xs.drop n).take ys.length):=Qc (uM G n) _;have ly:((xs.drop n).take ys.length).length=ys.length:=by rw[yac,ybt,ybb (by omega)]
 have l1:q1.length=n*i.size:=by rw[aO _ _ r1,aR T,yac,ybb (by omega)]
 have l2:q2.length=ys.length*i.size:=by rw[aO _ _ r2,aR hs2,ly]
 have hsz:N*i.size<=g.size:=by rw[g4];exact ycb _ g5
 obtain⟨m1,m2⟩:=pn (y':=Y) e1 (by rw[hnl,l2]) hsz;rw[l1]at m1 m2;let f:Array yh:=(g.toList.take (n*i.size)++Y++g.toList.drop (n*i.size+Y.length)).toArray;let J':Sg:={ J with m:=J.m.set id (ab b),H:=J.H.set id (.row v i.size ae e (.p (.arr N i.size (xs.take n++(ys++xs.drop (n+ys.length)))))),w:=J.w.setRow b f};have B:f.size=g.size:=m2;have zV:J'.w.heap[b]? =ab (.cells f e (0,0)):=setRow_heap J.w b g _ e _ g2;have hoth:∀j,b≠j->J'.w.heap[j]? =J.w.heap[j]? :=λj hj=>setRow_other J.w b j _ (Ne.symm hj);have U:J'.m[id]? =ab (ab b):=an hm;have W:J'.H[id]? =ab (.row v i.size ae e (.p (.arr N i.size (xs.take n++(ys++xs.drop (n+ys.length)))))):=an hH
 have X:bc i.size (xs.take n++(ys++xs.drop (n+ys.length))):=by
  by_cases hy:ys=[]
  .subst hy;exact Vf T (Vf (λz hz=>by cases hz) (uM G _))
  .exact Vf T (Vf (zU hy) (uM G _))
 obtain⟨to,ok'⟩:=Xy (J':=J') (mi:=ab b) (mi':=ab b) ok hH hm rfl rfl rfl rfl rfl rfl rfl (by simp[J'])
  (λj hj Q=>hoth j (λhh=>Q (by rw[hh]))) (λb' o v _ hu _=>by cases hu.1) (λo _ hu=>by cases hu.1) (.inl rfl) (λ⟨d,st,h⟩=>by cases h) (λ⟨d,st,h⟩=>by cases h)
  (λs e xs h=>by cases h) (λleaf=>⟨N,by simp[aS],.inr ⟨b,f,cp,rfl,zV,by rw[B];exact g4,g5,g6,by
    rw[show f.toList.take (N*i.size)=q1++(Y++q3) from m1]
    refine Yb leaf _ _ ?_;simp only[yH,aA];refine⟨by rw[yl,yl,yac,ybt];omega,X,Ym r1 (Ym hr r3)⟩⟩⟩)
  (λv2 s st e2 d h=>by cases h;exact⟨v,ae,_,rfl,ym _,λ_=>⟨rfl,λb2 cur2 hb2 M=>by
    cases hb2;rw[g2]at M;cases M;exact⟨f,zV,B⟩⟩⟩)
 refine ZS (J':=J') (Yx ho zL yR Z (by rw[hv];exact zB)) to ok' ?_;rw[Zj rfl];simp only[yH];exact⟨_,_,rfl,l,h3,λh=>(by cases h),λ_=>⟨_,_,rfl⟩,v,i.size,ae,e,_,W,ym _,λ_=>⟨rfl,.inr ⟨b,f,U,zV,by rw[B,yax];exact k4,λ_=>by simp⟩⟩⟩
theorem ZwG(z:Array yh):(Builtin.zeroCells z 1).toList=z.toList:=by
 apply List.ext_getElem
 .simp[Builtin.zeroCells]
 .intro i h g;have f:i < z.size:=by simpa using g
  simp[Builtin.zeroCells,Nat.mod_eq_of_lt f,f]
theorem ZAZ(ok:Ok J)(yM:aB J ts a){c:Call}{x:yp}{t e I:yc}{i:TypeInfo}{z:Pl}{xs:yL Pl}{id v lo N:Nat}(ho:o.op=.call c)(zL:c.callee=.builtin .clear)
 (yR:c.args.toList=[x]) (M:c.argTypes.toList=[t]) (ht:P.underlying t=ab (.slice e)) (hx:aC P ts t x=.rv id v i.size lo 1) (hi:P.info? e=ab i) (hz:cq i=ae) (Q:i.size≠0) (hzp:bf P e=.p z) (hzs:z.size=i.size)
 (hH:J.H[id]? =ab (.row v i.size ae I (.p (.arr N i.size xs)))) (hle:lo+1<=N):
 YZ P o a J (.bm []) (J.H.set id (.row v i.size ae I (.p (.arr N i.size (xs.set lo z))))):=by
 have R:=Zo (P:=P) yM t x;rw[hx]at R;obtain⟨A,cc,hv,h2,h3,h4,hpall,hplen,q,hq,hql,hqc⟩:=vi ok R hH rfl hle;obtain⟨b,f,cap,rfl,hm,hb,hcs,hcell⟩:=hqc (by omega);obtain⟨N',S,T⟩:=ok.dx id _ _ hH hm;simp only[aS,if_true,yo]at S;subst S;rcases T with⟨h,_⟩|⟨b',cur',U,h,g2,g4,g5,g6,g7⟩
 .cases h
 cases h;rw[hb]at g2;cases g2;obtain⟨l,W,X⟩:=lf hz
 have hzr:yJ J (.p z) l:=by
  rw[<-hzp];unfold bf;rw[hi];simp only[W];exact nw
 have E:=V7 (d:=.p z) rfl hzr;simp only[yH]at E;have F:∀u,u∈l.cells.toList->u.oneCell'=ae:=BA _ _ E;have hzl:l.cells.toList.length=i.size:=by rw[ybu,X]
 simp only[yH,aA]at g7;obtain⟨hxl,G,h7⟩:=g7;have Y:lo < xs.length:=by omega
 have Z:xs[lo]? =ab xs[lo]:=yad Y;obtain⟨p1,p2,p3,e1,l1,r2,l2,r1,r3⟩:=kW h7 Z;have l1':p1.length=lo*i.size:=by rw[l1,aR (λz hz=>G z (ybw hz)),yac,ybb (by omega)]
 have l2':p2.length=i.size:=by rw[l2];exact G _ (List.getElem_mem Y)
 have hsz:N*i.size<=f.size:=by rw[g4];exact ycb _ g5
 obtain⟨k1,k2⟩:=pn (y':=l.cells.toList) e1 (by rw[hzl,l2']) hsz;rw[l1']at k1 k2
 have hnl:lo*i.size+l.cells.toList.length<=f.size:=by
  grind
 have hst:=run_storeCells_at P b (lo*i.size) I l.cells.toList 0 f J.w hb (by simpa using hnl) F;simp only[ych]at hst;let g:Array yh:=(f.toList.take (lo*i.size)++l.cells.toList++f.toList.drop (lo*i.size+l.cells.toList.length)).toArray;let J':Sg:={ J with m:=J.m.set id (ab b),H:=J.H.set id (.row v i.size ae I (.p (.arr N i.size (xs.set lo z)))),w:=J.w.setRow b g};have y:g.size=f.size:=k2;have zV:J'.w.heap[b]? =ab (.cells g I (0,0)):=setRow_heap J.w b f _ I _ hb;have hoth:∀j,b≠j->J'.w.heap[j]? =J.w.heap[j]? :=λj hj=>setRow_other J.w b j _ (Ne.symm hj)
 obtain⟨to,ok'⟩:=Xy (J':=J') (mi:=ab b) (mi':=ab b) ok hH hm rfl rfl rfl rfl rfl rfl rfl (by simp[J'])
  (λj hj Q=>hoth j (λhh=>Q (by rw[hh]))) (λb' o v _ hu _=>by cases hu.1) (λo _ hu=>by cases hu.1) (.inl rfl) (λ⟨d,st,h⟩=>by cases h) (λ⟨d,st,h⟩=>by cases h)
  (λs e xs h=>by cases h) (λleaf=>⟨N,by simp[aS],.inr ⟨b,g,U,rfl,zV,by rw[y];exact g4,g5,g6,by
    rw[show g.toList.take (N*i.size)=p1++(l.cells.toList++p3) from k1]
    refine Yb leaf _ _ ?_;simp only[yH,aA];refine⟨by rw[ybp];exact hxl,vc G hzs, ?_⟩;rw[nK Z];refine Ym r1 ?_;simp only[au];exact⟨_,_,rfl,E,r3⟩⟩⟩)
  (λv2 s st e2 d h=>by cases h;exact⟨v,ae,_,rfl,ym _,λ_=>⟨rfl,λb2 cur2 hb2 B=>by
    cases hb2;rw[hb]at B;cases B;exact⟨g,zV,y⟩⟩⟩)
 have h1:c.args= #[x]:=by rw[<-ycf (xs:=c.args),yR]
 have h2':c.argTypes= #[t]:=by rw[<-ycf (xs:=c.argTypes),M]
 have hzv:(zeroValue e).run P J.w=.ok l J.w:=by simp[zeroValue,typeInfo,hi,W]
 have zB:(Builtin.clear_ #[t] o.type #[a.eval x]).run P J.w=.ok (.tuple #[]) J'.w:=by
  rw[hv];simp[Builtin.clear_,run_underlying ht,hzv,ZwG,hst,J',g]
 refine ZS (J':=J') (v:=.tuple #[]) ?_ to ok' ?_
 .simp[execOp,ho,resolve,zL,h1,h2',invoke,builtin,zB]
 .rw[Zj rfl];simp only[yH];exact⟨#[],rfl,by simp[aH]⟩
theorem UZ(ok:Ok J)(I:aB J ts a){t:yc}{x:yp}{lo hi:yO yp}(ho:o.op=.slice t x lo hi ad)(h:bH P o ts J.H hs=ab (C,d,hs'))(hc:aZ C):YZ P o a J d J.H:=by
 simp only[bH,ho]at h;have M:=Zo (P:=P) I t x;split at h
 .rename_i e id v s l0 n l r U W f X Y;rw[f]at M;split at h
  .rename_i v' Q st e' dd j;split at h
   .rename_i N hN;split at h
    .rename_i y;simp only[yi,yP,yT]at y;simp only[yE]at y;obtain⟨⟨⟨⟨k1,R⟩,Z⟩,k4⟩,k5⟩:=y;subst Z;subst k4;cases h;obtain⟨z,c2,c3,_⟩:=hc;obtain⟨A,c,M,h2,h3,h4,h5,h6⟩:=ko M
     have F:N<=l0+c/\(0 < c->∃b o',A=ab ⟨b,o',ad⟩):=by
      obtain⟨v2,s2,st2,e2,d2,g1,g2,g3⟩:=h6;rw[j]at g1;cases g1;obtain⟨_,g4⟩:=g3 rfl;have g:id < J.m.length:=by rw[ok.len];exact(yu.1 j).1
      have G:J.m[id]? =ab J.m[id]:=yad g;obtain⟨N2,S,B⟩:=ok.dx id _ _ j G;rw[hN]at S;cases S;rcases g4 with⟨E,rfl,g6⟩|⟨b,cur,E,g6,g7,g8⟩
      .all_goals grind
      .rw[G]at E;have E:=ybq E;rcases B with⟨B,_⟩|⟨b2,cur2,cap,B,q3,q4,q5,q6,_⟩
       .grind
       .rw[B]at E;cases E;rw[g6]at q3;cases q3;refine⟨?_,λh=>⟨b,_,g8 h⟩⟩;have:cap*Q=(l0+c)*Q:=by rw[<-q4,g7]
        have:=Nat.eq_of_mul_eq_mul_right (Nat.pos_of_ne_zero k5) this;omega
     have hbd:∃p q,(Instr.sliceBounds ae n c (lo.map a.eval) (hi.map a.eval) ad).run P J.w=.ok (p,q,c) J.w/\p=(l.getD 0).toNat/\q=r.toNat/\p<=q/\q<=c:=by
      rcases YM I Y with⟨_,q⟩|⟨R,i2,e2,B⟩
      .cases q
      cases B;have b2:0<=r/\r<=(c:Int):=⟨by omega,by omega⟩;rcases YM I X with⟨T,q⟩|⟨k1,i1,T,S⟩
      .subst q;refine⟨0,r.toNat, ?_,rfl,rfl,Nat.zero_le _,by omega⟩;rw[T,e2];simp[Instr.sliceBounds,Instr.sliceBound,asIntOf,b2]
      .subst S;simp only[Option.getD_some]at z c2;have b1:0<=i1/\i1<=(r.toNat:Int):=⟨z,by omega⟩;refine⟨i1.toNat,r.toNat, ?_,rfl,rfl,by omega,by omega⟩;rw[T,e2];simp[Instr.sliceBounds,Instr.sliceBound,asIntOf,b1,b2];omega
     obtain⟨p,q,hb,rfl,rfl,hpq,hqc⟩:=hbd;refine Zk (v:=.slice (if c=(l.getD 0).toNat then A else A.map (·.add ((l.getD 0).toNat*Q))) (r.toNat - (l.getD 0).toNat) (c - (l.getD 0).toNat)) ok ?_ ?_
     .have zB:(Instr.sliceAt t (a.eval x) (lo.map a.eval) (hi.map a.eval) ad).run P J.w=.ok (.slice (if c=(l.getD 0).toNat then A else A.map (·.add ((l.getD 0).toNat*Q))) (r.toNat - (l.getD 0).toNat) (c - (l.getD 0).toNat)) J.w:=by
       rw[M];simp[Instr.sliceAt,Instr.slice,run_underlying W,hb,Z3 R,k1]
      simp[execOp,ho,zB]
     .exact SI h2 h3 h4 F.2 h6 hpq hqc
    .cases h
   .cases h
  .cases h
 .rename_i n e id off yQ l r U W f X Y;split at h
  .rename_i dd j;split at h
   .rename_i C1 off' n' s xs hs2 hg;split at h
    .rename_i y;simp only[yi,yP]at y;obtain⟨⟨⟨rfl,R⟩,Z⟩,k4⟩:=y;cases h;obtain⟨z,c2⟩:=Zm.1 hc;obtain⟨z,c3⟩:=Zm.1 z;have:=TH ok I ho W f X Y j hg z c3.1 R Z k4 c2
     have T:J.H.set id (.var dd af)=J.H:=by
      obtain⟨h1,h2⟩:=yu.1 j;rw[<-h2,List.set_getElem_self]
     grind
    .cases h
   .cases h
  .cases h
 .cases h
theorem ZGq(ok:Ok J)(G:aB J ts a)(h:cP P o ts J.H hs=ab (C,d,H',hs'))(hc:aZ C):YZ P o a J d H':=by
 unfold cP at h;split at h
 .rename_i x E;have hv:=Zo (P:=P) G o.type x;split at h
  .rename_i t' A;split at h
   .split at h
    .rename_i e s I Q;rw[Q]at hv;split at h
     .rename_i i M;split at h
      .cases h;obtain⟨to,ok'⟩:=Vh (J':={ J with m:=J.m++[ad],H:=J.H++[.log i.size e []]}) ok rfl rfl rfl rfl (World.grownBy.refl J.w ad) (.inl rfl) (λ_=>.inl ⟨rfl,rfl⟩);refine ZS (J':={ J with m:=J.m++[ad],H:=J.H++[.log i.size e []]}) (v:=.slice ad 0 0) (by simp[execOp,E,nI hv]) to ok' ?_;rw[Zj rfl];simp only[yH];refine⟨λ_ Q=>(by cases Q),ad,0,rfl,ym _,by simp[maxLen],Yk _,λ_=>rfl,λh=>absurd rfl h,e,[],by simp,ym _,λ_=>.inl ⟨?_,rfl,rfl⟩⟩;rw[yas (by rw[ok.len];exact ym _),ok.len];simp
      .cases h
     .cases h
    .cases h
   .cases h
  .rename_i t' A;split at h
   .split at h
    .rename_i e s I Q;rw[Q]at hv;split at h
     .rename_i i M;split at h
      .cases h;let J':Sg:={ J with m:=J.m++[ad],H:=J.H++[.row 0 i.size ae e (.p (.arr 0 i.size []))]}
       have hmlast:J'.m[J.H.length]? =ab ad:=by
        show(J.m++[ad])[J.H.length]? =_;rw[yas (by rw[ok.len];exact ym _),ok.len];simp
       obtain⟨to,ok'⟩:=Vh (J':=J') ok rfl rfl rfl rfl (World.grownBy.refl J.w ad) (.inl rfl) (λ_=>⟨0,by simp[aS],.inl ⟨rfl,rfl⟩⟩);refine ZS (J':=J') (v:=.slice ad 0 0) (by simp[J',execOp,E,nI hv]) to ok' ?_;rw[Zj rfl];simp only[yH];exact⟨ad,0,rfl,ym _,by simp[maxLen],λ_=>rfl,λh=>absurd h (Nat.lt_irrefl _),0,i.size,ae,e,.p (.arr 0 i.size []),by simp[J'],ym _,λ_=>⟨rfl,.inl ⟨hmlast,rfl,rfl⟩⟩⟩
      .cases h
     .cases h
    .cases h
   .cases h
  .rename_i t' A;split at h
   .exact UR ok G (by simp[execOp,E]) h hc
   .cases h
  .cases h
 .rename_i x E;split at h
  .rename_i t' A;split at h
   .exact UR ok G (by simp[execOp,E]) h hc
   .cases h
  .cases h
 .rename_i t l c E;split at h
  .rename_i e n n' I W hcp;split at h
   .rename_i i A M;split at h
    .rename_i j;simp only[yi,yE]at j;cases h;exact ZGn ok G E I W hcp M j.1 j.2 hc.1 hc.2.1 hc.2.2.1 hc.2.2.2.1
    .cases h
   .rename_i i A M;split at h
    .rename_i j;simp only[yi,yE]at j;cases h;exact ZGo ok G E I W hcp M j.1 hc.1 hc.2.1 hc.2.2.1 hc.2.2.2.1
    .cases h
   .rename_i i A M;split at h
    .rename_i z hz;split at h
     .rename_i j;simp only[yi,yP,Bool.not_eq_true']at j;cases h;exact ZDg ok G E I W hcp M j.1.1.1 j.1.1.2 hz j.1.2 j.2 hc.1 hc.2.1 hc.2.2.1 hc.2.2.2.1
     .cases h
    .cases h
   .cases h
  .cases h
 .rename_i t E;cases h;exact ZGm ok E
 .rename_i t m k x E;split at h
  .rename_i kt et id I Q;split at h
   .rename_i kk v t' bU l A j hv R;split at h
    .rename_i hkt;cases h;exact ZAW ok G E I Q j hv R hkt hc.1 hc.2.1 hc.2.2.1
    .cases h
   .cases h
  .cases h
 .rename_i t E;split at h
  .rename_i i M;split at h
   .split at h
    .rename_i j;simp only[yi]at j;cases h;exact UX (ZK6 ok E M (by obtain⟨z,hz,_⟩:=lf j.1.1;rw[hz];rfl) j.1.2 j.2) _
    .cases h
   .cases h
  .cases h
 .rename_i t x E;have hv:=Zo (P:=P) G t x;split at h
  .split at h
   .rename_i j;cases h;refine UX (ZPd ok E j ?_) _;unfold nq;split
    .rename_i y hy;exact ZF7 hy hv
    .exact hv
   .cases h
  .cases h
 .rename_i t x y E;split at h
  .rename_i id off yQ Q;split at h
   .rename_i dd R;split at h
    .rename_i C1 Z sub A hg;split at h
     .rename_i new hn;split at h
      .rename_i d' hp;split at h
       .rename_i j;simp only[yi,yT]at j;obtain⟨⟨⟨⟨X,k2⟩,k3⟩,k4⟩,k5⟩:=j;split at h
        .cases h;obtain⟨S,Y⟩:=Zm.1 hc;exact ZyT (ZK8 ok G E Q R hg S Y.1 hn hp X k2 k3 k4) R _
        .cases h
       .cases h
      .cases h
     .cases h
    .cases h
   .cases h
  .rename_i id v off yQ Q;split at h
   .rename_i v' s e dd R;split at h
    .rename_i C1 Z sub A hg;split at h
     .rename_i new hn;split at h
      .rename_i d' hp;split at h
       .rename_i j;simp only[yi,yT]at j;obtain⟨⟨⟨⟨⟨⟨X,k2⟩,k3⟩,k4⟩,k5⟩,k6⟩,k7⟩:=j;cases h;obtain⟨S,Y⟩:=Zm.1 hc;exact ZAY ok G E Q R k6 hg S Y.1 hn hp X k2 k3 k4 k7
       .cases h
      .cases h
     .cases h
    .cases h
   .cases h
  .cases h
 .rename_i t len parts E;split at h
  .rename_i id A;split at h
   .rename_i e v s st e' dd I R;split at h
    .rename_i i xs M W;split at h
     .rename_i j;simp only[yi,yE,yP,yT]at j;obtain⟨⟨j,rfl⟩,rfl⟩:=j;cases h;exact ZDi ok G E I M j.1.1 j.1.2 j.2 W R
     .cases h
    .cases h
   .cases h
  .rename_i A;split at h
   .rename_i e I;split at h
    .rename_i i xs M W;split at h
     .rename_i j;simp only[yi,yE,yP]at j;cases h;exact ZGp ok G E I M j.1.1 j.1.2 j.2 W
     .cases h
    .cases h
   .cases h
  .rename_i A;split at h
   .rename_i e I;split at h
    .rename_i i xs M W;split at h
     .rename_i j;simp only[yi,yE,yP]at j;cases h;exact Vg (ZGc ok G E I M j.1.1 j.1.2 j.2 W) (Wk.nC (by rw[<-Pl.cH];exact cL _)) (ca.append (ca.refl _) (.cons (.log (by rw[<-Pl.cH];exact cL _)) .nil))
     .cases h
    .cases h
   .cases h
  .cases h
 .rename_i t x lo M E;split at h
  .rename_i n e id off yQ l r I Q W hr;split at h
   .rename_i A;split at h
    .rename_i dd st R;split at h
     .rename_i C1 Z n' s xs hs2 hg;split at h
      .rename_i j;simp only[yi,yP]at j;obtain⟨⟨⟨rfl,k2⟩,k3⟩,k4⟩:=j;cases h;obtain⟨S,Y⟩:=Zm.1 hc;obtain⟨S,c3⟩:=Zm.1 S;exact TH ok G E I Q W hr R hg S c3.1 k2 k3 k4 Y
      .cases h
     .cases h
    .cases h
   .cases h
  .rename_i e id v s lo' n l r I Q W hr;split at h
   .rename_i A;split at h
    .rename_i v' s' e' N s2 xs R;split at h
     .rename_i j;simp only[yi,yT,yE,yP]at j;obtain⟨⟨⟨⟨⟨⟨⟨X,k2⟩,k3⟩,k4⟩,k5⟩,k6⟩,k7⟩,k8⟩:=j;simp only[yo,yq]at h;obtain⟨rfl,rfl,rfl,rfl⟩:=h;subst k3;subst k4;subst k5;subst k7
      have hR:bH P o ts J.H (.raw::A)=ab ([0<=l.getD 0,l.getD 0<=r,0+r.toNat<=N],.rv id v' s2 (0+(l.getD 0).toNat) (r.toNat - (l.getD 0).toNat),A):=by
       unfold bH;rw[E];dsimp only;rw[I,Q,W,hr];dsimp only;rw[R];simp[aS,X,k2,k6]
      have:=UZ ok G E hR ⟨by rw[k8];omega,by rw[k8];exact hc.1,by rw[yax];exact hc.2.1,ao⟩;rw[k8]at this;exact Vg this (Wk.of_eq (by simp)) (ca.fd R (.shr hc.2.1))
     .cases h
    .cases h
   .cases h
  .cases h
 .rename_i c E;split at h
  .rename_i T;split at h
   .rename_i x y t u U F;split at h
    .rename_i e id nn s xs I Q;split at h
     .rename_i i C1 ys A s' e' zs M B R;split at h
      .rename_i j;simp only[yi,yE,yP]at j;obtain⟨⟨⟨⟨X,k2⟩,rfl⟩,rfl⟩,k5⟩:=j;cases h;obtain⟨S,rfl,Y,c3,_⟩:=Zm.1 hc;exact ZyP ok G E T U F I Q M X k2 k5 (vj ok G B S) R Y c3
      .cases h
     .cases h
    .rename_i e s I Q;split at h
     .rename_i A i ys M B;split at h
      .rename_i j;simp only[yi,yE]at j;cases h;exact ZyO ok G E T U F I Q M j.1 j.2 B hc.1 hc.2.1
      .cases h
     .rename_i A i ys M B;split at h
      .rename_i j;simp only[yi,yE]at j;cases h;exact ZwD ok G E T U F I Q M j.1 j.2 (qS (P:=P) G B) hc.1 hc.2.1
      .cases h
     .cases h
    .rename_i e id v s lo n I Q;split at h
     .rename_i hs0;split at h
      .rename_i i C1 ys A M B;split at h
       .rename_i j;cases h;obtain⟨S,rfl,_⟩:=Zm.1 hc;exact ZwE ok G E T U F I Q M (vj ok G B S)
       .cases h
      .cases h
     .rename_i hs0;split at h
      .rename_i i C1 ys A v' s' st' e' N s'' xs M B R;split at h
       .rename_i j;simp only[yi,yE,yP,yT]at j;obtain⟨⟨⟨⟨⟨⟨⟨X,rfl⟩,rfl⟩,rfl⟩,rfl⟩,k5⟩,rfl⟩,rfl⟩:=j;cases h;obtain⟨S,cc⟩:=Zm.1 hc;have Y:=cc.1;have c3:=cc.2.1;have c4:=cc.2.2.1;have c5:=cc.2.2.2.1;exact ZyV ok G c5 E T U F I Q M X k5 (vj ok G B S) R Y c3 c4
       .cases h
      .cases h
     .rename_i hs0;split at h
      .rename_i i C1 ys A v' s' e' N s'' xs M B R;split at h
       .rename_i j;simp only[yi,yE,yP,yT]at j;obtain⟨⟨⟨⟨⟨⟨⟨X,rfl⟩,rfl⟩,rfl⟩,rfl⟩,k5⟩,rfl⟩,rfl⟩:=j;cases h;obtain⟨S,cc⟩:=Zm.1 hc;exact ZwF ok G E T U F I Q M X k5 (vj ok G B S) R cc.1 cc.2.1
       .cases h
      .cases h
     .cases h
    .cases h
   .cases h
  .rename_i T;split at h
   .rename_i x t U F;split at h
    .rename_i e id v s lo n I Q;split at h
     .rename_i i z v' s' e' N s'' xs M hz R;split at h
      .rename_i j;simp only[yi,yE,yP,yT]at j;obtain⟨⟨⟨⟨⟨⟨X,rfl⟩,rfl⟩,rfl⟩,rfl⟩,k5⟩,k6⟩:=j;cases h;obtain⟨rfl,hc1,_⟩:=hc;exact Vg (ZAZ ok G E T U F I Q M X k5 hz k6 R hc1) (Wk.refl _) (ca.bA _ _ (.row ⟨Wk.p (bF.jz (aY.bA (md z) _ _)),rfl⟩))
      .cases h
     .cases h
    .cases h
   .cases h
  .rename_i T;split at h
   .rename_i x y t u U F;split at h
    .rename_i e id off yQ s lo n I Q;split at h
     .rename_i ys dd B R;split at h
      .rename_i C1 Z N s' xs A hg;split at h
       .rename_i dd' hp;split at h
        .rename_i j;simp only[yi,yP]at j;obtain⟨⟨rfl,k2⟩,k3⟩:=j;cases h;obtain⟨S,Y⟩:=Zm.1 hc;exact ZNp ok G E T U F I Q B R hg S Y.1 hp k2 k3 Y.2.1 Y.2.2.1
        .cases h
       .cases h
      .cases h
     .cases h
    .cases h
   .cases h
  .rename_i f T;split at h
   .rename_i g cap r Hc ids A hf;split at h
    .rename_i j;simp only[yi,yT,yP]at j;split at h
     .rename_i args' Hin r' Hb U hin hr hb;cases h;exact TN ok G E T hf j.1.1.1 j.1.1.2 j.1.2 j.2 U hin hr hb hc.1
     .cases h
    .cases h
   .cases h
  .rename_i recv name T;split at h
   .rename_i t x g r Hc ids A hf;split at h
    .rename_i j;simp only[yi,yT,yP]at j;split at h
     .rename_i args' Hin r' Hb U hin hr hb;cases h;exact ZyQ ok G E T hf j.1.1.1 j.1.1.2 j.1.2 j.2 U hin hr hb hc.1 hc.2.1
     .cases h
    .cases h
   .cases h
  .cases h
 .cases h
theorem Ye(ok:Ok J)(j:aB J ts a)(h:cw P o ts J.H hs=ab (C,d,H',hs'))(hc:aZ C):YZ P o a J d H':=by
 unfold cw at h;split at h
 .rename_i C1 d1 m f;cases h;exact ZGi ok j f hc
 .split at h
  .rename_i C1 d1 m f;cases h;have l:=f;unfold bH at l;split at l
   .rename_i t x g;exact ZNo ok j g f hc
   .rename_i t x lo A g;exact UZ ok j g f hc
   .rename_i t x ix y g;exact ZHU ok j g f hc
   .rename_i c g;split at l
    .rename_i z;exact ZHV ok j g z f hc
    .cases l
   .cases l
  .exact ZGq ok j h hc
theorem kp{J':Sg}{v:yh}(g:aB J' ts a)(hd:yJ J' d v):aB J' (fB ts o.dst d) (a.put o.dst v):=by
 unfold fB Act.put
 cases o.dst with
 |none=>exact g
 |some t=>
  refine⟨by simpa using g.size,λi e f=> ?_,g.defers⟩;rw[yby]at f;split at f
  .rename_i h;subst h;split at f
   .rename_i j;cases f;have:t < a.tmps.size:=by rw[g.size];exact j
    simpa[Array.getD,this] using hd
   .cases f
  .rename_i h;have:=g.at_ i e f;simpa[Array.getD_eq_getD_getElem?,Array.getElem?_setIfInBounds,h] using this
theorem ZA0{v:yh}{J':Sg}{dst:yO Tmp}(hc:aZ (jd dst d hs).1)(hd:yJ J' d v):yJ J' (jd dst d hs).2.1 v:=by
 exact hd
theorem Zsn{J':Sg}:yJ J' (.bm []) undef:=by
 rw[Zj rfl];simp only[yH];exact⟨#[],rfl,by simp[aH]⟩
theorem vl{ops:Array yj}(ok:Ok J)(g:aB J ts a)(h:cY P ops o ts J.H hs=ab (C,d,H',hs'))(hc:aZ C)(K:Act->yy->Prop)(Q:Exit->Act->yy->Prop)
 (I:∀v J',J'.H=H'->To J J'->Ok J'->aB J' (fB ts o.dst d) (a.put o.dst v)->K (a.put o.dst v) J'.w):
 if Region.wanted o (yielded ops a.tmps) then o.wp P a J.w K Q else K (a.put o.dst undef) J.w:=by
 unfold cY at h;split at h
 .rename_i A;simp only[yv,yq]at h;obtain⟨⟨C1,d1,H1,B⟩,l,rfl,rfl,rfl,rfl⟩:=h;obtain⟨R,S⟩:=Zm.1 hc;have m:Region.wanted o (yielded ops a.tmps)=ae:=by simp[Region.wanted,A]
  rw[yW m];exact Ye ok g l R K Q λv J' T to y U=>I v J' T to y (kp (g.to to.leaf) (ZA0 S U))
 .rename_i j want A;split at h
  .rename_i t β B E
   have M:yielded ops a.tmps j=ab t:=by
    unfold yielded;simp only[yv]at E;obtain⟨z,l,F⟩:=E;rw[l];simp only[Option.bind_some]
    have f:z < ts.length:=by
     all_goals grind
    have W:=g.at_ z (.p (.bool t)) (by
     have:=yad f;simp only[List.getD,this,Option.getD_some]at F;rw[this,F])
    have X:=Yl W;have G:z < a.tmps.size:=by rw[g.size];exact f
    simp_all
   split at h
   .rename_i hb;simp only[yv,yq]at h;obtain⟨⟨C1,d1,H1,hs2⟩,l,rfl,rfl,rfl,rfl⟩:=h;obtain⟨Y,Z⟩:=hc;obtain⟨R,S⟩:=Zm.1 Z;have m:Region.wanted o (yielded ops a.tmps)=ae:=by simp[Region.wanted,A,M,Y,hb]
    rw[yW m];exact Ye ok g l R K Q λv J' T to y U=>I v J' T to y (kp (g.to to.leaf) (ZA0 S U))
   .rename_i hb;cases h;have Y:t=β:=hc.1
    have m:Region.wanted o (yielded ops a.tmps)=af:=by
     simp only[Region.wanted,A,M,Y];grind
    rw[m];exact I undef J rfl (To.refl J) ok (kp g Zsn)
  .rename_i B E;cases h
   have M:yielded ops a.tmps j=ad:=by
    unfold yielded;simp only[yv]at E;obtain⟨z,l,F⟩:=E;rw[l];simp only[Option.bind_some]
    have f:z < ts.length:=by
     all_goals grind
    have W:=g.at_ z (.bm []) (by
     have:=yad f;simp only[List.getD,this,Option.getD_some]at F;rw[this,F])
    have X:=W.2 rfl;simp only[yH]at X;obtain⟨cs,h5,h6⟩:=X;have G:z < a.tmps.size:=by rw[g.size];exact f
    simp_all
   have m:Region.wanted o (yielded ops a.tmps)=af:=by
    simp only[Region.wanted,A,M];grind
   rw[m];exact I undef J rfl (To.refl J) ok (kp g Zsn)
  .cases h
theorem Zso{ops:Array yj}(Q:Exit->Act->yy->Prop){ts':yL Dv}:∀(l:yL yj)(k:Nat)(ts:yL Dv)(J:Sg)(a:Act)(hs hs':yL ar)(C:yL Prop)(H':yL aq),
 (∀j,l[j]? =ops[k+j]?)->Ok J->aB J ts a->cu P ops l ts J.H hs=ab (C,ts',H',hs')->aZ C->
 (∀m J',J'.H=H'->To J J'->Ok J'->aB J' ts' m->Q .normal m J'.w)->wpOps P ops Q (List.range' k l.length) a J.w
 |[],k,ts,J,a,hs,hs',C,H',_,y,z,h,M,A=>by
  simp only[cu,yo,yq]at h;obtain⟨rfl,rfl,rfl,rfl⟩:=h
  exact A a J rfl (To.refl J) y z
 |o::l,k,ts,J,a,hs,hs',C,H',R,y,z,h,M,A=>by
  simp only[cu]at h;split at h
  .rename_i C1 d1 H1 B S;split at h
   .rename_i C2 T H2 U W;cases h;obtain⟨X,Y⟩:=Zm.1 M;have Z:ops[k]? =ab o:=by simpa using(R 0).symm
    simp only[yah,List.range'_succ,wpOps,Z]
    have key:=vl (P:=P) (ops:=ops) y z S X (wpOps P ops Q (List.range' (k+1) l.length)) Q (λv J1 e1 E F f=>by
     subst e1
     exact Zso Q l (k+1) _ J1 _ B _ C2 _ (λj=>by have:=R (j+1);simpa[Nat.add_assoc,Nat.add_comm 1 j] using this) F f W Y
      (λm J' e2 G I g=>A m J' e2 (E.trans G) I g))
    all_goals grind
   .cases h
  .cases h
end
end Go.Ev
end
section
namespace Go.Ev
section
variable{P:yg}{o:yj}{ts:yL Dv}{H H' H2:yL aq}{hs hs':yL ar}{C:yL Prop}{d:Dv}
theorem ZHW{id:Nat}(h:oZ P o ts=ab id)(I:ki o=af)(e:du (H[id]?)=du (H2[id]?)):bH P o ts H2 hs=bH P o ts H hs:=by
 unfold oZ at h;unfold bH
 cases l:o.op with
 |load t a=>
  simp only[l]at h ⊢
  cases j:aC P ts 0 a with
  |aj i off M=>
   simp only[j,yo]at h;subst h;simp only
   cases g:H[i]? with
   |none=>
    rw[g]at e
    cases f:H2[i]? with
    |none=>rfl
    |some x=>rw[f]at e;cases x <;> simp[du]at e
   |some y=>
    rw[g]at e
    cases f:H2[i]? with
    |none=>rw[f]at e;cases y <;> simp[du]at e
    |some x=>
     rw[f]at e
     cases x <;> cases y <;> simp_all[du]
  |ba i v off M=>
   simp only[j,yo]at h;subst h;simp only
   cases g:H[i]? with
   |none=>
    rw[g]at e
    cases f:H2[i]? with
    |none=>rfl
    |some x=>rw[f]at e;cases x <;> simp[du]at e
   |some y=>
    rw[g]at e
    cases f:H2[i]? with
    |none=>rw[f]at e;cases y <;> simp[du]at e
    |some x=>
     rw[f]at e
     cases x <;> cases y <;> simp_all[du]
  |_=>simp[j]at h
 |lookup t x ix Q=>
  simp only[l]at h ⊢
  cases j:aC P ts t x with
  |mp i=>
   simp only[j,yo]at h;subst h
   have m:H2[i]? =H[i]? \/((∃d1 s1,H[i]? =ab (.var d1 s1))/\∃d2 F,H2[i]? =ab (.var d2 F))\/((∃z s1 t1 A d1,H[i]? =ab (.row z s1 t1 A d1))/\∃z s1 t1 A d1,H2[i]? =ab (.row z s1 t1 A d1)):=by
    cases g:H[i]? with
    |none=>
     rw[g]at e
     cases f:H2[i]? with
     |none=>exact .inl rfl
     |some x=>rw[f]at e;cases x <;> simp[du]at e
    |some y=>
     rw[g]at e
     cases f:H2[i]? with
     |none=>rw[f]at e;cases y <;> simp[du]at e
     |some x=>
      rw[f]at e;cases x <;> cases y <;> simp_all[du]
   cases P.underlying t with
   |none=>rfl
   |some u=>
    cases u with
    |map G R=>
     dsimp only;rcases m with m|⟨⟨d1,s1,B⟩,d2,F,E⟩|⟨⟨_,_,_,_,_,B⟩,_,_,_,_,_,E⟩
     .rw[m]
     .rw[B,E];cases aC P ts G ix <;> rfl
     .rw[B,E]
      cases aC P ts G ix <;> rfl
    |_=>rfl
  |_=>simp[j]at h
 |slice t x lo S T=>simp[ki,l]at I
 |_=>simp[l]at h
def fM(o:yj)(x:yO aq):yO aq:=if ki o=ae then x else du x
theorem ZNq{id:Nat}(h:oZ P o ts=ab id)(e:fM o (H[id]?)=fM o (H2[id]?)):bH P o ts H2 hs=bH P o ts H hs:=by
 unfold fM at e
 cases f:ki o with
 |false=>
  rw[f]at e
  exact ZHW h f (by simpa using e)
 |true=>
  rw[f,yW rfl,yW rfl]at e;unfold ki at f;split at f
  .rename_i t x lo j y g;unfold oZ at h;rw[g]at h;unfold bH;rw[g]
   cases y with
   |some m=>simp at h
   |none=>
    dsimp only at h ⊢;split at h
    .rename_i i off B z;cases h;rw[z]
     cases P.underlying t with
     |none=>rfl
     |some u=>
      cases go P ts lo with
      |none=>cases u <;> rfl
      |some l=>
       cases go P ts j with
       |none=>cases u <;> rfl
       |some E=>
        cases hs with
        |nil=>cases u <;> rfl
        |cons A F=>cases u <;> cases A <;> first|rfl|(dsimp only;rw[e])
    .cases h
  .cases f
theorem ZGr{H:yL aq}{x:aq}{i:Nat}(hi:i < H.length):du ((H++[x])[i]?)=du (H[i]?):=by
 grind
theorem CE{H:yL aq}{x:aq}{i id:Nat}(h:¬id=i):du ((H.set id x)[i]?)=du (H[i]?):=by
 grind
theorem ZEU{H:yL aq}{dd:Dv}{i id:Nat}(f:∃st,H[id]? =ab (.var dd st)):du ((H.set id (.var dd af))[i]?)=du (H[i]?):=by
 obtain⟨st,h⟩:=f;by_cases e:id=i
 .subst e;rw[yby,yW rfl,yW (yu.1 h).1,h];rfl
 grind
theorem ZHX{H:yL aq}{dd:Dv}{v s:Nat}{e:yc}{i id:Nat}(f:∃st,H[id]? =ab (.row v s st e dd)):du ((H.set id (.row v s af e dd))[i]?)=du (H[i]?):=by
 obtain⟨st,h⟩:=f;by_cases e:id=i
 .subst e;rw[yby,yW rfl,yW (yu.1 h).1,h];rfl
 grind
theorem Zut:∀(ids:yL Nat)(H Hb:yL aq){i:Nat},i < H.length->ids.contains i=af->du ((aw H ids Hb)[i]?)=du (H[i]?)
 |[],H,Hb,i,f,_=>by
  simp only[aw]
  grind
 |_::_,H,[],i,f,_=>by simp only[aw]
 |id::r,H,e::Hb,i,f,h=>by
  simp only[List.contains_cons,Bool.or_eq_false_iff,beq_eq_false_iff_ne]at h;simp only[aw];rw[Zut r (H.set id e) Hb (by simpa using f) h.2];grind
theorem ZHY{dv:Dv}{i:Nat}(h:jw dv H hs=ab (C,d,H',hs')):du (H'[i]?)=du (H[i]?):=by
 unfold jw at h
 repeat' split at h
 all_goals first
  |(cases h;done)
  |(cases h
    first
     |exact ZEU ⟨_,by assumption⟩
     |(rename_i f
       simp only[yi,yP,yT]at f;obtain⟨⟨rfl,rfl⟩,rfl⟩:=f;exact ZHX ⟨_,by assumption⟩))
theorem ZxB{l:yL Nat}{i:Nat}(h:cP P o ts H hs=ab (C,d,H',hs'))(ht:kh P o ts hs=ab l)(hi:i < H.length)(hl:l.contains i=af):du (H'[i]?)=du (H[i]?):=by
 unfold cP at h
 repeat' (first|split at h|(dsimp only at h;split at h))
 all_goals first
  |(cases h;done)
  |exact ZHY h
  |(cases h
    first
     |rfl
     |exact ZGr hi
     |(rw[ybd hi];done)
     |exact ZEU ⟨_,by assumption⟩
     |(rw[ybd (by simpa using hi)]
       refine CE ?_;rintro rfl;simp_all[kh]
       exact hl (by rw[<-ht];simp))
     |(refine Zut _ _ _ hi ?_
       simp_all[kh])
     |(refine CE ?_
       simp_all[kh]
       done)
     |(refine CE ?_
       rintro rfl;simp_all[kh];exact hl (by rw[<-ht];simp)))
end
end Go.Ev
end
