/- Parts of the proof, in one file. -/
import Derived.Test.YtcbhhaigilifgaaGreatKa
open Option renaming some → ab, none → ad
open Bool renaming true → ae, false → af
open Decidable renaming decide → ag
open Array renaming length_toList → yax, getElem?_toList → yby, toArray_toList → ycf, getElem?_eq_some_iff → yco
open Bool renaming and_eq_true → yi
open Go renaming TypeId → yc, Program → yg, Value → yh, Oper → yj, Operand → yp, World → yr, FuncId → yw
open List renaming length_append → yl, getElem?_eq_some_iff → yu, replicate → yx, length_take → yaa, getElem?_eq_getElem → yab, append_assoc → yac, length_map → yad, length_cons → yaf, map_cons → yah, getElem?_cons_succ → yak, getElem?_cons_zero → yam, getElem?_map → yao, getElem?_append_right → yaq, mem_cons_self → yau, mem_cons_of_mem → yav, length_drop → yaz, take_append_drop → ybb, mem_singleton → ybc, getElem?_append_left → ybe, getElem_of_mem → ybg, eq_nil_of_length_eq_zero → ybj, mem_of_getElem? → ybk, mem_cons → ybp, ext_getElem? → ybq, mem_of_mem_take → ybs, length_set → ybu, mem_map → ybw, getElem?_set → ybx, take_of_length_le → ycc, getElem?_take → ycd, length_nil → ycn, mem_of_mem_drop → ycq
open Nat renaming le_refl → ym, zero_add → yar, min_eq_left → yay, add_mul → yba, mul_le_mul_right → ycb, eq_zero_or_pos → yct
open Option renaming map_eq_some_iff → yv
open Option.some renaming injEq → yn, inj → ybl
open Prod.mk renaming injEq → yq
set_option linter.unusedVariables false
set_option linter.unusedSimpArgs false
section
namespace Go.Ev
theorem ZDb{xs:yL Pl}{i:Nat}{x y:Pl}(f:xs[i]? =ab x)(hs:y.size=x.size):Pl.sizes (xs.set i y)=Pl.sizes xs:=by
 rw[oY,oY,List.map_set,hs];congr 1;apply ybq;intro j;rw[ybx];split
 .rename_i h;subst h;have:=(yu.1 f).1;rw[yao,f];simp[this]
 .rfl
theorem TJ{xs:yL Dv}{i:Nat}{x y:Dv}(f:xs[i]? =ab x)(hs:y.size=x.size):Dv.sizes (xs.set i y)=Dv.sizes xs:=by
 rw[oX,oX,List.map_set,hs];congr 1;apply ybq;intro j;rw[ybx];split
 .rename_i h;subst h;have:=(yu.1 f).1;rw[yao,f];simp[this]
 .rfl
theorem nK{α:Type}{xs:yL α}{i:Nat}{x y:α}(f:xs[i]? =ab x):xs.set i y=xs.take i++(y::xs.drop (i+1)):=by
 rw[List.set_eq_take_append_cons_drop,yW (yu.1 f).1]
theorem uX{α:Type}{Q:α->Prop}{xs:yL α}{i:Nat}{y:α}(h:∀x,x∈xs->Q x)(f:Q y):∀x,x∈xs.set i y->Q x:=by
 intro x g;rcases List.mem_or_eq_of_mem_set g with h1|h1
 .exact h x h1
 .rw[h1];exact f
theorem qQ{σ:Sg}:∀{xs:yL Pl}{us:yL yh},ar σ.w σ.bf xs us->aM σ (xs.map Dv.p) us
 |[],us,h=>by simpa[ar,aM] using h
 |x::xs,us,h=>by
  simp only[ar]at h;obtain⟨a,b,f,g,j⟩:=h;simp only[yah,aM];exact⟨a,b,f,by simpa[yH] using g,qQ j⟩
theorem QY{σ:Sg}:∀(yQ:yL Nat)(dd:Dv)(hs hs':yL ao)(C:yL Prop)(off:Nat)(sub:Dv)(us:yL yh),Yd dd yQ hs=ab (C,off,sub,hs')->aX C->yH σ dd us->
 ∃x y z,us=x++(y++z)/\x.length=off/\yH σ sub y/\∀new dd' y',Wi new dd yQ hs=ab dd'->new.size=sub.size->yH σ new y'->yH σ dd' (x++(y'++z))/\dd'.size=dd.size
 |[],dd,hs,hs',C,off,sub,us,h,Y,E=>by
  simp only[Yd,yn,yq]at h;obtain⟨rfl,rfl,rfl,rfl⟩:=h;refine⟨[],us,[],by simp,rfl,E,λnew dd' y' g hs F=> ?_⟩;simp only[Wi,yn]at g;subst g
  exact⟨by simpa using F,hs⟩
 |i::yQ,dd,hs,hs',C,off,sub,us,h,Y,E=>by
  cases dd with
  |p q=>
   cases q with
   |agg Z=>
    simp only[Yd]at h;split at h
    .rename_i x f;simp only[yv,yq]at h;obtain⟨⟨C1,G,I,Q⟩,h1,rfl,rfl,rfl,rfl⟩:=h;simp only[yH,aB]at E;obtain⟨j,p2,l,rfl,h2,h3,_,R,S⟩:=la E f;obtain⟨m,q2,A,rfl,h4,h5,T⟩:=QY yQ (.p x) _ _ _ _ _ p2 h1 Y (by simpa[yH] using h3);refine⟨j++m,q2,A++l,by simp,by rw[yl,h2,h4],h5,λnew dd' y' g hs F=> ?_⟩;simp only[Wi,f]at g;split at g
     .rename_i y X;cases g;obtain⟨J,M⟩:=T new _ y' X hs F;have k3:y.size=x.size:=by simpa[Dv.size] using M
      refine⟨?_,by simp only[Dv.size,Pl.size];exact ZDb f k3⟩;simp only[yH,aB];rw[nK f];have e:j++m++(y'++(A++l))=j++((m++(y'++A))++l):=by simp
      rw[e];refine Z7 R ?_;simp only[ar];exact⟨_,_,rfl,by simpa[yH] using J,S⟩
     .rename_i y X hne;cases g;obtain⟨J,M⟩:=T new _ y' hne hs F;have k3:y.size=x.size:=by simpa[Dv.size] using M
      have U:(Z.map Dv.p)[i]? =ab (.p x):=by rw[yao,f];rfl
      refine⟨?_,by
       simp only[Dv.size,Pl.size];rw[TJ U k3,oX,oY,List.map_map];rfl⟩
      simp only[yH];rw[nK U];have e:j++m++(y'++(A++l))=j++((m++(y'++A))++l):=by simp
      rw[e, <-List.map_take, <-List.map_drop];refine qI (qQ R) ?_;simp only[aM];exact⟨_,_,rfl,J,qQ S⟩
     .cases g
    .cases h
   |arr n s Z=>
    simp only[Yd]at h;split at h
    .rename_i y Q;simp only[yv,yq]at h;obtain⟨⟨C1,G,I,Q⟩,h1,rfl,rfl,rfl,rfl⟩:=h;obtain⟨f,Y⟩:=Y;simp only[yH,aB]at E;obtain⟨hl,W,E⟩:=E;obtain⟨j,p2,l,rfl,h2,h3,_,R,S⟩:=la E f;obtain⟨m,q2,A,rfl,h4,h5,T⟩:=QY yQ (.p y) _ _ _ _ _ p2 h1 Y (by simpa[yH] using h3);have hi:i < Z.length:=(yu.1 f).1;refine⟨j++m,q2,A++l,by simp,by rw[yl,h2,h4,aN (Vq W i),yaa,yay (Nat.le_of_lt hi)],h5,λnew dd' y' g hs F=> ?_⟩;simp only[Wi]at g;split at g
     .rename_i z hz;cases g;obtain⟨J,M⟩:=T new _ y' hz hs F;have k3:z.size=y.size:=by simpa[Dv.size] using M
      have k4:z.size=s:=by rw[k3];exact W y (ybk f)
      refine⟨?_,rfl⟩;simp only[yH,aB];refine⟨by rw[ybu];exact hl,uX W (by rw[BM];exact k4), ?_⟩;rw[nK f];have e:j++m++(y'++(A++l))=j++((m++(y'++A))++l):=by simp
      rw[e];refine Z7 R ?_;simp only[ar];exact⟨_,_,rfl,(mf z).dq _ _ _ (by simpa[yH] using J),S⟩
     .rename_i z hz hne;cases g;obtain⟨J,M⟩:=T new _ y' hne hs F;have k3:z.size=y.size:=by simpa[Dv.size] using M
      have k4:z.size=s:=by rw[k3];exact W y (ybk f)
      have U:(Z.map Dv.p)[i]? =ab (.p y):=by rw[yao,f];rfl
      refine⟨?_,rfl⟩;simp only[yH]
      refine⟨by rw[ybu,yad];exact hl,uX (λq hq=>by
       obtain⟨q',hq',rfl⟩:=ybw.1 hq;exact W q' hq') k4, ?_⟩
      rw[nK U];have e:j++m++(y'++(A++l))=j++((m++(y'++A))++l):=by simp
      rw[e, <-List.map_take, <-List.map_drop];refine qI (qQ R) ?_;simp only[aM];exact⟨_,_,rfl,J,qQ S⟩
     .cases g
    .cases h
   |_=>simp[Yd]at h
  |agg Z=>
   simp only[Yd]at h;split at h
   .rename_i x f;simp only[yv,yq]at h;obtain⟨⟨C1,G,I,Q⟩,h1,rfl,rfl,rfl,rfl⟩:=h;simp only[yH]at E;obtain⟨j,p2,l,rfl,h2,h3,_,R,S⟩:=md E f;obtain⟨m,q2,A,rfl,h4,h5,T⟩:=QY yQ x _ _ _ _ _ p2 h1 Y h3;refine⟨j++m,q2,A++l,by simp,by rw[yl,h2,h4],h5,λnew dd' y' g hs F=> ?_⟩;simp only[Wi,f,yv]at g;obtain⟨y,X,rfl⟩:=g;obtain⟨J,M⟩:=T new _ y' X hs F;refine⟨?_,by simp only[Dv.size];exact TJ f M⟩;simp only[yH];rw[nK f];have e:j++m++(y'++(A++l))=j++((m++(y'++A))++l):=by simp
    rw[e];refine qI R ?_;simp only[aM];exact⟨_,_,rfl,J,S⟩
   .cases h
  |arr n s Z=>
   simp only[Yd]at h;split at h
   .rename_i x f;simp only[yv,yq]at h;obtain⟨⟨C1,G,I,Q⟩,h1,rfl,rfl,rfl,rfl⟩:=h;simp only[yH]at E;obtain⟨hl,W,E⟩:=E;obtain⟨j,p2,l,rfl,h2,h3,_,R,S⟩:=md E f;obtain⟨m,q2,A,rfl,h4,h5,T⟩:=QY yQ x _ _ _ _ _ p2 h1 Y h3;have hi:i < Z.length:=(yu.1 f).1;refine⟨j++m,q2,A++l,by simp,by rw[yl,h2,h4,df (λy X=>W y (ybs X)),yaa,yay (Nat.le_of_lt hi)],h5,λnew dd' y' g hs F=> ?_⟩;simp only[Wi,f,yv]at g;obtain⟨y,X,rfl⟩:=g;obtain⟨J,M⟩:=T new _ y' X hs F;refine⟨?_,rfl⟩;simp only[yH];refine⟨by rw[ybu];exact hl,uX W (by rw[M];exact W x (ybk f)), ?_⟩;rw[nK f];have e:j++m++(y'++(A++l))=j++((m++(y'++A))++l):=by simp
    rw[e];refine qI R ?_;simp only[aM];exact⟨_,_,rfl,J,S⟩
   .cases h
  |_=>simp[Yd]at h
section
variable{P:yg}{o:yj}{a:Act}{σ:Sg}{ts:yL Dv}{hs hs':yL ao}{C:yL Prop}{d:Dv}
theorem qR{σ':Sg}(f:(execOp a.eval o).run P σ.w=.ok .skip σ'.w)(to:To σ σ')(ok:Ok σ'):YL P o a σ .an σ'.H:=by
 intro K Q h;unfold Oper.wp;rw[f];exact h undef σ' rfl to ok Yr
theorem TK{v:Dv}{u:yh}(f:yJ σ v u):yJ σ v.cW u:=by
 unfold Dv.cW;split
 .rename_i x g;exact BH g f
 .exact f
theorem TL{yQ:yL Nat}{dd v new:Dv}{u:yh}(h:jf yQ dd v=ab new)(f:yJ σ v u):yJ σ new u:=by
 unfold jf at h;split at h
 .cases h;exact TK f
 .split at h
  .cases h;exact TK f
  .cases h;exact f
theorem pf{x y z y':yL yh}{cs:Array yh}{n:Nat}(h:cs.toList.take n=x++(y++z))(hl:y'.length=y.length)(hn:n<=cs.size):
 (cs.toList.take x.length++y'++cs.toList.drop (x.length+y'.length)).take n=x++(y'++z)/\(cs.toList.take x.length++y'++cs.toList.drop (x.length+y'.length)).length=cs.size:=by
 have g:n=x.length+(y.length+z.length):=by
  have:=congrArg List.length h;simp only[yaa,yax,yl]at this;omega
 have e:cs.toList=x++(y++z)++cs.toList.drop n:=by rw[<-h,ybb]
 have j:cs.toList.take x.length=x:=by rw[e];simp
 have l:cs.toList.drop (x.length+y'.length)=z++cs.toList.drop n:=by
  have m:cs.toList=(x++y)++(z++cs.toList.drop n):=by
   have:x++y++(z++cs.toList.drop n)=x++(y++z)++cs.toList.drop n:=by simp
   rw[this];exact e
  have f:x.length+y'.length=(x++y).length:=by rw[yl,hl]
  rw[f];have:=congrArg (List.drop (x++y).length) m;rw[List.drop_left]at this;exact this
 rw[j,l];constructor
 .have:x++y'++(z++cs.toList.drop n)=(x++(y'++z))++cs.toList.drop n:=by simp
  rw[this,g];have f:x.length+(y.length+z.length)=(x++(y'++z)).length:=by simp[hl]
  rw[f];exact List.take_left
 .simp only[yl,yaz,yax];omega
theorem ZIa(ok:Ok σ)(yM:aD σ ts a){t:yc}{x y:yp}{id off:Nat}{yQ:yL Nat}{dd sub new dd':Dv}{C1:yL Prop}{off':Nat}(ho:o.op=.store t x y)(hx:aF P ts 0 x=.aj id off yQ)
 (hH:σ.H[id]? =ab (.var dd ae)) (hg:Yd dd yQ hs=ab (C1,off',sub,hs')) (hc:aX C1) (he:off'=off) (hn:jf yQ dd (aF P ts t y)=ab new) (hp:Wi new dd yQ hs=ab dd')
 (z:new.bF=ae) (hsz:new.size=sub.size) (ht:P.cellsOf t=new.size) (hi:(P.info? t).isSome=ae):YL P o a σ .an (σ.H.set id (.var dd' ae)):=by
 subst he;have l:=Zq (P:=P) yM 0 x;have T:=TL hn (Zq (P:=P) yM t y);rw[hx]at l;obtain⟨b,hm,hv,l⟩:=lr l;obtain⟨b',E,S,h1,h2,h3,h4⟩:=ok.dF id _ _ hH hm;cases h1;obtain⟨p1,p2,p3,h5,h6,h7,h8⟩:=QY yQ dd hs hs' C1 off' sub _ hg hc h3;have f:=Vj z T;obtain⟨h9,G⟩:=h8 new dd' _ hp hsz f;have I:(a.eval y).cells.toList.length=new.size:=XC _ _ f;have U:p2.length=sub.size:=XC _ _ h7;have W:(a.eval y).cells.toList.length=p2.length:=by rw[I,U,hsz]
 obtain⟨k1,k2⟩:=pf h5 W h4;rw[h6]at k1 k2
 have X:off'+(a.eval y).cells.toList.length<=E.size:=by
  have:=congrArg List.length h5;simp only[yaa,yax,yl]at this;omega
 have J:∀u,u∈(a.eval y).cells.toList->u.oneCell'=ae:=qM new _ z f;have M:=run_storeCells_at P b off' S (a.eval y).cells.toList 0 E σ.w h2 (by simpa using X) J;simp only[Nat.add_zero]at M;let g:Array yh:=(E.toList.take off'++(a.eval y).cells.toList++E.toList.drop (off'+(a.eval y).cells.toList.length)).toArray;let F:Sg:={ σ with m:=σ.m.set id (ab b),H:=σ.H.set id (.var dd' ae),w:=σ.w.setRow b g};have zV:F.w.heap[b]? =ab (.cells g S (0,0)):=setRow_heap σ.w b E _ S _ h2;have Q:∀j,b≠j->F.w.heap[j]? =σ.w.heap[j]? :=λj hj=>setRow_other σ.w b j _ (Ne.symm hj)
 obtain⟨to,Y⟩:=YN (σ':=F) (mi:=ab b) (mi':=ab b) ok hH hm rfl rfl rfl rfl rfl rfl rfl (by simp[F])
  (λj hj Z=>Q j (λhh=>Z (by rw[hh]))) (λb' o v _ hu _=>by cases hu) (λo _ hu=>by cases hu) (.inl rfl) (λ_=>⟨rfl,dd',ae,rfl⟩) (λ⟨d,st,h⟩=>by cases h)
  (λs e xs h=>by cases h) (λR=>⟨b,g,S,rfl,zV,by rw[G];show yH F dd' (g.toList.take dd.size);rw[show g.toList.take dd.size=p1++((a.eval y).cells.toList++p3) from k1];exact Yg R dd' _ h9,by
    rw[G];show dd.size<=g.size;have:g.size=E.size:=k2;omega⟩)
 refine qR (σ':=F) ?_ to Y
 cases A:P.info? t with
 |none=>simp[A]at hi
 |some i=>
  have hs:(a.eval y).cells.size=i.size:=by
   rw[<-yax,I, <-ht];simp[Program.cellsOf,A]
  simp only[execOp,ho,l,Instr.storeAt,Instr.sureAddr,storeVar,sizeOf,typeInfo,Sem.run_bind,run_program,Result.andThen_ok,A,Sem.run_pure,hs,ne_eq,not_true,if_false,M];rfl
theorem TM(ok:Ok σ)(Q:aD σ ts a){t e:yc}{x:yp}{lo hi:yO yp}{id off n s:Nat}{yQ:yL Nat}{dd:Dv}{st:Bool}{xs:yL Pl}{C1:yL Prop}{off':Nat}{l r:yO Int}
 (ho:o.op=.slice t x lo hi ad) (hu:P.underlying t=ab (.array n e)) (hx:aF P ts t x=.aj id off yQ) (hl:gA P ts lo=ab l) (hr:gA P ts hi=ab r)
 (hH:σ.H[id]? =ab (.var dd st)) (hg:Yd dd yQ hs=ab (C1,off',.p (.arr n s xs),hs')) (hc:aX C1) (he:off'=off) (hce:P.cellsOf e=s) (R:(P.info? e).isSome=ae) (T:n<=maxLen)
 (z:aX (YQ n l r)):YL P o a σ (.p (.sl (ab ae) s (Vp xs l r))) (σ.H.set id (.var dd af)):=by
 have f:=Zq (P:=P) Q t x;rw[hx]at f;obtain⟨b,M,hv,f⟩:=lr f;obtain⟨cs,t',p1,X,p3,h2,h4,h5,h6,Y,h3,h8⟩:=uW ok M hH hg hc he;simp only[yH,aB]at Y;obtain⟨h9,U,W⟩:=Y;subst h9;let g:Sg:={ σ with m:=σ.m.set id (ab b),H:=σ.H.set id (.var dd af)};have E:g.m[id]? =ab (ab b):=ak M;have F:g.H[id]? =ab (.var dd af):=ak hH
 obtain⟨to,I⟩:=YN (σ':=g) (mi:=ab b) (mi':=ab b) ok hH M rfl rfl rfl rfl rfl rfl rfl (ym _)
  (λ_ _ _=>rfl) (λ_ _ _ _ _ h=>h) (λo _ hu=>rfl) (.inl rfl) (λ_=>⟨rfl,dd,af,rfl⟩) (λ⟨d,st,h⟩=>by cases h)
  (λs e xs h=>by cases h) (λJ=>⟨b,cs,t',rfl,h2,Yg J dd _ h3,h4⟩)
 have y:Ww g.w g.bf b off X:=λj u hu=>by
  refine⟨h8 j u hu,.inr (ok.own id b M),λZ e' g1 g2=> ?_⟩;have:Z=id:=I.inj Z id _ g1 E;subst this;rw[F]at g2;cases g2;rfl
 obtain⟨p,q,hb,k1,k2,rfl,rfl⟩:=nF (P:=P) (w:=σ.w) af xs.length xs.length _ _ _ _ (YB Q hl) (YB Q hr) z (ym _);obtain⟨j1,j2,j3,j4,j5,j6,j7⟩:=uP (A:=ab ⟨b,off,ad⟩) (w:=g.w) (S:=g.bf) U (ym _) T (λhA=>by cases hA) (λ_=>⟨b,off,X,rfl,aE to.leaf.cells _ _ W,y⟩) k1 k2
 have zB:(Instr.sliceAt t (a.eval x) (lo.map a.eval) (hi.map a.eval) ad).run P σ.w=.ok (.slice (ab (if xs.length=(l.getD 0).toNat then(⟨b,off,ad⟩:Addr) else(⟨b,off,ad⟩:Addr).add ((l.getD 0).toNat*s))) ((r.getD (xs.length:Int)).toNat - (l.getD 0).toNat) (xs.length - (l.getD 0).toNat)) σ.w:=by
  rw[f];simp[Instr.sliceAt,Instr.sureAddr,run_underlying hu,hb,Z1 R,hce]
 have G:(execOp a.eval o).run P σ.w=.ok (.value (.slice (ab (if xs.length=(l.getD 0).toNat then(⟨b,off,ad⟩:Addr) else(⟨b,off,ad⟩:Addr).add ((l.getD 0).toNat*s))) ((r.getD (xs.length:Int)).toNat - (l.getD 0).toNat) (xs.length - (l.getD 0).toNat))) g.w:=by
  show _=Result.ok _ σ.w;simp only[execOp,ho,Option.map_none,Sem.run_bind,zB,Result.andThen_ok,Sem.run_pure]
 refine ZM G to I ?_;rw[uQ xs l r z];have:=Yy (σ:=g) j1 (by rw[j2];exact j3) j4 (QT j5) j6 j7;rw[j2]at this;simpa[apply_ite] using this
end
theorem uZ:∀{ids:yL Nat},once ids=ae->∀(i j id:Nat),ids[i]? =ab id->ids[j]? =ab id->i=j
 |[],_,i,j,id,h,_=>by simp at h
 |x::r,l,i,j,id,f,g=>by
  simp only[once,yi,Bool.not_eq_true']at l;have m:x ∉ r:=by simpa using l.1
  cases i with
  |zero=>
   cases j with
   |zero=>rfl
   |succ j=>
    simp only[yam,yn]at f;simp only[yak]at g;subst f
    exact absurd (ybk g) m
  |succ i=>
   cases j with
   |zero=>
    simp only[yam,yn]at g;simp only[yak]at f;subst g
    exact absurd (ybk f) m
   |succ j=>
    simp only[yak]at f g;rw[uZ l.2 i j id f g]
theorem cB{ids:yL Nat}{id j:Nat}(h:ids.idxOf? id=ab j):ids[j]? =ab id:=by
 induction ids generalizing j with
 |nil=>simp at h
 |cons x r f=>
  rw[List.idxOf?_cons]at h;split at h
  .rename_i g;cases h;have:x=id:=by simpa using g
   simp[this]
  .simp only[yv]at h;obtain⟨k,l,rfl⟩:=h;simpa using f l
theorem cZ{ids:yL Nat}(ho:once ids=ae){id j:Nat}(h:ids[j]? =ab id):ids.idxOf? id=ab j:=by
 cases f:ids.idxOf? id with
 |none=>
  rw[List.idxOf?_eq_none_iff]at f
  exact absurd (ybk h) f
 |some k=>rw[uZ ho k j id (cB f) h]
theorem BY{α:Type}:∀(H:yL α)(ids:yL Nat)(Hb:yL α),ids.length<=Hb.length->(aA H ids Hb).length=H.length+(Hb.length - ids.length)
 |H,[],Hb,_=>by simp[aA]
 |H,id::r,[],h=>by simp at h
 |H,id::r,e::Hb,h=>by
  simp only[yaf]at h;rw[aA,BY _ r Hb (by omega),ybu];simp
theorem qS{α:Type}:∀(H:yL α)(ids:yL Nat)(Hb:yL α)(i:Nat),ids.length<=Hb.length->i < H.length->i ∉ ids->(aA H ids Hb)[i]? =H[i]?
 |H,[],Hb,i,_,f,_=>by simp only[aA];rw[ybe f]
 |H,id::r,[],i,h,_,_=>by simp at h
 |H,id::r,e::Hb,i,h,f,g=>by
  simp only[yaf]at h;simp only[ybp,not_or]at g;rw[aA,qS _ r Hb i (by omega) (by simpa using f) g.2,ybx,yX (Ne.symm g.1)]
theorem va{α:Type}:∀(H:yL α)(ids:yL Nat)(Hb:yL α)(j id:Nat),once ids=ae->ids.length<=Hb.length->(∀i,i∈ids->i < H.length)->ids[j]? =ab id->(aA H ids Hb)[id]? =Hb[j]?
 |H,[],Hb,j,id,_,_,_,h=>by simp at h
 |H,x::r,[],j,id,_,h,_,_=>by simp at h
 |H,x::r,e::Hb,j,id,l,m,f,h=>by
  simp only[once,yi,Bool.not_eq_true']at l;have y:x ∉ r:=by simpa using l.1
  simp only[yaf]at m;rw[aA]
  cases j with
  |zero=>
   simp only[yam,yn]at h;subst h;have g:x < H.length:=f x (yau ..);rw[qS _ r Hb x (by omega) (by simpa using g) y]
   simp[g]
  |succ j=>
   simp only[yak]at h ⊢;exact va _ r Hb j id l.2 (by omega) (λi z=>by rw[ybu];exact f i (yav _ z)) h
theorem ve{α:Type}:∀(H:yL α)(ids:yL Nat)(Hb:yL α)(j:Nat),ids.length<=Hb.length->ids.length<=j->(aA H ids Hb)[H.length+(j - ids.length)]? =Hb[j]?
 |H,[],Hb,j,_,_=>by
  simp only[aA,ycn,Nat.sub_zero];rw[yaq (by omega)]
  simp
 |H,id::r,[],j,h,_=>by simp at h
 |H,id::r,e::Hb,j,h,f=>by
  simp only[yaf]at h f
  cases j with
  |zero=>omega
  |succ j=>
   rw[aA];have:=ve (H.set id e) r Hb j (by omega) (by omega);rw[ybu]at this;simp only[yaf,yak];rw[<-this];congr 1;omega
theorem Qn{H:yL aq}{all:yL Nat}:∀{ids:yL Nat}{Hin:yL aq},aP H all ids=ab Hin->Hin.length=ids.length
 |[],Hin,h=>by simp only[aP,yn]at h;subst h;rfl
 |id::r,Hin,h=>by
  simp only[aP]at h;split at h
  .rename_i e g _ f;cases h;simp[Qn f]
  .cases h
theorem Qo{H:yL aq}{all:yL Nat}:∀{ids:yL Nat}{Hin:yL aq}{j id:Nat},aP H all ids=ab Hin->ids[j]? =ab id->
 ∃e g,H[id]? =ab e/\Hin[j]? =ab g/\e.rn (bc all)=ab g
 |[],Hin,j,id,_,f=>by simp at f
 |x::r,Hin,j,id,h,f=>by
  simp only[aP]at h;split at h
  .rename_i e E l m;cases h
   cases j with
   |zero=>
    simp only[yam,yn]at f;subst f;simp only[Option.bind_eq_some_iff]at l;obtain⟨y,z,A⟩:=l
    exact⟨y,e,z,rfl,A⟩
   |succ j=>
    simp only[yak]at f ⊢;exact Qo m f
  .cases h
theorem TN{f:Nat->yO Nat}:∀{H Hb:yL aq},aq.bC f H=ab Hb->Hb.length=H.length
 |[],Hb,h=>by simp only[aq.bC,yn]at h;subst h;rfl
 |e::H,Hb,h=>by
  simp only[aq.bC]at h;split at h
  .rename_i y j _ g;cases h;simp[TN g]
  .cases h
theorem vf{f:Nat->yO Nat}:∀{H Hb:yL aq}{j:Nat}{e:aq},aq.bC f H=ab Hb->H[j]? =ab e->∃l,Hb[j]? =ab l/\e.rn f=ab l
 |[],Hb,j,e,_,g=>by simp at g
 |x::H,Hb,j,e,h,g=>by
  simp only[aq.bC]at h;split at h
  .rename_i y A m z;cases h
   cases j with
   |zero=>
    simp only[yam,yn]at g;subst g
    exact⟨y,rfl,m⟩
   |succ j=>
    simp only[yak]at g ⊢;exact vf z g
  .cases h
theorem TO{f:Nat->yO Nat}{d d':Dv}{s:Nat}(h:d.rn f=ab d'):aR d' s=aR d s:=by
 cases d with
 |p x=>simp only[Dv.rn,yn]at h;subst h;rfl
 |arr n t j=>simp only[Dv.rn,yv]at h;obtain⟨g,_,rfl⟩:=h;rfl
 |elem x=>simp only[Dv.rn,yn]at h;subst h;rfl
 |an=>simp only[Dv.rn,yn]at h;subst h;rfl
 |_=>simp only[Dv.rn,yv]at h;obtain⟨g,_,rfl⟩:=h;rfl
theorem BZ{f:Nat->yO Nat}{e g:aq}{o:Nat}(h:e.rn f=ab g):g.bB o↔e.bB o:=by
 cases e with
 |var d st=>
  simp only[aq.rn,yv]at h;obtain⟨j,_,rfl⟩:=h
  exact Iff.rfl
 |log s t l=>simp only[aq.rn,yn]at h;subst h;exact Iff.rfl
 |map t bS=>simp only[aq.rn,yn]at h;subst h;exact Iff.rfl
 |row v s st e d=>
  simp only[aq.rn,yv]at h;obtain⟨j,h,rfl⟩:=h
  simp only[aq.bB,TO h]
 |gone=>simp only[aq.rn,yn]at h;subst h;exact Iff.rfl
theorem CA{f:Nat->yO Nat}{σ σ':Sg}(h:Rn f σ σ'){a:yO Nat}{e R:aq}(he:e.rn f=ab R)(m:dH σ a e):dH σ' a R:=by
 cases e with
 |var d st=>
  simp only[aq.rn,yv]at he;obtain⟨I,G,rfl⟩:=he;obtain⟨b,S,t,rfl,g,y,z⟩:=m;have hs:=(lc d I G).1
  exact⟨b,S,t,rfl,by rw[h.w];exact g,by rw[hs];exact lf h d I _ G y,by rw[hs];exact z⟩
 |log s t T=>
  simp only[aq.rn,yn]at he;subst he;rcases m with⟨rfl,g⟩|⟨b,A,E,rfl,g,y,z,J,M,U⟩
  .exact .inl ⟨rfl,g⟩
  .exact .inr ⟨b,A,E,rfl,by rw[h.w];exact g,y,z,J,M,aE h.cells T _ U⟩
 |map t bS=>
  simp only[aq.rn,yn]at he;subst he;obtain⟨b,j,F,rfl,g,y,z⟩:=m;refine⟨b,j,F,rfl,by rw[h.w];exact g, ?_,z⟩
  have Q:∀(l:yL (Pl×Pl))(j:yL MapEntry),iG σ l j->iG σ' l j:=by
   intro l
   induction l with
   |nil=>intro j k;cases j <;> exact k
   |cons q r W=>
    intro j k
    cases j with
    |nil=>exact k
    |cons e j=>exact⟨lh h rfl k.1,lh h rfl k.2.1,W j k.2.2⟩
  obtain⟨X,p,Y,y⟩:=y
  exact⟨X,p,Y,Q _ _ y⟩
 |row v s st e d=>
  simp only[aq.rn,yv]at he;obtain⟨I,G,rfl⟩:=he;obtain⟨N,Z,g⟩:=m;refine⟨N,by rw[TO G];exact Z, ?_⟩;rcases g with g|⟨b,A,E,rfl,g,y,z,J,M⟩
  .exact .inl g
  .exact .inr ⟨b,A,E,rfl,by rw[h.w];exact g,y,z,J,lf h d I _ G M⟩
 |gone=>simp only[aq.rn,yn]at he;subst he;trivial
section
variable{P:yg}{o:yj}{a:Act}{σ:Sg}{ts:yL Dv}
def callee(σ:Sg)(ids:yL Nat)(Hin:yL aq):Sg:=
 { F:=σ.bf,B:=λb=>σ.w.heap.size<=b\/∃j:Nat,(ids.map λid=>(σ.m[id]?).getD ad)[j]? =ab (ab b),m:=ids.map λid=>(σ.m[id]?).getD ad,H:=Hin,w:=σ.w}
theorem TQ{ids:yL Nat}{Hin:yL aq}{j id:Nat}{x:yO Nat}(h:ids[j]? =ab id)(hm:σ.m[id]? =ab x):(callee σ ids Hin).m[j]? =ab x:=by
 show(ids.map λid=>(σ.m[id]?).getD ad)[j]? =ab x;rw[yao,h];simp[hm]
theorem Wl{ids:yL Nat}{Hin:yL aq}{j b:Nat}(h:(callee σ ids Hin).m[j]? =ab (ab b)):∃id,ids[j]? =ab id/\σ.m[id]? =ab (ab b):=by
 have g:(ids.map λid=>(σ.m[id]?).getD ad)[j]? =ab (ab b):=h;rw[yao]at g;obtain⟨id,y,f⟩:=yv.1 g;refine⟨id,y, ?_⟩
 cases l:σ.m[id]? with
 |none=>rw[l]at f;cases f
 |some x=>rw[l]at f;simp at f;rw[f]
theorem CB(ok:Ok σ){ids:yL Nat}{Hin:yL aq}(ho:once ids=ae)(hin:aP σ.H ids ids=ab Hin):Rn (bc ids) σ (callee σ ids Hin) where
 w:=rfl
 bf b o v _ h:=by
  refine⟨.inl h,λj e hj he=> ?_⟩;obtain⟨id,h1,h2⟩:=Wl hj;obtain⟨e0,e',h3,h4,h5⟩:=Qo hin h1;have he':Hin[j]? =ab e:=he;rw[h4]at he';cases he';exact(BZ h5).2 (h.2 id e0 h2 h3)
 m id j hj x hx:=TQ (cB hj) hx
 H id j hj e he:=by
   obtain⟨e0,e',h3,h4,h5⟩:=Qo hin (cB hj);rw[he]at h3;cases h3;exact⟨e',h4,h5⟩
theorem ZDc(ok:Ok σ){ids:yL Nat}{Hin:yL aq}(ho:once ids=ae)(hin:aP σ.H ids ids=ab Hin):Ok (callee σ ids Hin) where
 len:=by
  show(ids.map _).length=Hin.length;rw[yad,Qn hin]
 inj i j b hi hj:=by
  obtain⟨x,h1,h2⟩:=Wl hi;obtain⟨y,h3,h4⟩:=Wl hj;have:=ok.inj x y b h2 h4;subst this;exact uZ ho i j x h1 h3
 lt i b hi:=by
  obtain⟨x,h1,h2⟩:=Wl hi;exact ok.lt x b h2
 dF i e x he hx:=by
  have he':Hin[i]? =ab e:=he;have hi:i < ids.length:=by rw[<-Qn hin];exact(yu.1 he').1
  obtain⟨e0,e',h3,h4,h5⟩:=Qo hin (yab hi);rw[he']at h4;cases h4
  have hm:∃y,σ.m[ids[i]]? =ab y:=by
   have:ids[i] < σ.m.length:=by rw[ok.len];exact(yu.1 h3).1
   exact⟨_,yab this⟩
  obtain⟨y,hy⟩:=hm;have:=TQ (Hin:=Hin) (yab hi) hy;rw[hx]at this;cases this;exact CA (CB ok ho hin) h5 (ok.dF _ _ _ h3 hy)
 new b hb:=.inl hb
 own i b hi:=.inr ⟨i,hi⟩
end
end Go.Ev
end
section
namespace Go.Ev
section
variable{P:yg}{o:yj}{a:Act}{σ:Sg}{ts:yL Dv}
def mr(σ:Sg)(ids:yL Nat)(Hb:yL aq)(τ:Sg):Sg:=
 { F:=σ.F,B:=σ.B,m:=aA σ.m ids τ.m,H:=aA σ.H ids Hb,w:=τ.w}
theorem ZDd(ok:Ok σ){ids:yL Nat}{Hin Hb:yL aq}{τ:Sg}(ho:once ids=ae)(hin:aP σ.H ids ids=ab Hin)(to:To (callee σ ids Hin) τ)(okτ:Ok τ)(hle:ids.length<=τ.H.length)
 (hb:aq.bC (aV ids σ.H.length) τ.H=ab Hb):
 To σ (mr σ ids Hb τ)/\Ok (mr σ ids Hb τ)/\Rn (aV ids σ.H.length) τ (mr σ ids Hb τ):=by
 have hbl:Hb.length=τ.H.length:=TN hb;have hml:τ.m.length=τ.H.length:=okτ.len
 have hidl:∀i,i∈ids->i < σ.H.length:=by
  intro i G;obtain⟨j,y,rfl⟩:=ybg G;obtain⟨e0,_,h3,_⟩:=Qo hin (yab y);exact(yu.1 h3).1
 have hidm:∀i,i∈ids->i < σ.m.length:=λi G=>by rw[ok.len];exact hidl i G
 have mo:∀id,id < σ.H.length->id ∉ ids->(aA σ.m ids τ.m)[id]? =σ.m[id]? :=λid h1 g=>qS _ _ _ _ (by omega) (by rw[ok.len];exact h1) g;have Ho:∀id,id < σ.H.length->id ∉ ids->(aA σ.H ids Hb)[id]? =σ.H[id]? :=λid h1 g=>qS _ _ _ _ (by omega) h1 g;have ma:∀(j id:Nat),ids[j]? =ab id->(aA σ.m ids τ.m)[id]? =τ.m[j]? :=λj id h=>va _ _ _ _ _ ho (by omega) hidm h;have Ha:∀(j id:Nat),ids[j]? =ab id->(aA σ.H ids Hb)[id]? =Hb[j]? :=λj id h=>va _ _ _ _ _ ho (by omega) hidl h;have mn:∀j,ids.length<=j->(aA σ.m ids τ.m)[σ.H.length+(j - ids.length)]? =τ.m[j]? :=λj h=>by rw[<-ok.len];exact ve _ _ _ _ (by omega) h
 have Hn:∀j,ids.length<=j->(aA σ.H ids Hb)[σ.H.length+(j - ids.length)]? =Hb[j]? :=λj h=>ve _ _ _ _ (by omega) h
 have U:∀id,id < σ.H.length+(τ.H.length - ids.length)->(id < σ.H.length/\id ∉ ids)\/(∃j:Nat,ids[j]? =ab id)\/(∃j:Nat,ids.length<=j/\id=σ.H.length+(j - ids.length)):=by
  intro id h;by_cases h1:id < σ.H.length
  .by_cases g:id∈ids
   .obtain⟨j,y,rfl⟩:=ybg g;exact .inr (.inl ⟨j,yab y⟩)
   .exact .inl ⟨h1,g⟩
  .exact .inr (.inr ⟨ids.length+(id - σ.H.length),by omega,by omega⟩)
 have S:(aA σ.m ids τ.m).length=σ.H.length+(τ.H.length - ids.length):=by rw[BY _ _ _ (by omega),ok.len,hml]
 have f:∀(j id:Nat),ids[j]? =ab id->aV ids σ.H.length j=ab id:=λj id h=>by
  have y:j < ids.length:=(yu.1 h).1;unfold aV;rw[yW y,h]
 have fromNew:∀j,ids.length<=j->aV ids σ.H.length j=ab (σ.H.length+(j - ids.length)):=λj h=>by
  unfold aV;rw[yX (by omega)]
 have back:∀(id b:Nat),(aA σ.m ids τ.m)[id]? =ab (ab b)->(id < σ.H.length/\id ∉ ids/\σ.m[id]? =ab (ab b))\/(∃j:Nat,aV ids σ.H.length j=ab id/\τ.m[j]? =ab (ab b)/\(aA σ.H ids Hb)[id]? =Hb[j]?):=by
  intro id b h;have z:id < σ.H.length+(τ.H.length - ids.length):=by rw[<-S];exact(yu.1 h).1
  rcases U id z with⟨h1,g⟩|⟨j,h1⟩|⟨j,h1,rfl⟩
  .exact .inl ⟨h1,g,by rw[<-mo id h1 g];exact h⟩
  .exact .inr ⟨j,f j id h1,by rw[<-ma j id h1];exact h,Ha j id h1⟩
  .exact .inr ⟨j,fromNew j h1,by rw[<-mn j h1];exact h,Hn j h1⟩
 have W:∀(id b:Nat),id ∉ ids->σ.m[id]? =ab (ab b)->τ.w.heap[b]? =σ.w.heap[b]? :=λid b h1 g=>
  to.block b (ok.lt id b g) (λj y=>by
    obtain⟨M,h3,h4⟩:=Wl y;have:=ok.inj id M b g h4;subst this;exact h1 (ybk h3))
 have J:∀(j b:Nat),τ.m[j]? =ab (ab b)->(∃id,ids[j]? =ab id/\σ.m[id]? =ab (ab b))\/σ.w.heap.size<=b:=by
  intro j b h;rcases to.same j b h with h1|h1
  .exact .inl (Wl h1)
  .exact .inr h1
 have X:∀b o v,τ.w.cell? ⟨b,o,ad⟩=ab v->τ.bf b o->(mr σ ids Hb τ).bf b o:=by
  intro b o v hcell h;have hB:τ.B=(callee σ ids Hin).B:=to.B;have hF:τ.F=(callee σ ids Hin).F:=to.F
  have hfirst:σ.bf b o\/σ.B b:=by
   rcases h.1 with h1|h1
   .rw[hF]at h1;exact .inl h1
   .rw[hB]at h1;rcases h1 with h1|⟨j,y⟩
    .exact .inr (ok.new b h1)
    .obtain⟨id,_,h3⟩:=Wl (σ:=σ) (Hin:=Hin) y;exact .inr (ok.own id b h3)
  refine⟨?_,λid e hid he=> ?_⟩
  .rcases hfirst with h1|h1
   .exact h1.1
   .exact .inr h1
  .have hid':(aA σ.m ids τ.m)[id]? =ab (ab b):=hid;have Q:(aA σ.H ids Hb)[id]? =ab e:=he;rcases back id b hid' with⟨h1,g,h3⟩|⟨j,h1,g,h3⟩
   .rw[Ho id h1 g]at Q;have hbs:=ok.lt id b h3;rcases h.1 with h4|h4
    .rw[hF]at h4;exact h4.2 id e h3 Q
    .rw[hB]at h4;rcases h4 with h4|⟨j,y⟩
     .omega
     .obtain⟨M,I,Y⟩:=Wl (σ:=σ) (Hin:=Hin) y;have:=ok.inj id M b h3 Y;subst this;exact absurd (ybk I) g
   .rw[h3]at Q;have y:j < τ.H.length:=by rw[<-hbl];exact(yu.1 Q).1
    obtain⟨e',h4,I⟩:=vf hb (yab y);rw[Q]at h4;cases h4;exact(BZ I).2 (h.2 j _ g (yab y))
 have rn:Rn (aV ids σ.H.length) τ (mr σ ids Hb τ):=by
  refine⟨rfl,λb o v h1 g=>X b o v h1 g,λj id y x hx=> ?_,λj id y e he=> ?_⟩
  .show(aA σ.m ids τ.m)[id]? =ab x;unfold aV at y;split at y
   .rw[ma j id y];exact hx
   .cases y;rw[mn j (by omega)];exact hx
  .obtain⟨e',h4,I⟩:=vf hb he;refine⟨e', ?_,I⟩;show(aA σ.H ids Hb)[id]? =ab e';unfold aV at y;split at y
   .rw[Ha j id y];exact h4
   .cases y;rw[Hn j (by omega)];exact h4
 have R:=CB ok ho hin
 have leaf:ck σ (mr σ ids Hb τ):=by
  refine⟨λb o v h1 g=> ?_,λid b h1 g=> ?_,λid s len A c h1=> ?_,λid b h1 g=> ?_,λid v s st e d h1=> ?_⟩
  .obtain⟨h3,h4⟩:=to.leaf.cells b o v h1 (R.bf b o v h1 g);exact⟨h3,X b o v h3 h4⟩
  .have z:id < σ.H.length:=by rw[<-ok.len];exact(yu.1 h1).1
   by_cases G:id∈ids
   .obtain⟨j,y,rfl⟩:=ybg G;have E:=yab y;have h3:bc ids ids[j]=ab j:=cZ ho E;obtain⟨h4,I⟩:=to.leaf.var j b (R.m _ _ h3 _ h1) (R.var h3 g);exact⟨rn.m _ _ (f j _ E) _ h4,rn.var (f j _ E) I⟩
   .exact⟨(mo id z G).trans h1,by
     obtain⟨d,st,g⟩:=g;exact⟨d,st,(Ho id z G).trans g⟩⟩
  .have h1':=h1;obtain⟨e,ys,g,h3,h4⟩:=h1;have z:id < σ.H.length:=(yu.1 g).1;by_cases G:id∈ids
   .obtain⟨j,y,rfl⟩:=ybg G;have E:=yab y;have I:bc ids ids[j]=ab j:=cZ ho E;exact rn.front (f j _ E) (to.leaf.front _ _ _ _ _ (R.front I h1'))
   .refine⟨e,ys,(Ho id z G).trans g,h3,λhl=> ?_⟩;rcases h4 hl with⟨I,Y⟩|⟨b,Z,I,Y,h7,h8⟩
    .exact .inl ⟨(mo id z G).trans I,Y⟩
    .exact .inr ⟨b,Z,(mo id z G).trans I,Y,(W id b G I).trans h7,h8⟩
  .have z:id < σ.H.length:=by rw[<-ok.len];exact(yu.1 h1).1
   by_cases G:id∈ids
   .obtain⟨j,y,rfl⟩:=ybg G;have E:=yab y;have h3:bc ids ids[j]=ab j:=cZ ho E;obtain⟨h4,I⟩:=to.leaf.map j b (R.m _ _ h3 _ h1) (R.map h3 g);exact⟨rn.m _ _ (f j _ E) _ h4,rn.map (f j _ E) I⟩
   .exact⟨(mo id z G).trans h1,by
     obtain⟨d,st,g⟩:=g;exact⟨d,st,(Ho id z G).trans g⟩⟩
  .have z:id < σ.H.length:=(yu.1 h1).1;by_cases G:id∈ids
   .obtain⟨j,y,rfl⟩:=ybg G;have E:=yab y;have h3:bc ids ids[j]=ab j:=cZ ho E;obtain⟨d1,h4⟩:=R.row h3 h1;obtain⟨v',st',d',I,Y,h7⟩:=to.leaf.row _ _ _ _ _ _ h4;obtain⟨d2,h8⟩:=rn.row (f j _ E) I;refine⟨v',st',d2,h8,Y,λhv=> ?_⟩;obtain⟨h9,h10⟩:=h7 hv;have hmm:∃x,σ.m[ids[j]]? =ab x:=⟨_,yab (by rw[ok.len];exact z)⟩;obtain⟨x,hx⟩:=hmm;have hcx:=R.m _ _ h3 _ hx;refine⟨by rw[hx];exact rn.m _ _ (f j _ E) _ (by rw[h9];exact hcx),λb Z hb hc=> ?_⟩;rw[hx]at hb;cases hb;exact h10 b Z hcx hc
   .exact⟨v,st,d,(Ho id z G).trans h1,ym _,λ_=>⟨mo id z G,λb Z hb hc=>⟨Z,(W id b G hb).trans hc,rfl⟩⟩⟩
 refine⟨⟨leaf,rfl,rfl,to.os,to.tape,to.output,to.size,λb hb hn=>to.block b hb (λj y=> ?_),λid b h=> ?_, ?_⟩,⟨?_, ?_, ?_, ?_,λb h=>ok.new b (Nat.le_trans to.size h), ?_⟩,rn⟩
 .obtain⟨id,_,h3⟩:=Wl (σ:=σ) (Hin:=Hin) y;exact hn id h3
 .rcases back id b h with⟨_,_,h3⟩|⟨j,h1,g,_⟩
  .exact .inl h3
  .rcases J j b g with⟨M,h3,h4⟩|h3
   .have:=f j M h3;rw[h1]at this;cases this;exact .inl h4
   .exact .inr h3
 .show σ.m.length<=(aA σ.m ids τ.m).length;rw[S,ok.len];omega
 .show(aA σ.m ids τ.m).length=(aA σ.H ids Hb).length;rw[S,BY _ _ _ (by omega),hbl]
 .intro i j b G y;rcases back i b G with⟨h1,g,h3⟩|⟨k,h1,g,_⟩ <;> rcases back j b y with⟨h4,I,Y⟩|⟨l,h4,I,_⟩
  .exact ok.inj i j b h3 Y
  .have hbs:=ok.lt i b h3;rcases J l b I with⟨M,h7,h8⟩|h7
   .have:=ok.inj i M b h3 h8;subst this;exact absurd (ybk h7) g
   .omega
  .have hbs:=ok.lt j b Y;rcases J k b g with⟨M,h7,h8⟩|h7
   .have:=ok.inj j M b Y h8;subst this;exact absurd (ybk h7) I
   .omega
  .have:=okτ.inj k l b g I;subst this;rw[h1]at h4;exact ybl h4
 .intro i b G;rcases back i b G with⟨_,_,h3⟩|⟨k,_,g,_⟩
  .exact Nat.lt_of_lt_of_le (ok.lt i b h3) to.size
  .exact okτ.lt k b g
 .intro i e x he hx;have Q:(aA σ.H ids Hb)[i]? =ab e:=he;have T:(aA σ.m ids τ.m)[i]? =ab x:=hx;have z:i < σ.H.length+(τ.H.length - ids.length):=by rw[<-S];exact(yu.1 T).1
  have viaτ:∀j,aV ids σ.H.length j=ab i->τ.m[j]? =ab x->Hb[j]? =ab e->dH (mr σ ids Hb τ) x e:=by
   intro j _ g h3;have y:j < τ.H.length:=by rw[<-hbl];exact(yu.1 h3).1
   obtain⟨e',h4,I⟩:=vf hb (yab y);rw[h3]at h4;cases h4;exact CA rn I (okτ.dF j _ x (yab y) g)
  rcases U i z with⟨h1,g⟩|⟨j,h1⟩|⟨j,h1,rfl⟩
  .rw[Ho i h1 g]at Q;rw[mo i h1 g]at T;exact nB leaf (λb hb'=>W i b g (by rw[T,hb'])) (ok.dF i e x Q T)
  .exact viaτ j (f j i h1) (by rw[<-ma j i h1];exact T) (by rw[<-Ha j i h1];exact Q)
  .exact viaτ j (fromNew j h1) (by rw[<-mn j h1];exact T) (by rw[<-Hn j h1];exact Q)
 .intro i b G;rcases back i b G with⟨_,_,h3⟩|⟨k,_,g,_⟩
  .exact ok.own i b h3
  .rcases J k b g with⟨M,_,h8⟩|h7
   .exact ok.own M b h8
   .exact ok.new b h7
theorem pg{args:yL yp}{f:yL yc}(g:aD σ ts a)(ids:yL Nat)(hl:args.length=f.length):aH σ ((args.zip f).map λq=>(aF P ts q.2 q.1).cr ids) (args.map a.eval):=by
 induction args generalizing f with
 |nil=>simp[aH]
 |cons x args h=>
  cases f with
  |nil=>simp at hl
  |cons t f=>
   simp only[List.zip_cons_cons,yah,aH];exact⟨_,_,rfl,BI ids (Zq g t x),h (by simpa using hl)⟩
theorem TS{cap:yL Dv}{cs:yL yh}(h:aH σ cap cs):aH σ (cap.map Dv.arg) cs:=by
 induction cap generalizing cs with
 |nil=>simpa using h
 |cons d cap g=>
  simp only[aH]at h;obtain⟨v,f,rfl,j,l⟩:=h;simp only[yah,aH];exact⟨v,f,rfl,ZH5 j,g l⟩
theorem qT{cap:yL Dv}{cs:yL yh}(ids:yL Nat)(h:aH σ cap cs):aH σ (cap.map (Dv.cr ids)) cs:=by
 induction cap generalizing cs with
 |nil=>simpa using h
 |cons d cap g=>
  simp only[aH]at h;obtain⟨v,f,rfl,j,l⟩:=h;simp only[yah,aH];exact⟨v,f,rfl,BI ids j,g l⟩
theorem TT{c:Call}{f:yp}{g:yw}{j cs:Array yh}(w:yr)(ho:o.op=.call c)(hc:c.callee=.value f)(l:a.eval f=.func (.func g) j cs)(hb:iL P g=ae):
 (execOp a.eval o).run P w=.ok (.enter g (j++c.args.map a.eval++cs)) w:=by
 unfold iL at hb;split at hb
 .rename_i fn h;simp only[yi,Bool.not_eq_true']at hb;have m:¬fn.name= "runtime.NumGoroutine" :=by simpa using hb.2
  have y:fn.body.isNone=af:=by cases z:fn.body <;> simp[z]at hb ⊢
  simp only[execOp,ho,resolve,hc,l,Deferred.ofValue,Sem.run_bind,Sem.run_pure,Result.andThen_ok,invoke,callFunc,run_program,h];simp[m,y]
 .cases hb
theorem ZEU{fn:Func}(h:fn.name= "internal/bytealg.Compare"):Extern.find fn=ab Extern.BytealgCompare.compare:=by
 have f:Extern.allGenericRows.lookup "internal/bytealg.Compare" =ad:=by kernel_rfl
 have g:Extern.allTypedRows.lookup "internal/bytealg.Compare" =ad:=by kernel_rfl
 have j:Extern.allRows.lookup "internal/bytealg.Compare" =ab Extern.BytealgCompare.compare:=by kernel_rfl
 unfold Extern.find;dsimp only;rw[h,f,g,j];rfl
theorem ZEV{c:Call}{f:yp}{g:yw}{cs:Array yh}{v:yh}(w:yr)(ho:o.op=.call c)(hc:c.callee=.value f)(l:a.eval f=.func (.func g) #[] cs)(hb:nq P g=ae)
 (m:(Extern.BytealgCompare.compare (c.args.map a.eval++cs)).run P w=.ok v w):(execOp a.eval o).run P w=.ok (.value v) w:=by
 unfold nq at hb;rw[yi]at hb
 replace hb:=hb.2
 split at hb
 .rename_i fn j;simp only[yi,yT,Option.isNone_iff_eq_none]at hb;have h:=run_callFunc_extern (P:=P) j (by rw[hb.1.1];rfl) (by rw[hb.1.2];rfl) hb.2 (ZEU hb.1.1) (c.args.map a.eval++cs) w;rw[m]at h;simp only[execOp,ho,resolve,hc,l,Deferred.ofValue,Sem.run_bind,Sem.run_pure,Result.andThen_ok,invoke];rw[Array.empty_append];exact h
 .cases hb
theorem ZAa{g:yw}(w:yr)(args:Array yh)(hb:iL P g=ae):(callFunc g args).run P w=.ok (.enter g args) w:=by
 unfold iL at hb;split at hb
 .rename_i fn f;simp only[yi,Bool.not_eq_true']at hb;have h:¬fn.name= "runtime.NumGoroutine" :=by simpa using hb.2
  have j:fn.body.isNone=af:=by cases l:fn.body <;> simp[l]at hb ⊢
  simp only[callFunc,Sem.run_bind,run_program,Result.andThen_ok,f];simp[h,j]
 .cases hb
theorem CC(ok:Ok σ){g:yw}{E args':yL Dv}{F:Array yh}{ids:yL Nat}{Hin H' Hb:yL aq}{r r':Dv}(I:(execOp a.eval o).run P σ.w=.ok (.enter g F) σ.w)(l:aH σ E F.toList)
 (f:once ids=ae) (m:ids.length<=H'.length) (J:Dv.bC (bc ids) E=ab args')
 (h:aP σ.H ids ids=ab Hin) (M:r.rn (aV ids σ.H.length)=ab r') (hb:aq.bC (aV ids σ.H.length) H'=ab Hb) (j:ce P g args' Hin r H'):YL P o a σ r' (aA σ.H ids Hb):=by
 have G:=j (callee σ ids Hin) _ (ZDc ok f h) rfl (dK (CB ok f h) _ _ _ J l);intro K Q R;unfold Oper.wp;rw[I];simp only[Oper.upon];rw[ycf]at G;refine G.mono ?_;rintro e U ⟨v,τ,rfl,rfl,S,to,y,T⟩;subst S;obtain⟨z,A,rn⟩:=ZDd ok f h to y m hb;exact R v (mr σ ids Hb τ) rfl z A (lh rn M T)
theorem ZIb(y:aD σ ts a){c:Call}{f:yp}{g:yw}{cap:yL Dv}(ids:yL Nat)(E:aF P ts 0 f=.fn g cap)(hsz:c.args.size=c.argTypes.size):
 ∃l cs,a.eval f=.func (.func (fV g)) l cs/\aH σ (YR P ids ts c g cap) (l++c.args.map a.eval++cs).toList:=by
 have j:=Zq (P:=P) y 0 f;rw[E]at j;obtain⟨l,cs,z,m,h⟩:=uS j;refine⟨l,cs,z, ?_⟩;unfold YR;by_cases A:g < big
 .rw[yW A]at m ⊢;subst m;rw[Array.empty_append]at h ⊢;rw[Array.toList_append,Array.toList_map];exact QX (pg y ids (by simpa using hsz)) (qT ids h)
 .rw[yX A]at m ⊢;subst m;rw[Array.append_empty]at h ⊢;rw[Array.toList_append,Array.toList_map];exact QX (qT ids h) (pg y ids (by simpa using hsz))
theorem vg(ok:Ok σ)(A:aD σ ts a){c:Call}{f:yp}{g:yw}{cap args':yL Dv}{ids:yL Nat}{Hin H' Hb:yL aq}{r r':Dv}(ho:o.op=.call c)(M:c.callee=.value f)
 (Q:aF P ts 0 f=.fn g cap) (l:iL P (fV g)=ae) (hsz:c.args.size=c.argTypes.size) (j:once ids=ae) (E:ids.length<=H'.length) (R:Dv.bC (bc ids) (YR P ids ts c g cap)=ab args')
 (F:aP σ.H ids ids=ab Hin) (S:r.rn (aV ids σ.H.length)=ab r') (hb:aq.bC (aV ids σ.H.length) H'=ab Hb) (m:ce P (fV g) args' Hin r H'):YL P o a σ r' (aA σ.H ids Hb):=by
 have y:=Zq (P:=P) A 0 f;rw[Q]at y;obtain⟨T,U,G,z,h⟩:=uS y
 have I:aH σ (YR P ids ts c g cap) (T++c.args.map a.eval++U).toList:=by
  unfold YR;by_cases J:g < big
  .rw[yW J]at z ⊢;subst z;rw[Array.empty_append]at h ⊢;rw[Array.toList_append,Array.toList_map];exact QX (pg A ids (by simpa using hsz)) (qT ids h)
  .rw[yX J]at z ⊢;subst z;rw[Array.append_empty]at h ⊢;rw[Array.toList_append,Array.toList_map];exact QX (qT ids h) (pg A ids (by simpa using hsz))
 exact CC ok (TT σ.w ho M G l) I j E R F S hb m
theorem ZvJ(ok:Ok σ)(I:aD σ ts a){c:Call}{f:yp}{h:String}{t:yc}{x:Dv}{g:yw}{args':yL Dv}{ids:yL Nat}{Hin H' Hb:yL aq}{r r':Dv}(ho:o.op=.call c)(J:c.callee=.invoke f h)
 (M:aF P ts 0 f=.iface t x) (m:iL P g=ae) (hsz:c.args.size=c.argTypes.size) (j:once ids=ae) (z:ids.length<=H'.length) (Q:Dv.bC (bc ids) (x.cr ids::YR P ids ts c 0 [])=ab args')
 (A:aP σ.H ids ids=ab Hin) (R:r.rn (aV ids σ.H.length)=ab r') (hb:aq.bC (aV ids σ.H.length) H'=ab Hb) (hm:oQ P t h g) (y:ce P g args' Hin r H'):YL P o a σ r' (aA σ.H ids Hb):=by
 have l:=Zq (P:=P) I 0 f;rw[M,Zh rfl]at l;simp only[yH]at l;obtain⟨v,E,S,T⟩:=l;have E:a.eval f=.iface t v:=by simpa using E
 have F:yJ σ x v:=⟨S,T⟩
 have G:aH σ (x.cr ids::YR P ids ts c 0 []) (#[v]++c.args.map a.eval).toList:=by
  rw[Array.toList_append,Array.toList_map];show aH σ _ (v::c.args.toList.map a.eval);rw[aH];refine⟨v,_,rfl,BI ids F, ?_⟩;unfold YR;rw[yW (by decide),List.map_nil,List.append_nil];exact pg I ids (by simpa using hsz)
 have U:(execOp a.eval o).run P σ.w=.ok (.enter g (#[v]++c.args.map a.eval)) σ.w:=by
  have e:=hm v (c.args.map a.eval) σ.w;rw[ZAa σ.w _ m]at e;rw[<-e];have W:(#[Value.iface t v]++c.args.map a.eval)[0]? =ab (.iface t v):=by simp[Array.getElem?_append]
  have X:(#[Value.iface t v]++c.args.map a.eval).extract 1 (#[Value.iface t v]++c.args.map a.eval).size=c.args.map a.eval:=by
   apply Array.ext';simp;rw[ycc (by simp)]
  simp only[execOp,ho,resolve,J,E,Sem.run_bind,Sem.run_pure,Result.andThen_ok,invoke,W,X]
 exact CC ok U G j z Q A R hb y
end
end Go.Ev
end
section
namespace Go.Ev
theorem CD{w:yr}{S:Nat->Nat->Prop}{n s:Nat}{xs:yL Pl}{us:yL yh}(h:aB w S (.arr n s xs) us):xs.length=n/\aW s xs/\ar w S xs us:=by
 simpa[aB] using h
theorem TU{P:yg}{σ:Sg}{d n:Nat}{e:yc}{s:Nat}(hs:P.cellsOf e=s)(E:s≠0)(hi:(P.info? e).isSome=ae)(hu:(P.underlying e).isSome=ae)
 (I:∀(x y:Pl)(a b:yh),bv P n e x->bv P n e y->yJ σ (.p x) a->yJ σ (.p y) b->∃r:Bool,(Op.equalIn d e a b).run P σ.w=.ok r σ.w/\(r=ae↔x=y))
 {cs j:Array yh} {m:Nat}:∀(xs ys:yL Pl)(i:Nat)(p l us vs:yL yh),(∀y,y∈xs->bv P n e y/\y.size=s/\XB P e=y.isAgg)->(∀y,y∈ys->bv P n e y/\y.size=s/\XB P e=y.isAgg)->
  cs.toList=p++us->j.toList=l++vs->p.length=i*s->l.length=i*s->ar σ.w σ.bf xs us->ar σ.w σ.bf ys vs->xs.length=m->ys.length=m->
  ∃r:Bool,(Op.eqItems d e s cs j (List.range' i m)).run P σ.w=.ok r σ.w/\(r=ae↔xs=ys)
 |[],ys,i,p,l,us,vs,_,_,_,_,_,_,_,_,h,A=>by
  subst h;have:ys=[]:=ybj A;subst this
  exact⟨ae,by simp[Op.eqItems],by simp⟩
 |x::xs,[],_,_,_,_,_,_,_,_,_,_,_,_,_,h,A=>by simp at h A;omega
 |x::xs,y::ys,i,p,l,us,vs,J,M,Q,R,S,T,U,W,h,A=>by
  obtain⟨X,rfl⟩:∃X,m=X+1:=⟨xs.length,by simpa using h.symm⟩;simp only[ar]at U W;obtain⟨u1,u2,rfl,Y,q2⟩:=U;obtain⟨v1,v2,rfl,Z,q4⟩:=W;obtain⟨f1,f2,f3⟩:=J x (yau ..);obtain⟨g1,g2,g3⟩:=M y (yau ..);obtain⟨a,ha,ra⟩:=kC (P:=P) (σ:=σ) (t:=e) (d:=.p x) Q (by simpa[yH] using Y) (by rw[hs];exact f2.symm) hi hu f3 (by show x.size≠0;omega);obtain⟨b,hb,rb⟩:=kC (P:=P) (σ:=σ) (t:=e) (d:=.p y) R (by simpa[yH] using Z) (by rw[hs];exact g2.symm) hi hu g3 (by show y.size≠0;omega);rw[S]at ha;rw[T]at hb;obtain⟨r,hr,f⟩:=I x y a b f1 g1 ra rb;have s1:=Wm _ _ Y;have s2:=Wm _ _ Z
  obtain⟨r',F,g⟩:=TU hs E hi hu I xs ys (i+1) (p++u1) (l++v1) u2 v2 (λz G=>J z (yav _ G)) (λz G=>M z (yav _ G))
   (by rw[Q,yac]) (by rw[R,yac]) (by rw[yl,S,s1,f2,yba,Nat.one_mul]) (by rw[yl,T,s2,g2,yba,Nat.one_mul]) q2 q4 (by simpa using h) (by simpa using A)
  rw[List.range'_succ];simp only[Op.eqItems,Sem.run_bind,ha,hb,hr,Result.andThen_ok];cases r
  .exact⟨af,by simp,by simp;intro e;exact absurd (f.2 e) (by simp)⟩
  .refine⟨r',by simpa using F, ?_⟩;rw[g];simp[f.1 rfl]
theorem TW{P:yg}{σ:Sg}{d:Nat}{R:yc->Pl->Prop}
 (F:∀(t:yc)(x y:Pl)(a b:yh),R t x->R t y->yJ σ (.p x) a->yJ σ (.p y) b->∃r:Bool,(Op.equalIn d t a b).run P σ.w=.ok r σ.w/\(r=ae↔x=y))
 {cs l:Array yh}:∀(m:yL Field)(xs ys:yL Pl)(o:Nat)(p A us vs:yL yh),iJ P R m o xs->iJ P R m o ys->
  cs.toList=p++us->l.toList=A++vs->p.length=o->A.length=o->ar σ.w σ.bf xs us->ar σ.w σ.bf ys vs->
  ∃r:Bool,(Op.eqFields d cs l m).run P σ.w=.ok r σ.w/\(r=ae↔xs=ys)
 |[],[],[],_,_,_,_,_,_,_,_,_,_,_,_,_=>⟨ae,by simp[Op.eqFields],by simp⟩
 |[],_::_,_,_,_,_,_,_,h,_,_,_,_,_,_,_=>by simp[iJ]at h
 |[],[],_::_,_,_,_,_,_,_,h,_,_,_,_,_,_=>by simp[iJ]at h
 |_::_,[],_,_,_,_,_,_,h,_,_,_,_,_,_,_=>by simp[iJ]at h
 |_::_,_::_,[],_,_,_,_,_,_,h,_,_,_,_,_,_=>by simp[iJ]at h
 |f::m,x::xs,y::ys,o,p,A,us,vs,G,I,J,M,Q,S,T,U=>by
  simp only[iJ]at G I;obtain⟨a1,W,X,Y,Z,a6,a7,a8,a9⟩:=G;obtain⟨_,_,b3,_,_,b6,b7,b8,b9⟩:=I;simp only[ar]at T U;obtain⟨u1,u2,rfl,q1,q2⟩:=T;obtain⟨v1,v2,rfl,q3,q4⟩:=U;obtain⟨a,ha,ra⟩:=kC (P:=P) (σ:=σ) (t:=f.type) (d:=.p x) J (by simpa[yH] using q1) X Y Z a6 a7;obtain⟨b,hb,rb⟩:=kC (P:=P) (σ:=σ) (t:=f.type) (d:=.p y) M (by simpa[yH] using q3) b3 Y Z b6 b7;rw[Q, <-W]at ha;rw[S, <-W]at hb;obtain⟨r,hr,g⟩:=F f.type x y a b a8 b8 ra rb;have s1:=Wm _ _ q1;have s2:=Wm _ _ q3;have z:x.size=y.size:=X.symm.trans b3
  obtain⟨r',E,j⟩:=TW F m xs ys (o+x.size) (p++u1) (A++v1) u2 v2 a9 (by rw[z];exact b9)
   (by rw[J,yac]) (by rw[M,yac]) (by rw[yl,Q,s1]) (by rw[yl,S,s2,z]) q2 q4
  simp only[Op.eqFields,a1,ne_eq,not_false_eq_true,if_true,Sem.run_bind,ha,hb,hr,Result.andThen_ok];cases r
  .exact⟨af,by simp,by simp;intro e;exact absurd (g.2 e) (by simp)⟩
  .refine⟨r',by simpa using E, ?_⟩;rw[j];simp[g.1 rfl]
theorem CE{P:yg}{σ:Sg}:∀(n:Nat)(t:yc)(x y:Pl)(a b:yh),bv P n t x->bv P n t y->yJ σ (.p x) a->yJ σ (.p y) b->
 ∀d,∃r:Bool,(Op.equalIn (d+n) t a b).run P σ.w=.ok r σ.w/\(r=ae↔x=y)
 |0,_,_,_,_,_,h,_,_,_,_=>by simp[bv]at h
 |n+1,t,x,y,a,b,F,f,g,j,d=>by
  unfold bv at F f;split at F
  .rename_i l;rw[l]at f;split at f <;> rename_i G <;> simp only[reduceCtorEq,yn]at G
   all_goals first
    |(rw[Yn g,Yn j]
      exact⟨_,run_equalIn_bool' σ.w (d+n) t _ _ l,by simp⟩)
    |exact f.elim
  .rename_i k k' z l;rw[l]at f;split at f <;> rename_i G <;> simp only[reduceCtorEq,yn,TypeDesc.int.injEq]at G
   all_goals first
    |(subst F;subst f;subst G
      rw[ZD g,ZD j]
      exact⟨_,run_equalIn_int σ.w (d+n) t _ _ _ _ l,by simp⟩)
    |exact f.elim
  .rename_i m e m' s Q l;rw[l]at f;split at f <;> rename_i G <;> simp only[reduceCtorEq,yn,TypeDesc.array.injEq]at G
   .rename_i Y S;obtain⟨rfl,rfl⟩:=G;obtain⟨rfl,I,T,W,Z,h5⟩:=F;obtain⟨rfl,g1,_,_,_,g5⟩:=f;obtain rfl:s=Y:=I.symm.trans g1;rw[ZY (by rfl)]at g j;obtain⟨J,rfl,g⟩:=g;obtain⟨A,rfl,j⟩:=j;simp only[yH]at g j;obtain⟨n1,_,g⟩:=CD g;obtain⟨n2,_,j⟩:=CD j;obtain⟨i,hi⟩:=Option.isSome_iff_exists.1 W;obtain⟨r,U,E⟩:=TU (P:=P) (σ:=σ) (d:=d+n) (n:=n) (e:=e) (s:=s) I T W Z (λx y a b F f g j=>CE n e x y a b F f g j d) Q S 0 [] [] J.toList A.toList h5 g5 rfl rfl (by simp) (by simp) g j n1 n2;refine⟨r, ?_,by rw[E];simp⟩;rw[show d+(n+1)=(d+n)+1 from rfl,run_equalIn_array σ.w (d+n) J A l hi,List.range_eq_range',I]
    exact U
   all_goals first
    |exact f.elim
  .rename_i X Q l;rw[l]at f;split at f <;> rename_i G <;> simp only[reduceCtorEq,yn,TypeDesc.struct.injEq]at G
   all_goals first
    |exact f.elim
    |skip
   rename_i S;subst G;obtain⟨I,T⟩:=F;obtain⟨_,g2⟩:=f;rw[ZY (by rfl)]at g j;obtain⟨J,rfl,g⟩:=g;obtain⟨A,rfl,j⟩:=j;simp only[yH,aB]at g j;have M:P.fieldsOf t=X:=by simp[Program.fieldsOf,l]
   obtain⟨r,U,E⟩:=TW (P:=P) (σ:=σ) (d:=d+n) (R:=bv P n) (λt x y a b F f g j=>CE n t x y a b F f g j d) X.toList Q S 0 [] [] J.toList A.toList T g2 rfl rfl rfl rfl g j;refine⟨r, ?_,by rw[E];simp⟩;rw[show d+(n+1)=(d+n)+1 from rfl,run_equalIn_struct σ.w (d+n) t J A (by rw[M];exact l) I,M]
   exact U
  .exact F.elim
theorem CF{P:yg}{σ:Sg}{t:yc}{x y:Pl}{a b:yh}(g:bv P 20 t x)(j:bv P 20 t y)(l:yJ σ (.p x) a)(m:yJ σ (.p y) b){β:Bool}(h:β=ae↔x=y):
 (Op.equal t a b).run P σ.w=.ok β σ.w:=by
 obtain⟨r,z,f⟩:=CE 20 t x y a b g j l m 9980;have:r=β:=by rw[Bool.eq_iff_iff,f,h]
 subst this;exact z
def nL:yh->Bool
 |.bool _|.pointer _|.slice _ _ _|.func _ _ _|.nilFunc=>ae
 |_=>af
theorem TX{op:BinOp}{t:yc}{x y:yp}{a b:yh}(h:nL a=ae):eqGuard op t x y a b=pure ():=by
 cases op <;> cases a <;> first|rfl|(simp[nL]at h)
theorem ZvK{t:yc}{a b:yh}(h:nL a=ae):binOp .eql t a b=(do pure (.bool (<-Op.equal t a b))):=by
 cases a <;> first|(simp[nL]at h;done)|(cases b <;> rfl)
theorem ZvL{t:yc}{a b:yh}(h:nL a=ae):binOp .neq t a b=(do pure (.bool (!(<-Op.equal t a b)))):=by
 cases a <;> first|(simp[nL]at h;done)|(cases b <;> rfl)
theorem VJ{P:yg}{t:yc}{a b:yh}{r:Bool}{w:yr}(h:∀n,(Op.equalIn (n+1) t a b).run P w=.ok r w):(Op.equal t a b).run P w=.ok r w:=h 9999
theorem TY{P:yg}{t:yc}{x y:Dv}{hs hs':yL ao}{C:yL Prop}{r:Bool}(h:jd P t x y hs=ab (C,r,hs'))(hc:aX C){σ:Sg}{a b:yh}
 (ha:yJ σ x a) (hb:yJ σ y b):(Op.equal t a b).run P σ.w=.ok r σ.w/\(nL a=ae\/((∃cs,a=.agg cs)/\(∃cs,b=.agg cs)/\P.eqGuardType P.depth t=af)):=by
 unfold jd at h;have step:∀(d:TypeDesc),P.underlying t=ab d->(underlying t).run P σ.w=.ok d σ.w:=λd I=>run_underlying I σ.w;split at h
 all_goals first
  |(cases h;done)
  |skip
 rotate_right 2
 iterate 2
  .split at h
   .split at h
    .rename_i J;cases h;obtain⟨M,Q,R,_⟩:=hc;refine⟨CF M Q ha hb R,.inr ⟨?_, ?_,J⟩⟩
     .obtain⟨cs,e,_⟩:=(ZY (by rfl)).1 ha;exact⟨cs,e⟩
     .obtain⟨cs,e,_⟩:=(ZY (by rfl)).1 hb;exact⟨cs,e⟩
    .cases h
   .cases h
 case' h_9=>
  rename_i g;split at h
  .cases h;obtain⟨_,A,c,rfl,_,_,_,_,z⟩:=X2 ha;obtain⟨_,B,m,rfl,_,_,j,_⟩:=X2 hb;have f:B=ad:=by simpa using j af rfl
   subst f;obtain⟨S,T,F,rfl,_⟩:=z hc.1;exact⟨VJ λn=>by simp[Op.equalIn,step _ g],.inl rfl⟩
  .cases h
 case' h_10=>
  rename_i g;split at h
  .cases h;obtain⟨_,A,c,rfl,_,_,_,_,z,_⟩:=QV ha;obtain⟨_,B,m,rfl,_,_,j,_⟩:=X2 hb;have f:B=ad:=by simpa using j af rfl
   subst f;obtain⟨S,T,F,rfl,_⟩:=z hc.1;exact⟨VJ λn=>by simp[Op.equalIn,step _ g],.inl rfl⟩
  .cases h
 all_goals
  rename_i g;cases h;refine(λq:_/\_=>⟨q.1,.inl q.2⟩) ?_
 .rw[Yn ha,Yn hb];exact⟨VJ λn=>by simp[Op.equalIn,step _ g],rfl⟩
 .rw[qF hb];rw[Zh (by rfl)]at ha;simp only[yH,List.cons.injEq,and_true]at ha;obtain⟨G,_,_,rfl⟩:=ha;exact⟨VJ λn=>by simp[Op.equalIn,step _ g],rfl⟩
 .rw[qF hb];rw[Zh (by rfl)]at ha;simp only[yH,List.cons.injEq,and_true]at ha;obtain⟨G,U,F,rfl,_⟩:=ha;exact⟨VJ λn=>by simp[Op.equalIn,step _ g],rfl⟩
 .rw[qF hb];rw[Zh (by rfl)]at ha;simp only[yH,List.cons.injEq,and_true]at ha;obtain⟨G,U,rfl,_⟩:=ha;exact⟨VJ λn=>by simp[Op.equalIn,step _ g],rfl⟩
 .rw[qF ha,qF hb];exact⟨VJ λn=>by simp[Op.equalIn,step _ g],rfl⟩
 .obtain⟨_,A,c,rfl,_,_,E,_⟩:=X2 ha;obtain⟨_,B,m,rfl,_,_,j,_⟩:=X2 hb;have f:B=ad:=by simpa using j af rfl
  subst f;have l:=E _ rfl;subst l;refine⟨?_,rfl⟩;cases A <;> (refine VJ λn=> ?_;simp[Op.equalIn,step _ g])
 .obtain⟨_,A,c,rfl,_,_,E,_⟩:=QV ha;obtain⟨_,B,m,rfl,_,_,j,_⟩:=X2 hb;have f:B=ad:=by simpa using j af rfl
  subst f;have l:=E _ rfl;subst l;refine⟨?_,rfl⟩;cases A <;> (refine VJ λn=> ?_;simp[Op.equalIn,step _ g])
 .rw[Zh (by rfl)]at ha;simp only[yH,List.cons.injEq,and_true]at ha;obtain⟨W,X,Y,_,_,rfl,_⟩:=ha;obtain⟨_,B,m,rfl,_,_,j,_⟩:=X2 hb;have f:B=ad:=by simpa using j af rfl
  subst f;exact⟨VJ λn=>by simp[Op.equalIn,step _ g],rfl⟩
 .rw[BE hb];rw[Zh (by rfl)]at ha;simp only[yH,List.cons.injEq,and_true]at ha;obtain⟨Z,cs,rfl,_⟩:=ha;exact⟨VJ λn=>by simp[Op.equalIn,step _ g],rfl⟩
 .rw[BE ha,BE hb];exact⟨VJ λn=>by simp[Op.equalIn,step _ g],rfl⟩
theorem ZxL{P:yg}{op:BinOp}{t:yc}{x y:Dv}{hs hs':yL ao}{C:yL Prop}{d:Dv}(h:gP P op t x y hs=ab (C,d,hs'))(hc:aX C){σ:Sg}{a b:yh}
 (ha:yJ σ x a) (hb:yJ σ y b) (A E:yp):
 ∃v,(eqGuard op t A E a b).run P σ.w=.ok () σ.w/\(binOp op t a b).run P σ.w=.ok v σ.w/\yJ σ d v:=by
 unfold gP at h;split at h
 .have F:=ZD ha;have G:=ZD hb;subst F;subst G;split at h
  .rename_i I;obtain⟨v,l,j⟩:=Zts (P:=P) (yk:= ‹IntKind›) h hc σ;refine⟨v,by rw[eqGuard_at_int];rfl, ?_,j⟩;cases op <;> first|(simp[BC]at I;done)|exact l
  .split at h
   .rename_i J;subst J;obtain⟨v,l,j⟩:=ZxC (P:=P) h hc σ t;exact⟨v,by rw[eqGuard_at_int];rfl,l,j⟩
   .cases h
 .rw[oV ha,oV hb];split at h
  .cases h;exact⟨_,rfl,by rw[<-ByteArray.toList_eq, <-ByteArray.toList_eq];rfl,Yk _⟩
  .cases h;exact⟨_,rfl,by rw[<-ByteArray.toList_eq, <-ByteArray.toList_eq];rfl,Yk _⟩
  .cases h
 .split at h
  .simp only[yv,yq]at h;obtain⟨⟨C',r,z⟩,l,rfl,rfl,rfl⟩:=h;obtain⟨j,f⟩:=TY l hc ha hb;refine⟨.bool r, ?_, ?_,Yk _⟩
   .rcases f with f|⟨⟨m,rfl⟩,⟨g,rfl⟩,f⟩
    .rw[TX f];rfl
    .exact run_eqGuard_agg _ _ _ _ _ _ _ f
   .rcases f with f|⟨⟨m,rfl⟩,⟨g,rfl⟩,f⟩
    .rw[ZvK f];simp[j]
    .rw[show binOp .eql t (.agg m) (.agg g)=(do pure (.bool (<-Op.equal t (.agg m) (.agg g)))) from rfl];simp[j]
  .simp only[yv,yq]at h;obtain⟨⟨C',r,z⟩,l,rfl,rfl,rfl⟩:=h;obtain⟨j,f⟩:=TY l hc ha hb;refine⟨.bool (!r), ?_, ?_,Yk _⟩
   .rcases f with f|⟨⟨m,rfl⟩,⟨g,rfl⟩,f⟩
    .rw[TX f];rfl
    .exact run_eqGuard_agg _ _ _ _ _ _ _ f
   .rcases f with f|⟨⟨m,rfl⟩,⟨g,rfl⟩,f⟩
    .rw[ZvL f];simp[j]
    .rw[show binOp .neq t (.agg m) (.agg g)=(do pure (.bool (!(<-Op.equal t (.agg m) (.agg g))))) from rfl];simp[j]
  .cases h
end Go.Ev
end
section
namespace Go.Ev
section
variable{P:yg}{o:yj}{a:Act}{σ:Sg}{ts:yL Dv}{hs hs':yL ao}{C:yL Prop}{d:Dv}
theorem TZ(H:yL aq):aA H [] []=H:=by simp[aA]
theorem qU:(bc []:Nat->yO Nat)=λ_=>ad:=by
 funext i;simp[bc]
mutual
theorem qV{f:Nat->yO Nat}:∀(x y:Dv),x.rn (λ_=>ad)=ab y->x.rn f=ab x
 |.p x,_,_=>rfl
 |.elem x,_,_=>rfl
 |.aj _ _ _,_,h=>by simp[Dv.rn]at h
 |.own _ _ _ _,_,h=>by simp[Dv.rn]at h
 |.view _ _ _ _ _ _,_,h=>by simp[Dv.rn]at h
 |.agg j,_,h=>by
  simp only[Dv.rn,yv]at h ⊢;obtain⟨m,l,_⟩:=h
  exact⟨j,bQ j m l,rfl⟩
 |.arr n s j,_,h=>by
  simp only[Dv.rn,yv]at h ⊢;obtain⟨m,l,_⟩:=h
  exact⟨j,bQ j m l,rfl⟩
 |.fn g j,_,h=>by
  simp only[Dv.rn,yv]at h ⊢;obtain⟨m,l,_⟩:=h
  exact⟨j,bQ j m l,rfl⟩
 |.iface t x,_,h=>by
  simp only[Dv.rn,yv]at h ⊢;obtain⟨y,l,_⟩:=h
  exact⟨x,qV x y l,rfl⟩
 |.bp j,_,h=>by
  simp only[Dv.rn,yv]at h ⊢;obtain⟨m,l,_⟩:=h
  exact⟨j,bQ j m l,rfl⟩
 |.mp _,_,h=>by simp[Dv.rn]at h
 |.rv _ _ _ _ _,_,h=>by simp[Dv.rn]at h
 |.aZ _ _ _ _,_,h=>by simp[Dv.rn]at h
 |.an,_,_=>rfl
theorem bQ{f:Nat->yO Nat}:∀(x y:yL Dv),Dv.bC (λ_=>ad) x=ab y->Dv.bC f x=ab x
 |[],_,_=>rfl
 |x::g,_,h=>by
  simp only[Dv.bC]at h;split at h
  .rename_i y j l m;simp[Dv.bC,qV x y l,bQ g j m]
  .cases h
end
theorem UA{src dst e:yc}{xs:yL Pl}{b:ByteArray}{nn:yO Bool}{v:yh}(hs:P.underlying src=ab (.slice e))(he:P.underlying e=ab (.int .u8))(hd:P.underlying dst=ab .string)
 (hv:yJ σ (.p (.sl nn 1 xs)) v) (g:xs=b.data.toList.map λx=>.int .u8 (x.toNat:Int)):(convert src dst v).run P σ.w=.ok (.string b) σ.w:=by
 obtain⟨z,A,c,rfl,S,T,U,W,E⟩:=X2 hv;by_cases f:xs=[]
 .have F:b=⟨#[]⟩:=by
   rw[f]at g;have:b.data.toList=[]:=List.map_eq_nil_iff.1 g.symm;apply ByteArray.ext;grind
  subst F;subst f
  cases A with
  |none=>exact Go.Lib.run_convert_nil_bytes σ.w src dst e c hs he hd
  |some A=>
   have G:=run_convert_bytes_string (P:=P) σ.w src dst e (ab A) 0 c hs he hd;rw[ycn,G];simp[Conv.bytesToString,loadCells,loadCellsFrom];rfl
 .obtain⟨I,J,X,rfl,M,Q⟩:=E f;have l:xs.length=b.size:=by rw[g];simp
  rw[l];refine Go.Lib.run_convert_whole (P:=P) σ.w src e dst hs he hd I J b (λi m=> ?_) c;have R:i < xs.length:=by rw[l];exact m
  have h:xs[i]? =ab (.int .u8 (b[i].toNat:Int)):=by
   rw[g,yao]
   have:b.data.toList[i]? =ab b[i]:=by
    rw[yby];exact Array.getElem?_eq_getElem (by simpa using m)
   rw[this];rfl
  obtain⟨Y,y,j⟩:=uL z M Q h;simp only[aB]at y;subst y;have:=(j 0 _ rfl).1;grind
theorem UB{t e:yc}{x:yp}{n s:Nat}{xs:yL Pl}{nn:yO Bool}(ok:Ok σ)(ho:o.op=.sliceToArrayPointer t x)(hu:P.underlying t=ab (.array n e))(hv:yJ σ (.p (.sl nn s xs)) (a.eval x))(hn:n≠0)(l:n<=xs.length):
 YL P o a σ (.elem (.arr n s (xs.take n))) σ.H:=by
 obtain⟨m,A,c,hv,J,M,Q,R,y⟩:=X2 hv
 have h:xs≠[]:=by
  grind
 obtain⟨f,g,S,rfl,j,z⟩:=y h;have E:xs=xs.take n++xs.drop n:=(ybb n xs).symm;rw[E]at j;obtain⟨F,T,rfl,G,I⟩:=Z8 j;refine Zk (v:=.pointer (ab ⟨f,g,ad⟩)) ok ?_ ?_
 .have:(Instr.arrayAt t (.slice (ab ⟨f,g,ad⟩) xs.length c)).run P σ.w=.ok (.pointer (ab ⟨f,g,ad⟩)) σ.w:=by
   simp[Instr.arrayAt,run_underlying hu,show¬xs.length < n by omega]
  simp[execOp,ho,hv,this]
 .rw[Zh rfl];simp only[yH];refine⟨f,g,F,rfl, ?_,(Ww.append z).1⟩;simp only[aB];exact⟨by rw[yaa];omega,Vq m n,G⟩
theorem UC{xs:yL Pl}{b:ByteArray}{nn:yO Bool}{v:yh}(hv:yJ σ (.p (.sl nn 1 xs)) v)(g:xs=hJ b):(Extern.Bytes.bytesOf v).run P σ.w=.ok b σ.w:=by
 obtain⟨J,A,c,rfl,W,X,Y,Z,M⟩:=X2 hv;have zW:xs.length=b.size:=by rw[g,hJ,yad,yax];rfl
 have h:xs=[]->b=.empty:=λQ=>by
  apply ByteArray.ext;apply Array.toList_inj.1;rw[Q]at g;exact List.map_eq_nil_iff.1 g.symm
 cases A with
 |none=>
  have l:xs=[]:=by
   all_goals grind
  rw[h l]
  simp[Extern.Bytes.bytesOf]
 |some A=>
  by_cases f:xs=[]
  .rw[h f,f];simp[Extern.Bytes.bytesOf,Extern.Bytes.loadBytes]
  .obtain⟨m,y,us,e,R,S⟩:=M f;cases e
   have G:=Go.Lib.run_loadBytesX (P:=P) σ.w (b.data.toList.map λx=>(x.toNat:Int)) ⟨m,y,ad⟩ .empty (λj x hj=>by
    have e:(⟨m,y,ad⟩:Addr).add j=⟨m,y+j,ad⟩:=by unfold Addr.add;split <;> simp_all
    rw[e]
    have E:xs[j]? =ab (.int .u8 x):=by
     rw[g,hJ,yao];grind
    obtain⟨uy,I,F⟩:=uL J R S E;simp only[aB]at I;subst I;have:=(F 0 _ rfl).1;simpa using this)
   have T:(b.data.toList.map λx=>(x.toNat:Int)).length=xs.length:=by rw[g,hJ,yad,yad]
   rw[T]at G;simp only[Extern.Bytes.bytesOf];rw[G];congr 1;apply ByteArray.ext
   have U:Go.Lib.bytesOf (b.data.toList.map λx=>(x.toNat:Int))=b.data.toList:=by
    unfold Go.Lib.bytesOf;rw[List.map_map]
    conv=>rhs;rw[<-List.map_id b.data.toList]
    exact List.map_congr_left λz _=>by simp
   rw[U];show(#[]:Array yB)++b.data.toList.toArray=b.data;simp
theorem ZDe(ok:Ok σ)(z:aD σ ts a){c:Call}{f:yp}{g:yw}{F G:yO Bool}{xs ys:yL Pl}{x y:ByteArray}(ho:o.op=.call c)(I:c.callee=.value f)(J:aF P ts 0 f=.fn g [])(hb:nq P g=ae)
 (hsz:c.args.size=c.argTypes.size) (M:YR P [] ts c g []=[.p (.sl F 1 xs),.p (.sl G 1 ys)]) (Q:xs=hJ x) (R:ys=hJ y):YL P o a σ (.p (.int .i64 (Go.Lib.compareBytes x.data.toList y.data.toList))) σ.H:=by
 have j:=Zq (P:=P) z 0 f;rw[J]at j
 have A:g < big:=by
  unfold nq at hb;grind
 obtain⟨E,l,m⟩:=SP A j
 have h:aH σ (YR P [] ts c g []) (c.args.map a.eval++E).toList:=by
  unfold YR;rw[yW A,Array.toList_append,Array.toList_map];exact QX (pg z [] (by simpa using hsz)) (qT [] m)
 rw[M]at h;simp only[aH]at h;obtain⟨u,r1,S,T,v,r2,U,W,X⟩:=h;subst U;subst X;have e4:c.args.map a.eval++E= #[u,v]:=Array.toList_inj.1 S;refine Zk ok (ZEV σ.w ho I l hb ?_) (Zx _ _);rw[e4];have Y:=UC (P:=P) T Q;have Z:=UC (P:=P) W R;change Sem.run P (do pure (goInt (Extern.BytealgCompare.cmp (<-Extern.Bytes.bytesOf u) (<-Extern.Bytes.bytesOf v)))) σ.w=_
 simp only[Sem.run_bind,Y,Z,Sem.run_pure,Result.andThen];rw[Go.Lib.cmp_eq];rfl
theorem ZAb(ok:Ok σ){src dst e:yc}{x:yp}{b:ByteArray}(ho:o.op=.convert src dst x)(hs:P.underlying src=ab .string)(hd:P.underlying dst=ab (.slice e))(he:P.underlying e=ab (.int .u8))
 (hv:a.eval x=.string b) (hb:b.size<=maxLen):YL P o a σ (.p (.sl (ab ae) 1 (b.data.toList.map λx=>.int .u8 (x.toNat:Int)))) σ.H:=by
 have E:σ.w.grownBy (Go.Lib.bytesWorld σ.w e b) ad:=⟨rfl,rfl,rfl,by rw[Go.Lib.bytesWorld_size];omega,λk F _=>Go.Lib.bytesWorld_at_old σ.w e b k F⟩;obtain⟨to,f⟩:=nC ok E;have g:=Go.Lib.run_convert_string_bytes (P:=P) σ.w src dst e b hs hd he
 refine ZM (σ':={ σ with w:=Go.Lib.bytesWorld σ.w e b}) (v:=.slice (ab ⟨σ.w.heap.size,0,ad⟩) b.size (grownCap σ.w b.size 0 e)) (by
  have G:execOp a.eval o=(do pure (.value (<-convert src dst (.string b)))):=by simp only[execOp,ho,hv]
  rw[G];generalize Go.Lib.bytesWorld σ.w e b=w1 at g;generalize grownCap σ.w b.size 0 e=R at g;simp[g]) to f ?_
 have m:(b.data.toList.map λx=>Pl.int .u8 (x.toNat:Int)).length=b.size:=by rw[yad,yax];rfl
 have I:aW 1 (b.data.toList.map λx=>Pl.int .u8 (x.toNat:Int)):=λy J=>by
  obtain⟨z,_,rfl⟩:=ybw.1 J;rfl
 rw[<-m];refine Yy I (by rw[m];exact grownCap_ge ..) (by rw[m];exact grownCap_le_maxLen _ _ _ _ hb) (QT rfl) (λh=>(by cases h)) (λ_=>⟨σ.w.heap.size,0,b.data.toList.map λx=>.int .u8 (x.toNat:Int),rfl, ?_,λj u A=>⟨?_, ?_⟩⟩)
 .generalize b.data.toList=l
  induction l with
  |nil=>simp[ar]
  |cons z l M=>exact⟨[_],_,rfl,by simp[aB],M⟩
 .rw[yao]at A;obtain⟨z,S,rfl⟩:=yv.1 A
  have Q:j < b.size:=by
   grind
  rw[yar];have:=Go.Lib.bytesWorld_cell σ.w e b j Q;grind
 .exact SJ f (ok.new _ (ym _)) (BW ok)
theorem ZDf(ok:Ok σ)(G:aD σ ts a)(h:bj P o ts hs=ab (C,d,hs'))(hc:aX C):YL P o a σ d σ.H:=by
 have h0:=h;unfold bj at h;split at h
 .rename_i x E
  have main:d=aF P ts o.type x->YL P o a σ d σ.H:=λe=>by
   subst e;exact Zk (v:=a.eval x) ok (by simp[execOp,E]) (Zq G _ _)
  split at h
  .simp only[yn,yq]at h;exact main h.2.1.symm
  .cases h
 .rename_i x E
  have main:d=aF P ts o.type x->YL P o a σ d σ.H:=λe=>by
   subst e;exact Zk (v:=a.eval x) ok (by simp[execOp,E]) (Zq G _ _)
  split at h
  .simp only[yn,yq]at h;exact main h.2.1.symm
  .cases h
 .rename_i c x y E;split at h
  .rename_i t β R hcv;simp only[yn,yq]at h;obtain⟨rfl,rfl,rfl⟩:=h;have hb:=Zq (P:=P) G 0 c;rw[hcv]at hb;have hb':=Yn hb;have ht:t=β:=hc.1;subst ht;refine Zk (v:=if t then a.eval x else a.eval y) ok (by simp[execOp,E,hb',asBool]) ?_
   cases t
   .exact Zq G _ _
   .exact Zq G _ _
  .cases h
 .rename_i x E;split at h
  .rename_i i f p F;simp only[yn,yq]at h;obtain⟨rfl,rfl,rfl⟩:=h;have l:=Zq (P:=P) G 0 x;rw[F]at l;obtain⟨b,J,S,T⟩:=lr l;exact Zk (v:=a.eval x) ok (by simp[execOp,E,T]) l
  .rename_i i v f p F;simp only[yn,yq]at h;obtain⟨rfl,rfl,rfl⟩:=h;have l:=Zq (P:=P) G 0 x;rw[F]at l;obtain⟨b,o',T,_⟩:=uR l;exact Zk (v:=a.eval x) ok (by simp[execOp,E,T]) l
  .rename_i y F;simp only[yn,yq]at h;obtain⟨rfl,rfl,rfl⟩:=h;have l:=Zq (P:=P) G 0 x;rw[F]at l;obtain⟨b,o',us,T,_⟩:=qL l;exact Zk (v:=a.eval x) ok (by simp[execOp,E,T]) l
  .rename_i f cap F;simp only[yn,yq]at h;obtain⟨rfl,rfl,rfl⟩:=h;have l:=Zq (P:=P) G 0 x;rw[F]at l;obtain⟨fs,cs,T,_⟩:=uS l;exact Zk (v:=a.eval x) ok (by simp[execOp,E,T]) l
  .cases h
 .rename_i op t x y yt E;obtain⟨v,J,S,T⟩:=ZxL (P:=P) h hc (Zq G t x) (Zq G yt y) x y;exact Zk ok (by simp[execOp,E,J,S]) T
 .rename_i t x E;split at h
  .rename_i b F;simp only[yn,yq]at h;obtain⟨rfl,rfl,rfl⟩:=h;have l:=Zq (P:=P) G 0 x;rw[F]at l;exact Zk (v:=.bool (!b)) ok (by simp[execOp,E,Yn l,Op.unary]) (Yk _)
  .cases h
 .rename_i t x E;split at h
  .rename_i k n F;have l:=Zq (P:=P) G 0 x;rw[F]at l;exact Zk ok (by simp[execOp,E,ZD l,Op.unary,Op.intArith]) (qH h hc σ)
  .cases h
 .rename_i t x E;split at h
  .rename_i k n F;have l:=Zq (P:=P) G 0 x;rw[F]at l;split at h
   .cases h
   .rename_i I;simp only[yn,yq]at h;obtain⟨rfl,rfl,rfl⟩:=h;exact Zk ok (by simp[execOp,E,ZD l,Op.unary,I,intBits_xor]) (Zx k _)
  .cases h
 .rename_i src dst x E;split at h
  .rename_i d1 k k' n R X F;have l:=Zq (P:=P) G src x;rw[F]at l;refine Zk ok ?_ (qH h hc σ);simp[execOp,E,ZD l,convert,run_underlying R,run_underlying X,Conv.intToInt]
  .rename_i e nn s xs R X F;have l:=Zq (P:=P) G src x;rw[F]at l;split at h
   .rename_i b hs2 he;split at h
    .rename_i J;subst J;simp only[yn,yq]at h;obtain⟨rfl,rfl,rfl⟩:=h;refine Zk (v:=.string b) ok ?_ (by simp[yJ,Dv.isAgg,Pl.isAgg,yH,aB]);have zB:=UA (P:=P) R he X l hc.1;simp[execOp,E,zB]
    .cases h
   .cases h
  .rename_i e id nn s xs R X F;have l:=Zq (P:=P) G src x;rw[F]at l;split at h
   .rename_i b hs2 he;split at h
    .rename_i J;subst J;simp only[yn,yq]at h;obtain⟨rfl,rfl,rfl⟩:=h;refine Zk (v:=.string b) ok ?_ (by simp[yJ,Dv.isAgg,Pl.isAgg,yH,aB]);have zB:=UA (P:=P) R he X (QW l) hc.1;simp[execOp,E,zB]
    .cases h
   .cases h
  .rename_i e b R X F;have l:=Zq (P:=P) G src x;rw[F]at l;split at h
   .rename_i he;simp only[yn,yq]at h;obtain⟨rfl,rfl,rfl⟩:=h;exact ZAb ok E R X he (oV l) hc.1
   .cases h
  .cases h
 .rename_i t x E;have l:=Zq (P:=P) G 0 x;split at h
  .rename_i n e nn s xs Q F;rw[F]at l;split at h
   .rename_i hn;simp only[yn,yq]at h;obtain⟨rfl,rfl,rfl⟩:=h;exact UB ok E Q l (by simpa using hn) hc.1
   .cases h
  .rename_i n e id nn s xs Q F;rw[F]at l;split at h
   .rename_i hn;simp only[yn,yq]at h;obtain⟨rfl,rfl,rfl⟩:=h;exact UB ok E Q (QW l) (by simpa using hn) hc.1
   .cases h
  .cases h
 .rename_i f first captured E
  split at h
  .rename_i hf;simp only[yn,yq]at h;obtain⟨rfl,rfl,rfl⟩:=h;rw[yi,yP]at hf;obtain⟨hf,U⟩:=hf;have:first= #[]:=by simpa using hf
   subst this;refine Zk (v:=.func (.func f) #[] (captured.map a.eval)) ok (by simp[execOp,E,Instr.makeFunc]) ?_;rw[Zh rfl];simp only[yH];refine⟨#[],captured.map a.eval, ?_,yW U,by rw[Array.empty_append,Array.toList_map];exact BN _ _ (λx=>Zq G 0 x) _⟩;unfold fV;rw[yW U]
  .split at h
   .rename_i hc2;simp only[yn,yq]at h;obtain⟨rfl,rfl,rfl⟩:=h;have:captured= #[]:=by simpa using hc2
    subst this;have hge:¬f+big < big:=Nat.not_lt.2 (Nat.le_add_left big f);refine Zk (v:=.func (.func f) (first.map a.eval) #[]) ok (by simp[execOp,E,Instr.makeFunc]) ?_
    rw[Zh rfl];simp only[yH];refine⟨first.map a.eval, #[], ?_,yX hge,by rw[Array.append_empty,Array.toList_map];exact BN _ _ (λx=>Zq G 0 x) _⟩
    unfold fV;rw[yX hge,Nat.add_sub_cancel]
   .cases h
 .rename_i t x E;split at h
  .cases h
  .rename_i u Q hne;simp only[yn,yq]at h;obtain⟨rfl,rfl,rfl⟩:=h;obtain⟨J,S⟩:=Zq (P:=P) G t x;refine Zk (v:=.iface t (a.eval x)) ok ?_ ?_
   .have e:(Instr.makeInterface t (a.eval x)).run P σ.w=.ok (.iface t (a.eval x)) σ.w:=by
     simp only[Instr.makeInterface,Sem.run_bind,run_underlying hne,Result.andThen_ok];rfl
    simp[execOp,E,e]
   .rw[Zh rfl];simp only[yH];exact⟨a.eval x,rfl,J,S⟩
  .cases h
 .rename_i t x i E;simp only[yv,yq]at h;obtain⟨d1,J,rfl,rfl,rfl⟩:=h;obtain⟨u,S,T⟩:=Ztt J (Zq (P:=P) G t x);exact Zk ok (by simp[execOp,E,S]) T
 .rename_i t x i E;have l:=Zq (P:=P) G 0 x;split at h
  .rename_i fs id off yQ Q F;rw[F]at l;split at h
   .rename_i f hf;split at h
    .rename_i I;simp only[yi,yE]at I;simp only[yn,yq]at h;obtain⟨rfl,rfl,rfl⟩:=h;obtain⟨b,J,S,T⟩:=lr l;refine Zk (v:=.pointer (ab ⟨b,off+f.offset,ad⟩)) ok ?_ ?_
     .have hs:=Z1 (P:=P) I.2 σ.w
      have Y:(fieldPlace ⟨b,off,ad⟩ f).run P σ.w=.ok ⟨b,off+f.offset,ad⟩ σ.w:=by
       unfold fieldPlace;rw[Sem.run_bind,hs];simp only[Result.andThen_ok,I.1,if_false,Sem.run_pure,Addr.bI]
      simp[execOp,E,T,Instr.fieldAt,run_underlying Q,hf,Instr.sureAddr,Y]
     .rw[Zh rfl];simp only[yH];exact⟨b,J,S,rfl⟩
    .cases h
   .cases h
  .rename_i fs id v off yQ Q F;rw[F]at l;split at h
   .rename_i f hf;split at h
    .rename_i I;simp only[yi,yE]at I;simp only[yn,yq]at h;obtain⟨rfl,rfl,rfl⟩:=h;obtain⟨b,o',T,h4⟩:=uR l;refine Zk (v:=.pointer (ab ⟨b,o'+f.offset,ad⟩)) ok ?_ (BO (BP h4));have hs:=Z1 (P:=P) I.2 σ.w
     have Y:(fieldPlace ⟨b,o',ad⟩ f).run P σ.w=.ok ⟨b,o'+f.offset,ad⟩ σ.w:=by
      unfold fieldPlace;rw[Sem.run_bind,hs];simp only[Result.andThen_ok,I.1,if_false,Sem.run_pure,Addr.bI]
     simp[execOp,E,T,Instr.fieldAt,run_underlying Q,hf,Instr.sureAddr,Y]
    .cases h
   .cases h
  .rename_i fs y Q F;rw[F]at l;split at h
   .rename_i z hz;simp only[yn,yq]at h;obtain⟨rfl,rfl,rfl⟩:=h;obtain⟨b,off,us,J,S,T⟩:=qL l;unfold je at hz;rw[Q]at hz;split at hz
    .rename_i fs' xs hfs hxs;cases hfs;cases hxs;split at hz
     .rename_i y' hy;split at hz
      .rename_i hok;cases hz;unfold kv at hok;split at hok
       .rename_i f hf;simp only[yi,yT,yE]at hok;obtain⟨⟨⟨⟨⟨k1,k2⟩,k3⟩,k4⟩,k5⟩,k6⟩:=hok;simp only[aB]at S;obtain⟨p1,p2,p3,rfl,e1,e2,_⟩:=la S hy;refine Zk (v:=.pointer (ab ⟨b,off+f.offset,ad⟩)) ok ?_ ?_
        .have hs:=Z1 (P:=P) k3 σ.w
         have Y:(fieldPlace ⟨b,off,ad⟩ f).run P σ.w=.ok ⟨b,off+f.offset,ad⟩ σ.w:=by
          unfold fieldPlace;rw[Sem.run_bind,hs];simp only[Result.andThen_ok,k2,k6,if_false,Sem.run_pure,Addr.bI]
         simp[execOp,E,J,Instr.fieldAt,run_underlying Q,hf,Instr.sureAddr,Y]
        .rw[Zh rfl];simp only[yH];refine⟨b,_,p2,rfl,e2, ?_⟩;have:=(Ww.append (Ww.append T).2).1;rw[e1, <-k1]at this;exact this
       .cases hok
      .cases hz
     .cases hz
    .rename_i hxs;cases hxs
    .cases hz
   .cases h
  .cases h
 .rename_i t x ix E;exact ZxF ok G E h0 hc
 .rename_i t x ix E;have l:=Zq (P:=P) G t x;have hi:=Zq (P:=P) G 0 ix;split at h
  .rename_i n e n' s xs k i Q F hix;rw[F]at l;rw[hix]at hi;split at h
   .rename_i y R;split at h
    .rename_i I;simp only[yi,yP,yT,yE]at I;obtain⟨⟨⟨⟨⟨rfl,k1⟩,k2⟩,k3⟩,k4⟩,k5⟩:=I;simp only[yn,yq]at h;obtain⟨rfl,rfl,rfl⟩:=h;obtain⟨c1,c2,_⟩:=hc;obtain⟨cs,hcs,Y⟩:=(ZY rfl).1 l;simp only[yH,aB]at Y;obtain⟨r1,r2,r3⟩:=Y;obtain⟨p1,p2,p3,ecs,e1,e2,_⟩:=la r3 c2;have U:i.toNat < xs.length:=(yu.1 c2).1;have hys:y.size=s:=r2 y (ybk c2)
     have hpl:p1.length=i.toNat*s:=by
      rw[e1,aN (Vq r2 _),yaa,yay (Nat.le_of_lt U)]
     obtain⟨v,J,S⟩:=kC (P:=P) (σ:=σ) (t:=e) (d:=.p y) ecs (by simpa[yH] using e2) (by rw[k1];exact hys.symm) k4 k3 k2 (by show y.size≠0;rw[hys];exact k5);refine Zk ok ?_ S;have hb:0<=i/\i < (n:Int):=⟨c1,by omega⟩;rw[hpl, <-k1]at J;simp[execOp,E,hcs,ZD hi,Instr.index,asIntOf,run_underlying Q,hb,Z1 k4,J]
    .cases h
   .cases h
  .rename_i s k i Q F hix;rw[F]at l;rw[hix]at hi;split at h
   .rename_i b R;simp only[yn,yq]at h;obtain⟨rfl,rfl,rfl⟩:=h;obtain⟨c1,c2,_⟩:=hc;obtain⟨x0,J,rfl⟩:=yv.1 c2;refine Zk ok (v:=.int .u8 x0.toNat) ?_ (Zx _ _)
    have hg:s[i.toNat]? =ab x0:=by
     rw[<-J];have U:i.toNat < s.data.toList.length:=(yu.1 J).1;have hlt':i.toNat < s.size:=by simpa using U
     rw[getElem?_pos s i.toNat hlt',yab U];rfl
    simp[execOp,E,oV l,ZD hi,Instr.index,asIntOf,run_underlying Q,c1,hg]
   .cases h
  .rename_i n e n' s xs k i Q F hix;rw[F]at l;rw[hix]at hi;split at h
   .rename_i y c2;split at h
    .rename_i I;simp only[yi,yP,yT,yE]at I;obtain⟨⟨⟨⟨⟨rfl,k1⟩,k2⟩,k3⟩,k4⟩,k5⟩:=I;simp only[yn,yq]at h;obtain⟨rfl,rfl,rfl⟩:=h;obtain⟨c1,_⟩:=hc;obtain⟨cs,hcs,Y⟩:=(ZY rfl).1 l;simp only[yH]at Y;obtain⟨r1,r2,r3⟩:=Y;obtain⟨p1,p2,p3,ecs,e1,e2,_⟩:=md r3 c2;have U:i.toNat < xs.length:=(yu.1 c2).1;have hys:y.size=s:=r2 y (ybk c2)
     have hpl:p1.length=i.toNat*s:=by
      rw[e1,df (λx F=>r2 x (ybs F)),yaa,yay (Nat.le_of_lt U)]
     obtain⟨v,J,S⟩:=kC (P:=P) (σ:=σ) (t:=e) (d:=y) ecs e2 (by rw[k1];exact hys.symm) k4 k3 k2 (by rw[hys];exact k5);refine Zk ok ?_ S;have hb:0<=i/\i < (n:Int):=⟨c1,by omega⟩;rw[hpl, <-k1]at J;simp[execOp,E,hcs,ZD hi,Instr.index,asIntOf,run_underlying Q,hb,Z1 k4,J]
    .cases h
   .cases h
  .cases h
 .rename_i t x lo hi E;exact ZH6 ok G E h0 hc
 .rename_i t x lo hi mx E;exact ZEP ok G E h0 hc
 .rename_i x i E;split at h
  .rename_i ds F;simp only[yv,yq]at h;obtain⟨d1,J,rfl,rfl,rfl⟩:=h;have l:=Zq (P:=P) G 0 x;rw[F,Zh rfl]at l;simp only[yH,List.cons.injEq,and_true]at l;obtain⟨cs,l,Y⟩:=l;obtain⟨v,S,T⟩:=uO Y J;have h2':cs[i]? =ab v:=by simpa using S
   exact Zk ok (by simp[execOp,E,l,Instr.extract,h2']) T
  .cases h
 .rename_i t x E;split at h
  .rename_i y F;split at h
   .rename_i I;simp only[yi,yT,yP]at I;obtain⟨⟨⟨k1,k2⟩,k3⟩,k4⟩:=I;simp only[yn,yq]at h;obtain⟨rfl,rfl,rfl⟩:=h;have l:=Zq (P:=P) G 0 x;rw[F]at l;obtain⟨b,off,us,J,S,T⟩:=qL l;obtain⟨v,h4,h5⟩:=uM (P:=P) (σ:=σ) (d:=.p y) (by simpa[yH] using S) (λj u Q=>(T j u Q).1) k1 k4 k3 k2;exact Zk ok (by simp[execOp,E,J,Instr.loadAt,Instr.sureAddr,h4]) h5
   .cases h
  .cases h
 .rename_i t parts E;exact ZH7 ok G E h0
 .rename_i c E;split at h
  .rename_i Z;split at h
   .rename_i x t W M;have l:=Zq (P:=P) G t x;split at h
    .rename_i e nn s xs Q F;rw[F]at l;simp only[yn,yq]at h;obtain⟨rfl,rfl,rfl⟩:=h;obtain⟨_,A,cp,J,_⟩:=X2 l;exact Zk ok (nJ E Z W M (by rw[J];simp[Builtin.len_,run_underlying Q];rfl)) (Zx _ _)
    .rename_i e id nn s xs Q F;rw[F]at l;simp only[yn,yq]at h;obtain⟨rfl,rfl,rfl⟩:=h;obtain⟨_,A,cp,J,_⟩:=QV l;exact Zk ok (nJ E Z W M (by rw[J];simp[Builtin.len_,run_underlying Q];rfl)) (Zx _ _)
    .rename_i e id off yQ s lo n Q F;rw[F]at l;simp only[yn,yq]at h;obtain⟨rfl,rfl,rfl⟩:=h;obtain⟨b,cp,aa,_,_,J,_⟩:=nG l;exact Zk ok (nJ E Z W M (by rw[J];simp[Builtin.len_,run_underlying Q];rfl)) (Zx _ _)
    .rename_i e id v s lo n Q F;rw[F]at l;simp only[yn,yq]at h;obtain⟨rfl,rfl,rfl⟩:=h;obtain⟨A,cp,J,_⟩:=ji l;exact Zk ok (nJ E Z W M (by rw[J];simp[Builtin.len_,run_underlying Q];rfl)) (Zx _ _)
    .rename_i dd n e Q;simp only[yn,yq]at h;obtain⟨rfl,rfl,rfl⟩:=h;exact Zk ok (nJ E Z W M (by simp[Builtin.len_,run_underlying Q];rfl)) (Zx _ _)
    .rename_i s Q F;rw[F]at l;simp only[yn,yq]at h;obtain⟨rfl,rfl,rfl⟩:=h;exact Zk ok (nJ E Z W M (by rw[oV l];simp[Builtin.len_,run_underlying Q];rfl)) (Zx _ _)
    .cases h
   .cases h
  .rename_i Z;split at h
   .rename_i x y t u W M;have l:=Zq (P:=P) G t x;have hw:=Zq (P:=P) G u y;split at h
    .rename_i m n F hy;rw[F]at l;rw[hy]at hw;simp only[yn,yq]at h;obtain⟨rfl,rfl,rfl⟩:=h;exact Zk ok (ZES E Z W M (by rw[ZD l,ZD hw];simp[Builtin.max_,Builtin.max2])) (Zx _ _)
    .cases h
   .cases h
  .rename_i Z;split at h
   .rename_i x y t u W M;have l:=Zq (P:=P) G t x;have hw:=Zq (P:=P) G u y;split at h
    .rename_i m n F hy;rw[F]at l;rw[hy]at hw;simp only[yn,yq]at h;obtain⟨rfl,rfl,rfl⟩:=h;exact Zk ok (ZET E Z W M (by rw[ZD l,ZD hw];simp[Builtin.min_,Builtin.min2])) (Zx _ _)
    .cases h
   .cases h
  .rename_i Z;split at h
   .rename_i x y t u R W M;split at h
    .rename_i e s Q F;split at h
     .rename_i i ys hi hsrc;split at h
      .rename_i I;simp only[yi,yE]at I;simp only[yn,yq]at h;obtain⟨rfl,rfl,rfl⟩:=h;exact Ztu ok G E Z W M Q F hi I.1 I.2 hsrc hc.1 hc.2.1
      .cases h
     .cases h
    .cases h
   .cases h
  .rename_i f Z;split at h
   .rename_i g cap r R hf;split at h
    .rename_i I;simp only[yi,yT]at I;split at h
     .rename_i args' r1 W Y;simp only[yn,yq]at h;obtain⟨rfl,rfl,rfl⟩:=h
      have:=vg (P:=P) (ids:=[]) (Hin:=[]) (H':=[]) (Hb:=[]) (r:=r) (r':=r) ok G E Z hf I.1 I.2 rfl (ym _) (by rw[qU];exact W) rfl
       (qV r r1 Y) rfl hc.1
      rwa [TZ]at this
     .cases h
    .cases h
   .rename_i g x y R hf;split at h
    .rename_i I;simp only[yi,yT]at I;split at h
     .rename_i n1 s xs n2 s' ys W;split at h
      .rename_i J;obtain⟨J,S⟩:=J;subst J;subst S;simp only[yn,yq]at h;obtain⟨rfl,rfl,rfl⟩:=h;exact ZDe ok G E Z hf I.1 I.2 W hc.1 hc.2.1
      .cases h
     .cases h
    .cases h
   .cases h
  .cases h
 .rename_i t len parts E;split at h
  .rename_i R;split at h
   .rename_i e Q;split at h
    .rename_i i xs hi hl;split at h
     .rename_i I;simp only[yi,yE,yP]at I;simp only[yn,yq]at h;obtain⟨rfl,rfl,rfl⟩:=h;exact Vr (TF ok G E Q hi I.1.1 I.1.2 I.2 hl) (Wk.p (bJ.qJ (by rw[<-Pl.cK];exact cN _))) (bZ.refl _)
     .cases h
    .cases h
   .cases h
  .rename_i R;split at h
   .rename_i e Q;split at h
    .rename_i i xs hi hl;split at h
     .rename_i I;simp only[yi,yE,yP]at I;simp only[yn,yq]at h;obtain⟨rfl,rfl,rfl⟩:=h;exact TF ok G E Q hi I.1.1 I.1.2 I.2 hl
     .cases h
    .cases h
   .cases h
  .cases h
 .cases h
theorem ZDg{x y:yp}{t u:yc}{c:Call}{w':yr}(ho:o.op=.call c)(hc:c.callee=.builtin .copy)(g:c.args.toList=[x,y])(f:c.argTypes.toList=[t,u]){v:yh}
 (h:(Builtin.copy_ #[t,u] o.type #[a.eval x,a.eval y]).run P σ.w=.ok v w'):(execOp a.eval o).run P σ.w=.ok (.value v) w':=by
 have j:c.args= #[x,y]:=by rw[<-ycf (xs:=c.args),g]
 have l:c.argTypes= #[t,u]:=by rw[<-ycf (xs:=c.argTypes),f]
 simp[execOp,ho,resolve,hc,j,l,invoke,builtin,h]
theorem qW(ok:Ok σ){id v Z s lo n N:Nat}{st:Bool}{e:yc}{zs:yL Pl}{u:yh}(R:yJ σ (.rv id v s lo n) u)(hH:σ.H[id]? =ab (.row Z s st e (.p (.arr N s zs))))(hv:Z=v)(hle:lo+n<=N):
 ∃A c,u=.slice A n c/\n<=c/\c<=maxLen/\(A=ad->c=0)/\aW s ((zs.drop lo).take n)/\((zs.drop lo).take n).length=n/\∃q,ar σ.w σ.bf ((zs.drop lo).take n) q/\q.length=n*s/\
  (0 < n->∃b cur cap,A=ab ⟨b,lo*s,ad⟩/\σ.m[id]? =ab (ab b)/\σ.w.heap[b]? =ab (.cells cur e (0,0))/\cur.size=cap*s/\∀(j:Nat)(u:yh),q[j]? =ab u->σ.w.cell? ⟨b,lo*s+j,ad⟩=ab u):=by
 obtain⟨A,c,rfl,h2,h3,h4,h5,v2,s2,st2,y,d2,h6,S,h8⟩:=ji R;rw[hH]at h6;cases h6;obtain⟨_,h9⟩:=h8 hv;have g:id < σ.m.length:=by rw[ok.len];exact(yu.1 hH).1
 have l:σ.m[id]? =ab σ.m[id]:=yab g;obtain⟨N',E,F⟩:=ok.dF id _ _ hH l;simp only[aR,if_true,yn]at E;subst E;by_cases hn:n=0
 .subst hn;refine⟨A,c,rfl,h2,h3,h4, ?_,by simp,[],by simp[ar],by simp,λh=>absurd h (by omega)⟩;simp only[List.take_zero];intro x R;cases R
 have hpos:0 < n:=Nat.pos_of_ne_zero hn;rcases h9 with⟨_,_,M⟩|⟨b,cur,G,T,k3,k4⟩
 .omega
 rw[l]at G;rcases F with⟨Q,_⟩|⟨b',cur',cap,Q,g2,g4,g5,g6,g7⟩
 .rw[Q]at G;cases G
 rw[Q]at G;cases G;rw[T]at g2;cases g2;simp only[yH,aB]at g7;obtain⟨hxl,I,S⟩:=g7
 have f:zs=zs.take lo++((zs.drop lo).take n++zs.drop (lo+n)):=by
  have U:zs.drop (lo+n)=(zs.drop lo).drop n:=by rw[List.drop_drop]
  rw[U,ybb,ybb]
 rw[f]at S;obtain⟨q1,q23,U,r1,W⟩:=Z8 S;obtain⟨X,q3,rfl,r2,r3⟩:=Z8 W;have Y:aW s (zs.take lo):=λz M=>I z (ybs M);have J:aW s ((zs.drop lo).take n):=λz M=>I z (ycq (ybs M));have ly:((zs.drop lo).take n).length=n:=by rw[yaa,yaz,yay (by omega)]
 have l1:q1.length=lo*s:=by rw[aL _ _ r1,aN Y,yaa,yay (by omega)]
 have l2:X.length=n*s:=by rw[aL _ _ r2,aN J,ly]
 refine⟨A,c,rfl,h2,h3,h4,J,ly,X,r2,l2,λ_=>⟨b,cur,cap,k4 (by omega),by rw[l,Q],T,g4,λj u hu=> ?_⟩⟩;rw[cell_of_row σ.w b _ cur e (0,0) T, <-yby];have hj:j < X.length:=(yu.1 hu).1
 have y:(cur.toList.take (N*s))[lo*s+j]? =ab u:=by
  rw[U,yaq (by omega),l1,Nat.add_sub_cancel_left,ybe hj];exact hu
 rw[ycd]at y;split at y
 .exact y
 .cases y
theorem vh(ok:Ok σ)(yM:aD σ ts a){s:Nat}{u ut:yc}{y:yp}{ys:yL Pl}{hs1:yL ao}{C1:yL Prop}(h:iM P s u σ.H hs (aF P ts ut y)=ab (C1,ys,hs1))(hc:aX C1):
 mq P σ s u (a.eval y) ys:=by
 unfold iM at h;split at h
 .rename_i id off yQ s' lo n hd;have E:=Zq (P:=P) yM ut y;rw[hd]at E;obtain⟨b,R,A,hm,F,S,Z,hcm,hA⟩:=nG E;split at h
  .rename_i e dd st hu hH;split at h
   .rename_i C2 f N l zs hs2 hg;split at h
    .rename_i hk;simp only[yi,yP]at hk;obtain⟨rfl,rfl⟩:=hk;simp only[yn,yq]at h;obtain⟨rfl,rfl,rfl⟩:=h;obtain⟨c1,rfl,c2,_⟩:=Zl.1 hc;obtain⟨b',Y,t',h1,h2,h3,h4⟩:=ok.dF id _ _ hH hm;cases h1;obtain⟨p1,p2,p3,h5,h6,h7,_⟩:=QY yQ dd hs hs2 C2 f (.p (.arr N l zs)) _ hg c1 h3;simp only[yH,aB]at h7;obtain⟨hxl,hxs,h7⟩:=h7
     have G:zs=zs.take lo++((zs.drop lo).take n++zs.drop (lo+n)):=by
      have e1:zs.drop (lo+n)=(zs.drop lo).drop n:=by rw[List.drop_drop]
      rw[e1,ybb,ybb]
     rw[G]at h7;obtain⟨q1,q23,rfl,r1,r23⟩:=Z8 h7;obtain⟨m,q3,rfl,r2,r3⟩:=Z8 r23;have hs1:aW l (zs.take lo):=λz T=>hxs z (ybs T);have I:aW l ((zs.drop lo).take n):=λz T=>hxs z (ycq (ybs T));have Q:((zs.drop lo).take n).length=n:=by rw[yaa,yaz,yay (by omega)]
     have l1:q1.length=lo*l:=by rw[aL _ _ r1,aN hs1,yaa,yay (by omega)]
     have U:m.length=n*l:=by rw[aL _ _ r2,aN I,Q]
     rw[S];refine⟨m,⟨.inl ⟨_,hu⟩,λw'=>by rw[Q];rfl, ?_, ?_,by rw[Q];exact U⟩,r2,λ_=>I⟩
     all_goals
      rw[Q];rcases yct n with h0|h0
      .subst h0;have T:m=[]:=ybj (by rw[U];simp);rw[T];simp[Builtin.firstCells,loadCells,loadCellsFrom]
      .rw[hA h0];refine run_firstCells_some _ l _ ⟨b,f+lo*l,ad⟩ _ R m U (λj v F=> ?_);rw[Addr.bI];have g:σ.w.cell? ⟨b,f+lo*l+j,ad⟩=Y[f+lo*l+j]? :=cell_of_row σ.w b _ Y t' (0,0) h2
       first
        |(rw[g, <-yby]
          have W:Y.toList.take dd.size=(p1++q1)++(m++(q3++p3)):=by rw[h5];simp
          have X:(p1++q1).length=f+lo*l:=by rw[yl,h6,l1]
          have hj:j < m.length:=(yu.1 F).1
          have J:(Y.toList.take dd.size)[f+lo*l+j]? =ab v:=by
           rw[W,yaq (by omega),X,Nat.add_sub_cancel_left,ybe hj];exact F
          rw[ycd]at J;split at J
          .exact J
          .cases J)
        |(show σ.w.drew.cell? _=_
          have M:σ.w.drew.cell? ⟨b,f+lo*l+j,ad⟩=σ.w.cell? ⟨b,f+lo*l+j,ad⟩:=rfl;rw[M,g, <-yby];have W:Y.toList.take dd.size=(p1++q1)++(m++(q3++p3)):=by rw[h5];simp
          have X:(p1++q1).length=f+lo*l:=by rw[yl,h6,l1]
          have hj:j < m.length:=(yu.1 F).1
          have J:(Y.toList.take dd.size)[f+lo*l+j]? =ab v:=by
           rw[W,yaq (by omega),X,Nat.add_sub_cancel_left,ybe hj];exact F
          rw[ycd]at J;split at J
          .exact J
          .cases J)
    .cases h
   .cases h
  .cases h
 .rename_i id v s' lo n hd;have E:=Zq (P:=P) yM ut y;rw[hd]at E;split at h
  .rename_i e v' l st e' N s3 zs hu hH;split at h
   .rename_i hk;simp only[yi,yP,yT]at hk;obtain⟨⟨⟨rfl,rfl⟩,rfl⟩,F⟩:=hk;simp only[yn,yq]at h;obtain⟨rfl,rfl,rfl⟩:=h;obtain⟨A,R,S,Z,hcm,hA,I,Q,m,r2,U,hq⟩:=qW ok E hH F hc.1;rw[S];refine⟨m,⟨.inl ⟨_,hu⟩,λw'=>by rw[Q];rfl, ?_, ?_,by rw[Q];exact U⟩,r2,λ_=>I⟩
    all_goals
     rw[Q];rcases yct n with h0|h0
     .subst h0;have T:m=[]:=ybj (by rw[U];simp);rw[T];cases A <;> simp[Builtin.firstCells,loadCells,loadCellsFrom]
     .obtain⟨b,cur,cp,rfl,_,_,_,g⟩:=hq h0;refine run_firstCells_some _ _ _ ⟨b,_,ad⟩ _ R m U (λj v F=> ?_);rw[Addr.bI];exact g j v F
   .cases h
  .cases h
 .simp only[yv,yq]at h;obtain⟨zs,h1,rfl,rfl,rfl⟩:=h;exact pc (P:=P) yM h1
theorem ZKy(ok:Ok σ)(yM:aD σ ts a){c:Call}{x y:yp}{t u e:yc}{id off s lo n N:Nat}{yQ:yL Nat}{dd dd':Dv}{xs ys:yL Pl}{C1:yL Prop}{off':Nat}(ho:o.op=.call c)(zL:c.callee=.builtin .copy)
 (yR:c.args.toList=[x,y]) (R:c.argTypes.toList=[t,u]) (ht:P.underlying t=ab (.slice e)) (hx:aF P ts t x=.view id off yQ s lo n) (S:hP P s u (aF P ts u y)=ab ys)
 (hH:σ.H[id]? =ab (.var dd ae)) (hg:Yd dd yQ hs=ab (C1,off',.p (.arr N s xs),hs')) (hc:aX C1) (he:off'=off) (hp:Wi (.p (.arr N s (oT xs ys lo))) dd yQ hs=ab dd')
 (hce:P.cellsOf e=s) (hi:(P.info? e).isSome=ae) (hm':ys.length<=n) (hn:lo+n<=N):YL P o a σ (.p (.int .i64 (ys.length:Int))) (σ.H.set id (.var dd' ae)):=by
 subst he;have E:=Zq (P:=P) yM t x;rw[hx]at E;obtain⟨b,cap,A,hm,hv,E,hcap,hcm,hA⟩:=nG E;obtain⟨g,hS,T,zU⟩:=pc (P:=P) yM S;obtain⟨b',F,U,h1,h2,h3,h4⟩:=ok.dF id _ _ hH hm;cases h1;obtain⟨p1,p2,p3,h5,h6,W,h8⟩:=QY yQ dd hs hs' C1 off' (.p (.arr N s xs)) _ hg hc h3;simp only[yH,aB]at W;obtain⟨hxl,J,W⟩:=W;have hlo:lo+ys.length<=xs.length:=by omega
 have G:xs=xs.take lo++((xs.drop lo).take ys.length++xs.drop (lo+ys.length)):=by
  have e1:xs.drop (lo+ys.length)=(xs.drop lo).drop ys.length:=by rw[List.drop_drop]
  rw[e1,ybb,ybb]
 rw[G]at W;obtain⟨X,q23,rfl,r1,r23⟩:=Z8 W;obtain⟨q2,q3,rfl,r2,r3⟩:=Z8 r23;have Y:aW s (xs.take lo):=λz l=>J z (ybs l);have hs2:aW s ((xs.drop lo).take ys.length):=λz l=>J z (ycq (ybs l));have hs3:aW s (xs.drop (lo+ys.length)):=λz l=>J z (ycq l);have l1:X.length=lo*s:=by rw[aL _ _ r1,aN Y,yaa,yay (by omega)]
 have l2:q2.length=ys.length*s:=by rw[aL _ _ r2,aN hs2,yaa,yaz,yay (by omega)]
 have ln:g.length=ys.length*s:=hS.cells
 have hys:aW s ys:=by
  by_cases h0:ys=[]
  .subst h0;intro z l;cases l
  .exact zU h0
 have I:yH σ (.p (.arr N s (oT xs ys lo))) (X++(g++q3)):=by
  simp only[yH,aB];refine⟨?_, ?_, ?_⟩
  .unfold oT;simp only[yl,yaa,yaz];omega
  .exact X6 Y (X6 hys hs3)
  .exact Z7 r1 (Z7 T r3)
 obtain⟨h9,Z⟩:=h8 _ dd' _ hp rfl I;have h5':F.toList.take dd.size=(p1++X)++(q2++(q3++p3)):=by rw[h5];simp
 have hll:g.length=q2.length:=by rw[ln,l2]
 obtain⟨k1,k2⟩:=pf h5' hll h4;have hpl:(p1++X).length=off'+lo*s:=by rw[yl,h6,l1]
 rw[hpl]at k1 k2
 have hnl:off'+lo*s+g.length<=F.size:=by
  have:=congrArg List.length h5';simp only[yaa,yax,yl]at this;omega
 have hone:∀v,v∈g->v.oneCell'=ae:=cf _ _ T;have hst:=run_storeCells_at P b (off'+lo*s) U g 0 F σ.w h2 (by simpa using hnl) hone;simp only[Nat.add_zero]at hst;let f:Array yh:=(F.toList.take (off'+lo*s)++g++F.toList.drop (off'+lo*s+g.length)).toArray
 have hstA:(storeCells A g 0).run P σ.w=.ok () (σ.w.setRow b f):=by
  by_cases h0:ys.length=0
  .have l:g=[]:=ybj (by rw[ln,h0];simp)
   have e1:f=F:=by
    simp only[f,l,List.append_nil,ycn,Nat.add_zero,ybb,ycf]
   rw[e1,setRow_self σ.w b F U (0,0) h2,l];simp[storeCells]
  .rw[hA (by omega)];exact hst
 let M:Sg:={ σ with m:=σ.m.set id (ab b),H:=σ.H.set id (.var dd' ae),w:=σ.w.setRow b f};have zV:M.w.heap[b]? =ab (.cells f U (0,0)):=setRow_heap σ.w b F _ U _ h2;have hoth:∀j,b≠j->M.w.heap[j]? =σ.w.heap[j]? :=λj hj=>setRow_other σ.w b j _ (Ne.symm hj)
 obtain⟨to,ok'⟩:=YN (σ':=M) (mi:=ab b) (mi':=ab b) ok hH hm rfl rfl rfl rfl rfl rfl rfl (by simp[M])
  (λj hj hne=>hoth j (λhh=>hne (by rw[hh]))) (λb' o v _ hu _=>by cases hu) (λo _ hu=>by cases hu) (.inl rfl) (λ_=>⟨rfl,dd',ae,rfl⟩) (λ⟨d,st,h⟩=>by cases h)
  (λs e xs h=>by cases h) (λleaf=>⟨b,f,U,rfl,zV,by rw[Z];show yH M dd' (f.toList.take dd.size);rw[show f.toList.take dd.size=p1++((X++(g++q3))++p3) from by rw[k1];simp];exact Yg leaf dd' _ h9,by
    rw[Z];show dd.size<=f.size;have:f.size=F.size:=k2;omega⟩)
 refine ZM (σ':=M) (v:=goInt ys.length) (ZDg ho zL yR R ?_) to ok' (by rw[Zh rfl];simp[yH,aB,goInt])
 cases Q:P.info? e with
 |none=>simp[Q]at hi
 |some i=>
  have hsz:i.size=s:=by rw[<-hce];simp[Program.cellsOf,Q]
  have hmin:Nat.min ys.length n=ys.length:=yay hm';rw[E];simp[Builtin.copy_,run_underlying ht,hS.len,hmin,sizeOf,typeInfo,Q,hsz,hS.first,hstA,goInt,M]
end
end Go.Ev
end
section
namespace Go.Ev
def qX:yh->Bool
 |.int _ _=>ae
 |.bool _=>ae
 |_=>af
mutual
theorem qY{w w':yr}{S S':Nat->Nat->Prop}:∀(x:Pl)(us vs:yL yh),x.flat=ae->aB w S x us->aB w' S' x vs->us=vs/\∀u,u∈us->qX u=ae
 |.int _ _,us,vs,_,h,k=>by simp only[aB]at h k;subst h;subst k;exact⟨rfl,λu g=>by rw[ybc.1 g];rfl⟩
 |.bool _,us,vs,_,h,k=>by simp only[aB]at h k;subst h;subst k;exact⟨rfl,λu g=>by rw[ybc.1 g];rfl⟩
 |.str _,_,_,h,_,_=>by simp[Pl.flat]at h
 |.bX,_,_,h,_,_=>by simp[Pl.flat]at h
 |.fn0,_,_,h,_,_=>by simp[Pl.flat]at h
 |.eG,_,_,h,_,_=>by simp[Pl.flat]at h
 |.cC,_,_,h,_,_=>by simp[Pl.flat]at h
 |.gx _,_,_,h,_,_=>by simp[Pl.flat]at h
 |.agg j,us,vs,f,h,k=>by
  simp only[Pl.flat]at f;simp only[aB]at h k
  exact dL j us vs f h k
 |.arr n s j,us,vs,f,h,k=>by
  simp only[Pl.flat]at f;simp only[aB]at h k
  exact dL j us vs f h.2.2 k.2.2
 |.sl _ _ _,_,_,h,_,_=>by simp[Pl.flat]at h
 |.iface _ _,_,_,h,_,_=>by simp[Pl.flat]at h
theorem dL{w w':yr}{S S':Nat->Nat->Prop}:∀(xs:yL Pl)(us vs:yL yh),Pl.aS xs=ae->ar w S xs us->ar w' S' xs vs->us=vs/\∀u,u∈us->qX u=ae
 |[],us,vs,_,h,k=>by simp only[ar]at h k;subst h;subst k;exact⟨rfl,λu hu=>by cases hu⟩
 |x::xs,us,vs,f,h,k=>by
  simp only[Pl.aS,yi]at f;simp only[ar]at h k;obtain⟨a,b,rfl,g,j⟩:=h;obtain⟨c,d,rfl,l,m⟩:=k;obtain⟨rfl,y⟩:=qY x a c f.1 g l;obtain⟨rfl,z⟩:=dL xs b d f.2 j m;refine⟨rfl,λu hu=> ?_⟩;rcases List.mem_append.1 hu with hu|hu
  .exact y u hu
  .exact z u hu
end
theorem UD{σ σ':Sg}{x:Pl}{a b:yh}(g:x.flat=ae)(ha:yJ σ (.p x) a)(hb:yJ σ' (.p x) b):a=b:=by
 cases f:x.isAgg with
 |true=>
  obtain⟨j,rfl,h⟩:=(ZY (d:=.p x) f).1 ha;obtain⟨l,rfl,k⟩:=(ZY (d:=.p x) f).1 hb;simp only[yH]at h k;obtain⟨e,_⟩:=qY x _ _ g h k
  rw[show j=l from by cases j;cases l;simpa using e]
 |false=>
  have h:=(Zh (d:=.p x) f).1 ha;have k:=(Zh (d:=.p x) f).1 hb;simp only[yH]at h k;obtain⟨e,_⟩:=qY x _ _ g h k;simpa using e
theorem UE(n:Nat):∀{u:yh},qX u=ae->Instr.sameBits n u u=ae:=by
 intro u h;cases u <;> first|(cases n <;> simp[Instr.sameBits];done)|(simp[qX]at h)
theorem ZDh{σ:Sg}{x:Pl}{a:yh}(j:x.flat=ae)(ha:yJ σ (.p x) a):Instr.sameBits 10000 a a=ae:=by
 cases m:x.isAgg with
 |true=>
  obtain⟨f,rfl,h⟩:=(ZY (d:=.p x) m).1 ha;simp only[yH]at h;obtain⟨_,e⟩:=qY x _ _ j h h;show(f.size==f.size&&(f.toList.zip f.toList).all λ(x,y)=>Instr.sameBits 9999 x y)=ae;simp only[beq_self_eq_true,Bool.true_and,List.all_eq_true];intro p hp
  have g:∀(l:yL yh),(∀u,u∈l->qX u=ae)->∀p,p∈l.zip l->Instr.sameBits 9999 p.1 p.2=ae:=by
   intro l
   induction l with
   |nil=>intro _ p hp;cases hp
   |cons z r E=>
    intro A p hp;simp only[List.zip_cons_cons]at hp;rcases ybp.1 hp with rfl|hp
    .exact UE 9999 (A z (yau ..))
    .exact E (λu F=>A u (yav _ F)) p hp
  exact g _ e p hp
 |false=>
  have h:=(Zh (d:=.p x) m).1 ha;simp only[yH]at h;obtain⟨_,e⟩:=qY x _ _ j h h;exact UE 10000 (e a (ybc.2 rfl))
theorem UF{P:yg}{n:Nat}(j:∀(t:yc)(x:Pl),bv P n t x->x.flat=ae):∀(g:yL Field)(o:Nat)(xs:yL Pl),iJ P (bv P n) g o xs->Pl.aS xs=ae
 |[],_,[],_=>rfl
 |[],_,_::_,h=>h.elim
 |_::_,_,[],h=>h.elim
 |f::g,o,y::l,h=>by
  obtain⟨_,_,_,_,_,_,_,a,b⟩:=h;simp only[Pl.aS,j _ _ a,UF j g _ l b,Bool.and_self]
theorem UG:∀{xs:yL Pl},(∀y,y∈xs->y.flat=ae)->Pl.aS xs=ae
 |[],_=>rfl
 |x::xs,h=>by simp only[Pl.aS,h x (yau ..),UG λy f=>h y (yav _ f),Bool.and_self]
theorem qZ{P:yg}:∀(n:Nat)(t:yc)(x:Pl),bv P n t x->x.flat=ae
 |0,_,_,h=>by simp[bv]at h
 |n+1,t,x,h=>by
  unfold bv at h;split at h
  .rfl
  .rfl
  .obtain⟨_,_,_,_,_,h⟩:=h;simp only[Pl.flat];exact UG λy f=>qZ n _ y (h y f).1
  .simp only[Pl.flat];exact UF (qZ n) _ _ _ h.2
  .exact h.elim
theorem re{P:yg}{σ:Sg}{em:Bool}:∀(n:Nat)(t:yc)(x:Pl)(a:yh),bv P n t x->yJ σ (.p x) a->∀d,(Instr.checkKey em (d+n) t a).run P σ.w=.ok () σ.w
 |0,_,_,_,h,_,_=>by simp[bv]at h
 |n+1,t,x,a,R,g,d=>by
  unfold bv at R;rw[show d+(n+1)=(d+n)+1 from rfl]
  split at R
  .rename_i j;rw[Yn g];simp[Instr.checkKey,run_underlying j]
  .rename_i k k' z j;rw[ZD g];simp[Instr.checkKey,run_underlying j]
  .rename_i m e m' s l j;obtain⟨rfl,T,S,h3,h4,h5⟩:=R;rw[ZY (by rfl)]at g;obtain⟨E,rfl,g⟩:=g;simp only[yH]at g;obtain⟨n1,U,F⟩:=CD g;clear g U;subst n1;rw[Instr.checkKey];simp only[Sem.run_bind,run_underlying j,Result.andThen_ok];simp only[Std.Legacy.Range.forIn_eq_forIn_range',Std.Legacy.Range.size,Nat.sub_zero,Nat.add_one_sub_one,Nat.div_one];obtain⟨i,p,A,jq,G,I,J⟩:∃(i:Nat)(p A:yL yh),i=0/\E.toList=p++A/\p.length=i*s/\ar σ.w σ.bf l A:=⟨0,[],E.toList,rfl,rfl,by simp,F⟩;rw[<-jq];clear jq F j
   induction l generalizing i p A with
   |nil=>simp
   |cons x l W=>
    simp only[ar]at J;obtain⟨X,Y,rfl,M,Z⟩:=J;obtain⟨f1,f2,f3⟩:=h5 x (yau ..);obtain⟨a,Q,g⟩:=kC (P:=P) (σ:=σ) (t:=e) (d:=.p x) G (by simpa[yH] using M) (by rw[T];exact f2.symm) h3 h4 f3 (by show x.size≠0;omega);rw[I]at Q;have s1:=Wm _ _ M;have hk:=re (em:=em) n e x a f1 g d;rw[yaf,List.range'_succ];simp only[List.forIn_cons,Sem.run_bind,Z1 h3,T,Result.andThen_ok,Q,hk,Sem.run_pure];exact W (λy hy=>h5 y (yav _ hy)) (i+1) (p++X) Y (by rw[G,yac]) (by rw[yl,I,s1,f2,yba,Nat.one_mul]) Z
  .rename_i fs l j;obtain⟨T,S⟩:=R;rw[ZY (by rfl)]at g;obtain⟨E,rfl,g⟩:=g;simp only[yH,aB]at g;rw[Instr.checkKey];simp only[Sem.run_bind,run_underlying j,Result.andThen_ok];rw[<-Array.forIn_toList];obtain⟨o,p,A,ho,G,I,J⟩:∃(o:Nat)(p A:yL yh),o=0/\E.toList=p++A/\p.length=o/\ar σ.w σ.bf l A:=⟨0,[],E.toList,rfl,rfl,rfl,g⟩;rw[<-ho]at S;clear ho g j;generalize fs.toList=L at*
   induction L generalizing l o p A with
   |nil=>simp
   |cons f L W=>
    cases l with
    |nil=>exact S.elim
    |cons x l=>
     obtain⟨a1,a2,a3,a4,a5,a6,a7,a8,a9⟩:=S;simp only[ar]at J;obtain⟨X,Y,rfl,M,Z⟩:=J;obtain⟨a,Q,g⟩:=kC (P:=P) (σ:=σ) (t:=f.type) (d:=.p x) G (by simpa[yH] using M) a3 a4 a5 a6 a7;rw[I, <-a2]at Q;have s1:=Wm _ _ M;have hk:=re (em:=em) n f.type x a a8 g d;simp only[List.forIn_cons,a1,ne_eq,not_false_eq_true,if_true,Sem.run_bind,Q,Result.andThen_ok,hk,Sem.run_pure];exact W l (o+x.size) (p++X) Y (by rw[G,yac]) (by rw[yl,I,s1]) Z a9
  grind
end Go.Ev
namespace Go.Ev
structure ez(P:yg)(σ:Sg)(kt:yc)(k:Pl)(F:List MapEntry->Nat->Option (Nat×yh)->Prop):Prop where
 nil:∀i,F [] i ad
 eq:∀(e:MapEntry)es i(q:Pl),bv P 20 kt q->yJ σ (.p q) e.key->k=q->F (e::es) i (ab (i,e.val))
 ne:∀(e:MapEntry)es i(q:Pl)r,bv P 20 kt q->yJ σ (.p q) e.key->k≠q->F es (i+1) r->F (e::es) i r
theorem UH{P:yg}{σ:Sg}{kt:yc}{k:Pl}{a:yh}(hk:bv P 20 kt k)(ra:yJ σ (.p k) a):ez P σ kt k λes i r=>(Instr.findAsking kt a es i).run P σ.w=.ok r σ.w where
 nil i:=by simp[Instr.findAsking]
 eq e es i q hq rq h:=by
  have:=CF (β:=ae) hk hq ra rq (by simp[h]);simp[Instr.findAsking,this]
 ne e es i q r hq rq h hr:=by
  have:=CF (β:=af) hk hq ra rq (by simp[h]);simp[Instr.findAsking,this,hr]
theorem UI{P:yg}{σ:Sg}{kt:yc}{d:TypeDesc}{k:Pl}{a:yh}(hd:P.underlying kt=ab d)(hs:(∃q,d=.int q)\/d=.bool)(hk:bv P 20 kt k)(ra:yJ σ (.p k) a):
 ez P σ kt k λes i r=>Instr.findNow d a es i=ab r where
 nil i:=rfl
 eq e es i q hq rq h:=by
  subst h;have hv:=UD (qZ 20 kt k hk) ra rq;unfold bv at hk;rw[hd]at hk;rcases hs with⟨kk,rfl⟩|rfl
  .cases k <;> first|exact hk.elim|skip
   subst hk;have e1:=ZD rq;have e2:=ZD ra;simp[Instr.findNow,Instr.sameNow,e1,e2]
  .cases k <;> first|exact hk.elim|skip
   have e1:=Yn rq;have e2:=Yn ra;simp[Instr.findNow,Instr.sameNow,e1,e2]
 ne e es i q r hq rq h hr:=by
  unfold bv at hk hq;rw[hd]at hk hq;rcases hs with⟨kk,rfl⟩|rfl
  .cases k <;> first|exact hk.elim|skip
   cases q <;> first|exact hq.elim|skip
   subst hk;have hq':=hq;simp only at hq';subst hq';have e1:=ZD rq;have e2:=ZD ra;have h':¬(‹Int› :Int)=_:=λhh=>h (by rw[hh]);rw[e2]at hr ⊢;simp only[Instr.findNow,Instr.sameNow,e1,if_true];grind
  .cases k <;> first|exact hk.elim|skip
   cases q <;> first|exact hq.elim|skip
   have e1:=Yn rq;have e2:=Yn ra;have h':¬(‹Bool› :Bool)=_:=λhh=>h (by rw[hh]);rw[e2]at hr ⊢;simp only[Instr.findNow,Instr.sameNow,e1];grind
theorem UJ{P:yg}{σ:Sg}{E:yc}{k:Pl}{F:yL MapEntry->Nat->yO (Nat×yh)->Prop}(f:ez P σ E k F):∀(bS:yL (Pl×Pl))(es:yL MapEntry)(i:Nat)(r:yO Pl),iG σ bS es->jc P E bS->Vi bS k r->
 (r=ad->F es i ad)/\∀v,r=ab v->∃(j:Nat)(u:yh),F es i (ab (j,u))/\yJ σ (.p v) u
 |[],[],i,r,_,_,h=>by
  simp only[Vi]at h;subst h
  exact⟨λ_=>f.nil i,λv g=>by cases g⟩
 |[],_::_,_,_,h,_,_=>h.elim
 |_::_,[],_,_,h,_,_=>h.elim
 |q::l,e::es,i,r,⟨y,I,J⟩,G,h=>by
  have A:=G q (yau ..);simp only[Vi]at h;rcases h with⟨m,rfl⟩|⟨m,M⟩
  .exact⟨λh=>(by cases h),λv g=>⟨i,e.val,f.eq e es i q.1 A y m,by cases g;exact I⟩⟩
  .obtain⟨Q,R⟩:=UJ f l es (i+1) r J (λz S=>G z (yav _ S)) M;refine⟨λh=>f.ne e es i q.1 ad A y m (Q h),λv g=> ?_⟩;obtain⟨j,u,T,U⟩:=R v g;exact⟨j,u,f.ne e es i q.1 _ A y m T,U⟩
theorem UK{P:yg}{σ:Sg}{Q:yc}{k v:Pl}{F:yL MapEntry->Nat->yO (Nat×yh)->Prop}(y:ez P σ Q k F):∀(bS:yL (Pl×Pl))(es:yL MapEntry)(i:Nat)(l:yL (Pl×Pl)),iG σ bS es->jc P Q bS->gz bS k v l->
 (∃(j:Nat)(e:MapEntry),F es i (ab (i+j,e.val))/\es[j]? =ab e/\yJ σ (.p k) e.key/\∀f,yJ σ (.p k) f.key->yJ σ (.p v) f.val->iG σ l (es.set j f))\/
 (F es i ad/\∀f,yJ σ (.p k) f.key->yJ σ (.p v) f.val->iG σ l (es++[f]))
 |[],[],i,l,_,_,h=>by
  simp only[gz]at h;subst h
  exact .inr ⟨y.nil i,λf g G=>⟨g,G,aw⟩⟩
 |[],_::_,_,_,h,_,_=>h.elim
 |_::_,[],_,_,h,_,_=>h.elim
 |q::r,e::es,i,l,⟨m,R,S⟩,T,h=>by
  have I:=T q (yau ..);simp only[gz]at h;rcases h with⟨g,rfl⟩|⟨g,U,rfl,G⟩
  .exact .inl ⟨0,e,y.eq e es i q.1 I m g,rfl,by rw[g];exact m,λf A E=>⟨A,E,S⟩⟩
  .rcases UK y r es (i+1) U S (λz W=>T z (yav _ W)) G with⟨j,X,J,M,Y,Z⟩|⟨J,M⟩
   .exact .inl ⟨j+1,X,by have:=y.ne e es i q.1 _ I m g J;rwa [show i+1+j=i+(j+1) by omega]at this,by simpa using M,Y,λf A E=>⟨m,R,Z f A E⟩⟩
   .exact .inr ⟨y.ne e es i q.1 _ I m g J,λf A E=>⟨m,R,M f A E⟩⟩
theorem UL{k v:Pl}:∀{l:yL (Pl×Pl)},Vi l k (ab v)->(k,v)∈l
 |[],h=>by simp[Vi]at h
 |q::r,h=>by
  simp only[Vi]at h;rcases h with⟨rfl,h⟩|⟨_,h⟩
  .grind
  .exact yav _ (UL h)
theorem UM{k:Pl}:∀{l:yL (Pl×Pl)},Vi l k ad->∀q,q∈l->q.1≠k
 |[],_,q,hq=>by cases hq
 |x::r,h,q,hq=>by
  simp only[Vi]at h;rcases h with⟨_,h⟩|⟨f,h⟩
  .cases h
  .rcases ybp.1 hq with rfl|hq
   .grind
   .exact UM h q hq
theorem UN{k v:Pl}:∀{l:yL (Pl×Pl)},(l.map (·.1)).Nodup->(k,v)∈l->Vi l k (ab v)
 |[],_,h=>by cases h
 |q::r,f,h=>by
  simp only[Vi];rw[yah,List.nodup_cons]at f;rcases ybp.1 h with rfl|h
  .grind
  .refine .inr ⟨λe=>f.1 ?_,UN f.2 h⟩;grind
theorem UO{k:Pl}:∀{l:yL (Pl×Pl)},(∀q,q∈l->q.1≠k)->Vi l k ad
 |[],_=>by simp[Vi]
 |q::r,h=>by
  simp only[Vi];exact .inr ⟨λe=>h q (yau ..) e.symm,UO λx f=>h x (yav _ f)⟩
theorem ZAc{k:Pl}{r:yO Pl}{l f:yL (Pl×Pl)}(p:f.Perm l)(g:(l.map (·.1)).Nodup)(h:Vi l k r):Vi f k r:=by
 cases r with
 |none=>exact UO λq j=>UM h q (p.mem_iff.1 j)
 |some v=>exact UN ((p.map _).nodup_iff.2 g) (p.mem_iff.2 (UL h))
section
open Classical
theorem ZAd{k:Pl}:∀{l:yL (Pl×Pl)},(∀q,q∈l->q.1≠k)->(l.filter λq=>ag (q.1≠k))=l:=λh=>List.filter_eq_self.2 λq f=>yY (h q f)
theorem CH{k v:Pl}:∀{l m:yL (Pl×Pl)},(l.map (·.1)).Nodup->gz l k v m->m.Perm ((k,v)::l.filter λq=>ag (q.1≠k))
 |[],m,_,h=>by
  simp only[gz]at h
  grind
 |q::r,m,f,h=>by
  rw[yah,List.nodup_cons]at f;simp only[gz]at h;rcases h with⟨rfl,rfl⟩|⟨g,y,rfl,h⟩
  .rw[List.filter_cons_of_neg (by simp),ZAd (λx j e=>f.1 (by rw[<-e];exact ybw.2 ⟨_,j,rfl⟩))]
  .rw[List.filter_cons_of_pos (by simpa using λe:q.1=k=>g e.symm)];exact((CH f.2 h).cons q).trans (.swap _ _ _)
theorem UP(k v:Pl):∀(l:yL (Pl×Pl)),∃m,gz l k v m
 |[]=>⟨_,rfl⟩
 |q::r=>by
  by_cases h:k=q.1
  .exact⟨_,.inl ⟨h,rfl⟩⟩
  .obtain⟨m,f⟩:=UP k v r;exact⟨_,.inr ⟨h,m,rfl,f⟩⟩
theorem ZAe{k v:Pl}{l f m:yL (Pl×Pl)}(p:f.Perm l)(j:(l.map (·.1)).Nodup)(h:gz l k v m):(m.map (·.1)).Nodup/\∃m',gz f k v m'/\m'.Perm m:=by
 have g:=(p.map (·.1)).nodup_iff.2 j;obtain⟨m',y⟩:=UP k v f;have e:=CH j h;refine⟨(e.map _).nodup_iff.2 ?_,m',y,(CH g y).trans ((List.Perm.cons _ (p.filter _)).trans e.symm)⟩;grind
end
theorem UQ{P:yg}{σ:Sg}{f:yc}{k:Pl}{F:yL MapEntry->Nat->yO (Nat×yh)->Prop}(g:ez P σ f k F)(bS:yL (Pl×Pl))(es:yL MapEntry)(i:Nat)(r:yO Pl)(h:ku σ bS es)(m:jc P f bS)(y:Vi bS k r):
 (r=ad->F es i ad)/\∀v,r=ab v->∃(j:Nat)(u:yh),F es i (ab (j,u))/\yJ σ (.p v) u:=by
 obtain⟨l,p,z,A⟩:=h;exact UJ g l es i r A (λq E=>m q (p.mem_iff.1 E)) (ZAc p z y)
theorem ZIc{P:yg}{σ:Sg}{G:yc}{k v:Pl}{F:yL MapEntry->Nat->yO (Nat×yh)->Prop}(J:ez P σ G k F)(bS:yL (Pl×Pl))(es:yL MapEntry)(i:Nat)(l:yL (Pl×Pl))(h:ku σ bS es)(M:jc P G bS)(hp:gz bS k v l):
 (∃(j:Nat)(e:MapEntry),F es i (ab (i+j,e.val))/\es[j]? =ab e/\yJ σ (.p k) e.key/\∀f,yJ σ (.p k) f.key->yJ σ (.p v) f.val->ku σ l (es.set j f))\/
 (F es i ad/\∀f,yJ σ (.p k) f.key->yJ σ (.p v) f.val->ku σ l (es++[f])):=by
 obtain⟨Q,p,R,S⟩:=h;obtain⟨g,m,T,I⟩:=ZAe p R hp;rcases UK J Q es i m S (λq U=>M q (p.mem_iff.1 U)) T with⟨j,e,y,z,W,X⟩|⟨y,z⟩
 .exact .inl ⟨j,e,y,z,W,λf A E=>⟨m,I,g,X f A E⟩⟩
 .exact .inr ⟨y,λf A E=>⟨m,I,g,z f A E⟩⟩
theorem CI{P:yg}{σ:Sg}{j:yc}{k:Pl}{a:yh}(g:lZ P j=ae)(l:bv P 20 j k)(m:yJ σ (.p k) a):
 ∃F,ez P σ j k F/\∀es r,F es 0 r->(Instr.findKey j a es).run P σ.w=.ok r σ.w:=by
 unfold lZ at g;split at g
 .rename_i q f;exact⟨_,UI f (.inl ⟨_,rfl⟩) l m,λes r h=>Go.MapKept.run_findKey f h⟩
 .rename_i f;exact⟨_,UI f (.inr rfl) l m,λes r h=>Go.MapKept.run_findKey f h⟩
 .rename_i n e f;exact⟨_,UH l m,λes r h=>by rw[run_findKey_eq σ.w (by rw[f])];exact h⟩
 .rename_i y f;exact⟨_,UH l m,λes r h=>by rw[run_findKey_eq σ.w (by rw[f])];exact h⟩
 .cases g
theorem CJ{σ:Sg}{id:Nat}{v:yh}(h:yJ σ (.mp id) v):∃b,σ.m[id]? =ab (ab b)/\v=.map (ab b):=by
 rw[Zh rfl]at h;simp only[yH]at h;obtain⟨b,f,_,g⟩:=h;exact⟨b,f,by simpa using g⟩
theorem UR{σ:Sg}:∀(l:yL (Pl×Pl))(es:yL MapEntry),iG σ l es->es.length=l.length
 |[],[],_=>rfl
 |[],_::_,h=>h.elim
 |_::_,[],h=>h.elim
 |_::l,_::es,h=>by rw[yaf,yaf,UR l es h.2.2]
theorem ZEW{es:Array MapEntry}{g:Nat}(h:ni es g)(j:Nat){f:MapEntry->MapEntry}(M:∀e,(f e).born=e.born):ni (es.modify j f) g:=by
 have y:∀(q:Nat)l,(es.modify j f)[q]? =ab l->∃z,es[q]? =ab z/\l.born=z.born:=by
  intro q l m;rw[Array.getElem?_modify]at m;split at m
  .obtain⟨A,E,F⟩:=yv.1 m;exact⟨A,E,by rw[<-F,M]⟩
  .exact⟨l,m,rfl⟩
 refine⟨λq l m=> ?_,λq J l G m I Q=> ?_⟩
 .obtain⟨A,E,F⟩:=y q l m;rw[F];exact h.1 q A E
 .obtain⟨A,E,F⟩:=y q l m;obtain⟨R,S,T⟩:=y J G I;exact h.2 q J A R E S (by rw[<-F, <-T,Q])
theorem ZDi{es:Array MapEntry}{f:Nat}(h:ni es f){e:MapEntry}(he:e.born=f):ni (es.push e) (f+1):=by
 have l:∀(q:Nat)g,(es.push e)[q]? =ab g->(es[q]? =ab g/\g.born < f)\/(q=es.size/\g.born=f):=by
  intro q g j;rw[Array.getElem?_push]at j;split at j
  .rename_i F;cases j;exact .inr ⟨F,he⟩
  .exact .inl ⟨j,h.1 q g j⟩
 refine⟨λq g j=> ?_,λq A g m j z G=> ?_⟩
 .rcases l q g j with⟨_,y⟩|⟨_,y⟩ <;> omega
 .rcases l q g j with⟨y,I⟩|⟨y,I⟩ <;> rcases l A m z with⟨E,J⟩|⟨E,J⟩
  .exact h.2 q A g m y E G
  .omega
  .omega
  .omega
theorem rf{P:yg}{w:yr}{b:Nat}{es:Array MapEntry}{f:Nat}(h:w.heap[b]? =ab (.map es f)):(getObj b).run P w=.ok (.map es f) w:=Go.MapKept.run_getObj_map h
section
variable{P:yg}{o:yj}{a:Act}{σ:Sg}{ts:yL Dv}{hs hs':yL ao}{C:yL Prop}{d:Dv}{H':yL aq}
theorem US{σ:Sg}{x y:Dv}{u v:yh}(h1:yJ σ x u)(h2:yJ σ y v):yJ σ (.bp [x,y]) (.tuple #[u,v]):=by
 rw[Zh rfl];simp only[yH];exact⟨#[u,v],rfl,by simp only[aH];exact⟨u,[v],rfl,h1,v,[],rfl,h2,rfl⟩⟩
theorem ZEX(ok:Ok σ)(yM:aD σ ts a){t:yc}{x ix:yp}{f:Bool}(ho:o.op=.lookup t x ix f)(h:bH P o ts σ.H hs=ab (C,d,hs'))(hc:aX C):YL P o a σ d σ.H:=by
 simp only[bH,ho]at h;have hx:=Zq (P:=P) yM t x;split at h
 .rename_i M et id hu Q;rw[Q]at hx;obtain⟨b,hm,hv⟩:=CJ hx;have l:=Zq (P:=P) yM M ix;split at h
  .rename_i k t' bS v R S T;rw[S]at l;obtain⟨b',G,A,U,W,X,Y⟩:=ok.dF id _ _ T hm;cases U;split at h
   .rename_i m;cases h;obtain⟨I,Z,c3,_⟩:=hc;obtain⟨F,hF,zB⟩:=CI (P:=P) m I l;obtain⟨_,g2⟩:=UQ hF bS G.toList 0 _ X Z c3;obtain⟨j,u,g3,g4⟩:=g2 v rfl;have g5:=zB _ _ g3;have g6:=re (em:=G.isEmpty) 20 M k _ I l 9980
    have g:(Instr.lookup t (a.eval x) (a.eval ix) f).run P σ.w=.ok (if f then .tuple #[u,.bool ae] else u) σ.w:=by
     simp only[Instr.lookup,Sem.run_bind,run_underlying hu,Result.andThen_ok,hv,rf W,Sem.run_pure,g6,g5]
    refine Zk ok (by simp[execOp,ho,g];rfl) ?_;cases f
    .exact g4
    .exact US g4 (Yk _)
   .cases h
  .rename_i k t' bS R S T;rw[S]at l;obtain⟨b',G,A,U,W,X,Y⟩:=ok.dF id _ _ T hm;cases U;split at h
   .rename_i m;simp only[yi]at m;cases h;obtain⟨I,Z,c3,_⟩:=hc;obtain⟨F,hF,zB⟩:=CI (P:=P) m.1 I l;obtain⟨g1,_⟩:=UQ hF bS G.toList 0 _ X Z c3;have g5:=zB _ _ (g1 rfl);have g6:=re (em:=G.isEmpty) 20 M k _ I l 9980
    obtain⟨hz,y⟩:∃z,(zeroValue et).run P σ.w=.ok z σ.w/\yJ σ (bg P et) z:=by
     have J:=m.2;unfold BB at J;split at J
     .rename_i i hi
      cases E:i.zero with
      |none=>simp[E]at J
      |some z=>
       refine⟨z,by simp[zeroValue,typeInfo,hi,E], ?_⟩;unfold bg;rw[hi];simp only[E];exact ny
     .cases J
    have g:(Instr.lookup t (a.eval x) (a.eval ix) f).run P σ.w=.ok (if f then .tuple #[hz,.bool af] else hz) σ.w:=by
     simp only[Instr.lookup,Sem.run_bind,run_underlying hu,Result.andThen_ok,hv,rf W,Sem.run_pure,g6,g5,y.1]
    refine Zk ok (by simp[execOp,ho,g];rfl) ?_;cases f
    .exact y.2
    .exact US y.2 (Yk _)
   .cases h
  .cases h
 .cases h
theorem ZEY(ok:Ok σ)(z:aD σ ts a){c:Call}(ho:o.op=.call c)(l:c.callee=.builtin .len)(h:bH P o ts σ.H hs=ab (C,d,hs'))(hc:aX C):YL P o a σ d σ.H:=by
 simp only[bH,ho,l]at h;split at h
 .rename_i x t A f;have m:=Zq (P:=P) z t x;split at h
  .rename_i U W id E g;rw[g]at m;obtain⟨b,F,G⟩:=CJ m;split at h
   .rename_i X bS I;obtain⟨Y,y,j,J,M,Q,R⟩:=ok.dF id _ _ I F;cases J;cases h
    have S:y.toList.length=bS.length:=by
     obtain⟨Z,p,_,T⟩:=Q;rw[UR _ _ T,p.length_eq]
    refine Zk ok (nJ ho l A f (v:=goInt y.size) (by rw[G];simp[Builtin.len_,run_underlying E,rf M])) ?_;rw[<-yax,S];exact Zx _ _
   .cases h
  .cases h
 .cases h
theorem ZDj(ok:Ok σ){t:yc}(ho:o.op=.makeMap t ad):YL P o a σ (.mp σ.H.length) (σ.H++[.map t []]):=by
 let g:Sg:={ σ with m:=σ.m++[ab σ.w.heap.size],H:=σ.H++[.map t []],w:=σ.w.alloc (.map #[] 0)};have l:g.w.heap[σ.w.heap.size]? =ab (.map #[] 0):=heap_alloc_new σ.w _
 have f:g.m[σ.H.length]? =ab (ab σ.w.heap.size):=by
  show(σ.m++[ab σ.w.heap.size])[σ.H.length]? =_;rw[yaq (by rw[ok.len];exact ym _),ok.len];simp
 obtain⟨to,h⟩:=WD (σ':=g) ok rfl rfl rfl rfl (World.grownBy_alloc σ.w (.map #[] 0) ad) (.inr ⟨_,rfl,ym _,by simp[g]⟩)
  (λj=>⟨σ.w.heap.size, #[],0,rfl,l,⟨[],.refl _,List.nodup_nil,aw⟩,by simp[ni]⟩)
 refine ZM (σ':=g) (v:=.map (ab σ.w.heap.size)) ?_ to h ?_
 .have:(Instr.makeMap t ad).run P σ.w=.ok (.map (ab σ.w.heap.size)) (σ.w.alloc (.map #[] 0)):=rfl;simp[execOp,ho,this,g]
 .rw[Zh rfl];simp only[yH];exact⟨_,f,⟨t,[],by simp[g]⟩,rfl⟩
theorem UT(ok:Ok σ){id b:Nat}{t:yc}{bS l:yL (Pl×Pl)}{es es':Array MapEntry}{f clock':Nat}(hH:σ.H[id]? =ab (.map t bS))(hm:σ.m[id]? =ab (ab b))(hb:σ.w.heap[b]? =ab (.map es f))
 (hl:ku σ l es'.toList) (y:ni es' clock'):
 let σ':Sg:={ σ with m:=σ.m.set id (ab b),H:=σ.H.set id (.map t l),w:={ σ.w with heap:=σ.w.heap.setIfInBounds b (.map es' clock')}}
 To σ σ'/\Ok σ':=by
 intro σ';obtain⟨F,G⟩:=Go.MapKept.heap_set (w:=σ.w) (o':=.map es' clock') hb
 exact YN (σ':=σ') (mi:=ab b) (mi':=ab b) ok hH hm rfl rfl rfl rfl rfl rfl rfl (by simp[σ'])
  (λj M z=>G j (λI=>z (by rw[I]))) (λQ o v A E J=>by
    cases A;simp[World.cell?,hb]at J) (λo _ E=>by cases E) (.inl rfl) (λ⟨d,st,h⟩=>by cases h) (λ_=>⟨rfl,t,l,rfl⟩)
  (λs e R h=>by cases h) (λg=>⟨b,es',clock',rfl,F,SI g hl,y⟩)
theorem ZxT(ok:Ok σ)(X:aD σ ts a){t h Y:yc}{m k x:yp}{id:Nat}{t':yc}{G v:Pl}{bS l:yL (Pl×Pl)}(ho:o.op=.mapUpdate t m k x)(hu:P.underlying t=ab (.map h Y))
 (hx:aF P ts t m=.mp id) (hk:aF P ts h k=.p G) (hv:(aF P ts Y x).flat=ab v) (hH:σ.H[id]? =ab (.map t' bS)) (Z:lZ P h=ae) (T:bv P 20 h G) (c2:jc P h bS) (c3:gz bS G v.soft l):
 YL P o a σ .an (σ.H.set id (.map t' l)):=by
 have J:=Zq (P:=P) X t m;rw[hx]at J;obtain⟨b,hm,M⟩:=CJ J;have f:=Zq (P:=P) X h k;rw[hk]at f;have Q:=(Wk.p (mf v)).dv (BH hv (Zq (P:=P) X Y x));obtain⟨b',y,g,h1,I,h3,R⟩:=ok.dF id _ _ hH hm;cases h1;obtain⟨F,hF,zB⟩:=CI (P:=P) Z T f;have g6:=re (em:=af) 20 h G _ T f 9980;rcases ZIc hF bS y.toList 0 l h3 c2 c3 with⟨j,e,f1,f2,f3,f4⟩|⟨f1,f2⟩
 .have U:=zB _ _ f1;rw[yar]at U;have W:y[j]? =ab e:=by rw[<-yby];exact f2
  have z:e.key=a.eval k:=UD (qZ 20 h G T) f3 f
  have A:Instr.sameBits 10000 e.key (a.eval k)=ae:=by
   rw[z];exact ZDh (qZ 20 h G T) f
  have hes:(y.modify j λe=>{ e with key:=a.eval k,val:=a.eval x}).toList=y.toList.set j { e with key:=a.eval k,val:=a.eval x}:=by
   apply ybq;intro i;rw[yby,Array.getElem?_modify,ybx,yby];by_cases S:j=i
   .subst S;have hlt:j < y.toList.length:=by simpa using(yco.1 W).1
    simp[W,hlt];exact(yco.1 W).1
   .simp[S]
  obtain⟨to,E⟩:=UT (es':=y.modify j λe=>{ e with key:=a.eval k,val:=a.eval x}) (clock':=g) ok hH hm I (l:=l) (by rw[hes];exact f4 _ f Q) (ZEW R j λe=>rfl);refine qR ?_ to E;simp only[execOp,ho,M,Instr.mapUpdate,Sem.run_bind,run_underlying hu,Result.andThen_ok,rf I,g6,U,Instr.keyThatStays,W,Option.map_some,Option.getD_some,A,if_true,Sem.run_pure,Go.MapKept.run_setObj_map _ I]
 .have U:=zB _ _ f1;obtain⟨to,E⟩:=UT (es':=y.push { key:=a.eval k,val:=a.eval x,born:=g}) (clock':=g+1) ok hH hm I (l:=l) (by rw[Array.toList_push];exact f2 _ f Q) (ZDi R rfl);refine qR ?_ to E;simp only[execOp,ho,M,Instr.mapUpdate,Sem.run_bind,run_underlying hu,Result.andThen_ok,rf I,g6,U,Sem.run_pure,Go.MapKept.run_setObj_map _ I]
end
end Go.Ev
end
section
namespace Go.Ev
section
variable{P:yg}{o:yj}{a:Act}{σ:Sg}{ts:yL Dv}{hs hs':yL ao}{C:yL Prop}{d:Dv}{H':yL aq}
theorem CK{P:yg}{w:yr}{t e:yc}{i:TypeInfo}{z:yh}{n f:Int}(hu:P.underlying t=ab (.slice e))(hi:P.info? e=ab i)(hz:i.zero=ab z)(j:0<=n)(h1:n<=f)(h2:f.toNat*i.bytes<=Zt)(h3:f.toNat<=maxLen):
 ∃cells:Array yh,(Instr.makeSlice t (.int .i64 n) (.int .i64 f)).run P w=.ok (.slice (ab ⟨w.heap.size,0,ad⟩) n.toNat f.toNat) (w.alloc (.cells cells e))/\cells.size=f.toNat*i.size/\
  (i.size=1->∀k,k < f.toNat->cells[k]? =ab (z.cells[k % z.cells.size]!)):=by
 have y:∀m:Int,0<=m->m.toNat<=maxLen->IntKind.i64.wrap m=m:=λm a b=>by
  refine nA ?_;simp[maxLen]at b;simp[Wn,IntKind.min,IntKind.max,IntKind.signed,IntKind.bits];omega
 have g:=y n j (by omega);have h:=y f (by omega) h3
 have A:¬((281474976710656:Int) < (i.bytes:Int)*f):=by
  have e:(i.bytes:Int)*f=((f.toNat*i.bytes:Nat):Int):=by
   rw[Int.natCast_mul,Int.toNat_of_nonneg (by omega),Int.mul_comm]
  rw[e];simp only[Zt]at h2;omega
 have E:¬(f.toNat*i.bytes > roomBytes):=by
  simp only[Zt]at h2;simp only[roomBytes];omega
 by_cases l:f.toNat*i.size=0
 .refine⟨(Array.range (f.toNat*i.size)).map λ_=>default, ?_,by simp,λe k F=> ?_⟩
  .simp[Instr.makeSlice,run_underlying hu,asInt,asIntOf,typeInfo,hi,g,h,askRoom,E,sizeOf,l,newRow,j,show¬f < 0 by omega,show¬n < 0 by omega,show¬f < n by omega,A]
  .rw[e,Nat.mul_one]at l;omega
 .refine⟨(Array.range (f.toNat*i.size)).map (z.cells[· % z.cells.size]!), ?_,by simp,λe k F=> ?_⟩
  .simp[Instr.makeSlice,run_underlying hu,asInt,asIntOf,typeInfo,hi,g,h,askRoom,E,sizeOf,l,newRow,j,show¬f < 0 by omega,show¬n < 0 by omega,show¬f < n by omega,A,zeroValue,hz]
  .simp[e,F]
theorem ZDk(ok:Ok σ){t e:yc}{l c:yp}{i:TypeInfo}{n j:Int}(Q:aD σ ts a)(ho:o.op=.makeSlice t l c)(hu:P.underlying t=ab (.slice e))(hl:aF P ts 0 l=.p (.int .i64 n))(E:aF P ts 0 c=.p (.int .i64 j))
 (hi:P.info? e=ab i) (hz:cu i=ae) (T:i.size≠0) (U:n=0) (h1:0<=j) (h2:j.toNat*i.bytes<=Zt) (h3:j.toNat<=maxLen):
 YL P o a σ (.own σ.H.length (ab ae) i.size []) (σ.H++[.log i.size e []]):=by
 subst U;obtain⟨z,F,W⟩:=lu hz;obtain⟨cells,X,A,_⟩:=CK (w:=σ.w) (t:=t) hu hi F (Int.le_refl 0) h1 h2 h3;have G:=ZD (hl ▸ Zq (P:=P) Q 0 l);have I:=ZD (E ▸ Zq (P:=P) Q 0 c);let y:Sg:={ σ with m:=σ.m++[ab σ.w.heap.size],H:=σ.H++[.log i.size e []],w:=σ.w.alloc (.cells cells e)};have R:y.w.heap[σ.w.heap.size]? =ab (.cells cells e (0,0)):=heap_alloc_new σ.w _
 have g:y.m[σ.H.length]? =ab (ab σ.w.heap.size):=by
  show(σ.m++[ab σ.w.heap.size])[σ.H.length]? =_;rw[yaq (by rw[ok.len];exact ym _),ok.len];simp
 obtain⟨to,J⟩:=WD (σ':=y) ok rfl rfl rfl rfl (World.grownBy_alloc σ.w (.cells cells e) ad) (.inr ⟨_,rfl,ym _,by simp[y]⟩)
  (λS=>.inr ⟨σ.w.heap.size,cells,j.toNat,rfl,R,A,Nat.zero_le _,h3,λ_ M=>(by cases M),by simp[ar]⟩)
 refine ZM (σ':=y) (v:=.slice (ab ⟨σ.w.heap.size,0,ad⟩) 0 j.toNat) ?_ to J ?_
 .have f:=X;simp only[Int.toNat_zero]at f;simp[execOp,ho,G,I,f,y]
 .rw[Zh rfl];simp only[yH];refine⟨λ_ M=>(by cases M),ab ⟨σ.w.heap.size,0,ad⟩,j.toNat,rfl,Nat.zero_le _,h3, ?_,(λh=>by cases h),λh=>absurd rfl h,e,[],by simp[y],ym _,λ_=>.inr ?_⟩
  .simp[jb]
  .exact⟨σ.w.heap.size,cells,g,rfl,R,A⟩
theorem UU{w:yr}{S:Nat->Nat->Prop}{z:Pl}{v:yh}(h:aB w S z [v]):∀n,ar w S (yx n z) (yx n v)
 |0=>by simp[ar]
 |n+1=>by
  rw[List.replicate_succ,List.replicate_succ];simp only[ar];exact⟨[v],yx n v,rfl,h,UU h n⟩
theorem ZAg(ok:Ok σ){t e:yc}{l c:yp}{i:TypeInfo}{z:Pl}{n f:Int}(yM:aD σ ts a)(ho:o.op=.makeSlice t l c)(hu:P.underlying t=ab (.slice e))(hl:aF P ts 0 l=.p (.int .i64 n))(Q:aF P ts 0 c=.p (.int .i64 f))
 (hi:P.info? e=ab i) (hz:cu i=ae) (hs1:i.size=1) (hzp:bg P e=.p z) (R:z.size=1) (hza:z.isAgg=af) (h0:f=n) (h1:0<=n) (h2:n.toNat*i.bytes<=Zt) (h3:n.toNat<=maxLen):
 YL P o a σ (.view σ.H.length 0 [] 1 0 n.toNat) (σ.H++[.var (.p (.arr n.toNat 1 (yx n.toNat z))) ae]):=by
 subst h0;obtain⟨E,I,S⟩:=lu hz;obtain⟨cells,zB,T,U⟩:=CK (w:=σ.w) (t:=t) hu hi I h1 (Int.le_refl f) h2 h3;have W:=ZD (hl ▸ Zq (P:=P) yM 0 l);have X:=ZD (Q ▸ Zq (P:=P) yM 0 c)
 have F:yJ σ (bg P e) E:=by
  unfold bg;rw[hi];simp only[I];exact ny
 rw[hzp]at F;have F:=Vj (d:=.p z) rfl F
 obtain⟨G,J⟩:∃G,E.cells.toList=[G]:=by
  have h9:E.cells.toList.length=1:=by rw[yax,S,hs1]
  match hq:E.cells.toList,h9 with
  |[G],_=>exact⟨G,rfl⟩
 rw[J]at F;have Y:E.cells= #[G]:=by rw[<-ycf (xs:=E.cells),J]
 have g:cells.toList=yx f.toNat G:=by
  apply ybq;intro k;rw[yby,List.getElem?_replicate];by_cases Z:k < f.toNat
  .rw[U hs1 k Z,yW Z,Y];simp[Nat.mod_one]
  .rw[yX Z];refine Array.getElem?_eq_none ?_;rw[T,hs1];omega
 let j:Sg:={ σ with m:=σ.m++[ab σ.w.heap.size],H:=σ.H++[.var (.p (.arr f.toNat 1 (yx f.toNat z))) ae],w:=σ.w.alloc (.cells cells e)};have zV:j.w.heap[σ.w.heap.size]? =ab (.cells cells e (0,0)):=heap_alloc_new σ.w _
 have h:j.m[σ.H.length]? =ab (ab σ.w.heap.size):=by
  show(σ.m++[ab σ.w.heap.size])[σ.H.length]? =_;rw[yaq (by rw[ok.len];exact ym _),ok.len];simp
 have hcl:cells.toList.length=f.toNat:=by rw[g];simp
 obtain⟨to,ok'⟩:=WD (σ':=j) ok rfl rfl rfl rfl (World.grownBy_alloc σ.w (.cells cells e) ad) (.inr ⟨_,rfl,ym _,by simp[j]⟩)
  (λM=>⟨σ.w.heap.size,cells,e,rfl,zV,by
    have A:Dv.size (.p (.arr f.toNat 1 (yx f.toNat z)))=f.toNat:=by show f.toNat*1=_;omega
    rw[A,ycc (by omega)];refine Yg M _ _ ?_;simp only[yH,aB];refine⟨by simp,λy hy=>by rw[(List.mem_replicate.1 hy).2];exact R, ?_⟩;rw[g];simp only[yH]at F;exact UU F _,by
    have A:Dv.size (.p (.arr f.toNat 1 (yx f.toNat z)))=f.toNat:=by show f.toNat*1=_;omega
    rw[A, <-yax,hcl];exact ym _⟩)
 refine ZM (σ':=j) (v:=.slice (ab ⟨σ.w.heap.size,0,ad⟩) f.toNat f.toNat) ?_ to ok' ?_
 .simp[execOp,ho,W,X,zB,j]
 .rw[Zh rfl];simp only[yH];exact⟨σ.w.heap.size,f.toNat,_,h,⟨.p (.arr f.toNat 1 (yx f.toNat z)),ae,by simp[j]⟩,rfl,ym _,h3,λ_=>by simp⟩
theorem UV(ok:Ok σ)(yM:aD σ ts a){t:yc}{x:yp}(ho:∀w,(execOp a.eval o).run P w=.ok (.value (a.eval x)) w)(h:jB (aF P ts t x) σ.H hs=ab (C,d,H',hs'))(hc:aX C):YL P o a σ d H':=by
 have Q:=Zq (P:=P) yM t x;unfold jB at h;split at h
 .rename_i id off yQ s lo n hx;rw[hx]at Q;obtain⟨b,c,A,Y,hv,Z,F,hcm,hA⟩:=nG Q;split at h
  .rename_i dd st R;split at h
   .rename_i C1 off' n' s' f hs1 hg;split at h
    .rename_i hs0;subst hs0;cases h;obtain⟨c1,c2,c3,_⟩:=Zl.1 hc;obtain⟨cs,t',p1,p2,p3,h2,h4,h5,h6,h7,h3,h8⟩:=uW ok Y R hg c1 c2;simp only[yH,aB]at h7;obtain⟨h9,h10,h11⟩:=h7;subst h9;let E:Sg:={ σ with m:=σ.m.set id (ab b),H:=σ.H.set id (.var dd af)};have g:E.m[id]? =ab (ab b):=ak Y;have l:E.H[id]? =ab (.var dd af):=ak R
     obtain⟨to,G⟩:=YN (σ':=E) (mi:=ab b) (mi':=ab b) ok R Y rfl rfl rfl rfl rfl rfl rfl (ym _)
      (λ_ _ _=>rfl) (λ_ _ _ _ _ h=>h) (λo _ M=>rfl) (.inl rfl) (λ_=>⟨rfl,dd,af,rfl⟩) (λ⟨d,st,h⟩=>by cases h)
      (λs e f h=>by cases h) (λI=>⟨b,cs,t',rfl,h2,Yg I dd _ h3,h4⟩)
     have S:Ww E.w E.bf b off p2:=λj u M=>by
      refine⟨h8 j u M,.inr (ok.own id b Y),λj' e' g1 g2=> ?_⟩;have:j'=id:=G.inj j' id _ g1 g;subst this;rw[l]at g2;cases g2;rfl
     have X:=aE to.leaf.cells _ _ h11
     have T:f=f.take lo++((f.drop lo).take n++f.drop (lo+n)):=by
      have e1:f.drop (lo+n)=(f.drop lo).drop n:=by rw[List.drop_drop]
      rw[e1,ybb,ybb]
     have zW:((f.drop lo).take n).length=n:=by rw[yaa,yaz];omega
     have hsub:aW s' ((f.drop lo).take n):=λz hz=>h10 z (ycq (ybs hz));have hr2:=ZM (P:=P) (o:=o) (a:=a) (σ:=σ) (σ':=E) (v:=a.eval x) (d:=.p (.sl (ab ae) s' ((f.drop lo).take n))) (ho σ.w) to G;refine hr2 ?_;rw[Z]
     have J:=Yy (σ:=E) (nn:=ab ae) (A:=ab A) (c:=c) hsub (by rw[zW];exact F) hcm (QT rfl) (λh=>by cases h) (λhne=>by
      have hn:0 < n:=by
       rcases yct n with h0|h0
       .subst h0;simp at hne
       .exact h0
      rw[T]at X;obtain⟨q1,q23,e1,r1,r23⟩:=Z8 X;obtain⟨q2,q3,e2,r2,r3⟩:=Z8 r23
      have l1:q1.length=lo*s':=by
       rw[aL _ _ r1,aN (λz hz=>h10 z (ybs hz)),yaa,yay (by omega)]
      refine⟨b,off+lo*s',q2,by rw[hA hn],r2,λj u M=> ?_⟩
      have hj:p2[lo*s'+j]? =ab u:=by
       rw[e1,yaq (by omega),l1,Nat.add_sub_cancel_left,e2,ybe (yu.1 M).1];exact M
      have:=S (lo*s'+j) u hj
      rwa [<-Nat.add_assoc]at this)
     rw[zW]at J;exact J
    .cases h
   .cases h
  .cases h
 .rename_i id v s lo n hx;rw[hx]at Q;split at h
  .rename_i v' s' st e N y f R;split at h
   .rename_i hk;simp only[yi,yP,yT]at hk;obtain⟨⟨rfl,rfl⟩,hv⟩:=hk;subst hv;cases h;obtain⟨A,c,Z,F,hcm,hA,hsy,ly,q,hr,lq,hq⟩:=qW ok Q R rfl hc.1;have hidlt:id < σ.m.length:=by rw[ok.len];exact(yu.1 R).1
    have U:σ.m[id]? =ab σ.m[id]:=yab hidlt;let E:Sg:={ σ with m:=σ.m.set id σ.m[id],H:=σ.H.set id (.row v' y af e (.p (.arr N y f)))};have g:E.m[id]? =ab σ.m[id]:=ak U;have l:E.H[id]? =ab (.row v' y af e (.p (.arr N y f))):=ak R
    obtain⟨to,G⟩:=YN (σ':=E) (mi:=σ.m[id]) (mi':=σ.m[id]) ok R U rfl rfl rfl rfl rfl rfl rfl (ym _)
     (λ_ _ _=>rfl) (λ_ _ _ _ _ h=>h) (λo _ M=>⟨rfl,M.2⟩) (.inl rfl) (λ⟨d,st,h⟩=>by cases h) (λ⟨d,st,h⟩=>by cases h)
     (λs e f h=>by cases h) (λI=>by
       obtain⟨N',h1,h2⟩:=ok.dF id _ _ R U;refine⟨N',h1, ?_⟩;rcases h2 with h2|⟨b,W,cap,g1,g2,g3,g4,g5,g6⟩
       .exact .inl h2
       .exact .inr ⟨b,W,cap,g1,g2,g3,g4,g5,Yg I _ _ g6⟩)
     (λv s st e d h=>by cases h;exact⟨v',af,_,rfl,ym _,λ_=>⟨rfl,λb W _ hb=>⟨W,hb,rfl⟩⟩⟩)
    refine ZM (P:=P) (o:=o) (a:=a) (σ:=σ) (σ':=E) (v:=a.eval x) (d:=.p (.sl ad y ((f.drop lo).take n))) (ho σ.w) to G ?_;rw[Z]
    have J:=Yy (σ:=E) (nn:=ad) (A:=A) (c:=c) hsy (by rw[ly];exact F) hcm (Ym _) hA (λhne=>by
     have hn:0 < n:=by
      rcases yct n with h0|h0
      .subst h0;simp at hne
      .exact h0
     obtain⟨b,W,cap,rfl,Y,hb,hcs,hcell⟩:=hq hn;refine⟨b,_,q,rfl,aE to.leaf.cells _ _ hr,λj u M=>⟨hcell j u M,.inr (ok.own id b Y),λj' e' g1 g2=> ?_⟩⟩;have:j'=id:=G.inj j' id b g1 (by rw[g, <-U];exact Y);subst this;rw[l]at g2;cases g2;refine⟨rfl,N,yW rfl, ?_⟩;have h1:=(yu.1 M).1;have h2:(lo+n)*y<=N*y:=ycb _ hc.1;rw[lq]at h1;rw[yba]at h2;omega)
    rw[ly]at J;exact J
   .cases h
  .cases h
 .cases h
end
end Go.Ev
end
section
namespace Go.Ev
theorem vi{σ:Sg}{x y:Dv}(j:∀a,yH σ x a->yH σ y a):∀(f:yL Dv)(k:Nat)(us:yL yh),f[k]? =ab x->aM σ f us->aM σ (f.set k y) us
 |[],_,_,h,_=>by simp at h
 |z::f,0,us,h,g=>by
  simp only[yam,yn]at h;subst h;simp only[aM,List.set_cons_zero]at g ⊢
  grind
 |z::f,k+1,us,h,g=>by
  simp only[yak]at h;simp only[aM,List.set_cons_succ]at g ⊢;obtain⟨a,b,l,m,A⟩:=g;exact⟨a,b,l,m,vi j f k b h A⟩
theorem UW{f:yL Dv}{k:Nat}{x y:Dv}(h:f[k]? =ab x)(hs:y.size=x.size):Dv.sizes (f.set k y)=Dv.sizes f:=by
 induction f generalizing k with
 |nil=>simp at h
 |cons z f g=>
  cases k with
  |zero=>
   simp only[yam,yn]at h;subst h
   simp only[List.set_cons_zero,Dv.sizes,hs]
  |succ k=>
   simp only[yak]at h;simp only[List.set_cons_succ,Dv.sizes,g h]
theorem UX:∀(xs:yL Pl),Dv.sizes (xs.map .p)=Pl.sizes xs
 |[]=>rfl
 |x::xs=>by simp only[yah,Dv.sizes,Pl.sizes,UX xs];rfl
theorem UY{d d':Dv}{s:Nat}{new:Dv}(h:Xr d [] s new=ab d'):d=.p (.sl (ab af) s [])/\d'=new:=by
 unfold Xr at h
 all_goals grind
theorem UZ{d d':Dv}{i:Nat}{r:yL Nat}{s:Nat}{new:Dv}(h:Xr d (i::r) s new=ab d'):
 (∃xs x y,d=.p (.agg xs)/\xs[i]? =ab x/\Xr (.p x) r s new=ab y/\d'=.agg ((xs.map Dv.p).set i y))\/∃xs x y,d=.agg xs/\xs[i]? =ab x/\Xr x r s new=ab y/\d'=.agg (xs.set i y):=by
 cases d with
 |p q=>
  cases q with
  |agg xs=>
   simp only[Xr]at h
   cases f:xs[i]? with
   |none=>simp[f]at h
   |some x=>
    simp only[f]at h;obtain⟨y,g,rfl⟩:=yv.1 h
    exact .inl ⟨xs,x,y,rfl,f,g,rfl⟩
  |_=>simp[Xr]at h
 |agg xs=>
  simp only[Xr]at h
  cases f:xs[i]? with
  |none=>simp[f]at h
  |some x=>
   simp only[f]at h;obtain⟨y,g,rfl⟩:=yv.1 h
   exact .inr ⟨xs,x,y,rfl,f,g,rfl⟩
 |_=>simp[Xr]at h
theorem rg:∀(yQ:yL Nat)(d d':Dv)(s:Nat)(new:Dv),new.size=1->Xr d yQ s new=ab d'->d'.size=d.size
 |[],d,d',s,new,f,h=>by
  obtain⟨rfl,rfl⟩:=UY h;rw[f]
  rfl
 |i::r,d,d',s,new,f,h=>by
  rcases UZ h with⟨m,x,y,rfl,g,j,rfl⟩|⟨m,x,y,rfl,g,j,rfl⟩
  .have:=rg r (.p x) y s new f j;have l:(m.map Dv.p)[i]? =ab (.p x):=by rw[yao,g];rfl
   simp only[Dv.size];rw[UW l this,UX];rfl
  .simp only[Dv.size];exact UW g (rg r x y s new f j)
theorem rh{σ:Sg}:∀(yQ:yL Nat)(d d':Dv)(s:Nat)(new:Dv),(∀a,yH σ (.p (.sl (ab af) s [])) a->yH σ new a)->Xr d yQ s new=ab d'->∀us,yH σ d us->yH σ d' us
 |[],d,d',s,new,g,h,us,f=>by
  obtain⟨rfl,rfl⟩:=UY h
  exact g us f
 |i::r,d,d',s,new,g,h,us,f=>by
  rcases UZ h with⟨z,x,y,rfl,j,l,rfl⟩|⟨z,x,y,rfl,j,l,rfl⟩
  .have m:(z.map Dv.p)[i]? =ab (.p x):=by rw[yao,j];rfl
   simp only[yH,aB]at f ⊢;exact vi (rh r (.p x) y s new g l) _ i us m (jC.2 f)
  .simp only[yH]at f ⊢;exact vi (rh r x y s new g l) _ i us j f
theorem ZAh{σ:Sg}(ok:Ok σ){j s:Nat}{e:yc}{d d':Dv}{st:Bool}{yQ:yL Nat}(R:σ.H[j]? =ab (.var d st))(S:Xr d yQ s (.own σ.H.length ad s [])=ab d'):
 ∃g:Sg,g.H=(σ.H++[aq.log s e []]).set j (.var d' st)/\g.w=σ.w/\To σ g/\Ok g:=by
 obtain⟨l,E⟩:=WD (σ':={ σ with m:=σ.m++[ad],H:=σ.H++[.log s e []]}) ok rfl rfl rfl rfl (World.grownBy.refl σ.w ad) (.inl rfl) (λ_=>.inl ⟨rfl,rfl⟩);have F:j < σ.H.length:=(yu.1 R).1
 obtain⟨T,W⟩:∃T,σ.m[j]? =ab T:=by
  have:j < σ.m.length:=by rw[ok.len];exact F
  simp_all
 obtain⟨b,X,t,rfl,Y,Z,q4⟩:=ok.dF j _ _ R W;let f:Sg:={ σ with m:=σ.m++[ad],H:=σ.H++[.log s e []]};let g:Sg:={ f with m:=f.m.set j (ab b),H:=f.H.set j (.var d' st)}
 have G:f.H[j]? =ab (.var d st):=by
  grind
 have I:f.m[j]? =ab (ab b):=by
  grind
 have y:=rg yQ d d' s _ rfl S
 obtain⟨J,M⟩:=YN (σ':=g) (mi:=ab b) (mi':=ab b) E G I rfl rfl rfl rfl rfl rfl rfl (ym _)
  (λ_ _ _=>rfl) (λ_ _ _ _ _ h=>h) (λo _ hu=>hu) (.inl rfl) (λ_=>⟨rfl,_,_,rfl⟩) (λ⟨_,_,Q⟩=>by cases Q) (λ_ _ _ Q=>by cases Q)
  (λz=>by
    refine⟨b,X,t,rfl,Y, ?_,by rw[y];exact q4⟩;rw[y];refine rh yQ d d' s _ (λa U=> ?_) S _ (Yg (l.leaf.trans z) _ _ Z);simp only[yH,aB]at U ⊢;obtain⟨_,A,c,rfl,w1,w2,w3,w4,w5⟩:=U
    have hA:A=ad:=by
     have:=w3 af rfl;simp_all
    subst hA;have hc:=w4 rfl;subst hc;refine⟨λ_ hx=>(by cases hx),ad,0,rfl,ym _,by simp[maxLen],Ym _,λ_=>rfl,λh=>absurd rfl h,e,[], ?_,ym _,λ_=>.inl ⟨?_,rfl,rfl⟩⟩
    .show(f.H.set j _)[σ.H.length]? =_;rw[ybx,yX (by omega)];simp[f]
    .show(f.m.set j _)[σ.H.length]? =_;rw[ybx,yX (by omega)];show(σ.m++[ad])[σ.H.length]? =_;rw[yaq (by rw[ok.len];exact ym _),ok.len];simp)
 exact⟨g,rfl,rfl,l.trans J,M⟩
theorem CL:∀(hs:yL ao)(d:Dv)(H0 L:yL aq){σ:Sg},Ok σ->σ.H=H0++.var d ae::L->∃f:Sg,f.H=H0++.var (Yx d (H0.length+1+L.length) hs).1 ae::(L++(Yx d (H0.length+1+L.length) hs).2.1)/\f.w=σ.w/\To σ f/\Ok f
 |[],d,H0,L,σ,g,h=>⟨σ,by simp[Yx,h],rfl,To.refl σ,g⟩
 |x::hs,d,H0,L,σ,g,h=>by
  have base:Yx d (H0.length+1+L.length) (x::hs)=(d,[],x::hs)->∃f:Sg,f.H=H0++.var (Yx d (H0.length+1+L.length) (x::hs)).1 ae::(L++(Yx d (H0.length+1+L.length) (x::hs)).2.1)/\f.w=σ.w/\To σ f/\Ok f:=λe=>by
   rw[e];exact⟨σ,by simp[h],rfl,To.refl σ,g⟩
  cases x with
  |cq z s e=>
   cases l:Xr d z s (.own (H0.length+1+L.length) ad s []) with
   |none=>exact base (by simp[Yx,l])
   |some m=>
    have A:σ.H.length=H0.length+1+L.length:=by rw[h];simp;omega
    obtain⟨E,I,F,G,e4⟩:=ZAh (e:=e) g (j:=H0.length) (s:=s) (d:=d) (d':=m) (st:=ae) (yQ:=z) (by rw[h];simp) (by rw[A];exact l)
    have y:E.H=H0++.var m ae::(L++[aq.log s e []]):=by
     grind
    obtain⟨f,f1,f2,f3,f4⟩:=CL hs m H0 (L++[aq.log s e []]) e4 y;refine⟨f, ?_,by rw[f2,F],G.trans f3,f4⟩;rw[f1];simp only[Yx,l,yl,yaf,ycn]
    simp[Nat.add_assoc]
  |_=>exact base (by simp[Yx])
theorem Zuu{P:yg}{o:yj}{a:Act}{σ:Sg}{d:Dv}{H1 H2:yL aq}(h:YL P o a σ d H1)(k:∀f:Sg,f.H=H1->Ok f->∃g:Sg,g.H=H2/\g.w=f.w/\To f g/\Ok g):YL P o a σ d H2:=by
 intro K Q m;refine h K Q λv f y j l z=> ?_;obtain⟨g,f1,f2,f3,f4⟩:=k f y l;rw[<-f2];exact m v g f1 (j.trans f3) f4 (Vo f3.leaf z)
theorem Zpf{P:yg}{o:yj}{a:Act}{σ:Sg}{d dd:Dv}{H:yL aq}(h:YL P o a σ d (H++[.var dd ae]))(hs:yL ao):YL P o a σ d (H++.var (Yx dd (H.length+1) hs).1 ae::(Yx dd (H.length+1) hs).2.1):=by
 refine Zuu h λj g f=> ?_;obtain⟨l,f1,f2,f3,f4⟩:=CL hs dd H [] f g;grind
theorem ZvM{P:yg}{o:yj}{a:Act}{σ:Sg}{d dd:Dv}{H:yL aq}{id:Nat}{x:aq}(h:YL P o a σ d (H.set id (.var dd ae)))(hid:H[id]? =ab x)(hs:yL ao):YL P o a σ d (H.set id (.var (Yx dd H.length hs).1 ae)++(Yx dd H.length hs).2.1):=by
 have f:id < H.length:=(yu.1 hid).1;have e:∀v:aq,H.set id v=H.take id++v::H.drop (id+1):=λv=>List.set_eq_take_append_cons_drop.trans (yW f);refine Zuu h λl j g=> ?_;rw[e]at j;obtain⟨m,f1,f2,f3,f4⟩:=CL hs dd (H.take id) (H.drop (id+1)) g j;grind
end Go.Ev
end
section
namespace Go.Ev
section
variable{P:yg}{o:yj}{a:Act}{σ:Sg}{ts:yL Dv}{hs hs':yL ao}{C:yL Prop}{d:Dv}{H':yL aq}
theorem ZxV(ok:Ok σ)(yM:aD σ ts a){t:yc}{x y:yp}{id v Y s off:Nat}{yQ:yL Nat}{e:yc}{dd sub new dd':Dv}{C1:yL Prop}{off':Nat}(ho:o.op=.store t x y)(hx:aF P ts 0 x=.aZ id v off yQ)
 (hH:σ.H[id]? =ab (.row Y s ae e dd)) (hv:Y=v) (hg:Yd dd yQ hs=ab (C1,off',sub,hs')) (hc:aX C1) (he:off'=off) (hn:jf yQ dd (aF P ts t y)=ab new) (hp:Wi new dd yQ hs=ab dd')
 (A:new.bF=ae) (hsz:new.size=sub.size) (ht:P.cellsOf t=new.size) (hi:(P.info? t).isSome=ae) (Z:aR dd' s=aR dd s):YL P o a σ .an (σ.H.set id (.row v s ae e dd')):=by
 subst he;subst hv;have z:=Zq (P:=P) yM 0 x;have hyv:=TL hn (Zq (P:=P) yM t y);rw[hx]at z;obtain⟨b,z,hm⟩:=TI z hH rfl;obtain⟨N,hN,M⟩:=ok.dF id _ _ hH hm;rcases M with⟨h1,_⟩|⟨b',G,cap,h1,h2,Q,R,hcm,h3⟩
 .cases h1
 cases h1;have g:=TH hN;rw[<-g]at h3;have h4:dd.size<=G.size:=by rw[g,Q];exact ycb _ R
 obtain⟨p1,p2,p3,h5,h6,h7,h8⟩:=QY yQ dd hs hs' C1 off' sub _ hg hc h3;have f:=Vj A hyv;obtain⟨h9,h10⟩:=h8 new dd' _ hp hsz f;have S:(a.eval y).cells.toList.length=new.size:=XC _ _ f;have hl2:p2.length=sub.size:=XC _ _ h7;have hll:(a.eval y).cells.toList.length=p2.length:=by rw[S,hl2,hsz]
 obtain⟨k1,k2⟩:=pf h5 hll h4;rw[h6]at k1 k2
 have hnl:off'+(a.eval y).cells.toList.length<=G.size:=by
  have:=congrArg List.length h5;grind
 have T:∀u,u∈(a.eval y).cells.toList->u.oneCell'=ae:=qM new _ A f;have U:=run_storeCells_at P b off' e (a.eval y).cells.toList 0 G σ.w h2 (by simpa using hnl) T;simp only[Nat.add_zero]at U;let l:Array yh:=(G.toList.take off'++(a.eval y).cells.toList++G.toList.drop (off'+(a.eval y).cells.toList.length)).toArray;let J:Sg:={ σ with m:=σ.m.set id (ab b),H:=σ.H.set id (.row Y s ae e dd'),w:=σ.w.setRow b l};have E:l.size=G.size:=k2;have zV:J.w.heap[b]? =ab (.cells l e (0,0)):=setRow_heap σ.w b G _ e _ h2;have W:∀j,b≠j->J.w.heap[j]? =σ.w.heap[j]? :=λj hj=>setRow_other σ.w b j _ (Ne.symm hj)
 obtain⟨to,ok'⟩:=YN (σ':=J) (mi:=ab b) (mi':=ab b) ok hH hm rfl rfl rfl rfl rfl rfl rfl (by simp[J])
  (λj hj hne=>W j (λhh=>hne (by rw[hh]))) (λb' o v _ hu _=>by cases hu.1) (λo _ hu=>by cases hu.1) (.inl rfl) (λ⟨d,st,h⟩=>by cases h) (λ⟨d,st,h⟩=>by cases h)
  (λs e xs h=>by cases h) (λX=>⟨N,by rw[Z];exact hN,.inr ⟨b,l,cap,rfl,zV,by rw[E];exact Q,R,hcm,by
    rw[<-g];show yH J dd' (l.toList.take dd.size);rw[show l.toList.take dd.size=p1++((a.eval y).cells.toList++p3) from k1]
    exact Yg X dd' _ h9⟩⟩)
  (λv s st e2 d h=>by cases h;exact⟨Y,ae,_,rfl,ym _,λ_=>⟨rfl,λb2 cur hb2 F=>by
    cases hb2;rw[h2]at F;cases F;exact⟨l,zV,E⟩⟩⟩)
 refine qR (σ':=J) ?_ to ok'
 cases I:P.info? t with
 |none=>simp[I]at hi
 |some i=>
  have hs:(a.eval y).cells.size=i.size:=by
   rw[<-yax,S, <-ht];simp[Program.cellsOf,I]
  simp only[execOp,ho,z,Instr.storeAt,Instr.sureAddr,storeVar,sizeOf,typeInfo,Sem.run_bind,run_program,Result.andThen_ok,I,Sem.run_pure,hs,ne_eq,not_true,if_false,U];rfl
theorem CM(ok:Ok σ){s:Nat}{e:yc}{dd:Dv}{N n cap:Nat}{cells:Array yh}{w':yr}{v:yh}(F:σ.w.grownBy w' ad)(E:w'.heap[σ.w.heap.size]? =ab (.cells cells e (0,0)))(hcs:cells.size=cap*s)(y:σ.w.heap.size < w'.heap.size)
 (G:aR dd s=ab N) (z:N<=cap) (g:cap<=maxLen) (hn:n<=N) (I:yH σ dd (cells.toList.take (N*s))) (J:(execOp a.eval o).run P σ.w=.ok (.value (.slice (ab ⟨σ.w.heap.size,0,ad⟩) n cap)) w'):
 YL P o a σ (.rv σ.H.length 0 s 0 n) (σ.H++[.row 0 s ae e dd]):=by
 let l:Sg:={ σ with m:=σ.m++[ab σ.w.heap.size],H:=σ.H++[.row 0 s ae e dd],w:=w'}
 have f:l.m[σ.H.length]? =ab (ab σ.w.heap.size):=by
  show(σ.m++[ab σ.w.heap.size])[σ.H.length]? =_;rw[yaq (by rw[ok.len];exact ym _),ok.len];simp
 obtain⟨to,A⟩:=WD (σ':=l) ok rfl rfl rfl rfl F (.inr ⟨_,rfl,ym _,y⟩)
  (λj=>⟨N,G,.inr ⟨σ.w.heap.size,cells,cap,rfl,E,hcs,z,g,Yg j _ _ I⟩⟩)
 refine ZM (σ':=l) J to A ?_;rw[Zh rfl];simp only[yH];refine⟨_,_,rfl,by omega,g,λh=>(by cases h),λ_=>⟨_,_,rfl⟩,0,s,ae,e,dd,by simp[l],ym _,λ_=>⟨rfl,.inr ⟨σ.w.heap.size,cells,f,E,by rw[hcs,yar],λ_=>by simp⟩⟩⟩
theorem ZDl(ok:Ok σ){t e:yc}{l c:yp}{i:TypeInfo}{n g:Int}(E:aD σ ts a)(ho:o.op=.makeSlice t l c)(hu:P.underlying t=ab (.slice e))(hl:aF P ts 0 l=.p (.int .i64 n))(h:aF P ts 0 c=.p (.int .i64 g))
 (hi:P.info? e=ab i) (hz:cu i=ae) (F:n=0) (h1:0<=g) (h2:g.toNat*i.bytes<=Zt) (h3:g.toNat<=maxLen):
 YL P o a σ (.rv σ.H.length 0 i.size 0 0) (σ.H++[.row 0 i.size ae e (.p (.arr 0 i.size []))]):=by
 subst F;obtain⟨z,j,G⟩:=lu hz;obtain⟨cells,I,m,_⟩:=CK (w:=σ.w) (t:=t) hu hi j (Int.le_refl 0) h1 h2 h3;have y:=ZD (hl ▸ Zq (P:=P) E 0 l);have A:=ZD (h ▸ Zq (P:=P) E 0 c);refine CM (N:=0) (cap:=g.toNat) (w':=σ.w.alloc (.cells cells e)) (v:=.bool ae) ok (World.grownBy_alloc σ.w (.cells cells e) ad) (heap_alloc_new σ.w _) m (by simp) (by simp[aR]) (Nat.zero_le _) h3 (ym _) ?_ ?_
 .simp[yH,aB,ar];intro x J;cases J
 .have f:=I;simp only[Int.toNat_zero]at f;simp[execOp,ho,y,A,f]
theorem ZDm(ok:Ok σ)(j:aD σ ts a){t e:yc}{i:TypeInfo}{len:Nat}{parts:Array (Nat×yp)}{xs:yL Pl}(ho:o.op=.buildSlice t len parts)(hu:P.underlying t=ab (.slice e))
 (hi:P.info? e=ab i) (hz:cu i=ae) (g:i.size≠0) (hsz:len*i.size<=16777216) (hl:XI P ts e (P.cellsOf e) len parts.toList=ab xs):
 YL P o a σ (.rv σ.H.length 0 i.size 0 len) (σ.H++[.row 0 i.size ae e (.p (.arr len i.size (xs.map Pl.soft)))]):=by
 obtain⟨cells,l,m,z,A,f⟩:=qP (P:=P) j hu hi hz hsz hl
 have h:len<=maxLen:=by
  have:=Nat.le_mul_of_pos_right len (Nat.pos_of_ne_zero g);simp only[maxLen];omega
 refine CM (N:=len) (cap:=len) (w':=σ.w.alloc (.cells cells e)) (v:=.bool ae) ok (World.grownBy_alloc σ.w (.cells cells e) ad) (heap_alloc_new σ.w _) f (by simp) (by simp[aR]) (ym _) h (ym _) ?_ (qO ho l);rw[<-f, <-yax,List.take_length];simp only[yH,aB];refine⟨by rw[yad];exact z,λy E=> ?_, ?_⟩
 .obtain⟨x,F,rfl⟩:=ybw.1 E;rw[BM];exact A x F
 .rw[<-Pl.cK];exact(cN xs).dq _ _ _ m
theorem ZAi(ok:Ok σ)(S:aD σ ts a){t e:yc}{i:TypeInfo}{len id v:Nat}{st:Bool}{dd:Dv}{parts:Array (Nat×yp)}{xs:yL Pl}(ho:o.op=.buildSlice t len parts)(hu:P.underlying t=ab (.slice e))
 (hi:P.info? e=ab i) (hz:cu i=ae) (I:i.size≠0) (hsz:len*i.size<=16777216) (hl:XI P ts e (P.cellsOf e) len parts.toList=ab xs) (hH:σ.H[id]? =ab (.row v i.size st e dd)):
 YL P o a σ (.rv id (v+1) i.size 0 len) (σ.H.set id (.row (v+1) i.size ae e (.p (.arr len i.size (xs.map Pl.soft))))):=by
 obtain⟨cells,T,U,W,X,g⟩:=qP (P:=P) S hu hi hz hsz hl
 have A:len<=maxLen:=by
  have:=Nat.le_mul_of_pos_right len (Nat.pos_of_ne_zero I);simp only[maxLen];omega
 have J:id < σ.m.length:=by rw[ok.len];exact(yu.1 hH).1
 have F:σ.m[id]? =ab σ.m[id]:=yab J;let z:Sg:={ σ with m:=σ.m.set id (ab σ.w.heap.size),H:=σ.H.set id (.row (v+1) i.size ae e (.p (.arr len i.size (xs.map Pl.soft)))),w:=σ.w.alloc (.cells cells e)};have R:z.w.heap[σ.w.heap.size]? =ab (.cells cells e (0,0)):=heap_alloc_new σ.w _;have M:=World.grownBy_alloc σ.w (.cells cells e) ad;have l:z.m[id]? =ab (ab σ.w.heap.size):=ak F;have f:z.H[id]? =ab (.row (v+1) i.size ae e (.p (.arr len i.size (xs.map Pl.soft)))):=ak hH
 obtain⟨to,Q⟩:=YN (σ':=z) (mi:=σ.m[id]) (mi':=ab σ.w.heap.size) ok hH F rfl rfl rfl rfl rfl rfl rfl M.size
  (λj G _=>M.block j G (by simp)) (λb o v Y _ Z=>by
    have G:=ok.lt id b (by rw[F,Y]);rw[World.cell?_of_block (w:=σ.w) (M.block b G (by simp))];exact Z) (λo he hu=>by
    have G:=ok.lt id _ (by rw[F, <-he]);omega) (.inr ⟨_,rfl,ym _,by simp[z]⟩) (λ⟨d,st,h⟩=>by cases h) (λ⟨d,st,h⟩=>by cases h) (λs e xs h=>by cases h)
  (λE=>⟨len,by simp[aR],.inr ⟨_,cells,len,rfl,R,g,ym _,A,by
    rw[<-g, <-yax,List.take_length];simp only[yH,aB];refine⟨by rw[yad];exact W,λy hy=> ?_, ?_⟩
    .obtain⟨x,hx,rfl⟩:=ybw.1 hy;rw[BM];exact X x hx
    .rw[<-Pl.cK];exact(cN xs).dq _ _ _ (aE E.cells _ _ U)⟩⟩)
  (λv' s' st' e' d' h=>by cases h;exact⟨v+1,ae,_,rfl,Nat.le_succ _,λhv=>absurd hv (by omega)⟩)
 refine ZM (σ':=z) (qO ho T) to Q ?_;rw[Zh rfl];simp only[yH];refine⟨ab ⟨σ.w.heap.size,0,ad⟩,len,rfl,ym _,A,λh=>(by cases h),λ_=>⟨_,_,rfl⟩,v+1,i.size,ae,e,_,f,ym _,λ_=>⟨rfl,.inr ⟨_,cells,l,R,by rw[yar];exact g,λ_=>by rw[Nat.zero_mul]⟩⟩⟩
theorem Ztv(ok:Ok σ)(R:aD σ ts a){c:Call}{x y:yp}{t u e:yc}{i:TypeInfo}{ys:yL Pl}(ho:o.op=.call c)(S:c.callee=.builtin .append)(T:c.args.toList=[x,y])
 (g:c.argTypes.toList=[t,u]) (ht:P.underlying t=ab (.slice e)) {s:Nat} (X:aF P ts t x=.p (.sl (ab af) s [])) (hi:P.info? e=ab i) (hz:cu i=ae) (E:i.size≠0)
 (j:mq P σ (P.cellsOf e) u (a.eval y) ys) (hb:ys.length*i.bytes<=Zt) (hm:ys.length<=maxLen):
 YL P o a σ (.rv σ.H.length 0 i.size 0 ys.length) (σ.H++[.row 0 i.size ae e (.p (.arr ys.length i.size ys))]):=by
 have l:=Zq (P:=P) R t x;rw[X]at l;have z:=nI l;have Y:P.cellsOf e=i.size:=by simp[Program.cellsOf,hi]
 rcases uV (P:=P) (ty:=o.type) ok R ht hi hz E j hb hm with⟨rfl,F⟩|⟨G,U,Z,zU,hr,I,J,M,F⟩
 .let A:Sg:={ σ with m:=σ.m++[ad],H:=σ.H++[.row 0 i.size ae e (.p (.arr 0 i.size []))]}
  have f:A.m[σ.H.length]? =ab ad:=by
   show(σ.m++[ad])[σ.H.length]? =_;rw[yaq (by rw[ok.len];exact ym _),ok.len];simp
  obtain⟨to,Q⟩:=WD (σ':=A) ok rfl rfl rfl rfl (World.grownBy.refl σ.w ad) (.inl rfl) (λW=>⟨0,by simp[aR],.inl ⟨rfl,rfl⟩⟩);refine ZM (σ':=A) (Yq ho S T g (by rw[z];exact F)) to Q ?_;rw[Zh rfl];simp only[yH];refine⟨ad,0,rfl,ym _,by simp[maxLen],λ_=>rfl,λh=>(by simp at h),0,i.size,ae,e,.p (.arr 0 i.size []),by simp[A],ym _,λ_=>⟨rfl,.inl ⟨f,rfl,rfl⟩⟩⟩
 .have zW:G.length=ys.length*i.size:=by rw[aL _ _ hr,aN zU]
  refine CM (N:=ys.length) (cap:=grownCap σ.w ys.length 0 e) (w':=σ.w.drew.alloc (.cells (G.toArray++U) e)) (v:=.bool ae) ok (YY σ.w (.cells (G.toArray++U) e) ad) (heap_alloc_new σ.w.drew _) M (by simp) (by simp[aR]) I J (ym _) ?_ (Yq ho S T g (by rw[z];exact F));rw[<-zW];simp only[Array.toList_append,List.take_left',yH,aB];grind
theorem CN{w:yr}{t u ty e:yc}{i:TypeInfo}{S:yh}{zX:yL yh}{A:yO Addr}{n c:Nat}(ht:P.underlying t=ab (.slice e))(hi:P.info? e=ab i)(m:Src P w u i.size S 0 zX)(hn:n<=c)(y:A=ad->c=0):
 (Builtin.append_ #[t,u] ty #[.slice A n c,S]).run P w=.ok (.slice A n c) w:=by
 obtain⟨g,j,l,z,E⟩:=m;have f:zX=[]:=ybj (by rw[E];simp);subst f
 rcases g with⟨F,hu⟩|hu <;>
  (cases A with
   |none=>
    have:=y rfl;have h:n=0:=by omega
    subst this;subst h
    simp[Builtin.append_,run_underlying ht,run_underlying hu,sizeOf,typeInfo,hi,j,l]
   |some A=>
    simp[Builtin.append_,run_underlying ht,run_underlying hu,sizeOf,typeInfo,hi,j,l,hn,storeCells])
theorem Ztw(ok:Ok σ)(m:aD σ ts a){c:Call}{x y:yp}{t u e:yc}{i:TypeInfo}{id v s lo n:Nat}(ho:o.op=.call c)(z:c.callee=.builtin .append)(E:c.args.toList=[x,y])
 (h:c.argTypes.toList=[t,u]) (ht:P.underlying t=ab (.slice e)) (F:aF P ts t x=.rv id v s lo n) (hi:P.info? e=ab i)
 (f:mq P σ (P.cellsOf e) u (a.eval y) []):YL P o a σ (.rv id v s lo n) σ.H:=by
 have g:=Zq (P:=P) m t x;rw[F]at g;have j:=g;obtain⟨A,Q,G,I,R,J,_⟩:=ji g;have l:P.cellsOf e=i.size:=by simp[Program.cellsOf,hi]
 rw[l]at f;obtain⟨S,M,_,_⟩:=f;refine Zk (v:=a.eval x) ok (Yq ho z E h ?_) j;rw[G];exact CN (P:=P) (ty:=o.type) ht hi M I J
theorem ZBN{v s N o:Nat}{st:Bool}{e:yc}{xs:yL Pl}(hu:(aq.row v s st e (.p (.arr N s xs))).bB o):st=af/\o < N*s:=by
 obtain⟨g,N',f,h⟩:=hu;rw[show aR (.p (.arr N s xs)) s=ab N from yW rfl]at f
 grind
theorem CO{v g s n N m o:Nat}{st:Bool}{e:yc}{xs ys:yL Pl}(f:st=ae\/n=N)(hu:(aq.row v s st e (.p (.arr N s xs))).bB o):(aq.row g s st e (.p (.arr (n+m) s ys))).bB o:=by
 obtain⟨j,l⟩:=ZBN hu;refine⟨j,n+m,yW rfl, ?_⟩;rcases f with h|h
 .grind
 .subst h;grind
theorem Zms(ok:Ok σ)(yM:aD σ ts a){c:Call}{x y:yp}{t u e:yc}{i:TypeInfo}{xs ys:yL Pl}{id v n N:Nat}{st:Bool}(hst:st=ae\/n=N)(ho:o.op=.call c)(zL:c.callee=.builtin .append)
 (yR:c.args.toList=[x,y]) (S:c.argTypes.toList=[t,u]) (ht:P.underlying t=ab (.slice e)) (hx:aF P ts t x=.rv id v i.size 0 n) (hi:P.info? e=ab i) (hz:cu i=ae) (hne:i.size≠0)
 (hsrc:mq P σ i.size u (a.eval y) ys) (hH:σ.H[id]? =ab (.row v i.size st e (.p (.arr N i.size xs)))) (hnN:n<=N) (hb:(n+ys.length)*i.bytes<=Zt) (hm:n+ys.length<=maxLen):
 YL P o a σ (.rv id (v+1) i.size 0 (n+ys.length)) (σ.H.set id (.row (v+1) i.size st e (.p (.arr (n+ys.length) i.size (xs.take n++ys))))):=by
 have hxv:=Zq (P:=P) yM t x;rw[hx]at hxv;obtain⟨A0,c0,hv0,_,_,_,W,X,q,hq,Y,hqc⟩:=qW ok hxv hH rfl (by omega:0+n<=N);simp only[List.drop_zero]at W X hq;obtain⟨A,T,hv,h2,h3,h4,h5,v2,s2,st2,e2,d2,h6,h7,h8⟩:=ji hxv;rw[hv]at hv0;injection hv0 with e1 e2 e3;subst e1;subst e3;rw[hH]at h6;cases h6;obtain⟨_,h9⟩:=h8 rfl;have hsrc2:=hsrc;obtain⟨U,hS,hr,zU⟩:=hsrc2;obtain⟨z,hzz,hzs⟩:=lu hz;have hidlt:id < σ.m.length:=by rw[ok.len];exact(yu.1 hH).1
 have J:σ.m[id]? =ab σ.m[id]:=yab hidlt;have hnl:U.length=ys.length*i.size:=hS.cells;have hone:∀v,v∈U->v.oneCell'=ae:=cf _ _ hr;have zW:(xs.take n++ys).length=n+ys.length:=by rw[yl,X]
 have Z:aW i.size (xs.take n++ys):=by
  by_cases hy:ys=[]
  .grind
  .exact X6 W (zU hy)
 have hrowN:aR (.p (.arr (n+ys.length) i.size (xs.take n++ys))) i.size=ab (n+ys.length):=by simp[aR]
 have grow:T < n+ys.length->YL P o a σ (.rv id (v+1) i.size 0 (n+ys.length)) (σ.H.set id (.row (v+1) i.size st e (.p (.arr (n+ys.length) i.size (xs.take n++ys))))):=by
  intro hgr
  have hold:(Builtin.firstCells i.size n (.slice A n T)).run P σ.w.drew=.ok q.toArray σ.w.drew:=by
   rcases yct n with h0|h0
   .subst h0;have:q=[]:=ybj (by rw[Y];simp);subst this;cases A <;> simp[Builtin.firstCells,loadCells,loadCellsFrom]
   .obtain⟨b,F,cap,rfl,_,_,_,g⟩:=hqc h0;refine run_firstCells_some _ _ _ ⟨b,_,ad⟩ _ T q Y (λj v hv=> ?_);rw[Addr.bI];simp_all
  have zB:=BV (P:=P) (ty:=o.type) ht hi hzz hS hold hgr hm hb;have hge:=grownCap_ge σ.w (n+ys.length) T e;have hcm:=grownCap_le_maxLen σ.w (n+ys.length) T e hm;let k:Nat:=grownCap σ.w (n+ys.length) T e;let yK:Array yh:=Builtin.zeroCells z.cells (k - (n+ys.length));let f:Array yh:=q.toArray++U.toArray++yK;let G:Sg:={ σ with m:=σ.m.set id (ab σ.w.heap.size),H:=σ.H.set id (.row (v+1) i.size st e (.p (.arr (n+ys.length) i.size (xs.take n++ys)))),w:=σ.w.drew.alloc (.cells f e)}
  have Q:f.size=k*i.size:=by
   simp only[f,yK,Array.size_append,List.size_toArray,size_zeroCells,hzs,Y,hnl, <-yba];congr 1;omega
  have htk:f.toList.take ((n+ys.length)*i.size)=q++U:=by
   have e1:(q++U).length=(n+ys.length)*i.size:=by rw[yl,Y,hnl,yba]
   grind
  have zV:G.w.heap[σ.w.heap.size]? =ab (.cells f e (0,0)):=heap_alloc_new σ.w.drew _;have hg:=YY σ.w (.cells f e) ad;have hblk':∀b,b < σ.w.heap.size->G.w.heap[b]? =σ.w.heap[b]? :=λb hb=>hg.block b hb (by simp);have l:G.m[id]? =ab (ab σ.w.heap.size):=ak J;have E:G.H[id]? =ab (.row (v+1) i.size st e (.p (.arr (n+ys.length) i.size (xs.take n++ys)))):=ak hH
  obtain⟨to,R⟩:=YN (σ':=G) (mi:=σ.m[id]) (mi':=ab σ.w.heap.size) ok hH J rfl rfl rfl rfl rfl rfl rfl hg.size
   (λb hb _=>hblk' b hb) (λb' o v hb' _ g=>by
     rw[World.cell?_of_block (w:=σ.w) (hblk' b' (Wj g))];exact g)
   (λo h _=>by
     have:=ok.lt id σ.w.heap.size (by rw[J, <-h]);omega) (.inr ⟨_,rfl,ym _,by simp[G]⟩) (λ⟨d,st,h⟩=>by cases h) (λ⟨d,st,h⟩=>by cases h)
   (λs' e' xs' h=>by cases h)
   (λI=>⟨n+ys.length,hrowN,.inr ⟨σ.w.heap.size,f,k,rfl,zV,Q,hge,hcm,by
     rw[htk];simp only[yH,aB];exact⟨zW,Z,Z7 (aE I.cells _ _ hq) (aE I.cells _ _ hr)⟩⟩⟩)
   (λv2 s st e d h=>by cases h;exact⟨v+1,_,_,rfl,by omega,λhh=>absurd hh (by omega)⟩)
  refine ZM (σ':=G) (Yq ho zL yR S (by rw[hv];exact zB)) to R ?_;rw[Zh rfl];simp only[yH];exact⟨_,_,rfl,hge,hcm,λh=>(by cases h),λ_=>⟨_,_,rfl⟩,v+1,i.size,st,e,_,E,ym _,λ_=>⟨rfl,.inr ⟨σ.w.heap.size,f,l,zV,by rw[Q,yar],λ_=>by simp⟩⟩⟩
 rcases h9 with⟨k1,rfl,k2⟩|⟨b,F,k1,k3,k4,k5⟩
 .have hc0:T=0:=by omega
  subst hc0;have hn0:n=0:=by omega
  subst hn0;rcases yct ys.length with h0|h0
  .have hys:ys=[]:=ybj h0;subst hys;have zB:=CN (P:=P) (ty:=o.type) (A:=ad) (n:=0) (c:=0) ht hi hS (ym _) (λ_=>rfl);let G:Sg:={ σ with m:=σ.m.set id σ.m[id],H:=σ.H.set id (.row (v+1) i.size st e (.p (.arr (0+([]:yL Pl).length) i.size (xs.take 0++[]))))};have l:G.m[id]? =ab σ.m[id]:=ak J;have E:G.H[id]? =ab (.row (v+1) i.size st e (.p (.arr (0+([]:yL Pl).length) i.size (xs.take 0++[])))):=ak hH;have hmn:σ.m[id]=ad:=by rw[J]at k1;exact ybl k1
   obtain⟨to,R⟩:=YN (σ':=G) (mi:=σ.m[id]) (mi':=σ.m[id]) ok hH J rfl rfl rfl rfl rfl rfl rfl (ym _)
    (λ_ _ _=>rfl) (λ_ _ _ _ _ h=>h) (λo _ hu=>CO hst hu) (.inl rfl) (λ⟨d,st,h⟩=>by cases h) (λ⟨d,st,h⟩=>by cases h)
    (λs e xs h=>by cases h) (λI=>⟨0,by simp[aR],.inl ⟨hmn,rfl⟩⟩)
    (λv2 s st e d h=>by cases h;exact⟨v+1,_,_,rfl,by omega,λhh=>absurd hh (by omega)⟩)
   refine ZM (σ':=G) (Yq ho zL yR S (by rw[hv];exact zB)) to R ?_;rw[Zh rfl];simp only[yH];exact⟨ad,0,rfl,ym _,by simp[maxLen],λ_=>rfl,λh=>(by simp at h),v+1,i.size,st,e,_,E,ym _,λ_=>⟨rfl,.inl ⟨by rw[l,hmn],rfl,rfl⟩⟩⟩
  grind
 .by_cases M:n+ys.length<=T
  .have hmb:σ.m[id]=ab b:=by rw[J]at k1;exact ybl k1
   rw[yar]at k4;rcases yct T with hcp0|hcp0
   .have hn0:n=0:=by omega
    have hy0:ys.length=0:=by omega
    have hys:ys=[]:=ybj hy0;subst hys;have zB:=CN (P:=P) (ty:=o.type) ht hi hS h2 h4;let G:Sg:={ σ with m:=σ.m.set id (ab b),H:=σ.H.set id (.row (v+1) i.size st e (.p (.arr (n+([]:yL Pl).length) i.size (xs.take n++[]))))};have l:G.m[id]? =ab (ab b):=ak J;have E:G.H[id]? =ab (.row (v+1) i.size st e (.p (.arr (n+([]:yL Pl).length) i.size (xs.take n++[])))):=ak hH
    obtain⟨to,R⟩:=YN (σ':=G) (mi:=ab b) (mi':=ab b) ok hH k1 rfl rfl rfl rfl rfl rfl rfl (ym _)
     (λ_ _ _=>rfl) (λ_ _ _ _ _ h=>h) (λo _ hu=>CO hst hu) (.inl rfl) (λ⟨d,st,h⟩=>by cases h) (λ⟨d,st,h⟩=>by cases h)
     (λs e xs h=>by cases h) (λI=>⟨n,by simp[aR],.inr ⟨b,F,T,rfl,k3,k4,h2,h3,by
       subst hn0;simp[yH,aB,ar];intro x hx;cases hx⟩⟩)
     (λv2 s st e d h=>by cases h;exact⟨v+1,_,_,rfl,by omega,λhh=>absurd hh (by omega)⟩)
    refine ZM (σ':=G) (Yq ho zL yR S (by rw[hv];exact zB)) to R ?_;rw[Zh rfl];simp only[yH];exact⟨A,T,rfl,h2,h3,h4,h5,v+1,i.size,st,e,_,E,ym _,λ_=>⟨rfl,.inr ⟨b,F,l,k3,by rw[yar];exact k4,λh=>absurd h (by omega)⟩⟩⟩
   have hA:=k5 hcp0;rw[Nat.zero_mul]at hA;subst hA;have zB:=BU (P:=P) (ty:=o.type) ht hi hS hone k3 M k4
   have hus:(F.toList.take (n*i.size)).length=n*i.size:=by
    simp_all
   have hqe:F.toList.take (n*i.size)=q:=by
    rcases yct n with h0|h0
    .grind
    .obtain⟨b2,cur2,cap2,hbb,hm2,hb2,hcs2,g⟩:=hqc h0
     have hbe:b=b2:=by
      grind
     subst hbe;apply ybq;intro j;rw[ycd];by_cases hj:j < n*i.size
     .rw[yW hj];have hjq:j < q.length:=by rw[Y];exact hj
      have:=g j q[j] (yab hjq);rw[Nat.zero_mul,yar,cell_of_row σ.w b j F e (0,0) k3, <-yby]at this;grind
     grind
   let f:Array yh:=(F.toList.take (n*i.size)++U++F.toList.drop (n*i.size+U.length)).toArray;let G:Sg:={ σ with m:=σ.m.set id (ab b),H:=σ.H.set id (.row (v+1) i.size st e (.p (.arr (n+ys.length) i.size (xs.take n++ys)))),w:=σ.w.setRow b f};have hfit:n*i.size+U.length<=F.size:=by rw[hnl,k4, <-yba];exact ycb _ M
   have Q:f.size=T*i.size:=by
    grind
   have zV:G.w.heap[b]? =ab (.cells f e (0,0)):=setRow_heap σ.w b F _ e _ k3;have hoth:∀j,b≠j->G.w.heap[j]? =σ.w.heap[j]? :=λj hj=>setRow_other σ.w b j _ (Ne.symm hj);have l:G.m[id]? =ab (ab b):=ak J;have E:G.H[id]? =ab (.row (v+1) i.size st e (.p (.arr (n+ys.length) i.size (xs.take n++ys)))):=ak hH
   have htk:f.toList.take ((n+ys.length)*i.size)=q++U:=by
    have e1:(F.toList.take (n*i.size)++U).length=(n+ys.length)*i.size:=by rw[yl,hus,hnl,yba]
    grind
   obtain⟨to,R⟩:=YN (σ':=G) (mi:=ab b) (mi':=ab b) ok hH k1 rfl rfl rfl rfl rfl rfl rfl (by simp[G])
    (λj hj hne=>hoth j (λhh=>hne (by rw[hh]))) (λb' o v hb' hu g=>by
      cases hb'
      have ho':o < n*i.size:=by
       rcases hst with h|h
       .rw[h]at hu;cases hu.1
       .rw[h];exact(ZBN hu).2
      rw[cell_of_row G.w b o f e (0,0) zV];rw[cell_of_row σ.w b o F e (0,0) k3, <-yby]at g;rw[show f[o]? =(F.toList.take (n*i.size)++U++F.toList.drop (n*i.size+U.length))[o]? from by simp[f],yac,ybe (by rw[hus];exact ho'),ycd,yW ho']
      exact g)
    (λo _ hu=>CO hst hu) (.inl rfl) (λ⟨d,st,h⟩=>by cases h) (λ⟨d,st,h⟩=>by cases h)
    (λs' e' xs' h=>by cases h)
    (λI=>⟨n+ys.length,hrowN,.inr ⟨b,f,T,rfl,zV,Q,M,h3,by
      rw[htk];simp only[yH,aB];exact⟨zW,Z,Z7 (aE I.cells _ _ hq) (aE I.cells _ _ hr)⟩⟩⟩)
    (λv2 s st e d h=>by cases h;exact⟨v+1,_,_,rfl,by omega,λhh=>absurd hh (by omega)⟩)
   refine ZM (σ':=G) (Yq ho zL yR S (by rw[hv];exact zB)) to R ?_;rw[Zh rfl];simp only[yH];exact⟨_,_,rfl,M,h3,λh=>(by cases h),λ_=>⟨_,_,rfl⟩,v+1,i.size,st,e,_,E,ym _,λ_=>⟨rfl,.inr ⟨b,f,l,zV,by rw[Q,yar],λ_=>by simp⟩⟩⟩
  grind
theorem Ztx(ok:Ok σ)(yM:aD σ ts a){c:Call}{x y:yp}{t u e:yc}{i:TypeInfo}{xs ys:yL Pl}{id v n N:Nat}(ho:o.op=.call c)(zL:c.callee=.builtin .append)
 (yR:c.args.toList=[x,y]) (htys:c.argTypes.toList=[t,u]) (ht:P.underlying t=ab (.slice e)) (hx:aF P ts t x=.rv id v i.size 0 n) (hi:P.info? e=ab i) (hz:cu i=ae) (Q:i.size≠0)
 (hsrc:mq P σ i.size u (a.eval y) ys) (hH:σ.H[id]? =ab (.row v i.size ae e (.p (.arr N i.size xs)))) (hpos:0 < N) (F:n+ys.length<=N):
 YL P o a σ (.rv id v i.size 0 (n+ys.length)) (σ.H.set id (.row v i.size ae e (.p (.arr N i.size (xs.take n++(ys++xs.drop (n+ys.length))))))):=by
 have hxv:=Zq (P:=P) yM t x;rw[hx]at hxv;obtain⟨A,cp,hv,h2,h3,h4,h5,v2,s2,st2,e2,d2,h6,h7,h8⟩:=ji hxv;rw[hH]at h6;cases h6;obtain⟨_,h9⟩:=h8 rfl;have R:=hsrc;obtain⟨Z,hS,hr,zU⟩:=R;have S:id < σ.m.length:=by rw[ok.len];exact(yu.1 hH).1
 have G:σ.m[id]? =ab σ.m[id]:=yab S;have hnl:Z.length=ys.length*i.size:=hS.cells;have hone:∀v,v∈Z->v.oneCell'=ae:=cf _ _ hr;obtain⟨N',hN',hent⟩:=ok.dF id _ _ hH G;simp only[aR,if_true,yn]at hN';subst hN';rcases hent with⟨_,h0⟩|⟨b,g,cap,hh,g2,g4,g5,g6,g7⟩
 .omega
 simp only[yH,aB]at g7;obtain⟨hxl,I,g7⟩:=g7;rcases h9 with⟨k1,_,_⟩|⟨b',cur',k1,k3,k4,k5⟩
 .rw[G,hh]at k1;cases k1
 rw[G,hh]at k1;cases k1;rw[g2]at k3;cases k3;have hm:σ.m[id]? =ab (ab b):=by rw[G,hh]
 rw[yar]at k4;have hcc:cp=cap:=Nat.eq_of_mul_eq_mul_right (Nat.pos_of_ne_zero Q) (k4.symm.trans g4);subst hcc;have l:n+ys.length<=cp:=Nat.le_trans F g5;have hA:=k5 (by omega);rw[Nat.zero_mul]at hA;subst hA;have zB:=BU (P:=P) (ty:=o.type) ht hi hS hone g2 l k4
 have J:xs=xs.take n++((xs.drop n).take ys.length++xs.drop (n+ys.length)):=by
  have e1:xs.drop (n+ys.length)=(xs.drop n).drop ys.length:=by rw[List.drop_drop]
  rw[e1,ybb,ybb]
 have g7':=g7;rw[J]at g7';obtain⟨q1,q23,e1,r1,r23⟩:=Z8 g7';obtain⟨q2,q3,rfl,r2,r3⟩:=Z8 r23;have T:aW i.size (xs.take n):=Vq I n;have hs2:aW i.size ((xs.drop n).take ys.length):=Vq (uJ I n) _;have ly:((xs.drop n).take ys.length).length=ys.length:=by rw[yaa,yaz,yay (by omega)]
 have l1:q1.length=n*i.size:=by rw[aL _ _ r1,aN T,yaa,yay (by omega)]
 have l2:q2.length=ys.length*i.size:=by rw[aL _ _ r2,aN hs2,ly]
 have hsz:N*i.size<=g.size:=by rw[g4];exact ycb _ g5
 obtain⟨m1,m2⟩:=pf (y':=Z) e1 (by rw[hnl,l2]) hsz;rw[l1]at m1 m2;let f:Array yh:=(g.toList.take (n*i.size)++Z++g.toList.drop (n*i.size+Z.length)).toArray;let U:Sg:={ σ with m:=σ.m.set id (ab b),H:=σ.H.set id (.row v i.size ae e (.p (.arr N i.size (xs.take n++(ys++xs.drop (n+ys.length)))))),w:=σ.w.setRow b f};have E:f.size=g.size:=m2;have zV:U.w.heap[b]? =ab (.cells f e (0,0)):=setRow_heap σ.w b g _ e _ g2;have hoth:∀j,b≠j->U.w.heap[j]? =σ.w.heap[j]? :=λj hj=>setRow_other σ.w b j _ (Ne.symm hj);have W:U.m[id]? =ab (ab b):=ak hm;have X:U.H[id]? =ab (.row v i.size ae e (.p (.arr N i.size (xs.take n++(ys++xs.drop (n+ys.length)))))):=ak hH
 have Y:aW i.size (xs.take n++(ys++xs.drop (n+ys.length))):=by
  by_cases hy:ys=[]
  .subst hy;exact X6 T (X6 (λz hz=>by cases hz) (uJ I _))
  .exact X6 T (X6 (zU hy) (uJ I _))
 obtain⟨to,ok'⟩:=YN (σ':=U) (mi:=ab b) (mi':=ab b) ok hH hm rfl rfl rfl rfl rfl rfl rfl (by simp[U])
  (λj hj Q=>hoth j (λhh=>Q (by rw[hh]))) (λb' o v _ hu _=>by cases hu.1) (λo _ hu=>by cases hu.1) (.inl rfl) (λ⟨d,st,h⟩=>by cases h) (λ⟨d,st,h⟩=>by cases h)
  (λs e xs h=>by cases h) (λleaf=>⟨N,by simp[aR],.inr ⟨b,f,cp,rfl,zV,by rw[E];exact g4,g5,g6,by
    rw[show f.toList.take (N*i.size)=q1++(Z++q3) from m1]
    refine Yg leaf _ _ ?_;simp only[yH,aB];refine⟨by rw[yl,yl,yaa,yaz];omega,Y,Z7 r1 (Z7 hr r3)⟩⟩⟩)
  (λv2 s st e2 d h=>by cases h;exact⟨v,ae,_,rfl,ym _,λ_=>⟨rfl,λb2 cur2 hb2 M=>by
    cases hb2;rw[g2]at M;cases M;exact⟨f,zV,E⟩⟩⟩)
 refine ZM (σ':=U) (Yq ho zL yR htys (by rw[hv];exact zB)) to ok' ?_;rw[Zh rfl];simp only[yH];exact⟨_,_,rfl,l,h3,λh=>(by cases h),λ_=>⟨_,_,rfl⟩,v,i.size,ae,e,_,X,ym _,λ_=>⟨rfl,.inr ⟨b,f,W,zV,by rw[E,yar];exact k4,λ_=>by simp⟩⟩⟩
theorem Zty(z:Array yh):(Builtin.zeroCells z 1).toList=z.toList:=by
 apply List.ext_getElem
 .simp[Builtin.zeroCells]
 .intro i h g;have f:i < z.size:=by simpa using g
  simp[Builtin.zeroCells,Nat.mod_eq_of_lt f,f]
theorem ZxW(ok:Ok σ)(yM:aD σ ts a){c:Call}{x:yp}{t e M:yc}{i:TypeInfo}{z:Pl}{xs:yL Pl}{id v lo N:Nat}(ho:o.op=.call c)(zL:c.callee=.builtin .clear)
 (yR:c.args.toList=[x]) (Q:c.argTypes.toList=[t]) (ht:P.underlying t=ab (.slice e)) (hx:aF P ts t x=.rv id v i.size lo 1) (hi:P.info? e=ab i) (hz:cu i=ae) (R:i.size≠0) (hzp:bg P e=.p z) (hzs:z.size=i.size)
 (hH:σ.H[id]? =ab (.row v i.size ae M (.p (.arr N i.size xs)))) (hle:lo+1<=N):
 YL P o a σ (.bp []) (σ.H.set id (.row v i.size ae M (.p (.arr N i.size (xs.set lo z))))):=by
 have S:=Zq (P:=P) yM t x;rw[hx]at S;obtain⟨A,cc,hv,h2,h3,h4,hpall,hplen,q,hq,hql,hqc⟩:=qW ok S hH rfl hle;obtain⟨b,f,cap,rfl,hm,hb,hcs,hcell⟩:=hqc (by omega);obtain⟨N',T,U⟩:=ok.dF id _ _ hH hm;simp only[aR,if_true,yn]at T;subst T;rcases U with⟨h,_⟩|⟨b',cur',W,h,g2,g4,g5,g6,g7⟩
 .cases h
 cases h;rw[hb]at g2;cases g2;obtain⟨l,X,Y⟩:=lu hz
 have hzr:yJ σ (.p z) l:=by
  rw[<-hzp];unfold bg;rw[hi];simp only[X];exact ny
 have F:=Vj (d:=.p z) rfl hzr;simp only[yH]at F;have G:∀u,u∈l.cells.toList->u.oneCell'=ae:=BJ _ _ F;have hzl:l.cells.toList.length=i.size:=by rw[yax,Y]
 simp only[yH,aB]at g7;obtain⟨hxl,I,h7⟩:=g7;have Z:lo < xs.length:=by omega
 have hxi:xs[lo]? =ab xs[lo]:=yab Z;obtain⟨p1,p2,p3,e1,l1,r2,l2,r1,r3⟩:=la h7 hxi;have l1':p1.length=lo*i.size:=by rw[l1,aN (λz hz=>I z (ybs hz)),yaa,yay (by omega)]
 have l2':p2.length=i.size:=by rw[l2];exact I _ (List.getElem_mem Z)
 have hsz:N*i.size<=f.size:=by rw[g4];exact ycb _ g5
 obtain⟨k1,k2⟩:=pf (y':=l.cells.toList) e1 (by rw[hzl,l2']) hsz;rw[l1']at k1 k2
 have hnl:lo*i.size+l.cells.toList.length<=f.size:=by
  grind
 have hst:=run_storeCells_at P b (lo*i.size) M l.cells.toList 0 f σ.w hb (by simpa using hnl) G;simp only[Nat.add_zero]at hst;let g:Array yh:=(f.toList.take (lo*i.size)++l.cells.toList++f.toList.drop (lo*i.size+l.cells.toList.length)).toArray;let J:Sg:={ σ with m:=σ.m.set id (ab b),H:=σ.H.set id (.row v i.size ae M (.p (.arr N i.size (xs.set lo z)))),w:=σ.w.setRow b g};have y:g.size=f.size:=k2;have zV:J.w.heap[b]? =ab (.cells g M (0,0)):=setRow_heap σ.w b f _ M _ hb;have hoth:∀j,b≠j->J.w.heap[j]? =σ.w.heap[j]? :=λj hj=>setRow_other σ.w b j _ (Ne.symm hj)
 obtain⟨to,ok'⟩:=YN (σ':=J) (mi:=ab b) (mi':=ab b) ok hH hm rfl rfl rfl rfl rfl rfl rfl (by simp[J])
  (λj hj R=>hoth j (λhh=>R (by rw[hh]))) (λb' o v _ hu _=>by cases hu.1) (λo _ hu=>by cases hu.1) (.inl rfl) (λ⟨d,st,h⟩=>by cases h) (λ⟨d,st,h⟩=>by cases h)
  (λs e xs h=>by cases h) (λleaf=>⟨N,by simp[aR],.inr ⟨b,g,W,rfl,zV,by rw[y];exact g4,g5,g6,by
    rw[show g.toList.take (N*i.size)=p1++(l.cells.toList++p3) from k1]
    refine Yg leaf _ _ ?_;simp only[yH,aB];refine⟨by rw[ybu];exact hxl,uX I hzs, ?_⟩;rw[nK hxi];refine Z7 r1 ?_;simp only[ar];exact⟨_,_,rfl,F,r3⟩⟩⟩)
  (λv2 s st e2 d h=>by cases h;exact⟨v,ae,_,rfl,ym _,λ_=>⟨rfl,λb2 cur2 hb2 E=>by
    cases hb2;rw[hb]at E;cases E;exact⟨g,zV,y⟩⟩⟩)
 have h1:c.args= #[x]:=by rw[<-ycf (xs:=c.args),yR]
 have h2':c.argTypes= #[t]:=by rw[<-ycf (xs:=c.argTypes),Q]
 have hzv:(zeroValue e).run P σ.w=.ok l σ.w:=by simp[zeroValue,typeInfo,hi,X]
 have zB:(Builtin.clear_ #[t] o.type #[a.eval x]).run P σ.w=.ok (.tuple #[]) J.w:=by
  rw[hv];simp[Builtin.clear_,run_underlying ht,hzv,Zty,hst,J,g]
 refine ZM (σ':=J) (v:=.tuple #[]) ?_ to ok' ?_
 .simp[execOp,ho,resolve,zL,h1,h2',invoke,builtin,zB]
 .rw[Zh rfl];simp only[yH];exact⟨#[],rfl,by simp[aH]⟩
theorem Zrj(ok:Ok σ)(J:aD σ ts a){t:yc}{x:yp}{lo hi:yO yp}(ho:o.op=.slice t x lo hi ad)(h:bH P o ts σ.H hs=ab (C,d,hs'))(hc:aX C):YL P o a σ d σ.H:=by
 simp only[bH,ho]at h;have M:=Zq (P:=P) J t x;split at h
 .rename_i e id v s l0 n l r U W f X Y;rw[f]at M;split at h
  .rename_i v' Q st e' dd j;split at h
   .rename_i N hN;split at h
    .rename_i y;simp only[yi,yP,yT]at y;simp only[yE]at y;obtain⟨⟨⟨⟨k1,R⟩,Z⟩,k4⟩,k5⟩:=y;subst Z;subst k4;cases h;obtain⟨z,c2,c3,_⟩:=hc;obtain⟨A,c,M,h2,h3,h4,h5,h6⟩:=ji M
     have G:N<=l0+c/\(0 < c->∃b o',A=ab ⟨b,o',ad⟩):=by
      obtain⟨v2,s2,st2,e2,d2,g1,g2,g3⟩:=h6;rw[j]at g1;cases g1;obtain⟨_,g4⟩:=g3 rfl;have g:id < σ.m.length:=by rw[ok.len];exact(yu.1 j).1
      have I:σ.m[id]? =ab σ.m[id]:=yab g;obtain⟨N2,S,E⟩:=ok.dF id _ _ j I;rw[hN]at S;cases S;rcases g4 with⟨F,rfl,g6⟩|⟨b,cur,F,g6,g7,g8⟩
      .all_goals grind
      .rw[I]at F;have F:=ybl F;rcases E with⟨E,_⟩|⟨b2,cur2,cap,E,q3,q4,q5,q6,_⟩
       .grind
       .rw[E]at F;cases F;rw[g6]at q3;cases q3;refine⟨?_,λh=>⟨b,_,g8 h⟩⟩;have:cap*Q=(l0+c)*Q:=by rw[<-q4,g7]
        have:=Nat.eq_of_mul_eq_mul_right (Nat.pos_of_ne_zero k5) this;omega
     have hbd:∃p q,(Instr.sliceBounds ae n c (lo.map a.eval) (hi.map a.eval) ad).run P σ.w=.ok (p,q,c) σ.w/\p=(l.getD 0).toNat/\q=r.toNat/\p<=q/\q<=c:=by
      rcases YB J Y with⟨_,q⟩|⟨R,i2,e2,E⟩
      .cases q
      cases E;have b2:0<=r/\r<=(c:Int):=⟨by omega,by omega⟩;rcases YB J X with⟨T,q⟩|⟨k1,i1,T,S⟩
      .subst q;refine⟨0,r.toNat, ?_,rfl,rfl,Nat.zero_le _,by omega⟩;rw[T,e2];simp[Instr.sliceBounds,Instr.sliceBound,asIntOf,b2]
      .subst S;simp only[Option.getD_some]at z c2;have b1:0<=i1/\i1<=(r.toNat:Int):=⟨z,by omega⟩;refine⟨i1.toNat,r.toNat, ?_,rfl,rfl,by omega,by omega⟩;rw[T,e2];simp[Instr.sliceBounds,Instr.sliceBound,asIntOf,b1,b2];omega
     obtain⟨p,q,hb,rfl,rfl,hpq,hqc⟩:=hbd;refine Zk (v:=.slice (if c=(l.getD 0).toNat then A else A.map (·.add ((l.getD 0).toNat*Q))) (r.toNat - (l.getD 0).toNat) (c - (l.getD 0).toNat)) ok ?_ ?_
     .have zB:(Instr.sliceAt t (a.eval x) (lo.map a.eval) (hi.map a.eval) ad).run P σ.w=.ok (.slice (if c=(l.getD 0).toNat then A else A.map (·.add ((l.getD 0).toNat*Q))) (r.toNat - (l.getD 0).toNat) (c - (l.getD 0).toNat)) σ.w:=by
       rw[M];simp[Instr.sliceAt,Instr.slice,run_underlying W,hb,Z1 R,k1]
      simp[execOp,ho,zB]
     .exact SN h2 h3 h4 G.2 h6 hpq hqc
    .cases h
   .cases h
  .cases h
 .rename_i n e id off yQ l r U W f X Y;split at h
  .rename_i dd j;split at h
   .rename_i C1 off' n' s xs hs2 hg;split at h
    .rename_i y;simp only[yi,yP]at y;obtain⟨⟨⟨rfl,R⟩,Z⟩,k4⟩:=y;cases h;obtain⟨z,c2⟩:=Zl.1 hc;obtain⟨z,c3⟩:=Zl.1 z;have:=TM ok J ho W f X Y j hg z c3.1 R Z k4 c2
     have T:σ.H.set id (.var dd af)=σ.H:=by
      obtain⟨h1,h2⟩:=yu.1 j;rw[<-h2,List.set_getElem_self]
     grind
    .cases h
   .cases h
  .cases h
 .cases h
theorem ZDn(ok:Ok σ)(I:aD σ ts a)(h:cX P o ts σ.H hs=ab (C,d,H',hs'))(hc:aX C):YL P o a σ d H':=by
 unfold cX at h;split at h
 .rename_i x F;have hv:=Zq (P:=P) I o.type x;split at h
  .rename_i t' A;split at h
   .split at h
    .rename_i e s J Q;rw[Q]at hv;split at h
     .rename_i i M;split at h
      .cases h;obtain⟨to,ok'⟩:=WD (σ':={ σ with m:=σ.m++[ad],H:=σ.H++[.log i.size e []]}) ok rfl rfl rfl rfl (World.grownBy.refl σ.w ad) (.inl rfl) (λ_=>.inl ⟨rfl,rfl⟩);refine ZM (σ':={ σ with m:=σ.m++[ad],H:=σ.H++[.log i.size e []]}) (v:=.slice ad 0 0) (by simp[execOp,F,nI hv]) to ok' ?_;rw[Zh rfl];simp only[yH];refine⟨λ_ Q=>(by cases Q),ad,0,rfl,ym _,by simp[maxLen],Ym _,λ_=>rfl,λh=>absurd rfl h,e,[],by simp,ym _,λ_=>.inl ⟨?_,rfl,rfl⟩⟩;rw[yaq (by rw[ok.len];exact ym _),ok.len];simp
      .cases h
     .cases h
    .cases h
   .cases h
  .rename_i t' A;split at h
   .split at h
    .rename_i e s J Q;rw[Q]at hv;split at h
     .rename_i i M;split at h
      .cases h;let σ':Sg:={ σ with m:=σ.m++[ad],H:=σ.H++[.row 0 i.size ae e (.p (.arr 0 i.size []))]}
       have hmlast:σ'.m[σ.H.length]? =ab ad:=by
        show(σ.m++[ad])[σ.H.length]? =_;rw[yaq (by rw[ok.len];exact ym _),ok.len];simp
       obtain⟨to,ok'⟩:=WD (σ':=σ') ok rfl rfl rfl rfl (World.grownBy.refl σ.w ad) (.inl rfl) (λ_=>⟨0,by simp[aR],.inl ⟨rfl,rfl⟩⟩);refine ZM (σ':=σ') (v:=.slice ad 0 0) (by simp[σ',execOp,F,nI hv]) to ok' ?_;rw[Zh rfl];simp only[yH];exact⟨ad,0,rfl,ym _,by simp[maxLen],λ_=>rfl,λh=>absurd h (Nat.lt_irrefl _),0,i.size,ae,e,.p (.arr 0 i.size []),by simp[σ'],ym _,λ_=>⟨rfl,.inl ⟨hmlast,rfl,rfl⟩⟩⟩
      .cases h
     .cases h
    .cases h
   .cases h
  .rename_i t' A;split at h
   .exact UV ok I (by simp[execOp,F]) h hc
   .cases h
  .cases h
 .rename_i x F;split at h
  .rename_i t' A;split at h
   .exact UV ok I (by simp[execOp,F]) h hc
   .cases h
  .cases h
 .rename_i t l c F;split at h
  .rename_i e n n' J W hcp;split at h
   .rename_i i A M;split at h
    .rename_i j;simp only[yi,yE]at j;cases h;exact ZDk ok I F J W hcp M j.1 j.2 hc.1 hc.2.1 hc.2.2.1 hc.2.2.2.1
    .cases h
   .rename_i i A M;split at h
    .rename_i j;simp only[yi,yE]at j;cases h;exact ZDl ok I F J W hcp M j.1 hc.1 hc.2.1 hc.2.2.1 hc.2.2.2.1
    .cases h
   .rename_i i A M;split at h
    .rename_i z hz;split at h
     .rename_i j;simp only[yi,yP,Bool.not_eq_true']at j;cases h;exact ZAg ok I F J W hcp M j.1.1.1 j.1.1.2 hz j.1.2 j.2 hc.1 hc.2.1 hc.2.2.1 hc.2.2.2.1
     .cases h
    .cases h
   .cases h
  .cases h
 .rename_i t F;cases h;exact ZDj ok F
 .rename_i t m k x F;split at h
  .rename_i kt et id J Q;split at h
   .rename_i kk v t' bS l A j hv R;split at h
    .rename_i hkt;cases h;exact ZxT ok I F J Q j hv R hkt hc.1 hc.2.1 hc.2.2.1
    .cases h
   .cases h
  .cases h
 .rename_i t F;split at h
  .rename_i i M;split at h
   .split at h
    .rename_i j;simp only[yi]at j;cases h;exact Zpf (ZH8 ok F M (by obtain⟨z,hz,_⟩:=lu j.1.1;rw[hz];rfl) j.1.2 j.2) _
    .cases h
   .cases h
  .cases h
 .rename_i t x F;have hv:=Zq (P:=P) I t x;split at h
  .split at h
   .rename_i j;cases h;refine Zpf (ZMk ok F j ?_) _;unfold nr;split
    .rename_i y hy;exact ZC4 hy hv
    .exact hv
   .cases h
  .cases h
 .rename_i t x y F;split at h
  .rename_i id off yQ Q;split at h
   .rename_i dd R;split at h
    .rename_i C1 Z sub A hg;split at h
     .rename_i new hn;split at h
      .rename_i d' hp;split at h
       .rename_i j;simp only[yi,yT]at j;obtain⟨⟨⟨⟨X,k2⟩,k3⟩,k4⟩,k5⟩:=j;split at h
        .cases h;obtain⟨S,Y⟩:=Zl.1 hc;exact ZvM (ZIa ok I F Q R hg S Y.1 hn hp X k2 k3 k4) R _
        .cases h
       .cases h
      .cases h
     .cases h
    .cases h
   .cases h
  .rename_i id v off yQ Q;split at h
   .rename_i v' s e dd R;split at h
    .rename_i C1 Z sub A hg;split at h
     .rename_i new hn;split at h
      .rename_i d' hp;split at h
       .rename_i j;simp only[yi,yT]at j;obtain⟨⟨⟨⟨⟨⟨X,k2⟩,k3⟩,k4⟩,k5⟩,k6⟩,k7⟩:=j;cases h;obtain⟨S,Y⟩:=Zl.1 hc;exact ZxV ok I F Q R k6 hg S Y.1 hn hp X k2 k3 k4 k7
       .cases h
      .cases h
     .cases h
    .cases h
   .cases h
  .cases h
 .rename_i t len parts F;split at h
  .rename_i id A;split at h
   .rename_i e v s st e' dd J R;split at h
    .rename_i i xs M W;split at h
     .rename_i j;simp only[yi,yE,yP,yT]at j;obtain⟨⟨j,rfl⟩,rfl⟩:=j;cases h;exact ZAi ok I F J M j.1.1 j.1.2 j.2 W R
     .cases h
    .cases h
   .cases h
  .rename_i A;split at h
   .rename_i e J;split at h
    .rename_i i xs M W;split at h
     .rename_i j;simp only[yi,yE,yP]at j;cases h;exact ZDm ok I F J M j.1.1 j.1.2 j.2 W
     .cases h
    .cases h
   .cases h
  .rename_i A;split at h
   .rename_i e J;split at h
    .rename_i i xs M W;split at h
     .rename_i j;simp only[yi,yE,yP]at j;cases h;exact Vr (ZC9 ok I F J M j.1.1 j.1.2 j.2 W) (Wk.nD (by rw[<-Pl.cK];exact cN _)) (bZ.append (bZ.refl _) (.cons (.log (by rw[<-Pl.cK];exact cN _)) .nil))
     .cases h
    .cases h
   .cases h
  .cases h
 .rename_i t x lo M F;split at h
  .rename_i n e id off yQ l r J Q W hr;split at h
   .rename_i A;split at h
    .rename_i dd st R;split at h
     .rename_i C1 Z n' s xs hs2 hg;split at h
      .rename_i j;simp only[yi,yP]at j;obtain⟨⟨⟨rfl,k2⟩,k3⟩,k4⟩:=j;cases h;obtain⟨S,Y⟩:=Zl.1 hc;obtain⟨S,c3⟩:=Zl.1 S;exact TM ok I F J Q W hr R hg S c3.1 k2 k3 k4 Y
      .cases h
     .cases h
    .cases h
   .cases h
  .rename_i e id v s lo' n l r J Q W hr;split at h
   .rename_i A;split at h
    .rename_i v' s' e' N s2 xs R;split at h
     .rename_i j;simp only[yi,yT,yE,yP]at j;obtain⟨⟨⟨⟨⟨⟨⟨X,k2⟩,k3⟩,k4⟩,k5⟩,k6⟩,k7⟩,k8⟩:=j;simp only[yn,yq]at h;obtain⟨rfl,rfl,rfl,rfl⟩:=h;subst k3;subst k4;subst k5;subst k7
      have hR:bH P o ts σ.H (.raw::A)=ab ([0<=l.getD 0,l.getD 0<=r,0+r.toNat<=N],.rv id v' s2 (0+(l.getD 0).toNat) (r.toNat - (l.getD 0).toNat),A):=by
       unfold bH;rw[F];dsimp only;rw[J,Q,W,hr];dsimp only;rw[R];simp[aR,X,k2,k6]
      have:=Zrj ok I F hR ⟨by rw[k8];omega,by rw[k8];exact hc.1,by rw[yar];exact hc.2.1,aw⟩;rw[k8]at this;exact Vr this (Wk.of_eq (by simp)) (bZ.eu R (.shr hc.2.1))
     .cases h
    .cases h
   .cases h
  .cases h
 .rename_i c F;split at h
  .rename_i T;split at h
   .rename_i x y t u U G;split at h
    .rename_i e id nn s xs J Q;split at h
     .rename_i i C1 ys A s' e' zs M E R;split at h
      .rename_i j;simp only[yi,yE,yP]at j;obtain⟨⟨⟨⟨X,k2⟩,rfl⟩,rfl⟩,k5⟩:=j;cases h;obtain⟨S,rfl,Y,c3,_⟩:=Zl.1 hc;exact ZvI ok I F T U G J Q M X k2 k5 (vh ok I E S) R Y c3
      .cases h
     .cases h
    .rename_i e s J Q;split at h
     .rename_i A i ys M E;split at h
      .rename_i j;simp only[yi,yE]at j;cases h;exact ZvH ok I F T U G J Q M j.1 j.2 E hc.1 hc.2.1
      .cases h
     .rename_i A i ys M E;split at h
      .rename_i j;simp only[yi,yE]at j;cases h;exact Ztv ok I F T U G J Q M j.1 j.2 (pc (P:=P) I E) hc.1 hc.2.1
      .cases h
     .cases h
    .rename_i e id v s lo n J Q;split at h
     .rename_i hs0;split at h
      .rename_i i C1 ys A M E;split at h
       .rename_i j;cases h;obtain⟨S,rfl,_⟩:=Zl.1 hc;exact Ztw ok I F T U G J Q M (vh ok I E S)
       .cases h
      .cases h
     .rename_i hs0;split at h
      .rename_i i C1 ys A v' s' st' e' N s'' xs M E R;split at h
       .rename_i j;simp only[yi,yE,yP,yT]at j;obtain⟨⟨⟨⟨⟨⟨⟨X,rfl⟩,rfl⟩,rfl⟩,rfl⟩,k5⟩,rfl⟩,rfl⟩:=j;cases h;obtain⟨S,cc⟩:=Zl.1 hc;have Y:=cc.1;have c3:=cc.2.1;have c4:=cc.2.2.1;have c5:=cc.2.2.2.1;exact Zms ok I c5 F T U G J Q M X k5 (vh ok I E S) R Y c3 c4
       .cases h
      .cases h
     .rename_i hs0;split at h
      .rename_i i C1 ys A v' s' e' N s'' xs M E R;split at h
       .rename_i j;simp only[yi,yE,yP,yT]at j;obtain⟨⟨⟨⟨⟨⟨⟨X,rfl⟩,rfl⟩,rfl⟩,rfl⟩,k5⟩,rfl⟩,rfl⟩:=j;cases h;obtain⟨S,cc⟩:=Zl.1 hc;exact Ztx ok I F T U G J Q M X k5 (vh ok I E S) R cc.1 cc.2.1
       .cases h
      .cases h
     .cases h
    .cases h
   .cases h
  .rename_i T;split at h
   .rename_i x t U G;split at h
    .rename_i e id v s lo n J Q;split at h
     .rename_i i z v' s' e' N s'' xs M hz R;split at h
      .rename_i j;simp only[yi,yE,yP,yT]at j;obtain⟨⟨⟨⟨⟨⟨X,rfl⟩,rfl⟩,rfl⟩,rfl⟩,k5⟩,k6⟩:=j;cases h;obtain⟨rfl,hc1,_⟩:=hc;exact Vr (ZxW ok I F T U G J Q M X k5 hz k6 R hc1) (Wk.refl _) (bZ.bE _ _ (.row ⟨Wk.p (bJ.jE (bm.bE (mf z) _ _)),rfl⟩))
      .cases h
     .cases h
    .cases h
   .cases h
  .rename_i T;split at h
   .rename_i x y t u U G;split at h
    .rename_i e id off yQ s lo n J Q;split at h
     .rename_i ys dd E R;split at h
      .rename_i C1 Z N s' xs A hg;split at h
       .rename_i dd' hp;split at h
        .rename_i j;simp only[yi,yP]at j;obtain⟨⟨rfl,k2⟩,k3⟩:=j;cases h;obtain⟨S,Y⟩:=Zl.1 hc;exact ZKy ok I F T U G J Q E R hg S Y.1 hp k2 k3 Y.2.1 Y.2.2.1
        .cases h
       .cases h
      .cases h
     .cases h
    .cases h
   .cases h
  .rename_i f T;split at h
   .rename_i g cap r Hc ids A hf;split at h
    .rename_i j;simp only[yi,yT,yP]at j;split at h
     .rename_i args' Hin r' Hb U hin hr hb;cases h;exact vg ok I F T hf j.1.1.1 j.1.1.2 j.1.2 j.2 U hin hr hb hc.1
     .cases h
    .cases h
   .cases h
  .rename_i recv name T;split at h
   .rename_i t x g r Hc ids A hf;split at h
    .rename_i j;simp only[yi,yT,yP]at j;split at h
     .rename_i args' Hin r' Hb U hin hr hb;cases h;exact ZvJ ok I F T hf j.1.1.1 j.1.1.2 j.1.2 j.2 U hin hr hb hc.1 hc.2.1
     .cases h
    .cases h
   .cases h
  .cases h
 .cases h
theorem Ys(ok:Ok σ)(j:aD σ ts a)(h:cD P o ts σ.H hs=ab (C,d,H',hs'))(hc:aX C):YL P o a σ d H':=by
 unfold cD at h;split at h
 .rename_i C1 d1 m f;cases h;exact ZDf ok j f hc
 .split at h
  .rename_i C1 d1 m f;cases h;have l:=f;unfold bH at l;split at l
   .rename_i t x g;exact ZKx ok j g f hc
   .rename_i t x lo A g;exact Zrj ok j g f hc
   .rename_i t x ix y g;exact ZEX ok j g f hc
   .rename_i c g;split at l
    .rename_i z;exact ZEY ok j g z f hc
    .cases l
   .cases l
  .exact ZDn ok j h hc
theorem kD{σ':Sg}{v:yh}(g:aD σ' ts a)(hd:yJ σ' d v):aD σ' (fS ts o.dst d) (a.put o.dst v):=by
 unfold fS Act.put
 cases o.dst with
 |none=>exact g
 |some t=>
  refine⟨by simpa using g.size,λi e f=> ?_,g.defers⟩;rw[ybx]at f;split at f
  .rename_i h;subst h;split at f
   .rename_i j;cases f;have:t < a.tmps.size:=by rw[g.size];exact j
    simpa[Array.getD,this] using hd
   .cases f
  .rename_i h;have:=g.at_ i e f;simpa[Array.getD_eq_getD_getElem?,Array.getElem?_setIfInBounds,h] using this
theorem ZxX{v:yh}{σ':Sg}{dst:yO Tmp}(hc:aX (jg dst d hs).1)(hd:yJ σ' d v):yJ σ' (jg dst d hs).2.1 v:=by
 exact hd
theorem Zpg{σ':Sg}:yJ σ' (.bp []) undef:=by
 rw[Zh rfl];simp only[yH];exact⟨#[],rfl,by simp[aH]⟩
theorem vj{ops:Array yj}(ok:Ok σ)(g:aD σ ts a)(h:dk P ops o ts σ.H hs=ab (C,d,H',hs'))(hc:aX C)(K:Act->yr->Prop)(Q:Exit->Act->yr->Prop)
 (J:∀v σ',σ'.H=H'->To σ σ'->Ok σ'->aD σ' (fS ts o.dst d) (a.put o.dst v)->K (a.put o.dst v) σ'.w):
 if Region.wanted o (yielded ops a.tmps) then o.wp P a σ.w K Q else K (a.put o.dst undef) σ.w:=by
 unfold dk at h;split at h
 .rename_i A;simp only[yv,yq]at h;obtain⟨⟨C1,d1,H1,E⟩,l,rfl,rfl,rfl,rfl⟩:=h;obtain⟨R,S⟩:=Zl.1 hc;have m:Region.wanted o (yielded ops a.tmps)=ae:=by simp[Region.wanted,A]
  rw[yW m];exact Ys ok g l R K Q λv σ' T to y U=>J v σ' T to y (kD (g.to to.leaf) (ZxX S U))
 .rename_i j want A;split at h
  .rename_i t β E F
   have M:yielded ops a.tmps j=ab t:=by
    unfold yielded;simp only[yv]at F;obtain⟨z,l,G⟩:=F;rw[l];simp only[Option.bind_some]
    have f:z < ts.length:=by
     all_goals grind
    have W:=g.at_ z (.p (.bool t)) (by
     have:=yab f;simp only[List.getD,this,Option.getD_some]at G;rw[this,G])
    have X:=Yn W;have I:z < a.tmps.size:=by rw[g.size];exact f
    simp_all
   split at h
   .rename_i hb;simp only[yv,yq]at h;obtain⟨⟨C1,d1,H1,hs2⟩,l,rfl,rfl,rfl,rfl⟩:=h;obtain⟨Y,Z⟩:=hc;obtain⟨R,S⟩:=Zl.1 Z;have m:Region.wanted o (yielded ops a.tmps)=ae:=by simp[Region.wanted,A,M,Y,hb]
    rw[yW m];exact Ys ok g l R K Q λv σ' T to y U=>J v σ' T to y (kD (g.to to.leaf) (ZxX S U))
   .rename_i hb;cases h;have Y:t=β:=hc.1
    have m:Region.wanted o (yielded ops a.tmps)=af:=by
     simp only[Region.wanted,A,M,Y];grind
    rw[m];exact J undef σ rfl (To.refl σ) ok (kD g Zpg)
  .rename_i E F;cases h
   have M:yielded ops a.tmps j=ad:=by
    unfold yielded;simp only[yv]at F;obtain⟨z,l,G⟩:=F;rw[l];simp only[Option.bind_some]
    have f:z < ts.length:=by
     all_goals grind
    have W:=g.at_ z (.bp []) (by
     have:=yab f;simp only[List.getD,this,Option.getD_some]at G;rw[this,G])
    have X:=W.2 rfl;simp only[yH]at X;obtain⟨cs,h5,h6⟩:=X;have I:z < a.tmps.size:=by rw[g.size];exact f
    simp_all
   have m:Region.wanted o (yielded ops a.tmps)=af:=by
    simp only[Region.wanted,A,M];grind
   rw[m];exact J undef σ rfl (To.refl σ) ok (kD g Zpg)
  .cases h
theorem Zph{ops:Array yj}(Q:Exit->Act->yr->Prop){ts':yL Dv}:∀(l:yL yj)(k:Nat)(ts:yL Dv)(σ:Sg)(a:Act)(hs hs':yL ao)(C:yL Prop)(H':yL aq),
 (∀j,l[j]? =ops[k+j]?)->Ok σ->aD σ ts a->cA P ops l ts σ.H hs=ab (C,ts',H',hs')->aX C->
 (∀m σ',σ'.H=H'->To σ σ'->Ok σ'->aD σ' ts' m->Q .normal m σ'.w)->wpOps P ops Q (List.range' k l.length) a σ.w
 |[],k,ts,σ,a,hs,hs',C,H',_,y,z,h,M,A=>by
  simp only[cA,yn,yq]at h;obtain⟨rfl,rfl,rfl,rfl⟩:=h
  exact A a σ rfl (To.refl σ) y z
 |o::l,k,ts,σ,a,hs,hs',C,H',R,y,z,h,M,A=>by
  simp only[cA]at h;split at h
  .rename_i C1 d1 H1 E S;split at h
   .rename_i C2 T H2 U W;cases h;obtain⟨X,Y⟩:=Zl.1 M;have Z:ops[k]? =ab o:=by simpa using(R 0).symm
    simp only[yaf,List.range'_succ,wpOps,Z]
    have key:=vj (P:=P) (ops:=ops) y z S X (wpOps P ops Q (List.range' (k+1) l.length)) Q (λv σ1 e1 F G f=>by
     subst e1
     exact Zph Q l (k+1) _ σ1 _ E _ C2 _ (λj=>by have:=R (j+1);simpa[Nat.add_assoc,Nat.add_comm 1 j] using this) G f W Y
      (λm σ' e2 I J g=>A m σ' e2 (F.trans I) J g))
    all_goals grind
   .cases h
  .cases h
end
end Go.Ev
end
section
namespace Go.Ev
section
variable{P:yg}{o:yj}{ts:yL Dv}{H H' H2:yL aq}{hs hs':yL ao}{C:yL Prop}{d:Dv}
theorem ZEZ{id:Nat}(h:oU P o ts=ab id)(J:kA o=af)(e:dG (H[id]?)=dG (H2[id]?)):bH P o ts H2 hs=bH P o ts H hs:=by
 unfold oU at h;unfold bH
 cases l:o.op with
 |load t a=>
  simp only[l]at h ⊢
  cases j:aF P ts 0 a with
  |aj i off M=>
   simp only[j,yn]at h;subst h;simp only
   cases g:H[i]? with
   |none=>
    rw[g]at e
    cases f:H2[i]? with
    |none=>rfl
    |some x=>rw[f]at e;cases x <;> simp[dG]at e
   |some y=>
    rw[g]at e
    cases f:H2[i]? with
    |none=>rw[f]at e;cases y <;> simp[dG]at e
    |some x=>
     rw[f]at e
     cases x <;> cases y <;> simp_all[dG]
  |aZ i v off M=>
   simp only[j,yn]at h;subst h;simp only
   cases g:H[i]? with
   |none=>
    rw[g]at e
    cases f:H2[i]? with
    |none=>rfl
    |some x=>rw[f]at e;cases x <;> simp[dG]at e
   |some y=>
    rw[g]at e
    cases f:H2[i]? with
    |none=>rw[f]at e;cases y <;> simp[dG]at e
    |some x=>
     rw[f]at e
     cases x <;> cases y <;> simp_all[dG]
  |_=>simp[j]at h
 |lookup t x ix Q=>
  simp only[l]at h ⊢
  cases j:aF P ts t x with
  |mp i=>
   simp only[j,yn]at h;subst h
   have m:H2[i]? =H[i]? \/((∃d1 s1,H[i]? =ab (.var d1 s1))/\∃d2 G,H2[i]? =ab (.var d2 G))\/((∃z s1 t1 A d1,H[i]? =ab (.row z s1 t1 A d1))/\∃z s1 t1 A d1,H2[i]? =ab (.row z s1 t1 A d1)):=by
    cases g:H[i]? with
    |none=>
     rw[g]at e
     cases f:H2[i]? with
     |none=>exact .inl rfl
     |some x=>rw[f]at e;cases x <;> simp[dG]at e
    |some y=>
     rw[g]at e
     cases f:H2[i]? with
     |none=>rw[f]at e;cases y <;> simp[dG]at e
     |some x=>
      rw[f]at e;cases x <;> cases y <;> simp_all[dG]
   cases P.underlying t with
   |none=>rfl
   |some u=>
    cases u with
    |map I R=>
     dsimp only;rcases m with m|⟨⟨d1,s1,E⟩,d2,G,F⟩|⟨⟨_,_,_,_,_,E⟩,_,_,_,_,_,F⟩
     .rw[m]
     .rw[E,F];cases aF P ts I ix <;> rfl
     .rw[E,F]
      cases aF P ts I ix <;> rfl
    |_=>rfl
  |_=>simp[j]at h
 |slice t x lo S T=>simp[kA,l]at J
 |_=>simp[l]at h
def fZ(o:yj)(x:yO aq):yO aq:=if kA o=ae then x else dG x
theorem ZKz{id:Nat}(h:oU P o ts=ab id)(e:fZ o (H[id]?)=fZ o (H2[id]?)):bH P o ts H2 hs=bH P o ts H hs:=by
 unfold fZ at e
 cases f:kA o with
 |false=>
  rw[f]at e
  exact ZEZ h f (by simpa using e)
 |true=>
  rw[f,yW rfl,yW rfl]at e;unfold kA at f;split at f
  .rename_i t x lo j y g;unfold oU at h;rw[g]at h;unfold bH;rw[g]
   cases y with
   |some m=>simp at h
   |none=>
    dsimp only at h ⊢;split at h
    .rename_i i off E z;cases h;rw[z]
     cases P.underlying t with
     |none=>rfl
     |some u=>
      cases gA P ts lo with
      |none=>cases u <;> rfl
      |some l=>
       cases gA P ts j with
       |none=>cases u <;> rfl
       |some F=>
        cases hs with
        |nil=>cases u <;> rfl
        |cons A G=>cases u <;> cases A <;> first|rfl|(dsimp only;rw[e])
    .cases h
  .cases f
theorem ZDo{H:yL aq}{x:aq}{i:Nat}(hi:i < H.length):dG ((H++[x])[i]?)=dG (H[i]?):=by
 grind
theorem CP{H:yL aq}{x:aq}{i id:Nat}(h:¬id=i):dG ((H.set id x)[i]?)=dG (H[i]?):=by
 grind
theorem ZBO{H:yL aq}{dd:Dv}{i id:Nat}(f:∃st,H[id]? =ab (.var dd st)):dG ((H.set id (.var dd af))[i]?)=dG (H[i]?):=by
 obtain⟨st,h⟩:=f;by_cases e:id=i
 .subst e;rw[ybx,yW rfl,yW (yu.1 h).1,h];rfl
 grind
theorem ZE0{H:yL aq}{dd:Dv}{v s:Nat}{e:yc}{i id:Nat}(f:∃st,H[id]? =ab (.row v s st e dd)):dG ((H.set id (.row v s af e dd))[i]?)=dG (H[i]?):=by
 obtain⟨st,h⟩:=f;by_cases e:id=i
 .subst e;rw[ybx,yW rfl,yW (yu.1 h).1,h];rfl
 grind
theorem Zrk:∀(ids:yL Nat)(H Hb:yL aq){i:Nat},i < H.length->ids.contains i=af->dG ((aA H ids Hb)[i]?)=dG (H[i]?)
 |[],H,Hb,i,f,_=>by
  simp only[aA]
  grind
 |_::_,H,[],i,f,_=>by simp only[aA]
 |id::r,H,e::Hb,i,f,h=>by
  simp only[List.contains_cons,Bool.or_eq_false_iff,beq_eq_false_iff_ne]at h;simp only[aA];rw[Zrk r (H.set id e) Hb (by simpa using f) h.2];grind
theorem ZE1{dv:Dv}{i:Nat}(h:jB dv H hs=ab (C,d,H',hs')):dG (H'[i]?)=dG (H[i]?):=by
 unfold jB at h
 repeat' split at h
 all_goals first
  |(cases h;done)
  |(cases h
    first
     |exact ZBO ⟨_,by assumption⟩
     |(rename_i f
       simp only[yi,yP,yT]at f;obtain⟨⟨rfl,rfl⟩,rfl⟩:=f;exact ZE0 ⟨_,by assumption⟩))
theorem Zuv{l:yL Nat}{i:Nat}(h:cX P o ts H hs=ab (C,d,H',hs'))(ht:kz P o ts hs=ab l)(hi:i < H.length)(hl:l.contains i=af):dG (H'[i]?)=dG (H[i]?):=by
 unfold cX at h
 repeat' (first|split at h|(dsimp only at h;split at h))
 all_goals first
  |(cases h;done)
  |exact ZE1 h
  |(cases h
    first
     |rfl
     |exact ZDo hi
     |(rw[ybe hi];done)
     |exact ZBO ⟨_,by assumption⟩
     |(rw[ybe (by simpa using hi)]
       refine CP ?_;rintro rfl;simp_all[kz]
       exact hl (by rw[<-ht];simp))
     |(refine Zrk _ _ _ hi ?_
       simp_all[kz])
     |(refine CP ?_
       simp_all[kz]
       done)
     |(refine CP ?_
       rintro rfl;simp_all[kz];exact hl (by rw[<-ht];simp)))
end
end Go.Ev
end
