/- Parts of the proof, in one file. -/
import Derived.Test.YtcbhhaigilifgaaGreatKa
open Option renaming some → ab, none → ad
open Bool renaming true → ae, false → af
open Decidable renaming decide → ag
open Array renaming length_toList → yax, getElem?_toList → yby, toArray_toList → ycf, getElem?_eq_some_iff → yco
open Bool renaming and_eq_true → yi
open Go renaming TypeId → yc, Program → yg, Value → yh, Oper → yj, Operand → yp, World → yr, FuncId → yw
open List renaming length_append → ym, getElem?_eq_some_iff → yu, replicate → yx, length_take → yaa, getElem?_eq_getElem → yab, append_assoc → yac, length_map → yad, length_cons → yag, map_cons → yah, getElem?_cons_succ → yak, getElem?_cons_zero → yam, getElem?_map → yao, getElem?_append_right → yaq, mem_cons_self → yav, mem_cons_of_mem → yaw, length_drop → yaz, mem_singleton → yba, take_append_drop → ybc, getElem?_append_left → ybe, eq_nil_of_length_eq_zero → ybi, mem_of_getElem? → ybj, getElem_of_mem → ybk, ext_getElem? → ybp, mem_of_mem_take → ybr, mem_cons → ybs, length_set → ybu, mem_map → ybw, getElem?_set → ybx, take_of_length_le → ycc, getElem?_take → ycd, length_nil → ycn, mem_of_mem_drop → ycq
open Nat renaming le_refl → yl, zero_add → yar, min_eq_left → yay, add_mul → ybb, mul_le_mul_right → ycb, eq_zero_or_pos → yct
open Option renaming map_eq_some_iff → yv
open Option.some renaming injEq → yn, inj → ybl
open Prod.mk renaming injEq → yq
set_option linter.unusedVariables false
set_option linter.unusedSimpArgs false
section
namespace Go.Ev
theorem ZCl{xs:yL Pl}{i:Nat}{x y:Pl}(f:xs[i]? =ab x)(hs:y.size=x.size):Pl.sizes (xs.set i y)=Pl.sizes xs:=by
 rw[oQ,oQ,List.map_set,hs];congr 1;apply ybp;intro j;rw[ybx];split
 .rename_i h;subst h;have:=(yu.1 f).1;rw[yao,f];simp[this]
 .rfl
theorem SE{xs:yL Dv}{i:Nat}{x y:Dv}(f:xs[i]? =ab x)(hs:y.size=x.size):Dv.sizes (xs.set i y)=Dv.sizes xs:=by
 rw[oP,oP,List.map_set,hs];congr 1;apply ybp;intro j;rw[ybx];split
 .rename_i h;subst h;have:=(yu.1 f).1;rw[yao,f];simp[this]
 .rfl
theorem nF{α:Type}{xs:yL α}{i:Nat}{x y:α}(f:xs[i]? =ab x):xs.set i y=xs.take i++(y::xs.drop (i+1)):=by
 rw[List.set_eq_take_append_cons_drop,yW (yu.1 f).1]
theorem uL{α:Type}{Q:α->Prop}{xs:yL α}{i:Nat}{y:α}(h:∀x,x∈xs->Q x)(f:Q y):∀x,x∈xs.set i y->Q x:=by
 intro x g;rcases List.mem_or_eq_of_mem_set g with h1|h1
 .exact h x h1
 .rw[h1];exact f
theorem qB{J:Sg}:∀{xs:yL Pl}{us:yL yh},ar J.w J.be xs us->aM J (xs.map Dv.p) us
 |[],us,h=>by simpa[ar,aM] using h
 |x::xs,us,h=>by
  simp only[ar]at h;obtain⟨a,b,f,g,j⟩:=h;simp only[yah,aM];exact⟨a,b,f,by simpa[yH] using g,qB j⟩
theorem QD{J:Sg}:∀(yQ:yL Nat)(dd:Dv)(hs hs':yL ao)(C:yL Prop)(off:Nat)(sub:Dv)(us:yL yh),Z6 dd yQ hs=ab (C,off,sub,hs')->aX C->yH J dd us->
 ∃x y z,us=x++(y++z)/\x.length=off/\yH J sub y/\∀new dd' y',X5 new dd yQ hs=ab dd'->new.size=sub.size->yH J new y'->yH J dd' (x++(y'++z))/\dd'.size=dd.size
 |[],dd,hs,hs',C,off,sub,us,h,Z,E=>by
  simp only[Z6,yn,yq]at h;obtain⟨rfl,rfl,rfl,rfl⟩:=h;refine⟨[],us,[],by simp,rfl,E,λnew dd' y' g hs F=> ?_⟩;simp only[X5,yn]at g;subst g
  exact⟨by simpa using F,hs⟩
 |i::yQ,dd,hs,hs',C,off,sub,us,h,Z,E=>by
  cases dd with
  |p q=>
   cases q with
   |agg xs=>
    simp only[Z6]at h;split at h
    .rename_i x f;simp only[yv,yq]at h;obtain⟨⟨C1,G,I,R⟩,h1,rfl,rfl,rfl,rfl⟩:=h;simp only[yH,aA]at E;obtain⟨j,p2,l,rfl,h2,h3,_,S,T⟩:=kV E f;obtain⟨m,q2,A,rfl,h4,h5,U⟩:=QD yQ (.p x) _ _ _ _ _ p2 h1 Z (by simpa[yH] using h3);refine⟨j++m,q2,A++l,by simp,by rw[ym,h2,h4],h5,λnew dd' y' g hs F=> ?_⟩;simp only[X5,f]at g;split at g
     .rename_i y Y;cases g;obtain⟨M,Q⟩:=U new _ y' Y hs F;have k3:y.size=x.size:=by simpa[Dv.size] using Q
      refine⟨?_,by simp only[Dv.size,Pl.size];exact ZCl f k3⟩;simp only[yH,aA];rw[nF f];have e:j++m++(y'++(A++l))=j++((m++(y'++A))++l):=by simp
      rw[e];refine Z0 S ?_;simp only[ar];exact⟨_,_,rfl,by simpa[yH] using M,T⟩
     .rename_i y Y hne;cases g;obtain⟨M,Q⟩:=U new _ y' hne hs F;have k3:y.size=x.size:=by simpa[Dv.size] using Q
      have W:(xs.map Dv.p)[i]? =ab (.p x):=by rw[yao,f];rfl
      refine⟨?_,by
       simp only[Dv.size,Pl.size];rw[SE W k3,oP,oQ,List.map_map];rfl⟩
      simp only[yH];rw[nF W];have e:j++m++(y'++(A++l))=j++((m++(y'++A))++l):=by simp
      rw[e, <-List.map_take, <-List.map_drop];refine qt (qB S) ?_;simp only[aM];exact⟨_,_,rfl,M,qB T⟩
     .cases g
    .cases h
   |arr n s xs=>
    simp only[Z6]at h;split at h
    .rename_i y R;simp only[yv,yq]at h;obtain⟨⟨C1,G,I,R⟩,h1,rfl,rfl,rfl,rfl⟩:=h;obtain⟨f,Z⟩:=Z;simp only[yH,aA]at E;obtain⟨hl,X,E⟩:=E;obtain⟨j,p2,l,rfl,h2,h3,_,S,T⟩:=kV E f;obtain⟨m,q2,A,rfl,h4,h5,U⟩:=QD yQ (.p y) _ _ _ _ _ p2 h1 Z (by simpa[yH] using h3);have hi:i < xs.length:=(yu.1 f).1;refine⟨j++m,q2,A++l,by simp,by rw[ym,h2,h4,aN (Vd X i),yaa,yay (Nat.le_of_lt hi)],h5,λnew dd' y' g hs F=> ?_⟩;simp only[X5]at g;split at g
     .rename_i z hz;cases g;obtain⟨M,Q⟩:=U new _ y' hz hs F;have k3:z.size=y.size:=by simpa[Dv.size] using Q
      have k4:z.size=s:=by rw[k3];exact X y (ybj f)
      refine⟨?_,rfl⟩;simp only[yH,aA];refine⟨by rw[ybu];exact hl,uL X (by rw[AY];exact k4), ?_⟩;rw[nF f];have e:j++m++(y'++(A++l))=j++((m++(y'++A))++l):=by simp
      rw[e];refine Z0 S ?_;simp only[ar];exact⟨_,_,rfl,(lX z).dk _ _ _ (by simpa[yH] using M),T⟩
     .rename_i z hz hne;cases g;obtain⟨M,Q⟩:=U new _ y' hne hs F;have k3:z.size=y.size:=by simpa[Dv.size] using Q
      have k4:z.size=s:=by rw[k3];exact X y (ybj f)
      have W:(xs.map Dv.p)[i]? =ab (.p y):=by rw[yao,f];rfl
      refine⟨?_,rfl⟩;simp only[yH]
      refine⟨by rw[ybu,yad];exact hl,uL (λq hq=>by
       obtain⟨q',hq',rfl⟩:=ybw.1 hq;exact X q' hq') k4, ?_⟩
      rw[nF W];have e:j++m++(y'++(A++l))=j++((m++(y'++A))++l):=by simp
      rw[e, <-List.map_take, <-List.map_drop];refine qt (qB S) ?_;simp only[aM];exact⟨_,_,rfl,M,qB T⟩
     .cases g
    .cases h
   |_=>simp[Z6]at h
  |agg xs=>
   simp only[Z6]at h;split at h
   .rename_i x f;simp only[yv,yq]at h;obtain⟨⟨C1,G,I,R⟩,h1,rfl,rfl,rfl,rfl⟩:=h;simp only[yH]at E;obtain⟨j,p2,l,rfl,h2,h3,_,S,T⟩:=lW E f;obtain⟨m,q2,A,rfl,h4,h5,U⟩:=QD yQ x _ _ _ _ _ p2 h1 Z h3;refine⟨j++m,q2,A++l,by simp,by rw[ym,h2,h4],h5,λnew dd' y' g hs F=> ?_⟩;simp only[X5,f,yv]at g;obtain⟨y,Y,rfl⟩:=g;obtain⟨M,Q⟩:=U new _ y' Y hs F;refine⟨?_,by simp only[Dv.size];exact SE f Q⟩;simp only[yH];rw[nF f];have e:j++m++(y'++(A++l))=j++((m++(y'++A))++l):=by simp
    rw[e];refine qt S ?_;simp only[aM];exact⟨_,_,rfl,M,T⟩
   .cases h
  |arr n s xs=>
   simp only[Z6]at h;split at h
   .rename_i x f;simp only[yv,yq]at h;obtain⟨⟨C1,G,I,R⟩,h1,rfl,rfl,rfl,rfl⟩:=h;simp only[yH]at E;obtain⟨hl,X,E⟩:=E;obtain⟨j,p2,l,rfl,h2,h3,_,S,T⟩:=lW E f;obtain⟨m,q2,A,rfl,h4,h5,U⟩:=QD yQ x _ _ _ _ _ p2 h1 Z h3;have hi:i < xs.length:=(yu.1 f).1;refine⟨j++m,q2,A++l,by simp,by rw[ym,h2,h4,cY (λy Y=>X y (ybr Y)),yaa,yay (Nat.le_of_lt hi)],h5,λnew dd' y' g hs F=> ?_⟩;simp only[X5,f,yv]at g;obtain⟨y,Y,rfl⟩:=g;obtain⟨M,Q⟩:=U new _ y' Y hs F;refine⟨?_,rfl⟩;simp only[yH];refine⟨by rw[ybu];exact hl,uL X (by rw[Q];exact X x (ybj f)), ?_⟩;rw[nF f];have e:j++m++(y'++(A++l))=j++((m++(y'++A))++l):=by simp
    rw[e];refine qt S ?_;simp only[aM];exact⟨_,_,rfl,M,T⟩
   .cases h
  |_=>simp[Z6]at h
section
variable{P:yg}{o:yj}{a:Act}{J:Sg}{ts:yL Dv}{hs hs':yL ao}{C:yL Prop}{d:Dv}
theorem qC{J':Sg}(f:(execOp a.eval o).run P J.w=.ok .skip J'.w)(to:To J J')(ok:Ok J'):YD P o a J .an J'.H:=by
 intro K Q h;unfold Oper.wp;rw[f];exact h undef J' rfl to ok Yk
theorem SF{v:Dv}{u:yh}(f:yJ J v u):yJ J v.cS u:=by
 unfold Dv.cS;split
 .rename_i x g;exact AT g f
 .exact f
theorem SG{yQ:yL Nat}{dd v new:Dv}{u:yh}(h:jc yQ dd v=ab new)(f:yJ J v u):yJ J new u:=by
 unfold jc at h;split at h
 .cases h;exact SF f
 .split at h
  .cases h;exact SF f
  .cases h;exact f
theorem oU{x y z y':yL yh}{cs:Array yh}{n:Nat}(h:cs.toList.take n=x++(y++z))(hl:y'.length=y.length)(hn:n<=cs.size):
 (cs.toList.take x.length++y'++cs.toList.drop (x.length+y'.length)).take n=x++(y'++z)/\(cs.toList.take x.length++y'++cs.toList.drop (x.length+y'.length)).length=cs.size:=by
 have g:n=x.length+(y.length+z.length):=by
  have:=congrArg List.length h;simp only[yaa,yax,ym]at this;omega
 have e:cs.toList=x++(y++z)++cs.toList.drop n:=by rw[<-h,ybc]
 have j:cs.toList.take x.length=x:=by rw[e];simp
 have l:cs.toList.drop (x.length+y'.length)=z++cs.toList.drop n:=by
  have m:cs.toList=(x++y)++(z++cs.toList.drop n):=by
   have:x++y++(z++cs.toList.drop n)=x++(y++z)++cs.toList.drop n:=by simp
   rw[this];exact e
  have f:x.length+y'.length=(x++y).length:=by rw[ym,hl]
  rw[f];have:=congrArg (List.drop (x++y).length) m;rw[List.drop_left]at this;exact this
 rw[j,l];constructor
 .have:x++y'++(z++cs.toList.drop n)=(x++(y'++z))++cs.toList.drop n:=by simp
  rw[this,g];have f:x.length+(y.length+z.length)=(x++(y'++z)).length:=by simp[hl]
  rw[f];exact List.take_left
 .simp only[ym,yaz,yax];omega
theorem ZHi(ok:Ok J)(yM:aC J ts a){t:yc}{x y:yp}{id off:Nat}{yQ:yL Nat}{dd sub new dd':Dv}{C1:yL Prop}{off':Nat}(ho:o.op=.store t x y)(hx:aF P ts 0 x=.ak id off yQ)
 (hH:J.H[id]? =ab (.var dd ae)) (hg:Z6 dd yQ hs=ab (C1,off',sub,hs')) (hc:aX C1) (he:off'=off) (hn:jc yQ dd (aF P ts t y)=ab new) (hp:X5 new dd yQ hs=ab dd')
 (z:new.bF=ae) (hsz:new.size=sub.size) (ht:P.cellsOf t=new.size) (hi:(P.info? t).isSome=ae):YD P o a J .an (J.H.set id (.var dd' ae)):=by
 subst he;have l:=Zo (P:=P) yM 0 x;have T:=SG hn (Zo (P:=P) yM t y);rw[hx]at l;obtain⟨b,hm,hv,l⟩:=lc l;obtain⟨b',E,S,h1,h2,h3,h4⟩:=ok.dD id _ _ hH hm;cases h1;obtain⟨p1,p2,p3,h5,h6,h7,h8⟩:=QD yQ dd hs hs' C1 off' sub _ hg hc h3;have f:=W6 z T;obtain⟨h9,F⟩:=h8 new dd' _ hp hsz f;have G:(a.eval y).cells.toList.length=new.size:=Xu _ _ f;have U:p2.length=sub.size:=Xu _ _ h7;have W:(a.eval y).cells.toList.length=p2.length:=by rw[G,U,hsz]
 obtain⟨k1,k2⟩:=oU h5 W h4;rw[h6]at k1 k2
 have X:off'+(a.eval y).cells.toList.length<=E.size:=by
  have:=congrArg List.length h5;simp only[yaa,yax,ym]at this;omega
 have I:∀u,u∈(a.eval y).cells.toList->u.oneCell'=ae:=qx new _ z f;have M:=run_storeCells_at P b off' S (a.eval y).cells.toList 0 E J.w h2 (by simpa using X) I;simp only[Nat.add_zero]at M;let g:Array yh:=(E.toList.take off'++(a.eval y).cells.toList++E.toList.drop (off'+(a.eval y).cells.toList.length)).toArray;let J':Sg:={ J with m:=J.m.set id (ab b),H:=J.H.set id (.var dd' ae),w:=J.w.setRow b g};have zV:J'.w.heap[b]? =ab (.cells g S (0,0)):=setRow_heap J.w b E _ S _ h2;have Q:∀j,b≠j->J'.w.heap[j]? =J.w.heap[j]? :=λj hj=>setRow_other J.w b j _ (Ne.symm hj)
 obtain⟨to,Y⟩:=YF (J':=J') (mi:=ab b) (mi':=ab b) ok hH hm rfl rfl rfl rfl rfl rfl rfl (by simp[J'])
  (λj hj Z=>Q j (λhh=>Z (by rw[hh]))) (λb' o v _ hu _=>by cases hu) (λo _ hu=>by cases hu) (.inl rfl) (λ_=>⟨rfl,dd',ae,rfl⟩) (λ⟨d,st,h⟩=>by cases h)
  (λs e xs h=>by cases h) (λR=>⟨b,g,S,rfl,zV,by rw[F];show yH J' dd' (g.toList.take dd.size);rw[show g.toList.take dd.size=p1++((a.eval y).cells.toList++p3) from k1];exact Z9 R dd' _ h9,by
    rw[F];show dd.size<=g.size;have:g.size=E.size:=k2;omega⟩)
 refine qC (J':=J') ?_ to Y
 cases A:P.info? t with
 |none=>simp[A]at hi
 |some i=>
  have hs:(a.eval y).cells.size=i.size:=by
   rw[<-yax,G, <-ht];simp[Program.cellsOf,A]
  simp only[execOp,ho,l,Instr.storeAt,Instr.sureAddr,storeVar,sizeOf,typeInfo,Sem.run_bind,run_program,Result.andThen_ok,A,Sem.run_pure,hs,ne_eq,not_true,if_false,M];rfl
theorem SH(ok:Ok J)(Q:aC J ts a){t e:yc}{x:yp}{lo hi:yO yp}{id off n s:Nat}{yQ:yL Nat}{dd:Dv}{st:Bool}{xs:yL Pl}{C1:yL Prop}{off':Nat}{l r:yO Int}
 (ho:o.op=.slice t x lo hi ad) (hu:P.underlying t=ab (.array n e)) (hx:aF P ts t x=.ak id off yQ) (hl:gv P ts lo=ab l) (hr:gv P ts hi=ab r)
 (hH:J.H[id]? =ab (.var dd st)) (hg:Z6 dd yQ hs=ab (C1,off',.p (.arr n s xs),hs')) (hc:aX C1) (he:off'=off) (hce:P.cellsOf e=s) (R:(P.info? e).isSome=ae) (T:n<=maxLen)
 (y:aX (YI n l r)):YD P o a J (.p (.sl (ab ae) s (Vc xs l r))) (J.H.set id (.var dd af)):=by
 have f:=Zo (P:=P) Q t x;rw[hx]at f;obtain⟨b,M,hv,f⟩:=lc f;obtain⟨cs,t',p1,X,p3,h2,h4,h5,h6,Y,h3,h8⟩:=uK ok M hH hg hc he;simp only[yH,aA]at Y;obtain⟨h9,U,W⟩:=Y;subst h9;let J':Sg:={ J with m:=J.m.set id (ab b),H:=J.H.set id (.var dd af)};have z:J'.m[id]? =ab (ab b):=aj M;have E:J'.H[id]? =ab (.var dd af):=aj hH
 obtain⟨to,G⟩:=YF (J':=J') (mi:=ab b) (mi':=ab b) ok hH M rfl rfl rfl rfl rfl rfl rfl (yl _)
  (λ_ _ _=>rfl) (λ_ _ _ _ _ h=>h) (λo _ hu=>rfl) (.inl rfl) (λ_=>⟨rfl,dd,af,rfl⟩) (λ⟨d,st,h⟩=>by cases h)
  (λs e xs h=>by cases h) (λI=>⟨b,cs,t',rfl,h2,Z9 I dd _ h3,h4⟩)
 have g:Wn J'.w J'.be b off X:=λj u hu=>by
  refine⟨h8 j u hu,.inr (ok.own id b M),λZ e' g1 g2=> ?_⟩;have:Z=id:=G.inj Z id _ g1 z;subst this;rw[E]at g2;cases g2;rfl
 obtain⟨p,q,hb,k1,k2,rfl,rfl⟩:=nA (P:=P) (w:=J.w) af xs.length xs.length _ _ _ _ (Yt Q hl) (Yt Q hr) y (yl _);obtain⟨j1,j2,j3,j4,j5,j6,j7⟩:=uD (A:=ab ⟨b,off,ad⟩) (w:=J'.w) (S:=J'.be) U (yl _) T (λhA=>by cases hA) (λ_=>⟨b,off,X,rfl,aD to.leaf.cells _ _ W,g⟩) k1 k2
 have zB:(Instr.sliceAt t (a.eval x) (lo.map a.eval) (hi.map a.eval) ad).run P J.w=.ok (.slice (ab (if xs.length=(l.getD 0).toNat then(⟨b,off,ad⟩:Addr) else(⟨b,off,ad⟩:Addr).add ((l.getD 0).toNat*s))) ((r.getD (xs.length:Int)).toNat - (l.getD 0).toNat) (xs.length - (l.getD 0).toNat)) J.w:=by
  rw[f];simp[Instr.sliceAt,Instr.sureAddr,run_underlying hu,hb,ZV R,hce]
 have F:(execOp a.eval o).run P J.w=.ok (.value (.slice (ab (if xs.length=(l.getD 0).toNat then(⟨b,off,ad⟩:Addr) else(⟨b,off,ad⟩:Addr).add ((l.getD 0).toNat*s))) ((r.getD (xs.length:Int)).toNat - (l.getD 0).toNat) (xs.length - (l.getD 0).toNat))) J'.w:=by
  show _=Result.ok _ J.w;simp only[execOp,ho,Option.map_none,Sem.run_bind,zB,Result.andThen_ok,Sem.run_pure]
 refine ZJ F to G ?_;rw[uE xs l r y];have:=Yq (J:=J') j1 (by rw[j2];exact j3) j4 (Qy j5) j6 j7;rw[j2]at this;simpa[apply_ite] using this
end
theorem uM:∀{ids:yL Nat},once ids=ae->∀(i j id:Nat),ids[i]? =ab id->ids[j]? =ab id->i=j
 |[],_,i,j,id,h,_=>by simp at h
 |x::r,l,i,j,id,f,g=>by
  simp only[once,yi,Bool.not_eq_true']at l;have m:x ∉ r:=by simpa using l.1
  cases i with
  |zero=>
   cases j with
   |zero=>rfl
   |succ j=>
    simp only[yam,yn]at f;simp only[yak]at g;subst f
    exact absurd (ybj g) m
  |succ i=>
   cases j with
   |zero=>
    simp only[yam,yn]at g;simp only[yak]at f;subst g
    exact absurd (ybj f) m
   |succ j=>
    simp only[yak]at f g;rw[uM l.2 i j id f g]
theorem cA{ids:yL Nat}{id j:Nat}(h:ids.idxOf? id=ab j):ids[j]? =ab id:=by
 induction ids generalizing j with
 |nil=>simp at h
 |cons x r f=>
  rw[List.idxOf?_cons]at h;split at h
  .rename_i g;cases h;have:x=id:=by simpa using g
   simp[this]
  .simp only[yv]at h;obtain⟨k,l,rfl⟩:=h;simpa using f l
theorem cW{ids:yL Nat}(ho:once ids=ae){id j:Nat}(h:ids[j]? =ab id):ids.idxOf? id=ab j:=by
 cases f:ids.idxOf? id with
 |none=>
  rw[List.idxOf?_eq_none_iff]at f
  exact absurd (ybj h) f
 |some k=>rw[uM ho k j id (cA f) h]
theorem BK{α:Type}:∀(H:yL α)(ids:yL Nat)(Hb:yL α),ids.length<=Hb.length->(aw H ids Hb).length=H.length+(Hb.length - ids.length)
 |H,[],Hb,_=>by simp[aw]
 |H,id::r,[],h=>by simp at h
 |H,id::r,e::Hb,h=>by
  simp only[yag]at h;rw[aw,BK _ r Hb (by omega),ybu];simp
theorem qD{α:Type}:∀(H:yL α)(ids:yL Nat)(Hb:yL α)(i:Nat),ids.length<=Hb.length->i < H.length->i ∉ ids->(aw H ids Hb)[i]? =H[i]?
 |H,[],Hb,i,_,f,_=>by simp only[aw];rw[ybe f]
 |H,id::r,[],i,h,_,_=>by simp at h
 |H,id::r,e::Hb,i,h,f,g=>by
  simp only[yag]at h;simp only[ybs,not_or]at g;rw[aw,qD _ r Hb i (by omega) (by simpa using f) g.2,ybx,yX (Ne.symm g.1)]
theorem uN{α:Type}:∀(H:yL α)(ids:yL Nat)(Hb:yL α)(j id:Nat),once ids=ae->ids.length<=Hb.length->(∀i,i∈ids->i < H.length)->ids[j]? =ab id->(aw H ids Hb)[id]? =Hb[j]?
 |H,[],Hb,j,id,_,_,_,h=>by simp at h
 |H,x::r,[],j,id,_,h,_,_=>by simp at h
 |H,x::r,e::Hb,j,id,l,m,f,h=>by
  simp only[once,yi,Bool.not_eq_true']at l;have y:x ∉ r:=by simpa using l.1
  simp only[yag]at m;rw[aw]
  cases j with
  |zero=>
   simp only[yam,yn]at h;subst h;have g:x < H.length:=f x (yav ..);rw[qD _ r Hb x (by omega) (by simpa using g) y]
   simp[g]
  |succ j=>
   simp only[yak]at h ⊢;exact uN _ r Hb j id l.2 (by omega) (λi z=>by rw[ybu];exact f i (yaw _ z)) h
theorem uO{α:Type}:∀(H:yL α)(ids:yL Nat)(Hb:yL α)(j:Nat),ids.length<=Hb.length->ids.length<=j->(aw H ids Hb)[H.length+(j - ids.length)]? =Hb[j]?
 |H,[],Hb,j,_,_=>by
  simp only[aw,ycn,Nat.sub_zero];rw[yaq (by omega)]
  simp
 |H,id::r,[],j,h,_=>by simp at h
 |H,id::r,e::Hb,j,h,f=>by
  simp only[yag]at h f
  cases j with
  |zero=>omega
  |succ j=>
   rw[aw];have:=uO (H.set id e) r Hb j (by omega) (by omega);rw[ybu]at this;simp only[yag,yak];rw[<-this];congr 1;omega
theorem V4{H:yL aq}{all:yL Nat}:∀{ids:yL Nat}{Hin:yL aq},aQ H all ids=ab Hin->Hin.length=ids.length
 |[],Hin,h=>by simp only[aQ,yn]at h;subst h;rfl
 |id::r,Hin,h=>by
  simp only[aQ]at h;split at h
  .rename_i e g _ f;cases h;simp[V4 f]
  .cases h
theorem V5{H:yL aq}{all:yL Nat}:∀{ids:yL Nat}{Hin:yL aq}{j id:Nat},aQ H all ids=ab Hin->ids[j]? =ab id->
 ∃e g,H[id]? =ab e/\Hin[j]? =ab g/\e.rn (bc all)=ab g
 |[],Hin,j,id,_,f=>by simp at f
 |x::r,Hin,j,id,h,f=>by
  simp only[aQ]at h;split at h
  .rename_i e E l m;cases h
   cases j with
   |zero=>
    simp only[yam,yn]at f;subst f;simp only[Option.bind_eq_some_iff]at l;obtain⟨y,z,A⟩:=l
    exact⟨y,e,z,rfl,A⟩
   |succ j=>
    simp only[yak]at f ⊢;exact V5 m f
  .cases h
theorem SI{f:Nat->yO Nat}:∀{H Hb:yL aq},aq.bB f H=ab Hb->Hb.length=H.length
 |[],Hb,h=>by simp only[aq.bB,yn]at h;subst h;rfl
 |e::H,Hb,h=>by
  simp only[aq.bB]at h;split at h
  .rename_i y j _ g;cases h;simp[SI g]
  .cases h
theorem uP{f:Nat->yO Nat}:∀{H Hb:yL aq}{j:Nat}{e:aq},aq.bB f H=ab Hb->H[j]? =ab e->∃l,Hb[j]? =ab l/\e.rn f=ab l
 |[],Hb,j,e,_,g=>by simp at g
 |x::H,Hb,j,e,h,g=>by
  simp only[aq.bB]at h;split at h
  .rename_i y A m z;cases h
   cases j with
   |zero=>
    simp only[yam,yn]at g;subst g
    exact⟨y,rfl,m⟩
   |succ j=>
    simp only[yak]at g ⊢;exact uP z g
  .cases h
theorem SJ{f:Nat->yO Nat}{d d':Dv}{s:Nat}(h:d.rn f=ab d'):aR d' s=aR d s:=by
 cases d with
 |p x=>simp only[Dv.rn,yn]at h;subst h;rfl
 |arr n t j=>simp only[Dv.rn,yv]at h;obtain⟨g,_,rfl⟩:=h;rfl
 |elem x=>simp only[Dv.rn,yn]at h;subst h;rfl
 |an=>simp only[Dv.rn,yn]at h;subst h;rfl
 |_=>simp only[Dv.rn,yv]at h;obtain⟨g,_,rfl⟩:=h;rfl
theorem BL{f:Nat->yO Nat}{e g:aq}{o:Nat}(h:e.rn f=ab g):g.bv o↔e.bv o:=by
 cases e with
 |var d st=>
  simp only[aq.rn,yv]at h;obtain⟨j,_,rfl⟩:=h
  exact Iff.rfl
 |log s t l=>simp only[aq.rn,yn]at h;subst h;exact Iff.rfl
 |map t bR=>simp only[aq.rn,yn]at h;subst h;exact Iff.rfl
 |row v s st e d=>
  simp only[aq.rn,yv]at h;obtain⟨j,h,rfl⟩:=h
  simp only[aq.bv,SJ h]
 |gone=>simp only[aq.rn,yn]at h;subst h;exact Iff.rfl
theorem BM{f:Nat->yO Nat}{J J':Sg}(h:Rn f J J'){a:yO Nat}{e S:aq}(he:e.rn f=ab S)(m:dG J a e):dG J' a S:=by
 cases e with
 |var d st=>
  simp only[aq.rn,yv]at he;obtain⟨I,G,rfl⟩:=he;obtain⟨b,T,t,rfl,g,y,z⟩:=m;have hs:=(kW d I G).1
  exact⟨b,T,t,rfl,by rw[h.w];exact g,by rw[hs];exact kX h d I _ G y,by rw[hs];exact z⟩
 |log s t U=>
  simp only[aq.rn,yn]at he;subst he;rcases m with⟨rfl,g⟩|⟨b,A,E,rfl,g,y,z,M,Q,W⟩
  .exact .inl ⟨rfl,g⟩
  .exact .inr ⟨b,A,E,rfl,by rw[h.w];exact g,y,z,M,Q,aD h.cells U _ W⟩
 |map t bR=>
  simp only[aq.rn,yn]at he;subst he;obtain⟨b,j,F,rfl,g,y,z⟩:=m;refine⟨b,j,F,rfl,by rw[h.w];exact g, ?_,z⟩
  have R:∀(l:yL (Pl×Pl))(j:yL MapEntry),iA J l j->iA J' l j:=by
   intro l
   induction l with
   |nil=>intro j k;cases j <;> exact k
   |cons q r X=>
    intro j k
    cases j with
    |nil=>exact k
    |cons e j=>exact⟨kY h rfl k.1,kY h rfl k.2.1,X j k.2.2⟩
  obtain⟨Y,p,Z,y⟩:=y
  exact⟨Y,p,Z,R _ _ y⟩
 |row v s st e d=>
  simp only[aq.rn,yv]at he;obtain⟨I,G,rfl⟩:=he;obtain⟨N,h0,g⟩:=m;refine⟨N,by rw[SJ G];exact h0, ?_⟩;rcases g with g|⟨b,A,E,rfl,g,y,z,M,Q⟩
  .exact .inl g
  .exact .inr ⟨b,A,E,rfl,by rw[h.w];exact g,y,z,M,kX h d I _ G Q⟩
 |gone=>simp only[aq.rn,yn]at he;subst he;trivial
section
variable{P:yg}{o:yj}{a:Act}{J:Sg}{ts:yL Dv}
def callee(J:Sg)(ids:yL Nat)(Hin:yL aq):Sg:=
 { F:=J.be,B:=λb=>J.w.heap.size<=b\/∃j:Nat,(ids.map λid=>(J.m[id]?).getD ad)[j]? =ab (ab b),m:=ids.map λid=>(J.m[id]?).getD ad,H:=Hin,w:=J.w}
theorem SK{ids:yL Nat}{Hin:yL aq}{j id:Nat}{x:yO Nat}(h:ids[j]? =ab id)(hm:J.m[id]? =ab x):(callee J ids Hin).m[j]? =ab x:=by
 show(ids.map λid=>(J.m[id]?).getD ad)[j]? =ab x;rw[yao,h];simp[hm]
theorem X7{ids:yL Nat}{Hin:yL aq}{j b:Nat}(h:(callee J ids Hin).m[j]? =ab (ab b)):∃id,ids[j]? =ab id/\J.m[id]? =ab (ab b):=by
 have g:(ids.map λid=>(J.m[id]?).getD ad)[j]? =ab (ab b):=h;rw[yao]at g;obtain⟨id,y,f⟩:=yv.1 g;refine⟨id,y, ?_⟩
 cases l:J.m[id]? with
 |none=>rw[l]at f;cases f
 |some x=>rw[l]at f;simp at f;rw[f]
theorem BN(ok:Ok J){ids:yL Nat}{Hin:yL aq}(ho:once ids=ae)(hin:aQ J.H ids ids=ab Hin):Rn (bc ids) J (callee J ids Hin) where
 w:=rfl
 be b o v _ h:=by
  refine⟨.inl h,λj e hj he=> ?_⟩;obtain⟨id,h1,h2⟩:=X7 hj;obtain⟨e0,e',h3,h4,h5⟩:=V5 hin h1;have he':Hin[j]? =ab e:=he;rw[h4]at he';cases he';exact(BL h5).2 (h.2 id e0 h2 h3)
 m id j hj x hx:=SK (cA hj) hx
 H id j hj e he:=by
   obtain⟨e0,e',h3,h4,h5⟩:=V5 hin (cA hj);rw[he]at h3;cases h3;exact⟨e',h4,h5⟩
theorem ZCm(ok:Ok J){ids:yL Nat}{Hin:yL aq}(ho:once ids=ae)(hin:aQ J.H ids ids=ab Hin):Ok (callee J ids Hin) where
 len:=by
  show(ids.map _).length=Hin.length;rw[yad,V4 hin]
 inj i j b hi hj:=by
  obtain⟨x,h1,h2⟩:=X7 hi;obtain⟨y,h3,h4⟩:=X7 hj;have:=ok.inj x y b h2 h4;subst this;exact uM ho i j x h1 h3
 lt i b hi:=by
  obtain⟨x,h1,h2⟩:=X7 hi;exact ok.lt x b h2
 dD i e x he hx:=by
  have he':Hin[i]? =ab e:=he;have hi:i < ids.length:=by rw[<-V4 hin];exact(yu.1 he').1
  obtain⟨e0,e',h3,h4,h5⟩:=V5 hin (yab hi);rw[he']at h4;cases h4
  have hm:∃y,J.m[ids[i]]? =ab y:=by
   have:ids[i] < J.m.length:=by rw[ok.len];exact(yu.1 h3).1
   exact⟨_,yab this⟩
  obtain⟨y,hy⟩:=hm;have:=SK (Hin:=Hin) (yab hi) hy;rw[hx]at this;cases this;exact BM (BN ok ho hin) h5 (ok.dD _ _ _ h3 hy)
 new b hb:=.inl hb
 own i b hi:=.inr ⟨i,hi⟩
end
end Go.Ev
end
section
namespace Go.Ev
section
variable{P:yg}{o:yj}{a:Act}{J:Sg}{ts:yL Dv}
def lZ(J:Sg)(ids:yL Nat)(Hb:yL aq)(τ:Sg):Sg:=
 { F:=J.F,B:=J.B,m:=aw J.m ids τ.m,H:=aw J.H ids Hb,w:=τ.w}
theorem ZCn(ok:Ok J){ids:yL Nat}{Hin Hb:yL aq}{τ:Sg}(ho:once ids=ae)(hin:aQ J.H ids ids=ab Hin)(to:To (callee J ids Hin) τ)(okτ:Ok τ)(hle:ids.length<=τ.H.length)
 (hb:aq.bB (aV ids J.H.length) τ.H=ab Hb):
 To J (lZ J ids Hb τ)/\Ok (lZ J ids Hb τ)/\Rn (aV ids J.H.length) τ (lZ J ids Hb τ):=by
 have hbl:Hb.length=τ.H.length:=SI hb;have hml:τ.m.length=τ.H.length:=okτ.len
 have hidl:∀i,i∈ids->i < J.H.length:=by
  intro i G;obtain⟨j,y,rfl⟩:=ybk G;obtain⟨e0,_,h3,_⟩:=V5 hin (yab y);exact(yu.1 h3).1
 have hidm:∀i,i∈ids->i < J.m.length:=λi G=>by rw[ok.len];exact hidl i G
 have mo:∀id,id < J.H.length->id ∉ ids->(aw J.m ids τ.m)[id]? =J.m[id]? :=λid h1 g=>qD _ _ _ _ (by omega) (by rw[ok.len];exact h1) g;have Ho:∀id,id < J.H.length->id ∉ ids->(aw J.H ids Hb)[id]? =J.H[id]? :=λid h1 g=>qD _ _ _ _ (by omega) h1 g;have ma:∀(j id:Nat),ids[j]? =ab id->(aw J.m ids τ.m)[id]? =τ.m[j]? :=λj id h=>uN _ _ _ _ _ ho (by omega) hidm h;have Ha:∀(j id:Nat),ids[j]? =ab id->(aw J.H ids Hb)[id]? =Hb[j]? :=λj id h=>uN _ _ _ _ _ ho (by omega) hidl h;have mn:∀j,ids.length<=j->(aw J.m ids τ.m)[J.H.length+(j - ids.length)]? =τ.m[j]? :=λj h=>by rw[<-ok.len];exact uO _ _ _ _ (by omega) h
 have Hn:∀j,ids.length<=j->(aw J.H ids Hb)[J.H.length+(j - ids.length)]? =Hb[j]? :=λj h=>uO _ _ _ _ (by omega) h
 have W:∀id,id < J.H.length+(τ.H.length - ids.length)->(id < J.H.length/\id ∉ ids)\/(∃j:Nat,ids[j]? =ab id)\/(∃j:Nat,ids.length<=j/\id=J.H.length+(j - ids.length)):=by
  intro id h;by_cases h1:id < J.H.length
  .by_cases g:id∈ids
   .obtain⟨j,y,rfl⟩:=ybk g;exact .inr (.inl ⟨j,yab y⟩)
   .exact .inl ⟨h1,g⟩
  .exact .inr (.inr ⟨ids.length+(id - J.H.length),by omega,by omega⟩)
 have T:(aw J.m ids τ.m).length=J.H.length+(τ.H.length - ids.length):=by rw[BK _ _ _ (by omega),ok.len,hml]
 have f:∀(j id:Nat),ids[j]? =ab id->aV ids J.H.length j=ab id:=λj id h=>by
  have y:j < ids.length:=(yu.1 h).1;unfold aV;rw[yW y,h]
 have fromNew:∀j,ids.length<=j->aV ids J.H.length j=ab (J.H.length+(j - ids.length)):=λj h=>by
  unfold aV;rw[yX (by omega)]
 have back:∀(id b:Nat),(aw J.m ids τ.m)[id]? =ab (ab b)->(id < J.H.length/\id ∉ ids/\J.m[id]? =ab (ab b))\/(∃j:Nat,aV ids J.H.length j=ab id/\τ.m[j]? =ab (ab b)/\(aw J.H ids Hb)[id]? =Hb[j]?):=by
  intro id b h;have z:id < J.H.length+(τ.H.length - ids.length):=by rw[<-T];exact(yu.1 h).1
  rcases W id z with⟨h1,g⟩|⟨j,h1⟩|⟨j,h1,rfl⟩
  .exact .inl ⟨h1,g,by rw[<-mo id h1 g];exact h⟩
  .exact .inr ⟨j,f j id h1,by rw[<-ma j id h1];exact h,Ha j id h1⟩
  .exact .inr ⟨j,fromNew j h1,by rw[<-mn j h1];exact h,Hn j h1⟩
 have X:∀(id b:Nat),id ∉ ids->J.m[id]? =ab (ab b)->τ.w.heap[b]? =J.w.heap[b]? :=λid b h1 g=>
  to.block b (ok.lt id b g) (λj y=>by
    obtain⟨Q,h3,h4⟩:=X7 y;have:=ok.inj id Q b g h4;subst this;exact h1 (ybj h3))
 have M:∀(j b:Nat),τ.m[j]? =ab (ab b)->(∃id,ids[j]? =ab id/\J.m[id]? =ab (ab b))\/J.w.heap.size<=b:=by
  intro j b h;rcases to.same j b h with h1|h1
  .exact .inl (X7 h1)
  .exact .inr h1
 have Y:∀b o v,τ.w.cell? ⟨b,o,ad⟩=ab v->τ.be b o->(lZ J ids Hb τ).be b o:=by
  intro b o v hcell h;have hB:τ.B=(callee J ids Hin).B:=to.B;have hF:τ.F=(callee J ids Hin).F:=to.F
  have hfirst:J.be b o\/J.B b:=by
   rcases h.1 with h1|h1
   .rw[hF]at h1;exact .inl h1
   .rw[hB]at h1;rcases h1 with h1|⟨j,y⟩
    .exact .inr (ok.new b h1)
    .obtain⟨id,_,h3⟩:=X7 (J:=J) (Hin:=Hin) y;exact .inr (ok.own id b h3)
  refine⟨?_,λid e hid he=> ?_⟩
  .rcases hfirst with h1|h1
   .exact h1.1
   .exact .inr h1
  .have hid':(aw J.m ids τ.m)[id]? =ab (ab b):=hid;have R:(aw J.H ids Hb)[id]? =ab e:=he;rcases back id b hid' with⟨h1,g,h3⟩|⟨j,h1,g,h3⟩
   .rw[Ho id h1 g]at R;have hbs:=ok.lt id b h3;rcases h.1 with h4|h4
    .rw[hF]at h4;exact h4.2 id e h3 R
    .rw[hB]at h4;rcases h4 with h4|⟨j,y⟩
     .omega
     .obtain⟨Q,I,Z⟩:=X7 (J:=J) (Hin:=Hin) y;have:=ok.inj id Q b h3 Z;subst this;exact absurd (ybj I) g
   .rw[h3]at R;have y:j < τ.H.length:=by rw[<-hbl];exact(yu.1 R).1
    obtain⟨e',h4,I⟩:=uP hb (yab y);rw[R]at h4;cases h4;exact(BL I).2 (h.2 j _ g (yab y))
 have rn:Rn (aV ids J.H.length) τ (lZ J ids Hb τ):=by
  refine⟨rfl,λb o v h1 g=>Y b o v h1 g,λj id y x hx=> ?_,λj id y e he=> ?_⟩
  .show(aw J.m ids τ.m)[id]? =ab x;unfold aV at y;split at y
   .rw[ma j id y];exact hx
   .cases y;rw[mn j (by omega)];exact hx
  .obtain⟨e',h4,I⟩:=uP hb he;refine⟨e', ?_,I⟩;show(aw J.H ids Hb)[id]? =ab e';unfold aV at y;split at y
   .rw[Ha j id y];exact h4
   .cases y;rw[Hn j (by omega)];exact h4
 have S:=BN ok ho hin
 have leaf:ck J (lZ J ids Hb τ):=by
  refine⟨λb o v h1 g=> ?_,λid b h1 g=> ?_,λid s len A c h1=> ?_,λid b h1 g=> ?_,λid v s st e d h1=> ?_⟩
  .obtain⟨h3,h4⟩:=to.leaf.cells b o v h1 (S.be b o v h1 g);exact⟨h3,Y b o v h3 h4⟩
  .have z:id < J.H.length:=by rw[<-ok.len];exact(yu.1 h1).1
   by_cases G:id∈ids
   .obtain⟨j,y,rfl⟩:=ybk G;have E:=yab y;have h3:bc ids ids[j]=ab j:=cW ho E;obtain⟨h4,I⟩:=to.leaf.var j b (S.m _ _ h3 _ h1) (S.var h3 g);exact⟨rn.m _ _ (f j _ E) _ h4,rn.var (f j _ E) I⟩
   .exact⟨(mo id z G).trans h1,by
     obtain⟨d,st,g⟩:=g;exact⟨d,st,(Ho id z G).trans g⟩⟩
  .have h1':=h1;obtain⟨e,ys,g,h3,h4⟩:=h1;have z:id < J.H.length:=(yu.1 g).1;by_cases G:id∈ids
   .obtain⟨j,y,rfl⟩:=ybk G;have E:=yab y;have I:bc ids ids[j]=ab j:=cW ho E;exact rn.front (f j _ E) (to.leaf.front _ _ _ _ _ (S.front I h1'))
   .refine⟨e,ys,(Ho id z G).trans g,h3,λhl=> ?_⟩;rcases h4 hl with⟨I,Z⟩|⟨b,cur,I,Z,h7,h8⟩
    .exact .inl ⟨(mo id z G).trans I,Z⟩
    .exact .inr ⟨b,cur,(mo id z G).trans I,Z,(X id b G I).trans h7,h8⟩
  .have z:id < J.H.length:=by rw[<-ok.len];exact(yu.1 h1).1
   by_cases G:id∈ids
   .obtain⟨j,y,rfl⟩:=ybk G;have E:=yab y;have h3:bc ids ids[j]=ab j:=cW ho E;obtain⟨h4,I⟩:=to.leaf.map j b (S.m _ _ h3 _ h1) (S.map h3 g);exact⟨rn.m _ _ (f j _ E) _ h4,rn.map (f j _ E) I⟩
   .exact⟨(mo id z G).trans h1,by
     obtain⟨d,st,g⟩:=g;exact⟨d,st,(Ho id z G).trans g⟩⟩
  .have z:id < J.H.length:=(yu.1 h1).1;by_cases G:id∈ids
   .obtain⟨j,y,rfl⟩:=ybk G;have E:=yab y;have h3:bc ids ids[j]=ab j:=cW ho E;obtain⟨d1,h4⟩:=S.row h3 h1;obtain⟨v',st',d',I,Z,h7⟩:=to.leaf.row _ _ _ _ _ _ h4;obtain⟨d2,h8⟩:=rn.row (f j _ E) I;refine⟨v',st',d2,h8,Z,λhv=> ?_⟩;obtain⟨h9,h10⟩:=h7 hv;have hmm:∃x,J.m[ids[j]]? =ab x:=⟨_,yab (by rw[ok.len];exact z)⟩;obtain⟨x,hx⟩:=hmm;have hcx:=S.m _ _ h3 _ hx;refine⟨by rw[hx];exact rn.m _ _ (f j _ E) _ (by rw[h9];exact hcx),λb cur hb hc=> ?_⟩;rw[hx]at hb;cases hb;exact h10 b cur hcx hc
   .exact⟨v,st,d,(Ho id z G).trans h1,yl _,λ_=>⟨mo id z G,λb cur hb hc=>⟨cur,(X id b G hb).trans hc,rfl⟩⟩⟩
 refine⟨⟨leaf,rfl,rfl,to.os,to.tape,to.output,to.size,λb hb hn=>to.block b hb (λj y=> ?_),λid b h=> ?_, ?_⟩,⟨?_, ?_, ?_, ?_,λb h=>ok.new b (Nat.le_trans to.size h), ?_⟩,rn⟩
 .obtain⟨id,_,h3⟩:=X7 (J:=J) (Hin:=Hin) y;exact hn id h3
 .rcases back id b h with⟨_,_,h3⟩|⟨j,h1,g,_⟩
  .exact .inl h3
  .rcases M j b g with⟨Q,h3,h4⟩|h3
   .have:=f j Q h3;rw[h1]at this;cases this;exact .inl h4
   .exact .inr h3
 .show J.m.length<=(aw J.m ids τ.m).length;rw[T,ok.len];omega
 .show(aw J.m ids τ.m).length=(aw J.H ids Hb).length;rw[T,BK _ _ _ (by omega),hbl]
 .intro i j b G y;rcases back i b G with⟨h1,g,h3⟩|⟨k,h1,g,_⟩ <;> rcases back j b y with⟨h4,I,Z⟩|⟨l,h4,I,_⟩
  .exact ok.inj i j b h3 Z
  .have hbs:=ok.lt i b h3;rcases M l b I with⟨Q,h7,h8⟩|h7
   .have:=ok.inj i Q b h3 h8;subst this;exact absurd (ybj h7) g
   .omega
  .have hbs:=ok.lt j b Z;rcases M k b g with⟨Q,h7,h8⟩|h7
   .have:=ok.inj j Q b Z h8;subst this;exact absurd (ybj h7) I
   .omega
  .have:=okτ.inj k l b g I;subst this;rw[h1]at h4;exact ybl h4
 .intro i b G;rcases back i b G with⟨_,_,h3⟩|⟨k,_,g,_⟩
  .exact Nat.lt_of_lt_of_le (ok.lt i b h3) to.size
  .exact okτ.lt k b g
 .intro i e x he hx;have R:(aw J.H ids Hb)[i]? =ab e:=he;have U:(aw J.m ids τ.m)[i]? =ab x:=hx;have z:i < J.H.length+(τ.H.length - ids.length):=by rw[<-T];exact(yu.1 U).1
  have viaτ:∀j,aV ids J.H.length j=ab i->τ.m[j]? =ab x->Hb[j]? =ab e->dG (lZ J ids Hb τ) x e:=by
   intro j _ g h3;have y:j < τ.H.length:=by rw[<-hbl];exact(yu.1 h3).1
   obtain⟨e',h4,I⟩:=uP hb (yab y);rw[h3]at h4;cases h4;exact BM rn I (okτ.dD j _ x (yab y) g)
  rcases W i z with⟨h1,g⟩|⟨j,h1⟩|⟨j,h1,rfl⟩
  .rw[Ho i h1 g]at R;rw[mo i h1 g]at U;exact nu leaf (λb hb'=>X i b g (by rw[U,hb'])) (ok.dD i e x R U)
  .exact viaτ j (f j i h1) (by rw[<-ma j i h1];exact U) (by rw[<-Ha j i h1];exact R)
  .exact viaτ j (fromNew j h1) (by rw[<-mn j h1];exact U) (by rw[<-Hn j h1];exact R)
 .intro i b G;rcases back i b G with⟨_,_,h3⟩|⟨k,_,g,_⟩
  .exact ok.own i b h3
  .rcases M k b g with⟨Q,_,h8⟩|h7
   .exact ok.own Q b h8
   .exact ok.new b h7
theorem oV{args:yL yp}{f:yL yc}(g:aC J ts a)(ids:yL Nat)(hl:args.length=f.length):aH J ((args.zip f).map λq=>(aF P ts q.2 q.1).cr ids) (args.map a.eval):=by
 induction args generalizing f with
 |nil=>simp[aH]
 |cons x args h=>
  cases f with
  |nil=>simp at hl
  |cons t f=>
   simp only[List.zip_cons_cons,yah,aH];exact⟨_,_,rfl,AU ids (Zo g t x),h (by simpa using hl)⟩
theorem SL{cap:yL Dv}{cs:yL yh}(h:aH J cap cs):aH J (cap.map Dv.arg) cs:=by
 induction cap generalizing cs with
 |nil=>simpa using h
 |cons d cap g=>
  simp only[aH]at h;obtain⟨v,f,rfl,j,l⟩:=h;simp only[yah,aH];exact⟨v,f,rfl,ZHd j,g l⟩
theorem qE{cap:yL Dv}{cs:yL yh}(ids:yL Nat)(h:aH J cap cs):aH J (cap.map (Dv.cr ids)) cs:=by
 induction cap generalizing cs with
 |nil=>simpa using h
 |cons d cap g=>
  simp only[aH]at h;obtain⟨v,f,rfl,j,l⟩:=h;simp only[yah,aH];exact⟨v,f,rfl,AU ids j,g l⟩
theorem SM{c:Call}{f:yp}{g:yw}{j cs:Array yh}(w:yr)(ho:o.op=.call c)(hc:c.callee=.value f)(l:a.eval f=.func (.func g) j cs)(hb:iF P g=ae):
 (execOp a.eval o).run P w=.ok (.enter g (j++c.args.map a.eval++cs)) w:=by
 unfold iF at hb;split at hb
 .rename_i fn h;simp only[yi,Bool.not_eq_true']at hb;have m:¬fn.name= "runtime.NumGoroutine" :=by simpa using hb.2
  have y:fn.body.isNone=af:=by cases z:fn.body <;> simp[z]at hb ⊢
  simp only[execOp,ho,resolve,hc,l,Deferred.ofValue,Sem.run_bind,Sem.run_pure,Result.andThen_ok,invoke,callFunc,run_program,h];simp[m,y]
 .cases hb
theorem ZD1{fn:Func}(h:fn.name= "internal/bytealg.Compare"):Extern.find fn=ab Extern.BytealgCompare.compare:=by
 have f:Extern.allGenericRows.lookup "internal/bytealg.Compare" =ad:=by kernel_rfl
 have g:Extern.allTypedRows.lookup "internal/bytealg.Compare" =ad:=by kernel_rfl
 have j:Extern.allRows.lookup "internal/bytealg.Compare" =ab Extern.BytealgCompare.compare:=by kernel_rfl
 unfold Extern.find;dsimp only;rw[h,f,g,j];rfl
theorem ZD2{c:Call}{f:yp}{g:yw}{cs:Array yh}{v:yh}(w:yr)(ho:o.op=.call c)(hc:c.callee=.value f)(l:a.eval f=.func (.func g) #[] cs)(hb:nf P g=ae)
 (m:(Extern.BytealgCompare.compare (c.args.map a.eval++cs)).run P w=.ok v w):(execOp a.eval o).run P w=.ok (.value v) w:=by
 unfold nf at hb;rw[yi]at hb
 replace hb:=hb.2
 split at hb
 .rename_i fn j;simp only[yi,yT,Option.isNone_iff_eq_none]at hb;have h:=run_callFunc_extern (P:=P) j (by rw[hb.1.1];rfl) (by rw[hb.1.2];rfl) hb.2 (ZD1 hb.1.1) (c.args.map a.eval++cs) w;rw[m]at h;simp only[execOp,ho,resolve,hc,l,Deferred.ofValue,Sem.run_bind,Sem.run_pure,Result.andThen_ok,invoke];rw[Array.empty_append];exact h
 .cases hb
theorem Zzi{g:yw}(w:yr)(args:Array yh)(hb:iF P g=ae):(callFunc g args).run P w=.ok (.enter g args) w:=by
 unfold iF at hb;split at hb
 .rename_i fn f;simp only[yi,Bool.not_eq_true']at hb;have h:¬fn.name= "runtime.NumGoroutine" :=by simpa using hb.2
  have j:fn.body.isNone=af:=by cases l:fn.body <;> simp[l]at hb ⊢
  simp only[callFunc,Sem.run_bind,run_program,Result.andThen_ok,f];simp[h,j]
 .cases hb
theorem BO(ok:Ok J){g:yw}{E args':yL Dv}{F:Array yh}{ids:yL Nat}{Hin H' Hb:yL aq}{r r':Dv}(I:(execOp a.eval o).run P J.w=.ok (.enter g F) J.w)(l:aH J E F.toList)
 (f:once ids=ae) (m:ids.length<=H'.length) (M:Dv.bB (bc ids) E=ab args')
 (h:aQ J.H ids ids=ab Hin) (R:r.rn (aV ids J.H.length)=ab r') (hb:aq.bB (aV ids J.H.length) H'=ab Hb) (j:ca P g args' Hin r H'):YD P o a J r' (aw J.H ids Hb):=by
 have G:=j (callee J ids Hin) _ (ZCm ok f h) rfl (dJ (BN ok f h) _ _ _ M l);intro K Q S;unfold Oper.wp;rw[I];simp only[Oper.upon];rw[ycf]at G;refine G.mono ?_;rintro e W ⟨v,τ,rfl,rfl,T,to,y,U⟩;subst T;obtain⟨z,A,rn⟩:=ZCn ok f h to y m hb;exact S v (lZ J ids Hb τ) rfl z A (kY rn R U)
theorem ZHj(y:aC J ts a){c:Call}{f:yp}{g:yw}{cap:yL Dv}(ids:yL Nat)(E:aF P ts 0 f=.fn g cap)(hsz:c.args.size=c.argTypes.size):
 ∃l cs,a.eval f=.func (.func (fP g)) l cs/\aH J (YJ P ids ts c g cap) (l++c.args.map a.eval++cs).toList:=by
 have j:=Zo (P:=P) y 0 f;rw[E]at j;obtain⟨l,cs,z,m,h⟩:=uG j;refine⟨l,cs,z, ?_⟩;unfold YJ;by_cases A:g < big
 .rw[yW A]at m ⊢;subst m;rw[Array.empty_append]at h ⊢;rw[Array.toList_append,Array.toList_map];exact QC (oV y ids (by simpa using hsz)) (qE ids h)
 .rw[yX A]at m ⊢;subst m;rw[Array.append_empty]at h ⊢;rw[Array.toList_append,Array.toList_map];exact QC (qE ids h) (oV y ids (by simpa using hsz))
theorem uQ(ok:Ok J)(A:aC J ts a){c:Call}{f:yp}{g:yw}{cap args':yL Dv}{ids:yL Nat}{Hin H' Hb:yL aq}{r r':Dv}(ho:o.op=.call c)(Q:c.callee=.value f)
 (R:aF P ts 0 f=.fn g cap) (l:iF P (fP g)=ae) (hsz:c.args.size=c.argTypes.size) (j:once ids=ae) (E:ids.length<=H'.length) (S:Dv.bB (bc ids) (YJ P ids ts c g cap)=ab args')
 (F:aQ J.H ids ids=ab Hin) (T:r.rn (aV ids J.H.length)=ab r') (hb:aq.bB (aV ids J.H.length) H'=ab Hb) (m:ca P (fP g) args' Hin r H'):YD P o a J r' (aw J.H ids Hb):=by
 have y:=Zo (P:=P) A 0 f;rw[R]at y;obtain⟨U,W,G,z,h⟩:=uG y
 have I:aH J (YJ P ids ts c g cap) (U++c.args.map a.eval++W).toList:=by
  unfold YJ;by_cases M:g < big
  .rw[yW M]at z ⊢;subst z;rw[Array.empty_append]at h ⊢;rw[Array.toList_append,Array.toList_map];exact QC (oV A ids (by simpa using hsz)) (qE ids h)
  .rw[yX M]at z ⊢;subst z;rw[Array.append_empty]at h ⊢;rw[Array.toList_append,Array.toList_map];exact QC (qE ids h) (oV A ids (by simpa using hsz))
 exact BO ok (SM J.w ho Q G l) I j E S F T hb m
theorem ZuT(ok:Ok J)(I:aC J ts a){c:Call}{f:yp}{h:String}{t:yc}{x:Dv}{g:yw}{args':yL Dv}{ids:yL Nat}{Hin H' Hb:yL aq}{r r':Dv}(ho:o.op=.call c)(M:c.callee=.invoke f h)
 (Q:aF P ts 0 f=.iface t x) (m:iF P g=ae) (hsz:c.args.size=c.argTypes.size) (j:once ids=ae) (z:ids.length<=H'.length) (R:Dv.bB (bc ids) (x.cr ids::YJ P ids ts c 0 [])=ab args')
 (A:aQ J.H ids ids=ab Hin) (S:r.rn (aV ids J.H.length)=ab r') (hb:aq.bB (aV ids J.H.length) H'=ab Hb) (hm:oI P t h g) (y:ca P g args' Hin r H'):YD P o a J r' (aw J.H ids Hb):=by
 have l:=Zo (P:=P) I 0 f;rw[Q,Zh rfl]at l;simp only[yH]at l;obtain⟨v,E,T,U⟩:=l;have E:a.eval f=.iface t v:=by simpa using E
 have F:yJ J x v:=⟨T,U⟩
 have G:aH J (x.cr ids::YJ P ids ts c 0 []) (#[v]++c.args.map a.eval).toList:=by
  rw[Array.toList_append,Array.toList_map];show aH J _ (v::c.args.toList.map a.eval);rw[aH];refine⟨v,_,rfl,AU ids F, ?_⟩;unfold YJ;rw[yW (by decide),List.map_nil,List.append_nil];exact oV I ids (by simpa using hsz)
 have W:(execOp a.eval o).run P J.w=.ok (.enter g (#[v]++c.args.map a.eval)) J.w:=by
  have e:=hm v (c.args.map a.eval) J.w;rw[Zzi J.w _ m]at e;rw[<-e];have X:(#[Value.iface t v]++c.args.map a.eval)[0]? =ab (.iface t v):=by simp[Array.getElem?_append]
  have Y:(#[Value.iface t v]++c.args.map a.eval).extract 1 (#[Value.iface t v]++c.args.map a.eval).size=c.args.map a.eval:=by
   apply Array.ext';simp;rw[ycc (by simp)]
  simp only[execOp,ho,resolve,M,E,Sem.run_bind,Sem.run_pure,Result.andThen_ok,invoke,X,Y]
 exact BO ok W G j z R A S hb y
end
end Go.Ev
end
section
namespace Go.Ev
theorem BP{w:yr}{S:Nat->Nat->Prop}{n s:Nat}{xs:yL Pl}{us:yL yh}(h:aA w S (.arr n s xs) us):xs.length=n/\aW s xs/\ar w S xs us:=by
 simpa[aA] using h
theorem SN{P:yg}{J:Sg}{d n:Nat}{e:yc}{s:Nat}(hs:P.cellsOf e=s)(E:s≠0)(hi:(P.info? e).isSome=ae)(hu:(P.underlying e).isSome=ae)
 (I:∀(x y:Pl)(a b:yh),bt P n e x->bt P n e y->yJ J (.p x) a->yJ J (.p y) b->∃r:Bool,(Op.equalIn d e a b).run P J.w=.ok r J.w/\(r=ae↔x=y))
 {cs j:Array yh} {m:Nat}:∀(xs ys:yL Pl)(i:Nat)(p l us vs:yL yh),(∀y,y∈xs->bt P n e y/\y.size=s/\Xt P e=y.isAgg)->(∀y,y∈ys->bt P n e y/\y.size=s/\Xt P e=y.isAgg)->
  cs.toList=p++us->j.toList=l++vs->p.length=i*s->l.length=i*s->ar J.w J.be xs us->ar J.w J.be ys vs->xs.length=m->ys.length=m->
  ∃r:Bool,(Op.eqItems d e s cs j (List.range' i m)).run P J.w=.ok r J.w/\(r=ae↔xs=ys)
 |[],ys,i,p,l,us,vs,_,_,_,_,_,_,_,_,h,A=>by
  subst h;have:ys=[]:=ybi A;subst this
  exact⟨ae,by simp[Op.eqItems],by simp⟩
 |x::xs,[],_,_,_,_,_,_,_,_,_,_,_,_,_,h,A=>by simp at h A;omega
 |x::xs,y::ys,i,p,l,us,vs,M,Q,R,S,T,U,W,X,h,A=>by
  obtain⟨Y,rfl⟩:∃Y,m=Y+1:=⟨xs.length,by simpa using h.symm⟩;simp only[ar]at W X;obtain⟨u1,u2,rfl,Z,q2⟩:=W;obtain⟨v1,v2,rfl,q3,q4⟩:=X;obtain⟨f1,f2,f3⟩:=M x (yav ..);obtain⟨g1,g2,g3⟩:=Q y (yav ..);obtain⟨a,ha,ra⟩:=kv (P:=P) (J:=J) (t:=e) (d:=.p x) R (by simpa[yH] using Z) (by rw[hs];exact f2.symm) hi hu f3 (by show x.size≠0;omega);obtain⟨b,hb,rb⟩:=kv (P:=P) (J:=J) (t:=e) (d:=.p y) S (by simpa[yH] using q3) (by rw[hs];exact g2.symm) hi hu g3 (by show y.size≠0;omega);rw[T]at ha;rw[U]at hb;obtain⟨r,hr,f⟩:=I x y a b f1 g1 ra rb;have s1:=X9 _ _ Z;have s2:=X9 _ _ q3
  obtain⟨r',F,g⟩:=SN hs E hi hu I xs ys (i+1) (p++u1) (l++v1) u2 v2 (λz G=>M z (yaw _ G)) (λz G=>Q z (yaw _ G))
   (by rw[R,yac]) (by rw[S,yac]) (by rw[ym,T,s1,f2,ybb,Nat.one_mul]) (by rw[ym,U,s2,g2,ybb,Nat.one_mul]) q2 q4 (by simpa using h) (by simpa using A)
  rw[List.range'_succ];simp only[Op.eqItems,Sem.run_bind,ha,hb,hr,Result.andThen_ok];cases r
  .exact⟨af,by simp,by simp;intro e;exact absurd (f.2 e) (by simp)⟩
  .refine⟨r',by simpa using F, ?_⟩;rw[g];simp[f.1 rfl]
theorem SP{P:yg}{J:Sg}{d:Nat}{R:yc->Pl->Prop}
 (F:∀(t:yc)(x y:Pl)(a b:yh),R t x->R t y->yJ J (.p x) a->yJ J (.p y) b->∃r:Bool,(Op.equalIn d t a b).run P J.w=.ok r J.w/\(r=ae↔x=y))
 {cs l:Array yh}:∀(m:yL Field)(xs ys:yL Pl)(o:Nat)(p A us vs:yL yh),iD P R m o xs->iD P R m o ys->
  cs.toList=p++us->l.toList=A++vs->p.length=o->A.length=o->ar J.w J.be xs us->ar J.w J.be ys vs->
  ∃r:Bool,(Op.eqFields d cs l m).run P J.w=.ok r J.w/\(r=ae↔xs=ys)
 |[],[],[],_,_,_,_,_,_,_,_,_,_,_,_,_=>⟨ae,by simp[Op.eqFields],by simp⟩
 |[],_::_,_,_,_,_,_,_,h,_,_,_,_,_,_,_=>by simp[iD]at h
 |[],[],_::_,_,_,_,_,_,_,h,_,_,_,_,_,_=>by simp[iD]at h
 |_::_,[],_,_,_,_,_,_,h,_,_,_,_,_,_,_=>by simp[iD]at h
 |_::_,_::_,[],_,_,_,_,_,_,h,_,_,_,_,_,_=>by simp[iD]at h
 |f::m,x::xs,y::ys,o,p,A,us,vs,G,I,M,Q,S,T,U,W=>by
  simp only[iD]at G I;obtain⟨a1,X,Y,Z,a5,a6,a7,a8,a9⟩:=G;obtain⟨_,_,b3,_,_,b6,b7,b8,b9⟩:=I;simp only[ar]at U W;obtain⟨u1,u2,rfl,q1,q2⟩:=U;obtain⟨v1,v2,rfl,q3,q4⟩:=W;obtain⟨a,ha,ra⟩:=kv (P:=P) (J:=J) (t:=f.type) (d:=.p x) M (by simpa[yH] using q1) Y Z a5 a6 a7;obtain⟨b,hb,rb⟩:=kv (P:=P) (J:=J) (t:=f.type) (d:=.p y) Q (by simpa[yH] using q3) b3 Z a5 b6 b7;rw[S, <-X]at ha;rw[T, <-X]at hb;obtain⟨r,hr,g⟩:=F f.type x y a b a8 b8 ra rb;have s1:=X9 _ _ q1;have s2:=X9 _ _ q3;have z:x.size=y.size:=Y.symm.trans b3
  obtain⟨r',E,j⟩:=SP F m xs ys (o+x.size) (p++u1) (A++v1) u2 v2 a9 (by rw[z];exact b9)
   (by rw[M,yac]) (by rw[Q,yac]) (by rw[ym,S,s1]) (by rw[ym,T,s2,z]) q2 q4
  simp only[Op.eqFields,a1,ne_eq,not_false_eq_true,if_true,Sem.run_bind,ha,hb,hr,Result.andThen_ok];cases r
  .exact⟨af,by simp,by simp;intro e;exact absurd (g.2 e) (by simp)⟩
  .refine⟨r',by simpa using E, ?_⟩;rw[j];simp[g.1 rfl]
theorem BQ{P:yg}{J:Sg}:∀(n:Nat)(t:yc)(x y:Pl)(a b:yh),bt P n t x->bt P n t y->yJ J (.p x) a->yJ J (.p y) b->
 ∀d,∃r:Bool,(Op.equalIn (d+n) t a b).run P J.w=.ok r J.w/\(r=ae↔x=y)
 |0,_,_,_,_,_,h,_,_,_,_=>by simp[bt]at h
 |n+1,t,x,y,a,b,F,f,g,j,d=>by
  unfold bt at F f;split at F
  .rename_i l;rw[l]at f;split at f <;> rename_i G <;> simp only[reduceCtorEq,yn]at G
   all_goals first
    |(rw[Yh g,Yh j]
      exact⟨_,run_equalIn_bool' J.w (d+n) t _ _ l,by simp⟩)
    |exact f.elim
  .rename_i k k' z l;rw[l]at f;split at f <;> rename_i G <;> simp only[reduceCtorEq,yn,TypeDesc.int.injEq]at G
   all_goals first
    |(subst F;subst f;subst G
      rw[ZC g,ZC j]
      exact⟨_,run_equalIn_int J.w (d+n) t _ _ _ _ l,by simp⟩)
    |exact f.elim
  .rename_i m e m' s S l;rw[l]at f;split at f <;> rename_i G <;> simp only[reduceCtorEq,yn,TypeDesc.array.injEq]at G
   .rename_i Z T;obtain⟨rfl,rfl⟩:=G;obtain⟨rfl,I,U,X,h4,h5⟩:=F;obtain⟨rfl,g1,_,_,_,g5⟩:=f;obtain rfl:s=Z:=I.symm.trans g1;rw[ZT (by rfl)]at g j;obtain⟨M,rfl,g⟩:=g;obtain⟨A,rfl,j⟩:=j;simp only[yH]at g j;obtain⟨n1,_,g⟩:=BP g;obtain⟨n2,_,j⟩:=BP j;obtain⟨i,hi⟩:=Option.isSome_iff_exists.1 X;obtain⟨r,W,E⟩:=SN (P:=P) (J:=J) (d:=d+n) (n:=n) (e:=e) (s:=s) I U X h4 (λx y a b F f g j=>BQ n e x y a b F f g j d) S T 0 [] [] M.toList A.toList h5 g5 rfl rfl (by simp) (by simp) g j n1 n2;refine⟨r, ?_,by rw[E];simp⟩;rw[show d+(n+1)=(d+n)+1 from rfl,run_equalIn_array J.w (d+n) M A l hi,List.range_eq_range',I]
    exact W
   all_goals first
    |exact f.elim
  .rename_i Y S l;rw[l]at f;split at f <;> rename_i G <;> simp only[reduceCtorEq,yn,TypeDesc.struct.injEq]at G
   all_goals first
    |exact f.elim
    |skip
   rename_i T;subst G;obtain⟨I,U⟩:=F;obtain⟨_,g2⟩:=f;rw[ZT (by rfl)]at g j;obtain⟨M,rfl,g⟩:=g;obtain⟨A,rfl,j⟩:=j;simp only[yH,aA]at g j;have Q:P.fieldsOf t=Y:=by simp[Program.fieldsOf,l]
   obtain⟨r,W,E⟩:=SP (P:=P) (J:=J) (d:=d+n) (R:=bt P n) (λt x y a b F f g j=>BQ n t x y a b F f g j d) Y.toList S T 0 [] [] M.toList A.toList U g2 rfl rfl rfl rfl g j;refine⟨r, ?_,by rw[E];simp⟩;rw[show d+(n+1)=(d+n)+1 from rfl,run_equalIn_struct J.w (d+n) t M A (by rw[Q];exact l) I,Q]
   exact W
  .exact F.elim
theorem BR{P:yg}{J:Sg}{t:yc}{x y:Pl}{a b:yh}(g:bt P 20 t x)(j:bt P 20 t y)(l:yJ J (.p x) a)(m:yJ J (.p y) b){β:Bool}(h:β=ae↔x=y):
 (Op.equal t a b).run P J.w=.ok β J.w:=by
 obtain⟨r,z,f⟩:=BQ 20 t x y a b g j l m 9980;have:r=β:=by rw[Bool.eq_iff_iff,f,h]
 subst this;exact z
def nG:yh->Bool
 |.bool _|.pointer _|.slice _ _ _|.func _ _ _|.nilFunc=>ae
 |_=>af
theorem SQ{op:BinOp}{t:yc}{x y:yp}{a b:yh}(h:nG a=ae):eqGuard op t x y a b=pure ():=by
 cases op <;> cases a <;> first|rfl|(simp[nG]at h)
theorem ZuU{t:yc}{a b:yh}(h:nG a=ae):binOp .eql t a b=(do pure (.bool (<-Op.equal t a b))):=by
 cases a <;> first|(simp[nG]at h;done)|(cases b <;> rfl)
theorem ZuV{t:yc}{a b:yh}(h:nG a=ae):binOp .neq t a b=(do pure (.bool (!(<-Op.equal t a b)))):=by
 cases a <;> first|(simp[nG]at h;done)|(cases b <;> rfl)
theorem Vx{P:yg}{t:yc}{a b:yh}{r:Bool}{w:yr}(h:∀n,(Op.equalIn (n+1) t a b).run P w=.ok r w):(Op.equal t a b).run P w=.ok r w:=h 9999
theorem SR{P:yg}{t:yc}{x y:Dv}{hs hs':yL ao}{C:yL Prop}{r:Bool}(h:ja P t x y hs=ab (C,r,hs'))(hc:aX C){J:Sg}{a b:yh}
 (ha:yJ J x a) (hb:yJ J y b):(Op.equal t a b).run P J.w=.ok r J.w/\(nG a=ae\/((∃cs,a=.agg cs)/\(∃cs,b=.agg cs)/\P.eqGuardType P.depth t=af)):=by
 unfold ja at h;have step:∀(d:TypeDesc),P.underlying t=ab d->(underlying t).run P J.w=.ok d J.w:=λd I=>run_underlying I J.w;split at h
 all_goals first
  |(cases h;done)
  |skip
 rotate_right 2
 iterate 2
  .split at h
   .split at h
    .rename_i M;cases h;obtain⟨Q,R,S,_⟩:=hc;refine⟨BR Q R ha hb S,.inr ⟨?_, ?_,M⟩⟩
     .obtain⟨cs,e,_⟩:=(ZT (by rfl)).1 ha;exact⟨cs,e⟩
     .obtain⟨cs,e,_⟩:=(ZT (by rfl)).1 hb;exact⟨cs,e⟩
    .cases h
   .cases h
 case' h_9=>
  rename_i g;split at h
  .cases h;obtain⟨_,A,c,rfl,_,_,_,_,z⟩:=XS ha;obtain⟨_,B,m,rfl,_,_,j,_⟩:=XS hb;have f:B=ad:=by simpa using j af rfl
   subst f;obtain⟨T,U,F,rfl,_⟩:=z hc.1;exact⟨Vx λn=>by simp[Op.equalIn,step _ g],.inl rfl⟩
  .cases h
 case' h_10=>
  rename_i g;split at h
  .cases h;obtain⟨_,A,c,rfl,_,_,_,_,z,_⟩:=QA ha;obtain⟨_,B,m,rfl,_,_,j,_⟩:=XS hb;have f:B=ad:=by simpa using j af rfl
   subst f;obtain⟨T,U,F,rfl,_⟩:=z hc.1;exact⟨Vx λn=>by simp[Op.equalIn,step _ g],.inl rfl⟩
  .cases h
 all_goals
  rename_i g;cases h;refine(λq:_/\_=>⟨q.1,.inl q.2⟩) ?_
 .rw[Yh ha,Yh hb];exact⟨Vx λn=>by simp[Op.equalIn,step _ g],rfl⟩
 .rw[qp hb];rw[Zh (by rfl)]at ha;simp only[yH,List.cons.injEq,and_true]at ha;obtain⟨G,_,_,rfl⟩:=ha;exact⟨Vx λn=>by simp[Op.equalIn,step _ g],rfl⟩
 .rw[qp hb];rw[Zh (by rfl)]at ha;simp only[yH,List.cons.injEq,and_true]at ha;obtain⟨G,W,F,rfl,_⟩:=ha;exact⟨Vx λn=>by simp[Op.equalIn,step _ g],rfl⟩
 .rw[qp hb];rw[Zh (by rfl)]at ha;simp only[yH,List.cons.injEq,and_true]at ha;obtain⟨G,W,rfl,_⟩:=ha;exact⟨Vx λn=>by simp[Op.equalIn,step _ g],rfl⟩
 .rw[qp ha,qp hb];exact⟨Vx λn=>by simp[Op.equalIn,step _ g],rfl⟩
 .obtain⟨_,A,c,rfl,_,_,E,_⟩:=XS ha;obtain⟨_,B,m,rfl,_,_,j,_⟩:=XS hb;have f:B=ad:=by simpa using j af rfl
  subst f;have l:=E _ rfl;subst l;refine⟨?_,rfl⟩;cases A <;> (refine Vx λn=> ?_;simp[Op.equalIn,step _ g])
 .obtain⟨_,A,c,rfl,_,_,E,_⟩:=QA ha;obtain⟨_,B,m,rfl,_,_,j,_⟩:=XS hb;have f:B=ad:=by simpa using j af rfl
  subst f;have l:=E _ rfl;subst l;refine⟨?_,rfl⟩;cases A <;> (refine Vx λn=> ?_;simp[Op.equalIn,step _ g])
 .rw[Zh (by rfl)]at ha;simp only[yH,List.cons.injEq,and_true]at ha;obtain⟨X,Y,Z,_,_,rfl,_⟩:=ha;obtain⟨_,B,m,rfl,_,_,j,_⟩:=XS hb;have f:B=ad:=by simpa using j af rfl
  subst f;exact⟨Vx λn=>by simp[Op.equalIn,step _ g],rfl⟩
 .rw[AQ hb];rw[Zh (by rfl)]at ha;simp only[yH,List.cons.injEq,and_true]at ha;obtain⟨fs,cs,rfl,_⟩:=ha;exact⟨Vx λn=>by simp[Op.equalIn,step _ g],rfl⟩
 .rw[AQ ha,AQ hb];exact⟨Vx λn=>by simp[Op.equalIn,step _ g],rfl⟩
theorem ZwV{P:yg}{op:BinOp}{t:yc}{x y:Dv}{hs hs':yL ao}{C:yL Prop}{d:Dv}(h:gK P op t x y hs=ab (C,d,hs'))(hc:aX C){J:Sg}{a b:yh}
 (ha:yJ J x a) (hb:yJ J y b) (A E:yp):
 ∃v,(eqGuard op t A E a b).run P J.w=.ok () J.w/\(binOp op t a b).run P J.w=.ok v J.w/\yJ J d v:=by
 unfold gK at h;split at h
 .have F:=ZC ha;have G:=ZC hb;subst F;subst G;split at h
  .rename_i I;obtain⟨v,l,j⟩:=ZsB (P:=P) (yk:= ‹IntKind›) h hc J;refine⟨v,by rw[eqGuard_at_int];rfl, ?_,j⟩;cases op <;> first|(simp[AO]at I;done)|exact l
  .split at h
   .rename_i M;subst M;obtain⟨v,l,j⟩:=ZwM (P:=P) h hc J t;exact⟨v,by rw[eqGuard_at_int];rfl,l,j⟩
   .cases h
 .rw[oN ha,oN hb];split at h
  .cases h;exact⟨_,rfl,by rw[<-ByteArray.toList_eq, <-ByteArray.toList_eq];rfl,Yf _⟩
  .cases h;exact⟨_,rfl,by rw[<-ByteArray.toList_eq, <-ByteArray.toList_eq];rfl,Yf _⟩
  .cases h
 .split at h
  .simp only[yv,yq]at h;obtain⟨⟨C',r,z⟩,l,rfl,rfl,rfl⟩:=h;obtain⟨j,f⟩:=SR l hc ha hb;refine⟨.bool r, ?_, ?_,Yf _⟩
   .rcases f with f|⟨⟨m,rfl⟩,⟨g,rfl⟩,f⟩
    .rw[SQ f];rfl
    .exact run_eqGuard_agg _ _ _ _ _ _ _ f
   .rcases f with f|⟨⟨m,rfl⟩,⟨g,rfl⟩,f⟩
    .rw[ZuU f];simp[j]
    .rw[show binOp .eql t (.agg m) (.agg g)=(do pure (.bool (<-Op.equal t (.agg m) (.agg g)))) from rfl];simp[j]
  .simp only[yv,yq]at h;obtain⟨⟨C',r,z⟩,l,rfl,rfl,rfl⟩:=h;obtain⟨j,f⟩:=SR l hc ha hb;refine⟨.bool (!r), ?_, ?_,Yf _⟩
   .rcases f with f|⟨⟨m,rfl⟩,⟨g,rfl⟩,f⟩
    .rw[SQ f];rfl
    .exact run_eqGuard_agg _ _ _ _ _ _ _ f
   .rcases f with f|⟨⟨m,rfl⟩,⟨g,rfl⟩,f⟩
    .rw[ZuV f];simp[j]
    .rw[show binOp .neq t (.agg m) (.agg g)=(do pure (.bool (!(<-Op.equal t (.agg m) (.agg g))))) from rfl];simp[j]
  .cases h
end Go.Ev
end
section
namespace Go.Ev
section
variable{P:yg}{o:yj}{a:Act}{J:Sg}{ts:yL Dv}{hs hs':yL ao}{C:yL Prop}{d:Dv}
theorem SS(H:yL aq):aw H [] []=H:=by simp[aw]
theorem qF:(bc []:Nat->yO Nat)=λ_=>ad:=by
 funext i;simp[bc]
mutual
theorem qG{f:Nat->yO Nat}:∀(x y:Dv),x.rn (λ_=>ad)=ab y->x.rn f=ab x
 |.p x,_,_=>rfl
 |.elem x,_,_=>rfl
 |.ak _ _ _,_,h=>by simp[Dv.rn]at h
 |.own _ _ _ _,_,h=>by simp[Dv.rn]at h
 |.view _ _ _ _ _ _,_,h=>by simp[Dv.rn]at h
 |.agg j,_,h=>by
  simp only[Dv.rn,yv]at h ⊢;obtain⟨m,l,_⟩:=h
  exact⟨j,bQ j m l,rfl⟩
 |.arr n s j,_,h=>by
  simp only[Dv.rn,yv]at h ⊢;obtain⟨m,l,_⟩:=h
  exact⟨j,bQ j m l,rfl⟩
 |.fn g j,_,h=>by
  simp only[Dv.rn,yv]at h ⊢;obtain⟨m,l,_⟩:=h
  exact⟨j,bQ j m l,rfl⟩
 |.iface t x,_,h=>by
  simp only[Dv.rn,yv]at h ⊢;obtain⟨y,l,_⟩:=h
  exact⟨x,qG x y l,rfl⟩
 |.bm j,_,h=>by
  simp only[Dv.rn,yv]at h ⊢;obtain⟨m,l,_⟩:=h
  exact⟨j,bQ j m l,rfl⟩
 |.mp _,_,h=>by simp[Dv.rn]at h
 |.rv _ _ _ _ _,_,h=>by simp[Dv.rn]at h
 |.aZ _ _ _ _,_,h=>by simp[Dv.rn]at h
 |.an,_,_=>rfl
theorem bQ{f:Nat->yO Nat}:∀(x y:yL Dv),Dv.bB (λ_=>ad) x=ab y->Dv.bB f x=ab x
 |[],_,_=>rfl
 |x::g,_,h=>by
  simp only[Dv.bB]at h;split at h
  .rename_i y j l m;simp[Dv.bB,qG x y l,bQ g j m]
  .cases h
end
theorem ST{src dst e:yc}{xs:yL Pl}{b:ByteArray}{nn:yO Bool}{v:yh}(hs:P.underlying src=ab (.slice e))(he:P.underlying e=ab (.int .u8))(hd:P.underlying dst=ab .string)
 (hv:yJ J (.p (.sl nn 1 xs)) v) (g:xs=b.data.toList.map λx=>.int .u8 (x.toNat:Int)):(convert src dst v).run P J.w=.ok (.string b) J.w:=by
 obtain⟨z,A,c,rfl,T,U,W,X,E⟩:=XS hv;by_cases f:xs=[]
 .have F:b=⟨#[]⟩:=by
   rw[f]at g;have:b.data.toList=[]:=List.map_eq_nil_iff.1 g.symm;apply ByteArray.ext;grind
  subst F;subst f
  cases A with
  |none=>exact Go.Lib.run_convert_nil_bytes J.w src dst e c hs he hd
  |some A=>
   have G:=run_convert_bytes_string (P:=P) J.w src dst e (ab A) 0 c hs he hd;rw[ycn,G];simp[Conv.bytesToString,loadCells,loadCellsFrom];rfl
 .obtain⟨I,M,Y,rfl,Q,R⟩:=E f;have l:xs.length=b.size:=by rw[g];simp
  rw[l];refine Go.Lib.run_convert_whole (P:=P) J.w src e dst hs he hd I M b (λi m=> ?_) c;have S:i < xs.length:=by rw[l];exact m
  have h:xs[i]? =ab (.int .u8 (b[i].toNat:Int)):=by
   rw[g,yao]
   have:b.data.toList[i]? =ab b[i]:=by
    rw[yby];exact Array.getElem?_eq_getElem (by simpa using m)
   rw[this];rfl
  obtain⟨Z,y,j⟩:=uz z Q R h;simp only[aA]at y;subst y;have:=(j 0 _ rfl).1;grind
theorem SU{t e:yc}{x:yp}{n s:Nat}{xs:yL Pl}{nn:yO Bool}(ok:Ok J)(ho:o.op=.sliceToArrayPointer t x)(hu:P.underlying t=ab (.array n e))(hv:yJ J (.p (.sl nn s xs)) (a.eval x))(hn:n≠0)(l:n<=xs.length):
 YD P o a J (.elem (.arr n s (xs.take n))) J.H:=by
 obtain⟨m,A,c,hv,M,Q,R,S,y⟩:=XS hv
 have h:xs≠[]:=by
  grind
 obtain⟨f,g,T,rfl,j,z⟩:=y h;have E:xs=xs.take n++xs.drop n:=(ybc n xs).symm;rw[E]at j;obtain⟨F,U,rfl,G,I⟩:=Z1 j;refine Zk (v:=.pointer (ab ⟨f,g,ad⟩)) ok ?_ ?_
 .have:(Instr.arrayAt t (.slice (ab ⟨f,g,ad⟩) xs.length c)).run P J.w=.ok (.pointer (ab ⟨f,g,ad⟩)) J.w:=by
   simp[Instr.arrayAt,run_underlying hu,show¬xs.length < n by omega]
  simp[execOp,ho,hv,this]
 .rw[Zh rfl];simp only[yH];refine⟨f,g,F,rfl, ?_,(Wn.append z).1⟩;simp only[aA];exact⟨by rw[yaa];omega,Vd m n,G⟩
theorem SV{xs:yL Pl}{b:ByteArray}{nn:yO Bool}{v:yh}(hv:yJ J (.p (.sl nn 1 xs)) v)(g:xs=gS b):(Extern.Bytes.bytesOf v).run P J.w=.ok b J.w:=by
 obtain⟨M,A,c,rfl,X,Y,Z,h5,Q⟩:=XS hv;have zW:xs.length=b.size:=by rw[g,gS,yad,yax];rfl
 have h:xs=[]->b=.empty:=λR=>by
  apply ByteArray.ext;apply Array.toList_inj.1;rw[R]at g;exact List.map_eq_nil_iff.1 g.symm
 cases A with
 |none=>
  have l:xs=[]:=by
   all_goals grind
  rw[h l]
  simp[Extern.Bytes.bytesOf]
 |some A=>
  by_cases f:xs=[]
  .rw[h f,f];simp[Extern.Bytes.bytesOf,Extern.Bytes.loadBytes]
  .obtain⟨m,y,us,e,S,T⟩:=Q f;cases e
   have G:=Go.Lib.run_loadBytesX (P:=P) J.w (b.data.toList.map λx=>(x.toNat:Int)) ⟨m,y,ad⟩ .empty (λj x hj=>by
    have e:(⟨m,y,ad⟩:Addr).add j=⟨m,y+j,ad⟩:=by unfold Addr.add;split <;> simp_all
    rw[e]
    have E:xs[j]? =ab (.int .u8 x):=by
     rw[g,gS,yao];grind
    obtain⟨uy,I,F⟩:=uz M S T E;simp only[aA]at I;subst I;have:=(F 0 _ rfl).1;simpa using this)
   have U:(b.data.toList.map λx=>(x.toNat:Int)).length=xs.length:=by rw[g,gS,yad,yad]
   rw[U]at G;simp only[Extern.Bytes.bytesOf];rw[G];congr 1;apply ByteArray.ext
   have W:Go.Lib.bytesOf (b.data.toList.map λx=>(x.toNat:Int))=b.data.toList:=by
    unfold Go.Lib.bytesOf;rw[List.map_map]
    conv=>rhs;rw[<-List.map_id b.data.toList]
    exact List.map_congr_left λz _=>by simp
   rw[W];show(#[]:Array yB)++b.data.toList.toArray=b.data;simp
theorem ZCo(ok:Ok J)(z:aC J ts a){c:Call}{f:yp}{g:yw}{F G:yO Bool}{xs ys:yL Pl}{x y:ByteArray}(ho:o.op=.call c)(I:c.callee=.value f)(M:aF P ts 0 f=.fn g [])(hb:nf P g=ae)
 (hsz:c.args.size=c.argTypes.size) (Q:YJ P [] ts c g []=[.p (.sl F 1 xs),.p (.sl G 1 ys)]) (R:xs=gS x) (S:ys=gS y):YD P o a J (.p (.int .i64 (Go.Lib.compareBytes x.data.toList y.data.toList))) J.H:=by
 have j:=Zo (P:=P) z 0 f;rw[M]at j
 have A:g < big:=by
  unfold nf at hb;grind
 obtain⟨E,l,m⟩:=RK A j
 have h:aH J (YJ P [] ts c g []) (c.args.map a.eval++E).toList:=by
  unfold YJ;rw[yW A,Array.toList_append,Array.toList_map];exact QC (oV z [] (by simpa using hsz)) (qE [] m)
 rw[Q]at h;simp only[aH]at h;obtain⟨u,r1,T,U,v,r2,W,X,Y⟩:=h;subst W;subst Y;have e4:c.args.map a.eval++E= #[u,v]:=Array.toList_inj.1 T;refine Zk ok (ZD2 J.w ho I l hb ?_) (Zv _ _);rw[e4];have Z:=SV (P:=P) U R;have h2:=SV (P:=P) X S;change Sem.run P (do pure (goInt (Extern.BytealgCompare.cmp (<-Extern.Bytes.bytesOf u) (<-Extern.Bytes.bytesOf v)))) J.w=_
 simp only[Sem.run_bind,Z,h2,Sem.run_pure,Result.andThen];rw[Go.Lib.cmp_eq];rfl
theorem Zzj(ok:Ok J){src dst e:yc}{x:yp}{b:ByteArray}(ho:o.op=.convert src dst x)(hs:P.underlying src=ab .string)(hd:P.underlying dst=ab (.slice e))(he:P.underlying e=ab (.int .u8))
 (hv:a.eval x=.string b) (hb:b.size<=maxLen):YD P o a J (.p (.sl (ab ae) 1 (b.data.toList.map λx=>.int .u8 (x.toNat:Int)))) J.H:=by
 have E:J.w.grownBy (Go.Lib.bytesWorld J.w e b) ad:=⟨rfl,rfl,rfl,by rw[Go.Lib.bytesWorld_size];omega,λk F _=>Go.Lib.bytesWorld_at_old J.w e b k F⟩;obtain⟨to,f⟩:=nv ok E;have g:=Go.Lib.run_convert_string_bytes (P:=P) J.w src dst e b hs hd he
 refine ZJ (J':={ J with w:=Go.Lib.bytesWorld J.w e b}) (v:=.slice (ab ⟨J.w.heap.size,0,ad⟩) b.size (grownCap J.w b.size 0 e)) (by
  have G:execOp a.eval o=(do pure (.value (<-convert src dst (.string b)))):=by simp only[execOp,ho,hv]
  rw[G];generalize Go.Lib.bytesWorld J.w e b=w1 at g;generalize grownCap J.w b.size 0 e=S at g;simp[g]) to f ?_
 have m:(b.data.toList.map λx=>Pl.int .u8 (x.toNat:Int)).length=b.size:=by rw[yad,yax];rfl
 have I:aW 1 (b.data.toList.map λx=>Pl.int .u8 (x.toNat:Int)):=λy M=>by
  obtain⟨z,_,rfl⟩:=ybw.1 M;rfl
 rw[<-m];refine Yq I (by rw[m];exact grownCap_ge ..) (by rw[m];exact grownCap_le_maxLen _ _ _ _ hb) (Qy rfl) (λh=>(by cases h)) (λ_=>⟨J.w.heap.size,0,b.data.toList.map λx=>.int .u8 (x.toNat:Int),rfl, ?_,λj u A=>⟨?_, ?_⟩⟩)
 .generalize b.data.toList=l
  induction l with
  |nil=>simp[ar]
  |cons z l Q=>exact⟨[_],_,rfl,by simp[aA],Q⟩
 .rw[yao]at A;obtain⟨z,T,rfl⟩:=yv.1 A
  have R:j < b.size:=by
   grind
  rw[yar];have:=Go.Lib.bytesWorld_cell J.w e b j R;grind
 .exact RF f (ok.new _ (yl _)) (BI ok)
theorem ZCp(ok:Ok J)(G:aC J ts a)(h:bh P o ts hs=ab (C,d,hs'))(hc:aX C):YD P o a J d J.H:=by
 have h0:=h;unfold bh at h;split at h
 .rename_i x E
  have main:d=aF P ts o.type x->YD P o a J d J.H:=λe=>by
   subst e;exact Zk (v:=a.eval x) ok (by simp[execOp,E]) (Zo G _ _)
  split at h
  .simp only[yn,yq]at h;exact main h.2.1.symm
  .cases h
 .rename_i x E
  have main:d=aF P ts o.type x->YD P o a J d J.H:=λe=>by
   subst e;exact Zk (v:=a.eval x) ok (by simp[execOp,E]) (Zo G _ _)
  split at h
  .simp only[yn,yq]at h;exact main h.2.1.symm
  .cases h
 .rename_i c x y E;split at h
  .rename_i t β S hcv;simp only[yn,yq]at h;obtain⟨rfl,rfl,rfl⟩:=h;have hb:=Zo (P:=P) G 0 c;rw[hcv]at hb;have hb':=Yh hb;have ht:t=β:=hc.1;subst ht;refine Zk (v:=if t then a.eval x else a.eval y) ok (by simp[execOp,E,hb',asBool]) ?_
   cases t
   .exact Zo G _ _
   .exact Zo G _ _
  .cases h
 .rename_i x E;split at h
  .rename_i i f p F;simp only[yn,yq]at h;obtain⟨rfl,rfl,rfl⟩:=h;have l:=Zo (P:=P) G 0 x;rw[F]at l;obtain⟨b,M,T,U⟩:=lc l;exact Zk (v:=a.eval x) ok (by simp[execOp,E,U]) l
  .rename_i i v f p F;simp only[yn,yq]at h;obtain⟨rfl,rfl,rfl⟩:=h;have l:=Zo (P:=P) G 0 x;rw[F]at l;obtain⟨b,o',U,_⟩:=uF l;exact Zk (v:=a.eval x) ok (by simp[execOp,E,U]) l
  .rename_i y F;simp only[yn,yq]at h;obtain⟨rfl,rfl,rfl⟩:=h;have l:=Zo (P:=P) G 0 x;rw[F]at l;obtain⟨b,o',us,U,_⟩:=qw l;exact Zk (v:=a.eval x) ok (by simp[execOp,E,U]) l
  .rename_i f cap F;simp only[yn,yq]at h;obtain⟨rfl,rfl,rfl⟩:=h;have l:=Zo (P:=P) G 0 x;rw[F]at l;obtain⟨fs,cs,U,_⟩:=uG l;exact Zk (v:=a.eval x) ok (by simp[execOp,E,U]) l
  .cases h
 .rename_i op t x y yt E;obtain⟨v,M,T,U⟩:=ZwV (P:=P) h hc (Zo G t x) (Zo G yt y) x y;exact Zk ok (by simp[execOp,E,M,T]) U
 .rename_i t x E;split at h
  .rename_i b F;simp only[yn,yq]at h;obtain⟨rfl,rfl,rfl⟩:=h;have l:=Zo (P:=P) G 0 x;rw[F]at l;exact Zk (v:=.bool (!b)) ok (by simp[execOp,E,Yh l,Op.unary]) (Yf _)
  .cases h
 .rename_i t x E;split at h
  .rename_i k n F;have l:=Zo (P:=P) G 0 x;rw[F]at l;exact Zk ok (by simp[execOp,E,ZC l,Op.unary,Op.intArith]) (qr h hc J)
  .cases h
 .rename_i t x E;split at h
  .rename_i k n F;have l:=Zo (P:=P) G 0 x;rw[F]at l;split at h
   .cases h
   .rename_i I;simp only[yn,yq]at h;obtain⟨rfl,rfl,rfl⟩:=h;exact Zk ok (by simp[execOp,E,ZC l,Op.unary,I,intBits_xor]) (Zv k _)
  .cases h
 .rename_i src dst x E;split at h
  .rename_i d1 k k' n S Y F;have l:=Zo (P:=P) G src x;rw[F]at l;refine Zk ok ?_ (qr h hc J);simp[execOp,E,ZC l,convert,run_underlying S,run_underlying Y,Conv.intToInt]
  .rename_i e nn s xs S Y F;have l:=Zo (P:=P) G src x;rw[F]at l;split at h
   .rename_i b hs2 he;split at h
    .rename_i M;subst M;simp only[yn,yq]at h;obtain⟨rfl,rfl,rfl⟩:=h;refine Zk (v:=.string b) ok ?_ (by simp[yJ,Dv.isAgg,Pl.isAgg,yH,aA]);have zB:=ST (P:=P) S he Y l hc.1;simp[execOp,E,zB]
    .cases h
   .cases h
  .rename_i e id nn s xs S Y F;have l:=Zo (P:=P) G src x;rw[F]at l;split at h
   .rename_i b hs2 he;split at h
    .rename_i M;subst M;simp only[yn,yq]at h;obtain⟨rfl,rfl,rfl⟩:=h;refine Zk (v:=.string b) ok ?_ (by simp[yJ,Dv.isAgg,Pl.isAgg,yH,aA]);have zB:=ST (P:=P) S he Y (QB l) hc.1;simp[execOp,E,zB]
    .cases h
   .cases h
  .rename_i e b S Y F;have l:=Zo (P:=P) G src x;rw[F]at l;split at h
   .rename_i he;simp only[yn,yq]at h;obtain⟨rfl,rfl,rfl⟩:=h;exact Zzj ok E S Y he (oN l) hc.1
   .cases h
  .cases h
 .rename_i t x E;have l:=Zo (P:=P) G 0 x;split at h
  .rename_i n e nn s xs R F;rw[F]at l;split at h
   .rename_i hn;simp only[yn,yq]at h;obtain⟨rfl,rfl,rfl⟩:=h;exact SU ok E R l (by simpa using hn) hc.1
   .cases h
  .rename_i n e id nn s xs R F;rw[F]at l;split at h
   .rename_i hn;simp only[yn,yq]at h;obtain⟨rfl,rfl,rfl⟩:=h;exact SU ok E R (QB l) (by simpa using hn) hc.1
   .cases h
  .cases h
 .rename_i f first captured E
  split at h
  .rename_i hf;simp only[yn,yq]at h;obtain⟨rfl,rfl,rfl⟩:=h;rw[yi,yP]at hf;obtain⟨hf,W⟩:=hf;have:first= #[]:=by simpa using hf
   subst this;refine Zk (v:=.func (.func f) #[] (captured.map a.eval)) ok (by simp[execOp,E,Instr.makeFunc]) ?_;rw[Zh rfl];simp only[yH];refine⟨#[],captured.map a.eval, ?_,yW W,by rw[Array.empty_append,Array.toList_map];exact AZ _ _ (λx=>Zo G 0 x) _⟩;unfold fP;rw[yW W]
  .split at h
   .rename_i hc2;simp only[yn,yq]at h;obtain⟨rfl,rfl,rfl⟩:=h;have:captured= #[]:=by simpa using hc2
    subst this;have hge:¬f+big < big:=Nat.not_lt.2 (Nat.le_add_left big f);refine Zk (v:=.func (.func f) (first.map a.eval) #[]) ok (by simp[execOp,E,Instr.makeFunc]) ?_
    rw[Zh rfl];simp only[yH];refine⟨first.map a.eval, #[], ?_,yX hge,by rw[Array.append_empty,Array.toList_map];exact AZ _ _ (λx=>Zo G 0 x) _⟩
    unfold fP;rw[yX hge,Nat.add_sub_cancel]
   .cases h
 .rename_i t x E;split at h
  .cases h
  .rename_i u R hne;simp only[yn,yq]at h;obtain⟨rfl,rfl,rfl⟩:=h;obtain⟨M,T⟩:=Zo (P:=P) G t x;refine Zk (v:=.iface t (a.eval x)) ok ?_ ?_
   .have e:(Instr.makeInterface t (a.eval x)).run P J.w=.ok (.iface t (a.eval x)) J.w:=by
     simp only[Instr.makeInterface,Sem.run_bind,run_underlying hne,Result.andThen_ok];rfl
    simp[execOp,E,e]
   .rw[Zh rfl];simp only[yH];exact⟨a.eval x,rfl,M,T⟩
  .cases h
 .rename_i t x i E;simp only[yv,yq]at h;obtain⟨d1,M,rfl,rfl,rfl⟩:=h;obtain⟨u,T,U⟩:=ZsC M (Zo (P:=P) G t x);exact Zk ok (by simp[execOp,E,T]) U
 .rename_i t x i E;have l:=Zo (P:=P) G 0 x;split at h
  .rename_i fs id off yQ R F;rw[F]at l;split at h
   .rename_i f hf;split at h
    .rename_i I;simp only[yi,yE]at I;simp only[yn,yq]at h;obtain⟨rfl,rfl,rfl⟩:=h;obtain⟨b,M,T,U⟩:=lc l;refine Zk (v:=.pointer (ab ⟨b,off+f.offset,ad⟩)) ok ?_ ?_
     .have hs:=ZV (P:=P) I.2 J.w
      have Z:(fieldPlace ⟨b,off,ad⟩ f).run P J.w=.ok ⟨b,off+f.offset,ad⟩ J.w:=by
       unfold fieldPlace;rw[Sem.run_bind,hs];simp only[Result.andThen_ok,I.1,if_false,Sem.run_pure,Addr.bH]
      simp[execOp,E,U,Instr.fieldAt,run_underlying R,hf,Instr.sureAddr,Z]
     .rw[Zh rfl];simp only[yH];exact⟨b,M,T,rfl⟩
    .cases h
   .cases h
  .rename_i fs id v off yQ R F;rw[F]at l;split at h
   .rename_i f hf;split at h
    .rename_i I;simp only[yi,yE]at I;simp only[yn,yq]at h;obtain⟨rfl,rfl,rfl⟩:=h;obtain⟨b,o',U,h4⟩:=uF l;refine Zk (v:=.pointer (ab ⟨b,o'+f.offset,ad⟩)) ok ?_ (BA (BB h4));have hs:=ZV (P:=P) I.2 J.w
     have Z:(fieldPlace ⟨b,o',ad⟩ f).run P J.w=.ok ⟨b,o'+f.offset,ad⟩ J.w:=by
      unfold fieldPlace;rw[Sem.run_bind,hs];simp only[Result.andThen_ok,I.1,if_false,Sem.run_pure,Addr.bH]
     simp[execOp,E,U,Instr.fieldAt,run_underlying R,hf,Instr.sureAddr,Z]
    .cases h
   .cases h
  .rename_i fs y R F;rw[F]at l;split at h
   .rename_i z hz;simp only[yn,yq]at h;obtain⟨rfl,rfl,rfl⟩:=h;obtain⟨b,off,us,M,T,U⟩:=qw l;unfold jb at hz;rw[R]at hz;split at hz
    .rename_i fs' xs hfs hxs;cases hfs;cases hxs;split at hz
     .rename_i y' hy;split at hz
      .rename_i hok;cases hz;unfold ko at hok;split at hok
       .rename_i f hf;simp only[yi,yT,yE]at hok;obtain⟨⟨⟨⟨⟨k1,k2⟩,k3⟩,k4⟩,k5⟩,k6⟩:=hok;simp only[aA]at T;obtain⟨p1,p2,p3,rfl,e1,e2,_⟩:=kV T hy;refine Zk (v:=.pointer (ab ⟨b,off+f.offset,ad⟩)) ok ?_ ?_
        .have hs:=ZV (P:=P) k3 J.w
         have Z:(fieldPlace ⟨b,off,ad⟩ f).run P J.w=.ok ⟨b,off+f.offset,ad⟩ J.w:=by
          unfold fieldPlace;rw[Sem.run_bind,hs];simp only[Result.andThen_ok,k2,k6,if_false,Sem.run_pure,Addr.bH]
         simp[execOp,E,M,Instr.fieldAt,run_underlying R,hf,Instr.sureAddr,Z]
        .rw[Zh rfl];simp only[yH];refine⟨b,_,p2,rfl,e2, ?_⟩;have:=(Wn.append (Wn.append U).2).1;rw[e1, <-k1]at this;exact this
       .cases hok
      .cases hz
     .cases hz
    .rename_i hxs;cases hxs
    .cases hz
   .cases h
  .cases h
 .rename_i t x ix E;exact ZwP ok G E h0 hc
 .rename_i t x ix E;have l:=Zo (P:=P) G t x;have hi:=Zo (P:=P) G 0 ix;split at h
  .rename_i n e n' s xs k i R F hix;rw[F]at l;rw[hix]at hi;split at h
   .rename_i y S;split at h
    .rename_i I;simp only[yi,yP,yT,yE]at I;obtain⟨⟨⟨⟨⟨rfl,k1⟩,k2⟩,k3⟩,k4⟩,k5⟩:=I;simp only[yn,yq]at h;obtain⟨rfl,rfl,rfl⟩:=h;obtain⟨c1,c2,_⟩:=hc;obtain⟨cs,hcs,Z⟩:=(ZT rfl).1 l;simp only[yH,aA]at Z;obtain⟨r1,r2,r3⟩:=Z;obtain⟨p1,p2,p3,ecs,e1,e2,_⟩:=kV r3 c2;have W:i.toNat < xs.length:=(yu.1 c2).1;have hys:y.size=s:=r2 y (ybj c2)
     have hpl:p1.length=i.toNat*s:=by
      rw[e1,aN (Vd r2 _),yaa,yay (Nat.le_of_lt W)]
     obtain⟨v,M,T⟩:=kv (P:=P) (J:=J) (t:=e) (d:=.p y) ecs (by simpa[yH] using e2) (by rw[k1];exact hys.symm) k4 k3 k2 (by show y.size≠0;rw[hys];exact k5);refine Zk ok ?_ T;have hb:0<=i/\i < (n:Int):=⟨c1,by omega⟩;rw[hpl, <-k1]at M;simp[execOp,E,hcs,ZC hi,Instr.index,asIntOf,run_underlying R,hb,ZV k4,M]
    .cases h
   .cases h
  .rename_i s k i R F hix;rw[F]at l;rw[hix]at hi;split at h
   .rename_i b S;simp only[yn,yq]at h;obtain⟨rfl,rfl,rfl⟩:=h;obtain⟨c1,c2,_⟩:=hc;obtain⟨x0,M,rfl⟩:=yv.1 c2;refine Zk ok (v:=.int .u8 x0.toNat) ?_ (Zv _ _)
    have hg:s[i.toNat]? =ab x0:=by
     rw[<-M];have W:i.toNat < s.data.toList.length:=(yu.1 M).1;have hlt':i.toNat < s.size:=by simpa using W
     rw[getElem?_pos s i.toNat hlt',yab W];rfl
    simp[execOp,E,oN l,ZC hi,Instr.index,asIntOf,run_underlying R,c1,hg]
   .cases h
  .rename_i n e n' s xs k i R F hix;rw[F]at l;rw[hix]at hi;split at h
   .rename_i y c2;split at h
    .rename_i I;simp only[yi,yP,yT,yE]at I;obtain⟨⟨⟨⟨⟨rfl,k1⟩,k2⟩,k3⟩,k4⟩,k5⟩:=I;simp only[yn,yq]at h;obtain⟨rfl,rfl,rfl⟩:=h;obtain⟨c1,_⟩:=hc;obtain⟨cs,hcs,Z⟩:=(ZT rfl).1 l;simp only[yH]at Z;obtain⟨r1,r2,r3⟩:=Z;obtain⟨p1,p2,p3,ecs,e1,e2,_⟩:=lW r3 c2;have W:i.toNat < xs.length:=(yu.1 c2).1;have hys:y.size=s:=r2 y (ybj c2)
     have hpl:p1.length=i.toNat*s:=by
      rw[e1,cY (λx F=>r2 x (ybr F)),yaa,yay (Nat.le_of_lt W)]
     obtain⟨v,M,T⟩:=kv (P:=P) (J:=J) (t:=e) (d:=y) ecs e2 (by rw[k1];exact hys.symm) k4 k3 k2 (by rw[hys];exact k5);refine Zk ok ?_ T;have hb:0<=i/\i < (n:Int):=⟨c1,by omega⟩;rw[hpl, <-k1]at M;simp[execOp,E,hcs,ZC hi,Instr.index,asIntOf,run_underlying R,hb,ZV k4,M]
    .cases h
   .cases h
  .cases h
 .rename_i t x lo hi E;exact ZHe ok G E h0 hc
 .rename_i t x lo hi mx E;exact ZDW ok G E h0 hc
 .rename_i x i E;split at h
  .rename_i ds F;simp only[yv,yq]at h;obtain⟨d1,M,rfl,rfl,rfl⟩:=h;have l:=Zo (P:=P) G 0 x;rw[F,Zh rfl]at l;simp only[yH,List.cons.injEq,and_true]at l;obtain⟨cs,l,Z⟩:=l;obtain⟨v,T,U⟩:=uC Z M;have h2':cs[i]? =ab v:=by simpa using T
   exact Zk ok (by simp[execOp,E,l,Instr.extract,h2']) U
  .cases h
 .rename_i t x E;split at h
  .rename_i y F;split at h
   .rename_i I;simp only[yi,yT,yP]at I;obtain⟨⟨⟨k1,k2⟩,k3⟩,k4⟩:=I;simp only[yn,yq]at h;obtain⟨rfl,rfl,rfl⟩:=h;have l:=Zo (P:=P) G 0 x;rw[F]at l;obtain⟨b,off,us,M,T,U⟩:=qw l;obtain⟨v,h4,h5⟩:=uA (P:=P) (J:=J) (d:=.p y) (by simpa[yH] using T) (λj u R=>(U j u R).1) k1 k4 k3 k2;exact Zk ok (by simp[execOp,E,M,Instr.loadAt,Instr.sureAddr,h4]) h5
   .cases h
  .cases h
 .rename_i t parts E;exact ZHf ok G E h0
 .rename_i c E;split at h
  .rename_i zL;split at h
   .rename_i x t X Q;have l:=Zo (P:=P) G t x;split at h
    .rename_i e nn s xs R F;rw[F]at l;simp only[yn,yq]at h;obtain⟨rfl,rfl,rfl⟩:=h;obtain⟨_,A,cp,M,_⟩:=XS l;exact Zk ok (nE E zL X Q (by rw[M];simp[Builtin.len_,run_underlying R];rfl)) (Zv _ _)
    .rename_i e id nn s xs R F;rw[F]at l;simp only[yn,yq]at h;obtain⟨rfl,rfl,rfl⟩:=h;obtain⟨_,A,cp,M,_⟩:=QA l;exact Zk ok (nE E zL X Q (by rw[M];simp[Builtin.len_,run_underlying R];rfl)) (Zv _ _)
    .rename_i e id off yQ s lo n R F;rw[F]at l;simp only[yn,yq]at h;obtain⟨rfl,rfl,rfl⟩:=h;obtain⟨b,cp,aa,_,_,M,_⟩:=nB l;exact Zk ok (nE E zL X Q (by rw[M];simp[Builtin.len_,run_underlying R];rfl)) (Zv _ _)
    .rename_i e id v s lo n R F;rw[F]at l;simp only[yn,yq]at h;obtain⟨rfl,rfl,rfl⟩:=h;obtain⟨A,cp,M,_⟩:=jf l;exact Zk ok (nE E zL X Q (by rw[M];simp[Builtin.len_,run_underlying R];rfl)) (Zv _ _)
    .rename_i dd n e R;simp only[yn,yq]at h;obtain⟨rfl,rfl,rfl⟩:=h;exact Zk ok (nE E zL X Q (by simp[Builtin.len_,run_underlying R];rfl)) (Zv _ _)
    .rename_i s R F;rw[F]at l;simp only[yn,yq]at h;obtain⟨rfl,rfl,rfl⟩:=h;exact Zk ok (nE E zL X Q (by rw[oN l];simp[Builtin.len_,run_underlying R];rfl)) (Zv _ _)
    .cases h
   .cases h
  .rename_i zL;split at h
   .rename_i x y t u X Q;have l:=Zo (P:=P) G t x;have hw:=Zo (P:=P) G u y;split at h
    .rename_i m n F hy;rw[F]at l;rw[hy]at hw;simp only[yn,yq]at h;obtain⟨rfl,rfl,rfl⟩:=h;exact Zk ok (ZDZ E zL X Q (by rw[ZC l,ZC hw];simp[Builtin.max_,Builtin.max2])) (Zv _ _)
    .cases h
   .cases h
  .rename_i zL;split at h
   .rename_i x y t u X Q;have l:=Zo (P:=P) G t x;have hw:=Zo (P:=P) G u y;split at h
    .rename_i m n F hy;rw[F]at l;rw[hy]at hw;simp only[yn,yq]at h;obtain⟨rfl,rfl,rfl⟩:=h;exact Zk ok (ZD0 E zL X Q (by rw[ZC l,ZC hw];simp[Builtin.min_,Builtin.min2])) (Zv _ _)
    .cases h
   .cases h
  .rename_i zL;split at h
   .rename_i x y t u S X Q;split at h
    .rename_i e s R F;split at h
     .rename_i i ys hi hsrc;split at h
      .rename_i I;simp only[yi,yE]at I;simp only[yn,yq]at h;obtain⟨rfl,rfl,rfl⟩:=h;exact ZsD ok G E zL X Q R F hi I.1 I.2 hsrc hc.1 hc.2.1
      .cases h
     .cases h
    .cases h
   .cases h
  .rename_i f zL;split at h
   .rename_i g cap r S hf;split at h
    .rename_i I;simp only[yi,yT]at I;split at h
     .rename_i args' r1 X Z;simp only[yn,yq]at h;obtain⟨rfl,rfl,rfl⟩:=h
      have:=uQ (P:=P) (ids:=[]) (Hin:=[]) (H':=[]) (Hb:=[]) (r:=r) (r':=r) ok G E zL hf I.1 I.2 rfl (yl _) (by rw[qF];exact X) rfl
       (qG r r1 Z) rfl hc.1
      rwa [SS]at this
     .cases h
    .cases h
   .rename_i g x y S hf;split at h
    .rename_i I;simp only[yi,yT]at I;split at h
     .rename_i n1 s xs n2 s' ys X;split at h
      .rename_i M;obtain⟨M,T⟩:=M;subst M;subst T;simp only[yn,yq]at h;obtain⟨rfl,rfl,rfl⟩:=h;exact ZCo ok G E zL hf I.1 I.2 X hc.1 hc.2.1
      .cases h
     .cases h
    .cases h
   .cases h
  .cases h
 .rename_i t len parts E;split at h
  .rename_i S;split at h
   .rename_i e R;split at h
    .rename_i i xs hi hl;split at h
     .rename_i I;simp only[yi,yE,yP]at I;simp only[yn,yq]at h;obtain⟨rfl,rfl,rfl⟩:=h;exact Ve (SA ok G E R hi I.1.1 I.1.2 I.2 hl) (Wk.p (bI.qu (by rw[<-Pl.cG];exact cK _))) (bX.refl _)
     .cases h
    .cases h
   .cases h
  .rename_i S;split at h
   .rename_i e R;split at h
    .rename_i i xs hi hl;split at h
     .rename_i I;simp only[yi,yE,yP]at I;simp only[yn,yq]at h;obtain⟨rfl,rfl,rfl⟩:=h;exact SA ok G E R hi I.1.1 I.1.2 I.2 hl
     .cases h
    .cases h
   .cases h
  .cases h
 .cases h
theorem ZCq{x y:yp}{t u:yc}{c:Call}{w':yr}(ho:o.op=.call c)(hc:c.callee=.builtin .copy)(g:c.args.toList=[x,y])(f:c.argTypes.toList=[t,u]){v:yh}
 (h:(Builtin.copy_ #[t,u] o.type #[a.eval x,a.eval y]).run P J.w=.ok v w'):(execOp a.eval o).run P J.w=.ok (.value v) w':=by
 have j:c.args= #[x,y]:=by rw[<-ycf (xs:=c.args),g]
 have l:c.argTypes= #[t,u]:=by rw[<-ycf (xs:=c.argTypes),f]
 simp[execOp,ho,resolve,hc,j,l,invoke,builtin,h]
theorem qH(ok:Ok J){id v v' s lo n N:Nat}{st:Bool}{e:yc}{zs:yL Pl}{u:yh}(S:yJ J (.rv id v s lo n) u)(hH:J.H[id]? =ab (.row v' s st e (.p (.arr N s zs))))(hv:v'=v)(hle:lo+n<=N):
 ∃A c,u=.slice A n c/\n<=c/\c<=maxLen/\(A=ad->c=0)/\aW s ((zs.drop lo).take n)/\((zs.drop lo).take n).length=n/\∃q,ar J.w J.be ((zs.drop lo).take n) q/\q.length=n*s/\
  (0 < n->∃b cur cap,A=ab ⟨b,lo*s,ad⟩/\J.m[id]? =ab (ab b)/\J.w.heap[b]? =ab (.cells cur e (0,0))/\cur.size=cap*s/\∀(j:Nat)(u:yh),q[j]? =ab u->J.w.cell? ⟨b,lo*s+j,ad⟩=ab u):=by
 obtain⟨A,c,rfl,h2,h3,h4,h5,v2,s2,st2,y,d2,h6,T,h8⟩:=jf S;rw[hH]at h6;cases h6;obtain⟨_,h9⟩:=h8 hv;have g:id < J.m.length:=by rw[ok.len];exact(yu.1 hH).1
 have l:J.m[id]? =ab J.m[id]:=yab g;obtain⟨N',E,F⟩:=ok.dD id _ _ hH l;simp only[aR,if_true,yn]at E;subst E;by_cases hn:n=0
 .subst hn;refine⟨A,c,rfl,h2,h3,h4, ?_,by simp,[],by simp[ar],by simp,λh=>absurd h (by omega)⟩;simp only[List.take_zero];intro x S;cases S
 have hpos:0 < n:=Nat.pos_of_ne_zero hn;rcases h9 with⟨_,_,Q⟩|⟨b,cur,G,U,k3,k4⟩
 .omega
 rw[l]at G;rcases F with⟨R,_⟩|⟨b',cur',cap,R,g2,g4,g5,g6,g7⟩
 .rw[R]at G;cases G
 rw[R]at G;cases G;rw[U]at g2;cases g2;simp only[yH,aA]at g7;obtain⟨hxl,I,T⟩:=g7
 have f:zs=zs.take lo++((zs.drop lo).take n++zs.drop (lo+n)):=by
  have W:zs.drop (lo+n)=(zs.drop lo).drop n:=by rw[List.drop_drop]
  rw[W,ybc,ybc]
 rw[f]at T;obtain⟨q1,q23,W,r1,X⟩:=Z1 T;obtain⟨Y,q3,rfl,r2,r3⟩:=Z1 X;have Z:aW s (zs.take lo):=λz Q=>I z (ybr Q);have M:aW s ((zs.drop lo).take n):=λz Q=>I z (ycq (ybr Q));have ly:((zs.drop lo).take n).length=n:=by rw[yaa,yaz,yay (by omega)]
 have l1:q1.length=lo*s:=by rw[aL _ _ r1,aN Z,yaa,yay (by omega)]
 have l2:Y.length=n*s:=by rw[aL _ _ r2,aN M,ly]
 refine⟨A,c,rfl,h2,h3,h4,M,ly,Y,r2,l2,λ_=>⟨b,cur,cap,k4 (by omega),by rw[l,R],U,g4,λj u hu=> ?_⟩⟩;rw[cell_of_row J.w b _ cur e (0,0) U, <-yby];have hj:j < Y.length:=(yu.1 hu).1
 have y:(cur.toList.take (N*s))[lo*s+j]? =ab u:=by
  rw[W,yaq (by omega),l1,Nat.add_sub_cancel_left,ybe hj];exact hu
 rw[ycd]at y;split at y
 .exact y
 .cases y
theorem uR(ok:Ok J)(yM:aC J ts a){s:Nat}{u ut:yc}{y:yp}{ys:yL Pl}{hs1:yL ao}{C1:yL Prop}(h:iG P s u J.H hs (aF P ts ut y)=ab (C1,ys,hs1))(hc:aX C1):
 lY P J s u (a.eval y) ys:=by
 unfold iG at h;split at h
 .rename_i id off yQ s' lo n hd;have E:=Zo (P:=P) yM ut y;rw[hd]at E;obtain⟨b,S,A,hm,F,T,hcap,hcm,hA⟩:=nB E;split at h
  .rename_i e dd st hu hH;split at h
   .rename_i C2 f N l zs hs2 hg;split at h
    .rename_i hk;simp only[yi,yP]at hk;obtain⟨rfl,rfl⟩:=hk;simp only[yn,yq]at h;obtain⟨rfl,rfl,rfl⟩:=h;obtain⟨c1,rfl,c2,_⟩:=Zl.1 hc;obtain⟨b',Z,t',h1,h2,h3,h4⟩:=ok.dD id _ _ hH hm;cases h1;obtain⟨p1,p2,p3,h5,h6,h7,_⟩:=QD yQ dd hs hs2 C2 f (.p (.arr N l zs)) _ hg c1 h3;simp only[yH,aA]at h7;obtain⟨hxl,hxs,h7⟩:=h7
     have G:zs=zs.take lo++((zs.drop lo).take n++zs.drop (lo+n)):=by
      have e1:zs.drop (lo+n)=(zs.drop lo).drop n:=by rw[List.drop_drop]
      rw[e1,ybc,ybc]
     rw[G]at h7;obtain⟨q1,q23,rfl,r1,r23⟩:=Z1 h7;obtain⟨m,q3,rfl,r2,r3⟩:=Z1 r23;have hs1:aW l (zs.take lo):=λz U=>hxs z (ybr U);have I:aW l ((zs.drop lo).take n):=λz U=>hxs z (ycq (ybr U));have R:((zs.drop lo).take n).length=n:=by rw[yaa,yaz,yay (by omega)]
     have l1:q1.length=lo*l:=by rw[aL _ _ r1,aN hs1,yaa,yay (by omega)]
     have W:m.length=n*l:=by rw[aL _ _ r2,aN I,R]
     rw[T];refine⟨m,⟨.inl ⟨_,hu⟩,λw'=>by rw[R];rfl, ?_, ?_,by rw[R];exact W⟩,r2,λ_=>I⟩
     all_goals
      rw[R];rcases yct n with h0|h0
      .subst h0;have U:m=[]:=ybi (by rw[W];simp);rw[U];simp[Builtin.firstCells,loadCells,loadCellsFrom]
      .rw[hA h0];refine run_firstCells_some _ l _ ⟨b,f+lo*l,ad⟩ _ S m W (λj v F=> ?_);rw[Addr.bH];have g:J.w.cell? ⟨b,f+lo*l+j,ad⟩=Z[f+lo*l+j]? :=cell_of_row J.w b _ Z t' (0,0) h2
       first
        |(rw[g, <-yby]
          have X:Z.toList.take dd.size=(p1++q1)++(m++(q3++p3)):=by rw[h5];simp
          have Y:(p1++q1).length=f+lo*l:=by rw[ym,h6,l1]
          have hj:j < m.length:=(yu.1 F).1
          have M:(Z.toList.take dd.size)[f+lo*l+j]? =ab v:=by
           rw[X,yaq (by omega),Y,Nat.add_sub_cancel_left,ybe hj];exact F
          rw[ycd]at M;split at M
          .exact M
          .cases M)
        |(show J.w.drew.cell? _=_
          have Q:J.w.drew.cell? ⟨b,f+lo*l+j,ad⟩=J.w.cell? ⟨b,f+lo*l+j,ad⟩:=rfl;rw[Q,g, <-yby];have X:Z.toList.take dd.size=(p1++q1)++(m++(q3++p3)):=by rw[h5];simp
          have Y:(p1++q1).length=f+lo*l:=by rw[ym,h6,l1]
          have hj:j < m.length:=(yu.1 F).1
          have M:(Z.toList.take dd.size)[f+lo*l+j]? =ab v:=by
           rw[X,yaq (by omega),Y,Nat.add_sub_cancel_left,ybe hj];exact F
          rw[ycd]at M;split at M
          .exact M
          .cases M)
    .cases h
   .cases h
  .cases h
 .rename_i id v s' lo n hd;have E:=Zo (P:=P) yM ut y;rw[hd]at E;split at h
  .rename_i e v' l st e' N s3 zs hu hH;split at h
   .rename_i hk;simp only[yi,yP,yT]at hk;obtain⟨⟨⟨rfl,rfl⟩,rfl⟩,F⟩:=hk;simp only[yn,yq]at h;obtain⟨rfl,rfl,rfl⟩:=h;obtain⟨A,S,T,hcap,hcm,hA,I,R,m,r2,W,hq⟩:=qH ok E hH F hc.1;rw[T];refine⟨m,⟨.inl ⟨_,hu⟩,λw'=>by rw[R];rfl, ?_, ?_,by rw[R];exact W⟩,r2,λ_=>I⟩
    all_goals
     rw[R];rcases yct n with h0|h0
     .subst h0;have U:m=[]:=ybi (by rw[W];simp);rw[U];cases A <;> simp[Builtin.firstCells,loadCells,loadCellsFrom]
     .obtain⟨b,cur,cp,rfl,_,_,_,g⟩:=hq h0;refine run_firstCells_some _ _ _ ⟨b,_,ad⟩ _ S m W (λj v F=> ?_);rw[Addr.bH];exact g j v F
   .cases h
  .cases h
 .simp only[yv,yq]at h;obtain⟨zs,h1,rfl,rfl,rfl⟩:=h;exact oS (P:=P) yM h1
theorem ZJC(ok:Ok J)(yM:aC J ts a){c:Call}{x y:yp}{t u e:yc}{id off s lo n N:Nat}{yQ:yL Nat}{dd dd':Dv}{xs ys:yL Pl}{C1:yL Prop}{off':Nat}(ho:o.op=.call c)(zL:c.callee=.builtin .copy)
 (yR:c.args.toList=[x,y]) (R:c.argTypes.toList=[t,u]) (ht:P.underlying t=ab (.slice e)) (hx:aF P ts t x=.view id off yQ s lo n) (S:gU P s u (aF P ts u y)=ab ys)
 (hH:J.H[id]? =ab (.var dd ae)) (hg:Z6 dd yQ hs=ab (C1,off',.p (.arr N s xs),hs')) (hc:aX C1) (he:off'=off) (hp:X5 (.p (.arr N s (oL xs ys lo))) dd yQ hs=ab dd')
 (hce:P.cellsOf e=s) (hi:(P.info? e).isSome=ae) (hm':ys.length<=n) (hn:lo+n<=N):YD P o a J (.p (.int .i64 (ys.length:Int))) (J.H.set id (.var dd' ae)):=by
 subst he;have E:=Zo (P:=P) yM t x;rw[hx]at E;obtain⟨b,cap,A,hm,hv,E,hcap,hcm,hA⟩:=nB E;obtain⟨g,hS,T,zU⟩:=oS (P:=P) yM S;obtain⟨b',F,U,h1,h2,h3,h4⟩:=ok.dD id _ _ hH hm;cases h1;obtain⟨p1,p2,p3,h5,h6,W,h8⟩:=QD yQ dd hs hs' C1 off' (.p (.arr N s xs)) _ hg hc h3;simp only[yH,aA]at W;obtain⟨hxl,M,W⟩:=W;have hlo:lo+ys.length<=xs.length:=by omega
 have G:xs=xs.take lo++((xs.drop lo).take ys.length++xs.drop (lo+ys.length)):=by
  have e1:xs.drop (lo+ys.length)=(xs.drop lo).drop ys.length:=by rw[List.drop_drop]
  rw[e1,ybc,ybc]
 rw[G]at W;obtain⟨X,q23,rfl,r1,r23⟩:=Z1 W;obtain⟨q2,q3,rfl,r2,r3⟩:=Z1 r23;have Y:aW s (xs.take lo):=λz l=>M z (ybr l);have hs2:aW s ((xs.drop lo).take ys.length):=λz l=>M z (ycq (ybr l));have hs3:aW s (xs.drop (lo+ys.length)):=λz l=>M z (ycq l);have l1:X.length=lo*s:=by rw[aL _ _ r1,aN Y,yaa,yay (by omega)]
 have l2:q2.length=ys.length*s:=by rw[aL _ _ r2,aN hs2,yaa,yaz,yay (by omega)]
 have ln:g.length=ys.length*s:=hS.cells
 have hys:aW s ys:=by
  by_cases h0:ys=[]
  .subst h0;intro z l;cases l
  .exact zU h0
 have I:yH J (.p (.arr N s (oL xs ys lo))) (X++(g++q3)):=by
  simp only[yH,aA];refine⟨?_, ?_, ?_⟩
  .unfold oL;simp only[ym,yaa,yaz];omega
  .exact XW Y (XW hys hs3)
  .exact Z0 r1 (Z0 T r3)
 obtain⟨h9,Z⟩:=h8 _ dd' _ hp rfl I;have h5':F.toList.take dd.size=(p1++X)++(q2++(q3++p3)):=by rw[h5];simp
 have hll:g.length=q2.length:=by rw[ln,l2]
 obtain⟨k1,k2⟩:=oU h5' hll h4;have hpl:(p1++X).length=off'+lo*s:=by rw[ym,h6,l1]
 rw[hpl]at k1 k2
 have hnl:off'+lo*s+g.length<=F.size:=by
  have:=congrArg List.length h5';simp only[yaa,yax,ym]at this;omega
 have hone:∀v,v∈g->v.oneCell'=ae:=ce _ _ T;have hst:=run_storeCells_at P b (off'+lo*s) U g 0 F J.w h2 (by simpa using hnl) hone;simp only[Nat.add_zero]at hst;let f:Array yh:=(F.toList.take (off'+lo*s)++g++F.toList.drop (off'+lo*s+g.length)).toArray
 have hstA:(storeCells A g 0).run P J.w=.ok () (J.w.setRow b f):=by
  by_cases h0:ys.length=0
  .have l:g=[]:=ybi (by rw[ln,h0];simp)
   have e1:f=F:=by
    simp only[f,l,List.append_nil,ycn,Nat.add_zero,ybc,ycf]
   rw[e1,setRow_self J.w b F U (0,0) h2,l];simp[storeCells]
  .rw[hA (by omega)];exact hst
 let J':Sg:={ J with m:=J.m.set id (ab b),H:=J.H.set id (.var dd' ae),w:=J.w.setRow b f};have zV:J'.w.heap[b]? =ab (.cells f U (0,0)):=setRow_heap J.w b F _ U _ h2;have hoth:∀j,b≠j->J'.w.heap[j]? =J.w.heap[j]? :=λj hj=>setRow_other J.w b j _ (Ne.symm hj)
 obtain⟨to,ok'⟩:=YF (J':=J') (mi:=ab b) (mi':=ab b) ok hH hm rfl rfl rfl rfl rfl rfl rfl (by simp[J'])
  (λj hj hne=>hoth j (λhh=>hne (by rw[hh]))) (λb' o v _ hu _=>by cases hu) (λo _ hu=>by cases hu) (.inl rfl) (λ_=>⟨rfl,dd',ae,rfl⟩) (λ⟨d,st,h⟩=>by cases h)
  (λs e xs h=>by cases h) (λleaf=>⟨b,f,U,rfl,zV,by rw[Z];show yH J' dd' (f.toList.take dd.size);rw[show f.toList.take dd.size=p1++((X++(g++q3))++p3) from by rw[k1];simp];exact Z9 leaf dd' _ h9,by
    rw[Z];show dd.size<=f.size;have:f.size=F.size:=k2;omega⟩)
 refine ZJ (J':=J') (v:=goInt ys.length) (ZCq ho zL yR R ?_) to ok' (by rw[Zh rfl];simp[yH,aA,goInt])
 cases Q:P.info? e with
 |none=>simp[Q]at hi
 |some i=>
  have hsz:i.size=s:=by rw[<-hce];simp[Program.cellsOf,Q]
  have hmin:Nat.min ys.length n=ys.length:=yay hm';rw[E];simp[Builtin.copy_,run_underlying ht,hS.len,hmin,sizeOf,typeInfo,Q,hsz,hS.first,hstA,goInt,J']
end
end Go.Ev
end
section
namespace Go.Ev
def qI:yh->Bool
 |.int _ _=>ae
 |.bool _=>ae
 |_=>af
mutual
theorem qJ{w w':yr}{S S':Nat->Nat->Prop}:∀(x:Pl)(us vs:yL yh),x.flat=ae->aA w S x us->aA w' S' x vs->us=vs/\∀u,u∈us->qI u=ae
 |.int _ _,us,vs,_,h,k=>by simp only[aA]at h k;subst h;subst k;exact⟨rfl,λu g=>by rw[yba.1 g];rfl⟩
 |.bool _,us,vs,_,h,k=>by simp only[aA]at h k;subst h;subst k;exact⟨rfl,λu g=>by rw[yba.1 g];rfl⟩
 |.str _,_,_,h,_,_=>by simp[Pl.flat]at h
 |.bW,_,_,h,_,_=>by simp[Pl.flat]at h
 |.fn0,_,_,h,_,_=>by simp[Pl.flat]at h
 |.eE,_,_,h,_,_=>by simp[Pl.flat]at h
 |.cB,_,_,h,_,_=>by simp[Pl.flat]at h
 |.gq _,_,_,h,_,_=>by simp[Pl.flat]at h
 |.agg j,us,vs,f,h,k=>by
  simp only[Pl.flat]at f;simp only[aA]at h k
  exact dK j us vs f h k
 |.arr n s j,us,vs,f,h,k=>by
  simp only[Pl.flat]at f;simp only[aA]at h k
  exact dK j us vs f h.2.2 k.2.2
 |.sl _ _ _,_,_,h,_,_=>by simp[Pl.flat]at h
 |.iface _ _,_,_,h,_,_=>by simp[Pl.flat]at h
theorem dK{w w':yr}{S S':Nat->Nat->Prop}:∀(xs:yL Pl)(us vs:yL yh),Pl.aS xs=ae->ar w S xs us->ar w' S' xs vs->us=vs/\∀u,u∈us->qI u=ae
 |[],us,vs,_,h,k=>by simp only[ar]at h k;subst h;subst k;exact⟨rfl,λu hu=>by cases hu⟩
 |x::xs,us,vs,f,h,k=>by
  simp only[Pl.aS,yi]at f;simp only[ar]at h k;obtain⟨a,b,rfl,g,j⟩:=h;obtain⟨c,d,rfl,l,m⟩:=k;obtain⟨rfl,y⟩:=qJ x a c f.1 g l;obtain⟨rfl,z⟩:=dK xs b d f.2 j m;refine⟨rfl,λu hu=> ?_⟩;rcases List.mem_append.1 hu with hu|hu
  .exact y u hu
  .exact z u hu
end
theorem SW{J J':Sg}{x:Pl}{a b:yh}(g:x.flat=ae)(ha:yJ J (.p x) a)(hb:yJ J' (.p x) b):a=b:=by
 cases f:x.isAgg with
 |true=>
  obtain⟨j,rfl,h⟩:=(ZT (d:=.p x) f).1 ha;obtain⟨l,rfl,k⟩:=(ZT (d:=.p x) f).1 hb;simp only[yH]at h k;obtain⟨e,_⟩:=qJ x _ _ g h k
  rw[show j=l from by cases j;cases l;simpa using e]
 |false=>
  have h:=(Zh (d:=.p x) f).1 ha;have k:=(Zh (d:=.p x) f).1 hb;simp only[yH]at h k;obtain⟨e,_⟩:=qJ x _ _ g h k;simpa using e
theorem SX(n:Nat):∀{u:yh},qI u=ae->Instr.sameBits n u u=ae:=by
 intro u h;cases u <;> first|(cases n <;> simp[Instr.sameBits];done)|(simp[qI]at h)
theorem ZCr{J:Sg}{x:Pl}{a:yh}(j:x.flat=ae)(ha:yJ J (.p x) a):Instr.sameBits 10000 a a=ae:=by
 cases m:x.isAgg with
 |true=>
  obtain⟨f,rfl,h⟩:=(ZT (d:=.p x) m).1 ha;simp only[yH]at h;obtain⟨_,e⟩:=qJ x _ _ j h h;show(f.size==f.size&&(f.toList.zip f.toList).all λ(x,y)=>Instr.sameBits 9999 x y)=ae;simp only[beq_self_eq_true,Bool.true_and,List.all_eq_true];intro p hp
  have g:∀(l:yL yh),(∀u,u∈l->qI u=ae)->∀p,p∈l.zip l->Instr.sameBits 9999 p.1 p.2=ae:=by
   intro l
   induction l with
   |nil=>intro _ p hp;cases hp
   |cons z r E=>
    intro A p hp;simp only[List.zip_cons_cons]at hp;rcases ybs.1 hp with rfl|hp
    .exact SX 9999 (A z (yav ..))
    .exact E (λu F=>A u (yaw _ F)) p hp
  exact g _ e p hp
 |false=>
  have h:=(Zh (d:=.p x) m).1 ha;simp only[yH]at h;obtain⟨_,e⟩:=qJ x _ _ j h h;exact SX 10000 (e a (yba.2 rfl))
theorem SY{P:yg}{n:Nat}(j:∀(t:yc)(x:Pl),bt P n t x->x.flat=ae):∀(g:yL Field)(o:Nat)(xs:yL Pl),iD P (bt P n) g o xs->Pl.aS xs=ae
 |[],_,[],_=>rfl
 |[],_,_::_,h=>h.elim
 |_::_,_,[],h=>h.elim
 |f::g,o,y::l,h=>by
  obtain⟨_,_,_,_,_,_,_,a,b⟩:=h;simp only[Pl.aS,j _ _ a,SY j g _ l b,Bool.and_self]
theorem SZ:∀{xs:yL Pl},(∀y,y∈xs->y.flat=ae)->Pl.aS xs=ae
 |[],_=>rfl
 |x::xs,h=>by simp only[Pl.aS,h x (yav ..),SZ λy f=>h y (yaw _ f),Bool.and_self]
theorem qK{P:yg}:∀(n:Nat)(t:yc)(x:Pl),bt P n t x->x.flat=ae
 |0,_,_,h=>by simp[bt]at h
 |n+1,t,x,h=>by
  unfold bt at h;split at h
  .rfl
  .rfl
  .obtain⟨_,_,_,_,_,h⟩:=h;simp only[Pl.flat];exact SZ λy f=>qK n _ y (h y f).1
  .simp only[Pl.flat];exact SY (qK n) _ _ _ h.2
  .exact h.elim
theorem qL{P:yg}{J:Sg}{em:Bool}:∀(n:Nat)(t:yc)(x:Pl)(a:yh),bt P n t x->yJ J (.p x) a->∀d,(Instr.checkKey em (d+n) t a).run P J.w=.ok () J.w
 |0,_,_,_,h,_,_=>by simp[bt]at h
 |n+1,t,x,a,S,g,d=>by
  unfold bt at S;rw[show d+(n+1)=(d+n)+1 from rfl]
  split at S
  .rename_i j;rw[Yh g];simp[Instr.checkKey,run_underlying j]
  .rename_i k k' z j;rw[ZC g];simp[Instr.checkKey,run_underlying j]
  .rename_i m e m' s l j;obtain⟨rfl,U,T,h3,h4,h5⟩:=S;rw[ZT (by rfl)]at g;obtain⟨E,rfl,g⟩:=g;simp only[yH]at g;obtain⟨n1,W,F⟩:=BP g;clear g W;subst n1;rw[Instr.checkKey];simp only[Sem.run_bind,run_underlying j,Result.andThen_ok];simp only[Std.Legacy.Range.forIn_eq_forIn_range',Std.Legacy.Range.size,Nat.sub_zero,Nat.add_one_sub_one,Nat.div_one];obtain⟨i,p,A,jn,G,I,M⟩:∃(i:Nat)(p A:yL yh),i=0/\E.toList=p++A/\p.length=i*s/\ar J.w J.be l A:=⟨0,[],E.toList,rfl,rfl,by simp,F⟩;rw[<-jn];clear jn F j
   induction l generalizing i p A with
   |nil=>simp
   |cons x l X=>
    simp only[ar]at M;obtain⟨Y,Z,rfl,Q,q2⟩:=M;obtain⟨f1,f2,f3⟩:=h5 x (yav ..);obtain⟨a,R,g⟩:=kv (P:=P) (J:=J) (t:=e) (d:=.p x) G (by simpa[yH] using Q) (by rw[U];exact f2.symm) h3 h4 f3 (by show x.size≠0;omega);rw[I]at R;have s1:=X9 _ _ Q;have hk:=qL (em:=em) n e x a f1 g d;rw[yag,List.range'_succ];simp only[List.forIn_cons,Sem.run_bind,ZV h3,U,Result.andThen_ok,R,hk,Sem.run_pure];exact X (λy hy=>h5 y (yaw _ hy)) (i+1) (p++Y) Z (by rw[G,yac]) (by rw[ym,I,s1,f2,ybb,Nat.one_mul]) q2
  .rename_i fs l j;obtain⟨U,T⟩:=S;rw[ZT (by rfl)]at g;obtain⟨E,rfl,g⟩:=g;simp only[yH,aA]at g;rw[Instr.checkKey];simp only[Sem.run_bind,run_underlying j,Result.andThen_ok];rw[<-Array.forIn_toList];obtain⟨o,p,A,ho,G,I,M⟩:∃(o:Nat)(p A:yL yh),o=0/\E.toList=p++A/\p.length=o/\ar J.w J.be l A:=⟨0,[],E.toList,rfl,rfl,rfl,g⟩;rw[<-ho]at T;clear ho g j;generalize fs.toList=L at*
   induction L generalizing l o p A with
   |nil=>simp
   |cons f L X=>
    cases l with
    |nil=>exact T.elim
    |cons x l=>
     obtain⟨a1,a2,a3,a4,a5,a6,a7,a8,a9⟩:=T;simp only[ar]at M;obtain⟨Y,Z,rfl,Q,q2⟩:=M;obtain⟨a,R,g⟩:=kv (P:=P) (J:=J) (t:=f.type) (d:=.p x) G (by simpa[yH] using Q) a3 a4 a5 a6 a7;rw[I, <-a2]at R;have s1:=X9 _ _ Q;have hk:=qL (em:=em) n f.type x a a8 g d;simp only[List.forIn_cons,a1,ne_eq,not_false_eq_true,if_true,Sem.run_bind,R,Result.andThen_ok,hk,Sem.run_pure];exact X l (o+x.size) (p++Y) Z (by rw[G,yac]) (by rw[ym,I,s1]) q2 a9
  grind
end Go.Ev
namespace Go.Ev
structure eu(P:yg)(J:Sg)(kt:yc)(k:Pl)(F:List MapEntry->Nat->Option (Nat×yh)->Prop):Prop where
 nil:∀i,F [] i ad
 eq:∀(e:MapEntry)es i(q:Pl),bt P 20 kt q->yJ J (.p q) e.key->k=q->F (e::es) i (ab (i,e.val))
 ne:∀(e:MapEntry)es i(q:Pl)r,bt P 20 kt q->yJ J (.p q) e.key->k≠q->F es (i+1) r->F (e::es) i r
theorem TA{P:yg}{J:Sg}{kt:yc}{k:Pl}{a:yh}(hk:bt P 20 kt k)(ra:yJ J (.p k) a):eu P J kt k λes i r=>(Instr.findAsking kt a es i).run P J.w=.ok r J.w where
 nil i:=by simp[Instr.findAsking]
 eq e es i q hq rq h:=by
  have:=BR (β:=ae) hk hq ra rq (by simp[h]);simp[Instr.findAsking,this]
 ne e es i q r hq rq h hr:=by
  have:=BR (β:=af) hk hq ra rq (by simp[h]);simp[Instr.findAsking,this,hr]
theorem TB{P:yg}{J:Sg}{kt:yc}{d:TypeDesc}{k:Pl}{a:yh}(hd:P.underlying kt=ab d)(hs:(∃q,d=.int q)\/d=.bool)(hk:bt P 20 kt k)(ra:yJ J (.p k) a):
 eu P J kt k λes i r=>Instr.findNow d a es i=ab r where
 nil i:=rfl
 eq e es i q hq rq h:=by
  subst h;have hv:=SW (qK 20 kt k hk) ra rq;unfold bt at hk;rw[hd]at hk;rcases hs with⟨kk,rfl⟩|rfl
  .cases k <;> first|exact hk.elim|skip
   subst hk;have e1:=ZC rq;have e2:=ZC ra;simp[Instr.findNow,Instr.sameNow,e1,e2]
  .cases k <;> first|exact hk.elim|skip
   have e1:=Yh rq;have e2:=Yh ra;simp[Instr.findNow,Instr.sameNow,e1,e2]
 ne e es i q r hq rq h hr:=by
  unfold bt at hk hq;rw[hd]at hk hq;rcases hs with⟨kk,rfl⟩|rfl
  .cases k <;> first|exact hk.elim|skip
   cases q <;> first|exact hq.elim|skip
   subst hk;have hq':=hq;simp only at hq';subst hq';have e1:=ZC rq;have e2:=ZC ra;have h':¬(‹Int› :Int)=_:=λhh=>h (by rw[hh]);rw[e2]at hr ⊢;simp only[Instr.findNow,Instr.sameNow,e1,if_true];grind
  .cases k <;> first|exact hk.elim|skip
   cases q <;> first|exact hq.elim|skip
   have e1:=Yh rq;have e2:=Yh ra;have h':¬(‹Bool› :Bool)=_:=λhh=>h (by rw[hh]);rw[e2]at hr ⊢;simp only[Instr.findNow,Instr.sameNow,e1];grind
theorem TC{P:yg}{J:Sg}{E:yc}{k:Pl}{F:yL MapEntry->Nat->yO (Nat×yh)->Prop}(f:eu P J E k F):∀(bR:yL (Pl×Pl))(es:yL MapEntry)(i:Nat)(r:yO Pl),iA J bR es->iZ P E bR->W5 bR k r->
 (r=ad->F es i ad)/\∀v,r=ab v->∃(j:Nat)(u:yh),F es i (ab (j,u))/\yJ J (.p v) u
 |[],[],i,r,_,_,h=>by
  simp only[W5]at h;subst h
  exact⟨λ_=>f.nil i,λv g=>by cases g⟩
 |[],_::_,_,_,h,_,_=>h.elim
 |_::_,[],_,_,h,_,_=>h.elim
 |q::l,e::es,i,r,⟨y,I,M⟩,G,h=>by
  have A:=G q (yav ..);simp only[W5]at h;rcases h with⟨m,rfl⟩|⟨m,Q⟩
  .exact⟨λh=>(by cases h),λv g=>⟨i,e.val,f.eq e es i q.1 A y m,by cases g;exact I⟩⟩
  .obtain⟨R,S⟩:=TC f l es (i+1) r M (λz T=>G z (yaw _ T)) Q;refine⟨λh=>f.ne e es i q.1 ad A y m (R h),λv g=> ?_⟩;obtain⟨j,u,U,W⟩:=S v g;exact⟨j,u,f.ne e es i q.1 _ A y m U,W⟩
theorem TE{P:yg}{J:Sg}{R:yc}{k v:Pl}{F:yL MapEntry->Nat->yO (Nat×yh)->Prop}(y:eu P J R k F):∀(bR:yL (Pl×Pl))(es:yL MapEntry)(i:Nat)(l:yL (Pl×Pl)),iA J bR es->iZ P R bR->gu bR k v l->
 (∃(j:Nat)(e:MapEntry),F es i (ab (i+j,e.val))/\es[j]? =ab e/\yJ J (.p k) e.key/\∀f,yJ J (.p k) f.key->yJ J (.p v) f.val->iA J l (es.set j f))\/
 (F es i ad/\∀f,yJ J (.p k) f.key->yJ J (.p v) f.val->iA J l (es++[f]))
 |[],[],i,l,_,_,h=>by
  simp only[gu]at h;subst h
  exact .inr ⟨y.nil i,λf g G=>⟨g,G,aB⟩⟩
 |[],_::_,_,_,h,_,_=>h.elim
 |_::_,[],_,_,h,_,_=>h.elim
 |q::r,e::es,i,l,⟨m,S,T⟩,U,h=>by
  have I:=U q (yav ..);simp only[gu]at h;rcases h with⟨g,rfl⟩|⟨g,W,rfl,G⟩
  .exact .inl ⟨0,e,y.eq e es i q.1 I m g,rfl,by rw[g];exact m,λf A E=>⟨A,E,T⟩⟩
  .rcases TE y r es (i+1) W T (λz X=>U z (yaw _ X)) G with⟨j,Y,M,Q,Z,b4⟩|⟨M,Q⟩
   .exact .inl ⟨j+1,Y,by have:=y.ne e es i q.1 _ I m g M;rwa [show i+1+j=i+(j+1) by omega]at this,by simpa using Q,Z,λf A E=>⟨m,S,b4 f A E⟩⟩
   .exact .inr ⟨y.ne e es i q.1 _ I m g M,λf A E=>⟨m,S,Q f A E⟩⟩
theorem TF{k v:Pl}:∀{l:yL (Pl×Pl)},W5 l k (ab v)->(k,v)∈l
 |[],h=>by simp[W5]at h
 |q::r,h=>by
  simp only[W5]at h;rcases h with⟨rfl,h⟩|⟨_,h⟩
  .grind
  .exact yaw _ (TF h)
theorem TG{k:Pl}:∀{l:yL (Pl×Pl)},W5 l k ad->∀q,q∈l->q.1≠k
 |[],_,q,hq=>by cases hq
 |x::r,h,q,hq=>by
  simp only[W5]at h;rcases h with⟨_,h⟩|⟨f,h⟩
  .cases h
  .rcases ybs.1 hq with rfl|hq
   .grind
   .exact TG h q hq
theorem TH{k v:Pl}:∀{l:yL (Pl×Pl)},(l.map (·.1)).Nodup->(k,v)∈l->W5 l k (ab v)
 |[],_,h=>by cases h
 |q::r,f,h=>by
  simp only[W5];rw[yah,List.nodup_cons]at f;rcases ybs.1 h with rfl|h
  .grind
  .refine .inr ⟨λe=>f.1 ?_,TH f.2 h⟩;grind
theorem TI{k:Pl}:∀{l:yL (Pl×Pl)},(∀q,q∈l->q.1≠k)->W5 l k ad
 |[],_=>by simp[W5]
 |q::r,h=>by
  simp only[W5];exact .inr ⟨λe=>h q (yav ..) e.symm,TI λx f=>h x (yaw _ f)⟩
theorem Zzk{k:Pl}{r:yO Pl}{l f:yL (Pl×Pl)}(p:f.Perm l)(g:(l.map (·.1)).Nodup)(h:W5 l k r):W5 f k r:=by
 cases r with
 |none=>exact TI λq j=>TG h q (p.mem_iff.1 j)
 |some v=>exact TH ((p.map _).nodup_iff.2 g) (p.mem_iff.2 (TF h))
section
open Classical
theorem Zzl{k:Pl}:∀{l:yL (Pl×Pl)},(∀q,q∈l->q.1≠k)->(l.filter λq=>ag (q.1≠k))=l:=λh=>List.filter_eq_self.2 λq f=>yY (h q f)
theorem BS{k v:Pl}:∀{l m:yL (Pl×Pl)},(l.map (·.1)).Nodup->gu l k v m->m.Perm ((k,v)::l.filter λq=>ag (q.1≠k))
 |[],m,_,h=>by
  simp only[gu]at h
  grind
 |q::r,m,f,h=>by
  rw[yah,List.nodup_cons]at f;simp only[gu]at h;rcases h with⟨rfl,rfl⟩|⟨g,y,rfl,h⟩
  .rw[List.filter_cons_of_neg (by simp),Zzl (λx j e=>f.1 (by rw[<-e];exact ybw.2 ⟨_,j,rfl⟩))]
  .rw[List.filter_cons_of_pos (by simpa using λe:q.1=k=>g e.symm)];exact((BS f.2 h).cons q).trans (.swap _ _ _)
theorem TJ(k v:Pl):∀(l:yL (Pl×Pl)),∃m,gu l k v m
 |[]=>⟨_,rfl⟩
 |q::r=>by
  by_cases h:k=q.1
  .exact⟨_,.inl ⟨h,rfl⟩⟩
  .obtain⟨m,f⟩:=TJ k v r;exact⟨_,.inr ⟨h,m,rfl,f⟩⟩
theorem Zzm{k v:Pl}{l f m:yL (Pl×Pl)}(p:f.Perm l)(j:(l.map (·.1)).Nodup)(h:gu l k v m):(m.map (·.1)).Nodup/\∃m',gu f k v m'/\m'.Perm m:=by
 have g:=(p.map (·.1)).nodup_iff.2 j;obtain⟨m',y⟩:=TJ k v f;have e:=BS j h;refine⟨(e.map _).nodup_iff.2 ?_,m',y,(BS g y).trans ((List.Perm.cons _ (p.filter _)).trans e.symm)⟩;grind
end
theorem TK{P:yg}{J:Sg}{f:yc}{k:Pl}{F:yL MapEntry->Nat->yO (Nat×yh)->Prop}(g:eu P J f k F)(bR:yL (Pl×Pl))(es:yL MapEntry)(i:Nat)(r:yO Pl)(h:kl J bR es)(m:iZ P f bR)(y:W5 bR k r):
 (r=ad->F es i ad)/\∀v,r=ab v->∃(j:Nat)(u:yh),F es i (ab (j,u))/\yJ J (.p v) u:=by
 obtain⟨l,p,z,A⟩:=h;exact TC g l es i r A (λq E=>m q (p.mem_iff.1 E)) (Zzk p z y)
theorem ZHk{P:yg}{J:Sg}{G:yc}{k v:Pl}{F:yL MapEntry->Nat->yO (Nat×yh)->Prop}(M:eu P J G k F)(bR:yL (Pl×Pl))(es:yL MapEntry)(i:Nat)(l:yL (Pl×Pl))(h:kl J bR es)(Q:iZ P G bR)(hp:gu bR k v l):
 (∃(j:Nat)(e:MapEntry),F es i (ab (i+j,e.val))/\es[j]? =ab e/\yJ J (.p k) e.key/\∀f,yJ J (.p k) f.key->yJ J (.p v) f.val->kl J l (es.set j f))\/
 (F es i ad/\∀f,yJ J (.p k) f.key->yJ J (.p v) f.val->kl J l (es++[f])):=by
 obtain⟨R,p,S,T⟩:=h;obtain⟨g,m,U,I⟩:=Zzm p S hp;rcases TE M R es i m T (λq W=>Q q (p.mem_iff.1 W)) U with⟨j,e,y,z,X,Y⟩|⟨y,z⟩
 .exact .inl ⟨j,e,y,z,X,λf A E=>⟨m,I,g,Y f A E⟩⟩
 .exact .inr ⟨y,λf A E=>⟨m,I,g,z f A E⟩⟩
theorem BT{P:yg}{J:Sg}{j:yc}{k:Pl}{a:yh}(g:lT P j=ae)(l:bt P 20 j k)(m:yJ J (.p k) a):
 ∃F,eu P J j k F/\∀es r,F es 0 r->(Instr.findKey j a es).run P J.w=.ok r J.w:=by
 unfold lT at g;split at g
 .rename_i q f;exact⟨_,TB f (.inl ⟨_,rfl⟩) l m,λes r h=>Go.MapKept.run_findKey f h⟩
 .rename_i f;exact⟨_,TB f (.inr rfl) l m,λes r h=>Go.MapKept.run_findKey f h⟩
 .rename_i n e f;exact⟨_,TA l m,λes r h=>by rw[run_findKey_eq J.w (by rw[f])];exact h⟩
 .rename_i y f;exact⟨_,TA l m,λes r h=>by rw[run_findKey_eq J.w (by rw[f])];exact h⟩
 .cases g
theorem BU{J:Sg}{id:Nat}{v:yh}(h:yJ J (.mp id) v):∃b,J.m[id]? =ab (ab b)/\v=.map (ab b):=by
 rw[Zh rfl]at h;simp only[yH]at h;obtain⟨b,f,_,g⟩:=h;exact⟨b,f,by simpa using g⟩
theorem TL{J:Sg}:∀(l:yL (Pl×Pl))(es:yL MapEntry),iA J l es->es.length=l.length
 |[],[],_=>rfl
 |[],_::_,h=>h.elim
 |_::_,[],h=>h.elim
 |_::l,_::es,h=>by rw[yag,yag,TL l es h.2.2]
theorem ZD3{es:Array MapEntry}{g:Nat}(h:na es g)(j:Nat){f:MapEntry->MapEntry}(Q:∀e,(f e).born=e.born):na (es.modify j f) g:=by
 have y:∀(q:Nat)l,(es.modify j f)[q]? =ab l->∃z,es[q]? =ab z/\l.born=z.born:=by
  intro q l m;rw[Array.getElem?_modify]at m;split at m
  .obtain⟨A,E,F⟩:=yv.1 m;exact⟨A,E,by rw[<-F,Q]⟩
  .exact⟨l,m,rfl⟩
 refine⟨λq l m=> ?_,λq M l G m I R=> ?_⟩
 .obtain⟨A,E,F⟩:=y q l m;rw[F];exact h.1 q A E
 .obtain⟨A,E,F⟩:=y q l m;obtain⟨S,T,U⟩:=y M G I;exact h.2 q M A S E T (by rw[<-F, <-U,R])
theorem ZCs{es:Array MapEntry}{f:Nat}(h:na es f){e:MapEntry}(he:e.born=f):na (es.push e) (f+1):=by
 have l:∀(q:Nat)g,(es.push e)[q]? =ab g->(es[q]? =ab g/\g.born < f)\/(q=es.size/\g.born=f):=by
  intro q g j;rw[Array.getElem?_push]at j;split at j
  .rename_i F;cases j;exact .inr ⟨F,he⟩
  .exact .inl ⟨j,h.1 q g j⟩
 refine⟨λq g j=> ?_,λq A g m j z G=> ?_⟩
 .rcases l q g j with⟨_,y⟩|⟨_,y⟩ <;> omega
 .rcases l q g j with⟨y,I⟩|⟨y,I⟩ <;> rcases l A m z with⟨E,M⟩|⟨E,M⟩
  .exact h.2 q A g m y E G
  .omega
  .omega
  .omega
theorem qM{P:yg}{w:yr}{b:Nat}{es:Array MapEntry}{f:Nat}(h:w.heap[b]? =ab (.map es f)):(getObj b).run P w=.ok (.map es f) w:=Go.MapKept.run_getObj_map h
section
variable{P:yg}{o:yj}{a:Act}{J:Sg}{ts:yL Dv}{hs hs':yL ao}{C:yL Prop}{d:Dv}{H':yL aq}
theorem TM{J:Sg}{x y:Dv}{u v:yh}(h1:yJ J x u)(h2:yJ J y v):yJ J (.bm [x,y]) (.tuple #[u,v]):=by
 rw[Zh rfl];simp only[yH];exact⟨#[u,v],rfl,by simp only[aH];exact⟨u,[v],rfl,h1,v,[],rfl,h2,rfl⟩⟩
theorem ZD4(ok:Ok J)(yM:aC J ts a){t:yc}{x ix:yp}{f:Bool}(ho:o.op=.lookup t x ix f)(h:bG P o ts J.H hs=ab (C,d,hs'))(hc:aX C):YD P o a J d J.H:=by
 simp only[bG,ho]at h;have hx:=Zo (P:=P) yM t x;split at h
 .rename_i Q et id hu R;rw[R]at hx;obtain⟨b,hm,hv⟩:=BU hx;have l:=Zo (P:=P) yM Q ix;split at h
  .rename_i k t' bR v S T U;rw[T]at l;obtain⟨b',G,A,W,X,Y,Z⟩:=ok.dD id _ _ U hm;cases W;split at h
   .rename_i m;cases h;obtain⟨I,c2,c3,_⟩:=hc;obtain⟨F,hF,zB⟩:=BT (P:=P) m I l;obtain⟨_,g2⟩:=TK hF bR G.toList 0 _ Y c2 c3;obtain⟨j,u,g3,g4⟩:=g2 v rfl;have g5:=zB _ _ g3;have g6:=qL (em:=G.isEmpty) 20 Q k _ I l 9980
    have g:(Instr.lookup t (a.eval x) (a.eval ix) f).run P J.w=.ok (if f then .tuple #[u,.bool ae] else u) J.w:=by
     simp only[Instr.lookup,Sem.run_bind,run_underlying hu,Result.andThen_ok,hv,qM X,Sem.run_pure,g6,g5]
    refine Zk ok (by simp[execOp,ho,g];rfl) ?_;cases f
    .exact g4
    .exact TM g4 (Yf _)
   .cases h
  .rename_i k t' bR S T U;rw[T]at l;obtain⟨b',G,A,W,X,Y,Z⟩:=ok.dD id _ _ U hm;cases W;split at h
   .rename_i m;simp only[yi]at m;cases h;obtain⟨I,c2,c3,_⟩:=hc;obtain⟨F,hF,zB⟩:=BT (P:=P) m.1 I l;obtain⟨g1,_⟩:=TK hF bR G.toList 0 _ Y c2 c3;have g5:=zB _ _ (g1 rfl);have g6:=qL (em:=G.isEmpty) 20 Q k _ I l 9980
    obtain⟨hz,y⟩:∃z,(zeroValue et).run P J.w=.ok z J.w/\yJ J (bf P et) z:=by
     have M:=m.2;unfold AN at M;split at M
     .rename_i i hi
      cases E:i.zero with
      |none=>simp[E]at M
      |some z=>
       refine⟨z,by simp[zeroValue,typeInfo,hi,E], ?_⟩;unfold bf;rw[hi];simp only[E];exact nq
     .cases M
    have g:(Instr.lookup t (a.eval x) (a.eval ix) f).run P J.w=.ok (if f then .tuple #[hz,.bool af] else hz) J.w:=by
     simp only[Instr.lookup,Sem.run_bind,run_underlying hu,Result.andThen_ok,hv,qM X,Sem.run_pure,g6,g5,y.1]
    refine Zk ok (by simp[execOp,ho,g];rfl) ?_;cases f
    .exact y.2
    .exact TM y.2 (Yf _)
   .cases h
  .cases h
 .cases h
theorem ZD5(ok:Ok J)(z:aC J ts a){c:Call}(ho:o.op=.call c)(l:c.callee=.builtin .len)(h:bG P o ts J.H hs=ab (C,d,hs'))(hc:aX C):YD P o a J d J.H:=by
 simp only[bG,ho,l]at h;split at h
 .rename_i x t A f;have m:=Zo (P:=P) z t x;split at h
  .rename_i W X id E g;rw[g]at m;obtain⟨b,F,G⟩:=BU m;split at h
   .rename_i Y bR I;obtain⟨Z,y,j,M,Q,R,S⟩:=ok.dD id _ _ I F;cases M;cases h
    have T:y.toList.length=bR.length:=by
     obtain⟨l',p,_,U⟩:=R;rw[TL _ _ U,p.length_eq]
    refine Zk ok (nE ho l A f (v:=goInt y.size) (by rw[G];simp[Builtin.len_,run_underlying E,qM Q])) ?_;rw[<-yax,T];exact Zv _ _
   .cases h
  .cases h
 .cases h
theorem ZCt(ok:Ok J){t:yc}(ho:o.op=.makeMap t ad):YD P o a J (.mp J.H.length) (J.H++[.map t []]):=by
 let J':Sg:={ J with m:=J.m++[ab J.w.heap.size],H:=J.H++[.map t []],w:=J.w.alloc (.map #[] 0)};have j:J'.w.heap[J.w.heap.size]? =ab (.map #[] 0):=heap_alloc_new J.w _
 have f:J'.m[J.H.length]? =ab (ab J.w.heap.size):=by
  show(J.m++[ab J.w.heap.size])[J.H.length]? =_;rw[yaq (by rw[ok.len];exact yl _),ok.len];simp
 obtain⟨to,g⟩:=Wv (J':=J') ok rfl rfl rfl rfl (World.grownBy_alloc J.w (.map #[] 0) ad) (.inr ⟨_,rfl,yl _,by simp[J']⟩)
  (λh=>⟨J.w.heap.size, #[],0,rfl,j,⟨[],.refl _,List.nodup_nil,aB⟩,by simp[na]⟩)
 refine ZJ (J':=J') (v:=.map (ab J.w.heap.size)) ?_ to g ?_
 .have:(Instr.makeMap t ad).run P J.w=.ok (.map (ab J.w.heap.size)) (J.w.alloc (.map #[] 0)):=rfl;simp[execOp,ho,this,J']
 .rw[Zh rfl];simp only[yH];exact⟨_,f,⟨t,[],by simp[J']⟩,rfl⟩
theorem TN(ok:Ok J){id b:Nat}{t:yc}{bR l:yL (Pl×Pl)}{es es':Array MapEntry}{f clock':Nat}(hH:J.H[id]? =ab (.map t bR))(hm:J.m[id]? =ab (ab b))(hb:J.w.heap[b]? =ab (.map es f))
 (hl:kl J l es'.toList) (y:na es' clock'):
 let J':Sg:={ J with m:=J.m.set id (ab b),H:=J.H.set id (.map t l),w:={ J.w with heap:=J.w.heap.setIfInBounds b (.map es' clock')}}
 To J J'/\Ok J':=by
 intro J';obtain⟨F,G⟩:=Go.MapKept.heap_set (w:=J.w) (o':=.map es' clock') hb
 exact YF (J':=J') (mi:=ab b) (mi':=ab b) ok hH hm rfl rfl rfl rfl rfl rfl rfl (by simp[J'])
  (λj Q z=>G j (λI=>z (by rw[I]))) (λR o v A E M=>by
    cases A;simp[World.cell?,hb]at M) (λo _ E=>by cases E) (.inl rfl) (λ⟨d,st,h⟩=>by cases h) (λ_=>⟨rfl,t,l,rfl⟩)
  (λs e S h=>by cases h) (λg=>⟨b,es',clock',rfl,F,RE g hl,y⟩)
theorem Zw3(ok:Ok J)(Y:aC J ts a){t h Z:yc}{m k x:yp}{id:Nat}{t':yc}{G v:Pl}{bR l:yL (Pl×Pl)}(ho:o.op=.mapUpdate t m k x)(hu:P.underlying t=ab (.map h Z))
 (hx:aF P ts t m=.mp id) (hk:aF P ts h k=.p G) (hv:(aF P ts Z x).flat=ab v) (hH:J.H[id]? =ab (.map t' bR)) (hkt:lT P h=ae) (U:bt P 20 h G) (c2:iZ P h bR) (c3:gu bR G v.soft l):
 YD P o a J .an (J.H.set id (.map t' l)):=by
 have M:=Zo (P:=P) Y t m;rw[hx]at M;obtain⟨b,hm,Q⟩:=BU M;have f:=Zo (P:=P) Y h k;rw[hk]at f;have R:=(Wk.p (lX v)).dv (AT hv (Zo (P:=P) Y Z x));obtain⟨b',y,g,h1,I,h3,S⟩:=ok.dD id _ _ hH hm;cases h1;obtain⟨F,hF,zB⟩:=BT (P:=P) hkt U f;have g6:=qL (em:=af) 20 h G _ U f 9980;rcases ZHk hF bR y.toList 0 l h3 c2 c3 with⟨j,e,f1,f2,f3,f4⟩|⟨f1,f2⟩
 .have W:=zB _ _ f1;rw[yar]at W;have X:y[j]? =ab e:=by rw[<-yby];exact f2
  have z:e.key=a.eval k:=SW (qK 20 h G U) f3 f
  have A:Instr.sameBits 10000 e.key (a.eval k)=ae:=by
   rw[z];exact ZCr (qK 20 h G U) f
  have hes:(y.modify j λe=>{ e with key:=a.eval k,val:=a.eval x}).toList=y.toList.set j { e with key:=a.eval k,val:=a.eval x}:=by
   apply ybp;intro i;rw[yby,Array.getElem?_modify,ybx,yby];by_cases T:j=i
   .subst T;have hlt:j < y.toList.length:=by simpa using(yco.1 X).1
    simp[X,hlt];exact(yco.1 X).1
   .simp[T]
  obtain⟨to,E⟩:=TN (es':=y.modify j λe=>{ e with key:=a.eval k,val:=a.eval x}) (clock':=g) ok hH hm I (l:=l) (by rw[hes];exact f4 _ f R) (ZD3 S j λe=>rfl);refine qC ?_ to E;simp only[execOp,ho,Q,Instr.mapUpdate,Sem.run_bind,run_underlying hu,Result.andThen_ok,qM I,g6,W,Instr.keyThatStays,X,Option.map_some,Option.getD_some,A,if_true,Sem.run_pure,Go.MapKept.run_setObj_map _ I]
 .have W:=zB _ _ f1;obtain⟨to,E⟩:=TN (es':=y.push { key:=a.eval k,val:=a.eval x,born:=g}) (clock':=g+1) ok hH hm I (l:=l) (by rw[Array.toList_push];exact f2 _ f R) (ZCs S rfl);refine qC ?_ to E;simp only[execOp,ho,Q,Instr.mapUpdate,Sem.run_bind,run_underlying hu,Result.andThen_ok,qM I,g6,W,Sem.run_pure,Go.MapKept.run_setObj_map _ I]
end
end Go.Ev
end
section
namespace Go.Ev
section
variable{P:yg}{o:yj}{a:Act}{J:Sg}{ts:yL Dv}{hs hs':yL ao}{C:yL Prop}{d:Dv}{H':yL aq}
theorem BV{P:yg}{w:yr}{t e:yc}{i:TypeInfo}{z:yh}{n f:Int}(hu:P.underlying t=ab (.slice e))(hi:P.info? e=ab i)(hz:i.zero=ab z)(j:0<=n)(h1:n<=f)(h2:f.toNat*i.bytes<=Zs)(h3:f.toNat<=maxLen):
 ∃cells:Array yh,(Instr.makeSlice t (.int .i64 n) (.int .i64 f)).run P w=.ok (.slice (ab ⟨w.heap.size,0,ad⟩) n.toNat f.toNat) (w.alloc (.cells cells e))/\cells.size=f.toNat*i.size/\
  (i.size=1->∀k,k < f.toNat->cells[k]? =ab (z.cells[k % z.cells.size]!)):=by
 have y:∀m:Int,0<=m->m.toNat<=maxLen->IntKind.i64.wrap m=m:=λm a b=>by
  refine nr ?_;simp[maxLen]at b;simp[Wa,IntKind.min,IntKind.max,IntKind.signed,IntKind.bits];omega
 have g:=y n j (by omega);have h:=y f (by omega) h3
 have A:¬((281474976710656:Int) < (i.bytes:Int)*f):=by
  have e:(i.bytes:Int)*f=((f.toNat*i.bytes:Nat):Int):=by
   rw[Int.natCast_mul,Int.toNat_of_nonneg (by omega),Int.mul_comm]
  rw[e];simp only[Zs]at h2;omega
 have E:¬(f.toNat*i.bytes > roomBytes):=by
  simp only[Zs]at h2;simp only[roomBytes];omega
 by_cases l:f.toNat*i.size=0
 .refine⟨(Array.range (f.toNat*i.size)).map λ_=>default, ?_,by simp,λe k F=> ?_⟩
  .simp[Instr.makeSlice,run_underlying hu,asInt,asIntOf,typeInfo,hi,g,h,askRoom,E,sizeOf,l,newRow,j,show¬f < 0 by omega,show¬n < 0 by omega,show¬f < n by omega,A]
  .rw[e,Nat.mul_one]at l;omega
 .refine⟨(Array.range (f.toNat*i.size)).map (z.cells[· % z.cells.size]!), ?_,by simp,λe k F=> ?_⟩
  .simp[Instr.makeSlice,run_underlying hu,asInt,asIntOf,typeInfo,hi,g,h,askRoom,E,sizeOf,l,newRow,j,show¬f < 0 by omega,show¬n < 0 by omega,show¬f < n by omega,A,zeroValue,hz]
  .simp[e,F]
theorem ZCu(ok:Ok J){t e:yc}{l c:yp}{i:TypeInfo}{n j:Int}(Q:aC J ts a)(ho:o.op=.makeSlice t l c)(hu:P.underlying t=ab (.slice e))(hl:aF P ts 0 l=.p (.int .i64 n))(A:aF P ts 0 c=.p (.int .i64 j))
 (hi:P.info? e=ab i) (hz:cu i=ae) (T:i.size≠0) (U:n=0) (h1:0<=j) (h2:j.toNat*i.bytes<=Zs) (h3:j.toNat<=maxLen):
 YD P o a J (.own J.H.length (ab ae) i.size []) (J.H++[.log i.size e []]):=by
 subst U;obtain⟨z,E,W⟩:=lf hz;obtain⟨cells,X,y,_⟩:=BV (w:=J.w) (t:=t) hu hi E (Int.le_refl 0) h1 h2 h3;have F:=ZC (hl ▸ Zo (P:=P) Q 0 l);have G:=ZC (A ▸ Zo (P:=P) Q 0 c);let J':Sg:={ J with m:=J.m++[ab J.w.heap.size],H:=J.H++[.log i.size e []],w:=J.w.alloc (.cells cells e)};have R:J'.w.heap[J.w.heap.size]? =ab (.cells cells e (0,0)):=heap_alloc_new J.w _
 have g:J'.m[J.H.length]? =ab (ab J.w.heap.size):=by
  show(J.m++[ab J.w.heap.size])[J.H.length]? =_;rw[yaq (by rw[ok.len];exact yl _),ok.len];simp
 obtain⟨to,I⟩:=Wv (J':=J') ok rfl rfl rfl rfl (World.grownBy_alloc J.w (.cells cells e) ad) (.inr ⟨_,rfl,yl _,by simp[J']⟩)
  (λS=>.inr ⟨J.w.heap.size,cells,j.toNat,rfl,R,y,Nat.zero_le _,h3,λ_ M=>(by cases M),by simp[ar]⟩)
 refine ZJ (J':=J') (v:=.slice (ab ⟨J.w.heap.size,0,ad⟩) 0 j.toNat) ?_ to I ?_
 .have f:=X;simp only[Int.toNat_zero]at f;simp[execOp,ho,F,G,f,J']
 .rw[Zh rfl];simp only[yH];refine⟨λ_ M=>(by cases M),ab ⟨J.w.heap.size,0,ad⟩,j.toNat,rfl,Nat.zero_le _,h3, ?_,(λh=>by cases h),λh=>absurd rfl h,e,[],by simp[J'],yl _,λ_=>.inr ?_⟩
  .simp[iY]
  .exact⟨J.w.heap.size,cells,g,rfl,R,y⟩
theorem TO{w:yr}{S:Nat->Nat->Prop}{z:Pl}{v:yh}(h:aA w S z [v]):∀n,ar w S (yx n z) (yx n v)
 |0=>by simp[ar]
 |n+1=>by
  rw[List.replicate_succ,List.replicate_succ];simp only[ar];exact⟨[v],yx n v,rfl,h,TO h n⟩
theorem Zzo(ok:Ok J){t e:yc}{l c:yp}{i:TypeInfo}{z:Pl}{n f:Int}(yM:aC J ts a)(ho:o.op=.makeSlice t l c)(hu:P.underlying t=ab (.slice e))(hl:aF P ts 0 l=.p (.int .i64 n))(Q:aF P ts 0 c=.p (.int .i64 f))
 (hi:P.info? e=ab i) (hz:cu i=ae) (hs1:i.size=1) (hzp:bf P e=.p z) (R:z.size=1) (hza:z.isAgg=af) (h0:f=n) (h1:0<=n) (h2:n.toNat*i.bytes<=Zs) (h3:n.toNat<=maxLen):
 YD P o a J (.view J.H.length 0 [] 1 0 n.toNat) (J.H++[.var (.p (.arr n.toNat 1 (yx n.toNat z))) ae]):=by
 subst h0;obtain⟨A,G,S⟩:=lf hz;obtain⟨cells,zB,T,U⟩:=BV (w:=J.w) (t:=t) hu hi G h1 (Int.le_refl f) h2 h3;have W:=ZC (hl ▸ Zo (P:=P) yM 0 l);have X:=ZC (Q ▸ Zo (P:=P) yM 0 c)
 have E:yJ J (bf P e) A:=by
  unfold bf;rw[hi];simp only[G];exact nq
 rw[hzp]at E;have E:=W6 (d:=.p z) rfl E
 obtain⟨F,I⟩:∃F,A.cells.toList=[F]:=by
  have h9:A.cells.toList.length=1:=by rw[yax,S,hs1]
  match hq:A.cells.toList,h9 with
  |[F],_=>exact⟨F,rfl⟩
 rw[I]at E;have Y:A.cells= #[F]:=by rw[<-ycf (xs:=A.cells),I]
 have g:cells.toList=yx f.toNat F:=by
  apply ybp;intro k;rw[yby,List.getElem?_replicate];by_cases Z:k < f.toNat
  .rw[U hs1 k Z,yW Z,Y];simp[Nat.mod_one]
  .rw[yX Z];refine Array.getElem?_eq_none ?_;rw[T,hs1];omega
 let J':Sg:={ J with m:=J.m++[ab J.w.heap.size],H:=J.H++[.var (.p (.arr f.toNat 1 (yx f.toNat z))) ae],w:=J.w.alloc (.cells cells e)};have zV:J'.w.heap[J.w.heap.size]? =ab (.cells cells e (0,0)):=heap_alloc_new J.w _
 have h:J'.m[J.H.length]? =ab (ab J.w.heap.size):=by
  show(J.m++[ab J.w.heap.size])[J.H.length]? =_;rw[yaq (by rw[ok.len];exact yl _),ok.len];simp
 have hcl:cells.toList.length=f.toNat:=by rw[g];simp
 obtain⟨to,ok'⟩:=Wv (J':=J') ok rfl rfl rfl rfl (World.grownBy_alloc J.w (.cells cells e) ad) (.inr ⟨_,rfl,yl _,by simp[J']⟩)
  (λM=>⟨J.w.heap.size,cells,e,rfl,zV,by
    have j:Dv.size (.p (.arr f.toNat 1 (yx f.toNat z)))=f.toNat:=by show f.toNat*1=_;omega
    rw[j,ycc (by omega)];refine Z9 M _ _ ?_;simp only[yH,aA];refine⟨by simp,λy hy=>by rw[(List.mem_replicate.1 hy).2];exact R, ?_⟩;rw[g];simp only[yH]at E;exact TO E _,by
    have j:Dv.size (.p (.arr f.toNat 1 (yx f.toNat z)))=f.toNat:=by show f.toNat*1=_;omega
    rw[j, <-yax,hcl];exact yl _⟩)
 refine ZJ (J':=J') (v:=.slice (ab ⟨J.w.heap.size,0,ad⟩) f.toNat f.toNat) ?_ to ok' ?_
 .simp[execOp,ho,W,X,zB,J']
 .rw[Zh rfl];simp only[yH];exact⟨J.w.heap.size,f.toNat,_,h,⟨.p (.arr f.toNat 1 (yx f.toNat z)),ae,by simp[J']⟩,rfl,yl _,h3,λ_=>by simp⟩
theorem TQ(ok:Ok J)(yM:aC J ts a){t:yc}{x:yp}(ho:∀w,(execOp a.eval o).run P w=.ok (.value (a.eval x)) w)(h:jv (aF P ts t x) J.H hs=ab (C,d,H',hs'))(hc:aX C):YD P o a J d H':=by
 have Q:=Zo (P:=P) yM t x;unfold jv at h;split at h
 .rename_i id off yQ s lo n hx;rw[hx]at Q;obtain⟨b,c,A,Y,hv,Z,E,hcm,hA⟩:=nB Q;split at h
  .rename_i dd st R;split at h
   .rename_i C1 off' n' s' f hs1 hg;split at h
    .rename_i hs0;subst hs0;cases h;obtain⟨c1,c2,c3,_⟩:=Zl.1 hc;obtain⟨cs,t',p1,p2,p3,h2,h4,h5,h6,h7,h3,h8⟩:=uK ok Y R hg c1 c2;simp only[yH,aA]at h7;obtain⟨h9,h10,h11⟩:=h7;subst h9;let J':Sg:={ J with m:=J.m.set id (ab b),H:=J.H.set id (.var dd af)};have g:J'.m[id]? =ab (ab b):=aj Y;have l:J'.H[id]? =ab (.var dd af):=aj R
     obtain⟨to,F⟩:=YF (J':=J') (mi:=ab b) (mi':=ab b) ok R Y rfl rfl rfl rfl rfl rfl rfl (yl _)
      (λ_ _ _=>rfl) (λ_ _ _ _ _ h=>h) (λo _ M=>rfl) (.inl rfl) (λ_=>⟨rfl,dd,af,rfl⟩) (λ⟨d,st,h⟩=>by cases h)
      (λs e f h=>by cases h) (λG=>⟨b,cs,t',rfl,h2,Z9 G dd _ h3,h4⟩)
     have S:Wn J'.w J'.be b off p2:=λj u M=>by
      refine⟨h8 j u M,.inr (ok.own id b Y),λj' e' g1 g2=> ?_⟩;have:j'=id:=F.inj j' id _ g1 g;subst this;rw[l]at g2;cases g2;rfl
     have X:=aD to.leaf.cells _ _ h11
     have T:f=f.take lo++((f.drop lo).take n++f.drop (lo+n)):=by
      have e1:f.drop (lo+n)=(f.drop lo).drop n:=by rw[List.drop_drop]
      rw[e1,ybc,ybc]
     have zW:((f.drop lo).take n).length=n:=by rw[yaa,yaz];omega
     have hsub:aW s' ((f.drop lo).take n):=λz hz=>h10 z (ycq (ybr hz));have hr2:=ZJ (P:=P) (o:=o) (a:=a) (J:=J) (J':=J') (v:=a.eval x) (d:=.p (.sl (ab ae) s' ((f.drop lo).take n))) (ho J.w) to F;refine hr2 ?_;rw[Z]
     have I:=Yq (J:=J') (nn:=ab ae) (A:=ab A) (c:=c) hsub (by rw[zW];exact E) hcm (Qy rfl) (λh=>by cases h) (λhne=>by
      have hn:0 < n:=by
       rcases yct n with h0|h0
       .subst h0;simp at hne
       .exact h0
      rw[T]at X;obtain⟨q1,q23,e1,r1,r23⟩:=Z1 X;obtain⟨q2,q3,e2,r2,r3⟩:=Z1 r23
      have l1:q1.length=lo*s':=by
       rw[aL _ _ r1,aN (λz hz=>h10 z (ybr hz)),yaa,yay (by omega)]
      refine⟨b,off+lo*s',q2,by rw[hA hn],r2,λj u M=> ?_⟩
      have hj:p2[lo*s'+j]? =ab u:=by
       rw[e1,yaq (by omega),l1,Nat.add_sub_cancel_left,e2,ybe (yu.1 M).1];exact M
      have:=S (lo*s'+j) u hj
      rwa [<-Nat.add_assoc]at this)
     rw[zW]at I;exact I
    .cases h
   .cases h
  .cases h
 .rename_i id v s lo n hx;rw[hx]at Q;split at h
  .rename_i v' s' st e N y f R;split at h
   .rename_i hk;simp only[yi,yP,yT]at hk;obtain⟨⟨rfl,rfl⟩,hv⟩:=hk;subst hv;cases h;obtain⟨A,c,Z,E,hcm,hA,hsy,ly,q,hr,lq,hq⟩:=qH ok Q R rfl hc.1;have hidlt:id < J.m.length:=by rw[ok.len];exact(yu.1 R).1
    have U:J.m[id]? =ab J.m[id]:=yab hidlt;let J':Sg:={ J with m:=J.m.set id J.m[id],H:=J.H.set id (.row v' y af e (.p (.arr N y f)))};have g:J'.m[id]? =ab J.m[id]:=aj U;have l:J'.H[id]? =ab (.row v' y af e (.p (.arr N y f))):=aj R
    obtain⟨to,F⟩:=YF (J':=J') (mi:=J.m[id]) (mi':=J.m[id]) ok R U rfl rfl rfl rfl rfl rfl rfl (yl _)
     (λ_ _ _=>rfl) (λ_ _ _ _ _ h=>h) (λo _ M=>⟨rfl,M.2⟩) (.inl rfl) (λ⟨d,st,h⟩=>by cases h) (λ⟨d,st,h⟩=>by cases h)
     (λs e f h=>by cases h) (λG=>by
       obtain⟨N',h1,h2⟩:=ok.dD id _ _ R U;refine⟨N',h1, ?_⟩;rcases h2 with h2|⟨b,W,cap,g1,g2,g3,g4,g5,g6⟩
       .exact .inl h2
       .exact .inr ⟨b,W,cap,g1,g2,g3,g4,g5,Z9 G _ _ g6⟩)
     (λv s st e d h=>by cases h;exact⟨v',af,_,rfl,yl _,λ_=>⟨rfl,λb W _ hb=>⟨W,hb,rfl⟩⟩⟩)
    refine ZJ (P:=P) (o:=o) (a:=a) (J:=J) (J':=J') (v:=a.eval x) (d:=.p (.sl ad y ((f.drop lo).take n))) (ho J.w) to F ?_;rw[Z]
    have I:=Yq (J:=J') (nn:=ad) (A:=A) (c:=c) hsy (by rw[ly];exact E) hcm (Yg _) hA (λhne=>by
     have hn:0 < n:=by
      rcases yct n with h0|h0
      .subst h0;simp at hne
      .exact h0
     obtain⟨b,W,cap,rfl,Y,hb,hcs,hcell⟩:=hq hn;refine⟨b,_,q,rfl,aD to.leaf.cells _ _ hr,λj u M=>⟨hcell j u M,.inr (ok.own id b Y),λj' e' g1 g2=> ?_⟩⟩;have:j'=id:=F.inj j' id b g1 (by rw[g, <-U];exact Y);subst this;rw[l]at g2;cases g2;refine⟨rfl,N,yW rfl, ?_⟩;have h1:=(yu.1 M).1;have h2:(lo+n)*y<=N*y:=ycb _ hc.1;rw[lq]at h1;rw[ybb]at h2;omega)
    rw[ly]at I;exact I
   .cases h
  .cases h
 .cases h
end
end Go.Ev
end
section
namespace Go.Ev
theorem uS{J:Sg}{x y:Dv}(j:∀a,yH J x a->yH J y a):∀(f:yL Dv)(k:Nat)(us:yL yh),f[k]? =ab x->aM J f us->aM J (f.set k y) us
 |[],_,_,h,_=>by simp at h
 |z::f,0,us,h,g=>by
  simp only[yam,yn]at h;subst h;simp only[aM,List.set_cons_zero]at g ⊢
  grind
 |z::f,k+1,us,h,g=>by
  simp only[yak]at h;simp only[aM,List.set_cons_succ]at g ⊢;obtain⟨a,b,l,m,A⟩:=g;exact⟨a,b,l,m,uS j f k b h A⟩
theorem TS{f:yL Dv}{k:Nat}{x y:Dv}(h:f[k]? =ab x)(hs:y.size=x.size):Dv.sizes (f.set k y)=Dv.sizes f:=by
 induction f generalizing k with
 |nil=>simp at h
 |cons z f g=>
  cases k with
  |zero=>
   simp only[yam,yn]at h;subst h
   simp only[List.set_cons_zero,Dv.sizes,hs]
  |succ k=>
   simp only[yak]at h;simp only[List.set_cons_succ,Dv.sizes,g h]
theorem TT:∀(xs:yL Pl),Dv.sizes (xs.map .p)=Pl.sizes xs
 |[]=>rfl
 |x::xs=>by simp only[yah,Dv.sizes,Pl.sizes,TT xs];rfl
theorem TU{d d':Dv}{s:Nat}{new:Dv}(h:Xk d [] s new=ab d'):d=.p (.sl (ab af) s [])/\d'=new:=by
 unfold Xk at h
 all_goals grind
theorem TW{d d':Dv}{i:Nat}{r:yL Nat}{s:Nat}{new:Dv}(h:Xk d (i::r) s new=ab d'):
 (∃xs x y,d=.p (.agg xs)/\xs[i]? =ab x/\Xk (.p x) r s new=ab y/\d'=.agg ((xs.map Dv.p).set i y))\/∃xs x y,d=.agg xs/\xs[i]? =ab x/\Xk x r s new=ab y/\d'=.agg (xs.set i y):=by
 cases d with
 |p q=>
  cases q with
  |agg xs=>
   simp only[Xk]at h
   cases f:xs[i]? with
   |none=>simp[f]at h
   |some x=>
    simp only[f]at h;obtain⟨y,g,rfl⟩:=yv.1 h
    exact .inl ⟨xs,x,y,rfl,f,g,rfl⟩
  |_=>simp[Xk]at h
 |agg xs=>
  simp only[Xk]at h
  cases f:xs[i]? with
  |none=>simp[f]at h
  |some x=>
   simp only[f]at h;obtain⟨y,g,rfl⟩:=yv.1 h
   exact .inr ⟨xs,x,y,rfl,f,g,rfl⟩
 |_=>simp[Xk]at h
theorem qN:∀(yQ:yL Nat)(d d':Dv)(s:Nat)(new:Dv),new.size=1->Xk d yQ s new=ab d'->d'.size=d.size
 |[],d,d',s,new,f,h=>by
  obtain⟨rfl,rfl⟩:=TU h;rw[f]
  rfl
 |i::r,d,d',s,new,f,h=>by
  rcases TW h with⟨m,x,y,rfl,g,j,rfl⟩|⟨m,x,y,rfl,g,j,rfl⟩
  .have:=qN r (.p x) y s new f j;have l:(m.map Dv.p)[i]? =ab (.p x):=by rw[yao,g];rfl
   simp only[Dv.size];rw[TS l this,TT];rfl
  .simp only[Dv.size];exact TS g (qN r x y s new f j)
theorem qO{J:Sg}:∀(yQ:yL Nat)(d d':Dv)(s:Nat)(new:Dv),(∀a,yH J (.p (.sl (ab af) s [])) a->yH J new a)->Xk d yQ s new=ab d'->∀us,yH J d us->yH J d' us
 |[],d,d',s,new,g,h,us,f=>by
  obtain⟨rfl,rfl⟩:=TU h
  exact g us f
 |i::r,d,d',s,new,g,h,us,f=>by
  rcases TW h with⟨z,x,y,rfl,j,l,rfl⟩|⟨z,x,y,rfl,j,l,rfl⟩
  .have m:(z.map Dv.p)[i]? =ab (.p x):=by rw[yao,j];rfl
   simp only[yH,aA]at f ⊢;exact uS (qO r (.p x) y s new g l) _ i us m (jw.2 f)
  .simp only[yH]at f ⊢;exact uS (qO r x y s new g l) _ i us j f
theorem Zzp{J:Sg}(ok:Ok J){j s:Nat}{e:yc}{d d':Dv}{st:Bool}{yQ:yL Nat}(Q:J.H[j]? =ab (.var d st))(R:Xk d yQ s (.own J.H.length ad s [])=ab d'):
 ∃J2:Sg,J2.H=(J.H++[aq.log s e []]).set j (.var d' st)/\J2.w=J.w/\To J J2/\Ok J2:=by
 obtain⟨f,y⟩:=Wv (J':={ J with m:=J.m++[ad],H:=J.H++[.log s e []]}) ok rfl rfl rfl rfl (World.grownBy.refl J.w ad) (.inl rfl) (λ_=>.inl ⟨rfl,rfl⟩);have z:j < J.H.length:=(yu.1 Q).1
 obtain⟨S,U⟩:∃S,J.m[j]? =ab S:=by
  have:j < J.m.length:=by rw[ok.len];exact z
  simp_all
 obtain⟨b,W,t,rfl,X,Y,Z⟩:=ok.dD j _ _ Q U;let J1:Sg:={ J with m:=J.m++[ad],H:=J.H++[.log s e []]};let J2:Sg:={ J1 with m:=J1.m.set j (ab b),H:=J1.H.set j (.var d' st)}
 have E:J1.H[j]? =ab (.var d st):=by
  grind
 have F:J1.m[j]? =ab (ab b):=by
  grind
 have g:=qN yQ d d' s _ rfl R
 obtain⟨G,I⟩:=YF (J':=J2) (mi:=ab b) (mi':=ab b) y E F rfl rfl rfl rfl rfl rfl rfl (yl _)
  (λ_ _ _=>rfl) (λ_ _ _ _ _ h=>h) (λo _ hu=>hu) (.inl rfl) (λ_=>⟨rfl,_,_,rfl⟩) (λ⟨_,_,M⟩=>by cases M) (λ_ _ _ M=>by cases M)
  (λl=>by
    refine⟨b,W,t,rfl,X, ?_,by rw[g];exact Z⟩;rw[g];refine qO yQ d d' s _ (λa T=> ?_) R _ (Z9 (f.leaf.trans l) _ _ Y);simp only[yH,aA]at T ⊢;obtain⟨_,A,c,rfl,w1,w2,w3,w4,w5⟩:=T
    have hA:A=ad:=by
     have:=w3 af rfl;simp_all
    subst hA;have hc:=w4 rfl;subst hc;refine⟨λ_ hx=>(by cases hx),ad,0,rfl,yl _,by simp[maxLen],Yg _,λ_=>rfl,λh=>absurd rfl h,e,[], ?_,yl _,λ_=>.inl ⟨?_,rfl,rfl⟩⟩
    .show(J1.H.set j _)[J.H.length]? =_;rw[ybx,yX (by omega)];simp[J1]
    .show(J1.m.set j _)[J.H.length]? =_;rw[ybx,yX (by omega)];show(J.m++[ad])[J.H.length]? =_;rw[yaq (by rw[ok.len];exact yl _),ok.len];simp)
 exact⟨J2,rfl,rfl,f.trans G,I⟩
theorem BW:∀(hs:yL ao)(d:Dv)(H0 L:yL aq){J:Sg},Ok J->J.H=H0++.var d ae::L->∃J2:Sg,J2.H=H0++.var (Yp d (H0.length+1+L.length) hs).1 ae::(L++(Yp d (H0.length+1+L.length) hs).2.1)/\J2.w=J.w/\To J J2/\Ok J2
 |[],d,H0,L,J,f,h=>⟨J,by simp[Yp,h],rfl,To.refl J,f⟩
 |x::hs,d,H0,L,J,f,h=>by
  have base:Yp d (H0.length+1+L.length) (x::hs)=(d,[],x::hs)->∃J2:Sg,J2.H=H0++.var (Yp d (H0.length+1+L.length) (x::hs)).1 ae::(L++(Yp d (H0.length+1+L.length) (x::hs)).2.1)/\J2.w=J.w/\To J J2/\Ok J2:=λe=>by
   rw[e];exact⟨J,by simp[h],rfl,To.refl J,f⟩
  cases x with
  |cq y s e=>
   cases g:Xk d y s (.own (H0.length+1+L.length) ad s []) with
   |none=>exact base (by simp[Yp,g])
   |some l=>
    have z:J.H.length=H0.length+1+L.length:=by rw[h];simp;omega
    obtain⟨J1,F,A,E,e4⟩:=Zzp (e:=e) f (j:=H0.length) (s:=s) (d:=d) (d':=l) (st:=ae) (yQ:=y) (by rw[h];simp) (by rw[z];exact g)
    have m:J1.H=H0++.var l ae::(L++[aq.log s e []]):=by
     grind
    obtain⟨J2,f1,f2,f3,f4⟩:=BW hs l H0 (L++[aq.log s e []]) e4 m;refine⟨J2, ?_,by rw[f2,A],E.trans f3,f4⟩;rw[f1];simp only[Yp,g,ym,yag,ycn]
    simp[Nat.add_assoc]
  |_=>exact base (by simp[Yp])
theorem TX{P:yg}{o:yj}{a:Act}{J:Sg}{d:Dv}{H1 H2:yL aq}(h:YD P o a J d H1)(k:∀J1:Sg,J1.H=H1->Ok J1->∃J2:Sg,J2.H=H2/\J2.w=J1.w/\To J1 J2/\Ok J2):YD P o a J d H2:=by
 intro K Q j;refine h K Q λv J1 l f g m=> ?_;obtain⟨J2,f1,f2,f3,f4⟩:=k J1 l g;rw[<-f2];exact j v J2 f1 (f.trans f3) f4 (Vb f3.leaf m)
theorem TY{P:yg}{o:yj}{a:Act}{J:Sg}{d dd:Dv}{H:yL aq}(h:YD P o a J d (H++[.var dd ae]))(hs:yL ao):YD P o a J d (H++.var (Yp dd (H.length+1) hs).1 ae::(Yp dd (H.length+1) hs).2.1):=by
 refine TX h λJ1 g f=> ?_;obtain⟨J2,f1,f2,f3,f4⟩:=BW hs dd H [] f g;grind
theorem ZuW{P:yg}{o:yj}{a:Act}{J:Sg}{d dd:Dv}{H:yL aq}{id:Nat}{x:aq}(h:YD P o a J d (H.set id (.var dd ae)))(hid:H[id]? =ab x)(hs:yL ao):YD P o a J d (H.set id (.var (Yp dd H.length hs).1 ae)++(Yp dd H.length hs).2.1):=by
 have f:id < H.length:=(yu.1 hid).1;have e:∀v:aq,H.set id v=H.take id++v::H.drop (id+1):=λv=>List.set_eq_take_append_cons_drop.trans (yW f);refine TX h λJ1 j g=> ?_;rw[e]at j;obtain⟨J2,f1,f2,f3,f4⟩:=BW hs dd (H.take id) (H.drop (id+1)) g j;grind
end Go.Ev
end
section
namespace Go.Ev
section
variable{P:yg}{o:yj}{a:Act}{J:Sg}{ts:yL Dv}{hs hs':yL ao}{C:yL Prop}{d:Dv}{H':yL aq}
theorem Zw5(ok:Ok J)(yM:aC J ts a){t:yc}{x y:yp}{id v Y s off:Nat}{yQ:yL Nat}{e:yc}{dd sub new dd':Dv}{C1:yL Prop}{off':Nat}(ho:o.op=.store t x y)(hx:aF P ts 0 x=.aZ id v off yQ)
 (hH:J.H[id]? =ab (.row Y s ae e dd)) (hv:Y=v) (hg:Z6 dd yQ hs=ab (C1,off',sub,hs')) (hc:aX C1) (he:off'=off) (hn:jc yQ dd (aF P ts t y)=ab new) (hp:X5 new dd yQ hs=ab dd')
 (A:new.bF=ae) (hsz:new.size=sub.size) (ht:P.cellsOf t=new.size) (hi:(P.info? t).isSome=ae) (Z:aR dd' s=aR dd s):YD P o a J .an (J.H.set id (.row v s ae e dd')):=by
 subst he;subst hv;have z:=Zo (P:=P) yM 0 x;have hyv:=SG hn (Zo (P:=P) yM t y);rw[hx]at z;obtain⟨b,z,hm⟩:=SD z hH rfl;obtain⟨N,hN,M⟩:=ok.dD id _ _ hH hm;rcases M with⟨h1,_⟩|⟨b',G,cap,h1,h2,Q,R,hcm,h3⟩
 .cases h1
 cases h1;have g:=SC hN;rw[<-g]at h3;have h4:dd.size<=G.size:=by rw[g,Q];exact ycb _ R
 obtain⟨p1,p2,p3,h5,h6,h7,h8⟩:=QD yQ dd hs hs' C1 off' sub _ hg hc h3;have f:=W6 A hyv;obtain⟨h9,h10⟩:=h8 new dd' _ hp hsz f;have S:(a.eval y).cells.toList.length=new.size:=Xu _ _ f;have hl2:p2.length=sub.size:=Xu _ _ h7;have hll:(a.eval y).cells.toList.length=p2.length:=by rw[S,hl2,hsz]
 obtain⟨k1,k2⟩:=oU h5 hll h4;rw[h6]at k1 k2
 have hnl:off'+(a.eval y).cells.toList.length<=G.size:=by
  have:=congrArg List.length h5;grind
 have T:∀u,u∈(a.eval y).cells.toList->u.oneCell'=ae:=qx new _ A f;have U:=run_storeCells_at P b off' e (a.eval y).cells.toList 0 G J.w h2 (by simpa using hnl) T;simp only[Nat.add_zero]at U;let l:Array yh:=(G.toList.take off'++(a.eval y).cells.toList++G.toList.drop (off'+(a.eval y).cells.toList.length)).toArray;let J':Sg:={ J with m:=J.m.set id (ab b),H:=J.H.set id (.row Y s ae e dd'),w:=J.w.setRow b l};have E:l.size=G.size:=k2;have zV:J'.w.heap[b]? =ab (.cells l e (0,0)):=setRow_heap J.w b G _ e _ h2;have W:∀j,b≠j->J'.w.heap[j]? =J.w.heap[j]? :=λj hj=>setRow_other J.w b j _ (Ne.symm hj)
 obtain⟨to,ok'⟩:=YF (J':=J') (mi:=ab b) (mi':=ab b) ok hH hm rfl rfl rfl rfl rfl rfl rfl (by simp[J'])
  (λj hj hne=>W j (λhh=>hne (by rw[hh]))) (λb' o v _ hu _=>by cases hu.1) (λo _ hu=>by cases hu.1) (.inl rfl) (λ⟨d,st,h⟩=>by cases h) (λ⟨d,st,h⟩=>by cases h)
  (λs e xs h=>by cases h) (λX=>⟨N,by rw[Z];exact hN,.inr ⟨b,l,cap,rfl,zV,by rw[E];exact Q,R,hcm,by
    rw[<-g];show yH J' dd' (l.toList.take dd.size);rw[show l.toList.take dd.size=p1++((a.eval y).cells.toList++p3) from k1]
    exact Z9 X dd' _ h9⟩⟩)
  (λv s st e2 d h=>by cases h;exact⟨Y,ae,_,rfl,yl _,λ_=>⟨rfl,λb2 cur hb2 F=>by
    cases hb2;rw[h2]at F;cases F;exact⟨l,zV,E⟩⟩⟩)
 refine qC (J':=J') ?_ to ok'
 cases I:P.info? t with
 |none=>simp[I]at hi
 |some i=>
  have hs:(a.eval y).cells.size=i.size:=by
   rw[<-yax,S, <-ht];simp[Program.cellsOf,I]
  simp only[execOp,ho,z,Instr.storeAt,Instr.sureAddr,storeVar,sizeOf,typeInfo,Sem.run_bind,run_program,Result.andThen_ok,I,Sem.run_pure,hs,ne_eq,not_true,if_false,U];rfl
theorem BX(ok:Ok J){s:Nat}{e:yc}{dd:Dv}{N n cap:Nat}{cells:Array yh}{w':yr}{v:yh}(E:J.w.grownBy w' ad)(A:w'.heap[J.w.heap.size]? =ab (.cells cells e (0,0)))(hcs:cells.size=cap*s)(l:J.w.heap.size < w'.heap.size)
 (F:aR dd s=ab N) (y:N<=cap) (g:cap<=maxLen) (hn:n<=N) (G:yH J dd (cells.toList.take (N*s))) (I:(execOp a.eval o).run P J.w=.ok (.value (.slice (ab ⟨J.w.heap.size,0,ad⟩) n cap)) w'):
 YD P o a J (.rv J.H.length 0 s 0 n) (J.H++[.row 0 s ae e dd]):=by
 let J':Sg:={ J with m:=J.m++[ab J.w.heap.size],H:=J.H++[.row 0 s ae e dd],w:=w'}
 have f:J'.m[J.H.length]? =ab (ab J.w.heap.size):=by
  show(J.m++[ab J.w.heap.size])[J.H.length]? =_;rw[yaq (by rw[ok.len];exact yl _),ok.len];simp
 obtain⟨to,z⟩:=Wv (J':=J') ok rfl rfl rfl rfl E (.inr ⟨_,rfl,yl _,l⟩)
  (λj=>⟨N,F,.inr ⟨J.w.heap.size,cells,cap,rfl,A,hcs,y,g,Z9 j _ _ G⟩⟩)
 refine ZJ (J':=J') I to z ?_;rw[Zh rfl];simp only[yH];refine⟨_,_,rfl,by omega,g,λh=>(by cases h),λ_=>⟨_,_,rfl⟩,0,s,ae,e,dd,by simp[J'],yl _,λ_=>⟨rfl,.inr ⟨J.w.heap.size,cells,f,A,by rw[hcs,yar],λ_=>by simp⟩⟩⟩
theorem ZCv(ok:Ok J){t e:yc}{l c:yp}{i:TypeInfo}{n g:Int}(E:aC J ts a)(ho:o.op=.makeSlice t l c)(hu:P.underlying t=ab (.slice e))(hl:aF P ts 0 l=.p (.int .i64 n))(h:aF P ts 0 c=.p (.int .i64 g))
 (hi:P.info? e=ab i) (hz:cu i=ae) (F:n=0) (h1:0<=g) (h2:g.toNat*i.bytes<=Zs) (h3:g.toNat<=maxLen):
 YD P o a J (.rv J.H.length 0 i.size 0 0) (J.H++[.row 0 i.size ae e (.p (.arr 0 i.size []))]):=by
 subst F;obtain⟨z,j,G⟩:=lf hz;obtain⟨cells,I,m,_⟩:=BV (w:=J.w) (t:=t) hu hi j (Int.le_refl 0) h1 h2 h3;have y:=ZC (hl ▸ Zo (P:=P) E 0 l);have A:=ZC (h ▸ Zo (P:=P) E 0 c);refine BX (N:=0) (cap:=g.toNat) (w':=J.w.alloc (.cells cells e)) (v:=.bool ae) ok (World.grownBy_alloc J.w (.cells cells e) ad) (heap_alloc_new J.w _) m (by simp) (by simp[aR]) (Nat.zero_le _) h3 (yl _) ?_ ?_
 .simp[yH,aA,ar];intro x M;cases M
 .have f:=I;simp only[Int.toNat_zero]at f;simp[execOp,ho,y,A,f]
theorem ZCw(ok:Ok J)(j:aC J ts a){t e:yc}{i:TypeInfo}{len:Nat}{parts:Array (Nat×yp)}{xs:yL Pl}(ho:o.op=.buildSlice t len parts)(hu:P.underlying t=ab (.slice e))
 (hi:P.info? e=ab i) (hz:cu i=ae) (g:i.size≠0) (hsz:len*i.size<=16777216) (hl:XB P ts e (P.cellsOf e) len parts.toList=ab xs):
 YD P o a J (.rv J.H.length 0 i.size 0 len) (J.H++[.row 0 i.size ae e (.p (.arr len i.size (xs.map Pl.soft)))]):=by
 obtain⟨cells,l,m,z,A,f⟩:=qA (P:=P) j hu hi hz hsz hl
 have h:len<=maxLen:=by
  have:=Nat.le_mul_of_pos_right len (Nat.pos_of_ne_zero g);simp only[maxLen];omega
 refine BX (N:=len) (cap:=len) (w':=J.w.alloc (.cells cells e)) (v:=.bool ae) ok (World.grownBy_alloc J.w (.cells cells e) ad) (heap_alloc_new J.w _) f (by simp) (by simp[aR]) (yl _) h (yl _) ?_ (qz ho l);rw[<-f, <-yax,List.take_length];simp only[yH,aA];refine⟨by rw[yad];exact z,λy E=> ?_, ?_⟩
 .obtain⟨x,F,rfl⟩:=ybw.1 E;rw[AY];exact A x F
 .rw[<-Pl.cG];exact(cK xs).dk _ _ _ m
theorem Zzq(ok:Ok J)(S:aC J ts a){t e:yc}{i:TypeInfo}{len id v:Nat}{st:Bool}{dd:Dv}{parts:Array (Nat×yp)}{xs:yL Pl}(ho:o.op=.buildSlice t len parts)(hu:P.underlying t=ab (.slice e))
 (hi:P.info? e=ab i) (hz:cu i=ae) (G:i.size≠0) (hsz:len*i.size<=16777216) (hl:XB P ts e (P.cellsOf e) len parts.toList=ab xs) (hH:J.H[id]? =ab (.row v i.size st e dd)):
 YD P o a J (.rv id (v+1) i.size 0 len) (J.H.set id (.row (v+1) i.size ae e (.p (.arr len i.size (xs.map Pl.soft))))):=by
 obtain⟨cells,T,U,W,X,g⟩:=qA (P:=P) S hu hi hz hsz hl
 have z:len<=maxLen:=by
  have:=Nat.le_mul_of_pos_right len (Nat.pos_of_ne_zero G);simp only[maxLen];omega
 have I:id < J.m.length:=by rw[ok.len];exact(yu.1 hH).1
 have E:J.m[id]? =ab J.m[id]:=yab I;let J':Sg:={ J with m:=J.m.set id (ab J.w.heap.size),H:=J.H.set id (.row (v+1) i.size ae e (.p (.arr len i.size (xs.map Pl.soft)))),w:=J.w.alloc (.cells cells e)};have R:J'.w.heap[J.w.heap.size]? =ab (.cells cells e (0,0)):=heap_alloc_new J.w _;have M:=World.grownBy_alloc J.w (.cells cells e) ad;have l:J'.m[id]? =ab (ab J.w.heap.size):=aj E;have f:J'.H[id]? =ab (.row (v+1) i.size ae e (.p (.arr len i.size (xs.map Pl.soft)))):=aj hH
 obtain⟨to,Q⟩:=YF (J':=J') (mi:=J.m[id]) (mi':=ab J.w.heap.size) ok hH E rfl rfl rfl rfl rfl rfl rfl M.size
  (λj F _=>M.block j F (by simp)) (λb o v Y _ Z=>by
    have F:=ok.lt id b (by rw[E,Y]);rw[World.cell?_of_block (w:=J.w) (M.block b F (by simp))];exact Z) (λo he hu=>by
    have F:=ok.lt id _ (by rw[E, <-he]);omega) (.inr ⟨_,rfl,yl _,by simp[J']⟩) (λ⟨d,st,h⟩=>by cases h) (λ⟨d,st,h⟩=>by cases h) (λs e xs h=>by cases h)
  (λA=>⟨len,by simp[aR],.inr ⟨_,cells,len,rfl,R,g,yl _,z,by
    rw[<-g, <-yax,List.take_length];simp only[yH,aA];refine⟨by rw[yad];exact W,λy hy=> ?_, ?_⟩
    .obtain⟨x,hx,rfl⟩:=ybw.1 hy;rw[AY];exact X x hx
    .rw[<-Pl.cG];exact(cK xs).dk _ _ _ (aD A.cells _ _ U)⟩⟩)
  (λv' s' st' e' d' h=>by cases h;exact⟨v+1,ae,_,rfl,Nat.le_succ _,λhv=>absurd hv (by omega)⟩)
 refine ZJ (J':=J') (qz ho T) to Q ?_;rw[Zh rfl];simp only[yH];refine⟨ab ⟨J.w.heap.size,0,ad⟩,len,rfl,yl _,z,λh=>(by cases h),λ_=>⟨_,_,rfl⟩,v+1,i.size,ae,e,_,f,yl _,λ_=>⟨rfl,.inr ⟨_,cells,l,R,by rw[yar];exact g,λ_=>by rw[Nat.zero_mul]⟩⟩⟩
theorem ZsE(ok:Ok J)(R:aC J ts a){c:Call}{x y:yp}{t u e:yc}{i:TypeInfo}{ys:yL Pl}(ho:o.op=.call c)(S:c.callee=.builtin .append)(T:c.args.toList=[x,y])
 (g:c.argTypes.toList=[t,u]) (ht:P.underlying t=ab (.slice e)) {s:Nat} (X:aF P ts t x=.p (.sl (ab af) s [])) (hi:P.info? e=ab i) (hz:cu i=ae) (A:i.size≠0)
 (j:lY P J (P.cellsOf e) u (a.eval y) ys) (hb:ys.length*i.bytes<=Zs) (hm:ys.length<=maxLen):
 YD P o a J (.rv J.H.length 0 i.size 0 ys.length) (J.H++[.row 0 i.size ae e (.p (.arr ys.length i.size ys))]):=by
 have l:=Zo (P:=P) R t x;rw[X]at l;have z:=nD l;have Y:P.cellsOf e=i.size:=by simp[Program.cellsOf,hi]
 rcases uJ (P:=P) (ty:=o.type) ok R ht hi hz A j hb hm with⟨rfl,E⟩|⟨F,U,Z,zU,hr,G,I,M,E⟩
 .let J':Sg:={ J with m:=J.m++[ad],H:=J.H++[.row 0 i.size ae e (.p (.arr 0 i.size []))]}
  have f:J'.m[J.H.length]? =ab ad:=by
   show(J.m++[ad])[J.H.length]? =_;rw[yaq (by rw[ok.len];exact yl _),ok.len];simp
  obtain⟨to,Q⟩:=Wv (J':=J') ok rfl rfl rfl rfl (World.grownBy.refl J.w ad) (.inl rfl) (λW=>⟨0,by simp[aR],.inl ⟨rfl,rfl⟩⟩);refine ZJ (J':=J') (Yj ho S T g (by rw[z];exact E)) to Q ?_;rw[Zh rfl];simp only[yH];refine⟨ad,0,rfl,yl _,by simp[maxLen],λ_=>rfl,λh=>(by simp at h),0,i.size,ae,e,.p (.arr 0 i.size []),by simp[J'],yl _,λ_=>⟨rfl,.inl ⟨f,rfl,rfl⟩⟩⟩
 .have zW:F.length=ys.length*i.size:=by rw[aL _ _ hr,aN zU]
  refine BX (N:=ys.length) (cap:=grownCap J.w ys.length 0 e) (w':=J.w.drew.alloc (.cells (F.toArray++U) e)) (v:=.bool ae) ok (YR J.w (.cells (F.toArray++U) e) ad) (heap_alloc_new J.w.drew _) M (by simp) (by simp[aR]) G I (yl _) ?_ (Yj ho S T g (by rw[z];exact E));rw[<-zW];simp only[Array.toList_append,List.take_left',yH,aA];grind
theorem BY{w:yr}{t u ty e:yc}{i:TypeInfo}{S:yh}{zX:yL yh}{A:yO Addr}{n c:Nat}(ht:P.underlying t=ab (.slice e))(hi:P.info? e=ab i)(m:Src P w u i.size S 0 zX)(hn:n<=c)(y:A=ad->c=0):
 (Builtin.append_ #[t,u] ty #[.slice A n c,S]).run P w=.ok (.slice A n c) w:=by
 obtain⟨g,j,l,z,E⟩:=m;have f:zX=[]:=ybi (by rw[E];simp);subst f
 rcases g with⟨F,hu⟩|hu <;>
  (cases A with
   |none=>
    have:=y rfl;have h:n=0:=by omega
    subst this;subst h
    simp[Builtin.append_,run_underlying ht,run_underlying hu,sizeOf,typeInfo,hi,j,l]
   |some A=>
    simp[Builtin.append_,run_underlying ht,run_underlying hu,sizeOf,typeInfo,hi,j,l,hn,storeCells])
theorem ZsF(ok:Ok J)(m:aC J ts a){c:Call}{x y:yp}{t u e:yc}{i:TypeInfo}{id v s lo n:Nat}(ho:o.op=.call c)(z:c.callee=.builtin .append)(E:c.args.toList=[x,y])
 (h:c.argTypes.toList=[t,u]) (ht:P.underlying t=ab (.slice e)) (F:aF P ts t x=.rv id v s lo n) (hi:P.info? e=ab i)
 (f:lY P J (P.cellsOf e) u (a.eval y) []):YD P o a J (.rv id v s lo n) J.H:=by
 have g:=Zo (P:=P) m t x;rw[F]at g;have j:=g;obtain⟨A,R,G,I,S,M,_⟩:=jf g;have l:P.cellsOf e=i.size:=by simp[Program.cellsOf,hi]
 rw[l]at f;obtain⟨T,Q,_,_⟩:=f;refine Zk (v:=a.eval x) ok (Yj ho z E h ?_) j;rw[G];exact BY (P:=P) (ty:=o.type) ht hi Q I M
theorem TZ{v s N o:Nat}{st:Bool}{e:yc}{xs:yL Pl}(hu:(aq.row v s st e (.p (.arr N s xs))).bv o):st=af/\o < N*s:=by
 obtain⟨g,N',f,h⟩:=hu;rw[show aR (.p (.arr N s xs)) s=ab N from yW rfl]at f
 grind
theorem BZ{v g s n N m o:Nat}{st:Bool}{e:yc}{xs ys:yL Pl}(f:st=ae\/n=N)(hu:(aq.row v s st e (.p (.arr N s xs))).bv o):(aq.row g s st e (.p (.arr (n+m) s ys))).bv o:=by
 obtain⟨j,l⟩:=TZ hu;refine⟨j,n+m,yW rfl, ?_⟩;rcases f with h|h
 .grind
 .subst h;grind
theorem UA(ok:Ok J)(yM:aC J ts a){c:Call}{x y:yp}{t u e:yc}{i:TypeInfo}{xs ys:yL Pl}{id v n N:Nat}{st:Bool}(hst:st=ae\/n=N)(ho:o.op=.call c)(zL:c.callee=.builtin .append)
 (yR:c.args.toList=[x,y]) (S:c.argTypes.toList=[t,u]) (ht:P.underlying t=ab (.slice e)) (hx:aF P ts t x=.rv id v i.size 0 n) (hi:P.info? e=ab i) (hz:cu i=ae) (hne:i.size≠0)
 (hsrc:lY P J i.size u (a.eval y) ys) (hH:J.H[id]? =ab (.row v i.size st e (.p (.arr N i.size xs)))) (hnN:n<=N) (hb:(n+ys.length)*i.bytes<=Zs) (hm:n+ys.length<=maxLen):
 YD P o a J (.rv id (v+1) i.size 0 (n+ys.length)) (J.H.set id (.row (v+1) i.size st e (.p (.arr (n+ys.length) i.size (xs.take n++ys))))):=by
 have hxv:=Zo (P:=P) yM t x;rw[hx]at hxv;obtain⟨A0,c0,hv0,_,_,_,W,X,q,hq,Y,hqc⟩:=qH ok hxv hH rfl (by omega:0+n<=N);simp only[List.drop_zero]at W X hq;obtain⟨A,T,hv,h2,h3,h4,h5,v2,s2,st2,e2,d2,h6,h7,h8⟩:=jf hxv;rw[hv]at hv0;injection hv0 with e1 e2 e3;subst e1;subst e3;rw[hH]at h6;cases h6;obtain⟨_,h9⟩:=h8 rfl;have hsrc2:=hsrc;obtain⟨U,hS,hr,zU⟩:=hsrc2;obtain⟨z,hzz,hzs⟩:=lf hz;have hidlt:id < J.m.length:=by rw[ok.len];exact(yu.1 hH).1
 have I:J.m[id]? =ab J.m[id]:=yab hidlt;have hnl:U.length=ys.length*i.size:=hS.cells;have hone:∀v,v∈U->v.oneCell'=ae:=ce _ _ hr;have zW:(xs.take n++ys).length=n+ys.length:=by rw[ym,X]
 have Z:aW i.size (xs.take n++ys):=by
  by_cases hy:ys=[]
  .grind
  .exact XW W (zU hy)
 have hrowN:aR (.p (.arr (n+ys.length) i.size (xs.take n++ys))) i.size=ab (n+ys.length):=by simp[aR]
 have grow:T < n+ys.length->YD P o a J (.rv id (v+1) i.size 0 (n+ys.length)) (J.H.set id (.row (v+1) i.size st e (.p (.arr (n+ys.length) i.size (xs.take n++ys))))):=by
  intro hgr
  have hold:(Builtin.firstCells i.size n (.slice A n T)).run P J.w.drew=.ok q.toArray J.w.drew:=by
   rcases yct n with h0|h0
   .subst h0;have:q=[]:=ybi (by rw[Y];simp);subst this;cases A <;> simp[Builtin.firstCells,loadCells,loadCellsFrom]
   .obtain⟨b,F,cap,rfl,_,_,_,g⟩:=hqc h0;refine run_firstCells_some _ _ _ ⟨b,_,ad⟩ _ T q Y (λj v hv=> ?_);rw[Addr.bH];simp_all
  have zB:=BH (P:=P) (ty:=o.type) ht hi hzz hS hold hgr hm hb;have hge:=grownCap_ge J.w (n+ys.length) T e;have hcm:=grownCap_le_maxLen J.w (n+ys.length) T e hm;let k:Nat:=grownCap J.w (n+ys.length) T e;let yK:Array yh:=Builtin.zeroCells z.cells (k - (n+ys.length));let f:Array yh:=q.toArray++U.toArray++yK;let J':Sg:={ J with m:=J.m.set id (ab J.w.heap.size),H:=J.H.set id (.row (v+1) i.size st e (.p (.arr (n+ys.length) i.size (xs.take n++ys)))),w:=J.w.drew.alloc (.cells f e)}
  have Q:f.size=k*i.size:=by
   simp only[f,yK,Array.size_append,List.size_toArray,size_zeroCells,hzs,Y,hnl, <-ybb];congr 1;omega
  have htk:f.toList.take ((n+ys.length)*i.size)=q++U:=by
   have e1:(q++U).length=(n+ys.length)*i.size:=by rw[ym,Y,hnl,ybb]
   grind
  have zV:J'.w.heap[J.w.heap.size]? =ab (.cells f e (0,0)):=heap_alloc_new J.w.drew _;have hg:=YR J.w (.cells f e) ad;have hblk':∀b,b < J.w.heap.size->J'.w.heap[b]? =J.w.heap[b]? :=λb hb=>hg.block b hb (by simp);have l:J'.m[id]? =ab (ab J.w.heap.size):=aj I;have E:J'.H[id]? =ab (.row (v+1) i.size st e (.p (.arr (n+ys.length) i.size (xs.take n++ys)))):=aj hH
  obtain⟨to,R⟩:=YF (J':=J') (mi:=J.m[id]) (mi':=ab J.w.heap.size) ok hH I rfl rfl rfl rfl rfl rfl rfl hg.size
   (λb hb _=>hblk' b hb) (λb' o v hb' _ g=>by
     rw[World.cell?_of_block (w:=J.w) (hblk' b' (X6 g))];exact g)
   (λo h _=>by
     have:=ok.lt id J.w.heap.size (by rw[I, <-h]);omega) (.inr ⟨_,rfl,yl _,by simp[J']⟩) (λ⟨d,st,h⟩=>by cases h) (λ⟨d,st,h⟩=>by cases h)
   (λs' e' xs' h=>by cases h)
   (λG=>⟨n+ys.length,hrowN,.inr ⟨J.w.heap.size,f,k,rfl,zV,Q,hge,hcm,by
     rw[htk];simp only[yH,aA];exact⟨zW,Z,Z0 (aD G.cells _ _ hq) (aD G.cells _ _ hr)⟩⟩⟩)
   (λv2 s st e d h=>by cases h;exact⟨v+1,_,_,rfl,by omega,λhh=>absurd hh (by omega)⟩)
  refine ZJ (J':=J') (Yj ho zL yR S (by rw[hv];exact zB)) to R ?_;rw[Zh rfl];simp only[yH];exact⟨_,_,rfl,hge,hcm,λh=>(by cases h),λ_=>⟨_,_,rfl⟩,v+1,i.size,st,e,_,E,yl _,λ_=>⟨rfl,.inr ⟨J.w.heap.size,f,l,zV,by rw[Q,yar],λ_=>by simp⟩⟩⟩
 rcases h9 with⟨k1,rfl,k2⟩|⟨b,F,k1,k3,k4,k5⟩
 .have hc0:T=0:=by omega
  subst hc0;have hn0:n=0:=by omega
  subst hn0;rcases yct ys.length with h0|h0
  .have hys:ys=[]:=ybi h0;subst hys;have zB:=BY (P:=P) (ty:=o.type) (A:=ad) (n:=0) (c:=0) ht hi hS (yl _) (λ_=>rfl);let J':Sg:={ J with m:=J.m.set id J.m[id],H:=J.H.set id (.row (v+1) i.size st e (.p (.arr (0+([]:yL Pl).length) i.size (xs.take 0++[]))))};have l:J'.m[id]? =ab J.m[id]:=aj I;have E:J'.H[id]? =ab (.row (v+1) i.size st e (.p (.arr (0+([]:yL Pl).length) i.size (xs.take 0++[])))):=aj hH;have hmn:J.m[id]=ad:=by rw[I]at k1;exact ybl k1
   obtain⟨to,R⟩:=YF (J':=J') (mi:=J.m[id]) (mi':=J.m[id]) ok hH I rfl rfl rfl rfl rfl rfl rfl (yl _)
    (λ_ _ _=>rfl) (λ_ _ _ _ _ h=>h) (λo _ hu=>BZ hst hu) (.inl rfl) (λ⟨d,st,h⟩=>by cases h) (λ⟨d,st,h⟩=>by cases h)
    (λs e xs h=>by cases h) (λG=>⟨0,by simp[aR],.inl ⟨hmn,rfl⟩⟩)
    (λv2 s st e d h=>by cases h;exact⟨v+1,_,_,rfl,by omega,λhh=>absurd hh (by omega)⟩)
   refine ZJ (J':=J') (Yj ho zL yR S (by rw[hv];exact zB)) to R ?_;rw[Zh rfl];simp only[yH];exact⟨ad,0,rfl,yl _,by simp[maxLen],λ_=>rfl,λh=>(by simp at h),v+1,i.size,st,e,_,E,yl _,λ_=>⟨rfl,.inl ⟨by rw[l,hmn],rfl,rfl⟩⟩⟩
  grind
 .by_cases M:n+ys.length<=T
  .have hmb:J.m[id]=ab b:=by rw[I]at k1;exact ybl k1
   rw[yar]at k4;rcases yct T with hcp0|hcp0
   .have hn0:n=0:=by omega
    have hy0:ys.length=0:=by omega
    have hys:ys=[]:=ybi hy0;subst hys;have zB:=BY (P:=P) (ty:=o.type) ht hi hS h2 h4;let J':Sg:={ J with m:=J.m.set id (ab b),H:=J.H.set id (.row (v+1) i.size st e (.p (.arr (n+([]:yL Pl).length) i.size (xs.take n++[]))))};have l:J'.m[id]? =ab (ab b):=aj I;have E:J'.H[id]? =ab (.row (v+1) i.size st e (.p (.arr (n+([]:yL Pl).length) i.size (xs.take n++[])))):=aj hH
    obtain⟨to,R⟩:=YF (J':=J') (mi:=ab b) (mi':=ab b) ok hH k1 rfl rfl rfl rfl rfl rfl rfl (yl _)
     (λ_ _ _=>rfl) (λ_ _ _ _ _ h=>h) (λo _ hu=>BZ hst hu) (.inl rfl) (λ⟨d,st,h⟩=>by cases h) (λ⟨d,st,h⟩=>by cases h)
     (λs e xs h=>by cases h) (λG=>⟨n,by simp[aR],.inr ⟨b,F,T,rfl,k3,k4,h2,h3,by
       subst hn0;simp[yH,aA,ar];intro x hx;cases hx⟩⟩)
     (λv2 s st e d h=>by cases h;exact⟨v+1,_,_,rfl,by omega,λhh=>absurd hh (by omega)⟩)
    refine ZJ (J':=J') (Yj ho zL yR S (by rw[hv];exact zB)) to R ?_;rw[Zh rfl];simp only[yH];exact⟨A,T,rfl,h2,h3,h4,h5,v+1,i.size,st,e,_,E,yl _,λ_=>⟨rfl,.inr ⟨b,F,l,k3,by rw[yar];exact k4,λh=>absurd h (by omega)⟩⟩⟩
   have hA:=k5 hcp0;rw[Nat.zero_mul]at hA;subst hA;have zB:=BG (P:=P) (ty:=o.type) ht hi hS hone k3 M k4
   have hus:(F.toList.take (n*i.size)).length=n*i.size:=by
    simp_all
   have hqe:F.toList.take (n*i.size)=q:=by
    rcases yct n with h0|h0
    .grind
    .obtain⟨b2,cur2,cap2,hbb,hm2,hb2,hcs2,g⟩:=hqc h0
     have hbe:b=b2:=by
      grind
     subst hbe;apply ybp;intro j;rw[ycd];by_cases hj:j < n*i.size
     .rw[yW hj];have hjq:j < q.length:=by rw[Y];exact hj
      have:=g j q[j] (yab hjq);rw[Nat.zero_mul,yar,cell_of_row J.w b j F e (0,0) k3, <-yby]at this;grind
     grind
   let f:Array yh:=(F.toList.take (n*i.size)++U++F.toList.drop (n*i.size+U.length)).toArray;let J':Sg:={ J with m:=J.m.set id (ab b),H:=J.H.set id (.row (v+1) i.size st e (.p (.arr (n+ys.length) i.size (xs.take n++ys)))),w:=J.w.setRow b f};have hfit:n*i.size+U.length<=F.size:=by rw[hnl,k4, <-ybb];exact ycb _ M
   have Q:f.size=T*i.size:=by
    grind
   have zV:J'.w.heap[b]? =ab (.cells f e (0,0)):=setRow_heap J.w b F _ e _ k3;have hoth:∀j,b≠j->J'.w.heap[j]? =J.w.heap[j]? :=λj hj=>setRow_other J.w b j _ (Ne.symm hj);have l:J'.m[id]? =ab (ab b):=aj I;have E:J'.H[id]? =ab (.row (v+1) i.size st e (.p (.arr (n+ys.length) i.size (xs.take n++ys)))):=aj hH
   have htk:f.toList.take ((n+ys.length)*i.size)=q++U:=by
    have e1:(F.toList.take (n*i.size)++U).length=(n+ys.length)*i.size:=by rw[ym,hus,hnl,ybb]
    grind
   obtain⟨to,R⟩:=YF (J':=J') (mi:=ab b) (mi':=ab b) ok hH k1 rfl rfl rfl rfl rfl rfl rfl (by simp[J'])
    (λj hj hne=>hoth j (λhh=>hne (by rw[hh]))) (λb' o v hb' hu g=>by
      cases hb'
      have ho':o < n*i.size:=by
       rcases hst with h|h
       .rw[h]at hu;cases hu.1
       .rw[h];exact(TZ hu).2
      rw[cell_of_row J'.w b o f e (0,0) zV];rw[cell_of_row J.w b o F e (0,0) k3, <-yby]at g;rw[show f[o]? =(F.toList.take (n*i.size)++U++F.toList.drop (n*i.size+U.length))[o]? from by simp[f],yac,ybe (by rw[hus];exact ho'),ycd,yW ho']
      exact g)
    (λo _ hu=>BZ hst hu) (.inl rfl) (λ⟨d,st,h⟩=>by cases h) (λ⟨d,st,h⟩=>by cases h)
    (λs' e' xs' h=>by cases h)
    (λG=>⟨n+ys.length,hrowN,.inr ⟨b,f,T,rfl,zV,Q,M,h3,by
      rw[htk];simp only[yH,aA];exact⟨zW,Z,Z0 (aD G.cells _ _ hq) (aD G.cells _ _ hr)⟩⟩⟩)
    (λv2 s st e d h=>by cases h;exact⟨v+1,_,_,rfl,by omega,λhh=>absurd hh (by omega)⟩)
   refine ZJ (J':=J') (Yj ho zL yR S (by rw[hv];exact zB)) to R ?_;rw[Zh rfl];simp only[yH];exact⟨_,_,rfl,M,h3,λh=>(by cases h),λ_=>⟨_,_,rfl⟩,v+1,i.size,st,e,_,E,yl _,λ_=>⟨rfl,.inr ⟨b,f,l,zV,by rw[Q,yar],λ_=>by simp⟩⟩⟩
  grind
theorem ZsG(ok:Ok J)(yM:aC J ts a){c:Call}{x y:yp}{t u e:yc}{i:TypeInfo}{xs ys:yL Pl}{id v n N:Nat}(ho:o.op=.call c)(zL:c.callee=.builtin .append)
 (yR:c.args.toList=[x,y]) (htys:c.argTypes.toList=[t,u]) (ht:P.underlying t=ab (.slice e)) (hx:aF P ts t x=.rv id v i.size 0 n) (hi:P.info? e=ab i) (hz:cu i=ae) (R:i.size≠0)
 (hsrc:lY P J i.size u (a.eval y) ys) (hH:J.H[id]? =ab (.row v i.size ae e (.p (.arr N i.size xs)))) (hpos:0 < N) (F:n+ys.length<=N):
 YD P o a J (.rv id v i.size 0 (n+ys.length)) (J.H.set id (.row v i.size ae e (.p (.arr N i.size (xs.take n++(ys++xs.drop (n+ys.length))))))):=by
 have hxv:=Zo (P:=P) yM t x;rw[hx]at hxv;obtain⟨A,cp,hv,h2,h3,h4,h5,v2,s2,st2,e2,d2,h6,h7,h8⟩:=jf hxv;rw[hH]at h6;cases h6;obtain⟨_,h9⟩:=h8 rfl;have S:=hsrc;obtain⟨Z,hS,hr,zU⟩:=S;have T:id < J.m.length:=by rw[ok.len];exact(yu.1 hH).1
 have G:J.m[id]? =ab J.m[id]:=yab T;have hnl:Z.length=ys.length*i.size:=hS.cells;have hone:∀v,v∈Z->v.oneCell'=ae:=ce _ _ hr;obtain⟨N',hN',hent⟩:=ok.dD id _ _ hH G;simp only[aR,if_true,yn]at hN';subst hN';rcases hent with⟨_,h0⟩|⟨b,g,cap,hh,g2,g4,g5,g6,g7⟩
 .omega
 simp only[yH,aA]at g7;obtain⟨hxl,I,g7⟩:=g7;rcases h9 with⟨k1,_,_⟩|⟨b',cur',k1,k3,k4,k5⟩
 .rw[G,hh]at k1;cases k1
 rw[G,hh]at k1;cases k1;rw[g2]at k3;cases k3;have hm:J.m[id]? =ab (ab b):=by rw[G,hh]
 rw[yar]at k4;have hcc:cp=cap:=Nat.eq_of_mul_eq_mul_right (Nat.pos_of_ne_zero R) (k4.symm.trans g4);subst hcc;have l:n+ys.length<=cp:=Nat.le_trans F g5;have hA:=k5 (by omega);rw[Nat.zero_mul]at hA;subst hA;have zB:=BG (P:=P) (ty:=o.type) ht hi hS hone g2 l k4
 have M:xs=xs.take n++((xs.drop n).take ys.length++xs.drop (n+ys.length)):=by
  have e1:xs.drop (n+ys.length)=(xs.drop n).drop ys.length:=by rw[List.drop_drop]
  rw[e1,ybc,ybc]
 have g7':=g7;rw[M]at g7';obtain⟨q1,q23,e1,r1,r23⟩:=Z1 g7';obtain⟨q2,q3,rfl,r2,r3⟩:=Z1 r23;have U:aW i.size (xs.take n):=Vd I n;have hs2:aW i.size ((xs.drop n).take ys.length):=Vd (uw I n) _;have ly:((xs.drop n).take ys.length).length=ys.length:=by rw[yaa,yaz,yay (by omega)]
 have l1:q1.length=n*i.size:=by rw[aL _ _ r1,aN U,yaa,yay (by omega)]
 have l2:q2.length=ys.length*i.size:=by rw[aL _ _ r2,aN hs2,ly]
 have hsz:N*i.size<=g.size:=by rw[g4];exact ycb _ g5
 obtain⟨m1,m2⟩:=oU (y':=Z) e1 (by rw[hnl,l2]) hsz;rw[l1]at m1 m2;let f:Array yh:=(g.toList.take (n*i.size)++Z++g.toList.drop (n*i.size+Z.length)).toArray;let J':Sg:={ J with m:=J.m.set id (ab b),H:=J.H.set id (.row v i.size ae e (.p (.arr N i.size (xs.take n++(ys++xs.drop (n+ys.length)))))),w:=J.w.setRow b f};have E:f.size=g.size:=m2;have zV:J'.w.heap[b]? =ab (.cells f e (0,0)):=setRow_heap J.w b g _ e _ g2;have hoth:∀j,b≠j->J'.w.heap[j]? =J.w.heap[j]? :=λj hj=>setRow_other J.w b j _ (Ne.symm hj);have W:J'.m[id]? =ab (ab b):=aj hm;have X:J'.H[id]? =ab (.row v i.size ae e (.p (.arr N i.size (xs.take n++(ys++xs.drop (n+ys.length)))))):=aj hH
 have Y:aW i.size (xs.take n++(ys++xs.drop (n+ys.length))):=by
  by_cases hy:ys=[]
  .subst hy;exact XW U (XW (λz hz=>by cases hz) (uw I _))
  .exact XW U (XW (zU hy) (uw I _))
 obtain⟨to,ok'⟩:=YF (J':=J') (mi:=ab b) (mi':=ab b) ok hH hm rfl rfl rfl rfl rfl rfl rfl (by simp[J'])
  (λj hj R=>hoth j (λhh=>R (by rw[hh]))) (λb' o v _ hu _=>by cases hu.1) (λo _ hu=>by cases hu.1) (.inl rfl) (λ⟨d,st,h⟩=>by cases h) (λ⟨d,st,h⟩=>by cases h)
  (λs e xs h=>by cases h) (λleaf=>⟨N,by simp[aR],.inr ⟨b,f,cp,rfl,zV,by rw[E];exact g4,g5,g6,by
    rw[show f.toList.take (N*i.size)=q1++(Z++q3) from m1]
    refine Z9 leaf _ _ ?_;simp only[yH,aA];refine⟨by rw[ym,ym,yaa,yaz];omega,Y,Z0 r1 (Z0 hr r3)⟩⟩⟩)
  (λv2 s st e2 d h=>by cases h;exact⟨v,ae,_,rfl,yl _,λ_=>⟨rfl,λb2 cur2 hb2 Q=>by
    cases hb2;rw[g2]at Q;cases Q;exact⟨f,zV,E⟩⟩⟩)
 refine ZJ (J':=J') (Yj ho zL yR htys (by rw[hv];exact zB)) to ok' ?_;rw[Zh rfl];simp only[yH];exact⟨_,_,rfl,l,h3,λh=>(by cases h),λ_=>⟨_,_,rfl⟩,v,i.size,ae,e,_,X,yl _,λ_=>⟨rfl,.inr ⟨b,f,W,zV,by rw[E,yar];exact k4,λ_=>by simp⟩⟩⟩
theorem ZsH(z:Array yh):(Builtin.zeroCells z 1).toList=z.toList:=by
 apply List.ext_getElem
 .simp[Builtin.zeroCells]
 .intro i h g;have f:i < z.size:=by simpa using g
  simp[Builtin.zeroCells,Nat.mod_eq_of_lt f,f]
theorem Zw6(ok:Ok J)(yM:aC J ts a){c:Call}{x:yp}{t e M:yc}{i:TypeInfo}{z:Pl}{xs:yL Pl}{id v lo N:Nat}(ho:o.op=.call c)(zL:c.callee=.builtin .clear)
 (yR:c.args.toList=[x]) (Q:c.argTypes.toList=[t]) (ht:P.underlying t=ab (.slice e)) (hx:aF P ts t x=.rv id v i.size lo 1) (hi:P.info? e=ab i) (hz:cu i=ae) (R:i.size≠0) (hzp:bf P e=.p z) (hzs:z.size=i.size)
 (hH:J.H[id]? =ab (.row v i.size ae M (.p (.arr N i.size xs)))) (hle:lo+1<=N):
 YD P o a J (.bm []) (J.H.set id (.row v i.size ae M (.p (.arr N i.size (xs.set lo z))))):=by
 have S:=Zo (P:=P) yM t x;rw[hx]at S;obtain⟨A,cc,hv,h2,h3,h4,hpall,hplen,q,hq,hql,hqc⟩:=qH ok S hH rfl hle;obtain⟨b,f,cap,rfl,hm,hb,hcs,hcell⟩:=hqc (by omega);obtain⟨N',T,U⟩:=ok.dD id _ _ hH hm;simp only[aR,if_true,yn]at T;subst T;rcases U with⟨h,_⟩|⟨b',cur',W,h,g2,g4,g5,g6,g7⟩
 .cases h
 cases h;rw[hb]at g2;cases g2;obtain⟨l,X,Y⟩:=lf hz
 have hzr:yJ J (.p z) l:=by
  rw[<-hzp];unfold bf;rw[hi];simp only[X];exact nq
 have F:=W6 (d:=.p z) rfl hzr;simp only[yH]at F;have G:∀u,u∈l.cells.toList->u.oneCell'=ae:=AV _ _ F;have hzl:l.cells.toList.length=i.size:=by rw[yax,Y]
 simp only[yH,aA]at g7;obtain⟨hxl,I,h7⟩:=g7;have Z:lo < xs.length:=by omega
 have hxi:xs[lo]? =ab xs[lo]:=yab Z;obtain⟨p1,p2,p3,e1,l1,r2,l2,r1,r3⟩:=kV h7 hxi;have l1':p1.length=lo*i.size:=by rw[l1,aN (λz hz=>I z (ybr hz)),yaa,yay (by omega)]
 have l2':p2.length=i.size:=by rw[l2];exact I _ (List.getElem_mem Z)
 have hsz:N*i.size<=f.size:=by rw[g4];exact ycb _ g5
 obtain⟨k1,k2⟩:=oU (y':=l.cells.toList) e1 (by rw[hzl,l2']) hsz;rw[l1']at k1 k2
 have hnl:lo*i.size+l.cells.toList.length<=f.size:=by
  grind
 have hst:=run_storeCells_at P b (lo*i.size) M l.cells.toList 0 f J.w hb (by simpa using hnl) G;simp only[Nat.add_zero]at hst;let g:Array yh:=(f.toList.take (lo*i.size)++l.cells.toList++f.toList.drop (lo*i.size+l.cells.toList.length)).toArray;let J':Sg:={ J with m:=J.m.set id (ab b),H:=J.H.set id (.row v i.size ae M (.p (.arr N i.size (xs.set lo z)))),w:=J.w.setRow b g};have y:g.size=f.size:=k2;have zV:J'.w.heap[b]? =ab (.cells g M (0,0)):=setRow_heap J.w b f _ M _ hb;have hoth:∀j,b≠j->J'.w.heap[j]? =J.w.heap[j]? :=λj hj=>setRow_other J.w b j _ (Ne.symm hj)
 obtain⟨to,ok'⟩:=YF (J':=J') (mi:=ab b) (mi':=ab b) ok hH hm rfl rfl rfl rfl rfl rfl rfl (by simp[J'])
  (λj hj R=>hoth j (λhh=>R (by rw[hh]))) (λb' o v _ hu _=>by cases hu.1) (λo _ hu=>by cases hu.1) (.inl rfl) (λ⟨d,st,h⟩=>by cases h) (λ⟨d,st,h⟩=>by cases h)
  (λs e xs h=>by cases h) (λleaf=>⟨N,by simp[aR],.inr ⟨b,g,W,rfl,zV,by rw[y];exact g4,g5,g6,by
    rw[show g.toList.take (N*i.size)=p1++(l.cells.toList++p3) from k1]
    refine Z9 leaf _ _ ?_;simp only[yH,aA];refine⟨by rw[ybu];exact hxl,uL I hzs, ?_⟩;rw[nF hxi];refine Z0 r1 ?_;simp only[ar];exact⟨_,_,rfl,F,r3⟩⟩⟩)
  (λv2 s st e2 d h=>by cases h;exact⟨v,ae,_,rfl,yl _,λ_=>⟨rfl,λb2 cur2 hb2 E=>by
    cases hb2;rw[hb]at E;cases E;exact⟨g,zV,y⟩⟩⟩)
 have h1:c.args= #[x]:=by rw[<-ycf (xs:=c.args),yR]
 have h2':c.argTypes= #[t]:=by rw[<-ycf (xs:=c.argTypes),Q]
 have hzv:(zeroValue e).run P J.w=.ok l J.w:=by simp[zeroValue,typeInfo,hi,X]
 have zB:(Builtin.clear_ #[t] o.type #[a.eval x]).run P J.w=.ok (.tuple #[]) J'.w:=by
  rw[hv];simp[Builtin.clear_,run_underlying ht,hzv,ZsH,hst,J',g]
 refine ZJ (J':=J') (v:=.tuple #[]) ?_ to ok' ?_
 .simp[execOp,ho,resolve,zL,h1,h2',invoke,builtin,zB]
 .rw[Zh rfl];simp only[yH];exact⟨#[],rfl,by simp[aH]⟩
theorem UB(ok:Ok J)(M:aC J ts a){t:yc}{x:yp}{lo hi:yO yp}(ho:o.op=.slice t x lo hi ad)(h:bG P o ts J.H hs=ab (C,d,hs'))(hc:aX C):YD P o a J d J.H:=by
 simp only[bG,ho]at h;have Q:=Zo (P:=P) M t x;split at h
 .rename_i e id v s l0 n l r W X f Y Z;rw[f]at Q;split at h
  .rename_i v' R st e' dd j;split at h
   .rename_i N hN;split at h
    .rename_i y;simp only[yi,yP,yT]at y;simp only[yE]at y;obtain⟨⟨⟨⟨k1,S⟩,k3⟩,k4⟩,k5⟩:=y;subst k3;subst k4;cases h;obtain⟨z,c2,c3,_⟩:=hc;obtain⟨A,c,Q,h2,h3,h4,h5,h6⟩:=jf Q
     have G:N<=l0+c/\(0 < c->∃b o',A=ab ⟨b,o',ad⟩):=by
      obtain⟨v2,s2,st2,e2,d2,g1,g2,g3⟩:=h6;rw[j]at g1;cases g1;obtain⟨_,g4⟩:=g3 rfl;have g:id < J.m.length:=by rw[ok.len];exact(yu.1 j).1
      have I:J.m[id]? =ab J.m[id]:=yab g;obtain⟨N2,T,E⟩:=ok.dD id _ _ j I;rw[hN]at T;cases T;rcases g4 with⟨F,rfl,g6⟩|⟨b,cur,F,g6,g7,g8⟩
      .all_goals grind
      .rw[I]at F;have F:=ybl F;rcases E with⟨E,_⟩|⟨b2,cur2,cap,E,q3,q4,q5,q6,_⟩
       .grind
       .rw[E]at F;cases F;rw[g6]at q3;cases q3;refine⟨?_,λh=>⟨b,_,g8 h⟩⟩;have:cap*R=(l0+c)*R:=by rw[<-q4,g7]
        have:=Nat.eq_of_mul_eq_mul_right (Nat.pos_of_ne_zero k5) this;omega
     have hbd:∃p q,(Instr.sliceBounds ae n c (lo.map a.eval) (hi.map a.eval) ad).run P J.w=.ok (p,q,c) J.w/\p=(l.getD 0).toNat/\q=r.toNat/\p<=q/\q<=c:=by
      rcases Yt M Z with⟨_,q⟩|⟨S,i2,e2,E⟩
      .cases q
      cases E;have b2:0<=r/\r<=(c:Int):=⟨by omega,by omega⟩;rcases Yt M Y with⟨U,q⟩|⟨k1,i1,U,T⟩
      .subst q;refine⟨0,r.toNat, ?_,rfl,rfl,Nat.zero_le _,by omega⟩;rw[U,e2];simp[Instr.sliceBounds,Instr.sliceBound,asIntOf,b2]
      .subst T;simp only[Option.getD_some]at z c2;have b1:0<=i1/\i1<=(r.toNat:Int):=⟨z,by omega⟩;refine⟨i1.toNat,r.toNat, ?_,rfl,rfl,by omega,by omega⟩;rw[U,e2];simp[Instr.sliceBounds,Instr.sliceBound,asIntOf,b1,b2];omega
     obtain⟨p,q,hb,rfl,rfl,hpq,hqc⟩:=hbd;refine Zk (v:=.slice (if c=(l.getD 0).toNat then A else A.map (·.add ((l.getD 0).toNat*R))) (r.toNat - (l.getD 0).toNat) (c - (l.getD 0).toNat)) ok ?_ ?_
     .have zB:(Instr.sliceAt t (a.eval x) (lo.map a.eval) (hi.map a.eval) ad).run P J.w=.ok (.slice (if c=(l.getD 0).toNat then A else A.map (·.add ((l.getD 0).toNat*R))) (r.toNat - (l.getD 0).toNat) (c - (l.getD 0).toNat)) J.w:=by
       rw[Q];simp[Instr.sliceAt,Instr.slice,run_underlying X,hb,ZV S,k1]
      simp[execOp,ho,zB]
     .exact RJ h2 h3 h4 G.2 h6 hpq hqc
    .cases h
   .cases h
  .cases h
 .rename_i n e id off yQ l r W X f Y Z;split at h
  .rename_i dd j;split at h
   .rename_i C1 off' n' s xs hs2 hg;split at h
    .rename_i y;simp only[yi,yP]at y;obtain⟨⟨⟨rfl,S⟩,k3⟩,k4⟩:=y;cases h;obtain⟨z,c2⟩:=Zl.1 hc;obtain⟨z,c3⟩:=Zl.1 z;have:=SH ok M ho X f Y Z j hg z c3.1 S k3 k4 c2
     have U:J.H.set id (.var dd af)=J.H:=by
      obtain⟨h1,h2⟩:=yu.1 j;rw[<-h2,List.set_getElem_self]
     grind
    .cases h
   .cases h
  .cases h
 .cases h
theorem ZCx(ok:Ok J)(I:aC J ts a)(h:cU P o ts J.H hs=ab (C,d,H',hs'))(hc:aX C):YD P o a J d H':=by
 unfold cU at h;split at h
 .rename_i x F;have hv:=Zo (P:=P) I o.type x;split at h
  .rename_i t' A;split at h
   .split at h
    .rename_i e s M R;rw[R]at hv;split at h
     .rename_i i Q;split at h
      .cases h;obtain⟨to,ok'⟩:=Wv (J':={ J with m:=J.m++[ad],H:=J.H++[.log i.size e []]}) ok rfl rfl rfl rfl (World.grownBy.refl J.w ad) (.inl rfl) (λ_=>.inl ⟨rfl,rfl⟩);refine ZJ (J':={ J with m:=J.m++[ad],H:=J.H++[.log i.size e []]}) (v:=.slice ad 0 0) (by simp[execOp,F,nD hv]) to ok' ?_;rw[Zh rfl];simp only[yH];refine⟨λ_ R=>(by cases R),ad,0,rfl,yl _,by simp[maxLen],Yg _,λ_=>rfl,λh=>absurd rfl h,e,[],by simp,yl _,λ_=>.inl ⟨?_,rfl,rfl⟩⟩;rw[yaq (by rw[ok.len];exact yl _),ok.len];simp
      .cases h
     .cases h
    .cases h
   .cases h
  .rename_i t' A;split at h
   .split at h
    .rename_i e s M R;rw[R]at hv;split at h
     .rename_i i Q;split at h
      .cases h;let J':Sg:={ J with m:=J.m++[ad],H:=J.H++[.row 0 i.size ae e (.p (.arr 0 i.size []))]}
       have hmlast:J'.m[J.H.length]? =ab ad:=by
        show(J.m++[ad])[J.H.length]? =_;rw[yaq (by rw[ok.len];exact yl _),ok.len];simp
       obtain⟨to,ok'⟩:=Wv (J':=J') ok rfl rfl rfl rfl (World.grownBy.refl J.w ad) (.inl rfl) (λ_=>⟨0,by simp[aR],.inl ⟨rfl,rfl⟩⟩);refine ZJ (J':=J') (v:=.slice ad 0 0) (by simp[J',execOp,F,nD hv]) to ok' ?_;rw[Zh rfl];simp only[yH];exact⟨ad,0,rfl,yl _,by simp[maxLen],λ_=>rfl,λh=>absurd h (Nat.lt_irrefl _),0,i.size,ae,e,.p (.arr 0 i.size []),by simp[J'],yl _,λ_=>⟨rfl,.inl ⟨hmlast,rfl,rfl⟩⟩⟩
      .cases h
     .cases h
    .cases h
   .cases h
  .rename_i t' A;split at h
   .exact TQ ok I (by simp[execOp,F]) h hc
   .cases h
  .cases h
 .rename_i x F;split at h
  .rename_i t' A;split at h
   .exact TQ ok I (by simp[execOp,F]) h hc
   .cases h
  .cases h
 .rename_i t l c F;split at h
  .rename_i e n n' M X hcp;split at h
   .rename_i i A Q;split at h
    .rename_i j;simp only[yi,yE]at j;cases h;exact ZCu ok I F M X hcp Q j.1 j.2 hc.1 hc.2.1 hc.2.2.1 hc.2.2.2.1
    .cases h
   .rename_i i A Q;split at h
    .rename_i j;simp only[yi,yE]at j;cases h;exact ZCv ok I F M X hcp Q j.1 hc.1 hc.2.1 hc.2.2.1 hc.2.2.2.1
    .cases h
   .rename_i i A Q;split at h
    .rename_i z hz;split at h
     .rename_i j;simp only[yi,yP,Bool.not_eq_true']at j;cases h;exact Zzo ok I F M X hcp Q j.1.1.1 j.1.1.2 hz j.1.2 j.2 hc.1 hc.2.1 hc.2.2.1 hc.2.2.2.1
     .cases h
    .cases h
   .cases h
  .cases h
 .rename_i t F;cases h;exact ZCt ok F
 .rename_i t m k x F;split at h
  .rename_i kt et id M R;split at h
   .rename_i kk v t' bR l A j hv S;split at h
    .rename_i hkt;cases h;exact Zw3 ok I F M R j hv S hkt hc.1 hc.2.1 hc.2.2.1
    .cases h
   .cases h
  .cases h
 .rename_i t F;split at h
  .rename_i i Q;split at h
   .split at h
    .rename_i j;simp only[yi]at j;cases h;exact TY (ZHg ok F Q (by obtain⟨z,hz,_⟩:=lf j.1.1;rw[hz];rfl) j.1.2 j.2) _
    .cases h
   .cases h
  .cases h
 .rename_i t x F;have hv:=Zo (P:=P) I t x;split at h
  .split at h
   .rename_i j;cases h;refine TY (ZLm ok F j ?_) _;unfold ng;split
    .rename_i y hy;exact ZCe hy hv
    .exact hv
   .cases h
  .cases h
 .rename_i t x y F;split at h
  .rename_i id off yQ R;split at h
   .rename_i dd S;split at h
    .rename_i C1 off' sub A hg;split at h
     .rename_i new hn;split at h
      .rename_i d' hp;split at h
       .rename_i j;simp only[yi,yT]at j;obtain⟨⟨⟨⟨Y,k2⟩,k3⟩,k4⟩,k5⟩:=j;split at h
        .cases h;obtain⟨T,Z⟩:=Zl.1 hc;exact ZuW (ZHi ok I F R S hg T Z.1 hn hp Y k2 k3 k4) S _
        .cases h
       .cases h
      .cases h
     .cases h
    .cases h
   .cases h
  .rename_i id v off yQ R;split at h
   .rename_i v' s e dd S;split at h
    .rename_i C1 off' sub A hg;split at h
     .rename_i new hn;split at h
      .rename_i d' hp;split at h
       .rename_i j;simp only[yi,yT]at j;obtain⟨⟨⟨⟨⟨⟨Y,k2⟩,k3⟩,k4⟩,k5⟩,k6⟩,k7⟩:=j;cases h;obtain⟨T,Z⟩:=Zl.1 hc;exact Zw5 ok I F R S k6 hg T Z.1 hn hp Y k2 k3 k4 k7
       .cases h
      .cases h
     .cases h
    .cases h
   .cases h
  .cases h
 .rename_i t len parts F;split at h
  .rename_i id A;split at h
   .rename_i e v s st e' dd M S;split at h
    .rename_i i xs Q X;split at h
     .rename_i j;simp only[yi,yE,yP,yT]at j;obtain⟨⟨j,rfl⟩,rfl⟩:=j;cases h;exact Zzq ok I F M Q j.1.1 j.1.2 j.2 X S
     .cases h
    .cases h
   .cases h
  .rename_i A;split at h
   .rename_i e M;split at h
    .rename_i i xs Q X;split at h
     .rename_i j;simp only[yi,yE,yP]at j;cases h;exact ZCw ok I F M Q j.1.1 j.1.2 j.2 X
     .cases h
    .cases h
   .cases h
  .rename_i A;split at h
   .rename_i e M;split at h
    .rename_i i xs Q X;split at h
     .rename_i j;simp only[yi,yE,yP]at j;cases h;exact Ve (ZCj ok I F M Q j.1.1 j.1.2 j.2 X) (Wk.nw (by rw[<-Pl.cG];exact cK _)) (bX.append (bX.refl _) (.cons (.log (by rw[<-Pl.cG];exact cK _)) .nil))
     .cases h
    .cases h
   .cases h
  .cases h
 .rename_i t x lo Q F;split at h
  .rename_i n e id off yQ l r M R X hr;split at h
   .rename_i A;split at h
    .rename_i dd st S;split at h
     .rename_i C1 off' n' s xs hs2 hg;split at h
      .rename_i j;simp only[yi,yP]at j;obtain⟨⟨⟨rfl,k2⟩,k3⟩,k4⟩:=j;cases h;obtain⟨T,Z⟩:=Zl.1 hc;obtain⟨T,c3⟩:=Zl.1 T;exact SH ok I F M R X hr S hg T c3.1 k2 k3 k4 Z
      .cases h
     .cases h
    .cases h
   .cases h
  .rename_i e id v s lo' n l r M R X hr;split at h
   .rename_i A;split at h
    .rename_i v' s' e' N s2 xs S;split at h
     .rename_i j;simp only[yi,yT,yE,yP]at j;obtain⟨⟨⟨⟨⟨⟨⟨Y,k2⟩,k3⟩,k4⟩,k5⟩,k6⟩,k7⟩,k8⟩:=j;simp only[yn,yq]at h;obtain⟨rfl,rfl,rfl,rfl⟩:=h;subst k3;subst k4;subst k5;subst k7
      have hR:bG P o ts J.H (.raw::A)=ab ([0<=l.getD 0,l.getD 0<=r,0+r.toNat<=N],.rv id v' s2 (0+(l.getD 0).toNat) (r.toNat - (l.getD 0).toNat),A):=by
       unfold bG;rw[F];dsimp only;rw[M,R,X,hr];dsimp only;rw[S];simp[aR,Y,k2,k6]
      have:=UB ok I F hR ⟨by rw[k8];omega,by rw[k8];exact hc.1,by rw[yar];exact hc.2.1,aB⟩;rw[k8]at this;exact Ve this (Wk.of_eq (by simp)) (bX.ej S (.shr hc.2.1))
     .cases h
    .cases h
   .cases h
  .cases h
 .rename_i c F;split at h
  .rename_i U;split at h
   .rename_i x y t u W G;split at h
    .rename_i e id nn s xs M R;split at h
     .rename_i i C1 ys A s' e' zs Q E S;split at h
      .rename_i j;simp only[yi,yE,yP]at j;obtain⟨⟨⟨⟨Y,k2⟩,rfl⟩,rfl⟩,k5⟩:=j;cases h;obtain⟨T,rfl,Z,c3,_⟩:=Zl.1 hc;exact ZuS ok I F U W G M R Q Y k2 k5 (uR ok I E T) S Z c3
      .cases h
     .cases h
    .rename_i e s M R;split at h
     .rename_i A i ys Q E;split at h
      .rename_i j;simp only[yi,yE]at j;cases h;exact ZuR ok I F U W G M R Q j.1 j.2 E hc.1 hc.2.1
      .cases h
     .rename_i A i ys Q E;split at h
      .rename_i j;simp only[yi,yE]at j;cases h;exact ZsE ok I F U W G M R Q j.1 j.2 (oS (P:=P) I E) hc.1 hc.2.1
      .cases h
     .cases h
    .rename_i e id v s lo n M R;split at h
     .rename_i hs0;split at h
      .rename_i i C1 ys A Q E;split at h
       .rename_i j;cases h;obtain⟨T,rfl,_⟩:=Zl.1 hc;exact ZsF ok I F U W G M R Q (uR ok I E T)
       .cases h
      .cases h
     .rename_i hs0;split at h
      .rename_i i C1 ys A v' s' st' e' N s'' xs Q E S;split at h
       .rename_i j;simp only[yi,yE,yP,yT]at j;obtain⟨⟨⟨⟨⟨⟨⟨Y,rfl⟩,rfl⟩,rfl⟩,rfl⟩,k5⟩,rfl⟩,rfl⟩:=j;cases h;obtain⟨T,cc⟩:=Zl.1 hc;have Z:=cc.1;have c3:=cc.2.1;have c4:=cc.2.2.1;have c5:=cc.2.2.2.1;exact UA ok I c5 F U W G M R Q Y k5 (uR ok I E T) S Z c3 c4
       .cases h
      .cases h
     .rename_i hs0;split at h
      .rename_i i C1 ys A v' s' e' N s'' xs Q E S;split at h
       .rename_i j;simp only[yi,yE,yP,yT]at j;obtain⟨⟨⟨⟨⟨⟨⟨Y,rfl⟩,rfl⟩,rfl⟩,rfl⟩,k5⟩,rfl⟩,rfl⟩:=j;cases h;obtain⟨T,cc⟩:=Zl.1 hc;exact ZsG ok I F U W G M R Q Y k5 (uR ok I E T) S cc.1 cc.2.1
       .cases h
      .cases h
     .cases h
    .cases h
   .cases h
  .rename_i U;split at h
   .rename_i x t W G;split at h
    .rename_i e id v s lo n M R;split at h
     .rename_i i z v' s' e' N s'' xs Q hz S;split at h
      .rename_i j;simp only[yi,yE,yP,yT]at j;obtain⟨⟨⟨⟨⟨⟨Y,rfl⟩,rfl⟩,rfl⟩,rfl⟩,k5⟩,k6⟩:=j;cases h;obtain⟨rfl,hc1,_⟩:=hc;exact Ve (Zw6 ok I F U W G M R Q Y k5 hz k6 S hc1) (Wk.refl _) (bX.bE _ _ (.row ⟨Wk.p (bI.jy (bi.bE (lX z) _ _)),rfl⟩))
      .cases h
     .cases h
    .cases h
   .cases h
  .rename_i U;split at h
   .rename_i x y t u W G;split at h
    .rename_i e id off yQ s lo n M R;split at h
     .rename_i ys dd E S;split at h
      .rename_i C1 off' N s' xs A hg;split at h
       .rename_i dd' hp;split at h
        .rename_i j;simp only[yi,yP]at j;obtain⟨⟨rfl,k2⟩,k3⟩:=j;cases h;obtain⟨T,Z⟩:=Zl.1 hc;exact ZJC ok I F U W G M R E S hg T Z.1 hp k2 k3 Z.2.1 Z.2.2.1
        .cases h
       .cases h
      .cases h
     .cases h
    .cases h
   .cases h
  .rename_i f U;split at h
   .rename_i g cap r Hc ids A hf;split at h
    .rename_i j;simp only[yi,yT,yP]at j;split at h
     .rename_i args' Hin r' Hb W hin hr hb;cases h;exact uQ ok I F U hf j.1.1.1 j.1.1.2 j.1.2 j.2 W hin hr hb hc.1
     .cases h
    .cases h
   .cases h
  .rename_i recv name U;split at h
   .rename_i t x g r Hc ids A hf;split at h
    .rename_i j;simp only[yi,yT,yP]at j;split at h
     .rename_i args' Hin r' Hb W hin hr hb;cases h;exact ZuT ok I F U hf j.1.1.1 j.1.1.2 j.1.2 j.2 W hin hr hb hc.1 hc.2.1
     .cases h
    .cases h
   .cases h
  .cases h
 .cases h
theorem Yl(ok:Ok J)(j:aC J ts a)(h:cC P o ts J.H hs=ab (C,d,H',hs'))(hc:aX C):YD P o a J d H':=by
 unfold cC at h;split at h
 .rename_i C1 d1 m f;cases h;exact ZCp ok j f hc
 .split at h
  .rename_i C1 d1 m f;cases h;have l:=f;unfold bG at l;split at l
   .rename_i t x g;exact ZJB ok j g f hc
   .rename_i t x lo A g;exact UB ok j g f hc
   .rename_i t x ix y g;exact ZD4 ok j g f hc
   .rename_i c g;split at l
    .rename_i z;exact ZD5 ok j g z f hc
    .cases l
   .cases l
  .exact ZCx ok j h hc
theorem kz{J':Sg}{v:yh}(g:aC J' ts a)(hd:yJ J' d v):aC J' (fL ts o.dst d) (a.put o.dst v):=by
 unfold fL Act.put
 cases o.dst with
 |none=>exact g
 |some t=>
  refine⟨by simpa using g.size,λi e f=> ?_,g.defers⟩;rw[ybx]at f;split at f
  .rename_i h;subst h;split at f
   .rename_i j;cases f;have:t < a.tmps.size:=by rw[g.size];exact j
    simpa[Array.getD,this] using hd
   .cases f
  .rename_i h;have:=g.at_ i e f;simpa[Array.getD_eq_getD_getElem?,Array.getElem?_setIfInBounds,h] using this
theorem UC{v:yh}{J':Sg}{dst:yO Tmp}(hc:aX (jd dst d hs).1)(hd:yJ J' d v):yJ J' (jd dst d hs).2.1 v:=by
 exact hd
theorem UD{J':Sg}:yJ J' (.bm []) undef:=by
 rw[Zh rfl];simp only[yH];exact⟨#[],rfl,by simp[aH]⟩
theorem uT{ops:Array yj}(ok:Ok J)(g:aC J ts a)(h:dh P ops o ts J.H hs=ab (C,d,H',hs'))(hc:aX C)(K:Act->yr->Prop)(Q:Exit->Act->yr->Prop)
 (M:∀v J',J'.H=H'->To J J'->Ok J'->aC J' (fL ts o.dst d) (a.put o.dst v)->K (a.put o.dst v) J'.w):
 if Region.wanted o (yielded ops a.tmps) then o.wp P a J.w K Q else K (a.put o.dst undef) J.w:=by
 unfold dh at h;split at h
 .rename_i A;simp only[yv,yq]at h;obtain⟨⟨C1,d1,H1,E⟩,l,rfl,rfl,rfl,rfl⟩:=h;obtain⟨S,T⟩:=Zl.1 hc;have m:Region.wanted o (yielded ops a.tmps)=ae:=by simp[Region.wanted,A]
  rw[yW m];exact Yl ok g l S K Q λv J' U to y W=>M v J' U to y (kz (g.to to.leaf) (UC T W))
 .rename_i j want A;split at h
  .rename_i t β E F
   have R:yielded ops a.tmps j=ab t:=by
    unfold yielded;simp only[yv]at F;obtain⟨z,l,G⟩:=F;rw[l];simp only[Option.bind_some]
    have f:z < ts.length:=by
     all_goals grind
    have X:=g.at_ z (.p (.bool t)) (by
     have:=yab f;simp only[List.getD,this,Option.getD_some]at G;rw[this,G])
    have Y:=Yh X;have I:z < a.tmps.size:=by rw[g.size];exact f
    simp_all
   split at h
   .rename_i hb;simp only[yv,yq]at h;obtain⟨⟨C1,d1,H1,hs2⟩,l,rfl,rfl,rfl,rfl⟩:=h;obtain⟨Z,hc'⟩:=hc;obtain⟨S,T⟩:=Zl.1 hc';have m:Region.wanted o (yielded ops a.tmps)=ae:=by simp[Region.wanted,A,R,Z,hb]
    rw[yW m];exact Yl ok g l S K Q λv J' U to y W=>M v J' U to y (kz (g.to to.leaf) (UC T W))
   .rename_i hb;cases h;have Z:t=β:=hc.1
    have m:Region.wanted o (yielded ops a.tmps)=af:=by
     simp only[Region.wanted,A,R,Z];grind
    rw[m];exact M undef J rfl (To.refl J) ok (kz g UD)
  .rename_i E F;cases h
   have R:yielded ops a.tmps j=ad:=by
    unfold yielded;simp only[yv]at F;obtain⟨z,l,G⟩:=F;rw[l];simp only[Option.bind_some]
    have f:z < ts.length:=by
     all_goals grind
    have X:=g.at_ z (.bm []) (by
     have:=yab f;simp only[List.getD,this,Option.getD_some]at G;rw[this,G])
    have Y:=X.2 rfl;simp only[yH]at Y;obtain⟨cs,h5,h6⟩:=Y;have I:z < a.tmps.size:=by rw[g.size];exact f
    simp_all
   have m:Region.wanted o (yielded ops a.tmps)=af:=by
    simp only[Region.wanted,A,R];grind
   rw[m];exact M undef J rfl (To.refl J) ok (kz g UD)
  .cases h
theorem UE{ops:Array yj}(Q:Exit->Act->yr->Prop){ts':yL Dv}:∀(l:yL yj)(k:Nat)(ts:yL Dv)(J:Sg)(a:Act)(hs hs':yL ao)(C:yL Prop)(H':yL aq),
 (∀j,l[j]? =ops[k+j]?)->Ok J->aC J ts a->cz P ops l ts J.H hs=ab (C,ts',H',hs')->aX C->
 (∀m J',J'.H=H'->To J J'->Ok J'->aC J' ts' m->Q .normal m J'.w)->wpOps P ops Q (List.range' k l.length) a J.w
 |[],k,ts,J,a,hs,hs',C,H',_,y,z,h,R,A=>by
  simp only[cz,yn,yq]at h;obtain⟨rfl,rfl,rfl,rfl⟩:=h
  exact A a J rfl (To.refl J) y z
 |o::l,k,ts,J,a,hs,hs',C,H',S,y,z,h,R,A=>by
  simp only[cz]at h;split at h
  .rename_i C1 d1 H1 E T;split at h
   .rename_i C2 U H2 W X;cases h;obtain⟨Y,Z⟩:=Zl.1 R;have h0:ops[k]? =ab o:=by simpa using(S 0).symm
    simp only[yag,List.range'_succ,wpOps,h0]
    have key:=uT (P:=P) (ops:=ops) y z T Y (wpOps P ops Q (List.range' (k+1) l.length)) Q (λv J1 e1 F G f=>by
     subst e1
     exact UE Q l (k+1) _ J1 _ E _ C2 _ (λj=>by have:=S (j+1);simpa[Nat.add_assoc,Nat.add_comm 1 j] using this) G f X Z
      (λm J' e2 I M g=>A m J' e2 (F.trans I) M g))
    all_goals grind
   .cases h
  .cases h
end
end Go.Ev
end
section
namespace Go.Ev
section
variable{P:yg}{o:yj}{ts:yL Dv}{H H' H2:yL aq}{hs hs':yL ao}{C:yL Prop}{d:Dv}
theorem ZD6{id:Nat}(h:oM P o ts=ab id)(M:kq o=af)(e:dE (H[id]?)=dE (H2[id]?)):bG P o ts H2 hs=bG P o ts H hs:=by
 unfold oM at h;unfold bG
 cases l:o.op with
 |load t a=>
  simp only[l]at h ⊢
  cases j:aF P ts 0 a with
  |ak i off Q=>
   simp only[j,yn]at h;subst h;simp only
   cases g:H[i]? with
   |none=>
    rw[g]at e
    cases f:H2[i]? with
    |none=>rfl
    |some x=>rw[f]at e;cases x <;> simp[dE]at e
   |some y=>
    rw[g]at e
    cases f:H2[i]? with
    |none=>rw[f]at e;cases y <;> simp[dE]at e
    |some x=>
     rw[f]at e
     cases x <;> cases y <;> simp_all[dE]
  |aZ i v off Q=>
   simp only[j,yn]at h;subst h;simp only
   cases g:H[i]? with
   |none=>
    rw[g]at e
    cases f:H2[i]? with
    |none=>rfl
    |some x=>rw[f]at e;cases x <;> simp[dE]at e
   |some y=>
    rw[g]at e
    cases f:H2[i]? with
    |none=>rw[f]at e;cases y <;> simp[dE]at e
    |some x=>
     rw[f]at e
     cases x <;> cases y <;> simp_all[dE]
  |_=>simp[j]at h
 |lookup t x ix R=>
  simp only[l]at h ⊢
  cases j:aF P ts t x with
  |mp i=>
   simp only[j,yn]at h;subst h
   have m:H2[i]? =H[i]? \/((∃d1 s1,H[i]? =ab (.var d1 s1))/\∃d2 G,H2[i]? =ab (.var d2 G))\/((∃z s1 t1 A d1,H[i]? =ab (.row z s1 t1 A d1))/\∃z s1 t1 A d1,H2[i]? =ab (.row z s1 t1 A d1)):=by
    cases g:H[i]? with
    |none=>
     rw[g]at e
     cases f:H2[i]? with
     |none=>exact .inl rfl
     |some x=>rw[f]at e;cases x <;> simp[dE]at e
    |some y=>
     rw[g]at e
     cases f:H2[i]? with
     |none=>rw[f]at e;cases y <;> simp[dE]at e
     |some x=>
      rw[f]at e;cases x <;> cases y <;> simp_all[dE]
   cases P.underlying t with
   |none=>rfl
   |some u=>
    cases u with
    |map I S=>
     dsimp only;rcases m with m|⟨⟨d1,s1,E⟩,d2,G,F⟩|⟨⟨_,_,_,_,_,E⟩,_,_,_,_,_,F⟩
     .rw[m]
     .rw[E,F];cases aF P ts I ix <;> rfl
     .rw[E,F]
      cases aF P ts I ix <;> rfl
    |_=>rfl
  |_=>simp[j]at h
 |slice t x lo T U=>simp[kq,l]at M
 |_=>simp[l]at h
def fT(o:yj)(x:yO aq):yO aq:=if kq o=ae then x else dE x
theorem ZJD{id:Nat}(h:oM P o ts=ab id)(e:fT o (H[id]?)=fT o (H2[id]?)):bG P o ts H2 hs=bG P o ts H hs:=by
 unfold fT at e
 cases f:kq o with
 |false=>
  rw[f]at e
  exact ZD6 h f (by simpa using e)
 |true=>
  rw[f,yW rfl,yW rfl]at e;unfold kq at f;split at f
  .rename_i t x lo j y g;unfold oM at h;rw[g]at h;unfold bG;rw[g]
   cases y with
   |some m=>simp at h
   |none=>
    dsimp only at h ⊢;split at h
    .rename_i i off E z;cases h;rw[z]
     cases P.underlying t with
     |none=>rfl
     |some u=>
      cases gv P ts lo with
      |none=>cases u <;> rfl
      |some l=>
       cases gv P ts j with
       |none=>cases u <;> rfl
       |some F=>
        cases hs with
        |nil=>cases u <;> rfl
        |cons A G=>cases u <;> cases A <;> first|rfl|(dsimp only;rw[e])
    .cases h
  .cases f
theorem ZCy{H:yL aq}{x:aq}{i:Nat}(hi:i < H.length):dE ((H++[x])[i]?)=dE (H[i]?):=by
 grind
theorem CA{H:yL aq}{x:aq}{i id:Nat}(h:¬id=i):dE ((H.set id x)[i]?)=dE (H[i]?):=by
 grind
theorem UF{H:yL aq}{dd:Dv}{i id:Nat}(f:∃st,H[id]? =ab (.var dd st)):dE ((H.set id (.var dd af))[i]?)=dE (H[i]?):=by
 obtain⟨st,h⟩:=f;by_cases e:id=i
 .subst e;rw[ybx,yW rfl,yW (yu.1 h).1,h];rfl
 grind
theorem ZD7{H:yL aq}{dd:Dv}{v s:Nat}{e:yc}{i id:Nat}(f:∃st,H[id]? =ab (.row v s st e dd)):dE ((H.set id (.row v s af e dd))[i]?)=dE (H[i]?):=by
 obtain⟨st,h⟩:=f;by_cases e:id=i
 .subst e;rw[ybx,yW rfl,yW (yu.1 h).1,h];rfl
 grind
theorem UG:∀(ids:yL Nat)(H Hb:yL aq){i:Nat},i < H.length->ids.contains i=af->dE ((aw H ids Hb)[i]?)=dE (H[i]?)
 |[],H,Hb,i,f,_=>by
  simp only[aw]
  grind
 |_::_,H,[],i,f,_=>by simp only[aw]
 |id::r,H,e::Hb,i,f,h=>by
  simp only[List.contains_cons,Bool.or_eq_false_iff,beq_eq_false_iff_ne]at h;simp only[aw];rw[UG r (H.set id e) Hb (by simpa using f) h.2];grind
theorem ZD8{dv:Dv}{i:Nat}(h:jv dv H hs=ab (C,d,H',hs')):dE (H'[i]?)=dE (H[i]?):=by
 unfold jv at h
 repeat' split at h
 all_goals first
  |(cases h;done)
  |(cases h
    first
     |exact UF ⟨_,by assumption⟩
     |(rename_i f
       simp only[yi,yP,yT]at f;obtain⟨⟨rfl,rfl⟩,rfl⟩:=f;exact ZD7 ⟨_,by assumption⟩))
theorem UH{l:yL Nat}{i:Nat}(h:cU P o ts H hs=ab (C,d,H',hs'))(ht:kp P o ts hs=ab l)(hi:i < H.length)(hl:l.contains i=af):dE (H'[i]?)=dE (H[i]?):=by
 unfold cU at h
 repeat' (first|split at h|(dsimp only at h;split at h))
 all_goals first
  |(cases h;done)
  |exact ZD8 h
  |(cases h
    first
     |rfl
     |exact ZCy hi
     |(rw[ybe hi];done)
     |exact UF ⟨_,by assumption⟩
     |(rw[ybe (by simpa using hi)]
       refine CA ?_;rintro rfl;simp_all[kp]
       exact hl (by rw[<-ht];simp))
     |(refine UG _ _ _ hi ?_
       simp_all[kp])
     |(refine CA ?_
       simp_all[kp]
       done)
     |(refine CA ?_
       rintro rfl;simp_all[kp];exact hl (by rw[<-ht];simp)))
end
end Go.Ev
end
